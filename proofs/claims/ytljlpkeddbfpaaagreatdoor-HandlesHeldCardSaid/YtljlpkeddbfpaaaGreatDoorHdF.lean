/- Write of a tree walked, where it writes. -/
import Derived.Test.YtljlpkeddbfpaaaGreatDoorHdE
namespace Go.Proofs.YtljlpkeddbfpaaaGreatDoor.Hd
open Go.RowKit Go.Maps Go.Proofs.YtljlpkeddbfpaaaGreatDoor Go.Proofs.YtljlpkeddbfpaaaGreatDoor.Hp
set_option linter.unusedVariables false
attribute [local go_sem] Oper.semAt_some

set_option maxRecDepth 100000 in
set_option maxHeartbeats 800000 in
theorem Write_go (fb mb : Nat) (F : Fs) (k : Int) (a : Nat) (x : Nd) (d : ByteArray) (hk : I64 k) (ha : a ≤ 1000000000) (hd : d.size ≤ 1000000000) (hs : FsOk F) (hx : find F.L k = some x) (h2 : x.kind = 2) (hu : 0 ≤ F.used ∧ F.used ≤ 1000000000) (hr : 0 ≤ F.room ∧ F.room ≤ 1000000000) (hb1 : ¬ 4096 < a) (hb2 : ¬ 4096 - a < d.size) (hz : ¬ d.size = 0) (hro : ¬ F.room - F.used < (moreB x.text a d : Int)) (w : World) (R : Hp) (h : Sat w (fsHp fb mb F * R)) :
    Calls Tryz.prog 14 #[pp fb, .int .i64 k, .int .i64 a, .string d] w fun e w' => (e = .returned (.int .i64 (writeP F k x a d).1) ∧ Sat w' (fsHp fb mb (writeP F k x a d).2 * R)) ∧ Ran w w' := by
  have HT := text_calls fb mb F k hk w R h
  have hd1 : x.kind ≠ 1 := by omega
  rw [(textE_ok hx hd1).1, (textE_ok hx hd1).2] at HT
  unfold pv at HT
  have HT := Lib.hid HT
  have h1 := (hs k x hx).text
  have hxx := fs_at h hx
  rw [h2] at hxx
  obtain ⟨d0, d1, -⟩ := hxx
  have H0 := Lib.hid h
  have ha0 : (0 : Int) ≤ (a : Int) := by omega
  have haI : (a : Int) ≤ 1000000000 := by omega
  have hd0 : (0 : Int) ≤ (d.size : Int) := by omega
  have hdI : (d.size : Int) ≤ 1000000000 := by omega
  have h1I : (x.text.size : Int) ≤ 1000000 := by omega
  unfold writeP
  rw [if_neg (by omega), if_neg hz, if_neg hro]
  have hb1I : (a : Int) ≤ 4096 := by omega
  have hb2I : (d.size : Int) ≤ (4096 : Int) - a := by omega
  have hzl : d.toList.isEmpty = false := by
    cases hl : d.toList with
    | nil => exact absurd (by rw [ByteArray.toList_eq] at hl; have := congrArg List.length hl; simpa using this) hz
    | cons y l => rfl
  obtain ⟨u0, u1⟩ := hu
  obtain ⟨r0, r1⟩ := hr
  have hmo : moreB x.text a d = a + d.size - x.text.size := rfl
  rw [hmo] at hro ⊢
  have hmax : max 0 ((a : Int) + (d.size : Int) - (x.text.size : Int)) = ((a + d.size - x.text.size : Nat) : Int) := by omega
  obtain ⟨c0, c1, c2, c3⟩ := fs_cells h
  have e1 : w.drew.cell? ⟨fb, 1, none⟩ = some (.int .i64 F.room) := c1
  have e2 : w.drew.cell? ⟨fb, 2, none⟩ = some (.int .i64 F.used) := c2
  have hwr : IntKind.i64.wrap (F.room - F.used) = F.room - F.used := IntWalk.i64_in _ (by omega)
  have hroI : ((a + d.size - x.text.size : Nat) : Int) ≤ F.room - F.used := by omega
  have HRp := Lib.hid (Tryz.strings_Repeat ⟨#[0]⟩ (a - x.text.size) w.drew (by omega) (by show 1 * (a - x.text.size) ≤ _; omega))
  clear hs h2 hd1
  go_enter Tryz.func14, Tryz.ntmps14
  go_wp2_with fail
  refine HT.out.mono ?_
  rintro e w1 ⟨rfl, rfl⟩
  go_wp2_with fail
  refine Go.Proofs.YtljlpkeddbfpaaaGreatDoor.region_plan (S := (fun w' => w'.cell? ⟨fb, 1, none⟩ = some (.int .i64 F.room) ∧ w'.cell? ⟨fb, 2, none⟩ = some (.int .i64 F.used))) [(0, true), (1, true), (2, true), (3, true), (4, true), (5, true), (6, true), (7, true), (8, true), (9, true), (10, true)] (by kernel_rfl) (by kernel_rfl) (by kernel_rfl) ?_ ?_
  · ((try dsimp only); (first | done | (exact ⟨e1, e2⟩)))
  simp only [Go.Proofs.YtljlpkeddbfpaaaGreatDoor.planOps, List.map_cons, List.map_nil, List.getElem?_toArray, List.getElem?_cons_zero, List.getElem?_cons_succ]
  repeat (first
    | ((refine Go.Proofs.YtljlpkeddbfpaaaGreatDoor.plan_yes (v := ?_) (by rfl) ?_ ?_); rotate_left; (focus (intro w hSw; (try dsimp only at hSw); go_simp; try (with_reducible rfl))); (try simp only [Act.put, List.setIfInBounds_toArray, List.set_cons_zero, List.set_cons_succ]))
    | ((refine Go.Proofs.YtljlpkeddbfpaaaGreatDoor.plan_no (by rfl) ?_); (try simp only [Act.put, List.setIfInBounds_toArray, List.set_cons_zero, List.set_cons_succ]))
    | ((refine Go.Proofs.YtljlpkeddbfpaaaGreatDoor.plan_step (fun K hK => ?_)); (first | (fail) | (go_simp; (fail); (try go_wp2_with fail)) | go_simp); (refine hK.out _ _ ?_ (fun hHeld => ?_)); (focus ((try dsimp only); (first | done | (exact ⟨e1, e2⟩)))); clear hK K; (try simp only [Act.put, List.setIfInBounds_toArray, List.set_cons_zero, List.set_cons_succ])))
  refine Go.Proofs.YtljlpkeddbfpaaaGreatDoor.plan_done ?_
  have d1' : w.drew.cell? ⟨x.b, 1, none⟩ = some (.string x.text) := d1
  go_wp2_with fail
  rw [show max (0 : Int) ((a : Int) - (x.text.size : Int)) = ((a - x.text.size : Nat) : Int) by omega]
  refine HRp.out.mono ?_
  rintro e w2 ⟨rfl, hB⟩
  have S2 := H0.out.drew.below hB
  have R2 := Lib.hid ((Ran.drewN (Below.refl 0 w) 1).trans (below_ran hB))
  obtain ⟨zs, hzs⟩ : ∃ z, z = zerosB (a - x.text.size) := ⟨_, rfl⟩
  rw [show (⟨(Lib.repeatL (⟨#[0]⟩ : ByteArray).data.toList (a - x.text.size)).toArray⟩ : ByteArray) = zs from hzs.symm]
  obtain ⟨X, S3, back⟩ := fs_node S2 hx
  obtain ⟨g0, g1, -⟩ := nd_cells S3
  have f0 : ∀ i, w2.frozen? ⟨x.b, i, none⟩ = false := fun i => free_at S3.get i
  obtain ⟨pa, hpa⟩ : ∃ p, p = min a x.text.size := ⟨_, rfl⟩
  obtain ⟨pe, hpe⟩ : ∃ p, p = min (a + d.size) x.text.size := ⟨_, rfl⟩
  have hmin : min (a : Int) (x.text.size : Int) = (pa : Int) := by omega
  have hmin2 : min ((a : Int) + (d.size : Int)) (x.text.size : Int) = (pe : Int) := by omega
  have hp1n : pa ≤ x.text.size := by omega
  have hp2n : pe ≤ x.text.size := by omega
  have hs1 : (x.text.extract 0 pa).size ≤ 1000000 := by rw [ByteArray.size_extract]; omega
  have hs2 : zs.size ≤ 4096 := by
    rw [hzs]
    show (Lib.repeatL [0] (a - x.text.size)).toArray.size ≤ 4096
    rw [List.size_toArray, Lib.repeatL_length]
    show (a - x.text.size) * 1 ≤ 4096
    omega
  have hs3 : (x.text.extract pe x.text.size).size ≤ 1000000 := by rw [ByteArray.size_extract]; omega
  obtain ⟨y1, hy1⟩ : ∃ y, y = x.text.extract 0 pa ++ zs := ⟨_, rfl⟩
  have hz1 : y1.size ≤ 1004096 := by rw [hy1, ByteArray.size_append]; omega
  obtain ⟨y2, hy2⟩ : ∃ y, y = y1 ++ d := ⟨_, rfl⟩
  have hz2 : y2.size ≤ 1010000 := by rw [hy2, ByteArray.size_append]; omega
  obtain ⟨tt, htt⟩ : ∃ t, t = y2 ++ x.text.extract pe x.text.size := ⟨_, rfl⟩
  have hadd1 : ∀ W : World, (Op.stringOp .add (x.text.extract 0 pa) zs).run Tryz.prog W = .ok (.string y1) W := fun W => by rw [hy1]; exact run_string_add_sum (P := Tryz.prog) W _ _ (by omega)
  have hadd2 : ∀ W : World, (Op.stringOp .add y1 d).run Tryz.prog W = .ok (.string y2) W := fun W => by rw [hy2]; exact run_string_add_sum (P := Tryz.prog) W _ _ (by omega)
  have hadd3 : ∀ W : World, (Op.stringOp .add y2 (x.text.extract pe x.text.size)).run Tryz.prog W = .ok (.string tt) W := fun W => by rw [htt]; exact run_string_add_sum (P := Tryz.prog) W _ _ (by omega)
  obtain ⟨-, -, y2c, -⟩ := fs_cells S2
  have S2f := S2.perm (show _ = pts fb (fsO F mb) * (pmap mb (blk F.L) F.L.length F.n * nds F.L * R) by unfold fsHp; ac_rfl)
  have f2 : ∀ i, w2.frozen? ⟨fb, i, none⟩ = false := fun i => free_at S2f.get i
  have S4 := (back _ { x with text := tt } (F.put k { x with text := tt }) R rfl rfl rfl (S3.set (i := 1) (.string tt))).drew
  have S5 := used_back (u := F.used + ((a + d.size - x.text.size : Nat) : Int)) S4
  have hmoI : ((a + d.size - x.text.size : Nat) : Int) ≤ 4096 := by omega
  have hmo0 : (0 : Int) ≤ ((a + d.size - x.text.size : Nat) : Int) := by omega
  have htx : wrB x.text a d = tt := by unfold wrB; rw [htt, hy2, hy1, hzs, hpa, hpe]
  have S5 : Hid (Sat (((w2.setCell ⟨x.b, 1, none⟩ (.string tt)).drew).setCell ⟨fb, 2, none⟩ (.int .i64 (F.used + ((a + d.size - x.text.size : Nat) : Int)))) (fsHp fb mb { F.put k { x with text := wrB x.text a d } with used := F.used + ((a + d.size - x.text.size : Nat) : Int) } * R)) := Lib.hid (by rw [htx]; exact S5)
  clear hy1 hy2 htt hs1 hs2 hs3 hz1 hz2 c0 c1 c2 c3 e1 e2 d0 d1 d1' S2 S2f S3 S4 hB back hzs hpa hpe hx HRp HT h hz hmax hro hroI hwr r0 r1 hb1 hb2 htx hzl H0 g0
  go_upto_region 15 with fail
  go_still_tail 32, (by kernel_rfl)
  go_wp2_with fail
  go_ret
  exact ⟨⟨rfl, S5.out⟩, Ran.set (Ran.drewN (Ran.set R2.out _ _) 1) _ _⟩
theorem Write_calls (fb mb : Nat) (F : Fs) (k : Int) (a : Nat) (x : Nd) (d : ByteArray) (hk : I64 k) (ha : a ≤ 1000000000) (hd : d.size ≤ 1000000000) (hs : FsOk F) (hx : find F.L k = some x) (h2 : x.kind = 2) (hu : 0 ≤ F.used ∧ F.used ≤ 1000000000) (hr : 0 ≤ F.room ∧ F.room ≤ 1000000000) (w : World) (R : Hp) (h : Sat w (fsHp fb mb F * R)) :
    Calls Tryz.prog 14 #[pp fb, .int .i64 k, .int .i64 a, .string d] w fun e w' => (e = .returned (.int .i64 (writeP F k x a d).1) ∧ Sat w' (fsHp fb mb (writeP F k x a d).2 * R)) ∧ Ran w w' := by
  by_cases h0 : (writeP F k x a d).1 ≠ 0 ∨ d.size = 0
  · exact Write_no fb mb F k a x d hk ha hd hs hx h2 hu hr h0 w R h
  · have h1 : ¬ (writeP F k x a d).1 ≠ 0 := fun e => h0 (.inl e)
    have hz : ¬ d.size = 0 := fun e => h0 (.inr e)
    unfold writeP at h1
    split at h1
    · exact absurd (show (21 : Int) ≠ 0 by decide) h1
    rename_i hb
    split at h1
    · exact absurd (show (15 : Int) ≠ 0 by decide) h1
    rename_i hro
    exact Write_go fb mb F k a x d hk ha hd hs hx h2 hu hr (fun e => hb (.inl e)) (fun e => hb (.inr e)) hz hro w R h
end Go.Proofs.YtljlpkeddbfpaaaGreatDoor.Hd

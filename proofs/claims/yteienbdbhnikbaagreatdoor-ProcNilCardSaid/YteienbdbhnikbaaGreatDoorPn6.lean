/- HandlesPlays, part 6 of 18: the texts HdF HdG HdH, joined by a program. -/
import Derived.Test.YteienbdbhnikbaaGreatDoorPn5
namespace Go.Proofs.YteienbdbhnikbaaGreatDoor.Hd
open Go.RowKit Go.Maps Go.Proofs.YteienbdbhnikbaaGreatDoor Go.Proofs.YteienbdbhnikbaaGreatDoor.Hp
set_option linter.unusedVariables false
attribute [local go_sem] Oper.semAt_some

set_option maxRecDepth 100000 in
set_option maxHeartbeats 800000 in
theorem Write_go (fb mb : Nat) (F : Fs) (k : Int) (a : Nat) (x : Nd) (d : ByteArray) (hk : I64 k) (ha : a ≤ 1000000000) (hd : d.size ≤ 1000000000) (hs : FsOk F) (hx : find F.L k = some x) (h2 : x.kind = 2) (hu : 0 ≤ F.used ∧ F.used ≤ 1000000000) (hr : 0 ≤ F.room ∧ F.room ≤ 1000000000) (hb1 : ¬ 4096 < a) (hb2 : ¬ 4096 - a < d.size) (hz : ¬ d.size = 0) (hro : ¬ F.room - F.used < (moreB x.text a d : Int)) (w : World) (R : Hp) (h : Sat w (fsHp fb mb F * R)) :
    Calls Tryz.prog 187 #[pp fb, .int .i64 k, .int .i64 a, .string d] w fun e w' => (e = .returned (.int .i64 (writeP F k x a d).1) ∧ Sat w' (fsHp fb mb (writeP F k x a d).2 * R)) ∧ Ran w w' := by
  have HT := text_calls fb mb F k hk w R h
  have hd1 : x.kind ≠ 1 := by omega
  rw [(textE_ok hx hd1).1, (textE_ok hx hd1).2] at HT
  unfold pv at HT
  have HT := Lib.hid HT
  have h1 := (hs k x hx).text
  have hxx := fs_at h hx
  rw [h2] at hxx
  obtain ⟨d0, d1, -⟩ := hxx
  have H0 := Lib.hid h
  have ha0 : (0 : Int) ≤ (a : Int) := by omega
  have haI : (a : Int) ≤ 1000000000 := by omega
  have hd0 : (0 : Int) ≤ (d.size : Int) := by omega
  have hdI : (d.size : Int) ≤ 1000000000 := by omega
  have h1I : (x.text.size : Int) ≤ 1000000 := by omega
  unfold writeP
  rw [if_neg (by omega), if_neg hz, if_neg hro]
  have hb1I : (a : Int) ≤ 4096 := by omega
  have hb2I : (d.size : Int) ≤ (4096 : Int) - a := by omega
  have hzl : d.toList.isEmpty = false := by
    cases hl : d.toList with
    | nil => exact absurd (by rw [ByteArray.toList_eq] at hl; have := congrArg List.length hl; simpa using this) hz
    | cons y l => rfl
  obtain ⟨u0, u1⟩ := hu
  obtain ⟨r0, r1⟩ := hr
  have hmo : moreB x.text a d = a + d.size - x.text.size := rfl
  rw [hmo] at hro ⊢
  have hmax : max 0 ((a : Int) + (d.size : Int) - (x.text.size : Int)) = ((a + d.size - x.text.size : Nat) : Int) := by omega
  obtain ⟨c0, c1, c2, c3⟩ := fs_cells h
  have e1 : w.drew.cell? ⟨fb, 1, none⟩ = some (.int .i64 F.room) := c1
  have e2 : w.drew.cell? ⟨fb, 2, none⟩ = some (.int .i64 F.used) := c2
  have hwr : IntKind.i64.wrap (F.room - F.used) = F.room - F.used := IntWalk.i64_in _ (by omega)
  have hroI : ((a + d.size - x.text.size : Nat) : Int) ≤ F.room - F.used := by omega
  have HRp := Lib.hid (Tryz.strings_Repeat ⟨#[0]⟩ (a - x.text.size) w.drew (by omega) (by show 1 * (a - x.text.size) ≤ _; omega))
  clear hs h2 hd1
  go_enter Tryz.func187, Tryz.ntmps187
  go_wp2_with fail
  refine HT.out.mono ?_
  rintro e w1 ⟨rfl, rfl⟩
  go_wp2_with fail
  refine region_plan (S := (fun w' => w'.cell? ⟨fb, 1, none⟩ = some (.int .i64 F.room) ∧ w'.cell? ⟨fb, 2, none⟩ = some (.int .i64 F.used))) [(0, true), (1, true), (2, true), (3, true), (4, true), (5, true), (6, true), (7, true), (8, true), (9, true), (10, true)] (by kernel_rfl) (by kernel_rfl) (by kernel_rfl) ?_ ?_
  · ((try dsimp only); (first | done | (exact ⟨e1, e2⟩)))
  simp only [planOps, List.map_cons, List.map_nil, List.getElem?_toArray, List.getElem?_cons_zero, List.getElem?_cons_succ]
  repeat (first
    | ((refine plan_yes (v := ?_) (by rfl) ?_ ?_); rotate_left; (focus (intro w hSw; (try dsimp only at hSw); go_simp; try (with_reducible rfl))); (try simp only [Act.put, List.setIfInBounds_toArray, List.set_cons_zero, List.set_cons_succ]))
    | ((refine plan_no (by rfl) ?_); (try simp only [Act.put, List.setIfInBounds_toArray, List.set_cons_zero, List.set_cons_succ]))
    | ((refine plan_step (fun K hK => ?_)); (first | (fail) | (go_simp; (fail); (try go_wp2_with fail)) | go_simp); (refine hK.out _ _ ?_ (fun hHeld => ?_)); (focus ((try dsimp only); (first | done | (exact ⟨e1, e2⟩)))); clear hK K; (try simp only [Act.put, List.setIfInBounds_toArray, List.set_cons_zero, List.set_cons_succ])))
  refine plan_done ?_
  have d1' : w.drew.cell? ⟨x.b, 1, none⟩ = some (.string x.text) := d1
  go_wp2_with fail
  rw [show max (0 : Int) ((a : Int) - (x.text.size : Int)) = ((a - x.text.size : Nat) : Int) by omega]
  refine HRp.out.mono ?_
  rintro e w2 ⟨rfl, hB⟩
  have S2 := H0.out.drew.below hB
  have R2 := Lib.hid ((Ran.drewN (Below.refl 0 w) 1).trans (below_ran hB))
  obtain ⟨zs, hzs⟩ : ∃ z, z = zerosB (a - x.text.size) := ⟨_, rfl⟩
  rw [show (⟨(Lib.repeatL (⟨#[0]⟩ : ByteArray).data.toList (a - x.text.size)).toArray⟩ : ByteArray) = zs from hzs.symm]
  obtain ⟨X, S3, back⟩ := fs_node S2 hx
  obtain ⟨g0, g1, -⟩ := nd_cells S3
  have f0 : ∀ i, w2.frozen? ⟨x.b, i, none⟩ = false := fun i => free_at S3.get i
  obtain ⟨pa, hpa⟩ : ∃ p, p = min a x.text.size := ⟨_, rfl⟩
  obtain ⟨pe, hpe⟩ : ∃ p, p = min (a + d.size) x.text.size := ⟨_, rfl⟩
  have hmin : min (a : Int) (x.text.size : Int) = (pa : Int) := by omega
  have hmin2 : min ((a : Int) + (d.size : Int)) (x.text.size : Int) = (pe : Int) := by omega
  have hp1n : pa ≤ x.text.size := by omega
  have hp2n : pe ≤ x.text.size := by omega
  have hs1 : (x.text.extract 0 pa).size ≤ 1000000 := by rw [ByteArray.size_extract]; omega
  have hs2 : zs.size ≤ 4096 := by
    rw [hzs]
    show (Lib.repeatL [0] (a - x.text.size)).toArray.size ≤ 4096
    rw [List.size_toArray, Lib.repeatL_length]
    show (a - x.text.size) * 1 ≤ 4096
    omega
  have hs3 : (x.text.extract pe x.text.size).size ≤ 1000000 := by rw [ByteArray.size_extract]; omega
  obtain ⟨y1, hy1⟩ : ∃ y, y = x.text.extract 0 pa ++ zs := ⟨_, rfl⟩
  have hz1 : y1.size ≤ 1004096 := by rw [hy1, ByteArray.size_append]; omega
  obtain ⟨y2, hy2⟩ : ∃ y, y = y1 ++ d := ⟨_, rfl⟩
  have hz2 : y2.size ≤ 1010000 := by rw [hy2, ByteArray.size_append]; omega
  obtain ⟨tt, htt⟩ : ∃ t, t = y2 ++ x.text.extract pe x.text.size := ⟨_, rfl⟩
  have hadd1 : ∀ W : World, (Op.stringOp .add (x.text.extract 0 pa) zs).run Tryz.prog W = .ok (.string y1) W := fun W => by rw [hy1]; exact run_string_add_sum (P := Tryz.prog) W _ _ (by omega)
  have hadd2 : ∀ W : World, (Op.stringOp .add y1 d).run Tryz.prog W = .ok (.string y2) W := fun W => by rw [hy2]; exact run_string_add_sum (P := Tryz.prog) W _ _ (by omega)
  have hadd3 : ∀ W : World, (Op.stringOp .add y2 (x.text.extract pe x.text.size)).run Tryz.prog W = .ok (.string tt) W := fun W => by rw [htt]; exact run_string_add_sum (P := Tryz.prog) W _ _ (by omega)
  obtain ⟨-, -, y2c, -⟩ := fs_cells S2
  have S2f := S2.perm (show _ = pts fb (fsO F mb) * (pmap mb (blk F.L) F.L.length F.n * nds F.L * R) by unfold fsHp; ac_rfl)
  have f2 : ∀ i, w2.frozen? ⟨fb, i, none⟩ = false := fun i => free_at S2f.get i
  have S4 := (back _ { x with text := tt } (F.put k { x with text := tt }) R rfl rfl rfl (S3.set (i := 1) (.string tt))).drew
  have S5 := used_back (u := F.used + ((a + d.size - x.text.size : Nat) : Int)) S4
  have hmoI : ((a + d.size - x.text.size : Nat) : Int) ≤ 4096 := by omega
  have hmo0 : (0 : Int) ≤ ((a + d.size - x.text.size : Nat) : Int) := by omega
  have htx : wrB x.text a d = tt := by unfold wrB; rw [htt, hy2, hy1, hzs, hpa, hpe]
  have S5 : Hid (Sat (((w2.setCell ⟨x.b, 1, none⟩ (.string tt)).drew).setCell ⟨fb, 2, none⟩ (.int .i64 (F.used + ((a + d.size - x.text.size : Nat) : Int)))) (fsHp fb mb { F.put k { x with text := wrB x.text a d } with used := F.used + ((a + d.size - x.text.size : Nat) : Int) } * R)) := Lib.hid (by rw [htx]; exact S5)
  clear hy1 hy2 htt hs1 hs2 hs3 hz1 hz2 c0 c1 c2 c3 e1 e2 d0 d1 d1' S2 S2f S3 S4 hB back hzs hpa hpe hx HRp HT h hz hmax hro hroI hwr r0 r1 hb1 hb2 htx hzl H0 g0
  go_upto_region 15 with fail
  go_still_tail 32, (by kernel_rfl)
  go_wp2_with fail
  go_ret
  exact ⟨⟨rfl, S5.out⟩, Ran.set (Ran.drewN (Ran.set R2.out _ _) 1) _ _⟩
theorem Write_calls (fb mb : Nat) (F : Fs) (k : Int) (a : Nat) (x : Nd) (d : ByteArray) (hk : I64 k) (ha : a ≤ 1000000000) (hd : d.size ≤ 1000000000) (hs : FsOk F) (hx : find F.L k = some x) (h2 : x.kind = 2) (hu : 0 ≤ F.used ∧ F.used ≤ 1000000000) (hr : 0 ≤ F.room ∧ F.room ≤ 1000000000) (w : World) (R : Hp) (h : Sat w (fsHp fb mb F * R)) :
    Calls Tryz.prog 187 #[pp fb, .int .i64 k, .int .i64 a, .string d] w fun e w' => (e = .returned (.int .i64 (writeP F k x a d).1) ∧ Sat w' (fsHp fb mb (writeP F k x a d).2 * R)) ∧ Ran w w' := by
  by_cases h0 : (writeP F k x a d).1 ≠ 0 ∨ d.size = 0
  · exact Write_no fb mb F k a x d hk ha hd hs hx h2 hu hr h0 w R h
  · have h1 : ¬ (writeP F k x a d).1 ≠ 0 := fun e => h0 (.inl e)
    have hz : ¬ d.size = 0 := fun e => h0 (.inr e)
    unfold writeP at h1
    split at h1
    · exact absurd (show (21 : Int) ≠ 0 by decide) h1
    rename_i hb
    split at h1
    · exact absurd (show (15 : Int) ≠ 0 by decide) h1
    rename_i hro
    exact Write_go fb mb F k a x d hk ha hd hs hx h2 hu hr (fun e => hb (.inl e)) (fun e => hb (.inr e)) hz hro w R h
end Go.Proofs.YteienbdbhnikbaaGreatDoor.Hd

namespace Go.Proofs.YteienbdbhnikbaaGreatDoor.Hd
open Go.RowKit Go.Maps Go.Proofs.YteienbdbhnikbaaGreatDoor Go.Proofs.YteienbdbhnikbaaGreatDoor.Hp
set_option linter.unusedVariables false
attribute [local go_sem] Oper.semAt_some

/-- A Mode. -/
structure Md where
  r : Bool
  w : Bool
  m : Bool
/-- What is told of a handle. -/
abbrev inO (k rf a n : Int) (m : Md) : Obj := .cells #[.int .i64 k, .int .i64 rf, .int .i64 a, .int .i64 n, .bool m.r, .bool m.w, .bool m.m] 52 (0, 0)
abbrev inV (k rf a n : Int) (m : Md) : Value := .agg #[.int .i64 k, .int .i64 rf, .int .i64 a, .int .i64 n, .bool m.r, .bool m.w, .bool m.m]
theorem in_cells {w : World} {b : Nat} {k rf a n : Int} {m : Md} {S : Hp} (h : Sat w (pts b (inO k rf a n m) * S)) : w.cell? ⟨b, 0, none⟩ = some (.int .i64 k) ∧ w.cell? ⟨b, 1, none⟩ = some (.int .i64 rf) ∧ w.cell? ⟨b, 2, none⟩ = some (.int .i64 a) ∧ w.cell? ⟨b, 3, none⟩ = some (.int .i64 n) ∧ w.cell? ⟨b, 4, none⟩ = some (.bool m.r) ∧ w.cell? ⟨b, 5, none⟩ = some (.bool m.w) ∧ w.cell? ⟨b, 6, none⟩ = some (.bool m.m) := by
  have hb := h.get
  refine ⟨?_, ?_, ?_, ?_, ?_, ?_, ?_⟩ <;> rw [cell_at hb] <;> rfl
abbrev flO (fb : Nat) (n a : Int) (m : Md) : Obj := .cells #[pp fb, .int .i64 n, .int .i64 a, .bool m.r, .bool m.w, .bool m.m] 161 (0, 0)
theorem fl_cells {w : World} {b fb : Nat} {n a : Int} {m : Md} {S : Hp} (h : Sat w (pts b (flO fb n a m) * S)) : w.cell? ⟨b, 0, none⟩ = some (pp fb) ∧ w.cell? ⟨b, 1, none⟩ = some (.int .i64 n) ∧ w.cell? ⟨b, 2, none⟩ = some (.int .i64 a) ∧ w.cell? ⟨b, 3, none⟩ = some (.bool m.r) ∧ w.cell? ⟨b, 4, none⟩ = some (.bool m.w) ∧ w.cell? ⟨b, 5, none⟩ = some (.bool m.m) := by
  have hb := h.get
  refine ⟨?_, ?_, ?_, ?_, ?_, ?_⟩ <;> rw [cell_at hb] <;> rfl
set_option maxRecDepth 100000 in
set_option maxHeartbeats 4000000 in
theorem finfo_calls (xb fb : Nat) (n a : Int) (m : Md) (w : World) (R : Hp) (h : Sat w (pts xb (flO fb n a m) * R)) :
    Calls Tryz.prog 184 #[pp xb] w fun e w' => e = .returned (inV 1 0 a n m) ∧ Below w.heap.size w w' := by
  have D3 := ((h.alloc (inO 0 0 0 0 ⟨false, false, false⟩)).perm (show _ = pts xb (flO fb n a m) * (pts w.heap.size (inO 0 0 0 0 ⟨false, false, false⟩) * R) by ac_rfl)).drew
  obtain ⟨d0, d1, d2, d3, d4, d5⟩ := fl_cells D3
  have D5 := ((h.alloc (inO 1 0 a n m)).perm (show _ = pts xb (flO fb n a m) * (pts w.heap.size (inO 1 0 a n m) * R) by ac_rfl)).drew
  obtain ⟨q0, q1, q2, q3, q4, q5⟩ := fl_cells D5
  obtain ⟨r0, r1, r2, r3, r4, r5, r6⟩ := in_cells (D5.perm (show _ = pts w.heap.size (inO 1 0 a n m) * (pts xb (flO fb n a m) * R) by ac_rfl))
  have HB3 := Lib.hid (((Below.refl w.heap.size w).alloc (Nat.le_refl _) (inO 1 0 a n m)).trans ⟨rfl, rfl, rfl, Nat.le_refl _, fun _ _ => rfl⟩ : Below w.heap.size w (w.alloc (inO 1 0 a n m)).drew)
  obtain ⟨mr, mw, mm⟩ := m
  dsimp only at d3 d4 d5 q3 q4 q5 r4 r5 r6
  clear h D3 D5
  go_enter Tryz.func184, Tryz.ntmps184
  go_wp2_with fail
  refine region_plan (S := (fun w' => w'.cell? ⟨xb, 1, none⟩ = some (.int .i64 n) ∧ w'.cell? ⟨xb, 2, none⟩ = some (.int .i64 a) ∧ w'.cell? ⟨xb, 3, none⟩ = some (.bool mr) ∧ w'.cell? ⟨xb, 4, none⟩ = some (.bool mw) ∧ w'.cell? ⟨xb, 5, none⟩ = some (.bool mm))) [(0, true), (1, true), (2, true), (3, true), (4, true), (5, true), (6, true), (7, true), (8, true), (9, true), (10, true), (11, true), (12, true), (13, false)] (by kernel_rfl) (by kernel_rfl) (by kernel_rfl) ?_ ?_
  · ((try dsimp only); (first | done | (first | exact ⟨d1, d2, d3, d4, d5⟩ | exact ⟨q1, q2, q3, q4, q5⟩)))
  simp only [planOps, List.map_cons, List.map_nil, List.getElem?_toArray, List.getElem?_cons_zero, List.getElem?_cons_succ]
  repeat (first
    | ((refine plan_yes (v := ?_) (by rfl) ?_ ?_); rotate_left; (focus (intro w hSw; (try dsimp only at hSw); go_simp; try (with_reducible rfl))); (try simp only [Act.put, List.setIfInBounds_toArray, List.set_cons_zero, List.set_cons_succ]))
    | ((refine plan_no (by rfl) ?_); (try simp only [Act.put, List.setIfInBounds_toArray, List.set_cons_zero, List.set_cons_succ]))
    | ((refine plan_step (fun K hK => ?_)); (first | (fail) | (go_simp; (fail); (try go_wp2_with fail)) | go_simp); (refine hK.out _ _ ?_ (fun hHeld => ?_)); (focus ((try dsimp only); (first | done | (first | exact ⟨d1, d2, d3, d4, d5⟩ | exact ⟨q1, q2, q3, q4, q5⟩)))); clear hK K; (try simp only [Act.put, List.setIfInBounds_toArray, List.set_cons_zero, List.set_cons_succ])))
  refine plan_done ?_
  go_wp2_with fail
  exact bodyPost_ret (v := inV 1 0 a n ⟨mr, mw, mm⟩) (by simp [results, Tryz.results184, go_sem, r0, r1, r2, r3, r4, r5, r6]) rfl ⟨rfl, HB3.out⟩
end Go.Proofs.YteienbdbhnikbaaGreatDoor.Hd

namespace Go.Proofs.YteienbdbhnikbaaGreatDoor.Hd
open Go.RowKit Go.Maps Go.Proofs.YteienbdbhnikbaaGreatDoor Go.Proofs.YteienbdbhnikbaaGreatDoor.Hp
set_option linter.unusedVariables false
attribute [local go_sem] Oper.semAt_some

/-- Where a file's write begins. -/
def atW (x : Nd) (a : Nat) (m : Md) : Nat := if m.m = true then x.text.size else a
set_option maxRecDepth 100000 in
set_option maxHeartbeats 8000000 in
theorem fwrite_calls (xb fb mb : Nat) (F : Fs) (n : Int) (a : Nat) (m : Md) (x : Nd) (d : ByteArray) (hk : I64 n) (ha : a ≤ 10000000) (hd : d.size ≤ 10000000) (hs : FsOk F) (hx : find F.L n = some x) (h2 : x.kind = 2) (hkid : x.kids = none) (hu : 0 ≤ F.used ∧ F.used ≤ 1000000000) (hr : 0 ≤ F.room ∧ F.room ≤ 1000000000) (w : World) (R : Hp)
    (h : Sat w (fsHp fb mb F * (pts xb (flO fb n a m) * R))) :
    Calls Tryz.prog 186 #[pp xb, .string d] w fun e w' => (e = .returned (.int .i64 (writeP F n x (atW x a m) d).1) ∧
      Sat w' (fsHp fb mb (writeP F n x (atW x a m) d).2 * (pts xb (flO fb n (if (writeP F n x (atW x a m) d).1 = 0 then ((atW x a m : Nat) : Int) + (d.size : Int) else ((atW x a m : Nat) : Int)) m) * R))) ∧ Ran w w' := by
  obtain ⟨mr, mw, mm⟩ := m
  have Hs := Lib.hid hs
  have Hx := Lib.hid hx
  have H2 := Lib.hid h2
  have Hu := Lib.hid hu
  have Hr := Lib.hid hr
  have h1 := (hs n x hx).text
  have hdI : (d.size : Int) ≤ 10000000 := by omega
  have hd0 : (0 : Int) ≤ (d.size : Int) := by omega
  cases mm with
  | false =>
    show Calls _ _ _ _ (fun e w' => (e = .returned (.int .i64 (writeP F n x a d).1) ∧ Sat w' (fsHp fb mb (writeP F n x a d).2 * (pts xb (flO fb n (if (writeP F n x a d).1 = 0 then (a : Int) + (d.size : Int) else (a : Int)) ⟨mr, mw, false⟩) * R))) ∧ Ran w w')
    obtain ⟨en, hen⟩ : ∃ en, en = (writeP F n x a d).1 := ⟨_, rfl⟩
    obtain ⟨F', hF'⟩ : ∃ F', F' = (writeP F n x a d).2 := ⟨_, rfl⟩
    rw [← hen, ← hF']
    have Hen := Lib.hid hen
    have HF' := Lib.hid hF'
    clear hen hF'
    have S4 := h
    have R4 := Lib.hid (Below.refl 0 w : Ran w w)
    clear h hs hx h2 hu hr hkid
    go_enter Tryz.func186, Tryz.ntmps186
    have c := fl_cells S4.right
    obtain ⟨d0, d1, d2, d3, d4, d5⟩ := c
    have HW := Write_calls fb mb F n a x d hk (by omega) (by omega) Hs.out Hx.out H2.out Hu.out Hr.out _ (pts xb (flO fb n (a : Int) ⟨mr, mw, false⟩) * R) S4.drew
    rw [← Hen.out, ← HF'.out] at HW
    have HW := Lib.hid HW
    obtain ⟨d0', d1', d2', -⟩ := fl_cells S4.drew.right
    have haI : (a : Int) ≤ 1000000000 := by omega
    have haI0 : (0 : Int) ≤ (a : Int) := by omega
    have S4 := Lib.hid S4
    go_upto_region 4 with fail
    refine region_plan (S := (fun w' => w'.cell? ⟨xb, 0, none⟩ = some (pp fb) ∧ w'.cell? ⟨xb, 1, none⟩ = some (.int .i64 n) ∧ w'.cell? ⟨xb, 2, none⟩ = some (.int .i64 (a : Int)))) [(0, true), (1, true), (2, true), (3, true), (4, true), (5, true), (6, true), (7, true), (8, true), (9, true), (10, true), (11, true), (12, true), (13, false), (14, true)] (by kernel_rfl) (by kernel_rfl) (by kernel_rfl) ?_ ?_
    · ((try dsimp only); (first | done | (first | exact ⟨d0', d1', d2'⟩ | exact K5)))
    simp only [planOps, List.map_cons, List.map_nil, List.getElem?_toArray, List.getElem?_cons_zero, List.getElem?_cons_succ]
    repeat (first
      | ((refine plan_yes (v := ?_) (by rfl) ?_ ?_); rotate_left; (focus (intro w hSw; (try dsimp only at hSw); go_simp; try (with_reducible rfl))); (try simp only [Act.put, List.setIfInBounds_toArray, List.set_cons_zero, List.set_cons_succ]))
      | ((refine plan_no (by rfl) ?_); (try simp only [Act.put, List.setIfInBounds_toArray, List.set_cons_zero, List.set_cons_succ]))
      | ((refine plan_step (fun K hK => ?_)); (first | (go_simp; ((go_at_call 187; refine HW.out.mono ?_; rintro e w5 ⟨⟨rfl, S5⟩, R5⟩; have K5 := (And.intro (fl_cells S5.right).1 (And.intro (fl_cells S5.right).2.1 (fl_cells S5.right).2.2.1)))); (try go_wp2_with fail)) | go_simp); (refine hK.out _ _ ?_ (fun hHeld => ?_)); (focus ((try dsimp only); (first | done | (first | exact ⟨d0', d1', d2'⟩ | exact K5)))); clear hK K; (try simp only [Act.put, List.setIfInBounds_toArray, List.set_cons_zero, List.set_cons_succ])))
    refine plan_done ?_
    have R5 := Lib.hid (Below.trans (Ran.drewN R4.out 1) R5)
    clear d0 d1 d2 d3 d4 d5 d0' d1' d2' K5 HW S4
    obtain ⟨d0, d1, d2, d3, d4, d5⟩ := fl_cells S5.right
    by_cases he : en = 0
    · have S5' := S5.perm (show _ = pts xb (flO fb n (a : Int) ⟨mr, mw, false⟩) * (fsHp fb mb F' * R) by ac_rfl)
      have f0 : ∀ i, w5.frozen? ⟨xb, i, none⟩ = false := fun i => free_at S5'.get i
      have S6 := Lib.hid ((S5'.set (i := 2) (.int .i64 ((a : Int) + (d.size : Int)))).perm (show pts xb (flO fb n ((a : Int) + (d.size : Int)) ⟨mr, mw, false⟩) * (fsHp fb mb F' * R) = fsHp fb mb F' * (pts xb (flO fb n ((a : Int) + (d.size : Int)) ⟨mr, mw, false⟩) * R) by ac_rfl))
      subst he
      clear S5 S5'
      go_wp2_with fail
      go_ret
      exact ⟨⟨rfl, S6.out⟩, Ran.set R5.out _ _⟩
    · have heb : (en == 0) = false := by simp [he]
      have S5 := Lib.hid S5
      go_wp2_with fail
      go_ret
      exact ⟨⟨rfl, S5.out⟩, R5.out⟩
  | true =>
    obtain ⟨sz, hsz⟩ : ∃ s, s = x.text.size := ⟨_, rfl⟩
    show Calls _ _ _ _ (fun e w' => (e = .returned (.int .i64 (writeP F n x x.text.size d).1) ∧ Sat w' (fsHp fb mb (writeP F n x x.text.size d).2 * (pts xb (flO fb n (if (writeP F n x x.text.size d).1 = 0 then (x.text.size : Int) + (d.size : Int) else (x.text.size : Int)) ⟨mr, mw, true⟩) * R))) ∧ Ran w w')
    have HSt := Stat_calls fb mb F n hk (hs.small n) w.drew _ h.drew
    unfold statE statV at HSt
    rw [hx] at HSt
    have hsn : sizeN x = (x.text.size : Int) := by unfold sizeN; rw [hkid]; simp [ksz]
    dsimp only at HSt
    rw [hsn, ← hsz] at HSt
    rw [← hsz] at h1 ⊢
    obtain ⟨en, hen⟩ : ∃ en, en = (writeP F n x sz d).1 := ⟨_, rfl⟩
    obtain ⟨F', hF'⟩ : ∃ F', F' = (writeP F n x sz d).2 := ⟨_, rfl⟩
    rw [← hen, ← hF']
    have Hen := Lib.hid hen
    have HF' := Lib.hid hF'
    clear hen hF'
    have HSt := Lib.hid HSt
    have H0 := Lib.hid h
    obtain ⟨d0, d1, d2, d3, d4, d5⟩ := fl_cells h.right
    obtain ⟨d0', d1', -⟩ := fl_cells h.right.drew
    have hb := (h.alloc (infoO 0 0 0 0)).drew
    have Hsz := Lib.hid hsz
    obtain ⟨y0, y1, -⟩ := fl_cells hb.right.right
    have HStb := Stat_calls fb mb F n hk (hs.small n) _ _ (hb.perm (show _ = fsHp fb mb F * (pts w.heap.size (infoO 0 0 0 0) * (pts xb (flO fb n a ⟨mr, mw, true⟩) * R)) by ac_rfl))
    unfold statE statV at HStb
    rw [hx] at HStb
    dsimp only at HStb
    rw [hsn, ← hsz] at HStb
    have HStb := Lib.hid HStb
    have Hb := Lib.hid hb
    clear h hs hx h2 hu hr hkid hsn hb hsz
    go_enter Tryz.func186, Tryz.ntmps186
    go_wp2_with fail
    refine region_tree (S := (fun w' => w'.cell? ⟨xb, 0, none⟩ = some (pp fb) ∧ w'.cell? ⟨xb, 1, none⟩ = some (.int .i64 n))) (.take 0 (.take 1 (.take 2 (.take 3 (.take 4 (.take 5 (.take 6 (.take 7 (.fork 8 (.take 9 (.take 10 (.take 11 (.step 12 (.step 13 (.take 14 (.nil))))))) 12 (.step 8 (.take 9 (.take 10 (.take 11 (.step 13 (.take 14 (.nil)))))))))))))))) (by kernel_rfl) (by kernel_rfl) (by kernel_rfl) ?_ ?_
    · ((try dsimp only); (first | done | (first | with_reducible exact ⟨d0', d1'⟩ | with_reducible exact k4 | with_reducible exact k4a _ | with_reducible exact ⟨y0, y1⟩ | with_reducible exact Kset.out)))
    simp only [Plan.ops, List.getElem?_toArray, List.getElem?_cons_zero, List.getElem?_cons_succ]
    ((first | ((refine tree_yes (v := ?_) (by rfl) ?_ ?_); rotate_left; (focus (intro w hSw; (try dsimp only at hSw); go_simp; try (with_reducible rfl)))) | (refine tree_no (by rfl) ?_)); (try simp only [Act.put, List.setIfInBounds_toArray, List.set_cons_zero, List.set_cons_succ]))
    ((first | ((refine tree_yes (v := ?_) (by rfl) ?_ ?_); rotate_left; (focus (intro w hSw; (try dsimp only at hSw); go_simp; try (with_reducible rfl)))) | (refine tree_no (by rfl) ?_)); (try simp only [Act.put, List.setIfInBounds_toArray, List.set_cons_zero, List.set_cons_succ]))
    ((first | ((refine tree_yes (v := ?_) (by rfl) ?_ ?_); rotate_left; (focus (intro w hSw; (try dsimp only at hSw); go_simp; try (with_reducible rfl)))) | (refine tree_no (by rfl) ?_)); (try simp only [Act.put, List.setIfInBounds_toArray, List.set_cons_zero, List.set_cons_succ]))
    ((first | ((refine tree_yes (v := ?_) (by rfl) ?_ ?_); rotate_left; (focus (intro w hSw; (try dsimp only at hSw); go_simp; try (with_reducible rfl)))) | (refine tree_no (by rfl) ?_)); (try simp only [Act.put, List.setIfInBounds_toArray, List.set_cons_zero, List.set_cons_succ]))
    ((first | ((refine tree_yes (v := ?_) (by rfl) ?_ ?_); rotate_left; (focus (intro w hSw; (try dsimp only at hSw); go_simp; try (with_reducible rfl)))) | (refine tree_no (by rfl) ?_)); (try simp only [Act.put, List.setIfInBounds_toArray, List.set_cons_zero, List.set_cons_succ]))
    ((first | ((refine tree_yes (v := ?_) (by rfl) ?_ ?_); rotate_left; (focus (intro w hSw; (try dsimp only at hSw); go_simp; try (with_reducible rfl)))) | (refine tree_no (by rfl) ?_)); (try simp only [Act.put, List.setIfInBounds_toArray, List.set_cons_zero, List.set_cons_succ]))
    ((first | ((refine tree_yes (v := ?_) (by rfl) ?_ ?_); rotate_left; (focus (intro w hSw; (try dsimp only at hSw); go_simp; try (with_reducible rfl)))) | (refine tree_no (by rfl) ?_)); (try simp only [Act.put, List.setIfInBounds_toArray, List.set_cons_zero, List.set_cons_succ]))
    ((first | ((refine tree_yes (v := ?_) (by rfl) ?_ ?_); rotate_left; (focus (intro w hSw; (try dsimp only at hSw); go_simp; try (with_reducible rfl)))) | (refine tree_no (by rfl) ?_)); (try simp only [Act.put, List.setIfInBounds_toArray, List.set_cons_zero, List.set_cons_succ]))
    refine tree_fork (fun K hK => ?_) (fun K hK => ?_)
    focus
      ((first | (go_simp; (first | (go_at_call 22; refine HSt.out.mono ?_; rintro e w4 ⟨rfl, hB4⟩; have S3 := H0.out.drew.below hB4; have k4 := (And.intro (fl_cells S3.right).1 (fl_cells S3.right).2.1); have k4a := fun o => (And.intro (fl_cells (S3.old o).right).1 (fl_cells (S3.old o).right).2.1); have S3 := Lib.hid S3; have hB4 := Lib.hid hB4) | (go_at_call 22; refine HStb.out.mono ?_; rintro e w4 ⟨rfl, hB4⟩; have S3b := Hb.out.below hB4; have k4 := (And.intro (fl_cells S3b.right.right).1 (fl_cells S3b.right.right).2.1); obtain ⟨z0, z1, z2, z3⟩ := info_cells S3b; have f0b : ∀ i, w4.frozen? ⟨w.heap.size, i, none⟩ = false := (fun i => free_at S3b.get i); have S3c := (((S3b.set (i := 0) (.int .i64 x.kind)).set (i := 1) (.int .i64 (sz : Int))).set (i := 2) (.int .i64 x.names)).set (i := 3) (.int .i64 x.holds); have kset := (And.intro (fl_cells (Sat.right (Sat.right S3c))).1 (fl_cells (Sat.right (Sat.right S3c))).2.1); have S3b := Lib.hid S3b; have hB4 := Lib.hid hB4; have Kset := Lib.hid kset; clear S3c kset)); (try go_wp2_with fail)) | go_simp); (refine hK.out _ _ ?_ (fun hHeld => ?_)); (focus ((try dsimp only); (first | done | (first | with_reducible exact ⟨d0', d1'⟩ | with_reducible exact k4 | with_reducible exact k4a _ | with_reducible exact ⟨y0, y1⟩ | with_reducible exact Kset.out)))); clear hK K; (try simp only [Act.put, List.setIfInBounds_toArray, List.set_cons_zero, List.set_cons_succ]))
      ((first | ((refine tree_yes (v := ?_) (by rfl) ?_ ?_); rotate_left; (focus (intro w hSw; (try dsimp only at hSw); go_simp; try (with_reducible rfl)))) | (refine tree_no (by rfl) ?_)); (try simp only [Act.put, List.setIfInBounds_toArray, List.set_cons_zero, List.set_cons_succ]))
      ((first | ((refine tree_yes (v := ?_) (by rfl) ?_ ?_); rotate_left; (focus (intro w hSw; (try dsimp only at hSw); go_simp; try (with_reducible rfl)))) | (refine tree_no (by rfl) ?_)); (try simp only [Act.put, List.setIfInBounds_toArray, List.set_cons_zero, List.set_cons_succ]))
      ((first | ((refine tree_yes (v := ?_) (by rfl) ?_ ?_); rotate_left; (focus (intro w hSw; (try dsimp only at hSw); go_simp; try (with_reducible rfl)))) | (refine tree_no (by rfl) ?_)); (try simp only [Act.put, List.setIfInBounds_toArray, List.set_cons_zero, List.set_cons_succ]))
      ((refine tree_step (fun K hK => ?_)); (first | (go_simp; (first | (go_at_call 22; refine HSt.out.mono ?_; rintro e w4 ⟨rfl, hB4⟩; have S3 := H0.out.drew.below hB4; have k4 := (And.intro (fl_cells S3.right).1 (fl_cells S3.right).2.1); have k4a := fun o => (And.intro (fl_cells (S3.old o).right).1 (fl_cells (S3.old o).right).2.1); have S3 := Lib.hid S3; have hB4 := Lib.hid hB4) | (go_at_call 22; refine HStb.out.mono ?_; rintro e w4 ⟨rfl, hB4⟩; have S3b := Hb.out.below hB4; have k4 := (And.intro (fl_cells S3b.right.right).1 (fl_cells S3b.right.right).2.1); obtain ⟨z0, z1, z2, z3⟩ := info_cells S3b; have f0b : ∀ i, w4.frozen? ⟨w.heap.size, i, none⟩ = false := (fun i => free_at S3b.get i); have S3c := (((S3b.set (i := 0) (.int .i64 x.kind)).set (i := 1) (.int .i64 (sz : Int))).set (i := 2) (.int .i64 x.names)).set (i := 3) (.int .i64 x.holds); have kset := (And.intro (fl_cells (Sat.right (Sat.right S3c))).1 (fl_cells (Sat.right (Sat.right S3c))).2.1); have S3b := Lib.hid S3b; have hB4 := Lib.hid hB4; have Kset := Lib.hid kset; clear S3c kset)); (try go_wp2_with fail)) | go_simp); (refine hK.out _ _ ?_ (fun hHeld => ?_)); (focus ((try dsimp only); (first | done | (first | with_reducible exact ⟨d0', d1'⟩ | with_reducible exact k4 | with_reducible exact k4a _ | with_reducible exact ⟨y0, y1⟩ | with_reducible exact Kset.out)))); clear hK K; (try simp only [Act.put, List.setIfInBounds_toArray, List.set_cons_zero, List.set_cons_succ]))
      ((refine tree_step (fun K hK => ?_)); (first | (go_simp; (first | (go_at_call 22; refine HSt.out.mono ?_; rintro e w4 ⟨rfl, hB4⟩; have S3 := H0.out.drew.below hB4; have k4 := (And.intro (fl_cells S3.right).1 (fl_cells S3.right).2.1); have k4a := fun o => (And.intro (fl_cells (S3.old o).right).1 (fl_cells (S3.old o).right).2.1); have S3 := Lib.hid S3; have hB4 := Lib.hid hB4) | (go_at_call 22; refine HStb.out.mono ?_; rintro e w4 ⟨rfl, hB4⟩; have S3b := Hb.out.below hB4; have k4 := (And.intro (fl_cells S3b.right.right).1 (fl_cells S3b.right.right).2.1); obtain ⟨z0, z1, z2, z3⟩ := info_cells S3b; have f0b : ∀ i, w4.frozen? ⟨w.heap.size, i, none⟩ = false := (fun i => free_at S3b.get i); have S3c := (((S3b.set (i := 0) (.int .i64 x.kind)).set (i := 1) (.int .i64 (sz : Int))).set (i := 2) (.int .i64 x.names)).set (i := 3) (.int .i64 x.holds); have kset := (And.intro (fl_cells (Sat.right (Sat.right S3c))).1 (fl_cells (Sat.right (Sat.right S3c))).2.1); have S3b := Lib.hid S3b; have hB4 := Lib.hid hB4; have Kset := Lib.hid kset; clear S3c kset)); (try go_wp2_with fail)) | go_simp); (refine hK.out _ _ ?_ (fun hHeld => ?_)); (focus ((try dsimp only); (first | done | (first | with_reducible exact ⟨d0', d1'⟩ | with_reducible exact k4 | with_reducible exact k4a _ | with_reducible exact ⟨y0, y1⟩ | with_reducible exact Kset.out)))); clear hK K; (try simp only [Act.put, List.setIfInBounds_toArray, List.set_cons_zero, List.set_cons_succ]))
      ((first | ((refine tree_yes (v := ?_) (by rfl) ?_ ?_); rotate_left; (focus (intro w hSw; (try dsimp only at hSw); go_simp; try (with_reducible rfl)))) | (refine tree_no (by rfl) ?_)); (try simp only [Act.put, List.setIfInBounds_toArray, List.set_cons_zero, List.set_cons_succ]))
      refine tree_done ?_
    rotate_left 1
    focus
      ((first | (go_simp; (first | (go_at_call 22; refine HSt.out.mono ?_; rintro e w4 ⟨rfl, hB4⟩; have S3 := H0.out.drew.below hB4; have k4 := (And.intro (fl_cells S3.right).1 (fl_cells S3.right).2.1); have k4a := fun o => (And.intro (fl_cells (S3.old o).right).1 (fl_cells (S3.old o).right).2.1); have S3 := Lib.hid S3; have hB4 := Lib.hid hB4) | (go_at_call 22; refine HStb.out.mono ?_; rintro e w4 ⟨rfl, hB4⟩; have S3b := Hb.out.below hB4; have k4 := (And.intro (fl_cells S3b.right.right).1 (fl_cells S3b.right.right).2.1); obtain ⟨z0, z1, z2, z3⟩ := info_cells S3b; have f0b : ∀ i, w4.frozen? ⟨w.heap.size, i, none⟩ = false := (fun i => free_at S3b.get i); have S3c := (((S3b.set (i := 0) (.int .i64 x.kind)).set (i := 1) (.int .i64 (sz : Int))).set (i := 2) (.int .i64 x.names)).set (i := 3) (.int .i64 x.holds); have kset := (And.intro (fl_cells (Sat.right (Sat.right S3c))).1 (fl_cells (Sat.right (Sat.right S3c))).2.1); have S3b := Lib.hid S3b; have hB4 := Lib.hid hB4; have Kset := Lib.hid kset; clear S3c kset)); (try go_wp2_with fail)) | go_simp); (refine hK.out _ _ ?_ (fun hHeld => ?_)); (focus ((try dsimp only); (first | done | (first | with_reducible exact ⟨d0', d1'⟩ | with_reducible exact k4 | with_reducible exact k4a _ | with_reducible exact ⟨y0, y1⟩ | with_reducible exact Kset.out)))); clear hK K; (try simp only [Act.put, List.setIfInBounds_toArray, List.set_cons_zero, List.set_cons_succ]))
      ((refine tree_step (fun K hK => ?_)); (first | (go_simp; (first | (go_at_call 22; refine HSt.out.mono ?_; rintro e w4 ⟨rfl, hB4⟩; have S3 := H0.out.drew.below hB4; have k4 := (And.intro (fl_cells S3.right).1 (fl_cells S3.right).2.1); have k4a := fun o => (And.intro (fl_cells (S3.old o).right).1 (fl_cells (S3.old o).right).2.1); have S3 := Lib.hid S3; have hB4 := Lib.hid hB4) | (go_at_call 22; refine HStb.out.mono ?_; rintro e w4 ⟨rfl, hB4⟩; have S3b := Hb.out.below hB4; have k4 := (And.intro (fl_cells S3b.right.right).1 (fl_cells S3b.right.right).2.1); obtain ⟨z0, z1, z2, z3⟩ := info_cells S3b; have f0b : ∀ i, w4.frozen? ⟨w.heap.size, i, none⟩ = false := (fun i => free_at S3b.get i); have S3c := (((S3b.set (i := 0) (.int .i64 x.kind)).set (i := 1) (.int .i64 (sz : Int))).set (i := 2) (.int .i64 x.names)).set (i := 3) (.int .i64 x.holds); have kset := (And.intro (fl_cells (Sat.right (Sat.right S3c))).1 (fl_cells (Sat.right (Sat.right S3c))).2.1); have S3b := Lib.hid S3b; have hB4 := Lib.hid hB4; have Kset := Lib.hid kset; clear S3c kset)); (try go_wp2_with fail)) | go_simp); (refine hK.out _ _ ?_ (fun hHeld => ?_)); (focus ((try dsimp only); (first | done | (first | with_reducible exact ⟨d0', d1'⟩ | with_reducible exact k4 | with_reducible exact k4a _ | with_reducible exact ⟨y0, y1⟩ | with_reducible exact Kset.out)))); clear hK K; (try simp only [Act.put, List.setIfInBounds_toArray, List.set_cons_zero, List.set_cons_succ]))
      ((first | ((refine tree_yes (v := ?_) (by rfl) ?_ ?_); rotate_left; (focus (intro w hSw; (try dsimp only at hSw); go_simp; try (with_reducible rfl)))) | (refine tree_no (by rfl) ?_)); (try simp only [Act.put, List.setIfInBounds_toArray, List.set_cons_zero, List.set_cons_succ]))
      ((first | ((refine tree_yes (v := ?_) (by rfl) ?_ ?_); rotate_left; (focus (intro w hSw; (try dsimp only at hSw); go_simp; try (with_reducible rfl)))) | (refine tree_no (by rfl) ?_)); (try simp only [Act.put, List.setIfInBounds_toArray, List.set_cons_zero, List.set_cons_succ]))
      ((first | ((refine tree_yes (v := ?_) (by rfl) ?_ ?_); rotate_left; (focus (intro w hSw; (try dsimp only at hSw); go_simp; try (with_reducible rfl)))) | (refine tree_no (by rfl) ?_)); (try simp only [Act.put, List.setIfInBounds_toArray, List.set_cons_zero, List.set_cons_succ]))
      ((refine tree_step (fun K hK => ?_)); (first | (go_simp; (first | (go_at_call 22; refine HSt.out.mono ?_; rintro e w4 ⟨rfl, hB4⟩; have S3 := H0.out.drew.below hB4; have k4 := (And.intro (fl_cells S3.right).1 (fl_cells S3.right).2.1); have k4a := fun o => (And.intro (fl_cells (S3.old o).right).1 (fl_cells (S3.old o).right).2.1); have S3 := Lib.hid S3; have hB4 := Lib.hid hB4) | (go_at_call 22; refine HStb.out.mono ?_; rintro e w4 ⟨rfl, hB4⟩; have S3b := Hb.out.below hB4; have k4 := (And.intro (fl_cells S3b.right.right).1 (fl_cells S3b.right.right).2.1); obtain ⟨z0, z1, z2, z3⟩ := info_cells S3b; have f0b : ∀ i, w4.frozen? ⟨w.heap.size, i, none⟩ = false := (fun i => free_at S3b.get i); have S3c := (((S3b.set (i := 0) (.int .i64 x.kind)).set (i := 1) (.int .i64 (sz : Int))).set (i := 2) (.int .i64 x.names)).set (i := 3) (.int .i64 x.holds); have kset := (And.intro (fl_cells (Sat.right (Sat.right S3c))).1 (fl_cells (Sat.right (Sat.right S3c))).2.1); have S3b := Lib.hid S3b; have hB4 := Lib.hid hB4; have Kset := Lib.hid kset; clear S3c kset)); (try go_wp2_with fail)) | go_simp); (refine hK.out _ _ ?_ (fun hHeld => ?_)); (focus ((try dsimp only); (first | done | (first | with_reducible exact ⟨d0', d1'⟩ | with_reducible exact k4 | with_reducible exact k4a _ | with_reducible exact ⟨y0, y1⟩ | with_reducible exact Kset.out)))); clear hK K; (try simp only [Act.put, List.setIfInBounds_toArray, List.set_cons_zero, List.set_cons_succ]))
      ((first | ((refine tree_yes (v := ?_) (by rfl) ?_ ?_); rotate_left; (focus (intro w hSw; (try dsimp only at hSw); go_simp; try (with_reducible rfl)))) | (refine tree_no (by rfl) ?_)); (try simp only [Act.put, List.setIfInBounds_toArray, List.set_cons_zero, List.set_cons_succ]))
      refine tree_done ?_
    all_goals
      first
      | (have R3 := Ran.new (Below.trans (Ran.drewN (Below.refl 0 w) 1) (below_ran hB4.out)) (infoO x.kind (sz : Int) x.names x.holds); have S3i := S3.out.alloc (infoO x.kind (sz : Int) x.names x.holds); obtain ⟨w6, hw6⟩ : ∃ w6, w6 = w4.alloc (infoO x.kind (sz : Int) x.names x.holds) := ⟨_, rfl⟩; obtain ⟨ib, hib⟩ : ∃ ib, ib = w4.heap.size := ⟨_, rfl⟩; rw [← hw6] at R3 S3i ⊢; rw [← hib] at S3i ⊢)
      | (have R3 := Ran.set (Ran.set (Ran.set (Ran.set (Below.trans (Ran.drewN (Ran.new (Below.refl 0 w) (infoO 0 0 0 0)) 1) (below_ran hB4.out)) ⟨w.heap.size, 0, none⟩ (.int .i64 x.kind)) ⟨w.heap.size, 1, none⟩ (.int .i64 (sz : Int))) ⟨w.heap.size, 2, none⟩ (.int .i64 x.names)) ⟨w.heap.size, 3, none⟩ (.int .i64 x.holds); have S3i := (((S3b.out.set (i := 0) (.int .i64 x.kind)).set (i := 1) (.int .i64 (sz : Int))).set (i := 2) (.int .i64 x.names)).set (i := 3) (.int .i64 x.holds); obtain ⟨w6, hw6⟩ : ∃ w6, w6 = (((w4.setCell ⟨w.heap.size, 0, none⟩ (.int .i64 x.kind)).setCell ⟨w.heap.size, 1, none⟩ (.int .i64 (sz : Int))).setCell ⟨w.heap.size, 2, none⟩ (.int .i64 x.names)).setCell ⟨w.heap.size, 3, none⟩ (.int .i64 x.holds) := ⟨_, rfl⟩; obtain ⟨ib, hib⟩ : ∃ ib, ib = w.heap.size := ⟨_, rfl⟩; rw [← hw6] at R3 S3i ⊢; rw [← hib] at S3i ⊢)
    all_goals
      have S3i : Sat w6 (pts ib (infoO x.kind (sz : Int) x.names x.holds) * (fsHp fb mb F * (pts xb (flO fb n a ⟨mr, mw, true⟩) * R))) := S3i
      clear hw6 hib
      obtain ⟨r0, r1, r2, r3⟩ := info_cells S3i
      have S3x := S3i.right.perm (show _ = pts xb (flO fb n a ⟨mr, mw, true⟩) * (fsHp fb mb F * R) by ac_rfl)
      have f0 : ∀ i, w6.frozen? ⟨xb, i, none⟩ = false := fun i => free_at S3x.get i
      clear d0 d1 d2 d3 d4 d5
      obtain ⟨d0, d1, d2, d3, d4, d5⟩ := fl_cells S3x
      have S4 := (S3x.set (i := 2) (.int .i64 (sz : Int))).perm (show pts xb (flO fb n (sz : Int) ⟨mr, mw, true⟩) * (fsHp fb mb F * R) = fsHp fb mb F * (pts xb (flO fb n (sz : Int) ⟨mr, mw, true⟩) * R) by ac_rfl)
      have R4 := Lib.hid (Ran.set R3 ⟨xb, 2, none⟩ (.int .i64 (sz : Int)))
      have S4 : Hid (Sat (w6.setCell ⟨xb, 2, none⟩ (.int .i64 (sz : Int))) (fsHp fb mb F * (pts xb (flO fb n (sz : Int) ⟨mr, mw, true⟩) * R))) := Lib.hid S4
      clear S3i S3x R3 hB4 HSt HStb Hb H0
      go_upto_region 4 with fail
      clear d0 d1 d2 d3 d4 d5 r0 r1 r2 r3 f0
      obtain ⟨w7, hw7⟩ : ∃ w7, w7 = w6.setCell ⟨xb, 2, none⟩ (.int .i64 (sz : Int)) := ⟨_, rfl⟩
      have S4 := S4.out
      rw [← hw7] at S4 R4 ⊢
      clear hw7
      obtain ⟨d0, d1, d2, d3, d4, d5⟩ := fl_cells S4.right
      have HW := Write_calls fb mb F n sz x d hk (by omega) (by omega) Hs.out Hx.out H2.out Hu.out Hr.out _ (pts xb (flO fb n (sz : Int) ⟨mr, mw, true⟩) * R) S4.drew
      rw [← Hen.out, ← HF'.out] at HW
      have HW := Lib.hid HW
      obtain ⟨d0', d1', d2', -⟩ := fl_cells S4.drew.right
      have haI : (sz : Int) ≤ 1000000000 := by omega
      have haI0 : (0 : Int) ≤ (sz : Int) := by omega
      have S4 := Lib.hid S4
      refine region_plan (S := (fun w' => w'.cell? ⟨xb, 0, none⟩ = some (pp fb) ∧ w'.cell? ⟨xb, 1, none⟩ = some (.int .i64 n) ∧ w'.cell? ⟨xb, 2, none⟩ = some (.int .i64 (sz : Int)))) [(0, true), (1, true), (2, true), (3, true), (4, true), (5, true), (6, true), (7, true), (8, true), (9, true), (10, true), (11, true), (12, true), (13, false), (14, true)] (by kernel_rfl) (by kernel_rfl) (by kernel_rfl) ?_ ?_
      · ((try dsimp only); (first | done | (first | exact ⟨d0', d1', d2'⟩ | exact K5)))
      simp only [planOps, List.map_cons, List.map_nil, List.getElem?_toArray, List.getElem?_cons_zero, List.getElem?_cons_succ]
      repeat (first
        | ((refine plan_yes (v := ?_) (by rfl) ?_ ?_); rotate_left; (focus (intro w hSw; (try dsimp only at hSw); go_simp; try (with_reducible rfl))); (try simp only [Act.put, List.setIfInBounds_toArray, List.set_cons_zero, List.set_cons_succ]))
        | ((refine plan_no (by rfl) ?_); (try simp only [Act.put, List.setIfInBounds_toArray, List.set_cons_zero, List.set_cons_succ]))
        | ((refine plan_step (fun K hK => ?_)); (first | (go_simp; ((go_at_call 187; refine HW.out.mono ?_; rintro e w5 ⟨⟨rfl, S5⟩, R5⟩; have K5 := (And.intro (fl_cells S5.right).1 (And.intro (fl_cells S5.right).2.1 (fl_cells S5.right).2.2.1)))); (try go_wp2_with fail)) | go_simp); (refine hK.out _ _ ?_ (fun hHeld => ?_)); (focus ((try dsimp only); (first | done | (first | exact ⟨d0', d1', d2'⟩ | exact K5)))); clear hK K; (try simp only [Act.put, List.setIfInBounds_toArray, List.set_cons_zero, List.set_cons_succ])))
      refine plan_done ?_
      have R5 := Lib.hid (Below.trans (Ran.drewN R4.out 1) R5)
      clear d0 d1 d2 d3 d4 d5 d0' d1' d2' K5 HW S4
      obtain ⟨d0, d1, d2, d3, d4, d5⟩ := fl_cells S5.right
      by_cases he : en = 0
      · have S5' := S5.perm (show _ = pts xb (flO fb n (sz : Int) ⟨mr, mw, true⟩) * (fsHp fb mb F' * R) by ac_rfl)
        have f0 : ∀ i, w5.frozen? ⟨xb, i, none⟩ = false := fun i => free_at S5'.get i
        have S6 := Lib.hid ((S5'.set (i := 2) (.int .i64 ((sz : Int) + (d.size : Int)))).perm (show pts xb (flO fb n ((sz : Int) + (d.size : Int)) ⟨mr, mw, true⟩) * (fsHp fb mb F' * R) = fsHp fb mb F' * (pts xb (flO fb n ((sz : Int) + (d.size : Int)) ⟨mr, mw, true⟩) * R) by ac_rfl))
        subst he
        clear S5 S5'
        go_wp2_with fail
        go_ret
        exact ⟨⟨rfl, S6.out⟩, Ran.set R5.out _ _⟩
      · have heb : (en == 0) = false := by simp [he]
        have S5 := Lib.hid S5
        go_wp2_with fail
        go_ret
        exact ⟨⟨rfl, S5.out⟩, R5.out⟩
end Go.Proofs.YteienbdbhnikbaaGreatDoor.Hd


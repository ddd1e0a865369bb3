/- Read, Cut, Write of a tree walked. -/
import Derived.Test.YtljlpkeddbfpaaaGreatDoorHdD
import Derived.Test.YtljlpkeddbfpaaaGreatDoorShf
namespace Go.Proofs.YtljlpkeddbfpaaaGreatDoor.Hd
open Go.RowKit Go.Maps Go.Proofs.YtljlpkeddbfpaaaGreatDoor Go.Proofs.YtljlpkeddbfpaaaGreatDoor.Hp
set_option linter.unusedVariables false
attribute [local go_sem] Oper.semAt_some

def readB (t : ByteArray) (a m : Nat) : ByteArray := (t.extract (min a t.size) t.size).extract 0 (min m (t.extract (min a t.size) t.size).size)
theorem textE_ok {F : Fs} {k : Int} {x : Nd} (hx : find F.L k = some x) (hd : x.kind ≠ 1) : textE F k = 0 ∧ textV F k = some x.b := by
  unfold textE textV
  rw [hx]
  exact ⟨if_neg hd, if_neg hd⟩
set_option maxRecDepth 100000 in
set_option maxHeartbeats 8000000 in
theorem Read_calls (fb mb : Nat) (F : Fs) (k : Int) (a m : Nat) (x : Nd) (hk : I64 k) (ha : a ≤ 1000000000000) (hm : m ≤ 9223372036854775807) (hs : FsOk F) (hx : find F.L k = some x) (hd : x.kind ≠ 1) (w : World) (R : Hp) (h : Sat w (fsHp fb mb F * R)) :
    Calls Tryz.prog 12 #[pp fb, .int .i64 k, .int .i64 a, .int .i64 m] w fun e w' => (e = .returned (.tuple #[.string (readB x.text a m), .int .i64 0]) ∧ Sat w' (fsHp fb mb F * R)) ∧ Ran w w' := by
  have HT := text_calls fb mb F k hk w R h
  rw [(textE_ok hx hd).1, (textE_ok hx hd).2] at HT
  unfold pv at HT
  have HT := Lib.hid HT
  have h1 := (hs k x hx).text
  obtain ⟨-, d1, -⟩ := fs_at h hx
  have d1' : w.drew.cell? ⟨x.b, 1, none⟩ = some (.string x.text) := d1
  have H0 := Lib.hid h
  have ha0 : (0 : Int) ≤ (a : Int) := by omega
  have hm0 : (0 : Int) ≤ (m : Int) := by omega
  have h1I : (x.text.size : Int) ≤ 1000000 := by omega
  unfold readB
  obtain ⟨pa, hpa⟩ : ∃ p, p = min a x.text.size := ⟨_, rfl⟩
  rw [← hpa]
  have hmin : min (a : Int) (x.text.size : Int) = (pa : Int) := by omega
  have hp0 : (0 : Int) ≤ (pa : Int) := by omega
  have hp1 : (pa : Int) ≤ (x.text.size : Int) := by omega
  obtain ⟨rs, hrs⟩ : ∃ r, r = x.text.extract pa x.text.size := ⟨_, rfl⟩
  rw [← hrs]
  obtain ⟨pm, hpm⟩ : ∃ p, p = min m rs.size := ⟨_, rfl⟩
  rw [← hpm]
  have hmin2 : min (m : Int) (rs.size : Int) = (pm : Int) := by omega
  have hp2 : (0 : Int) ≤ (pm : Int) := by omega
  have hp3 : (pm : Int) ≤ (rs.size : Int) := by omega
  have Hrs := Lib.hid hrs.symm
  have hp1n : pa ≤ x.text.size := by omega
  have hp3n : pm ≤ rs.size := by omega
  clear h hx hd hs hpa hpm hrs
  go_enter Tryz.func12, Tryz.ntmps12
  go_wp2_with fail
  refine HT.out.mono ?_
  rintro e w1 ⟨rfl, rfl⟩
  go_wp2_with fail
  refine Go.Proofs.YtljlpkeddbfpaaaGreatDoor.region_plan (S := (fun w' => w'.cell? ⟨x.b, 1, none⟩ = some (.string x.text))) [(0, true), (1, true), (2, true), (3, true), (4, true), (5, true), (6, true), (7, true), (8, true), (9, true), (10, true), (11, true), (12, true)] (by kernel_rfl) (by kernel_rfl) (by kernel_rfl) ?_ ?_
  · ((try dsimp only); (first | done | (exact d1')))
  simp only [Go.Proofs.YtljlpkeddbfpaaaGreatDoor.planOps, List.map_cons, List.map_nil, List.getElem?_toArray, List.getElem?_cons_zero, List.getElem?_cons_succ]
  repeat (first
    | ((refine Go.Proofs.YtljlpkeddbfpaaaGreatDoor.plan_yes (v := ?_) (by rfl) ?_ ?_); rotate_left; (focus (intro w hSw; (try dsimp only at hSw); go_simp; try (with_reducible rfl))); (try simp only [Act.put, List.setIfInBounds_toArray, List.set_cons_zero, List.set_cons_succ]))
    | ((refine Go.Proofs.YtljlpkeddbfpaaaGreatDoor.plan_no (by rfl) ?_); (try simp only [Act.put, List.setIfInBounds_toArray, List.set_cons_zero, List.set_cons_succ]))
    | ((refine Go.Proofs.YtljlpkeddbfpaaaGreatDoor.plan_step (fun K hK => ?_)); (first | (fail) | (go_simp; (fail); (try go_wp2_with fail)) | go_simp); (refine hK.out _ _ ?_ (fun hHeld => ?_)); (focus ((try dsimp only); (first | done | (exact d1')))); clear hK K; (try simp only [Act.put, List.setIfInBounds_toArray, List.set_cons_zero, List.set_cons_succ])))
  refine Go.Proofs.YtljlpkeddbfpaaaGreatDoor.plan_done ?_
  rw [Hrs.out]
  go_wp2_with fail
  go_ret2
  exact ⟨⟨rfl, H0.out.drew⟩, Ran.drewN (Below.refl 0 w) 1⟩
def zerosB (n : Nat) : ByteArray := ⟨(Lib.repeatL [0] n).toArray⟩
/-- The bytes d put at a. -/
def wrB (t : ByteArray) (a : Nat) (d : ByteArray) : ByteArray := t.extract 0 (min a t.size) ++ zerosB (a - t.size) ++ d ++ t.extract (min (a + d.size) t.size) t.size
def moreB (t : ByteArray) (a : Nat) (d : ByteArray) : Nat := (a + d.size) - t.size
def writeP (F : Fs) (k : Int) (x : Nd) (a : Nat) (d : ByteArray) : Int × Fs :=
  if 4096 < a ∨ 4096 - a < d.size then (21, F) else if d.size = 0 then (0, F) else if F.room - F.used < (moreB x.text a d : Int) then (15, F)
  else (0, { F.put k { x with text := wrB x.text a d } with used := F.used + (moreB x.text a d : Int) })
theorem used_back {fb mb : Nat} {F : Fs} {u : Int} {R : Hp} {w : World} (h : Sat w (fsHp fb mb F * R)) : Sat (w.setCell ⟨fb, 2, none⟩ (.int .i64 u)) (fsHp fb mb { F with used := u } * R) := by
  have h1 := h.perm (show _ = pts fb (fsO F mb) * (pmap mb (blk F.L) F.L.length F.n * nds F.L * R) by unfold fsHp; ac_rfl)
  exact (h1.set (i := 2) (.int .i64 u)).perm (show pts fb (fsO { F with used := u } mb) * _ = _ by unfold fsHp; ac_rfl)
set_option maxRecDepth 100000 in
set_option maxHeartbeats 2000000 in
theorem Write_no (fb mb : Nat) (F : Fs) (k : Int) (a : Nat) (x : Nd) (d : ByteArray) (hk : I64 k) (ha : a ≤ 1000000000) (hd : d.size ≤ 1000000000) (hs : FsOk F) (hx : find F.L k = some x) (h2 : x.kind = 2) (hu : 0 ≤ F.used ∧ F.used ≤ 1000000000) (hr : 0 ≤ F.room ∧ F.room ≤ 1000000000) (hno : (writeP F k x a d).1 ≠ 0 ∨ d.size = 0) (w : World) (R : Hp) (h : Sat w (fsHp fb mb F * R)) :
    Calls Tryz.prog 14 #[pp fb, .int .i64 k, .int .i64 a, .string d] w fun e w' => (e = .returned (.int .i64 (writeP F k x a d).1) ∧ Sat w' (fsHp fb mb (writeP F k x a d).2 * R)) ∧ Ran w w' := by
  have HT := text_calls fb mb F k hk w R h
  have hd1 : x.kind ≠ 1 := by omega
  rw [(textE_ok hx hd1).1, (textE_ok hx hd1).2] at HT
  unfold pv at HT
  have HT := Lib.hid HT
  have h1 := (hs k x hx).text
  have hxx := fs_at h hx
  rw [h2] at hxx
  obtain ⟨d0, d1, -⟩ := hxx
  have H0 := Lib.hid h
  have ha0 : (0 : Int) ≤ (a : Int) := by omega
  have haI : (a : Int) ≤ 1000000000 := by omega
  have hd0 : (0 : Int) ≤ (d.size : Int) := by omega
  have hdI : (d.size : Int) ≤ 1000000000 := by omega
  have h1I : (x.text.size : Int) ≤ 1000000 := by omega
  unfold writeP at hno ⊢
  by_cases hb1 : 4096 < a
  · rw [if_pos (.inl hb1)]
    have hb1I : (4096 : Int) < a := by omega
    clear h hx hs h2 hd1 hno
    go_enter Tryz.func14, Tryz.ntmps14
    go_wp2_with fail
    refine HT.out.mono ?_
    rintro e w1 ⟨rfl, rfl⟩
    go_wp2_with fail
    go_ret
    exact ⟨⟨rfl, H0.out⟩, Below.refl 0 w⟩
  by_cases hb2 : 4096 - a < d.size
  · rw [if_pos (.inr hb2)]
    have hb1I : (a : Int) ≤ 4096 := by omega
    have hb2I : (4096 : Int) - a < d.size := by omega
    clear h hx hs h2 hd1 hno
    go_enter Tryz.func14, Tryz.ntmps14
    go_wp2_with fail
    refine HT.out.mono ?_
    rintro e w1 ⟨rfl, rfl⟩
    go_wp2_with fail
    go_ret
    exact ⟨⟨rfl, H0.out⟩, Below.refl 0 w⟩
  rw [if_neg (by omega)] at hno ⊢
  have hb1I : (a : Int) ≤ 4096 := by omega
  have hb2I : (d.size : Int) ≤ (4096 : Int) - a := by omega
  by_cases hz : d.size = 0
  · rw [if_pos hz]
    obtain rfl : d = ⟨#[]⟩ := by
      cases d with | mk l =>
      have : l.size = 0 := hz
      rw [Array.eq_empty_of_size_eq_zero this]
    clear h hx hs h2 hd1 hd0 hdI hz hno
    go_enter Tryz.func14, Tryz.ntmps14
    go_wp2_with fail
    refine HT.out.mono ?_
    rintro e w1 ⟨rfl, rfl⟩
    go_wp2_with fail
    go_ret
    exact ⟨⟨rfl, H0.out⟩, Below.refl 0 w⟩
  rw [if_neg hz] at hno ⊢
  have hzl : d.toList.isEmpty = false := by
    cases hl : d.toList with
    | nil => exact absurd (by rw [ByteArray.toList_eq] at hl; have := congrArg List.length hl; simpa using this) hz
    | cons y l => rfl
  obtain ⟨u0, u1⟩ := hu
  obtain ⟨r0, r1⟩ := hr
  obtain ⟨mo, hmo⟩ : ∃ m, m = moreB x.text a d := ⟨_, rfl⟩
  rw [← hmo] at hno ⊢
  unfold moreB at hmo
  have hmax : max 0 ((a : Int) + (d.size : Int) - (x.text.size : Int)) = (mo : Int) := by omega
  obtain ⟨c0, c1, c2, c3⟩ := fs_cells h
  have e1 : w.drew.cell? ⟨fb, 1, none⟩ = some (.int .i64 F.room) := c1
  have e2 : w.drew.cell? ⟨fb, 2, none⟩ = some (.int .i64 F.used) := c2
  have hwr : IntKind.i64.wrap (F.room - F.used) = F.room - F.used := IntWalk.i64_in _ (by omega)
  by_cases hro : F.room - F.used < (mo : Int)
  · rw [if_pos hro]
    clear h hx hs h2 hd1 hmo hno
    go_enter Tryz.func14, Tryz.ntmps14
    go_wp2_with fail
    refine HT.out.mono ?_
    rintro e w1 ⟨rfl, rfl⟩
    go_wp2_with fail
    refine Go.Proofs.YtljlpkeddbfpaaaGreatDoor.region_plan (S := (fun w' => w'.cell? ⟨fb, 1, none⟩ = some (.int .i64 F.room) ∧ w'.cell? ⟨fb, 2, none⟩ = some (.int .i64 F.used))) [(0, true), (1, true), (2, true), (3, true), (4, true), (5, true), (6, true), (7, true), (8, true), (9, true), (10, true)] (by kernel_rfl) (by kernel_rfl) (by kernel_rfl) ?_ ?_
    · ((try dsimp only); (first | done | (exact ⟨e1, e2⟩)))
    simp only [Go.Proofs.YtljlpkeddbfpaaaGreatDoor.planOps, List.map_cons, List.map_nil, List.getElem?_toArray, List.getElem?_cons_zero, List.getElem?_cons_succ]
    repeat (first
      | ((refine Go.Proofs.YtljlpkeddbfpaaaGreatDoor.plan_yes (v := ?_) (by rfl) ?_ ?_); rotate_left; (focus (intro w hSw; (try dsimp only at hSw); go_simp; try (with_reducible rfl))); (try simp only [Act.put, List.setIfInBounds_toArray, List.set_cons_zero, List.set_cons_succ]))
      | ((refine Go.Proofs.YtljlpkeddbfpaaaGreatDoor.plan_no (by rfl) ?_); (try simp only [Act.put, List.setIfInBounds_toArray, List.set_cons_zero, List.set_cons_succ]))
      | ((refine Go.Proofs.YtljlpkeddbfpaaaGreatDoor.plan_step (fun K hK => ?_)); (first | (fail) | (go_simp; (fail); (try go_wp2_with fail)) | go_simp); (refine hK.out _ _ ?_ (fun hHeld => ?_)); (focus ((try dsimp only); (first | done | (exact ⟨e1, e2⟩)))); clear hK K; (try simp only [Act.put, List.setIfInBounds_toArray, List.set_cons_zero, List.set_cons_succ])))
    refine Go.Proofs.YtljlpkeddbfpaaaGreatDoor.plan_done ?_
    go_wp2_with fail
    go_ret
    exact ⟨⟨rfl, H0.out.drew⟩, Ran.drewN (Below.refl 0 w) 1⟩
  · rw [if_neg hro] at hno
    rcases hno with h0 | h0
    · exact absurd rfl h0
    · exact absurd h0 hz
end Go.Proofs.YtljlpkeddbfpaaaGreatDoor.Hd

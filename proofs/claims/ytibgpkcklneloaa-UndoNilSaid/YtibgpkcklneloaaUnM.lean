/- awake walked: the chapter's example is true. -/
import Derived.Test.YtibgpkcklneloaaUnL
namespace Go.Proofs.Ytibgpkcklneloaa.Undo
open Go.RowKit Go.Proofs.Ytibgpkcklneloaa Go.Proofs.Ytibgpkcklneloaa.Hp
set_option linter.unusedVariables false
attribute [local go_sem] Oper.semAt_some

abbrev tO (lb mb cb : Nat) : Obj := .cells #[.pointer (some ⟨lb, 0, none⟩), .pointer (some ⟨mb, 0, none⟩), .pointer (some ⟨cb, 0, none⟩)] 38 (0, 0)
theorem t_cells {w : World} {tb lb mb cb : Nat} {S : Hp} (h : Sat w (pts tb (tO lb mb cb) * S)) : w.cell? ⟨tb, 0, none⟩ = some (.pointer (some ⟨lb, 0, none⟩)) ∧ w.cell? ⟨tb, 1, none⟩ = some (.pointer (some ⟨mb, 0, none⟩)) ∧ w.cell? ⟨tb, 2, none⟩ = some (.pointer (some ⟨cb, 0, none⟩)) :=
  ⟨by rw [cell_at h.get]; rfl, by rw [cell_at h.get]; rfl, by rw [cell_at h.get]; rfl⟩
theorem Things.cells {w : World} {lb mb cb tb : Nat} {most nest : Int} {hist : List St} {ms : List Nat} {N : Nat} {s : St} {R : Hp} (h : Things w lb mb cb most nest hist ms N s (pts tb (tO lb mb cb) * R)) : w.cell? ⟨tb, 0, none⟩ = some (.pointer (some ⟨lb, 0, none⟩)) ∧ w.cell? ⟨tb, 1, none⟩ = some (.pointer (some ⟨mb, 0, none⟩)) ∧ w.cell? ⟨tb, 2, none⟩ = some (.pointer (some ⟨cb, 0, none⟩)) := t_cells h.rest
def kA : ByteArray := ⟨#[97]⟩
def kB : ByteArray := ⟨#[98]⟩
def aw0 : St := ⟨fun _ => none, ⟨#[]⟩⟩
def aw1 : St := ⟨putM aw0.M kA 1, ⟨#[]⟩⟩
def aw2 : St := ⟨putM aw1.M kA 2, ⟨#[]⟩⟩
def aw3 : St := ⟨putM aw2.M kB 3, ⟨#[]⟩⟩
def aw4 : St := ⟨delM aw3.M kA, ⟨#[]⟩⟩
set_option maxRecDepth 100000 in
set_option maxHeartbeats 4000000 in
theorem awake_calls (w : World) (R : Hp) (h : Sat w R) :
    Calls Try.prog 8 #[] w fun e w' => (e = .returned (.bool true) ∧ Sat w' R) ∧ Ran w w' := by
  have H := Lib.hid h
  clear h
  go_enter Try.func8, Try.ntmps8
  go_wp2_with fail
  refine (begun_calls 10 5 (by decide) (by decide) (by decide) (by decide) w R H.out).mono ?_
  rintro e w1 ⟨⟨lb, mb, cb, rfl, HL⟩, R1⟩
  have T1 : Things w1 lb mb cb 10 5 [] [] 0 aw0 R := ⟨[], 0, rfl, chain_nil _, by simp, Nat.le_refl _, HL.perm (by show _ = emp * _; rw [emp_sep]; rfl)⟩
  have T2 := T1.alloc (tO lb mb cb)
  have R2 : Ran w (w1.alloc (tO lb mb cb)) := Ran.new R1 _
  obtain ⟨c0, c1, c2⟩ := T2.cells
  have T2 := Lib.hid T2
  have R2 := Lib.hid R2
  unfold thingsV
  clear H HL T1 R1
  go_wp2_with fail
  refine (set_things lb mb cb 10 5 [] [] 0 aw0 kA 1 _ _ (by decide) (by decide) (by decide) (by decide) (by decide) T2.out).mono ?_
  rintro e w3 ⟨⟨rfl, T⟩, Rn⟩
  clear c0 c1 c2
  have T3 : Things w3 lb mb cb 10 5 [] [] 2 aw1 (pts w1.heap.size (tO lb mb cb) * R) := T
  have R3 := Lib.hid (Below.trans R2.out Rn)
  obtain ⟨c0, c1, c2⟩ := T3.cells
  have T3 := Lib.hid T3
  clear T Rn T2 R2
  rw [show tE 10 [] [] = 0 from rfl]
  go_wp2_with fail
  refine (mark_things lb mb cb 10 5 [] [] 2 aw1 _ _ (by decide) (by decide) (by decide) T3.out).mono ?_
  rintro e w4 ⟨⟨rfl, T⟩, Rn⟩
  clear c0 c1 c2
  have T4 : Things w4 lb mb cb 10 5 [] [0] 2 aw1 (pts w1.heap.size (tO lb mb cb) * R) := T
  have R4 := Lib.hid (Below.trans R3.out Rn)
  obtain ⟨c0, c1, c2⟩ := T4.cells
  have T4 := Lib.hid T4
  clear T Rn T3 R3
  rw [show (([] : List Nat).length : Int) + 1 = 1 from rfl]
  go_wp2_with fail
  refine (set_things lb mb cb 10 5 [] [0] 2 aw1 kA 2 _ _ (by decide) (by decide) (by decide) (by decide) (by decide) T4.out).mono ?_
  rintro e w5 ⟨⟨rfl, T⟩, Rn⟩
  clear c0 c1 c2
  have T5 : Things w5 lb mb cb 10 5 [aw1] [0] 4 aw2 (pts w1.heap.size (tO lb mb cb) * R) := T
  have R5 := Lib.hid (Below.trans R4.out Rn)
  obtain ⟨c0, c1, c2⟩ := T5.cells
  have T5 := Lib.hid T5
  clear T Rn T4 R4
  rw [show tE 10 [] [0] = 0 from rfl]
  go_wp2_with fail
  refine (set_things lb mb cb 10 5 [aw1] [0] 4 aw2 kB 3 _ _ (by decide) (by decide) (by decide) (by decide) (by decide) T5.out).mono ?_
  rintro e w6 ⟨⟨rfl, T⟩, Rn⟩
  clear c0 c1 c2
  have T6 : Things w6 lb mb cb 10 5 [aw1, aw2] [0] 6 aw3 (pts w1.heap.size (tO lb mb cb) * R) := T
  have R6 := Lib.hid (Below.trans R5.out Rn)
  obtain ⟨c0, c1, c2⟩ := T6.cells
  have T6 := Lib.hid T6
  clear T Rn T5 R5
  rw [show tE 10 [aw1] [0] = 0 from rfl]
  go_wp2_with fail
  refine (len_things lb mb cb 10 5 [aw1, aw2] [0] 6 aw3 _ _ T6.out).mono ?_
  rintro e w9 ⟨rfl, rfl⟩
  rw [show (([aw1, aw2] : List St).length : Int) = 2 from rfl]
  go_wp2_with fail
  refine (mark_things lb mb cb 10 5 [aw1, aw2] [0] 6 aw3 _ _ (by decide) (by decide) (by decide) T6.out).mono ?_
  rintro e w7 ⟨⟨rfl, T⟩, Rn⟩
  clear c0 c1 c2
  have T7 : Things w7 lb mb cb 10 5 [aw1, aw2] [0, 2] 6 aw3 (pts w1.heap.size (tO lb mb cb) * R) := T
  have R7 := Lib.hid (Below.trans R6.out Rn)
  obtain ⟨c0, c1, c2⟩ := T7.cells
  have T7 := Lib.hid T7
  clear T Rn T6 R6
  rw [show (([0] : List Nat).length : Int) + 1 = 2 from rfl]
  go_wp2_with fail
  refine (del_things lb mb cb 10 5 [aw1, aw2] [0, 2] 6 aw3 kA _ _ (by decide) (by decide) (by decide) (by decide) (by decide) T7.out).mono ?_
  rintro e w8 ⟨⟨rfl, T⟩, Rn⟩
  clear c0 c1 c2
  have T8 : Things w8 lb mb cb 10 5 [aw1, aw2, aw3] [0, 2] 8 aw4 (pts w1.heap.size (tO lb mb cb) * R) := T
  have R8 := Lib.hid (Below.trans R7.out Rn)
  obtain ⟨c0, c1, c2⟩ := T8.cells
  have T8 := Lib.hid T8
  clear T Rn T7 R7
  rw [show tE 10 [aw1, aw2] [0, 2] = 0 from rfl]
  go_wp2_with fail
  refine (len_things lb mb cb 10 5 [aw1, aw2, aw3] [0, 2] 8 aw4 _ _ T8.out).mono ?_
  rintro e w9 ⟨rfl, rfl⟩
  rw [show (([aw1, aw2, aw3] : List St).length : Int) = 3 from rfl]
  go_wp2_with fail
  refine (undo_things lb mb cb 10 5 [aw1, aw2, aw3] [0] 2 8 aw4 _ _ (by decide) (by decide) (by decide) T8.out).mono ?_
  rintro e w9 ⟨⟨rfl, T⟩, Rn⟩
  clear c0 c1 c2
  have T9 : Things w9 lb mb cb 10 5 [aw1, aw2] [0] 8 aw3 (pts w1.heap.size (tO lb mb cb) * R) := T
  have R9 := Lib.hid (Below.trans R8.out Rn)
  obtain ⟨c0, c1, c2⟩ := T9.cells
  have T9 := Lib.hid T9
  clear T Rn T8 R8
  skip
  go_wp2_with fail
  refine (get_things lb mb cb 10 5 [aw1, aw2] [0] 8 aw3 kA _ _ (by decide) T9.out).mono ?_
  rintro e w9 ⟨rfl, rfl⟩
  rw [show aw3.M kA = some 2 by decide]
  go_wp2_with fail
  refine (undo_things lb mb cb 10 5 [aw1, aw2] [] 0 8 aw3 _ _ (by decide) (by decide) (by decide) T9.out).mono ?_
  rintro e w10 ⟨⟨rfl, T⟩, Rn⟩
  clear c0 c1 c2
  have T10 : Things w10 lb mb cb 10 5 [] [] 8 aw1 (pts w1.heap.size (tO lb mb cb) * R) := T
  have R10 := Lib.hid (Below.trans R9.out Rn)
  obtain ⟨c0, c1, c2⟩ := T10.cells
  have T10 := Lib.hid T10
  clear T Rn T9 R9
  skip
  go_wp2_with fail
  refine (get_things lb mb cb 10 5 [] [] 8 aw1 kA _ _ (by decide) T10.out).mono ?_
  rintro e w9 ⟨rfl, rfl⟩
  rw [show aw1.M kA = some 1 by decide]
  go_wp2_with fail
  refine (get_things lb mb cb 10 5 [] [] 8 aw1 kB _ _ (by decide) T10.out).mono ?_
  rintro e w9 ⟨rfl, rfl⟩
  rw [show aw1.M kB = none by decide]
  go_wp2_with fail
  refine (len_things lb mb cb 10 5 [] [] 8 aw1 _ _ T10.out).mono ?_
  rintro e w9 ⟨rfl, rfl⟩
  rw [show (([] : List St).length : Int) = 0 from rfl]
  go_wp2_with fail
  refine (undonone_things lb mb cb 10 5 [] 8 aw1 _ _ T10.out).mono ?_
  rintro e w11 ⟨⟨rfl, T⟩, Rn⟩
  clear c0 c1 c2
  have T11 : Things w11 lb mb cb 10 5 [] [] 8 aw1 (pts w1.heap.size (tO lb mb cb) * R) := T
  have R11 := Lib.hid (Below.trans R10.out Rn)
  obtain ⟨c0, c1, c2⟩ := T11.cells
  have T11 := Lib.hid T11
  clear T Rn T10 R10
  skip
  go_wp2_with fail
  go_ret
  exact ⟨⟨rfl, T11.out.rest.right⟩, R11.out⟩
end Go.Proofs.Ytibgpkcklneloaa.Undo

/- begun walked. -/
import Derived.Test.YtibgpkcklneloaaUnJ
namespace Go.Proofs.Ytibgpkcklneloaa.Undo
open Go.RowKit Go.Proofs.Ytibgpkcklneloaa Go.Proofs.Ytibgpkcklneloaa.Hp
set_option linter.unusedVariables false
attribute [local go_sem] Oper.semAt_some

/-- A log, a map and a cell of it. -/
abbrev Things0 (w : World) (lb mb cb : Nat) (most nest : Int) (fs : List Value) (ms : List Nat) (B : Nat) (M : ByteArray → Option Int) (c : ByteArray) (R : Hp) : Prop :=
  LogAt w lb most nest fs ms (MapAt mb (some ⟨lb, 0, none⟩) B M * (CellAt cb (some ⟨lb, 0, none⟩) c * R))
abbrev thingsO (a b c : Option Addr) : Obj := .cells #[.pointer a, .pointer b, .pointer c] 38 (0, 0)
def thingsV (lb mb cb : Nat) : Value := .agg #[.pointer (some ⟨lb, 0, none⟩), .pointer (some ⟨mb, 0, none⟩), .pointer (some ⟨cb, 0, none⟩)]
def BegunSays (most nest : Int) (R : Hp) (e : Ending) (w' : World) : Prop := ∃ lb mb cb, e = .returned (.tuple #[thingsV lb mb cb, .int .i64 0]) ∧ Things0 w' lb mb cb most nest [] [] 0 (fun _ => none) ⟨#[]⟩ R
set_option maxRecDepth 100000 in
set_option maxHeartbeats 4000000 in
theorem begun_calls (most nest : Int) (h1 : 0 ≤ most) (h2 : most ≤ 1048576) (h3 : 1 ≤ nest) (h4 : nest ≤ 1024) (w : World) (R : Hp) (h : Sat w R) :
    Calls Try.prog 15 #[.int .i64 most, .int .i64 nest] w fun e w' => BegunSays most nest R e w' ∧ Ran w w' := by
  have H1 := h.alloc (thingsO none none none)
  have H1 := Lib.hid H1
  clear h
  go_enter Try.func15, Try.ntmps15
  go_wp2_with fail
  refine (new_calls most nest h1 h2 h3 h4 _ _ H1.out).mono ?_
  rintro e w1 ⟨rfl, HL, R1⟩
  obtain ⟨lb, hlb⟩ : ∃ b, b = (w.alloc (thingsO none none none)).heap.size := ⟨_, rfl⟩
  rw [← hlb] at HL; rw [← hlb]
  have R2 : Ran w w1 := Below.trans (Ran.new (Below.refl 0 w) _) R1
  clear hlb R1 H1
  obtain ⟨np, nc, qp, qc, HS⟩ := HL
  have HS0 := Lib.hid HS
  clear HS
  go_wp2_with fail
  refine (newmap_calls (some ⟨lb, 0, none⟩) w1 _ HS0.out).mono ?_
  rintro e w2 ⟨mb, rfl, HM, R3⟩
  have HM0 := Lib.hid HM
  clear HM HS0
  go_wp2_with fail
  refine (newcell_calls (some ⟨lb, 0, none⟩) ⟨#[]⟩ w2 _ HM0.out).mono ?_
  rintro e w3 ⟨cb, rfl, HC, R4⟩
  have HT := HC.perm (show _ = pts w.heap.size (thingsO none none none) * (CellAt cb (some ⟨lb, 0, none⟩) ⟨#[]⟩ * (MapAt mb (some ⟨lb, 0, none⟩) 0 (fun _ => none) * (pts lb (logO most nest np ([] : List Value).length nc qp ([] : List Nat).length qc) * (notes np ([] : List Value).length nc [] * (marksA qp qc [] * R))))) by unfold CellAt; ac_rfl)
  have hg := HT.get
  have t0 : w3.cell? ⟨w.heap.size, 0, none⟩ = some (.pointer none) := by rw [cell_at hg]; rfl
  have t1 : w3.cell? ⟨w.heap.size, 1, none⟩ = some (.pointer none) := by rw [cell_at hg]; rfl
  have t2 : w3.cell? ⟨w.heap.size, 2, none⟩ = some (.pointer none) := by rw [cell_at hg]; rfl
  have tz : ∀ i, w3.frozen? ⟨w.heap.size, i, none⟩ = false := fun i => free_at hg i
  have HT0 := Lib.hid HT
  clear HT HC HM0 hg
  go_wp2_with fail
  have HT4 := ((HT0.out.set (i := 0) (.pointer (some ⟨lb, 0, none⟩))).set (i := 1) (.pointer (some ⟨mb, 0, none⟩))).set (i := 2) (.pointer (some ⟨cb, 0, none⟩))
  obtain ⟨w4, hw4⟩ : ∃ w4, w4 = ((w3.setCell ⟨w.heap.size, 0, none⟩ (.pointer (some ⟨lb, 0, none⟩))).setCell ⟨w.heap.size, 1, none⟩ (.pointer (some ⟨mb, 0, none⟩))).setCell ⟨w.heap.size, 2, none⟩ (.pointer (some ⟨cb, 0, none⟩)) := ⟨_, rfl⟩
  have R5 : Ran w w4 := by rw [hw4]; exact Ran.set (Ran.set (Ran.set (Below.trans (Below.trans R2 R3) R4) _ _) _ _) _ _
  rw [← hw4] at HT4; rw [← hw4]
  have hg := HT4.get
  have r0 : w4.cell? ⟨w.heap.size, 0, none⟩ = some (.pointer (some ⟨lb, 0, none⟩)) := by rw [cell_at hg]; rfl
  have r1 : w4.cell? ⟨w.heap.size, 1, none⟩ = some (.pointer (some ⟨mb, 0, none⟩)) := by rw [cell_at hg]; rfl
  have r2 : w4.cell? ⟨w.heap.size, 2, none⟩ = some (.pointer (some ⟨cb, 0, none⟩)) := by rw [cell_at hg]; rfl
  clear t0 t1 t2 tz hw4
  refine bodyPost_ret (v := .tuple #[.agg #[.pointer (some ⟨lb, 0, none⟩), .pointer (some ⟨mb, 0, none⟩), .pointer (some ⟨cb, 0, none⟩)], .int .i64 0]) (by simp [results, Try.results15, go_sem, r0, r1, r2]) rfl ⟨⟨lb, mb, cb, rfl, np, nc, qp, qc, ?_⟩, R5⟩
  exact HT4.right.perm (by ac_rfl)
end Go.Proofs.Ytibgpkcklneloaa.Undo

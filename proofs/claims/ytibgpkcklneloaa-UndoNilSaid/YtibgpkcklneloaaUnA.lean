/- The base of the undo texts. -/
import Derived.Test.YtibgpkcklneloaaSep
import Derived.Test.YtibgpkcklneloaaOth
import Derived.Test.YtibgpkcklneloaaHeld
import Derived.Test.YtibgpkcklneloaaRange
import Derived.Test.YtibgpkcklneloaaRows
import Derived.Lib.Hide
import Derived.BigQuiet
import Derived.Deep.QuietTactic
import Derived.Deep.DeepCutAuto
import Derived.Deep.LoopGhost
import Derived.Deep.RegionHeld3
import Derived.Deep.DeepFit
import Derived.Deep.CutBlock
import Derived.Outline
import Derived.ProofKit
import Derived.OpenShut
import Derived.ShutString
import Derived.ChangeOld
import Derived.Deep.Slices
import Derived.Lib.SmallJoins
import Derived.OwnWalk
import Derived.Laws.NewBlocks
import Derived.Deep.RegionLaw
import Derived.OwnWalkIn
import Derived.TacticsInMore
import Derived.LoopNIn
import Derived.LoopIn
import Derived.Shelf.Abstract
namespace Go.Proofs.Ytibgpkcklneloaa.Undo
open Go.ChangeShapes Go.WideShapes Go.ChangeAt Go.RowKit Go.Proofs.Ytibgpkcklneloaa Go.Proofs.Ytibgpkcklneloaa.Hp
set_option linter.unusedVariables false

def I64 (x : Int) : Prop := -9223372036854775808 ≤ x ∧ x ≤ 9223372036854775807
/-- What was there is as it was. -/
def Kept (W w : World) : Prop := W.heap.size ≤ w.heap.size ∧ ∀ k, k < W.heap.size → w.heap[k]? = W.heap[k]?
theorem Kept.cell {W w : World} (h : Kept W w) {b : Nat} (hb : b < W.heap.size) (j : Nat) : w.cell? ⟨b, j, none⟩ = W.cell? ⟨b, j, none⟩ := World.cell?_of_block (w := W) (h.2 b hb)
theorem Kept.refl (w : World) : Kept w w := ⟨Nat.le_refl _, fun _ _ => rfl⟩
theorem Kept.trans {a b c : World} (h : Kept a b) (k : Kept b c) : Kept a c := ⟨Nat.le_trans h.1 k.1, fun i hi => (k.2 i (Nat.lt_of_lt_of_le hi h.1)).trans (h.2 i hi)⟩
theorem Kept.below {w w' : World} (h : Below w.heap.size w w') : Kept w w' := ⟨h.size, h.block⟩
theorem kept_alloc (w : World) (o : Obj) : Kept w (w.alloc o) := ⟨by simp, fun k hk => Below.heap_alloc w o k hk⟩
theorem kept_set {W w : World} (h : Kept W w) {b : Nat} (hb : W.heap.size ≤ b) (i : Nat) (v : Value) : Kept W (w.setCell ⟨b, i, none⟩ v) :=
  ⟨by simpa [World.setCell] using h.1, fun k hk => (Below.heap_setCell w ⟨b, i, none⟩ v k (by show k ≠ b; omega)).trans (h.2 k hk)⟩
theorem kept_drew {W w : World} (h : Kept W w) : Kept W w.drew := h
theorem own : ownKnob Try.prog.godebug = none := by kernel_rfl
theorem laidOut : laidOutB Try.prog = true := by kernel_rfl
theorem cellsInt : Try.prog.cellsOf 3 = 1 := by kernel_rfl
theorem i64_of {x : Int} (h : (Lit.int .i64 x).wf = true) : I64 x := by
  simp [Lit.wf, IntKind.min, IntKind.max, IntKind.signed, IntKind.bits] at h
  exact ⟨by omega, by omega⟩
def FPost (v : Bool) (w : World) (e : Ending) (w' : World) : Prop := e = .returned (.bool v) ∧ Below w.heap.size w w'
theorem blk_new {w : World} {o : Obj} {b : Nat} (h : w.heap.size = b) : (w.alloc o).heap[b]? = some o := by subst h; exact heap_alloc_new w o
theorem below_drewN {B : Nat} {a w : World} (h : Below B a w) (n : Nat) : Below B a (w.drewN n) := ⟨h.os, h.tape, h.output, h.size, h.block⟩
end Go.Proofs.Ytibgpkcklneloaa.Undo

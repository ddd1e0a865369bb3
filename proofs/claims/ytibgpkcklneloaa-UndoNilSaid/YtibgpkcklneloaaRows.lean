/-
  No cell of these rows narrows 'for every input' (looked for: loops, veiled, ifaces, maps, wideKeys, modest, calm, conditions, laid).
  DERIVED. THE GIVEN ROWS OF THIS SEAT. 5 by the template 'for every input the law returns true; each argument reads behind the call as it read before'; 0 by the template 'total and deterministic' (their statements: YtibgpkcklneloaaTotals.lean).
  GIVEN WITH THE SEED: the statements are not yours to turn. If you find one false, say at which input.
  Laid BY PROGRAM, IN A SANDBOX (cutbox-rows.mjs): the forced cells as the released guide's own fill.sh prints them over the translation c94253bae0b722d2… (all of the seat's roots in one cut). By AI agents, Wed Nov 11 2026. No macro, syntax, notation, axiom, sorry.
-/
import Derived.Test.YtibgpkcklneloaaChecked
import GoSem.Claim
import GoSem.ClaimJoined
import GoSem.ClaimMapViews
import Derived.JoinedTies
import Derived.KernelRfl
namespace Go.Proofs.Ytibgpkcklneloaa
/- THE CELL 'sum', in the pinned program and in every row, IS THE sha256 OF THE DUMP (.gsa) THAT YtibgpkcklneloaaProg.lean LOADS. Nothing in Lean hashes anything: it is a label: what it is worth is what the hold of that sum in a sandbox is worth. -/
noncomputable def Try.pinned : Pinned := { name := "ytibgpkcklneloaa", sum := "c94253bae0b722d2a8e03406caa68e2aa14d3104585729865622ec1726c7d2b7", checked := Try.checked }
namespace Rows
def none {H : Type} : Left H := { results := [], args := [] }

/-- 'whelklaw08.UndoNotes': WHATEVER THE INPUT: true; the input reads as it did. -/
def undoNotesSpec : ChangeSpec := { name := "undoNotes", fn := fun _ => fun
  | [d1, d2] => { results := [.lit (.bool true)], args := [d1, d2] }
  | _ => none }
def undoNotesRow : OpenClaim := { program := "ytibgpkcklneloaa", sum := "c94253bae0b722d2a8e03406caa68e2aa14d3104585729865622ec1726c7d2b7", func := "whelk/whelklaw08.UndoNotes", spec := "undoNotes", unfollowed := true, recurses := true, apart := false }
def UndoNotesSaid : Prop := undoNotesRow.holds Try.pinned (OpenSpec.ofChange undoNotesSpec)

/-- ITS FALSE NEIGHBOUR: 'it returns false'. Refute it at one input. -/
def undoNotesWrong : ChangeSpec := { name := "undoNotes", fn := fun _ => fun
  | [d1, d2] => { results := [.lit (.bool false)], args := [d1, d2] }
  | _ => none }
def UndoNotesWrongFalsely : Prop := undoNotesRow.holds Try.pinned (OpenSpec.ofChange undoNotesWrong)

/-- 'whelklaw08.UndoPlays': WHATEVER THE INPUT: true; the input reads as it did. -/
def undoPlaysSpec : ChangeSpec := { name := "undoPlays", fn := fun _ => fun
  | [d1, d2, d3] => { results := [.lit (.bool true)], args := [d1, d2, d3] }
  | _ => none }
def undoPlaysRow : OpenClaim := { program := "ytibgpkcklneloaa", sum := "c94253bae0b722d2a8e03406caa68e2aa14d3104585729865622ec1726c7d2b7", func := "whelk/whelklaw08.UndoPlays", spec := "undoPlays", unfollowed := true, recurses := true, apart := false }
def UndoPlaysSaid : Prop := undoPlaysRow.holds Try.pinned (OpenSpec.ofChange undoPlaysSpec)

/-- ITS FALSE NEIGHBOUR: 'it returns false'. Refute it at one input. -/
def undoPlaysWrong : ChangeSpec := { name := "undoPlays", fn := fun _ => fun
  | [d1, d2, d3] => { results := [.lit (.bool false)], args := [d1, d2, d3] }
  | _ => none }
def UndoPlaysWrongFalsely : Prop := undoPlaysRow.holds Try.pinned (OpenSpec.ofChange undoPlaysWrong)

/-- 'whelklaw08.UndoBack': WHATEVER THE INPUT: true; the input reads as it did. -/
def undoBackSpec : ChangeSpec := { name := "undoBack", fn := fun _ => fun
  | [d1, d2] => { results := [.lit (.bool true)], args := [d1, d2] }
  | _ => none }
def undoBackRow : OpenClaim := { program := "ytibgpkcklneloaa", sum := "c94253bae0b722d2a8e03406caa68e2aa14d3104585729865622ec1726c7d2b7", func := "whelk/whelklaw08.UndoBack", spec := "undoBack", unfollowed := true, recurses := true, apart := false }
def UndoBackSaid : Prop := undoBackRow.holds Try.pinned (OpenSpec.ofChange undoBackSpec)

/-- ITS FALSE NEIGHBOUR: 'it returns false'. Refute it at one input. -/
def undoBackWrong : ChangeSpec := { name := "undoBack", fn := fun _ => fun
  | [d1, d2] => { results := [.lit (.bool false)], args := [d1, d2] }
  | _ => none }
def UndoBackWrongFalsely : Prop := undoBackRow.holds Try.pinned (OpenSpec.ofChange undoBackWrong)

/-- 'whelklaw08.UndoFull': WHATEVER THE INPUT: true; the input reads as it did. -/
def undoFullSpec : ChangeSpec := { name := "undoFull", fn := fun _ => fun
  | [d1, d2] => { results := [.lit (.bool true)], args := [d1, d2] }
  | _ => none }
def undoFullRow : OpenClaim := { program := "ytibgpkcklneloaa", sum := "c94253bae0b722d2a8e03406caa68e2aa14d3104585729865622ec1726c7d2b7", func := "whelk/whelklaw08.UndoFull", spec := "undoFull", unfollowed := true, recurses := true, apart := false }
def UndoFullSaid : Prop := undoFullRow.holds Try.pinned (OpenSpec.ofChange undoFullSpec)

/-- ITS FALSE NEIGHBOUR: 'it returns false'. Refute it at one input. -/
def undoFullWrong : ChangeSpec := { name := "undoFull", fn := fun _ => fun
  | [d1, d2] => { results := [.lit (.bool false)], args := [d1, d2] }
  | _ => none }
def UndoFullWrongFalsely : Prop := undoFullRow.holds Try.pinned (OpenSpec.ofChange undoFullWrong)

/-- 'whelklaw08.UndoNil': WHATEVER THE INPUT: true; the input reads as it did. -/
def undoNilSpec : ChangeSpec := { name := "undoNil", fn := fun _ => fun
  | [d1, d2] => { results := [.lit (.bool true)], args := [d1, d2] }
  | _ => none }
def undoNilRow : OpenClaim := { program := "ytibgpkcklneloaa", sum := "c94253bae0b722d2a8e03406caa68e2aa14d3104585729865622ec1726c7d2b7", func := "whelk/whelklaw08.UndoNil", spec := "undoNil", unfollowed := true, recurses := true, apart := false }
def UndoNilSaid : Prop := undoNilRow.holds Try.pinned (OpenSpec.ofChange undoNilSpec)

/-- ITS FALSE NEIGHBOUR: 'it returns false'. Refute it at one input. -/
def undoNilWrong : ChangeSpec := { name := "undoNil", fn := fun _ => fun
  | [d1, d2] => { results := [.lit (.bool false)], args := [d1, d2] }
  | _ => none }
def UndoNilWrongFalsely : Prop := undoNilRow.holds Try.pinned (OpenSpec.ofChange undoNilWrong)

/- THE SECOND FORM. 'bulk': how many values and letters a reading holds, each counted each time it is reached (what is shared counts as often as it is met; a slice's spare places count too). A statement '..UptoSaid' is the law's where the arguments, and the package variables that the reading takes, are together of bulk at most 1048576: NARROWER than '..Said'. Prove '..Said' where nothing that the law and all that it calls make is longer than what came in: it says more and counts as full. Else prove '..UptoSaid'. A law counts once. -/
mutual
def uptoBulk {H : Type} : DataW H → Nat
  | .lit (.string bytes) => bytes.length + 1
  | .lit _ => 1
  | .nil => 1
  | .ptr d => uptoBulk d + 1
  | .slice elems spare => uptoBulkAll elems + uptoBulkAll spare + 1
  | .agg parts => uptoBulkAll parts + 1
  | .iface _ d => uptoBulk d + 1
  | .map entries => uptoBulkEntries entries + 1
  | .held _ => 1
def uptoBulkAll {H : Type} : List (DataW H) → Nat
  | [] => 0
  | d :: r => uptoBulk d + uptoBulkAll r
def uptoBulkEntries {H : Type} : List (Lit × DataW H) → Nat
  | [] => 0
  | x :: r => uptoBulkEntry x + uptoBulkEntries r
def uptoBulkEntry {H : Type} : Lit × DataW H → Nat
  | (.string bytes, d) => bytes.length + uptoBulk d + 1
  | (_, d) => uptoBulk d + 1
 end
def uptoSmall : (H : Type) → List (DataW H) → Bool := fun _ ds => decide (uptoBulkAll ds ≤ 1048576)
def OpenSpec.upto (s : _root_.Go.ChangeSpec) : _root_.Go.OpenSpec := { _root_.Go.OpenSpec.ofChange s with cond := some uptoSmall }

/-- 'whelklaw08.UndoNotes', WHERE WHAT IT READS IS OF BULK AT MOST 1048576: true; the input reads as it did. -/
def undoNotesUptoRow : OpenClaim := { program := "ytibgpkcklneloaa", sum := "c94253bae0b722d2a8e03406caa68e2aa14d3104585729865622ec1726c7d2b7", func := "whelk/whelklaw08.UndoNotes", spec := "undoNotes", unfollowed := true, recurses := true, apart := false, narrowed := true }
def UndoNotesUptoSaid : Prop := undoNotesUptoRow.holds Try.pinned (OpenSpec.upto undoNotesSpec)

/-- 'whelklaw08.UndoPlays', WHERE WHAT IT READS IS OF BULK AT MOST 1048576: true; the input reads as it did. -/
def undoPlaysUptoRow : OpenClaim := { program := "ytibgpkcklneloaa", sum := "c94253bae0b722d2a8e03406caa68e2aa14d3104585729865622ec1726c7d2b7", func := "whelk/whelklaw08.UndoPlays", spec := "undoPlays", unfollowed := true, recurses := true, apart := false, narrowed := true }
def UndoPlaysUptoSaid : Prop := undoPlaysUptoRow.holds Try.pinned (OpenSpec.upto undoPlaysSpec)

/-- 'whelklaw08.UndoBack', WHERE WHAT IT READS IS OF BULK AT MOST 1048576: true; the input reads as it did. -/
def undoBackUptoRow : OpenClaim := { program := "ytibgpkcklneloaa", sum := "c94253bae0b722d2a8e03406caa68e2aa14d3104585729865622ec1726c7d2b7", func := "whelk/whelklaw08.UndoBack", spec := "undoBack", unfollowed := true, recurses := true, apart := false, narrowed := true }
def UndoBackUptoSaid : Prop := undoBackUptoRow.holds Try.pinned (OpenSpec.upto undoBackSpec)

/-- 'whelklaw08.UndoFull', WHERE WHAT IT READS IS OF BULK AT MOST 1048576: true; the input reads as it did. -/
def undoFullUptoRow : OpenClaim := { program := "ytibgpkcklneloaa", sum := "c94253bae0b722d2a8e03406caa68e2aa14d3104585729865622ec1726c7d2b7", func := "whelk/whelklaw08.UndoFull", spec := "undoFull", unfollowed := true, recurses := true, apart := false, narrowed := true }
def UndoFullUptoSaid : Prop := undoFullUptoRow.holds Try.pinned (OpenSpec.upto undoFullSpec)

/-- 'whelklaw08.UndoNil', WHERE WHAT IT READS IS OF BULK AT MOST 1048576: true; the input reads as it did. -/
def undoNilUptoRow : OpenClaim := { program := "ytibgpkcklneloaa", sum := "c94253bae0b722d2a8e03406caa68e2aa14d3104585729865622ec1726c7d2b7", func := "whelk/whelklaw08.UndoNil", spec := "undoNil", unfollowed := true, recurses := true, apart := false, narrowed := true }
def UndoNilUptoSaid : Prop := undoNilUptoRow.holds Try.pinned (OpenSpec.upto undoNilSpec)

end Rows
end Go.Proofs.Ytibgpkcklneloaa

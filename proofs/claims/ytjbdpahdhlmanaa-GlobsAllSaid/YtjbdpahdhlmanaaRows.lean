/-
  No cell of these rows narrows 'for every input' (looked for: loops, veiled, ifaces, maps, wideKeys, modest, calm, conditions, laid).
  DERIVED. THE GIVEN ROWS OF THIS SEAT. 9 by the template 'for every input the law returns true; each argument reads behind the call as it read before'; 0 by the template 'total and deterministic' (their statements: YtjbdpahdhlmanaaTotals.lean).
  GIVEN WITH THE SEED: the statements are not yours to turn. If you find one false, say at which input.
  Laid BY PROGRAM, IN A SANDBOX (cutbox-rows.mjs): the forced cells as the released guide's own fill.sh prints them over the translation 0be4be90313e45eb… (all of the seat's roots in one cut). By AI agents, Wed Nov 11 2026. No macro, syntax, notation, axiom, sorry.
-/
import Derived.Test.YtjbdpahdhlmanaaChecked
import GoSem.Claim
import GoSem.ClaimJoined
import GoSem.ClaimMapViews
import Derived.JoinedTies
import Derived.KernelRfl
namespace Go.Proofs.Ytjbdpahdhlmanaa
/- THE CELL 'sum', in the pinned program and in every row, IS THE sha256 OF THE DUMP (.gsa) THAT YtjbdpahdhlmanaaProg.lean LOADS. Nothing in Lean hashes anything: it is a label: what it is worth is what the hold of that sum in a sandbox is worth. -/
noncomputable def Try.pinned : Pinned := { name := "ytjbdpahdhlmanaa", sum := "0be4be90313e45eb4030690c30c973096abd4daf393e867240d2d6716947e3c2", checked := Try.checked }
namespace Rows
def none {H : Type} : Left H := { results := [], args := [] }

/-- 'whelklaw02.GlobsCompiles': WHATEVER THE INPUT: true; the input reads as it did. -/
def globsCompilesSpec : ChangeSpec := { name := "globsCompiles", fn := fun _ => fun
  | [d1, d2] => { results := [.lit (.bool true)], args := [d1, d2] }
  | _ => none }
def globsCompilesRow : OpenClaim := { program := "ytjbdpahdhlmanaa", sum := "0be4be90313e45eb4030690c30c973096abd4daf393e867240d2d6716947e3c2", func := "whelk/whelklaw02.GlobsCompiles", spec := "globsCompiles", unfollowed := true, recurses := true, apart := false }
def GlobsCompilesSaid : Prop := globsCompilesRow.holds Try.pinned (OpenSpec.ofChange globsCompilesSpec)

/-- ITS FALSE NEIGHBOUR: 'it returns false'. Refute it at one input. -/
def globsCompilesWrong : ChangeSpec := { name := "globsCompiles", fn := fun _ => fun
  | [d1, d2] => { results := [.lit (.bool false)], args := [d1, d2] }
  | _ => none }
def GlobsCompilesWrongFalsely : Prop := globsCompilesRow.holds Try.pinned (OpenSpec.ofChange globsCompilesWrong)

/-- 'whelklaw02.GlobsFits': WHATEVER THE INPUT: true; the input reads as it did. -/
def globsFitsSpec : ChangeSpec := { name := "globsFits", fn := fun _ => fun
  | [d1, d2] => { results := [.lit (.bool true)], args := [d1, d2] }
  | _ => none }
def globsFitsRow : OpenClaim := { program := "ytjbdpahdhlmanaa", sum := "0be4be90313e45eb4030690c30c973096abd4daf393e867240d2d6716947e3c2", func := "whelk/whelklaw02.GlobsFits", spec := "globsFits", unfollowed := true, recurses := true, apart := false }
def GlobsFitsSaid : Prop := globsFitsRow.holds Try.pinned (OpenSpec.ofChange globsFitsSpec)

/-- ITS FALSE NEIGHBOUR: 'it returns false'. Refute it at one input. -/
def globsFitsWrong : ChangeSpec := { name := "globsFits", fn := fun _ => fun
  | [d1, d2] => { results := [.lit (.bool false)], args := [d1, d2] }
  | _ => none }
def GlobsFitsWrongFalsely : Prop := globsFitsRow.holds Try.pinned (OpenSpec.ofChange globsFitsWrong)

/-- 'whelklaw02.GlobsJoin': WHATEVER THE INPUT: true; the input reads as it did. -/
def globsJoinSpec : ChangeSpec := { name := "globsJoin", fn := fun _ => fun
  | [d1, d2, d3] => { results := [.lit (.bool true)], args := [d1, d2, d3] }
  | _ => none }
def globsJoinRow : OpenClaim := { program := "ytjbdpahdhlmanaa", sum := "0be4be90313e45eb4030690c30c973096abd4daf393e867240d2d6716947e3c2", func := "whelk/whelklaw02.GlobsJoin", spec := "globsJoin", unfollowed := true, recurses := true, apart := false }
def GlobsJoinSaid : Prop := globsJoinRow.holds Try.pinned (OpenSpec.ofChange globsJoinSpec)

/-- ITS FALSE NEIGHBOUR: 'it returns false'. Refute it at one input. -/
def globsJoinWrong : ChangeSpec := { name := "globsJoin", fn := fun _ => fun
  | [d1, d2, d3] => { results := [.lit (.bool false)], args := [d1, d2, d3] }
  | _ => none }
def GlobsJoinWrongFalsely : Prop := globsJoinRow.holds Try.pinned (OpenSpec.ofChange globsJoinWrong)

/-- 'whelklaw02.GlobsQuoted': WHATEVER THE INPUT: true; the input reads as it did. -/
def globsQuotedSpec : ChangeSpec := { name := "globsQuoted", fn := fun _ => fun
  | [d1, d2, d3] => { results := [.lit (.bool true)], args := [d1, d2, d3] }
  | _ => none }
def globsQuotedRow : OpenClaim := { program := "ytjbdpahdhlmanaa", sum := "0be4be90313e45eb4030690c30c973096abd4daf393e867240d2d6716947e3c2", func := "whelk/whelklaw02.GlobsQuoted", spec := "globsQuoted", unfollowed := true, recurses := true, apart := false }
def GlobsQuotedSaid : Prop := globsQuotedRow.holds Try.pinned (OpenSpec.ofChange globsQuotedSpec)

/-- ITS FALSE NEIGHBOUR: 'it returns false'. Refute it at one input. -/
def globsQuotedWrong : ChangeSpec := { name := "globsQuoted", fn := fun _ => fun
  | [d1, d2, d3] => { results := [.lit (.bool false)], args := [d1, d2, d3] }
  | _ => none }
def GlobsQuotedWrongFalsely : Prop := globsQuotedRow.holds Try.pinned (OpenSpec.ofChange globsQuotedWrong)

/-- 'whelklaw02.GlobsPaths': WHATEVER THE INPUT: true; the input reads as it did. -/
def globsPathsSpec : ChangeSpec := { name := "globsPaths", fn := fun _ => fun
  | [d1, d2] => { results := [.lit (.bool true)], args := [d1, d2] }
  | _ => none }
def globsPathsRow : OpenClaim := { program := "ytjbdpahdhlmanaa", sum := "0be4be90313e45eb4030690c30c973096abd4daf393e867240d2d6716947e3c2", func := "whelk/whelklaw02.GlobsPaths", spec := "globsPaths", unfollowed := true, recurses := true, apart := false }
def GlobsPathsSaid : Prop := globsPathsRow.holds Try.pinned (OpenSpec.ofChange globsPathsSpec)

/-- ITS FALSE NEIGHBOUR: 'it returns false'. Refute it at one input. -/
def globsPathsWrong : ChangeSpec := { name := "globsPaths", fn := fun _ => fun
  | [d1, d2] => { results := [.lit (.bool false)], args := [d1, d2] }
  | _ => none }
def GlobsPathsWrongFalsely : Prop := globsPathsRow.holds Try.pinned (OpenSpec.ofChange globsPathsWrong)

/-- 'whelklaw02.GlobsNot': WHATEVER THE INPUT: true; the input reads as it did. -/
def globsNotSpec : ChangeSpec := { name := "globsNot", fn := fun _ => fun
  | [d1, d2] => { results := [.lit (.bool true)], args := [d1, d2] }
  | _ => none }
def globsNotRow : OpenClaim := { program := "ytjbdpahdhlmanaa", sum := "0be4be90313e45eb4030690c30c973096abd4daf393e867240d2d6716947e3c2", func := "whelk/whelklaw02.GlobsNot", spec := "globsNot", unfollowed := true, recurses := true, apart := false }
def GlobsNotSaid : Prop := globsNotRow.holds Try.pinned (OpenSpec.ofChange globsNotSpec)

/-- ITS FALSE NEIGHBOUR: 'it returns false'. Refute it at one input. -/
def globsNotWrong : ChangeSpec := { name := "globsNot", fn := fun _ => fun
  | [d1, d2] => { results := [.lit (.bool false)], args := [d1, d2] }
  | _ => none }
def GlobsNotWrongFalsely : Prop := globsNotRow.holds Try.pinned (OpenSpec.ofChange globsNotWrong)

/-- 'whelklaw02.GlobsEnds': WHATEVER THE INPUT: true; the input reads as it did. -/
def globsEndsSpec : ChangeSpec := { name := "globsEnds", fn := fun _ => fun
  | [d1, d2] => { results := [.lit (.bool true)], args := [d1, d2] }
  | _ => none }
def globsEndsRow : OpenClaim := { program := "ytjbdpahdhlmanaa", sum := "0be4be90313e45eb4030690c30c973096abd4daf393e867240d2d6716947e3c2", func := "whelk/whelklaw02.GlobsEnds", spec := "globsEnds", unfollowed := true, recurses := true, apart := false }
def GlobsEndsSaid : Prop := globsEndsRow.holds Try.pinned (OpenSpec.ofChange globsEndsSpec)

/-- ITS FALSE NEIGHBOUR: 'it returns false'. Refute it at one input. -/
def globsEndsWrong : ChangeSpec := { name := "globsEnds", fn := fun _ => fun
  | [d1, d2] => { results := [.lit (.bool false)], args := [d1, d2] }
  | _ => none }
def GlobsEndsWrongFalsely : Prop := globsEndsRow.holds Try.pinned (OpenSpec.ofChange globsEndsWrong)

/-- 'whelklaw02.GlobsAll': WHATEVER THE INPUT: true; the input reads as it did. -/
def globsAllSpec : ChangeSpec := { name := "globsAll", fn := fun _ => fun
  | [d1, d2, d3] => { results := [.lit (.bool true)], args := [d1, d2, d3] }
  | _ => none }
def globsAllRow : OpenClaim := { program := "ytjbdpahdhlmanaa", sum := "0be4be90313e45eb4030690c30c973096abd4daf393e867240d2d6716947e3c2", func := "whelk/whelklaw02.GlobsAll", spec := "globsAll", inPlace := ["internal/bytealg.IndexByteString"], unfollowed := true, recurses := true, apart := false }
def GlobsAllSaid : Prop := globsAllRow.holds Try.pinned (OpenSpec.ofChange globsAllSpec)

/-- ITS FALSE NEIGHBOUR: 'it returns false'. Refute it at one input. -/
def globsAllWrong : ChangeSpec := { name := "globsAll", fn := fun _ => fun
  | [d1, d2, d3] => { results := [.lit (.bool false)], args := [d1, d2, d3] }
  | _ => none }
def GlobsAllWrongFalsely : Prop := globsAllRow.holds Try.pinned (OpenSpec.ofChange globsAllWrong)

/-- 'whelklaw02.GlobsCuts': WHATEVER THE INPUT: true; the input reads as it did. -/
def globsCutsSpec : ChangeSpec := { name := "globsCuts", fn := fun _ => fun
  | [d1, d2, d3] => { results := [.lit (.bool true)], args := [d1, d2, d3] }
  | _ => none }
def globsCutsRow : OpenClaim := { program := "ytjbdpahdhlmanaa", sum := "0be4be90313e45eb4030690c30c973096abd4daf393e867240d2d6716947e3c2", func := "whelk/whelklaw02.GlobsCuts", spec := "globsCuts", inPlace := ["internal/bytealg.IndexByteString"], unfollowed := true, recurses := true, apart := false }
def GlobsCutsSaid : Prop := globsCutsRow.holds Try.pinned (OpenSpec.ofChange globsCutsSpec)

/-- ITS FALSE NEIGHBOUR: 'it returns false'. Refute it at one input. -/
def globsCutsWrong : ChangeSpec := { name := "globsCuts", fn := fun _ => fun
  | [d1, d2, d3] => { results := [.lit (.bool false)], args := [d1, d2, d3] }
  | _ => none }
def GlobsCutsWrongFalsely : Prop := globsCutsRow.holds Try.pinned (OpenSpec.ofChange globsCutsWrong)

/- THE SECOND FORM. 'bulk': how many values and letters a reading holds, each counted each time it is reached (what is shared counts as often as it is met; a slice's spare places count too). A statement '..UptoSaid' is the law's where the arguments, and the package variables that the reading takes, are together of bulk at most 1048576: NARROWER than '..Said'. Prove '..Said' where nothing that the law and all that it calls make is longer than what came in: it says more and counts as full. Else prove '..UptoSaid'. A law counts once. -/
mutual
def uptoBulk {H : Type} : DataW H → Nat
  | .lit (.string bytes) => bytes.length + 1
  | .lit _ => 1
  | .nil => 1
  | .ptr d => uptoBulk d + 1
  | .slice elems spare => uptoBulkAll elems + uptoBulkAll spare + 1
  | .agg parts => uptoBulkAll parts + 1
  | .iface _ d => uptoBulk d + 1
  | .map entries => uptoBulkEntries entries + 1
  | .held _ => 1
def uptoBulkAll {H : Type} : List (DataW H) → Nat
  | [] => 0
  | d :: r => uptoBulk d + uptoBulkAll r
def uptoBulkEntries {H : Type} : List (Lit × DataW H) → Nat
  | [] => 0
  | x :: r => uptoBulkEntry x + uptoBulkEntries r
def uptoBulkEntry {H : Type} : Lit × DataW H → Nat
  | (.string bytes, d) => bytes.length + uptoBulk d + 1
  | (_, d) => uptoBulk d + 1
 end
def uptoSmall : (H : Type) → List (DataW H) → Bool := fun _ ds => decide (uptoBulkAll ds ≤ 1048576)
def OpenSpec.upto (s : _root_.Go.ChangeSpec) : _root_.Go.OpenSpec := { _root_.Go.OpenSpec.ofChange s with cond := some uptoSmall }

/-- 'whelklaw02.GlobsCompiles', WHERE WHAT IT READS IS OF BULK AT MOST 1048576: true; the input reads as it did. -/
def globsCompilesUptoRow : OpenClaim := { program := "ytjbdpahdhlmanaa", sum := "0be4be90313e45eb4030690c30c973096abd4daf393e867240d2d6716947e3c2", func := "whelk/whelklaw02.GlobsCompiles", spec := "globsCompiles", unfollowed := true, recurses := true, apart := false, narrowed := true }
def GlobsCompilesUptoSaid : Prop := globsCompilesUptoRow.holds Try.pinned (OpenSpec.upto globsCompilesSpec)

/-- 'whelklaw02.GlobsFits', WHERE WHAT IT READS IS OF BULK AT MOST 1048576: true; the input reads as it did. -/
def globsFitsUptoRow : OpenClaim := { program := "ytjbdpahdhlmanaa", sum := "0be4be90313e45eb4030690c30c973096abd4daf393e867240d2d6716947e3c2", func := "whelk/whelklaw02.GlobsFits", spec := "globsFits", unfollowed := true, recurses := true, apart := false, narrowed := true }
def GlobsFitsUptoSaid : Prop := globsFitsUptoRow.holds Try.pinned (OpenSpec.upto globsFitsSpec)

/-- 'whelklaw02.GlobsJoin', WHERE WHAT IT READS IS OF BULK AT MOST 1048576: true; the input reads as it did. -/
def globsJoinUptoRow : OpenClaim := { program := "ytjbdpahdhlmanaa", sum := "0be4be90313e45eb4030690c30c973096abd4daf393e867240d2d6716947e3c2", func := "whelk/whelklaw02.GlobsJoin", spec := "globsJoin", unfollowed := true, recurses := true, apart := false, narrowed := true }
def GlobsJoinUptoSaid : Prop := globsJoinUptoRow.holds Try.pinned (OpenSpec.upto globsJoinSpec)

/-- 'whelklaw02.GlobsQuoted', WHERE WHAT IT READS IS OF BULK AT MOST 1048576: true; the input reads as it did. -/
def globsQuotedUptoRow : OpenClaim := { program := "ytjbdpahdhlmanaa", sum := "0be4be90313e45eb4030690c30c973096abd4daf393e867240d2d6716947e3c2", func := "whelk/whelklaw02.GlobsQuoted", spec := "globsQuoted", unfollowed := true, recurses := true, apart := false, narrowed := true }
def GlobsQuotedUptoSaid : Prop := globsQuotedUptoRow.holds Try.pinned (OpenSpec.upto globsQuotedSpec)

/-- 'whelklaw02.GlobsPaths', WHERE WHAT IT READS IS OF BULK AT MOST 1048576: true; the input reads as it did. -/
def globsPathsUptoRow : OpenClaim := { program := "ytjbdpahdhlmanaa", sum := "0be4be90313e45eb4030690c30c973096abd4daf393e867240d2d6716947e3c2", func := "whelk/whelklaw02.GlobsPaths", spec := "globsPaths", unfollowed := true, recurses := true, apart := false, narrowed := true }
def GlobsPathsUptoSaid : Prop := globsPathsUptoRow.holds Try.pinned (OpenSpec.upto globsPathsSpec)

/-- 'whelklaw02.GlobsNot', WHERE WHAT IT READS IS OF BULK AT MOST 1048576: true; the input reads as it did. -/
def globsNotUptoRow : OpenClaim := { program := "ytjbdpahdhlmanaa", sum := "0be4be90313e45eb4030690c30c973096abd4daf393e867240d2d6716947e3c2", func := "whelk/whelklaw02.GlobsNot", spec := "globsNot", unfollowed := true, recurses := true, apart := false, narrowed := true }
def GlobsNotUptoSaid : Prop := globsNotUptoRow.holds Try.pinned (OpenSpec.upto globsNotSpec)

/-- 'whelklaw02.GlobsEnds', WHERE WHAT IT READS IS OF BULK AT MOST 1048576: true; the input reads as it did. -/
def globsEndsUptoRow : OpenClaim := { program := "ytjbdpahdhlmanaa", sum := "0be4be90313e45eb4030690c30c973096abd4daf393e867240d2d6716947e3c2", func := "whelk/whelklaw02.GlobsEnds", spec := "globsEnds", unfollowed := true, recurses := true, apart := false, narrowed := true }
def GlobsEndsUptoSaid : Prop := globsEndsUptoRow.holds Try.pinned (OpenSpec.upto globsEndsSpec)

/-- 'whelklaw02.GlobsAll', WHERE WHAT IT READS IS OF BULK AT MOST 1048576: true; the input reads as it did. -/
def globsAllUptoRow : OpenClaim := { program := "ytjbdpahdhlmanaa", sum := "0be4be90313e45eb4030690c30c973096abd4daf393e867240d2d6716947e3c2", func := "whelk/whelklaw02.GlobsAll", spec := "globsAll", inPlace := ["internal/bytealg.IndexByteString"], unfollowed := true, recurses := true, apart := false, narrowed := true }
def GlobsAllUptoSaid : Prop := globsAllUptoRow.holds Try.pinned (OpenSpec.upto globsAllSpec)

/-- 'whelklaw02.GlobsCuts', WHERE WHAT IT READS IS OF BULK AT MOST 1048576: true; the input reads as it did. -/
def globsCutsUptoRow : OpenClaim := { program := "ytjbdpahdhlmanaa", sum := "0be4be90313e45eb4030690c30c973096abd4daf393e867240d2d6716947e3c2", func := "whelk/whelklaw02.GlobsCuts", spec := "globsCuts", inPlace := ["internal/bytealg.IndexByteString"], unfollowed := true, recurses := true, apart := false, narrowed := true }
def GlobsCutsUptoSaid : Prop := globsCutsUptoRow.holds Try.pinned (OpenSpec.upto globsCutsSpec)

end Rows
end Go.Proofs.Ytjbdpahdhlmanaa

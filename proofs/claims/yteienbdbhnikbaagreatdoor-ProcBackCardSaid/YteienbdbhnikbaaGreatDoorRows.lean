/-
  NARROWER THAN 'FOR EVERY INPUT', by the rows' own cells (each row's printed sentence says how): ProcNil: laid · ProcLeaves: laid · ProcBack: laid · ProcFull: laid.
  DERIVED. THE GIVEN ROWS OF THIS SEAT. 4 by the template 'for every input the law returns true; each argument reads behind the call as it read before'; 0 by the template 'total and deterministic' (their statements: YteienbdbhnikbaaGreatDoorTotals.lean).
  GIVEN WITH THE SEED: the statements are not yours to turn. If you find one false, say at which input.
  Laid BY PROGRAM, IN A SANDBOX (cutbox-rows.mjs): the forced cells as the released guide's own fill.sh prints them over the translation 1f5c777b8fd6b6b3… (all of the seat's roots in one cut). By AI agents, Wed Nov 11 2026. No macro, syntax, notation, axiom, sorry.
-/
import Derived.Test.YteienbdbhnikbaaGreatDoorChecked
import GoSem.PinnedTables
import GoSem.Claim
import GoSem.ClaimJoined
import GoSem.ClaimMapViews
import Derived.JoinedTies
import Derived.KernelRfl
namespace Go.Proofs.YteienbdbhnikbaaGreatDoor
/- THE CELL 'sum', in the pinned program and in every row, IS THE sha256 OF THE DUMP (.gsa) THAT YteienbdbhnikbaaGreatDoorProg.lean LOADS. Nothing in Lean hashes anything: it is a label: what it is worth is what the hold of that sum in a sandbox is worth. -/
noncomputable def Tryz.pinned : Pinned := { name := "yteienbdbhnikbaagreatdoor", sum := "1f5c777b8fd6b6b3f13209c840d29f953cb8d074eae85cd9afa547e1ee5c5d15", checked := Tryz.checked }
namespace Rows
def none {H : Type} : Left H := { results := [], args := [] }

/- WHAT THE LISTED PACKAGE-LEVEL VARIABLES READ AS WHEN THE CALL BEGINS. Each datum BY PROGRAM (the guide's laid-datum.mjs) off the statement by which the dump's own 'gosem.cut.vars' lays the variable. In a bare row this is a premise. The card (YteienbdbhnikbaaGreatDoorCards.lean) ties it to the program's text. -/
def laid_unicode_utf8_acceptRanges {H : Type} : DataW H := .agg [.agg [.lit (.int .u8 128), .lit (.int .u8 191)], .agg [.lit (.int .u8 160), .lit (.int .u8 191)], .agg [.lit (.int .u8 128), .lit (.int .u8 159)], .agg [.lit (.int .u8 144), .lit (.int .u8 191)], .agg [.lit (.int .u8 128), .lit (.int .u8 143)], .agg [.lit (.int .u8 0), .lit (.int .u8 0)], .agg [.lit (.int .u8 0), .lit (.int .u8 0)], .agg [.lit (.int .u8 0), .lit (.int .u8 0)], .agg [.lit (.int .u8 0), .lit (.int .u8 0)], .agg [.lit (.int .u8 0), .lit (.int .u8 0)], .agg [.lit (.int .u8 0), .lit (.int .u8 0)], .agg [.lit (.int .u8 0), .lit (.int .u8 0)], .agg [.lit (.int .u8 0), .lit (.int .u8 0)], .agg [.lit (.int .u8 0), .lit (.int .u8 0)], .agg [.lit (.int .u8 0), .lit (.int .u8 0)], .agg [.lit (.int .u8 0), .lit (.int .u8 0)]]
/-- One of Go's own tables, pinned by name: the form's constant. -/
def laid_unicode_utf8_first : DataW Unit := Go.Pinned.utf8First

/-- 'whelklaw09.ProcNil': WHATEVER THE INPUT: true; the input reads as it did. -/
def procNilSpec : ChangeSpec := { name := "procNil", fn := fun _ => fun
  | [d] => { results := [.lit (.bool true)], args := [d] }
  | _ => none }
def procNilRow : OpenClaim := { program := "yteienbdbhnikbaagreatdoor", sum := "1f5c777b8fd6b6b3f13209c840d29f953cb8d074eae85cd9afa547e1ee5c5d15", func := "whelk/whelklaw09.ProcNil", spec := "procNil", inPlace := ["internal/bytealg.IndexByteString", "internal/bytealg.IndexString"], unfollowed := true, recurses := true, named := ["unicode/utf8.first", "unicode/utf8.acceptRanges", "internal/bytealg.MaxLen"], apart := false, laid := [("unicode/utf8.acceptRanges", laid_unicode_utf8_acceptRanges), ("unicode/utf8.first", laid_unicode_utf8_first)] }
def ProcNilSaid : Prop := procNilRow.holds Tryz.pinned (OpenSpec.ofChange procNilSpec)

/-- ITS FALSE NEIGHBOUR: 'it returns false'. Refute it at one input. -/
def procNilWrong : ChangeSpec := { name := "procNil", fn := fun _ => fun
  | [d] => { results := [.lit (.bool false)], args := [d] }
  | _ => none }
def ProcNilWrongFalsely : Prop := procNilRow.holds Tryz.pinned (OpenSpec.ofChange procNilWrong)

/-- 'whelklaw09.ProcLeaves': WHATEVER THE INPUT: true; the input reads as it did. -/
def procLeavesSpec : ChangeSpec := { name := "procLeaves", fn := fun _ => fun
  | [d] => { results := [.lit (.bool true)], args := [d] }
  | _ => none }
def procLeavesRow : OpenClaim := { program := "yteienbdbhnikbaagreatdoor", sum := "1f5c777b8fd6b6b3f13209c840d29f953cb8d074eae85cd9afa547e1ee5c5d15", func := "whelk/whelklaw09.ProcLeaves", spec := "procLeaves", inPlace := ["internal/bytealg.IndexByteString", "internal/bytealg.IndexString"], unfollowed := true, recurses := true, named := ["unicode/utf8.first", "unicode/utf8.acceptRanges", "internal/bytealg.MaxLen"], apart := false, laid := [("unicode/utf8.acceptRanges", laid_unicode_utf8_acceptRanges), ("unicode/utf8.first", laid_unicode_utf8_first)] }
def ProcLeavesSaid : Prop := procLeavesRow.holds Tryz.pinned (OpenSpec.ofChange procLeavesSpec)

/-- ITS FALSE NEIGHBOUR: 'it returns false'. Refute it at one input. -/
def procLeavesWrong : ChangeSpec := { name := "procLeaves", fn := fun _ => fun
  | [d] => { results := [.lit (.bool false)], args := [d] }
  | _ => none }
def ProcLeavesWrongFalsely : Prop := procLeavesRow.holds Tryz.pinned (OpenSpec.ofChange procLeavesWrong)

/-- 'whelklaw09.ProcBack': WHATEVER THE INPUT: true; the input reads as it did. -/
def procBackSpec : ChangeSpec := { name := "procBack", fn := fun _ => fun
  | [d1, d2] => { results := [.lit (.bool true)], args := [d1, d2] }
  | _ => none }
def procBackRow : OpenClaim := { program := "yteienbdbhnikbaagreatdoor", sum := "1f5c777b8fd6b6b3f13209c840d29f953cb8d074eae85cd9afa547e1ee5c5d15", func := "whelk/whelklaw09.ProcBack", spec := "procBack", inPlace := ["internal/bytealg.IndexByteString", "internal/bytealg.IndexString"], unfollowed := true, recurses := true, named := ["unicode/utf8.first", "unicode/utf8.acceptRanges", "internal/bytealg.MaxLen"], apart := false, laid := [("unicode/utf8.acceptRanges", laid_unicode_utf8_acceptRanges), ("unicode/utf8.first", laid_unicode_utf8_first)] }
def ProcBackSaid : Prop := procBackRow.holds Tryz.pinned (OpenSpec.ofChange procBackSpec)

/-- ITS FALSE NEIGHBOUR: 'it returns false'. Refute it at one input. -/
def procBackWrong : ChangeSpec := { name := "procBack", fn := fun _ => fun
  | [d1, d2] => { results := [.lit (.bool false)], args := [d1, d2] }
  | _ => none }
def ProcBackWrongFalsely : Prop := procBackRow.holds Tryz.pinned (OpenSpec.ofChange procBackWrong)

/-- 'whelklaw09.ProcFull': WHATEVER THE INPUT: true; the input reads as it did. -/
def procFullSpec : ChangeSpec := { name := "procFull", fn := fun _ => fun
  | [d1, d2] => { results := [.lit (.bool true)], args := [d1, d2] }
  | _ => none }
def procFullRow : OpenClaim := { program := "yteienbdbhnikbaagreatdoor", sum := "1f5c777b8fd6b6b3f13209c840d29f953cb8d074eae85cd9afa547e1ee5c5d15", func := "whelk/whelklaw09.ProcFull", spec := "procFull", inPlace := ["internal/bytealg.IndexByteString", "internal/bytealg.IndexString"], unfollowed := true, recurses := true, named := ["unicode/utf8.first", "unicode/utf8.acceptRanges", "internal/bytealg.MaxLen"], apart := false, laid := [("unicode/utf8.acceptRanges", laid_unicode_utf8_acceptRanges), ("unicode/utf8.first", laid_unicode_utf8_first)] }
def ProcFullSaid : Prop := procFullRow.holds Tryz.pinned (OpenSpec.ofChange procFullSpec)

/-- ITS FALSE NEIGHBOUR: 'it returns false'. Refute it at one input. -/
def procFullWrong : ChangeSpec := { name := "procFull", fn := fun _ => fun
  | [d1, d2] => { results := [.lit (.bool false)], args := [d1, d2] }
  | _ => none }
def ProcFullWrongFalsely : Prop := procFullRow.holds Tryz.pinned (OpenSpec.ofChange procFullWrong)

/- THE SECOND FORM. 'bulk': how many values and letters a reading holds, each counted each time it is reached (what is shared counts as often as it is met; a slice's spare places count too). A statement '..UptoSaid' is the law's where the arguments, and the package variables that the reading takes, are together of bulk at most 1048576: NARROWER than '..Said'. Prove '..Said' where nothing that the law and all that it calls make is longer than what came in: it says more and counts as full. Else prove '..UptoSaid'. A law counts once. -/
mutual
def uptoBulk {H : Type} : DataW H → Nat
  | .lit (.string bytes) => bytes.length + 1
  | .lit _ => 1
  | .nil => 1
  | .ptr d => uptoBulk d + 1
  | .slice elems spare => uptoBulkAll elems + uptoBulkAll spare + 1
  | .agg parts => uptoBulkAll parts + 1
  | .iface _ d => uptoBulk d + 1
  | .map entries => uptoBulkEntries entries + 1
  | .held _ => 1
def uptoBulkAll {H : Type} : List (DataW H) → Nat
  | [] => 0
  | d :: r => uptoBulk d + uptoBulkAll r
def uptoBulkEntries {H : Type} : List (Lit × DataW H) → Nat
  | [] => 0
  | x :: r => uptoBulkEntry x + uptoBulkEntries r
def uptoBulkEntry {H : Type} : Lit × DataW H → Nat
  | (.string bytes, d) => bytes.length + uptoBulk d + 1
  | (_, d) => uptoBulk d + 1
 end
def uptoSmall : (H : Type) → List (DataW H) → Bool := fun _ ds => decide (uptoBulkAll ds ≤ 1048576)
def OpenSpec.upto (s : _root_.Go.ChangeSpec) : _root_.Go.OpenSpec := { _root_.Go.OpenSpec.ofChange s with cond := some uptoSmall }

/-- 'whelklaw09.ProcNil', WHERE WHAT IT READS IS OF BULK AT MOST 1048576: true; the input reads as it did. -/
def procNilUptoRow : OpenClaim := { program := "yteienbdbhnikbaagreatdoor", sum := "1f5c777b8fd6b6b3f13209c840d29f953cb8d074eae85cd9afa547e1ee5c5d15", func := "whelk/whelklaw09.ProcNil", spec := "procNil", inPlace := ["internal/bytealg.IndexByteString", "internal/bytealg.IndexString"], unfollowed := true, recurses := true, named := ["unicode/utf8.first", "unicode/utf8.acceptRanges", "internal/bytealg.MaxLen"], apart := false, laid := [("unicode/utf8.acceptRanges", laid_unicode_utf8_acceptRanges), ("unicode/utf8.first", laid_unicode_utf8_first)], narrowed := true }
def ProcNilUptoSaid : Prop := procNilUptoRow.holds Tryz.pinned (OpenSpec.upto procNilSpec)

/-- 'whelklaw09.ProcLeaves', WHERE WHAT IT READS IS OF BULK AT MOST 1048576: true; the input reads as it did. -/
def procLeavesUptoRow : OpenClaim := { program := "yteienbdbhnikbaagreatdoor", sum := "1f5c777b8fd6b6b3f13209c840d29f953cb8d074eae85cd9afa547e1ee5c5d15", func := "whelk/whelklaw09.ProcLeaves", spec := "procLeaves", inPlace := ["internal/bytealg.IndexByteString", "internal/bytealg.IndexString"], unfollowed := true, recurses := true, named := ["unicode/utf8.first", "unicode/utf8.acceptRanges", "internal/bytealg.MaxLen"], apart := false, laid := [("unicode/utf8.acceptRanges", laid_unicode_utf8_acceptRanges), ("unicode/utf8.first", laid_unicode_utf8_first)], narrowed := true }
def ProcLeavesUptoSaid : Prop := procLeavesUptoRow.holds Tryz.pinned (OpenSpec.upto procLeavesSpec)

/-- 'whelklaw09.ProcBack', WHERE WHAT IT READS IS OF BULK AT MOST 1048576: true; the input reads as it did. -/
def procBackUptoRow : OpenClaim := { program := "yteienbdbhnikbaagreatdoor", sum := "1f5c777b8fd6b6b3f13209c840d29f953cb8d074eae85cd9afa547e1ee5c5d15", func := "whelk/whelklaw09.ProcBack", spec := "procBack", inPlace := ["internal/bytealg.IndexByteString", "internal/bytealg.IndexString"], unfollowed := true, recurses := true, named := ["unicode/utf8.first", "unicode/utf8.acceptRanges", "internal/bytealg.MaxLen"], apart := false, laid := [("unicode/utf8.acceptRanges", laid_unicode_utf8_acceptRanges), ("unicode/utf8.first", laid_unicode_utf8_first)], narrowed := true }
def ProcBackUptoSaid : Prop := procBackUptoRow.holds Tryz.pinned (OpenSpec.upto procBackSpec)

/-- 'whelklaw09.ProcFull', WHERE WHAT IT READS IS OF BULK AT MOST 1048576: true; the input reads as it did. -/
def procFullUptoRow : OpenClaim := { program := "yteienbdbhnikbaagreatdoor", sum := "1f5c777b8fd6b6b3f13209c840d29f953cb8d074eae85cd9afa547e1ee5c5d15", func := "whelk/whelklaw09.ProcFull", spec := "procFull", inPlace := ["internal/bytealg.IndexByteString", "internal/bytealg.IndexString"], unfollowed := true, recurses := true, named := ["unicode/utf8.first", "unicode/utf8.acceptRanges", "internal/bytealg.MaxLen"], apart := false, laid := [("unicode/utf8.acceptRanges", laid_unicode_utf8_acceptRanges), ("unicode/utf8.first", laid_unicode_utf8_first)], narrowed := true }
def ProcFullUptoSaid : Prop := procFullUptoRow.holds Tryz.pinned (OpenSpec.upto procFullSpec)

end Rows
end Go.Proofs.YteienbdbhnikbaaGreatDoor

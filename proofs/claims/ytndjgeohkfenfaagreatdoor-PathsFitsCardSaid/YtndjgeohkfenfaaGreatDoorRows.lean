/-
  NARROWER THAN 'FOR EVERY INPUT', by the rows' own cells (each row's printed sentence says how): PathsFits: laid · PathsAll: laid · PathsPlain: laid · PathsExpands: laid.
  DERIVED. THE GIVEN ROWS OF THIS SEAT. 4 by the template 'for every input the law returns true; each argument reads behind the call as it read before'; 0 by the template 'total and deterministic' (their statements: YtndjgeohkfenfaaGreatDoorTotals.lean).
  GIVEN WITH THE SEED: the statements are not yours to turn. If you find one false, say at which input.
  Laid BY PROGRAM, IN A SANDBOX (cutbox-rows.mjs): the forced cells as the released guide's own fill.sh prints them over the translation 0395837528e1ddc4… (all of the seat's roots in one cut). By AI agents, Wed Nov 11 2026. No macro, syntax, notation, axiom, sorry.
-/
import Derived.Test.YtndjgeohkfenfaaGreatDoorChecked
import GoSem.PinnedTables
import GoSem.Claim
import GoSem.ClaimJoined
import GoSem.ClaimMapViews
import Derived.JoinedTies
import Derived.KernelRfl
namespace Go.Proofs.YtndjgeohkfenfaaGreatDoor
/- THE CELL 'sum', in the pinned program and in every row, IS THE sha256 OF THE DUMP (.gsa) THAT YtndjgeohkfenfaaGreatDoorProg.lean LOADS. Nothing in Lean hashes anything: it is a label: what it is worth is what the hold of that sum in a sandbox is worth. -/
noncomputable def Tryz.pinned : Pinned := { name := "ytndjgeohkfenfaagreatdoor", sum := "0395837528e1ddc41b91bf5789a9d52625c3c180ca16fbb6622850eb492e6e40", checked := Tryz.checked }
namespace Rows
def none {H : Type} : Left H := { results := [], args := [] }

/- WHAT THE LISTED PACKAGE-LEVEL VARIABLES READ AS WHEN THE CALL BEGINS. Each datum BY PROGRAM (the guide's laid-datum.mjs) off the statement by which the dump's own 'gosem.cut.vars' lays the variable. In a bare row this is a premise. The card (YtndjgeohkfenfaaGreatDoorCards.lean) ties it to the program's text. -/
def laid_unicode_utf8_acceptRanges {H : Type} : DataW H := .agg [.agg [.lit (.int .u8 128), .lit (.int .u8 191)], .agg [.lit (.int .u8 160), .lit (.int .u8 191)], .agg [.lit (.int .u8 128), .lit (.int .u8 159)], .agg [.lit (.int .u8 144), .lit (.int .u8 191)], .agg [.lit (.int .u8 128), .lit (.int .u8 143)], .agg [.lit (.int .u8 0), .lit (.int .u8 0)], .agg [.lit (.int .u8 0), .lit (.int .u8 0)], .agg [.lit (.int .u8 0), .lit (.int .u8 0)], .agg [.lit (.int .u8 0), .lit (.int .u8 0)], .agg [.lit (.int .u8 0), .lit (.int .u8 0)], .agg [.lit (.int .u8 0), .lit (.int .u8 0)], .agg [.lit (.int .u8 0), .lit (.int .u8 0)], .agg [.lit (.int .u8 0), .lit (.int .u8 0)], .agg [.lit (.int .u8 0), .lit (.int .u8 0)], .agg [.lit (.int .u8 0), .lit (.int .u8 0)], .agg [.lit (.int .u8 0), .lit (.int .u8 0)]]
/-- One of Go's own tables, pinned by name: the form's constant. -/
def laid_unicode_utf8_first : DataW Unit := Go.Pinned.utf8First

/-- 'whelklaw17.PathsFits': WHATEVER THE INPUT: true; the input reads as it did. -/
def pathsFitsSpec : ChangeSpec := { name := "pathsFits", fn := fun _ => fun
  | [d1, d2] => { results := [.lit (.bool true)], args := [d1, d2] }
  | _ => none }
def pathsFitsRow : OpenClaim := { program := "ytndjgeohkfenfaagreatdoor", sum := "0395837528e1ddc41b91bf5789a9d52625c3c180ca16fbb6622850eb492e6e40", func := "whelk/whelklaw17.PathsFits", spec := "pathsFits", inPlace := ["internal/bytealg.IndexByteString", "internal/bytealg.IndexString"], unfollowed := true, recurses := true, named := ["unicode/utf8.first", "unicode/utf8.acceptRanges", "internal/bytealg.MaxLen"], apart := false, laid := [("unicode/utf8.acceptRanges", laid_unicode_utf8_acceptRanges), ("unicode/utf8.first", laid_unicode_utf8_first)] }
def PathsFitsSaid : Prop := pathsFitsRow.holds Tryz.pinned (OpenSpec.ofChange pathsFitsSpec)

/-- ITS FALSE NEIGHBOUR: 'it returns false'. Refute it at one input. -/
def pathsFitsWrong : ChangeSpec := { name := "pathsFits", fn := fun _ => fun
  | [d1, d2] => { results := [.lit (.bool false)], args := [d1, d2] }
  | _ => none }
def PathsFitsWrongFalsely : Prop := pathsFitsRow.holds Tryz.pinned (OpenSpec.ofChange pathsFitsWrong)

/-- 'whelklaw17.PathsAll': WHATEVER THE INPUT: true; the input reads as it did. -/
def pathsAllSpec : ChangeSpec := { name := "pathsAll", fn := fun _ => fun
  | [d1, d2] => { results := [.lit (.bool true)], args := [d1, d2] }
  | _ => none }
def pathsAllRow : OpenClaim := { program := "ytndjgeohkfenfaagreatdoor", sum := "0395837528e1ddc41b91bf5789a9d52625c3c180ca16fbb6622850eb492e6e40", func := "whelk/whelklaw17.PathsAll", spec := "pathsAll", inPlace := ["internal/bytealg.IndexByteString", "internal/bytealg.IndexString", "internal/abi.NoEscape", "internal/bytealg.MakeNoZero"], unfollowed := true, recurses := true, named := ["unicode/utf8.first", "unicode/utf8.acceptRanges", "internal/bytealg.MaxLen"], apart := false, laid := [("unicode/utf8.acceptRanges", laid_unicode_utf8_acceptRanges), ("unicode/utf8.first", laid_unicode_utf8_first)] }
def PathsAllSaid : Prop := pathsAllRow.holds Tryz.pinned (OpenSpec.ofChange pathsAllSpec)

/-- ITS FALSE NEIGHBOUR: 'it returns false'. Refute it at one input. -/
def pathsAllWrong : ChangeSpec := { name := "pathsAll", fn := fun _ => fun
  | [d1, d2] => { results := [.lit (.bool false)], args := [d1, d2] }
  | _ => none }
def PathsAllWrongFalsely : Prop := pathsAllRow.holds Tryz.pinned (OpenSpec.ofChange pathsAllWrong)

/-- 'whelklaw17.PathsPlain': WHATEVER THE INPUT: true; the input reads as it did. -/
def pathsPlainSpec : ChangeSpec := { name := "pathsPlain", fn := fun _ => fun
  | [d1, d2] => { results := [.lit (.bool true)], args := [d1, d2] }
  | _ => none }
def pathsPlainRow : OpenClaim := { program := "ytndjgeohkfenfaagreatdoor", sum := "0395837528e1ddc41b91bf5789a9d52625c3c180ca16fbb6622850eb492e6e40", func := "whelk/whelklaw17.PathsPlain", spec := "pathsPlain", inPlace := ["internal/bytealg.IndexByteString", "internal/bytealg.IndexString", "internal/abi.NoEscape", "internal/bytealg.MakeNoZero"], unfollowed := true, recurses := true, named := ["unicode/utf8.first", "unicode/utf8.acceptRanges", "internal/bytealg.MaxLen"], apart := false, laid := [("unicode/utf8.acceptRanges", laid_unicode_utf8_acceptRanges), ("unicode/utf8.first", laid_unicode_utf8_first)] }
def PathsPlainSaid : Prop := pathsPlainRow.holds Tryz.pinned (OpenSpec.ofChange pathsPlainSpec)

/-- ITS FALSE NEIGHBOUR: 'it returns false'. Refute it at one input. -/
def pathsPlainWrong : ChangeSpec := { name := "pathsPlain", fn := fun _ => fun
  | [d1, d2] => { results := [.lit (.bool false)], args := [d1, d2] }
  | _ => none }
def PathsPlainWrongFalsely : Prop := pathsPlainRow.holds Tryz.pinned (OpenSpec.ofChange pathsPlainWrong)

/-- 'whelklaw17.PathsExpands': WHATEVER THE INPUT: true; the input reads as it did. -/
def pathsExpandsSpec : ChangeSpec := { name := "pathsExpands", fn := fun _ => fun
  | [d1, d2, d3] => { results := [.lit (.bool true)], args := [d1, d2, d3] }
  | _ => none }
def pathsExpandsRow : OpenClaim := { program := "ytndjgeohkfenfaagreatdoor", sum := "0395837528e1ddc41b91bf5789a9d52625c3c180ca16fbb6622850eb492e6e40", func := "whelk/whelklaw17.PathsExpands", spec := "pathsExpands", inPlace := ["internal/bytealg.IndexByteString", "internal/bytealg.IndexString", "internal/abi.NoEscape", "internal/bytealg.MakeNoZero", "internal/bytealg.CountString"], unfollowed := true, recurses := true, named := ["unicode/utf8.first", "unicode/utf8.acceptRanges", "internal/bytealg.MaxLen"], apart := false, laid := [("unicode/utf8.acceptRanges", laid_unicode_utf8_acceptRanges), ("unicode/utf8.first", laid_unicode_utf8_first)] }
def PathsExpandsSaid : Prop := pathsExpandsRow.holds Tryz.pinned (OpenSpec.ofChange pathsExpandsSpec)

/-- ITS FALSE NEIGHBOUR: 'it returns false'. Refute it at one input. -/
def pathsExpandsWrong : ChangeSpec := { name := "pathsExpands", fn := fun _ => fun
  | [d1, d2, d3] => { results := [.lit (.bool false)], args := [d1, d2, d3] }
  | _ => none }
def PathsExpandsWrongFalsely : Prop := pathsExpandsRow.holds Tryz.pinned (OpenSpec.ofChange pathsExpandsWrong)

/- THE SECOND FORM. 'bulk': how many values and letters a reading holds, each counted each time it is reached (what is shared counts as often as it is met; a slice's spare places count too). A statement '..UptoSaid' is the law's where the arguments, and the package variables that the reading takes, are together of bulk at most 1048576: NARROWER than '..Said'. Prove '..Said' where nothing that the law and all that it calls make is longer than what came in: it says more and counts as full. Else prove '..UptoSaid'. A law counts once. -/
mutual
def uptoBulk {H : Type} : DataW H → Nat
  | .lit (.string bytes) => bytes.length + 1
  | .lit _ => 1
  | .nil => 1
  | .ptr d => uptoBulk d + 1
  | .slice elems spare => uptoBulkAll elems + uptoBulkAll spare + 1
  | .agg parts => uptoBulkAll parts + 1
  | .iface _ d => uptoBulk d + 1
  | .map entries => uptoBulkEntries entries + 1
  | .held _ => 1
def uptoBulkAll {H : Type} : List (DataW H) → Nat
  | [] => 0
  | d :: r => uptoBulk d + uptoBulkAll r
def uptoBulkEntries {H : Type} : List (Lit × DataW H) → Nat
  | [] => 0
  | x :: r => uptoBulkEntry x + uptoBulkEntries r
def uptoBulkEntry {H : Type} : Lit × DataW H → Nat
  | (.string bytes, d) => bytes.length + uptoBulk d + 1
  | (_, d) => uptoBulk d + 1
 end
def uptoSmall : (H : Type) → List (DataW H) → Bool := fun _ ds => decide (uptoBulkAll ds ≤ 1048576)
def OpenSpec.upto (s : _root_.Go.ChangeSpec) : _root_.Go.OpenSpec := { _root_.Go.OpenSpec.ofChange s with cond := some uptoSmall }

/-- 'whelklaw17.PathsFits', WHERE WHAT IT READS IS OF BULK AT MOST 1048576: true; the input reads as it did. -/
def pathsFitsUptoRow : OpenClaim := { program := "ytndjgeohkfenfaagreatdoor", sum := "0395837528e1ddc41b91bf5789a9d52625c3c180ca16fbb6622850eb492e6e40", func := "whelk/whelklaw17.PathsFits", spec := "pathsFits", inPlace := ["internal/bytealg.IndexByteString", "internal/bytealg.IndexString"], unfollowed := true, recurses := true, named := ["unicode/utf8.first", "unicode/utf8.acceptRanges", "internal/bytealg.MaxLen"], apart := false, laid := [("unicode/utf8.acceptRanges", laid_unicode_utf8_acceptRanges), ("unicode/utf8.first", laid_unicode_utf8_first)], narrowed := true }
def PathsFitsUptoSaid : Prop := pathsFitsUptoRow.holds Tryz.pinned (OpenSpec.upto pathsFitsSpec)

/-- 'whelklaw17.PathsAll', WHERE WHAT IT READS IS OF BULK AT MOST 1048576: true; the input reads as it did. -/
def pathsAllUptoRow : OpenClaim := { program := "ytndjgeohkfenfaagreatdoor", sum := "0395837528e1ddc41b91bf5789a9d52625c3c180ca16fbb6622850eb492e6e40", func := "whelk/whelklaw17.PathsAll", spec := "pathsAll", inPlace := ["internal/bytealg.IndexByteString", "internal/bytealg.IndexString", "internal/abi.NoEscape", "internal/bytealg.MakeNoZero"], unfollowed := true, recurses := true, named := ["unicode/utf8.first", "unicode/utf8.acceptRanges", "internal/bytealg.MaxLen"], apart := false, laid := [("unicode/utf8.acceptRanges", laid_unicode_utf8_acceptRanges), ("unicode/utf8.first", laid_unicode_utf8_first)], narrowed := true }
def PathsAllUptoSaid : Prop := pathsAllUptoRow.holds Tryz.pinned (OpenSpec.upto pathsAllSpec)

/-- 'whelklaw17.PathsPlain', WHERE WHAT IT READS IS OF BULK AT MOST 1048576: true; the input reads as it did. -/
def pathsPlainUptoRow : OpenClaim := { program := "ytndjgeohkfenfaagreatdoor", sum := "0395837528e1ddc41b91bf5789a9d52625c3c180ca16fbb6622850eb492e6e40", func := "whelk/whelklaw17.PathsPlain", spec := "pathsPlain", inPlace := ["internal/bytealg.IndexByteString", "internal/bytealg.IndexString", "internal/abi.NoEscape", "internal/bytealg.MakeNoZero"], unfollowed := true, recurses := true, named := ["unicode/utf8.first", "unicode/utf8.acceptRanges", "internal/bytealg.MaxLen"], apart := false, laid := [("unicode/utf8.acceptRanges", laid_unicode_utf8_acceptRanges), ("unicode/utf8.first", laid_unicode_utf8_first)], narrowed := true }
def PathsPlainUptoSaid : Prop := pathsPlainUptoRow.holds Tryz.pinned (OpenSpec.upto pathsPlainSpec)

/-- 'whelklaw17.PathsExpands', WHERE WHAT IT READS IS OF BULK AT MOST 1048576: true; the input reads as it did. -/
def pathsExpandsUptoRow : OpenClaim := { program := "ytndjgeohkfenfaagreatdoor", sum := "0395837528e1ddc41b91bf5789a9d52625c3c180ca16fbb6622850eb492e6e40", func := "whelk/whelklaw17.PathsExpands", spec := "pathsExpands", inPlace := ["internal/bytealg.IndexByteString", "internal/bytealg.IndexString", "internal/abi.NoEscape", "internal/bytealg.MakeNoZero", "internal/bytealg.CountString"], unfollowed := true, recurses := true, named := ["unicode/utf8.first", "unicode/utf8.acceptRanges", "internal/bytealg.MaxLen"], apart := false, laid := [("unicode/utf8.acceptRanges", laid_unicode_utf8_acceptRanges), ("unicode/utf8.first", laid_unicode_utf8_first)], narrowed := true }
def PathsExpandsUptoSaid : Prop := pathsExpandsUptoRow.holds Tryz.pinned (OpenSpec.upto pathsExpandsSpec)

end Rows
end Go.Proofs.YtndjgeohkfenfaaGreatDoor

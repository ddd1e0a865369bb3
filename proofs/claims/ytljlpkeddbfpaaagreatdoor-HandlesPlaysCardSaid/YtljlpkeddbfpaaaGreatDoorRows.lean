/-
  NARROWER THAN 'FOR EVERY INPUT', by the rows' own cells (each row's printed sentence says how): HandlesMore: laid · HandlesRow: laid · HandlesHeld: laid · HandlesNil: laid · HandlesPlays: laid.
  DERIVED. THE GIVEN ROWS OF THIS SEAT. 5 by the template 'for every input the law returns true; each argument reads behind the call as it read before'; 0 by the template 'total and deterministic' (their statements: YtljlpkeddbfpaaaGreatDoorTotals.lean).
  GIVEN WITH THE SEED: the statements are not yours to turn. If you find one false, say at which input.
  Laid BY PROGRAM, IN A SANDBOX (cutbox-rows.mjs): the forced cells as the released guide's own fill.sh prints them over the translation b0e2329214201ee7… (all of the seat's roots in one cut). By AI agents, Wed Nov 11 2026. No macro, syntax, notation, axiom, sorry.
-/
import Derived.Test.YtljlpkeddbfpaaaGreatDoorChecked
import GoSem.PinnedTables
import GoSem.Claim
import GoSem.ClaimJoined
import GoSem.ClaimMapViews
import Derived.JoinedTies
import Derived.KernelRfl
namespace Go.Proofs.YtljlpkeddbfpaaaGreatDoor
/- THE CELL 'sum', in the pinned program and in every row, IS THE sha256 OF THE DUMP (.gsa) THAT YtljlpkeddbfpaaaGreatDoorProg.lean LOADS. Nothing in Lean hashes anything: it is a label: what it is worth is what the hold of that sum in a sandbox is worth. -/
noncomputable def Tryz.pinned : Pinned := { name := "ytljlpkeddbfpaaagreatdoor", sum := "b0e2329214201ee7c7ed5dc4286dbd8aecb8a720b9696109d700f55718f9e16c", checked := Tryz.checked }
namespace Rows
def none {H : Type} : Left H := { results := [], args := [] }

/- WHAT THE LISTED PACKAGE-LEVEL VARIABLES READ AS WHEN THE CALL BEGINS. Each datum BY PROGRAM (the guide's laid-datum.mjs) off the statement by which the dump's own 'gosem.cut.vars' lays the variable. In a bare row this is a premise. The card (YtljlpkeddbfpaaaGreatDoorCards.lean) ties it to the program's text. -/
def laid_unicode_utf8_acceptRanges {H : Type} : DataW H := .agg [.agg [.lit (.int .u8 128), .lit (.int .u8 191)], .agg [.lit (.int .u8 160), .lit (.int .u8 191)], .agg [.lit (.int .u8 128), .lit (.int .u8 159)], .agg [.lit (.int .u8 144), .lit (.int .u8 191)], .agg [.lit (.int .u8 128), .lit (.int .u8 143)], .agg [.lit (.int .u8 0), .lit (.int .u8 0)], .agg [.lit (.int .u8 0), .lit (.int .u8 0)], .agg [.lit (.int .u8 0), .lit (.int .u8 0)], .agg [.lit (.int .u8 0), .lit (.int .u8 0)], .agg [.lit (.int .u8 0), .lit (.int .u8 0)], .agg [.lit (.int .u8 0), .lit (.int .u8 0)], .agg [.lit (.int .u8 0), .lit (.int .u8 0)], .agg [.lit (.int .u8 0), .lit (.int .u8 0)], .agg [.lit (.int .u8 0), .lit (.int .u8 0)], .agg [.lit (.int .u8 0), .lit (.int .u8 0)], .agg [.lit (.int .u8 0), .lit (.int .u8 0)]]
/-- One of Go's own tables, pinned by name: the form's constant. -/
def laid_unicode_utf8_first : DataW Unit := Go.Pinned.utf8First

/-- 'whelklaw07.HandlesMore': WHATEVER THE INPUT: true; the input reads as it did. -/
def handlesMoreSpec : ChangeSpec := { name := "handlesMore", fn := fun _ => fun
  | [d] => { results := [.lit (.bool true)], args := [d] }
  | _ => none }
def handlesMoreRow : OpenClaim := { program := "ytljlpkeddbfpaaagreatdoor", sum := "b0e2329214201ee7c7ed5dc4286dbd8aecb8a720b9696109d700f55718f9e16c", func := "whelk/whelklaw07.HandlesMore", spec := "handlesMore", inPlace := ["internal/bytealg.IndexByteString", "internal/bytealg.IndexString"], unfollowed := true, recurses := true, named := ["unicode/utf8.first", "unicode/utf8.acceptRanges", "internal/bytealg.MaxLen"], apart := false, laid := [("unicode/utf8.acceptRanges", laid_unicode_utf8_acceptRanges), ("unicode/utf8.first", laid_unicode_utf8_first)] }
def HandlesMoreSaid : Prop := handlesMoreRow.holds Tryz.pinned (OpenSpec.ofChange handlesMoreSpec)

/-- ITS FALSE NEIGHBOUR: 'it returns false'. Refute it at one input. -/
def handlesMoreWrong : ChangeSpec := { name := "handlesMore", fn := fun _ => fun
  | [d] => { results := [.lit (.bool false)], args := [d] }
  | _ => none }
def HandlesMoreWrongFalsely : Prop := handlesMoreRow.holds Tryz.pinned (OpenSpec.ofChange handlesMoreWrong)

/-- 'whelklaw07.HandlesRow': WHATEVER THE INPUT: true; the input reads as it did. -/
def handlesRowSpec : ChangeSpec := { name := "handlesRow", fn := fun _ => fun
  | [d1, d2, d3] => { results := [.lit (.bool true)], args := [d1, d2, d3] }
  | _ => none }
def handlesRowRow : OpenClaim := { program := "ytljlpkeddbfpaaagreatdoor", sum := "b0e2329214201ee7c7ed5dc4286dbd8aecb8a720b9696109d700f55718f9e16c", func := "whelk/whelklaw07.HandlesRow", spec := "handlesRow", inPlace := ["internal/bytealg.IndexByteString", "internal/bytealg.IndexString", "internal/abi.NoEscape", "internal/bytealg.MakeNoZero"], unfollowed := true, recurses := true, named := ["unicode/utf8.first", "unicode/utf8.acceptRanges", "internal/bytealg.MaxLen"], apart := false, laid := [("unicode/utf8.acceptRanges", laid_unicode_utf8_acceptRanges), ("unicode/utf8.first", laid_unicode_utf8_first)] }
def HandlesRowSaid : Prop := handlesRowRow.holds Tryz.pinned (OpenSpec.ofChange handlesRowSpec)

/-- ITS FALSE NEIGHBOUR: 'it returns false'. Refute it at one input. -/
def handlesRowWrong : ChangeSpec := { name := "handlesRow", fn := fun _ => fun
  | [d1, d2, d3] => { results := [.lit (.bool false)], args := [d1, d2, d3] }
  | _ => none }
def HandlesRowWrongFalsely : Prop := handlesRowRow.holds Tryz.pinned (OpenSpec.ofChange handlesRowWrong)

/-- 'whelklaw07.HandlesHeld': WHATEVER THE INPUT: true; the input reads as it did. -/
def handlesHeldSpec : ChangeSpec := { name := "handlesHeld", fn := fun _ => fun
  | [d] => { results := [.lit (.bool true)], args := [d] }
  | _ => none }
def handlesHeldRow : OpenClaim := { program := "ytljlpkeddbfpaaagreatdoor", sum := "b0e2329214201ee7c7ed5dc4286dbd8aecb8a720b9696109d700f55718f9e16c", func := "whelk/whelklaw07.HandlesHeld", spec := "handlesHeld", inPlace := ["internal/bytealg.IndexByteString", "internal/bytealg.IndexString"], unfollowed := true, recurses := true, named := ["unicode/utf8.first", "unicode/utf8.acceptRanges", "internal/bytealg.MaxLen"], apart := false, laid := [("unicode/utf8.acceptRanges", laid_unicode_utf8_acceptRanges), ("unicode/utf8.first", laid_unicode_utf8_first)] }
def HandlesHeldSaid : Prop := handlesHeldRow.holds Tryz.pinned (OpenSpec.ofChange handlesHeldSpec)

/-- ITS FALSE NEIGHBOUR: 'it returns false'. Refute it at one input. -/
def handlesHeldWrong : ChangeSpec := { name := "handlesHeld", fn := fun _ => fun
  | [d] => { results := [.lit (.bool false)], args := [d] }
  | _ => none }
def HandlesHeldWrongFalsely : Prop := handlesHeldRow.holds Tryz.pinned (OpenSpec.ofChange handlesHeldWrong)

/-- 'whelklaw07.HandlesNil': WHATEVER THE INPUT: true; the input reads as it did. -/
def handlesNilSpec : ChangeSpec := { name := "handlesNil", fn := fun _ => fun
  | [d] => { results := [.lit (.bool true)], args := [d] }
  | _ => none }
def handlesNilRow : OpenClaim := { program := "ytljlpkeddbfpaaagreatdoor", sum := "b0e2329214201ee7c7ed5dc4286dbd8aecb8a720b9696109d700f55718f9e16c", func := "whelk/whelklaw07.HandlesNil", spec := "handlesNil", inPlace := ["internal/bytealg.IndexByteString", "internal/bytealg.IndexString"], unfollowed := true, recurses := true, named := ["unicode/utf8.first", "unicode/utf8.acceptRanges", "internal/bytealg.MaxLen"], apart := false, laid := [("unicode/utf8.acceptRanges", laid_unicode_utf8_acceptRanges), ("unicode/utf8.first", laid_unicode_utf8_first)] }
def HandlesNilSaid : Prop := handlesNilRow.holds Tryz.pinned (OpenSpec.ofChange handlesNilSpec)

/-- ITS FALSE NEIGHBOUR: 'it returns false'. Refute it at one input. -/
def handlesNilWrong : ChangeSpec := { name := "handlesNil", fn := fun _ => fun
  | [d] => { results := [.lit (.bool false)], args := [d] }
  | _ => none }
def HandlesNilWrongFalsely : Prop := handlesNilRow.holds Tryz.pinned (OpenSpec.ofChange handlesNilWrong)

/-- 'whelklaw07.HandlesPlays': WHATEVER THE INPUT: true; the input reads as it did. -/
def handlesPlaysSpec : ChangeSpec := { name := "handlesPlays", fn := fun _ => fun
  | [d] => { results := [.lit (.bool true)], args := [d] }
  | _ => none }
def handlesPlaysRow : OpenClaim := { program := "ytljlpkeddbfpaaagreatdoor", sum := "b0e2329214201ee7c7ed5dc4286dbd8aecb8a720b9696109d700f55718f9e16c", func := "whelk/whelklaw07.HandlesPlays", spec := "handlesPlays", inPlace := ["internal/bytealg.IndexByteString", "internal/bytealg.IndexString", "internal/abi.NoEscape", "internal/bytealg.CountString", "internal/bytealg.MakeNoZero"], unfollowed := true, recurses := true, named := ["unicode/utf8.first", "unicode/utf8.acceptRanges", "internal/bytealg.MaxLen"], apart := false, laid := [("unicode/utf8.acceptRanges", laid_unicode_utf8_acceptRanges), ("unicode/utf8.first", laid_unicode_utf8_first)] }
def HandlesPlaysSaid : Prop := handlesPlaysRow.holds Tryz.pinned (OpenSpec.ofChange handlesPlaysSpec)

/-- ITS FALSE NEIGHBOUR: 'it returns false'. Refute it at one input. -/
def handlesPlaysWrong : ChangeSpec := { name := "handlesPlays", fn := fun _ => fun
  | [d] => { results := [.lit (.bool false)], args := [d] }
  | _ => none }
def HandlesPlaysWrongFalsely : Prop := handlesPlaysRow.holds Tryz.pinned (OpenSpec.ofChange handlesPlaysWrong)

/- THE SECOND FORM. 'bulk': how many values and letters a reading holds, each counted each time it is reached (what is shared counts as often as it is met; a slice's spare places count too). A statement '..UptoSaid' is the law's where the arguments, and the package variables that the reading takes, are together of bulk at most 1048576: NARROWER than '..Said'. Prove '..Said' where nothing that the law and all that it calls make is longer than what came in: it says more and counts as full. Else prove '..UptoSaid'. A law counts once. -/
mutual
def uptoBulk {H : Type} : DataW H → Nat
  | .lit (.string bytes) => bytes.length + 1
  | .lit _ => 1
  | .nil => 1
  | .ptr d => uptoBulk d + 1
  | .slice elems spare => uptoBulkAll elems + uptoBulkAll spare + 1
  | .agg parts => uptoBulkAll parts + 1
  | .iface _ d => uptoBulk d + 1
  | .map entries => uptoBulkEntries entries + 1
  | .held _ => 1
def uptoBulkAll {H : Type} : List (DataW H) → Nat
  | [] => 0
  | d :: r => uptoBulk d + uptoBulkAll r
def uptoBulkEntries {H : Type} : List (Lit × DataW H) → Nat
  | [] => 0
  | x :: r => uptoBulkEntry x + uptoBulkEntries r
def uptoBulkEntry {H : Type} : Lit × DataW H → Nat
  | (.string bytes, d) => bytes.length + uptoBulk d + 1
  | (_, d) => uptoBulk d + 1
 end
def uptoSmall : (H : Type) → List (DataW H) → Bool := fun _ ds => decide (uptoBulkAll ds ≤ 1048576)
def OpenSpec.upto (s : _root_.Go.ChangeSpec) : _root_.Go.OpenSpec := { _root_.Go.OpenSpec.ofChange s with cond := some uptoSmall }

/-- 'whelklaw07.HandlesMore', WHERE WHAT IT READS IS OF BULK AT MOST 1048576: true; the input reads as it did. -/
def handlesMoreUptoRow : OpenClaim := { program := "ytljlpkeddbfpaaagreatdoor", sum := "b0e2329214201ee7c7ed5dc4286dbd8aecb8a720b9696109d700f55718f9e16c", func := "whelk/whelklaw07.HandlesMore", spec := "handlesMore", inPlace := ["internal/bytealg.IndexByteString", "internal/bytealg.IndexString"], unfollowed := true, recurses := true, named := ["unicode/utf8.first", "unicode/utf8.acceptRanges", "internal/bytealg.MaxLen"], apart := false, laid := [("unicode/utf8.acceptRanges", laid_unicode_utf8_acceptRanges), ("unicode/utf8.first", laid_unicode_utf8_first)], narrowed := true }
def HandlesMoreUptoSaid : Prop := handlesMoreUptoRow.holds Tryz.pinned (OpenSpec.upto handlesMoreSpec)

/-- 'whelklaw07.HandlesRow', WHERE WHAT IT READS IS OF BULK AT MOST 1048576: true; the input reads as it did. -/
def handlesRowUptoRow : OpenClaim := { program := "ytljlpkeddbfpaaagreatdoor", sum := "b0e2329214201ee7c7ed5dc4286dbd8aecb8a720b9696109d700f55718f9e16c", func := "whelk/whelklaw07.HandlesRow", spec := "handlesRow", inPlace := ["internal/bytealg.IndexByteString", "internal/bytealg.IndexString", "internal/abi.NoEscape", "internal/bytealg.MakeNoZero"], unfollowed := true, recurses := true, named := ["unicode/utf8.first", "unicode/utf8.acceptRanges", "internal/bytealg.MaxLen"], apart := false, laid := [("unicode/utf8.acceptRanges", laid_unicode_utf8_acceptRanges), ("unicode/utf8.first", laid_unicode_utf8_first)], narrowed := true }
def HandlesRowUptoSaid : Prop := handlesRowUptoRow.holds Tryz.pinned (OpenSpec.upto handlesRowSpec)

/-- 'whelklaw07.HandlesHeld', WHERE WHAT IT READS IS OF BULK AT MOST 1048576: true; the input reads as it did. -/
def handlesHeldUptoRow : OpenClaim := { program := "ytljlpkeddbfpaaagreatdoor", sum := "b0e2329214201ee7c7ed5dc4286dbd8aecb8a720b9696109d700f55718f9e16c", func := "whelk/whelklaw07.HandlesHeld", spec := "handlesHeld", inPlace := ["internal/bytealg.IndexByteString", "internal/bytealg.IndexString"], unfollowed := true, recurses := true, named := ["unicode/utf8.first", "unicode/utf8.acceptRanges", "internal/bytealg.MaxLen"], apart := false, laid := [("unicode/utf8.acceptRanges", laid_unicode_utf8_acceptRanges), ("unicode/utf8.first", laid_unicode_utf8_first)], narrowed := true }
def HandlesHeldUptoSaid : Prop := handlesHeldUptoRow.holds Tryz.pinned (OpenSpec.upto handlesHeldSpec)

/-- 'whelklaw07.HandlesNil', WHERE WHAT IT READS IS OF BULK AT MOST 1048576: true; the input reads as it did. -/
def handlesNilUptoRow : OpenClaim := { program := "ytljlpkeddbfpaaagreatdoor", sum := "b0e2329214201ee7c7ed5dc4286dbd8aecb8a720b9696109d700f55718f9e16c", func := "whelk/whelklaw07.HandlesNil", spec := "handlesNil", inPlace := ["internal/bytealg.IndexByteString", "internal/bytealg.IndexString"], unfollowed := true, recurses := true, named := ["unicode/utf8.first", "unicode/utf8.acceptRanges", "internal/bytealg.MaxLen"], apart := false, laid := [("unicode/utf8.acceptRanges", laid_unicode_utf8_acceptRanges), ("unicode/utf8.first", laid_unicode_utf8_first)], narrowed := true }
def HandlesNilUptoSaid : Prop := handlesNilUptoRow.holds Tryz.pinned (OpenSpec.upto handlesNilSpec)

/-- 'whelklaw07.HandlesPlays', WHERE WHAT IT READS IS OF BULK AT MOST 1048576: true; the input reads as it did. -/
def handlesPlaysUptoRow : OpenClaim := { program := "ytljlpkeddbfpaaagreatdoor", sum := "b0e2329214201ee7c7ed5dc4286dbd8aecb8a720b9696109d700f55718f9e16c", func := "whelk/whelklaw07.HandlesPlays", spec := "handlesPlays", inPlace := ["internal/bytealg.IndexByteString", "internal/bytealg.IndexString", "internal/abi.NoEscape", "internal/bytealg.CountString", "internal/bytealg.MakeNoZero"], unfollowed := true, recurses := true, named := ["unicode/utf8.first", "unicode/utf8.acceptRanges", "internal/bytealg.MaxLen"], apart := false, laid := [("unicode/utf8.acceptRanges", laid_unicode_utf8_acceptRanges), ("unicode/utf8.first", laid_unicode_utf8_first)], narrowed := true }
def HandlesPlaysUptoSaid : Prop := handlesPlaysUptoRow.holds Tryz.pinned (OpenSpec.upto handlesPlaysSpec)

end Rows
end Go.Proofs.YtljlpkeddbfpaaaGreatDoor

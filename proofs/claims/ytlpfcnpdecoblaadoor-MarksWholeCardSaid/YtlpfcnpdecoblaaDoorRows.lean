/-
  NARROWER THAN 'FOR EVERY INPUT', by the rows' own cells (each row's printed sentence says how): MarksEscapes: laid · MarksBack: laid · MarksHard: laid · MarksParts: laid · MarksMakes: laid · MarksWhole: laid.
  DERIVED. THE GIVEN ROWS OF THIS SEAT. 6 by the template 'for every input the law returns true; each argument reads behind the call as it read before'; 0 by the template 'total and deterministic' (their statements: YtlpfcnpdecoblaaDoorTotals.lean).
  GIVEN WITH THE SEED: the statements are not yours to turn. If you find one false, say at which input.
  Laid BY PROGRAM, IN A SANDBOX (cutbox-rows.mjs): the forced cells as the released guide's own fill.sh prints them over the translation c9a67a2418a5c500… (all of the seat's roots in one cut). By AI agents, Wed Nov 11 2026. No macro, syntax, notation, axiom, sorry.
-/
import Derived.Test.YtlpfcnpdecoblaaDoorChecked
import GoSem.PinnedTables
import GoSem.Claim
import GoSem.ClaimJoined
import GoSem.ClaimMapViews
import Derived.JoinedTies
import Derived.KernelRfl
namespace Go.Proofs.YtlpfcnpdecoblaaDoor
/- THE CELL 'sum', in the pinned program and in every row, IS THE sha256 OF THE DUMP (.gsa) THAT YtlpfcnpdecoblaaDoorProg.lean LOADS. Nothing in Lean hashes anything: it is a label: what it is worth is what the hold of that sum in a sandbox is worth. -/
noncomputable def Tryd.pinned : Pinned := { name := "ytlpfcnpdecoblaadoor", sum := "c9a67a2418a5c50054cbb1d04448476d5cc7899ee835bdf9727c88f9ad62271f", checked := Tryd.checked }
namespace Rows
def none {H : Type} : Left H := { results := [], args := [] }

/- WHAT THE LISTED PACKAGE-LEVEL VARIABLES READ AS WHEN THE CALL BEGINS. Each datum BY PROGRAM (the guide's laid-datum.mjs) off the statement by which the dump's own 'gosem.cut.vars' lays the variable. In a bare row this is a premise. The card (YtlpfcnpdecoblaaDoorCards.lean) ties it to the program's text. -/
def laid_unicode_utf8_acceptRanges {H : Type} : DataW H := .agg [.agg [.lit (.int .u8 128), .lit (.int .u8 191)], .agg [.lit (.int .u8 160), .lit (.int .u8 191)], .agg [.lit (.int .u8 128), .lit (.int .u8 159)], .agg [.lit (.int .u8 144), .lit (.int .u8 191)], .agg [.lit (.int .u8 128), .lit (.int .u8 143)], .agg [.lit (.int .u8 0), .lit (.int .u8 0)], .agg [.lit (.int .u8 0), .lit (.int .u8 0)], .agg [.lit (.int .u8 0), .lit (.int .u8 0)], .agg [.lit (.int .u8 0), .lit (.int .u8 0)], .agg [.lit (.int .u8 0), .lit (.int .u8 0)], .agg [.lit (.int .u8 0), .lit (.int .u8 0)], .agg [.lit (.int .u8 0), .lit (.int .u8 0)], .agg [.lit (.int .u8 0), .lit (.int .u8 0)], .agg [.lit (.int .u8 0), .lit (.int .u8 0)], .agg [.lit (.int .u8 0), .lit (.int .u8 0)], .agg [.lit (.int .u8 0), .lit (.int .u8 0)]]
/-- One of Go's own tables, pinned by name: the form's constant. -/
def laid_unicode_utf8_first : DataW Unit := Go.Pinned.utf8First

/-- 'whelklaw01.MarksEscapes': WHATEVER THE INPUT: true; the input reads as it did. -/
def marksEscapesSpec : ChangeSpec := { name := "marksEscapes", fn := fun _ => fun
  | [d1, d2] => { results := [.lit (.bool true)], args := [d1, d2] }
  | _ => none }
def marksEscapesRow : OpenClaim := { program := "ytlpfcnpdecoblaadoor", sum := "c9a67a2418a5c50054cbb1d04448476d5cc7899ee835bdf9727c88f9ad62271f", func := "whelk/whelklaw01.MarksEscapes", spec := "marksEscapes", inPlace := ["internal/bytealg.IndexByteString", "internal/abi.NoEscape", "internal/bytealg.IndexString"], unfollowed := true, recurses := true, named := ["unicode/utf8.first", "unicode/utf8.acceptRanges", "internal/bytealg.MaxLen"], apart := false, laid := [("unicode/utf8.acceptRanges", laid_unicode_utf8_acceptRanges), ("unicode/utf8.first", laid_unicode_utf8_first)] }
def MarksEscapesSaid : Prop := marksEscapesRow.holds Tryd.pinned (OpenSpec.ofChange marksEscapesSpec)

/-- ITS FALSE NEIGHBOUR: 'it returns false'. Refute it at one input. -/
def marksEscapesWrong : ChangeSpec := { name := "marksEscapes", fn := fun _ => fun
  | [d1, d2] => { results := [.lit (.bool false)], args := [d1, d2] }
  | _ => none }
def MarksEscapesWrongFalsely : Prop := marksEscapesRow.holds Tryd.pinned (OpenSpec.ofChange marksEscapesWrong)

/-- 'whelklaw01.MarksBack': WHATEVER THE INPUT: true; the input reads as it did. -/
def marksBackSpec : ChangeSpec := { name := "marksBack", fn := fun _ => fun
  | [d] => { results := [.lit (.bool true)], args := [d] }
  | _ => none }
def marksBackRow : OpenClaim := { program := "ytlpfcnpdecoblaadoor", sum := "c9a67a2418a5c50054cbb1d04448476d5cc7899ee835bdf9727c88f9ad62271f", func := "whelk/whelklaw01.MarksBack", spec := "marksBack", inPlace := ["internal/bytealg.IndexByteString", "internal/abi.NoEscape", "internal/bytealg.IndexString"], unfollowed := true, recurses := true, named := ["unicode/utf8.first", "unicode/utf8.acceptRanges", "internal/bytealg.MaxLen"], apart := false, laid := [("unicode/utf8.acceptRanges", laid_unicode_utf8_acceptRanges), ("unicode/utf8.first", laid_unicode_utf8_first)] }
def MarksBackSaid : Prop := marksBackRow.holds Tryd.pinned (OpenSpec.ofChange marksBackSpec)

/-- ITS FALSE NEIGHBOUR: 'it returns false'. Refute it at one input. -/
def marksBackWrong : ChangeSpec := { name := "marksBack", fn := fun _ => fun
  | [d] => { results := [.lit (.bool false)], args := [d] }
  | _ => none }
def MarksBackWrongFalsely : Prop := marksBackRow.holds Tryd.pinned (OpenSpec.ofChange marksBackWrong)

/-- 'whelklaw01.MarksHard': WHATEVER THE INPUT: true; the input reads as it did. -/
def marksHardSpec : ChangeSpec := { name := "marksHard", fn := fun _ => fun
  | [d1, d2] => { results := [.lit (.bool true)], args := [d1, d2] }
  | _ => none }
def marksHardRow : OpenClaim := { program := "ytlpfcnpdecoblaadoor", sum := "c9a67a2418a5c50054cbb1d04448476d5cc7899ee835bdf9727c88f9ad62271f", func := "whelk/whelklaw01.MarksHard", spec := "marksHard", inPlace := ["internal/bytealg.IndexByteString", "internal/abi.NoEscape", "internal/bytealg.IndexString"], unfollowed := true, recurses := true, named := ["unicode/utf8.first", "unicode/utf8.acceptRanges", "internal/bytealg.MaxLen"], apart := false, laid := [("unicode/utf8.acceptRanges", laid_unicode_utf8_acceptRanges), ("unicode/utf8.first", laid_unicode_utf8_first)] }
def MarksHardSaid : Prop := marksHardRow.holds Tryd.pinned (OpenSpec.ofChange marksHardSpec)

/-- ITS FALSE NEIGHBOUR: 'it returns false'. Refute it at one input. -/
def marksHardWrong : ChangeSpec := { name := "marksHard", fn := fun _ => fun
  | [d1, d2] => { results := [.lit (.bool false)], args := [d1, d2] }
  | _ => none }
def MarksHardWrongFalsely : Prop := marksHardRow.holds Tryd.pinned (OpenSpec.ofChange marksHardWrong)

/-- 'whelklaw01.MarksParts': WHATEVER THE INPUT: true; the input reads as it did. -/
def marksPartsSpec : ChangeSpec := { name := "marksParts", fn := fun _ => fun
  | [d1, d2, d3] => { results := [.lit (.bool true)], args := [d1, d2, d3] }
  | _ => none }
def marksPartsRow : OpenClaim := { program := "ytlpfcnpdecoblaadoor", sum := "c9a67a2418a5c50054cbb1d04448476d5cc7899ee835bdf9727c88f9ad62271f", func := "whelk/whelklaw01.MarksParts", spec := "marksParts", inPlace := ["internal/bytealg.IndexByteString", "internal/abi.NoEscape", "internal/bytealg.IndexString"], unfollowed := true, recurses := true, named := ["unicode/utf8.first", "unicode/utf8.acceptRanges", "internal/bytealg.MaxLen"], apart := false, laid := [("unicode/utf8.acceptRanges", laid_unicode_utf8_acceptRanges), ("unicode/utf8.first", laid_unicode_utf8_first)] }
def MarksPartsSaid : Prop := marksPartsRow.holds Tryd.pinned (OpenSpec.ofChange marksPartsSpec)

/-- ITS FALSE NEIGHBOUR: 'it returns false'. Refute it at one input. -/
def marksPartsWrong : ChangeSpec := { name := "marksParts", fn := fun _ => fun
  | [d1, d2, d3] => { results := [.lit (.bool false)], args := [d1, d2, d3] }
  | _ => none }
def MarksPartsWrongFalsely : Prop := marksPartsRow.holds Tryd.pinned (OpenSpec.ofChange marksPartsWrong)

/-- 'whelklaw01.MarksMakes': WHATEVER THE INPUT: true; the input reads as it did. -/
def marksMakesSpec : ChangeSpec := { name := "marksMakes", fn := fun _ => fun
  | [d1, d2, d3] => { results := [.lit (.bool true)], args := [d1, d2, d3] }
  | _ => none }
def marksMakesRow : OpenClaim := { program := "ytlpfcnpdecoblaadoor", sum := "c9a67a2418a5c50054cbb1d04448476d5cc7899ee835bdf9727c88f9ad62271f", func := "whelk/whelklaw01.MarksMakes", spec := "marksMakes", inPlace := ["internal/bytealg.IndexByteString", "internal/abi.NoEscape", "internal/bytealg.IndexString"], unfollowed := true, recurses := true, named := ["unicode/utf8.first", "unicode/utf8.acceptRanges", "internal/bytealg.MaxLen"], apart := false, laid := [("unicode/utf8.acceptRanges", laid_unicode_utf8_acceptRanges), ("unicode/utf8.first", laid_unicode_utf8_first)] }
def MarksMakesSaid : Prop := marksMakesRow.holds Tryd.pinned (OpenSpec.ofChange marksMakesSpec)

/-- ITS FALSE NEIGHBOUR: 'it returns false'. Refute it at one input. -/
def marksMakesWrong : ChangeSpec := { name := "marksMakes", fn := fun _ => fun
  | [d1, d2, d3] => { results := [.lit (.bool false)], args := [d1, d2, d3] }
  | _ => none }
def MarksMakesWrongFalsely : Prop := marksMakesRow.holds Tryd.pinned (OpenSpec.ofChange marksMakesWrong)

/-- 'whelklaw01.MarksWhole': WHATEVER THE INPUT: true; the input reads as it did. -/
def marksWholeSpec : ChangeSpec := { name := "marksWhole", fn := fun _ => fun
  | [d1, d2] => { results := [.lit (.bool true)], args := [d1, d2] }
  | _ => none }
def marksWholeRow : OpenClaim := { program := "ytlpfcnpdecoblaadoor", sum := "c9a67a2418a5c50054cbb1d04448476d5cc7899ee835bdf9727c88f9ad62271f", func := "whelk/whelklaw01.MarksWhole", spec := "marksWhole", inPlace := ["internal/bytealg.IndexByteString", "internal/abi.NoEscape", "internal/bytealg.IndexString"], unfollowed := true, recurses := true, named := ["unicode/utf8.first", "unicode/utf8.acceptRanges", "internal/bytealg.MaxLen"], apart := false, laid := [("unicode/utf8.acceptRanges", laid_unicode_utf8_acceptRanges), ("unicode/utf8.first", laid_unicode_utf8_first)] }
def MarksWholeSaid : Prop := marksWholeRow.holds Tryd.pinned (OpenSpec.ofChange marksWholeSpec)

/-- ITS FALSE NEIGHBOUR: 'it returns false'. Refute it at one input. -/
def marksWholeWrong : ChangeSpec := { name := "marksWhole", fn := fun _ => fun
  | [d1, d2] => { results := [.lit (.bool false)], args := [d1, d2] }
  | _ => none }
def MarksWholeWrongFalsely : Prop := marksWholeRow.holds Tryd.pinned (OpenSpec.ofChange marksWholeWrong)

/- THE SECOND FORM. 'bulk': how many values and letters a reading holds, each counted each time it is reached (what is shared counts as often as it is met; a slice's spare places count too). A statement '..UptoSaid' is the law's where the arguments, and the package variables that the reading takes, are together of bulk at most 1048576: NARROWER than '..Said'. Prove '..Said' where nothing that the law and all that it calls make is longer than what came in: it says more and counts as full. Else prove '..UptoSaid'. A law counts once. -/
mutual
def uptoBulk {H : Type} : DataW H → Nat
  | .lit (.string bytes) => bytes.length + 1
  | .lit _ => 1
  | .nil => 1
  | .ptr d => uptoBulk d + 1
  | .slice elems spare => uptoBulkAll elems + uptoBulkAll spare + 1
  | .agg parts => uptoBulkAll parts + 1
  | .iface _ d => uptoBulk d + 1
  | .map entries => uptoBulkEntries entries + 1
  | .held _ => 1
def uptoBulkAll {H : Type} : List (DataW H) → Nat
  | [] => 0
  | d :: r => uptoBulk d + uptoBulkAll r
def uptoBulkEntries {H : Type} : List (Lit × DataW H) → Nat
  | [] => 0
  | x :: r => uptoBulkEntry x + uptoBulkEntries r
def uptoBulkEntry {H : Type} : Lit × DataW H → Nat
  | (.string bytes, d) => bytes.length + uptoBulk d + 1
  | (_, d) => uptoBulk d + 1
 end
def uptoSmall : (H : Type) → List (DataW H) → Bool := fun _ ds => decide (uptoBulkAll ds ≤ 1048576)
def OpenSpec.upto (s : _root_.Go.ChangeSpec) : _root_.Go.OpenSpec := { _root_.Go.OpenSpec.ofChange s with cond := some uptoSmall }

/-- 'whelklaw01.MarksEscapes', WHERE WHAT IT READS IS OF BULK AT MOST 1048576: true; the input reads as it did. -/
def marksEscapesUptoRow : OpenClaim := { program := "ytlpfcnpdecoblaadoor", sum := "c9a67a2418a5c50054cbb1d04448476d5cc7899ee835bdf9727c88f9ad62271f", func := "whelk/whelklaw01.MarksEscapes", spec := "marksEscapes", inPlace := ["internal/bytealg.IndexByteString", "internal/abi.NoEscape", "internal/bytealg.IndexString"], unfollowed := true, recurses := true, named := ["unicode/utf8.first", "unicode/utf8.acceptRanges", "internal/bytealg.MaxLen"], apart := false, laid := [("unicode/utf8.acceptRanges", laid_unicode_utf8_acceptRanges), ("unicode/utf8.first", laid_unicode_utf8_first)], narrowed := true }
def MarksEscapesUptoSaid : Prop := marksEscapesUptoRow.holds Tryd.pinned (OpenSpec.upto marksEscapesSpec)

/-- 'whelklaw01.MarksBack', WHERE WHAT IT READS IS OF BULK AT MOST 1048576: true; the input reads as it did. -/
def marksBackUptoRow : OpenClaim := { program := "ytlpfcnpdecoblaadoor", sum := "c9a67a2418a5c50054cbb1d04448476d5cc7899ee835bdf9727c88f9ad62271f", func := "whelk/whelklaw01.MarksBack", spec := "marksBack", inPlace := ["internal/bytealg.IndexByteString", "internal/abi.NoEscape", "internal/bytealg.IndexString"], unfollowed := true, recurses := true, named := ["unicode/utf8.first", "unicode/utf8.acceptRanges", "internal/bytealg.MaxLen"], apart := false, laid := [("unicode/utf8.acceptRanges", laid_unicode_utf8_acceptRanges), ("unicode/utf8.first", laid_unicode_utf8_first)], narrowed := true }
def MarksBackUptoSaid : Prop := marksBackUptoRow.holds Tryd.pinned (OpenSpec.upto marksBackSpec)

/-- 'whelklaw01.MarksHard', WHERE WHAT IT READS IS OF BULK AT MOST 1048576: true; the input reads as it did. -/
def marksHardUptoRow : OpenClaim := { program := "ytlpfcnpdecoblaadoor", sum := "c9a67a2418a5c50054cbb1d04448476d5cc7899ee835bdf9727c88f9ad62271f", func := "whelk/whelklaw01.MarksHard", spec := "marksHard", inPlace := ["internal/bytealg.IndexByteString", "internal/abi.NoEscape", "internal/bytealg.IndexString"], unfollowed := true, recurses := true, named := ["unicode/utf8.first", "unicode/utf8.acceptRanges", "internal/bytealg.MaxLen"], apart := false, laid := [("unicode/utf8.acceptRanges", laid_unicode_utf8_acceptRanges), ("unicode/utf8.first", laid_unicode_utf8_first)], narrowed := true }
def MarksHardUptoSaid : Prop := marksHardUptoRow.holds Tryd.pinned (OpenSpec.upto marksHardSpec)

/-- 'whelklaw01.MarksParts', WHERE WHAT IT READS IS OF BULK AT MOST 1048576: true; the input reads as it did. -/
def marksPartsUptoRow : OpenClaim := { program := "ytlpfcnpdecoblaadoor", sum := "c9a67a2418a5c50054cbb1d04448476d5cc7899ee835bdf9727c88f9ad62271f", func := "whelk/whelklaw01.MarksParts", spec := "marksParts", inPlace := ["internal/bytealg.IndexByteString", "internal/abi.NoEscape", "internal/bytealg.IndexString"], unfollowed := true, recurses := true, named := ["unicode/utf8.first", "unicode/utf8.acceptRanges", "internal/bytealg.MaxLen"], apart := false, laid := [("unicode/utf8.acceptRanges", laid_unicode_utf8_acceptRanges), ("unicode/utf8.first", laid_unicode_utf8_first)], narrowed := true }
def MarksPartsUptoSaid : Prop := marksPartsUptoRow.holds Tryd.pinned (OpenSpec.upto marksPartsSpec)

/-- 'whelklaw01.MarksMakes', WHERE WHAT IT READS IS OF BULK AT MOST 1048576: true; the input reads as it did. -/
def marksMakesUptoRow : OpenClaim := { program := "ytlpfcnpdecoblaadoor", sum := "c9a67a2418a5c50054cbb1d04448476d5cc7899ee835bdf9727c88f9ad62271f", func := "whelk/whelklaw01.MarksMakes", spec := "marksMakes", inPlace := ["internal/bytealg.IndexByteString", "internal/abi.NoEscape", "internal/bytealg.IndexString"], unfollowed := true, recurses := true, named := ["unicode/utf8.first", "unicode/utf8.acceptRanges", "internal/bytealg.MaxLen"], apart := false, laid := [("unicode/utf8.acceptRanges", laid_unicode_utf8_acceptRanges), ("unicode/utf8.first", laid_unicode_utf8_first)], narrowed := true }
def MarksMakesUptoSaid : Prop := marksMakesUptoRow.holds Tryd.pinned (OpenSpec.upto marksMakesSpec)

/-- 'whelklaw01.MarksWhole', WHERE WHAT IT READS IS OF BULK AT MOST 1048576: true; the input reads as it did. -/
def marksWholeUptoRow : OpenClaim := { program := "ytlpfcnpdecoblaadoor", sum := "c9a67a2418a5c50054cbb1d04448476d5cc7899ee835bdf9727c88f9ad62271f", func := "whelk/whelklaw01.MarksWhole", spec := "marksWhole", inPlace := ["internal/bytealg.IndexByteString", "internal/abi.NoEscape", "internal/bytealg.IndexString"], unfollowed := true, recurses := true, named := ["unicode/utf8.first", "unicode/utf8.acceptRanges", "internal/bytealg.MaxLen"], apart := false, laid := [("unicode/utf8.acceptRanges", laid_unicode_utf8_acceptRanges), ("unicode/utf8.first", laid_unicode_utf8_first)], narrowed := true }
def MarksWholeUptoSaid : Prop := marksWholeUptoRow.holds Tryd.pinned (OpenSpec.upto marksWholeSpec)

end Rows
end Go.Proofs.YtlpfcnpdecoblaaDoor

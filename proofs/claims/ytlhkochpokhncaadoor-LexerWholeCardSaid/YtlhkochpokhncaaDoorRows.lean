/-
  NARROWER THAN 'FOR EVERY INPUT', by the rows' own cells (each row's printed sentence says how): LexerAll: laid · LexerDocs: laid · LexerStays: laid · LexerTiles: laid · LexerNext: laid · LexerWhole: laid.
  DERIVED. THE GIVEN ROWS OF THIS SEAT. 6 by the template 'for every input the law returns true; each argument reads behind the call as it read before'; 0 by the template 'total and deterministic' (their statements: YtlhkochpokhncaaDoorTotals.lean).
  GIVEN WITH THE SEED: the statements are not yours to turn. If you find one false, say at which input.
  Laid BY PROGRAM, IN A SANDBOX (cutbox-rows.mjs): the forced cells as the released guide's own fill.sh prints them over the translation 1d03cefaa11ec47e… (all of the seat's roots in one cut). By AI agents, Wed Nov 11 2026. No macro, syntax, notation, axiom, sorry.
-/
import Derived.Test.YtlhkochpokhncaaDoorChecked
import GoSem.PinnedTables
import GoSem.Claim
import GoSem.ClaimJoined
import GoSem.ClaimMapViews
import Derived.JoinedTies
import Derived.KernelRfl
namespace Go.Proofs.YtlhkochpokhncaaDoor
/- THE CELL 'sum', in the pinned program and in every row, IS THE sha256 OF THE DUMP (.gsa) THAT YtlhkochpokhncaaDoorProg.lean LOADS. Nothing in Lean hashes anything: it is a label: what it is worth is what the hold of that sum in a sandbox is worth. -/
noncomputable def Tryd.pinned : Pinned := { name := "ytlhkochpokhncaadoor", sum := "1d03cefaa11ec47e453f35b1b8f4931252f63eb922275727788071444b0cfba8", checked := Tryd.checked }
namespace Rows
def none {H : Type} : Left H := { results := [], args := [] }

/- WHAT THE LISTED PACKAGE-LEVEL VARIABLES READ AS WHEN THE CALL BEGINS. Each datum BY PROGRAM (the guide's laid-datum.mjs) off the statement by which the dump's own 'gosem.cut.vars' lays the variable. In a bare row this is a premise. The card (YtlhkochpokhncaaDoorCards.lean) ties it to the program's text. -/
def laid_unicode_utf8_acceptRanges {H : Type} : DataW H := .agg [.agg [.lit (.int .u8 128), .lit (.int .u8 191)], .agg [.lit (.int .u8 160), .lit (.int .u8 191)], .agg [.lit (.int .u8 128), .lit (.int .u8 159)], .agg [.lit (.int .u8 144), .lit (.int .u8 191)], .agg [.lit (.int .u8 128), .lit (.int .u8 143)], .agg [.lit (.int .u8 0), .lit (.int .u8 0)], .agg [.lit (.int .u8 0), .lit (.int .u8 0)], .agg [.lit (.int .u8 0), .lit (.int .u8 0)], .agg [.lit (.int .u8 0), .lit (.int .u8 0)], .agg [.lit (.int .u8 0), .lit (.int .u8 0)], .agg [.lit (.int .u8 0), .lit (.int .u8 0)], .agg [.lit (.int .u8 0), .lit (.int .u8 0)], .agg [.lit (.int .u8 0), .lit (.int .u8 0)], .agg [.lit (.int .u8 0), .lit (.int .u8 0)], .agg [.lit (.int .u8 0), .lit (.int .u8 0)], .agg [.lit (.int .u8 0), .lit (.int .u8 0)]]
/-- One of Go's own tables, pinned by name: the form's constant. -/
def laid_unicode_utf8_first : DataW Unit := Go.Pinned.utf8First

/-- 'whelklaw11.LexerAll': WHATEVER THE INPUT: true; the input reads as it did. -/
def lexerAllSpec : ChangeSpec := { name := "lexerAll", fn := fun _ => fun
  | [d] => { results := [.lit (.bool true)], args := [d] }
  | _ => none }
def lexerAllRow : OpenClaim := { program := "ytlhkochpokhncaadoor", sum := "1d03cefaa11ec47e453f35b1b8f4931252f63eb922275727788071444b0cfba8", func := "whelk/whelklaw11.LexerAll", spec := "lexerAll", inPlace := ["internal/bytealg.IndexByteString", "internal/bytealg.IndexString", "internal/abi.NoEscape"], unfollowed := true, recurses := true, named := ["unicode/utf8.first", "unicode/utf8.acceptRanges", "internal/bytealg.MaxLen"], apart := false, laid := [("unicode/utf8.acceptRanges", laid_unicode_utf8_acceptRanges), ("unicode/utf8.first", laid_unicode_utf8_first)] }
def LexerAllSaid : Prop := lexerAllRow.holds Tryd.pinned (OpenSpec.ofChange lexerAllSpec)

/-- ITS FALSE NEIGHBOUR: 'it returns false'. Refute it at one input. -/
def lexerAllWrong : ChangeSpec := { name := "lexerAll", fn := fun _ => fun
  | [d] => { results := [.lit (.bool false)], args := [d] }
  | _ => none }
def LexerAllWrongFalsely : Prop := lexerAllRow.holds Tryd.pinned (OpenSpec.ofChange lexerAllWrong)

/-- 'whelklaw11.LexerDocs': WHATEVER THE INPUT: true; the input reads as it did. -/
def lexerDocsSpec : ChangeSpec := { name := "lexerDocs", fn := fun _ => fun
  | [d1, d2, d3] => { results := [.lit (.bool true)], args := [d1, d2, d3] }
  | _ => none }
def lexerDocsRow : OpenClaim := { program := "ytlhkochpokhncaadoor", sum := "1d03cefaa11ec47e453f35b1b8f4931252f63eb922275727788071444b0cfba8", func := "whelk/whelklaw11.LexerDocs", spec := "lexerDocs", inPlace := ["internal/bytealg.IndexByteString", "internal/bytealg.IndexString", "internal/abi.NoEscape"], unfollowed := true, recurses := true, named := ["unicode/utf8.first", "unicode/utf8.acceptRanges", "internal/bytealg.MaxLen"], apart := false, laid := [("unicode/utf8.acceptRanges", laid_unicode_utf8_acceptRanges), ("unicode/utf8.first", laid_unicode_utf8_first)] }
def LexerDocsSaid : Prop := lexerDocsRow.holds Tryd.pinned (OpenSpec.ofChange lexerDocsSpec)

/-- ITS FALSE NEIGHBOUR: 'it returns false'. Refute it at one input. -/
def lexerDocsWrong : ChangeSpec := { name := "lexerDocs", fn := fun _ => fun
  | [d1, d2, d3] => { results := [.lit (.bool false)], args := [d1, d2, d3] }
  | _ => none }
def LexerDocsWrongFalsely : Prop := lexerDocsRow.holds Tryd.pinned (OpenSpec.ofChange lexerDocsWrong)

/-- 'whelklaw11.LexerStays': WHATEVER THE INPUT: true; the input reads as it did. -/
def lexerStaysSpec : ChangeSpec := { name := "lexerStays", fn := fun _ => fun
  | [d1, d2, d3] => { results := [.lit (.bool true)], args := [d1, d2, d3] }
  | _ => none }
def lexerStaysRow : OpenClaim := { program := "ytlhkochpokhncaadoor", sum := "1d03cefaa11ec47e453f35b1b8f4931252f63eb922275727788071444b0cfba8", func := "whelk/whelklaw11.LexerStays", spec := "lexerStays", inPlace := ["internal/bytealg.IndexByteString", "internal/bytealg.IndexString", "internal/abi.NoEscape"], unfollowed := true, recurses := true, named := ["unicode/utf8.first", "unicode/utf8.acceptRanges", "internal/bytealg.MaxLen"], apart := false, laid := [("unicode/utf8.acceptRanges", laid_unicode_utf8_acceptRanges), ("unicode/utf8.first", laid_unicode_utf8_first)] }
def LexerStaysSaid : Prop := lexerStaysRow.holds Tryd.pinned (OpenSpec.ofChange lexerStaysSpec)

/-- ITS FALSE NEIGHBOUR: 'it returns false'. Refute it at one input. -/
def lexerStaysWrong : ChangeSpec := { name := "lexerStays", fn := fun _ => fun
  | [d1, d2, d3] => { results := [.lit (.bool false)], args := [d1, d2, d3] }
  | _ => none }
def LexerStaysWrongFalsely : Prop := lexerStaysRow.holds Tryd.pinned (OpenSpec.ofChange lexerStaysWrong)

/-- 'whelklaw11.LexerTiles': WHATEVER THE INPUT: true; the input reads as it did. -/
def lexerTilesSpec : ChangeSpec := { name := "lexerTiles", fn := fun _ => fun
  | [d] => { results := [.lit (.bool true)], args := [d] }
  | _ => none }
def lexerTilesRow : OpenClaim := { program := "ytlhkochpokhncaadoor", sum := "1d03cefaa11ec47e453f35b1b8f4931252f63eb922275727788071444b0cfba8", func := "whelk/whelklaw11.LexerTiles", spec := "lexerTiles", inPlace := ["internal/bytealg.IndexByteString", "internal/bytealg.IndexString", "internal/abi.NoEscape"], unfollowed := true, recurses := true, named := ["unicode/utf8.first", "unicode/utf8.acceptRanges", "internal/bytealg.MaxLen"], apart := false, laid := [("unicode/utf8.acceptRanges", laid_unicode_utf8_acceptRanges), ("unicode/utf8.first", laid_unicode_utf8_first)] }
def LexerTilesSaid : Prop := lexerTilesRow.holds Tryd.pinned (OpenSpec.ofChange lexerTilesSpec)

/-- ITS FALSE NEIGHBOUR: 'it returns false'. Refute it at one input. -/
def lexerTilesWrong : ChangeSpec := { name := "lexerTiles", fn := fun _ => fun
  | [d] => { results := [.lit (.bool false)], args := [d] }
  | _ => none }
def LexerTilesWrongFalsely : Prop := lexerTilesRow.holds Tryd.pinned (OpenSpec.ofChange lexerTilesWrong)

/-- 'whelklaw11.LexerNext': WHATEVER THE INPUT: true; the input reads as it did. -/
def lexerNextSpec : ChangeSpec := { name := "lexerNext", fn := fun _ => fun
  | [d1, d2] => { results := [.lit (.bool true)], args := [d1, d2] }
  | _ => none }
def lexerNextRow : OpenClaim := { program := "ytlhkochpokhncaadoor", sum := "1d03cefaa11ec47e453f35b1b8f4931252f63eb922275727788071444b0cfba8", func := "whelk/whelklaw11.LexerNext", spec := "lexerNext", inPlace := ["internal/bytealg.IndexByteString", "internal/bytealg.IndexString", "internal/abi.NoEscape"], unfollowed := true, recurses := true, named := ["unicode/utf8.first", "unicode/utf8.acceptRanges", "internal/bytealg.MaxLen"], apart := false, laid := [("unicode/utf8.acceptRanges", laid_unicode_utf8_acceptRanges), ("unicode/utf8.first", laid_unicode_utf8_first)] }
def LexerNextSaid : Prop := lexerNextRow.holds Tryd.pinned (OpenSpec.ofChange lexerNextSpec)

/-- ITS FALSE NEIGHBOUR: 'it returns false'. Refute it at one input. -/
def lexerNextWrong : ChangeSpec := { name := "lexerNext", fn := fun _ => fun
  | [d1, d2] => { results := [.lit (.bool false)], args := [d1, d2] }
  | _ => none }
def LexerNextWrongFalsely : Prop := lexerNextRow.holds Tryd.pinned (OpenSpec.ofChange lexerNextWrong)

/-- 'whelklaw11.LexerWhole': WHATEVER THE INPUT: true; the input reads as it did. -/
def lexerWholeSpec : ChangeSpec := { name := "lexerWhole", fn := fun _ => fun
  | [d] => { results := [.lit (.bool true)], args := [d] }
  | _ => none }
def lexerWholeRow : OpenClaim := { program := "ytlhkochpokhncaadoor", sum := "1d03cefaa11ec47e453f35b1b8f4931252f63eb922275727788071444b0cfba8", func := "whelk/whelklaw11.LexerWhole", spec := "lexerWhole", inPlace := ["internal/bytealg.IndexByteString", "internal/bytealg.IndexString", "internal/abi.NoEscape"], unfollowed := true, recurses := true, named := ["unicode/utf8.first", "unicode/utf8.acceptRanges", "internal/bytealg.MaxLen"], apart := false, laid := [("unicode/utf8.acceptRanges", laid_unicode_utf8_acceptRanges), ("unicode/utf8.first", laid_unicode_utf8_first)] }
def LexerWholeSaid : Prop := lexerWholeRow.holds Tryd.pinned (OpenSpec.ofChange lexerWholeSpec)

/-- ITS FALSE NEIGHBOUR: 'it returns false'. Refute it at one input. -/
def lexerWholeWrong : ChangeSpec := { name := "lexerWhole", fn := fun _ => fun
  | [d] => { results := [.lit (.bool false)], args := [d] }
  | _ => none }
def LexerWholeWrongFalsely : Prop := lexerWholeRow.holds Tryd.pinned (OpenSpec.ofChange lexerWholeWrong)

/- THE SECOND FORM. 'bulk': how many values and letters a reading holds, each counted each time it is reached (what is shared counts as often as it is met; a slice's spare places count too). A statement '..UptoSaid' is the law's where the arguments, and the package variables that the reading takes, are together of bulk at most 1048576: NARROWER than '..Said'. Prove '..Said' where nothing that the law and all that it calls make is longer than what came in: it says more and counts as full. Else prove '..UptoSaid'. A law counts once. -/
mutual
def uptoBulk {H : Type} : DataW H → Nat
  | .lit (.string bytes) => bytes.length + 1
  | .lit _ => 1
  | .nil => 1
  | .ptr d => uptoBulk d + 1
  | .slice elems spare => uptoBulkAll elems + uptoBulkAll spare + 1
  | .agg parts => uptoBulkAll parts + 1
  | .iface _ d => uptoBulk d + 1
  | .map entries => uptoBulkEntries entries + 1
  | .held _ => 1
def uptoBulkAll {H : Type} : List (DataW H) → Nat
  | [] => 0
  | d :: r => uptoBulk d + uptoBulkAll r
def uptoBulkEntries {H : Type} : List (Lit × DataW H) → Nat
  | [] => 0
  | x :: r => uptoBulkEntry x + uptoBulkEntries r
def uptoBulkEntry {H : Type} : Lit × DataW H → Nat
  | (.string bytes, d) => bytes.length + uptoBulk d + 1
  | (_, d) => uptoBulk d + 1
 end
def uptoSmall : (H : Type) → List (DataW H) → Bool := fun _ ds => decide (uptoBulkAll ds ≤ 1048576)
def OpenSpec.upto (s : _root_.Go.ChangeSpec) : _root_.Go.OpenSpec := { _root_.Go.OpenSpec.ofChange s with cond := some uptoSmall }

/-- 'whelklaw11.LexerAll', WHERE WHAT IT READS IS OF BULK AT MOST 1048576: true; the input reads as it did. -/
def lexerAllUptoRow : OpenClaim := { program := "ytlhkochpokhncaadoor", sum := "1d03cefaa11ec47e453f35b1b8f4931252f63eb922275727788071444b0cfba8", func := "whelk/whelklaw11.LexerAll", spec := "lexerAll", inPlace := ["internal/bytealg.IndexByteString", "internal/bytealg.IndexString", "internal/abi.NoEscape"], unfollowed := true, recurses := true, named := ["unicode/utf8.first", "unicode/utf8.acceptRanges", "internal/bytealg.MaxLen"], apart := false, laid := [("unicode/utf8.acceptRanges", laid_unicode_utf8_acceptRanges), ("unicode/utf8.first", laid_unicode_utf8_first)], narrowed := true }
def LexerAllUptoSaid : Prop := lexerAllUptoRow.holds Tryd.pinned (OpenSpec.upto lexerAllSpec)

/-- 'whelklaw11.LexerDocs', WHERE WHAT IT READS IS OF BULK AT MOST 1048576: true; the input reads as it did. -/
def lexerDocsUptoRow : OpenClaim := { program := "ytlhkochpokhncaadoor", sum := "1d03cefaa11ec47e453f35b1b8f4931252f63eb922275727788071444b0cfba8", func := "whelk/whelklaw11.LexerDocs", spec := "lexerDocs", inPlace := ["internal/bytealg.IndexByteString", "internal/bytealg.IndexString", "internal/abi.NoEscape"], unfollowed := true, recurses := true, named := ["unicode/utf8.first", "unicode/utf8.acceptRanges", "internal/bytealg.MaxLen"], apart := false, laid := [("unicode/utf8.acceptRanges", laid_unicode_utf8_acceptRanges), ("unicode/utf8.first", laid_unicode_utf8_first)], narrowed := true }
def LexerDocsUptoSaid : Prop := lexerDocsUptoRow.holds Tryd.pinned (OpenSpec.upto lexerDocsSpec)

/-- 'whelklaw11.LexerStays', WHERE WHAT IT READS IS OF BULK AT MOST 1048576: true; the input reads as it did. -/
def lexerStaysUptoRow : OpenClaim := { program := "ytlhkochpokhncaadoor", sum := "1d03cefaa11ec47e453f35b1b8f4931252f63eb922275727788071444b0cfba8", func := "whelk/whelklaw11.LexerStays", spec := "lexerStays", inPlace := ["internal/bytealg.IndexByteString", "internal/bytealg.IndexString", "internal/abi.NoEscape"], unfollowed := true, recurses := true, named := ["unicode/utf8.first", "unicode/utf8.acceptRanges", "internal/bytealg.MaxLen"], apart := false, laid := [("unicode/utf8.acceptRanges", laid_unicode_utf8_acceptRanges), ("unicode/utf8.first", laid_unicode_utf8_first)], narrowed := true }
def LexerStaysUptoSaid : Prop := lexerStaysUptoRow.holds Tryd.pinned (OpenSpec.upto lexerStaysSpec)

/-- 'whelklaw11.LexerTiles', WHERE WHAT IT READS IS OF BULK AT MOST 1048576: true; the input reads as it did. -/
def lexerTilesUptoRow : OpenClaim := { program := "ytlhkochpokhncaadoor", sum := "1d03cefaa11ec47e453f35b1b8f4931252f63eb922275727788071444b0cfba8", func := "whelk/whelklaw11.LexerTiles", spec := "lexerTiles", inPlace := ["internal/bytealg.IndexByteString", "internal/bytealg.IndexString", "internal/abi.NoEscape"], unfollowed := true, recurses := true, named := ["unicode/utf8.first", "unicode/utf8.acceptRanges", "internal/bytealg.MaxLen"], apart := false, laid := [("unicode/utf8.acceptRanges", laid_unicode_utf8_acceptRanges), ("unicode/utf8.first", laid_unicode_utf8_first)], narrowed := true }
def LexerTilesUptoSaid : Prop := lexerTilesUptoRow.holds Tryd.pinned (OpenSpec.upto lexerTilesSpec)

/-- 'whelklaw11.LexerNext', WHERE WHAT IT READS IS OF BULK AT MOST 1048576: true; the input reads as it did. -/
def lexerNextUptoRow : OpenClaim := { program := "ytlhkochpokhncaadoor", sum := "1d03cefaa11ec47e453f35b1b8f4931252f63eb922275727788071444b0cfba8", func := "whelk/whelklaw11.LexerNext", spec := "lexerNext", inPlace := ["internal/bytealg.IndexByteString", "internal/bytealg.IndexString", "internal/abi.NoEscape"], unfollowed := true, recurses := true, named := ["unicode/utf8.first", "unicode/utf8.acceptRanges", "internal/bytealg.MaxLen"], apart := false, laid := [("unicode/utf8.acceptRanges", laid_unicode_utf8_acceptRanges), ("unicode/utf8.first", laid_unicode_utf8_first)], narrowed := true }
def LexerNextUptoSaid : Prop := lexerNextUptoRow.holds Tryd.pinned (OpenSpec.upto lexerNextSpec)

/-- 'whelklaw11.LexerWhole', WHERE WHAT IT READS IS OF BULK AT MOST 1048576: true; the input reads as it did. -/
def lexerWholeUptoRow : OpenClaim := { program := "ytlhkochpokhncaadoor", sum := "1d03cefaa11ec47e453f35b1b8f4931252f63eb922275727788071444b0cfba8", func := "whelk/whelklaw11.LexerWhole", spec := "lexerWhole", inPlace := ["internal/bytealg.IndexByteString", "internal/bytealg.IndexString", "internal/abi.NoEscape"], unfollowed := true, recurses := true, named := ["unicode/utf8.first", "unicode/utf8.acceptRanges", "internal/bytealg.MaxLen"], apart := false, laid := [("unicode/utf8.acceptRanges", laid_unicode_utf8_acceptRanges), ("unicode/utf8.first", laid_unicode_utf8_first)], narrowed := true }
def LexerWholeUptoSaid : Prop := lexerWholeUptoRow.holds Tryd.pinned (OpenSpec.upto lexerWholeSpec)

end Rows
end Go.Proofs.YtlhkochpokhncaaDoor

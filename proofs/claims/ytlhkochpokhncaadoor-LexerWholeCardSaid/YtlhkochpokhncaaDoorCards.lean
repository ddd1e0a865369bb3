/-
  DERIVED. GIVEN WITH THE SEED: THE CARDS: each row of YtlhkochpokhncaaDoorRows.lean that lists a variable, with what it lists TIED to the program's text (the seventh form; the later family's looks); each row that meets fmt, with fmt's text TOLD by the authors' own Lean function (tested against real Go, not proved from fmt's source: count such statements apart). THE CARD IS WHAT COUNTS. Prove the row's statement (the work); the ties are given (YtlhkochpokhncaaDoorTie.lean); close each card by the builder's one call (the guide's Derived/Test/ToyasCard.lean, 'card_holds'). Laid BY PROGRAM, IN A SANDBOX (cutbox-door.mjs). By AI agents, Wed Nov 11 2026. No macro, syntax, notation, axiom, sorry.
-/
import Derived.Test.YtlhkochpokhncaaDoorRows
import GoSem.ClaimSeven
namespace Go.Proofs.YtlhkochpokhncaaDoor
namespace Rows

/-- THE TIED CARD OF 'whelklaw11.LexerAll'. -/
def lexerAllCard : Claim7 := { stood := { row := lexerAllRow, standIns := [], harness := (true, "4c79555ad02daef53123237e431fdc6bc5e59d07fbb8e17f724265a7ee9d4d92"), looks := false }, kinds := [], alts := [], laidByText := true, laidKinds := [.data, .pinned], laidTests := true, laidLooks := .later }
def LexerAllCardSaid : Prop := Claim7.holds Tryd.pinned (.plain (OpenSpec.ofChange lexerAllSpec)) lexerAllCard

/-- THE TIED CARD OF 'whelklaw11.LexerDocs'. -/
def lexerDocsCard : Claim7 := { stood := { row := lexerDocsRow, standIns := [], harness := (true, "4c79555ad02daef53123237e431fdc6bc5e59d07fbb8e17f724265a7ee9d4d92"), looks := false }, kinds := [], alts := [], laidByText := true, laidKinds := [.data, .pinned], laidTests := true, laidLooks := .later }
def LexerDocsCardSaid : Prop := Claim7.holds Tryd.pinned (.plain (OpenSpec.ofChange lexerDocsSpec)) lexerDocsCard

/-- THE TIED CARD OF 'whelklaw11.LexerStays'. -/
def lexerStaysCard : Claim7 := { stood := { row := lexerStaysRow, standIns := [], harness := (true, "4c79555ad02daef53123237e431fdc6bc5e59d07fbb8e17f724265a7ee9d4d92"), looks := false }, kinds := [], alts := [], laidByText := true, laidKinds := [.data, .pinned], laidTests := true, laidLooks := .later }
def LexerStaysCardSaid : Prop := Claim7.holds Tryd.pinned (.plain (OpenSpec.ofChange lexerStaysSpec)) lexerStaysCard

/-- THE TIED CARD OF 'whelklaw11.LexerTiles'. -/
def lexerTilesCard : Claim7 := { stood := { row := lexerTilesRow, standIns := [], harness := (true, "4c79555ad02daef53123237e431fdc6bc5e59d07fbb8e17f724265a7ee9d4d92"), looks := false }, kinds := [], alts := [], laidByText := true, laidKinds := [.data, .pinned], laidTests := true, laidLooks := .later }
def LexerTilesCardSaid : Prop := Claim7.holds Tryd.pinned (.plain (OpenSpec.ofChange lexerTilesSpec)) lexerTilesCard

/-- THE TIED CARD OF 'whelklaw11.LexerNext'. -/
def lexerNextCard : Claim7 := { stood := { row := lexerNextRow, standIns := [], harness := (true, "4c79555ad02daef53123237e431fdc6bc5e59d07fbb8e17f724265a7ee9d4d92"), looks := false }, kinds := [], alts := [], laidByText := true, laidKinds := [.data, .pinned], laidTests := true, laidLooks := .later }
def LexerNextCardSaid : Prop := Claim7.holds Tryd.pinned (.plain (OpenSpec.ofChange lexerNextSpec)) lexerNextCard

/-- THE TIED CARD OF 'whelklaw11.LexerWhole'. -/
def lexerWholeCard : Claim7 := { stood := { row := lexerWholeRow, standIns := [], harness := (true, "4c79555ad02daef53123237e431fdc6bc5e59d07fbb8e17f724265a7ee9d4d92"), looks := false }, kinds := [], alts := [], laidByText := true, laidKinds := [.data, .pinned], laidTests := true, laidLooks := .later }
def LexerWholeCardSaid : Prop := Claim7.holds Tryd.pinned (.plain (OpenSpec.ofChange lexerWholeSpec)) lexerWholeCard

/-- THE SECOND FORM's CARD OF 'whelklaw11.LexerAll'. -/
def lexerAllUptoCard : Claim7 := { stood := { row := lexerAllUptoRow, standIns := [], harness := (true, "4c79555ad02daef53123237e431fdc6bc5e59d07fbb8e17f724265a7ee9d4d92"), looks := false }, kinds := [], alts := [], laidByText := true, laidKinds := [.data, .pinned], laidTests := true, laidLooks := .later }
def LexerAllUptoCardSaid : Prop := Claim7.holds Tryd.pinned (.plain (OpenSpec.upto lexerAllSpec)) lexerAllUptoCard

/-- THE SECOND FORM's CARD OF 'whelklaw11.LexerDocs'. -/
def lexerDocsUptoCard : Claim7 := { stood := { row := lexerDocsUptoRow, standIns := [], harness := (true, "4c79555ad02daef53123237e431fdc6bc5e59d07fbb8e17f724265a7ee9d4d92"), looks := false }, kinds := [], alts := [], laidByText := true, laidKinds := [.data, .pinned], laidTests := true, laidLooks := .later }
def LexerDocsUptoCardSaid : Prop := Claim7.holds Tryd.pinned (.plain (OpenSpec.upto lexerDocsSpec)) lexerDocsUptoCard

/-- THE SECOND FORM's CARD OF 'whelklaw11.LexerStays'. -/
def lexerStaysUptoCard : Claim7 := { stood := { row := lexerStaysUptoRow, standIns := [], harness := (true, "4c79555ad02daef53123237e431fdc6bc5e59d07fbb8e17f724265a7ee9d4d92"), looks := false }, kinds := [], alts := [], laidByText := true, laidKinds := [.data, .pinned], laidTests := true, laidLooks := .later }
def LexerStaysUptoCardSaid : Prop := Claim7.holds Tryd.pinned (.plain (OpenSpec.upto lexerStaysSpec)) lexerStaysUptoCard

/-- THE SECOND FORM's CARD OF 'whelklaw11.LexerTiles'. -/
def lexerTilesUptoCard : Claim7 := { stood := { row := lexerTilesUptoRow, standIns := [], harness := (true, "4c79555ad02daef53123237e431fdc6bc5e59d07fbb8e17f724265a7ee9d4d92"), looks := false }, kinds := [], alts := [], laidByText := true, laidKinds := [.data, .pinned], laidTests := true, laidLooks := .later }
def LexerTilesUptoCardSaid : Prop := Claim7.holds Tryd.pinned (.plain (OpenSpec.upto lexerTilesSpec)) lexerTilesUptoCard

/-- THE SECOND FORM's CARD OF 'whelklaw11.LexerNext'. -/
def lexerNextUptoCard : Claim7 := { stood := { row := lexerNextUptoRow, standIns := [], harness := (true, "4c79555ad02daef53123237e431fdc6bc5e59d07fbb8e17f724265a7ee9d4d92"), looks := false }, kinds := [], alts := [], laidByText := true, laidKinds := [.data, .pinned], laidTests := true, laidLooks := .later }
def LexerNextUptoCardSaid : Prop := Claim7.holds Tryd.pinned (.plain (OpenSpec.upto lexerNextSpec)) lexerNextUptoCard

/-- THE SECOND FORM's CARD OF 'whelklaw11.LexerWhole'. -/
def lexerWholeUptoCard : Claim7 := { stood := { row := lexerWholeUptoRow, standIns := [], harness := (true, "4c79555ad02daef53123237e431fdc6bc5e59d07fbb8e17f724265a7ee9d4d92"), looks := false }, kinds := [], alts := [], laidByText := true, laidKinds := [.data, .pinned], laidTests := true, laidLooks := .later }
def LexerWholeUptoCardSaid : Prop := Claim7.holds Tryd.pinned (.plain (OpenSpec.upto lexerWholeSpec)) lexerWholeUptoCard
end Rows
end Go.Proofs.YtlhkochpokhncaaDoor

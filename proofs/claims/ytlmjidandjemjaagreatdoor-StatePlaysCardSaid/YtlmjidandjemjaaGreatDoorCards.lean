/-
  DERIVED. GIVEN WITH THE SEED: THE CARDS: each row of YtlmjidandjemjaaGreatDoorRows.lean that lists a variable, with what it lists TIED to the program's text (the seventh form; the later family's looks); each row that meets fmt, with fmt's text TOLD by the authors' own Lean function (tested against real Go, not proved from fmt's source: count such statements apart). THE CARD IS WHAT COUNTS. Prove the row's statement (the work); the ties are given (YtlmjidandjemjaaGreatDoorTie.lean); close each card by the builder's one call (the guide's Derived/Test/ToyasCard.lean, 'card_holds'). Laid BY PROGRAM, IN A SANDBOX (cutbox-door.mjs). By AI agents, Wed Nov 11 2026. No macro, syntax, notation, axiom, sorry.
-/
import Derived.Test.YtlmjidandjemjaaGreatDoorRows
import GoSem.ClaimSeven
namespace Go.Proofs.YtlmjidandjemjaaGreatDoor
namespace Rows

/-- THE TIED CARD OF 'whelklaw10.StateOwn'. -/
def stateOwnCard : Claim7 := { stood := { row := stateOwnRow, standIns := [], harness := (true, "83f1ec9fe5598e44ca1373aaa29f11eda85e46993f0c38abd82652bee74b7ab8"), looks := false }, kinds := [], alts := [], laidByText := true, laidKinds := [.data, .pinned], laidTests := true, laidLooks := .later }
def StateOwnCardSaid : Prop := Claim7.holds Tryz.pinned (.plain (OpenSpec.ofChange stateOwnSpec)) stateOwnCard

/-- THE TIED CARD OF 'whelklaw10.StateFixed'. -/
def stateFixedCard : Claim7 := { stood := { row := stateFixedRow, standIns := [], harness := (true, "83f1ec9fe5598e44ca1373aaa29f11eda85e46993f0c38abd82652bee74b7ab8"), looks := false }, kinds := [], alts := [], laidByText := true, laidKinds := [.data, .pinned], laidTests := true, laidLooks := .later }
def StateFixedCardSaid : Prop := Claim7.holds Tryz.pinned (.plain (OpenSpec.ofChange stateFixedSpec)) stateFixedCard

/-- THE TIED CARD OF 'whelklaw10.StateNil'. -/
def stateNilCard : Claim7 := { stood := { row := stateNilRow, standIns := [], harness := (true, "83f1ec9fe5598e44ca1373aaa29f11eda85e46993f0c38abd82652bee74b7ab8"), looks := false }, kinds := [], alts := [], laidByText := true, laidKinds := [.data, .pinned], laidTests := true, laidLooks := .later }
def StateNilCardSaid : Prop := Claim7.holds Tryz.pinned (.plain (OpenSpec.ofChange stateNilSpec)) stateNilCard

/-- THE TIED CARD OF 'whelklaw10.StateBack'. -/
def stateBackCard : Claim7 := { stood := { row := stateBackRow, standIns := [], harness := (true, "83f1ec9fe5598e44ca1373aaa29f11eda85e46993f0c38abd82652bee74b7ab8"), looks := false }, kinds := [], alts := [], laidByText := true, laidKinds := [.data, .pinned], laidTests := true, laidLooks := .later }
def StateBackCardSaid : Prop := Claim7.holds Tryz.pinned (.plain (OpenSpec.ofChange stateBackSpec)) stateBackCard

/-- THE TIED CARD OF 'whelklaw10.StatePlays'. -/
def statePlaysCard : Claim7 := { stood := { row := statePlaysRow, standIns := [], harness := (true, "83f1ec9fe5598e44ca1373aaa29f11eda85e46993f0c38abd82652bee74b7ab8"), looks := false }, kinds := [], alts := [], laidByText := true, laidKinds := [.data, .pinned], laidTests := true, laidLooks := .later }
def StatePlaysCardSaid : Prop := Claim7.holds Tryz.pinned (.plain (OpenSpec.ofChange statePlaysSpec)) statePlaysCard

/-- THE SECOND FORM's CARD OF 'whelklaw10.StateOwn'. -/
def stateOwnUptoCard : Claim7 := { stood := { row := stateOwnUptoRow, standIns := [], harness := (true, "83f1ec9fe5598e44ca1373aaa29f11eda85e46993f0c38abd82652bee74b7ab8"), looks := false }, kinds := [], alts := [], laidByText := true, laidKinds := [.data, .pinned], laidTests := true, laidLooks := .later }
def StateOwnUptoCardSaid : Prop := Claim7.holds Tryz.pinned (.plain (OpenSpec.upto stateOwnSpec)) stateOwnUptoCard

/-- THE SECOND FORM's CARD OF 'whelklaw10.StateFixed'. -/
def stateFixedUptoCard : Claim7 := { stood := { row := stateFixedUptoRow, standIns := [], harness := (true, "83f1ec9fe5598e44ca1373aaa29f11eda85e46993f0c38abd82652bee74b7ab8"), looks := false }, kinds := [], alts := [], laidByText := true, laidKinds := [.data, .pinned], laidTests := true, laidLooks := .later }
def StateFixedUptoCardSaid : Prop := Claim7.holds Tryz.pinned (.plain (OpenSpec.upto stateFixedSpec)) stateFixedUptoCard

/-- THE SECOND FORM's CARD OF 'whelklaw10.StateNil'. -/
def stateNilUptoCard : Claim7 := { stood := { row := stateNilUptoRow, standIns := [], harness := (true, "83f1ec9fe5598e44ca1373aaa29f11eda85e46993f0c38abd82652bee74b7ab8"), looks := false }, kinds := [], alts := [], laidByText := true, laidKinds := [.data, .pinned], laidTests := true, laidLooks := .later }
def StateNilUptoCardSaid : Prop := Claim7.holds Tryz.pinned (.plain (OpenSpec.upto stateNilSpec)) stateNilUptoCard

/-- THE SECOND FORM's CARD OF 'whelklaw10.StateBack'. -/
def stateBackUptoCard : Claim7 := { stood := { row := stateBackUptoRow, standIns := [], harness := (true, "83f1ec9fe5598e44ca1373aaa29f11eda85e46993f0c38abd82652bee74b7ab8"), looks := false }, kinds := [], alts := [], laidByText := true, laidKinds := [.data, .pinned], laidTests := true, laidLooks := .later }
def StateBackUptoCardSaid : Prop := Claim7.holds Tryz.pinned (.plain (OpenSpec.upto stateBackSpec)) stateBackUptoCard

/-- THE SECOND FORM's CARD OF 'whelklaw10.StatePlays'. -/
def statePlaysUptoCard : Claim7 := { stood := { row := statePlaysUptoRow, standIns := [], harness := (true, "83f1ec9fe5598e44ca1373aaa29f11eda85e46993f0c38abd82652bee74b7ab8"), looks := false }, kinds := [], alts := [], laidByText := true, laidKinds := [.data, .pinned], laidTests := true, laidLooks := .later }
def StatePlaysUptoCardSaid : Prop := Claim7.holds Tryz.pinned (.plain (OpenSpec.upto statePlaysSpec)) statePlaysUptoCard
end Rows
end Go.Proofs.YtlmjidandjemjaaGreatDoor

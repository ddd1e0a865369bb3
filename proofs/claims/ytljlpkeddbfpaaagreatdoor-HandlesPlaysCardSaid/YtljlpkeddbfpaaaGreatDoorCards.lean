/-
  DERIVED. GIVEN WITH THE SEED: THE CARDS: each row of YtljlpkeddbfpaaaGreatDoorRows.lean that lists a variable, with what it lists TIED to the program's text (the seventh form; the later family's looks); each row that meets fmt, with fmt's text TOLD by the authors' own Lean function (tested against real Go, not proved from fmt's source: count such statements apart). THE CARD IS WHAT COUNTS. Prove the row's statement (the work); the ties are given (YtljlpkeddbfpaaaGreatDoorTie.lean); close each card by the builder's one call (the guide's Derived/Test/ToyasCard.lean, 'card_holds'). Laid BY PROGRAM, IN A SANDBOX (cutbox-door.mjs). By AI agents, Wed Nov 11 2026. No macro, syntax, notation, axiom, sorry.
-/
import Derived.Test.YtljlpkeddbfpaaaGreatDoorRows
import GoSem.ClaimSeven
namespace Go.Proofs.YtljlpkeddbfpaaaGreatDoor
namespace Rows

/-- THE TIED CARD OF 'whelklaw07.HandlesMore'. -/
def handlesMoreCard : Claim7 := { stood := { row := handlesMoreRow, standIns := [], harness := (true, "66290d1066095200cf14bc365beb6c9a74d9cfc0189b6a14515d91b2027a118d"), looks := false }, kinds := [], alts := [], laidByText := true, laidKinds := [.data, .pinned], laidTests := true, laidLooks := .later }
def HandlesMoreCardSaid : Prop := Claim7.holds Tryz.pinned (.plain (OpenSpec.ofChange handlesMoreSpec)) handlesMoreCard

/-- THE TIED CARD OF 'whelklaw07.HandlesRow'. -/
def handlesRowCard : Claim7 := { stood := { row := handlesRowRow, standIns := [], harness := (true, "66290d1066095200cf14bc365beb6c9a74d9cfc0189b6a14515d91b2027a118d"), looks := false }, kinds := [], alts := [], laidByText := true, laidKinds := [.data, .pinned], laidTests := true, laidLooks := .later }
def HandlesRowCardSaid : Prop := Claim7.holds Tryz.pinned (.plain (OpenSpec.ofChange handlesRowSpec)) handlesRowCard

/-- THE TIED CARD OF 'whelklaw07.HandlesHeld'. -/
def handlesHeldCard : Claim7 := { stood := { row := handlesHeldRow, standIns := [], harness := (true, "66290d1066095200cf14bc365beb6c9a74d9cfc0189b6a14515d91b2027a118d"), looks := false }, kinds := [], alts := [], laidByText := true, laidKinds := [.data, .pinned], laidTests := true, laidLooks := .later }
def HandlesHeldCardSaid : Prop := Claim7.holds Tryz.pinned (.plain (OpenSpec.ofChange handlesHeldSpec)) handlesHeldCard

/-- THE TIED CARD OF 'whelklaw07.HandlesNil'. -/
def handlesNilCard : Claim7 := { stood := { row := handlesNilRow, standIns := [], harness := (true, "66290d1066095200cf14bc365beb6c9a74d9cfc0189b6a14515d91b2027a118d"), looks := false }, kinds := [], alts := [], laidByText := true, laidKinds := [.data, .pinned], laidTests := true, laidLooks := .later }
def HandlesNilCardSaid : Prop := Claim7.holds Tryz.pinned (.plain (OpenSpec.ofChange handlesNilSpec)) handlesNilCard

/-- THE TIED CARD OF 'whelklaw07.HandlesPlays'. -/
def handlesPlaysCard : Claim7 := { stood := { row := handlesPlaysRow, standIns := [], harness := (true, "66290d1066095200cf14bc365beb6c9a74d9cfc0189b6a14515d91b2027a118d"), looks := false }, kinds := [], alts := [], laidByText := true, laidKinds := [.data, .pinned], laidTests := true, laidLooks := .later }
def HandlesPlaysCardSaid : Prop := Claim7.holds Tryz.pinned (.plain (OpenSpec.ofChange handlesPlaysSpec)) handlesPlaysCard

/-- THE SECOND FORM's CARD OF 'whelklaw07.HandlesMore'. -/
def handlesMoreUptoCard : Claim7 := { stood := { row := handlesMoreUptoRow, standIns := [], harness := (true, "66290d1066095200cf14bc365beb6c9a74d9cfc0189b6a14515d91b2027a118d"), looks := false }, kinds := [], alts := [], laidByText := true, laidKinds := [.data, .pinned], laidTests := true, laidLooks := .later }
def HandlesMoreUptoCardSaid : Prop := Claim7.holds Tryz.pinned (.plain (OpenSpec.upto handlesMoreSpec)) handlesMoreUptoCard

/-- THE SECOND FORM's CARD OF 'whelklaw07.HandlesRow'. -/
def handlesRowUptoCard : Claim7 := { stood := { row := handlesRowUptoRow, standIns := [], harness := (true, "66290d1066095200cf14bc365beb6c9a74d9cfc0189b6a14515d91b2027a118d"), looks := false }, kinds := [], alts := [], laidByText := true, laidKinds := [.data, .pinned], laidTests := true, laidLooks := .later }
def HandlesRowUptoCardSaid : Prop := Claim7.holds Tryz.pinned (.plain (OpenSpec.upto handlesRowSpec)) handlesRowUptoCard

/-- THE SECOND FORM's CARD OF 'whelklaw07.HandlesHeld'. -/
def handlesHeldUptoCard : Claim7 := { stood := { row := handlesHeldUptoRow, standIns := [], harness := (true, "66290d1066095200cf14bc365beb6c9a74d9cfc0189b6a14515d91b2027a118d"), looks := false }, kinds := [], alts := [], laidByText := true, laidKinds := [.data, .pinned], laidTests := true, laidLooks := .later }
def HandlesHeldUptoCardSaid : Prop := Claim7.holds Tryz.pinned (.plain (OpenSpec.upto handlesHeldSpec)) handlesHeldUptoCard

/-- THE SECOND FORM's CARD OF 'whelklaw07.HandlesNil'. -/
def handlesNilUptoCard : Claim7 := { stood := { row := handlesNilUptoRow, standIns := [], harness := (true, "66290d1066095200cf14bc365beb6c9a74d9cfc0189b6a14515d91b2027a118d"), looks := false }, kinds := [], alts := [], laidByText := true, laidKinds := [.data, .pinned], laidTests := true, laidLooks := .later }
def HandlesNilUptoCardSaid : Prop := Claim7.holds Tryz.pinned (.plain (OpenSpec.upto handlesNilSpec)) handlesNilUptoCard

/-- THE SECOND FORM's CARD OF 'whelklaw07.HandlesPlays'. -/
def handlesPlaysUptoCard : Claim7 := { stood := { row := handlesPlaysUptoRow, standIns := [], harness := (true, "66290d1066095200cf14bc365beb6c9a74d9cfc0189b6a14515d91b2027a118d"), looks := false }, kinds := [], alts := [], laidByText := true, laidKinds := [.data, .pinned], laidTests := true, laidLooks := .later }
def HandlesPlaysUptoCardSaid : Prop := Claim7.holds Tryz.pinned (.plain (OpenSpec.upto handlesPlaysSpec)) handlesPlaysUptoCard
end Rows
end Go.Proofs.YtljlpkeddbfpaaaGreatDoor

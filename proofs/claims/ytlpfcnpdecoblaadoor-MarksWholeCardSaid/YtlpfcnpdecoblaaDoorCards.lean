/-
  DERIVED. GIVEN WITH THE SEED: THE CARDS: each row of YtlpfcnpdecoblaaDoorRows.lean that lists a variable, with what it lists TIED to the program's text (the seventh form; the later family's looks); each row that meets fmt, with fmt's text TOLD by the authors' own Lean function (tested against real Go, not proved from fmt's source: count such statements apart). THE CARD IS WHAT COUNTS. Prove the row's statement (the work); the ties are given (YtlpfcnpdecoblaaDoorTie.lean); close each card by the builder's one call (the guide's Derived/Test/ToyasCard.lean, 'card_holds'). Laid BY PROGRAM, IN A SANDBOX (cutbox-door.mjs). By AI agents, Wed Nov 11 2026. No macro, syntax, notation, axiom, sorry.
-/
import Derived.Test.YtlpfcnpdecoblaaDoorRows
import GoSem.ClaimSeven
namespace Go.Proofs.YtlpfcnpdecoblaaDoor
namespace Rows

/-- THE TIED CARD OF 'whelklaw01.MarksEscapes'. -/
def marksEscapesCard : Claim7 := { stood := { row := marksEscapesRow, standIns := [], harness := (true, "f482e89116bc99bf43e4e1caee790152a011ea106b481086dbda4c4ef674d186"), looks := false }, kinds := [], alts := [], laidByText := true, laidKinds := [.data, .pinned], laidTests := true, laidLooks := .later }
def MarksEscapesCardSaid : Prop := Claim7.holds Tryd.pinned (.plain (OpenSpec.ofChange marksEscapesSpec)) marksEscapesCard

/-- THE TIED CARD OF 'whelklaw01.MarksBack'. -/
def marksBackCard : Claim7 := { stood := { row := marksBackRow, standIns := [], harness := (true, "f482e89116bc99bf43e4e1caee790152a011ea106b481086dbda4c4ef674d186"), looks := false }, kinds := [], alts := [], laidByText := true, laidKinds := [.data, .pinned], laidTests := true, laidLooks := .later }
def MarksBackCardSaid : Prop := Claim7.holds Tryd.pinned (.plain (OpenSpec.ofChange marksBackSpec)) marksBackCard

/-- THE TIED CARD OF 'whelklaw01.MarksHard'. -/
def marksHardCard : Claim7 := { stood := { row := marksHardRow, standIns := [], harness := (true, "f482e89116bc99bf43e4e1caee790152a011ea106b481086dbda4c4ef674d186"), looks := false }, kinds := [], alts := [], laidByText := true, laidKinds := [.data, .pinned], laidTests := true, laidLooks := .later }
def MarksHardCardSaid : Prop := Claim7.holds Tryd.pinned (.plain (OpenSpec.ofChange marksHardSpec)) marksHardCard

/-- THE TIED CARD OF 'whelklaw01.MarksParts'. -/
def marksPartsCard : Claim7 := { stood := { row := marksPartsRow, standIns := [], harness := (true, "f482e89116bc99bf43e4e1caee790152a011ea106b481086dbda4c4ef674d186"), looks := false }, kinds := [], alts := [], laidByText := true, laidKinds := [.data, .pinned], laidTests := true, laidLooks := .later }
def MarksPartsCardSaid : Prop := Claim7.holds Tryd.pinned (.plain (OpenSpec.ofChange marksPartsSpec)) marksPartsCard

/-- THE TIED CARD OF 'whelklaw01.MarksMakes'. -/
def marksMakesCard : Claim7 := { stood := { row := marksMakesRow, standIns := [], harness := (true, "f482e89116bc99bf43e4e1caee790152a011ea106b481086dbda4c4ef674d186"), looks := false }, kinds := [], alts := [], laidByText := true, laidKinds := [.data, .pinned], laidTests := true, laidLooks := .later }
def MarksMakesCardSaid : Prop := Claim7.holds Tryd.pinned (.plain (OpenSpec.ofChange marksMakesSpec)) marksMakesCard

/-- THE TIED CARD OF 'whelklaw01.MarksWhole'. -/
def marksWholeCard : Claim7 := { stood := { row := marksWholeRow, standIns := [], harness := (true, "f482e89116bc99bf43e4e1caee790152a011ea106b481086dbda4c4ef674d186"), looks := false }, kinds := [], alts := [], laidByText := true, laidKinds := [.data, .pinned], laidTests := true, laidLooks := .later }
def MarksWholeCardSaid : Prop := Claim7.holds Tryd.pinned (.plain (OpenSpec.ofChange marksWholeSpec)) marksWholeCard

/-- THE SECOND FORM's CARD OF 'whelklaw01.MarksEscapes'. -/
def marksEscapesUptoCard : Claim7 := { stood := { row := marksEscapesUptoRow, standIns := [], harness := (true, "f482e89116bc99bf43e4e1caee790152a011ea106b481086dbda4c4ef674d186"), looks := false }, kinds := [], alts := [], laidByText := true, laidKinds := [.data, .pinned], laidTests := true, laidLooks := .later }
def MarksEscapesUptoCardSaid : Prop := Claim7.holds Tryd.pinned (.plain (OpenSpec.upto marksEscapesSpec)) marksEscapesUptoCard

/-- THE SECOND FORM's CARD OF 'whelklaw01.MarksBack'. -/
def marksBackUptoCard : Claim7 := { stood := { row := marksBackUptoRow, standIns := [], harness := (true, "f482e89116bc99bf43e4e1caee790152a011ea106b481086dbda4c4ef674d186"), looks := false }, kinds := [], alts := [], laidByText := true, laidKinds := [.data, .pinned], laidTests := true, laidLooks := .later }
def MarksBackUptoCardSaid : Prop := Claim7.holds Tryd.pinned (.plain (OpenSpec.upto marksBackSpec)) marksBackUptoCard

/-- THE SECOND FORM's CARD OF 'whelklaw01.MarksHard'. -/
def marksHardUptoCard : Claim7 := { stood := { row := marksHardUptoRow, standIns := [], harness := (true, "f482e89116bc99bf43e4e1caee790152a011ea106b481086dbda4c4ef674d186"), looks := false }, kinds := [], alts := [], laidByText := true, laidKinds := [.data, .pinned], laidTests := true, laidLooks := .later }
def MarksHardUptoCardSaid : Prop := Claim7.holds Tryd.pinned (.plain (OpenSpec.upto marksHardSpec)) marksHardUptoCard

/-- THE SECOND FORM's CARD OF 'whelklaw01.MarksParts'. -/
def marksPartsUptoCard : Claim7 := { stood := { row := marksPartsUptoRow, standIns := [], harness := (true, "f482e89116bc99bf43e4e1caee790152a011ea106b481086dbda4c4ef674d186"), looks := false }, kinds := [], alts := [], laidByText := true, laidKinds := [.data, .pinned], laidTests := true, laidLooks := .later }
def MarksPartsUptoCardSaid : Prop := Claim7.holds Tryd.pinned (.plain (OpenSpec.upto marksPartsSpec)) marksPartsUptoCard

/-- THE SECOND FORM's CARD OF 'whelklaw01.MarksMakes'. -/
def marksMakesUptoCard : Claim7 := { stood := { row := marksMakesUptoRow, standIns := [], harness := (true, "f482e89116bc99bf43e4e1caee790152a011ea106b481086dbda4c4ef674d186"), looks := false }, kinds := [], alts := [], laidByText := true, laidKinds := [.data, .pinned], laidTests := true, laidLooks := .later }
def MarksMakesUptoCardSaid : Prop := Claim7.holds Tryd.pinned (.plain (OpenSpec.upto marksMakesSpec)) marksMakesUptoCard

/-- THE SECOND FORM's CARD OF 'whelklaw01.MarksWhole'. -/
def marksWholeUptoCard : Claim7 := { stood := { row := marksWholeUptoRow, standIns := [], harness := (true, "f482e89116bc99bf43e4e1caee790152a011ea106b481086dbda4c4ef674d186"), looks := false }, kinds := [], alts := [], laidByText := true, laidKinds := [.data, .pinned], laidTests := true, laidLooks := .later }
def MarksWholeUptoCardSaid : Prop := Claim7.holds Tryd.pinned (.plain (OpenSpec.upto marksWholeSpec)) marksWholeUptoCard
end Rows
end Go.Proofs.YtlpfcnpdecoblaaDoor

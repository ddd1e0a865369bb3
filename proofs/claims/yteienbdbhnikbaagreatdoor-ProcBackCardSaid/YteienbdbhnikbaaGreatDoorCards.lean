/-
  DERIVED. GIVEN WITH THE SEED: THE CARDS: each row of YteienbdbhnikbaaGreatDoorRows.lean that lists a variable, with what it lists TIED to the program's text (the seventh form; the later family's looks); each row that meets fmt, with fmt's text TOLD by the authors' own Lean function (tested against real Go, not proved from fmt's source: count such statements apart). THE CARD IS WHAT COUNTS. Prove the row's statement (the work); the ties are given (YteienbdbhnikbaaGreatDoorTie.lean); close each card by the builder's one call (the guide's Derived/Test/ToyasCard.lean, 'card_holds'). Laid BY PROGRAM, IN A SANDBOX (cutbox-door.mjs). By AI agents, Wed Nov 11 2026. No macro, syntax, notation, axiom, sorry.
-/
import Derived.Test.YteienbdbhnikbaaGreatDoorRows
import GoSem.ClaimSeven
namespace Go.Proofs.YteienbdbhnikbaaGreatDoor
namespace Rows

/-- THE TIED CARD OF 'whelklaw09.ProcNil'. -/
def procNilCard : Claim7 := { stood := { row := procNilRow, standIns := [], harness := (true, "a035c5781683d6981f330a25f830d252f3d8558a1223b6fdcc43f87aa68114b7"), looks := false }, kinds := [], alts := [], laidByText := true, laidKinds := [.data, .pinned], laidTests := true, laidLooks := .later }
def ProcNilCardSaid : Prop := Claim7.holds Tryz.pinned (.plain (OpenSpec.ofChange procNilSpec)) procNilCard

/-- THE TIED CARD OF 'whelklaw09.ProcLeaves'. -/
def procLeavesCard : Claim7 := { stood := { row := procLeavesRow, standIns := [], harness := (true, "a035c5781683d6981f330a25f830d252f3d8558a1223b6fdcc43f87aa68114b7"), looks := false }, kinds := [], alts := [], laidByText := true, laidKinds := [.data, .pinned], laidTests := true, laidLooks := .later }
def ProcLeavesCardSaid : Prop := Claim7.holds Tryz.pinned (.plain (OpenSpec.ofChange procLeavesSpec)) procLeavesCard

/-- THE TIED CARD OF 'whelklaw09.ProcBack'. -/
def procBackCard : Claim7 := { stood := { row := procBackRow, standIns := [], harness := (true, "a035c5781683d6981f330a25f830d252f3d8558a1223b6fdcc43f87aa68114b7"), looks := false }, kinds := [], alts := [], laidByText := true, laidKinds := [.data, .pinned], laidTests := true, laidLooks := .later }
def ProcBackCardSaid : Prop := Claim7.holds Tryz.pinned (.plain (OpenSpec.ofChange procBackSpec)) procBackCard

/-- THE TIED CARD OF 'whelklaw09.ProcFull'. -/
def procFullCard : Claim7 := { stood := { row := procFullRow, standIns := [], harness := (true, "a035c5781683d6981f330a25f830d252f3d8558a1223b6fdcc43f87aa68114b7"), looks := false }, kinds := [], alts := [], laidByText := true, laidKinds := [.data, .pinned], laidTests := true, laidLooks := .later }
def ProcFullCardSaid : Prop := Claim7.holds Tryz.pinned (.plain (OpenSpec.ofChange procFullSpec)) procFullCard

/-- THE SECOND FORM's CARD OF 'whelklaw09.ProcNil'. -/
def procNilUptoCard : Claim7 := { stood := { row := procNilUptoRow, standIns := [], harness := (true, "a035c5781683d6981f330a25f830d252f3d8558a1223b6fdcc43f87aa68114b7"), looks := false }, kinds := [], alts := [], laidByText := true, laidKinds := [.data, .pinned], laidTests := true, laidLooks := .later }
def ProcNilUptoCardSaid : Prop := Claim7.holds Tryz.pinned (.plain (OpenSpec.upto procNilSpec)) procNilUptoCard

/-- THE SECOND FORM's CARD OF 'whelklaw09.ProcLeaves'. -/
def procLeavesUptoCard : Claim7 := { stood := { row := procLeavesUptoRow, standIns := [], harness := (true, "a035c5781683d6981f330a25f830d252f3d8558a1223b6fdcc43f87aa68114b7"), looks := false }, kinds := [], alts := [], laidByText := true, laidKinds := [.data, .pinned], laidTests := true, laidLooks := .later }
def ProcLeavesUptoCardSaid : Prop := Claim7.holds Tryz.pinned (.plain (OpenSpec.upto procLeavesSpec)) procLeavesUptoCard

/-- THE SECOND FORM's CARD OF 'whelklaw09.ProcBack'. -/
def procBackUptoCard : Claim7 := { stood := { row := procBackUptoRow, standIns := [], harness := (true, "a035c5781683d6981f330a25f830d252f3d8558a1223b6fdcc43f87aa68114b7"), looks := false }, kinds := [], alts := [], laidByText := true, laidKinds := [.data, .pinned], laidTests := true, laidLooks := .later }
def ProcBackUptoCardSaid : Prop := Claim7.holds Tryz.pinned (.plain (OpenSpec.upto procBackSpec)) procBackUptoCard

/-- THE SECOND FORM's CARD OF 'whelklaw09.ProcFull'. -/
def procFullUptoCard : Claim7 := { stood := { row := procFullUptoRow, standIns := [], harness := (true, "a035c5781683d6981f330a25f830d252f3d8558a1223b6fdcc43f87aa68114b7"), looks := false }, kinds := [], alts := [], laidByText := true, laidKinds := [.data, .pinned], laidTests := true, laidLooks := .later }
def ProcFullUptoCardSaid : Prop := Claim7.holds Tryz.pinned (.plain (OpenSpec.upto procFullSpec)) procFullUptoCard
end Rows
end Go.Proofs.YteienbdbhnikbaaGreatDoor

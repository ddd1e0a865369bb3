/-
  DERIVED. GIVEN WITH THE SEED: THE CARDS: each row of YtndjgeohkfenfaaGreatDoorRows.lean that lists a variable, with what it lists TIED to the program's text (the seventh form; the later family's looks); each row that meets fmt, with fmt's text TOLD by the authors' own Lean function (tested against real Go, not proved from fmt's source: count such statements apart). THE CARD IS WHAT COUNTS. Prove the row's statement (the work); the ties are given (YtndjgeohkfenfaaGreatDoorTie.lean); close each card by the builder's one call (the guide's Derived/Test/ToyasCard.lean, 'card_holds'). Laid BY PROGRAM, IN A SANDBOX (cutbox-door.mjs). By AI agents, Wed Nov 11 2026. No macro, syntax, notation, axiom, sorry.
-/
import Derived.Test.YtndjgeohkfenfaaGreatDoorRows
import GoSem.ClaimSeven
namespace Go.Proofs.YtndjgeohkfenfaaGreatDoor
namespace Rows

/-- THE TIED CARD OF 'whelklaw17.PathsFits'. -/
def pathsFitsCard : Claim7 := { stood := { row := pathsFitsRow, standIns := [], harness := (true, "b7fc3f95e90346590b13ddd83b9abf67f775a1aea89b3207ea44bc988b5e284c"), looks := false }, kinds := [], alts := [], laidByText := true, laidKinds := [.data, .pinned], laidTests := true, laidLooks := .later }
def PathsFitsCardSaid : Prop := Claim7.holds Tryz.pinned (.plain (OpenSpec.ofChange pathsFitsSpec)) pathsFitsCard

/-- THE TIED CARD OF 'whelklaw17.PathsAll'. -/
def pathsAllCard : Claim7 := { stood := { row := pathsAllRow, standIns := [], harness := (true, "b7fc3f95e90346590b13ddd83b9abf67f775a1aea89b3207ea44bc988b5e284c"), looks := false }, kinds := [], alts := [], laidByText := true, laidKinds := [.data, .pinned], laidTests := true, laidLooks := .later }
def PathsAllCardSaid : Prop := Claim7.holds Tryz.pinned (.plain (OpenSpec.ofChange pathsAllSpec)) pathsAllCard

/-- THE TIED CARD OF 'whelklaw17.PathsPlain'. -/
def pathsPlainCard : Claim7 := { stood := { row := pathsPlainRow, standIns := [], harness := (true, "b7fc3f95e90346590b13ddd83b9abf67f775a1aea89b3207ea44bc988b5e284c"), looks := false }, kinds := [], alts := [], laidByText := true, laidKinds := [.data, .pinned], laidTests := true, laidLooks := .later }
def PathsPlainCardSaid : Prop := Claim7.holds Tryz.pinned (.plain (OpenSpec.ofChange pathsPlainSpec)) pathsPlainCard

/-- THE TIED CARD OF 'whelklaw17.PathsExpands'. -/
def pathsExpandsCard : Claim7 := { stood := { row := pathsExpandsRow, standIns := [], harness := (true, "b7fc3f95e90346590b13ddd83b9abf67f775a1aea89b3207ea44bc988b5e284c"), looks := false }, kinds := [], alts := [], laidByText := true, laidKinds := [.data, .pinned], laidTests := true, laidLooks := .later }
def PathsExpandsCardSaid : Prop := Claim7.holds Tryz.pinned (.plain (OpenSpec.ofChange pathsExpandsSpec)) pathsExpandsCard

/-- THE SECOND FORM's CARD OF 'whelklaw17.PathsFits'. -/
def pathsFitsUptoCard : Claim7 := { stood := { row := pathsFitsUptoRow, standIns := [], harness := (true, "b7fc3f95e90346590b13ddd83b9abf67f775a1aea89b3207ea44bc988b5e284c"), looks := false }, kinds := [], alts := [], laidByText := true, laidKinds := [.data, .pinned], laidTests := true, laidLooks := .later }
def PathsFitsUptoCardSaid : Prop := Claim7.holds Tryz.pinned (.plain (OpenSpec.upto pathsFitsSpec)) pathsFitsUptoCard

/-- THE SECOND FORM's CARD OF 'whelklaw17.PathsAll'. -/
def pathsAllUptoCard : Claim7 := { stood := { row := pathsAllUptoRow, standIns := [], harness := (true, "b7fc3f95e90346590b13ddd83b9abf67f775a1aea89b3207ea44bc988b5e284c"), looks := false }, kinds := [], alts := [], laidByText := true, laidKinds := [.data, .pinned], laidTests := true, laidLooks := .later }
def PathsAllUptoCardSaid : Prop := Claim7.holds Tryz.pinned (.plain (OpenSpec.upto pathsAllSpec)) pathsAllUptoCard

/-- THE SECOND FORM's CARD OF 'whelklaw17.PathsPlain'. -/
def pathsPlainUptoCard : Claim7 := { stood := { row := pathsPlainUptoRow, standIns := [], harness := (true, "b7fc3f95e90346590b13ddd83b9abf67f775a1aea89b3207ea44bc988b5e284c"), looks := false }, kinds := [], alts := [], laidByText := true, laidKinds := [.data, .pinned], laidTests := true, laidLooks := .later }
def PathsPlainUptoCardSaid : Prop := Claim7.holds Tryz.pinned (.plain (OpenSpec.upto pathsPlainSpec)) pathsPlainUptoCard

/-- THE SECOND FORM's CARD OF 'whelklaw17.PathsExpands'. -/
def pathsExpandsUptoCard : Claim7 := { stood := { row := pathsExpandsUptoRow, standIns := [], harness := (true, "b7fc3f95e90346590b13ddd83b9abf67f775a1aea89b3207ea44bc988b5e284c"), looks := false }, kinds := [], alts := [], laidByText := true, laidKinds := [.data, .pinned], laidTests := true, laidLooks := .later }
def PathsExpandsUptoCardSaid : Prop := Claim7.holds Tryz.pinned (.plain (OpenSpec.upto pathsExpandsSpec)) pathsExpandsUptoCard
end Rows
end Go.Proofs.YtndjgeohkfenfaaGreatDoor

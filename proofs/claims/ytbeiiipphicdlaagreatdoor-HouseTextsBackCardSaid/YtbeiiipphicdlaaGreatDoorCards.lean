/-
  DERIVED. GIVEN WITH THE SEED: THE CARDS: each row of YtbeiiipphicdlaaGreatDoorRows.lean that lists a variable, with what it lists TIED to the program's text (the seventh form; the later family's looks); each row that meets fmt, with fmt's text TOLD by the authors' own Lean function (tested against real Go, not proved from fmt's source: count such statements apart). THE CARD IS WHAT COUNTS. Prove the row's statement (the work); the ties are given (YtbeiiipphicdlaaGreatDoorTie.lean); close each card by the builder's one call (the guide's Derived/Test/ToyasCard.lean, 'card_holds'). Laid BY PROGRAM, IN A SANDBOX (cutbox-door.mjs). By AI agents, Wed Nov 11 2026. No macro, syntax, notation, axiom, sorry.
-/
import Derived.Test.YtbeiiipphicdlaaGreatDoorRows
import GoSem.ClaimSeven
namespace Go.Proofs.YtbeiiipphicdlaaGreatDoor
namespace Rows

/-- THE TIED CARD OF 'patrollaw03.HouseTexts'. -/
def houseTextsCard : Claim7 := { stood := { row := houseTextsRow, standIns := [], harness := (true, "4372a95b5dc755aa430c109622dd62048ad0b164d7a0b25ce90610fcd98fd0e5"), looks := true }, kinds := [], alts := [], laidByText := true, laidKinds := [.data, .data, .data, .data, .sentinel, .sentinel, .pinned], laidTests := true, laidLooks := .later }
def HouseTextsCardSaid : Prop := Claim7.holds Tryz.pinned (.plain (OpenSpec.ofChange houseTextsSpec)) houseTextsCard

/-- THE TIED CARD OF 'patrollaw03.HouseTextsBack'. -/
def houseTextsBackCard : Claim7 := { stood := { row := houseTextsBackRow, standIns := [], harness := (true, "4372a95b5dc755aa430c109622dd62048ad0b164d7a0b25ce90610fcd98fd0e5"), looks := true }, kinds := [], alts := [], laidByText := true, laidKinds := [.data, .data, .data, .data, .sentinel, .sentinel, .pinned], laidTests := true, laidLooks := .later }
def HouseTextsBackCardSaid : Prop := Claim7.holds Tryz.pinned (.plain (OpenSpec.ofChange houseTextsBackSpec)) houseTextsBackCard

/-- THE SECOND FORM's CARD OF 'patrollaw03.HouseTexts'. -/
def houseTextsUptoCard : Claim7 := { stood := { row := houseTextsUptoRow, standIns := [], harness := (true, "4372a95b5dc755aa430c109622dd62048ad0b164d7a0b25ce90610fcd98fd0e5"), looks := true }, kinds := [], alts := [], laidByText := true, laidKinds := [.data, .data, .data, .data, .sentinel, .sentinel, .pinned], laidTests := true, laidLooks := .later }
def HouseTextsUptoCardSaid : Prop := Claim7.holds Tryz.pinned (.plain (OpenSpec.upto houseTextsSpec)) houseTextsUptoCard

/-- THE SECOND FORM's CARD OF 'patrollaw03.HouseTextsBack'. -/
def houseTextsBackUptoCard : Claim7 := { stood := { row := houseTextsBackUptoRow, standIns := [], harness := (true, "4372a95b5dc755aa430c109622dd62048ad0b164d7a0b25ce90610fcd98fd0e5"), looks := true }, kinds := [], alts := [], laidByText := true, laidKinds := [.data, .data, .data, .data, .sentinel, .sentinel, .pinned], laidTests := true, laidLooks := .later }
def HouseTextsBackUptoCardSaid : Prop := Claim7.holds Tryz.pinned (.plain (OpenSpec.upto houseTextsBackSpec)) houseTextsBackUptoCard
end Rows
end Go.Proofs.YtbeiiipphicdlaaGreatDoor

/-
  DERIVED. GIVEN WITH THE SEED: THE CARDS: each row of YtofdhddbfjfkcaaDoorRows.lean that lists a variable, with what it lists TIED to the program's text (the seventh form; the later family's looks); each row that meets fmt, with fmt's text TOLD by the authors' own Lean function (tested against real Go, not proved from fmt's source: count such statements apart). THE CARD IS WHAT COUNTS. Prove the row's statement (the work); the ties are given (YtofdhddbfjfkcaaDoorTie.lean); close each card by the builder's one call (the guide's Derived/Test/ToyasCard.lean, 'card_holds'). Laid BY PROGRAM, IN A SANDBOX (cutbox-door.mjs). By AI agents, Wed Nov 11 2026. No macro, syntax, notation, axiom, sorry.
-/
import Derived.Test.YtofdhddbfjfkcaaDoorRows
import GoSem.ClaimSeven
namespace Go.Proofs.YtofdhddbfjfkcaaDoor
namespace Rows

/-- THE TIED CARD OF 'patrollaw03.HouseWalks'. -/
def houseWalksCard : Claim7 := { stood := { row := houseWalksRow, standIns := [], harness := (true, "192a071f275d62bcce8bc1741cffb188cba7e1c0d9cb57cbf01c06df6996497d"), looks := false }, kinds := [], alts := [], laidByText := true, laidKinds := [.data, .data, .data], laidTests := true, laidLooks := .later }
def HouseWalksCardSaid : Prop := Claim7.holds Tryd.pinned (.plain (OpenSpec.ofChange houseWalksSpec)) houseWalksCard

/-- THE TIED CARD OF 'patrollaw03.HouseShuts'. -/
def houseShutsCard : Claim7 := { stood := { row := houseShutsRow, standIns := [], harness := (true, "192a071f275d62bcce8bc1741cffb188cba7e1c0d9cb57cbf01c06df6996497d"), looks := false }, kinds := [], alts := [], laidByText := true, laidKinds := [.data, .data, .data], laidTests := true, laidLooks := .later }
def HouseShutsCardSaid : Prop := Claim7.holds Tryd.pinned (.plain (OpenSpec.ofChange houseShutsSpec)) houseShutsCard

/-- THE TIED CARD OF 'patrollaw03.HouseTimes'. -/
def houseTimesCard : Claim7 := { stood := { row := houseTimesRow, standIns := [], harness := (true, "192a071f275d62bcce8bc1741cffb188cba7e1c0d9cb57cbf01c06df6996497d"), looks := false }, kinds := [], alts := [], laidByText := true, laidKinds := [.data, .data, .data], laidTests := true, laidLooks := .later }
def HouseTimesCardSaid : Prop := Claim7.holds Tryd.pinned (.plain (OpenSpec.ofChange houseTimesSpec)) houseTimesCard

/-- THE TIED CARD OF 'patrollaw03.HouseWalls'. -/
def houseWallsCard : Claim7 := { stood := { row := houseWallsRow, standIns := [], harness := (true, "192a071f275d62bcce8bc1741cffb188cba7e1c0d9cb57cbf01c06df6996497d"), looks := false }, kinds := [], alts := [], laidByText := true, laidKinds := [.data, .data, .data], laidTests := true, laidLooks := .later }
def HouseWallsCardSaid : Prop := Claim7.holds Tryd.pinned (.plain (OpenSpec.ofChange houseWallsSpec)) houseWallsCard

/-- THE TIED CARD OF 'patrollaw03.HouseChecks'. -/
def houseChecksCard : Claim7 := { stood := { row := houseChecksRow, standIns := [], harness := (true, "192a071f275d62bcce8bc1741cffb188cba7e1c0d9cb57cbf01c06df6996497d"), looks := false }, kinds := [], alts := [], laidByText := true, laidKinds := [.data, .data, .data], laidTests := true, laidLooks := .later }
def HouseChecksCardSaid : Prop := Claim7.holds Tryd.pinned (.plain (OpenSpec.ofChange houseChecksSpec)) houseChecksCard

/-- THE TIED CARD OF 'patrollaw03.HouseWays'. -/
def houseWaysCard : Claim7 := { stood := { row := houseWaysRow, standIns := [], harness := (true, "192a071f275d62bcce8bc1741cffb188cba7e1c0d9cb57cbf01c06df6996497d"), looks := false }, kinds := [], alts := [], laidByText := true, laidKinds := [.data, .data, .data], laidTests := true, laidLooks := .later }
def HouseWaysCardSaid : Prop := Claim7.holds Tryd.pinned (.plain (OpenSpec.ofChange houseWaysSpec)) houseWaysCard

/-- THE TIED CARD OF 'patrollaw03.HouseClosing'. -/
def houseClosingCard : Claim7 := { stood := { row := houseClosingRow, standIns := [], harness := (true, "192a071f275d62bcce8bc1741cffb188cba7e1c0d9cb57cbf01c06df6996497d"), looks := false }, kinds := [], alts := [], laidByText := true, laidKinds := [.data, .data, .data], laidTests := true, laidLooks := .later }
def HouseClosingCardSaid : Prop := Claim7.holds Tryd.pinned (.plain (OpenSpec.ofChange houseClosingSpec)) houseClosingCard

/-- THE TIED CARD OF 'patrollaw03.HouseBothWays'. -/
def houseBothWaysCard : Claim7 := { stood := { row := houseBothWaysRow, standIns := [], harness := (true, "192a071f275d62bcce8bc1741cffb188cba7e1c0d9cb57cbf01c06df6996497d"), looks := false }, kinds := [], alts := [], laidByText := true, laidKinds := [.data, .data, .data], laidTests := true, laidLooks := .later }
def HouseBothWaysCardSaid : Prop := Claim7.holds Tryd.pinned (.plain (OpenSpec.ofChange houseBothWaysSpec)) houseBothWaysCard

/-- THE TIED CARD OF 'patrollaw03.HouseProofs'. -/
def houseProofsCard : Claim7 := { stood := { row := houseProofsRow, standIns := [], harness := (true, "192a071f275d62bcce8bc1741cffb188cba7e1c0d9cb57cbf01c06df6996497d"), looks := false }, kinds := [], alts := [], laidByText := true, laidKinds := [.data, .data, .data], laidTests := true, laidLooks := .later }
def HouseProofsCardSaid : Prop := Claim7.holds Tryd.pinned (.plain (OpenSpec.ofChange houseProofsSpec)) houseProofsCard

/-- THE TIED CARD OF 'patrollaw03.HouseRoutes'. -/
def houseRoutesCard : Claim7 := { stood := { row := houseRoutesRow, standIns := [], harness := (true, "192a071f275d62bcce8bc1741cffb188cba7e1c0d9cb57cbf01c06df6996497d"), looks := false }, kinds := [], alts := [], laidByText := true, laidKinds := [.data, .data, .data], laidTests := true, laidLooks := .later }
def HouseRoutesCardSaid : Prop := Claim7.holds Tryd.pinned (.plain (OpenSpec.ofChange houseRoutesSpec)) houseRoutesCard

/-- THE TIED CARD OF 'patrollaw03.HouseTriangle'. -/
def houseTriangleCard : Claim7 := { stood := { row := houseTriangleRow, standIns := [], harness := (true, "192a071f275d62bcce8bc1741cffb188cba7e1c0d9cb57cbf01c06df6996497d"), looks := false }, kinds := [], alts := [], laidByText := true, laidKinds := [.data, .data, .data], laidTests := true, laidLooks := .later }
def HouseTriangleCardSaid : Prop := Claim7.holds Tryd.pinned (.plain (OpenSpec.ofChange houseTriangleSpec)) houseTriangleCard

/-- THE TIED CARD OF 'patrollaw03.HouseDistances'. -/
def houseDistancesCard : Claim7 := { stood := { row := houseDistancesRow, standIns := [], harness := (true, "192a071f275d62bcce8bc1741cffb188cba7e1c0d9cb57cbf01c06df6996497d"), looks := false }, kinds := [], alts := [], laidByText := true, laidKinds := [.data, .data, .data], laidTests := true, laidLooks := .later }
def HouseDistancesCardSaid : Prop := Claim7.holds Tryd.pinned (.plain (OpenSpec.ofChange houseDistancesSpec)) houseDistancesCard

/-- THE TIED CARD OF 'patrollaw03.HouseWalked'. -/
def houseWalkedCard : Claim7 := { stood := { row := houseWalkedRow, standIns := [], harness := (true, "192a071f275d62bcce8bc1741cffb188cba7e1c0d9cb57cbf01c06df6996497d"), looks := false }, kinds := [], alts := [], laidByText := true, laidKinds := [.data, .data, .data], laidTests := true, laidLooks := .later }
def HouseWalkedCardSaid : Prop := Claim7.holds Tryd.pinned (.plain (OpenSpec.ofChange houseWalkedSpec)) houseWalkedCard

/-- THE TIED CARD OF 'patrollaw03.HouseLater'. -/
def houseLaterCard : Claim7 := { stood := { row := houseLaterRow, standIns := [], harness := (true, "192a071f275d62bcce8bc1741cffb188cba7e1c0d9cb57cbf01c06df6996497d"), looks := false }, kinds := [], alts := [], laidByText := true, laidKinds := [.data, .data, .data], laidTests := true, laidLooks := .later }
def HouseLaterCardSaid : Prop := Claim7.holds Tryd.pinned (.plain (OpenSpec.ofChange houseLaterSpec)) houseLaterCard

/-- THE TIED CARD OF 'patrollaw03.HouseTours'. -/
def houseToursCard : Claim7 := { stood := { row := houseToursRow, standIns := [], harness := (true, "192a071f275d62bcce8bc1741cffb188cba7e1c0d9cb57cbf01c06df6996497d"), looks := false }, kinds := [], alts := [], laidByText := true, laidKinds := [.data, .data, .data], laidTests := true, laidLooks := .later }
def HouseToursCardSaid : Prop := Claim7.holds Tryd.pinned (.plain (OpenSpec.ofChange houseToursSpec)) houseToursCard

/-- THE TIED CARD OF 'patrollaw03.HouseDoors'. -/
def houseDoorsCard : Claim7 := { stood := { row := houseDoorsRow, standIns := [], harness := (true, "192a071f275d62bcce8bc1741cffb188cba7e1c0d9cb57cbf01c06df6996497d"), looks := false }, kinds := [], alts := [], laidByText := true, laidKinds := [.data, .data, .data], laidTests := true, laidLooks := .later }
def HouseDoorsCardSaid : Prop := Claim7.holds Tryd.pinned (.plain (OpenSpec.ofChange houseDoorsSpec)) houseDoorsCard

/-- THE TIED CARD OF 'patrollaw03.HouseNext'. -/
def houseNextCard : Claim7 := { stood := { row := houseNextRow, standIns := [], harness := (true, "192a071f275d62bcce8bc1741cffb188cba7e1c0d9cb57cbf01c06df6996497d"), looks := false }, kinds := [], alts := [], laidByText := true, laidKinds := [.data, .data, .data], laidTests := true, laidLooks := .later }
def HouseNextCardSaid : Prop := Claim7.holds Tryd.pinned (.plain (OpenSpec.ofChange houseNextSpec)) houseNextCard

/-- THE SECOND FORM's CARD OF 'patrollaw03.HouseWalks'. -/
def houseWalksUptoCard : Claim7 := { stood := { row := houseWalksUptoRow, standIns := [], harness := (true, "192a071f275d62bcce8bc1741cffb188cba7e1c0d9cb57cbf01c06df6996497d"), looks := false }, kinds := [], alts := [], laidByText := true, laidKinds := [.data, .data, .data], laidTests := true, laidLooks := .later }
def HouseWalksUptoCardSaid : Prop := Claim7.holds Tryd.pinned (.plain (OpenSpec.upto houseWalksSpec)) houseWalksUptoCard

/-- THE SECOND FORM's CARD OF 'patrollaw03.HouseShuts'. -/
def houseShutsUptoCard : Claim7 := { stood := { row := houseShutsUptoRow, standIns := [], harness := (true, "192a071f275d62bcce8bc1741cffb188cba7e1c0d9cb57cbf01c06df6996497d"), looks := false }, kinds := [], alts := [], laidByText := true, laidKinds := [.data, .data, .data], laidTests := true, laidLooks := .later }
def HouseShutsUptoCardSaid : Prop := Claim7.holds Tryd.pinned (.plain (OpenSpec.upto houseShutsSpec)) houseShutsUptoCard

/-- THE SECOND FORM's CARD OF 'patrollaw03.HouseTimes'. -/
def houseTimesUptoCard : Claim7 := { stood := { row := houseTimesUptoRow, standIns := [], harness := (true, "192a071f275d62bcce8bc1741cffb188cba7e1c0d9cb57cbf01c06df6996497d"), looks := false }, kinds := [], alts := [], laidByText := true, laidKinds := [.data, .data, .data], laidTests := true, laidLooks := .later }
def HouseTimesUptoCardSaid : Prop := Claim7.holds Tryd.pinned (.plain (OpenSpec.upto houseTimesSpec)) houseTimesUptoCard

/-- THE SECOND FORM's CARD OF 'patrollaw03.HouseWalls'. -/
def houseWallsUptoCard : Claim7 := { stood := { row := houseWallsUptoRow, standIns := [], harness := (true, "192a071f275d62bcce8bc1741cffb188cba7e1c0d9cb57cbf01c06df6996497d"), looks := false }, kinds := [], alts := [], laidByText := true, laidKinds := [.data, .data, .data], laidTests := true, laidLooks := .later }
def HouseWallsUptoCardSaid : Prop := Claim7.holds Tryd.pinned (.plain (OpenSpec.upto houseWallsSpec)) houseWallsUptoCard

/-- THE SECOND FORM's CARD OF 'patrollaw03.HouseChecks'. -/
def houseChecksUptoCard : Claim7 := { stood := { row := houseChecksUptoRow, standIns := [], harness := (true, "192a071f275d62bcce8bc1741cffb188cba7e1c0d9cb57cbf01c06df6996497d"), looks := false }, kinds := [], alts := [], laidByText := true, laidKinds := [.data, .data, .data], laidTests := true, laidLooks := .later }
def HouseChecksUptoCardSaid : Prop := Claim7.holds Tryd.pinned (.plain (OpenSpec.upto houseChecksSpec)) houseChecksUptoCard

/-- THE SECOND FORM's CARD OF 'patrollaw03.HouseWays'. -/
def houseWaysUptoCard : Claim7 := { stood := { row := houseWaysUptoRow, standIns := [], harness := (true, "192a071f275d62bcce8bc1741cffb188cba7e1c0d9cb57cbf01c06df6996497d"), looks := false }, kinds := [], alts := [], laidByText := true, laidKinds := [.data, .data, .data], laidTests := true, laidLooks := .later }
def HouseWaysUptoCardSaid : Prop := Claim7.holds Tryd.pinned (.plain (OpenSpec.upto houseWaysSpec)) houseWaysUptoCard

/-- THE SECOND FORM's CARD OF 'patrollaw03.HouseClosing'. -/
def houseClosingUptoCard : Claim7 := { stood := { row := houseClosingUptoRow, standIns := [], harness := (true, "192a071f275d62bcce8bc1741cffb188cba7e1c0d9cb57cbf01c06df6996497d"), looks := false }, kinds := [], alts := [], laidByText := true, laidKinds := [.data, .data, .data], laidTests := true, laidLooks := .later }
def HouseClosingUptoCardSaid : Prop := Claim7.holds Tryd.pinned (.plain (OpenSpec.upto houseClosingSpec)) houseClosingUptoCard

/-- THE SECOND FORM's CARD OF 'patrollaw03.HouseBothWays'. -/
def houseBothWaysUptoCard : Claim7 := { stood := { row := houseBothWaysUptoRow, standIns := [], harness := (true, "192a071f275d62bcce8bc1741cffb188cba7e1c0d9cb57cbf01c06df6996497d"), looks := false }, kinds := [], alts := [], laidByText := true, laidKinds := [.data, .data, .data], laidTests := true, laidLooks := .later }
def HouseBothWaysUptoCardSaid : Prop := Claim7.holds Tryd.pinned (.plain (OpenSpec.upto houseBothWaysSpec)) houseBothWaysUptoCard

/-- THE SECOND FORM's CARD OF 'patrollaw03.HouseProofs'. -/
def houseProofsUptoCard : Claim7 := { stood := { row := houseProofsUptoRow, standIns := [], harness := (true, "192a071f275d62bcce8bc1741cffb188cba7e1c0d9cb57cbf01c06df6996497d"), looks := false }, kinds := [], alts := [], laidByText := true, laidKinds := [.data, .data, .data], laidTests := true, laidLooks := .later }
def HouseProofsUptoCardSaid : Prop := Claim7.holds Tryd.pinned (.plain (OpenSpec.upto houseProofsSpec)) houseProofsUptoCard

/-- THE SECOND FORM's CARD OF 'patrollaw03.HouseRoutes'. -/
def houseRoutesUptoCard : Claim7 := { stood := { row := houseRoutesUptoRow, standIns := [], harness := (true, "192a071f275d62bcce8bc1741cffb188cba7e1c0d9cb57cbf01c06df6996497d"), looks := false }, kinds := [], alts := [], laidByText := true, laidKinds := [.data, .data, .data], laidTests := true, laidLooks := .later }
def HouseRoutesUptoCardSaid : Prop := Claim7.holds Tryd.pinned (.plain (OpenSpec.upto houseRoutesSpec)) houseRoutesUptoCard

/-- THE SECOND FORM's CARD OF 'patrollaw03.HouseTriangle'. -/
def houseTriangleUptoCard : Claim7 := { stood := { row := houseTriangleUptoRow, standIns := [], harness := (true, "192a071f275d62bcce8bc1741cffb188cba7e1c0d9cb57cbf01c06df6996497d"), looks := false }, kinds := [], alts := [], laidByText := true, laidKinds := [.data, .data, .data], laidTests := true, laidLooks := .later }
def HouseTriangleUptoCardSaid : Prop := Claim7.holds Tryd.pinned (.plain (OpenSpec.upto houseTriangleSpec)) houseTriangleUptoCard

/-- THE SECOND FORM's CARD OF 'patrollaw03.HouseDistances'. -/
def houseDistancesUptoCard : Claim7 := { stood := { row := houseDistancesUptoRow, standIns := [], harness := (true, "192a071f275d62bcce8bc1741cffb188cba7e1c0d9cb57cbf01c06df6996497d"), looks := false }, kinds := [], alts := [], laidByText := true, laidKinds := [.data, .data, .data], laidTests := true, laidLooks := .later }
def HouseDistancesUptoCardSaid : Prop := Claim7.holds Tryd.pinned (.plain (OpenSpec.upto houseDistancesSpec)) houseDistancesUptoCard

/-- THE SECOND FORM's CARD OF 'patrollaw03.HouseWalked'. -/
def houseWalkedUptoCard : Claim7 := { stood := { row := houseWalkedUptoRow, standIns := [], harness := (true, "192a071f275d62bcce8bc1741cffb188cba7e1c0d9cb57cbf01c06df6996497d"), looks := false }, kinds := [], alts := [], laidByText := true, laidKinds := [.data, .data, .data], laidTests := true, laidLooks := .later }
def HouseWalkedUptoCardSaid : Prop := Claim7.holds Tryd.pinned (.plain (OpenSpec.upto houseWalkedSpec)) houseWalkedUptoCard

/-- THE SECOND FORM's CARD OF 'patrollaw03.HouseLater'. -/
def houseLaterUptoCard : Claim7 := { stood := { row := houseLaterUptoRow, standIns := [], harness := (true, "192a071f275d62bcce8bc1741cffb188cba7e1c0d9cb57cbf01c06df6996497d"), looks := false }, kinds := [], alts := [], laidByText := true, laidKinds := [.data, .data, .data], laidTests := true, laidLooks := .later }
def HouseLaterUptoCardSaid : Prop := Claim7.holds Tryd.pinned (.plain (OpenSpec.upto houseLaterSpec)) houseLaterUptoCard

/-- THE SECOND FORM's CARD OF 'patrollaw03.HouseTours'. -/
def houseToursUptoCard : Claim7 := { stood := { row := houseToursUptoRow, standIns := [], harness := (true, "192a071f275d62bcce8bc1741cffb188cba7e1c0d9cb57cbf01c06df6996497d"), looks := false }, kinds := [], alts := [], laidByText := true, laidKinds := [.data, .data, .data], laidTests := true, laidLooks := .later }
def HouseToursUptoCardSaid : Prop := Claim7.holds Tryd.pinned (.plain (OpenSpec.upto houseToursSpec)) houseToursUptoCard

/-- THE SECOND FORM's CARD OF 'patrollaw03.HouseDoors'. -/
def houseDoorsUptoCard : Claim7 := { stood := { row := houseDoorsUptoRow, standIns := [], harness := (true, "192a071f275d62bcce8bc1741cffb188cba7e1c0d9cb57cbf01c06df6996497d"), looks := false }, kinds := [], alts := [], laidByText := true, laidKinds := [.data, .data, .data], laidTests := true, laidLooks := .later }
def HouseDoorsUptoCardSaid : Prop := Claim7.holds Tryd.pinned (.plain (OpenSpec.upto houseDoorsSpec)) houseDoorsUptoCard

/-- THE SECOND FORM's CARD OF 'patrollaw03.HouseNext'. -/
def houseNextUptoCard : Claim7 := { stood := { row := houseNextUptoRow, standIns := [], harness := (true, "192a071f275d62bcce8bc1741cffb188cba7e1c0d9cb57cbf01c06df6996497d"), looks := false }, kinds := [], alts := [], laidByText := true, laidKinds := [.data, .data, .data], laidTests := true, laidLooks := .later }
def HouseNextUptoCardSaid : Prop := Claim7.holds Tryd.pinned (.plain (OpenSpec.upto houseNextSpec)) houseNextUptoCard
end Rows
end Go.Proofs.YtofdhddbfjfkcaaDoor

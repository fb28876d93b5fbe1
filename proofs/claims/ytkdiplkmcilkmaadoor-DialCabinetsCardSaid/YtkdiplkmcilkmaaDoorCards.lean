/-
  DERIVED. GIVEN WITH THE SEED: THE CARDS: each row of YtkdiplkmcilkmaaDoorRows.lean that lists a variable, with what it lists TIED to the program's text (the seventh form; the later family's looks); each row that meets fmt, with fmt's text TOLD by the authors' own Lean function (tested against real Go, not proved from fmt's source: count such statements apart). THE CARD IS WHAT COUNTS. Prove the row's statement (the work); the ties are given (YtkdiplkmcilkmaaDoorTie.lean); close each card by the builder's one call (the guide's Derived/Test/ToyasCard.lean, 'card_holds'). Laid BY PROGRAM, IN A SANDBOX (cutbox-door.mjs). By AI agents, Wed Nov 11 2026. No macro, syntax, notation, axiom, sorry.
-/
import Derived.Test.YtkdiplkmcilkmaaDoorRows
import GoSem.ClaimSeven
namespace Go.Proofs.YtkdiplkmcilkmaaDoor
namespace Rows

/-- THE TIED CARD OF 'patrollaw01.DialSets'. -/
def dialSetsCard : Claim7 := { stood := { row := dialSetsRow, standIns := [], harness := (true, "361d8b20da6ee4fe2b2f4ccc1f82ebd99e86086e9cb1cc233313035315c0b10f"), looks := false }, kinds := [], alts := [], laidByText := true, laidKinds := [.data, .data, .data], laidTests := true, laidLooks := .later }
def DialSetsCardSaid : Prop := Claim7.holds Tryd.pinned (.plain (OpenSpec.ofChange dialSetsSpec)) dialSetsCard

/-- THE TIED CARD OF 'patrollaw01.DialAlgebra'. -/
def dialAlgebraCard : Claim7 := { stood := { row := dialAlgebraRow, standIns := [], harness := (true, "361d8b20da6ee4fe2b2f4ccc1f82ebd99e86086e9cb1cc233313035315c0b10f"), looks := false }, kinds := [], alts := [], laidByText := true, laidKinds := [.data, .data, .data], laidTests := true, laidLooks := .later }
def DialAlgebraCardSaid : Prop := Claim7.holds Tryd.pinned (.plain (OpenSpec.ofChange dialAlgebraSpec)) dialAlgebraCard

/-- THE TIED CARD OF 'patrollaw01.DialMarks'. -/
def dialMarksCard : Claim7 := { stood := { row := dialMarksRow, standIns := [], harness := (true, "361d8b20da6ee4fe2b2f4ccc1f82ebd99e86086e9cb1cc233313035315c0b10f"), looks := false }, kinds := [], alts := [], laidByText := true, laidKinds := [.data, .data, .data], laidTests := true, laidLooks := .later }
def DialMarksCardSaid : Prop := Claim7.holds Tryd.pinned (.plain (OpenSpec.ofChange dialMarksSpec)) dialMarksCard

/-- THE TIED CARD OF 'patrollaw01.DialAngles'. -/
def dialAnglesCard : Claim7 := { stood := { row := dialAnglesRow, standIns := [], harness := (true, "361d8b20da6ee4fe2b2f4ccc1f82ebd99e86086e9cb1cc233313035315c0b10f"), looks := false }, kinds := [], alts := [], laidByText := true, laidKinds := [.data, .data, .data], laidTests := true, laidLooks := .later }
def DialAnglesCardSaid : Prop := Claim7.holds Tryd.pinned (.plain (OpenSpec.ofChange dialAnglesSpec)) dialAnglesCard

/-- THE TIED CARD OF 'patrollaw01.DialGrows'. -/
def dialGrowsCard : Claim7 := { stood := { row := dialGrowsRow, standIns := [], harness := (true, "361d8b20da6ee4fe2b2f4ccc1f82ebd99e86086e9cb1cc233313035315c0b10f"), looks := false }, kinds := [], alts := [], laidByText := true, laidKinds := [.data, .data, .data], laidTests := true, laidLooks := .later }
def DialGrowsCardSaid : Prop := Claim7.holds Tryd.pinned (.plain (OpenSpec.ofChange dialGrowsSpec)) dialGrowsCard

/-- THE TIED CARD OF 'patrollaw01.DialMembers'. -/
def dialMembersCard : Claim7 := { stood := { row := dialMembersRow, standIns := [], harness := (true, "361d8b20da6ee4fe2b2f4ccc1f82ebd99e86086e9cb1cc233313035315c0b10f"), looks := false }, kinds := [], alts := [], laidByText := true, laidKinds := [.data, .data, .data], laidTests := true, laidLooks := .later }
def DialMembersCardSaid : Prop := Claim7.holds Tryd.pinned (.plain (OpenSpec.ofChange dialMembersSpec)) dialMembersCard

/-- THE TIED CARD OF 'patrollaw01.DialConfuses'. -/
def dialConfusesCard : Claim7 := { stood := { row := dialConfusesRow, standIns := [], harness := (true, "361d8b20da6ee4fe2b2f4ccc1f82ebd99e86086e9cb1cc233313035315c0b10f"), looks := false }, kinds := [], alts := [], laidByText := true, laidKinds := [.data, .data, .data], laidTests := true, laidLooks := .later }
def DialConfusesCardSaid : Prop := Claim7.holds Tryd.pinned (.plain (OpenSpec.ofChange dialConfusesSpec)) dialConfusesCard

/-- THE TIED CARD OF 'patrollaw01.DialKnows'. -/
def dialKnowsCard : Claim7 := { stood := { row := dialKnowsRow, standIns := [], harness := (true, "361d8b20da6ee4fe2b2f4ccc1f82ebd99e86086e9cb1cc233313035315c0b10f"), looks := false }, kinds := [], alts := [], laidByText := true, laidKinds := [.data, .data, .data], laidTests := true, laidLooks := .later }
def DialKnowsCardSaid : Prop := Claim7.holds Tryd.pinned (.plain (OpenSpec.ofChange dialKnowsSpec)) dialKnowsCard

/-- THE TIED CARD OF 'patrollaw01.DialStrikesRead'. -/
def dialStrikesReadCard : Claim7 := { stood := { row := dialStrikesReadRow, standIns := [], harness := (true, "361d8b20da6ee4fe2b2f4ccc1f82ebd99e86086e9cb1cc233313035315c0b10f"), looks := false }, kinds := [], alts := [], laidByText := true, laidKinds := [.data, .data, .data], laidTests := true, laidLooks := .later }
def DialStrikesReadCardSaid : Prop := Claim7.holds Tryd.pinned (.plain (OpenSpec.ofChange dialStrikesReadSpec)) dialStrikesReadCard

/-- THE TIED CARD OF 'patrollaw01.DialMakersStrike'. -/
def dialMakersStrikeCard : Claim7 := { stood := { row := dialMakersStrikeRow, standIns := [], harness := (true, "361d8b20da6ee4fe2b2f4ccc1f82ebd99e86086e9cb1cc233313035315c0b10f"), looks := false }, kinds := [], alts := [], laidByText := true, laidKinds := [.data, .data, .data], laidTests := true, laidLooks := .later }
def DialMakersStrikeCardSaid : Prop := Claim7.holds Tryd.pinned (.plain (OpenSpec.ofChange dialMakersStrikeSpec)) dialMakersStrikeCard

/-- THE TIED CARD OF 'patrollaw01.DialKeys'. -/
def dialKeysCard : Claim7 := { stood := { row := dialKeysRow, standIns := [], harness := (true, "361d8b20da6ee4fe2b2f4ccc1f82ebd99e86086e9cb1cc233313035315c0b10f"), looks := false }, kinds := [], alts := [], laidByText := true, laidKinds := [.data, .data, .data], laidTests := true, laidLooks := .later }
def DialKeysCardSaid : Prop := Claim7.holds Tryd.pinned (.plain (OpenSpec.ofChange dialKeysSpec)) dialKeysCard

/-- THE TIED CARD OF 'patrollaw01.DialTwice'. -/
def dialTwiceCard : Claim7 := { stood := { row := dialTwiceRow, standIns := [], harness := (true, "361d8b20da6ee4fe2b2f4ccc1f82ebd99e86086e9cb1cc233313035315c0b10f"), looks := false }, kinds := [], alts := [], laidByText := true, laidKinds := [.data, .data, .data], laidTests := true, laidLooks := .later }
def DialTwiceCardSaid : Prop := Claim7.holds Tryd.pinned (.plain (OpenSpec.ofChange dialTwiceSpec)) dialTwiceCard

/-- THE TIED CARD OF 'patrollaw01.DialProposes'. -/
def dialProposesCard : Claim7 := { stood := { row := dialProposesRow, standIns := [], harness := (true, "361d8b20da6ee4fe2b2f4ccc1f82ebd99e86086e9cb1cc233313035315c0b10f"), looks := false }, kinds := [], alts := [], laidByText := true, laidKinds := [.data, .data, .data], laidTests := true, laidLooks := .later }
def DialProposesCardSaid : Prop := Claim7.holds Tryd.pinned (.plain (OpenSpec.ofChange dialProposesSpec)) dialProposesCard

/-- THE TIED CARD OF 'patrollaw01.DialSharper'. -/
def dialSharperCard : Claim7 := { stood := { row := dialSharperRow, standIns := [], harness := (true, "361d8b20da6ee4fe2b2f4ccc1f82ebd99e86086e9cb1cc233313035315c0b10f"), looks := false }, kinds := [], alts := [], laidByText := true, laidKinds := [.data, .data, .data], laidTests := true, laidLooks := .later }
def DialSharperCardSaid : Prop := Claim7.holds Tryd.pinned (.plain (OpenSpec.ofChange dialSharperSpec)) dialSharperCard

/-- THE TIED CARD OF 'patrollaw01.DialCabinets'. -/
def dialCabinetsCard : Claim7 := { stood := { row := dialCabinetsRow, standIns := [], harness := (true, "361d8b20da6ee4fe2b2f4ccc1f82ebd99e86086e9cb1cc233313035315c0b10f"), looks := false }, kinds := [], alts := [], laidByText := true, laidKinds := [.data, .data, .data], laidTests := true, laidLooks := .later }
def DialCabinetsCardSaid : Prop := Claim7.holds Tryd.pinned (.plain (OpenSpec.ofChange dialCabinetsSpec)) dialCabinetsCard

/-- THE SECOND FORM's CARD OF 'patrollaw01.DialSets'. -/
def dialSetsUptoCard : Claim7 := { stood := { row := dialSetsUptoRow, standIns := [], harness := (true, "361d8b20da6ee4fe2b2f4ccc1f82ebd99e86086e9cb1cc233313035315c0b10f"), looks := false }, kinds := [], alts := [], laidByText := true, laidKinds := [.data, .data, .data], laidTests := true, laidLooks := .later }
def DialSetsUptoCardSaid : Prop := Claim7.holds Tryd.pinned (.plain (OpenSpec.upto dialSetsSpec)) dialSetsUptoCard

/-- THE SECOND FORM's CARD OF 'patrollaw01.DialAlgebra'. -/
def dialAlgebraUptoCard : Claim7 := { stood := { row := dialAlgebraUptoRow, standIns := [], harness := (true, "361d8b20da6ee4fe2b2f4ccc1f82ebd99e86086e9cb1cc233313035315c0b10f"), looks := false }, kinds := [], alts := [], laidByText := true, laidKinds := [.data, .data, .data], laidTests := true, laidLooks := .later }
def DialAlgebraUptoCardSaid : Prop := Claim7.holds Tryd.pinned (.plain (OpenSpec.upto dialAlgebraSpec)) dialAlgebraUptoCard

/-- THE SECOND FORM's CARD OF 'patrollaw01.DialMarks'. -/
def dialMarksUptoCard : Claim7 := { stood := { row := dialMarksUptoRow, standIns := [], harness := (true, "361d8b20da6ee4fe2b2f4ccc1f82ebd99e86086e9cb1cc233313035315c0b10f"), looks := false }, kinds := [], alts := [], laidByText := true, laidKinds := [.data, .data, .data], laidTests := true, laidLooks := .later }
def DialMarksUptoCardSaid : Prop := Claim7.holds Tryd.pinned (.plain (OpenSpec.upto dialMarksSpec)) dialMarksUptoCard

/-- THE SECOND FORM's CARD OF 'patrollaw01.DialAngles'. -/
def dialAnglesUptoCard : Claim7 := { stood := { row := dialAnglesUptoRow, standIns := [], harness := (true, "361d8b20da6ee4fe2b2f4ccc1f82ebd99e86086e9cb1cc233313035315c0b10f"), looks := false }, kinds := [], alts := [], laidByText := true, laidKinds := [.data, .data, .data], laidTests := true, laidLooks := .later }
def DialAnglesUptoCardSaid : Prop := Claim7.holds Tryd.pinned (.plain (OpenSpec.upto dialAnglesSpec)) dialAnglesUptoCard

/-- THE SECOND FORM's CARD OF 'patrollaw01.DialGrows'. -/
def dialGrowsUptoCard : Claim7 := { stood := { row := dialGrowsUptoRow, standIns := [], harness := (true, "361d8b20da6ee4fe2b2f4ccc1f82ebd99e86086e9cb1cc233313035315c0b10f"), looks := false }, kinds := [], alts := [], laidByText := true, laidKinds := [.data, .data, .data], laidTests := true, laidLooks := .later }
def DialGrowsUptoCardSaid : Prop := Claim7.holds Tryd.pinned (.plain (OpenSpec.upto dialGrowsSpec)) dialGrowsUptoCard

/-- THE SECOND FORM's CARD OF 'patrollaw01.DialMembers'. -/
def dialMembersUptoCard : Claim7 := { stood := { row := dialMembersUptoRow, standIns := [], harness := (true, "361d8b20da6ee4fe2b2f4ccc1f82ebd99e86086e9cb1cc233313035315c0b10f"), looks := false }, kinds := [], alts := [], laidByText := true, laidKinds := [.data, .data, .data], laidTests := true, laidLooks := .later }
def DialMembersUptoCardSaid : Prop := Claim7.holds Tryd.pinned (.plain (OpenSpec.upto dialMembersSpec)) dialMembersUptoCard

/-- THE SECOND FORM's CARD OF 'patrollaw01.DialConfuses'. -/
def dialConfusesUptoCard : Claim7 := { stood := { row := dialConfusesUptoRow, standIns := [], harness := (true, "361d8b20da6ee4fe2b2f4ccc1f82ebd99e86086e9cb1cc233313035315c0b10f"), looks := false }, kinds := [], alts := [], laidByText := true, laidKinds := [.data, .data, .data], laidTests := true, laidLooks := .later }
def DialConfusesUptoCardSaid : Prop := Claim7.holds Tryd.pinned (.plain (OpenSpec.upto dialConfusesSpec)) dialConfusesUptoCard

/-- THE SECOND FORM's CARD OF 'patrollaw01.DialKnows'. -/
def dialKnowsUptoCard : Claim7 := { stood := { row := dialKnowsUptoRow, standIns := [], harness := (true, "361d8b20da6ee4fe2b2f4ccc1f82ebd99e86086e9cb1cc233313035315c0b10f"), looks := false }, kinds := [], alts := [], laidByText := true, laidKinds := [.data, .data, .data], laidTests := true, laidLooks := .later }
def DialKnowsUptoCardSaid : Prop := Claim7.holds Tryd.pinned (.plain (OpenSpec.upto dialKnowsSpec)) dialKnowsUptoCard

/-- THE SECOND FORM's CARD OF 'patrollaw01.DialStrikesRead'. -/
def dialStrikesReadUptoCard : Claim7 := { stood := { row := dialStrikesReadUptoRow, standIns := [], harness := (true, "361d8b20da6ee4fe2b2f4ccc1f82ebd99e86086e9cb1cc233313035315c0b10f"), looks := false }, kinds := [], alts := [], laidByText := true, laidKinds := [.data, .data, .data], laidTests := true, laidLooks := .later }
def DialStrikesReadUptoCardSaid : Prop := Claim7.holds Tryd.pinned (.plain (OpenSpec.upto dialStrikesReadSpec)) dialStrikesReadUptoCard

/-- THE SECOND FORM's CARD OF 'patrollaw01.DialMakersStrike'. -/
def dialMakersStrikeUptoCard : Claim7 := { stood := { row := dialMakersStrikeUptoRow, standIns := [], harness := (true, "361d8b20da6ee4fe2b2f4ccc1f82ebd99e86086e9cb1cc233313035315c0b10f"), looks := false }, kinds := [], alts := [], laidByText := true, laidKinds := [.data, .data, .data], laidTests := true, laidLooks := .later }
def DialMakersStrikeUptoCardSaid : Prop := Claim7.holds Tryd.pinned (.plain (OpenSpec.upto dialMakersStrikeSpec)) dialMakersStrikeUptoCard

/-- THE SECOND FORM's CARD OF 'patrollaw01.DialKeys'. -/
def dialKeysUptoCard : Claim7 := { stood := { row := dialKeysUptoRow, standIns := [], harness := (true, "361d8b20da6ee4fe2b2f4ccc1f82ebd99e86086e9cb1cc233313035315c0b10f"), looks := false }, kinds := [], alts := [], laidByText := true, laidKinds := [.data, .data, .data], laidTests := true, laidLooks := .later }
def DialKeysUptoCardSaid : Prop := Claim7.holds Tryd.pinned (.plain (OpenSpec.upto dialKeysSpec)) dialKeysUptoCard

/-- THE SECOND FORM's CARD OF 'patrollaw01.DialTwice'. -/
def dialTwiceUptoCard : Claim7 := { stood := { row := dialTwiceUptoRow, standIns := [], harness := (true, "361d8b20da6ee4fe2b2f4ccc1f82ebd99e86086e9cb1cc233313035315c0b10f"), looks := false }, kinds := [], alts := [], laidByText := true, laidKinds := [.data, .data, .data], laidTests := true, laidLooks := .later }
def DialTwiceUptoCardSaid : Prop := Claim7.holds Tryd.pinned (.plain (OpenSpec.upto dialTwiceSpec)) dialTwiceUptoCard

/-- THE SECOND FORM's CARD OF 'patrollaw01.DialProposes'. -/
def dialProposesUptoCard : Claim7 := { stood := { row := dialProposesUptoRow, standIns := [], harness := (true, "361d8b20da6ee4fe2b2f4ccc1f82ebd99e86086e9cb1cc233313035315c0b10f"), looks := false }, kinds := [], alts := [], laidByText := true, laidKinds := [.data, .data, .data], laidTests := true, laidLooks := .later }
def DialProposesUptoCardSaid : Prop := Claim7.holds Tryd.pinned (.plain (OpenSpec.upto dialProposesSpec)) dialProposesUptoCard

/-- THE SECOND FORM's CARD OF 'patrollaw01.DialSharper'. -/
def dialSharperUptoCard : Claim7 := { stood := { row := dialSharperUptoRow, standIns := [], harness := (true, "361d8b20da6ee4fe2b2f4ccc1f82ebd99e86086e9cb1cc233313035315c0b10f"), looks := false }, kinds := [], alts := [], laidByText := true, laidKinds := [.data, .data, .data], laidTests := true, laidLooks := .later }
def DialSharperUptoCardSaid : Prop := Claim7.holds Tryd.pinned (.plain (OpenSpec.upto dialSharperSpec)) dialSharperUptoCard

/-- THE SECOND FORM's CARD OF 'patrollaw01.DialCabinets'. -/
def dialCabinetsUptoCard : Claim7 := { stood := { row := dialCabinetsUptoRow, standIns := [], harness := (true, "361d8b20da6ee4fe2b2f4ccc1f82ebd99e86086e9cb1cc233313035315c0b10f"), looks := false }, kinds := [], alts := [], laidByText := true, laidKinds := [.data, .data, .data], laidTests := true, laidLooks := .later }
def DialCabinetsUptoCardSaid : Prop := Claim7.holds Tryd.pinned (.plain (OpenSpec.upto dialCabinetsSpec)) dialCabinetsUptoCard
end Rows
end Go.Proofs.YtkdiplkmcilkmaaDoor

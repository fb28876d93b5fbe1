/-
  DERIVED. GIVEN WITH THE SEED: THE CARDS: each row of YtkdiplkmcilkmaaGreatDoorRows.lean that lists a variable, with what it lists TIED to the program's text (the seventh form; the later family's looks); each row that meets fmt, with fmt's text TOLD by the authors' own Lean function (tested against real Go, not proved from fmt's source: count such statements apart). THE CARD IS WHAT COUNTS. Prove the row's statement (the work); the ties are given (YtkdiplkmcilkmaaGreatDoorTie.lean); close each card by the builder's one call (the guide's Derived/Test/ToyasCard.lean, 'card_holds'). Laid BY PROGRAM, IN A SANDBOX (cutbox-door.mjs). By AI agents, Wed Nov 11 2026. No macro, syntax, notation, axiom, sorry.
-/
import Derived.Test.YtkdiplkmcilkmaaGreatDoorRows
import GoSem.ClaimSeven
namespace Go.Proofs.YtkdiplkmcilkmaaGreatDoor
namespace Rows

/-- THE TIED CARD OF 'patrollaw01.DialMakers'. -/
def dialMakersCard : Claim7 := { stood := { row := dialMakersRow, standIns := [], harness := (true, "8a07cd88e9b98759b0e02e993bd3472d129c76626b6c29ae5629b088b038583d"), looks := true }, kinds := [], alts := [], laidByText := true, laidKinds := [.data, .data, .data], laidTests := true, laidLooks := .later }
def DialMakersCardSaid : Prop := Claim7.holds Tryz.pinned (.plain (OpenSpec.ofChange dialMakersSpec)) dialMakersCard

/-- THE TIED CARD OF 'patrollaw01.DialUnread'. -/
def dialUnreadCard : Claim7 := { stood := { row := dialUnreadRow, standIns := [], harness := (true, "8a07cd88e9b98759b0e02e993bd3472d129c76626b6c29ae5629b088b038583d"), looks := true }, kinds := [], alts := [], laidByText := true, laidKinds := [.data, .data, .data], laidTests := true, laidLooks := .later }
def DialUnreadCardSaid : Prop := Claim7.holds Tryz.pinned (.plain (OpenSpec.ofChange dialUnreadSpec)) dialUnreadCard

/-- THE TIED CARD OF 'patrollaw01.DialTexts'. -/
def dialTextsCard : Claim7 := { stood := { row := dialTextsRow, standIns := [], harness := (true, "8a07cd88e9b98759b0e02e993bd3472d129c76626b6c29ae5629b088b038583d"), looks := true }, kinds := [], alts := [], laidByText := true, laidKinds := [.data, .data, .data, .data, .sentinel, .sentinel, .pinned], laidTests := true, laidLooks := .later }
def DialTextsCardSaid : Prop := Claim7.holds Tryz.pinned (.plain (OpenSpec.ofChange dialTextsSpec)) dialTextsCard

/-- THE TIED CARD OF 'patrollaw01.DialTextsBack'. -/
def dialTextsBackCard : Claim7 := { stood := { row := dialTextsBackRow, standIns := [], harness := (true, "8a07cd88e9b98759b0e02e993bd3472d129c76626b6c29ae5629b088b038583d"), looks := true }, kinds := [], alts := [], laidByText := true, laidKinds := [.data, .data, .data, .data, .sentinel, .sentinel, .pinned], laidTests := true, laidLooks := .later }
def DialTextsBackCardSaid : Prop := Claim7.holds Tryz.pinned (.plain (OpenSpec.ofChange dialTextsBackSpec)) dialTextsBackCard

/-- THE SECOND FORM's CARD OF 'patrollaw01.DialMakers'. -/
def dialMakersUptoCard : Claim7 := { stood := { row := dialMakersUptoRow, standIns := [], harness := (true, "8a07cd88e9b98759b0e02e993bd3472d129c76626b6c29ae5629b088b038583d"), looks := true }, kinds := [], alts := [], laidByText := true, laidKinds := [.data, .data, .data], laidTests := true, laidLooks := .later }
def DialMakersUptoCardSaid : Prop := Claim7.holds Tryz.pinned (.plain (OpenSpec.upto dialMakersSpec)) dialMakersUptoCard

/-- THE SECOND FORM's CARD OF 'patrollaw01.DialUnread'. -/
def dialUnreadUptoCard : Claim7 := { stood := { row := dialUnreadUptoRow, standIns := [], harness := (true, "8a07cd88e9b98759b0e02e993bd3472d129c76626b6c29ae5629b088b038583d"), looks := true }, kinds := [], alts := [], laidByText := true, laidKinds := [.data, .data, .data], laidTests := true, laidLooks := .later }
def DialUnreadUptoCardSaid : Prop := Claim7.holds Tryz.pinned (.plain (OpenSpec.upto dialUnreadSpec)) dialUnreadUptoCard

/-- THE SECOND FORM's CARD OF 'patrollaw01.DialTexts'. -/
def dialTextsUptoCard : Claim7 := { stood := { row := dialTextsUptoRow, standIns := [], harness := (true, "8a07cd88e9b98759b0e02e993bd3472d129c76626b6c29ae5629b088b038583d"), looks := true }, kinds := [], alts := [], laidByText := true, laidKinds := [.data, .data, .data, .data, .sentinel, .sentinel, .pinned], laidTests := true, laidLooks := .later }
def DialTextsUptoCardSaid : Prop := Claim7.holds Tryz.pinned (.plain (OpenSpec.upto dialTextsSpec)) dialTextsUptoCard

/-- THE SECOND FORM's CARD OF 'patrollaw01.DialTextsBack'. -/
def dialTextsBackUptoCard : Claim7 := { stood := { row := dialTextsBackUptoRow, standIns := [], harness := (true, "8a07cd88e9b98759b0e02e993bd3472d129c76626b6c29ae5629b088b038583d"), looks := true }, kinds := [], alts := [], laidByText := true, laidKinds := [.data, .data, .data, .data, .sentinel, .sentinel, .pinned], laidTests := true, laidLooks := .later }
def DialTextsBackUptoCardSaid : Prop := Claim7.holds Tryz.pinned (.plain (OpenSpec.upto dialTextsBackSpec)) dialTextsBackUptoCard
end Rows
end Go.Proofs.YtkdiplkmcilkmaaGreatDoor

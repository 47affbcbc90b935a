/-
  DERIVED. GIVEN WITH THE SEED: THE CARDS: each row of YtjecnionbjlncaaGreatDoorRows.lean that lists a variable, with what it lists TIED to the program's text (the seventh form; the later family's looks); each row that meets fmt, with fmt's text TOLD by the authors' own Lean function (tested against real Go, not proved from fmt's source: count such statements apart). THE CARD IS WHAT COUNTS. Prove the row's statement (the work); the ties are given (YtjecnionbjlncaaGreatDoorTie.lean); close each card by the builder's one call (the guide's Derived/Test/ToyasCard.lean, 'card_holds'). Laid BY PROGRAM, IN A SANDBOX (cutbox-door.mjs). By AI agents, Wed Nov 11 2026. No macro, syntax, notation, axiom, sorry.
-/
import Derived.Test.YtjecnionbjlncaaGreatDoorRows
import GoSem.ClaimSeven
namespace Go.Proofs.YtjecnionbjlncaaGreatDoor
namespace Rows

/-- THE TIED CARD OF 'savantlaw04.UnifyPlays'. -/
def unifyPlaysCard : Claim7 := { stood := { row := unifyPlaysRow, standIns := [], harness := (true, "ad2b7678a836adfbf47bd18221fd3186ffed73a4b87bfecaab5e2e2183b2ebbe"), looks := true }, kinds := [], alts := [], laidByText := true, laidKinds := [.data, .data, .data, .sentinel, .sentinel], laidTests := true, laidLooks := .later }
def UnifyPlaysCardSaid : Prop := Claim7.holds Tryz.pinned (.plain (OpenSpec.ofChange unifyPlaysSpec)) unifyPlaysCard

/-- THE TIED CARD OF 'savantlaw04.UnifyAgain'. -/
def unifyAgainCard : Claim7 := { stood := { row := unifyAgainRow, standIns := [], harness := (true, "ad2b7678a836adfbf47bd18221fd3186ffed73a4b87bfecaab5e2e2183b2ebbe"), looks := true }, kinds := [], alts := [], laidByText := true, laidKinds := [.data, .data, .data, .sentinel, .sentinel], laidTests := true, laidLooks := .later }
def UnifyAgainCardSaid : Prop := Claim7.holds Tryz.pinned (.plain (OpenSpec.ofChange unifyAgainSpec)) unifyAgainCard

/-- THE TIED CARD OF 'savantlaw04.UnifyRigid'. -/
def unifyRigidCard : Claim7 := { stood := { row := unifyRigidRow, standIns := [], harness := (true, "ad2b7678a836adfbf47bd18221fd3186ffed73a4b87bfecaab5e2e2183b2ebbe"), looks := true }, kinds := [], alts := [], laidByText := true, laidKinds := [.data, .data, .data, .sentinel, .sentinel], laidTests := true, laidLooks := .later }
def UnifyRigidCardSaid : Prop := Claim7.holds Tryz.pinned (.plain (OpenSpec.ofChange unifyRigidSpec)) unifyRigidCard

/-- THE TIED CARD OF 'savantlaw04.UnifyOne'. -/
def unifyOneCard : Claim7 := { stood := { row := unifyOneRow, standIns := [], harness := (true, "ad2b7678a836adfbf47bd18221fd3186ffed73a4b87bfecaab5e2e2183b2ebbe"), looks := true }, kinds := [], alts := [], laidByText := true, laidKinds := [.data, .data, .data, .sentinel, .sentinel], laidTests := true, laidLooks := .later }
def UnifyOneCardSaid : Prop := Claim7.holds Tryz.pinned (.plain (OpenSpec.ofChange unifyOneSpec)) unifyOneCard

/-- THE TIED CARD OF 'savantlaw04.UnifyApart'. -/
def unifyApartCard : Claim7 := { stood := { row := unifyApartRow, standIns := [], harness := (true, "ad2b7678a836adfbf47bd18221fd3186ffed73a4b87bfecaab5e2e2183b2ebbe"), looks := true }, kinds := [], alts := [], laidByText := true, laidKinds := [.data, .data, .data, .sentinel, .sentinel], laidTests := true, laidLooks := .later }
def UnifyApartCardSaid : Prop := Claim7.holds Tryz.pinned (.plain (OpenSpec.ofChange unifyApartSpec)) unifyApartCard

/-- THE TIED CARD OF 'savantlaw04.UnifyApplies'. -/
def unifyAppliesCard : Claim7 := { stood := { row := unifyAppliesRow, standIns := [], harness := (true, "ad2b7678a836adfbf47bd18221fd3186ffed73a4b87bfecaab5e2e2183b2ebbe"), looks := true }, kinds := [], alts := [], laidByText := true, laidKinds := [.data, .data, .data, .sentinel, .sentinel], laidTests := true, laidLooks := .later }
def UnifyAppliesCardSaid : Prop := Claim7.holds Tryz.pinned (.plain (OpenSpec.ofChange unifyAppliesSpec)) unifyAppliesCard

/-- THE TIED CARD OF 'savantlaw04.UnifySolves'. -/
def unifySolvesCard : Claim7 := { stood := { row := unifySolvesRow, standIns := [], harness := (true, "ad2b7678a836adfbf47bd18221fd3186ffed73a4b87bfecaab5e2e2183b2ebbe"), looks := true }, kinds := [], alts := [], laidByText := true, laidKinds := [.data, .data, .data, .sentinel, .sentinel], laidTests := true, laidLooks := .later }
def UnifySolvesCardSaid : Prop := Claim7.holds Tryz.pinned (.plain (OpenSpec.ofChange unifySolvesSpec)) unifySolvesCard

/-- THE TIED CARD OF 'savantlaw04.UnifyGeneral'. -/
def unifyGeneralCard : Claim7 := { stood := { row := unifyGeneralRow, standIns := [], harness := (true, "ad2b7678a836adfbf47bd18221fd3186ffed73a4b87bfecaab5e2e2183b2ebbe"), looks := true }, kinds := [], alts := [], laidByText := true, laidKinds := [.data, .data, .data, .sentinel, .sentinel], laidTests := true, laidLooks := .later }
def UnifyGeneralCardSaid : Prop := Claim7.holds Tryz.pinned (.plain (OpenSpec.ofChange unifyGeneralSpec)) unifyGeneralCard

/-- THE TIED CARD OF 'savantlaw04.UnifyTurned'. -/
def unifyTurnedCard : Claim7 := { stood := { row := unifyTurnedRow, standIns := [], harness := (true, "ad2b7678a836adfbf47bd18221fd3186ffed73a4b87bfecaab5e2e2183b2ebbe"), looks := true }, kinds := [], alts := [], laidByText := true, laidKinds := [.data, .data, .data, .sentinel, .sentinel], laidTests := true, laidLooks := .later }
def UnifyTurnedCardSaid : Prop := Claim7.holds Tryz.pinned (.plain (OpenSpec.ofChange unifyTurnedSpec)) unifyTurnedCard

/-- THE SECOND FORM's CARD OF 'savantlaw04.UnifyPlays'. -/
def unifyPlaysUptoCard : Claim7 := { stood := { row := unifyPlaysUptoRow, standIns := [], harness := (true, "ad2b7678a836adfbf47bd18221fd3186ffed73a4b87bfecaab5e2e2183b2ebbe"), looks := true }, kinds := [], alts := [], laidByText := true, laidKinds := [.data, .data, .data, .sentinel, .sentinel], laidTests := true, laidLooks := .later }
def UnifyPlaysUptoCardSaid : Prop := Claim7.holds Tryz.pinned (.plain (OpenSpec.upto unifyPlaysSpec)) unifyPlaysUptoCard

/-- THE SECOND FORM's CARD OF 'savantlaw04.UnifyAgain'. -/
def unifyAgainUptoCard : Claim7 := { stood := { row := unifyAgainUptoRow, standIns := [], harness := (true, "ad2b7678a836adfbf47bd18221fd3186ffed73a4b87bfecaab5e2e2183b2ebbe"), looks := true }, kinds := [], alts := [], laidByText := true, laidKinds := [.data, .data, .data, .sentinel, .sentinel], laidTests := true, laidLooks := .later }
def UnifyAgainUptoCardSaid : Prop := Claim7.holds Tryz.pinned (.plain (OpenSpec.upto unifyAgainSpec)) unifyAgainUptoCard

/-- THE SECOND FORM's CARD OF 'savantlaw04.UnifyRigid'. -/
def unifyRigidUptoCard : Claim7 := { stood := { row := unifyRigidUptoRow, standIns := [], harness := (true, "ad2b7678a836adfbf47bd18221fd3186ffed73a4b87bfecaab5e2e2183b2ebbe"), looks := true }, kinds := [], alts := [], laidByText := true, laidKinds := [.data, .data, .data, .sentinel, .sentinel], laidTests := true, laidLooks := .later }
def UnifyRigidUptoCardSaid : Prop := Claim7.holds Tryz.pinned (.plain (OpenSpec.upto unifyRigidSpec)) unifyRigidUptoCard

/-- THE SECOND FORM's CARD OF 'savantlaw04.UnifyOne'. -/
def unifyOneUptoCard : Claim7 := { stood := { row := unifyOneUptoRow, standIns := [], harness := (true, "ad2b7678a836adfbf47bd18221fd3186ffed73a4b87bfecaab5e2e2183b2ebbe"), looks := true }, kinds := [], alts := [], laidByText := true, laidKinds := [.data, .data, .data, .sentinel, .sentinel], laidTests := true, laidLooks := .later }
def UnifyOneUptoCardSaid : Prop := Claim7.holds Tryz.pinned (.plain (OpenSpec.upto unifyOneSpec)) unifyOneUptoCard

/-- THE SECOND FORM's CARD OF 'savantlaw04.UnifyApart'. -/
def unifyApartUptoCard : Claim7 := { stood := { row := unifyApartUptoRow, standIns := [], harness := (true, "ad2b7678a836adfbf47bd18221fd3186ffed73a4b87bfecaab5e2e2183b2ebbe"), looks := true }, kinds := [], alts := [], laidByText := true, laidKinds := [.data, .data, .data, .sentinel, .sentinel], laidTests := true, laidLooks := .later }
def UnifyApartUptoCardSaid : Prop := Claim7.holds Tryz.pinned (.plain (OpenSpec.upto unifyApartSpec)) unifyApartUptoCard

/-- THE SECOND FORM's CARD OF 'savantlaw04.UnifyApplies'. -/
def unifyAppliesUptoCard : Claim7 := { stood := { row := unifyAppliesUptoRow, standIns := [], harness := (true, "ad2b7678a836adfbf47bd18221fd3186ffed73a4b87bfecaab5e2e2183b2ebbe"), looks := true }, kinds := [], alts := [], laidByText := true, laidKinds := [.data, .data, .data, .sentinel, .sentinel], laidTests := true, laidLooks := .later }
def UnifyAppliesUptoCardSaid : Prop := Claim7.holds Tryz.pinned (.plain (OpenSpec.upto unifyAppliesSpec)) unifyAppliesUptoCard

/-- THE SECOND FORM's CARD OF 'savantlaw04.UnifySolves'. -/
def unifySolvesUptoCard : Claim7 := { stood := { row := unifySolvesUptoRow, standIns := [], harness := (true, "ad2b7678a836adfbf47bd18221fd3186ffed73a4b87bfecaab5e2e2183b2ebbe"), looks := true }, kinds := [], alts := [], laidByText := true, laidKinds := [.data, .data, .data, .sentinel, .sentinel], laidTests := true, laidLooks := .later }
def UnifySolvesUptoCardSaid : Prop := Claim7.holds Tryz.pinned (.plain (OpenSpec.upto unifySolvesSpec)) unifySolvesUptoCard

/-- THE SECOND FORM's CARD OF 'savantlaw04.UnifyGeneral'. -/
def unifyGeneralUptoCard : Claim7 := { stood := { row := unifyGeneralUptoRow, standIns := [], harness := (true, "ad2b7678a836adfbf47bd18221fd3186ffed73a4b87bfecaab5e2e2183b2ebbe"), looks := true }, kinds := [], alts := [], laidByText := true, laidKinds := [.data, .data, .data, .sentinel, .sentinel], laidTests := true, laidLooks := .later }
def UnifyGeneralUptoCardSaid : Prop := Claim7.holds Tryz.pinned (.plain (OpenSpec.upto unifyGeneralSpec)) unifyGeneralUptoCard

/-- THE SECOND FORM's CARD OF 'savantlaw04.UnifyTurned'. -/
def unifyTurnedUptoCard : Claim7 := { stood := { row := unifyTurnedUptoRow, standIns := [], harness := (true, "ad2b7678a836adfbf47bd18221fd3186ffed73a4b87bfecaab5e2e2183b2ebbe"), looks := true }, kinds := [], alts := [], laidByText := true, laidKinds := [.data, .data, .data, .sentinel, .sentinel], laidTests := true, laidLooks := .later }
def UnifyTurnedUptoCardSaid : Prop := Claim7.holds Tryz.pinned (.plain (OpenSpec.upto unifyTurnedSpec)) unifyTurnedUptoCard
end Rows
end Go.Proofs.YtjecnionbjlncaaGreatDoor

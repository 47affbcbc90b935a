/-
  DERIVED. GIVEN WITH THE SEED: THE CARDS: each row of YtofllmemmggapaaGreatDoorRows.lean that lists a variable, with what it lists TIED to the program's text (the seventh form; the later family's looks); each row that meets fmt, with fmt's text TOLD by the authors' own Lean function (tested against real Go, not proved from fmt's source: count such statements apart). THE CARD IS WHAT COUNTS. Prove the row's statement (the work); the ties are given (YtofllmemmggapaaGreatDoorTie.lean); close each card by the builder's one call (the guide's Derived/Test/ToyasCard.lean, 'card_holds'). Laid BY PROGRAM, IN A SANDBOX (cutbox-door.mjs). By AI agents, Wed Nov 11 2026. No macro, syntax, notation, axiom, sorry.
-/
import Derived.Test.YtofllmemmggapaaGreatDoorRows
import GoSem.ClaimSeven
namespace Go.Proofs.YtofllmemmggapaaGreatDoor
namespace Rows

/-- THE TIED CARD OF 'savantlaw03.MatchPlays'. -/
def matchPlaysCard : Claim7 := { stood := { row := matchPlaysRow, standIns := [], harness := (true, "378dd1f046bb3333bc42f9757a88054f6c59de8dfece877411e7b2c30bb57dfb"), looks := true }, kinds := [], alts := [], laidByText := true, laidKinds := [.data, .data, .data, .sentinel, .sentinel], laidTests := true, laidLooks := .later }
def MatchPlaysCardSaid : Prop := Claim7.holds Tryz.pinned (.plain (OpenSpec.ofChange matchPlaysSpec)) matchPlaysCard

/-- THE TIED CARD OF 'savantlaw03.MatchInstances'. -/
def matchInstancesCard : Claim7 := { stood := { row := matchInstancesRow, standIns := [], harness := (true, "378dd1f046bb3333bc42f9757a88054f6c59de8dfece877411e7b2c30bb57dfb"), looks := true }, kinds := [], alts := [], laidByText := true, laidKinds := [.data, .data, .data, .sentinel, .sentinel], laidTests := true, laidLooks := .later }
def MatchInstancesCardSaid : Prop := Claim7.holds Tryz.pinned (.plain (OpenSpec.ofChange matchInstancesSpec)) matchInstancesCard

/-- THE TIED CARD OF 'savantlaw03.MatchSelf'. -/
def matchSelfCard : Claim7 := { stood := { row := matchSelfRow, standIns := [], harness := (true, "378dd1f046bb3333bc42f9757a88054f6c59de8dfece877411e7b2c30bb57dfb"), looks := true }, kinds := [], alts := [], laidByText := true, laidKinds := [.data, .data, .data, .sentinel, .sentinel], laidTests := true, laidLooks := .later }
def MatchSelfCardSaid : Prop := Claim7.holds Tryz.pinned (.plain (OpenSpec.ofChange matchSelfSpec)) matchSelfCard

/-- THE TIED CARD OF 'savantlaw03.MatchSteps'. -/
def matchStepsCard : Claim7 := { stood := { row := matchStepsRow, standIns := [], harness := (true, "378dd1f046bb3333bc42f9757a88054f6c59de8dfece877411e7b2c30bb57dfb"), looks := true }, kinds := [], alts := [], laidByText := true, laidKinds := [.data, .data, .data, .sentinel, .sentinel], laidTests := true, laidLooks := .later }
def MatchStepsCardSaid : Prop := Claim7.holds Tryz.pinned (.plain (OpenSpec.ofChange matchStepsSpec)) matchStepsCard

/-- THE TIED CARD OF 'savantlaw03.MatchNone'. -/
def matchNoneCard : Claim7 := { stood := { row := matchNoneRow, standIns := [], harness := (true, "378dd1f046bb3333bc42f9757a88054f6c59de8dfece877411e7b2c30bb57dfb"), looks := true }, kinds := [], alts := [], laidByText := true, laidKinds := [.data, .data, .data, .sentinel, .sentinel], laidTests := true, laidLooks := .later }
def MatchNoneCardSaid : Prop := Claim7.holds Tryz.pinned (.plain (OpenSpec.ofChange matchNoneSpec)) matchNoneCard

/-- THE TIED CARD OF 'savantlaw03.MatchPeeled'. -/
def matchPeeledCard : Claim7 := { stood := { row := matchPeeledRow, standIns := [], harness := (true, "378dd1f046bb3333bc42f9757a88054f6c59de8dfece877411e7b2c30bb57dfb"), looks := true }, kinds := [], alts := [], laidByText := true, laidKinds := [.data, .data, .data, .sentinel, .sentinel], laidTests := true, laidLooks := .later }
def MatchPeeledCardSaid : Prop := Claim7.holds Tryz.pinned (.plain (OpenSpec.ofChange matchPeeledSpec)) matchPeeledCard

/-- THE SECOND FORM's CARD OF 'savantlaw03.MatchPlays'. -/
def matchPlaysUptoCard : Claim7 := { stood := { row := matchPlaysUptoRow, standIns := [], harness := (true, "378dd1f046bb3333bc42f9757a88054f6c59de8dfece877411e7b2c30bb57dfb"), looks := true }, kinds := [], alts := [], laidByText := true, laidKinds := [.data, .data, .data, .sentinel, .sentinel], laidTests := true, laidLooks := .later }
def MatchPlaysUptoCardSaid : Prop := Claim7.holds Tryz.pinned (.plain (OpenSpec.upto matchPlaysSpec)) matchPlaysUptoCard

/-- THE SECOND FORM's CARD OF 'savantlaw03.MatchInstances'. -/
def matchInstancesUptoCard : Claim7 := { stood := { row := matchInstancesUptoRow, standIns := [], harness := (true, "378dd1f046bb3333bc42f9757a88054f6c59de8dfece877411e7b2c30bb57dfb"), looks := true }, kinds := [], alts := [], laidByText := true, laidKinds := [.data, .data, .data, .sentinel, .sentinel], laidTests := true, laidLooks := .later }
def MatchInstancesUptoCardSaid : Prop := Claim7.holds Tryz.pinned (.plain (OpenSpec.upto matchInstancesSpec)) matchInstancesUptoCard

/-- THE SECOND FORM's CARD OF 'savantlaw03.MatchSelf'. -/
def matchSelfUptoCard : Claim7 := { stood := { row := matchSelfUptoRow, standIns := [], harness := (true, "378dd1f046bb3333bc42f9757a88054f6c59de8dfece877411e7b2c30bb57dfb"), looks := true }, kinds := [], alts := [], laidByText := true, laidKinds := [.data, .data, .data, .sentinel, .sentinel], laidTests := true, laidLooks := .later }
def MatchSelfUptoCardSaid : Prop := Claim7.holds Tryz.pinned (.plain (OpenSpec.upto matchSelfSpec)) matchSelfUptoCard

/-- THE SECOND FORM's CARD OF 'savantlaw03.MatchSteps'. -/
def matchStepsUptoCard : Claim7 := { stood := { row := matchStepsUptoRow, standIns := [], harness := (true, "378dd1f046bb3333bc42f9757a88054f6c59de8dfece877411e7b2c30bb57dfb"), looks := true }, kinds := [], alts := [], laidByText := true, laidKinds := [.data, .data, .data, .sentinel, .sentinel], laidTests := true, laidLooks := .later }
def MatchStepsUptoCardSaid : Prop := Claim7.holds Tryz.pinned (.plain (OpenSpec.upto matchStepsSpec)) matchStepsUptoCard

/-- THE SECOND FORM's CARD OF 'savantlaw03.MatchNone'. -/
def matchNoneUptoCard : Claim7 := { stood := { row := matchNoneUptoRow, standIns := [], harness := (true, "378dd1f046bb3333bc42f9757a88054f6c59de8dfece877411e7b2c30bb57dfb"), looks := true }, kinds := [], alts := [], laidByText := true, laidKinds := [.data, .data, .data, .sentinel, .sentinel], laidTests := true, laidLooks := .later }
def MatchNoneUptoCardSaid : Prop := Claim7.holds Tryz.pinned (.plain (OpenSpec.upto matchNoneSpec)) matchNoneUptoCard

/-- THE SECOND FORM's CARD OF 'savantlaw03.MatchPeeled'. -/
def matchPeeledUptoCard : Claim7 := { stood := { row := matchPeeledUptoRow, standIns := [], harness := (true, "378dd1f046bb3333bc42f9757a88054f6c59de8dfece877411e7b2c30bb57dfb"), looks := true }, kinds := [], alts := [], laidByText := true, laidKinds := [.data, .data, .data, .sentinel, .sentinel], laidTests := true, laidLooks := .later }
def MatchPeeledUptoCardSaid : Prop := Claim7.holds Tryz.pinned (.plain (OpenSpec.upto matchPeeledSpec)) matchPeeledUptoCard
end Rows
end Go.Proofs.YtofllmemmggapaaGreatDoor

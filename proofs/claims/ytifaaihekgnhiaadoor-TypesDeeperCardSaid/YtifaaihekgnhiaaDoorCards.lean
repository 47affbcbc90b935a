/-
  DERIVED. GIVEN WITH THE SEED: THE CARDS: each row of YtifaaihekgnhiaaDoorRows.lean that lists a variable, with what it lists TIED to the program's text (the seventh form; the later family's looks); each row that meets fmt, with fmt's text TOLD by the authors' own Lean function (tested against real Go, not proved from fmt's source: count such statements apart). THE CARD IS WHAT COUNTS. Prove the row's statement (the work); the ties are given (YtifaaihekgnhiaaDoorTie.lean); close each card by the builder's one call (the guide's Derived/Test/ToyasCard.lean, 'card_holds'). Laid BY PROGRAM, IN A SANDBOX (cutbox-door.mjs). By AI agents, Wed Nov 11 2026. No macro, syntax, notation, axiom, sorry.
-/
import Derived.Test.YtifaaihekgnhiaaDoorRows
import GoSem.ClaimSeven
namespace Go.Proofs.YtifaaihekgnhiaaDoor
namespace Rows

/-- THE TIED CARD OF 'savantlaw02.TypesBack'. -/
def typesBackCard : Claim7 := { stood := { row := typesBackRow, standIns := [], harness := (true, "185b58a77aa4f9fefa170424e183abc1816a8aff287eb081896be66394c05998"), looks := true }, kinds := [], alts := [], laidByText := true, laidKinds := [.data, .data, .data, .sentinel, .sentinel], laidTests := true, laidLooks := .later }
def TypesBackCardSaid : Prop := Claim7.holds Tryd.pinned (.plain (OpenSpec.ofChange typesBackSpec)) typesBackCard

/-- THE TIED CARD OF 'savantlaw02.TypesSame'. -/
def typesSameCard : Claim7 := { stood := { row := typesSameRow, standIns := [], harness := (true, "185b58a77aa4f9fefa170424e183abc1816a8aff287eb081896be66394c05998"), looks := true }, kinds := [], alts := [], laidByText := true, laidKinds := [.data, .data, .data, .sentinel, .sentinel], laidTests := true, laidLooks := .later }
def TypesSameCardSaid : Prop := Claim7.holds Tryd.pinned (.plain (OpenSpec.ofChange typesSameSpec)) typesSameCard

/-- THE TIED CARD OF 'savantlaw02.TypesOrder'. -/
def typesOrderCard : Claim7 := { stood := { row := typesOrderRow, standIns := [], harness := (true, "185b58a77aa4f9fefa170424e183abc1816a8aff287eb081896be66394c05998"), looks := true }, kinds := [], alts := [], laidByText := true, laidKinds := [.data, .data, .data, .sentinel, .sentinel], laidTests := true, laidLooks := .later }
def TypesOrderCardSaid : Prop := Claim7.holds Tryd.pinned (.plain (OpenSpec.ofChange typesOrderSpec)) typesOrderCard

/-- THE TIED CARD OF 'savantlaw02.TypesDeeper'. -/
def typesDeeperCard : Claim7 := { stood := { row := typesDeeperRow, standIns := [], harness := (true, "185b58a77aa4f9fefa170424e183abc1816a8aff287eb081896be66394c05998"), looks := true }, kinds := [], alts := [], laidByText := true, laidKinds := [.data, .data, .data, .sentinel, .sentinel], laidTests := true, laidLooks := .later }
def TypesDeeperCardSaid : Prop := Claim7.holds Tryd.pinned (.plain (OpenSpec.ofChange typesDeeperSpec)) typesDeeperCard

/-- THE TIED CARD OF 'savantlaw02.TypesFilled'. -/
def typesFilledCard : Claim7 := { stood := { row := typesFilledRow, standIns := [], harness := (true, "185b58a77aa4f9fefa170424e183abc1816a8aff287eb081896be66394c05998"), looks := true }, kinds := [], alts := [], laidByText := true, laidKinds := [.data, .data, .data, .sentinel, .sentinel], laidTests := true, laidLooks := .later }
def TypesFilledCardSaid : Prop := Claim7.holds Tryd.pinned (.plain (OpenSpec.ofChange typesFilledSpec)) typesFilledCard

/-- THE SECOND FORM's CARD OF 'savantlaw02.TypesBack'. -/
def typesBackUptoCard : Claim7 := { stood := { row := typesBackUptoRow, standIns := [], harness := (true, "185b58a77aa4f9fefa170424e183abc1816a8aff287eb081896be66394c05998"), looks := true }, kinds := [], alts := [], laidByText := true, laidKinds := [.data, .data, .data, .sentinel, .sentinel], laidTests := true, laidLooks := .later }
def TypesBackUptoCardSaid : Prop := Claim7.holds Tryd.pinned (.plain (OpenSpec.upto typesBackSpec)) typesBackUptoCard

/-- THE SECOND FORM's CARD OF 'savantlaw02.TypesSame'. -/
def typesSameUptoCard : Claim7 := { stood := { row := typesSameUptoRow, standIns := [], harness := (true, "185b58a77aa4f9fefa170424e183abc1816a8aff287eb081896be66394c05998"), looks := true }, kinds := [], alts := [], laidByText := true, laidKinds := [.data, .data, .data, .sentinel, .sentinel], laidTests := true, laidLooks := .later }
def TypesSameUptoCardSaid : Prop := Claim7.holds Tryd.pinned (.plain (OpenSpec.upto typesSameSpec)) typesSameUptoCard

/-- THE SECOND FORM's CARD OF 'savantlaw02.TypesOrder'. -/
def typesOrderUptoCard : Claim7 := { stood := { row := typesOrderUptoRow, standIns := [], harness := (true, "185b58a77aa4f9fefa170424e183abc1816a8aff287eb081896be66394c05998"), looks := true }, kinds := [], alts := [], laidByText := true, laidKinds := [.data, .data, .data, .sentinel, .sentinel], laidTests := true, laidLooks := .later }
def TypesOrderUptoCardSaid : Prop := Claim7.holds Tryd.pinned (.plain (OpenSpec.upto typesOrderSpec)) typesOrderUptoCard

/-- THE SECOND FORM's CARD OF 'savantlaw02.TypesDeeper'. -/
def typesDeeperUptoCard : Claim7 := { stood := { row := typesDeeperUptoRow, standIns := [], harness := (true, "185b58a77aa4f9fefa170424e183abc1816a8aff287eb081896be66394c05998"), looks := true }, kinds := [], alts := [], laidByText := true, laidKinds := [.data, .data, .data, .sentinel, .sentinel], laidTests := true, laidLooks := .later }
def TypesDeeperUptoCardSaid : Prop := Claim7.holds Tryd.pinned (.plain (OpenSpec.upto typesDeeperSpec)) typesDeeperUptoCard

/-- THE SECOND FORM's CARD OF 'savantlaw02.TypesFilled'. -/
def typesFilledUptoCard : Claim7 := { stood := { row := typesFilledUptoRow, standIns := [], harness := (true, "185b58a77aa4f9fefa170424e183abc1816a8aff287eb081896be66394c05998"), looks := true }, kinds := [], alts := [], laidByText := true, laidKinds := [.data, .data, .data, .sentinel, .sentinel], laidTests := true, laidLooks := .later }
def TypesFilledUptoCardSaid : Prop := Claim7.holds Tryd.pinned (.plain (OpenSpec.upto typesFilledSpec)) typesFilledUptoCard
end Rows
end Go.Proofs.YtifaaihekgnhiaaDoor

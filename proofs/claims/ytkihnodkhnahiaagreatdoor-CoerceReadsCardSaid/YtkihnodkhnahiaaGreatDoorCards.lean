/-
  DERIVED. GIVEN WITH THE SEED: THE CARDS: each row of YtkihnodkhnahiaaGreatDoorRows.lean that lists a variable, with what it lists TIED to the program's text (the seventh form; the later family's looks); each row that meets fmt, with fmt's text TOLD by the authors' own Lean function (tested against real Go, not proved from fmt's source: count such statements apart). THE CARD IS WHAT COUNTS. Prove the row's statement (the work); the ties are given (YtkihnodkhnahiaaGreatDoorTie.lean); close each card by the builder's one call (the guide's Derived/Test/ToyasCard.lean, 'card_holds'). Laid BY PROGRAM, IN A SANDBOX (cutbox-door.mjs). By AI agents, Wed Nov 11 2026. No macro, syntax, notation, axiom, sorry.
-/
import Derived.Test.YtkihnodkhnahiaaGreatDoorRows
import GoSem.ClaimSeven
namespace Go.Proofs.YtkihnodkhnahiaaGreatDoor
namespace Rows

/-- THE TIED CARD OF 'savantlaw05.CoerceTurned'. -/
def coerceTurnedCard : Claim7 := { stood := { row := coerceTurnedRow, standIns := [], harness := (true, "e71e51add491dc4cc49dfc64492151381438c564ca839865db70c2df296cb813"), looks := true }, kinds := [], alts := [], laidByText := true, laidKinds := [.data, .data, .data, .sentinel, .sentinel], laidTests := true, laidLooks := .later }
def CoerceTurnedCardSaid : Prop := Claim7.holds Tryz.pinned (.plain (OpenSpec.ofChange coerceTurnedSpec)) coerceTurnedCard

/-- THE TIED CARD OF 'savantlaw05.CoerceLast'. -/
def coerceLastCard : Claim7 := { stood := { row := coerceLastRow, standIns := [], harness := (true, "e71e51add491dc4cc49dfc64492151381438c564ca839865db70c2df296cb813"), looks := true }, kinds := [], alts := [], laidByText := true, laidKinds := [.data, .data, .data, .sentinel, .sentinel], laidTests := true, laidLooks := .later }
def CoerceLastCardSaid : Prop := Claim7.holds Tryz.pinned (.plain (OpenSpec.ofChange coerceLastSpec)) coerceLastCard

/-- THE TIED CARD OF 'savantlaw05.CoerceParts'. -/
def coercePartsCard : Claim7 := { stood := { row := coercePartsRow, standIns := [], harness := (true, "e71e51add491dc4cc49dfc64492151381438c564ca839865db70c2df296cb813"), looks := true }, kinds := [], alts := [], laidByText := true, laidKinds := [.data, .data, .data, .sentinel, .sentinel], laidTests := true, laidLooks := .later }
def CoercePartsCardSaid : Prop := Claim7.holds Tryz.pinned (.plain (OpenSpec.ofChange coercePartsSpec)) coercePartsCard

/-- THE TIED CARD OF 'savantlaw05.CoerceReads'. -/
def coerceReadsCard : Claim7 := { stood := { row := coerceReadsRow, standIns := [], harness := (true, "e71e51add491dc4cc49dfc64492151381438c564ca839865db70c2df296cb813"), looks := true }, kinds := [], alts := [], laidByText := true, laidKinds := [.data, .data, .data, .sentinel, .sentinel], laidTests := true, laidLooks := .later }
def CoerceReadsCardSaid : Prop := Claim7.holds Tryz.pinned (.plain (OpenSpec.ofChange coerceReadsSpec)) coerceReadsCard

/-- THE TIED CARD OF 'savantlaw05.CoerceTokens'. -/
def coerceTokensCard : Claim7 := { stood := { row := coerceTokensRow, standIns := [], harness := (true, "e71e51add491dc4cc49dfc64492151381438c564ca839865db70c2df296cb813"), looks := true }, kinds := [], alts := [], laidByText := true, laidKinds := [.data, .data, .data, .sentinel, .sentinel], laidTests := true, laidLooks := .later }
def CoerceTokensCardSaid : Prop := Claim7.holds Tryz.pinned (.plain (OpenSpec.ofChange coerceTokensSpec)) coerceTokensCard

/-- THE SECOND FORM's CARD OF 'savantlaw05.CoerceTurned'. -/
def coerceTurnedUptoCard : Claim7 := { stood := { row := coerceTurnedUptoRow, standIns := [], harness := (true, "e71e51add491dc4cc49dfc64492151381438c564ca839865db70c2df296cb813"), looks := true }, kinds := [], alts := [], laidByText := true, laidKinds := [.data, .data, .data, .sentinel, .sentinel], laidTests := true, laidLooks := .later }
def CoerceTurnedUptoCardSaid : Prop := Claim7.holds Tryz.pinned (.plain (OpenSpec.upto coerceTurnedSpec)) coerceTurnedUptoCard

/-- THE SECOND FORM's CARD OF 'savantlaw05.CoerceLast'. -/
def coerceLastUptoCard : Claim7 := { stood := { row := coerceLastUptoRow, standIns := [], harness := (true, "e71e51add491dc4cc49dfc64492151381438c564ca839865db70c2df296cb813"), looks := true }, kinds := [], alts := [], laidByText := true, laidKinds := [.data, .data, .data, .sentinel, .sentinel], laidTests := true, laidLooks := .later }
def CoerceLastUptoCardSaid : Prop := Claim7.holds Tryz.pinned (.plain (OpenSpec.upto coerceLastSpec)) coerceLastUptoCard

/-- THE SECOND FORM's CARD OF 'savantlaw05.CoerceParts'. -/
def coercePartsUptoCard : Claim7 := { stood := { row := coercePartsUptoRow, standIns := [], harness := (true, "e71e51add491dc4cc49dfc64492151381438c564ca839865db70c2df296cb813"), looks := true }, kinds := [], alts := [], laidByText := true, laidKinds := [.data, .data, .data, .sentinel, .sentinel], laidTests := true, laidLooks := .later }
def CoercePartsUptoCardSaid : Prop := Claim7.holds Tryz.pinned (.plain (OpenSpec.upto coercePartsSpec)) coercePartsUptoCard

/-- THE SECOND FORM's CARD OF 'savantlaw05.CoerceReads'. -/
def coerceReadsUptoCard : Claim7 := { stood := { row := coerceReadsUptoRow, standIns := [], harness := (true, "e71e51add491dc4cc49dfc64492151381438c564ca839865db70c2df296cb813"), looks := true }, kinds := [], alts := [], laidByText := true, laidKinds := [.data, .data, .data, .sentinel, .sentinel], laidTests := true, laidLooks := .later }
def CoerceReadsUptoCardSaid : Prop := Claim7.holds Tryz.pinned (.plain (OpenSpec.upto coerceReadsSpec)) coerceReadsUptoCard

/-- THE SECOND FORM's CARD OF 'savantlaw05.CoerceTokens'. -/
def coerceTokensUptoCard : Claim7 := { stood := { row := coerceTokensUptoRow, standIns := [], harness := (true, "e71e51add491dc4cc49dfc64492151381438c564ca839865db70c2df296cb813"), looks := true }, kinds := [], alts := [], laidByText := true, laidKinds := [.data, .data, .data, .sentinel, .sentinel], laidTests := true, laidLooks := .later }
def CoerceTokensUptoCardSaid : Prop := Claim7.holds Tryz.pinned (.plain (OpenSpec.upto coerceTokensSpec)) coerceTokensUptoCard
end Rows
end Go.Proofs.YtkihnodkhnahiaaGreatDoor

/-
  DERIVED. GIVEN WITH THE SEED: THE CARDS: each row of YtifaaihekgnhiaaGreatDoorRows.lean that lists a variable, with what it lists TIED to the program's text (the seventh form; the later family's looks); each row that meets fmt, with fmt's text TOLD by the authors' own Lean function (tested against real Go, not proved from fmt's source: count such statements apart). THE CARD IS WHAT COUNTS. Prove the row's statement (the work); the ties are given (YtifaaihekgnhiaaGreatDoorTie.lean); close each card by the builder's one call (the guide's Derived/Test/ToyasCard.lean, 'card_holds'). Laid BY PROGRAM, IN A SANDBOX (cutbox-door.mjs). By AI agents, Wed Nov 11 2026. No macro, syntax, notation, axiom, sorry.
-/
import Derived.Test.YtifaaihekgnhiaaGreatDoorRows
import GoSem.ClaimSeven
namespace Go.Proofs.YtifaaihekgnhiaaGreatDoor
namespace Rows

/-- THE TIED CARD OF 'savantlaw02.TypesReads'. -/
def typesReadsCard : Claim7 := { stood := { row := typesReadsRow, standIns := [], harness := (true, "6e3f48c59d489f47d16f92d0ba92c7768297fda387f5c25eafffbdfa792ae75b"), looks := true }, kinds := [], alts := [], laidByText := true, laidKinds := [.data, .data, .data, .sentinel, .sentinel], laidTests := true, laidLooks := .later }
def TypesReadsCardSaid : Prop := Claim7.holds Tryz.pinned (.plain (OpenSpec.ofChange typesReadsSpec)) typesReadsCard

/-- THE TIED CARD OF 'savantlaw02.TypesTokens'. -/
def typesTokensCard : Claim7 := { stood := { row := typesTokensRow, standIns := [], harness := (true, "6e3f48c59d489f47d16f92d0ba92c7768297fda387f5c25eafffbdfa792ae75b"), looks := true }, kinds := [], alts := [], laidByText := true, laidKinds := [.data, .data, .data, .sentinel, .sentinel], laidTests := true, laidLooks := .later }
def TypesTokensCardSaid : Prop := Claim7.holds Tryz.pinned (.plain (OpenSpec.ofChange typesTokensSpec)) typesTokensCard

/-- THE TIED CARD OF 'savantlaw02.TypesPuts'. -/
def typesPutsCard : Claim7 := { stood := { row := typesPutsRow, standIns := [], harness := (true, "6e3f48c59d489f47d16f92d0ba92c7768297fda387f5c25eafffbdfa792ae75b"), looks := true }, kinds := [], alts := [], laidByText := true, laidKinds := [.data, .data, .data, .sentinel, .sentinel], laidTests := true, laidLooks := .later }
def TypesPutsCardSaid : Prop := Claim7.holds Tryz.pinned (.plain (OpenSpec.ofChange typesPutsSpec)) typesPutsCard

/-- THE TIED CARD OF 'savantlaw02.TypesTells'. -/
def typesTellsCard : Claim7 := { stood := { row := typesTellsRow, standIns := [], harness := (true, "6e3f48c59d489f47d16f92d0ba92c7768297fda387f5c25eafffbdfa792ae75b"), looks := true }, kinds := [], alts := [], laidByText := true, laidKinds := [.data, .data, .data, .sentinel, .sentinel], laidTests := true, laidLooks := .later }
def TypesTellsCardSaid : Prop := Claim7.holds Tryz.pinned (.plain (OpenSpec.ofChange typesTellsSpec)) typesTellsCard

/-- THE SECOND FORM's CARD OF 'savantlaw02.TypesReads'. -/
def typesReadsUptoCard : Claim7 := { stood := { row := typesReadsUptoRow, standIns := [], harness := (true, "6e3f48c59d489f47d16f92d0ba92c7768297fda387f5c25eafffbdfa792ae75b"), looks := true }, kinds := [], alts := [], laidByText := true, laidKinds := [.data, .data, .data, .sentinel, .sentinel], laidTests := true, laidLooks := .later }
def TypesReadsUptoCardSaid : Prop := Claim7.holds Tryz.pinned (.plain (OpenSpec.upto typesReadsSpec)) typesReadsUptoCard

/-- THE SECOND FORM's CARD OF 'savantlaw02.TypesTokens'. -/
def typesTokensUptoCard : Claim7 := { stood := { row := typesTokensUptoRow, standIns := [], harness := (true, "6e3f48c59d489f47d16f92d0ba92c7768297fda387f5c25eafffbdfa792ae75b"), looks := true }, kinds := [], alts := [], laidByText := true, laidKinds := [.data, .data, .data, .sentinel, .sentinel], laidTests := true, laidLooks := .later }
def TypesTokensUptoCardSaid : Prop := Claim7.holds Tryz.pinned (.plain (OpenSpec.upto typesTokensSpec)) typesTokensUptoCard

/-- THE SECOND FORM's CARD OF 'savantlaw02.TypesPuts'. -/
def typesPutsUptoCard : Claim7 := { stood := { row := typesPutsUptoRow, standIns := [], harness := (true, "6e3f48c59d489f47d16f92d0ba92c7768297fda387f5c25eafffbdfa792ae75b"), looks := true }, kinds := [], alts := [], laidByText := true, laidKinds := [.data, .data, .data, .sentinel, .sentinel], laidTests := true, laidLooks := .later }
def TypesPutsUptoCardSaid : Prop := Claim7.holds Tryz.pinned (.plain (OpenSpec.upto typesPutsSpec)) typesPutsUptoCard

/-- THE SECOND FORM's CARD OF 'savantlaw02.TypesTells'. -/
def typesTellsUptoCard : Claim7 := { stood := { row := typesTellsUptoRow, standIns := [], harness := (true, "6e3f48c59d489f47d16f92d0ba92c7768297fda387f5c25eafffbdfa792ae75b"), looks := true }, kinds := [], alts := [], laidByText := true, laidKinds := [.data, .data, .data, .sentinel, .sentinel], laidTests := true, laidLooks := .later }
def TypesTellsUptoCardSaid : Prop := Claim7.holds Tryz.pinned (.plain (OpenSpec.upto typesTellsSpec)) typesTellsUptoCard
end Rows
end Go.Proofs.YtifaaihekgnhiaaGreatDoor

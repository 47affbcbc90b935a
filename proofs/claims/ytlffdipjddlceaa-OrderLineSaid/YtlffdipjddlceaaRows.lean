/-
  No cell of these rows narrows 'for every input' (looked for: loops, veiled, ifaces, maps, wideKeys, modest, calm, conditions, laid).
  DERIVED. THE GIVEN ROWS OF THIS SEAT. 4 by the template 'for every input the law returns true; each argument reads behind the call as it read before'; 0 by the template 'total and deterministic' (their statements: YtlffdipjddlceaaTotals.lean).
  GIVEN WITH THE SEED: the statements are not yours to turn. If you find one false, say at which input.
  Laid BY PROGRAM, IN A SANDBOX (cutbox-rows.mjs): the forced cells as the released guide's own fill.sh prints them over the translation 990e7a80429012ae… (all of the seat's roots in one cut). By AI agents, Wed Nov 11 2026. No macro, syntax, notation, axiom, sorry.
-/
import Derived.Test.YtlffdipjddlceaaChecked
import GoSem.Claim
import GoSem.ClaimJoined
import GoSem.ClaimMapViews
import Derived.JoinedTies
import Derived.KernelRfl
namespace Go.Proofs.Ytlffdipjddlceaa
/- THE CELL 'sum', in the pinned program and in every row, IS THE sha256 OF THE DUMP (.gsa) THAT YtlffdipjddlceaaProg.lean LOADS. Nothing in Lean hashes anything: it is a label: what it is worth is what the hold of that sum in a sandbox is worth. -/
noncomputable def Try.pinned : Pinned := { name := "ytlffdipjddlceaa", sum := "990e7a80429012aecd7abce5c5175a88401c1e51b56616b0b309c75583934cc6", checked := Try.checked }
namespace Rows
def none {H : Type} : Left H := { results := [], args := [] }

/-- 'savantlaw10.OrderPlays': WHATEVER THE INPUT: true; the input reads as it did. -/
def orderPlaysSpec : ChangeSpec := { name := "orderPlays", fn := fun _ => fun
  | [d] => { results := [.lit (.bool true)], args := [d] }
  | _ => none }
def orderPlaysRow : OpenClaim := { program := "ytlffdipjddlceaa", sum := "990e7a80429012aecd7abce5c5175a88401c1e51b56616b0b309c75583934cc6", func := "savant/savantlaw10.OrderPlays", spec := "orderPlays", unfollowed := true, recurses := true, apart := false }
def OrderPlaysSaid : Prop := orderPlaysRow.holds Try.pinned (OpenSpec.ofChange orderPlaysSpec)

/-- ITS FALSE NEIGHBOUR: 'it returns false'. Refute it at one input. -/
def orderPlaysWrong : ChangeSpec := { name := "orderPlays", fn := fun _ => fun
  | [d] => { results := [.lit (.bool false)], args := [d] }
  | _ => none }
def OrderPlaysWrongFalsely : Prop := orderPlaysRow.holds Try.pinned (OpenSpec.ofChange orderPlaysWrong)

/-- 'savantlaw10.OrderFirst': WHATEVER THE INPUT: true; the input reads as it did. -/
def orderFirstSpec : ChangeSpec := { name := "orderFirst", fn := fun _ => fun
  | [d] => { results := [.lit (.bool true)], args := [d] }
  | _ => none }
def orderFirstRow : OpenClaim := { program := "ytlffdipjddlceaa", sum := "990e7a80429012aecd7abce5c5175a88401c1e51b56616b0b309c75583934cc6", func := "savant/savantlaw10.OrderFirst", spec := "orderFirst", unfollowed := true, recurses := true, apart := false }
def OrderFirstSaid : Prop := orderFirstRow.holds Try.pinned (OpenSpec.ofChange orderFirstSpec)

/-- ITS FALSE NEIGHBOUR: 'it returns false'. Refute it at one input. -/
def orderFirstWrong : ChangeSpec := { name := "orderFirst", fn := fun _ => fun
  | [d] => { results := [.lit (.bool false)], args := [d] }
  | _ => none }
def OrderFirstWrongFalsely : Prop := orderFirstRow.holds Try.pinned (OpenSpec.ofChange orderFirstWrong)

/-- 'savantlaw10.OrderLine': WHATEVER THE INPUT: true; the input reads as it did. -/
def orderLineSpec : ChangeSpec := { name := "orderLine", fn := fun _ => fun
  | [d] => { results := [.lit (.bool true)], args := [d] }
  | _ => none }
def orderLineRow : OpenClaim := { program := "ytlffdipjddlceaa", sum := "990e7a80429012aecd7abce5c5175a88401c1e51b56616b0b309c75583934cc6", func := "savant/savantlaw10.OrderLine", spec := "orderLine", unfollowed := true, recurses := true, apart := false }
def OrderLineSaid : Prop := orderLineRow.holds Try.pinned (OpenSpec.ofChange orderLineSpec)

/-- ITS FALSE NEIGHBOUR: 'it returns false'. Refute it at one input. -/
def orderLineWrong : ChangeSpec := { name := "orderLine", fn := fun _ => fun
  | [d] => { results := [.lit (.bool false)], args := [d] }
  | _ => none }
def OrderLineWrongFalsely : Prop := orderLineRow.holds Try.pinned (OpenSpec.ofChange orderLineWrong)

/-- 'savantlaw10.OrderTurned': WHATEVER THE INPUT: true; the input reads as it did. -/
def orderTurnedSpec : ChangeSpec := { name := "orderTurned", fn := fun _ => fun
  | [d] => { results := [.lit (.bool true)], args := [d] }
  | _ => none }
def orderTurnedRow : OpenClaim := { program := "ytlffdipjddlceaa", sum := "990e7a80429012aecd7abce5c5175a88401c1e51b56616b0b309c75583934cc6", func := "savant/savantlaw10.OrderTurned", spec := "orderTurned", unfollowed := true, recurses := true, apart := false }
def OrderTurnedSaid : Prop := orderTurnedRow.holds Try.pinned (OpenSpec.ofChange orderTurnedSpec)

/-- ITS FALSE NEIGHBOUR: 'it returns false'. Refute it at one input. -/
def orderTurnedWrong : ChangeSpec := { name := "orderTurned", fn := fun _ => fun
  | [d] => { results := [.lit (.bool false)], args := [d] }
  | _ => none }
def OrderTurnedWrongFalsely : Prop := orderTurnedRow.holds Try.pinned (OpenSpec.ofChange orderTurnedWrong)

/- THE SECOND FORM. 'bulk': how many values and letters a reading holds, each counted each time it is reached (what is shared counts as often as it is met; a slice's spare places count too). A statement '..UptoSaid' is the law's where the arguments, and the package variables that the reading takes, are together of bulk at most 1048576: NARROWER than '..Said'. Prove '..Said' where nothing that the law and all that it calls make is longer than what came in: it says more and counts as full. Else prove '..UptoSaid'. A law counts once. -/
mutual
def uptoBulk {H : Type} : DataW H → Nat
  | .lit (.string bytes) => bytes.length + 1
  | .lit _ => 1
  | .nil => 1
  | .ptr d => uptoBulk d + 1
  | .slice elems spare => uptoBulkAll elems + uptoBulkAll spare + 1
  | .agg parts => uptoBulkAll parts + 1
  | .iface _ d => uptoBulk d + 1
  | .map entries => uptoBulkEntries entries + 1
  | .held _ => 1
def uptoBulkAll {H : Type} : List (DataW H) → Nat
  | [] => 0
  | d :: r => uptoBulk d + uptoBulkAll r
def uptoBulkEntries {H : Type} : List (Lit × DataW H) → Nat
  | [] => 0
  | x :: r => uptoBulkEntry x + uptoBulkEntries r
def uptoBulkEntry {H : Type} : Lit × DataW H → Nat
  | (.string bytes, d) => bytes.length + uptoBulk d + 1
  | (_, d) => uptoBulk d + 1
 end
def uptoSmall : (H : Type) → List (DataW H) → Bool := fun _ ds => decide (uptoBulkAll ds ≤ 1048576)
def OpenSpec.upto (s : _root_.Go.ChangeSpec) : _root_.Go.OpenSpec := { _root_.Go.OpenSpec.ofChange s with cond := some uptoSmall }

/-- 'savantlaw10.OrderPlays', WHERE WHAT IT READS IS OF BULK AT MOST 1048576: true; the input reads as it did. -/
def orderPlaysUptoRow : OpenClaim := { program := "ytlffdipjddlceaa", sum := "990e7a80429012aecd7abce5c5175a88401c1e51b56616b0b309c75583934cc6", func := "savant/savantlaw10.OrderPlays", spec := "orderPlays", unfollowed := true, recurses := true, apart := false, narrowed := true }
def OrderPlaysUptoSaid : Prop := orderPlaysUptoRow.holds Try.pinned (OpenSpec.upto orderPlaysSpec)

/-- 'savantlaw10.OrderFirst', WHERE WHAT IT READS IS OF BULK AT MOST 1048576: true; the input reads as it did. -/
def orderFirstUptoRow : OpenClaim := { program := "ytlffdipjddlceaa", sum := "990e7a80429012aecd7abce5c5175a88401c1e51b56616b0b309c75583934cc6", func := "savant/savantlaw10.OrderFirst", spec := "orderFirst", unfollowed := true, recurses := true, apart := false, narrowed := true }
def OrderFirstUptoSaid : Prop := orderFirstUptoRow.holds Try.pinned (OpenSpec.upto orderFirstSpec)

/-- 'savantlaw10.OrderLine', WHERE WHAT IT READS IS OF BULK AT MOST 1048576: true; the input reads as it did. -/
def orderLineUptoRow : OpenClaim := { program := "ytlffdipjddlceaa", sum := "990e7a80429012aecd7abce5c5175a88401c1e51b56616b0b309c75583934cc6", func := "savant/savantlaw10.OrderLine", spec := "orderLine", unfollowed := true, recurses := true, apart := false, narrowed := true }
def OrderLineUptoSaid : Prop := orderLineUptoRow.holds Try.pinned (OpenSpec.upto orderLineSpec)

/-- 'savantlaw10.OrderTurned', WHERE WHAT IT READS IS OF BULK AT MOST 1048576: true; the input reads as it did. -/
def orderTurnedUptoRow : OpenClaim := { program := "ytlffdipjddlceaa", sum := "990e7a80429012aecd7abce5c5175a88401c1e51b56616b0b309c75583934cc6", func := "savant/savantlaw10.OrderTurned", spec := "orderTurned", unfollowed := true, recurses := true, apart := false, narrowed := true }
def OrderTurnedUptoSaid : Prop := orderTurnedUptoRow.holds Try.pinned (OpenSpec.upto orderTurnedSpec)

end Rows
end Go.Proofs.Ytlffdipjddlceaa

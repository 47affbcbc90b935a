/-
  NARROWER THAN 'FOR EVERY INPUT', by the rows' own cells (each row's printed sentence says how): UnifyPlays: laid · UnifyAgain: laid · UnifyRigid: laid · UnifyOne: laid · UnifyApart: laid · UnifyApplies: laid · UnifySolves: laid · UnifyGeneral: laid · UnifyTurned: laid.
  DERIVED. THE GIVEN ROWS OF THIS SEAT. 9 by the template 'for every input the law returns true; each argument reads behind the call as it read before'; 0 by the template 'total and deterministic' (their statements: YtjecnionbjlncaaGreatDoorTotals.lean).
  GIVEN WITH THE SEED: the statements are not yours to turn. If you find one false, say at which input.
  Laid BY PROGRAM, IN A SANDBOX (cutbox-rows.mjs): the forced cells as the released guide's own fill.sh prints them over the translation d772de1ae593376c… (all of the seat's roots in one cut). By AI agents, Wed Nov 11 2026. No macro, syntax, notation, axiom, sorry.
-/
import Derived.Test.YtjecnionbjlncaaGreatDoorChecked
import GoSem.Claim
import GoSem.ClaimJoined
import GoSem.ClaimMapViews
import Derived.JoinedTies
import Derived.KernelRfl
namespace Go.Proofs.YtjecnionbjlncaaGreatDoor
/- THE CELL 'sum', in the pinned program and in every row, IS THE sha256 OF THE DUMP (.gsa) THAT YtjecnionbjlncaaGreatDoorProg.lean LOADS. Nothing in Lean hashes anything: it is a label: what it is worth is what the hold of that sum in a sandbox is worth. -/
noncomputable def Tryz.pinned : Pinned := { name := "ytjecnionbjlncaagreatdoor", sum := "d772de1ae593376c2e4a330198e356f4ed17ccc14be8f9addaa8bcdd28008392", checked := Tryz.checked }
namespace Rows
def none {H : Type} : Left H := { results := [], args := [] }

/- WHAT THE LISTED PACKAGE-LEVEL VARIABLES READ AS WHEN THE CALL BEGINS. Each datum BY PROGRAM (the guide's laid-datum.mjs) off the statement by which the dump's own 'gosem.cut.vars' lays the variable. In a bare row this is a premise. The card (YtjecnionbjlncaaGreatDoorCards.lean) ties it to the program's text. -/
def laid_math_bits_deBruijn32tab {H : Type} : DataW H := .agg [.lit (.int .u8 0), .lit (.int .u8 1), .lit (.int .u8 28), .lit (.int .u8 2), .lit (.int .u8 29), .lit (.int .u8 14), .lit (.int .u8 24), .lit (.int .u8 3), .lit (.int .u8 30), .lit (.int .u8 22), .lit (.int .u8 20), .lit (.int .u8 15), .lit (.int .u8 25), .lit (.int .u8 17), .lit (.int .u8 4), .lit (.int .u8 8), .lit (.int .u8 31), .lit (.int .u8 27), .lit (.int .u8 13), .lit (.int .u8 23), .lit (.int .u8 21), .lit (.int .u8 19), .lit (.int .u8 16), .lit (.int .u8 7), .lit (.int .u8 26), .lit (.int .u8 12), .lit (.int .u8 18), .lit (.int .u8 6), .lit (.int .u8 11), .lit (.int .u8 5), .lit (.int .u8 10), .lit (.int .u8 9)]
def laid_math_bits_deBruijn64tab {H : Type} : DataW H := .agg [.lit (.int .u8 0), .lit (.int .u8 1), .lit (.int .u8 56), .lit (.int .u8 2), .lit (.int .u8 57), .lit (.int .u8 49), .lit (.int .u8 28), .lit (.int .u8 3), .lit (.int .u8 61), .lit (.int .u8 58), .lit (.int .u8 42), .lit (.int .u8 50), .lit (.int .u8 38), .lit (.int .u8 29), .lit (.int .u8 17), .lit (.int .u8 4), .lit (.int .u8 62), .lit (.int .u8 47), .lit (.int .u8 59), .lit (.int .u8 36), .lit (.int .u8 45), .lit (.int .u8 43), .lit (.int .u8 51), .lit (.int .u8 22), .lit (.int .u8 53), .lit (.int .u8 39), .lit (.int .u8 33), .lit (.int .u8 30), .lit (.int .u8 24), .lit (.int .u8 18), .lit (.int .u8 12), .lit (.int .u8 5), .lit (.int .u8 63), .lit (.int .u8 55), .lit (.int .u8 48), .lit (.int .u8 27), .lit (.int .u8 60), .lit (.int .u8 41), .lit (.int .u8 37), .lit (.int .u8 16), .lit (.int .u8 46), .lit (.int .u8 35), .lit (.int .u8 44), .lit (.int .u8 21), .lit (.int .u8 52), .lit (.int .u8 32), .lit (.int .u8 23), .lit (.int .u8 11), .lit (.int .u8 54), .lit (.int .u8 26), .lit (.int .u8 40), .lit (.int .u8 15), .lit (.int .u8 34), .lit (.int .u8 20), .lit (.int .u8 31), .lit (.int .u8 10), .lit (.int .u8 25), .lit (.int .u8 14), .lit (.int .u8 19), .lit (.int .u8 9), .lit (.int .u8 13), .lit (.int .u8 8), .lit (.int .u8 7), .lit (.int .u8 6)]
def laid_internal_strconv_uint64pow10 {H : Type} : DataW H := .agg [.lit (.int .u64 1), .lit (.int .u64 10), .lit (.int .u64 100), .lit (.int .u64 1000), .lit (.int .u64 10000), .lit (.int .u64 100000), .lit (.int .u64 1000000), .lit (.int .u64 10000000), .lit (.int .u64 100000000), .lit (.int .u64 1000000000), .lit (.int .u64 10000000000), .lit (.int .u64 100000000000), .lit (.int .u64 1000000000000), .lit (.int .u64 10000000000000), .lit (.int .u64 100000000000000), .lit (.int .u64 1000000000000000), .lit (.int .u64 10000000000000000), .lit (.int .u64 100000000000000000), .lit (.int .u64 1000000000000000000), .lit (.int .u64 10000000000000000000)]
def laid_strconv_ErrRange {H : Type} : DataW H := .iface "*errors.errorString" (.ptr (.agg [.lit (.string [118, 97, 108, 117, 101, 32, 111, 117, 116, 32, 111, 102, 32, 114, 97, 110, 103, 101])]))
def laid_strconv_ErrSyntax {H : Type} : DataW H := .iface "*errors.errorString" (.ptr (.agg [.lit (.string [105, 110, 118, 97, 108, 105, 100, 32, 115, 121, 110, 116, 97, 120])]))

/-- 'savantlaw04.UnifyPlays': WHATEVER THE INPUT: true; the input reads as it did. -/
def unifyPlaysSpec : ChangeSpec := { name := "unifyPlays", fn := fun _ => fun
  | [d] => { results := [.lit (.bool true)], args := [d] }
  | _ => none }
def unifyPlaysRow : OpenClaim := { program := "ytjecnionbjlncaagreatdoor", sum := "d772de1ae593376c2e4a330198e356f4ed17ccc14be8f9addaa8bcdd28008392", func := "savant/savantlaw04.UnifyPlays", spec := "unifyPlays", inPlace := ["internal/bytealg.IndexByteString", "maps.clone", "internal/abi.NoEscape", "internal/bytealg.MakeNoZero"], unfollowed := true, recurses := true, named := ["strconv.ErrSyntax", "strconv.ErrRange", "internal/strconv.uint64pow10", "math/bits.deBruijn32tab", "math/bits.deBruijn64tab"], apart := false, laid := [("math/bits.deBruijn32tab", laid_math_bits_deBruijn32tab), ("math/bits.deBruijn64tab", laid_math_bits_deBruijn64tab), ("internal/strconv.uint64pow10", laid_internal_strconv_uint64pow10), ("strconv.ErrRange", laid_strconv_ErrRange), ("strconv.ErrSyntax", laid_strconv_ErrSyntax)] }
def UnifyPlaysSaid : Prop := unifyPlaysRow.holds Tryz.pinned (OpenSpec.ofChange unifyPlaysSpec)

/-- ITS FALSE NEIGHBOUR: 'it returns false'. Refute it at one input. -/
def unifyPlaysWrong : ChangeSpec := { name := "unifyPlays", fn := fun _ => fun
  | [d] => { results := [.lit (.bool false)], args := [d] }
  | _ => none }
def UnifyPlaysWrongFalsely : Prop := unifyPlaysRow.holds Tryz.pinned (OpenSpec.ofChange unifyPlaysWrong)

/-- 'savantlaw04.UnifyAgain': WHATEVER THE INPUT: true; the input reads as it did. -/
def unifyAgainSpec : ChangeSpec := { name := "unifyAgain", fn := fun _ => fun
  | [d] => { results := [.lit (.bool true)], args := [d] }
  | _ => none }
def unifyAgainRow : OpenClaim := { program := "ytjecnionbjlncaagreatdoor", sum := "d772de1ae593376c2e4a330198e356f4ed17ccc14be8f9addaa8bcdd28008392", func := "savant/savantlaw04.UnifyAgain", spec := "unifyAgain", inPlace := ["internal/bytealg.IndexByteString", "maps.clone", "internal/abi.NoEscape", "internal/bytealg.MakeNoZero"], unfollowed := true, recurses := true, named := ["strconv.ErrSyntax", "strconv.ErrRange", "internal/strconv.uint64pow10", "math/bits.deBruijn32tab", "math/bits.deBruijn64tab"], apart := false, laid := [("math/bits.deBruijn32tab", laid_math_bits_deBruijn32tab), ("math/bits.deBruijn64tab", laid_math_bits_deBruijn64tab), ("internal/strconv.uint64pow10", laid_internal_strconv_uint64pow10), ("strconv.ErrRange", laid_strconv_ErrRange), ("strconv.ErrSyntax", laid_strconv_ErrSyntax)] }
def UnifyAgainSaid : Prop := unifyAgainRow.holds Tryz.pinned (OpenSpec.ofChange unifyAgainSpec)

/-- ITS FALSE NEIGHBOUR: 'it returns false'. Refute it at one input. -/
def unifyAgainWrong : ChangeSpec := { name := "unifyAgain", fn := fun _ => fun
  | [d] => { results := [.lit (.bool false)], args := [d] }
  | _ => none }
def UnifyAgainWrongFalsely : Prop := unifyAgainRow.holds Tryz.pinned (OpenSpec.ofChange unifyAgainWrong)

/-- 'savantlaw04.UnifyRigid': WHATEVER THE INPUT: true; the input reads as it did. -/
def unifyRigidSpec : ChangeSpec := { name := "unifyRigid", fn := fun _ => fun
  | [d] => { results := [.lit (.bool true)], args := [d] }
  | _ => none }
def unifyRigidRow : OpenClaim := { program := "ytjecnionbjlncaagreatdoor", sum := "d772de1ae593376c2e4a330198e356f4ed17ccc14be8f9addaa8bcdd28008392", func := "savant/savantlaw04.UnifyRigid", spec := "unifyRigid", inPlace := ["internal/bytealg.IndexByteString", "maps.clone", "internal/abi.NoEscape", "internal/bytealg.MakeNoZero"], unfollowed := true, recurses := true, named := ["strconv.ErrSyntax", "strconv.ErrRange", "internal/strconv.uint64pow10", "math/bits.deBruijn32tab", "math/bits.deBruijn64tab"], apart := false, laid := [("math/bits.deBruijn32tab", laid_math_bits_deBruijn32tab), ("math/bits.deBruijn64tab", laid_math_bits_deBruijn64tab), ("internal/strconv.uint64pow10", laid_internal_strconv_uint64pow10), ("strconv.ErrRange", laid_strconv_ErrRange), ("strconv.ErrSyntax", laid_strconv_ErrSyntax)] }
def UnifyRigidSaid : Prop := unifyRigidRow.holds Tryz.pinned (OpenSpec.ofChange unifyRigidSpec)

/-- ITS FALSE NEIGHBOUR: 'it returns false'. Refute it at one input. -/
def unifyRigidWrong : ChangeSpec := { name := "unifyRigid", fn := fun _ => fun
  | [d] => { results := [.lit (.bool false)], args := [d] }
  | _ => none }
def UnifyRigidWrongFalsely : Prop := unifyRigidRow.holds Tryz.pinned (OpenSpec.ofChange unifyRigidWrong)

/-- 'savantlaw04.UnifyOne': WHATEVER THE INPUT: true; the input reads as it did. -/
def unifyOneSpec : ChangeSpec := { name := "unifyOne", fn := fun _ => fun
  | [d1, d2] => { results := [.lit (.bool true)], args := [d1, d2] }
  | _ => none }
def unifyOneRow : OpenClaim := { program := "ytjecnionbjlncaagreatdoor", sum := "d772de1ae593376c2e4a330198e356f4ed17ccc14be8f9addaa8bcdd28008392", func := "savant/savantlaw04.UnifyOne", spec := "unifyOne", inPlace := ["internal/bytealg.IndexByteString", "maps.clone", "internal/abi.NoEscape", "internal/bytealg.MakeNoZero"], unfollowed := true, recurses := true, named := ["strconv.ErrSyntax", "strconv.ErrRange", "internal/strconv.uint64pow10", "math/bits.deBruijn32tab", "math/bits.deBruijn64tab"], apart := false, laid := [("math/bits.deBruijn32tab", laid_math_bits_deBruijn32tab), ("math/bits.deBruijn64tab", laid_math_bits_deBruijn64tab), ("internal/strconv.uint64pow10", laid_internal_strconv_uint64pow10), ("strconv.ErrRange", laid_strconv_ErrRange), ("strconv.ErrSyntax", laid_strconv_ErrSyntax)] }
def UnifyOneSaid : Prop := unifyOneRow.holds Tryz.pinned (OpenSpec.ofChange unifyOneSpec)

/-- ITS FALSE NEIGHBOUR: 'it returns false'. Refute it at one input. -/
def unifyOneWrong : ChangeSpec := { name := "unifyOne", fn := fun _ => fun
  | [d1, d2] => { results := [.lit (.bool false)], args := [d1, d2] }
  | _ => none }
def UnifyOneWrongFalsely : Prop := unifyOneRow.holds Tryz.pinned (OpenSpec.ofChange unifyOneWrong)

/-- 'savantlaw04.UnifyApart': WHATEVER THE INPUT: true; the input reads as it did. -/
def unifyApartSpec : ChangeSpec := { name := "unifyApart", fn := fun _ => fun
  | [d1, d2] => { results := [.lit (.bool true)], args := [d1, d2] }
  | _ => none }
def unifyApartRow : OpenClaim := { program := "ytjecnionbjlncaagreatdoor", sum := "d772de1ae593376c2e4a330198e356f4ed17ccc14be8f9addaa8bcdd28008392", func := "savant/savantlaw04.UnifyApart", spec := "unifyApart", inPlace := ["internal/bytealg.IndexByteString", "maps.clone", "internal/abi.NoEscape", "internal/bytealg.MakeNoZero"], unfollowed := true, recurses := true, named := ["strconv.ErrSyntax", "strconv.ErrRange", "internal/strconv.uint64pow10", "math/bits.deBruijn32tab", "math/bits.deBruijn64tab"], apart := false, laid := [("math/bits.deBruijn32tab", laid_math_bits_deBruijn32tab), ("math/bits.deBruijn64tab", laid_math_bits_deBruijn64tab), ("internal/strconv.uint64pow10", laid_internal_strconv_uint64pow10), ("strconv.ErrRange", laid_strconv_ErrRange), ("strconv.ErrSyntax", laid_strconv_ErrSyntax)] }
def UnifyApartSaid : Prop := unifyApartRow.holds Tryz.pinned (OpenSpec.ofChange unifyApartSpec)

/-- ITS FALSE NEIGHBOUR: 'it returns false'. Refute it at one input. -/
def unifyApartWrong : ChangeSpec := { name := "unifyApart", fn := fun _ => fun
  | [d1, d2] => { results := [.lit (.bool false)], args := [d1, d2] }
  | _ => none }
def UnifyApartWrongFalsely : Prop := unifyApartRow.holds Tryz.pinned (OpenSpec.ofChange unifyApartWrong)

/-- 'savantlaw04.UnifyApplies': WHATEVER THE INPUT: true; the input reads as it did. -/
def unifyAppliesSpec : ChangeSpec := { name := "unifyApplies", fn := fun _ => fun
  | [d1, d2] => { results := [.lit (.bool true)], args := [d1, d2] }
  | _ => none }
def unifyAppliesRow : OpenClaim := { program := "ytjecnionbjlncaagreatdoor", sum := "d772de1ae593376c2e4a330198e356f4ed17ccc14be8f9addaa8bcdd28008392", func := "savant/savantlaw04.UnifyApplies", spec := "unifyApplies", inPlace := ["internal/bytealg.IndexByteString", "maps.clone", "internal/abi.NoEscape", "internal/bytealg.MakeNoZero"], unfollowed := true, recurses := true, named := ["strconv.ErrSyntax", "strconv.ErrRange", "internal/strconv.uint64pow10", "math/bits.deBruijn32tab", "math/bits.deBruijn64tab"], apart := false, laid := [("math/bits.deBruijn32tab", laid_math_bits_deBruijn32tab), ("math/bits.deBruijn64tab", laid_math_bits_deBruijn64tab), ("internal/strconv.uint64pow10", laid_internal_strconv_uint64pow10), ("strconv.ErrRange", laid_strconv_ErrRange), ("strconv.ErrSyntax", laid_strconv_ErrSyntax)] }
def UnifyAppliesSaid : Prop := unifyAppliesRow.holds Tryz.pinned (OpenSpec.ofChange unifyAppliesSpec)

/-- ITS FALSE NEIGHBOUR: 'it returns false'. Refute it at one input. -/
def unifyAppliesWrong : ChangeSpec := { name := "unifyApplies", fn := fun _ => fun
  | [d1, d2] => { results := [.lit (.bool false)], args := [d1, d2] }
  | _ => none }
def UnifyAppliesWrongFalsely : Prop := unifyAppliesRow.holds Tryz.pinned (OpenSpec.ofChange unifyAppliesWrong)

/-- 'savantlaw04.UnifySolves': WHATEVER THE INPUT: true; the input reads as it did. -/
def unifySolvesSpec : ChangeSpec := { name := "unifySolves", fn := fun _ => fun
  | [d] => { results := [.lit (.bool true)], args := [d] }
  | _ => none }
def unifySolvesRow : OpenClaim := { program := "ytjecnionbjlncaagreatdoor", sum := "d772de1ae593376c2e4a330198e356f4ed17ccc14be8f9addaa8bcdd28008392", func := "savant/savantlaw04.UnifySolves", spec := "unifySolves", inPlace := ["internal/bytealg.IndexByteString", "maps.clone", "internal/abi.NoEscape", "internal/bytealg.MakeNoZero"], unfollowed := true, recurses := true, named := ["strconv.ErrSyntax", "strconv.ErrRange", "internal/strconv.uint64pow10", "math/bits.deBruijn32tab", "math/bits.deBruijn64tab"], apart := false, laid := [("math/bits.deBruijn32tab", laid_math_bits_deBruijn32tab), ("math/bits.deBruijn64tab", laid_math_bits_deBruijn64tab), ("internal/strconv.uint64pow10", laid_internal_strconv_uint64pow10), ("strconv.ErrRange", laid_strconv_ErrRange), ("strconv.ErrSyntax", laid_strconv_ErrSyntax)] }
def UnifySolvesSaid : Prop := unifySolvesRow.holds Tryz.pinned (OpenSpec.ofChange unifySolvesSpec)

/-- ITS FALSE NEIGHBOUR: 'it returns false'. Refute it at one input. -/
def unifySolvesWrong : ChangeSpec := { name := "unifySolves", fn := fun _ => fun
  | [d] => { results := [.lit (.bool false)], args := [d] }
  | _ => none }
def UnifySolvesWrongFalsely : Prop := unifySolvesRow.holds Tryz.pinned (OpenSpec.ofChange unifySolvesWrong)

/-- 'savantlaw04.UnifyGeneral': WHATEVER THE INPUT: true; the input reads as it did. -/
def unifyGeneralSpec : ChangeSpec := { name := "unifyGeneral", fn := fun _ => fun
  | [d1, d2] => { results := [.lit (.bool true)], args := [d1, d2] }
  | _ => none }
def unifyGeneralRow : OpenClaim := { program := "ytjecnionbjlncaagreatdoor", sum := "d772de1ae593376c2e4a330198e356f4ed17ccc14be8f9addaa8bcdd28008392", func := "savant/savantlaw04.UnifyGeneral", spec := "unifyGeneral", inPlace := ["internal/bytealg.IndexByteString", "maps.clone", "internal/abi.NoEscape", "internal/bytealg.MakeNoZero"], unfollowed := true, recurses := true, named := ["strconv.ErrSyntax", "strconv.ErrRange", "internal/strconv.uint64pow10", "math/bits.deBruijn32tab", "math/bits.deBruijn64tab"], apart := false, laid := [("math/bits.deBruijn32tab", laid_math_bits_deBruijn32tab), ("math/bits.deBruijn64tab", laid_math_bits_deBruijn64tab), ("internal/strconv.uint64pow10", laid_internal_strconv_uint64pow10), ("strconv.ErrRange", laid_strconv_ErrRange), ("strconv.ErrSyntax", laid_strconv_ErrSyntax)] }
def UnifyGeneralSaid : Prop := unifyGeneralRow.holds Tryz.pinned (OpenSpec.ofChange unifyGeneralSpec)

/-- ITS FALSE NEIGHBOUR: 'it returns false'. Refute it at one input. -/
def unifyGeneralWrong : ChangeSpec := { name := "unifyGeneral", fn := fun _ => fun
  | [d1, d2] => { results := [.lit (.bool false)], args := [d1, d2] }
  | _ => none }
def UnifyGeneralWrongFalsely : Prop := unifyGeneralRow.holds Tryz.pinned (OpenSpec.ofChange unifyGeneralWrong)

/-- 'savantlaw04.UnifyTurned': WHATEVER THE INPUT: true; the input reads as it did. -/
def unifyTurnedSpec : ChangeSpec := { name := "unifyTurned", fn := fun _ => fun
  | [d] => { results := [.lit (.bool true)], args := [d] }
  | _ => none }
def unifyTurnedRow : OpenClaim := { program := "ytjecnionbjlncaagreatdoor", sum := "d772de1ae593376c2e4a330198e356f4ed17ccc14be8f9addaa8bcdd28008392", func := "savant/savantlaw04.UnifyTurned", spec := "unifyTurned", inPlace := ["internal/bytealg.IndexByteString", "maps.clone", "internal/abi.NoEscape", "internal/bytealg.MakeNoZero"], unfollowed := true, recurses := true, named := ["strconv.ErrSyntax", "strconv.ErrRange", "internal/strconv.uint64pow10", "math/bits.deBruijn32tab", "math/bits.deBruijn64tab"], apart := false, laid := [("math/bits.deBruijn32tab", laid_math_bits_deBruijn32tab), ("math/bits.deBruijn64tab", laid_math_bits_deBruijn64tab), ("internal/strconv.uint64pow10", laid_internal_strconv_uint64pow10), ("strconv.ErrRange", laid_strconv_ErrRange), ("strconv.ErrSyntax", laid_strconv_ErrSyntax)] }
def UnifyTurnedSaid : Prop := unifyTurnedRow.holds Tryz.pinned (OpenSpec.ofChange unifyTurnedSpec)

/-- ITS FALSE NEIGHBOUR: 'it returns false'. Refute it at one input. -/
def unifyTurnedWrong : ChangeSpec := { name := "unifyTurned", fn := fun _ => fun
  | [d] => { results := [.lit (.bool false)], args := [d] }
  | _ => none }
def UnifyTurnedWrongFalsely : Prop := unifyTurnedRow.holds Tryz.pinned (OpenSpec.ofChange unifyTurnedWrong)

/- THE SECOND FORM. 'bulk': how many values and letters a reading holds, each counted each time it is reached (what is shared counts as often as it is met; a slice's spare places count too). A statement '..UptoSaid' is the law's where the arguments, and the package variables that the reading takes, are together of bulk at most 1048576: NARROWER than '..Said'. Prove '..Said' where nothing that the law and all that it calls make is longer than what came in: it says more and counts as full. Else prove '..UptoSaid'. A law counts once. -/
mutual
def uptoBulk {H : Type} : DataW H → Nat
  | .lit (.string bytes) => bytes.length + 1
  | .lit _ => 1
  | .nil => 1
  | .ptr d => uptoBulk d + 1
  | .slice elems spare => uptoBulkAll elems + uptoBulkAll spare + 1
  | .agg parts => uptoBulkAll parts + 1
  | .iface _ d => uptoBulk d + 1
  | .map entries => uptoBulkEntries entries + 1
  | .held _ => 1
def uptoBulkAll {H : Type} : List (DataW H) → Nat
  | [] => 0
  | d :: r => uptoBulk d + uptoBulkAll r
def uptoBulkEntries {H : Type} : List (Lit × DataW H) → Nat
  | [] => 0
  | x :: r => uptoBulkEntry x + uptoBulkEntries r
def uptoBulkEntry {H : Type} : Lit × DataW H → Nat
  | (.string bytes, d) => bytes.length + uptoBulk d + 1
  | (_, d) => uptoBulk d + 1
 end
def uptoSmall : (H : Type) → List (DataW H) → Bool := fun _ ds => decide (uptoBulkAll ds ≤ 1048576)
def OpenSpec.upto (s : _root_.Go.ChangeSpec) : _root_.Go.OpenSpec := { _root_.Go.OpenSpec.ofChange s with cond := some uptoSmall }

/-- 'savantlaw04.UnifyPlays', WHERE WHAT IT READS IS OF BULK AT MOST 1048576: true; the input reads as it did. -/
def unifyPlaysUptoRow : OpenClaim := { program := "ytjecnionbjlncaagreatdoor", sum := "d772de1ae593376c2e4a330198e356f4ed17ccc14be8f9addaa8bcdd28008392", func := "savant/savantlaw04.UnifyPlays", spec := "unifyPlays", inPlace := ["internal/bytealg.IndexByteString", "maps.clone", "internal/abi.NoEscape", "internal/bytealg.MakeNoZero"], unfollowed := true, recurses := true, named := ["strconv.ErrSyntax", "strconv.ErrRange", "internal/strconv.uint64pow10", "math/bits.deBruijn32tab", "math/bits.deBruijn64tab"], apart := false, laid := [("math/bits.deBruijn32tab", laid_math_bits_deBruijn32tab), ("math/bits.deBruijn64tab", laid_math_bits_deBruijn64tab), ("internal/strconv.uint64pow10", laid_internal_strconv_uint64pow10), ("strconv.ErrRange", laid_strconv_ErrRange), ("strconv.ErrSyntax", laid_strconv_ErrSyntax)], narrowed := true }
def UnifyPlaysUptoSaid : Prop := unifyPlaysUptoRow.holds Tryz.pinned (OpenSpec.upto unifyPlaysSpec)

/-- 'savantlaw04.UnifyAgain', WHERE WHAT IT READS IS OF BULK AT MOST 1048576: true; the input reads as it did. -/
def unifyAgainUptoRow : OpenClaim := { program := "ytjecnionbjlncaagreatdoor", sum := "d772de1ae593376c2e4a330198e356f4ed17ccc14be8f9addaa8bcdd28008392", func := "savant/savantlaw04.UnifyAgain", spec := "unifyAgain", inPlace := ["internal/bytealg.IndexByteString", "maps.clone", "internal/abi.NoEscape", "internal/bytealg.MakeNoZero"], unfollowed := true, recurses := true, named := ["strconv.ErrSyntax", "strconv.ErrRange", "internal/strconv.uint64pow10", "math/bits.deBruijn32tab", "math/bits.deBruijn64tab"], apart := false, laid := [("math/bits.deBruijn32tab", laid_math_bits_deBruijn32tab), ("math/bits.deBruijn64tab", laid_math_bits_deBruijn64tab), ("internal/strconv.uint64pow10", laid_internal_strconv_uint64pow10), ("strconv.ErrRange", laid_strconv_ErrRange), ("strconv.ErrSyntax", laid_strconv_ErrSyntax)], narrowed := true }
def UnifyAgainUptoSaid : Prop := unifyAgainUptoRow.holds Tryz.pinned (OpenSpec.upto unifyAgainSpec)

/-- 'savantlaw04.UnifyRigid', WHERE WHAT IT READS IS OF BULK AT MOST 1048576: true; the input reads as it did. -/
def unifyRigidUptoRow : OpenClaim := { program := "ytjecnionbjlncaagreatdoor", sum := "d772de1ae593376c2e4a330198e356f4ed17ccc14be8f9addaa8bcdd28008392", func := "savant/savantlaw04.UnifyRigid", spec := "unifyRigid", inPlace := ["internal/bytealg.IndexByteString", "maps.clone", "internal/abi.NoEscape", "internal/bytealg.MakeNoZero"], unfollowed := true, recurses := true, named := ["strconv.ErrSyntax", "strconv.ErrRange", "internal/strconv.uint64pow10", "math/bits.deBruijn32tab", "math/bits.deBruijn64tab"], apart := false, laid := [("math/bits.deBruijn32tab", laid_math_bits_deBruijn32tab), ("math/bits.deBruijn64tab", laid_math_bits_deBruijn64tab), ("internal/strconv.uint64pow10", laid_internal_strconv_uint64pow10), ("strconv.ErrRange", laid_strconv_ErrRange), ("strconv.ErrSyntax", laid_strconv_ErrSyntax)], narrowed := true }
def UnifyRigidUptoSaid : Prop := unifyRigidUptoRow.holds Tryz.pinned (OpenSpec.upto unifyRigidSpec)

/-- 'savantlaw04.UnifyOne', WHERE WHAT IT READS IS OF BULK AT MOST 1048576: true; the input reads as it did. -/
def unifyOneUptoRow : OpenClaim := { program := "ytjecnionbjlncaagreatdoor", sum := "d772de1ae593376c2e4a330198e356f4ed17ccc14be8f9addaa8bcdd28008392", func := "savant/savantlaw04.UnifyOne", spec := "unifyOne", inPlace := ["internal/bytealg.IndexByteString", "maps.clone", "internal/abi.NoEscape", "internal/bytealg.MakeNoZero"], unfollowed := true, recurses := true, named := ["strconv.ErrSyntax", "strconv.ErrRange", "internal/strconv.uint64pow10", "math/bits.deBruijn32tab", "math/bits.deBruijn64tab"], apart := false, laid := [("math/bits.deBruijn32tab", laid_math_bits_deBruijn32tab), ("math/bits.deBruijn64tab", laid_math_bits_deBruijn64tab), ("internal/strconv.uint64pow10", laid_internal_strconv_uint64pow10), ("strconv.ErrRange", laid_strconv_ErrRange), ("strconv.ErrSyntax", laid_strconv_ErrSyntax)], narrowed := true }
def UnifyOneUptoSaid : Prop := unifyOneUptoRow.holds Tryz.pinned (OpenSpec.upto unifyOneSpec)

/-- 'savantlaw04.UnifyApart', WHERE WHAT IT READS IS OF BULK AT MOST 1048576: true; the input reads as it did. -/
def unifyApartUptoRow : OpenClaim := { program := "ytjecnionbjlncaagreatdoor", sum := "d772de1ae593376c2e4a330198e356f4ed17ccc14be8f9addaa8bcdd28008392", func := "savant/savantlaw04.UnifyApart", spec := "unifyApart", inPlace := ["internal/bytealg.IndexByteString", "maps.clone", "internal/abi.NoEscape", "internal/bytealg.MakeNoZero"], unfollowed := true, recurses := true, named := ["strconv.ErrSyntax", "strconv.ErrRange", "internal/strconv.uint64pow10", "math/bits.deBruijn32tab", "math/bits.deBruijn64tab"], apart := false, laid := [("math/bits.deBruijn32tab", laid_math_bits_deBruijn32tab), ("math/bits.deBruijn64tab", laid_math_bits_deBruijn64tab), ("internal/strconv.uint64pow10", laid_internal_strconv_uint64pow10), ("strconv.ErrRange", laid_strconv_ErrRange), ("strconv.ErrSyntax", laid_strconv_ErrSyntax)], narrowed := true }
def UnifyApartUptoSaid : Prop := unifyApartUptoRow.holds Tryz.pinned (OpenSpec.upto unifyApartSpec)

/-- 'savantlaw04.UnifyApplies', WHERE WHAT IT READS IS OF BULK AT MOST 1048576: true; the input reads as it did. -/
def unifyAppliesUptoRow : OpenClaim := { program := "ytjecnionbjlncaagreatdoor", sum := "d772de1ae593376c2e4a330198e356f4ed17ccc14be8f9addaa8bcdd28008392", func := "savant/savantlaw04.UnifyApplies", spec := "unifyApplies", inPlace := ["internal/bytealg.IndexByteString", "maps.clone", "internal/abi.NoEscape", "internal/bytealg.MakeNoZero"], unfollowed := true, recurses := true, named := ["strconv.ErrSyntax", "strconv.ErrRange", "internal/strconv.uint64pow10", "math/bits.deBruijn32tab", "math/bits.deBruijn64tab"], apart := false, laid := [("math/bits.deBruijn32tab", laid_math_bits_deBruijn32tab), ("math/bits.deBruijn64tab", laid_math_bits_deBruijn64tab), ("internal/strconv.uint64pow10", laid_internal_strconv_uint64pow10), ("strconv.ErrRange", laid_strconv_ErrRange), ("strconv.ErrSyntax", laid_strconv_ErrSyntax)], narrowed := true }
def UnifyAppliesUptoSaid : Prop := unifyAppliesUptoRow.holds Tryz.pinned (OpenSpec.upto unifyAppliesSpec)

/-- 'savantlaw04.UnifySolves', WHERE WHAT IT READS IS OF BULK AT MOST 1048576: true; the input reads as it did. -/
def unifySolvesUptoRow : OpenClaim := { program := "ytjecnionbjlncaagreatdoor", sum := "d772de1ae593376c2e4a330198e356f4ed17ccc14be8f9addaa8bcdd28008392", func := "savant/savantlaw04.UnifySolves", spec := "unifySolves", inPlace := ["internal/bytealg.IndexByteString", "maps.clone", "internal/abi.NoEscape", "internal/bytealg.MakeNoZero"], unfollowed := true, recurses := true, named := ["strconv.ErrSyntax", "strconv.ErrRange", "internal/strconv.uint64pow10", "math/bits.deBruijn32tab", "math/bits.deBruijn64tab"], apart := false, laid := [("math/bits.deBruijn32tab", laid_math_bits_deBruijn32tab), ("math/bits.deBruijn64tab", laid_math_bits_deBruijn64tab), ("internal/strconv.uint64pow10", laid_internal_strconv_uint64pow10), ("strconv.ErrRange", laid_strconv_ErrRange), ("strconv.ErrSyntax", laid_strconv_ErrSyntax)], narrowed := true }
def UnifySolvesUptoSaid : Prop := unifySolvesUptoRow.holds Tryz.pinned (OpenSpec.upto unifySolvesSpec)

/-- 'savantlaw04.UnifyGeneral', WHERE WHAT IT READS IS OF BULK AT MOST 1048576: true; the input reads as it did. -/
def unifyGeneralUptoRow : OpenClaim := { program := "ytjecnionbjlncaagreatdoor", sum := "d772de1ae593376c2e4a330198e356f4ed17ccc14be8f9addaa8bcdd28008392", func := "savant/savantlaw04.UnifyGeneral", spec := "unifyGeneral", inPlace := ["internal/bytealg.IndexByteString", "maps.clone", "internal/abi.NoEscape", "internal/bytealg.MakeNoZero"], unfollowed := true, recurses := true, named := ["strconv.ErrSyntax", "strconv.ErrRange", "internal/strconv.uint64pow10", "math/bits.deBruijn32tab", "math/bits.deBruijn64tab"], apart := false, laid := [("math/bits.deBruijn32tab", laid_math_bits_deBruijn32tab), ("math/bits.deBruijn64tab", laid_math_bits_deBruijn64tab), ("internal/strconv.uint64pow10", laid_internal_strconv_uint64pow10), ("strconv.ErrRange", laid_strconv_ErrRange), ("strconv.ErrSyntax", laid_strconv_ErrSyntax)], narrowed := true }
def UnifyGeneralUptoSaid : Prop := unifyGeneralUptoRow.holds Tryz.pinned (OpenSpec.upto unifyGeneralSpec)

/-- 'savantlaw04.UnifyTurned', WHERE WHAT IT READS IS OF BULK AT MOST 1048576: true; the input reads as it did. -/
def unifyTurnedUptoRow : OpenClaim := { program := "ytjecnionbjlncaagreatdoor", sum := "d772de1ae593376c2e4a330198e356f4ed17ccc14be8f9addaa8bcdd28008392", func := "savant/savantlaw04.UnifyTurned", spec := "unifyTurned", inPlace := ["internal/bytealg.IndexByteString", "maps.clone", "internal/abi.NoEscape", "internal/bytealg.MakeNoZero"], unfollowed := true, recurses := true, named := ["strconv.ErrSyntax", "strconv.ErrRange", "internal/strconv.uint64pow10", "math/bits.deBruijn32tab", "math/bits.deBruijn64tab"], apart := false, laid := [("math/bits.deBruijn32tab", laid_math_bits_deBruijn32tab), ("math/bits.deBruijn64tab", laid_math_bits_deBruijn64tab), ("internal/strconv.uint64pow10", laid_internal_strconv_uint64pow10), ("strconv.ErrRange", laid_strconv_ErrRange), ("strconv.ErrSyntax", laid_strconv_ErrSyntax)], narrowed := true }
def UnifyTurnedUptoSaid : Prop := unifyTurnedUptoRow.holds Tryz.pinned (OpenSpec.upto unifyTurnedSpec)

end Rows
end Go.Proofs.YtjecnionbjlncaaGreatDoor

/-
  The law OrderPlays: for every [][]int it returns true; the argument reads as before. No conditions.
-/
import Derived.Test.YtlffdipjddlceaaOrdOpen
import Derived.ProofKit
import Derived.OpenShut
import Derived.ShutString
import Derived.ChangeOld
import Derived.Below
namespace Go.Proofs.Ytlffdipjddlceaa.orderPlays
open Go.ChangeShapes Go.WideShapes Go.ChangeAt Go.RowKit
open Od

set_option maxHeartbeats 1600000 in
theorem walk (W : World) (v0 : Value) (a0 : List (List Int)) (w0 : RowsAt W.heap.size W v0 a0) :
    Calls Try.prog 3 #[v0] W fun e w' => e = .returned (.bool true) ∧ Below W.heap.size W w' := by
  have H0 := Lib.hid w0
  clear w0
  go_enter Try.func3, Try.ntmps3
  go_wp2_with fail
  refine (awake_any _).mono ?_
  rintro e w1 ⟨rfl, B1⟩
  have R1 := Lib.hid (rows_later H0.out (Nat.le_refl _) B1)
  have BB1 := Lib.hid B1
  clear B1
  go_wp2_with fail
  refine (few_any _ _ a0 40 w1 R1.out).mono ?_
  rintro e w' ⟨he, rfl⟩
  by_cases hf : fewL a0 40 = true
  · rw [hf] at he
    subst he
    by_cases hb : Bad a0
    · have HB := Lib.hid hb
      clear hf hb
      go_wp2_with fail
      refine ((groups_any _ _ a0 w1 R1.out (Nat.le_refl _)).mono fun e w' h => post_bad HB.out h).mono ?_
      rintro e w2 ⟨rfl, B2⟩
      have R2 := Lib.hid (rows_later R1.out (Nat.le_refl _) B2)
      have BB2 := Lib.hid (BB1.out.trans (B2.mono BB1.out.size))
      clear B2
      go_wp2_with fail
      refine ((ref_any _ _ a0 w2 R2.out (Nat.le_refl _)).mono fun e w' h => post_bad HB.out h).mono ?_
      rintro e w3 ⟨rfl, B3⟩
      have BB3 := Lib.hid (BB2.out.trans (B3.mono BB2.out.size))
      clear B3
      go_wp2_with fail
      refine ((same_any 0 (.slice none 0 0) (.slice none 0 0) [] [] w3 rows_nil rows_nil).mono fun e w' h => quiet_same h).mono ?_
      rintro e w4 ⟨he, B4⟩
      obtain rfl : e = .returned (.bool true) := by simpa using he
      have BB4 := Lib.hid (BB3.out.trans (B4.mono BB3.out.size))
      clear B4 he
      go_wp2
      go_ret
      exact ⟨rfl, BB4.out⟩
    · obtain ⟨g, hg, hv, hl⟩ := good_of hb
      subst hg
      have HV := Lib.hid hv
      have HL := Lib.hid hl
      clear hf hb hv hl
      go_wp2_with fail
      refine ((groups_any _ _ (rowsOf g) w1 R1.out (Nat.le_refl _)).mono fun e w' h => post_good HV.out HL.out h).mono ?_
      rintro e w2 ⟨a2, c2, rfl, G2, B2⟩
      have R2 := Lib.hid (rows_later R1.out (Nat.le_refl _) B2)
      have BB2 := Lib.hid (BB1.out.trans (B2.mono BB1.out.size))
      have GG2 := Lib.hid G2
      clear B2 G2
      go_wp2_with fail
      refine ((ref_any _ _ (rowsOf g) w2 R2.out (Nat.le_refl _)).mono fun e w' h => post_good HV.out HL.out h).mono ?_
      rintro e w3 ⟨a3, c3, rfl, G3, B3⟩
      have BB3 := Lib.hid (BB2.out.trans (B3.mono BB2.out.size))
      have GG3 := Lib.hid (rows_later GG2.out (Nat.le_refl _) B3)
      have G3H := Lib.hid G3
      clear B3 G3
      go_wp2_with fail
      refine ((same_any w3.heap.size _ _ _ _ w3 GG3.out G3H.out).mono fun e w' h => quiet_same h).mono ?_
      rintro e w4 ⟨he, B4⟩
      obtain rfl : e = .returned (.bool true) := by simpa using he
      have BB4 := Lib.hid (BB3.out.trans (B4.mono BB3.out.size))
      clear B4 he
      go_wp2
      go_ret
      exact ⟨rfl, BB4.out⟩
  · have hf' : fewL a0 40 = false := by simpa using hf
    rw [hf'] at he
    subst he
    clear hf hf'
    go_wp2
    go_ret
    exact ⟨rfl, BB1.out⟩

/-! ### the row's step, as the kit's program proof-skeleton.mjs writes it -/
theorem own : ownKnob Try.prog.godebug = none := by kernel_rfl
theorem laidOut : laidOutB Try.prog = true := by kernel_rfl

set_option linter.unusedVariables false in
set_option maxRecDepth 100000 in
theorem lifted (os : Os) (started : os.Started) (H : Type) (enc : TypeId × Value → H) :
    ReturnsInHanded {} Try.checked os 3 .any (Rows.orderPlaysSpec.pre6 enc Try.prog Try.f3 Rows.orderPlaysRow.domain false) (Rows.orderPlaysSpec.post enc Try.prog Try.f3 false true false false) := by
  refine returnsInHanded_of_change (C := Try.checked) own started (by kernel_rfl) Try.func3
    (ChangeSpec.witness6 (enc := enc) (C := Try.checked) false ⟨#[], #[.slice none 0 0], []⟩ 8 (by kernel_rfl) (by kernel_rfl) (by kernel_rfl) (by kernel_rfl)) ?_
  intro W base args ds gs before hval0 hW hcnd _
  have hval : ∀ (j : Nat) t v, Try.f3.params[j]? = some t → args[j]? = some v → Value.okWide Try.prog W .any base t v := hval0
  have hW' := hW
  obtain ⟨p, q, hA0, hV, rfl, hfz, hnd⟩ := hW
  have hA : DataW.TrodAll enc Try.prog W 0 (fun _ => true) true Try.f3.params.toList args.toList ds p := hA0
  rw [Try.params3] at hA hval
  obtain ⟨v0, vs0, d0, ds0, p0, q0, hargs, rfl, rfl, h0, r0⟩ := trodAll_cons hA
  obtain ⟨rfl, rfl, rfl⟩ := trodAll_nil r0
  obtain rfl : args = #[v0] := by cases args; simp_all
  obtain ⟨rfl, rfl⟩ := trodVars_none hV
  have k0 := h0
  have lt0 : ∀ x ∈ p0, x.block < W.heap.size := by obtain ⟨m, hm⟩ := k0; exact DataW.trod_lt m _ _ _ hm
  obtain ⟨a0, w0⟩ := opn0 (hval 0 22 v0 rfl rfl) h0
  clear hA0 hval0
  refine (walk W v0 a0 w0).mono fun e W' ⟨he, bel⟩ => ?_
  subst he
  exact ⟨_, rfl, _, _, _, [], _, [], hW', trodAll_mk1 (shut_bool Try.underlying4 _), (trodAll_cons_mk (Below.trod laidOut (by kernel_rfl) (of_decide_eq_true (by kernel_rfl)) k0 bel lt0) trodAll_mk0), rfl, bel.frame _, fun h => by cases h⟩

theorem over : Rows.orderPlaysRow.holds Try.pinned (OpenSpec.ofChange Rows.orderPlaysSpec) :=
  OpenClaim.holds_of_wide 3 Try.f3 rfl rfl rfl rfl rfl rfl rfl ⟨rfl, rfl, rfl, rfl, rfl⟩ rfl rfl rfl rfl rfl (by kernel_rfl) Try.func3 (by kernel_rfl)
    (of_decide_eq_true (by kernel_rfl)) (by unfold Func.isWrapper; first | (rw [if_pos (by decide +kernel)]; kernel_rfl) | (rw [if_neg (by decide +kernel)]; exact ⟨rfl, rfl⟩))
    (fun os started H enc _ => lifted os started H enc)

/-- THE STATEMENT -/
theorem proved : Rows.OrderPlaysSaid := over
#print axioms proved
end Go.Proofs.Ytlffdipjddlceaa.orderPlays

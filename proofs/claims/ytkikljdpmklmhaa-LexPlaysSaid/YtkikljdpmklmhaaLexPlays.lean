/-
  The law LexPlays: for every text it returns true; the text reads as before. No conditions.
-/
import Derived.Test.YtkikljdpmklmhaaLexRScan
import Derived.ProofKit
import Derived.OpenShut
import Derived.ShutString
import Derived.ChangeOld
import Derived.Below
namespace Go.Proofs.Ytkikljdpmklmhaa.lexPlays
open Go.ChangeShapes Go.WideShapes Go.ChangeAt Go.RowKit
open Go.ChangeMaps (open_string shut_string)
open Lx

theorem rscan_res (s : ByteArray) (w : World) (hs : s.size ≤ maxLen) {ts : List Tok} {p er : Nat} (h : scanR s.data.toList = (ts, p, er)) :
    Calls Try.prog 12 #[.string s] w (ScanRes ts p er w) := by
  refine (rscan_any s w hs).mono fun e w' hp => ?_
  obtain ⟨v, he, hb, ho⟩ := hp
  rw [h] at he ho
  have ht := toksAt_of_owns ho
  obtain ⟨a, cap, rfl, h2, h3⟩ := ht
  exact ⟨a, cap, he, hb, ⟨a, cap, rfl, h2, h3⟩⟩

theorem scanGo_length (n : Nat) : ∀ (l : List UInt8) (p : Nat) (acc : List Tok), (scanGo n l p acc).1.length ≤ acc.length + l.length := by
  induction n with
  | zero => intro l p acc; simp [scanGo]
  | succ n ih =>
    intro l p acc
    simp only [scanGo]
    split
    · simp
    · split
      · simp
      · rename_i h1 h2
        refine Nat.le_trans (ih _ _ _) ?_
        have : 1 ≤ l.length := by cases l with
          | nil => exact absurd rfl h1
          | cons a l => simp
        simp only [List.length_append, List.length_cons, List.length_nil, List.length_drop]; omega

theorem scanR_length (l : List UInt8) : (scanR l).1.length ≤ 4000 := by
  unfold scanR
  split
  · simp
  · unfold scanAt
    refine Nat.le_trans (scanGo_length _ _ _ _) ?_
    simp; omega

set_option maxHeartbeats 1600000 in
set_option maxRecDepth 100000 in
theorem walk (a0 : ByteArray) (w0 : a0.size ≤ maxLen) (w : World) :
    Calls Try.prog 3 #[.string a0] w fun e w' => e = .returned (.bool true) ∧ Below w.heap.size w w' := by
  have hlen := scanR_length a0.data.toList
  obtain ⟨ts, p, er, hr⟩ : ∃ ts p er, scanR a0.data.toList = (ts, p, er) := ⟨_, _, _, rfl⟩
  rw [hr] at hlen
  simp only at hlen
  have R := Lib.hid hr
  clear hr
  go_enter Try.func3, Try.ntmps3
  go_wp2_with fail
  refine (awake_any _).mono ?_
  rintro e w1 ⟨rfl, hb1⟩
  have B1 := Lib.hid hb1
  clear hb1
  go_wp2_with fail
  refine (scan_res _ _ w0 R.out).mono ?_
  rintro e w2 ⟨a2, cap2, rfl, hb2, ht2⟩
  have B2 := Lib.hid hb2
  have T2 := Lib.hid ht2
  clear hb2 ht2
  go_wp2_with fail
  refine (rscan_res _ _ w0 R.out).mono ?_
  rintro e w3 ⟨a3, cap3, rfl, hb3, ht3⟩
  have B3 := Lib.hid hb3
  have T3 := Lib.hid ht3
  clear hb3 ht3
  go_wp2_with fail
  refine (same_any _ _ ts ts _ (toksAt_below T2.out B3.out (Nat.le_refl _)) T3.out (by unfold maxLen; omega) (by unfold maxLen; omega)).mono ?_
  rintro e w4 ⟨rfl, n, rfl⟩
  rw [show decide (ts = ts) = true by simp]
  have q1 : ((p : Int) == (p : Int)) = true := by simp
  have q2 : ((er : Int) == (er : Int)) = true := by simp
  go_wp2
  go_ret
  have C2 := B1.out.trans (B2.out.mono B1.out.size)
  have C3 := C2.trans (B3.out.mono C2.size)
  exact ⟨rfl, below_drewN C3 n⟩

/-! ### the row's step, as the kit's program proof-skeleton.mjs writes it -/
theorem own : ownKnob Try.prog.godebug = none := by kernel_rfl
theorem laidOut : laidOutB Try.prog = true := by kernel_rfl

set_option linter.unusedVariables false in
set_option maxRecDepth 100000 in
theorem lifted (os : Os) (started : os.Started) (H : Type) (enc : TypeId × Value → H) :
    ReturnsInHanded {} Try.checked os 3 .any (Rows.lexPlaysSpec.pre6 enc Try.prog Try.f3 Rows.lexPlaysRow.domain false) (Rows.lexPlaysSpec.post enc Try.prog Try.f3 false true false false) := by
  refine returnsInHanded_of_change (C := Try.checked) own started (by kernel_rfl) Try.func3
    (ChangeSpec.witness6 (enc := enc) (C := Try.checked) false ⟨#[], #[.string ByteArray.empty], []⟩ 8 (by kernel_rfl) (by kernel_rfl) (by kernel_rfl) (by kernel_rfl)) ?_
  intro W base args ds gs before hval0 hW hcnd _
  have hval : ∀ (j : Nat) t v, Try.f3.params[j]? = some t → args[j]? = some v → Value.okWide Try.prog W .any base t v := hval0
  have hW' := hW
  obtain ⟨p, q, hA0, hV, rfl, hfz, hnd⟩ := hW
  have hA : DataW.TrodAll enc Try.prog W 0 (fun _ => true) true Try.f3.params.toList args.toList ds p := hA0
  rw [Try.params3] at hA hval
  obtain ⟨v0, vs0, d0, ds0, p0, q0, hargs, rfl, rfl, h0, r0⟩ := trodAll_cons hA
  obtain ⟨rfl, rfl, rfl⟩ := trodAll_nil r0
  obtain rfl : args = #[v0] := by cases args; simp_all
  obtain ⟨rfl, rfl⟩ := trodVars_none hV
  obtain ⟨a0, rfl, rfl, rfl, w0⟩ := open_string Try.underlying9 (hval 0 9 v0 rfl rfl) h0
  clear hA0 hval0
  refine (walk a0 w0 W).mono fun e W' ⟨he, bel⟩ => ?_
  subst he
  exact ⟨_, rfl, _, _, _, [], _, [], hW', trodAll_mk1 (shut_bool Try.underlying4 _), (trodAll_cons_mk (shut_string Try.underlying9 w0) trodAll_mk0), rfl, bel.frame _, fun h => by cases h⟩

theorem over : Rows.lexPlaysRow.holds Try.pinned (OpenSpec.ofChange Rows.lexPlaysSpec) :=
  OpenClaim.holds_of_wide 3 Try.f3 rfl rfl rfl rfl rfl rfl rfl ⟨rfl, rfl, rfl, rfl, rfl⟩ rfl rfl rfl rfl rfl (by kernel_rfl) Try.func3 (by kernel_rfl)
    (of_decide_eq_true (by kernel_rfl)) (by unfold Func.isWrapper; first | (rw [if_pos (by decide +kernel)]; kernel_rfl) | (rw [if_neg (by decide +kernel)]; exact ⟨rfl, rfl⟩))
    (fun os started H enc _ => lifted os started H enc)

/-- THE STATEMENT -/
theorem proved : Rows.LexPlaysSaid := over
#print axioms proved
end Go.Proofs.Ytkikljdpmklmhaa.lexPlays

/-
  The law LexBehind: for every two texts it returns true; the texts read as before. No conditions.
-/
import Derived.Test.YtkikljdpmklmhaaLexAwake
import Derived.Test.YtkikljdpmklmhaaLexBeh
import Derived.Deep.LoopGhost
import Derived.Deep.QuietTactic
import Derived.BigQuiet
import Derived.ProofKit
import Derived.OpenShut
import Derived.ShutString
import Derived.ChangeOld
import Derived.Below
namespace Go.Proofs.Ytkikljdpmklmhaa.lexBehind
open Go.ChangeShapes Go.WideShapes Go.ChangeAt Go.RowKit
open Go.ChangeMaps (open_string shut_string)
open Lx

theorem ways (s : ByteArray) (h : s.size ≤ 1900) : (∃ q, q < s.size ∧ scanS false s.data.toList 0 [] = ([], q, 10)) ∨ ∃ ts, scanS false s.data.toList 0 [] = (ts, 0, 0) ∧ ts.length ≤ 4000 ∧ ∀ t ∈ ts, t.pos < 1900 := by
  rcases scanS_er _ false s.data.toList 0 [] (Nat.le_refl _) with he | ⟨q, hq, _, h2⟩
  · obtain ⟨ts, e, hc⟩ := cut_of_scanS _ s.data.toList 0 [] (Nat.le_refl _) he
    have hl := scanR_length s.data.toList
    rw [scanR_S _ (by simp; omega), e] at hl
    have hp := scanS_pos _ false s.data.toList 0 [] (Nat.le_refl _)
    rw [e] at hp
    refine .inr ⟨ts, by simpa using e, by simpa using hl, fun t ht => ?_⟩
    rcases hp t (by simpa using ht) with h' | h'
    · cases h'
    · simp at h'; omega
  · exact .inl ⟨q, by simpa using h2, hq⟩

theorem joined (a b : ByteArray) : (a ++ (⟨#[10]⟩ : ByteArray) ++ b).data.toList = a.data.toList ++ 10 :: b.data.toList := by
  rw [ByteArray.data_append, ByteArray.data_append]; simp

theorem joined_size (a b : ByteArray) : (a ++ (⟨#[10]⟩ : ByteArray) ++ b).size = a.size + 1 + b.size := by
  rw [ByteArray.size_append, ByteArray.size_append]; rfl

theorem scan_joined (a b : ByteArray) (ha : a.size ≤ 1900) (hb : b.size ≤ 1900) : scanR (a ++ (⟨#[10]⟩ : ByteArray) ++ b).data.toList =
    if (scanS false a.data.toList 0 []).2.2 = 0 then (if (scanS false b.data.toList 0 []).2.2 = 0 then ((scanS false a.data.toList 0 []).1 ++ (scanS false b.data.toList 0 []).1.map (sh (a.size + 1)), 0, 0)
      else ([], (scanS false b.data.toList 0 []).2.1 + (a.size + 1), 10)) else ([], (scanS false a.data.toList 0 []).2.1, 10) := by
  rw [scanR_S _ (by rw [joined]; simp; omega), joined, scanS_join _ _ _ _ _ _ (Nat.le_refl _)]
  have h := scanS_shift _ false b.data.toList 0 (a.size + 1) (scanS false a.data.toList 0 []).1 [] (Nat.le_refl _)
  simp only [List.map_nil, List.append_nil, Nat.zero_add] at h
  have e : a.data.toList.length = a.size := by simp
  rw [e, Nat.zero_add, h]

theorem bool_true_of (b : Bool) (h : ¬ b = false) : b = true := by simpa using h

set_option maxRecDepth 100000 in
set_option maxHeartbeats 12800000 in
theorem walk (a0 : ByteArray) (w0 : a0.size ≤ maxLen) (a1 : ByteArray) (w1' : a1.size ≤ maxLen) (w : World) :
    Calls Try.prog 6 #[.string a0, .string a1] w fun e w' => e = .returned (.bool true) ∧ Below w.heap.size w w' := by
  by_cases s1 : 1900 < a0.size
  · 
    go_enter Try.func6, Try.ntmps6
    go_wp2_with fail
    refine (awake_any _).mono ?_
    rintro e w1 ⟨rfl, hb1⟩
    have B1 := Lib.hid hb1
    clear hb1
    go_wp2
    go_ret
    exact ⟨rfl, B1.out⟩
  by_cases s2 : 1900 < a1.size
  · 
    go_enter Try.func6, Try.ntmps6
    go_wp2_with fail
    refine (awake_any _).mono ?_
    rintro e w1 ⟨rfl, hb1⟩
    have B1 := Lib.hid hb1
    clear hb1
    go_wp2
    go_ret
    exact ⟨rfl, B1.out⟩
  have hj := scan_joined a0 a1 (by omega) (by omega)
  have zc : (a0 ++ (⟨#[10]⟩ : ByteArray) ++ a1).size ≤ maxLen := by rw [joined_size]; unfold maxLen; omega
  have ZC := Lib.hid zc
  clear zc
  have ea := scanR_S a0.data.toList (by simp; omega)
  have eb := scanR_S a1.data.toList (by simp; omega)
  rcases ways a0 (by omega) with ⟨q, hq, ha⟩ | ⟨ta, ha, hta, _⟩
  · rw [ha] at ea hj
    simp only [Nat.reduceEqDiff, if_false] at hj
    have RA := Lib.hid ea
    have RC := Lib.hid hj
    obtain ⟨tb, qb, er, hb⟩ : ∃ tb qb er, scanR a1.data.toList = (tb, qb, er) := ⟨_, _, _, rfl⟩
    have RB := Lib.hid hb
    clear ea hj ha hb eb
    go_enter Try.func6, Try.ntmps6
    go_wp2_with fail
    refine (awake_any _).mono ?_
    rintro e w1 ⟨rfl, hb1⟩
    have B1 := Lib.hid hb1
    clear hb1
    go_wp2_with fail
    refine (scan_res _ _ w0 RA.out).mono ?_
    rintro e w2 ⟨a2, cap2, rfl, hb2, ht2⟩
    have B2 := Lib.hid (B1.out.trans (hb2.mono B1.out.size))
    have T2 := Lib.hid ht2
    clear hb2 ht2
    go_wp2_with fail
    refine (scan_res _ _ w1' RB.out).mono ?_
    rintro e w3 ⟨a3, cap3, rfl, hb3, ht3⟩
    have B3 := Lib.hid (B2.out.trans (hb3.mono B2.out.size))
    have T3 := Lib.hid ht3
    have T2b := Lib.hid (toksAt_below T2.out hb3 (Nat.le_refl _))
    clear hb3 ht3
    go_wp2_with fail
    refine (scan_res _ _ ZC.out RC.out).mono ?_
    rintro e w4 ⟨a4, cap4, rfl, hb4, ht4⟩
    have B4 := Lib.hid (B3.out.trans (hb4.mono B3.out.size))
    have T4 := Lib.hid ht4
    have T3c := Lib.hid (toksAt_below T3.out hb4 (Nat.le_refl _))
    have T2c := Lib.hid (toksAt_below T2b.out hb4 (Nat.le_refl _))
    clear hb4 ht4 T2 T3 T2b
    go_wp2
    go_ret
    exact ⟨rfl, B4.out⟩

  · rw [ha] at ea hj
    simp only [if_true] at hj
    rcases ways a1 (by omega) with ⟨q, hq, hb⟩ | ⟨tb, hb, htb, hpb⟩
    · rw [hb] at eb hj
      simp only [Nat.reduceEqDiff, if_false] at hj
      have RA := Lib.hid ea
      have RB := Lib.hid eb
      have RC := Lib.hid hj
      clear ea hj ha hb eb
      go_enter Try.func6, Try.ntmps6
      go_wp2_with fail
      refine (awake_any _).mono ?_
      rintro e w1 ⟨rfl, hb1⟩
      have B1 := Lib.hid hb1
      clear hb1
      go_wp2_with fail
      refine (scan_res _ _ w0 RA.out).mono ?_
      rintro e w2 ⟨a2, cap2, rfl, hb2, ht2⟩
      have B2 := Lib.hid (B1.out.trans (hb2.mono B1.out.size))
      have T2 := Lib.hid ht2
      clear hb2 ht2
      go_wp2_with fail
      refine (scan_res _ _ w1' RB.out).mono ?_
      rintro e w3 ⟨a3, cap3, rfl, hb3, ht3⟩
      have B3 := Lib.hid (B2.out.trans (hb3.mono B2.out.size))
      have T3 := Lib.hid ht3
      have T2b := Lib.hid (toksAt_below T2.out hb3 (Nat.le_refl _))
      clear hb3 ht3
      go_wp2_with fail
      refine (scan_res _ _ ZC.out RC.out).mono ?_
      rintro e w4 ⟨a4, cap4, rfl, hb4, ht4⟩
      have B4 := Lib.hid (B3.out.trans (hb4.mono B3.out.size))
      have T4 := Lib.hid ht4
      have T3c := Lib.hid (toksAt_below T3.out hb4 (Nat.le_refl _))
      have T2c := Lib.hid (toksAt_below T2b.out hb4 (Nat.le_refl _))
      clear hb4 ht4 T2 T3 T2b
      go_wp2
      go_ret
      exact ⟨ret_bool (decide_eq_true (by omega)), B4.out⟩

    · rw [hb] at eb hj
      simp only [if_true] at hj
      obtain ⟨tc, htc⟩ : ∃ tc, tc = ta ++ tb.map (sh (a0.size + 1)) := ⟨_, rfl⟩
      rw [← htc] at hj
      have hlc : tc.length = ta.length + tb.length := by rw [htc]; simp
      have HPB := Lib.hid hpb
      clear hpb
      have HC := Lib.hid hlc
      have HT := Lib.hid htc
      have RA := Lib.hid ea
      have RB := Lib.hid eb
      have RC := Lib.hid hj
      have zq : ((tc.length : Int) != (ta.length : Int) + (tb.length : Int)) = false := by rw [hlc]; simp
      have zl : IntKind.i64.wrap ((ta.length : Int) + (tb.length : Int)) = (ta.length : Int) + (tb.length : Int) := IntWalk.i64_in _ (by omega)
      have tcl : tc.length ≤ 8000 := by omega
      clear ea hj ha hb eb hlc htc
      go_enter Try.func6, Try.ntmps6
      go_wp2_with fail
      refine (awake_any _).mono ?_
      rintro e w1 ⟨rfl, hb1⟩
      have B1 := Lib.hid hb1
      clear hb1
      go_wp2_with fail
      refine (scan_res _ _ w0 RA.out).mono ?_
      rintro e w2 ⟨a2, cap2, rfl, hb2, ht2⟩
      have B2 := Lib.hid (B1.out.trans (hb2.mono B1.out.size))
      have T2 := Lib.hid ht2
      clear hb2 ht2
      go_wp2_with fail
      refine (scan_res _ _ w1' RB.out).mono ?_
      rintro e w3 ⟨a3, cap3, rfl, hb3, ht3⟩
      have B3 := Lib.hid (B2.out.trans (hb3.mono B2.out.size))
      have T3 := Lib.hid ht3
      have T2b := Lib.hid (toksAt_below T2.out hb3 (Nat.le_refl _))
      clear hb3 ht3
      go_wp2_with fail
      refine (scan_res _ _ ZC.out RC.out).mono ?_
      rintro e w4 ⟨a4, cap4, rfl, hb4, ht4⟩
      have B4 := Lib.hid (B3.out.trans (hb4.mono B3.out.size))
      have T4 := Lib.hid ht4
      have T3c := Lib.hid (toksAt_below T3.out hb4 (Nat.le_refl _))
      have T2c := Lib.hid (toksAt_below T2b.out hb4 (Nat.le_refl _))
      clear hb4 ht4 T2 T3 T2b
      go_wp2
      go_loopg [15] tc.length (fun g i wr => ∃ k : Nat, g = tc.length - k ∧ k ≤ tc.length ∧ i = .int .i64 k ∧ Below w4.heap.size w4 wr)
      case atStart => exact ⟨0, rfl, by omega, rfl, Below.refl _ _⟩
      case round =>
        obtain ⟨k, rfl, hk, rfl, hbel⟩ := hrel
        have BW := Lib.hid hbel
        clear hbel
        by_cases hlt : k < tc.length
        · have u4 := toksAt_below T4.out BW.out (Nat.le_refl _)
          by_cases hka : k < ta.length
          · obtain ⟨x4, y4, he4, hc4, ht4⟩ := u4
            injection he4 with he41 he42 he43
            subst he41 he43
            rcases ht4 with ht4 | ⟨b4, off4, rfl, ht4⟩
            · rw [ht4] at hlt; exact absurd hlt (by simp)
            obtain ⟨c1, c2, c3⟩ := ht4 k hlt
            have hel : tc[k] = ta[k] := by
              have h := HT.out
              simp only [h, List.getElem_append_left hka]
            rw [hel] at c1 c2 c3
            clear hel
            obtain ⟨x2, y2, he2, hc2, ht2⟩ := toksAt_below T2c.out BW.out (Nat.le_refl _)
            injection he2 with he21 he22 he23
            subst he21 he23
            rcases ht2 with ht2 | ⟨b2, off2, rfl, ht2⟩
            · rw [ht2] at hka; exact absurd hka (by simp)
            obtain ⟨d1, d2, d3⟩ := ht2 k hka
            have ne := tok_neq ta[k] ta[k]
            generalize ta[k] = x at *
            rw [show decide (x ≠ x) = false by simp] at ne
            simp only [tokVal] at ne
            have z0 : (0 : Int) ≤ (k : Int) := by omega
            have z1 : (k : Int) < (ta.length : Int) := by omega
            have z2 : (k : Int) < (tc.length : Int) := by omega
            have z3 : decide (k < ta.length) = true := decide_eq_true hka
            clear ht4 ht2 he42 he22 hc4 hc2
            go_wp2
            go_quiet (fail)
            go_wp2
            go_roundg (tc.length - (k + 1))
            case measure => omega
            case rel => exact ⟨k + 1, rfl, by omega, by go_num, below_drewN BW.out nq⟩
          · have hmb : k - ta.length < tb.length := by have := HC.out; omega
            obtain ⟨x4, y4, he4, hc4, ht4⟩ := u4
            injection he4 with he41 he42 he43
            subst he41 he43
            rcases ht4 with ht4 | ⟨b4, off4, rfl, ht4⟩
            · rw [ht4] at hlt; exact absurd hlt (by simp)
            obtain ⟨c1, c2, c3⟩ := ht4 k hlt
            have hel : tc[k] = sh (a0.size + 1) tb[k - ta.length] := by
              have h := HT.out
              simp only [h, List.getElem_append_right (show ta.length ≤ k by omega), List.getElem_map]
            rw [hel] at c1 c2 c3
            clear hel
            obtain ⟨x2, y2, he2, hc2, ht2⟩ := toksAt_below T3c.out BW.out (Nat.le_refl _)
            injection he2 with he21 he22 he23
            subst he21 he23
            rcases ht2 with ht2 | ⟨b2, off2, rfl, ht2⟩
            · rw [ht2] at hmb; exact absurd hmb (by simp)
            obtain ⟨d1, d2, d3⟩ := ht2 (k - ta.length) hmb
            have hxp : tb[k - ta.length].pos < 1900 := HPB.out _ (List.getElem_mem hmb)
            generalize tb[k - ta.length] = x at *
            have ne := tok_neq (sh (a0.size + 1) x) (sh (a0.size + 1) x)
            rw [show decide (sh (a0.size + 1) x ≠ sh (a0.size + 1) x) = false by simp] at ne
            simp only [tokVal, sh] at ne c1 c2 c3
            rw [show ((x.pos + (a0.size + 1) : Nat) : Int) = (x.pos : Int) + (a0.size : Int) + 1 by omega] at c3
            simp only [show ((x.pos + (a0.size + 1) : Nat) : Int) = (x.pos : Int) + (a0.size : Int) + 1 by omega] at ne
            have z0 : (0 : Int) ≤ (k : Int) := by omega
            have z2 : (k : Int) < (tc.length : Int) := by omega
            have z3 : decide (k < ta.length) = false := decide_eq_false hka
            have hka2 : ta.length ≤ k := by omega
            have z5 : (0 : Int) ≤ (k : Int) - (ta.length : Int) := by omega
            have z6 : (k : Int) - (ta.length : Int) < (tb.length : Int) := by omega
            clear ht4 ht2 he42 he22 hc4 hc2
            go_wp2
            go_quiet (fail)
            have BQ := Lib.hid (below_drewN BW.out nq)
            have c1 : (wr.drewN nq).cell? _ = _ := c1
            have c2 : (wr.drewN nq).cell? _ = _ := c2
            have c3 : (wr.drewN nq).cell? _ = _ := c3
            have d1 : (wr.drewN nq).cell? _ = _ := d1
            have d2 : (wr.drewN nq).cell? _ = _ := d2
            have d3 : (wr.drewN nq).cell? _ = _ := d3
            generalize wr.drewN nq = wq at *
            have e1 := World.block_lt_of_cell? wq _ c1
            have e2 := World.block_lt_of_cell? wq _ d1
            simp only at e1 e2
            go_wp2
            go_quiet (fail)
            go_wp2
            go_roundg (tc.length - (k + 1))
            case measure => omega
            case rel => exact ⟨k + 1, rfl, by omega, by go_num, below_drewN (BQ.out.alloc BQ.out.size _) nq⟩
        · go_wp2
          go_ret
          exact ⟨rfl, B4.out.trans (BW.out.mono B4.out.size)⟩

/-! ### the row's step, as the kit's program proof-skeleton.mjs writes it -/
theorem own : ownKnob Try.prog.godebug = none := by kernel_rfl
theorem laidOut : laidOutB Try.prog = true := by kernel_rfl

set_option linter.unusedVariables false in
set_option maxRecDepth 100000 in
theorem lifted (os : Os) (started : os.Started) (H : Type) (enc : TypeId × Value → H) :
    ReturnsInHanded {} Try.checked os 6 .any (Rows.lexBehindSpec.pre6 enc Try.prog Try.f6 Rows.lexBehindRow.domain false) (Rows.lexBehindSpec.post enc Try.prog Try.f6 false true false false) := by
  refine returnsInHanded_of_change (C := Try.checked) own started (by kernel_rfl) Try.func6
    (ChangeSpec.witness6 (enc := enc) (C := Try.checked) false ⟨#[], #[.string ByteArray.empty, .string ByteArray.empty], []⟩ 8 (by kernel_rfl) (by kernel_rfl) (by kernel_rfl) (by kernel_rfl)) ?_
  intro W base args ds gs before hval0 hW hcnd _
  have hval : ∀ (j : Nat) t v, Try.f6.params[j]? = some t → args[j]? = some v → Value.okWide Try.prog W .any base t v := hval0
  have hW' := hW
  obtain ⟨p, q, hA0, hV, rfl, hfz, hnd⟩ := hW
  have hA : DataW.TrodAll enc Try.prog W 0 (fun _ => true) true Try.f6.params.toList args.toList ds p := hA0
  rw [Try.params6] at hA hval
  obtain ⟨v0, vs0, d0, ds0, p0, q0, hargs, rfl, rfl, h0, r0⟩ := trodAll_cons hA
  obtain ⟨v1, vs1, d1, ds1, p1, q1, rfl, rfl, rfl, h1, r1⟩ := trodAll_cons r0
  obtain ⟨rfl, rfl, rfl⟩ := trodAll_nil r1
  obtain rfl : args = #[v0, v1] := by cases args; simp_all
  obtain ⟨rfl, rfl⟩ := trodVars_none hV
  obtain ⟨a0, rfl, rfl, rfl, w0⟩ := open_string Try.underlying9 (hval 0 9 v0 rfl rfl) h0
  obtain ⟨a1, rfl, rfl, rfl, w1⟩ := open_string Try.underlying9 (hval 1 9 v1 rfl rfl) h1
  clear hA0 hval0
  refine (walk a0 w0 a1 w1 W).mono fun e W' ⟨he, bel⟩ => ?_
  subst he
  exact ⟨_, rfl, _, _, _, [], _, [], hW', trodAll_mk1 (shut_bool Try.underlying4 _), (trodAll_cons_mk (shut_string Try.underlying9 w0) (trodAll_cons_mk (shut_string Try.underlying9 w1) trodAll_mk0)), rfl, bel.frame _, fun h => by cases h⟩

theorem over : Rows.lexBehindRow.holds Try.pinned (OpenSpec.ofChange Rows.lexBehindSpec) :=
  OpenClaim.holds_of_wide 6 Try.f6 rfl rfl rfl rfl rfl rfl rfl ⟨rfl, rfl, rfl, rfl, rfl⟩ rfl rfl rfl rfl rfl (by kernel_rfl) Try.func6 (by kernel_rfl)
    (of_decide_eq_true (by kernel_rfl)) (by unfold Func.isWrapper; first | (rw [if_pos (by decide +kernel)]; kernel_rfl) | (rw [if_neg (by decide +kernel)]; exact ⟨rfl, rfl⟩))
    (fun os started H enc _ => lifted os started H enc)

/-- THE STATEMENT -/
theorem proved : Rows.LexBehindSaid := over
#print axioms proved
end Go.Proofs.Ytkikljdpmklmhaa.lexBehind

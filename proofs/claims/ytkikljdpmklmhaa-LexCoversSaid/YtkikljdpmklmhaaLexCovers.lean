/-
  The law LexCovers: for every text it returns true; the text reads as before. No conditions.
-/
import Derived.Test.YtkikljdpmklmhaaLexAwake
import Derived.Test.YtkikljdpmklmhaaLexCut
import Derived.Deep.LoopGhost
import Derived.Deep.QuietTactic
import Derived.BigQuiet
import Derived.ProofKit
import Derived.OpenShut
import Derived.ShutString
import Derived.ChangeOld
import Derived.Below
namespace Go.Proofs.Ytkikljdpmklmhaa.lexCovers
open Go.ChangeShapes Go.WideShapes Go.ChangeAt Go.RowKit
open Go.ChangeMaps (open_string shut_string)
open Lx

/-- what is told of an error -/
theorem scan_ways (s : ByteArray) : (4000 < s.size ∧ scanR s.data.toList = ([], 0, 2)) ∨
    (s.size ≤ 4000 ∧ ∃ q, q < s.size ∧ scanR s.data.toList = ([], q, 10)) ∨ (s.size ≤ 4000 ∧ ∃ ts, scanR s.data.toList = (ts, 0, 0) ∧ Cut s.data.toList 0 ts) := by
  by_cases h : 4000 < s.size
  · exact .inl ⟨h, scanR_long _ (by simpa using h)⟩
  · have hl : s.data.toList.length ≤ 4000 := by simp; omega
    rw [scanR_S _ hl]
    rcases scanS_er _ false s.data.toList 0 [] (Nat.le_refl _) with he | ⟨q, hq, _, h2⟩
    · obtain ⟨ts, e, hc⟩ := cut_of_scanS _ s.data.toList 0 [] (Nat.le_refl _) he
      exact .inr (.inr ⟨by omega, ts, by simpa using e, hc⟩)
    · exact .inr (.inl ⟨by omega, q, by simpa using h2, hq⟩)

set_option maxRecDepth 100000 in
set_option maxHeartbeats 12800000 in
theorem walk (a0 : ByteArray) (w0 : a0.size ≤ maxLen) (w : World) :
    Calls Try.prog 4 #[.string a0] w fun e w' => e = .returned (.bool true) ∧ Below w.heap.size w w' := by
  rcases scan_ways a0 with ⟨hb, hr⟩ | ⟨hb, q, hq, hr⟩ | ⟨hb, ts, hr, hcut⟩
  · have R := Lib.hid hr
    clear hr
    go_enter Try.func4, Try.ntmps4
    go_wp2_with fail
    refine (awake_any _).mono ?_
    rintro e w1 ⟨rfl, hb1⟩
    have B1 := Lib.hid hb1
    clear hb1
    go_wp2_with fail
    refine (scan_res _ _ w0 R.out).mono ?_
    rintro e w2 ⟨a2, cap2, rfl, hb2, ht2⟩
    have B2 := Lib.hid (B1.out.trans (hb2.mono B1.out.size))
    clear hb2 ht2
    go_wp2
    go_ret
    exact ⟨rfl, B2.out⟩
  · have R := Lib.hid hr
    clear hr
    go_enter Try.func4, Try.ntmps4
    go_wp2_with fail
    refine (awake_any _).mono ?_
    rintro e w1 ⟨rfl, hb1⟩
    have B1 := Lib.hid hb1
    clear hb1
    go_wp2_with fail
    refine (scan_res _ _ w0 R.out).mono ?_
    rintro e w2 ⟨a2, cap2, rfl, hb2, ht2⟩
    have B2 := Lib.hid (B1.out.trans (hb2.mono B1.out.size))
    clear hb2 ht2
    go_wp2
    go_ret
    exact ⟨rfl, B2.out⟩
  · have hlen := scanR_length a0.data.toList
    rw [hr] at hlen
    simp only at hlen
    have R := Lib.hid hr
    have C := Lib.hid hcut
    clear hr hcut
    go_enter Try.func4, Try.ntmps4
    go_wp2_with fail
    refine (awake_any _).mono ?_
    rintro e w1 ⟨rfl, hb1⟩
    have B1 := Lib.hid hb1
    clear hb1
    go_wp2_with fail
    refine (scan_res _ _ w0 R.out).mono ?_
    rintro e w2 ⟨a2, cap2, rfl, hb2, ht2⟩
    have B2 := Lib.hid (B1.out.trans (hb2.mono B1.out.size))
    have T2 := Lib.hid ht2
    clear hb2 ht2
    go_wp2
    go_loopg [7, 8] (ts.length + 1) (fun g fr i wr => ∃ j p : Nat, g = ts.length + 1 - j ∧ j ≤ ts.length + 1 ∧ i = .int .i64 j ∧ fr = .int .i64 p ∧ ∃ n, wr = w2.drewN n ∧ ((j ≤ ts.length ∧ p ≤ a0.size ∧ Cut (a0.data.toList.drop p) p (ts.drop j)) ∨ j = ts.length + 1))
    case atStart => exact ⟨0, 0, rfl, by omega, rfl, rfl, 0, rfl, .inl ⟨by omega, by omega, C.out⟩⟩
    case round =>
      obtain ⟨j, p, rfl, hj, rfl, rfl, n0, rfl, hway⟩ := hrel
      have hsz : a0.data.size = a0.size := rfl
      rcases hway with ⟨hjl, hps, hcut⟩ | rfl
      · by_cases hjn : j < ts.length
        · rw [List.drop_eq_getElem_cons hjn] at hcut
          obtain ⟨h1, h2, h3, h4, h5, h6⟩ := hcut
          have hne2 : a0.data.toList.drop (p + betweenL false (a0.data.toList.drop p)) ≠ [] := by
            intro e; have := congrArg List.length e; simp only [List.length_drop, Array.length_toList, List.length_nil] at this h1; omega
          have htl := tokenL_le _ (by rw [List.drop_drop]; exact hne2 : (a0.data.toList.drop p).drop (betweenL false (a0.data.toList.drop p)) ≠ [])
          rw [h3] at htl
          obtain ⟨x2, y2, he2, hc2, ht2⟩ := T2.out
          rcases ht2 with ht2 | ⟨b2, off2, rfl, ht2⟩
          · rw [ht2] at hjn; exact absurd hjn (by simp)
          injection he2 with he21 he22 he23
          subst he21
          obtain ⟨d1, d2, d3⟩ := ht2 j hjn
          generalize ts[j] = tk at *
          obtain ⟨kd, tx, q⟩ := tk
          simp only at h1 h2 h3 h4 h5 h6 htl d1 d2 d3
          have GAP := Lib.hid (show betweenL false (a0.data.toList.drop p) = q - p by omega)
          have hpq : p ≤ q := by omega
          simp only [List.length_drop, Array.length_toList] at h1 htl
          obtain ⟨x, hx⟩ : ∃ x : ByteArray, x = ⟨tx.toArray⟩ := ⟨_, rfl⟩
          have hxs : tx.length = x.size := by rw [hx]; rfl
          have hq1 : q + x.size ≤ a0.size := by omega
          have hq2 : q < a0.size := by have : tx.length ≠ 0 := fun e => h5 (List.length_eq_zero_iff.1 e); omega
          have hxe : x = a0.extract q (q + x.size) := by
            rw [extract_part, ← hxs, hx]
            rw [List.drop_drop, ← h2] at h4
            rw [← h4]
          have CU := Lib.hid (show Cut (a0.data.toList.drop (q + x.size)) (q + x.size) (ts.drop (j + 1)) by
            rw [hxs, List.drop_drop, List.drop_drop, ← Nat.add_assoc, ← h2] at h6
            exact h6)
          have emp : x.toList.isEmpty = false := by
            rw [ByteArray.toList_eq, hx]
            cases tx with
            | nil => exact absurd rfl h5
            | cons a l => rfl
          have neq : ((a0.extract q (q + x.size)).toList != x.toList) = false := by rw [← hxe]; simp
          have eqt : ((a0.extract q (q + x.size)).toList == x.toList) = true := by rw [← hxe]; simp
          have hnq : ¬ q < p := by omega
          have hnb : decide (q < p) = false := decide_eq_false (by omega)
          rw [← hx] at d2
          have z0 : (0 : Int) ≤ (j : Int) := by omega
          have z1 : (j : Int) < (ts.length : Int) := by omega
          have z2 : decide ((q : Int) < (p : Int)) = false := decide_eq_false (by omega)
          have z3 : decide ((a0.size : Int) < (q : Int) + (x.size : Int)) = false := decide_eq_false (by omega)
          have z4 : IntKind.i64.wrap ((q : Int) + (x.size : Int)) = (q : Int) + (x.size : Int) := IntWalk.i64_in _ (by omega)
          have z5 : ((q : Int) + (x.size : Int)).toNat = q + x.size := by omega
          have z6 : (0 : Int) ≤ (q : Int) + (x.size : Int) := by omega
          have z7 : (q : Int) ≤ (q : Int) + (x.size : Int) := by omega
          have z8 : (q : Int) + (x.size : Int) ≤ (a0.size : Int) := by omega
          have z9 : (0 : Int) ≤ (q : Int) := by omega
          clear h1 h2 h3 h4 h5 h6 hne2 htl he22 he23 ht2 hxe hx hxs
          go_wp2
          go_quiet (fail)
          clear z4 z5
          go_wp2
          go_loopg [10, 11] (q - p) (fun g r k wr => ∃ (kk : Nat) (b : Bool), g = q - kk ∧ p ≤ kk ∧ kk ≤ q ∧ r = .bool b ∧ k = .int .i64 kk ∧ wr = w2.drewN (n0 + nq) ∧ betweenL b (a0.data.toList.drop kk) = q - kk)
          case atStart => exact ⟨p, false, rfl, Nat.le_refl _, hpq, rfl, rfl, by first | rfl | exact World.drewN_drewN _ _ _, GAP.out⟩
          case round =>
            obtain ⟨k, b, rfl, hpk, hkq, rfl, rfl, rfl, hbb⟩ := hrel
            have HB := Lib.hid hbb
            clear hbb
            by_cases hlt : k < q
            · have st := btw_step a0 k (by omega) b
              rw [HB.out] at st
              by_cases c1 : a0[k] = 35
              · rw [if_pos c1] at st
                have f1 := byte_eqT 35 35 c1 rfl
                have f2 := byte_eqF (c := a0[k]) 10 10 (by rw [c1]; decide) rfl
                have N := Lib.hid (show betweenL true (a0.data.toList.drop (k + 1)) = q - (k + 1) by omega)
                clear c1 st
                go_wp2
                go_roundg (q - (k + 1))
                case measure => omega
                case rel => exact ⟨k + 1, true, rfl, by omega, by omega, rfl, by go_num, rfl, N.out⟩
              · rw [if_neg c1] at st
                have f1 := byte_eqF 35 35 c1 rfl
                by_cases c2 : a0[k] = 10
                · rw [if_pos c2] at st
                  have f2 := byte_eqT 10 10 c2 rfl
                  have f3 := byte_neT (c := a0[k]) 32 32 (by rw [c2]; decide) rfl
                  have f4 := byte_neT (c := a0[k]) 9 9 (by rw [c2]; decide) rfl
                  have f5 := byte_neF 10 10 c2 rfl
                  have N := Lib.hid (show betweenL false (a0.data.toList.drop (k + 1)) = q - (k + 1) by omega)
                  clear c1 c2 st
                  go_wp2
                  go_roundg (q - (k + 1))
                  case measure => omega
                  case rel => exact ⟨k + 1, false, rfl, by omega, by omega, rfl, by go_num, rfl, N.out⟩
                · rw [if_neg c2] at st
                  have f2 := byte_eqF 10 10 c2 rfl
                  cases b
                  · by_cases c3 : a0[k] = 32
                    · rw [if_neg (by simp [c3])] at st
                      have f3 := byte_neF 32 32 c3 rfl
                      have N := Lib.hid (show betweenL false (a0.data.toList.drop (k + 1)) = q - (k + 1) by omega)
                      clear c1 c2 c3 st
                      go_wp2
                      go_roundg (q - (k + 1))
                      case measure => omega
                      case rel => exact ⟨k + 1, false, rfl, by omega, by omega, rfl, by go_num, rfl, N.out⟩
                    · have f3 := byte_neT 32 32 c3 rfl
                      by_cases c4 : a0[k] = 9
                      · rw [if_neg (by simp [c4])] at st
                        have f4 := byte_neF 9 9 c4 rfl
                        have N := Lib.hid (show betweenL false (a0.data.toList.drop (k + 1)) = q - (k + 1) by omega)
                        clear c1 c2 c3 c4 st
                        go_wp2
                        go_roundg (q - (k + 1))
                        case measure => omega
                        case rel => exact ⟨k + 1, false, rfl, by omega, by omega, rfl, by go_num, rfl, N.out⟩
                      · rw [if_pos (by simp [c3, c4])] at st
                        exact absurd st (by omega)
                  · rw [if_neg (by simp)] at st

                    have N := Lib.hid (show betweenL true (a0.data.toList.drop (k + 1)) = q - (k + 1) by omega)
                    clear c1 c2 st
                    go_wp2
                    go_roundg (q - (k + 1))
                    case measure => omega
                    case rel => exact ⟨k + 1, true, rfl, by omega, by omega, rfl, by go_num, rfl, N.out⟩
            · obtain rfl : k = q := by omega
              have HZ := Lib.hid (show betweenL b (a0.data.toList.drop k) = 0 by have := HB.out; omega)
              obtain rfl : b = false := by
                have st := btw_step a0 k (by omega) b
                rw [HZ.out] at st
                by_cases c1 : a0[k] = 35
                · rw [if_pos c1] at st; omega
                · rw [if_neg c1] at st
                  by_cases c2 : a0[k] = 10
                  · rw [if_pos c2] at st; omega
                  · rw [if_neg c2] at st
                    cases b
                    · rfl
                    · rw [if_neg (by simp)] at st; omega
              go_wp2
              go_roundg (ts.length + 1 - (j + 1))
              case measure => omega
              case rel => exact ⟨j + 1, k + x.size, rfl, by omega, by go_num, by go_num, _, rfl, .inl ⟨by omega, by omega, CU.out⟩⟩
        · obtain rfl : j = ts.length := by omega
          rw [List.drop_length] at hcut
          have GAP := Lib.hid (show betweenL false (a0.data.toList.drop p) = a0.size - p by
            have : betweenL false (a0.data.toList.drop p) = (a0.data.toList.drop p).length := hcut
            rw [this]; simp)
          clear hcut
          obtain ⟨q, hqq⟩ : ∃ q, q = a0.size := ⟨_, rfl⟩
          have hq2 : q ≤ a0.size := by omega
          have hpq : p ≤ q := by omega
          rw [← hqq] at GAP
          have HQ := Lib.hid hqq
          have sz : a0.size = q := hqq.symm
          clear hqq
          go_wp2
          go_loopg [10, 11] (q - p) (fun g r k wr => ∃ (kk : Nat) (b : Bool), g = q - kk ∧ p ≤ kk ∧ kk ≤ q ∧ r = .bool b ∧ k = .int .i64 kk ∧ wr = w2.drewN n0 ∧ betweenL b (a0.data.toList.drop kk) = q - kk)
          case atStart => exact ⟨p, false, rfl, Nat.le_refl _, hpq, rfl, rfl, by first | rfl | exact World.drewN_drewN _ _ _, GAP.out⟩
          case round =>
            obtain ⟨k, b, rfl, hpk, hkq, rfl, rfl, rfl, hbb⟩ := hrel
            have HB := Lib.hid hbb
            clear hbb
            by_cases hlt : k < q
            · have st := btw_step a0 k (by omega) b
              rw [HB.out] at st
              by_cases c1 : a0[k] = 35
              · rw [if_pos c1] at st
                have f1 := byte_eqT 35 35 c1 rfl
                have f2 := byte_eqF (c := a0[k]) 10 10 (by rw [c1]; decide) rfl
                have N := Lib.hid (show betweenL true (a0.data.toList.drop (k + 1)) = q - (k + 1) by omega)
                clear c1 st
                go_wp2
                go_roundg (q - (k + 1))
                case measure => omega
                case rel => exact ⟨k + 1, true, rfl, by omega, by omega, rfl, by go_num, rfl, N.out⟩
              · rw [if_neg c1] at st
                have f1 := byte_eqF 35 35 c1 rfl
                by_cases c2 : a0[k] = 10
                · rw [if_pos c2] at st
                  have f2 := byte_eqT 10 10 c2 rfl
                  have f3 := byte_neT (c := a0[k]) 32 32 (by rw [c2]; decide) rfl
                  have f4 := byte_neT (c := a0[k]) 9 9 (by rw [c2]; decide) rfl
                  have f5 := byte_neF 10 10 c2 rfl
                  have N := Lib.hid (show betweenL false (a0.data.toList.drop (k + 1)) = q - (k + 1) by omega)
                  clear c1 c2 st
                  go_wp2
                  go_roundg (q - (k + 1))
                  case measure => omega
                  case rel => exact ⟨k + 1, false, rfl, by omega, by omega, rfl, by go_num, rfl, N.out⟩
                · rw [if_neg c2] at st
                  have f2 := byte_eqF 10 10 c2 rfl
                  cases b
                  · by_cases c3 : a0[k] = 32
                    · rw [if_neg (by simp [c3])] at st
                      have f3 := byte_neF 32 32 c3 rfl
                      have N := Lib.hid (show betweenL false (a0.data.toList.drop (k + 1)) = q - (k + 1) by omega)
                      clear c1 c2 c3 st
                      go_wp2
                      go_roundg (q - (k + 1))
                      case measure => omega
                      case rel => exact ⟨k + 1, false, rfl, by omega, by omega, rfl, by go_num, rfl, N.out⟩
                    · have f3 := byte_neT 32 32 c3 rfl
                      by_cases c4 : a0[k] = 9
                      · rw [if_neg (by simp [c4])] at st
                        have f4 := byte_neF 9 9 c4 rfl
                        have N := Lib.hid (show betweenL false (a0.data.toList.drop (k + 1)) = q - (k + 1) by omega)
                        clear c1 c2 c3 c4 st
                        go_wp2
                        go_roundg (q - (k + 1))
                        case measure => omega
                        case rel => exact ⟨k + 1, false, rfl, by omega, by omega, rfl, by go_num, rfl, N.out⟩
                      · rw [if_pos (by simp [c3, c4])] at st
                        exact absurd st (by omega)
                  · rw [if_neg (by simp)] at st

                    have N := Lib.hid (show betweenL true (a0.data.toList.drop (k + 1)) = q - (k + 1) by omega)
                    clear c1 c2 st
                    go_wp2
                    go_roundg (q - (k + 1))
                    case measure => omega
                    case rel => exact ⟨k + 1, true, rfl, by omega, by omega, rfl, by go_num, rfl, N.out⟩
            · obtain rfl : k = q := by omega
              have HZ := Lib.hid (show betweenL b (a0.data.toList.drop k) = 0 by have := HB.out; omega)
              cases b
              all_goals
                go_wp2
                go_roundg 0
                case measure => omega
                case rel => exact ⟨ts.length + 1, p, by omega, by omega, by go_num, rfl, n0, rfl, .inr rfl⟩
      · go_wp2
        go_ret
        exact ⟨rfl, below_drewN B2.out n0⟩

/-! ### the row's step, as the kit's program proof-skeleton.mjs writes it -/
theorem own : ownKnob Try.prog.godebug = none := by kernel_rfl
theorem laidOut : laidOutB Try.prog = true := by kernel_rfl

set_option linter.unusedVariables false in
set_option maxRecDepth 100000 in
theorem lifted (os : Os) (started : os.Started) (H : Type) (enc : TypeId × Value → H) :
    ReturnsInHanded {} Try.checked os 4 .any (Rows.lexCoversSpec.pre6 enc Try.prog Try.f4 Rows.lexCoversRow.domain false) (Rows.lexCoversSpec.post enc Try.prog Try.f4 false true false false) := by
  refine returnsInHanded_of_change (C := Try.checked) own started (by kernel_rfl) Try.func4
    (ChangeSpec.witness6 (enc := enc) (C := Try.checked) false ⟨#[], #[.string ByteArray.empty], []⟩ 8 (by kernel_rfl) (by kernel_rfl) (by kernel_rfl) (by kernel_rfl)) ?_
  intro W base args ds gs before hval0 hW hcnd _
  have hval : ∀ (j : Nat) t v, Try.f4.params[j]? = some t → args[j]? = some v → Value.okWide Try.prog W .any base t v := hval0
  have hW' := hW
  obtain ⟨p, q, hA0, hV, rfl, hfz, hnd⟩ := hW
  have hA : DataW.TrodAll enc Try.prog W 0 (fun _ => true) true Try.f4.params.toList args.toList ds p := hA0
  rw [Try.params4] at hA hval
  obtain ⟨v0, vs0, d0, ds0, p0, q0, hargs, rfl, rfl, h0, r0⟩ := trodAll_cons hA
  obtain ⟨rfl, rfl, rfl⟩ := trodAll_nil r0
  obtain rfl : args = #[v0] := by cases args; simp_all
  obtain ⟨rfl, rfl⟩ := trodVars_none hV
  obtain ⟨a0, rfl, rfl, rfl, w0⟩ := open_string Try.underlying9 (hval 0 9 v0 rfl rfl) h0
  clear hA0 hval0
  refine (walk a0 w0 W).mono fun e W' ⟨he, bel⟩ => ?_
  subst he
  exact ⟨_, rfl, _, _, _, [], _, [], hW', trodAll_mk1 (shut_bool Try.underlying4 _), (trodAll_cons_mk (shut_string Try.underlying9 w0) trodAll_mk0), rfl, bel.frame _, fun h => by cases h⟩

theorem over : Rows.lexCoversRow.holds Try.pinned (OpenSpec.ofChange Rows.lexCoversSpec) :=
  OpenClaim.holds_of_wide 4 Try.f4 rfl rfl rfl rfl rfl rfl rfl ⟨rfl, rfl, rfl, rfl, rfl⟩ rfl rfl rfl rfl rfl (by kernel_rfl) Try.func4 (by kernel_rfl)
    (of_decide_eq_true (by kernel_rfl)) (by unfold Func.isWrapper; first | (rw [if_pos (by decide +kernel)]; kernel_rfl) | (rw [if_neg (by decide +kernel)]; exact ⟨rfl, rfl⟩))
    (fun os started H enc _ => lifted os started H enc)

/-- THE STATEMENT -/
theorem proved : Rows.LexCoversSaid := over
#print axioms proved
end Go.Proofs.Ytkikljdpmklmhaa.lexCovers

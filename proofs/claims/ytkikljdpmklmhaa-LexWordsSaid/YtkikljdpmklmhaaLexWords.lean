/-
  The law LexWords: for every text it returns true; the text reads as before. No conditions.
-/
import Derived.Test.YtkikljdpmklmhaaLexAwake
import Derived.Test.YtkikljdpmklmhaaLexFacts
import Derived.ProofKit
import Derived.OpenShut
import Derived.ShutString
import Derived.ChangeOld
import Derived.Below
namespace Go.Proofs.Ytkikljdpmklmhaa.lexWords
open Go.ChangeShapes Go.WideShapes Go.ChangeAt Go.RowKit
open Go.ChangeMaps (open_string shut_string)
open Lx

theorem inner_of (c : UInt8) (h : (97 ≤ (c.toNat : Int) ∧ (c.toNat : Int) ≤ 122) ∨ (65 ≤ (c.toNat : Int) ∧ (c.toNat : Int) ≤ 90) ∨ (48 ≤ (c.toNat : Int) ∧ (c.toNat : Int) ≤ 57) ∨ (c.toNat : Int) = 95) : innerB c = true := by
  simp only [innerB, lowerB, upperB, digitB, Bool.or_eq_true, decide_eq_true_eq]; omega
theorem letter_of (c : UInt8) (h : (97 ≤ (c.toNat : Int) ∧ (c.toNat : Int) ≤ 122) ∨ (65 ≤ (c.toNat : Int) ∧ (c.toNat : Int) ≤ 90)) : (lowerB c || upperB c) = true := by
  simp only [lowerB, upperB, Bool.or_eq_true, decide_eq_true_eq]; omega
theorem upper_of (c : UInt8) (h : (lowerB c || upperB c) = true) : upperB c = decide ((c.toNat : Int) ≤ 90) := by
  simp only [lowerB, upperB, Bool.or_eq_true, decide_eq_true_eq] at *
  rw [decide_eq_decide]; omega

/-- the relation of the statement's loop: all bytes so far may stand in a word, the first is a letter -/
def Rel (s : ByteArray) (k : Nat) : Prop := ∀ j (h : j < s.size), j < k → innerB s[j] = true ∧ (j = 0 → (lowerB s[j] || upperB s[j]) = true)

theorem Rel.step {s : ByteArray} {k : Nat} (h : Rel s k) (hk : k < s.size) (hi : innerB s[k] = true) (h0 : k = 0 → (lowerB s[k] || upperB s[k]) = true) : Rel s (k + 1) := by
  intro j hj hlt
  by_cases e : j = k
  · subst e; exact ⟨hi, h0⟩
  · exact h j hj (by omega)

theorem Rel.whole {s : ByteArray} (h : Rel s s.size) (h0 : 0 < s.size) : (lowerB (s.data.toList.headD 0) || upperB (s.data.toList.headD 0)) = true ∧ ∀ c ∈ s.data.toList, innerB c = true := by
  refine ⟨by rw [head_at s h0]; exact (h 0 h0 h0).2 rfl, fun c hc => ?_⟩
  obtain ⟨j, hj, rfl⟩ := List.mem_iff_getElem.1 hc
  exact (h j (by simpa using hj) (by simpa using hj)).1

set_option maxHeartbeats 1600000 in
set_option maxRecDepth 100000 in
theorem walk (a0 : ByteArray) (w0 : a0.size ≤ maxLen) (w : World) :
    Calls Try.prog 8 #[.string a0] w fun e w' => e = .returned (.bool true) ∧ Below w.heap.size w w' := by
  have hemp : a0.toList.isEmpty = decide (a0.size = 0) := by
    rw [ByteArray.toList_eq]; rcases a0 with ⟨⟨l⟩⟩; cases l <;> simp [ByteArray.size]
  by_cases hz : a0.size = 0 ∨ 40 < a0.size
  · go_enter Try.func8, Try.ntmps8
    go_wp2_with fail
    refine (awake_any _).mono ?_
    rintro e w1 ⟨rfl, hb1⟩
    have B1 := Lib.hid hb1
    clear hb1
    rcases hz with hz | hz
    · have hemp' : a0.toList.isEmpty = true := by rw [hemp]; simp [hz]
      clear hemp
      go_wp2
      all_goals (go_ret; exact ⟨rfl, B1.out⟩)
    · have hemp' : a0.toList.isEmpty = false := by rw [hemp]; exact decide_eq_false (by omega)
      clear hemp
      go_wp2
      all_goals (go_ret; exact ⟨rfl, B1.out⟩)
  · have hemp' : a0.toList.isEmpty = false := by rw [hemp]; exact decide_eq_false (by omega)
    clear hemp
    have g1 : 0 < a0.size := by omega
    have g2 : a0.size ≤ 40 := by omega
    clear hz
    go_enter Try.func8, Try.ntmps8
    go_wp2_with fail
    refine (awake_any _).mono ?_
    rintro e w1 ⟨rfl, hb1⟩
    have B1 := Lib.hid hb1
    clear hb1
    go_wp2_with fail
    go_loop [4] (fun i => ∃ k : Nat, k ≤ a0.size ∧ i = .int .i64 k ∧ Rel a0 k) (fun i => a0.size - (intOf i).toNat)
    case atStart => exact ⟨0, Nat.zero_le _, rfl, fun j _ h => absurd h (by omega)⟩
    case round =>
      obtain ⟨k, hk, rfl, hrl⟩ := hrel
      have R := Lib.hid hrl
      clear hrl
      by_cases hlt : k < a0.size
      · have hc : (97 ≤ (a0[k].toNat : Int) ∧ (a0[k].toNat : Int) ≤ 122) ∨ (65 ≤ (a0[k].toNat : Int) ∧ (a0[k].toNat : Int) ≤ 90) ∨ (48 ≤ (a0[k].toNat : Int) ∧ (a0[k].toNat : Int) ≤ 57) ∨ (95 ≤ (a0[k].toNat : Int) ∧ (a0[k].toNat : Int) ≤ 95) ∨ ((a0[k].toNat : Int) < 48) ∨ (58 ≤ (a0[k].toNat : Int) ∧ (a0[k].toNat : Int) ≤ 64) ∨ (91 ≤ (a0[k].toNat : Int) ∧ (a0[k].toNat : Int) ≤ 94) ∨ (96 ≤ (a0[k].toNat : Int) ∧ (a0[k].toNat : Int) ≤ 96) ∨ (123 ≤ (a0[k].toNat : Int)) := by omega
        rcases hc with hc | hc | hc | hc | hc | hc | hc | hc | hc
        · have hi := inner_of a0[k] (by omega)
          have hl := letter_of a0[k] (by omega)
          have HI := Lib.hid (R.out.step hlt hi fun _ => hl)
          clear hi hl
          have d97 : decide (97 ≤ (a0[k].toNat : Int)) = true := decide_eq_true (by omega)
          have d122 : decide ((a0[k].toNat : Int) ≤ 122) = true := decide_eq_true (by omega)
          have d65 : decide (65 ≤ (a0[k].toNat : Int)) = true := decide_eq_true (by omega)
          have d90 : decide ((a0[k].toNat : Int) ≤ 90) = false := decide_eq_false (by omega)
          have d48 : decide ((a0[k].toNat : Int) < 48) = false := decide_eq_false (by omega)
          have d57 : decide (57 < (a0[k].toNat : Int)) = true := decide_eq_true (by omega)
          clear hc
          go_wp2
          go_round
          case rel => exact ⟨k + 1, by omega, by go_num, HI.out⟩
          case measure => simp [intOf]; omega
        · have hi := inner_of a0[k] (by omega)
          have hl := letter_of a0[k] (by omega)
          have HI := Lib.hid (R.out.step hlt hi fun _ => hl)
          clear hi hl
          have d97 : decide (97 ≤ (a0[k].toNat : Int)) = false := decide_eq_false (by omega)
          have d122 : decide ((a0[k].toNat : Int) ≤ 122) = true := decide_eq_true (by omega)
          have d65 : decide (65 ≤ (a0[k].toNat : Int)) = true := decide_eq_true (by omega)
          have d90 : decide ((a0[k].toNat : Int) ≤ 90) = true := decide_eq_true (by omega)
          have d48 : decide ((a0[k].toNat : Int) < 48) = false := decide_eq_false (by omega)
          have d57 : decide (57 < (a0[k].toNat : Int)) = true := decide_eq_true (by omega)
          clear hc
          go_wp2
          go_round
          case rel => exact ⟨k + 1, by omega, by go_num, HI.out⟩
          case measure => simp [intOf]; omega
        · have hc1 := hc.1
          have hc2 := hc.2
          by_cases hk0 : k = 0
          · have kb : ((k : Int) == 0) = true := by simp [hk0]
            clear hk0
            have d97 : decide (97 ≤ (a0[k].toNat : Int)) = false := decide_eq_false (by omega)
            have d122 : decide ((a0[k].toNat : Int) ≤ 122) = true := decide_eq_true (by omega)
            have d65 : decide (65 ≤ (a0[k].toNat : Int)) = false := decide_eq_false (by omega)
            have d90 : decide ((a0[k].toNat : Int) ≤ 90) = true := decide_eq_true (by omega)
            have d48 : decide ((a0[k].toNat : Int) < 48) = false := decide_eq_false (by omega)
            have d57 : decide (57 < (a0[k].toNat : Int)) = false := decide_eq_false (by omega)
            clear hc
            clear hc1 hc2
            go_wp2
            go_ret
            exact ⟨rfl, B1.out⟩
          · have kb : ((k : Int) == 0) = false := by simp [hk0]
            have nb := byte_neT (c := a0[k]) 95 95 (fun h => by rw [h] at hc; simp at hc) rfl
            have hi := inner_of a0[k] (by omega)
            have HI := Lib.hid (R.out.step hlt hi fun h => absurd h hk0)
            clear hi
            clear hk0
            have d97 : decide (97 ≤ (a0[k].toNat : Int)) = false := decide_eq_false (by omega)
            have d122 : decide ((a0[k].toNat : Int) ≤ 122) = true := decide_eq_true (by omega)
            have d65 : decide (65 ≤ (a0[k].toNat : Int)) = false := decide_eq_false (by omega)
            have d90 : decide ((a0[k].toNat : Int) ≤ 90) = true := decide_eq_true (by omega)
            have d48 : decide ((a0[k].toNat : Int) < 48) = false := decide_eq_false (by omega)
            have d57 : decide (57 < (a0[k].toNat : Int)) = false := decide_eq_false (by omega)
            clear hc hc1 hc2
            go_wp2
            go_round
            case rel => exact ⟨k + 1, by omega, by go_num, HI.out⟩
            case measure => simp [intOf]; omega
        · have hc1 := hc.1
          have hc2 := hc.2
          by_cases hk0 : k = 0
          · have kb : ((k : Int) == 0) = true := by simp [hk0]
            clear hk0
            have d97 : decide (97 ≤ (a0[k].toNat : Int)) = false := decide_eq_false (by omega)
            have d122 : decide ((a0[k].toNat : Int) ≤ 122) = true := decide_eq_true (by omega)
            have d65 : decide (65 ≤ (a0[k].toNat : Int)) = true := decide_eq_true (by omega)
            have d90 : decide ((a0[k].toNat : Int) ≤ 90) = false := decide_eq_false (by omega)
            have d48 : decide ((a0[k].toNat : Int) < 48) = false := decide_eq_false (by omega)
            have d57 : decide (57 < (a0[k].toNat : Int)) = true := decide_eq_true (by omega)
            clear hc
            clear hc1 hc2
            go_wp2
            go_ret
            exact ⟨rfl, B1.out⟩
          · have kb : ((k : Int) == 0) = false := by simp [hk0]
            have nb := byte_neF (c := a0[k]) 95 95 (UInt8.toNat_inj.1 (show _ = 95 by omega)) rfl
            have hi := inner_of a0[k] (by omega)
            have HI := Lib.hid (R.out.step hlt hi fun h => absurd h hk0)
            clear hi
            clear hk0
            have d97 : decide (97 ≤ (a0[k].toNat : Int)) = false := decide_eq_false (by omega)
            have d122 : decide ((a0[k].toNat : Int) ≤ 122) = true := decide_eq_true (by omega)
            have d65 : decide (65 ≤ (a0[k].toNat : Int)) = true := decide_eq_true (by omega)
            have d90 : decide ((a0[k].toNat : Int) ≤ 90) = false := decide_eq_false (by omega)
            have d48 : decide ((a0[k].toNat : Int) < 48) = false := decide_eq_false (by omega)
            have d57 : decide (57 < (a0[k].toNat : Int)) = true := decide_eq_true (by omega)
            clear hc hc1 hc2
            go_wp2
            go_round
            case rel => exact ⟨k + 1, by omega, by go_num, HI.out⟩
            case measure => simp [intOf]; omega
        · by_cases hk0 : k = 0
          · have kb : ((k : Int) == 0) = true := by simp [hk0]
            clear hk0
            have d97 : decide (97 ≤ (a0[k].toNat : Int)) = false := decide_eq_false (by omega)
            have d122 : decide ((a0[k].toNat : Int) ≤ 122) = true := decide_eq_true (by omega)
            have d65 : decide (65 ≤ (a0[k].toNat : Int)) = false := decide_eq_false (by omega)
            have d90 : decide ((a0[k].toNat : Int) ≤ 90) = true := decide_eq_true (by omega)
            have d48 : decide ((a0[k].toNat : Int) < 48) = true := decide_eq_true (by omega)
            have d57 : decide (57 < (a0[k].toNat : Int)) = false := decide_eq_false (by omega)
            clear hc
            go_wp2
            go_ret
            exact ⟨rfl, B1.out⟩
          · have kb : ((k : Int) == 0) = false := by simp [hk0]
            have nb := byte_neT (c := a0[k]) 95 95 (fun h => by rw [h] at hc; simp at hc) rfl
            have d97 : decide (97 ≤ (a0[k].toNat : Int)) = false := decide_eq_false (by omega)
            have d122 : decide ((a0[k].toNat : Int) ≤ 122) = true := decide_eq_true (by omega)
            have d65 : decide (65 ≤ (a0[k].toNat : Int)) = false := decide_eq_false (by omega)
            have d90 : decide ((a0[k].toNat : Int) ≤ 90) = true := decide_eq_true (by omega)
            have d48 : decide ((a0[k].toNat : Int) < 48) = true := decide_eq_true (by omega)
            have d57 : decide (57 < (a0[k].toNat : Int)) = false := decide_eq_false (by omega)
            clear hc
            clear hk0
            go_wp2
            go_ret
            exact ⟨rfl, B1.out⟩
        · have hc1 := hc.1
          have hc2 := hc.2
          by_cases hk0 : k = 0
          · have kb : ((k : Int) == 0) = true := by simp [hk0]
            clear hk0
            have d97 : decide (97 ≤ (a0[k].toNat : Int)) = false := decide_eq_false (by omega)
            have d122 : decide ((a0[k].toNat : Int) ≤ 122) = true := decide_eq_true (by omega)
            have d65 : decide (65 ≤ (a0[k].toNat : Int)) = false := decide_eq_false (by omega)
            have d90 : decide ((a0[k].toNat : Int) ≤ 90) = true := decide_eq_true (by omega)
            have d48 : decide ((a0[k].toNat : Int) < 48) = false := decide_eq_false (by omega)
            have d57 : decide (57 < (a0[k].toNat : Int)) = true := decide_eq_true (by omega)
            clear hc
            clear hc1 hc2
            go_wp2
            go_ret
            exact ⟨rfl, B1.out⟩
          · have kb : ((k : Int) == 0) = false := by simp [hk0]
            have nb := byte_neT (c := a0[k]) 95 95 (fun h => by rw [h] at hc; simp at hc) rfl
            have d97 : decide (97 ≤ (a0[k].toNat : Int)) = false := decide_eq_false (by omega)
            have d122 : decide ((a0[k].toNat : Int) ≤ 122) = true := decide_eq_true (by omega)
            have d65 : decide (65 ≤ (a0[k].toNat : Int)) = false := decide_eq_false (by omega)
            have d90 : decide ((a0[k].toNat : Int) ≤ 90) = true := decide_eq_true (by omega)
            have d48 : decide ((a0[k].toNat : Int) < 48) = false := decide_eq_false (by omega)
            have d57 : decide (57 < (a0[k].toNat : Int)) = true := decide_eq_true (by omega)
            clear hc
            clear hc1 hc2
            clear hk0
            go_wp2
            go_ret
            exact ⟨rfl, B1.out⟩
        · have hc1 := hc.1
          have hc2 := hc.2
          by_cases hk0 : k = 0
          · have kb : ((k : Int) == 0) = true := by simp [hk0]
            clear hk0
            have d97 : decide (97 ≤ (a0[k].toNat : Int)) = false := decide_eq_false (by omega)
            have d122 : decide ((a0[k].toNat : Int) ≤ 122) = true := decide_eq_true (by omega)
            have d65 : decide (65 ≤ (a0[k].toNat : Int)) = true := decide_eq_true (by omega)
            have d90 : decide ((a0[k].toNat : Int) ≤ 90) = false := decide_eq_false (by omega)
            have d48 : decide ((a0[k].toNat : Int) < 48) = false := decide_eq_false (by omega)
            have d57 : decide (57 < (a0[k].toNat : Int)) = true := decide_eq_true (by omega)
            clear hc
            clear hc1 hc2
            go_wp2
            go_ret
            exact ⟨rfl, B1.out⟩
          · have kb : ((k : Int) == 0) = false := by simp [hk0]
            have nb := byte_neT (c := a0[k]) 95 95 (fun h => by rw [h] at hc; simp at hc) rfl
            have d97 : decide (97 ≤ (a0[k].toNat : Int)) = false := decide_eq_false (by omega)
            have d122 : decide ((a0[k].toNat : Int) ≤ 122) = true := decide_eq_true (by omega)
            have d65 : decide (65 ≤ (a0[k].toNat : Int)) = true := decide_eq_true (by omega)
            have d90 : decide ((a0[k].toNat : Int) ≤ 90) = false := decide_eq_false (by omega)
            have d48 : decide ((a0[k].toNat : Int) < 48) = false := decide_eq_false (by omega)
            have d57 : decide (57 < (a0[k].toNat : Int)) = true := decide_eq_true (by omega)
            clear hc
            clear hc1 hc2
            clear hk0
            go_wp2
            go_ret
            exact ⟨rfl, B1.out⟩
        · have hc1 := hc.1
          have hc2 := hc.2
          by_cases hk0 : k = 0
          · have kb : ((k : Int) == 0) = true := by simp [hk0]
            clear hk0
            have d97 : decide (97 ≤ (a0[k].toNat : Int)) = false := decide_eq_false (by omega)
            have d122 : decide ((a0[k].toNat : Int) ≤ 122) = true := decide_eq_true (by omega)
            have d65 : decide (65 ≤ (a0[k].toNat : Int)) = true := decide_eq_true (by omega)
            have d90 : decide ((a0[k].toNat : Int) ≤ 90) = false := decide_eq_false (by omega)
            have d48 : decide ((a0[k].toNat : Int) < 48) = false := decide_eq_false (by omega)
            have d57 : decide (57 < (a0[k].toNat : Int)) = true := decide_eq_true (by omega)
            clear hc
            clear hc1 hc2
            go_wp2
            go_ret
            exact ⟨rfl, B1.out⟩
          · have kb : ((k : Int) == 0) = false := by simp [hk0]
            have nb := byte_neT (c := a0[k]) 95 95 (fun h => by rw [h] at hc; simp at hc) rfl
            have d97 : decide (97 ≤ (a0[k].toNat : Int)) = false := decide_eq_false (by omega)
            have d122 : decide ((a0[k].toNat : Int) ≤ 122) = true := decide_eq_true (by omega)
            have d65 : decide (65 ≤ (a0[k].toNat : Int)) = true := decide_eq_true (by omega)
            have d90 : decide ((a0[k].toNat : Int) ≤ 90) = false := decide_eq_false (by omega)
            have d48 : decide ((a0[k].toNat : Int) < 48) = false := decide_eq_false (by omega)
            have d57 : decide (57 < (a0[k].toNat : Int)) = true := decide_eq_true (by omega)
            clear hc
            clear hc1 hc2
            clear hk0
            go_wp2
            go_ret
            exact ⟨rfl, B1.out⟩
        · by_cases hk0 : k = 0
          · have kb : ((k : Int) == 0) = true := by simp [hk0]
            clear hk0
            have d97 : decide (97 ≤ (a0[k].toNat : Int)) = true := decide_eq_true (by omega)
            have d122 : decide ((a0[k].toNat : Int) ≤ 122) = false := decide_eq_false (by omega)
            have d65 : decide (65 ≤ (a0[k].toNat : Int)) = true := decide_eq_true (by omega)
            have d90 : decide ((a0[k].toNat : Int) ≤ 90) = false := decide_eq_false (by omega)
            have d48 : decide ((a0[k].toNat : Int) < 48) = false := decide_eq_false (by omega)
            have d57 : decide (57 < (a0[k].toNat : Int)) = true := decide_eq_true (by omega)
            clear hc
            go_wp2
            go_ret
            exact ⟨rfl, B1.out⟩
          · have kb : ((k : Int) == 0) = false := by simp [hk0]
            have nb := byte_neT (c := a0[k]) 95 95 (fun h => by rw [h] at hc; simp at hc) rfl
            have d97 : decide (97 ≤ (a0[k].toNat : Int)) = true := decide_eq_true (by omega)
            have d122 : decide ((a0[k].toNat : Int) ≤ 122) = false := decide_eq_false (by omega)
            have d65 : decide (65 ≤ (a0[k].toNat : Int)) = true := decide_eq_true (by omega)
            have d90 : decide ((a0[k].toNat : Int) ≤ 90) = false := decide_eq_false (by omega)
            have d48 : decide ((a0[k].toNat : Int) < 48) = false := decide_eq_false (by omega)
            have d57 : decide (57 < (a0[k].toNat : Int)) = true := decide_eq_true (by omega)
            clear hc
            clear hk0
            go_wp2
            go_ret
            exact ⟨rfl, B1.out⟩
      · obtain rfl : k = a0.size := by omega
        obtain ⟨wh, wi⟩ := R.out.whole g1
        have hsz : a0.data.toList.length = a0.size := by simp
        have sw := scanR_word a0.data.toList (by omega) wh (by intro h; rw [h] at hsz; simp at hsz; omega) wi
        rw [hsz] at sw
        by_cases h16 : 16 < a0.size
        · rw [if_pos h16] at sw
          have SW := Lib.hid sw
          clear sw wh wi hsz
          go_wp2_with fail
          refine (scan_res _ _ w0 SW.out).mono ?_
          rintro e w2 ⟨a1, cap1, rfl, hb2, ht2⟩
          have B2 := Lib.hid hb2
          clear hb2 ht2
          go_wp2
          go_ret
          exact ⟨rfl, B1.out.trans (B2.out.mono B1.out.size)⟩
        · rw [if_neg h16] at sw
          have SW := Lib.hid sw
          have hu := upper_of a0[0] (by rw [head_at a0 g1] at wh; exact wh)
          have U := Lib.hid hu
          clear sw wh wi hsz hu
          go_wp2_with fail
          refine (scan_res _ _ w0 SW.out).mono ?_
          rintro e w2 ⟨a1, cap1, rfl, hb2, ht2⟩
          have B2 := Lib.hid hb2
          obtain ⟨a2, cap2, he, hc2, ht2⟩ := ht2
          rcases ht2 with ht2 | ⟨b2, off2, rfl, ht2⟩
          · simp at ht2
          injection he with he1 he2 he3
          subst he1
          obtain ⟨t1, t2, t3⟩ := ht2 0 (by simp)
          simp only [List.getElem_cons_zero, Nat.zero_mul, Nat.add_zero] at t1 t2 t3
          have et : (⟨a0.data.toList.toArray⟩ : ByteArray) = a0 := by simp
          rw [et] at t2
          have hw := @kindL_word a0
          have KW := Lib.hid hw
          clear hb2 he2 he3 ht2 et hw
          generalize hkk : kindL a0.data.toList = kk at *
          have HK := Lib.hid hkk
          clear hkk
          by_cases q0 : (a0.toList == [100, 97, 116, 97]) = true
          · obtain rfl : kk = 3 := by rw [← HK.out]; exact kindL_key q0 (by decide)
            cases hle : decide ((a0[0].toNat : Int) ≤ 90)
            all_goals
              go_wp2
              go_ret
              exact ⟨rfl, B1.out.trans (B2.out.mono B1.out.size)⟩
          have p0 : (a0.toList == [100, 97, 116, 97]) = false := by simpa using q0
          clear q0
          by_cases q1 : (a0.toList == [108, 101, 116]) = true
          · obtain rfl : kk = 3 := by rw [← HK.out]; exact kindL_key q1 (by decide)
            cases hle : decide ((a0[0].toNat : Int) ≤ 90)
            all_goals
              go_wp2
              go_ret
              exact ⟨rfl, B1.out.trans (B2.out.mono B1.out.size)⟩
          have p1 : (a0.toList == [108, 101, 116]) = false := by simpa using q1
          clear q1
          by_cases q2 : (a0.toList == [105, 110]) = true
          · obtain rfl : kk = 3 := by rw [← HK.out]; exact kindL_key q2 (by decide)
            cases hle : decide ((a0[0].toNat : Int) ≤ 90)
            all_goals
              go_wp2
              go_ret
              exact ⟨rfl, B1.out.trans (B2.out.mono B1.out.size)⟩
          have p2 : (a0.toList == [105, 110]) = false := by simpa using q2
          clear q2
          by_cases q3 : (a0.toList == [99, 97, 115, 101]) = true
          · obtain rfl : kk = 3 := by rw [← HK.out]; exact kindL_key q3 (by decide)
            cases hle : decide ((a0[0].toNat : Int) ≤ 90)
            all_goals
              go_wp2
              go_ret
              exact ⟨rfl, B1.out.trans (B2.out.mono B1.out.size)⟩
          have p3 : (a0.toList == [99, 97, 115, 101]) = false := by simpa using q3
          clear q3
          by_cases q4 : (a0.toList == [111, 102]) = true
          · obtain rfl : kk = 3 := by rw [← HK.out]; exact kindL_key q4 (by decide)
            cases hle : decide ((a0[0].toNat : Int) ≤ 90)
            all_goals
              go_wp2
              go_ret
              exact ⟨rfl, B1.out.trans (B2.out.mono B1.out.size)⟩
          have p4 : (a0.toList == [111, 102]) = false := by simpa using q4
          clear q4
          by_cases q5 : (a0.toList == [102, 111, 114, 97, 108, 108]) = true
          · obtain rfl : kk = 3 := by rw [← HK.out]; exact kindL_key q5 (by decide)
            cases hle : decide ((a0[0].toNat : Int) ≤ 90)
            all_goals
              go_wp2
              go_ret
              exact ⟨rfl, B1.out.trans (B2.out.mono B1.out.size)⟩
          have p5 : (a0.toList == [102, 111, 114, 97, 108, 108]) = false := by simpa using q5
          clear q5
          have kw := KW.out p0 p1 p2 p3 p4 p5 g1
          rw [U.out] at kw
          cases hle : decide ((a0[0].toNat : Int) ≤ 90)
          · rw [hle] at kw
            obtain rfl : kk = 1 := kw
            go_wp2
            go_ret
            exact ⟨rfl, B1.out.trans (B2.out.mono B1.out.size)⟩
          · rw [hle] at kw
            obtain rfl : kk = 2 := kw
            go_wp2
            go_ret
            exact ⟨rfl, B1.out.trans (B2.out.mono B1.out.size)⟩

/-! ### the row's step, as the kit's program proof-skeleton.mjs writes it -/
theorem own : ownKnob Try.prog.godebug = none := by kernel_rfl
theorem laidOut : laidOutB Try.prog = true := by kernel_rfl

set_option linter.unusedVariables false in
set_option maxRecDepth 100000 in
theorem lifted (os : Os) (started : os.Started) (H : Type) (enc : TypeId × Value → H) :
    ReturnsInHanded {} Try.checked os 8 .any (Rows.lexWordsSpec.pre6 enc Try.prog Try.f8 Rows.lexWordsRow.domain false) (Rows.lexWordsSpec.post enc Try.prog Try.f8 false true false false) := by
  refine returnsInHanded_of_change (C := Try.checked) own started (by kernel_rfl) Try.func8
    (ChangeSpec.witness6 (enc := enc) (C := Try.checked) false ⟨#[], #[.string ByteArray.empty], []⟩ 8 (by kernel_rfl) (by kernel_rfl) (by kernel_rfl) (by kernel_rfl)) ?_
  intro W base args ds gs before hval0 hW hcnd _
  have hval : ∀ (j : Nat) t v, Try.f8.params[j]? = some t → args[j]? = some v → Value.okWide Try.prog W .any base t v := hval0
  have hW' := hW
  obtain ⟨p, q, hA0, hV, rfl, hfz, hnd⟩ := hW
  have hA : DataW.TrodAll enc Try.prog W 0 (fun _ => true) true Try.f8.params.toList args.toList ds p := hA0
  rw [Try.params8] at hA hval
  obtain ⟨v0, vs0, d0, ds0, p0, q0, hargs, rfl, rfl, h0, r0⟩ := trodAll_cons hA
  obtain ⟨rfl, rfl, rfl⟩ := trodAll_nil r0
  obtain rfl : args = #[v0] := by cases args; simp_all
  obtain ⟨rfl, rfl⟩ := trodVars_none hV
  obtain ⟨a0, rfl, rfl, rfl, w0⟩ := open_string Try.underlying9 (hval 0 9 v0 rfl rfl) h0
  clear hA0 hval0
  refine (walk a0 w0 W).mono fun e W' ⟨he, bel⟩ => ?_
  subst he
  exact ⟨_, rfl, _, _, _, [], _, [], hW', trodAll_mk1 (shut_bool Try.underlying4 _), (trodAll_cons_mk (shut_string Try.underlying9 w0) trodAll_mk0), rfl, bel.frame _, fun h => by cases h⟩

theorem over : Rows.lexWordsRow.holds Try.pinned (OpenSpec.ofChange Rows.lexWordsSpec) :=
  OpenClaim.holds_of_wide 8 Try.f8 rfl rfl rfl rfl rfl rfl rfl ⟨rfl, rfl, rfl, rfl, rfl⟩ rfl rfl rfl rfl rfl (by kernel_rfl) Try.func8 (by kernel_rfl)
    (of_decide_eq_true (by kernel_rfl)) (by unfold Func.isWrapper; first | (rw [if_pos (by decide +kernel)]; kernel_rfl) | (rw [if_neg (by decide +kernel)]; exact ⟨rfl, rfl⟩))
    (fun os started H enc _ => lifted os started H enc)

/-- THE STATEMENT -/
theorem proved : Rows.LexWordsSaid := over
#print axioms proved
end Go.Proofs.Ytkikljdpmklmhaa.lexWords

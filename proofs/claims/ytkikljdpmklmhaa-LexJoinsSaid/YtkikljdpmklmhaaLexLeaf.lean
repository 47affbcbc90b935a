/- Contracts of the scanner's functions on bytes: each returns what the plain function says and leaves the world as it was. -/
import Derived.Test.YtkikljdpmklmhaaRows
import Derived.Test.YtkikljdpmklmhaaLexPlain
import Derived.WalkKit
import Derived.WalkLawsBesides
import Derived.WalkSpells
import Derived.Lib.Hide
namespace Go.Proofs.Ytkikljdpmklmhaa
open Go.RowKit
open Lx

theorem ret_bool {a b : Bool} (h : a = b) : Ending.returned (.bool a) = .returned (.bool b) := by rw [h]
theorem ret_int {k : IntKind} {a b : Int} (h : a = b) : Ending.returned (.int k a) = .returned (.int k b) := by rw [h]

theorem byte_is {c : UInt8} {n : Int} (k : UInt8) (h : ((c.toNat : Int) == n) = true) (hk : (k.toNat : Int) = n) : c = k := by
  have h' : (c.toNat : Int) = n := by simpa using h
  apply UInt8.toNat_inj.1; omega
theorem byte_not {c : UInt8} {n : Int} (k : UInt8) (h : ((c.toNat : Int) == n) = false) (hk : (k.toNat : Int) = n) : c ≠ k := by
  intro e; subst e; simp [hk] at h

theorem byte_dec (c : UInt8) (n : Int) (k : UInt8) (hk : (k.toNat : Int) = n) : ((c.toNat : Int) == n) = decide (c = k) := by
  rw [Bool.eq_iff_iff]; simp only [beq_iff_eq, decide_eq_true_eq]
  exact ⟨fun h => UInt8.toNat_inj.1 (by omega), fun h => by subst h; exact hk⟩

theorem lower_any (c : UInt8) (w : World) : Calls Try.prog 18 #[.int .u8 c.toNat] w fun e w' => e = .returned (.bool (lowerB c)) ∧ w = w' := by
  go_enter Try.func18, Try.ntmps18
  go_wp2
  all_goals
    go_ret
    exact ⟨ret_bool (by unfold lowerB; first | (rw [decide_eq_decide]; omega) | (symm; rw [decide_eq_false_iff_not]; omega)), rfl⟩

theorem upper_any (c : UInt8) (w : World) : Calls Try.prog 19 #[.int .u8 c.toNat] w fun e w' => e = .returned (.bool (upperB c)) ∧ w = w' := by
  go_enter Try.func19, Try.ntmps19
  go_wp2
  all_goals
    go_ret
    exact ⟨ret_bool (by unfold upperB; first | (rw [decide_eq_decide]; omega) | (symm; rw [decide_eq_false_iff_not]; omega)), rfl⟩

theorem digit_any (c : UInt8) (w : World) : Calls Try.prog 23 #[.int .u8 c.toNat] w fun e w' => e = .returned (.bool (digitB c)) ∧ w = w' := by
  go_enter Try.func23, Try.ntmps23
  go_wp2
  all_goals
    go_ret
    exact ⟨ret_bool (by unfold digitB; first | (rw [decide_eq_decide]; omega) | (symm; rw [decide_eq_false_iff_not]; omega)), rfl⟩

theorem inner_any (c : UInt8) (w : World) : Calls Try.prog 21 #[.int .u8 c.toNat] w fun e w' => e = .returned (.bool (innerB c)) ∧ w = w' := by
  go_enter Try.func21, Try.ntmps21
  go_wp2_with (first | (go_at_call 18; refine (lower_any _ _).mono ?_; rintro e w' ⟨rfl, rfl⟩) | (go_at_call 19; refine (upper_any _ _).mono ?_; rintro e w' ⟨rfl, rfl⟩) | (go_at_call 23; refine (digit_any _ _).mono ?_; rintro e w' ⟨rfl, rfl⟩))
  all_goals
    go_ret
    exact ⟨ret_bool (by unfold innerB; simp [*]; try (rw [Bool.eq_iff_iff]; simp; omega)), rfl⟩

theorem take_snoc (s : ByteArray) (k : Nat) (h : k < s.size) : s.data.toList.take (k + 1) = s.data.toList.take k ++ [s[k]] := by
  rw [List.take_succ_eq_append_getElem (by simpa using h)]; rfl

set_option maxHeartbeats 400000 in
theorem span_digit (s : ByteArray) (w : World) (hs : s.size ≤ maxLen) :
    Calls Try.prog 20 #[.string s, .func (.func 23) #[] #[]] w fun e w' => e = .returned (.int .i64 (spanL digitB s.data.toList)) ∧ w = w' := by
  unfold maxLen at hs
  go_enter Try.func20, Try.ntmps20
  go_wp2
  go_loop [5] (fun i => ∃ k : Nat, k ≤ s.size ∧ i = .int .i64 k ∧ (s.data.toList.take k).all digitB = true) (fun i => s.size - (intOf i).toNat)
  case atStart => exact ⟨0, Nat.zero_le _, rfl, by simp⟩
  case round =>
    obtain ⟨k, hk, rfl, hall⟩ := hrel
    have H := Lib.hid hall; clear hall
    by_cases hlt : k < s.size
    · go_wp2_with (go_at_call 23; refine (digit_any _ _).mono ?_; rintro e w' ⟨rfl, rfl⟩)
      · have hd : digitB s[k] = true := by assumption
        go_round
        case rel => exact ⟨k + 1, by omega, by go_num, by rw [take_snoc s k hlt, List.all_append, H.out]; simp [hd]⟩
        case measure => simp [intOf]; omega
      · have hd : digitB s[k] = false := by assumption
        go_ret
        exact ⟨ret_int (by rw [spanL_stop _ _ k H.out (by simpa using hlt) hd]), rfl⟩
    · go_wp2
      go_ret
      have hk2 : s.data.toList.take k = s.data.toList := List.take_of_length_le (by simp; omega)
      exact ⟨ret_int (by rw [spanL_all _ _ (by rw [← hk2]; exact H.out)]; simp; omega), rfl⟩

set_option maxHeartbeats 400000 in
theorem span_inner (s : ByteArray) (w : World) (hs : s.size ≤ maxLen) :
    Calls Try.prog 20 #[.string s, .func (.func 21) #[] #[]] w fun e w' => e = .returned (.int .i64 (spanL innerB s.data.toList)) ∧ w = w' := by
  unfold maxLen at hs
  go_enter Try.func20, Try.ntmps20
  go_wp2
  go_loop [5] (fun i => ∃ k : Nat, k ≤ s.size ∧ i = .int .i64 k ∧ (s.data.toList.take k).all innerB = true) (fun i => s.size - (intOf i).toNat)
  case atStart => exact ⟨0, Nat.zero_le _, rfl, by simp⟩
  case round =>
    obtain ⟨k, hk, rfl, hall⟩ := hrel
    have H := Lib.hid hall; clear hall
    by_cases hlt : k < s.size
    · go_wp2_with (go_at_call 21; refine (inner_any _ _).mono ?_; rintro e w' ⟨rfl, rfl⟩)
      · have hd : innerB s[k] = true := by assumption
        go_round
        case rel => exact ⟨k + 1, by omega, by go_num, by rw [take_snoc s k hlt, List.all_append, H.out]; simp [hd]⟩
        case measure => simp [intOf]; omega
      · have hd : innerB s[k] = false := by assumption
        go_ret
        exact ⟨ret_int (by rw [spanL_stop _ _ k H.out (by simpa using hlt) hd]), rfl⟩
    · go_wp2
      go_ret
      have hk2 : s.data.toList.take k = s.data.toList := List.take_of_length_le (by simp; omega)
      exact ⟨ret_int (by rw [spanL_all _ _ (by rw [← hk2]; exact H.out)]; simp; omega), rfl⟩

end Go.Proofs.Ytkikljdpmklmhaa

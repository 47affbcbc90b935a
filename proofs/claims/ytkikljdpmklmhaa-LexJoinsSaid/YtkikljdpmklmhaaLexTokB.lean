/- The contract of the scanner's token. -/
import Derived.Test.YtkikljdpmklmhaaLexTok
namespace Go.Proofs.Ytkikljdpmklmhaa
open Go.RowKit
open Lx

theorem token_long (s : ByteArray) (w : World) (h0 : 0 < s.size) (hs : s.size ≤ maxLen) (hw : (lowerB s[0] || upperB s[0]) = true) (hl : 16 < spanL innerB s.data.toList) : Calls Try.prog 15 #[.string s] w fun e w' => e = .returned (.tuple #[.int .i64 0, .int .i64 0]) ∧ w = w' := by
  have hle : spanL innerB s.data.toList ≤ s.size := by simpa using spanL_le innerB s.data.toList
  have hs' := hs
  unfold maxLen at hs
  cases h1 : lowerB s[0]
  all_goals
    simp only [h1, Bool.false_or, Bool.true_or] at hw
    go_enter Try.func15, Try.ntmps15
    go_wp2_with (first | (go_at_call 18; refine (lower_any _ _).mono ?_; rintro e w' ⟨rfl, rfl⟩) | (go_at_call 19; refine (upper_any _ _).mono ?_; rintro e w' ⟨rfl, rfl⟩) | (go_at_call 20; refine (span_inner _ _ hs').mono ?_; rintro e w' ⟨rfl, rfl⟩))
    go_ret2
    exact ⟨rfl, rfl⟩

theorem token_word (s : ByteArray) (w : World) (h0 : 0 < s.size) (hs : s.size ≤ maxLen) (hw : (lowerB s[0] || upperB s[0]) = true) (hl : spanL innerB s.data.toList ≤ 16) (hp : 0 < spanL innerB s.data.toList) : Calls Try.prog 15 #[.string s] w fun e w' => e = .returned (.tuple #[.int .i64 (kindL (s.data.toList.take (spanL innerB s.data.toList))), .int .i64 (spanL innerB s.data.toList)]) ∧ w = w' := by
  have hle : spanL innerB s.data.toList ≤ s.size := by simpa using spanL_le innerB s.data.toList
  have hs' := hs
  have hk' : 0 < (s.extract 0 (spanL innerB s.data.toList)).size := by simp; omega
  unfold maxLen at hs
  cases h1 : lowerB s[0]
  all_goals
    simp only [h1, Bool.false_or, Bool.true_or] at hw
    go_enter Try.func15, Try.ntmps15
    go_wp2_with (first | (go_at_call 18; refine (lower_any _ _).mono ?_; rintro e w' ⟨rfl, rfl⟩) | (go_at_call 19; refine (upper_any _ _).mono ?_; rintro e w' ⟨rfl, rfl⟩) | (go_at_call 20; refine (span_inner _ _ hs').mono ?_; rintro e w' ⟨rfl, rfl⟩) | (go_at_call 22; refine (kind_any _ _ hk').mono ?_; rintro e w' ⟨rfl, rfl⟩))
    go_ret2
    exact ⟨rfl, rfl⟩

theorem token_num (s : ByteArray) (w : World) (h0 : 0 < s.size) (hs : s.size ≤ maxLen) (h1 : lowerB s[0] = false) (h2 : upperB s[0] = false) (h3 : digitB s[0] = true) : Calls Try.prog 15 #[.string s] w fun e w' => e = .returned (.tuple #[.int .i64 4, .int .i64 (numberL s.data.toList)]) ∧ w = w' := by
  have hs' := hs
  unfold maxLen at hs
  go_enter Try.func15, Try.ntmps15
  go_wp2_with (first | (go_at_call 18; refine (lower_any _ _).mono ?_; rintro e w' ⟨rfl, rfl⟩) | (go_at_call 19; refine (upper_any _ _).mono ?_; rintro e w' ⟨rfl, rfl⟩) | (go_at_call 23; refine (digit_any _ _).mono ?_; rintro e w' ⟨rfl, rfl⟩) | (go_at_call 24; refine (number_any _ _ hs').mono ?_; rintro e w' ⟨rfl, rfl⟩))
  go_ret2
  exact ⟨rfl, rfl⟩

theorem token_meta (s : ByteArray) (w : World) (h0 : 0 < s.size) (hs : s.size ≤ maxLen) (h1 : lowerB s[0] = false) (h2 : upperB s[0] = false) (h3 : digitB s[0] = false) (h4 : ((s[0].toNat : Int) == 63) = true) (k : Nat) (hk : numberL (s.extract 1 s.size).data.toList = k) : Calls Try.prog 15 #[.string s] w fun e w' => e = .returned (.tuple #[.int .i64 (if k = 0 then 0 else 5), .int .i64 (if k = 0 then 0 else k + 1)]) ∧ w = w' := by
  have hn' : (s.extract 1 s.size).size ≤ maxLen := by simp; omega
  have hm : numberL (s.extract 1 s.size).data.toList + 1 ≤ s.size := by
    have h7 := numberL_le (s.extract 1 s.size).data.toList
    have h8 : (s.extract 1 s.size).data.toList.length = s.size - 1 := by simp
    omega
  rw [hk] at hm
  have H := Lib.hid hk; clear hk
  unfold maxLen at hs
  by_cases hz : k = 0
  · subst hz
    go_enter Try.func15, Try.ntmps15
    go_wp2_with (first | (go_at_call 18; refine (lower_any _ _).mono ?_; rintro e w' ⟨rfl, rfl⟩) | (go_at_call 19; refine (upper_any _ _).mono ?_; rintro e w' ⟨rfl, rfl⟩) | (go_at_call 23; refine (digit_any _ _).mono ?_; rintro e w' ⟨rfl, rfl⟩) | (go_at_call 24; refine (number_any _ _ hn').mono ?_; rw [H.out]; rintro e w' ⟨rfl, rfl⟩))
    go_ret2
    exact ⟨rfl, rfl⟩
  · have hz' : ((k : Int) == 0) = false := by simp; omega
    rw [if_neg hz, if_neg hz]
    go_enter Try.func15, Try.ntmps15
    go_wp2_with (first | (go_at_call 18; refine (lower_any _ _).mono ?_; rintro e w' ⟨rfl, rfl⟩) | (go_at_call 19; refine (upper_any _ _).mono ?_; rintro e w' ⟨rfl, rfl⟩) | (go_at_call 23; refine (digit_any _ _).mono ?_; rintro e w' ⟨rfl, rfl⟩) | (go_at_call 24; refine (number_any _ _ hn').mono ?_; rw [H.out]; rintro e w' ⟨rfl, rfl⟩))
    go_ret2
    exact ⟨rfl, rfl⟩

end Go.Proofs.Ytkikljdpmklmhaa

/- Contracts of the scanner's functions on texts. -/
import Derived.Test.YtkikljdpmklmhaaLexLeaf
namespace Go.Proofs.Ytkikljdpmklmhaa
open Go.RowKit
open Lx

theorem head_at (s : ByteArray) (h0 : 0 < s.size) : s.data.toList.headD 0 = s[0] := by
  rcases s with ⟨⟨l⟩⟩
  cases l with
  | nil => exact absurd h0 (by decide)
  | cons a l => rfl

theorem kindL_key {s : ByteArray} {k : List UInt8} (h : (s.toList == k) = true) (hk : keys.contains k = true) : kindL s.data.toList = 3 := by
  rw [ByteArray.toList_eq] at h
  rw [eq_of_beq h, kindL, if_pos hk]

theorem kindL_word {s : ByteArray} (h1 : (s.toList == [100, 97, 116, 97]) = false) (h2 : (s.toList == [108, 101, 116]) = false) (h3 : (s.toList == [105, 110]) = false)
    (h4 : (s.toList == [99, 97, 115, 101]) = false) (h5 : (s.toList == [111, 102]) = false) (h6 : (s.toList == [102, 111, 114, 97, 108, 108]) = false) (h0 : 0 < s.size) :
    kindL s.data.toList = if upperB s[0] then 2 else 1 := by
  rw [ByteArray.toList_eq] at *
  have hk : keys.contains s.data.toList = false := by
    simp only [keys, List.contains_cons, h1, h2, h3, h4, h5, h6]; rfl
  rw [kindL, if_neg (by rw [hk]; decide), head_at s h0]

theorem kind_any (s : ByteArray) (w : World) (h0 : 0 < s.size) : Calls Try.prog 22 #[.string s] w fun e w' => e = .returned (.int .i64 (kindL s.data.toList)) ∧ w = w' := by
  go_enter Try.func22, Try.ntmps22
  go_wp2_with (go_at_call 19; refine (upper_any _ _).mono ?_; rintro e w' ⟨rfl, rfl⟩)
  all_goals
    go_ret
    first
      | (exfalso; simp_all; done)
      | exact ⟨ret_int (by rw [kindL_key ‹(s.toList == _) = true› (by decide)]; rfl), rfl⟩
      | (rename_i hu; exact ⟨ret_int (by rw [kindL_word ‹_› ‹_› ‹_› ‹_› ‹_› ‹_› h0, hu]; rfl), rfl⟩)

theorem number_any (s : ByteArray) (w : World) (hs : s.size ≤ maxLen) : Calls Try.prog 24 #[.string s] w fun e w' => e = .returned (.int .i64 (numberL s.data.toList)) ∧ w = w' := by
  have hle := spanL_le digitB s.data.toList
  have hle2 : spanL digitB s.data.toList ≤ s.size := by simpa using hle
  unfold maxLen at hs
  go_enter Try.func24, Try.ntmps24
  go_wp2_with (go_at_call 20; refine (span_digit _ _ (by unfold maxLen; omega)).mono ?_; rintro e w' ⟨rfl, rfl⟩)
  all_goals
    go_ret
    refine ⟨ret_int ?_, rfl⟩
    unfold numberL
    first
      | (rw [head_at s (by omega)]; simp only [byte_dec s[0] 48 48 rfl] at *; by_cases h48 : s[0] = 48 <;> simp only [h48, decide_true, decide_false, and_true, and_false, or_true, or_false, reduceCtorEq] at * <;> split <;> omega)
      | (split <;> omega)

end Go.Proofs.Ytkikljdpmklmhaa

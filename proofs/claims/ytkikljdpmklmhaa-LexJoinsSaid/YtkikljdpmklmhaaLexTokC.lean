/- HasPrefix and IndexByte as the scanner calls them; the contract of the scanner's token, whole. -/
import Derived.Test.YtkikljdpmklmhaaLexTokB
import Derived.Lib.Strings
import Derived.Lib.Slices
import Derived.Lib.Walk
import Derived.Lib.Bytealg
namespace Go.Proofs.Ytkikljdpmklmhaa
open Go.RowKit
open Lx

theorem prefix_any (s p : ByteArray) (w : World) : Calls Try.prog 25 #[.string s, .string p] w fun e w' => e = .returned (.bool (p.data.toList.isPrefixOf s.data.toList)) ∧ w = w' := by
  show Calls _ _ _ _ fun e w' => e = .returned (.bool (Lib.hasPrefix s.data.toList p.data.toList)) ∧ w = w'
  rw [← Lib.hasPrefix_of_take, ← Lib.size_eq, ← Lib.size_eq]
  go_enter Try.func25, Try.ntmps25
  go_wp2
  · rename_i h
    go_ret
    refine ⟨?_, rfl⟩
    show Ending.returned (Value.bool ((s.extract 0 p.size).toList == p.toList)) = _
    rw [Lib.extract_toList, Lib.toList_data]
    simp [h]
  · rename_i h
    go_ret
    refine ⟨?_, rfl⟩
    show Ending.returned (Value.bool false) = _
    simp [h]

set_option maxRecDepth 100000 in
theorem indexByte_any (s : ByteArray) (c : Int) (w : World) :
    Calls Try.prog 26 #[.string s, .int .u8 c] w fun e w' => e = .returned (.int .i64 (Lib.indexByte s.data.toList c.toNat.toUInt8)) ∧ w = w' := by
  go_enter Try.func26, Try.ntmps26
  go_wp2
  rw [run_callFunc_extern Try.func32 (by kernel_rfl) (by kernel_rfl) (by kernel_rfl) (e := Extern.BytealgIndexByte.indexByte) (by kernel_rfl), Lib.run_indexByteString]
  simp only [Result.andThen]
  rw [Oper.upon_value]
  go_wp2
  go_ret
  exact ⟨rfl, rfl⟩

theorem indexByte_has (l : List UInt8) (c : UInt8) : decide (0 ≤ Lib.indexByte l c) = l.contains c := by
  induction l with
  | nil => rfl
  | cons b l ih =>
    have hg := Lib.indexByte_ge l c
    unfold Lib.indexByte
    by_cases hb : b = c
    · subst hb; simp
    · have hb' : (b == c) = false := by simpa using hb
      have hc' : (c == b) = false := by simpa using fun h => hb h.symm
      rw [hb', List.contains_cons, hc', ← ih]
      simp only [Bool.false_or, Bool.false_eq_true, if_false]
      by_cases h1 : Lib.indexByte l c = -1
      · simp [h1]
      · have h1' : (Lib.indexByte l c == -1) = false := by simpa using h1
        rw [h1']; simp only [Bool.false_eq_true, if_false, decide_eq_decide]; omega

def signB (c : UInt8) : Bool := signs.contains c

theorem sign_yes (c : UInt8) (w : World) (h : signB c = true) : Calls Try.prog 26 #[.string ⟨#[92, 58, 61, 59, 123, 125, 40, 41, 46, 126, 64, 60, 62, 44, 91, 93, 33]⟩, .int .u8 c.toNat] w fun e w' => ∃ n : Nat, e = .returned (.int .i64 n) ∧ w = w' := by
  refine (indexByte_any _ _ _).mono ?_
  rintro e w' ⟨rfl, rfl⟩
  have h2 := (indexByte_has signs c).trans h
  simp only [decide_eq_true_eq] at h2
  obtain ⟨n, hn⟩ := Int.eq_ofNat_of_zero_le h2
  refine ⟨n, ret_int ?_, rfl⟩
  rw [← hn]; simp [signs]

theorem sign_no (c : UInt8) (w : World) (h : signB c = false) : Calls Try.prog 26 #[.string ⟨#[92, 58, 61, 59, 123, 125, 40, 41, 46, 126, 64, 60, 62, 44, 91, 93, 33]⟩, .int .u8 c.toNat] w fun e w' => e = .returned (.int .i64 (-1)) ∧ w = w' := by
  refine (indexByte_any _ _ _).mono ?_
  rintro e w' ⟨rfl, rfl⟩
  have h2 := (indexByte_has signs c).trans h
  simp only [decide_eq_false_iff_not] at h2
  have h3 := Lib.indexByte_ge signs c
  refine ⟨ret_int ?_, rfl⟩
  have : Lib.indexByte signs c = -1 := by omega
  rw [← this]; simp [signs]

theorem token_arrow (s : ByteArray) (w : World) (h0 : 0 < s.size) (h1 : lowerB s[0] = false) (h2 : upperB s[0] = false) (h3 : digitB s[0] = false) (h4 : ((s[0].toNat : Int) == 63) = false) (p : Bool) (hp : ([45, 62] : List UInt8).isPrefixOf s.data.toList = p) (q : Bool) (hq : ([124, 62] : List UInt8).isPrefixOf s.data.toList = q) (hpq : (p || q) = true) : Calls Try.prog 15 #[.string s] w fun e w' => e = .returned (.tuple #[.int .i64 6, .int .i64 2]) ∧ w = w' := by
  have P := Lib.hid hp; clear hp
  have Q := Lib.hid hq; clear hq
  cases p
  all_goals
    simp only [Bool.false_or, Bool.true_or] at hpq
    go_enter Try.func15, Try.ntmps15
    go_wp2_with (first | (go_at_call 18; refine (lower_any _ _).mono ?_; rintro e w' ⟨rfl, rfl⟩) | (go_at_call 19; refine (upper_any _ _).mono ?_; rintro e w' ⟨rfl, rfl⟩) | (go_at_call 23; refine (digit_any _ _).mono ?_; rintro e w' ⟨rfl, rfl⟩) | (go_at_call 25; refine (prefix_any _ _ _).mono ?_; (first | rw [P.out] | rw [Q.out]); rintro e w' ⟨rfl, rfl⟩))
    go_ret2
    exact ⟨rfl, rfl⟩

theorem token_sign (s : ByteArray) (w : World) (h0 : 0 < s.size) (h1 : lowerB s[0] = false) (h2 : upperB s[0] = false) (h3 : digitB s[0] = false) (h4 : ((s[0].toNat : Int) == 63) = false) (hp : ([45, 62] : List UInt8).isPrefixOf s.data.toList = false) (hq : ([124, 62] : List UInt8).isPrefixOf s.data.toList = false) (b : Bool) (hb : signB s[0] = b) : Calls Try.prog 15 #[.string s] w fun e w' => e = .returned (.tuple #[.int .i64 (if b then 6 else 0), .int .i64 (if b then 1 else 0)]) ∧ w = w' := by
  have P := Lib.hid hp; clear hp
  have Q := Lib.hid hq; clear hq
  have B := Lib.hid hb; clear hb
  cases b
  · go_enter Try.func15, Try.ntmps15
    go_wp2_with (first | (go_at_call 18; refine (lower_any _ _).mono ?_; rintro e w' ⟨rfl, rfl⟩) | (go_at_call 19; refine (upper_any _ _).mono ?_; rintro e w' ⟨rfl, rfl⟩) | (go_at_call 23; refine (digit_any _ _).mono ?_; rintro e w' ⟨rfl, rfl⟩) | (go_at_call 25; refine (prefix_any _ _ _).mono ?_; (first | rw [P.out] | rw [Q.out]); rintro e w' ⟨rfl, rfl⟩) | (go_at_call 26; refine (sign_no _ _ B.out).mono ?_; rintro e w' ⟨rfl, rfl⟩))
    go_ret2
    exact ⟨rfl, rfl⟩
  · go_enter Try.func15, Try.ntmps15
    go_wp2_with (first | (go_at_call 18; refine (lower_any _ _).mono ?_; rintro e w' ⟨rfl, rfl⟩) | (go_at_call 19; refine (upper_any _ _).mono ?_; rintro e w' ⟨rfl, rfl⟩) | (go_at_call 23; refine (digit_any _ _).mono ?_; rintro e w' ⟨rfl, rfl⟩) | (go_at_call 25; refine (prefix_any _ _ _).mono ?_; (first | rw [P.out] | rw [Q.out]); rintro e w' ⟨rfl, rfl⟩) | (go_at_call 26; refine (sign_yes _ _ B.out).mono ?_; rintro e w' ⟨n, rfl, rfl⟩))
    go_ret2
    exact ⟨rfl, rfl⟩

theorem tokenL_head (s : ByteArray) (h0 : 0 < s.size) : tokenL s.data.toList =
  if lowerB s[0] || upperB s[0] then
    if 16 < spanL innerB s.data.toList then (0, 0) else (kindL (s.data.toList.take (spanL innerB s.data.toList)), spanL innerB s.data.toList)
  else if digitB s[0] then (4, numberL s.data.toList)
  else if s[0] = 63 then (if numberL (s.data.toList.drop 1) = 0 then (0, 0) else (5, numberL (s.data.toList.drop 1) + 1))
  else if [45, 62].isPrefixOf s.data.toList || [124, 62].isPrefixOf s.data.toList then (6, 2)
  else if signB s[0] then (6, 1)
  else (0, 0) := by rw [tokenL, head_at s h0]; rfl

theorem token_any (s : ByteArray) (w : World) (h0 : 0 < s.size) (hs : s.size ≤ maxLen) : Calls Try.prog 15 #[.string s] w fun e w' => e = .returned (.tuple #[.int .i64 (tokenL s.data.toList).1, .int .i64 (tokenL s.data.toList).2]) ∧ w = w' := by
  rw [tokenL_head s h0]
  by_cases c1 : (lowerB s[0] || upperB s[0]) = true
  · rw [if_pos c1]
    by_cases c2 : 16 < spanL innerB s.data.toList
    · rw [if_pos c2]; exact token_long s w h0 hs c1 c2
    · rw [if_neg c2]
      refine token_word s w h0 hs c1 (by omega) ?_
      rcases s with ⟨⟨l⟩⟩
      cases l with
      | nil => exact absurd h0 (by decide)
      | cons a l =>
        have ha : (lowerB a || upperB a) = true := c1
        have hi : innerB a = true := by unfold innerB; rw [ha]; rfl
        simp [spanL, hi]
  · have c1' : lowerB s[0] = false ∧ upperB s[0] = false := by simpa using c1
    rw [if_neg c1]
    by_cases c3 : digitB s[0] = true
    · rw [if_pos c3]; exact token_num s w h0 hs c1'.1 c1'.2 c3
    · rw [if_neg c3]
      have c3' : digitB s[0] = false := by simpa using c3
      by_cases c4 : s[0] = 63
      · rw [if_pos c4]
        have c4' : ((s[0].toNat : Int) == 63) = true := by rw [c4]; rfl
        have e : (s.extract 1 s.size).data.toList = s.data.toList.drop 1 := by simp; exact List.take_of_length_le (by simp)
        have := token_meta s w h0 hs c1'.1 c1'.2 c3' c4' _ rfl
        rw [e] at this
        by_cases c5 : numberL (s.data.toList.drop 1) = 0
        · rw [if_pos c5, if_pos c5] at this; rw [if_pos c5]; exact this
        · rw [if_neg c5, if_neg c5] at this; rw [if_neg c5]; exact this
      · rw [if_neg c4]
        have c4' : ((s[0].toNat : Int) == 63) = false := by rw [byte_dec _ 63 63 rfl]; simpa using c4
        by_cases c6 : (([45, 62] : List UInt8).isPrefixOf s.data.toList || ([124, 62] : List UInt8).isPrefixOf s.data.toList) = true
        · rw [if_pos c6]; exact token_arrow s w h0 c1'.1 c1'.2 c3' c4' _ rfl _ rfl c6
        · rw [if_neg c6]
          have c6' : ([45, 62] : List UInt8).isPrefixOf s.data.toList = false ∧ ([124, 62] : List UInt8).isPrefixOf s.data.toList = false := by simpa only [Bool.or_eq_true, not_or, Bool.not_eq_true] using c6
          have := token_sign s w h0 c1'.1 c1'.2 c3' c4' c6'.1 c6'.2 _ rfl
          cases hb : signB s[0]
          · rw [hb] at this; exact this
          · rw [hb] at this; exact this

end Go.Proofs.Ytkikljdpmklmhaa

/- Texts laid together: LexLeaf, LexTok, LexTokB. -/
import Derived.Test.YtofllmemmggapaaGreatDoorRows
import Derived.Test.YtofllmemmggapaaGreatDoorP01
import Derived.WalkKit
import Derived.WalkLawsBesides
import Derived.WalkSpells
import Derived.Lib.Hide

/- Contracts of the scanner's functions on bytes: each returns what the plain function says and leaves the world as it was. -/
namespace Go.Proofs.YtofllmemmggapaaGreatDoor
open Go.RowKit
open Lx

theorem ret_bool {a b : Bool} (h : a = b) : Ending.returned (.bool a) = .returned (.bool b) := by rw [h]
theorem ret_int {k : IntKind} {a b : Int} (h : a = b) : Ending.returned (.int k a) = .returned (.int k b) := by rw [h]

theorem byte_is {c : UInt8} {n : Int} (k : UInt8) (h : ((c.toNat : Int) == n) = true) (hk : (k.toNat : Int) = n) : c = k := by
  have h' : (c.toNat : Int) = n := by simpa using h
  apply UInt8.toNat_inj.1; omega
theorem byte_not {c : UInt8} {n : Int} (k : UInt8) (h : ((c.toNat : Int) == n) = false) (hk : (k.toNat : Int) = n) : c ≠ k := by
  intro e; subst e; simp [hk] at h

theorem byte_dec (c : UInt8) (n : Int) (k : UInt8) (hk : (k.toNat : Int) = n) : ((c.toNat : Int) == n) = decide (c = k) := by
  rw [Bool.eq_iff_iff]; simp only [beq_iff_eq, decide_eq_true_eq]
  exact ⟨fun h => UInt8.toNat_inj.1 (by omega), fun h => by subst h; exact hk⟩

theorem lower_any (c : UInt8) (w : World) : Calls Tryz.prog 92 #[.int .u8 c.toNat] w fun e w' => e = .returned (.bool (lowerB c)) ∧ w = w' := by
  go_enter Tryz.func92, Tryz.ntmps92
  go_wp2
  all_goals
    go_ret
    exact ⟨ret_bool (by unfold lowerB; first | (rw [decide_eq_decide]; omega) | (symm; rw [decide_eq_false_iff_not]; omega)), rfl⟩

theorem upper_any (c : UInt8) (w : World) : Calls Tryz.prog 93 #[.int .u8 c.toNat] w fun e w' => e = .returned (.bool (upperB c)) ∧ w = w' := by
  go_enter Tryz.func93, Tryz.ntmps93
  go_wp2
  all_goals
    go_ret
    exact ⟨ret_bool (by unfold upperB; first | (rw [decide_eq_decide]; omega) | (symm; rw [decide_eq_false_iff_not]; omega)), rfl⟩

theorem digit_any (c : UInt8) (w : World) : Calls Tryz.prog 97 #[.int .u8 c.toNat] w fun e w' => e = .returned (.bool (digitB c)) ∧ w = w' := by
  go_enter Tryz.func97, Tryz.ntmps97
  go_wp2
  all_goals
    go_ret
    exact ⟨ret_bool (by unfold digitB; first | (rw [decide_eq_decide]; omega) | (symm; rw [decide_eq_false_iff_not]; omega)), rfl⟩

theorem inner_any (c : UInt8) (w : World) : Calls Tryz.prog 95 #[.int .u8 c.toNat] w fun e w' => e = .returned (.bool (innerB c)) ∧ w = w' := by
  go_enter Tryz.func95, Tryz.ntmps95
  go_wp2_with (first | (go_at_call 92; refine (lower_any _ _).mono ?_; rintro e w' ⟨rfl, rfl⟩) | (go_at_call 93; refine (upper_any _ _).mono ?_; rintro e w' ⟨rfl, rfl⟩) | (go_at_call 97; refine (digit_any _ _).mono ?_; rintro e w' ⟨rfl, rfl⟩))
  all_goals
    go_ret
    exact ⟨ret_bool (by unfold innerB; simp [*]; try (rw [Bool.eq_iff_iff]; simp; omega)), rfl⟩

theorem take_snoc (s : ByteArray) (k : Nat) (h : k < s.size) : s.data.toList.take (k + 1) = s.data.toList.take k ++ [s[k]] := by
  rw [List.take_succ_eq_append_getElem (by simpa using h)]; rfl

set_option maxHeartbeats 400000 in
theorem span_digit (s : ByteArray) (w : World) (hs : s.size ≤ maxLen) :
    Calls Tryz.prog 94 #[.string s, .func (.func 97) #[] #[]] w fun e w' => e = .returned (.int .i64 (spanL digitB s.data.toList)) ∧ w = w' := by
  unfold maxLen at hs
  go_enter Tryz.func94, Tryz.ntmps94
  go_wp2
  go_loop [5] (fun i => ∃ k : Nat, k ≤ s.size ∧ i = .int .i64 k ∧ (s.data.toList.take k).all digitB = true) (fun i => s.size - (intOf i).toNat)
  case atStart => exact ⟨0, Nat.zero_le _, rfl, by simp⟩
  case round =>
    obtain ⟨k, hk, rfl, hall⟩ := hrel
    have H := Lib.hid hall; clear hall
    by_cases hlt : k < s.size
    · go_wp2_with (go_at_call 97; refine (digit_any _ _).mono ?_; rintro e w' ⟨rfl, rfl⟩)
      · have hd : digitB s[k] = true := by assumption
        go_round
        case rel => exact ⟨k + 1, by omega, by go_num, by rw [take_snoc s k hlt, List.all_append, H.out]; simp [hd]⟩
        case measure => simp [intOf]; omega
      · have hd : digitB s[k] = false := by assumption
        go_ret
        exact ⟨ret_int (by rw [spanL_stop _ _ k H.out (by simpa using hlt) hd]), rfl⟩
    · go_wp2
      go_ret
      have hk2 : s.data.toList.take k = s.data.toList := List.take_of_length_le (by simp; omega)
      exact ⟨ret_int (by rw [spanL_all _ _ (by rw [← hk2]; exact H.out)]; simp; omega), rfl⟩

set_option maxHeartbeats 400000 in
theorem span_inner (s : ByteArray) (w : World) (hs : s.size ≤ maxLen) :
    Calls Tryz.prog 94 #[.string s, .func (.func 95) #[] #[]] w fun e w' => e = .returned (.int .i64 (spanL innerB s.data.toList)) ∧ w = w' := by
  unfold maxLen at hs
  go_enter Tryz.func94, Tryz.ntmps94
  go_wp2
  go_loop [5] (fun i => ∃ k : Nat, k ≤ s.size ∧ i = .int .i64 k ∧ (s.data.toList.take k).all innerB = true) (fun i => s.size - (intOf i).toNat)
  case atStart => exact ⟨0, Nat.zero_le _, rfl, by simp⟩
  case round =>
    obtain ⟨k, hk, rfl, hall⟩ := hrel
    have H := Lib.hid hall; clear hall
    by_cases hlt : k < s.size
    · go_wp2_with (go_at_call 95; refine (inner_any _ _).mono ?_; rintro e w' ⟨rfl, rfl⟩)
      · have hd : innerB s[k] = true := by assumption
        go_round
        case rel => exact ⟨k + 1, by omega, by go_num, by rw [take_snoc s k hlt, List.all_append, H.out]; simp [hd]⟩
        case measure => simp [intOf]; omega
      · have hd : innerB s[k] = false := by assumption
        go_ret
        exact ⟨ret_int (by rw [spanL_stop _ _ k H.out (by simpa using hlt) hd]), rfl⟩
    · go_wp2
      go_ret
      have hk2 : s.data.toList.take k = s.data.toList := List.take_of_length_le (by simp; omega)
      exact ⟨ret_int (by rw [spanL_all _ _ (by rw [← hk2]; exact H.out)]; simp; omega), rfl⟩

end Go.Proofs.YtofllmemmggapaaGreatDoor

/- Contracts of the scanner's functions on texts. -/
namespace Go.Proofs.YtofllmemmggapaaGreatDoor
open Go.RowKit
open Lx

theorem head_at (s : ByteArray) (h0 : 0 < s.size) : s.data.toList.headD 0 = s[0] := by
  rcases s with ⟨⟨l⟩⟩
  cases l with
  | nil => exact absurd h0 (by decide)
  | cons a l => rfl

theorem kindL_key {s : ByteArray} {k : List UInt8} (h : (s.toList == k) = true) (hk : keys.contains k = true) : kindL s.data.toList = 3 := by
  rw [ByteArray.toList_eq] at h
  rw [eq_of_beq h, kindL, if_pos hk]

theorem kindL_word {s : ByteArray} (h1 : (s.toList == [100, 97, 116, 97]) = false) (h2 : (s.toList == [108, 101, 116]) = false) (h3 : (s.toList == [105, 110]) = false)
    (h4 : (s.toList == [99, 97, 115, 101]) = false) (h5 : (s.toList == [111, 102]) = false) (h6 : (s.toList == [102, 111, 114, 97, 108, 108]) = false) (h0 : 0 < s.size) :
    kindL s.data.toList = if upperB s[0] then 2 else 1 := by
  rw [ByteArray.toList_eq] at *
  have hk : keys.contains s.data.toList = false := by
    simp only [keys, List.contains_cons, h1, h2, h3, h4, h5, h6]; rfl
  rw [kindL, if_neg (by rw [hk]; decide), head_at s h0]

theorem kind_any (s : ByteArray) (w : World) (h0 : 0 < s.size) : Calls Tryz.prog 96 #[.string s] w fun e w' => e = .returned (.int .i64 (kindL s.data.toList)) ∧ w = w' := by
  go_enter Tryz.func96, Tryz.ntmps96
  go_wp2_with (go_at_call 93; refine (upper_any _ _).mono ?_; rintro e w' ⟨rfl, rfl⟩)
  all_goals
    go_ret
    first
      | (exfalso; simp_all; done)
      | exact ⟨ret_int (by rw [kindL_key ‹(s.toList == _) = true› (by decide)]; rfl), rfl⟩
      | (rename_i hu; exact ⟨ret_int (by rw [kindL_word ‹_› ‹_› ‹_› ‹_› ‹_› ‹_› h0, hu]; rfl), rfl⟩)

theorem number_any (s : ByteArray) (w : World) (hs : s.size ≤ maxLen) : Calls Tryz.prog 98 #[.string s] w fun e w' => e = .returned (.int .i64 (numberL s.data.toList)) ∧ w = w' := by
  have hle := spanL_le digitB s.data.toList
  have hle2 : spanL digitB s.data.toList ≤ s.size := by simpa using hle
  unfold maxLen at hs
  go_enter Tryz.func98, Tryz.ntmps98
  go_wp2_with (go_at_call 94; refine (span_digit _ _ (by unfold maxLen; omega)).mono ?_; rintro e w' ⟨rfl, rfl⟩)
  all_goals
    go_ret
    refine ⟨ret_int ?_, rfl⟩
    unfold numberL
    first
      | (rw [head_at s (by omega)]; simp only [byte_dec s[0] 48 48 rfl] at *; by_cases h48 : s[0] = 48 <;> simp only [h48, decide_true, decide_false, and_true, and_false, or_true, or_false, reduceCtorEq] at * <;> split <;> omega)
      | (split <;> omega)

end Go.Proofs.YtofllmemmggapaaGreatDoor

/- The contract of the scanner's token. -/
namespace Go.Proofs.YtofllmemmggapaaGreatDoor
open Go.RowKit
open Lx

theorem token_long (s : ByteArray) (w : World) (h0 : 0 < s.size) (hs : s.size ≤ maxLen) (hw : (lowerB s[0] || upperB s[0]) = true) (hl : 16 < spanL innerB s.data.toList) : Calls Tryz.prog 74 #[.string s] w fun e w' => e = .returned (.tuple #[.int .i64 0, .int .i64 0]) ∧ w = w' := by
  have hle : spanL innerB s.data.toList ≤ s.size := by simpa using spanL_le innerB s.data.toList
  have hs' := hs
  unfold maxLen at hs
  cases h1 : lowerB s[0]
  all_goals
    simp only [h1, Bool.false_or, Bool.true_or] at hw
    go_enter Tryz.func74, Tryz.ntmps74
    go_wp2_with (first | (go_at_call 92; refine (lower_any _ _).mono ?_; rintro e w' ⟨rfl, rfl⟩) | (go_at_call 93; refine (upper_any _ _).mono ?_; rintro e w' ⟨rfl, rfl⟩) | (go_at_call 94; refine (span_inner _ _ hs').mono ?_; rintro e w' ⟨rfl, rfl⟩))
    go_ret2
    exact ⟨rfl, rfl⟩

theorem token_word (s : ByteArray) (w : World) (h0 : 0 < s.size) (hs : s.size ≤ maxLen) (hw : (lowerB s[0] || upperB s[0]) = true) (hl : spanL innerB s.data.toList ≤ 16) (hp : 0 < spanL innerB s.data.toList) : Calls Tryz.prog 74 #[.string s] w fun e w' => e = .returned (.tuple #[.int .i64 (kindL (s.data.toList.take (spanL innerB s.data.toList))), .int .i64 (spanL innerB s.data.toList)]) ∧ w = w' := by
  have hle : spanL innerB s.data.toList ≤ s.size := by simpa using spanL_le innerB s.data.toList
  have hs' := hs
  have hk' : 0 < (s.extract 0 (spanL innerB s.data.toList)).size := by simp; omega
  unfold maxLen at hs
  cases h1 : lowerB s[0]
  all_goals
    simp only [h1, Bool.false_or, Bool.true_or] at hw
    go_enter Tryz.func74, Tryz.ntmps74
    go_wp2_with (first | (go_at_call 92; refine (lower_any _ _).mono ?_; rintro e w' ⟨rfl, rfl⟩) | (go_at_call 93; refine (upper_any _ _).mono ?_; rintro e w' ⟨rfl, rfl⟩) | (go_at_call 94; refine (span_inner _ _ hs').mono ?_; rintro e w' ⟨rfl, rfl⟩) | (go_at_call 96; refine (kind_any _ _ hk').mono ?_; rintro e w' ⟨rfl, rfl⟩))
    go_ret2
    exact ⟨rfl, rfl⟩

theorem token_num (s : ByteArray) (w : World) (h0 : 0 < s.size) (hs : s.size ≤ maxLen) (h1 : lowerB s[0] = false) (h2 : upperB s[0] = false) (h3 : digitB s[0] = true) : Calls Tryz.prog 74 #[.string s] w fun e w' => e = .returned (.tuple #[.int .i64 4, .int .i64 (numberL s.data.toList)]) ∧ w = w' := by
  have hs' := hs
  unfold maxLen at hs
  go_enter Tryz.func74, Tryz.ntmps74
  go_wp2_with (first | (go_at_call 92; refine (lower_any _ _).mono ?_; rintro e w' ⟨rfl, rfl⟩) | (go_at_call 93; refine (upper_any _ _).mono ?_; rintro e w' ⟨rfl, rfl⟩) | (go_at_call 97; refine (digit_any _ _).mono ?_; rintro e w' ⟨rfl, rfl⟩) | (go_at_call 98; refine (number_any _ _ hs').mono ?_; rintro e w' ⟨rfl, rfl⟩))
  go_ret2
  exact ⟨rfl, rfl⟩

theorem token_meta (s : ByteArray) (w : World) (h0 : 0 < s.size) (hs : s.size ≤ maxLen) (h1 : lowerB s[0] = false) (h2 : upperB s[0] = false) (h3 : digitB s[0] = false) (h4 : ((s[0].toNat : Int) == 63) = true) (k : Nat) (hk : numberL (s.extract 1 s.size).data.toList = k) : Calls Tryz.prog 74 #[.string s] w fun e w' => e = .returned (.tuple #[.int .i64 (if k = 0 then 0 else 5), .int .i64 (if k = 0 then 0 else k + 1)]) ∧ w = w' := by
  have hn' : (s.extract 1 s.size).size ≤ maxLen := by simp; omega
  have hm : numberL (s.extract 1 s.size).data.toList + 1 ≤ s.size := by
    have h7 := numberL_le (s.extract 1 s.size).data.toList
    have h8 : (s.extract 1 s.size).data.toList.length = s.size - 1 := by simp
    omega
  rw [hk] at hm
  have H := Lib.hid hk; clear hk
  unfold maxLen at hs
  by_cases hz : k = 0
  · subst hz
    go_enter Tryz.func74, Tryz.ntmps74
    go_wp2_with (first | (go_at_call 92; refine (lower_any _ _).mono ?_; rintro e w' ⟨rfl, rfl⟩) | (go_at_call 93; refine (upper_any _ _).mono ?_; rintro e w' ⟨rfl, rfl⟩) | (go_at_call 97; refine (digit_any _ _).mono ?_; rintro e w' ⟨rfl, rfl⟩) | (go_at_call 98; refine (number_any _ _ hn').mono ?_; rw [H.out]; rintro e w' ⟨rfl, rfl⟩))
    go_ret2
    exact ⟨rfl, rfl⟩
  · have hz' : ((k : Int) == 0) = false := by simp; omega
    rw [if_neg hz, if_neg hz]
    go_enter Tryz.func74, Tryz.ntmps74
    go_wp2_with (first | (go_at_call 92; refine (lower_any _ _).mono ?_; rintro e w' ⟨rfl, rfl⟩) | (go_at_call 93; refine (upper_any _ _).mono ?_; rintro e w' ⟨rfl, rfl⟩) | (go_at_call 97; refine (digit_any _ _).mono ?_; rintro e w' ⟨rfl, rfl⟩) | (go_at_call 98; refine (number_any _ _ hn').mono ?_; rw [H.out]; rintro e w' ⟨rfl, rfl⟩))
    go_ret2
    exact ⟨rfl, rfl⟩

end Go.Proofs.YtofllmemmggapaaGreatDoor

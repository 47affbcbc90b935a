/- Texts laid together: LexTokC, LexBetween. -/
import Derived.Test.YtifaaihekgnhiaaDoorP04
import Derived.Lib.Strings
import Derived.Lib.Slices
import Derived.Lib.Walk
import Derived.Lib.Bytealg

/- HasPrefix and IndexByte as the scanner calls them; the contract of the scanner's token, whole. -/
namespace Go.Proofs.YtifaaihekgnhiaaDoor
open Go.RowKit
open Lx

theorem prefix_any (s p : ByteArray) (w : World) : Calls Tryd.prog 66 #[.string s, .string p] w fun e w' => e = .returned (.bool (p.data.toList.isPrefixOf s.data.toList)) ∧ w = w' := by
  show Calls _ _ _ _ fun e w' => e = .returned (.bool (Lib.hasPrefix s.data.toList p.data.toList)) ∧ w = w'
  rw [← Lib.hasPrefix_of_take, ← Lib.size_eq, ← Lib.size_eq]
  go_enter Tryd.func66, Tryd.ntmps66
  go_wp2
  · rename_i h
    go_ret
    refine ⟨?_, rfl⟩
    show Ending.returned (Value.bool ((s.extract 0 p.size).toList == p.toList)) = _
    rw [Lib.extract_toList, Lib.toList_data]
    simp [h]
  · rename_i h
    go_ret
    refine ⟨?_, rfl⟩
    show Ending.returned (Value.bool false) = _
    simp [h]

set_option maxRecDepth 100000 in
theorem indexByte_any (s : ByteArray) (c : Int) (w : World) :
    Calls Tryd.prog 67 #[.string s, .int .u8 c] w fun e w' => e = .returned (.int .i64 (Lib.indexByte s.data.toList c.toNat.toUInt8)) ∧ w = w' := by
  go_enter Tryd.func67, Tryd.ntmps67
  go_wp2
  rw [run_callFunc_extern Tryd.func85 (by kernel_rfl) (by kernel_rfl) (by kernel_rfl) (e := Extern.BytealgIndexByte.indexByte) (by kernel_rfl), Lib.run_indexByteString]
  simp only [Result.andThen]
  rw [Oper.upon_value]
  go_wp2
  go_ret
  exact ⟨rfl, rfl⟩

theorem indexByte_has (l : List UInt8) (c : UInt8) : decide (0 ≤ Lib.indexByte l c) = l.contains c := by
  induction l with
  | nil => rfl
  | cons b l ih =>
    have hg := Lib.indexByte_ge l c
    unfold Lib.indexByte
    by_cases hb : b = c
    · subst hb; simp
    · have hb' : (b == c) = false := by simpa using hb
      have hc' : (c == b) = false := by simpa using fun h => hb h.symm
      rw [hb', List.contains_cons, hc', ← ih]
      simp only [Bool.false_or, Bool.false_eq_true, if_false]
      by_cases h1 : Lib.indexByte l c = -1
      · simp [h1]
      · have h1' : (Lib.indexByte l c == -1) = false := by simpa using h1
        rw [h1']; simp only [Bool.false_eq_true, if_false, decide_eq_decide]; omega

def signB (c : UInt8) : Bool := signs.contains c

theorem sign_yes (c : UInt8) (w : World) (h : signB c = true) : Calls Tryd.prog 67 #[.string ⟨#[92, 58, 61, 59, 123, 125, 40, 41, 46, 126, 64, 60, 62, 44, 91, 93, 33]⟩, .int .u8 c.toNat] w fun e w' => ∃ n : Nat, e = .returned (.int .i64 n) ∧ w = w' := by
  refine (indexByte_any _ _ _).mono ?_
  rintro e w' ⟨rfl, rfl⟩
  have h2 := (indexByte_has signs c).trans h
  simp only [decide_eq_true_eq] at h2
  obtain ⟨n, hn⟩ := Int.eq_ofNat_of_zero_le h2
  refine ⟨n, ret_int ?_, rfl⟩
  rw [← hn]; simp [signs]

theorem sign_no (c : UInt8) (w : World) (h : signB c = false) : Calls Tryd.prog 67 #[.string ⟨#[92, 58, 61, 59, 123, 125, 40, 41, 46, 126, 64, 60, 62, 44, 91, 93, 33]⟩, .int .u8 c.toNat] w fun e w' => e = .returned (.int .i64 (-1)) ∧ w = w' := by
  refine (indexByte_any _ _ _).mono ?_
  rintro e w' ⟨rfl, rfl⟩
  have h2 := (indexByte_has signs c).trans h
  simp only [decide_eq_false_iff_not] at h2
  have h3 := Lib.indexByte_ge signs c
  refine ⟨ret_int ?_, rfl⟩
  have : Lib.indexByte signs c = -1 := by omega
  rw [← this]; simp [signs]

theorem token_arrow (s : ByteArray) (w : World) (h0 : 0 < s.size) (h1 : lowerB s[0] = false) (h2 : upperB s[0] = false) (h3 : digitB s[0] = false) (h4 : ((s[0].toNat : Int) == 63) = false) (p : Bool) (hp : ([45, 62] : List UInt8).isPrefixOf s.data.toList = p) (q : Bool) (hq : ([124, 62] : List UInt8).isPrefixOf s.data.toList = q) (hpq : (p || q) = true) : Calls Tryd.prog 44 #[.string s] w fun e w' => e = .returned (.tuple #[.int .i64 6, .int .i64 2]) ∧ w = w' := by
  have P := Lib.hid hp; clear hp
  have Q := Lib.hid hq; clear hq
  cases p
  all_goals
    simp only [Bool.false_or, Bool.true_or] at hpq
    go_enter Tryd.func44, Tryd.ntmps44
    go_wp2_with (first | (go_at_call 59; refine (lower_any _ _).mono ?_; rintro e w' ⟨rfl, rfl⟩) | (go_at_call 60; refine (upper_any _ _).mono ?_; rintro e w' ⟨rfl, rfl⟩) | (go_at_call 64; refine (digit_any _ _).mono ?_; rintro e w' ⟨rfl, rfl⟩) | (go_at_call 66; refine (prefix_any _ _ _).mono ?_; (first | rw [P.out] | rw [Q.out]); rintro e w' ⟨rfl, rfl⟩))
    go_ret2
    exact ⟨rfl, rfl⟩

theorem token_sign (s : ByteArray) (w : World) (h0 : 0 < s.size) (h1 : lowerB s[0] = false) (h2 : upperB s[0] = false) (h3 : digitB s[0] = false) (h4 : ((s[0].toNat : Int) == 63) = false) (hp : ([45, 62] : List UInt8).isPrefixOf s.data.toList = false) (hq : ([124, 62] : List UInt8).isPrefixOf s.data.toList = false) (b : Bool) (hb : signB s[0] = b) : Calls Tryd.prog 44 #[.string s] w fun e w' => e = .returned (.tuple #[.int .i64 (if b then 6 else 0), .int .i64 (if b then 1 else 0)]) ∧ w = w' := by
  have P := Lib.hid hp; clear hp
  have Q := Lib.hid hq; clear hq
  have B := Lib.hid hb; clear hb
  cases b
  · go_enter Tryd.func44, Tryd.ntmps44
    go_wp2_with (first | (go_at_call 59; refine (lower_any _ _).mono ?_; rintro e w' ⟨rfl, rfl⟩) | (go_at_call 60; refine (upper_any _ _).mono ?_; rintro e w' ⟨rfl, rfl⟩) | (go_at_call 64; refine (digit_any _ _).mono ?_; rintro e w' ⟨rfl, rfl⟩) | (go_at_call 66; refine (prefix_any _ _ _).mono ?_; (first | rw [P.out] | rw [Q.out]); rintro e w' ⟨rfl, rfl⟩) | (go_at_call 67; refine (sign_no _ _ B.out).mono ?_; rintro e w' ⟨rfl, rfl⟩))
    go_ret2
    exact ⟨rfl, rfl⟩
  · go_enter Tryd.func44, Tryd.ntmps44
    go_wp2_with (first | (go_at_call 59; refine (lower_any _ _).mono ?_; rintro e w' ⟨rfl, rfl⟩) | (go_at_call 60; refine (upper_any _ _).mono ?_; rintro e w' ⟨rfl, rfl⟩) | (go_at_call 64; refine (digit_any _ _).mono ?_; rintro e w' ⟨rfl, rfl⟩) | (go_at_call 66; refine (prefix_any _ _ _).mono ?_; (first | rw [P.out] | rw [Q.out]); rintro e w' ⟨rfl, rfl⟩) | (go_at_call 67; refine (sign_yes _ _ B.out).mono ?_; rintro e w' ⟨n, rfl, rfl⟩))
    go_ret2
    exact ⟨rfl, rfl⟩

theorem tokenL_head (s : ByteArray) (h0 : 0 < s.size) : tokenL s.data.toList =
  if lowerB s[0] || upperB s[0] then
    if 16 < spanL innerB s.data.toList then (0, 0) else (kindL (s.data.toList.take (spanL innerB s.data.toList)), spanL innerB s.data.toList)
  else if digitB s[0] then (4, numberL s.data.toList)
  else if s[0] = 63 then (if numberL (s.data.toList.drop 1) = 0 then (0, 0) else (5, numberL (s.data.toList.drop 1) + 1))
  else if [45, 62].isPrefixOf s.data.toList || [124, 62].isPrefixOf s.data.toList then (6, 2)
  else if signB s[0] then (6, 1)
  else (0, 0) := by rw [tokenL, head_at s h0]; rfl

theorem token_any (s : ByteArray) (w : World) (h0 : 0 < s.size) (hs : s.size ≤ maxLen) : Calls Tryd.prog 44 #[.string s] w fun e w' => e = .returned (.tuple #[.int .i64 (tokenL s.data.toList).1, .int .i64 (tokenL s.data.toList).2]) ∧ w = w' := by
  rw [tokenL_head s h0]
  by_cases c1 : (lowerB s[0] || upperB s[0]) = true
  · rw [if_pos c1]
    by_cases c2 : 16 < spanL innerB s.data.toList
    · rw [if_pos c2]; exact token_long s w h0 hs c1 c2
    · rw [if_neg c2]
      refine token_word s w h0 hs c1 (by omega) ?_
      rcases s with ⟨⟨l⟩⟩
      cases l with
      | nil => exact absurd h0 (by decide)
      | cons a l =>
        have ha : (lowerB a || upperB a) = true := c1
        have hi : innerB a = true := by unfold innerB; rw [ha]; rfl
        simp [spanL, hi]
  · have c1' : lowerB s[0] = false ∧ upperB s[0] = false := by simpa using c1
    rw [if_neg c1]
    by_cases c3 : digitB s[0] = true
    · rw [if_pos c3]; exact token_num s w h0 hs c1'.1 c1'.2 c3
    · rw [if_neg c3]
      have c3' : digitB s[0] = false := by simpa using c3
      by_cases c4 : s[0] = 63
      · rw [if_pos c4]
        have c4' : ((s[0].toNat : Int) == 63) = true := by rw [c4]; rfl
        have e : (s.extract 1 s.size).data.toList = s.data.toList.drop 1 := by simp; exact List.take_of_length_le (by simp)
        have := token_meta s w h0 hs c1'.1 c1'.2 c3' c4' _ rfl
        rw [e] at this
        by_cases c5 : numberL (s.data.toList.drop 1) = 0
        · rw [if_pos c5, if_pos c5] at this; rw [if_pos c5]; exact this
        · rw [if_neg c5, if_neg c5] at this; rw [if_neg c5]; exact this
      · rw [if_neg c4]
        have c4' : ((s[0].toNat : Int) == 63) = false := by rw [byte_dec _ 63 63 rfl]; simpa using c4
        by_cases c6 : (([45, 62] : List UInt8).isPrefixOf s.data.toList || ([124, 62] : List UInt8).isPrefixOf s.data.toList) = true
        · rw [if_pos c6]; exact token_arrow s w h0 c1'.1 c1'.2 c3' c4' _ rfl _ rfl c6
        · rw [if_neg c6]
          have c6' : ([45, 62] : List UInt8).isPrefixOf s.data.toList = false ∧ ([124, 62] : List UInt8).isPrefixOf s.data.toList = false := by simpa only [Bool.or_eq_true, not_or, Bool.not_eq_true] using c6
          have := token_sign s w h0 c1'.1 c1'.2 c3' c4' c6'.1 c6'.2 _ rfl
          cases hb : signB s[0]
          · rw [hb] at this; exact this
          · rw [hb] at this; exact this

end Go.Proofs.YtifaaihekgnhiaaDoor

/- The contract of the scanner's between. -/
namespace Go.Proofs.YtifaaihekgnhiaaDoor
open Go.RowKit
open Lx

theorem btw_step (s : ByteArray) (k : Nat) (h : k < s.size) (r : Bool) : betweenL r (s.data.toList.drop k) =
    if s[k] = 35 then betweenL true (s.data.toList.drop (k + 1)) + 1
    else if s[k] = 10 then betweenL false (s.data.toList.drop (k + 1)) + 1
    else if !r && s[k] != 32 && s[k] != 9 then 0
    else betweenL r (s.data.toList.drop (k + 1)) + 1 := by
  have e : s.data.toList.drop k = s[k] :: s.data.toList.drop (k + 1) := by
    rw [List.drop_eq_getElem_cons (by simpa using h)]; rfl
  rw [e, betweenL]

theorem byte_eqT {c : UInt8} (n : Int) (k : UInt8) (h : c = k) (hk : (k.toNat : Int) = n) : ((c.toNat : Int) == n) = true := by rw [byte_dec c n k hk]; simpa using h
theorem byte_eqF {c : UInt8} (n : Int) (k : UInt8) (h : c ≠ k) (hk : (k.toNat : Int) = n) : ((c.toNat : Int) == n) = false := by rw [byte_dec c n k hk]; simpa using h
theorem byte_neT {c : UInt8} (n : Int) (k : UInt8) (h : c ≠ k) (hk : (k.toNat : Int) = n) : ((c.toNat : Int) != n) = true := by rw [bne, byte_eqF n k h hk]; rfl
theorem byte_neF {c : UInt8} (n : Int) (k : UInt8) (h : c = k) (hk : (k.toNat : Int) = n) : ((c.toNat : Int) != n) = false := by rw [bne, byte_eqT n k h hk]; rfl

set_option maxHeartbeats 800000 in
theorem between_any (s : ByteArray) (w : World) (hs : s.size ≤ maxLen) :
    Calls Tryd.prog 45 #[.string s] w fun e w' => e = .returned (.int .i64 (betweenL false s.data.toList)) ∧ w = w' := by
  unfold maxLen at hs
  go_enter Tryd.func45, Tryd.ntmps45
  go_wp2
  go_loop [3, 4] (fun n r => ∃ (k : Nat) (b : Bool), k ≤ s.size ∧ n = .int .i64 k ∧ r = .bool b ∧ betweenL false s.data.toList = k + betweenL b (s.data.toList.drop k)) (fun n _ => s.size - (intOf n).toNat)
  case atStart => exact ⟨0, false, Nat.zero_le _, rfl, rfl, by simp⟩
  case round =>
    obtain ⟨k, b, hk, rfl, rfl, hb⟩ := hrel
    have H := Lib.hid hb; clear hb
    by_cases hlt : k < s.size
    · have st := btw_step s k hlt b
      by_cases c1 : s[k] = 35
      · rw [if_pos c1] at st
        have S := Lib.hid st; clear st
        have f1 := byte_eqT 35 35 c1 rfl
        clear c1
        go_wp2
        go_round
        case rel => exact ⟨k + 1, true, by omega, by go_num, rfl, by rw [H.out, S.out]; omega⟩
        case measure => simp [intOf]; omega
      · rw [if_neg c1] at st
        have f1 := byte_eqF 35 35 c1 rfl
        clear c1
        by_cases c2 : s[k] = 10
        · rw [if_pos c2] at st
          have S := Lib.hid st; clear st
          have f2 := byte_eqT 10 10 c2 rfl
          clear c2
          go_wp2
          go_round
          case rel => exact ⟨k + 1, false, by omega, by go_num, rfl, by rw [H.out, S.out]; omega⟩
          case measure => simp [intOf]; omega
        · rw [if_neg c2] at st
          have f2 := byte_eqF 10 10 c2 rfl
          clear c2
          cases b
          · by_cases c3 : s[k] = 32
            · rw [if_neg (by simp [c3])] at st
              have S := Lib.hid st; clear st
              have f3 := byte_neF 32 32 c3 rfl
              clear c3
              go_wp2
              go_round
              case rel => exact ⟨k + 1, false, by omega, by go_num, rfl, by rw [H.out, S.out]; omega⟩
              case measure => simp [intOf]; omega
            · have f3 := byte_neT 32 32 c3 rfl
              by_cases c4 : s[k] = 9
              · rw [if_neg (by simp [c4])] at st
                have S := Lib.hid st; clear st
                have f4 := byte_neF 9 9 c4 rfl
                clear c3 c4
                go_wp2
                go_round
                case rel => exact ⟨k + 1, false, by omega, by go_num, rfl, by rw [H.out, S.out]; omega⟩
                case measure => simp [intOf]; omega
              · rw [if_pos (by simp [c3, c4])] at st
                have S := Lib.hid st; clear st
                have f4 := byte_neT 9 9 c4 rfl
                clear c3 c4
                go_wp2
                go_ret
                exact ⟨ret_int (by rw [H.out, S.out]; rfl), rfl⟩
          · rw [if_neg (by simp)] at st
            have S := Lib.hid st; clear st
            go_wp2
            go_round
            case rel => exact ⟨k + 1, true, by omega, by go_num, rfl, by rw [H.out, S.out]; omega⟩
            case measure => simp [intOf]; omega
    · go_wp2
      go_ret
      have e : k = s.size := by omega
      exact ⟨ret_int (by rw [H.out, e]; simp [List.drop_of_length_le, betweenL]), rfl⟩

end Go.Proofs.YtifaaihekgnhiaaDoor

/- The contract of the scanner's between. -/
import Derived.Test.YtkikljdpmklmhaaLexTokC
namespace Go.Proofs.Ytkikljdpmklmhaa
open Go.RowKit
open Lx

theorem btw_step (s : ByteArray) (k : Nat) (h : k < s.size) (r : Bool) : betweenL r (s.data.toList.drop k) =
    if s[k] = 35 then betweenL true (s.data.toList.drop (k + 1)) + 1
    else if s[k] = 10 then betweenL false (s.data.toList.drop (k + 1)) + 1
    else if !r && s[k] != 32 && s[k] != 9 then 0
    else betweenL r (s.data.toList.drop (k + 1)) + 1 := by
  have e : s.data.toList.drop k = s[k] :: s.data.toList.drop (k + 1) := by
    rw [List.drop_eq_getElem_cons (by simpa using h)]; rfl
  rw [e, betweenL]

theorem byte_eqT {c : UInt8} (n : Int) (k : UInt8) (h : c = k) (hk : (k.toNat : Int) = n) : ((c.toNat : Int) == n) = true := by rw [byte_dec c n k hk]; simpa using h
theorem byte_eqF {c : UInt8} (n : Int) (k : UInt8) (h : c ≠ k) (hk : (k.toNat : Int) = n) : ((c.toNat : Int) == n) = false := by rw [byte_dec c n k hk]; simpa using h
theorem byte_neT {c : UInt8} (n : Int) (k : UInt8) (h : c ≠ k) (hk : (k.toNat : Int) = n) : ((c.toNat : Int) != n) = true := by rw [bne, byte_eqF n k h hk]; rfl
theorem byte_neF {c : UInt8} (n : Int) (k : UInt8) (h : c = k) (hk : (k.toNat : Int) = n) : ((c.toNat : Int) != n) = false := by rw [bne, byte_eqT n k h hk]; rfl

set_option maxHeartbeats 800000 in
theorem between_any (s : ByteArray) (w : World) (hs : s.size ≤ maxLen) :
    Calls Try.prog 16 #[.string s] w fun e w' => e = .returned (.int .i64 (betweenL false s.data.toList)) ∧ w = w' := by
  unfold maxLen at hs
  go_enter Try.func16, Try.ntmps16
  go_wp2
  go_loop [3, 4] (fun n r => ∃ (k : Nat) (b : Bool), k ≤ s.size ∧ n = .int .i64 k ∧ r = .bool b ∧ betweenL false s.data.toList = k + betweenL b (s.data.toList.drop k)) (fun n _ => s.size - (intOf n).toNat)
  case atStart => exact ⟨0, false, Nat.zero_le _, rfl, rfl, by simp⟩
  case round =>
    obtain ⟨k, b, hk, rfl, rfl, hb⟩ := hrel
    have H := Lib.hid hb; clear hb
    by_cases hlt : k < s.size
    · have st := btw_step s k hlt b
      by_cases c1 : s[k] = 35
      · rw [if_pos c1] at st
        have S := Lib.hid st; clear st
        have f1 := byte_eqT 35 35 c1 rfl
        clear c1
        go_wp2
        go_round
        case rel => exact ⟨k + 1, true, by omega, by go_num, rfl, by rw [H.out, S.out]; omega⟩
        case measure => simp [intOf]; omega
      · rw [if_neg c1] at st
        have f1 := byte_eqF 35 35 c1 rfl
        clear c1
        by_cases c2 : s[k] = 10
        · rw [if_pos c2] at st
          have S := Lib.hid st; clear st
          have f2 := byte_eqT 10 10 c2 rfl
          clear c2
          go_wp2
          go_round
          case rel => exact ⟨k + 1, false, by omega, by go_num, rfl, by rw [H.out, S.out]; omega⟩
          case measure => simp [intOf]; omega
        · rw [if_neg c2] at st
          have f2 := byte_eqF 10 10 c2 rfl
          clear c2
          cases b
          · by_cases c3 : s[k] = 32
            · rw [if_neg (by simp [c3])] at st
              have S := Lib.hid st; clear st
              have f3 := byte_neF 32 32 c3 rfl
              clear c3
              go_wp2
              go_round
              case rel => exact ⟨k + 1, false, by omega, by go_num, rfl, by rw [H.out, S.out]; omega⟩
              case measure => simp [intOf]; omega
            · have f3 := byte_neT 32 32 c3 rfl
              by_cases c4 : s[k] = 9
              · rw [if_neg (by simp [c4])] at st
                have S := Lib.hid st; clear st
                have f4 := byte_neF 9 9 c4 rfl
                clear c3 c4
                go_wp2
                go_round
                case rel => exact ⟨k + 1, false, by omega, by go_num, rfl, by rw [H.out, S.out]; omega⟩
                case measure => simp [intOf]; omega
              · rw [if_pos (by simp [c3, c4])] at st
                have S := Lib.hid st; clear st
                have f4 := byte_neT 9 9 c4 rfl
                clear c3 c4
                go_wp2
                go_ret
                exact ⟨ret_int (by rw [H.out, S.out]; rfl), rfl⟩
          · rw [if_neg (by simp)] at st
            have S := Lib.hid st; clear st
            go_wp2
            go_round
            case rel => exact ⟨k + 1, true, by omega, by go_num, rfl, by rw [H.out, S.out]; omega⟩
            case measure => simp [intOf]; omega
    · go_wp2
      go_ret
      have e : k = s.size := by omega
      exact ⟨ret_int (by rw [H.out, e]; simp [List.drop_of_length_le, betweenL]), rfl⟩

end Go.Proofs.Ytkikljdpmklmhaa

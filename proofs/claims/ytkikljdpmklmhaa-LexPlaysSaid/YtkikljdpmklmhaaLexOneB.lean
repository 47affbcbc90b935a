/- The contract of the document's scanner's one: arrows and signs; the whole. -/
import Derived.Test.YtkikljdpmklmhaaLexOne
namespace Go.Proofs.Ytkikljdpmklmhaa
open Go.RowKit
open Lx

def arrowB (s : ByteArray) (i : Nat) : Bool := ([45, 62] : List UInt8).isPrefixOf (s.data.toList.drop i) || ([124, 62] : List UInt8).isPrefixOf (s.data.toList.drop i)

theorem arrow_iff (s : ByteArray) (i : Nat) (hi : i < s.size) : arrowB s i = true ↔ ∃ h : i + 1 < s.size, s[i + 1] = 62 ∧ (s[i] = 45 ∨ s[i] = 124) := by
  unfold arrowB
  rw [drop_at s i hi]
  by_cases h : i + 1 < s.size
  · rw [drop_at s (i + 1) h]
    simp only [List.isPrefixOf, Bool.or_eq_true, Bool.and_eq_true, beq_iff_eq, Bool.and_true, h, exists_true_left]
    constructor
    · rintro (⟨a, b⟩ | ⟨a, b⟩)
      · exact ⟨b.symm, .inl a.symm⟩
      · exact ⟨b.symm, .inr a.symm⟩
    · rintro ⟨b, a | a⟩
      · exact .inl ⟨a.symm, b.symm⟩
      · exact .inr ⟨a.symm, b.symm⟩
  · have e : s.data.toList.drop (i + 1) = [] := List.drop_of_length_le (by simp; have : s.data.size = s.size := rfl; omega)
    rw [e]
    simp [List.isPrefixOf, h]

theorem oneR_arrow (s : ByteArray) (i : Nat) (hi : i < s.size) (h1 : letterB s[i] = false) (h3 : digitB s[i] = false) (h4 : s[i] ≠ 63) :
    OneR s i = if arrowB s i then (6, i + 2) else if signB s[i] then (6, i + 1) else (0, i) := by
  unfold OneR
  rw [tokenL_at s i hi, h1, h3]
  simp only [Bool.false_eq_true, if_false, if_neg h4]
  cases ha : arrowB s i
  · have ha' := ha
    unfold arrowB at ha'
    rw [ha']
    cases signB s[i] <;> simp
  · have ha' := ha
    unfold arrowB at ha'
    rw [ha']
    simp

set_option maxHeartbeats 1600000 in
theorem one_arrow (s : ByteArray) (i : Nat) (w : World) (hs : s.size ≤ maxLen) (hi : i < s.size) (h1 : letterB s[i] = false) (h3 : digitB s[i] = false) (h4 : s[i] ≠ 63) (ha : arrowB s i = true) :
    Calls Try.prog 17 #[.string s, .int .i64 i] w fun e w' => e = .returned (.tuple #[.int .i64 (OneR s i).1, .int .i64 (OneR s i).2]) ∧ w = w' := by
  have ho := oneR_arrow s i hi h1 h3 h4
  rw [if_pos ha] at ho
  have f4 := byte_eqF 63 63 h4 rfl
  obtain ⟨hlt, h62, hd⟩ := (arrow_iff s i hi).1 ha
  have f62 := byte_eqT 62 62 h62 rfl
  have HO := Lib.hid ho
  clear ho ha h62 h4
  unfold maxLen at hs
  by_cases c : s[i] = 45
  · have f45 := byte_eqT 45 45 c rfl
    clear c hd
    go_enter Try.func17, Try.ntmps17
    go_wp2_with (first | (go_at_call 27; refine (rletter_any _ _).mono ?_; rw [h1]; rintro e w' ⟨rfl, rfl⟩) | (go_at_call 28; refine (rdigit_any _ _).mono ?_; rw [h3]; rintro e w' ⟨rfl, rfl⟩))
    go_ret2
    exact ⟨ret_pair HO.out, rfl⟩
  · have f45 := byte_eqF 45 45 c rfl
    have f124 := byte_eqT 124 124 (hd.resolve_left c) rfl
    clear c hd
    go_enter Try.func17, Try.ntmps17
    go_wp2_with (first | (go_at_call 27; refine (rletter_any _ _).mono ?_; rw [h1]; rintro e w' ⟨rfl, rfl⟩) | (go_at_call 28; refine (rdigit_any _ _).mono ?_; rw [h3]; rintro e w' ⟨rfl, rfl⟩))
    go_ret2
    exact ⟨ret_pair HO.out, rfl⟩

def signA : ByteArray := ⟨#[92, 58, 61, 59, 123, 125, 40, 41, 46, 126, 64, 60, 62, 44, 91, 93, 33]⟩
def NoSign (c : UInt8) (k : Nat) : Prop := ∀ j (h : j < signA.size), j < k → signA[j] ≠ c
theorem NoSign.step {c : UInt8} {k : Nat} (h : NoSign c k) (hk : k < signA.size) (hne : signA[k] ≠ c) : NoSign c (k + 1) := by
  intro j hj hl
  by_cases e : j = k
  · subst e; exact hne
  · exact h j hj (by omega)
theorem sign_found (c : UInt8) (k : Nat) (hk : k < signA.size) (h : signA[k] = c) : signB c = true := by
  unfold signB
  rw [List.contains_iff_mem, ← h]
  exact List.getElem_mem (l := signs) (n := k) hk
theorem sign_none (c : UInt8) (h : NoSign c 17) : signB c = false := by
  cases hb : signB c
  · rfl
  · unfold signB at hb
    rw [List.contains_iff_mem] at hb
    obtain ⟨j, hj, e⟩ := List.mem_iff_getElem.1 hb
    exact absurd e (h j hj hj)

set_option maxRecDepth 100000 in
set_option maxHeartbeats 1600000 in
theorem one_sign1 (s : ByteArray) (i : Nat) (w : World) (hs : s.size ≤ maxLen) (hi : i < s.size) (h1 : letterB s[i] = false) (h3 : digitB s[i] = false) (h4 : s[i] ≠ 63) (ha : arrowB s i = false) (hq : ¬ i + 1 < s.size) :
    Calls Try.prog 17 #[.string s, .int .i64 i] w fun e w' => e = .returned (.tuple #[.int .i64 (OneR s i).1, .int .i64 (OneR s i).2]) ∧ ∃ n, w' = w.drewN n := by
  have ho := oneR_arrow s i hi h1 h3 h4
  rw [if_neg (by rw [ha]; simp)] at ho
  have f4 := byte_eqF 63 63 h4 rfl
  have HO := Lib.hid ho
  clear ho ha h4
  unfold maxLen at hs
  go_enter Try.func17, Try.ntmps17
  go_wp2_with (first | (go_at_call 27; refine (rletter_any _ _).mono ?_; rw [h1]; rintro e w' ⟨rfl, rfl⟩) | (go_at_call 28; refine (rdigit_any _ _).mono ?_; rw [h3]; rintro e w' ⟨rfl, rfl⟩))
  go_loopw [12] (fun k wr => ∃ j : Nat, j ≤ 17 ∧ k = .int .i64 j ∧ NoSign s[i] j ∧ ∃ n, wr = w.drewN n) (fun k _ => 17 - (intOf k).toNat)
  case atStart => exact ⟨0, by omega, rfl, fun _ _ h => absurd h (by omega), 0, rfl⟩
  case round =>
    obtain ⟨j, hj, rfl, hns, n, rfl⟩ := hrel
    have NS := Lib.hid hns
    clear hns
    by_cases hlt : j < 17
    · have hsz : j < signA.size := hlt
      have z1 : (0 : Int) ≤ (j : Int) := by omega
      have z2 : (j : Int) < 17 := by omega
      have z3 : (0 : Int) ≤ (i : Int) := by omega
      have z4 : (i : Int) < (s.size : Int) := by omega
      by_cases ce : signA[j] = s[i]
      · have SB := Lib.hid (sign_found s[i] j hlt ce)
        have fe : ((signA[j].toNat : Int) == (s[i].toNat : Int)) = true := by rw [ce]; simp
        clear ce
        unfold signA at fe hsz
        go_wp2
        go_quiet (fail)
        go_wp2
        go_ret2
        exact ⟨ret_pair (by rw [HO.out, SB.out]; rfl), _, by first | rfl | exact World.drewN_drewN w n nq⟩
      · have RN := Lib.hid (NS.out.step hlt ce)
        have fe : ((signA[j].toNat : Int) == (s[i].toNat : Int)) = false := by simp; exact fun h => ce (UInt8.toNat_inj.1 (by omega))
        clear ce
        unfold signA at fe hsz
        go_wp2
        go_quiet (fail)
        go_wp2
        go_roundw
        case rel => exact ⟨j + 1, by omega, by go_num, RN.out, _, rfl⟩
        case measure => simp [intOf]; omega
    · obtain rfl : j = 17 := by omega
      go_wp2
      go_ret2
      exact ⟨ret_pair (by rw [HO.out, sign_none _ NS.out]; rfl), n, rfl⟩

set_option maxRecDepth 100000 in
set_option maxHeartbeats 1600000 in
theorem one_sign2 (s : ByteArray) (i : Nat) (w : World) (hs : s.size ≤ maxLen) (hi : i < s.size) (h1 : letterB s[i] = false) (h3 : digitB s[i] = false) (h4 : s[i] ≠ 63) (ha : arrowB s i = false) (hq : i + 1 < s.size) (h62 : s[i + 1] ≠ 62) :
    Calls Try.prog 17 #[.string s, .int .i64 i] w fun e w' => e = .returned (.tuple #[.int .i64 (OneR s i).1, .int .i64 (OneR s i).2]) ∧ ∃ n, w' = w.drewN n := by
  have ho := oneR_arrow s i hi h1 h3 h4
  rw [if_neg (by rw [ha]; simp)] at ho
  have f4 := byte_eqF 63 63 h4 rfl
  have f62 := byte_eqF 62 62 h62 rfl
  have HO := Lib.hid ho
  clear ho ha h4 h62
  unfold maxLen at hs
  go_enter Try.func17, Try.ntmps17
  go_wp2_with (first | (go_at_call 27; refine (rletter_any _ _).mono ?_; rw [h1]; rintro e w' ⟨rfl, rfl⟩) | (go_at_call 28; refine (rdigit_any _ _).mono ?_; rw [h3]; rintro e w' ⟨rfl, rfl⟩))
  go_loopw [12] (fun k wr => ∃ j : Nat, j ≤ 17 ∧ k = .int .i64 j ∧ NoSign s[i] j ∧ ∃ n, wr = w.drewN n) (fun k _ => 17 - (intOf k).toNat)
  case atStart => exact ⟨0, by omega, rfl, fun _ _ h => absurd h (by omega), 0, rfl⟩
  case round =>
    obtain ⟨j, hj, rfl, hns, n, rfl⟩ := hrel
    have NS := Lib.hid hns
    clear hns
    by_cases hlt : j < 17
    · have hsz : j < signA.size := hlt
      have z1 : (0 : Int) ≤ (j : Int) := by omega
      have z2 : (j : Int) < 17 := by omega
      have z3 : (0 : Int) ≤ (i : Int) := by omega
      have z4 : (i : Int) < (s.size : Int) := by omega
      by_cases ce : signA[j] = s[i]
      · have SB := Lib.hid (sign_found s[i] j hlt ce)
        have fe : ((signA[j].toNat : Int) == (s[i].toNat : Int)) = true := by rw [ce]; simp
        clear ce
        unfold signA at fe hsz
        go_wp2
        go_quiet (fail)
        go_wp2
        go_ret2
        exact ⟨ret_pair (by rw [HO.out, SB.out]; rfl), _, by first | rfl | exact World.drewN_drewN w n nq⟩
      · have RN := Lib.hid (NS.out.step hlt ce)
        have fe : ((signA[j].toNat : Int) == (s[i].toNat : Int)) = false := by simp; exact fun h => ce (UInt8.toNat_inj.1 (by omega))
        clear ce
        unfold signA at fe hsz
        go_wp2
        go_quiet (fail)
        go_wp2
        go_roundw
        case rel => exact ⟨j + 1, by omega, by go_num, RN.out, _, rfl⟩
        case measure => simp [intOf]; omega
    · obtain rfl : j = 17 := by omega
      go_wp2
      go_ret2
      exact ⟨ret_pair (by rw [HO.out, sign_none _ NS.out]; rfl), n, rfl⟩

set_option maxRecDepth 100000 in
set_option maxHeartbeats 1600000 in
theorem one_sign3 (s : ByteArray) (i : Nat) (w : World) (hs : s.size ≤ maxLen) (hi : i < s.size) (h1 : letterB s[i] = false) (h3 : digitB s[i] = false) (h4 : s[i] ≠ 63) (ha : arrowB s i = false) (hq : i + 1 < s.size) (h62 : s[i + 1] = 62) :
    Calls Try.prog 17 #[.string s, .int .i64 i] w fun e w' => e = .returned (.tuple #[.int .i64 (OneR s i).1, .int .i64 (OneR s i).2]) ∧ ∃ n, w' = w.drewN n := by
  have ho := oneR_arrow s i hi h1 h3 h4
  rw [if_neg (by rw [ha]; simp)] at ho
  have f4 := byte_eqF 63 63 h4 rfl
  have f62 := byte_eqT 62 62 h62 rfl
  have f45 := byte_eqF 45 45 (fun h => by have := (arrow_iff s i hi).2 ⟨hq, h62, .inl h⟩; rw [ha] at this; cases this) rfl
  have f124 := byte_eqF 124 124 (fun h => by have := (arrow_iff s i hi).2 ⟨hq, h62, .inr h⟩; rw [ha] at this; cases this) rfl
  have HO := Lib.hid ho
  clear ho ha h4 h62
  unfold maxLen at hs
  go_enter Try.func17, Try.ntmps17
  go_wp2_with (first | (go_at_call 27; refine (rletter_any _ _).mono ?_; rw [h1]; rintro e w' ⟨rfl, rfl⟩) | (go_at_call 28; refine (rdigit_any _ _).mono ?_; rw [h3]; rintro e w' ⟨rfl, rfl⟩))
  go_loopw [12] (fun k wr => ∃ j : Nat, j ≤ 17 ∧ k = .int .i64 j ∧ NoSign s[i] j ∧ ∃ n, wr = w.drewN n) (fun k _ => 17 - (intOf k).toNat)
  case atStart => exact ⟨0, by omega, rfl, fun _ _ h => absurd h (by omega), 0, rfl⟩
  case round =>
    obtain ⟨j, hj, rfl, hns, n, rfl⟩ := hrel
    have NS := Lib.hid hns
    clear hns
    by_cases hlt : j < 17
    · have hsz : j < signA.size := hlt
      have z1 : (0 : Int) ≤ (j : Int) := by omega
      have z2 : (j : Int) < 17 := by omega
      have z3 : (0 : Int) ≤ (i : Int) := by omega
      have z4 : (i : Int) < (s.size : Int) := by omega
      by_cases ce : signA[j] = s[i]
      · have SB := Lib.hid (sign_found s[i] j hlt ce)
        have fe : ((signA[j].toNat : Int) == (s[i].toNat : Int)) = true := by rw [ce]; simp
        clear ce
        unfold signA at fe hsz
        go_wp2
        go_quiet (fail)
        go_wp2
        go_ret2
        exact ⟨ret_pair (by rw [HO.out, SB.out]; rfl), _, by first | rfl | exact World.drewN_drewN w n nq⟩
      · have RN := Lib.hid (NS.out.step hlt ce)
        have fe : ((signA[j].toNat : Int) == (s[i].toNat : Int)) = false := by simp; exact fun h => ce (UInt8.toNat_inj.1 (by omega))
        clear ce
        unfold signA at fe hsz
        go_wp2
        go_quiet (fail)
        go_wp2
        go_roundw
        case rel => exact ⟨j + 1, by omega, by go_num, RN.out, _, rfl⟩
        case measure => simp [intOf]; omega
    · obtain rfl : j = 17 := by omega
      go_wp2
      go_ret2
      exact ⟨ret_pair (by rw [HO.out, sign_none _ NS.out]; rfl), n, rfl⟩


theorem rone_any (s : ByteArray) (i : Nat) (w : World) (hs : s.size ≤ maxLen) (hi : i < s.size) :
    Calls Try.prog 17 #[.string s, .int .i64 i] w fun e w' => e = .returned (.tuple #[.int .i64 (OneR s i).1, .int .i64 (OneR s i).2]) ∧ ∃ n, w' = w.drewN n := by
  have up : ∀ (e : Ending) (w' : World), (e = .returned (.tuple #[.int .i64 (OneR s i).1, .int .i64 (OneR s i).2]) ∧ w = w') → e = .returned (.tuple #[.int .i64 (OneR s i).1, .int .i64 (OneR s i).2]) ∧ ∃ n, w' = w.drewN n :=
    fun e w' h => ⟨h.1, 0, h.2 ▸ rfl⟩
  cases h1 : letterB s[i]
  · cases h3 : digitB s[i]
    · by_cases h4 : s[i] = 63
      · exact (one_meta s i w hs hi h1 h3 h4).mono up
      · cases ha : arrowB s i
        · by_cases hq : i + 1 < s.size
          · by_cases h62 : s[i + 1] = 62
            · exact one_sign3 s i w hs hi h1 h3 h4 ha hq h62
            · exact one_sign2 s i w hs hi h1 h3 h4 ha hq h62
          · exact one_sign1 s i w hs hi h1 h3 h4 ha hq
        · exact (one_arrow s i w hs hi h1 h3 h4 ha).mono up
    · exact (one_num s i w hs hi h1 h3).mono up
  · exact (one_word s i w hs hi h1).mono up

end Go.Proofs.Ytkikljdpmklmhaa

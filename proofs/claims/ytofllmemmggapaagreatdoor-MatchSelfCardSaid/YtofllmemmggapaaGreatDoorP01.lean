/- Texts laid together: LexPlain, LexLeaf, LexTok, LexTokB, LexFacts. -/
import Derived.Test.YtofllmemmggapaaGreatDoorRows
import Derived.WalkKit
import Derived.WalkLawsBesides
import Derived.WalkSpells
import Derived.Lib.Hide

/- Plain words of the scanner: what the program's functions on bytes compute, on lists of bytes. No program in sight. -/
namespace Go.Proofs.YtofllmemmggapaaGreatDoor.Lx

def lowerB (c : UInt8) : Bool := decide (97 ≤ c.toNat ∧ c.toNat ≤ 122)
def upperB (c : UInt8) : Bool := decide (65 ≤ c.toNat ∧ c.toNat ≤ 90)
def digitB (c : UInt8) : Bool := decide (48 ≤ c.toNat ∧ c.toNat ≤ 57)
def innerB (c : UInt8) : Bool := lowerB c || upperB c || digitB c || decide (c.toNat = 95)

/-- how many at the begin are such -/
def spanL (p : UInt8 → Bool) (l : List UInt8) : Nat := (l.takeWhile p).length

theorem spanL_le (p : UInt8 → Bool) (l : List UInt8) : spanL p l ≤ l.length := by
  unfold spanL; induction l with
  | nil => simp
  | cons a l ih => simp only [List.takeWhile_cons]; split <;> simp <;> omega

theorem spanL_stop (p : UInt8 → Bool) (l : List UInt8) (k : Nat) (h : (l.take k).all p = true) (hk : k < l.length) (hp : p l[k] = false) : spanL p l = k := by
  unfold spanL
  induction l generalizing k with
  | nil => simp at hk
  | cons a l ih =>
    cases k with
    | zero => simp at hp; simp [hp]
    | succ k =>
      simp at h hp hk
      simp [h.1]
      exact ih k (by simpa using h.2) hk hp
theorem spanL_all (p : UInt8 → Bool) (l : List UInt8) (h : l.all p = true) : spanL p l = l.length := by
  unfold spanL; induction l with
  | nil => rfl
  | cons a l ih => simp at h; simp [h.1]; exact ih (by simpa using h.2)

def keys : List (List UInt8) := [[100, 97, 116, 97], [108, 101, 116], [105, 110], [99, 97, 115, 101], [111, 102], [102, 111, 114, 97, 108, 108]]

def kindL (l : List UInt8) : Nat :=
  if keys.contains l then 3 else if upperB (l.headD 0) then 2 else 1

def numberL (l : List UInt8) : Nat :=
  if 6 < spanL digitB l ∨ 1 < spanL digitB l ∧ l.headD 0 = 48 then 0 else spanL digitB l

def signs : List UInt8 := [92, 58, 61, 59, 123, 125, 40, 41, 46, 126, 64, 60, 62, 44, 91, 93, 33]

/-- the token at the begin: its kind and its length; length 0: there is none -/
def tokenL (l : List UInt8) : Nat × Nat :=
  if lowerB (l.headD 0) || upperB (l.headD 0) then
    if 16 < spanL innerB l then (0, 0) else (kindL (l.take (spanL innerB l)), spanL innerB l)
  else if digitB (l.headD 0) then (4, numberL l)
  else if l.headD 0 = 63 then (if numberL (l.drop 1) = 0 then (0, 0) else (5, numberL (l.drop 1) + 1))
  else if [45, 62].isPrefixOf l || [124, 62].isPrefixOf l then (6, 2)
  else if signs.contains (l.headD 0) then (6, 1)
  else (0, 0)

/-- how many bytes ahead of the next token are none -/
def betweenL : Bool → List UInt8 → Nat
  | _, [] => 0
  | r, c :: l =>
    if c = 35 then betweenL true l + 1
    else if c = 10 then betweenL false l + 1
    else if !r && c != 32 && c != 9 then 0
    else betweenL r l + 1

theorem betweenL_le (r : Bool) (l : List UInt8) : betweenL r l ≤ l.length := by
  induction l generalizing r with
  | nil => simp [betweenL]
  | cons c l ih =>
    simp only [betweenL]
    have h1 := ih true
    have h2 := ih false
    have h3 := ih r
    split
    · simp; omega
    · split
      · simp; omega
      · split
        · simp
        · simp; omega

structure Tok where
  kind : Nat
  text : List UInt8
  pos : Nat
deriving DecidableEq

theorem numberL_le (l : List UInt8) : numberL l ≤ l.length := by
  have := spanL_le digitB l
  unfold numberL; split <;> omega

theorem prefix2_le (a b : UInt8) (l : List UInt8) (h : ([a, b] : List UInt8).isPrefixOf l = true) : 2 ≤ l.length := by
  match l, h with
  | [], h => simp [List.isPrefixOf] at h
  | [x], h => simp [List.isPrefixOf] at h
  | x :: y :: l, _ => simp

theorem tokenL_le (l : List UInt8) (h : l ≠ []) : (tokenL l).2 ≤ l.length := by
  have h1 : 1 ≤ l.length := by cases l with
    | nil => exact absurd rfl h
    | cons a l => simp
  have a1 := spanL_le innerB l
  have a2 := numberL_le l
  have a3 := numberL_le (l.drop 1)
  rw [List.length_drop] at a3
  unfold tokenL
  repeat' split
  all_goals first
    | omega
    | (simp; done)
    | (simp; omega)
    | (rename_i hp; simp only [Bool.or_eq_true] at hp; rcases hp with hp | hp <;> exact prefix2_le _ _ _ hp)

/-- the scanner's loop: what is left, where it stands, what was cut already -/
def scanGo : Nat → List UInt8 → Nat → List Tok → List Tok × Nat × Nat
  | 0, _, _, acc => (acc, 0, 0)
  | n + 1, l, p, acc =>
    if l = [] then (acc, 0, 0)
    else if (tokenL l).2 = 0 then ([], p, 10)
    else scanGo n ((l.drop (tokenL l).2).drop (betweenL false (l.drop (tokenL l).2))) (p + (tokenL l).2 + betweenL false (l.drop (tokenL l).2))
      (acc ++ [⟨(tokenL l).1, l.take (tokenL l).2, p⟩])

theorem scanGo_more (n : Nat) : ∀ (l : List UInt8) (p : Nat) (acc : List Tok) (m : Nat), l.length ≤ n → n ≤ m → scanGo m l p acc = scanGo n l p acc := by
  induction n with
  | zero =>
    intro l p acc m hl _
    have : l = [] := List.length_eq_zero_iff.1 (by omega)
    subst this
    cases m <;> simp [scanGo]
  | succ n ih =>
    intro l p acc m hl hm
    obtain ⟨m, rfl⟩ : ∃ k, m = k + 1 := ⟨m - 1, by omega⟩
    simp only [scanGo]
    split
    · rfl
    · split
      · rfl
      · rename_i h1 h2
        refine ih _ _ _ _ ?_ (by omega)
        have : 1 ≤ l.length := by cases l with
          | nil => exact absurd rfl h1
          | cons a l => simp
        simp only [List.length_drop]; omega

def scanAt (l : List UInt8) (p : Nat) (acc : List Tok) : List Tok × Nat × Nat := scanGo l.length l p acc

theorem scanAt_nil (p : Nat) (acc : List Tok) : scanAt [] p acc = (acc, 0, 0) := rfl

theorem scanAt_bad (l : List UInt8) (p : Nat) (acc : List Tok) (h : l ≠ []) (h2 : (tokenL l).2 = 0) : scanAt l p acc = ([], p, 10) := by
  unfold scanAt
  cases l with
  | nil => exact absurd rfl h
  | cons a l => simp only [List.length_cons, scanGo]; rw [if_neg h, if_pos h2]

theorem scanAt_step (l : List UInt8) (p : Nat) (acc : List Tok) (h : l ≠ []) (h2 : (tokenL l).2 ≠ 0) :
    scanAt l p acc = scanAt ((l.drop (tokenL l).2).drop (betweenL false (l.drop (tokenL l).2))) (p + (tokenL l).2 + betweenL false (l.drop (tokenL l).2))
      (acc ++ [⟨(tokenL l).1, l.take (tokenL l).2, p⟩]) := by
  unfold scanAt
  cases l with
  | nil => exact absurd rfl h
  | cons a l =>
    simp only [List.length_cons, scanGo]
    rw [if_neg h, if_neg h2]
    refine scanGo_more _ _ _ _ _ (Nat.le_refl _) ?_
    simp only [List.length_drop, List.length_cons]; omega

/-- what Scan tells: the tokens, where none can begin, the error -/
def scanR (l : List UInt8) : List Tok × Nat × Nat :=
  if 4000 < l.length then ([], 0, 2) else scanAt (l.drop (betweenL false l)) (betweenL false l) []

end Go.Proofs.YtofllmemmggapaaGreatDoor.Lx

/- Contracts of the scanner's functions on bytes: each returns what the plain function says and leaves the world as it was. -/
namespace Go.Proofs.YtofllmemmggapaaGreatDoor
open Go.RowKit
open Lx

theorem ret_bool {a b : Bool} (h : a = b) : Ending.returned (.bool a) = .returned (.bool b) := by rw [h]
theorem ret_int {k : IntKind} {a b : Int} (h : a = b) : Ending.returned (.int k a) = .returned (.int k b) := by rw [h]

theorem byte_is {c : UInt8} {n : Int} (k : UInt8) (h : ((c.toNat : Int) == n) = true) (hk : (k.toNat : Int) = n) : c = k := by
  have h' : (c.toNat : Int) = n := by simpa using h
  apply UInt8.toNat_inj.1; omega
theorem byte_not {c : UInt8} {n : Int} (k : UInt8) (h : ((c.toNat : Int) == n) = false) (hk : (k.toNat : Int) = n) : c ≠ k := by
  intro e; subst e; simp [hk] at h

theorem byte_dec (c : UInt8) (n : Int) (k : UInt8) (hk : (k.toNat : Int) = n) : ((c.toNat : Int) == n) = decide (c = k) := by
  rw [Bool.eq_iff_iff]; simp only [beq_iff_eq, decide_eq_true_eq]
  exact ⟨fun h => UInt8.toNat_inj.1 (by omega), fun h => by subst h; exact hk⟩

theorem lower_any (c : UInt8) (w : World) : Calls Tryz.prog 92 #[.int .u8 c.toNat] w fun e w' => e = .returned (.bool (lowerB c)) ∧ w = w' := by
  go_enter Tryz.func92, Tryz.ntmps92
  go_wp2
  all_goals
    go_ret
    exact ⟨ret_bool (by unfold lowerB; first | (rw [decide_eq_decide]; omega) | (symm; rw [decide_eq_false_iff_not]; omega)), rfl⟩

theorem upper_any (c : UInt8) (w : World) : Calls Tryz.prog 93 #[.int .u8 c.toNat] w fun e w' => e = .returned (.bool (upperB c)) ∧ w = w' := by
  go_enter Tryz.func93, Tryz.ntmps93
  go_wp2
  all_goals
    go_ret
    exact ⟨ret_bool (by unfold upperB; first | (rw [decide_eq_decide]; omega) | (symm; rw [decide_eq_false_iff_not]; omega)), rfl⟩

theorem digit_any (c : UInt8) (w : World) : Calls Tryz.prog 97 #[.int .u8 c.toNat] w fun e w' => e = .returned (.bool (digitB c)) ∧ w = w' := by
  go_enter Tryz.func97, Tryz.ntmps97
  go_wp2
  all_goals
    go_ret
    exact ⟨ret_bool (by unfold digitB; first | (rw [decide_eq_decide]; omega) | (symm; rw [decide_eq_false_iff_not]; omega)), rfl⟩

theorem inner_any (c : UInt8) (w : World) : Calls Tryz.prog 95 #[.int .u8 c.toNat] w fun e w' => e = .returned (.bool (innerB c)) ∧ w = w' := by
  go_enter Tryz.func95, Tryz.ntmps95
  go_wp2_with (first | (go_at_call 92; refine (lower_any _ _).mono ?_; rintro e w' ⟨rfl, rfl⟩) | (go_at_call 93; refine (upper_any _ _).mono ?_; rintro e w' ⟨rfl, rfl⟩) | (go_at_call 97; refine (digit_any _ _).mono ?_; rintro e w' ⟨rfl, rfl⟩))
  all_goals
    go_ret
    exact ⟨ret_bool (by unfold innerB; simp [*]; try (rw [Bool.eq_iff_iff]; simp; omega)), rfl⟩

theorem take_snoc (s : ByteArray) (k : Nat) (h : k < s.size) : s.data.toList.take (k + 1) = s.data.toList.take k ++ [s[k]] := by
  rw [List.take_succ_eq_append_getElem (by simpa using h)]; rfl

set_option maxHeartbeats 400000 in
theorem span_digit (s : ByteArray) (w : World) (hs : s.size ≤ maxLen) :
    Calls Tryz.prog 94 #[.string s, .func (.func 97) #[] #[]] w fun e w' => e = .returned (.int .i64 (spanL digitB s.data.toList)) ∧ w = w' := by
  unfold maxLen at hs
  go_enter Tryz.func94, Tryz.ntmps94
  go_wp2
  go_loop [5] (fun i => ∃ k : Nat, k ≤ s.size ∧ i = .int .i64 k ∧ (s.data.toList.take k).all digitB = true) (fun i => s.size - (intOf i).toNat)
  case atStart => exact ⟨0, Nat.zero_le _, rfl, by simp⟩
  case round =>
    obtain ⟨k, hk, rfl, hall⟩ := hrel
    have H := Lib.hid hall; clear hall
    by_cases hlt : k < s.size
    · go_wp2_with (go_at_call 97; refine (digit_any _ _).mono ?_; rintro e w' ⟨rfl, rfl⟩)
      · have hd : digitB s[k] = true := by assumption
        go_round
        case rel => exact ⟨k + 1, by omega, by go_num, by rw [take_snoc s k hlt, List.all_append, H.out]; simp [hd]⟩
        case measure => simp [intOf]; omega
      · have hd : digitB s[k] = false := by assumption
        go_ret
        exact ⟨ret_int (by rw [spanL_stop _ _ k H.out (by simpa using hlt) hd]), rfl⟩
    · go_wp2
      go_ret
      have hk2 : s.data.toList.take k = s.data.toList := List.take_of_length_le (by simp; omega)
      exact ⟨ret_int (by rw [spanL_all _ _ (by rw [← hk2]; exact H.out)]; simp; omega), rfl⟩

set_option maxHeartbeats 400000 in
theorem span_inner (s : ByteArray) (w : World) (hs : s.size ≤ maxLen) :
    Calls Tryz.prog 94 #[.string s, .func (.func 95) #[] #[]] w fun e w' => e = .returned (.int .i64 (spanL innerB s.data.toList)) ∧ w = w' := by
  unfold maxLen at hs
  go_enter Tryz.func94, Tryz.ntmps94
  go_wp2
  go_loop [5] (fun i => ∃ k : Nat, k ≤ s.size ∧ i = .int .i64 k ∧ (s.data.toList.take k).all innerB = true) (fun i => s.size - (intOf i).toNat)
  case atStart => exact ⟨0, Nat.zero_le _, rfl, by simp⟩
  case round =>
    obtain ⟨k, hk, rfl, hall⟩ := hrel
    have H := Lib.hid hall; clear hall
    by_cases hlt : k < s.size
    · go_wp2_with (go_at_call 95; refine (inner_any _ _).mono ?_; rintro e w' ⟨rfl, rfl⟩)
      · have hd : innerB s[k] = true := by assumption
        go_round
        case rel => exact ⟨k + 1, by omega, by go_num, by rw [take_snoc s k hlt, List.all_append, H.out]; simp [hd]⟩
        case measure => simp [intOf]; omega
      · have hd : innerB s[k] = false := by assumption
        go_ret
        exact ⟨ret_int (by rw [spanL_stop _ _ k H.out (by simpa using hlt) hd]), rfl⟩
    · go_wp2
      go_ret
      have hk2 : s.data.toList.take k = s.data.toList := List.take_of_length_le (by simp; omega)
      exact ⟨ret_int (by rw [spanL_all _ _ (by rw [← hk2]; exact H.out)]; simp; omega), rfl⟩

end Go.Proofs.YtofllmemmggapaaGreatDoor

/- Contracts of the scanner's functions on texts. -/
namespace Go.Proofs.YtofllmemmggapaaGreatDoor
open Go.RowKit
open Lx

theorem head_at (s : ByteArray) (h0 : 0 < s.size) : s.data.toList.headD 0 = s[0] := by
  rcases s with ⟨⟨l⟩⟩
  cases l with
  | nil => exact absurd h0 (by decide)
  | cons a l => rfl

theorem kindL_key {s : ByteArray} {k : List UInt8} (h : (s.toList == k) = true) (hk : keys.contains k = true) : kindL s.data.toList = 3 := by
  rw [ByteArray.toList_eq] at h
  rw [eq_of_beq h, kindL, if_pos hk]

theorem kindL_word {s : ByteArray} (h1 : (s.toList == [100, 97, 116, 97]) = false) (h2 : (s.toList == [108, 101, 116]) = false) (h3 : (s.toList == [105, 110]) = false)
    (h4 : (s.toList == [99, 97, 115, 101]) = false) (h5 : (s.toList == [111, 102]) = false) (h6 : (s.toList == [102, 111, 114, 97, 108, 108]) = false) (h0 : 0 < s.size) :
    kindL s.data.toList = if upperB s[0] then 2 else 1 := by
  rw [ByteArray.toList_eq] at *
  have hk : keys.contains s.data.toList = false := by
    simp only [keys, List.contains_cons, h1, h2, h3, h4, h5, h6]; rfl
  rw [kindL, if_neg (by rw [hk]; decide), head_at s h0]

theorem kind_any (s : ByteArray) (w : World) (h0 : 0 < s.size) : Calls Tryz.prog 96 #[.string s] w fun e w' => e = .returned (.int .i64 (kindL s.data.toList)) ∧ w = w' := by
  go_enter Tryz.func96, Tryz.ntmps96
  go_wp2_with (go_at_call 93; refine (upper_any _ _).mono ?_; rintro e w' ⟨rfl, rfl⟩)
  all_goals
    go_ret
    first
      | (exfalso; simp_all; done)
      | exact ⟨ret_int (by rw [kindL_key ‹(s.toList == _) = true› (by decide)]; rfl), rfl⟩
      | (rename_i hu; exact ⟨ret_int (by rw [kindL_word ‹_› ‹_› ‹_› ‹_› ‹_› ‹_› h0, hu]; rfl), rfl⟩)

theorem number_any (s : ByteArray) (w : World) (hs : s.size ≤ maxLen) : Calls Tryz.prog 98 #[.string s] w fun e w' => e = .returned (.int .i64 (numberL s.data.toList)) ∧ w = w' := by
  have hle := spanL_le digitB s.data.toList
  have hle2 : spanL digitB s.data.toList ≤ s.size := by simpa using hle
  unfold maxLen at hs
  go_enter Tryz.func98, Tryz.ntmps98
  go_wp2_with (go_at_call 94; refine (span_digit _ _ (by unfold maxLen; omega)).mono ?_; rintro e w' ⟨rfl, rfl⟩)
  all_goals
    go_ret
    refine ⟨ret_int ?_, rfl⟩
    unfold numberL
    first
      | (rw [head_at s (by omega)]; simp only [byte_dec s[0] 48 48 rfl] at *; by_cases h48 : s[0] = 48 <;> simp only [h48, decide_true, decide_false, and_true, and_false, or_true, or_false, reduceCtorEq] at * <;> split <;> omega)
      | (split <;> omega)

end Go.Proofs.YtofllmemmggapaaGreatDoor

/- The contract of the scanner's token. -/
namespace Go.Proofs.YtofllmemmggapaaGreatDoor
open Go.RowKit
open Lx

theorem token_long (s : ByteArray) (w : World) (h0 : 0 < s.size) (hs : s.size ≤ maxLen) (hw : (lowerB s[0] || upperB s[0]) = true) (hl : 16 < spanL innerB s.data.toList) : Calls Tryz.prog 74 #[.string s] w fun e w' => e = .returned (.tuple #[.int .i64 0, .int .i64 0]) ∧ w = w' := by
  have hle : spanL innerB s.data.toList ≤ s.size := by simpa using spanL_le innerB s.data.toList
  have hs' := hs
  unfold maxLen at hs
  cases h1 : lowerB s[0]
  all_goals
    simp only [h1, Bool.false_or, Bool.true_or] at hw
    go_enter Tryz.func74, Tryz.ntmps74
    go_wp2_with (first | (go_at_call 92; refine (lower_any _ _).mono ?_; rintro e w' ⟨rfl, rfl⟩) | (go_at_call 93; refine (upper_any _ _).mono ?_; rintro e w' ⟨rfl, rfl⟩) | (go_at_call 94; refine (span_inner _ _ hs').mono ?_; rintro e w' ⟨rfl, rfl⟩))
    go_ret2
    exact ⟨rfl, rfl⟩

theorem token_word (s : ByteArray) (w : World) (h0 : 0 < s.size) (hs : s.size ≤ maxLen) (hw : (lowerB s[0] || upperB s[0]) = true) (hl : spanL innerB s.data.toList ≤ 16) (hp : 0 < spanL innerB s.data.toList) : Calls Tryz.prog 74 #[.string s] w fun e w' => e = .returned (.tuple #[.int .i64 (kindL (s.data.toList.take (spanL innerB s.data.toList))), .int .i64 (spanL innerB s.data.toList)]) ∧ w = w' := by
  have hle : spanL innerB s.data.toList ≤ s.size := by simpa using spanL_le innerB s.data.toList
  have hs' := hs
  have hk' : 0 < (s.extract 0 (spanL innerB s.data.toList)).size := by simp; omega
  unfold maxLen at hs
  cases h1 : lowerB s[0]
  all_goals
    simp only [h1, Bool.false_or, Bool.true_or] at hw
    go_enter Tryz.func74, Tryz.ntmps74
    go_wp2_with (first | (go_at_call 92; refine (lower_any _ _).mono ?_; rintro e w' ⟨rfl, rfl⟩) | (go_at_call 93; refine (upper_any _ _).mono ?_; rintro e w' ⟨rfl, rfl⟩) | (go_at_call 94; refine (span_inner _ _ hs').mono ?_; rintro e w' ⟨rfl, rfl⟩) | (go_at_call 96; refine (kind_any _ _ hk').mono ?_; rintro e w' ⟨rfl, rfl⟩))
    go_ret2
    exact ⟨rfl, rfl⟩

theorem token_num (s : ByteArray) (w : World) (h0 : 0 < s.size) (hs : s.size ≤ maxLen) (h1 : lowerB s[0] = false) (h2 : upperB s[0] = false) (h3 : digitB s[0] = true) : Calls Tryz.prog 74 #[.string s] w fun e w' => e = .returned (.tuple #[.int .i64 4, .int .i64 (numberL s.data.toList)]) ∧ w = w' := by
  have hs' := hs
  unfold maxLen at hs
  go_enter Tryz.func74, Tryz.ntmps74
  go_wp2_with (first | (go_at_call 92; refine (lower_any _ _).mono ?_; rintro e w' ⟨rfl, rfl⟩) | (go_at_call 93; refine (upper_any _ _).mono ?_; rintro e w' ⟨rfl, rfl⟩) | (go_at_call 97; refine (digit_any _ _).mono ?_; rintro e w' ⟨rfl, rfl⟩) | (go_at_call 98; refine (number_any _ _ hs').mono ?_; rintro e w' ⟨rfl, rfl⟩))
  go_ret2
  exact ⟨rfl, rfl⟩

theorem token_meta (s : ByteArray) (w : World) (h0 : 0 < s.size) (hs : s.size ≤ maxLen) (h1 : lowerB s[0] = false) (h2 : upperB s[0] = false) (h3 : digitB s[0] = false) (h4 : ((s[0].toNat : Int) == 63) = true) (k : Nat) (hk : numberL (s.extract 1 s.size).data.toList = k) : Calls Tryz.prog 74 #[.string s] w fun e w' => e = .returned (.tuple #[.int .i64 (if k = 0 then 0 else 5), .int .i64 (if k = 0 then 0 else k + 1)]) ∧ w = w' := by
  have hn' : (s.extract 1 s.size).size ≤ maxLen := by simp; omega
  have hm : numberL (s.extract 1 s.size).data.toList + 1 ≤ s.size := by
    have h7 := numberL_le (s.extract 1 s.size).data.toList
    have h8 : (s.extract 1 s.size).data.toList.length = s.size - 1 := by simp
    omega
  rw [hk] at hm
  have H := Lib.hid hk; clear hk
  unfold maxLen at hs
  by_cases hz : k = 0
  · subst hz
    go_enter Tryz.func74, Tryz.ntmps74
    go_wp2_with (first | (go_at_call 92; refine (lower_any _ _).mono ?_; rintro e w' ⟨rfl, rfl⟩) | (go_at_call 93; refine (upper_any _ _).mono ?_; rintro e w' ⟨rfl, rfl⟩) | (go_at_call 97; refine (digit_any _ _).mono ?_; rintro e w' ⟨rfl, rfl⟩) | (go_at_call 98; refine (number_any _ _ hn').mono ?_; rw [H.out]; rintro e w' ⟨rfl, rfl⟩))
    go_ret2
    exact ⟨rfl, rfl⟩
  · have hz' : ((k : Int) == 0) = false := by simp; omega
    rw [if_neg hz, if_neg hz]
    go_enter Tryz.func74, Tryz.ntmps74
    go_wp2_with (first | (go_at_call 92; refine (lower_any _ _).mono ?_; rintro e w' ⟨rfl, rfl⟩) | (go_at_call 93; refine (upper_any _ _).mono ?_; rintro e w' ⟨rfl, rfl⟩) | (go_at_call 97; refine (digit_any _ _).mono ?_; rintro e w' ⟨rfl, rfl⟩) | (go_at_call 98; refine (number_any _ _ hn').mono ?_; rw [H.out]; rintro e w' ⟨rfl, rfl⟩))
    go_ret2
    exact ⟨rfl, rfl⟩

end Go.Proofs.YtofllmemmggapaaGreatDoor

/- Plain facts of the scanner: no program in sight. -/
namespace Go.Proofs.YtofllmemmggapaaGreatDoor.Lx

theorem spanL_take_all (p : UInt8 → Bool) (l : List UInt8) (h : ∀ c ∈ l, p c = true) : spanL p l = l.length := spanL_all p l (by simpa using h)

/-- a word alone -/
theorem scanR_word (l : List UInt8) (hs : l.length ≤ 4000) (h0 : (lowerB (l.headD 0) || upperB (l.headD 0)) = true) (hn : l ≠ []) (hi : ∀ c ∈ l, innerB c = true) :
    scanR l = if 16 < l.length then ([], 0, 10) else ([⟨kindL l, l, 0⟩], 0, 0) := by
  have hb : betweenL false l = 0 := by
    cases l with
    | nil => rfl
    | cons c l =>
      simp only [List.headD_cons, lowerB, upperB, Bool.or_eq_true] at h0
      simp only [betweenL]
      have n1 : ¬ c = 35 := by intro h; subst h; simp at h0
      have n2 : ¬ c = 10 := by intro h; subst h; simp at h0
      have n3 : ¬ c = 32 := by intro h; subst h; simp at h0
      have n4 : ¬ c = 9 := by intro h; subst h; simp at h0
      simp [n1, n2, n3, n4]
  have ht : tokenL l = if 16 < l.length then (0, 0) else (kindL l, l.length) := by
    unfold tokenL
    rw [if_pos h0, spanL_take_all _ _ hi, List.take_length]
  have hl : l.length ≠ 0 := by intro h; exact hn (List.length_eq_zero_iff.1 h)
  rw [scanR, if_neg (by omega), hb, List.drop_zero]
  by_cases h16 : 16 < l.length
  · rw [if_pos h16] at *
    exact scanAt_bad l 0 [] hn (by rw [ht])
  · rw [if_neg h16] at *
    rw [scanAt_step l 0 [] hn (by rw [ht]; exact hl), ht]
    simp [betweenL, scanAt_nil]

end Go.Proofs.YtofllmemmggapaaGreatDoor.Lx

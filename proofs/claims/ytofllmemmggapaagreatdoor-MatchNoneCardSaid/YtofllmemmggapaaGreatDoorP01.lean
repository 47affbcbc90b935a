/- Texts laid together: LexPlain, LexFacts. -/

/- Plain words of the scanner: what the program's functions on bytes compute, on lists of bytes. No program in sight. -/
namespace Go.Proofs.YtofllmemmggapaaGreatDoor.Lx

def lowerB (c : UInt8) : Bool := decide (97 ≤ c.toNat ∧ c.toNat ≤ 122)
def upperB (c : UInt8) : Bool := decide (65 ≤ c.toNat ∧ c.toNat ≤ 90)
def digitB (c : UInt8) : Bool := decide (48 ≤ c.toNat ∧ c.toNat ≤ 57)
def innerB (c : UInt8) : Bool := lowerB c || upperB c || digitB c || decide (c.toNat = 95)

/-- how many at the begin are such -/
def spanL (p : UInt8 → Bool) (l : List UInt8) : Nat := (l.takeWhile p).length

theorem spanL_le (p : UInt8 → Bool) (l : List UInt8) : spanL p l ≤ l.length := by
  unfold spanL; induction l with
  | nil => simp
  | cons a l ih => simp only [List.takeWhile_cons]; split <;> simp <;> omega

theorem spanL_stop (p : UInt8 → Bool) (l : List UInt8) (k : Nat) (h : (l.take k).all p = true) (hk : k < l.length) (hp : p l[k] = false) : spanL p l = k := by
  unfold spanL
  induction l generalizing k with
  | nil => simp at hk
  | cons a l ih =>
    cases k with
    | zero => simp at hp; simp [hp]
    | succ k =>
      simp at h hp hk
      simp [h.1]
      exact ih k (by simpa using h.2) hk hp
theorem spanL_all (p : UInt8 → Bool) (l : List UInt8) (h : l.all p = true) : spanL p l = l.length := by
  unfold spanL; induction l with
  | nil => rfl
  | cons a l ih => simp at h; simp [h.1]; exact ih (by simpa using h.2)

def keys : List (List UInt8) := [[100, 97, 116, 97], [108, 101, 116], [105, 110], [99, 97, 115, 101], [111, 102], [102, 111, 114, 97, 108, 108]]

def kindL (l : List UInt8) : Nat :=
  if keys.contains l then 3 else if upperB (l.headD 0) then 2 else 1

def numberL (l : List UInt8) : Nat :=
  if 6 < spanL digitB l ∨ 1 < spanL digitB l ∧ l.headD 0 = 48 then 0 else spanL digitB l

def signs : List UInt8 := [92, 58, 61, 59, 123, 125, 40, 41, 46, 126, 64, 60, 62, 44, 91, 93, 33]

/-- the token at the begin: its kind and its length; length 0: there is none -/
def tokenL (l : List UInt8) : Nat × Nat :=
  if lowerB (l.headD 0) || upperB (l.headD 0) then
    if 16 < spanL innerB l then (0, 0) else (kindL (l.take (spanL innerB l)), spanL innerB l)
  else if digitB (l.headD 0) then (4, numberL l)
  else if l.headD 0 = 63 then (if numberL (l.drop 1) = 0 then (0, 0) else (5, numberL (l.drop 1) + 1))
  else if [45, 62].isPrefixOf l || [124, 62].isPrefixOf l then (6, 2)
  else if signs.contains (l.headD 0) then (6, 1)
  else (0, 0)

/-- how many bytes ahead of the next token are none -/
def betweenL : Bool → List UInt8 → Nat
  | _, [] => 0
  | r, c :: l =>
    if c = 35 then betweenL true l + 1
    else if c = 10 then betweenL false l + 1
    else if !r && c != 32 && c != 9 then 0
    else betweenL r l + 1

theorem betweenL_le (r : Bool) (l : List UInt8) : betweenL r l ≤ l.length := by
  induction l generalizing r with
  | nil => simp [betweenL]
  | cons c l ih =>
    simp only [betweenL]
    have h1 := ih true
    have h2 := ih false
    have h3 := ih r
    split
    · simp; omega
    · split
      · simp; omega
      · split
        · simp
        · simp; omega

structure Tok where
  kind : Nat
  text : List UInt8
  pos : Nat
deriving DecidableEq

theorem numberL_le (l : List UInt8) : numberL l ≤ l.length := by
  have := spanL_le digitB l
  unfold numberL; split <;> omega

theorem prefix2_le (a b : UInt8) (l : List UInt8) (h : ([a, b] : List UInt8).isPrefixOf l = true) : 2 ≤ l.length := by
  match l, h with
  | [], h => simp [List.isPrefixOf] at h
  | [x], h => simp [List.isPrefixOf] at h
  | x :: y :: l, _ => simp

theorem tokenL_le (l : List UInt8) (h : l ≠ []) : (tokenL l).2 ≤ l.length := by
  have h1 : 1 ≤ l.length := by cases l with
    | nil => exact absurd rfl h
    | cons a l => simp
  have a1 := spanL_le innerB l
  have a2 := numberL_le l
  have a3 := numberL_le (l.drop 1)
  rw [List.length_drop] at a3
  unfold tokenL
  repeat' split
  all_goals first
    | omega
    | (simp; done)
    | (simp; omega)
    | (rename_i hp; simp only [Bool.or_eq_true] at hp; rcases hp with hp | hp <;> exact prefix2_le _ _ _ hp)

/-- the scanner's loop: what is left, where it stands, what was cut already -/
def scanGo : Nat → List UInt8 → Nat → List Tok → List Tok × Nat × Nat
  | 0, _, _, acc => (acc, 0, 0)
  | n + 1, l, p, acc =>
    if l = [] then (acc, 0, 0)
    else if (tokenL l).2 = 0 then ([], p, 10)
    else scanGo n ((l.drop (tokenL l).2).drop (betweenL false (l.drop (tokenL l).2))) (p + (tokenL l).2 + betweenL false (l.drop (tokenL l).2))
      (acc ++ [⟨(tokenL l).1, l.take (tokenL l).2, p⟩])

theorem scanGo_more (n : Nat) : ∀ (l : List UInt8) (p : Nat) (acc : List Tok) (m : Nat), l.length ≤ n → n ≤ m → scanGo m l p acc = scanGo n l p acc := by
  induction n with
  | zero =>
    intro l p acc m hl _
    have : l = [] := List.length_eq_zero_iff.1 (by omega)
    subst this
    cases m <;> simp [scanGo]
  | succ n ih =>
    intro l p acc m hl hm
    obtain ⟨m, rfl⟩ : ∃ k, m = k + 1 := ⟨m - 1, by omega⟩
    simp only [scanGo]
    split
    · rfl
    · split
      · rfl
      · rename_i h1 h2
        refine ih _ _ _ _ ?_ (by omega)
        have : 1 ≤ l.length := by cases l with
          | nil => exact absurd rfl h1
          | cons a l => simp
        simp only [List.length_drop]; omega

def scanAt (l : List UInt8) (p : Nat) (acc : List Tok) : List Tok × Nat × Nat := scanGo l.length l p acc

theorem scanAt_nil (p : Nat) (acc : List Tok) : scanAt [] p acc = (acc, 0, 0) := rfl

theorem scanAt_bad (l : List UInt8) (p : Nat) (acc : List Tok) (h : l ≠ []) (h2 : (tokenL l).2 = 0) : scanAt l p acc = ([], p, 10) := by
  unfold scanAt
  cases l with
  | nil => exact absurd rfl h
  | cons a l => simp only [List.length_cons, scanGo]; rw [if_neg h, if_pos h2]

theorem scanAt_step (l : List UInt8) (p : Nat) (acc : List Tok) (h : l ≠ []) (h2 : (tokenL l).2 ≠ 0) :
    scanAt l p acc = scanAt ((l.drop (tokenL l).2).drop (betweenL false (l.drop (tokenL l).2))) (p + (tokenL l).2 + betweenL false (l.drop (tokenL l).2))
      (acc ++ [⟨(tokenL l).1, l.take (tokenL l).2, p⟩]) := by
  unfold scanAt
  cases l with
  | nil => exact absurd rfl h
  | cons a l =>
    simp only [List.length_cons, scanGo]
    rw [if_neg h, if_neg h2]
    refine scanGo_more _ _ _ _ _ (Nat.le_refl _) ?_
    simp only [List.length_drop, List.length_cons]; omega

/-- what Scan tells: the tokens, where none can begin, the error -/
def scanR (l : List UInt8) : List Tok × Nat × Nat :=
  if 4000 < l.length then ([], 0, 2) else scanAt (l.drop (betweenL false l)) (betweenL false l) []

end Go.Proofs.YtofllmemmggapaaGreatDoor.Lx

/- Plain facts of the scanner: no program in sight. -/
namespace Go.Proofs.YtofllmemmggapaaGreatDoor.Lx

theorem spanL_take_all (p : UInt8 → Bool) (l : List UInt8) (h : ∀ c ∈ l, p c = true) : spanL p l = l.length := spanL_all p l (by simpa using h)

/-- a word alone -/
theorem scanR_word (l : List UInt8) (hs : l.length ≤ 4000) (h0 : (lowerB (l.headD 0) || upperB (l.headD 0)) = true) (hn : l ≠ []) (hi : ∀ c ∈ l, innerB c = true) :
    scanR l = if 16 < l.length then ([], 0, 10) else ([⟨kindL l, l, 0⟩], 0, 0) := by
  have hb : betweenL false l = 0 := by
    cases l with
    | nil => rfl
    | cons c l =>
      simp only [List.headD_cons, lowerB, upperB, Bool.or_eq_true] at h0
      simp only [betweenL]
      have n1 : ¬ c = 35 := by intro h; subst h; simp at h0
      have n2 : ¬ c = 10 := by intro h; subst h; simp at h0
      have n3 : ¬ c = 32 := by intro h; subst h; simp at h0
      have n4 : ¬ c = 9 := by intro h; subst h; simp at h0
      simp [n1, n2, n3, n4]
  have ht : tokenL l = if 16 < l.length then (0, 0) else (kindL l, l.length) := by
    unfold tokenL
    rw [if_pos h0, spanL_take_all _ _ hi, List.take_length]
  have hl : l.length ≠ 0 := by intro h; exact hn (List.length_eq_zero_iff.1 h)
  rw [scanR, if_neg (by omega), hb, List.drop_zero]
  by_cases h16 : 16 < l.length
  · rw [if_pos h16] at *
    exact scanAt_bad l 0 [] hn (by rw [ht])
  · rw [if_neg h16] at *
    rw [scanAt_step l 0 [] hn (by rw [ht]; exact hl), ht]
    simp [betweenL, scanAt_nil]

end Go.Proofs.YtofllmemmggapaaGreatDoor.Lx

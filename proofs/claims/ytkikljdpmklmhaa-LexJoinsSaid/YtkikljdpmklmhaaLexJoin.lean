/- Plain facts of tokens joined again: no program in sight. -/
import Derived.Test.YtkikljdpmklmhaaLexCut
namespace Go.Proofs.Ytkikljdpmklmhaa.Lx

theorem span_cut (p : UInt8 → Bool) (l r : List UInt8) (c : UInt8) (hc : p c = false) : spanL p (l.take (spanL p l) ++ c :: r) = spanL p l := by
  unfold spanL
  induction l with
  | nil => simp [hc]
  | cons a l ih =>
    simp only [List.takeWhile_cons]
    cases hp : p a
    · simp [hc]
    · simp only [List.length_cons, List.take_succ_cons, List.cons_append, List.takeWhile_cons, hp, if_true]
      exact congrArg (· + 1) ih

theorem headD_take (l r : List UInt8) (n : Nat) (h : n ≠ 0) (hl : l ≠ []) : (l.take n ++ r).headD 0 = l.headD 0 := by
  cases l with
  | nil => exact absurd rfl hl
  | cons a l =>
    cases n with
    | zero => exact absurd rfl h
    | succ n => rfl

theorem number_cut (l r : List UInt8) (c : UInt8) (hc : digitB c = false) (h : numberL l ≠ 0) : numberL (l.take (numberL l) ++ c :: r) = numberL l := by
  have e : numberL l = spanL digitB l ∧ ¬ (6 < spanL digitB l ∨ 1 < spanL digitB l ∧ l.headD 0 = 48) := by
    unfold numberL at h ⊢
    split
    · rename_i h2; rw [if_pos h2] at h; exact absurd rfl h
    · rename_i h2; exact ⟨rfl, h2⟩
  have hl : l ≠ [] := by intro e2; subst e2; simp [numberL, spanL] at h
  rw [e.1]
  unfold numberL
  rw [span_cut _ _ _ _ hc, headD_take _ _ _ (by rw [← e.1]; exact h) hl, if_neg e.2]

theorem token_cut (l r : List UInt8) (c : UInt8) (hc : c = 32 ∨ c = 35) (k m : Nat) (h : tokenL l = (k, m)) (hm : m ≠ 0) (hl : l ≠ []) : tokenL (l.take m ++ c :: r) = (k, m) := by
  have hi : innerB c = false := by rcases hc with rfl | rfl <;> rfl
  have hd : digitB c = false := by rcases hc with rfl | rfl <;> rfl
  have h62 : c ≠ 62 := by rcases hc with rfl | rfl <;> decide
  obtain ⟨a, t, rfl⟩ : ∃ a t, l = a :: t := by
    cases l with
    | nil => exact absurd rfl hl
    | cons a t => exact ⟨a, t, rfl⟩
  have hh : ((a :: t).take m ++ c :: r).headD 0 = a := headD_take _ _ _ hm hl
  unfold tokenL at h ⊢
  rw [hh]
  rw [show (a :: t).headD 0 = a from rfl] at h
  by_cases c1 : (lowerB a || upperB a) = true
  · rw [if_pos c1] at h ⊢
    by_cases c2 : 16 < spanL innerB (a :: t)
    · rw [if_pos c2] at h; cases h; exact absurd rfl hm
    · rw [if_neg c2] at h
      cases h
      rw [span_cut _ _ _ _ hi, if_neg c2, List.take_append_of_le_length (by rw [List.length_take]; have := spanL_le innerB (a :: t); omega)]
      simp [List.take_take]
  · rw [if_neg c1] at h ⊢
    by_cases c3 : digitB a = true
    · rw [if_pos c3] at h ⊢
      cases h
      rw [number_cut _ _ _ hd hm]
    · rw [if_neg c3] at h ⊢
      by_cases c4 : a = 63
      · rw [if_pos c4] at h ⊢
        simp only [List.drop_succ_cons, List.drop_zero] at h
        by_cases c5 : numberL t = 0
        · rw [if_pos c5] at h; cases h; exact absurd rfl hm
        · rw [if_neg c5] at h
          cases h
          simp only [List.take_succ_cons, List.cons_append, List.drop_succ_cons, List.drop_zero]
          rw [number_cut _ _ _ hd c5, if_neg c5]
      · rw [if_neg c4] at h ⊢
        by_cases c6 : (([45, 62] : List UInt8).isPrefixOf (a :: t) || ([124, 62] : List UInt8).isPrefixOf (a :: t)) = true
        · rw [if_pos c6] at h
          cases h
          rw [if_pos]
          cases t with
          | nil => simp [List.isPrefixOf] at c6
          | cons b t => simpa [List.isPrefixOf] using c6
        · rw [if_neg c6] at h
          by_cases c7 : signs.contains a = true
          · rw [if_pos c7] at h
            cases h
            rw [if_neg, if_pos c7]
            simp only [List.take_succ_cons, List.take_zero, List.isPrefixOf, List.cons_append, List.nil_append]
            have e : ((62 : UInt8) == c) = false := by simpa using fun h : (62 : UInt8) = c => h62 h.symm
            rw [e]; simp
          · rw [if_neg c7] at h; cases h; exact absurd rfl hm

/-- a token that is cut again wherever a blank or a remark is behind it -/
def Good (t : Tok) : Prop := t.text ≠ [] ∧ ∀ (c : UInt8) (r : List UInt8), c = 32 ∨ c = 35 → tokenL (t.text ++ c :: r) = (t.kind, t.text.length)

theorem cut_good (ts : List Tok) : ∀ (l : List UInt8) (p : Nat), Cut l p ts → ∀ t ∈ ts, Good t := by
  induction ts with
  | nil => intro l p _ t ht; cases ht
  | cons t ts ih =>
    intro l p h u hu
    obtain ⟨h1, h2, h3, h4, h5, h6⟩ := h
    rcases List.mem_cons.1 hu with rfl | hu
    · refine ⟨h5, fun c r hc => ?_⟩
      have hl : u.text.length ≠ 0 := fun e => h5 (List.length_eq_zero_iff.1 e)
      have hne : l.drop (betweenL false l) ≠ [] := by intro e; have := congrArg List.length e; simp at this; omega
      have := token_cut _ r c hc _ _ h3 hl hne
      rw [← h4] at this
      exact this
    · exact ih _ _ h6 u hu

theorem good_start (t : Tok) (h : Good t) (r : List UInt8) (c : UInt8) (hc : c = 32 ∨ c = 35) : betweenL false (t.text ++ c :: r) = 0 := by
  obtain ⟨h1, h2⟩ := h
  have h3 := h2 c r hc
  obtain ⟨a, l, e⟩ : ∃ a l, t.text = a :: l := by
    cases ht : t.text with
    | nil => exact absurd ht h1
    | cons a l => exact ⟨a, l, rfl⟩
  rw [e] at h3 ⊢
  simp only [List.cons_append, List.length_cons] at h3 ⊢
  have hn : (tokenL (a :: (l ++ c :: r))).2 ≠ 0 := by rw [h3]; simp
  have k : ∀ x : UInt8, x = 35 ∨ x = 10 ∨ x = 32 ∨ x = 9 → (tokenL (x :: (l ++ c :: r))).2 = 0 := by
    intro x hx
    unfold tokenL
    rcases hx with rfl | rfl | rfl | rfl <;> simp [lowerB, upperB, digitB, signs, List.isPrefixOf]
  simp only [betweenL]
  rw [if_neg (fun e => hn (k a (.inl e))), if_neg (fun e => hn (k a (.inr (.inl e)))), if_pos]
  simp only [Bool.not_false, Bool.true_and, Bool.and_eq_true, bne_iff_ne, ne_eq]
  exact ⟨fun e => hn (k a (.inr (.inr (.inl e)))), fun e => hn (k a (.inr (.inr (.inr e))))⟩

def sepL (b : Bool) : List UInt8 := if b then [35, 32, 120, 32, 41, 32, 63, 10] else [32]

theorem sep_head (b : Bool) : ∃ c r, sepL b = c :: r ∧ (c = 32 ∨ c = 35) := by
  cases b
  · exact ⟨32, [], rfl, .inl rfl⟩
  · exact ⟨35, _, rfl, .inr rfl⟩

theorem sep_between (b : Bool) (x : List UInt8) : betweenL false (sepL b ++ x) = (sepL b).length + betweenL false x := by
  cases b
  · simp [sepL, betweenL]; omega
  · simp [sepL, betweenL]; omega

def joinFrom (f : Nat → Bool) : Nat → List Tok → List UInt8
  | _, [] => []
  | i, t :: ts => t.text ++ sepL (f i) ++ joinFrom f (i + 1) ts

def Like (t u : Tok) : Prop := t.kind = u.kind ∧ t.text = u.text

/-- two lists of tokens are alike, but for where they stand -/
def Alike : List Tok → List Tok → Prop
  | [], [] => True
  | t :: ts, u :: us => Like t u ∧ Alike ts us
  | _, _ => False

theorem Alike.length {ts us : List Tok} (h : Alike ts us) : ts.length = us.length := by
  induction ts generalizing us with
  | nil => cases us with
    | nil => rfl
    | cons => exact absurd h id
  | cons t ts ih => cases us with
    | nil => exact absurd h id
    | cons u us => simp [ih h.2]

theorem Alike.at {ts us : List Tok} (h : Alike ts us) (i : Nat) (h1 : i < ts.length) (h2 : i < us.length) : Like ts[i] us[i] := by
  induction ts generalizing us i with
  | nil => simp at h1
  | cons t ts ih => cases us with
    | nil => simp at h2
    | cons u us =>
      cases i with
      | zero => exact h.1
      | succ i => exact ih h.2 i (by simpa using h1) (by simpa using h2)

theorem join_cut (f : Nat → Bool) (ts : List Tok) (hg : ∀ t ∈ ts, Good t) : ∀ (i p : Nat) (pre : List UInt8), (∀ x, betweenL false (pre ++ x) = pre.length + betweenL false x) →
    ∃ us, Cut (pre ++ joinFrom f i ts) p us ∧ Alike us ts := by
  induction ts with
  | nil =>
    intro i p pre hp
    refine ⟨[], ?_, trivial⟩
    show betweenL false (pre ++ []) = (pre ++ []).length
    rw [hp]; simp [betweenL]
  | cons t ts ih =>
    intro i p pre hp
    have ht := hg t (by simp)
    obtain ⟨c, r, e, hc⟩ := sep_head (f i)
    obtain ⟨us, hu, ha⟩ := ih (fun u hu => hg u (List.mem_cons_of_mem _ hu)) (i + 1) (p + pre.length + t.text.length) (sepL (f i)) (sep_between (f i))
    have hb : betweenL false (pre ++ joinFrom f i (t :: ts)) = pre.length := by
      rw [hp, joinFrom, List.append_assoc, e, List.cons_append, good_start t ht _ _ hc, Nat.add_zero]
    have hd : (pre ++ joinFrom f i (t :: ts)).drop pre.length = t.text ++ (sepL (f i) ++ joinFrom f (i + 1) ts) := by
      rw [List.drop_left, joinFrom, List.append_assoc]
    refine ⟨⟨t.kind, t.text, p + pre.length⟩ :: us, ⟨?_, ?_, ?_, ?_, ht.1, ?_⟩, ⟨rfl, rfl⟩, ha⟩
    · rw [hb, joinFrom]
      have : t.text.length ≠ 0 := fun e => ht.1 (List.length_eq_zero_iff.1 e)
      simp; omega
    · rw [hb]
    · rw [hb, hd, e, List.cons_append]; exact ht.2 _ _ hc
    · rw [hb, hd]; simp
    · rw [hb, hd]; simp only [List.drop_left]; exact hu

theorem join_scan (f : Nat → Bool) (ts : List Tok) (l : List UInt8) (p : Nat) (hc : Cut l p ts) (hl : (joinFrom f 0 ts).length ≤ 4000) :
    ∃ us, scanR (joinFrom f 0 ts) = (us, 0, 0) ∧ Alike us ts := by
  obtain ⟨us, hu, ha⟩ := join_cut f ts (cut_good ts l p hc) 0 0 [] (fun x => by simp)
  refine ⟨us, ?_, ha⟩
  have hu' : Cut (joinFrom f 0 ts) 0 us := hu
  rw [scanR_S _ hl, scanS_cut _ _ _ _ us (Nat.le_refl _) hu', List.nil_append]

/-- as the loop joins them -/
def joinTo (f : Nat → Bool) (ts : List Tok) : Nat → List UInt8
  | 0 => []
  | k + 1 => joinTo f ts k ++ ((ts[k]?).map Tok.text).getD [] ++ sepL (f k)

theorem joinTo_from (f : Nat → Bool) (ts : List Tok) (k : Nat) (hk : k ≤ ts.length) : joinTo f ts k ++ joinFrom f k (ts.drop k) = joinFrom f 0 ts := by
  induction k with
  | zero => rfl
  | succ k ih =>
    have hlt : k < ts.length := by omega
    rw [← ih (by omega), List.drop_eq_getElem_cons hlt, joinFrom, joinTo, List.getElem?_eq_getElem hlt]
    simp [List.append_assoc]

theorem joinTo_all (f : Nat → Bool) (ts : List Tok) : joinTo f ts ts.length = joinFrom f 0 ts := by
  have := joinTo_from f ts ts.length (Nat.le_refl _)
  rw [List.drop_length] at this
  simpa [joinFrom] using this

theorem cut_text_le (ts : List Tok) : ∀ (l : List UInt8) (p : Nat), Cut l p ts → ∀ t ∈ ts, t.text.length ≤ l.length := by
  induction ts with
  | nil => intro l p _ t ht; cases ht
  | cons t ts ih =>
    intro l p h u hu
    obtain ⟨h1, h2, h3, h4, h5, h6⟩ := h
    rcases List.mem_cons.1 hu with rfl | hu
    · have := congrArg List.length h4
      rw [List.length_take, List.length_drop] at this
      omega
    · have := ih _ _ h6 u hu
      simp only [List.length_drop] at this
      omega

theorem joinTo_le (f : Nat → Bool) (ts : List Tok) (n : Nat) (h : ∀ t ∈ ts, t.text.length ≤ n) (k : Nat) : (joinTo f ts k).length ≤ k * (n + 8) := by
  induction k with
  | zero => simp [joinTo]
  | succ k ih =>
    have hs : (sepL (f k)).length ≤ 8 := by cases f k <;> decide
    have ht : (((ts[k]?).map Tok.text).getD []).length ≤ n := by
      rcases Nat.lt_or_ge k ts.length with hk | hk
      · rw [List.getElem?_eq_getElem hk]; exact h _ (List.getElem_mem hk)
      · rw [List.getElem?_eq_none hk]; simp
    simp only [joinTo, List.length_append]
    rw [Nat.succ_mul]; omega

end Go.Proofs.Ytkikljdpmklmhaa.Lx

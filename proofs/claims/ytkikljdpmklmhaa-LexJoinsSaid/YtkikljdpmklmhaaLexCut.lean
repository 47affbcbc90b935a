/- Plain facts of the scanner's result: what the tokens are, piece by piece. No program in sight. -/
import Derived.Test.YtkikljdpmklmhaaLexFacts
namespace Go.Proofs.Ytkikljdpmklmhaa.Lx

/-- the scanner where a blank may stand; r: within a remark -/
def scanS (r : Bool) (l : List UInt8) (p : Nat) (acc : List Tok) : List Tok × Nat × Nat :=
  scanAt (l.drop (betweenL r l)) (p + betweenL r l) acc

theorem scanR_S (l : List UInt8) (h : l.length ≤ 4000) : scanR l = scanS false l 0 [] := by
  rw [scanR, if_neg (by omega), scanS, Nat.zero_add]

/-- the tokens ts are cut out of l, which stands at p -/
def Cut : List UInt8 → Nat → List Tok → Prop
  | l, _, [] => betweenL false l = l.length
  | l, p, t :: ts => betweenL false l < l.length ∧ t.pos = p + betweenL false l ∧ tokenL (l.drop (betweenL false l)) = (t.kind, t.text.length) ∧
      t.text = (l.drop (betweenL false l)).take t.text.length ∧ t.text ≠ [] ∧ Cut ((l.drop (betweenL false l)).drop t.text.length) (p + betweenL false l + t.text.length) ts

theorem scanS_nil (r : Bool) (l : List UInt8) (p : Nat) (acc : List Tok) (h : betweenL r l = l.length) : scanS r l p acc = (acc, 0, 0) := by
  rw [scanS, h, List.drop_length, scanAt_nil]

theorem scanS_bad (r : Bool) (l : List UInt8) (p : Nat) (acc : List Tok) (h : betweenL r l < l.length) (h2 : (tokenL (l.drop (betweenL r l))).2 = 0) : scanS r l p acc = ([], p + betweenL r l, 10) := by
  rw [scanS, scanAt_bad _ _ _ (by intro e; have := congrArg List.length e; simp at this; omega) h2]

theorem scanS_step (r : Bool) (l : List UInt8) (p : Nat) (acc : List Tok) (h : betweenL r l < l.length) (h2 : (tokenL (l.drop (betweenL r l))).2 ≠ 0) :
    scanS r l p acc = scanS false ((l.drop (betweenL r l)).drop (tokenL (l.drop (betweenL r l))).2) (p + betweenL r l + (tokenL (l.drop (betweenL r l))).2)
      (acc ++ [⟨(tokenL (l.drop (betweenL r l))).1, (l.drop (betweenL r l)).take (tokenL (l.drop (betweenL r l))).2, p + betweenL r l⟩]) := by
  rw [scanS, scanAt_step _ _ _ (by intro e; have := congrArg List.length e; simp at this; omega) h2, scanS]

theorem scanS_cut (n : Nat) : ∀ (l : List UInt8) (p : Nat) (acc ts : List Tok), l.length ≤ n → Cut l p ts → scanS false l p acc = (acc ++ ts, 0, 0) := by
  induction n with
  | zero =>
    intro l p acc ts hn h
    cases ts with
    | nil => rw [scanS_nil _ _ _ _ h, List.append_nil]
    | cons t ts => exact absurd h.1 (by omega)
  | succ n ih =>
    intro l p acc ts hn h
    cases ts with
    | nil => rw [scanS_nil _ _ _ _ h, List.append_nil]
    | cons t ts =>
      obtain ⟨h1, h2, h3, h4, h5, h6⟩ := h
      have hl : t.text.length ≠ 0 := fun e => h5 (List.length_eq_zero_iff.1 e)
      rw [scanS_step _ _ _ _ h1 (by rw [h3]; exact hl), h3]
      simp only
      rw [ih _ _ _ ts (by simp; omega) h6, ← h4, ← h2]
      simp

theorem cut_of_scanS (n : Nat) : ∀ (l : List UInt8) (p : Nat) (acc : List Tok), l.length ≤ n → (scanS false l p acc).2.2 = 0 → ∃ ts, scanS false l p acc = (acc ++ ts, 0, 0) ∧ Cut l p ts := by
  induction n with
  | zero =>
    intro l p acc hn h
    have : l = [] := List.length_eq_zero_iff.1 (by omega)
    subst this
    exact ⟨[], by rw [scanS_nil _ _ _ _ rfl, List.append_nil], rfl⟩
  | succ n ih =>
    intro l p acc hn h
    have hb := betweenL_le false l
    by_cases h1 : betweenL false l = l.length
    · exact ⟨[], by rw [scanS_nil _ _ _ _ h1, List.append_nil], h1⟩
    · have h1' : betweenL false l < l.length := by omega
      by_cases h2 : (tokenL (l.drop (betweenL false l))).2 = 0
      · rw [scanS_bad _ _ _ _ h1' h2] at h; simp at h
      · have hne : l.drop (betweenL false l) ≠ [] := by intro e; have := congrArg List.length e; simp at this; omega
        have hle := tokenL_le _ hne
        rw [scanS_step _ _ _ _ h1' h2] at h
        obtain ⟨ts, e, hc⟩ := ih _ _ _ (by simp; omega) h
        refine ⟨⟨(tokenL (l.drop (betweenL false l))).1, (l.drop (betweenL false l)).take (tokenL (l.drop (betweenL false l))).2, p + betweenL false l⟩ :: ts, ?_, ?_⟩
        · rw [scanS_step _ _ _ _ h1' h2, e]; simp
        · have hlen : ((l.drop (betweenL false l)).take (tokenL (l.drop (betweenL false l))).2).length = (tokenL (l.drop (betweenL false l))).2 := by
            rw [List.length_take]; omega
          refine ⟨h1', rfl, ?_, ?_, ?_, ?_⟩
          · simp only [hlen]
          · simp only [hlen]
          · intro e2; simp only at e2; rw [e2] at hlen; simp at hlen; exact h2 hlen.symm
          · simp only [hlen]; exact hc

theorem scanS_er (n : Nat) : ∀ (r : Bool) (l : List UInt8) (p : Nat) (acc : List Tok), l.length ≤ n → (scanS r l p acc).2.2 = 0 ∨ ∃ q, scanS r l p acc = ([], q, 10) ∧ p ≤ q ∧ q < p + l.length := by
  induction n with
  | zero =>
    intro r l p acc hn
    have : l = [] := List.length_eq_zero_iff.1 (by omega)
    subst this
    left; rw [scanS_nil _ _ _ _ rfl]
  | succ n ih =>
    intro r l p acc hn
    have hb := betweenL_le r l
    by_cases h1 : betweenL r l = l.length
    · left; rw [scanS_nil _ _ _ _ h1]
    · have h1' : betweenL r l < l.length := by omega
      by_cases h2 : (tokenL (l.drop (betweenL r l))).2 = 0
      · right; exact ⟨_, scanS_bad _ _ _ _ h1' h2, by omega, by omega⟩
      · have hne : l.drop (betweenL r l) ≠ [] := by intro e; have := congrArg List.length e; simp at this; omega
        have hle := tokenL_le _ hne
        rw [scanS_step _ _ _ _ h1' h2]
        simp only [List.length_drop] at hle
        rcases ih false ((l.drop (betweenL r l)).drop (tokenL (l.drop (betweenL r l))).2) (p + betweenL r l + (tokenL (l.drop (betweenL r l))).2) (acc ++ [⟨(tokenL (l.drop (betweenL r l))).1, (l.drop (betweenL r l)).take (tokenL (l.drop (betweenL r l))).2, p + betweenL r l⟩]) (by simp; omega) with h | ⟨q, hq, a, b⟩
        · exact .inl h
        · refine .inr ⟨q, hq, by omega, ?_⟩
          simp only [List.length_drop] at b
          omega

theorem scanGo_length (n : Nat) : ∀ (l : List UInt8) (p : Nat) (acc : List Tok), (scanGo n l p acc).1.length ≤ acc.length + l.length := by
  induction n with
  | zero => intro l p acc; simp [scanGo]
  | succ n ih =>
    intro l p acc
    simp only [scanGo]
    split
    · simp
    · split
      · simp
      · rename_i h1 h2
        refine Nat.le_trans (ih _ _ _) ?_
        have : 1 ≤ l.length := by cases l with
          | nil => exact absurd rfl h1
          | cons a l => simp
        simp only [List.length_append, List.length_cons, List.length_nil, List.length_drop]; omega

theorem scanR_length (l : List UInt8) : (scanR l).1.length ≤ 4000 := by
  unfold scanR
  split
  · simp
  · unfold scanAt
    refine Nat.le_trans (scanGo_length _ _ _ _) ?_
    simp; omega

end Go.Proofs.Ytkikljdpmklmhaa.Lx

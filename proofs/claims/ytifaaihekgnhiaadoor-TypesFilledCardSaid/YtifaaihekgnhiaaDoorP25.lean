/- Texts laid together: LexCut, TyWell. -/
import Derived.Test.YtifaaihekgnhiaaDoorP01
import Derived.Test.YtifaaihekgnhiaaDoorP08
import Derived.Lib.Atoi

/- Plain facts of the scanner's result: what the tokens are, piece by piece. No program in sight. -/
namespace Go.Proofs.YtifaaihekgnhiaaDoor.Lx

/-- the scanner where a blank may stand; r: within a remark -/
def scanS (r : Bool) (l : List UInt8) (p : Nat) (acc : List Tok) : List Tok × Nat × Nat :=
  scanAt (l.drop (betweenL r l)) (p + betweenL r l) acc

theorem scanR_S (l : List UInt8) (h : l.length ≤ 4000) : scanR l = scanS false l 0 [] := by
  rw [scanR, if_neg (by omega), scanS, Nat.zero_add]

/-- the tokens ts are cut out of l, which stands at p -/
def Cut : List UInt8 → Nat → List Tok → Prop
  | l, _, [] => betweenL false l = l.length
  | l, p, t :: ts => betweenL false l < l.length ∧ t.pos = p + betweenL false l ∧ tokenL (l.drop (betweenL false l)) = (t.kind, t.text.length) ∧
      t.text = (l.drop (betweenL false l)).take t.text.length ∧ t.text ≠ [] ∧ Cut ((l.drop (betweenL false l)).drop t.text.length) (p + betweenL false l + t.text.length) ts

theorem scanS_nil (r : Bool) (l : List UInt8) (p : Nat) (acc : List Tok) (h : betweenL r l = l.length) : scanS r l p acc = (acc, 0, 0) := by
  rw [scanS, h, List.drop_length, scanAt_nil]

theorem scanS_bad (r : Bool) (l : List UInt8) (p : Nat) (acc : List Tok) (h : betweenL r l < l.length) (h2 : (tokenL (l.drop (betweenL r l))).2 = 0) : scanS r l p acc = ([], p + betweenL r l, 10) := by
  rw [scanS, scanAt_bad _ _ _ (by intro e; have := congrArg List.length e; simp at this; omega) h2]

theorem scanS_step (r : Bool) (l : List UInt8) (p : Nat) (acc : List Tok) (h : betweenL r l < l.length) (h2 : (tokenL (l.drop (betweenL r l))).2 ≠ 0) :
    scanS r l p acc = scanS false ((l.drop (betweenL r l)).drop (tokenL (l.drop (betweenL r l))).2) (p + betweenL r l + (tokenL (l.drop (betweenL r l))).2)
      (acc ++ [⟨(tokenL (l.drop (betweenL r l))).1, (l.drop (betweenL r l)).take (tokenL (l.drop (betweenL r l))).2, p + betweenL r l⟩]) := by
  rw [scanS, scanAt_step _ _ _ (by intro e; have := congrArg List.length e; simp at this; omega) h2, scanS]

theorem scanS_cut (n : Nat) : ∀ (l : List UInt8) (p : Nat) (acc ts : List Tok), l.length ≤ n → Cut l p ts → scanS false l p acc = (acc ++ ts, 0, 0) := by
  induction n with
  | zero =>
    intro l p acc ts hn h
    cases ts with
    | nil => rw [scanS_nil _ _ _ _ h, List.append_nil]
    | cons t ts => exact absurd h.1 (by omega)
  | succ n ih =>
    intro l p acc ts hn h
    cases ts with
    | nil => rw [scanS_nil _ _ _ _ h, List.append_nil]
    | cons t ts =>
      obtain ⟨h1, h2, h3, h4, h5, h6⟩ := h
      have hl : t.text.length ≠ 0 := fun e => h5 (List.length_eq_zero_iff.1 e)
      rw [scanS_step _ _ _ _ h1 (by rw [h3]; exact hl), h3]
      simp only
      rw [ih _ _ _ ts (by simp; omega) h6, ← h4, ← h2]
      simp

theorem cut_of_scanS (n : Nat) : ∀ (l : List UInt8) (p : Nat) (acc : List Tok), l.length ≤ n → (scanS false l p acc).2.2 = 0 → ∃ ts, scanS false l p acc = (acc ++ ts, 0, 0) ∧ Cut l p ts := by
  induction n with
  | zero =>
    intro l p acc hn h
    have : l = [] := List.length_eq_zero_iff.1 (by omega)
    subst this
    exact ⟨[], by rw [scanS_nil _ _ _ _ rfl, List.append_nil], rfl⟩
  | succ n ih =>
    intro l p acc hn h
    have hb := betweenL_le false l
    by_cases h1 : betweenL false l = l.length
    · exact ⟨[], by rw [scanS_nil _ _ _ _ h1, List.append_nil], h1⟩
    · have h1' : betweenL false l < l.length := by omega
      by_cases h2 : (tokenL (l.drop (betweenL false l))).2 = 0
      · rw [scanS_bad _ _ _ _ h1' h2] at h; simp at h
      · have hne : l.drop (betweenL false l) ≠ [] := by intro e; have := congrArg List.length e; simp at this; omega
        have hle := tokenL_le _ hne
        rw [scanS_step _ _ _ _ h1' h2] at h
        obtain ⟨ts, e, hc⟩ := ih _ _ _ (by simp; omega) h
        refine ⟨⟨(tokenL (l.drop (betweenL false l))).1, (l.drop (betweenL false l)).take (tokenL (l.drop (betweenL false l))).2, p + betweenL false l⟩ :: ts, ?_, ?_⟩
        · rw [scanS_step _ _ _ _ h1' h2, e]; simp
        · have hlen : ((l.drop (betweenL false l)).take (tokenL (l.drop (betweenL false l))).2).length = (tokenL (l.drop (betweenL false l))).2 := by
            rw [List.length_take]; omega
          refine ⟨h1', rfl, ?_, ?_, ?_, ?_⟩
          · simp only [hlen]
          · simp only [hlen]
          · intro e2; simp only at e2; rw [e2] at hlen; simp at hlen; exact h2 hlen.symm
          · simp only [hlen]; exact hc

theorem scanS_er (n : Nat) : ∀ (r : Bool) (l : List UInt8) (p : Nat) (acc : List Tok), l.length ≤ n → (scanS r l p acc).2.2 = 0 ∨ ∃ q, scanS r l p acc = ([], q, 10) ∧ p ≤ q ∧ q < p + l.length := by
  induction n with
  | zero =>
    intro r l p acc hn
    have : l = [] := List.length_eq_zero_iff.1 (by omega)
    subst this
    left; rw [scanS_nil _ _ _ _ rfl]
  | succ n ih =>
    intro r l p acc hn
    have hb := betweenL_le r l
    by_cases h1 : betweenL r l = l.length
    · left; rw [scanS_nil _ _ _ _ h1]
    · have h1' : betweenL r l < l.length := by omega
      by_cases h2 : (tokenL (l.drop (betweenL r l))).2 = 0
      · right; exact ⟨_, scanS_bad _ _ _ _ h1' h2, by omega, by omega⟩
      · have hne : l.drop (betweenL r l) ≠ [] := by intro e; have := congrArg List.length e; simp at this; omega
        have hle := tokenL_le _ hne
        rw [scanS_step _ _ _ _ h1' h2]
        simp only [List.length_drop] at hle
        rcases ih false ((l.drop (betweenL r l)).drop (tokenL (l.drop (betweenL r l))).2) (p + betweenL r l + (tokenL (l.drop (betweenL r l))).2) (acc ++ [⟨(tokenL (l.drop (betweenL r l))).1, (l.drop (betweenL r l)).take (tokenL (l.drop (betweenL r l))).2, p + betweenL r l⟩]) (by simp; omega) with h | ⟨q, hq, a, b⟩
        · exact .inl h
        · refine .inr ⟨q, hq, by omega, ?_⟩
          simp only [List.length_drop] at b
          omega

theorem scanGo_length (n : Nat) : ∀ (l : List UInt8) (p : Nat) (acc : List Tok), (scanGo n l p acc).1.length ≤ acc.length + l.length := by
  induction n with
  | zero => intro l p acc; simp [scanGo]
  | succ n ih =>
    intro l p acc
    simp only [scanGo]
    split
    · simp
    · split
      · simp
      · rename_i h1 h2
        refine Nat.le_trans (ih _ _ _) ?_
        have : 1 ≤ l.length := by cases l with
          | nil => exact absurd rfl h1
          | cons a l => simp
        simp only [List.length_append, List.length_cons, List.length_nil, List.length_drop]; omega

theorem scanR_length (l : List UInt8) : (scanR l).1.length ≤ 4000 := by
  unfold scanR
  split
  · simp
  · unfold scanAt
    refine Nat.le_trans (scanGo_length _ _ _ _) ?_
    simp; omega

end Go.Proofs.YtifaaihekgnhiaaDoor.Lx

/- What the scanner's tokens look like. No program in sight. -/
namespace Go.Proofs.YtifaaihekgnhiaaDoor.Tp
open Go.RowKit
open Lx

/-- a token cut from the begin of some text -/
def TokW (t : Tok) : Prop := ∃ l, l ≠ [] ∧ (tokenL l).2 ≠ 0 ∧ t.kind = (tokenL l).1 ∧ t.text = l.take (tokenL l).2

theorem scanGo_all (n : Nat) : ∀ (l : List UInt8) (p : Nat) (acc : List Tok), (∀ t ∈ acc, TokW t) → ∀ t ∈ (scanGo n l p acc).1, TokW t := by
  induction n with
  | zero => intro l p acc h; simpa [scanGo] using h
  | succ n ih =>
    intro l p acc h
    simp only [scanGo]
    split
    · exact h
    · split
      · simp
      · rename_i h1 h2
        refine ih _ _ _ fun t ht => ?_
        rcases List.mem_append.1 ht with ht | ht
        · exact h t ht
        · obtain rfl := List.mem_singleton.1 ht
          exact ⟨l, h1, h2, rfl, rfl⟩

theorem scanR_all (l : List UInt8) : ∀ t ∈ (scanR l).1, TokW t := by
  unfold scanR
  split
  · simp
  · exact scanGo_all _ _ _ _ (by simp)

theorem span_take (p : UInt8 → Bool) (l : List UInt8) : ∀ c ∈ l.take (spanL p l), p c = true := by
  unfold spanL
  rw [← List.takeWhile_append_dropWhile (p := p) (l := l)]
  intro c hc
  have e : (l.takeWhile p ++ l.dropWhile p).takeWhile p = l.takeWhile p := by rw [List.takeWhile_append_dropWhile]
  rw [e, List.take_left] at hc
  exact List.all_eq_true.1 (List.all_takeWhile (p := p) (l := l)) c hc

/-- is it a name's text? -/
structure NameT (s : List UInt8) : Prop where
  len : 1 ≤ s.length ∧ s.length ≤ 16
  inner : ∀ c ∈ s, innerB c = true

/-- is it a number's text? -/
structure NumT (s : List UInt8) : Prop where
  len : 1 ≤ s.length ∧ s.length ≤ 6
  digits : ∀ c ∈ s, digitB c = true
  head : 1 < s.length → s.headD 0 ≠ 48

theorem headD_take {l : List UInt8} {k : Nat} (h : 0 < k) : (l.take k).headD 0 = l.headD 0 := by
  cases l with
  | nil => simp
  | cons a l => cases k with
    | zero => omega
    | succ k => rfl

theorem num_take (l : List UInt8) (h : numberL l ≠ 0) : NumT (l.take (numberL l)) := by
  have hs := span_take digitB l
  have hle := spanL_le digitB l
  have h6 : ¬ (6 < spanL digitB l ∨ 1 < spanL digitB l ∧ l.headD 0 = 48) := fun hc => by unfold numberL at h; rw [if_pos hc] at h; exact h rfl
  have e : numberL l = spanL digitB l := by unfold numberL; rw [if_neg h6]
  rw [e] at h ⊢
  refine ⟨by rw [List.length_take]; omega, hs, fun h1 hh => ?_⟩
  rw [headD_take (by omega)] at hh
  rw [List.length_take] at h1
  exact h6 (.inr ⟨by omega, hh⟩)

/-- what a token is, by its kind -/
inductive TokK : Tok → Prop
  | var (t : Tok) (h : t.kind = 1) (n : NameT t.text) (c : lowerB (t.text.headD 0) = true) (k : keys.contains t.text = false) : TokK t
  | con (t : Tok) (h : t.kind = 2) (n : NameT t.text) (c : upperB (t.text.headD 0) = true) : TokK t
  | key (t : Tok) (h : t.kind = 3) (k : keys.contains t.text = true) : TokK t
  | num (t : Tok) (h : t.kind = 4) (n : NumT t.text) : TokK t
  | unk (t : Tok) (h : t.kind = 5) (ds : List UInt8) (e : t.text = 63 :: ds) (n : NumT ds) : TokK t
  | sign2 (t : Tok) (h : t.kind = 6) (e : t.text = [45, 62] ∨ t.text = [124, 62]) : TokK t
  | sign (t : Tok) (h : t.kind = 6) (c : UInt8) (e : t.text = [c]) (s : signs.contains c = true) : TokK t

theorem lower_inner {c : UInt8} (h : lowerB c = true) : innerB c = true := by simp [innerB, h]
theorem upper_inner {c : UInt8} (h : upperB c = true) : innerB c = true := by simp [innerB, h]

theorem tokK (t : Tok) (h : TokW t) : TokK t := by
  obtain ⟨l, hne, h2, hk, ht⟩ := h
  have hl1 : 1 ≤ l.length := by cases l with
    | nil => exact absurd rfl hne
    | cons a l => simp
  have hle := tokenL_le l hne
  unfold tokenL at h2 hk ht hle
  by_cases h0 : (lowerB (l.headD 0) || upperB (l.headD 0)) = true
  · rw [if_pos h0] at h2 hk ht hle
    by_cases h16 : 16 < spanL innerB l
    · rw [if_pos h16] at h2; exact absurd rfl h2
    · rw [if_neg h16] at h2 hk ht hle
      simp only at h2 hk ht hle
      have hn : NameT t.text := ⟨by rw [ht, List.length_take]; omega, by rw [ht]; exact span_take innerB l⟩
      have hh : t.text.headD 0 = l.headD 0 := by rw [ht]; exact headD_take (by omega)
      rw [← ht] at hk
      unfold kindL at hk
      cases hc : keys.contains t.text with
      | true => rw [if_pos hc] at hk; exact .key t hk hc
      | false =>
        rw [if_neg (by rw [hc]; simp), hh] at hk
        cases hu : upperB (l.headD 0) with
        | true => rw [if_pos hu] at hk; exact .con t hk hn (by rw [hh]; exact hu)
        | false =>
          rw [if_neg (by rw [hu]; simp)] at hk
          refine .var t hk hn ?_ hc
          rw [hu] at h0
          rw [hh]; simpa using h0
  · rw [if_neg h0] at h2 hk ht hle
    by_cases hd : digitB (l.headD 0) = true
    · rw [if_pos hd] at h2 hk ht hle
      simp only at h2 hk ht
      exact .num t hk (by rw [ht]; exact num_take l h2)
    · rw [if_neg hd] at h2 hk ht hle
      by_cases hq : l.headD 0 = 63
      · rw [if_pos hq] at h2 hk ht hle
        by_cases hz : numberL (l.drop 1) = 0
        · rw [if_pos hz] at h2; exact absurd rfl h2
        · rw [if_neg hz] at h2 hk ht hle
          simp only at h2 hk ht
          refine .unk t hk ((l.drop 1).take (numberL (l.drop 1))) ?_ (num_take _ hz)
          cases l with
          | nil => exact absurd rfl hne
          | cons a l => simp at hq; subst hq; rw [ht]; rfl
      · rw [if_neg hq] at h2 hk ht hle
        by_cases hp : ([45, 62].isPrefixOf l || [124, 62].isPrefixOf l) = true
        · rw [if_pos hp] at h2 hk ht hle
          simp only at h2 hk ht
          refine .sign2 t hk ?_
          match l, hp with
          | [], hp => simp [List.isPrefixOf] at hp
          | [x], hp => simp [List.isPrefixOf] at hp
          | x :: y :: l, hp =>
            simp [List.isPrefixOf] at hp
            rw [ht]
            rcases hp with ⟨h, h'⟩ | ⟨h, h'⟩
            · subst h h'; exact .inl rfl
            · subst h h'; exact .inr rfl
        · rw [if_neg hp] at h2 hk ht hle
          by_cases hs : signs.contains (l.headD 0) = true
          · rw [if_pos hs] at h2 hk ht hle
            simp only at h2 hk ht
            refine .sign t hk (l.headD 0) ?_ hs
            cases l with
            | nil => exact absurd rfl hne
            | cons a l => rw [ht]; rfl
          · rw [if_neg hs] at h2; exact absurd rfl h2

theorem decFrom_digits (l : List UInt8) (h : ∀ c ∈ l, digitB c = true) (n : Nat) : Lib.decFrom n l = some (l.foldl (fun n c => 10 * n + (c.toNat - 48)) n) := by
  induction l generalizing n with
  | nil => rfl
  | cons c l ih =>
    have hc : 48 ≤ c.toNat ∧ c.toNat ≤ 57 := by have := h c (by simp); simpa [digitB] using this
    have hd : Lib.digitVal c = some (c.toNat - 48) := by unfold Lib.digitVal; rw [if_pos hc]
    rw [Lib.decFrom, hd]
    simp only [List.foldl_cons]
    rw [ih (fun c hc => h c (by simp [hc])), Nat.mul_comm]

theorem atoi_digits (l : List UInt8) (h0 : l ≠ []) (h : ∀ c ∈ l, digitB c = true) : Lib.atoi l = some (numL l : Int) := by
  cases l with
  | nil => exact absurd rfl h0
  | cons c l =>
    have hc : 48 ≤ c.toNat ∧ c.toNat ≤ 57 := by have := h c (by simp); simpa [digitB] using this
    have a1 : ¬ (c == 45) = true := by intro e; rw [beq_iff_eq] at e; subst e; simp at hc
    have a2 : ¬ (c == 43) = true := by intro e; rw [beq_iff_eq] at e; subst e; simp at hc
    rw [Lib.atoi, if_neg a1, if_neg a2, Lib.decNat, if_neg (by simp), decFrom_digits _ h]
    rfl

/-- the scanner's tokens are as the reader wants them -/
theorem tokOk_scan (l : List UInt8) : TokOk (scanR l).1 := by
  intro t ht h5
  cases tokK t (scanR_all l t ht) with
  | unk _ ds e n =>
    rw [e]
    have := n.len
    refine ⟨by simp; omega, ?_⟩
    rw [List.tail_cons]
    exact atoi_digits ds (fun e => by rw [e] at this; simp at this) n.digits
  | var h _ _ _ | con h _ _ | key h _ | num h _ | sign2 h _ | sign h _ _ _ => omega

end Go.Proofs.YtifaaihekgnhiaaDoor.Tp

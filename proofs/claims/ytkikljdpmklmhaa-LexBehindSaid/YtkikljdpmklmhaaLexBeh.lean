/- Plain facts of texts behind one another: no program in sight. -/
import Derived.Test.YtkikljdpmklmhaaLexCut
namespace Go.Proofs.Ytkikljdpmklmhaa.Lx

theorem span_app (p : UInt8 → Bool) (l t : List UInt8) (h : p 10 = false) : spanL p (l ++ 10 :: t) = spanL p l := by
  unfold spanL
  induction l with
  | nil => simp [h]
  | cons a l ih =>
    simp only [List.cons_append, List.takeWhile_cons]
    cases p a
    · rfl
    · simp [ih]

theorem take_span_app (p : UInt8 → Bool) (l t : List UInt8) : (l ++ 10 :: t).take (spanL p l) = l.take (spanL p l) := by
  rw [List.take_append_of_le_length (spanL_le p l)]

theorem headD_app (l t : List UInt8) (h : l ≠ []) : (l ++ t).headD 0 = l.headD 0 := by
  cases l with
  | nil => exact absurd rfl h
  | cons a l => rfl

theorem number_app (l t : List UInt8) : numberL (l ++ 10 :: t) = numberL l := by
  unfold numberL
  rw [span_app _ _ _ (by decide)]
  cases l with
  | nil => simp [spanL]
  | cons a l => rfl

theorem prefix_app (a b : UInt8) (l t : List UInt8) (hb : b ≠ 10) (h : l ≠ []) : ([a, b] : List UInt8).isPrefixOf (l ++ 10 :: t) = ([a, b] : List UInt8).isPrefixOf l := by
  match l, h with
  | [x], _ =>
    have : (b == 10) = false := by simpa using hb
    simp [List.isPrefixOf, this]
  | x :: y :: l, _ => simp [List.isPrefixOf]

theorem token_app (l t : List UInt8) (h : l ≠ []) : tokenL (l ++ 10 :: t) = tokenL l := by
  unfold tokenL
  rw [headD_app _ _ h, span_app _ _ _ (by decide), take_span_app, number_app, prefix_app _ _ _ _ (by decide) h, prefix_app _ _ _ _ (by decide) h]
  have e : (l ++ 10 :: t).drop 1 = l.drop 1 ++ 10 :: t := by
    cases l with
    | nil => exact absurd rfl h
    | cons a l => rfl
  rw [e, number_app]

theorem between_app (r : Bool) (l t : List UInt8) : betweenL r (l ++ 10 :: t) = if betweenL r l < l.length then betweenL r l else l.length + 1 + betweenL false t := by
  induction l generalizing r with
  | nil => simp [betweenL]; omega
  | cons c l ih =>
    have h1 := betweenL_le true l
    have h2 := betweenL_le false l
    have h3 := betweenL_le r l
    simp only [List.cons_append, betweenL, List.length_cons]
    by_cases c1 : c = 35
    · simp only [c1, if_true, ih]
      split <;> split <;> omega
    · simp only [c1, if_false]
      by_cases c2 : c = 10
      · simp only [c2, if_true, ih]
        split <;> split <;> omega
      · simp only [c2, if_false]
        by_cases c3 : (!r && c != 32 && c != 9) = true
        · simp only [c3, if_true]
          rw [if_pos (by omega)]
        · simp only [c3]
          simp only [Bool.false_eq_true, if_false, ih]
          split <;> split <;> omega

theorem scanS_join (n : Nat) : ∀ (r : Bool) (l t : List UInt8) (p : Nat) (acc : List Tok), l.length ≤ n →
    scanS r (l ++ 10 :: t) p acc = if (scanS r l p acc).2.2 = 0 then scanS false t (p + l.length + 1) (scanS r l p acc).1 else ([], (scanS r l p acc).2.1, 10) := by
  induction n with
  | zero =>
    intro r l t p acc hn
    have : l = [] := List.length_eq_zero_iff.1 (by omega)
    subst this
    rw [scanS_nil r [] p acc rfl]
    simp only [if_true, List.nil_append, List.length_nil, Nat.add_zero]
    unfold scanS
    simp only [betweenL]
    rw [if_neg (by decide)]
    simp only [if_true, List.drop_succ_cons]
    rw [show p + (betweenL false t + 1) = p + 1 + betweenL false t by omega]
  | succ n ih =>
    intro r l t p acc hn
    have hb := betweenL_le r l
    have ha := between_app r l t
    by_cases h1 : betweenL r l = l.length
    · rw [scanS_nil r l p acc h1]
      simp only [if_true]
      rw [if_neg (by omega)] at ha
      unfold scanS
      rw [ha, show l.length + 1 + betweenL false t = l.length + (1 + betweenL false t) by omega, List.drop_append, List.drop_of_length_le (by omega)]
      simp only [List.nil_append]
      rw [show l.length + (1 + betweenL false t) - l.length = betweenL false t + 1 by omega, List.drop_succ_cons]
      rw [show p + (l.length + (1 + betweenL false t)) = p + l.length + 1 + betweenL false t by omega]
    · have h1' : betweenL r l < l.length := by omega
      rw [if_pos h1'] at ha
      have hne : l.drop (betweenL r l) ≠ [] := by intro e; have := congrArg List.length e; simp at this; omega
      have hd : (l ++ 10 :: t).drop (betweenL r l) = l.drop (betweenL r l) ++ 10 :: t := by
        rw [List.drop_append_of_le_length (by omega)]
      have hle := tokenL_le _ hne
      have htk : tokenL ((l ++ 10 :: t).drop (betweenL r (l ++ 10 :: t))) = tokenL (l.drop (betweenL r l)) := by rw [ha, hd, token_app _ _ hne]
      by_cases h2 : (tokenL (l.drop (betweenL r l))).2 = 0
      · rw [scanS_bad r l p acc h1' h2, scanS_bad r _ p acc (by rw [ha]; simp; omega) (by rw [htk]; exact h2), ha]
        simp
      · rw [scanS_step r l p acc h1' h2, scanS_step r _ p acc (by rw [ha]; simp; omega) (by rw [htk]; exact h2), htk, ha, hd]
        rw [List.drop_append_of_le_length hle, List.take_append_of_le_length hle]
        rw [ih false _ t _ _ (by simp; omega)]
        simp only [List.length_drop] at hle
        rw [show p + betweenL r l + (tokenL (l.drop (betweenL r l))).2 + ((l.drop (betweenL r l)).drop (tokenL (l.drop (betweenL r l))).2).length + 1 = p + l.length + 1 by simp only [List.length_drop]; omega]

def sh (d : Nat) (t : Tok) : Tok := ⟨t.kind, t.text, t.pos + d⟩

theorem scanS_shift (n : Nat) : ∀ (r : Bool) (l : List UInt8) (p d : Nat) (pre acc : List Tok), l.length ≤ n →
    scanS r l (p + d) (pre ++ acc.map (sh d)) = if (scanS r l p acc).2.2 = 0 then (pre ++ (scanS r l p acc).1.map (sh d), 0, 0) else ([], (scanS r l p acc).2.1 + d, 10) := by
  induction n with
  | zero =>
    intro r l p d pre acc hn
    have : l = [] := List.length_eq_zero_iff.1 (by omega)
    subst this
    rw [scanS_nil _ _ _ _ rfl, scanS_nil _ _ _ _ rfl]; rfl
  | succ n ih =>
    intro r l p d pre acc hn
    have hb := betweenL_le r l
    by_cases h1 : betweenL r l = l.length
    · rw [scanS_nil _ _ _ _ h1, scanS_nil _ _ _ _ h1]; rfl
    · have h1' : betweenL r l < l.length := by omega
      by_cases h2 : (tokenL (l.drop (betweenL r l))).2 = 0
      · rw [scanS_bad _ _ _ _ h1' h2, scanS_bad _ _ _ _ h1' h2]
        simp; omega
      · rw [scanS_step _ _ _ _ h1' h2, scanS_step _ _ _ acc h1' h2]
        have h3 := ih false ((l.drop (betweenL r l)).drop (tokenL (l.drop (betweenL r l))).2) (p + betweenL r l + (tokenL (l.drop (betweenL r l))).2) d pre
          (acc ++ [⟨(tokenL (l.drop (betweenL r l))).1, (l.drop (betweenL r l)).take (tokenL (l.drop (betweenL r l))).2, p + betweenL r l⟩]) (by simp; omega)
        rw [← h3]
        rw [List.map_append, ← List.append_assoc]
        simp only [List.map_cons, List.map_nil, sh]
        rw [show p + d + betweenL r l + (tokenL (l.drop (betweenL r l))).2 = p + betweenL r l + (tokenL (l.drop (betweenL r l))).2 + d by omega,
          show p + d + betweenL r l = p + betweenL r l + d by omega]

theorem scanS_pos (n : Nat) : ∀ (r : Bool) (l : List UInt8) (p : Nat) (acc : List Tok), l.length ≤ n → ∀ t ∈ (scanS r l p acc).1, t ∈ acc ∨ t.pos < p + l.length := by
  induction n with
  | zero =>
    intro r l p acc hn
    have : l = [] := List.length_eq_zero_iff.1 (by omega)
    subst this
    rw [scanS_nil _ _ _ _ rfl]; exact fun t h => .inl h
  | succ n ih =>
    intro r l p acc hn t ht
    have hb := betweenL_le r l
    by_cases h1 : betweenL r l = l.length
    · rw [scanS_nil _ _ _ _ h1] at ht; exact .inl ht
    · have h1' : betweenL r l < l.length := by omega
      by_cases h2 : (tokenL (l.drop (betweenL r l))).2 = 0
      · rw [scanS_bad _ _ _ _ h1' h2] at ht; cases ht
      · have hne : l.drop (betweenL r l) ≠ [] := by intro e; have := congrArg List.length e; simp at this; omega
        have hle := tokenL_le _ hne
        simp only [List.length_drop] at hle
        rw [scanS_step _ _ _ _ h1' h2] at ht
        rcases ih _ _ _ _ (by simp; omega) t ht with h | h
        · rcases List.mem_append.1 h with h | h
          · exact .inl h
          · have : t = _ := List.mem_singleton.1 h
            subst this
            exact .inr (by simp only; omega)
        · refine .inr ?_
          simp only [List.length_drop] at h
          omega

end Go.Proofs.Ytkikljdpmklmhaa.Lx

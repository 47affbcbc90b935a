/- Plain facts of numbers alone: no program in sight. -/
import Derived.Test.YtkikljdpmklmhaaLexFacts
namespace Go.Proofs.Ytkikljdpmklmhaa.Lx

theorem digit_not {c : UInt8} (h : digitB c = true) : lowerB c = false ∧ upperB c = false ∧ c ≠ 35 ∧ c ≠ 10 ∧ c ≠ 32 ∧ c ≠ 9 ∧ c ≠ 63 := by
  simp only [digitB, decide_eq_true_eq] at h
  refine ⟨by simp only [lowerB, decide_eq_false_iff_not]; omega, by simp only [upperB, decide_eq_false_iff_not]; omega, ?_, ?_, ?_, ?_, ?_⟩ <;> (intro e; subst e; simp at h)

theorem numberL_all (l : List UInt8) (hd : ∀ c ∈ l, digitB c = true) (h0 : 1 < l.length → l.headD 0 ≠ 48) : numberL l = if 6 < l.length then 0 else l.length := by
  have hs : spanL digitB l = l.length := spanL_all _ _ (by simpa using hd)
  rw [numberL, hs]
  by_cases h6 : 6 < l.length
  · rw [if_pos (.inl h6), if_pos h6]
  · rw [if_neg h6, if_neg]
    rintro (h | h)
    · exact h6 h
    · exact h0 h.1 h.2

theorem scanR_number (l : List UInt8) (hl : l.length ≤ 4000) (hn : l ≠ []) (hd : ∀ c ∈ l, digitB c = true) (h0 : 1 < l.length → l.headD 0 ≠ 48) :
    scanR l = if 6 < l.length then ([], 0, 10) else ([⟨4, l, 0⟩], 0, 0) := by
  obtain ⟨c, r, rfl⟩ : ∃ c r, l = c :: r := by
    cases l with
    | nil => exact absurd rfl hn
    | cons c r => exact ⟨c, r, rfl⟩
  obtain ⟨n1, n2, n3, n4, n5, n6, n7⟩ := digit_not (hd c (by simp))
  have hb : betweenL false (c :: r) = 0 := by simp [betweenL, n3, n4, n5, n6]
  have ht : tokenL (c :: r) = (4, numberL (c :: r)) := by
    unfold tokenL; simp only [List.headD_cons, n1, n2, hd c (by simp)]; rfl
  rw [numberL_all _ hd h0] at ht
  rw [scanR, if_neg (by omega), hb, List.drop_zero]
  by_cases h6 : 6 < (c :: r).length
  · rw [if_pos h6] at *
    exact scanAt_bad _ 0 [] hn (by rw [ht])
  · rw [if_neg h6] at *
    rw [scanAt_step _ 0 [] hn (by rw [ht]; simp), ht]
    simp [betweenL, scanAt_nil]

theorem scanR_meta (l : List UInt8) (hl : l.length < 4000) (hn : l ≠ []) (hd : ∀ c ∈ l, digitB c = true) (h0 : 1 < l.length → l.headD 0 ≠ 48) :
    scanR (63 :: l) = if 6 < l.length then ([], 0, 10) else ([⟨5, 63 :: l, 0⟩], 0, 0) := by
  have hb : betweenL false (63 :: l) = 0 := by simp [betweenL]
  have ht : tokenL (63 :: l) = if numberL l = 0 then (0, 0) else (5, numberL l + 1) := by
    unfold tokenL; simp [lowerB, upperB, digitB]
  have hp : l.length ≠ 0 := fun h => hn (List.length_eq_zero_iff.1 h)
  rw [numberL_all _ hd h0] at ht
  rw [scanR, if_neg (by simp; omega), hb, List.drop_zero]
  by_cases h6 : 6 < l.length
  · rw [if_pos h6] at *
    exact scanAt_bad _ 0 [] (by simp) (by rw [ht]; simp)
  · rw [if_neg h6] at *
    rw [if_neg hp] at ht
    rw [scanAt_step _ 0 [] (by simp) (by rw [ht]; simp), ht]
    simp [betweenL, scanAt_nil]

end Go.Proofs.Ytkikljdpmklmhaa.Lx

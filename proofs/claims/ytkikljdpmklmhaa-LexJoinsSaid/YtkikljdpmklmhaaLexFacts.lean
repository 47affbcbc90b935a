/- Plain facts of the scanner: no program in sight. -/
import Derived.Test.YtkikljdpmklmhaaLexPlain
namespace Go.Proofs.Ytkikljdpmklmhaa.Lx

theorem spanL_take_all (p : UInt8 → Bool) (l : List UInt8) (h : ∀ c ∈ l, p c = true) : spanL p l = l.length := spanL_all p l (by simpa using h)

/-- a word alone -/
theorem scanR_word (l : List UInt8) (hs : l.length ≤ 4000) (h0 : (lowerB (l.headD 0) || upperB (l.headD 0)) = true) (hn : l ≠ []) (hi : ∀ c ∈ l, innerB c = true) :
    scanR l = if 16 < l.length then ([], 0, 10) else ([⟨kindL l, l, 0⟩], 0, 0) := by
  have hb : betweenL false l = 0 := by
    cases l with
    | nil => rfl
    | cons c l =>
      simp only [List.headD_cons, lowerB, upperB, Bool.or_eq_true] at h0
      simp only [betweenL]
      have n1 : ¬ c = 35 := by intro h; subst h; simp at h0
      have n2 : ¬ c = 10 := by intro h; subst h; simp at h0
      have n3 : ¬ c = 32 := by intro h; subst h; simp at h0
      have n4 : ¬ c = 9 := by intro h; subst h; simp at h0
      simp [n1, n2, n3, n4]
  have ht : tokenL l = if 16 < l.length then (0, 0) else (kindL l, l.length) := by
    unfold tokenL
    rw [if_pos h0, spanL_take_all _ _ hi, List.take_length]
  have hl : l.length ≠ 0 := by intro h; exact hn (List.length_eq_zero_iff.1 h)
  rw [scanR, if_neg (by omega), hb, List.drop_zero]
  by_cases h16 : 16 < l.length
  · rw [if_pos h16] at *
    exact scanAt_bad l 0 [] hn (by rw [ht])
  · rw [if_neg h16] at *
    rw [scanAt_step l 0 [] hn (by rw [ht]; exact hl), ht]
    simp [betweenL, scanAt_nil]

end Go.Proofs.Ytkikljdpmklmhaa.Lx

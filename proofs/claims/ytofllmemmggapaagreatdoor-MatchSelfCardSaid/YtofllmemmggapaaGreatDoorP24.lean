/- Texts laid together: TyScanI, TyMade, TyBk, TyLawP, TyNum, TyLawQ, RfPl, MaPl, MaMt, TyAwkP. -/
import Derived.Test.YtofllmemmggapaaGreatDoorP20
import Derived.Test.YtofllmemmggapaaGreatDoorP22
import Derived.Test.YtofllmemmggapaaGreatDoorP16
import Derived.Test.YtofllmemmggapaaGreatDoorP23
import Derived.KernelRfl

/- A type's items are what is cut out of its text. No program in sight. -/
namespace Go.Proofs.YtofllmemmggapaaGreatDoor.Tp
open Lx

/-- may it be an item? -/
def ItOk (i : It) : Prop :=
  (i.k = 1 ∧ NameT i.s ∧ lowerB (i.s.headD 0) = true ∧ keys.contains i.s = false) ∨ (i.k = 2 ∧ NameT i.s ∧ upperB (i.s.headD 0) = true) ∨ (i.k = 3 ∧ i.s = fa) ∨
  (i.k = 5 ∧ ∃ ds, i.s = 63 :: ds ∧ NumT ds) ∨ (i.k = 6 ∧ (i.s = lpar ∨ i.s = rpar ∨ i.s = dot ∨ i.s = arrow))

theorem span_app0 (p : UInt8 → Bool) (s r : List UInt8) (h : ∀ c ∈ s, p c = true) (hr : p (r.headD 0) = false) : spanL p (s ++ r) = s.length := by
  unfold spanL
  rw [List.takeWhile_append_of_pos h]
  cases r with
  | nil => simp
  | cons c r => have : p c = false := hr; simp [this]

theorem headD_app0 {s r : List UInt8} (h : s ≠ []) : (s ++ r).headD 0 = s.headD 0 := by
  cases s with
  | nil => exact absurd rfl h
  | cons a s => rfl

theorem digit_inner {c : UInt8} (h : innerB c = false) : digitB c = false := by
  simp only [innerB, Bool.or_eq_false_iff] at h; exact h.1.2

theorem number_app0 (ds r : List UInt8) (h : NumT ds) (hr : digitB (r.headD 0) = false) : numberL (ds ++ r) = ds.length := by
  have hs := span_app0 digitB ds r h.digits hr
  have h1 := h.len
  unfold numberL
  rw [hs, if_neg, ]
  rintro (h2 | ⟨h2, h3⟩)
  · omega
  · rw [headD_app0 (by intro e; rw [e] at h1; simp at h1)] at h3
    exact h.head h2 h3

theorem nameT_ne {s : List UInt8} (h : NameT s) : s ≠ [] := by
  intro e; have := h.len; rw [e] at this; simp at this

theorem lower_not_upper {c : UInt8} (h : lowerB c = true) : upperB c = false := by
  unfold lowerB at h; unfold upperB
  simp only [decide_eq_true_eq] at h
  simp only [decide_eq_false_iff_not]
  omega
theorem upper_no_key {s : List UInt8} (h : upperB (s.headD 0) = true) : keys.contains s = false := by
  rw [← Bool.not_eq_true, List.contains_iff_mem]
  intro hk
  simp only [keys, List.mem_cons, List.not_mem_nil, or_false] at hk
  rcases hk with rfl | rfl | rfl | rfl | rfl | rfl <;> revert h <;> decide

theorem word_tok (s r : List UInt8) (h : NameT s) (h0 : (lowerB (s.headD 0) || upperB (s.headD 0)) = true) (hr : innerB (r.headD 0) = false) : tokenL (s ++ r) = (kindL s, s.length) := by
  have hs := span_app0 innerB s r h.inner hr
  have h1 := h.len
  unfold tokenL
  rw [headD_app0 (nameT_ne h), if_pos h0, hs, if_neg (by omega), List.take_left]

/-- what is cut out -/
theorem tok_it (i : It) (h : ItOk i) (r : List UInt8) (hr : i.k = 6 ∨ innerB (r.headD 0) = false) : tokenL (i.s ++ r) = (i.k, i.s.length) := by
  rcases h with ⟨hk, hn, hl, hc⟩ | ⟨hk, hn, hu⟩ | ⟨hk, hs⟩ | ⟨hk, ds, hs, hn⟩ | ⟨hk, hs⟩
  · rw [word_tok _ _ hn (by rw [hl]; rfl) (hr.resolve_left (by omega)), hk]
    unfold kindL
    rw [hc, lower_not_upper hl]; rfl
  · rw [word_tok _ _ hn (by rw [hu]; simp) (hr.resolve_left (by omega)), hk]
    unfold kindL
    rw [upper_no_key hu, hu]; rfl
  · have hn : NameT fa := ⟨by decide, by decide⟩
    rw [hs, word_tok fa _ hn (by decide) (hr.resolve_left (by omega)), hk]
    rfl
  · have hn1 := number_app0 ds r hn (digit_inner (hr.resolve_left (by omega)))
    have h1 := hn.len
    rw [hs, hk]
    show tokenL (63 :: (ds ++ r)) = _
    unfold tokenL
    rw [if_neg (show ¬ (lowerB ((63 :: (ds ++ r)).headD 0) || upperB ((63 :: (ds ++ r)).headD 0)) = true from by show ¬ (lowerB 63 || upperB 63) = true; decide), if_neg (show ¬ digitB ((63 :: (ds ++ r)).headD 0) = true from by show ¬ digitB 63 = true; decide), if_pos (show (63 :: (ds ++ r)).headD 0 = 63 from rfl)]
    simp only [List.drop_succ_cons, List.drop_zero, hn1]
    rw [if_neg (by omega)]
    simp
  · rw [hk]
    rcases hs with hs | hs | hs | hs <;> rw [hs] <;> rfl

theorem it_ne {i : It} (h : ItOk i) : i.s ≠ [] := by
  rcases h with ⟨_, hn, _⟩ | ⟨_, hn, _⟩ | ⟨_, hs⟩ | ⟨_, ds, hs, _⟩ | ⟨_, hs⟩
  · exact nameT_ne hn
  · exact nameT_ne hn
  · rw [hs]; simp [fa]
  · rw [hs]; simp
  · rcases hs with hs | hs | hs | hs <;> rw [hs] <;> simp [lpar, rpar, dot, arrow]

theorem inner_head {c : UInt8} (h : lowerB c = true ∨ upperB c = true) : c ≠ 35 ∧ c ≠ 10 ∧ c ≠ 32 ∧ c ≠ 9 := by
  refine ⟨?_, ?_, ?_, ?_⟩ <;> (rintro rfl; revert h; decide)

theorem it_head {i : It} (h : ItOk i) : (i.s.headD 0) ≠ 35 ∧ (i.s.headD 0) ≠ 10 ∧ (i.s.headD 0) ≠ 32 ∧ (i.s.headD 0) ≠ 9 := by
  rcases h with ⟨_, hn, hl, _⟩ | ⟨_, hn, hu⟩ | ⟨_, hs⟩ | ⟨_, ds, hs, _⟩ | ⟨_, hs⟩
  · exact inner_head (.inl hl)
  · exact inner_head (.inr hu)
  · rw [hs]; decide
  · rw [hs]; show (63 : UInt8) ≠ 35 ∧ (63 : UInt8) ≠ 10 ∧ (63 : UInt8) ≠ 32 ∧ (63 : UInt8) ≠ 9; decide
  · rcases hs with hs | hs | hs | hs <;> rw [hs] <;> decide

theorem between_it {i : It} (h : ItOk i) (r : List UInt8) : betweenL false (i.s ++ r) = 0 := by
  have h1 := it_head h
  have h2 := it_ne h
  cases hs : i.s with
  | nil => exact absurd hs h2
  | cons c s =>
    rw [hs] at h1
    simp only [List.headD_cons] at h1
    show betweenL false (c :: (s ++ r)) = 0
    rw [betweenL, if_neg h1.1, if_neg h1.2.1, if_pos]
    simp [h1.2.2.1, h1.2.2.2]

theorem textI_head {l : List It} (h : okFrom false l) (hl : ∀ i ∈ l, ItOk i) : innerB ((textI l).headD 0) = false := by
  cases l with
  | nil => rfl
  | cons i l =>
    have hi := hl i (by simp)
    rcases h.1 with h | h | h
    · rw [textI_cons, h]; rfl
    · cases hb : i.bl with
      | true => rw [textI_cons, hb]; rfl
      | false =>
        rw [textI_cons, hb]
        simp only [Bool.false_eq_true, if_false, List.nil_append]
        rw [headD_app0 (it_ne hi)]
        rcases hi with ⟨hk, _⟩ | ⟨hk, _⟩ | ⟨hk, _⟩ | ⟨hk, _⟩ | ⟨_, hs⟩
        all_goals first | omega | (rcases hs with hs | hs | hs | hs <;> rw [hs] <;> decide)
    · cases h

def kt (t : Tok) : Nat × List UInt8 := (t.kind, t.text)
def ktI (i : It) : Nat × List UInt8 := (i.k, i.s)

theorem cut_it : ∀ (l : List It) (ps : Bool) (p : Nat), (∀ i ∈ l, ItOk i) → okFrom ps l → ∃ ts, Cut (textI l) p ts ∧ ts.map kt = l.map ktI := by
  intro l
  induction l with
  | nil => intro ps p _ _; exact ⟨[], rfl, rfl⟩
  | cons i l ih =>
    intro ps p h ho
    have hi := h i (by simp)
    have hl := fun j hj => h j (List.mem_cons_of_mem _ hj)
    have hb : betweenL false (textI (i :: l)) = if i.bl then 1 else 0 := by
      rw [textI_cons]
      cases i.bl with
      | true =>
        simp only [if_true]
        show betweenL false (32 :: (i.s ++ textI l)) = 1
        rw [betweenL, if_neg (by decide), if_neg (by decide), if_neg (by decide), between_it hi]
      | false =>
        simp only [Bool.false_eq_true, if_false, List.nil_append]
        exact between_it hi _
    have hd : (textI (i :: l)).drop (betweenL false (textI (i :: l))) = i.s ++ textI l := by
      rw [hb, textI_cons]
      cases i.bl <;> simp
    have hne := it_ne hi
    have hlt : betweenL false (textI (i :: l)) < (textI (i :: l)).length := by
      have := congrArg List.length hd
      rw [List.length_drop, List.length_append] at this
      have : 0 < i.s.length := List.length_pos_iff.2 hne
      omega
    have htok : tokenL (i.s ++ textI l) = (i.k, i.s.length) := by
      refine tok_it i hi _ ?_
      by_cases hk : i.k = 6
      · exact .inl hk
      · refine .inr (textI_head ?_ hl)
        have := ho.2
        rwa [beq_eq_false_iff_ne.2 hk] at this
    obtain ⟨ts, hc, hm⟩ := ih (i.k == 6) (p + betweenL false (textI (i :: l)) + i.s.length) hl ho.2
    refine ⟨⟨i.k, i.s, p + betweenL false (textI (i :: l))⟩ :: ts, ⟨hlt, rfl, by rw [hd]; exact htok, by rw [hd]; simp, hne, ?_⟩, by rw [List.map_cons, List.map_cons, hm]; rfl⟩
    rw [hd]
    simpa using hc

/-- what is cut out hangs on the text alone -/
theorem cut_unique {l : List UInt8} {p : Nat} {ts us : List Tok} (h : Cut l p ts) (k : Cut l p us) : ts = us := by
  have h1 := scanS_cut l.length l p [] ts (Nat.le_refl _) h
  have h2 := scanS_cut l.length l p [] us (Nat.le_refl _) k
  rw [h1] at h2
  simpa using h2

/-- a type whose names are words -/
def LexK (t : Ty) : Prop := ((t.kind = 1 ∨ t.kind = 5) → NameT t.name.data.toList ∧ lowerB (t.name.data.toList.headD 0) = true ∧ keys.contains t.name.data.toList = false) ∧ (t.kind = 3 → NameT t.name.data.toList ∧ upperB (t.name.data.toList.headD 0) = true) ∧ (t.kind = 2 → t.n < 1000000)
mutual
def LexT : Ty → Prop
  | .mk k s n args => LexK (.mk k s n args) ∧ LexL args
def LexL : List Ty → Prop
  | [] => True
  | t :: ts => LexT t ∧ LexL ts
end
theorem LexL_iff (ts : List Ty) : LexL ts ↔ ∀ t ∈ ts, LexT t := by
  induction ts with
  | nil => simp [LexL]
  | cons t ts ih => rw [LexL, ih]; simp
theorem lex_iff (t : Ty) : LexT t ↔ LexK t ∧ ∀ a ∈ t.args, LexT a := by
  cases t with
  | mk k s n args => rw [LexT, LexL_iff]; rfl

theorem dec_digits (u : Nat) : (∀ c ∈ Lib.decDigits u, digitB c = true) ∧ 1 ≤ (Lib.decDigits u).length ∧ (1 ≤ u → (Lib.decDigits u).headD 0 ≠ 48) ∧ ∀ k, 1 ≤ k → u < 10 ^ k → (Lib.decDigits u).length ≤ k := by
  induction u using Nat.strongRecOn with
  | _ u ih =>
    rw [Lib.decDigits]
    have dig : ∀ d, d < 10 → digitB (UInt8.ofNat (48 + d)) = true := fun d hd => by
      unfold digitB; simp only [decide_eq_true_eq]; rw [UInt8.toNat_ofNat']; omega
    split
    · next h =>
      refine ⟨by simp only [List.mem_singleton]; rintro c rfl; exact dig u h, by simp, fun h1 => ?_, fun k hk _ => by simpa using hk⟩
      simp only [List.headD_cons]
      intro e
      have := congrArg UInt8.toNat e
      rw [UInt8.toNat_ofNat'] at this
      simp at this; omega
    · next h =>
      obtain ⟨h1, h2, h3, h4⟩ := ih (u / 10) (by omega)
      refine ⟨?_, by simp, fun _ => ?_, fun k hk hu => ?_⟩
      · intro c hc
        rcases List.mem_append.1 hc with hc | hc
        · exact h1 c hc
        · rw [List.mem_singleton.1 hc]; exact dig _ (by omega)
      · rw [headD_app0 (by intro e; rw [e] at h2; simp at h2)]
        exact h3 (by omega)
      · cases k with
        | zero => omega
        | succ k =>
          rw [List.length_append]
          have hk1 : 1 ≤ k := by
            cases k with
            | zero => simp at hu; omega
            | succ k => omega
          have := h4 k hk1 (by rw [Nat.pow_succ] at hu; omega)
          simp; omega
theorem num_itoa (n : Int) (h0 : 0 ≤ n) (h : n < 1000000) : NumT (Lib.itoa n) := by
  obtain ⟨u, rfl⟩ : ∃ u : Nat, n = (u : Int) := ⟨n.toNat, by omega⟩
  rw [Lib.itoa_nonneg]
  obtain ⟨h1, h2, h3, h4⟩ := dec_digits u
  have h5 := h4 6 (by omega) (by omega)
  refine ⟨⟨h2, h5⟩, h1, fun hl => ?_⟩
  refine h3 ?_
  rcases Nat.eq_zero_or_pos u with h | h
  · subst h
    have := h4 1 (by omega) (by omega)
    omega
  · exact h

theorem lexs_it : ∀ (d : Nat) (t : Ty) (b : Bool), t.depth ≤ d → Std t → LexT t → ∀ i ∈ itF d b t, ItOk i := by
  intro d
  have hsig : ∀ b : Bool, ItOk ⟨b, 6, lpar⟩ ∧ ItOk ⟨b, 6, rpar⟩ ∧ ItOk ⟨b, 6, dot⟩ ∧ ItOk ⟨b, 6, arrow⟩ := fun b =>
    ⟨.inr (.inr (.inr (.inr ⟨rfl, .inl rfl⟩))), .inr (.inr (.inr (.inr ⟨rfl, .inr (.inl rfl)⟩))), .inr (.inr (.inr (.inr ⟨rfl, .inr (.inr (.inl rfl))⟩))), .inr (.inr (.inr (.inr ⟨rfl, .inr (.inr (.inr rfl))⟩)))⟩
  induction d with
  | zero => intro t b h; rw [t.depth_eq] at h; omega
  | succ d ih =>
    intro t b h hs hx i hi
    have hd : ∀ a ∈ t.args, a.depth ≤ d := fun a ha => by have := depth_arg _ ha; rw [t.depth_eq] at h; omega
    have hlx := (lex_iff t).1 hx
    have hpar : ∀ a ∈ t.args, ∀ b' : Bool, ∀ i, i ∈ (⟨b', 6, lpar⟩ : It) :: (itF d false a ++ [⟨false, 6, rpar⟩]) → ItOk i := fun a ha b' i hi => by
      rcases List.mem_cons.1 hi with rfl | hi
      · exact (hsig b').1
      · rcases List.mem_append.1 hi with hi | hi
        · exact ih a false (hd a ha) (hs.args a ha) (hlx.2 a ha) i hi
        · rw [List.mem_singleton.1 hi]; exact (hsig false).2.1
    rcases ((std_iff t).1 hs).1 with hk | hk | hk | hk | hk
    · rw [itF_var _ _ _ hk.1, List.mem_singleton] at hi
      subst hi
      obtain ⟨a1, a2, a3⟩ := hlx.1.1 (.inl hk.1)
      exact .inl ⟨rfl, a1, a2, a3⟩
    · rw [itF_meta _ _ _ hk.1, List.mem_singleton] at hi
      subst hi
      exact .inr (.inr (.inr (.inl ⟨rfl, _, rfl, num_itoa _ hk.2.2.2.1 (hlx.1.2.2 hk.1)⟩)))
    · rw [itF_con _ _ _ hk.1] at hi
      rcases List.mem_cons.1 hi with rfl | hi
      · obtain ⟨a1, a2⟩ := hlx.1.2.1 hk.1
        exact .inr (.inl ⟨rfl, a1, a2⟩)
      · obtain ⟨a, ha, hi⟩ := List.mem_flatMap.1 hi
        split at hi
        · exact ih a true (hd a ha) (hs.args a ha) (hlx.2 a ha) i hi
        · exact hpar a ha true i hi
    · obtain ⟨x, y, hxy⟩ : ∃ x y, t.args = [x, y] := by
        match hl : t.args, hk.2.2.2 with
        | [x, y], _ => exact ⟨x, y, rfl⟩
      have hxm : x ∈ t.args := by rw [hxy]; simp
      have hym : y ∈ t.args := by rw [hxy]; simp
      rw [itF_fun _ _ _ x y hk.1 hxy] at hi
      rcases List.mem_append.1 hi with hi | hi
      · split at hi
        · exact ih x b (hd x hxm) (hs.args x hxm) (hlx.2 x hxm) i hi
        · exact hpar x hxm b i hi
      · rcases List.mem_cons.1 hi with rfl | hi
        · exact (hsig true).2.2.2
        · exact ih y true (hd y hym) (hs.args y hym) (hlx.2 y hym) i hi
    · obtain ⟨x, hxx⟩ : ∃ x, t.args = [x] := by
        match hl : t.args, hk.2.2 with
        | [x], _ => exact ⟨x, rfl⟩
      have hxm : x ∈ t.args := by rw [hxx]; simp
      rw [itF_all _ _ _ x hk.1 hxx] at hi
      rcases List.mem_cons.1 hi with rfl | hi
      · exact .inr (.inr (.inl ⟨rfl, rfl⟩))
      · rcases List.mem_cons.1 hi with rfl | hi
        · obtain ⟨a1, a2, a3⟩ := hlx.1.1 (.inr hk.1)
          exact .inl ⟨rfl, a1, a2, a3⟩
        · split at hi
          · exact ih x true (hd x hxm) (hs.args x hxm) (hlx.2 x hxm) i (List.mem_of_mem_tail hi)
          · rcases List.mem_cons.1 hi with rfl | hi
            · exact (hsig false).2.2.1
            · exact ih x true (hd x hxm) (hs.args x hxm) (hlx.2 x hxm) i hi

end Go.Proofs.YtofllmemmggapaaGreatDoor.Tp

/- What is read is well made. No program in sight. -/
namespace Go.Proofs.YtofllmemmggapaaGreatDoor.Tp
open Lx

/-- well made, with words for names -/
def Mk (t : Ty) : Prop := Std t ∧ LexT t

theorem numL_lt (l : List UInt8) (h : ∀ c ∈ l, digitB c = true) : numL l < 10 ^ l.length := by
  have : ∀ (l : List UInt8) (n : Nat), (∀ c ∈ l, digitB c = true) → l.foldl (fun n c => 10 * n + (c.toNat - 48)) n < (n + 1) * 10 ^ l.length := by
    intro l
    induction l with
    | nil => intro n _; simp
    | cons c l ih =>
      intro n h
      rw [List.foldl_cons, List.length_cons]
      refine Nat.lt_of_lt_of_le (ih _ fun d hd => h d (by simp [hd])) ?_
      have hc := h c (by simp)
      unfold digitB at hc
      simp only [decide_eq_true_eq] at hc
      rw [Nat.pow_succ, Nat.mul_comm (10 ^ l.length) 10, ← Nat.mul_assoc]
      refine Nat.mul_le_mul_right _ ?_
      omega
  have := this l 0 h
  unfold numL
  omega
theorem num_lt {ds : List UInt8} (h : NumT ds) : numL ds < 1000000 := by
  have h1 := numL_lt ds h.digits
  have h2 : 10 ^ ds.length ≤ 10 ^ 6 := Nat.pow_le_pow_right (by omega) h.len.2
  omega

theorem bytes_list (s : List UInt8) : (bytes s).data.toList = s := by simp [bytes]

theorem tok_var {t : Tok} (h : TokK t) (hk : t.kind = 1) : NameT t.text ∧ lowerB (t.text.headD 0) = true ∧ keys.contains t.text = false := by
  cases h with
  | var h n c k => exact ⟨n, c, k⟩
  | con h => omega
  | key h => omega
  | num h => omega
  | unk h => omega
  | sign2 h => omega
  | sign h => omega
theorem tok_con {t : Tok} (h : TokK t) (hk : t.kind = 2) : NameT t.text ∧ upperB (t.text.headD 0) = true := by
  cases h with
  | var h => omega
  | con h n c => exact ⟨n, c⟩
  | key h => omega
  | num h => omega
  | unk h => omega
  | sign2 h => omega
  | sign h => omega
theorem tok_unk {t : Tok} (h : TokK t) (hk : t.kind = 5) : ∃ ds, t.text = 63 :: ds ∧ NumT ds := by
  cases h with
  | var h => omega
  | con h => omega
  | key h => omega
  | num h => omega
  | unk h ds e n => exact ⟨ds, e, n⟩
  | sign2 h => omega
  | sign h => omega

theorem mk_var {s : List UInt8} (h : NameT s ∧ lowerB (s.headD 0) = true ∧ keys.contains s = false) : Mk (tVar s) :=
  ⟨std_var _, (lex_iff _).2 ⟨⟨fun _ => by simp only [tVar, Ty.name]; rw [bytes_list]; exact h, fun e => absurd (show (1 : Int) = 3 from e) (by decide), fun e => absurd (show (1 : Int) = 2 from e) (by decide)⟩, fun a ha => by cases ha⟩⟩
theorem mk_con {s : List UInt8} (h : NameT s ∧ upperB (s.headD 0) = true) {args : List Ty} (ha : ∀ a ∈ args, Mk a) : Mk (tCon s args) :=
  ⟨(std_iff _).2 ⟨.inr (.inr (.inl ⟨rfl, rfl⟩)), fun a h => (ha a h).1⟩, (lex_iff _).2 ⟨⟨fun e => by rcases e with e | e <;> exact absurd (show (3 : Int) = _ from e) (by decide), fun _ => by simp only [tCon, Ty.name]; rw [bytes_list]; exact h, fun e => absurd (show (3 : Int) = 2 from e) (by decide)⟩, fun a h => (ha a h).2⟩⟩
theorem mk_meta {s ds : List UInt8} (e : s = 63 :: ds) (h : NumT ds) : Mk (tMeta s) := by
  have := num_lt h
  subst e
  refine ⟨(std_iff _).2 ⟨.inr (.inl ⟨rfl, rfl, rfl, ?_, ?_⟩), fun a h => by cases h⟩, (lex_iff _).2 ⟨⟨fun e => by rcases e with e | e <;> exact absurd (show (2 : Int) = _ from e) (by decide), fun e => absurd (show (2 : Int) = 3 from e) (by decide), fun _ => ?_⟩, fun a h => by cases h⟩⟩
  · show (0 : Int) ≤ (numL ds : Int); omega
  · show (numL ds : Int) < _; omega
  · show (numL ds : Int) < _; omega
theorem mk_fun {a b : Ty} (ha : Mk a) (hb : Mk b) : Mk (tFun a b) := by
  have : ∀ x ∈ [a, b], Mk x := fun x hx => by
    rcases List.mem_cons.1 hx with rfl | hx
    · exact ha
    · rw [List.mem_singleton.1 hx]; exact hb
  exact ⟨(std_iff _).2 ⟨.inr (.inr (.inr (.inl ⟨rfl, rfl, rfl, rfl⟩))), fun x h => (this x h).1⟩, (lex_iff _).2 ⟨⟨fun e => by rcases e with e | e <;> exact absurd (show (4 : Int) = _ from e) (by decide), fun e => absurd (show (4 : Int) = 3 from e) (by decide), fun e => absurd (show (4 : Int) = 2 from e) (by decide)⟩, fun x h => (this x h).2⟩⟩
theorem mk_all {s : List UInt8} (h : NameT s ∧ lowerB (s.headD 0) = true ∧ keys.contains s = false) {b : Ty} (hb : Mk b) : Mk (tAll s b) :=
  ⟨std_all _ hb.1, (lex_iff _).2 ⟨⟨fun _ => by simp only [tAll, Ty.name]; rw [bytes_list]; exact h, fun e => absurd (show (5 : Int) = 3 from e) (by decide), fun e => absurd (show (5 : Int) = 2 from e) (by decide)⟩, fun x hx => by obtain rfl := List.mem_singleton.1 hx; exact hb.2⟩⟩

theorem sk_head {l : List Tok} {k : Nat} (h : sk l k = true) (hl : ∀ t ∈ l, TokK t) : ∃ t, headText l = t.text ∧ TokK t ∧ t.kind = k := by
  cases l with
  | nil => cases h
  | cons t l => exact ⟨t, rfl, hl t (by simp), by simpa [sk] using h⟩
theorem tail_all {l : List Tok} (hl : ∀ t ∈ l, TokK t) : ∀ t ∈ l.tail, TokK t := fun t ht => hl t (List.mem_of_mem_tail ht)
theorem size_pos (t : Ty) : 1 ≤ t.size := by rw [t.size_eq]; omega

theorem made : ∀ n : Nat,
    (∀ l x r, (∀ t ∈ l, TokK t) → typF n l = some (x, r) → Mk x ∧ x.size + r.length ≤ l.length ∧ ∀ t ∈ r, TokK t) ∧ (∀ l x r, (∀ t ∈ l, TokK t) → allF n l = some (x, r) → Mk x ∧ x.size + r.length ≤ l.length ∧ ∀ t ∈ r, TokK t) ∧
    (∀ l x r, (∀ t ∈ l, TokK t) → appF n l = some (x, r) → Mk x ∧ x.size + r.length ≤ l.length ∧ ∀ t ∈ r, TokK t) ∧
    (∀ s acc l x r, (NameT s ∧ upperB (s.headD 0) = true) → (∀ a ∈ acc, Mk a) → (∀ t ∈ l, TokK t) → argsF n s acc l = some (x, r) → Mk x ∧ x.size + r.length ≤ l.length + sizeL acc + 1 ∧ ∀ t ∈ r, TokK t) ∧
    (∀ l x r, (∀ t ∈ l, TokK t) → atomF n l = some (x, r) → Mk x ∧ x.size + r.length ≤ l.length ∧ ∀ t ∈ r, TokK t) := by
  have hall : ∀ (vs : List Tok) (t : Ty), Mk t → (∀ v ∈ vs, TokK v ∧ v.kind = 1) → Mk (vs.foldr (fun v t => tAll v.text t) t) ∧ (vs.foldr (fun v t => tAll v.text t) t).size = t.size + vs.length := by
    intro vs t ht
    induction vs with
    | nil => intro _; exact ⟨ht, rfl⟩
    | cons v vs ih =>
      intro h
      obtain ⟨h1, h2⟩ := ih fun u hu => h u (by simp [hu])
      obtain ⟨h3, h4⟩ := h v (by simp)
      rw [List.foldr_cons]
      refine ⟨mk_all (tok_var h3 h4) h1, ?_⟩
      rw [Ty.size_eq]
      show (vs.foldr (fun v t => tAll v.text t) t).size + 0 + 1 = _
      rw [h2, List.length_cons]; omega
  have hvr : ∀ l : List Tok, (varsL l).length + (restL l).length = l.length := fun l => by
    have := congrArg List.length (List.takeWhile_append_dropWhile (p := fun t : Tok => t.kind == 1) (l := l))
    rw [List.length_append] at this
    exact this
  have hvm : ∀ l : List Tok, (∀ t ∈ l, TokK t) → (∀ v ∈ varsL l, TokK v ∧ v.kind = 1) ∧ ∀ t ∈ restL l, TokK t := fun l hl => by
    refine ⟨fun v hv => ⟨hl v (List.takeWhile_subset _ hv), ?_⟩, fun t ht => hl t (List.dropWhile_subset _ ht)⟩
    have := List.all_eq_true.1 (List.all_takeWhile (p := fun t : Tok => t.kind == 1) (l := l)) v hv
    simpa using this
  intro n
  induction n with
  | zero => exact ⟨fun _ _ _ _ h => by simp [typF] at h, fun _ _ _ _ h => by simp [allF] at h, fun _ _ _ _ h => by simp [appF] at h, fun _ _ _ _ _ _ _ _ h => by simp [argsF] at h, fun _ _ _ _ h => by simp [atomF] at h⟩
  | succ n ih =>
    obtain ⟨i1, i2, i3, i4, i5⟩ := ih
    refine ⟨fun l x r hl h => ?_, fun l x r hl h => ?_, fun l x r hl h => ?_, fun s acc l x r hs hacc hl h => ?_, fun l x r hl h => ?_⟩
    · rw [typF] at h
      split at h
      · next h1 =>
        obtain ⟨a1, a2, a3⟩ := i2 _ _ _ (tail_all hl) h
        have := st_ne h1
        simp only [List.length_tail] at a2
        exact ⟨a1, by omega, a3⟩
      · split at h
        · cases h
        · next a r' h2 =>
          obtain ⟨a1, a2, a3⟩ := i3 _ _ _ hl h2
          split at h
          · next h3 =>
            split at h
            · cases h
            · next b r'' h4 =>
              obtain ⟨b1, b2, b3⟩ := i1 _ _ _ (tail_all a3) h4
              have := st_ne h3
              simp only [Option.some.injEq, Prod.mk.injEq] at h
              obtain ⟨rfl, rfl⟩ := h
              refine ⟨mk_fun a1 b1, ?_, b3⟩
              rw [Ty.size_eq]
              simp only [List.length_tail] at b2
              show sizeL [a, b] + 1 + _ ≤ _
              simp only [sizeL]
              omega
          · simp only [Option.some.injEq, Prod.mk.injEq] at h
            obtain ⟨rfl, rfl⟩ := h
            exact ⟨a1, a2, a3⟩
    · rw [allF] at h
      split at h
      · cases h
      · next h1 =>
        split at h
        · cases h
        · next t r' h2 =>
          obtain ⟨m1, m2⟩ := hvm l hl
          obtain ⟨a1, a2, a3⟩ := i1 _ _ _ (tail_all m2) h2
          simp only [Option.some.injEq, Prod.mk.injEq] at h
          obtain ⟨rfl, rfl⟩ := h
          obtain ⟨c1, c2⟩ := hall (varsL l) t a1 m1
          refine ⟨c1, ?_, a3⟩
          rw [c2]
          have := hvr l
          simp only [List.length_tail] at a2
          have hne : st (restL l) 6 dot = true := by cases hh : st (restL l) 6 dot <;> simp [hh] at h1 ⊢
          have := st_ne hne
          omega
    · rw [appF] at h
      split at h
      · next h1 =>
        obtain ⟨t, ht, hk, hk2⟩ := sk_head h1 hl
        rw [ht] at h
        obtain ⟨a1, a2, a3⟩ := i4 _ _ _ _ _ (tok_con hk hk2) (fun a ha => by cases ha) (tail_all hl) h
        have := sk_ne h1
        simp only [List.length_tail, sizeL] at a2
        exact ⟨a1, by omega, a3⟩
      · exact i5 _ _ _ hl h
    · rw [argsF] at h
      split at h
      · split at h
        · cases h
        · next x' r' h2 =>
          obtain ⟨a1, a2, a3⟩ := i5 _ _ _ hl h2
          obtain ⟨b1, b2, b3⟩ := i4 _ _ _ _ _ hs (fun a ha => by
            rcases List.mem_append.1 ha with ha | ha
            · exact hacc a ha
            · rw [List.mem_singleton.1 ha]; exact a1) a3 h
          rw [sizeL_append] at b2
          simp only [sizeL] at b2
          exact ⟨b1, by omega, b3⟩
      · simp only [Option.some.injEq, Prod.mk.injEq] at h
        obtain ⟨rfl, rfl⟩ := h
        refine ⟨mk_con hs hacc, ?_, hl⟩
        rw [Ty.size_eq]
        show sizeL acc + 1 + _ ≤ _
        omega
    · rw [atomF] at h
      split at h
      · next h1 =>
        have := sk_ne h1
        obtain ⟨t, ht, hk, hk2⟩ := sk_head h1 hl
        simp only [Option.some.injEq, Prod.mk.injEq] at h
        obtain ⟨rfl, rfl⟩ := h
        rw [ht]
        refine ⟨mk_var (tok_var hk hk2), ?_, tail_all hl⟩
        rw [Ty.size_eq]; simp [tVar, Ty.args, sizeL]; omega
      · split at h
        · next h1 =>
          have := sk_ne h1
          obtain ⟨t, ht, hk, hk2⟩ := sk_head h1 hl
          simp only [Option.some.injEq, Prod.mk.injEq] at h
          obtain ⟨rfl, rfl⟩ := h
          rw [ht]
          refine ⟨mk_con (tok_con hk hk2) (fun a ha => by cases ha), ?_, tail_all hl⟩
          rw [Ty.size_eq]; simp [tCon, Ty.args, sizeL]; omega
        · split at h
          · next h1 =>
            have := sk_ne h1
            obtain ⟨t, ht, hk, hk2⟩ := sk_head h1 hl
            simp only [Option.some.injEq, Prod.mk.injEq] at h
            obtain ⟨rfl, rfl⟩ := h
            rw [ht]
            obtain ⟨ds, e, hn⟩ := tok_unk hk hk2
            refine ⟨mk_meta e hn, ?_, tail_all hl⟩
            rw [Ty.size_eq]; simp [tMeta, Ty.args, sizeL]; omega
          · split at h
            · next h1 =>
              have := st_ne h1
              split at h
              · cases h
              · next t r' h2 =>
                obtain ⟨a1, a2, a3⟩ := i1 _ _ _ (tail_all hl) h2
                split at h
                · simp only [Option.some.injEq, Prod.mk.injEq] at h
                  obtain ⟨rfl, rfl⟩ := h
                  refine ⟨a1, ?_, tail_all a3⟩
                  simp only [List.length_tail] at *; omega
                · cases h
            · cases h

theorem nameT_size {s : ByteArray} (h : NameT s.data.toList) : 1 ≤ s.size ∧ s.size ≤ 16 := by
  have e : s.size = s.data.toList.length := by rw [Array.length_toList]; rfl
  rw [e]; exact h.len

/-- with words for names it is good -/
theorem mk_good : ∀ t : Ty, Mk t → Good t := by
  intro t
  induction t using Ty.ind with
  | h t ih =>
    intro h
    have hs := (std_iff t).1 h.1
    have hx := (lex_iff t).1 h.2
    have ia := fun a ha => ih a ha ⟨hs.2 a ha, hx.2 a ha⟩
    have hn : t.name.size ≤ 64 ∧ (t.kind = 5 → 1 ≤ t.name.size) := by
      rcases hs.1 with hk | hk | hk | hk | hk
      · have := nameT_size (hx.1.1 (.inl hk.1)).1
        exact ⟨by omega, fun _ => this.1⟩
      · rw [hk.2.1]; exact ⟨by decide, fun e => by omega⟩
      · have := nameT_size (hx.1.2.1 hk.1).1
        exact ⟨by omega, fun _ => this.1⟩
      · rw [hk.2.1]; exact ⟨by decide, fun e => by omega⟩
      · have := nameT_size (hx.1.1 (.inr hk.1)).1
        exact ⟨by omega, fun _ => this.1⟩
    refine ⟨(wf_iff t).2 ⟨?_, fun a ha => (ia a ha).1⟩, (nm_iff t).2 ⟨⟨hn.2, hn.1⟩, fun a ha => (ia a ha).2⟩⟩
    rcases hs.1 with hk | hk | hk | hk | hk
    · exact .inl ⟨hk.1, hk.2.2⟩
    · exact .inr (.inl ⟨hk.1, hk.2.2.1, hk.2.2.2⟩)
    · exact .inr (.inr (.inl hk.1))
    · exact .inr (.inr (.inr (.inl ⟨hk.1, hk.2.2.2⟩)))
    · exact .inr (.inr (.inr (.inr ⟨hk.1, hk.2.2⟩)))

theorem scanR_le (l : List UInt8) : (scanR l).1.length ≤ l.length := by
  unfold scanR
  split
  · simp
  · unfold scanAt
    refine Nat.le_trans (scanGo_length _ _ _ _) ?_
    simp

/-- what Parse reads is well made -/
theorem parse_made {s : List UInt8} {t : Ty} (h : parseT s = .ok t) : Mk t ∧ t.depth ≤ 50 ∧ t.size ≤ s.length ∧ t.size ≤ 4000 := by
  rw [parseT] at h
  split at h
  · cases h
  · split at h
    · cases h
    · next t' r hT =>
      split at h
      · cases h
      · split at h
        · cases h
        · next h50 =>
          injection h with h
          subst h
          obtain ⟨a1, a2, _⟩ := (made _).1 _ _ _ (fun t ht => tokK t (scanR_all s t ht)) hT
          have h1 := scanR_le s
          have h2 := scanR_length s
          exact ⟨a1, by omega, by omega, by omega⟩

end Go.Proofs.YtofllmemmggapaaGreatDoor.Tp

/- What was written is read. No program in sight. -/
namespace Go.Proofs.YtofllmemmggapaaGreatDoor.Tp
open Lx

theorem bytes_of (x : ByteArray) : bytes x.data.toList = x := by apply ByteArray.ext; simp [bytes]

theorem numL_itoa (n : Int) (h : 0 ≤ n) : (numL (Lib.itoa n) : Int) = n := by
  obtain ⟨u, rfl⟩ : ∃ u : Nat, n = (u : Int) := ⟨n.toNat, by omega⟩
  rw [Lib.itoa_nonneg, numL_dec]

/-! ### tokens, but for their places -/
abbrev KT := Nat × List UInt8
def kI (l : List It) : List KT := l.map ktI
theorem kt_cons {l : List Tok} {k : Nat} {s : List UInt8} {q : List KT} (h : l.map kt = (k, s) :: q) : ∃ t l', l = t :: l' ∧ t.kind = k ∧ t.text = s ∧ l'.map kt = q := by
  obtain ⟨t, l', rfl, h1, h2⟩ := List.map_eq_cons_iff.1 h
  injection h1 with h3 h4
  exact ⟨t, l', rfl, h3, h4, h2⟩
theorem kI_def (l : List It) : kI l = l.map ktI := rfl
theorem kt_it {l : List Tok} {b : Bool} {k : Nat} {s : List UInt8} {r : List It} {q : List KT} (h : l.map kt = kI (⟨b, k, s⟩ :: r) ++ q) : ∃ t l', l = t :: l' ∧ t.kind = k ∧ t.text = s ∧ l'.map kt = kI r ++ q := kt_cons h
theorem sk_eq (t : Tok) (l : List Tok) (k : Nat) : sk (t :: l) k = (t.kind == k) := rfl
theorem st_eq (t : Tok) (l : List Tok) (k : Nat) (s : List UInt8) : st (t :: l) k s = (t.kind == k && t.text == s) := rfl
def NoStart (q : List KT) : Prop := ∀ x q', q = x :: q' → x.1 ≠ 1 ∧ x.1 ≠ 5 ∧ x.1 ≠ 2 ∧ x ≠ (6, lpar)
def NoArrow (q : List KT) : Prop := ∀ x q', q = x :: q' → x ≠ (6, arrow)
theorem noStart_of {s : List UInt8} (q : List KT) (h : s ≠ lpar) : NoStart ((6, s) :: q) := fun x q' e => by
  injection e with e1 e2
  subst e1
  exact ⟨by simp, by simp, by simp, fun e => h (Prod.mk.inj e).2⟩
theorem noArrow_of {s : List UInt8} (q : List KT) (h : s ≠ arrow) : NoArrow ((6, s) :: q) := fun x q' e => by
  injection e with e1 e2
  subst e1
  exact fun e => h (Prod.mk.inj e).2
theorem not_starts {l : List Tok} {q : List KT} (h : l.map kt = q) (hq : NoStart q) : starts l = false := by
  cases l with
  | nil => rfl
  | cons t l =>
    obtain ⟨a1, a2, a3, a4⟩ := hq (kt t) (l.map kt) h.symm
    unfold starts
    rw [sk_eq, sk_eq, sk_eq, st_eq, beq_eq_false_iff_ne.2 (show t.kind ≠ 1 from a1), beq_eq_false_iff_ne.2 (show t.kind ≠ 5 from a2), beq_eq_false_iff_ne.2 (show t.kind ≠ 2 from a3)]
    simp only [Bool.false_or, Bool.and_eq_false_iff, beq_eq_false_iff_ne]
    by_cases hk : t.kind = 6
    · exact .inr fun e => a4 (by show (t.kind, t.text) = _; rw [hk, e])
    · exact .inl hk
theorem not_arrow {l : List Tok} {q : List KT} (h : l.map kt = q) (hq : NoArrow q) : st l 6 arrow = false := by
  cases l with
  | nil => rfl
  | cons t l =>
    have a := hq (kt t) (l.map kt) h.symm
    rw [st_eq]
    simp only [Bool.and_eq_false_iff, beq_eq_false_iff_ne]
    by_cases hk : t.kind = 6
    · exact .inr fun e => a (by show (t.kind, t.text) = _; rw [hk, e])
    · exact .inl hk

/-- a reader reads this, and leaves that -/
def Reads (f : List Tok → Option (Ty × List Tok)) (l : List Tok) (t : Ty) (q : List KT) : Prop := ∃ r, f l = some (t, r) ∧ r.map kt = q

def atI (d : Nat) (b : Bool) (t : Ty) : List It := if t.atomic then itF d b t else ⟨b, 6, lpar⟩ :: (itF d false t ++ [⟨false, 6, rpar⟩])

theorem st_cons (t : Tok) (l : List Tok) (k : Nat) (s : List UInt8) (h1 : t.kind = k) (h2 : t.text = s) : st (t :: l) k s = true := by
  rw [st_eq, h1, h2]; simp
theorem sk_cons (t : Tok) (l : List Tok) (k : Nat) (h1 : t.kind = k) : sk (t :: l) k = true := by
  rw [sk_eq, h1]; simp
theorem sk_cons_ne (t : Tok) (l : List Tok) (k : Nat) (h1 : t.kind ≠ k) : sk (t :: l) k = false := by
  rw [sk_eq]; exact beq_eq_false_iff_ne.2 h1
theorem st_cons_ne (t : Tok) (l : List Tok) (k : Nat) (s : List UInt8) (h1 : t.kind ≠ k) : st (t :: l) k s = false := by
  rw [st_eq, beq_eq_false_iff_ne.2 h1]; rfl

theorem ty_var {t : Ty} (h : Std t) (hk : t.kind = 1) : t = tVar t.name.data.toList := by
  obtain ⟨h1, h2⟩ := h.k1 hk
  unfold tVar
  rw [bytes_of]
  cases t
  simp only [Ty.kind, Ty.n, Ty.args, Ty.name] at *
  subst hk h1 h2; rfl
theorem ty_meta {t : Ty} (h : Std t) (hk : t.kind = 2) : t = tMeta (63 :: Lib.itoa t.n) := by
  obtain ⟨h1, h2, h3, h4⟩ := h.k2 hk
  have := numL_itoa t.n h3
  unfold tMeta
  rw [List.tail_cons, this]
  cases t
  simp only [Ty.kind, Ty.n, Ty.args, Ty.name] at *
  subst hk h1 h2; rfl
theorem ty_con {t : Ty} (h : Std t) (hk : t.kind = 3) : t = tCon t.name.data.toList t.args := by
  have h1 : t.n = 0 := by rcases ((std_iff t).1 h).1 with h | h | h | h | h <;> first | omega | exact h.2
  unfold tCon
  rw [bytes_of]
  cases t
  simp only [Ty.kind, Ty.n, Ty.args, Ty.name] at *
  subst hk h1; rfl
theorem ty_fun {t x y : Ty} (h : Std t) (hk : t.kind = 4) (hx : t.args = [x, y]) : t = tFun x y := by
  obtain ⟨h1, h2, _⟩ := h.k4 hk
  unfold tFun
  cases t
  simp only [Ty.kind, Ty.n, Ty.args, Ty.name] at *
  subst hk h1 h2 hx; rfl
theorem ty_all {t x : Ty} (h : Std t) (hk : t.kind = 5) (hx : t.args = [x]) : t = tAll t.name.data.toList x := by
  obtain ⟨h1, _⟩ := h.k5 hk
  unfold tAll
  rw [bytes_of]
  cases t
  simp only [Ty.kind, Ty.n, Ty.args, Ty.name] at *
  subst hk h1 hx; rfl

/-- an atom is read -/
theorem atom_back {t : Ty} (hs : Std t) (ha : t.atomic = true) (d : Nat) (b : Bool) (l : List Tok) (q : List KT) (n : Nat) (h : l.map kt = kI (itF (d + 1) b t) ++ q) : Reads (atomF (n + 1)) l t q := by
  rcases ((std_iff t).1 hs).1 with hk | hk | hk | hk | hk
  · rw [itF_var _ _ _ hk.1] at h
    obtain ⟨t', l', rfl, h1, h2, h3⟩ := kt_it h
    refine ⟨l', ?_, h3⟩
    rw [atomF, if_pos (sk_cons _ _ _ h1)]
    show some (tVar t'.text, l') = _
    rw [h2, ← ty_var hs hk.1]
  · rw [itF_meta _ _ _ hk.1] at h
    obtain ⟨t', l', rfl, h1, h2, h3⟩ := kt_it h
    refine ⟨l', ?_, h3⟩
    rw [atomF, sk_cons_ne _ _ _ (by omega), sk_cons_ne _ _ _ (by omega), sk_cons _ _ _ h1]
    show some (tMeta t'.text, l') = _
    rw [h2, ← ty_meta hs hk.1]
  · have hz : t.args = [] := by
      unfold Ty.atomic at ha
      simp only [Bool.or_eq_true, Bool.and_eq_true, beq_iff_eq] at ha
      cases hl : t.args with
      | nil => rfl
      | cons a xs => exfalso; simp [hl] at ha; omega
    have e := ty_con hs hk.1
    rw [itF_con _ _ _ hk.1, hz] at h
    obtain ⟨t', l', rfl, h1, h2, h3⟩ := kt_it h
    refine ⟨l', ?_, h3⟩
    rw [atomF, sk_cons_ne _ _ _ (by omega), sk_cons _ _ _ h1]
    show some (tCon t'.text [], l') = _
    rw [h2]
    conv => rhs; rw [e, hz]
  · exfalso; unfold Ty.atomic at ha; simp [hk.1] at ha
  · exfalso; unfold Ty.atomic at ha; simp [hk.1] at ha

/-- what begins an atom -/
theorem atI_head (d : Nat) (b : Bool) (t : Ty) (hs : Std t) : ∃ k s r, kI (atI (d + 1) b t) = (k, s) :: r ∧ (k = 1 ∨ k = 5 ∨ k = 2 ∨ k = 6 ∧ s = lpar) := by
  unfold atI
  split
  · next ha =>
    rcases ((std_iff t).1 hs).1 with hk | hk | hk | hk | hk
    · rw [itF_var _ _ _ hk.1]; exact ⟨_, _, _, rfl, .inl rfl⟩
    · rw [itF_meta _ _ _ hk.1]; exact ⟨_, _, _, rfl, .inr (.inl rfl)⟩
    · rw [itF_con _ _ _ hk.1]; exact ⟨_, _, _, rfl, .inr (.inr (.inl rfl))⟩
    · exfalso; unfold Ty.atomic at ha; simp [hk.1] at ha
    · exfalso; unfold Ty.atomic at ha; simp [hk.1] at ha
  · exact ⟨_, _, _, rfl, .inr (.inr (.inr ⟨rfl, rfl⟩))⟩

/-- a for all's items: names, then what is behind the dot -/
theorem chain : ∀ (d : Nat) (t : Ty), t.depth ≤ d → Std t → t.kind = 5 → ∃ (vs : List (List UInt8)) (body : Ty) (d' : Nat), vs ≠ [] ∧ t = vs.foldr tAll body ∧ body.kind ≠ 5 ∧ d' < d ∧ body.depth ≤ d' ∧ Std body ∧
    ∀ b, itF d b t = ⟨b, 3, fa⟩ :: (vs.map (fun s => (⟨true, 1, s⟩ : It)) ++ ⟨false, 6, dot⟩ :: itF d' true body) := by
  intro d
  induction d with
  | zero => intro t h; rw [t.depth_eq] at h; omega
  | succ d ih =>
    intro t h hs hk
    obtain ⟨x, hx, _⟩ := std_k5 hs hk
    have hxm : x ∈ t.args := by rw [hx]; simp
    have hd : x.depth ≤ d := by have := depth_arg _ hxm; rw [t.depth_eq] at h; omega
    have e := ty_all hs hk hx
    by_cases h5 : x.kind = 5
    · obtain ⟨vs, body, d', h1, h2, h3, h4, h6, h7, h8⟩ := ih x hd (hs.args x hxm) h5
      refine ⟨t.name.data.toList :: vs, body, d', by simp, by rw [List.foldr_cons, ← h2]; exact e, h3, by omega, h6, h7, fun b => ?_⟩
      rw [itF_all _ _ _ x hk hx, if_pos h5, h8 true]
      rfl
    · refine ⟨[t.name.data.toList], x, d, by simp, e, h5, by omega, hd, hs.args x hxm, fun b => ?_⟩
      rw [itF_all _ _ _ x hk hx, if_neg h5]
      rfl

theorem kI_app (a b : List It) : kI (a ++ b) = kI a ++ kI b := List.map_append
theorem kI_cons (i : It) (b : List It) : kI (i :: b) = (i.k, i.s) :: kI b := rfl

/-- the readers read what was written -/
theorem back : ∀ (d : Nat) (t : Ty), t.depth ≤ d → Std t →
    (∀ b l q n, l.map kt = kI (itF d b t) ++ q → NoStart q → NoArrow q → 4 * (itF d b t).length + 4 ≤ n → Reads (typF n) l t q) ∧
    (t.kind < 4 → ∀ b l q n, l.map kt = kI (itF d b t) ++ q → NoStart q → 4 * (itF d b t).length + 3 ≤ n → Reads (appF n) l t q) := by
  intro d
  induction d using Nat.strongRecOn with
  | _ d ihd =>
    intro t h hs
    cases d with
    | zero => rw [t.depth_eq] at h; omega
    | succ d =>
    have hd : ∀ a ∈ t.args, a.depth ≤ d := fun a ha => by have := depth_arg _ ha; rw [t.depth_eq] at h; omega
    have hsa := hs.args
    -- an argument in parentheses
    have hpar : ∀ a ∈ t.args, ∀ (b : Bool) (l : List Tok) (q : List KT) (n : Nat), l.map kt = kI (⟨b, 6, lpar⟩ :: (itF d false a ++ [⟨false, 6, rpar⟩])) ++ q → 4 * (itF d false a).length + 5 ≤ n → Reads (atomF n) l a q := by
      intro a ha b l q n hl hn
      cases n with
      | zero => omega
      | succ n =>
        obtain ⟨t', l', rfl, h1, h2, h3⟩ := kt_it hl
        rw [kI_app, List.append_assoc] at h3
        obtain ⟨r, hr, hrq⟩ := (ihd d (by omega) a (hd a ha) (hsa a ha)).1 false l' _ n h3 (noStart_of _ (by decide)) (noArrow_of _ (by decide)) (by omega)
        obtain ⟨t2, l2, rfl, g1, g2, g3⟩ := kt_it hrq
        refine ⟨l2, ?_, g3⟩
        rw [atomF, sk_cons_ne _ _ _ (by omega), sk_cons_ne _ _ _ (by omega), sk_cons_ne _ _ _ (by omega), st_cons _ _ _ _ h1 h2]
        simp only [Bool.false_eq_true, if_false, if_true, List.tail_cons]
        rw [hr]
        simp only
        rw [if_pos (st_cons _ _ _ _ g1 g2)]
        rfl
    have hat : ∀ a ∈ t.args, ∀ (l : List Tok) (q : List KT) (n : Nat), l.map kt = kI (atI d true a) ++ q → 4 * (atI d true a).length ≤ n → 1 ≤ n → Reads (atomF n) l a q := by
      intro a ha l q n hl hn hn1
      unfold atI at hl hn
      split at hl
      · next hat =>
        cases n with
        | zero => omega
        | succ n =>
          cases d with
          | zero => have := hd a ha; rw [a.depth_eq] at this; omega
          | succ d => exact atom_back (hsa a ha) hat d true l q n hl
      · next hat =>
        rw [if_neg hat] at hn
        simp only [List.length_cons, List.length_append, List.length_nil] at hn
        exact hpar a ha true l q n hl (by omega)
    have happ : t.kind < 4 → ∀ b l q n, l.map kt = kI (itF (d + 1) b t) ++ q → NoStart q → 4 * (itF (d + 1) b t).length + 3 ≤ n → Reads (appF n) l t q := by
      intro h4 b l q n hl hq hn
      by_cases h3 : t.kind = 3
      · have e := ty_con hs h3
        have hargs : ∀ (xs acc : List Ty) (l : List Tok) (n : Nat), (∀ a ∈ xs, a ∈ t.args) → l.map kt = kI (xs.flatMap (atI d true)) ++ q → 4 * (xs.flatMap (atI d true)).length + 1 ≤ n → Reads (argsF n t.name.data.toList acc) l (tCon t.name.data.toList (acc ++ xs)) q := by
          intro xs
          induction xs with
          | nil =>
            intro acc l n _ hl hn
            cases n with
            | zero => omega
            | succ n =>
              refine ⟨l, ?_, hl⟩
              rw [argsF, not_starts hl hq, List.append_nil]; rfl
          | cons a xs ih =>
            intro acc l n ha hl hn
            cases n with
            | zero => omega
            | succ n =>
              rw [List.flatMap_cons, kI_app, List.append_assoc] at hl
              rw [List.flatMap_cons, List.length_append] at hn
              have ham := ha a (by simp)
              obtain ⟨d', rfl⟩ : ∃ d', d = d' + 1 := by
                cases d with
                | zero => have := hd a ham; rw [a.depth_eq] at this; omega
                | succ d => exact ⟨d, rfl⟩
              obtain ⟨k, s, r', hh, hk⟩ := atI_head d' true a (hsa a ham)
              have hlen : 1 ≤ (atI (d' + 1) true a).length := by
                have := congrArg List.length hh
                unfold kI at this
                rw [List.length_map] at this
                rw [this]; simp
              obtain ⟨r, hr, hrq⟩ := hat a ham l _ n hl (by omega) (by omega)
              obtain ⟨r2, hr2, hrq2⟩ := ih (acc ++ [a]) r n (fun c hc => ha c (by simp [hc])) hrq (by omega)
              refine ⟨r2, ?_, hrq2⟩
              have hst : starts l = true := by
                rw [hh] at hl
                obtain ⟨t', l', rfl, h1, h2, _⟩ := kt_cons hl
                unfold starts
                rcases hk with hk | hk | hk | hk
                · rw [sk_cons _ _ 1 (by omega)]; rfl
                · rw [sk_cons _ _ 5 (by omega)]; simp
                · rw [sk_cons _ _ 2 (by omega)]; simp
                · rw [st_cons _ _ 6 lpar (by omega) (by rw [h2]; exact hk.2)]; simp
              rw [argsF, if_pos hst, hr]
              simp only
              rw [hr2, List.append_assoc]; rfl
        rw [itF_con _ _ _ h3] at hl
        rw [itF_con _ _ _ h3, List.length_cons] at hn
        obtain ⟨t', l', rfl, h1, h2, h3'⟩ := kt_it hl
        cases n with
        | zero => omega
        | succ n =>
          obtain ⟨r, hr, hrq⟩ := hargs t.args [] l' n (fun a ha => ha) h3' (by
            show 4 * (t.args.flatMap fun x => if x.atomic then itF d true x else ⟨true, 6, lpar⟩ :: (itF d false x ++ [⟨false, 6, rpar⟩])).length + 1 ≤ n
            omega)
          refine ⟨r, ?_, hrq⟩
          rw [appF, if_pos (sk_cons _ _ 2 h1)]
          show argsF n t'.text [] l' = _
          have h2' : t'.text = t.name.data.toList := h2
          rw [h2', hr, List.nil_append, ← e]
      · have ha : t.atomic = true := by
          unfold Ty.atomic
          have := hs.kind
          have : t.kind = 1 ∨ t.kind = 2 := by omega
          rcases this with h | h <;> simp [h]
        cases n with
        | zero => omega
        | succ n =>
          cases n with
          | zero => omega
          | succ n =>
            obtain ⟨r, hr, hrq⟩ := atom_back hs ha d b l q n hl
            refine ⟨r, ?_, hrq⟩
            have hsk : sk l 2 = false := by
              have := hs.kind
              have : t.kind = 1 ∨ t.kind = 2 := by omega
              rcases this with h | h
              · rw [itF_var _ _ _ h] at hl
                obtain ⟨t', l', rfl, h1, _⟩ := kt_it hl
                exact sk_cons_ne _ _ _ (by omega)
              · rw [itF_meta _ _ _ h] at hl
                obtain ⟨t', l', rfl, h1, _⟩ := kt_it hl
                exact sk_cons_ne _ _ _ (by omega)
            rw [appF, hsk]
            exact hr
    refine ⟨?_, happ⟩
    intro b l q n hl hq hqa hn
    cases n with
    | zero => omega
    | succ n =>
      by_cases h5 : t.kind = 5
      · obtain ⟨vs, body, d', h1, h2, h3, h4, h6, h7, h8⟩ := chain (d + 1) t h hs h5
        rw [h8 b] at hl
        rw [h8 b] at hn
        simp only [List.length_cons, List.length_append, List.length_map] at hn
        obtain ⟨t', l', rfl, e1, e2, e3⟩ := kt_it hl
        rw [kI_app, List.append_assoc] at e3
        obtain ⟨l1, l2, rfl, g1, g2⟩ := List.map_eq_append_iff.1 e3
        obtain ⟨td, l3, rfl, f1, f2, f3⟩ := kt_it g2
        have hv1 : ∀ x ∈ l1, (x.kind == 1) = true := by
          intro x hx
          have : kt x ∈ l1.map kt := List.mem_map_of_mem hx
          rw [g1] at this
          unfold kI at this
          rw [List.map_map, List.mem_map] at this
          obtain ⟨s, _, hs'⟩ := this
          have := congrArg Prod.fst hs'
          simp only [beq_iff_eq]
          exact this.symm
        have f1' : (td.kind == 1) = false := by rw [f1]; rfl
        have hvars : varsL (l1 ++ td :: l3) = l1 := by
          unfold varsL
          rw [List.takeWhile_append_of_pos hv1, List.takeWhile_cons, f1']; simp
        have hrest : restL (l1 ++ td :: l3) = td :: l3 := by
          unfold restL
          rw [List.dropWhile_append_of_pos hv1, List.dropWhile_cons, f1']; simp
        have hfold : ∀ (l1 : List Tok) (vs : List (List UInt8)), l1.map kt = kI (vs.map (fun s => (⟨true, 1, s⟩ : It))) → l1.foldr (fun v t => tAll v.text t) body = vs.foldr tAll body := by
          intro l1
          induction l1 with
          | nil =>
            intro vs hh
            cases vs with
            | nil => rfl
            | cons v vs => cases hh
          | cons x l1 ih =>
            intro vs hh
            cases vs with
            | nil => cases hh
            | cons v vs =>
              obtain ⟨x', l', he, _, hx2, hx3⟩ := kt_cons (k := 1) (s := v) (q := kI (vs.map fun s => (⟨true, 1, s⟩ : It))) hh
              injection he with he1 he2
              subst he1 he2
              rw [List.foldr_cons, List.foldr_cons, ih vs hx3, hx2]
        cases n with
        | zero => omega
        | succ n =>
          obtain ⟨r, hr, hrq⟩ := (ihd d' (by omega) body h6 h7).1 true l3 q n f3 hq hqa (by omega)
          refine ⟨r, ?_, hrq⟩
          have hne : l1.isEmpty = false := by
            cases l1 with
            | nil =>
              cases vs with
              | nil => exact absurd rfl h1
              | cons v vs => cases g1
            | cons => rfl
          have hall : allF (n + 1) (l1 ++ td :: l3) = some (t, r) := by
            rw [allF, hvars, hrest, st_cons _ _ 6 dot f1 f2, hne]
            show (match typF n l3 with | none => none | some (t, r) => some (l1.foldr (fun (v : Tok) t => tAll v.text t) t, r)) = _
            rw [hr]
            show some (l1.foldr (fun (v : Tok) t => tAll v.text t) body, r) = _
            rw [hfold l1 vs g1, ← h2]
          rw [typF, if_pos (st_cons _ _ 3 fa e1 e2)]
          exact hall
      · by_cases h4 : t.kind = 4
        · obtain ⟨x, y, hxy⟩ : ∃ x y, t.args = [x, y] := by
            match hl : t.args, (hs.k4 h4).2.2 with
            | [x, y], _ => exact ⟨x, y, rfl⟩
          have hxm : x ∈ t.args := by rw [hxy]; simp
          have hym : y ∈ t.args := by rw [hxy]; simp
          rw [itF_fun _ _ _ x y h4 hxy, kI_app, List.append_assoc] at hl
          rw [itF_fun _ _ _ x y h4 hxy, List.length_append, List.length_cons] at hn
          rw [kI_cons, List.cons_append] at hl
          have e := ty_fun hs h4 hxy
          have hfa : st l 3 fa = false ∧ ∃ r, appF n l = some (x, r) ∧ r.map kt = (6, arrow) :: (kI (itF d true y) ++ q) := by
            by_cases hx4 : x.kind < 4
            · rw [decide_eq_true hx4, if_pos rfl] at hl hn
              refine ⟨?_, (ihd d (by omega) x (hd x hxm) (hsa x hxm)).2 hx4 b l _ n hl (noStart_of _ (by decide)) (by omega)⟩
              obtain ⟨d', rfl⟩ : ∃ d', d = d' + 1 := by
                cases d with
                | zero => have := hd x hxm; rw [x.depth_eq] at this; omega
                | succ d => exact ⟨d, rfl⟩
              have hxk := (hsa x hxm).kind
              have : x.kind = 1 ∨ x.kind = 2 ∨ x.kind = 3 := by omega
              rcases this with hk | hk | hk
              · rw [itF_var _ _ _ hk] at hl
                obtain ⟨t', l', rfl, e1, _⟩ := kt_it hl
                exact st_cons_ne _ _ _ _ (by omega)
              · rw [itF_meta _ _ _ hk] at hl
                obtain ⟨t', l', rfl, e1, _⟩ := kt_it hl
                exact st_cons_ne _ _ _ _ (by omega)
              · rw [itF_con _ _ _ hk] at hl
                obtain ⟨t', l', rfl, e1, _⟩ := kt_it hl
                exact st_cons_ne _ _ _ _ (by omega)
            · rw [decide_eq_false hx4] at hl hn
              simp only [Bool.false_eq_true, if_false] at hl hn
              simp only [List.length_cons, List.length_append, List.length_nil] at hn
              cases n with
              | zero => omega
              | succ n =>
                obtain ⟨r, hr, hrq⟩ := hpar x hxm b l _ n hl (by omega)
                obtain ⟨t', l', rfl, e1, e2, _⟩ := kt_it hl
                refine ⟨st_cons_ne _ _ _ _ (by omega), r, ?_, hrq⟩
                rw [appF, sk_cons_ne _ _ _ (by omega)]
                exact hr
          obtain ⟨hst, r, hr, hrq⟩ := hfa
          obtain ⟨ta, l2, rfl, g1, g2, g3⟩ := kt_cons hrq
          obtain ⟨r2, hr2, hrq2⟩ := (ihd d (by omega) y (hd y hym) (hsa y hym)).1 true l2 q n g3 hq hqa (by omega)
          refine ⟨r2, ?_, hrq2⟩
          rw [typF, hst, hr]
          simp only [Bool.false_eq_true, if_false]
          rw [if_pos (st_cons _ _ 6 arrow g1 g2)]
          simp only [List.tail_cons]
          rw [hr2]
          show some (tFun x y, r2) = some (t, r2)
          rw [← e]
        · have hk := hs.kind
          obtain ⟨r, hr, hrq⟩ := happ (by omega) b l q n hl hq (by omega)
          refine ⟨r, ?_, hrq⟩
          have hst : st l 3 fa = false := by
            have : t.kind = 1 ∨ t.kind = 2 ∨ t.kind = 3 := by omega
            rcases this with hk | hk | hk
            · rw [itF_var _ _ _ hk] at hl
              obtain ⟨t', l', rfl, e1, _⟩ := kt_it hl
              exact st_cons_ne _ _ _ _ (by omega)
            · rw [itF_meta _ _ _ hk] at hl
              obtain ⟨t', l', rfl, e1, _⟩ := kt_it hl
              exact st_cons_ne _ _ _ _ (by omega)
            · rw [itF_con _ _ _ hk] at hl
              obtain ⟨t', l', rfl, e1, _⟩ := kt_it hl
              exact st_cons_ne _ _ _ _ (by omega)
          rw [typF, hst, hr]
          simp only [Bool.false_eq_true, if_false]
          rw [not_arrow hrq hqa]
          rfl

/-- what is written tells the type -/
theorem print_inj {t u : Ty} (h : Mk t) (k : Mk u) (e : printT t = printT u) : t = u := by
  have key : ∀ t : Ty, Mk t → ∃ ts, Cut (printT t) 0 ts ∧ ∀ n, 4 * ts.length + 4 ≤ n → ∃ r, typF n ts = some (t, r) := by
    intro t h
    have htx : textI (itF t.depth false t) = printT t := text_it t.depth t false (Nat.le_refl _) h.1
    have hok : okFrom true (itF t.depth false t) := by
      have := (ok_it t.depth t false true [] (Nat.le_refl _) h.1 (.inr rfl) trivial).1
      rwa [List.append_nil] at this
    obtain ⟨ts, hc, hm⟩ := cut_it (itF t.depth false t) true 0 (lexs_it t.depth t false (Nat.le_refl _) h.1 h.2) hok
    rw [htx] at hc
    have hlen : ts.length = (itF t.depth false t).length := by
      have := congrArg List.length hm
      simpa using this
    refine ⟨ts, hc, fun n hn => ?_⟩
    obtain ⟨r, hr, _⟩ := (back t.depth t (Nat.le_refl _) h.1).1 false ts [] n (by rw [List.append_nil]; exact hm) (fun x q' e => by cases e) (fun x q' e => by cases e) (by omega)
    exact ⟨r, hr⟩
  obtain ⟨ts, h1, h2⟩ := key t h
  obtain ⟨us, k1, k2⟩ := key u k
  rw [← e] at k1
  obtain rfl := cut_unique h1 k1
  obtain ⟨r, hr⟩ := h2 (4 * ts.length + 4) (Nat.le_refl _)
  obtain ⟨q, hq⟩ := k2 (4 * ts.length + 4) (Nat.le_refl _)
  rw [hr] at hq
  simpa using congrArg (fun o => o.map Prod.fst) hq

theorem parse_eq' {l : List UInt8} {ts : List Tok} {p er : Nat} (h : scanR l = (ts, p, er)) : parseT l = if er ≠ 0 then .error er else match readT ts with
    | none => .error 20
    | some (t, r) => if r ≠ [] then .error 20 else if 50 < t.depth then .error 3 else .ok t := by
  rw [parseT, h]; rfl

/-- what was written is read -/
theorem parse_print (t : Ty) (h : Mk t) (hd : t.depth ≤ 50) (hl : (printT t).length ≤ 4000) : parseT (printT t) = .ok t := by
  have htx : textI (itF t.depth false t) = printT t := text_it t.depth t false (Nat.le_refl _) h.1
  have hok : okFrom true (itF t.depth false t) := by
    have := (ok_it t.depth t false true [] (Nat.le_refl _) h.1 (.inr rfl) trivial).1
    rwa [List.append_nil] at this
  obtain ⟨ts, hc, hm⟩ := cut_it (itF t.depth false t) true 0 (lexs_it t.depth t false (Nat.le_refl _) h.1 h.2) hok
  rw [htx] at hc
  have hsc : scanR (printT t) = (ts, 0, 0) := by
    rw [scanR_S _ hl, scanS_cut (printT t).length (printT t) 0 [] ts (Nat.le_refl _) hc, List.nil_append]
  have hlen : ts.length = (itF t.depth false t).length := by
    have := congrArg List.length hm
    simpa using this
  obtain ⟨r, hr, hrq⟩ := (back t.depth t (Nat.le_refl _) h.1).1 false ts [] (4 * ts.length + 4) (by rw [List.append_nil]; exact hm) (fun x q' e => by cases e) (fun x q' e => by cases e) (by omega)
  obtain rfl : r = [] := by simpa using hrq
  rw [parse_eq' hsc, if_neg (by simp)]
  show (match readT ts with | none => _ | some (t, r) => _) = _
  unfold readT
  rw [hr]
  simp only
  rw [if_neg (by simp), if_neg (by omega)]

end Go.Proofs.YtofllmemmggapaaGreatDoor.Tp

/- What the laws of chapter 2 ask of types. No program in sight. -/
namespace Go.Proofs.YtofllmemmggapaaGreatDoor.Tp
open Lx

def canonS0 (t : Ty) : List UInt8 := printT (canonT t)

/-- a variable's word -/
def LexN (x : ByteArray) : Prop := NameT x.data.toList ∧ lowerB (x.data.toList.headD 0) = true ∧ keys.contains x.data.toList = false

theorem dec_len (u : Nat) (h : u < 1000000000000) : (Lib.decDigits u).length ≤ 12 := (dec_digits u).2.2.2 12 (by omega) h
theorem digit_innerB {c : UInt8} (h : digitB c = true) : innerB c = true := by simp [innerB, h]
theorem xname_list (n : Nat) : (xname n).data.toList = 120 :: Lib.decDigits n := by
  unfold xname
  rw [Lib.itoa_nonneg, ByteArray.data_append]
  simp [bytes]
theorem xname_lex (n : Nat) (h : n < 1000000000000) : LexN (xname n) := by
  have h1 := dec_digits n
  have h2 := dec_len n h
  unfold LexN
  rw [xname_list]
  refine ⟨⟨by simp only [List.length_cons]; omega, fun c hc => ?_⟩, by show lowerB 120 = true; decide, ?_⟩
  · rcases List.mem_cons.1 hc with rfl | hc
    · decide
    · exact digit_innerB (h1.1 c hc)
  · rw [← Bool.not_eq_true, List.contains_iff_mem]
    intro hk
    simp only [keys, List.mem_cons, List.not_mem_nil, or_false] at hk
    rcases hk with hk | hk | hk | hk | hk | hk <;> (have := (List.cons.inj hk).1; revert this; decide)

theorem look_mk_some (x : ByteArray) (h : LexN x) : Mk (.mk 1 x 0 []) := by
  have := mk_var (s := x.data.toList) h
  unfold tVar at this
  rwa [bytes_of] at this

/-- naming makes types as a reader does -/
theorem cn_mk (f : Nat → ByteArray) (free : List ByteArray) (B : Nat) (hB : ∀ j, j < B → LexN (f j)) : ∀ (t : Ty) (env env' : List ByteArray) (k : Nat), env'.length = env.length → Mk t → (∀ x ∈ env', LexN x) → (cnT f free env' k (dbT env t)).2 ≤ B → Mk (cnT f free env' k (dbT env t)).1 := by
  intro t
  induction t using Ty.ind with
  | h t ih =>
    have hl : ∀ (l : List Ty) (env env' : List ByteArray) (k : Nat), (∀ a ∈ l, ∀ (env env' : List ByteArray) (k : Nat), env'.length = env.length → Mk a → (∀ x ∈ env', LexN x) → (cnT f free env' k (dbT env a)).2 ≤ B → Mk (cnT f free env' k (dbT env a)).1) →
        env'.length = env.length → (∀ a ∈ l, Mk a) → (∀ x ∈ env', LexN x) → (cnL f free env' k (l.map (dbT env))).2 ≤ B → (cnL f free env' k (l.map (dbT env))).1.length = l.length ∧ ∀ a ∈ (cnL f free env' k (l.map (dbT env))).1, Mk a := by
      intro l
      induction l with
      | nil => intro env env' k _ _ _ _ _; simp [cnL]
      | cons a l ihl =>
        intro env env' k hi h1 h2 h3 h4
        rw [List.map_cons, cnL] at h4 ⊢
        simp only at h4 ⊢
        have hm : (cnT f free env' k (dbT env a)).2 ≤ (cnL f free env' (cnT f free env' k (dbT env a)).2 (l.map (dbT env))).2 := by
          generalize (cnT f free env' k (dbT env a)).2 = k'
          generalize l.map (dbT env) = l'
          clear ihl hi h1 h2 h3 h4
          induction l' generalizing k' with
          | nil => simp [cnL]
          | cons b l' ih' =>
            rw [cnL]
            have := cn_mono f free b env' k'
            have := ih' (cnT f free env' k' b).2
            simp only; omega
        obtain ⟨e1, e2⟩ := ihl env env' _ (fun b hb => hi b (by simp [hb])) h1 (fun b hb => h2 b (by simp [hb])) h3 h4
        refine ⟨by simp [e1], fun b hb => ?_⟩
        rcases List.mem_cons.1 hb with rfl | hb
        · exact hi a (by simp) env env' k h1 (h2 a (by simp)) h3 (by omega)
        · exact e2 b hb
    intro env env' k h1 hs h2 hb
    have hsa : ∀ a ∈ t.args, Mk a := fun a ha => ⟨hs.1.args a ha, ((lex_iff t).1 hs.2).2 a ha⟩
    have hlx := ((lex_iff t).1 hs.2).1
    by_cases h5 : t.kind = 5
    · rw [dbT_all _ _ h5, cnT_5] at hb ⊢
      simp only at hb ⊢
      have hk : nx f free k < B := by
        have : ∀ (l' : List Ty) (e : List ByteArray) (k' : Nat), k' ≤ (cnL f free e k' l').2 := by
          intro l'
          induction l' with
          | nil => intro e k'; simp [cnL]
          | cons b l' ih' =>
            intro e k'
            rw [cnL]
            have := cn_mono f free b e k'
            have := ih' e (cnT f free e k' b).2
            simp only; omega
        have := this (t.args.map (dbT (t.name :: env))) (f (nx f free k) :: env') (nx f free k + 1)
        omega
      have hN := hB _ hk
      obtain ⟨e1, e2⟩ := hl t.args (t.name :: env) (f (nx f free k) :: env') (nx f free k + 1) ih (by simp [h1]) hsa (fun x hx => by
        rcases List.mem_cons.1 hx with rfl | hx
        · exact hN
        · exact h2 x hx) hb
      generalize (cnL f free (f (nx f free k) :: env') (nx f free k + 1) (t.args.map (dbT (t.name :: env)))).1 = l at *
      have hl1 : l.length = 1 := by rw [e1]; exact (hs.1.k5 h5).2
      match l, hl1 with
      | [b], _ =>
        have := mk_all hN (e2 b (by simp))
        unfold tAll at this
        rwa [bytes_of] at this
    · by_cases h1' : t.kind = 1
      · obtain ⟨hn0, ha⟩ := hs.1.k1 h1'
        rw [dbT_var _ _ h1', hn0, cnT_look]
        cases hi : ixN env t.name with
        | none => exact look_mk_some _ (hlx.1 (.inl h1'))
        | some i =>
          have hg := ixN_get _ _ _ hi
          have hlt : i < env'.length := by rw [h1]; exact (List.getElem?_eq_some_iff.1 hg).1
          show Mk (.mk 1 (env'.getD i emp) 0 [])
          refine look_mk_some _ (h2 _ ?_)
          rw [List.getD_eq_getElem?_getD, List.getElem?_eq_getElem hlt]
          exact List.getElem_mem hlt
      · have hk := hs.1.kind
        rw [dbT_other _ _ h1' h5, cnT_other _ _ _ _ _ _ _ _ (by omega) h5] at hb ⊢
        simp only at hb ⊢
        obtain ⟨e1, e2⟩ := hl t.args env env' k ih h1 hsa h2 hb
        have hw := std_with hs.1 (cnL f free env' k (t.args.map (dbT env))).1 e1 fun a ha => (e2 a ha).1
        refine ⟨hw, (lex_iff _).2 ⟨?_, fun a ha => (e2 a ha).2⟩⟩
        exact ⟨fun e => hlx.1 e, fun e => hlx.2.1 e, fun e => hlx.2.2 e⟩

/-- canonical names make a type that a reader makes -/
theorem canon_mk (t : Ty) (h : Mk t) (hs : t.size ≤ 10000) : Mk (canonT t) ∧ (canonT t).depth = t.depth ∧ (canonT t).size = t.size := by
  have hg := mk_good t h
  have hfl := freeT_len t
  have hm : t.size * ((freeT t).length + 1) ≤ 10000 * 10001 := Nat.mul_le_mul hs (by omega)
  have hk := num_keeps t.depth (freeT t) t 0 (Nat.le_refl _) hg (by omega) (by omega)
  have e := num_cn (freeT t) t.depth t [] 0 (Nat.le_refl _) h.1 (fun x hx => .inl ((mem_free x t).2 hx)) (fun x hx => by cases hx)
  refine ⟨?_, hk.2.2.1, hk.2.2.2.1⟩
  rw [canonT_cn t h.1]
  rw [e] at hk
  exact cn_mk xname (freeT t) 200000000 (fun j hj => xname_lex j (by omega)) t [] [] 0 rfl h (fun x hx => by cases hx) (by omega)

/-- types that are the same without bound names have the same canonical names -/
theorem canon_congr {t u : Ty} (ht : Std t) (hu : Std u) (e : dbT [] t = dbT [] u) : canonT t = canonT u := by
  rw [canonT_cn t ht, canonT_cn u hu, free_db t ht, free_db u hu, e]
theorem canon_twice (t : Ty) (h : Mk t) (hs : t.size ≤ 10000) : canonT (canonT t) = canonT t := canon_congr (canon_mk t h hs).1.1 h.1 (db_canon t h.1)
theorem canon_inj {t u : Ty} (ht : Mk t) (hu : Mk u) (hs : t.size ≤ 10000) (hs' : u.size ≤ 10000) (e : printT (canonT t) = printT (canonT u)) : dbT [] t = dbT [] u := by
  have := print_inj (canon_mk t ht hs).1 (canon_mk u hu hs').1 e
  rw [← db_canon t ht.1, this, db_canon u hu.1]
theorem db_same {t u : Ty} (ht : Std t) (hu : Std u) (e : dbT [] t = dbT [] u) : freeT t = freeT u ∧ metasT t = metasT u ∧ t.depth = u.depth := by
  refine ⟨by rw [free_db t ht, free_db u hu, e], by rw [metas_db t ht, metas_db u hu, e], ?_⟩
  rw [← depth_db t ht [], ← depth_db u hu [], e]

mutual
/-- is there a for all in it? -/
def polyT : Ty → Bool
  | .mk k _ _ args => k == 5 || polyL args
def polyL : List Ty → Bool
  | [] => false
  | t :: ts => polyT t || polyL ts
end
theorem polyL_any (ts : List Ty) : polyL ts = ts.any polyT := by
  induction ts with
  | nil => rfl
  | cons t ts ih => rw [polyL, ih]; rfl
theorem polyT_eq (t : Ty) : polyT t = (t.kind == 5 || t.args.any polyT) := by
  cases t with
  | mk k s n args => rw [polyT, polyL_any]; rfl

/-- where nothing is bound, canonical names change nothing -/
theorem num_plain : ∀ (d : Nat) (free : List ByteArray) (t : Ty) (n : Nat), t.depth ≤ d → polyT t = false → numF d free n t = (t, n) := by
  intro d free
  induction d with
  | zero => intro t n h; rw [t.depth_eq] at h; omega
  | succ d ih =>
    intro t n h hp
    have hd : ∀ a ∈ t.args, a.depth ≤ d := fun a ha => by have := depth_arg _ ha; rw [t.depth_eq] at h; omega
    rw [polyT_eq, Bool.or_eq_false_iff] at hp
    have hpa : ∀ a ∈ t.args, polyT a = false := fun a ha => by
      have := hp.2
      rw [List.any_eq_false] at this
      simpa using this a ha
    have hl : ∀ (l : List Ty), (∀ a ∈ l, a ∈ t.args) → ∀ n, mapAcc (numF d free) n l = (l, n) := by
      intro l
      induction l with
      | nil => intro _ n; rfl
      | cons a l ihl =>
        intro hm n
        have := hm a (by simp)
        rw [mapAcc, ih a n (hd a this) (hpa a this), ihl (fun b hb => hm b (by simp [hb]))]
    rw [numF, if_neg (by simpa using hp.1), hl t.args (fun a ha => ha)]
    show (Ty.mk t.kind t.name t.n t.args, n) = (t, n)
    rw [ty_eta]
theorem canon_plain (t : Ty) (hp : polyT t = false) : canonT t = t := by
  unfold canonT
  rw [num_plain t.depth (freeT t) t 0 (Nat.le_refl _) hp]

/-! ### what is put is good -/
theorem PutF_good (nm : ByteArray) (u : Ty) (hu : Good u) (hus : u.size ≤ 1073741824) : ∀ (d : Nat) (t : Ty), t.depth ≤ d → Good t → t.size ≤ 1073741824 → Good (PutF d nm u t) := by
  intro d
  induction d with
  | zero => intro t h; rw [t.depth_eq] at h; omega
  | succ d ih =>
    intro t h hg hs
    have hd : ∀ a ∈ t.args, a.depth ≤ d ∧ a.size ≤ 1073741824 := fun a ha => by
      have := depth_arg _ ha; have := size_arg _ ha; rw [t.depth_eq] at h; rw [t.size_eq] at hs; omega
    rw [PutF]
    split
    · exact hg
    · split
      · exact hu
      · split
        · next hc =>
          simp only [Bool.and_eq_true, beq_iff_eq] at hc
          obtain ⟨b, hb, hb0⟩ := wf_k5 hg.1 hc.1
          have hbm : b ∈ t.args := by rw [hb]; simp
          have hnm := ((nm_iff t).1 hg.2).1
          unfold renAll
          rw [hb0]
          have hfl := freeT_len u
          have hfb := freeT_len b
          have hbs := (hd b hbm).2
          have hfs := freshT_size t.name (freeT u ++ freeT b ++ [t.name, nm]) (by simp; omega) (hnm.1 hc.1)
          generalize freshT t.name (freeT u ++ freeT b ++ [t.name, nm]) = n at *
          obtain ⟨a1, a2, a3, a4⟩ := renT_keeps t.name n b (good_args hg b hbm) hfs.2 (by omega)
          have := ih (renT t.name n b) (by rw [a1]; exact (hd b hbm).1) a3 (by omega)
          exact good_all hfs.1 hfs.2 this
        · refine good_with hg _ (by simp) fun a ha => ?_
          obtain ⟨b, hb, rfl⟩ := List.mem_map.1 ha
          exact ih b (hd b hb).1 (good_args hg b hb) (hd b hb).2
theorem putF_good (u : Ty) (free : List ByteArray) (is : Ty → Bool) (hu : Good u) (hfl : free.length ≤ 1073741824) : ∀ (d : Nat) (t : Ty), t.depth ≤ d → Good t → t.size ≤ 1073741824 → Good (putF d u free is t) := by
  intro d
  induction d with
  | zero => intro t h; rw [t.depth_eq] at h; omega
  | succ d ih =>
    intro t h hg hs
    have hd : ∀ a ∈ t.args, a.depth ≤ d ∧ a.size ≤ 1073741824 := fun a ha => by
      have := depth_arg _ ha; have := size_arg _ ha; rw [t.depth_eq] at h; rw [t.size_eq] at hs; omega
    rw [putF]
    split
    · exact hu
    · split
      · next hc =>
        simp only [Bool.and_eq_true, beq_iff_eq] at hc
        obtain ⟨b, hb, hb0⟩ := wf_k5 hg.1 hc.1
        have hbm : b ∈ t.args := by rw [hb]; simp
        have hnm := ((nm_iff t).1 hg.2).1
        unfold renAll
        rw [hb0]
        have hfb := freeT_len b
        have hbs := (hd b hbm).2
        have hfs := freshT_size t.name (free ++ freeT b ++ [t.name]) (by simp; omega) (hnm.1 hc.1)
        generalize freshT t.name (free ++ freeT b ++ [t.name]) = n at *
        obtain ⟨a1, a2, a3, a4⟩ := renT_keeps t.name n b (good_args hg b hbm) hfs.2 (by omega)
        have := ih (renT t.name n b) (by rw [a1]; exact (hd b hbm).1) a3 (by omega)
        exact good_all hfs.1 hfs.2 this
      · refine good_with hg _ (by simp) fun a ha => ?_
        obtain ⟨b, hb, rfl⟩ := List.mem_map.1 ha
        exact ih b (hd b hb).1 (good_args hg b hb) (hd b hb).2
theorem PutT_good (nm : ByteArray) (u t : Ty) (ht : Good t) (hu : Good u) (hs : t.size ≤ 1073741824) (hus : u.size ≤ 1073741824) : Good (PutT nm u t) := PutF_good nm u hu hus _ _ (Nat.le_refl _) ht hs
theorem fillT_good (m : Int) (u t : Ty) (ht : Good t) (hu : Good u) (hs : t.size ≤ 1073741824) (hus : u.size ≤ 1073741824) : Good (fillT m u t) := putF_good u _ _ hu (by have := freeT_len u; omega) _ _ (Nat.le_refl _) ht hs

end Go.Proofs.YtofllmemmggapaaGreatDoor.Tp

/- numbered, whatever the type; Canon. -/
namespace Go.Proofs.YtofllmemmggapaaGreatDoor.Tp
open Go.RowKit

theorem num_said : ∀ d : Nat, NumSaid d := by
  intro d
  induction d with
  | zero => intro free fv n t S Sf a c W hg h; rw [t.depth_eq] at h; omega
  | succ d ih =>
    intro free fv n t S Sf a c W hg hd hs hb hF hA hS hSf hT
    by_cases hk : t.kind = 5
    · exact num_all d ih free fv n t S Sf a c W hk hg hd hs hb hF hA hS hSf hT
    · exact num_with d ih free fv n t S Sf a c W hk hg hd hs hb hF hA hS hSf hT

/-- the text with canonical names -/
def canonS (t : Ty) : List UInt8 := printT (canonT t)

theorem canon_size (t : Ty) (hs : t.size ≤ 1073741824) : t.size * ((freeT t).length + 1) ≤ 4611686018427387904 := by
  have h1 := freeT_len t
  have h2 : t.size * ((freeT t).length + 1) ≤ 1073741824 * (1073741824 + 1) := Nat.mul_le_mul hs (by omega)
  omega

end Go.Proofs.YtofllmemmggapaaGreatDoor.Tp

/- Parse's answers. No program in sight. -/
namespace Go.Proofs.YtofllmemmggapaaGreatDoor.Tp
open Lx

theorem parse_long {l : List UInt8} (h : 4000 < l.length) : parseT l = .error 2 := by
  rw [parseT, scanR_long l h]; rfl
theorem scan_er (l : List UInt8) : (scanR l).2.2 = 0 ∨ (scanR l).2.2 = 2 ∨ (scanR l).2.2 = 10 := by
  by_cases h : l.length ≤ 4000
  · rw [scanR_S l h]
    rcases scanS_er l.length false l 0 [] (Nat.le_refl _) with h | ⟨q, h, _⟩
    · exact .inl h
    · rw [h]; exact .inr (.inr rfl)
  · rw [scanR_long l (by omega)]; exact .inr (.inl rfl)
theorem parse_er {l : List UInt8} {er : Nat} (h : parseT l = .error er) : er ≠ 0 := by
  rw [parseT] at h
  split at h
  · next hn => injection h with h; rw [← h]; exact hn
  · split at h
    · injection h with h; omega
    · split at h
      · injection h with h; omega
      · split at h
        · injection h with h; omega
        · cases h
theorem parse_bytes (l : List UInt8) : parseT (bytes l).data.toList = parseT l := by rw [bytes_list]
theorem bytes_le {l : List UInt8} (h : l.length ≤ 1099511627776) : (bytes l).size ≤ maxLen := by
  rw [show (bytes l).size = l.length from by simp [bytes, ByteArray.size]]
  unfold maxLen; omega
theorem parse_canon {t : Ty} (h : Mk t) (hd : t.depth ≤ 50) (hs : t.size ≤ 4000) (hl : (canonS t).length ≤ 4000) : parseT (canonS t) = .ok (canonT t) := by
  obtain ⟨h1, h2, _⟩ := canon_mk t h (by omega)
  exact parse_print (canonT t) h1 (by omega) hl
theorem print_small {t : Ty} (h : Mk t) (hs : t.size ≤ 4000) : (printT t).length ≤ 1099511627776 := by
  have := printT_len t (mk_good t h); omega
theorem canon_small {t : Ty} (h : Mk t) (hs : t.size ≤ 4000) : (canonS t).length ≤ 1099511627776 := by
  obtain ⟨h1, _, h3⟩ := canon_mk t h (by omega)
  exact print_small h1 (by omega)
theorem canonS_twice {t : Ty} (h : Mk t) (hs : t.size ≤ 4000) : canonS (canonT t) = canonS t := by
  unfold canonS; rw [canon_twice t h (by omega)]

end Go.Proofs.YtofllmemmggapaaGreatDoor.Tp

/- The document's naming, naming apart, naive putting. No program in sight. -/
namespace Go.Proofs.YtofllmemmggapaaGreatDoor.Tp
open Lx

/-- letters and a number -/
def lname (L : ByteArray) (n : Nat) : ByteArray := L ++ bytes (Lib.decDigits n)
theorem itoa_dec (n : Nat) : Lib.itoa (n : Int) = Lib.decDigits n := by
  rw [Lib.itoa_nonneg]
theorem xname_l (n : Nat) : xname n = lname ⟨#[120]⟩ n := by unfold xname lname; rw [itoa_dec]
theorem xname_f : xname = lname ⟨#[120]⟩ := funext xname_l
theorem lname_inj {L : ByteArray} {a b : Nat} (h : lname L a = lname L b) : a = b := by
  unfold lname at h
  rw [← itoa_dec, ← itoa_dec] at h
  exact itoa_inj (bytes_inj (app_inj h))
theorem lname_list (L : List UInt8) (n : Nat) : (lname (bytes L) n).data.toList = L ++ Lib.decDigits n := by
  unfold lname
  rw [ByteArray.data_append]
  simp [bytes]
theorem yname_lex (n : Nat) (h : n < 1000000000000) : LexN (lname ⟨#[121]⟩ n) := by
  have h1 := dec_digits n
  have h2 := dec_len n h
  unfold LexN
  have e : (lname ⟨#[121]⟩ n).data.toList = 121 :: Lib.decDigits n := lname_list [121] n
  rw [e]
  refine ⟨⟨by simp only [List.length_cons]; omega, fun c hc => ?_⟩, by show lowerB 121 = true; decide, ?_⟩
  · rcases List.mem_cons.1 hc with rfl | hc
    · decide
    · exact digit_innerB (h1.1 c hc)
  · rw [← Bool.not_eq_true, List.contains_iff_mem]
    intro hk
    simp only [keys, List.mem_cons, List.not_mem_nil, or_false] at hk
    rcases hk with hk | hk | hk | hk | hk | hk <;> (have := (List.cons.inj hk).1; revert this; decide)

/-! ### names of what is bound -/
mutual
/-- each bound name is such -/
def bndT (P : ByteArray → Prop) : Ty → Prop
  | .mk k s _ args => (k = 5 → P s) ∧ bndL P args
def bndL (P : ByteArray → Prop) : List Ty → Prop
  | [] => True
  | t :: ts => bndT P t ∧ bndL P ts
end
theorem bndL_iff (P : ByteArray → Prop) (ts : List Ty) : bndL P ts ↔ ∀ t ∈ ts, bndT P t := by
  induction ts with
  | nil => simp [bndL]
  | cons t ts ih => rw [bndL, ih]; simp
theorem bnd_iff (P : ByteArray → Prop) (t : Ty) : bndT P t ↔ (t.kind = 5 → P t.name) ∧ ∀ a ∈ t.args, bndT P a := by
  cases t with
  | mk k s n args => rw [bndT, bndL_iff]; rfl

/-- what names are called, is not among those that may not be -/
theorem cn_bnd (f : Nat → ByteArray) (hf : ∀ a b, f a = f b → a = b) (free : List ByteArray) : ∀ (t : Ty) (env : List ByteArray) (k : Nat), bndT (fun s => s ∉ free) (cnT f free env k t).1 := by
  intro t
  induction t using Ty.ind with
  | h t ih =>
    have hl : ∀ (l : List Ty) (env : List ByteArray) (k : Nat), (∀ a ∈ l, ∀ (env : List ByteArray) (k : Nat), bndT (fun s => s ∉ free) (cnT f free env k a).1) → ∀ a ∈ (cnL f free env k l).1, bndT (fun s => s ∉ free) a := by
      intro l
      induction l with
      | nil => intro env k _ a ha; simp [cnL] at ha
      | cons b l ihl =>
        intro env k h a ha
        rw [cnL] at ha
        rcases List.mem_cons.1 ha with rfl | ha
        · exact h b (by simp) env k
        · exact ihl env _ (fun c hc => h c (by simp [hc])) a ha
    intro env k
    rw [cnT_eq]
    split
    · rw [bnd_iff]; exact ⟨fun h => by simp [Ty.kind] at h, fun a ha => by simp [Ty.args] at ha⟩
    · split
      · rw [bnd_iff]
        exact ⟨fun _ => (hasN_false _ _).1 (firstN_spec f hf free k).2.2.2, hl t.args _ _ ih⟩
      · next h5 =>
        rw [bnd_iff]
        exact ⟨fun h => absurd h h5, hl t.args _ _ ih⟩

/-- naive putting, where no bound name is in the way -/
theorem db_sb (p : Ty → Bool) (u : Ty) (h5 : ∀ s n, p (.mk 5 s n []) = false) (h6 : ∀ s n, p (.mk 6 s n []) = false) : ∀ (t : Ty) (env : List ByteArray), Std t →
    bndT (fun s => ¬ fvT s u ∧ p (.mk 1 s 0 []) = false) t → (∀ x ∈ env, ¬ fvT x u ∧ p (.mk 1 x 0 []) = false) → dbT env (sbT p u t) = sbT p (dbT [] u) (dbT env t) := by
  intro t
  induction t using Ty.ind with
  | h t ih =>
    intro env hs hb he
    have hb' := (bnd_iff _ t).1 hb
    have hcl : dbT env u = dbT [] u := db_closed u env fun x hx hxe => (he x hxe).1 hx
    by_cases h5' : t.kind = 5
    · have hp : p (nodeT t) = false := by unfold nodeT; rw [h5']; exact h5 _ _
      rw [sbT_eq, hp, if_neg (by decide), dbT_all _ _ (by exact h5'), dbT_all _ _ h5', sbT_mk, h5 _ _, if_neg (by decide)]
      show Ty.mk 5 emp 0 ((t.args.map (sbT p u)).map (dbT (t.name :: env))) = _
      congr 1
      rw [List.map_map, List.map_map]
      refine List.map_congr_left fun a ha => ?_
      exact ih a ha (t.name :: env) (hs.args a ha) (hb'.2 a ha) fun x hx => by
        rcases List.mem_cons.1 hx with rfl | hx
        · exact hb'.1 h5'
        · exact he x hx
    · by_cases h1 : t.kind = 1
      · obtain ⟨hn0, ha⟩ := hs.k1 h1
        have hnode : nodeT t = .mk 1 t.name 0 [] := by unfold nodeT; rw [h1, hn0]
        rw [dbT_var _ _ h1, hn0, sbT_eq, hnode, ha]
        cases hp : p (.mk 1 t.name 0 []) with
        | true =>
          have hx : t.name ∉ env := fun hx => by rw [(he _ hx).2] at hp; cases hp
          rw [if_pos rfl, hcl]
          unfold look
          rw [(ixN_none _ _).2 hx]
          simp only
          rw [sbT_mk, hp, if_pos rfl]
        | false =>
          rw [if_neg (by decide)]
          show dbT env (.mk t.kind t.name t.n []) = _
          rw [h1, hn0, dbT_var _ _ rfl]
          show look env t.name 0 = sbT p (dbT [] u) (look env t.name 0)
          unfold look
          cases ixN env t.name with
          | none => simp only; rw [sbT_mk, hp, if_neg (by decide)]; rfl
          | some i => simp only; rw [sbT_mk, h6, if_neg (by decide)]; rfl
      · rw [sbT_eq, dbT_other _ _ h1 h5', sbT_mk]
        show dbT env (if p (nodeT t) = true then u else _) = if p (nodeT t) = true then _ else _
        cases hp : p (nodeT t) with
        | true => rw [if_pos rfl, if_pos rfl, hcl]
        | false =>
          rw [if_neg (by decide), if_neg (by decide), dbT_other _ _ (by exact h1) (by exact h5')]
          show Ty.mk t.kind t.name t.n ((t.args.map (sbT p u)).map (dbT env)) = _
          congr 1
          rw [List.map_map, List.map_map]
          exact List.map_congr_left fun a ha => ih a ha env (hs.args a ha) (hb'.2 a ha) he

theorem sb_std (p : Ty → Bool) (u : Ty) (hu : Std u) : ∀ t : Ty, Std t → Std (sbT p u t) := by
  intro t
  induction t using Ty.ind with
  | h t ih =>
    intro hs
    rw [sbT_eq]
    split
    · exact hu
    · exact std_with hs _ (by simp) fun a ha => by
        obtain ⟨b, hb, rfl⟩ := List.mem_map.1 ha
        exact ih b hb (hs.args b hb)

/-! ### the document's Put and Fill -/
/-- names that may not be -/
def butT (nm : ByteArray) (u t : Ty) : List ByteArray := nm :: (freeT u ++ freeT t)
def apartT (nm : ByteArray) (u t : Ty) : Ty := (cnT (lname ⟨#[121]⟩) (butT nm u t) [] 0 (dbT [] t)).1

theorem cn_le (f : Nat → ByteArray) (hf : ∀ a b, f a = f b → a = b) (free : List ByteArray) : ∀ (t : Ty) (env : List ByteArray) (k : Nat), (cnT f free env k t).2 ≤ k + t.size * (free.length + 1) := by
  intro t
  induction t using Ty.ind with
  | h t ih =>
    have hl : ∀ (l : List Ty) (env : List ByteArray) (k : Nat), (∀ a ∈ l, ∀ (env : List ByteArray) (k : Nat), (cnT f free env k a).2 ≤ k + a.size * (free.length + 1)) → (cnL f free env k l).2 ≤ k + sizeL l * (free.length + 1) := by
      intro l
      induction l with
      | nil => intro env k _; simp [cnL]
      | cons b l ihl =>
        intro env k h
        rw [cnL]
        have h1 := h b (by simp) env k
        have h2 := ihl env (cnT f free env k b).2 fun c hc => h c (by simp [hc])
        simp only [sizeL, Nat.add_mul] at h2 ⊢
        omega
    intro env k
    rw [cnT_eq, t.size_eq, Nat.add_mul]
    split
    · simp only; omega
    · split
      · have h1 := hl t.args (f (nx f free k) :: env) (nx f free k + 1) ih
        have h2 := (firstN_spec f hf free k).2.1
        have h3 : nx f free k ≤ k + free.length := h2
        simp only
        omega
      · have h1 := hl t.args env k ih
        simp only; omega

theorem apart_mk (nm : ByteArray) (u t : Ty) (ht : Mk t) (hs : t.size ≤ 100000) (hu : u.size ≤ 100000) : Mk (apartT nm u t) := by
  have h1 := freeT_len t
  have h2 := freeT_len u
  have h3 : (butT nm u t).length ≤ 200001 := by unfold butT; simp; omega
  have h4 := cn_le (lname ⟨#[121]⟩) (fun _ _ => lname_inj) (butT nm u t) (dbT [] t) [] 0
  have h5 : (dbT [] t).size = t.size := by
    have : ∀ (t : Ty), Std t → ∀ env, (dbT env t).size = t.size := by
      intro t
      induction t using Ty.ind with
      | h t ih =>
        intro hs env
        have hl : ∀ (l : List Ty) (env : List ByteArray), (∀ a ∈ l, ∀ env, (dbT env a).size = a.size) → sizeL (l.map (dbT env)) = sizeL l := by
          intro l
          induction l with
          | nil => intro _ _; rfl
          | cons b l ihl => intro env h; rw [List.map_cons, sizeL, sizeL, h b (by simp), ihl env fun c hc => h c (by simp [hc])]
        by_cases h5 : t.kind = 5
        · rw [dbT_all _ _ h5, Ty.size_eq, t.size_eq]
          show sizeL (t.args.map _) + 1 = _
          rw [hl _ _ fun a ha => ih a ha (hs.args a ha)]
        · by_cases h1 : t.kind = 1
          · obtain ⟨hn0, ha⟩ := hs.k1 h1
            rw [dbT_var _ _ h1, t.size_eq, ha]
            unfold look
            cases ixN env t.name <;> rfl
          · rw [dbT_other _ _ h1 h5, Ty.size_eq, t.size_eq]
            show sizeL (t.args.map _) + 1 = _
            rw [hl _ _ fun a ha => ih a ha (hs.args a ha)]
    exact this t ht.1 []
  rw [h5] at h4
  have h6 : t.size * ((butT nm u t).length + 1) ≤ 100000 * 200002 := Nat.mul_le_mul hs (by omega)
  exact cn_mk (lname ⟨#[121]⟩) (butT nm u t) 100000000000 (fun j hj => yname_lex j (by omega)) t [] [] 0 rfl ht (fun x hx => by cases hx) (by omega)

theorem apart_db (nm : ByteArray) (u t : Ty) (ht : Std t) : dbT [] (apartT nm u t) = dbT [] t :=
  db_cn (lname ⟨#[121]⟩) (fun _ _ => lname_inj) (butT nm u t) t [] [] 0 rfl ht (fun x hx _ => by
    unfold butT
    simp only [List.mem_cons, List.mem_append]
    exact .inr (.inr ((mem_free x t).2 hx))) (fun x hx => by cases hx) List.nodup_nil

theorem bnd_mono {P Q : ByteArray → Prop} (h : ∀ s, P s → Q s) : ∀ t : Ty, bndT P t → bndT Q t := by
  intro t
  induction t using Ty.ind with
  | h t ih =>
    intro hb
    have hb := (bnd_iff P t).1 hb
    exact (bnd_iff Q t).2 ⟨fun e => h _ (hb.1 e), fun a ha => ih a ha (hb.2 a ha)⟩

theorem apart_bnd (nm : ByteArray) (u t : Ty) : bndT (fun s => s ≠ nm ∧ ¬ fvT s u) (apartT nm u t) := by
  refine bnd_mono (fun s hs => ?_) _ (cn_bnd (lname ⟨#[121]⟩) (fun _ _ => lname_inj) (butT nm u t) (dbT [] t) [] 0)
  unfold butT at hs
  simp only [List.mem_cons, List.mem_append, not_or] at hs
  exact ⟨hs.1, fun h => hs.2.1 ((mem_free s u).2 h)⟩

/-- the document's Put -/
def rPutT (nm : ByteArray) (u t : Ty) : Ty := sbT (isVar nm) u (apartT nm u t)
/-- the document's Fill -/
def rFillT (m : Int) (u t : Ty) : Ty := sbT (isMeta m) u (apartT emp u t)

theorem rPut_db (nm : ByteArray) (u t : Ty) (ht : Mk t) (hs : t.size ≤ 100000) (hu : u.size ≤ 100000) : dbT [] (rPutT nm u t) = sbT (isVar nm) (dbT [] u) (dbT [] t) := by
  unfold rPutT
  rw [db_sb (isVar nm) u (fun s n => by simp [isVar_mk]) (fun s n => by simp [isVar_mk]) _ [] (apart_mk nm u t ht hs hu).1 (bnd_mono (fun s h => ⟨h.2, by
    rw [isVar_mk, Bool.and_eq_false_iff]
    right
    rw [← Bool.not_eq_true, eqN_iff]
    exact h.1⟩) _ (apart_bnd nm u t)) (fun x hx => by cases hx), apart_db nm u t ht.1]

theorem rFill_db (m : Int) (u t : Ty) (ht : Mk t) (hs : t.size ≤ 100000) (hu : u.size ≤ 100000) : dbT [] (rFillT m u t) = sbT (isMeta m) (dbT [] u) (dbT [] t) := by
  unfold rFillT
  rw [db_sb (isMeta m) u (fun s n => by simp [isMeta_mk]) (fun s n => by simp [isMeta_mk]) _ [] (apart_mk emp u t ht hs hu).1 (bnd_mono (fun s h => ⟨h.2, by simp [isMeta_mk]⟩) _ (apart_bnd emp u t)) (fun x hx => by cases hx), apart_db emp u t ht.1]

theorem rPut_std (nm : ByteArray) (u t : Ty) (ht : Mk t) (hu : Std u) (hs : t.size ≤ 100000) (hus : u.size ≤ 100000) : Std (rPutT nm u t) := sb_std _ _ hu _ (apart_mk nm u t ht hs hus).1
theorem rFill_std (m : Int) (u t : Ty) (ht : Mk t) (hu : Std u) (hs : t.size ≤ 100000) (hus : u.size ≤ 100000) : Std (rFillT m u t) := sb_std _ _ hu _ (apart_mk emp u t ht hs hus).1

/-- the document's Put is Put, but for bound names -/
theorem rPut_canon (nm : ByteArray) (u t : Ty) (ht : Mk t) (hu : Std u) (hs : t.size ≤ 100000) (hus : u.size ≤ 100000) : canonT (rPutT nm u t) = canonT (PutT nm u t) :=
  canon_congr (rPut_std nm u t ht hu hs hus) (PutT_std nm u t ht.1 hu) (by rw [rPut_db nm u t ht hs hus, db_PutT nm u t ht.1])
theorem rFill_canon (m : Int) (u t : Ty) (ht : Mk t) (hu : Std u) (hs : t.size ≤ 100000) (hus : u.size ≤ 100000) : canonT (rFillT m u t) = canonT (fillT m u t) :=
  canon_congr (rFill_std m u t ht hu hs hus) (fillT_std m u t ht.1 hu) (by rw [rFill_db m u t ht hs hus, db_fillT m u t ht.1])

end Go.Proofs.YtofllmemmggapaaGreatDoor.Tp

/- Types without bound names: names made indices, indices made types; many types put at once. No program in sight. -/
namespace Go.Proofs.YtofllmemmggapaaGreatDoor.Tp

/-! ### names made indices -/
theorem ixN_append (l m : List ByteArray) (x : ByteArray) : ixN (l ++ m) x = match ixN l x with | some i => some i | none => (ixN m x).map (· + l.length) := by
  induction l with
  | nil => cases h : ixN m x <;> simp [ixN, h]
  | cons y l ih =>
    rw [List.cons_append, ixN, ixN]
    by_cases h : eqN y x = true
    · rw [if_pos h, if_pos h]
    · rw [if_neg h, if_neg h, ih]
      cases ixN l x with
      | some i => rfl
      | none =>
        cases ixN m x with
        | some j => simp [Nat.add_assoc]
        | none => rfl

section
variable (env : List ByteArray)
mutual
/-- names of env made indices, from d on -/
def abT : Nat → Ty → Ty
  | d, .mk k s n args => if k = 1 then (match ixN env s with | some i => .mk 6 emp ((d + i : Nat) : Int) [] | none => .mk k s n (abL d args)) else if k = 5 then .mk k s n (abL (d + 1) args) else .mk k s n (abL d args)
def abL : Nat → List Ty → List Ty
  | _, [] => []
  | d, t :: ts => abT d t :: abL d ts
end
theorem abL_map (d : Nat) (ts : List Ty) : abL env d ts = ts.map (abT env d) := by
  induction ts with
  | nil => simp [abL]
  | cons t ts ih => rw [abL, ih]; rfl
theorem abT_mk (d : Nat) (k : Int) (s : ByteArray) (n : Int) (args : List Ty) : abT env d (.mk k s n args) = if k = 1 then (match ixN env s with | some i => .mk 6 emp ((d + i : Nat) : Int) [] | none => .mk k s n (args.map (abT env d))) else if k = 5 then .mk k s n (args.map (abT env (d + 1))) else .mk k s n (args.map (abT env d)) := by
  rw [abT, abL_map, abL_map]
end

theorem db_append (env : List ByteArray) : ∀ (t : Ty) (l : List ByteArray), Std t → dbT (l ++ env) t = abT env l.length (dbT l t) := by
  intro t
  induction t using Ty.ind with
  | h t ih =>
    intro l hs
    by_cases h1 : t.kind = 1
    · obtain ⟨hn, ha⟩ := hs.k1 h1
      rw [dbT_var _ _ h1, dbT_var _ _ h1, hn]
      unfold look
      rw [ixN_append]
      cases h : ixN l t.name with
      | some i => simp only; rw [abT_mk, if_neg (by decide), if_neg (by decide)]; rfl
      | none =>
        simp only
        rw [abT_mk, if_pos rfl]
        cases h2 : ixN env t.name with
        | some j => simp only [Option.map_some]; rw [Nat.add_comm]
        | none => rfl
    · by_cases h5 : t.kind = 5
      · rw [dbT_all _ _ h5, dbT_all _ _ h5, abT_mk, if_neg (by decide), if_pos rfl, List.map_map]
        congr 1
        refine List.map_congr_left fun a ha => ?_
        exact ih a ha (t.name :: l) (hs.args a ha)
      · rw [dbT_other _ _ h1 h5, dbT_other _ _ h1 h5, abT_mk, if_neg h1, if_neg h5, List.map_map]
        congr 1
        exact List.map_congr_left fun a ha => ih a ha l (hs.args a ha)
theorem db_ab (env : List ByteArray) (t : Ty) (h : Std t) : dbT env t = abT env 0 (dbT [] t) := by
  have := db_append env t [] h
  simpa using this
/-- what is the same without bound names is so within any -/
theorem db_env {t u : Ty} (ht : Std t) (hu : Std u) (e : dbT [] t = dbT [] u) (env : List ByteArray) : dbT env t = dbT env u := by rw [db_ab env t ht, db_ab env u hu, e]

mutual
/-- a variable's name stands in it -/
def vnT (x : ByteArray) : Ty → Prop
  | .mk k s _ args => (k = 1 ∧ s = x) ∨ vnL x args
def vnL (x : ByteArray) : List Ty → Prop
  | [] => False
  | t :: ts => vnT x t ∨ vnL x ts
end
theorem vnL_iff (x : ByteArray) (ts : List Ty) : vnL x ts ↔ ∃ a ∈ ts, vnT x a := by
  induction ts with
  | nil => simp [vnL]
  | cons t ts ih => rw [vnL, ih]; simp
theorem vn_mk (x : ByteArray) (k : Int) (s : ByteArray) (n : Int) (args : List Ty) : vnT x (.mk k s n args) ↔ (k = 1 ∧ s = x) ∨ ∃ a ∈ args, vnT x a := by rw [vnT, vnL_iff]
theorem vn_iff (x : ByteArray) (t : Ty) : vnT x t ↔ (t.kind = 1 ∧ t.name = x) ∨ ∃ a ∈ t.args, vnT x a := by cases t with | mk k s n args => exact vn_mk x k s n args
theorem vn_db (x : ByteArray) : ∀ (t : Ty) (env : List ByteArray), Std t → (vnT x (dbT env t) ↔ fvT x t ∧ x ∉ env) := by
  intro t
  induction t using Ty.ind with
  | h t ih =>
    intro env hs
    rw [fvT_iff]
    by_cases h1 : t.kind = 1
    · obtain ⟨hn, ha⟩ := hs.k1 h1
      rw [dbT_var _ _ h1, ha]
      unfold look
      cases h : ixN env t.name with
      | some i =>
        have hm : t.name ∈ env := by
          refine Classical.byContradiction fun hc => ?_
          rw [(ixN_none env t.name).2 hc] at h; cases h
        simp only [vn_mk]
        constructor
        · rintro (⟨h, _⟩ | ⟨a, ha, _⟩)
          · omega
          · cases ha
        · rintro ⟨(⟨_, e⟩ | ⟨⟨a, ha, _⟩, _⟩), hx⟩
          · exact absurd (e ▸ hm) hx
          · cases ha
      | none =>
        have hm : t.name ∉ env := (ixN_none env t.name).1 h
        simp only [vn_mk]
        constructor
        · rintro (⟨_, e⟩ | ⟨a, ha, _⟩)
          · exact ⟨.inl ⟨h1, e⟩, e ▸ hm⟩
          · cases ha
        · rintro ⟨(⟨_, e⟩ | ⟨⟨a, ha, _⟩, _⟩), hx⟩
          · exact .inl ⟨trivial, e⟩
          · cases ha
    · by_cases h5 : t.kind = 5
      · rw [dbT_all _ _ h5, vn_mk]
        constructor
        · rintro (⟨h, _⟩ | ⟨a, ha, hv⟩)
          · omega
          · obtain ⟨b, hb, rfl⟩ := List.mem_map.1 ha
            obtain ⟨hf, hx⟩ := (ih b hb (t.name :: env) (hs.args b hb)).1 hv
            simp only [List.mem_cons, not_or] at hx
            exact ⟨.inr ⟨⟨b, hb, hf⟩, fun e => hx.1 e.2.symm⟩, hx.2⟩
        · rintro ⟨(⟨h, _⟩ | ⟨⟨b, hb, hf⟩, hne⟩), hx⟩
          · omega
          · refine .inr ⟨_, List.mem_map.2 ⟨b, hb, rfl⟩, (ih b hb (t.name :: env) (hs.args b hb)).2 ⟨hf, ?_⟩⟩
            simp only [List.mem_cons, not_or]
            exact ⟨fun e => hne ⟨h5, e.symm⟩, hx⟩
      · rw [dbT_other _ _ h1 h5, vn_mk]
        constructor
        · rintro (⟨h, _⟩ | ⟨a, ha, hv⟩)
          · exact absurd h h1
          · obtain ⟨b, hb, rfl⟩ := List.mem_map.1 ha
            obtain ⟨hf, hx⟩ := (ih b hb env (hs.args b hb)).1 hv
            exact ⟨.inr ⟨⟨b, hb, hf⟩, fun e => h5 e.1⟩, hx⟩
        · rintro ⟨(⟨h, _⟩ | ⟨⟨b, hb, hf⟩, _⟩), hx⟩
          · exact absurd h h1
          · exact .inr ⟨_, List.mem_map.2 ⟨b, hb, rfl⟩, (ih b hb env (hs.args b hb)).2 ⟨hf, hx⟩⟩

theorem ab_var (n y : ByteArray) : ∀ (X : Ty) (d : Nat), ¬ vnT n X → abT [n] d (sbT (isVar y) (.mk 1 n 0 []) X) = abT [y] d X := by
  intro X
  induction X using Ty.ind with
  | h X ih =>
    cases X with
    | mk k s m args =>
      intro d hn
      have hn' := hn
      rw [vn_mk, not_or] at hn
      have ha : ∀ a ∈ args, ∀ d, abT [n] d (sbT (isVar y) (.mk 1 n 0 []) a) = abT [y] d a := fun a ha d => ih a ha d fun h => hn.2 ⟨a, ha, h⟩
      rw [sbT_mk, isVar_mk]
      by_cases h1 : k = 1
      · subst h1
        by_cases hy : s = y
        · subst hy
          have e1 : eqN s s = true := (eqN_iff _ _).2 rfl
          rw [show ((1 : Int) == 1 && eqN s s) = true by rw [e1]; rfl, if_pos rfl, abT_mk, abT_mk, if_pos rfl, if_pos rfl, ixN_cons_same, ixN_cons_same]
        · have e1 : eqN s y = false := by rw [← Bool.not_eq_true, eqN_iff]; exact hy
          have hsn : s ≠ n := fun e => hn.1 ⟨rfl, e⟩
          rw [show ((1 : Int) == 1 && eqN s y) = false by rw [e1]; rfl, if_neg (by decide), abT_mk, abT_mk, if_pos rfl, if_pos rfl, (ixN_none [n] s).2 (by simpa using hsn), (ixN_none [y] s).2 (by simpa using hy)]
          simp only [List.map_map]
          congr 1
          exact List.map_congr_left fun a ha' => ha a ha' d
      · have e1 : (k == 1) = false := by rw [beq_eq_false_iff_ne]; exact h1
        rw [show (k == 1 && eqN s y) = false by rw [e1]; rfl, if_neg (by decide), abT_mk, abT_mk, if_neg h1, if_neg h1]
        split
        · rw [List.map_map]; congr 1; exact List.map_congr_left fun a ha' => ha a ha' (d + 1)
        · rw [List.map_map]; congr 1; exact List.map_congr_left fun a ha' => ha a ha' d

/-- behind a for all, with a new name in the place of its own -/
theorem put_var_db (y n : ByteArray) (b : Ty) (env : List ByteArray) (hb : Std b) (hn : ¬ fvT n b) : dbT (n :: env) (PutT y (.mk 1 n 0 []) b) = dbT (y :: env) b := by
  have hp := PutT_std y (.mk 1 n 0 []) b hb (std_var n)
  have h1 : dbT [n] (PutT y (.mk 1 n 0 []) b) = dbT [y] b := by
    rw [db_ab [n] _ hp, db_ab [y] b hb, db_PutT y _ b hb]
    refine ab_var n y (dbT [] b) 0 fun h => ?_
    exact hn ((vn_db n b [] hb).1 h).1
  have e1 := db_append env (PutT y (.mk 1 n 0 []) b) [n] hp
  have e2 := db_append env b [y] hb
  rw [show n :: env = [n] ++ env from rfl, show y :: env = [y] ++ env from rfl, e1, e2, h1]; rfl

/-! ### indices made types -/
section
variable (τ : Nat → Ty)
mutual
/-- the indices from d on made types -/
def inT : Nat → Ty → Ty
  | d, .mk k s n args => if k = 6 then (if d ≤ n.toNat then τ (n.toNat - d) else .mk k s n (inL d args)) else if k = 5 then .mk k s n (inL (d + 1) args) else .mk k s n (inL d args)
def inL : Nat → List Ty → List Ty
  | _, [] => []
  | d, t :: ts => inT d t :: inL d ts
end
theorem inL_map (d : Nat) (ts : List Ty) : inL τ d ts = ts.map (inT τ d) := by
  induction ts with
  | nil => simp [inL]
  | cons t ts ih => rw [inL, ih]; rfl
theorem inT_mk (d : Nat) (k : Int) (s : ByteArray) (n : Int) (args : List Ty) : inT τ d (.mk k s n args) = if k = 6 then (if d ≤ n.toNat then τ (n.toNat - d) else .mk k s n (args.map (inT τ d))) else if k = 5 then .mk k s n (args.map (inT τ (d + 1))) else .mk k s n (args.map (inT τ d)) := by
  rw [inT, inL_map, inL_map]
end

mutual
/-- as types without bound names are: indices below d, nothing behind variables and indices -/
def DbW : Nat → Ty → Prop
  | d, .mk k s n args => (k = 1 → n = 0 ∧ args = []) ∧ (k = 6 → args = [] ∧ s = emp ∧ 0 ≤ n ∧ n.toNat < d) ∧ DbWL (if k = 5 then d + 1 else d) args
def DbWL : Nat → List Ty → Prop
  | _, [] => True
  | d, t :: ts => DbW d t ∧ DbWL d ts
end
theorem DbWL_iff (d : Nat) (ts : List Ty) : DbWL d ts ↔ ∀ t ∈ ts, DbW d t := by
  induction ts with
  | nil => simp [DbWL]
  | cons t ts ih => rw [DbWL, ih]; simp
theorem dbw_mk (d : Nat) (k : Int) (s : ByteArray) (n : Int) (args : List Ty) : DbW d (.mk k s n args) ↔ (k = 1 → n = 0 ∧ args = []) ∧ (k = 6 → args = [] ∧ s = emp ∧ 0 ≤ n ∧ n.toNat < d) ∧ ∀ a ∈ args, DbW (if k = 5 then d + 1 else d) a := by rw [DbW, DbWL_iff]

theorem db_dbw : ∀ (t : Ty) (env : List ByteArray), Std t → DbW env.length (dbT env t) := by
  intro t
  induction t using Ty.ind with
  | h t ih =>
    intro env hs
    have hk := hs.kind
    by_cases h1 : t.kind = 1
    · obtain ⟨hn, ha⟩ := hs.k1 h1
      rw [dbT_var _ _ h1, hn]
      unfold look
      cases h : ixN env t.name with
      | some i =>
        have hi := ixN_get env t.name i h
        obtain ⟨hlt, _⟩ := List.getElem?_eq_some_iff.1 hi
        simp only
        rw [dbw_mk]
        exact ⟨fun h => by omega, fun _ => ⟨rfl, rfl, by omega, by simpa using hlt⟩, fun a ha => by cases ha⟩
      | none =>
        simp only
        rw [dbw_mk]
        exact ⟨fun _ => ⟨rfl, rfl⟩, fun h => by omega, fun a ha => by cases ha⟩
    · by_cases h5 : t.kind = 5
      · rw [dbT_all _ _ h5, dbw_mk]
        refine ⟨fun h => by omega, fun h => by omega, fun a ha => ?_⟩
        obtain ⟨b, hb, rfl⟩ := List.mem_map.1 ha
        rw [if_pos rfl]
        exact ih b hb (t.name :: env) (hs.args b hb)
      · rw [dbT_other _ _ h1 h5, dbw_mk]
        refine ⟨fun h => absurd h h1, fun h => by omega, fun a ha => ?_⟩
        obtain ⟨b, hb, rfl⟩ := List.mem_map.1 ha
        rw [if_neg h5]
        exact ih b hb env (hs.args b hb)

/-- indices made the names that they came of -/
theorem in_ab (env : List ByteArray) : ∀ (X : Ty) (d : Nat), DbW d X → inT (fun i => .mk 1 (env.getD i emp) 0 []) d (abT env d X) = X := by
  intro X
  induction X using Ty.ind with
  | h X ih =>
    cases X with
    | mk k s n args =>
      intro d hw
      obtain ⟨w1, w6, wa⟩ := (dbw_mk d k s n args).1 hw
      rw [abT_mk]
      by_cases h1 : k = 1
      · subst h1
        obtain ⟨rfl, rfl⟩ := w1 rfl
        rw [if_pos rfl]
        cases h : ixN env s with
        | some i =>
          simp only
          rw [inT_mk, if_pos rfl, if_pos (by omega)]
          have hi := ixN_get env s i h
          rw [show ((d + i : Nat) : Int).toNat - d = i by omega, List.getD_eq_getElem?_getD, hi]; rfl
        | none =>
          simp only
          rw [inT_mk, if_neg (by decide), if_neg (by decide)]; rfl
      · rw [if_neg h1]
        by_cases h5 : k = 5
        · rw [if_pos h5, inT_mk, if_neg (by omega), if_pos h5, List.map_map]
          congr 1
          refine map_id_of fun a ha => ?_
          have := wa a ha
          rw [if_pos h5] at this
          exact ih a ha (d + 1) this
        · rw [if_neg h5, inT_mk]
          by_cases h6 : k = 6
          · subst h6
            obtain ⟨rfl, rfl, h0, hlt⟩ := w6 rfl
            rw [if_pos rfl, if_neg (by omega)]; rfl
          · rw [if_neg h6, if_neg h5, List.map_map]
            congr 1
            refine map_id_of fun a ha => ?_
            have := wa a ha
            rw [if_neg h5] at this
            exact ih a ha d this

end Go.Proofs.YtofllmemmggapaaGreatDoor.Tp

/- Matching: what the program does, and that it tells just whether there are types. No program in sight. -/
namespace Go.Proofs.YtofllmemmggapaaGreatDoor.Tp

/-! ### types without for alls -/
def Mono (u : Ty) : Prop := Std u ∧ polyT u = false
theorem Mono.arg {u a : Ty} (h : Mono u) (ha : a ∈ u.args) : Mono a := by
  have hp := h.2
  rw [polyT_eq, Bool.or_eq_false_iff] at hp
  exact ⟨h.1.args a ha, by simpa using (List.any_eq_false.1 hp.2) a ha⟩
theorem Mono.kind {u : Ty} (h : Mono u) : u.kind ≠ 5 ∧ u.kind ≠ 6 := by
  have hp := h.2
  rw [polyT_eq, Bool.or_eq_false_iff] at hp
  have := h.1.kind
  exact ⟨by simpa using hp.1, by omega⟩
theorem mono_mk {t : Ty} (hs : Std t) (hk : t.kind ≠ 5) (h : ∀ a ∈ t.args, Mono a) : Mono t := by
  refine ⟨hs, ?_⟩
  rw [polyT_eq, Bool.or_eq_false_iff]
  exact ⟨by simpa using hk, List.any_eq_false.2 fun a ha => by simp [(h a ha).2]⟩
/-- such a type is its own, if nothing of it is bound -/
theorem db_mono : ∀ (u : Ty) (env : List ByteArray), Mono u → (∀ x, fvT x u → x ∉ env) → dbT env u = u := by
  intro u
  induction u using Ty.ind with
  | h u ih =>
    intro env hm hf
    by_cases h1 : u.kind = 1
    · obtain ⟨hn, ha⟩ := hm.1.k1 h1
      rw [dbT_var _ _ h1]
      unfold look
      rw [(ixN_none env u.name).2 (hf _ ((fvT_iff _ u).2 (.inl ⟨h1, rfl⟩)))]
      simp only
      rw [← h1, hn]
      conv => rhs; rw [← ty_eta u, ha, hn]
    · rw [dbT_other _ _ h1 hm.kind.1]
      conv => rhs; rw [← ty_eta u]
      congr 1
      exact map_id_of fun a ha => ih a ha env (hm.arg ha) fun x hx => hf x ((fvT_iff x u).2 (.inr ⟨⟨a, ha, hx⟩, fun e => hm.kind.1 e.1⟩))
/-- and what becomes such a type, is it -/
theorem db_mono_inv : ∀ (t : Ty) (env : List ByteArray) (u : Ty), Std t → Mono u → dbT env t = u → t = u ∧ ∀ x, fvT x t → x ∉ env := by
  intro t
  induction t using Ty.ind with
  | h t ih =>
    intro env u hs hm e
    by_cases h1 : t.kind = 1
    · obtain ⟨hn, ha⟩ := hs.k1 h1
      rw [dbT_var _ _ h1] at e
      unfold look at e
      cases h : ixN env t.name with
      | some i => rw [h] at e; exact absurd (show u.kind = 6 by rw [← e]; rfl) hm.kind.2
      | none =>
        rw [h] at e
        simp only at e
        have et : t = u := by rw [← e, ← ty_eta t, ha, hn, h1]; rfl
        refine ⟨et, fun x hx => ?_⟩
        rw [fvT_iff, ha] at hx
        rcases hx with hx | ⟨⟨a, ha, _⟩, _⟩
        · rw [← hx.2]; exact (ixN_none env t.name).1 h
        · cases ha
    · by_cases h5 : t.kind = 5
      · rw [dbT_all _ _ h5] at e
        exact absurd (show u.kind = 5 by rw [← e]; rfl) hm.kind.1
      · rw [dbT_other _ _ h1 h5] at e
        have hargs : ∀ a ∈ t.args, dbT env a = a ∧ ∀ x, fvT x a → x ∉ env := fun a ha => by
          have hma : Mono (dbT env a) := hm.arg (by rw [← e]; exact List.mem_map.2 ⟨a, ha, rfl⟩)
          obtain ⟨e1, e2⟩ := ih a ha env _ (hs.args a ha) hma rfl
          exact ⟨e1.symm, e2⟩
        refine ⟨?_, fun x hx => ?_⟩
        · rw [← e, map_id_of fun a ha => (hargs a ha).1]; exact (ty_eta t).symm
        · rw [fvT_iff] at hx
          rcases hx with hx | ⟨⟨a, ha, hx⟩, _⟩
          · exact absurd hx.1 h1
          · exact (hargs a ha).2 x hx

/-! ### many types put at once -/
section
variable (v : ByteArray → Option Ty)
mutual
def svT : Ty → Ty
  | .mk k s n args => if k = 1 then (match v s with | some u => u | none => .mk k s n (svL args)) else .mk k s n (svL args)
def svL : List Ty → List Ty
  | [] => []
  | t :: ts => svT t :: svL ts
end
theorem svL_map (ts : List Ty) : svL v ts = ts.map (svT v) := by
  induction ts with
  | nil => simp [svL]
  | cons t ts ih => rw [svL, ih]; rfl
theorem svT_mk (k : Int) (s : ByteArray) (n : Int) (args : List Ty) : svT v (.mk k s n args) = if k = 1 then (match v s with | some u => u | none => .mk k s n (args.map (svT v))) else .mk k s n (args.map (svT v)) := by rw [svT, svL_map]
end
theorem sv_congr (v v' : ByteArray → Option Ty) : ∀ X : Ty, (∀ x, vnT x X → v x = v' x) → svT v X = svT v' X := by
  intro X
  induction X using Ty.ind with
  | h X ih =>
    cases X with
    | mk k s n args =>
      intro h
      have ha : args.map (svT v) = args.map (svT v') := List.map_congr_left fun a ha => ih a ha fun x hx => h x ((vn_mk _ _ _ _ _).2 (.inr ⟨a, ha, hx⟩))
      rw [svT_mk, svT_mk, ha]
      by_cases h1 : k = 1
      · rw [if_pos h1, if_pos h1, h s ((vn_mk _ _ _ _ _).2 (.inl ⟨h1, rfl⟩))]
      · rw [if_neg h1, if_neg h1]
theorem sv_none (v : ByteArray → Option Ty) : ∀ X : Ty, (∀ x, vnT x X → v x = none) → svT v X = X := by
  intro X
  induction X using Ty.ind with
  | h X ih =>
    cases X with
    | mk k s n args =>
      intro h
      have ha : args.map (svT v) = args := map_id_of fun a ha => ih a ha fun x hx => h x ((vn_mk _ _ _ _ _).2 (.inr ⟨a, ha, hx⟩))
      rw [svT_mk, ha]
      by_cases h1 : k = 1
      · rw [if_pos h1, h s ((vn_mk _ _ _ _ _).2 (.inl ⟨h1, rfl⟩))]
      · rw [if_neg h1]
/-- a type without for alls and indices has no index -/
theorem in_mono (τ : Nat → Ty) : ∀ (u : Ty) (d : Nat), Mono u → inT τ d u = u := by
  intro u
  induction u using Ty.ind with
  | h u ih =>
    intro d hm
    have hk := hm.kind
    cases u with
    | mk k s n args =>
      rw [inT_mk, if_neg (show k ≠ 6 from hk.2), if_neg (show k ≠ 5 from hk.1)]
      congr 1
      exact map_id_of fun a ha => ih a ha d (hm.arg ha)
/-- putting behind indices made types -/
theorem sv_in (v : ByteArray → Option Ty) (τ : Nat → Ty) (hv : ∀ x u, v x = some u → Mono u) : ∀ (X : Ty) (d m : Nat), DbW m X → svT v (inT τ d X) = inT (fun i => svT v (τ i)) d (svT v X) := by
  intro X
  induction X using Ty.ind with
  | h X ih =>
    cases X with
    | mk k s n args =>
      intro d m hw
      obtain ⟨w1, w6, wa⟩ := (dbw_mk m k s n args).1 hw
      by_cases h1 : k = 1
      · subst h1
        obtain ⟨rfl, rfl⟩ := w1 rfl
        rw [inT_mk, if_neg (by decide), if_neg (by decide), svT_mk, if_pos rfl, svT_mk, if_pos rfl]
        cases h : v s with
        | some u => simp only; exact (in_mono _ u d (hv s u h)).symm
        | none => simp only; rw [inT_mk, if_neg (by decide), if_neg (by decide)]; rfl
      · by_cases h6 : k = 6
        · subst h6
          obtain ⟨rfl, rfl, _, _⟩ := w6 rfl
          have e6 : svT v (.mk 6 emp n []) = .mk 6 emp n [] := by rw [svT_mk, if_neg (by decide)]; rfl
          rw [e6, inT_mk τ, if_pos rfl, inT_mk, if_pos rfl]
          split
          · rfl
          · exact e6
        · by_cases h5 : k = 5
          · rw [inT_mk, if_neg h6, if_pos h5, svT_mk, if_neg h1, svT_mk, if_neg h1, inT_mk, if_neg h6, if_pos h5, List.map_map, List.map_map]
            congr 1
            exact List.map_congr_left fun a ha => ih a ha (d + 1) _ (wa a ha)
          · rw [inT_mk, if_neg h6, if_neg h5, svT_mk, if_neg h1, svT_mk, if_neg h1, inT_mk, if_neg h6, if_neg h5, List.map_map, List.map_map]
            congr 1
            exact List.map_congr_left fun a ha => ih a ha d _ (wa a ha)

/-! ### what the program does -/
abbrev Fnd := List (ByteArray × Ty)
def lkF (f : Fnd) (x : ByteArray) : Option Ty := (f.find? fun e => eqN e.1 x).map (·.2)
theorem lk_nil (x : ByteArray) : lkF [] x = none := rfl
theorem lk_snoc_old {f : Fnd} {x : ByteArray} {u : Ty} (h : lkF f x = some u) (e : ByteArray × Ty) : lkF (f ++ [e]) x = some u := by
  unfold lkF at *
  rw [List.find?_append]
  cases hf : f.find? (fun e => eqN e.1 x) with
  | some y => rw [hf] at h; simpa using h
  | none => rw [hf] at h; cases h
theorem lk_snoc_new {f : Fnd} {x : ByteArray} (h : lkF f x = none) (u : Ty) : lkF (f ++ [(x, u)]) x = some u := by
  unfold lkF at *
  rw [List.find?_append]
  cases hf : f.find? (fun e => eqN e.1 x) with
  | some y => rw [hf] at h; cases h
  | none => simp [(eqN_iff x x).2 rfl]
theorem lk_snoc_other {f : Fnd} {x y : ByteArray} (hne : y ≠ x) (u : Ty) : lkF (f ++ [(y, u)]) x = lkF f x := by
  unfold lkF
  rw [List.find?_append]
  have : eqN y x = false := by rw [← Bool.not_eq_true, eqN_iff]; exact hne
  cases f.find? (fun e => eqN e.1 x) with
  | some y => rfl
  | none => simp [this]

/-- nothing of it is bound, and no for all is in it -/
def ownB (t : Ty) (et : List ByteArray) : Bool := !polyT t && !(freeT t).any fun n => (ixN et n).isSome
theorem own_iff (t : Ty) (et : List ByteArray) : ownB t et = true ↔ polyT t = false ∧ ∀ x, fvT x t → x ∉ et := by
  unfold ownB
  rw [Bool.and_eq_true, Bool.not_eq_true', Bool.not_eq_true', List.any_eq_false]
  refine and_congr Iff.rfl ⟨fun h x hx => ?_, fun h x hx => ?_⟩
  · have h2 := h x ((mem_free x t).2 hx)
    refine (ixN_none et x).1 ?_
    simpa using h2
  · have := (ixN_none et x).2 (h x ((mem_free x t).1 hx))
    simp [this]

def varM (vars : List ByteArray) (s : ByteArray) (t : Ty) (ep et : List ByteArray) (f : Fnd) : Bool × Fnd :=
  if (ixN ep s).isNone && hasN vars s then
    match lkF f s with
    | some u => (decide (canonS u = canonS t) && ownB t et, f)
    | none => (ownB t et, f ++ [(s, t)])
  else (t.kind == 1 && decide (ixN ep s = ixN et t.name) && ((ixN ep s).isSome || eqN s t.name), f)

section
variable (vars : List ByteArray)
mutual
def mT : Ty → Ty → List ByteArray → List ByteArray → Fnd → Bool × Fnd
  | .mk k s n args, t, ep, et, f =>
    if k = 1 then varM vars s t ep et f
    else if k ≠ t.kind ∨ args.length ≠ t.args.length ∨ n ≠ t.n ∨ (k = 3 ∧ s ≠ t.name) then (false, f)
    else if k = 5 then mL args t.args (s :: ep) (t.name :: et) f else mL args t.args ep et f
def mL : List Ty → List Ty → List ByteArray → List ByteArray → Fnd → Bool × Fnd
  | [], _, _, _, f => (true, f)
  | p :: ps, ts, ep, et, f => match ts with
    | [] => (true, f)
    | t :: ts => if (mT p t ep et f).1 then mL ps ts ep et (mT p t ep et f).2 else (false, (mT p t ep et f).2)
end
end

/-- what is found lies within some types for names -/
def Within (f : Fnd) (v : ByteArray → Option Ty) : Prop := ∀ x u, lkF f x = some u → v x = some u
theorem Within.trans {f f' : Fnd} {v : ByteArray → Option Ty} (h : Within f (lkF f')) (h' : Within f' v) : Within f v := fun x u e => h' x u (h x u e)

/-- what is found is good -/
structure FGood (vars : List ByteArray) (f : Fnd) : Prop where
  dom : ∀ x u, lkF f x = some u → x ∈ vars
  val : ∀ x u, lkF f x = some u → Mono u ∧ Mk u

theorem mk_args {t : Ty} (h : Mk t) : ∀ a ∈ t.args, Mk a := fun a ha => ⟨h.1.args a ha, ((lex_iff t).1 h.2).2 a ha⟩

/-- what is told, if it is true -/
def MSound (vars : List ByteArray) (p : Ty) : Prop := ∀ (t : Ty) (ep et : List ByteArray) (f f' : Fnd), Std p → Mk t → FGood vars f → mT vars p t ep et f = (true, f') →
  FGood vars f' ∧ Within f (lkF f') ∧ (∀ x, vnT x (dbT ep p) → x ∈ vars → lkF f' x ≠ none) ∧ (∀ x, lkF f' x ≠ none → lkF f x ≠ none ∨ vnT x (dbT ep p)) ∧ ∀ v, Within f' v → (∀ x, x ∉ vars → v x = none) → svT v (dbT ep p) = dbT et t

theorem var_sound (vars : List ByteArray) (p t : Ty) (ep et : List ByteArray) (f f' : Fnd) (hk : p.kind = 1) (hp : Std p) (ht : Mk t) (hf : FGood vars f) (h : varM vars p.name t ep et f = (true, f')) :
    FGood vars f' ∧ Within f (lkF f') ∧ (∀ x, vnT x (dbT ep p) → x ∈ vars → lkF f' x ≠ none) ∧ (∀ x, lkF f' x ≠ none → lkF f x ≠ none ∨ vnT x (dbT ep p)) ∧ ∀ v, Within f' v → (∀ x, x ∉ vars → v x = none) → svT v (dbT ep p) = dbT et t := by
  obtain ⟨hn0, ha⟩ := hp.k1 hk
  unfold varM at h
  rw [dbT_var _ _ hk, hn0]
  unfold look
  by_cases hc : ((ixN ep p.name).isNone && hasN vars p.name) = true
  · rw [if_pos hc] at h
    rw [Bool.and_eq_true, Option.isNone_iff_eq_none, hasN_iff] at hc
    rw [hc.1]
    simp only
    have hsv : ∀ v : ByteArray → Option Ty, ∀ u, v p.name = some u → svT v (.mk 1 p.name 0 []) = u := fun v u e => by rw [svT_mk, if_pos rfl, e]
    have hvn : ∀ x, vnT x (.mk 1 p.name 0 []) → p.name = x := fun x hx => by
      rcases (vn_mk _ _ _ _ _).1 hx with h | ⟨a, ha, _⟩
      · exact h.2
      · cases ha
    cases hl : lkF f p.name with
    | some u =>
      rw [hl] at h
      simp only [Prod.mk.injEq, Bool.and_eq_true, decide_eq_true_eq] at h
      obtain ⟨⟨hs, ho⟩, rfl⟩ := h
      obtain ⟨hm, hfr⟩ := (own_iff t et).1 ho
      have hmt : Mono t := ⟨ht.1, hm⟩
      have e : u = t := by
        obtain ⟨hmu, hku⟩ := hf.val _ _ hl
        unfold canonS at hs
        rw [canon_plain u hmu.2, canon_plain t hm] at hs
        exact print_inj hku ht hs
      refine ⟨hf, fun x u e => e, fun x hx _ => ?_, fun x hx => .inl hx, fun v hv _ => ?_⟩
      · rw [← hvn x hx, hl]; simp
      · rw [hsv v u (hv _ _ hl), e, db_mono t et hmt hfr]
    | none =>
      rw [hl] at h
      simp only [Prod.mk.injEq] at h
      obtain ⟨ho, rfl⟩ := h
      obtain ⟨hm, hfr⟩ := (own_iff t et).1 ho
      have hmt : Mono t := ⟨ht.1, hm⟩
      have hnew := lk_snoc_new hl t
      refine ⟨⟨fun x u e => ?_, fun x u e => ?_⟩, fun x u e => lk_snoc_old e _, fun x hx _ => ?_, fun x hx => ?_, fun v hv _ => ?_⟩
      · by_cases hx : p.name = x
        · rw [← hx]; exact hc.2
        · rw [lk_snoc_other hx] at e; exact hf.dom x u e
      · by_cases hx : p.name = x
        · subst hx
          rw [hnew] at e
          injection e with e
          exact e ▸ ⟨hmt, ht⟩
        · rw [lk_snoc_other hx] at e; exact hf.val x u e
      · rw [← hvn x hx, hnew]; simp
      · by_cases hxe : p.name = x
        · exact .inr ((vn_mk _ _ _ _ _).2 (.inl ⟨rfl, hxe⟩))
        · rw [lk_snoc_other hxe] at hx; exact .inl hx
      · rw [hsv v t (hv _ _ hnew), db_mono t et hmt hfr]
  · rw [if_neg hc] at h
    simp only [Prod.mk.injEq, Bool.and_eq_true, beq_iff_eq, decide_eq_true_eq, Bool.or_eq_true] at h
    obtain ⟨⟨⟨htk, hix⟩, hor⟩, rfl⟩ := h
    obtain ⟨htn, hta⟩ := ht.1.k1 htk
    refine ⟨hf, fun x u e => e, fun x hx hxv => ?_, fun x hx => .inl hx, fun v _ hvn => ?_⟩
    · exfalso
      cases he : ixN ep p.name with
      | some i =>
        rw [he] at hx
        rcases (vn_mk _ _ _ _ _).1 hx with h | ⟨a, ha, _⟩
        · exact absurd h.1 (by decide)
        · cases ha
      | none =>
        rw [he] at hx
        rcases (vn_mk _ _ _ _ _).1 hx with h | ⟨a, ha, _⟩
        · apply hc
          rw [he, Bool.and_eq_true, hasN_iff, h.2]
          exact ⟨rfl, hxv⟩
        · cases ha
    · rw [dbT_var _ _ htk, htn]
      unfold look
      rw [← hix]
      cases he : ixN ep p.name with
      | some i => simp only; rw [svT_mk, if_neg (by decide)]; rfl
      | none =>
        simp only
        rw [he] at hor
        have hne : p.name = t.name := by
          rcases hor with h | h
          · cases h
          · exact (eqN_iff _ _).1 h
        have hnv : p.name ∉ vars := fun hm => hc (by rw [he, Bool.and_eq_true, hasN_iff]; exact ⟨rfl, hm⟩)
        rw [svT_mk, if_pos rfl, hvn _ hnv, hne]; rfl

end Go.Proofs.YtofllmemmggapaaGreatDoor.Tp

/- The chapter's examples, reckoned. No program in sight. -/
namespace Go.Proofs.YtofllmemmggapaaGreatDoor.Tp
open Lx

/-- canonical names below ten, spelled -/
def xn (n : Nat) : ByteArray := if n < 10 then ⟨#[120, UInt8.ofNat (48 + n)]⟩ else xname n
theorem xname_xn : xname = xn := by
  funext n
  unfold xn
  split
  · next h =>
    apply ByteArray.ext
    have := xname_list n
    rw [Lib.decDigits, dif_pos h] at this
    apply Array.toList_inj.1
    rw [this]
  · rfl
theorem canon_fast {t D : Ty} {F : List ByteArray} (hs : Std t) (hD : dbT [] t = D) (hF : walkF ocStep D [] [] = F) : canonT t = (cnT xn F [] 0 D).1 := by
  rw [canonT_cn t hs, free_db t hs, hD, hF, xname_xn]

def txA : ByteArray := ⟨#[102, 111, 114, 97, 108, 108, 32, 97, 46, 102, 111, 114, 97, 108, 108, 32, 98, 32, 46, 32, 40, 97, 45, 62, 84, 32, 40, 98, 41, 41, 45, 62, 98]⟩
def txB : ByteArray := ⟨#[84, 32, 97, 32, 40, 85, 32, 98, 41, 32, 63, 51, 32, 45, 62, 32, 40, 99, 32, 45, 62, 32, 100, 41]⟩
def txC : ByteArray := ⟨#[97, 32, 98]⟩
def txE : ByteArray := ⟨#[102, 111, 114, 97, 108, 108, 32, 97, 46, 32, 120, 48, 32, 45, 62, 32, 97]⟩
def txD : ByteArray := ⟨#[102, 111, 114, 97, 108, 108, 32, 97, 46, 32, 97, 32, 45, 62, 32, 98]⟩
def txU : ByteArray := ⟨#[97]⟩
def tyA : Ty := tAll [97] (tAll [98] (tFun (tFun (tVar [97]) (tCon [84] [tVar [98]])) (tVar [98])))
def tyB : Ty := tFun (tCon [84] [tVar [97], tCon [85] [tVar [98]], tMeta [63, 51]]) (tFun (tVar [99]) (tVar [100]))
def tyE : Ty := tAll [97] (tFun (tVar [120, 48]) (tVar [97]))
def tyD : Ty := tAll [97] (tFun (tVar [97]) (tVar [98]))
def tyU : Ty := tVar [97]
theorem parA : parseT txA.data.toList = .ok tyA := by kernel_rfl
theorem parB : parseT txB.data.toList = .ok tyB := by kernel_rfl
theorem parC : parseT txC.data.toList = .error 20 := by kernel_rfl
theorem parO : parseT (⟨#[]⟩ : ByteArray).data.toList = .error 20 := by kernel_rfl
theorem parE : parseT txE.data.toList = .ok tyE := by kernel_rfl
theorem parD : parseT txD.data.toList = .ok tyD := by kernel_rfl
theorem parU : parseT txU.data.toList = .ok tyU := by kernel_rfl
theorem priA : printT tyA = [102, 111, 114, 97, 108, 108, 32, 97, 32, 98, 46, 32, 40, 97, 32, 45, 62, 32, 84, 32, 98, 41, 32, 45, 62, 32, 98] := by kernel_rfl
theorem itoa3 : Lib.itoa (3 : Int) = [51] := by
  have := Lib.itoa_nonneg 3
  rw [Lib.decDigits, dif_pos (by omega)] at this
  exact this
theorem canA : printT (canonT tyA) = [102, 111, 114, 97, 108, 108, 32, 120, 48, 32, 120, 49, 46, 32, 40, 120, 48, 32, 45, 62, 32, 84, 32, 120, 49, 41, 32, 45, 62, 32, 120, 49] := by
  rw [canon_fast (parse_made parA).1.1 rfl rfl]; kernel_rfl
theorem canE : printT (canonT tyE) = [102, 111, 114, 97, 108, 108, 32, 120, 49, 46, 32, 120, 48, 32, 45, 62, 32, 120, 49] := by
  rw [canon_fast (parse_made parE).1.1 rfl rfl]; kernel_rfl
theorem priM : printT (tMeta [63, 51]) = [63, 51] := by
  rw [printT_meta _ rfl]
  show 63 :: Lib.itoa (3 : Int) = _
  rw [itoa3]
theorem priB : printT tyB = [84, 32, 97, 32, 40, 85, 32, 98, 41, 32, 63, 51, 32, 45, 62, 32, 99, 32, 45, 62, 32, 100] := by
  rw [show tyB = tFun (tCon [84] [tVar [97], tCon [85] [tVar [98]], tMeta [63, 51]]) (tFun (tVar [99]) (tVar [100])) from rfl, printT_fun _ _ _ rfl rfl, printT_con (tCon _ _) rfl]
  simp only [tCon, Ty.args, List.map_cons, List.map_nil]
  rw [priM]
  kernel_rfl
theorem freB : (freeT tyB).length = 4 := by kernel_rfl
theorem metB : (metasT tyB).length = 1 := by kernel_rfl
theorem putD : printT (canonT (PutT ⟨#[98]⟩ tyU tyD)) = [102, 111, 114, 97, 108, 108, 32, 120, 48, 46, 32, 120, 48, 32, 45, 62, 32, 97] := by
  have hd := (parse_made parD).1.1
  have hu := (parse_made parU).1.1
  have e := canon_fast (F := walkF ocStep (sbT (isVar ⟨#[98]⟩) (dbT [] tyU) (dbT [] tyD)) [] []) (PutT_std ⟨#[98]⟩ tyU tyD hd hu) (db_PutT ⟨#[98]⟩ tyU tyD hd) rfl
  rw [e]
  exact (show printT (cnT xn (walkF ocStep (sbT (isVar ⟨#[98]⟩) (dbT [] tyU) (dbT [] tyD)) [] []) [] 0 (sbT (isVar ⟨#[98]⟩) (dbT [] tyU) (dbT [] tyD))).1 = [102, 111, 114, 97, 108, 108, 32, 120, 48, 46, 32, 120, 48, 32, 45, 62, 32, 97] by kernel_rfl)

end Go.Proofs.YtofllmemmggapaaGreatDoor.Tp

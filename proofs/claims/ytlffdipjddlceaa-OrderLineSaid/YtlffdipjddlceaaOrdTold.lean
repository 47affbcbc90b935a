/- The order in which groups are told is the document's. No program in sight. -/
import Derived.Test.YtlffdipjddlceaaOrdAll
namespace Go.Proofs.Ytlffdipjddlceaa.Od

theorem sorted_ext {a b : List Nat} (ha : a.Pairwise (· < ·)) (hb : b.Pairwise (· < ·)) (h : ∀ x, x ∈ a ↔ x ∈ b) : a = b := by
  induction a generalizing b with
  | nil =>
    cases b with
    | nil => rfl
    | cons y b => exact absurd ((h y).2 (by simp)) (by simp)
  | cons x a ih =>
    cases b with
    | nil => exact absurd ((h x).1 (by simp)) (by simp)
    | cons y b =>
      obtain ⟨ha1, ha2⟩ := List.pairwise_cons.1 ha
      obtain ⟨hb1, hb2⟩ := List.pairwise_cons.1 hb
      have hxy : x = y := by
        rcases List.mem_cons.1 ((h x).1 (by simp)) with e | e
        · exact e
        · rcases List.mem_cons.1 ((h y).2 (by simp)) with e2 | e2
          · exact e2.symm
          · have := hb1 x e; have := ha1 y e2; omega
      subst hxy
      rw [ih ha2 hb2 (fun z => ?_)]
      constructor
      · intro hz
        rcases List.mem_cons.1 ((h z).1 (List.mem_cons_of_mem _ hz)) with e | e
        · subst e; have := ha1 z hz; omega
        · exact e
      · intro hz
        rcases List.mem_cons.1 ((h z).2 (List.mem_cons_of_mem _ hz)) with e | e
        · subst e; have := hb1 z hz; omega
        · exact e

theorem pigeon (l m : List Nat) (hl : l.Nodup) (h : ∀ x ∈ l, x ∈ m) : l.length ≤ m.length := by
  induction l generalizing m with
  | nil => simp
  | cons a l ih =>
    obtain ⟨h1, h2⟩ := List.nodup_cons.1 hl
    have ha := h a (by simp)
    have := ih (m.erase a) h2 (fun x hx => by
      rw [List.mem_erase_of_ne (fun e => by rw [e] at hx; exact h1 hx)]
      exact h x (List.mem_cons_of_mem _ hx))
    rw [List.length_erase_of_mem ha] at this
    have : 0 < m.length := List.length_pos_of_mem ha
    simp; omega

/-- some groups are done: numbers of groups, once each, and what they use -/
structure Done (g gs : List (List Nat)) (done : List Nat) : Prop where
  lt : ∀ j ∈ done, j < gs.length
  nd : done.Nodup
  cl : ∀ j ∈ done, ∀ q, gs[j]? = some q → ∀ x ∈ q, ∀ y ∈ us g x, ofL gs y ∈ done

theorem getD_of {gs : List (List Nat)} {j : Nat} {q : List Nat} (h : gs[j]? = some q) : gs.getD j [] = q := by
  rw [List.getD_eq_getElem?_getD, h]; rfl

theorem ready_iff {g gs : List (List Nat)} {done : List Nat} {j : Nat} {q : List Nat} (hj : gs[j]? = some q) :
    ready g gs done j = true ↔ j ∉ done ∧ ∀ i ∈ q, ∀ k ∈ us g i, ofL gs k = j ∨ ofL gs k ∈ done := by
  unfold ready
  rw [getD_of hj]
  simp

theorem done_reach {g gs : List (List Nat)} (h : Sccs g gs) (hv : Valid g) {done : List Nat} (hd : Done g gs done) {x y : Nat} (hx : x < g.length) (r : Reach g x y) (ho : ofL gs x ∈ done) : ofL gs y ∈ done := by
  induction r with
  | refl => exact ho
  | @step x y z e r ih =>
    obtain ⟨q, hq, hxq⟩ := ofL_spec h hx
    exact ih (hv _ _ e) (hd.cl _ ho q hq x hxq y e)

/-- one round of both ways is alike -/
theorem ready_same {g gs : List (List Nat)} (h : Sccs g gs) (hv : Valid g) {done told : List Nat} (hd : Done g gs done) {R : Nat → Nat → Bool}
    (hR : ∀ x y, x < g.length → y < g.length → (R x y = true ↔ Reach g x y)) (ht : ∀ x, x < g.length → (x ∈ told ↔ ofL gs x ∈ done)) {i : Nat} (hi : i < g.length) :
    ready g gs done (ofL gs i) = readyR R g.length told i := by
  obtain ⟨q, hq, hiq⟩ := ofL_spec h hi
  rw [Bool.eq_iff_iff, ready_iff hq]
  unfold readyR
  simp only [Bool.and_eq_true, Bool.not_eq_true', List.all_eq_true, List.mem_range, Bool.or_eq_true, List.contains_iff_mem]
  have hc : told.contains i = false ↔ ofL gs i ∉ done := by
    rw [← ht i hi, ← List.contains_iff_mem]; simp
  rw [hc]
  have inq : ∀ k, k < g.length → (k ∈ q ↔ ofL gs k = ofL gs i) := by
    intro k hk
    constructor
    · intro hkq; exact ofL_eq h hq hkq
    · intro e
      obtain ⟨r, hr, hkr⟩ := ofL_spec h hk
      rw [e, hq] at hr
      cases hr; exact hkr
  constructor
  · rintro ⟨h1, h2⟩
    refine ⟨h1, fun k hk => ?_⟩
    rcases Classical.em (Reach g i k) with r | r
    · rcases Classical.em (k ∈ q) with hkq | hkq
      · exact .inl (.inr ((hR k i hk hi).2 ((h.scc q (List.mem_iff_getElem?.2 ⟨_, hq⟩) i hiq k).1 hkq).2))
      · right
        obtain ⟨a, b, ha, hb, hab, _, hbk⟩ := r.leaves (· ∈ q) hiq hkq
        have hal : a < g.length := (h.all a).2 ⟨q, List.mem_iff_getElem?.2 ⟨_, hq⟩, ha⟩
        have hbl := hv _ _ hab
        rw [ht k hk]
        rcases h2 a ha b hab with e | e
        · exact absurd ((inq b hbl).2 e) hb
        · exact done_reach h hv hd hbl hbk e
    · refine .inl (.inl ?_)
      cases hRik : R i k
      · rfl
      · exact absurd ((hR i k hi hk).1 hRik) r
  · rintro ⟨h1, h2⟩
    refine ⟨h1, fun x hx k hk => ?_⟩
    have hxl : x < g.length := (h.all x).2 ⟨q, List.mem_iff_getElem?.2 ⟨_, hq⟩, hx⟩
    have hkl := hv _ _ hk
    have rx := ((h.scc q (List.mem_iff_getElem?.2 ⟨_, hq⟩) i hiq x).1 hx).1
    have rk : Reach g i k := rx.trans (.edge hk)
    rcases h2 k hkl with (e | e) | e
    · rw [(hR i k hi hkl).2 rk] at e; cases e
    · left
      exact (inq k hkl).1 ((h.scc q (List.mem_iff_getElem?.2 ⟨_, hq⟩) i hiq k).2 ⟨rk, (hR k i hkl hi).1 e⟩)
    · right; exact (ht k hkl).1 e

theorem group_same {g gs : List (List Nat)} (h : Sccs g gs) {R : Nat → Nat → Bool} (hR : ∀ x y, x < g.length → y < g.length → (R x y = true ↔ Reach g x y)) {i : Nat} (hi : i < g.length) :
    groupOf R g.length i = gs.getD (ofL gs i) [] := by
  obtain ⟨q, hq, hiq⟩ := ofL_spec h hi
  rw [getD_of hq]
  have hqm : q ∈ gs := List.mem_iff_getElem?.2 ⟨_, hq⟩
  refine sorted_ext ?_ (h.gso q hqm).2 fun x => ?_
  · unfold groupOf
    exact List.pairwise_lt_range.filter _
  · unfold groupOf
    rw [List.mem_filter, List.mem_range, h.scc q hqm i hiq x]
    simp only [Bool.and_eq_true]
    constructor
    · rintro ⟨hx, h1, h2⟩
      exact ⟨(hR i x hi hx).1 h1, (hR x i hx hi).1 h2⟩
    · rintro ⟨h1, h2⟩
      have hx : x < g.length := (h.all x).2 ⟨q, hqm, (h.scc q hqm i hiq x).2 ⟨h1, h2⟩⟩
      exact ⟨hx, (hR i x hi hx).2 h1, (hR x i hx hi).2 h2⟩

theorem done_next {g gs : List (List Nat)} {done : List Nat} (hd : Done g gs done) {j : Nat} {q : List Nat} (hj : gs[j]? = some q) (hr : ready g gs done j = true) : Done g gs (done ++ [j]) := by
  obtain ⟨h1, h2⟩ := (ready_iff hj).1 hr
  refine ⟨fun k hk => ?_, ?_, fun k hk r hr x hx y hy => ?_⟩
  · rcases List.mem_append.1 hk with hk | hk
    · exact hd.lt k hk
    · rw [List.mem_singleton.1 hk]; exact (List.getElem?_eq_some_iff.1 hj).1
  · rw [List.nodup_append]
    exact ⟨hd.nd, by simp, fun a ha b hb e => by rw [List.mem_singleton.1 hb] at e; rw [e] at ha; exact h1 ha⟩
  · rcases List.mem_append.1 hk with hk | hk
    · exact List.mem_append_left _ (hd.cl k hk r hr x hx y hy)
    · rw [List.mem_singleton.1 hk, hj] at hr
      cases hr
      rcases h2 x hx y hy with e | e
      · rw [e]; simp
      · exact List.mem_append_left _ e

theorem find_same {p q : Nat → Bool} (l : List Nat) (h : ∀ x ∈ l, p x = q x) : l.find? p = l.find? q := by
  induction l with
  | nil => rfl
  | cons a l ih =>
    rw [List.find?_cons, List.find?_cons, h a (by simp), ih (fun x hx => h x (List.mem_cons_of_mem _ hx))]

theorem told_ref {g gs : List (List Nat)} (h : Sccs g gs) (hv : Valid g) {R : Nat → Nat → Bool} (hR : ∀ x y, x < g.length → y < g.length → (R x y = true ↔ Reach g x y)) :
    ∀ (f : Nat) (done told : List Nat), Done g gs done → (∀ x, x < g.length → (x ∈ told ↔ ofL gs x ∈ done)) → toldGo g gs f done = refGo R g.length f told := by
  intro f
  induction f with
  | zero => intros; rfl
  | succ f ih =>
    intro done told hd ht
    have hf : (List.range g.length).find? (fun i => ready g gs done (ofL gs i)) = (List.range g.length).find? (readyR R g.length told) :=
      find_same _ fun x hx => ready_same h hv hd hR ht (by simpa using hx)
    unfold toldGo refGo nextL
    rw [hf]
    cases hfi : (List.range g.length).find? (readyR R g.length told) with
    | none => rfl
    | some i =>
      have hi : i < g.length := by simpa using List.mem_of_find?_eq_some hfi
      have hri : ready g gs done (ofL gs i) = true := by
        rw [ready_same h hv hd hR ht hi]; exact List.find?_some hfi
      obtain ⟨q, hq, hiq⟩ := ofL_spec h hi
      simp only [Option.map_some]
      rw [← group_same h hR hi]
      congr 1
      refine ih _ _ (done_next hd hq hri) fun x hx => ?_
      rw [List.mem_append, List.mem_append, ht x hx, group_same h hR hi, getD_of hq, List.mem_singleton]
      constructor
      · rintro (e | e)
        · exact .inl e
        · exact .inr (ofL_eq h hq e)
      · rintro (e | e)
        · exact .inl e
        · right
          obtain ⟨r, hr, hxr⟩ := ofL_spec h hx
          rw [e, hq] at hr
          cases hr; exact hxr

/-- while a group is left, one may be told -/
theorem next_some {g gs : List (List Nat)} (h : Sccs g gs) {done : List Nat} (_hd : Done g gs done) (hl : done.length < gs.length) : ∃ j q, nextL g gs done = some j ∧ gs[j]? = some q ∧ ready g gs done j = true := by
  -- the least number that is not done
  have hex : ∃ j, j < gs.length ∧ j ∉ done := by
    rcases Classical.em (∃ j, j < gs.length ∧ j ∉ done) with e | e
    · exact e
    · exfalso
      have h1 : ∀ j ∈ List.range gs.length, j ∈ done := fun j hj => by
        rcases Classical.em (j ∈ done) with e2 | e2
        · exact e2
        · exact absurd ⟨j, by simpa using hj, e2⟩ e
      have h2 : (List.range gs.length).length ≤ done.length := pigeon _ _ List.nodup_range h1
      simp at h2; omega
  obtain ⟨j, ⟨hj, hjd⟩, hmin⟩ : ∃ j, (j < gs.length ∧ j ∉ done) ∧ ∀ i, i < j → i ∈ done := by
    obtain ⟨j, hj⟩ := hex
    induction j using Nat.strongRecOn with
    | _ j ih =>
      rcases Classical.em (∃ i, i < j ∧ i ∉ done) with ⟨i, hi, hid⟩ | e
      · exact ih i hi ⟨by omega, hid⟩
      · exact ⟨j, hj, fun i hi => by
          rcases Classical.em (i ∈ done) with e2 | e2
          · exact e2
          · exact absurd ⟨i, hi, e2⟩ e⟩
  have hq := List.getElem?_eq_getElem hj
  have hr : ready g gs done j = true := by
    rw [ready_iff hq]
    refine ⟨hjd, fun x hx y hy => ?_⟩
    obtain ⟨i, r, hij, hir, hyr⟩ := h.closed j _ hq x hx y hy
    rw [ofL_eq h hir hyr]
    rcases Nat.lt_or_ge i j with e | e
    · exact .inr (hmin i e)
    · exact .inl (by omega)
  obtain ⟨x, hx⟩ : ∃ x, x ∈ gs[j] := List.exists_mem_of_ne_nil _ (h.gso _ (List.getElem_mem hj)).1
  have hxl : x < g.length := (h.all x).2 ⟨_, List.getElem_mem hj, hx⟩
  have hox := ofL_eq h hq hx
  unfold nextL
  cases hf : (List.range g.length).find? (fun i => ready g gs done (ofL gs i)) with
  | none =>
    have := List.find?_eq_none.1 hf x (by simpa using hxl)
    rw [hox, hr] at this; simp at this
  | some i =>
    have hi : i < g.length := by simpa using List.mem_of_find?_eq_some hf
    obtain ⟨q, hq2, _⟩ := ofL_spec h hi
    exact ⟨ofL gs i, q, rfl, hq2, by simpa using List.find?_some hf⟩

end Go.Proofs.Ytlffdipjddlceaa.Od

/- What the told groups are: what hangs together, each behind what it uses; lines, rings and turned uses. No program in sight. -/
import Derived.Test.YtlffdipjddlceaaOrdTold
namespace Go.Proofs.Ytlffdipjddlceaa.Od

theorem told_list {g gs : List (List Nat)} (h : Sccs g gs) : ∀ (f : Nat) (D : List Nat), Done g gs D → f + D.length = gs.length →
    ∃ ds : List Nat, toldGo g gs f D = ds.map (fun j => gs.getD j []) ∧ Done g gs (D ++ ds) ∧ ds.length = f ∧
      ∀ (k j : Nat), ds[k]? = some j → ready g gs (D ++ ds.take k) j = true := by
  intro f
  induction f with
  | zero => intro D hD _; exact ⟨[], rfl, by simpa using hD, rfl, by simp⟩
  | succ f ih =>
    intro D hD hl
    obtain ⟨j, q, h1, h2, h3⟩ := next_some h hD (by omega)
    obtain ⟨ds, e1, e2, e3, e4⟩ := ih (D ++ [j]) (done_next hD h2 h3) (by simp; omega)
    refine ⟨j :: ds, ?_, by simpa using e2, by simp [e3], fun k i hk => ?_⟩
    · rw [toldGo, h1]; simp only [List.map_cons]; rw [e1]
    · cases k with
      | zero => simp at hk; subst hk; simpa using h3
      | succ k =>
        have := e4 k i (by simpa using hk)
        simpa using this

theorem flat_nodup {gs : List (List Nat)} (hf : gs.flatten.Nodup) (hs : ∀ q ∈ gs, q.Pairwise (· < ·)) : ∀ (ds : List Nat), ds.Nodup → (∀ j ∈ ds, j < gs.length) → (ds.map (fun j => gs.getD j [])).flatten.Nodup := by
  intro ds
  induction ds with
  | nil => intro _ _; simp
  | cons j ds ih =>
    intro hn hl
    rw [List.nodup_cons] at hn
    have hjl := hl j (by simp)
    have hj : gs[j]? = some gs[j] := List.getElem?_eq_getElem hjl
    have hq : (gs.getD j []).Nodup := by
      rw [getD_of hj]
      exact (hs _ (List.getElem_mem hjl)).imp fun {a b} hab => by omega
    rw [List.map_cons, List.flatten_cons, List.nodup_append]
    refine ⟨hq, ih hn.2 (fun i hi => hl i (List.mem_cons_of_mem _ hi)), fun a ha b hb e => ?_⟩
    subst e
    obtain ⟨r, hr, har⟩ := List.mem_flatten.1 hb
    obtain ⟨i, hi, rfl⟩ := List.mem_map.1 hr
    have hil0 := hl i (List.mem_cons_of_mem _ hi)
    have hil : gs[i]? = some gs[i] := List.getElem?_eq_getElem hil0
    rw [getD_of hj] at ha
    rw [getD_of hil] at har
    have := flatten_nodup_get hf hj hil ha har
    subst this
    exact hn.1 hi

/-- THE TOLD GROUPS are what hangs together, each behind what it uses. -/
theorem told_sccs {g gs : List (List Nat)} (h : Sccs g gs) (hv : Valid g) : Sccs g (toldL g gs) := by
  obtain ⟨ds, e1, e2, e3, e4⟩ := told_list h gs.length [] ⟨by simp, by simp, by simp⟩ (by simp)
  simp only [List.nil_append] at e2 e4
  have hall : ∀ j, j < gs.length → j ∈ ds := by
    intro j hj
    rcases Classical.em (j ∈ ds) with e | e
    · exact e
    · have h3 : (j :: ds).Nodup := List.nodup_cons.2 ⟨e, e2.nd⟩
      have := pigeon (j :: ds) (List.range gs.length) h3 (fun x hx => by
        rcases List.mem_cons.1 hx with rfl | hx
        · exact List.mem_range.2 hj
        · exact List.mem_range.2 (e2.lt x hx))
      simp at this; omega
  have hmem : ∀ q, q ∈ toldL g gs ↔ q ∈ gs := by
    intro q
    unfold toldL
    rw [e1, List.mem_map]
    constructor
    · rintro ⟨j, hj, rfl⟩
      have := e2.lt j hj
      rw [getD_of (List.getElem?_eq_getElem this)]
      exact List.getElem_mem this
    · intro hq
      obtain ⟨j, hj⟩ := List.mem_iff_getElem?.1 hq
      exact ⟨j, hall j (List.getElem?_eq_some_iff.1 hj).1, getD_of hj⟩
  refine ⟨fun x => ?_, ?_, fun q hq => h.gso q ((hmem q).1 hq), ?_, fun q hq => h.scc q ((hmem q).1 hq)⟩
  · rw [h.all x]
    exact ⟨fun ⟨q, h1, h2⟩ => ⟨q, (hmem q).2 h1, h2⟩, fun ⟨q, h1, h2⟩ => ⟨q, (hmem q).1 h1, h2⟩⟩
  · unfold toldL; rw [e1]; exact flat_nodup h.gnd (fun q hq => (h.gso q hq).2) ds e2.nd e2.lt
  · intro k q hk x hx y hy
    have hk' : (ds.map (fun j => gs.getD j []))[k]? = some q := by unfold toldL at hk; rw [e1] at hk; exact hk
    rw [List.getElem?_map] at hk'
    rcases hd : ds[k]? with _ | j
    · rw [hd] at hk'; simp at hk'
    · rw [hd] at hk'
      simp only [Option.map_some, Option.some.injEq] at hk'
      have hjl := e2.lt j (List.mem_of_getElem? hd)
      have hgj : gs[j]? = some q := by rw [← hk', getD_of (List.getElem?_eq_getElem hjl)]; exact List.getElem?_eq_getElem hjl
      have hr := (ready_iff hgj).1 (e4 k j hd)
      have told_at : ∀ (i m : Nat), ds[i]? = some m → (toldL g gs)[i]? = some (gs.getD m []) := by
        intro i m him
        unfold toldL; rw [e1, List.getElem?_map, him]; rfl
      obtain ⟨r, hro, hyr⟩ := ofL_spec h (hv x y hy)
      rcases hr.2 x hx y hy with e | e
      · refine ⟨k, q, Nat.le_refl _, hk, ?_⟩
        rw [e, hgj] at hro
        cases hro; exact hyr
      · obtain ⟨i, hi⟩ := List.mem_iff_getElem?.1 e
        have hik : i < k := by
          have := (List.getElem?_eq_some_iff.1 hi).1
          rw [List.length_take] at this; omega
        rw [List.getElem?_take, if_pos hik] at hi
        refine ⟨i, _, Nat.le_of_lt hik, told_at i _ hi, ?_⟩
        rw [getD_of hro]; exact hyr

theorem told_length {g gs : List (List Nat)} (h : Sccs g gs) : (toldL g gs).length = gs.length := by
  obtain ⟨ds, e1, _, e3, _⟩ := told_list h gs.length [] ⟨by simp, by simp, by simp⟩ (by simp)
  unfold toldL; rw [e1]; simp [e3]

theorem Sccs.flat {g gs : List (List Nat)} (h : Sccs g gs) : gs.flatten.length = g.length := by
  have h1 := pigeon gs.flatten (List.range g.length) h.gnd (fun x hx => by
    obtain ⟨q, hq, hxq⟩ := List.mem_flatten.1 hx
    exact List.mem_range.2 ((h.all x).2 ⟨q, hq, hxq⟩))
  have h2 := pigeon (List.range g.length) gs.flatten List.nodup_range (fun x hx => by
    obtain ⟨q, hq, hxq⟩ := (h.all x).1 (List.mem_range.1 hx)
    exact List.mem_flatten.2 ⟨q, hq, hxq⟩)
  rw [List.length_range] at h1 h2
  omega

/-- what is used stands in an earlier group, or in the same one -/
theorem Sccs.order {g gs : List (List Nat)} (h : Sccs g gs) {x y : Nat} (hx : x < g.length) (hy : y ∈ us g x) : ofL gs y ≤ ofL gs x := by
  obtain ⟨q, hq, hxq⟩ := ofL_spec h hx
  obtain ⟨i, r, hi, hr, hyr⟩ := h.closed _ q hq x hxq y hy
  rw [ofL_eq h hr hyr]; exact hi

/-- two lists of groups of the same reach are alike but for the order -/
theorem Sccs.same {g g' gs gs' : List (List Nat)} (h : Sccs g gs) (h' : Sccs g' gs') (hl : g.length = g'.length) (hr : ∀ x y, x < g.length → y < g.length → ((Reach g x y ∧ Reach g y x) ↔ (Reach g' x y ∧ Reach g' y x))) : ∀ q, q ∈ gs → q ∈ gs' := by
  intro q hq
  obtain ⟨x, hx⟩ := List.exists_mem_of_ne_nil q (h.gso q hq).1
  have hxl : x < g.length := (h.all x).2 ⟨q, hq, hx⟩
  obtain ⟨q', hq', hxq'⟩ := (h'.all x).1 (by omega)
  have : q = q' := by
    refine sorted_ext (h.gso q hq).2 (h'.gso q' hq').2 fun y => ?_
    constructor
    · intro hy
      have hyl : y < g.length := (h.all y).2 ⟨q, hq, hy⟩
      exact (h'.scc q' hq' x hxq' y).2 ((hr x y hxl hyl).1 ((h.scc q hq x hx y).1 hy))
    · intro hy
      have hyl : y < g.length := by rw [hl]; exact (h'.all y).2 ⟨q', hq', hy⟩
      exact (h.scc q hq x hx y).2 ((hr x y hxl hyl).2 ((h'.scc q' hq' x hxq' y).1 hy))
  rw [this]; exact hq'

theorem len_flatten' (l : List (List Nat)) (h : ∀ q ∈ l, q ≠ []) : l.length ≤ l.flatten.length := by
  induction l with
  | nil => simp
  | cons a l ih =>
    have h1 := ih fun q hq => h q (List.mem_cons_of_mem _ hq)
    have h2 := List.length_pos_iff.2 (h a (by simp))
    simp only [List.length_cons, List.flatten_cons, List.length_append]; omega

theorem pigeonL (l m : List (List Nat)) (hl : l.Nodup) (h : ∀ x ∈ l, x ∈ m) : l.length ≤ m.length := by
  induction l generalizing m with
  | nil => simp
  | cons a l ih =>
    rw [List.nodup_cons] at hl
    have ha := h a (by simp)
    have := ih (m.erase a) hl.2 (fun x hx => by
      have hne : x ≠ a := fun e => hl.1 (e ▸ hx)
      exact (List.mem_erase_of_ne hne).2 (h x (List.mem_cons_of_mem _ hx)))
    rw [List.length_erase_of_mem ha] at this
    have hp := List.length_pos_of_mem ha
    simp only [List.length_cons]; omega

/-! ### OrderFirst: where each thing stands -/
structure Ats (g ts : List (List Nat)) (ats : List Nat) (jj kk : Nat) : Prop where
  len : ats.length = g.length
  ah : ∀ t, t < jj → ∀ i ∈ us ts t, ats.getD i 0 = ofL ts i + 1
  now : ∀ i ∈ (us ts jj).take kk, ats.getD i 0 = ofL ts i + 1
  no : ∀ i, (∀ t, t < jj → i ∉ us ts t) → i ∉ (us ts jj).take kk → ats.getD i 0 = 0

theorem Ats.start (g ts : List (List Nat)) : Ats g ts (List.replicate g.length 0) 0 0 := by
  refine ⟨by simp, fun t h => by omega, by simp, fun i _ _ => ?_⟩
  rw [List.getD_eq_getElem?_getD, List.getElem?_replicate]
  split <;> rfl

theorem us_get' {gs : List (List Nat)} {j : Nat} (h : j < gs.length) : gs[j]? = some (us gs j) := by
  unfold us; rw [List.getD_eq_getElem?_getD, List.getElem?_eq_getElem h]; rfl

theorem Ats.free {g ts : List (List Nat)} (hS : Sccs g ts) {ats : List Nat} {jj kk : Nat} (h : Ats g ts ats jj kk) (hj : jj < ts.length) (hk : kk < (us ts jj).length) : ats.getD (us ts jj)[kk] 0 = 0 := by
  have hm : (us ts jj)[kk] ∈ us ts jj := List.getElem_mem hk
  refine h.no _ (fun t ht he => ?_) (fun he => ?_)
  · have := flatten_nodup_get hS.gnd (us_get' (by omega)) (us_get' hj) he hm
    omega
  · have hs := (hS.gso _ (List.mem_of_getElem? (us_get' hj))).2
    obtain ⟨m, hm2, he⟩ := List.mem_iff_getElem.1 he
    rw [List.length_take] at hm2
    rw [List.getElem_take] at he
    have := List.pairwise_iff_getElem.1 hs m kk (by omega) hk (by omega)
    omega

theorem Ats.set {g ts : List (List Nat)} (hS : Sccs g ts) {ats : List Nat} {jj kk : Nat} (h : Ats g ts ats jj kk) (hj : jj < ts.length) (hk : kk < (us ts jj).length) : Ats g ts (ats.set (us ts jj)[kk] (jj + 1)) jj (kk + 1) := by
  have hm : (us ts jj)[kk] ∈ us ts jj := List.getElem_mem hk
  have htake : (us ts jj).take (kk + 1) = (us ts jj).take kk ++ [(us ts jj)[kk]] := by rw [List.take_add_one, List.getElem?_eq_getElem hk]; rfl
  generalize (us ts jj)[kk] = x at *
  have hx : x < g.length := (hS.all x).2 ⟨_, List.mem_of_getElem? (us_get' hj), hm⟩
  have hof := ofL_eq hS (us_get' hj) hm
  have gd : ∀ i, (ats.set x (jj + 1)).getD i 0 = if i = x then jj + 1 else ats.getD i 0 := fun i => getD_set _ _ _ _ (by rw [h.len]; exact hx)
  refine ⟨by simpa using h.len, fun t ht i hi => ?_, fun i hi => ?_, fun i h1 h2 => ?_⟩
  · rw [gd]; split
    · next e => subst e; rw [hof]
    · exact h.ah t ht i hi
  · rw [gd]; split
    · next e => subst e; rw [hof]
    · next e =>
      rw [htake] at hi
      rcases List.mem_append.1 hi with hi | hi
      · exact h.now i hi
      · exact absurd (List.mem_singleton.1 hi) e
  · rw [htake] at h2
    rw [gd, if_neg (fun e => h2 (by rw [e]; simp))]
    exact h.no i h1 (fun e => h2 (List.mem_append_left _ e))

theorem Ats.next {g ts : List (List Nat)} {ats : List Nat} {jj : Nat} (h : Ats g ts ats jj (us ts jj).length) : Ats g ts ats (jj + 1) 0 := by
  refine ⟨h.len, fun t ht i hi => ?_, by simp, fun i h1 _ => ?_⟩
  · by_cases e : t = jj
    · subst e; exact h.now i (by rw [List.take_length]; exact hi)
    · exact h.ah t (by omega) i hi
  · exact h.no i (fun t ht => h1 t (by omega)) (fun e => h1 jj (by omega) (List.mem_of_mem_take e))

theorem Ats.done {g ts : List (List Nat)} (hS : Sccs g ts) {ats : List Nat} (h : Ats g ts ats ts.length 0) {i : Nat} (hi : i < g.length) : ats.getD i 0 = ofL ts i + 1 := by
  obtain ⟨q, hq, hiq⟩ := (hS.all i).1 hi
  obtain ⟨t, ht⟩ := List.mem_iff_getElem?.1 hq
  have hl := (List.getElem?_eq_some_iff.1 ht).1
  exact h.ah t hl i (by rw [us_get' hl] at ht; injection ht with ht; rw [ht]; exact hiq)

/-- how many things the first j groups hold -/
def cnt (ts : List (List Nat)) (j : Nat) : Nat := (ts.take j).flatten.length
theorem cnt_succ {ts : List (List Nat)} {j : Nat} (h : j < ts.length) : cnt ts (j + 1) = cnt ts j + (us ts j).length := by
  unfold cnt
  rw [List.take_add_one, us_get' h]; simp
theorem cnt_le (ts : List (List Nat)) (j : Nat) : cnt ts j ≤ ts.flatten.length := by
  have : ts.flatten.length = (ts.take j).flatten.length + (ts.drop j).flatten.length := by rw [← List.length_append, ← List.flatten_append, List.take_append_drop]
  unfold cnt; omega

end Go.Proofs.Ytlffdipjddlceaa.Od

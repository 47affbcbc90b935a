/- Tarjan's way finds what hangs together: a visit. No program in sight. -/
import Derived.Test.YtlffdipjddlceaaOrdInv
namespace Go.Proofs.Ytlffdipjddlceaa.Od

theorem white_mono (g : List (List Nat)) (s s' : St) (h : ∀ x, s.m x ≠ 0 → s'.m x ≠ 0) : white g s' ≤ white g s := by
  unfold white
  induction List.range g.length with
  | nil => exact Nat.le_refl _
  | cons a l ih =>
    simp only [List.filter_cons]
    by_cases h1 : s.m a = 0
    · have e : (s.m a == 0) = true := by simp [h1]
      rw [if_pos e]
      cases h2 : (s'.m a == 0)
      · simp only [Bool.false_eq_true, if_false, List.length_cons]; omega
      · simp only [if_true, List.length_cons]; omega
    · have e : (s.m a == 0) = false := by simpa using h1
      have e2 : (s'.m a == 0) = false := by simpa using h a h1
      rw [e, e2]; exact ih

theorem filter_lt {l : List Nat} {p q : Nat → Bool} (h : ∀ x ∈ l, q x = true → p x = true) {a : Nat} (ha : a ∈ l) (hp : p a = true) (hq : q a = false) : (l.filter q).length < (l.filter p).length := by
  induction l with
  | nil => cases ha
  | cons b l ih =>
    have hle : (l.filter q).length ≤ (l.filter p).length := by
      clear ih ha
      induction l with
      | nil => exact Nat.le_refl _
      | cons c l ih2 =>
        have hc := h c (by simp)
        have := ih2 (fun x hx => h x (by rcases List.mem_cons.1 hx with rfl | hx <;> simp [*]))
        simp only [List.filter_cons]
        cases hqc : q c
        · simp only [Bool.false_eq_true, if_false]; split <;> simp <;> omega
        · rw [hc hqc]; simp; exact this
    simp only [List.filter_cons]
    rcases List.mem_cons.1 ha with rfl | ha
    · rw [hp, hq]; simp; omega
    · have := ih (fun x hx => h x (List.mem_cons_of_mem _ hx)) ha
      cases hqb : q b
      · simp only [Bool.false_eq_true, if_false]; split <;> simp <;> omega
      · rw [h b (by simp) hqb]; simp; omega

theorem white_push {g : List (List Nat)} {s : St} {i now : Nat} (hl : s.met.length = g.length) (hi : i < g.length) (hw : s.m i = 0) (hn : 1 ≤ now) : white g (s.push i now) < white g s := by
  unfold white
  refine filter_lt (a := i) (fun x _ hx => ?_) (by simpa using hi) (by simp [hw]) (by rw [push_m _ _ _ _ (by rw [hl]; exact hi)]; simp; omega)
  rw [push_m _ _ _ _ (by rw [hl]; exact hi)] at hx
  by_cases e : x = i
  · rw [if_pos e] at hx; simp at hx; omega
  · rw [if_neg e] at hx; exact hx

theorem going_start {g : List (List Nat)} {gray : List Nat} {now : Nat} {s : St} (h : Inv g gray now s) {i : Nat} (hi : i < g.length) (hw : s.m i = 0) (hg : ∀ x ∈ gray, Reach g x i) :
    Going g gray i now s [] (now + 1, s.push i now) := by
  have pm := fun x => push_m s i now x (by rw [h.lm]; exact hi)
  have pl := fun x => push_l s i now x (by rw [h.ll]; exact hi)
  refine ⟨inv_push h hi hw hg, ⟨fun x hx => ?_, fun x hx => ?_, fun x hx => ?_⟩, by simp, ?_, ?_, .inl ?_, ⟨[], rfl, by simp, by simp⟩, by simp⟩
  · simp only; rw [pm, if_neg]; rintro rfl; exact hx hw
  · simp only; rw [pl, if_neg]; rintro rfl; exact hx hw
  · simp only; rw [pm]
    by_cases e : x = i
    · rw [if_pos e]; exact .inr (Nat.le_refl _)
    · rw [if_neg e]; exact .inl hx
  · simp only; rw [pm, if_pos rfl]
  · simp only; rw [pl, if_pos rfl]; exact Nat.le_refl _
  · simp only; rw [pl, if_pos rfl]

theorem going_step {g : List (List Nat)} {gray : List Nat} {i now : Nat} {s : St} {done : List Nat} {c : Nat × St} {k : Nat} {v : Nat → Nat → St → Nat × St}
    (h : Going g gray i now s done c) (h0 : Inv g gray now s) (hi : i < g.length) (hw : s.m i = 0) (he : k ∈ us g i)
    (hv : c.2.m k = 0 → Visited g k c.1 c.2 (v k c.1 c.2).1 (v k c.1 c.2).2 ∧ Inv g (i :: gray) (v k c.1 c.2).1 (v k c.1 c.2).2) :
    Going g gray i now s (done ++ [k]) (stepWith v i c k) := by
  have hn := h0.now1
  have hci : c.2.m i ≠ 0 := by rw [h.mi]; omega
  unfold stepWith
  by_cases hz : c.2.m k = 0
  · rw [if_pos hz]
    obtain ⟨V, I⟩ := hv hz
    generalize v k c.1 c.2 = r at V I ⊢
    have hli : r.2.l i = c.2.l i := V.ext.l i hci
    have ll := fun x => low_l r.2 i (r.2.l k) x (by rw [I.ll]; exact hi)
    have mm : ∀ x, (r.2.low i (r.2.l k)).m x = r.2.m x := fun x => rfl
    have hki : k ≠ i := fun e => by rw [e] at hz; exact hci hz
    obtain ⟨nw, ho, hn0, hn1⟩ := h.opn
    obtain ⟨nk, hok, hk0, hk1⟩ := V.opn
    have lat := V.later
    have lat2 := h.later
    refine ⟨inv_low I i _, ⟨fun x hx => ?_, fun x hx => ?_, fun x hx => ?_⟩, by simp only; omega, ?_, ?_, ?_, ⟨nw ++ nk, ?_, ?_, ?_⟩, ?_⟩
    · simp only; rw [mm, V.ext.m x (by rw [h.ext.m x hx]; exact hx), h.ext.m x hx]
    · simp only; rw [ll, if_neg (by rintro rfl; exact hx hw), V.ext.l x (by rw [h.ext.m x hx]; exact hx), h.ext.l x hx]
    · simp only; rw [mm]
      rcases h.ext.new x hx with h1 | h1
      · rcases V.ext.new x h1 with h2 | h2
        · exact .inl h2
        · exact .inr (by omega)
      · right; rw [V.ext.m x (by omega)]; exact h1
    · simp only; rw [mm, V.ext.m i hci]; exact h.mi
    · simp only; rw [ll, if_pos rfl, hli]; have := h.low; omega
    · simp only; rw [ll, if_pos rfl, hli]
      rcases Nat.lt_or_ge (r.2.l k) (c.2.l i) with hlt | hge
      · rw [Nat.min_eq_right (by omega)]
        right
        have := h.low
        rcases V.why with e | ⟨y, hy, hym, hyr⟩
        · omega
        · rw [ho] at hy
          have hyo : y ∈ s.opn := by
            rcases List.mem_append.1 hy with hy | hy
            · exact hy
            · exfalso
              rcases List.mem_cons.1 hy with rfl | hy
              · rw [h.mi] at hym; omega
              · rcases h.ext.new y (hn0 y hy) with e | e
                · have : c.2.m y ≠ 0 := h.inv.omet (by rw [ho]; exact List.mem_append_right _ (List.mem_cons_of_mem _ hy))
                  exact this e
                · omega
          exact ⟨y, hyo, by rw [← h.ext.m y (h0.omet hyo)]; exact hym, .step he hyr⟩
      · rw [Nat.min_eq_left hge]; exact h.why
    · show r.2.opn = _
      rw [hok, ho]; simp
    · intro x hx
      rcases List.mem_append.1 hx with hx | hx
      · exact hn0 x hx
      · have h1 := hk0 x hx
        rcases Nat.eq_zero_or_pos (s.m x) with e | e
        · exact e
        · exfalso; rw [h.ext.m x (by omega)] at h1; omega
    · intro x hx y hy hyo
      simp only; rw [ll, if_pos rfl, hli]
      rcases List.mem_append.1 hx with hx | hx
      · have := hn1 x hx y hy hyo; omega
      · have := hk1 x hx y hy (by rw [ho]; exact List.mem_append_left _ hyo)
        rw [h.ext.m y (h0.omet hyo)] at this; omega
    · intro j hj
      simp only; rw [mm, ll, if_pos rfl, hli]
      rcases List.mem_append.1 hj with hj | hj
      · obtain ⟨p1, p2⟩ := h.past j hj
        refine ⟨by rw [V.ext.m j p1]; exact p1, fun hjo => ?_⟩
        have := p2 hjo; omega
      · rw [List.mem_singleton.1 hj]
        refine ⟨by rw [V.mi]; omega, fun hjo => ?_⟩
        exfalso
        have := h0.omet hjo
        rw [h.ext.m k this] at hz; exact this hz
  · rw [if_neg hz]
    by_cases hc : c.2.opn.contains k = true
    · rw [if_pos hc]
      have hko : k ∈ c.2.opn := by simpa using hc
      have ll := fun x => low_l c.2 i (c.2.m k) x (by rw [h.inv.ll]; exact hi)
      have mm : ∀ x, (c.2.low i (c.2.m k)).m x = c.2.m x := fun x => rfl
      obtain ⟨nw, ho, hn0, hn1⟩ := h.opn
      refine ⟨inv_low h.inv i _, ⟨fun x hx => h.ext.m x hx, fun x hx => ?_, fun x hx => h.ext.new x hx⟩, h.later, h.mi, ?_, ?_, ⟨nw, ho, hn0, ?_⟩, ?_⟩
      · simp only; rw [ll, if_neg (by rintro rfl; exact hx hw), h.ext.l x hx]
      · simp only; rw [ll, if_pos rfl]; have := h.low; omega
      · simp only; rw [ll, if_pos rfl]
        rcases Nat.lt_or_ge (c.2.m k) (c.2.l i) with hlt | hge
        · rw [Nat.min_eq_right (by omega)]
          right
          have hlow := h.low
          have hyo : k ∈ s.opn := by
            rw [ho] at hko
            rcases List.mem_append.1 hko with hy | hy
            · exact hy
            · exfalso
              rcases List.mem_cons.1 hy with rfl | hy
              · rw [h.mi] at hlt; omega
              · rcases h.ext.new k (hn0 k hy) with e | e
                · exact hz e
                · omega
          exact ⟨k, hyo, (h.ext.m k (h0.omet hyo)).symm, .edge he⟩
        · rw [Nat.min_eq_left hge]; exact h.why
      · intro x hx y hy hyo
        simp only; rw [ll, if_pos rfl]
        have := hn1 x hx y hy hyo; omega
      · intro j hj
        simp only; rw [mm, ll, if_pos rfl]
        rcases List.mem_append.1 hj with hj | hj
        · obtain ⟨p1, p2⟩ := h.past j hj
          exact ⟨p1, fun hjo => by have := p2 hjo; omega⟩
        · rw [List.mem_singleton.1 hj]
          refine ⟨hz, fun hjo => ?_⟩
          rw [h.ext.m k (h0.omet hjo)]; omega
    · rw [if_neg hc]
      refine ⟨h.inv, h.ext, h.later, h.mi, h.low, h.why, h.opn, ?_⟩
      intro j hj
      rcases List.mem_append.1 hj with hj | hj
      · exact h.past j hj
      · rw [List.mem_singleton.1 hj]
        refine ⟨hz, fun hjo => ?_⟩
        exfalso; apply hc
        obtain ⟨nw, ho, _⟩ := h.opn
        rw [List.contains_iff_mem, ho]; exact List.mem_append_left _ hjo

/-- the uses of i, one behind the other -/
theorem going_fold {g : List (List Nat)} {gray : List Nat} {i now f : Nat} {s : St} (h0 : Inv g gray now s) (hv : Valid g) (hi : i < g.length) (hw : s.m i = 0) (hg : ∀ x ∈ gray, Reach g x i)
    (ih : ∀ (k now : Nat) (s : St), Inv g (i :: gray) now s → k < g.length → s.m k = 0 → (∀ x ∈ i :: gray, Reach g x k) → white g s ≤ f → Visited g k now s (visit g f k now s).1 (visit g f k now s).2 ∧ Inv g (i :: gray) (visit g f k now s).1 (visit g f k now s).2) :
    ∀ (todo done : List Nat) (c : Nat × St), (∀ k ∈ todo, k ∈ us g i) → Going g gray i now s done c → white g c.2 ≤ f → Going g gray i now s (done ++ todo) (todo.foldl (stepWith (visit g f) i) c) := by
  intro todo
  induction todo with
  | nil => intro done c _ h _; simpa using h
  | cons k todo ih2 =>
    intro done c ht h hwh
    have hki : k ∈ us g i := ht k (by simp)
    have st := going_step (v := visit g f) h h0 hi hw hki (fun hz => ih k c.1 c.2 h.inv (hv i k hki) hz (fun x hx => by
      rcases List.mem_cons.1 hx with rfl | hx
      · exact .edge hki
      · exact (hg x hx).trans (.edge hki)) hwh)
    have hm : ∀ x, c.2.m x ≠ 0 → (stepWith (visit g f) i c k).2.m x ≠ 0 := by
      intro x hx
      unfold stepWith
      by_cases hz : c.2.m k = 0
      · rw [if_pos hz]
        have V := (ih k c.1 c.2 h.inv (hv i k hki) hz (fun x hx => by
          rcases List.mem_cons.1 hx with rfl | hx
          · exact .edge hki
          · exact (hg x hx).trans (.edge hki)) hwh).1
        show (visit g f k c.1 c.2).2.m x ≠ 0
        rw [V.ext.m x hx]; exact hx
      · rw [if_neg hz]; split
        · exact hx
        · exact hx
    have := ih2 (done ++ [k]) _ (fun j hj => ht j (List.mem_cons_of_mem _ hj)) st (Nat.le_trans (white_mono g _ _ hm) hwh)
    rw [List.append_assoc] at this
    exact this

theorem sorted_perm (l : List Nat) : (sorted l).Perm l := List.mergeSort_perm l _

theorem sorted_lt (l : List Nat) (h : l.Nodup) : (sorted l).Pairwise (· < ·) := by
  have h1 : (sorted l).Pairwise (fun a b => decide (a ≤ b) = true) := List.pairwise_mergeSort (fun a b c h1 h2 => by simp at *; omega) (fun a b => by simp; omega) l
  have h2 : (sorted l).Nodup := (sorted_perm l).nodup_iff.2 h
  exact (h1.and h2).imp fun {a b} h => by obtain ⟨h3, h4⟩ := h; simp at h3; omega

/-- what a visit's end leaves -/
theorem going_close {g : List (List Nat)} {gray : List Nat} {i now : Nat} {s : St} {c : Nat × St} (h0 : Inv g gray now s) (hi : i < g.length) (hw : s.m i = 0) (hg : ∀ x ∈ gray, Reach g x i)
    (h : Going g gray i now s (us g i) c) : Visited g i now s c.1 (c.2.close i) ∧ Inv g gray c.1 (c.2.close i) := by
  obtain ⟨nw, ho, hn0, hn1⟩ := h.opn
  have hn := h0.now1
  have hio : i ∉ s.opn := fun e => h0.omet e hw
  have hix : c.2.opn.idxOf i = s.opn.length := by
    rw [ho, List.idxOf_append, if_neg hio, List.idxOf_cons_self]; simp
  have old : ∀ x ∈ s.opn, c.2.m x = s.m x := fun x hx => h.ext.m x (h0.omet hx)
  have newm : ∀ x ∈ i :: nw, now ≤ c.2.m x := by
    intro x hx
    rcases List.mem_cons.1 hx with rfl | hx
    · rw [h.mi]; exact Nat.le_refl _
    · rcases h.ext.new x (hn0 x hx) with e | e
      · exact absurd e (h.inv.omet (by rw [ho]; exact List.mem_append_right _ (List.mem_cons_of_mem _ hx)))
      · exact e
  unfold St.close
  by_cases hl : c.2.l i = c.2.m i
  · rw [if_pos hl, hix]
    have ht : c.2.opn.take s.opn.length = s.opn := by rw [ho, List.take_left]
    have hd : c.2.opn.drop s.opn.length = i :: nw := by rw [ho, List.drop_left]
    rw [ht, hd]
    have hln : c.2.l i = now := by rw [hl, h.mi]
    have hnd : (i :: nw).Nodup := by
      have := h.inv.ond; rw [ho] at this
      exact (List.nodup_append.1 this).2.1
    have mem : ∀ x, x ∈ sorted (i :: nw) ↔ x ∈ i :: nw := fun x => (sorted_perm _).mem_iff
    -- an edge out of the group leads to a group that was told
    have out : ∀ x ∈ i :: nw, ∀ y ∈ us g x, y ∈ i :: nw ∨ ∃ q ∈ c.2.grp, y ∈ q := by
      intro x hx y hy
      have hyv : c.2.m y ≠ 0 := by
        rcases List.mem_cons.1 hx with rfl | hx2
        · exact (h.past y hy).1
        · refine h.inv.black x (h.inv.omet (by rw [ho]; exact List.mem_append_right _ (List.mem_cons_of_mem _ hx2))) ?_ y hy
          intro hxg
          rcases List.mem_cons.1 hxg with rfl | hxg2
          · exact (List.nodup_cons.1 hnd).1 hx2
          · exact h0.omet (h0.gopen x hxg2) (hn0 x hx2)
      rcases (h.inv.part y).1 hyv with hyo | hyg
      · rw [ho] at hyo
        rcases List.mem_append.1 hyo with hyo2 | hyo2
        · exfalso
          have hlt := h0.mlt y
          rcases List.mem_cons.1 hx with rfl | hx2
          · have := (h.past y hy).2 hyo2; omega
          · have := hn1 x hx2 y hy hyo2; omega
        · exact .inl hyo2
      · exact .inr hyg
    have toI : ∀ y ∈ i :: nw, Reach g y i := by
      intro y hy
      obtain ⟨z, hz, _, _, hr⟩ := h.inv.down y (by rw [ho]; exact List.mem_append_right _ hy)
      rcases List.mem_cons.1 hz with rfl | hz
      · exact hr
      · exact hr.trans (hg z hz)
    have fromI : ∀ y ∈ i :: nw, Reach g i y := by
      intro y hy
      refine h.inv.up i (by rw [ho]; simp) y (by rw [ho]; exact List.mem_append_right _ hy) ?_
      rw [h.mi]; exact newm y hy
    refine ⟨⟨⟨h.ext.m, h.ext.l, h.ext.new⟩, h.later, h.mi, h.low, h.why, ⟨[], by simp, by simp, by simp⟩⟩, ?_⟩
    refine ⟨h.inv.lm, h.inv.ll, h.inv.now1, h.inv.mlt, ?_, fun x => ?_, fun x hx q hq => ?_, ?_, fun q hq => ?_, ?_, ?_, ?_, ?_, ?_, h0.gopen⟩
    · refine List.Pairwise.imp_of_mem ?_ h0.osort
      intro a b ha hb hab
      show c.2.m a < c.2.m b
      rw [old a ha, old b hb]; exact hab
    · show c.2.m x ≠ 0 ↔ (x ∈ s.opn ∨ ∃ q ∈ c.2.grp ++ [sorted (i :: nw)], x ∈ q)
      rw [h.inv.part x, ho]
      constructor
      · rintro (hx | ⟨q, hq, hx⟩)
        · rcases List.mem_append.1 hx with hx | hx
          · exact .inl hx
          · exact .inr ⟨_, List.mem_append_right _ (by simp), (mem x).2 hx⟩
        · exact .inr ⟨q, List.mem_append_left _ hq, hx⟩
      · rintro (hx | ⟨q, hq, hx⟩)
        · exact .inl (List.mem_append_left _ hx)
        · rcases List.mem_append.1 hq with hq | hq
          · exact .inr ⟨q, hq, hx⟩
          · rw [List.mem_singleton.1 hq] at hx
            exact .inl (List.mem_append_right _ ((mem x).1 hx))
    · rcases List.mem_append.1 hq with hq | hq
      · exact h.inv.disj x (by rw [ho]; exact List.mem_append_left _ hx) q hq
      · rw [List.mem_singleton.1 hq, mem]
        intro hxn
        have := newm x hxn
        rw [old x hx] at this
        have := h0.mlt x; omega
    · show (c.2.grp ++ [sorted (i :: nw)]).flatten.Nodup
      rw [List.flatten_append, List.nodup_append]
      refine ⟨h.inv.gnd, by simpa using (sorted_perm _).nodup_iff.2 hnd, ?_⟩
      intro a ha b hb e
      subst e
      obtain ⟨q, hq, haq⟩ := List.mem_flatten.1 ha
      simp only [List.flatten_cons, List.flatten_nil, List.append_nil] at hb
      exact h.inv.disj a (by rw [ho]; exact List.mem_append_right _ ((mem a).1 hb)) q hq haq
    · rcases List.mem_append.1 hq with hq | hq
      · exact h.inv.gso q hq
      · rw [List.mem_singleton.1 hq]
        exact ⟨(fun e => by have := (mem i).2 (by simp); rw [e] at this; cases this), sorted_lt _ hnd⟩
    · intro j q hj x hx y hy
      show ∃ (k : Nat) (r : List Nat), k ≤ j ∧ (c.2.grp ++ [sorted (i :: nw)])[k]? = some r ∧ y ∈ r
      have hj' : (c.2.grp ++ [sorted (i :: nw)])[j]? = some q := hj
      rcases Nat.lt_or_ge j c.2.grp.length with hlt | hge
      · rw [List.getElem?_append_left hlt] at hj'
        obtain ⟨k, r, h1, h2, h3⟩ := h.inv.closed j q hj' x hx y hy
        exact ⟨k, r, h1, by rw [List.getElem?_append_left (by omega)]; exact h2, h3⟩
      · rw [List.getElem?_append_right hge] at hj'
        have hje : j = c.2.grp.length := by
          rcases Nat.eq_zero_or_pos (j - c.2.grp.length) with e | e
          · omega
          · rw [List.getElem?_eq_none (by simp; omega)] at hj'; cases hj'
        subst hje
        simp at hj'
        subst hj'
        rcases out x ((mem x).1 hx) y hy with hyn | ⟨r, hr, hyr⟩
        · exact ⟨c.2.grp.length, _, Nat.le_refl _, by simp, (mem y).2 hyn⟩
        · obtain ⟨k, hk⟩ := List.mem_iff_getElem?.1 hr
          have hkl : k < c.2.grp.length := (List.getElem?_eq_some_iff.1 hk).1
          exact ⟨k, r, by omega, by rw [List.getElem?_append_left hkl]; exact hk, hyr⟩
    · intro q hq x hx y
      rcases List.mem_append.1 hq with hq | hq
      · exact h.inv.scc q hq x hx y
      · rw [List.mem_singleton.1 hq] at hx ⊢
        rw [mem] at hx ⊢
        constructor
        · intro hy
          exact ⟨(toI x hx).trans (fromI y hy), (toI y hy).trans (fromI x hx)⟩
        · rintro ⟨r1, r2⟩
          rcases Classical.em (y ∈ i :: nw) with e | e
          · exact e
          · exfalso
            obtain ⟨a, b, ha, hb, hab, _, hby⟩ := r1.leaves (· ∈ i :: nw) hx e
            rcases out a ha b hab with h1 | h1
            · exact hb h1
            · obtain ⟨q', hq', hxq'⟩ := h.inv.stays (hby.trans r2) h1
              exact h.inv.disj x (by rw [ho]; exact List.mem_append_right _ hx) q' hq' hxq'
    · intro x hx y hy hxy
      exact h.inv.up x (by rw [ho]; exact List.mem_append_left _ hx) y (by rw [ho]; exact List.mem_append_left _ hy) hxy
    · intro y hy
      obtain ⟨z, hz, hzo, hzm, hr⟩ := h0.down y hy
      exact ⟨z, hz, hzo, by show c.2.m z ≤ c.2.m y; rw [old z hzo, old y hy]; exact hzm, hr⟩
    · intro x hx hxg y hy
      by_cases e : x = i
      · subst e; exact (h.past y hy).1
      · exact h.inv.black x hx (fun h' => by rcases List.mem_cons.1 h' with h' | h'; exact e h'; exact hxg h') y hy
  · rw [if_neg hl]
    have hlt : c.2.l i < now := by have := h.low; rw [h.mi] at hl; omega
    refine ⟨⟨h.ext, h.later, h.mi, h.low, h.why, ⟨i :: nw, ho, fun x hx => ?_, fun x hx y hy hyo => ?_⟩⟩, ?_⟩
    · rcases List.mem_cons.1 hx with rfl | hx
      · exact hw
      · exact hn0 x hx
    · rcases List.mem_cons.1 hx with rfl | hx
      · exact (h.past y hy).2 hyo
      · exact hn1 x hx y hy hyo
    · refine ⟨h.inv.lm, h.inv.ll, h.inv.now1, h.inv.mlt, h.inv.osort, h.inv.part, h.inv.disj, h.inv.gnd, h.inv.gso, h.inv.closed, h.inv.scc, h.inv.up, fun y hy => ?_, fun x hx hxg y hy => ?_, fun x hx => ?_⟩
      · obtain ⟨z, hz, hzo, hzm, hr⟩ := h.inv.down y hy
        rcases List.mem_cons.1 hz with rfl | hz
        · rcases h.why with e | ⟨y0, hy0, hy0m, hy0r⟩
          · omega
          · obtain ⟨x0, hx0, hx0o, hx0m, hx0r⟩ := h0.down y0 hy0
            refine ⟨x0, hx0, by rw [ho]; exact List.mem_append_left _ hx0o, ?_, hr.trans (hy0r.trans hx0r)⟩
            rw [old x0 hx0o]; rw [h.mi] at hzm; omega
        · exact ⟨z, hz, hzo, hzm, hr⟩
      · by_cases e : x = i
        · subst e; exact (h.past y hy).1
        · exact h.inv.black x hx (fun h' => by rcases List.mem_cons.1 h' with h' | h'; exact e h'; exact hxg h') y hy
      · exact h.inv.gopen x (List.mem_cons_of_mem _ hx)

/-- THE VISIT -/
theorem visit_ok (g : List (List Nat)) (hv : Valid g) : ∀ (f : Nat) (gray : List Nat) (i now : Nat) (s : St), Inv g gray now s → i < g.length → s.m i = 0 → (∀ x ∈ gray, Reach g x i) → white g s ≤ f →
    Visited g i now s (visit g f i now s).1 (visit g f i now s).2 ∧ Inv g gray (visit g f i now s).1 (visit g f i now s).2 := by
  intro f
  induction f with
  | zero =>
    intro gray i now s h hi hw hg hf
    exfalso
    have := white_push h.lm hi hw h.now1
    omega
  | succ f ih =>
    intro gray i now s h hi hw hg hf
    have hwp := white_push h.lm hi hw h.now1
    have gs := going_start h hi hw hg
    have gf := going_fold (f := f) h hv hi hw hg (fun k now s h1 h2 h3 h4 h5 => ih (i :: gray) k now s h1 h2 h3 h4 h5) (us g i) [] _ (fun _ h => h) gs (by show white g (s.push i now) ≤ f; omega)
    simp only [List.nil_append] at gf
    exact going_close h hi hw hg gf

end Go.Proofs.Ytlffdipjddlceaa.Od

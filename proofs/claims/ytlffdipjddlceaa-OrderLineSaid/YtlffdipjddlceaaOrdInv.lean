/- Tarjan's way finds what hangs together: the invariants. No program in sight. -/
import Derived.Test.YtlffdipjddlceaaOrdTarjan
namespace Go.Proofs.Ytlffdipjddlceaa.Od

theorem getD_set (l : List Nat) (i v x : Nat) (hi : i < l.length) : (l.set i v).getD x 0 = if x = i then v else l.getD x 0 := by
  simp only [List.getD_eq_getElem?_getD, List.getElem?_set]
  by_cases h : i = x
  · subst h; simp [hi]
  · rw [if_neg h, if_neg (fun e => h e.symm)]

theorem push_m (s : St) (i now x : Nat) (hi : i < s.met.length) : (s.push i now).m x = if x = i then now else s.m x := getD_set _ _ _ _ hi
theorem push_l (s : St) (i now x : Nat) (hi : i < s.least.length) : (s.push i now).l x = if x = i then now else s.l x := getD_set _ _ _ _ hi
theorem low_l (s : St) (i v x : Nat) (hi : i < s.least.length) : (s.low i v).l x = if x = i then min (s.l i) v else s.l x := getD_set _ _ _ _ hi
theorem low_m (s : St) (i v x : Nat) : (s.low i v).m x = s.m x := rfl

structure Inv (g : List (List Nat)) (gray : List Nat) (now : Nat) (s : St) : Prop where
  lm : s.met.length = g.length
  ll : s.least.length = g.length
  now1 : 1 ≤ now
  mlt : ∀ x, s.m x < now
  osort : s.opn.Pairwise (fun x y => s.m x < s.m y)
  part : ∀ x, s.m x ≠ 0 ↔ (x ∈ s.opn ∨ ∃ q ∈ s.grp, x ∈ q)
  disj : ∀ x ∈ s.opn, ∀ q ∈ s.grp, x ∉ q
  gnd : s.grp.flatten.Nodup
  gso : ∀ q ∈ s.grp, q ≠ [] ∧ q.Pairwise (· < ·)
  closed : ∀ (j : Nat) (q : List Nat), s.grp[j]? = some q → ∀ x ∈ q, ∀ y ∈ us g x, ∃ (i : Nat) (r : List Nat), i ≤ j ∧ s.grp[i]? = some r ∧ y ∈ r
  scc : ∀ q ∈ s.grp, ∀ x ∈ q, ∀ y, y ∈ q ↔ (Reach g x y ∧ Reach g y x)
  up : ∀ x ∈ s.opn, ∀ y ∈ s.opn, s.m x ≤ s.m y → Reach g x y
  down : ∀ y ∈ s.opn, ∃ x ∈ gray, x ∈ s.opn ∧ s.m x ≤ s.m y ∧ Reach g y x
  black : ∀ x, s.m x ≠ 0 → x ∉ gray → ∀ y ∈ us g x, s.m y ≠ 0
  gopen : ∀ x ∈ gray, x ∈ s.opn

theorem Inv.lt {g : List (List Nat)} {gray : List Nat} {now : Nat} {s : St} (h : Inv g gray now s) {x : Nat} (hx : s.m x ≠ 0) : x < g.length := by
  rcases Nat.lt_or_ge x g.length with h1 | h1
  · exact h1
  · exfalso; apply hx
    unfold St.m
    rw [List.getD_eq_getElem?_getD, List.getElem?_eq_none (by rw [h.lm]; exact h1)]; rfl

theorem Inv.omet {g : List (List Nat)} {gray : List Nat} {now : Nat} {s : St} (h : Inv g gray now s) {x : Nat} (hx : x ∈ s.opn) : s.m x ≠ 0 := (h.part x).2 (.inl hx)

theorem Inv.ond {g : List (List Nat)} {gray : List Nat} {now : Nat} {s : St} (h : Inv g gray now s) : s.opn.Nodup := by
  refine h.osort.imp ?_
  intro a b hab e; subst e; omega

/-- from a group one comes to groups alone -/
theorem Inv.stays {g : List (List Nat)} {gray : List Nat} {now : Nat} {s : St} (h : Inv g gray now s) {x y : Nat} (r : Reach g x y) (hx : ∃ q ∈ s.grp, x ∈ q) : ∃ q ∈ s.grp, y ∈ q := by
  induction r with
  | refl => exact hx
  | step e _ ih =>
    obtain ⟨q, hq, hxq⟩ := hx
    obtain ⟨j, hj⟩ := List.mem_iff_getElem?.1 hq
    obtain ⟨i, r, _, h2, h3⟩ := h.closed j q hj _ hxq _ e
    exact ih ⟨r, List.mem_iff_getElem?.2 ⟨i, h2⟩, h3⟩

theorem inv_push {g : List (List Nat)} {gray : List Nat} {now : Nat} {s : St} (h : Inv g gray now s) {i : Nat} (hi : i < g.length) (hw : s.m i = 0) (hg : ∀ x ∈ gray, Reach g x i) :
    Inv g (i :: gray) (now + 1) (s.push i now) := by
  have pm := fun x => push_m s i now x (by rw [h.lm]; exact hi)
  have hio : i ∉ s.opn := fun e => h.omet e hw
  have old : ∀ x, s.m x ≠ 0 → (s.push i now).m x = s.m x := fun x hx => by
    rw [pm, if_neg]; rintro rfl; exact hx hw
  have hn := h.now1
  refine ⟨by simp [St.push, h.lm], by simp [St.push, h.ll], by omega, fun x => ?_, ?_, fun x => ?_, fun x hx q hq => ?_, h.gnd, h.gso, h.closed, h.scc, fun x hx y hy hxy => ?_, fun y hy => ?_, fun x hx hxg y hy => ?_, fun x hx => ?_⟩
  · rw [pm]; split
    · omega
    · have := h.mlt x; omega
  · show (s.opn ++ [i]).Pairwise _
    rw [List.pairwise_append]
    refine ⟨?_, by simp, ?_⟩
    · refine List.Pairwise.imp_of_mem ?_ h.osort
      intro a b ha hb hab
      rw [old a (h.omet ha), old b (h.omet hb)]; exact hab
    · intro a ha b hb
      rw [List.mem_singleton.1 hb, old a (h.omet ha), pm, if_pos rfl]
      exact h.mlt a
  · show _ ↔ (x ∈ s.opn ++ [i] ∨ _)
    rw [pm]
    by_cases e : x = i
    · subst e; simp; omega
    · rw [if_neg e, h.part x]
      simp [e, St.push]
  · rcases List.mem_append.1 hx with hx | hx
    · exact h.disj x hx q hq
    · rw [List.mem_singleton.1 hx]
      intro hiq
      exact ((h.part i).2 (.inr ⟨q, hq, hiq⟩)) hw
  · rcases List.mem_append.1 hy with hy' | hy'
    · rcases List.mem_append.1 hx with hx' | hx'
      · rw [old x (h.omet hx'), old y (h.omet hy')] at hxy
        exact h.up x hx' y hy' hxy
      · rw [List.mem_singleton.1 hx'] at hxy
        rw [pm i, if_pos rfl, old y (h.omet hy')] at hxy
        have := h.mlt y; omega
    · rw [List.mem_singleton.1 hy']
      rcases List.mem_append.1 hx with hx' | hx'
      · obtain ⟨z, hz, _, _, hr⟩ := h.down x hx'
        exact hr.trans (hg z hz)
      · rw [List.mem_singleton.1 hx']; exact .refl i
  · rcases List.mem_append.1 hy with hy' | hy'
    · obtain ⟨z, hz, hzo, hzm, hr⟩ := h.down y hy'
      exact ⟨z, List.mem_cons_of_mem _ hz, List.mem_append_left _ hzo, by rw [old z (h.omet hzo), old y (h.omet hy')]; exact hzm, hr⟩
    · rw [List.mem_singleton.1 hy']
      exact ⟨i, by simp, List.mem_append_right _ (by simp), Nat.le_refl _, .refl i⟩
  · have hxi : x ≠ i := fun e => hxg (by rw [e]; simp)
    rw [pm, if_neg hxi] at hx
    have := h.black x hx (fun e => hxg (List.mem_cons_of_mem _ e)) y hy
    rw [old y this]; exact this
  · rcases List.mem_cons.1 hx with rfl | hx
    · exact List.mem_append_right _ (by simp)
    · exact List.mem_append_left _ (h.gopen x hx)

/-- lowering one's own least number changes nothing of this -/
theorem inv_low {g : List (List Nat)} {gray : List Nat} {now : Nat} {s : St} (h : Inv g gray now s) (i v : Nat) : Inv g gray now (s.low i v) :=
  ⟨h.lm, by simp [St.low, h.ll], h.now1, h.mlt, h.osort, h.part, h.disj, h.gnd, h.gso, h.closed, h.scc, h.up, h.down, h.black, h.gopen⟩

/-- what a visit leaves of what was -/
structure Ext (now : Nat) (s s' : St) : Prop where
  m : ∀ x, s.m x ≠ 0 → s'.m x = s.m x
  l : ∀ x, s.m x ≠ 0 → s'.l x = s.l x
  new : ∀ x, s.m x = 0 → s'.m x = 0 ∨ now ≤ s'.m x

/-- what a visit of i tells -/
structure Visited (g : List (List Nat)) (i now : Nat) (s : St) (now' : Nat) (s' : St) : Prop where
  ext : Ext now s s'
  later : now < now'
  mi : s'.m i = now
  low : s'.l i ≤ now
  why : s'.l i = now ∨ ∃ y ∈ s.opn, s.m y = s'.l i ∧ Reach g i y
  opn : ∃ nw, s'.opn = s.opn ++ nw ∧ (∀ x ∈ nw, s.m x = 0) ∧ ∀ x ∈ nw, ∀ y ∈ us g x, y ∈ s.opn → s'.l i ≤ s.m y

/-- within a visit of i, some of its uses done -/
structure Going (g : List (List Nat)) (gray : List Nat) (i now : Nat) (s : St) (done : List Nat) (c : Nat × St) : Prop where
  inv : Inv g (i :: gray) c.1 c.2
  ext : Ext now s c.2
  later : now < c.1
  mi : c.2.m i = now
  low : c.2.l i ≤ now
  why : c.2.l i = now ∨ ∃ y ∈ s.opn, s.m y = c.2.l i ∧ Reach g i y
  opn : ∃ nw, c.2.opn = s.opn ++ i :: nw ∧ (∀ x ∈ nw, s.m x = 0) ∧ ∀ x ∈ nw, ∀ y ∈ us g x, y ∈ s.opn → c.2.l i ≤ s.m y
  past : ∀ k ∈ done, c.2.m k ≠ 0 ∧ (k ∈ s.opn → c.2.l i ≤ s.m k)

end Go.Proofs.Ytlffdipjddlceaa.Od

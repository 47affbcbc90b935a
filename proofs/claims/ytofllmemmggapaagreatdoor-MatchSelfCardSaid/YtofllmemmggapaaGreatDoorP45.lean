/- Texts laid together: MaIn, MaLaw, MaInst, MaInstW, MaAwkP. -/
import Derived.Test.YtofllmemmggapaaGreatDoorP43
import Derived.Test.YtofllmemmggapaaGreatDoorP44
import Derived.Test.YtofllmemmggapaaGreatDoorP24

/- Instances. No program in sight. -/
namespace Go.Proofs.YtofllmemmggapaaGreatDoor.Tp

def pL : ByteArray := ⟨#[112]⟩
def qL : ByteArray := ⟨#[113]⟩
/-- what Instance tells -/
def InstT (g s : Ty) : Bool := (MatchT (PeelT qL (freeT g ++ freeT s) g).2 (PeelT pL (freeT g ++ freeT s) s).2 (PeelT qL (freeT g ++ freeT s) g).1).isSome

theorem mono_var (x : ByteArray) : Mono (.mk 1 x 0 []) := ⟨std_var x, rfl⟩
/-- indices within a bound alone matter -/
theorem in_congr (τ τ' : Nat → Ty) (k : Nat) (h : ∀ i, i < k → τ i = τ' i) : ∀ (X : Ty) (d : Nat), DbW (k + d) X → inT τ d X = inT τ' d X := by
  intro X
  induction X using Ty.ind with
  | h X ih =>
    cases X with
    | mk kd s n args =>
      intro d hw
      obtain ⟨w1, w6, wa⟩ := (dbw_mk _ kd s n args).1 hw
      rw [inT_mk, inT_mk]
      by_cases h6 : kd = 6
      · obtain ⟨rfl, _, _, hlt⟩ := w6 h6
        rw [if_pos h6, if_pos h6]
        split
        · exact h _ (by omega)
        · rfl
      · rw [if_neg h6, if_neg h6]
        by_cases h5 : kd = 5
        · rw [if_pos h5, if_pos h5]
          congr 1
          refine List.map_congr_left fun a ha => ih a ha (d + 1) ?_
          have := wa a ha
          rw [if_pos h5] at this
          exact this
        · rw [if_neg h5, if_neg h5]
          congr 1
          refine List.map_congr_left fun a ha => ih a ha d ?_
          have := wa a ha
          rw [if_neg h5] at this
          exact this

/-- names in the places of indices -/
def nmV (ps : List ByteArray) (i : Nat) : Ty := .mk 1 (ps.getD i emp) 0 []
/-- c is c', with types without for alls in the places of its indices; c' with names in the places of its -/
def RIn (ps : List ByteArray) (c c' : Ty) : Prop := ∃ τ : Nat → Ty, (∀ i, Mono (τ i)) ∧ inT τ 0 c = inT (nmV ps) 0 c'

/-- types for names -/
def vOf (ps : List ByteArray) (τ : Nat → Ty) (x : ByteArray) : Option Ty := (ixN ps x).map τ
theorem vOf_at {ps : List ByteArray} (hn : ps.Nodup) (τ : Nat → Ty) {i : Nat} (hi : i < ps.length) : svT (vOf ps τ) (nmV ps i) = τ i := by
  unfold nmV
  rw [svT_mk, if_pos rfl]
  have : ixN ps (ps.getD i emp) = some i := ixN_of_get ps _ i hn (by rw [List.getD_eq_getElem?_getD, List.getElem?_eq_getElem hi]; rfl)
  unfold vOf
  rw [this]; rfl
theorem vOf_mono {ps : List ByteArray} {τ : Nat → Ty} (h : ∀ i, Mono (τ i)) : ∀ x u, vOf ps τ x = some u → Mono u := by
  intro x u e
  unfold vOf at e
  cases hx : ixN ps x with
  | some i => rw [hx] at e; injection e with e; exact e ▸ h i
  | none => rw [hx] at e; cases e
theorem vOf_none {ps : List ByteArray} {τ : Nat → Ty} {x : ByteArray} (h : x ∉ ps) : vOf ps τ x = none := by unfold vOf; rw [(ixN_none ps x).2 h]; rfl

theorem sv_mono {v : ByteArray → Option Ty} (hv : ∀ x u, v x = some u → Mono u) : ∀ u : Ty, Mono u → Mono (svT v u) := by
  intro u
  induction u using Ty.ind with
  | h u ih =>
    intro hm
    have hk := hm.kind
    cases u with
    | mk k s n args =>
      rw [svT_mk]
      by_cases h1 : k = 1
      · subst h1
        rw [if_pos rfl]
        cases e : v s with
        | some w => exact hv s w e
        | none =>
          simp only
          obtain ⟨_, ha⟩ := hm.1.k1 rfl
          have : args = [] := ha
          subst this
          exact hm
      · rw [if_neg h1]
        have hargs : ∀ a ∈ args.map (svT v), Mono a := fun a ha => by
          obtain ⟨b, hb, rfl⟩ := List.mem_map.1 ha
          exact ih b hb (hm.arg hb)
        refine mono_mk ?_ hk.1 hargs
        refine (std_iff _).2 ⟨?_, fun a ha => (hargs a ha).1⟩
        have hs := ((std_iff _).1 hm.1).1
        unfold StdK at hs ⊢
        rcases hs with h | h | h | h | h
        · exact absurd h.1 h1
        · refine .inr (.inl ⟨h.1, h.2.1, ?_, h.2.2.2⟩)
          have : args = [] := h.2.2.1
          show args.map (svT v) = []
          rw [this]; rfl
        · exact .inr (.inr (.inl h))
        · refine .inr (.inr (.inr (.inl ⟨h.1, h.2.1, h.2.2.1, ?_⟩)))
          show (args.map (svT v)).length = 2
          rw [List.length_map]; exact h.2.2.2
        · exact absurd h.1 hk.1

/-- the names' places filled: steps of instances -/
theorem rin_fill {ps : List ByteArray} {c c' : Ty} {k k' : Nat} (hc : DbW k c) (hc' : DbW k' c') (hn : ps.Nodup) (hl : k' ≤ ps.length) (hf : ∀ x ∈ ps, ¬ vnT x c) (hf' : ∀ x ∈ ps, ¬ vnT x c') (h : RIn ps c c') (τ' : Nat → Ty) (hm' : ∀ i, Mono (τ' i)) :
    ∃ τ : Nat → Ty, (∀ i, Mono (τ i)) ∧ inT τ 0 c = inT τ' 0 c' := by
  obtain ⟨τ, hm, e⟩ := h
  have hv := vOf_mono (ps := ps) hm'
  refine ⟨fun i => svT (vOf ps τ') (τ i), fun i => sv_mono hv _ (hm i), ?_⟩
  have e2 := congrArg (svT (vOf ps τ')) e
  rw [sv_in _ _ hv c 0 k hc, sv_in _ _ hv c' 0 k' hc', sv_none _ c fun x hx => vOf_none fun hp => hf x hp hx, sv_none _ c' fun x hx => vOf_none fun hp => hf' x hp hx] at e2
  rw [e2]
  exact in_congr _ _ k' (fun i hi => vOf_at hn τ' (by omega)) c' 0 hc'
theorem rin_names {ps : List ByteArray} {c c' : Ty} {k k' : Nat} (hc : DbW k c) (hc' : DbW k' c') (hn : ps.Nodup) (hl : k' ≤ ps.length) (hf : ∀ x ∈ ps, ¬ vnT x c) (hf' : ∀ x ∈ ps, ¬ vnT x c') (h : RIn ps c c') (qs : List ByteArray) : RIn qs c c' :=
  rin_fill hc hc' hn hl hf hf' h (nmV qs) fun _ => mono_var _
theorem rin_trans {ps qs : List ByteArray} {c c' c'' : Ty} {k k' : Nat} (hc : DbW k c) (hc' : DbW k' c') (hn : ps.Nodup) (hl : k' ≤ ps.length) (hf : ∀ x ∈ ps, ¬ vnT x c) (hf' : ∀ x ∈ ps, ¬ vnT x c') (h : RIn ps c c') (h2 : RIn qs c' c'') : RIn qs c c'' := by
  obtain ⟨τ', hm', e'⟩ := h2
  obtain ⟨τ, hm, e⟩ := rin_fill hc hc' hn hl hf hf' h τ' hm'
  exact ⟨τ, hm, e.trans e'⟩

theorem vn_in (τ : Nat → Ty) (x : ByteArray) (k : Nat) : ∀ (X : Ty) (d : Nat), DbW (k + d) X → (vnT x X → vnT x (inT τ d X)) ∧ (vnT x (inT τ d X) → vnT x X ∨ ∃ i, i < k ∧ vnT x (τ i)) := by
  intro X
  induction X using Ty.ind with
  | h X ih =>
    cases X with
    | mk kd s n args =>
      intro d hw
      obtain ⟨w1, w6, wa⟩ := (dbw_mk _ kd s n args).1 hw
      have rec_ : ∀ d', (∀ a ∈ args, DbW (k + d') a) → (∃ a ∈ args, vnT x a) → ∃ a ∈ args.map (inT τ d'), vnT x a := fun d' hd ⟨a, ha, hx⟩ => ⟨_, List.mem_map.2 ⟨a, ha, rfl⟩, (ih a ha d' (hd a ha)).1 hx⟩
      have rec2 : ∀ d', (∀ a ∈ args, DbW (k + d') a) → (∃ a ∈ args.map (inT τ d'), vnT x a) → (∃ a ∈ args, vnT x a) ∨ ∃ i, i < k ∧ vnT x (τ i) := fun d' hd ⟨a, ha, hx⟩ => by
        obtain ⟨b, hb, rfl⟩ := List.mem_map.1 ha
        exact ((ih b hb d' (hd b hb)).2 hx).imp (fun h => ⟨b, hb, h⟩) id
      rw [inT_mk]
      by_cases h6 : kd = 6
      · obtain ⟨rfl, _, _, hlt⟩ := w6 h6
        rw [if_pos h6]
        constructor
        · intro h
          rcases (vn_mk _ _ _ _ _).1 h with h | ⟨a, ha, _⟩
          · omega
          · cases ha
        · split
          · intro h; exact .inr ⟨_, by omega, h⟩
          · intro h
            rcases (vn_mk _ _ _ _ _).1 h with h | ⟨a, ha, _⟩
            · omega
            · cases ha
      · rw [if_neg h6]
        by_cases h5 : kd = 5
        · rw [if_pos h5, vn_mk, vn_mk]
          have hd : ∀ a ∈ args, DbW (k + (d + 1)) a := fun a ha => by have := wa a ha; rw [if_pos h5] at this; exact this
          exact ⟨fun h => h.imp id (rec_ _ hd), fun h => h.elim (fun h => .inl (.inl h)) fun h => (rec2 _ hd h).imp .inr id⟩
        · rw [if_neg h5, vn_mk, vn_mk]
          have hd : ∀ a ∈ args, DbW (k + d) a := fun a ha => by have := wa a ha; rw [if_neg h5] at this; exact this
          exact ⟨fun h => h.imp id (rec_ _ hd), fun h => h.elim (fun h => .inl (.inl h)) fun h => (rec2 _ hd h).imp .inr id⟩
/-- what is put makes it no less deep -/
theorem in_depth (τ : Nat → Ty) (k : Nat) : ∀ (X : Ty) (d : Nat), DbW (k + d) X → X.depth ≤ (inT τ d X).depth ∧ ((∀ i, (τ i).depth = 1) → (inT τ d X).depth = X.depth) := by
  intro X
  induction X using Ty.ind with
  | h X ih =>
    cases X with
    | mk kd s n args =>
      intro d hw
      obtain ⟨w1, w6, wa⟩ := (dbw_mk _ kd s n args).1 hw
      have hle : ∀ d', (∀ a ∈ args, DbW (k + d') a) → depthL args ≤ depthL (args.map (inT τ d')) := fun d' hd => by
        have := depthL_mono (fun a => a) (inT τ d') args 0 fun a ha => by have := (ih a ha d' (hd a ha)).1; simpa using this
        simpa using this
      have heq : ∀ d', (∀ a ∈ args, DbW (k + d') a) → (∀ i, (τ i).depth = 1) → depthL (args.map (inT τ d')) = depthL args := fun d' hd h1 => by
        have := depthL_cong (inT τ d') (fun a => a) args fun a ha => (ih a ha d' (hd a ha)).2 h1
        simpa using this
      rw [inT_mk]
      by_cases h6 : kd = 6
      · obtain ⟨rfl, _, _, hlt⟩ := w6 h6
        rw [if_pos h6]
        have hp : ∀ u : Ty, 1 ≤ u.depth := fun u => by rw [u.depth_eq]; omega
        split
        · exact ⟨hp _, fun h => h _⟩
        · exact ⟨Nat.le_refl _, fun _ => rfl⟩
      · rw [if_neg h6]
        by_cases h5 : kd = 5
        · rw [if_pos h5]
          have hd : ∀ a ∈ args, DbW (k + (d + 1)) a := fun a ha => by have := wa a ha; rw [if_pos h5] at this; exact this
          exact ⟨by rw [Ty.depth_eq, Ty.depth_eq]; exact Nat.add_le_add_right (hle _ hd) 1, fun h => by rw [Ty.depth_eq, Ty.depth_eq]; show depthL (args.map _) + 1 = _; rw [heq _ hd h]; rfl⟩
        · rw [if_neg h5]
          have hd : ∀ a ∈ args, DbW (k + d) a := fun a ha => by have := wa a ha; rw [if_neg h5] at this; exact this
          exact ⟨by rw [Ty.depth_eq, Ty.depth_eq]; exact Nat.add_le_add_right (hle _ hd) 1, fun h => by rw [Ty.depth_eq, Ty.depth_eq]; show depthL (args.map _) + 1 = _; rw [heq _ hd h]; rfl⟩
/-- who is an instance of what, has its names -/
theorem rin_fv {ps : List ByteArray} {c c' : Ty} {k k' : Nat} (hc : DbW k c) (hc' : DbW k' c') (hl : k' ≤ ps.length) (hf : ∀ x ∈ ps, ¬ vnT x c) (h : RIn ps c c') {x : ByteArray} (hx : vnT x c) : vnT x c' := by
  obtain ⟨τ, _, e⟩ := h
  have h1 := (vn_in τ x k c 0 hc).1 hx
  rw [e] at h1
  rcases (vn_in (nmV ps) x k' c' 0 hc').2 h1 with h | ⟨i, hi, h⟩
  · exact h
  · exfalso
    rcases (vn_mk _ _ _ _ _).1 h with h | ⟨a, ha, _⟩
    · refine hf x ?_ hx
      rw [← h.2, List.getD_eq_getElem?_getD, List.getElem?_eq_getElem (by omega)]
      exact List.getElem_mem _
    · cases ha

end Go.Proofs.YtofllmemmggapaaGreatDoor.Tp

/- What the laws of chapter 3 say, of the plain functions. No program in sight. -/
namespace Go.Proofs.YtofllmemmggapaaGreatDoor.Tp

theorem peelT_ok (c : UInt8) (hc : Lx.lowerB c = true) (but : List ByteArray) (t : Ty) (hm : Mk t) (hz : t.size ≤ 4000) (hd : t.depth ≤ 4000) (hb : but.length ≤ 10000) (hf : ∀ x, fvT x t → x ∈ but) : PeelOk ⟨#[c]⟩ but 0 t (PeelT ⟨#[c]⟩ but t) :=
  peel_ok c hc but t.depth 0 t (Nat.le_refl _) hm (by omega) (fun x h => .inl (hf x h)) (by
    have : t.depth * (but.length + 1) ≤ 4000 * 10001 := Nat.mul_le_mul hd (by omega)
    omega)

theorem nodup_rev {l : List ByteArray} (h : l.Nodup) : l.reverse.Nodup := by
  unfold List.Nodup at *
  rw [List.pairwise_reverse]
  exact h.imp fun h => Ne.symm h

theorem db_k5 (env : List ByteArray) (t : Ty) (h : t.kind ≠ 5) : (dbT env t).kind ≠ 5 := by
  by_cases h1 : t.kind = 1
  · rw [dbT_var _ _ h1]
    unfold look
    cases ixN env t.name with
    | some i => show ¬ (6 : Int) = 5; decide
    | none => show ¬ (1 : Int) = 5; decide
  · rw [dbT_other _ _ h1 h]; exact h
theorem PeelOk.core5 {L : ByteArray} {but : List ByteArray} {n : Nat} {t : Ty} {r : List ByteArray × Ty} (R : PeelOk L but n t r) : (stF r.1.length (dbT [] t)).kind ≠ 5 := by rw [← R.db]; exact db_k5 _ _ R.k5
theorem PeelOk.same {L L' : ByteArray} {but but' : List ByteArray} {n n' : Nat} {t : Ty} {r r' : List ByteArray × Ty} (R : PeelOk L but n t r) (R' : PeelOk L' but' n' t r') : r.1.length = r'.1.length := alls_uniq _ _ _ R.alls R.core5 R'.alls R'.core5
theorem PeelOk.dbw {L : ByteArray} {but : List ByteArray} {n : Nat} {t : Ty} {r : List ByteArray × Ty} (R : PeelOk L but n t r) : DbW r.1.length (stF r.1.length (dbT [] t)) := by
  have := db_dbw r.2 r.1.reverse R.good.1
  rwa [List.length_reverse, R.db] at this
/-- what stands behind: its core, with the names in the places -/
theorem PeelOk.body {L : ByteArray} {but : List ByteArray} {n : Nat} {t : Ty} {r : List ByteArray × Ty} (R : PeelOk L but n t r) : dbT [] r.2 = inT (nmV r.1.reverse) 0 (stF r.1.length (dbT [] t)) := by
  rw [← R.db, db_ab r.1.reverse r.2 R.good.1]
  exact (in_ab r.1.reverse (dbT [] r.2) 0 (db_dbw r.2 [] R.good.1)).symm
theorem vn_st (x : ByteArray) : ∀ (k : Nat) (X : Ty), allsN k X → vnT x (stF k X) → vnT x X := by
  intro k
  induction k with
  | zero => intro X _ h; exact h
  | succ k ih =>
    intro X h hx
    obtain ⟨_, ⟨b, rfl⟩, ha⟩ := h
    exact (vn_mk _ _ _ _ _).2 (.inr ⟨b, by simp, ih _ ha hx⟩)
theorem PeelOk.core_fv {L : ByteArray} {but : List ByteArray} {n : Nat} {t : Ty} {r : List ByteArray × Ty} (R : PeelOk L but n t r) (hs : Std t) {x : ByteArray} (h : vnT x (stF r.1.length (dbT [] t))) : fvT x t := ((vn_db x t [] hs).1 (vn_st x _ _ R.alls h)).1

/-- what Instance tells, by cores -/
theorem inst_iff {g s : Ty} {but : List ByteArray} {rq rp : List ByteArray × Ty} (Q : PeelOk qL but 0 g rq) (P : PeelOk pL but 0 s rp) :
    (MatchT rq.2 rp.2 rq.1).isSome = true ↔ RIn rp.1.reverse (stF rq.1.length (dbT [] g)) (stF rp.1.length (dbT [] s)) := by
  have hcf : ∀ x, vnT x (stF rq.1.length (dbT [] g)) → x ∉ rq.1 := fun x hx => by
    rw [← Q.db] at hx
    have := ((vn_db x rq.2 rq.1.reverse Q.good.1).1 hx).2
    simpa using this
  constructor
  · intro h
    obtain ⟨l, hl⟩ := Option.isSome_iff_exists.1 h
    obtain ⟨v, hv, _, _⟩ := match_some Q.good.1 P.good hl
    refine ⟨fun i => svT v (nmV rq.1.reverse i), fun i => sv_mono hv.mono _ (mono_var _), ?_⟩
    have e := hv.eq
    rw [Q.body, P.body, sv_in v _ hv.mono _ 0 _ Q.dbw, sv_none v _ fun x hx => hv.out x (hcf x hx)] at e
    exact e
  · rintro ⟨τ, hm, e⟩
    have hnd : rq.1.reverse.Nodup := nodup_rev Q.nodup
    have hM : IsM rq.1 rq.2 rp.2 (vOf rq.1.reverse τ) := by
      refine ⟨vOf_mono hm, fun x hx => vOf_none (by simpa using hx), fun x hx _ h => ?_, ?_⟩
      · unfold vOf at h
        cases hi : ixN rq.1.reverse x with
        | some i => rw [hi] at h; cases h
        | none => exact absurd (by simpa using hx) ((ixN_none _ _).1 hi)
      · rw [Q.body, P.body, sv_in _ _ (vOf_mono hm) _ 0 _ Q.dbw, sv_none _ _ fun x hx => vOf_none (by simpa using hcf x hx), ← e]
        exact in_congr _ _ rq.1.length (fun i hi => vOf_at hnd τ (by simpa using hi)) _ 0 Q.dbw
    rw [match_of Q.good.1 P.good hM]; rfl

/-- two types whose names are few -/
structure Few (g s : Ty) : Prop where
  mg : Mk g
  ms : Mk s
  gz : g.size ≤ 4000
  sz : s.size ≤ 4000
  gd : g.depth ≤ 4000
  sd : s.depth ≤ 4000
def butI (g s : Ty) : List ByteArray := freeT g ++ freeT s
theorem Few.q {g s : Ty} (F : Few g s) : PeelOk qL (butI g s) 0 g (PeelT qL (butI g s) g) :=
  peelT_ok 113 (by decide) _ g F.mg F.gz F.gd (by have := freeT_len g; have := freeT_len s; have := F.gz; have := F.sz; unfold butI; simp; omega) fun x h => by unfold butI; simp [(mem_free x g).2 h]
theorem Few.p {g s : Ty} (F : Few g s) : PeelOk pL (butI g s) 0 s (PeelT pL (butI g s) s) :=
  peelT_ok 112 (by decide) _ s F.ms F.sz F.sd (by have := freeT_len g; have := freeT_len s; have := F.gz; have := F.sz; unfold butI; simp; omega) fun x h => by unfold butI; simp [(mem_free x s).2 h]
theorem peel_own {t : Ty} (h : Mk t) (hz : t.size ≤ 4000) (hd : t.depth ≤ 4000) : PeelOk pL (freeT t) 0 t (PeelT pL (freeT t) t) :=
  peelT_ok 112 (by decide) _ t h hz hd (by have := freeT_len t; omega) fun x h => (mem_free x t).2 h

/-- the number of for alls at the begin; what stands behind -/
def nT (t : Ty) : Nat := (PeelT pL (freeT t) t).1.length
def coreT (t : Ty) : Ty := stF (nT t) (dbT [] t)
theorem Few.inst {g s : Ty} (F : Few g s) : InstT g s = true ↔ RIn (PeelT pL (butI g s) s).1.reverse (coreT g) (coreT s) := by
  have h := inst_iff F.q F.p
  unfold InstT coreT
  rw [show nT g = _ from (peel_own F.mg F.gz F.gd).same F.q, show nT s = _ from (peel_own F.ms F.sz F.sd).same F.p]
  exact h
theorem Few.ps {g s : Ty} (F : Few g s) : (PeelT pL (butI g s) s).1.reverse.Nodup ∧ nT s = (PeelT pL (butI g s) s).1.reverse.length ∧ (∀ x ∈ (PeelT pL (butI g s) s).1.reverse, ¬ vnT x (coreT g) ∧ ¬ vnT x (coreT s)) := by
  refine ⟨nodup_rev F.p.nodup, by rw [List.length_reverse]; exact (peel_own F.ms F.sz F.sd).same F.p, fun x hx => ?_⟩
  have hb := (F.p.names x (by simpa using hx)).1
  unfold butI at hb
  simp only [List.mem_append, not_or] at hb
  exact ⟨fun h => hb.1 ((mem_free x g).2 ((peel_own F.mg F.gz F.gd).core_fv F.mg.1 h)), fun h => hb.2 ((mem_free x s).2 ((peel_own F.ms F.sz F.sd).core_fv F.ms.1 h))⟩
theorem core_dbw {t : Ty} (h : Mk t) (hz : t.size ≤ 4000) (hd : t.depth ≤ 4000) : DbW (nT t) (coreT t) := (peel_own h hz hd).dbw

/-- each type is an instance of itself -/
theorem inst_self {t : Ty} (F : Few t t) : InstT t t = true := F.inst.2 ⟨nmV _, fun _ => mono_var _, rfl⟩
/-- what is an instance of an instance is one -/
theorem inst_steps {x y z : Ty} (F1 : Few x y) (F2 : Few y z) (F3 : Few x z) (h1 : InstT x y = true) (h2 : InstT y z = true) : InstT x z = true := by
  have r1 := F1.inst.1 h1
  have r2 := F2.inst.1 h2
  obtain ⟨n1, l1, f1⟩ := F1.ps
  obtain ⟨n2, l2, f2⟩ := F2.ps
  have hx := core_dbw F1.mg F1.gz F1.gd
  have hy := core_dbw F1.ms F1.sz F1.sd
  have hz := core_dbw F2.ms F2.sz F2.sd
  have r3 := rin_trans hx hy n1 (by omega) (fun w hw => (f1 w hw).1) (fun w hw => (f1 w hw).2) r1 r2
  refine F3.inst.2 (rin_names hx hz n2 (by omega) (fun w hw hv => ?_) (fun w hw => (f2 w hw).2) r3 _)
  exact (f2 w hw).1 (rin_fv hx hy (by omega) (fun w hw => (f1 w hw).1) r1 hv)
theorem depth_core {L : ByteArray} {but : List ByteArray} {n : Nat} {t : Ty} {r : List ByteArray × Ty} (h : Mk t) (hz : t.size ≤ 4000) (hd : t.depth ≤ 4000) (R : PeelOk L but n t r) : r.2.depth = (coreT t).depth := by
  have e := R.db
  unfold coreT
  rw [show nT t = _ from (peel_own h hz hd).same R, ← e, depth_db r.2 R.good.1]
/-- if each is an instance of the other, they are as deep -/
theorem inst_depth {x y : Ty} (F1 : Few x y) (F2 : Few y x) (h1 : InstT x y = true) (h2 : InstT y x = true) : (coreT x).depth = (coreT y).depth := by
  have key : ∀ {a b : Ty}, Few a b → InstT a b = true → (coreT a).depth ≤ (coreT b).depth := fun {a b} F h => by
    obtain ⟨τ, _, e⟩ := F.inst.1 h
    have e2 := (in_depth τ (nT a) (coreT a) 0 (core_dbw F.mg F.gz F.gd)).1
    rw [e, (in_depth (nmV _) (nT b) (coreT b) 0 (core_dbw F.ms F.sz F.sd)).2 fun i => rfl] at e2
    exact e2
  exact Nat.le_antisymm (key F1 h1) (key F2 h2)

theorem poly_db : ∀ (t : Ty) (env : List ByteArray), Std t → polyT (dbT env t) = polyT t := by
  intro t
  induction t using Ty.ind with
  | h t ih =>
    intro env hs
    by_cases h1 : t.kind = 1
    · obtain ⟨_, ha⟩ := hs.k1 h1
      rw [dbT_var _ _ h1, polyT_eq t, ha, h1]
      unfold look
      cases ixN env t.name <;> rfl
    · have hany : ∀ env', (t.args.map (dbT env')).any polyT = t.args.any polyT := fun env' => by
        rw [List.any_map]
        have : ∀ l : List Ty, (∀ a ∈ l, polyT (dbT env' a) = polyT a) → l.any (polyT ∘ dbT env') = l.any polyT := by
          intro l
          induction l with
          | nil => intro _; rfl
          | cons a l ihl => intro h; rw [List.any_cons, List.any_cons, ihl fun b hb => h b (by simp [hb])]; show (polyT (dbT env' a) || _) = _; rw [h a (by simp)]
        exact this t.args fun a ha => ih a ha env' (hs.args a ha)
      by_cases h5 : t.kind = 5
      · rw [dbT_all _ _ h5, polyT_eq t, h5]; rfl
      · rw [dbT_other _ _ h1 h5, polyT_eq t, polyT_eq]
        show (t.kind == 5 || (t.args.map (dbT env)).any polyT) = _
        rw [hany]
theorem poly_core {L : ByteArray} {but : List ByteArray} {n : Nat} {t : Ty} {r : List ByteArray × Ty} (h : Mk t) (hz : t.size ≤ 4000) (hd : t.depth ≤ 4000) (R : PeelOk L but n t r) : polyT r.2 = polyT (coreT t) := by
  have e := R.db
  unfold coreT
  rw [show nT t = _ from (peel_own h hz hd).same R, ← e, poly_db r.2 _ R.good.1]


/-- of a type for all types just those are instances that have no for all behind those at their begin -/
theorem inst_any {g t : Ty} (F : Few g t) (hg : dbT [] g = .mk 5 emp 0 [.mk 6 emp 0 []]) : InstT g t = !polyT (coreT t) := by
  have hc : coreT g = .mk 6 emp 0 [] ∧ nT g = 1 := by
    have R := peel_own F.mg F.gz F.gd
    have hn : nT g = 1 := by
      refine alls_uniq _ 1 (dbT [] g) R.alls R.core5 ?_ ?_
      · rw [hg]; exact ⟨rfl, ⟨_, rfl⟩, trivial⟩
      · rw [hg]; show ¬ (6 : Int) = 5; decide
    exact ⟨by unfold coreT; rw [hn, hg]; rfl, hn⟩
  have P := F.p
  have hi := F.inst
  rw [hc.1] at hi
  have hb := P.body
  rw [← (peel_own F.ms F.sz F.sd).same P] at hb
  have hpc := poly_core F.ms F.sz F.sd P
  have e0 : ∀ τ : Nat → Ty, inT τ 0 (.mk 6 emp 0 []) = τ 0 := fun τ => by rw [inT_mk, if_pos rfl, if_pos (by decide)]; rfl
  cases hp : polyT (coreT t) with
  | false =>
    refine hi.2 ⟨fun _ => (PeelT pL (butI g t) t).2, fun _ => ⟨P.good.1, by rw [hpc, hp]⟩, ?_⟩
    rw [e0]
    have hm : Mono (PeelT pL (butI g t) t).2 := ⟨P.good.1, by rw [hpc, hp]⟩
    have := db_mono _ [] hm fun x _ => by simp
    rw [hb] at this
    exact this.symm
  | true =>
    cases hI : InstT g t with
    | false => rfl
    | true =>
      obtain ⟨τ, hm, e⟩ := hi.1 hI
      rw [e0] at e
      have hmono := hm 0
      rw [e, show inT (nmV (PeelT pL (butI g t) t).1.reverse) 0 (coreT t) = dbT [] (PeelT pL (butI g t) t).2 from hb.symm] at hmono
      have h2 := hmono.2
      rw [poly_db _ _ P.good.1, hpc, hp] at h2
      cases h2

/-! ### Match without names, and of a type with itself -/
theorem match_nil {p t : Ty} (hp : Mk p) (ht : Mk t) (hz : p.size ≤ 4000) (hz' : t.size ≤ 4000) : MatchT p t [] = if canonS p = canonS t then some [] else none := by
  have hpairs : ∀ v : ByteArray → Option Ty, (∀ x, v x = none) → pairsT p v = [] := fun v hv => by
    unfold pairsT
    rw [List.filterMap_eq_nil_iff]
    intro x _
    rw [hv x]; rfl
  by_cases h : canonS p = canonS t
  · rw [if_pos h]
    have hdb := canon_inj hp ht (by omega) (by omega) h
    rw [match_of hp.1 ht (v := fun _ => none) ⟨fun x u e => (by cases e), fun _ _ => rfl, fun x hx => (by cases hx), by rw [sv_none _ _ fun x _ => rfl]; exact hdb⟩, hpairs _ fun _ => rfl]
  · rw [if_neg h]
    cases hm : MatchT p t [] with
    | none => rfl
    | some l =>
      exfalso
      obtain ⟨v, hv, _, _⟩ := match_some hp.1 ht hm
      have e := hv.eq
      rw [sv_none _ _ fun x _ => hv.out x (by simp)] at e
      apply h
      unfold canonS
      rw [canon_congr hp.1 ht.1 e]
theorem sv_id (v : ByteArray → Option Ty) (hv : ∀ x, v x = none ∨ v x = some (.mk 1 x 0 [])) : ∀ (X : Ty) (d : Nat), DbW d X → svT v X = X := by
  intro X
  induction X using Ty.ind with
  | h X ih =>
    cases X with
    | mk k s n args =>
      intro d hw
      obtain ⟨w1, _, wa⟩ := (dbw_mk d k s n args).1 hw
      have ha : args.map (svT v) = args := map_id_of fun a ha => ih a ha _ (wa a ha)
      rw [svT_mk, ha]
      by_cases h1 : k = 1
      · obtain ⟨rfl, rfl⟩ := w1 h1
        rw [if_pos h1]
        rcases hv s with h | h
        · rw [h]
        · rw [h, h1]
      · rw [if_neg h1]
theorem match_own {t : Ty} (ht : Mk t) (vars : List ByteArray) : ∃ l, MatchT t t vars = some l ∧ ∀ e ∈ l, e.2 = .mk 1 e.1 0 [] := by
  refine ⟨_, match_of ht.1 ht (v := fun x => if hasN vars x then some (.mk 1 x 0 []) else none) ⟨fun x u e => ?_, fun x hx => ?_, fun x hx _ => ?_, ?_⟩, fun e he => ?_⟩
  · split at e
    · injection e with e; exact e ▸ mono_var x
    · cases e
  · rw [if_neg (by rw [hasN_iff]; exact hx)]
  · rw [if_pos ((hasN_iff vars x).2 hx)]; simp
  · refine sv_id _ (fun x => ?_) _ 0 (db_dbw t [] ht.1)
    split
    · exact .inr rfl
    · exact .inl rfl
  · unfold pairsT at he
    obtain ⟨x, _, hx⟩ := List.mem_filterMap.1 he
    cases hh : hasN vars x with
    | true => simp [hh] at hx; rw [← hx]
    | false => simp [hh] at hx

end Go.Proofs.YtofllmemmggapaaGreatDoor.Tp

/- The walks of Peel and Instance. -/
namespace Go.Proofs.YtofllmemmggapaaGreatDoor.Tp
open Go.RowKit Go.Sort

theorem pst_of {L : ByteArray} {but : List ByteArray} {t : Ty} (hm : Mk t) (hz : t.size ≤ 4000) (hd : t.depth ≤ 4000) (hb : but.length ≤ 10000) : Pst L but t.depth 0 t :=
  ⟨Nat.le_refl _, hm, by omega, by
    rw [Nat.zero_add]
    exact Nat.le_trans (Nat.mul_le_mul hd (show but.length + 1 ≤ 10001 by omega)) (by decide)⟩

def PkPost (w : World) (r : List ByteArray × Ty) (e : Ending) (w' : World) : Prop :=
  Below w.heap.size w w' ∧ ∃ v a c, e = .returned (.tuple #[v, tv r.2 a c]) ∧ StrsLow w' v r.1 ∧ AtW r.2 a c w'
theorem peel_top {w wo w1 w2 : World} {B1 : Nat} {r : List ByteArray × Ty} {v : Value} {a : Option Addr} {c : Nat} {z0 z1 z2 z3 : Value} (h2 : Below w.heap.size w w2) (hw1 : w.heap.size ≤ B1) (hB : B1 < w1.heap.size) (hq : B4 w2 B1 z0 z1 z2 z3) (hs1 : w1.heap.size ≤ w2.heap.size) (hv : StrsAt (In w1.heap.size w2.heap.size) w2 v r.1) (hA : ArgsAt (New (Lt w.heap.size) w1 w2) w2 (.slice a r.2.args.length c) r.2.args)
    (hwo : wo = ((((w2.setCell ⟨B1, 0, none⟩ (.int .i64 r.2.kind)).setCell ⟨B1, 1, none⟩ (.string r.2.name)).setCell ⟨B1, 2, none⟩ (.int .i64 r.2.n)).setCell ⟨B1, 3, none⟩ (.slice a r.2.args.length c))) :
    B4 wo B1 (.int .i64 r.2.kind) (.string r.2.name) (.int .i64 r.2.n) (.slice a r.2.args.length c) ∧ PkPost w r (.returned (.tuple #[v, tv r.2 a c])) wo := by
  have off : ∀ b, b ≠ B1 → wo.heap[b]? = w2.heap[b]? := fun b hb => by
    rw [hwo, Below.heap_setCell _ _ _ _ hb, Below.heap_setCell _ _ _ _ hb, Below.heap_setCell _ _ _ _ hb, Below.heap_setCell _ _ _ _ hb]
  have hsz : wo.heap.size = w2.heap.size := by rw [hwo]; simp
  refine ⟨by rw [hwo]; exact B4.set4 hq _ _ _ _, by rw [hwo]; exact h2.set4 hw1 _ _ _ _, v, a, c, rfl, (hv.keep fun b hb => off b (by have := hb.1; omega)).mono fun b hb => by rw [hsz]; exact hb.2, (hA.keep fun b hb => off b ?_).mono fun b hb => ?_⟩
  · rcases hb with hb | hb
    · have : b < w.heap.size := hb; omega
    · omega
  · show b < wo.heap.size
    rw [hsz]
    rcases hb with hb | hb
    · have : b < w.heap.size := hb; have := h2.size; omega
    · exact hb.2

set_option maxRecDepth 100000 in
set_option maxHeartbeats 3200000 in
theorem Peel_any (t : Ty) (a : Option Addr) (c : Nat) (w : World) (hA : AtW t a c w) (hm : Mk t) (hz : t.size ≤ 4000) (hd : t.depth ≤ 4000) (hT : Tab w) :
    Calls Tryz.prog 16 #[tv t a c] w (PkPost w (PeelT pL (freeT t) t)) := by
  have hz1 := (Below.refl w.heap.size w).alloc (Nat.le_refl _) (.cells #[.int .i64 t.kind, .string t.name, .int .i64 t.n, .slice a t.args.length c] 26)
  have hz2 := hz1.alloc hz1.size (.cells #[.int .i64 0, .string ⟨#[]⟩, .int .i64 0, .slice none 0 0] 26)
  have k4 := (B4.new w (.int .i64 t.kind) (.string t.name) (.int .i64 t.n) (.slice a t.args.length c)).low ((Below.refl _ _).alloc (Nat.le_refl _) (.cells #[.int .i64 0, .string ⟨#[]⟩, .int .i64 0, .slice none 0 0] 26))
  have q4 := B4.new (w.alloc (.cells #[.int .i64 t.kind, .string t.name, .int .i64 t.n, .slice a t.args.length c] 26)) (.int .i64 0) (.string ⟨#[]⟩) (.int .i64 0) (.slice none 0 0)
  rw [show (w.alloc (.cells #[.int .i64 t.kind, .string t.name, .int .i64 t.n, .slice a t.args.length c] 26)).heap.size = w.heap.size + 1 from by simp] at q4
  have hfl := freeT_len t
  have hA0 : ArgsAt (Lt w.heap.size) ((w.alloc (.cells #[.int .i64 t.kind, .string t.name, .int .i64 t.n, .slice a t.args.length c] 26)).alloc (.cells #[.int .i64 0, .string ⟨#[]⟩, .int .i64 0, .slice none 0 0] 26)) (.slice a t.args.length c) t.args := hA.keep fun b hb => hz2.block b hb
  have hsz : ((w.alloc (.cells #[.int .i64 t.kind, .string t.name, .int .i64 t.n, .slice a t.args.length c] 26)).alloc (.cells #[.int .i64 0, .string ⟨#[]⟩, .int .i64 0, .slice none 0 0] 26)).heap.size = w.heap.size + 1 + 1 := by simp
  have HS := Lib.hid hsz
  have HZ := Lib.hid hz2
  have K4 := Lib.hid k4
  have Q4 := Lib.hid q4
  have HA := Lib.hid hA0
  have CF := Lib.hid (fun (W : World) (h : Below w.heap.size w W) (hA : ArgsAt (Lt w.heap.size) W (.slice a t.args.length c) t.args) => free_any t (Lt w.heap.size) a c W hA (fun b hb => Nat.lt_of_lt_of_le hb h.size) (by omega))
  have CP := Lib.hid (fun (W : World) (h : Below w.heap.size w W) (bv : Value) (hb : StrsLow W bv (freeT t)) (hA : ArgsAt (Lt w.heap.size) W (.slice a t.args.length c) t.args) => peeled_any 112 (by decide) (freeT t) t (Lt w.heap.size) a c bv W hA (fun b hb => Nat.lt_of_lt_of_le hb h.size) hb (pst_of hm hz hd (by omega)) (tab_below hT h))
  have FL : Hid ((freeT t).length ≤ 1099511627776) := Lib.hid (by omega)
  have hpe : PeelT ⟨#[112]⟩ (freeT t) t = PeelT pL (freeT t) t := rfl
  rw [hpe] at CP
  generalize PeelT pL (freeT t) t = r at *
  unfold tv at CF CP ⊢
  clear hA hm hz hd hT hz1 hz2 k4 q4 hfl hA0 hsz hpe
  go_enter Tryz.func16, Tryz.ntmps16
  go_wp2
  generalize (w.alloc (.cells #[.int .i64 t.kind, .string t.name, .int .i64 t.n, .slice a t.args.length c] 26)).alloc (.cells #[.int .i64 0, .string ⟨#[]⟩, .int .i64 0, .slice none 0 0] 26) = W0 at *
  have HD := Lib.hid (Below.refl W0.heap.size W0).drew
  have CF1 := Lib.hid (CF.out W0.drew (HZ.out.trans (HD.out.mono HZ.out.size)) (HA.out.keep (A := W0) (B := W0.drew) fun _ _ => rfl))
  have c0 := K4.out.c0
  have c1 := K4.out.c1
  have c2 := K4.out.c2
  have c3 := K4.out.c3
  go_region_law (first
    | (go_simp; go_at_call 25; (with_reducible refine CF1.out.mono ?_); rintro e w1 ⟨fv, rfl, ho1, hl1, hb1⟩; have HB1 := Lib.hid (HD.out.trans (hb1.mono HD.out.size)); have CP1 := Lib.hid (CP.out w1 (HZ.out.trans (HB1.out.mono HZ.out.size)) fv (StrsLow.own ho1 FL.out) (HA.out.keep fun b hb => HB1.out.block b (Nat.lt_of_lt_of_le hb HZ.out.size))); have k1 := K4.out.low HB1.out; have d0 := k1.c0; have d1 := k1.c1; have d2 := k1.c2; have d3 := k1.c3; clear ho1 hl1 hb1 k1)
    | (go_simp; go_at_call 38; (with_reducible refine CP1.out.mono ?_); rintro e w2 ⟨hb2, v2, a2, c2', rfl, hv2, hA2⟩; have q2 := (Q4.out.low HB1.out).low hb2; have r0 := q2.c0; have r1 := q2.c1; have r2 := q2.c2; have r3 := q2.c3; have s0 := q2.fr 0; have s1 := q2.fr 1; have s2 := q2.fr 2; have s3 := q2.fr 3; have HQ2 := Lib.hid q2; have HB2 := Lib.hid hb2; have HV2 := Lib.hid hv2; have HA2 := Lib.hid hA2; clear hb2 hv2 hA2 q2; unfold tv))
  all_goals
    go_wp2
    obtain ⟨q5, hF⟩ := peel_top (w := w) (B1 := w.heap.size + 1) (HZ.out.trans ((HB1.out.trans (HB2.out.mono HB1.out.size)).mono HZ.out.size)) (by omega) (Nat.lt_of_lt_of_le (show w.heap.size + 1 < W0.heap.size by have := HS.out; omega) HB1.out.size) HQ2.out HB2.out.size HV2.out HA2.out rfl
    exact bodyPost_ret (v := .tuple #[v2, tv r.2 a2 c2']) (by simp [results, Tryz.results16, go_sem, tv, q5.c0, q5.c1, q5.c2, q5.c3]) rfl hF

end Go.Proofs.YtofllmemmggapaaGreatDoor.Tp

/- The walk of Instance. -/
namespace Go.Proofs.YtofllmemmggapaaGreatDoor.Tp
open Go.RowKit Go.Sort

def ButCut (l : List ByteArray) (W0 : World) (bv : Value) (wx : World) : Prop := StrsLow wx bv l ∧ Below W0.heap.size W0 wx
theorem few_small {g : Ty} {but : List ByteArray} {L : ByteArray} {r : List ByteArray × Ty} (hz : g.size ≤ 4000) (R : PeelOk L but 0 g r) : Small r.2 ∧ Szs r.2 :=
  ⟨⟨mk_good _ R.good, by have := R.size; omega⟩, by have := R.size; unfold Szs; omega⟩
theorem StrsAt.low2 {S : Nat → Prop} {w : World} {v : Value} {l : List ByteArray} (h : StrsAt S w v l) (hS : ∀ b, S b → b < w.heap.size) : StrsLow w v l := h.mono hS

set_option maxRecDepth 100000 in
set_option maxHeartbeats 6400000 in
theorem Instance_any (g s : Ty) (ga sa : Option Addr) (gc sc : Nat) (w : World) (hg : AtW g ga gc w) (hs : AtW s sa sc w) (F : Few g s) (hT : Tab w) :
    Calls Tryz.prog 15 #[tv g ga gc, tv s sa sc] w (BoolPost w (InstT g s)) := by
  have hz1 := (Below.refl w.heap.size w).alloc (Nat.le_refl _) (.cells #[.int .i64 g.kind, .string g.name, .int .i64 g.n, .slice ga g.args.length gc] 26)
  have hz2 := hz1.alloc hz1.size (.cells #[.int .i64 s.kind, .string s.name, .int .i64 s.n, .slice sa s.args.length sc] 26)
  have kg := (B4.new w (.int .i64 g.kind) (.string g.name) (.int .i64 g.n) (.slice ga g.args.length gc)).low ((Below.refl _ _).alloc (Nat.le_refl _) (.cells #[.int .i64 s.kind, .string s.name, .int .i64 s.n, .slice sa s.args.length sc] 26))
  have ks := B4.new (w.alloc (.cells #[.int .i64 g.kind, .string g.name, .int .i64 g.n, .slice ga g.args.length gc] 26)) (.int .i64 s.kind) (.string s.name) (.int .i64 s.n) (.slice sa s.args.length sc)
  rw [show (w.alloc (.cells #[.int .i64 g.kind, .string g.name, .int .i64 g.n, .slice ga g.args.length gc] 26)).heap.size = w.heap.size + 1 from by simp] at ks
  have hfg := freeT_len g
  have hfs := freeT_len s
  have hgz := F.gz
  have hsz := F.sz
  have HZ := Lib.hid hz2
  have KG := Lib.hid kg
  have KS := Lib.hid ks
  have CFG := Lib.hid (fun (W : World) (h : Below w.heap.size w W) => free_any g (Lt w.heap.size) ga gc W (hg.keep fun b hb => h.block b hb) (fun b hb => Nat.lt_of_lt_of_le hb h.size) (by omega))
  have CFS := Lib.hid (fun (W : World) (h : Below w.heap.size w W) => free_any s (Lt w.heap.size) sa sc W (hs.keep fun b hb => h.block b hb) (fun b hb => Nat.lt_of_lt_of_le hb h.size) (by omega))
  have CPG := Lib.hid (fun (W : World) (h : Below w.heap.size w W) (bv : Value) (hb : StrsLow W bv (freeT g ++ freeT s)) => peeled_any 113 (by decide) (freeT g ++ freeT s) g (Lt w.heap.size) ga gc bv W (hg.keep fun b hb => h.block b hb) (fun b hb => Nat.lt_of_lt_of_le hb h.size) hb (pst_of F.mg F.gz F.gd (by rw [List.length_append]; omega)) (tab_below hT h))
  have CPS := Lib.hid (fun (W : World) (h : Below w.heap.size w W) (bv : Value) (hb : StrsLow W bv (freeT g ++ freeT s)) => peeled_any 112 (by decide) (freeT g ++ freeT s) s (Lt w.heap.size) sa sc bv W (hs.keep fun b hb => h.block b hb) (fun b hb => Nat.lt_of_lt_of_le hb h.size) hb (pst_of F.ms F.sz F.sd (by rw [List.length_append]; omega)) (tab_below hT h))
  have RQ := Lib.hid (few_small F.gz F.q)
  have RP := Lib.hid (few_small F.sz F.p)
  have IE : Hid (InstT g s = (MatchT (PeelT ⟨#[113]⟩ (freeT g ++ freeT s) g).2 (PeelT ⟨#[112]⟩ (freeT g ++ freeT s) s).2 (PeelT ⟨#[113]⟩ (freeT g ++ freeT s) g).1).isSome) := Lib.hid rfl
  have FLG : Hid ((freeT g).length ≤ 1099511627776) := Lib.hid (by omega)
  have FLS : Hid ((freeT s).length ≤ 1099511627776) := Lib.hid (by omega)
  have FLA : Hid ((freeT g ++ freeT s).length ≤ 1099511627776) := Lib.hid (by rw [List.length_append]; omega)
  change Hid (Small (PeelT ⟨#[113]⟩ (freeT g ++ freeT s) g).2 ∧ Szs (PeelT ⟨#[113]⟩ (freeT g ++ freeT s) g).2) at RQ
  change Hid (Small (PeelT ⟨#[112]⟩ (freeT g ++ freeT s) s).2 ∧ Szs (PeelT ⟨#[112]⟩ (freeT g ++ freeT s) s).2) at RP
  generalize PeelT ⟨#[113]⟩ (freeT g ++ freeT s) g = rq at *
  generalize PeelT ⟨#[112]⟩ (freeT g ++ freeT s) s = rp at *
  have HTT := Lib.hid hT
  unfold tv at CFG CFS CPG CPS ⊢
  clear hg hs F hT hz1 hz2 kg ks hfg hfs hgz hsz
  go_enter Tryz.func15, Tryz.ntmps15
  go_wp2
  generalize (w.alloc (.cells #[.int .i64 g.kind, .string g.name, .int .i64 g.n, .slice ga g.args.length gc] 26)).alloc (.cells #[.int .i64 s.kind, .string s.name, .int .i64 s.n, .slice sa s.args.length sc] 26) = W0 at *
  have HD := Lib.hid (Below.refl W0.heap.size W0).drew
  have KK : Hid (∀ W : World, Below W0.heap.size W0 W → (W.cell? ⟨w.heap.size, 0, none⟩ = some (.int .i64 g.kind) ∧ W.cell? ⟨w.heap.size, 1, none⟩ = some (.string g.name) ∧ W.cell? ⟨w.heap.size, 2, none⟩ = some (.int .i64 g.n) ∧ W.cell? ⟨w.heap.size, 3, none⟩ = some (.slice ga g.args.length gc)) ∧
    W.cell? ⟨w.heap.size + 1, 0, none⟩ = some (.int .i64 s.kind) ∧ W.cell? ⟨w.heap.size + 1, 1, none⟩ = some (.string s.name) ∧ W.cell? ⟨w.heap.size + 1, 2, none⟩ = some (.int .i64 s.n) ∧ W.cell? ⟨w.heap.size + 1, 3, none⟩ = some (.slice sa s.args.length sc)) :=
    Lib.hid (fun W h => ⟨⟨(KG.out.low h).c0, (KG.out.low h).c1, (KG.out.low h).c2, (KG.out.low h).c3⟩, (KS.out.low h).c0, (KS.out.low h).c1, (KS.out.low h).c2, (KS.out.low h).c3⟩)
  go_upto_region 1 with fail
  go_cut [5] from 12 to 17 (fun bv wx => ButCut (freeT g ++ freeT s) W0 bv wx)
  case first =>
    obtain ⟨⟨c0, c1, c2, c3⟩, d0, d1, d2, d3⟩ := KK.out _ (Below.refl _ _)
    have CG1 := Lib.hid (CFG.out W0.drew (HZ.out.trans (HD.out.mono HZ.out.size)))
    have CS1 := Lib.hid (CFS.out W0.drew (HZ.out.trans (HD.out.mono HZ.out.size)))
    go_region_law (first
      | ((with_reducible show (if Region.wanted _ _ = true then Oper.wp _ _ _ W0.drew _ _ else _)); go_simp; go_at_call 25; (with_reducible refine CG1.out.mono ?_); rintro e w1 ⟨fv, rfl, ho1, hl1, hb1⟩; have HBG := Lib.hid (HD.out.trans (hb1.mono HD.out.size)); have OG := Lib.hid (own_base ho1 HD.out.size); have CS2 := Lib.hid (CFS.out w1 (HZ.out.trans (HBG.out.mono HZ.out.size))); obtain ⟨⟨m0, m1, m2, m3⟩, n0, n1, n2, n3⟩ := KK.out _ HBG.out; clear ho1 hl1 hb1)
      | ((with_reducible show (if Region.wanted _ _ = true then Oper.wp _ _ _ W0.drew _ _ else _)); go_simp; go_at_call 25; (with_reducible refine CS1.out.mono ?_); rintro e w1 ⟨gv, rfl, ho1, hl1, hb1⟩; have HBS := Lib.hid (HD.out.trans (hb1.mono HD.out.size)); have OS := Lib.hid (StrsLow.own ho1 FLS.out); have CG2 := Lib.hid (CFG.out w1 (HZ.out.trans (HBS.out.mono HZ.out.size))); obtain ⟨⟨m0, m1, m2, m3⟩, n0, n1, n2, n3⟩ := KK.out _ HBS.out; clear ho1 hl1 hb1)
      | (go_simp; go_at_call 25; (with_reducible refine CS2.out.mono ?_); rintro e w2 ⟨gv, rfl, ho2, hl2, hb2⟩; have HB2 := Lib.hid (HBG.out.trans (hb2.mono HBG.out.size)); have AP := Lib.hid (fun ty => append_strs ty (wi := W0) (wy := w2) (lo := W0.heap.size) (own_keep4 OG.out fun b e => hb2.block b (OG.out.lt b e).2) (StrsLow.own ho2 FLS.out) HB2.out (Nat.le_refl _) HB2.out.size FLG.out rfl); have AP := Lib.hid (AP.out 22); clear ho2 hl2 hb2)
      | (go_simp; go_at_call 25; (with_reducible refine CG2.out.mono ?_); rintro e w2 ⟨fv, rfl, ho2, hl2, hb2⟩; have HB2 := Lib.hid (HBS.out.trans (hb2.mono HBS.out.size)); have AP := Lib.hid (fun ty => append_strs ty (wi := W0) (wy := w2) (lo := W0.heap.size) (own_base ho2 HBS.out.size) (OS.out.low hb2) HB2.out (Nat.le_refl _) HB2.out.size FLG.out rfl); have AP := Lib.hid (AP.out 22); clear ho2 hl2 hb2)
      | (refine step_append_ok (by rfl) _ _ _ (by rfl) (by rfl) (by rfl) AP.out ?_; rintro v2 w3 ⟨ho3, hb3⟩; have OO := Lib.hid (StrsLow.own ho3 FLA.out); have BB := Lib.hid hb3; clear ho3 hb3))
    all_goals
      go_wp2_with fail
      go_meet
      exact ⟨OO.out, BB.out⟩
  obtain ⟨hbut, hbw⟩ := hcut
  have BU := Lib.hid hbut
  have BW := Lib.hid (HZ.out.trans (hbw.mono HZ.out.size))
  have HBW := Lib.hid hbw
  obtain ⟨⟨c0, c1, c2, c3⟩, d0, d1, d2, d3⟩ := KK.out _ hbw
  have C1 := Lib.hid (CPG.out wc BW.out _ BU.out)
  clear hbut hbw
  go_wp2_with fail
  refine C1.out.mono ?_
  rintro e w3 ⟨hb3, qv, qa, qc, rfl, hqv, hqA⟩
  have hx3 := hb3.trans (((Below.refl w3.heap.size w3).alloc (Nat.le_refl _) (.cells #[.int .i64 rq.2.kind, .string rq.2.name, .int .i64 rq.2.n, .slice qa rq.2.args.length qc] 26)).mono hb3.size)
  have kq := B4.new w3 (.int .i64 rq.2.kind) (.string rq.2.name) (.int .i64 rq.2.n) (.slice qa rq.2.args.length qc)
  have hqA2 : AtW rq.2 qa qc w3 := hqA.mono fun b hb => by
    rcases hb with hb | hb
    · exact Nat.lt_of_lt_of_le hb (BW.out.trans (hb3.mono BW.out.size)).size
    · exact hb.2
  have hal := (Below.refl w3.heap.size w3).alloc (Nat.le_refl _) (.cells #[.int .i64 rq.2.kind, .string rq.2.name, .int .i64 rq.2.n, .slice qa rq.2.args.length qc] 26)
  have QA := Lib.hid (hqA2.low hal)
  have hqv2 : StrsLow w3 qv rq.1 := hqv.mono fun b hb => hb.2
  have QV := Lib.hid (StrsLow.low hqv2 hal)
  have KQ := Lib.hid kq
  have B3 := Lib.hid (BW.out.trans (hx3.mono BW.out.size))
  obtain ⟨⟨c0, c1, c2, c3⟩, d0, d1, d2, d3⟩ := KK.out _ (HBW.out.trans (hx3.mono HBW.out.size))
  have C2 := Lib.hid (CPS.out _ B3.out _ (BU.out.low hx3))
  clear hb3 hqv hqv2 hqA hqA2 hx3 hal kq
  unfold tv
  go_wp2_with fail
  refine C2.out.mono ?_
  rintro e w4 ⟨hb4, pv, qa2, qc2, rfl, hpv, hpA⟩
  have hx4 := hb4.trans (((Below.refl w4.heap.size w4).alloc (Nat.le_refl _) (.cells #[.int .i64 rp.2.kind, .string rp.2.name, .int .i64 rp.2.n, .slice qa2 rp.2.args.length qc2] 26)).mono hb4.size)
  have kp := B4.new w4 (.int .i64 rp.2.kind) (.string rp.2.name) (.int .i64 rp.2.n) (.slice qa2 rp.2.args.length qc2)
  have hal := (Below.refl w4.heap.size w4).alloc (Nat.le_refl _) (.cells #[.int .i64 rp.2.kind, .string rp.2.name, .int .i64 rp.2.n, .slice qa2 rp.2.args.length qc2] 26)
  have hpA2 : AtW rp.2 qa2 qc2 w4 := hpA.mono fun b hb => by
    rcases hb with hb | hb
    · exact Nat.lt_of_lt_of_le hb (B3.out.trans (hb4.mono B3.out.size)).size
    · exact hb.2
  have B4' := Lib.hid (B3.out.trans (hx4.mono B3.out.size))
  have kq4 := KQ.out.low hx4
  have q0 := kq4.c0
  have q1 := kq4.c1
  have q2 := kq4.c2
  have q3 := kq4.c3
  have p0 := kp.c0
  have p1 := kp.c1
  have p2 := kp.c2
  have p3 := kp.c3
  have CM := Lib.hid (Match_any rq.2 rp.2 rq.1 qa qa2 qc qc2 qv _ (QA.out.low hx4) (hpA2.low hal) (QV.out.low hx4) RP.out.1 RQ.out.2 (tab_below HTT.out B4'.out))
  unfold tv at CM ⊢
  clear hb4 hpv hpA hx4 kp hal hpA2 kq4 c0 c1 c2 c3 d0 d1 d2 d3
  go_wp2_with fail
  refine CM.out.mono ?_
  rintro e w5 ⟨hb5, he⟩
  have B5 := Lib.hid (B4'.out.trans (hb5.mono B4'.out.size))
  clear hb5
  cases hr : MatchT rq.2 rp.2 rq.1 with
  | none =>
    have E : Hid (InstT g s = false) := Lib.hid (by rw [IE.out, hr]; rfl)
    rw [hr] at he
    obtain rfl := he
    clear hr
    go_wp2
    go_ret
    exact ⟨ret_bool E.out.symm, B5.out⟩
  | some l =>
    have E : Hid (InstT g s = true) := Lib.hid (by rw [IE.out, hr]; rfl)
    rw [hr] at he
    obtain ⟨v5, rfl, _⟩ := he
    clear hr
    go_wp2
    go_ret
    exact ⟨ret_bool E.out.symm, B5.out⟩

end Go.Proofs.YtofllmemmggapaaGreatDoor.Tp

/- Chapter 03's examples, reckoned. No program in sight. -/
namespace Go.Proofs.YtofllmemmggapaaGreatDoor.Tp
open Lx

/-- what read tells of a text -/
def rdT (s : ByteArray) : Option Ty := match parseT s.data.toList with
  | .ok t => if lowM t && decide (s.size ≤ 400) then some t else none
  | .error _ => none
theorem rdT_some {s : ByteArray} {t : Ty} (h : rdT s = some t) : parseT s.data.toList = .ok t ∧ lowM t = true ∧ s.size ≤ 400 := by
  unfold rdT at h
  split at h
  · next u hu =>
    split at h
    · next hc =>
      injection h with h
      subst h
      rw [Bool.and_eq_true, decide_eq_true_iff] at hc
      exact ⟨hu, hc⟩
    · cases h
  · cases h

/-- names of a letter and a number below ten, spelled -/
def ln (L : ByteArray) (n : Nat) : ByteArray := if n < 10 then L ++ ⟨#[UInt8.ofNat (48 + n)]⟩ else lname L n
theorem lname_ln (L : ByteArray) : lname L = ln L := by
  funext n
  unfold ln
  split
  · next h =>
    unfold lname
    rw [Lib.decDigits, dif_pos h]
    rfl
  · rfl
def peelG (f : Nat → ByteArray) (but : List ByteArray) : Nat → Nat → Ty → List ByteArray × Ty
  | 0, _, t => ([], t)
  | d + 1, n, t => if t.kind = 5 then (f (nx f but n) :: (peelG f but d (nx f but n + 1) (PutT t.name (.mk 1 (f (nx f but n)) 0 []) (arg0T t))).1,
      (peelG f but d (nx f but n + 1) (PutT t.name (.mk 1 (f (nx f but n)) 0 []) (arg0T t))).2) else ([], t)
theorem peelF_G (L : ByteArray) (but : List ByteArray) : ∀ (d n : Nat) (t : Ty), peelF L but d n t = peelG (lname L) but d n t := by
  intro d
  induction d with
  | zero => intro n t; rfl
  | succ d ih => intro n t; rw [peelF, peelG, ih]
theorem PeelT_fast (L : ByteArray) (but : List ByteArray) (t : Ty) : PeelT L but t = peelG (ln L) but t.depth 0 t := by
  unfold PeelT
  rw [peelF_G, lname_ln]
theorem InstT_fast (g s : Ty) : InstT g s = (MatchT (peelG (ln qL) (freeT g ++ freeT s) g.depth 0 g).2 (peelG (ln pL) (freeT g ++ freeT s) s.depth 0 s).2 (peelG (ln qL) (freeT g ++ freeT s) g.depth 0 g).1).isSome := by
  unfold InstT
  rw [PeelT_fast, PeelT_fast]

def mx1 : ByteArray := ⟨#[97, 32, 45, 62, 32, 84, 32, 98]⟩
def mx2 : ByteArray := ⟨#[73, 110, 116, 32, 45, 62, 32, 84, 32, 40, 85, 32, 99, 41]⟩
def mx3 : ByteArray := ⟨#[97, 32, 45, 62, 32, 97]⟩
def mx4 : ByteArray := ⟨#[73, 110, 116, 32, 45, 62, 32, 85]⟩
def mx5 : ByteArray := ⟨#[102, 111, 114, 97, 108, 108, 32, 97, 32, 98, 46, 32, 97, 32, 45, 62, 32, 98]⟩
def mx6 : ByteArray := ⟨#[102, 111, 114, 97, 108, 108, 32, 99, 46, 32, 99, 32, 45, 62, 32, 99]⟩
def mx7 : ByteArray := ⟨#[102, 111, 114, 97, 108, 108, 32, 97, 46, 32, 97, 32, 45, 62, 32, 97]⟩
def mx8 : ByteArray := ⟨#[102, 111, 114, 97, 108, 108, 32, 99, 32, 100, 46, 32, 99, 32, 45, 62, 32, 100]⟩
def mx9 : ByteArray := ⟨#[102, 111, 114, 97, 108, 108, 32, 97, 46, 32, 97]⟩
def my1 : Ty := tFun (tVar [97]) (tCon [84] [tVar [98]])
def my2 : Ty := tFun (tCon [73, 110, 116] []) (tCon [84] [tCon [85] [tVar [99]]])
def my3 : Ty := tFun (tVar [97]) (tVar [97])
def my4 : Ty := tFun (tCon [73, 110, 116] []) (tCon [85] [])
def my5 : Ty := tAll [97] (tAll [98] (tFun (tVar [97]) (tVar [98])))
def my6 : Ty := tAll [99] (tFun (tVar [99]) (tVar [99]))
def my7 : Ty := tAll [97] (tFun (tVar [97]) (tVar [97]))
def my8 : Ty := tAll [99] (tAll [100] (tFun (tVar [99]) (tVar [100])))
def my9 : Ty := tAll [97] (tVar [97])
theorem mp1 : rdT mx1 = some my1 := by kernel_rfl
theorem mp2 : rdT mx2 = some my2 := by kernel_rfl
theorem mp3 : rdT mx3 = some my3 := by kernel_rfl
theorem mp4 : rdT mx4 = some my4 := by kernel_rfl
theorem mp5 : rdT mx5 = some my5 := by kernel_rfl
theorem mp6 : rdT mx6 = some my6 := by kernel_rfl
theorem mp7 : rdT mx7 = some my7 := by kernel_rfl
theorem mp8 : rdT mx8 = some my8 := by kernel_rfl
theorem mp9 : rdT mx9 = some my9 := by kernel_rfl
def ml1 : Fnd := [(⟨#[97]⟩, tCon [73, 110, 116] []), (⟨#[98]⟩, tCon [85] [tVar [99]])]
theorem mm1 : MatchT my1 my2 [⟨#[97]⟩, ⟨#[98]⟩] = some ml1 := by kernel_rfl
theorem mm2 : MatchT my3 my4 [⟨#[97]⟩] = none := by kernel_rfl
theorem mi1 : InstT my5 my6 = true := by rw [InstT_fast]; kernel_rfl
theorem mi2 : InstT my7 my8 = false := by rw [InstT_fast]; kernel_rfl
theorem mo1 : toldS ml1 = ⟨#[121, 101, 115, 59, 97, 61, 73, 110, 116, 59, 98, 61, 85, 32, 99]⟩ := by kernel_rfl
theorem mq1 : (PeelT pL (freeT my8) my8).1.length = 2 := by rw [PeelT_fast]; kernel_rfl
theorem mq2 : bytes (printT (PeelT pL (freeT my8) my8).2) = ⟨#[112, 48, 32, 45, 62, 32, 112, 49]⟩ := by rw [PeelT_fast]; kernel_rfl

end Go.Proofs.YtofllmemmggapaaGreatDoor.Tp

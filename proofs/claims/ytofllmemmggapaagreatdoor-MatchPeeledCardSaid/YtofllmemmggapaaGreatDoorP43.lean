/- Texts laid together: MaIn, MaLaw. -/
import Derived.Test.YtofllmemmggapaaGreatDoorP42

/- Instances. No program in sight. -/
namespace Go.Proofs.YtofllmemmggapaaGreatDoor.Tp

def pL : ByteArray := ⟨#[112]⟩
def qL : ByteArray := ⟨#[113]⟩
/-- what Instance tells -/
def InstT (g s : Ty) : Bool := (MatchT (PeelT qL (freeT g ++ freeT s) g).2 (PeelT pL (freeT g ++ freeT s) s).2 (PeelT qL (freeT g ++ freeT s) g).1).isSome

theorem mono_var (x : ByteArray) : Mono (.mk 1 x 0 []) := ⟨std_var x, rfl⟩
/-- indices within a bound alone matter -/
theorem in_congr (τ τ' : Nat → Ty) (k : Nat) (h : ∀ i, i < k → τ i = τ' i) : ∀ (X : Ty) (d : Nat), DbW (k + d) X → inT τ d X = inT τ' d X := by
  intro X
  induction X using Ty.ind with
  | h X ih =>
    cases X with
    | mk kd s n args =>
      intro d hw
      obtain ⟨w1, w6, wa⟩ := (dbw_mk _ kd s n args).1 hw
      rw [inT_mk, inT_mk]
      by_cases h6 : kd = 6
      · obtain ⟨rfl, _, _, hlt⟩ := w6 h6
        rw [if_pos h6, if_pos h6]
        split
        · exact h _ (by omega)
        · rfl
      · rw [if_neg h6, if_neg h6]
        by_cases h5 : kd = 5
        · rw [if_pos h5, if_pos h5]
          congr 1
          refine List.map_congr_left fun a ha => ih a ha (d + 1) ?_
          have := wa a ha
          rw [if_pos h5] at this
          exact this
        · rw [if_neg h5, if_neg h5]
          congr 1
          refine List.map_congr_left fun a ha => ih a ha d ?_
          have := wa a ha
          rw [if_neg h5] at this
          exact this

/-- names in the places of indices -/
def nmV (ps : List ByteArray) (i : Nat) : Ty := .mk 1 (ps.getD i emp) 0 []
/-- c is c', with types without for alls in the places of its indices; c' with names in the places of its -/
def RIn (ps : List ByteArray) (c c' : Ty) : Prop := ∃ τ : Nat → Ty, (∀ i, Mono (τ i)) ∧ inT τ 0 c = inT (nmV ps) 0 c'

/-- types for names -/
def vOf (ps : List ByteArray) (τ : Nat → Ty) (x : ByteArray) : Option Ty := (ixN ps x).map τ
theorem vOf_at {ps : List ByteArray} (hn : ps.Nodup) (τ : Nat → Ty) {i : Nat} (hi : i < ps.length) : svT (vOf ps τ) (nmV ps i) = τ i := by
  unfold nmV
  rw [svT_mk, if_pos rfl]
  have : ixN ps (ps.getD i emp) = some i := ixN_of_get ps _ i hn (by rw [List.getD_eq_getElem?_getD, List.getElem?_eq_getElem hi]; rfl)
  unfold vOf
  rw [this]; rfl
theorem vOf_mono {ps : List ByteArray} {τ : Nat → Ty} (h : ∀ i, Mono (τ i)) : ∀ x u, vOf ps τ x = some u → Mono u := by
  intro x u e
  unfold vOf at e
  cases hx : ixN ps x with
  | some i => rw [hx] at e; injection e with e; exact e ▸ h i
  | none => rw [hx] at e; cases e
theorem vOf_none {ps : List ByteArray} {τ : Nat → Ty} {x : ByteArray} (h : x ∉ ps) : vOf ps τ x = none := by unfold vOf; rw [(ixN_none ps x).2 h]; rfl

theorem sv_mono {v : ByteArray → Option Ty} (hv : ∀ x u, v x = some u → Mono u) : ∀ u : Ty, Mono u → Mono (svT v u) := by
  intro u
  induction u using Ty.ind with
  | h u ih =>
    intro hm
    have hk := hm.kind
    cases u with
    | mk k s n args =>
      rw [svT_mk]
      by_cases h1 : k = 1
      · subst h1
        rw [if_pos rfl]
        cases e : v s with
        | some w => exact hv s w e
        | none =>
          simp only
          obtain ⟨_, ha⟩ := hm.1.k1 rfl
          have : args = [] := ha
          subst this
          exact hm
      · rw [if_neg h1]
        have hargs : ∀ a ∈ args.map (svT v), Mono a := fun a ha => by
          obtain ⟨b, hb, rfl⟩ := List.mem_map.1 ha
          exact ih b hb (hm.arg hb)
        refine mono_mk ?_ hk.1 hargs
        refine (std_iff _).2 ⟨?_, fun a ha => (hargs a ha).1⟩
        have hs := ((std_iff _).1 hm.1).1
        unfold StdK at hs ⊢
        rcases hs with h | h | h | h | h
        · exact absurd h.1 h1
        · refine .inr (.inl ⟨h.1, h.2.1, ?_, h.2.2.2⟩)
          have : args = [] := h.2.2.1
          show args.map (svT v) = []
          rw [this]; rfl
        · exact .inr (.inr (.inl h))
        · refine .inr (.inr (.inr (.inl ⟨h.1, h.2.1, h.2.2.1, ?_⟩)))
          show (args.map (svT v)).length = 2
          rw [List.length_map]; exact h.2.2.2
        · exact absurd h.1 hk.1

/-- the names' places filled: steps of instances -/
theorem rin_fill {ps : List ByteArray} {c c' : Ty} {k k' : Nat} (hc : DbW k c) (hc' : DbW k' c') (hn : ps.Nodup) (hl : k' ≤ ps.length) (hf : ∀ x ∈ ps, ¬ vnT x c) (hf' : ∀ x ∈ ps, ¬ vnT x c') (h : RIn ps c c') (τ' : Nat → Ty) (hm' : ∀ i, Mono (τ' i)) :
    ∃ τ : Nat → Ty, (∀ i, Mono (τ i)) ∧ inT τ 0 c = inT τ' 0 c' := by
  obtain ⟨τ, hm, e⟩ := h
  have hv := vOf_mono (ps := ps) hm'
  refine ⟨fun i => svT (vOf ps τ') (τ i), fun i => sv_mono hv _ (hm i), ?_⟩
  have e2 := congrArg (svT (vOf ps τ')) e
  rw [sv_in _ _ hv c 0 k hc, sv_in _ _ hv c' 0 k' hc', sv_none _ c fun x hx => vOf_none fun hp => hf x hp hx, sv_none _ c' fun x hx => vOf_none fun hp => hf' x hp hx] at e2
  rw [e2]
  exact in_congr _ _ k' (fun i hi => vOf_at hn τ' (by omega)) c' 0 hc'
theorem rin_names {ps : List ByteArray} {c c' : Ty} {k k' : Nat} (hc : DbW k c) (hc' : DbW k' c') (hn : ps.Nodup) (hl : k' ≤ ps.length) (hf : ∀ x ∈ ps, ¬ vnT x c) (hf' : ∀ x ∈ ps, ¬ vnT x c') (h : RIn ps c c') (qs : List ByteArray) : RIn qs c c' :=
  rin_fill hc hc' hn hl hf hf' h (nmV qs) fun _ => mono_var _
theorem rin_trans {ps qs : List ByteArray} {c c' c'' : Ty} {k k' : Nat} (hc : DbW k c) (hc' : DbW k' c') (hn : ps.Nodup) (hl : k' ≤ ps.length) (hf : ∀ x ∈ ps, ¬ vnT x c) (hf' : ∀ x ∈ ps, ¬ vnT x c') (h : RIn ps c c') (h2 : RIn qs c' c'') : RIn qs c c'' := by
  obtain ⟨τ', hm', e'⟩ := h2
  obtain ⟨τ, hm, e⟩ := rin_fill hc hc' hn hl hf hf' h τ' hm'
  exact ⟨τ, hm, e.trans e'⟩

theorem vn_in (τ : Nat → Ty) (x : ByteArray) (k : Nat) : ∀ (X : Ty) (d : Nat), DbW (k + d) X → (vnT x X → vnT x (inT τ d X)) ∧ (vnT x (inT τ d X) → vnT x X ∨ ∃ i, i < k ∧ vnT x (τ i)) := by
  intro X
  induction X using Ty.ind with
  | h X ih =>
    cases X with
    | mk kd s n args =>
      intro d hw
      obtain ⟨w1, w6, wa⟩ := (dbw_mk _ kd s n args).1 hw
      have rec_ : ∀ d', (∀ a ∈ args, DbW (k + d') a) → (∃ a ∈ args, vnT x a) → ∃ a ∈ args.map (inT τ d'), vnT x a := fun d' hd ⟨a, ha, hx⟩ => ⟨_, List.mem_map.2 ⟨a, ha, rfl⟩, (ih a ha d' (hd a ha)).1 hx⟩
      have rec2 : ∀ d', (∀ a ∈ args, DbW (k + d') a) → (∃ a ∈ args.map (inT τ d'), vnT x a) → (∃ a ∈ args, vnT x a) ∨ ∃ i, i < k ∧ vnT x (τ i) := fun d' hd ⟨a, ha, hx⟩ => by
        obtain ⟨b, hb, rfl⟩ := List.mem_map.1 ha
        exact ((ih b hb d' (hd b hb)).2 hx).imp (fun h => ⟨b, hb, h⟩) id
      rw [inT_mk]
      by_cases h6 : kd = 6
      · obtain ⟨rfl, _, _, hlt⟩ := w6 h6
        rw [if_pos h6]
        constructor
        · intro h
          rcases (vn_mk _ _ _ _ _).1 h with h | ⟨a, ha, _⟩
          · omega
          · cases ha
        · split
          · intro h; exact .inr ⟨_, by omega, h⟩
          · intro h
            rcases (vn_mk _ _ _ _ _).1 h with h | ⟨a, ha, _⟩
            · omega
            · cases ha
      · rw [if_neg h6]
        by_cases h5 : kd = 5
        · rw [if_pos h5, vn_mk, vn_mk]
          have hd : ∀ a ∈ args, DbW (k + (d + 1)) a := fun a ha => by have := wa a ha; rw [if_pos h5] at this; exact this
          exact ⟨fun h => h.imp id (rec_ _ hd), fun h => h.elim (fun h => .inl (.inl h)) fun h => (rec2 _ hd h).imp .inr id⟩
        · rw [if_neg h5, vn_mk, vn_mk]
          have hd : ∀ a ∈ args, DbW (k + d) a := fun a ha => by have := wa a ha; rw [if_neg h5] at this; exact this
          exact ⟨fun h => h.imp id (rec_ _ hd), fun h => h.elim (fun h => .inl (.inl h)) fun h => (rec2 _ hd h).imp .inr id⟩
/-- what is put makes it no less deep -/
theorem in_depth (τ : Nat → Ty) (k : Nat) : ∀ (X : Ty) (d : Nat), DbW (k + d) X → X.depth ≤ (inT τ d X).depth ∧ ((∀ i, (τ i).depth = 1) → (inT τ d X).depth = X.depth) := by
  intro X
  induction X using Ty.ind with
  | h X ih =>
    cases X with
    | mk kd s n args =>
      intro d hw
      obtain ⟨w1, w6, wa⟩ := (dbw_mk _ kd s n args).1 hw
      have hle : ∀ d', (∀ a ∈ args, DbW (k + d') a) → depthL args ≤ depthL (args.map (inT τ d')) := fun d' hd => by
        have := depthL_mono (fun a => a) (inT τ d') args 0 fun a ha => by have := (ih a ha d' (hd a ha)).1; simpa using this
        simpa using this
      have heq : ∀ d', (∀ a ∈ args, DbW (k + d') a) → (∀ i, (τ i).depth = 1) → depthL (args.map (inT τ d')) = depthL args := fun d' hd h1 => by
        have := depthL_cong (inT τ d') (fun a => a) args fun a ha => (ih a ha d' (hd a ha)).2 h1
        simpa using this
      rw [inT_mk]
      by_cases h6 : kd = 6
      · obtain ⟨rfl, _, _, hlt⟩ := w6 h6
        rw [if_pos h6]
        have hp : ∀ u : Ty, 1 ≤ u.depth := fun u => by rw [u.depth_eq]; omega
        split
        · exact ⟨hp _, fun h => h _⟩
        · exact ⟨Nat.le_refl _, fun _ => rfl⟩
      · rw [if_neg h6]
        by_cases h5 : kd = 5
        · rw [if_pos h5]
          have hd : ∀ a ∈ args, DbW (k + (d + 1)) a := fun a ha => by have := wa a ha; rw [if_pos h5] at this; exact this
          exact ⟨by rw [Ty.depth_eq, Ty.depth_eq]; exact Nat.add_le_add_right (hle _ hd) 1, fun h => by rw [Ty.depth_eq, Ty.depth_eq]; show depthL (args.map _) + 1 = _; rw [heq _ hd h]; rfl⟩
        · rw [if_neg h5]
          have hd : ∀ a ∈ args, DbW (k + d) a := fun a ha => by have := wa a ha; rw [if_neg h5] at this; exact this
          exact ⟨by rw [Ty.depth_eq, Ty.depth_eq]; exact Nat.add_le_add_right (hle _ hd) 1, fun h => by rw [Ty.depth_eq, Ty.depth_eq]; show depthL (args.map _) + 1 = _; rw [heq _ hd h]; rfl⟩
/-- who is an instance of what, has its names -/
theorem rin_fv {ps : List ByteArray} {c c' : Ty} {k k' : Nat} (hc : DbW k c) (hc' : DbW k' c') (hl : k' ≤ ps.length) (hf : ∀ x ∈ ps, ¬ vnT x c) (h : RIn ps c c') {x : ByteArray} (hx : vnT x c) : vnT x c' := by
  obtain ⟨τ, _, e⟩ := h
  have h1 := (vn_in τ x k c 0 hc).1 hx
  rw [e] at h1
  rcases (vn_in (nmV ps) x k' c' 0 hc').2 h1 with h | ⟨i, hi, h⟩
  · exact h
  · exfalso
    rcases (vn_mk _ _ _ _ _).1 h with h | ⟨a, ha, _⟩
    · refine hf x ?_ hx
      rw [← h.2, List.getD_eq_getElem?_getD, List.getElem?_eq_getElem (by omega)]
      exact List.getElem_mem _
    · cases ha

end Go.Proofs.YtofllmemmggapaaGreatDoor.Tp

/- What the laws of chapter 3 say, of the plain functions. No program in sight. -/
namespace Go.Proofs.YtofllmemmggapaaGreatDoor.Tp

theorem peelT_ok (c : UInt8) (hc : Lx.lowerB c = true) (but : List ByteArray) (t : Ty) (hm : Mk t) (hz : t.size ≤ 4000) (hd : t.depth ≤ 4000) (hb : but.length ≤ 10000) (hf : ∀ x, fvT x t → x ∈ but) : PeelOk ⟨#[c]⟩ but 0 t (PeelT ⟨#[c]⟩ but t) :=
  peel_ok c hc but t.depth 0 t (Nat.le_refl _) hm (by omega) (fun x h => .inl (hf x h)) (by
    have : t.depth * (but.length + 1) ≤ 4000 * 10001 := Nat.mul_le_mul hd (by omega)
    omega)

theorem nodup_rev {l : List ByteArray} (h : l.Nodup) : l.reverse.Nodup := by
  unfold List.Nodup at *
  rw [List.pairwise_reverse]
  exact h.imp fun h => Ne.symm h

theorem db_k5 (env : List ByteArray) (t : Ty) (h : t.kind ≠ 5) : (dbT env t).kind ≠ 5 := by
  by_cases h1 : t.kind = 1
  · rw [dbT_var _ _ h1]
    unfold look
    cases ixN env t.name with
    | some i => show ¬ (6 : Int) = 5; decide
    | none => show ¬ (1 : Int) = 5; decide
  · rw [dbT_other _ _ h1 h]; exact h
theorem PeelOk.core5 {L : ByteArray} {but : List ByteArray} {n : Nat} {t : Ty} {r : List ByteArray × Ty} (R : PeelOk L but n t r) : (stF r.1.length (dbT [] t)).kind ≠ 5 := by rw [← R.db]; exact db_k5 _ _ R.k5
theorem PeelOk.same {L L' : ByteArray} {but but' : List ByteArray} {n n' : Nat} {t : Ty} {r r' : List ByteArray × Ty} (R : PeelOk L but n t r) (R' : PeelOk L' but' n' t r') : r.1.length = r'.1.length := alls_uniq _ _ _ R.alls R.core5 R'.alls R'.core5
theorem PeelOk.dbw {L : ByteArray} {but : List ByteArray} {n : Nat} {t : Ty} {r : List ByteArray × Ty} (R : PeelOk L but n t r) : DbW r.1.length (stF r.1.length (dbT [] t)) := by
  have := db_dbw r.2 r.1.reverse R.good.1
  rwa [List.length_reverse, R.db] at this
/-- what stands behind: its core, with the names in the places -/
theorem PeelOk.body {L : ByteArray} {but : List ByteArray} {n : Nat} {t : Ty} {r : List ByteArray × Ty} (R : PeelOk L but n t r) : dbT [] r.2 = inT (nmV r.1.reverse) 0 (stF r.1.length (dbT [] t)) := by
  rw [← R.db, db_ab r.1.reverse r.2 R.good.1]
  exact (in_ab r.1.reverse (dbT [] r.2) 0 (db_dbw r.2 [] R.good.1)).symm
theorem vn_st (x : ByteArray) : ∀ (k : Nat) (X : Ty), allsN k X → vnT x (stF k X) → vnT x X := by
  intro k
  induction k with
  | zero => intro X _ h; exact h
  | succ k ih =>
    intro X h hx
    obtain ⟨_, ⟨b, rfl⟩, ha⟩ := h
    exact (vn_mk _ _ _ _ _).2 (.inr ⟨b, by simp, ih _ ha hx⟩)
theorem PeelOk.core_fv {L : ByteArray} {but : List ByteArray} {n : Nat} {t : Ty} {r : List ByteArray × Ty} (R : PeelOk L but n t r) (hs : Std t) {x : ByteArray} (h : vnT x (stF r.1.length (dbT [] t))) : fvT x t := ((vn_db x t [] hs).1 (vn_st x _ _ R.alls h)).1

/-- what Instance tells, by cores -/
theorem inst_iff {g s : Ty} {but : List ByteArray} {rq rp : List ByteArray × Ty} (Q : PeelOk qL but 0 g rq) (P : PeelOk pL but 0 s rp) :
    (MatchT rq.2 rp.2 rq.1).isSome = true ↔ RIn rp.1.reverse (stF rq.1.length (dbT [] g)) (stF rp.1.length (dbT [] s)) := by
  have hcf : ∀ x, vnT x (stF rq.1.length (dbT [] g)) → x ∉ rq.1 := fun x hx => by
    rw [← Q.db] at hx
    have := ((vn_db x rq.2 rq.1.reverse Q.good.1).1 hx).2
    simpa using this
  constructor
  · intro h
    obtain ⟨l, hl⟩ := Option.isSome_iff_exists.1 h
    obtain ⟨v, hv, _, _⟩ := match_some Q.good.1 P.good hl
    refine ⟨fun i => svT v (nmV rq.1.reverse i), fun i => sv_mono hv.mono _ (mono_var _), ?_⟩
    have e := hv.eq
    rw [Q.body, P.body, sv_in v _ hv.mono _ 0 _ Q.dbw, sv_none v _ fun x hx => hv.out x (hcf x hx)] at e
    exact e
  · rintro ⟨τ, hm, e⟩
    have hnd : rq.1.reverse.Nodup := nodup_rev Q.nodup
    have hM : IsM rq.1 rq.2 rp.2 (vOf rq.1.reverse τ) := by
      refine ⟨vOf_mono hm, fun x hx => vOf_none (by simpa using hx), fun x hx _ h => ?_, ?_⟩
      · unfold vOf at h
        cases hi : ixN rq.1.reverse x with
        | some i => rw [hi] at h; cases h
        | none => exact absurd (by simpa using hx) ((ixN_none _ _).1 hi)
      · rw [Q.body, P.body, sv_in _ _ (vOf_mono hm) _ 0 _ Q.dbw, sv_none _ _ fun x hx => vOf_none (by simpa using hcf x hx), ← e]
        exact in_congr _ _ rq.1.length (fun i hi => vOf_at hnd τ (by simpa using hi)) _ 0 Q.dbw
    rw [match_of Q.good.1 P.good hM]; rfl

/-- two types whose names are few -/
structure Few (g s : Ty) : Prop where
  mg : Mk g
  ms : Mk s
  gz : g.size ≤ 4000
  sz : s.size ≤ 4000
  gd : g.depth ≤ 4000
  sd : s.depth ≤ 4000
def butI (g s : Ty) : List ByteArray := freeT g ++ freeT s
theorem Few.q {g s : Ty} (F : Few g s) : PeelOk qL (butI g s) 0 g (PeelT qL (butI g s) g) :=
  peelT_ok 113 (by decide) _ g F.mg F.gz F.gd (by have := freeT_len g; have := freeT_len s; have := F.gz; have := F.sz; unfold butI; simp; omega) fun x h => by unfold butI; simp [(mem_free x g).2 h]
theorem Few.p {g s : Ty} (F : Few g s) : PeelOk pL (butI g s) 0 s (PeelT pL (butI g s) s) :=
  peelT_ok 112 (by decide) _ s F.ms F.sz F.sd (by have := freeT_len g; have := freeT_len s; have := F.gz; have := F.sz; unfold butI; simp; omega) fun x h => by unfold butI; simp [(mem_free x s).2 h]
theorem peel_own {t : Ty} (h : Mk t) (hz : t.size ≤ 4000) (hd : t.depth ≤ 4000) : PeelOk pL (freeT t) 0 t (PeelT pL (freeT t) t) :=
  peelT_ok 112 (by decide) _ t h hz hd (by have := freeT_len t; omega) fun x h => (mem_free x t).2 h

/-- the number of for alls at the begin; what stands behind -/
def nT (t : Ty) : Nat := (PeelT pL (freeT t) t).1.length
def coreT (t : Ty) : Ty := stF (nT t) (dbT [] t)
theorem Few.inst {g s : Ty} (F : Few g s) : InstT g s = true ↔ RIn (PeelT pL (butI g s) s).1.reverse (coreT g) (coreT s) := by
  have h := inst_iff F.q F.p
  unfold InstT coreT
  rw [show nT g = _ from (peel_own F.mg F.gz F.gd).same F.q, show nT s = _ from (peel_own F.ms F.sz F.sd).same F.p]
  exact h
theorem Few.ps {g s : Ty} (F : Few g s) : (PeelT pL (butI g s) s).1.reverse.Nodup ∧ nT s = (PeelT pL (butI g s) s).1.reverse.length ∧ (∀ x ∈ (PeelT pL (butI g s) s).1.reverse, ¬ vnT x (coreT g) ∧ ¬ vnT x (coreT s)) := by
  refine ⟨nodup_rev F.p.nodup, by rw [List.length_reverse]; exact (peel_own F.ms F.sz F.sd).same F.p, fun x hx => ?_⟩
  have hb := (F.p.names x (by simpa using hx)).1
  unfold butI at hb
  simp only [List.mem_append, not_or] at hb
  exact ⟨fun h => hb.1 ((mem_free x g).2 ((peel_own F.mg F.gz F.gd).core_fv F.mg.1 h)), fun h => hb.2 ((mem_free x s).2 ((peel_own F.ms F.sz F.sd).core_fv F.ms.1 h))⟩
theorem core_dbw {t : Ty} (h : Mk t) (hz : t.size ≤ 4000) (hd : t.depth ≤ 4000) : DbW (nT t) (coreT t) := (peel_own h hz hd).dbw

/-- each type is an instance of itself -/
theorem inst_self {t : Ty} (F : Few t t) : InstT t t = true := F.inst.2 ⟨nmV _, fun _ => mono_var _, rfl⟩
/-- what is an instance of an instance is one -/
theorem inst_steps {x y z : Ty} (F1 : Few x y) (F2 : Few y z) (F3 : Few x z) (h1 : InstT x y = true) (h2 : InstT y z = true) : InstT x z = true := by
  have r1 := F1.inst.1 h1
  have r2 := F2.inst.1 h2
  obtain ⟨n1, l1, f1⟩ := F1.ps
  obtain ⟨n2, l2, f2⟩ := F2.ps
  have hx := core_dbw F1.mg F1.gz F1.gd
  have hy := core_dbw F1.ms F1.sz F1.sd
  have hz := core_dbw F2.ms F2.sz F2.sd
  have r3 := rin_trans hx hy n1 (by omega) (fun w hw => (f1 w hw).1) (fun w hw => (f1 w hw).2) r1 r2
  refine F3.inst.2 (rin_names hx hz n2 (by omega) (fun w hw hv => ?_) (fun w hw => (f2 w hw).2) r3 _)
  exact (f2 w hw).1 (rin_fv hx hy (by omega) (fun w hw => (f1 w hw).1) r1 hv)
theorem depth_core {L : ByteArray} {but : List ByteArray} {n : Nat} {t : Ty} {r : List ByteArray × Ty} (h : Mk t) (hz : t.size ≤ 4000) (hd : t.depth ≤ 4000) (R : PeelOk L but n t r) : r.2.depth = (coreT t).depth := by
  have e := R.db
  unfold coreT
  rw [show nT t = _ from (peel_own h hz hd).same R, ← e, depth_db r.2 R.good.1]
/-- if each is an instance of the other, they are as deep -/
theorem inst_depth {x y : Ty} (F1 : Few x y) (F2 : Few y x) (h1 : InstT x y = true) (h2 : InstT y x = true) : (coreT x).depth = (coreT y).depth := by
  have key : ∀ {a b : Ty}, Few a b → InstT a b = true → (coreT a).depth ≤ (coreT b).depth := fun {a b} F h => by
    obtain ⟨τ, _, e⟩ := F.inst.1 h
    have e2 := (in_depth τ (nT a) (coreT a) 0 (core_dbw F.mg F.gz F.gd)).1
    rw [e, (in_depth (nmV _) (nT b) (coreT b) 0 (core_dbw F.ms F.sz F.sd)).2 fun i => rfl] at e2
    exact e2
  exact Nat.le_antisymm (key F1 h1) (key F2 h2)

theorem poly_db : ∀ (t : Ty) (env : List ByteArray), Std t → polyT (dbT env t) = polyT t := by
  intro t
  induction t using Ty.ind with
  | h t ih =>
    intro env hs
    by_cases h1 : t.kind = 1
    · obtain ⟨_, ha⟩ := hs.k1 h1
      rw [dbT_var _ _ h1, polyT_eq t, ha, h1]
      unfold look
      cases ixN env t.name <;> rfl
    · have hany : ∀ env', (t.args.map (dbT env')).any polyT = t.args.any polyT := fun env' => by
        rw [List.any_map]
        have : ∀ l : List Ty, (∀ a ∈ l, polyT (dbT env' a) = polyT a) → l.any (polyT ∘ dbT env') = l.any polyT := by
          intro l
          induction l with
          | nil => intro _; rfl
          | cons a l ihl => intro h; rw [List.any_cons, List.any_cons, ihl fun b hb => h b (by simp [hb])]; show (polyT (dbT env' a) || _) = _; rw [h a (by simp)]
        exact this t.args fun a ha => ih a ha env' (hs.args a ha)
      by_cases h5 : t.kind = 5
      · rw [dbT_all _ _ h5, polyT_eq t, h5]; rfl
      · rw [dbT_other _ _ h1 h5, polyT_eq t, polyT_eq]
        show (t.kind == 5 || (t.args.map (dbT env)).any polyT) = _
        rw [hany]
theorem poly_core {L : ByteArray} {but : List ByteArray} {n : Nat} {t : Ty} {r : List ByteArray × Ty} (h : Mk t) (hz : t.size ≤ 4000) (hd : t.depth ≤ 4000) (R : PeelOk L but n t r) : polyT r.2 = polyT (coreT t) := by
  have e := R.db
  unfold coreT
  rw [show nT t = _ from (peel_own h hz hd).same R, ← e, poly_db r.2 _ R.good.1]


/-- of a type for all types just those are instances that have no for all behind those at their begin -/
theorem inst_any {g t : Ty} (F : Few g t) (hg : dbT [] g = .mk 5 emp 0 [.mk 6 emp 0 []]) : InstT g t = !polyT (coreT t) := by
  have hc : coreT g = .mk 6 emp 0 [] ∧ nT g = 1 := by
    have R := peel_own F.mg F.gz F.gd
    have hn : nT g = 1 := by
      refine alls_uniq _ 1 (dbT [] g) R.alls R.core5 ?_ ?_
      · rw [hg]; exact ⟨rfl, ⟨_, rfl⟩, trivial⟩
      · rw [hg]; show ¬ (6 : Int) = 5; decide
    exact ⟨by unfold coreT; rw [hn, hg]; rfl, hn⟩
  have P := F.p
  have hi := F.inst
  rw [hc.1] at hi
  have hb := P.body
  rw [← (peel_own F.ms F.sz F.sd).same P] at hb
  have hpc := poly_core F.ms F.sz F.sd P
  have e0 : ∀ τ : Nat → Ty, inT τ 0 (.mk 6 emp 0 []) = τ 0 := fun τ => by rw [inT_mk, if_pos rfl, if_pos (by decide)]; rfl
  cases hp : polyT (coreT t) with
  | false =>
    refine hi.2 ⟨fun _ => (PeelT pL (butI g t) t).2, fun _ => ⟨P.good.1, by rw [hpc, hp]⟩, ?_⟩
    rw [e0]
    have hm : Mono (PeelT pL (butI g t) t).2 := ⟨P.good.1, by rw [hpc, hp]⟩
    have := db_mono _ [] hm fun x _ => by simp
    rw [hb] at this
    exact this.symm
  | true =>
    cases hI : InstT g t with
    | false => rfl
    | true =>
      obtain ⟨τ, hm, e⟩ := hi.1 hI
      rw [e0] at e
      have hmono := hm 0
      rw [e, show inT (nmV (PeelT pL (butI g t) t).1.reverse) 0 (coreT t) = dbT [] (PeelT pL (butI g t) t).2 from hb.symm] at hmono
      have h2 := hmono.2
      rw [poly_db _ _ P.good.1, hpc, hp] at h2
      cases h2

/-! ### Match without names, and of a type with itself -/
theorem match_nil {p t : Ty} (hp : Mk p) (ht : Mk t) (hz : p.size ≤ 4000) (hz' : t.size ≤ 4000) : MatchT p t [] = if canonS p = canonS t then some [] else none := by
  have hpairs : ∀ v : ByteArray → Option Ty, (∀ x, v x = none) → pairsT p v = [] := fun v hv => by
    unfold pairsT
    rw [List.filterMap_eq_nil_iff]
    intro x _
    rw [hv x]; rfl
  by_cases h : canonS p = canonS t
  · rw [if_pos h]
    have hdb := canon_inj hp ht (by omega) (by omega) h
    rw [match_of hp.1 ht (v := fun _ => none) ⟨fun x u e => (by cases e), fun _ _ => rfl, fun x hx => (by cases hx), by rw [sv_none _ _ fun x _ => rfl]; exact hdb⟩, hpairs _ fun _ => rfl]
  · rw [if_neg h]
    cases hm : MatchT p t [] with
    | none => rfl
    | some l =>
      exfalso
      obtain ⟨v, hv, _, _⟩ := match_some hp.1 ht hm
      have e := hv.eq
      rw [sv_none _ _ fun x _ => hv.out x (by simp)] at e
      apply h
      unfold canonS
      rw [canon_congr hp.1 ht.1 e]
theorem sv_id (v : ByteArray → Option Ty) (hv : ∀ x, v x = none ∨ v x = some (.mk 1 x 0 [])) : ∀ (X : Ty) (d : Nat), DbW d X → svT v X = X := by
  intro X
  induction X using Ty.ind with
  | h X ih =>
    cases X with
    | mk k s n args =>
      intro d hw
      obtain ⟨w1, _, wa⟩ := (dbw_mk d k s n args).1 hw
      have ha : args.map (svT v) = args := map_id_of fun a ha => ih a ha _ (wa a ha)
      rw [svT_mk, ha]
      by_cases h1 : k = 1
      · obtain ⟨rfl, rfl⟩ := w1 h1
        rw [if_pos h1]
        rcases hv s with h | h
        · rw [h]
        · rw [h, h1]
      · rw [if_neg h1]
theorem match_own {t : Ty} (ht : Mk t) (vars : List ByteArray) : ∃ l, MatchT t t vars = some l ∧ ∀ e ∈ l, e.2 = .mk 1 e.1 0 [] := by
  refine ⟨_, match_of ht.1 ht (v := fun x => if hasN vars x then some (.mk 1 x 0 []) else none) ⟨fun x u e => ?_, fun x hx => ?_, fun x hx _ => ?_, ?_⟩, fun e he => ?_⟩
  · split at e
    · injection e with e; exact e ▸ mono_var x
    · cases e
  · rw [if_neg (by rw [hasN_iff]; exact hx)]
  · rw [if_pos ((hasN_iff vars x).2 hx)]; simp
  · refine sv_id _ (fun x => ?_) _ 0 (db_dbw t [] ht.1)
    split
    · exact .inr rfl
    · exact .inl rfl
  · unfold pairsT at he
    obtain ⟨x, _, hx⟩ := List.mem_filterMap.1 he
    cases hh : hasN vars x with
    | true => simp [hh] at hx; rw [← hx]
    | false => simp [hh] at hx

end Go.Proofs.YtofllmemmggapaaGreatDoor.Tp

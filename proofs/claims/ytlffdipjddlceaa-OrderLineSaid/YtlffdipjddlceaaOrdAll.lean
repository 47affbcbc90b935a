/- All things visited: the groups are just what hangs together. No program in sight. -/
import Derived.Test.YtlffdipjddlceaaOrdVisit
namespace Go.Proofs.Ytlffdipjddlceaa.Od

/-- the groups: each thing in one, in rising order, what hangs together; and one comes from each to groups told before, or to itself -/
structure Sccs (g gs : List (List Nat)) : Prop where
  all : ∀ x, x < g.length ↔ ∃ q ∈ gs, x ∈ q
  gnd : gs.flatten.Nodup
  gso : ∀ q ∈ gs, q ≠ [] ∧ q.Pairwise (· < ·)
  closed : ∀ (j : Nat) (q : List Nat), gs[j]? = some q → ∀ x ∈ q, ∀ y ∈ us g x, ∃ (i : Nat) (r : List Nat), i ≤ j ∧ gs[i]? = some r ∧ y ∈ r
  scc : ∀ q ∈ gs, ∀ x ∈ q, ∀ y, y ∈ q ↔ (Reach g x y ∧ Reach g y x)

def start (n : Nat) : St := ⟨List.replicate n 0, List.replicate n 0, [], []⟩

def mainStep (g : List (List Nat)) (c : Nat × St) (i : Nat) : Nat × St := if c.2.m i = 0 then visit g g.length i c.1 c.2 else c

def groupsL (g : List (List Nat)) : List (List Nat) := ((List.range g.length).foldl (mainStep g) (1, start g.length)).2.grp

theorem start_m (n x : Nat) : (start n).m x = 0 := by
  unfold start St.m
  simp only [List.getD_eq_getElem?_getD, List.getElem?_replicate]
  split <;> rfl

theorem inv_start (g : List (List Nat)) : Inv g [] 1 (start g.length) := by
  refine ⟨by simp [start], by simp [start], by omega, fun x => by rw [start_m]; omega, by simp [start], fun x => ?_, by simp [start], by simp [start], by simp [start], by simp [start], by simp [start], by simp [start], by simp [start], fun x hx => absurd (start_m _ x) hx, by simp⟩
  rw [start_m]; simp [start]

theorem white_le (g : List (List Nat)) (s : St) : white g s ≤ g.length := by
  unfold white
  exact Nat.le_trans (List.length_filter_le _ _) (by simp)

theorem main_fold (g : List (List Nat)) (hv : Valid g) : ∀ (todo : List Nat) (c : Nat × St), (∀ k ∈ todo, k < g.length) → Inv g [] c.1 c.2 →
    Inv g [] (todo.foldl (mainStep g) c).1 (todo.foldl (mainStep g) c).2 ∧ (∀ x, c.2.m x ≠ 0 → (todo.foldl (mainStep g) c).2.m x ≠ 0) ∧ ∀ k ∈ todo, (todo.foldl (mainStep g) c).2.m k ≠ 0 := by
  intro todo
  induction todo with
  | nil => intro c _ h; exact ⟨h, fun _ h => h, fun _ h => by cases h⟩
  | cons k todo ih =>
    intro c ht h
    have hs : Inv g [] (mainStep g c k).1 (mainStep g c k).2 ∧ (∀ x, c.2.m x ≠ 0 → (mainStep g c k).2.m x ≠ 0) ∧ (mainStep g c k).2.m k ≠ 0 := by
      unfold mainStep
      by_cases hz : c.2.m k = 0
      · rw [if_pos hz]
        obtain ⟨V, I⟩ := visit_ok g hv g.length [] k c.1 c.2 h (ht k (by simp)) hz (by simp) (white_le g _)
        refine ⟨I, fun x hx => by rw [V.ext.m x hx]; exact hx, ?_⟩
        rw [V.mi]; have := h.now1; omega
      · rw [if_neg hz]; exact ⟨h, fun _ h => h, hz⟩
    obtain ⟨h1, h2, h3⟩ := hs
    obtain ⟨i1, i2, i3⟩ := ih (mainStep g c k) (fun j hj => ht j (List.mem_cons_of_mem _ hj)) h1
    refine ⟨i1, fun x hx => i2 x (h2 x hx), fun j hj => ?_⟩
    rcases List.mem_cons.1 hj with rfl | hj
    · exact i2 _ h3
    · exact i3 j hj

theorem groups_ok (g : List (List Nat)) (hv : Valid g) : Sccs g (groupsL g) := by
  obtain ⟨I, _, hall⟩ := main_fold g hv (List.range g.length) (1, start g.length) (fun k hk => by simpa using hk) (inv_start g)
  unfold groupsL
  generalize (List.range g.length).foldl (mainStep g) (1, start g.length) = c at I hall
  have hopn : c.2.opn = [] := by
    cases ho : c.2.opn with
    | nil => rfl
    | cons y l =>
      obtain ⟨x, hx, _⟩ := I.down y (by rw [ho]; simp)
      cases hx
  refine ⟨fun x => ⟨fun hx => ?_, fun hx => I.lt ((I.part x).2 (.inr hx))⟩, I.gnd, I.gso, I.closed, I.scc⟩
  rcases (I.part x).1 (hall x (by simpa using hx)) with h | h
  · rw [hopn] at h; cases h
  · exact h

/-! ### the order in which they are told -/

/-- which group a thing is in -/
def ofL (gs : List (List Nat)) (i : Nat) : Nat := gs.findIdx (·.contains i)

def ready (g gs : List (List Nat)) (done : List Nat) (j : Nat) : Bool :=
  !done.contains j && (gs.getD j []).all fun i => (us g i).all fun k => ofL gs k == j || done.contains (ofL gs k)

def nextL (g gs : List (List Nat)) (done : List Nat) : Option Nat := ((List.range g.length).find? fun i => ready g gs done (ofL gs i)).map (ofL gs)

def toldGo (g gs : List (List Nat)) : Nat → List Nat → List (List Nat)
  | 0, _ => []
  | f + 1, done =>
    match nextL g gs done with
    | none => []
    | some j => gs.getD j [] :: toldGo g gs f (done ++ [j])

def toldL (g gs : List (List Nat)) : List (List Nat) := toldGo g gs gs.length []

/-! ### the document's way -/

/-- R: who comes to whom -/
def groupOf (R : Nat → Nat → Bool) (n i : Nat) : List Nat := (List.range n).filter fun k => R i k && R k i

def readyR (R : Nat → Nat → Bool) (n : Nat) (told : List Nat) (i : Nat) : Bool :=
  !told.contains i && (List.range n).all fun k => !(R i k) || R k i || told.contains k

def refGo (R : Nat → Nat → Bool) (n : Nat) : Nat → List Nat → List (List Nat)
  | 0, _ => []
  | f + 1, told =>
    match (List.range n).find? (readyR R n told) with
    | none => []
    | some i => groupOf R n i :: refGo R n f (told ++ groupOf R n i)

theorem ofL_spec {g gs : List (List Nat)} (h : Sccs g gs) {i : Nat} (hi : i < g.length) : ∃ q, gs[ofL gs i]? = some q ∧ i ∈ q := by
  obtain ⟨q, hq, hiq⟩ := (h.all i).1 hi
  have hlt : ofL gs i < gs.length := List.findIdx_lt_length_of_exists ⟨q, hq, by simpa using hiq⟩
  refine ⟨gs[ofL gs i], List.getElem?_eq_getElem hlt, ?_⟩
  have h2 : (gs[ofL gs i]).contains i = true := List.findIdx_getElem (p := fun q : List Nat => q.contains i) (xs := gs) (w := hlt)
  exact List.contains_iff_mem.1 h2

theorem flatten_nodup_get {gs : List (List Nat)} (h : gs.flatten.Nodup) {i j : Nat} {q r : List Nat} (hi : gs[i]? = some q) (hj : gs[j]? = some r) {x : Nat} (hx : x ∈ q) (hy : x ∈ r) : i = j := by
  induction gs generalizing i j with
  | nil => simp at hi
  | cons a gs ih =>
    rw [List.flatten_cons, List.nodup_append] at h
    obtain ⟨_, h2, h3⟩ := h
    cases i with
    | zero =>
      cases j with
      | zero => rfl
      | succ j =>
        simp at hi hj; subst hi
        exact absurd rfl (h3 x hx x (List.mem_flatten.2 ⟨r, List.mem_iff_getElem?.2 ⟨j, hj⟩, hy⟩))
    | succ i =>
      cases j with
      | zero =>
        simp at hi hj; subst hj
        exact absurd rfl (h3 x hy x (List.mem_flatten.2 ⟨q, List.mem_iff_getElem?.2 ⟨i, hi⟩, hx⟩))
      | succ j =>
        simp at hi hj
        rw [ih h2 hi hj]

theorem ofL_eq {g gs : List (List Nat)} (h : Sccs g gs) {i j : Nat} {q : List Nat} (hj : gs[j]? = some q) (hi : i ∈ q) : ofL gs i = j := by
  have hl : i < g.length := (h.all i).2 ⟨q, List.mem_iff_getElem?.2 ⟨j, hj⟩, hi⟩
  obtain ⟨r, hr, hir⟩ := ofL_spec h hl
  exact flatten_nodup_get h.gnd hr hj hir hi

end Go.Proofs.Ytlffdipjddlceaa.Od

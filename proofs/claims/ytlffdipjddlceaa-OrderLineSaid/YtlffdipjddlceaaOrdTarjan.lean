/- Tarjan's way on plain lists, and that it finds what hangs together. No program in sight. -/
namespace Go.Proofs.Ytlffdipjddlceaa.Od

/-- what i uses -/
def us (g : List (List Nat)) (i : Nat) : List Nat := g.getD i []

def Valid (g : List (List Nat)) : Prop := ∀ i, ∀ k ∈ us g i, k < g.length

inductive Reach (g : List (List Nat)) : Nat → Nat → Prop
  | refl (x : Nat) : Reach g x x
  | step {x y z : Nat} : y ∈ us g x → Reach g y z → Reach g x z

theorem Reach.trans {g : List (List Nat)} {x y z : Nat} (h : Reach g x y) (k : Reach g y z) : Reach g x z := by
  induction h with
  | refl => exact k
  | step e _ ih => exact .step e (ih k)

theorem Reach.edge {g : List (List Nat)} {x y : Nat} (h : y ∈ us g x) : Reach g x y := .step h (.refl y)

theorem Reach.lt {g : List (List Nat)} (hv : Valid g) {x y : Nat} (h : Reach g x y) (hx : x < g.length) : y < g.length := by
  induction h with
  | refl => exact hx
  | step e _ ih => exact ih (hv _ _ e)

/-- along a way from within a set to without there is an edge that leaves it -/
theorem Reach.leaves {g : List (List Nat)} (S : Nat → Prop) {x y : Nat} (h : Reach g x y) (hx : S x) (hy : ¬ S y) : ∃ a b, S a ∧ ¬ S b ∧ b ∈ us g a ∧ Reach g x a ∧ Reach g b y := by
  induction h with
  | refl => exact absurd hx hy
  | @step x z y e r ih =>
    by_cases hz : S z
    · obtain ⟨a, b, h1, h2, h3, h4, h5⟩ := ih hz hy
      exact ⟨a, b, h1, h2, h3, .step e h4, h5⟩
    · exact ⟨x, z, hx, hz, e, .refl x, r⟩

structure St where
  met : List Nat
  least : List Nat
  opn : List Nat
  grp : List (List Nat)

def St.m (s : St) (i : Nat) : Nat := s.met.getD i 0
def St.l (s : St) (i : Nat) : Nat := s.least.getD i 0

/-- numbers, in rising order -/
def sorted (l : List Nat) : List Nat := l.mergeSort (· ≤ ·)

def St.push (s : St) (i now : Nat) : St := ⟨s.met.set i now, s.least.set i now, s.opn ++ [i], s.grp⟩
def St.low (s : St) (i v : Nat) : St := ⟨s.met, s.least.set i (min (s.l i) v), s.opn, s.grp⟩
def St.close (s : St) (i : Nat) : St :=
  if s.l i = s.m i then ⟨s.met, s.least, s.opn.take (s.opn.idxOf i), s.grp ++ [sorted (s.opn.drop (s.opn.idxOf i))]⟩ else s

/-- one use of i -/
def stepWith (v : Nat → Nat → St → Nat × St) (i : Nat) (c : Nat × St) (k : Nat) : Nat × St :=
  if c.2.m k = 0 then ((v k c.1 c.2).1, (v k c.1 c.2).2.low i ((v k c.1 c.2).2.l k))
  else if c.2.opn.contains k then (c.1, c.2.low i (c.2.m k))
  else c

def visit (g : List (List Nat)) : Nat → Nat → Nat → St → Nat × St
  | 0, _, now, s => (now, s)
  | f + 1, i, now, s =>
    let c := (us g i).foldl (stepWith (visit g f) i) (now + 1, s.push i now)
    (c.1, c.2.close i)

/-- the things that were not met yet, as many as there are -/
def white (g : List (List Nat)) (s : St) : Nat := ((List.range g.length).filter fun i => s.m i == 0).length

end Go.Proofs.Ytlffdipjddlceaa.Od

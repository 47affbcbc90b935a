/- Texts laid together: TyPlain, TyPrint, TyWalkP. -/
import Derived.Test.YtofllmemmggapaaGreatDoorP01
import Derived.Lib.ItoaMem

/- Types as trees; reading them from tokens. No program in sight. -/
namespace Go.Proofs.YtofllmemmggapaaGreatDoor.Tp
open Lx

/-- A type: kind, name, number, arguments. -/
inductive Ty where
  | mk (kind : Int) (name : ByteArray) (n : Int) (args : List Ty) : Ty

def Ty.kind : Ty → Int | .mk k _ _ _ => k
def Ty.name : Ty → ByteArray | .mk _ s _ _ => s
def Ty.n : Ty → Int | .mk _ _ n _ => n
def Ty.args : Ty → List Ty | .mk _ _ _ a => a

theorem Ty.ind {P : Ty → Prop} (h : ∀ t, (∀ a ∈ t.args, P a) → P t) (t : Ty) : P t :=
  Ty.rec (motive_1 := P) (motive_2 := fun ts => ∀ a ∈ ts, P a) (fun k s n args ih => h (.mk k s n args) ih) (fun a ha => by cases ha)
    (fun t ts iht ihs a ha => by
      rcases List.mem_cons.1 ha with rfl | ha
      · exact iht
      · exact ihs a ha) t

mutual
/-- how deep it is -/
def Ty.depth : Ty → Nat
  | .mk _ _ _ args => depthL args + 1
def depthL : List Ty → Nat
  | [] => 0
  | t :: ts => max t.depth (depthL ts)
end

theorem Ty.depth_eq (t : Ty) : t.depth = depthL t.args + 1 := by cases t; simp [Ty.depth, Ty.args]
theorem depthL_append (a b : List Ty) : depthL (a ++ b) = max (depthL a) (depthL b) := by
  induction a with
  | nil => simp [depthL]
  | cons t ts ih => simp [depthL, ih, Nat.max_assoc]
theorem depthL_take (ts : List Ty) (i : Nat) (h : i < ts.length) : depthL (ts.take (i + 1)) = max (depthL (ts.take i)) ts[i].depth := by
  rw [List.take_add_one, List.getElem?_eq_getElem h, depthL_append]; simp [depthL]
theorem depth_arg (ts : List Ty) {a : Ty} (h : a ∈ ts) : a.depth ≤ depthL ts := by
  induction ts with
  | nil => cases h
  | cons t ts ih =>
    rw [depthL]
    rcases List.mem_cons.1 h with rfl | h
    · omega
    · have := ih h; omega

/-! ### reading -/
def bytes (l : List UInt8) : ByteArray := ⟨l.toArray⟩

/-- is the next token one of this kind? -/
def sk (l : List Tok) (k : Nat) : Bool := match l with
  | [] => false
  | t :: _ => t.kind == k
/-- is the next token one of this kind and text? -/
def st (l : List Tok) (k : Nat) (s : List UInt8) : Bool := match l with
  | [] => false
  | t :: _ => t.kind == k && t.text == s

def fa : List UInt8 := [102, 111, 114, 97, 108, 108]
def arrow : List UInt8 := [45, 62]
def dot : List UInt8 := [46]
def lpar : List UInt8 := [40]
def rpar : List UInt8 := [41]

/-- a number of digits -/
def numL (l : List UInt8) : Nat := l.foldl (fun n c => 10 * n + (c.toNat - 48)) 0

def tVar (s : List UInt8) : Ty := .mk 1 (bytes s) 0 []
def tMeta (s : List UInt8) : Ty := .mk 2 (bytes []) (numL s.tail) []
def tCon (s : List UInt8) (args : List Ty) : Ty := .mk 3 (bytes s) 0 args
def tFun (a b : Ty) : Ty := .mk 4 (bytes []) 0 [a, b]
def tAll (s : List UInt8) (t : Ty) : Ty := .mk 5 (bytes s) 0 [t]

/-- the names ahead -/
def varsL (l : List Tok) : List Tok := l.takeWhile fun t => t.kind == 1
def restL (l : List Tok) : List Tok := l.dropWhile fun t => t.kind == 1

def headText (l : List Tok) : List UInt8 := match l with
  | [] => []
  | t :: _ => t.text

/-- may an atom begin here? -/
def starts (l : List Tok) : Bool := sk l 1 || sk l 5 || sk l 2 || st l 6 lpar

mutual
def typF : Nat → List Tok → Option (Ty × List Tok)
  | 0, _ => none
  | n + 1, l =>
    if st l 3 fa then allF n l.tail
    else match appF n l with
      | none => none
      | some (a, r) => if st r 6 arrow then (match typF n r.tail with
          | none => none
          | some (b, r') => some (tFun a b, r')) else some (a, r)
def allF : Nat → List Tok → Option (Ty × List Tok)
  | 0, _ => none
  | n + 1, l =>
    if !st (restL l) 6 dot || (varsL l).isEmpty then none
    else match typF n (restL l).tail with
      | none => none
      | some (t, r) => some ((varsL l).foldr (fun v t => tAll v.text t) t, r)
def appF : Nat → List Tok → Option (Ty × List Tok)
  | 0, _ => none
  | n + 1, l => if sk l 2 then argsF n (headText l) [] l.tail else atomF n l
def argsF : Nat → List UInt8 → List Ty → List Tok → Option (Ty × List Tok)
  | 0, _, _, _ => none
  | n + 1, s, acc, l =>
    if starts l then (match atomF n l with
      | none => none
      | some (x, r) => argsF n s (acc ++ [x]) r) else some (tCon s acc, l)
def atomF : Nat → List Tok → Option (Ty × List Tok)
  | 0, _ => none
  | n + 1, l =>
    if sk l 1 then some (tVar (headText l), l.tail)
    else if sk l 2 then some (tCon (headText l) [], l.tail)
    else if sk l 5 then some (tMeta (headText l), l.tail)
    else if st l 6 lpar then (match typF n l.tail with
      | none => none
      | some (t, r) => if st r 6 rpar then some (t, r.tail) else none) else none
end

theorem sk_ne {l : List Tok} {k : Nat} (h : sk l k = true) : 0 < l.length := by cases l <;> simp [sk] at h ⊢
theorem st_ne {l : List Tok} {k : Nat} {s : List UInt8} (h : st l k s = true) : 0 < l.length := by cases l <;> simp [st] at h ⊢
theorem rest_le (l : List Tok) : (restL l).length ≤ l.length := by
  unfold restL
  induction l with
  | nil => simp
  | cons t l ih => rw [List.dropWhile_cons]; split <;> simp <;> omega

/-- what is left is shorter -/
theorem shorter : ∀ n : Nat,
    (∀ l x r, typF n l = some (x, r) → r.length < l.length) ∧ (∀ l x r, allF n l = some (x, r) → r.length < l.length) ∧
    (∀ l x r, appF n l = some (x, r) → r.length < l.length) ∧ (∀ s acc l x r, argsF n s acc l = some (x, r) → r.length ≤ l.length) ∧
    (∀ l x r, atomF n l = some (x, r) → r.length < l.length) := by
  intro n
  induction n with
  | zero => exact ⟨fun _ _ _ h => by simp [typF] at h, fun _ _ _ h => by simp [allF] at h, fun _ _ _ h => by simp [appF] at h, fun _ _ _ _ _ h => by simp [argsF] at h, fun _ _ _ h => by simp [atomF] at h⟩
  | succ n ih =>
    obtain ⟨i1, i2, i3, i4, i5⟩ := ih
    refine ⟨fun l x r h => ?_, fun l x r h => ?_, fun l x r h => ?_, fun s acc l x r h => ?_, fun l x r h => ?_⟩
    · rw [typF] at h
      split at h
      · next h1 => have := i2 _ _ _ h; have := st_ne h1; simp at *; omega
      · split at h
        · cases h
        · next a r' h2 =>
          have e2 := i3 _ _ _ h2
          split at h
          · next h3 =>
            split at h
            · cases h
            · next b r'' h4 =>
              have := i1 _ _ _ h4
              simp only [Option.some.injEq, Prod.mk.injEq] at h
              obtain ⟨_, rfl⟩ := h
              simp at this; omega
          · simp only [Option.some.injEq, Prod.mk.injEq] at h
            obtain ⟨_, rfl⟩ := h
            exact e2
    · rw [allF] at h
      split at h
      · cases h
      · next h1 =>
        split at h
        · cases h
        · next t r' h2 =>
          have := i1 _ _ _ h2
          simp only [Option.some.injEq, Prod.mk.injEq] at h
          obtain ⟨_, rfl⟩ := h
          have := rest_le l
          simp at *; omega
    · rw [appF] at h
      split at h
      · next h1 => have := i4 _ _ _ _ _ h; have := sk_ne h1; simp at *; omega
      · exact i5 _ _ _ h
    · rw [argsF] at h
      split at h
      · split at h
        · cases h
        · next x' r' h2 => have := i5 _ _ _ h2; have := i4 _ _ _ _ _ h; omega
      · simp only [Option.some.injEq, Prod.mk.injEq] at h
        obtain ⟨_, rfl⟩ := h
        exact Nat.le_refl _
    · rw [atomF] at h
      split at h
      · next h1 =>
        have := sk_ne h1
        simp only [Option.some.injEq, Prod.mk.injEq] at h
        obtain ⟨_, rfl⟩ := h
        simp; omega
      · split at h
        · next h1 =>
          have := sk_ne h1
          simp only [Option.some.injEq, Prod.mk.injEq] at h
          obtain ⟨_, rfl⟩ := h
          simp; omega
        · split at h
          · next h1 =>
            have := sk_ne h1
            simp only [Option.some.injEq, Prod.mk.injEq] at h
            obtain ⟨_, rfl⟩ := h
            simp; omega
          · split at h
            · next h1 =>
              have := st_ne h1
              split at h
              · cases h
              · next t r' h2 =>
                have := i1 _ _ _ h2
                split at h
                · simp only [Option.some.injEq, Prod.mk.injEq] at h
                  obtain ⟨_, rfl⟩ := h
                  simp at *; omega
                · cases h
            · cases h

end Go.Proofs.YtofllmemmggapaaGreatDoor.Tp

/- Writing a type. No program in sight. -/
namespace Go.Proofs.YtofllmemmggapaaGreatDoor.Tp

def Ty.atomic (t : Ty) : Bool := t.kind == 1 || t.kind == 2 || t.kind == 3 && t.args.isEmpty
def paren (bare : Bool) (p : List UInt8) : List UInt8 := if bare then p else 40 :: (p ++ [41])
def forallT : List UInt8 := [102, 111, 114, 97, 108, 108, 32]

/-- a type's text, from its arguments' texts -/
def render (k : Int) (s : ByteArray) (n : Int) (args : List Ty) (ps : List (List UInt8)) : List UInt8 :=
  if k = 2 then 63 :: Lib.itoa n
  else if k = 3 then s.data.toList ++ (args.zip ps).flatMap fun x => 32 :: paren x.1.atomic x.2
  else if k = 4 then (match args, ps with
    | a :: _, p :: q :: _ => paren (decide (a.kind < 4)) p ++ [32, 45, 62, 32] ++ q
    | _, _ => [])
  else if k = 5 then (match args, ps with
    | a :: _, p :: _ => forallT ++ s.data.toList ++ (if a.kind = 5 then 32 :: p.drop 7 else [46, 32] ++ p)
    | _, _ => [])
  else s.data.toList

mutual
def printT : Ty → List UInt8
  | .mk k s n args => render k s n args (printL args)
def printL : List Ty → List (List UInt8)
  | [] => []
  | t :: ts => printT t :: printL ts
end

theorem printL_map (ts : List Ty) : printL ts = ts.map printT := by
  induction ts with
  | nil => rfl
  | cons t ts ih => rw [printL, ih]; rfl

theorem printT_eq (t : Ty) : printT t = render t.kind t.name t.n t.args (t.args.map printT) := by
  cases t with
  | mk k s n args => rw [printT, printL_map]; rfl

mutual
/-- made as a reader makes types -/
def Wf : Ty → Prop
  | .mk k _ n args => (k = 1 ∧ args = [] ∨ k = 2 ∧ args = [] ∧ 0 ≤ n ∧ n < 1000000000000000000 ∨ k = 3 ∨ k = 4 ∧ args.length = 2 ∨ k = 5 ∧ args.length = 1) ∧ WfL args
def WfL : List Ty → Prop
  | [] => True
  | t :: ts => Wf t ∧ WfL ts
end

theorem WfL_iff (ts : List Ty) : WfL ts ↔ ∀ t ∈ ts, Wf t := by
  induction ts with
  | nil => simp [WfL]
  | cons t ts ih => rw [WfL, ih]; simp

theorem wf_iff (t : Ty) : Wf t ↔ (t.kind = 1 ∧ t.args = [] ∨ t.kind = 2 ∧ t.args = [] ∧ 0 ≤ t.n ∧ t.n < 1000000000000000000 ∨ t.kind = 3 ∨ t.kind = 4 ∧ t.args.length = 2 ∨ t.kind = 5 ∧ t.args.length = 1) ∧ ∀ a ∈ t.args, Wf a := by
  cases t with
  | mk k s n args => rw [Wf, WfL_iff]; rfl

end Go.Proofs.YtofllmemmggapaaGreatDoor.Tp

/- Going through a type, in the order in which it is written. No program in sight. -/
namespace Go.Proofs.YtofllmemmggapaaGreatDoor.Tp

mutual
/-- how many nodes it has -/
def Ty.size : Ty → Nat
  | .mk _ _ _ args => sizeL args + 1
def sizeL : List Ty → Nat
  | [] => 0
  | t :: ts => t.size + sizeL ts
end

theorem Ty.size_eq (t : Ty) : t.size = sizeL t.args + 1 := by cases t; simp [Ty.size, Ty.args]
theorem sizeL_append (a b : List Ty) : sizeL (a ++ b) = sizeL a + sizeL b := by
  induction a with
  | nil => simp [sizeL]
  | cons t ts ih => simp only [List.cons_append, sizeL, ih]; omega
theorem sizeL_take (ts : List Ty) (i : Nat) (h : i < ts.length) : sizeL (ts.take (i + 1)) = sizeL (ts.take i) + ts[i].size := by
  rw [List.take_add_one, List.getElem?_eq_getElem h, sizeL_append]; simp [sizeL]
theorem size_arg (ts : List Ty) {a : Ty} (h : a ∈ ts) : a.size ≤ sizeL ts := by
  induction ts with
  | nil => cases h
  | cons t ts ih =>
    rw [sizeL]
    rcases List.mem_cons.1 h with rfl | h
    · omega
    · have := ih h; omega
theorem sizeL_take_le (ts : List Ty) (i : Nat) : sizeL (ts.take i) ≤ sizeL ts := by
  conv => rhs; rw [← List.take_append_drop i ts, sizeL_append]
  omega
theorem length_le_sizeL (ts : List Ty) : ts.length ≤ sizeL ts := by
  induction ts with
  | nil => simp
  | cons t ts ih => rw [sizeL, List.length_cons, t.size_eq]; omega

section
variable {G : Type} (step : G → Ty → List ByteArray → G)
mutual
def walkF : Ty → G → List ByteArray → G
  | .mk k s n args, g, ns => walkL args (step g (.mk k s n args) ns) (if k = 5 then s :: ns else ns)
def walkL : List Ty → G → List ByteArray → G
  | [], g, _ => g
  | t :: ts, g, ns => walkL ts (walkF t g ns) ns
end
end

theorem walkF_eq {G : Type} (step : G → Ty → List ByteArray → G) (t : Ty) (g : G) (ns : List ByteArray) : walkF step t g ns = walkL step t.args (step g t ns) (if t.kind = 5 then t.name :: ns else ns) := by
  cases t with
  | mk k s n args => rw [walkF]; rfl
theorem walkL_append {G : Type} (step : G → Ty → List ByteArray → G) (a b : List Ty) (g : G) (ns : List ByteArray) : walkL step (a ++ b) g ns = walkL step b (walkL step a g ns) ns := by
  induction a generalizing g with
  | nil => rfl
  | cons t ts ih => rw [List.cons_append, walkL, walkL, ih]
theorem walkL_take {G : Type} (step : G → Ty → List ByteArray → G) (ts : List Ty) (i : Nat) (h : i < ts.length) (g : G) (ns : List ByteArray) : walkL step (ts.take (i + 1)) g ns = walkF step ts[i] (walkL step (ts.take i) g ns) ns := by
  rw [List.take_add_one, List.getElem?_eq_getElem h, walkL_append]; rfl

/-- is a name among names? -/
def hasN (l : List ByteArray) (x : ByteArray) : Bool := l.any fun y => decide (y.data = x.data)
theorem hasN_iff (l : List ByteArray) (x : ByteArray) : hasN l x = true ↔ x ∈ l := by
  unfold hasN
  rw [List.any_eq_true]
  constructor
  · rintro ⟨y, hy, h⟩
    have : y = x := ByteArray.ext (by simpa using h)
    exact this ▸ hy
  · intro h
    exact ⟨x, h, by simp⟩

/-- one name more, if it is free and not yet there -/
def freeStep (out : List ByteArray) (x : Ty) (ns : List ByteArray) : List ByteArray := if x.kind == 1 && !hasN ns x.name && !hasN out x.name then out ++ [x.name] else out
/-- one number more -/
def metaStep (out : List Int) (x : Ty) (_ : List ByteArray) : List Int := if x.kind == 2 && !out.contains x.n then out ++ [x.n] else out

def freeT (t : Ty) : List ByteArray := walkF freeStep t [] []
def metasT (t : Ty) : List Int := walkF metaStep t [] []

end Go.Proofs.YtofllmemmggapaaGreatDoor.Tp

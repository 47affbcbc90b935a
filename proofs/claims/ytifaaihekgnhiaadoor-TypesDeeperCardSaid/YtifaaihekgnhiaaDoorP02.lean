/- Texts laid together: TyPlain. -/
import Derived.Test.YtifaaihekgnhiaaDoorP01

/- Types as trees; reading them from tokens. No program in sight. -/
namespace Go.Proofs.YtifaaihekgnhiaaDoor.Tp
open Lx

/-- A type: kind, name, number, arguments. -/
inductive Ty where
  | mk (kind : Int) (name : ByteArray) (n : Int) (args : List Ty) : Ty

def Ty.kind : Ty → Int | .mk k _ _ _ => k
def Ty.name : Ty → ByteArray | .mk _ s _ _ => s
def Ty.n : Ty → Int | .mk _ _ n _ => n
def Ty.args : Ty → List Ty | .mk _ _ _ a => a

theorem Ty.ind {P : Ty → Prop} (h : ∀ t, (∀ a ∈ t.args, P a) → P t) (t : Ty) : P t :=
  Ty.rec (motive_1 := P) (motive_2 := fun ts => ∀ a ∈ ts, P a) (fun k s n args ih => h (.mk k s n args) ih) (fun a ha => by cases ha)
    (fun t ts iht ihs a ha => by
      rcases List.mem_cons.1 ha with rfl | ha
      · exact iht
      · exact ihs a ha) t

mutual
/-- how deep it is -/
def Ty.depth : Ty → Nat
  | .mk _ _ _ args => depthL args + 1
def depthL : List Ty → Nat
  | [] => 0
  | t :: ts => max t.depth (depthL ts)
end

theorem Ty.depth_eq (t : Ty) : t.depth = depthL t.args + 1 := by cases t; simp [Ty.depth, Ty.args]
theorem depthL_append (a b : List Ty) : depthL (a ++ b) = max (depthL a) (depthL b) := by
  induction a with
  | nil => simp [depthL]
  | cons t ts ih => simp [depthL, ih, Nat.max_assoc]
theorem depthL_take (ts : List Ty) (i : Nat) (h : i < ts.length) : depthL (ts.take (i + 1)) = max (depthL (ts.take i)) ts[i].depth := by
  rw [List.take_add_one, List.getElem?_eq_getElem h, depthL_append]; simp [depthL]
theorem depth_arg (ts : List Ty) {a : Ty} (h : a ∈ ts) : a.depth ≤ depthL ts := by
  induction ts with
  | nil => cases h
  | cons t ts ih =>
    rw [depthL]
    rcases List.mem_cons.1 h with rfl | h
    · omega
    · have := ih h; omega

/-! ### reading -/
def bytes (l : List UInt8) : ByteArray := ⟨l.toArray⟩

/-- is the next token one of this kind? -/
def sk (l : List Tok) (k : Nat) : Bool := match l with
  | [] => false
  | t :: _ => t.kind == k
/-- is the next token one of this kind and text? -/
def st (l : List Tok) (k : Nat) (s : List UInt8) : Bool := match l with
  | [] => false
  | t :: _ => t.kind == k && t.text == s

def fa : List UInt8 := [102, 111, 114, 97, 108, 108]
def arrow : List UInt8 := [45, 62]
def dot : List UInt8 := [46]
def lpar : List UInt8 := [40]
def rpar : List UInt8 := [41]

/-- a number of digits -/
def numL (l : List UInt8) : Nat := l.foldl (fun n c => 10 * n + (c.toNat - 48)) 0

def tVar (s : List UInt8) : Ty := .mk 1 (bytes s) 0 []
def tMeta (s : List UInt8) : Ty := .mk 2 (bytes []) (numL s.tail) []
def tCon (s : List UInt8) (args : List Ty) : Ty := .mk 3 (bytes s) 0 args
def tFun (a b : Ty) : Ty := .mk 4 (bytes []) 0 [a, b]
def tAll (s : List UInt8) (t : Ty) : Ty := .mk 5 (bytes s) 0 [t]

/-- the names ahead -/
def varsL (l : List Tok) : List Tok := l.takeWhile fun t => t.kind == 1
def restL (l : List Tok) : List Tok := l.dropWhile fun t => t.kind == 1

def headText (l : List Tok) : List UInt8 := match l with
  | [] => []
  | t :: _ => t.text

/-- may an atom begin here? -/
def starts (l : List Tok) : Bool := sk l 1 || sk l 5 || sk l 2 || st l 6 lpar

mutual
def typF : Nat → List Tok → Option (Ty × List Tok)
  | 0, _ => none
  | n + 1, l =>
    if st l 3 fa then allF n l.tail
    else match appF n l with
      | none => none
      | some (a, r) => if st r 6 arrow then (match typF n r.tail with
          | none => none
          | some (b, r') => some (tFun a b, r')) else some (a, r)
def allF : Nat → List Tok → Option (Ty × List Tok)
  | 0, _ => none
  | n + 1, l =>
    if !st (restL l) 6 dot || (varsL l).isEmpty then none
    else match typF n (restL l).tail with
      | none => none
      | some (t, r) => some ((varsL l).foldr (fun v t => tAll v.text t) t, r)
def appF : Nat → List Tok → Option (Ty × List Tok)
  | 0, _ => none
  | n + 1, l => if sk l 2 then argsF n (headText l) [] l.tail else atomF n l
def argsF : Nat → List UInt8 → List Ty → List Tok → Option (Ty × List Tok)
  | 0, _, _, _ => none
  | n + 1, s, acc, l =>
    if starts l then (match atomF n l with
      | none => none
      | some (x, r) => argsF n s (acc ++ [x]) r) else some (tCon s acc, l)
def atomF : Nat → List Tok → Option (Ty × List Tok)
  | 0, _ => none
  | n + 1, l =>
    if sk l 1 then some (tVar (headText l), l.tail)
    else if sk l 2 then some (tCon (headText l) [], l.tail)
    else if sk l 5 then some (tMeta (headText l), l.tail)
    else if st l 6 lpar then (match typF n l.tail with
      | none => none
      | some (t, r) => if st r 6 rpar then some (t, r.tail) else none) else none
end

theorem sk_ne {l : List Tok} {k : Nat} (h : sk l k = true) : 0 < l.length := by cases l <;> simp [sk] at h ⊢
theorem st_ne {l : List Tok} {k : Nat} {s : List UInt8} (h : st l k s = true) : 0 < l.length := by cases l <;> simp [st] at h ⊢
theorem rest_le (l : List Tok) : (restL l).length ≤ l.length := by
  unfold restL
  induction l with
  | nil => simp
  | cons t l ih => rw [List.dropWhile_cons]; split <;> simp <;> omega

/-- what is left is shorter -/
theorem shorter : ∀ n : Nat,
    (∀ l x r, typF n l = some (x, r) → r.length < l.length) ∧ (∀ l x r, allF n l = some (x, r) → r.length < l.length) ∧
    (∀ l x r, appF n l = some (x, r) → r.length < l.length) ∧ (∀ s acc l x r, argsF n s acc l = some (x, r) → r.length ≤ l.length) ∧
    (∀ l x r, atomF n l = some (x, r) → r.length < l.length) := by
  intro n
  induction n with
  | zero => exact ⟨fun _ _ _ h => by simp [typF] at h, fun _ _ _ h => by simp [allF] at h, fun _ _ _ h => by simp [appF] at h, fun _ _ _ _ _ h => by simp [argsF] at h, fun _ _ _ h => by simp [atomF] at h⟩
  | succ n ih =>
    obtain ⟨i1, i2, i3, i4, i5⟩ := ih
    refine ⟨fun l x r h => ?_, fun l x r h => ?_, fun l x r h => ?_, fun s acc l x r h => ?_, fun l x r h => ?_⟩
    · rw [typF] at h
      split at h
      · next h1 => have := i2 _ _ _ h; have := st_ne h1; simp at *; omega
      · split at h
        · cases h
        · next a r' h2 =>
          have e2 := i3 _ _ _ h2
          split at h
          · next h3 =>
            split at h
            · cases h
            · next b r'' h4 =>
              have := i1 _ _ _ h4
              simp only [Option.some.injEq, Prod.mk.injEq] at h
              obtain ⟨_, rfl⟩ := h
              simp at this; omega
          · simp only [Option.some.injEq, Prod.mk.injEq] at h
            obtain ⟨_, rfl⟩ := h
            exact e2
    · rw [allF] at h
      split at h
      · cases h
      · next h1 =>
        split at h
        · cases h
        · next t r' h2 =>
          have := i1 _ _ _ h2
          simp only [Option.some.injEq, Prod.mk.injEq] at h
          obtain ⟨_, rfl⟩ := h
          have := rest_le l
          simp at *; omega
    · rw [appF] at h
      split at h
      · next h1 => have := i4 _ _ _ _ _ h; have := sk_ne h1; simp at *; omega
      · exact i5 _ _ _ h
    · rw [argsF] at h
      split at h
      · split at h
        · cases h
        · next x' r' h2 => have := i5 _ _ _ h2; have := i4 _ _ _ _ _ h; omega
      · simp only [Option.some.injEq, Prod.mk.injEq] at h
        obtain ⟨_, rfl⟩ := h
        exact Nat.le_refl _
    · rw [atomF] at h
      split at h
      · next h1 =>
        have := sk_ne h1
        simp only [Option.some.injEq, Prod.mk.injEq] at h
        obtain ⟨_, rfl⟩ := h
        simp; omega
      · split at h
        · next h1 =>
          have := sk_ne h1
          simp only [Option.some.injEq, Prod.mk.injEq] at h
          obtain ⟨_, rfl⟩ := h
          simp; omega
        · split at h
          · next h1 =>
            have := sk_ne h1
            simp only [Option.some.injEq, Prod.mk.injEq] at h
            obtain ⟨_, rfl⟩ := h
            simp; omega
          · split at h
            · next h1 =>
              have := st_ne h1
              split at h
              · cases h
              · next t r' h2 =>
                have := i1 _ _ _ h2
                split at h
                · simp only [Option.some.injEq, Prod.mk.injEq] at h
                  obtain ⟨_, rfl⟩ := h
                  simp at *; omega
                · cases h
            · cases h

end Go.Proofs.YtifaaihekgnhiaaDoor.Tp

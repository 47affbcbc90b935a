/- Texts laid together: TyPrint, TyAtomic. -/
import Derived.Test.YtifaaihekgnhiaaDoorP02
import Derived.Lib.ItoaMem
import Derived.Test.YtifaaihekgnhiaaDoorP09

/- Writing a type. No program in sight. -/
namespace Go.Proofs.YtifaaihekgnhiaaDoor.Tp

def Ty.atomic (t : Ty) : Bool := t.kind == 1 || t.kind == 2 || t.kind == 3 && t.args.isEmpty
def paren (bare : Bool) (p : List UInt8) : List UInt8 := if bare then p else 40 :: (p ++ [41])
def forallT : List UInt8 := [102, 111, 114, 97, 108, 108, 32]

/-- a type's text, from its arguments' texts -/
def render (k : Int) (s : ByteArray) (n : Int) (args : List Ty) (ps : List (List UInt8)) : List UInt8 :=
  if k = 2 then 63 :: Lib.itoa n
  else if k = 3 then s.data.toList ++ (args.zip ps).flatMap fun x => 32 :: paren x.1.atomic x.2
  else if k = 4 then (match args, ps with
    | a :: _, p :: q :: _ => paren (decide (a.kind < 4)) p ++ [32, 45, 62, 32] ++ q
    | _, _ => [])
  else if k = 5 then (match args, ps with
    | a :: _, p :: _ => forallT ++ s.data.toList ++ (if a.kind = 5 then 32 :: p.drop 7 else [46, 32] ++ p)
    | _, _ => [])
  else s.data.toList

mutual
def printT : Ty → List UInt8
  | .mk k s n args => render k s n args (printL args)
def printL : List Ty → List (List UInt8)
  | [] => []
  | t :: ts => printT t :: printL ts
end

theorem printL_map (ts : List Ty) : printL ts = ts.map printT := by
  induction ts with
  | nil => rfl
  | cons t ts ih => rw [printL, ih]; rfl

theorem printT_eq (t : Ty) : printT t = render t.kind t.name t.n t.args (t.args.map printT) := by
  cases t with
  | mk k s n args => rw [printT, printL_map]; rfl

mutual
/-- made as a reader makes types -/
def Wf : Ty → Prop
  | .mk k _ n args => (k = 1 ∧ args = [] ∨ k = 2 ∧ args = [] ∧ 0 ≤ n ∧ n < 1000000000000000000 ∨ k = 3 ∨ k = 4 ∧ args.length = 2 ∨ k = 5 ∧ args.length = 1) ∧ WfL args
def WfL : List Ty → Prop
  | [] => True
  | t :: ts => Wf t ∧ WfL ts
end

theorem WfL_iff (ts : List Ty) : WfL ts ↔ ∀ t ∈ ts, Wf t := by
  induction ts with
  | nil => simp [WfL]
  | cons t ts ih => rw [WfL, ih]; simp

theorem wf_iff (t : Ty) : Wf t ↔ (t.kind = 1 ∧ t.args = [] ∨ t.kind = 2 ∧ t.args = [] ∧ 0 ≤ t.n ∧ t.n < 1000000000000000000 ∨ t.kind = 3 ∨ t.kind = 4 ∧ t.args.length = 2 ∨ t.kind = 5 ∧ t.args.length = 1) ∧ ∀ a ∈ t.args, Wf a := by
  cases t with
  | mk k s n args => rw [Wf, WfL_iff]; rfl

end Go.Proofs.YtifaaihekgnhiaaDoor.Tp

/- The walk of atomic. -/
namespace Go.Proofs.YtifaaihekgnhiaaDoor.Tp
open Go.RowKit

set_option maxHeartbeats 800000 in
theorem atomic_any (t : Ty) (w : World) (a : Option Addr) (c : Nat) : Calls Tryd.prog 27 #[tv t a c] w fun e w' => e = .returned (.bool t.atomic) ∧ Below w.heap.size w w' := by
  have e : t.atomic = (t.kind == 1 || t.kind == 2 || t.kind == 3 && decide (t.args.length = 0)) := by
    unfold Ty.atomic
    cases t.args <;> simp
  have E := Lib.hid e
  have b4 := B4.new w (.int .i64 t.kind) (.string t.name) (.int .i64 t.n) (.slice a t.args.length c)
  have c0 := b4.c0
  have c3 := b4.c3
  have HZ := Lib.hid ((Below.refl w.heap.size w).alloc (Nat.le_refl _) (.cells #[.int .i64 t.kind, .string t.name, .int .i64 t.n, .slice a t.args.length c] 25))
  clear e b4
  unfold tv
  generalize t.args.length = n at *
  by_cases h1 : t.kind = 1
  · have z1 : (t.kind == 1) = true := by rw [beq_iff_eq]; exact h1
    have F : Hid (t.atomic = true) := Lib.hid (by rw [E.out, z1]; rfl)
    clear h1
    go_enter Tryd.func27, Tryd.ntmps27
    go_wp2
    go_ret
    rw [F.out]
    exact ⟨rfl, HZ.out⟩
  · have z1 : (t.kind == 1) = false := by rw [beq_eq_false_iff_ne]; exact h1
    by_cases h2 : t.kind = 2
    · have z2 : (t.kind == 2) = true := by rw [beq_iff_eq]; exact h2
      have F : Hid (t.atomic = true) := Lib.hid (by rw [E.out, z1, z2]; rfl)
      clear h1 h2
      go_enter Tryd.func27, Tryd.ntmps27
      go_wp2
      go_ret
      rw [F.out]
      exact ⟨rfl, HZ.out⟩
    · have z2 : (t.kind == 2) = false := by rw [beq_eq_false_iff_ne]; exact h2
      by_cases h3 : t.kind = 3
      · have z3 : (t.kind == 3) = true := by rw [beq_iff_eq]; exact h3
        have F : Hid (t.atomic = ((n : Int) == 0)) := Lib.hid (by
          rw [E.out, z1, z2, z3]
          by_cases h0 : n = 0
          · subst h0; rfl
          · have : ((n : Int) == 0) = false := by rw [beq_eq_false_iff_ne]; omega
            rw [this]; simp [h0])
        clear h1 h2 h3
        cases hz : ((n : Int) == 0)
        · go_enter Tryd.func27, Tryd.ntmps27
          go_wp2
          go_ret
          rw [F.out, hz]
          exact ⟨rfl, HZ.out⟩
        · go_enter Tryd.func27, Tryd.ntmps27
          go_wp2
          go_ret
          rw [F.out, hz]
          exact ⟨rfl, HZ.out⟩
      · have z3 : (t.kind == 3) = false := by rw [beq_eq_false_iff_ne]; exact h3
        have F : Hid (t.atomic = false) := Lib.hid (by rw [E.out, z1, z2, z3]; rfl)
        clear h1 h2 h3
        go_enter Tryd.func27, Tryd.ntmps27
        go_wp2
        go_ret
        rw [F.out]
        exact ⟨rfl, HZ.out⟩

end Go.Proofs.YtifaaihekgnhiaaDoor.Tp

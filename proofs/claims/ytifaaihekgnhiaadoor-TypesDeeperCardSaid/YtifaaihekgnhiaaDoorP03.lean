/- Texts laid together: TyMem, TyDepth. -/
import Derived.Test.YtifaaihekgnhiaaDoorRows
import Derived.Test.YtifaaihekgnhiaaDoorP02
import Derived.WalkKit
import Derived.WalkLawsBesides
import Derived.WalkSpells
import Derived.Lib.Hide

/- Types as trees, and how they lie in memory. -/
namespace Go.Proofs.YtifaaihekgnhiaaDoor.Tp
open Go.RowKit

/-- The four cells of a type's struct from an address on. -/
def Four (w : World) (b o : Nat) (c0 c1 c2 c3 : Value) : Prop :=
  w.cell? ⟨b, o, none⟩ = some c0 ∧ w.cell? ⟨b, o + 1, none⟩ = some c1 ∧ w.cell? ⟨b, o + 2, none⟩ = some c2 ∧ w.cell? ⟨b, o + 3, none⟩ = some c3

/-- A slice value that holds the arguments ts, all cells in blocks of S. -/
inductive ArgsAt (S : Nat → Prop) (w : World) : Value → List Ty → Prop
  | nil (a : Option Addr) (cap : Nat) : ArgsAt S w (.slice a 0 cap) []
  | mk (b off cap : Nat) (ts : List Ty) (sv : Nat → Value) (hb : S b) (hl : ts.length ≤ 9223372036854775807)
      (hc : ∀ i (h : i < ts.length), Four w b (off + i * 4) (.int .i64 ts[i].kind) (.string ts[i].name) (.int .i64 ts[i].n) (sv i))
      (ha : ∀ i (h : i < ts.length), ArgsAt S w (sv i) ts[i].args) : ArgsAt S w (.slice (some ⟨b, off, none⟩) ts.length cap) ts

/-- A struct value that holds the type t. -/
def TyAt (S : Nat → Prop) (w : World) (v : Value) (t : Ty) : Prop := ∃ sv, v = .agg #[.int .i64 t.kind, .string t.name, .int .i64 t.n, sv] ∧ ArgsAt S w sv t.args

/-- blocks below n; blocks from m on below n -/
def Lt (n : Nat) (b : Nat) : Prop := b < n
def In (m n : Nat) (b : Nat) : Prop := m ≤ b ∧ b < n

theorem Four.keep {A B : World} {b o : Nat} (hb : B.heap[b]? = A.heap[b]?) {c0 c1 c2 c3 : Value} (f : Four A b o c0 c1 c2 c3) : Four B b o c0 c1 c2 c3 := by
  have k : ∀ o, B.cell? ⟨b, o, none⟩ = A.cell? ⟨b, o, none⟩ := fun o => World.cell?_of_block hb
  exact ⟨(k _).trans f.1, (k _).trans f.2.1, (k _).trans f.2.2.1, (k _).trans f.2.2.2⟩

theorem ArgsAt.keep {S : Nat → Prop} {A B : World} (h : ∀ b, S b → B.heap[b]? = A.heap[b]?) {v : Value} {ts : List Ty} (ha : ArgsAt S A v ts) : ArgsAt S B v ts := by
  induction ha with
  | nil a cap => exact .nil a cap
  | mk b off cap ts sv hb hl hc _ ih => exact .mk b off cap ts sv hb hl (fun i hi => (hc i hi).keep (h b hb)) ih

theorem ArgsAt.mono {S S' : Nat → Prop} (hS : ∀ b, S b → S' b) {A : World} {v : Value} {ts : List Ty} (ha : ArgsAt S A v ts) : ArgsAt S' A v ts := by
  induction ha with
  | nil a cap => exact .nil a cap
  | mk b off cap ts sv hb hl hc _ ih => exact .mk b off cap ts sv (hS b hb) hl hc ih

theorem TyAt.keep {S : Nat → Prop} {A B : World} (h : ∀ b, S b → B.heap[b]? = A.heap[b]?) {v : Value} {t : Ty} (ha : TyAt S A v t) : TyAt S B v t := by
  obtain ⟨sv, rfl, h1⟩ := ha; exact ⟨sv, rfl, h1.keep h⟩
theorem TyAt.mono {S S' : Nat → Prop} (hS : ∀ b, S b → S' b) {A : World} {v : Value} {t : Ty} (ha : TyAt S A v t) : TyAt S' A v t := by
  obtain ⟨sv, rfl, h1⟩ := ha; exact ⟨sv, rfl, h1.mono hS⟩

theorem ArgsAt.form {S : Nat → Prop} {w : World} {v : Value} {ts : List Ty} (h : ArgsAt S w v ts) : ∃ a cap, v = .slice a ts.length cap ∧ ts.length ≤ 9223372036854775807 := by
  cases h with
  | nil a cap => exact ⟨a, cap, rfl, by simp⟩
  | mk b off cap ts sv hb hl hc ha => exact ⟨_, cap, rfl, hl⟩

/-- The i-th argument. -/
theorem ArgsAt.at_ {S : Nat → Prop} {w : World} {a : Option Addr} {len cap : Nat} {ts : List Ty} (h : ArgsAt S w (.slice a len cap) ts) {i : Nat} (hi : i < ts.length) :
    ∃ b off a' cap', a = some ⟨b, off, none⟩ ∧ S b ∧ Four w b (off + i * 4) (.int .i64 ts[i].kind) (.string ts[i].name) (.int .i64 ts[i].n) (.slice a' ts[i].args.length cap') ∧ ArgsAt S w (.slice a' ts[i].args.length cap') ts[i].args := by
  cases h with
  | nil a cap => simp at hi
  | mk b off cap ts sv hb hl hc ha =>
    obtain ⟨a', cap', e, _⟩ := (ha i hi).form
    have h1 := hc i hi
    have h2 := ha i hi
    rw [e] at h1 h2
    exact ⟨b, off, a', cap', rfl, hb, h1, h2⟩

end Go.Proofs.YtifaaihekgnhiaaDoor.Tp

/- Depth, walked. -/
namespace Go.Proofs.YtifaaihekgnhiaaDoor.Tp
open Go.RowKit

def IntPost (w : World) (x : Int) (e : Ending) (w' : World) : Prop := e = .returned (.int .i64 x) ∧ Below w.heap.size w w'

theorem ret_int {k : IntKind} {a b : Int} (h : a = b) : Ending.returned (.int k a) = .returned (.int k b) := by rw [h]

set_option maxHeartbeats 800000 in
theorem depth_any : ∀ (t : Ty) (S : Nat → Prop) (v : Value) (w : World), TyAt S w v t → (∀ b, S b → b < w.heap.size) → t.depth ≤ 100000 →
    Calls Tryd.prog 17 #[v] w (IntPost w t.depth) := by
  intro t
  induction t using Ty.ind with
  | h t ih =>
    intro S v w hT hn hd
    obtain ⟨sv, rfl, hA⟩ := hT
    obtain ⟨a, cap, rfl, hl⟩ := hA.form
    have hde := t.depth_eq
    have IH := Lib.hid ih
    have AH := Lib.hid hA
    have HN := Lib.hid hn
    have DE := Lib.hid hde
    clear ih hA hde hn
    go_enter Tryd.func17, Tryd.ntmps17
    go_wp2
    go_loopw [3, 9] (fun mv iv wr => ∃ i : Nat, iv = .int .i64 i ∧ i ≤ t.args.length ∧ mv = .int .i64 (depthL (t.args.take i) : Nat) ∧ Below w.heap.size w wr) (fun _ iv _ => t.args.length - (intOf iv).toNat)
    case atStart => exact ⟨0, rfl, Nat.zero_le _, by simp [depthL], (Below.refl _ _).alloc (Nat.le_refl _) _⟩
    case round =>
      obtain ⟨i, rfl, hil, rfl, hB⟩ := hrel
      have z0 : (0 : Int) ≤ (i : Int) := by omega
      have BH := Lib.hid hB
      by_cases hi : i < t.args.length
      · have z1 : (i : Int) < (t.args.length : Int) := by omega
        obtain ⟨b, off, a', cap', rfl, hb, hf, hs⟩ := AH.out.at_ hi
        have hn := HN.out
        have hbl := hn b hb
        obtain ⟨f0, f1, f2, f3⟩ := hf.keep (hB.block b hbl)
        have hm := List.getElem_mem hi
        have hdi := depth_arg _ hm
        have hdt := depthL_take _ _ hi
        have C := fun (W : World) (hb : Below w.heap.size w W) => IH.out _ hm S (.agg #[.int .i64 t.args[i].kind, .string t.args[i].name, .int .i64 t.args[i].n, .slice a' t.args[i].args.length cap']) W ⟨_, rfl, hs.keep fun b hS => hb.block b (hn b hS)⟩ (fun b hS => Nat.lt_of_lt_of_le (hn b hS) hb.size) (by have := DE.out; omega)
        have CH := Lib.hid C
        have DT := Lib.hid hdt
        have hdd : t.args[i].depth ≤ 100000 := by have := DE.out; omega
        have hdl : depthL (t.args.take i) ≤ depthL t.args := by
          conv => rhs; rw [← List.take_append_drop i t.args, depthL_append]
          omega
        have hdl2 : depthL (t.args.take i) ≤ 100000 := by have := DE.out; omega
        have hsz := hB.size
        clear hf hs hB C hm hdi hdt hdl hn hb
        generalize t.args[i] = x at *
        generalize depthL (t.args.take i) = m at *
        go_wp2_with fail
        refine (CH.out _ (BH.out.alloc (by omega) _)).mono ?_
        rintro e w4 ⟨rfl, B4⟩
        have B5 := Lib.hid ((BH.out.alloc (by omega) (.cells #[.int .i64 x.kind, .string x.name, .int .i64 x.n, .slice a' x.args.length cap'] 25)).trans (B4.mono (by simp; omega)))
        have em : (if m < x.depth then (x.depth : Int) else (m : Int)) = ((max m x.depth : Nat) : Int) := by split <;> omega
        clear B4
        go_wp2
        go_roundw
        case rel => exact ⟨i + 1, by go_num, by omega, by rw [DT.out], B5.out⟩
        case measure => simp [intOf]; omega
      · obtain rfl : i = t.args.length := by omega
        have hdl2 : depthL t.args ≤ 100000 := by have := DE.out; omega
        clear hB
        go_wp2
        go_ret
        exact ⟨ret_int (by rw [DE.out]; omega), BH.out⟩

end Go.Proofs.YtifaaihekgnhiaaDoor.Tp

/- Texts laid together: TyPutT. -/
import Derived.Test.YtofllmemmggapaaGreatDoorP31

/- The walk of Put: what stands behind a name that is taken. -/
namespace Go.Proofs.YtofllmemmggapaaGreatDoor.Tp
open Go.RowKit

/-- three rows of names, laid in a row of rows -/
theorem three_strs {W w1 w2 : World} {lo1 lo2 b3 : Nat} {v1 v2 : Value} {l1 l2 : List ByteArray} {p q : ByteArray} (o1 : w1.ownsRow lo1 9 1 v1 l1.length (l1.map Value.string)) (h1 : l1.length ≤ 1099511627776) (B1 : Below w1.heap.size w1 W) (o2 : w2.ownsRow lo2 9 1 v2 l2.length (l2.map Value.string)) (h2 : l2.length ≤ 1099511627776) (B2 : Below w2.heap.size w2 W)
    (h3 : W.heap[b3]? = some (.cells #[.string p, .string q] 9 (0, 0))) : ∀ (j : Nat) (h : j < [v1, v2, Value.slice (some ⟨b3, 0, none⟩) 2 2].length) (h' : j < [l1, l2, [p, q]].length), StrsAt (fun b => b < W.heap.size) W ([v1, v2, Value.slice (some ⟨b3, 0, none⟩) 2 2][j]'h) ([l1, l2, [p, q]][j]'h') := by
  intro j h h'
  match j, h with
  | 0, _ => exact ((StrsAt.of_own o1 h1).keep fun b hb => B1.block b (o1.lt b hb).2).mono fun b hb => Nat.lt_of_lt_of_le (o1.lt b hb).2 B1.size
  | 1, _ => exact ((StrsAt.of_own o2 h2).keep fun b hb => B2.block b (o2.lt b hb).2).mono fun b hb => Nat.lt_of_lt_of_le (o2.lt b hb).2 B2.size
  | 2, _ =>
    refine ⟨_, 2, rfl, Nat.le_refl _, by simp, by simp, .inr ⟨b3, 0, rfl, (Array.getElem?_eq_some_iff.1 h3).1, fun i hi => ?_⟩⟩
    match i, hi with
    | 0, _ => exact cell_of_row W b3 0 _ _ _ h3
    | 1, _ => exact cell_of_row W b3 1 _ _ _ h3

theorem concat_three {X w1 w2 : World} {lo1 lo2 b3 N : Nat} {v1 v2 : Value} {l1 l2 L : List ByteArray} {p q : ByteArray} (hL : l1 ++ l2 ++ [p, q] = L) (hN : X.heap.size = N) (o1 : w1.ownsRow lo1 9 1 v1 l1.length (l1.map Value.string)) (B1 : Below w1.heap.size w1 X) (o2 : w2.ownsRow lo2 9 1 v2 l2.length (l2.map Value.string)) (B2 : Below w2.heap.size w2 X)
    (h3 : X.heap[b3]? = some (.cells #[.string p, .string q] 9 (0, 0))) (hl : l1.length + l2.length + 2 ≤ 1099511627776) :
    Calls Tryz.prog 85 #[.slice (some ⟨N, 0, none⟩) 3 3] (X.alloc (.cells #[v1, v2, .slice (some ⟨b3, 0, none⟩) 2 2] 22)) (ConcatPost (X.alloc (.cells #[v1, v2, .slice (some ⟨b3, 0, none⟩) 2 2] 22)) L) := by
  subst hN hL
  have ha := (Below.refl X.heap.size X).alloc (Nat.le_refl _) (.cells #[v1, v2, .slice (some ⟨b3, 0, none⟩) 2 2] 22)
  have hs := three_strs o1 (by omega) (B1.trans (ha.mono B1.size)) o2 (by omega) (B2.trans (ha.mono B2.size)) ((ha.block b3 (Array.getElem?_eq_some_iff.1 h3).1).trans h3)
  have hfl : [l1, l2, [p, q]].flatten = l1 ++ l2 ++ [p, q] := by simp
  have hb := heap_alloc_new X (.cells #[v1, v2, .slice (some ⟨b3, 0, none⟩) 2 2] 22)
  have := concat_any (fun b => b < (X.alloc (.cells #[v1, v2, .slice (some ⟨b3, 0, none⟩) 2 2] 22)).heap.size) X.heap.size 0 3 [v1, v2, .slice (some ⟨b3, 0, none⟩) 2 2] [l1, l2, [p, q]] _ rfl rfl (by omega) (fun j hj => by
    rw [Nat.zero_add]
    match j, hj with
    | 0, _ => exact cell_of_row _ _ 0 _ _ _ hb
    | 1, _ => exact cell_of_row _ _ 1 _ _ _ hb
    | 2, _ => exact cell_of_row _ _ 2 _ _ _ hb) (by simp) hs (fun b h => h) (by rw [hfl]; simp; omega) (by rw [hfl]; simp; omega)
  rw [hfl] at this
  exact this

/-- what stands behind the call of with in Put -/
def PutTail (S : Nat → Prop) (y : Ty) (w : World) (e : Ending) (W2 : World) : Prop :=
  ∃ a c, e = .returned (tv y a c) ∧ ArgsAt (fun b => S b ∨ w.heap.size + 4 ≤ b ∧ b < W2.heap.size) W2 (.slice a y.args.length c) y.args ∧ Below w.heap.size w W2 ∧ B4 W2 (w.heap.size + 3) (.int .i64 0) (.string ⟨#[]⟩) (.int .i64 0) (.slice none 0 0)

theorem put_tail (d : Nat) (ih : PutSaid d) (nm fn : ByteArray) (u y : Ty) (S : Nat → Prop) (ua a9 : Option Addr) (uc c9 : Nat) (k : Int) (s : ByteArray) (m : Int) (sl : Value) (w w9 : World) (R : PutMem k s m sl nm u ua uc w w9) (hg : Good y) (hgu : Good u) (h1 : 1 ≤ fn.size) (h2 : fn.size ≤ 64) (hd : y.depth ≤ d) (hs : y.size ≤ 1073741824) (hsu : u.size ≤ 1073741824)
    (hA : ArgsAt (fun b => S b ∨ w.heap.size + 4 ≤ b ∧ b < w9.heap.size) w9 (.slice a9 y.args.length c9) y.args) (hU : ArgsAt S w (.slice ua u.args.length uc) u.args) (hS : ∀ b, S b → b < w.heap.size) (hT : Tab w) :
    Calls Tryz.prog 64 #[.agg #[.int .i64 5, .string fn, .int .i64 0, .slice (some ⟨w9.heap.size, 0, none⟩) 1 1], .func (.func 86) #[] #[.pointer (some ⟨w.heap.size + 1, 0, none⟩), .pointer (some ⟨w.heap.size + 1 + 1, 0, none⟩)]] (((((w9.alloc (.cells #[.int .i64 y.kind, .string y.name, .int .i64 y.n, .slice a9 y.args.length c9] 26)).setCell ⟨w.heap.size, 0, none⟩ (.int .i64 5)).setCell ⟨w.heap.size, 1, none⟩ (.string fn)).setCell ⟨w.heap.size, 2, none⟩ (.int .i64 0)).setCell ⟨w.heap.size, 3, none⟩ (.slice (some ⟨w9.heap.size, 0, none⟩) 1 1)) (PutTail S (withT (tAllB fn y) [PutF d nm u y]) w) := by
  have hR := (R.low ((Below.refl _ _).alloc (Nat.le_refl _) (.cells #[.int .i64 y.kind, .string y.name, .int .i64 y.n, .slice a9 y.args.length c9] 26))).sett 5 fn 0 (.slice (some ⟨w9.heap.size, 0, none⟩) 1 1)
  have hs10 := same_set4 (w9.alloc (.cells #[.int .i64 y.kind, .string y.name, .int .i64 y.n, .slice a9 y.args.length c9] 26)) w.heap.size (.int .i64 5) (.string fn) (.int .i64 0) (.slice (some ⟨w9.heap.size, 0, none⟩) 1 1)
  generalize (((((w9.alloc (.cells #[.int .i64 y.kind, .string y.name, .int .i64 y.n, .slice a9 y.args.length c9] 26)).setCell ⟨w.heap.size, 0, none⟩ (.int .i64 5)).setCell ⟨w.heap.size, 1, none⟩ (.string fn)).setCell ⟨w.heap.size, 2, none⟩ (.int .i64 0)).setCell ⟨w.heap.size, 3, none⟩ (.slice (some ⟨w9.heap.size, 0, none⟩) 1 1)) = W10 at *
  have hz10 : W10.heap.size = w9.heap.size + 1 := hs10.size.trans (by simp)
  have hR9 := R.size
  have hA10 : ArgsAt (fun b => S b ∨ w.heap.size + 4 ≤ b ∧ b < w9.heap.size + 1) W10 (.slice (some ⟨w9.heap.size, 0, none⟩) 1 1) [y] := by
    refine args_one (g := w9.heap.size) ((hs10.off _ (by omega)).trans (heap_alloc_new w9 _)) rfl rfl rfl (.inr ⟨by omega, by omega⟩) ((hA.keep fun b hb2 => ?_).mono fun b hb2 => hb2.imp id fun h => ⟨h.1, by omega⟩)
    have hlt : b < w9.heap.size ∧ b ≠ w.heap.size := by
      rcases hb2 with h | h
      · have := hS b h; omega
      · omega
    exact (hs10.off b hlt.2).trans (heap_alloc_old w9 _ hlt.1)
  have hsl : sizeL (tAllB fn y).args = y.size := by simp [tAllB, Ty.args, sizeL]
  have CW := put_call d ih nm u (tAllB fn y) (fun b => S b ∨ w.heap.size + 4 ≤ b ∧ b < w9.heap.size + 1) S (some ⟨w9.heap.size, 0, none⟩) ua 1 uc _ _ _ _ w W10 hR (good_all h1 h2 hg) hgu (fun u hu => by obtain rfl := List.mem_singleton.1 hu; exact hd) (by rw [hsl]; omega) hsu hA10 hU (fun b h => by
    rcases h with h | h
    · have := hS b h; omega
    · omega) hS (fun b h => .inl h) hT
  refine CW.mono fun e W2 ⟨a2, c2, he, hA2, hb2⟩ => ⟨a2, c2, he, hA2.mono fun b h => ?_, hR.hz.trans (hb2.mono hR.hz.size), hR.q4.low hb2⟩
  have := hb2.size
  rcases h with (h | h) | h
  · exact .inl h
  · exact .inr ⟨h.1, by omega⟩
  · exact .inr ⟨by omega, h.2⟩

end Go.Proofs.YtofllmemmggapaaGreatDoor.Tp

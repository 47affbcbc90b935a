/- Texts laid together: TyLater, TyPrintB. -/
import Derived.Lib.QuietBelow
import Derived.BigQuiet
import Derived.Test.YtifaaihekgnhiaaDoorP13

/- A region that draws its order, whose operations read and whose callees leave what was there as it was: walked once. -/
namespace Go.Proofs.YtifaaihekgnhiaaDoor.Tp
open Go.RowKit Go.Sort

/-- w, after some draws, with some blocks laid behind it -/
def later (w : World) (p : Regrown) : World := grow (redrawn w p.d) p.os

theorem later_below (w : World) (p : Regrown) : Below w.heap.size w (later w p) := below_regrown w p.d p.os

theorem later_cell {w : World} {a : Addr} {v : Value} (h : w.cell? a = some v) (p : Regrown) : (later w p).cell? a = some v := cell_regrown h p.d p.os

theorem later_of {P : Program} {f : FuncId} {args : Array Value} {w : World} {p : Regrown} {v : Value}
    (h : Calls P f args (later w p) fun e w' => e = .returned v ∧ Below (later w p).heap.size (later w p) w') : Calls P f args (later w p) fun e w'' => e = .returned v ∧ ∃ q : Regrown, w'' = later w q :=
  Calls.regrown_of h

theorem later_same {P : Program} {f : FuncId} {args : Array Value} {w : World} {p : Regrown} {v : Value}
    (h : Calls P f args (later w p) fun e w' => e = .returned v ∧ later w p = w') : Calls P f args (later w p) fun e w'' => e = .returned v ∧ ∃ q : Regrown, w'' = later w q :=
  h.mono fun _ _ ⟨he, hw⟩ => ⟨he, p, hw.symm⟩

theorem wp_region_later {P : Program} {id : Nat} {Q : Exit → Act → World → Prop} {a : Act} {w : World} {l : List Oper} (hm : P.follows .mixedOrders = true) (hB : Region.lexB .any l.toArray = true)
    (h : wpQuiet P l.toArray (fun w' => ∃ p : Regrown, w' = later w p) (fun a' => ∀ w', (∃ p : Regrown, w' = later w p) → Q .normal a' w') l a) : (Code.region id l.toArray true).wp P Q a w :=
  wp_region_quiet_below hm hB h

end Go.Proofs.YtifaaihekgnhiaaDoor.Tp

/- The walk of Print: functions. -/
namespace Go.Proofs.YtifaaihekgnhiaaDoor.Tp
open Go.RowKit Go.Sort

set_option maxHeartbeats 1600000 in
theorem print_fun (t : Ty) (hk : t.kind = 4) (x y : Ty) (hxy : t.args = [x, y]) (ihx : PrintSaid x) (ihy : PrintSaid y) : PrintSaid t := by
  intro S a c w hA hS hw hl ht
  have hz := (Below.refl w.heap.size w).alloc (Nat.le_refl _) (.cells #[.int .i64 t.kind, .string t.name, .int .i64 t.n, .slice a t.args.length c] 25)
  have E : Hid (printT t = paren (decide (x.kind < 4)) (printT x) ++ [32, 45, 62, 32] ++ printT y) := Lib.hid (by rw [printT_eq, hk, hxy]; rfl)
  have hlen : 32 * 0 + (paren (decide (x.kind < 4)) (printT x)).length + 4 + (printT y).length ≤ 1099511627776 := by rw [E.out] at hl; simp at hl; omega
  have hpx : (printT x).length ≤ (paren (decide (x.kind < 4)) (printT x)).length := by unfold paren; split <;> simp; omega
  have hwf := (wf_iff t).1 hw
  have hwx : Wf x := hwf.2 x (by rw [hxy]; simp)
  have hwy : Wf y := hwf.2 y (by rw [hxy]; simp)
  obtain ⟨b, off, a0, p0, rfl, hb, ⟨f0, f1, f2, f3⟩, hs0⟩ := hA.at_ (i := 0) (by rw [hxy]; simp)
  obtain ⟨b', off', a1, p1, he, _, ⟨g0, g1, g2, g3⟩, hs1⟩ := hA.at_ (i := 1) (by rw [hxy]; simp)
  simp only [Option.some.injEq, Addr.mk.injEq] at he
  obtain ⟨rfl, rfl, _⟩ := he
  simp only [hxy, List.getElem_cons_zero, List.getElem_cons_succ, Nat.zero_mul, Nat.add_zero, Nat.one_mul, Nat.add_assoc, Nat.reduceAdd] at f0 f1 f2 f3 g0 g1 g2 g3 hs0 hs1
  have CX := Lib.hid (fun (W : World) (h : Below w.heap.size w W) => closed_any x ihx S a0 p0 W (hs0.keep (fun b hb => h.block b (hS b hb))) (fun b hb => Nat.lt_of_lt_of_le (hS b hb) h.size) hwx (by omega) (fun w' h' => tab_below ht (h.trans (h'.mono h.size))) (decide (x.kind < 4)))
  have CY := Lib.hid (fun (W : World) (h : Below w.heap.size w W) => ihy S a1 p1 W (hs1.keep (fun b hb => h.block b (hS b hb))) (fun b hb => Nat.lt_of_lt_of_le (hS b hb) h.size) hwy (by omega) (tab_below ht h))
  have b4 := B4.new w (.int .i64 t.kind) (.string t.name) (.int .i64 t.n) (.slice (some ⟨b, off, none⟩) t.args.length c)
  have hbl := hS b hb
  have hln : t.args.length = 2 := by rw [hxy]; rfl
  have hz2 := hz
  rw [hln, hk] at hz2
  have HZ := Lib.hid hz2
  have DX := Lib.hid (fun p => later_of (CX.out _ (HZ.out.trans ((later_below _ p).mono HZ.out.size))))
  have DY := Lib.hid (fun p => later_of (CY.out _ (HZ.out.trans ((later_below _ p).mono HZ.out.size))))
  have hsx : (bytes (paren (decide (x.kind < 4)) (printT x))).size + 4 + (bytes (printT y)).size ≤ 1099511627776 := by rw [bytes_size, bytes_size]; omega
  have F : Hid (bytes (paren (decide (x.kind < 4)) (printT x)) ++ ⟨#[32, 45, 62, 32]⟩ ++ bytes (printT y) = bytes (printT t)) := Lib.hid (by
    rw [E.out]; show bytes _ ++ bytes [32, 45, 62, 32] ++ bytes _ = _; rw [bytes_app, bytes_app])
  have c0 := b4.c0
  have c3 := b4.c3
  have hz3 := hz
  rw [hln, hk] at hz3 c0 c3
  have k3 := later_cell c3
  have k4 := later_cell ((hz3.cell (p := ⟨b, off, none⟩) hbl).trans f0)
  have k5 := later_cell ((hz3.cell (p := ⟨b, off + 1, none⟩) hbl).trans f1)
  have k6 := later_cell ((hz3.cell (p := ⟨b, off + 2, none⟩) hbl).trans f2)
  have k7 := later_cell ((hz3.cell (p := ⟨b, off + 3, none⟩) hbl).trans f3)
  have k8 := later_cell ((hz3.cell (p := ⟨b, off + 4, none⟩) hbl).trans g0)
  have k9 := later_cell ((hz3.cell (p := ⟨b, off + 5, none⟩) hbl).trans g1)
  have k10 := later_cell ((hz3.cell (p := ⟨b, off + 6, none⟩) hbl).trans g2)
  have k11 := later_cell ((hz3.cell (p := ⟨b, off + 7, none⟩) hbl).trans g3)
  unfold tv StrPost
  rw [hln, hk] at *
  have z0 : ((⟨b, off + 4, none⟩ : Addr) = ⟨b, off + 4, none⟩) := rfl
  clear hA hw hl ht E hlen hpx hwf hwx hwy hs0 hs1 b4 hz hz2 hz3 ihx ihy f0 f1 f2 f3 g0 g1 g2 g3 hxy hln hk hS z0 c3
  go_enter Tryd.func10, Tryd.ntmps10
  go_wp2
  refine wp_region_later (by kernel_rfl) (by kernel_rfl) ?_
  repeat (go_big_quiet_step ((first | exact DX.out _ | exact DY.out _)))
  refine wpQuiet_nil ?_
  intro _ hw'
  obtain ⟨pq, hw''⟩ := hw'
  subst hw''
  go_wp2
  go_ret
  exact ⟨by rw [F.out]; rfl, HZ.out.trans ((later_below _ _).mono HZ.out.size)⟩

end Go.Proofs.YtifaaihekgnhiaaDoor.Tp

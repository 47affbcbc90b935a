/- Texts laid together: TyLater, TyPrintB, TyPrintC. -/
import Derived.Lib.QuietBelow
import Derived.BigQuiet
import Derived.Test.YtofllmemmggapaaGreatDoorP06
import Derived.Deep.LoopGhost

/- A region that draws its order, whose operations read and whose callees leave what was there as it was: walked once. -/
namespace Go.Proofs.YtofllmemmggapaaGreatDoor.Tp
open Go.RowKit Go.Sort

/-- w, after some draws, with some blocks laid behind it -/
def later (w : World) (p : Regrown) : World := grow (redrawn w p.d) p.os

theorem later_below (w : World) (p : Regrown) : Below w.heap.size w (later w p) := below_regrown w p.d p.os

theorem later_cell {w : World} {a : Addr} {v : Value} (h : w.cell? a = some v) (p : Regrown) : (later w p).cell? a = some v := cell_regrown h p.d p.os

theorem later_of {P : Program} {f : FuncId} {args : Array Value} {w : World} {p : Regrown} {v : Value}
    (h : Calls P f args (later w p) fun e w' => e = .returned v ∧ Below (later w p).heap.size (later w p) w') : Calls P f args (later w p) fun e w'' => e = .returned v ∧ ∃ q : Regrown, w'' = later w q :=
  Calls.regrown_of h

theorem later_same {P : Program} {f : FuncId} {args : Array Value} {w : World} {p : Regrown} {v : Value}
    (h : Calls P f args (later w p) fun e w' => e = .returned v ∧ later w p = w') : Calls P f args (later w p) fun e w'' => e = .returned v ∧ ∃ q : Regrown, w'' = later w q :=
  h.mono fun _ _ ⟨he, hw⟩ => ⟨he, p, hw.symm⟩

theorem wp_region_later {P : Program} {id : Nat} {Q : Exit → Act → World → Prop} {a : Act} {w : World} {l : List Oper} (hm : P.follows .mixedOrders = true) (hB : Region.lexB .any l.toArray = true)
    (h : wpQuiet P l.toArray (fun w' => ∃ p : Regrown, w' = later w p) (fun a' => ∀ w', (∃ p : Regrown, w' = later w p) → Q .normal a' w') l a) : (Code.region id l.toArray true).wp P Q a w :=
  wp_region_quiet_below hm hB h

end Go.Proofs.YtofllmemmggapaaGreatDoor.Tp

/- The walk of Print: functions. -/
namespace Go.Proofs.YtofllmemmggapaaGreatDoor.Tp
open Go.RowKit Go.Sort

set_option maxHeartbeats 1600000 in
theorem print_fun (t : Ty) (hk : t.kind = 4) (x y : Ty) (hxy : t.args = [x, y]) (ihx : PrintSaid x) (ihy : PrintSaid y) : PrintSaid t := by
  intro S a c w hA hS hw hl ht
  have hz := (Below.refl w.heap.size w).alloc (Nat.le_refl _) (.cells #[.int .i64 t.kind, .string t.name, .int .i64 t.n, .slice a t.args.length c] 26)
  have E : Hid (printT t = paren (decide (x.kind < 4)) (printT x) ++ [32, 45, 62, 32] ++ printT y) := Lib.hid (by rw [printT_eq, hk, hxy]; rfl)
  have hlen : 32 * 0 + (paren (decide (x.kind < 4)) (printT x)).length + 4 + (printT y).length ≤ 1099511627776 := by rw [E.out] at hl; simp at hl; omega
  have hpx : (printT x).length ≤ (paren (decide (x.kind < 4)) (printT x)).length := by unfold paren; split <;> simp; omega
  have hwf := (wf_iff t).1 hw
  have hwx : Wf x := hwf.2 x (by rw [hxy]; simp)
  have hwy : Wf y := hwf.2 y (by rw [hxy]; simp)
  obtain ⟨b, off, a0, p0, rfl, hb, ⟨f0, f1, f2, f3⟩, hs0⟩ := hA.at_ (i := 0) (by rw [hxy]; simp)
  obtain ⟨b', off', a1, p1, he, _, ⟨g0, g1, g2, g3⟩, hs1⟩ := hA.at_ (i := 1) (by rw [hxy]; simp)
  simp only [Option.some.injEq, Addr.mk.injEq] at he
  obtain ⟨rfl, rfl, _⟩ := he
  simp only [hxy, List.getElem_cons_zero, List.getElem_cons_succ, Nat.zero_mul, Nat.add_zero, Nat.one_mul, Nat.add_assoc, Nat.reduceAdd] at f0 f1 f2 f3 g0 g1 g2 g3 hs0 hs1
  have CX := Lib.hid (fun (W : World) (h : Below w.heap.size w W) => closed_any x ihx S a0 p0 W (hs0.keep (fun b hb => h.block b (hS b hb))) (fun b hb => Nat.lt_of_lt_of_le (hS b hb) h.size) hwx (by omega) (fun w' h' => tab_below ht (h.trans (h'.mono h.size))) (decide (x.kind < 4)))
  have CY := Lib.hid (fun (W : World) (h : Below w.heap.size w W) => ihy S a1 p1 W (hs1.keep (fun b hb => h.block b (hS b hb))) (fun b hb => Nat.lt_of_lt_of_le (hS b hb) h.size) hwy (by omega) (tab_below ht h))
  have b4 := B4.new w (.int .i64 t.kind) (.string t.name) (.int .i64 t.n) (.slice (some ⟨b, off, none⟩) t.args.length c)
  have hbl := hS b hb
  have hln : t.args.length = 2 := by rw [hxy]; rfl
  have hz2 := hz
  rw [hln, hk] at hz2
  have HZ := Lib.hid hz2
  have DX := Lib.hid (fun p => later_of (CX.out _ (HZ.out.trans ((later_below _ p).mono HZ.out.size))))
  have DY := Lib.hid (fun p => later_of (CY.out _ (HZ.out.trans ((later_below _ p).mono HZ.out.size))))
  have hsx : (bytes (paren (decide (x.kind < 4)) (printT x))).size + 4 + (bytes (printT y)).size ≤ 1099511627776 := by rw [bytes_size, bytes_size]; omega
  have F : Hid (bytes (paren (decide (x.kind < 4)) (printT x)) ++ ⟨#[32, 45, 62, 32]⟩ ++ bytes (printT y) = bytes (printT t)) := Lib.hid (by
    rw [E.out]; show bytes _ ++ bytes [32, 45, 62, 32] ++ bytes _ = _; rw [bytes_app, bytes_app])
  have c0 := b4.c0
  have c3 := b4.c3
  have hz3 := hz
  rw [hln, hk] at hz3 c0 c3
  have k3 := later_cell c3
  have k4 := later_cell ((hz3.cell (p := ⟨b, off, none⟩) hbl).trans f0)
  have k5 := later_cell ((hz3.cell (p := ⟨b, off + 1, none⟩) hbl).trans f1)
  have k6 := later_cell ((hz3.cell (p := ⟨b, off + 2, none⟩) hbl).trans f2)
  have k7 := later_cell ((hz3.cell (p := ⟨b, off + 3, none⟩) hbl).trans f3)
  have k8 := later_cell ((hz3.cell (p := ⟨b, off + 4, none⟩) hbl).trans g0)
  have k9 := later_cell ((hz3.cell (p := ⟨b, off + 5, none⟩) hbl).trans g1)
  have k10 := later_cell ((hz3.cell (p := ⟨b, off + 6, none⟩) hbl).trans g2)
  have k11 := later_cell ((hz3.cell (p := ⟨b, off + 7, none⟩) hbl).trans g3)
  unfold tv StrPost
  rw [hln, hk] at *
  have z0 : ((⟨b, off + 4, none⟩ : Addr) = ⟨b, off + 4, none⟩) := rfl
  clear hA hw hl ht E hlen hpx hwf hwx hwy hs0 hs1 b4 hz hz2 hz3 ihx ihy f0 f1 f2 f3 g0 g1 g2 g3 hxy hln hk hS z0 c3
  go_enter Tryz.func26, Tryz.ntmps26
  go_wp2
  refine wp_region_later (by kernel_rfl) (by kernel_rfl) ?_
  repeat (go_big_quiet_step ((first | exact DX.out _ | exact DY.out _)))
  refine wpQuiet_nil ?_
  intro _ hw'
  obtain ⟨pq, hw''⟩ := hw'
  subst hw''
  go_wp2
  go_ret
  exact ⟨by rw [F.out]; rfl, HZ.out.trans ((later_below _ _).mono HZ.out.size)⟩

end Go.Proofs.YtofllmemmggapaaGreatDoor.Tp

/- The walk of Print: for alls. -/
namespace Go.Proofs.YtofllmemmggapaaGreatDoor.Tp
open Go.RowKit Go.Sort

/-- what is left of a for all's text, behind a name -/
def restP (b : Ty) : List UInt8 := if b.kind = 5 then 32 :: (printT b).drop 7 else [46, 32] ++ printT b

theorem print_k5 (t b : Ty) (hk : t.kind = 5) (ha : t.args = [b]) : printT t = forallT ++ t.name.data.toList ++ restP b := by
  rw [printT_eq, hk, ha]
  rfl
theorem restP_k5 (b c : Ty) (hk : b.kind = 5) (ha : b.args = [c]) : restP b = 32 :: (b.name.data.toList ++ restP c) := by
  unfold restP
  rw [if_pos hk, print_k5 b c hk ha]
  rfl
theorem restP_other (b : Ty) (hk : b.kind ≠ 5) : restP b = [46, 32] ++ printT b := by
  unfold restP
  rw [if_neg hk]

theorem _root_.Go.RowKit.Below.set4 {n : Nat} {w w1 : World} (h : Below n w w1) {b : Nat} (hb : n ≤ b) (v0 v1 v2 v3 : Value) :
    Below n w ((((w1.setCell ⟨b, 0, none⟩ v0).setCell ⟨b, 1, none⟩ v1).setCell ⟨b, 2, none⟩ v2).setCell ⟨b, 3, none⟩ v3) :=
  (((h.setCell (p := ⟨b, 0, none⟩) hb v0).setCell (p := ⟨b, 1, none⟩) hb v1).setCell (p := ⟨b, 2, none⟩) hb v2).setCell (p := ⟨b, 3, none⟩) hb v3

theorem bytes_name (s : ByteArray) : bytes s.data.toList = s := rfl

theorem one_arg {l : List Ty} (h : l.length = 1) : ∃ x, l = [x] := by
  match l, h with
  | [x], _ => exact ⟨x, rfl⟩

/-- the argument of a for all, in memory -/
theorem arg0 {S : Nat → Prop} {w : World} {a : Option Addr} {c : Nat} {t x : Ty} (h : ArgsAt S w (.slice a t.args.length c) t.args) (hx : t.args = [x]) : ∃ b off a' c', a = some ⟨b, off, none⟩ ∧ S b ∧
    Four w b off (.int .i64 x.kind) (.string x.name) (.int .i64 x.n) (.slice a' x.args.length c') ∧ ArgsAt S w (.slice a' x.args.length c') x.args := by
  obtain ⟨b, off, a', c', e, hb, hf, ha⟩ := h.at_ (i := 0) (by rw [hx]; simp)
  simp only [hx, List.getElem_cons_zero, Nat.zero_mul, Nat.add_zero] at hf ha
  exact ⟨b, off, a', c', e, hb, hf, ha⟩

set_option maxHeartbeats 3200000 in
theorem print_all (t : Ty) (hk : t.kind = 5) (x : Ty) (hx : t.args = [x]) (ih : ∀ u : Ty, u.depth < t.depth → PrintSaid u) : PrintSaid t := by
  intro S a c w hA hS hw hl ht
  have hz := (Below.refl w.heap.size w).alloc (Nat.le_refl _) (.cells #[.int .i64 t.kind, .string t.name, .int .i64 t.n, .slice a t.args.length c] 26)
  have hwf := (wf_iff t).1 hw
  have hwx : Wf x := hwf.2 x (by rw [hx]; simp)
  have hdx : x.depth < t.depth := by rw [t.depth_eq, hx]; simp [depthL]
  have E : printT t = forallT ++ t.name.data.toList ++ restP x := print_k5 t x hk hx
  obtain ⟨b, off, a0, p0, rfl, hb, hf, hs0⟩ := arg0 hA hx
  obtain ⟨f0, f1, f2, f3⟩ := hf.keep (hz.block b (hS b hb))
  have b4 := B4.new w (.int .i64 t.kind) (.string t.name) (.int .i64 t.n) (.slice (some ⟨b, off, none⟩) t.args.length c)
  have c0 := b4.c0
  have c1 := b4.c1
  have c3 := b4.c3
  have hbl := hS b hb
  have hln : t.args.length = 1 := by rw [hx]; rfl
  have hsz : (forallT ++ t.name.data.toList).length ≤ 1099511627776 := by rw [E] at hl; rw [List.length_append] at hl; omega
  have hsn : t.name.size ≤ 1099511627776 := by rw [List.length_append] at hsz; have : t.name.data.toList.length = t.name.size := rfl; omega
  have b4s := Lib.hid (B4.new (w.alloc (.cells #[.int .i64 t.kind, .string t.name, .int .i64 t.n, .slice (some ⟨b, off, none⟩) t.args.length c] 26)) (.int .i64 x.kind) (.string x.name) (.int .i64 x.n) (.slice a0 x.args.length p0))
  have G0 := Lib.hid (hz.alloc hz.size (.cells #[.int .i64 x.kind, .string x.name, .int .i64 x.n, .slice a0 x.args.length p0] 26))
  have IH := Lib.hid ih
  have HS := Lib.hid hS
  have HT := Lib.hid ht
  have HL := Lib.hid hl
  have HE := Lib.hid E
  have HW := Lib.hid hwx
  have HDX := Lib.hid hdx
  have HA0 := Lib.hid hs0
  unfold tv
  rw [hln, hk] at f0 f1 f2 f3 c0 c1 c3 b4s G0 ⊢
  clear hA hw hl ht E hz hwf hwx hdx hf hs0 hS b4 ih hx hln hk hsz
  go_enter Tryz.func26, Tryz.ntmps26
  go_wp2
  go_loopg [6] x.depth (fun gk wv wr => ∃ (s : List UInt8) (u : Ty) (a : Option Addr) (p : Nat), wv = .string (bytes s) ∧ printT t = s ++ restP u ∧ gk = u.depth ∧ u.depth < t.depth ∧ Wf u ∧
    B4 wr (w.heap.size + 1) (.int .i64 u.kind) (.string u.name) (.int .i64 u.n) (.slice a u.args.length p) ∧ ArgsAt S wr (.slice a u.args.length p) u.args ∧ Below w.heap.size w wr ∧ w.heap.size + 2 ≤ wr.heap.size)
  case atStart =>
    have g := G0.out
    exact ⟨forallT ++ t.name.data.toList, x, a0, p0, rfl, HE.out, rfl, HDX.out, HW.out, by simpa using b4s.out, HA0.out.keep fun b hb => g.block b (HS.out b hb), g, by simp⟩
  case round =>
    clear b4s G0 HA0 HDX HW HE f0 f1 f2 f3 c0 c1 c3
    obtain ⟨s, u, a, p, rfl, hE, rfl, hd, hw, k4, hA, hB, hsz⟩ := hrel
    have c0 := k4.c0
    have c1 := k4.c1
    have c2 := k4.c2
    have c3 := k4.c3
    have fr0 := k4.fr 0
    have fr1 := k4.fr 1
    have fr2 := k4.fr 2
    have fr3 := k4.fr 3
    have hsl : (bytes s).size ≤ 1099511627776 := by rw [bytes_size]; have := HL.out; rw [hE, List.length_append] at this; omega
    have HB := Lib.hid hB
    have HE := Lib.hid hE
    have HW := Lib.hid hw
    have HA := Lib.hid hA
    have K4 := Lib.hid k4
    by_cases h5 : u.kind = 5
    · have z5 : (u.kind == 5) = true := by rw [beq_iff_eq]; exact h5
      obtain ⟨y, hy⟩ := one_arg (by rcases ((wf_iff u).1 hw).1 with h | h | h | h | h <;> first | omega | exact h.2 : u.args.length = 1)
      have hwy : Wf y := ((wf_iff u).1 hw).2 y (by rw [hy]; simp)
      have hdy : y.depth < u.depth := by rw [u.depth_eq, hy]; simp [depthL]
      have E2 : printT t = (s ++ (32 :: u.name.data.toList)) ++ restP y := by rw [hE, restP_k5 u y h5 hy]; simp
      obtain ⟨b2, off2, a2, p2, rfl, hb2, ⟨g0, g1, g2, g3⟩, hs2⟩ := arg0 hA hy
      have hbl2 := HS.out b2 hb2
      have hne : b2 ≠ w.heap.size + 1 := by omega
      have hln : u.args.length = 1 := by rw [hy]; rfl
      have hs3 : (bytes s).size + 1 + u.name.size ≤ 1099511627776 := by
        rw [bytes_size]; have := HL.out; rw [E2, List.length_append, List.length_append, List.length_cons] at this; have : u.name.data.toList.length = u.name.size := rfl; omega
      have E3 : Hid (bytes s ++ (⟨#[32]⟩ ++ u.name) = bytes (s ++ (32 :: u.name.data.toList))) := Lib.hid (by rw [← bytes_app, show bytes (32 :: u.name.data.toList) = bytes [32] ++ bytes u.name.data.toList from by rw [bytes_app]; rfl]; rfl)
      have E2H := Lib.hid E2
      have HWY := Lib.hid hwy
      have HD : Hid (y.depth < u.depth ∧ u.depth < t.depth) := Lib.hid ⟨hdy, hd⟩
      have HA2 := Lib.hid hs2
      rw [hln] at c3
      generalize bytes s = sb at *
      clear hE hw hA k4 hB E2 hwy hdy hd hs2 h5 hy hln
      go_wp2
      have k5 := K4.out.set4 (.int .i64 y.kind) (.string y.name) (.int .i64 y.n) (.slice a2 y.args.length p2)
      have B5 := (HB.out).set4 (b := w.heap.size + 1) (by omega) (.int .i64 y.kind) (.string y.name) (.int .i64 y.n) (.slice a2 y.args.length p2)
      go_roundg y.depth
      case measure => exact HD.out.1
      case rel => exact ⟨s ++ (32 :: u.name.data.toList), y, a2, p2, by rw [← E3.out], E2H.out, rfl, by have := HD.out; omega, HWY.out, k5, HA2.out.keep (fun b hb => (B5.block b (HS.out b hb)).trans (HB.out.block b (HS.out b hb)).symm), B5, by simp; omega⟩
    · have z5 : (u.kind == 5) = false := by rw [beq_eq_false_iff_ne]; exact h5
      have E2 : printT t = s ++ [46, 32] ++ printT u := by rw [hE, restP_other u h5]; simp
      have hlu : (bytes s).size + 2 + (printT u).length ≤ 1099511627776 := by
        rw [bytes_size]; have := HL.out; rw [E2, List.length_append, List.length_append] at this; simp at this; omega
      have C := Lib.hid (IH.out u hd S a p wr hA (fun b hb => Nat.lt_of_lt_of_le (HS.out b hb) hB.size) hw (by omega) (tab_below HT.out hB))
      have E3 : Hid (bytes s ++ ⟨#[46, 32]⟩ ++ bytes (printT u) = bytes (printT t)) := Lib.hid (by rw [E2]; show bytes _ ++ bytes [46, 32] ++ bytes _ = _; rw [bytes_app, bytes_app])
      have hlu2 : (bytes s).size + 2 + (bytes (printT u)).size ≤ 1099511627776 := by rw [bytes_size (printT u)]; exact hlu
      generalize bytes s = sb at *
      clear hE hw hA k4 hB E2 hd h5 hlu
      go_wp2_with fail
      refine C.out.mono ?_
      rintro e w1 ⟨rfl, hb1⟩
      generalize bytes (printT u) = ub at *
      go_wp2
      go_ret
      exact ⟨by rw [← E3.out]; rfl, HB.out.trans (hb1.mono HB.out.size)⟩

end Go.Proofs.YtofllmemmggapaaGreatDoor.Tp

/- Texts laid together: RfPrint. -/
import Derived.Test.YtofllmemmggapaaGreatDoorP39
import Derived.Test.YtofllmemmggapaaGreatDoorP07
import Derived.Test.YtofllmemmggapaaGreatDoorP24

/- The walk of the document's Print: variables, unknowns, functions, for alls. (Printed by gen_rfprint.py.) -/
namespace Go.Proofs.YtofllmemmggapaaGreatDoor.Tp
open Go.RowKit Go.Sort

/-- what Print of a type tells, wherever it lies -/
def RPrintSaid (t : Ty) : Prop := ∀ (S : Nat → Prop) (a : Option Addr) (c : Nat) (w : World), ArgsAt S w (.slice a t.args.length c) t.args → (∀ b, S b → b < w.heap.size) → Wf t → (printT t).length ≤ 1099511627776 →
    Calls Tryz.prog 37 #[tv t a c] w (StrPost w (printT t))

set_option maxHeartbeats 800000 in
theorem rprint_var (t : Ty) (hk : t.kind = 1) (a : Option Addr) (c : Nat) (w : World) : Calls Tryz.prog 37 #[tv t a c] w (StrPost w (printT t)) := by
  have E : Hid (bytes (printT t) = t.name) := Lib.hid (by rw [printT_eq, hk]; rfl)
  have HZ := Lib.hid ((Below.refl w.heap.size w).alloc (Nat.le_refl _) (.cells #[.int .i64 t.kind, .string t.name, .int .i64 t.n, .slice a t.args.length c] 29))
  have b4 := R4.new w (.int .i64 t.kind) (.string t.name) (.int .i64 t.n) (.slice a t.args.length c)
  unfold tv
  generalize t.args.length = n at *
  rw [hk] at *
  have c0 := b4.c0
  have c1 := b4.c1
  clear b4
  go_enter Tryz.func37, Tryz.ntmps37
  go_wp2
  go_ret
  exact ⟨by rw [E.out]; rfl, HZ.out⟩

set_option maxHeartbeats 800000 in
theorem rprint_meta (t : Ty) (hk : t.kind = 2) (h0 : 0 ≤ t.n) (h1 : t.n < 1000000000000000000) (a : Option Addr) (c : Nat) (w : World) : Calls Tryz.prog 37 #[tv t a c] w (StrPost w (printT t)) := by
  obtain ⟨m, hm⟩ : ∃ m : Nat, t.n = (m : Int) := ⟨t.n.toNat, by omega⟩
  have E : Hid (printT t = 63 :: Lib.decDigits m) := Lib.hid (by rw [printT_eq, hk, hm, ← itoa_dec]; rfl)
  have hz := (Below.refl w.heap.size w).alloc (Nat.le_refl _) (.cells #[.int .i64 t.kind, .string t.name, .int .i64 t.n, .slice a t.args.length c] 29)
  have C := Lib.hid (decimal_any m (by omega))
  have HZ := Lib.hid hz
  have b4 := R4.new w (.int .i64 t.kind) (.string t.name) (.int .i64 t.n) (.slice a t.args.length c)
  have hlen := (dec_digits m).2.2.2 18 (by omega) (show m < 10 ^ 18 by omega)
  have z1 : (bytes (Lib.decDigits m)).size ≤ 21 := by rw [bytes_size]; omega
  clear hz hlen
  unfold tv
  generalize t.args.length = n at *
  rw [hk, hm] at *
  have c0 := b4.c0
  have c2 := b4.c2
  clear b4 h0 h1 hm
  go_enter Tryz.func37, Tryz.ntmps37
  go_wp2_with fail
  refine (C.out _).mono ?_
  rintro e w1 ⟨rfl, hb⟩
  have G := Lib.hid (HZ.out.trans (hb.mono HZ.out.size))
  have F : Hid ((⟨#[63]⟩ : ByteArray) ++ bytes (Lib.decDigits m) = bytes (printT t)) := Lib.hid (by
    rw [E.out]; show bytes [63] ++ _ = _; rw [bytes_app]; rfl)
  clear hb
  generalize bytes (Lib.decDigits m) = s at *
  go_wp2
  go_ret
  exact ⟨by rw [← F.out]; rfl, G.out⟩


set_option maxRecDepth 100000 in
set_option maxHeartbeats 400000 in
theorem rprint_fun4 (t : Ty) (hk : t.kind = 4) (x y : Ty) (hxy : t.args = [x, y]) (hq : x.kind = 4) (ihx : RPrintSaid x) (ihy : RPrintSaid y) : RPrintSaid t := by
  intro S a c w hA hS hw hl
  have hz := (Below.refl w.heap.size w).alloc (Nat.le_refl _) (.cells #[.int .i64 t.kind, .string t.name, .int .i64 t.n, .slice a t.args.length c] 29)
  have E : Hid (printT t = [40] ++ printT x ++ [41, 32, 45, 62, 32] ++ printT y) := Lib.hid (by
    rw [printT_eq, hk, hxy]
    show paren (decide (x.kind < 4)) (printT x) ++ [32, 45, 62, 32] ++ printT y = _
    unfold paren
    rw [if_neg (by simp; omega)]
    simp)
  have hlen : (printT x).length + 6 + (printT y).length ≤ 1099511627778 := by rw [E.out] at hl; simp at hl; omega
  have hwf := (wf_iff t).1 hw
  have hwx : Wf x := hwf.2 x (by rw [hxy]; simp)
  have hwy : Wf y := hwf.2 y (by rw [hxy]; simp)
  obtain ⟨b, off, a0, p0, rfl, hb, ⟨f0, f1, f2, f3⟩, hs0⟩ := hA.at_ (i := 0) (by rw [hxy]; simp)
  obtain ⟨b', off', a1, p1, he, _, ⟨g0, g1, g2, g3⟩, hs1⟩ := hA.at_ (i := 1) (by rw [hxy]; simp)
  simp only [Option.some.injEq, Addr.mk.injEq] at he
  obtain ⟨rfl, rfl, _⟩ := he
  simp only [hxy, List.getElem_cons_zero, List.getElem_cons_succ, Nat.zero_mul, Nat.add_zero, Nat.one_mul, Nat.add_assoc, Nat.reduceAdd] at f0 f1 f2 f3 g0 g1 g2 g3 hs0 hs1
  have CX := Lib.hid (fun (W : World) (h : Below w.heap.size w W) => ihx S a0 p0 W (hs0.keep (fun b hb => h.block b (hS b hb))) (fun b hb => Nat.lt_of_lt_of_le (hS b hb) h.size) hwx (by omega))
  have CY := Lib.hid (fun (W : World) (h : Below w.heap.size w W) => ihy S a1 p1 W (hs1.keep (fun b hb => h.block b (hS b hb))) (fun b hb => Nat.lt_of_lt_of_le (hS b hb) h.size) hwy (by omega))
  have b4 := R4.new w (.int .i64 t.kind) (.string t.name) (.int .i64 t.n) (.slice (some ⟨b, off, none⟩) t.args.length c)
  have hbl := hS b hb
  have hln : t.args.length = 2 := by rw [hxy]; rfl
  have hz2 := hz
  rw [hln, hk] at hz2
  have HZ := Lib.hid hz2
  have DX := Lib.hid (fun p => later_of (CX.out _ (HZ.out.trans ((later_below _ p).mono HZ.out.size))))
  have DY := Lib.hid (fun p => later_of (CY.out _ (HZ.out.trans ((later_below _ p).mono HZ.out.size))))
  have hsx : (bytes (printT x)).size + 6 + (bytes (printT y)).size ≤ 1099511627778 := by rw [bytes_size, bytes_size]; omega
  have F : Hid (⟨#[40]⟩ ++ bytes (printT x) ++ ⟨#[41, 32, 45, 62, 32]⟩ ++ bytes (printT y) = bytes (printT t)) := Lib.hid (by
    rw [E.out]
    show bytes [40] ++ bytes _ ++ bytes [41, 32, 45, 62, 32] ++ bytes _ = _
    rw [bytes_app, bytes_app, bytes_app])
  have c0 := b4.c0
  have c3 := b4.c3
  have hz3 := hz
  rw [hln, hk] at hz3 c0 c3
  have j4 := (hz3.cell (p := ⟨b, off, none⟩) hbl).trans f0
  have k3 := later_cell c3
  have k4 := later_cell j4
  have k5 := later_cell ((hz3.cell (p := ⟨b, off + 1, none⟩) hbl).trans f1)
  have k6 := later_cell ((hz3.cell (p := ⟨b, off + 2, none⟩) hbl).trans f2)
  have k7 := later_cell ((hz3.cell (p := ⟨b, off + 3, none⟩) hbl).trans f3)
  have k8 := later_cell ((hz3.cell (p := ⟨b, off + 4, none⟩) hbl).trans g0)
  have k9 := later_cell ((hz3.cell (p := ⟨b, off + 5, none⟩) hbl).trans g1)
  have k10 := later_cell ((hz3.cell (p := ⟨b, off + 6, none⟩) hbl).trans g2)
  have k11 := later_cell ((hz3.cell (p := ⟨b, off + 7, none⟩) hbl).trans g3)
  have e4 : (x.kind == 4) = true := by rw [hq]; rfl
  unfold tv at DX DY ⊢
  unfold StrPost
  rw [hln, hk] at *
  clear hA hw hl E hlen hwf hwx hwy hs0 hs1 b4 hz hz2 hz3 ihx ihy f0 f1 f2 f3 g0 g1 g2 g3 hxy hln hk hS hq
  go_enter Tryz.func37, Tryz.ntmps37
  go_wp2
  clear c0 c3 j4
  refine wp_region_later (by kernel_rfl) (by kernel_rfl) ?_
  repeat (go_big_quiet_step ((first | (with_reducible exact DX.out _) | (with_reducible exact DY.out _))))
  refine wpQuiet_nil ?_
  intro _ hw'
  obtain ⟨pq, hw''⟩ := hw'
  subst hw''
  go_wp2
  go_ret
  exact ⟨by rw [F.out]; rfl, HZ.out.trans ((later_below _ _).mono HZ.out.size)⟩


set_option maxRecDepth 100000 in
set_option maxHeartbeats 400000 in
theorem rprint_fun5 (t : Ty) (hk : t.kind = 4) (x y : Ty) (hxy : t.args = [x, y]) (hq : x.kind = 5) (ihx : RPrintSaid x) (ihy : RPrintSaid y) : RPrintSaid t := by
  intro S a c w hA hS hw hl
  have hz := (Below.refl w.heap.size w).alloc (Nat.le_refl _) (.cells #[.int .i64 t.kind, .string t.name, .int .i64 t.n, .slice a t.args.length c] 29)
  have E : Hid (printT t = [40] ++ printT x ++ [41, 32, 45, 62, 32] ++ printT y) := Lib.hid (by
    rw [printT_eq, hk, hxy]
    show paren (decide (x.kind < 4)) (printT x) ++ [32, 45, 62, 32] ++ printT y = _
    unfold paren
    rw [if_neg (by simp; omega)]
    simp)
  have hlen : (printT x).length + 6 + (printT y).length ≤ 1099511627778 := by rw [E.out] at hl; simp at hl; omega
  have hwf := (wf_iff t).1 hw
  have hwx : Wf x := hwf.2 x (by rw [hxy]; simp)
  have hwy : Wf y := hwf.2 y (by rw [hxy]; simp)
  obtain ⟨b, off, a0, p0, rfl, hb, ⟨f0, f1, f2, f3⟩, hs0⟩ := hA.at_ (i := 0) (by rw [hxy]; simp)
  obtain ⟨b', off', a1, p1, he, _, ⟨g0, g1, g2, g3⟩, hs1⟩ := hA.at_ (i := 1) (by rw [hxy]; simp)
  simp only [Option.some.injEq, Addr.mk.injEq] at he
  obtain ⟨rfl, rfl, _⟩ := he
  simp only [hxy, List.getElem_cons_zero, List.getElem_cons_succ, Nat.zero_mul, Nat.add_zero, Nat.one_mul, Nat.add_assoc, Nat.reduceAdd] at f0 f1 f2 f3 g0 g1 g2 g3 hs0 hs1
  have CX := Lib.hid (fun (W : World) (h : Below w.heap.size w W) => ihx S a0 p0 W (hs0.keep (fun b hb => h.block b (hS b hb))) (fun b hb => Nat.lt_of_lt_of_le (hS b hb) h.size) hwx (by omega))
  have CY := Lib.hid (fun (W : World) (h : Below w.heap.size w W) => ihy S a1 p1 W (hs1.keep (fun b hb => h.block b (hS b hb))) (fun b hb => Nat.lt_of_lt_of_le (hS b hb) h.size) hwy (by omega))
  have b4 := R4.new w (.int .i64 t.kind) (.string t.name) (.int .i64 t.n) (.slice (some ⟨b, off, none⟩) t.args.length c)
  have hbl := hS b hb
  have hln : t.args.length = 2 := by rw [hxy]; rfl
  have hz2 := hz
  rw [hln, hk] at hz2
  have HZ := Lib.hid hz2
  have DX := Lib.hid (fun p => later_of (CX.out _ (HZ.out.trans ((later_below _ p).mono HZ.out.size))))
  have DY := Lib.hid (fun p => later_of (CY.out _ (HZ.out.trans ((later_below _ p).mono HZ.out.size))))
  have hsx : (bytes (printT x)).size + 6 + (bytes (printT y)).size ≤ 1099511627778 := by rw [bytes_size, bytes_size]; omega
  have F : Hid (⟨#[40]⟩ ++ bytes (printT x) ++ ⟨#[41, 32, 45, 62, 32]⟩ ++ bytes (printT y) = bytes (printT t)) := Lib.hid (by
    rw [E.out]
    show bytes [40] ++ bytes _ ++ bytes [41, 32, 45, 62, 32] ++ bytes _ = _
    rw [bytes_app, bytes_app, bytes_app])
  have c0 := b4.c0
  have c3 := b4.c3
  have hz3 := hz
  rw [hln, hk] at hz3 c0 c3
  have j4 := (hz3.cell (p := ⟨b, off, none⟩) hbl).trans f0
  have k3 := later_cell c3
  have k4 := later_cell j4
  have k5 := later_cell ((hz3.cell (p := ⟨b, off + 1, none⟩) hbl).trans f1)
  have k6 := later_cell ((hz3.cell (p := ⟨b, off + 2, none⟩) hbl).trans f2)
  have k7 := later_cell ((hz3.cell (p := ⟨b, off + 3, none⟩) hbl).trans f3)
  have k8 := later_cell ((hz3.cell (p := ⟨b, off + 4, none⟩) hbl).trans g0)
  have k9 := later_cell ((hz3.cell (p := ⟨b, off + 5, none⟩) hbl).trans g1)
  have k10 := later_cell ((hz3.cell (p := ⟨b, off + 6, none⟩) hbl).trans g2)
  have k11 := later_cell ((hz3.cell (p := ⟨b, off + 7, none⟩) hbl).trans g3)
  have e4 : (x.kind == 4) = false := by rw [hq]; rfl
  have e5 : (x.kind == 5) = true := by rw [hq]; rfl
  unfold tv at DX DY ⊢
  unfold StrPost
  rw [hln, hk] at *
  clear hA hw hl E hlen hwf hwx hwy hs0 hs1 b4 hz hz2 hz3 ihx ihy f0 f1 f2 f3 g0 g1 g2 g3 hxy hln hk hS hq
  go_enter Tryz.func37, Tryz.ntmps37
  go_wp2
  clear c0 c3 j4
  refine wp_region_later (by kernel_rfl) (by kernel_rfl) ?_
  repeat (go_big_quiet_step ((first | (with_reducible exact DX.out _) | (with_reducible exact DY.out _))))
  refine wpQuiet_nil ?_
  intro _ hw'
  obtain ⟨pq, hw''⟩ := hw'
  subst hw''
  go_wp2
  go_ret
  exact ⟨by rw [F.out]; rfl, HZ.out.trans ((later_below _ _).mono HZ.out.size)⟩


set_option maxRecDepth 100000 in
set_option maxHeartbeats 400000 in
theorem rprint_fun0 (t : Ty) (hk : t.kind = 4) (x y : Ty) (hxy : t.args = [x, y]) (hq : x.kind < 4) (ihx : RPrintSaid x) (ihy : RPrintSaid y) : RPrintSaid t := by
  intro S a c w hA hS hw hl
  have hz := (Below.refl w.heap.size w).alloc (Nat.le_refl _) (.cells #[.int .i64 t.kind, .string t.name, .int .i64 t.n, .slice a t.args.length c] 29)
  have E : Hid (printT t = printT x ++ [32, 45, 62, 32] ++ printT y) := Lib.hid (by
    rw [printT_eq, hk, hxy]
    show paren (decide (x.kind < 4)) (printT x) ++ [32, 45, 62, 32] ++ printT y = _
    unfold paren
    rw [if_pos (by simp; omega)]
    skip)
  have hlen : (printT x).length + 6 + (printT y).length ≤ 1099511627778 := by rw [E.out] at hl; simp at hl; omega
  have hwf := (wf_iff t).1 hw
  have hwx : Wf x := hwf.2 x (by rw [hxy]; simp)
  have hwy : Wf y := hwf.2 y (by rw [hxy]; simp)
  obtain ⟨b, off, a0, p0, rfl, hb, ⟨f0, f1, f2, f3⟩, hs0⟩ := hA.at_ (i := 0) (by rw [hxy]; simp)
  obtain ⟨b', off', a1, p1, he, _, ⟨g0, g1, g2, g3⟩, hs1⟩ := hA.at_ (i := 1) (by rw [hxy]; simp)
  simp only [Option.some.injEq, Addr.mk.injEq] at he
  obtain ⟨rfl, rfl, _⟩ := he
  simp only [hxy, List.getElem_cons_zero, List.getElem_cons_succ, Nat.zero_mul, Nat.add_zero, Nat.one_mul, Nat.add_assoc, Nat.reduceAdd] at f0 f1 f2 f3 g0 g1 g2 g3 hs0 hs1
  have CX := Lib.hid (fun (W : World) (h : Below w.heap.size w W) => ihx S a0 p0 W (hs0.keep (fun b hb => h.block b (hS b hb))) (fun b hb => Nat.lt_of_lt_of_le (hS b hb) h.size) hwx (by omega))
  have CY := Lib.hid (fun (W : World) (h : Below w.heap.size w W) => ihy S a1 p1 W (hs1.keep (fun b hb => h.block b (hS b hb))) (fun b hb => Nat.lt_of_lt_of_le (hS b hb) h.size) hwy (by omega))
  have b4 := R4.new w (.int .i64 t.kind) (.string t.name) (.int .i64 t.n) (.slice (some ⟨b, off, none⟩) t.args.length c)
  have hbl := hS b hb
  have hln : t.args.length = 2 := by rw [hxy]; rfl
  have hz2 := hz
  rw [hln, hk] at hz2
  have HZ := Lib.hid hz2
  have DX := Lib.hid (fun p => later_of (CX.out _ (HZ.out.trans ((later_below _ p).mono HZ.out.size))))
  have DY := Lib.hid (fun p => later_of (CY.out _ (HZ.out.trans ((later_below _ p).mono HZ.out.size))))
  have hsx : (bytes (printT x)).size + 6 + (bytes (printT y)).size ≤ 1099511627778 := by rw [bytes_size, bytes_size]; omega
  have F : Hid (bytes (printT x) ++ ⟨#[32, 45, 62, 32]⟩ ++ bytes (printT y) = bytes (printT t)) := Lib.hid (by
    rw [E.out]
    show bytes _ ++ bytes [32, 45, 62, 32] ++ bytes _ = _
    rw [bytes_app, bytes_app])
  have c0 := b4.c0
  have c3 := b4.c3
  have hz3 := hz
  rw [hln, hk] at hz3 c0 c3
  have j4 := (hz3.cell (p := ⟨b, off, none⟩) hbl).trans f0
  have k3 := later_cell c3
  have k4 := later_cell j4
  have k5 := later_cell ((hz3.cell (p := ⟨b, off + 1, none⟩) hbl).trans f1)
  have k6 := later_cell ((hz3.cell (p := ⟨b, off + 2, none⟩) hbl).trans f2)
  have k7 := later_cell ((hz3.cell (p := ⟨b, off + 3, none⟩) hbl).trans f3)
  have k8 := later_cell ((hz3.cell (p := ⟨b, off + 4, none⟩) hbl).trans g0)
  have k9 := later_cell ((hz3.cell (p := ⟨b, off + 5, none⟩) hbl).trans g1)
  have k10 := later_cell ((hz3.cell (p := ⟨b, off + 6, none⟩) hbl).trans g2)
  have k11 := later_cell ((hz3.cell (p := ⟨b, off + 7, none⟩) hbl).trans g3)
  have e4 : (x.kind == 4) = false := by rw [beq_eq_false_iff_ne]; omega
  have e5 : (x.kind == 5) = false := by rw [beq_eq_false_iff_ne]; omega
  unfold tv at DX DY ⊢
  unfold StrPost
  rw [hln, hk] at *
  clear hA hw hl E hlen hwf hwx hwy hs0 hs1 b4 hz hz2 hz3 ihx ihy f0 f1 f2 f3 g0 g1 g2 g3 hxy hln hk hS hq
  go_enter Tryz.func37, Tryz.ntmps37
  go_wp2
  clear c0 c3 j4
  refine wp_region_later (by kernel_rfl) (by kernel_rfl) ?_
  repeat (go_big_quiet_step ((first | (with_reducible exact DX.out _) | (with_reducible exact DY.out _))))
  refine wpQuiet_nil ?_
  intro _ hw'
  obtain ⟨pq, hw''⟩ := hw'
  subst hw''
  go_wp2
  go_ret
  exact ⟨by rw [F.out]; rfl, HZ.out.trans ((later_below _ _).mono HZ.out.size)⟩

set_option maxHeartbeats 3200000 in
theorem rprint_all (t : Ty) (hk : t.kind = 5) (x : Ty) (hx : t.args = [x]) (ih : ∀ u : Ty, u.depth < t.depth → RPrintSaid u) : RPrintSaid t := by
  intro S a c w hA hS hw hl
  have hz := (Below.refl w.heap.size w).alloc (Nat.le_refl _) (.cells #[.int .i64 t.kind, .string t.name, .int .i64 t.n, .slice a t.args.length c] 29)
  have hwf := (wf_iff t).1 hw
  have hwx : Wf x := hwf.2 x (by rw [hx]; simp)
  have hdx : x.depth < t.depth := by rw [t.depth_eq, hx]; simp [depthL]
  have E : printT t = forallT ++ t.name.data.toList ++ restP x := print_k5 t x hk hx
  obtain ⟨b, off, a0, p0, rfl, hb, hf, hs0⟩ := arg0 hA hx
  obtain ⟨f0, f1, f2, f3⟩ := hf.keep (hz.block b (hS b hb))
  have b4 := R4.new w (.int .i64 t.kind) (.string t.name) (.int .i64 t.n) (.slice (some ⟨b, off, none⟩) t.args.length c)
  have c0 := b4.c0
  have c1 := b4.c1
  have c3 := b4.c3
  have hbl := hS b hb
  have hln : t.args.length = 1 := by rw [hx]; rfl
  have hsz : (forallT ++ t.name.data.toList).length ≤ 1099511627776 := by rw [E] at hl; rw [List.length_append] at hl; omega
  have hsn : t.name.size ≤ 1099511627776 := by rw [List.length_append] at hsz; have : t.name.data.toList.length = t.name.size := rfl; omega
  have b4s := Lib.hid (R4.new (w.alloc (.cells #[.int .i64 t.kind, .string t.name, .int .i64 t.n, .slice (some ⟨b, off, none⟩) t.args.length c] 29)) (.int .i64 x.kind) (.string x.name) (.int .i64 x.n) (.slice a0 x.args.length p0))
  have G0 := Lib.hid (hz.alloc hz.size (.cells #[.int .i64 x.kind, .string x.name, .int .i64 x.n, .slice a0 x.args.length p0] 29))
  have IH := Lib.hid ih
  have HS := Lib.hid hS
  have HL := Lib.hid hl
  have HE := Lib.hid E
  have HW := Lib.hid hwx
  have HDX := Lib.hid hdx
  have HA0 := Lib.hid hs0
  unfold tv
  rw [hln, hk] at f0 f1 f2 f3 c0 c1 c3 b4s G0 ⊢
  clear hA hw hl E hz hwf hwx hdx hf hs0 hS b4 ih hx hln hk hsz
  go_enter Tryz.func37, Tryz.ntmps37
  go_wp2
  go_loopg [6] x.depth (fun gk wv wr => ∃ (s : List UInt8) (u : Ty) (a : Option Addr) (p : Nat), wv = .string (bytes s) ∧ printT t = s ++ restP u ∧ gk = u.depth ∧ u.depth < t.depth ∧ Wf u ∧
    R4 wr (w.heap.size + 1) (.int .i64 u.kind) (.string u.name) (.int .i64 u.n) (.slice a u.args.length p) ∧ ArgsAt S wr (.slice a u.args.length p) u.args ∧ Below w.heap.size w wr ∧ w.heap.size + 2 ≤ wr.heap.size)
  case atStart =>
    have g := G0.out
    exact ⟨forallT ++ t.name.data.toList, x, a0, p0, rfl, HE.out, rfl, HDX.out, HW.out, by simpa using b4s.out, HA0.out.keep fun b hb => g.block b (HS.out b hb), g, by simp⟩
  case round =>
    clear b4s G0 HA0 HDX HW HE f0 f1 f2 f3 c0 c1 c3
    obtain ⟨s, u, a, p, rfl, hE, rfl, hd, hw, k4, hA, hB, hsz⟩ := hrel
    have c0 := k4.c0
    have c1 := k4.c1
    have c2 := k4.c2
    have c3 := k4.c3
    have fr0 := k4.fr 0
    have fr1 := k4.fr 1
    have fr2 := k4.fr 2
    have fr3 := k4.fr 3
    have hsl : (bytes s).size ≤ 1099511627776 := by rw [bytes_size]; have := HL.out; rw [hE, List.length_append] at this; omega
    have HB := Lib.hid hB
    have HE := Lib.hid hE
    have HW := Lib.hid hw
    have HA := Lib.hid hA
    have K4 := Lib.hid k4
    by_cases h5 : u.kind = 5
    · have z5 : (u.kind == 5) = true := by rw [beq_iff_eq]; exact h5
      obtain ⟨y, hy⟩ := one_arg (by rcases ((wf_iff u).1 hw).1 with h | h | h | h | h <;> first | omega | exact h.2 : u.args.length = 1)
      have hwy : Wf y := ((wf_iff u).1 hw).2 y (by rw [hy]; simp)
      have hdy : y.depth < u.depth := by rw [u.depth_eq, hy]; simp [depthL]
      have E2 : printT t = (s ++ (32 :: u.name.data.toList)) ++ restP y := by rw [hE, restP_k5 u y h5 hy]; simp
      obtain ⟨b2, off2, a2, p2, rfl, hb2, ⟨g0, g1, g2, g3⟩, hs2⟩ := arg0 hA hy
      have hbl2 := HS.out b2 hb2
      have hne : b2 ≠ w.heap.size + 1 := by omega
      have hln : u.args.length = 1 := by rw [hy]; rfl
      have hs3 : (bytes s).size + 1 + u.name.size ≤ 1099511627776 := by
        rw [bytes_size]; have := HL.out; rw [E2, List.length_append, List.length_append, List.length_cons] at this; have : u.name.data.toList.length = u.name.size := rfl; omega
      have E3 : Hid (bytes s ++ ⟨#[32]⟩ ++ u.name = bytes (s ++ (32 :: u.name.data.toList))) := Lib.hid (by show bytes s ++ bytes [32] ++ bytes u.name.data.toList = _; rw [bytes_app, bytes_app]; simp)
      have E2H := Lib.hid E2
      have HWY := Lib.hid hwy
      have HD : Hid (y.depth < u.depth ∧ u.depth < t.depth) := Lib.hid ⟨hdy, hd⟩
      have HA2 := Lib.hid hs2
      rw [hln] at c3
      generalize bytes s = sb at *
      clear hE hw hA k4 hB E2 hwy hdy hd hs2 h5 hy hln
      go_wp2
      have k5 := K4.out.set4 (.int .i64 y.kind) (.string y.name) (.int .i64 y.n) (.slice a2 y.args.length p2)
      have B5 := (HB.out).set4 (b := w.heap.size + 1) (by omega) (.int .i64 y.kind) (.string y.name) (.int .i64 y.n) (.slice a2 y.args.length p2)
      go_roundg y.depth
      case measure => exact HD.out.1
      case rel => exact ⟨s ++ (32 :: u.name.data.toList), y, a2, p2, by rw [← E3.out], E2H.out, rfl, by have := HD.out; omega, HWY.out, k5, HA2.out.keep (fun b hb => (B5.block b (HS.out b hb)).trans (HB.out.block b (HS.out b hb)).symm), B5, by simp; omega⟩
    · have z5 : (u.kind == 5) = false := by rw [beq_eq_false_iff_ne]; exact h5
      have E2 : printT t = s ++ [46, 32] ++ printT u := by rw [hE, restP_other u h5]; simp
      have hlu : (bytes s).size + 2 + (printT u).length ≤ 1099511627776 := by
        rw [bytes_size]; have := HL.out; rw [E2, List.length_append, List.length_append] at this; simp at this; omega
      have C := Lib.hid (IH.out u hd S a p wr hA (fun b hb => Nat.lt_of_lt_of_le (HS.out b hb) hB.size) hw (by omega))
      have E3 : Hid (bytes s ++ ⟨#[46, 32]⟩ ++ bytes (printT u) = bytes (printT t)) := Lib.hid (by rw [E2]; show bytes _ ++ bytes [46, 32] ++ bytes _ = _; rw [bytes_app, bytes_app])
      have hlu2 : (bytes s).size + 2 + (bytes (printT u)).size ≤ 1099511627776 := by rw [bytes_size (printT u)]; exact hlu
      generalize bytes s = sb at *
      clear hE hw hA k4 hB E2 hd h5 hlu
      go_wp2_with fail
      refine C.out.mono ?_
      rintro e w1 ⟨rfl, hb1⟩
      generalize bytes (printT u) = ub at *
      go_wp2
      go_ret
      exact ⟨by rw [← E3.out]; rfl, HB.out.trans (hb1.mono HB.out.size)⟩


end Go.Proofs.YtofllmemmggapaaGreatDoor.Tp

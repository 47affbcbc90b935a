/- Texts laid together: MaRead. -/
import Derived.Test.YtofllmemmggapaaGreatDoorP40
import Derived.Test.YtofllmemmggapaaGreatDoorP38
import Derived.Test.YtofllmemmggapaaGreatDoorP42

/- The walk of law 03's read. (Printed by gen_maread.py.) -/
namespace Go.Proofs.YtofllmemmggapaaGreatDoor.Tp
open Go.RowKit Go.Sort

def NilPost (w : World) (e : Ending) (w' : World) : Prop := e = .returned (.slice none 0 0) ∧ Below w.heap.size w w'
set_option maxHeartbeats 800000 in
theorem rmetas_zero (w : World) : Calls Tryz.prog 56 #[.agg #[.int .i64 0, .string ⟨#[]⟩, .int .i64 0, .slice none 0 0], .slice none 0 0] w (NilPost w) := by
  have hz : Below w.heap.size w (w.alloc (.cells #[.int .i64 0, .string ⟨#[]⟩, .int .i64 0, .slice none 0 0] 29)) := (Below.refl w.heap.size w).alloc (Nat.le_refl _) (.cells #[.int .i64 0, .string ⟨#[]⟩, .int .i64 0, .slice none 0 0] 29)
  have k4 := R4.new w (.int .i64 0) (.string ⟨#[]⟩) (.int .i64 0) (.slice none 0 0)
  have HZ := Lib.hid hz
  have c0 := k4.c0
  have c3 := k4.c3
  clear hz k4
  go_enter Tryz.func56, Tryz.ntmps56
  go_wp2
  go_loopw [1, 6] (fun ov iv wr => ov = .slice none 0 0 ∧ iv = .int .i64 0 ∧ wr = w.alloc (.cells #[.int .i64 0, .string ⟨#[]⟩, .int .i64 0, .slice none 0 0] 29)) (fun _ _ _ => 0)
  case atStart => exact ⟨rfl, rfl, rfl⟩
  case round =>
    obtain ⟨rfl, rfl, rfl⟩ := hrel
    go_wp2
    go_ret
    exact ⟨rfl, HZ.out⟩
set_option maxHeartbeats 800000 in
theorem rMetas_zero (w : World) : Calls Tryz.prog 29 #[.agg #[.int .i64 0, .string ⟨#[]⟩, .int .i64 0, .slice none 0 0]] w (NilPost w) := by
  have hz : Below w.heap.size w (w.alloc (.cells #[.int .i64 0, .string ⟨#[]⟩, .int .i64 0, .slice none 0 0] 29)) := (Below.refl w.heap.size w).alloc (Nat.le_refl _) (.cells #[.int .i64 0, .string ⟨#[]⟩, .int .i64 0, .slice none 0 0] 29)
  have k4 := R4.new w (.int .i64 0) (.string ⟨#[]⟩) (.int .i64 0) (.slice none 0 0)
  have C := Lib.hid (rmetas_zero (w.alloc (.cells #[.int .i64 0, .string ⟨#[]⟩, .int .i64 0, .slice none 0 0] 29)))
  have HZ := Lib.hid hz
  have c0 := k4.c0
  have c1 := k4.c1
  have c2 := k4.c2
  have c3 := k4.c3
  clear hz k4
  go_enter Tryz.func29, Tryz.ntmps29
  go_wp2_with fail
  refine C.out.mono ?_
  rintro e w1 ⟨rfl, hB⟩
  have HB := Lib.hid (HZ.out.trans (hB.mono HZ.out.size))
  clear hB
  go_wp2
  go_ret
  exact ⟨rfl, HB.out⟩

/-- both places of the answer are written -/
theorem read_set {w W : World} {b1 b2 : Nat} {u0 u1 u2 u3 v0 v1 v2 v3 : Value} (hb : Below w.heap.size w W) (h1 : w.heap.size ≤ b1) (h2 : w.heap.size ≤ b2) (hne : b1 ≠ b2) (hq : B4 W b1 u0 u1 u2 u3) (hr : R4 W b2 v0 v1 v2 v3) (x0 x1 x2 x3 y0 y1 y2 y3 : Value) :
    let A := ((((W).setCell ⟨b1, 0, none⟩ (x0)).setCell ⟨b1, 1, none⟩ (x1)).setCell ⟨b1, 2, none⟩ (x2)).setCell ⟨b1, 3, none⟩ (x3)
    let B := ((((A).setCell ⟨b2, 0, none⟩ (y0)).setCell ⟨b2, 1, none⟩ (y1)).setCell ⟨b2, 2, none⟩ (y2)).setCell ⟨b2, 3, none⟩ (y3)
    B4 B b1 x0 x1 x2 x3 ∧ R4 B b2 y0 y1 y2 y3 ∧ Below w.heap.size w B ∧ B.heap.size = W.heap.size ∧ ∀ b, b ≠ b1 → b ≠ b2 → B.heap[b]? = W.heap[b]? := by
  intro A B
  have ha : ∀ b, b ≠ b1 → A.heap[b]? = W.heap[b]? := fun b hb => by
    show (((((W).setCell ⟨b1, 0, none⟩ (x0)).setCell ⟨b1, 1, none⟩ (x1)).setCell ⟨b1, 2, none⟩ (x2)).setCell ⟨b1, 3, none⟩ (x3)).heap[b]? = _
    rw [Below.heap_setCell _ _ _ _ hb, Below.heap_setCell _ _ _ _ hb, Below.heap_setCell _ _ _ _ hb, Below.heap_setCell _ _ _ _ hb]
  have hb2 : ∀ b, b ≠ b2 → B.heap[b]? = A.heap[b]? := fun b hb => by
    show (((((A).setCell ⟨b2, 0, none⟩ (y0)).setCell ⟨b2, 1, none⟩ (y1)).setCell ⟨b2, 2, none⟩ (y2)).setCell ⟨b2, 3, none⟩ (y3)).heap[b]? = _
    rw [Below.heap_setCell _ _ _ _ hb, Below.heap_setCell _ _ _ _ hb, Below.heap_setCell _ _ _ _ hb, Below.heap_setCell _ _ _ _ hb]
  have hA : B4 A b1 x0 x1 x2 x3 := B4.set4 hq _ _ _ _
  have hR : R4 A b2 v0 v1 v2 v3 := (ha b2 (Ne.symm hne)).trans hr
  have hsa : A.heap.size = W.heap.size := by
    show (((((W).setCell ⟨b1, 0, none⟩ (x0)).setCell ⟨b1, 1, none⟩ (x1)).setCell ⟨b1, 2, none⟩ (x2)).setCell ⟨b1, 3, none⟩ (x3)).heap.size = _
    simp
  have hsb : B.heap.size = A.heap.size := by
    show (((((A).setCell ⟨b2, 0, none⟩ (y0)).setCell ⟨b2, 1, none⟩ (y1)).setCell ⟨b2, 2, none⟩ (y2)).setCell ⟨b2, 3, none⟩ (y3)).heap.size = _
    simp
  exact ⟨(hb2 b1 hne).trans hA, R4.set4 hR _ _ _ _, (hb.set4 h1 _ _ _ _).set4 h2 _ _ _ _, hsb.trans hsa, fun b h1 h2 => (hb2 b h2).trans (ha b h1)⟩

def ReadOk (w : World) (t : Ty) (b : Bool) (e : Ending) (w' : World) : Prop :=
  ∃ a c a' c', e = .returned (.tuple #[.agg #[.int .i64 t.kind, .string t.name, .int .i64 t.n, .slice a t.args.length c], .agg #[.int .i64 t.kind, .string t.name, .int .i64 t.n, .slice a' t.args.length c'], .bool b]) ∧ Below w.heap.size w w' ∧ AtW t a c w' ∧ AtW t a' c' w'
def ReadNo (w : World) (e : Ending) (w' : World) : Prop := e = .returned (.tuple #[.agg #[.int .i64 0, .string ⟨#[]⟩, .int .i64 0, .slice none 0 0], .agg #[.int .i64 0, .string ⟨#[]⟩, .int .i64 0, .slice none 0 0], .bool false]) ∧ Below w.heap.size w w'

def lowM (t : Ty) : Bool := (metasT t).all fun m => decide (m < 600000)
theorem lowM_no {t : Ty} {k : Nat} (h : k < (metasT t).length) (hk : decide ((600000 : Int) ≤ (metasT t)[k]) = true) : lowM t = false := by
  unfold lowM
  rw [List.all_eq_false]
  refine ⟨_, List.getElem_mem h, ?_⟩
  have := of_decide_eq_true hk
  simp only [decide_eq_true_eq]
  omega
theorem lowM_yes {t : Ty} (h : ∀ j (hj : j < (metasT t).length), decide ((600000 : Int) ≤ (metasT t)[j]) = false) : lowM t = true := by
  unfold lowM
  rw [List.all_eq_true]
  intro x hx
  obtain ⟨j, hj, rfl⟩ := List.getElem_of_mem hx
  have := of_decide_eq_false (h j hj)
  simp only [decide_eq_true_eq]
  omega

set_option maxRecDepth 100000 in
set_option maxHeartbeats 3200000 in
theorem read_bad (w : World) (s : ByteArray) (hs : s.size ≤ maxLen) {er : Nat} (h : parseT s.data.toList = .error er) : Calls Tryz.prog 10 #[.string s] w (ReadNo w) := by
  have hz1 := (Below.refl w.heap.size w).alloc (Nat.le_refl _) (.cells #[.int .i64 0, .string ⟨#[]⟩, .int .i64 0, .slice none 0 0] 26)
  have hz := hz1.alloc hz1.size (.cells #[.int .i64 0, .string ⟨#[]⟩, .int .i64 0, .slice none 0 0] 29)
  have q4 := (B4.new w (.int .i64 0) (.string ⟨#[]⟩) (.int .i64 0) (.slice none 0 0)).low ((Below.refl _ _).alloc (Nat.le_refl _) (.cells #[.int .i64 0, .string ⟨#[]⟩, .int .i64 0, .slice none 0 0] 29))
  have r4 := R4.new (w.alloc (.cells #[.int .i64 0, .string ⟨#[]⟩, .int .i64 0, .slice none 0 0] 26)) (.int .i64 0) (.string ⟨#[]⟩) (.int .i64 0) (.slice none 0 0)
  rw [show (w.alloc (.cells #[.int .i64 0, .string ⟨#[]⟩, .int .i64 0, .slice none 0 0] 26)).heap.size = w.heap.size + 1 from by simp] at r4
  have HZ := Lib.hid hz
  have Q4 := Lib.hid q4
  have RR4 := Lib.hid r4
  have her : ((er : Int) == 0) = false := by have := parse_er h; rw [beq_eq_false_iff_ne]; omega
  have CP := Lib.hid (fun (W : World) => parse_bad W s hs h)
  have CR := Lib.hid (fun (W : World) => rparse_bad W s hs h)
  clear hz1 hz q4 r4 hs h
  go_enter Tryz.func10, Tryz.ntmps10
  go_wp2_with fail
  refine (CP.out _).mono ?_
  rintro e w1 ⟨rfl, hb1, hB1⟩
  have B1 := Lib.hid hB1
  have LE1 : Hid (((w.alloc (.cells #[.int .i64 0, .string ⟨#[]⟩, .int .i64 0, .slice none 0 0] 26)).alloc (.cells #[.int .i64 0, .string ⟨#[]⟩, .int .i64 0, .slice none 0 0] 29)).heap.size ≤ w1.heap.size) := Lib.hid hb1.size
  have k1 := B4.new w1 (.int .i64 0) (.string ⟨#[]⟩) (.int .i64 0) (.slice none 0 0)
  have K1 := Lib.hid k1
  clear hb1 hB1 k1
  go_wp2_with fail
  refine (CR.out _).mono ?_
  rintro e w2 ⟨rfl, hb2, hB2⟩
  have k2 := R4.new w2 (.int .i64 0) (.string ⟨#[]⟩) (.int .i64 0) (.slice none 0 0)
  have K1' := Lib.hid (K1.out.low hB2)
  have B2 := Lib.hid (B1.out.trans (hB2.mono B1.out.size))
  have d0 := k2.c0
  have d1 := k2.c1
  have d2 := k2.c2
  have d3 := k2.c3
  have K2 := Lib.hid k2
  have LE2 : Hid (((w.alloc (.cells #[.int .i64 0, .string ⟨#[]⟩, .int .i64 0, .slice none 0 0] 26)).alloc (.cells #[.int .i64 0, .string ⟨#[]⟩, .int .i64 0, .slice none 0 0] 29)).heap.size ≤ w2.heap.size) := Lib.hid (Nat.le_trans (Nat.le_trans LE1.out (by simp)) hb2.size)
  have CM := Lib.hid (rMetas_zero (w2.alloc (.cells #[.int .i64 0, .string ⟨#[]⟩, .int .i64 0, .slice none 0 0] 29)))
  clear hb2 hB2 k2
  go_wp2_with fail
  refine CM.out.mono ?_
  rintro e w3 ⟨rfl, hb3⟩
  have k1 := K1'.out.low hb3
  have k2 := K2.out.low hb3
  have B3 := Lib.hid (B2.out.trans (hb3.mono B2.out.size))
  have hq := Q4.out.low B3.out
  have hr := RR4.out.low B3.out
  have HQ := Lib.hid hq
  have HR := Lib.hid hr
  have HB := Lib.hid (HZ.out.trans (B3.out.mono HZ.out.size))
  have a0 := k1.c0
  have a1 := k1.c1
  have a2 := k1.c2
  have a3 := k1.c3
  have b0 := k2.c0
  have b1 := k2.c1
  have b2 := k2.c2
  have b3 := k2.c3
  have q0 := hq.c0
  have q1 := hq.c1
  have q2 := hq.c2
  have q3 := hq.c3
  have f0 := hq.fr 0
  have f1 := hq.fr 1
  have f2 := hq.fr 2
  have f3 := hq.fr 3
  have r0 := hr.c0
  have r1 := hr.c1
  have r2 := hr.c2
  have r3 := hr.c3
  have g0 := hr.fr 0
  have g1 := hr.fr 1
  have g2 := hr.fr 2
  have g3 := hr.fr 3
  have NE : Hid (¬ (w.heap.size = w1.heap.size) ∧ ¬ (w.heap.size = w2.heap.size) ∧ ¬ (w.heap.size + 1 = w1.heap.size) ∧ ¬ (w.heap.size + 1 = w2.heap.size)) := Lib.hid (by
    have h0 : ((w.alloc (.cells #[.int .i64 0, .string ⟨#[]⟩, .int .i64 0, .slice none 0 0] 26)).alloc (.cells #[.int .i64 0, .string ⟨#[]⟩, .int .i64 0, .slice none 0 0] 29)).heap.size = w.heap.size + 2 := by simp
    have h1 := LE1.out
    have h2 := LE2.out
    omega)
  have n1 : ¬ (w.heap.size = w2.heap.size) := NE.out.2.1
  have n2 : ¬ (w.heap.size + 1 = w1.heap.size) := NE.out.2.2.1
  have n3 : ¬ (w.heap.size + 1 = w2.heap.size) := NE.out.2.2.2
  have n4 : ¬ (w.heap.size = w1.heap.size) := NE.out.1
  clear hb3 k1 k2 hq hr d0 d1 d2 d3
  obtain ⟨wo, hwo⟩ : ∃ wo : World, wo = w3 := ⟨_, rfl⟩
  subst hwo
  go_wp2
  go_loopw [10] (fun iv wr => iv = .int .i64 0 ∧ wr = wo) (fun _ _ => 0)
  case atStart => exact ⟨rfl, rfl⟩
  case round =>
    obtain ⟨rfl, rfl⟩ := hrel
    go_wp2
    go_region
    all_goals
      go_wp2
      obtain ⟨x5, y5, hB5, hsz5, hoff5⟩ := read_set HB.out (Nat.le_refl _) (Nat.le_succ _) (by omega) HQ.out HR.out (.int .i64 0) (.string ⟨#[]⟩) (.int .i64 0) (.slice none 0 0) (.int .i64 0) (.string ⟨#[]⟩) (.int .i64 0) (.slice none 0 0)
      refine bodyPost_ret (v := .tuple #[.agg #[.int .i64 0, .string ⟨#[]⟩, .int .i64 0, .slice none 0 0], .agg #[.int .i64 0, .string ⟨#[]⟩, .int .i64 0, .slice none 0 0], .bool false]) (by simp [results, Tryz.results10, go_sem, x5.c0, x5.c1, x5.c2, x5.c3, y5.c0, y5.c1, y5.c2, y5.c3]) rfl ?_
      exact ⟨rfl, hB5.drew⟩

set_option maxRecDepth 100000 in
set_option maxHeartbeats 6400000 in
theorem read_ok (w : World) (s : ByteArray) (hs : s.size ≤ maxLen) {t : Ty} (h : parseT s.data.toList = .ok t) : Calls Tryz.prog 10 #[.string s] w (ReadOk w t (lowM t && decide (s.size ≤ 400))) := by
  have hz1 := (Below.refl w.heap.size w).alloc (Nat.le_refl _) (.cells #[.int .i64 0, .string ⟨#[]⟩, .int .i64 0, .slice none 0 0] 26)
  have hz := hz1.alloc hz1.size (.cells #[.int .i64 0, .string ⟨#[]⟩, .int .i64 0, .slice none 0 0] 29)
  have q4 := (B4.new w (.int .i64 0) (.string ⟨#[]⟩) (.int .i64 0) (.slice none 0 0)).low ((Below.refl _ _).alloc (Nat.le_refl _) (.cells #[.int .i64 0, .string ⟨#[]⟩, .int .i64 0, .slice none 0 0] 29))
  have r4 := R4.new (w.alloc (.cells #[.int .i64 0, .string ⟨#[]⟩, .int .i64 0, .slice none 0 0] 26)) (.int .i64 0) (.string ⟨#[]⟩) (.int .i64 0) (.slice none 0 0)
  rw [show (w.alloc (.cells #[.int .i64 0, .string ⟨#[]⟩, .int .i64 0, .slice none 0 0] 26)).heap.size = w.heap.size + 1 from by simp] at r4
  have HZ := Lib.hid hz
  have Q4 := Lib.hid q4
  have RR4 := Lib.hid r4
  have SM := Lib.hid (small_parse h)
  have hsn : s.size ≤ 9223372036854775807 := by unfold maxLen at hs; exact hs
  have CP := Lib.hid (fun (W : World) => parse_any W s hs)
  have CR := Lib.hid (fun (W : World) => rparse_any W s hs)
  rw [h] at CP CR
  clear hz1 hz q4 r4 hs h
  go_enter Tryz.func10, Tryz.ntmps10
  go_wp2_with fail
  refine (CP.out _).mono ?_
  rintro e w1 ⟨hb1, a, c, rfl, hA1⟩
  have hB1 := hb1.trans (((Below.refl _ _).alloc (Nat.le_refl _) (.cells #[.int .i64 t.kind, .string t.name, .int .i64 t.n, .slice a t.args.length c] 26)).mono hb1.size)
  have B1 := Lib.hid hB1
  have A1 := Lib.hid hA1
  have LE1 : Hid (((w.alloc (.cells #[.int .i64 0, .string ⟨#[]⟩, .int .i64 0, .slice none 0 0] 26)).alloc (.cells #[.int .i64 0, .string ⟨#[]⟩, .int .i64 0, .slice none 0 0] 29)).heap.size ≤ w1.heap.size) := Lib.hid hb1.size
  have k1 := B4.new w1 (.int .i64 t.kind) (.string t.name) (.int .i64 t.n) (.slice a t.args.length c)
  have K1 := Lib.hid k1
  clear hb1 hB1 k1 hA1
  unfold tv
  go_wp2_with fail
  refine (CR.out _).mono ?_
  rintro e w2 ⟨hb2, a2, c2, rfl, hA2⟩
  have hB2 := hb2.trans (((Below.refl _ _).alloc (Nat.le_refl _) (.cells #[.int .i64 t.kind, .string t.name, .int .i64 t.n, .slice a2 t.args.length c2] 29)).mono hb2.size)
  have A2 := Lib.hid hA2
  have k2 := R4.new w2 (.int .i64 t.kind) (.string t.name) (.int .i64 t.n) (.slice a2 t.args.length c2)
  have K1' := Lib.hid (K1.out.low hB2)
  have B2 := Lib.hid (B1.out.trans (hB2.mono B1.out.size))
  have d0 := k2.c0
  have d1 := k2.c1
  have d2 := k2.c2
  have d3 := k2.c3
  have K2 := Lib.hid k2
  have LE2 : Hid (((w.alloc (.cells #[.int .i64 0, .string ⟨#[]⟩, .int .i64 0, .slice none 0 0] 26)).alloc (.cells #[.int .i64 0, .string ⟨#[]⟩, .int .i64 0, .slice none 0 0] 29)).heap.size ≤ w2.heap.size ∧ w1.heap.size < w2.heap.size) := Lib.hid (by have := hb2.size; have := LE1.out; simp at *; omega)
  have A1' := Lib.hid ((A1.out.keep (A := w1) (B := w2.alloc (.cells #[.int .i64 t.kind, .string t.name, .int .i64 t.n, .slice a2 t.args.length c2] 29)) fun b hb => (hB2.block b (by have := hb.2; simp; omega)).trans (heap_alloc_old w1 _ hb.2)))
  have A2' := Lib.hid (A2.out.keep (A := w2) (B := w2.alloc (.cells #[.int .i64 t.kind, .string t.name, .int .i64 t.n, .slice a2 t.args.length c2] 29)) fun b hb => heap_alloc_old w2 _ hb.2)
  have CM := Lib.hid (rMetas_any t _ a2 c2 (w2.alloc (.cells #[.int .i64 t.kind, .string t.name, .int .i64 t.n, .slice a2 t.args.length c2] 29)) A2'.out (fun b hb => by have := hb.2; simp; omega) SM.out.1.1 (Nat.le_trans SM.out.2 (by decide)))
  clear hb2 hB2 k2 hA2 A1 A2
  unfold tv at CM ⊢
  go_wp2_with fail
  refine CM.out.mono ?_
  rintro e w3 ⟨mv, rfl, hmv, hb3⟩
  obtain ⟨⟨ma, mc, rfl, hm1, hm2, hmc⟩, _⟩ := hmv
  have k1 := K1'.out.low hb3
  have k2 := K2.out.low hb3
  have B3 := Lib.hid (B2.out.trans (hb3.mono B2.out.size))
  have hq := Q4.out.low B3.out
  have hr := RR4.out.low B3.out
  have HQ := Lib.hid hq
  have HR := Lib.hid hr
  have HB := Lib.hid (HZ.out.trans (B3.out.mono HZ.out.size))
  have HMC := Lib.hid hmc
  have LE3 : Hid (w2.heap.size < w3.heap.size) := Lib.hid (by have := hb3.size; simp at this; omega)
  have A1'' := Lib.hid (A1'.out.keep (A := w2.alloc (.cells #[.int .i64 t.kind, .string t.name, .int .i64 t.n, .slice a2 t.args.length c2] 29)) (B := w3) fun b hb => hb3.block b (by have := hb.2; have := LE2.out.2; simp; omega))
  have A2'' := Lib.hid (A2'.out.keep (A := w2.alloc (.cells #[.int .i64 t.kind, .string t.name, .int .i64 t.n, .slice a2 t.args.length c2] 29)) (B := w3) fun b hb => hb3.block b (by have := hb.2; simp; omega))
  have a0 := k1.c0
  have a1 := k1.c1
  have a2' := k1.c2
  have a3 := k1.c3
  have b0 := k2.c0
  have b1 := k2.c1
  have b2 := k2.c2
  have b3 := k2.c3
  have q0 := hq.c0
  have q1 := hq.c1
  have q2 := hq.c2
  have q3 := hq.c3
  have f0 := hq.fr 0
  have f1 := hq.fr 1
  have f2 := hq.fr 2
  have f3 := hq.fr 3
  have r0 := hr.c0
  have r1 := hr.c1
  have r2 := hr.c2
  have r3 := hr.c3
  have g0 := hr.fr 0
  have g1 := hr.fr 1
  have g2 := hr.fr 2
  have g3 := hr.fr 3
  have NE : Hid (¬ (w.heap.size = w1.heap.size) ∧ ¬ (w.heap.size = w2.heap.size) ∧ ¬ (w.heap.size + 1 = w1.heap.size) ∧ ¬ (w.heap.size + 1 = w2.heap.size)) := Lib.hid (by
    have h0 : ((w.alloc (.cells #[.int .i64 0, .string ⟨#[]⟩, .int .i64 0, .slice none 0 0] 26)).alloc (.cells #[.int .i64 0, .string ⟨#[]⟩, .int .i64 0, .slice none 0 0] 29)).heap.size = w.heap.size + 2 := by simp
    have h1 := LE1.out
    have h2 := LE2.out.1
    omega)
  have n1 : ¬ (w.heap.size = w2.heap.size) := NE.out.2.1
  have n2 : ¬ (w.heap.size + 1 = w1.heap.size) := NE.out.2.2.1
  have n3 : ¬ (w.heap.size + 1 = w2.heap.size) := NE.out.2.2.2
  have n4 : ¬ (w.heap.size = w1.heap.size) := NE.out.1
  clear hb3 k1 k2 hq hr d0 d1 d2 d3 hmc
  obtain ⟨wo, hwo⟩ : ∃ wo : World, wo = w3 := ⟨_, rfl⟩
  subst hwo
  have AF : Hid (∀ W : World, W.heap.size = wo.heap.size → (∀ b, b ≠ w.heap.size → b ≠ w.heap.size + 1 → W.heap[b]? = wo.heap[b]?) → AtW t a c W.drew) := Lib.hid (fun W h1 h2 => (A1''.out.keep (A := wo) (B := W.drew) fun b hb => h2 b (by have := hb.1; simp at this; omega) (by have := hb.1; simp at this; omega)).mono fun b hb => by
    show b < W.heap.size
    rw [h1]; have := hb.2; have := LE2.out.2; have := LE3.out; omega)
  have AG : Hid (∀ W : World, W.heap.size = wo.heap.size → (∀ b, b ≠ w.heap.size → b ≠ w.heap.size + 1 → W.heap[b]? = wo.heap[b]?) → AtW t a2 c2 W.drew) := Lib.hid (fun W h1 h2 => (A2''.out.keep (A := wo) (B := W.drew) fun b hb => h2 b (by have := hb.1; have := LE1.out; simp at *; omega) (by have := hb.1; have := LE1.out; simp at *; omega)).mono fun b hb => by
    show b < W.heap.size
    rw [h1]; have := hb.2; have := LE3.out; omega)
  have ML : Hid ((metasT t).length ≤ 1099511627776) := Lib.hid (by omega)
  clear A1' A1'' A2' A2'' LE1 LE2 LE3 NE
  generalize hms : metasT t = ms at *
  have hml := ML.out
  go_wp2
  go_loopw [10] (fun iv wr => ∃ k : Nat, iv = .int .i64 k ∧ k ≤ ms.length ∧ (∀ j (hj : j < ms.length), j < k → decide ((600000 : Int) ≤ ms[j]) = false) ∧ wr = wo) (fun iv _ => ms.length - (intOf iv).toNat)
  case atStart => exact ⟨0, rfl, Nat.zero_le _, fun j _ hj => by omega, rfl⟩
  case round =>
    obtain ⟨k, rfl, hk, hno, rfl⟩ := hrel
    have NO := Lib.hid hno
    clear hno
    by_cases hi : k < ms.length
    · have z0 : (0 : Int) ≤ (k : Int) := by omega
      have z1 : (k : Int) < (ms.length : Int) := by omega
      obtain ⟨b, off, rfl, _, hcc⟩ := HMC.out.resolve_left (by intro e; rw [e] at hi; simp at hi)
      have hcell := hcc k hi
      clear hcc
      cases hge : decide ((600000 : Int) ≤ ms[k]) with
      | true =>
        have LO : Hid (lowM t = false) := Lib.hid (by subst hms; exact lowM_no hi hge)
        clear hms
        go_wp2
        go_region
        all_goals
          go_wp2
          obtain ⟨x5, y5, hB5, hsz5, hoff5⟩ := read_set HB.out (Nat.le_refl _) (Nat.le_succ _) (by omega) HQ.out HR.out (.int .i64 t.kind) (.string t.name) (.int .i64 t.n) (.slice a t.args.length c) (.int .i64 t.kind) (.string t.name) (.int .i64 t.n) (.slice a2 t.args.length c2)
          refine bodyPost_ret (v := .tuple #[.agg #[.int .i64 t.kind, .string t.name, .int .i64 t.n, .slice a t.args.length c], .agg #[.int .i64 t.kind, .string t.name, .int .i64 t.n, .slice a2 t.args.length c2], .bool false]) (by simp [results, Tryz.results10, go_sem, x5.c0, x5.c1, x5.c2, x5.c3, y5.c0, y5.c1, y5.c2, y5.c3]) rfl ?_
          exact (by rw [LO.out, Bool.false_and]; exact ⟨a, c, a2, c2, rfl, hB5.drew, AF.out _ hsz5 hoff5, AG.out _ hsz5 hoff5⟩)
      | false =>
        have NO2 := Lib.hid (show ∀ j (hj : j < ms.length), j < k + 1 → decide ((600000 : Int) ≤ ms[j]) = false from fun j hj hjk => by
          rcases Nat.lt_or_ge j k with h | h
          · exact NO.out j hj h
          · obtain rfl : j = k := by omega
            exact hge)
        go_wp2
        go_roundw
        case rel => exact ⟨k + 1, by go_num, by omega, NO2.out, by trivial⟩
        case measure => simp [intOf]; omega
    · obtain rfl : k = ms.length := by omega
      have LO : Hid (lowM t = true) := Lib.hid (by subst hms; exact lowM_yes fun j hj => NO.out j hj hj)
      clear hms
      cases hle : decide ((s.size : Int) ≤ 400) with
      | true =>
        have SE : Hid (decide (s.size ≤ 400) = true) := Lib.hid (by have := of_decide_eq_true hle; exact decide_eq_true (by omega))
        go_wp2
        go_region
        all_goals
          go_wp2
          obtain ⟨x5, y5, hB5, hsz5, hoff5⟩ := read_set HB.out (Nat.le_refl _) (Nat.le_succ _) (by omega) HQ.out HR.out (.int .i64 t.kind) (.string t.name) (.int .i64 t.n) (.slice a t.args.length c) (.int .i64 t.kind) (.string t.name) (.int .i64 t.n) (.slice a2 t.args.length c2)
          refine bodyPost_ret (v := .tuple #[.agg #[.int .i64 t.kind, .string t.name, .int .i64 t.n, .slice a t.args.length c], .agg #[.int .i64 t.kind, .string t.name, .int .i64 t.n, .slice a2 t.args.length c2], .bool true]) (by simp [results, Tryz.results10, go_sem, x5.c0, x5.c1, x5.c2, x5.c3, y5.c0, y5.c1, y5.c2, y5.c3]) rfl ?_
          exact (by rw [LO.out, SE.out, Bool.true_and]; exact ⟨a, c, a2, c2, rfl, hB5.drew, AF.out _ hsz5 hoff5, AG.out _ hsz5 hoff5⟩)
      | false =>
        have SE : Hid (decide (s.size ≤ 400) = false) := Lib.hid (by have := of_decide_eq_false hle; exact decide_eq_false (by omega))
        go_wp2
        go_region
        all_goals
          go_wp2
          obtain ⟨x5, y5, hB5, hsz5, hoff5⟩ := read_set HB.out (Nat.le_refl _) (Nat.le_succ _) (by omega) HQ.out HR.out (.int .i64 t.kind) (.string t.name) (.int .i64 t.n) (.slice a t.args.length c) (.int .i64 t.kind) (.string t.name) (.int .i64 t.n) (.slice a2 t.args.length c2)
          refine bodyPost_ret (v := .tuple #[.agg #[.int .i64 t.kind, .string t.name, .int .i64 t.n, .slice a t.args.length c], .agg #[.int .i64 t.kind, .string t.name, .int .i64 t.n, .slice a2 t.args.length c2], .bool false]) (by simp [results, Tryz.results10, go_sem, x5.c0, x5.c1, x5.c2, x5.c3, y5.c0, y5.c1, y5.c2, y5.c3]) rfl ?_
          exact (by rw [LO.out, SE.out, Bool.true_and]; exact ⟨a, c, a2, c2, rfl, hB5.drew, AF.out _ hsz5 hoff5, AG.out _ hsz5 hoff5⟩)

end Go.Proofs.YtofllmemmggapaaGreatDoor.Tp

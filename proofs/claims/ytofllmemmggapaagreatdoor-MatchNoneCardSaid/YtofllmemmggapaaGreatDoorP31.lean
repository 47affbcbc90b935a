/- Texts laid together: TyPutB. -/
import Derived.Test.YtofllmemmggapaaGreatDoorP18
import Derived.Test.YtofllmemmggapaaGreatDoorP30
import Derived.BigQuiet
import Derived.Deep.RegionHeld3

/- The walk of Put, but for a name that is taken. -/
namespace Go.Proofs.YtofllmemmggapaaGreatDoor.Tp
open Go.RowKit

/-- memory in Put -/
structure PutMem (k : Int) (s : ByteArray) (m : Int) (sl : Value) (nm : ByteArray) (u : Ty) (ua : Option Addr) (uc : Nat) (w W : World) : Prop where
  hz : Below w.heap.size w W
  k4 : B4 W w.heap.size (.int .i64 k) (.string s) (.int .i64 m) sl
  hn : W.heap[w.heap.size + 1]? = some (.cells #[.string nm] 9 (0, 0))
  hu : B4 W (w.heap.size + 2) (.int .i64 u.kind) (.string u.name) (.int .i64 u.n) (.slice ua u.args.length uc)
  q4 : B4 W (w.heap.size + 3) (.int .i64 0) (.string ⟨#[]⟩) (.int .i64 0) (.slice none 0 0)
  size : w.heap.size + 4 ≤ W.heap.size

theorem putMem (k : Int) (s : ByteArray) (m : Int) (sl : Value) (nm : ByteArray) (u : Ty) (ua : Option Addr) (uc : Nat) (w : World) : PutMem k s m sl nm u ua uc w ((((w.alloc (.cells #[.int .i64 k, .string s, .int .i64 m, sl] 26)).alloc (.cells #[.string nm] 9)).alloc (.cells #[.int .i64 u.kind, .string u.name, .int .i64 u.n, .slice ua u.args.length uc] 26)).alloc (.cells #[.int .i64 0, .string ⟨#[]⟩, .int .i64 0, .slice none 0 0] 26)) := by
  refine ⟨four_allocs _ _ _ _ _, ?_, ?_, ?_, alloc_new (by simp), by simp⟩
  · exact (((B4.new w _ _ _ _).low ((Below.refl _ _).alloc (Nat.le_refl _) _)).low ((Below.refl _ _).alloc (Nat.le_refl _) _)).low ((Below.refl _ _).alloc (Nat.le_refl _) _)
  · rw [heap_alloc_old _ _ (by simp), heap_alloc_old _ _ (by simp)]
    exact alloc_new (by simp)
  · unfold B4
    rw [heap_alloc_old _ _ (by simp)]
    exact alloc_new (by simp)
theorem PutMem.low {k : Int} {s : ByteArray} {m : Int} {sl : Value} {nm : ByteArray} {u : Ty} {ua : Option Addr} {uc : Nat} {w W W' : World} (R : PutMem k s m sl nm u ua uc w W) (h : Below W.heap.size W W') : PutMem k s m sl nm u ua uc w W' := by
  have := R.size
  exact ⟨R.hz.trans (h.mono R.hz.size), R.k4.low h, (h.block _ (by omega)).trans R.hn, R.hu.low h, R.q4.low h, Nat.le_trans R.size h.size⟩
theorem PutMem.sett {k : Int} {s : ByteArray} {m : Int} {sl : Value} {nm : ByteArray} {u : Ty} {ua : Option Addr} {uc : Nat} {w W : World} (R : PutMem k s m sl nm u ua uc w W) (k' : Int) (s' : ByteArray) (m' : Int) (sl' : Value) :
    PutMem k' s' m' sl' nm u ua uc w ((((W.setCell ⟨w.heap.size, 0, none⟩ (.int .i64 k')).setCell ⟨w.heap.size, 1, none⟩ (.string s')).setCell ⟨w.heap.size, 2, none⟩ (.int .i64 m')).setCell ⟨w.heap.size, 3, none⟩ sl') := by
  have h := same_set4 W w.heap.size (.int .i64 k') (.string s') (.int .i64 m') sl'
  exact ⟨R.hz.set4 (Nat.le_refl _) _ _ _ _, B4.set4 R.k4 _ _ _ _, (h.off _ (by omega)).trans R.hn, (h.off _ (by omega)).trans R.hu, (h.off _ (by omega)).trans R.q4, by rw [h.size]; exact R.size⟩

/-- the call of with in Put: whatever type stands in the box -/
theorem put_call (d : Nat) (ih : PutSaid d) (nm : ByteArray) (u t : Ty) (S S0 : Nat → Prop) (a ua : Option Addr) (c uc : Nat) (k : Int) (s : ByteArray) (m : Int) (sl : Value) (w W0 : World) (R : PutMem k s m sl nm u ua uc w W0) (hg : Good t) (hgu : Good u) (hd : ∀ x ∈ t.args, x.depth ≤ d) (hs : sizeL t.args ≤ 1073741824) (hsu : u.size ≤ 1073741824)
    (hA : ArgsAt S W0 (.slice a t.args.length c) t.args) (hU : ArgsAt S0 w (.slice ua u.args.length uc) u.args) (hS : ∀ b, S b → b < W0.heap.size) (hS0 : ∀ b, S0 b → b < w.heap.size) (hSS : ∀ b, S0 b → S b) (hT : Tab w) :
    Calls Tryz.prog 64 #[tv t a c, .func (.func 86) #[] #[.pointer (some ⟨w.heap.size + 1, 0, none⟩), .pointer (some ⟨w.heap.size + 2, 0, none⟩)]] W0 (TP S (withT t (t.args.map (PutF d nm u))) W0) := by
  have hal := length_le_sizeL t.args
  have hsz := R.size
  have CW := with_any 86 #[.pointer (some ⟨w.heap.size + 1, 0, none⟩), .pointer (some ⟨w.heap.size + 2, 0, none⟩)] Put1Enters noT noI (fun (_ : Unit) x => (PutF d nm u x, ())) t () S a c W0 trivial (fun _ _ _ _ _ => trivial) hA (fun b hb => ⟨hS b hb, id⟩) (fun b hb => hb.elim) (by omega)
    (fun i hi a' c' W _ hK hA' => by
      have hmi := List.getElem_mem hi
      have hkb := hK.to_below
      have hwW := R.hz.trans (hkb.mono R.hz.size)
      exact (Put1_any d ih nm u (w.heap.size + 1) (w.heap.size + 2) t.args[i] S a' ua c' uc W ((hkb.block _ (by omega)).trans R.hn) (R.hu.low hkb) (good_args hg _ hmi) hgu (hd _ hmi) (by have := size_arg _ hmi; omega) hsu hA' ((hU.keep fun b hb => hwW.block b (hS0 b hb)).mono hSS) (fun b hb => Nat.lt_of_lt_of_le (hS b hb) hkb.size) (tab_below hT hwW)).mono fun e W' h => h.post)
  rw [mapAcc_unit] at CW
  exact CW.mono fun e W' h => TP.of h

set_option maxRecDepth 100000 in
set_option maxHeartbeats 1600000 in
theorem put_same (d : Nat) (nm : ByteArray) (u t : Ty) (S : Nat → Prop) (a ua : Option Addr) (c uc : Nat) (w : World) (hk : t.kind = 5) (hn : t.name = nm) (hA : ArgsAt S w (.slice a t.args.length c) t.args) (hS : ∀ b, S b → b < w.heap.size) : Calls Tryz.prog 60 #[tv t a c, .string nm, tv u ua uc] w (TP S (PutF (d + 1) nm u t) w) := by
  have R := putMem t.kind t.name t.n (.slice a t.args.length c) nm u ua uc w
  have e0 := cell_of_row _ _ 0 _ _ _ R.hn
  have c0 := R.k4.c0
  have c1 := R.k4.c1
  have c2 := R.k4.c2
  have c3 := R.k4.c3
  have d0 := R.hu.c0
  have d1 := R.hu.c1
  have d2 := R.hu.c2
  have d3 := R.hu.c3
  have z1 : (t.kind == 5) = true := by rw [beq_iff_eq]; exact hk
  have z2 := beqN_true hn
  have E := Lib.hid (PutF_same d nm u t hk hn)
  have HA := Lib.hid hA
  have HS := Lib.hid hS
  unfold tv
  clear R hk hn hA hS
  go_enter Tryz.func60, Tryz.ntmps60
  go_wp2
  have q5 : B4 ((((w.alloc (.cells #[.int .i64 t.kind, .string t.name, .int .i64 t.n, .slice a t.args.length c] 26)).alloc (.cells #[.string nm] 9)).alloc (.cells #[.int .i64 u.kind, .string u.name, .int .i64 u.n, .slice ua u.args.length uc] 26)).alloc (.cells #[.int .i64 t.kind, .string t.name, .int .i64 t.n, .slice a t.args.length c] 26)) (w.heap.size + 3) (.int .i64 t.kind) (.string t.name) (.int .i64 t.n) (.slice a t.args.length c) := alloc_new (by simp)
  refine bodyPost_ret (v := .agg #[.int .i64 t.kind, .string t.name, .int .i64 t.n, .slice a t.args.length c]) (by simp [results, Tryz.results60, go_sem, q5.c0, q5.c1, q5.c2, q5.c3]) rfl ?_
  have hb := four_allocs w (.cells #[.int .i64 t.kind, .string t.name, .int .i64 t.n, .slice a t.args.length c] 26) (.cells #[.string nm] 9) (.cells #[.int .i64 u.kind, .string u.name, .int .i64 u.n, .slice ua u.args.length uc] 26) (.cells #[.int .i64 t.kind, .string t.name, .int .i64 t.n, .slice a t.args.length c] 26)
  rw [E.out]
  exact ⟨a, c, rfl, (HA.out.keep fun b h => hb.block b (HS.out b h)).mono fun b h => .inl h, hb⟩

set_option maxRecDepth 100000 in
set_option maxHeartbeats 1600000 in
theorem put_var (d : Nat) (nm : ByteArray) (u t : Ty) (S : Nat → Prop) (a ua : Option Addr) (c uc : Nat) (w : World) (hk : t.kind = 1) (hn : t.name = nm) (hU : ArgsAt S w (.slice ua u.args.length uc) u.args) (hS : ∀ b, S b → b < w.heap.size) : Calls Tryz.prog 60 #[tv t a c, .string nm, tv u ua uc] w (TP S (PutF (d + 1) nm u t) w) := by
  have R := putMem t.kind t.name t.n (.slice a t.args.length c) nm u ua uc w
  have e0 := cell_of_row _ _ 0 _ _ _ R.hn
  have c0 := R.k4.c0
  have c1 := R.k4.c1
  have c2 := R.k4.c2
  have c3 := R.k4.c3
  have d0 := R.hu.c0
  have d1 := R.hu.c1
  have d2 := R.hu.c2
  have d3 := R.hu.c3
  have z1 : (t.kind == 1) = true := by rw [beq_iff_eq]; exact hk
  have z3 : (t.kind == 5) = false := by rw [beq_eq_false_iff_ne]; omega
  have z2 := beqN_true hn
  have E := Lib.hid (PutF_var d nm u t hk hn)
  have HA := Lib.hid hU
  have HS := Lib.hid hS
  unfold tv
  clear R hk hn hS hU
  go_enter Tryz.func60, Tryz.ntmps60
  go_wp2
  have q5 : B4 ((((w.alloc (.cells #[.int .i64 t.kind, .string t.name, .int .i64 t.n, .slice a t.args.length c] 26)).alloc (.cells #[.string nm] 9)).alloc (.cells #[.int .i64 u.kind, .string u.name, .int .i64 u.n, .slice ua u.args.length uc] 26)).alloc (.cells #[.int .i64 u.kind, .string u.name, .int .i64 u.n, .slice ua u.args.length uc] 26)) (w.heap.size + 3) (.int .i64 u.kind) (.string u.name) (.int .i64 u.n) (.slice ua u.args.length uc) := alloc_new (by simp)
  refine bodyPost_ret (v := .agg #[.int .i64 u.kind, .string u.name, .int .i64 u.n, .slice ua u.args.length uc]) (by simp [results, Tryz.results60, go_sem, q5.c0, q5.c1, q5.c2, q5.c3]) rfl ?_
  have hb := four_allocs w (.cells #[.int .i64 t.kind, .string t.name, .int .i64 t.n, .slice a t.args.length c] 26) (.cells #[.string nm] 9) (.cells #[.int .i64 u.kind, .string u.name, .int .i64 u.n, .slice ua u.args.length uc] 26) (.cells #[.int .i64 u.kind, .string u.name, .int .i64 u.n, .slice ua u.args.length uc] 26)
  rw [E.out]
  exact ⟨ua, uc, rfl, (HA.out.keep fun b h => hb.block b (HS.out b h)).mono fun b h => .inl h, hb⟩

set_option maxRecDepth 100000 in
set_option maxHeartbeats 3200000 in
theorem put_plain (d : Nat) (nm : ByteArray) (u t : Ty) (S : Nat → Prop) (a ua : Option Addr) (c uc : Nat) (w : World) (ih : PutSaid d) (h5 : t.kind ≠ 5) (h1 : t.kind = 1 → t.name ≠ nm) (hg : Good t) (hgu : Good u) (hd : t.depth ≤ d + 1) (hs : t.size ≤ 1073741824) (hsu : u.size ≤ 1073741824) (hA : ArgsAt S w (.slice a t.args.length c) t.args) (hU : ArgsAt S w (.slice ua u.args.length uc) u.args) (hS : ∀ b, S b → b < w.heap.size) (hT : Tab w) : Calls Tryz.prog 60 #[tv t a c, .string nm, tv u ua uc] w (TP S (PutF (d + 1) nm u t) w) := by
  have R := putMem t.kind t.name t.n (.slice a t.args.length c) nm u ua uc w
  have e0 := cell_of_row _ _ 0 _ _ _ R.hn
  have c0 := R.k4.c0
  have c1 := R.k4.c1
  have c2 := R.k4.c2
  have c3 := R.k4.c3
  have d0 := R.hu.c0
  have d1 := R.hu.c1
  have d2 := R.hu.c2
  have d3 := R.hu.c3
  have E := Lib.hid (PutF_with d nm u t h1 (fun h => absurd h h5))
  have z3 : (t.kind == 5) = false := by rw [beq_eq_false_iff_ne]; exact h5
  have hsz := t.size_eq
  have hdp := t.depth_eq
  have CW := Lib.hid (fun (W : World) (h : Below ((((w.alloc (.cells #[.int .i64 t.kind, .string t.name, .int .i64 t.n, .slice a t.args.length c] 26)).alloc (.cells #[.string nm] 9)).alloc (.cells #[.int .i64 u.kind, .string u.name, .int .i64 u.n, .slice ua u.args.length uc] 26)).alloc (.cells #[.int .i64 0, .string ⟨#[]⟩, .int .i64 0, .slice none 0 0] 26)).heap.size ((((w.alloc (.cells #[.int .i64 t.kind, .string t.name, .int .i64 t.n, .slice a t.args.length c] 26)).alloc (.cells #[.string nm] 9)).alloc (.cells #[.int .i64 u.kind, .string u.name, .int .i64 u.n, .slice ua u.args.length uc] 26)).alloc (.cells #[.int .i64 0, .string ⟨#[]⟩, .int .i64 0, .slice none 0 0] 26)) W) => put_call d ih nm u t S S a ua c uc _ _ _ _ w W (R.low h) hg hgu (fun x hx => by have := depth_arg _ hx; omega) (by omega) hsu (hA.keep fun b hb => (R.low h).hz.block b (hS b hb)) hU (fun b hb => Nat.lt_of_lt_of_le (hS b hb) (R.low h).hz.size) hS (fun b hb => hb) hT)
  have k0 := later_cell c0
  have k1 := later_cell c1
  have k2 := later_cell c2
  have k3 := later_cell c3
  have HS := Lib.hid hS
  have RH := Lib.hid R
  have q : (t.kind == 1) = true ∧ (t.name.toList == nm.toList) = false ∨ (t.kind == 1) = false := by
    by_cases hk1 : t.kind = 1
    · exact .inl ⟨by rw [beq_iff_eq]; exact hk1, beqN_false (h1 hk1)⟩
    · exact .inr (by rw [beq_eq_false_iff_ne]; exact hk1)
  unfold tv at *
  clear R h1 h5 hg hgu hd hs hsu hA hU hS hT hsz hdp ih
  rcases q with ⟨z1, z2⟩ | z1
  all_goals
    go_enter Tryz.func60, Tryz.ntmps60
    go_wp2
    refine wp_region_later (by kernel_rfl) (by kernel_rfl) ?_
    repeat (go_big_quiet_step (fail))
    refine wpQuiet_nil ?_
    intro _ hw'
    obtain ⟨pq, hw''⟩ := hw'
    subst hw''
    have HL := Lib.hid (later_below ((((w.alloc (.cells #[.int .i64 t.kind, .string t.name, .int .i64 t.n, .slice a t.args.length c] 26)).alloc (.cells #[.string nm] 9)).alloc (.cells #[.int .i64 u.kind, .string u.name, .int .i64 u.n, .slice ua u.args.length uc] 26)).alloc (.cells #[.int .i64 0, .string ⟨#[]⟩, .int .i64 0, .slice none 0 0] 26)) pq)
    have RL := Lib.hid (RH.out.low HL.out)
    generalize later ((((w.alloc (.cells #[.int .i64 t.kind, .string t.name, .int .i64 t.n, .slice a t.args.length c] 26)).alloc (.cells #[.string nm] 9)).alloc (.cells #[.int .i64 u.kind, .string u.name, .int .i64 u.n, .slice ua u.args.length uc] 26)).alloc (.cells #[.int .i64 0, .string ⟨#[]⟩, .int .i64 0, .slice none 0 0] 26)) pq = W1 at *
    have CX := Lib.hid (CW.out W1 HL.out)
    clear CW c0 c1 c2 c3 d0 d1 d2 d3 e0 HL k0 k1 k2 k3
    have l0 := RL.out.k4.c0
    have l1 := RL.out.k4.c1
    have l2 := RL.out.k4.c2
    have l3 := RL.out.k4.c3
    go_wp2_with fail
    refine CX.out.mono ?_
    rintro e W2 ⟨a2, c2', rfl, hA2, hb2⟩
    have q4 := RL.out.q4.low hb2
    have r0 := q4.c0
    have r1 := q4.c1
    have r2 := q4.c2
    have r3 := q4.c3
    have u0 := q4.fr 0
    have u1 := q4.fr 1
    have u2 := q4.fr 2
    have u3 := q4.fr 3
    have HA2 := Lib.hid hA2
    have HB2 := Lib.hid hb2
    clear hA2 hb2
    generalize withT t (t.args.map (PutF d nm u)) = y at *
    unfold tv
    go_wp2
    have q5 := B4.set4 q4 (.int .i64 y.kind) (.string y.name) (.int .i64 y.n) (.slice a2 y.args.length c2')
    exact bodyPost_ret (v := tv y a2 c2') (by simp [results, Tryz.results60, go_sem, tv, q5.c0, q5.c1, q5.c2, q5.c3]) rfl (by rw [E.out]; exact TP.stored (R := w.heap.size + 3) HS.out RL.out.hz HA2.out HB2.out (by omega) (by have := RL.out.size; omega))

set_option maxRecDepth 100000 in
set_option maxHeartbeats 3200000 in
theorem put_free (d : Nat) (nm : ByteArray) (u t : Ty) (S : Nat → Prop) (a ua : Option Addr) (c uc : Nat) (w : World) (ih : PutSaid d) (h5 : t.kind = 5) (h1 : t.name ≠ nm) (hnf : hasN (freeT u) t.name = false) (hg : Good t) (hgu : Good u) (hd : t.depth ≤ d + 1) (hs : t.size ≤ 1073741824) (hsu : u.size ≤ 1073741824) (hA : ArgsAt S w (.slice a t.args.length c) t.args) (hU : ArgsAt S w (.slice ua u.args.length uc) u.args) (hS : ∀ b, S b → b < w.heap.size) (hT : Tab w) : Calls Tryz.prog 60 #[tv t a c, .string nm, tv u ua uc] w (TP S (PutF (d + 1) nm u t) w) := by
  have R := putMem t.kind t.name t.n (.slice a t.args.length c) nm u ua uc w
  have e0 := cell_of_row _ _ 0 _ _ _ R.hn
  have c0 := R.k4.c0
  have c1 := R.k4.c1
  have c2 := R.k4.c2
  have c3 := R.k4.c3
  have d0 := R.hu.c0
  have d1 := R.hu.c1
  have d2 := R.hu.c2
  have d3 := R.hu.c3
  have E := Lib.hid (PutF_with d nm u t (fun h => by omega) (fun _ => ⟨h1, hnf⟩))
  have z3 : (t.kind == 5) = true := by rw [beq_iff_eq]; exact h5
  have z1 : (t.kind == 1) = false := by rw [beq_eq_false_iff_ne]; omega
  have z2 := beqN_false h1
  have hsz := t.size_eq
  have hdp := t.depth_eq
  have hfl := freeT_len u
  have CW := Lib.hid (fun (W : World) (h : Below ((((w.alloc (.cells #[.int .i64 t.kind, .string t.name, .int .i64 t.n, .slice a t.args.length c] 26)).alloc (.cells #[.string nm] 9)).alloc (.cells #[.int .i64 u.kind, .string u.name, .int .i64 u.n, .slice ua u.args.length uc] 26)).alloc (.cells #[.int .i64 0, .string ⟨#[]⟩, .int .i64 0, .slice none 0 0] 26)).heap.size ((((w.alloc (.cells #[.int .i64 t.kind, .string t.name, .int .i64 t.n, .slice a t.args.length c] 26)).alloc (.cells #[.string nm] 9)).alloc (.cells #[.int .i64 u.kind, .string u.name, .int .i64 u.n, .slice ua u.args.length uc] 26)).alloc (.cells #[.int .i64 0, .string ⟨#[]⟩, .int .i64 0, .slice none 0 0] 26)) W) => put_call d ih nm u t S S a ua c uc _ _ _ _ w W (R.low h) hg hgu (fun x hx => by have := depth_arg _ hx; omega) (by omega) hsu (hA.keep fun b hb => (R.low h).hz.block b (hS b hb)) hU (fun b hb => Nat.lt_of_lt_of_le (hS b hb) (R.low h).hz.size) hS (fun b hb => hb) hT)
  have CF := Lib.hid (fun (W : World) (h : Below w.heap.size w W) => free_any u S ua uc W (hU.keep fun b hb => h.block b (hS b hb)) (fun b hb => Nat.lt_of_lt_of_le (hS b hb) h.size) (by omega))
  have SK := Lib.hid (fun (W : World) (h : Below ((((w.alloc (.cells #[.int .i64 t.kind, .string t.name, .int .i64 t.n, .slice a t.args.length c] 26)).alloc (.cells #[.string nm] 9)).alloc (.cells #[.int .i64 u.kind, .string u.name, .int .i64 u.n, .slice ua u.args.length uc] 26)).alloc (.cells #[.int .i64 0, .string ⟨#[]⟩, .int .i64 0, .slice none 0 0] 26)).heap.size ((((w.alloc (.cells #[.int .i64 t.kind, .string t.name, .int .i64 t.n, .slice a t.args.length c] 26)).alloc (.cells #[.string nm] 9)).alloc (.cells #[.int .i64 u.kind, .string u.name, .int .i64 u.n, .slice ua u.args.length uc] 26)).alloc (.cells #[.int .i64 0, .string ⟨#[]⟩, .int .i64 0, .slice none 0 0] 26)) W) => And.intro (R.k4.low h).c0 (And.intro (R.k4.low h).c1 (And.intro (R.hu.low h).c0 (And.intro (R.hu.low h).c1 (And.intro (R.hu.low h).c2 (R.hu.low h).c3)))))
  have RD := Lib.hid ((Below.refl ((((w.alloc (.cells #[.int .i64 t.kind, .string t.name, .int .i64 t.n, .slice a t.args.length c] 26)).alloc (.cells #[.string nm] 9)).alloc (.cells #[.int .i64 u.kind, .string u.name, .int .i64 u.n, .slice ua u.args.length uc] 26)).alloc (.cells #[.int .i64 0, .string ⟨#[]⟩, .int .i64 0, .slice none 0 0] 26)).heap.size ((((w.alloc (.cells #[.int .i64 t.kind, .string t.name, .int .i64 t.n, .slice a t.args.length c] 26)).alloc (.cells #[.string nm] 9)).alloc (.cells #[.int .i64 u.kind, .string u.name, .int .i64 u.n, .slice ua u.args.length uc] 26)).alloc (.cells #[.int .i64 0, .string ⟨#[]⟩, .int .i64 0, .slice none 0 0] 26))).drew)
  have HS := Lib.hid hS
  have RH := Lib.hid R
  have HNF := Lib.hid hnf
  unfold tv at *
  clear R h1 h5 hg hgu hd hs hA hU hS hT hsz hdp ih hnf
  go_enter Tryz.func60, Tryz.ntmps60
  go_wp2
  go_region_held3 (fun w' => w'.cell? ⟨w.heap.size, 0, none⟩ = some (.int .i64 t.kind) ∧ w'.cell? ⟨w.heap.size, 1, none⟩ = some (.string t.name) ∧ w'.cell? ⟨w.heap.size + 1 + 1, 0, none⟩ = some (.int .i64 u.kind) ∧ w'.cell? ⟨w.heap.size + 1 + 1, 1, none⟩ = some (.string u.name) ∧ w'.cell? ⟨w.heap.size + 1 + 1, 2, none⟩ = some (.int .i64 u.n) ∧ w'.cell? ⟨w.heap.size + 1 + 1, 3, none⟩ = some (.slice ua u.args.length uc))
    (first | exact SK.out _ hB1 | exact SK.out _ RD.out)
    (first
      | (go_at_call 25; refine (CF.out _ RH.out.hz.drew).mono ?_; rintro e w1 ⟨v1, rfl, own1, len1, hb1⟩; have hB1 := RD.out.trans (hb1.mono (by simp)); have cc := Lib.hid (contains_any (StrsAt.of_own own1 (by omega)) t.name))
      | (go_at_call 46; refine cc.out.mono ?_; rintro e w2 ⟨rfl, rfl⟩))
  all_goals
    rw [contains_hasN, HNF.out]
    have RL := Lib.hid (RH.out.low hB1)
    have CX := Lib.hid (CW.out _ hB1)
    clear CW c0 c1 c2 c3 d0 d1 d2 d3 e0 hb1 own1 len1 hB1 cc
    have l0 := RL.out.k4.c0
    have l1 := RL.out.k4.c1
    have l2 := RL.out.k4.c2
    have l3 := RL.out.k4.c3
    go_wp2_with fail
    refine CX.out.mono ?_
    rintro e W2 ⟨a2, c2', rfl, hA2, hb2⟩
    have q4 := RL.out.q4.low hb2
    have r0 := q4.c0
    have r1 := q4.c1
    have r2 := q4.c2
    have r3 := q4.c3
    have u0 := q4.fr 0
    have u1 := q4.fr 1
    have u2 := q4.fr 2
    have u3 := q4.fr 3
    have HA2 := Lib.hid hA2
    have HB2 := Lib.hid hb2
    clear hA2 hb2
    generalize withT t (t.args.map (PutF d nm u)) = y at *
    unfold tv
    go_wp2
    have q5 := B4.set4 q4 (.int .i64 y.kind) (.string y.name) (.int .i64 y.n) (.slice a2 y.args.length c2')
    exact bodyPost_ret (v := tv y a2 c2') (by simp [results, Tryz.results60, go_sem, tv, q5.c0, q5.c1, q5.c2, q5.c3]) rfl (by rw [E.out]; exact TP.stored (R := w.heap.size + 3) HS.out RL.out.hz HA2.out HB2.out (by omega) (by have := RL.out.size; omega))

end Go.Proofs.YtofllmemmggapaaGreatDoor.Tp

/- Texts laid together: TyFillB, TyPutT, TyFillT. -/
import Derived.Test.YtifaaihekgnhiaaGreatDoorP31

/- The walk of put, but for a name that is taken. -/
namespace Go.Proofs.YtifaaihekgnhiaaGreatDoor.Tp
open Go.RowKit

/-- memory in put -/
structure FillMem (k : Int) (s : ByteArray) (m : Int) (sl fv isv : Value) (u : Ty) (ua : Option Addr) (uc : Nat) (w W : World) : Prop where
  hz : Below w.heap.size w W
  k4 : B4 W w.heap.size (.int .i64 k) (.string s) (.int .i64 m) sl
  hu : B4 W (w.heap.size + 1) (.int .i64 u.kind) (.string u.name) (.int .i64 u.n) (.slice ua u.args.length uc)
  hf : W.heap[w.heap.size + 2]? = some (.cells #[fv] 49 (0, 0))
  hi : W.heap[w.heap.size + 3]? = some (.cells #[isv] 83 (0, 0))
  q4 : B4 W (w.heap.size + 4) (.int .i64 0) (.string ⟨#[]⟩) (.int .i64 0) (.slice none 0 0)
  size : w.heap.size + 5 ≤ W.heap.size

theorem five_allocs (w : World) (o1 o2 o3 o4 o5 : Obj) : Below w.heap.size w (((((w.alloc o1).alloc o2).alloc o3).alloc o4).alloc o5) := (four_allocs w o1 o2 o3 o4).alloc (four_allocs w o1 o2 o3 o4).size o5

theorem fillMem (k : Int) (s : ByteArray) (m : Int) (sl fv isv : Value) (u : Ty) (ua : Option Addr) (uc : Nat) (w : World) : FillMem k s m sl fv isv u ua uc w (((((w.alloc (.cells #[.int .i64 k, .string s, .int .i64 m, sl] 25)).alloc (.cells #[.int .i64 u.kind, .string u.name, .int .i64 u.n, .slice ua u.args.length uc] 25)).alloc (.cells #[fv] 49)).alloc (.cells #[isv] 83)).alloc (.cells #[.int .i64 0, .string ⟨#[]⟩, .int .i64 0, .slice none 0 0] 25)) := by
  refine ⟨five_allocs _ _ _ _ _ _, ?_, ?_, ?_, ?_, alloc_new (by simp), by simp⟩
  · exact ((((B4.new w _ _ _ _).low ((Below.refl _ _).alloc (Nat.le_refl _) _)).low ((Below.refl _ _).alloc (Nat.le_refl _) _)).low ((Below.refl _ _).alloc (Nat.le_refl _) _)).low ((Below.refl _ _).alloc (Nat.le_refl _) _)
  · unfold B4
    rw [heap_alloc_old _ _ (by simp), heap_alloc_old _ _ (by simp), heap_alloc_old _ _ (by simp)]
    exact alloc_new (by simp)
  · rw [heap_alloc_old _ _ (by simp), heap_alloc_old _ _ (by simp)]
    exact alloc_new (by simp)
  · rw [heap_alloc_old _ _ (by simp)]
    exact alloc_new (by simp)
theorem FillMem.low {k : Int} {s : ByteArray} {m : Int} {sl fv isv : Value} {u : Ty} {ua : Option Addr} {uc : Nat} {w W W' : World} (R : FillMem k s m sl fv isv u ua uc w W) (h : Below W.heap.size W W') : FillMem k s m sl fv isv u ua uc w W' := by
  have := R.size
  exact ⟨R.hz.trans (h.mono R.hz.size), R.k4.low h, R.hu.low h, (h.block _ (by omega)).trans R.hf, (h.block _ (by omega)).trans R.hi, R.q4.low h, Nat.le_trans R.size h.size⟩
theorem FillMem.sett {k : Int} {s : ByteArray} {m : Int} {sl fv isv : Value} {u : Ty} {ua : Option Addr} {uc : Nat} {w W : World} (R : FillMem k s m sl fv isv u ua uc w W) (k' : Int) (s' : ByteArray) (m' : Int) (sl' : Value) :
    FillMem k' s' m' sl' fv isv u ua uc w ((((W.setCell ⟨w.heap.size, 0, none⟩ (.int .i64 k')).setCell ⟨w.heap.size, 1, none⟩ (.string s')).setCell ⟨w.heap.size, 2, none⟩ (.int .i64 m')).setCell ⟨w.heap.size, 3, none⟩ sl') := by
  have h := same_set4 W w.heap.size (.int .i64 k') (.string s') (.int .i64 m') sl'
  exact ⟨R.hz.set4 (Nat.le_refl _) _ _ _ _, B4.set4 R.k4 _ _ _ _, (h.off _ (by omega)).trans R.hu, (h.off _ (by omega)).trans R.hf, (h.off _ (by omega)).trans R.hi, (h.off _ (by omega)).trans R.q4, by rw [h.size]; exact R.size⟩

/-- the call of with in put: whatever type stands in the box -/
theorem fill_call (d : Nat) (ih : FillSaid d) (u t : Ty) (free : List ByteArray) (is : Ty → Bool) (fv isv : Value) (S S0 Sf : Nat → Prop) (a ua : Option Addr) (c uc : Nat) (k : Int) (s : ByteArray) (m : Int) (sl : Value) (w W0 : World) (R : FillMem k s m sl fv isv u ua uc w W0) (hg : Good t) (hgu : Good u) (hd : ∀ x ∈ t.args, x.depth ≤ d) (hs : sizeL t.args ≤ 1073741824) (hsu : u.size ≤ 1073741824) (hsf : free.length ≤ 1073741824)
    (hA : ArgsAt S W0 (.slice a t.args.length c) t.args) (hU : ArgsAt S0 w (.slice ua u.args.length uc) u.args) (hF : StrsAt Sf w fv free) (hI : IsSaid isv is w) (hS : ∀ b, S b → b < W0.heap.size) (hS0 : ∀ b, S0 b → b < w.heap.size) (hSS : ∀ b, S0 b → S b) (hSf : ∀ b, Sf b → b < w.heap.size) (hT : Tab w) :
    Calls Tryz.prog 50 #[tv t a c, .func (.func 86) #[] #[.pointer (some ⟨w.heap.size + 1, 0, none⟩), .pointer (some ⟨w.heap.size + 2, 0, none⟩), .pointer (some ⟨w.heap.size + 3, 0, none⟩)]] W0 (TP S (withT t (t.args.map (putF d u free is))) W0) := by
  have hal := length_le_sizeL t.args
  have hsz := R.size
  have CW := with_any 86 #[.pointer (some ⟨w.heap.size + 1, 0, none⟩), .pointer (some ⟨w.heap.size + 2, 0, none⟩), .pointer (some ⟨w.heap.size + 3, 0, none⟩)] put1Enters noT noI (fun (_ : Unit) x => (putF d u free is x, ())) t () S a c W0 trivial (fun _ _ _ _ _ => trivial) hA (fun b hb => ⟨hS b hb, id⟩) (fun b hb => hb.elim) (by omega)
    (fun i hi a' c' W _ hK hA' => by
      have hmi := List.getElem_mem hi
      have hkb := hK.to_below
      have hwW := R.hz.trans (hkb.mono R.hz.size)
      exact (put1_any d ih u free is fv isv (w.heap.size + 1) (w.heap.size + 2) (w.heap.size + 3) t.args[i] S Sf a' ua c' uc W (R.hu.low hkb) ((hkb.block _ (by omega)).trans R.hf) ((hkb.block _ (by omega)).trans R.hi) (good_args hg _ hmi) hgu (hd _ hmi) (by have := size_arg _ hmi; omega) hsu hsf hA' ((hU.keep fun b hb => hwW.block b (hS0 b hb)).mono hSS) (hF.keep fun b hb => hwW.block b (hSf b hb)) (hI.low hwW) (fun b hb => Nat.lt_of_lt_of_le (hS b hb) hkb.size) (fun b hb => Nat.lt_of_lt_of_le (hSf b hb) hwW.size) (tab_below hT hwW)).mono fun e W' h => h.post)
  rw [mapAcc_unit] at CW
  exact CW.mono fun e W' h => TP.of h

set_option maxRecDepth 100000 in
set_option maxHeartbeats 3200000 in
theorem fill_is (d : Nat) (u t : Ty) (free : List ByteArray) (is : Ty → Bool) (fv isv : Value) (S Sf : Nat → Prop) (a ua : Option Addr) (c uc : Nat) (w : World) (h : is t = true) (hU : ArgsAt S w (.slice ua u.args.length uc) u.args) (hF : StrsAt Sf w fv free) (hI : IsSaid isv is w) (hS : ∀ b, S b → b < w.heap.size) : Calls Tryz.prog 52 #[tv t a c, tv u ua uc, fv, isv] w (TP S (putF (d + 1) u free is t) w) := by
  obtain ⟨af, cf, rfl, hF'⟩ := id hF
  obtain ⟨f, caps, rfl, he, hc⟩ := id hI
  have R := fillMem t.kind t.name t.n (.slice a t.args.length c) (.slice af free.length cf) (.func (.func f) #[] caps) u ua uc w
  have e0 := cell_of_row _ _ 0 _ _ _ R.hi
  have c0 := R.k4.c0
  have c1 := R.k4.c1
  have c2 := R.k4.c2
  have c3 := R.k4.c3
  have CI := Lib.hid (hc t a c _ R.hz)
  have E := Lib.hid (putF_is d u free is t h)
  have HI := Lib.hid h
  have RH := Lib.hid R
  have HU := Lib.hid hU
  have HS := Lib.hid hS
  unfold tv at *
  clear R h hU hF hI hc hF' hS
  go_enter Tryz.func52, Tryz.ntmps52
  go_wp2_with fail
  refine CI.out.mono ?_
  rintro e w1 ⟨rfl, hb1⟩
  have R1 := Lib.hid (RH.out.low hb1)
  rw [HI.out]
  have d0 := R1.out.hu.c0
  have d1 := R1.out.hu.c1
  have d2 := R1.out.hu.c2
  have d3 := R1.out.hu.c3
  have r0 := R1.out.q4.c0
  have r1 := R1.out.q4.c1
  have r2 := R1.out.q4.c2
  have r3 := R1.out.q4.c3
  have u0 := R1.out.q4.fr 0
  have u1 := R1.out.q4.fr 1
  have u2 := R1.out.q4.fr 2
  have u3 := R1.out.q4.fr 3
  clear hb1
  go_wp2
  have q5 := B4.set4 R1.out.q4 (.int .i64 u.kind) (.string u.name) (.int .i64 u.n) (.slice ua u.args.length uc)
  exact bodyPost_ret (v := tv u ua uc) (by simp [results, Tryz.results52, go_sem, tv, q5.c0, q5.c1, q5.c2, q5.c3]) rfl (by
    rw [E.out]
    have hb := R1.out.hz.set4 (b := w.heap.size + 4) (by omega) (.int .i64 u.kind) (.string u.name) (.int .i64 u.n) (.slice ua u.args.length uc)
    exact ⟨ua, uc, rfl, (HU.out.keep fun b h => hb.block b (HS.out b h)).mono fun b h => .inl h, hb⟩)

set_option maxRecDepth 100000 in
set_option maxHeartbeats 3200000 in
theorem fill_plain (d : Nat) (u t : Ty) (free : List ByteArray) (is : Ty → Bool) (fv isv : Value) (S Sf : Nat → Prop) (a ua : Option Addr) (c uc : Nat) (w : World) (ih : FillSaid d) (h : is t = false) (h5 : t.kind = 5 → hasN free t.name = false) (hg : Good t) (hgu : Good u) (hd : t.depth ≤ d + 1) (hs : t.size ≤ 1073741824) (hsu : u.size ≤ 1073741824) (hsf : free.length ≤ 1073741824) (hA : ArgsAt S w (.slice a t.args.length c) t.args) (hU : ArgsAt S w (.slice ua u.args.length uc) u.args) (hF : StrsAt Sf w fv free) (hI : IsSaid isv is w) (hS : ∀ b, S b → b < w.heap.size) (hSf : ∀ b, Sf b → b < w.heap.size) (hT : Tab w) : Calls Tryz.prog 52 #[tv t a c, tv u ua uc, fv, isv] w (TP S (putF (d + 1) u free is t) w) := by
  obtain ⟨af, cf, rfl, hF'⟩ := id hF
  obtain ⟨f, caps, rfl, he, hc⟩ := id hI
  have R := fillMem t.kind t.name t.n (.slice a t.args.length c) (.slice af free.length cf) (.func (.func f) #[] caps) u ua uc w
  have e0 := cell_of_row _ _ 0 _ _ _ R.hi
  have c0 := R.k4.c0
  have c1 := R.k4.c1
  have c2 := R.k4.c2
  have c3 := R.k4.c3
  have hsz := t.size_eq
  have hdp := t.depth_eq
  have CI := Lib.hid (hc t a c _ R.hz)
  have E := Lib.hid (putF_with d u free is t h h5)
  have HI := Lib.hid h
  have RH := Lib.hid R
  have HS := Lib.hid hS
  have CC := Lib.hid (fun (W : World) (h : Below w.heap.size w W) => contains_any (hF.keep fun b hb => h.block b (hSf b hb)) t.name)
  have CW := Lib.hid (fun (W : World) (R : FillMem t.kind t.name t.n (.slice a t.args.length c) (.slice af free.length cf) (.func (.func f) #[] caps) u ua uc w W) => fill_call d ih u t free is _ _ S S Sf a ua c uc _ _ _ _ w W R hg hgu (fun x hx => by have := depth_arg _ hx; omega) (by omega) hsu hsf (hA.keep fun b hb => R.hz.block b (hS b hb)) hU hF hI (fun b hb => Nat.lt_of_lt_of_le (hS b hb) R.hz.size) hS (fun b hb => hb) hSf hT)
  have q : (t.kind == 5) = true ∧ hasN free t.name = false ∨ (t.kind == 5) = false := by
    by_cases hk : t.kind = 5
    · exact .inl ⟨by rw [beq_iff_eq]; exact hk, h5 hk⟩
    · exact .inr (by rw [beq_eq_false_iff_ne]; exact hk)
  unfold tv at *
  clear R h h5 hg hgu hd hs hsu hsf hA hU hF hI hc hF' hS hSf hT hsz hdp ih
  rcases q with ⟨z5, zn⟩ | z5
  · have ZN := Lib.hid zn
    clear zn
    go_enter Tryz.func52, Tryz.ntmps52
    go_wp2_with fail
    refine CI.out.mono ?_
    rintro e w1 ⟨rfl, hb1⟩
    have R1 := Lib.hid (RH.out.low hb1)
    rw [HI.out]
    have g0 := cell_of_row _ _ 0 _ _ _ R1.out.hf
    have l0 := R1.out.k4.c0
    have l1 := R1.out.k4.c1
    have l2 := R1.out.k4.c2
    have l3 := R1.out.k4.c3
    clear hb1 c0 c1 c2 c3 e0
    have cc := CC.out w1 R1.out.hz
    rw [contains_hasN, ZN.out] at cc
    have C1 := Lib.hid cc
    clear cc
    go_wp2_with fail
    refine C1.out.mono ?_
    rintro e w' ⟨rfl, rfl⟩
    have CX := Lib.hid (CW.out w1 R1.out)
    go_wp2_with fail
    refine CX.out.mono ?_
    rintro e W2 ⟨a2, c2', rfl, hA2, hb2⟩
    have q4 := R1.out.q4.low hb2
    have r0 := q4.c0
    have r1 := q4.c1
    have r2 := q4.c2
    have r3 := q4.c3
    have u0 := q4.fr 0
    have u1 := q4.fr 1
    have u2 := q4.fr 2
    have u3 := q4.fr 3
    have HA2 := Lib.hid hA2
    have HB2 := Lib.hid hb2
    clear hA2 hb2 l0 l1 l2 l3 g0
    have EY : Hid (putF (d + 1) u free is t = withT t (t.args.map (putF d u free is))) := E
    clear E
    generalize withT t (t.args.map (putF d u free is)) = y at *
    unfold tv
    go_wp2
    have q5 := B4.set4 q4 (.int .i64 y.kind) (.string y.name) (.int .i64 y.n) (.slice a2 y.args.length c2')
    exact bodyPost_ret (v := tv y a2 c2') (by simp [results, Tryz.results52, go_sem, tv, q5.c0, q5.c1, q5.c2, q5.c3]) rfl (by rw [EY.out]; exact TP.stored (R := w.heap.size + 4) HS.out R1.out.hz HA2.out HB2.out (by omega) (by have := R1.out.size; omega))
  · go_enter Tryz.func52, Tryz.ntmps52
    go_wp2_with fail
    refine CI.out.mono ?_
    rintro e w1 ⟨rfl, hb1⟩
    have R1 := Lib.hid (RH.out.low hb1)
    rw [HI.out]
    have g0 := cell_of_row _ _ 0 _ _ _ R1.out.hf
    have l0 := R1.out.k4.c0
    have l1 := R1.out.k4.c1
    have l2 := R1.out.k4.c2
    have l3 := R1.out.k4.c3
    clear hb1 c0 c1 c2 c3 e0
    have CX := Lib.hid (CW.out w1 R1.out)
    go_wp2_with fail
    refine CX.out.mono ?_
    rintro e W2 ⟨a2, c2', rfl, hA2, hb2⟩
    have q4 := R1.out.q4.low hb2
    have r0 := q4.c0
    have r1 := q4.c1
    have r2 := q4.c2
    have r3 := q4.c3
    have u0 := q4.fr 0
    have u1 := q4.fr 1
    have u2 := q4.fr 2
    have u3 := q4.fr 3
    have HA2 := Lib.hid hA2
    have HB2 := Lib.hid hb2
    clear hA2 hb2 l0 l1 l2 l3 g0
    have EY : Hid (putF (d + 1) u free is t = withT t (t.args.map (putF d u free is))) := E
    clear E
    generalize withT t (t.args.map (putF d u free is)) = y at *
    unfold tv
    go_wp2
    have q5 := B4.set4 q4 (.int .i64 y.kind) (.string y.name) (.int .i64 y.n) (.slice a2 y.args.length c2')
    exact bodyPost_ret (v := tv y a2 c2') (by simp [results, Tryz.results52, go_sem, tv, q5.c0, q5.c1, q5.c2, q5.c3]) rfl (by rw [EY.out]; exact TP.stored (R := w.heap.size + 4) HS.out R1.out.hz HA2.out HB2.out (by omega) (by have := R1.out.size; omega))

end Go.Proofs.YtifaaihekgnhiaaGreatDoor.Tp

/- The walk of Put: what stands behind a name that is taken. -/
namespace Go.Proofs.YtifaaihekgnhiaaGreatDoor.Tp
open Go.RowKit

/-- three rows of names, laid in a row of rows -/
theorem three_strs {W w1 w2 : World} {lo1 lo2 b3 : Nat} {v1 v2 : Value} {l1 l2 : List ByteArray} {p q : ByteArray} (o1 : w1.ownsRow lo1 9 1 v1 l1.length (l1.map Value.string)) (h1 : l1.length ≤ 1099511627776) (B1 : Below w1.heap.size w1 W) (o2 : w2.ownsRow lo2 9 1 v2 l2.length (l2.map Value.string)) (h2 : l2.length ≤ 1099511627776) (B2 : Below w2.heap.size w2 W)
    (h3 : W.heap[b3]? = some (.cells #[.string p, .string q] 9 (0, 0))) : ∀ (j : Nat) (h : j < [v1, v2, Value.slice (some ⟨b3, 0, none⟩) 2 2].length) (h' : j < [l1, l2, [p, q]].length), StrsAt (fun b => b < W.heap.size) W ([v1, v2, Value.slice (some ⟨b3, 0, none⟩) 2 2][j]'h) ([l1, l2, [p, q]][j]'h') := by
  intro j h h'
  match j, h with
  | 0, _ => exact ((StrsAt.of_own o1 h1).keep fun b hb => B1.block b (o1.lt b hb).2).mono fun b hb => Nat.lt_of_lt_of_le (o1.lt b hb).2 B1.size
  | 1, _ => exact ((StrsAt.of_own o2 h2).keep fun b hb => B2.block b (o2.lt b hb).2).mono fun b hb => Nat.lt_of_lt_of_le (o2.lt b hb).2 B2.size
  | 2, _ =>
    refine ⟨_, 2, rfl, Nat.le_refl _, by simp, by simp, .inr ⟨b3, 0, rfl, (Array.getElem?_eq_some_iff.1 h3).1, fun i hi => ?_⟩⟩
    match i, hi with
    | 0, _ => exact cell_of_row W b3 0 _ _ _ h3
    | 1, _ => exact cell_of_row W b3 1 _ _ _ h3

theorem concat_three {X w1 w2 : World} {lo1 lo2 b3 N : Nat} {v1 v2 : Value} {l1 l2 L : List ByteArray} {p q : ByteArray} (hL : l1 ++ l2 ++ [p, q] = L) (hN : X.heap.size = N) (o1 : w1.ownsRow lo1 9 1 v1 l1.length (l1.map Value.string)) (B1 : Below w1.heap.size w1 X) (o2 : w2.ownsRow lo2 9 1 v2 l2.length (l2.map Value.string)) (B2 : Below w2.heap.size w2 X)
    (h3 : X.heap[b3]? = some (.cells #[.string p, .string q] 9 (0, 0))) (hl : l1.length + l2.length + 2 ≤ 1099511627776) :
    Calls Tryz.prog 48 #[.slice (some ⟨N, 0, none⟩) 3 3] (X.alloc (.cells #[v1, v2, .slice (some ⟨b3, 0, none⟩) 2 2] 49)) (ConcatPost (X.alloc (.cells #[v1, v2, .slice (some ⟨b3, 0, none⟩) 2 2] 49)) L) := by
  subst hN hL
  have ha := (Below.refl X.heap.size X).alloc (Nat.le_refl _) (.cells #[v1, v2, .slice (some ⟨b3, 0, none⟩) 2 2] 49)
  have hs := three_strs o1 (by omega) (B1.trans (ha.mono B1.size)) o2 (by omega) (B2.trans (ha.mono B2.size)) ((ha.block b3 (Array.getElem?_eq_some_iff.1 h3).1).trans h3)
  have hfl : [l1, l2, [p, q]].flatten = l1 ++ l2 ++ [p, q] := by simp
  have hb := heap_alloc_new X (.cells #[v1, v2, .slice (some ⟨b3, 0, none⟩) 2 2] 49)
  have := concat_any (fun b => b < (X.alloc (.cells #[v1, v2, .slice (some ⟨b3, 0, none⟩) 2 2] 49)).heap.size) X.heap.size 0 3 [v1, v2, .slice (some ⟨b3, 0, none⟩) 2 2] [l1, l2, [p, q]] _ rfl rfl (by omega) (fun j hj => by
    rw [Nat.zero_add]
    match j, hj with
    | 0, _ => exact cell_of_row _ _ 0 _ _ _ hb
    | 1, _ => exact cell_of_row _ _ 1 _ _ _ hb
    | 2, _ => exact cell_of_row _ _ 2 _ _ _ hb) (by simp) hs (fun b h => h) (by rw [hfl]; simp; omega) (by rw [hfl]; simp; omega)
  rw [hfl] at this
  exact this

/-- what stands behind the call of with in Put -/
def PutTail (S : Nat → Prop) (y : Ty) (w : World) (e : Ending) (W2 : World) : Prop :=
  ∃ a c, e = .returned (tv y a c) ∧ ArgsAt (fun b => S b ∨ w.heap.size + 4 ≤ b ∧ b < W2.heap.size) W2 (.slice a y.args.length c) y.args ∧ Below w.heap.size w W2 ∧ B4 W2 (w.heap.size + 3) (.int .i64 0) (.string ⟨#[]⟩) (.int .i64 0) (.slice none 0 0)

theorem put_tail (d : Nat) (ih : PutSaid d) (nm fn : ByteArray) (u y : Ty) (S : Nat → Prop) (ua a9 : Option Addr) (uc c9 : Nat) (k : Int) (s : ByteArray) (m : Int) (sl : Value) (w w9 : World) (R : PutMem k s m sl nm u ua uc w w9) (hg : Good y) (hgu : Good u) (h1 : 1 ≤ fn.size) (h2 : fn.size ≤ 64) (hd : y.depth ≤ d) (hs : y.size ≤ 1073741824) (hsu : u.size ≤ 1073741824)
    (hA : ArgsAt (fun b => S b ∨ w.heap.size + 4 ≤ b ∧ b < w9.heap.size) w9 (.slice a9 y.args.length c9) y.args) (hU : ArgsAt S w (.slice ua u.args.length uc) u.args) (hS : ∀ b, S b → b < w.heap.size) (hT : Tab w) :
    Calls Tryz.prog 50 #[.agg #[.int .i64 5, .string fn, .int .i64 0, .slice (some ⟨w9.heap.size, 0, none⟩) 1 1], .func (.func 51) #[] #[.pointer (some ⟨w.heap.size + 1, 0, none⟩), .pointer (some ⟨w.heap.size + 1 + 1, 0, none⟩)]] (((((w9.alloc (.cells #[.int .i64 y.kind, .string y.name, .int .i64 y.n, .slice a9 y.args.length c9] 25)).setCell ⟨w.heap.size, 0, none⟩ (.int .i64 5)).setCell ⟨w.heap.size, 1, none⟩ (.string fn)).setCell ⟨w.heap.size, 2, none⟩ (.int .i64 0)).setCell ⟨w.heap.size, 3, none⟩ (.slice (some ⟨w9.heap.size, 0, none⟩) 1 1)) (PutTail S (withT (tAllB fn y) [PutF d nm u y]) w) := by
  have hR := (R.low ((Below.refl _ _).alloc (Nat.le_refl _) (.cells #[.int .i64 y.kind, .string y.name, .int .i64 y.n, .slice a9 y.args.length c9] 25))).sett 5 fn 0 (.slice (some ⟨w9.heap.size, 0, none⟩) 1 1)
  have hs10 := same_set4 (w9.alloc (.cells #[.int .i64 y.kind, .string y.name, .int .i64 y.n, .slice a9 y.args.length c9] 25)) w.heap.size (.int .i64 5) (.string fn) (.int .i64 0) (.slice (some ⟨w9.heap.size, 0, none⟩) 1 1)
  generalize (((((w9.alloc (.cells #[.int .i64 y.kind, .string y.name, .int .i64 y.n, .slice a9 y.args.length c9] 25)).setCell ⟨w.heap.size, 0, none⟩ (.int .i64 5)).setCell ⟨w.heap.size, 1, none⟩ (.string fn)).setCell ⟨w.heap.size, 2, none⟩ (.int .i64 0)).setCell ⟨w.heap.size, 3, none⟩ (.slice (some ⟨w9.heap.size, 0, none⟩) 1 1)) = W10 at *
  have hz10 : W10.heap.size = w9.heap.size + 1 := hs10.size.trans (by simp)
  have hR9 := R.size
  have hA10 : ArgsAt (fun b => S b ∨ w.heap.size + 4 ≤ b ∧ b < w9.heap.size + 1) W10 (.slice (some ⟨w9.heap.size, 0, none⟩) 1 1) [y] := by
    refine args_one (g := w9.heap.size) ((hs10.off _ (by omega)).trans (heap_alloc_new w9 _)) rfl rfl rfl (.inr ⟨by omega, by omega⟩) ((hA.keep fun b hb2 => ?_).mono fun b hb2 => hb2.imp id fun h => ⟨h.1, by omega⟩)
    have hlt : b < w9.heap.size ∧ b ≠ w.heap.size := by
      rcases hb2 with h | h
      · have := hS b h; omega
      · omega
    exact (hs10.off b hlt.2).trans (heap_alloc_old w9 _ hlt.1)
  have hsl : sizeL (tAllB fn y).args = y.size := by simp [tAllB, Ty.args, sizeL]
  have CW := put_call d ih nm u (tAllB fn y) (fun b => S b ∨ w.heap.size + 4 ≤ b ∧ b < w9.heap.size + 1) S (some ⟨w9.heap.size, 0, none⟩) ua 1 uc _ _ _ _ w W10 hR (good_all h1 h2 hg) hgu (fun u hu => by obtain rfl := List.mem_singleton.1 hu; exact hd) (by rw [hsl]; omega) hsu hA10 hU (fun b h => by
    rcases h with h | h
    · have := hS b h; omega
    · omega) hS (fun b h => .inl h) hT
  refine CW.mono fun e W2 ⟨a2, c2, he, hA2, hb2⟩ => ⟨a2, c2, he, hA2.mono fun b h => ?_, hR.hz.trans (hb2.mono hR.hz.size), hR.q4.low hb2⟩
  have := hb2.size
  rcases h with (h | h) | h
  · exact .inl h
  · exact .inr ⟨h.1, by omega⟩
  · exact .inr ⟨by omega, h.2⟩

end Go.Proofs.YtifaaihekgnhiaaGreatDoor.Tp

/- The walk of put: what stands behind a name that is taken. -/
namespace Go.Proofs.YtifaaihekgnhiaaGreatDoor.Tp
open Go.RowKit

theorem mix_strs {W w0 w2 : World} {Sf : Nat → Prop} {lo2 b3 : Nat} {v1 v2 : Value} {l1 l2 : List ByteArray} {p : ByteArray} (o1 : StrsAt Sf w0 v1 l1) (hSf : ∀ b, Sf b → b < w0.heap.size) (B1 : Below w0.heap.size w0 W) (o2 : w2.ownsRow lo2 9 1 v2 l2.length (l2.map Value.string)) (h2 : l2.length ≤ 1099511627776) (B2 : Below w2.heap.size w2 W)
    (h3 : W.heap[b3]? = some (.cells #[.string p] 9 (0, 0))) : ∀ (j : Nat) (h : j < [v1, v2, Value.slice (some ⟨b3, 0, none⟩) 1 1].length) (h' : j < [l1, l2, [p]].length), StrsAt (fun b => b < W.heap.size) W ([v1, v2, Value.slice (some ⟨b3, 0, none⟩) 1 1][j]'h) ([l1, l2, [p]][j]'h') := by
  intro j h h'
  match j, h with
  | 0, _ => exact (o1.keep fun b hb => B1.block b (hSf b hb)).mono fun b hb => Nat.lt_of_lt_of_le (hSf b hb) B1.size
  | 1, _ => exact ((StrsAt.of_own o2 h2).keep fun b hb => B2.block b (o2.lt b hb).2).mono fun b hb => Nat.lt_of_lt_of_le (o2.lt b hb).2 B2.size
  | 2, _ =>
    refine ⟨_, 1, rfl, Nat.le_refl _, by simp, by simp, .inr ⟨b3, 0, rfl, (Array.getElem?_eq_some_iff.1 h3).1, fun i hi => ?_⟩⟩
    match i, hi with
    | 0, _ => exact cell_of_row W b3 0 _ _ _ h3

theorem concat_mix {X w0 w2 : World} {Sf : Nat → Prop} {lo2 b3 N : Nat} {v1 v2 : Value} {l1 l2 L : List ByteArray} {p : ByteArray} (hL : l1 ++ l2 ++ [p] = L) (hN : X.heap.size = N) (o1 : StrsAt Sf w0 v1 l1) (hSf : ∀ b, Sf b → b < w0.heap.size) (B1 : Below w0.heap.size w0 X) (o2 : w2.ownsRow lo2 9 1 v2 l2.length (l2.map Value.string)) (B2 : Below w2.heap.size w2 X)
    (h3 : X.heap[b3]? = some (.cells #[.string p] 9 (0, 0))) (hl : l1.length + l2.length + 1 ≤ 1099511627776) :
    Calls Tryz.prog 48 #[.slice (some ⟨N, 0, none⟩) 3 3] (X.alloc (.cells #[v1, v2, .slice (some ⟨b3, 0, none⟩) 1 1] 49)) (ConcatPost (X.alloc (.cells #[v1, v2, .slice (some ⟨b3, 0, none⟩) 1 1] 49)) L) := by
  subst hN hL
  have ha := (Below.refl X.heap.size X).alloc (Nat.le_refl _) (.cells #[v1, v2, .slice (some ⟨b3, 0, none⟩) 1 1] 49)
  have hs := mix_strs o1 hSf (B1.trans (ha.mono B1.size)) o2 (by omega) (B2.trans (ha.mono B2.size)) ((ha.block b3 (Array.getElem?_eq_some_iff.1 h3).1).trans h3)
  have hfl : [l1, l2, [p]].flatten = l1 ++ l2 ++ [p] := by simp
  have hb := heap_alloc_new X (.cells #[v1, v2, .slice (some ⟨b3, 0, none⟩) 1 1] 49)
  have := concat_any (fun b => b < (X.alloc (.cells #[v1, v2, .slice (some ⟨b3, 0, none⟩) 1 1] 49)).heap.size) X.heap.size 0 3 [v1, v2, .slice (some ⟨b3, 0, none⟩) 1 1] [l1, l2, [p]] _ rfl rfl (by omega) (fun j hj => by
    rw [Nat.zero_add]
    match j, hj with
    | 0, _ => exact cell_of_row _ _ 0 _ _ _ hb
    | 1, _ => exact cell_of_row _ _ 1 _ _ _ hb
    | 2, _ => exact cell_of_row _ _ 2 _ _ _ hb) (by simp) hs (fun b h => h) (by rw [hfl]; simp; omega) (by rw [hfl]; simp; omega)
  rw [hfl] at this
  exact this

/-- what stands behind the call of with in put -/
def FillTail (S : Nat → Prop) (y : Ty) (w : World) (e : Ending) (W2 : World) : Prop :=
  ∃ a c, e = .returned (tv y a c) ∧ ArgsAt (fun b => S b ∨ w.heap.size + 5 ≤ b ∧ b < W2.heap.size) W2 (.slice a y.args.length c) y.args ∧ Below w.heap.size w W2 ∧ B4 W2 (w.heap.size + 4) (.int .i64 0) (.string ⟨#[]⟩) (.int .i64 0) (.slice none 0 0)

theorem fill_tail (d : Nat) (ih : FillSaid d) (fn : ByteArray) (u y : Ty) (free : List ByteArray) (is : Ty → Bool) (fv isv : Value) (S Sf : Nat → Prop) (ua a9 : Option Addr) (uc c9 : Nat) (k : Int) (s : ByteArray) (m : Int) (sl : Value) (w w9 : World) (R : FillMem k s m sl fv isv u ua uc w w9) (hg : Good y) (hgu : Good u) (h1 : 1 ≤ fn.size) (h2 : fn.size ≤ 64) (hd : y.depth ≤ d) (hs : y.size ≤ 1073741824) (hsu : u.size ≤ 1073741824) (hsf : free.length ≤ 1073741824)
    (hA : ArgsAt (fun b => S b ∨ w.heap.size + 5 ≤ b ∧ b < w9.heap.size) w9 (.slice a9 y.args.length c9) y.args) (hU : ArgsAt S w (.slice ua u.args.length uc) u.args) (hF : StrsAt Sf w fv free) (hI : IsSaid isv is w) (hS : ∀ b, S b → b < w.heap.size) (hSf : ∀ b, Sf b → b < w.heap.size) (hT : Tab w) :
    Calls Tryz.prog 50 #[.agg #[.int .i64 5, .string fn, .int .i64 0, .slice (some ⟨w9.heap.size, 0, none⟩) 1 1], .func (.func 86) #[] #[.pointer (some ⟨w.heap.size + 1, 0, none⟩), .pointer (some ⟨w.heap.size + 1 + 1, 0, none⟩), .pointer (some ⟨w.heap.size + 1 + 1 + 1, 0, none⟩)]] (((((w9.alloc (.cells #[.int .i64 y.kind, .string y.name, .int .i64 y.n, .slice a9 y.args.length c9] 25)).setCell ⟨w.heap.size, 0, none⟩ (.int .i64 5)).setCell ⟨w.heap.size, 1, none⟩ (.string fn)).setCell ⟨w.heap.size, 2, none⟩ (.int .i64 0)).setCell ⟨w.heap.size, 3, none⟩ (.slice (some ⟨w9.heap.size, 0, none⟩) 1 1)) (FillTail S (withT (tAllB fn y) [putF d u free is y]) w) := by
  have hR := (R.low ((Below.refl _ _).alloc (Nat.le_refl _) (.cells #[.int .i64 y.kind, .string y.name, .int .i64 y.n, .slice a9 y.args.length c9] 25))).sett 5 fn 0 (.slice (some ⟨w9.heap.size, 0, none⟩) 1 1)
  have hs10 := same_set4 (w9.alloc (.cells #[.int .i64 y.kind, .string y.name, .int .i64 y.n, .slice a9 y.args.length c9] 25)) w.heap.size (.int .i64 5) (.string fn) (.int .i64 0) (.slice (some ⟨w9.heap.size, 0, none⟩) 1 1)
  generalize (((((w9.alloc (.cells #[.int .i64 y.kind, .string y.name, .int .i64 y.n, .slice a9 y.args.length c9] 25)).setCell ⟨w.heap.size, 0, none⟩ (.int .i64 5)).setCell ⟨w.heap.size, 1, none⟩ (.string fn)).setCell ⟨w.heap.size, 2, none⟩ (.int .i64 0)).setCell ⟨w.heap.size, 3, none⟩ (.slice (some ⟨w9.heap.size, 0, none⟩) 1 1)) = W10 at *
  have hz10 : W10.heap.size = w9.heap.size + 1 := hs10.size.trans (by simp)
  have hR9 := R.size
  have hA10 : ArgsAt (fun b => S b ∨ w.heap.size + 5 ≤ b ∧ b < w9.heap.size + 1) W10 (.slice (some ⟨w9.heap.size, 0, none⟩) 1 1) [y] := by
    refine args_one (g := w9.heap.size) ((hs10.off _ (by omega)).trans (heap_alloc_new w9 _)) rfl rfl rfl (.inr ⟨by omega, by omega⟩) ((hA.keep fun b hb2 => ?_).mono fun b hb2 => hb2.imp id fun h => ⟨by omega, by omega⟩)
    have hlt : b < w9.heap.size ∧ b ≠ w.heap.size := by
      rcases hb2 with h | h
      · have := hS b h; omega
      · omega
    exact (hs10.off b hlt.2).trans (heap_alloc_old w9 _ hlt.1)
  have hsl : sizeL (tAllB fn y).args = y.size := by simp [tAllB, Ty.args, sizeL]
  have CW := fill_call d ih u (tAllB fn y) free is fv isv (fun b => S b ∨ w.heap.size + 5 ≤ b ∧ b < w9.heap.size + 1) S Sf (some ⟨w9.heap.size, 0, none⟩) ua 1 uc _ _ _ _ w W10 hR (good_all h1 h2 hg) hgu (fun u hu => by obtain rfl := List.mem_singleton.1 hu; exact hd) (by rw [hsl]; omega) hsu hsf hA10 hU hF hI (fun b h => by
    rcases h with h | h
    · have := hS b h; omega
    · omega) hS (fun b h => .inl h) hSf hT
  refine CW.mono fun e W2 ⟨a2, c2, he, hA2, hb2⟩ => ⟨a2, c2, he, hA2.mono fun b h => ?_, hR.hz.trans (hb2.mono hR.hz.size), hR.q4.low hb2⟩
  have := hb2.size
  rcases h with (h | h) | h
  · exact .inl h
  · exact .inr ⟨h.1, by omega⟩
  · exact .inr ⟨by omega, h.2⟩

theorem fill_end {S : Nat → Prop} {y : Ty} {w W2 : World} {a : Option Addr} {c : Nat} (hS : ∀ b, S b → b < w.heap.size) (hA : ArgsAt (fun b => S b ∨ w.heap.size + 5 ≤ b ∧ b < W2.heap.size) W2 (.slice a y.args.length c) y.args) (hb : Below w.heap.size w W2) :
    TP S y w (.returned (tv y a c)) ((((W2.setCell ⟨w.heap.size + 4, 0, none⟩ (.int .i64 y.kind)).setCell ⟨w.heap.size + 4, 1, none⟩ (.string y.name)).setCell ⟨w.heap.size + 4, 2, none⟩ (.int .i64 y.n)).setCell ⟨w.heap.size + 4, 3, none⟩ (.slice a y.args.length c)) := by
  have hs : ∀ b, b ≠ w.heap.size + 4 → ((((W2.setCell ⟨w.heap.size + 4, 0, none⟩ (.int .i64 y.kind)).setCell ⟨w.heap.size + 4, 1, none⟩ (.string y.name)).setCell ⟨w.heap.size + 4, 2, none⟩ (.int .i64 y.n)).setCell ⟨w.heap.size + 4, 3, none⟩ (.slice a y.args.length c)).heap[b]? = W2.heap[b]? := fun b hb => by
    rw [Below.heap_setCell _ _ _ _ hb, Below.heap_setCell _ _ _ _ hb, Below.heap_setCell _ _ _ _ hb, Below.heap_setCell _ _ _ _ hb]
  refine ⟨a, c, rfl, (hA.keep fun b h => hs b ?_).mono fun b h => h.imp id fun h => ⟨by omega, by simpa using h.2⟩, hb.set4 (by omega) _ _ _ _⟩
  rcases h with h | h
  · have := hS b h; omega
  · omega

end Go.Proofs.YtifaaihekgnhiaaGreatDoor.Tp

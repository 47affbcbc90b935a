/- Texts laid together: TyFillA, TyFillB. -/
import Derived.Test.YtifaaihekgnhiaaDoorP37

/- The walk of put's closure; what put tells. -/
namespace Go.Proofs.YtifaaihekgnhiaaDoor.Tp
open Go.RowKit

/-- what a test of types tells -/
def IsSaid (isv : Value) (is : Ty → Bool) (W0 : World) : Prop := ∃ f caps, isv = .func (.func f) #[] caps ∧ (∀ args w, (callFunc f args).run Tryd.prog w = .ok (.enter f args) w) ∧
  ∀ (x : Ty) (a : Option Addr) (c : Nat) (W : World), Below W0.heap.size W0 W → Calls Tryd.prog f (#[tv x a c] ++ caps) W fun e W' => e = .returned (.bool (is x)) ∧ Below W.heap.size W W'

theorem IsSaid.low {isv : Value} {is : Ty → Bool} {W0 W : World} (h : IsSaid isv is W0) (hb : Below W0.heap.size W0 W) : IsSaid isv is W := by
  obtain ⟨f, caps, e, he, hc⟩ := h
  exact ⟨f, caps, e, he, fun x a c W' hb' => hc x a c W' (hb.trans (hb'.mono hb.size))⟩

def FillSaid (d : Nat) : Prop := ∀ (u t : Ty) (free : List ByteArray) (is : Ty → Bool) (fv isv : Value) (S Sf : Nat → Prop) (a ua : Option Addr) (c uc : Nat) (W : World), Good t → Good u → t.depth ≤ d → t.size ≤ 1073741824 → u.size ≤ 1073741824 → free.length ≤ 1073741824 →
  ArgsAt S W (.slice a t.args.length c) t.args → ArgsAt S W (.slice ua u.args.length uc) u.args → StrsAt Sf W fv free → IsSaid isv is W → (∀ b, S b → b < W.heap.size) → (∀ b, Sf b → b < W.heap.size) → Tab W → Calls Tryd.prog 41 #[tv t a c, tv u ua uc, fv, isv] W (TP S (putF d u free is t) W)

theorem put1Enters (args : Array Value) (w : World) : (callFunc 58 args).run Tryd.prog w = .ok (.enter 58 args) w :=
  enters_of Tryd.func58 (by kernel_rfl) rfl args w

set_option maxHeartbeats 1600000 in
theorem put1_any (d : Nat) (ih : FillSaid d) (u : Ty) (free : List ByteArray) (is : Ty → Bool) (fv isv : Value) (bu bf bi : Nat) (t : Ty) (S Sf : Nat → Prop) (a ua : Option Addr) (c uc : Nat) (W : World) (hu : B4 W bu (.int .i64 u.kind) (.string u.name) (.int .i64 u.n) (.slice ua u.args.length uc)) (hf : W.heap[bf]? = some (.cells #[fv] 33 (0, 0))) (hi : W.heap[bi]? = some (.cells #[isv] 30 (0, 0))) (hg : Good t) (hgu : Good u) (hd : t.depth ≤ d) (hs : t.size ≤ 1073741824) (hsu : u.size ≤ 1073741824) (hsf : free.length ≤ 1073741824)
    (hA : ArgsAt S W (.slice a t.args.length c) t.args) (hU : ArgsAt S W (.slice ua u.args.length uc) u.args) (hF : StrsAt Sf W fv free) (hI : IsSaid isv is W) (hS : ∀ b, S b → b < W.heap.size) (hSf : ∀ b, Sf b → b < W.heap.size) (hT : Tab W) : Calls Tryd.prog 58 #[tv t a c, .pointer (some ⟨bu, 0, none⟩), .pointer (some ⟨bf, 0, none⟩), .pointer (some ⟨bi, 0, none⟩)] W (TP S (putF d u free is t) W) := by
  have hz := (Below.refl W.heap.size W).alloc (Nat.le_refl _) (.cells #[.int .i64 t.kind, .string t.name, .int .i64 t.n, .slice a t.args.length c] 25)
  have hz2 := hz.alloc hz.size (.cells #[.int .i64 0, .string ⟨#[]⟩, .int .i64 0, .slice none 0 0] 25)
  have k4 := (B4.new W (.int .i64 t.kind) (.string t.name) (.int .i64 t.n) (.slice a t.args.length c)).low ((Below.refl _ _).alloc (Nat.le_refl _) (.cells #[.int .i64 0, .string ⟨#[]⟩, .int .i64 0, .slice none 0 0] 25))
  have q4 : B4 ((W.alloc (.cells #[.int .i64 t.kind, .string t.name, .int .i64 t.n, .slice a t.args.length c] 25)).alloc (.cells #[.int .i64 0, .string ⟨#[]⟩, .int .i64 0, .slice none 0 0] 25)) (W.heap.size + 1) (.int .i64 0) (.string ⟨#[]⟩) (.int .i64 0) (.slice none 0 0) := alloc_new (by simp)
  have c0 := k4.c0
  have c1 := k4.c1
  have c2 := k4.c2
  have c3 := k4.c3
  have e0 := (hz2.cell (p := ⟨bf, 0, none⟩) (Array.getElem?_eq_some_iff.1 hf).1).trans (cell_of_row _ _ 0 _ _ _ hf)
  have e5 := (hz2.cell (p := ⟨bi, 0, none⟩) (Array.getElem?_eq_some_iff.1 hi).1).trans (cell_of_row _ _ 0 _ _ _ hi)
  have hu4 := hu.low hz2
  have e1 := hu4.c0
  have e2 := hu4.c1
  have e3 := hu4.c2
  have e4 := hu4.c3
  have C := Lib.hid (ih u t free is fv isv S Sf a ua c uc _ hg hgu hd hs hsu hsf (hA.keep fun b hb => hz2.block b (hS b hb)) (hU.keep fun b hb => hz2.block b (hS b hb)) (hF.keep fun b hb => hz2.block b (hSf b hb)) (hI.low hz2) (fun b hb => Nat.lt_of_lt_of_le (hS b hb) hz2.size) (fun b hb => Nat.lt_of_lt_of_le (hSf b hb) hz2.size) (tab_below hT hz2))
  have HZ2 := Lib.hid hz2
  have HS := Lib.hid hS
  have Q4 := Lib.hid q4
  unfold tv at *
  clear hz hz2 k4 q4 hf hu hi hu4 hA hU hF hI hS hSf hT hg hgu hd hs hsu hsf
  go_enter Tryd.func58, Tryd.ntmps58
  go_wp2_with fail
  refine C.out.mono ?_
  rintro e W2 ⟨a2, c2, rfl, hA2, hb2⟩
  have q4 := Q4.out.low hb2
  have r0 := q4.c0
  have r1 := q4.c1
  have r2 := q4.c2
  have r3 := q4.c3
  have s0 := q4.fr 0
  have s1 := q4.fr 1
  have s2 := q4.fr 2
  have s3 := q4.fr 3
  have HA2 := Lib.hid hA2
  have HB2 := Lib.hid hb2
  clear hA2 hb2
  unfold tv
  generalize putF d u free is t = y at *
  go_wp2
  have q5 := B4.set4 q4 (.int .i64 y.kind) (.string y.name) (.int .i64 y.n) (.slice a2 y.args.length c2)
  exact bodyPost_ret (v := tv y a2 c2) (by simp [results, Tryd.results58, go_sem, tv, q5.c0, q5.c1, q5.c2, q5.c3]) rfl (TP.stored HS.out HZ2.out HA2.out HB2.out (by omega) (by simp))

end Go.Proofs.YtifaaihekgnhiaaDoor.Tp

/- The walk of put, but for a name that is taken. -/
namespace Go.Proofs.YtifaaihekgnhiaaDoor.Tp
open Go.RowKit

/-- memory in put -/
structure FillMem (k : Int) (s : ByteArray) (m : Int) (sl fv isv : Value) (u : Ty) (ua : Option Addr) (uc : Nat) (w W : World) : Prop where
  hz : Below w.heap.size w W
  k4 : B4 W w.heap.size (.int .i64 k) (.string s) (.int .i64 m) sl
  hu : B4 W (w.heap.size + 1) (.int .i64 u.kind) (.string u.name) (.int .i64 u.n) (.slice ua u.args.length uc)
  hf : W.heap[w.heap.size + 2]? = some (.cells #[fv] 33 (0, 0))
  hi : W.heap[w.heap.size + 3]? = some (.cells #[isv] 30 (0, 0))
  q4 : B4 W (w.heap.size + 4) (.int .i64 0) (.string ⟨#[]⟩) (.int .i64 0) (.slice none 0 0)
  size : w.heap.size + 5 ≤ W.heap.size

theorem five_allocs (w : World) (o1 o2 o3 o4 o5 : Obj) : Below w.heap.size w (((((w.alloc o1).alloc o2).alloc o3).alloc o4).alloc o5) := (four_allocs w o1 o2 o3 o4).alloc (four_allocs w o1 o2 o3 o4).size o5

theorem fillMem (k : Int) (s : ByteArray) (m : Int) (sl fv isv : Value) (u : Ty) (ua : Option Addr) (uc : Nat) (w : World) : FillMem k s m sl fv isv u ua uc w (((((w.alloc (.cells #[.int .i64 k, .string s, .int .i64 m, sl] 25)).alloc (.cells #[.int .i64 u.kind, .string u.name, .int .i64 u.n, .slice ua u.args.length uc] 25)).alloc (.cells #[fv] 33)).alloc (.cells #[isv] 30)).alloc (.cells #[.int .i64 0, .string ⟨#[]⟩, .int .i64 0, .slice none 0 0] 25)) := by
  refine ⟨five_allocs _ _ _ _ _ _, ?_, ?_, ?_, ?_, alloc_new (by simp), by simp⟩
  · exact ((((B4.new w _ _ _ _).low ((Below.refl _ _).alloc (Nat.le_refl _) _)).low ((Below.refl _ _).alloc (Nat.le_refl _) _)).low ((Below.refl _ _).alloc (Nat.le_refl _) _)).low ((Below.refl _ _).alloc (Nat.le_refl _) _)
  · unfold B4
    rw [heap_alloc_old _ _ (by simp), heap_alloc_old _ _ (by simp), heap_alloc_old _ _ (by simp)]
    exact alloc_new (by simp)
  · rw [heap_alloc_old _ _ (by simp), heap_alloc_old _ _ (by simp)]
    exact alloc_new (by simp)
  · rw [heap_alloc_old _ _ (by simp)]
    exact alloc_new (by simp)
theorem FillMem.low {k : Int} {s : ByteArray} {m : Int} {sl fv isv : Value} {u : Ty} {ua : Option Addr} {uc : Nat} {w W W' : World} (R : FillMem k s m sl fv isv u ua uc w W) (h : Below W.heap.size W W') : FillMem k s m sl fv isv u ua uc w W' := by
  have := R.size
  exact ⟨R.hz.trans (h.mono R.hz.size), R.k4.low h, R.hu.low h, (h.block _ (by omega)).trans R.hf, (h.block _ (by omega)).trans R.hi, R.q4.low h, Nat.le_trans R.size h.size⟩
theorem FillMem.sett {k : Int} {s : ByteArray} {m : Int} {sl fv isv : Value} {u : Ty} {ua : Option Addr} {uc : Nat} {w W : World} (R : FillMem k s m sl fv isv u ua uc w W) (k' : Int) (s' : ByteArray) (m' : Int) (sl' : Value) :
    FillMem k' s' m' sl' fv isv u ua uc w ((((W.setCell ⟨w.heap.size, 0, none⟩ (.int .i64 k')).setCell ⟨w.heap.size, 1, none⟩ (.string s')).setCell ⟨w.heap.size, 2, none⟩ (.int .i64 m')).setCell ⟨w.heap.size, 3, none⟩ sl') := by
  have h := same_set4 W w.heap.size (.int .i64 k') (.string s') (.int .i64 m') sl'
  exact ⟨R.hz.set4 (Nat.le_refl _) _ _ _ _, B4.set4 R.k4 _ _ _ _, (h.off _ (by omega)).trans R.hu, (h.off _ (by omega)).trans R.hf, (h.off _ (by omega)).trans R.hi, (h.off _ (by omega)).trans R.q4, by rw [h.size]; exact R.size⟩

/-- the call of with in put: whatever type stands in the box -/
theorem fill_call (d : Nat) (ih : FillSaid d) (u t : Ty) (free : List ByteArray) (is : Ty → Bool) (fv isv : Value) (S S0 Sf : Nat → Prop) (a ua : Option Addr) (c uc : Nat) (k : Int) (s : ByteArray) (m : Int) (sl : Value) (w W0 : World) (R : FillMem k s m sl fv isv u ua uc w W0) (hg : Good t) (hgu : Good u) (hd : ∀ x ∈ t.args, x.depth ≤ d) (hs : sizeL t.args ≤ 1073741824) (hsu : u.size ≤ 1073741824) (hsf : free.length ≤ 1073741824)
    (hA : ArgsAt S W0 (.slice a t.args.length c) t.args) (hU : ArgsAt S0 w (.slice ua u.args.length uc) u.args) (hF : StrsAt Sf w fv free) (hI : IsSaid isv is w) (hS : ∀ b, S b → b < W0.heap.size) (hS0 : ∀ b, S0 b → b < w.heap.size) (hSS : ∀ b, S0 b → S b) (hSf : ∀ b, Sf b → b < w.heap.size) (hT : Tab w) :
    Calls Tryd.prog 38 #[tv t a c, .func (.func 58) #[] #[.pointer (some ⟨w.heap.size + 1, 0, none⟩), .pointer (some ⟨w.heap.size + 2, 0, none⟩), .pointer (some ⟨w.heap.size + 3, 0, none⟩)]] W0 (TP S (withT t (t.args.map (putF d u free is))) W0) := by
  have hal := length_le_sizeL t.args
  have hsz := R.size
  have CW := with_any 58 #[.pointer (some ⟨w.heap.size + 1, 0, none⟩), .pointer (some ⟨w.heap.size + 2, 0, none⟩), .pointer (some ⟨w.heap.size + 3, 0, none⟩)] put1Enters noT noI (fun (_ : Unit) x => (putF d u free is x, ())) t () S a c W0 trivial (fun _ _ _ _ _ => trivial) hA (fun b hb => ⟨hS b hb, id⟩) (fun b hb => hb.elim) (by omega)
    (fun i hi a' c' W _ hK hA' => by
      have hmi := List.getElem_mem hi
      have hkb := hK.to_below
      have hwW := R.hz.trans (hkb.mono R.hz.size)
      exact (put1_any d ih u free is fv isv (w.heap.size + 1) (w.heap.size + 2) (w.heap.size + 3) t.args[i] S Sf a' ua c' uc W (R.hu.low hkb) ((hkb.block _ (by omega)).trans R.hf) ((hkb.block _ (by omega)).trans R.hi) (good_args hg _ hmi) hgu (hd _ hmi) (by have := size_arg _ hmi; omega) hsu hsf hA' ((hU.keep fun b hb => hwW.block b (hS0 b hb)).mono hSS) (hF.keep fun b hb => hwW.block b (hSf b hb)) (hI.low hwW) (fun b hb => Nat.lt_of_lt_of_le (hS b hb) hkb.size) (fun b hb => Nat.lt_of_lt_of_le (hSf b hb) hwW.size) (tab_below hT hwW)).mono fun e W' h => h.post)
  rw [mapAcc_unit] at CW
  exact CW.mono fun e W' h => TP.of h

set_option maxRecDepth 100000 in
set_option maxHeartbeats 3200000 in
theorem fill_is (d : Nat) (u t : Ty) (free : List ByteArray) (is : Ty → Bool) (fv isv : Value) (S Sf : Nat → Prop) (a ua : Option Addr) (c uc : Nat) (w : World) (h : is t = true) (hU : ArgsAt S w (.slice ua u.args.length uc) u.args) (hF : StrsAt Sf w fv free) (hI : IsSaid isv is w) (hS : ∀ b, S b → b < w.heap.size) : Calls Tryd.prog 41 #[tv t a c, tv u ua uc, fv, isv] w (TP S (putF (d + 1) u free is t) w) := by
  obtain ⟨af, cf, rfl, hF'⟩ := id hF
  obtain ⟨f, caps, rfl, he, hc⟩ := id hI
  have R := fillMem t.kind t.name t.n (.slice a t.args.length c) (.slice af free.length cf) (.func (.func f) #[] caps) u ua uc w
  have e0 := cell_of_row _ _ 0 _ _ _ R.hi
  have c0 := R.k4.c0
  have c1 := R.k4.c1
  have c2 := R.k4.c2
  have c3 := R.k4.c3
  have CI := Lib.hid (hc t a c _ R.hz)
  have E := Lib.hid (putF_is d u free is t h)
  have HI := Lib.hid h
  have RH := Lib.hid R
  have HU := Lib.hid hU
  have HS := Lib.hid hS
  unfold tv at *
  clear R h hU hF hI hc hF' hS
  go_enter Tryd.func41, Tryd.ntmps41
  go_wp2_with fail
  refine CI.out.mono ?_
  rintro e w1 ⟨rfl, hb1⟩
  have R1 := Lib.hid (RH.out.low hb1)
  rw [HI.out]
  have d0 := R1.out.hu.c0
  have d1 := R1.out.hu.c1
  have d2 := R1.out.hu.c2
  have d3 := R1.out.hu.c3
  have r0 := R1.out.q4.c0
  have r1 := R1.out.q4.c1
  have r2 := R1.out.q4.c2
  have r3 := R1.out.q4.c3
  have u0 := R1.out.q4.fr 0
  have u1 := R1.out.q4.fr 1
  have u2 := R1.out.q4.fr 2
  have u3 := R1.out.q4.fr 3
  clear hb1
  go_wp2
  have q5 := B4.set4 R1.out.q4 (.int .i64 u.kind) (.string u.name) (.int .i64 u.n) (.slice ua u.args.length uc)
  exact bodyPost_ret (v := tv u ua uc) (by simp [results, Tryd.results41, go_sem, tv, q5.c0, q5.c1, q5.c2, q5.c3]) rfl (by
    rw [E.out]
    have hb := R1.out.hz.set4 (b := w.heap.size + 4) (by omega) (.int .i64 u.kind) (.string u.name) (.int .i64 u.n) (.slice ua u.args.length uc)
    exact ⟨ua, uc, rfl, (HU.out.keep fun b h => hb.block b (HS.out b h)).mono fun b h => .inl h, hb⟩)

set_option maxRecDepth 100000 in
set_option maxHeartbeats 3200000 in
theorem fill_plain (d : Nat) (u t : Ty) (free : List ByteArray) (is : Ty → Bool) (fv isv : Value) (S Sf : Nat → Prop) (a ua : Option Addr) (c uc : Nat) (w : World) (ih : FillSaid d) (h : is t = false) (h5 : t.kind = 5 → hasN free t.name = false) (hg : Good t) (hgu : Good u) (hd : t.depth ≤ d + 1) (hs : t.size ≤ 1073741824) (hsu : u.size ≤ 1073741824) (hsf : free.length ≤ 1073741824) (hA : ArgsAt S w (.slice a t.args.length c) t.args) (hU : ArgsAt S w (.slice ua u.args.length uc) u.args) (hF : StrsAt Sf w fv free) (hI : IsSaid isv is w) (hS : ∀ b, S b → b < w.heap.size) (hSf : ∀ b, Sf b → b < w.heap.size) (hT : Tab w) : Calls Tryd.prog 41 #[tv t a c, tv u ua uc, fv, isv] w (TP S (putF (d + 1) u free is t) w) := by
  obtain ⟨af, cf, rfl, hF'⟩ := id hF
  obtain ⟨f, caps, rfl, he, hc⟩ := id hI
  have R := fillMem t.kind t.name t.n (.slice a t.args.length c) (.slice af free.length cf) (.func (.func f) #[] caps) u ua uc w
  have e0 := cell_of_row _ _ 0 _ _ _ R.hi
  have c0 := R.k4.c0
  have c1 := R.k4.c1
  have c2 := R.k4.c2
  have c3 := R.k4.c3
  have hsz := t.size_eq
  have hdp := t.depth_eq
  have CI := Lib.hid (hc t a c _ R.hz)
  have E := Lib.hid (putF_with d u free is t h h5)
  have HI := Lib.hid h
  have RH := Lib.hid R
  have HS := Lib.hid hS
  have CC := Lib.hid (fun (W : World) (h : Below w.heap.size w W) => contains_any (hF.keep fun b hb => h.block b (hSf b hb)) t.name)
  have CW := Lib.hid (fun (W : World) (R : FillMem t.kind t.name t.n (.slice a t.args.length c) (.slice af free.length cf) (.func (.func f) #[] caps) u ua uc w W) => fill_call d ih u t free is _ _ S S Sf a ua c uc _ _ _ _ w W R hg hgu (fun x hx => by have := depth_arg _ hx; omega) (by omega) hsu hsf (hA.keep fun b hb => R.hz.block b (hS b hb)) hU hF hI (fun b hb => Nat.lt_of_lt_of_le (hS b hb) R.hz.size) hS (fun b hb => hb) hSf hT)
  have q : (t.kind == 5) = true ∧ hasN free t.name = false ∨ (t.kind == 5) = false := by
    by_cases hk : t.kind = 5
    · exact .inl ⟨by rw [beq_iff_eq]; exact hk, h5 hk⟩
    · exact .inr (by rw [beq_eq_false_iff_ne]; exact hk)
  unfold tv at *
  clear R h h5 hg hgu hd hs hsu hsf hA hU hF hI hc hF' hS hSf hT hsz hdp ih
  rcases q with ⟨z5, zn⟩ | z5
  · have ZN := Lib.hid zn
    clear zn
    go_enter Tryd.func41, Tryd.ntmps41
    go_wp2_with fail
    refine CI.out.mono ?_
    rintro e w1 ⟨rfl, hb1⟩
    have R1 := Lib.hid (RH.out.low hb1)
    rw [HI.out]
    have g0 := cell_of_row _ _ 0 _ _ _ R1.out.hf
    have l0 := R1.out.k4.c0
    have l1 := R1.out.k4.c1
    have l2 := R1.out.k4.c2
    have l3 := R1.out.k4.c3
    clear hb1 c0 c1 c2 c3 e0
    have cc := CC.out w1 R1.out.hz
    rw [contains_hasN, ZN.out] at cc
    have C1 := Lib.hid cc
    clear cc
    go_wp2_with fail
    refine C1.out.mono ?_
    rintro e w' ⟨rfl, rfl⟩
    have CX := Lib.hid (CW.out w1 R1.out)
    go_wp2_with fail
    refine CX.out.mono ?_
    rintro e W2 ⟨a2, c2', rfl, hA2, hb2⟩
    have q4 := R1.out.q4.low hb2
    have r0 := q4.c0
    have r1 := q4.c1
    have r2 := q4.c2
    have r3 := q4.c3
    have u0 := q4.fr 0
    have u1 := q4.fr 1
    have u2 := q4.fr 2
    have u3 := q4.fr 3
    have HA2 := Lib.hid hA2
    have HB2 := Lib.hid hb2
    clear hA2 hb2 l0 l1 l2 l3 g0
    have EY : Hid (putF (d + 1) u free is t = withT t (t.args.map (putF d u free is))) := E
    clear E
    generalize withT t (t.args.map (putF d u free is)) = y at *
    unfold tv
    go_wp2
    have q5 := B4.set4 q4 (.int .i64 y.kind) (.string y.name) (.int .i64 y.n) (.slice a2 y.args.length c2')
    exact bodyPost_ret (v := tv y a2 c2') (by simp [results, Tryd.results41, go_sem, tv, q5.c0, q5.c1, q5.c2, q5.c3]) rfl (by rw [EY.out]; exact TP.stored (R := w.heap.size + 4) HS.out R1.out.hz HA2.out HB2.out (by omega) (by have := R1.out.size; omega))
  · go_enter Tryd.func41, Tryd.ntmps41
    go_wp2_with fail
    refine CI.out.mono ?_
    rintro e w1 ⟨rfl, hb1⟩
    have R1 := Lib.hid (RH.out.low hb1)
    rw [HI.out]
    have g0 := cell_of_row _ _ 0 _ _ _ R1.out.hf
    have l0 := R1.out.k4.c0
    have l1 := R1.out.k4.c1
    have l2 := R1.out.k4.c2
    have l3 := R1.out.k4.c3
    clear hb1 c0 c1 c2 c3 e0
    have CX := Lib.hid (CW.out w1 R1.out)
    go_wp2_with fail
    refine CX.out.mono ?_
    rintro e W2 ⟨a2, c2', rfl, hA2, hb2⟩
    have q4 := R1.out.q4.low hb2
    have r0 := q4.c0
    have r1 := q4.c1
    have r2 := q4.c2
    have r3 := q4.c3
    have u0 := q4.fr 0
    have u1 := q4.fr 1
    have u2 := q4.fr 2
    have u3 := q4.fr 3
    have HA2 := Lib.hid hA2
    have HB2 := Lib.hid hb2
    clear hA2 hb2 l0 l1 l2 l3 g0
    have EY : Hid (putF (d + 1) u free is t = withT t (t.args.map (putF d u free is))) := E
    clear E
    generalize withT t (t.args.map (putF d u free is)) = y at *
    unfold tv
    go_wp2
    have q5 := B4.set4 q4 (.int .i64 y.kind) (.string y.name) (.int .i64 y.n) (.slice a2 y.args.length c2')
    exact bodyPost_ret (v := tv y a2 c2') (by simp [results, Tryd.results41, go_sem, tv, q5.c0, q5.c1, q5.c2, q5.c3]) rfl (by rw [EY.out]; exact TP.stored (R := w.heap.size + 4) HS.out R1.out.hz HA2.out HB2.out (by omega) (by have := R1.out.size; omega))

end Go.Proofs.YtifaaihekgnhiaaDoor.Tp

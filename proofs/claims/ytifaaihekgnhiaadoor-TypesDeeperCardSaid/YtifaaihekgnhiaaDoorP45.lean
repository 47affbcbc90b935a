/- Texts laid together: TyFillD, TyHold, TySame. -/
import Derived.Test.YtifaaihekgnhiaaDoorP42
import Derived.Deep.RegionHeld3
import Derived.Test.YtifaaihekgnhiaaDoorP37
import Derived.Test.YtifaaihekgnhiaaDoorP28
import Derived.Test.YtifaaihekgnhiaaDoorP43
import Derived.Test.YtifaaihekgnhiaaDoorP44
import Derived.Test.YtifaaihekgnhiaaDoorP14

/- The walk of Fill. -/
namespace Go.Proofs.YtifaaihekgnhiaaDoor.Tp
open Go.RowKit

/-- memory in Fill -/
structure FilMem (t u : Ty) (n : Int) (a ua : Option Addr) (c uc : Nat) (w W : World) : Prop where
  hz : Below w.heap.size w W
  k4 : B4 W w.heap.size (.int .i64 t.kind) (.string t.name) (.int .i64 t.n) (.slice a t.args.length c)
  hn : W.heap[w.heap.size + 1]? = some (.cells #[.int .i64 n] 3 (0, 0))
  hu : B4 W (w.heap.size + 2) (.int .i64 u.kind) (.string u.name) (.int .i64 u.n) (.slice ua u.args.length uc)
  q4 : B4 W (w.heap.size + 3) (.int .i64 0) (.string ⟨#[]⟩) (.int .i64 0) (.slice none 0 0)
  size : w.heap.size + 4 ≤ W.heap.size

theorem filMem (t u : Ty) (n : Int) (a ua : Option Addr) (c uc : Nat) (w : World) : FilMem t u n a ua c uc w ((((w.alloc (.cells #[.int .i64 t.kind, .string t.name, .int .i64 t.n, .slice a t.args.length c] 25)).alloc (.cells #[.int .i64 n] 3)).alloc (.cells #[.int .i64 u.kind, .string u.name, .int .i64 u.n, .slice ua u.args.length uc] 25)).alloc (.cells #[.int .i64 0, .string ⟨#[]⟩, .int .i64 0, .slice none 0 0] 25)) := by
  refine ⟨four_allocs _ _ _ _ _, ?_, ?_, ?_, alloc_new (by simp), by simp⟩
  · exact (((B4.new w _ _ _ _).low ((Below.refl _ _).alloc (Nat.le_refl _) _)).low ((Below.refl _ _).alloc (Nat.le_refl _) _)).low ((Below.refl _ _).alloc (Nat.le_refl _) _)
  · rw [heap_alloc_old _ _ (by simp), heap_alloc_old _ _ (by simp)]
    exact alloc_new (by simp)
  · unfold B4
    rw [heap_alloc_old _ _ (by simp)]
    exact alloc_new (by simp)
theorem FilMem.low {t u : Ty} {n : Int} {a ua : Option Addr} {c uc : Nat} {w W W' : World} (R : FilMem t u n a ua c uc w W) (h : Below W.heap.size W W') : FilMem t u n a ua c uc w W' := by
  have := R.size
  exact ⟨R.hz.trans (h.mono R.hz.size), R.k4.low h, (h.block _ (by omega)).trans R.hn, R.hu.low h, R.q4.low h, Nat.le_trans R.size h.size⟩

theorem B4.of_block {W W' : World} {b : Nat} {p q r s : Value} (h : W'.heap[b]? = W.heap[b]?) (k : B4 W b p q r s) : B4 W' b p q r s := h.trans k

set_option maxRecDepth 100000 in
set_option maxHeartbeats 3200000 in
theorem fillT_any (n : Int) (u t : Ty) (S : Nat → Prop) (a ua : Option Addr) (c uc : Nat) (w : World) (hg : Good t) (hgu : Good u) (hs : t.size ≤ 1073741824) (hsu : u.size ≤ 1073741824)
    (hA : ArgsAt S w (.slice a t.args.length c) t.args) (hU : ArgsAt S w (.slice ua u.args.length uc) u.args) (hS : ∀ b, S b → b < w.heap.size) (hT : Tab w) : Calls Tryd.prog 21 #[tv t a c, .int .i64 n, tv u ua uc] w (TP S (fillT n u t) w) := by
  have R := filMem t u n a ua c uc w
  have hfu := freeT_len u
  have c0 := R.k4.c0
  have c1 := R.k4.c1
  have c2 := R.k4.c2
  have c3 := R.k4.c3
  have d0 := R.hu.c0
  have d1 := R.hu.c1
  have d2 := R.hu.c2
  have d3 := R.hu.c3
  have RD := R.low ((Below.refl _ _).drew)
  have x0 := RD.k4.c0
  have x1 := RD.k4.c1
  have x2 := RD.k4.c2
  have x3 := RD.k4.c3
  have y0 := RD.hu.c0
  have y1 := RD.hu.c1
  have y2 := RD.hu.c2
  have y3 := RD.hu.c3
  have CF := Lib.hid (fun (W : World) (h : Below w.heap.size w W) => free_any u S ua uc W (hU.keep fun b hb => h.block b (hS b hb)) (fun b hb => Nat.lt_of_lt_of_le (hS b hb) h.size) (by omega))
  have CP := Lib.hid (fun (W : World) (R : FilMem t u n a ua c uc w W) (v : Value) (lo : Nat) (own : W.ownsRow lo 9 1 v (freeT u).length ((freeT u).map Value.string)) => fill_said t.depth u t (freeT u) (isMeta n) v (.func (.func 42) #[] #[.pointer (some ⟨w.heap.size + 1, 0, none⟩)]) S _ a ua c uc W hg hgu (Nat.le_refl _) hs hsu (by omega)
    (hA.keep fun b hb => R.hz.block b (hS b hb)) (hU.keep fun b hb => R.hz.block b (hS b hb)) (StrsAt.of_own own (by omega)) ⟨_, _, rfl, Fill1Enters, fun x a' c' W' h' => fill1_any n _ x a' c' W' ((R.low h').hn)⟩ (fun b hb => Nat.lt_of_lt_of_le (hS b hb) R.hz.size) (fun b hb => (own.lt b hb).2) (tab_below hT R.hz))
  have HS := Lib.hid hS
  have RH := Lib.hid R
  have HRD := Lib.hid RD
  unfold fillT
  unfold tv at *
  clear R RD hg hgu hs hsu hA hU hS hT
  go_enter Tryd.func21, Tryd.ntmps21
  go_wp2
  have KD : Hid (∀ (W : World), FilMem t u n a ua c uc w W → (W.cell? ⟨w.heap.size, 0, none⟩ = some (.int .i64 t.kind) ∧ W.cell? ⟨w.heap.size, 1, none⟩ = some (.string t.name) ∧ W.cell? ⟨w.heap.size, 2, none⟩ = some (.int .i64 t.n) ∧ W.cell? ⟨w.heap.size, 3, none⟩ = some (.slice a t.args.length c) ∧ W.cell? ⟨w.heap.size + 1 + 1, 0, none⟩ = some (.int .i64 u.kind) ∧ W.cell? ⟨w.heap.size + 1 + 1, 1, none⟩ = some (.string u.name) ∧ W.cell? ⟨w.heap.size + 1 + 1, 2, none⟩ = some (.int .i64 u.n) ∧ W.cell? ⟨w.heap.size + 1 + 1, 3, none⟩ = some (.slice ua u.args.length uc))) := Lib.hid (fun W R => ⟨R.k4.c0, R.k4.c1, R.k4.c2, R.k4.c3, R.hu.c0, R.hu.c1, R.hu.c2, R.hu.c3⟩)
  have KX : Hid (∀ (W : World), FilMem t u n a ua c uc w W → ∀ (p q r s : Value), (((((W.setCell ⟨w.heap.size + 1 + 1 + 1, 0, none⟩ p).setCell ⟨w.heap.size + 1 + 1 + 1, 1, none⟩ q).setCell ⟨w.heap.size + 1 + 1 + 1, 2, none⟩ r).setCell ⟨w.heap.size + 1 + 1 + 1, 3, none⟩ s).cell? ⟨w.heap.size, 0, none⟩ = some (.int .i64 t.kind) ∧ ((((W.setCell ⟨w.heap.size + 1 + 1 + 1, 0, none⟩ p).setCell ⟨w.heap.size + 1 + 1 + 1, 1, none⟩ q).setCell ⟨w.heap.size + 1 + 1 + 1, 2, none⟩ r).setCell ⟨w.heap.size + 1 + 1 + 1, 3, none⟩ s).cell? ⟨w.heap.size, 1, none⟩ = some (.string t.name) ∧ ((((W.setCell ⟨w.heap.size + 1 + 1 + 1, 0, none⟩ p).setCell ⟨w.heap.size + 1 + 1 + 1, 1, none⟩ q).setCell ⟨w.heap.size + 1 + 1 + 1, 2, none⟩ r).setCell ⟨w.heap.size + 1 + 1 + 1, 3, none⟩ s).cell? ⟨w.heap.size, 2, none⟩ = some (.int .i64 t.n) ∧ ((((W.setCell ⟨w.heap.size + 1 + 1 + 1, 0, none⟩ p).setCell ⟨w.heap.size + 1 + 1 + 1, 1, none⟩ q).setCell ⟨w.heap.size + 1 + 1 + 1, 2, none⟩ r).setCell ⟨w.heap.size + 1 + 1 + 1, 3, none⟩ s).cell? ⟨w.heap.size, 3, none⟩ = some (.slice a t.args.length c) ∧ ((((W.setCell ⟨w.heap.size + 1 + 1 + 1, 0, none⟩ p).setCell ⟨w.heap.size + 1 + 1 + 1, 1, none⟩ q).setCell ⟨w.heap.size + 1 + 1 + 1, 2, none⟩ r).setCell ⟨w.heap.size + 1 + 1 + 1, 3, none⟩ s).cell? ⟨w.heap.size + 1 + 1, 0, none⟩ = some (.int .i64 u.kind) ∧ ((((W.setCell ⟨w.heap.size + 1 + 1 + 1, 0, none⟩ p).setCell ⟨w.heap.size + 1 + 1 + 1, 1, none⟩ q).setCell ⟨w.heap.size + 1 + 1 + 1, 2, none⟩ r).setCell ⟨w.heap.size + 1 + 1 + 1, 3, none⟩ s).cell? ⟨w.heap.size + 1 + 1, 1, none⟩ = some (.string u.name) ∧ ((((W.setCell ⟨w.heap.size + 1 + 1 + 1, 0, none⟩ p).setCell ⟨w.heap.size + 1 + 1 + 1, 1, none⟩ q).setCell ⟨w.heap.size + 1 + 1 + 1, 2, none⟩ r).setCell ⟨w.heap.size + 1 + 1 + 1, 3, none⟩ s).cell? ⟨w.heap.size + 1 + 1, 2, none⟩ = some (.int .i64 u.n) ∧ ((((W.setCell ⟨w.heap.size + 1 + 1 + 1, 0, none⟩ p).setCell ⟨w.heap.size + 1 + 1 + 1, 1, none⟩ q).setCell ⟨w.heap.size + 1 + 1 + 1, 2, none⟩ r).setCell ⟨w.heap.size + 1 + 1 + 1, 3, none⟩ s).cell? ⟨w.heap.size + 1 + 1, 3, none⟩ = some (.slice ua u.args.length uc))) := Lib.hid (fun W R p q r s => by
    have h := same_set4 W (w.heap.size + 1 + 1 + 1) p q r s
    have k := B4.of_block (h.off w.heap.size (by omega)) R.k4
    have l := B4.of_block (h.off (w.heap.size + 2) (by omega)) R.hu
    exact ⟨k.c0, k.c1, k.c2, k.c3, l.c0, l.c1, l.c2, l.c3⟩)
  clear x0 x1 x2 x3 y0 y1 y2 y3
  go_region_held3 (fun w' => w'.cell? ⟨w.heap.size, 0, none⟩ = some (.int .i64 t.kind) ∧ w'.cell? ⟨w.heap.size, 1, none⟩ = some (.string t.name) ∧ w'.cell? ⟨w.heap.size, 2, none⟩ = some (.int .i64 t.n) ∧ w'.cell? ⟨w.heap.size, 3, none⟩ = some (.slice a t.args.length c) ∧ w'.cell? ⟨w.heap.size + 1 + 1, 0, none⟩ = some (.int .i64 u.kind) ∧ w'.cell? ⟨w.heap.size + 1 + 1, 1, none⟩ = some (.string u.name) ∧ w'.cell? ⟨w.heap.size + 1 + 1, 2, none⟩ = some (.int .i64 u.n) ∧ w'.cell? ⟨w.heap.size + 1 + 1, 3, none⟩ = some (.slice ua u.args.length uc))
    (first | (with_reducible exact KX.out _ R2.out _ _ _ _) | (with_reducible exact KD.out _ R2.out) | (with_reducible exact KD.out _ R1.out) | (with_reducible exact KD.out _ HRD.out))
    (first
      | (go_at_call 14; refine (CF.out _ HRD.out.hz).mono ?_; rintro e w1 ⟨v1, rfl, own1, len1, hb1⟩; obtain ⟨ya1, yc1, rfl⟩ := own_form own1; have R1 := Lib.hid (HRD.out.low hb1); have CP1 := Lib.hid (CP.out _ R1.out _ _ own1); clear hb1 own1)
      | (go_at_call 41; refine CP1.out.mono ?_; rintro e W2 ⟨a2, c9, rfl, hA2, hb2⟩; have q4 := R1.out.q4.low hb2; have R2 := Lib.hid (R1.out.low hb2); have r0 := q4.c0; have r1 := q4.c1; have r2 := q4.c2; have r3 := q4.c3; have v0 := q4.fr 0; have v1 := q4.fr 1; have v2 := q4.fr 2; have v3 := q4.fr 3; have HA2 := Lib.hid hA2; have HB2 := Lib.hid hb2; have Q4 := Lib.hid q4; clear hA2 hb2 q4; unfold tv))
  all_goals
    clear CP CF CP1 KD KX c0 c1 c2 c3 d0 d1 d2 d3
    generalize putF t.depth u (freeT u) (isMeta n) t = y at *
    go_wp2
    have q5 := B4.set4 Q4.out (.int .i64 y.kind) (.string y.name) (.int .i64 y.n) (.slice a2 y.args.length c9)
    exact bodyPost_ret (v := tv y a2 c9) (by simp [results, Tryd.results21, go_sem, tv, q5.c0, q5.c1, q5.c2, q5.c3]) rfl (TP.stored HS.out R1.out.hz HA2.out HB2.out (by omega) (by have := R1.out.size; omega))

end Go.Proofs.YtifaaihekgnhiaaDoor.Tp

/- A type held in a block, and what the functions tell of it. -/
namespace Go.Proofs.YtifaaihekgnhiaaDoor.Tp
open Go.RowKit

/-- good, and not too large -/
def Small (t : Ty) : Prop := Good t ∧ t.size ≤ 1073741824

/-- block b holds the type t, whose arguments lie below block n -/
structure Hold (n b : Nat) (t : Ty) (a : Option Addr) (c : Nat) (W : World) : Prop where
  k : B4 W b (.int .i64 t.kind) (.string t.name) (.int .i64 t.n) (.slice a t.args.length c)
  h : ArgsAt (Lt n) W (.slice a t.args.length c) t.args
  lt : b < W.heap.size
  le : n ≤ W.heap.size
theorem Hold.low {n b : Nat} {t : Ty} {a : Option Addr} {c : Nat} {W W' : World} (R : Hold n b t a c W) (h : Below W.heap.size W W') : Hold n b t a c W' :=
  ⟨R.k.low h, R.h.keep fun j hj => h.block j (Nat.lt_of_lt_of_le hj R.le), Nat.lt_of_lt_of_le R.lt h.size, Nat.le_trans R.le h.size⟩
theorem Hold.of_parse {w W : World} {t : Ty} {a : Option Addr} {c : Nat} (h : ArgsAt (In w.heap.size W.heap.size) W (.slice a t.args.length c) t.args) :
    Hold W.heap.size W.heap.size t a c (W.alloc (.cells #[.int .i64 t.kind, .string t.name, .int .i64 t.n, .slice a t.args.length c] 25)) :=
  ⟨B4.new W _ _ _ _, (h.mono fun b hb => hb.2).keep fun b hb => heap_alloc_old W _ hb, by simp, by simp⟩
/-- what Put and Fill tell -/
def AtW (y : Ty) (a : Option Addr) (c : Nat) (W : World) : Prop := ArgsAt (Lt W.heap.size) W (.slice a y.args.length c) y.args
theorem AtW.low {y : Ty} {a : Option Addr} {c : Nat} {W W' : World} (R : AtW y a c W) (h : Below W.heap.size W W') : AtW y a c W' :=
  (R.keep fun j hj => h.block j hj).mono fun _ hj => Nat.lt_of_lt_of_le hj h.size
theorem Hold.at_ {n b : Nat} {t : Ty} {a : Option Addr} {c : Nat} {W : World} (R : Hold n b t a c W) : AtW t a c W := R.h.mono fun _ hj => Nat.lt_of_lt_of_le hj R.le

def NewPost (y : Ty) (W : World) (e : Ending) (W' : World) : Prop := ∃ a c, e = .returned (.agg #[.int .i64 y.kind, .string y.name, .int .i64 y.n, .slice a y.args.length c]) ∧ AtW y a c W' ∧ Below W.heap.size W W'
theorem NewPost.of {y : Ty} {W : World} {e : Ending} {W' : World} (h : TP (Lt W.heap.size) y W e W') : NewPost y W e W' := by
  obtain ⟨a, c, he, hA, hb⟩ := h
  refine ⟨a, c, he, hA.mono fun j hj => ?_, hb⟩
  rcases hj with hj | hj
  · exact Nat.lt_of_lt_of_le hj hb.size
  · exact hj.2

theorem print_h {t : Ty} {a : Option Addr} {c : Nat} {W : World} (R : AtW t a c W) (hs : Small t) (hT : Tab W) :
    Calls Tryd.prog 10 #[.agg #[.int .i64 t.kind, .string t.name, .int .i64 t.n, .slice a t.args.length c]] W (StrPost W (printT t)) :=
  print_any t _ a c W R (fun _ h => h) hs.1.1 (by have := printT_len t hs.1; have := hs.2; omega) hT
theorem canon_h {t : Ty} {a : Option Addr} {c : Nat} {W : World} (R : AtW t a c W) (hs : Small t) (hT : Tab W) :
    Calls Tryd.prog 11 #[.agg #[.int .i64 t.kind, .string t.name, .int .i64 t.n, .slice a t.args.length c]] W (StrPost W (canonS t)) :=
  canon_any t _ a c W R (fun _ h => h) hs.1 hs.2 hT
theorem depth_h {t : Ty} {a : Option Addr} {c : Nat} {W : World} (R : AtW t a c W) (hd : t.depth ≤ 100000) :
    Calls Tryd.prog 17 #[.agg #[.int .i64 t.kind, .string t.name, .int .i64 t.n, .slice a t.args.length c]] W (IntPost W t.depth) :=
  depth_any t _ _ W ⟨_, rfl, R⟩ (fun _ h => h) hd
theorem poly_h {t : Ty} {a : Option Addr} {c : Nat} {W : World} (R : AtW t a c W) (hs : Small t) :
    Calls Tryd.prog 20 #[.agg #[.int .i64 t.kind, .string t.name, .int .i64 t.n, .slice a t.args.length c]] W (BoolPost W (polyT t)) :=
  poly_any t _ a c W R (fun _ h => h) (by have := hs.2; omega)
theorem free_h {t : Ty} {a : Option Addr} {c : Nat} {W : World} (R : AtW t a c W) (hs : Small t) :
    Calls Tryd.prog 14 #[.agg #[.int .i64 t.kind, .string t.name, .int .i64 t.n, .slice a t.args.length c]] W (FreePost W t) :=
  free_any t _ a c W R (fun _ h => h) (by have := hs.2; omega)
theorem metas_h {t : Ty} {a : Option Addr} {c : Nat} {W : World} (R : AtW t a c W) (hs : Small t) :
    Calls Tryd.prog 16 #[.agg #[.int .i64 t.kind, .string t.name, .int .i64 t.n, .slice a t.args.length c]] W (MetasPost W t) :=
  metas_any t _ a c W R (fun _ h => h) (by have := hs.2; omega)
theorem put_h (nm : ByteArray) {u t : Ty} {a ua : Option Addr} {c uc : Nat} {W : World} (R : AtW t a c W) (U : AtW u ua uc W) (hs : Small t) (hu : Small u) (hT : Tab W) :
    Calls Tryd.prog 19 #[.agg #[.int .i64 t.kind, .string t.name, .int .i64 t.n, .slice a t.args.length c], .string nm, .agg #[.int .i64 u.kind, .string u.name, .int .i64 u.n, .slice ua u.args.length uc]] W (NewPost (PutT nm u t) W) :=
  (put_any nm u t _ a ua c uc W hs.1 hu.1 hs.2 hu.2 R U (fun _ h => h) hT).mono fun _ _ h => .of h
theorem fill_h (n : Int) {u t : Ty} {a ua : Option Addr} {c uc : Nat} {W : World} (R : AtW t a c W) (U : AtW u ua uc W) (hs : Small t) (hu : Small u) (hT : Tab W) :
    Calls Tryd.prog 21 #[.agg #[.int .i64 t.kind, .string t.name, .int .i64 t.n, .slice a t.args.length c], .int .i64 n, .agg #[.int .i64 u.kind, .string u.name, .int .i64 u.n, .slice ua u.args.length uc]] W (NewPost (fillT n u t) W) :=
  (fillT_any n u t _ a ua c uc W hs.1 hu.1 hs.2 hu.2 R U (fun _ h => h) hT).mono fun _ _ h => .of h

end Go.Proofs.YtifaaihekgnhiaaDoor.Tp

/- The walks of Same and canon. -/
namespace Go.Proofs.YtifaaihekgnhiaaDoor.Tp
open Go.RowKit Go.Sort

theorem bytes_ne {a b : List UInt8} (h : a ≠ b) : bytes a ≠ bytes b := fun e => h (bytes_inj e)

set_option maxRecDepth 100000 in
set_option maxHeartbeats 1600000 in
theorem same_h {t u : Ty} {a ua : Option Addr} {c uc : Nat} {w : World} (R : AtW t a c w) (U : AtW u ua uc w) (hs : Small t) (hu : Small u) (hT : Tab w) :
    Calls Tryd.prog 12 #[.agg #[.int .i64 t.kind, .string t.name, .int .i64 t.n, .slice a t.args.length c], .agg #[.int .i64 u.kind, .string u.name, .int .i64 u.n, .slice ua u.args.length uc]] w (BoolPost w (decide (canonS t = canonS u))) := by
  have hz := (Below.refl w.heap.size w).alloc (Nat.le_refl _) (.cells #[.int .i64 t.kind, .string t.name, .int .i64 t.n, .slice a t.args.length c] 25)
  have hz2 := hz.alloc hz.size (.cells #[.int .i64 u.kind, .string u.name, .int .i64 u.n, .slice ua u.args.length uc] 25)
  have b4 := (B4.new w (.int .i64 t.kind) (.string t.name) (.int .i64 t.n) (.slice a t.args.length c)).low ((Below.refl _ _).alloc (Nat.le_refl _) (.cells #[.int .i64 u.kind, .string u.name, .int .i64 u.n, .slice ua u.args.length uc] 25))
  have u4 := B4.new (w.alloc (.cells #[.int .i64 t.kind, .string t.name, .int .i64 t.n, .slice a t.args.length c] 25)) (.int .i64 u.kind) (.string u.name) (.int .i64 u.n) (.slice ua u.args.length uc)
  rw [show (w.alloc (.cells #[.int .i64 t.kind, .string t.name, .int .i64 t.n, .slice a t.args.length c] 25)).heap.size = w.heap.size + 1 from by simp] at u4
  have HZ := Lib.hid hz2
  have DX := Lib.hid (fun p => later_of (canon_h (R.low (HZ.out.trans ((later_below _ p).mono HZ.out.size))) hs (tab_below hT (HZ.out.trans ((later_below _ p).mono HZ.out.size)))))
  have DY := Lib.hid (fun p => later_of (canon_h (U.low (HZ.out.trans ((later_below _ p).mono HZ.out.size))) hu (tab_below hT (HZ.out.trans ((later_below _ p).mono HZ.out.size)))))
  have k0 := later_cell b4.c0
  have k1 := later_cell b4.c1
  have k2 := later_cell b4.c2
  have k3 := later_cell b4.c3
  have l0 := later_cell u4.c0
  have l1 := later_cell u4.c1
  have l2 := later_cell u4.c2
  have l3 := later_cell u4.c3
  have hb : ∃ b, ((bytes (canonS t)).toList == (bytes (canonS u)).toList) = b ∧ b = decide (canonS t = canonS u) := by
    by_cases e : canonS t = canonS u
    · exact ⟨true, beqN_true (by rw [e]), (decide_eq_true e).symm⟩
    · exact ⟨false, beqN_false (bytes_ne e), (decide_eq_false e).symm⟩
  obtain ⟨bb, hbb, hbe⟩ := hb
  rw [← hbe]
  clear R U hs hu hT hz hz2 b4 u4 hbe
  unfold StrPost at *
  generalize bytes (canonS t) = s1 at *
  generalize bytes (canonS u) = s2 at *
  go_enter Tryd.func12, Tryd.ntmps12
  go_wp2
  refine wp_region_later (by kernel_rfl) (by kernel_rfl) ?_
  repeat (go_big_quiet_step ((first | (with_reducible exact DX.out _) | (with_reducible exact DY.out _))))
  refine wpQuiet_nil ?_
  intro _ hw'
  obtain ⟨pq, hw''⟩ := hw'
  subst hw''
  go_wp2
  go_ret
  exact ⟨ret_bool rfl, HZ.out.trans ((later_below _ _).mono HZ.out.size)⟩

set_option maxRecDepth 100000 in
set_option maxHeartbeats 1600000 in
theorem canonf_h {s : ByteArray} (w : World) (hs : s.size ≤ maxLen) {t : Ty} (h : parseT s.data.toList = .ok t) (hsm : Small t) (hT : Tab w) : Calls Tryd.prog 22 #[.string s] w (StrPost w (canonS t)) := by
  have CP := Lib.hid (parse_any w s hs)
  rw [h] at CP
  have HT := Lib.hid hT
  have HS := Lib.hid hsm
  clear h hT hsm
  go_enter Tryd.func22, Tryd.ntmps22
  go_wp2_with fail
  refine CP.out.mono ?_
  rintro e w1 ⟨hb1, a, c, rfl, hA⟩
  have R := Hold.of_parse hA
  have hz := hb1.trans (((Below.refl _ _).alloc (Nat.le_refl _) (.cells #[.int .i64 t.kind, .string t.name, .int .i64 t.n, .slice a t.args.length c] 25)).mono hb1.size)
  have CC := Lib.hid (canon_h R.at_ HS.out (tab_below HT.out hz))
  have HZ := Lib.hid hz
  have c0 := R.k.c0
  have c1 := R.k.c1
  have c2 := R.k.c2
  have c3 := R.k.c3
  unfold tv
  clear hb1 hA R hz
  go_wp2_with fail
  refine CC.out.mono ?_
  rintro e w2 ⟨rfl, hb2⟩
  have H2 := Lib.hid (HZ.out.trans (hb2.mono HZ.out.size))
  clear hb2
  go_wp2
  go_ret
  exact ⟨rfl, H2.out⟩

end Go.Proofs.YtifaaihekgnhiaaDoor.Tp

/- Texts laid together: RfApart, RfPutTop. -/
import Derived.Test.YtifaaihekgnhiaaGreatDoorP44

/- The document's apart. (Printed by gen_rftop.py.) -/
namespace Go.Proofs.YtifaaihekgnhiaaGreatDoor.Tp
open Go.RowKit

/-- two types in boxes, and a place for the answer -/
structure TwoMem (w W : World) (t u : Ty) (a ua : Option Addr) (c uc : Nat) : Prop where
  hz : Below w.heap.size w W
  lt : w.heap.size + 3 ≤ W.heap.size
  kt : R4 W w.heap.size (.int .i64 t.kind) (.string t.name) (.int .i64 t.n) (.slice a t.args.length c)
  ku : R4 W (w.heap.size + 1) (.int .i64 u.kind) (.string u.name) (.int .i64 u.n) (.slice ua u.args.length uc)
  kr : R4 W (w.heap.size + 1 + 1) (.int .i64 0) (.string ⟨#[]⟩) (.int .i64 0) (.slice none 0 0)
theorem TwoMem.low {w W W' : World} {t u : Ty} {a ua : Option Addr} {c uc : Nat} (h : TwoMem w W t u a ua c uc) (hb : Below W.heap.size W W') : TwoMem w W' t u a ua c uc :=
  ⟨h.hz.trans (hb.mono h.hz.size), Nat.le_trans h.lt hb.size, h.kt.low hb, h.ku.low hb, h.kr.low hb⟩
theorem TwoMem.new (w : World) (t u : Ty) (a ua : Option Addr) (c uc : Nat) : TwoMem w (((w.alloc (.cells #[.int .i64 t.kind, .string t.name, .int .i64 t.n, .slice a t.args.length c] 31)).alloc (.cells #[.int .i64 u.kind, .string u.name, .int .i64 u.n, .slice ua u.args.length uc] 31)).alloc (.cells #[.int .i64 0, .string ⟨#[]⟩, .int .i64 0, .slice none 0 0] 31)) t u a ua c uc := by
  obtain ⟨h0, h1, h2, h3, h4, h5⟩ := alloc4' w (.cells #[.int .i64 t.kind, .string t.name, .int .i64 t.n, .slice a t.args.length c] 31) (.cells #[.int .i64 u.kind, .string u.name, .int .i64 u.n, .slice ua u.args.length uc] 31) (.cells #[.int .i64 0, .string ⟨#[]⟩, .int .i64 0, .slice none 0 0] 31) (.cells #[.int .i64 0, .string ⟨#[]⟩, .int .i64 0, .slice none 0 0] 31)
  have k : ∀ b, b < w.heap.size + 3 → ((((w.alloc (.cells #[.int .i64 t.kind, .string t.name, .int .i64 t.n, .slice a t.args.length c] 31)).alloc (.cells #[.int .i64 u.kind, .string u.name, .int .i64 u.n, .slice ua u.args.length uc] 31)).alloc (.cells #[.int .i64 0, .string ⟨#[]⟩, .int .i64 0, .slice none 0 0] 31)).alloc (.cells #[.int .i64 0, .string ⟨#[]⟩, .int .i64 0, .slice none 0 0] 31)).heap[b]? = (((w.alloc (.cells #[.int .i64 t.kind, .string t.name, .int .i64 t.n, .slice a t.args.length c] 31)).alloc (.cells #[.int .i64 u.kind, .string u.name, .int .i64 u.n, .slice ua u.args.length uc] 31)).alloc (.cells #[.int .i64 0, .string ⟨#[]⟩, .int .i64 0, .slice none 0 0] 31)).heap[b]? := fun b hb => heap_alloc_old _ _ (by simp; omega)
  exact ⟨(((Below.refl _ _).alloc (Nat.le_refl _) _).alloc (by simp) _).alloc (by simp; omega) _, by simp, (k _ (by omega)).symm.trans h2, (k _ (by omega)).symm.trans h3, (k _ (by omega)).symm.trans h4⟩
/-- the two boxes read as before behind a store into the third one -/
theorem TwoMem.set {w W : World} {t u : Ty} {a ua : Option Addr} {c uc : Nat} (h : TwoMem w W t u a ua c uc) (v0 v1 v2 v3 : Value) :
    let W' := (((W.setCell ⟨w.heap.size + 1 + 1, 0, none⟩ v0).setCell ⟨w.heap.size + 1 + 1, 1, none⟩ v1).setCell ⟨w.heap.size + 1 + 1, 2, none⟩ v2).setCell ⟨w.heap.size + 1 + 1, 3, none⟩ v3
    R4 W' w.heap.size (.int .i64 t.kind) (.string t.name) (.int .i64 t.n) (.slice a t.args.length c) ∧ R4 W' (w.heap.size + 1) (.int .i64 u.kind) (.string u.name) (.int .i64 u.n) (.slice ua u.args.length uc) ∧ R4 W' (w.heap.size + 1 + 1) v0 v1 v2 v3 ∧ Below w.heap.size w W' := by
  intro W'
  have k : ∀ b, b ≠ w.heap.size + 1 + 1 → W'.heap[b]? = W.heap[b]? := fun b hb => by
    show ((((W.setCell ⟨w.heap.size + 1 + 1, 0, none⟩ v0).setCell ⟨w.heap.size + 1 + 1, 1, none⟩ v1).setCell ⟨w.heap.size + 1 + 1, 2, none⟩ v2).setCell ⟨w.heap.size + 1 + 1, 3, none⟩ v3).heap[b]? = _
    rw [Below.heap_setCell _ _ _ _ hb, Below.heap_setCell _ _ _ _ hb, Below.heap_setCell _ _ _ _ hb, Below.heap_setCell _ _ _ _ hb]
  exact ⟨(k _ (by omega)).trans h.kt, (k _ (by omega)).trans h.ku, h.kr.set4 _ _ _ _, h.hz.set4 (by omega) _ _ _ _⟩
theorem AtW.set {B : Nat} {W : World} {y : Ty} {a : Option Addr} {c : Nat} (h : ArgsAt (fun b => b < W.heap.size ∧ b ≠ B) W (.slice a y.args.length c) y.args) (v0 v1 v2 v3 : Value) : AtW y a c ((((W.setCell ⟨B, 0, none⟩ v0).setCell ⟨B, 1, none⟩ v1).setCell ⟨B, 2, none⟩ v2).setCell ⟨B, 3, none⟩ v3) :=
  (h.keep fun b hb => by
    have hne : b ≠ B := hb.2
    rw [Below.heap_setCell _ _ _ _ hne, Below.heap_setCell _ _ _ _ hne, Below.heap_setCell _ _ _ _ hne, Below.heap_setCell _ _ _ _ hne]).mono fun b hb => by
      show b < _
      have := hb.1
      simpa using this

/-- one row in a block of its own, and another one behind it -/
theorem but_one (ty : TypeId) {W wy : World} {b : Nat} {v : Value} {nm : ByteArray} {l : List ByteArray} (hb : Below W.heap.size W wy) (h1 : wy.heap[b]? = some (.cells #[.string nm] 9 (0, 0))) (hWb : W.heap.size ≤ b) (h : StrsLow wy v l) :
    ∃ v1 w1, (Builtin.append_ #[49, 49] ty #[.slice (some ⟨b, 0, none⟩) 1 1, v]).run Tryz.prog wy = .ok v1 w1 ∧ w1.ownsRow W.heap.size 9 1 v1 (nm :: l).length ((nm :: l).map Value.string) ∧ Below W.heap.size W w1 :=
  append_strs (wi := W) (wy := wy) (lo := W.heap.size) (l1 := [nm]) ty ⟨by simp, .inr ⟨b, 1, #[.string nm], rfl, hWb, h1, Nat.le_refl _, by unfold maxLen; omega, by simp, by simp⟩⟩ h hb (Nat.le_refl _) hb.size (by simp) rfl
theorem but_two (ty : TypeId) {W wy : World} {v1 v : Value} {l1 l : List ByteArray} (hb : Below W.heap.size W wy) (h1 : wy.ownsRow W.heap.size 9 1 v1 l1.length (l1.map Value.string)) (hl : l1.length ≤ 1099511627776) (h : StrsLow wy v l) :
    ∃ v2 w2, (Builtin.append_ #[49, 49] ty #[v1, v]).run Tryz.prog wy = .ok v2 w2 ∧ w2.ownsRow W.heap.size 9 1 v2 (l1 ++ l).length ((l1 ++ l).map Value.string) ∧ Below W.heap.size W w2 :=
  append_strs (wi := W) (wy := wy) (lo := W.heap.size) ty h1 h hb (Nat.le_refl _) hb.size hl rfl

def ButCut (W : World) (l : List ByteArray) (s : Value) (wx : World) : Prop := StrsLow wx s l ∧ Below W.heap.size W wx

set_option maxRecDepth 100000 in
set_option maxHeartbeats 3200000 in
theorem rapart_any (nm : ByteArray) (u t : Ty) (a ua : Option Addr) (c uc : Nat) (w : World) (hA : AtW t a c w) (hU : AtW u ua uc w) (hs : Std t) (hu : Std u) (hsz : t.size ≤ 1000000) (hus : u.size ≤ 1000000) :
    Calls Tryz.prog 54 #[tv t a c, tv u ua uc, .string nm] w (TP (fun _ => False) (apartT nm u t) w) := by
  have M := TwoMem.new w t u a ua c uc
  have hAt := hA.low M.hz
  have hUt := hU.low M.hz
  have hfl := freeT_len t
  have hful := freeT_len u
  have hbl : (butT nm u t).length ≤ 2000001 := by unfold butT; simp; omega
  have hmul : t.size * ((butT nm u t).length + 1) ≤ 100000000000000000 := Nat.le_trans (Nat.mul_le_mul hsz (show (butT nm u t).length + 1 ≤ 2000002 by omega)) (by omega)
  have CFU := Lib.hid (fun (W : World) (h : AtW u ua uc W) => rFree_any u _ ua uc W h (fun _ h => h) (std_wf u hu) (by omega))
  have CFT := Lib.hid (fun (W : World) (h : AtW t a c W) => rFree_any t _ a c W h (fun _ h => h) (std_wf t hs) (by omega))
  have CNU := Lib.hid (fun (W : World) (vb : Value) (h : AtW t a c W) (hb : StrsLow W vb (butT nm u t)) => rnum_call ⟨#[121]⟩ (by decide) (butT nm u t) t a c vb W h hs hb hmul (by omega))
  have BE : butT nm u t = (nm :: freeT u) ++ freeT t := rfl
  have BL : Hid ((nm :: freeT u).length ≤ 1099511627776 ∧ ((nm :: freeT u) ++ freeT t).length ≤ 1099511627776) := Lib.hid (by rw [BE] at hbl; simp at hbl ⊢; omega)
  unfold apartT
  rw [BE] at CNU ⊢
  generalize hr : cnT (lname ⟨#[121]⟩) ((nm :: freeT u) ++ freeT t) [] 0 (dbT [] t) = r at *
  obtain ⟨y, k2⟩ := r
  have MH := Lib.hid M
  have AT := Lib.hid hAt
  have UT := Lib.hid hUt
  clear hA hU hs hu hsz hus M hAt hUt hfl hful hbl hmul BE hr
  unfold tv at CFU CFT ⊢
  go_enter Tryz.func54, Tryz.ntmps54
  go_wp2
  generalize ((w.alloc (.cells #[.int .i64 t.kind, .string t.name, .int .i64 t.n, .slice a t.args.length c] 31)).alloc (.cells #[.int .i64 u.kind, .string u.name, .int .i64 u.n, .slice ua u.args.length uc] 31)).alloc (.cells #[.int .i64 0, .string ⟨#[]⟩, .int .i64 0, .slice none 0 0] 31) = W0 at *
  have HD := Lib.hid (Below.refl W0.heap.size W0).drew
  have HDA : Hid (Below W0.heap.size W0 (W0.alloc (.cells #[.string nm] 9)).drew) := Lib.hid ((Below.refl W0.heap.size W0).alloc (Nat.le_refl _) _).drew
  have KK : Hid (∀ W : World, Below W0.heap.size W0 W → W.cell? ⟨w.heap.size, 0, none⟩ = some (.int .i64 t.kind) ∧ W.cell? ⟨w.heap.size, 1, none⟩ = some (.string t.name) ∧ W.cell? ⟨w.heap.size, 2, none⟩ = some (.int .i64 t.n) ∧ W.cell? ⟨w.heap.size, 3, none⟩ = some (.slice a t.args.length c) ∧ W.cell? ⟨w.heap.size + 1, 0, none⟩ = some (.int .i64 u.kind) ∧ W.cell? ⟨w.heap.size + 1, 1, none⟩ = some (.string u.name) ∧ W.cell? ⟨w.heap.size + 1, 2, none⟩ = some (.int .i64 u.n) ∧ W.cell? ⟨w.heap.size + 1, 3, none⟩ = some (.slice ua u.args.length uc)) := Lib.hid (fun W h => ⟨(MH.out.low h).kt.c0, (MH.out.low h).kt.c1, (MH.out.low h).kt.c2, (MH.out.low h).kt.c3, (MH.out.low h).ku.c0, (MH.out.low h).ku.c1, (MH.out.low h).ku.c2, (MH.out.low h).ku.c3⟩)
  go_upto_region 1 with fail
  go_cut [7] from 10 to 17 (fun s wx => ButCut W0 ((nm :: freeT u) ++ freeT t) s wx)
  case first =>
    obtain ⟨k0, k1, k2', k3, k4, k5, k6, k7⟩ := KK.out W0 (Below.refl _ _)
    go_region_held3 (fun w' => w'.cell? ⟨w.heap.size, 0, none⟩ = some (.int .i64 t.kind) ∧ w'.cell? ⟨w.heap.size, 1, none⟩ = some (.string t.name) ∧ w'.cell? ⟨w.heap.size, 2, none⟩ = some (.int .i64 t.n) ∧ w'.cell? ⟨w.heap.size, 3, none⟩ = some (.slice a t.args.length c) ∧ w'.cell? ⟨w.heap.size + 1, 0, none⟩ = some (.int .i64 u.kind) ∧ w'.cell? ⟨w.heap.size + 1, 1, none⟩ = some (.string u.name) ∧ w'.cell? ⟨w.heap.size + 1, 2, none⟩ = some (.int .i64 u.n) ∧ w'.cell? ⟨w.heap.size + 1, 3, none⟩ = some (.slice ua u.args.length uc))
      (first | (with_reducible exact KK.out _ HX4.out) | (with_reducible exact KK.out _ HX3.out) | (with_reducible exact KK.out _ HX2.out) | (with_reducible exact KK.out _ HXA.out) | (with_reducible exact KK.out _ HX1.out) | (with_reducible exact KK.out _ HDA.out) | (with_reducible exact KK.out _ HD.out) | go_keep)
      (first
        | (go_at_call 23; (with_reducible refine (CFU.out _ (UT.out.low HD.out)).mono ?_); rintro e w1 ⟨v, rfl, h1, hb1⟩; have HX1 := Lib.hid (HD.out.trans (hb1.mono HD.out.size)); have HXA : Hid (Below W0.heap.size W0 (w1.alloc (.cells #[.string nm] 9))) := Lib.hid (HX1.out.alloc HX1.out.size (.cells #[.string nm] 9)); have A1 := Lib.hid (but_one 49 (W := W0) HXA.out (heap_alloc_new w1 (.cells #[.string nm] 9)) HX1.out.size (h1.low ((Below.refl _ _).alloc (Nat.le_refl _) _))); clear h1 hb1)
        | (go_at_call 23; (with_reducible refine (CFU.out _ (UT.out.low HDA.out)).mono ?_); rintro e w1 ⟨v, rfl, h1, hb1⟩; have HX1 := Lib.hid (HDA.out.trans (hb1.mono HDA.out.size)); have A1 := Lib.hid (but_one 49 (W := W0) (b := W0.heap.size) HX1.out ((hb1.block _ (by simp)).trans (heap_alloc_new W0 (.cells #[.string nm] 9))) (Nat.le_refl _) h1); clear h1 hb1)
        | (refine step_append_ok (by rfl) _ _ _ (by rfl) (by rfl) (by rfl) A1.out ?_; rintro v1 w2 ⟨ho, hx⟩; obtain ⟨oa, oc, hv⟩ := own_form ho; rw [List.length_cons] at hv; subst hv; have HX2 := Lib.hid hx; have HO := Lib.hid ho; have CF2 := Lib.hid (CFT.out w2 (AT.out.low hx)); clear ho hx A1)
        | (go_at_call 23; (with_reducible refine CF2.out.mono ?_); rintro e w3 ⟨v, rfl, h1, hb1⟩; have HX3 := Lib.hid (HX2.out.trans (hb1.mono HX2.out.size)); have A2 := Lib.hid (but_two 49 (W := W0) HX3.out (own_keep4 HO.out fun b hb => hb1.block b (HO.out.lt b hb).2) BL.out.1 h1); clear h1 hb1)
        | (refine step_append_ok (by rfl) _ _ _ (by rfl) (by rfl) (by rfl) A2.out ?_; rintro v4 w4 ⟨ho, hx⟩; have HX4 := Lib.hid hx; have HO4 := Lib.hid ho; clear ho hx))
    all_goals
      go_wp2_with fail
      go_meet
      exact ⟨.own HO4.out BL.out.2, HX4.out⟩
  obtain ⟨hbs, hB⟩ := hcut
  obtain ⟨k0, k1, k2', k3, _⟩ := KK.out wc hB
  have CN := Lib.hid (CNU.out wc _ (AT.out.low hB) hbs)
  have M2 := Lib.hid (MH.out.low hB)
  clear hbs hB
  go_wp2_with fail
  refine CN.out.mono ?_
  rintro e w4 ⟨a4, c4, rfl, hA4, hb4⟩
  have M3 := Lib.hid (M2.out.low hb4)
  have LW := Lib.hid hb4.size
  have AA := Lib.hid hA4
  have hM4 := M3.out.low ((Below.refl _ _).alloc (Nat.le_refl _) (.cells #[.int .i64 y.kind, .string y.name, .int .i64 y.n, .slice a4 y.args.length c4] 31))
  have r0 := hM4.kr.c0
  have r1 := hM4.kr.c1
  have r2 := hM4.kr.c2
  have r3 := hM4.kr.c3
  have f0 := hM4.kr.fr 0
  have f1 := hM4.kr.fr 1
  have f2 := hM4.kr.fr 2
  have f3 := hM4.kr.fr 3
  have M4 := Lib.hid hM4
  clear hA4 hb4 hM4 k0 k1 k2' k3
  unfold tv
  go_wp2
  have q := M4.out.set (.int .i64 y.kind) (.string y.name) (.int .i64 y.n) (.slice a4 y.args.length c4)
  refine bodyPost_ret (v := .agg #[.int .i64 y.kind, .string y.name, .int .i64 y.n, .slice a4 y.args.length c4]) (by simp [results, Tryz.results54, go_sem, q.2.2.1.c0, q.2.2.1.c1, q.2.2.1.c2, q.2.2.1.c3]) rfl ?_
  refine ⟨a4, c4, rfl, (AA.out.keep fun b hb => ?_).mono fun b hb => .inr ⟨?_, ?_⟩, q.2.2.2⟩
  · have hne : b ≠ w.heap.size + 1 + 1 := by have h1 := hb.1; have h2 := M2.out.lt; omega
    rw [Below.heap_setCell _ _ _ _ hne, Below.heap_setCell _ _ _ _ hne, Below.heap_setCell _ _ _ _ hne, Below.heap_setCell _ _ _ _ hne]
    exact heap_alloc_old _ _ hb.2
  · have h1 := hb.1; have h2 := M2.out.lt; omega
  · have h1 := hb.2; simp; omega

end Go.Proofs.YtifaaihekgnhiaaGreatDoor.Tp

/- The document's Put and Fill. (Printed by gen_rftop.py.) -/
namespace Go.Proofs.YtifaaihekgnhiaaGreatDoor.Tp
open Go.RowKit

theorem apart_size (nm : ByteArray) (u t : Ty) (h : Mk t) (hs : t.size ≤ 100000) (hu : u.size ≤ 100000) : (apartT nm u t).size = t.size := by
  rw [← size_db _ (apart_mk nm u t h hs hu).1 [], apart_db nm u t h.1, size_db t h.1 []]

set_option maxRecDepth 100000 in
set_option maxHeartbeats 3200000 in
theorem rPut_any (nm : ByteArray) (u t : Ty) (a ua : Option Addr) (c uc : Nat) (w : World) (hA : AtW t a c w) (hU : AtW u ua uc w) (hs : Mk t) (hu : Std u) (hsz : t.size ≤ 100000) (hus : u.size ≤ 100000) :
    Calls Tryz.prog 19 #[.agg #[.int .i64 t.kind, .string t.name, .int .i64 t.n, .slice a t.args.length c], .string nm, .agg #[.int .i64 u.kind, .string u.name, .int .i64 u.n, .slice ua u.args.length uc]] w (NewPost (rPutT nm u t) w) := by
  have M := TwoMem.new w t u a ua c uc
  have hAt := hA.low M.hz
  have hUt := hU.low M.hz
  have ham := apart_mk nm u t hs hsz hus
  have has := apart_size nm u t hs hsz hus
  have CAP := Lib.hid (fun (W : World) (h1 : AtW t a c W) (h2 : AtW u ua uc W) => rapart_any nm u t a ua c uc W h1 h2 hs.1 hu (by omega) (by omega))
  have CPU := Lib.hid (fun (W : World) (a' : Option Addr) (c' : Nat) (h1 : ArgsAt (fun b => b < W.heap.size ∧ b ≠ w.heap.size + 1 + 1) W (.slice a' (apartT nm u t).args.length c') (apartT nm u t).args) (h2 : ArgsAt (fun b => b < W.heap.size ∧ b ≠ w.heap.size + 1 + 1) W (.slice ua u.args.length uc) u.args) => rput_any 1 nm 0 (isVar nm) u (fun x hx => by
    unfold nodeT
    rw [isVar_mk]
    simp only [Bool.and_eq_true, beq_iff_eq, eqN_iff]
    exact ⟨fun h => ⟨h.1, h.2, (hx.k1 h.1).1⟩, fun h => ⟨h.1, h.2.1⟩⟩) (apartT nm u t) _ a' ua c' uc W h1 h2 (fun _ h => h.1) ham.1 (by omega))
  have UH := Lib.hid (fun (W : World) (h : Below w.heap.size w W) => (hU.keep fun b hb => h.block b hb).mono fun b (hb : b < w.heap.size) => (⟨Nat.lt_of_lt_of_le hb h.size, by omega⟩ : b < W.heap.size ∧ b ≠ w.heap.size + 1 + 1))
  unfold rPutT
  generalize apartT nm u t = y at *
  generalize sbT (isVar nm) u y = z at *
  have MH := Lib.hid M
  have AT := Lib.hid hAt
  have UT := Lib.hid hUt
  clear hA hU hs hu hsz hus M hAt hUt ham has
  unfold tv at CAP CPU
  go_enter Tryz.func19, Tryz.ntmps19
  go_wp2
  generalize ((w.alloc (.cells #[.int .i64 t.kind, .string t.name, .int .i64 t.n, .slice a t.args.length c] 31)).alloc (.cells #[.int .i64 u.kind, .string u.name, .int .i64 u.n, .slice ua u.args.length uc] 31)).alloc (.cells #[.int .i64 0, .string ⟨#[]⟩, .int .i64 0, .slice none 0 0] 31) = W0 at *
  have HD := Lib.hid (Below.refl W0.heap.size W0).drew
  have KK : Hid (∀ W : World, Below W0.heap.size W0 W → W.cell? ⟨w.heap.size, 0, none⟩ = some (.int .i64 t.kind) ∧ W.cell? ⟨w.heap.size, 1, none⟩ = some (.string t.name) ∧ W.cell? ⟨w.heap.size, 2, none⟩ = some (.int .i64 t.n) ∧ W.cell? ⟨w.heap.size, 3, none⟩ = some (.slice a t.args.length c) ∧ W.cell? ⟨w.heap.size + 1, 0, none⟩ = some (.int .i64 u.kind) ∧ W.cell? ⟨w.heap.size + 1, 1, none⟩ = some (.string u.name) ∧ W.cell? ⟨w.heap.size + 1, 2, none⟩ = some (.int .i64 u.n) ∧ W.cell? ⟨w.heap.size + 1, 3, none⟩ = some (.slice ua u.args.length uc)) := Lib.hid (fun W h => ⟨(MH.out.low h).kt.c0, (MH.out.low h).kt.c1, (MH.out.low h).kt.c2, (MH.out.low h).kt.c3, (MH.out.low h).ku.c0, (MH.out.low h).ku.c1, (MH.out.low h).ku.c2, (MH.out.low h).ku.c3⟩)
  have KS : Hid (∀ (W : World) (v0 v1 v2 v3 : Value), Below W0.heap.size W0 W → ((((W.setCell ⟨w.heap.size + 1 + 1, 0, none⟩ v0).setCell ⟨w.heap.size + 1 + 1, 1, none⟩ v1).setCell ⟨w.heap.size + 1 + 1, 2, none⟩ v2).setCell ⟨w.heap.size + 1 + 1, 3, none⟩ v3).cell? ⟨w.heap.size, 0, none⟩ = some (.int .i64 t.kind) ∧ ((((W.setCell ⟨w.heap.size + 1 + 1, 0, none⟩ v0).setCell ⟨w.heap.size + 1 + 1, 1, none⟩ v1).setCell ⟨w.heap.size + 1 + 1, 2, none⟩ v2).setCell ⟨w.heap.size + 1 + 1, 3, none⟩ v3).cell? ⟨w.heap.size, 1, none⟩ = some (.string t.name) ∧ ((((W.setCell ⟨w.heap.size + 1 + 1, 0, none⟩ v0).setCell ⟨w.heap.size + 1 + 1, 1, none⟩ v1).setCell ⟨w.heap.size + 1 + 1, 2, none⟩ v2).setCell ⟨w.heap.size + 1 + 1, 3, none⟩ v3).cell? ⟨w.heap.size, 2, none⟩ = some (.int .i64 t.n) ∧ ((((W.setCell ⟨w.heap.size + 1 + 1, 0, none⟩ v0).setCell ⟨w.heap.size + 1 + 1, 1, none⟩ v1).setCell ⟨w.heap.size + 1 + 1, 2, none⟩ v2).setCell ⟨w.heap.size + 1 + 1, 3, none⟩ v3).cell? ⟨w.heap.size, 3, none⟩ = some (.slice a t.args.length c) ∧ ((((W.setCell ⟨w.heap.size + 1 + 1, 0, none⟩ v0).setCell ⟨w.heap.size + 1 + 1, 1, none⟩ v1).setCell ⟨w.heap.size + 1 + 1, 2, none⟩ v2).setCell ⟨w.heap.size + 1 + 1, 3, none⟩ v3).cell? ⟨w.heap.size + 1, 0, none⟩ = some (.int .i64 u.kind) ∧ ((((W.setCell ⟨w.heap.size + 1 + 1, 0, none⟩ v0).setCell ⟨w.heap.size + 1 + 1, 1, none⟩ v1).setCell ⟨w.heap.size + 1 + 1, 2, none⟩ v2).setCell ⟨w.heap.size + 1 + 1, 3, none⟩ v3).cell? ⟨w.heap.size + 1, 1, none⟩ = some (.string u.name) ∧ ((((W.setCell ⟨w.heap.size + 1 + 1, 0, none⟩ v0).setCell ⟨w.heap.size + 1 + 1, 1, none⟩ v1).setCell ⟨w.heap.size + 1 + 1, 2, none⟩ v2).setCell ⟨w.heap.size + 1 + 1, 3, none⟩ v3).cell? ⟨w.heap.size + 1, 2, none⟩ = some (.int .i64 u.n) ∧ ((((W.setCell ⟨w.heap.size + 1 + 1, 0, none⟩ v0).setCell ⟨w.heap.size + 1 + 1, 1, none⟩ v1).setCell ⟨w.heap.size + 1 + 1, 2, none⟩ v2).setCell ⟨w.heap.size + 1 + 1, 3, none⟩ v3).cell? ⟨w.heap.size + 1, 3, none⟩ = some (.slice ua u.args.length uc)) := Lib.hid (fun W v0 v1 v2 v3 h => by
    have q := (MH.out.low h).set v0 v1 v2 v3
    exact ⟨q.1.c0, q.1.c1, q.1.c2, q.1.c3, q.2.1.c0, q.2.1.c1, q.2.1.c2, q.2.1.c3⟩)
  obtain ⟨k0, k1, k2', k3, k4, k5, k6, k7⟩ := KK.out W0 (Below.refl _ _)
  go_region_held3 (fun w' => w'.cell? ⟨w.heap.size, 0, none⟩ = some (.int .i64 t.kind) ∧ w'.cell? ⟨w.heap.size, 1, none⟩ = some (.string t.name) ∧ w'.cell? ⟨w.heap.size, 2, none⟩ = some (.int .i64 t.n) ∧ w'.cell? ⟨w.heap.size, 3, none⟩ = some (.slice a t.args.length c) ∧ w'.cell? ⟨w.heap.size + 1, 0, none⟩ = some (.int .i64 u.kind) ∧ w'.cell? ⟨w.heap.size + 1, 1, none⟩ = some (.string u.name) ∧ w'.cell? ⟨w.heap.size + 1, 2, none⟩ = some (.int .i64 u.n) ∧ w'.cell? ⟨w.heap.size + 1, 3, none⟩ = some (.slice ua u.args.length uc))
    (first | (with_reducible exact KS.out _ _ _ _ _ HX2.out) | (with_reducible exact KK.out _ HX2.out) | (with_reducible exact KK.out _ HX1.out) | (with_reducible exact KK.out _ HD.out) | go_keep)
    (first
      | (go_at_call 54; (with_reducible refine (CAP.out _ (AT.out.low HD.out) (UT.out.low HD.out)).mono ?_); rintro e w1 ⟨a1, c1, rfl, hA1, hb1⟩; have HX1 := Lib.hid (HD.out.trans (hb1.mono HD.out.size)); have CP := Lib.hid (CPU.out w1 a1 c1 (hA1.mono fun b hb => by rcases hb with h | h; exact h.elim; exact ⟨h.2, by have h1 := h.1; have h2 := MH.out.lt; simp at h1; omega⟩) (UH.out _ (MH.out.hz.trans (HX1.out.mono MH.out.hz.size)))); clear hA1 hb1; unfold tv)
      | (go_at_call 55; (with_reducible refine CP.out.mono ?_); rintro e w2 ⟨a2, c2, rfl, hA2, hb2⟩; have HX2 := Lib.hid (HX1.out.trans (hb2.mono HX1.out.size)); have hm2 := MH.out.low HX2.out; have r0 := hm2.kr.c0; have r1 := hm2.kr.c1; have r2 := hm2.kr.c2; have r3 := hm2.kr.c3; have f0 := hm2.kr.fr 0; have f1 := hm2.kr.fr 1; have f2 := hm2.kr.fr 2; have f3 := hm2.kr.fr 3; have M2 := Lib.hid hm2; have LW := Lib.hid hb2.size; have HA2 := Lib.hid hA2; clear hA2 hb2 hm2; unfold tv))
  all_goals
    go_wp2
    have q := M2.out.set (.int .i64 z.kind) (.string z.name) (.int .i64 z.n) (.slice a2 z.args.length c2)
    refine bodyPost_ret (v := .agg #[.int .i64 z.kind, .string z.name, .int .i64 z.n, .slice a2 z.args.length c2]) (by simp [results, Tryz.results19, go_sem, q.2.2.1.c0, q.2.2.1.c1, q.2.2.1.c2, q.2.2.1.c3]) rfl ?_
    refine ⟨a2, c2, rfl, .set (HA2.out.mono fun b hb => ?_) _ _ _ _, q.2.2.2⟩
    rcases hb with h | h
    · exact ⟨Nat.lt_of_lt_of_le h.1 LW.out, h.2⟩
    · exact ⟨h.2, by have h1 := h.1; have h2 := HX1.out.size; have h3 := MH.out.lt; omega⟩

set_option maxRecDepth 100000 in
set_option maxHeartbeats 3200000 in
theorem rFill_any (m : Int) (u t : Ty) (a ua : Option Addr) (c uc : Nat) (w : World) (hA : AtW t a c w) (hU : AtW u ua uc w) (hs : Mk t) (hu : Std u) (hsz : t.size ≤ 100000) (hus : u.size ≤ 100000) :
    Calls Tryz.prog 20 #[.agg #[.int .i64 t.kind, .string t.name, .int .i64 t.n, .slice a t.args.length c], .int .i64 m, .agg #[.int .i64 u.kind, .string u.name, .int .i64 u.n, .slice ua u.args.length uc]] w (NewPost (rFillT m u t) w) := by
  have M := TwoMem.new w t u a ua c uc
  have hAt := hA.low M.hz
  have hUt := hU.low M.hz
  have ham := apart_mk ⟨#[]⟩ u t hs hsz hus
  have has := apart_size ⟨#[]⟩ u t hs hsz hus
  have CAP := Lib.hid (fun (W : World) (h1 : AtW t a c W) (h2 : AtW u ua uc W) => rapart_any ⟨#[]⟩ u t a ua c uc W h1 h2 hs.1 hu (by omega) (by omega))
  have CPU := Lib.hid (fun (W : World) (a' : Option Addr) (c' : Nat) (h1 : ArgsAt (fun b => b < W.heap.size ∧ b ≠ w.heap.size + 1 + 1) W (.slice a' (apartT ⟨#[]⟩ u t).args.length c') (apartT ⟨#[]⟩ u t).args) (h2 : ArgsAt (fun b => b < W.heap.size ∧ b ≠ w.heap.size + 1 + 1) W (.slice ua u.args.length uc) u.args) => rput_any 2 ⟨#[]⟩ m (isMeta m) u (fun x hx => by
    unfold nodeT
    rw [isMeta_mk]
    simp only [Bool.and_eq_true, beq_iff_eq]
    exact ⟨fun h => ⟨h.1, (hx.k2 h.1).1, h.2⟩, fun h => ⟨h.1, h.2.2⟩⟩) (apartT ⟨#[]⟩ u t) _ a' ua c' uc W h1 h2 (fun _ h => h.1) ham.1 (by omega))
  have UH := Lib.hid (fun (W : World) (h : Below w.heap.size w W) => (hU.keep fun b hb => h.block b hb).mono fun b (hb : b < w.heap.size) => (⟨Nat.lt_of_lt_of_le hb h.size, by omega⟩ : b < W.heap.size ∧ b ≠ w.heap.size + 1 + 1))
  unfold rFillT emp
  generalize apartT ⟨#[]⟩ u t = y at *
  generalize sbT (isMeta m) u y = z at *
  have MH := Lib.hid M
  have AT := Lib.hid hAt
  have UT := Lib.hid hUt
  clear hA hU hs hu hsz hus M hAt hUt ham has
  unfold tv at CAP CPU
  go_enter Tryz.func20, Tryz.ntmps20
  go_wp2
  generalize ((w.alloc (.cells #[.int .i64 t.kind, .string t.name, .int .i64 t.n, .slice a t.args.length c] 31)).alloc (.cells #[.int .i64 u.kind, .string u.name, .int .i64 u.n, .slice ua u.args.length uc] 31)).alloc (.cells #[.int .i64 0, .string ⟨#[]⟩, .int .i64 0, .slice none 0 0] 31) = W0 at *
  have HD := Lib.hid (Below.refl W0.heap.size W0).drew
  have KK : Hid (∀ W : World, Below W0.heap.size W0 W → W.cell? ⟨w.heap.size, 0, none⟩ = some (.int .i64 t.kind) ∧ W.cell? ⟨w.heap.size, 1, none⟩ = some (.string t.name) ∧ W.cell? ⟨w.heap.size, 2, none⟩ = some (.int .i64 t.n) ∧ W.cell? ⟨w.heap.size, 3, none⟩ = some (.slice a t.args.length c) ∧ W.cell? ⟨w.heap.size + 1, 0, none⟩ = some (.int .i64 u.kind) ∧ W.cell? ⟨w.heap.size + 1, 1, none⟩ = some (.string u.name) ∧ W.cell? ⟨w.heap.size + 1, 2, none⟩ = some (.int .i64 u.n) ∧ W.cell? ⟨w.heap.size + 1, 3, none⟩ = some (.slice ua u.args.length uc)) := Lib.hid (fun W h => ⟨(MH.out.low h).kt.c0, (MH.out.low h).kt.c1, (MH.out.low h).kt.c2, (MH.out.low h).kt.c3, (MH.out.low h).ku.c0, (MH.out.low h).ku.c1, (MH.out.low h).ku.c2, (MH.out.low h).ku.c3⟩)
  have KS : Hid (∀ (W : World) (v0 v1 v2 v3 : Value), Below W0.heap.size W0 W → ((((W.setCell ⟨w.heap.size + 1 + 1, 0, none⟩ v0).setCell ⟨w.heap.size + 1 + 1, 1, none⟩ v1).setCell ⟨w.heap.size + 1 + 1, 2, none⟩ v2).setCell ⟨w.heap.size + 1 + 1, 3, none⟩ v3).cell? ⟨w.heap.size, 0, none⟩ = some (.int .i64 t.kind) ∧ ((((W.setCell ⟨w.heap.size + 1 + 1, 0, none⟩ v0).setCell ⟨w.heap.size + 1 + 1, 1, none⟩ v1).setCell ⟨w.heap.size + 1 + 1, 2, none⟩ v2).setCell ⟨w.heap.size + 1 + 1, 3, none⟩ v3).cell? ⟨w.heap.size, 1, none⟩ = some (.string t.name) ∧ ((((W.setCell ⟨w.heap.size + 1 + 1, 0, none⟩ v0).setCell ⟨w.heap.size + 1 + 1, 1, none⟩ v1).setCell ⟨w.heap.size + 1 + 1, 2, none⟩ v2).setCell ⟨w.heap.size + 1 + 1, 3, none⟩ v3).cell? ⟨w.heap.size, 2, none⟩ = some (.int .i64 t.n) ∧ ((((W.setCell ⟨w.heap.size + 1 + 1, 0, none⟩ v0).setCell ⟨w.heap.size + 1 + 1, 1, none⟩ v1).setCell ⟨w.heap.size + 1 + 1, 2, none⟩ v2).setCell ⟨w.heap.size + 1 + 1, 3, none⟩ v3).cell? ⟨w.heap.size, 3, none⟩ = some (.slice a t.args.length c) ∧ ((((W.setCell ⟨w.heap.size + 1 + 1, 0, none⟩ v0).setCell ⟨w.heap.size + 1 + 1, 1, none⟩ v1).setCell ⟨w.heap.size + 1 + 1, 2, none⟩ v2).setCell ⟨w.heap.size + 1 + 1, 3, none⟩ v3).cell? ⟨w.heap.size + 1, 0, none⟩ = some (.int .i64 u.kind) ∧ ((((W.setCell ⟨w.heap.size + 1 + 1, 0, none⟩ v0).setCell ⟨w.heap.size + 1 + 1, 1, none⟩ v1).setCell ⟨w.heap.size + 1 + 1, 2, none⟩ v2).setCell ⟨w.heap.size + 1 + 1, 3, none⟩ v3).cell? ⟨w.heap.size + 1, 1, none⟩ = some (.string u.name) ∧ ((((W.setCell ⟨w.heap.size + 1 + 1, 0, none⟩ v0).setCell ⟨w.heap.size + 1 + 1, 1, none⟩ v1).setCell ⟨w.heap.size + 1 + 1, 2, none⟩ v2).setCell ⟨w.heap.size + 1 + 1, 3, none⟩ v3).cell? ⟨w.heap.size + 1, 2, none⟩ = some (.int .i64 u.n) ∧ ((((W.setCell ⟨w.heap.size + 1 + 1, 0, none⟩ v0).setCell ⟨w.heap.size + 1 + 1, 1, none⟩ v1).setCell ⟨w.heap.size + 1 + 1, 2, none⟩ v2).setCell ⟨w.heap.size + 1 + 1, 3, none⟩ v3).cell? ⟨w.heap.size + 1, 3, none⟩ = some (.slice ua u.args.length uc)) := Lib.hid (fun W v0 v1 v2 v3 h => by
    have q := (MH.out.low h).set v0 v1 v2 v3
    exact ⟨q.1.c0, q.1.c1, q.1.c2, q.1.c3, q.2.1.c0, q.2.1.c1, q.2.1.c2, q.2.1.c3⟩)
  obtain ⟨k0, k1, k2', k3, k4, k5, k6, k7⟩ := KK.out W0 (Below.refl _ _)
  go_region_held3 (fun w' => w'.cell? ⟨w.heap.size, 0, none⟩ = some (.int .i64 t.kind) ∧ w'.cell? ⟨w.heap.size, 1, none⟩ = some (.string t.name) ∧ w'.cell? ⟨w.heap.size, 2, none⟩ = some (.int .i64 t.n) ∧ w'.cell? ⟨w.heap.size, 3, none⟩ = some (.slice a t.args.length c) ∧ w'.cell? ⟨w.heap.size + 1, 0, none⟩ = some (.int .i64 u.kind) ∧ w'.cell? ⟨w.heap.size + 1, 1, none⟩ = some (.string u.name) ∧ w'.cell? ⟨w.heap.size + 1, 2, none⟩ = some (.int .i64 u.n) ∧ w'.cell? ⟨w.heap.size + 1, 3, none⟩ = some (.slice ua u.args.length uc))
    (first | (with_reducible exact KS.out _ _ _ _ _ HX2.out) | (with_reducible exact KK.out _ HX2.out) | (with_reducible exact KK.out _ HX1.out) | (with_reducible exact KK.out _ HD.out) | go_keep)
    (first
      | (go_at_call 54; (with_reducible refine (CAP.out _ (AT.out.low HD.out) (UT.out.low HD.out)).mono ?_); rintro e w1 ⟨a1, c1, rfl, hA1, hb1⟩; have HX1 := Lib.hid (HD.out.trans (hb1.mono HD.out.size)); have CP := Lib.hid (CPU.out w1 a1 c1 (hA1.mono fun b hb => by rcases hb with h | h; exact h.elim; exact ⟨h.2, by have h1 := h.1; have h2 := MH.out.lt; simp at h1; omega⟩) (UH.out _ (MH.out.hz.trans (HX1.out.mono MH.out.hz.size)))); clear hA1 hb1; unfold tv)
      | (go_at_call 55; (with_reducible refine CP.out.mono ?_); rintro e w2 ⟨a2, c2, rfl, hA2, hb2⟩; have HX2 := Lib.hid (HX1.out.trans (hb2.mono HX1.out.size)); have hm2 := MH.out.low HX2.out; have r0 := hm2.kr.c0; have r1 := hm2.kr.c1; have r2 := hm2.kr.c2; have r3 := hm2.kr.c3; have f0 := hm2.kr.fr 0; have f1 := hm2.kr.fr 1; have f2 := hm2.kr.fr 2; have f3 := hm2.kr.fr 3; have M2 := Lib.hid hm2; have LW := Lib.hid hb2.size; have HA2 := Lib.hid hA2; clear hA2 hb2 hm2; unfold tv))
  all_goals
    go_wp2
    have q := M2.out.set (.int .i64 z.kind) (.string z.name) (.int .i64 z.n) (.slice a2 z.args.length c2)
    refine bodyPost_ret (v := .agg #[.int .i64 z.kind, .string z.name, .int .i64 z.n, .slice a2 z.args.length c2]) (by simp [results, Tryz.results20, go_sem, q.2.2.1.c0, q.2.2.1.c1, q.2.2.1.c2, q.2.2.1.c3]) rfl ?_
    refine ⟨a2, c2, rfl, .set (HA2.out.mono fun b hb => ?_) _ _ _ _, q.2.2.2⟩
    rcases hb with h | h
    · exact ⟨Nat.lt_of_lt_of_le h.1 LW.out, h.2⟩
    · exact ⟨h.2, by have h1 := h.1; have h2 := HX1.out.size; have h3 := MH.out.lt; omega⟩

end Go.Proofs.YtifaaihekgnhiaaGreatDoor.Tp

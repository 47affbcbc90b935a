/- Texts laid together: RfCanon, RfCanonH. -/
import Derived.Test.YtifaaihekgnhiaaGreatDoorP43

/- The document's Canon. (Printed by gen_rftop.py.) -/
namespace Go.Proofs.YtifaaihekgnhiaaGreatDoor.Tp
open Go.RowKit

theorem NumCut.at_ {wr w4 : World} {y : Ty} {k2 bx : Nat} {a4 : Option Addr} {c4 : Nat} {u0 u1 u2 u3 : Value} (hb : Below wr.heap.size wr w4) (hA : ArgsAt (fun b => wr.heap.size ≤ b ∧ b < w4.heap.size ∧ b ≠ bx) w4 (.slice a4 y.args.length c4) y.args) (k : R4 w4 bx u0 u1 u2 u3) (hx : wr.heap.size ≤ bx) : NumCut wr y k2 (.pointer (some ⟨bx, 0, none⟩)) (.int .i64 (k2 : Int)) ((((w4.setCell ⟨bx, 0, none⟩ (.int .i64 y.kind)).setCell ⟨bx, 1, none⟩ (.string y.name)).setCell ⟨bx, 2, none⟩ (.int .i64 y.n)).setCell ⟨bx, 3, none⟩ (.slice a4 y.args.length c4)) :=
  ⟨_, a4, c4, rfl, rfl, k.set4 _ _ _ _, (hA.keep fun b hb => by
    have hne : b ≠ bx := hb.2.2
    rw [Below.heap_setCell _ _ _ _ hne, Below.heap_setCell _ _ _ _ hne, Below.heap_setCell _ _ _ _ hne, Below.heap_setCell _ _ _ _ hne]).mono fun b hb => ⟨hb.1, by have := hb.2.1; simpa using this⟩, hb.set4 hx _ _ _ _⟩

theorem std_wf : ∀ t : Ty, Std t → Wf t := by
  intro t
  induction t using Ty.ind with
  | h t ih =>
    intro h
    obtain ⟨hk, ha⟩ := (std_iff t).1 h
    refine (wf_iff t).2 ⟨?_, fun a hm => ih a hm (ha a hm)⟩
    rcases hk with h | h | h | h | h
    · exact .inl ⟨h.1, h.2.2⟩
    · exact .inr (.inl ⟨h.1, h.2.2.1, h.2.2.2.1, h.2.2.2.2⟩)
    · exact .inr (.inr (.inl h.1))
    · exact .inr (.inr (.inr (.inl ⟨h.1, h.2.2.2⟩)))
    · exact .inr (.inr (.inr (.inr ⟨h.1, h.2.2⟩)))

theorem rnum_call (L : ByteArray) (hL : L.size ≤ 100) (but : List ByteArray) (t : Ty) (a : Option Addr) (c : Nat) (vb : Value) (W : World) (hA : AtW t a c W) (hs : Std t) (hb : StrsLow W vb but) (hsz : t.size * (but.length + 1) ≤ 100000000000000000) (hsz2 : t.size ≤ 1000000000000) :
    Calls Tryz.prog 39 #[.agg #[.int .i64 t.kind, .string t.name, .int .i64 t.n, .slice a t.args.length c], .agg #[.slice none 0 0, .slice none 0 0], .string L, vb, .int .i64 0] W (RNumPost W (cnT (lname L) but [] 0 (dbT [] t))) :=
  rnum_any L hL but t _ a c W _ _ vb [] [] 0 hA (fun _ h => h) hs (strsLow_nil W) (strsLow_nil W) rfl hb (by simpa using hsz2) (by simpa using hsz)

set_option maxRecDepth 100000 in
set_option maxHeartbeats 3200000 in
theorem rCanon_any (t : Ty) (S : Nat → Prop) (a : Option Addr) (c : Nat) (w : World) (hA : ArgsAt S w (.slice a t.args.length c) t.args) (hS : ∀ b, S b → b < w.heap.size) (hs : Std t) (hw : Wf (canonT t)) (hl : (printT (canonT t)).length ≤ 1099511627776) (hsz : t.size ≤ 100000000) :
    Calls Tryz.prog 13 #[tv t a c] w (StrPost w (canonS t)) := by
  have hz : Below w.heap.size w (w.alloc (.cells #[.int .i64 t.kind, .string t.name, .int .i64 t.n, .slice a t.args.length c] 31)) := (Below.refl w.heap.size w).alloc (Nat.le_refl _) (.cells #[.int .i64 t.kind, .string t.name, .int .i64 t.n, .slice a t.args.length c] 31)
  have kt := R4.new w (.int .i64 t.kind) (.string t.name) (.int .i64 t.n) (.slice a t.args.length c)
  have hAt : AtW t a c (w.alloc (.cells #[.int .i64 t.kind, .string t.name, .int .i64 t.n, .slice a t.args.length c] 31)) := (hA.keep fun b hb => hz.block b (hS b hb)).mono fun b hb => Nat.lt_of_lt_of_le (hS b hb) hz.size
  have hfl := freeT_len t
  have hmul : t.size * ((freeT t).length + 1) ≤ 100000000000000000 := Nat.le_trans (Nat.mul_le_mul hsz (show (freeT t).length + 1 ≤ 100000001 by omega)) (by omega)
  have hcan := canonT_cn t hs
  rw [xname_f] at hcan
  have CF := Lib.hid (fun (W : World) (h : AtW t a c W) => rFree_any t _ a c W h (fun _ h => h) (std_wf t hs) (by omega))
  have CNU := Lib.hid (fun (W : World) (vb : Value) (h : AtW t a c W) (hb : StrsLow W vb (freeT t)) => rnum_call ⟨#[120]⟩ (by decide) (freeT t) t a c vb W h hs hb hmul (by omega))
  have CPR := Lib.hid (fun (W : World) (a' : Option Addr) (c' : Nat) (h : AtW (canonT t) a' c' W) => rprint_any (canonT t) _ a' c' W h (fun _ h => h) hw hl)
  unfold canonS
  rw [hcan] at CPR ⊢
  generalize hr : cnT (lname ⟨#[120]⟩) (freeT t) [] 0 (dbT [] t) = r at *
  obtain ⟨y, k2⟩ := r
  simp only at CPR ⊢
  have AT := Lib.hid hAt
  have HZ := Lib.hid hz
  have KT := Lib.hid kt
  clear hA hS hs hw hl hsz hfl hmul hcan hr hAt hz kt
  unfold tv at CF CPR ⊢
  go_enter Tryz.func13, Tryz.ntmps13
  go_wp2
  generalize w.alloc (.cells #[.int .i64 t.kind, .string t.name, .int .i64 t.n, .slice a t.args.length c] 31) = W0 at *
  have HD := Lib.hid (Below.refl W0.heap.size W0).drew
  have HDA : Hid (Below W0.heap.size W0 (W0.alloc (.cells #[.int .i64 0, .string ⟨#[]⟩, .int .i64 0, .slice none 0 0] 31)).drew) := Lib.hid ((Below.refl W0.heap.size W0).alloc (Nat.le_refl _) _).drew
  have KK : Hid (∀ W : World, Below W0.heap.size W0 W → W.cell? ⟨w.heap.size, 0, none⟩ = some (.int .i64 t.kind) ∧ W.cell? ⟨w.heap.size, 1, none⟩ = some (.string t.name) ∧ W.cell? ⟨w.heap.size, 2, none⟩ = some (.int .i64 t.n) ∧ W.cell? ⟨w.heap.size, 3, none⟩ = some (.slice a t.args.length c)) := Lib.hid (fun W h => ⟨(KT.out.low h).c0, (KT.out.low h).c1, (KT.out.low h).c2, (KT.out.low h).c3⟩)
  go_upto_region 1 with fail
  go_cut [3, 4] from 6 to 12 (fun xp kv wx => NumCut W0 y k2 xp kv wx)
  case first =>
    have k0 := KT.out.c0
    have k1 := KT.out.c1
    have k2 := KT.out.c2
    have k3 := KT.out.c3
    obtain ⟨l0, l1, l2, l3⟩ := KK.out (W0.alloc (.cells #[.int .i64 0, .string ⟨#[]⟩, .int .i64 0, .slice none 0 0] 31)) ((Below.refl W0.heap.size W0).alloc (Nat.le_refl _) _)
    go_region_law (first
      | (go_simp; go_at_call 23; (with_reducible refine (CF.out _ (AT.out.low HD.out)).mono ?_); rintro e w1 ⟨v, rfl, h1, hb1⟩; have HX1 := Lib.hid (HD.out.trans (hb1.mono HD.out.size)); obtain ⟨e0, e1, e2, e3⟩ := KK.out _ HX1.out; have HX2 := Lib.hid (HX1.out.alloc HX1.out.size (.cells #[.int .i64 0, .string ⟨#[]⟩, .int .i64 0, .slice none 0 0] 31)); obtain ⟨j0, j1, j2, j3⟩ := KK.out _ HX2.out; have CN1 := Lib.hid (CNU.out w1 v (AT.out.low HX1.out) h1); have CN2 := Lib.hid (CNU.out (w1.alloc (.cells #[.int .i64 0, .string ⟨#[]⟩, .int .i64 0, .slice none 0 0] 31)) v (AT.out.low HX2.out) (h1.low ((Below.refl _ _).alloc (Nat.le_refl _) _))); clear h1 hb1)
      | (go_simp; go_at_call 23; (with_reducible refine (CF.out _ (AT.out.low HDA.out)).mono ?_); rintro e w1 ⟨v, rfl, h1, hb1⟩; have HX3 := Lib.hid (HDA.out.trans (hb1.mono HDA.out.size)); obtain ⟨e0, e1, e2, e3⟩ := KK.out _ HX3.out; have kz := R4.low (R4.low (R4.new W0 (.int .i64 0) (.string ⟨#[]⟩) (.int .i64 0) (.slice none 0 0)) (Below.refl _ _).drew) hb1; have KZ3 := Lib.hid kz; have CN3 := Lib.hid (CNU.out w1 v (AT.out.low HX3.out) h1); have LT3 : Hid (W0.heap.size < w1.heap.size) := Lib.hid kz.lt; clear h1 hb1 kz)
      | (go_simp; go_at_call 39; (with_reducible refine CN1.out.mono ?_); rintro e w4 ⟨a4, c4, rfl, hA4, hb4⟩; have HB4 : Hid (Below W0.heap.size W0 w4) := Lib.hid (HX1.out.trans (hb4.mono HX1.out.size)); have HA4 : Hid (ArgsAt (In W0.heap.size w4.heap.size) w4 (.slice a4 y.args.length c4) y.args) := Lib.hid (hA4.mono fun b hb => ⟨Nat.le_trans HX1.out.size hb.1, hb.2⟩); clear hA4 hb4; unfold tv)
      | (go_simp; go_at_call 39; (with_reducible refine CN2.out.mono ?_); rintro e w4 ⟨a4, c4, rfl, hA4, hb4⟩; have kz := R4.low (R4.new w1 (.int .i64 0) (.string ⟨#[]⟩) (.int .i64 0) (.slice none 0 0)) hb4; have s0 := kz.c0; have s1 := kz.c1; have s2 := kz.c2; have s3 := kz.c3; have g0 := kz.fr 0; have g1 := kz.fr 1; have g2 := kz.fr 2; have g3 := kz.fr 3; have KZ := Lib.hid kz; have HB4 : Hid (Below W0.heap.size W0 w4) := Lib.hid (HX2.out.trans (hb4.mono HX2.out.size)); have LX : Hid (W0.heap.size ≤ w1.heap.size) := Lib.hid HX1.out.size; have HA5 : Hid (ArgsAt (fun b => W0.heap.size ≤ b ∧ b < w4.heap.size ∧ b ≠ w1.heap.size) w4 (.slice a4 y.args.length c4) y.args) := Lib.hid (hA4.mono fun b hb => ⟨Nat.le_trans HX2.out.size hb.1, hb.2, by have := hb.1; simp at this; omega⟩); clear hA4 hb4 kz; unfold tv)
      | (go_simp; go_at_call 39; (with_reducible refine CN3.out.mono ?_); rintro e w4 ⟨a4, c4, rfl, hA4, hb4⟩; have kz := KZ3.out.low hb4; have s0 := kz.c0; have s1 := kz.c1; have s2 := kz.c2; have s3 := kz.c3; have g0 := kz.fr 0; have g1 := kz.fr 1; have g2 := kz.fr 2; have g3 := kz.fr 3; have KZ := Lib.hid kz; have HB4 : Hid (Below W0.heap.size W0 w4) := Lib.hid (HX3.out.trans (hb4.mono HX3.out.size)); have LX : Hid (W0.heap.size ≤ W0.heap.size) := Lib.hid (Nat.le_refl _); have HA5 : Hid (ArgsAt (fun b => W0.heap.size ≤ b ∧ b < w4.heap.size ∧ b ≠ W0.heap.size) w4 (.slice a4 y.args.length c4) y.args) := Lib.hid (hA4.mono fun b hb => ⟨Nat.le_trans HX3.out.size hb.1, hb.2, by have := hb.1; have := LT3.out; omega⟩); clear hA4 hb4 kz; unfold tv))
    all_goals
      go_wp2_with fail
      go_meet
      first
        | (with_reducible exact NumCut.new HB4.out HA4.out)
        | (with_reducible exact NumCut.at_ HB4.out HA5.out KZ.out LX.out)
  obtain ⟨bx, a4, c4, rfl, rfl, kx, hA4, hB4⟩ := hcut
  have x0 := kx.c0
  have x1 := kx.c1
  have x2 := kx.c2
  have x3 := kx.c3
  have CP := Lib.hid (CPR.out wc a4 c4 (hA4.mono fun b hb => hb.2))
  have HB := Lib.hid (HZ.out.trans (hB4.mono HZ.out.size))
  clear hA4 hB4 kx
  go_wp2_with fail
  refine CP.out.mono ?_
  rintro e w5 ⟨rfl, hb5⟩
  have HB5 := Lib.hid (HB.out.trans (hb5.mono HB.out.size))
  clear hb5
  go_wp2
  go_ret
  exact ⟨rfl, HB5.out⟩

end Go.Proofs.YtifaaihekgnhiaaGreatDoor.Tp

/- The document's Canon of a type that is held. -/
namespace Go.Proofs.YtifaaihekgnhiaaGreatDoor.Tp
open Go.RowKit

/-- what the document's Canon wants -/
structure CanonR (t : Ty) : Prop where
  std : Std t
  wf : Wf (canonT t)
  len : (printT (canonT t)).length ≤ 1099511627776
  size : t.size ≤ 100000000
theorem canonR_ok {t : Ty} (h : Mk t) (hs : t.size ≤ 4000) : CanonR t := by
  obtain ⟨h1, _, h3⟩ := canon_mk t h (by omega)
  exact ⟨h.1, std_wf _ h1.1, canon_small h hs, by omega⟩
/-- of a type that has the canonical text of a good one -/
theorem canonR_of {y z : Ty} (hy : Std y) (hz : Good z) (hsz : z.size ≤ 1073741824) (e : canonT y = canonT z) (hs : y.size ≤ 100000000) : CanonR y := by
  have KP := num_keeps z.depth (freeT z) z 0 (Nat.le_refl _) hz (by omega) (by
    have := freeT_len z
    have : z.size * ((freeT z).length + 1) ≤ 1073741824 * 1073741825 := Nat.mul_le_mul hsz (by omega)
    omega)
  have hg : Good (canonT z) := KP.2.2.2.2.1
  have hn : (canonT z).size = z.size := KP.2.2.2.1
  refine ⟨hy, by rw [e]; exact hg.1, ?_, hs⟩
  rw [e]
  have := printT_len (canonT z) hg
  omega
theorem rcanon_h {t : Ty} {a : Option Addr} {c : Nat} {W : World} (R : AtW t a c W) (h : CanonR t) :
    Calls Tryz.prog 13 #[.agg #[.int .i64 t.kind, .string t.name, .int .i64 t.n, .slice a t.args.length c]] W (StrPost W (canonS t)) :=
  rCanon_any t _ a c W R (fun _ h => h) h.std h.wf h.len h.size

end Go.Proofs.YtifaaihekgnhiaaGreatDoor.Tp

/- Texts laid together: MaInst, MaInstW. -/
import Derived.Test.YtofllmemmggapaaGreatDoorP46
import Derived.Test.YtofllmemmggapaaGreatDoorP47
import Derived.Test.YtofllmemmggapaaGreatDoorP43

/- The walks of Peel and Instance. -/
namespace Go.Proofs.YtofllmemmggapaaGreatDoor.Tp
open Go.RowKit Go.Sort

theorem pst_of {L : ByteArray} {but : List ByteArray} {t : Ty} (hm : Mk t) (hz : t.size ≤ 4000) (hd : t.depth ≤ 4000) (hb : but.length ≤ 10000) : Pst L but t.depth 0 t :=
  ⟨Nat.le_refl _, hm, by omega, by
    rw [Nat.zero_add]
    exact Nat.le_trans (Nat.mul_le_mul hd (show but.length + 1 ≤ 10001 by omega)) (by decide)⟩

def PkPost (w : World) (r : List ByteArray × Ty) (e : Ending) (w' : World) : Prop :=
  Below w.heap.size w w' ∧ ∃ v a c, e = .returned (.tuple #[v, tv r.2 a c]) ∧ StrsLow w' v r.1 ∧ AtW r.2 a c w'
theorem peel_top {w wo w1 w2 : World} {B1 : Nat} {r : List ByteArray × Ty} {v : Value} {a : Option Addr} {c : Nat} {z0 z1 z2 z3 : Value} (h2 : Below w.heap.size w w2) (hw1 : w.heap.size ≤ B1) (hB : B1 < w1.heap.size) (hq : B4 w2 B1 z0 z1 z2 z3) (hs1 : w1.heap.size ≤ w2.heap.size) (hv : StrsAt (In w1.heap.size w2.heap.size) w2 v r.1) (hA : ArgsAt (New (Lt w.heap.size) w1 w2) w2 (.slice a r.2.args.length c) r.2.args)
    (hwo : wo = ((((w2.setCell ⟨B1, 0, none⟩ (.int .i64 r.2.kind)).setCell ⟨B1, 1, none⟩ (.string r.2.name)).setCell ⟨B1, 2, none⟩ (.int .i64 r.2.n)).setCell ⟨B1, 3, none⟩ (.slice a r.2.args.length c))) :
    B4 wo B1 (.int .i64 r.2.kind) (.string r.2.name) (.int .i64 r.2.n) (.slice a r.2.args.length c) ∧ PkPost w r (.returned (.tuple #[v, tv r.2 a c])) wo := by
  have off : ∀ b, b ≠ B1 → wo.heap[b]? = w2.heap[b]? := fun b hb => by
    rw [hwo, Below.heap_setCell _ _ _ _ hb, Below.heap_setCell _ _ _ _ hb, Below.heap_setCell _ _ _ _ hb, Below.heap_setCell _ _ _ _ hb]
  have hsz : wo.heap.size = w2.heap.size := by rw [hwo]; simp
  refine ⟨by rw [hwo]; exact B4.set4 hq _ _ _ _, by rw [hwo]; exact h2.set4 hw1 _ _ _ _, v, a, c, rfl, (hv.keep fun b hb => off b (by have := hb.1; omega)).mono fun b hb => by rw [hsz]; exact hb.2, (hA.keep fun b hb => off b ?_).mono fun b hb => ?_⟩
  · rcases hb with hb | hb
    · have : b < w.heap.size := hb; omega
    · omega
  · show b < wo.heap.size
    rw [hsz]
    rcases hb with hb | hb
    · have : b < w.heap.size := hb; have := h2.size; omega
    · exact hb.2

set_option maxRecDepth 100000 in
set_option maxHeartbeats 3200000 in
theorem Peel_any (t : Ty) (a : Option Addr) (c : Nat) (w : World) (hA : AtW t a c w) (hm : Mk t) (hz : t.size ≤ 4000) (hd : t.depth ≤ 4000) (hT : Tab w) :
    Calls Tryz.prog 16 #[tv t a c] w (PkPost w (PeelT pL (freeT t) t)) := by
  have hz1 := (Below.refl w.heap.size w).alloc (Nat.le_refl _) (.cells #[.int .i64 t.kind, .string t.name, .int .i64 t.n, .slice a t.args.length c] 26)
  have hz2 := hz1.alloc hz1.size (.cells #[.int .i64 0, .string ⟨#[]⟩, .int .i64 0, .slice none 0 0] 26)
  have k4 := (B4.new w (.int .i64 t.kind) (.string t.name) (.int .i64 t.n) (.slice a t.args.length c)).low ((Below.refl _ _).alloc (Nat.le_refl _) (.cells #[.int .i64 0, .string ⟨#[]⟩, .int .i64 0, .slice none 0 0] 26))
  have q4 := B4.new (w.alloc (.cells #[.int .i64 t.kind, .string t.name, .int .i64 t.n, .slice a t.args.length c] 26)) (.int .i64 0) (.string ⟨#[]⟩) (.int .i64 0) (.slice none 0 0)
  rw [show (w.alloc (.cells #[.int .i64 t.kind, .string t.name, .int .i64 t.n, .slice a t.args.length c] 26)).heap.size = w.heap.size + 1 from by simp] at q4
  have hfl := freeT_len t
  have hA0 : ArgsAt (Lt w.heap.size) ((w.alloc (.cells #[.int .i64 t.kind, .string t.name, .int .i64 t.n, .slice a t.args.length c] 26)).alloc (.cells #[.int .i64 0, .string ⟨#[]⟩, .int .i64 0, .slice none 0 0] 26)) (.slice a t.args.length c) t.args := hA.keep fun b hb => hz2.block b hb
  have hsz : ((w.alloc (.cells #[.int .i64 t.kind, .string t.name, .int .i64 t.n, .slice a t.args.length c] 26)).alloc (.cells #[.int .i64 0, .string ⟨#[]⟩, .int .i64 0, .slice none 0 0] 26)).heap.size = w.heap.size + 1 + 1 := by simp
  have HS := Lib.hid hsz
  have HZ := Lib.hid hz2
  have K4 := Lib.hid k4
  have Q4 := Lib.hid q4
  have HA := Lib.hid hA0
  have CF := Lib.hid (fun (W : World) (h : Below w.heap.size w W) (hA : ArgsAt (Lt w.heap.size) W (.slice a t.args.length c) t.args) => free_any t (Lt w.heap.size) a c W hA (fun b hb => Nat.lt_of_lt_of_le hb h.size) (by omega))
  have CP := Lib.hid (fun (W : World) (h : Below w.heap.size w W) (bv : Value) (hb : StrsLow W bv (freeT t)) (hA : ArgsAt (Lt w.heap.size) W (.slice a t.args.length c) t.args) => peeled_any 112 (by decide) (freeT t) t (Lt w.heap.size) a c bv W hA (fun b hb => Nat.lt_of_lt_of_le hb h.size) hb (pst_of hm hz hd (by omega)) (tab_below hT h))
  have FL : Hid ((freeT t).length ≤ 1099511627776) := Lib.hid (by omega)
  have hpe : PeelT ⟨#[112]⟩ (freeT t) t = PeelT pL (freeT t) t := rfl
  rw [hpe] at CP
  generalize PeelT pL (freeT t) t = r at *
  unfold tv at CF CP ⊢
  clear hA hm hz hd hT hz1 hz2 k4 q4 hfl hA0 hsz hpe
  go_enter Tryz.func16, Tryz.ntmps16
  go_wp2
  generalize (w.alloc (.cells #[.int .i64 t.kind, .string t.name, .int .i64 t.n, .slice a t.args.length c] 26)).alloc (.cells #[.int .i64 0, .string ⟨#[]⟩, .int .i64 0, .slice none 0 0] 26) = W0 at *
  have HD := Lib.hid (Below.refl W0.heap.size W0).drew
  have CF1 := Lib.hid (CF.out W0.drew (HZ.out.trans (HD.out.mono HZ.out.size)) (HA.out.keep (A := W0) (B := W0.drew) fun _ _ => rfl))
  have c0 := K4.out.c0
  have c1 := K4.out.c1
  have c2 := K4.out.c2
  have c3 := K4.out.c3
  go_region_law (first
    | (go_simp; go_at_call 25; (with_reducible refine CF1.out.mono ?_); rintro e w1 ⟨fv, rfl, ho1, hl1, hb1⟩; have HB1 := Lib.hid (HD.out.trans (hb1.mono HD.out.size)); have CP1 := Lib.hid (CP.out w1 (HZ.out.trans (HB1.out.mono HZ.out.size)) fv (StrsLow.own ho1 FL.out) (HA.out.keep fun b hb => HB1.out.block b (Nat.lt_of_lt_of_le hb HZ.out.size))); have k1 := K4.out.low HB1.out; have d0 := k1.c0; have d1 := k1.c1; have d2 := k1.c2; have d3 := k1.c3; clear ho1 hl1 hb1 k1)
    | (go_simp; go_at_call 38; (with_reducible refine CP1.out.mono ?_); rintro e w2 ⟨hb2, v2, a2, c2', rfl, hv2, hA2⟩; have q2 := (Q4.out.low HB1.out).low hb2; have r0 := q2.c0; have r1 := q2.c1; have r2 := q2.c2; have r3 := q2.c3; have s0 := q2.fr 0; have s1 := q2.fr 1; have s2 := q2.fr 2; have s3 := q2.fr 3; have HQ2 := Lib.hid q2; have HB2 := Lib.hid hb2; have HV2 := Lib.hid hv2; have HA2 := Lib.hid hA2; clear hb2 hv2 hA2 q2; unfold tv))
  all_goals
    go_wp2
    obtain ⟨q5, hF⟩ := peel_top (w := w) (B1 := w.heap.size + 1) (HZ.out.trans ((HB1.out.trans (HB2.out.mono HB1.out.size)).mono HZ.out.size)) (by omega) (Nat.lt_of_lt_of_le (show w.heap.size + 1 < W0.heap.size by have := HS.out; omega) HB1.out.size) HQ2.out HB2.out.size HV2.out HA2.out rfl
    exact bodyPost_ret (v := .tuple #[v2, tv r.2 a2 c2']) (by simp [results, Tryz.results16, go_sem, tv, q5.c0, q5.c1, q5.c2, q5.c3]) rfl hF

end Go.Proofs.YtofllmemmggapaaGreatDoor.Tp

/- The walk of Instance. -/
namespace Go.Proofs.YtofllmemmggapaaGreatDoor.Tp
open Go.RowKit Go.Sort

def ButCut (l : List ByteArray) (W0 : World) (bv : Value) (wx : World) : Prop := StrsLow wx bv l ∧ Below W0.heap.size W0 wx
theorem few_small {g : Ty} {but : List ByteArray} {L : ByteArray} {r : List ByteArray × Ty} (hz : g.size ≤ 4000) (R : PeelOk L but 0 g r) : Small r.2 ∧ Szs r.2 :=
  ⟨⟨mk_good _ R.good, by have := R.size; omega⟩, by have := R.size; unfold Szs; omega⟩
theorem StrsAt.low2 {S : Nat → Prop} {w : World} {v : Value} {l : List ByteArray} (h : StrsAt S w v l) (hS : ∀ b, S b → b < w.heap.size) : StrsLow w v l := h.mono hS

set_option maxRecDepth 100000 in
set_option maxHeartbeats 6400000 in
theorem Instance_any (g s : Ty) (ga sa : Option Addr) (gc sc : Nat) (w : World) (hg : AtW g ga gc w) (hs : AtW s sa sc w) (F : Few g s) (hT : Tab w) :
    Calls Tryz.prog 15 #[tv g ga gc, tv s sa sc] w (BoolPost w (InstT g s)) := by
  have hz1 := (Below.refl w.heap.size w).alloc (Nat.le_refl _) (.cells #[.int .i64 g.kind, .string g.name, .int .i64 g.n, .slice ga g.args.length gc] 26)
  have hz2 := hz1.alloc hz1.size (.cells #[.int .i64 s.kind, .string s.name, .int .i64 s.n, .slice sa s.args.length sc] 26)
  have kg := (B4.new w (.int .i64 g.kind) (.string g.name) (.int .i64 g.n) (.slice ga g.args.length gc)).low ((Below.refl _ _).alloc (Nat.le_refl _) (.cells #[.int .i64 s.kind, .string s.name, .int .i64 s.n, .slice sa s.args.length sc] 26))
  have ks := B4.new (w.alloc (.cells #[.int .i64 g.kind, .string g.name, .int .i64 g.n, .slice ga g.args.length gc] 26)) (.int .i64 s.kind) (.string s.name) (.int .i64 s.n) (.slice sa s.args.length sc)
  rw [show (w.alloc (.cells #[.int .i64 g.kind, .string g.name, .int .i64 g.n, .slice ga g.args.length gc] 26)).heap.size = w.heap.size + 1 from by simp] at ks
  have hfg := freeT_len g
  have hfs := freeT_len s
  have hgz := F.gz
  have hsz := F.sz
  have HZ := Lib.hid hz2
  have KG := Lib.hid kg
  have KS := Lib.hid ks
  have CFG := Lib.hid (fun (W : World) (h : Below w.heap.size w W) => free_any g (Lt w.heap.size) ga gc W (hg.keep fun b hb => h.block b hb) (fun b hb => Nat.lt_of_lt_of_le hb h.size) (by omega))
  have CFS := Lib.hid (fun (W : World) (h : Below w.heap.size w W) => free_any s (Lt w.heap.size) sa sc W (hs.keep fun b hb => h.block b hb) (fun b hb => Nat.lt_of_lt_of_le hb h.size) (by omega))
  have CPG := Lib.hid (fun (W : World) (h : Below w.heap.size w W) (bv : Value) (hb : StrsLow W bv (freeT g ++ freeT s)) => peeled_any 113 (by decide) (freeT g ++ freeT s) g (Lt w.heap.size) ga gc bv W (hg.keep fun b hb => h.block b hb) (fun b hb => Nat.lt_of_lt_of_le hb h.size) hb (pst_of F.mg F.gz F.gd (by rw [List.length_append]; omega)) (tab_below hT h))
  have CPS := Lib.hid (fun (W : World) (h : Below w.heap.size w W) (bv : Value) (hb : StrsLow W bv (freeT g ++ freeT s)) => peeled_any 112 (by decide) (freeT g ++ freeT s) s (Lt w.heap.size) sa sc bv W (hs.keep fun b hb => h.block b hb) (fun b hb => Nat.lt_of_lt_of_le hb h.size) hb (pst_of F.ms F.sz F.sd (by rw [List.length_append]; omega)) (tab_below hT h))
  have RQ := Lib.hid (few_small F.gz F.q)
  have RP := Lib.hid (few_small F.sz F.p)
  have IE : Hid (InstT g s = (MatchT (PeelT ⟨#[113]⟩ (freeT g ++ freeT s) g).2 (PeelT ⟨#[112]⟩ (freeT g ++ freeT s) s).2 (PeelT ⟨#[113]⟩ (freeT g ++ freeT s) g).1).isSome) := Lib.hid rfl
  have FLG : Hid ((freeT g).length ≤ 1099511627776) := Lib.hid (by omega)
  have FLS : Hid ((freeT s).length ≤ 1099511627776) := Lib.hid (by omega)
  have FLA : Hid ((freeT g ++ freeT s).length ≤ 1099511627776) := Lib.hid (by rw [List.length_append]; omega)
  change Hid (Small (PeelT ⟨#[113]⟩ (freeT g ++ freeT s) g).2 ∧ Szs (PeelT ⟨#[113]⟩ (freeT g ++ freeT s) g).2) at RQ
  change Hid (Small (PeelT ⟨#[112]⟩ (freeT g ++ freeT s) s).2 ∧ Szs (PeelT ⟨#[112]⟩ (freeT g ++ freeT s) s).2) at RP
  generalize PeelT ⟨#[113]⟩ (freeT g ++ freeT s) g = rq at *
  generalize PeelT ⟨#[112]⟩ (freeT g ++ freeT s) s = rp at *
  have HTT := Lib.hid hT
  unfold tv at CFG CFS CPG CPS ⊢
  clear hg hs F hT hz1 hz2 kg ks hfg hfs hgz hsz
  go_enter Tryz.func15, Tryz.ntmps15
  go_wp2
  generalize (w.alloc (.cells #[.int .i64 g.kind, .string g.name, .int .i64 g.n, .slice ga g.args.length gc] 26)).alloc (.cells #[.int .i64 s.kind, .string s.name, .int .i64 s.n, .slice sa s.args.length sc] 26) = W0 at *
  have HD := Lib.hid (Below.refl W0.heap.size W0).drew
  have KK : Hid (∀ W : World, Below W0.heap.size W0 W → (W.cell? ⟨w.heap.size, 0, none⟩ = some (.int .i64 g.kind) ∧ W.cell? ⟨w.heap.size, 1, none⟩ = some (.string g.name) ∧ W.cell? ⟨w.heap.size, 2, none⟩ = some (.int .i64 g.n) ∧ W.cell? ⟨w.heap.size, 3, none⟩ = some (.slice ga g.args.length gc)) ∧
    W.cell? ⟨w.heap.size + 1, 0, none⟩ = some (.int .i64 s.kind) ∧ W.cell? ⟨w.heap.size + 1, 1, none⟩ = some (.string s.name) ∧ W.cell? ⟨w.heap.size + 1, 2, none⟩ = some (.int .i64 s.n) ∧ W.cell? ⟨w.heap.size + 1, 3, none⟩ = some (.slice sa s.args.length sc)) :=
    Lib.hid (fun W h => ⟨⟨(KG.out.low h).c0, (KG.out.low h).c1, (KG.out.low h).c2, (KG.out.low h).c3⟩, (KS.out.low h).c0, (KS.out.low h).c1, (KS.out.low h).c2, (KS.out.low h).c3⟩)
  go_upto_region 1 with fail
  go_cut [5] from 12 to 17 (fun bv wx => ButCut (freeT g ++ freeT s) W0 bv wx)
  case first =>
    obtain ⟨⟨c0, c1, c2, c3⟩, d0, d1, d2, d3⟩ := KK.out _ (Below.refl _ _)
    have CG1 := Lib.hid (CFG.out W0.drew (HZ.out.trans (HD.out.mono HZ.out.size)))
    have CS1 := Lib.hid (CFS.out W0.drew (HZ.out.trans (HD.out.mono HZ.out.size)))
    go_region_law (first
      | ((with_reducible show (if Region.wanted _ _ = true then Oper.wp _ _ _ W0.drew _ _ else _)); go_simp; go_at_call 25; (with_reducible refine CG1.out.mono ?_); rintro e w1 ⟨fv, rfl, ho1, hl1, hb1⟩; have HBG := Lib.hid (HD.out.trans (hb1.mono HD.out.size)); have OG := Lib.hid (own_base ho1 HD.out.size); have CS2 := Lib.hid (CFS.out w1 (HZ.out.trans (HBG.out.mono HZ.out.size))); obtain ⟨⟨m0, m1, m2, m3⟩, n0, n1, n2, n3⟩ := KK.out _ HBG.out; clear ho1 hl1 hb1)
      | ((with_reducible show (if Region.wanted _ _ = true then Oper.wp _ _ _ W0.drew _ _ else _)); go_simp; go_at_call 25; (with_reducible refine CS1.out.mono ?_); rintro e w1 ⟨gv, rfl, ho1, hl1, hb1⟩; have HBS := Lib.hid (HD.out.trans (hb1.mono HD.out.size)); have OS := Lib.hid (StrsLow.own ho1 FLS.out); have CG2 := Lib.hid (CFG.out w1 (HZ.out.trans (HBS.out.mono HZ.out.size))); obtain ⟨⟨m0, m1, m2, m3⟩, n0, n1, n2, n3⟩ := KK.out _ HBS.out; clear ho1 hl1 hb1)
      | (go_simp; go_at_call 25; (with_reducible refine CS2.out.mono ?_); rintro e w2 ⟨gv, rfl, ho2, hl2, hb2⟩; have HB2 := Lib.hid (HBG.out.trans (hb2.mono HBG.out.size)); have AP := Lib.hid (fun ty => append_strs ty (wi := W0) (wy := w2) (lo := W0.heap.size) (own_keep4 OG.out fun b e => hb2.block b (OG.out.lt b e).2) (StrsLow.own ho2 FLS.out) HB2.out (Nat.le_refl _) HB2.out.size FLG.out rfl); have AP := Lib.hid (AP.out 22); clear ho2 hl2 hb2)
      | (go_simp; go_at_call 25; (with_reducible refine CG2.out.mono ?_); rintro e w2 ⟨fv, rfl, ho2, hl2, hb2⟩; have HB2 := Lib.hid (HBS.out.trans (hb2.mono HBS.out.size)); have AP := Lib.hid (fun ty => append_strs ty (wi := W0) (wy := w2) (lo := W0.heap.size) (own_base ho2 HBS.out.size) (OS.out.low hb2) HB2.out (Nat.le_refl _) HB2.out.size FLG.out rfl); have AP := Lib.hid (AP.out 22); clear ho2 hl2 hb2)
      | (refine step_append_ok (by rfl) _ _ _ (by rfl) (by rfl) (by rfl) AP.out ?_; rintro v2 w3 ⟨ho3, hb3⟩; have OO := Lib.hid (StrsLow.own ho3 FLA.out); have BB := Lib.hid hb3; clear ho3 hb3))
    all_goals
      go_wp2_with fail
      go_meet
      exact ⟨OO.out, BB.out⟩
  obtain ⟨hbut, hbw⟩ := hcut
  have BU := Lib.hid hbut
  have BW := Lib.hid (HZ.out.trans (hbw.mono HZ.out.size))
  have HBW := Lib.hid hbw
  obtain ⟨⟨c0, c1, c2, c3⟩, d0, d1, d2, d3⟩ := KK.out _ hbw
  have C1 := Lib.hid (CPG.out wc BW.out _ BU.out)
  clear hbut hbw
  go_wp2_with fail
  refine C1.out.mono ?_
  rintro e w3 ⟨hb3, qv, qa, qc, rfl, hqv, hqA⟩
  have hx3 := hb3.trans (((Below.refl w3.heap.size w3).alloc (Nat.le_refl _) (.cells #[.int .i64 rq.2.kind, .string rq.2.name, .int .i64 rq.2.n, .slice qa rq.2.args.length qc] 26)).mono hb3.size)
  have kq := B4.new w3 (.int .i64 rq.2.kind) (.string rq.2.name) (.int .i64 rq.2.n) (.slice qa rq.2.args.length qc)
  have hqA2 : AtW rq.2 qa qc w3 := hqA.mono fun b hb => by
    rcases hb with hb | hb
    · exact Nat.lt_of_lt_of_le hb (BW.out.trans (hb3.mono BW.out.size)).size
    · exact hb.2
  have hal := (Below.refl w3.heap.size w3).alloc (Nat.le_refl _) (.cells #[.int .i64 rq.2.kind, .string rq.2.name, .int .i64 rq.2.n, .slice qa rq.2.args.length qc] 26)
  have QA := Lib.hid (hqA2.low hal)
  have hqv2 : StrsLow w3 qv rq.1 := hqv.mono fun b hb => hb.2
  have QV := Lib.hid (StrsLow.low hqv2 hal)
  have KQ := Lib.hid kq
  have B3 := Lib.hid (BW.out.trans (hx3.mono BW.out.size))
  obtain ⟨⟨c0, c1, c2, c3⟩, d0, d1, d2, d3⟩ := KK.out _ (HBW.out.trans (hx3.mono HBW.out.size))
  have C2 := Lib.hid (CPS.out _ B3.out _ (BU.out.low hx3))
  clear hb3 hqv hqv2 hqA hqA2 hx3 hal kq
  unfold tv
  go_wp2_with fail
  refine C2.out.mono ?_
  rintro e w4 ⟨hb4, pv, qa2, qc2, rfl, hpv, hpA⟩
  have hx4 := hb4.trans (((Below.refl w4.heap.size w4).alloc (Nat.le_refl _) (.cells #[.int .i64 rp.2.kind, .string rp.2.name, .int .i64 rp.2.n, .slice qa2 rp.2.args.length qc2] 26)).mono hb4.size)
  have kp := B4.new w4 (.int .i64 rp.2.kind) (.string rp.2.name) (.int .i64 rp.2.n) (.slice qa2 rp.2.args.length qc2)
  have hal := (Below.refl w4.heap.size w4).alloc (Nat.le_refl _) (.cells #[.int .i64 rp.2.kind, .string rp.2.name, .int .i64 rp.2.n, .slice qa2 rp.2.args.length qc2] 26)
  have hpA2 : AtW rp.2 qa2 qc2 w4 := hpA.mono fun b hb => by
    rcases hb with hb | hb
    · exact Nat.lt_of_lt_of_le hb (B3.out.trans (hb4.mono B3.out.size)).size
    · exact hb.2
  have B4' := Lib.hid (B3.out.trans (hx4.mono B3.out.size))
  have kq4 := KQ.out.low hx4
  have q0 := kq4.c0
  have q1 := kq4.c1
  have q2 := kq4.c2
  have q3 := kq4.c3
  have p0 := kp.c0
  have p1 := kp.c1
  have p2 := kp.c2
  have p3 := kp.c3
  have CM := Lib.hid (Match_any rq.2 rp.2 rq.1 qa qa2 qc qc2 qv _ (QA.out.low hx4) (hpA2.low hal) (QV.out.low hx4) RP.out.1 RQ.out.2 (tab_below HTT.out B4'.out))
  unfold tv at CM ⊢
  clear hb4 hpv hpA hx4 kp hal hpA2 kq4 c0 c1 c2 c3 d0 d1 d2 d3
  go_wp2_with fail
  refine CM.out.mono ?_
  rintro e w5 ⟨hb5, he⟩
  have B5 := Lib.hid (B4'.out.trans (hb5.mono B4'.out.size))
  clear hb5
  cases hr : MatchT rq.2 rp.2 rq.1 with
  | none =>
    have E : Hid (InstT g s = false) := Lib.hid (by rw [IE.out, hr]; rfl)
    rw [hr] at he
    obtain rfl := he
    clear hr
    go_wp2
    go_ret
    exact ⟨ret_bool E.out.symm, B5.out⟩
  | some l =>
    have E : Hid (InstT g s = true) := Lib.hid (by rw [IE.out, hr]; rfl)
    rw [hr] at he
    obtain ⟨v5, rfl, _⟩ := he
    clear hr
    go_wp2
    go_ret
    exact ⟨ret_bool E.out.symm, B5.out⟩

end Go.Proofs.YtofllmemmggapaaGreatDoor.Tp

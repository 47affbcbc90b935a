/- Texts laid together: MaInst, MaInstW, MaRead. -/
import Derived.Test.YtofllmemmggapaaGreatDoorP34
import Derived.Test.YtofllmemmggapaaGreatDoorP35
import Derived.Test.YtofllmemmggapaaGreatDoorP31
import Derived.Test.YtofllmemmggapaaGreatDoorP29
import Derived.Test.YtofllmemmggapaaGreatDoorP27
import Derived.Test.YtofllmemmggapaaGreatDoorP30

namespace Go.Proofs.YtofllmemmggapaaGreatDoor.Tp
open Go.RowKit Go.Sort
theorem pst_of {L:ByteArray}{but:List ByteArray}{t:Ty}(hm:Mk t)(hz:t.size≤4000)(hd:t.depth≤4000)(hb:but.length≤10000):Pst L but t.depth 0 t :=
 ⟨Nat.le_refl _,hm,by omega,by
  rw[Nat.zero_add]
  exact Nat.le_trans (Nat.mul_le_mul hd (show but.length+1≤10001 by omega)) (by decide)⟩
def PkPost (w:World)(r:List ByteArray × Ty)(e:Ending)(w':World):Prop :=
 Below w.heap.size w w'∧∃ v a c,e=.returned (.tuple #[v,tv r.2 a c])∧StrsLow w' v r.1∧AtW r.2 a c w'
theorem peel_top {w wo w1 w2:World}{B1:Nat}{r:List ByteArray × Ty}{v:Value}{a:Option Addr}{c:Nat}{z0 z1 z2 z3:Value}(h2:Below w.heap.size w w2)(hw1:w.heap.size≤B1)(hB:B1<w1.heap.size)(hq:B4 w2 B1 z0 z1 z2 z3)(hs1:w1.heap.size≤w2.heap.size)(hv:StrsAt (In w1.heap.size w2.heap.size) w2 v r.1)(hA:ArgsAt (New (Lt w.heap.size) w1 w2) w2 (.slice a r.2.args.length c) r.2.args)
  (hwo:wo=((((w2.setCell ⟨B1,0,none⟩ (.int .i64 r.2.kind)).setCell ⟨B1,1,none⟩ (.string r.2.name)).setCell ⟨B1,2,none⟩ (.int .i64 r.2.n)).setCell ⟨B1,3,none⟩ (.slice a r.2.args.length c))) :
  B4 wo B1 (.int .i64 r.2.kind) (.string r.2.name) (.int .i64 r.2.n) (.slice a r.2.args.length c)∧PkPost w r (.returned (.tuple #[v,tv r.2 a c])) wo:=by
 have off:∀ b,b≠B1→wo.heap[b]? = w2.heap[b]? := fun b hb=>by
  rw[hwo,Below.heap_setCell _ _ _ _ hb,Below.heap_setCell _ _ _ _ hb,Below.heap_setCell _ _ _ _ hb,Below.heap_setCell _ _ _ _ hb]
 have hsz:wo.heap.size=w2.heap.size:=by rw[hwo];simp
 refine⟨by rw[hwo];exact B4.set4 hq _ _ _ _,by rw[hwo];exact h2.set4 hw1 _ _ _ _,v,a,c,rfl,(hv.keep fun b hb=>off b (by have:=hb.1;omega)).mono fun b hb=>by rw[hsz];exact hb.2,(hA.keep fun b hb=>off b ?_).mono fun b hb=>?_⟩
 ·rcases hb with hb|hb
  ·have:b<w.heap.size:=hb;omega
  ·omega
 ·show b<wo.heap.size
  rw[hsz]
  rcases hb with hb|hb
  ·have:b<w.heap.size:=hb;have:=h2.size;omega
  ·exact hb.2
set_option maxRecDepth 100000 in
set_option maxHeartbeats 3200000 in
theorem Peel_any (t:Ty)(a:Option Addr)(c:Nat)(w:World)(hA:AtW t a c w)(hm:Mk t)(hz:t.size≤4000)(hd:t.depth≤4000)(hT:Tab w) :
  Calls Tryz.prog 16 #[tv t a c] w (PkPost w (PeelT pL (freeT t) t)):=by
 have hz1:=(Below.refl w.heap.size w).alloc (Nat.le_refl _) (.cells #[.int .i64 t.kind,.string t.name,.int .i64 t.n,.slice a t.args.length c] 26)
 have hz2:=hz1.alloc hz1.size (.cells #[.int .i64 0,.string ⟨#[]⟩,.int .i64 0,.slice none 0 0] 26)
 have k4:=(B4.new w (.int .i64 t.kind) (.string t.name) (.int .i64 t.n) (.slice a t.args.length c)).low ((Below.refl _ _).alloc (Nat.le_refl _) (.cells #[.int .i64 0,.string ⟨#[]⟩,.int .i64 0,.slice none 0 0] 26))
 have q4:=B4.new (w.alloc (.cells #[.int .i64 t.kind,.string t.name,.int .i64 t.n,.slice a t.args.length c] 26)) (.int .i64 0) (.string ⟨#[]⟩) (.int .i64 0) (.slice none 0 0)
 rw[show (w.alloc (.cells #[.int .i64 t.kind,.string t.name,.int .i64 t.n,.slice a t.args.length c] 26)).heap.size=w.heap.size+1 from by simp] at q4
 have hfl:=freeT_len t
 have hA0:ArgsAt (Lt w.heap.size) ((w.alloc (.cells #[.int .i64 t.kind,.string t.name,.int .i64 t.n,.slice a t.args.length c] 26)).alloc (.cells #[.int .i64 0,.string ⟨#[]⟩,.int .i64 0,.slice none 0 0] 26)) (.slice a t.args.length c) t.args:=hA.keep fun b hb=>hz2.block b hb
 have hsz:((w.alloc (.cells #[.int .i64 t.kind,.string t.name,.int .i64 t.n,.slice a t.args.length c] 26)).alloc (.cells #[.int .i64 0,.string ⟨#[]⟩,.int .i64 0,.slice none 0 0] 26)).heap.size=w.heap.size+1+1:=by simp
 have HS:=hid hsz
 have HZ:=hid hz2
 have K4:=hid k4
 have Q4:=hid q4
 have HA:=hid hA0
 have CF:=hid (fun (W:World) (h:Below w.heap.size w W) (hA:ArgsAt (Lt w.heap.size) W (.slice a t.args.length c) t.args)=>free_any t (Lt w.heap.size) a c W hA (fun b hb=>Nat.lt_of_lt_of_le hb h.size) (by omega))
 have CP:=hid (fun (W:World) (h:Below w.heap.size w W) (bv:Value) (hb:StrsLow W bv (freeT t)) (hA:ArgsAt (Lt w.heap.size) W (.slice a t.args.length c) t.args)=>peeled_any 112 (by decide) (freeT t) t (Lt w.heap.size) a c bv W hA (fun b hb=>Nat.lt_of_lt_of_le hb h.size) hb (pst_of hm hz hd (by omega)) (tab_below hT h))
 have FL:Hid ((freeT t).length≤1099511627776):=hid (by omega)
 have hpe:PeelT ⟨#[112]⟩ (freeT t) t=PeelT pL (freeT t) t:=rfl
 rw[hpe] at CP
 generalize PeelT pL (freeT t) t=r at *
 unfold tv at CF CP ⊢
 clear hA hm hz hd hT hz1 hz2 k4 q4 hfl hA0 hsz hpe
 go_enter Tryz.func16,Tryz.ntmps16
 go_wp2
 generalize (w.alloc (.cells #[.int .i64 t.kind,.string t.name,.int .i64 t.n,.slice a t.args.length c] 26)).alloc (.cells #[.int .i64 0,.string ⟨#[]⟩,.int .i64 0,.slice none 0 0] 26)=W0 at *
 have HD:=hid (Below.refl W0.heap.size W0).drew
 have CF1:=hid (CF.out W0.drew (HZ.out.trans (HD.out.mono HZ.out.size)) (HA.out.keep (A:=W0) (B:=W0.drew) fun _ _=>rfl))
 have c0:=K4.out.c0
 have c1:=K4.out.c1
 have c2:=K4.out.c2
 have c3:=K4.out.c3
 go_region_law (first
  | (go_simp;go_at_call 25;(with_reducible refine CF1.out.mono ?_);rintro e w1 ⟨fv,rfl,ho1,hl1,hb1⟩;have HB1:=hid (HD.out.trans (hb1.mono HD.out.size));have CP1:=hid (CP.out w1 (HZ.out.trans (HB1.out.mono HZ.out.size)) fv (StrsLow.own ho1 FL.out) (HA.out.keep fun b hb=>HB1.out.block b (Nat.lt_of_lt_of_le hb HZ.out.size)));have k1:=K4.out.low HB1.out;have d0:=k1.c0;have d1:=k1.c1;have d2:=k1.c2;have d3:=k1.c3;clear ho1 hl1 hb1 k1)
  | (go_simp;go_at_call 38;(with_reducible refine CP1.out.mono ?_);rintro e w2 ⟨hb2,v2,a2,c2',rfl,hv2,hA2⟩;have q2:=(Q4.out.low HB1.out).low hb2;have r0:=q2.c0;have r1:=q2.c1;have r2:=q2.c2;have r3:=q2.c3;have s0:=q2.fr 0;have s1:=q2.fr 1;have s2:=q2.fr 2;have s3:=q2.fr 3;have HQ2:=hid q2;have HB2:=hid hb2;have HV2:=hid hv2;have HA2:=hid hA2;clear hb2 hv2 hA2 q2;unfold tv))
 all_goals
  go_wp2
  obtain⟨q5,hF⟩:=peel_top (w:=w) (B1:=w.heap.size+1) (HZ.out.trans ((HB1.out.trans (HB2.out.mono HB1.out.size)).mono HZ.out.size)) (by omega) (Nat.lt_of_lt_of_le (show w.heap.size+1<W0.heap.size by have:=HS.out;omega) HB1.out.size) HQ2.out HB2.out.size HV2.out HA2.out rfl
  exact bodyPost_ret (v:=.tuple #[v2,tv r.2 a2 c2']) (by simp[results,Tryz.results16,go_sem,tv,q5.c0,q5.c1,q5.c2,q5.c3]) rfl hF
def ButCutI (l:List ByteArray)(W0:World)(bv:Value)(wx:World):Prop:=StrsLow wx bv l∧Below W0.heap.size W0 wx
theorem few_small {g:Ty}{but:List ByteArray}{L:ByteArray}{r:List ByteArray × Ty}(hz:g.size≤4000)(R:PeelOk L but 0 g r):Small r.2∧Szs r.2 :=
 ⟨⟨mk_good _ R.good,by have:=R.size;omega⟩,by have:=R.size;unfold Szs;omega⟩
set_option maxRecDepth 100000 in
set_option maxHeartbeats 6400000 in
theorem Instance_any (g s:Ty)(ga sa:Option Addr)(gc sc:Nat)(w:World)(hg:AtW g ga gc w)(hs:AtW s sa sc w)(F:Few g s)(hT:Tab w) :
  Calls Tryz.prog 15 #[tv g ga gc,tv s sa sc] w (BoolPost w (InstT g s)):=by
 have hz1:=(Below.refl w.heap.size w).alloc (Nat.le_refl _) (.cells #[.int .i64 g.kind,.string g.name,.int .i64 g.n,.slice ga g.args.length gc] 26)
 have hz2:=hz1.alloc hz1.size (.cells #[.int .i64 s.kind,.string s.name,.int .i64 s.n,.slice sa s.args.length sc] 26)
 have kg:=(B4.new w (.int .i64 g.kind) (.string g.name) (.int .i64 g.n) (.slice ga g.args.length gc)).low ((Below.refl _ _).alloc (Nat.le_refl _) (.cells #[.int .i64 s.kind,.string s.name,.int .i64 s.n,.slice sa s.args.length sc] 26))
 have ks:=B4.new (w.alloc (.cells #[.int .i64 g.kind,.string g.name,.int .i64 g.n,.slice ga g.args.length gc] 26)) (.int .i64 s.kind) (.string s.name) (.int .i64 s.n) (.slice sa s.args.length sc)
 rw[show (w.alloc (.cells #[.int .i64 g.kind,.string g.name,.int .i64 g.n,.slice ga g.args.length gc] 26)).heap.size=w.heap.size+1 from by simp] at ks
 have hfg:=freeT_len g
 have hfs:=freeT_len s
 have hgz:=F.gz
 have hsz:=F.sz
 have HZ:=hid hz2
 have KG:=hid kg
 have KS:=hid ks
 have CFG:=hid (fun (W:World) (h:Below w.heap.size w W)=>free_any g (Lt w.heap.size) ga gc W (hg.keep fun b hb=>h.block b hb) (fun b hb=>Nat.lt_of_lt_of_le hb h.size) (by omega))
 have CFS:=hid (fun (W:World) (h:Below w.heap.size w W)=>free_any s (Lt w.heap.size) sa sc W (hs.keep fun b hb=>h.block b hb) (fun b hb=>Nat.lt_of_lt_of_le hb h.size) (by omega))
 have CPG:=hid (fun (W:World) (h:Below w.heap.size w W) (bv:Value) (hb:StrsLow W bv (freeT g++freeT s))=>peeled_any 113 (by decide) (freeT g++freeT s) g (Lt w.heap.size) ga gc bv W (hg.keep fun b hb=>h.block b hb) (fun b hb=>Nat.lt_of_lt_of_le hb h.size) hb (pst_of F.mg F.gz F.gd (by rw[List.length_append];omega)) (tab_below hT h))
 have CPS:=hid (fun (W:World) (h:Below w.heap.size w W) (bv:Value) (hb:StrsLow W bv (freeT g++freeT s))=>peeled_any 112 (by decide) (freeT g++freeT s) s (Lt w.heap.size) sa sc bv W (hs.keep fun b hb=>h.block b hb) (fun b hb=>Nat.lt_of_lt_of_le hb h.size) hb (pst_of F.ms F.sz F.sd (by rw[List.length_append];omega)) (tab_below hT h))
 have RQ:=hid (few_small F.gz F.q)
 have RP:=hid (few_small F.sz F.p)
 have IE:Hid (InstT g s=(MatchT (PeelT ⟨#[113]⟩ (freeT g++freeT s) g).2 (PeelT ⟨#[112]⟩ (freeT g++freeT s) s).2 (PeelT ⟨#[113]⟩ (freeT g++freeT s) g).1).isSome):=hid rfl
 have FLG:Hid ((freeT g).length≤1099511627776):=hid (by omega)
 have FLS:Hid ((freeT s).length≤1099511627776):=hid (by omega)
 have FLA:Hid ((freeT g++freeT s).length≤1099511627776):=hid (by rw[List.length_append];omega)
 change Hid (Small (PeelT ⟨#[113]⟩ (freeT g++freeT s) g).2∧Szs (PeelT ⟨#[113]⟩ (freeT g++freeT s) g).2) at RQ
 change Hid (Small (PeelT ⟨#[112]⟩ (freeT g++freeT s) s).2∧Szs (PeelT ⟨#[112]⟩ (freeT g++freeT s) s).2) at RP
 generalize PeelT ⟨#[113]⟩ (freeT g++freeT s) g=rq at *
 generalize PeelT ⟨#[112]⟩ (freeT g++freeT s) s=rp at *
 have HTT:=hid hT
 unfold tv at CFG CFS CPG CPS ⊢
 clear hg hs F hT hz1 hz2 kg ks hfg hfs hgz hsz
 go_enter Tryz.func15,Tryz.ntmps15
 go_wp2
 generalize (w.alloc (.cells #[.int .i64 g.kind,.string g.name,.int .i64 g.n,.slice ga g.args.length gc] 26)).alloc (.cells #[.int .i64 s.kind,.string s.name,.int .i64 s.n,.slice sa s.args.length sc] 26)=W0 at *
 have HD:=hid (Below.refl W0.heap.size W0).drew
 have KK:Hid (∀ W:World,Below W0.heap.size W0 W→(W.cell? ⟨w.heap.size,0,none⟩=some (.int .i64 g.kind)∧W.cell? ⟨w.heap.size,1,none⟩=some (.string g.name)∧W.cell? ⟨w.heap.size,2,none⟩=some (.int .i64 g.n)∧W.cell? ⟨w.heap.size,3,none⟩=some (.slice ga g.args.length gc)) ∧
  W.cell? ⟨w.heap.size+1,0,none⟩=some (.int .i64 s.kind)∧W.cell? ⟨w.heap.size+1,1,none⟩=some (.string s.name)∧W.cell? ⟨w.heap.size+1,2,none⟩=some (.int .i64 s.n)∧W.cell? ⟨w.heap.size+1,3,none⟩=some (.slice sa s.args.length sc)) :=
  hid (fun W h=>⟨⟨(KG.out.low h).c0,(KG.out.low h).c1,(KG.out.low h).c2,(KG.out.low h).c3⟩,(KS.out.low h).c0,(KS.out.low h).c1,(KS.out.low h).c2,(KS.out.low h).c3⟩)
 go_upto_region 1 with fail
 go_cut [5] from 12 to 17 (fun bv wx=>ButCutI (freeT g++freeT s) W0 bv wx)
 case first =>
  obtain⟨⟨c0,c1,c2,c3⟩,d0,d1,d2,d3⟩:=KK.out _ (Below.refl _ _)
  have CG1:=hid (CFG.out W0.drew (HZ.out.trans (HD.out.mono HZ.out.size)))
  have CS1:=hid (CFS.out W0.drew (HZ.out.trans (HD.out.mono HZ.out.size)))
  go_region_law (first
   | ((with_reducible show (if Region.wanted _ _=true then Oper.wp _ _ _ W0.drew _ _ else _));go_simp;go_at_call 25;(with_reducible refine CG1.out.mono ?_);rintro e w1 ⟨fv,rfl,ho1,hl1,hb1⟩;have HBG:=hid (HD.out.trans (hb1.mono HD.out.size));have OG:=hid (own_base ho1 HD.out.size);have CS2:=hid (CFS.out w1 (HZ.out.trans (HBG.out.mono HZ.out.size)));obtain⟨⟨m0,m1,m2,m3⟩,n0,n1,n2,n3⟩:=KK.out _ HBG.out;clear ho1 hl1 hb1)
   | ((with_reducible show (if Region.wanted _ _=true then Oper.wp _ _ _ W0.drew _ _ else _));go_simp;go_at_call 25;(with_reducible refine CS1.out.mono ?_);rintro e w1 ⟨gv,rfl,ho1,hl1,hb1⟩;have HBS:=hid (HD.out.trans (hb1.mono HD.out.size));have OS:=hid (StrsLow.own ho1 FLS.out);have CG2:=hid (CFG.out w1 (HZ.out.trans (HBS.out.mono HZ.out.size)));obtain⟨⟨m0,m1,m2,m3⟩,n0,n1,n2,n3⟩:=KK.out _ HBS.out;clear ho1 hl1 hb1)
   | (go_simp;go_at_call 25;(with_reducible refine CS2.out.mono ?_);rintro e w2 ⟨gv,rfl,ho2,hl2,hb2⟩;have HB2:=hid (HBG.out.trans (hb2.mono HBG.out.size));have AP:=hid (fun ty=>append_strs ty (wi:=W0) (wy:=w2) (lo:=W0.heap.size) (own_keep4 OG.out fun b e=>hb2.block b (OG.out.lt b e).2) (StrsLow.own ho2 FLS.out) HB2.out (Nat.le_refl _) HB2.out.size FLG.out rfl);have AP:=hid (AP.out 22);clear ho2 hl2 hb2)
   | (go_simp;go_at_call 25;(with_reducible refine CG2.out.mono ?_);rintro e w2 ⟨fv,rfl,ho2,hl2,hb2⟩;have HB2:=hid (HBS.out.trans (hb2.mono HBS.out.size));have AP:=hid (fun ty=>append_strs ty (wi:=W0) (wy:=w2) (lo:=W0.heap.size) (own_base ho2 HBS.out.size) (OS.out.low hb2) HB2.out (Nat.le_refl _) HB2.out.size FLG.out rfl);have AP:=hid (AP.out 22);clear ho2 hl2 hb2)
   | (refine step_append_ok (by rfl) _ _ _ (by rfl) (by rfl) (by rfl) AP.out ?_;rintro v2 w3 ⟨ho3,hb3⟩;have OO:=hid (StrsLow.own ho3 FLA.out);have BB:=hid hb3;clear ho3 hb3))
  all_goals
   go_wp2_with fail
   go_meet
   exact⟨OO.out,BB.out⟩
 obtain⟨hbut,hbw⟩:=hcut
 have BU:=hid hbut
 have BW:=hid (HZ.out.trans (hbw.mono HZ.out.size))
 have HBW:=hid hbw
 obtain⟨⟨c0,c1,c2,c3⟩,d0,d1,d2,d3⟩:=KK.out _ hbw
 have C1:=hid (CPG.out wc BW.out _ BU.out)
 clear hbut hbw
 go_wp2_with fail
 refine C1.out.mono ?_
 rintro e w3 ⟨hb3,qv,qa,qc,rfl,hqv,hqA⟩
 have hx3:=hb3.trans (((Below.refl w3.heap.size w3).alloc (Nat.le_refl _) (.cells #[.int .i64 rq.2.kind,.string rq.2.name,.int .i64 rq.2.n,.slice qa rq.2.args.length qc] 26)).mono hb3.size)
 have kq:=B4.new w3 (.int .i64 rq.2.kind) (.string rq.2.name) (.int .i64 rq.2.n) (.slice qa rq.2.args.length qc)
 have hqA2:AtW rq.2 qa qc w3:=hqA.mono fun b hb=>by
  rcases hb with hb|hb
  ·exact Nat.lt_of_lt_of_le hb (BW.out.trans (hb3.mono BW.out.size)).size
  ·exact hb.2
 have hal:=(Below.refl w3.heap.size w3).alloc (Nat.le_refl _) (.cells #[.int .i64 rq.2.kind,.string rq.2.name,.int .i64 rq.2.n,.slice qa rq.2.args.length qc] 26)
 have QA:=hid (hqA2.low hal)
 have hqv2:StrsLow w3 qv rq.1:=hqv.mono fun b hb=>hb.2
 have QV:=hid (StrsLow.low hqv2 hal)
 have KQ:=hid kq
 have B3:=hid (BW.out.trans (hx3.mono BW.out.size))
 obtain⟨⟨c0,c1,c2,c3⟩,d0,d1,d2,d3⟩:=KK.out _ (HBW.out.trans (hx3.mono HBW.out.size))
 have C2:=hid (CPS.out _ B3.out _ (BU.out.low hx3))
 clear hb3 hqv hqv2 hqA hqA2 hx3 hal kq
 unfold tv
 go_wp2_with fail
 refine C2.out.mono ?_
 rintro e w4 ⟨hb4,pv,qa2,qc2,rfl,hpv,hpA⟩
 have hx4:=hb4.trans (((Below.refl w4.heap.size w4).alloc (Nat.le_refl _) (.cells #[.int .i64 rp.2.kind,.string rp.2.name,.int .i64 rp.2.n,.slice qa2 rp.2.args.length qc2] 26)).mono hb4.size)
 have kp:=B4.new w4 (.int .i64 rp.2.kind) (.string rp.2.name) (.int .i64 rp.2.n) (.slice qa2 rp.2.args.length qc2)
 have hal:=(Below.refl w4.heap.size w4).alloc (Nat.le_refl _) (.cells #[.int .i64 rp.2.kind,.string rp.2.name,.int .i64 rp.2.n,.slice qa2 rp.2.args.length qc2] 26)
 have hpA2:AtW rp.2 qa2 qc2 w4:=hpA.mono fun b hb=>by
  rcases hb with hb|hb
  ·exact Nat.lt_of_lt_of_le hb (B3.out.trans (hb4.mono B3.out.size)).size
  ·exact hb.2
 have B4':=hid (B3.out.trans (hx4.mono B3.out.size))
 have kq4:=KQ.out.low hx4
 have q0:=kq4.c0
 have q1:=kq4.c1
 have q2:=kq4.c2
 have q3:=kq4.c3
 have p0:=kp.c0
 have p1:=kp.c1
 have p2:=kp.c2
 have p3:=kp.c3
 have CM:=hid (Match_any rq.2 rp.2 rq.1 qa qa2 qc qc2 qv _ (QA.out.low hx4) (hpA2.low hal) (QV.out.low hx4) RP.out.1 RQ.out.2 (tab_below HTT.out B4'.out))
 unfold tv at CM ⊢
 clear hb4 hpv hpA hx4 kp hal hpA2 kq4 c0 c1 c2 c3 d0 d1 d2 d3
 go_wp2_with fail
 refine CM.out.mono ?_
 rintro e w5 ⟨hb5,he⟩
 have B5:=hid (B4'.out.trans (hb5.mono B4'.out.size))
 clear hb5
 cases hr:MatchT rq.2 rp.2 rq.1 with
 | none =>
  have E:Hid (InstT g s=false):=hid (by rw[IE.out,hr];rfl)
  rw[hr] at he
  obtain rfl:=he
  clear hr
  go_wp2
  go_ret
  exact⟨ret_bool E.out.symm,B5.out⟩
 | some l =>
  have E:Hid (InstT g s=true):=hid (by rw[IE.out,hr];rfl)
  rw[hr] at he
  obtain⟨v5,rfl,_⟩:=he
  clear hr
  go_wp2
  go_ret
  exact⟨ret_bool E.out.symm,B5.out⟩
def NilPost (w:World)(e:Ending)(w':World):Prop:=e=.returned (.slice none 0 0)∧Below w.heap.size w w'
set_option maxHeartbeats 800000 in
theorem rmetas_zero (w:World):Calls Tryz.prog 56 #[.agg #[.int .i64 0,.string ⟨#[]⟩,.int .i64 0,.slice none 0 0],.slice none 0 0] w (NilPost w):=by
 have hz:Below w.heap.size w (w.alloc (.cells #[.int .i64 0,.string ⟨#[]⟩,.int .i64 0,.slice none 0 0] 29)):=(Below.refl w.heap.size w).alloc (Nat.le_refl _) (.cells #[.int .i64 0,.string ⟨#[]⟩,.int .i64 0,.slice none 0 0] 29)
 have k4:=R4.new w (.int .i64 0) (.string ⟨#[]⟩) (.int .i64 0) (.slice none 0 0)
 have HZ:=hid hz
 have c0:=k4.c0
 have c3:=k4.c3
 clear hz k4
 go_enter Tryz.func56,Tryz.ntmps56
 go_wp2
 go_loopw [1,6] (fun ov iv wr=>ov=.slice none 0 0∧iv=.int .i64 0∧wr=w.alloc (.cells #[.int .i64 0,.string ⟨#[]⟩,.int .i64 0,.slice none 0 0] 29)) (fun _ _ _=>0)
 case atStart=>exact⟨rfl,rfl,rfl⟩
 case round =>
  obtain⟨rfl,rfl,rfl⟩:=hrel
  go_wp2
  go_ret
  exact⟨rfl,HZ.out⟩
set_option maxHeartbeats 800000 in
theorem rMetas_zero (w:World):Calls Tryz.prog 29 #[.agg #[.int .i64 0,.string ⟨#[]⟩,.int .i64 0,.slice none 0 0]] w (NilPost w):=by
 have hz:Below w.heap.size w (w.alloc (.cells #[.int .i64 0,.string ⟨#[]⟩,.int .i64 0,.slice none 0 0] 29)):=(Below.refl w.heap.size w).alloc (Nat.le_refl _) (.cells #[.int .i64 0,.string ⟨#[]⟩,.int .i64 0,.slice none 0 0] 29)
 have k4:=R4.new w (.int .i64 0) (.string ⟨#[]⟩) (.int .i64 0) (.slice none 0 0)
 have C:=hid (rmetas_zero (w.alloc (.cells #[.int .i64 0,.string ⟨#[]⟩,.int .i64 0,.slice none 0 0] 29)))
 have HZ:=hid hz
 have c0:=k4.c0
 have c1:=k4.c1
 have c2:=k4.c2
 have c3:=k4.c3
 clear hz k4
 go_enter Tryz.func29,Tryz.ntmps29
 go_wp2_with fail
 refine C.out.mono ?_
 rintro e w1 ⟨rfl,hB⟩
 have HB:=hid (HZ.out.trans (hB.mono HZ.out.size))
 clear hB
 go_wp2
 go_ret
 exact⟨rfl,HB.out⟩
theorem read_set {w W:World}{b1 b2:Nat}{u0 u1 u2 u3 v0 v1 v2 v3:Value}(hb:Below w.heap.size w W)(h1:w.heap.size≤b1)(h2:w.heap.size≤b2)(hne:b1≠b2)(hq:B4 W b1 u0 u1 u2 u3)(hr:R4 W b2 v0 v1 v2 v3)(x0 x1 x2 x3 y0 y1 y2 y3:Value) :
  let A:=((((W).setCell ⟨b1,0,none⟩ (x0)).setCell ⟨b1,1,none⟩ (x1)).setCell ⟨b1,2,none⟩ (x2)).setCell ⟨b1,3,none⟩ (x3)
  let B:=((((A).setCell ⟨b2,0,none⟩ (y0)).setCell ⟨b2,1,none⟩ (y1)).setCell ⟨b2,2,none⟩ (y2)).setCell ⟨b2,3,none⟩ (y3)
  B4 B b1 x0 x1 x2 x3∧R4 B b2 y0 y1 y2 y3∧Below w.heap.size w B∧B.heap.size=W.heap.size∧∀ b,b≠b1→b≠b2→B.heap[b]? = W.heap[b]? := by
 intro A B
 have ha:∀ b,b≠b1→A.heap[b]? = W.heap[b]? := fun b hb=>by
  show (((((W).setCell ⟨b1,0,none⟩ (x0)).setCell ⟨b1,1,none⟩ (x1)).setCell ⟨b1,2,none⟩ (x2)).setCell ⟨b1,3,none⟩ (x3)).heap[b]? = _
  rw[Below.heap_setCell _ _ _ _ hb,Below.heap_setCell _ _ _ _ hb,Below.heap_setCell _ _ _ _ hb,Below.heap_setCell _ _ _ _ hb]
 have hb2:∀ b,b≠b2→B.heap[b]? = A.heap[b]? := fun b hb=>by
  show (((((A).setCell ⟨b2,0,none⟩ (y0)).setCell ⟨b2,1,none⟩ (y1)).setCell ⟨b2,2,none⟩ (y2)).setCell ⟨b2,3,none⟩ (y3)).heap[b]? = _
  rw[Below.heap_setCell _ _ _ _ hb,Below.heap_setCell _ _ _ _ hb,Below.heap_setCell _ _ _ _ hb,Below.heap_setCell _ _ _ _ hb]
 have hA:B4 A b1 x0 x1 x2 x3:=B4.set4 hq _ _ _ _
 have hR:R4 A b2 v0 v1 v2 v3:=(ha b2 (Ne.symm hne)).trans hr
 have hsa:A.heap.size=W.heap.size:=by
  show (((((W).setCell ⟨b1,0,none⟩ (x0)).setCell ⟨b1,1,none⟩ (x1)).setCell ⟨b1,2,none⟩ (x2)).setCell ⟨b1,3,none⟩ (x3)).heap.size=_
  simp
 have hsb:B.heap.size=A.heap.size:=by
  show (((((A).setCell ⟨b2,0,none⟩ (y0)).setCell ⟨b2,1,none⟩ (y1)).setCell ⟨b2,2,none⟩ (y2)).setCell ⟨b2,3,none⟩ (y3)).heap.size=_
  simp
 exact⟨(hb2 b1 hne).trans hA,R4.set4 hR _ _ _ _,(hb.set4 h1 _ _ _ _).set4 h2 _ _ _ _,hsb.trans hsa,fun b h1 h2=>(hb2 b h2).trans (ha b h1)⟩
def ReadOk (w:World)(t:Ty)(b:Bool)(e:Ending)(w':World):Prop :=
 ∃ a c a' c',e=.returned (.tuple #[.agg #[.int .i64 t.kind,.string t.name,.int .i64 t.n,.slice a t.args.length c],.agg #[.int .i64 t.kind,.string t.name,.int .i64 t.n,.slice a' t.args.length c'],.bool b])∧Below w.heap.size w w'∧AtW t a c w'∧AtW t a' c' w'
def ReadNo (w:World)(e:Ending)(w':World):Prop:=e=.returned (.tuple #[.agg #[.int .i64 0,.string ⟨#[]⟩,.int .i64 0,.slice none 0 0],.agg #[.int .i64 0,.string ⟨#[]⟩,.int .i64 0,.slice none 0 0],.bool false])∧Below w.heap.size w w'
def lowM (t:Ty):Bool:=(metasT t).all fun m=>decide (m<600000)
theorem lowM_no {t:Ty}{k:Nat}(h:k<(metasT t).length)(hk:decide ((600000:Int)≤(metasT t)[k])=true):lowM t=false:=by
 unfold lowM
 rw[List.all_eq_false]
 refine⟨_,List.getElem_mem h,?_⟩
 have:=of_decide_eq_true hk
 simp only[decide_eq_true_eq]
 omega
theorem lowM_yes {t:Ty}(h:∀ j (hj:j<(metasT t).length),decide ((600000:Int)≤(metasT t)[j])=false):lowM t=true:=by
 unfold lowM
 rw[List.all_eq_true]
 intro x hx
 obtain⟨j,hj,rfl⟩:=List.getElem_of_mem hx
 have:=of_decide_eq_false (h j hj)
 simp only[decide_eq_true_eq]
 omega
set_option maxRecDepth 100000 in
set_option maxHeartbeats 3200000 in
theorem read_bad (w:World)(s:ByteArray)(hs:s.size≤maxLen){er:Nat}(h:parseT s.data.toList=.error er):Calls Tryz.prog 10 #[.string s] w (ReadNo w):=by
 have hz1:=(Below.refl w.heap.size w).alloc (Nat.le_refl _) (.cells #[.int .i64 0,.string ⟨#[]⟩,.int .i64 0,.slice none 0 0] 26)
 have hz:=hz1.alloc hz1.size (.cells #[.int .i64 0,.string ⟨#[]⟩,.int .i64 0,.slice none 0 0] 29)
 have q4:=(B4.new w (.int .i64 0) (.string ⟨#[]⟩) (.int .i64 0) (.slice none 0 0)).low ((Below.refl _ _).alloc (Nat.le_refl _) (.cells #[.int .i64 0,.string ⟨#[]⟩,.int .i64 0,.slice none 0 0] 29))
 have r4:=R4.new (w.alloc (.cells #[.int .i64 0,.string ⟨#[]⟩,.int .i64 0,.slice none 0 0] 26)) (.int .i64 0) (.string ⟨#[]⟩) (.int .i64 0) (.slice none 0 0)
 rw[show (w.alloc (.cells #[.int .i64 0,.string ⟨#[]⟩,.int .i64 0,.slice none 0 0] 26)).heap.size=w.heap.size+1 from by simp] at r4
 have HZ:=hid hz
 have Q4:=hid q4
 have RR4:=hid r4
 have her:((er:Int)==0)=false:=by have:=parse_er h;rw[beq_eq_false_iff_ne];omega
 have CP:=hid (fun (W:World)=>parse_bad W s hs h)
 have CR:=hid (fun (W:World)=>rparse_bad W s hs h)
 clear hz1 hz q4 r4 hs h
 go_enter Tryz.func10,Tryz.ntmps10
 go_wp2_with fail
 refine (CP.out _).mono ?_
 rintro e w1 ⟨rfl,hb1,hB1⟩
 have B1:=hid hB1
 have LE1:Hid (((w.alloc (.cells #[.int .i64 0,.string ⟨#[]⟩,.int .i64 0,.slice none 0 0] 26)).alloc (.cells #[.int .i64 0,.string ⟨#[]⟩,.int .i64 0,.slice none 0 0] 29)).heap.size≤w1.heap.size):=hid hb1.size
 have k1:=B4.new w1 (.int .i64 0) (.string ⟨#[]⟩) (.int .i64 0) (.slice none 0 0)
 have K1:=hid k1
 clear hb1 hB1 k1
 go_wp2_with fail
 refine (CR.out _).mono ?_
 rintro e w2 ⟨rfl,hb2,hB2⟩
 have k2:=R4.new w2 (.int .i64 0) (.string ⟨#[]⟩) (.int .i64 0) (.slice none 0 0)
 have K1':=hid (K1.out.low hB2)
 have B2:=hid (B1.out.trans (hB2.mono B1.out.size))
 have d0:=k2.c0
 have d1:=k2.c1
 have d2:=k2.c2
 have d3:=k2.c3
 have K2:=hid k2
 have LE2:Hid (((w.alloc (.cells #[.int .i64 0,.string ⟨#[]⟩,.int .i64 0,.slice none 0 0] 26)).alloc (.cells #[.int .i64 0,.string ⟨#[]⟩,.int .i64 0,.slice none 0 0] 29)).heap.size≤w2.heap.size):=hid (Nat.le_trans (Nat.le_trans LE1.out (by simp)) hb2.size)
 have CM:=hid (rMetas_zero (w2.alloc (.cells #[.int .i64 0,.string ⟨#[]⟩,.int .i64 0,.slice none 0 0] 29)))
 clear hb2 hB2 k2
 go_wp2_with fail
 refine CM.out.mono ?_
 rintro e w3 ⟨rfl,hb3⟩
 have k1:=K1'.out.low hb3
 have k2:=K2.out.low hb3
 have B3:=hid (B2.out.trans (hb3.mono B2.out.size))
 have hq:=Q4.out.low B3.out
 have hr:=RR4.out.low B3.out
 have HQ:=hid hq
 have HR:=hid hr
 have HB:=hid (HZ.out.trans (B3.out.mono HZ.out.size))
 have a0:=k1.c0
 have a1:=k1.c1
 have a2:=k1.c2
 have a3:=k1.c3
 have b0:=k2.c0
 have b1:=k2.c1
 have b2:=k2.c2
 have b3:=k2.c3
 have q0:=hq.c0
 have q1:=hq.c1
 have q2:=hq.c2
 have q3:=hq.c3
 have f0:=hq.fr 0
 have f1:=hq.fr 1
 have f2:=hq.fr 2
 have f3:=hq.fr 3
 have r0:=hr.c0
 have r1:=hr.c1
 have r2:=hr.c2
 have r3:=hr.c3
 have g0:=hr.fr 0
 have g1:=hr.fr 1
 have g2:=hr.fr 2
 have g3:=hr.fr 3
 have NE:Hid (¬ (w.heap.size=w1.heap.size)∧¬ (w.heap.size=w2.heap.size)∧¬ (w.heap.size+1=w1.heap.size)∧¬ (w.heap.size+1=w2.heap.size)):=hid (by
  have h0:((w.alloc (.cells #[.int .i64 0,.string ⟨#[]⟩,.int .i64 0,.slice none 0 0] 26)).alloc (.cells #[.int .i64 0,.string ⟨#[]⟩,.int .i64 0,.slice none 0 0] 29)).heap.size=w.heap.size+2:=by simp
  have h1:=LE1.out
  have h2:=LE2.out
  omega)
 have n1:¬ (w.heap.size=w2.heap.size):=NE.out.2.1
 have n2:¬ (w.heap.size+1=w1.heap.size):=NE.out.2.2.1
 have n3:¬ (w.heap.size+1=w2.heap.size):=NE.out.2.2.2
 have n4:¬ (w.heap.size=w1.heap.size):=NE.out.1
 clear hb3 k1 k2 hq hr d0 d1 d2 d3
 obtain⟨wo,hwo⟩:∃ wo:World,wo=w3:=⟨_,rfl⟩
 subst hwo
 go_wp2
 go_loopw [10] (fun iv wr=>iv=.int .i64 0∧wr=wo) (fun _ _=>0)
 case atStart=>exact⟨rfl,rfl⟩
 case round =>
  obtain⟨rfl,rfl⟩:=hrel
  go_wp2
  go_region
  all_goals
   go_wp2
   obtain⟨x5,y5,hB5,hsz5,hoff5⟩:=read_set HB.out (Nat.le_refl _) (Nat.le_succ _) (by omega) HQ.out HR.out (.int .i64 0) (.string ⟨#[]⟩) (.int .i64 0) (.slice none 0 0) (.int .i64 0) (.string ⟨#[]⟩) (.int .i64 0) (.slice none 0 0)
   refine bodyPost_ret (v:=.tuple #[.agg #[.int .i64 0,.string ⟨#[]⟩,.int .i64 0,.slice none 0 0],.agg #[.int .i64 0,.string ⟨#[]⟩,.int .i64 0,.slice none 0 0],.bool false]) (by simp[results,Tryz.results10,go_sem,x5.c0,x5.c1,x5.c2,x5.c3,y5.c0,y5.c1,y5.c2,y5.c3]) rfl ?_
   exact⟨rfl,hB5.drew⟩
set_option maxRecDepth 100000 in
set_option maxHeartbeats 6400000 in
theorem read_ok (w:World)(s:ByteArray)(hs:s.size≤maxLen){t:Ty}(h:parseT s.data.toList=.ok t):Calls Tryz.prog 10 #[.string s] w (ReadOk w t (lowM t&&decide (s.size≤400))):=by
 have hz1:=(Below.refl w.heap.size w).alloc (Nat.le_refl _) (.cells #[.int .i64 0,.string ⟨#[]⟩,.int .i64 0,.slice none 0 0] 26)
 have hz:=hz1.alloc hz1.size (.cells #[.int .i64 0,.string ⟨#[]⟩,.int .i64 0,.slice none 0 0] 29)
 have q4:=(B4.new w (.int .i64 0) (.string ⟨#[]⟩) (.int .i64 0) (.slice none 0 0)).low ((Below.refl _ _).alloc (Nat.le_refl _) (.cells #[.int .i64 0,.string ⟨#[]⟩,.int .i64 0,.slice none 0 0] 29))
 have r4:=R4.new (w.alloc (.cells #[.int .i64 0,.string ⟨#[]⟩,.int .i64 0,.slice none 0 0] 26)) (.int .i64 0) (.string ⟨#[]⟩) (.int .i64 0) (.slice none 0 0)
 rw[show (w.alloc (.cells #[.int .i64 0,.string ⟨#[]⟩,.int .i64 0,.slice none 0 0] 26)).heap.size=w.heap.size+1 from by simp] at r4
 have HZ:=hid hz
 have Q4:=hid q4
 have RR4:=hid r4
 have SM:=hid (small_parse h)
 have hsn:s.size≤9223372036854775807:=by unfold maxLen at hs;exact hs
 have CP:=hid (fun (W:World)=>parse_any W s hs)
 have CR:=hid (fun (W:World)=>rparse_any W s hs)
 rw[h] at CP CR
 clear hz1 hz q4 r4 hs h
 go_enter Tryz.func10,Tryz.ntmps10
 go_wp2_with fail
 refine (CP.out _).mono ?_
 rintro e w1 ⟨hb1,a,c,rfl,hA1⟩
 have hB1:=hb1.trans (((Below.refl _ _).alloc (Nat.le_refl _) (.cells #[.int .i64 t.kind,.string t.name,.int .i64 t.n,.slice a t.args.length c] 26)).mono hb1.size)
 have B1:=hid hB1
 have A1:=hid hA1
 have LE1:Hid (((w.alloc (.cells #[.int .i64 0,.string ⟨#[]⟩,.int .i64 0,.slice none 0 0] 26)).alloc (.cells #[.int .i64 0,.string ⟨#[]⟩,.int .i64 0,.slice none 0 0] 29)).heap.size≤w1.heap.size):=hid hb1.size
 have k1:=B4.new w1 (.int .i64 t.kind) (.string t.name) (.int .i64 t.n) (.slice a t.args.length c)
 have K1:=hid k1
 clear hb1 hB1 k1 hA1
 unfold tv
 go_wp2_with fail
 refine (CR.out _).mono ?_
 rintro e w2 ⟨hb2,a2,c2,rfl,hA2⟩
 have hB2:=hb2.trans (((Below.refl _ _).alloc (Nat.le_refl _) (.cells #[.int .i64 t.kind,.string t.name,.int .i64 t.n,.slice a2 t.args.length c2] 29)).mono hb2.size)
 have A2:=hid hA2
 have k2:=R4.new w2 (.int .i64 t.kind) (.string t.name) (.int .i64 t.n) (.slice a2 t.args.length c2)
 have K1':=hid (K1.out.low hB2)
 have B2:=hid (B1.out.trans (hB2.mono B1.out.size))
 have d0:=k2.c0
 have d1:=k2.c1
 have d2:=k2.c2
 have d3:=k2.c3
 have K2:=hid k2
 have LE2:Hid (((w.alloc (.cells #[.int .i64 0,.string ⟨#[]⟩,.int .i64 0,.slice none 0 0] 26)).alloc (.cells #[.int .i64 0,.string ⟨#[]⟩,.int .i64 0,.slice none 0 0] 29)).heap.size≤w2.heap.size∧w1.heap.size<w2.heap.size):=hid (by have:=hb2.size;have:=LE1.out;simp at *;omega)
 have A1':=hid ((A1.out.keep (A:=w1) (B:=w2.alloc (.cells #[.int .i64 t.kind,.string t.name,.int .i64 t.n,.slice a2 t.args.length c2] 29)) fun b hb=>(hB2.block b (by have:=hb.2;simp;omega)).trans (heap_alloc_old w1 _ hb.2)))
 have A2':=hid (A2.out.keep (A:=w2) (B:=w2.alloc (.cells #[.int .i64 t.kind,.string t.name,.int .i64 t.n,.slice a2 t.args.length c2] 29)) fun b hb=>heap_alloc_old w2 _ hb.2)
 have CM:=hid (rMetas_any t _ a2 c2 (w2.alloc (.cells #[.int .i64 t.kind,.string t.name,.int .i64 t.n,.slice a2 t.args.length c2] 29)) A2'.out (fun b hb=>by have:=hb.2;simp;omega) SM.out.1.1 (Nat.le_trans SM.out.2 (by decide)))
 clear hb2 hB2 k2 hA2 A1 A2
 unfold tv at CM ⊢
 go_wp2_with fail
 refine CM.out.mono ?_
 rintro e w3 ⟨mv,rfl,hmv,hb3⟩
 obtain⟨⟨ma,mc,rfl,hm1,hm2,hmc⟩,_⟩:=hmv
 have k1:=K1'.out.low hb3
 have k2:=K2.out.low hb3
 have B3:=hid (B2.out.trans (hb3.mono B2.out.size))
 have hq:=Q4.out.low B3.out
 have hr:=RR4.out.low B3.out
 have HQ:=hid hq
 have HR:=hid hr
 have HB:=hid (HZ.out.trans (B3.out.mono HZ.out.size))
 have HMC:=hid hmc
 have LE3:Hid (w2.heap.size<w3.heap.size):=hid (by have:=hb3.size;simp at this;omega)
 have A1'':=hid (A1'.out.keep (A:=w2.alloc (.cells #[.int .i64 t.kind,.string t.name,.int .i64 t.n,.slice a2 t.args.length c2] 29)) (B:=w3) fun b hb=>hb3.block b (by have:=hb.2;have:=LE2.out.2;simp;omega))
 have A2'':=hid (A2'.out.keep (A:=w2.alloc (.cells #[.int .i64 t.kind,.string t.name,.int .i64 t.n,.slice a2 t.args.length c2] 29)) (B:=w3) fun b hb=>hb3.block b (by have:=hb.2;simp;omega))
 have a0:=k1.c0
 have a1:=k1.c1
 have a2':=k1.c2
 have a3:=k1.c3
 have b0:=k2.c0
 have b1:=k2.c1
 have b2:=k2.c2
 have b3:=k2.c3
 have q0:=hq.c0
 have q1:=hq.c1
 have q2:=hq.c2
 have q3:=hq.c3
 have f0:=hq.fr 0
 have f1:=hq.fr 1
 have f2:=hq.fr 2
 have f3:=hq.fr 3
 have r0:=hr.c0
 have r1:=hr.c1
 have r2:=hr.c2
 have r3:=hr.c3
 have g0:=hr.fr 0
 have g1:=hr.fr 1
 have g2:=hr.fr 2
 have g3:=hr.fr 3
 have NE:Hid (¬ (w.heap.size=w1.heap.size)∧¬ (w.heap.size=w2.heap.size)∧¬ (w.heap.size+1=w1.heap.size)∧¬ (w.heap.size+1=w2.heap.size)):=hid (by
  have h0:((w.alloc (.cells #[.int .i64 0,.string ⟨#[]⟩,.int .i64 0,.slice none 0 0] 26)).alloc (.cells #[.int .i64 0,.string ⟨#[]⟩,.int .i64 0,.slice none 0 0] 29)).heap.size=w.heap.size+2:=by simp
  have h1:=LE1.out
  have h2:=LE2.out.1
  omega)
 have n1:¬ (w.heap.size=w2.heap.size):=NE.out.2.1
 have n2:¬ (w.heap.size+1=w1.heap.size):=NE.out.2.2.1
 have n3:¬ (w.heap.size+1=w2.heap.size):=NE.out.2.2.2
 have n4:¬ (w.heap.size=w1.heap.size):=NE.out.1
 clear hb3 k1 k2 hq hr d0 d1 d2 d3 hmc
 obtain⟨wo,hwo⟩:∃ wo:World,wo=w3:=⟨_,rfl⟩
 subst hwo
 have AF:Hid (∀ W:World,W.heap.size=wo.heap.size→(∀ b,b≠w.heap.size→b≠w.heap.size+1→W.heap[b]? = wo.heap[b]?)→AtW t a c W.drew):=hid (fun W h1 h2=>(A1''.out.keep (A:=wo) (B:=W.drew) fun b hb=>h2 b (by have:=hb.1;simp at this;omega) (by have:=hb.1;simp at this;omega)).mono fun b hb=>by
  show b<W.heap.size
  rw[h1];have:=hb.2;have:=LE2.out.2;have:=LE3.out;omega)
 have AG:Hid (∀ W:World,W.heap.size=wo.heap.size→(∀ b,b≠w.heap.size→b≠w.heap.size+1→W.heap[b]? = wo.heap[b]?)→AtW t a2 c2 W.drew):=hid (fun W h1 h2=>(A2''.out.keep (A:=wo) (B:=W.drew) fun b hb=>h2 b (by have:=hb.1;have:=LE1.out;simp at *;omega) (by have:=hb.1;have:=LE1.out;simp at *;omega)).mono fun b hb=>by
  show b<W.heap.size
  rw[h1];have:=hb.2;have:=LE3.out;omega)
 have ML:Hid ((metasT t).length≤1099511627776):=hid (by omega)
 clear A1' A1'' A2' A2'' LE1 LE2 LE3 NE
 generalize hms:metasT t=ms at *
 have hml:=ML.out
 go_wp2
 go_loopw [10] (fun iv wr=>∃ k:Nat,iv=.int .i64 k∧k≤ms.length∧(∀ j (hj:j<ms.length),j<k→decide ((600000:Int)≤ms[j])=false)∧wr=wo) (fun iv _=>ms.length - (intOf iv).toNat)
 case atStart=>exact⟨0,rfl,Nat.zero_le _,fun j _ hj=>by omega,rfl⟩
 case round =>
  obtain⟨k,rfl,hk,hno,rfl⟩:=hrel
  have NO:=hid hno
  clear hno
  by_cases hi:k<ms.length
  ·have z0:(0:Int)≤(k:Int):=by omega
   have z1:(k:Int)<(ms.length:Int):=by omega
   obtain⟨b,off,rfl,_,hcc⟩:=HMC.out.resolve_left (by intro e;rw[e] at hi;simp at hi)
   have hcell:=hcc k hi
   clear hcc
   cases hge:decide ((600000:Int)≤ms[k]) with
   | true =>
    have LO:Hid (lowM t=false):=hid (by subst hms;exact lowM_no hi hge)
    clear hms
    go_wp2
    go_region
    all_goals
     go_wp2
     obtain⟨x5,y5,hB5,hsz5,hoff5⟩:=read_set HB.out (Nat.le_refl _) (Nat.le_succ _) (by omega) HQ.out HR.out (.int .i64 t.kind) (.string t.name) (.int .i64 t.n) (.slice a t.args.length c) (.int .i64 t.kind) (.string t.name) (.int .i64 t.n) (.slice a2 t.args.length c2)
     refine bodyPost_ret (v:=.tuple #[.agg #[.int .i64 t.kind,.string t.name,.int .i64 t.n,.slice a t.args.length c],.agg #[.int .i64 t.kind,.string t.name,.int .i64 t.n,.slice a2 t.args.length c2],.bool false]) (by simp[results,Tryz.results10,go_sem,x5.c0,x5.c1,x5.c2,x5.c3,y5.c0,y5.c1,y5.c2,y5.c3]) rfl ?_
     exact (by rw[LO.out,Bool.false_and];exact⟨a,c,a2,c2,rfl,hB5.drew,AF.out _ hsz5 hoff5,AG.out _ hsz5 hoff5⟩)
   | false =>
    have NO2:=hid (show ∀ j (hj:j<ms.length),j<k+1→decide ((600000:Int)≤ms[j])=false from fun j hj hjk=>by
     rcases Nat.lt_or_ge j k with h|h
     ·exact NO.out j hj h
     ·obtain rfl:j=k:=by omega
      exact hge)
    go_wp2
    go_roundw
    case rel=>exact⟨k+1,by go_num,by omega,NO2.out,by trivial⟩
    case measure=>simp[intOf];omega
  ·obtain rfl:k=ms.length:=by omega
   have LO:Hid (lowM t=true):=hid (by subst hms;exact lowM_yes fun j hj=>NO.out j hj hj)
   clear hms
   cases hle:decide ((s.size:Int)≤400) with
   | true =>
    have SE:Hid (decide (s.size≤400)=true):=hid (by have:=of_decide_eq_true hle;exact decide_eq_true (by omega))
    go_wp2
    go_region
    all_goals
     go_wp2
     obtain⟨x5,y5,hB5,hsz5,hoff5⟩:=read_set HB.out (Nat.le_refl _) (Nat.le_succ _) (by omega) HQ.out HR.out (.int .i64 t.kind) (.string t.name) (.int .i64 t.n) (.slice a t.args.length c) (.int .i64 t.kind) (.string t.name) (.int .i64 t.n) (.slice a2 t.args.length c2)
     refine bodyPost_ret (v:=.tuple #[.agg #[.int .i64 t.kind,.string t.name,.int .i64 t.n,.slice a t.args.length c],.agg #[.int .i64 t.kind,.string t.name,.int .i64 t.n,.slice a2 t.args.length c2],.bool true]) (by simp[results,Tryz.results10,go_sem,x5.c0,x5.c1,x5.c2,x5.c3,y5.c0,y5.c1,y5.c2,y5.c3]) rfl ?_
     exact (by rw[LO.out,SE.out,Bool.true_and];exact⟨a,c,a2,c2,rfl,hB5.drew,AF.out _ hsz5 hoff5,AG.out _ hsz5 hoff5⟩)
   | false =>
    have SE:Hid (decide (s.size≤400)=false):=hid (by have:=of_decide_eq_false hle;exact decide_eq_false (by omega))
    go_wp2
    go_region
    all_goals
     go_wp2
     obtain⟨x5,y5,hB5,hsz5,hoff5⟩:=read_set HB.out (Nat.le_refl _) (Nat.le_succ _) (by omega) HQ.out HR.out (.int .i64 t.kind) (.string t.name) (.int .i64 t.n) (.slice a t.args.length c) (.int .i64 t.kind) (.string t.name) (.int .i64 t.n) (.slice a2 t.args.length c2)
     refine bodyPost_ret (v:=.tuple #[.agg #[.int .i64 t.kind,.string t.name,.int .i64 t.n,.slice a t.args.length c],.agg #[.int .i64 t.kind,.string t.name,.int .i64 t.n,.slice a2 t.args.length c2],.bool false]) (by simp[results,Tryz.results10,go_sem,x5.c0,x5.c1,x5.c2,x5.c3,y5.c0,y5.c1,y5.c2,y5.c3]) rfl ?_
     exact (by rw[LO.out,SE.out,Bool.true_and];exact⟨a,c,a2,c2,rfl,hB5.drew,AF.out _ hsz5 hoff5,AG.out _ hsz5 hoff5⟩)
end Go.Proofs.YtofllmemmggapaaGreatDoor.Tp

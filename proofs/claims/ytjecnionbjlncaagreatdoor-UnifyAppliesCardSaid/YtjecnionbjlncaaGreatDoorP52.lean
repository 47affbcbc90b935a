/- Packed. -/
import Derived.Test.YtjecnionbjlncaaGreatDoorP51
import Derived.Test.YtjecnionbjlncaaGreatDoorP47
set_option maxRecDepth 100000
set_option maxHeartbeats 6400000
namespace Go.Proofs.YtjecnionbjlncaaGreatDoor.Tp
section
open Go.RowKit
theorem lp_ (t:Ty)(S:Nat→Prop)(a:OA_)(c:Nat)(w:World)(hA:aa_ S w (.slice a t.args.length c) t.args)(hS:∀ b,S b→b<w.heap.size)(hs:Std t)(hw:Wf (cf_ t))(hl:(ac_ (cf_ t)).length≤4500000000000)(hsz:t.size≤1000000000000)(hmul:t.size*((af_ t).length+1)≤100000000000000000) :
  Calls Tryz.prog 17 #[tv t a c] w (bh_ w (aO_ t)):=by
 have hz:Below w.heap.size w (w.alloc (.cells #[.int .i64 t.kind,.string t.name,.int .i64 t.n,.slice a t.args.length c] 43)):=ar_ w (.cells #[.int .i64 t.kind,.string t.name,.int .i64 t.n,.slice a t.args.length c] 43);have kt:=R4.new w (.int .i64 t.kind) (.string t.name) (.int .i64 t.n) (.slice a t.args.length c);have hAt:AtW t a c (w.alloc (.cells #[.int .i64 t.kind,.string t.name,.int .i64 t.n,.slice a t.args.length c] 43)):=(hA.keep fun b hb=>hz.block b (hS b hb)).mono fun b hb=>aZ_ (hS b hb) hz.size;have hcan:=dx_ t hs;rw[qq_] at hcan;have CF:=hid (fun (W:World) (h:AtW t a c W)=>gh_ t _ a c W h (fun _ h=>h) (mg_ t hs) (by omega));have CNU:=hid (fun (W:World) (vb:Value) (h:AtW t a c W) (hb:a5_ W vb (af_ t))=>iG_ ⟨#[120]⟩ (by decide) (af_ t) t a c vb W h hs hb hmul (by omega));have CPR:=hid (fun (W:World) (a':OA_) (c':Nat) (h:AtW (cf_ t) a' c' W)=>lg_ (cf_ t) _ a' c' W h (fun _ h=>h) hw hl);unfold aO_;rw[hcan] at CPR ⊢;generalize hr:cnT (aI_ ⟨#[120]⟩) (af_ t) [] 0 (dbT [] t)=r at *;obtain⟨y,k2⟩:=r;simp only at CPR ⊢;have AT:=hid hAt;have HZ:=hid hz;have KT:=hid kt;clear hA hS hs hw hl hsz hmul hcan hr hAt hz kt;unfold tv at CF CPR ⊢;go_enter Tryz.func17,Tryz.ntmps17;go_wp2;generalize w.alloc (.cells #[.int .i64 t.kind,.string t.name,.int .i64 t.n,.slice a t.args.length c] 43)=W0 at *;have HD:=hid (Below.refl W0.heap.size W0).drew;have HDA:Hid (Below W0.heap.size W0 (W0.alloc (.cells #[.int .i64 0,.string ⟨#[]⟩,.int .i64 0,.slice none 0 0] 43)).drew):=hid (ar_ W0 _).drew;have KK:Hid (∀ W:World,Below W0.heap.size W0 W→W.cell? ⟨w.heap.size,0,none⟩=some (.int .i64 t.kind)∧W.cell? ⟨w.heap.size,1,none⟩=some (.string t.name)∧W.cell? ⟨w.heap.size,2,none⟩=some (.int .i64 t.n)∧W.cell? ⟨w.heap.size,3,none⟩=some (.slice a t.args.length c)):=hid (fun W h=>⟨(KT.out.low h).c0,(KT.out.low h).c1,(KT.out.low h).c2,(KT.out.low h).c3⟩)
 go_upto_region 1 with fail
 go_cut [3,4] from 6 to 12 (fun xp kv wx=>c6_ W0 y k2 xp kv wx)
 case first =>
  obtain⟨k0,k1,k2,k3⟩:=KT.out.c03;obtain⟨l0,l1,l2,l3⟩:=KK.out (W0.alloc (.cells #[.int .i64 0,.string ⟨#[]⟩,.int .i64 0,.slice none 0 0] 43)) (ar_ W0 _)
  go_region_law (first
   | (go_simp;go_at_call 44;(with_reducible refine (CF.out _ (AT.out.low HD.out)).mono ?_);rintro e w1 ⟨v,rfl,h1,hb1⟩;have HX1:=hid (HD.out.trans (hb1.mono HD.out.size));obtain⟨e0,e1,e2,e3⟩:=KK.out _ HX1.out;have HX2:=hid (HX1.out.alloc HX1.out.size (.cells #[.int .i64 0,.string ⟨#[]⟩,.int .i64 0,.slice none 0 0] 43));obtain⟨j0,j1,j2,j3⟩:=KK.out _ HX2.out;have CN1:=hid (CNU.out w1 v (AT.out.low HX1.out) h1);have CN2:=hid (CNU.out (w1.alloc (.cells #[.int .i64 0,.string ⟨#[]⟩,.int .i64 0,.slice none 0 0] 43)) v (AT.out.low HX2.out) (h1.low (ar_ _ _)));clear h1 hb1)
   | (go_simp;go_at_call 44;(with_reducible refine (CF.out _ (AT.out.low HDA.out)).mono ?_);rintro e w1 ⟨v,rfl,h1,hb1⟩;have HX3:=hid (HDA.out.trans (hb1.mono HDA.out.size));obtain⟨e0,e1,e2,e3⟩:=KK.out _ HX3.out;have kz:=R4.low (R4.low (R4.new W0 (.int .i64 0) (.string ⟨#[]⟩) (.int .i64 0) (.slice none 0 0)) (Below.refl _ _).drew) hb1;have KZ3:=hid kz;have CN3:=hid (CNU.out w1 v (AT.out.low HX3.out) h1);have LT3:Hid (W0.heap.size<w1.heap.size):=hid kz.lt;clear h1 hb1 kz)
   | (go_simp;go_at_call 43;(with_reducible refine CN1.out.mono ?_);rintro e w4 ⟨a4,c4,rfl,hA4,hb4⟩;have HB4:Hid (Below W0.heap.size W0 w4):=hid (HX1.out.trans (hb4.mono HX1.out.size));have HA4:Hid (aa_ (In W0.heap.size w4.heap.size) w4 (.slice a4 y.args.length c4) y.args):=hid (hA4.mono fun b hb=>⟨bN_ HX1.out.size hb.1,hb.2⟩);clear hA4 hb4;unfold tv)
   | (go_simp;go_at_call 43;(with_reducible refine CN2.out.mono ?_);rintro e w4 ⟨a4,c4,rfl,hA4,hb4⟩;have kz:=R4.low (R4.new w1 (.int .i64 0) (.string ⟨#[]⟩) (.int .i64 0) (.slice none 0 0)) hb4;have s0:=kz.c0;have s1:=kz.c1;have s2:=kz.c2;have s3:=kz.c3;have g0:=kz.fr 0;have g1:=kz.fr 1;have g2:=kz.fr 2;have g3:=kz.fr 3;have KZ:=hid kz;have HB4:Hid (Below W0.heap.size W0 w4):=hid (HX2.out.trans (hb4.mono HX2.out.size));have LX:Hid (W0.heap.size≤w1.heap.size):=hid HX1.out.size;have HA5:Hid (aa_ (fun b=>W0.heap.size≤b∧b<w4.heap.size∧b≠w1.heap.size) w4 (.slice a4 y.args.length c4) y.args):=hid (hA4.mono fun b hb=>⟨bN_ HX2.out.size hb.1,hb.2,by have:=hb.1;simp at this;omega⟩);clear hA4 hb4 kz;unfold tv)
   | (go_simp;go_at_call 43;(with_reducible refine CN3.out.mono ?_);rintro e w4 ⟨a4,c4,rfl,hA4,hb4⟩;have kz:=KZ3.out.low hb4;have s0:=kz.c0;have s1:=kz.c1;have s2:=kz.c2;have s3:=kz.c3;have g0:=kz.fr 0;have g1:=kz.fr 1;have g2:=kz.fr 2;have g3:=kz.fr 3;have KZ:=hid kz;have HB4:Hid (Below W0.heap.size W0 w4):=hid (HX3.out.trans (hb4.mono HX3.out.size));have LX:Hid (W0.heap.size≤W0.heap.size):=hid (aD_ _);have HA5:Hid (aa_ (fun b=>W0.heap.size≤b∧b<w4.heap.size∧b≠W0.heap.size) w4 (.slice a4 y.args.length c4) y.args):=hid (hA4.mono fun b hb=>⟨bN_ HX3.out.size hb.1,hb.2,by have:=hb.1;have:=LT3.out;omega⟩);clear hA4 hb4 kz;unfold tv))
  all_goals
   go_wp2_with fail
   go_meet
   first
    | (with_reducible exact c6_.new HB4.out HA4.out)
    | (with_reducible exact c6_.at_ HB4.out HA5.out KZ.out LX.out)
 obtain⟨bx,a4,c4,rfl,rfl,kx,hA4,hB4⟩:=hcut;obtain⟨x0,x1,x2,x3⟩:=kx.c03;have CP:=hid (CPR.out wc a4 c4 (hA4.mono fun b hb=>hb.2));have HB:=hid (HZ.out.trans (hB4.mono HZ.out.size));clear hA4 hB4 kx;go_wp2_with fail;refine CP.out.mono ?_;rintro e w5 ⟨rfl,hb5⟩;have HB5:=hid (HB.out.trans (hb5.mono HB.out.size));clear hb5;go_wp2;go_ret;exact⟨rfl,HB5.out⟩
structure n8_ (t:Ty):Prop where
 std:Std t
 wf:Wf (cf_ t)
 len:(ac_ (cf_ t)).length≤4500000000000
 size:t.size≤1000000000000
 mul:t.size*((af_ t).length+1)≤100000000000000000
theorem nJ_ {NL:List ByteArray}{fr:Nat}{y z:Ty}(hy:Std y)(hz:Ni NL fr z)(hl:NL.length+fr≤3000000)(e:dbT [] y=dbT [] z):n8_ y:=by
 have hc:=eS_ hy hz.st e;have hsm:=hz.small hl;have hfz:=f8_ hz.st hz.vn;have hzs:=hz.sz;have hfy:af_ y=af_ z:=by rw[hU_ y hy,hU_ z hz.st,e]
 have hys:y.size=(dbT [] z).size:=by rw[← bI_ y hy [],e]
 unfold LIM at hzs;have hmul:y.size*((af_ y).length+1)≤2013265920*3000001:=Nat.mul_le_mul (by omega) (by rw[hfy];omega);have KP:=e5_ z.depth (af_ z) z 0 (aD_ _) hz.gd (by have:=hsm.2.1;omega) (by
  rw[← hfy,← bI_ z hz.st [],← hys];omega)
 refine⟨hy,by rw[hc];exact KP.2.2.2.2.1.1,by rw[hc];exact eT_ hsm,by omega,by omega⟩
theorem tr_ {t:Ty}{a:OA_}{c:Nat}{W:World}(R:AtW t a c W)(h:n8_ t) :
  Calls Tryz.prog 17 #[.agg #[.int .i64 t.kind,.string t.name,.int .i64 t.n,.slice a t.args.length c]] W (bh_ W (aO_ t)) :=
 lp_ t _ a c W R (fun _ h=>h) h.std h.wf h.len h.size h.mul
theorem lo_ (nm:ByteArray)(u t:Ty)(a ua:OA_)(c uc:Nat)(w:World)(hA:AtW t a c w)(hU:AtW u ua uc w)(hs:Std t)(hu:Std u)(hsz:t.size≤1000000000000)(hus:u.size≤1000000000000)(hbl:(i9_ nm u t).length≤1000000000)(hmul:t.size*((i9_ nm u t).length+1)≤100000000000000000) :
  Calls Tryz.prog 108 #[tv t a c,tv u ua uc,.string nm] w (TP (fun _=>False) (dT_ nm u t) w):=by
 have M:=fh_.new w t u a ua c uc;have hAt:=hA.low M.hz;have hUt:=hU.low M.hz;have CFU:=hid (fun (W:World) (h:AtW u ua uc W)=>gh_ u _ ua uc W h (fun _ h=>h) (mg_ u hu) (by omega));have CFT:=hid (fun (W:World) (h:AtW t a c W)=>gh_ t _ a c W h (fun _ h=>h) (mg_ t hs) (by omega));have CNU:=hid (fun (W:World) (vb:Value) (h:AtW t a c W) (hb:a5_ W vb (i9_ nm u t))=>iG_ ⟨#[121]⟩ (by decide) (i9_ nm u t) t a c vb W h hs hb hmul (by omega));have BE:i9_ nm u t=(nm :: af_ u)++af_ t:=rfl;have BL:Hid ((nm :: af_ u).length≤1099511627776∧((nm :: af_ u)++af_ t).length≤1099511627776):=hid (by rw[BE] at hbl;simp at hbl ⊢;omega);unfold dT_;rw[BE] at CNU ⊢;generalize hr:cnT (aI_ ⟨#[121]⟩) ((nm :: af_ u)++af_ t) [] 0 (dbT [] t)=r at *;obtain⟨y,k2⟩:=r;have MH:=hid M;have AT:=hid hAt;have UT:=hid hUt;clear hA hU hs hu hsz hus M hAt hUt hbl hmul BE hr;unfold tv at CFU CFT ⊢;go_enter Tryz.func108,Tryz.ntmps108;go_wp2;generalize ((w.alloc (.cells #[.int .i64 t.kind,.string t.name,.int .i64 t.n,.slice a t.args.length c] 43)).alloc (.cells #[.int .i64 u.kind,.string u.name,.int .i64 u.n,.slice ua u.args.length uc] 43)).alloc (.cells #[.int .i64 0,.string ⟨#[]⟩,.int .i64 0,.slice none 0 0] 43)=W0 at *;have HD:=hid (Below.refl W0.heap.size W0).drew;have HDA:Hid (Below W0.heap.size W0 (W0.alloc (.cells #[.string nm] 9)).drew):=hid (ar_ W0 _).drew;have KK:Hid (∀ W:World,Below W0.heap.size W0 W→W.cell? ⟨w.heap.size,0,none⟩=some (.int .i64 t.kind)∧W.cell? ⟨w.heap.size,1,none⟩=some (.string t.name)∧W.cell? ⟨w.heap.size,2,none⟩=some (.int .i64 t.n)∧W.cell? ⟨w.heap.size,3,none⟩=some (.slice a t.args.length c)∧W.cell? ⟨w.heap.size+1,0,none⟩=some (.int .i64 u.kind)∧W.cell? ⟨w.heap.size+1,1,none⟩=some (.string u.name)∧W.cell? ⟨w.heap.size+1,2,none⟩=some (.int .i64 u.n)∧W.cell? ⟨w.heap.size+1,3,none⟩=some (.slice ua u.args.length uc)):=hid (fun W h=>⟨(MH.out.low h).kt.c0,(MH.out.low h).kt.c1,(MH.out.low h).kt.c2,(MH.out.low h).kt.c3,(MH.out.low h).ku.c0,(MH.out.low h).ku.c1,(MH.out.low h).ku.c2,(MH.out.low h).ku.c3⟩)
 go_upto_region 1 with fail
 go_cut [7] from 10 to 17 (fun s wx=>tp_ W0 ((nm :: af_ u)++af_ t) s wx)
 case first =>
  obtain⟨k0,k1,k2',k3,k4,k5,k6,k7⟩:=KK.out W0 (Below.refl _ _)
  go_region_held3 (fun w'=>w'.cell? ⟨w.heap.size,0,none⟩=some (.int .i64 t.kind)∧w'.cell? ⟨w.heap.size,1,none⟩=some (.string t.name)∧w'.cell? ⟨w.heap.size,2,none⟩=some (.int .i64 t.n)∧w'.cell? ⟨w.heap.size,3,none⟩=some (.slice a t.args.length c)∧w'.cell? ⟨w.heap.size+1,0,none⟩=some (.int .i64 u.kind)∧w'.cell? ⟨w.heap.size+1,1,none⟩=some (.string u.name)∧w'.cell? ⟨w.heap.size+1,2,none⟩=some (.int .i64 u.n)∧w'.cell? ⟨w.heap.size+1,3,none⟩=some (.slice ua u.args.length uc))
   (first|(with_reducible exact KK.out _ HX4.out)|(with_reducible exact KK.out _ HX3.out)|(with_reducible exact KK.out _ HX2.out)|(with_reducible exact KK.out _ HXA.out)|(with_reducible exact KK.out _ HX1.out)|(with_reducible exact KK.out _ HDA.out)|(with_reducible exact KK.out _ HD.out)|go_keep)
   (first
    | (go_at_call 44;(with_reducible refine (CFU.out _ (UT.out.low HD.out)).mono ?_);rintro e w1 ⟨v,rfl,h1,hb1⟩;have HX1:=hid (HD.out.trans (hb1.mono HD.out.size));have HXA:Hid (Below W0.heap.size W0 (w1.alloc (.cells #[.string nm] 9))):=hid (HX1.out.alloc HX1.out.size (.cells #[.string nm] 9));have A1:=hid (nK_ 89 (W:=W0) HXA.out (heap_alloc_new w1 (.cells #[.string nm] 9)) HX1.out.size (h1.low (ar_ _ _)));clear h1 hb1)
    | (go_at_call 44;(with_reducible refine (CFU.out _ (UT.out.low HDA.out)).mono ?_);rintro e w1 ⟨v,rfl,h1,hb1⟩;have HX1:=hid (HDA.out.trans (hb1.mono HDA.out.size));have A1:=hid (nK_ 89 (W:=W0) (b:=W0.heap.size) HX1.out ((hb1.block _ (by simp)).trans (heap_alloc_new W0 (.cells #[.string nm] 9))) (aD_ _) h1);clear h1 hb1)
    | (refine as_ (by rfl) _ _ _ (by rfl) (by rfl) (by rfl) A1.out ?_;rintro v1 w2 ⟨ho,hx⟩;obtain⟨oa,oc,hv⟩:=ay_ ho;rw[List.length_cons] at hv;subst hv;have HX2:=hid hx;have HO:=hid ho;have CF2:=hid (CFT.out w2 (AT.out.low hx));clear ho hx A1)
    | (go_at_call 44;(with_reducible refine CF2.out.mono ?_);rintro e w3 ⟨v,rfl,h1,hb1⟩;have HX3:=hid (HX2.out.trans (hb1.mono HX2.out.size));have A2:=hid (rP_ 89 (W:=W0) HX3.out (aB_ HO.out fun b hb=>hb1.block b (HO.out.lt b hb).2) BL.out.1 h1);clear h1 hb1)
    | (refine as_ (by rfl) _ _ _ (by rfl) (by rfl) (by rfl) A2.out ?_;rintro v4 w4 ⟨ho,hx⟩;have HX4:=hid hx;have HO4:=hid ho;clear ho hx))
  all_goals
   go_wp2_with fail
   go_meet
   exact⟨.own HO4.out BL.out.2,HX4.out⟩
 obtain⟨hbs,hB⟩:=hcut;obtain⟨k0,k1,k2',k3,_⟩:=KK.out wc hB;have CN:=hid (CNU.out wc _ (AT.out.low hB) hbs);have M2:=hid (MH.out.low hB);clear hbs hB;go_wp2_with fail;refine CN.out.mono ?_;rintro e w4 ⟨a4,c4,rfl,hA4,hb4⟩;have M3:=hid (M2.out.low hb4);have LW:=hid hb4.size;have AA:=hid hA4;have hM4:=M3.out.low (ar_ _ (.cells #[.int .i64 y.kind,.string y.name,.int .i64 y.n,.slice a4 y.args.length c4] 43));obtain⟨r0,r1,r2,r3⟩:=hM4.kr.c03;obtain⟨f0,f1,f2,f3⟩:=hM4.kr.f03;have M4:=hid hM4;clear hA4 hb4 hM4 k0 k1 k2' k3;unfold tv;go_wp2;have q:=M4.out.set (.int .i64 y.kind) (.string y.name) (.int .i64 y.n) (.slice a4 y.args.length c4);refine bodyPost_ret (v:=.agg #[.int .i64 y.kind,.string y.name,.int .i64 y.n,.slice a4 y.args.length c4]) (by simp[results,Tryz.results108,go_sem,q.2.2.1.c0,q.2.2.1.c1,q.2.2.1.c2,q.2.2.1.c3]) rfl ?_;refine⟨a4,c4,rfl,(AA.out.keep fun b hb=>?_).mono fun b hb=>.inr ⟨?_,?_⟩,q.2.2.2⟩
 ·have hne:b≠w.heap.size+1+1:=by have h1:=hb.1;have h2:=M2.out.lt;omega
  rw[au_ _ _ _ _ hne,au_ _ _ _ _ hne,au_ _ _ _ _ hne,au_ _ _ _ _ hne];exact heap_alloc_old _ _ hb.2
 ·have h1:=hb.1;have h2:=M2.out.lt;omega
 ·have h1:=hb.2;simp;omega
theorem rPut_s (S:Nat→Prop)(nm:ByteArray)(u t:Ty)(a ua:OA_)(c uc:Nat)(w:World)(hA:AtW t a c w)(hUS:aa_ S w (.slice ua u.args.length uc) u.args)(hS:∀ b,S b→b<w.heap.size)(hs:Std t)(hu:Std u)(hsz:t.size≤1000000000000)(hus:u.size≤1000000000000)(hbl:(i9_ nm u t).length≤1000000000)(hmul:t.size*((i9_ nm u t).length+1)≤100000000000000000) :
  Calls Tryz.prog 70 #[.agg #[.int .i64 t.kind,.string t.name,.int .i64 t.n,.slice a t.args.length c],.string nm,.agg #[.int .i64 u.kind,.string u.name,.int .i64 u.n,.slice ua u.args.length uc]] w (TP S (fV_ nm u t) w):=by
 have hU:AtW u ua uc w:=hUS.mono hS;have HS:=hid hS;have M:=fh_.new w t u a ua c uc;have hAt:=hA.low M.hz;have hUt:=hU.low M.hz;have ham:=jb_ nm u t hs;have has:=pK_ nm u t hs;have CAP:=hid (fun (W:World) (h1:AtW t a c W) (h2:AtW u ua uc W)=>lo_ nm u t a ua c uc W h1 h2 hs hu hsz hus hbl hmul);have CPU:=hid (fun (W:World) (a':OA_) (c':Nat) (hW:w.heap.size≤W.heap.size) (h1:aa_ (fun b=>S b∨(w.heap.size+3≤b∧b<W.heap.size)) W (.slice a' (dT_ nm u t).args.length c') (dT_ nm u t).args) (h2:aa_ (fun b=>S b∨(w.heap.size+3≤b∧b<W.heap.size)) W (.slice ua u.args.length uc) u.args)=>oA_ 1 nm 0 (du_ nm) u (fun x hx=>by
  unfold c9_;rw[bv_];simp only[Bool.and_eq_true,beq_iff_eq,aK_];exact⟨fun h=>⟨h.1,h.2,(hx.k1 h.1).1⟩,fun h=>⟨h.1,h.2.1⟩⟩) (dT_ nm u t) _ a' ua c' uc W h1 h2 (fun b h=>h.elim (fun h=>aZ_ (hS b h) hW) (fun h=>h.2)) ham (by omega))
 have UH:Hid (∀ (W:World),Below w.heap.size w W→aa_ (fun b=>S b∨(w.heap.size+3≤b∧b<W.heap.size)) W (.slice ua u.args.length uc) u.args):=hid (fun W h=>(hUS.keep fun b hb=>h.block b (hS b hb)).mono fun b hb=>.inl hb);unfold fV_;generalize dT_ nm u t=y at *;generalize sbT (du_ nm) u y=z at *;have MH:=hid M;have AT:=hid hAt;have UT:=hid hUt;clear hA hU hs hu hsz hus hbl hmul M hAt hUt ham has;unfold tv at CAP CPU;go_enter Tryz.func70,Tryz.ntmps70;go_wp2;generalize ((w.alloc (.cells #[.int .i64 t.kind,.string t.name,.int .i64 t.n,.slice a t.args.length c] 43)).alloc (.cells #[.int .i64 u.kind,.string u.name,.int .i64 u.n,.slice ua u.args.length uc] 43)).alloc (.cells #[.int .i64 0,.string ⟨#[]⟩,.int .i64 0,.slice none 0 0] 43)=W0 at *;have HD:=hid (Below.refl W0.heap.size W0).drew;have KK:Hid (∀ W:World,Below W0.heap.size W0 W→W.cell? ⟨w.heap.size,0,none⟩=some (.int .i64 t.kind)∧W.cell? ⟨w.heap.size,1,none⟩=some (.string t.name)∧W.cell? ⟨w.heap.size,2,none⟩=some (.int .i64 t.n)∧W.cell? ⟨w.heap.size,3,none⟩=some (.slice a t.args.length c)∧W.cell? ⟨w.heap.size+1,0,none⟩=some (.int .i64 u.kind)∧W.cell? ⟨w.heap.size+1,1,none⟩=some (.string u.name)∧W.cell? ⟨w.heap.size+1,2,none⟩=some (.int .i64 u.n)∧W.cell? ⟨w.heap.size+1,3,none⟩=some (.slice ua u.args.length uc)):=hid (fun W h=>⟨(MH.out.low h).kt.c0,(MH.out.low h).kt.c1,(MH.out.low h).kt.c2,(MH.out.low h).kt.c3,(MH.out.low h).ku.c0,(MH.out.low h).ku.c1,(MH.out.low h).ku.c2,(MH.out.low h).ku.c3⟩);have KS:Hid (∀ (W:World) (v0 v1 v2 v3:Value),Below W0.heap.size W0 W→((((W.setCell ⟨w.heap.size+1+1,0,none⟩ v0).setCell ⟨w.heap.size+1+1,1,none⟩ v1).setCell ⟨w.heap.size+1+1,2,none⟩ v2).setCell ⟨w.heap.size+1+1,3,none⟩ v3).cell? ⟨w.heap.size,0,none⟩=some (.int .i64 t.kind)∧((((W.setCell ⟨w.heap.size+1+1,0,none⟩ v0).setCell ⟨w.heap.size+1+1,1,none⟩ v1).setCell ⟨w.heap.size+1+1,2,none⟩ v2).setCell ⟨w.heap.size+1+1,3,none⟩ v3).cell? ⟨w.heap.size,1,none⟩=some (.string t.name)∧((((W.setCell ⟨w.heap.size+1+1,0,none⟩ v0).setCell ⟨w.heap.size+1+1,1,none⟩ v1).setCell ⟨w.heap.size+1+1,2,none⟩ v2).setCell ⟨w.heap.size+1+1,3,none⟩ v3).cell? ⟨w.heap.size,2,none⟩=some (.int .i64 t.n)∧((((W.setCell ⟨w.heap.size+1+1,0,none⟩ v0).setCell ⟨w.heap.size+1+1,1,none⟩ v1).setCell ⟨w.heap.size+1+1,2,none⟩ v2).setCell ⟨w.heap.size+1+1,3,none⟩ v3).cell? ⟨w.heap.size,3,none⟩=some (.slice a t.args.length c)∧((((W.setCell ⟨w.heap.size+1+1,0,none⟩ v0).setCell ⟨w.heap.size+1+1,1,none⟩ v1).setCell ⟨w.heap.size+1+1,2,none⟩ v2).setCell ⟨w.heap.size+1+1,3,none⟩ v3).cell? ⟨w.heap.size+1,0,none⟩=some (.int .i64 u.kind)∧((((W.setCell ⟨w.heap.size+1+1,0,none⟩ v0).setCell ⟨w.heap.size+1+1,1,none⟩ v1).setCell ⟨w.heap.size+1+1,2,none⟩ v2).setCell ⟨w.heap.size+1+1,3,none⟩ v3).cell? ⟨w.heap.size+1,1,none⟩=some (.string u.name)∧((((W.setCell ⟨w.heap.size+1+1,0,none⟩ v0).setCell ⟨w.heap.size+1+1,1,none⟩ v1).setCell ⟨w.heap.size+1+1,2,none⟩ v2).setCell ⟨w.heap.size+1+1,3,none⟩ v3).cell? ⟨w.heap.size+1,2,none⟩=some (.int .i64 u.n)∧((((W.setCell ⟨w.heap.size+1+1,0,none⟩ v0).setCell ⟨w.heap.size+1+1,1,none⟩ v1).setCell ⟨w.heap.size+1+1,2,none⟩ v2).setCell ⟨w.heap.size+1+1,3,none⟩ v3).cell? ⟨w.heap.size+1,3,none⟩=some (.slice ua u.args.length uc)):=hid (fun W v0 v1 v2 v3 h=>by
  have q:=(MH.out.low h).set v0 v1 v2 v3;exact⟨q.1.c0,q.1.c1,q.1.c2,q.1.c3,q.2.1.c0,q.2.1.c1,q.2.1.c2,q.2.1.c3⟩)
 obtain⟨k0,k1,k2',k3,k4,k5,k6,k7⟩:=KK.out W0 (Below.refl _ _)
 go_region_held3 (fun w'=>w'.cell? ⟨w.heap.size,0,none⟩=some (.int .i64 t.kind)∧w'.cell? ⟨w.heap.size,1,none⟩=some (.string t.name)∧w'.cell? ⟨w.heap.size,2,none⟩=some (.int .i64 t.n)∧w'.cell? ⟨w.heap.size,3,none⟩=some (.slice a t.args.length c)∧w'.cell? ⟨w.heap.size+1,0,none⟩=some (.int .i64 u.kind)∧w'.cell? ⟨w.heap.size+1,1,none⟩=some (.string u.name)∧w'.cell? ⟨w.heap.size+1,2,none⟩=some (.int .i64 u.n)∧w'.cell? ⟨w.heap.size+1,3,none⟩=some (.slice ua u.args.length uc))
  (first|(with_reducible exact KS.out _ _ _ _ _ HX2.out)|(with_reducible exact KK.out _ HX2.out)|(with_reducible exact KK.out _ HX1.out)|(with_reducible exact KK.out _ HD.out)|go_keep)
  (first
   | (go_at_call 108;(with_reducible refine (CAP.out _ (AT.out.low HD.out) (UT.out.low HD.out)).mono ?_);rintro e w1 ⟨a1,c1,rfl,hA1,hb1⟩;have HX1:=hid (HD.out.trans (hb1.mono HD.out.size));have CP:=hid (CPU.out w1 a1 c1 (bN_ MH.out.hz.size HX1.out.size) (hA1.mono fun b hb=>by rcases hb with h|h;exact h.elim;exact .inr ⟨by have h1:=h.1;have h2:=MH.out.lt;simp at h1;omega,h.2⟩) (UH.out _ (MH.out.hz.trans (HX1.out.mono MH.out.hz.size))));clear hA1 hb1;unfold tv)
   | (go_at_call 109;(with_reducible refine CP.out.mono ?_);rintro e w2 ⟨a2,c2,rfl,hA2,hb2⟩;have HX2:=hid (HX1.out.trans (hb2.mono HX1.out.size));have hm2:=MH.out.low HX2.out;have r0:=hm2.kr.c0;have r1:=hm2.kr.c1;have r2:=hm2.kr.c2;have r3:=hm2.kr.c3;have f0:=hm2.kr.fr 0;have f1:=hm2.kr.fr 1;have f2:=hm2.kr.fr 2;have f3:=hm2.kr.fr 3;have M2:=hid hm2;have LW:=hid hb2.size;have HA2:=hid hA2;clear hA2 hb2 hm2;unfold tv))
 all_goals
  go_wp2;have q:=M2.out.set (.int .i64 z.kind) (.string z.name) (.int .i64 z.n) (.slice a2 z.args.length c2);refine bodyPost_ret (v:=.agg #[.int .i64 z.kind,.string z.name,.int .i64 z.n,.slice a2 z.args.length c2]) (by simp[results,Tryz.results70,go_sem,q.2.2.1.c0,q.2.2.1.c1,q.2.2.1.c2,q.2.2.1.c3]) rfl ?_;have hlt:=MH.out.lt;have hx1:=HX1.out.size;have hlw:=LW.out;have hsz:∀ v0 v1 v2 v3:Value,((((w2.setCell ⟨w.heap.size+1+1,0,none⟩ v0).setCell ⟨w.heap.size+1+1,1,none⟩ v1).setCell ⟨w.heap.size+1+1,2,none⟩ v2).setCell ⟨w.heap.size+1+1,3,none⟩ v3).heap.size=w2.heap.size:=fun _ _ _ _=>by simp
  have hne:∀ b,New (fun b=>S b∨(w.heap.size+3≤b∧b<w1.heap.size)) w1 w2 b→b≠w.heap.size+1+1∧(S b∨(w.heap.size≤b∧b<w2.heap.size)):=fun b hb=>by
   rcases hb with (h|h)|h
   ·exact⟨by have:=HS.out b h;omega,.inl h⟩
   ·exact⟨by omega,.inr (by omega)⟩
   ·exact⟨by omega,.inr (by omega)⟩
  refine⟨a2,c2,rfl,(HA2.out.keep fun b hb=>?_).mono fun b hb=>?_,q.2.2.2⟩
  ·have hb:=(hne b hb).1
   rw[au_ _ _ _ _ hb,au_ _ _ _ _ hb,au_ _ _ _ _ hb,au_ _ _ _ _ hb]
  ·exact (hne b hb).2.imp id fun h=>⟨h.1,by rw[hsz];exact h.2⟩
theorem mZ_ (c:ByteArray):∀ (t:Ty) (env:List ByteArray) (k:Nat),Std t→env.length≤k→opB c k (dbT env t)=dbT env t:=by
 intro t
 induction t using Ty.ind with
 | h t ih =>
  intro env k hs hk
  by_cases h5:t.kind=5
  ·rw[aM_ _ _ h5,dF_ c _ (show (Ty.mk 5 emp 0 _).kind≠6 by show (5:Int)≠6;decide)]
   show Ty.mk 5 emp 0 (List.map _ (List.map _ _))=_;rw[List.map_map];congr 1;refine List.map_congr_left fun a ha=>?_;show opB c (bk k 5) _=_;rw[bk,if_pos rfl];exact ih a ha (t.name :: env) (k+1) (hs.args a ha) (by rw[List.length_cons];omega)
  ·by_cases h1:t.kind=1
   ·rw[aS_ _ _ h1]
    unfold cR_;cases hi:ixN env t.name with
    | some i =>
     have hl:=qb_ hi;show opB c k (.mk 6 emp (i:Int) [])=_;rw[fW_ c k rfl,if_neg (show ¬ ((Ty.mk 6 emp (i:Int) []).n=(k:Int)) by show ¬ ((i:Int)=(k:Int));omega)]
    | none =>
     show opB c k (.mk 1 t.name t.n [])=_;rw[dF_ c k (show (Ty.mk 1 t.name t.n []).kind≠6 by show (1:Int)≠6;decide)];rfl
   ·have hkd:=hs.kind
    rw[aw_ _ _ h1 h5,dF_ c _ (show (Ty.mk t.kind t.name t.n _).kind≠6 by show t.kind≠6;omega)];show Ty.mk t.kind t.name t.n (List.map _ (List.map _ _))=_;rw[List.map_map];congr 1;refine List.map_congr_left fun a ha=>?_;show opB c (bk k t.kind) _=_;rw[bk,if_neg h5];exact ih a ha env k (hs.args a ha) hk
theorem sx_ (c:ByteArray){f:Int→Ty}(hf:∀ m k,opB c k (f m)=f m):∀ (t:Ty) (k:Nat),opB c k (fl f t)=fl f (opB c k t):=by
 intro t
 induction t using Ty.ind with
 | h t ih =>
  intro k
  by_cases h2:t.kind=2
  ·rw[dF_ c k (t:=t) (by omega),bg_ f h2,bg_ f (show (Ty.mk t.kind t.name t.n _).kind=2 from h2),hf];rfl
  ·rw[aH_ f h2]
   by_cases h6:t.kind=6
   ·rw[fW_ c k (t:=t) h6,fW_ c k (show (Ty.mk t.kind t.name t.n _).kind=6 from h6)]
    show (if t.n=(k:Int) then _ else _)=_
    split
    ·rw[aH_ f (show (Ty.mk 1 c 0 []).kind≠2 from by show (1:Int)≠2;decide)];rfl
    ·rw[aH_ f h2]
   ·rw[dF_ c k (t:=t) h6,dF_ c k (show (Ty.mk t.kind t.name t.n _).kind≠6 from h6),aH_ f (show (Ty.mk t.kind t.name t.n _).kind≠2 from h2)]
    show Ty.mk t.kind t.name t.n (List.map _ (List.map _ _))=Ty.mk t.kind t.name t.n (List.map _ (List.map _ _));rw[List.map_map,List.map_map];congr 1;exact List.map_congr_left fun a ha=>ih a ha _
def NoV (c:ByteArray)(t:Ty):Prop:=Al (fun t=>t.kind=1→t.name≠c) t
theorem ro_ (c:ByteArray):Loc fun t=>t.kind=1→t.name≠c:=fun _ h _ _=>h
theorem sD_ (c:ByteArray)(m:Int):NoV c (mt m):=.mk _ (fun h=>absurd (show (2:Int)=1 from h) (by decide)) fun a ha=>by cases ha
theorem m8_ (c:ByteArray):∀ (t:Ty) (env:List ByteArray),Std t→(fvT c t→c∈env)→NoV c (dbT env t):=by
 intro t
 induction t using Ty.ind with
 | h t ih =>
  intro env hs hf
  by_cases h5:t.kind=5
  ·rw[aM_ _ _ h5]
   refine .mk _ (fun h=>absurd (show (5:Int)=1 from h) (by decide)) fun a ha=>?_;obtain⟨b,hb,rfl⟩:=List.mem_map.1 ha;refine ih b hb _ (hs.args b hb) fun hx=>?_
   by_cases e:c=t.name
   ·rw[e];simp
   ·exact List.mem_cons.2 (.inr (hf ((aJ_ c t).2 (.inr ⟨⟨b,hb,hx⟩,fun h=>e h.2.symm⟩))))
  ·by_cases h1:t.kind=1
   ·rw[aS_ _ _ h1]
    unfold cR_;cases hi:ixN env t.name with
    | some i=>exact .mk _ (fun h=>absurd (show (6:Int)=1 from h) (by decide)) fun a ha=>by cases ha
    | none =>
     refine .mk _ (fun _ (e:t.name=c)=>?_) fun a ha=>by cases ha
     exact (cn_ _ _).1 hi (by rw[e];exact hf ((aJ_ _ t).2 (.inl ⟨h1,e⟩)))
   ·rw[aw_ _ _ h1 h5]
    refine .mk _ (fun h=>absurd h h1) fun a ha=>?_;obtain⟨b,hb,rfl⟩:=List.mem_map.1 ha;exact ih b hb env (hs.args b hb) fun hx=>hf ((aJ_ c t).2 (.inr ⟨⟨b,hb,hx⟩,fun h=>h5 h.1⟩))
theorem qM_ (c:ByteArray):∀ t:Ty,Dw t→sbT (du_ c) (.mk 1 c 0 []) t=t:=by
 intro t
 induction t using Ty.ind with
 | h t ih =>
  intro hd;rw[e3_]
  by_cases h:du_ c (c9_ t)=true
  ·rw[if_pos h]
   unfold c9_ at h;rw[bv_,Bool.and_eq_true,beq_iff_eq] at h;obtain⟨a,b⟩:=hd.here.k1 h.1;have e:=(aK_ _ _).1 h.2;cases t with
   | mk k s n args =>
    have a:n=0:=a;have b:args=[]:=b;have h1:k=1:=h.1;have e:s=c:=by first|exact e|exact e.symm
    subst a b h1 e;rfl
  ·rw[if_neg h,List.map_congr_left (g:=id) fun a ha=>ih a ha (hd.arg ha),List.map_id]
   cases t;rfl
theorem rT_ {f:Int→Ty}{nm nm':ByteArray}{body y:Ty}(hf:∀ m k,opB nm k (f m)=f m)(hn:∀ m,NoV nm (f m))(hd:∀ m,Dw (f m))(hb:Std body)(hy:Std y)(hfr:¬ fvT nm body∨nm=nm')(h:dbT [] y=fl f (sbT (du_ nm') (.mk 1 nm 0 []) (dbT [] body))):dbT [nm] y=fl f (dbT [nm'] body):=by
 have h1:=q5_ nm nm' body [] hb;have h2:=q5_ nm nm y [] hy;simp only[List.nil_append,List.length_nil] at h1 h2;rw[← h1,← sx_ nm hf] at h;rw[qM_ nm _ (d9_ y [] hy),h] at h2;have n1:NoV nm (dbT [nm] y):=m8_ nm y [nm] hy fun _=>by simp
 have n2:NoV nm (dbT [nm'] body):=m8_ nm body [nm'] hb fun hx=>by
  rcases hfr with hh|hh
  ·exact absurd hx hh
  ·rw[hh];simp
 have n3:NoV nm (fl f (dbT [nm'] body)):=gJ_ (ro_ nm) _ n2 fun m _=>hn m;have e1:=py_ nm (dbT [nm] y) 0 (d9_ y [nm] hy) n1;have e2:=py_ nm (fl f (dbT [nm'] body)) 0 (gJ_ he_ _ (d9_ body [nm'] hb) fun m _=>hd m) n3;rw[← e1,h2,e2]
structure ApR (R:Kn):Prop where
 sd:∀ e∈R,Std e.2
theorem ApR.dw {R:Kn}(h:ApR R)(m:Int):Dw (lkD R m):=by
 unfold lkD;cases hl:lkK R m with
 | none=>exact rH_ m
 | some u=>exact d9_ u [] (h.sd _ (d4_ hl))
theorem ApR.op {R:Kn}(h:ApR R)(c:ByteArray)(m:Int)(k:Nat):opB c k (lkD R m)=lkD R m:=by
 unfold lkD;cases hl:lkK R m with
 | none=>simp only;rw[dF_ c k (show (mt m).kind≠6 by show (2:Int)≠6;decide)];rfl
 | some u=>exact mZ_ c u [] k (h.sd _ (d4_ hl)) (Nat.zero_le _)
theorem ApR.nov {R:Kn}(h:ApR R){c:ByteArray}(hc:∀ e∈R,¬ fvT c e.2)(m:Int):NoV c (lkD R m):=by
 unfold lkD;cases hl:lkK R m with
 | none=>exact sD_ c m
 | some u=>exact m8_ c u [] (h.sd _ (d4_ hl)) fun hx=>absurd hx (hc _ (d4_ hl))
structure Two (R:Kn)(x:EqT):Prop where
 a1:oa_ R x.1
 a2:oa_ R x.2
 s1:bf_ (apF R x.1)
 s2:bf_ (apF R x.2)
 eq:aO_ (apF R x.1)=aO_ (apF R x.2)
theorem Two.swap {R:Kn}{x:EqT}(h:Two R x):Two R (x.2,x.1):=⟨h.a2,h.a1,h.s2,h.s1,h.eq.symm⟩
theorem Kd.two {es:List EqT}{K:Kn}(E:Es es)(D:Kd es K){e:EqT}(he:e∈es):Two (iN_ K) e:=by
 have hn:=nw_ E he 0;obtain⟨a1,s1,_⟩:=D.ap E ⟨0,by omega,hn.1.1⟩ hn.1.2 (D.szE e he).1;obtain⟨a2,s2,_⟩:=D.ap E ⟨0,by omega,hn.2.1⟩ hn.2.2 (D.szE e he).2;exact⟨a1,a2,s1,s2,D.same E he⟩
def gvB (e:EqT):Bool:=decide (e.1.kind=2)&&decide (e.1.n<100000)&&!eL_ e.2
def gvE (e:EqT):List (Int × Ty):=if gvB e=true then [(e.1.n,e.2)] else []
def gvK (bs:List EqT):Kn:=bs.flatMap gvE
theorem rB_ (e:EqT):(gvE e).length≤1:=by unfold gvE;split<;>simp
theorem no_:∀ bs:List EqT,(gvK bs).length≤bs.length
 | []=>aD_ _
 | e :: bs=>by
  show (gvE e++gvK bs).length≤_;rw[List.length_append,List.length_cons];have:=rB_ e;have:=no_ bs;omega
theorem rA_ {bs:List EqT}{x:Int × Ty}(h:x∈gvK bs):∃ e∈bs,e.1.kind=2∧e.1.n<100000∧eL_ e.2=false∧x=(e.1.n,e.2):=by
 unfold gvK at h;obtain⟨e,he,hx⟩:=List.mem_flatMap.1 h;unfold gvE at hx
 split at hx
 ·next hg =>
  unfold gvB at hg;rw[Bool.and_eq_true,Bool.and_eq_true,decide_eq_true_eq,decide_eq_true_eq,Bool.not_eq_true'] at hg;exact⟨e,he,hg.1.1,hg.1.2,hg.2,List.mem_singleton.1 hx⟩
 ·cases hx
theorem nh_ {R:Kn}{x:Int}{u:Ty}(h:lkK R x=some u):(x,u)∈R:=by
 unfold lkK at h;cases hf:R.find? (fun y=>y.1==x) with
 | none=>rw[hf] at h;cases h
 | some y =>
  rw[hf] at h;injection h with h
  have h1:=List.mem_of_find?_eq_some hf;have h2:(y.1==x)=true:=List.find?_some (p:=fun y:Int × Ty=>y.1==x) hf;rw[beq_iff_eq] at h2;have:y=(x,u):=by rw[← h2,← h]
  rwa [this] at h1
theorem Ni.wide {NL NL':List ByteArray}{fr fr':Nat}{X:Ty}(h:Ni NL fr X)(hn:∀ s∈NL,s∈NL')(hf:fr≤fr'):Ni NL' fr' X :=
 ⟨h.st,h.gd,h.vn.imp fun t k=>⟨fun h1=>(k.1 h1).imp (hn _) fun ⟨j,hj,e⟩=>⟨j,by omega,e⟩,k.2⟩,h.sz⟩
structure Gv (es bs:List EqT):Prop where
 e:Es es
 b:Es bs
def NL2 (es bs:List EqT):List ByteArray:=NLE es++NLE bs
section
variable {es bs : List EqT}
theorem Gv.nlen (G:Gv es bs):(NL2 es bs).length+4000≤3000000:=by
 unfold NL2;rw[List.length_append];have:=il_ G.e;have:=il_ G.b;omega
theorem Gv.nlok (G:Gv es bs):r6_ (NL2 es bs):=fun s hs=>by
 rcases List.mem_append.1 hs with h|h
 ·exact n4_ G.e s h
 ·exact n4_ G.b s h
theorem Gv.row (G:Gv es bs):∀ x∈gvK bs,(Ni (NL2 es bs) 0 x.2∧0≤x.1∧x.1≤1000000∧∀ m∈aR_ x.2,m≤1000000)∧x.2.size≤120∧eL_ x.2=false:=by
 intro x hx;obtain⟨e,he,h2,hn,hp,rfl⟩:=rA_ hx;obtain⟨_,n2,m2⟩:=nw_ G.b he 0;exact⟨⟨n2.wide (fun s hs=>List.mem_append.2 (.inr hs)) (Nat.zero_le _),((G.b.ok e he).l.1.1.k2 h2).2.2.1,by show e.1.n≤1000000;omega,m2⟩,(G.b.ok e he).r.2.1,hp⟩
theorem Gv.prf (G:Gv es bs):PrF (lkD (gvK bs)):=by
 intro m;unfold lkD;cases hl:lkK (gvK bs) m with
 | none=>exact q2_ m
 | some u =>
  obtain⟨⟨hn,_⟩,_,hp⟩:=G.row _ (nh_ hl);have h5:=(q3_ u).1 hp;have hd:dbT [] u=u:=f0_ u hn.st h5;simp only;have hv:=hn.vn;rw[hd] at hv ⊢;have hdw:=d9_ u [] hn.st;rw[hd] at hdw;have h6:=qH_ u hn.st;exact (((hdw.and h5).and h6).and hv).imp fun t h=>⟨h.1.1.1,h.1.1.2,h.1.2,fun h1=>by
   rcases h.2.1 h1 with h|⟨j,hj,_⟩
   ·exact (G.nlok _ h).1
   ·omega⟩
theorem Gv.lksz (G:Gv es bs)(m:Int):(lkD (gvK bs) m).size≤120:=by
 unfold lkD;cases hl:lkK (gvK bs) m with
 | none=>show 1≤120;omega
 | some u =>
  obtain⟨⟨hn,_⟩,hs,_⟩:=G.row _ (nh_ hl);simp only;rw[bI_ u hn.st];exact hs
theorem Gv.ap (G:Gv es bs){t:Ty}{fr:Nat}(hf:fr≤4000)(ht:Ni (NL2 es bs) fr t)(hm:∀ m∈aR_ t,m≤1000000)(hz:(fl (lkD (gvK bs)) (dbT [] t)).size≤LIM) :
  oa_ (gvK bs) t∧bf_ (apF (gvK bs) t)∧Std (apF (gvK bs) t)∧qo_ (dbT [] (apF (gvK bs) t))∧dbT [] (apF (gvK bs) t)=fl (lkD (gvK bs)) (dbT [] t):=by
 have hall:∀ e∈gvK bs,Ni (NL2 es bs) 4000 e.2∧0≤e.1∧e.1≤1000000∧∀ m∈aR_ e.2,m≤1000000:=fun e he=>by
  obtain⟨⟨a,b,c,d⟩,_⟩:=G.row e he;exact⟨a.mono (Nat.zero_le _),b,c,d⟩
 obtain⟨a,b,c⟩:=rS_ (B:=1000000) (by omega) (by omega) (by have:=no_ bs;have:=G.b.ln;omega) hall (ht.mono hf) hm hz G.nlen;exact⟨a,b.small G.nlen,b.st,l2_ G.nlok b.vn,c⟩
theorem i1_ {f:Int→Ty}{c:Nat}(hf:∀ m,(f m).size≤c):∀ t:Ty,(fl f t).size≤t.size*c:=by
 intro t
 induction t using Ty.ind with
 | h t ih =>
  by_cases h2:t.kind=2
  ·rw[bg_ _ h2]
   exact bN_ (hf _) (Nat.le_mul_of_pos_left _ (eZ_ t))
  ·rw[nr_ h2,t.size_eq]
   have hc:1≤c:=bN_ (eZ_ (f 0)) (hf 0);have:∀ l:List Ty,(∀ a∈l,a∈t.args)→aj_ (l.map (fl f))≤aj_ l*c:=by
    intro l
    induction l with
    | nil=>intro _;exact Nat.zero_le _
    | cons a l ihl =>
     intro h;rw[List.map_cons,aj_,aj_,Nat.add_mul];have:=ih a (h a (by simp));have:=ihl fun b hb=>h b (by simp[hb]);omega
   have:=this t.args fun _ h=>h;rw[Nat.add_mul];omega
theorem Gv.line (G:Gv es bs){e:EqT}(he:e∈es):oa_ (gvK bs) e.1∧oa_ (gvK bs) e.2∧bf_ (apF (gvK bs) e.1)∧bf_ (apF (gvK bs) e.2)∧(aO_ (apF (gvK bs) e.1)=aO_ (apF (gvK bs) e.2)↔Sol (lkD (gvK bs)) (dbE e)):=by
 have hq:=G.e.ok e he;obtain⟨⟨n1,m1⟩,n2,m2⟩:=nw_ G.e he 0;have hw:∀ s∈NLE es,s∈NL2 es bs:=fun s hs=>List.mem_append.2 (.inl hs);have hz:∀ t:Ty,Std t→t.size≤120→(fl (lkD (gvK bs)) (dbT [] t)).size≤LIM:=fun t hs ht=>by
  have h1:=i1_ G.lksz (dbT [] t);rw[bI_ t hs] at h1;have:t.size*120≤120*120:=Nat.mul_le_mul_right _ ht;unfold LIM;omega
 obtain⟨a1,s1,t1,l1,d1⟩:=G.ap (Nat.zero_le _) (n1.wide hw (aD_ 0)) m1 (hz _ hq.l.1.1 hq.l.2.1);obtain⟨a2,s2,t2,l2,d2⟩:=G.ap (Nat.zero_le _) (n2.wide hw (aD_ 0)) m2 (hz _ hq.r.1.1 hq.r.2.1);refine⟨a1,a2,s1,s2,?_⟩;rw[fD_ t1 t2 l1 l2,d1,d2];exact Iff.rfl
theorem Gv.told (G:Gv es bs)(h:∀ e∈es,aO_ (apF (gvK bs) e.1)=aO_ (apF (gvK bs) e.2)){K:Kn}(D:Kd es K){x:Int × Ty}(hx:x∈iN_ K) :
  oa_ (gvK bs) (mt x.1)∧oa_ (gvK bs) x.2∧bf_ (apF (gvK bs) (mt x.1))∧bf_ (apF (gvK bs) x.2)∧aO_ (apF (gvK bs) (mt x.1))=aO_ (apF (gvK bs) x.2):=by
 have hext:=(D.gen _ G.prf).1 fun e he=>(G.line he).2.2.2.2.1 (h e he);obtain⟨⟨fr,hf,hn⟩,h0,h1,e,_,hm⟩:=D.mem G.e x hx;have hp:=(D.ko.facts.pr x.1).no5;rw[← e] at hp;have hd:=f0_ x.2 hn.st hp;have hfx:fl (lkD (gvK bs)) (dbT [] x.2)=lkD (gvK bs) x.1:=by rw[hd,e];exact hext x.1
 have hw:∀ s∈NLE es,s∈NL2 es bs:=fun s hs=>List.mem_append.2 (.inl hs);have hsz:=G.lksz x.1;obtain⟨a1,s1,t1,l1,d1⟩:=G.ap (t:=mt x.1) (Nat.zero_le _) (sG_ h0 (by omega)) (fun m hm=>by
  have:=(d2_ (rH_ x.1)).1 hm;rw[o2_] at this
  split at this
  ·next e=>omega
  ·exact absurd rfl this) (by rw[show dbT [] (mt x.1)=mt x.1 from rfl,c1_];unfold LIM;omega)
 obtain⟨a2,s2,t2,l2,d2⟩:=G.ap hf (hn.wide hw (aD_ fr)) hm (by rw[hfx];unfold LIM;omega);refine⟨a1,a2,s1,s2,?_⟩;rw[fD_ t1 t2 l1 l2,d1,d2,hfx,show dbT [] (mt x.1)=mt x.1 from rfl,c1_]
end
end
section
open Go.RowKit Lx
def vn (n:Nat):ByteArray:=aI_ ⟨#[118]⟩ n
theorem si_ (a b:Nat)(h:vn a=vn b):a=b:=cm_ h
theorem sh_ (n:Nat)(h:n<1000000000000):kR_ (vn n):=by
 have h1:=bQ_ n;have h2:=nz_ n h;unfold kR_;have e:(vn n).data.toList=118 :: Lib.decDigits n:=hf_ [118] n;rw[e];refine⟨⟨by simp only[List.length_cons];omega,fun c hc=>?_⟩,by show bd_ 118=true;decide,?_⟩
 ·rcases List.mem_cons.1 hc with rfl|hc
  ·decide
  ·exact fN_ (h1.1 c hc)
 ·rw[← Bool.not_eq_true,List.contains_iff_mem]
  intro hk;simp only[ky_,List.mem_cons,List.not_mem_nil,or_false] at hk
  rcases hk with hk|hk|hk|hk|hk|hk<;>(have:=(List.cons.inj hk).1;revert this;decide)
def vrU (x:ByteArray):Ty:=.mk 1 x 0 []
theorem sg_ {x:ByteArray}(h:kR_ x):Mk (vrU x):=by
 refine⟨(aX_ _).2 ⟨.inl ⟨rfl,rfl,rfl⟩,fun a ha=>by cases ha⟩,(bR_ _).2 ⟨⟨fun _=>h,fun e=>absurd (show (1:Int)=3 from e) (by decide),fun e=>absurd (show (1:Int)=2 from e) (by decide)⟩,fun a ha=>by cases ha⟩⟩
theorem qP_ (p:Ty→Bool)(u:Ty)(hu:pR_ u):∀ t:Ty,pR_ t→pR_ (sbT p u t):=by
 intro t
 induction t using Ty.ind with
 | h t ih =>
  cases t with
  | mk k s n args =>
   intro h;rw[ck_]
   split
   ·exact hu
   ·have hh:=(bR_ _).1 h
    refine (bR_ _).2 ⟨hh.1,fun a ha=>?_⟩;obtain⟨b,hb,rfl⟩:=List.mem_map.1 ha;exact ih b hb (hh.2 b hb)
theorem oO_ (nm:ByteArray)(u t:Ty)(ht:Mk t)(hu:Mk u)(hs:t.size≤100000)(hus:u.size≤100000):Mk (fV_ nm u t) :=
 ⟨sq_ _ _ hu.1 _ (h8_ nm u t ht hs hus).1,qP_ _ _ hu.2 _ (h8_ nm u t ht hs hus).2⟩
theorem qW_ (nm x:ByteArray)(b:Ty)(hb:Mk b)(hx:kR_ x)(hs:b.size≤100000):Mk (fV_ nm (vrU x) b)∧(fV_ nm (vrU x) b).size=b.size∧dbT [] (fV_ nm (vrU x) b)=sbT (du_ nm) (.mk 1 x 0 []) (dbT [] b):=by
 have hv:(vrU x).size≤100000:=by show 1≤100000;omega
 have hm:=oO_ nm (vrU x) b hb (sg_ hx) hs hv;have hd:dbT [] (fV_ nm (vrU x) b)=sbT (du_ nm) (.mk 1 x 0 []) (dbT [] b):=by
  rw[qX_ nm (vrU x) b hb hs hv];rfl
 refine⟨hm,?_,hd⟩;have h1:=q5_ x nm b [] hb.1;simp only[List.nil_append,List.length_nil] at h1;rw[← bI_ _ hm.1 [],hd,← h1,mY_ x _ 0 (d9_ b _ hb.1),bI_ b hb.1]
theorem nd_ {t:Ty}(h:Mk t):∀ a∈t.args,Mk a:=fun a ha=>⟨h.1.args a ha,((bR_ t).1 h.2).2 a ha⟩
def oe_ (R:Kn)(b:Ty):List ByteArray:=R.flatMap (fun e=>af_ e.2)++af_ b
def nmA (R:Kn)(b:Ty):ByteArray:=vn (nx vn (oe_ R b) 0)
def of_ (R:Kn):Nat→Ty→Ty
 | 0,t=>t
 | d+1,t=>if t.kind=2 then (match lkK R t.n with|some u=>u|none=>t)
  else if t.kind=5 then .mk 5 (nmA R (cr_ t)) 0 [of_ R d (fV_ t.name (vrU (nmA R (cr_ t))) (cr_ t))]
  else .mk t.kind t.name t.n (t.args.map (of_ R d))
theorem pB_ {R:Kn}{b:Ty}{c:Nat}(hR:∀ e∈R,e.2.size≤c):(oe_ R b).length≤R.length*c+b.size:=by
 unfold oe_;rw[List.length_append];have h1:=a0_ b;have:∀ R:Kn,(∀ e∈R,e.2.size≤c)→(R.flatMap fun e=>af_ e.2).length≤R.length*c:=by
  intro R
  induction R with
  | nil=>intro _;simp
  | cons e R ih =>
   intro h;rw[List.flatMap_cons,List.length_append,List.length_cons,Nat.add_mul];have:=ih fun x hx=>h x (by simp[hx]);have:=a0_ e.2;have:=h e (by simp);omega
 have:=this R hR;omega
theorem kt_ (R:Kn)(b:Ty):(nx vn (oe_ R b) 0)≤(oe_ R b).length∧cx_ (oe_ R b) (nmA R b)=false∧(∀ j,j<nx vn (oe_ R b) 0→cx_ (oe_ R b) (vn j)=true):=by
 have h:=bz_ vn si_ (oe_ R b) 0;exact⟨by have:=h.2.1;unfold nx;omega,h.2.2.2,fun j hj=>h.2.2.1 j (Nat.zero_le _) hj⟩
theorem rg_ {R:Kn}{b:Ty} : (∀ e∈R,¬ fvT (nmA R b) e.2)∧¬ fvT (nmA R b) b:=by
 have h:=(bP_ _ _).1 (kt_ R b).2.1;unfold oe_ at h;rw[List.mem_append,not_or] at h;refine⟨fun e he hf=>h.1 (List.mem_flatMap.2 ⟨e,he,(bb_ _ _).2 hf⟩),fun hf=>h.2 ((bb_ _ _).2 hf)⟩
theorem s8_ {R:Kn}(hR:ApR R)(hRs:∀ e∈R,e.2.size≤4000)(hRl:R.length≤100):∀ (d:Nat) (t:Ty),t.size≤d→Mk t→t.size≤4000→Std (of_ R d t)∧dbT [] (of_ R d t)=fl (lkD R) (dbT [] t):=by
 intro d
 induction d with
 | zero=>intro t h;have:=eZ_ t;omega
 | succ d ih =>
  intro t hd hm hs;rw[of_]
  by_cases h2:t.kind=2
  ·rw[if_pos h2]
   have e:=pk_ hm.1 h2;have e2:dbT [] t=mt t.n:=by rw[e];rfl
   rw[e2,c1_];unfold lkD;cases hl:lkK R t.n with
   | none=>exact⟨hm.1,e2⟩
   | some u=>exact⟨hR.sd _ (d4_ hl),rfl⟩
  ·rw[if_neg h2]
   by_cases h5:t.kind=5
   ·rw[if_pos h5]
    obtain⟨b,hb,hb0⟩:=eC_ hm.1 h5;rw[hb0];have hbm:b∈t.args:=by rw[hb];simp
    have hmb:=nd_ hm b hbm;have hts:t.size=b.size+1:=by rw[t.size_eq,hb];simp[aj_]
    have hlen:=pB_ (b:=b) hRs;have hx:kR_ (nmA R b):=sh_ _ (by have:=(kt_ R b).1;have:R.length*4000≤100*4000:=Nat.mul_le_mul_right _ hRl;omega);obtain⟨p1,p2,p3⟩:=qW_ t.name (nmA R b) b hmb hx (by omega);obtain⟨y1,y2⟩:=ih (fV_ t.name (vrU (nmA R b)) b) (by omega) p1 (by omega);generalize of_ R d (fV_ t.name (vrU (nmA R b)) b)=y at *;refine⟨(aX_ _).2 ⟨.inr (.inr (.inr (.inr ⟨rfl,rfl,rfl⟩))),fun a ha=>by rw[List.mem_singleton.1 ha];exact y1⟩,?_⟩;rw[p3] at y2;have hn:=rg_ (R:=R) (b:=b);have key:=rT_ (f:=lkD R) (nm:=nmA R b) (nm':=t.name) (fun m k=>hR.op _ m k) (hR.nov hn.1) hR.dw hmb.1 y1 (.inl hn.2) y2;rw[aM_ [] _ h5,aM_ [] _ (show (Ty.mk 5 (nmA R b) 0 [y]).kind=5 from rfl),aH_ _ (show (Ty.mk 5 emp 0 _).kind≠2 from by show (5:Int)≠2;decide),hb];show Ty.mk 5 emp 0 [dbT [nmA R b] y]=Ty.mk 5 emp 0 [fl (lkD R) (dbT [t.name] b)];rw[key]
   ·rw[if_neg h5]
    have hargs:∀ a∈t.args,Std (of_ R d a)∧dbT [] (of_ R d a)=fl (lkD R) (dbT [] a):=fun a ha=>by
     have:=a6_ t.args ha;rw[t.size_eq] at hd hs;exact ih a (by omega) (nd_ hm a ha) (by omega)
    refine⟨db_ hm.1 _ (by simp) fun a ha=>?_,?_⟩
    ·obtain⟨b,hb,rfl⟩:=List.mem_map.1 ha
     exact (hargs b hb).1
    ·by_cases h1:t.kind=1
     ·have ha:=(hm.1.k1 h1).2
      rw[ha,List.map_nil,aS_ [] _ h1,aS_ [] _ (show (Ty.mk t.kind t.name t.n []).kind=1 from h1)];show Ty.mk 1 t.name t.n []=fl _ (Ty.mk 1 t.name t.n []);rw[aH_ _ (show (Ty.mk 1 t.name t.n []).kind≠2 from by show (1:Int)≠2;decide)];rfl
     ·rw[aw_ [] _ h1 h5,aH_ _ (show (Ty.mk t.kind t.name t.n _).kind≠2 from h2),aw_ [] _ (show (Ty.mk t.kind t.name t.n _).kind≠1 from h1) (show (Ty.mk t.kind t.name t.n _).kind≠5 from h5)]
      show Ty.mk t.kind t.name t.n (List.map _ (List.map _ _))=Ty.mk t.kind t.name t.n (List.map _ (List.map _ _));rw[List.map_map,List.map_map];congr 1;exact List.map_congr_left fun a ha=>(hargs a ha).2
def gwE (e:EqT):List (Int × Ty):=if e.1.kind=2∧e.1.n<100000 then [(e.1.n,e.2)] else []
def gwK (bs:List EqT):Kn:=bs.flatMap gwE
theorem ts_ {bs:List EqT}{i:Nat}(h:i<bs.length):gwK (bs.take (i+1))=gwK (bs.take i)++gwE bs[i]:=by
 unfold gwK;rw[List.take_succ_eq_append_getElem h,List.flatMap_append];simp
theorem rz_ (e:EqT):(gwE e).length≤1:=by unfold gwE;split<;>simp
theorem nn_:∀ bs:List EqT,(gwK bs).length≤bs.length
 | []=>aD_ _
 | e :: bs=>by
  show (gwE e++gwK bs).length≤_;rw[List.length_append,List.length_cons];have:=rz_ e;have:=nn_ bs;omega
theorem nm_ {bs:List EqT}{x:Int × Ty}(h:x∈gwK bs):∃ e∈bs,e.1.kind=2∧e.1.n<100000∧x=(e.1.n,e.2):=by
 unfold gwK at h;obtain⟨e,he,hx⟩:=List.mem_flatMap.1 h;unfold gwE at hx
 split at hx
 ·next hg=>exact⟨e,he,hg.1,hg.2,List.mem_singleton.1 hx⟩
 ·cases hx
theorem gwE_no {e:EqT}(h:¬ (e.1.kind=2∧e.1.n<100000)):gwE e=[]:=if_neg h
theorem gwE_yes {e:EqT}(h:e.1.kind=2∧e.1.n<100000):gwE e=[(e.1.n,e.2)]:=if_pos h
end
section
open Go.RowKit
section
variable {bs : List EqT}
theorem ry_ (E:Es bs):ApR (gwK bs)∧(∀ e∈gwK bs,e.2.size≤120)∧(gwK bs).length≤16∧∀ e∈gwK bs,Mk e.2:=by
 refine⟨⟨fun e he=>?_⟩,fun e he=>?_,bN_ (nn_ bs) E.ln,fun e he=>?_⟩<;>obtain⟨x,hx,_,_,rfl⟩:=nm_ he
 ·exact (E.ok x hx).r.1.1
 ·exact (E.ok x hx).r.2.1
 ·exact (E.ok x hx).r.1
theorem rx_ (E:Es bs)(m:Int):(lkD (gwK bs) m).size≤120:=by
 unfold lkD;cases hl:lkK (gwK bs) m with
 | none=>show 1≤120;omega
 | some u =>
  have h:=nh_ hl;simp only;rw[bI_ u ((ry_ E).1.sd _ h)];exact (ry_ E).2.1 _ h
def NLt (bs:List EqT)(t:Ty):List ByteArray:=NLE bs++af_ t
theorem sS_ (E:Es bs)(t:Ty):∀ x∈gwK bs,Ni (NLt bs t) 0 x.2∧0≤x.1∧x.1≤1000000∧∀ m∈aR_ x.2,m≤1000000:=by
 intro x hx;obtain⟨e,he,h2,hn,rfl⟩:=nm_ hx;obtain⟨_,n2,m2⟩:=nw_ E he 0;exact⟨n2.wide (fun s hs=>List.mem_append.2 (.inl hs)) (aD_ _),((E.ok e he).l.1.1.k2 h2).2.2.1,by show e.1.n≤1000000;omega,m2⟩
theorem gw_all (E:Es bs){t:Ty}(hm:Mk t)(hs:t.size≤200) :
  oa_ (gwK bs) t∧bf_ (apF (gwK bs) t)∧n8_ (of_ (gwK bs) t.size t)∧aO_ (of_ (gwK bs) t.size t)=aO_ (apF (gwK bs) t):=by
 have hfl:=a0_ t;have hnl:=il_ E;have hlen:(NLt bs t).length+0≤3000000:=by unfold NLt;rw[List.length_append];omega
 have ht:Ni (NLt bs t) 0 t:=⟨hm.1,hK_ t hm,l1_ t [] hm fun s h _=>List.mem_append.2 (.inr ((bb_ s t).2 h)),by rw[bI_ t hm.1];unfold LIM;omega⟩;have hz0:(fl (lkD (gwK bs)) (dbT [] t)).size≤24000:=by
  have h1:=i1_ (rx_ E) (dbT [] t);rw[bI_ t hm.1] at h1;have:t.size*120≤200*120:=Nat.mul_le_mul_right _ hs;omega
 have G:=ry_ E;obtain⟨a,b,c⟩:=rS_ (B:=1000000) (by omega) (by omega) (by have:=G.2.2.1;omega) (sS_ E t) ht (fun m h=>by have:=dt_ hm m h;omega) (by unfold LIM;omega) hlen;obtain⟨s,d⟩:=s8_ G.1 (fun e he=>by have:=G.2.1 e he;omega) (by have:=G.2.2.1;omega) t.size t (aD_ _) hm (by omega);have e:=eS_ s b.st (by rw[c,d]);exact⟨a,b.small hlen,nJ_ s b hlen (by rw[c,d]),by unfold aO_;rw[e]⟩
end
end
section
open Go.RowKit Go.Sort
structure eV_ (S:Nat→Prop)(lo:Nat)(w:World)(v:Value)(es:Kn)(ps:List Value):Prop where
 own:w.ownsRow lo 45 5 v es.length (eE_ es ps)
 len:ps.length=es.length
 at_:∀ (j:Nat) (e:Int × Ty) (p:Value),es[j]? = some e→ps[j]? = some p→∃ a c,p=.slice a e.2.args.length c∧aa_ S w p e.2.args
theorem eV_.nil (S:Nat→Prop)(lo:Nat)(w:World):eV_ S lo w (.slice none 0 0) [] []:=⟨World.ownsRow_nil _ _ _ _,rfl,by simp⟩
theorem eV_.keep {S:Nat→Prop}{lo:Nat}{w w':World}{v:Value}{es:Kn}{ps:List Value}(h:eV_ S lo w v es ps)(hv:∀ b,v.ownBlock=some b→w'.heap[b]? = w.heap[b]?)(hS:∀ b,S b→w'.heap[b]? = w.heap[b]?):eV_ S lo w' v es ps :=
 ⟨aB_ h.own hv,h.len,fun j t sv h1 h2=>by
  obtain⟨a,c,e1,h3⟩:=h.at_ j t sv h1 h2;exact⟨a,c,e1,h3.keep hS⟩⟩
theorem eV_.mono {S S':Nat→Prop}{lo:Nat}{w:World}{v:Value}{es:Kn}{ps:List Value}(h:eV_ S lo w v es ps)(hS:∀ b,S b→S' b):eV_ S' lo w v es ps :=
 ⟨h.own,h.len,fun j t sv h1 h2=>by
  obtain⟨a,c,e1,h3⟩:=h.at_ j t sv h1 h2;exact⟨a,c,e1,h3.mono hS⟩⟩
theorem rv_:(Tryz.prog.info? 45).map (fun i=>(i.zero,i.size,i.bytes))=some (some (.agg #[.int .i64 0,.int .i64 0,.string ByteArray.empty,.int .i64 0,.slice none 0 0]),5,64):=by kernel_rfl
theorem eV_.push {S:Nat→Prop}{lo:Nat}{w:World}{v:Value}{es:Kn}{ps:List Value}(h:eV_ S lo w v es ps)(hlo:lo≤w.heap.size)(hl:es.length≤1000000000000){x:Int × Ty}{a:OA_}{c:Nat}
  (hS:∀ b,S b→b<w.heap.size∧v.ownBlock≠some b) (h1:aa_ S w (.slice a x.2.args.length c) x.2.args) :
  ∃ v' w',(Builtin.append_ #[32,32] 32 #[v,.slice (some ⟨w.heap.size,0,none⟩) 1 1]).run Tryz.prog (w.alloc (.cells #[.int .i64 x.1,.int .i64 x.2.kind,.string x.2.name,.int .i64 x.2.n,.slice a x.2.args.length c] 45))=.ok v' w' ∧
   eV_ S lo w' v' (es++[x]) (ps++[.slice a x.2.args.length c])∧w.grownBy w' v.ownBlock∧(∀ b,v'.ownBlock=some b→v.ownBlock=some b∨w.heap.size≤b)∧w.heap.size<w'.heap.size:=by
 obtain⟨i0,hi0,hz0,hz1,hz3⟩:=info_parts rv_;have hg0:w.grownBy (w.alloc (.cells #[.int .i64 x.1,.int .i64 x.2.kind,.string x.2.name,.int .i64 x.2.n,.slice a x.2.args.length c] 45)) v.ownBlock:=⟨rfl,rfl,rfl,by simp,fun k hk _=>heap_alloc_old w _ hk⟩;obtain⟨g,cap,w',hr,ho,hg,hat,hlt⟩:=run_append_lies (P:=Tryz.prog) (w:=w.alloc (.cells #[.int .i64 x.1,.int .i64 x.2.kind,.string x.2.name,.int .i64 x.2.n,.slice a x.2.args.length c] 45)) 32 32 lo 45 i0 _ 5 64 Tryz.underlying32 hi0 hz0 hz1 hz3 rfl (by omega) v es.length (eE_ es ps) (h.own.alloc _) ⟨w.heap.size,0,none⟩ 1 1
  (ez_ x (.slice a x.2.args.length c)) rfl (World.news_of_block (cs:=#[.int .i64 x.1,.int .i64 x.2.kind,.string x.2.name,.int .i64 x.2.n,.slice a x.2.args.length c]) (t:=45) (fr:=(0,0)) (heap_alloc_new w _)) (by simp[ez_,Value.oneCell']) (by omega) (by unfold maxLen;omega) (by omega) (by simp;omega) (w.heap.size+1) (by simp)
 have hgg:w.grownBy w' v.ownBlock:=⟨hg.os.trans hg0.os,hg.tape.trans hg0.tape,hg.output.trans hg0.output,bN_ hg0.size hg.size,fun k hk hne=>(hg.block k (by simp;omega) hne).trans (hg0.block k hk hne)⟩;have hsz:=hg.size;simp only[World.size_alloc] at hsz;have kS:∀ b,S b→w'.heap[b]? = w.heap[b]? := fun b hb=>hgg.block b (hS b hb).1 (Ne.symm (hS b hb).2);refine⟨_,w',hr,⟨?_,by simp[h.len],fun j t sv h5 h6=>?_⟩,hgg,fun b e=>?_,by omega⟩
 ·rw[gD_ _ _ _ _ h.len,List.length_append];exact ho
 ·rcases Nat.lt_or_ge j es.length with hj|hj
  ·rw[List.getElem?_append_left hj] at h5
   rw[List.getElem?_append_left (by rw[h.len];exact hj)] at h6;obtain⟨b1,b2,e1,h3⟩:=h.at_ j t sv h5 h6;exact⟨b1,b2,e1,h3.keep kS⟩
  ·have hj':j=es.length:=by
    have:=(List.getElem?_eq_some_iff.1 h5).1;simp at this;omega
   subst hj';rw[List.getElem?_append_right (aD_ _)] at h5;rw[← h.len,List.getElem?_append_right (aD_ _)] at h6;simp at h5 h6;subst h5 h6;exact⟨a,c,rfl,h1.keep kS⟩
 ·rcases hat with e3|e3
  ·exact .inl (e3.trans (by simpa [Value.ownBlock] using e))
  ·refine .inr ?_
   have:g=b:=by simpa [Value.ownBlock] using e
   omega
theorem eV_.ks {S:Nat→Prop}{lo:Nat}{w:World}{v:Value}{R:Kn}{ps:List Value}(h:eV_ S lo w v R ps)(hS:∀ b,S b→b<w.heap.size):hq_ w v R:=by
 rcases h.own.2 with ⟨hv,h0⟩|⟨g,cap,cur,hv,hb,hg,h1,h2,h3,h4⟩
 ·exact⟨none,0,by rw[hv,h0],.inl (List.eq_nil_of_length_eq_zero h0)⟩
 ·refine⟨some ⟨g,0,none⟩,cap,hv,.inr ⟨g,0,rfl,(Array.getElem?_eq_some_iff.1 hg).1,fun i hi=>?_⟩⟩
  have hip:i<ps.length:=by rw[h.len];exact hi
  obtain⟨a,c,e1,hA⟩:=h.at_ i R[i] ps[i] (List.getElem?_eq_getElem hi) (List.getElem?_eq_getElem hip);rw[e1] at hA;refine⟨a,c,fun j u hj hu=>?_,hA.mono hS⟩;have hc:=h.own.cells (g:=g) (by rw[hv];rfl) (i*5+j) u (by
   rw[gE_ R ps h.len i hi hip j hj,e1];exact hu)
  have hadd:(⟨g,0,none⟩:Addr).add (i*5+j)=⟨g,0+i*5+j,none⟩:=by unfold Addr.add;split<;>simp_all
  rw[hadd] at hc;exact hc
def to_ (n0:Nat)(w:World)(r:Option Ty)(e:Ending)(w':World):Prop:=Below w.heap.size w w'∧match r with
 | some u=>∃ a c,e=.returned (.tuple #[.agg #[.int .i64 u.kind,.string u.name,.int .i64 u.n,.slice a u.args.length c],.bool true])∧aa_ (Lt n0) w' (.slice a u.args.length c) u.args
 | none=>e=.returned (.tuple #[.agg #[.int .i64 0,.string ⟨#[]⟩,.int .i64 0,.slice none 0 0],.bool false])
theorem rq_ {R:Kn}{m:Int}{i:Nat}(hi:i<R.length)(h:lkK (R.take i) m=none)(e:R[i].1=m):lkK R m=some R[i].2:=by
 have h2:lkK (R.take (i+1)) m=some R[i].2:=by rw[List.take_succ_eq_append_getElem hi,iT_,h];simp[e]
 generalize R[i].2=u at h2
 conv=>lhs;rw[← List.take_append_drop (i+1) R]
 unfold lkK at h2 ⊢;rw[List.find?_append];cases hf:(R.take (i+1)).find? (fun x=>x.1==m) with
 | none=>rw[hf] at h2;cases h2
 | some y=>rw[hf] at h2;exact h2
theorem pi_ {R:Kn}{m:Int}{i:Nat}(hi:i<R.length)(h:lkK (R.take i) m=none)(e:R[i].1≠m):lkK (R.take (i+1)) m=none:=by
 rw[List.take_succ_eq_append_getElem hi,iT_,h];simp[e]
theorem st_ {w0 w:World}{v:Value}{R:Kn}{m:Int}(h:hq_ w0 v R)(hb0:Below w0.heap.size w0 w)(hl:R.length≤1000000000):Calls Tryz.prog 72 #[v,.int .i64 m] w (to_ w0.heap.size w (lkK R m)):=by
 obtain⟨va,vc,rfl,_⟩:=id h;have hz:Below w.heap.size w (w.alloc (.cells #[.int .i64 0,.string ⟨#[]⟩,.int .i64 0,.slice none 0 0] 43)):=ar_ _ _;have k4:=R4.new w (.int .i64 0) (.string ⟨#[]⟩) (.int .i64 0) (.slice none 0 0);have HW:=hid h;have HZ:=hid hz;have H0:=hid (hb0.trans (hz.mono hb0.size));have HS0:=hid hb0.size;obtain⟨c0,c1,c2,c3⟩:=k4.c03;obtain⟨f0,f1,f2,f3⟩:=k4.f03;clear h hz hb0;go_enter Tryz.func72,Tryz.ntmps72;go_wp2;generalize w.alloc (.cells #[.int .i64 0,.string ⟨#[]⟩,.int .i64 0,.slice none 0 0] 43)=W0 at *
 go_loopw [6] (fun iv wr=>∃ i:Nat,iv=.int .i64 i∧i≤R.length∧lkK (R.take i) m=none∧wr=W0) (fun iv _=>R.length - (intOf iv).toNat)
 case atStart=>exact⟨0,rfl,Nat.zero_le _,rfl,rfl⟩
 case round =>
  obtain⟨i,rfl,hil,hno,rfl⟩:=hrel;have NO:=hid hno;clear hno
  by_cases hi:i<R.length
  ·have z0:(0:Int)≤(i:Int):=by omega
   have z1:(i:Int)<(R.length:Int):=(by omega);obtain⟨g,off,a',c',rfl,hg,hc5,hAw⟩:=HW.out.at_ hi;have kc:∀ o,wr.cell? ⟨g,o,none⟩=w0.cell? ⟨g,o,none⟩:=fun o=>World.cell?_of_block (H0.out.block g hg);have g0:=(kc _).trans hc5.1;have g1:=(kc _).trans hc5.2.1;have g2:=(kc _).trans hc5.2.2.1;have g3:=(kc _).trans hc5.2.2.2.1;have g4:=(kc _).trans hc5.2.2.2.2;have AT:=hid (pi_ hi NO.out);have HT:=hid (rq_ hi NO.out);have AW:=hid hAw;clear hAw hc5 kc hg
   by_cases hm:R[i].1=m
   ·have F:Hid (lkK R m=some R[i].2):=hid (HT.out hm)
    generalize R[i].2=u at *;generalize R[i].1=nm at *;subst hm;go_wp2;have q5:=R4.set4 k4 (.int .i64 u.kind) (.string u.name) (.int .i64 u.n) (.slice a' u.args.length c');refine bodyPost_ret (v:=.tuple #[.agg #[.int .i64 u.kind,.string u.name,.int .i64 u.n,.slice a' u.args.length c'],.bool true]) (by simp[results,Tryz.results72,go_sem,q5.c0,q5.c1,q5.c2,q5.c3]) rfl ?_;rw[F.out];have hb:=HZ.out.set4 (aD_ _) (.int .i64 u.kind) (.string u.name) (.int .i64 u.n) (.slice a' u.args.length c');refine⟨hb,a',c',rfl,?_⟩;have hb2:=H0.out.set4 (b:=w.heap.size) HS0.out (.int .i64 u.kind) (.string u.name) (.int .i64 u.n) (.slice a' u.args.length c');exact AW.out.keep fun b h=>hb2.block b h
   ·have z2:(R[i].1==m)=false:=beq_eq_false_iff_ne.2 hm
    have ST:=hid (AT.out hm);clear AT HT hm;generalize R[i]=x at *;go_wp2;go_roundw
    case rel=>exact⟨i+1,by go_num,by omega,ST.out,by trivial⟩
    case measure=>simp[intOf];omega
  ·obtain rfl:i=R.length:=by omega
   have F:Hid (lkK R m=none):=hid (by have:=NO.out;rwa [List.take_length] at this);go_wp2;have q5:=R4.set4 k4 (.int .i64 0) (.string ⟨#[]⟩) (.int .i64 0) (.slice none 0 0);refine bodyPost_ret (v:=.tuple #[.agg #[.int .i64 0,.string ⟨#[]⟩,.int .i64 0,.slice none 0 0],.bool false]) (by simp[results,Tryz.results72,go_sem,q5.c0,q5.c1,q5.c2,q5.c3]) rfl ?_;rw[F.out];exact⟨HZ.out.set4 (aD_ _) _ _ _ _,rfl⟩
end
section
open Go.RowKit
structure jV_ (lo:Nat)(w:World)(v1 v2:Value)(R1 R2:Kn)(ps qs:List Value):Prop where
 hlo:lo≤w.heap.size
 a:dY_ (Lt lo) lo w v1 R1 ps
 b:eV_ (Lt lo) lo w v2 R2 qs
 ne:∀ k,v1.ownBlock=some k→v2.ownBlock≠some k
section
variable {lo : Nat} {w w' : World} {v1 v2 : Value} {R1 R2 : Kn} {ps qs : List Value}
theorem jV_.nil (h:lo≤w.heap.size):jV_ lo w (.slice none 0 0) (.slice none 0 0) [] [] [] []:=⟨h,dY_.nil _ _ _,eV_.nil _ _ _,fun k h=>by simp[Value.ownBlock] at h⟩
theorem jV_.drew (h:jV_ lo w v1 v2 R1 R2 ps qs):jV_ lo w.drew v1 v2 R1 R2 ps qs:=⟨h.hlo,h.a.keep (fun _ _=>rfl) (fun _ _=>rfl),h.b.keep (fun _ _=>rfl) (fun _ _=>rfl),h.ne⟩
def tm_ (lo:Nat)(w:World)(v2:Value)(R1 R2:Kn)(qs:List Value)(x:Int × Ty)(v':Value)(w':World):Prop:=∃ ps',jV_ lo w' v' v2 (R1++[x]) R2 ps' qs∧Below lo w w'
def tl_ (lo:Nat)(w:World)(v1:Value)(R1 R2:Kn)(ps:List Value)(x:Int × Ty)(v':Value)(w':World):Prop:=∃ qs',jV_ lo w' v1 v' R1 (R2++[x]) ps qs'∧Below lo w w'
theorem jV_.push1 (h:jV_ lo w v1 v2 R1 R2 ps qs)(hl:R1.length≤1000){x:Int × Ty}{a:OA_}{c:Nat}(h1:aa_ (Lt lo) w (.slice a x.2.args.length c) x.2.args) :
  ∃ v' w',(Builtin.append_ #[28,28] 28 #[v1,.slice (some ⟨w.heap.size,0,none⟩) 1 1]).run Tryz.prog (w.alloc (.cells #[.int .i64 x.1,.int .i64 x.2.kind,.string x.2.name,.int .i64 x.2.n,.slice a x.2.args.length c] 39))=.ok v' w'∧tm_ lo w v2 R1 R2 qs x v' w':=by
 obtain⟨v',w',hr,ha,hg,ho,hs⟩:=h.a.push h.hlo (by omega) (x:=x) (fun b hb=>⟨aZ_ hb h.hlo,fun e=>by have:=(h.a.own.lt b e).1;have hb':b<lo:=hb;omega⟩) h1;have kB:Below lo w w':=(Below.refl lo w).grown hg h.hlo fun k e=>(h.a.own.lt k e).1;refine⟨v',w',hr,_,⟨bN_ h.hlo (Nat.le_of_lt hs),ha,h.b.keep (fun b e=>hg.block b (h.b.own.lt b e).2 fun e2=>h.ne b e2.symm e) (fun b hb=>kB.block b hb),fun k e e2=>?_⟩,kB⟩
 rcases ho k e with e3|e3
 ·exact h.ne k e3 e2
 ·have:=(h.b.own.lt k e2).2;omega
theorem jV_.push2 (h:jV_ lo w v1 v2 R1 R2 ps qs)(hl:R2.length≤1000){x:Int × Ty}{a:OA_}{c:Nat}(h1:aa_ (Lt lo) w (.slice a x.2.args.length c) x.2.args) :
  ∃ v' w',(Builtin.append_ #[32,32] 32 #[v2,.slice (some ⟨w.heap.size,0,none⟩) 1 1]).run Tryz.prog (w.alloc (.cells #[.int .i64 x.1,.int .i64 x.2.kind,.string x.2.name,.int .i64 x.2.n,.slice a x.2.args.length c] 45))=.ok v' w'∧tl_ lo w v1 R1 R2 ps x v' w':=by
 obtain⟨v',w',hr,ha,hg,ho,hs⟩:=h.b.push h.hlo (by omega) (x:=x) (fun b hb=>⟨aZ_ hb h.hlo,fun e=>by have:=(h.b.own.lt b e).1;have hb':b<lo:=hb;omega⟩) h1;have kB:Below lo w w':=(Below.refl lo w).grown hg h.hlo fun k e=>(h.b.own.lt k e).1;refine⟨v',w',hr,_,⟨bN_ h.hlo (Nat.le_of_lt hs),h.a.keep (fun b e=>hg.block b (h.a.own.lt b e).2 fun e2=>h.ne b e e2.symm) (fun b hb=>kB.block b hb),ha,fun k e e2=>?_⟩,kB⟩
 rcases ho k e2 with e3|e3
 ·exact h.ne k e e3
 ·have:=(h.a.own.lt k e).2;omega
theorem jV_.row1 (h:jV_ lo w v1 v2 R1 R2 ps qs):hq_ w v1 R1:=h.a.ks fun _ hb=>aZ_ hb h.hlo
theorem jV_.row2 (h:jV_ lo w v1 v2 R1 R2 ps qs):hq_ w v2 R2:=h.b.ks fun _ hb=>aZ_ hb h.hlo
end
theorem eg_.es {S:Nat→Prop}{lo:Nat}{w:World}{v:Value}{es:List EqT}{ps:List (Value × Value)}(h:eg_ S lo w v es ps)(hl:es.length≤1000000000000)(hS:∀ b,S b→b<w.heap.size):pU_ w v es :=
 ((h.eqs hl).mono fun b e=>(h.own.lt b e).2).monoT hS
end
end Go.Proofs.YtjecnionbjlncaaGreatDoor.Tp

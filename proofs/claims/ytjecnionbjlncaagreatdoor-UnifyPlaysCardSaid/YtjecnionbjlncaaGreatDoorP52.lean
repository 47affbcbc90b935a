/- Packed. -/
import Derived.Test.YtjecnionbjlncaaGreatDoorP51
set_option maxRecDepth 100000
set_option maxHeartbeats 6400000
namespace Go.Proofs.YtjecnionbjlncaaGreatDoor.Tp
section
open Go.RowKit
theorem rP_ (S:Nat→Prop)(m:Int)(u t:Ty)(a ua:OA_)(c uc:Nat)(w:World)(hA:AtW t a c w)(hUS:aa_ S w (.slice ua u.args.length uc) u.args)(hS:∀ b,S b→b<w.heap.size)(hs:Std t)(hu:Std u)(hsz:t.size≤1000000000000)(hus:u.size≤1000000000000)(hbl:(fE_ ⟨#[]⟩ u t).length≤1000000000)(hmul:t.size*((fE_ ⟨#[]⟩ u t).length+1)≤100000000000000000) :
  Calls Tryz.prog 73 #[.agg #[.int .i64 t.kind,.string t.name,.int .i64 t.n,.slice a t.args.length c],.int .i64 m,.agg #[.int .i64 u.kind,.string u.name,.int .i64 u.n,.slice ua u.args.length uc]] w (TP S (b1_ m u t) w):=by
 have hU:AtW u ua uc w:=hUS.mono hS;have HS:=hid hS;have M:=eZ_.new w t u a ua c uc;have hAt:=hA.low M.hz;have hUt:=hU.low M.hz;have ham:=cT_ ⟨#[]⟩ u t hs;have has:=lJ_ ⟨#[]⟩ u t hs;have CAP:=hid (fun (W:World) (h1:AtW t a c W) (h2:AtW u ua uc W)=>hG_ ⟨#[]⟩ u t a ua c uc W h1 h2 hs hu hsz hus hbl hmul);have CPU:=hid (fun (W:World) (a':OA_) (c':Nat) (hW:w.heap.size≤W.heap.size) (h1:aa_ (fun b=>S b∨(w.heap.size+3≤b∧b<W.heap.size)) W (.slice a' (cU_ ⟨#[]⟩ u t).args.length c') (cU_ ⟨#[]⟩ u t).args) (h2:aa_ (fun b=>S b∨(w.heap.size+3≤b∧b<W.heap.size)) W (.slice ua u.args.length uc) u.args)=>k6_ 2 ⟨#[]⟩ m (bE_ m) u (fun x hx=>by
  unfold dD_;rw[df_];simp only[Bool.and_eq_true,beq_iff_eq];exact⟨fun h=>⟨h.1,(hx.k2 h.1).1,h.2⟩,fun h=>⟨h.1,h.2.2⟩⟩) (cU_ ⟨#[]⟩ u t) _ a' ua c' uc W h1 h2 (fun b h=>h.elim (fun h=>aU_ (hS b h) hW) (fun h=>h.2)) ham (by omega))
 have UH:Hid (∀ (W:World),Below w.heap.size w W→aa_ (fun b=>S b∨(w.heap.size+3≤b∧b<W.heap.size)) W (.slice ua u.args.length uc) u.args):=hid (fun W h=>(hUS.keep fun b hb=>h.block b (hS b hb)).mono fun b hb=>.inl hb);unfold b1_ emp;generalize cU_ ⟨#[]⟩ u t=y at *;generalize sbT (bE_ m) u y=z at *;have MH:=hid M;have AT:=hid hAt;have UT:=hid hUt;clear hA hU hs hu hsz hus hbl hmul M hAt hUt ham has;unfold tv at CAP CPU;go_enter Tryz.func73,Tryz.ntmps73;go_wp2;generalize ((w.alloc (.cells #[.int .i64 t.kind,.string t.name,.int .i64 t.n,.slice a t.args.length c] 43)).alloc (.cells #[.int .i64 u.kind,.string u.name,.int .i64 u.n,.slice ua u.args.length uc] 43)).alloc (.cells #[.int .i64 0,.string ⟨#[]⟩,.int .i64 0,.slice none 0 0] 43)=W0 at *;have HD:=hid (Below.refl W0.heap.size W0).drew;have KK:Hid (∀ W:World,Below W0.heap.size W0 W→W.cell? ⟨w.heap.size,0,none⟩=some (.int .i64 t.kind)∧W.cell? ⟨w.heap.size,1,none⟩=some (.string t.name)∧W.cell? ⟨w.heap.size,2,none⟩=some (.int .i64 t.n)∧W.cell? ⟨w.heap.size,3,none⟩=some (.slice a t.args.length c)∧W.cell? ⟨w.heap.size+1,0,none⟩=some (.int .i64 u.kind)∧W.cell? ⟨w.heap.size+1,1,none⟩=some (.string u.name)∧W.cell? ⟨w.heap.size+1,2,none⟩=some (.int .i64 u.n)∧W.cell? ⟨w.heap.size+1,3,none⟩=some (.slice ua u.args.length uc)):=hid (fun W h=>⟨(MH.out.low h).kt.c0,(MH.out.low h).kt.c1,(MH.out.low h).kt.c2,(MH.out.low h).kt.c3,(MH.out.low h).ku.c0,(MH.out.low h).ku.c1,(MH.out.low h).ku.c2,(MH.out.low h).ku.c3⟩);have KS:Hid (∀ (W:World) (v0 v1 v2 v3:Value),Below W0.heap.size W0 W→((((W.setCell ⟨w.heap.size+1+1,0,none⟩ v0).setCell ⟨w.heap.size+1+1,1,none⟩ v1).setCell ⟨w.heap.size+1+1,2,none⟩ v2).setCell ⟨w.heap.size+1+1,3,none⟩ v3).cell? ⟨w.heap.size,0,none⟩=some (.int .i64 t.kind)∧((((W.setCell ⟨w.heap.size+1+1,0,none⟩ v0).setCell ⟨w.heap.size+1+1,1,none⟩ v1).setCell ⟨w.heap.size+1+1,2,none⟩ v2).setCell ⟨w.heap.size+1+1,3,none⟩ v3).cell? ⟨w.heap.size,1,none⟩=some (.string t.name)∧((((W.setCell ⟨w.heap.size+1+1,0,none⟩ v0).setCell ⟨w.heap.size+1+1,1,none⟩ v1).setCell ⟨w.heap.size+1+1,2,none⟩ v2).setCell ⟨w.heap.size+1+1,3,none⟩ v3).cell? ⟨w.heap.size,2,none⟩=some (.int .i64 t.n)∧((((W.setCell ⟨w.heap.size+1+1,0,none⟩ v0).setCell ⟨w.heap.size+1+1,1,none⟩ v1).setCell ⟨w.heap.size+1+1,2,none⟩ v2).setCell ⟨w.heap.size+1+1,3,none⟩ v3).cell? ⟨w.heap.size,3,none⟩=some (.slice a t.args.length c)∧((((W.setCell ⟨w.heap.size+1+1,0,none⟩ v0).setCell ⟨w.heap.size+1+1,1,none⟩ v1).setCell ⟨w.heap.size+1+1,2,none⟩ v2).setCell ⟨w.heap.size+1+1,3,none⟩ v3).cell? ⟨w.heap.size+1,0,none⟩=some (.int .i64 u.kind)∧((((W.setCell ⟨w.heap.size+1+1,0,none⟩ v0).setCell ⟨w.heap.size+1+1,1,none⟩ v1).setCell ⟨w.heap.size+1+1,2,none⟩ v2).setCell ⟨w.heap.size+1+1,3,none⟩ v3).cell? ⟨w.heap.size+1,1,none⟩=some (.string u.name)∧((((W.setCell ⟨w.heap.size+1+1,0,none⟩ v0).setCell ⟨w.heap.size+1+1,1,none⟩ v1).setCell ⟨w.heap.size+1+1,2,none⟩ v2).setCell ⟨w.heap.size+1+1,3,none⟩ v3).cell? ⟨w.heap.size+1,2,none⟩=some (.int .i64 u.n)∧((((W.setCell ⟨w.heap.size+1+1,0,none⟩ v0).setCell ⟨w.heap.size+1+1,1,none⟩ v1).setCell ⟨w.heap.size+1+1,2,none⟩ v2).setCell ⟨w.heap.size+1+1,3,none⟩ v3).cell? ⟨w.heap.size+1,3,none⟩=some (.slice ua u.args.length uc)):=hid (fun W v0 v1 v2 v3 h=>by
  have q:=(MH.out.low h).set v0 v1 v2 v3;exact⟨q.1.c0,q.1.c1,q.1.c2,q.1.c3,q.2.1.c0,q.2.1.c1,q.2.1.c2,q.2.1.c3⟩)
 obtain⟨k0,k1,k2',k3,k4,k5,k6,k7⟩:=KK.out W0 (Below.refl _ _)
 go_region_held3 (fun w'=>w'.cell? ⟨w.heap.size,0,none⟩=some (.int .i64 t.kind)∧w'.cell? ⟨w.heap.size,1,none⟩=some (.string t.name)∧w'.cell? ⟨w.heap.size,2,none⟩=some (.int .i64 t.n)∧w'.cell? ⟨w.heap.size,3,none⟩=some (.slice a t.args.length c)∧w'.cell? ⟨w.heap.size+1,0,none⟩=some (.int .i64 u.kind)∧w'.cell? ⟨w.heap.size+1,1,none⟩=some (.string u.name)∧w'.cell? ⟨w.heap.size+1,2,none⟩=some (.int .i64 u.n)∧w'.cell? ⟨w.heap.size+1,3,none⟩=some (.slice ua u.args.length uc))
  (first|(with_reducible exact KS.out _ _ _ _ _ HX2.out)|(with_reducible exact KK.out _ HX2.out)|(with_reducible exact KK.out _ HX1.out)|(with_reducible exact KK.out _ HD.out)|go_keep)
  (first
   | (go_at_call 108;(with_reducible refine (CAP.out _ (AT.out.low HD.out) (UT.out.low HD.out)).mono ?_);rintro e w1 ⟨a1,c1,rfl,hA1,hb1⟩;have HX1:=hid (HD.out.trans (hb1.mono HD.out.size));have CP:=hid (CPU.out w1 a1 c1 (bL_ MH.out.hz.size HX1.out.size) (hA1.mono fun b hb=>by rcases hb with h|h;exact h.elim;exact .inr ⟨by have h1:=h.1;have h2:=MH.out.lt;simp at h1;omega,h.2⟩) (UH.out _ (MH.out.hz.trans (HX1.out.mono MH.out.hz.size))));clear hA1 hb1;unfold tv)
   | (go_at_call 109;(with_reducible refine CP.out.mono ?_);rintro e w2 ⟨a2,c2,rfl,hA2,hb2⟩;have HX2:=hid (HX1.out.trans (hb2.mono HX1.out.size));have hm2:=MH.out.low HX2.out;have r0:=hm2.kr.c0;have r1:=hm2.kr.c1;have r2:=hm2.kr.c2;have r3:=hm2.kr.c3;have f0:=hm2.kr.fr 0;have f1:=hm2.kr.fr 1;have f2:=hm2.kr.fr 2;have f3:=hm2.kr.fr 3;have M2:=hid hm2;have LW:=hid hb2.size;have HA2:=hid hA2;clear hA2 hb2 hm2;unfold tv))
 all_goals
  go_wp2;have q:=M2.out.set (.int .i64 z.kind) (.string z.name) (.int .i64 z.n) (.slice a2 z.args.length c2);refine bodyPost_ret (v:=.agg #[.int .i64 z.kind,.string z.name,.int .i64 z.n,.slice a2 z.args.length c2]) (by simp[results,Tryz.results73,go_sem,q.2.2.1.c0,q.2.2.1.c1,q.2.2.1.c2,q.2.2.1.c3]) rfl ?_;have hlt:=MH.out.lt;have hx1:=HX1.out.size;have hlw:=LW.out;have hsz:∀ v0 v1 v2 v3:Value,((((w2.setCell ⟨w.heap.size+1+1,0,none⟩ v0).setCell ⟨w.heap.size+1+1,1,none⟩ v1).setCell ⟨w.heap.size+1+1,2,none⟩ v2).setCell ⟨w.heap.size+1+1,3,none⟩ v3).heap.size=w2.heap.size:=fun _ _ _ _=>by simp
  have hne:∀ b,New (fun b=>S b∨(w.heap.size+3≤b∧b<w1.heap.size)) w1 w2 b→b≠w.heap.size+1+1∧(S b∨(w.heap.size≤b∧b<w2.heap.size)):=fun b hb=>by
   rcases hb with (h|h)|h
   ·exact⟨by have:=HS.out b h;omega,.inl h⟩
   ·exact⟨by omega,.inr (by omega)⟩
   ·exact⟨by omega,.inr (by omega)⟩
  refine⟨a2,c2,rfl,(HA2.out.keep fun b hb=>?_).mono fun b hb=>?_,q.2.2.2⟩
  ·have hb:=(hne b hb).1
   rw[av_ _ _ _ _ hb,av_ _ _ _ _ hb,av_ _ _ _ _ hb,av_ _ _ _ _ hb]
  ·exact (hne b hb).2.imp id fun h=>⟨h.1,by rw[hsz];exact h.2⟩
end
section
open Go.RowKit Go.Sort
def FlP (S:Nat→Prop)(K:Kn)(t:Ty)(w:World)(e:Ending)(w':World):Prop:=∃ y a c,e=.returned (.agg #[.int .i64 y.kind,.string y.name,.int .i64 y.n,.slice a y.args.length c])∧aa_ (New S w w') w' (.slice a y.args.length c) y.args∧Below w.heap.size w w'∧FlO K t y
def uq_ (w0:World)(kv:Value)(NL:List ByteArray)(fr:Nat)(K:Kn)(N:Nat):Prop:=∀ (S:Nat→Prop) (t:Ty) (a:OA_) (c:Nat) (w:World),(∀ b,b<w0.heap.size→S b)→(∀ b,S b→b<w.heap.size)→Below w0.heap.size w0 w→aa_ S w (.slice a t.args.length c) t.args→Ni NL fr t→(fl (sg K) (dbT [] t)).size≤LIM→wtK K (dbT [] t)<N →
  Calls Tryz.prog 39 #[kv,.agg #[.int .i64 t.kind,.string t.name,.int .i64 t.n,.slice a t.args.length c]] w (FlP S K t w)
theorem ob_ {l:List Int}{i:Nat}(h:i<l.length){P:Int→Prop}(h1:∀ m∈l.take i,P m)(h2:P l[i]):∀ m∈l.take (i+1),P m:=fun m hm=>by
 rw[List.take_succ_eq_append_getElem h,List.mem_append,List.mem_singleton] at hm
 rcases hm with hm|rfl
 ·exact h1 m hm
 ·exact h2
theorem ki_ {w0:World}{kv:Value}{NL:List ByteArray}{fr:Nat}{K:Kn}(hK:jZ_ w0 kv K)(H:FlK NL fr K):∀ N:Nat,uq_ w0 kv NL fr K N:=by
 obtain⟨ka,kc,rfl,_⟩:=id hK;have RW0:=hid hK;have FK:=hid H;have hkl:=H.kl;clear hK;intro N
 induction N with
 | zero =>
  intro S t a c w _ _ _ _ _ _ h;omega
 | succ N ih =>
  intro S t a c w hS0 hS hB0 hA hni hsz hwt;have hz:Below w.heap.size w ((w.alloc (.cells #[.int .i64 t.kind,.string t.name,.int .i64 t.n,.slice a t.args.length c] 43)).alloc (.cells #[.int .i64 0,.string ⟨#[]⟩,.int .i64 0,.slice none 0 0] 43)):=(aq_ _ _).alloc (by simp) _;have q0:=R4.new w (.int .i64 t.kind) (.string t.name) (.int .i64 t.n) (.slice a t.args.length c);have q1:=R4.new (w.alloc (.cells #[.int .i64 t.kind,.string t.name,.int .i64 t.n,.slice a t.args.length c] 43)) (.int .i64 0) (.string ⟨#[]⟩) (.int .i64 0) (.slice none 0 0);rw[show (w.alloc (.cells #[.int .i64 t.kind,.string t.name,.int .i64 t.n,.slice a t.args.length c] 43)).heap.size=w.heap.size+1 from by simp] at q1;have kt:=q0.low (aq_ _ (.cells #[.int .i64 0,.string ⟨#[]⟩,.int .i64 0,.slice none 0 0] 43));have N1:Hid (((w.alloc (.cells #[.int .i64 t.kind,.string t.name,.int .i64 t.n,.slice a t.args.length c] 43)).alloc (.cells #[.int .i64 0,.string ⟨#[]⟩,.int .i64 0,.slice none 0 0] 43)).heap.size=w.heap.size+2):=hid (by simp);have hts:t.size≤2013265920:=by have:=hni.sz;rw[bt_ t hni.st []] at this;exact this
  have CM:=hid (hH_ t _ a c ((w.alloc (.cells #[.int .i64 t.kind,.string t.name,.int .i64 t.n,.slice a t.args.length c] 43)).alloc (.cells #[.int .i64 0,.string ⟨#[]⟩,.int .i64 0,.slice none 0 0] 43)) (hA.keep fun b hb=>hz.block b (hS b hb)) (fun b hb=>aU_ (hS b hb) hz.size) (fi_ t hni.st) (by omega));obtain⟨c0,c1,c2,c3⟩:=kt.c03;have KT:=hid kt;have KR:=hid q1;have HZ:=hid hz;have HB0:=hid hB0;have HS0:=hid hS0;have HS:=hid hS;have HA:=hid hA;have NI:=hid hni;have SZ:=hid hsz;have WT:=hid hwt;have IH:=hid ih;clear hz q0 q1 kt hS0 hS hB0 hA hni hsz hwt ih;go_enter Tryz.func39,Tryz.ntmps39;go_wp2_with fail;generalize (w.alloc (.cells #[.int .i64 t.kind,.string t.name,.int .i64 t.n,.slice a t.args.length c] 43)).alloc (.cells #[.int .i64 0,.string ⟨#[]⟩,.int .i64 0,.slice none 0 0] 43)=W1 at *;refine CM.out.mono ?_;rintro e w2 ⟨mv,rfl,hM,hb⟩;obtain⟨⟨ma,mc,rfl,hml,hm2,hmc⟩,_⟩:=hM;have MC:=hid hmc;have HB2:=hid hb;clear hb CM c0 c1 c2 c3 hmc;go_wp2
  go_loopw [6] (fun iv wr=>∃ i:Nat,iv=.int .i64 i∧i≤(ay_ t).length∧(∀ m∈(ay_ t).take i,lkK K m=none)∧Below w2.heap.size w2 wr) (fun iv _=>(ay_ t).length - (intOf iv).toNat)
  case atStart=>exact⟨0,rfl,Nat.zero_le _,fun m hm=>by simp at hm,Below.refl _ _⟩
  case round =>
   obtain⟨i,rfl,hil,hno,hBr⟩:=hrel;have i0:(0:Int)≤(i:Int):=(by omega);have NO:=hid hno;have BR:=hid hBr;have B1r:=hid (HB2.out.trans (hBr.mono HB2.out.size));have BWr:=hid (HZ.out.trans (B1r.out.mono HZ.out.size));clear hno
   by_cases hi:i<(ay_ t).length
   ·have i1:(i:Int)<((ay_ t).length:Int):=by omega
    obtain⟨b,off,rfl,hbm,hcc⟩:=MC.out.resolve_left (by intro e;rw[e] at hi;simp at hi);have hx0:=(World.cell?_of_block (hBr.block b hbm)).trans (hcc i hi);have HBM:=hid (aU_ hbm hBr.size);have ME:=hid (List.getElem_mem hi);have CF:=hid (ns_ (w0:=w0) (w:=wr) (m:=(ay_ t)[i]) RW0.out (HB0.out.trans (BWr.out.mono HB0.out.size)) (by omega));have MT:Hid (lkK K (ay_ t)[i]=none→∀ m∈(ay_ t).take (i+1),lkK K m=none):=hid fun h=>ob_ hi NO.out h;clear hcc hBr hbm;generalize (ay_ t)[i]=x at *;go_wp2_with fail;refine CF.out.mono ?_;rintro e w3 ⟨hb3,hres⟩;have hx3:=(World.cell?_of_block (hb3.block b HBM.out)).trans hx0;have HBM3:=hid (aU_ HBM.out hb3.size);have B3:=hid (B1r.out.trans (hb3.mono B1r.out.size));have BR3:=hid (BR.out.trans (hb3.mono BR.out.size));clear CF hx0;cases hl:lkK K x with
    | none =>
     rw[hl] at hres;subst hres;have MT2:=hid (MT.out hl);have BR4:=hid (BR3.out.alloc BR3.out.size (.cells #[.int .i64 0,.string ⟨#[]⟩,.int .i64 0,.slice none 0 0] 43));clear hb3 hl hx3;go_wp2;go_roundw
     case rel=>exact⟨i+1,by go_num,by omega,MT2.out,BR4.out⟩
     case measure=>simp[intOf];omega
    | some u =>
     rw[hl] at hres;obtain⟨ua,uc,rfl,hU⟩:=hres;obtain⟨nt',wt',eq'⟩:=FK.out.step ME.out hl NI.out SZ.out;obtain⟨nu,_,_⟩:=FK.out.row x u hl;have hbut:=NI.out.but (by have:=FK.out.ll;omega) nu ⟨#[]⟩;have hus:u.size≤2013265920:=by have:=nu.sz;rw[bt_ u nu.st []] at this;exact this
     have EQ:=hid eq';have NT:=hid nt';have SZ':Hid ((fl (sg K) (dbT [] (b1_ x u t))).size≤LIM):=hid (by rw[eq'];exact SZ.out);have WT':Hid (wtK K (dbT [] (b1_ x u t))<N):=hid (by have:=WT.out;omega);have hz5:Below w3.heap.size w3 (w3.alloc (.cells #[.int .i64 u.kind,.string u.name,.int .i64 u.n,.slice ua u.args.length uc] 43)):=aq_ _ _;have ku:=R4.new w3 (.int .i64 u.kind) (.string u.name) (.int .i64 u.n) (.slice ua u.args.length uc);have B5:=hid (B3.out.trans (hz5.mono B3.out.size));have KU:=hid ku;have U5:=hid (hU.keep fun b' hb'=>hz5.block b' (aU_ hb' (bL_ HB0.out.size (bL_ HZ.out.size B3.out.size))));have hx5:=(World.cell?_of_block (hz5.block b HBM3.out)).trans hx3;have HX5:=hid hx5;have HBM5:=hid (aU_ HBM3.out hz5.size);have CFL:Hid (∀ W:World,Below (w3.alloc (.cells #[.int .i64 u.kind,.string u.name,.int .i64 u.n,.slice ua u.args.length uc] 43)).heap.size (w3.alloc (.cells #[.int .i64 u.kind,.string u.name,.int .i64 u.n,.slice ua u.args.length uc] 43)) W→Calls Tryz.prog 73 #[.agg #[.int .i64 t.kind,.string t.name,.int .i64 t.n,.slice a t.args.length c],.int .i64 x,.agg #[.int .i64 u.kind,.string u.name,.int .i64 u.n,.slice ua u.args.length uc]] W (TP S (b1_ x u t) W)):=hid (fun W h=>rP_ S x u t a ua c uc W ((HA.out.keep fun b' hb'=>(HZ.out.trans ((B5.out.trans (h.mono B5.out.size)).mono HZ.out.size)).block b' (HS.out b' hb')).mono fun b' hb'=>aU_ (HS.out b' hb') (HZ.out.trans ((B5.out.trans (h.mono B5.out.size)).mono HZ.out.size)).size)
      ((U5.out.keep fun b' hb'=>h.block b' (aU_ (aU_ hb' HB0.out.size) (HZ.out.trans (B5.out.mono HZ.out.size)).size)).mono HS0.out) (fun b' hb'=>aU_ (HS.out b' hb') (HZ.out.trans ((B5.out.trans (h.mono B5.out.size)).mono HZ.out.size)).size) NI.out.st nu.st (by omega) (by omega) (by have:=hbut.2.1;omega) hbut.2.2)
     have N1h:=N1.out;have IHC:Hid (∀ (W:World) (a':OA_) (c':Nat),Below (w3.alloc (.cells #[.int .i64 u.kind,.string u.name,.int .i64 u.n,.slice ua u.args.length uc] 43)).heap.size (w3.alloc (.cells #[.int .i64 u.kind,.string u.name,.int .i64 u.n,.slice ua u.args.length uc] 43)) W→aa_ (fun b=>S b∨w.heap.size+2≤b∧b<W.heap.size) W (.slice a' (b1_ x u t).args.length c') (b1_ x u t).args→Calls Tryz.prog 39 #[.slice ka K.length kc,.agg #[.int .i64 (b1_ x u t).kind,.string (b1_ x u t).name,.int .i64 (b1_ x u t).n,.slice a' (b1_ x u t).args.length c']] W (FlP (fun b=>S b∨w.heap.size+2≤b∧b<W.heap.size) K (b1_ x u t) W)):=hid (fun W a' c' h hA'=>IH.out _ (b1_ x u t) a' c' W (fun b' hb'=>.inl (HS0.out b' hb')) (fun b' hb'=>hb'.elim (fun h'=>aU_ (HS.out b' h') (HZ.out.trans ((B5.out.trans (h.mono B5.out.size)).mono HZ.out.size)).size) (fun h'=>h'.2)) (HB0.out.trans ((HZ.out.trans ((B5.out.trans (h.mono B5.out.size)).mono HZ.out.size)).mono HB0.out.size)) hA' NT.out SZ'.out WT'.out);clear hb3 hl hx3 hU nt' wt' eq' nu hbut hus hz5 ku;generalize b1_ x u t=t' at *
     go_upto_region 7 with fail
     have W5S:Hid ((w3.alloc (.cells #[.int .i64 u.kind,.string u.name,.int .i64 u.n,.slice ua u.args.length uc] 43)).heap.size=w3.heap.size+1):=hid (by simp);generalize w3.alloc (.cells #[.int .i64 u.kind,.string u.name,.int .i64 u.n,.slice ua u.args.length uc] 43)=W5 at *;have HD:=hid (Below.refl W5.heap.size W5).drew;have KTW:=hid (KT.out.low B5.out);have KRW:=hid (KR.out.low B5.out);have KK:Hid (∀ W:World,Below W5.heap.size W5 W→W.cell? ⟨w.heap.size,0,none⟩=some (.int .i64 t.kind)∧W.cell? ⟨w.heap.size,1,none⟩=some (.string t.name)∧W.cell? ⟨w.heap.size,2,none⟩=some (.int .i64 t.n)∧W.cell? ⟨w.heap.size,3,none⟩=some (.slice a t.args.length c)∧W.cell? ⟨w3.heap.size,0,none⟩=some (.int .i64 u.kind)∧W.cell? ⟨w3.heap.size,1,none⟩=some (.string u.name)∧W.cell? ⟨w3.heap.size,2,none⟩=some (.int .i64 u.n)∧W.cell? ⟨w3.heap.size,3,none⟩=some (.slice ua u.args.length uc)∧W.cell? ⟨b,off+i,none⟩=some (.int .i64 x)):=hid (fun W h=>⟨(KTW.out.low h).c0,(KTW.out.low h).c1,(KTW.out.low h).c2,(KTW.out.low h).c3,(KU.out.low h).c0,(KU.out.low h).c1,(KU.out.low h).c2,(KU.out.low h).c3,(World.cell?_of_block (h.block b HBM5.out)).trans HX5.out⟩);obtain⟨k0,k1,k2,k3,k4,k5,k6,k7,k8⟩:=KK.out W5 (Below.refl _ _)
     go_region_law (first
       | (go_simp;go_at_call 73;(with_reducible refine (CFL.out _ HD.out).mono ?_);rintro e w6 ⟨a6,c6,rfl,hA6,hb6⟩;have HX1:=hid (HD.out.trans (hb6.mono HD.out.size));have CI:=hid (IHC.out w6 a6 c6 HX1.out (hA6.mono fun b' hb'=>hb'.elim .inl fun h'=>.inr ⟨by have h1:=h'.1;have h2:=B5.out.size;simp at h1;omega,h'.2⟩));clear hA6 hb6;unfold tv)
       | (go_simp;go_at_call 39;(with_reducible refine CI.out.mono ?_);rintro e w7 ⟨y,a7,c7,rfl,hA7,hb7,hy⟩;have HX2:=hid (HX1.out.trans (hb7.mono HX1.out.size));have kr7:=KRW.out.low HX2.out;have r0:=kr7.c0;have r1:=kr7.c1;have r2:=kr7.c2;have r3:=kr7.c3;have f0:=kr7.fr 0;have f1:=kr7.fr 1;have f2:=kr7.fr 2;have f3:=kr7.fr 3;have KR7:=hid kr7;have HA7:=hid hA7;have HY:=hid hy;have S67:=hid hb7.size;clear hA7 hb7 hy kr7))
     all_goals
      go_wp2;have q5:=R4.set4 KR7.out (.int .i64 y.kind) (.string y.name) (.int .i64 y.n) (.slice a7 y.args.length c7);have hbw:=HZ.out.trans ((B5.out.trans (HX2.out.mono B5.out.size)).mono HZ.out.size);have hb4:=hbw.set4 (b:=w.heap.size+1) (by omega) (.int .i64 y.kind) (.string y.name) (.int .i64 y.n) (.slice a7 y.args.length c7);refine bodyPost_ret (v:=.agg #[.int .i64 y.kind,.string y.name,.int .i64 y.n,.slice a7 y.args.length c7]) (by simp[results,Tryz.results39,go_sem,q5.c0,q5.c1,q5.c2,q5.c3]) rfl ?_;refine⟨y,a7,c7,rfl,(HA7.out.keep fun b' hb'=>?_).mono fun b' hb'=>?_,hb4,HY.out.1,HY.out.2.1,by rw[← EQ.out];exact HY.out.2.2⟩
      ·have hne:b'≠w.heap.size+1:=by
        rcases hb' with (h1|h1)|h1
        ·have:=HS.out b' h1;omega
        ·have:=h1.1;omega
        ·have h2:=h1.1;have h3:=HX1.out.size;have h4:=B5.out.size;omega
       rw[av_ _ _ _ _ hne,av_ _ _ _ _ hne,av_ _ _ _ _ hne,av_ _ _ _ _ hne]
      ·rcases hb' with (h1|h1)|h1
       ·exact .inl h1
       ·refine .inr ⟨by have:=h1.1;omega,?_⟩
        simp only[World.size_setCell];exact aU_ h1.2 S67.out
       ·refine .inr ⟨by have h2:=h1.1;have h3:=HX1.out.size;have h4:=B5.out.size;omega,?_⟩
        simp only[World.size_setCell];exact h1.2
   ·obtain rfl:i=(ay_ t).length:=by omega
    have FN:Hid (FlO K t t):=hid (FK.out.none NI.out (by have:=NO.out;rwa [List.take_length] at this));have kt:=KT.out.low B1r.out;have kr:=KR.out.low B1r.out;obtain⟨t0,t1,t2,t3⟩:=kt.c03;obtain⟨r0,r1,r2,r3⟩:=kr.c03;obtain⟨f0,f1,f2,f3⟩:=kr.f03;have K5:=hid kr;have N1h:=N1.out;clear hBr kt kr;go_wp2;have q5:=R4.set4 K5.out (.int .i64 t.kind) (.string t.name) (.int .i64 t.n) (.slice a t.args.length c);have hb4:=BWr.out.set4 (b:=w.heap.size+1) (by omega) (.int .i64 t.kind) (.string t.name) (.int .i64 t.n) (.slice a t.args.length c);refine bodyPost_ret (v:=.agg #[.int .i64 t.kind,.string t.name,.int .i64 t.n,.slice a t.args.length c]) (by simp[results,Tryz.results39,go_sem,q5.c0,q5.c1,q5.c2,q5.c3]) rfl ?_;exact⟨t,a,c,rfl,(HA.out.keep fun b' hb'=>hb4.block b' (HS.out b' hb')).mono fun b' hb'=>.inl hb',hb4,FN.out⟩
theorem ji_ {w:World}{kv:Value}{NL:List ByteArray}{fr:Nat}{K:Kn}{t:Ty}{a:OA_}{c:Nat}(hK:jZ_ w kv K)(H:FlK NL fr K)(hA:AtW t a c w)(hn:Ni NL fr t)(hz:(fl (sg K) (dbT [] t)).size≤LIM) :
  Calls Tryz.prog 39 #[kv,.agg #[.int .i64 t.kind,.string t.name,.int .i64 t.n,.slice a t.args.length c]] w (FlP (Lt w.heap.size) K t w) :=
 ki_ hK H (wtK K (dbT [] t)+1) (Lt w.heap.size) t a c w (fun _ h=>h) (fun _ h=>h) (Below.refl _ _) hA hn hz (Nat.lt_succ_self _)
theorem FlP.at_ {K:Kn}{t:Ty}{w:World}{e:Ending}{w':World}(h:FlP (Lt w.heap.size) K t w e w'):∃ y a c,e=.returned (.agg #[.int .i64 y.kind,.string y.name,.int .i64 y.n,.slice a y.args.length c])∧AtW y a c w'∧Below w.heap.size w w'∧FlO K t y:=by
 obtain⟨y,a,c,e,hA,hb,hy⟩:=h;exact⟨y,a,c,e,hA.mono fun b hb'=>hb'.elim (fun h=>aU_ h hb.size) (fun h=>h.2),hb,hy⟩
def LnP (w:World)(res:Except Nat Kn)(e:Ending)(w':World):Prop:=Below w.heap.size w w'∧match res with
 | .error er=>e=.returned (.tuple #[.slice none 0 0,.int .i64 (er:Int)])
 | .ok K'=>∃ v,e=.returned (.tuple #[v,.int .i64 0])∧fe_ w' v K'
theorem hD_ {w:World}{kv:Value}{NL:List ByteArray}{fr:Nat}{K:Kn}{t:Ty}{a:OA_}{c:Nat}{m:Int}(hK:fe_ w kv K)(hkl:K.length≤3000)(hA:AtW t a c w)(hn:Ni NL fr t)(hne:∀ s∈af_ t,s.size≠0) :
  Calls Tryz.prog 69 #[kv,.int .i64 m,.agg #[.int .i64 t.kind,.string t.name,.int .i64 t.n,.slice a t.args.length c]] w (LnP w (ge_ K m t)):=by
 have hz:=aq_ w (.cells #[.int .i64 t.kind,.string t.name,.int .i64 t.n,.slice a t.args.length c] 43);have k4:=R4.new w (.int .i64 t.kind) (.string t.name) (.int .i64 t.n) (.slice a t.args.length c);have hts:t.size≤2013265920:=by have:=hn.sz;rw[bt_ t hn.st []] at this;exact this
 have CM:=hid (hH_ t _ a c _ (hA.low hz) (fun _ h=>h) (fi_ t hn.st) (by omega));have CP:=hid (fun (W:World) (h:AtW t a c W)=>rJ_ h);have CC:=hid (fun (W:World) (h:AtW t a c W)=>mj_ h (fi_ t hn.st) (by omega) hne);have HZ:=hid hz;have K4:=hid k4;have HA:=hid (hA.low hz);have HK:=hid (hK.low hz);have KL:=hid hkl;obtain⟨ka,kc,rfl⟩:=hK.form;have hcm:(ay_ t).contains m=decide (m∈ay_ t):=by
  by_cases h:m∈ay_ t
  ·rw[decide_eq_true h,List.contains_iff_mem];exact h
  ·rw[decide_eq_false h,← Bool.not_eq_true,List.contains_iff_mem];exact h
 have hr:∃ R,R=ge_ K m t:=⟨_,rfl⟩;obtain⟨R,hR⟩:=hr;rw[← hR];have E1:Hid (decide (m∈ay_ t)=true→R=.error 41):=hid fun h=>by rw[hR];unfold ge_;rw[hcm,h];rfl
 have E2:Hid (decide (m∈ay_ t)=false→c5_ t=true→R=.error 42):=hid fun h h2=>by rw[hR];unfold ge_;rw[hcm,h,h2];rfl
 have E3:Hid (decide (m∈ay_ t)=false→c5_ t=false→cq_ (af_ t)=true→R=.error 43):=hid fun h h2 h3=>by rw[hR];unfold ge_;rw[hcm,h,h2,h3];rfl
 have E4:Hid (decide (m∈ay_ t)=false→c5_ t=false→cq_ (af_ t)=false→R=.ok (K++[(m,t)])):=hid fun h h2 h3=>by rw[hR];unfold ge_;rw[hcm,h,h2,h3];rfl
 clear hR;obtain⟨c0,c1,c2,c3⟩:=k4.c03;clear hK hA hn hne hz k4 hkl hts hcm;go_enter Tryz.func69,Tryz.ntmps69;go_wp2_with fail;generalize w.alloc (.cells #[.int .i64 t.kind,.string t.name,.int .i64 t.n,.slice a t.args.length c] 43)=W0 at *;refine CM.out.mono ?_;rintro e w1 ⟨mv,rfl,hM,hb⟩;have HB1:=hid hb;have CH:=hid (qf_ hM m);clear hb hM c0 c1 c2 c3;go_wp2_with fail;refine CH.out.mono ?_;rintro e w1' ⟨rfl,rfl⟩;clear CM CH;cases hd:decide (m∈ay_ t) with
 | true =>
  have HB:=hid (HZ.out.trans (HB1.out.mono HZ.out.size));have ER:=hid (E1.out hd);clear hd;go_wp2;refine bodyPost_ret (v:=.tuple #[.slice none 0 0,.int .i64 41]) (by simp[results,Tryz.results69,go_sem]) rfl ?_;rw[ER.out];exact⟨HB.out,rfl⟩
 | false =>
  have HD:=hid hd;clear hd;have k4:=K4.out.low HB1.out;obtain⟨c0,c1,c2,c3⟩:=k4.c03;have C:=hid (CP.out w1 (HA.out.low HB1.out));clear k4;go_wp2_with fail;refine C.out.mono ?_;rintro e w2 ⟨rfl,hb⟩;have HB2:=hid (HB1.out.trans (hb.mono HB1.out.size));clear hb C c0 c1 c2 c3;cases hp:c5_ t with
  | true =>
   have HB:=hid (HZ.out.trans (HB2.out.mono HZ.out.size));have ER:=hid (E2.out HD.out hp);clear hp;go_wp2;refine bodyPost_ret (v:=.tuple #[.slice none 0 0,.int .i64 42]) (by simp[results,Tryz.results69,go_sem]) rfl ?_;rw[ER.out];exact⟨HB.out,rfl⟩
  | false =>
   have HP:=hid hp;clear hp;have k4:=K4.out.low HB2.out;obtain⟨c0,c1,c2,c3⟩:=k4.c03;have C:=hid (CC.out w2 (HA.out.low HB2.out));clear k4;go_wp2_with fail;refine C.out.mono ?_;rintro e w3 ⟨rfl,hb⟩;have HB3:=hid (HB2.out.trans (hb.mono HB2.out.size));have HB:=hid (HZ.out.trans (HB3.out.mono HZ.out.size));clear hb C c0 c1 c2 c3;cases hc:cq_ (af_ t) with
   | true =>
    have ER:=hid (E3.out HD.out HP.out hc);clear hc;go_wp2;refine bodyPost_ret (v:=.tuple #[.slice none 0 0,.int .i64 43]) (by simp[results,Tryz.results69,go_sem]) rfl ?_;rw[ER.out];exact⟨HB.out,rfl⟩
   | false =>
    have ER:=hid (E4.out HD.out HP.out hc);clear hc
    go_upto_region 10 with fail
    have KW:=hid (K4.out.low HB3.out);have RK:=hid (HK.out.low HB3.out);have AT:=hid (HA.out.low HB3.out);have PA:=hid (rZ_ 32 32 w3 RK.out KL.out (e:=(m,t)) AT.out);have PB:=hid (rY_ 32 32 w3 RK.out KL.out (e:=(m,t)) AT.out);have PC:=hid (rX_ 32 32 w3 RK.out KL.out (e:=(m,t)) AT.out);have KK:Hid (∀ W:World,Below w3.heap.size w3 W→W.cell? ⟨w.heap.size,0,none⟩=some (.int .i64 t.kind)∧W.cell? ⟨w.heap.size,1,none⟩=some (.string t.name)∧W.cell? ⟨w.heap.size,2,none⟩=some (.int .i64 t.n)∧W.cell? ⟨w.heap.size,3,none⟩=some (.slice a t.args.length c)):=hid (fun W h=>⟨(KW.out.low h).c0,(KW.out.low h).c1,(KW.out.low h).c2,(KW.out.low h).c3⟩);obtain⟨k0,k1,k2,k3⟩:=KK.out w3 (Below.refl _ _)
    go_region_held3 (fun W=>W.cell? ⟨w.heap.size,0,none⟩=some (.int .i64 t.kind)∧W.cell? ⟨w.heap.size,1,none⟩=some (.string t.name)∧W.cell? ⟨w.heap.size,2,none⟩=some (.int .i64 t.n)∧W.cell? ⟨w.heap.size,3,none⟩=some (.slice a t.args.length c))
     (first|(with_reducible exact KK.out _ HX2.out)|(with_reducible exact KK.out _ HX1.out)|go_keep)
     (first
      | ((with_reducible show (if Region.wanted _ _=true then Oper.wp _ _ _ (w3.alloc (.cells #[] 45)).drew _ _ else _));refine ah_ (by rfl) _ _ _ (by rfl) (by rfl) (by rfl) PA.out ?_;rintro v1 w1' ⟨hx1,hA2⟩;have HX1:=hid hx1;have A2:=hid hA2;obtain⟨e1,e2,e3,e4⟩:=KK.out _ HX1.out;clear hx1 hA2)
      | ((with_reducible show (if Region.wanted _ _=true then Oper.wp _ _ _ ((w3.alloc (.cells #[] 45)).alloc (.cells #[.int .i64 m,.int .i64 t.kind,.string t.name,.int .i64 t.n,.slice a t.args.length c] 45)).drew _ _ else _));refine ah_ (by rfl) _ _ _ (by rfl) (by rfl) (by rfl) PB.out ?_;rintro v1 w1' ⟨hx1,hA2⟩;have HX1:=hid hx1;have A2:=hid hA2;obtain⟨e1,e2,e3,e4⟩:=KK.out _ HX1.out;clear hx1 hA2)
      | ((with_reducible show (if Region.wanted _ _=true then Oper.wp _ _ _ ((w3.alloc (.cells #[.int .i64 m,.int .i64 t.kind,.string t.name,.int .i64 t.n,.slice a t.args.length c] 45)).alloc (.cells #[] 45)).drew _ _ else _));refine ah_ (by rfl) _ _ _ (by rfl) (by rfl) (by rfl) PC.out ?_;rintro v1 w1' ⟨hx1,hA2⟩;have HX1:=hid hx1;have A2:=hid hA2;obtain⟨e1,e2,e3,e4⟩:=KK.out _ HX1.out;clear hx1 hA2)
      | (refine ah_ (by rfl) _ _ _ (by rfl) (by rfl) (by rfl) A2.out ?_;rintro v2 w2' ⟨ho2,hx2⟩;have HO2:=hid ho2;have HX2:=hid hx2;clear ho2 hx2))
    all_goals
     go_wp2;refine bodyPost_ret (v:=.tuple #[v2,.int .i64 0]) (by simp[results,Tryz.results69,go_sem]) rfl ?_;rw[ER.out];exact⟨HB.out.trans (HX2.out.mono HB.out.size),v2,rfl,HO2.out⟩
section
variable {L : List Int} {n : Int → Nat} {NL : List ByteArray} {A0 : Nat}
def SvP (L:List Int)(n:Int→Nat)(NL:List ByteArray)(A0:Nat)(K:Kn)(a b:Ty)(rest:List EqT)(fr:Nat)(w:World)(e:Ending)(w':World):Prop:=∃ v k er,e=.returned (.tuple #[v,.int .i64 k,.int .i64 er])∧Below w.heap.size w w'∧SvQ L n NL A0 K a b rest fr (fe_ w' v) (v=.slice none 0 0) k er
def uh_ (L:List Int)(n:Int→Nat)(NL:List ByteArray)(A0 N:Nat):Prop:=∀ (K:Kn) (a b:Ty) (rest:List EqT) (fr:Nat) (kv:Value) (aa ba:OA_) (ac bc:Nat) (w:World),SvI L n NL A0 K a b rest fr→svM K a b<N→fe_ w kv K→AtW a aa ac w→AtW b ba bc w →
  Calls Tryz.prog 38 #[kv,.agg #[.int .i64 a.kind,.string a.name,.int .i64 a.n,.slice aa a.args.length ac],.agg #[.int .i64 b.kind,.string b.name,.int .i64 b.n,.slice ba b.args.length bc],.int .i64 (fr:Int)] w (SvP L n NL A0 K a b rest fr w)
theorem sH_ {a b:Nat}(h:a≠b):((a:Int) != (b:Int))=true:=bne_iff_ne.2 (by omega)
theorem s6_ (C:Co L n NL A0):∀ N:Nat,uh_ L n NL A0 N:=by
 have CC:=hid C;clear C;intro N
 induction N with
 | zero=>intro K a b rest fr kv aa ba ac bc w _ h;omega
 | succ N ih =>
  intro K a b rest fr kv aa ba ac bc w hI hM hK hA hB;obtain⟨ka,kc,rfl⟩:=hK.form;have II:=hid hI;have MM:=hid hM;have IH:=hid ih;have FK:=hid (hI.flk CC.out);have NI:=hid (hI.ni CC.out);have KL:Hid (K.length≤90):=hid FK.out.kl;have LIMS:Hid (NL.length+fr≤2999998∧K.length≤90∧fr<1000000):=hid (CC.out.lim hI.D);have hz:Below w.heap.size w ((w.alloc (.cells #[.int .i64 a.kind,.string a.name,.int .i64 a.n,.slice aa a.args.length ac] 43)).alloc (.cells #[.int .i64 b.kind,.string b.name,.int .i64 b.n,.slice ba b.args.length bc] 43)):=(aq_ _ _).alloc (by simp) _;have q0:=(R4.new w (.int .i64 a.kind) (.string a.name) (.int .i64 a.n) (.slice aa a.args.length ac)).low (aq_ _ (.cells #[.int .i64 b.kind,.string b.name,.int .i64 b.n,.slice ba b.args.length bc] 43));have q1:=R4.new (w.alloc (.cells #[.int .i64 a.kind,.string a.name,.int .i64 a.n,.slice aa a.args.length ac] 43)) (.int .i64 b.kind) (.string b.name) (.int .i64 b.n) (.slice ba b.args.length bc);rw[show (w.alloc (.cells #[.int .i64 a.kind,.string a.name,.int .i64 a.n,.slice aa a.args.length ac] 43)).heap.size=w.heap.size+1 from by simp] at q1;have CF1:=hid (ji_ (hK.low hz).ks FK.out (hA.low hz) NI.out.1.1 NI.out.1.2);have HZ:=hid hz;have RK2:=hid (hK.low hz);have AB2:=hid (hB.low hz);have KB2:=hid q1;obtain⟨c0,c1,c2,c3⟩:=q0.c03;clear hI hM hK hA hB ih hz q0 q1;go_enter Tryz.func38,Tryz.ntmps38;go_wp2_with fail;generalize (w.alloc (.cells #[.int .i64 a.kind,.string a.name,.int .i64 a.n,.slice aa a.args.length ac] 43)).alloc (.cells #[.int .i64 b.kind,.string b.name,.int .i64 b.n,.slice ba b.args.length bc] 43)=W2 at *;refine CF1.out.mono ?_;rintro e w3 hfl;obtain⟨x,xa,xc,rfl,hX,hb3,hx⟩:=hfl.at_;have hz3:Below w3.heap.size w3 (w3.alloc (.cells #[.int .i64 x.kind,.string x.name,.int .i64 x.n,.slice xa x.args.length xc] 43)):=aq_ _ _;have HX:=hid hx;have B3:=hid (hb3.trans (hz3.mono hb3.size));have KX3:=hid (R4.new w3 (.int .i64 x.kind) (.string x.name) (.int .i64 x.n) (.slice xa x.args.length xc));have AX3:=hid (hX.low hz3);have kb:=KB2.out.low B3.out;obtain⟨d0,d1,d2,d3⟩:=kb.c03;have CF2:=hid (ji_ (RK2.out.low B3.out).ks FK.out (AB2.out.low B3.out) NI.out.2.1 NI.out.2.2);have L3:Hid (w3.heap.size<(w3.alloc (.cells #[.int .i64 x.kind,.string x.name,.int .i64 x.n,.slice xa x.args.length xc] 43)).heap.size):=hid (by simp);clear hfl hX hb3 hx hz3 kb CF1 c0 c1 c2 c3;go_wp2_with fail;generalize w3.alloc (.cells #[.int .i64 x.kind,.string x.name,.int .i64 x.n,.slice xa x.args.length xc] 43)=W3 at *;refine CF2.out.mono ?_;rintro e w4 hfl;obtain⟨y,ya,yc,rfl,hY,hb4,hy⟩:=hfl.at_;have hz4:Below w4.heap.size w4 (w4.alloc (.cells #[.int .i64 y.kind,.string y.name,.int .i64 y.n,.slice ya y.args.length yc] 43)):=aq_ _ _;have hb5:=hb4.trans (hz4.mono hb4.size);have HY:=hid hy;have KX5:=hid (KX3.out.low hb5);have KY5:=hid (R4.new w4 (.int .i64 y.kind) (.string y.name) (.int .i64 y.n) (.slice ya y.args.length yc));have AX5:=hid (AX3.out.low hb5);have AY5:=hid (hY.low hz4);have RK5:=hid (RK2.out.low (B3.out.trans (hb5.mono B3.out.size)));have B5:=hid (HZ.out.trans ((B3.out.trans (hb5.mono B3.out.size)).mono HZ.out.size));have FF:=hid (II.out.cut HX.out hy);have NXY:=hid (FF.out.niXY CC.out);have lk:NL.length+fr≤3000000:=by have:=LIMS.out.1;omega
  have CS:=hid (rH_ x y xa ya xc yc _ AX5.out AY5.out (jQ_ NXY.out.1 lk) (jQ_ NXY.out.2 lk));obtain⟨k0,k1,k2,k3⟩:=KX5.out.c03;obtain⟨l0,l1,l2,l3⟩:=KY5.out.c03;clear hfl hY hb4 hy hz4 hb5 CF2 d0 d1 d2 d3 lk;go_wp2_with fail;generalize w4.alloc (.cells #[.int .i64 y.kind,.string y.name,.int .i64 y.n,.slice ya y.args.length yc] 43)=W5 at *;refine CS.out.mono ?_;rintro e w6 ⟨rfl,hb6⟩;have B6:=hid (B5.out.trans (hb6.mono B5.out.size));have KX6:=hid (KX5.out.low hb6);have KY6:=hid (KY5.out.low hb6);have Ax6:=hid (AX5.out.low hb6);have Ay6:=hid (AY5.out.low hb6);have RK6:=hid (RK5.out.low hb6);clear hb6 CS k0 k1 k2 k3 l0 l1 l2 l3;cases hd:decide (aw_ x=aw_ y) with
  | true =>
   have FR:=hid (FF.out.same CC.out (ru_.2 (of_decide_eq_true hd)));clear hd;go_wp2;refine bodyPost_ret (v:=.tuple #[.slice ka K.length kc,.int .i64 (fr:Int),.int .i64 0]) (by simp[results,Tryz.results38,go_sem]) rfl ?_;exact⟨_,_,_,rfl,B6.out,.ok (K,fr),FR.out,rfl,rfl,RK6.out⟩
  | false =>
   have NE:Hid (aw_ x≠aw_ y):=hid (of_decide_eq_false hd);clear hd;obtain⟨v1,hv1⟩:∃ v1,v1=decide (x.kind=2∧(y.kind≠2∨y.n<x.n)):=⟨_,rfl⟩;have HV1:=hid hv1;clear hv1;obtain⟨k0,k1,k2,k3⟩:=KX6.out.c03;obtain⟨l0,l1,l2,l3⟩:=KY6.out.c03
   go_upto_region 6 with fail
   go_cut [49] from 35 to 49 (fun s wx=>s=.bool v1∧wx=w6)
   case first =>
    by_cases m1:x.kind=2
    ·have z1:(x.kind==2)=true:=by rw[m1];rfl
     by_cases m2:y.kind=2
     ·have z2:(y.kind != 2)=false:=by rw[m2];rfl
      by_cases m3:y.n<x.n
      ·have z3:decide (y.n<x.n)=true:=decide_eq_true m3
       have hv:v1=true:=HV1.out.trans (decide_eq_true ⟨m1,.inr m3⟩);have HE:=hid hv;clear m1 m2 m3 hv;go_wp2_with fail
       go_meet
       exact⟨congrArg Value.bool (HE.out.symm),rfl⟩
      ·have z3:decide (y.n<x.n)=false:=decide_eq_false m3
       have hv:v1=false:=HV1.out.trans (decide_eq_false fun h=>h.2.elim (fun h=>h m2) m3);have HE:=hid hv;clear m1 m2 m3 hv;go_wp2_with fail
       go_meet
       exact⟨congrArg Value.bool (HE.out.symm),rfl⟩
     ·have z2:(y.kind != 2)=true:=bne_iff_ne.2 m2
      have hv:v1=true:=HV1.out.trans (decide_eq_true ⟨m1,.inl m2⟩);have HE:=hid hv;clear m1 m2 hv;go_wp2_with fail
      go_meet
      exact⟨congrArg Value.bool (HE.out.symm),rfl⟩
    ·have z1:(x.kind==2)=false:=beq_eq_false_iff_ne.2 m1
     have hv:v1=false:=HV1.out.trans (decide_eq_false fun h=>m1 h.1);have HE:=hid hv;clear m1 hv;go_wp2_with fail
     go_meet
     exact⟨congrArg Value.bool (HE.out.symm),rfl⟩
   obtain⟨rfl,rfl⟩:=hcut;cases v1 with
   | true =>
    have hv:x.kind=2∧(y.kind≠2∨y.n<x.n):=of_decide_eq_true HV1.out.symm;have hno:¬ (y.kind=2∧(x.kind≠2∨x.n<y.n)):=fun h=>by
     rcases h.2 with h2|h2
     ·exact h2 hv.1
     ·rcases hv.2 with h3|h3
      ·exact h3 h.1
      ·omega
    have hsw:=qO_ hno;have hlr:=FF.out.learn CC.out (by rw[hsw];exact NE.out) (by rw[hsw];exact hv.1);rw[hsw] at hlr;have HLR:=hid hlr;clear hv hno hsw hlr;have CL:=hid (hD_ (m:=x.n) RK6.out (by have:=KL.out;omega) Ay6.out NXY.out.2 (Ni.names CC.out.nn NXY.out.2));have FL:=hid (HLR.out);go_wp2_with fail;refine CL.out.mono ?_;rintro e w7 ⟨hb7,hres⟩;have B7:=hid (B6.out.trans (hb7.mono B6.out.size));clear CL hb7;cases hl:ge_ K x.n y with
    | error er =>
     have FR:Hid (SvR L n NL A0 K a b rest fr (.error er)):=hid (by have h:=FL.out;rw[hl] at h;exact h);rw[hl] at hres;subst hres;clear hl;go_wp2;refine bodyPost_ret (v:=.tuple #[.slice none 0 0,.int .i64 (fr:Int),.int .i64 (er:Int)]) (by simp[results,Tryz.results38,go_sem]) rfl ?_;exact⟨_,_,_,rfl,B7.out,.error er,FR.out,rfl,rfl⟩
    | ok K' =>
     have FR:Hid (SvR L n NL A0 K a b rest fr (.ok (K',fr))):=hid (by have h:=FL.out;rw[hl] at h;exact h);rw[hl] at hres;obtain⟨v7,rfl,hv7⟩:=hres;have HV7:=hid hv7;clear hl hv7;go_wp2;refine bodyPost_ret (v:=.tuple #[v7,.int .i64 (fr:Int),.int .i64 0]) (by simp[results,Tryz.results38,go_sem]) rfl ?_;exact⟨_,_,_,rfl,B7.out,.ok (K',fr),FR.out,rfl,rfl,HV7.out⟩
   | false =>
    obtain⟨v2,hv2⟩:∃ v2,v2=decide (y.kind=2):=⟨_,rfl⟩;have HV2:=hid hv2;clear hv2
    go_upto_region 9 with fail
    go_cut [63] from 61 to 63 (fun s wx=>s=.bool v2∧wx=wc)
    case first =>
     by_cases m2:y.kind=2
     ·have z2:(y.kind==2)=true:=by rw[m2];rfl
      have HE:=hid (HV2.out.trans (decide_eq_true m2));clear m2;go_wp2_with fail
      go_meet
      exact⟨congrArg Value.bool (HE.out.symm),rfl⟩
     ·have z2:(y.kind==2)=false:=beq_eq_false_iff_ne.2 m2
      have HE:=hid (HV2.out.trans (decide_eq_false m2));clear m2;go_wp2_with fail
      go_meet
      exact⟨congrArg Value.bool (HE.out.symm),rfl⟩
    obtain⟨rfl,rfl⟩:=hcut;cases v2 with
    | true =>
     have hy2:y.kind=2:=of_decide_eq_true HV2.out.symm;have hx2:x.kind≠2∨x.n<y.n:=by
      by_cases h2:x.kind=2
      ·have h:=of_decide_eq_false HV1.out.symm
       have h3:¬ y.n<x.n:=fun h4=>h ⟨h2,.inr h4⟩;have h5:x.n≠y.n:=fun h6=>NE.out (oa_ HX.out.1 HY.out.1 h2 hy2 h6);exact .inr (by omega)
      ·exact .inl h2
     have hsw:=rt_ ⟨hy2,hx2⟩;have hlr:=FF.out.learn CC.out (by rw[hsw];exact fun h=>NE.out h.symm) (by rw[hsw];exact hy2);rw[hsw] at hlr;have HLR:=hid hlr;clear hy2 hx2 hsw hlr;have CL:=hid (hD_ (m:=y.n) RK6.out (by have:=KL.out;omega) Ax6.out NXY.out.1 (Ni.names CC.out.nn NXY.out.1));have FL:=hid (HLR.out);go_wp2_with fail;refine CL.out.mono ?_;rintro e w7 ⟨hb7,hres⟩;have B7:=hid (B6.out.trans (hb7.mono B6.out.size));clear CL hb7;cases hl:ge_ K y.n x with
     | error er =>
      have FR:Hid (SvR L n NL A0 K a b rest fr (.error er)):=hid (by have h:=FL.out;rw[hl] at h;exact h);rw[hl] at hres;subst hres;clear hl;go_wp2;refine bodyPost_ret (v:=.tuple #[.slice none 0 0,.int .i64 (fr:Int),.int .i64 (er:Int)]) (by simp[results,Tryz.results38,go_sem]) rfl ?_;exact⟨_,_,_,rfl,B7.out,.error er,FR.out,rfl,rfl⟩
     | ok K' =>
      have FR:Hid (SvR L n NL A0 K a b rest fr (.ok (K',fr))):=hid (by have h:=FL.out;rw[hl] at h;exact h);rw[hl] at hres;obtain⟨v7,rfl,hv7⟩:=hres;have HV7:=hid hv7;clear hl hv7;go_wp2;refine bodyPost_ret (v:=.tuple #[v7,.int .i64 (fr:Int),.int .i64 0]) (by simp[results,Tryz.results38,go_sem]) rfl ?_;exact⟨_,_,_,rfl,B7.out,.ok (K',fr),FR.out,rfl,rfl,HV7.out⟩
    | false =>
     have hy2:y.kind≠2:=of_decide_eq_false HV2.out.symm;have hx2:x.kind≠2:=fun h2=>of_decide_eq_false HV1.out.symm ⟨h2,.inl hy2⟩;have HX2':=hid hx2;have HY2':=hid hy2;have SW:=hid (qO_ (x:=x) (y:=y) fun h=>hy2 h.1);clear hx2 hy2;obtain⟨v3,hv3⟩:∃ v3,v3=decide (x.kind=5∧y.kind=5):=⟨_,rfl⟩;have HV3:=hid hv3;clear hv3
     go_upto_region 12 with fail
     go_cut [82] from 75 to 82 (fun s wx=>s=.bool v3∧wx=wc)
     case first =>
      by_cases m1:x.kind=5
      ·have z1:(x.kind==5)=true:=by rw[m1];rfl
       by_cases m2:y.kind=5
       ·have z2:(y.kind==5)=true:=by rw[m2];rfl
        have HE:=hid (HV3.out.trans (decide_eq_true ⟨m1,m2⟩));clear m1 m2;go_wp2_with fail
        go_meet
        exact⟨congrArg Value.bool (HE.out.symm),rfl⟩
       ·have z2:(y.kind==5)=false:=beq_eq_false_iff_ne.2 m2
        have HE:=hid (HV3.out.trans (decide_eq_false fun h=>m2 h.2));clear m1 m2;go_wp2_with fail
        go_meet
        exact⟨congrArg Value.bool (HE.out.symm),rfl⟩
      ·have z1:(x.kind==5)=false:=beq_eq_false_iff_ne.2 m1
       have HE:=hid (HV3.out.trans (decide_eq_false fun h=>m1 h.1));clear m1;go_wp2_with fail
       go_meet
       exact⟨congrArg Value.bool (HE.out.symm),rfl⟩
     obtain⟨rfl,rfl⟩:=hcut;cases v3 with
     | true =>
      have hv:x.kind=5∧y.kind=5:=of_decide_eq_true HV3.out.symm;obtain⟨p,hp,_⟩:=dK_ HX.out.1 hv.1;obtain⟨q,hq,_⟩:=dK_ HY.out.1 hv.2;have hsw:=SW.out;have hck:bs_ x y=false:=by rw[jM_ HX.out.1 HY.out.1 (by omega),hv.1,hv.2,hp,hq];rfl
      obtain⟨⟨sp,zp,bp,mp⟩,nP,eP⟩:=Ni.ropen (by have:=LIMS.out.1;exact this) LIMS.out.2.2 NXY.out.1 hv.1 hp;obtain⟨⟨sq,zq,bq,mq⟩,nQ,eQ⟩:=Ni.ropen (by have:=LIMS.out.1;exact this) LIMS.out.2.2 NXY.out.2 hv.2 hq;have hop:=FF.out.opn CC.out (by rw[hsw];exact NE.out) (by rw[hsw];exact hv.1) (by rw[hsw];exact hck) (p:=p) (q:=q) (by rw[hsw];exact hp) (by rw[hsw];exact hq) _ _ ⟨nP.st,nP.gd⟩ ⟨nQ.st,nQ.gd⟩ (by rw[hsw];exact eP) (by rw[hsw];exact eQ);have OP:=hid hop;have MP:Hid (svM K (cI_ x.name (.mk 1 (br_ fr) 0 []) p) (cI_ y.name (.mk 1 (br_ fr) 0 []) q)<N):=hid (by have:=pa_ (K:=K) (a:=a) (b:=b) FF.out.D1.ko.facts HX.out HY.out hp hq hv.1 hv.2 eP eQ;have:=MM.out;omega);have XB:Hid (∃ pb po pa pc,xa=some ⟨pb,po,none⟩∧re_ wc pb po (.int .i64 p.kind) (.string p.name) (.int .i64 p.n) (.slice pa p.args.length pc)∧pb<wc.heap.size∧AtW p pa pc wc):=hid (by
       obtain⟨b',off,a',c',e1,e2,e3,e4⟩:=Ax6.out.at_ (i:=0) (by rw[hp];simp);have hx0:x.args[0]'(by rw[hp];simp)=p:=(by simp[hp]);rw[hx0] at e3 e4;rw[Nat.zero_mul,Nat.add_zero] at e3;exact⟨b',off,a',c',e1,e3,e2,e4⟩)
      have YB:Hid (∃ pb po pa pc,ya=some ⟨pb,po,none⟩∧re_ wc pb po (.int .i64 q.kind) (.string q.name) (.int .i64 q.n) (.slice pa q.args.length pc)∧pb<wc.heap.size∧AtW q pa pc wc):=hid (by
       obtain⟨b',off,a',c',e1,e2,e3,e4⟩:=Ay6.out.at_ (i:=0) (by rw[hq];simp);have hx0:y.args[0]'(by rw[hq];simp)=q:=(by simp[hq]);rw[hx0] at e3 e4;rw[Nat.zero_mul,Nat.add_zero] at e3;exact⟨b',off,a',c',e1,e3,e2,e4⟩)
      obtain⟨pb,po,pa,pc,rfl,hfp,hpb,hAp⟩:=XB.out;obtain⟨qb,qo,qa,qc,rfl,hfq,hqb,hAq⟩:=YB.out;have HFP:=hid hfp;have HFQ:=hid hfq;have HPB:=hid hpb;have HQB:=hid hqb;have hl1:(x.args.length:Int)=1:=by rw[hp];rfl
      have hl2:(y.args.length:Int)=1:=by rw[hq];rfl
      have CPX:Hid (∀ W:World,Below wc.heap.size wc W→Calls Tryz.prog 70 #[.agg #[.int .i64 p.kind,.string p.name,.int .i64 p.n,.slice pa p.args.length pc],.string x.name,.agg #[.int .i64 1,.string (br_ fr),.int .i64 0,.slice none 0 0]] W (hl_ (cI_ x.name (.mk 1 (br_ fr) 0 []) p) W)):=hid (fun W h=>jo_ x.name (.mk 1 (br_ fr) 0 []) p pa none pc 0 W (hAp.low h) (.nil _ _) sp (el_ _) (by omega) (by show 1≤1000000000000;omega) (by omega) mp);have CPY:Hid (∀ W:World,Below wc.heap.size wc W→Calls Tryz.prog 70 #[.agg #[.int .i64 q.kind,.string q.name,.int .i64 q.n,.slice qa q.args.length qc],.string y.name,.agg #[.int .i64 1,.string (br_ fr),.int .i64 0,.slice none 0 0]] W (hl_ (cI_ y.name (.mk 1 (br_ fr) 0 []) q) W)):=hid (fun W h=>jo_ y.name (.mk 1 (br_ fr) 0 []) q qa none qc 0 W (hAq.low h) (.nil _ _) sq (el_ _) (by omega) (by show 1≤1000000000000;omega) (by omega) mq);have CSO:Hid (∀ (W:World) (a1 a2:OA_) (c1 c2:Nat),Below wc.heap.size wc W→AtW (cI_ x.name (.mk 1 (br_ fr) 0 []) p) a1 c1 W→AtW (cI_ y.name (.mk 1 (br_ fr) 0 []) q) a2 c2 W→Calls Tryz.prog 38 #[.slice ka K.length kc,.agg #[.int .i64 (cI_ x.name (.mk 1 (br_ fr) 0 []) p).kind,.string (cI_ x.name (.mk 1 (br_ fr) 0 []) p).name,.int .i64 (cI_ x.name (.mk 1 (br_ fr) 0 []) p).n,.slice a1 (cI_ x.name (.mk 1 (br_ fr) 0 []) p).args.length c1],.agg #[.int .i64 (cI_ y.name (.mk 1 (br_ fr) 0 []) q).kind,.string (cI_ y.name (.mk 1 (br_ fr) 0 []) q).name,.int .i64 (cI_ y.name (.mk 1 (br_ fr) 0 []) q).n,.slice a2 (cI_ y.name (.mk 1 (br_ fr) 0 []) q).args.length c2],.int .i64 (IntKind.i64.wrap ((fr:Int)+1))] W (SvP L n NL A0 K (cI_ x.name (.mk 1 (br_ fr) 0 []) p) (cI_ y.name (.mk 1 (br_ fr) 0 []) q) rest (fr+1) W)):=hid (fun W a1 a2 c1 c2 h h1 h2=>by rw[IntWalk.i64_in ((fr:Int)+1) (by have:=LIMS.out.2.2;omega)];exact IH.out K _ _ rest (fr+1) _ a1 a2 c1 c2 W OP.out.1 MP.out (RK6.out.low h) h1 h2);have frl:fr<1000000:=LIMS.out.2.2;have D1:=hid (dh_ fr (by omega) wc);have hds:(ab_ (Lib.decDigits fr)).size≤100:=by
       have:=(bQ_ fr).2.2.2 18 (by omega) (show fr<10 ^ 18 by omega);rw[ap_];omega
      clear hv hp hq hsw hck sp zp bp mp nP eP sq zq bq mq nQ eQ hop hfp hfq hpb hqb hAp hAq XB YB;generalize cI_ x.name (.mk 1 (br_ fr) 0 []) p=P at *;generalize cI_ y.name (.mk 1 (br_ fr) 0 []) q=Q at *;clear k0 k1 k2 k3 l0 l1 l2 l3;go_wp2_with fail;refine D1.out.mono ?_;rintro e w7 ⟨rfl,hb7⟩;have HB7:=hid hb7;have DE:=hid (t0_ fr);clear D1 hb7
      go_upto_region 14 with fail
      rw[DE.out];clear hds;generalize br_ fr=dn at *;have hz8:Below w7.heap.size w7 (w7.alloc (.cells #[.int .i64 1,.string dn,.int .i64 0,.slice none 0 0] 43)):=aq_ _ _;have KC8:=hid (R4.new w7 (.int .i64 1) (.string dn) (.int .i64 0) (.slice none 0 0));have B8:=hid (HB7.out.trans (hz8.mono HB7.out.size));have BW8:=hid (B6.out.trans (B8.out.mono B6.out.size));clear hz8;generalize w7.alloc (.cells #[.int .i64 1,.string dn,.int .i64 0,.slice none 0 0] 43)=W8 at *;have HD:=hid (Below.refl W8.heap.size W8).drew;have TO:Hid (∀ W:World,Below W8.heap.size W8 W→Below wc.heap.size wc W):=hid (fun W h=>B8.out.trans (h.mono B8.out.size));have KK:Hid (∀ W:World,Below W8.heap.size W8 W→W.cell? ⟨w3.heap.size,1,none⟩=some (.string x.name)∧W.cell? ⟨w3.heap.size,3,none⟩=some (.slice (some ⟨pb,po,none⟩) x.args.length xc)∧W.cell? ⟨pb,po,none⟩=some (.int .i64 p.kind)∧W.cell? ⟨pb,po+1,none⟩=some (.string p.name)∧W.cell? ⟨pb,po+2,none⟩=some (.int .i64 p.n)∧W.cell? ⟨pb,po+3,none⟩=some (.slice pa p.args.length pc)∧W.cell? ⟨w4.heap.size,1,none⟩=some (.string y.name)∧W.cell? ⟨w4.heap.size,3,none⟩=some (.slice (some ⟨qb,qo,none⟩) y.args.length yc)∧W.cell? ⟨qb,qo,none⟩=some (.int .i64 q.kind)∧W.cell? ⟨qb,qo+1,none⟩=some (.string q.name)∧W.cell? ⟨qb,qo+2,none⟩=some (.int .i64 q.n)∧W.cell? ⟨qb,qo+3,none⟩=some (.slice qa q.args.length qc)∧W.cell? ⟨w7.heap.size,0,none⟩=some (.int .i64 1)∧W.cell? ⟨w7.heap.size,1,none⟩=some (.string dn)∧W.cell? ⟨w7.heap.size,2,none⟩=some (.int .i64 0)∧W.cell? ⟨w7.heap.size,3,none⟩=some (.slice none 0 0)):=hid (fun W h=>by
       have hw:=TO.out W h;obtain⟨p0,p1,p2,p3⟩:=HFP.out.keep (hw.block pb HPB.out);obtain⟨q0,q1,q2,q3⟩:=HFQ.out.keep (hw.block qb HQB.out);exact⟨(KX6.out.low hw).c1,(KX6.out.low hw).c3,p0,p1,p2,p3,(KY6.out.low hw).c1,(KY6.out.low hw).c3,q0,q1,q2,q3,(KC8.out.low h).c0,(KC8.out.low h).c1,(KC8.out.low h).c2,(KC8.out.low h).c3⟩)
      obtain⟨g0,g1,g2,g3,g4,g5,g6,g7,g8,g9,g10,g11,g12,g13,g14,g15⟩:=KK.out W8 (Below.refl _ _)
      go_region_held3 (fun w'=>w'.cell? ⟨w3.heap.size,1,none⟩=some (.string x.name)∧w'.cell? ⟨w3.heap.size,3,none⟩=some (.slice (some ⟨pb,po,none⟩) x.args.length xc)∧w'.cell? ⟨pb,po,none⟩=some (.int .i64 p.kind)∧w'.cell? ⟨pb,po+1,none⟩=some (.string p.name)∧w'.cell? ⟨pb,po+2,none⟩=some (.int .i64 p.n)∧w'.cell? ⟨pb,po+3,none⟩=some (.slice pa p.args.length pc)∧w'.cell? ⟨w4.heap.size,1,none⟩=some (.string y.name)∧w'.cell? ⟨w4.heap.size,3,none⟩=some (.slice (some ⟨qb,qo,none⟩) y.args.length yc)∧w'.cell? ⟨qb,qo,none⟩=some (.int .i64 q.kind)∧w'.cell? ⟨qb,qo+1,none⟩=some (.string q.name)∧w'.cell? ⟨qb,qo+2,none⟩=some (.int .i64 q.n)∧w'.cell? ⟨qb,qo+3,none⟩=some (.slice qa q.args.length qc)∧w'.cell? ⟨w7.heap.size,0,none⟩=some (.int .i64 1)∧w'.cell? ⟨w7.heap.size,1,none⟩=some (.string dn)∧w'.cell? ⟨w7.heap.size,2,none⟩=some (.int .i64 0)∧w'.cell? ⟨w7.heap.size,3,none⟩=some (.slice none 0 0))
       (first|(with_reducible exact KK.out _ HX3.out)|(with_reducible exact KK.out _ HX2.out)|(with_reducible exact KK.out _ HX1.out)|(with_reducible exact KK.out _ HD.out)|go_keep)
       (first
        | (go_at_call 70;(with_reducible refine (CPX.out _ (TO.out _ HD.out)).mono ?_);rintro e w9 ⟨a9,c9,rfl,hA9,hb9⟩;have HX1:=hid (HD.out.trans (hb9.mono HD.out.size));have AP9:=hid hA9;clear hA9 hb9)
        | (go_at_call 70;(with_reducible refine (CPY.out _ (TO.out _ HX1.out)).mono ?_);rintro e w10 ⟨a10,c10,rfl,hA10,hb10⟩;have HX2:=hid (HX1.out.trans (hb10.mono HX1.out.size));have CS10:=hid (CSO.out w10 a9 a10 c9 c10 (TO.out _ HX2.out) (AP9.out.low hb10) hA10);clear hA10 hb10)
        | (go_at_call 38;(with_reducible refine CS10.out.mono ?_);rintro e w11 ⟨v11,k11,er11,rfl,hb11,hq11⟩;have HX3:=hid (HX2.out.trans (hb11.mono HX2.out.size));have HQ11:=hid hq11;clear hb11 hq11))
      all_goals
       go_wp2;refine bodyPost_ret (v:=.tuple #[v11,.int .i64 k11,.int .i64 er11]) (by simp[results,Tryz.results38,go_sem]) rfl ?_;exact⟨_,_,_,rfl,BW8.out.trans (HX3.out.mono BW8.out.size),HQ11.out.back (.inl rfl) OP.out.2⟩
     | false =>
      obtain⟨v4,hv4⟩:∃ v4,v4=bs_ x y:=⟨_,rfl⟩;have HV4:=hid hv4;have CASE:Hid (((x.kind != y.kind)=true∧v4=true)∨((x.kind != y.kind)=false∧(x.kind==1)=true∧v4=true) ∨
       ((x.kind != y.kind)=false∧(x.kind==1)=false∧(x.kind==3)=true∧(x.name.toList==y.name.toList)=false∧v4=true) ∨
       ((x.kind != y.kind)=false∧(x.kind==1)=false∧(x.kind==3)=true∧(x.name.toList==y.name.toList)=true∧((x.args.length:Int) != (y.args.length:Int))=true∧v4=true) ∨
       ((x.kind != y.kind)=false∧(x.kind==1)=false∧(x.kind==3)=false∧((x.args.length:Int) != (y.args.length:Int))=true∧v4=true) ∨
       ((x.kind != y.kind)=false∧(x.kind==1)=false∧(x.kind==3)=true∧(x.name.toList==y.name.toList)=true∧((x.args.length:Int) != (y.args.length:Int))=false∧v4=false) ∨
       ((x.kind != y.kind)=false∧(x.kind==1)=false∧(x.kind==3)=false∧((x.args.length:Int) != (y.args.length:Int))=false∧v4=false)):=hid (by
       have hc:=jM_ HX.out.1 HY.out.1 HX2'.out;rw[← hv4] at hc;have hlen:((x.args.length:Int) != (y.args.length:Int))=(x.args.length != y.args.length):=by
        by_cases h:x.args.length=y.args.length
        ·rw[h];simp
        ·rw[sH_ h,bne_iff_ne.2 h]
       rw[hlen];have hnm:eqN x.name y.name=(x.name.toList==y.name.toList):=by
        by_cases h:x.name=y.name
        ·rw[(aN_ _ _).2 h,cl_ h]
        ·rw[bC_ h,← Bool.not_eq_true,aN_];exact h
       rw[hnm] at hc
       revert hc
       cases (x.kind != y.kind)<;>cases (x.kind==1)<;>cases (x.kind==3)<;>cases (x.name.toList==y.name.toList)<;>cases (x.args.length != y.args.length)<;>intro hc<;>simp at hc<;>simp[hc])
      clear hv4
      go_upto_region 15 with fail
      go_cut [140] from 110 to 140 (fun s wx=>s=.bool v4∧wx=wc)
      case first =>
       rcases CASE.out with ⟨z1,e⟩|⟨z1,z2,e⟩|⟨z1,z2,z3,z4,e⟩|⟨z1,z2,z3,z4,z5,e⟩|⟨z1,z2,z3,z5,e⟩|⟨z1,z2,z3,z4,z5,e⟩|⟨z1,z2,z3,z5,e⟩
       all_goals
        have HE:=hid e;clear e;go_wp2_with fail
        go_meet
        exact⟨congrArg Value.bool HE.out.symm,rfl⟩
      obtain⟨rfl,rfl⟩:=hcut;clear CASE;cases v4 with
      | true =>
       have hsw:=SW.out;have FR:=hid (FF.out.clash CC.out (by rw[hsw];exact NE.out) (by rw[hsw];exact HX2'.out) (by rw[hsw];exact HV4.out.symm));clear hsw;go_wp2;refine bodyPost_ret (v:=.tuple #[.slice none 0 0,.int .i64 (fr:Int),.int .i64 40]) (by simp[results,Tryz.results38,go_sem]) rfl ?_;exact⟨_,_,_,rfl,B6.out,.error 40,FR.out,rfl,rfl⟩
      | false =>
       have hcl:=c7_ HV4.out.symm;have h55:=of_decide_eq_false HV3.out.symm;have h5:x.kind≠5:=fun h=>h55 ⟨h,by rw[← hcl.1];exact h⟩;have h5':y.kind≠5:=by rw[← hcl.1];exact h5
       have LEN:Hid (x.args.length=y.args.length):=hid hcl.2.2.2;have ZL:Hid ((x.args.zip y.args).length=x.args.length):=hid (by rw[List.length_zip];have:=hcl.2.2.2;omega);have ST0:=hid (FF.out.start CC.out SW.out NE.out HX2'.out HV4.out.symm h5);have H5:=hid h5;have H5':=hid h5';obtain⟨wo,hwo⟩:∃ wo:World,wo=wc:=⟨_,rfl⟩;subst hwo;have hxl:x.args.length≤9223372036854775807:=by
        obtain⟨_,_,_,h⟩:=Ax6.out.form;exact h
       clear hcl h55 h5 h5' k0 k1 k2 k3 l0 l1 l2 l3;go_wp2
       go_loopw [0,3,19] (fun lv nv iv wr=>∃ (i fi:Nat) (Ki:Kn),nv=.int .i64 (fi:Int)∧iv=.int .i64 (i:Int)∧i≤x.args.length∧fe_ wr lv Ki∧SvS L n NL A0 K a b rest fr (x.args.zip y.args) i Ki fi∧Below wo.heap.size wo wr) (fun _ _ iv _=>x.args.length - (intOf iv).toNat)
       case atStart=>exact⟨0,fr,K,rfl,rfl,Nat.zero_le _,RK6.out,ST0.out,Below.refl _ _⟩
       case round =>
        clear ST0;obtain⟨i,fi,Ki,rfl,rfl,hil,hKr,hS,hBr⟩:=hrel;obtain⟨la,lc,rfl⟩:=hKr.form;have i0:(0:Int)≤(i:Int):=(by omega);have RKr:=hid hKr;have SS:=hid hS;have BR:=hid hBr;have BW:=hid (B6.out.trans (hBr.mono B6.out.size));have kx:=KX6.out.low hBr;have ky:=KY6.out.low hBr;have k3:=kx.c3
        by_cases hi:i<x.args.length
        ·have i1:(i:Int)<(x.args.length:Int):=by omega
         have hi2:i<y.args.length:=(by have:=LEN.out;omega);have i2:(i:Int)<(y.args.length:Int):=(by omega);have hiz:i<(x.args.zip y.args).length:=by rw[ZL.out];exact hi
         have hz0:(x.args.zip y.args)[i]=(x.args[i],y.args[i]):=List.getElem_zip;obtain⟨pb,po,pa,pc,rfl,hpb,hfp,hAp⟩:=Ax6.out.at_ hi;obtain⟨qb,qo,qa,qc,rfl,hqb,hfq,hAq⟩:=Ay6.out.at_ hi2;obtain⟨f0,f1,f2,f3⟩:=hfp.keep (hBr.block pb hpb);obtain⟨g0,g1,g2,g3⟩:=hfq.keep (hBr.block qb hqb);have l3:=ky.c3;have hBd:=hBr.drew;have hone:SvI L n NL A0 Ki x.args[i] y.args[i] ((x.args.zip y.args).drop (i+1)++rest) fi:=by
          have h:=hS.one hiz;rw[hz0] at h;exact h
         have hless:svM Ki x.args[i] y.args[i]<svM K a b:=by
          have h:=hS.less CC.out FF.out.D1.ko.facts HX.out HY.out rfl hiz HX2'.out HY2'.out H5.out H5'.out;rw[hz0] at h;exact h
         have SER:=hid (fun er=>hS.err (er:=er) hiz);have SNX:=hid (fun K' f'=>hS.next (K':=K') (f':=f') hiz);have CS:Hid (Calls Tryz.prog 38 #[.slice la Ki.length lc,.agg #[.int .i64 x.args[i].kind,.string x.args[i].name,.int .i64 x.args[i].n,.slice pa x.args[i].args.length pc],.agg #[.int .i64 y.args[i].kind,.string y.args[i].name,.int .i64 y.args[i].n,.slice qa y.args[i].args.length qc],.int .i64 (fi:Int)] wr.drew (SvP L n NL A0 Ki x.args[i] y.args[i] ((x.args.zip y.args).drop (i+1)++rest) fi wr.drew)):=hid (IH.out Ki _ _ _ fi _ pa qa pc qc wr.drew hone (by have:=MM.out;omega) (hKr.low (Below.refl _ _).drew) (hAp.low hBd) (hAq.low hBd));rw[hz0] at SER SNX;clear hfp hfq hpb hqb hAp hAq hone hless hz0 hiz hBd hS hKr hBr kx ky;generalize x.args[i]=p at *;generalize y.args[i]=q at *;go_wp2
         go_region_law (go_simp;go_at_call 38;(with_reducible refine CS.out.mono ?_);rintro e w11 ⟨v11,k11,er11,rfl,hb11,hq11⟩;have BD11:Hid (Below wr.heap.size wr w11):=hid ((Below.refl _ _).drew.trans hb11);have HQ11:=hid hq11;clear hb11 hq11)
         all_goals
          obtain⟨res,hsv,hm⟩:=HQ11.out;have BO:=hid (BR.out.trans (BD11.out.mono BR.out.size));have BWO:=hid (BW.out.trans (BD11.out.mono BW.out.size));cases res with
          | error er =>
           obtain⟨rfl,rfl⟩:=hm;have FR:=hid (SER.out er hsv);have he:((er:Int) != 0)=true:=bne_iff_ne.2 (by have:=hsv.1;omega);clear hsv f0 f1 f2 f3 g0 g1 g2 g3 k3 l3;go_wp2;refine bodyPost_ret (v:=.tuple #[.slice none 0 0,.int .i64 k11,.int .i64 (er:Int)]) (by simp[results,Tryz.results38,go_sem]) rfl ?_;exact⟨_,_,_,rfl,BWO.out,.error er,FR.out,rfl,rfl⟩
          | ok pr =>
           obtain⟨K',f'⟩:=pr;obtain⟨rfl,rfl,hkr⟩:=hm;have SN:=hid (SNX.out K' f' hsv);have HKR:=hid hkr;clear hsv hkr f0 f1 f2 f3 g0 g1 g2 g3 k3 l3;go_wp2;go_roundw
           case rel=>exact⟨i+1,f',K',rfl,by go_num,by omega,HKR.out,SN.out,BO.out⟩
           case measure=>simp[intOf];omega
        ·obtain rfl:i=x.args.length:=by omega
         have FR:=hid (hS.fin ZL.out.symm);clear hS hKr hBr kx ky;go_wp2;refine bodyPost_ret (v:=.tuple #[.slice la Ki.length lc,.int .i64 (fi:Int),.int .i64 0]) (by simp[results,Tryz.results38,go_sem]) rfl ?_;exact⟨_,_,_,rfl,BW.out,.ok (Ki,fi),FR.out,rfl,rfl,RKr.out⟩
end
end
end Go.Proofs.YtjecnionbjlncaaGreatDoor.Tp

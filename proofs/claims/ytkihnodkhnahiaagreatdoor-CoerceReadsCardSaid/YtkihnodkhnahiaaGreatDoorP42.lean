/- Packed. -/
import Derived.Test.YtkihnodkhnahiaaGreatDoorP41
import Derived.Defers
import Derived.Recover
set_option maxRecDepth 100000
set_option maxHeartbeats 6400000
namespace Go.Proofs.YtkihnodkhnahiaaGreatDoor.Tp
open Go.RowKit
theorem mW_ (g:List Giv)(d:Nat)(c:Co)(S:Nat→Prop)(a:OA_)(n:Nat)(ka:OA_)(kn:Nat)(gv:Value)(w:World)(hC:bS_ S w c a n ka kn)(hS:∀ b,S b→b<w.heap.size)(hk:c.kind=2) :
  Calls Tryz.prog 27 #[gv,cv c a n ka kn] w (bp_ S bV_ w (aB_ (d+1) g c)):=by
 have E:Hid (aB_ (d+1) g c=some (c.t,c.t)):=hid (by rw[aB_,if_neg (by omega),if_pos hk]);have q1:(c.kind==1)=false:=by rw[hk];rfl
 have q2:(c.kind==2)=true:=by rw[hk];rfl
 have h1:=ao_ w (.cells #[.int .i64 c.kind,.string c.name,.int .i64 c.n,.int .i64 c.t.kind,.string c.t.name,.int .i64 c.t.n,.slice a c.t.args.length n,.slice ka c.kids.length kn] 33);have h2:=h1.alloc h1.size (.cells #[.int .i64 c.t.kind,.string c.t.name,.int .i64 c.t.n,.slice a c.t.args.length n] 30);have h3:=(h2.alloc h2.size (.cells #[.int .i64 c.t.kind,.string c.t.name,.int .i64 c.t.n,.slice a c.t.args.length n] 30)).drew;have R:Hid (bp_ S bV_ w (some (c.t,c.t)) (.returned (.tuple #[tv c.t a n,tv c.t a n])) ((((w.alloc (.cells #[.int .i64 c.kind,.string c.name,.int .i64 c.n,.int .i64 c.t.kind,.string c.t.name,.int .i64 c.t.n,.slice a c.t.args.length n,.slice ka c.kids.length kn] 33)).alloc (.cells #[.int .i64 c.t.kind,.string c.t.name,.int .i64 c.t.n,.slice a c.t.args.length n] 30)).alloc (.cells #[.int .i64 c.t.kind,.string c.t.name,.int .i64 c.t.n,.slice a c.t.args.length n] 30)).drew)):=hid ⟨h3,_,_,_,_,rfl,(hC.t.keep fun b hb=>h3.block b (hS b hb)).mono fun b hb=>.inl hb,(hC.t.keep fun b hb=>h3.block b (hS b hb)).mono fun b hb=>.inl hb⟩;clear hC hS hk h1 h2 h3;unfold cv;go_enter Tryz.func27,Tryz.ntmps27;go_wp2
 go_region
 go_wp2;refine bodyPost_ret (v:=.tuple #[tv c.t a n,tv c.t a n]) (by simp[results,Tryz.results27,go_sem,tv]) rfl ?_;rw[E.out];exact R.out
theorem oX_ (q:Nat)(g:List Giv)(d:Nat)(ih:d1_ q g d)(c:Co)(S:Nat→Prop)(a:OA_)(n:Nat)(ka:OA_)(kn:Nat)(gv:Value)(w:World)(hgo:eP_ q g)(hG:dk_ S w gv g)(hC:bS_ S w c a n ka kn)(hS:∀ b,S b→b<w.heap.size)(hw:WfC c)(hd:c.deep≤d+1)
  (hb:(bdC q c).s≤50000000000) (hf:(bdC q c).f≤4000000) (hm:aW_ c≤60) (hT:Tab w) (hk:c.kind=3):Calls Tryz.prog 27 #[gv,cv c a n ka kn] w (bp_ S bV_ w (aB_ (d+1) g c)):=by
 have E:Hid (aB_ (d+1) g c=match bs_ (aB_ d g) c.kids with
   | none=>none
   | some p=>dQ_ c p.1 p.2):=hid (by rw[aB_,if_neg (by omega),if_neg (by omega),show b2_ c=c from if_neg (by omega)];rfl)
 have q1:(c.kind==1)=false:=by rw[hk];rfl
 have q2:(c.kind==2)=false:=by rw[hk];rfl
 have q7:(c.kind==7)=false:=by rw[hk];rfl
 have q3:(c.kind==3)=true:=by rw[hk];rfl
 have hM:=ie_.new w c a n ka kn;have hbk:=bK_ q hw hb hm;have hM0:=d7_ hw hb hm (by omega) (by omega);have ho:b2_ c=c:=if_neg (by omega);rw[ho] at hM0 hbk;have hKids:∀ x∈c.kids,WfC x∧x.deep≤d∧(bdC q x).s≤50000000000∧(bdC q x).f≤4000000∧aW_ x≤60:=fun x hx =>
  ⟨hw.kids x hx,by have:=(hbk.2.2.2.2.2.2.1 x hx).2.2;omega,bm_ ((bE_ hx).trans hM0).2.1 hb,bm_ ((bE_ hx).trans hM0).2.2 hf,(hbk.2.2.2.2.2.2.1 x hx).2.1⟩
 have hFit:∀ p,bs_ (aB_ d g) c.kids=some p→hs_ q c.kids p.1∧hs_ q c.kids p.2:=fun p hp=>dI_ (fun x hx r hr=>du_ q d g x r hgo (hKids x hx).1 (hKids x hx).2.2.1 (hKids x hx).2.2.2.2 hr) hp;have KC:=hid (ep_ (aB_ d g) gv c S a n ka kn (((w.alloc (.cells #[.int .i64 c.kind,.string c.name,.int .i64 c.n,.int .i64 c.t.kind,.string c.t.name,.int .i64 c.t.n,.slice a c.t.args.length n,.slice ka c.kids.length kn] 33)).alloc (.cells #[.int .i64 0,.string ⟨#[]⟩,.int .i64 0,.slice none 0 0] 30)).alloc (.cells #[.int .i64 0,.string ⟨#[]⟩,.int .i64 0,.slice none 0 0] 30)) (hC.keep fun b hb=>hM.b.block b (hS b hb)) (fun b hb=>aX_ (hS b hb) hM.b.size) hw.k.2.1 (fun x hx a n ka kn W hB hCx=>by
  have hBw:=hM.b.trans (hB.mono hM.b.size);have hk:=hKids x hx;exact ih x S a n ka kn gv W (hG.keep fun b hb=>hBw.block b (hS b hb)) hCx (fun b hb=>aX_ (hS b hb) hBw.size) hk.1 hk.2.1 hk.2.2.1 hk.2.2.2.1 hk.2.2.2.2 (ag_ hT hBw)))
 have HS:=hid hS;have HM:=hid hM;have HF:=hid hFit;have HM0:=hid hM0;have HW:=hid hw;have HBS:=hid hb;have HBF:=hid hf;have HT:=hid hT;have HK:=hid hk;clear ih hgo hG hC hS hw hd hb hf hm hT hk hM hbk hM0 ho hKids hFit;unfold cv at *;go_enter Tryz.func27,Tryz.ntmps27;go_wp2_with fail;refine KC.out.mono ?_;rintro e w1 ⟨hb1,hres⟩;have hM1:=HM.out.low hb1;have hsz:w.heap.size+3≤w1.heap.size:=by have:=hb1.size;simpa using this
 cases hsy:bs_ (aB_ d g) c.kids with
 | none =>
  rw[hsy] at hres;subst hres;have E2:=E.out;rw[hsy] at E2;have E3:Hid (aB_ (d+1) g c=none):=hid E2;have M1:=hid hM1;clear hM1 hb1 hsy E2 E hsz;go_wp2;refine⟨rfl,?_⟩;rw[E3.out];exact⟨M1.out.b,rfl⟩
 | some p =>
  obtain⟨xs,ys⟩:=p;rw[hsy] at hres;obtain⟨xa,xc,ya,yc,rfl,hx,hy⟩:=hres;have E2:aB_ (d+1) g c=dQ_ c xs ys:=by have:=E.out;rw[hsy] at this;exact this
  have hlen:xs.length=c.kids.length∧ys.length=c.kids.length:=dH_ hsy;have FF:=hid (HF.out _ hsy);have up:∀ b,New S (((w.alloc (.cells #[.int .i64 c.kind,.string c.name,.int .i64 c.n,.int .i64 c.t.kind,.string c.t.name,.int .i64 c.t.n,.slice a c.t.args.length n,.slice ka c.kids.length kn] 33)).alloc (.cells #[.int .i64 0,.string ⟨#[]⟩,.int .i64 0,.slice none 0 0] 30)).alloc (.cells #[.int .i64 0,.string ⟨#[]⟩,.int .i64 0,.slice none 0 0] 30)) w1 b→(S b∨w.heap.size+3≤b∧b<w1.heap.size):=fun b hb=>hb.imp id fun h=>⟨by have:=h.1;simpa using this,h.2⟩;have AX:=hid (hx.mono up);have AY:=hid (hy.mono up);have M1:=hid hM1;have TT:=hid (ag_ HT.out hM1.b);clear hx hy up hb1 hsy E;have hkl:c.kids.length=1:=by have h1:=HW.out.k.2.2;have h2:=HK.out;omega
  have E3:Hid (aB_ (d+1) g c=some (h0 ys,h0 xs)):=hid (by rw[E2,dQ_,if_pos HK.out]);obtain⟨l0,l1,l2,l3⟩:=hM1.l.c03;obtain⟨u0,u1,u2,u3⟩:=hM1.l.f03;obtain⟨r0,r1,r2,r3⟩:=hM1.r.c03;obtain⟨v0,v1,v2,v3⟩:=hM1.r.f03;have m0:=hM1.k.c0;have m1:=hM1.k.c1;have m2:=hM1.k.c2;have m3:=hM1.k.c3;have m4:=hM1.k.c4;have m5:=hM1.k.c5;have m6:=hM1.k.c6;have hlx:0<xs.length:=by have:=hlen;omega
  obtain⟨rbx,rox,exa,exc,rfl,hbx,hfx,hAx⟩:=d4_ AX.out (by omega);obtain⟨ex0,ex1,ex2,ex3⟩:=hfx;have hx1:rbx≠w.heap.size+1:=by rcases hbx with h|h<;>first|(have:=HS.out _ h;omega)|omega
  have hx2:rbx≠w.heap.size+1+1:=by rcases hbx with h|h<;>first|(have:=HS.out _ h;omega)|omega
  have hx3:=Ne.symm hx1;have hx4:=Ne.symm hx2;have exH:=hid hAx;have exL:Hid (xs.length=xs.length):=hid rfl;have hly:0<ys.length:=by have:=hlen;omega
  obtain⟨rby,roy,eya,eyc,rfl,hby,hfy,hAy⟩:=d4_ AY.out (by omega);obtain⟨ey0,ey1,ey2,ey3⟩:=hfy;have hy1:rby≠w.heap.size+1:=by rcases hby with h|h<;>first|(have:=HS.out _ h;omega)|omega
  have hy2:rby≠w.heap.size+1+1:=by rcases hby with h|h<;>first|(have:=HS.out _ h;omega)|omega
  have hy3:=Ne.symm hy1;have hy4:=Ne.symm hy2;have eyH:=hid hAy;have eyL:Hid (ys.length=ys.length):=hid rfl;have ZX:Hid (0<xs.length):=hid hlx;have ZY:Hid (0<ys.length):=hid hly;clear hM1 hlen E2 hkl hsz hbx hby hlx hly hAx hAy;generalize h0 xs=x0 at *;generalize h0 ys=y0 at *;have z1:(0:Int)<(xs.length:Int):=by have:=ZX.out;omega
  have z2:(0:Int)<(ys.length:Int):=by have:=ZY.out;omega
  go_wp2
  go_region
  go_wp2;obtain⟨LL,RR,PP⟩:=eW_ (x:=y0) (y:=x0) (xa:=eya) (xc:=eyc) (ya:=exa) (yc:=exc) M1.out HS.out eyH.out exH.out
  skip
  refine bodyPost_ret (v:=.tuple #[tv (y0) eya eyc,tv (x0) exa exc]) (by simp[results,Tryz.results27,go_sem,tv,LL.c0,LL.c1,LL.c2,LL.c3,RR.c0,RR.c1,RR.c2,RR.c3]) rfl ?_;rw[E3.out];exact PP
theorem lK_ (q:Nat)(g:List Giv)(d:Nat)(ih:d1_ q g d)(c:Co)(S:Nat→Prop)(a:OA_)(n:Nat)(ka:OA_)(kn:Nat)(gv:Value)(w:World)(hgo:eP_ q g)(hG:dk_ S w gv g)(hC:bS_ S w c a n ka kn)(hS:∀ b,S b→b<w.heap.size)(hw:WfC c)(hd:c.deep≤d+1)
  (hb:(bdC q c).s≤50000000000) (hf:(bdC q c).f≤4000000) (hm:aW_ c≤60) (hT:Tab w) (hk:c.kind=4):Calls Tryz.prog 27 #[gv,cv c a n ka kn] w (bp_ S bV_ w (aB_ (d+1) g c)):=by
 have E:Hid (aB_ (d+1) g c=match bs_ (aB_ d g) c.kids with
   | none=>none
   | some p=>dQ_ c p.1 p.2):=hid (by rw[aB_,if_neg (by omega),if_neg (by omega),show b2_ c=c from if_neg (by omega)];rfl)
 have q1:(c.kind==1)=false:=by rw[hk];rfl
 have q2:(c.kind==2)=false:=by rw[hk];rfl
 have q7:(c.kind==7)=false:=by rw[hk];rfl
 have q3:(c.kind==3)=false:=by rw[hk];rfl
 have q4:(c.kind==4)=true:=by rw[hk];rfl
 have hM:=ie_.new w c a n ka kn;have hbk:=bK_ q hw hb hm;have hM0:=d7_ hw hb hm (by omega) (by omega);have ho:b2_ c=c:=if_neg (by omega);rw[ho] at hM0 hbk;have hKids:∀ x∈c.kids,WfC x∧x.deep≤d∧(bdC q x).s≤50000000000∧(bdC q x).f≤4000000∧aW_ x≤60:=fun x hx =>
  ⟨hw.kids x hx,by have:=(hbk.2.2.2.2.2.2.1 x hx).2.2;omega,bm_ ((bE_ hx).trans hM0).2.1 hb,bm_ ((bE_ hx).trans hM0).2.2 hf,(hbk.2.2.2.2.2.2.1 x hx).2.1⟩
 have hFit:∀ p,bs_ (aB_ d g) c.kids=some p→hs_ q c.kids p.1∧hs_ q c.kids p.2:=fun p hp=>dI_ (fun x hx r hr=>du_ q d g x r hgo (hKids x hx).1 (hKids x hx).2.2.1 (hKids x hx).2.2.2.2 hr) hp;have KC:=hid (ep_ (aB_ d g) gv c S a n ka kn (((w.alloc (.cells #[.int .i64 c.kind,.string c.name,.int .i64 c.n,.int .i64 c.t.kind,.string c.t.name,.int .i64 c.t.n,.slice a c.t.args.length n,.slice ka c.kids.length kn] 33)).alloc (.cells #[.int .i64 0,.string ⟨#[]⟩,.int .i64 0,.slice none 0 0] 30)).alloc (.cells #[.int .i64 0,.string ⟨#[]⟩,.int .i64 0,.slice none 0 0] 30)) (hC.keep fun b hb=>hM.b.block b (hS b hb)) (fun b hb=>aX_ (hS b hb) hM.b.size) hw.k.2.1 (fun x hx a n ka kn W hB hCx=>by
  have hBw:=hM.b.trans (hB.mono hM.b.size);have hk:=hKids x hx;exact ih x S a n ka kn gv W (hG.keep fun b hb=>hBw.block b (hS b hb)) hCx (fun b hb=>aX_ (hS b hb) hBw.size) hk.1 hk.2.1 hk.2.2.1 hk.2.2.2.1 hk.2.2.2.2 (ag_ hT hBw)))
 have HS:=hid hS;have HM:=hid hM;have HF:=hid hFit;have HM0:=hid hM0;have HW:=hid hw;have HBS:=hid hb;have HBF:=hid hf;have HT:=hid hT;have HK:=hid hk;clear ih hgo hG hC hS hw hd hb hf hm hT hk hM hbk hM0 ho hKids hFit;unfold cv at *;go_enter Tryz.func27,Tryz.ntmps27;go_wp2_with fail;refine KC.out.mono ?_;rintro e w1 ⟨hb1,hres⟩;have hM1:=HM.out.low hb1;have hsz:w.heap.size+3≤w1.heap.size:=by have:=hb1.size;simpa using this
 cases hsy:bs_ (aB_ d g) c.kids with
 | none =>
  rw[hsy] at hres;subst hres;have E2:=E.out;rw[hsy] at E2;have E3:Hid (aB_ (d+1) g c=none):=hid E2;have M1:=hid hM1;clear hM1 hb1 hsy E2 E hsz;go_wp2;refine⟨rfl,?_⟩;rw[E3.out];exact⟨M1.out.b,rfl⟩
 | some p =>
  obtain⟨xs,ys⟩:=p;rw[hsy] at hres;obtain⟨xa,xc,ya,yc,rfl,hx,hy⟩:=hres;have E2:aB_ (d+1) g c=dQ_ c xs ys:=by have:=E.out;rw[hsy] at this;exact this
  have hlen:xs.length=c.kids.length∧ys.length=c.kids.length:=dH_ hsy;have FF:=hid (HF.out _ hsy);have up:∀ b,New S (((w.alloc (.cells #[.int .i64 c.kind,.string c.name,.int .i64 c.n,.int .i64 c.t.kind,.string c.t.name,.int .i64 c.t.n,.slice a c.t.args.length n,.slice ka c.kids.length kn] 33)).alloc (.cells #[.int .i64 0,.string ⟨#[]⟩,.int .i64 0,.slice none 0 0] 30)).alloc (.cells #[.int .i64 0,.string ⟨#[]⟩,.int .i64 0,.slice none 0 0] 30)) w1 b→(S b∨w.heap.size+3≤b∧b<w1.heap.size):=fun b hb=>hb.imp id fun h=>⟨by have:=h.1;simpa using this,h.2⟩;have AX:=hid (hx.mono up);have AY:=hid (hy.mono up);have M1:=hid hM1;have TT:=hid (ag_ HT.out hM1.b);clear hx hy up hb1 hsy E;have hkl:c.kids.length=2:=by have h1:=HW.out.k.2.2;have h2:=HK.out;omega
  have E4:Hid (aB_ (d+1) g c=if bi_ (h0 ys)=bi_ (h1 xs) then some (h0 xs,h1 ys) else none):=hid (by rw[E2,dQ_];simp[HK.out]);have m0:=hM1.k.c0;have hlx:1<xs.length:=by have:=hlen;omega
  obtain⟨rbx,rox,exa,exc,rfl,hbx,hfx,hAx⟩:=d4_ AX.out (Nat.lt_trans Nat.zero_lt_one hlx);obtain⟨ex0,ex1,ex2,ex3⟩:=hfx;obtain⟨fxa,fxc,hgx,hBx⟩:=m8_ AX.out hlx;obtain⟨fx0,fx1,fx2,fx3⟩:=hgx;have hx1:rbx≠w.heap.size+1:=by rcases hbx with h|h<;>first|(have:=HS.out _ h;omega)|omega
  have hx2:rbx≠w.heap.size+1+1:=by rcases hbx with h|h<;>first|(have:=HS.out _ h;omega)|omega
  have NEx:Hid (rbx≠w.heap.size+1∧rbx≠w.heap.size+1+1∧rbx<w1.heap.size):=hid ⟨hx1,hx2,by rcases hbx with h|h<;>first|(have:=HS.out _ h;omega)|omega⟩;have exF:=hid (show iS_ w1 rbx rox _ _ _ _ from ⟨ex0,ex1,ex2,ex3⟩);have fxF:=hid (show iS_ w1 rbx (rox+4) _ _ _ _ from ⟨fx0,fx1,fx2,fx3⟩);have exH:=hid hAx;have fxH:=hid hBx;have Zx:Hid (1<xs.length):=hid hlx;have zix:(1:Int)<(xs.length:Int):=by omega
  have zjx:(0:Int)<(xs.length:Int):=by omega
  have zmx:0<xs.length:=by omega
  have hly:1<ys.length:=by have:=hlen;omega
  obtain⟨rby,roy,eya,eyc,rfl,hby,hfy,hAy⟩:=d4_ AY.out (Nat.lt_trans Nat.zero_lt_one hly);obtain⟨ey0,ey1,ey2,ey3⟩:=hfy;obtain⟨fya,fyc,hgy,hBy⟩:=m8_ AY.out hly;obtain⟨fy0,fy1,fy2,fy3⟩:=hgy;have hy1:rby≠w.heap.size+1:=by rcases hby with h|h<;>first|(have:=HS.out _ h;omega)|omega
  have hy2:rby≠w.heap.size+1+1:=by rcases hby with h|h<;>first|(have:=HS.out _ h;omega)|omega
  have NEy:Hid (rby≠w.heap.size+1∧rby≠w.heap.size+1+1∧rby<w1.heap.size):=hid ⟨hy1,hy2,by rcases hby with h|h<;>first|(have:=HS.out _ h;omega)|omega⟩;have eyF:=hid (show iS_ w1 rby roy _ _ _ _ from ⟨ey0,ey1,ey2,ey3⟩);have fyF:=hid (show iS_ w1 rby (roy+4) _ _ _ _ from ⟨fy0,fy1,fy2,fy3⟩);have eyH:=hid hAy;have fyH:=hid hBy;have Zy:Hid (1<ys.length):=hid hly;have ziy:(1:Int)<(ys.length:Int):=by omega
  have zjy:(0:Int)<(ys.length:Int):=by omega
  have zmy:0<ys.length:=by omega
  have hSS:∀ b,(S b∨w.heap.size+3≤b∧b<w1.heap.size)→b<w1.heap.size:=fun b h=>by rcases h with h|h<;>first|(have:=HS.out b h;omega)|omega
  have small:∀ t,Fit (bdM q c.kids) t→jJ_ t:=fun t ht=>⟨ht.1.2,bm_ ht.2.2.1 (bm_ HM0.out.2.1 HBS.out),bm_ ht.2.2.2 (bm_ HM0.out.2.2 HBF.out)⟩;have CS:=hid (fun (W:World) (hB:Below w1.heap.size w1 W)=>sb_ (t:=h0 ys) (u:=h1 xs) (a:=eya) (c:=eyc) (ua:=fxa) (uc:=fxc) (w:=W) ((eyH.out.keep fun b hb=>hB.block b (hSS b hb)).mono fun b hb=>aX_ (hSS b hb) hB.size) ((fxH.out.keep fun b hb=>hB.block b (hSS b hb)).mono fun b hb=>aX_ (hSS b hb) hB.size)
   (small _ (FF.out.2.2.1 _ (dn_ (by omega)))) (small _ (FF.out.1.2.1 _ (qC_ hlx))) (ag_ TT.out hB))
  have HSS:=hid hSS;have SZ1:=hid hsz;clear hM1 hlen E2 hkl hbx hby hlx hly hAx hAy hBx hBy hSS small hx1 hx2 hy1 hy2 hsz;generalize h0 xs=x0 at *;generalize h1 xs=x1 at *;generalize h0 ys=y0 at *;generalize h1 ys=y1 at *;have hW0:Below w1.heap.size w1 w1.drew:=(Below.refl _ _).drew
  by_cases hcan:bi_ y0=bi_ x1
  ·have E3:Hid (aB_ (d+1) g c=some (x0,y1)):=hid (by rw[E4.out,if_pos hcan])
   rw[decide_eq_true hcan] at CS;clear E4 hcan;go_wp2
   go_region_law (first
    | (go_simp;go_at_call 13;(with_reducible refine (CS.out _ hW0).mono ?_);rintro e w2 ⟨rfl,hb2⟩)
    | (go_simp;go_at_call 57;(with_reducible refine (dU_ _).mono ?_);rintro e w3 ⟨rfl,rfl⟩))
   all_goals
    have hB2:Below w1.heap.size w1 w2:=(Below.refl _ _).drew.trans hb2;have M2:=M1.out.low hB2;have MH2:=hid M2;obtain⟨a0,a1,a2,a3⟩:=exF.out.keep (hB2.block _ NEx.out.2.2);obtain⟨b0,b1,b2,b3⟩:=fyF.out.keep (hB2.block _ NEy.out.2.2);have A2:=hid ((exH.out.keep fun b hb=>hB2.block b (HSS.out b hb)).mono fun b hb=>(show S b∨w.heap.size+3≤b∧b<w2.heap.size from hb.imp id fun h=>⟨h.1,aX_ h.2 hB2.size⟩));have B2:=hid ((fyH.out.keep fun b hb=>hB2.block b (HSS.out b hb)).mono fun b hb=>(show S b∨w.heap.size+3≤b∧b<w2.heap.size from hb.imp id fun h=>⟨h.1,aX_ h.2 hB2.size⟩));obtain⟨l0,l1,l2,l3⟩:=M2.l.c03;obtain⟨u0,u1,u2,u3⟩:=M2.l.f03;obtain⟨r0,r1,r2,r3⟩:=M2.r.c03;obtain⟨v0,v1,v2,v3⟩:=M2.r.f03;have n1:=NEx.out.1;have n2:=NEx.out.2.1;have n3:=NEy.out.1;have n4:=NEy.out.2.1;clear M2 hB2 hb2 ex0 ex1 ex2 ex3 fx0 fx1 fx2 fx3 ey0 ey1 ey2 ey3 fy0 fy1 fy2 fy3;go_wp2
    go_region
    go_wp2;obtain⟨LL,RR,PP⟩:=eW_ (x:=x0) (y:=y1) (xa:=exa) (xc:=exc) (ya:=fya) (yc:=fyc) MH2.out HS.out A2.out B2.out;refine bodyPost_ret (v:=.tuple #[tv x0 exa exc,tv y1 fya fyc]) (by simp[results,Tryz.results27,go_sem,tv,LL.c0,LL.c1,LL.c2,LL.c3,RR.c0,RR.c1,RR.c2,RR.c3]) rfl ?_;rw[E3.out];exact PP
  ·have E3:Hid (aB_ (d+1) g c=none):=hid (by rw[E4.out,if_neg hcan])
   rw[decide_eq_false hcan] at CS;clear E4 hcan;go_wp2
   go_region_law (first
    | (go_simp;go_at_call 13;(with_reducible refine (CS.out _ hW0).mono ?_);rintro e w2 ⟨rfl,hb2⟩)
    | (go_simp;go_at_call 57;(with_reducible refine (d6_ _).mono ?_);rintro e w3 ⟨rfl,rfl⟩;have Z:Hid (bp_ S bV_ w (aB_ (d+1) g c) (.panicked bV_) w2):=hid (by rw[E3.out];exact⟨M1.out.b.trans (((Below.refl _ _).drew.trans hb2).mono M1.out.b.size),rfl⟩);refine jx_ (P:=Tryz.prog) (a:={ tmps:=#[],defers:=[] }) (w:=w2) ⟨rfl,Z.out⟩ ?_))
   all_goals trivial
theorem oZ_ (q:Nat)(g:List Giv)(d:Nat)(ih:d1_ q g d)(c:Co)(S:Nat→Prop)(a:OA_)(n:Nat)(ka:OA_)(kn:Nat)(gv:Value)(w:World)(hgo:eP_ q g)(hG:dk_ S w gv g)(hC:bS_ S w c a n ka kn)(hS:∀ b,S b→b<w.heap.size)(hw:WfC c)(hd:c.deep≤d+1)
  (hb:(bdC q c).s≤50000000000) (hf:(bdC q c).f≤4000000) (hm:aW_ c≤60) (hT:Tab w) (hk:c.kind=6):Calls Tryz.prog 27 #[gv,cv c a n ka kn] w (bp_ S bV_ w (aB_ (d+1) g c)):=by
 have E:Hid (aB_ (d+1) g c=match bs_ (aB_ d g) c.kids with
   | none=>none
   | some p=>dQ_ c p.1 p.2):=hid (by rw[aB_,if_neg (by omega),if_neg (by omega),show b2_ c=c from if_neg (by omega)];rfl)
 have q1:(c.kind==1)=false:=by rw[hk];rfl
 have q2:(c.kind==2)=false:=by rw[hk];rfl
 have q7:(c.kind==7)=false:=by rw[hk];rfl
 have q3:(c.kind==3)=false:=by rw[hk];rfl
 have q4:(c.kind==4)=false:=by rw[hk];rfl
 have q5:(c.kind==5)=false:=by rw[hk];rfl
 have q6:(c.kind==6)=true:=by rw[hk];rfl
 have hM:=ie_.new w c a n ka kn;have hbk:=bK_ q hw hb hm;have hM0:=d7_ hw hb hm (by omega) (by omega);have ho:b2_ c=c:=if_neg (by omega);rw[ho] at hM0 hbk;have hKids:∀ x∈c.kids,WfC x∧x.deep≤d∧(bdC q x).s≤50000000000∧(bdC q x).f≤4000000∧aW_ x≤60:=fun x hx =>
  ⟨hw.kids x hx,by have:=(hbk.2.2.2.2.2.2.1 x hx).2.2;omega,bm_ ((bE_ hx).trans hM0).2.1 hb,bm_ ((bE_ hx).trans hM0).2.2 hf,(hbk.2.2.2.2.2.2.1 x hx).2.1⟩
 have hFit:∀ p,bs_ (aB_ d g) c.kids=some p→hs_ q c.kids p.1∧hs_ q c.kids p.2:=fun p hp=>dI_ (fun x hx r hr=>du_ q d g x r hgo (hKids x hx).1 (hKids x hx).2.2.1 (hKids x hx).2.2.2.2 hr) hp;have KC:=hid (ep_ (aB_ d g) gv c S a n ka kn (((w.alloc (.cells #[.int .i64 c.kind,.string c.name,.int .i64 c.n,.int .i64 c.t.kind,.string c.t.name,.int .i64 c.t.n,.slice a c.t.args.length n,.slice ka c.kids.length kn] 33)).alloc (.cells #[.int .i64 0,.string ⟨#[]⟩,.int .i64 0,.slice none 0 0] 30)).alloc (.cells #[.int .i64 0,.string ⟨#[]⟩,.int .i64 0,.slice none 0 0] 30)) (hC.keep fun b hb=>hM.b.block b (hS b hb)) (fun b hb=>aX_ (hS b hb) hM.b.size) hw.k.2.1 (fun x hx a n ka kn W hB hCx=>by
  have hBw:=hM.b.trans (hB.mono hM.b.size);have hk:=hKids x hx;exact ih x S a n ka kn gv W (hG.keep fun b hb=>hBw.block b (hS b hb)) hCx (fun b hb=>aX_ (hS b hb) hBw.size) hk.1 hk.2.1 hk.2.2.1 hk.2.2.2.1 hk.2.2.2.2 (ag_ hT hBw)))
 have HS:=hid hS;have HM:=hid hM;have HF:=hid hFit;have HM0:=hid hM0;have HW:=hid hw;have HBS:=hid hb;have HBF:=hid hf;have HT:=hid hT;have HK:=hid hk;clear ih hgo hG hC hS hw hd hb hf hm hT hk hM hbk hM0 ho hKids hFit;unfold cv at *;go_enter Tryz.func27,Tryz.ntmps27;go_wp2_with fail;refine KC.out.mono ?_;rintro e w1 ⟨hb1,hres⟩;have hM1:=HM.out.low hb1;have hsz:w.heap.size+3≤w1.heap.size:=by have:=hb1.size;simpa using this
 cases hsy:bs_ (aB_ d g) c.kids with
 | none =>
  rw[hsy] at hres;subst hres;have E2:=E.out;rw[hsy] at E2;have E3:Hid (aB_ (d+1) g c=none):=hid E2;have M1:=hid hM1;clear hM1 hb1 hsy E2 E hsz;go_wp2;refine⟨rfl,?_⟩;rw[E3.out];exact⟨M1.out.b,rfl⟩
 | some p =>
  obtain⟨xs,ys⟩:=p;rw[hsy] at hres;obtain⟨xa,xc,ya,yc,rfl,hx,hy⟩:=hres;have E2:aB_ (d+1) g c=dQ_ c xs ys:=by have:=E.out;rw[hsy] at this;exact this
  have hlen:xs.length=c.kids.length∧ys.length=c.kids.length:=dH_ hsy;have FF:=hid (HF.out _ hsy);have up:∀ b,New S (((w.alloc (.cells #[.int .i64 c.kind,.string c.name,.int .i64 c.n,.int .i64 c.t.kind,.string c.t.name,.int .i64 c.t.n,.slice a c.t.args.length n,.slice ka c.kids.length kn] 33)).alloc (.cells #[.int .i64 0,.string ⟨#[]⟩,.int .i64 0,.slice none 0 0] 30)).alloc (.cells #[.int .i64 0,.string ⟨#[]⟩,.int .i64 0,.slice none 0 0] 30)) w1 b→(S b∨w.heap.size+3≤b∧b<w1.heap.size):=fun b hb=>hb.imp id fun h=>⟨by have:=h.1;simpa using this,h.2⟩;have AX:=hid (hx.mono up);have AY:=hid (hy.mono up);have M1:=hid hM1;have TT:=hid (ag_ HT.out hM1.b);clear hx hy up hb1 hsy E;have E3:Hid (aB_ (d+1) g c=some (.mk 4 e0 0 xs,.mk 4 e0 0 ys)):=hid (by rw[E2,dQ_];simp[HK.out]);obtain⟨l0,l1,l2,l3⟩:=hM1.l.c03;obtain⟨u0,u1,u2,u3⟩:=hM1.l.f03;obtain⟨r0,r1,r2,r3⟩:=hM1.r.c03;obtain⟨v0,v1,v2,v3⟩:=hM1.r.f03;have m0:=hM1.k.c0;have m1:=hM1.k.c1;have m2:=hM1.k.c2;have m3:=hM1.k.c3;have m4:=hM1.k.c4;have m5:=hM1.k.c5;have m6:=hM1.k.c6;clear hM1 hlen E2 hsz;go_wp2;obtain⟨LL,RR,PP⟩:=dG_ (x:=Ty.mk 4 e0 0 xs) (y:=Ty.mk 4 e0 0 ys) (xa:=xa) (xc:=xc) (ya:=ya) (yc:=yc) M1.out HS.out AX.out AY.out;simp only[Ty.kind,Ty.name,Ty.n,Ty.args,e0] at LL RR;refine bodyPost_ret (v:=.tuple #[tv (Ty.mk 4 e0 0 xs) xa xc,tv (Ty.mk 4 e0 0 ys) ya yc]) (by simp[results,Tryz.results27,go_sem,tv,Ty.kind,Ty.name,Ty.n,Ty.args,e0,LL.c0,LL.c1,LL.c2,LL.c3,RR.c0,RR.c1,RR.c2,RR.c3]) rfl ?_;rw[E3.out];exact PP
theorem kR_ (q:Nat)(g:List Giv)(hgo:eP_ q g):∀ d,d1_ q g d
 | 0=>fun c _ _ _ _ _ _ _ _ _ _ _ hd=>by cases c;rw[Co.deep] at hd;omega
 | d+1=>fun c S a n ka kn gv w hG hC hS hw hd hb hf hm hT=>by
  have ih:=kR_ q g hgo d
  rcases hw.k.2.2 with h|h|h|h|h|h|h|h|h
  ·exact oW_ g d c S a n ka kn gv w hG hS h.1
  ·exact mW_ g d c S a n ka kn gv w hC hS h.1
  ·exact oX_ q g d ih c S a n ka kn gv w hgo hG hC hS hw hd hb hf hm hT h.1
  ·exact lK_ q g d ih c S a n ka kn gv w hgo hG hC hS hw hd hb hf hm hT h.1
  ·exact o0_ q g d ih c S a n ka kn gv w hgo hG hC hS hw hd hb hf hm hT h
  ·exact oZ_ q g d ih c S a n ka kn gv w hgo hG hC hS hw hd hb hf hm hT h.1
  ·exact o1_ q g d ih c S a n ka kn gv w hgo hG hC hS hw hd hb hf hm hT h.1
  ·exact oY_ q g d ih c S a n ka kn gv w hgo hG hC hS hw hd hb hf hm hT h.1
  ·exact mX_ q g d ih c S a n ka kn gv w hgo hG hC hS hw hd hb hf hm hT h.1
abbrev z4 (W:World) (b:Nat):Prop:=B4 W b (.int .i64 0) (.string ⟨#[]⟩) (.int .i64 0) (.slice none 0 0)
abbrev e1 (W:World) (b:Nat) (v:Int):Prop:=W.heap[b]? = some (.cells #[.int .i64 v] 34 (0,0))
theorem iC_ {W:World}{b:Nat}{v:Int}(h:e1 W b v):W.cell? ⟨b,0,none⟩=some (.int .i64 v):=by unfold e1 at h;simp[World.cell?,h]
theorem sz_ {W:World}{b:Nat}{v:Int}(h:e1 W b v):W.frozen? ⟨b,0,none⟩=false:=by unfold e1 at h;simp[World.frozen?,h]
def lq_ (w w':World)(p q r:Nat):Prop:=z4 w' p∧z4 w' q∧e1 w' r 50∧∀ m,m≤p→m≤q→m≤r→m≤w.heap.size→Below m w w'
theorem of_ {w:World}{p q r:Nat}(hp:z4 w p)(hq:z4 w q)(hr:e1 w r 0)(hpq:p≠q)(hpr:p≠r)(hqr:q≠r) :
  lq_ w ((st4 (st4 (w.alloc (.cells #[] 79)) p (.int .i64 0) (.string ⟨#[]⟩) (.int .i64 0) (.slice none 0 0)) q (.int .i64 0) (.string ⟨#[]⟩) (.int .i64 0) (.slice none 0 0)).setCell ⟨r,0,none⟩ (.int .i64 50)) p q r:=by
 have hB:=ao_ w (.cells #[] 79);have hP:=hp.low hB;have hQ:=hq.low hB;have hR:e1 (w.alloc (.cells #[] 79)) r 0:=(hB.block r (by have:=Array.getElem?_eq_some_iff.1 hr;exact this.1)).trans hr;generalize w.alloc (.cells #[] 79)=W at *;have P1:z4 (st4 W p (.int .i64 0) (.string ⟨#[]⟩) (.int .i64 0) (.slice none 0 0)) p:=hP.set4 _ _ _ _;have Q1:z4 (st4 W p (.int .i64 0) (.string ⟨#[]⟩) (.int .i64 0) (.slice none 0 0)) q:=(cz_ W (Ne.symm hpq) _ _ _ _).trans hQ;have R1:e1 (st4 W p (.int .i64 0) (.string ⟨#[]⟩) (.int .i64 0) (.slice none 0 0)) r 0:=(cz_ W (Ne.symm hpr) _ _ _ _).trans hR;have B1:∀ m,m≤p→m≤w.heap.size→Below m w (st4 W p (.int .i64 0) (.string ⟨#[]⟩) (.int .i64 0) (.slice none 0 0)):=fun m h h'=>ea_ (hB.mono h') h _ _ _ _;generalize st4 W p (.int .i64 0) (.string ⟨#[]⟩) (.int .i64 0) (.slice none 0 0)=W1 at *;have P2:z4 (st4 W1 q (.int .i64 0) (.string ⟨#[]⟩) (.int .i64 0) (.slice none 0 0)) p:=(cz_ W1 hpq _ _ _ _).trans P1;have Q2:z4 (st4 W1 q (.int .i64 0) (.string ⟨#[]⟩) (.int .i64 0) (.slice none 0 0)) q:=Q1.set4 _ _ _ _;have R2:e1 (st4 W1 q (.int .i64 0) (.string ⟨#[]⟩) (.int .i64 0) (.slice none 0 0)) r 0:=(cz_ W1 (Ne.symm hqr) _ _ _ _).trans R1;have B2:∀ m,m≤p→m≤q→m≤w.heap.size→Below m w (st4 W1 q (.int .i64 0) (.string ⟨#[]⟩) (.int .i64 0) (.slice none 0 0)):=fun m h h1 h'=>ea_ (B1 m h h') h1 _ _ _ _;generalize st4 W1 q (.int .i64 0) (.string ⟨#[]⟩) (.int .i64 0) (.slice none 0 0)=W2 at *;refine⟨(aM_ _ _ _ _ hpr).trans P2,(aM_ _ _ _ _ hqr).trans Q2,?_,fun m h1 h2 h3 h4=>(B2 m h1 h2 h4).setCell (p:=⟨r,0,none⟩) h3 _⟩;unfold e1 at *;rw[ak_ R2];rfl
theorem ku_ (p q r:Nat)(w:World)(hp:z4 w p)(hq:z4 w q)(hpq:p≠q)(hpr:p≠r)(hqr:q≠r)(hr:e1 w r 0) :
  CallsD Tryz.prog 26 #[.pointer (some ⟨p,0,none⟩),.pointer (some ⟨q,0,none⟩),.pointer (some ⟨r,0,none⟩)] (.panicking bV_) w fun e u' w' =>
   e=.returned (.tuple #[])∧u'=.panicking [{ v:=.iface 79 (.agg #[]),recovered:=true }]∧lq_ w w' p q r:=by
 refine callsD_of_wpS Tryz.func26 rfl fun c₀ cs hu=>?_;have HC:=hid (of_ hp hq hr hpq hpr hqr);apply wpS_seq;apply wpS_region;simp[wpOpsS,go_sem,recoverD,hu,bV_,Tryz.ntmps26,Exit.thenS];refine wpS_of_wp ?_;have hta:∀ w:World,(Instr.typeAssert (.iface 79 (.agg #[])) 20 79 true).run Tryz.prog w=.ok (.tuple #[.agg #[],.bool true]) w:=fun _=>by kernel_rfl
 clear hu;have hB:=ao_ w (.cells #[] 79);have hP:=hp.low hB;have hQ:=hq.low hB;have hR:e1 (w.alloc (.cells #[] 79)) r 0:=(hB.block r (by have:=Array.getElem?_eq_some_iff.1 hr;exact this.1)).trans hr;obtain⟨p0,p1,p2,p3⟩:=hP.c03;obtain⟨q0,q1,q2,q3⟩:=hQ.c03;obtain⟨f0,f1,f2,f3⟩:=hP.f03;obtain⟨g0,g1,g2,g3⟩:=hQ.f03;have r0:=iC_ hR;have r1:=sz_ hR;have h1:=Ne.symm hpq;have h2:=Ne.symm hpr;have h3:=Ne.symm hqr;clear hp hq hr hB hP hQ hR;go_wp2;simp[bodyPostS,results,Tryz.results26];exact HC.out
theorem mq_ (p q r:Nat)(w:World) :
  CallsD Tryz.prog 26 #[.pointer (some ⟨p,0,none⟩),.pointer (some ⟨q,0,none⟩),.pointer (some ⟨r,0,none⟩)] .returning w fun e u' w' =>
   e=.returned (.tuple #[])∧u'=.returning∧w'=w:=by
 refine callsD_of_wpS Tryz.func26 rfl fun c₀ cs hu=>?_;apply wpS_seq;apply wpS_region;simp[wpOpsS,go_sem,recoverD,hu,Tryz.ntmps26,Exit.thenS];refine wpS_of_wp ?_;go_wp2;cases c₀;simp_all [bodyPostS,results,Tryz.results26]
end Go.Proofs.YtkihnodkhnahiaaGreatDoor.Tp

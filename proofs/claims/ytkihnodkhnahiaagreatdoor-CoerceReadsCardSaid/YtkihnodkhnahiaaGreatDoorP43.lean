/- Packed. -/
import Derived.Test.YtkihnodkhnahiaaGreatDoorP42
import Derived.Test.YtkihnodkhnahiaaGreatDoorP31
import Derived.Test.YtkihnodkhnahiaaGreatDoorP36
import Derived.Test.YtkihnodkhnahiaaGreatDoorP37
set_option maxRecDepth 100000
set_option maxHeartbeats 6400000
namespace Go.Proofs.YtkihnodkhnahiaaGreatDoor.Tp
section
open Go.RowKit
structure SaW (w W:World):Prop where
 l:z4 W (w.heap.size+1)
 r:z4 W (w.heap.size+1+1)
 e:e1 W (w.heap.size+1+1+1) 0
 b:Below w.heap.size w W
theorem SaW.new (w:World)(c:Co)(a:OA_)(n:Nat)(ka:OA_)(kn:Nat):SaW w ((((w.alloc (.cells #[.int .i64 c.kind,.string c.name,.int .i64 c.n,.int .i64 c.t.kind,.string c.t.name,.int .i64 c.t.n,.slice a c.t.args.length n,.slice ka c.kids.length kn] 33)).alloc (.cells #[.int .i64 0,.string ⟨#[]⟩,.int .i64 0,.slice none 0 0] 30)).alloc (.cells #[.int .i64 0,.string ⟨#[]⟩,.int .i64 0,.slice none 0 0] 30)).alloc (.cells #[.int .i64 0] 34)):=by
 have h1:=ao_ w (.cells #[.int .i64 c.kind,.string c.name,.int .i64 c.n,.int .i64 c.t.kind,.string c.t.name,.int .i64 c.t.n,.slice a c.t.args.length n,.slice ka c.kids.length kn] 33);have h2:=h1.alloc h1.size (.cells #[.int .i64 0,.string ⟨#[]⟩,.int .i64 0,.slice none 0 0] 30);have h3:=h2.alloc h2.size (.cells #[.int .i64 0,.string ⟨#[]⟩,.int .i64 0,.slice none 0 0] 30);have h4:=h3.alloc h3.size (.cells #[.int .i64 0] 34);have a4:=(Below.refl (((w.alloc (.cells #[.int .i64 c.kind,.string c.name,.int .i64 c.n,.int .i64 c.t.kind,.string c.t.name,.int .i64 c.t.n,.slice a c.t.args.length n,.slice ka c.kids.length kn] 33)).alloc (.cells #[.int .i64 0,.string ⟨#[]⟩,.int .i64 0,.slice none 0 0] 30)).alloc (.cells #[.int .i64 0,.string ⟨#[]⟩,.int .i64 0,.slice none 0 0] 30)).heap.size (((w.alloc (.cells #[.int .i64 c.kind,.string c.name,.int .i64 c.n,.int .i64 c.t.kind,.string c.t.name,.int .i64 c.t.n,.slice a c.t.args.length n,.slice ka c.kids.length kn] 33)).alloc (.cells #[.int .i64 0,.string ⟨#[]⟩,.int .i64 0,.slice none 0 0] 30)).alloc (.cells #[.int .i64 0,.string ⟨#[]⟩,.int .i64 0,.slice none 0 0] 30))).alloc (aw_ _) (.cells #[.int .i64 0] 34);have a3:=(Below.refl ((w.alloc (.cells #[.int .i64 c.kind,.string c.name,.int .i64 c.n,.int .i64 c.t.kind,.string c.t.name,.int .i64 c.t.n,.slice a c.t.args.length n,.slice ka c.kids.length kn] 33)).alloc (.cells #[.int .i64 0,.string ⟨#[]⟩,.int .i64 0,.slice none 0 0] 30)).heap.size ((w.alloc (.cells #[.int .i64 c.kind,.string c.name,.int .i64 c.n,.int .i64 c.t.kind,.string c.t.name,.int .i64 c.t.n,.slice a c.t.args.length n,.slice ka c.kids.length kn] 33)).alloc (.cells #[.int .i64 0,.string ⟨#[]⟩,.int .i64 0,.slice none 0 0] 30))).alloc (aw_ _) (.cells #[.int .i64 0,.string ⟨#[]⟩,.int .i64 0,.slice none 0 0] 30);refine⟨?_,?_,?_,h4⟩
 ·exact B4.low (B4.low (al_ (by simp)) a3) a4
 ·exact B4.low (al_ (by simp)) a4
 ·have:=heap_alloc_new (((w.alloc (.cells #[.int .i64 c.kind,.string c.name,.int .i64 c.n,.int .i64 c.t.kind,.string c.t.name,.int .i64 c.t.n,.slice a c.t.args.length n,.slice ka c.kids.length kn] 33)).alloc (.cells #[.int .i64 0,.string ⟨#[]⟩,.int .i64 0,.slice none 0 0] 30)).alloc (.cells #[.int .i64 0,.string ⟨#[]⟩,.int .i64 0,.slice none 0 0] 30)) (.cells #[.int .i64 0] 34)
  simpa [e1] using this
theorem SaW.low {w W W':World}(h:SaW w W)(hb:Below W.heap.size W W'):SaW w W':=⟨h.l.low hb,h.r.low hb,(hb.block _ (by have:=Array.getElem?_eq_some_iff.1 h.e;exact this.1)).trans h.e,h.b.trans (hb.mono h.b.size)⟩
def iO_ (S:Nat→Prop)(w:World)(r:Option (Ty × Ty))(e:Ending)(w':World):Prop:=Below w.heap.size w w'∧match r with
 | none=>e=.returned (.tuple #[tv tz none 0,tv tz none 0,.int .i64 50])
 | some p=>∃ a c b d,e=.returned (.tuple #[tv p.1 a c,tv p.2 b d,.int .i64 0])∧ac_ (New S w w') w' (.slice a p.1.args.length c) p.1.args∧ac_ (New S w w') w' (.slice b p.2.args.length d) p.2.args
theorem qq_ {w1:World}{p q r:Nat}(x0 x1 x2 x3 y0 y1 y2 y3:Value)(a0 a1 a2 a3 b0 b1 b2 b3:Value)(hpq:p≠q)(hpr:p≠r)(hqr:q≠r)(hp:B4 w1 p a0 a1 a2 a3)(hq:B4 w1 q b0 b1 b2 b3)(hr:e1 w1 r 0) :
  B4 (st4 (st4 w1 p x0 x1 x2 x3) q y0 y1 y2 y3) p x0 x1 x2 x3∧B4 (st4 (st4 w1 p x0 x1 x2 x3) q y0 y1 y2 y3) q y0 y1 y2 y3∧e1 (st4 (st4 w1 p x0 x1 x2 x3) q y0 y1 y2 y3) r 0 ∧
  (∀ b,b≠p→b≠q→(st4 (st4 w1 p x0 x1 x2 x3) q y0 y1 y2 y3).heap[b]? = w1.heap[b]?)∧(st4 (st4 w1 p x0 x1 x2 x3) q y0 y1 y2 y3).heap.size=w1.heap.size∧∀ m (w:World),m≤p→m≤q→Below m w w1→Below m w (st4 (st4 w1 p x0 x1 x2 x3) q y0 y1 y2 y3):=by
 refine⟨(cz_ _ hpq y0 y1 y2 y3).trans (hp.set4 x0 x1 x2 x3),B4.set4 (w:=st4 w1 p x0 x1 x2 x3) (u0:=b0) (u1:=b1) (u2:=b2) (u3:=b3) ((cz_ _ (Ne.symm hpq) x0 x1 x2 x3).trans hq) y0 y1 y2 y3,((cz_ _ (Ne.symm hqr) y0 y1 y2 y3).trans (cz_ _ (Ne.symm hpr) x0 x1 x2 x3)).trans hr,fun b h1 h2=>(cz_ _ h2 y0 y1 y2 y3).trans (cz_ _ h1 x0 x1 x2 x3),by simp,fun m w h1 h2 hb=>ea_ (ea_ hb h1 x0 x1 x2 x3) h2 y0 y1 y2 y3⟩
theorem o2_ {S:Nat→Prop}{w w1:World}{x y:Ty}{xa ya:OA_}{xc yc:Nat}(M:SaW w w1)(hS:∀ b,S b→b<w.heap.size)(hx:ac_ (fun b=>S b∨w.heap.size+4≤b∧b<w1.heap.size) w1 (.slice xa x.args.length xc) x.args)(hy:ac_ (fun b=>S b∨w.heap.size+4≤b∧b<w1.heap.size) w1 (.slice ya y.args.length yc) y.args) :
  B4 (((st4 (st4 (st4 (st4 w1 (w.heap.size+1) (.int .i64 x.kind) (.string x.name) (.int .i64 x.n) (.slice xa x.args.length xc)) (w.heap.size+1+1) (.int .i64 y.kind) (.string y.name) (.int .i64 y.n) (.slice ya y.args.length yc)) (w.heap.size+1) (.int .i64 x.kind) (.string x.name) (.int .i64 x.n) (.slice xa x.args.length xc)) (w.heap.size+1+1) (.int .i64 y.kind) (.string y.name) (.int .i64 y.n) (.slice ya y.args.length yc)).setCell ⟨w.heap.size+1+1+1,0,none⟩ (.int .i64 0)).drew) (w.heap.size+1) (.int .i64 x.kind) (.string x.name) (.int .i64 x.n) (.slice xa x.args.length xc)∧B4 (((st4 (st4 (st4 (st4 w1 (w.heap.size+1) (.int .i64 x.kind) (.string x.name) (.int .i64 x.n) (.slice xa x.args.length xc)) (w.heap.size+1+1) (.int .i64 y.kind) (.string y.name) (.int .i64 y.n) (.slice ya y.args.length yc)) (w.heap.size+1) (.int .i64 x.kind) (.string x.name) (.int .i64 x.n) (.slice xa x.args.length xc)) (w.heap.size+1+1) (.int .i64 y.kind) (.string y.name) (.int .i64 y.n) (.slice ya y.args.length yc)).setCell ⟨w.heap.size+1+1+1,0,none⟩ (.int .i64 0)).drew) (w.heap.size+1+1) (.int .i64 y.kind) (.string y.name) (.int .i64 y.n) (.slice ya y.args.length yc)∧e1 (((st4 (st4 (st4 (st4 w1 (w.heap.size+1) (.int .i64 x.kind) (.string x.name) (.int .i64 x.n) (.slice xa x.args.length xc)) (w.heap.size+1+1) (.int .i64 y.kind) (.string y.name) (.int .i64 y.n) (.slice ya y.args.length yc)) (w.heap.size+1) (.int .i64 x.kind) (.string x.name) (.int .i64 x.n) (.slice xa x.args.length xc)) (w.heap.size+1+1) (.int .i64 y.kind) (.string y.name) (.int .i64 y.n) (.slice ya y.args.length yc)).setCell ⟨w.heap.size+1+1+1,0,none⟩ (.int .i64 0)).drew) (w.heap.size+1+1+1) 0 ∧
  iO_ S w (some (x,y)) (.returned (.tuple #[tv x xa xc,tv y ya yc,.int .i64 0])) (((st4 (st4 (st4 (st4 w1 (w.heap.size+1) (.int .i64 x.kind) (.string x.name) (.int .i64 x.n) (.slice xa x.args.length xc)) (w.heap.size+1+1) (.int .i64 y.kind) (.string y.name) (.int .i64 y.n) (.slice ya y.args.length yc)) (w.heap.size+1) (.int .i64 x.kind) (.string x.name) (.int .i64 x.n) (.slice xa x.args.length xc)) (w.heap.size+1+1) (.int .i64 y.kind) (.string y.name) (.int .i64 y.n) (.slice ya y.args.length yc)).setCell ⟨w.heap.size+1+1+1,0,none⟩ (.int .i64 0)).drew):=by
 obtain⟨P1,Q1,R1,O1,Z1,B1⟩:=qq_ (p:=w.heap.size+1) (q:=w.heap.size+1+1) (r:=w.heap.size+1+1+1) (.int .i64 x.kind) (.string x.name) (.int .i64 x.n) (.slice xa x.args.length xc) (.int .i64 y.kind) (.string y.name) (.int .i64 y.n) (.slice ya y.args.length yc) _ _ _ _ _ _ _ _ (by omega) (by omega) (by omega) M.l M.r M.e;have B1:=B1 w.heap.size w (by omega) (by omega) M.b;generalize st4 (st4 w1 (w.heap.size+1) (.int .i64 x.kind) (.string x.name) (.int .i64 x.n) (.slice xa x.args.length xc)) (w.heap.size+1+1) (.int .i64 y.kind) (.string y.name) (.int .i64 y.n) (.slice ya y.args.length yc)=W1 at *;obtain⟨P2,Q2,R2,O2,Z2,B2⟩:=qq_ (p:=w.heap.size+1) (q:=w.heap.size+1+1) (r:=w.heap.size+1+1+1) (.int .i64 x.kind) (.string x.name) (.int .i64 x.n) (.slice xa x.args.length xc) (.int .i64 y.kind) (.string y.name) (.int .i64 y.n) (.slice ya y.args.length yc) _ _ _ _ _ _ _ _ (by omega) (by omega) (by omega) P1 Q1 R1;have B2:=B2 w.heap.size w (by omega) (by omega) B1;generalize st4 (st4 W1 (w.heap.size+1) (.int .i64 x.kind) (.string x.name) (.int .i64 x.n) (.slice xa x.args.length xc)) (w.heap.size+1+1) (.int .i64 y.kind) (.string y.name) (.int .i64 y.n) (.slice ya y.args.length yc)=W2 at *;have off:∀ b,b≠w.heap.size+1+1+1→(W2.setCell ⟨w.heap.size+1+1+1,0,none⟩ (.int .i64 0)).drew.heap[b]? = W2.heap[b]? := fun b h=>(kp_ _ _).trans (aM_ _ _ _ _ h);have hE:e1 ((W2.setCell ⟨w.heap.size+1+1+1,0,none⟩ (.int .i64 0)).drew) (w.heap.size+1+1+1) 0:=by
  refine (kp_ _ _).trans ?_;unfold e1 at *;rw[ak_ R2];rfl
 have hB:=(B2.setCell (p:=⟨w.heap.size+1+1+1,0,none⟩) (show w.heap.size≤w.heap.size+1+1+1 by omega) (.int .i64 0)).drew;have hZ:(W2.setCell ⟨w.heap.size+1+1+1,0,none⟩ (.int .i64 0)).drew.heap.size=W2.heap.size:=by simp
 generalize (W2.setCell ⟨w.heap.size+1+1+1,0,none⟩ (.int .i64 0)).drew=W3 at *;have k:∀ b,(S b∨w.heap.size+4≤b∧b<w1.heap.size)→W3.heap[b]? = w1.heap[b]? := fun b h=>by
  have h1:b≠w.heap.size+1∧b≠w.heap.size+1+1∧b≠w.heap.size+1+1+1:=by rcases h with h|h<;>first|(have:=hS b h;omega)|omega
  rw[off b h1.2.2,O2 b h1.1 h1.2.1,O1 b h1.1 h1.2.1]
 have m:∀ b,(S b∨w.heap.size+4≤b∧b<w1.heap.size)→New S w W3 b:=fun b h=>h.imp id fun h=>⟨by omega,by omega⟩;exact⟨(off _ (by omega)).trans P2,(off _ (by omega)).trans Q2,hE,hB,_,_,_,_,rfl,(hx.keep k).mono m,(hy.keep k).mono m⟩
theorem mV_ (q:Nat)(g:List Giv)(hgo:eP_ q g)(c:Co)(S:Nat→Prop)(a:OA_)(n:Nat)(ka:OA_)(kn:Nat)(gv:Value)(w:World)(hG:dk_ S w gv g)(hC:bS_ S w c a n ka kn)(hS:∀ b,S b→b<w.heap.size)(hw:WfC c)
  (hb:(bdC q c).s≤50000000000) (hf:(bdC q c).f≤4000000) (hm:aW_ c≤60) (hT:Tab w):Calls Tryz.prog 12 #[gv,cv c a n ka kn] w (iO_ S w (aB_ c.deep g c)):=by
 have hmf:∀ (fn:Fn) (first cap:Array Value) (w:World),(Instr.makeFunc fn first cap).run Tryz.prog w=.ok (.func fn first cap) w:=fun _ _ _ _=>rfl;have hM:=SaW.new w c a n ka kn;have CS:=hid (kR_ q g hgo c.deep c S a n ka kn gv ((((w.alloc (.cells #[.int .i64 c.kind,.string c.name,.int .i64 c.n,.int .i64 c.t.kind,.string c.t.name,.int .i64 c.t.n,.slice a c.t.args.length n,.slice ka c.kids.length kn] 33)).alloc (.cells #[.int .i64 0,.string ⟨#[]⟩,.int .i64 0,.slice none 0 0] 30)).alloc (.cells #[.int .i64 0,.string ⟨#[]⟩,.int .i64 0,.slice none 0 0] 30)).alloc (.cells #[.int .i64 0] 34)) (hG.keep fun b hb=>hM.b.block b (hS b hb)) (hC.keep fun b hb=>hM.b.block b (hS b hb)) (fun b hb=>aX_ (hS b hb) hM.b.size) hw (aw_ _) hb hf hm (ag_ hT hM.b));have HM:=hid hM;have HS:=hid hS;clear hM hG hC hw hb hf hm hT hgo hS;unfold cv at *;generalize aB_ c.deep g c=res at *;go_enter_defers Tryz.func12,Tryz.ntmps12;go_wp2_with fail;refine CS.out.mono ?_;rintro e w1 ⟨hb1,hres⟩;have hM1:=HM.out.low hb1;cases res with
 | none =>
  subst hres;have M1:=hid hM1;clear hM1;go_wp2;refine leaves_cons (f:=26) (args:=#[.pointer (some ⟨w.heap.size+1,0,none⟩),.pointer (some ⟨w.heap.size+1+1,0,none⟩),.pointer (some ⟨w.heap.size+1+1+1,0,none⟩)]) (by simp) (by simp[go_sem]) ?_;refine (ku_ (w.heap.size+1) (w.heap.size+1+1) (w.heap.size+1+1+1) w1 M1.out.l M1.out.r (by omega) (by omega) (by omega) M1.out.e).mono ?_;rintro e u' w2 ⟨rfl,rfl,z1,z2,z3,z5⟩;have z6:iO_ S w none (.returned (.tuple #[tv tz none 0,tv tz none 0,.int .i64 50])) w2:=by
   have h1:=M1.out.b;have h2:=h1.size;have h3:=Array.getElem?_eq_some_iff.1 M1.out.e;exact⟨h1.trans (z5 _ (by omega) (by omega) (by omega) h2),rfl⟩
  obtain⟨l0,l1,l2,l3⟩:=z1.c03;obtain⟨r0,r1,r2,r3⟩:=z2.c03;have x0:=iC_ z3;simp[Leaves,settle,results,Tryz.results12,go_sem,l0,l1,l2,l3,r0,r1,r2,r3,x0];exact z6
 | some p =>
  obtain⟨x,y⟩:=p;obtain⟨xa,xc,ya,yc,rfl,hx,hy⟩:=hres;obtain⟨l0,l1,l2,l3⟩:=hM1.l.c03;obtain⟨u0,u1,u2,u3⟩:=hM1.l.f03;obtain⟨r0,r1,r2,r3⟩:=hM1.r.c03;obtain⟨v0,v1,v2,v3⟩:=hM1.r.f03;have e0:=iC_ hM1.e;have e2:=sz_ hM1.e;have M1:=hid hM1;have hz4:((((w.alloc (.cells #[.int .i64 c.kind,.string c.name,.int .i64 c.n,.int .i64 c.t.kind,.string c.t.name,.int .i64 c.t.n,.slice a c.t.args.length n,.slice ka c.kids.length kn] 33)).alloc (.cells #[.int .i64 0,.string ⟨#[]⟩,.int .i64 0,.slice none 0 0] 30)).alloc (.cells #[.int .i64 0,.string ⟨#[]⟩,.int .i64 0,.slice none 0 0] 30)).alloc (.cells #[.int .i64 0] 34)).heap.size=w.heap.size+4:=by simp
  have up:∀ b,New S ((((w.alloc (.cells #[.int .i64 c.kind,.string c.name,.int .i64 c.n,.int .i64 c.t.kind,.string c.t.name,.int .i64 c.t.n,.slice a c.t.args.length n,.slice ka c.kids.length kn] 33)).alloc (.cells #[.int .i64 0,.string ⟨#[]⟩,.int .i64 0,.slice none 0 0] 30)).alloc (.cells #[.int .i64 0,.string ⟨#[]⟩,.int .i64 0,.slice none 0 0] 30)).alloc (.cells #[.int .i64 0] 34)) w1 b→(S b∨w.heap.size+4≤b∧b<w1.heap.size):=fun b hb=>hb.imp id fun h=>⟨by have:=h.1;rw[hz4] at this;exact this,h.2⟩;have HX:=hid (hx.mono up);have HY:=hid (hy.mono up);clear hM1 hx hy hb1 hz4 up CS HM;unfold tv;go_wp2
  go_region
  go_wp2;obtain⟨LL,RR,EE,PP⟩:=o2_ (x:=x) (y:=y) M1.out HS.out HX.out HY.out;have CI:=fun (W:World)=>mq_ (w.heap.size+1) (w.heap.size+1+1) (w.heap.size+1+1+1) W;generalize ((st4 (st4 (st4 (st4 w1 (w.heap.size+1) (.int .i64 x.kind) (.string x.name) (.int .i64 x.n) (.slice xa x.args.length xc)) (w.heap.size+1+1) (.int .i64 y.kind) (.string y.name) (.int .i64 y.n) (.slice ya y.args.length yc)) (w.heap.size+1) (.int .i64 x.kind) (.string x.name) (.int .i64 x.n) (.slice xa x.args.length xc)) (w.heap.size+1+1) (.int .i64 y.kind) (.string y.name) (.int .i64 y.n) (.slice ya y.args.length yc)).setCell ⟨w.heap.size+1+1+1,0,none⟩ (.int .i64 0)).drew=W9 at *;refine leaves_cons (f:=26) (args:=#[.pointer (some ⟨w.heap.size+1,0,none⟩),.pointer (some ⟨w.heap.size+1+1,0,none⟩),.pointer (some ⟨w.heap.size+1+1+1,0,none⟩)]) (by simp) (by simp[go_sem]) ?_;refine (CI W9).mono ?_;rintro e u' w2 ⟨rfl,rfl,rfl⟩;obtain⟨l0,l1,l2,l3⟩:=LL.c03;obtain⟨r0,r1,r2,r3⟩:=RR.c03;have x0:=iC_ EE;simp[Leaves,settle,results,Tryz.results12,go_sem,l0,l1,l2,l3,r0,r1,r2,r3,x0];exact PP
end
section
open Lx
structure hz_ (q:Nat)(c:Co):Prop where
 w:WfC c
 s:(bdC q c).s≤50000000000
 f:(bdC q c).f≤4000000
 b:aW_ c≤60
theorem j0_ {f g:Co→Option (Ty × Ty)} : ∀ {cs:List Co},(∀ c∈cs,f c=g c)→bs_ f cs=bs_ g cs:=by
 intro cs
 induction cs with
 | nil=>intro _;rfl
 | cons c cs ih=>intro h;rw[bs_,bs_,h c (by simp),ih fun a ha=>h a (by simp[ha])]
theorem lO_ (q:Nat)(g:List Giv):∀ (d e:Nat) (c:Co),WfC c→(bdC q c).s≤50000000000→aW_ c≤60→c.deep≤d→c.deep≤e→aB_ d g c=aB_ e g c:=by
 intro d
 induction d with
 | zero=>intro e c _ _ _ h;rw[c.deep_eq] at h;omega
 | succ d ih =>
  intro e c hw hb hm hd he;cases e with
  | zero=>rw[c.deep_eq] at he;omega
  | succ e =>
   rw[aB_,aB_]
   by_cases h1:c.kind=1
   ·rw[if_pos h1,if_pos h1]
   ·by_cases h2:c.kind=2
    ·rw[if_neg h1,if_neg h1,if_pos h2,if_pos h2]
    ·rw[if_neg h1,if_neg h1,if_neg h2,if_neg h2]
     have o:=bK_ q hw hb hm;have hM:=d7_ hw hb hm h1 h2;rw[j0_ fun a ha=>by
      obtain⟨k1,k2,k3⟩:=o.2.2.2.2.2.2.1 a ha;exact ih e a k1 (bm_ ((bE_ ha).trans hM).2.1 hb) k2 (by omega) (by omega)]
theorem hz_.says {q:Nat}{c:Co}(h:hz_ q c)(g:List Giv){d:Nat}(hd:c.deep≤d):aB_ d g c=hw_ g c:=lO_ q g d c.deep c h.w h.s h.b hd (aw_ _)
def r5_ (c:Co):Co:=.mk 3 e0 0 tz [c]
def sI_ (c:Co):Co:=.mk 4 e0 0 tz [c,r5_ c]
theorem he0:(e0:ByteArray).size≤64:=by decide
theorem hz_.sym {q:Nat}{c:Co}(h:hz_ q c):hz_ q (r5_ c):=by
 have e:bdC q (r5_ c)=(bdC q c).sup ⟨0,0,0⟩:=rfl;refine⟨(d3_ _).2 ⟨⟨he0,by show 1≤4000;omega,.inr (.inr (.inl ⟨rfl,rfl⟩))⟩,fun a ha=>?_⟩,?_,?_,?_⟩
 ·obtain rfl:=List.mem_singleton.1 ha;exact h.w
 ·rw[e];have:=h.s;simp only[Bd.sup];omega
 ·rw[e];have:=h.f;simp only[Bd.sup];omega
 ·have:=h.b;show max (aW_ c) 0+0≤60;omega
theorem hz_.back {q:Nat}{c:Co}(h:hz_ q c):hz_ q (sI_ c):=by
 have e:bdC q (sI_ c)=(bdC q c).sup ((bdC q (r5_ c)).sup ⟨0,0,0⟩):=rfl;have hs:=h.sym;refine⟨(d3_ _).2 ⟨⟨he0,by show 2≤4000;omega,.inr (.inr (.inr (.inl ⟨rfl,rfl⟩)))⟩,fun a ha=>?_⟩,?_,?_,?_⟩
 ·rcases List.mem_cons.1 ha with rfl|ha
  ·exact h.w
  ·obtain rfl:=List.mem_singleton.1 ha;exact hs.w
 ·rw[e];have:=h.s;have:=hs.s;simp only[Bd.sup];omega
 ·rw[e];have:=h.f;have:=hs.f;simp only[Bd.sup];omega
 ·have:=h.b;have:=hs.b;show max (aW_ c) (max (aW_ (r5_ c)) 0)+0≤60;omega
mutual
def fvC (x:ByteArray):Co→Prop
 | .mk k _ _ t ks=>((k=2∨k=9)∧fvT x t)∨fvCL x ks
def fvCL (x:ByteArray):List Co→Prop
 | []=>False
 | c :: cs=>fvC x c∨fvCL x cs
end
mutual
def MkC:Co→Prop
 | .mk k _ _ t ks=>((k=2∨k=9)→Mk t)∧sN_ ks
def sN_:List Co→Prop
 | []=>True
 | c :: cs=>MkC c∧sN_ cs
end
theorem qe_ (ks:List Co):sN_ ks↔∀ c∈ks,MkC c:=by
 induction ks with
 | nil=>simp[sN_]
 | cons c cs ih=>rw[sN_,ih];simp
theorem g1_ (c:Co):MkC c↔((c.kind=2∨c.kind=9)→Mk c.t)∧∀ a∈c.kids,MkC a:=by cases c;rw[MkC,qe_];rfl
theorem mkC:∀ n:Nat,
  (∀ l c r,(∀ t∈l,be_ t)→coF n l=some (c,r)→MkC c∧∀ t∈r,be_ t) ∧
  (∀ l c r,(∀ t∈l,be_ t)→a1_ n l=some (c,r)→MkC c∧∀ t∈r,be_ t) ∧
  (∀ acc l ks r,(∀ c∈acc,MkC c)→(∀ t∈l,be_ t)→fJ_ n acc l=some (ks,r)→(∀ c∈ks,MkC c)∧∀ t∈r,be_ t) ∧
  (∀ m acc l ks r,(∀ c∈acc,MkC c)→(∀ t∈l,be_ t)→bg_ n m acc l=some (ks,r)→(∀ c∈ks,MkC c)∧∀ t∈r,be_ t):=by
 intro n
 induction n with
 | zero=>exact⟨fun _ _ _ _ h=>by simp[coF] at h,fun _ _ _ _ h=>by simp[a1_] at h,fun _ _ _ _ _ _ h=>by simp[fJ_] at h,fun _ _ _ _ _ _ _ h=>by simp[bg_] at h⟩
 | succ n ih =>
  obtain⟨i1,i2,i3,i4⟩:=ih;have acc1:∀ {acc:List Co} {x:Co},(∀ c∈acc,MkC c)→MkC x→∀ c∈acc++[x],MkC c:=fun h hx c hc=>by
   rcases List.mem_append.1 hc with hc|hc
   ·exact h c hc
   ·rw[List.mem_singleton.1 hc];exact hx
  refine⟨fun l c r hl h=>?_,fun l c r hl h=>?_,fun acc l ks r ha hl h=>?_,fun m acc l ks r ha hl h=>?_⟩
  ·rw[coF] at h
   split at h
   ·split at h
    ·cases h
    ·next t r' hang =>
     injection h with h
     injection h with e1 e2
     subst e1 e2;obtain⟨a1,_,a3⟩:=ic_ hl hang;exact⟨(g1_ _).2 ⟨fun _=>a1,fun a ha=>by cases ha⟩,a3⟩
   ·split at h
    ·split at h
     ·cases h
     ·next x r' hr =>
      split at h
      ·injection h with h
       injection h with e1 e2
       subst e1 e2;have:=i2 _ _ _ (aI_ hl) hr;exact⟨this.1,aI_ this.2⟩
      ·cases h
    ·split at h
     ·injection h with h
      injection h with e1 e2
      subst e1 e2;exact⟨(g1_ _).2 ⟨fun e=>absurd e (by show ¬ ((1:Int)=2∨(1:Int)=9);decide),fun a ha=>by cases ha⟩,aI_ hl⟩
     ·cases h
  ·rw[a1_] at h
   split at h
   ·cases h
   ·next hd e =>
    have ho:=kj_ hl e
    split at h
    ·split at h
     ·cases h
     ·next ks r' hk =>
      injection h with h
      injection h with e1 e2
      subst e1 e2;have:=i3 _ _ _ _ (fun c hc=>by cases hc) ho.tk hk;exact⟨(g1_ _).2 ⟨fun e=>absurd e (by show ¬ ((5:Int)=2∨(5:Int)=9);decide),this.1⟩,this.2⟩
    ·split at h
     ·cases h
     ·next ks r' hk =>
      have:=i4 _ _ _ _ _ (fun c hc=>by cases hc) ho.tk hk
      split at h
      ·split at h
       ·cases h
       ·next t r'' ha =>
        injection h with h
        injection h with e1 e2
        subst e1 e2;obtain⟨b1,_,b3⟩:=ic_ this.2 ha;exact⟨(g1_ _).2 ⟨fun _=>b1,this.1⟩,b3⟩
      ·next h9 =>
       injection h with h
       injection h with e1 e2
       subst e1 e2;have hk:=ho.k;exact⟨(g1_ _).2 ⟨fun e=>by
        have e:(hd.k:Int)=2∨(hd.k:Int)=9:=e;omega,this.1⟩,this.2⟩
  ·rw[fJ_] at h
   split at h
   ·injection h with h
    injection h with e1 e2
    subst e1 e2;exact⟨ha,hl⟩
   ·split at h
    ·cases h
    ·next x r' hx =>
     have:=i1 _ _ _ hl hx;exact i3 _ _ _ _ (acc1 ha this.1) this.2 h
  ·cases m with
   | zero =>
    rw[bg_] at h;injection h with h
    injection h with e1 e2
    subst e1 e2;exact⟨ha,hl⟩
   | succ m =>
    rw[bg_] at h
    split at h
    ·cases h
    ·next x r' hx =>
     have:=i1 _ _ _ hl hx;exact i4 _ _ _ _ _ (acc1 ha this.1) this.2 h
end
section
open Go.RowKit Go.Sort
open Lx
structure jO_ (n b:Nat)(c:Co)(a:OA_)(m:Nat)(ka:OA_)(km:Nat)(W:World):Prop where
 k:B8 W b (.int .i64 c.kind) (.string c.name) (.int .i64 c.n) (.int .i64 c.t.kind) (.string c.t.name) (.int .i64 c.t.n) (.slice a c.t.args.length m) (.slice ka c.kids.length km)
 h:bS_ (Lt n) W c a m ka km
 lt:b<W.heap.size
 le:n≤W.heap.size
section
variable {n b : Nat} {c : Co} {a : OA_} {m : Nat} {ka : OA_} {km : Nat} {W W' : World}
theorem jO_.low (R:jO_ n b c a m ka km W)(h:Below W.heap.size W W'):jO_ n b c a m ka km W' :=
 ⟨R.k.low h,R.h.keep fun j hj=>h.block j (aX_ hj R.le),aX_ R.lt h.size,bm_ R.le h.size⟩
theorem jO_.at_ (R:jO_ n b c a m ka km W):bS_ (Lt W.heap.size) W c a m ka km:=R.h.mono fun _ hj=>aX_ hj R.le
theorem jO_.of_at (h:bS_ (Lt W.heap.size) W c a m ka km):jO_ W.heap.size W.heap.size c a m ka km (W.alloc (.cells #[.int .i64 c.kind,.string c.name,.int .i64 c.n,.int .i64 c.t.kind,.string c.t.name,.int .i64 c.t.n,.slice a c.t.args.length m,.slice ka c.kids.length km] 33)) :=
 ⟨B8.new W _ _ _ _ _ _ _ _,h.keep fun b hb=>heap_alloc_old W _ hb,by simp,by simp⟩
end
def PeC (w:World)(res:Except Nat Co)(e:Ending)(w':World):Prop :=
 ∃ (c:Co) (a:OA_) (m:Nat) (ka:OA_) (km er:Nat),e=.returned (.tuple #[.agg #[.int .i64 c.kind,.string c.name,.int .i64 c.n,.int .i64 c.t.kind,.string c.t.name,.int .i64 c.t.n,.slice a c.t.args.length m,.slice ka c.kids.length km],.int .i64 er])∧jO_ w'.heap.size w'.heap.size c a m ka km (w'.alloc (.cells #[.int .i64 c.kind,.string c.name,.int .i64 c.n,.int .i64 c.t.kind,.string c.t.name,.int .i64 c.t.n,.slice a c.t.args.length m,.slice ka c.kids.length km] 33)) ∧
  Below w.heap.size w (w'.alloc (.cells #[.int .i64 c.kind,.string c.name,.int .i64 c.n,.int .i64 c.t.kind,.string c.t.name,.int .i64 c.t.n,.slice a c.t.args.length m,.slice ka c.kids.length km] 33))∧(res=.ok c∧er=0∨res=.error er∧er≠0)
theorem ji_ {l:List UInt8}{er:Nat}(h:aY_ l=.error er):er≠0:=by
 rw[aY_] at h
 split at h
 ·next hn=>injection h with h;rw[← h];exact hn
 ·split at h
  ·injection h with h;omega
  ·split at h
   ·injection h with h;omega
   ·split at h
    ·injection h with h;omega
    ·cases h
theorem q7_ (w:World)(hV:Vs w)(s:ByteArray)(hs:s.size≤maxLen):Calls Tryz.prog 10 #[.string s] w (PeC w (aY_ s.data.toList)):=by
 refine (md_ w hV s hs).mono ?_;rintro e w' ⟨hb,hres⟩;cases hp:aY_ s.data.toList with
 | error er =>
  rw[hp] at hres;subst hres;exact⟨coz,none,0,none,0,er,rfl,.of_at (bS_.none _ _ _ _ _ _ _),hb.trans ((ao_ _ _).mono hb.size),.inr ⟨rfl,ji_ hp⟩⟩
 | ok c =>
  rw[hp] at hres;obtain⟨a,m,ka,km,rfl,hC⟩:=hres;exact⟨c,a,m,ka,km,0,rfl,.of_at (hC.mono fun b hb=>hb.2),hb.trans ((ao_ _ _).mono hb.size),.inl ⟨rfl,rfl⟩⟩
def GivH (w:World)(res:Option (List Giv))(e:Ending)(w':World):Prop :=
 ∃ (a:OA_) (l c:Nat) (b:OA_) (l2 d:Nat) (ok:Bool),e=.returned (.tuple #[.slice a l c,.slice b l2 d,.bool ok])∧Below w.heap.size w w' ∧
  (ok=true∧(∃ g,res=some g∧dk_ (Lt w'.heap.size) w' (.slice a l c) g)∧l≤6∧(a=none→c=0)∨ok=false∧res=none)
theorem rr_ (w:World)(v:Value)(ls:List Ln)(hL:mz_ w v ls):Calls Tryz.prog 9 #[v] w (GivH w (gU_ ls)):=by
 refine (ni_ w v ls hL).mono ?_;rintro e w' ⟨hb,hres⟩;cases hr:gU_ ls with
 | none=>rw[hr] at hres;subst hres;exact⟨none,0,0,none,0,0,false,rfl,hb,.inr ⟨rfl,rfl⟩⟩
 | some g =>
  rw[hr] at hres;obtain⟨a,c,b,d,rfl,hG,hn⟩:=hres;have hl:g.length≤6:=by
   unfold gU_ at hr
   split at hr
   ·cases hr
   ·have:=iL_ hr;omega
  exact⟨a,_,c,b,_,d,true,rfl,hb,.inl ⟨rfl,⟨g,rfl,hG.mono fun _ h=>h.2⟩,hl,hn⟩⟩
def SaidH (w:World)(res:Option (Ty × Ty))(e:Ending)(w':World):Prop :=
 ∃ (x y:Ty) (xa:OA_) (xc:Nat) (ya:OA_) (yc er:Nat),e=.returned (.tuple #[.agg #[.int .i64 x.kind,.string x.name,.int .i64 x.n,.slice xa x.args.length xc],.agg #[.int .i64 y.kind,.string y.name,.int .i64 y.n,.slice ya y.args.length yc],.int .i64 er]) ∧
  qh_ w'.heap.size w'.heap.size x xa xc ((w'.alloc (.cells #[.int .i64 x.kind,.string x.name,.int .i64 x.n,.slice xa x.args.length xc] 30)).alloc (.cells #[.int .i64 y.kind,.string y.name,.int .i64 y.n,.slice ya y.args.length yc] 30))∧qh_ w'.heap.size (w'.heap.size+1) y ya yc ((w'.alloc (.cells #[.int .i64 x.kind,.string x.name,.int .i64 x.n,.slice xa x.args.length xc] 30)).alloc (.cells #[.int .i64 y.kind,.string y.name,.int .i64 y.n,.slice ya y.args.length yc] 30))∧Below w.heap.size w ((w'.alloc (.cells #[.int .i64 x.kind,.string x.name,.int .i64 x.n,.slice xa x.args.length xc] 30)).alloc (.cells #[.int .i64 y.kind,.string y.name,.int .i64 y.n,.slice ya y.args.length yc] 30))∧(res=some (x,y)∧er=0∨res=none∧er=50)
theorem hH_ {w w':World}{x y:Ty}{xa ya:OA_}{xc yc:Nat}(hb:Below w.heap.size w w')(hx:AtW x xa xc w')(hy:AtW y ya yc w') :
  qh_ w'.heap.size w'.heap.size x xa xc ((w'.alloc (.cells #[.int .i64 x.kind,.string x.name,.int .i64 x.n,.slice xa x.args.length xc] 30)).alloc (.cells #[.int .i64 y.kind,.string y.name,.int .i64 y.n,.slice ya y.args.length yc] 30))∧qh_ w'.heap.size (w'.heap.size+1) y ya yc ((w'.alloc (.cells #[.int .i64 x.kind,.string x.name,.int .i64 x.n,.slice xa x.args.length xc] 30)).alloc (.cells #[.int .i64 y.kind,.string y.name,.int .i64 y.n,.slice ya y.args.length yc] 30))∧Below w.heap.size w ((w'.alloc (.cells #[.int .i64 x.kind,.string x.name,.int .i64 x.n,.slice xa x.args.length xc] 30)).alloc (.cells #[.int .i64 y.kind,.string y.name,.int .i64 y.n,.slice ya y.args.length yc] 30)):=by
 have h1:=(Below.refl w'.heap.size w').alloc (aw_ _) (.cells #[.int .i64 x.kind,.string x.name,.int .i64 x.n,.slice xa x.args.length xc] 30);have h2:=h1.alloc h1.size (.cells #[.int .i64 y.kind,.string y.name,.int .i64 y.n,.slice ya y.args.length yc] 30);have k1:=(B4.new w' (.int .i64 x.kind) (.string x.name) (.int .i64 x.n) (.slice xa x.args.length xc)).low (ao_ _ (.cells #[.int .i64 y.kind,.string y.name,.int .i64 y.n,.slice ya y.args.length yc] 30));have k2:B4 ((w'.alloc (.cells #[.int .i64 x.kind,.string x.name,.int .i64 x.n,.slice xa x.args.length xc] 30)).alloc (.cells #[.int .i64 y.kind,.string y.name,.int .i64 y.n,.slice ya y.args.length yc] 30)) (w'.heap.size+1) (.int .i64 y.kind) (.string y.name) (.int .i64 y.n) (.slice ya y.args.length yc):=al_ (by simp);exact⟨⟨k1,hx.keep fun b hb=>h2.block b hb,k1.lt,h2.size⟩,⟨k2,hy.keep fun b hb=>h2.block b hb,k2.lt,h2.size⟩,hb.trans (h2.mono hb.size)⟩
theorem qr_ {q:Nat}{g:List Giv}{c:Co}{a:OA_}{m:Nat}{ka:OA_}{km:Nat}{gv:Value}{W:World}(hgo:eP_ q g)(hG:dk_ (Lt W.heap.size) W gv g)(R:bS_ (Lt W.heap.size) W c a m ka km)(ht:hz_ q c)(hT:Tab W) :
  Calls Tryz.prog 12 #[gv,.agg #[.int .i64 c.kind,.string c.name,.int .i64 c.n,.int .i64 c.t.kind,.string c.t.name,.int .i64 c.t.n,.slice a c.t.args.length m,.slice ka c.kids.length km]] W (SaidH W (hw_ g c)):=by
 refine (mV_ q g hgo c (Lt W.heap.size) a m ka km gv W hG R (fun _ h=>h) ht.w ht.s ht.f ht.b hT).mono ?_;rintro e w' ⟨hb,hres⟩;have up:∀ b,New (Lt W.heap.size) W w' b→Lt w'.heap.size b:=fun b h=>h.elim (fun h=>aX_ h hb.size) fun h=>h.2;unfold hw_;cases hs:aB_ c.deep g c with
 | none =>
  rw[hs] at hres;subst hres;obtain⟨h1,h2,h3⟩:=hH_ (x:=tz) (y:=tz) (xa:=none) (ya:=none) (xc:=0) (yc:=0) hb (.nil _ _) (.nil _ _);exact⟨tz,tz,none,0,none,0,50,rfl,h1,h2,h3,.inr ⟨rfl,rfl⟩⟩
 | some p =>
  obtain⟨x,y⟩:=p;rw[hs] at hres;obtain⟨xa,xc,ya,yc,rfl,hx,hy⟩:=hres;obtain⟨h1,h2,h3⟩:=hH_ hb (hx.mono up) (hy.mono up);exact⟨x,y,xa,xc,ya,yc,0,rfl,h1,h2,h3,.inl ⟨rfl,rfl⟩⟩
theorem ju_ {b:Bd}{t:Ty}(h:Fit b t)(hs:b.s≤50000000000)(hf:b.f≤4000000):jJ_ t:=by
 obtain⟨h1,h2,h3,h4⟩:=h;exact⟨h1.2,by omega,bm_ h4 hf⟩
theorem lL_ {q:Nat}{g:List Giv}{c:Co}{p:Ty × Ty}(hgo:eP_ q g)(ht:hz_ q c)(h:hw_ g c=some p):jJ_ p.1∧jJ_ p.2:=by
 obtain⟨h1,h2⟩:=du_ q c.deep g c p hgo ht.w ht.s ht.b h;exact⟨ju_ h1 ht.s ht.f,ju_ h2 ht.s ht.f⟩
theorem mQ_ (s:ByteArray):s.data.toList.length=s.size:=by rw[Array.length_toList];rfl
theorem sw_ {x:Ln}{g:Giv}(h:gOf x=some g):Fit ⟨120,120,120⟩ g.l∧Fit ⟨120,120,120⟩ g.r:=by
 unfold gOf at h
 split at h
 ·next t u ht hu =>
  split at h
  ·next hc =>
   injection h with h
   subst h;have fit:∀ (s:ByteArray) (t:Ty),bF_ s.data.toList=.ok t→s.size≤120→Fit ⟨120,120,120⟩ t:=fun s t hp hs=>by
    obtain⟨m1,m2,m3,m4⟩:=mb_ hp;have hz:t.size≤120:=by
     have e:=mQ_ s;omega
    have hc:=iF_ t;have hf:=kl_ t;exact⟨ri_ m1,(by show cv_ t≤120;omega),hz,(by show fsz t≤120;omega)⟩
   exact⟨fit _ _ ht hc.1,fit _ _ hu hc.2⟩
  ·cases h
 ·cases h
theorem ot_:∀ {xs:List Ln} {gs:List Giv},hy_ xs=some gs→eP_ 120 gs
 | [],gs,h=>by injection h with h;subst h;intro x hx;cases hx
 | y :: xs,gs,h=>by
  rw[hy_] at h;cases hy:gOf y with
  | none=>rw[hy] at h;cases h
  | some g =>
   rw[hy] at h;cases hx:hy_ xs with
   | none=>rw[hx] at h;cases h
   | some g2 =>
    rw[hx] at h;injection h with h
    subst h;intro z hz
    rcases List.mem_cons.1 hz with rfl|hz
    ·exact sw_ hy
    ·exact ot_ hx z hz
theorem pj_ {ls:List Ln}{g:List Giv}(h:gU_ ls=some g):eP_ 120 g:=by
 unfold gU_ at h
 split at h
 ·cases h
 ·exact ot_ h
theorem mr_ (c:Co):aW_ c≤c.deep:=by
 induction c using Co.ind with
 | h c ih =>
  have kl:∀ ks:List Co,(∀ a∈ks,aW_ a≤a.deep)→a3_ ks≤bl_ ks:=by
   intro ks
   induction ks with
   | nil=>intro _;exact aw_ _
   | cons a l ihl =>
    intro h;rw[a3_,bl_];have:=h a (by simp);have:=ihl fun b hb=>h b (by simp[hb]);omega
  have:=kl c.kids ih;rw[dP_,c.deep_eq]
  split<;>omega
theorem gX_ {s:List UInt8}{c:Co}(h:aY_ s=.ok c):∃ r,fk_ (bI_ s).1=some (c,r)∧r=[]∧c.deep≤50:=by
 rw[aY_] at h
 split at h
 ·cases h
 ·split at h
  ·cases h
  ·next c' r hT =>
   split at h
   ·cases h
   ·next hr =>
    split at h
    ·cases h
    ·next h50 =>
     injection h with h
     subst h;exact⟨r,hT,Classical.byContradiction hr,by omega⟩
theorem nA_ {s:List UInt8}{c:Co}(h:aY_ s=.ok c):WfC c∧wtC 1 c≤4000∧MkC c:=by
 obtain⟨r,hr,_,_⟩:=gX_ h;have hl:=ca_ s;have ht:∀ t∈(bI_ s).1,be_ t:=fun t ht=>oM_ t (cJ_ s t ht);obtain⟨h1,h2,_⟩:=(mi_ 1 (aw_ _) _).1 _ _ _ ht hl hr;exact⟨h1,by omega,((mkC _).1 _ _ _ ht hr).1⟩
theorem bZ_ {s:List UInt8}{c:Co}(h:aY_ s=.ok c)(hs:s.length≤400)(hg:grC c≤2000):hz_ 120 c:=by
 obtain⟨r,hr,_,hd⟩:=gX_ h;have hl:=ca_ s;have hl2:=kP_ s;have ht:∀ t∈(bI_ s).1,be_ t:=fun t ht=>oM_ t (cJ_ s t ht);have hR:=(mi_ 120 (by omega) _).1 _ _ _ ht hl hr;obtain⟨h1,h2,h3⟩:=oj_ hR (m:=400) (by omega) hg;exact⟨hR.1,by omega,by omega,by have:=mr_ c;omega⟩
end
section
open Go.RowKit
section
variable {W : World} {c d : Co} {a a2 : OA_} {m m2 : Nat} {ka ka2 : OA_} {km km2 : Nat} {k : Nat}
theorem bS_.up (h:bS_ (Lt W.heap.size) W c a m ka km)(o:Obj):bS_ (Lt (W.alloc o).heap.size) (W.alloc o) c a m ka km:=h.low (ao_ _ o)
end
end
end Go.Proofs.YtkihnodkhnahiaaGreatDoor.Tp

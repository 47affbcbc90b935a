/- Texts laid together: CoSaysW, CoLawP, CoHold, CoBox, CoApnd, CoLawQ, CoPartP. -/
import Derived.Test.YtkihnodkhnahiaaGreatDoorP49
import Derived.Test.YtkihnodkhnahiaaGreatDoorP22
import Derived.Test.YtkihnodkhnahiaaGreatDoorP35
import Derived.Test.YtkihnodkhnahiaaGreatDoorP41
import Derived.Test.YtkihnodkhnahiaaGreatDoorP42
import Derived.Test.YtkihnodkhnahiaaGreatDoorP34
import Derived.Laws.AppendOwn
import Derived.Laws.AppendOwnNone
import Derived.Laws.OwnMore

namespace Go.Proofs.YtkihnodkhnahiaaGreatDoor.Tp
open Go.RowKit
structure SaW (w W:World):Prop where
 l:z4 W (w.heap.size+1)
 r:z4 W (w.heap.size+1+1)
 e:e1 W (w.heap.size+1+1+1) 0
 b:Below w.heap.size w W
theorem SaW.new (w:World)(c:Co)(a:Option Addr)(n:Nat)(ka:Option Addr)(kn:Nat):SaW w ((((w.alloc (.cells #[.int .i64 c.kind,.string c.name,.int .i64 c.n,.int .i64 c.t.kind,.string c.t.name,.int .i64 c.t.n,.slice a c.t.args.length n,.slice ka c.kids.length kn] 33)).alloc (.cells #[.int .i64 0,.string ⟨#[]⟩,.int .i64 0,.slice none 0 0] 30)).alloc (.cells #[.int .i64 0,.string ⟨#[]⟩,.int .i64 0,.slice none 0 0] 30)).alloc (.cells #[.int .i64 0] 34)):=by
 have h1:=(Below.refl w.heap.size w).alloc (Nat.le_refl _) (.cells #[.int .i64 c.kind,.string c.name,.int .i64 c.n,.int .i64 c.t.kind,.string c.t.name,.int .i64 c.t.n,.slice a c.t.args.length n,.slice ka c.kids.length kn] 33)
 have h2:=h1.alloc h1.size (.cells #[.int .i64 0,.string ⟨#[]⟩,.int .i64 0,.slice none 0 0] 30)
 have h3:=h2.alloc h2.size (.cells #[.int .i64 0,.string ⟨#[]⟩,.int .i64 0,.slice none 0 0] 30)
 have h4:=h3.alloc h3.size (.cells #[.int .i64 0] 34)
 have a4:=(Below.refl (((w.alloc (.cells #[.int .i64 c.kind,.string c.name,.int .i64 c.n,.int .i64 c.t.kind,.string c.t.name,.int .i64 c.t.n,.slice a c.t.args.length n,.slice ka c.kids.length kn] 33)).alloc (.cells #[.int .i64 0,.string ⟨#[]⟩,.int .i64 0,.slice none 0 0] 30)).alloc (.cells #[.int .i64 0,.string ⟨#[]⟩,.int .i64 0,.slice none 0 0] 30)).heap.size (((w.alloc (.cells #[.int .i64 c.kind,.string c.name,.int .i64 c.n,.int .i64 c.t.kind,.string c.t.name,.int .i64 c.t.n,.slice a c.t.args.length n,.slice ka c.kids.length kn] 33)).alloc (.cells #[.int .i64 0,.string ⟨#[]⟩,.int .i64 0,.slice none 0 0] 30)).alloc (.cells #[.int .i64 0,.string ⟨#[]⟩,.int .i64 0,.slice none 0 0] 30))).alloc (Nat.le_refl _) (.cells #[.int .i64 0] 34)
 have a3:=(Below.refl ((w.alloc (.cells #[.int .i64 c.kind,.string c.name,.int .i64 c.n,.int .i64 c.t.kind,.string c.t.name,.int .i64 c.t.n,.slice a c.t.args.length n,.slice ka c.kids.length kn] 33)).alloc (.cells #[.int .i64 0,.string ⟨#[]⟩,.int .i64 0,.slice none 0 0] 30)).heap.size ((w.alloc (.cells #[.int .i64 c.kind,.string c.name,.int .i64 c.n,.int .i64 c.t.kind,.string c.t.name,.int .i64 c.t.n,.slice a c.t.args.length n,.slice ka c.kids.length kn] 33)).alloc (.cells #[.int .i64 0,.string ⟨#[]⟩,.int .i64 0,.slice none 0 0] 30))).alloc (Nat.le_refl _) (.cells #[.int .i64 0,.string ⟨#[]⟩,.int .i64 0,.slice none 0 0] 30)
 refine⟨?_,?_,?_,h4⟩
 ·exact B4.low (B4.low (alloc_new (by simp)) a3) a4
 ·exact B4.low (alloc_new (by simp)) a4
 ·have:=heap_alloc_new (((w.alloc (.cells #[.int .i64 c.kind,.string c.name,.int .i64 c.n,.int .i64 c.t.kind,.string c.t.name,.int .i64 c.t.n,.slice a c.t.args.length n,.slice ka c.kids.length kn] 33)).alloc (.cells #[.int .i64 0,.string ⟨#[]⟩,.int .i64 0,.slice none 0 0] 30)).alloc (.cells #[.int .i64 0,.string ⟨#[]⟩,.int .i64 0,.slice none 0 0] 30)) (.cells #[.int .i64 0] 34)
  simpa [e1] using this
theorem SaW.low {w W W':World}(h:SaW w W)(hb:Below W.heap.size W W'):SaW w W':=⟨h.l.low hb,h.r.low hb,(hb.block _ (by have:=Array.getElem?_eq_some_iff.1 h.e;exact this.1)).trans h.e,h.b.trans (hb.mono h.b.size)⟩
def SaidPost (S:Nat→Prop)(w:World)(r:Option (Ty × Ty))(e:Ending)(w':World):Prop:=Below w.heap.size w w'∧match r with
 | none=>e=.returned (.tuple #[tv tz none 0,tv tz none 0,.int .i64 50])
 | some p=>∃ a c b d,e=.returned (.tuple #[tv p.1 a c,tv p.2 b d,.int .i64 0])∧ArgsAt (New S w w') w' (.slice a p.1.args.length c) p.1.args∧ArgsAt (New S w w') w' (.slice b p.2.args.length d) p.2.args
theorem st2_at {w1:World}{p q r:Nat}(x0 x1 x2 x3 y0 y1 y2 y3:Value)(a0 a1 a2 a3 b0 b1 b2 b3:Value)(hpq:p≠q)(hpr:p≠r)(hqr:q≠r)(hp:B4 w1 p a0 a1 a2 a3)(hq:B4 w1 q b0 b1 b2 b3)(hr:e1 w1 r 0) :
  B4 (st4 (st4 w1 p x0 x1 x2 x3) q y0 y1 y2 y3) p x0 x1 x2 x3∧B4 (st4 (st4 w1 p x0 x1 x2 x3) q y0 y1 y2 y3) q y0 y1 y2 y3∧e1 (st4 (st4 w1 p x0 x1 x2 x3) q y0 y1 y2 y3) r 0 ∧
  (∀ b,b≠p→b≠q→(st4 (st4 w1 p x0 x1 x2 x3) q y0 y1 y2 y3).heap[b]? = w1.heap[b]?)∧(st4 (st4 w1 p x0 x1 x2 x3) q y0 y1 y2 y3).heap.size=w1.heap.size∧∀ m (w:World),m≤p→m≤q→Below m w w1→Below m w (st4 (st4 w1 p x0 x1 x2 x3) q y0 y1 y2 y3):=by
 refine⟨(st4_off _ hpq y0 y1 y2 y3).trans (hp.set4 x0 x1 x2 x3),B4.set4 (w:=st4 w1 p x0 x1 x2 x3) (u0:=b0) (u1:=b1) (u2:=b2) (u3:=b3) ((st4_off _ (Ne.symm hpq) x0 x1 x2 x3).trans hq) y0 y1 y2 y3,((st4_off _ (Ne.symm hqr) y0 y1 y2 y3).trans (st4_off _ (Ne.symm hpr) x0 x1 x2 x3)).trans hr,fun b h1 h2=>(st4_off _ h2 y0 y1 y2 y3).trans (st4_off _ h1 x0 x1 x2 x3),by simp,fun m w h1 h2 hb=>st4_below (st4_below hb h1 x0 x1 x2 x3) h2 y0 y1 y2 y3⟩
theorem said_end {S:Nat→Prop}{w w1:World}{x y:Ty}{xa ya:Option Addr}{xc yc:Nat}(M:SaW w w1)(hS:∀ b,S b→b<w.heap.size)(hx:ArgsAt (fun b=>S b∨w.heap.size+4≤b∧b<w1.heap.size) w1 (.slice xa x.args.length xc) x.args)(hy:ArgsAt (fun b=>S b∨w.heap.size+4≤b∧b<w1.heap.size) w1 (.slice ya y.args.length yc) y.args) :
  B4 (((st4 (st4 (st4 (st4 w1 (w.heap.size+1) (.int .i64 x.kind) (.string x.name) (.int .i64 x.n) (.slice xa x.args.length xc)) (w.heap.size+1+1) (.int .i64 y.kind) (.string y.name) (.int .i64 y.n) (.slice ya y.args.length yc)) (w.heap.size+1) (.int .i64 x.kind) (.string x.name) (.int .i64 x.n) (.slice xa x.args.length xc)) (w.heap.size+1+1) (.int .i64 y.kind) (.string y.name) (.int .i64 y.n) (.slice ya y.args.length yc)).setCell ⟨w.heap.size+1+1+1,0,none⟩ (.int .i64 0)).drew) (w.heap.size+1) (.int .i64 x.kind) (.string x.name) (.int .i64 x.n) (.slice xa x.args.length xc)∧B4 (((st4 (st4 (st4 (st4 w1 (w.heap.size+1) (.int .i64 x.kind) (.string x.name) (.int .i64 x.n) (.slice xa x.args.length xc)) (w.heap.size+1+1) (.int .i64 y.kind) (.string y.name) (.int .i64 y.n) (.slice ya y.args.length yc)) (w.heap.size+1) (.int .i64 x.kind) (.string x.name) (.int .i64 x.n) (.slice xa x.args.length xc)) (w.heap.size+1+1) (.int .i64 y.kind) (.string y.name) (.int .i64 y.n) (.slice ya y.args.length yc)).setCell ⟨w.heap.size+1+1+1,0,none⟩ (.int .i64 0)).drew) (w.heap.size+1+1) (.int .i64 y.kind) (.string y.name) (.int .i64 y.n) (.slice ya y.args.length yc)∧e1 (((st4 (st4 (st4 (st4 w1 (w.heap.size+1) (.int .i64 x.kind) (.string x.name) (.int .i64 x.n) (.slice xa x.args.length xc)) (w.heap.size+1+1) (.int .i64 y.kind) (.string y.name) (.int .i64 y.n) (.slice ya y.args.length yc)) (w.heap.size+1) (.int .i64 x.kind) (.string x.name) (.int .i64 x.n) (.slice xa x.args.length xc)) (w.heap.size+1+1) (.int .i64 y.kind) (.string y.name) (.int .i64 y.n) (.slice ya y.args.length yc)).setCell ⟨w.heap.size+1+1+1,0,none⟩ (.int .i64 0)).drew) (w.heap.size+1+1+1) 0 ∧
  SaidPost S w (some (x,y)) (.returned (.tuple #[tv x xa xc,tv y ya yc,.int .i64 0])) (((st4 (st4 (st4 (st4 w1 (w.heap.size+1) (.int .i64 x.kind) (.string x.name) (.int .i64 x.n) (.slice xa x.args.length xc)) (w.heap.size+1+1) (.int .i64 y.kind) (.string y.name) (.int .i64 y.n) (.slice ya y.args.length yc)) (w.heap.size+1) (.int .i64 x.kind) (.string x.name) (.int .i64 x.n) (.slice xa x.args.length xc)) (w.heap.size+1+1) (.int .i64 y.kind) (.string y.name) (.int .i64 y.n) (.slice ya y.args.length yc)).setCell ⟨w.heap.size+1+1+1,0,none⟩ (.int .i64 0)).drew):=by
 obtain⟨P1,Q1,R1,O1,Z1,B1⟩:=st2_at (p:=w.heap.size+1) (q:=w.heap.size+1+1) (r:=w.heap.size+1+1+1) (.int .i64 x.kind) (.string x.name) (.int .i64 x.n) (.slice xa x.args.length xc) (.int .i64 y.kind) (.string y.name) (.int .i64 y.n) (.slice ya y.args.length yc) _ _ _ _ _ _ _ _ (by omega) (by omega) (by omega) M.l M.r M.e
 have B1:=B1 w.heap.size w (by omega) (by omega) M.b
 generalize st4 (st4 w1 (w.heap.size+1) (.int .i64 x.kind) (.string x.name) (.int .i64 x.n) (.slice xa x.args.length xc)) (w.heap.size+1+1) (.int .i64 y.kind) (.string y.name) (.int .i64 y.n) (.slice ya y.args.length yc)=W1 at *
 obtain⟨P2,Q2,R2,O2,Z2,B2⟩:=st2_at (p:=w.heap.size+1) (q:=w.heap.size+1+1) (r:=w.heap.size+1+1+1) (.int .i64 x.kind) (.string x.name) (.int .i64 x.n) (.slice xa x.args.length xc) (.int .i64 y.kind) (.string y.name) (.int .i64 y.n) (.slice ya y.args.length yc) _ _ _ _ _ _ _ _ (by omega) (by omega) (by omega) P1 Q1 R1
 have B2:=B2 w.heap.size w (by omega) (by omega) B1
 generalize st4 (st4 W1 (w.heap.size+1) (.int .i64 x.kind) (.string x.name) (.int .i64 x.n) (.slice xa x.args.length xc)) (w.heap.size+1+1) (.int .i64 y.kind) (.string y.name) (.int .i64 y.n) (.slice ya y.args.length yc)=W2 at *
 have off:∀ b,b≠w.heap.size+1+1+1→(W2.setCell ⟨w.heap.size+1+1+1,0,none⟩ (.int .i64 0)).drew.heap[b]? = W2.heap[b]? := fun b h=>(drew_at _ _).trans (Below.heap_setCell _ _ _ _ h)
 have hE:e1 ((W2.setCell ⟨w.heap.size+1+1+1,0,none⟩ (.int .i64 0)).drew) (w.heap.size+1+1+1) 0:=by
  refine (drew_at _ _).trans ?_
  unfold e1 at *
  rw[set_row0 R2]
  rfl
 have hB:=(B2.setCell (p:=⟨w.heap.size+1+1+1,0,none⟩) (show w.heap.size≤w.heap.size+1+1+1 by omega) (.int .i64 0)).drew
 have hZ:(W2.setCell ⟨w.heap.size+1+1+1,0,none⟩ (.int .i64 0)).drew.heap.size=W2.heap.size:=by simp
 generalize (W2.setCell ⟨w.heap.size+1+1+1,0,none⟩ (.int .i64 0)).drew=W3 at *
 have k:∀ b,(S b∨w.heap.size+4≤b∧b<w1.heap.size)→W3.heap[b]? = w1.heap[b]? := fun b h=>by
  have h1:b≠w.heap.size+1∧b≠w.heap.size+1+1∧b≠w.heap.size+1+1+1:=by rcases h with h|h<;>first|(have:=hS b h;omega)|omega
  rw[off b h1.2.2,O2 b h1.1 h1.2.1,O1 b h1.1 h1.2.1]
 have m:∀ b,(S b∨w.heap.size+4≤b∧b<w1.heap.size)→New S w W3 b:=fun b h=>h.imp id fun h=>⟨by omega,by omega⟩
 exact⟨(off _ (by omega)).trans P2,(off _ (by omega)).trans Q2,hE,hB,_,_,_,_,rfl,(hx.keep k).mono m,(hy.keep k).mono m⟩
set_option maxRecDepth 100000 in
set_option maxHeartbeats 6400000 in
theorem says_said (q:Nat)(g:List Giv)(hgo:GivOk q g)(c:Co)(S:Nat→Prop)(a:Option Addr)(n:Nat)(ka:Option Addr)(kn:Nat)(gv:Value)(w:World)(hG:GivAt S w gv g)(hC:CoAt S w c a n ka kn)(hS:∀ b,S b→b<w.heap.size)(hw:WfC c)
  (hb:(bdC q c).s≤50000000000) (hf:(bdC q c).f≤4000000) (hm:bindsC c≤60) (hT:Tab w):Calls Tryz.prog 12 #[gv,cv c a n ka kn] w (SaidPost S w (saysF c.deep g c)):=by
 have hmf:∀ (fn:Fn) (first cap:Array Value) (w:World),(Instr.makeFunc fn first cap).run Tryz.prog w=.ok (.func fn first cap) w:=fun _ _ _ _=>rfl
 have hM:=SaW.new w c a n ka kn
 have CS:=Lib.hid (says_any q g hgo c.deep c S a n ka kn gv ((((w.alloc (.cells #[.int .i64 c.kind,.string c.name,.int .i64 c.n,.int .i64 c.t.kind,.string c.t.name,.int .i64 c.t.n,.slice a c.t.args.length n,.slice ka c.kids.length kn] 33)).alloc (.cells #[.int .i64 0,.string ⟨#[]⟩,.int .i64 0,.slice none 0 0] 30)).alloc (.cells #[.int .i64 0,.string ⟨#[]⟩,.int .i64 0,.slice none 0 0] 30)).alloc (.cells #[.int .i64 0] 34)) (hG.keep fun b hb=>hM.b.block b (hS b hb)) (hC.keep fun b hb=>hM.b.block b (hS b hb)) (fun b hb=>Nat.lt_of_lt_of_le (hS b hb) hM.b.size) hw (Nat.le_refl _) hb hf hm (tab_below hT hM.b))
 have HM:=Lib.hid hM
 have HS:=Lib.hid hS
 clear hM hG hC hw hb hf hm hT hgo hS
 unfold cv at *
 generalize saysF c.deep g c=res at *
 go_enter_defers Tryz.func12,Tryz.ntmps12
 go_wp2_with fail
 refine CS.out.mono ?_
 rintro e w1 ⟨hb1,hres⟩
 have hM1:=HM.out.low hb1
 cases res with
 | none =>
  subst hres
  have M1:=Lib.hid hM1
  clear hM1
  go_wp2
  refine leaves_cons (f:=26) (args:=#[.pointer (some ⟨w.heap.size+1,0,none⟩),.pointer (some ⟨w.heap.size+1+1,0,none⟩),.pointer (some ⟨w.heap.size+1+1+1,0,none⟩)]) (by simp) (by simp[go_sem]) ?_
  refine (catch_wrong (w.heap.size+1) (w.heap.size+1+1) (w.heap.size+1+1+1) w1 M1.out.l M1.out.r (by omega) (by omega) (by omega) M1.out.e).mono ?_
  rintro e u' w2 ⟨rfl,rfl,z1,z2,z3,z5⟩
  have z6:SaidPost S w none (.returned (.tuple #[tv tz none 0,tv tz none 0,.int .i64 50])) w2:=by
   have h1:=M1.out.b
   have h2:=h1.size
   have h3:=Array.getElem?_eq_some_iff.1 M1.out.e
   exact⟨h1.trans (z5 _ (by omega) (by omega) (by omega) h2),rfl⟩
  have l0:=z1.c0
  have l1:=z1.c1
  have l2:=z1.c2
  have l3:=z1.c3
  have r0:=z2.c0
  have r1:=z2.c1
  have r2:=z2.c2
  have r3:=z2.c3
  have x0:=e1_cell z3
  simp[Leaves,settle,results,Tryz.results12,go_sem,l0,l1,l2,l3,r0,r1,r2,r3,x0]
  exact z6
 | some p =>
  obtain⟨x,y⟩:=p
  obtain⟨xa,xc,ya,yc,rfl,hx,hy⟩:=hres
  have l0:=hM1.l.c0
  have l1:=hM1.l.c1
  have l2:=hM1.l.c2
  have l3:=hM1.l.c3
  have u0:=hM1.l.fr 0
  have u1:=hM1.l.fr 1
  have u2:=hM1.l.fr 2
  have u3:=hM1.l.fr 3
  have r0:=hM1.r.c0
  have r1:=hM1.r.c1
  have r2:=hM1.r.c2
  have r3:=hM1.r.c3
  have v0:=hM1.r.fr 0
  have v1:=hM1.r.fr 1
  have v2:=hM1.r.fr 2
  have v3:=hM1.r.fr 3
  have e0:=e1_cell hM1.e
  have e2:=e1_fr hM1.e
  have M1:=Lib.hid hM1
  have hz4:((((w.alloc (.cells #[.int .i64 c.kind,.string c.name,.int .i64 c.n,.int .i64 c.t.kind,.string c.t.name,.int .i64 c.t.n,.slice a c.t.args.length n,.slice ka c.kids.length kn] 33)).alloc (.cells #[.int .i64 0,.string ⟨#[]⟩,.int .i64 0,.slice none 0 0] 30)).alloc (.cells #[.int .i64 0,.string ⟨#[]⟩,.int .i64 0,.slice none 0 0] 30)).alloc (.cells #[.int .i64 0] 34)).heap.size=w.heap.size+4:=by simp
  have up:∀ b,New S ((((w.alloc (.cells #[.int .i64 c.kind,.string c.name,.int .i64 c.n,.int .i64 c.t.kind,.string c.t.name,.int .i64 c.t.n,.slice a c.t.args.length n,.slice ka c.kids.length kn] 33)).alloc (.cells #[.int .i64 0,.string ⟨#[]⟩,.int .i64 0,.slice none 0 0] 30)).alloc (.cells #[.int .i64 0,.string ⟨#[]⟩,.int .i64 0,.slice none 0 0] 30)).alloc (.cells #[.int .i64 0] 34)) w1 b→(S b∨w.heap.size+4≤b∧b<w1.heap.size):=fun b hb=>hb.imp id fun h=>⟨by have:=h.1;rw[hz4] at this;exact this,h.2⟩
  have HX:=Lib.hid (hx.mono up)
  have HY:=Lib.hid (hy.mono up)
  clear hM1 hx hy hb1 hz4 up CS HM
  unfold tv
  go_wp2
  go_region
  go_wp2
  obtain⟨LL,RR,EE,PP⟩:=said_end (x:=x) (y:=y) M1.out HS.out HX.out HY.out
  have CI:=fun (W:World)=>catch_idle (w.heap.size+1) (w.heap.size+1+1) (w.heap.size+1+1+1) W
  generalize ((st4 (st4 (st4 (st4 w1 (w.heap.size+1) (.int .i64 x.kind) (.string x.name) (.int .i64 x.n) (.slice xa x.args.length xc)) (w.heap.size+1+1) (.int .i64 y.kind) (.string y.name) (.int .i64 y.n) (.slice ya y.args.length yc)) (w.heap.size+1) (.int .i64 x.kind) (.string x.name) (.int .i64 x.n) (.slice xa x.args.length xc)) (w.heap.size+1+1) (.int .i64 y.kind) (.string y.name) (.int .i64 y.n) (.slice ya y.args.length yc)).setCell ⟨w.heap.size+1+1+1,0,none⟩ (.int .i64 0)).drew=W9 at *
  refine leaves_cons (f:=26) (args:=#[.pointer (some ⟨w.heap.size+1,0,none⟩),.pointer (some ⟨w.heap.size+1+1,0,none⟩),.pointer (some ⟨w.heap.size+1+1+1,0,none⟩)]) (by simp) (by simp[go_sem]) ?_
  refine (CI W9).mono ?_
  rintro e u' w2 ⟨rfl,rfl,rfl⟩
  have l0:=LL.c0
  have l1:=LL.c1
  have l2:=LL.c2
  have l3:=LL.c3
  have r0:=RR.c0
  have r1:=RR.c1
  have r2:=RR.c2
  have r3:=RR.c3
  have x0:=e1_cell EE
  simp[Leaves,settle,results,Tryz.results12,go_sem,l0,l1,l2,l3,r0,r1,r2,r3,x0]
  exact PP
end Go.Proofs.YtkihnodkhnahiaaGreatDoor.Tp

namespace Go.Proofs.YtkihnodkhnahiaaGreatDoor.Tp
open Lx
structure Tame (q:Nat)(c:Co):Prop where
 w:WfC c
 s:(bdC q c).s≤50000000000
 f:(bdC q c).f≤4000000
 b:bindsC c≤60
theorem saysL_congr {f g:Co→Option (Ty × Ty)} : ∀ {cs:List Co},(∀ c∈cs,f c=g c)→saysL f cs=saysL g cs:=by
 intro cs
 induction cs with
 | nil=>intro _;rfl
 | cons c cs ih=>intro h;rw[saysL,saysL,h c (by simp),ih fun a ha=>h a (by simp[ha])]
theorem saysF_same (q:Nat)(g:List Giv):∀ (d e:Nat) (c:Co),WfC c→(bdC q c).s≤50000000000→bindsC c≤60→c.deep≤d→c.deep≤e→saysF d g c=saysF e g c:=by
 intro d
 induction d with
 | zero=>intro e c _ _ _ h;rw[c.deep_eq] at h;omega
 | succ d ih =>
  intro e c hw hb hm hd he
  cases e with
  | zero=>rw[c.deep_eq] at he;omega
  | succ e =>
   rw[saysF,saysF]
   by_cases h1:c.kind=1
   ·rw[if_pos h1,if_pos h1]
   ·by_cases h2:c.kind=2
    ·rw[if_neg h1,if_neg h1,if_pos h2,if_pos h2]
    ·rw[if_neg h1,if_neg h1,if_neg h2,if_neg h2]
     have o:=open_keeps q hw hb hm
     have hM:=bd_open hw hb hm h1 h2
     rw[saysL_congr fun a ha=>by
      obtain⟨k1,k2,k3⟩:=o.2.2.2.2.2.2.1 a ha
      exact ih e a k1 (Nat.le_trans ((bdM_kid ha).trans hM).2.1 hb) k2 (by omega) (by omega)]
theorem Tame.says {q:Nat}{c:Co}(h:Tame q c)(g:List Giv){d:Nat}(hd:c.deep≤d):saysF d g c=saysC g c:=saysF_same q g d c.deep c h.w h.s h.b hd (Nat.le_refl _)
def symC (c:Co):Co:=.mk 3 e0 0 tz [c]
def backC (c:Co):Co:=.mk 4 e0 0 tz [c,symC c]
theorem he0:(e0:ByteArray).size≤64:=by decide
theorem Tame.sym {q:Nat}{c:Co}(h:Tame q c):Tame q (symC c):=by
 have e:bdC q (symC c)=(bdC q c).sup ⟨0,0,0⟩:=rfl
 refine⟨(wfC_iff _).2 ⟨⟨he0,by show 1≤4000;omega,.inr (.inr (.inl ⟨rfl,rfl⟩))⟩,fun a ha=>?_⟩,?_,?_,?_⟩
 ·obtain rfl:=List.mem_singleton.1 ha;exact h.w
 ·rw[e];have:=h.s;simp only[Bd.sup];omega
 ·rw[e];have:=h.f;simp only[Bd.sup];omega
 ·have:=h.b;show max (bindsC c) 0+0≤60;omega
theorem Tame.back {q:Nat}{c:Co}(h:Tame q c):Tame q (backC c):=by
 have e:bdC q (backC c)=(bdC q c).sup ((bdC q (symC c)).sup ⟨0,0,0⟩):=rfl
 have hs:=h.sym
 refine⟨(wfC_iff _).2 ⟨⟨he0,by show 2≤4000;omega,.inr (.inr (.inr (.inl ⟨rfl,rfl⟩)))⟩,fun a ha=>?_⟩,?_,?_,?_⟩
 ·rcases List.mem_cons.1 ha with rfl|ha
  ·exact h.w
  ·obtain rfl:=List.mem_singleton.1 ha;exact hs.w
 ·rw[e];have:=h.s;have:=hs.s;simp only[Bd.sup];omega
 ·rw[e];have:=h.f;have:=hs.f;simp only[Bd.sup];omega
 ·have:=h.b;have:=hs.b;show max (bindsC c) (max (bindsC (symC c)) 0)+0≤60;omega
theorem says_symC (g:List Giv)(c:Co):saysC g (symC c)=(saysC g c).map fun p=>(p.2,p.1):=by
 have hd:(symC c).deep=c.deep+1:=by show max c.deep 0+1=_;omega
 rw[saysC,hd,saysF,if_neg (by show ¬ (3:Int)=1;decide),if_neg (by show ¬ (3:Int)=2;decide)]
 show (match saysL (saysF c.deep g) [c] with|none=>none|some p=>ruleS (symC c) p.1 p.2)=_
 rw[saysL,saysL]
 show _=(saysF c.deep g c).map _
 cases saysF c.deep g c<;>rfl
theorem says_backC {q:Nat}{c:Co}(h:Tame q c)(g:List Giv):saysC g (backC c)=(saysC g c).map fun p=>(p.1,p.1):=by
 have hd:(backC c).deep=c.deep+1+1:=by show max c.deep (max (max c.deep 0+1) 0)+1=_;omega
 have hs:(symC c).deep=c.deep+1:=by show max c.deep 0+1=_;omega
 have h1:=h.says g (d:=c.deep+1) (by omega)
 have h2:=h.sym.says g (d:=c.deep+1) (by omega)
 rw[says_symC] at h2
 rw[saysC,hd,saysF,if_neg (by show ¬ (4:Int)=1;decide),if_neg (by show ¬ (4:Int)=2;decide)]
 show (match saysL (saysF (c.deep+1) g) [c,symC c] with|none=>none|some p=>ruleS (backC c) p.1 p.2)=_
 rw[saysL,saysL,saysL,h1,h2]
 cases saysC g c with
 | none=>rfl
 | some p=>show ruleS (backC c) [p.1,p.2] [p.2,p.1]=_;exact (if_pos rfl)
theorem look_app (h g:List Giv){s:ByteArray}{p:Ty × Ty}(e:lookG g s=some p):lookG (h++g) s=some p:=by
 unfold lookG at *
 rw[List.reverse_append,List.find?_append]
 cases hf:g.reverse.find? fun x=>eqN x.nm s with
 | none=>rw[hf] at e;cases e
 | some x=>rw[hf] at e;exact e
theorem saysL_some {f k:Co→Option (Ty × Ty)} : ∀ {cs:List Co} {p:List Ty × List Ty},(∀ c∈cs,∀ p,f c=some p→k c=some p)→saysL f cs=some p→saysL k cs=some p:=by
 intro cs
 induction cs with
 | nil=>intro p _ h;exact h
 | cons c cs ih =>
  intro p hk h
  rw[saysL] at h ⊢
  split at h
  ·cases h
  ·next r hr =>
   rw[hk c (by simp) r hr]
   split at h
   ·cases h
   ·next r2 hr2 =>
    simp only
    rw[ih (fun a ha=>hk a (by simp[ha])) hr2]
    exact h
theorem saysF_app (h g:List Giv):∀ (d:Nat) (c:Co) (p:Ty × Ty),saysF d g c=some p→saysF d (h++g) c=some p:=by
 intro d
 induction d with
 | zero=>intro c p e;cases e
 | succ d ih =>
  intro c p e
  rw[saysF] at e ⊢
  by_cases h1:c.kind=1
  ·rw[if_pos h1] at e ⊢;exact look_app h g e
  ·by_cases h2:c.kind=2
   ·rw[if_neg h1,if_pos h2] at e ⊢;exact e
   ·rw[if_neg h1,if_neg h2] at e ⊢
    split at e
    ·cases e
    ·next r hr=>rw[saysL_some (fun a _ q hq=>ih a q hq) hr];exact e
theorem giv_app {q:Nat}{h g:List Giv}(hh:GivOk q h)(hg:GivOk q g):GivOk q (h++g):=fun x hx=>by
 rcases List.mem_append.1 hx with hx|hx
 ·exact hh x hx
 ·exact hg x hx
mutual
def fvC (x:ByteArray):Co→Prop
 | .mk k _ _ t ks=>((k=2∨k=9)∧fvT x t)∨fvCL x ks
def fvCL (x:ByteArray):List Co→Prop
 | []=>False
 | c :: cs=>fvC x c∨fvCL x cs
end
theorem fvCL_iff (x:ByteArray)(ks:List Co):fvCL x ks↔∃ a∈ks,fvC x a:=by
 induction ks with
 | nil=>simp[fvCL]
 | cons c cs ih=>rw[fvCL,ih];simp
theorem fvC_iff (x:ByteArray)(c:Co):fvC x c↔((c.kind=2∨c.kind=9)∧fvT x c.t)∨∃ a∈c.kids,fvC x a:=by cases c;rw[fvC,fvCL_iff];rfl
def fvG (x:ByteArray)(g:List Giv):Prop:=∃ y∈g,fvT x y.l∨fvT x y.r
theorem fv_tz (x:ByteArray):¬ fvT x tz:=fun h=>by
 rcases (fvT_iff x tz).1 h with h|⟨⟨a,ha,_⟩,_⟩
 ·exact absurd h.1 (by decide)
 ·cases ha
theorem fv_h0 {x:ByteArray}{xs:List Ty}(h:fvT x (h0 xs)):∃ a∈xs,fvT x a:=by
 cases xs with
 | nil=>exact absurd h (fv_tz x)
 | cons a l=>exact⟨a,by simp,h⟩
theorem fv_h1 {x:ByteArray}{xs:List Ty}(h:fvT x (h1 xs)):∃ a∈xs,fvT x a:=by
 cases xs with
 | nil=>exact absurd h (fv_tz x)
 | cons a l =>
  cases l with
  | nil=>exact absurd h (fv_tz x)
  | cons b l=>exact⟨b,by simp,h⟩
theorem fvC_ren (fr tw x:ByteArray)(hto:tw.size≤64):∀ c:Co,WfC c→fvC x (renC fr tw c)→x=tw∨fvC x c:=by
 intro c
 induction c using Co.ind with
 | h c ih =>
  intro hw h
  rw[renC_eq] at h
  split at h
  ·exact .inr h
  ·rcases (fvC_iff x _).1 h with ⟨hk,ht⟩|⟨a,ha,hf⟩
   ·have hk:c.kind=2∨c.kind=9:=hk
    have ht:fvT x (if c.kind=2∨c.kind=9 then PutT fr (varB tw) c.t else c.t):=ht
    rw[if_pos hk] at ht
    rcases fv_Put fr (varB tw) c.t (hw.ok hk).1 (ok_var hto).1 x ht with h|h
    ·rcases (fvT_iff x _).1 h with h|⟨⟨a,ha,_⟩,_⟩
     ·exact .inl h.2.symm
     ·cases ha
    ·exact .inr ((fvC_iff x c).2 (.inl ⟨hk,h.1⟩))
   ·obtain⟨b,hb,rfl⟩:=List.mem_map.1 ha
    rcases ih b hb (hw.kids b hb) hf with h|h
    ·exact .inl h
    ·exact .inr ((fvC_iff x c).2 (.inr ⟨b,hb,h⟩))
theorem fv_mk {x:ByteArray}{k:Int}{s:ByteArray}{xs:List Ty}(hk:k≠1)(h:fvT x (.mk k s 0 xs)):(∃ a∈xs,fvT x a)∧¬ (k=5∧s=x):=by
 rcases (fvT_iff x _).1 h with h|h
 ·exact absurd h.1 hk
 ·exact h
theorem fv_arg {x:ByteArray}{t:Ty}(hk:t.kind≠5){a:Ty}(ha:a∈t.args)(h:fvT x a):fvT x t:=(fvT_iff x t).2 (.inr ⟨⟨a,ha,h⟩,fun e=>hk e.1⟩)
theorem fv_getD {x:ByteArray}{t:Ty}(hk:t.kind≠5)(n:Nat)(h:fvT x (t.args.getD n tz)):fvT x t:=by
 rw[List.getD_eq_getElem?_getD] at h
 cases hg:t.args[n]? with
 | none=>rw[hg] at h;exact absurd h (fv_tz x)
 | some a=>rw[hg] at h;exact fv_arg hk (List.mem_of_getElem? hg) h
theorem fv_open {x:ByteArray}{t T:Ty}(ht:Ok t)(hT:Ok T)(h5:t.kind=5)(h:fvT x (PutT t.name T (h0 t.args))):fvT x T∨fvT x t:=by
 obtain⟨b,_,hb,hsb⟩:=ht.1.all h5
 have e:h0 t.args=b:=by rw[hb];rfl
 rw[e] at h
 rcases fv_Put t.name T b hsb hT.1 x h with h|h
 ·exact .inl h
 ·exact .inr ((fvT_iff x t).2 (.inr ⟨⟨b,by rw[hb];simp,h.1⟩,fun e=>h.2 e.2.symm⟩))
theorem rule_free {q:Nat}{c:Co}(hw:WfC c)(hb:(bdC q c).s≤50000000000)(hm:bindsC c≤60)(h2:c.kind≠2){X Y:List Ty}{p:Ty × Ty}(hx:FitL q (openC c).kids X)(hy:FitL q (openC c).kids Y)(h:ruleS (openC c) X Y=some p){x:ByteArray}(hf:fvT x p.1∨fvT x p.2) :
  ((∃ a,(a∈X∨a∈Y)∧fvT x a)∧(c.kind=7→x≠(openC c).name))∨(c.kind=9∧fvT x c.t):=by
 obtain⟨o1,o2,o3,o4,_⟩:=open_keeps q hw hb hm
 have inX:∀ {a:Ty},(∃ b∈X,fvT x b)→∃ a,(a∈X∨a∈Y)∧fvT x a:=fun ⟨b,h1,h2⟩=>⟨b,.inl h1,h2⟩
 have inY:∀ {a:Ty},(∃ b∈Y,fvT x b)→∃ a,(a∈X∨a∈Y)∧fvT x a:=fun ⟨b,h1,h2⟩=>⟨b,.inr h1,h2⟩
 unfold ruleS at h
 rw[o1] at h
 split at h
 ·next h3 =>
  injection h with h
  subst h
  refine .inl ⟨?_,fun e=>by omega⟩
  rcases hf with hf|hf
  ·exact inY (a:=tz) (fv_h0 hf)
  ·exact inX (a:=tz) (fv_h0 hf)
 ·split at h
  ·next h3 h4 =>
   split at h
   ·injection h with h
    subst h
    refine .inl ⟨?_,fun e=>by omega⟩
    rcases hf with hf|hf
    ·exact inX (a:=tz) (fv_h0 hf)
    ·exact inY (a:=tz) (fv_h1 hf)
   ·cases h
  ·split at h
   ·next h5 =>
    injection h with h
    subst h
    refine .inl ⟨?_,fun e=>by omega⟩
    rcases hf with hf|hf
    ·exact inX (a:=tz) (fv_mk (by decide) hf).1
    ·exact inY (a:=tz) (fv_mk (by decide) hf).1
   ·split at h
    ·next h6 =>
     injection h with h
     subst h
     refine .inl ⟨?_,fun e=>by omega⟩
     rcases hf with hf|hf
     ·exact inX (a:=tz) (fv_mk (by decide) hf).1
     ·exact inY (a:=tz) (fv_mk (by decide) hf).1
    ·split at h
     ·next h7 =>
      injection h with h
      subst h
      rcases hf with hf|hf
      ·exact .inl ⟨inX (a:=tz) (fv_mk (by decide) hf).1,fun _ e=>(fv_mk (by decide) hf).2 ⟨rfl,e.symm⟩⟩
      ·exact .inl ⟨inY (a:=tz) (fv_mk (by decide) hf).1,fun _ e=>(fv_mk (by decide) hf).2 ⟨rfl,e.symm⟩⟩
     ·split at h
      ·next h8 =>
       refine .inl ⟨?_,fun e=>by omega⟩
       unfold nthT at h
       split at h
       ·next hc =>
        injection h with h
        subst h
        rcases hf with hf|hf
        ·exact inX (a:=tz) (fv_h0 (fv_getD (by omega) _ hf))
        ·exact inY (a:=tz) (fv_h0 (fv_getD (by omega) _ hf))
       ·cases h
      ·split at h
       ·next n3 n4 n5 n6 n7 n8 hc =>
        injection h with h
        subst h
        have hk:=hw.k.2.2
        by_cases h1:c.kind=1
        ·have hl:X=[]:=List.eq_nil_of_length_eq_zero (by have:=hx.1;omega)
         rw[hl] at hc;exact absurd hc.1 (by decide)
        have h9:c.kind=9∧c.kids.length=1:=by omega
        have hT:=hw.ok (.inr h9.1)
        rw[o2] at hf
        have lx:=hx.1
        have ly:=hy.1
        rw[o4,h9.2] at lx ly
        rcases hf with hf|hf
        ·rcases fv_open (hx.2.1 _ (h0_mem (by omega))).1 hT hc.1 hf with h|h
         ·exact .inr ⟨h9.1,h⟩
         ·exact .inl ⟨inX (a:=tz) (fv_h0 h),fun e=>by omega⟩
        ·rcases fv_open (hy.2.1 _ (h0_mem (by omega))).1 hT hc.2 hf with h|h
         ·exact .inr ⟨h9.1,h⟩
         ·exact .inl ⟨inY (a:=tz) (fv_h0 h),fun e=>by omega⟩
       ·cases h
theorem saysL_mem {f:Co→Option (Ty × Ty)} : ∀ {cs:List Co} {p:List Ty × List Ty},saysL f cs=some p→∀ a,(a∈p.1∨a∈p.2)→∃ c∈cs,∃ r,f c=some r∧(a=r.1∨a=r.2):=by
 intro cs
 induction cs with
 | nil=>intro p h a ha;injection h with h;subst h;rcases ha with ha|ha<;>cases ha
 | cons c cs ih =>
  intro p h a ha
  rw[saysL] at h
  split at h
  ·cases h
  ·next r hr =>
   split at h
   ·cases h
   ·next r2 hr2 =>
    injection h with h
    subst h
    rcases ha with ha|ha
    ·rcases List.mem_cons.1 ha with rfl|ha
     ·exact⟨c,by simp,r,hr,.inl rfl⟩
     ·obtain⟨k,h1,h2⟩:=ih hr2 a (.inl ha);exact⟨k,by simp[h1],h2⟩
    ·rcases List.mem_cons.1 ha with rfl|ha
     ·exact⟨c,by simp,r,hr,.inr rfl⟩
     ·obtain⟨k,h1,h2⟩:=ih hr2 a (.inr ha);exact⟨k,by simp[h1],h2⟩
theorem says_free (q:Nat)(x:ByteArray):∀ (d:Nat) (g:List Giv) (c:Co) (p:Ty × Ty),GivOk q g→WfC c→(bdC q c).s≤50000000000→bindsC c≤60→saysF d g c=some p→(fvT x p.1∨fvT x p.2)→fvC x c∨fvG x g:=by
 intro d
 induction d with
 | zero=>intro g c p _ _ _ _ h;cases h
 | succ d ih =>
  intro g c p hg hw hb hm h hf
  rw[saysF] at h
  split at h
  ·unfold lookG at h
   obtain⟨y,hy,rfl⟩:=Option.map_eq_some_iff.1 h
   exact .inr ⟨y,by have:=List.mem_of_find?_eq_some hy;simpa using this,hf⟩
  ·split at h
   ·next h1 h2 =>
    injection h with h
    subst h
    exact .inl ((fvC_iff x c).2 (.inl ⟨.inl h2,by rcases hf with h|h<;>exact h⟩))
   ·next h1 h2 =>
    split at h
    ·cases h
    ·next r hr =>
     have o:=open_keeps q hw hb hm
     have hM:=bd_open hw hb hm h1 h2
     have hkid:∀ a∈(openC c).kids,WfC a∧(bdC q a).s≤50000000000∧bindsC a≤60:=fun a ha=>⟨(o.2.2.2.2.2.2.1 a ha).1,Nat.le_trans ((bdM_kid ha).trans hM).2.1 hb,(o.2.2.2.2.2.2.1 a ha).2.1⟩
     have hl:=saysL_fit (fun a ha p hp=>says_fit q d g a p hg (hkid a ha).1 (hkid a ha).2.1 (hkid a ha).2.2 hp) hr
     rcases rule_free hw hb hm h2 hl.1 hl.2 h hf with ⟨⟨a,ha,hfa⟩,hn⟩|⟨h9,hft⟩
     ·obtain⟨k,hk,s,hs,hs2⟩:=saysL_mem hr a ha
      have:=ih g k s hg (hkid k hk).1 (hkid k hk).2.1 (hkid k hk).2.2 hs (by rcases hs2 with rfl|rfl;exact .inl hfa;exact .inr hfa)
      rcases this with h|h
      ·left
       by_cases h7:c.kind=7
       ·have hl1:c.kids.length=1:=by have:=hw.k.2.2;omega
        match hkk:c.kids,hl1 with
        | [b],_ =>
         have e:(openC c).kids=[renC c.name (apartC c) b]:=by unfold openC;rw[if_pos h7];show [renC c.name (apartC c) (kid0 c)]=_;unfold kid0;rw[hkk];rfl
         have en:(openC c).name=apartC c:=by unfold openC;rw[if_pos h7];rfl
         rw[e] at hk
         obtain rfl:=List.mem_singleton.1 hk
         have hb1:bindsL c.kids+1≤60:=by rw[bindsC_eq,if_pos h7] at hm;exact hm
         rcases fvC_ren c.name (apartC c) x (by show (marks _).size≤64;rw[marks_size];omega) b (hw.kids b (by rw[hkk];simp)) h with h|h
         ·exact absurd h (by rw[← en];exact hn h7)
         ·exact (fvC_iff x c).2 (.inr ⟨b,by rw[hkk];simp,h⟩)
       ·have e:openC c=c:=by unfold openC;rw[if_neg h7]
        rw[e] at hk
        exact (fvC_iff x c).2 (.inr ⟨k,hk,h⟩)
      ·exact .inr h
     ·exact .inl ((fvC_iff x c).2 (.inl ⟨.inr h9,hft⟩))
mutual
def MkC:Co→Prop
 | .mk k _ _ t ks=>((k=2∨k=9)→Mk t)∧MkCL ks
def MkCL:List Co→Prop
 | []=>True
 | c :: cs=>MkC c∧MkCL cs
end
theorem MkCL_iff (ks:List Co):MkCL ks↔∀ c∈ks,MkC c:=by
 induction ks with
 | nil=>simp[MkCL]
 | cons c cs ih=>rw[MkCL,ih];simp
theorem mkC_iff (c:Co):MkC c↔((c.kind=2∨c.kind=9)→Mk c.t)∧∀ a∈c.kids,MkC a:=by cases c;rw[MkC,MkCL_iff];rfl
theorem mkC:∀ n:Nat,
  (∀ l c r,(∀ t∈l,TokK t)→coF n l=some (c,r)→MkC c∧∀ t∈r,TokK t) ∧
  (∀ l c r,(∀ t∈l,TokK t)→ruleF n l=some (c,r)→MkC c∧∀ t∈r,TokK t) ∧
  (∀ acc l ks r,(∀ c∈acc,MkC c)→(∀ t∈l,TokK t)→conF n acc l=some (ks,r)→(∀ c∈ks,MkC c)∧∀ t∈r,TokK t) ∧
  (∀ m acc l ks r,(∀ c∈acc,MkC c)→(∀ t∈l,TokK t)→kidsF n m acc l=some (ks,r)→(∀ c∈ks,MkC c)∧∀ t∈r,TokK t):=by
 intro n
 induction n with
 | zero=>exact⟨fun _ _ _ _ h=>by simp[coF] at h,fun _ _ _ _ h=>by simp[ruleF] at h,fun _ _ _ _ _ _ h=>by simp[conF] at h,fun _ _ _ _ _ _ _ h=>by simp[kidsF] at h⟩
 | succ n ih =>
  obtain⟨i1,i2,i3,i4⟩:=ih
  have acc1:∀ {acc:List Co} {x:Co},(∀ c∈acc,MkC c)→MkC x→∀ c∈acc++[x],MkC c:=fun h hx c hc=>by
   rcases List.mem_append.1 hc with hc|hc
   ·exact h c hc
   ·rw[List.mem_singleton.1 hc];exact hx
  refine⟨fun l c r hl h=>?_,fun l c r hl h=>?_,fun acc l ks r ha hl h=>?_,fun m acc l ks r ha hl h=>?_⟩
  ·rw[coF] at h
   split at h
   ·split at h
    ·cases h
    ·next t r' hang =>
     injection h with h
     injection h with e1 e2
     subst e1 e2
     obtain⟨a1,_,a3⟩:=ang_ok hl hang
     exact⟨(mkC_iff _).2 ⟨fun _=>a1,fun a ha=>by cases ha⟩,a3⟩
   ·split at h
    ·split at h
     ·cases h
     ·next x r' hr =>
      split at h
      ·injection h with h
       injection h with e1 e2
       subst e1 e2
       have:=i2 _ _ _ (tail_all hl) hr
       exact⟨this.1,tail_all this.2⟩
      ·cases h
    ·split at h
     ·injection h with h
      injection h with e1 e2
      subst e1 e2
      exact⟨(mkC_iff _).2 ⟨fun e=>absurd e (by show ¬ ((1:Int)=2∨(1:Int)=9);decide),fun a ha=>by cases ha⟩,tail_all hl⟩
     ·cases h
  ·rw[ruleF] at h
   split at h
   ·cases h
   ·next hd e =>
    have ho:=head_ok hl e
    split at h
    ·split at h
     ·cases h
     ·next ks r' hk =>
      injection h with h
      injection h with e1 e2
      subst e1 e2
      have:=i3 _ _ _ _ (fun c hc=>by cases hc) ho.tk hk
      exact⟨(mkC_iff _).2 ⟨fun e=>absurd e (by show ¬ ((5:Int)=2∨(5:Int)=9);decide),this.1⟩,this.2⟩
    ·split at h
     ·cases h
     ·next ks r' hk =>
      have:=i4 _ _ _ _ _ (fun c hc=>by cases hc) ho.tk hk
      split at h
      ·split at h
       ·cases h
       ·next t r'' ha =>
        injection h with h
        injection h with e1 e2
        subst e1 e2
        obtain⟨b1,_,b3⟩:=ang_ok this.2 ha
        exact⟨(mkC_iff _).2 ⟨fun _=>b1,this.1⟩,b3⟩
      ·next h9 =>
       injection h with h
       injection h with e1 e2
       subst e1 e2
       have hk:=ho.k
       exact⟨(mkC_iff _).2 ⟨fun e=>by
        have e:(hd.k:Int)=2∨(hd.k:Int)=9:=e
        omega,this.1⟩,this.2⟩
  ·rw[conF] at h
   split at h
   ·injection h with h
    injection h with e1 e2
    subst e1 e2
    exact⟨ha,hl⟩
   ·split at h
    ·cases h
    ·next x r' hx =>
     have:=i1 _ _ _ hl hx
     exact i3 _ _ _ _ (acc1 ha this.1) this.2 h
  ·cases m with
   | zero =>
    rw[kidsF] at h
    injection h with h
    injection h with e1 e2
    subst e1 e2
    exact⟨ha,hl⟩
   | succ m =>
    rw[kidsF] at h
    split at h
    ·cases h
    ·next x r' hx =>
     have:=i1 _ _ _ hl hx
     exact i4 _ _ _ _ _ (acc1 ha this.1) this.2 h
theorem fv_word (x:ByteArray):∀ t:Ty,LexT t→fvT x t→LexN x:=by
 intro t
 induction t using Ty.ind with
 | h t ih =>
  intro hl h
  rcases (fvT_iff x t).1 h with h|⟨⟨a,ha,h⟩,_⟩
  ·exact h.2 ▸ ((lex_iff t).1 hl).1.1 (.inl h.1)
  ·exact ih a ha (((lex_iff t).1 hl).2 a ha) h
theorem fvC_word (x:ByteArray):∀ c:Co,MkC c→fvC x c→LexN x:=by
 intro c
 induction c using Co.ind with
 | h c ih =>
  intro hm h
  obtain⟨h1,h2⟩:=(mkC_iff c).1 hm
  rcases (fvC_iff x c).1 h with ⟨hk,h⟩|⟨a,ha,h⟩
  ·exact fv_word x c.t (h1 hk).2 h
  ·exact ih a ha (h2 a ha) h
theorem mark_no (n:Nat):¬ LexN (marks (n+1)):=fun h=>by
 have h2:=h.2.1
 have e:(marks (n+1)).data.toList.headD 0=36:=rfl
 rw[e] at h2
 exact absurd h2 (by decide)
end Go.Proofs.YtkihnodkhnahiaaGreatDoor.Tp

namespace Go.Proofs.YtkihnodkhnahiaaGreatDoor.Tp
open Go.RowKit Go.Sort
open Lx
structure HoldC (n b:Nat)(c:Co)(a:Option Addr)(m:Nat)(ka:Option Addr)(km:Nat)(W:World):Prop where
 k:B8 W b (.int .i64 c.kind) (.string c.name) (.int .i64 c.n) (.int .i64 c.t.kind) (.string c.t.name) (.int .i64 c.t.n) (.slice a c.t.args.length m) (.slice ka c.kids.length km)
 h:CoAt (Lt n) W c a m ka km
 lt:b<W.heap.size
 le:n≤W.heap.size
section
variable {n b : Nat} {c : Co} {a : Option Addr} {m : Nat} {ka : Option Addr} {km : Nat} {W W' : World}
theorem HoldC.low (R:HoldC n b c a m ka km W)(h:Below W.heap.size W W'):HoldC n b c a m ka km W' :=
 ⟨R.k.low h,R.h.keep fun j hj=>h.block j (Nat.lt_of_lt_of_le hj R.le),Nat.lt_of_lt_of_le R.lt h.size,Nat.le_trans R.le h.size⟩
theorem HoldC.at_ (R:HoldC n b c a m ka km W):CoAt (Lt W.heap.size) W c a m ka km:=R.h.mono fun _ hj=>Nat.lt_of_lt_of_le hj R.le
theorem HoldC.of_at (h:CoAt (Lt W.heap.size) W c a m ka km):HoldC W.heap.size W.heap.size c a m ka km (W.alloc (.cells #[.int .i64 c.kind,.string c.name,.int .i64 c.n,.int .i64 c.t.kind,.string c.t.name,.int .i64 c.t.n,.slice a c.t.args.length m,.slice ka c.kids.length km] 33)) :=
 ⟨B8.new W _ _ _ _ _ _ _ _,h.keep fun b hb=>heap_alloc_old W _ hb,by simp,by simp⟩
end
def PeC (w:World)(res:Except Nat Co)(e:Ending)(w':World):Prop :=
 ∃ (c:Co) (a:Option Addr) (m:Nat) (ka:Option Addr) (km er:Nat),e=.returned (.tuple #[.agg #[.int .i64 c.kind,.string c.name,.int .i64 c.n,.int .i64 c.t.kind,.string c.t.name,.int .i64 c.t.n,.slice a c.t.args.length m,.slice ka c.kids.length km],.int .i64 er])∧HoldC w'.heap.size w'.heap.size c a m ka km (w'.alloc (.cells #[.int .i64 c.kind,.string c.name,.int .i64 c.n,.int .i64 c.t.kind,.string c.t.name,.int .i64 c.t.n,.slice a c.t.args.length m,.slice ka c.kids.length km] 33)) ∧
  Below w.heap.size w (w'.alloc (.cells #[.int .i64 c.kind,.string c.name,.int .i64 c.n,.int .i64 c.t.kind,.string c.t.name,.int .i64 c.t.n,.slice a c.t.args.length m,.slice ka c.kids.length km] 33))∧(res=.ok c∧er=0∨res=.error er∧er≠0)
theorem parseC_er {l:List UInt8}{er:Nat}(h:parseC l=.error er):er≠0:=by
 rw[parseC] at h
 split at h
 ·next hn=>injection h with h;rw[← h];exact hn
 ·split at h
  ·injection h with h;omega
  ·split at h
   ·injection h with h;omega
   ·split at h
    ·injection h with h;omega
    ·cases h
theorem pec_any (w:World)(hV:Vs w)(s:ByteArray)(hs:s.size≤maxLen):Calls Tryz.prog 10 #[.string s] w (PeC w (parseC s.data.toList)):=by
 refine (parseC_any w hV s hs).mono ?_
 rintro e w' ⟨hb,hres⟩
 cases hp:parseC s.data.toList with
 | error er =>
  rw[hp] at hres
  subst hres
  exact⟨coz,none,0,none,0,er,rfl,.of_at (CoAt.none _ _ _ _ _ _ _),hb.trans (((Below.refl _ _).alloc (Nat.le_refl _) _).mono hb.size),.inr ⟨rfl,parseC_er hp⟩⟩
 | ok c =>
  rw[hp] at hres
  obtain⟨a,m,ka,km,rfl,hC⟩:=hres
  exact⟨c,a,m,ka,km,0,rfl,.of_at (hC.mono fun b hb=>hb.2),hb.trans (((Below.refl _ _).alloc (Nat.le_refl _) _).mono hb.size),.inl ⟨rfl,rfl⟩⟩
def GivH (w:World)(res:Option (List Giv))(e:Ending)(w':World):Prop :=
 ∃ (a:Option Addr) (l c:Nat) (b:Option Addr) (l2 d:Nat) (ok:Bool),e=.returned (.tuple #[.slice a l c,.slice b l2 d,.bool ok])∧Below w.heap.size w w' ∧
  (ok=true∧(∃ g,res=some g∧GivAt (Lt w'.heap.size) w' (.slice a l c) g)∧l≤6∧(a=none→c=0)∨ok=false∧res=none)
theorem giv_any (w:World)(v:Value)(ls:List Ln)(hL:LinAt w v ls):Calls Tryz.prog 9 #[v] w (GivH w (readG ls)):=by
 refine (read5_any w v ls hL).mono ?_
 rintro e w' ⟨hb,hres⟩
 cases hr:readG ls with
 | none=>rw[hr] at hres;subst hres;exact⟨none,0,0,none,0,0,false,rfl,hb,.inr ⟨rfl,rfl⟩⟩
 | some g =>
  rw[hr] at hres
  obtain⟨a,c,b,d,rfl,hG,hn⟩:=hres
  have hl:g.length≤6:=by
   unfold readG at hr
   split at hr
   ·cases hr
   ·have:=allG_len hr;omega
  exact⟨a,_,c,b,_,d,true,rfl,hb,.inl ⟨rfl,⟨g,rfl,hG.mono fun _ h=>h.2⟩,hl,hn⟩⟩
theorem calm_h {c:Co}{a:Option Addr}{m:Nat}{ka:Option Addr}{km:Nat}{W:World}(R:CoAt (Lt W.heap.size) W c a m ka km)(hw:WfC c)(hz:wtC 1 c≤100000) :
  Calls Tryz.prog 11 #[.agg #[.int .i64 c.kind,.string c.name,.int .i64 c.n,.int .i64 c.t.kind,.string c.t.name,.int .i64 c.t.n,.slice a c.t.args.length m,.slice ka c.kids.length km]] W (BoolPost W (decide (grC c≤2000))) :=
 calm_any c _ a m ka km W R (fun _ h=>h) hw hz
def SaidH (w:World)(res:Option (Ty × Ty))(e:Ending)(w':World):Prop :=
 ∃ (x y:Ty) (xa:Option Addr) (xc:Nat) (ya:Option Addr) (yc er:Nat),e=.returned (.tuple #[.agg #[.int .i64 x.kind,.string x.name,.int .i64 x.n,.slice xa x.args.length xc],.agg #[.int .i64 y.kind,.string y.name,.int .i64 y.n,.slice ya y.args.length yc],.int .i64 er]) ∧
  Hold w'.heap.size w'.heap.size x xa xc ((w'.alloc (.cells #[.int .i64 x.kind,.string x.name,.int .i64 x.n,.slice xa x.args.length xc] 30)).alloc (.cells #[.int .i64 y.kind,.string y.name,.int .i64 y.n,.slice ya y.args.length yc] 30))∧Hold w'.heap.size (w'.heap.size+1) y ya yc ((w'.alloc (.cells #[.int .i64 x.kind,.string x.name,.int .i64 x.n,.slice xa x.args.length xc] 30)).alloc (.cells #[.int .i64 y.kind,.string y.name,.int .i64 y.n,.slice ya y.args.length yc] 30))∧Below w.heap.size w ((w'.alloc (.cells #[.int .i64 x.kind,.string x.name,.int .i64 x.n,.slice xa x.args.length xc] 30)).alloc (.cells #[.int .i64 y.kind,.string y.name,.int .i64 y.n,.slice ya y.args.length yc] 30))∧(res=some (x,y)∧er=0∨res=none∧er=50)
theorem said_boxes {w w':World}{x y:Ty}{xa ya:Option Addr}{xc yc:Nat}(hb:Below w.heap.size w w')(hx:AtW x xa xc w')(hy:AtW y ya yc w') :
  Hold w'.heap.size w'.heap.size x xa xc ((w'.alloc (.cells #[.int .i64 x.kind,.string x.name,.int .i64 x.n,.slice xa x.args.length xc] 30)).alloc (.cells #[.int .i64 y.kind,.string y.name,.int .i64 y.n,.slice ya y.args.length yc] 30))∧Hold w'.heap.size (w'.heap.size+1) y ya yc ((w'.alloc (.cells #[.int .i64 x.kind,.string x.name,.int .i64 x.n,.slice xa x.args.length xc] 30)).alloc (.cells #[.int .i64 y.kind,.string y.name,.int .i64 y.n,.slice ya y.args.length yc] 30))∧Below w.heap.size w ((w'.alloc (.cells #[.int .i64 x.kind,.string x.name,.int .i64 x.n,.slice xa x.args.length xc] 30)).alloc (.cells #[.int .i64 y.kind,.string y.name,.int .i64 y.n,.slice ya y.args.length yc] 30)):=by
 have h1:=(Below.refl w'.heap.size w').alloc (Nat.le_refl _) (.cells #[.int .i64 x.kind,.string x.name,.int .i64 x.n,.slice xa x.args.length xc] 30)
 have h2:=h1.alloc h1.size (.cells #[.int .i64 y.kind,.string y.name,.int .i64 y.n,.slice ya y.args.length yc] 30)
 have k1:=(B4.new w' (.int .i64 x.kind) (.string x.name) (.int .i64 x.n) (.slice xa x.args.length xc)).low ((Below.refl _ _).alloc (Nat.le_refl _) (.cells #[.int .i64 y.kind,.string y.name,.int .i64 y.n,.slice ya y.args.length yc] 30))
 have k2:B4 ((w'.alloc (.cells #[.int .i64 x.kind,.string x.name,.int .i64 x.n,.slice xa x.args.length xc] 30)).alloc (.cells #[.int .i64 y.kind,.string y.name,.int .i64 y.n,.slice ya y.args.length yc] 30)) (w'.heap.size+1) (.int .i64 y.kind) (.string y.name) (.int .i64 y.n) (.slice ya y.args.length yc):=alloc_new (by simp)
 exact⟨⟨k1,hx.keep fun b hb=>h2.block b hb,k1.lt,h2.size⟩,⟨k2,hy.keep fun b hb=>h2.block b hb,k2.lt,h2.size⟩,hb.trans (h2.mono hb.size)⟩
theorem says_h {q:Nat}{g:List Giv}{c:Co}{a:Option Addr}{m:Nat}{ka:Option Addr}{km:Nat}{gv:Value}{W:World}(hgo:GivOk q g)(hG:GivAt (Lt W.heap.size) W gv g)(R:CoAt (Lt W.heap.size) W c a m ka km)(ht:Tame q c)(hT:Tab W) :
  Calls Tryz.prog 12 #[gv,.agg #[.int .i64 c.kind,.string c.name,.int .i64 c.n,.int .i64 c.t.kind,.string c.t.name,.int .i64 c.t.n,.slice a c.t.args.length m,.slice ka c.kids.length km]] W (SaidH W (saysC g c)):=by
 refine (says_said q g hgo c (Lt W.heap.size) a m ka km gv W hG R (fun _ h=>h) ht.w ht.s ht.f ht.b hT).mono ?_
 rintro e w' ⟨hb,hres⟩
 have up:∀ b,New (Lt W.heap.size) W w' b→Lt w'.heap.size b:=fun b h=>h.elim (fun h=>Nat.lt_of_lt_of_le h hb.size) fun h=>h.2
 unfold saysC
 cases hs:saysF c.deep g c with
 | none =>
  rw[hs] at hres
  subst hres
  obtain⟨h1,h2,h3⟩:=said_boxes (x:=tz) (y:=tz) (xa:=none) (ya:=none) (xc:=0) (yc:=0) hb (.nil _ _) (.nil _ _)
  exact⟨tz,tz,none,0,none,0,50,rfl,h1,h2,h3,.inr ⟨rfl,rfl⟩⟩
 | some p =>
  obtain⟨x,y⟩:=p
  rw[hs] at hres
  obtain⟨xa,xc,ya,yc,rfl,hx,hy⟩:=hres
  obtain⟨h1,h2,h3⟩:=said_boxes hb (hx.mono up) (hy.mono up)
  exact⟨x,y,xa,xc,ya,yc,0,rfl,h1,h2,h3,.inl ⟨rfl,rfl⟩⟩
theorem fit_small {b:Bd}{t:Ty}(h:Fit b t)(hs:b.s≤50000000000)(hf:b.f≤4000000):Small t:=by
 obtain⟨h1,h2,h3,h4⟩:=h
 exact⟨h1.2,by omega,Nat.le_trans h4 hf⟩
theorem says_small {q:Nat}{g:List Giv}{c:Co}{p:Ty × Ty}(hgo:GivOk q g)(ht:Tame q c)(h:saysC g c=some p):Small p.1∧Small p.2:=by
 obtain⟨h1,h2⟩:=says_fit q c.deep g c p hgo ht.w ht.s ht.b h
 exact⟨fit_small h1 ht.s ht.f,fit_small h2 ht.s ht.f⟩
theorem size_list (s:ByteArray):s.data.toList.length=s.size:=by rw[Array.length_toList];rfl
theorem gOf_ok {x:Ln}{g:Giv}(h:gOf x=some g):Fit ⟨120,120,120⟩ g.l∧Fit ⟨120,120,120⟩ g.r:=by
 unfold gOf at h
 split at h
 ·next t u ht hu =>
  split at h
  ·next hc =>
   injection h with h
   subst h
   have fit:∀ (s:ByteArray) (t:Ty),parseT s.data.toList=.ok t→s.size≤120→Fit ⟨120,120,120⟩ t:=fun s t hp hs=>by
    obtain⟨m1,m2,m3,m4⟩:=parse_made hp
    have hz:t.size≤120:=by
     have e:=size_list s
     omega
    have hc:=cnt_size t
    have hf:=fsz_cnt t
    exact⟨mk_ok m1,(by show cntT t≤120;omega),hz,(by show fsz t≤120;omega)⟩
   exact⟨fit _ _ ht hc.1,fit _ _ hu hc.2⟩
  ·cases h
 ·cases h
theorem allG_ok:∀ {xs:List Ln} {gs:List Giv},allG xs=some gs→GivOk 120 gs
 | [],gs,h=>by injection h with h;subst h;intro x hx;cases hx
 | y :: xs,gs,h=>by
  rw[allG] at h
  cases hy:gOf y with
  | none=>rw[hy] at h;cases h
  | some g =>
   rw[hy] at h
   cases hx:allG xs with
   | none=>rw[hx] at h;cases h
   | some g2 =>
    rw[hx] at h
    injection h with h
    subst h
    intro z hz
    rcases List.mem_cons.1 hz with rfl|hz
    ·exact gOf_ok hy
    ·exact allG_ok hx z hz
theorem readG_ok {ls:List Ln}{g:List Giv}(h:readG ls=some g):GivOk 120 g:=by
 unfold readG at h
 split at h
 ·cases h
 ·exact allG_ok h
theorem binds_deep (c:Co):bindsC c≤c.deep:=by
 induction c using Co.ind with
 | h c ih =>
  have kl:∀ ks:List Co,(∀ a∈ks,bindsC a≤a.deep)→bindsL ks≤deepL ks:=by
   intro ks
   induction ks with
   | nil=>intro _;exact Nat.le_refl _
   | cons a l ihl =>
    intro h
    rw[bindsL,deepL]
    have:=h a (by simp);have:=ihl fun b hb=>h b (by simp[hb])
    omega
  have:=kl c.kids ih
  rw[bindsC_eq,c.deep_eq]
  split<;>omega
theorem parseC_some {s:List UInt8}{c:Co}(h:parseC s=.ok c):∃ r,readC (scanR s).1=some (c,r)∧r=[]∧c.deep≤50:=by
 rw[parseC] at h
 split at h
 ·cases h
 ·split at h
  ·cases h
  ·next c' r hT =>
   split at h
   ·cases h
   ·next hr =>
    split at h
    ·cases h
    ·next h50 =>
     injection h with h
     subst h
     exact⟨r,hT,Classical.byContradiction hr,by omega⟩
theorem parseC_wf {s:List UInt8}{c:Co}(h:parseC s=.ok c):WfC c∧wtC 1 c≤4000∧MkC c:=by
 obtain⟨r,hr,_,_⟩:=parseC_some h
 have hl:=scanR_length s
 have ht:∀ t∈(scanR s).1,TokK t:=fun t ht=>tokK t (scanR_all s t ht)
 obtain⟨h1,h2,_⟩:=(madeC 1 (Nat.le_refl _) _).1 _ _ _ ht hl hr
 exact⟨h1,by omega,((mkC _).1 _ _ _ ht hr).1⟩
theorem parseC_tame {s:List UInt8}{c:Co}(h:parseC s=.ok c)(hs:s.length≤400)(hg:grC c≤2000):Tame 120 c:=by
 obtain⟨r,hr,_,hd⟩:=parseC_some h
 have hl:=scanR_length s
 have hl2:=scanR_le s
 have ht:∀ t∈(scanR s).1,TokK t:=fun t ht=>tokK t (scanR_all s t ht)
 have hR:=(madeC 120 (by omega) _).1 _ _ _ ht hl hr
 obtain⟨h1,h2,h3⟩:=calm_read hR (m:=400) (by omega) hg
 exact⟨hR.1,by omega,by omega,by have:=binds_deep c;omega⟩
end Go.Proofs.YtkihnodkhnahiaaGreatDoor.Tp

namespace Go.Proofs.YtkihnodkhnahiaaGreatDoor.Tp
open Go.RowKit
section
variable {W : World} {c d : Co} {a a2 : Option Addr} {m m2 : Nat} {ka ka2 : Option Addr} {km km2 : Nat} {k : Nat}
theorem CoAt.up (h:CoAt (Lt W.heap.size) W c a m ka km)(o:Obj):CoAt (Lt (W.alloc o).heap.size) (W.alloc o) c a m ka km:=h.low ((Below.refl _ _).alloc (Nat.le_refl _) o)
theorem kid1 (h:CoAt (Lt W.heap.size) W c a m ka km)(hk:W.heap.size=k):KidsAt (Lt (W.alloc (.cells #[.int .i64 c.kind,.string c.name,.int .i64 c.n,.int .i64 c.t.kind,.string c.t.name,.int .i64 c.t.n,.slice a c.t.args.length m,.slice ka c.kids.length km] 33)).heap.size) (W.alloc (.cells #[.int .i64 c.kind,.string c.name,.int .i64 c.n,.int .i64 c.t.kind,.string c.t.name,.int .i64 c.t.n,.slice a c.t.args.length m,.slice ka c.kids.length km] 33)) (.slice (some ⟨k,0,none⟩) 1 1) [c]:=by
 have hu:=h.up (.cells #[.int .i64 c.kind,.string c.name,.int .i64 c.n,.int .i64 c.t.kind,.string c.t.name,.int .i64 c.t.n,.slice a c.t.args.length m,.slice ka c.kids.length km] 33)
 have hb:=B8.new W (.int .i64 c.kind) (.string c.name) (.int .i64 c.n) (.int .i64 c.t.kind) (.string c.t.name) (.int .i64 c.t.n) (.slice a c.t.args.length m) (.slice ka c.kids.length km)
 rw[hk] at hb
 refine .mk k 0 1 [c] (fun _=>.slice a c.t.args.length m) (fun _=>.slice ka c.kids.length km) (by show k < _;rw[World.size_alloc];omega) (by simp) (fun i hi=>?_) (fun i hi=>?_) (fun i hi=>?_)
 ·obtain rfl:i=0:=by simp at hi;exact hi
  exact⟨hb.c0,hb.c1,hb.c2,hb.c3,hb.c4,hb.c5,hb.c6,hb.c7⟩
 ·obtain rfl:i=0:=by simp at hi;exact hi
  exact hu.t
 ·obtain rfl:i=0:=by simp at hi;exact hi
  exact hu.k
theorem kid2 (h:CoAt (Lt W.heap.size) W c a m ka km)(g:CoAt (Lt W.heap.size) W d a2 m2 ka2 km2)(hk:W.heap.size=k){x0 x3 x2:Int}{x1 x4:ByteArray}{x5:Int}{x6 x7:Value}(e0:d.kind=x0)(e1:d.name=x1)(e2:d.n=x2)(e3:d.t.kind=x3)(e4:d.t.name=x4)(e5:d.t.n=x5)(e6:.slice a2 d.t.args.length m2=x6)(e7:.slice ka2 d.kids.length km2=x7) :
  KidsAt (Lt (W.alloc (.cells #[.int .i64 c.kind,.string c.name,.int .i64 c.n,.int .i64 c.t.kind,.string c.t.name,.int .i64 c.t.n,.slice a c.t.args.length m,.slice ka c.kids.length km,.int .i64 x0,.string x1,.int .i64 x2,.int .i64 x3,.string x4,.int .i64 x5,x6,x7] 33)).heap.size) (W.alloc (.cells #[.int .i64 c.kind,.string c.name,.int .i64 c.n,.int .i64 c.t.kind,.string c.t.name,.int .i64 c.t.n,.slice a c.t.args.length m,.slice ka c.kids.length km,.int .i64 x0,.string x1,.int .i64 x2,.int .i64 x3,.string x4,.int .i64 x5,x6,x7] 33)) (.slice (some ⟨k,0,none⟩) 2 2) [c,d]:=by
 subst e0 e1 e2 e3 e4 e5 e6 e7
 have hu:=h.up (.cells #[.int .i64 c.kind,.string c.name,.int .i64 c.n,.int .i64 c.t.kind,.string c.t.name,.int .i64 c.t.n,.slice a c.t.args.length m,.slice ka c.kids.length km,.int .i64 d.kind,.string d.name,.int .i64 d.n,.int .i64 d.t.kind,.string d.t.name,.int .i64 d.t.n,.slice a2 d.t.args.length m2,.slice ka2 d.kids.length km2] 33)
 have gu:=g.up (.cells #[.int .i64 c.kind,.string c.name,.int .i64 c.n,.int .i64 c.t.kind,.string c.t.name,.int .i64 c.t.n,.slice a c.t.args.length m,.slice ka c.kids.length km,.int .i64 d.kind,.string d.name,.int .i64 d.n,.int .i64 d.t.kind,.string d.t.name,.int .i64 d.t.n,.slice a2 d.t.args.length m2,.slice ka2 d.kids.length km2] 33)
 have hb:=heap_alloc_new W (.cells #[.int .i64 c.kind,.string c.name,.int .i64 c.n,.int .i64 c.t.kind,.string c.t.name,.int .i64 c.t.n,.slice a c.t.args.length m,.slice ka c.kids.length km,.int .i64 d.kind,.string d.name,.int .i64 d.n,.int .i64 d.t.kind,.string d.t.name,.int .i64 d.t.n,.slice a2 d.t.args.length m2,.slice ka2 d.kids.length km2] 33)
 rw[hk] at hb
 have q:=fun j=>cell_of_row _ k j _ _ _ hb
 refine .mk k 0 2 [c,d] (fun i=>if i=0 then .slice a c.t.args.length m else .slice a2 d.t.args.length m2) (fun i=>if i=0 then .slice ka c.kids.length km else .slice ka2 d.kids.length km2) (by show k < _;rw[World.size_alloc];omega) (by simp) (fun i hi=>?_) (fun i hi=>?_) (fun i hi=>?_)
 ·have hi2:i<2:=hi
  match i,hi2 with
  | 0,_=>exact⟨q 0,q 1,q 2,q 3,q 4,q 5,q 6,q 7⟩
  | 1,_=>exact⟨q 8,q 9,q 10,q 11,q 12,q 13,q 14,q 15⟩
 ·have hi2:i<2:=hi
  match i,hi2 with
  | 0,_=>exact hu.t
  | 1,_=>exact gu.t
 ·have hi2:i<2:=hi
  match i,hi2 with
  | 0,_=>exact hu.k
  | 1,_=>exact gu.k
theorem coK {kd:Int}{s:ByteArray}{n:Int}{ks:List Co}{v:Option Addr}{l:Nat}(h:KidsAt (Lt W.heap.size) W (.slice v ks.length l) ks):CoAt (Lt W.heap.size) W (.mk kd s n tz ks) none 0 v l:=⟨.nil _ _,h⟩
end
theorem same_eq {t u:Ty}{a ua:Option Addr}{c uc:Nat}{w:World}(R:AtW t a c w)(U:AtW u ua uc w)(hs:Small t)(hu:Small u)(he:canonS t=canonS u)(hT:Tab w) :
  Calls Tryz.prog 13 #[.agg #[.int .i64 t.kind,.string t.name,.int .i64 t.n,.slice a t.args.length c],.agg #[.int .i64 u.kind,.string u.name,.int .i64 u.n,.slice ua u.args.length uc]] w (BoolPost w true):=by
 have h:=same_h R U hs hu hT
 rw[decide_eq_true he] at h
 exact h
theorem addr0 (b off j:Nat):(⟨b,off,none⟩:Addr).add j=⟨b,off+j,none⟩:=by unfold Addr.add;split<;>simp_all
theorem cellsG_len:∀ (gs:List Giv) (ps:List (Value × Value)),ps.length=gs.length→(cellsG gs ps).length=gs.length*9
 | [],_,_=>by simp[cellsG]
 | g :: gs,[],h=>by simp at h
 | g :: gs,p :: ps,h=>by
  have e:cellsG (g :: gs) (p :: ps)=cell9 g p++cellsG gs ps:=rfl
  rw[e,List.length_append,cellsG_len gs ps (by simpa using h),List.length_cons]
  show 9+gs.length*9=_
  omega
theorem cellsG_app:∀ (a b:List Giv) (p q:List (Value × Value)),p.length=a.length→cellsG (a++b) (p++q)=cellsG a p++cellsG b q:=by
 intro a b p q h
 unfold cellsG
 rw[List.zip_append h.symm,List.flatMap_append]
theorem giv_cells {w:World}{a:Option Addr}{l c:Nat}{gs:List Giv}(h:GivAt (Lt w.heap.size) w (.slice a l c) gs):∃ ps:List (Value × Value),ps.length=gs.length∧(∀ p,a=some p→∀ (j:Nat) u,(cellsG gs ps)[j]? = some u→w.cell? (p.add j)=some u) ∧
  (∀ u∈cellsG gs ps,u.oneCell'=true)∧∀ (j:Nat) (g:Giv) (p:Value × Value),gs[j]? = some g→ps[j]? = some p→ArgsAt (Lt w.heap.size) w p.1 g.l.args∧ArgsAt (Lt w.heap.size) w p.2 g.r.args:=by
 obtain⟨a',c',e,hl,hc⟩:=h
 injection e with e1 e2 e3
 subst e1 e3
 have each:∀ i:Fin gs.length,∃ p:Value × Value,(∃ a1 c1 a2 c2,p=(.slice a1 gs[i].l.args.length c1,.slice a2 gs[i].r.args.length c2))∧(∀ q,a=some q→∀ j u,j<9→(cell9 gs[i] p)[j]? = some u→w.cell? (q.add (i.1*9+j))=some u)∧ArgsAt (Lt w.heap.size) w p.1 gs[i].l.args∧ArgsAt (Lt w.heap.size) w p.2 gs[i].r.args:=fun i=>by
  obtain⟨b,off,a1,c1,a2,c2,e,hb,k0,f1,r1,f2,r2⟩:=hc i.1 i.2
  refine⟨(.slice a1 gs[i].l.args.length c1,.slice a2 gs[i].r.args.length c2),⟨_,_,_,_,rfl⟩,fun q hq j u hj hu=>?_,r1,r2⟩
  rw[e] at hq
  obtain rfl:=Option.some.inj hq
  rw[addr0,show off+(i.1*9+j)=off+i.1*9+j by omega]
  match j,hj with
  | 0,_=>injection hu with hu;subst hu;exact k0
  | 1,_=>injection hu with hu;subst hu;exact f1.1
  | 2,_=>injection hu with hu;subst hu;exact f1.2.1
  | 3,_=>injection hu with hu;subst hu;exact f1.2.2.1
  | 4,_=>injection hu with hu;subst hu;exact f1.2.2.2
  | 5,_=>injection hu with hu;subst hu;exact f2.1
  | 6,_=>injection hu with hu;subst hu;exact f2.2.1
  | 7,_=>injection hu with hu;subst hu;exact f2.2.2.1
  | 8,_=>injection hu with hu;subst hu;exact f2.2.2.2
 obtain⟨f,hf⟩:=Classical.axiomOfChoice each
 have hlen:(List.ofFn f).length=gs.length:=by simp
 have at_:∀ i (h:i<gs.length),(List.ofFn f)[i]'(by rw[hlen];exact h)=f ⟨i,h⟩:=fun i h=>by simp
 have split:∀ (j:Nat) u,(cellsG gs (List.ofFn f))[j]? = some u→∃ (i:Nat) (h:i<gs.length) (k:Nat),k<9∧j=i*9+k∧(cell9 gs[i] (f ⟨i,h⟩))[k]? = some u:=fun j u hu=>by
  have hj:=(List.getElem?_eq_some_iff.1 hu).1
  rw[cellsG_len _ _ hlen] at hj
  have hi:j / 9<gs.length:=by omega
  have e:j=j / 9*9+j % 9:=by omega
  rw[e,cellsG_at gs _ hlen (j / 9) hi (by rw[hlen];exact hi) (j % 9) (by omega),at_ _ hi] at hu
  exact⟨j / 9,hi,j % 9,by omega,e,hu⟩
 refine⟨List.ofFn f,hlen,fun p hp j u hu=>?_,fun u hu=>?_,fun j g p h1 h2=>?_⟩
 ·obtain⟨i,hi,k,hk,e,hu⟩:=split j u hu
  rw[e]
  exact (hf ⟨i,hi⟩).2.1 p hp k u hk hu
 ·obtain⟨j,hj⟩:=List.getElem?_of_mem hu
  obtain⟨i,hi,k,hk,e,hu⟩:=split j u hj
  obtain⟨a1,c1,a2,c2,hp⟩:=(hf ⟨i,hi⟩).1
  rw[hp] at hu
  match k,hk with
  | 0,_=>injection hu with hu;subst hu;rfl
  | 1,_=>injection hu with hu;subst hu;rfl
  | 2,_=>injection hu with hu;subst hu;rfl
  | 3,_=>injection hu with hu;subst hu;rfl
  | 4,_=>injection hu with hu;subst hu;rfl
  | 5,_=>injection hu with hu;subst hu;rfl
  | 6,_=>injection hu with hu;subst hu;rfl
  | 7,_=>injection hu with hu;subst hu;rfl
  | 8,_=>injection hu with hu;subst hu;rfl
 ·obtain⟨hj,rfl⟩:=List.getElem?_eq_some_iff.1 h1
  rw[List.getElem?_eq_getElem (by rw[hlen];exact hj),at_ _ hj] at h2
  injection h2 with h2
  subst h2
  exact (hf ⟨j,hj⟩).2.2
theorem giv_own {S:Nat→Prop}{w:World}{lo:Nat}{v:Value}{gs:List Giv}{ps:List (Value × Value)}(h:w.ownsRow lo 72 9 v gs.length (cellsG gs ps))(hlen:ps.length=gs.length)(hl:gs.length≤4000)(hS:∀ b,lo≤b→b<w.heap.size→S b)
  (ha:∀ (j:Nat) (g:Giv) (p:Value × Value),gs[j]? = some g→ps[j]? = some p→ArgsAt S w p.1 g.l.args∧ArgsAt S w p.2 g.r.args):GivAt S w v gs:=by
 rcases h.2 with ⟨rfl,h0⟩|⟨g,cap,cur,rfl,hb,hg,_⟩
 ·have:gs=[]:=List.eq_nil_of_length_eq_zero h0
  subst this
  exact⟨none,0,rfl,hl,fun i hi=>by simp at hi⟩
 ·refine⟨_,cap,rfl,hl,fun i hi=>?_⟩
  have hi':i<ps.length:=by rw[hlen];exact hi
  have hc:=h.cells (g:=g) rfl
  have q:∀ j u,j<9→(cell9 gs[i] ps[i])[j]? = some u→w.cell? ⟨g,0+i*9+j,none⟩=some u:=fun j u hj hu=>by
   have:=hc (i*9+j) u (by rw[cellsG_at gs ps hlen i hi hi' j hj];exact hu)
   rw[addr0] at this
   rw[show 0+i*9+j=0+(i*9+j) by omega];exact this
  obtain⟨r1,r2⟩:=ha i _ _ (List.getElem?_eq_getElem hi) (List.getElem?_eq_getElem hi')
  obtain⟨a,c,e1,_⟩:=r1.form
  obtain⟨b,d,e2,_⟩:=r2.form
  have hpe:ps[i]=(.slice a gs[i].l.args.length c,.slice b gs[i].r.args.length d):=Prod.ext e1 e2
  rw[hpe] at q r1 r2
  exact⟨g,0,a,c,b,d,rfl,hS g hb (Array.getElem?_eq_some_iff.1 hg).1,q 0 _ (by omega) rfl,⟨q 1 _ (by omega) rfl,q 2 _ (by omega) rfl,q 3 _ (by omega) rfl,q 4 _ (by omega) rfl⟩,r1,⟨q 5 _ (by omega) rfl,q 6 _ (by omega) rfl,q 7 _ (by omega) rfl,q 8 _ (by omega) rfl⟩,r2⟩
set_option maxRecDepth 100000 in
theorem own_more {W w:World}{v:Value}{n:Nat}{xs:List Value}(hb:Below W.heap.size W w)(ho:w.ownsRow W.heap.size 72 9 v n xs){a:Option Addr}{l c:Nat}{gs:List Giv}(hG:GivAt (Lt W.heap.size) W (.slice a l c) gs)(hn:a=none→c=0)(hl:n+gs.length≤4000) :
  ∃ ps v' w',ps.length=gs.length∧(Builtin.append_ #[24,24] 24 #[v,.slice a l c]).run Tryz.prog w=.ok v' w'∧w'.ownsRow W.heap.size 72 9 v' (n+gs.length) (xs++cellsG gs ps)∧Below W.heap.size W w' ∧
   ∀ (j:Nat) (g:Giv) (p:Value × Value),gs[j]? = some g→ps[j]? = some p→ArgsAt (Lt W.heap.size) W p.1 g.l.args∧ArgsAt (Lt W.heap.size) W p.2 g.r.args:=by
 obtain⟨i0,hi0,hz0,hz1,hz3⟩:=info_parts infoGiv
 obtain⟨ps,h1,h2,h3,h4⟩:=giv_cells hG
 have hl1:l=gs.length:=by obtain⟨a',c',e,_⟩:=hG;injection e with _ e _
 subst hl1
 cases a with
 | none =>
  have hc:=hn rfl
  subst hc
  have e0:gs=[]:=by
   cases gs with
   | nil=>rfl
   | cons g gs=>obtain⟨a',c',e,_,hc⟩:=hG;obtain⟨b,off,_,_,_,_,e2,_⟩:=hc 0 (by simp);injection e with e _ _;rw[e2] at e;cases e
  subst e0
  have e1:ps=[]:=List.eq_nil_of_length_eq_zero h1
  subst e1
  refine⟨[],v,w,rfl,run_append_owned_none (P:=Tryz.prog) (w:=w) W.heap.size 24 24 72 i0 9 Tryz.underlying24 hi0 v n xs ho,?_,hb,h4⟩
  show w.ownsRow W.heap.size _ 9 v n (xs++[])
  rw[List.append_nil];exact ho
 | some p =>
  obtain⟨v',w',hr,ho',hgr,_⟩:=run_append_own (P:=Tryz.prog) w W.heap.size 24 24 72 i0 _ 9 128 Tryz.underlying24 hi0 hz0 hz1 hz3 rfl (by decide) v n xs ho p gs.length c (cellsG gs ps) (cellsG_len _ _ h1) (fun j u hu=>by
   have hc:=h2 p rfl j u hu
   exact (hb.cell (World.block_lt_of_cell? W _ hc)).trans hc) h3 (by unfold maxLen;omega) (by omega) hb.size
  exact⟨ps,v',w',h1,hr,ho',hb.grown hgr hb.size fun k e=>(ho.lt k e).1,h4⟩
theorem own_none9 {w:World}{b:Nat}{t:TypeId}{lo:Nat}(h:w.heap[b]? = some (.cells #[] t (0,0)))(hb:lo≤b):w.ownsRow lo t 9 (.slice (some ⟨b,0,none⟩) 0 0) 0 [] :=
 ⟨by simp,.inr ⟨b,0,#[],rfl,hb,h,Nat.le_refl _,by unfold maxLen;omega,by simp,by simp⟩⟩
theorem two_append {W:World}{k:Nat}(hk:W.heap.size=k){ha ga:Option Addr}{hl gl hc gc:Nat}{h g:List Giv}(H:GivAt (Lt W.heap.size) W (.slice ha hl hc) h)(G:GivAt (Lt W.heap.size) W (.slice ga gl gc) g)(hh:ha=none→hc=0)(hg:ga=none→gc=0)(hn:h.length+g.length≤4000) :
  ∃ v1 w1 v2 w2,(Builtin.append_ #[24,24] 24 #[.slice (some ⟨k,0,none⟩) 0 0,.slice ha hl hc]).run Tryz.prog (W.alloc (.cells #[] 72))=.ok v1 w1 ∧
   (Builtin.append_ #[24,24] 24 #[v1,.slice ga gl gc]).run Tryz.prog w1=.ok v2 w2∧Below W.heap.size W w2∧GivAt (Lt w2.heap.size) w2 v2 (h++g):=by
 subst hk
 have hz:=(Below.refl W.heap.size W).alloc (Nat.le_refl _) (.cells #[] 72)
 obtain⟨p1,v1,w1,l1,r1,o1,B1,a1⟩:=own_more hz (own_none9 (heap_alloc_new W (.cells #[] 72)) (Nat.le_refl _)) H hh (by omega)
 obtain⟨p2,v2,w2,l2,r2,o2,B2,a2⟩:=own_more B1 o1 G hg (by omega)
 refine⟨v1,w1,v2,w2,r1,r2,B2,?_⟩
 rw[List.nil_append,Nat.zero_add,← cellsG_app _ _ _ _ l1,← List.length_append] at o2
 have up:∀ {y:Value} {ts:List Ty},ArgsAt (Lt W.heap.size) W y ts→ArgsAt (Lt w2.heap.size) w2 y ts:=fun hy=>(hy.keep fun b hb=>B2.block b hb).mono fun b hb=>Nat.lt_of_lt_of_le hb B2.size
 refine giv_own o2 (by simp[l1,l2]) (by rw[List.length_append];exact hn) (fun b _ hb=>hb) fun j u y e1 e2=>?_
 rcases Nat.lt_or_ge j h.length with hj|hj
 ·rw[List.getElem?_append_left hj] at e1
  rw[List.getElem?_append_left (by omega)] at e2
  exact⟨up (a1 j u y e1 e2).1,up (a1 j u y e1 e2).2⟩
 ·rw[List.getElem?_append_right hj] at e1
  rw[List.getElem?_append_right (by omega),l1] at e2
  exact⟨up (a2 _ u y e1 e2).1,up (a2 _ u y e1 e2).2⟩
def GivRes (W:World)(a:Option Addr)(l c:Nat)(res:Option (List Giv))(ok:Bool):Prop :=
 ok=true∧(∃ g,res=some g∧GivAt (Lt W.heap.size) W (.slice a l c) g)∧l≤6∧(a=none→c=0)∨ok=false∧res=none
theorem GivRes.low {W W':World}{a:Option Addr}{l c:Nat}{res:Option (List Giv)}{ok:Bool}(h:GivRes W a l c res ok)(hb:Below W.heap.size W W'):GivRes W' a l c res ok :=
 h.imp (fun ⟨h1,⟨g,h2,h3⟩,h4⟩=>⟨h1,⟨g,h2,h3.low hb⟩,h4⟩) id
theorem GivAt.len {S:Nat→Prop}{W:World}{a:Option Addr}{l c:Nat}{g:List Giv}(h:GivAt S W (.slice a l c) g):l=g.length:=by
 obtain⟨a',c',e,_⟩:=h
 injection e
def B3 (W:World)(b:Nat)(u0 u1 u2:Value):Prop:=W.heap[b]? = some (.cells #[u0,u1,u2] 43 (0,0))
section
variable {W W' : World} {b : Nat} {u0 u1 u2 : Value}
theorem B3.c0 (h:B3 W b u0 u1 u2):W.cell? ⟨b,0,none⟩=some u0:=cell_of_row W b 0 _ _ _ h
theorem B3.c1 (h:B3 W b u0 u1 u2):W.cell? ⟨b,1,none⟩=some u1:=cell_of_row W b 1 _ _ _ h
theorem B3.c2 (h:B3 W b u0 u1 u2):W.cell? ⟨b,2,none⟩=some u2:=cell_of_row W b 2 _ _ _ h
theorem B3.low (h:B3 W b u0 u1 u2)(hb:Below W.heap.size W W'):B3 W' b u0 u1 u2:=(hb.block b (Array.getElem?_eq_some_iff.1 h).1).trans h
end
theorem lin1 {W:World}{k:Nat}(hk:W.heap.size=k)(x:Ln)(hx:x.nm.size≤maxLen∧x.l.size≤maxLen∧x.r.size≤maxLen):LinAt (W.alloc (.cells #[.string x.nm,.string x.l,.string x.r] 43)) (.slice (some ⟨k,0,none⟩) 1 1) [x]:=by
 have hb:=heap_alloc_new W (.cells #[.string x.nm,.string x.l,.string x.r] 43)
 rw[hk] at hb
 refine⟨_,1,rfl,Nat.le_refl _,by simp,fun y hy=>?_,.inr ⟨k,0,rfl,by rw[World.size_alloc];omega,fun j hj=>?_⟩⟩
 ·obtain rfl:=List.mem_singleton.1 hy;exact hx
 ·have hj1:j<1:=hj
  match j,hj1 with
  | 0,_=>exact⟨cell_of_row _ _ 0 _ _ _ hb,cell_of_row _ _ 1 _ _ _ hb,cell_of_row _ _ 2 _ _ _ hb⟩
end Go.Proofs.YtkihnodkhnahiaaGreatDoor.Tp

namespace Go.Proofs.YtkihnodkhnahiaaGreatDoor.Tp
open Lx
def conC (s:ByteArray)(c d:Co):Co:=.mk 5 s 0 tz [c,d]
def funC (c d:Co):Co:=.mk 6 e0 0 tz [c,d]
def nthC (n:Int)(c:Co):Co:=.mk 8 e0 n tz [c]
def reflC (a:Ty):Co:=.mk 2 e0 0 a []
def allC (s:ByteArray)(c:Co):Co:=.mk 7 s 0 tz [c]
def instC (t:Ty)(c:Co):Co:=.mk 9 e0 0 t [c]
theorem says_two (g:List Giv){q:Nat}{c d:Co}(hc:Tame q c)(hd:Tame q d)(e:Nat)(h1:c.deep≤e)(h2:d.deep≤e):saysL (saysF e g) [c,d]=match saysC g c with
  | none=>none
  | some p=>match saysC g d with
   | none=>none
   | some r=>some ([p.1,r.1],[p.2,r.2]):=by
 rw[saysL,saysL,saysL,hc.says g h1,hd.says g h2]
 cases saysC g c with
 | none=>rfl
 | some p=>cases saysC g d<;>rfl
theorem says_conC (g:List Giv){q:Nat}{c d:Co}(hc:Tame q c)(hd:Tame q d)(s:ByteArray):saysC g (conC s c d)=match saysC g c with
  | none=>none
  | some p=>match saysC g d with
   | none=>none
   | some r=>some (.mk 3 s 0 [p.1,r.1],.mk 3 s 0 [p.2,r.2]):=by
 have e:(conC s c d).deep=max c.deep (max d.deep 0)+1:=rfl
 rw[saysC,e,saysF,if_neg (by show ¬ (5:Int)=1;decide),if_neg (by show ¬ (5:Int)=2;decide)]
 show (match saysL (saysF (max c.deep (max d.deep 0)) g) [c,d] with|none=>none|some p=>ruleS (conC s c d) p.1 p.2)=_
 rw[says_two g hc hd _ (by omega) (by omega)]
 cases saysC g c with
 | none=>rfl
 | some p=>cases saysC g d<;>rfl
theorem says_funC (g:List Giv){q:Nat}{c d:Co}(hc:Tame q c)(hd:Tame q d):saysC g (funC c d)=match saysC g c with
  | none=>none
  | some p=>match saysC g d with
   | none=>none
   | some r=>some (.mk 4 e0 0 [p.1,r.1],.mk 4 e0 0 [p.2,r.2]):=by
 have e:(funC c d).deep=max c.deep (max d.deep 0)+1:=rfl
 rw[saysC,e,saysF,if_neg (by show ¬ (6:Int)=1;decide),if_neg (by show ¬ (6:Int)=2;decide)]
 show (match saysL (saysF (max c.deep (max d.deep 0)) g) [c,d] with|none=>none|some p=>ruleS (funC c d) p.1 p.2)=_
 rw[says_two g hc hd _ (by omega) (by omega)]
 cases saysC g c with
 | none=>rfl
 | some p=>cases saysC g d<;>rfl
theorem says_nthC (g:List Giv)(n:Int)(c:Co):saysC g (nthC n c)=match saysC g c with
  | none=>none
  | some p=>nthT n p.1 p.2:=by
 have e:(nthC n c).deep=c.deep+1:=by show max c.deep 0+1=_;omega
 rw[saysC,e,saysF,if_neg (by show ¬ (8:Int)=1;decide),if_neg (by show ¬ (8:Int)=2;decide)]
 show (match saysL (saysF c.deep g) [c] with|none=>none|some p=>ruleS (nthC n c) p.1 p.2)=match saysF c.deep g c with|none=>none|some p=>nthT n p.1 p.2
 rw[saysL,saysL]
 cases saysF c.deep g c<;>rfl
theorem says_instC (g:List Giv)(t a:Ty)(nm:ByteArray):saysC g (instC t (allC nm (reflC a)))=some (PutT (marks 1) t (PutT nm (varB (marks 1)) a),PutT (marks 1) t (PutT nm (varB (marks 1)) a)):=rfl
theorem nth_con1 (s:ByteArray)(a b x y:Ty):nthT 1 (.mk 3 s 0 [a,b]) (.mk 3 s 0 [x,y])=some (b,y):=if_pos ⟨rfl,.inr ⟨rfl,rfl,rfl⟩,by show (1:Int)<(2:Nat);decide⟩
theorem nth_con2 (s:ByteArray)(a b x y:Ty):nthT 2 (.mk 3 s 0 [a,b]) (.mk 3 s 0 [x,y])=none:=if_neg fun h=>absurd h.2.2 (by show ¬ (2:Int)<(2:Nat);decide)
theorem nth_fun0 (a b x y:Ty):nthT 0 (.mk 4 e0 0 [a,b]) (.mk 4 e0 0 [x,y])=some (a,x):=if_pos ⟨rfl,.inl rfl,by show (0:Int)<(2:Nat);decide⟩
structure Half (q:Nat)(c:Co):Prop where
 w:WfC c
 v:(bdC q c).v≤100000000
 s:(bdC q c).s≤22000000000
 f:(bdC q c).f≤1000000
 b:bindsC c≤50
theorem big_bound:50000000000≤50000000000:=by decide
theorem Half.tame {q:Nat}{c:Co}(h:Half q c):Tame q c:=⟨h.w,by have:=h.s;have:=big_bound;omega,by have:=h.f;omega,by have:=h.b;omega⟩
theorem Half.con {q:Nat}{c d:Co}(hc:Half q c)(hd:Half q d)(s:ByteArray)(hs:s.size≤64):Tame q (conC s c d):=by
 have e:bdC q (conC s c d)=⟨((bdC q c).add ((bdC q d).add ⟨0,0,0⟩)).v,((bdC q c).add ((bdC q d).add ⟨0,0,0⟩)).s+1,((bdC q c).add ((bdC q d).add ⟨0,0,0⟩)).f⟩:=rfl
 refine⟨(wfC_iff _).2 ⟨⟨hs,by show 2≤4000;omega,.inr (.inr (.inr (.inr (.inl rfl))))⟩,fun a ha=>?_⟩,?_,?_,?_⟩
 ·rcases List.mem_cons.1 ha with rfl|ha
  ·exact hc.w
  ·obtain rfl:=List.mem_singleton.1 ha;exact hd.w
 ·rw[e];have:=hc.s;have:=hd.s;have:=big_bound;simp only[Bd.add];omega
 ·rw[e];have:=hc.f;have:=hd.f;simp only[Bd.add];omega
 ·have:=hc.b;have:=hd.b;show max (bindsC c) (max (bindsC d) 0)+0≤60;omega
theorem Half.fun_ {q:Nat}{c d:Co}(hc:Half q c)(hd:Half q d):Tame q (funC c d):=by
 have e:bdC q (funC c d)=⟨((bdC q c).add ((bdC q d).add ⟨0,0,0⟩)).v,((bdC q c).add ((bdC q d).add ⟨0,0,0⟩)).s+1,((bdC q c).add ((bdC q d).add ⟨0,0,0⟩)).f⟩:=rfl
 refine⟨(wfC_iff _).2 ⟨⟨he0,by show 2≤4000;omega,.inr (.inr (.inr (.inr (.inr (.inl ⟨rfl,rfl⟩)))))⟩,fun a ha=>?_⟩,?_,?_,?_⟩
 ·rcases List.mem_cons.1 ha with rfl|ha
  ·exact hc.w
  ·obtain rfl:=List.mem_singleton.1 ha;exact hd.w
 ·rw[e];have:=hc.s;have:=hd.s;have:=big_bound;simp only[Bd.add];omega
 ·rw[e];have:=hc.f;have:=hd.f;simp only[Bd.add];omega
 ·have:=hc.b;have:=hd.b;show max (bindsC c) (max (bindsC d) 0)+0≤60;omega
theorem Tame.nth {q:Nat}{c:Co}(h:Tame q c){n:Int}(h0:0≤n)(h1:n<1000000000):Tame q (nthC n c):=by
 have e:bdC q (nthC n c)=(bdC q c).sup ⟨0,0,0⟩:=rfl
 refine⟨(wfC_iff _).2 ⟨⟨he0,by show 1≤4000;omega,.inr (.inr (.inr (.inr (.inr (.inr (.inr (.inl ⟨rfl,rfl,h0,h1⟩)))))))⟩,fun a ha=>?_⟩,?_,?_,?_⟩
 ·obtain rfl:=List.mem_singleton.1 ha;exact h.w
 ·rw[e];have:=h.s;simp only[Bd.sup];omega
 ·rw[e];have:=h.f;simp only[Bd.sup];omega
 ·have:=h.b;show max (bindsC c) 0+0≤60;omega
theorem tame_inst {q:Nat}{t a:Ty}{nm:ByteArray}(ha:Ok a)(hav:cntT a≤100000000)(has:a.size≤22000000000)(haf:fsz a≤1000000)(ht:Ok t)(hts:t.size≤200)(hnm:nm.size≤64):Tame q (instC t (allC nm (reflC a))):=by
 have er:bdC q (reflC a)=⟨cntT a,a.size,fsz a⟩:=rfl
 have ea:bdC q (allC nm (reflC a))=⟨((bdC q (reflC a)).add ⟨0,0,0⟩).v,((bdC q (reflC a)).add ⟨0,0,0⟩).s+1,((bdC q (reflC a)).add ⟨0,0,0⟩).f⟩:=rfl
 have e:bdC q (instC t (allC nm (reflC a)))=⟨((bdC q (allC nm (reflC a))).sup ⟨0,0,0⟩).v*max 1 (cntT t),((bdC q (allC nm (reflC a))).sup ⟨0,0,0⟩).s+((bdC q (allC nm (reflC a))).sup ⟨0,0,0⟩).v*t.size+t.size,((bdC q (allC nm (reflC a))).sup ⟨0,0,0⟩).f+cntT t⟩:=rfl
 rw[er] at ea
 simp only[Bd.add,Nat.add_zero] at ea
 rw[ea] at e
 simp only[Bd.sup] at e
 have hct:=cnt_size t
 have hm:max (cntT a) 0*t.size≤100000000*200:=Nat.mul_le_mul (by omega) hts
 have wr:WfC (reflC a):=(wfC_iff _).2 ⟨⟨he0,by show 0≤4000;omega,.inr (.inl ⟨rfl,rfl,ha⟩)⟩,fun x hx=>by cases hx⟩
 have wa:WfC (allC nm (reflC a)):=(wfC_iff _).2 ⟨⟨hnm,by show 1≤4000;omega,.inr (.inr (.inr (.inr (.inr (.inr (.inl ⟨rfl,rfl⟩))))))⟩,fun x hx=>by obtain rfl:=List.mem_singleton.1 hx;exact wr⟩
 refine⟨(wfC_iff _).2 ⟨⟨he0,by show 1≤4000;omega,.inr (.inr (.inr (.inr (.inr (.inr (.inr (.inr ⟨rfl,rfl,ht⟩)))))))⟩,fun x hx=>by obtain rfl:=List.mem_singleton.1 hx;exact wa⟩,?_,?_,?_⟩
 ·rw[e];have:=big_bound;show max (a.size+1) 0+max (cntT a) 0*t.size+t.size≤_;omega
 ·rw[e];show max (fsz a) 0+cntT t≤_;omega
 ·show 1≤60;omega
theorem sb_two (m nm:ByteArray)(T:Ty):∀ A:Ty,noP (isVar m) A→sbT (isVar m) T (sbT (isVar nm) (.mk 1 m 0 []) A)=sbT (isVar nm) T A:=by
 intro A
 induction A using Ty.ind with
 | h A ih =>
  intro h
  obtain⟨h1,h2⟩:=(noT_iff _ _).1 h
  rw[sbT_eq (isVar nm),sbT_eq (isVar nm) T]
  split
  ·rw[sbT_mk,if_pos (by rw[isVar_mk];simp[(eqN_iff m m).2 rfl])]
  ·rw[sbT_mk,if_neg (by have e:isVar m (.mk A.kind A.name A.n [])=false:=h1;rw[e];decide),List.map_map]
   congr 1
   exact List.map_congr_left fun a ha=>ih a ha (h2 a ha)
theorem put_mark {t a:Ty}(nm:ByteArray)(ha:Std a)(ht:Std t)(hm:¬ fvT (marks 1) a):canonS (PutT (marks 1) t (PutT nm (varB (marks 1)) a))=canonS (PutT nm t a):=by
 have hv:Std (varB (marks 1)):=(ok_var (s:=marks 1) (by decide)).1
 have s1:=PutT_std nm (varB (marks 1)) a ha hv
 have e:dbT [] (PutT (marks 1) t (PutT nm (varB (marks 1)) a))=dbT [] (PutT nm t a):=by
  rw[db_PutT _ _ _ s1,db_PutT _ _ _ ha,db_PutT _ _ _ ha]
  exact sb_two (marks 1) nm (dbT [] t) (dbT [] a) (no_var _ a [] ha (.inl hm))
 unfold canonS
 rw[canon_congr (PutT_std _ _ _ s1 ht) (PutT_std _ _ _ ha ht) e]
end Go.Proofs.YtkihnodkhnahiaaGreatDoor.Tp

namespace Go.Proofs.YtkihnodkhnahiaaGreatDoor.Tp
open Go.RowKit
open Lx
def PtH (w:World)(res:Except Nat Ty)(e:Ending)(w':World):Prop :=
 ∃ (t:Ty) (a:Option Addr) (c er:Nat),e=.returned (.tuple #[.agg #[.int .i64 t.kind,.string t.name,.int .i64 t.n,.slice a t.args.length c],.int .i64 er])∧Hold w'.heap.size w'.heap.size t a c (w'.alloc (.cells #[.int .i64 t.kind,.string t.name,.int .i64 t.n,.slice a t.args.length c] 30)) ∧
  Below w.heap.size w (w'.alloc (.cells #[.int .i64 t.kind,.string t.name,.int .i64 t.n,.slice a t.args.length c] 30))∧(res=.ok t∧er=0∨res=.error er∧er≠0)
theorem pt_any (w:World)(s:ByteArray)(hs:s.size≤maxLen):Calls Tryz.prog 14 #[.string s] w (PtH w (parseT s.data.toList)):=by
 refine (pe_any w s hs).mono ?_
 rintro e w' ⟨t,a,c,er,rfl,hB,hk,hA,hres,hsz⟩
 exact⟨t,a,c,er,rfl,⟨hk,hA.mono fun b hb=>hb.2,hk.lt,by simp⟩,hB,hres⟩
def ScH (w:World)(s:ByteArray)(e:Ending)(w':World):Prop :=
 ∃ (a:Option Addr) (c p er:Nat) (ts:List Tok),e=.returned (.tuple #[.slice a ts.length c,.int .i64 p,.int .i64 er])∧Below w.heap.size w w'∧ToksAt w' (.slice a ts.length c) ts∧scanR s.data.toList=(ts,p,er)
theorem sc_any (w:World)(s:ByteArray)(hs:s.size≤maxLen):Calls Tryz.prog 15 #[.string s] w (ScH w s):=by
 refine (scan_any s w hs).mono ?_
 rintro e w' ⟨v,rfl,hb,ho⟩
 obtain⟨a,c,rfl⟩:=own_form ho
 exact⟨a,c,_,_,_,rfl,hb,toksAt_of_owns ho,rfl⟩
theorem name_len {s:ByteArray}{t:Tok}{p er:Nat}(h:scanR s.data.toList=([t],p,er))(hk:t.kind=1)(ht:t.text=s.data.toList):s.size≤64:=by
 have hT:TokK t:=tokK t (scanR_all s.data.toList t (by rw[h];simp))
 have:=(bytes_nm (tok_var hT hk).1).1
 rw[ht] at this
 exact this
theorem pt_small {s:ByteArray}{t:Ty}(h:parseT s.data.toList=.ok t)(hs:s.size≤100):Small t∧Ok t∧t.size≤200:=by
 obtain⟨m1,m2,m3,m4⟩:=parse_made h
 have e:=size_list s
 have hf:(freeT t).length≤cntT t:=fsz_cnt t
 have hc:=cnt_size t
 have:=big_bound
 exact⟨⟨mk_good t m1,by omega,by omega⟩,mk_ok m1,by omega⟩
theorem parseC_half {s:List UInt8}{c:Co}(h:parseC s=.ok c)(hs:s.length≤300)(hg:grC c≤2000):Half 120 c:=by
 obtain⟨r,hr,_,hd⟩:=parseC_some h
 have hl:=scanR_length s
 have hl2:=scanR_le s
 have ht:∀ t∈(scanR s).1,TokK t:=fun t ht=>tokK t (scanR_all s t ht)
 have hR:=(madeC 120 (by omega) _).1 _ _ _ ht hl hr
 obtain⟨h1,h2,h3⟩:=calm_read hR (m:=300) (by omega) hg
 exact⟨hR.1,by omega,by omega,by omega,by have:=binds_deep c;omega⟩
theorem gOf_mk {x:Ln}{g:Giv}(h:gOf x=some g):Mk g.l∧Mk g.r:=by
 unfold gOf at h
 split at h
 ·next t u ht hu =>
  split at h
  ·injection h with h;subst h;exact⟨(parse_made ht).1,(parse_made hu).1⟩
  ·cases h
 ·cases h
theorem allG_mk:∀ {xs:List Ln} {gs:List Giv},allG xs=some gs→∀ y∈gs,Mk y.l∧Mk y.r
 | [],gs,h=>by injection h with h;subst h;intro x hx;cases hx
 | y :: xs,gs,h=>by
  rw[allG] at h
  cases hy:gOf y with
  | none=>rw[hy] at h;cases h
  | some g =>
   rw[hy] at h
   cases hx:allG xs with
   | none=>rw[hx] at h;cases h
   | some g2 =>
    rw[hx] at h
    injection h with h
    subst h
    intro z hz
    rcases List.mem_cons.1 hz with rfl|hz
    ·exact gOf_mk hy
    ·exact allG_mk hx z hz
theorem mark_free {ls:List Ln}{g:List Giv}{s:List UInt8}{c:Co}{p:Ty × Ty}(hg:readG ls=some g)(hp:parseC s=.ok c)(ht:Tame 120 c)(h:saysC g c=some p):¬ fvT (marks 1) p.1:=fun hf=>by
 rcases says_free 120 (marks 1) c.deep g c p (readG_ok hg) ht.w ht.s ht.b h (.inl hf) with h1|⟨y,hy,h1⟩
 ·exact mark_no 0 (fvC_word _ c (parseC_wf hp).2.2 h1)
 ·unfold readG at hg
  split at hg
  ·cases hg
  ·have hm:=allG_mk hg y hy
   rcases h1 with h1|h1
   ·exact mark_no 0 (fv_word _ y.l hm.1.2 h1)
   ·exact mark_no 0 (fv_word _ y.r hm.2.2 h1)
structure SaidOk (a:Ty):Prop where
 o:Ok a
 v:cntT a≤100000000
 s:a.size≤22000000000
 f:fsz a≤1000000
theorem said_ok {g:List Giv}{c:Co}{p:Ty × Ty}(hgo:GivOk 120 g)(ht:Half 120 c)(h:saysC g c=some p):SaidOk p.1:=by
 obtain⟨⟨h1,h2,h3,h4⟩,_⟩:=says_fit 120 c.deep g c p hgo ht.w ht.tame.s ht.tame.b h
 exact⟨h1,Nat.le_trans h2 ht.v,Nat.le_trans h3 ht.s,Nat.le_trans h4 ht.f⟩
theorem put_small {t a:Ty}(nm:ByteArray)(ha:SaidOk a)(ht:Ok t)(hts:t.size≤200):Small (PutT nm t a):=by
 have h1:=PutT_size2 nm t a ha.o.1 ht.1
 have h2:=fsz_put nm t a ha.o.1 ht.1
 have hm:cntT a*t.size≤100000000*200:=Nat.mul_le_mul ha.v hts
 have hc:=cnt_size t
 have hf:=fsz_cnt t
 have h3:=ha.s
 have h4:=ha.f
 have:=big_bound
 refine⟨PutT_good nm t a ha.o.2 ht.2 (by omega) (by omega),by omega,?_⟩
 show fsz (PutT nm t a)≤_
 omega
section
variable {W : World} {c : Co} {a : Option Addr} {m : Nat} {ka : Option Addr} {km : Nat} {k : Nat}
theorem kid1v (h:CoAt (Lt W.heap.size) W c a m ka km)(hk:W.heap.size=k){x0 x2 x3 x5:Int}{x1 x4:ByteArray}{x6 x7:Value}(e0:c.kind=x0)(e1:c.name=x1)(e2:c.n=x2)(e3:c.t.kind=x3)(e4:c.t.name=x4)(e5:c.t.n=x5)(e6:.slice a c.t.args.length m=x6)(e7:.slice ka c.kids.length km=x7) :
  KidsAt (Lt (W.alloc (.cells #[.int .i64 x0,.string x1,.int .i64 x2,.int .i64 x3,.string x4,.int .i64 x5,x6,x7] 33)).heap.size) (W.alloc (.cells #[.int .i64 x0,.string x1,.int .i64 x2,.int .i64 x3,.string x4,.int .i64 x5,x6,x7] 33)) (.slice (some ⟨k,0,none⟩) 1 1) [c]:=by
 subst e0 e1 e2 e3 e4 e5 e6 e7
 exact kid1 h hk
end
end Go.Proofs.YtkihnodkhnahiaaGreatDoor.Tp

/- Texts laid together: CoSay1, CoSay6, CoSay, CoSays, CoSaysW. -/
import Derived.Test.YtkihnodkhnahiaaGreatDoorP43
import Derived.Test.YtkihnodkhnahiaaGreatDoorP44
import Derived.Test.YtkihnodkhnahiaaGreatDoorP45
import Derived.Test.YtkihnodkhnahiaaGreatDoorP46
import Derived.Test.YtkihnodkhnahiaaGreatDoorP47
import Derived.Test.YtkihnodkhnahiaaGreatDoorP48
import Derived.Defers
import Derived.Recover

namespace Go.Proofs.YtkihnodkhnahiaaGreatDoor.Tp
open Go.RowKit
set_option maxRecDepth 100000 in
set_option maxHeartbeats 3200000 in
theorem says_refl (g:List Giv)(d:Nat)(c:Co)(S:Nat→Prop)(a:Option Addr)(n:Nat)(ka:Option Addr)(kn:Nat)(gv:Value)(w:World)(hC:CoAt S w c a n ka kn)(hS:∀ b,S b→b<w.heap.size)(hk:c.kind=2) :
  Calls Tryz.prog 27 #[gv,cv c a n ka kn] w (PairPost S thrown w (saysF (d+1) g c)):=by
 have E:Hid (saysF (d+1) g c=some (c.t,c.t)):=Lib.hid (by rw[saysF,if_neg (by omega),if_pos hk])
 have q1:(c.kind==1)=false:=by rw[hk];rfl
 have q2:(c.kind==2)=true:=by rw[hk];rfl
 have h1:=(Below.refl w.heap.size w).alloc (Nat.le_refl _) (.cells #[.int .i64 c.kind,.string c.name,.int .i64 c.n,.int .i64 c.t.kind,.string c.t.name,.int .i64 c.t.n,.slice a c.t.args.length n,.slice ka c.kids.length kn] 33)
 have h2:=h1.alloc h1.size (.cells #[.int .i64 c.t.kind,.string c.t.name,.int .i64 c.t.n,.slice a c.t.args.length n] 30)
 have h3:=(h2.alloc h2.size (.cells #[.int .i64 c.t.kind,.string c.t.name,.int .i64 c.t.n,.slice a c.t.args.length n] 30)).drew
 have R:Hid (PairPost S thrown w (some (c.t,c.t)) (.returned (.tuple #[tv c.t a n,tv c.t a n])) ((((w.alloc (.cells #[.int .i64 c.kind,.string c.name,.int .i64 c.n,.int .i64 c.t.kind,.string c.t.name,.int .i64 c.t.n,.slice a c.t.args.length n,.slice ka c.kids.length kn] 33)).alloc (.cells #[.int .i64 c.t.kind,.string c.t.name,.int .i64 c.t.n,.slice a c.t.args.length n] 30)).alloc (.cells #[.int .i64 c.t.kind,.string c.t.name,.int .i64 c.t.n,.slice a c.t.args.length n] 30)).drew)):=Lib.hid ⟨h3,_,_,_,_,rfl,(hC.t.keep fun b hb=>h3.block b (hS b hb)).mono fun b hb=>.inl hb,(hC.t.keep fun b hb=>h3.block b (hS b hb)).mono fun b hb=>.inl hb⟩
 clear hC hS hk h1 h2 h3
 unfold cv
 go_enter Tryz.func27,Tryz.ntmps27
 go_wp2
 go_region
 go_wp2
 refine bodyPost_ret (v:=.tuple #[tv c.t a n,tv c.t a n]) (by simp[results,Tryz.results27,go_sem,tv]) rfl ?_
 rw[E.out]
 exact R.out
set_option maxRecDepth 100000 in
set_option maxHeartbeats 6400000 in
theorem says_fun (q:Nat)(g:List Giv)(d:Nat)(ih:SaysSaid q g d)(c:Co)(S:Nat→Prop)(a:Option Addr)(n:Nat)(ka:Option Addr)(kn:Nat)(gv:Value)(w:World)(hgo:GivOk q g)(hG:GivAt S w gv g)(hC:CoAt S w c a n ka kn)(hS:∀ b,S b→b<w.heap.size)(hw:WfC c)(hd:c.deep≤d+1)
  (hb:(bdC q c).s≤50000000000) (hf:(bdC q c).f≤4000000) (hm:bindsC c≤60) (hT:Tab w) (hk:c.kind=6):Calls Tryz.prog 27 #[gv,cv c a n ka kn] w (PairPost S thrown w (saysF (d+1) g c)):=by
 have E:Hid (saysF (d+1) g c=match saysL (saysF d g) c.kids with
   | none=>none
   | some p=>ruleS c p.1 p.2):=Lib.hid (by rw[saysF,if_neg (by omega),if_neg (by omega),show openC c=c from if_neg (by omega)];rfl)
 have q1:(c.kind==1)=false:=by rw[hk];rfl
 have q2:(c.kind==2)=false:=by rw[hk];rfl
 have q7:(c.kind==7)=false:=by rw[hk];rfl
 have q3:(c.kind==3)=false:=by rw[hk];rfl
 have q4:(c.kind==4)=false:=by rw[hk];rfl
 have q5:(c.kind==5)=false:=by rw[hk];rfl
 have q6:(c.kind==6)=true:=by rw[hk];rfl
 have hM:=SayM.new w c a n ka kn
 have hbk:=open_keeps q hw hb hm
 have hM0:=bd_open hw hb hm (by omega) (by omega)
 have ho:openC c=c:=if_neg (by omega)
 rw[ho] at hM0 hbk
 have hKids:∀ x∈c.kids,WfC x∧x.deep≤d∧(bdC q x).s≤50000000000∧(bdC q x).f≤4000000∧bindsC x≤60:=fun x hx =>
  ⟨hw.kids x hx,by have:=(hbk.2.2.2.2.2.2.1 x hx).2.2;omega,Nat.le_trans ((bdM_kid hx).trans hM0).2.1 hb,Nat.le_trans ((bdM_kid hx).trans hM0).2.2 hf,(hbk.2.2.2.2.2.2.1 x hx).2.1⟩
 have hFit:∀ p,saysL (saysF d g) c.kids=some p→FitL q c.kids p.1∧FitL q c.kids p.2:=fun p hp=>saysL_fit (fun x hx r hr=>says_fit q d g x r hgo (hKids x hx).1 (hKids x hx).2.2.1 (hKids x hx).2.2.2.2 hr) hp
 have KC:=Lib.hid (kids_any (saysF d g) gv c S a n ka kn (((w.alloc (.cells #[.int .i64 c.kind,.string c.name,.int .i64 c.n,.int .i64 c.t.kind,.string c.t.name,.int .i64 c.t.n,.slice a c.t.args.length n,.slice ka c.kids.length kn] 33)).alloc (.cells #[.int .i64 0,.string ⟨#[]⟩,.int .i64 0,.slice none 0 0] 30)).alloc (.cells #[.int .i64 0,.string ⟨#[]⟩,.int .i64 0,.slice none 0 0] 30)) (hC.keep fun b hb=>hM.b.block b (hS b hb)) (fun b hb=>Nat.lt_of_lt_of_le (hS b hb) hM.b.size) hw.k.2.1 (fun x hx a n ka kn W hB hCx=>by
  have hBw:=hM.b.trans (hB.mono hM.b.size)
  have hk:=hKids x hx
  exact ih x S a n ka kn gv W (hG.keep fun b hb=>hBw.block b (hS b hb)) hCx (fun b hb=>Nat.lt_of_lt_of_le (hS b hb) hBw.size) hk.1 hk.2.1 hk.2.2.1 hk.2.2.2.1 hk.2.2.2.2 (tab_below hT hBw)))
 have HS:=Lib.hid hS
 have HM:=Lib.hid hM
 have HF:=Lib.hid hFit
 have HM0:=Lib.hid hM0
 have HW:=Lib.hid hw
 have HBS:=Lib.hid hb
 have HBF:=Lib.hid hf
 have HT:=Lib.hid hT
 have HK:=Lib.hid hk
 clear ih hgo hG hC hS hw hd hb hf hm hT hk hM hbk hM0 ho hKids hFit
 unfold cv at *
 go_enter Tryz.func27,Tryz.ntmps27
 go_wp2_with fail
 refine KC.out.mono ?_
 rintro e w1 ⟨hb1,hres⟩
 have hM1:=HM.out.low hb1
 have hsz:w.heap.size+3≤w1.heap.size:=by have:=hb1.size;simpa using this
 cases hsy:saysL (saysF d g) c.kids with
 | none =>
  rw[hsy] at hres
  subst hres
  have E2:=E.out
  rw[hsy] at E2
  have E3:Hid (saysF (d+1) g c=none):=Lib.hid E2
  have M1:=Lib.hid hM1
  clear hM1 hb1 hsy E2 E hsz
  go_wp2
  refine⟨rfl,?_⟩
  rw[E3.out]
  exact⟨M1.out.b,rfl⟩
 | some p =>
  obtain⟨xs,ys⟩:=p
  rw[hsy] at hres
  obtain⟨xa,xc,ya,yc,rfl,hx,hy⟩:=hres
  have E2:saysF (d+1) g c=ruleS c xs ys:=by have:=E.out;rw[hsy] at this;exact this
  have hlen:xs.length=c.kids.length∧ys.length=c.kids.length:=saysL_len hsy
  have FF:=Lib.hid (HF.out _ hsy)
  have up:∀ b,New S (((w.alloc (.cells #[.int .i64 c.kind,.string c.name,.int .i64 c.n,.int .i64 c.t.kind,.string c.t.name,.int .i64 c.t.n,.slice a c.t.args.length n,.slice ka c.kids.length kn] 33)).alloc (.cells #[.int .i64 0,.string ⟨#[]⟩,.int .i64 0,.slice none 0 0] 30)).alloc (.cells #[.int .i64 0,.string ⟨#[]⟩,.int .i64 0,.slice none 0 0] 30)) w1 b→(S b∨w.heap.size+3≤b∧b<w1.heap.size):=fun b hb=>hb.imp id fun h=>⟨by have:=h.1;simpa using this,h.2⟩
  have AX:=Lib.hid (hx.mono up)
  have AY:=Lib.hid (hy.mono up)
  have M1:=Lib.hid hM1
  have TT:=Lib.hid (tab_below HT.out hM1.b)
  clear hx hy up hb1 hsy E
  have E3:Hid (saysF (d+1) g c=some (.mk 4 e0 0 xs,.mk 4 e0 0 ys)):=Lib.hid (by rw[E2,ruleS];simp[HK.out])
  have l0:=hM1.l.c0
  have l1:=hM1.l.c1
  have l2:=hM1.l.c2
  have l3:=hM1.l.c3
  have u0:=hM1.l.fr 0
  have u1:=hM1.l.fr 1
  have u2:=hM1.l.fr 2
  have u3:=hM1.l.fr 3
  have r0:=hM1.r.c0
  have r1:=hM1.r.c1
  have r2:=hM1.r.c2
  have r3:=hM1.r.c3
  have v0:=hM1.r.fr 0
  have v1:=hM1.r.fr 1
  have v2:=hM1.r.fr 2
  have v3:=hM1.r.fr 3
  have m0:=hM1.k.c0
  have m1:=hM1.k.c1
  have m2:=hM1.k.c2
  have m3:=hM1.k.c3
  have m4:=hM1.k.c4
  have m5:=hM1.k.c5
  have m6:=hM1.k.c6
  clear hM1 hlen E2 hsz
  go_wp2
  obtain⟨LL,RR,PP⟩:=says_end_nodraw (x:=Ty.mk 4 e0 0 xs) (y:=Ty.mk 4 e0 0 ys) (xa:=xa) (xc:=xc) (ya:=ya) (yc:=yc) M1.out HS.out AX.out AY.out
  simp only[Ty.kind,Ty.name,Ty.n,Ty.args,e0] at LL RR
  refine bodyPost_ret (v:=.tuple #[tv (Ty.mk 4 e0 0 xs) xa xc,tv (Ty.mk 4 e0 0 ys) ya yc]) (by simp[results,Tryz.results27,go_sem,tv,Ty.kind,Ty.name,Ty.n,Ty.args,e0,LL.c0,LL.c1,LL.c2,LL.c3,RR.c0,RR.c1,RR.c2,RR.c3]) rfl ?_
  rw[E3.out]
  exact PP
theorem says_any (q:Nat)(g:List Giv)(hgo:GivOk q g):∀ d,SaysSaid q g d
 | 0=>fun c _ _ _ _ _ _ _ _ _ _ _ hd=>by cases c;rw[Co.deep] at hd;omega
 | d+1=>fun c S a n ka kn gv w hG hC hS hw hd hb hf hm hT=>by
  have ih:=says_any q g hgo d
  rcases hw.k.2.2 with h|h|h|h|h|h|h|h|h
  ·exact says_var g d c S a n ka kn gv w hG hS h.1
  ·exact says_refl g d c S a n ka kn gv w hC hS h.1
  ·exact says_sym q g d ih c S a n ka kn gv w hgo hG hC hS hw hd hb hf hm hT h.1
  ·exact says_trans q g d ih c S a n ka kn gv w hgo hG hC hS hw hd hb hf hm hT h.1
  ·exact says_con q g d ih c S a n ka kn gv w hgo hG hC hS hw hd hb hf hm hT h
  ·exact says_fun q g d ih c S a n ka kn gv w hgo hG hC hS hw hd hb hf hm hT h.1
  ·exact says_all q g d ih c S a n ka kn gv w hgo hG hC hS hw hd hb hf hm hT h.1
  ·exact says_nth q g d ih c S a n ka kn gv w hgo hG hC hS hw hd hb hf hm hT h.1
  ·exact says_inst q g d ih c S a n ka kn gv w hgo hG hC hS hw hd hb hf hm hT h.1
abbrev z4 (W:World) (b:Nat):Prop:=B4 W b (.int .i64 0) (.string ⟨#[]⟩) (.int .i64 0) (.slice none 0 0)
abbrev e1 (W:World) (b:Nat) (v:Int):Prop:=W.heap[b]? = some (.cells #[.int .i64 v] 34 (0,0))
theorem e1_cell {W:World}{b:Nat}{v:Int}(h:e1 W b v):W.cell? ⟨b,0,none⟩=some (.int .i64 v):=by unfold e1 at h;simp[World.cell?,h]
theorem e1_fr {W:World}{b:Nat}{v:Int}(h:e1 W b v):W.frozen? ⟨b,0,none⟩=false:=by unfold e1 at h;simp[World.frozen?,h]
def CaughtAt (w w':World)(p q r:Nat):Prop:=z4 w' p∧z4 w' q∧e1 w' r 50∧∀ m,m≤p→m≤q→m≤r→m≤w.heap.size→Below m w w'
theorem caught_at {w:World}{p q r:Nat}(hp:z4 w p)(hq:z4 w q)(hr:e1 w r 0)(hpq:p≠q)(hpr:p≠r)(hqr:q≠r) :
  CaughtAt w ((st4 (st4 (w.alloc (.cells #[] 79)) p (.int .i64 0) (.string ⟨#[]⟩) (.int .i64 0) (.slice none 0 0)) q (.int .i64 0) (.string ⟨#[]⟩) (.int .i64 0) (.slice none 0 0)).setCell ⟨r,0,none⟩ (.int .i64 50)) p q r:=by
 have hB:=(Below.refl w.heap.size w).alloc (Nat.le_refl _) (.cells #[] 79)
 have hP:=hp.low hB
 have hQ:=hq.low hB
 have hR:e1 (w.alloc (.cells #[] 79)) r 0:=(hB.block r (by have:=Array.getElem?_eq_some_iff.1 hr;exact this.1)).trans hr
 generalize w.alloc (.cells #[] 79)=W at *
 have P1:z4 (st4 W p (.int .i64 0) (.string ⟨#[]⟩) (.int .i64 0) (.slice none 0 0)) p:=hP.set4 _ _ _ _
 have Q1:z4 (st4 W p (.int .i64 0) (.string ⟨#[]⟩) (.int .i64 0) (.slice none 0 0)) q:=(st4_off W (Ne.symm hpq) _ _ _ _).trans hQ
 have R1:e1 (st4 W p (.int .i64 0) (.string ⟨#[]⟩) (.int .i64 0) (.slice none 0 0)) r 0:=(st4_off W (Ne.symm hpr) _ _ _ _).trans hR
 have B1:∀ m,m≤p→m≤w.heap.size→Below m w (st4 W p (.int .i64 0) (.string ⟨#[]⟩) (.int .i64 0) (.slice none 0 0)):=fun m h h'=>st4_below (hB.mono h') h _ _ _ _
 generalize st4 W p (.int .i64 0) (.string ⟨#[]⟩) (.int .i64 0) (.slice none 0 0)=W1 at *
 have P2:z4 (st4 W1 q (.int .i64 0) (.string ⟨#[]⟩) (.int .i64 0) (.slice none 0 0)) p:=(st4_off W1 hpq _ _ _ _).trans P1
 have Q2:z4 (st4 W1 q (.int .i64 0) (.string ⟨#[]⟩) (.int .i64 0) (.slice none 0 0)) q:=Q1.set4 _ _ _ _
 have R2:e1 (st4 W1 q (.int .i64 0) (.string ⟨#[]⟩) (.int .i64 0) (.slice none 0 0)) r 0:=(st4_off W1 (Ne.symm hqr) _ _ _ _).trans R1
 have B2:∀ m,m≤p→m≤q→m≤w.heap.size→Below m w (st4 W1 q (.int .i64 0) (.string ⟨#[]⟩) (.int .i64 0) (.slice none 0 0)):=fun m h h1 h'=>st4_below (B1 m h h') h1 _ _ _ _
 generalize st4 W1 q (.int .i64 0) (.string ⟨#[]⟩) (.int .i64 0) (.slice none 0 0)=W2 at *
 refine⟨(Below.heap_setCell _ _ _ _ hpr).trans P2,(Below.heap_setCell _ _ _ _ hqr).trans Q2,?_,fun m h1 h2 h3 h4=>(B2 m h1 h2 h4).setCell (p:=⟨r,0,none⟩) h3 _⟩
 unfold e1 at *
 rw[set_row0 R2]
 rfl
set_option maxRecDepth 100000 in
theorem catch_wrong (p q r:Nat)(w:World)(hp:z4 w p)(hq:z4 w q)(hpq:p≠q)(hpr:p≠r)(hqr:q≠r)(hr:e1 w r 0) :
  CallsD Tryz.prog 26 #[.pointer (some ⟨p,0,none⟩),.pointer (some ⟨q,0,none⟩),.pointer (some ⟨r,0,none⟩)] (.panicking thrown) w fun e u' w' =>
   e=.returned (.tuple #[])∧u'=.panicking [{ v:=.iface 79 (.agg #[]),recovered:=true }]∧CaughtAt w w' p q r:=by
 refine callsD_of_wpS Tryz.func26 rfl fun c₀ cs hu=>?_
 have HC:=Lib.hid (caught_at hp hq hr hpq hpr hqr)
 apply wpS_seq
 apply wpS_region
 simp[wpOpsS,go_sem,recoverD,hu,thrown,Tryz.ntmps26,Exit.thenS]
 refine wpS_of_wp ?_
 have hta:∀ w:World,(Instr.typeAssert (.iface 79 (.agg #[])) 20 79 true).run Tryz.prog w=.ok (.tuple #[.agg #[],.bool true]) w:=fun _=>by kernel_rfl
 clear hu
 have hB:=(Below.refl w.heap.size w).alloc (Nat.le_refl _) (.cells #[] 79)
 have hP:=hp.low hB
 have hQ:=hq.low hB
 have hR:e1 (w.alloc (.cells #[] 79)) r 0:=(hB.block r (by have:=Array.getElem?_eq_some_iff.1 hr;exact this.1)).trans hr
 have p0:=hP.c0
 have p1:=hP.c1
 have p2:=hP.c2
 have p3:=hP.c3
 have q0:=hQ.c0
 have q1:=hQ.c1
 have q2:=hQ.c2
 have q3:=hQ.c3
 have f0:=hP.fr 0
 have f1:=hP.fr 1
 have f2:=hP.fr 2
 have f3:=hP.fr 3
 have g0:=hQ.fr 0
 have g1:=hQ.fr 1
 have g2:=hQ.fr 2
 have g3:=hQ.fr 3
 have r0:=e1_cell hR
 have r1:=e1_fr hR
 have h1:=Ne.symm hpq
 have h2:=Ne.symm hpr
 have h3:=Ne.symm hqr
 clear hp hq hr hB hP hQ hR
 go_wp2
 simp[bodyPostS,results,Tryz.results26]
 exact HC.out
theorem catch_idle (p q r:Nat)(w:World) :
  CallsD Tryz.prog 26 #[.pointer (some ⟨p,0,none⟩),.pointer (some ⟨q,0,none⟩),.pointer (some ⟨r,0,none⟩)] .returning w fun e u' w' =>
   e=.returned (.tuple #[])∧u'=.returning∧w'=w:=by
 refine callsD_of_wpS Tryz.func26 rfl fun c₀ cs hu=>?_
 apply wpS_seq
 apply wpS_region
 simp[wpOpsS,go_sem,recoverD,hu,Tryz.ntmps26,Exit.thenS]
 refine wpS_of_wp ?_
 go_wp2
 cases c₀
 simp_all [bodyPostS,results,Tryz.results26]
structure SaW (w W:World):Prop where
 l:z4 W (w.heap.size+1)
 r:z4 W (w.heap.size+1+1)
 e:e1 W (w.heap.size+1+1+1) 0
 b:Below w.heap.size w W
theorem SaW.new (w:World)(c:Co)(a:Option Addr)(n:Nat)(ka:Option Addr)(kn:Nat):SaW w ((((w.alloc (.cells #[.int .i64 c.kind,.string c.name,.int .i64 c.n,.int .i64 c.t.kind,.string c.t.name,.int .i64 c.t.n,.slice a c.t.args.length n,.slice ka c.kids.length kn] 33)).alloc (.cells #[.int .i64 0,.string ⟨#[]⟩,.int .i64 0,.slice none 0 0] 30)).alloc (.cells #[.int .i64 0,.string ⟨#[]⟩,.int .i64 0,.slice none 0 0] 30)).alloc (.cells #[.int .i64 0] 34)):=by
 have h1:=(Below.refl w.heap.size w).alloc (Nat.le_refl _) (.cells #[.int .i64 c.kind,.string c.name,.int .i64 c.n,.int .i64 c.t.kind,.string c.t.name,.int .i64 c.t.n,.slice a c.t.args.length n,.slice ka c.kids.length kn] 33)
 have h2:=h1.alloc h1.size (.cells #[.int .i64 0,.string ⟨#[]⟩,.int .i64 0,.slice none 0 0] 30)
 have h3:=h2.alloc h2.size (.cells #[.int .i64 0,.string ⟨#[]⟩,.int .i64 0,.slice none 0 0] 30)
 have h4:=h3.alloc h3.size (.cells #[.int .i64 0] 34)
 have a4:=(Below.refl (((w.alloc (.cells #[.int .i64 c.kind,.string c.name,.int .i64 c.n,.int .i64 c.t.kind,.string c.t.name,.int .i64 c.t.n,.slice a c.t.args.length n,.slice ka c.kids.length kn] 33)).alloc (.cells #[.int .i64 0,.string ⟨#[]⟩,.int .i64 0,.slice none 0 0] 30)).alloc (.cells #[.int .i64 0,.string ⟨#[]⟩,.int .i64 0,.slice none 0 0] 30)).heap.size (((w.alloc (.cells #[.int .i64 c.kind,.string c.name,.int .i64 c.n,.int .i64 c.t.kind,.string c.t.name,.int .i64 c.t.n,.slice a c.t.args.length n,.slice ka c.kids.length kn] 33)).alloc (.cells #[.int .i64 0,.string ⟨#[]⟩,.int .i64 0,.slice none 0 0] 30)).alloc (.cells #[.int .i64 0,.string ⟨#[]⟩,.int .i64 0,.slice none 0 0] 30))).alloc (Nat.le_refl _) (.cells #[.int .i64 0] 34)
 have a3:=(Below.refl ((w.alloc (.cells #[.int .i64 c.kind,.string c.name,.int .i64 c.n,.int .i64 c.t.kind,.string c.t.name,.int .i64 c.t.n,.slice a c.t.args.length n,.slice ka c.kids.length kn] 33)).alloc (.cells #[.int .i64 0,.string ⟨#[]⟩,.int .i64 0,.slice none 0 0] 30)).heap.size ((w.alloc (.cells #[.int .i64 c.kind,.string c.name,.int .i64 c.n,.int .i64 c.t.kind,.string c.t.name,.int .i64 c.t.n,.slice a c.t.args.length n,.slice ka c.kids.length kn] 33)).alloc (.cells #[.int .i64 0,.string ⟨#[]⟩,.int .i64 0,.slice none 0 0] 30))).alloc (Nat.le_refl _) (.cells #[.int .i64 0,.string ⟨#[]⟩,.int .i64 0,.slice none 0 0] 30)
 refine⟨?_,?_,?_,h4⟩
 ·exact B4.low (B4.low (alloc_new (by simp)) a3) a4
 ·exact B4.low (alloc_new (by simp)) a4
 ·have:=heap_alloc_new (((w.alloc (.cells #[.int .i64 c.kind,.string c.name,.int .i64 c.n,.int .i64 c.t.kind,.string c.t.name,.int .i64 c.t.n,.slice a c.t.args.length n,.slice ka c.kids.length kn] 33)).alloc (.cells #[.int .i64 0,.string ⟨#[]⟩,.int .i64 0,.slice none 0 0] 30)).alloc (.cells #[.int .i64 0,.string ⟨#[]⟩,.int .i64 0,.slice none 0 0] 30)) (.cells #[.int .i64 0] 34)
  simpa [e1] using this
theorem SaW.low {w W W':World}(h:SaW w W)(hb:Below W.heap.size W W'):SaW w W':=⟨h.l.low hb,h.r.low hb,(hb.block _ (by have:=Array.getElem?_eq_some_iff.1 h.e;exact this.1)).trans h.e,h.b.trans (hb.mono h.b.size)⟩
def SaidPost (S:Nat→Prop)(w:World)(r:Option (Ty × Ty))(e:Ending)(w':World):Prop:=Below w.heap.size w w'∧match r with
 | none=>e=.returned (.tuple #[tv tz none 0,tv tz none 0,.int .i64 50])
 | some p=>∃ a c b d,e=.returned (.tuple #[tv p.1 a c,tv p.2 b d,.int .i64 0])∧ArgsAt (New S w w') w' (.slice a p.1.args.length c) p.1.args∧ArgsAt (New S w w') w' (.slice b p.2.args.length d) p.2.args
theorem st2_at {w1:World}{p q r:Nat}(x0 x1 x2 x3 y0 y1 y2 y3:Value)(a0 a1 a2 a3 b0 b1 b2 b3:Value)(hpq:p≠q)(hpr:p≠r)(hqr:q≠r)(hp:B4 w1 p a0 a1 a2 a3)(hq:B4 w1 q b0 b1 b2 b3)(hr:e1 w1 r 0) :
  B4 (st4 (st4 w1 p x0 x1 x2 x3) q y0 y1 y2 y3) p x0 x1 x2 x3∧B4 (st4 (st4 w1 p x0 x1 x2 x3) q y0 y1 y2 y3) q y0 y1 y2 y3∧e1 (st4 (st4 w1 p x0 x1 x2 x3) q y0 y1 y2 y3) r 0 ∧
  (∀ b,b≠p→b≠q→(st4 (st4 w1 p x0 x1 x2 x3) q y0 y1 y2 y3).heap[b]? = w1.heap[b]?)∧(st4 (st4 w1 p x0 x1 x2 x3) q y0 y1 y2 y3).heap.size=w1.heap.size∧∀ m (w:World),m≤p→m≤q→Below m w w1→Below m w (st4 (st4 w1 p x0 x1 x2 x3) q y0 y1 y2 y3):=by
 refine⟨(st4_off _ hpq y0 y1 y2 y3).trans (hp.set4 x0 x1 x2 x3),B4.set4 (w:=st4 w1 p x0 x1 x2 x3) (u0:=b0) (u1:=b1) (u2:=b2) (u3:=b3) ((st4_off _ (Ne.symm hpq) x0 x1 x2 x3).trans hq) y0 y1 y2 y3,((st4_off _ (Ne.symm hqr) y0 y1 y2 y3).trans (st4_off _ (Ne.symm hpr) x0 x1 x2 x3)).trans hr,fun b h1 h2=>(st4_off _ h2 y0 y1 y2 y3).trans (st4_off _ h1 x0 x1 x2 x3),by simp,fun m w h1 h2 hb=>st4_below (st4_below hb h1 x0 x1 x2 x3) h2 y0 y1 y2 y3⟩
theorem said_end {S:Nat→Prop}{w w1:World}{x y:Ty}{xa ya:Option Addr}{xc yc:Nat}(M:SaW w w1)(hS:∀ b,S b→b<w.heap.size)(hx:ArgsAt (fun b=>S b∨w.heap.size+4≤b∧b<w1.heap.size) w1 (.slice xa x.args.length xc) x.args)(hy:ArgsAt (fun b=>S b∨w.heap.size+4≤b∧b<w1.heap.size) w1 (.slice ya y.args.length yc) y.args) :
  B4 (((st4 (st4 (st4 (st4 w1 (w.heap.size+1) (.int .i64 x.kind) (.string x.name) (.int .i64 x.n) (.slice xa x.args.length xc)) (w.heap.size+1+1) (.int .i64 y.kind) (.string y.name) (.int .i64 y.n) (.slice ya y.args.length yc)) (w.heap.size+1) (.int .i64 x.kind) (.string x.name) (.int .i64 x.n) (.slice xa x.args.length xc)) (w.heap.size+1+1) (.int .i64 y.kind) (.string y.name) (.int .i64 y.n) (.slice ya y.args.length yc)).setCell ⟨w.heap.size+1+1+1,0,none⟩ (.int .i64 0)).drew) (w.heap.size+1) (.int .i64 x.kind) (.string x.name) (.int .i64 x.n) (.slice xa x.args.length xc)∧B4 (((st4 (st4 (st4 (st4 w1 (w.heap.size+1) (.int .i64 x.kind) (.string x.name) (.int .i64 x.n) (.slice xa x.args.length xc)) (w.heap.size+1+1) (.int .i64 y.kind) (.string y.name) (.int .i64 y.n) (.slice ya y.args.length yc)) (w.heap.size+1) (.int .i64 x.kind) (.string x.name) (.int .i64 x.n) (.slice xa x.args.length xc)) (w.heap.size+1+1) (.int .i64 y.kind) (.string y.name) (.int .i64 y.n) (.slice ya y.args.length yc)).setCell ⟨w.heap.size+1+1+1,0,none⟩ (.int .i64 0)).drew) (w.heap.size+1+1) (.int .i64 y.kind) (.string y.name) (.int .i64 y.n) (.slice ya y.args.length yc)∧e1 (((st4 (st4 (st4 (st4 w1 (w.heap.size+1) (.int .i64 x.kind) (.string x.name) (.int .i64 x.n) (.slice xa x.args.length xc)) (w.heap.size+1+1) (.int .i64 y.kind) (.string y.name) (.int .i64 y.n) (.slice ya y.args.length yc)) (w.heap.size+1) (.int .i64 x.kind) (.string x.name) (.int .i64 x.n) (.slice xa x.args.length xc)) (w.heap.size+1+1) (.int .i64 y.kind) (.string y.name) (.int .i64 y.n) (.slice ya y.args.length yc)).setCell ⟨w.heap.size+1+1+1,0,none⟩ (.int .i64 0)).drew) (w.heap.size+1+1+1) 0 ∧
  SaidPost S w (some (x,y)) (.returned (.tuple #[tv x xa xc,tv y ya yc,.int .i64 0])) (((st4 (st4 (st4 (st4 w1 (w.heap.size+1) (.int .i64 x.kind) (.string x.name) (.int .i64 x.n) (.slice xa x.args.length xc)) (w.heap.size+1+1) (.int .i64 y.kind) (.string y.name) (.int .i64 y.n) (.slice ya y.args.length yc)) (w.heap.size+1) (.int .i64 x.kind) (.string x.name) (.int .i64 x.n) (.slice xa x.args.length xc)) (w.heap.size+1+1) (.int .i64 y.kind) (.string y.name) (.int .i64 y.n) (.slice ya y.args.length yc)).setCell ⟨w.heap.size+1+1+1,0,none⟩ (.int .i64 0)).drew):=by
 obtain⟨P1,Q1,R1,O1,Z1,B1⟩:=st2_at (p:=w.heap.size+1) (q:=w.heap.size+1+1) (r:=w.heap.size+1+1+1) (.int .i64 x.kind) (.string x.name) (.int .i64 x.n) (.slice xa x.args.length xc) (.int .i64 y.kind) (.string y.name) (.int .i64 y.n) (.slice ya y.args.length yc) _ _ _ _ _ _ _ _ (by omega) (by omega) (by omega) M.l M.r M.e
 have B1:=B1 w.heap.size w (by omega) (by omega) M.b
 generalize st4 (st4 w1 (w.heap.size+1) (.int .i64 x.kind) (.string x.name) (.int .i64 x.n) (.slice xa x.args.length xc)) (w.heap.size+1+1) (.int .i64 y.kind) (.string y.name) (.int .i64 y.n) (.slice ya y.args.length yc)=W1 at *
 obtain⟨P2,Q2,R2,O2,Z2,B2⟩:=st2_at (p:=w.heap.size+1) (q:=w.heap.size+1+1) (r:=w.heap.size+1+1+1) (.int .i64 x.kind) (.string x.name) (.int .i64 x.n) (.slice xa x.args.length xc) (.int .i64 y.kind) (.string y.name) (.int .i64 y.n) (.slice ya y.args.length yc) _ _ _ _ _ _ _ _ (by omega) (by omega) (by omega) P1 Q1 R1
 have B2:=B2 w.heap.size w (by omega) (by omega) B1
 generalize st4 (st4 W1 (w.heap.size+1) (.int .i64 x.kind) (.string x.name) (.int .i64 x.n) (.slice xa x.args.length xc)) (w.heap.size+1+1) (.int .i64 y.kind) (.string y.name) (.int .i64 y.n) (.slice ya y.args.length yc)=W2 at *
 have off:∀ b,b≠w.heap.size+1+1+1→(W2.setCell ⟨w.heap.size+1+1+1,0,none⟩ (.int .i64 0)).drew.heap[b]? = W2.heap[b]? := fun b h=>(drew_at _ _).trans (Below.heap_setCell _ _ _ _ h)
 have hE:e1 ((W2.setCell ⟨w.heap.size+1+1+1,0,none⟩ (.int .i64 0)).drew) (w.heap.size+1+1+1) 0:=by
  refine (drew_at _ _).trans ?_
  unfold e1 at *
  rw[set_row0 R2]
  rfl
 have hB:=(B2.setCell (p:=⟨w.heap.size+1+1+1,0,none⟩) (show w.heap.size≤w.heap.size+1+1+1 by omega) (.int .i64 0)).drew
 have hZ:(W2.setCell ⟨w.heap.size+1+1+1,0,none⟩ (.int .i64 0)).drew.heap.size=W2.heap.size:=by simp
 generalize (W2.setCell ⟨w.heap.size+1+1+1,0,none⟩ (.int .i64 0)).drew=W3 at *
 have k:∀ b,(S b∨w.heap.size+4≤b∧b<w1.heap.size)→W3.heap[b]? = w1.heap[b]? := fun b h=>by
  have h1:b≠w.heap.size+1∧b≠w.heap.size+1+1∧b≠w.heap.size+1+1+1:=by rcases h with h|h<;>first|(have:=hS b h;omega)|omega
  rw[off b h1.2.2,O2 b h1.1 h1.2.1,O1 b h1.1 h1.2.1]
 have m:∀ b,(S b∨w.heap.size+4≤b∧b<w1.heap.size)→New S w W3 b:=fun b h=>h.imp id fun h=>⟨by omega,by omega⟩
 exact⟨(off _ (by omega)).trans P2,(off _ (by omega)).trans Q2,hE,hB,_,_,_,_,rfl,(hx.keep k).mono m,(hy.keep k).mono m⟩
set_option maxRecDepth 100000 in
set_option maxHeartbeats 6400000 in
theorem says_said (q:Nat)(g:List Giv)(hgo:GivOk q g)(c:Co)(S:Nat→Prop)(a:Option Addr)(n:Nat)(ka:Option Addr)(kn:Nat)(gv:Value)(w:World)(hG:GivAt S w gv g)(hC:CoAt S w c a n ka kn)(hS:∀ b,S b→b<w.heap.size)(hw:WfC c)
  (hb:(bdC q c).s≤50000000000) (hf:(bdC q c).f≤4000000) (hm:bindsC c≤60) (hT:Tab w):Calls Tryz.prog 12 #[gv,cv c a n ka kn] w (SaidPost S w (saysF c.deep g c)):=by
 have hmf:∀ (fn:Fn) (first cap:Array Value) (w:World),(Instr.makeFunc fn first cap).run Tryz.prog w=.ok (.func fn first cap) w:=fun _ _ _ _=>rfl
 have hM:=SaW.new w c a n ka kn
 have CS:=Lib.hid (says_any q g hgo c.deep c S a n ka kn gv ((((w.alloc (.cells #[.int .i64 c.kind,.string c.name,.int .i64 c.n,.int .i64 c.t.kind,.string c.t.name,.int .i64 c.t.n,.slice a c.t.args.length n,.slice ka c.kids.length kn] 33)).alloc (.cells #[.int .i64 0,.string ⟨#[]⟩,.int .i64 0,.slice none 0 0] 30)).alloc (.cells #[.int .i64 0,.string ⟨#[]⟩,.int .i64 0,.slice none 0 0] 30)).alloc (.cells #[.int .i64 0] 34)) (hG.keep fun b hb=>hM.b.block b (hS b hb)) (hC.keep fun b hb=>hM.b.block b (hS b hb)) (fun b hb=>Nat.lt_of_lt_of_le (hS b hb) hM.b.size) hw (Nat.le_refl _) hb hf hm (tab_below hT hM.b))
 have HM:=Lib.hid hM
 have HS:=Lib.hid hS
 clear hM hG hC hw hb hf hm hT hgo hS
 unfold cv at *
 generalize saysF c.deep g c=res at *
 go_enter_defers Tryz.func12,Tryz.ntmps12
 go_wp2_with fail
 refine CS.out.mono ?_
 rintro e w1 ⟨hb1,hres⟩
 have hM1:=HM.out.low hb1
 cases res with
 | none =>
  subst hres
  have M1:=Lib.hid hM1
  clear hM1
  go_wp2
  refine leaves_cons (f:=26) (args:=#[.pointer (some ⟨w.heap.size+1,0,none⟩),.pointer (some ⟨w.heap.size+1+1,0,none⟩),.pointer (some ⟨w.heap.size+1+1+1,0,none⟩)]) (by simp) (by simp[go_sem]) ?_
  refine (catch_wrong (w.heap.size+1) (w.heap.size+1+1) (w.heap.size+1+1+1) w1 M1.out.l M1.out.r (by omega) (by omega) (by omega) M1.out.e).mono ?_
  rintro e u' w2 ⟨rfl,rfl,z1,z2,z3,z5⟩
  have z6:SaidPost S w none (.returned (.tuple #[tv tz none 0,tv tz none 0,.int .i64 50])) w2:=by
   have h1:=M1.out.b
   have h2:=h1.size
   have h3:=Array.getElem?_eq_some_iff.1 M1.out.e
   exact⟨h1.trans (z5 _ (by omega) (by omega) (by omega) h2),rfl⟩
  have l0:=z1.c0
  have l1:=z1.c1
  have l2:=z1.c2
  have l3:=z1.c3
  have r0:=z2.c0
  have r1:=z2.c1
  have r2:=z2.c2
  have r3:=z2.c3
  have x0:=e1_cell z3
  simp[Leaves,settle,results,Tryz.results12,go_sem,l0,l1,l2,l3,r0,r1,r2,r3,x0]
  exact z6
 | some p =>
  obtain⟨x,y⟩:=p
  obtain⟨xa,xc,ya,yc,rfl,hx,hy⟩:=hres
  have l0:=hM1.l.c0
  have l1:=hM1.l.c1
  have l2:=hM1.l.c2
  have l3:=hM1.l.c3
  have u0:=hM1.l.fr 0
  have u1:=hM1.l.fr 1
  have u2:=hM1.l.fr 2
  have u3:=hM1.l.fr 3
  have r0:=hM1.r.c0
  have r1:=hM1.r.c1
  have r2:=hM1.r.c2
  have r3:=hM1.r.c3
  have v0:=hM1.r.fr 0
  have v1:=hM1.r.fr 1
  have v2:=hM1.r.fr 2
  have v3:=hM1.r.fr 3
  have e0:=e1_cell hM1.e
  have e2:=e1_fr hM1.e
  have M1:=Lib.hid hM1
  have hz4:((((w.alloc (.cells #[.int .i64 c.kind,.string c.name,.int .i64 c.n,.int .i64 c.t.kind,.string c.t.name,.int .i64 c.t.n,.slice a c.t.args.length n,.slice ka c.kids.length kn] 33)).alloc (.cells #[.int .i64 0,.string ⟨#[]⟩,.int .i64 0,.slice none 0 0] 30)).alloc (.cells #[.int .i64 0,.string ⟨#[]⟩,.int .i64 0,.slice none 0 0] 30)).alloc (.cells #[.int .i64 0] 34)).heap.size=w.heap.size+4:=by simp
  have up:∀ b,New S ((((w.alloc (.cells #[.int .i64 c.kind,.string c.name,.int .i64 c.n,.int .i64 c.t.kind,.string c.t.name,.int .i64 c.t.n,.slice a c.t.args.length n,.slice ka c.kids.length kn] 33)).alloc (.cells #[.int .i64 0,.string ⟨#[]⟩,.int .i64 0,.slice none 0 0] 30)).alloc (.cells #[.int .i64 0,.string ⟨#[]⟩,.int .i64 0,.slice none 0 0] 30)).alloc (.cells #[.int .i64 0] 34)) w1 b→(S b∨w.heap.size+4≤b∧b<w1.heap.size):=fun b hb=>hb.imp id fun h=>⟨by have:=h.1;rw[hz4] at this;exact this,h.2⟩
  have HX:=Lib.hid (hx.mono up)
  have HY:=Lib.hid (hy.mono up)
  clear hM1 hx hy hb1 hz4 up CS HM
  unfold tv
  go_wp2
  go_region
  go_wp2
  obtain⟨LL,RR,EE,PP⟩:=said_end (x:=x) (y:=y) M1.out HS.out HX.out HY.out
  have CI:=fun (W:World)=>catch_idle (w.heap.size+1) (w.heap.size+1+1) (w.heap.size+1+1+1) W
  generalize ((st4 (st4 (st4 (st4 w1 (w.heap.size+1) (.int .i64 x.kind) (.string x.name) (.int .i64 x.n) (.slice xa x.args.length xc)) (w.heap.size+1+1) (.int .i64 y.kind) (.string y.name) (.int .i64 y.n) (.slice ya y.args.length yc)) (w.heap.size+1) (.int .i64 x.kind) (.string x.name) (.int .i64 x.n) (.slice xa x.args.length xc)) (w.heap.size+1+1) (.int .i64 y.kind) (.string y.name) (.int .i64 y.n) (.slice ya y.args.length yc)).setCell ⟨w.heap.size+1+1+1,0,none⟩ (.int .i64 0)).drew=W9 at *
  refine leaves_cons (f:=26) (args:=#[.pointer (some ⟨w.heap.size+1,0,none⟩),.pointer (some ⟨w.heap.size+1+1,0,none⟩),.pointer (some ⟨w.heap.size+1+1+1,0,none⟩)]) (by simp) (by simp[go_sem]) ?_
  refine (CI W9).mono ?_
  rintro e u' w2 ⟨rfl,rfl,rfl⟩
  have l0:=LL.c0
  have l1:=LL.c1
  have l2:=LL.c2
  have l3:=LL.c3
  have r0:=RR.c0
  have r1:=RR.c1
  have r2:=RR.c2
  have r3:=RR.c3
  have x0:=e1_cell EE
  simp[Leaves,settle,results,Tryz.results12,go_sem,l0,l1,l2,l3,r0,r1,r2,r3,x0]
  exact PP
end Go.Proofs.YtkihnodkhnahiaaGreatDoor.Tp

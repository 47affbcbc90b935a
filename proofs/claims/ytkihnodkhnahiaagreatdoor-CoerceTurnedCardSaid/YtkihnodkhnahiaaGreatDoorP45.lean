/- Texts laid together: CoSay5. -/
import Derived.Test.YtkihnodkhnahiaaGreatDoorP43

namespace Go.Proofs.YtkihnodkhnahiaaGreatDoor.Tp
open Go.RowKit
set_option maxRecDepth 100000 in
set_option maxHeartbeats 6400000 in
theorem says_con (q:Nat)(g:List Giv)(d:Nat)(ih:SaysSaid q g d)(c:Co)(S:Nat→Prop)(a:Option Addr)(n:Nat)(ka:Option Addr)(kn:Nat)(gv:Value)(w:World)(hgo:GivOk q g)(hG:GivAt S w gv g)(hC:CoAt S w c a n ka kn)(hS:∀ b,S b→b<w.heap.size)(hw:WfC c)(hd:c.deep≤d+1)
  (hb:(bdC q c).s≤50000000000) (hf:(bdC q c).f≤4000000) (hm:bindsC c≤60) (hT:Tab w) (hk:c.kind=5):Calls Tryz.prog 27 #[gv,cv c a n ka kn] w (PairPost S thrown w (saysF (d+1) g c)):=by
 have E:Hid (saysF (d+1) g c=match saysL (saysF d g) c.kids with
   | none=>none
   | some p=>ruleS c p.1 p.2):=Lib.hid (by rw[saysF,if_neg (by omega),if_neg (by omega),show openC c=c from if_neg (by omega)];rfl)
 have q1:(c.kind==1)=false:=by rw[hk];rfl
 have q2:(c.kind==2)=false:=by rw[hk];rfl
 have q7:(c.kind==7)=false:=by rw[hk];rfl
 have q3:(c.kind==3)=false:=by rw[hk];rfl
 have q4:(c.kind==4)=false:=by rw[hk];rfl
 have q5:(c.kind==5)=true:=by rw[hk];rfl
 have hM:=SayM.new w c a n ka kn
 have hbk:=open_keeps q hw hb hm
 have hM0:=bd_open hw hb hm (by omega) (by omega)
 have ho:openC c=c:=if_neg (by omega)
 rw[ho] at hM0 hbk
 have hKids:∀ x∈c.kids,WfC x∧x.deep≤d∧(bdC q x).s≤50000000000∧(bdC q x).f≤4000000∧bindsC x≤60:=fun x hx =>
  ⟨hw.kids x hx,by have:=(hbk.2.2.2.2.2.2.1 x hx).2.2;omega,Nat.le_trans ((bdM_kid hx).trans hM0).2.1 hb,Nat.le_trans ((bdM_kid hx).trans hM0).2.2 hf,(hbk.2.2.2.2.2.2.1 x hx).2.1⟩
 have hFit:∀ p,saysL (saysF d g) c.kids=some p→FitL q c.kids p.1∧FitL q c.kids p.2:=fun p hp=>saysL_fit (fun x hx r hr=>says_fit q d g x r hgo (hKids x hx).1 (hKids x hx).2.2.1 (hKids x hx).2.2.2.2 hr) hp
 have KC:=Lib.hid (kids_any (saysF d g) gv c S a n ka kn (((w.alloc (.cells #[.int .i64 c.kind,.string c.name,.int .i64 c.n,.int .i64 c.t.kind,.string c.t.name,.int .i64 c.t.n,.slice a c.t.args.length n,.slice ka c.kids.length kn] 33)).alloc (.cells #[.int .i64 0,.string ⟨#[]⟩,.int .i64 0,.slice none 0 0] 30)).alloc (.cells #[.int .i64 0,.string ⟨#[]⟩,.int .i64 0,.slice none 0 0] 30)) (hC.keep fun b hb=>hM.b.block b (hS b hb)) (fun b hb=>Nat.lt_of_lt_of_le (hS b hb) hM.b.size) hw.k.2.1 (fun x hx a n ka kn W hB hCx=>by
  have hBw:=hM.b.trans (hB.mono hM.b.size)
  have hk:=hKids x hx
  exact ih x S a n ka kn gv W (hG.keep fun b hb=>hBw.block b (hS b hb)) hCx (fun b hb=>Nat.lt_of_lt_of_le (hS b hb) hBw.size) hk.1 hk.2.1 hk.2.2.1 hk.2.2.2.1 hk.2.2.2.2 (tab_below hT hBw)))
 have HS:=Lib.hid hS
 have HM:=Lib.hid hM
 have HF:=Lib.hid hFit
 have HM0:=Lib.hid hM0
 have HW:=Lib.hid hw
 have HBS:=Lib.hid hb
 have HBF:=Lib.hid hf
 have HT:=Lib.hid hT
 have HK:=Lib.hid hk
 clear ih hgo hG hC hS hw hd hb hf hm hT hk hM hbk hM0 ho hKids hFit
 unfold cv at *
 go_enter Tryz.func27,Tryz.ntmps27
 go_wp2_with fail
 refine KC.out.mono ?_
 rintro e w1 ⟨hb1,hres⟩
 have hM1:=HM.out.low hb1
 have hsz:w.heap.size+3≤w1.heap.size:=by have:=hb1.size;simpa using this
 cases hsy:saysL (saysF d g) c.kids with
 | none =>
  rw[hsy] at hres
  subst hres
  have E2:=E.out
  rw[hsy] at E2
  have E3:Hid (saysF (d+1) g c=none):=Lib.hid E2
  have M1:=Lib.hid hM1
  clear hM1 hb1 hsy E2 E hsz
  go_wp2
  refine⟨rfl,?_⟩
  rw[E3.out]
  exact⟨M1.out.b,rfl⟩
 | some p =>
  obtain⟨xs,ys⟩:=p
  rw[hsy] at hres
  obtain⟨xa,xc,ya,yc,rfl,hx,hy⟩:=hres
  have E2:saysF (d+1) g c=ruleS c xs ys:=by have:=E.out;rw[hsy] at this;exact this
  have hlen:xs.length=c.kids.length∧ys.length=c.kids.length:=saysL_len hsy
  have FF:=Lib.hid (HF.out _ hsy)
  have up:∀ b,New S (((w.alloc (.cells #[.int .i64 c.kind,.string c.name,.int .i64 c.n,.int .i64 c.t.kind,.string c.t.name,.int .i64 c.t.n,.slice a c.t.args.length n,.slice ka c.kids.length kn] 33)).alloc (.cells #[.int .i64 0,.string ⟨#[]⟩,.int .i64 0,.slice none 0 0] 30)).alloc (.cells #[.int .i64 0,.string ⟨#[]⟩,.int .i64 0,.slice none 0 0] 30)) w1 b→(S b∨w.heap.size+3≤b∧b<w1.heap.size):=fun b hb=>hb.imp id fun h=>⟨by have:=h.1;simpa using this,h.2⟩
  have AX:=Lib.hid (hx.mono up)
  have AY:=Lib.hid (hy.mono up)
  have M1:=Lib.hid hM1
  have TT:=Lib.hid (tab_below HT.out hM1.b)
  clear hx hy up hb1 hsy E
  have E3:Hid (saysF (d+1) g c=some (.mk 3 c.name 0 xs,.mk 3 c.name 0 ys)):=Lib.hid (by rw[E2,ruleS];simp[HK.out])
  have l0:=hM1.l.c0
  have l1:=hM1.l.c1
  have l2:=hM1.l.c2
  have l3:=hM1.l.c3
  have u0:=hM1.l.fr 0
  have u1:=hM1.l.fr 1
  have u2:=hM1.l.fr 2
  have u3:=hM1.l.fr 3
  have r0:=hM1.r.c0
  have r1:=hM1.r.c1
  have r2:=hM1.r.c2
  have r3:=hM1.r.c3
  have v0:=hM1.r.fr 0
  have v1:=hM1.r.fr 1
  have v2:=hM1.r.fr 2
  have v3:=hM1.r.fr 3
  have m0:=hM1.k.c0
  have m1:=hM1.k.c1
  have m2:=hM1.k.c2
  have m3:=hM1.k.c3
  have m4:=hM1.k.c4
  have m5:=hM1.k.c5
  have m6:=hM1.k.c6
  clear hM1 hlen E2 hsz
  go_wp2
  go_region
  go_wp2
  obtain⟨LL,RR,PP⟩:=says_end (x:=Ty.mk 3 c.name 0 xs) (y:=Ty.mk 3 c.name 0 ys) (xa:=xa) (xc:=xc) (ya:=ya) (yc:=yc) M1.out HS.out AX.out AY.out
  simp only[Ty.kind,Ty.name,Ty.n,Ty.args] at LL RR
  refine bodyPost_ret (v:=.tuple #[tv (Ty.mk 3 c.name 0 xs) xa xc,tv (Ty.mk 3 c.name 0 ys) ya yc]) (by simp[results,Tryz.results27,go_sem,tv,Ty.kind,Ty.name,Ty.n,Ty.args,LL.c0,LL.c1,LL.c2,LL.c3,RR.c0,RR.c1,RR.c2,RR.c3]) rfl ?_
  rw[E3.out]
  exact PP
end Go.Proofs.YtkihnodkhnahiaaGreatDoor.Tp

/- Texts laid together: CoSay8. -/
import Derived.Test.YtkihnodkhnahiaaGreatDoorP45

namespace Go.Proofs.YtkihnodkhnahiaaGreatDoor.Tp
open Go.RowKit
set_option maxRecDepth 100000 in
set_option maxHeartbeats 6400000 in
theorem says_nth (q:Nat)(g:List Giv)(d:Nat)(ih:SaysSaid q g d)(c:Co)(S:Nat→Prop)(a:Option Addr)(n:Nat)(ka:Option Addr)(kn:Nat)(gv:Value)(w:World)(hgo:GivOk q g)(hG:GivAt S w gv g)(hC:CoAt S w c a n ka kn)(hS:∀ b,S b→b<w.heap.size)(hw:WfC c)(hd:c.deep≤d+1)
  (hb:(bdC q c).s≤50000000000) (hf:(bdC q c).f≤4000000) (hm:bindsC c≤60) (hT:Tab w) (hk:c.kind=8):Calls Tryz.prog 27 #[gv,cv c a n ka kn] w (PairPost S thrown w (saysF (d+1) g c)):=by
 have E:Hid (saysF (d+1) g c=match saysL (saysF d g) c.kids with
   | none=>none
   | some p=>ruleS c p.1 p.2):=Lib.hid (by rw[saysF,if_neg (by omega),if_neg (by omega),show openC c=c from if_neg (by omega)];rfl)
 have q1:(c.kind==1)=false:=by rw[hk];rfl
 have q2:(c.kind==2)=false:=by rw[hk];rfl
 have q7:(c.kind==7)=false:=by rw[hk];rfl
 have q3:(c.kind==3)=false:=by rw[hk];rfl
 have q4:(c.kind==4)=false:=by rw[hk];rfl
 have q5:(c.kind==5)=false:=by rw[hk];rfl
 have q6:(c.kind==6)=false:=by rw[hk];rfl
 have q8:(c.kind==8)=true:=by rw[hk];rfl
 have hM:=SayM.new w c a n ka kn
 have hbk:=open_keeps q hw hb hm
 have hM0:=bd_open hw hb hm (by omega) (by omega)
 have ho:openC c=c:=if_neg (by omega)
 rw[ho] at hM0 hbk
 have hKids:∀ x∈c.kids,WfC x∧x.deep≤d∧(bdC q x).s≤50000000000∧(bdC q x).f≤4000000∧bindsC x≤60:=fun x hx =>
  ⟨hw.kids x hx,by have:=(hbk.2.2.2.2.2.2.1 x hx).2.2;omega,Nat.le_trans ((bdM_kid hx).trans hM0).2.1 hb,Nat.le_trans ((bdM_kid hx).trans hM0).2.2 hf,(hbk.2.2.2.2.2.2.1 x hx).2.1⟩
 have hFit:∀ p,saysL (saysF d g) c.kids=some p→FitL q c.kids p.1∧FitL q c.kids p.2:=fun p hp=>saysL_fit (fun x hx r hr=>says_fit q d g x r hgo (hKids x hx).1 (hKids x hx).2.2.1 (hKids x hx).2.2.2.2 hr) hp
 have KC:=Lib.hid (kids_any (saysF d g) gv c S a n ka kn (((w.alloc (.cells #[.int .i64 c.kind,.string c.name,.int .i64 c.n,.int .i64 c.t.kind,.string c.t.name,.int .i64 c.t.n,.slice a c.t.args.length n,.slice ka c.kids.length kn] 33)).alloc (.cells #[.int .i64 0,.string ⟨#[]⟩,.int .i64 0,.slice none 0 0] 30)).alloc (.cells #[.int .i64 0,.string ⟨#[]⟩,.int .i64 0,.slice none 0 0] 30)) (hC.keep fun b hb=>hM.b.block b (hS b hb)) (fun b hb=>Nat.lt_of_lt_of_le (hS b hb) hM.b.size) hw.k.2.1 (fun x hx a n ka kn W hB hCx=>by
  have hBw:=hM.b.trans (hB.mono hM.b.size)
  have hk:=hKids x hx
  exact ih x S a n ka kn gv W (hG.keep fun b hb=>hBw.block b (hS b hb)) hCx (fun b hb=>Nat.lt_of_lt_of_le (hS b hb) hBw.size) hk.1 hk.2.1 hk.2.2.1 hk.2.2.2.1 hk.2.2.2.2 (tab_below hT hBw)))
 have HS:=Lib.hid hS
 have HM:=Lib.hid hM
 have HF:=Lib.hid hFit
 have HM0:=Lib.hid hM0
 have HW:=Lib.hid hw
 have HBS:=Lib.hid hb
 have HBF:=Lib.hid hf
 have HT:=Lib.hid hT
 have HK:=Lib.hid hk
 clear ih hgo hG hC hS hw hd hb hf hm hT hk hM hbk hM0 ho hKids hFit
 unfold cv at *
 go_enter Tryz.func27,Tryz.ntmps27
 go_wp2_with fail
 refine KC.out.mono ?_
 rintro e w1 ⟨hb1,hres⟩
 have hM1:=HM.out.low hb1
 have hsz:w.heap.size+3≤w1.heap.size:=by have:=hb1.size;simpa using this
 cases hsy:saysL (saysF d g) c.kids with
 | none =>
  rw[hsy] at hres
  subst hres
  have E2:=E.out
  rw[hsy] at E2
  have E3:Hid (saysF (d+1) g c=none):=Lib.hid E2
  have M1:=Lib.hid hM1
  clear hM1 hb1 hsy E2 E hsz
  go_wp2
  refine⟨rfl,?_⟩
  rw[E3.out]
  exact⟨M1.out.b,rfl⟩
 | some p =>
  obtain⟨xs,ys⟩:=p
  rw[hsy] at hres
  obtain⟨xa,xc,ya,yc,rfl,hx,hy⟩:=hres
  have E2:saysF (d+1) g c=ruleS c xs ys:=by have:=E.out;rw[hsy] at this;exact this
  have hlen:xs.length=c.kids.length∧ys.length=c.kids.length:=saysL_len hsy
  have FF:=Lib.hid (HF.out _ hsy)
  have up:∀ b,New S (((w.alloc (.cells #[.int .i64 c.kind,.string c.name,.int .i64 c.n,.int .i64 c.t.kind,.string c.t.name,.int .i64 c.t.n,.slice a c.t.args.length n,.slice ka c.kids.length kn] 33)).alloc (.cells #[.int .i64 0,.string ⟨#[]⟩,.int .i64 0,.slice none 0 0] 30)).alloc (.cells #[.int .i64 0,.string ⟨#[]⟩,.int .i64 0,.slice none 0 0] 30)) w1 b→(S b∨w.heap.size+3≤b∧b<w1.heap.size):=fun b hb=>hb.imp id fun h=>⟨by have:=h.1;simpa using this,h.2⟩
  have AX:=Lib.hid (hx.mono up)
  have AY:=Lib.hid (hy.mono up)
  have M1:=Lib.hid hM1
  have TT:=Lib.hid (tab_below HT.out hM1.b)
  clear hx hy up hb1 hsy E
  have hkl:c.kids.length=1:=by have h1:=HW.out.k.2.2;have h2:=HK.out;omega
  have hn0:0≤c.n:=by have h1:=HW.out.k.2.2;have h2:=HK.out;omega
  have E3:Hid (saysF (d+1) g c=nthT c.n (h0 xs) (h0 ys)):=Lib.hid (by rw[E2,ruleS];simp[HK.out])
  have l0:=hM1.l.c0
  have l1:=hM1.l.c1
  have l2:=hM1.l.c2
  have l3:=hM1.l.c3
  have u0:=hM1.l.fr 0
  have u1:=hM1.l.fr 1
  have u2:=hM1.l.fr 2
  have u3:=hM1.l.fr 3
  have r0:=hM1.r.c0
  have r1:=hM1.r.c1
  have r2:=hM1.r.c2
  have r3:=hM1.r.c3
  have v0:=hM1.r.fr 0
  have v1:=hM1.r.fr 1
  have v2:=hM1.r.fr 2
  have v3:=hM1.r.fr 3
  have m0:=hM1.k.c0
  have m1:=hM1.k.c1
  have m2:=hM1.k.c2
  have m3:=hM1.k.c3
  have m4:=hM1.k.c4
  have m5:=hM1.k.c5
  have m6:=hM1.k.c6
  have hlx:0<xs.length:=by have:=hlen;omega
  obtain⟨rbx,rox,exa,exc,rfl,hbx,hfx,hAx⟩:=row_one AX.out (by omega)
  obtain⟨ex0,ex1,ex2,ex3⟩:=hfx
  have hx1:rbx≠w.heap.size+1:=by rcases hbx with h|h<;>first|(have:=HS.out _ h;omega)|omega
  have hx2:rbx≠w.heap.size+1+1:=by rcases hbx with h|h<;>first|(have:=HS.out _ h;omega)|omega
  have hx3:=Ne.symm hx1
  have hx4:=Ne.symm hx2
  have exH:=Lib.hid hAx
  have exL:Hid (xs.length=xs.length):=Lib.hid rfl
  have hly:0<ys.length:=by have:=hlen;omega
  obtain⟨rby,roy,eya,eyc,rfl,hby,hfy,hAy⟩:=row_one AY.out (by omega)
  obtain⟨ey0,ey1,ey2,ey3⟩:=hfy
  have hy1:rby≠w.heap.size+1:=by rcases hby with h|h<;>first|(have:=HS.out _ h;omega)|omega
  have hy2:rby≠w.heap.size+1+1:=by rcases hby with h|h<;>first|(have:=HS.out _ h;omega)|omega
  have hy3:=Ne.symm hy1
  have hy4:=Ne.symm hy2
  have eyH:=Lib.hid hAy
  have eyL:Hid (ys.length=ys.length):=Lib.hid rfl
  have hSS:∀ b,(S b∨w.heap.size+3≤b∧b<w1.heap.size)→b<w1.heap.size:=fun b h=>by rcases h with h|h<;>first|(have:=HS.out b h;omega)|omega
  have ZX:Hid (0<xs.length):=Lib.hid hlx
  have ZY:Hid (0<ys.length):=Lib.hid hly
  have OKX:Hid (Ok (h0 xs)∧Ok (h0 ys)):=Lib.hid ⟨(FF.out.1.2.1 _ (h0_mem hlx)).1,(FF.out.2.2.1 _ (h0_mem hly)).1⟩
  have h4:(h0 xs).kind=(h0 ys).kind→(h0 xs).kind=4→(h0 xs).args.length=(h0 ys).args.length:=fun e e4=>by
   rw[(OKX.out.1.1.k4 e4).2.2,(OKX.out.2.1.k4 (by omega)).2.2]
  have CN:=Lib.hid (fun (W:World) (hB:Below w1.heap.size w1 W)=>nth_any c.n (h0 xs) (h0 ys) exa eya exc eyc W (fun b=>S b∨w.heap.size+3≤b∧b<w1.heap.size) (fun b hb=>Nat.lt_of_lt_of_le (hSS b hb) hB.size) (exH.out.keep fun b hb=>hB.block b (hSS b hb)) (eyH.out.keep fun b hb=>hB.block b (hSS b hb)) hn0 h4)
  clear hM1 hlen E2 hkl hbx hby hlx hly hAx hAy h4 hSS hn0
  generalize h0 xs=x0 at *
  generalize h0 ys=y0 at *
  have z1:(0:Int)<(xs.length:Int):=by have:=ZX.out;omega
  have z2:(0:Int)<(ys.length:Int):=by have:=ZY.out;omega
  have z3:0<xs.length:=ZX.out
  have z4:0<ys.length:=ZY.out
  unfold tv at CN
  have hW0:Below w1.heap.size w1 w1.drew:=(Below.refl _ _).drew
  cases hN:nthT c.n x0 y0 with
  | none =>
   rw[hN] at E3 CN
   go_wp2
   go_region_law (go_simp;go_at_call 61;(with_reducible refine (CN.out _ hW0).mono ?_);rintro e w2 ⟨hb2,rfl⟩;have Z:Hid (PairPost S thrown w (saysF (d+1) g c) (.panicked thrown) w2):=Lib.hid (by rw[E3.out];exact⟨M1.out.b.trans (((Below.refl _ _).drew.trans hb2).mono M1.out.b.size),rfl⟩);refine dummy_any (P:=Tryz.prog) (a:={ tmps:=#[],defers:=[] }) (w:=w2) ⟨rfl,Z.out⟩ ?_)
   all_goals trivial
  | some pq =>
   obtain⟨p,r⟩:=pq
   rw[hN] at E3 CN
   go_wp2
   go_region_law (go_simp;go_at_call 61;(with_reducible refine (CN.out _ hW0).mono ?_);rintro e w2 ⟨hb2,pa,pc,ra,rc,rfl,hP,hR⟩;have M2:=M1.out.low ((Below.refl _ _).drew.trans hb2);have l0:=M2.l.c0;have l1:=M2.l.c1;have l2:=M2.l.c2;have l3:=M2.l.c3;have u0:=M2.l.fr 0;have u1:=M2.l.fr 1;have u2:=M2.l.fr 2;have u3:=M2.l.fr 3;have r0:=M2.r.c0;have r1:=M2.r.c1;have r2:=M2.r.c2;have r3:=M2.r.c3;have v0:=M2.r.fr 0;have v1:=M2.r.fr 1;have v2:=M2.r.fr 2;have v3:=M2.r.fr 3;unfold tv)
   all_goals
    have hsw:w1.heap.size≤w2.heap.size:=hb2.size
    have up2:∀ b,((S b∨w.heap.size+3≤b∧b<w1.heap.size)∨w1.drew.heap.size≤b∧b<w2.heap.size)→(S b∨w.heap.size+3≤b∧b<w2.heap.size):=fun b h=>by
     have e:w1.drew.heap.size=w1.heap.size:=rfl
     rcases h with (h|h)|h
     ·exact .inl h
     ·exact .inr ⟨h.1,by omega⟩
     ·exact .inr ⟨by omega,h.2⟩
    obtain⟨LL,RR,PP⟩:=says_end_nodraw (x:=p) (y:=r) (xa:=pa) (xc:=pc) (ya:=ra) (yc:=rc) M2 HS.out (hP.mono up2) (hR.mono up2)
    go_wp2
    refine bodyPost_ret (v:=.tuple #[tv (p) pa pc,tv (r) ra rc]) (by simp[results,Tryz.results27,go_sem,tv,LL.c0,LL.c1,LL.c2,LL.c3,RR.c0,RR.c1,RR.c2,RR.c3]) rfl ?_
    rw[E3.out]
    exact PP
end Go.Proofs.YtkihnodkhnahiaaGreatDoor.Tp

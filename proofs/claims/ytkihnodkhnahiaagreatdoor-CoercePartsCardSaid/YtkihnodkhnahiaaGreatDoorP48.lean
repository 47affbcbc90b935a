/- Texts laid together: CoSay9. -/
import Derived.Test.YtkihnodkhnahiaaGreatDoorP45

namespace Go.Proofs.YtkihnodkhnahiaaGreatDoor.Tp
open Go.RowKit
set_option maxRecDepth 100000 in
set_option maxHeartbeats 6400000 in
theorem says_inst (q:Nat)(g:List Giv)(d:Nat)(ih:SaysSaid q g d)(c:Co)(S:Nat→Prop)(a:Option Addr)(n:Nat)(ka:Option Addr)(kn:Nat)(gv:Value)(w:World)(hgo:GivOk q g)(hG:GivAt S w gv g)(hC:CoAt S w c a n ka kn)(hS:∀ b,S b→b<w.heap.size)(hw:WfC c)(hd:c.deep≤d+1)
  (hb:(bdC q c).s≤50000000000) (hf:(bdC q c).f≤4000000) (hm:bindsC c≤60) (hT:Tab w) (hk:c.kind=9):Calls Tryz.prog 27 #[gv,cv c a n ka kn] w (PairPost S thrown w (saysF (d+1) g c)):=by
 have E:Hid (saysF (d+1) g c=match saysL (saysF d g) c.kids with
   | none=>none
   | some p=>ruleS c p.1 p.2):=Lib.hid (by rw[saysF,if_neg (by omega),if_neg (by omega),show openC c=c from if_neg (by omega)];rfl)
 have q1:(c.kind==1)=false:=by rw[hk];rfl
 have q2:(c.kind==2)=false:=by rw[hk];rfl
 have q7:(c.kind==7)=false:=by rw[hk];rfl
 have q3:(c.kind==3)=false:=by rw[hk];rfl
 have q4:(c.kind==4)=false:=by rw[hk];rfl
 have q5:(c.kind==5)=false:=by rw[hk];rfl
 have q6:(c.kind==6)=false:=by rw[hk];rfl
 have q8:(c.kind==8)=false:=by rw[hk];rfl
 have hM:=SayM.new w c a n ka kn
 have hbk:=open_keeps q hw hb hm
 have hM0:=bd_open hw hb hm (by omega) (by omega)
 have ho:openC c=c:=if_neg (by omega)
 rw[ho] at hM0 hbk
 have hKids:∀ x∈c.kids,WfC x∧x.deep≤d∧(bdC q x).s≤50000000000∧(bdC q x).f≤4000000∧bindsC x≤60:=fun x hx =>
  ⟨hw.kids x hx,by have:=(hbk.2.2.2.2.2.2.1 x hx).2.2;omega,Nat.le_trans ((bdM_kid hx).trans hM0).2.1 hb,Nat.le_trans ((bdM_kid hx).trans hM0).2.2 hf,(hbk.2.2.2.2.2.2.1 x hx).2.1⟩
 have hFit:∀ p,saysL (saysF d g) c.kids=some p→FitL q c.kids p.1∧FitL q c.kids p.2:=fun p hp=>saysL_fit (fun x hx r hr=>says_fit q d g x r hgo (hKids x hx).1 (hKids x hx).2.2.1 (hKids x hx).2.2.2.2 hr) hp
 have KC:=Lib.hid (kids_any (saysF d g) gv c S a n ka kn (((w.alloc (.cells #[.int .i64 c.kind,.string c.name,.int .i64 c.n,.int .i64 c.t.kind,.string c.t.name,.int .i64 c.t.n,.slice a c.t.args.length n,.slice ka c.kids.length kn] 33)).alloc (.cells #[.int .i64 0,.string ⟨#[]⟩,.int .i64 0,.slice none 0 0] 30)).alloc (.cells #[.int .i64 0,.string ⟨#[]⟩,.int .i64 0,.slice none 0 0] 30)) (hC.keep fun b hb=>hM.b.block b (hS b hb)) (fun b hb=>Nat.lt_of_lt_of_le (hS b hb) hM.b.size) hw.k.2.1 (fun x hx a n ka kn W hB hCx=>by
  have hBw:=hM.b.trans (hB.mono hM.b.size)
  have hk:=hKids x hx
  exact ih x S a n ka kn gv W (hG.keep fun b hb=>hBw.block b (hS b hb)) hCx (fun b hb=>Nat.lt_of_lt_of_le (hS b hb) hBw.size) hk.1 hk.2.1 hk.2.2.1 hk.2.2.2.1 hk.2.2.2.2 (tab_below hT hBw)))
 have HS:=Lib.hid hS
 have HCT:=Lib.hid hC.t
 have HM:=Lib.hid hM
 have HF:=Lib.hid hFit
 have HM0:=Lib.hid hM0
 have HW:=Lib.hid hw
 have HBS:=Lib.hid hb
 have HBF:=Lib.hid hf
 have HT:=Lib.hid hT
 have HK:=Lib.hid hk
 clear ih hgo hG hC hS hw hd hb hf hm hT hk hM hbk hM0 ho hKids hFit
 unfold cv at *
 go_enter Tryz.func27,Tryz.ntmps27
 go_wp2_with fail
 refine KC.out.mono ?_
 rintro e w1 ⟨hb1,hres⟩
 have hM1:=HM.out.low hb1
 have hsz:w.heap.size+3≤w1.heap.size:=by have:=hb1.size;simpa using this
 cases hsy:saysL (saysF d g) c.kids with
 | none =>
  rw[hsy] at hres
  subst hres
  have E2:=E.out
  rw[hsy] at E2
  have E3:Hid (saysF (d+1) g c=none):=Lib.hid E2
  have M1:=Lib.hid hM1
  clear hM1 hb1 hsy E2 E hsz
  go_wp2
  refine⟨rfl,?_⟩
  rw[E3.out]
  exact⟨M1.out.b,rfl⟩
 | some p =>
  obtain⟨xs,ys⟩:=p
  rw[hsy] at hres
  obtain⟨xa,xc,ya,yc,rfl,hx,hy⟩:=hres
  have E2:saysF (d+1) g c=ruleS c xs ys:=by have:=E.out;rw[hsy] at this;exact this
  have hlen:xs.length=c.kids.length∧ys.length=c.kids.length:=saysL_len hsy
  have FF:=Lib.hid (HF.out _ hsy)
  have up:∀ b,New S (((w.alloc (.cells #[.int .i64 c.kind,.string c.name,.int .i64 c.n,.int .i64 c.t.kind,.string c.t.name,.int .i64 c.t.n,.slice a c.t.args.length n,.slice ka c.kids.length kn] 33)).alloc (.cells #[.int .i64 0,.string ⟨#[]⟩,.int .i64 0,.slice none 0 0] 30)).alloc (.cells #[.int .i64 0,.string ⟨#[]⟩,.int .i64 0,.slice none 0 0] 30)) w1 b→(S b∨w.heap.size+3≤b∧b<w1.heap.size):=fun b hb=>hb.imp id fun h=>⟨by have:=h.1;simpa using this,h.2⟩
  have AX:=Lib.hid (hx.mono up)
  have AY:=Lib.hid (hy.mono up)
  have M1:=Lib.hid hM1
  have TT:=Lib.hid (tab_below HT.out hM1.b)
  clear hx hy up hb1 hsy E
  have hkl:c.kids.length=1:=by have h1:=HW.out.k.2.2;have h2:=HK.out;omega
  have m0:=hM1.k.c0
  have E4:Hid (saysF (d+1) g c=if (h0 xs).kind=5∧(h0 ys).kind=5 then some (PutT (h0 xs).name c.t (h0 (h0 xs).args),PutT (h0 ys).name c.t (h0 (h0 ys).args)) else none):=Lib.hid (by rw[E2,ruleS];simp[HK.out])
  have hlx:0<xs.length:=by have:=hlen;omega
  have hly:0<ys.length:=by have:=hlen;omega
  have fx:=FF.out.1.2.1 _ (h0_mem hlx)
  have fy:=FF.out.2.2.1 _ (h0_mem hly)
  obtain⟨rbx,rox,exa,exc,rfl,hbx,hfx,hAx⟩:=row_one AX.out hlx
  obtain⟨rby,roy,eya,eyc,rfl,hby,hfy,hAy⟩:=row_one AY.out hly
  have exF:=Lib.hid hfx
  have eyF:=Lib.hid hfy
  obtain⟨ex0,ex1,ex2,ex3⟩:=hfx
  obtain⟨ey0,ey1,ey2,ey3⟩:=hfy
  have hSS:∀ b,(S b∨w.heap.size+3≤b∧b<w1.heap.size)→b<w1.heap.size:=fun b h=>by rcases h with h|h<;>first|(have:=HS.out b h;omega)|omega
  have NEx:Hid (rbx≠w.heap.size+1∧rbx≠w.heap.size+1+1∧rbx<w1.heap.size):=Lib.hid ⟨by rcases hbx with h|h<;>first|(have:=HS.out _ h;omega)|omega,by rcases hbx with h|h<;>first|(have:=HS.out _ h;omega)|omega,hSS _ hbx⟩
  have NEy:Hid (rby≠w.heap.size+1∧rby≠w.heap.size+1+1∧rby<w1.heap.size):=Lib.hid ⟨by rcases hby with h|h<;>first|(have:=HS.out _ h;omega)|omega,by rcases hby with h|h<;>first|(have:=HS.out _ h;omega)|omega,hSS _ hby⟩
  have zix:(0:Int)<(xs.length:Int):=by omega
  have ziy:(0:Int)<(ys.length:Int):=by omega
  have HSS:=Lib.hid hSS
  have SZ1:=Lib.hid hsz
  have no:Hid (∀ e3:saysF (d+1) g c=none,PairPost S thrown w (saysF (d+1) g c) (.panicked thrown) w1):=Lib.hid fun e3=>by rw[e3];exact⟨M1.out.b,rfl⟩
  by_cases hx5:(h0 xs).kind=5
  ·by_cases hy5:(h0 ys).kind=5
   ·have k1:((h0 xs).kind==5)=true:=by rw[hx5];rfl
    have k2:((h0 ys).kind==5)=true:=by rw[hy5];rfl
    have oT:=HW.out.ok (.inr HK.out)
    have sT:=t_size HBS.out (.inr HK.out)
    have sz:∀ t,Fit (bdM q c.kids) t→t.size≤50000000000:=fun t ht=>Nat.le_trans ht.2.2.1 (Nat.le_trans HM0.out.2.1 HBS.out)
    have lx:(h0 xs).args.length=1:=(fx.1.1.k5 hx5).2
    have ly:(h0 ys).args.length=1:=(fy.1.1.k5 hy5).2
    have gx:=fx.1.args _ (h0_mem (xs:=(h0 xs).args) (by omega))
    have gy:=fy.1.args _ (h0_mem (xs:=(h0 ys).args) (by omega))
    have szx:(h0 (h0 xs).args).size≤50000000000:=Nat.le_trans (Nat.le_trans (size_arg _ (h0_mem (xs:=(h0 xs).args) (by omega))) (by rw[(h0 xs).size_eq];omega)) (sz _ fx)
    have szy:(h0 (h0 ys).args).size≤50000000000:=Nat.le_trans (Nat.le_trans (size_arg _ (h0_mem (xs:=(h0 ys).args) (by omega))) (by rw[(h0 ys).size_eq];omega)) (sz _ fy)
    obtain⟨bbx,box,bxa,bxc,rfl,hbbx,hbfx,hbAx⟩:=row_one hAx (Nat.lt_of_lt_of_eq Nat.zero_lt_one lx.symm)
    obtain⟨bby,boy,bya,byc,rfl,hbby,hbfy,hbAy⟩:=row_one hAy (Nat.lt_of_lt_of_eq Nat.zero_lt_one ly.symm)
    have E3:Hid (saysF (d+1) g c=some (PutT (h0 xs).name c.t (h0 (h0 xs).args),PutT (h0 ys).name c.t (h0 (h0 ys).args))):=Lib.hid (by rw[E4.out,if_pos ⟨hx5,hy5⟩])
    have bxF:=Lib.hid hbfx
    have byF:=Lib.hid hbfy
    obtain⟨bx0,bx1,bx2,bx3⟩:=hbfx
    obtain⟨by0,by1,by2,by3⟩:=hbfy
    have NBx:Hid (bbx<w1.heap.size∧bbx≠w.heap.size+1∧bbx≠w.heap.size+1+1):=Lib.hid ⟨hSS _ hbbx,by rcases hbbx with h|h<;>first|(have:=HS.out _ h;omega)|omega,by rcases hbbx with h|h<;>first|(have:=HS.out _ h;omega)|omega⟩
    have NBy:Hid (bby<w1.heap.size∧bby≠w.heap.size+1∧bby≠w.heap.size+1+1):=Lib.hid ⟨hSS _ hbby,by rcases hbby with h|h<;>first|(have:=HS.out _ h;omega)|omega,by rcases hbby with h|h<;>first|(have:=HS.out _ h;omega)|omega⟩
    have aT:ArgsAt (fun b=>S b∨w.heap.size+3≤b∧b<w1.heap.size) w1 (.slice a c.t.args.length n) c.t.args:=(HCT.out.keep fun b hb=>M1.out.b.block b (HS.out b hb)).mono fun _ hb=>.inl hb
    have CX:=Lib.hid (fun (W:World) (hB:Below w1.heap.size w1 W)=>put_any (h0 xs).name c.t (h0 (h0 xs).args) (fun b=>S b∨w.heap.size+3≤b∧b<w1.heap.size) bxa a bxc n W gx.2 oT.2 szx sT (hbAx.keep fun b hb=>hB.block b (hSS b hb)) (aT.keep fun b hb=>hB.block b (hSS b hb)) (fun b hb=>Nat.lt_of_lt_of_le (hSS b hb) hB.size) (tab_below TT.out hB))
    have CY:=Lib.hid (fun (W:World) (hB:Below w1.heap.size w1 W)=>put_any (h0 ys).name c.t (h0 (h0 ys).args) (fun b=>S b∨w.heap.size+3≤b∧b<w1.heap.size) bya a byc n W gy.2 oT.2 szy sT (hbAy.keep fun b hb=>hB.block b (hSS b hb)) (aT.keep fun b hb=>hB.block b (hSS b hb)) (fun b hb=>Nat.lt_of_lt_of_le (hSS b hb) hB.size) (tab_below TT.out hB))
    have hM2:=M1.out
    have m3:=hM2.k.c3
    have m4:=hM2.k.c4
    have m5:=hM2.k.c5
    have m6:=hM2.k.c6
    have hlx1:=lx
    have hly1:=ly
    clear hM1 hM2 hlen E2 E4 hkl hbx hby hlx hly hAx hAy fx fy hSS hsz hx5 hy5 oT sT sz lx ly gx gy szx szy hbbx hbby hbAx hbAy aT no
    unfold tv at CX CY
    generalize PutT (h0 xs).name c.t (h0 (h0 xs).args)=px at *
    generalize PutT (h0 ys).name c.t (h0 (h0 ys).args)=py at *
    generalize h0 (h0 xs).args=x1 at *
    generalize h0 (h0 ys).args=y1 at *
    generalize h0 xs=x0 at *
    generalize h0 ys=y0 at *
    have zx1:(0:Int)<(x0.args.length:Int):=by omega
    have zy1:(0:Int)<(y0.args.length:Int):=by omega
    have zx2:0<x0.args.length:=by omega
    have zy2:0<y0.args.length:=by omega
    have zx3:0<xs.length:=by omega
    have zy3:0<ys.length:=by omega
    have hW0:Below w1.heap.size w1 w1.drew:=(Below.refl _ _).drew
    clear hlx1 hly1
    go_wp2_with fail
    refine (need_yes _).mono ?_
    rintro e w' ⟨rfl,rfl⟩
    have KC2:∀ W:World,(∀ b,b<w1.heap.size→b≠w.heap.size+1→b≠w.heap.size+1+1→W.heap[b]? = w1.heap[b]?)→W.cell? ⟨rbx,rox+1,none⟩=some (.string x0.name)∧W.cell? ⟨rbx,rox+3,none⟩=some (.slice (some ⟨bbx,box,none⟩) x0.args.length exc)∧W.cell? ⟨bbx,box,none⟩=some (.int .i64 x1.kind)∧W.cell? ⟨bbx,box+1,none⟩=some (.string x1.name)∧W.cell? ⟨bbx,box+2,none⟩=some (.int .i64 x1.n)∧W.cell? ⟨bbx,box+3,none⟩=some (.slice bxa x1.args.length bxc)∧W.cell? ⟨rby,roy+1,none⟩=some (.string y0.name)∧W.cell? ⟨rby,roy+3,none⟩=some (.slice (some ⟨bby,boy,none⟩) y0.args.length eyc)∧W.cell? ⟨bby,boy,none⟩=some (.int .i64 y1.kind)∧W.cell? ⟨bby,boy+1,none⟩=some (.string y1.name)∧W.cell? ⟨bby,boy+2,none⟩=some (.int .i64 y1.n)∧W.cell? ⟨bby,boy+3,none⟩=some (.slice bya y1.args.length byc)∧W.cell? ⟨w.heap.size,3,none⟩=some (.int .i64 c.t.kind)∧W.cell? ⟨w.heap.size,4,none⟩=some (.string c.t.name)∧W.cell? ⟨w.heap.size,5,none⟩=some (.int .i64 c.t.n)∧W.cell? ⟨w.heap.size,6,none⟩=some (.slice a c.t.args.length n):=fun W h=>by
     have hx:=exF.out.keep (h _ NEx.out.2.2 NEx.out.1 NEx.out.2.1)
     have hy:=eyF.out.keep (h _ NEy.out.2.2 NEy.out.1 NEy.out.2.1)
     have gx:=bxF.out.keep (h _ NBx.out.1 NBx.out.2.1 NBx.out.2.2)
     have gy:=byF.out.keep (h _ NBy.out.1 NBy.out.2.1 NBy.out.2.2)
     have k:=(h w.heap.size (by have:=SZ1.out;omega) (by omega) (by omega)).trans M1.out.k
     exact⟨hx.2.1,hx.2.2.2,gx.1,gx.2.1,gx.2.2.1,gx.2.2.2,hy.2.1,hy.2.2.2,gy.1,gy.2.1,gy.2.2.1,gy.2.2.2,B8.c3 k,B8.c4 k,B8.c5 k,B8.c6 k⟩
    have KK:Hid (∀ W:World,Below w1.heap.size w1 W→W.cell? ⟨rbx,rox+1,none⟩=some (.string x0.name)∧W.cell? ⟨rbx,rox+3,none⟩=some (.slice (some ⟨bbx,box,none⟩) x0.args.length exc)∧W.cell? ⟨bbx,box,none⟩=some (.int .i64 x1.kind)∧W.cell? ⟨bbx,box+1,none⟩=some (.string x1.name)∧W.cell? ⟨bbx,box+2,none⟩=some (.int .i64 x1.n)∧W.cell? ⟨bbx,box+3,none⟩=some (.slice bxa x1.args.length bxc)∧W.cell? ⟨rby,roy+1,none⟩=some (.string y0.name)∧W.cell? ⟨rby,roy+3,none⟩=some (.slice (some ⟨bby,boy,none⟩) y0.args.length eyc)∧W.cell? ⟨bby,boy,none⟩=some (.int .i64 y1.kind)∧W.cell? ⟨bby,boy+1,none⟩=some (.string y1.name)∧W.cell? ⟨bby,boy+2,none⟩=some (.int .i64 y1.n)∧W.cell? ⟨bby,boy+3,none⟩=some (.slice bya y1.args.length byc)∧W.cell? ⟨w.heap.size,3,none⟩=some (.int .i64 c.t.kind)∧W.cell? ⟨w.heap.size,4,none⟩=some (.string c.t.name)∧W.cell? ⟨w.heap.size,5,none⟩=some (.int .i64 c.t.n)∧W.cell? ⟨w.heap.size,6,none⟩=some (.slice a c.t.args.length n)):=Lib.hid fun W h=>KC2 W fun b hb _ _=>h.block b hb
    have KS1:Hid (∀ W:World,Below w1.heap.size w1 W→∀ u0 u1 u2 u3:Value,(st4 W (w.heap.size+1) u0 u1 u2 u3).cell? ⟨rbx,rox+1,none⟩=some (.string x0.name)∧(st4 W (w.heap.size+1) u0 u1 u2 u3).cell? ⟨rbx,rox+3,none⟩=some (.slice (some ⟨bbx,box,none⟩) x0.args.length exc)∧(st4 W (w.heap.size+1) u0 u1 u2 u3).cell? ⟨bbx,box,none⟩=some (.int .i64 x1.kind)∧(st4 W (w.heap.size+1) u0 u1 u2 u3).cell? ⟨bbx,box+1,none⟩=some (.string x1.name)∧(st4 W (w.heap.size+1) u0 u1 u2 u3).cell? ⟨bbx,box+2,none⟩=some (.int .i64 x1.n)∧(st4 W (w.heap.size+1) u0 u1 u2 u3).cell? ⟨bbx,box+3,none⟩=some (.slice bxa x1.args.length bxc)∧(st4 W (w.heap.size+1) u0 u1 u2 u3).cell? ⟨rby,roy+1,none⟩=some (.string y0.name)∧(st4 W (w.heap.size+1) u0 u1 u2 u3).cell? ⟨rby,roy+3,none⟩=some (.slice (some ⟨bby,boy,none⟩) y0.args.length eyc)∧(st4 W (w.heap.size+1) u0 u1 u2 u3).cell? ⟨bby,boy,none⟩=some (.int .i64 y1.kind)∧(st4 W (w.heap.size+1) u0 u1 u2 u3).cell? ⟨bby,boy+1,none⟩=some (.string y1.name)∧(st4 W (w.heap.size+1) u0 u1 u2 u3).cell? ⟨bby,boy+2,none⟩=some (.int .i64 y1.n)∧(st4 W (w.heap.size+1) u0 u1 u2 u3).cell? ⟨bby,boy+3,none⟩=some (.slice bya y1.args.length byc)∧(st4 W (w.heap.size+1) u0 u1 u2 u3).cell? ⟨w.heap.size,3,none⟩=some (.int .i64 c.t.kind)∧(st4 W (w.heap.size+1) u0 u1 u2 u3).cell? ⟨w.heap.size,4,none⟩=some (.string c.t.name)∧(st4 W (w.heap.size+1) u0 u1 u2 u3).cell? ⟨w.heap.size,5,none⟩=some (.int .i64 c.t.n)∧(st4 W (w.heap.size+1) u0 u1 u2 u3).cell? ⟨w.heap.size,6,none⟩=some (.slice a c.t.args.length n)):=Lib.hid fun W h u0 u1 u2 u3=>KC2 _ fun b hb h1 _=>(st4_off W h1 u0 u1 u2 u3).trans (h.block b hb)
    have KS2:Hid (∀ W:World,Below w1.heap.size w1 W→∀ u0 u1 u2 u3 s0 s1 s2 s3:Value,(st4 (st4 W (w.heap.size+1) u0 u1 u2 u3) (w.heap.size+1+1) s0 s1 s2 s3).cell? ⟨rbx,rox+1,none⟩=some (.string x0.name)∧(st4 (st4 W (w.heap.size+1) u0 u1 u2 u3) (w.heap.size+1+1) s0 s1 s2 s3).cell? ⟨rbx,rox+3,none⟩=some (.slice (some ⟨bbx,box,none⟩) x0.args.length exc)∧(st4 (st4 W (w.heap.size+1) u0 u1 u2 u3) (w.heap.size+1+1) s0 s1 s2 s3).cell? ⟨bbx,box,none⟩=some (.int .i64 x1.kind)∧(st4 (st4 W (w.heap.size+1) u0 u1 u2 u3) (w.heap.size+1+1) s0 s1 s2 s3).cell? ⟨bbx,box+1,none⟩=some (.string x1.name)∧(st4 (st4 W (w.heap.size+1) u0 u1 u2 u3) (w.heap.size+1+1) s0 s1 s2 s3).cell? ⟨bbx,box+2,none⟩=some (.int .i64 x1.n)∧(st4 (st4 W (w.heap.size+1) u0 u1 u2 u3) (w.heap.size+1+1) s0 s1 s2 s3).cell? ⟨bbx,box+3,none⟩=some (.slice bxa x1.args.length bxc)∧(st4 (st4 W (w.heap.size+1) u0 u1 u2 u3) (w.heap.size+1+1) s0 s1 s2 s3).cell? ⟨rby,roy+1,none⟩=some (.string y0.name)∧(st4 (st4 W (w.heap.size+1) u0 u1 u2 u3) (w.heap.size+1+1) s0 s1 s2 s3).cell? ⟨rby,roy+3,none⟩=some (.slice (some ⟨bby,boy,none⟩) y0.args.length eyc)∧(st4 (st4 W (w.heap.size+1) u0 u1 u2 u3) (w.heap.size+1+1) s0 s1 s2 s3).cell? ⟨bby,boy,none⟩=some (.int .i64 y1.kind)∧(st4 (st4 W (w.heap.size+1) u0 u1 u2 u3) (w.heap.size+1+1) s0 s1 s2 s3).cell? ⟨bby,boy+1,none⟩=some (.string y1.name)∧(st4 (st4 W (w.heap.size+1) u0 u1 u2 u3) (w.heap.size+1+1) s0 s1 s2 s3).cell? ⟨bby,boy+2,none⟩=some (.int .i64 y1.n)∧(st4 (st4 W (w.heap.size+1) u0 u1 u2 u3) (w.heap.size+1+1) s0 s1 s2 s3).cell? ⟨bby,boy+3,none⟩=some (.slice bya y1.args.length byc)∧(st4 (st4 W (w.heap.size+1) u0 u1 u2 u3) (w.heap.size+1+1) s0 s1 s2 s3).cell? ⟨w.heap.size,3,none⟩=some (.int .i64 c.t.kind)∧(st4 (st4 W (w.heap.size+1) u0 u1 u2 u3) (w.heap.size+1+1) s0 s1 s2 s3).cell? ⟨w.heap.size,4,none⟩=some (.string c.t.name)∧(st4 (st4 W (w.heap.size+1) u0 u1 u2 u3) (w.heap.size+1+1) s0 s1 s2 s3).cell? ⟨w.heap.size,5,none⟩=some (.int .i64 c.t.n)∧(st4 (st4 W (w.heap.size+1) u0 u1 u2 u3) (w.heap.size+1+1) s0 s1 s2 s3).cell? ⟨w.heap.size,6,none⟩=some (.slice a c.t.args.length n)):=Lib.hid fun W h u0 u1 u2 u3 s0 s1 s2 s3=>KC2 _ fun b hb h1 h2=>(st4_off (st4 W (w.heap.size+1) u0 u1 u2 u3) h2 s0 s1 s2 s3).trans ((st4_off W h1 u0 u1 u2 u3).trans (h.block b hb))
    have RL:Hid (∀ W:World,Below w1.heap.size w1 W→SayM w W c a n ka kn):=Lib.hid fun W h=>M1.out.low h
    have HD:=Lib.hid hW0
    clear KC2 hW0
    go_wp2
    obtain⟨k0,k1',k2',k3,k4,k5,k6,k7,k8,k9,k10,k11,k12,k13,k14,k15⟩:=KK.out w1 (Below.refl _ _)
    go_region_held3 (fun w'=>w'.cell? ⟨rbx,rox+1,none⟩=some (.string x0.name)∧w'.cell? ⟨rbx,rox+3,none⟩=some (.slice (some ⟨bbx,box,none⟩) x0.args.length exc)∧w'.cell? ⟨bbx,box,none⟩=some (.int .i64 x1.kind)∧w'.cell? ⟨bbx,box+1,none⟩=some (.string x1.name)∧w'.cell? ⟨bbx,box+2,none⟩=some (.int .i64 x1.n)∧w'.cell? ⟨bbx,box+3,none⟩=some (.slice bxa x1.args.length bxc)∧w'.cell? ⟨rby,roy+1,none⟩=some (.string y0.name)∧w'.cell? ⟨rby,roy+3,none⟩=some (.slice (some ⟨bby,boy,none⟩) y0.args.length eyc)∧w'.cell? ⟨bby,boy,none⟩=some (.int .i64 y1.kind)∧w'.cell? ⟨bby,boy+1,none⟩=some (.string y1.name)∧w'.cell? ⟨bby,boy+2,none⟩=some (.int .i64 y1.n)∧w'.cell? ⟨bby,boy+3,none⟩=some (.slice bya y1.args.length byc)∧w'.cell? ⟨w.heap.size,3,none⟩=some (.int .i64 c.t.kind)∧w'.cell? ⟨w.heap.size,4,none⟩=some (.string c.t.name)∧w'.cell? ⟨w.heap.size,5,none⟩=some (.int .i64 c.t.n)∧w'.cell? ⟨w.heap.size,6,none⟩=some (.slice a c.t.args.length n))
     (first|(with_reducible exact KS2.out _ HB3.out _ _ _ _ _ _ _ _)|(with_reducible exact KS1.out _ HB3.out _ _ _ _)|(with_reducible exact KK.out _ HB3.out)|(with_reducible exact KK.out _ HB2.out)|(with_reducible exact KK.out _ HD.out)|go_keep)
     (first
      | (go_at_call 16;(with_reducible refine (CX.out _ HD.out).mono ?_);rintro e w2 ⟨pa,pc,rfl,hP,hb2⟩;have HB2:=Lib.hid (HD.out.trans hb2);have HP:=Lib.hid hP;have Hb2:=Lib.hid hb2;clear hP hb2;unfold tv)
      | (go_at_call 16;(with_reducible refine (CY.out _ HD.out).mono ?_);rintro e w2 ⟨ra,rc,rfl,hR,hb2⟩;have HB2:=Lib.hid (HD.out.trans hb2);have HR:=Lib.hid hR;have Hb2:=Lib.hid hb2;clear hR hb2;unfold tv)
      | (go_at_call 16;(with_reducible refine (CY.out _ HB2.out).mono ?_);rintro e w3 ⟨ra,rc,rfl,hR,hb3⟩;have HB3:=Lib.hid (HB2.out.trans (hb3.mono HB2.out.size));have HR:=Lib.hid hR;have Hb3:=Lib.hid hb3;have M3:=RL.out _ HB3.out;have l0:=M3.l.c0;have r0:=M3.r.c0;have u0:=M3.l.fr 0;have v0:=M3.r.fr 0;have l1:=M3.l.c1;have r1:=M3.r.c1;have u1:=M3.l.fr 1;have v1:=M3.r.fr 1;have l2:=M3.l.c2;have r2:=M3.r.c2;have u2:=M3.l.fr 2;have v2:=M3.r.fr 2;have l3:=M3.l.c3;have r3:=M3.r.c3;have u3:=M3.l.fr 3;have v3:=M3.r.fr 3;clear M3;clear hR hb3;unfold tv)
      | (go_at_call 16;(with_reducible refine (CX.out _ HB2.out).mono ?_);rintro e w3 ⟨pa,pc,rfl,hP,hb3⟩;have HB3:=Lib.hid (HB2.out.trans (hb3.mono HB2.out.size));have HP:=Lib.hid hP;have Hb3:=Lib.hid hb3;have M3:=RL.out _ HB3.out;have l0:=M3.l.c0;have r0:=M3.r.c0;have u0:=M3.l.fr 0;have v0:=M3.r.fr 0;have l1:=M3.l.c1;have r1:=M3.r.c1;have u1:=M3.l.fr 1;have v1:=M3.r.fr 1;have l2:=M3.l.c2;have r2:=M3.r.c2;have u2:=M3.l.fr 2;have v2:=M3.r.fr 2;have l3:=M3.l.c3;have r3:=M3.r.c3;have u3:=M3.l.fr 3;have v3:=M3.r.fr 3;clear M3;clear hP hb3;unfold tv))
    all_goals
     have hb2:=Hb2.out
     have hb3:=Hb3.out
     have hP:=HP.out
     have hR:=HR.out
     have hB2:=HB2.out
     have hB3:=HB3.out
     have hs2:=hB2.size
     have hs3:=hb3.size
     have m9:∀ {W W':World},w1.heap.size≤W.heap.size→W'.heap.size≤w3.heap.size→∀ b,New (fun b=>S b∨w.heap.size+3≤b∧b<w1.heap.size) W W' b→(S b∨w.heap.size+3≤b∧b<w3.heap.size):=fun h1 h2 b h=>by
      have:=SZ1.out
      rcases h with (h|h)|h
      ·exact .inl h
      ·exact .inr ⟨h.1,by omega⟩
      ·exact .inr ⟨by omega,by omega⟩
     have b9:∀ b,New (fun b=>S b∨w.heap.size+3≤b∧b<w1.heap.size) w1.drew w2 b→b<w2.heap.size:=fun b h=>by
      rcases h with h|h
      ·have:=HSS.out b h;omega
      ·exact h.2
     have PF:ArgsAt (fun b=>S b∨w.heap.size+3≤b∧b<w3.heap.size) w3 (.slice pa px.args.length pc) px.args:=by
      first
       | exact hP.mono (m9 hs2 (Nat.le_refl _))
       | exact (hP.keep fun b hb=>hb3.block b (b9 b hb)).mono (m9 (Nat.le_refl _) hs3)
     have RF:ArgsAt (fun b=>S b∨w.heap.size+3≤b∧b<w3.heap.size) w3 (.slice ra py.args.length rc) py.args:=by
      first
       | exact hR.mono (m9 hs2 (Nat.le_refl _))
       | exact (hR.keep fun b hb=>hb3.block b (b9 b hb)).mono (m9 (Nat.le_refl _) hs3)
     obtain⟨LL,RR,PP⟩:=says_end_nodraw (x:=px) (y:=py) (xa:=pa) (xc:=pc) (ya:=ra) (yc:=rc) (M1.out.low hB3) HS.out PF RF
     go_wp2
     refine bodyPost_ret (v:=.tuple #[tv px pa pc,tv py ra rc]) (by simp[results,Tryz.results27,go_sem,tv,LL.c0,LL.c1,LL.c2,LL.c3,RR.c0,RR.c1,RR.c2,RR.c3]) rfl ?_
     rw[E3.out]
     exact PP
   ·have k1:((h0 xs).kind==5)=true:=by rw[hx5];rfl
    have k2:((h0 ys).kind==5)=false:=by rw[beq_eq_false_iff_ne];exact hy5
    have E3:saysF (d+1) g c=none:=by rw[E4.out,if_neg fun h=>hy5 h.2]
    have Z:=Lib.hid (no.out E3)
    clear hM1 hlen E2 E4 hkl hbx hby hlx hly hAx hAy fx fy hSS hsz hx5 hy5 E3 no
    go_wp2_with fail
    refine (need_no _).mono ?_
    rintro e w' ⟨rfl,rfl⟩
    go_wp2
    exact⟨rfl,Z.out⟩
  ·have k1:((h0 xs).kind==5)=false:=by rw[beq_eq_false_iff_ne];exact hx5
   have E3:saysF (d+1) g c=none:=by rw[E4.out,if_neg fun h=>hx5 h.1]
   have Z:=Lib.hid (no.out E3)
   clear hM1 hlen E2 E4 hkl hbx hby hlx hly hAx hAy fx fy hSS hsz hx5 E3 no
   go_wp2_with fail
   refine (need_no _).mono ?_
   rintro e w' ⟨rfl,rfl⟩
   go_wp2
   exact⟨rfl,Z.out⟩
end Go.Proofs.YtkihnodkhnahiaaGreatDoor.Tp

/-
  The answer to any equations, or the first error, is as the document says: for every list of at most eight lines of at most 120 bytes a side, with at most 24 variables and unknowns in all; at anything else the law tells what its examples tell.
-/
import Derived.Test.YtjecnionbjlncaaGreatDoorP52
import Derived.Test.YtjecnionbjlncaaGreatDoorCards
import Derived.Test.YtjecnionbjlncaaGreatDoorTie
import Derived.SevenTiedAt

namespace Go.Proofs.YtjecnionbjlncaaGreatDoor.Tp
open Go.RowKit Go.Sort
def UnR (es:List EqT)(w:World)(e:Ending)(w':World):Prop:=Below w.heap.size w w'∧((∃ er:Nat,40≤er∧eb_ ⟨[],es.map dbE,0⟩ (.error er)∧e=.returned (.tuple #[.slice none 0 0,.int .i64 (er:Int)])) ∨
 ∃ K O v,UnF es K∧sU_ K K.length O∧e=.returned (.tuple #[v,.int .i64 0])∧fe_ w' v O)
set_option maxRecDepth 100000 in
set_option maxHeartbeats 12800000 in
theorem runify_any {w:World}{v0:Value}{es:List EqT}(hE:qJ_ w v0 es)(E:Es es):Calls Tryz.prog 15 #[v0] w (UnR es w):=by
 obtain⟨va,vc,rfl⟩:∃ a c,v0=.slice a es.length c:=by
  obtain⟨a,c,e,_⟩:=hE
  exact⟨a,c,e⟩
 have RE:=hid hE
 have EE:=hid E
 have HLE:Hid (es.length≤16):=hid E.ln
 have S0:=hid (UnS.start E)
 clear hE E
 go_enter Tryz.func15,Tryz.ntmps15
 go_wp2
 go_loopw [4,5,6] (fun lv nv iv wr=>∃ (i fi:Nat) (Ki:Kn),nv=.int .i64 (fi:Int)∧iv=.int .i64 (i:Int)∧i≤es.length∧fe_ wr lv Ki∧UnS es i Ki fi∧Below w.heap.size w wr) (fun _ _ iv _=>es.length - (intOf iv).toNat)
 case atStart=>exact⟨0,0,[],rfl,rfl,Nat.zero_le _,fe_.nil _,S0.out,Below.refl _ _⟩
 case round =>
  clear S0
  obtain⟨i,fi,Ki,rfl,rfl,hil,hKr,hS,hBr⟩:=hrel
  obtain⟨la,lc,rfl⟩:=hKr.form
  have i0:(0:Int)≤(i:Int):=by omega
  have RKr:=hid hKr
  have BR:=hid hBr
  have hl16:=HLE.out
  by_cases hi:i<es.length
  ·have i1:(i:Int)<(es.length:Int):=by omega
   have i2:(i:Int)<16:=by omega
   obtain⟨b,off,xa,xc,ya,yc,rfl,hb,hl4,hr4,hAl,hAr⟩:=RE.out.one hi
   have kk:∀ o,wr.cell? ⟨b,o,none⟩=w.cell? ⟨b,o,none⟩:=fun o=>World.cell?_of_block (hBr.block b hb)
   have f0:=(kk _).trans hl4.1
   have f1:=(kk _).trans hl4.2.1
   have f2:=(kk _).trans hl4.2.2.1
   have f3:=(kk _).trans hl4.2.2.2
   have g0:=(kk _).trans hr4.1
   have g1:=(kk _).trans hr4.2.1
   have g2:=(kk _).trans hr4.2.2.1
   have g3:=(kk _).trans hr4.2.2.2
   have hBd:=hBr.drew
   have hone:=hS.one hi
   have SER:=hid (fun er=>hS.err (er:=er) hi)
   have SNX:=hid (fun K' f'=>hS.next (K':=K') (f':=f') hi)
   have CS:Hid (Calls Tryz.prog 38 #[.slice la Ki.length lc,.agg #[.int .i64 es[i].1.kind,.string es[i].1.name,.int .i64 es[i].1.n,.slice xa es[i].1.args.length xc],.agg #[.int .i64 es[i].2.kind,.string es[i].2.name,.int .i64 es[i].2.n,.slice ya es[i].2.args.length yc],.int .i64 (fi:Int)] wr.drew (SvP (LE es) (nE es) (NLE es) (AE es) Ki es[i].1 es[i].2 (es.drop (i+1)) fi wr.drew)):=hid (s6_ (kD_ EE.out) _ Ki _ _ _ fi _ xa ya xc yc wr.drew hone (Nat.lt_succ_self _) (hKr.low (Below.refl _ _).drew) (hAl.low hBd) (hAr.low hBd))
   clear hl4 hr4 hAl hAr hb kk hBd hone hS hKr hBr
   generalize es[i]=x at *
   go_wp2
   go_region_law (go_simp;go_at_call 38;(with_reducible refine CS.out.mono ?_);rintro e w11 ⟨v11,k11,er11,rfl,hb11,hq11⟩;have BD11:Hid (Below wr.heap.size wr w11):=hid ((Below.refl _ _).drew.trans hb11);have HQ11:=hid hq11;clear hb11 hq11)
   all_goals
    obtain⟨res,hsv,hm⟩:=HQ11.out
    have BO:=hid (BR.out.trans (BD11.out.mono BR.out.size))
    cases res with
    | error er =>
     obtain⟨rfl,rfl⟩:=hm
     have FR:=hid (SER.out er hsv)
     have H40:=hid hsv.1
     have he:((er:Int) != 0)=true:=bne_iff_ne.2 (by have:=hsv.1;omega)
     clear hsv f0 f1 f2 f3 g0 g1 g2 g3
     go_wp2
     refine bodyPost_ret (v:=.tuple #[.slice none 0 0,.int .i64 (er:Int)]) (by simp[results,Tryz.results15,go_sem]) rfl ?_
     exact⟨BO.out,.inl ⟨er,H40.out,FR.out,rfl⟩⟩
    | ok pr =>
     obtain⟨K',f'⟩:=pr
     obtain⟨rfl,rfl,hkr⟩:=hm
     have SN:=hid (SNX.out K' f' hsv)
     have HKR:=hid hkr
     clear hsv hkr f0 f1 f2 f3 g0 g1 g2 g3
     go_wp2
     go_roundw
     case rel=>exact⟨i+1,f',K',rfl,by go_num,by omega,HKR.out,SN.out,BO.out⟩
     case measure=>simp[intOf];omega
  ·obtain rfl:i=es.length:=by omega
   have hF:=hS.fin EE.out rfl
   have UF:=hid hF
   have NDP:=hid hF.nd
   obtain⟨fr,hflk,hrow⟩:=hF.flk
   have FLK:=hid hflk
   have ROW:=hid hrow
   have KLN:Hid (Ki.length≤90):=hid hF.ln
   have kln:=hF.ln
   clear hS hKr hBr hF hflk hrow
   obtain⟨wo,hwo⟩:∃ wo:World,wo=wr:=⟨_,rfl⟩
   subst hwo
   go_wp2
   go_loopw [10,11] (fun ov iv wr=>∃ (i:Nat) (O:Kn),iv=.int .i64 (i:Int)∧i≤Ki.length∧fe_ wr ov O∧sU_ Ki i O∧Below wo.heap.size wo wr) (fun _ iv _=>Ki.length - (intOf iv).toNat)
   case atStart=>exact⟨0,[],rfl,Nat.zero_le _,fe_.nil _,sU_.nil _,Below.refl _ _⟩
   case round =>
    obtain⟨i,O,rfl,hil,hOr,hO,hBr⟩:=hrel
    obtain⟨oa,oc,rfl⟩:=hOr.form
    have j0:(0:Int)≤(i:Int):=by omega
    have RO:=hid hOr
    have OI:=hid hO
    have BO:=hid hBr
    have hON:O.length=i:=hO.ln
    have HON:=hid hON
    have hol:O.length≤90:=by omega
    have HOL:=hid hol
    clear hON
    by_cases hi:i<Ki.length
    ·have j1:(i:Int)<(Ki.length:Int):=by omega
     have RKw:=RKr.out.low hBr
     obtain⟨b,off,ta,tc,rfl,hb,hc5,hAt⟩:=RKw.ks.at_ hi
     have hm:=List.getElem_mem hi
     obtain⟨nT,dT,fT,zT⟩:=ROW.out _ hm
     have e0:=hc5.1
     have e1:=hc5.2.1
     have e2:=hc5.2.2.1
     have e3:=hc5.2.2.2.1
     have e4:=hc5.2.2.2.2
     have hzB:Below wr.heap.size wr (wr.alloc (.cells #[.int .i64 0,.int .i64 0,.string ⟨#[]⟩,.int .i64 0,.slice none 0 0] 45)):=aq_ _ _
     have kz:∀ o,(wr.alloc (.cells #[.int .i64 0,.int .i64 0,.string ⟨#[]⟩,.int .i64 0,.slice none 0 0] 45)).cell? ⟨b,o,none⟩=wr.cell? ⟨b,o,none⟩:=fun o=>World.cell?_of_block (hzB.block b hb)
     have e5:=(kz _).trans e0
     have e6:=(kz _).trans e1
     have e7:=(kz _).trans e2
     have e8:=(kz _).trans e3
     have e9:=(kz _).trans e4
     have hzT:(fl (sg Ki) (dbT [] Ki[i].2)).size≤LIM:=by rw[dT,fT];exact zT
     have CFA:=hid (ki_ RKw.ks FLK.out _ (Lt wr.heap.size) Ki[i].2 ta tc wr.drew (fun _ h=>h) (fun _ h=>h) (Below.refl _ _).drew (show aa_ (Lt wr.heap.size) wr.drew _ _ from hAt.low (Below.refl _ _).drew) nT hzT (Nat.lt_succ_self _))
     have hzA:Below wr.heap.size wr (wr.alloc (.cells #[.int .i64 0,.int .i64 0,.string ⟨#[]⟩,.int .i64 0,.slice none 0 0] 45)).drew:=(aq_ _ _).drew
     have CFB:=hid (ki_ RKw.ks FLK.out _ (Lt wr.heap.size) Ki[i].2 ta tc (wr.alloc (.cells #[.int .i64 0,.int .i64 0,.string ⟨#[]⟩,.int .i64 0,.slice none 0 0] 45)).drew (fun _ h=>h) (fun b' h=>aU_ h hzA.size) hzA (hAt.keep fun b' hb'=>hzA.block b' hb') nT hzT (Nat.lt_succ_self _))
     have GET:Hid (∀ y,FlO Ki Ki[i].2 y→Std y∧dbT [] y=sg Ki Ki[i].1):=hid (fun y hy=>⟨hy.1,by rw[hy.2.2,dT,fT]⟩)
     have PUTO:Hid (∀ y,FlO Ki Ki[i].2 y→∀ p,p≤O.length→(∀ j (h:j<O.length),j<p→O[j].1<Ki[i].1)→(∀ h:p<O.length,¬ O[p].1<Ki[i].1)→sU_ Ki (i+1) (s8_ p (Ki[i].1,y) O)):=hid (fun y hy p hp h1 h2=>OI.out.put NDP.out hi (x:=(Ki[i].1,y)) rfl (GET.out y hy).1 (GET.out y hy).2 hp h1 h2)
     have ZA:=hid hzA
     have HBB:=hid hb
     have E0:=hid e0
     clear kz hzB hb hc5 hAt hm nT dT fT zT hzT hOr hO hBr RKw hzA
     generalize Ki[i].1=m at *
     generalize Ki[i].2=t at *
     go_upto_region 15 with fail
     go_cut [12] from 49 to 61 (fun s wx=>∃ bx y ya yc,s=.pointer (some ⟨bx,0,none⟩)∧wx.heap[bx]? = some (.cells #[.int .i64 m,.int .i64 y.kind,.string y.name,.int .i64 y.n,.slice ya y.args.length yc] 45 (0,0))∧AtW y ya yc wx∧FlO Ki t y∧Below wr.heap.size wr wx)
     case first =>
      go_region_law (first
       | (go_simp;go_at_call 39;(with_reducible refine CFA.out.mono ?_);rintro e w4 ⟨y,ya,yc,rfl,hA4,hb4,hy⟩;have HA4:=hid hA4;have HB4:=hid ((Below.refl wr.heap.size wr).drew.trans hb4);have HY4:=hid hy;have m0:=(World.cell?_of_block (HB4.out.block b HBB.out)).trans E0.out;have m1:=(World.cell?_of_block ((aq_ w4 (.cells #[.int .i64 0,.int .i64 0,.string ⟨#[]⟩,.int .i64 0,.slice none 0 0] 45)).block b (aU_ HBB.out HB4.out.size))).trans m0;clear hA4 hb4 hy)
       | (go_simp;go_at_call 39;(with_reducible refine CFB.out.mono ?_);rintro e w4 ⟨y,ya,yc,rfl,hA4,hb4,hy⟩;have HA4:=hid hA4;have HB4:=hid (ZA.out.trans (hb4.mono ZA.out.size));have HY4:=hid hy;have m0:=(World.cell?_of_block (HB4.out.block b HBB.out)).trans E0.out;have r5:=(R5.low (w:=(wr.alloc (.cells #[.int .i64 0,.int .i64 0,.string ⟨#[]⟩,.int .i64 0,.slice none 0 0] 45)).drew) (R5.new wr (.int .i64 0) (.int .i64 0) (.string ⟨#[]⟩) (.int .i64 0) (.slice none 0 0)) hb4);have s0:=r5.c0;have s1:=r5.c1;have s2:=r5.c2;have s3:=r5.c3;have s4:=r5.c4;have g0:=r5.fr 0;have g1:=r5.fr 1;have g2:=r5.fr 2;have g3:=r5.fr 3;have g4:=r5.fr 4;have K5:=hid r5;clear hA4 hb4 hy r5))
      all_goals
       go_wp2_with fail
       go_meet
       first
        | (have k5:=K5.out;exact⟨wr.heap.size,y,ya,yc,rfl,K5.out.set5 _ _ _ _ _,aside5 HA4.out HB4.out.size (by simp) _ _ _ _ _,HY4.out,ta_ HB4.out (aA_ _) _ _ _ _ _⟩)
        | exact⟨w4.heap.size,y,ya,yc,rfl,R5.new w4 _ _ _ _ _,(HA4.out.keep (B:=w4.alloc (.cells #[.int .i64 m,.int .i64 y.kind,.string y.name,.int .i64 y.n,.slice ya y.args.length yc] 45)) fun b' hb'=>heap_alloc_old w4 _ (hb'.elim (fun h=>aU_ h HB4.out.size) (fun h=>h.2))).mono fun b' hb'=>by simp;exact Nat.lt_succ_of_lt (hb'.elim (fun h=>aU_ h HB4.out.size) (fun h=>h.2)),HY4.out,HB4.out.alloc HB4.out.size _⟩
     obtain⟨bx,y,ya,yc,rfl,hbx,hAy,hy,hBx⟩:=hcut
     have BX:=hid (show R5 wc bx _ _ _ _ _ from hbx)
     have AY:=hid hAy
     have PO:=hid (PUTO.out y hy)
     have ROc:=hid (RO.out.low hBx)
     have BOc:=hid (BO.out.trans (hBx.mono BO.out.size))
     clear hbx hAy hy hBx CFA CFB GET PUTO e0 e1 e2 e3 e4 e5 e6 e7 e8 e9 ZA
     obtain⟨wp,hwp⟩:∃ wp:World,wp=wc:=⟨_,rfl⟩
     subst hwp
     go_wp2
     go_loopw [13] (fun iv wr=>∃ p:Nat,iv=.int .i64 (p:Int)∧p≤O.length∧(∀ j (h:j<O.length),j<p→O[j].1<m)∧Below wp.heap.size wp wr) (fun iv _=>O.length - (intOf iv).toNat)
     case atStart=>exact⟨0,rfl,Nat.zero_le _,fun j _ h=>by omega,Below.refl _ _⟩
     case round =>
      obtain⟨p,rfl,hpl,hlt,hB2⟩:=hrel
      have p0:(0:Int)≤(p:Int):=by omega
      have LT:=hid hlt
      have B2:=hid hB2
      have ROr:=hid (ROc.out.low hB2)
      have BXr:=hid (BX.out.low hB2)
      clear hlt hB2
      obtain⟨gv,hgv⟩:∃ gv,gv=decide (∃ h:p<O.length,O[p].1<m):=⟨_,rfl⟩
      have GV:=hid hgv
      clear hgv
      have x0:=BXr.out.c0
      go_upto_region 17 with fail
      go_cut [75] from 62 to 75 (fun s wx=>s=.bool gv∧Below wr.heap.size wr wx)
      case first =>
       by_cases hp:p<O.length
       ·have p1:(p:Int)<(O.length:Int):=by omega
        have p2:decide ((p:Int)<(O.length:Int))=true:=decide_eq_true p1
        obtain⟨b2,off2,xa2,xc2,e2,hb2,hc2,_⟩:=ROr.out.ks.at_ hp
        have q0:=hc2.1
        subst e2
        by_cases hm:O[p].1<m
        ·have z:decide (O[p].1<m)=true:=decide_eq_true hm
         have HE:Hid (gv=true):=hid (GV.out.trans (decide_eq_true ⟨hp,hm⟩))
         clear hc2 hb2 hm
         generalize O[p].1=mo at *
         go_quiet (fail)
         go_wp2_with fail
         go_meet
         exact⟨congrArg Value.bool HE.out.symm,bg_ (Below.refl _ _) _⟩
        ·have z:decide (O[p].1<m)=false:=decide_eq_false hm
         have HE:Hid (gv=false):=hid (GV.out.trans (decide_eq_false fun h=>hm h.2))
         clear hc2 hb2 hm
         generalize O[p].1=mo at *
         go_quiet (fail)
         go_wp2_with fail
         go_meet
         exact⟨congrArg Value.bool HE.out.symm,bg_ (Below.refl _ _) _⟩
       ·have z:decide ((p:Int)<(O.length:Int))=false:=decide_eq_false (by omega)
        have HE:Hid (gv=false):=hid (GV.out.trans (decide_eq_false fun h=>hp h.1))
        refine a6_ (by kernel_rfl) (by kernel_rfl) ?_
        repeat (go_big_quiet_step (fail))
        refine wpQuiet_nil ?_
        intro _ hw'
        obtain⟨pq,hw''⟩:=hw'
        subst hw''
        go_wp2_with fail
        go_meet
        exact⟨congrArg Value.bool HE.out.symm,ao_ _ _⟩
      obtain⟨rfl,hBq⟩:=hcut
      have B3:=hid (B2.out.trans (hBq.mono B2.out.size))
      have RO3:=hid (ROr.out.low hBq)
      have BX3:=hid (BXr.out.low hBq)
      clear hBq x0
      cases gv with
      | true =>
       obtain⟨hp,hm⟩:=of_decide_eq_true GV.out.symm
       have NX:Hid (∀ j (h:j<O.length),j<p+1→O[j].1<m):=hid fun j h hj=>by
        rcases Nat.lt_or_ge j p with h1|h1
        ·exact LT.out j h h1
        ·have:j=p:=by omega
         subst this
         exact hm
       clear hm
       go_wp2
       go_roundw
       case rel=>exact⟨p+1,by go_num,by omega,NX.out,B3.out⟩
       case measure=>simp[intOf];omega
      | false =>
       have hno:∀ h:p<O.length,¬ O[p].1<m:=fun h hh=>of_decide_eq_false GV.out.symm ⟨h,hh⟩
       have OP:=hid (PO.out p hpl LT.out fun h=>by have:=hno h;omega)
       have AY3:=hid (AY.out.low B3.out)
       clear hno
       have hoc:=RO3.out.cap
       have p2:(p:Int)≤(oc:Int):=by omega
       have p3:(p:Int)≤(O.length:Int):=by omega
       have p4:(O.length:Int)≤(oc:Int):=by omega
       have x0:=BX3.out.c0
       have x1:=BX3.out.c1
       have x2:=BX3.out.c2
       have x3:=BX3.out.c3
       have x4:=BX3.out.c4
       go_upto_region 19 with fail
       have PA:=hid (ins_a 32 (x:=(m,y)) RO3.out hpl HOL.out AY3.out)
       have HPL:=hid hpl
       have HL9:Hid (([(m,y)]++O.drop p).length=O.length - p+1):=hid (by rw[List.length_append,List.length_drop,List.length_singleton];omega)
       go_region_law (first
        | ((with_reducible show (if Region.wanted _ _=true then Oper.wp _ _ _ (World.drew (World.alloc _ _)) _ _ else _));refine ah_ (by rfl) _ _ _ (by rfl) (by rfl) (by rfl) PA.out ?_;rintro v9 w9 ⟨hr9,hb9⟩;obtain⟨a9,c9,hv9⟩:=hr9.form;rw[HL9.out] at hv9;subst hv9;have R9:=hid hr9;have B9:=hid hb9;clear hr9 hb9))
       all_goals
        have RO9:=hid (RO3.out.low B9.out)
        have PB:=hid (ins_b 32 32 RO9.out HPL.out HOL.out R9.out (by rw[List.length_append,List.length_drop,List.length_singleton];have:=HOL.out;omega))
        have BW:=hid (BOc.out.trans ((B3.out.trans (B9.out.mono B3.out.size)).mono BOc.out.size))
        clear x0 x1 x2 x3 x4
        go_wp2_with (at_builtin;first|(refine ec_ (by rfl) _ _ _ (by rfl) (by rfl) (by rfl) PB.out ?_;rintro v1 w1 hpc;have PC:=hid hpc;clear hpc PB)|(refine ec_ (by rfl) _ _ _ (by rfl) (by rfl) (by rfl) PC.out ?_;rintro v2 w2 ⟨hk2,hb2⟩;have K2:=hid hk2;have B20:=hid hb2;clear hk2 hb2))
        go_roundw
        case rel=>exact⟨i+1,s8_ p (m,y) O,by go_num,by omega,K2.out,OP.out,BW.out.trans (B20.out.mono BW.out.size)⟩
        case measure=>simp[intOf];omega
    ·obtain rfl:i=Ki.length:=by omega
     have BW:=hid (BR.out.trans (hBr.mono BR.out.size))
     clear hOr hO hBr
     go_wp2
     refine bodyPost_ret (v:=.tuple #[.slice oa O.length oc,.int .i64 0]) (by simp[results,Tryz.results15,go_sem]) rfl ?_
     exact⟨BW.out,.inr ⟨Ki,O,_,UF.out,OI.out,rfl,RO.out⟩⟩
end Go.Proofs.YtjecnionbjlncaaGreatDoor.Tp

namespace Go.Proofs.YtjecnionbjlncaaGreatDoor.Tp
open Lx Go.RowKit
structure Fit (kR O:Kn):Prop where
 ln:O.length=kR.length
 le:kR.length≤24
 at_:∀ i (h:i<O.length) (h':i<kR.length),O[i].1=kR[i].1∧b5_ kR[i].2∧j2_ O[i].2∧aw_ O[i].2=aw_ kR[i].2
theorem plays_fit {es:List EqT}(E:Es es){res:Except Nat Kn}(hd:eb_ ⟨[],es.map dbE,0⟩ res)(hk:∀ K,res=.ok K→Kd es K){kR:Kn}{er:Nat}(hf:tellD res=.ok kR∧er=0∨tellD res=.error er∧kR=[]){w w':World}{e:Ending}(h:UnR es w e w') :
  ∃ O a c,e=.returned (.tuple #[.slice a (O:Kn).length c,.int .i64 (er:Int)])∧Below w.heap.size w w'∧fe_ w' (.slice a O.length c) O∧Fit kR O:=by
 obtain⟨hb,h⟩:=h
 cases res with
 | error e1 =>
  rcases hf with ⟨h1,_⟩|⟨h1,rfl⟩
  ·cases h1
  injection h1 with h1
  subst h1
  rcases h with ⟨e2,_,h2,rfl⟩|⟨K,O,v,F,_,_,_⟩
  ·have:=hd.det h2
   injection this with this
   subst this
   exact⟨[],none,0,rfl,hb,fe_.nil _,rfl,by simp,fun i h=>by simp at h⟩
  ·have:=hd.det F.run
   cases this
 | ok K =>
  have hf2:jr_ K=kR∧er=0:=by
   rcases hf with ⟨h1,h2⟩|⟨h1,_⟩
   ·injection h1 with h1;exact⟨h1,h2⟩
   ·cases h1
  obtain⟨h1,rfl⟩:=hf2
  subst h1
  have D:=hk K rfl
  rcases h with ⟨e2,_,h2,_⟩|⟨K2,O,v,F,I,rfl,hkr⟩
  ·have:=hd.det h2
   cases this
  have:=hd.det F.run
  injection this with this
  subst this
  obtain⟨a,c,rfl⟩:=hkr.form
  have hl:O.length=(jr_ K).length:=by
   have h1:=congrArg List.length (I.keys D.ko.nodup)
   unfold jr_
   rw[List.length_map] at h1 ⊢
   exact h1
  refine⟨O,a,c,rfl,hb,hkr,hl,D.len E,fun i h h'=>?_⟩
  obtain⟨⟨fr,hfr,hn⟩,h0,h1,e2,_,_⟩:=D.mem E _ (List.getElem_mem h')
  have ek:O[i].1=(jr_ K)[i].1:=by
   have h3:(O.map fun x=>x.1)[i]'(by rw[List.length_map];exact h)=((jr_ K).map fun x=>x.1)[i]'(by rw[List.length_map];exact h'):=by
    have h4:(jr_ K).map (fun x=>x.1)=dq_ K:=by unfold jr_;rw[List.map_map];exact (List.map_congr_left fun _ _=>rfl).trans (List.map_id _)
    simp only[h4,I.keys D.ko.nodup]
   rw[List.getElem_map,List.getElem_map] at h3
   exact h3
  obtain⟨t1,t2⟩:=I.ty _ (List.getElem_mem h)
  have ed:dbT [] O[i].2=dbT [] (jr_ K)[i].2:=by
   rw[t2,ek,← e2]
   exact (cz_ _ hn.st (by rw[e2];exact (D.ko.facts.pr _).no5)).symm
  exact⟨ek,hn.small (ra_ E hfr),oD_ t1 hn (ra_ E hfr) ed,congrArg ac_ (g9_ t1 hn.st ed)⟩
end Go.Proofs.YtjecnionbjlncaaGreatDoor.Tp

namespace Go.Proofs.YtjecnionbjlncaaGreatDoor.Tp
open Go.RowKit Go.Sort
set_option maxRecDepth 100000 in
set_option maxHeartbeats 6400000 in
theorem unifyPlays_walk (v0:Value)(ls:List Ln)(w:World)(hL:mO_ w v0 ls)(hT:Tab w):Calls Tryz.prog 3 #[v0] w fun e w'=>e=.returned (.bool true)∧Below w.heap.size w w':=by
 have HT:=hid hT
 have RL_0:=hid hL
 clear hT hL
 go_enter Tryz.func3,Tryz.ntmps3
 have C:=hid (tb_ _ HT.out)
 go_wp2_with fail
 refine C.out.mono ?_
 rintro e w1 ⟨rfl,hB⟩
 clear C
 have RL_1:=hid (RL_0.out.low hB)
 have B_1:=hid (hB)
 clear hB RL_0
 have C:=hid (nv_ _ v0 ls RL_1.out)
 go_wp2_with fail
 refine C.out.mono ?_
 rintro e w2 ⟨hB,hres⟩
 clear C
 cases hq:dp_ ls with
 | none =>
  rw[hq] at hres
  subst hres
  clear hq
  have RL_2:=hid (RL_1.out.low hB)
  have B_2:=hid (B_1.out.trans (hB.mono B_1.out.size))
  clear hB RL_1 B_1
  go_wp2
  go_ret
  exact⟨rfl,B_2.out⟩
 | some es =>
  rw[hq] at hres
  obtain⟨v,u,ps,qs,rfl,hE⟩:=hres
  obtain⟨va,vc,rfl⟩:=aL_ hE.a.own
  obtain⟨ua,uc,rfl⟩:=aL_ hE.b.own
  have Ees:=hid (es_of hq)
  have hEs:qJ_ w2 (.slice va es.length vc) es:=hE.a.es (by have:=Ees.out.ln;omega) fun b hb=>hb.2.1
  have hEb:qJ_ w2 (.slice ua es.length uc) es:=hE.b.es (by have:=Ees.out.ln;omega) fun b hb=>hb.2.1
  have RG_0:=hid hEb
  clear hq hE hEb
  have RL_2:=hid (RL_1.out.low hB)
  have B_2:=hid (B_1.out.trans (hB.mono B_1.out.size))
  have RE_2:=hid hEs
  clear hB hEs RL_1 B_1
  have RG_2:=hid RG_0.out
  clear RG_0
  clear RL_2
  obtain⟨j,res,hj,hu,hd,hc⟩:=rj_ Ees.out
  have HKD:Hid (∀ K,res=.ok K→Kd es K):=hid (by
   rcases hc with ⟨er,rfl,_⟩|⟨K,rfl,h⟩
   ·intro K e;cases e
   ·intro K' e;injection e with e;subst e;exact h)
  have HDR:=hid hd
  have HUN:=hid hu
  have HJ:=hid hj
  clear hc hd hu hj
  have C:=hid (RE_2.out.call (fun e he=>(Ees.out.ok e he).sm) (by have:=Ees.out.ln;omega) (an_ HT.out B_2.out) HUN.out (by have:=HJ.out;omega))
  go_wp2_with fail
  refine C.out.mono ?_
  rintro e w3 hun
  obtain⟨ka,kc,kR,er,rfl,hK,hB,hk⟩:=jU_.form hun
  clear C hun
  have RE_3:=hid (RE_2.out.low hB)
  have RG_3:=hid (RG_2.out.low hB)
  have B_3:=hid (B_2.out.trans (hB.mono B_2.out.size))
  have RK_3:=hid hK
  clear hB hK RE_2 RG_2 B_2
  have HF:=hid hk
  clear hk
  have C:=hid (runify_any RG_3.out Ees.out)
  go_wp2_with fail
  refine C.out.mono ?_
  rintro e w4 hun
  obtain⟨O,oa,oc,rfl,hB,hO,hfit⟩:=plays_fit Ees.out HDR.out HKD.out HF.out hun
  have FT:=hid hfit
  have hRO:=hid hO
  clear C hun hfit hO
  have RE_4:=hid (RE_3.out.low hB)
  have RG_4:=hid (RG_3.out.low hB)
  have RK_4:=hid (RK_3.out.low hB)
  have B_4:=hid (B_3.out.trans (hB.mono B_3.out.size))
  clear hB RE_3 RG_3 RK_3 B_3
  clear RE_4
  clear RG_4
  have RO:=hRO
  clear hRO
  have BT:=hid B_4.out
  have RK:=hid RK_4.out
  have hln:=FT.out.ln
  have hle:=FT.out.le
  have z0:((er:Int) != (er:Int))=false:=bne_self_eq_false _
  have z1:((kR.length:Int) != (O.length:Int))=false:=by rw[hln];exact bne_self_eq_false _
  clear B_4 RK_4 HKD HDR HUN HJ HF
  go_wp2
  go_loopw [11] (fun iv wr=>∃ i:Nat,iv=.int .i64 i∧i≤kR.length∧Below w4.heap.size w4 wr) (fun iv _=>kR.length - (intOf iv).toNat)
  case atStart=>exact⟨0,rfl,Nat.zero_le _,Below.refl _ _⟩
  case round =>
   obtain⟨i,rfl,hil,hBr⟩:=hrel
   have i0:(0:Int)≤(i:Int):=by omega
   have BR:=hid (BT.out.trans (hBr.mono BT.out.size))
   have RK2:=hid (RK.out.low hBr)
   have RO2:=hid (RO.out.low hBr)
   have BW:=hid hBr
   clear hBr
   by_cases hi:i<kR.length
   ·have i1:(i:Int)<(kR.length:Int):=by omega
    have i2:(i:Int)<24:=by omega
    have hi2:i<O.length:=by omega
    have i3:(i:Int)<(O.length:Int):=by omega
    obtain⟨b,off,xa,xc,rfl,hb,hc5,hAx⟩:=RK2.out.at_ hi
    obtain⟨b2,off2,ya,yc,rfl,hb2,hd5,hAy⟩:=RO2.out.ks.at_ hi2
    obtain⟨e1,e2,e3,e4⟩:=FT.out.at_ i hi2 hi
    have CC:=hid (oC_ hAx e2 (an_ HT.out BR.out))
    have AY:=hid hAy
    have CU:=hid e3
    have EC:=hid e4
    rw[e1] at hd5
    have D5:=hid hd5
    have c0:=hc5.1
    have C0:=hid c0
    have c1:=hc5.2.1
    have c2:=hc5.2.2.1
    have c3:=hc5.2.2.2.1
    have c4:=hc5.2.2.2.2
    have HBL:=hid hb
    have HBL2:=hid hb2
    clear hc5 hAx hAy hb hb2 hd5 e1 e2 e3 e4
    generalize O[i]=y at *
    generalize kR[i]=x at *
    go_wp2_with fail
    refine CC.out.mono ?_
    rintro e w20 ⟨rfl,hB⟩
    have KK:Hid (∀ W:World,Below w20.heap.size w20 W→(∀ o,W.cell? ⟨b,o,none⟩=wr.cell? ⟨b,o,none⟩)∧∀ o,W.cell? ⟨b2,o,none⟩=wr.cell? ⟨b2,o,none⟩):=hid fun W h=>⟨fun o=>(World.cell?_of_block (h.block b (aU_ HBL.out hB.size))).trans (World.cell?_of_block (hB.block b HBL.out)),fun o=>(World.cell?_of_block (h.block b2 (aU_ HBL2.out hB.size))).trans (World.cell?_of_block (hB.block b2 HBL2.out))⟩
    have BW2:=hid (BW.out.trans (hB.mono BW.out.size))
    have AY2:=hid (AY.out.low hB)
    clear CC hB c0 c1 c2 c3 c4
    go_upto_region 13 with fail
    go_cut [75] from 55 to 75 (fun s wx=>s=.bool false∧Below w20.heap.size w20 wx)
    case first =>
     have KD:Hid (∀ W:World,Below w20.heap.size w20 W→(W.cell? ⟨b,off+i*5,none⟩=some (.int .i64 x.1))∧(W.cell? ⟨b2,off2+i*5,none⟩=some (.int .i64 x.1))∧W.cell? ⟨b2,off2+i*5+1,none⟩=some (.int .i64 y.2.kind)∧W.cell? ⟨b2,off2+i*5+2,none⟩=some (.string y.2.name)∧W.cell? ⟨b2,off2+i*5+3,none⟩=some (.int .i64 y.2.n)∧W.cell? ⟨b2,off2+i*5+4,none⟩=some (.slice ya y.2.args.length yc)):=hid (fun W h=>⟨((KK.out W h).1 _).trans C0.out,((KK.out W h).2 _).trans D5.out.1,((KK.out W h).2 _).trans D5.out.2.1,((KK.out W h).2 _).trans D5.out.2.2.1,((KK.out W h).2 _).trans D5.out.2.2.2.1,((KK.out W h).2 _).trans D5.out.2.2.2.2⟩)
     have HD:=hid ((Below.refl w20.heap.size w20).drew)
     have CA1:=hid (fun (W:World) (h:Below w20.heap.size w20 W)=>lc_ (AY2.out.low h) CU.out)
     have zm:(x.1 != x.1)=false:=bne_self_eq_false _
     have ZC:Hid (((ab_ (aw_ x.2)).toList != (ab_ (aw_ y.2)).toList)=false):=hid (by rw[EC.out];exact bne_self_eq_false _)
     have hkd:=KD.out _ HD.out
     try simp only[and_assoc] at hkd
     obtain⟨hk0,hk1,hk2,hk3,hk4,hk5⟩:=hkd
     go_region_held3 (fun w'=>(w'.cell? ⟨b,off+i*5,none⟩=some (.int .i64 x.1))∧(w'.cell? ⟨b2,off2+i*5,none⟩=some (.int .i64 x.1))∧w'.cell? ⟨b2,off2+i*5+1,none⟩=some (.int .i64 y.2.kind)∧w'.cell? ⟨b2,off2+i*5+2,none⟩=some (.string y.2.name)∧w'.cell? ⟨b2,off2+i*5+3,none⟩=some (.int .i64 y.2.n)∧w'.cell? ⟨b2,off2+i*5+4,none⟩=some (.slice ya y.2.args.length yc))
      (first|(with_reducible exact KD.out _ HX1.out)|(with_reducible exact KD.out _ HD.out))
      (first
       | (go_at_call 17;(with_reducible refine (CA1.out _ HD.out).mono ?_);rintro e x1 ⟨rfl,hb1⟩;have HX1:=hid (HD.out.trans (hb1.mono HD.out.size));clear hb1))
     all_goals
      go_wp2_with fail
      go_meet
      exact⟨congrArg Value.bool ZC.out,HX1.out⟩
    obtain⟨rfl,hBc⟩:=hcut
    have BC:=hid (BW2.out.trans (hBc.mono BW2.out.size))
    clear hBc
    go_wp2
    go_roundw
    case measure=>simp[intOf];omega
    case rel=>exact⟨i+1,by go_num,by omega,BC.out⟩
   ·obtain rfl:i=kR.length:=by omega
    clear hi hil i0
    go_wp2
    go_ret
    exact⟨rfl,BR.out⟩
end Go.Proofs.YtjecnionbjlncaaGreatDoor.Tp

namespace Go.Proofs.YtjecnionbjlncaaGreatDoor.unifyPlays
open Go.ChangeShapes Go.WideShapes Go.ChangeAt Go.WideMaps Go.WideElems Go.RowKit
open Go.ChangeMaps (open_string shut_string)
open Tp (Tab tQ_ rs_ uv_ own laidOut)

/-! ### the row's step, as the kit's worked example (a law over laid variables) has it -/
set_option linter.unusedVariables false in
set_option maxRecDepth 100000 in
theorem lifted (os : Os) (started : os.Started) (H : Type) (enc : TypeId × Value → H) :
    ReturnsInHanded {} Tryz.checked os 3 .any (fun w args => (Rows.unifyPlaysSpec.pre enc Tryz.prog Tryz.f3 [] false w args ∧ laidMetH Tryz.prog tQ_ w) ∧ sizedMet enc Tryz.prog Tryz.f3 (OpenSpec.ofChange Rows.unifyPlaysSpec) false w args)
      (Rows.unifyPlaysSpec.post enc Tryz.prog Tryz.f3 false true false false) := by
  refine returnsInHanded_of_change_and (C := Tryz.checked) (X := fun w _ => laidMetH Tryz.prog tQ_ w) (fun _ _ _ hh h => h.of_heap hh) own started (by kernel_rfl) Tryz.func3
    (ChangeSpec.witness_shaped (enc := enc) (C := Tryz.checked) (os := os) (X := fun w _ => laidMetH Tryz.prog tQ_ w) false (World.doorLaid Tryz.prog 400 os) #[.slice none 0 0] 8 rfl (World.shaped_of_RefB (by kernel_rfl) (by kernel_rfl)) (by kernel_rfl) (by kernel_rfl) (by kernel_rfl) (uv_ os _)) ?_
  intro W base args ds gs before hval0 hW _ _ hL _
  have hval : ∀ (j : Nat) t v, Tryz.f3.params[j]? = some t → args[j]? = some v → Value.okWide Tryz.prog W .any base t v := hval0
  have hW' := hW
  obtain ⟨p, q, hA0, hV, rfl, hfz, hnd⟩ := hW
  have hA : DataW.TrodAll enc Tryz.prog W 0 (fun _ => true) true Tryz.f3.params.toList args.toList ds p := hA0
  rw [Tryz.params3] at hA hval
  obtain ⟨v0, vs0, d0, ds0, p0, q0, hargs, rfl, rfl, h0, r0⟩ := trodAll_cons hA
  obtain ⟨rfl, rfl, rfl⟩ := trodAll_nil r0
  obtain rfl : args = #[v0] := by cases args; simp_all
  obtain ⟨rfl, rfl⟩ := trodVars_none hV
  have k0 := h0
  have lt0 : ∀ x ∈ p0, x.block < W.heap.size := by obtain ⟨m, hm⟩ := k0; exact DataW.trod_lt m _ _ _ hm
  obtain ⟨a0, w0⟩ := Tp.opnL (hval 0 22 v0 rfl rfl) h0
  clear hA0 hval0
  refine (Tp.unifyPlays_walk v0 a0 W w0 (rs_ hL)).mono fun e W' ⟨he, bel⟩ => ?_
  subst he
  exact ⟨_, rfl, _, _, _, [], _, [], hW', trodAll_mk1 (shut_bool Tryz.underlying4 _), (trodAll_cons_mk (Below.trod laidOut (by kernel_rfl) (of_decide_eq_true (by kernel_rfl)) k0 bel lt0) trodAll_mk0), rfl, bel.frame _, fun h => by cases h⟩

theorem row_holds : Rows.UnifyPlaysSaid :=
  OpenClaim.holds_of_wide 3 Tryz.f3 rfl rfl rfl rfl rfl rfl rfl ⟨rfl, rfl, rfl, rfl, rfl⟩ rfl rfl rfl rfl rfl (by kernel_rfl) Tryz.func3 (by kernel_rfl)
    (of_decide_eq_true (by kernel_rfl)) (by unfold Func.isWrapper; first | (rw [if_pos (by decide +kernel)]; kernel_rfl) | (rw [if_neg (by decide +kernel)]; exact ⟨rfl, rfl⟩))
    (fun os started H enc _ => lifted os started H enc)

/-- THE STATEMENT: the row, tied to the program's text. -/
theorem proved : Rows.UnifyPlaysCardSaid :=
  Claim7.holds_tied_plain_at .later [] [.data, .data, .data, .sentinel, .sentinel] true Rows.unifyPlaysCard.stood.harness true
    row_holds (fun _ h => by cases h) (by kernel_rfl) (fun _ h => by cases h) unifyPlays_row_tie rfl ⟨rfl, rfl⟩ (by kernel_rfl) rfl
    (fun f fn hf hfn => by
      obtain rfl : f = 3 := Option.some.inj ((show Tryz.prog.funcNamed "savant/savantlaw04.UnifyPlays" = some 3 by kernel_rfl).symm.trans hf) |>.symm
      obtain rfl : fn = Tryz.f3 := (Option.some.inj (Tryz.func3.symm.trans hfn)).symm
      exact ⟨by kernel_rfl, fun j t ht => by
        rw [Tryz.params3] at ht
        have hm : t ∈ [22] := by simpa using Array.mem_of_getElem? ht
        have hall : ([22].all fun u => !Tryz.prog.wantsStandIn u) = true := by kernel_rfl
        exact (show Tryz.prog.wantsStandIn t = false by simpa using List.all_eq_true.1 hall t hm)⟩)
    (by kernel_rfl)
#print axioms proved
end Go.Proofs.YtjecnionbjlncaaGreatDoor.unifyPlays

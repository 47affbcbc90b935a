/- Texts laid together: CoRuD. -/
import Derived.Test.YtkihnodkhnahiaaGreatDoorP23

namespace Go.Proofs.YtkihnodkhnahiaaGreatDoor.Tp
open Go.RowKit
open Lx
set_option maxRecDepth 100000 in
set_option maxHeartbeats 6400000 in
theorem rule_fun (n N B:Nat)(w:World)(l:List Tok)(ih:∀ k,k≤n→CoSaid k)(h:Rc N B w l false)(hN:N≤w.heap.size)(hV:VsN N w)(hok:∀ t∈l,TokK t)(hl:l.length≤4000)(hn:4*l.length+4≤n+1)(hz:sk l 2=true∧ruleK (headText l)=6):Calls Tryz.prog 88 #[.pointer (some ⟨B,0,none⟩)] w (CoPost N B w (ruleF (n+1) l)):=by
 have M0:=RuM.new h
 have CN:=Lib.hid (nextc 2 [] N B _ l false M0.rc)
 rw[sees_sk] at CN
 have HM0:=Lib.hid M0
 have HN:=Lib.hid hN
 have HB:=Lib.hid h.lt
 have HV:=Lib.hid hV
 have OK:=Lib.hid hok
 have HL:=Lib.hid hl
 have HNN:=Lib.hid hn
 have IH:=Lib.hid ih
 clear h M0 hV hok hl hn ih
 go_enter Tryz.func88,Tryz.ntmps88
 go_wp2_with fail
 refine CN.out.mono ?_
 intro e w1 hpost
 obtain⟨hg,hsz,s1,l1,b1,rfl,hR,hcase⟩:=next_any hpost
 obtain⟨sl,rfl,hcs⟩:∃ sl,s1=bytes sl∧(sk l 2=true∧sl=headText l∧l1=l.tail∧b1=false∨sk l 2=false∧sl=[]∧l1=l∧b1=true):=by
  rcases hcase with ⟨a,b,c,d⟩|⟨a,b,c,d⟩
  ·exact⟨_,b,.inl ⟨a,rfl,c,d⟩⟩
  ·exact⟨[],b,.inr ⟨a,rfl,c,d⟩⟩
 have M1:=Lib.hid (HM0.out.call hg hR)
 have HC:=Lib.hid hcs
 clear hpost hg hsz hR hcase hcs CN HM0
 go_wp2
 go_loopw [5] (fun kv wr=>∃ k:Nat,kv=.int .i64 k∧3≤k∧k≤10∧RuM N B w wr l1 b1 (rkI sl k) ⟨#[]⟩ 0 (.slice none 0 0) [] []) (fun kv _=>10 - (intOf kv).toNat)
 case atStart=>exact⟨3,rfl,Nat.le_refl _,by omega,by rw[rkI_start];exact M1.out⟩
 case round =>
  obtain⟨k,rfl,h3,h10,hM⟩:=hrel
  by_cases h9:k≤9
  ·have z1:(k:Int)≤9:=by omega
   have o0:=hM.o.c0
   have f0:=hM.o.fr 0
   have HM:=Lib.hid hM
   obtain⟨q,e1,e2⟩:=str_beq (bytes (wordK k)) (bytes sl)
   have HE:Hid (q=true↔ruleK sl=k):=Lib.hid (e2.trans ⟨fun e=>(word_iff sl k h3 h9).1 (bytes_inj e),fun e=>by rw[(word_iff sl k h3 h9).2 e]⟩)
   clear hM e2
   go_wp2_with fail
   refine (word_at k h3 h9 wr).mono ?_
   rintro e w2 ⟨rfl,rfl⟩
   cases q with
   | true =>
    have hk:=rkI_hit (HE.out.1 rfl)
    go_wp2
    go_roundw
    case rel=>exact⟨k+1,by go_num,by omega,by omega,by rw[hk.2];exact HM.out.set HN.out 0 _ rfl⟩
    case measure=>simp[intOf];omega
   | false =>
    have hk:=rkI_miss (s:=sl) (k:=k) (fun e=>by have:=HE.out.2 e;cases this)
    go_wp2
    go_roundw
    case rel=>exact⟨k+1,by go_num,by omega,by omega,by rw[hk];exact HM.out⟩
    case measure=>simp[intOf];omega
  ·obtain rfl:k=10:=by omega
   rw[rkI_end] at hM
   have z1:¬ ((10:Nat):Int)≤9:=by omega
   obtain⟨hb,hsl,hl1⟩:b1=false∧sl=headText l∧l1=l.tail:=by
    rcases HC.out with ⟨_,b,c,d⟩|⟨a,_⟩
    ·exact⟨d,b,c⟩
    ·rw[hz.1] at a;cases a
   subst hb
   have hk:ruleK sl=6:=by rw[hsl];exact hz.2
   rw[hk] at hM
   replace hM:RuM N B w wr l1 false 6 ⟨#[]⟩ 0 (.slice none 0 0) [] []:=hM
   have hlen:l1.length+1=l.length:=by have:=sk_ne hz.1;rw[hl1,List.length_tail];omega
   have htk:∀ t∈l1,TokK t:=by rw[hl1];exact tail_all OK.out
   have E:headF l=some ⟨6,⟨#[]⟩,0,2,l1⟩:=by
    unfold headF
    rw[if_pos hz.1,hz.2,hl1]
    rfl
   obtain⟨X,hX⟩:∃ X:Option (List Co × List Tok),X=kidsF n 2 [] l1:=⟨_,rfl⟩
   have E9:Hid (ruleF (n+1) l=match (generalizing:=false) X with|none=>none|some (ks,r)=>some (.mk 6 ⟨#[]⟩ 0 tz ks,r)):=Lib.hid (by
    rw[ruleF,E,hX]
    show (if (6:Nat)=5 then _ else _)=_
    rw[if_neg (by decide)]
    show (match kidsF n 2 [] l1 with|none=>none|some (ks,r)=>_)=_
    cases kidsF n 2 [] l1<;>rfl)
   have HT1:Hid ((∀ t∈l1,TokK t)∧l1.length≤4000∧4*l1.length+3≤n - 0):=Lib.hid ⟨htk,by have:=HL.out;omega,by have:=HNN.out;omega⟩
   have mo:=hM.o
   have mr:=hM.r
   have mc:=hM.rc
   have o0:=mo.c0
   have o1:=mo.c1
   have o2:=mo.c2
   have o3:=mo.c3
   have o4:=mo.c4
   have o5:=mo.c5
   have o6:=mo.c6
   have o7:=mo.c7
   have r0:=mr.c0
   have r1:=mr.c1
   have r2:=mr.c2
   have r3:=mr.c3
   have r4:=mr.c4
   have r5:=mr.c5
   have r6:=mr.c6
   have r7:=mr.c7
   have f0:=mo.fr 0
   have f1:=mo.fr 1
   have f2:=mo.fr 2
   have f7:=mo.fr 7
   have g0:=mr.fr 0
   have g1:=mr.fr 1
   have g2:=mr.fr 2
   have g3:=mr.fr 3
   have g4:=mr.fr 4
   have g5:=mr.fr 5
   have g6:=mr.fr 6
   have g7:=mr.fr 7
   have x1:=mc.c1
   obtain⟨xa,xc,x0⟩:=mc.c0
   have y1:=mc.fr 1
   clear mo mr mc
   have HM2:=Lib.hid hM
   clear hM hz hk hsl hl1 htk hlen E
   go_wp2
   go_loopw [7] (fun iv wr=>∃ (i:Nat) (l':List Tok) (b:Bool) (v:Value) (acc:List Co) (ps:List (Value × Value)),iv=.int .i64 i∧i≤2∧RuM N B w wr l' b 6 ⟨#[]⟩ 0 v acc ps∧KInv n 2 X i acc l' b) (fun iv _=>2 - (intOf iv).toNat)
   case atStart=>exact⟨0,_,false,_,[],[],rfl,by omega,HM2.out,⟨by simp,.inl ⟨rfl,hX,HT1.out.1,HT1.out.2.1,HT1.out.2.2⟩⟩⟩
   case round =>
    obtain⟨i,l',b,v,acc,ps,rfl,him,hM,hK⟩:=hrel
    have z0:(0:Int)≤(i:Int):=by omega
    have mo:=hM.o
    have mr:=hM.r
    have mc:=hM.rc
    have o0:=mo.c0
    have o1:=mo.c1
    have o2:=mo.c2
    have o3:=mo.c3
    have o4:=mo.c4
    have o5:=mo.c5
    have o6:=mo.c6
    have o7:=mo.c7
    have r0:=mr.c0
    have r1:=mr.c1
    have r2:=mr.c2
    have r3:=mr.c3
    have r4:=mr.c4
    have r5:=mr.c5
    have r6:=mr.c6
    have r7:=mr.c7
    have f0:=mo.fr 0
    have f1:=mo.fr 1
    have f2:=mo.fr 2
    have f7:=mo.fr 7
    have g0:=mr.fr 0
    have g1:=mr.fr 1
    have g2:=mr.fr 2
    have g3:=mr.fr 3
    have g4:=mr.fr 4
    have g5:=mr.fr 5
    have g6:=mr.fr 6
    have g7:=mr.fr 7
    have x1:=mc.c1
    obtain⟨xa,xc,x0⟩:=mc.c0
    have y1:=mc.fr 1
    clear mo mr mc
    have HM:=Lib.hid hM
    have KI:=Lib.hid hK
    clear hM hK
    by_cases hgo:b=false∧i<2
    ·obtain⟨rfl,hi⟩:=hgo
     have z1:(i:Int)<2:=by omega
     have CH:=Lib.hid (kid_said IH.out HM.out HN.out HV.out KI.out)
     go_wp2
     go_region_law (first
      | ((with_reducible show (if Region.wanted _ _=true then Oper.wp _ _ _ (World.alloc _ _) _ _ else _));refine step_append_any (by rfl) _ _ _ (by rfl) (by rfl) (by rfl) PA.out ?_;rintro v7 w7 ⟨hr7,hg7,hl7⟩;obtain⟨a7,c7,hv7⟩:=hr7.form;rw[List.length_append,List.length_singleton] at hv7;subst hv7;have g7:=(K4.out.o.grown hg7 NV.out).fr 7;have e7:=(K4.out.o.grown hg7 NV.out).c7;have HR7:=Lib.hid hr7;have HG7:=Lib.hid hg7;clear hr7 hg7)
      | (go_simp;go_at_call 49;(with_reducible refine CH.out.mono ?_);rintro e w4 ⟨hg4,x,a4,c4,ka4,kc4,rfl,hA4,hres4⟩;obtain⟨l4,b4,hr4,e4⟩:=co_res hres4;have hM4:=HM.out.call (grown_trans (grown_below (r:=some B) (Below.refl _ _).drew) hg4) hr4;have p7:=hM4.o.c7;have p5:=(hM4.o.low ((Below.refl _ _).alloc (Nat.le_refl _) (.cells #[.int .i64 x.kind,.string x.name,.int .i64 x.n,.int .i64 x.t.kind,.string x.t.name,.int .i64 x.t.n,.slice a4 x.t.args.length c4,.slice ka4 x.kids.length kc4] 33))).c7;have K4:=Lib.hid hM4;have NV:Hid (v.ownBlock≠some (w.heap.size+1)):=Lib.hid (fun e=>by have:=(HM.out.row.own.lt _ e).1;omega);have PA:=Lib.hid (hM4.row.push hM4.sz (by have:=KI.out.len;omega) (CoAt.mono (fun b hb=>HM.out.beside hb) hA4));have E4:=Lib.hid e4;clear hg4 hA4 hres4 hr4 e4 hM4;unfold cv))
     all_goals
      have HM8:=Lib.hid (K4.out.pushed HN.out HR7.out HG7.out)
      have KI8:=Lib.hid (KI.out.step hi E4.out)
      go_wp2
      go_roundw
      case rel=>exact⟨i+1,_,_,_,_,_,by go_num,by omega,HM8.out,KI8.out⟩
      case measure=>simp[intOf];omega
    ·obtain⟨hl9,he9⟩:=KI.out.end_ (fun e=>by rcases Nat.lt_or_ge i 2 with h|h;exact absurd ⟨e,h⟩ hgo;exact h)
     obtain⟨av,cw,hv⟩:=HM.out.row.form
     subst hv
     have HL9:=Lib.hid hl9
     have HE9:=Lib.hid he9
     clear he9 hl9
     obtain⟨k8,PP⟩:=HM.out.end_ HN.out HL9.out
     have PP:=Lib.hid PP
     have K8:=Lib.hid k8
     clear k8
     have done:(match (ruleF (n+1) l) with|some (c',r)=>Co.mk 6 ⟨#[]⟩ 0 tz acc=c'∧l'=r∧b=false|none=>b=true):=by
      have he:=HE9.out
      rw[E9.out]
      cases X with
      | none=>exact he
      | some p=>obtain⟨ks,r⟩:=p;obtain⟨h1,h2,h3,_⟩:=he;subst h1;exact⟨rfl,h2,h3⟩
     have DONE:=Lib.hid done
     clear done
     have fin:∀ W,W=st80 wr w.heap.size (.int .i64 6) (.string ⟨#[]⟩) (.int .i64 0) (.int .i64 0) (.string ⟨#[]⟩) (.int .i64 0) (.slice none 0 0) (.slice av acc.length cw)→True:=fun _ _=>trivial
     clear fin
     by_cases hb:b=true
     ·subst hb
      by_cases hi:i<2
      ·have z1:(i:Int)<2:=by omega
       go_wp2
       have k8:=K8.out
       refine bodyPost_ret (v:=.agg #[.int .i64 6,.string ⟨#[]⟩,.int .i64 0,.int .i64 0,.string ⟨#[]⟩,.int .i64 0,.slice none 0 0,.slice av acc.length cw]) ?_ rfl (PP.out _ DONE.out)
       simp[results,Tryz.results88,go_sem,k8.c0,k8.c1,k8.c2,k8.c3,k8.c4,k8.c5,k8.c6,k8.c7]
      ·have z1:¬ (i:Int)<2:=by omega
       go_wp2
       have k8:=K8.out
       refine bodyPost_ret (v:=.agg #[.int .i64 6,.string ⟨#[]⟩,.int .i64 0,.int .i64 0,.string ⟨#[]⟩,.int .i64 0,.slice none 0 0,.slice av acc.length cw]) ?_ rfl (PP.out _ DONE.out)
       simp[results,Tryz.results88,go_sem,k8.c0,k8.c1,k8.c2,k8.c3,k8.c4,k8.c5,k8.c6,k8.c7]
     ·obtain rfl:b=false:=by cases b<;>simp_all
      have z1:¬ (i:Int)<2:=by
       have:¬ i<2:=fun h=>hgo ⟨rfl,h⟩
       omega
      go_wp2
      have k8:=K8.out
      refine bodyPost_ret (v:=.agg #[.int .i64 6,.string ⟨#[]⟩,.int .i64 0,.int .i64 0,.string ⟨#[]⟩,.int .i64 0,.slice none 0 0,.slice av acc.length cw]) ?_ rfl (PP.out _ DONE.out)
      simp[results,Tryz.results88,go_sem,k8.c0,k8.c1,k8.c2,k8.c3,k8.c4,k8.c5,k8.c6,k8.c7]
end Go.Proofs.YtkihnodkhnahiaaGreatDoor.Tp

/- Packed. -/
import Derived.Test.YtkihnodkhnahiaaGreatDoorP23
set_option maxRecDepth 100000
set_option maxHeartbeats 6400000
namespace Go.Proofs.YtkihnodkhnahiaaGreatDoor.Tp
open Go.RowKit
open Lx
theorem o3_ (n N B:Nat)(w:World)(l:List Tok)(ih:∀ k,k≤n→ej_ k)(h:Rc N B w l false)(hN:N≤w.heap.size)(hV:VsN N w)(hok:∀ t∈l,be_ t)(hl:l.length≤4000)(hn:4*l.length+4≤n+1)(hz:sk l 2=true∧ay_ (ab_ l)=3):Calls Tryz.prog 88 #[.pointer (some ⟨B,0,none⟩)] w (cX_ N B w (a1_ (n+1) l)):=by
 have M0:=RuM.new h;have CN:=hid (fa_ 2 [] N B _ l false M0.rc);rw[bY_] at CN;have HM0:=hid M0;have HN:=hid hN;have HB:=hid h.lt;have HV:=hid hV;have OK:=hid hok;have HL:=hid hl;have HNN:=hid hn;have IH:=hid ih;clear h M0 hV hok hl hn ih;go_enter Tryz.func88,Tryz.ntmps88;go_wp2_with fail;refine CN.out.mono ?_;intro e w1 hpost;obtain⟨hg,hsz,s1,l1,b1,rfl,hR,hcase⟩:=bC_ hpost;obtain⟨sl,rfl,hcs⟩:∃ sl,s1=aa_ sl∧(sk l 2=true∧sl=ab_ l∧l1=l.tail∧b1=false∨sk l 2=false∧sl=[]∧l1=l∧b1=true):=by
  rcases hcase with ⟨a,b,c,d⟩|⟨a,b,c,d⟩
  ·exact⟨_,b,.inl ⟨a,rfl,c,d⟩⟩
  ·exact⟨[],b,.inr ⟨a,rfl,c,d⟩⟩
 have M1:=hid (HM0.out.call hg hR);have HC:=hid hcs;clear hpost hg hsz hR hcase hcs CN HM0;go_wp2
 go_loopw [5] (fun kv wr=>∃ k:Nat,kv=.int .i64 k∧3≤k∧k≤10∧RuM N B w wr l1 b1 (rkI sl k) ⟨#[]⟩ 0 (.slice none 0 0) [] []) (fun kv _=>10 - (intOf kv).toNat)
 case atStart=>exact⟨3,rfl,aw_ _,by omega,by rw[c6_];exact M1.out⟩
 case round =>
  obtain⟨k,rfl,h3,h10,hM⟩:=hrel
  by_cases h9:k≤9
  ·have z1:(k:Int)≤9:=by omega
   have o0:=hM.o.c0;have f0:=hM.o.fr 0;have HM:=hid hM;obtain⟨q,e1,e2⟩:=de_ (aa_ (aP_ k)) (aa_ sl);have HE:Hid (q=true↔ay_ sl=k):=hid (e2.trans ⟨fun e=>(bv_ sl k h3 h9).1 (b4_ e),fun e=>by rw[(bv_ sl k h3 h9).2 e]⟩);clear hM e2;go_wp2_with fail;refine (dc_ k h3 h9 wr).mono ?_;rintro e w2 ⟨rfl,rfl⟩;cases q with
   | true =>
    have hk:=eC_ (HE.out.1 rfl);go_wp2;go_roundw
    case rel=>exact⟨k+1,by go_num,by omega,by omega,by rw[hk.2];exact HM.out.set HN.out 0 _ rfl⟩
    case measure=>simp[intOf];omega
   | false =>
    have hk:=dT_ (s:=sl) (k:=k) (fun e=>by have:=HE.out.2 e;cases this);go_wp2;go_roundw
    case rel=>exact⟨k+1,by go_num,by omega,by omega,by rw[hk];exact HM.out⟩
    case measure=>simp[intOf];omega
  ·obtain rfl:k=10:=by omega
   rw[eD_] at hM;have z1:¬ ((10:Nat):Int)≤9:=(by omega);obtain⟨hb,hsl,hl1⟩:b1=false∧sl=ab_ l∧l1=l.tail:=by
    rcases HC.out with ⟨_,b,c,d⟩|⟨a,_⟩
    ·exact⟨d,b,c⟩
    ·rw[hz.1] at a;cases a
   subst hb;have hk:ay_ sl=3:=by rw[hsl];exact hz.2
   rw[hk] at hM;replace hM:RuM N B w wr l1 false 3 ⟨#[]⟩ 0 (.slice none 0 0) [] []:=hM;have hlen:l1.length+1=l.length:=by have:=ci_ hz.1;rw[hl1,List.length_tail];omega
   have htk:∀ t∈l1,be_ t:=by rw[hl1];exact aI_ OK.out
   have E:bo_ l=some ⟨3,⟨#[]⟩,0,1,l1⟩:=by
    unfold bo_;rw[if_pos hz.1,hz.2,hl1];rfl
   obtain⟨X,hX⟩:∃ X:Option (List Co × List Tok),X=bg_ n 1 [] l1:=⟨_,rfl⟩;have E9:Hid (a1_ (n+1) l=match (generalizing:=false) X with|none=>none|some (ks,r)=>some (.mk 3 ⟨#[]⟩ 0 tz ks,r)):=hid (by
    rw[a1_,E,hX];show (if (3:Nat)=5 then _ else _)=_;rw[if_neg (by decide)];show (match bg_ n 1 [] l1 with|none=>none|some (ks,r)=>_)=_;cases bg_ n 1 [] l1<;>rfl)
   have HT1:Hid ((∀ t∈l1,be_ t)∧l1.length≤4000∧4*l1.length+3≤n - 0):=hid ⟨htk,by have:=HL.out;omega,by have:=HNN.out;omega⟩;have mo:=hM.o;have mr:=hM.r;have mc:=hM.rc;obtain⟨o0,o1,o2,o3,o4,o5,o6,o7⟩:=mo.c07;obtain⟨r0,r1,r2,r3,r4,r5,r6,r7⟩:=mr.c07;have f0:=mo.fr 0;have f1:=mo.fr 1;have f2:=mo.fr 2;have f7:=mo.fr 7;obtain⟨g0,g1,g2,g3,g4,g5,g6,g7⟩:=mr.f07;have x1:=mc.c1;obtain⟨xa,xc,x0⟩:=mc.c0;have y1:=mc.fr 1;clear mo mr mc;have HM2:=hid hM;clear hM hz hk hsl hl1 htk hlen E;go_wp2
   go_loopw [7] (fun iv wr=>∃ (i:Nat) (l':List Tok) (b:Bool) (v:Value) (acc:List Co) (ps:List (Value × Value)),iv=.int .i64 i∧i≤1∧RuM N B w wr l' b 3 ⟨#[]⟩ 0 v acc ps∧fs_ n 1 X i acc l' b) (fun iv _=>1 - (intOf iv).toNat)
   case atStart=>exact⟨0,_,false,_,[],[],rfl,by omega,HM2.out,⟨by simp,.inl ⟨rfl,hX,HT1.out.1,HT1.out.2.1,HT1.out.2.2⟩⟩⟩
   case round =>
    obtain⟨i,l',b,v,acc,ps,rfl,him,hM,hK⟩:=hrel;have z0:(0:Int)≤(i:Int):=(by omega);have mo:=hM.o;have mr:=hM.r;have mc:=hM.rc;obtain⟨o0,o1,o2,o3,o4,o5,o6,o7⟩:=mo.c07;obtain⟨r0,r1,r2,r3,r4,r5,r6,r7⟩:=mr.c07;have f0:=mo.fr 0;have f1:=mo.fr 1;have f2:=mo.fr 2;have f7:=mo.fr 7;obtain⟨g0,g1,g2,g3,g4,g5,g6,g7⟩:=mr.f07;have x1:=mc.c1;obtain⟨xa,xc,x0⟩:=mc.c0;have y1:=mc.fr 1;clear mo mr mc;have HM:=hid hM;have KI:=hid hK;clear hM hK
    by_cases hgo:b=false∧i<1
    ·obtain⟨rfl,hi⟩:=hgo
     have z1:(i:Int)<1:=(by omega);have CH:=hid (eq_ IH.out HM.out HN.out HV.out KI.out);go_wp2
     go_region_law (first
      | ((with_reducible show (if Region.wanted _ _=true then Oper.wp _ _ _ (World.alloc _ _) _ _ else _));refine aJ_ (by rfl) _ _ _ (by rfl) (by rfl) (by rfl) PA.out ?_;rintro v7 w7 ⟨hr7,hg7,hl7⟩;obtain⟨a7,c7,hv7⟩:=hr7.form;rw[List.length_append,List.length_singleton] at hv7;subst hv7;have g7:=(K4.out.o.grown hg7 NV.out).fr 7;have e7:=(K4.out.o.grown hg7 NV.out).c7;have HR7:=hid hr7;have HG7:=hid hg7;clear hr7 hg7)
      | (go_simp;go_at_call 49;(with_reducible refine CH.out.mono ?_);rintro e w4 ⟨hg4,x,a4,c4,ka4,kc4,rfl,hA4,hres4⟩;obtain⟨l4,b4,hr4,e4⟩:=gh_ hres4;have hM4:=HM.out.call (ad_ (af_ (r:=some B) (Below.refl _ _).drew) hg4) hr4;have p7:=hM4.o.c7;have p5:=(hM4.o.low (ao_ _ (.cells #[.int .i64 x.kind,.string x.name,.int .i64 x.n,.int .i64 x.t.kind,.string x.t.name,.int .i64 x.t.n,.slice a4 x.t.args.length c4,.slice ka4 x.kids.length kc4] 33))).c7;have K4:=hid hM4;have NV:Hid (v.ownBlock≠some (w.heap.size+1)):=hid (fun e=>by have:=(HM.out.row.own.lt _ e).1;omega);have PA:=hid (hM4.row.push hM4.sz (by have:=KI.out.len;omega) (bS_.mono (fun b hb=>HM.out.beside hb) hA4));have E4:=hid e4;clear hg4 hA4 hres4 hr4 e4 hM4;unfold cv))
     all_goals
      have HM8:=hid (K4.out.pushed HN.out HR7.out HG7.out);have KI8:=hid (KI.out.step hi E4.out);go_wp2;go_roundw
      case rel=>exact⟨i+1,_,_,_,_,_,by go_num,by omega,HM8.out,KI8.out⟩
      case measure=>simp[intOf];omega
    ·obtain⟨hl9,he9⟩:=KI.out.end_ (fun e=>by rcases Nat.lt_or_ge i 1 with h|h;exact absurd ⟨e,h⟩ hgo;exact h)
     obtain⟨av,cw,hv⟩:=HM.out.row.form;subst hv;have HL9:=hid hl9;have HE9:=hid he9;clear he9 hl9;obtain⟨k8,PP⟩:=HM.out.end_ HN.out HL9.out;have PP:=hid PP;have K8:=hid k8;clear k8;have done:(match (a1_ (n+1) l) with|some (c',r)=>Co.mk 3 ⟨#[]⟩ 0 tz acc=c'∧l'=r∧b=false|none=>b=true):=by
      have he:=HE9.out;rw[E9.out];cases X with
      | none=>exact he
      | some p=>obtain⟨ks,r⟩:=p;obtain⟨h1,h2,h3,_⟩:=he;subst h1;exact⟨rfl,h2,h3⟩
     have DONE:=hid done;clear done;have fin:∀ W,W=st80 wr w.heap.size (.int .i64 3) (.string ⟨#[]⟩) (.int .i64 0) (.int .i64 0) (.string ⟨#[]⟩) (.int .i64 0) (.slice none 0 0) (.slice av acc.length cw)→True:=fun _ _=>trivial;clear fin
     by_cases hb:b=true
     ·subst hb
      by_cases hi:i<1
      ·have z1:(i:Int)<1:=by omega
       go_wp2;have k8:=K8.out;refine bodyPost_ret (v:=.agg #[.int .i64 3,.string ⟨#[]⟩,.int .i64 0,.int .i64 0,.string ⟨#[]⟩,.int .i64 0,.slice none 0 0,.slice av acc.length cw]) ?_ rfl (PP.out _ DONE.out);simp[results,Tryz.results88,go_sem,k8.c0,k8.c1,k8.c2,k8.c3,k8.c4,k8.c5,k8.c6,k8.c7]
      ·have z1:¬ (i:Int)<1:=by omega
       go_wp2;have k8:=K8.out;refine bodyPost_ret (v:=.agg #[.int .i64 3,.string ⟨#[]⟩,.int .i64 0,.int .i64 0,.string ⟨#[]⟩,.int .i64 0,.slice none 0 0,.slice av acc.length cw]) ?_ rfl (PP.out _ DONE.out);simp[results,Tryz.results88,go_sem,k8.c0,k8.c1,k8.c2,k8.c3,k8.c4,k8.c5,k8.c6,k8.c7]
     ·obtain rfl:b=false:=by cases b<;>simp_all
      have z1:¬ (i:Int)<1:=by
       have:¬ i<1:=fun h=>hgo ⟨rfl,h⟩;omega
      go_wp2;have k8:=K8.out;refine bodyPost_ret (v:=.agg #[.int .i64 3,.string ⟨#[]⟩,.int .i64 0,.int .i64 0,.string ⟨#[]⟩,.int .i64 0,.slice none 0 0,.slice av acc.length cw]) ?_ rfl (PP.out _ DONE.out);simp[results,Tryz.results88,go_sem,k8.c0,k8.c1,k8.c2,k8.c3,k8.c4,k8.c5,k8.c6,k8.c7]
open Lx
theorem lP_ (n N B:Nat)(w:World)(l:List Tok)(ih:∀ k,k≤n→ej_ k)(h:Rc N B w l false)(hN:N≤w.heap.size)(hV:VsN N w)(hok:∀ t∈l,be_ t)(hl:l.length≤4000)(hn:4*l.length+4≤n+1)(hz:sk l 2=true∧ay_ (ab_ l)=4):Calls Tryz.prog 88 #[.pointer (some ⟨B,0,none⟩)] w (cX_ N B w (a1_ (n+1) l)):=by
 have M0:=RuM.new h;have CN:=hid (fa_ 2 [] N B _ l false M0.rc);rw[bY_] at CN;have HM0:=hid M0;have HN:=hid hN;have HB:=hid h.lt;have HV:=hid hV;have OK:=hid hok;have HL:=hid hl;have HNN:=hid hn;have IH:=hid ih;clear h M0 hV hok hl hn ih;go_enter Tryz.func88,Tryz.ntmps88;go_wp2_with fail;refine CN.out.mono ?_;intro e w1 hpost;obtain⟨hg,hsz,s1,l1,b1,rfl,hR,hcase⟩:=bC_ hpost;obtain⟨sl,rfl,hcs⟩:∃ sl,s1=aa_ sl∧(sk l 2=true∧sl=ab_ l∧l1=l.tail∧b1=false∨sk l 2=false∧sl=[]∧l1=l∧b1=true):=by
  rcases hcase with ⟨a,b,c,d⟩|⟨a,b,c,d⟩
  ·exact⟨_,b,.inl ⟨a,rfl,c,d⟩⟩
  ·exact⟨[],b,.inr ⟨a,rfl,c,d⟩⟩
 have M1:=hid (HM0.out.call hg hR);have HC:=hid hcs;clear hpost hg hsz hR hcase hcs CN HM0;go_wp2
 go_loopw [5] (fun kv wr=>∃ k:Nat,kv=.int .i64 k∧3≤k∧k≤10∧RuM N B w wr l1 b1 (rkI sl k) ⟨#[]⟩ 0 (.slice none 0 0) [] []) (fun kv _=>10 - (intOf kv).toNat)
 case atStart=>exact⟨3,rfl,aw_ _,by omega,by rw[c6_];exact M1.out⟩
 case round =>
  obtain⟨k,rfl,h3,h10,hM⟩:=hrel
  by_cases h9:k≤9
  ·have z1:(k:Int)≤9:=by omega
   have o0:=hM.o.c0;have f0:=hM.o.fr 0;have HM:=hid hM;obtain⟨q,e1,e2⟩:=de_ (aa_ (aP_ k)) (aa_ sl);have HE:Hid (q=true↔ay_ sl=k):=hid (e2.trans ⟨fun e=>(bv_ sl k h3 h9).1 (b4_ e),fun e=>by rw[(bv_ sl k h3 h9).2 e]⟩);clear hM e2;go_wp2_with fail;refine (dc_ k h3 h9 wr).mono ?_;rintro e w2 ⟨rfl,rfl⟩;cases q with
   | true =>
    have hk:=eC_ (HE.out.1 rfl);go_wp2;go_roundw
    case rel=>exact⟨k+1,by go_num,by omega,by omega,by rw[hk.2];exact HM.out.set HN.out 0 _ rfl⟩
    case measure=>simp[intOf];omega
   | false =>
    have hk:=dT_ (s:=sl) (k:=k) (fun e=>by have:=HE.out.2 e;cases this);go_wp2;go_roundw
    case rel=>exact⟨k+1,by go_num,by omega,by omega,by rw[hk];exact HM.out⟩
    case measure=>simp[intOf];omega
  ·obtain rfl:k=10:=by omega
   rw[eD_] at hM;have z1:¬ ((10:Nat):Int)≤9:=(by omega);obtain⟨hb,hsl,hl1⟩:b1=false∧sl=ab_ l∧l1=l.tail:=by
    rcases HC.out with ⟨_,b,c,d⟩|⟨a,_⟩
    ·exact⟨d,b,c⟩
    ·rw[hz.1] at a;cases a
   subst hb;have hk:ay_ sl=4:=by rw[hsl];exact hz.2
   rw[hk] at hM;replace hM:RuM N B w wr l1 false 4 ⟨#[]⟩ 0 (.slice none 0 0) [] []:=hM;have hlen:l1.length+1=l.length:=by have:=ci_ hz.1;rw[hl1,List.length_tail];omega
   have htk:∀ t∈l1,be_ t:=by rw[hl1];exact aI_ OK.out
   have E:bo_ l=some ⟨4,⟨#[]⟩,0,2,l1⟩:=by
    unfold bo_;rw[if_pos hz.1,hz.2,hl1];rfl
   obtain⟨X,hX⟩:∃ X:Option (List Co × List Tok),X=bg_ n 2 [] l1:=⟨_,rfl⟩;have E9:Hid (a1_ (n+1) l=match (generalizing:=false) X with|none=>none|some (ks,r)=>some (.mk 4 ⟨#[]⟩ 0 tz ks,r)):=hid (by
    rw[a1_,E,hX];show (if (4:Nat)=5 then _ else _)=_;rw[if_neg (by decide)];show (match bg_ n 2 [] l1 with|none=>none|some (ks,r)=>_)=_;cases bg_ n 2 [] l1<;>rfl)
   have HT1:Hid ((∀ t∈l1,be_ t)∧l1.length≤4000∧4*l1.length+3≤n - 0):=hid ⟨htk,by have:=HL.out;omega,by have:=HNN.out;omega⟩;have mo:=hM.o;have mr:=hM.r;have mc:=hM.rc;obtain⟨o0,o1,o2,o3,o4,o5,o6,o7⟩:=mo.c07;obtain⟨r0,r1,r2,r3,r4,r5,r6,r7⟩:=mr.c07;have f0:=mo.fr 0;have f1:=mo.fr 1;have f2:=mo.fr 2;have f7:=mo.fr 7;obtain⟨g0,g1,g2,g3,g4,g5,g6,g7⟩:=mr.f07;have x1:=mc.c1;obtain⟨xa,xc,x0⟩:=mc.c0;have y1:=mc.fr 1;clear mo mr mc;have HM2:=hid hM;clear hM hz hk hsl hl1 htk hlen E;go_wp2
   go_loopw [7] (fun iv wr=>∃ (i:Nat) (l':List Tok) (b:Bool) (v:Value) (acc:List Co) (ps:List (Value × Value)),iv=.int .i64 i∧i≤2∧RuM N B w wr l' b 4 ⟨#[]⟩ 0 v acc ps∧fs_ n 2 X i acc l' b) (fun iv _=>2 - (intOf iv).toNat)
   case atStart=>exact⟨0,_,false,_,[],[],rfl,by omega,HM2.out,⟨by simp,.inl ⟨rfl,hX,HT1.out.1,HT1.out.2.1,HT1.out.2.2⟩⟩⟩
   case round =>
    obtain⟨i,l',b,v,acc,ps,rfl,him,hM,hK⟩:=hrel;have z0:(0:Int)≤(i:Int):=(by omega);have mo:=hM.o;have mr:=hM.r;have mc:=hM.rc;obtain⟨o0,o1,o2,o3,o4,o5,o6,o7⟩:=mo.c07;obtain⟨r0,r1,r2,r3,r4,r5,r6,r7⟩:=mr.c07;have f0:=mo.fr 0;have f1:=mo.fr 1;have f2:=mo.fr 2;have f7:=mo.fr 7;obtain⟨g0,g1,g2,g3,g4,g5,g6,g7⟩:=mr.f07;have x1:=mc.c1;obtain⟨xa,xc,x0⟩:=mc.c0;have y1:=mc.fr 1;clear mo mr mc;have HM:=hid hM;have KI:=hid hK;clear hM hK
    by_cases hgo:b=false∧i<2
    ·obtain⟨rfl,hi⟩:=hgo
     have z1:(i:Int)<2:=(by omega);have CH:=hid (eq_ IH.out HM.out HN.out HV.out KI.out);go_wp2
     go_region_law (first
      | ((with_reducible show (if Region.wanted _ _=true then Oper.wp _ _ _ (World.alloc _ _) _ _ else _));refine aJ_ (by rfl) _ _ _ (by rfl) (by rfl) (by rfl) PA.out ?_;rintro v7 w7 ⟨hr7,hg7,hl7⟩;obtain⟨a7,c7,hv7⟩:=hr7.form;rw[List.length_append,List.length_singleton] at hv7;subst hv7;have g7:=(K4.out.o.grown hg7 NV.out).fr 7;have e7:=(K4.out.o.grown hg7 NV.out).c7;have HR7:=hid hr7;have HG7:=hid hg7;clear hr7 hg7)
      | (go_simp;go_at_call 49;(with_reducible refine CH.out.mono ?_);rintro e w4 ⟨hg4,x,a4,c4,ka4,kc4,rfl,hA4,hres4⟩;obtain⟨l4,b4,hr4,e4⟩:=gh_ hres4;have hM4:=HM.out.call (ad_ (af_ (r:=some B) (Below.refl _ _).drew) hg4) hr4;have p7:=hM4.o.c7;have p5:=(hM4.o.low (ao_ _ (.cells #[.int .i64 x.kind,.string x.name,.int .i64 x.n,.int .i64 x.t.kind,.string x.t.name,.int .i64 x.t.n,.slice a4 x.t.args.length c4,.slice ka4 x.kids.length kc4] 33))).c7;have K4:=hid hM4;have NV:Hid (v.ownBlock≠some (w.heap.size+1)):=hid (fun e=>by have:=(HM.out.row.own.lt _ e).1;omega);have PA:=hid (hM4.row.push hM4.sz (by have:=KI.out.len;omega) (bS_.mono (fun b hb=>HM.out.beside hb) hA4));have E4:=hid e4;clear hg4 hA4 hres4 hr4 e4 hM4;unfold cv))
     all_goals
      have HM8:=hid (K4.out.pushed HN.out HR7.out HG7.out);have KI8:=hid (KI.out.step hi E4.out);go_wp2;go_roundw
      case rel=>exact⟨i+1,_,_,_,_,_,by go_num,by omega,HM8.out,KI8.out⟩
      case measure=>simp[intOf];omega
    ·obtain⟨hl9,he9⟩:=KI.out.end_ (fun e=>by rcases Nat.lt_or_ge i 2 with h|h;exact absurd ⟨e,h⟩ hgo;exact h)
     obtain⟨av,cw,hv⟩:=HM.out.row.form;subst hv;have HL9:=hid hl9;have HE9:=hid he9;clear he9 hl9;obtain⟨k8,PP⟩:=HM.out.end_ HN.out HL9.out;have PP:=hid PP;have K8:=hid k8;clear k8;have done:(match (a1_ (n+1) l) with|some (c',r)=>Co.mk 4 ⟨#[]⟩ 0 tz acc=c'∧l'=r∧b=false|none=>b=true):=by
      have he:=HE9.out;rw[E9.out];cases X with
      | none=>exact he
      | some p=>obtain⟨ks,r⟩:=p;obtain⟨h1,h2,h3,_⟩:=he;subst h1;exact⟨rfl,h2,h3⟩
     have DONE:=hid done;clear done;have fin:∀ W,W=st80 wr w.heap.size (.int .i64 4) (.string ⟨#[]⟩) (.int .i64 0) (.int .i64 0) (.string ⟨#[]⟩) (.int .i64 0) (.slice none 0 0) (.slice av acc.length cw)→True:=fun _ _=>trivial;clear fin
     by_cases hb:b=true
     ·subst hb
      by_cases hi:i<2
      ·have z1:(i:Int)<2:=by omega
       go_wp2;have k8:=K8.out;refine bodyPost_ret (v:=.agg #[.int .i64 4,.string ⟨#[]⟩,.int .i64 0,.int .i64 0,.string ⟨#[]⟩,.int .i64 0,.slice none 0 0,.slice av acc.length cw]) ?_ rfl (PP.out _ DONE.out);simp[results,Tryz.results88,go_sem,k8.c0,k8.c1,k8.c2,k8.c3,k8.c4,k8.c5,k8.c6,k8.c7]
      ·have z1:¬ (i:Int)<2:=by omega
       go_wp2;have k8:=K8.out;refine bodyPost_ret (v:=.agg #[.int .i64 4,.string ⟨#[]⟩,.int .i64 0,.int .i64 0,.string ⟨#[]⟩,.int .i64 0,.slice none 0 0,.slice av acc.length cw]) ?_ rfl (PP.out _ DONE.out);simp[results,Tryz.results88,go_sem,k8.c0,k8.c1,k8.c2,k8.c3,k8.c4,k8.c5,k8.c6,k8.c7]
     ·obtain rfl:b=false:=by cases b<;>simp_all
      have z1:¬ (i:Int)<2:=by
       have:¬ i<2:=fun h=>hgo ⟨rfl,h⟩;omega
      go_wp2;have k8:=K8.out;refine bodyPost_ret (v:=.agg #[.int .i64 4,.string ⟨#[]⟩,.int .i64 0,.int .i64 0,.string ⟨#[]⟩,.int .i64 0,.slice none 0 0,.slice av acc.length cw]) ?_ rfl (PP.out _ DONE.out);simp[results,Tryz.results88,go_sem,k8.c0,k8.c1,k8.c2,k8.c3,k8.c4,k8.c5,k8.c6,k8.c7]
open Lx
theorem o5_ (n N B:Nat)(w:World)(l:List Tok)(ih:∀ k,k≤n→ej_ k)(h:Rc N B w l false)(hN:N≤w.heap.size)(hV:VsN N w)(hok:∀ t∈l,be_ t)(hl:l.length≤4000)(hn:4*l.length+4≤n+1)(hz:sk l 2=true∧ay_ (ab_ l)=6):Calls Tryz.prog 88 #[.pointer (some ⟨B,0,none⟩)] w (cX_ N B w (a1_ (n+1) l)):=by
 have M0:=RuM.new h;have CN:=hid (fa_ 2 [] N B _ l false M0.rc);rw[bY_] at CN;have HM0:=hid M0;have HN:=hid hN;have HB:=hid h.lt;have HV:=hid hV;have OK:=hid hok;have HL:=hid hl;have HNN:=hid hn;have IH:=hid ih;clear h M0 hV hok hl hn ih;go_enter Tryz.func88,Tryz.ntmps88;go_wp2_with fail;refine CN.out.mono ?_;intro e w1 hpost;obtain⟨hg,hsz,s1,l1,b1,rfl,hR,hcase⟩:=bC_ hpost;obtain⟨sl,rfl,hcs⟩:∃ sl,s1=aa_ sl∧(sk l 2=true∧sl=ab_ l∧l1=l.tail∧b1=false∨sk l 2=false∧sl=[]∧l1=l∧b1=true):=by
  rcases hcase with ⟨a,b,c,d⟩|⟨a,b,c,d⟩
  ·exact⟨_,b,.inl ⟨a,rfl,c,d⟩⟩
  ·exact⟨[],b,.inr ⟨a,rfl,c,d⟩⟩
 have M1:=hid (HM0.out.call hg hR);have HC:=hid hcs;clear hpost hg hsz hR hcase hcs CN HM0;go_wp2
 go_loopw [5] (fun kv wr=>∃ k:Nat,kv=.int .i64 k∧3≤k∧k≤10∧RuM N B w wr l1 b1 (rkI sl k) ⟨#[]⟩ 0 (.slice none 0 0) [] []) (fun kv _=>10 - (intOf kv).toNat)
 case atStart=>exact⟨3,rfl,aw_ _,by omega,by rw[c6_];exact M1.out⟩
 case round =>
  obtain⟨k,rfl,h3,h10,hM⟩:=hrel
  by_cases h9:k≤9
  ·have z1:(k:Int)≤9:=by omega
   have o0:=hM.o.c0;have f0:=hM.o.fr 0;have HM:=hid hM;obtain⟨q,e1,e2⟩:=de_ (aa_ (aP_ k)) (aa_ sl);have HE:Hid (q=true↔ay_ sl=k):=hid (e2.trans ⟨fun e=>(bv_ sl k h3 h9).1 (b4_ e),fun e=>by rw[(bv_ sl k h3 h9).2 e]⟩);clear hM e2;go_wp2_with fail;refine (dc_ k h3 h9 wr).mono ?_;rintro e w2 ⟨rfl,rfl⟩;cases q with
   | true =>
    have hk:=eC_ (HE.out.1 rfl);go_wp2;go_roundw
    case rel=>exact⟨k+1,by go_num,by omega,by omega,by rw[hk.2];exact HM.out.set HN.out 0 _ rfl⟩
    case measure=>simp[intOf];omega
   | false =>
    have hk:=dT_ (s:=sl) (k:=k) (fun e=>by have:=HE.out.2 e;cases this);go_wp2;go_roundw
    case rel=>exact⟨k+1,by go_num,by omega,by omega,by rw[hk];exact HM.out⟩
    case measure=>simp[intOf];omega
  ·obtain rfl:k=10:=by omega
   rw[eD_] at hM;have z1:¬ ((10:Nat):Int)≤9:=(by omega);obtain⟨hb,hsl,hl1⟩:b1=false∧sl=ab_ l∧l1=l.tail:=by
    rcases HC.out with ⟨_,b,c,d⟩|⟨a,_⟩
    ·exact⟨d,b,c⟩
    ·rw[hz.1] at a;cases a
   subst hb;have hk:ay_ sl=6:=by rw[hsl];exact hz.2
   rw[hk] at hM;replace hM:RuM N B w wr l1 false 6 ⟨#[]⟩ 0 (.slice none 0 0) [] []:=hM;have hlen:l1.length+1=l.length:=by have:=ci_ hz.1;rw[hl1,List.length_tail];omega
   have htk:∀ t∈l1,be_ t:=by rw[hl1];exact aI_ OK.out
   have E:bo_ l=some ⟨6,⟨#[]⟩,0,2,l1⟩:=by
    unfold bo_;rw[if_pos hz.1,hz.2,hl1];rfl
   obtain⟨X,hX⟩:∃ X:Option (List Co × List Tok),X=bg_ n 2 [] l1:=⟨_,rfl⟩;have E9:Hid (a1_ (n+1) l=match (generalizing:=false) X with|none=>none|some (ks,r)=>some (.mk 6 ⟨#[]⟩ 0 tz ks,r)):=hid (by
    rw[a1_,E,hX];show (if (6:Nat)=5 then _ else _)=_;rw[if_neg (by decide)];show (match bg_ n 2 [] l1 with|none=>none|some (ks,r)=>_)=_;cases bg_ n 2 [] l1<;>rfl)
   have HT1:Hid ((∀ t∈l1,be_ t)∧l1.length≤4000∧4*l1.length+3≤n - 0):=hid ⟨htk,by have:=HL.out;omega,by have:=HNN.out;omega⟩;have mo:=hM.o;have mr:=hM.r;have mc:=hM.rc;obtain⟨o0,o1,o2,o3,o4,o5,o6,o7⟩:=mo.c07;obtain⟨r0,r1,r2,r3,r4,r5,r6,r7⟩:=mr.c07;have f0:=mo.fr 0;have f1:=mo.fr 1;have f2:=mo.fr 2;have f7:=mo.fr 7;obtain⟨g0,g1,g2,g3,g4,g5,g6,g7⟩:=mr.f07;have x1:=mc.c1;obtain⟨xa,xc,x0⟩:=mc.c0;have y1:=mc.fr 1;clear mo mr mc;have HM2:=hid hM;clear hM hz hk hsl hl1 htk hlen E;go_wp2
   go_loopw [7] (fun iv wr=>∃ (i:Nat) (l':List Tok) (b:Bool) (v:Value) (acc:List Co) (ps:List (Value × Value)),iv=.int .i64 i∧i≤2∧RuM N B w wr l' b 6 ⟨#[]⟩ 0 v acc ps∧fs_ n 2 X i acc l' b) (fun iv _=>2 - (intOf iv).toNat)
   case atStart=>exact⟨0,_,false,_,[],[],rfl,by omega,HM2.out,⟨by simp,.inl ⟨rfl,hX,HT1.out.1,HT1.out.2.1,HT1.out.2.2⟩⟩⟩
   case round =>
    obtain⟨i,l',b,v,acc,ps,rfl,him,hM,hK⟩:=hrel;have z0:(0:Int)≤(i:Int):=(by omega);have mo:=hM.o;have mr:=hM.r;have mc:=hM.rc;obtain⟨o0,o1,o2,o3,o4,o5,o6,o7⟩:=mo.c07;obtain⟨r0,r1,r2,r3,r4,r5,r6,r7⟩:=mr.c07;have f0:=mo.fr 0;have f1:=mo.fr 1;have f2:=mo.fr 2;have f7:=mo.fr 7;obtain⟨g0,g1,g2,g3,g4,g5,g6,g7⟩:=mr.f07;have x1:=mc.c1;obtain⟨xa,xc,x0⟩:=mc.c0;have y1:=mc.fr 1;clear mo mr mc;have HM:=hid hM;have KI:=hid hK;clear hM hK
    by_cases hgo:b=false∧i<2
    ·obtain⟨rfl,hi⟩:=hgo
     have z1:(i:Int)<2:=(by omega);have CH:=hid (eq_ IH.out HM.out HN.out HV.out KI.out);go_wp2
     go_region_law (first
      | ((with_reducible show (if Region.wanted _ _=true then Oper.wp _ _ _ (World.alloc _ _) _ _ else _));refine aJ_ (by rfl) _ _ _ (by rfl) (by rfl) (by rfl) PA.out ?_;rintro v7 w7 ⟨hr7,hg7,hl7⟩;obtain⟨a7,c7,hv7⟩:=hr7.form;rw[List.length_append,List.length_singleton] at hv7;subst hv7;have g7:=(K4.out.o.grown hg7 NV.out).fr 7;have e7:=(K4.out.o.grown hg7 NV.out).c7;have HR7:=hid hr7;have HG7:=hid hg7;clear hr7 hg7)
      | (go_simp;go_at_call 49;(with_reducible refine CH.out.mono ?_);rintro e w4 ⟨hg4,x,a4,c4,ka4,kc4,rfl,hA4,hres4⟩;obtain⟨l4,b4,hr4,e4⟩:=gh_ hres4;have hM4:=HM.out.call (ad_ (af_ (r:=some B) (Below.refl _ _).drew) hg4) hr4;have p7:=hM4.o.c7;have p5:=(hM4.o.low (ao_ _ (.cells #[.int .i64 x.kind,.string x.name,.int .i64 x.n,.int .i64 x.t.kind,.string x.t.name,.int .i64 x.t.n,.slice a4 x.t.args.length c4,.slice ka4 x.kids.length kc4] 33))).c7;have K4:=hid hM4;have NV:Hid (v.ownBlock≠some (w.heap.size+1)):=hid (fun e=>by have:=(HM.out.row.own.lt _ e).1;omega);have PA:=hid (hM4.row.push hM4.sz (by have:=KI.out.len;omega) (bS_.mono (fun b hb=>HM.out.beside hb) hA4));have E4:=hid e4;clear hg4 hA4 hres4 hr4 e4 hM4;unfold cv))
     all_goals
      have HM8:=hid (K4.out.pushed HN.out HR7.out HG7.out);have KI8:=hid (KI.out.step hi E4.out);go_wp2;go_roundw
      case rel=>exact⟨i+1,_,_,_,_,_,by go_num,by omega,HM8.out,KI8.out⟩
      case measure=>simp[intOf];omega
    ·obtain⟨hl9,he9⟩:=KI.out.end_ (fun e=>by rcases Nat.lt_or_ge i 2 with h|h;exact absurd ⟨e,h⟩ hgo;exact h)
     obtain⟨av,cw,hv⟩:=HM.out.row.form;subst hv;have HL9:=hid hl9;have HE9:=hid he9;clear he9 hl9;obtain⟨k8,PP⟩:=HM.out.end_ HN.out HL9.out;have PP:=hid PP;have K8:=hid k8;clear k8;have done:(match (a1_ (n+1) l) with|some (c',r)=>Co.mk 6 ⟨#[]⟩ 0 tz acc=c'∧l'=r∧b=false|none=>b=true):=by
      have he:=HE9.out;rw[E9.out];cases X with
      | none=>exact he
      | some p=>obtain⟨ks,r⟩:=p;obtain⟨h1,h2,h3,_⟩:=he;subst h1;exact⟨rfl,h2,h3⟩
     have DONE:=hid done;clear done;have fin:∀ W,W=st80 wr w.heap.size (.int .i64 6) (.string ⟨#[]⟩) (.int .i64 0) (.int .i64 0) (.string ⟨#[]⟩) (.int .i64 0) (.slice none 0 0) (.slice av acc.length cw)→True:=fun _ _=>trivial;clear fin
     by_cases hb:b=true
     ·subst hb
      by_cases hi:i<2
      ·have z1:(i:Int)<2:=by omega
       go_wp2;have k8:=K8.out;refine bodyPost_ret (v:=.agg #[.int .i64 6,.string ⟨#[]⟩,.int .i64 0,.int .i64 0,.string ⟨#[]⟩,.int .i64 0,.slice none 0 0,.slice av acc.length cw]) ?_ rfl (PP.out _ DONE.out);simp[results,Tryz.results88,go_sem,k8.c0,k8.c1,k8.c2,k8.c3,k8.c4,k8.c5,k8.c6,k8.c7]
      ·have z1:¬ (i:Int)<2:=by omega
       go_wp2;have k8:=K8.out;refine bodyPost_ret (v:=.agg #[.int .i64 6,.string ⟨#[]⟩,.int .i64 0,.int .i64 0,.string ⟨#[]⟩,.int .i64 0,.slice none 0 0,.slice av acc.length cw]) ?_ rfl (PP.out _ DONE.out);simp[results,Tryz.results88,go_sem,k8.c0,k8.c1,k8.c2,k8.c3,k8.c4,k8.c5,k8.c6,k8.c7]
     ·obtain rfl:b=false:=by cases b<;>simp_all
      have z1:¬ (i:Int)<2:=by
       have:¬ i<2:=fun h=>hgo ⟨rfl,h⟩;omega
      go_wp2;have k8:=K8.out;refine bodyPost_ret (v:=.agg #[.int .i64 6,.string ⟨#[]⟩,.int .i64 0,.int .i64 0,.string ⟨#[]⟩,.int .i64 0,.slice none 0 0,.slice av acc.length cw]) ?_ rfl (PP.out _ DONE.out);simp[results,Tryz.results88,go_sem,k8.c0,k8.c1,k8.c2,k8.c3,k8.c4,k8.c5,k8.c6,k8.c7]
end Go.Proofs.YtkihnodkhnahiaaGreatDoor.Tp

/- Texts laid together: CoRuA, CoRule, CoReadW. -/
import Derived.Test.YtkihnodkhnahiaaGreatDoorP23
import Derived.Test.YtkihnodkhnahiaaGreatDoorP24
import Derived.Test.YtkihnodkhnahiaaGreatDoorP25
import Derived.Test.YtkihnodkhnahiaaGreatDoorP26
import Derived.Test.YtkihnodkhnahiaaGreatDoorP27
import Derived.Test.YtkihnodkhnahiaaGreatDoorP28
import Derived.Test.YtkihnodkhnahiaaGreatDoorP29
import Derived.Test.YtkihnodkhnahiaaGreatDoorP30

namespace Go.Proofs.YtkihnodkhnahiaaGreatDoor.Tp
open Go.RowKit
open Lx
set_option maxRecDepth 100000 in
set_option maxHeartbeats 6400000 in
theorem rule_none (n N B:Nat)(w:World)(l:List Tok)(ih:∀ k,k≤n→CoSaid k)(h:Rc N B w l false)(hN:N≤w.heap.size)(hV:VsN N w)(hok:∀ t∈l,TokK t)(hl:l.length≤4000)(hn:4*l.length+4≤n+1)(hz:sk l 2=false∨ruleK (headText l)=0):Calls Tryz.prog 88 #[.pointer (some ⟨B,0,none⟩)] w (CoPost N B w (ruleF (n+1) l)):=by
 have M0:=RuM.new h
 have CN:=Lib.hid (nextc 2 [] N B _ l false M0.rc)
 rw[sees_sk] at CN
 have HM0:=Lib.hid M0
 have HN:=Lib.hid hN
 have HB:=Lib.hid h.lt
 have HV:=Lib.hid hV
 have OK:=Lib.hid hok
 have HL:=Lib.hid hl
 have HNN:=Lib.hid hn
 have IH:=Lib.hid ih
 clear h M0 hV hok hl hn ih
 go_enter Tryz.func88,Tryz.ntmps88
 go_wp2_with fail
 refine CN.out.mono ?_
 intro e w1 hpost
 obtain⟨hg,hsz,s1,l1,b1,rfl,hR,hcase⟩:=next_any hpost
 obtain⟨sl,rfl,hcs⟩:∃ sl,s1=bytes sl∧(sk l 2=true∧sl=headText l∧l1=l.tail∧b1=false∨sk l 2=false∧sl=[]∧l1=l∧b1=true):=by
  rcases hcase with ⟨a,b,c,d⟩|⟨a,b,c,d⟩
  ·exact⟨_,b,.inl ⟨a,rfl,c,d⟩⟩
  ·exact⟨[],b,.inr ⟨a,rfl,c,d⟩⟩
 have M1:=Lib.hid (HM0.out.call hg hR)
 have HC:=Lib.hid hcs
 clear hpost hg hsz hR hcase hcs CN HM0
 go_wp2
 go_loopw [5] (fun kv wr=>∃ k:Nat,kv=.int .i64 k∧3≤k∧k≤10∧RuM N B w wr l1 b1 (rkI sl k) ⟨#[]⟩ 0 (.slice none 0 0) [] []) (fun kv _=>10 - (intOf kv).toNat)
 case atStart=>exact⟨3,rfl,Nat.le_refl _,by omega,by rw[rkI_start];exact M1.out⟩
 case round =>
  obtain⟨k,rfl,h3,h10,hM⟩:=hrel
  by_cases h9:k≤9
  ·have z1:(k:Int)≤9:=by omega
   have o0:=hM.o.c0
   have f0:=hM.o.fr 0
   have HM:=Lib.hid hM
   obtain⟨q,e1,e2⟩:=str_beq (bytes (wordK k)) (bytes sl)
   have HE:Hid (q=true↔ruleK sl=k):=Lib.hid (e2.trans ⟨fun e=>(word_iff sl k h3 h9).1 (bytes_inj e),fun e=>by rw[(word_iff sl k h3 h9).2 e]⟩)
   clear hM e2
   go_wp2_with fail
   refine (word_at k h3 h9 wr).mono ?_
   rintro e w2 ⟨rfl,rfl⟩
   cases q with
   | true =>
    have hk:=rkI_hit (HE.out.1 rfl)
    go_wp2
    go_roundw
    case rel=>exact⟨k+1,by go_num,by omega,by omega,by rw[hk.2];exact HM.out.set HN.out 0 _ rfl⟩
    case measure=>simp[intOf];omega
   | false =>
    have hk:=rkI_miss (s:=sl) (k:=k) (fun e=>by have:=HE.out.2 e;cases this)
    go_wp2
    go_roundw
    case rel=>exact⟨k+1,by go_num,by omega,by omega,by rw[hk];exact HM.out⟩
    case measure=>simp[intOf];omega
  ·obtain rfl:k=10:=by omega
   rw[rkI_end] at hM
   have z1:¬ ((10:Nat):Int)≤9:=by omega
   have hk:ruleK sl=0:=by
    rcases HC.out with ⟨a,b,_,_⟩|⟨_,b,_,_⟩
    ·rcases hz with h|h
     ·rw[a] at h;cases h
     ·rw[b];exact h
    ·rw[b];decide
   rw[hk] at hM
   have hM2:=hM.spoil true
   have mo:=hM.o
   have mr:=hM.r
   have mc:=hM.rc
   have o0:=mo.c0
   have o1:=mo.c1
   have o2:=mo.c2
   have o3:=mo.c3
   have o4:=mo.c4
   have o5:=mo.c5
   have o6:=mo.c6
   have o7:=mo.c7
   have r0:=mr.c0
   have r1:=mr.c1
   have r2:=mr.c2
   have r3:=mr.c3
   have r4:=mr.c4
   have r5:=mr.c5
   have r6:=mr.c6
   have r7:=mr.c7
   have f0:=mo.fr 0
   have f1:=mo.fr 1
   have f2:=mo.fr 2
   have f7:=mo.fr 7
   have g0:=mr.fr 0
   have g1:=mr.fr 1
   have g2:=mr.fr 2
   have g3:=mr.fr 3
   have g4:=mr.fr 4
   have g5:=mr.fr 5
   have g6:=mr.fr 6
   have g7:=mr.fr 7
   have x1:=mc.c1
   obtain⟨xa,xc,x0⟩:=mc.c0
   have y1:=mc.fr 1
   clear mo mr mc
   have HM2:=Lib.hid hM2
   have E:Hid (ruleF (n+1) l=none):=Lib.hid (by
    have:headF l=none:=by
     unfold headF
     rcases hz with h|h
     ·rw[h];rfl
     ·by_cases h2:sk l 2=true
      ·rw[if_pos h2,if_pos h]
      ·rw[if_neg h2]
    rw[ruleF,this])
   obtain⟨X,hX⟩:∃ X:Option (List Co × List Tok),X=none:=⟨_,rfl⟩
   have E9:Hid (ruleF (n+1) l=match (generalizing:=false) X with|none=>none|some (ks,r)=>some (.mk 0 ⟨#[]⟩ 0 tz ks,r)):=Lib.hid (by subst hX;exact E.out)
   clear hM hM2 hz
   go_wp2
   go_loopw [7] (fun iv wr=>∃ (i:Nat) (l':List Tok) (b:Bool) (v:Value) (acc:List Co) (ps:List (Value × Value)),iv=.int .i64 i∧i≤1∧RuM N B w wr l' b 0 ⟨#[]⟩ 0 v acc ps∧KInv n 1 X i acc l' b) (fun iv _=>1 - (intOf iv).toNat)
   case atStart=>exact⟨0,_,true,_,[],[],rfl,by omega,HM2.out,⟨by simp,.inr ⟨rfl,hX⟩⟩⟩
   case round =>
    obtain⟨i,l',b,v,acc,ps,rfl,him,hM,hK⟩:=hrel
    have z0:(0:Int)≤(i:Int):=by omega
    have mo:=hM.o
    have mr:=hM.r
    have mc:=hM.rc
    have o0:=mo.c0
    have o1:=mo.c1
    have o2:=mo.c2
    have o3:=mo.c3
    have o4:=mo.c4
    have o5:=mo.c5
    have o6:=mo.c6
    have o7:=mo.c7
    have r0:=mr.c0
    have r1:=mr.c1
    have r2:=mr.c2
    have r3:=mr.c3
    have r4:=mr.c4
    have r5:=mr.c5
    have r6:=mr.c6
    have r7:=mr.c7
    have f0:=mo.fr 0
    have f1:=mo.fr 1
    have f2:=mo.fr 2
    have f7:=mo.fr 7
    have g0:=mr.fr 0
    have g1:=mr.fr 1
    have g2:=mr.fr 2
    have g3:=mr.fr 3
    have g4:=mr.fr 4
    have g5:=mr.fr 5
    have g6:=mr.fr 6
    have g7:=mr.fr 7
    have x1:=mc.c1
    obtain⟨xa,xc,x0⟩:=mc.c0
    have y1:=mc.fr 1
    clear mo mr mc
    have HM:=Lib.hid hM
    have KI:=Lib.hid hK
    clear hM hK
    by_cases hgo:b=false∧i<1
    ·obtain⟨rfl,hi⟩:=hgo
     have z1:(i:Int)<1:=by omega
     have CH:=Lib.hid (kid_said IH.out HM.out HN.out HV.out KI.out)
     go_wp2
     go_region_law (first
      | ((with_reducible show (if Region.wanted _ _=true then Oper.wp _ _ _ (World.alloc _ _) _ _ else _));refine step_append_any (by rfl) _ _ _ (by rfl) (by rfl) (by rfl) PA.out ?_;rintro v7 w7 ⟨hr7,hg7,hl7⟩;obtain⟨a7,c7,hv7⟩:=hr7.form;rw[List.length_append,List.length_singleton] at hv7;subst hv7;have g7:=(K4.out.o.grown hg7 NV.out).fr 7;have e7:=(K4.out.o.grown hg7 NV.out).c7;have HR7:=Lib.hid hr7;have HG7:=Lib.hid hg7;clear hr7 hg7)
      | (go_simp;go_at_call 49;(with_reducible refine CH.out.mono ?_);rintro e w4 ⟨hg4,x,a4,c4,ka4,kc4,rfl,hA4,hres4⟩;obtain⟨l4,b4,hr4,e4⟩:=co_res hres4;have hM4:=HM.out.call (grown_trans (grown_below (r:=some B) (Below.refl _ _).drew) hg4) hr4;have p7:=hM4.o.c7;have p5:=(hM4.o.low ((Below.refl _ _).alloc (Nat.le_refl _) (.cells #[.int .i64 x.kind,.string x.name,.int .i64 x.n,.int .i64 x.t.kind,.string x.t.name,.int .i64 x.t.n,.slice a4 x.t.args.length c4,.slice ka4 x.kids.length kc4] 33))).c7;have K4:=Lib.hid hM4;have NV:Hid (v.ownBlock≠some (w.heap.size+1)):=Lib.hid (fun e=>by have:=(HM.out.row.own.lt _ e).1;omega);have PA:=Lib.hid (hM4.row.push hM4.sz (by have:=KI.out.len;omega) (CoAt.mono (fun b hb=>HM.out.beside hb) hA4));have E4:=Lib.hid e4;clear hg4 hA4 hres4 hr4 e4 hM4;unfold cv))
     all_goals
      have HM8:=Lib.hid (K4.out.pushed HN.out HR7.out HG7.out)
      have KI8:=Lib.hid (KI.out.step hi E4.out)
      go_wp2
      go_roundw
      case rel=>exact⟨i+1,_,_,_,_,_,by go_num,by omega,HM8.out,KI8.out⟩
      case measure=>simp[intOf];omega
    ·obtain⟨hl9,he9⟩:=KI.out.end_ (fun e=>by rcases Nat.lt_or_ge i 1 with h|h;exact absurd ⟨e,h⟩ hgo;exact h)
     obtain⟨av,cw,hv⟩:=HM.out.row.form
     subst hv
     have HL9:=Lib.hid hl9
     have HE9:=Lib.hid he9
     clear he9 hl9
     obtain⟨k8,PP⟩:=HM.out.end_ HN.out HL9.out
     have PP:=Lib.hid PP
     have K8:=Lib.hid k8
     clear k8
     have done:(match (ruleF (n+1) l) with|some (c',r)=>Co.mk 0 ⟨#[]⟩ 0 tz acc=c'∧l'=r∧b=false|none=>b=true):=by
      have he:=HE9.out
      rw[E9.out]
      cases X with
      | none=>exact he
      | some p=>obtain⟨ks,r⟩:=p;obtain⟨h1,h2,h3,_⟩:=he;subst h1;exact⟨rfl,h2,h3⟩
     have DONE:=Lib.hid done
     clear done
     have fin:∀ W,W=st80 wr w.heap.size (.int .i64 0) (.string ⟨#[]⟩) (.int .i64 0) (.int .i64 0) (.string ⟨#[]⟩) (.int .i64 0) (.slice none 0 0) (.slice av acc.length cw)→True:=fun _ _=>trivial
     clear fin
     by_cases hb:b=true
     ·subst hb
      by_cases hi:i<1
      ·have z1:(i:Int)<1:=by omega
       go_wp2
       have k8:=K8.out
       refine bodyPost_ret (v:=.agg #[.int .i64 0,.string ⟨#[]⟩,.int .i64 0,.int .i64 0,.string ⟨#[]⟩,.int .i64 0,.slice none 0 0,.slice av acc.length cw]) ?_ rfl (PP.out _ DONE.out)
       simp[results,Tryz.results88,go_sem,k8.c0,k8.c1,k8.c2,k8.c3,k8.c4,k8.c5,k8.c6,k8.c7]
      ·have z1:¬ (i:Int)<1:=by omega
       go_wp2
       have k8:=K8.out
       refine bodyPost_ret (v:=.agg #[.int .i64 0,.string ⟨#[]⟩,.int .i64 0,.int .i64 0,.string ⟨#[]⟩,.int .i64 0,.slice none 0 0,.slice av acc.length cw]) ?_ rfl (PP.out _ DONE.out)
       simp[results,Tryz.results88,go_sem,k8.c0,k8.c1,k8.c2,k8.c3,k8.c4,k8.c5,k8.c6,k8.c7]
     ·obtain rfl:b=false:=by cases b<;>simp_all
      have z1:¬ (i:Int)<1:=by
       have:¬ i<1:=fun h=>hgo ⟨rfl,h⟩
       omega
      go_wp2
      have k8:=K8.out
      refine bodyPost_ret (v:=.agg #[.int .i64 0,.string ⟨#[]⟩,.int .i64 0,.int .i64 0,.string ⟨#[]⟩,.int .i64 0,.slice none 0 0,.slice av acc.length cw]) ?_ rfl (PP.out _ DONE.out)
      simp[results,Tryz.results88,go_sem,k8.c0,k8.c1,k8.c2,k8.c3,k8.c4,k8.c5,k8.c6,k8.c7]
open Lx
theorem rule_step (n:Nat)(ih:∀ k,k≤n→CoSaid k):RuSaid (n+1):=fun N B w l h hN hV hok hl hn=>by
 cases h1:sk l 2 with
 | false=>exact rule_none n N B w l ih h hN hV hok hl hn (.inl h1)
 | true =>
  have hr:=ruleK_le (headText l)
  have hc:ruleK (headText l)=0∨ruleK (headText l)=3∨ruleK (headText l)=4∨ruleK (headText l)=5∨ruleK (headText l)=6∨ruleK (headText l)=7∨ruleK (headText l)=8∨ruleK (headText l)=9:=by omega
  rcases hc with e|e|e|e|e|e|e|e
  ·exact rule_none n N B w l ih h hN hV hok hl hn (.inr e)
  ·exact rule_sym n N B w l ih h hN hV hok hl hn ⟨h1,e⟩
  ·exact rule_trans n N B w l ih h hN hV hok hl hn ⟨h1,e⟩
  ·exact rule_con n N B w l ih h hN hV hok hl hn ⟨h1,e⟩
  ·exact rule_fun n N B w l ih h hN hV hok hl hn ⟨h1,e⟩
  ·exact rule_all n N B w l ih h hN hV hok hl hn ⟨h1,e⟩
  ·exact rule_nth n N B w l ih h hN hV hok hl hn ⟨h1,e⟩
  ·exact rule_inst n N B w l ih h hN hV hok hl hn ⟨h1,e⟩
theorem reader_said (n:Nat):CoSaid n∧RuSaid n:=by
 induction n using Nat.strongRecOn with
 | _ n ih =>
  cases n with
  | zero=>exact⟨fun _ _ _ _ _ _ _ _ _ hn=>by omega,fun _ _ _ _ _ _ _ _ _ hn=>by omega⟩
  | succ n=>exact⟨co_step n (ih n (by omega)).2,rule_step n fun k hk=>(ih k (by omega)).1⟩
open Lx
def coz:Co:=.mk 0 e0 0 tz []
def CReadPost (w:World)(res:Option (Co × List Tok))(e:Ending)(w':World):Prop :=
 Below w.heap.size w w'∧match res with
 | none=>e=.returned (.tuple #[cv coz none 0 none 0,.slice none 0 0,.bool false])
 | some (c,r)=>∃ a n ka kn a2 c2,e=.returned (.tuple #[cv c a n ka kn,.slice a2 r.length c2,.bool true])∧CoAt (In w.heap.size w'.heap.size) w' c a n ka kn∧ToksAt w' (.slice a2 r.length c2) r
theorem below_of_set80 {n:Nat}{w w1:World}(h:Below n w w1){b:Nat}(hb:n≤b)(u0 u1 u2 u3 u4 u5 u6 u7:Value):Below n w (st80 w1 b u0 u1 u2 u3 u4 u5 u6 u7):=st8_below w1 b 0 u0 u1 u2 u3 u4 u5 u6 u7 h hb
theorem coat_set80 {S:Nat→Prop}{w1:World}{c:Co}{a:Option Addr}{n:Nat}{ka:Option Addr}{kn:Nat}(h:CoAt S w1 c a n ka kn){b:Nat}(hb:∀ k,S k→k≠b)(u0 u1 u2 u3 u4 u5 u6 u7:Value):CoAt S (st80 w1 b u0 u1 u2 u3 u4 u5 u6 u7) c a n ka kn :=
 h.keep fun k hk=>by rw[st80_eq];exact st8_off _ _ _ _ _ _ _ _ _ _ _ (hb k hk)
theorem drewC (W:World)(b:Nat):W.drew.heap[b]? = W.heap[b]? := rfl
theorem B8.drew {w:World}{b:Nat}{u0 u1 u2 u3 u4 u5 u6 u7:Value}(h:B8 w b u0 u1 u2 u3 u4 u5 u6 u7):B8 w.drew b u0 u1 u2 u3 u4 u5 u6 u7:=(drewC w b).trans h
theorem CoAt.drew {S:Nat→Prop}{w1:World}{c:Co}{a:Option Addr}{n:Nat}{ka:Option Addr}{kn:Nat}(h:CoAt S w1 c a n ka kn):CoAt S w1.drew c a n ka kn:=h.keep fun b _=>drewC w1 b
theorem toks_below {w w':World}{a:Option Addr}{n cap N:Nat}{l:List Tok}(h:ToksAt w (.slice a n cap) l)(hN:∀ b o,a=some ⟨b,o,none⟩→b<N)(hg:Below N w w'):ToksAt w' (.slice a n cap) l:=by
 obtain⟨a',c',e,h4,h5|⟨b,off,h6,h7⟩⟩:=h
 ·exact⟨a',c',e,h4,.inl h5⟩
 ·refine⟨a',c',e,h4,.inr ⟨b,off,h6,fun i hi=>?_⟩⟩
  injection e with e1 e2 e3
  have hb:=hN b off (by rw[e1,h6])
  obtain⟨c0,c1,c2⟩:=h7 i hi
  have k:∀ o,w'.cell? ⟨b,o,none⟩=w.cell? ⟨b,o,none⟩:=fun o=>World.cell?_of_block (hg.block b hb)
  rw[k,k,k];exact⟨c0,c1,c2⟩
set_option maxRecDepth 100000 in
set_option maxHeartbeats 3200000 in
theorem readC_any (w:World)(hV:Vs w)(a:Option Addr)(cap:Nat)(l:List Tok)(ht:ToksAt w (.slice a l.length cap) l)(hb:∀ b o,a=some ⟨b,o,none⟩→b<w.heap.size)(hok:∀ t∈l,TokK t)(hl:l.length≤4000) :
  Calls Tryz.prog 20 #[.slice a l.length cap] w (CReadPost w (readC l)):=by
 have hz:=(Below.refl w.heap.size w).alloc (Nat.le_refl _) (.cells #[.int .i64 0,.string ⟨#[]⟩,.int .i64 0,.int .i64 0,.string ⟨#[]⟩,.int .i64 0,.slice none 0 0,.slice none 0 0] 33)
 have hz2:=hz.alloc (by simp) (.cells #[.slice a l.length cap,.bool false] 100)
 have hr:Rc w.heap.size (w.heap.size+1) ((w.alloc (.cells #[.int .i64 0,.string ⟨#[]⟩,.int .i64 0,.int .i64 0,.string ⟨#[]⟩,.int .i64 0,.slice none 0 0,.slice none 0 0] 33)).alloc (.cells #[.slice a l.length cap,.bool false] 100)) l false :=
  ⟨a,cap,alloc_new (by simp),toks_low ht hz2,by omega,hb,by omega⟩
 have C:=Lib.hid ((reader_said (4*l.length+4)).1 _ _ _ _ hr (by simp;omega) (VsN.below hV.n hz2) hok hl (by omega))
 have b8:=Lib.hid ((B8.new w (.int .i64 0) (.string ⟨#[]⟩) (.int .i64 0) (.int .i64 0) (.string ⟨#[]⟩) (.int .i64 0) (.slice none 0 0) (.slice none 0 0)).low ((Below.refl _ _).alloc (Nat.le_refl _) (.cells #[.slice a l.length cap,.bool false] 100)))
 have HZ:=Lib.hid hz2
 clear ht hb hok hz hr hz2 hV hl
 go_enter Tryz.func20,Tryz.ntmps20
 go_wp2_with fail
 refine C.out.mono ?_
 rintro e w1 ⟨hg,x,xa,xn,xka,xkn,rfl,hx,hres⟩
 obtain⟨l1,b1,hR1,hcase⟩:∃ l1 b1,Rc w.heap.size (w.heap.size+1) w1 l1 b1∧(match readC l with|some (c',r)=>x=c'∧l1=r∧b1=false|none=>b1=true):=by
  unfold readC
  cases hT:coF (4*l.length+4) l with
  | none=>rw[hT] at hres;obtain⟨l',h⟩:=hres;exact⟨l',true,h,rfl⟩
  | some p=>obtain⟨t',r⟩:=p;rw[hT] at hres;obtain⟨e,h⟩:=hres;subst e;exact⟨r,false,h,rfl,rfl,rfl⟩
 have k8:=b8.out.grown hg (fun e=>by injection e;omega)
 have hs2:w.heap.size+2≤w1.heap.size:=by have:=hg.size;simpa using this
 have p0:=k8.c0
 have p1:=k8.c1
 have p2:=k8.c2
 have p3:=k8.c3
 have p4:=k8.c4
 have p5:=k8.c5
 have p6:=k8.c6
 have p7:=k8.c7
 have fz0:=k8.fr 0
 have fz1:=k8.fr 1
 have fz2:=k8.fr 2
 have fz3:=k8.fr 3
 have fz4:=k8.fr 4
 have fz5:=k8.fr 5
 have fz6:=k8.fr 6
 have fz7:=k8.fr 7
 have cb:=hR1.c1
 have hn1:w.heap.size≠w.heap.size+1:=by omega
 have hn2:w.heap.size+1≠w.heap.size:=by omega
 have K8:=Lib.hid k8
 have G1:=Lib.hid (grown_trans (grown_below HZ.out) hg)
 have HX:=Lib.hid (hx.mono (S':=In (w.heap.size+2) w1.heap.size) fun b hb=>⟨by have:=hb.1;simp at this;omega,hb.2⟩)
 have R1:=Lib.hid hR1
 have HC:=Lib.hid hcase
 have HS2:=Lib.hid hs2
 clear k8 hg hx hres hR1 hcase b8 C hs2
 unfold cv
 cases b1 with
 | true =>
  have E:Hid (readC l=none):=Lib.hid (by
   have h:=HC.out
   cases hT:readC l with
   | none=>rfl
   | some p=>rw[hT] at h;cases h.2.2)
  go_wp2
  have q0:=K8.out.set80 _ _ (.int .i64 x.kind) (.string x.name) (.int .i64 x.n) (.int .i64 x.t.kind) (.string x.t.name) (.int .i64 x.t.n) (.slice xa x.t.args.length xn) (.slice xka x.kids.length xkn)
  have q8:=q0.set80 _ _ (.int .i64 0) (.string ⟨#[]⟩) (.int .i64 0) (.int .i64 0) (.string ⟨#[]⟩) (.int .i64 0) (.slice none 0 0) (.slice none 0 0)
  have g8:=below_of_set80 (below_of_set80 (grown_low G1.out (by omega)) (Nat.le_refl _) (.int .i64 x.kind) (.string x.name) (.int .i64 x.n) (.int .i64 x.t.kind) (.string x.t.name) (.int .i64 x.t.n) (.slice xa x.t.args.length xn) (.slice xka x.kids.length xkn)) (Nat.le_refl _) (.int .i64 0) (.string ⟨#[]⟩) (.int .i64 0) (.int .i64 0) (.string ⟨#[]⟩) (.int .i64 0) (.slice none 0 0) (.slice none 0 0)
  refine bodyPost_ret (v:=.tuple #[cv coz none 0 none 0,.slice none 0 0,.bool false]) (by simp[results,Tryz.results20,go_sem,cv,coz,co_kind,co_name,co_n,co_t,co_kids,q8.c0,q8.c1,q8.c2,q8.c3,q8.c4,q8.c5,q8.c6,q8.c7];first|rfl|exact⟨rfl,rfl,rfl,rfl,rfl⟩) rfl ?_
  rw[E.out]
  exact⟨g8,rfl⟩
 | false =>
  have E:Hid (readC l=some (x,l1)):=Lib.hid (by
   have h:=HC.out
   cases hT:readC l with
   | none=>rw[hT] at h;cases h
   | some p=>obtain⟨c',r⟩:=p;rw[hT] at h;obtain⟨h1,h2,_⟩:=h;subst h1 h2;rfl)
  go_wp2
  have q0:=K8.out.set80 _ _ (.int .i64 x.kind) (.string x.name) (.int .i64 x.n) (.int .i64 x.t.kind) (.string x.t.name) (.int .i64 x.t.n) (.slice xa x.t.args.length xn) (.slice xka x.kids.length xkn)
  have r0:=R1.out.set80 (b:=w.heap.size) (by omega) (Nat.le_refl _) (.int .i64 x.kind) (.string x.name) (.int .i64 x.n) (.int .i64 x.t.kind) (.string x.t.name) (.int .i64 x.t.n) (.slice xa x.t.args.length xn) (.slice xka x.kids.length xkn)
  have g0:=below_of_set80 (grown_low G1.out (by omega)) (Nat.le_refl _) (.int .i64 x.kind) (.string x.name) (.int .i64 x.n) (.int .i64 x.t.kind) (.string x.t.name) (.int .i64 x.t.n) (.slice xa x.t.args.length xn) (.slice xka x.kids.length xkn)
  have x0:=coat_set80 HX.out (b:=w.heap.size) (fun k hk=>by have:=hk.1;omega) (.int .i64 x.kind) (.string x.name) (.int .i64 x.n) (.int .i64 x.t.kind) (.string x.t.name) (.int .i64 x.t.n) (.slice xa x.t.args.length xn) (.slice xka x.kids.length xkn)
  have hfs:(st80 w1 w.heap.size (.int .i64 x.kind) (.string x.name) (.int .i64 x.n) (.int .i64 x.t.kind) (.string x.t.name) (.int .i64 x.t.n) (.slice xa x.t.args.length xn) (.slice xka x.kids.length xkn)).heap.size=w1.heap.size:=by simp
  rw[← hfs] at x0
  unfold st80 at q0 r0 g0 x0 hfs
  generalize (((((((w1.setCell ⟨w.heap.size,0,none⟩ (.int .i64 x.kind)).setCell ⟨w.heap.size,1,none⟩ (.string x.name)).setCell ⟨w.heap.size,2,none⟩ (.int .i64 x.n)).setCell ⟨w.heap.size,3,none⟩ (.int .i64 x.t.kind)).setCell ⟨w.heap.size,4,none⟩ (.string x.t.name)).setCell ⟨w.heap.size,5,none⟩ (.int .i64 x.t.n)).setCell ⟨w.heap.size,6,none⟩ (.slice xa x.t.args.length xn)).setCell ⟨w.heap.size,7,none⟩ (.slice xka x.kids.length xkn)=w2 at *
  have d0:=q0.c0
  have d1:=q0.c1
  have d2:=q0.c2
  have d3:=q0.c3
  have d4:=q0.c4
  have d5:=q0.c5
  have d6:=q0.c6
  have d7:=q0.c7
  have h0:=q0.fr 0
  have h1:=q0.fr 1
  have h2:=q0.fr 2
  have h3:=q0.fr 3
  have h4:=q0.fr 4
  have h5:=q0.fr 5
  have h6:=q0.fr 6
  have h7:=q0.fr 7
  obtain⟨a3,c3',hB3,hT3,hl3,ha3,hN3⟩:=id r0
  have cB3:w2.cell? ⟨w.heap.size+1,0,none⟩=some (.slice a3 l1.length c3'):=cell_of_row w2 _ 0 _ _ _ hB3
  have Q0:=Lib.hid q0
  have GG:=Lib.hid g0
  have AA:=Lib.hid x0
  have HT3:Hid (∀ W,Below w.heap.size w2 W→ToksAt W (.slice a3 l1.length c3') l1):=Lib.hid fun W hb=>toks_below hT3 ha3 hb
  clear q0 g0 r0 x0 hB3 hT3 hl3 ha3 hN3 cb hfs p0 p1 p2 p3 p4 p5 p6 p7 fz0 fz1 fz2 fz3 fz4 fz5 fz6 fz7 K8 G1 HX R1
  go_region
  go_wp2
  have b1:=(below_of_set80 (Below.refl w.heap.size w2) (Nat.le_refl _) (.int .i64 x.kind) (.string x.name) (.int .i64 x.n) (.int .i64 x.t.kind) (.string x.t.name) (.int .i64 x.t.n) (.slice xa x.t.args.length xn) (.slice xka x.kids.length xkn)).drew
  have t1:=HT3.out _ b1
  have q8:B8 (st80 w2 w.heap.size (.int .i64 x.kind) (.string x.name) (.int .i64 x.n) (.int .i64 x.t.kind) (.string x.t.name) (.int .i64 x.t.n) (.slice xa x.t.args.length xn) (.slice xka x.kids.length xkn)).drew w.heap.size (.int .i64 x.kind) (.string x.name) (.int .i64 x.n) (.int .i64 x.t.kind) (.string x.t.name) (.int .i64 x.t.n) (.slice xa x.t.args.length xn) (.slice xka x.kids.length xkn):=(Q0.out.set80 _ _ (.int .i64 x.kind) (.string x.name) (.int .i64 x.n) (.int .i64 x.t.kind) (.string x.t.name) (.int .i64 x.t.n) (.slice xa x.t.args.length xn) (.slice xka x.kids.length xkn)).drew
  have x8:=(coat_set80 AA.out (b:=w.heap.size) (fun k hk=>by have:=hk.1;omega) (.int .i64 x.kind) (.string x.name) (.int .i64 x.n) (.int .i64 x.t.kind) (.string x.t.name) (.int .i64 x.t.n) (.slice xa x.t.args.length xn) (.slice xka x.kids.length xkn)).drew
  have g8:=GG.out.trans (b1.mono (Nat.le_refl _))
  refine bodyPost_ret (v:=.tuple #[cv x xa xn xka xkn,.slice a3 l1.length c3',.bool true]) (by simp[results,Tryz.results20,go_sem,cv,q8.c0,q8.c1,q8.c2,q8.c3,q8.c4,q8.c5,q8.c6,q8.c7]) rfl ?_
  rw[E.out]
  exact⟨g8,xa,xn,xka,xkn,a3,c3',rfl,x8.mono (fun b hb=>by obtain⟨h1,h2⟩:=hb;exact⟨by omega,by simpa using h2⟩),t1⟩
end Go.Proofs.YtkihnodkhnahiaaGreatDoor.Tp

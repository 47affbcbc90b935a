/- Packed. -/
import Derived.Test.YtkihnodkhnahiaaGreatDoorP24
import Derived.Test.YtkihnodkhnahiaaGreatDoorP25
import Derived.Test.YtkihnodkhnahiaaGreatDoorP26
set_option maxRecDepth 100000
set_option maxHeartbeats 6400000
namespace Go.Proofs.YtkihnodkhnahiaaGreatDoor.Tp
open Go.RowKit
open Lx
theorem ja_ (n N B:Nat)(w:World)(l:List Tok)(ih:∀ k,k≤n→ej_ k)(h:Rc N B w l false)(hN:N≤w.heap.size)(hV:VsN N w)(hok:∀ t∈l,be_ t)(hl:l.length≤4000)(hn:4*l.length+4≤n+1)(hz:sk l 2=false∨ay_ (ab_ l)=0):Calls Tryz.prog 88 #[.pointer (some ⟨B,0,none⟩)] w (cX_ N B w (a1_ (n+1) l)):=by
 have M0:=RuM.new h;have CN:=hid (fa_ 2 [] N B _ l false M0.rc);rw[bY_] at CN;have HM0:=hid M0;have HN:=hid hN;have HB:=hid h.lt;have HV:=hid hV;have OK:=hid hok;have HL:=hid hl;have HNN:=hid hn;have IH:=hid ih;clear h M0 hV hok hl hn ih;go_enter Tryz.func88,Tryz.ntmps88;go_wp2_with fail;refine CN.out.mono ?_;intro e w1 hpost;obtain⟨hg,hsz,s1,l1,b1,rfl,hR,hcase⟩:=bC_ hpost;obtain⟨sl,rfl,hcs⟩:∃ sl,s1=aa_ sl∧(sk l 2=true∧sl=ab_ l∧l1=l.tail∧b1=false∨sk l 2=false∧sl=[]∧l1=l∧b1=true):=by
  rcases hcase with ⟨a,b,c,d⟩|⟨a,b,c,d⟩
  ·exact⟨_,b,.inl ⟨a,rfl,c,d⟩⟩
  ·exact⟨[],b,.inr ⟨a,rfl,c,d⟩⟩
 have M1:=hid (HM0.out.call hg hR);have HC:=hid hcs;clear hpost hg hsz hR hcase hcs CN HM0;go_wp2
 go_loopw [5] (fun kv wr=>∃ k:Nat,kv=.int .i64 k∧3≤k∧k≤10∧RuM N B w wr l1 b1 (rkI sl k) ⟨#[]⟩ 0 (.slice none 0 0) [] []) (fun kv _=>10 - (intOf kv).toNat)
 case atStart=>exact⟨3,rfl,aw_ _,by omega,by rw[c6_];exact M1.out⟩
 case round =>
  obtain⟨k,rfl,h3,h10,hM⟩:=hrel
  by_cases h9:k≤9
  ·have z1:(k:Int)≤9:=by omega
   have o0:=hM.o.c0;have f0:=hM.o.fr 0;have HM:=hid hM;obtain⟨q,e1,e2⟩:=de_ (aa_ (aP_ k)) (aa_ sl);have HE:Hid (q=true↔ay_ sl=k):=hid (e2.trans ⟨fun e=>(bv_ sl k h3 h9).1 (b4_ e),fun e=>by rw[(bv_ sl k h3 h9).2 e]⟩);clear hM e2;go_wp2_with fail;refine (dc_ k h3 h9 wr).mono ?_;rintro e w2 ⟨rfl,rfl⟩;cases q with
   | true =>
    have hk:=eC_ (HE.out.1 rfl);go_wp2;go_roundw
    case rel=>exact⟨k+1,by go_num,by omega,by omega,by rw[hk.2];exact HM.out.set HN.out 0 _ rfl⟩
    case measure=>simp[intOf];omega
   | false =>
    have hk:=dT_ (s:=sl) (k:=k) (fun e=>by have:=HE.out.2 e;cases this);go_wp2;go_roundw
    case rel=>exact⟨k+1,by go_num,by omega,by omega,by rw[hk];exact HM.out⟩
    case measure=>simp[intOf];omega
  ·obtain rfl:k=10:=by omega
   rw[eD_] at hM;have z1:¬ ((10:Nat):Int)≤9:=(by omega);have hk:ay_ sl=0:=by
    rcases HC.out with ⟨a,b,_,_⟩|⟨_,b,_,_⟩
    ·rcases hz with h|h
     ·rw[a] at h;cases h
     ·rw[b];exact h
    ·rw[b];decide
   rw[hk] at hM;have hM2:=hM.spoil true;have mo:=hM.o;have mr:=hM.r;have mc:=hM.rc;obtain⟨o0,o1,o2,o3,o4,o5,o6,o7⟩:=mo.c07;obtain⟨r0,r1,r2,r3,r4,r5,r6,r7⟩:=mr.c07;have f0:=mo.fr 0;have f1:=mo.fr 1;have f2:=mo.fr 2;have f7:=mo.fr 7;obtain⟨g0,g1,g2,g3,g4,g5,g6,g7⟩:=mr.f07;have x1:=mc.c1;obtain⟨xa,xc,x0⟩:=mc.c0;have y1:=mc.fr 1;clear mo mr mc;have HM2:=hid hM2;have E:Hid (a1_ (n+1) l=none):=hid (by
    have:bo_ l=none:=by
     unfold bo_
     rcases hz with h|h
     ·rw[h];rfl
     ·by_cases h2:sk l 2=true
      ·rw[if_pos h2,if_pos h]
      ·rw[if_neg h2]
    rw[a1_,this])
   obtain⟨X,hX⟩:∃ X:Option (List Co × List Tok),X=none:=⟨_,rfl⟩;have E9:Hid (a1_ (n+1) l=match (generalizing:=false) X with|none=>none|some (ks,r)=>some (.mk 0 ⟨#[]⟩ 0 tz ks,r)):=hid (by subst hX;exact E.out);clear hM hM2 hz;go_wp2
   go_loopw [7] (fun iv wr=>∃ (i:Nat) (l':List Tok) (b:Bool) (v:Value) (acc:List Co) (ps:List (Value × Value)),iv=.int .i64 i∧i≤1∧RuM N B w wr l' b 0 ⟨#[]⟩ 0 v acc ps∧fs_ n 1 X i acc l' b) (fun iv _=>1 - (intOf iv).toNat)
   case atStart=>exact⟨0,_,true,_,[],[],rfl,by omega,HM2.out,⟨by simp,.inr ⟨rfl,hX⟩⟩⟩
   case round =>
    obtain⟨i,l',b,v,acc,ps,rfl,him,hM,hK⟩:=hrel;have z0:(0:Int)≤(i:Int):=(by omega);have mo:=hM.o;have mr:=hM.r;have mc:=hM.rc;obtain⟨o0,o1,o2,o3,o4,o5,o6,o7⟩:=mo.c07;obtain⟨r0,r1,r2,r3,r4,r5,r6,r7⟩:=mr.c07;have f0:=mo.fr 0;have f1:=mo.fr 1;have f2:=mo.fr 2;have f7:=mo.fr 7;obtain⟨g0,g1,g2,g3,g4,g5,g6,g7⟩:=mr.f07;have x1:=mc.c1;obtain⟨xa,xc,x0⟩:=mc.c0;have y1:=mc.fr 1;clear mo mr mc;have HM:=hid hM;have KI:=hid hK;clear hM hK
    by_cases hgo:b=false∧i<1
    ·obtain⟨rfl,hi⟩:=hgo
     have z1:(i:Int)<1:=(by omega);have CH:=hid (eq_ IH.out HM.out HN.out HV.out KI.out);go_wp2
     go_region_law (first
      | ((with_reducible show (if Region.wanted _ _=true then Oper.wp _ _ _ (World.alloc _ _) _ _ else _));refine aJ_ (by rfl) _ _ _ (by rfl) (by rfl) (by rfl) PA.out ?_;rintro v7 w7 ⟨hr7,hg7,hl7⟩;obtain⟨a7,c7,hv7⟩:=hr7.form;rw[List.length_append,List.length_singleton] at hv7;subst hv7;have g7:=(K4.out.o.grown hg7 NV.out).fr 7;have e7:=(K4.out.o.grown hg7 NV.out).c7;have HR7:=hid hr7;have HG7:=hid hg7;clear hr7 hg7)
      | (go_simp;go_at_call 49;(with_reducible refine CH.out.mono ?_);rintro e w4 ⟨hg4,x,a4,c4,ka4,kc4,rfl,hA4,hres4⟩;obtain⟨l4,b4,hr4,e4⟩:=gh_ hres4;have hM4:=HM.out.call (ad_ (af_ (r:=some B) (Below.refl _ _).drew) hg4) hr4;have p7:=hM4.o.c7;have p5:=(hM4.o.low (ao_ _ (.cells #[.int .i64 x.kind,.string x.name,.int .i64 x.n,.int .i64 x.t.kind,.string x.t.name,.int .i64 x.t.n,.slice a4 x.t.args.length c4,.slice ka4 x.kids.length kc4] 33))).c7;have K4:=hid hM4;have NV:Hid (v.ownBlock≠some (w.heap.size+1)):=hid (fun e=>by have:=(HM.out.row.own.lt _ e).1;omega);have PA:=hid (hM4.row.push hM4.sz (by have:=KI.out.len;omega) (bS_.mono (fun b hb=>HM.out.beside hb) hA4));have E4:=hid e4;clear hg4 hA4 hres4 hr4 e4 hM4;unfold cv))
     all_goals
      have HM8:=hid (K4.out.pushed HN.out HR7.out HG7.out);have KI8:=hid (KI.out.step hi E4.out);go_wp2;go_roundw
      case rel=>exact⟨i+1,_,_,_,_,_,by go_num,by omega,HM8.out,KI8.out⟩
      case measure=>simp[intOf];omega
    ·obtain⟨hl9,he9⟩:=KI.out.end_ (fun e=>by rcases Nat.lt_or_ge i 1 with h|h;exact absurd ⟨e,h⟩ hgo;exact h)
     obtain⟨av,cw,hv⟩:=HM.out.row.form;subst hv;have HL9:=hid hl9;have HE9:=hid he9;clear he9 hl9;obtain⟨k8,PP⟩:=HM.out.end_ HN.out HL9.out;have PP:=hid PP;have K8:=hid k8;clear k8;have done:(match (a1_ (n+1) l) with|some (c',r)=>Co.mk 0 ⟨#[]⟩ 0 tz acc=c'∧l'=r∧b=false|none=>b=true):=by
      have he:=HE9.out;rw[E9.out];cases X with
      | none=>exact he
      | some p=>obtain⟨ks,r⟩:=p;obtain⟨h1,h2,h3,_⟩:=he;subst h1;exact⟨rfl,h2,h3⟩
     have DONE:=hid done;clear done;have fin:∀ W,W=st80 wr w.heap.size (.int .i64 0) (.string ⟨#[]⟩) (.int .i64 0) (.int .i64 0) (.string ⟨#[]⟩) (.int .i64 0) (.slice none 0 0) (.slice av acc.length cw)→True:=fun _ _=>trivial;clear fin
     by_cases hb:b=true
     ·subst hb
      by_cases hi:i<1
      ·have z1:(i:Int)<1:=by omega
       go_wp2;have k8:=K8.out;refine bodyPost_ret (v:=.agg #[.int .i64 0,.string ⟨#[]⟩,.int .i64 0,.int .i64 0,.string ⟨#[]⟩,.int .i64 0,.slice none 0 0,.slice av acc.length cw]) ?_ rfl (PP.out _ DONE.out);simp[results,Tryz.results88,go_sem,k8.c0,k8.c1,k8.c2,k8.c3,k8.c4,k8.c5,k8.c6,k8.c7]
      ·have z1:¬ (i:Int)<1:=by omega
       go_wp2;have k8:=K8.out;refine bodyPost_ret (v:=.agg #[.int .i64 0,.string ⟨#[]⟩,.int .i64 0,.int .i64 0,.string ⟨#[]⟩,.int .i64 0,.slice none 0 0,.slice av acc.length cw]) ?_ rfl (PP.out _ DONE.out);simp[results,Tryz.results88,go_sem,k8.c0,k8.c1,k8.c2,k8.c3,k8.c4,k8.c5,k8.c6,k8.c7]
     ·obtain rfl:b=false:=by cases b<;>simp_all
      have z1:¬ (i:Int)<1:=by
       have:¬ i<1:=fun h=>hgo ⟨rfl,h⟩;omega
      go_wp2;have k8:=K8.out;refine bodyPost_ret (v:=.agg #[.int .i64 0,.string ⟨#[]⟩,.int .i64 0,.int .i64 0,.string ⟨#[]⟩,.int .i64 0,.slice none 0 0,.slice av acc.length cw]) ?_ rfl (PP.out _ DONE.out);simp[results,Tryz.results88,go_sem,k8.c0,k8.c1,k8.c2,k8.c3,k8.c4,k8.c5,k8.c6,k8.c7]
open Lx
theorem mZ_ (n:Nat)(ih:∀ k,k≤n→ej_ k):ll_ (n+1):=fun N B w l h hN hV hok hl hn=>by
 cases h1:sk l 2 with
 | false=>exact ja_ n N B w l ih h hN hV hok hl hn (.inl h1)
 | true =>
  have hr:=en_ (ab_ l);have hc:ay_ (ab_ l)=0∨ay_ (ab_ l)=3∨ay_ (ab_ l)=4∨ay_ (ab_ l)=5∨ay_ (ab_ l)=6∨ay_ (ab_ l)=7∨ay_ (ab_ l)=8∨ay_ (ab_ l)=9:=by omega
  rcases hc with e|e|e|e|e|e|e|e
  ·exact ja_ n N B w l ih h hN hV hok hl hn (.inr e)
  ·exact o3_ n N B w l ih h hN hV hok hl hn ⟨h1,e⟩
  ·exact lP_ n N B w l ih h hN hV hok hl hn ⟨h1,e⟩
  ·exact o7_ n N B w l ih h hN hV hok hl hn ⟨h1,e⟩
  ·exact o5_ n N B w l ih h hN hV hok hl hn ⟨h1,e⟩
  ·exact o8_ n N B w l ih h hN hV hok hl hn ⟨h1,e⟩
  ·exact o4_ n N B w l ih h hN hV hok hl hn ⟨h1,e⟩
  ·exact m0_ n N B w l ih h hN hV hok hl hn ⟨h1,e⟩
theorem j6_ (n:Nat):ej_ n∧ll_ n:=by
 induction n using Nat.strongRecOn with
 | _ n ih =>
  cases n with
  | zero=>exact⟨fun _ _ _ _ _ _ _ _ _ hn=>by omega,fun _ _ _ _ _ _ _ _ _ hn=>by omega⟩
  | succ n=>exact⟨rA_ n (ih n (by omega)).2,mZ_ n fun k hk=>(ih k (by omega)).1⟩
open Lx
def coz:Co:=.mk 0 e0 0 tz []
def oE_ (w:World)(res:Option (Co × List Tok))(e:Ending)(w':World):Prop :=
 Below w.heap.size w w'∧match res with
 | none=>e=.returned (.tuple #[cv coz none 0 none 0,.slice none 0 0,.bool false])
 | some (c,r)=>∃ a n ka kn a2 c2,e=.returned (.tuple #[cv c a n ka kn,.slice a2 r.length c2,.bool true])∧bS_ (In w.heap.size w'.heap.size) w' c a n ka kn∧aO_ w' (.slice a2 r.length c2) r
theorem aD_ {n:Nat}{w w1:World}(h:Below n w w1){b:Nat}(hb:n≤b)(u0 u1 u2 u3 u4 u5 u6 u7:Value):Below n w (st80 w1 b u0 u1 u2 u3 u4 u5 u6 u7):=dE_ w1 b 0 u0 u1 u2 u3 u4 u5 u6 u7 h hb
theorem e5_ {S:Nat→Prop}{w1:World}{c:Co}{a:OA_}{n:Nat}{ka:OA_}{kn:Nat}(h:bS_ S w1 c a n ka kn){b:Nat}(hb:∀ k,S k→k≠b)(u0 u1 u2 u3 u4 u5 u6 u7:Value):bS_ S (st80 w1 b u0 u1 u2 u3 u4 u5 u6 u7) c a n ka kn :=
 h.keep fun k hk=>by rw[im_];exact gK_ _ _ _ _ _ _ _ _ _ _ _ (hb k hk)
theorem sA_ (W:World)(b:Nat):W.drew.heap[b]? = W.heap[b]? := rfl
theorem B8.drew {w:World}{b:Nat}{u0 u1 u2 u3 u4 u5 u6 u7:Value}(h:B8 w b u0 u1 u2 u3 u4 u5 u6 u7):B8 w.drew b u0 u1 u2 u3 u4 u5 u6 u7:=(sA_ w b).trans h
theorem bS_.drew {S:Nat→Prop}{w1:World}{c:Co}{a:OA_}{n:Nat}{ka:OA_}{kn:Nat}(h:bS_ S w1 c a n ka kn):bS_ S w1.drew c a n ka kn:=h.keep fun b _=>sA_ w1 b
theorem aL_ {w w':World}{a:OA_}{n cap N:Nat}{l:List Tok}(h:aO_ w (.slice a n cap) l)(hN:∀ b o,a=some ⟨b,o,none⟩→b<N)(hg:Below N w w'):aO_ w' (.slice a n cap) l:=by
 obtain⟨a',c',e,h4,h5|⟨b,off,h6,h7⟩⟩:=h
 ·exact⟨a',c',e,h4,.inl h5⟩
 ·refine⟨a',c',e,h4,.inr ⟨b,off,h6,fun i hi=>?_⟩⟩
  injection e with e1 e2 e3
  have hb:=hN b off (by rw[e1,h6]);obtain⟨c0,c1,c2⟩:=h7 i hi;have k:∀ o,w'.cell? ⟨b,o,none⟩=w.cell? ⟨b,o,none⟩:=fun o=>World.cell?_of_block (hg.block b hb);rw[k,k,k];exact⟨c0,c1,c2⟩
theorem nh_ (w:World)(hV:Vs w)(a:OA_)(cap:Nat)(l:List Tok)(ht:aO_ w (.slice a l.length cap) l)(hb:∀ b o,a=some ⟨b,o,none⟩→b<w.heap.size)(hok:∀ t∈l,be_ t)(hl:l.length≤4000) :
  Calls Tryz.prog 20 #[.slice a l.length cap] w (oE_ w (fk_ l)):=by
 have hz:=ao_ w (.cells #[.int .i64 0,.string ⟨#[]⟩,.int .i64 0,.int .i64 0,.string ⟨#[]⟩,.int .i64 0,.slice none 0 0,.slice none 0 0] 33);have hz2:=hz.alloc (by simp) (.cells #[.slice a l.length cap,.bool false] 100);have hr:Rc w.heap.size (w.heap.size+1) ((w.alloc (.cells #[.int .i64 0,.string ⟨#[]⟩,.int .i64 0,.int .i64 0,.string ⟨#[]⟩,.int .i64 0,.slice none 0 0,.slice none 0 0] 33)).alloc (.cells #[.slice a l.length cap,.bool false] 100)) l false :=
  ⟨a,cap,al_ (by simp),bw_ ht hz2,by omega,hb,by omega⟩
 have C:=hid ((j6_ (4*l.length+4)).1 _ _ _ _ hr (by simp;omega) (VsN.below hV.n hz2) hok hl (by omega));have b8:=hid ((B8.new w (.int .i64 0) (.string ⟨#[]⟩) (.int .i64 0) (.int .i64 0) (.string ⟨#[]⟩) (.int .i64 0) (.slice none 0 0) (.slice none 0 0)).low (ao_ _ (.cells #[.slice a l.length cap,.bool false] 100)));have HZ:=hid hz2;clear ht hb hok hz hr hz2 hV hl;go_enter Tryz.func20,Tryz.ntmps20;go_wp2_with fail;refine C.out.mono ?_;rintro e w1 ⟨hg,x,xa,xn,xka,xkn,rfl,hx,hres⟩;obtain⟨l1,b1,hR1,hcase⟩:∃ l1 b1,Rc w.heap.size (w.heap.size+1) w1 l1 b1∧(match fk_ l with|some (c',r)=>x=c'∧l1=r∧b1=false|none=>b1=true):=by
  unfold fk_;cases hT:coF (4*l.length+4) l with
  | none=>rw[hT] at hres;obtain⟨l',h⟩:=hres;exact⟨l',true,h,rfl⟩
  | some p=>obtain⟨t',r⟩:=p;rw[hT] at hres;obtain⟨e,h⟩:=hres;subst e;exact⟨r,false,h,rfl,rfl,rfl⟩
 have k8:=b8.out.grown hg (fun e=>by injection e;omega);have hs2:w.heap.size+2≤w1.heap.size:=by have:=hg.size;simpa using this
 obtain⟨p0,p1,p2,p3,p4,p5,p6,p7⟩:=k8.c07;obtain⟨fz0,fz1,fz2,fz3,fz4,fz5,fz6,fz7⟩:=k8.f07;have cb:=hR1.c1;have hn1:w.heap.size≠w.heap.size+1:=by omega
 have hn2:w.heap.size+1≠w.heap.size:=by omega
 have K8:=hid k8;have G1:=hid (ad_ (af_ HZ.out) hg);have HX:=hid (hx.mono (S':=In (w.heap.size+2) w1.heap.size) fun b hb=>⟨by have:=hb.1;simp at this;omega,hb.2⟩);have R1:=hid hR1;have HC:=hid hcase;have HS2:=hid hs2;clear k8 hg hx hres hR1 hcase b8 C hs2;unfold cv;cases b1 with
 | true =>
  have E:Hid (fk_ l=none):=hid (by
   have h:=HC.out;cases hT:fk_ l with
   | none=>rfl
   | some p=>rw[hT] at h;cases h.2.2)
  go_wp2;have q0:=K8.out.set80 _ _ (.int .i64 x.kind) (.string x.name) (.int .i64 x.n) (.int .i64 x.t.kind) (.string x.t.name) (.int .i64 x.t.n) (.slice xa x.t.args.length xn) (.slice xka x.kids.length xkn);have q8:=q0.set80 _ _ (.int .i64 0) (.string ⟨#[]⟩) (.int .i64 0) (.int .i64 0) (.string ⟨#[]⟩) (.int .i64 0) (.slice none 0 0) (.slice none 0 0);have g8:=aD_ (aD_ (fG_ G1.out (by omega)) (aw_ _) (.int .i64 x.kind) (.string x.name) (.int .i64 x.n) (.int .i64 x.t.kind) (.string x.t.name) (.int .i64 x.t.n) (.slice xa x.t.args.length xn) (.slice xka x.kids.length xkn)) (aw_ _) (.int .i64 0) (.string ⟨#[]⟩) (.int .i64 0) (.int .i64 0) (.string ⟨#[]⟩) (.int .i64 0) (.slice none 0 0) (.slice none 0 0);refine bodyPost_ret (v:=.tuple #[cv coz none 0 none 0,.slice none 0 0,.bool false]) (by simp[results,Tryz.results20,go_sem,cv,coz,bP_,bO_,h8_,h7_,b0_,q8.c0,q8.c1,q8.c2,q8.c3,q8.c4,q8.c5,q8.c6,q8.c7];first|rfl|exact⟨rfl,rfl,rfl,rfl,rfl⟩) rfl ?_;rw[E.out];exact⟨g8,rfl⟩
 | false =>
  have E:Hid (fk_ l=some (x,l1)):=hid (by
   have h:=HC.out;cases hT:fk_ l with
   | none=>rw[hT] at h;cases h
   | some p=>obtain⟨c',r⟩:=p;rw[hT] at h;obtain⟨h1,h2,_⟩:=h;subst h1 h2;rfl)
  go_wp2;have q0:=K8.out.set80 _ _ (.int .i64 x.kind) (.string x.name) (.int .i64 x.n) (.int .i64 x.t.kind) (.string x.t.name) (.int .i64 x.t.n) (.slice xa x.t.args.length xn) (.slice xka x.kids.length xkn);have r0:=R1.out.set80 (b:=w.heap.size) (by omega) (aw_ _) (.int .i64 x.kind) (.string x.name) (.int .i64 x.n) (.int .i64 x.t.kind) (.string x.t.name) (.int .i64 x.t.n) (.slice xa x.t.args.length xn) (.slice xka x.kids.length xkn);have g0:=aD_ (fG_ G1.out (by omega)) (aw_ _) (.int .i64 x.kind) (.string x.name) (.int .i64 x.n) (.int .i64 x.t.kind) (.string x.t.name) (.int .i64 x.t.n) (.slice xa x.t.args.length xn) (.slice xka x.kids.length xkn);have x0:=e5_ HX.out (b:=w.heap.size) (fun k hk=>by have:=hk.1;omega) (.int .i64 x.kind) (.string x.name) (.int .i64 x.n) (.int .i64 x.t.kind) (.string x.t.name) (.int .i64 x.t.n) (.slice xa x.t.args.length xn) (.slice xka x.kids.length xkn);have hfs:(st80 w1 w.heap.size (.int .i64 x.kind) (.string x.name) (.int .i64 x.n) (.int .i64 x.t.kind) (.string x.t.name) (.int .i64 x.t.n) (.slice xa x.t.args.length xn) (.slice xka x.kids.length xkn)).heap.size=w1.heap.size:=by simp
  rw[← hfs] at x0;unfold st80 at q0 r0 g0 x0 hfs;generalize (((((((w1.setCell ⟨w.heap.size,0,none⟩ (.int .i64 x.kind)).setCell ⟨w.heap.size,1,none⟩ (.string x.name)).setCell ⟨w.heap.size,2,none⟩ (.int .i64 x.n)).setCell ⟨w.heap.size,3,none⟩ (.int .i64 x.t.kind)).setCell ⟨w.heap.size,4,none⟩ (.string x.t.name)).setCell ⟨w.heap.size,5,none⟩ (.int .i64 x.t.n)).setCell ⟨w.heap.size,6,none⟩ (.slice xa x.t.args.length xn)).setCell ⟨w.heap.size,7,none⟩ (.slice xka x.kids.length xkn)=w2 at *;obtain⟨d0,d1,d2,d3,d4,d5,d6,d7⟩:=q0.c07;obtain⟨h0,h1,h2,h3,h4,h5,h6,h7⟩:=q0.f07;obtain⟨a3,c3',hB3,hT3,hl3,ha3,hN3⟩:=id r0;have cB3:w2.cell? ⟨w.heap.size+1,0,none⟩=some (.slice a3 l1.length c3'):=cell_of_row w2 _ 0 _ _ _ hB3;have Q0:=hid q0;have GG:=hid g0;have AA:=hid x0;have HT3:Hid (∀ W,Below w.heap.size w2 W→aO_ W (.slice a3 l1.length c3') l1):=hid fun W hb=>aL_ hT3 ha3 hb;clear q0 g0 r0 x0 hB3 hT3 hl3 ha3 hN3 cb hfs p0 p1 p2 p3 p4 p5 p6 p7 fz0 fz1 fz2 fz3 fz4 fz5 fz6 fz7 K8 G1 HX R1
  go_region
  go_wp2;have b1:=(aD_ (Below.refl w.heap.size w2) (aw_ _) (.int .i64 x.kind) (.string x.name) (.int .i64 x.n) (.int .i64 x.t.kind) (.string x.t.name) (.int .i64 x.t.n) (.slice xa x.t.args.length xn) (.slice xka x.kids.length xkn)).drew;have t1:=HT3.out _ b1;have q8:B8 (st80 w2 w.heap.size (.int .i64 x.kind) (.string x.name) (.int .i64 x.n) (.int .i64 x.t.kind) (.string x.t.name) (.int .i64 x.t.n) (.slice xa x.t.args.length xn) (.slice xka x.kids.length xkn)).drew w.heap.size (.int .i64 x.kind) (.string x.name) (.int .i64 x.n) (.int .i64 x.t.kind) (.string x.t.name) (.int .i64 x.t.n) (.slice xa x.t.args.length xn) (.slice xka x.kids.length xkn):=(Q0.out.set80 _ _ (.int .i64 x.kind) (.string x.name) (.int .i64 x.n) (.int .i64 x.t.kind) (.string x.t.name) (.int .i64 x.t.n) (.slice xa x.t.args.length xn) (.slice xka x.kids.length xkn)).drew;have x8:=(e5_ AA.out (b:=w.heap.size) (fun k hk=>by have:=hk.1;omega) (.int .i64 x.kind) (.string x.name) (.int .i64 x.n) (.int .i64 x.t.kind) (.string x.t.name) (.int .i64 x.t.n) (.slice xa x.t.args.length xn) (.slice xka x.kids.length xkn)).drew;have g8:=GG.out.trans (b1.mono (aw_ _));refine bodyPost_ret (v:=.tuple #[cv x xa xn xka xkn,.slice a3 l1.length c3',.bool true]) (by simp[results,Tryz.results20,go_sem,cv,q8.c0,q8.c1,q8.c2,q8.c3,q8.c4,q8.c5,q8.c6,q8.c7]) rfl ?_;rw[E.out];exact⟨g8,xa,xn,xka,xkn,a3,c3',rfl,x8.mono (fun b hb=>by obtain⟨h1,h2⟩:=hb;exact⟨by omega,by simpa using h2⟩),t1⟩
end Go.Proofs.YtkihnodkhnahiaaGreatDoor.Tp

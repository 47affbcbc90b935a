/- Packed. -/
import Derived.Test.YtkihnodkhnahiaaGreatDoorP48
import Derived.Test.YtkihnodkhnahiaaGreatDoorP49
import Derived.Test.YtkihnodkhnahiaaGreatDoorP50
set_option maxRecDepth 100000
set_option maxHeartbeats 6400000
namespace Go.Proofs.YtkihnodkhnahiaaGreatDoor.Tp
section
open Go.RowKit
open Lx
theorem q1_ (n:Nat)(ih:∀ m,m≤n→fM_ m):fM_ (n+1):=by
 intro w a c l i ht hb hr hok hl hi hn
 by_cases h1:sk (l.drop i) 1=true
 ·exact m1_ n w a c l i ht hb hl h1
 by_cases h2:st (l.drop i) 6 lts=true
 ·exact m5_ n w a c l i ht hb hr hl h2
 by_cases h3:(st (l.drop i) 6 bX_&&sk (l.drop (i+1)) 2)=true
 ·obtain⟨h4,h5⟩:st (l.drop i) 6 bX_=true∧sk (l.drop (i+1)) 2=true:=by simpa using h3
  have h9:=en_ (ab_ (l.drop (i+1)));have hk:ay_ (ab_ (l.drop (i+1)))=0∨ay_ (ab_ (l.drop (i+1)))=3∨ay_ (ab_ (l.drop (i+1)))=4∨ay_ (ab_ (l.drop (i+1)))=5∨ay_ (ab_ (l.drop (i+1)))=6∨ay_ (ab_ (l.drop (i+1)))=7∨ay_ (ab_ (l.drop (i+1)))=8∨ay_ (ab_ (l.drop (i+1)))=9:=by omega
  rcases hk with hk|hk|hk|hk|hk|hk|hk|hk
  ·exact lS_ n ih w a c l i ht hb hr hok hl hn h4 h5 hk
  ·exact gR_ 3 1 (by decide) n ih w a c l i ht hb hr hok hl hn h4 h5 hk
  ·exact gR_ 4 2 (by decide) n ih w a c l i ht hb hr hok hl hn h4 h5 hk
  ·exact m2_ n ih w a c l i ht hb hr hok hl hn h4 h5 hk
  ·exact gR_ 6 2 (by decide) n ih w a c l i ht hb hr hok hl hn h4 h5 hk
  ·exact kS_ 7 1 (by decide) n ih w a c l i ht hb hr hok hl hn h4 h5 hk
  ·exact kS_ 8 4 (by decide) n ih w a c l i ht hb hr hok hl hn h4 h5 hk
  ·exact lT_ n ih w a c l i ht hb hr hok hl hn h4 h5 hk
 ·exact m3_ n w a c l i ht hb hl hi (by simpa using h1) (by simpa using h2) (by simpa using h3)
theorem q0_:∀ n:Nat,∀ m,m≤n→fM_ m:=by
 intro n
 induction n with
 | zero=>intro m hm w a c l i _ _ _ _ _ _ hn;omega
 | succ n ih =>
  intro m hm
  rcases Nat.lt_or_ge m (n+1) with h|h
  ·exact ih m (by omega)
  ·obtain rfl:m=n+1:=by omega
   exact q1_ n ih
theorem q2_ (n:Nat):fM_ n:=q0_ n n (aw_ n)
def di_ (c:Co)(k:Nat):Bool:=decide (50<c.deep+k∨50<c.tdep)
theorem pR_ {ks:List Co}{m:Nat}(h:∀ x∈ks,x.deep≤m):bl_ ks≤m:=by
 induction ks with
 | nil=>exact Nat.zero_le _
 | cons x xs ih =>
  have h1:=h x (by simp);have h2:=ih fun y hy=>h y (by simp[hy]);rw[show x :: xs=[x]++xs from rfl,c9_];have:bl_ [x]=x.deep:=by simp[bl_]
  omega
theorem oP_ {ks:List Co}{m:Nat}(h:∀ x∈ks,x.tdep≤m):bz_ ks≤m:=by
 induction ks with
 | nil=>exact Nat.zero_le _
 | cons x xs ih =>
  have h1:=h x (by simp);have h2:=ih fun y hy=>h y (by simp[hy]);rw[show x :: xs=[x]++xs from rfl,c5_];have:bz_ [x]=x.tdep:=by simp[bz_]
  omega
theorem jA_ {c:Co}{k:Nat}(h:50≤k):di_ c k=true:=decide_eq_true (.inl (by rw[c.deep_eq];omega))
theorem n6_ {c:Co}{k:Nat}(h:50<cE_ c):di_ c k=true:=decide_eq_true (.inr (by rw[c.tdep_eq];omega))
theorem jz_ {c:Co}{k:Nat}{x:Co}(hx:x∈c.kids)(h:di_ x (k+1)=true):di_ c k=true:=by
 have h:=of_decide_eq_true h;refine decide_eq_true ?_;have h1:=e3_ _ hx;have h2:=eS_ _ hx;have h3:=c.deep_eq;have h4:=c.tdep_eq;omega
theorem h5_ {c:Co}{k:Nat}(hk:k<50)(h0:cE_ c≤50)(h:∀ x∈c.kids,di_ x (k+1)=false):di_ c k=false:=by
 refine decide_eq_false ?_;have h1:bl_ c.kids≤49 - k:=pR_ fun x hx=>by have:=of_decide_eq_false (h x hx);omega
 have h2:bz_ c.kids≤50:=oP_ fun x hx=>by have:=of_decide_eq_false (h x hx);omega
 have h3:=c.deep_eq;have h4:=c.tdep_eq;omega
theorem nj_:∀ (c:Co) (S:Nat→Prop) (a:OA_) (n:Nat) (ka:OA_) (kn:Nat) (w:World) (k:Nat),bS_ S w c a n ka kn→(∀ b,S b→b<w.heap.size)→c.tdep≤100000→k≤50 →
  Calls Tryz.prog 42 #[cv c a n ka kn,.int .i64 k] w fun e w'=>e=.returned (.bool (di_ c k))∧Below w.heap.size w w':=by
 intro c
 induction c using Co.ind with
 | h c ih =>
  intro S a n ka kn w k hC hn hd hk;have hz:=ao_ w (.cells #[.int .i64 c.kind,.string c.name,.int .i64 c.n,.int .i64 c.t.kind,.string c.t.name,.int .i64 c.t.n,.slice a c.t.args.length n,.slice ka c.kids.length kn] 59);have b8:=Z8.new w (.int .i64 c.kind) (.string c.name) (.int .i64 c.n) (.int .i64 c.t.kind) (.string c.t.name) (.int .i64 c.t.n) (.slice a c.t.args.length n) (.slice ka c.kids.length kn);have B0:=hid hz;have K0:=hid b8;have HC:=hid hC;have HS:=hid hn;have TD:=hid hd;have IH:=hid ih;have hkl:c.kids.length≤9223372036854775807:=by obtain⟨_,_,_,h⟩:=hC.k.form;exact h
  by_cases hk50:50≤k
  ·have z1:(50:Int)≤(k:Int):=by omega
   have z2:decide ((50:Int)≤(k:Int))=true:=decide_eq_true z1;have E:Hid (di_ c k=true):=hid (jA_ hk50);clear hC hn hd ih hz b8;unfold cv;go_enter Tryz.func42,Tryz.ntmps42;go_wp2;go_ret;exact⟨by rw[E.out];rfl,B0.out⟩
  ·replace hk50:k<50:=by omega
   have z1:¬ (50:Int)≤(k:Int):=(by omega);have z2:decide ((50:Int)≤(k:Int))=false:=decide_eq_false z1;have c0:=b8.c0;have c7:=b8.c7
   by_cases hk29:c.kind=2∨c.kind=9
   ·have T1:Hid (cE_ c=c.t.depth):=hid (by unfold cE_;rw[if_pos hk29])
    have hd0:c.t.depth≤100000:=by have h1:=c.tdep_eq;have h2:=T1.out;omega
    have CD:=hid (hO_ c.t S a n _ (hC.t.keep fun b hb=>hz.block b (hn b hb)) (fun b hb=>aX_ (hn b hb) hz.size) hd0);have c3:=b8.c3;have c4:=b8.c4;have c5:=b8.c5;have c6:=b8.c6;have hq:((c.kind==2)=true∧(c.kind==9)=false)∨((c.kind==2)=false∧(c.kind==9)=true):=by
     rcases hk29 with h|h
     ·exact .inl ⟨by rw[h];rfl,by rw[h];rfl⟩
     ·exact .inr ⟨by rw[h];rfl,by rw[h];rfl⟩
    clear hC hn hd ih hz b8 hk29;unfold cv;unfold tv at CD
    by_cases hdd:50<c.t.depth
    ·have z3:(50:Int)<(c.t.depth:Int):=by omega
     have z4:decide ((50:Int)<(c.t.depth:Int))=true:=decide_eq_true z3;have E:Hid (di_ c k=true):=hid (n6_ (by rw[T1.out];exact hdd))
     rcases hq with ⟨q1,q2⟩|⟨q1,q2⟩
     all_goals
      go_enter Tryz.func42,Tryz.ntmps42;go_wp2_with fail;refine CD.out.mono ?_;rintro e w1 ⟨rfl,hb1⟩;have B1:=hid (B0.out.trans (hb1.mono B0.out.size));have k1:=K0.out.low hb1;clear c0 c7 c3 c4 c5 c6;have c0:=k1.c0;clear hb1 k1;go_wp2;go_ret;exact⟨by rw[E.out];rfl,B1.out⟩
    ·have z3:¬ (50:Int)<(c.t.depth:Int):=by omega
     have z4:decide ((50:Int)<(c.t.depth:Int))=false:=decide_eq_false z3;have T0:Hid (cE_ c≤50):=hid (by rw[T1.out];omega)
     rcases hq with ⟨q1,q2⟩|⟨q1,q2⟩
     all_goals
      go_enter Tryz.func42,Tryz.ntmps42;go_wp2_with fail;refine CD.out.mono ?_;rintro e w1 ⟨rfl,hb1⟩;have B1:=hid (B0.out.trans (hb1.mono B0.out.size));have k1:=K0.out.low hb1;clear c0 c7 c3 c4 c5 c6;have K1:=hid k1;have c0:=k1.c0;have c7:=k1.c7;clear hb1 k1;go_wp2
      go_loopw [5] (fun iv wr=>∃ i:Nat,iv=.int .i64 i∧i≤c.kids.length∧(∀ (j:Nat) (h:j<c.kids.length),j<i→di_ c.kids[j] (k+1)=false)∧Z8 wr w.heap.size (.int .i64 c.kind) (.string c.name) (.int .i64 c.n) (.int .i64 c.t.kind) (.string c.t.name) (.int .i64 c.t.n) (.slice a c.t.args.length n) (.slice ka c.kids.length kn)∧Below w.heap.size w wr) (fun iv _=>c.kids.length - (intOf iv).toNat)
      case atStart=>exact⟨0,rfl,Nat.zero_le _,(fun j h h0=>absurd h0 (Nat.not_lt_zero j)),K1.out,B1.out⟩
      case round =>
       clear c0 c7;obtain⟨i,rfl,hil,hno,hK,hB⟩:=hrel;have z0:(0:Int)≤(i:Int):=(by omega);have NO:=hid hno;have KH:=hid hK;have BH:=hid hB;have c7:=hK.c7
       by_cases hi:i<c.kids.length
       ·have z1:(i:Int)<(c.kids.length:Int):=by omega
        obtain⟨b,off,a1,n1,a2,n2,rfl,hb,hf,hs,hk2⟩:=HC.out.k.at_ hi;have hn:=HS.out;obtain⟨f0,f1,f2,f3,f4,f5,f6,f7⟩:=hf.keep (hB.block b (hn b hb));have hm:=List.getElem_mem hi;have CH:=hid (IH.out _ hm S a1 n1 a2 n2 wr (k+1) ⟨hs.keep fun b hS=>hB.block b (hn b hS),hk2.keep fun b hS=>hB.block b (hn b hS)⟩ (fun b hS=>aX_ (hn b hS) hB.size) (bm_ (by have:=eS_ _ hm;have:=c.tdep_eq;omega) TD.out) (by omega));have DY:Hid (di_ c.kids[i] (k+1)=true→di_ c k=true):=hid (jz_ hm);have DN:Hid (di_ c.kids[i] (k+1)=false→∀ (j:Nat) (h:j<c.kids.length),j<i+1→di_ c.kids[j] (k+1)=false):=hid (fun e j h hj=>by
         rcases Nat.lt_or_ge j i with h1|h1
         ·exact NO.out j h h1
         ·obtain rfl:j=i:=by omega
          exact e)
        clear hf hs hk2 hB hK hm hn hb hno;unfold cv at CH;rw[show ((k+1:Nat):Int)=(k:Int)+1 from by omega] at CH;generalize di_ c.kids[i] (k+1)=q at *;generalize c.kids[i]=x at *;go_wp2_with fail;refine CH.out.mono ?_;rintro e w4 ⟨rfl,hb4⟩;have B4_:=hid (BH.out.trans (hb4.mono BH.out.size));have K4:=hid (KH.out.low hb4);clear hb4;cases q with
        | true =>
         have E:=hid (DY.out rfl);go_wp2;go_ret;exact⟨by rw[E.out];rfl,B4_.out⟩
        | false =>
         have DM:=hid (DN.out rfl);clear DN DY;go_wp2;go_roundw
         case rel=>exact⟨i+1,by go_num,by omega,DM.out,K4.out,B4_.out⟩
         case measure=>simp[intOf];omega
       ·obtain rfl:i=c.kids.length:=by omega
        have E:Hid (di_ c k=false):=hid (h5_ hk50 T0.out (fun x hx=>by
         obtain⟨j,hj,rfl⟩:=List.mem_iff_getElem.1 hx;exact NO.out j hj hj))
        clear hB hK hno;go_wp2;go_ret;exact⟨by rw[E.out];rfl,BH.out⟩
   ·have T0:Hid (cE_ c≤50):=hid (by unfold cE_;rw[if_neg hk29];omega)
    have q1:(c.kind==2)=false:=by rw[beq_eq_false_iff_ne];omega
    have q2:(c.kind==9)=false:=by rw[beq_eq_false_iff_ne];omega
    clear hC hn hd ih hz b8 hk29;unfold cv;go_enter Tryz.func42,Tryz.ntmps42;go_wp2
    go_loopw [5] (fun iv wr=>∃ i:Nat,iv=.int .i64 i∧i≤c.kids.length∧(∀ (j:Nat) (h:j<c.kids.length),j<i→di_ c.kids[j] (k+1)=false)∧Z8 wr w.heap.size (.int .i64 c.kind) (.string c.name) (.int .i64 c.n) (.int .i64 c.t.kind) (.string c.t.name) (.int .i64 c.t.n) (.slice a c.t.args.length n) (.slice ka c.kids.length kn)∧Below w.heap.size w wr) (fun iv _=>c.kids.length - (intOf iv).toNat)
    case atStart=>exact⟨0,rfl,Nat.zero_le _,(fun j h h0=>absurd h0 (Nat.not_lt_zero j)),K0.out,B0.out⟩
    case round =>
     clear c0 c7;obtain⟨i,rfl,hil,hno,hK,hB⟩:=hrel;have z0:(0:Int)≤(i:Int):=(by omega);have NO:=hid hno;have KH:=hid hK;have BH:=hid hB;have c7:=hK.c7
     by_cases hi:i<c.kids.length
     ·have z1:(i:Int)<(c.kids.length:Int):=by omega
      obtain⟨b,off,a1,n1,a2,n2,rfl,hb,hf,hs,hk2⟩:=HC.out.k.at_ hi;have hn:=HS.out;obtain⟨f0,f1,f2,f3,f4,f5,f6,f7⟩:=hf.keep (hB.block b (hn b hb));have hm:=List.getElem_mem hi;have CH:=hid (IH.out _ hm S a1 n1 a2 n2 wr (k+1) ⟨hs.keep fun b hS=>hB.block b (hn b hS),hk2.keep fun b hS=>hB.block b (hn b hS)⟩ (fun b hS=>aX_ (hn b hS) hB.size) (bm_ (by have:=eS_ _ hm;have:=c.tdep_eq;omega) TD.out) (by omega));have DY:Hid (di_ c.kids[i] (k+1)=true→di_ c k=true):=hid (jz_ hm);have DN:Hid (di_ c.kids[i] (k+1)=false→∀ (j:Nat) (h:j<c.kids.length),j<i+1→di_ c.kids[j] (k+1)=false):=hid (fun e j h hj=>by
       rcases Nat.lt_or_ge j i with h1|h1
       ·exact NO.out j h h1
       ·obtain rfl:j=i:=by omega
        exact e)
      clear hf hs hk2 hB hK hm hn hb hno;unfold cv at CH;rw[show ((k+1:Nat):Int)=(k:Int)+1 from by omega] at CH;generalize di_ c.kids[i] (k+1)=q at *;generalize c.kids[i]=x at *;go_wp2_with fail;refine CH.out.mono ?_;rintro e w4 ⟨rfl,hb4⟩;have B4_:=hid (BH.out.trans (hb4.mono BH.out.size));have K4:=hid (KH.out.low hb4);clear hb4;cases q with
      | true =>
       have E:=hid (DY.out rfl);go_wp2;go_ret;exact⟨by rw[E.out];rfl,B4_.out⟩
      | false =>
       have DM:=hid (DN.out rfl);clear DN DY;go_wp2;go_roundw
       case rel=>exact⟨i+1,by go_num,by omega,DM.out,K4.out,B4_.out⟩
       case measure=>simp[intOf];omega
     ·obtain rfl:i=c.kids.length:=by omega
      have E:Hid (di_ c k=false):=hid (h5_ hk50 T0.out (fun x hx=>by
       obtain⟨j,hj,rfl⟩:=List.mem_iff_getElem.1 hx;exact NO.out j hj hj))
      clear hB hK hno;go_wp2;go_ret;exact⟨by rw[E.out];rfl,BH.out⟩
open Lx
theorem lZ_ (w:World)(a:OA_)(c:Nat)(l:List Tok)(ht:aO_ w (.slice a l.length c) l)(hb:∀ b o,a=some ⟨b,o,none⟩→b<w.heap.size)(hr:hl_ l)(hok:∀ t∈l,be_ t)(hl:l.length≤4000) :
  Calls Tryz.prog 21 #[.slice a l.length c,.int .i64 0] w (d2_ w l.length (fk_ l)):=by
 have:=q2_ (4*l.length+4) w a c l 0 ht hb hr hok hl (Nat.zero_le _) (by omega);rwa [List.drop_zero] at this
theorem j8_ (w:World)(s:ByteArray)(hs:s.size≤maxLen):Calls Tryz.prog 17 #[.string s] w (ig_ w (aY_ s.data.toList)):=by
 have C:=hid (jb_ s (w.alloc (.cells #[.int .i64 0,.string ⟨#[]⟩,.int .i64 0,.int .i64 0,.string ⟨#[]⟩,.int .i64 0,.slice none 0 0,.slice none 0 0] 59)) hs);have b8:=hid (Z8.new w (.int .i64 0) (.string ⟨#[]⟩) (.int .i64 0) (.int .i64 0) (.string ⟨#[]⟩) (.int .i64 0) (.slice none 0 0) (.slice none 0 0));have HZ:=hid (ao_ w (.cells #[.int .i64 0,.string ⟨#[]⟩,.int .i64 0,.int .i64 0,.string ⟨#[]⟩,.int .i64 0,.slice none 0 0,.slice none 0 0] 59));have hok:Hid (∀ t∈(bI_ s.data.toList).1,be_ t):=hid (fun t ht=>oM_ t (cJ_ s.data.toList t ht));have hrr:=hid (i0_ s.data.toList);have hlen:=ca_ s.data.toList
 rcases hsc:bI_ s.data.toList with ⟨ts,p,er⟩
 have hP:=fz_ hsc;rw[hsc] at hok hlen hrr;have HSC:=hid hsc;have HP:=hid hP;clear hsc hP;go_enter Tryz.func17,Tryz.ntmps17;go_wp2_with fail;refine C.out.mono ?_;rintro e w1 ⟨v,rfl,hb,ho⟩;rw[HSC.out] at ho ⊢;have k8:=b8.out.low hb;obtain⟨c0,c1,c2,c3,c4,c5,c6,c7⟩:=k8.c07;obtain⟨f0,f1,f2,f3,f4,f5,f6,f7⟩:=k8.f07;have K8:=hid k8;have hb1:=HZ.out.trans (hb.mono (by simp));have B1:=hid hb1;obtain⟨va,vc,rfl⟩:=a2_ ho;have OW:=hid ho;have hw01:Hid (w.heap.size+1≤w1.heap.size):=hid (by have:=hb.size;simpa using this);clear k8 hb ho hb1
 by_cases her:er=0
 ·subst her
  have HP1:=HP.out;rw[if_neg (by simp)] at HP1;have RC:=hid (lZ_ w1 va vc ts (c4_ OW.out) (fun b o e=>(OW.out.lt b (by rw[e];rfl)).2) hrr.out hok.out hlen);have HP2:=hid HP1;clear HP1;go_wp2_with fail;refine RC.out.mono ?_;rintro e w2 ⟨hb2,hres⟩;have k5:=K8.out.low hb2;have K5:=hid k5;have B2:=hid hb2;cases hT:fk_ ts with
  | none =>
   rw[hT] at hres;obtain⟨jk,js,jn,jt,ju,jv,ja,jl,jc,jb,jm,jd,rfl⟩:=hres;have zt:((-1:Int) != (ts.length:Int))=true:=by rw[bne_iff_ne];omega
   have E:Hid (aY_ s.data.toList=.error 50):=hid (by rw[HP2.out,hT]);have hz:=ao_ w2 (.cells #[.int .i64 jk,.string js,.int .i64 jn,.int .i64 jt,.string ju,.int .i64 jv,.slice ja jl jc,.slice jb jm jd] 59);have k6:=k5.low hz;have K6:=hid k6;have G6:=hid (B1.out.trans ((hb2.trans (hz.mono hb2.size)).mono B1.out.size));obtain⟨d0,d1,d2,d3,d4,d5,d6,d7⟩:=k6.c07;obtain⟨h0,h1,h2,h3,h4,h5,h6,h7⟩:=k6.f07;clear hT k5 hb2 hz k6;go_wp2;have q8:=Z8.set80 (.int .i64 0) (.string ⟨#[]⟩) (.int .i64 0) (.int .i64 0) (.string ⟨#[]⟩) (.int .i64 0) (.slice none 0 0) (.slice none 0 0) K6.out;have g8:=aD_ G6.out (aw_ _) (.int .i64 0) (.string ⟨#[]⟩) (.int .i64 0) (.int .i64 0) (.string ⟨#[]⟩) (.int .i64 0) (.slice none 0 0) (.slice none 0 0);refine bodyPost_ret (v:=.tuple #[cv coz none 0 none 0,.int .i64 50]) (by simp[results,Tryz.results17,go_sem,cv,coz,bP_,bO_,h8_,h7_,b0_,q8.c0,q8.c1,q8.c2,q8.c3,q8.c4,q8.c5,q8.c6,q8.c7];first|rfl|exact⟨rfl,rfl,rfl,rfl,rfl⟩) rfl ?_;rw[E.out];exact⟨g8,rfl⟩
  | some x =>
   obtain⟨c,r⟩:=x;rw[hT] at hres;obtain⟨a1,n1,ka1,kn1,rfl,hA⟩:=hres;have hz:=ao_ w2 (.cells #[.int .i64 c.kind,.string c.name,.int .i64 c.n,.int .i64 c.t.kind,.string c.t.name,.int .i64 c.t.n,.slice a1 c.t.args.length n1,.slice ka1 c.kids.length kn1] 59);have k6:=k5.low hz;have kt:=Z8.new w2 (.int .i64 c.kind) (.string c.name) (.int .i64 c.n) (.int .i64 c.t.kind) (.string c.t.name) (.int .i64 c.t.n) (.slice a1 c.t.args.length n1) (.slice ka1 c.kids.length kn1);have K6:=hid k6;have G6:=hid (B1.out.trans ((hb2.trans (hz.mono hb2.size)).mono B1.out.size));have A6:=hid (hA.keep (fun b hb=>hz.block b hb.2));have hdp:=hN_ hok.out hlen hT;have hrl:=(he_ hT).length_le;have hE2:aY_ s.data.toList=if r≠[] then .error 50 else if 50<c.deep∨50<c.tdep then .error 3 else .ok c:=(by rw[HP2.out,hT]);obtain⟨d0,d1,d2,d3,d4,d5,d6,d7⟩:=k6.c07;obtain⟨h0,h1,h2,h3,h4,h5,h6,h7⟩:=k6.f07;obtain⟨t0,t1,t2,t3,t4,t5,t6,t7⟩:=kt.c07;clear hT k5 hb2 hz k6 kt hA;unfold cv
   by_cases hr:r=[]
   ·subst hr
    have zt:(((ts.length - ([]:List Tok).length:Nat):Int) != (ts.length:Int))=false:=(by simp);have hE3:aY_ s.data.toList=if 50<c.deep∨50<c.tdep then .error 3 else .ok c:=(by rw[hE2,if_neg (by simp)]);have CD:=hid (nj_ c _ a1 n1 ka1 kn1 _ 0 A6.out (fun b hb=>by have:=hb.2;simp;omega) (by omega) (by omega));unfold cv at CD;rw[show ((0:Nat):Int)=0 from rfl] at CD;clear hE2
    by_cases hd:50<c.deep∨50<c.tdep
    ·have E:Hid (aY_ s.data.toList=.error 3):=hid (by rw[hE3,if_pos hd])
     have hq:di_ c 0=true:=decide_eq_true hd;rw[hq] at CD;clear hE3 hq;go_wp2_with fail;refine CD.out.mono ?_;rintro e w4 ⟨rfl,hb4⟩;have k7:=K6.out.low hb4;obtain⟨x0,x1,x2,x3,x4,x5,x6,x7⟩:=k7.c07;obtain⟨y0,y1,y2,y3,y4,y5,y6,y7⟩:=k7.f07;have K7:=hid k7;have G7:=hid (G6.out.trans (hb4.mono G6.out.size));clear k7 hb4;go_wp2;have q8:=Z8.set80 (.int .i64 0) (.string ⟨#[]⟩) (.int .i64 0) (.int .i64 0) (.string ⟨#[]⟩) (.int .i64 0) (.slice none 0 0) (.slice none 0 0) K7.out;have g8:=aD_ G7.out (aw_ _) (.int .i64 0) (.string ⟨#[]⟩) (.int .i64 0) (.int .i64 0) (.string ⟨#[]⟩) (.int .i64 0) (.slice none 0 0) (.slice none 0 0);refine bodyPost_ret (v:=.tuple #[cv coz none 0 none 0,.int .i64 3]) (by simp[results,Tryz.results17,go_sem,cv,coz,bP_,bO_,h8_,h7_,b0_,q8.c0,q8.c1,q8.c2,q8.c3,q8.c4,q8.c5,q8.c6,q8.c7];first|rfl|exact⟨rfl,rfl,rfl,rfl,rfl⟩) rfl ?_;rw[E.out];exact⟨g8,rfl⟩
    ·have E:Hid (aY_ s.data.toList=.ok c):=hid (by rw[hE3,if_neg hd])
     have hq:di_ c 0=false:=decide_eq_false hd;rw[hq] at CD;have KT6:=hid (Z8.new w2 (.int .i64 c.kind) (.string c.name) (.int .i64 c.n) (.int .i64 c.t.kind) (.string c.t.name) (.int .i64 c.t.n) (.slice a1 c.t.args.length n1) (.slice ka1 c.kids.length kn1));clear hE3 hq;go_wp2_with fail;refine CD.out.mono ?_;rintro e w4 ⟨rfl,hb4⟩;have k7:=K6.out.low hb4;obtain⟨x0,x1,x2,x3,x4,x5,x6,x7⟩:=k7.c07;obtain⟨y0,y1,y2,y3,y4,y5,y6,y7⟩:=k7.f07;have t7:=KT6.out.low hb4;obtain⟨z0,z1,z2,z3,z4,z5,z6,z7⟩:=t7.c07;have K7:=hid k7;have G7:=hid (G6.out.trans (hb4.mono G6.out.size));have A7:=hid (A6.out.keep fun b hb=>hb4.block b (by have:=hb.2;simp;omega));have H4:=hid hb4;clear t7;clear k7 hb4;go_wp2;have q8:=Z8.set80 (.int .i64 c.kind) (.string c.name) (.int .i64 c.n) (.int .i64 c.t.kind) (.string c.t.name) (.int .i64 c.t.n) (.slice a1 c.t.args.length n1) (.slice ka1 c.kids.length kn1) K7.out;have g8:=aD_ G7.out (aw_ _) (.int .i64 c.kind) (.string c.name) (.int .i64 c.n) (.int .i64 c.t.kind) (.string c.t.name) (.int .i64 c.t.n) (.slice a1 c.t.args.length n1) (.slice ka1 c.kids.length kn1);refine bodyPost_ret (v:=.tuple #[cv c a1 n1 ka1 kn1,.int .i64 0]) (by simp[results,Tryz.results17,go_sem,cv,q8.c0,q8.c1,q8.c2,q8.c3,q8.c4,q8.c5,q8.c6,q8.c7]) rfl ?_;rw[E.out];have x8:=e5_ A7.out (b:=w.heap.size) (fun k hk=>by have:=hk.1;have:=hw01.out;omega) (.int .i64 c.kind) (.string c.name) (.int .i64 c.n) (.int .i64 c.t.kind) (.string c.t.name) (.int .i64 c.t.n) (.slice a1 c.t.args.length n1) (.slice ka1 c.kids.length kn1);exact⟨g8,a1,n1,ka1,kn1,rfl,x8.mono fun b hb=>by
      obtain⟨b1,b2⟩:=hb;have h1:=hw01.out;have h2:=H4.out.size;simp at h2;exact⟨by omega,by simp;omega⟩⟩
   ·have E:Hid (aY_ s.data.toList=.error 50):=hid (by rw[hE2,if_pos hr])
    have zt:(((ts.length - r.length:Nat):Int) != (ts.length:Int))=true:=by
     rw[bne_iff_ne];have:=List.length_pos_iff.2 hr;omega
    clear hE2 hr hrl;generalize ts.length - r.length=rl at *;go_wp2;have q8:=Z8.set80 (.int .i64 0) (.string ⟨#[]⟩) (.int .i64 0) (.int .i64 0) (.string ⟨#[]⟩) (.int .i64 0) (.slice none 0 0) (.slice none 0 0) K6.out;have g8:=aD_ G6.out (aw_ _) (.int .i64 0) (.string ⟨#[]⟩) (.int .i64 0) (.int .i64 0) (.string ⟨#[]⟩) (.int .i64 0) (.slice none 0 0) (.slice none 0 0);refine bodyPost_ret (v:=.tuple #[cv coz none 0 none 0,.int .i64 50]) (by simp[results,Tryz.results17,go_sem,cv,coz,bP_,bO_,h8_,h7_,b0_,q8.c0,q8.c1,q8.c2,q8.c3,q8.c4,q8.c5,q8.c6,q8.c7];first|rfl|exact⟨rfl,rfl,rfl,rfl,rfl⟩) rfl ?_;rw[E.out];exact⟨g8,rfl⟩
 ·have E:Hid (aY_ s.data.toList=.error er):=hid (by rw[HP.out,if_pos her])
  have hz0:((er:Int) != 0)=true:=by rw[bne_iff_ne];omega
  go_wp2;have q8:=Z8.set80 (.int .i64 0) (.string ⟨#[]⟩) (.int .i64 0) (.int .i64 0) (.string ⟨#[]⟩) (.int .i64 0) (.slice none 0 0) (.slice none 0 0) K8.out;have g8:=aD_ B1.out (aw_ _) (.int .i64 0) (.string ⟨#[]⟩) (.int .i64 0) (.int .i64 0) (.string ⟨#[]⟩) (.int .i64 0) (.slice none 0 0) (.slice none 0 0);refine bodyPost_ret (v:=.tuple #[cv coz none 0 none 0,.int .i64 er]) (by simp[results,Tryz.results17,go_sem,cv,coz,bP_,bO_,h8_,h7_,b0_,q8.c0,q8.c1,q8.c2,q8.c3,q8.c4,q8.c5,q8.c6,q8.c7];first|rfl|exact⟨rfl,rfl,rfl,rfl,rfl⟩) rfl ?_;rw[E.out];exact⟨g8,rfl⟩
end
section
open Lx
def mK (k:Int):Nat:=if k=4∨k=6 then 2 else 1
def rK_ (s:ByteArray):Prop:=d9_ s.data.toList∧a8_ (s.data.toList.headD 0)=true∧kh_.contains s.data.toList=false
def sR_ (s:ByteArray):Prop:=d9_ s.data.toList∧a5_ (s.data.toList.headD 0)=true
def CanK (c:Co):Prop :=
 (c.kind=1∧c.n=0∧c.t=tz∧c.kids=[]∧rK_ c.name) ∨
 (c.kind=2∧c.n=0∧c.name=e0∧c.kids=[]∧Mk c.t) ∨
 (3≤c.kind∧c.kind≤9∧(c.kind≠9→c.t=tz)∧(c.kind=9→Mk c.t)∧(c.kind≠8→c.n=0)∧(c.kind=8→0≤c.n∧c.n<1000000) ∧
  (c.kind=5→sR_ c.name)∧(c.kind=7→rK_ c.name)∧(c.kind≠5→c.kind≠7→c.name=e0)∧(c.kind≠5→c.kids.length=mK c.kind))
mutual
def hA_:Co→Prop
 | .mk k s n t ks=>CanK (.mk k s n t ks)∧oD_ ks
def oD_:List Co→Prop
 | []=>True
 | c :: cs=>hA_ c∧oD_ cs
end
theorem oC_ (ks:List Co):oD_ ks↔∀ c∈ks,hA_ c:=by
 induction ks with
 | nil=>simp[oD_]
 | cons c cs ih=>rw[oD_,ih];simp
theorem cR_ (c:Co):hA_ c↔CanK c∧∀ a∈c.kids,hA_ a:=by cases c;rw[hA_,oC_];rfl
theorem kG_ {t:Tok}(h:be_ t)(hk:t.kind=1):rK_ (aa_ t.text):=by
 unfold rK_;rw[dC_];exact gF_ h hk
theorem pU_ {t:Tok}(h:be_ t)(hk:t.kind=2):sR_ (aa_ t.text):=by
 unfold sR_;rw[dC_];exact ij_ h hk
structure HeadC (h:oJ_):Prop where
 n8:h.k≠8→h.n=0
 n5:h.k=5→sR_ h.nm
 n7:h.k=7→rK_ h.nm
 e:h.k≠5→h.k≠7→h.nm=e0
 m:h.k≠5→h.m=mK h.k
theorem su_ {l:List Tok}{h:oJ_}(hl:∀ t∈l,be_ t)(e:bo_ l=some h):HeadC h:=by
 unfold bo_ at e;have hle:=en_ (ab_ l)
 split at e
 ·split at e
  ·cases e
  ·next h0 =>
   split at e
   ·next h5 =>
    split at e
    ·next h2 =>
     injection e with e;subst e
     obtain⟨t,h1,h3,h4⟩:=df_ h2 (aI_ hl);exact⟨fun _=>rfl,fun _=>(by show sR_ (aa_ _);rw[h1];exact pU_ h3 h4),fun e=>absurd (show (5:Nat)=7 from e) (by decide),fun e=>absurd rfl e,fun e=>absurd rfl e⟩
    ·cases e
   ·next h5 =>
    split at e
    ·next h7 =>
     split at e
     ·next h2 =>
      injection e with e;subst e
      obtain⟨t,h1,h3,h4⟩:=df_ h2 (aI_ hl);exact⟨fun _=>rfl,fun e=>absurd (show (7:Nat)=5 from e) (by decide),fun _=>(by show rK_ (aa_ _);rw[h1];exact kG_ h3 h4),fun _ e=>absurd rfl e,fun _=>rfl⟩
     ·cases e
    ·next h7 =>
     split at e
     ·split at e
      ·injection e with e;subst e
       exact⟨fun e=>absurd rfl e,fun e=>absurd (show (8:Nat)=5 from e) (by decide),fun e=>absurd (show (8:Nat)=7 from e) (by decide),fun _ _=>rfl,fun _=>rfl⟩
      ·cases e
     ·next h8 =>
      injection e with e;subst e
      refine⟨fun _=>rfl,fun e=>absurd e h5,fun e=>absurd e h7,fun _ _=>rfl,fun _=>?_⟩;show (if ay_ (ab_ l)=4∨ay_ (ab_ l)=6 then 2 else 1)=mK ((ay_ (ab_ l):Nat):Int);unfold mK
      by_cases hq:ay_ (ab_ l)=4∨ay_ (ab_ l)=6
      ·rw[if_pos hq,if_pos (by omega)]
      ·rw[if_neg hq,if_neg (by omega)]
 ·cases e
theorem canC:∀ n:Nat,
  (∀ l c r,(∀ t∈l,be_ t)→coF n l=some (c,r)→hA_ c∧∀ t∈r,be_ t) ∧
  (∀ l c r,(∀ t∈l,be_ t)→a1_ n l=some (c,r)→hA_ c∧∀ t∈r,be_ t) ∧
  (∀ acc l ks r,(∀ c∈acc,hA_ c)→(∀ t∈l,be_ t)→fJ_ n acc l=some (ks,r)→(∀ c∈ks,hA_ c)∧∀ t∈r,be_ t) ∧
  (∀ m acc l ks r,(∀ c∈acc,hA_ c)→(∀ t∈l,be_ t)→bg_ n m acc l=some (ks,r)→((∀ c∈ks,hA_ c)∧ks.length=acc.length+m)∧∀ t∈r,be_ t):=by
 intro n
 induction n with
 | zero=>exact⟨fun _ _ _ _ h=>by simp[coF] at h,fun _ _ _ _ h=>by simp[a1_] at h,fun _ _ _ _ _ _ h=>by simp[fJ_] at h,fun _ _ _ _ _ _ _ h=>by simp[bg_] at h⟩
 | succ n ih =>
  obtain⟨i1,i2,i3,i4⟩:=ih;have acc1:∀ {acc:List Co} {x:Co},(∀ c∈acc,hA_ c)→hA_ x→∀ c∈acc++[x],hA_ c:=fun h hx c hc=>by
   rcases List.mem_append.1 hc with hc|hc
   ·exact h c hc
   ·rw[List.mem_singleton.1 hc];exact hx
  refine⟨fun l c r hl h=>?_,fun l c r hl h=>?_,fun acc l ks r ha hl h=>?_,fun m acc l ks r ha hl h=>?_⟩
  ·rw[coF] at h
   split at h
   ·split at h
    ·cases h
    ·next t r' hang =>
     injection h with h
     injection h with e1 e2
     subst e1 e2;obtain⟨a1,_,a3⟩:=ic_ hl hang;exact⟨(cR_ _).2 ⟨.inr (.inl ⟨rfl,rfl,rfl,rfl,a1⟩),fun a ha=>by cases ha⟩,a3⟩
   ·split at h
    ·split at h
     ·cases h
     ·next x r' hr =>
      split at h
      ·injection h with h
       injection h with e1 e2
       subst e1 e2;have:=i2 _ _ _ (aI_ hl) hr;exact⟨this.1,aI_ this.2⟩
      ·cases h
    ·split at h
     ·next h1 =>
      injection h with h
      injection h with e1 e2
      subst e1 e2;obtain⟨t,h2,h3,h4⟩:=df_ h1 hl;exact⟨(cR_ _).2 ⟨.inl ⟨rfl,rfl,rfl,rfl,by show rK_ (aa_ _);rw[h2];exact kG_ h3 h4⟩,fun a ha=>by cases ha⟩,aI_ hl⟩
     ·cases h
  ·rw[a1_] at h
   split at h
   ·cases h
   ·next hd e =>
    have ho:=kj_ hl e;have hc:=su_ hl e
    split at h
    ·next h5 =>
     split at h
     ·cases h
     ·next ks r' hk =>
      injection h with h
      injection h with e1 e2
      subst e1 e2;have:=i3 _ _ _ _ (fun c hc=>by cases hc) ho.tk hk;refine⟨(cR_ _).2 ⟨.inr (.inr ⟨by show (3:Int)≤5;decide,by show (5:Int)≤9;decide,fun _=>rfl,fun e=>?_,fun _=>rfl,fun e=>?_,fun _=>hc.n5 h5,fun e=>?_,fun e=>absurd rfl e,fun e=>absurd rfl e⟩),this.1⟩,this.2⟩
      ·exact absurd (show (5:Int)=9 from e) (by decide)
      ·exact absurd (show (5:Int)=8 from e) (by decide)
      ·exact absurd (show (5:Int)=7 from e) (by decide)
    ·next h5 =>
     split at h
     ·cases h
     ·next ks r' hk =>
      have:=i4 _ _ _ _ _ (fun c hc=>by cases hc) ho.tk hk;have hlen:ks.length=mK hd.k:=by
       have h1:=this.1.2;rw[hc.m h5] at h1;simpa using h1
      split at h
      ·next h9 =>
       split at h
       ·cases h
       ·next t r'' ha =>
        injection h with h
        injection h with e1 e2
        subst e1 e2;obtain⟨b1,_,b3⟩:=ic_ this.2 ha;have hn:=hc.n8 (by omega);have hnm:=hc.e (by omega) (by omega);rw[h9] at hlen;refine⟨(cR_ _).2 ⟨.inr (.inr ⟨by show (3:Int)≤9;decide,by show (9:Int)≤9;decide,fun e=>absurd rfl e,fun _=>b1,fun _=>?_,fun e=>?_,fun e=>?_,fun e=>?_,fun _ _=>hnm,fun _=>hlen⟩),this.1.1⟩,b3⟩
        ·show ((hd.n:Nat):Int)=0
         rw[hn];rfl
        ·exact absurd (show (9:Int)=8 from e) (by decide)
        ·exact absurd (show (9:Int)=5 from e) (by decide)
        ·exact absurd (show (9:Int)=7 from e) (by decide)
      ·next h9 =>
       injection h with h
       injection h with e1 e2
       subst e1 e2;have hk:=ho.k;have hnn:=ho.n;refine⟨(cR_ _).2 ⟨.inr (.inr ⟨?_,?_,fun _=>rfl,fun e=>?_,fun e=>?_,fun _=>?_,fun e=>?_,fun e=>?_,fun _ e7=>?_,fun _=>hlen⟩),this.1.1⟩,this.2⟩
       ·show (3:Int)≤(hd.k:Int);omega
       ·show (hd.k:Int)≤9;omega
       ·have e:(hd.k:Int)=9:=e
        omega
       ·have e:¬ (hd.k:Int)=8:=e
        show ((hd.n:Nat):Int)=0;rw[hc.n8 (by omega)];rfl
       ·show 0≤((hd.n:Nat):Int)∧((hd.n:Nat):Int)<1000000
        omega
       ·have e:(hd.k:Int)=5:=e
        omega
       ·have e:(hd.k:Int)=7:=e
        exact hc.n7 (by omega)
       ·have e7:¬ (hd.k:Int)=7:=e7
        exact hc.e h5 (by omega)
  ·rw[fJ_] at h
   split at h
   ·injection h with h
    injection h with e1 e2
    subst e1 e2;exact⟨ha,hl⟩
   ·split at h
    ·cases h
    ·next x r' hx =>
     have:=i1 _ _ _ hl hx;exact i3 _ _ _ _ (acc1 ha this.1) this.2 h
  ·cases m with
   | zero =>
    rw[bg_] at h;injection h with h
    injection h with e1 e2
    subst e1 e2;exact⟨⟨ha,rfl⟩,hl⟩
   | succ m =>
    rw[bg_] at h
    split at h
    ·cases h
    ·next x r' hx =>
     have:=i1 _ _ _ hl hx;have h4:=i4 _ _ _ _ _ (acc1 ha this.1) this.2 h;exact⟨⟨h4.1.1,by have:=h4.1.2;simp at this;omega⟩,h4.2⟩
def k7_ (k:Int)(s:ByteArray)(n:Int):List It:=if k=5 then [⟨true,2,s.data.toList⟩] else if k=7 then [⟨true,1,s.data.toList⟩] else if k=8 then [⟨true,4,Lib.itoa n⟩] else []
def iT_ (b:Bool)(t:Ty):List It:=⟨b,6,lts⟩ :: (itF t.depth false t++[⟨false,6,gts⟩])
mutual
def itC:Bool→Co→List It
 | b,.mk k s n t ks=>if k=1 then [⟨b,1,s.data.toList⟩] else if k=2 then iT_ b t
  else ⟨b,6,bX_⟩ :: ⟨false,2,aP_ k⟩ :: (k7_ k s n++(ht_ ks++((if k=9 then iT_ true t else [])++[⟨false,6,bB_⟩])))
def ht_:List Co→List It
 | []=>[]
 | c :: cs=>itC true c++ht_ cs
end
theorem nW_ (b:Bool)(c:Co)(h:c.kind=1):itC b c=[⟨b,1,c.name.data.toList⟩]:=by
 cases c with
 | mk k s n t ks =>
  have h:k=1:=h;rw[itC,if_pos h];rfl
theorem nV_ (b:Bool)(c:Co)(h:c.kind=2):itC b c=iT_ b c.t:=by
 cases c with
 | mk k s n t ks =>
  have h:k=2:=h;rw[itC,if_neg (by omega),if_pos h];rfl
theorem nU_ (b:Bool)(c:Co)(h1:c.kind≠1)(h2:c.kind≠2):itC b c=⟨b,6,bX_⟩ :: ⟨false,2,aP_ c.kind⟩ :: (k7_ c.kind c.name c.n++(ht_ c.kids++((if c.kind=9 then iT_ true c.t else [])++[⟨false,6,bB_⟩]))):=by
 cases c with
 | mk k s n t ks =>
  have h1:¬ k=1:=h1;have h2:¬ k=2:=h2;rw[itC,if_neg h1,if_neg h2];rfl
theorem kJ_ (b:Bool){t:Ty}(h:Mk t):cq_ (iT_ b t)=(if b then [32] else [])++(60 :: ae_ t++[62]):=by
 unfold iT_;rw[a4_,cD_,qP_ t.depth t false (aw_ _) h.1,cp_];simp[lts,gts]
theorem oO_ (c:Co):hA_ c→∀ b,cq_ (itC b c)=(if b then [32] else [])++an_ c:=by
 induction c using Co.ind with
 | h c ih =>
  intro hc b;obtain⟨hk,hkids⟩:=(cR_ c).1 hc;have hL:cq_ (ht_ c.kids)=bn_ c.kids:=by
   have:∀ ks:List Co,(∀ x∈ks,x∈c.kids)→cq_ (ht_ ks)=bn_ ks:=by
    intro ks
    induction ks with
    | nil=>intro _;rfl
    | cons x xs ihx =>
     intro h;rw[ht_,bn_,cD_,ih x (h x (by simp)) (hkids x (h x (by simp))) true,ihx fun y hy=>h y (by simp[hy])];rfl
   exact this _ fun _ h=>h
  rcases hk with hk|hk|hk
  ·rw[nW_ b c hk.1,cp_]
   cases c with
   | mk k s n t ks=>rw[an_,if_pos (show k=1 from hk.1)];rfl
  ·rw[nV_ b c hk.1,kJ_ b hk.2.2.2.2]
   cases c with
   | mk k s n t ks =>
    have h2:k=2:=hk.1;have h1:¬ k=1:=(by omega);rw[an_,if_neg h1,if_pos h2];rfl
  ·rw[nU_ b c (by omega) (by omega),a4_,a4_,cD_,cD_,cD_,hL,cp_]
   have hm:cq_ (k7_ c.kind c.name c.n)=(if c.kind=5∨c.kind=7 then 32 :: c.name.data.toList else if c.kind=8 then 32 :: Lib.itoa c.n else []):=by
    unfold k7_
    by_cases h5:c.kind=5
    ·rw[if_pos h5,if_pos (.inl h5),cp_];rfl
    ·by_cases h7:c.kind=7
     ·rw[if_neg h5,if_pos h7,if_pos (.inr h7),cp_];rfl
     ·by_cases h8:c.kind=8
      ·rw[if_neg h5,if_neg h7,if_pos h8,if_neg (by omega),if_pos h8,cp_];rfl
      ·rw[if_neg h5,if_neg h7,if_neg h8,if_neg (by omega),if_neg h8];rfl
   have ha:cq_ (if c.kind=9 then iT_ true c.t else [])=(if c.kind=9 then 32 :: 60 :: ae_ c.t++[62] else []):=by
    by_cases h9:c.kind=9
    ·rw[if_pos h9,if_pos h9,kJ_ true (hk.2.2.2.1 h9)];rfl
    ·rw[if_neg h9,if_neg h9];rfl
   rw[hm,ha];cases c with
   | mk k s n t ks =>
    have h1:¬ k=1:=by have:3≤k:=hk.1;omega
    have h2:¬ k=2:=by have:3≤k:=hk.1;omega
    rw[an_,if_neg h1,if_neg h2];simp only[Co.kind,Co.name,Co.n,Co.t,Co.kids,bX_,bB_];simp;rfl
theorem qx_ (b ps:Bool){t:Ty}(h:Mk t){r:List It}(hr:bk_ false r):bk_ ps (iT_ b t++r):=by
 unfold iT_;refine⟨.inr (.inl rfl),?_⟩;show bk_ true (_++[_]++r);rw[List.append_assoc];exact (ok_it t.depth t false true _ (aw_ _) h.1 (.inr rfl) (show bk_ false ((⟨false,6,gts⟩:It) :: r) from ⟨.inr (.inl rfl),e0_ hr⟩)).1
theorem sj_ (c:Co):hA_ c→∀ (b ps:Bool) (r:List It),(b=true∨ps=true)→bk_ false r→bk_ ps (itC b c++r):=by
 induction c using Co.ind with
 | h c ih =>
  intro hc b ps r hb hr;obtain⟨hk,hkids⟩:=(cR_ c).1 hc;have hL:∀ q,bk_ false q→bk_ false (ht_ c.kids++q):=by
   have:∀ ks:List Co,(∀ x∈ks,x∈c.kids)→∀ q,bk_ false q→bk_ false (ht_ ks++q):=by
    intro ks
    induction ks with
    | nil=>intro _ q hq;exact hq
    | cons x xs ihx =>
     intro h q hq;rw[ht_,List.append_assoc];exact ih x (h x (by simp)) (hkids x (h x (by simp))) true false _ (.inl rfl) (ihx (fun y hy=>h y (by simp[hy])) q hq)
   exact this _ fun _ h=>h
  rcases hk with hk|hk|hk
  ·rw[nW_ b c hk.1]
   exact⟨hb.imp id .inr,hr⟩
  ·rw[nV_ b c hk.1]
   exact qx_ b ps hk.2.2.2.2 hr
  ·rw[nU_ b c (by omega) (by omega)]
   refine⟨.inr (.inl rfl),.inr (.inr rfl),?_⟩;show bk_ false (_++r);simp only[List.append_assoc];have h1:bk_ false ((if c.kind=9 then iT_ true c.t else [])++([⟨false,6,bB_⟩]++r)):=by
    have h0:bk_ false (([⟨false,6,bB_⟩]:List It)++r):=⟨.inr (.inl rfl),e0_ hr⟩
    by_cases h9:c.kind=9
    ·rw[if_pos h9];exact qx_ true false (hk.2.2.2.1 h9) h0
    ·rw[if_neg h9];exact h0
   have h2:=hL _ h1;generalize ht_ c.kids++((if c.kind=9 then iT_ true c.t else [])++([⟨false,6,bB_⟩]++r))=q at *;unfold k7_
   split
   ·exact⟨.inl rfl,h2⟩
   ·split
    ·exact⟨.inl rfl,h2⟩
    ·split
     ·exact⟨.inl rfl,h2⟩
     ·exact h2
end
section
theorem mE_ (k:Int):(aP_ k).length≤5:=by
 unfold aP_
 repeat' split
 all_goals decide
theorem l8_ (c:Co):WfC c→(an_ c).length+1≤100*wtC 1 c:=by
 induction c using Co.ind with
 | h c ih =>
  intro hw;have hL:(bn_ c.kids).length≤100*wtL 1 c.kids:=by
   have:∀ ks:List Co,(∀ x∈ks,x∈c.kids)→(bn_ ks).length≤100*wtL 1 ks:=by
    intro ks
    induction ks with
    | nil=>intro _;exact Nat.zero_le _
    | cons x xs ihx =>
     intro h;have h1:=ih x (h x (by simp)) (hw.kids x (h x (by simp)));have h2:=ihx fun y hy=>h y (by simp[hy]);rw[bn_,wtL];simp only[List.length_append,List.length_cons];omega
   exact this _ fun _ h=>h
  have hnm:c.name.data.toList.length≤64:=by rw[Array.length_toList];exact hw.k.1
  have hkk:=hw.k.2.2;have hok:(c.kind=2∨c.kind=9)→(ae_ c.t).length+4≤80*c.t.size∧1≤c.t.size:=fun h=>⟨f1_ _ (hw.ok h).2,oT_ _⟩;have hwd:=mE_ c.kind;have hit:c.kind=8→(Lib.itoa c.n).length≤30:=fun h8=>by
   have:=Lib.itoa_length_le c.n (by omega) (by omega);omega
  cases c with
  | mk k s n t ks =>
   simp only[Co.kind,Co.name,Co.n,Co.t,Co.kids] at *;rw[an_,wtC]
   by_cases h1:k=1
   ·rw[if_pos h1,if_pos h1];omega
   ·by_cases h2:k=2
    ·rw[if_neg h1,if_neg h1,if_pos h2,if_pos h2]
     have:=hok (.inl h2);simp only[List.length_append,List.length_cons,List.length_nil];omega
    ·rw[if_neg h1,if_neg h1,if_neg h2,if_neg h2]
     have hm:(if k=5∨k=7 then 32 :: s.data.toList else if k=8 then 32 :: Lib.itoa n else []).length≤65∧(k=9→(if k=5∨k=7 then 32 :: s.data.toList else if k=8 then 32 :: Lib.itoa n else []).length=0):=by
      refine⟨?_,fun h9=>by rw[if_neg (by omega),if_neg (by omega)];rfl⟩
      split
      ·rw[List.length_cons];omega
      ·split
       ·next h8=>have:=hit h8;rw[List.length_cons];omega
       ·simp
     simp only[List.length_append,List.length_cons,List.length_nil]
     by_cases h9:k=9
     ·rw[if_pos h9,if_pos h9]
      have:=hok (.inr h9);have:=hm.2 h9;simp only[List.length_append,List.length_cons,List.length_nil];omega
     ·rw[if_neg h9,if_neg h9]
      simp only[List.length_nil];omega
end
section
open Lx
def fO_ (i:It):Prop:=oI_ i∨(i.k=4∧lo_ i.s)∨(i.k=6∧(i.s=lts∨i.s=gts))
theorem kf_ {s:List UInt8}(h:lo_ s):s≠[]:=by
 intro e;have:=h.len;rw[e] at this;simp at this
theorem h3_ {s:List UInt8}(h:lo_ s):aA_ (s.headD 0)=true:=by
 cases hs:s with
 | nil=>exact absurd hs (kf_ h)
 | cons c r=>exact h.digits c (by rw[hs];simp)
theorem qO_ (i:It)(h:fO_ i)(r:List UInt8)(hr:i.k=6∨aV_ (r.headD 0)=false):aN_ (i.s++r)=(i.k,i.s.length):=by
 rcases h with h|⟨hk,hn⟩|⟨hk,hs⟩
 ·exact r4_ i h r hr
 ·have hd:=h3_ hn
  have hlt:48≤(i.s.headD 0).toNat∧(i.s.headD 0).toNat≤57:=by
   unfold aA_ at hd;simpa only[decide_eq_true_eq] using hd
  unfold aN_;rw[ef_ (kf_ hn),hd,if_neg (by
   unfold a8_ a5_;simp only[Bool.or_eq_true,decide_eq_true_eq];omega),if_pos rfl,gY_ i.s r hn (ha_ (hr.resolve_left (by omega))),hk]
 ·rw[hk]
  rcases hs with hs|hs<;>rw[hs]<;>rfl
theorem nT_ {i:It}(h:fO_ i):i.s≠[]:=by
 rcases h with h|⟨_,hn⟩|⟨_,hs⟩
 ·exact it_ne h
 ·exact kf_ hn
 ·rcases hs with hs|hs<;>rw[hs]<;>simp[lts,gts]
theorem pK_ {i:It}(h:fO_ i):(i.s.headD 0)≠35∧(i.s.headD 0)≠10∧(i.s.headD 0)≠32∧(i.s.headD 0)≠9:=by
 rcases h with h|⟨_,hn⟩|⟨_,hs⟩
 ·exact rp_ h
 ·have hd:=h3_ hn
  refine⟨?_,?_,?_,?_⟩<;>(intro e;rw[e] at hd;revert hd;decide)
 ·rcases hs with hs|hs<;>rw[hs]<;>decide
theorem hg_ {i:It}(h:fO_ i)(r:List UInt8):aj_ false (i.s++r)=0:=by
 have h1:=pK_ h;have h2:=nT_ h;cases hs:i.s with
 | nil=>exact absurd hs h2
 | cons c s =>
  rw[hs] at h1;simp only[List.headD_cons] at h1;show aj_ false (c :: (s++r))=0;rw[aj_,if_neg h1.1,if_neg h1.2.1,if_pos];simp[h1.2.2.1,h1.2.2.2]
theorem jV_ {l:List It}(h:bk_ false l)(hl:∀ i∈l,fO_ i):aV_ ((cq_ l).headD 0)=false:=by
 cases l with
 | nil=>rfl
 | cons i l =>
  have hi:=hl i (by simp)
  rcases h.1 with h|h|h
  ·rw[a4_,h];rfl
  ·cases hb:i.bl with
   | true=>rw[a4_,hb];rfl
   | false =>
    rw[a4_,hb];simp only[Bool.false_eq_true,if_false,List.nil_append];rw[ef_ (nT_ hi)]
    rcases hi with (⟨hk,_⟩|⟨hk,_⟩|⟨hk,_⟩|⟨hk,_⟩|⟨_,hs⟩)|⟨hk,_⟩|⟨_,hs⟩
    all_goals first|omega|(rcases hs with hs|hs|hs|hs<;>rw[hs]<;>decide)|(rcases hs with hs|hs<;>rw[hs]<;>decide)
  ·cases h
theorem rz_:∀ (l:List It) (ps:Bool) (p:Nat),(∀ i∈l,fO_ i)→bk_ ps l→∃ ts,Cut (cq_ l) p ts∧ts.map kt=l.map ktI:=by
 intro l
 induction l with
 | nil=>intro ps p _ _;exact⟨[],rfl,rfl⟩
 | cons i l ih =>
  intro ps p h ho;have hi:=h i (by simp);have hl:=fun j hj=>h j (List.mem_cons_of_mem _ hj);have hb:aj_ false (cq_ (i :: l))=if i.bl then 1 else 0:=by
   rw[a4_];cases i.bl with
   | true =>
    simp only[if_true];show aj_ false (32 :: (i.s++cq_ l))=1;rw[aj_,if_neg (by decide),if_neg (by decide),if_neg (by decide),hg_ hi]
   | false =>
    simp only[Bool.false_eq_true,if_false,List.nil_append];exact hg_ hi _
  have hd:(cq_ (i :: l)).drop (aj_ false (cq_ (i :: l)))=i.s++cq_ l:=by
   rw[hb,a4_];cases i.bl<;>simp
  have hne:=nT_ hi;have hlt:aj_ false (cq_ (i :: l))<(cq_ (i :: l)).length:=by
   have:=congrArg List.length hd;rw[List.length_drop,List.length_append] at this;have:0<i.s.length:=List.length_pos_iff.2 hne;omega
  have htok:aN_ (i.s++cq_ l)=(i.k,i.s.length):=by
   refine qO_ i hi _ ?_
   by_cases hk:i.k=6
   ·exact .inl hk
   ·refine .inr (jV_ ?_ hl)
    have:=ho.2;rwa [beq_eq_false_iff_ne.2 hk] at this
  obtain⟨ts,hc,hm⟩:=ih (i.k==6) (p+aj_ false (cq_ (i :: l))+i.s.length) hl ho.2;refine⟨⟨i.k,i.s,p+aj_ false (cq_ (i :: l))⟩ :: ts,⟨hlt,rfl,by rw[hd];exact htok,by rw[hd];simp,hne,?_⟩,by rw[List.map_cons,List.map_cons,hm];rfl⟩;rw[hd];simpa using hc
theorem sW_ (b:Bool):fO_ ⟨b,6,bX_⟩∧fO_ ⟨b,6,bB_⟩∧fO_ ⟨b,6,lts⟩∧fO_ ⟨b,6,gts⟩ :=
 ⟨.inl (.inr (.inr (.inr (.inr ⟨rfl,.inl rfl⟩)))),.inl (.inr (.inr (.inr (.inr ⟨rfl,.inr (.inl rfl)⟩)))),.inr (.inr ⟨rfl,.inl rfl⟩),.inr (.inr ⟨rfl,.inr rfl⟩)⟩
theorem os_ (b:Bool){t:Ty}(h:Mk t):∀ i∈iT_ b t,fO_ i:=by
 intro i hi;unfold iT_ at hi
 rcases List.mem_cons.1 hi with rfl|hi
 ·exact (sW_ b).2.2.1
 ·rcases List.mem_append.1 hi with hi|hi
  ·exact .inl (rl_ t.depth t false (aw_ _) h.1 h.2 i hi)
  ·rw[List.mem_singleton.1 hi];exact (sW_ false).2.2.2
theorem mF_ (k:Int):d9_ (aP_ k)∧a5_ ((aP_ k).headD 0)=true:=by
 unfold aP_
 repeat' split
 all_goals exact⟨⟨by decide,by decide⟩,by decide⟩
theorem sr_ (c:Co):hA_ c→∀ b,∀ i∈itC b c,fO_ i:=by
 induction c using Co.ind with
 | h c ih =>
  intro hc b i hi;obtain⟨hk,hkids⟩:=(cR_ c).1 hc;have hL:∀ i∈ht_ c.kids,fO_ i:=by
   have:∀ ks:List Co,(∀ x∈ks,x∈c.kids)→∀ i∈ht_ ks,fO_ i:=by
    intro ks
    induction ks with
    | nil=>intro _ i hi;cases hi
    | cons x xs ihx =>
     intro h i hi;rw[ht_] at hi
     rcases List.mem_append.1 hi with hi|hi
     ·exact ih x (h x (by simp)) (hkids x (h x (by simp))) true i hi
     ·exact ihx (fun y hy=>h y (by simp[hy])) i hi
   exact this _ fun _ h=>h
  rcases hk with hk|hk|hk
  ·rw[nW_ b c hk.1,List.mem_singleton] at hi
   subst hi;exact .inl (.inl ⟨rfl,hk.2.2.2.2⟩)
  ·rw[nV_ b c hk.1] at hi
   exact os_ b hk.2.2.2.2 i hi
  ·rw[nU_ b c (by omega) (by omega)] at hi
   rcases List.mem_cons.1 hi with rfl|hi
   ·exact (sW_ b).1
   ·rcases List.mem_cons.1 hi with rfl|hi
    ·exact .inl (.inr (.inl ⟨rfl,mF_ _⟩))
    ·rcases List.mem_append.1 hi with hi|hi
     ·unfold k7_ at hi
      split at hi
      ·next h5=>rw[List.mem_singleton.1 hi];exact .inl (.inr (.inl ⟨rfl,hk.2.2.2.2.2.2.1 h5⟩))
      ·split at hi
       ·next h7=>rw[List.mem_singleton.1 hi];exact .inl (.inl ⟨rfl,hk.2.2.2.2.2.2.2.1 h7⟩)
       ·split at hi
        ·next h8=>rw[List.mem_singleton.1 hi];exact .inr (.inl ⟨rfl,k2_ _ (hk.2.2.2.2.2.1 h8).1 (hk.2.2.2.2.2.1 h8).2⟩)
        ·cases hi
     ·rcases List.mem_append.1 hi with hi|hi
      ·exact hL i hi
      ·rcases List.mem_append.1 hi with hi|hi
       ·split at hi
        ·next h9=>exact os_ true (hk.2.2.2.1 h9) i hi
        ·cases hi
       ·rw[List.mem_singleton.1 hi];exact (sW_ false).2.1
theorem lk_ {b:Bool}{t:Ty}(h:Mk t){l:List Tok}{q:List KT}(hl:l.map kt=kI (iT_ b t)++q):∃ r,dZ_ l=some (t,r)∧r.map kt=q∧st l 6 lts=true:=by
 unfold iT_ at hl;obtain⟨t',l',rfl,h1,h2,h3⟩:=dR_ hl;rw[fd_,List.append_assoc] at h3;have hlen:(itF t.depth false t).length≤l'.length:=by
  have:=congrArg List.length h3;simp only[List.length_map,List.length_append,kI] at this;omega
 obtain⟨r,hr,hrq⟩:=(back t.depth t (aw_ _) h.1).1 false l' _ (4*l'.length+4) h3 (f5_ q (show gts≠bX_ by decide)) (hT_ q (show gts≠dj_ by decide)) (by omega);obtain⟨t2,l2,rfl,g1,g2,g3⟩:=dh_ (k:=6) (s:=gts) (q:=q) hrq;have hs:=cG_ t' l' 6 lts h1 h2;refine⟨l2,?_,g3,hs⟩;unfold dZ_;rw[if_pos hs,List.tail_cons,show eo_ l'=bT_ (4*l'.length+4) l' from rfl,hr];simp only;rw[if_pos (cG_ _ _ 6 gts g1 g2)];rfl
theorem lc_ (b:Bool)(c:Co)(h:CanK c):∃ k s r,itC b c=⟨b,k,s⟩ :: r∧(k=1∨k=6∧(s=lts∨s=bX_)):=by
 rcases h with hk|hk|hk
 ·rw[nW_ b c hk.1];exact⟨_,_,_,rfl,.inl rfl⟩
 ·rw[nV_ b c hk.1];exact⟨_,_,_,rfl,.inr ⟨rfl,.inl rfl⟩⟩
 ·rw[nU_ b c (by omega) (by omega)];exact⟨_,_,_,rfl,.inr ⟨rfl,.inr rfl⟩⟩
theorem lQ_ (k:Int)(h3:3≤k)(h9:k≤9):(ay_ (aP_ k):Int)=k:=by
 have:k=3∨k=4∨k=5∨k=6∨k=7∨k=8∨k=9:=by omega
 rcases this with rfl|rfl|rfl|rfl|rfl|rfl|rfl<;>decide
def qG_ (f:List Tok→Option (Co × List Tok))(l:List Tok)(c:Co)(q:List KT):Prop:=∃ r,f l=some (c,r)∧r.map kt=q
theorem nQ_ (c:Co)(ih:∀ x∈c.kids,hA_ x→∀ (b:Bool) (l:List Tok) (q:List KT) (n:Nat),l.map kt=kI (itC b x)++q→4*(itC b x).length≤n→qG_ (coF n) l x q)(hkids:∀ a∈c.kids,hA_ a) :
  (∀ (ks acc:List Co) (l:List Tok) (q:List KT) (n:Nat),(∀ x∈ks,x∈c.kids)→l.map kt=kI (ht_ ks)++q→4*(ht_ ks).length+1≤n→∃ r,bg_ n ks.length acc l=some (acc++ks,r)∧r.map kt=q) ∧
  (∀ (ks acc:List Co) (l:List Tok) (q:List KT) (n:Nat),(∀ x∈ks,x∈c.kids)→l.map kt=kI (ht_ ks)++(6,bB_) :: q→4*(ht_ ks).length+1≤n→∃ r,fJ_ n acc l=some (acc++ks,r)∧r.map kt=(6,bB_) :: q):=by
 have hpos:∀ x∈c.kids,1≤(itC true x).length:=fun x hx=>by
  obtain⟨k,s,r,e,_⟩:=lc_ true x ((cR_ x).1 (hkids x hx)).1;rw[e];simp
 refine⟨fun ks=>?_,fun ks=>?_⟩
 ·induction ks with
  | nil =>
   intro acc l q n _ hl hn;cases n with
   | zero=>omega
   | succ n=>exact⟨l,by rw[List.length_nil,bg_,List.append_nil],hl⟩
  | cons x xs ihx =>
   intro acc l q n hm hl hn;cases n with
   | zero=>omega
   | succ n =>
    have hxm:=hm x (by simp);have h1:=hpos x hxm;rw[ht_,fd_,List.append_assoc] at hl;rw[ht_,List.length_append] at hn;obtain⟨r,hr,hrq⟩:=ih x hxm (hkids x hxm) true l _ n hl (by omega);obtain⟨r2,hr2,hrq2⟩:=ihx (acc++[x]) r q n (fun y hy=>hm y (by simp[hy])) hrq (by omega);refine⟨r2,?_,hrq2⟩;rw[List.length_cons,bg_,hr];simp only;rw[hr2,List.append_assoc];rfl
 ·induction ks with
  | nil =>
   intro acc l q n _ hl hn;cases n with
   | zero=>omega
   | succ n =>
    refine⟨l,?_,hl⟩;obtain⟨t,l',rfl,h1,h2,_⟩:=dh_ (k:=6) (s:=bB_) (q:=q) hl;rw[fJ_,cG_ _ _ 6 bB_ h1 h2,Bool.or_true,if_pos rfl,List.append_nil]
  | cons x xs ihx =>
   intro acc l q n hm hl hn;cases n with
   | zero=>omega
   | succ n =>
    have hxm:=hm x (by simp);have h1:=hpos x hxm;rw[ht_,fd_,List.append_assoc] at hl;rw[ht_,List.length_append] at hn;obtain⟨r,hr,hrq⟩:=ih x hxm (hkids x hxm) true l _ n hl (by omega);obtain⟨r2,hr2,hrq2⟩:=ihx (acc++[x]) r q n (fun y hy=>hm y (by simp[hy])) hrq (by omega);refine⟨r2,?_,hrq2⟩;obtain⟨k,s,r0,e,hks⟩:=lc_ true x ((cR_ x).1 (hkids x hxm)).1;rw[e] at hl;obtain⟨t,l',rfl,g1,g2,_⟩:=dR_ hl;have hne:st (t :: l') 6 bB_=false:=by
     rcases hks with hk|⟨hk,hs⟩
     ·exact b6_ _ _ _ _ (by omega)
     ·rw[hu_,g2]
      rcases hs with hs|hs<;>rw[hs]<;>simp[lts,bX_,bB_]
    rw[fJ_,hne,if_neg (by simp),hr];simp only;rw[hr2,List.append_assoc];rfl
theorem od_ {c:Co}{k n:Int}{s:ByteArray}{t:Ty}{ks:List Co}(h1:c.kind=k)(h2:c.name=s)(h3:c.n=n)(h4:c.t=t)(h5:c.kids=ks):Co.mk k s n t ks=c:=by
 subst h1 h2 h3 h4 h5;exact sE_ c
theorem jX_ {t:Tok}{l:List Tok}(h1:t.kind=6)(h2:t.text=bX_):st (t :: l) 6 lts=false:=by rw[hu_,h1,h2];rfl
theorem pL_ (c:Co):hA_ c→∀ (b:Bool) (l:List Tok) (q:List KT) (n:Nat),l.map kt=kI (itC b c)++q→4*(itC b c).length≤n→qG_ (coF n) l c q:=by
 induction c using Co.ind with
 | h c ih =>
  intro hc b l q n hl hn;obtain⟨hk,hkids⟩:=(cR_ c).1 hc;obtain⟨hK,hC⟩:=nQ_ c ih hkids
  rcases hk with hk|hk|hk
  ·rw[nW_ b c hk.1] at hl hn
   obtain⟨t',l',rfl,h1,h2,h3⟩:=dR_ hl;cases n with
   | zero=>simp at hn
   | succ n =>
    refine⟨l',?_,h3⟩;rw[qs_ (cA_ _ _ 1 h1)];show some (Co.mk 1 (aa_ t'.text) 0 tz [],l')=_;have h2:t'.text=c.name.data.toList:=h2;rw[h2,dX_,od_ hk.1 rfl hk.2.1 hk.2.2.1 hk.2.2.2.1]
  ·rw[nV_ b c hk.1] at hl hn
   obtain⟨r,h1,h2,h3⟩:=lk_ hk.2.2.2.2 hl;cases n with
   | zero=>unfold iT_ at hn;simp at hn
   | succ n =>
    refine⟨r,?_,h2⟩;rw[coF,if_pos h3,h1];simp only;rw[od_ hk.1 hk.2.2.1 hk.2.1 rfl hk.2.2.2.1]
  ·have hk1:c.kind≠1:=by omega
   have hk2:c.kind≠2:=(by omega);rw[nU_ b c hk1 hk2] at hl hn;obtain⟨t1,l1,rfl,a1,a2,a3⟩:=dR_ hl;obtain⟨t2,l2,rfl,b1,b2,b3⟩:=dR_ a3;have hrk:=lQ_ c.kind hk.1 hk.2.1;have hr0:ay_ (ab_ (t2 :: l2))=ay_ (aP_ c.kind):=by show ay_ t2.text=_;rw[show t2.text=aP_ c.kind from b2]
   have hsk2:=cA_ t2 l2 2 b1;simp only[List.length_cons,List.length_append,List.length_nil] at hn
   -- the head
   obtain⟨l3,hH,hl3⟩:∃ l3,bo_ (t2 :: l2)=some ⟨ay_ (aP_ c.kind),c.name,c.n.toNat,if c.kind=5 then 0 else mK c.kind,l3⟩∧l3.map kt=kI (ht_ c.kids)++(kI (if c.kind=9 then iT_ true c.t else [])++(6,bB_) :: q):=by
    rw[fd_,fd_,fd_] at b3;simp only[List.append_assoc] at b3;have hq:kI [(⟨false,6,bB_⟩:It)]++q=(6,bB_) :: q:=rfl;rw[hq] at b3;unfold bo_;rw[if_pos hsk2,hr0,if_neg (by omega)]
    by_cases h5:c.kind=5
    ·have e5:k7_ c.kind c.name c.n=[⟨true,2,c.name.data.toList⟩]:=by unfold k7_;rw[if_pos h5]
     rw[e5] at b3;obtain⟨t3,l4,e3,c1,c2,c3⟩:=dh_ (k:=2) (s:=c.name.data.toList) b3;refine⟨l4,?_,c3⟩;subst e3;have hn0:=hk.2.2.2.2.1 (by omega);rw[if_pos (by omega)];show (if sk (t3 :: l4) 2 then some (⟨5,aa_ t3.text,0,0,l4⟩:oJ_) else none)=_;rw[if_pos (cA_ _ _ 2 c1),c2,dX_,if_pos h5,hn0,show ay_ (aP_ c.kind)=5 by omega];rfl
    ·rw[if_neg (by omega)]
     by_cases h7:c.kind=7
     ·have e7:k7_ c.kind c.name c.n=[⟨true,1,c.name.data.toList⟩]:=by unfold k7_;rw[if_neg h5,if_pos h7]
      rw[e7] at b3;obtain⟨t3,l4,e3,c1,c2,c3⟩:=dh_ (k:=1) (s:=c.name.data.toList) b3;refine⟨l4,?_,c3⟩;subst e3;have hn0:=hk.2.2.2.2.1 (by omega);rw[if_pos (by omega)];show (if sk (t3 :: l4) 1 then some (⟨7,aa_ t3.text,0,1,l4⟩:oJ_) else none)=_;rw[if_pos (cA_ _ _ 1 c1),c2,dX_,if_neg h5,hn0,show ay_ (aP_ c.kind)=7 by omega,show mK c.kind=1 by unfold mK;rw[if_neg (by omega)]];rfl
     ·rw[if_neg (by omega)]
      have hnm:=hk.2.2.2.2.2.2.2.2.1 h5 h7
      by_cases h8:c.kind=8
      ·have e8:k7_ c.kind c.name c.n=[⟨true,4,Lib.itoa c.n⟩]:=by unfold k7_;rw[if_neg h5,if_neg h7,if_pos h8]
       rw[e8] at b3;obtain⟨t3,l4,e3,c1,c2,c3⟩:=dh_ (k:=4) (s:=Lib.itoa c.n) b3;refine⟨l4,?_,c3⟩;subst e3;have hn0:=hk.2.2.2.2.2.1 h8;have hnu:=jm_ c.n hn0.1;rw[if_pos (by omega)];show (if sk (t3 :: l4) 4 then some (⟨8,e0,dw_ t3.text,1,l4⟩:oJ_) else none)=_;rw[if_pos (cA_ _ _ 4 c1),c2,if_neg h5,hnm,show ay_ (aP_ c.kind)=8 by omega,show mK c.kind=1 by unfold mK;rw[if_neg (by omega)],show dw_ (Lib.itoa c.n)=c.n.toNat by omega]
      ·have e8:k7_ c.kind c.name c.n=[]:=by unfold k7_;rw[if_neg h5,if_neg h7,if_neg h8]
       rw[e8] at b3;refine⟨l2,?_,b3⟩;have hn0:=hk.2.2.2.2.1 h8;rw[if_neg (by omega),hnm,hn0,if_neg h5];show some (⟨_,e0,0,(if ay_ (aP_ c.kind)=4∨ay_ (aP_ c.kind)=6 then 2 else 1),l2⟩:oJ_)=_;have:(if ay_ (aP_ c.kind)=4∨ay_ (aP_ c.kind)=6 then 2 else 1)=mK c.kind:=by
        unfold mK
        by_cases hq:c.kind=4∨c.kind=6
        ·rw[if_pos hq,if_pos (by omega)]
        ·rw[if_neg hq,if_neg (by omega)]
       rw[this];rfl
   match n,(show 2≤n by omega) with
   | n+2,_ =>
   have hnn:(c.n.toNat:Int)=c.n:=by
    by_cases h8:c.kind=8
    ·have:=hk.2.2.2.2.2.1 h8;omega
    ·have:=hk.2.2.2.2.1 h8;omega
   have hpre:coF (n+2) (t1 :: t2 :: l2)=match a1_ (n+1) (t2 :: l2) with|none=>none|some (c,r)=>if st r 6 bB_ then some (c,r.tail) else none:=by
    rw[coF,jX_ a1 a2,cG_ _ _ 6 bX_ a1 a2];simp only[Bool.false_eq_true,if_false,if_true,List.tail_cons];cases a1_ (n+1) (t2 :: l2)<;>rfl
   by_cases h5:c.kind=5
   ·have e9:(if c.kind=9 then iT_ true c.t else [])=[]:=if_neg (by omega)
    rw[e9] at hl3 hn;obtain⟨r,hr,hrq⟩:=hC c.kids [] l3 q n (fun _ h=>h) hl3 (by simp only[List.length_nil] at hn;omega);obtain⟨t4,l4,rfl,g1,g2,g3⟩:=dh_ hrq;refine⟨l4,?_,g3⟩;rw[hpre,a1_,hH];simp only;rw[if_pos (by omega),hr];simp only;rw[if_pos (cG_ _ _ 6 bB_ g1 g2),List.nil_append,List.tail_cons,od_ h5 rfl (hk.2.2.2.2.1 (by omega)) (hk.2.2.1 (by omega)) rfl]
   ·have hmm:c.kids.length=mK c.kind:=hk.2.2.2.2.2.2.2.2.2 h5
    rw[if_neg h5,← hmm] at hH;obtain⟨r,hr,hrq⟩:=hK c.kids [] l3 _ n (fun _ h=>h) hl3 (by omega);rw[List.nil_append] at hr
    by_cases h9:c.kind=9
    ·rw[if_pos h9] at hrq
     obtain⟨r2,hr2,hrq2,_⟩:=lk_ (hk.2.2.2.1 h9) hrq;obtain⟨t4,l4,rfl,g1,g2,g3⟩:=dh_ hrq2;refine⟨l4,?_,g3⟩;rw[hpre,a1_,hH];simp only;rw[if_neg (by omega),hr];simp only;rw[if_pos (by omega),hr2];simp only;rw[if_pos (cG_ _ _ 6 bB_ g1 g2),List.tail_cons,hnn,od_ h9 rfl rfl rfl rfl]
    ·rw[if_neg h9] at hrq
     obtain⟨t4,l4,rfl,g1,g2,g3⟩:=dh_ (k:=6) (s:=bB_) (q:=q) hrq;refine⟨l4,?_,g3⟩;rw[hpre,a1_,hH];simp only;rw[if_neg (by omega),hr];simp only;rw[if_neg (by omega)];simp only;rw[if_pos (cG_ _ _ 6 bB_ g1 g2),List.tail_cons,hnn,od_ hrk.symm rfl rfl (hk.2.2.1 h9) rfl]
theorem mc_ {s:List UInt8}{c:Co}(h:aY_ s=.ok c):hA_ c∧c.deep≤50∧c.tdep≤50:=by
 have h':=h;rw[aY_] at h
 split at h
 ·cases h
 ·split at h
  ·cases h
  ·next c' r hT =>
   split at h
   ·cases h
   ·split at h
    ·cases h
    ·next h50 =>
     injection h with h
     subst h;exact⟨((canC _).1 _ _ _ (fun t ht=>oM_ t (cJ_ s t ht)) hT).1,by omega,by omega⟩
theorem qu_ {s:List UInt8}{c:Co}(h:aY_ s=.ok c)(hl:(an_ c).length≤4000):aY_ (an_ c)=.ok c:=by
 obtain⟨hcan,hd,htd⟩:=mc_ h;have htx:cq_ (itC false c)=an_ c:=oO_ c hcan false;have hok:bk_ true (itC false c):=by
  have:=sj_ c hcan false true [] (.inr rfl) trivial;rwa [List.append_nil] at this
 obtain⟨ts,hc,hm⟩:=rz_ (itC false c) true 0 (sr_ c hcan false) hok;rw[htx] at hc;have hsc:bI_ (an_ c)=(ts,0,0):=by
  rw[qT_ _ hl,mT_ (an_ c).length (an_ c) 0 [] ts (aw_ _) hc,List.nil_append]
 have hlen:ts.length=(itC false c).length:=by
  have:=congrArg List.length hm;simpa using this
 obtain⟨r,hr,hrq⟩:=pL_ c hcan false ts [] (4*ts.length+4) (by rw[List.append_nil];exact hm) (by omega);obtain rfl:r=[]:=by simpa using hrq
 rw[fz_ hsc,if_neg (by simp)];unfold fk_;rw[hr];simp only;rw[if_neg (by simp),if_neg (by omega)]
theorem q9_ {s:List UInt8}(h:4000<s.length):aY_ s=.error 2:=by
 rw[fz_ (fX_ s h)];rfl
end
end Go.Proofs.YtkihnodkhnahiaaGreatDoor.Tp

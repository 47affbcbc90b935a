/- Packed. -/
import Derived.Test.YtkihnodkhnahiaaGreatDoorP27
import Derived.Test.YtkihnodkhnahiaaGreatDoorP30
set_option maxRecDepth 100000
set_option maxHeartbeats 6400000
namespace Go.Proofs.YtkihnodkhnahiaaGreatDoor.Tp
open Go.RowKit
theorem mp_:∀ (c:Co) (S:Nat→Prop) (a:OA_) (n:Nat) (ka:OA_) (kn:Nat) (w:World),bS_ S w c a n ka kn→(∀ b,S b→b<w.heap.size)→c.deep≤100000→c.tdep≤100000 →
  Calls Tryz.prog 24 #[cv c a n ka kn] w fun e w'=>e=.returned (.tuple #[.int .i64 (c.deep:Nat),.int .i64 (c.tdep:Nat)])∧Below w.heap.size w w':=by
 intro c
 induction c using Co.ind with
 | h c ih =>
  intro S a n ka kn w hC hn hd ht;have DE:Hid (c.deep=bl_ c.kids+1∧c.deep≤100000):=hid ⟨c.deep_eq,hd⟩;have TE:Hid (c.tdep=max (cE_ c) (bz_ c.kids)∧c.tdep≤100000):=hid ⟨c.tdep_eq,ht⟩;have IH:=hid ih;have HC:=hid hC;have HN:=hid hn;have hz:=ao_ w (.cells #[.int .i64 c.kind,.string c.name,.int .i64 c.n,.int .i64 c.t.kind,.string c.t.name,.int .i64 c.t.n,.slice a c.t.args.length n,.slice ka c.kids.length kn] 33);have KB:=B8.new w (.int .i64 c.kind) (.string c.name) (.int .i64 c.n) (.int .i64 c.t.kind) (.string c.t.name) (.int .i64 c.t.n) (.slice a c.t.args.length n) (.slice ka c.kids.length kn);have hkl:c.kids.length≤9223372036854775807:=by obtain⟨_,_,_,h⟩:=hC.k.form;exact h
  have hk29:(c.kind=2∨c.kind=9)∨¬ (c.kind=2∨c.kind=9):=Classical.em _
  rcases hk29 with hk|hk
  ·have T0:Hid (cE_ c=c.t.depth):=hid (by unfold cE_;rw[if_pos hk])
   have hd0:c.t.depth≤100000:=by have h1:=TE.out;have h2:=T0.out;omega
   have CD:=hid (jy_ c.t S (.agg #[.int .i64 c.t.kind,.string c.t.name,.int .i64 c.t.n,.slice a c.t.args.length n]) _ ⟨_,rfl,hC.t.keep fun b hb=>hz.block b (hn b hb)⟩ (fun b hb=>aX_ (hn b hb) hz.size) hd0);have HZ:=hid hz;have KH:=hid KB;have hq:((c.kind==2)=true)∨((c.kind==2)=false∧(c.kind==9)=true):=by
    rcases hk with h|h
    ·exact .inl (by rw[h];rfl)
    ·exact .inr ⟨by rw[h];rfl,by rw[h];rfl⟩
   have B1:Hid (∀ w1,Below (w.alloc (.cells #[.int .i64 c.kind,.string c.name,.int .i64 c.n,.int .i64 c.t.kind,.string c.t.name,.int .i64 c.t.n,.slice a c.t.args.length n,.slice ka c.kids.length kn] 33)).heap.size (w.alloc (.cells #[.int .i64 c.kind,.string c.name,.int .i64 c.n,.int .i64 c.t.kind,.string c.t.name,.int .i64 c.t.n,.slice a c.t.args.length n,.slice ka c.kids.length kn] 33)) w1→Below w.heap.size w w1∧w1.cell? ⟨w.heap.size,7,none⟩=some (.slice ka c.kids.length kn)):=hid fun w1 h=>⟨HZ.out.trans (h.mono HZ.out.size),(KH.out.low h).c7⟩;clear ih hC hn hd ht hz KB hk;unfold cv
   rcases hq with q1|⟨q1,q2⟩
   ·go_enter Tryz.func24,Tryz.ntmps24
    go_wp2_with fail;refine CD.out.mono ?_;rintro e w1 ⟨rfl,hb1⟩;obtain⟨hB0,c7⟩:=B1.out w1 hb1;have B0:=hid hB0;clear hb1 hB0;go_wp2
    go_loopw [2,3,22] (fun mv tv iv wr=>∃ i:Nat,iv=.int .i64 i∧i≤c.kids.length∧mv=.int .i64 (bl_ (c.kids.take i):Nat)∧tv=.int .i64 ((max (cE_ c) (bz_ (c.kids.take i)):Nat))∧Below w.heap.size w wr) (fun _ _ iv _=>c.kids.length - (intOf iv).toNat)
    case atStart=>exact⟨0,rfl,Nat.zero_le _,by simp[bl_],by simp[bz_,T0.out],B0.out⟩
    case round =>
     obtain⟨i,rfl,hil,rfl,rfl,hB⟩:=hrel;have z0:(0:Int)≤(i:Int):=(by omega);have BH:=hid hB
     by_cases hi:i<c.kids.length
     ·have z1:(i:Int)<(c.kids.length:Int):=by omega
      obtain⟨b,off,a1,n1,a2,n2,rfl,hb,hf,hs,hk⟩:=HC.out.k.at_ hi;have hn:=HN.out;obtain⟨f0,f1,f2,f3,f4,f5,f6,f7⟩:=hf.keep (hB.block b (hn b hb));have hm:=List.getElem_mem hi;have hdi:=e3_ _ hm;have hti:=eS_ _ hm;have CH:=hid (fun (W:World) (hb:Below w.heap.size w W)=>IH.out _ hm S a1 n1 a2 n2 W ⟨hs.keep fun b hS=>hb.block b (hn b hS),hk.keep fun b hS=>hb.block b (hn b hS)⟩ (fun b hS=>aX_ (hn b hS) hb.size) (by have:=DE.out;omega) (by have:=TE.out;omega));have DT:=hid (f9_ _ _ hi);have TT:=hid (fR_ _ _ hi);have hdl:bl_ (c.kids.take i)≤bl_ c.kids:=by
       conv=>rhs;rw[← List.take_append_drop i c.kids,c9_]
       omega
      have htl:bz_ (c.kids.take i)≤bz_ c.kids:=by
       conv=>rhs;rw[← List.take_append_drop i c.kids,c5_]
       omega
      have hd1:bl_ (c.kids.take i)≤100000:=(by have:=DE.out;omega);have ht1:max (cE_ c) (bz_ (c.kids.take i))≤100000:=(by have:=TE.out;omega);have hd2:c.kids[i].deep≤100000:=(by have:=DE.out;omega);have ht2:c.kids[i].tdep≤100000:=(by have:=TE.out;omega);have hsz:=hB.size;clear hf hs hk hB hm hdi hti hn hb hdl htl;unfold cv at CH;generalize c.kids[i]=x at *;have MM:Hid (∀ d,max (cE_ c) (max (bz_ (c.kids.take i)) d)=max (max (cE_ c) (bz_ (c.kids.take i))) d):=hid fun d=>by omega
      generalize max (cE_ c) (bz_ (c.kids.take i))=q at *;generalize bl_ (c.kids.take i)=m at *;have em:(if m<x.deep then (x.deep:Int) else (m:Int))=((max m x.deep:Nat):Int):=by split<;>omega
      have et:(if q<x.tdep then (x.tdep:Int) else (q:Int))=((max q x.tdep:Nat):Int):=by split<;>omega
      go_wp2_with fail;refine (CH.out _ (BH.out.alloc (by omega) _)).mono ?_;rintro e w4 ⟨rfl,B4⟩;have B5:=hid ((BH.out.alloc (by omega) (.cells #[.int .i64 x.kind,.string x.name,.int .i64 x.n,.int .i64 x.t.kind,.string x.t.name,.int .i64 x.t.n,.slice a1 x.t.args.length n1,.slice a2 x.kids.length n2] 33)).trans (B4.mono (by simp;omega)));clear B4;go_wp2;go_roundw
      case rel=>exact⟨i+1,by go_num,by omega,by rw[DT.out];congr 1;omega,by rw[TT.out,MM.out];congr 1;omega,B5.out⟩
      case measure=>simp[intOf];omega
     ·obtain rfl:i=c.kids.length:=by omega
      have hd1:bl_ c.kids≤100000:=(by have:=DE.out;omega);clear hB;simp only[List.take_length];go_wp2;go_ret2;exact⟨by rw[DE.out.1,TE.out.1];rfl,BH.out⟩
   ·go_enter Tryz.func24,Tryz.ntmps24
    go_wp2_with fail;refine CD.out.mono ?_;rintro e w1 ⟨rfl,hb1⟩;obtain⟨hB0,c7⟩:=B1.out w1 hb1;have B0:=hid hB0;clear hb1 hB0;go_wp2
    go_loopw [2,3,22] (fun mv tv iv wr=>∃ i:Nat,iv=.int .i64 i∧i≤c.kids.length∧mv=.int .i64 (bl_ (c.kids.take i):Nat)∧tv=.int .i64 ((max (cE_ c) (bz_ (c.kids.take i)):Nat))∧Below w.heap.size w wr) (fun _ _ iv _=>c.kids.length - (intOf iv).toNat)
    case atStart=>exact⟨0,rfl,Nat.zero_le _,by simp[bl_],by simp[bz_,T0.out],B0.out⟩
    case round =>
     obtain⟨i,rfl,hil,rfl,rfl,hB⟩:=hrel;have z0:(0:Int)≤(i:Int):=(by omega);have BH:=hid hB
     by_cases hi:i<c.kids.length
     ·have z1:(i:Int)<(c.kids.length:Int):=by omega
      obtain⟨b,off,a1,n1,a2,n2,rfl,hb,hf,hs,hk⟩:=HC.out.k.at_ hi;have hn:=HN.out;obtain⟨f0,f1,f2,f3,f4,f5,f6,f7⟩:=hf.keep (hB.block b (hn b hb));have hm:=List.getElem_mem hi;have hdi:=e3_ _ hm;have hti:=eS_ _ hm;have CH:=hid (fun (W:World) (hb:Below w.heap.size w W)=>IH.out _ hm S a1 n1 a2 n2 W ⟨hs.keep fun b hS=>hb.block b (hn b hS),hk.keep fun b hS=>hb.block b (hn b hS)⟩ (fun b hS=>aX_ (hn b hS) hb.size) (by have:=DE.out;omega) (by have:=TE.out;omega));have DT:=hid (f9_ _ _ hi);have TT:=hid (fR_ _ _ hi);have hdl:bl_ (c.kids.take i)≤bl_ c.kids:=by
       conv=>rhs;rw[← List.take_append_drop i c.kids,c9_]
       omega
      have htl:bz_ (c.kids.take i)≤bz_ c.kids:=by
       conv=>rhs;rw[← List.take_append_drop i c.kids,c5_]
       omega
      have hd1:bl_ (c.kids.take i)≤100000:=(by have:=DE.out;omega);have ht1:max (cE_ c) (bz_ (c.kids.take i))≤100000:=(by have:=TE.out;omega);have hd2:c.kids[i].deep≤100000:=(by have:=DE.out;omega);have ht2:c.kids[i].tdep≤100000:=(by have:=TE.out;omega);have hsz:=hB.size;clear hf hs hk hB hm hdi hti hn hb hdl htl;unfold cv at CH;generalize c.kids[i]=x at *;have MM:Hid (∀ d,max (cE_ c) (max (bz_ (c.kids.take i)) d)=max (max (cE_ c) (bz_ (c.kids.take i))) d):=hid fun d=>by omega
      generalize max (cE_ c) (bz_ (c.kids.take i))=q at *;generalize bl_ (c.kids.take i)=m at *;have em:(if m<x.deep then (x.deep:Int) else (m:Int))=((max m x.deep:Nat):Int):=by split<;>omega
      have et:(if q<x.tdep then (x.tdep:Int) else (q:Int))=((max q x.tdep:Nat):Int):=by split<;>omega
      go_wp2_with fail;refine (CH.out _ (BH.out.alloc (by omega) _)).mono ?_;rintro e w4 ⟨rfl,B4⟩;have B5:=hid ((BH.out.alloc (by omega) (.cells #[.int .i64 x.kind,.string x.name,.int .i64 x.n,.int .i64 x.t.kind,.string x.t.name,.int .i64 x.t.n,.slice a1 x.t.args.length n1,.slice a2 x.kids.length n2] 33)).trans (B4.mono (by simp;omega)));clear B4;go_wp2;go_roundw
      case rel=>exact⟨i+1,by go_num,by omega,by rw[DT.out];congr 1;omega,by rw[TT.out,MM.out];congr 1;omega,B5.out⟩
      case measure=>simp[intOf];omega
     ·obtain rfl:i=c.kids.length:=by omega
      have hd1:bl_ c.kids≤100000:=(by have:=DE.out;omega);clear hB;simp only[List.take_length];go_wp2;go_ret2;exact⟨by rw[DE.out.1,TE.out.1];rfl,BH.out⟩
  ·have T0:Hid (cE_ c=0):=hid (by unfold cE_;rw[if_neg hk])
   have q1:(c.kind==2)=false:=by rw[beq_eq_false_iff_ne];omega
   have q2:(c.kind==9)=false:=by rw[beq_eq_false_iff_ne];omega
   have B0:=hid hz;clear ih hC hn hd ht hz KB hk;unfold cv;go_enter Tryz.func24,Tryz.ntmps24;go_wp2
   go_loopw [2,3,22] (fun mv tv iv wr=>∃ i:Nat,iv=.int .i64 i∧i≤c.kids.length∧mv=.int .i64 (bl_ (c.kids.take i):Nat)∧tv=.int .i64 ((max (cE_ c) (bz_ (c.kids.take i)):Nat))∧Below w.heap.size w wr) (fun _ _ iv _=>c.kids.length - (intOf iv).toNat)
   case atStart=>exact⟨0,rfl,Nat.zero_le _,by simp[bl_],by simp[bz_,T0.out],B0.out⟩
   case round =>
    obtain⟨i,rfl,hil,rfl,rfl,hB⟩:=hrel;have z0:(0:Int)≤(i:Int):=(by omega);have BH:=hid hB
    by_cases hi:i<c.kids.length
    ·have z1:(i:Int)<(c.kids.length:Int):=by omega
     obtain⟨b,off,a1,n1,a2,n2,rfl,hb,hf,hs,hk⟩:=HC.out.k.at_ hi;have hn:=HN.out;obtain⟨f0,f1,f2,f3,f4,f5,f6,f7⟩:=hf.keep (hB.block b (hn b hb));have hm:=List.getElem_mem hi;have hdi:=e3_ _ hm;have hti:=eS_ _ hm;have CH:=hid (fun (W:World) (hb:Below w.heap.size w W)=>IH.out _ hm S a1 n1 a2 n2 W ⟨hs.keep fun b hS=>hb.block b (hn b hS),hk.keep fun b hS=>hb.block b (hn b hS)⟩ (fun b hS=>aX_ (hn b hS) hb.size) (by have:=DE.out;omega) (by have:=TE.out;omega));have DT:=hid (f9_ _ _ hi);have TT:=hid (fR_ _ _ hi);have hdl:bl_ (c.kids.take i)≤bl_ c.kids:=by
      conv=>rhs;rw[← List.take_append_drop i c.kids,c9_]
      omega
     have htl:bz_ (c.kids.take i)≤bz_ c.kids:=by
      conv=>rhs;rw[← List.take_append_drop i c.kids,c5_]
      omega
     have hd1:bl_ (c.kids.take i)≤100000:=(by have:=DE.out;omega);have ht1:max (cE_ c) (bz_ (c.kids.take i))≤100000:=(by have:=TE.out;omega);have hd2:c.kids[i].deep≤100000:=(by have:=DE.out;omega);have ht2:c.kids[i].tdep≤100000:=(by have:=TE.out;omega);have hsz:=hB.size;clear hf hs hk hB hm hdi hti hn hb hdl htl;unfold cv at CH;generalize c.kids[i]=x at *;have MM:Hid (∀ d,max (cE_ c) (max (bz_ (c.kids.take i)) d)=max (max (cE_ c) (bz_ (c.kids.take i))) d):=hid fun d=>by omega
     generalize max (cE_ c) (bz_ (c.kids.take i))=q at *;generalize bl_ (c.kids.take i)=m at *;have em:(if m<x.deep then (x.deep:Int) else (m:Int))=((max m x.deep:Nat):Int):=by split<;>omega
     have et:(if q<x.tdep then (x.tdep:Int) else (q:Int))=((max q x.tdep:Nat):Int):=by split<;>omega
     go_wp2_with fail;refine (CH.out _ (BH.out.alloc (by omega) _)).mono ?_;rintro e w4 ⟨rfl,B4⟩;have B5:=hid ((BH.out.alloc (by omega) (.cells #[.int .i64 x.kind,.string x.name,.int .i64 x.n,.int .i64 x.t.kind,.string x.t.name,.int .i64 x.t.n,.slice a1 x.t.args.length n1,.slice a2 x.kids.length n2] 33)).trans (B4.mono (by simp;omega)));clear B4;go_wp2;go_roundw
     case rel=>exact⟨i+1,by go_num,by omega,by rw[DT.out];congr 1;omega,by rw[TT.out,MM.out];congr 1;omega,B5.out⟩
     case measure=>simp[intOf];omega
    ·obtain rfl:i=c.kids.length:=by omega
     have hd1:bl_ c.kids≤100000:=(by have:=DE.out;omega);clear hB;simp only[List.take_length];go_wp2;go_ret2;exact⟨by rw[DE.out.1,TE.out.1];rfl,BH.out⟩
open Lx
theorem mn_ (t:Ty):t.depth≤t.size:=by
 induction t using Ty.ind with
 | h t ih =>
  have:∀ l:List Ty,(∀ a∈l,a.depth≤a.size)→aC_ l≤ax_ l:=by
   intro l
   induction l with
   | nil=>intro _;exact aw_ _
   | cons a l ihl =>
    intro h;rw[aC_,ax_];have:=h a (by simp);have:=ihl fun b hb=>h b (by simp[hb]);omega
  have:=this t.args ih;rw[t.depth_eq,t.size_eq];omega
theorem rx_ (c:Co):WfC c→c.deep≤wtC 1 c∧c.tdep≤wtC 1 c:=by
 induction c using Co.ind with
 | h c ih =>
  intro hw;have kl:∀ ks:List Co,(∀ a∈ks,a.deep≤wtC 1 a∧a.tdep≤wtC 1 a)→bl_ ks≤wtL 1 ks∧bz_ ks≤wtL 1 ks:=by
   intro ks
   induction ks with
   | nil=>intro _;exact⟨aw_ _,aw_ _⟩
   | cons a l ihl =>
    intro h;rw[bl_,bz_,wtL];have:=h a (by simp);have:=ihl fun b hb=>h b (by simp[hb]);omega
  have h1:=kl c.kids fun a ha=>ih a ha (hw.kids a ha);have hk:=hw.k.2.2;have hs:=mn_ c.t;have hs1:1≤c.t.size:=by rw[c.t.size_eq];omega
  have nil:c.kids.length=0→c.kids=[]:=List.eq_nil_of_length_eq_zero;rw[c.deep_eq,c.tdep_eq,mD_];unfold cE_
  by_cases h1':c.kind=1
  ·rw[if_pos h1',if_neg (by omega),nil (by omega)];simp[bl_,bz_]
  ·by_cases h2:c.kind=2
   ·rw[if_neg h1',if_pos h2,if_pos (.inl h2),nil (by omega)]
    simp only[bl_,bz_];omega
   ·rw[if_neg h1',if_neg h2]
    by_cases h9:c.kind=9
    ·rw[if_pos h9,if_pos (.inr h9)];omega
    ·rw[if_neg h9,if_neg (by omega)];omega
theorem hN_ {l:List Tok}{c:Co}{r:List Tok}(hl:∀ t∈l,be_ t)(hn:l.length≤4000)(h:fk_ l=some (c,r)):c.deep≤4000∧c.tdep≤4000:=by
 obtain⟨h1,h2,_⟩:=(mi_ 1 (aw_ _) _).1 l c r hl hn h;have:=rx_ c h1;omega
theorem fz_ {l:List UInt8}{ts:List Tok}{p er:Nat}(h:bI_ l=(ts,p,er)):aY_ l=if er≠0 then .error er else match fk_ ts with
  | none=>.error 50
  | some (c,r)=>if r≠[] then .error 50 else if 50<c.deep∨50<c.tdep then .error 3 else .ok c:=by
 rw[aY_,h];rfl
def ig_ (w:World)(res:Except Nat Co)(e:Ending)(w':World):Prop :=
 Below w.heap.size w w'∧match res with
 | .error er=>e=.returned (.tuple #[cv coz none 0 none 0,.int .i64 er])
 | .ok c=>∃ a n ka kn,e=.returned (.tuple #[cv c a n ka kn,.int .i64 0])∧bS_ (In w.heap.size w'.heap.size) w' c a n ka kn
theorem md_ (w:World)(hV:Vs w)(s:ByteArray)(hs:s.size≤maxLen):Calls Tryz.prog 10 #[.string s] w (ig_ w (aY_ s.data.toList)):=by
 have C:=hid (kO_ s (w.alloc (.cells #[.int .i64 0,.string ⟨#[]⟩,.int .i64 0,.int .i64 0,.string ⟨#[]⟩,.int .i64 0,.slice none 0 0,.slice none 0 0] 33)) hs);have b8:=hid (B8.new w (.int .i64 0) (.string ⟨#[]⟩) (.int .i64 0) (.int .i64 0) (.string ⟨#[]⟩) (.int .i64 0) (.slice none 0 0) (.slice none 0 0));have HZ:=hid (ao_ w (.cells #[.int .i64 0,.string ⟨#[]⟩,.int .i64 0,.int .i64 0,.string ⟨#[]⟩,.int .i64 0,.slice none 0 0,.slice none 0 0] 33));have hok:Hid (∀ t∈(bI_ s.data.toList).1,be_ t):=hid (fun t ht=>oM_ t (cJ_ s.data.toList t ht));have hlen:=ca_ s.data.toList;have HV:=hid hV
 rcases hsc:bI_ s.data.toList with ⟨ts,p,er⟩
 have hP:=fz_ hsc;rw[hsc] at hok hlen;have HSC:=hid hsc;have HP:=hid hP;clear hsc hP hV;go_enter Tryz.func10,Tryz.ntmps10;go_wp2_with fail;refine C.out.mono ?_;rintro e w1 ⟨v,rfl,hb,ho⟩;rw[HSC.out] at ho ⊢;have k8:=b8.out.low hb;obtain⟨c0,c1,c2,c3,c4,c5,c6,c7⟩:=k8.c07;obtain⟨f0,f1,f2,f3,f4,f5,f6,f7⟩:=k8.f07;have K8:=hid k8;have hb1:=HZ.out.trans (hb.mono (by simp));have B1:=hid hb1;have V1:=hid (HV.out.n _ hb1);obtain⟨va,vc,rfl⟩:=a2_ ho;have OW:=hid ho;have hw01:Hid (w.heap.size+1≤w1.heap.size):=hid (by have:=hb.size;simpa using this);clear k8 hb ho hb1
 by_cases her:er=0
 ·subst her
  have HP1:=HP.out;rw[if_neg (by simp)] at HP1;have RC:=hid (nh_ w1 V1.out va vc ts (c4_ OW.out) (fun b o e=>(OW.out.lt b (by rw[e];rfl)).2) hok.out hlen);have HP2:=hid HP1;clear HP1;go_wp2_with fail;refine RC.out.mono ?_;rintro e w2 ⟨hb2,hres⟩;have k5:=K8.out.low hb2;have K5:=hid k5;have B2:=hid hb2;cases hT:fk_ ts with
  | none =>
   rw[hT] at hres;subst hres;have E:Hid (aY_ s.data.toList=.error 50):=hid (by rw[HP2.out,hT]);have hz:=ao_ w2 (.cells #[.int .i64 0,.string ⟨#[]⟩,.int .i64 0,.int .i64 0,.string ⟨#[]⟩,.int .i64 0,.slice none 0 0,.slice none 0 0] 33);have k6:=k5.low hz;have K6:=hid k6;have G6:=hid (B1.out.trans ((hb2.trans (hz.mono hb2.size)).mono B1.out.size));obtain⟨d0,d1,d2,d3,d4,d5,d6,d7⟩:=k6.c07;obtain⟨h0,h1,h2,h3,h4,h5,h6,h7⟩:=k6.f07;clear hT k5 hb2 hz k6;rw[show cv coz none 0 none 0=.agg #[.int .i64 0,.string ⟨#[]⟩,.int .i64 0,.int .i64 0,.string ⟨#[]⟩,.int .i64 0,.slice none 0 0,.slice none 0 0] from rfl];go_wp2;have q8:=K6.out.set80 _ _ (.int .i64 0) (.string ⟨#[]⟩) (.int .i64 0) (.int .i64 0) (.string ⟨#[]⟩) (.int .i64 0) (.slice none 0 0) (.slice none 0 0);have g8:=aD_ G6.out (aw_ _) (.int .i64 0) (.string ⟨#[]⟩) (.int .i64 0) (.int .i64 0) (.string ⟨#[]⟩) (.int .i64 0) (.slice none 0 0) (.slice none 0 0);refine bodyPost_ret (v:=.tuple #[cv coz none 0 none 0,.int .i64 50]) (by simp[results,Tryz.results10,go_sem,cv,coz,bP_,bO_,h8_,h7_,b0_,q8.c0,q8.c1,q8.c2,q8.c3,q8.c4,q8.c5,q8.c6,q8.c7];first|rfl|exact⟨rfl,rfl,rfl,rfl,rfl⟩) rfl ?_;rw[E.out];exact⟨g8,rfl⟩
  | some x =>
   obtain⟨c,r⟩:=x;rw[hT] at hres;obtain⟨a1,n1,ka1,kn1,a2,c2,rfl,hA,hR⟩:=hres;have hz:=ao_ w2 (.cells #[.int .i64 c.kind,.string c.name,.int .i64 c.n,.int .i64 c.t.kind,.string c.t.name,.int .i64 c.t.n,.slice a1 c.t.args.length n1,.slice ka1 c.kids.length kn1] 33);have k6:=k5.low hz;have kt:=B8.new w2 (.int .i64 c.kind) (.string c.name) (.int .i64 c.n) (.int .i64 c.t.kind) (.string c.t.name) (.int .i64 c.t.n) (.slice a1 c.t.args.length n1) (.slice ka1 c.kids.length kn1);have K6:=hid k6;have G6:=hid (B1.out.trans ((hb2.trans (hz.mono hb2.size)).mono B1.out.size));have A6:=hid (hA.keep (fun b hb=>hz.block b hb.2));have hdp:=hN_ hok.out hlen hT;have hE2:aY_ s.data.toList=if r≠[] then .error 50 else if 50<c.deep∨50<c.tdep then .error 3 else .ok c:=(by rw[HP2.out,hT]);obtain⟨d0,d1,d2,d3,d4,d5,d6,d7⟩:=k6.c07;obtain⟨h0,h1,h2,h3,h4,h5,h6,h7⟩:=k6.f07;obtain⟨t0,t1,t2,t3,t4,t5,t6,t7⟩:=kt.c07;clear hT k5 hb2 hz k6 kt hA hR;unfold cv
   by_cases hr:r=[]
   ·subst hr
    have hE3:aY_ s.data.toList=if 50<c.deep∨50<c.tdep then .error 3 else .ok c:=(by rw[hE2,if_neg (by simp)]);have CD:=hid (mp_ c _ a1 n1 ka1 kn1 _ A6.out (fun b hb=>by have:=hb.2;simp;omega) (by omega) (by omega));unfold cv at CD;clear hE2
    by_cases hd:50<c.deep
    ·have E:Hid (aY_ s.data.toList=.error 3):=hid (by rw[hE3,if_pos (.inl hd)])
     have hz0:decide ((50:Int)<(c.deep:Int))=true:=by simp;omega
     clear hE3;go_wp2_with fail;refine CD.out.mono ?_;rintro e w4 ⟨rfl,hb4⟩;have k7:=K6.out.low hb4;obtain⟨x0,x1,x2,x3,x4,x5,x6,x7⟩:=k7.c07;obtain⟨y0,y1,y2,y3,y4,y5,y6,y7⟩:=k7.f07;have K7:=hid k7;have G7:=hid (G6.out.trans (hb4.mono G6.out.size));clear k7 hb4;go_wp2;have q8:=K7.out.set80 _ _ (.int .i64 0) (.string ⟨#[]⟩) (.int .i64 0) (.int .i64 0) (.string ⟨#[]⟩) (.int .i64 0) (.slice none 0 0) (.slice none 0 0);have g8:=aD_ G7.out (aw_ _) (.int .i64 0) (.string ⟨#[]⟩) (.int .i64 0) (.int .i64 0) (.string ⟨#[]⟩) (.int .i64 0) (.slice none 0 0) (.slice none 0 0);refine bodyPost_ret (v:=.tuple #[cv coz none 0 none 0,.int .i64 3]) (by simp[results,Tryz.results10,go_sem,cv,coz,bP_,bO_,h8_,h7_,b0_,q8.c0,q8.c1,q8.c2,q8.c3,q8.c4,q8.c5,q8.c6,q8.c7];first|rfl|exact⟨rfl,rfl,rfl,rfl,rfl⟩) rfl ?_;rw[E.out];exact⟨g8,rfl⟩
    ·have hz0:decide ((50:Int)<(c.deep:Int))=false:=by simp;omega
     by_cases hd2:50<c.tdep
     ·have E:Hid (aY_ s.data.toList=.error 3):=hid (by rw[hE3,if_pos (.inr hd2)])
      have hz1:decide ((50:Int)<(c.tdep:Int))=true:=by simp;omega
      clear hE3;go_wp2_with fail;refine CD.out.mono ?_;rintro e w4 ⟨rfl,hb4⟩;have k7:=K6.out.low hb4;obtain⟨x0,x1,x2,x3,x4,x5,x6,x7⟩:=k7.c07;obtain⟨y0,y1,y2,y3,y4,y5,y6,y7⟩:=k7.f07;have K7:=hid k7;have G7:=hid (G6.out.trans (hb4.mono G6.out.size));clear k7 hb4;go_wp2;have q8:=K7.out.set80 _ _ (.int .i64 0) (.string ⟨#[]⟩) (.int .i64 0) (.int .i64 0) (.string ⟨#[]⟩) (.int .i64 0) (.slice none 0 0) (.slice none 0 0);have g8:=aD_ G7.out (aw_ _) (.int .i64 0) (.string ⟨#[]⟩) (.int .i64 0) (.int .i64 0) (.string ⟨#[]⟩) (.int .i64 0) (.slice none 0 0) (.slice none 0 0);refine bodyPost_ret (v:=.tuple #[cv coz none 0 none 0,.int .i64 3]) (by simp[results,Tryz.results10,go_sem,cv,coz,bP_,bO_,h8_,h7_,b0_,q8.c0,q8.c1,q8.c2,q8.c3,q8.c4,q8.c5,q8.c6,q8.c7];first|rfl|exact⟨rfl,rfl,rfl,rfl,rfl⟩) rfl ?_;rw[E.out];exact⟨g8,rfl⟩
     ·have E:Hid (aY_ s.data.toList=.ok c):=hid (by rw[hE3,if_neg (by omega)])
      have hz1:decide ((50:Int)<(c.tdep:Int))=false:=by simp;omega
      have KT6:=hid (B8.new w2 (.int .i64 c.kind) (.string c.name) (.int .i64 c.n) (.int .i64 c.t.kind) (.string c.t.name) (.int .i64 c.t.n) (.slice a1 c.t.args.length n1) (.slice ka1 c.kids.length kn1));clear hE3;go_wp2_with fail;refine CD.out.mono ?_;rintro e w4 ⟨rfl,hb4⟩;have k7:=K6.out.low hb4;obtain⟨x0,x1,x2,x3,x4,x5,x6,x7⟩:=k7.c07;obtain⟨y0,y1,y2,y3,y4,y5,y6,y7⟩:=k7.f07;have t7:=KT6.out.low hb4;obtain⟨z0,z1,z2,z3,z4,z5,z6,z7⟩:=t7.c07;have K7:=hid k7;have G7:=hid (G6.out.trans (hb4.mono G6.out.size));have A7:=hid (A6.out.keep fun b hb=>hb4.block b (by have:=hb.2;simp;omega));have H4:=hid hb4;clear t7;clear k7 hb4;go_wp2;have q8:=K7.out.set80 _ _ (.int .i64 c.kind) (.string c.name) (.int .i64 c.n) (.int .i64 c.t.kind) (.string c.t.name) (.int .i64 c.t.n) (.slice a1 c.t.args.length n1) (.slice ka1 c.kids.length kn1);have g8:=aD_ G7.out (aw_ _) (.int .i64 c.kind) (.string c.name) (.int .i64 c.n) (.int .i64 c.t.kind) (.string c.t.name) (.int .i64 c.t.n) (.slice a1 c.t.args.length n1) (.slice ka1 c.kids.length kn1);refine bodyPost_ret (v:=.tuple #[cv c a1 n1 ka1 kn1,.int .i64 0]) (by simp[results,Tryz.results10,go_sem,cv,q8.c0,q8.c1,q8.c2,q8.c3,q8.c4,q8.c5,q8.c6,q8.c7]) rfl ?_;rw[E.out];have x8:=e5_ A7.out (b:=w.heap.size) (fun k hk=>by have:=hk.1;have:=hw01.out;omega) (.int .i64 c.kind) (.string c.name) (.int .i64 c.n) (.int .i64 c.t.kind) (.string c.t.name) (.int .i64 c.t.n) (.slice a1 c.t.args.length n1) (.slice ka1 c.kids.length kn1);exact⟨g8,a1,n1,ka1,kn1,rfl,x8.mono fun b hb=>by
       obtain⟨b1,b2⟩:=hb;have h1:=hw01.out;have h2:=H4.out.size;simp at h2;exact⟨by omega,by simp;omega⟩⟩
   ·have E:Hid (aY_ s.data.toList=.error 50):=hid (by rw[hE2,if_pos hr])
    have hz0:decide ((0:Int)<(r.length:Int))=true:=by
     rw[decide_eq_true_eq];have:=List.length_pos_iff.2 hr;omega
    have hz1:(0:Int)<(r.length:Int):=by
     have:=List.length_pos_iff.2 hr;omega
    clear hE2 hr;generalize r.length=rl at *;go_wp2;have q8:=K6.out.set80 _ _ (.int .i64 0) (.string ⟨#[]⟩) (.int .i64 0) (.int .i64 0) (.string ⟨#[]⟩) (.int .i64 0) (.slice none 0 0) (.slice none 0 0);have g8:=aD_ G6.out (aw_ _) (.int .i64 0) (.string ⟨#[]⟩) (.int .i64 0) (.int .i64 0) (.string ⟨#[]⟩) (.int .i64 0) (.slice none 0 0) (.slice none 0 0);refine bodyPost_ret (v:=.tuple #[cv coz none 0 none 0,.int .i64 50]) (by simp[results,Tryz.results10,go_sem,cv,coz,bP_,bO_,h8_,h7_,b0_,q8.c0,q8.c1,q8.c2,q8.c3,q8.c4,q8.c5,q8.c6,q8.c7];first|rfl|exact⟨rfl,rfl,rfl,rfl,rfl⟩) rfl ?_;rw[E.out];exact⟨g8,rfl⟩
 ·have E:Hid (aY_ s.data.toList=.error er):=hid (by rw[HP.out,if_pos her])
  have hz0:((er:Int) != 0)=true:=by rw[bne_iff_ne];omega
  go_wp2;have q8:=K8.out.set80 _ _ (.int .i64 0) (.string ⟨#[]⟩) (.int .i64 0) (.int .i64 0) (.string ⟨#[]⟩) (.int .i64 0) (.slice none 0 0) (.slice none 0 0);have g8:=aD_ B1.out (aw_ _) (.int .i64 0) (.string ⟨#[]⟩) (.int .i64 0) (.int .i64 0) (.string ⟨#[]⟩) (.int .i64 0) (.slice none 0 0) (.slice none 0 0);refine bodyPost_ret (v:=.tuple #[cv coz none 0 none 0,.int .i64 er]) (by simp[results,Tryz.results10,go_sem,cv,coz,bP_,bO_,h8_,h7_,b0_,q8.c0,q8.c1,q8.c2,q8.c3,q8.c4,q8.c5,q8.c6,q8.c7];first|rfl|exact⟨rfl,rfl,rfl,rfl,rfl⟩) rfl ?_;rw[E.out];exact⟨g8,rfl⟩
end Go.Proofs.YtkihnodkhnahiaaGreatDoor.Tp

/- Packed. -/
import Derived.Test.YtjecnionbjlncaaGreatDoorP22
set_option maxRecDepth 100000
set_option maxHeartbeats 6400000
namespace Go.Proofs.YtjecnionbjlncaaGreatDoor.Tp
section
open Lx
def LexN (x:ByteArray):Prop:=fr_ x.data.toList∧a9_ (x.data.toList.headD 0)=true∧lN_.contains x.data.toList=false
theorem kS_ (n:Nat):(aO_ n).data.toList=120 :: Lib.decDigits n:=by
 unfold aO_;rw[Lib.itoa_nonneg,ByteArray.data_append];simp[ab_]
theorem jR_ {t u:Ty}(ht:Std t)(hu:Std u)(e:dbT [] t=dbT [] u):dl_ t=dl_ u:=by
 rw[el_ t ht,el_ u hu,ng_ t ht,ng_ u hu,e]
mutual
def eR_:Ty→Bool
 | .mk k _ _ args=>k==5 || ow_ args
def ow_:List Ty→Bool
 | []=>false
 | t :: ts=>eR_ t || ow_ ts
end
theorem mL_ (ts:List Ty):ow_ ts=ts.any eR_:=by
 induction ts with
 | nil=>rfl
 | cons t ts ih=>rw[ow_,ih];rfl
theorem km_ (t:Ty):eR_ t=(t.kind==5 || t.args.any eR_):=by
 cases t with
 | mk k s n args=>rw[eR_,mL_];rfl
theorem nK_ (nm:ByteArray)(u:Ty)(hu:aY_ u)(hus:u.size≤50000000000):∀ (d:Nat) (t:Ty),t.depth≤d→aY_ t→t.size≤50000000000→aY_ (eo_ d nm u t):=by
 intro d
 induction d with
 | zero=>intro t h;rw[t.depth_eq] at h;omega
 | succ d ih =>
  intro t h hg hs;have hd:∀ a∈t.args,a.depth≤d∧a.size≤50000000000:=fun a ha=>by
   have:=av_ _ ha;have:=bx_ _ ha;rw[t.depth_eq] at h;rw[t.size_eq] at hs;omega
  rw[eo_]
  split
  ·exact hg
  ·split
   ·exact hu
   ·split
    ·next hc =>
     simp only[Bool.and_eq_true,beq_iff_eq] at hc;obtain⟨b,hb,hb0⟩:=is_ hg.1 hc.1;have hbm:b∈t.args:=by rw[hb];simp
     have hnm:=((ci_ t).1 hg.2).1;unfold d2_;rw[hb0];have hfl:=bk_ u;have hfb:=bk_ b;have hbs:=(hd b hbm).2;have hfs:=cu_ t.name (ai_ u++ai_ b++[t.name,nm]) (by simp;omega) (hnm.1 hc.1);generalize a2_ t.name (ai_ u++ai_ b++[t.name,nm])=n at *;obtain⟨a1,a2,a3,a4⟩:=cY_ t.name n b (aR_ hg b hbm) hfs.2 (by omega);have:=ih (b9_ t.name n b) (by rw[a1];exact (hd b hbm).1) a3 (by omega);exact ey_ hfs.1 hfs.2 this
    ·refine fc_ hg _ (by simp) fun a ha=>?_
     obtain⟨b,hb,rfl⟩:=List.mem_map.1 ha;exact ih b (hd b hb).1 (aR_ hg b hb) (hd b hb).2
theorem mE_ (u:Ty)(free:List ByteArray)(is:Ty→Bool)(hu:aY_ u)(hfl:free.length≤50000000000):∀ (d:Nat) (t:Ty),t.depth≤d→aY_ t→t.size≤50000000000→aY_ (d3_ d u free is t):=by
 intro d
 induction d with
 | zero=>intro t h;rw[t.depth_eq] at h;omega
 | succ d ih =>
  intro t h hg hs;have hd:∀ a∈t.args,a.depth≤d∧a.size≤50000000000:=fun a ha=>by
   have:=av_ _ ha;have:=bx_ _ ha;rw[t.depth_eq] at h;rw[t.size_eq] at hs;omega
  rw[d3_]
  split
  ·exact hu
  ·split
   ·next hc =>
    simp only[Bool.and_eq_true,beq_iff_eq] at hc;obtain⟨b,hb,hb0⟩:=is_ hg.1 hc.1;have hbm:b∈t.args:=by rw[hb];simp
    have hnm:=((ci_ t).1 hg.2).1;unfold d2_;rw[hb0];have hfb:=bk_ b;have hbs:=(hd b hbm).2;have hfs:=cu_ t.name (free++ai_ b++[t.name]) (by simp;omega) (hnm.1 hc.1);generalize a2_ t.name (free++ai_ b++[t.name])=n at *;obtain⟨a1,a2,a3,a4⟩:=cY_ t.name n b (aR_ hg b hbm) hfs.2 (by omega);have:=ih (b9_ t.name n b) (by rw[a1];exact (hd b hbm).1) a3 (by omega);exact ey_ hfs.1 hfs.2 this
   ·refine fc_ hg _ (by simp) fun a ha=>?_
    obtain⟨b,hb,rfl⟩:=List.mem_map.1 ha;exact ih b (hd b hb).1 (aR_ hg b hb) (hd b hb).2
theorem g0_ (nm:ByteArray)(u t:Ty)(ht:aY_ t)(hu:aY_ u)(hs:t.size≤50000000000)(hus:u.size≤50000000000):aY_ (f6_ nm u t):=nK_ nm u hu hus _ _ (aC_ _) ht hs
theorem dG_ (m:Int)(u t:Ty)(ht:aY_ t)(hu:aY_ u)(hs:t.size≤50000000000)(hus:u.size≤50000000000):aY_ (bH_ m u t):=mE_ u _ _ hu (by have:=bk_ u;omega) _ _ (aC_ _) ht hs
end
section
open Go.RowKit
def cA_ (w:World)(b:Bool)(e:Ending)(w':World):Prop:=e=.returned (.bool b)∧Below w.heap.size w w'
def nP_ (w:World)(b:Bool)(e:Ending)(w':World):Prop:=∃ k:Int,e=.returned (.int .i64 k)∧decide (0≤k)=b∧Below w.heap.size w w'
theorem ii_ (l:List Ty)(p:Ty→Bool)(k:Nat)(h:k<l.length):(l.take (k+1)).any p=((l.take k).any p || p l[k]):=by
 rw[List.take_add_one,List.getElem?_eq_getElem h,List.any_append];simp only[Option.toList_some,List.any_cons,List.any_nil,Bool.or_false]
theorem nf_ (f:FuncId)(hf:∀ args w,(callFunc f args).run Tryz.prog w=.ok (.enter f args) w)(p:Ty→Bool)(ts:List Ty)(S:Nat→Prop)(a:OA_)(c:Nat)(w:World)(hA:aa_ S w (.slice a ts.length c) ts)(hS:∀ b,S b→b<w.heap.size)(hl:ts.length≤4500000000000)
  (hat:∀ (i:Nat) (hi:i<ts.length) (a:OA_) (c:Nat) (W:World),Below w.heap.size w W→aa_ S W (.slice a ts[i].args.length c) ts[i].args→Calls Tryz.prog f (#[tv ts[i] a c]++#[]) W (cA_ W (p ts[i]))) :
  Calls Tryz.prog 93 #[.slice a ts.length c,.func (.func f) #[] #[]] w (nP_ w (ts.any p)):=by
 have HA:=hid hA;have HS:=hid hS;have HAT:=hid hat;clear hA hS hat;go_enter Tryz.func93,Tryz.ntmps93;go_wp2
 go_loopw [8] (fun iv wr=>∃ i:Nat,iv=.int .i64 i∧i≤ts.length∧(ts.take i).any p=false∧Below w.heap.size w wr) (fun iv _=>ts.length - (intOf iv).toNat)
 case atStart=>exact⟨0,rfl,Nat.zero_le _,rfl,Below.refl _ _⟩
 case round =>
  obtain⟨i,rfl,hil,hno,hB⟩:=hrel;have NO:=hid hno;have HB:=hid hB;clear hno
  by_cases hi:i<ts.length
  ·have z0:(0:Int)≤(i:Int):=by omega
   have z1:(i:Int)<(ts.length:Int):=(by omega);obtain⟨b,off,a',c',rfl,hb,hf4,hs⟩:=HA.out.at_ hi;obtain⟨f0,f1,f2,f3⟩:=hf4.keep (hB.block b (HS.out b hb));have CF:=hid (HAT.out i hi a' c' wr hB (hs.keep fun b hb=>hB.block b (HS.out b hb)));have AT:=hid (ii_ ts p i hi);unfold tv at *;clear hB hf4 hs;go_wp2_with fail;refine CF.out.mono ?_;rintro e W4 ⟨rfl,hb4⟩;have B4':=hid (HB.out.trans (hb4.mono HB.out.size));clear hb4;cases hp:p ts[i] with
   | true =>
    have hany:Hid (ts.any p=true):=hid (List.any_eq_true.2 ⟨_,List.getElem_mem hi,hp⟩);clear hp;go_wp2;go_ret;exact⟨i,rfl,by rw[hany.out];exact decide_eq_true z0,B4'.out⟩
   | false =>
    have st:Hid ((ts.take (i+1)).any p=false):=hid (by rw[AT.out,NO.out,hp];rfl);clear hp;go_wp2;go_roundw
    case rel=>exact⟨i+1,by go_num,by omega,st.out,B4'.out⟩
    case measure=>simp[intOf];omega
  ·obtain rfl:i=ts.length:=by omega
   clear hB;go_wp2;go_ret;refine⟨-1,rfl,?_,HB.out⟩;have:=NO.out;rw[List.take_length] at this;rw[this];rfl
theorem id_ (f:FuncId)(hf:∀ args w,(callFunc f args).run Tryz.prog w=.ok (.enter f args) w)(p:Ty→Bool)(ts:List Ty)(S:Nat→Prop)(a:OA_)(c:Nat)(w:World)(hA:aa_ S w (.slice a ts.length c) ts)(hS:∀ b,S b→b<w.heap.size)(hl:ts.length≤4500000000000)
  (hat:∀ (i:Nat) (hi:i<ts.length) (a:OA_) (c:Nat) (W:World),Below w.heap.size w W→aa_ S W (.slice a ts[i].args.length c) ts[i].args→Calls Tryz.prog f (#[tv ts[i] a c]++#[]) W (cA_ W (p ts[i]))) :
  Calls Tryz.prog 54 #[.slice a ts.length c,.func (.func f) #[] #[]] w (cA_ w (ts.any p)):=by
 have CI:=hid (nf_ f hf p ts S a c w hA hS hl hat);clear hA hS hat hf;go_enter Tryz.func54,Tryz.ntmps54;go_wp2_with fail;refine CI.out.mono ?_;rintro e w4 ⟨k,rfl,hk,hb4⟩;have B4':=hid hb4;have HK:=hid hk;clear hb4 hk;go_wp2;go_ret;exact⟨bd_ HK.out,B4'.out⟩
theorem lH_ (args:Array Value)(w:World):(callFunc 24 args).run Tryz.prog w=.ok (.enter 24 args) w :=
 enters_of Tryz.func24 (by kernel_rfl) rfl args w
theorem kl_:∀ (t:Ty) (S:Nat→Prop) (a:OA_) (c:Nat) (w:World),aa_ S w (.slice a t.args.length c) t.args→(∀ b,S b→b<w.heap.size)→t.size≤4500000000000 →
  Calls Tryz.prog 24 #[tv t a c] w (cA_ w (eR_ t)):=by
 intro t
 induction t using Ty.ind with
 | h t ih =>
  intro S a c w hA hS hs;have hz:=aw_ w (.cells #[.int .i64 t.kind,.string t.name,.int .i64 t.n,.slice a t.args.length c] 37);have b4:=B4.new w (.int .i64 t.kind) (.string t.name) (.int .i64 t.n) (.slice a t.args.length c);have c0:=b4.c0;have c3:=b4.c3;have hsz:∀ x∈t.args,x.size≤4500000000000:=fun x hx=>by have:=bx_ _ hx;rw[t.size_eq] at hs;omega
  have hll:t.args.length≤4500000000000:=by have:=bi_ t.args;rw[t.size_eq] at hs;omega
  have hpe:=km_ t;cases h5:(t.kind==5) with
  | true =>
   rw[h5,Bool.true_or] at hpe;have PE:=hid hpe;have HZ:=hid hz;unfold tv at *;clear hz b4 hA hS ih hpe hsz;go_enter Tryz.func24,Tryz.ntmps24;go_wp2;go_ret;exact⟨bd_ PE.out.symm,HZ.out⟩
  | false =>
   rw[h5,Bool.false_or] at hpe;have PE:=hid hpe;have HZ:=hid hz;have CI:=hid (id_ 24 lH_ eR_ t.args S a c _ (hA.keep fun b hb=>hz.block b (hS b hb)) (fun b hb=>ba_ (hS b hb) hz.size) hll
    fun i hi a' c' W hW hA'=>ih _ (List.getElem_mem hi) S a' c' W hA' (fun b hb=>ba_ (ba_ (hS b hb) hz.size) hW.size) (hsz _ (List.getElem_mem hi)))
   unfold tv at *;clear hz b4 hA hS ih hpe hsz;go_enter Tryz.func24,Tryz.ntmps24;go_wp2_with fail;refine CI.out.mono ?_;rintro e w4 ⟨rfl,hb4⟩;have B4':=hid (HZ.out.trans (hb4.mono HZ.out.size));clear hb4;go_wp2;go_ret;exact⟨bd_ PE.out.symm,B4'.out⟩
theorem lc_:∀ (t:Ty) (S:Nat→Prop) (a:OA_) (c:Nat) (w:World),aa_ S w (.slice a t.args.length c) t.args→(∀ b,S b→b<w.heap.size)→t.depth≤100000 →
  Calls Tryz.prog 57 #[tv t a c] w (jW_ w t.depth):=by
 intro t
 induction t using Ty.ind with
 | h t ih =>
  intro S a c w hA hS hd;have hl:t.args.length≤9223372036854775807:=by
   obtain⟨_,_,_,h⟩:=hA.form;exact h
  have hz:=aw_ w (.cells #[.int .i64 t.kind,.string t.name,.int .i64 t.n,.slice a t.args.length c] 43);have K4:=hid (R4.new w (.int .i64 t.kind) (.string t.name) (.int .i64 t.n) (.slice a t.args.length c));have HZ:=hid hz;have IH:=hid ih;have AH:=hid hA;have HN:=hid hS;have DE:=hid t.depth_eq;unfold tv;clear ih hA hS hz;go_enter Tryz.func57,Tryz.ntmps57;go_wp2
  go_loopw [3,4] (fun mv iv wr=>∃ i:Nat,iv=.int .i64 i∧i≤t.args.length∧mv=.int .i64 (ar_ (t.args.take i):Nat)∧Below (w.alloc (.cells #[.int .i64 t.kind,.string t.name,.int .i64 t.n,.slice a t.args.length c] 43)).heap.size (w.alloc (.cells #[.int .i64 t.kind,.string t.name,.int .i64 t.n,.slice a t.args.length c] 43)) wr) (fun _ iv _=>t.args.length - (intOf iv).toNat)
  case atStart=>exact⟨0,rfl,Nat.zero_le _,by simp[ar_],Below.refl _ _⟩
  case round =>
   obtain⟨i,rfl,hil,rfl,hB⟩:=hrel;have z0:(0:Int)≤(i:Int):=(by omega);have hBw:=HZ.out.trans (hB.mono HZ.out.size);have k3:=(K4.out.low hB).c3;have BW:=hid hBw;have BH:=hid hB
   by_cases hi:i<t.args.length
   ·have z1:(i:Int)<(t.args.length:Int):=by omega
    obtain⟨b,off,a',cap',rfl,hb,hf,hs⟩:=AH.out.at_ hi;obtain⟨f0,f1,f2,f3⟩:=hf.keep (hBw.block b (HN.out b hb));have hm:=List.getElem_mem hi;have hdi:=av_ _ hm;have hdt:=gN_ _ _ hi;have CH:=hid (IH.out _ hm S a' cap' wr (hs.keep fun b hS=>hBw.block b (HN.out b hS)) (fun b hS=>ba_ (HN.out b hS) hBw.size) (by have:=DE.out;omega));have DT:=hid hdt;have hdd:t.args[i].depth≤100000:=(by have:=DE.out;omega);have hdl:ar_ (t.args.take i)≤ar_ t.args:=by
     conv=>rhs;rw[← List.take_append_drop i t.args,cV_]
     omega
    have hdl2:ar_ (t.args.take i)≤100000:=(by have:=DE.out;omega);unfold tv at CH;clear hf hs hB hBw hm hdi hdt hdl hb;generalize t.args[i]=x at *;generalize ar_ (t.args.take i)=m at *;go_wp2_with fail;refine CH.out.mono ?_;rintro e w4 ⟨rfl,B4⟩;have B5:=hid (BH.out.trans (B4.mono BH.out.size));have em:(if m<x.depth then (x.depth:Int) else (m:Int))=((max m x.depth:Nat):Int):=by split<;>omega
    clear B4;go_wp2;go_roundw
    case rel=>exact⟨i+1,by go_num,by omega,by rw[DT.out];congr 1;omega,B5.out⟩
    case measure=>simp[intOf];omega
   ·obtain rfl:i=t.args.length:=by omega
    have hdl2:ar_ t.args≤100000:=(by have:=DE.out;omega);clear hB hBw;go_wp2;go_ret;exact⟨bc_ (by rw[DE.out];omega),BW.out⟩
mutual
def nsT:Ty→Nat
 | .mk k _ _ args=>(if k=1∨k=2 then 1 else 0)+nsL args
def nsL:List Ty→Nat
 | []=>0
 | t :: ts=>nsT t+nsL ts
end
theorem gv_ (t:Ty):nsT t=(if t.kind=1∨t.kind=2 then 1 else 0)+nsL t.args:=by
 cases t with
 | mk k s n args=>rw[nsT];rfl
theorem hs_ (a b:List Ty):nsL (a++b)=nsL a+nsL b:=by
 induction a with
 | nil=>rw[List.nil_append,nsL,Nat.zero_add]
 | cons t ts ih=>rw[List.cons_append,nsL,nsL,ih];omega
theorem oJ_ (ts:List Ty)(i:Nat)(h:i<ts.length):nsL (ts.take (i+1))=nsL (ts.take i)+nsT ts[i]:=by
 rw[List.take_add_one,List.getElem?_eq_getElem h,hs_];simp[nsL]
theorem jD_ (ts:List Ty)(i:Nat):nsL (ts.take i)≤nsL ts:=by
 conv=>rhs;rw[← List.take_append_drop i ts,hs_]
 omega
theorem qH_:∀ t:Ty,nsT t≤t.size:=by
 intro t
 induction t using Ty.ind with
 | h t ih =>
  rw[gv_,t.size_eq];have:∀ l:List Ty,(∀ a∈l,nsT a≤a.size)→nsL l≤af_ l:=by
   intro l
   induction l with
   | nil=>intro _;exact aC_ _
   | cons a l ihl =>
    intro h;rw[nsL,af_];have:=h a (by simp);have:=ihl fun b hb=>h b (by simp[hb]);omega
  have:=this _ ih
  split<;>omega
theorem hj_:∀ (t:Ty) (S:Nat→Prop) (a:OA_) (c:Nat) (w:World),aa_ S w (.slice a t.args.length c) t.args→(∀ b,S b→b<w.heap.size)→nsT t≤1000000 →
  Calls Tryz.prog 31 #[tv t a c] w (jW_ w (nsT t)):=by
 intro t
 induction t using Ty.ind with
 | h t ih =>
  intro S a c w hA hS hd;have hl:t.args.length≤9223372036854775807:=by
   obtain⟨_,_,_,h⟩:=hA.form;exact h
  have hz:=aw_ w (.cells #[.int .i64 t.kind,.string t.name,.int .i64 t.n,.slice a t.args.length c] 43);have k4:=R4.new w (.int .i64 t.kind) (.string t.name) (.int .i64 t.n) (.slice a t.args.length c);have c0:=k4.c0;have K4:=hid k4;have HZ:=hid hz;have IH:=hid ih;have AH:=hid hA;have HN:=hid hS;have hcase:∃ q:Nat,q≤1∧nsT t=q+nsL t.args∧(((t.kind==1)=true∧q=1)∨((t.kind==1)=false∧(t.kind==2)=true∧q=1)∨((t.kind==1)=false∧(t.kind==2)=false∧q=0)):=by
   by_cases h1:t.kind=1
   ·exact⟨1,by omega,by rw[gv_,if_pos (.inl h1)],.inl ⟨by simp[h1],rfl⟩⟩
   ·by_cases h2:t.kind=2
    ·exact⟨1,by omega,by rw[gv_,if_pos (.inr h2)],.inr (.inl ⟨by simp[h2],by simp[h2],rfl⟩)⟩
    ·exact⟨0,by omega,by rw[gv_,if_neg (by omega)],.inr (.inr ⟨by simp[h1],by simp[h2],rfl⟩)⟩
  obtain⟨q,hq,hne,hcs⟩:=hcase;have DE:=hid hne;have HQ:=hid hq;have HD:=hid hd;unfold tv;clear ih hA hS hz k4 hne hq hd;go_enter Tryz.func31,Tryz.ntmps31
  rcases hcs with ⟨h1,hq1⟩|⟨h1,h2,hq1⟩|⟨h1,h2,hq1⟩
  all_goals
   have E:=hid hq1;clear hq1;go_wp2;clear c0
   go_loopw [3,4] (fun mv iv wr=>∃ i:Nat,iv=.int .i64 i∧i≤t.args.length∧mv=.int .i64 ((q+nsL (t.args.take i):Nat):Int)∧Below (w.alloc (.cells #[.int .i64 t.kind,.string t.name,.int .i64 t.n,.slice a t.args.length c] 43)).heap.size (w.alloc (.cells #[.int .i64 t.kind,.string t.name,.int .i64 t.n,.slice a t.args.length c] 43)) wr) (fun _ iv _=>t.args.length - (intOf iv).toNat)
   case atStart=>exact⟨0,rfl,Nat.zero_le _,by rw[E.out];rfl,Below.refl _ _⟩
   case round =>
    obtain⟨i,rfl,hil,rfl,hB⟩:=hrel;have z0:(0:Int)≤(i:Int):=(by omega);have hBw:=HZ.out.trans (hB.mono HZ.out.size);have k3:=(K4.out.low hB).c3;have BW:=hid hBw;have BH:=hid hB
    by_cases hi:i<t.args.length
    ·have z1:(i:Int)<(t.args.length:Int):=by omega
     obtain⟨b,off,a',cap',rfl,hb,hf,hs⟩:=AH.out.at_ hi;obtain⟨f0,f1,f2,f3⟩:=hf.keep (hBw.block b (HN.out b hb));have hm:=List.getElem_mem hi;have hdt:=oJ_ _ _ hi;have hle:=jD_ t.args (i+1);have hb1:q+nsL (t.args.take i)+nsT t.args[i]≤1000000:=(by have:=DE.out;have:=HD.out;omega);have CH:=hid (IH.out _ hm S a' cap' wr (hs.keep fun b hS=>hBw.block b (HN.out b hS)) (fun b hS=>ba_ (HN.out b hS) hBw.size) (by omega));have DT:=hid hdt;unfold tv at CH;clear hf hs hB hBw hm hdt hb hle;generalize t.args[i]=x at *;generalize nsL (t.args.take i)=m at *;have e1:((q+m:Nat):Int)=(q:Int)+(m:Int):=(by omega);rw[e1];have y0:(0:Int)≤(q:Int):=(by omega);have y1:(0:Int)≤(m:Int):=(by omega);have y2:(0:Int)≤(nsT x:Int):=(by omega);have y3:(q:Int)+(m:Int)+(nsT x:Int)≤1000000:=(by omega);go_wp2_with fail;refine CH.out.mono ?_;rintro e w4 ⟨rfl,B4⟩;have B5:=hid (BH.out.trans (B4.mono BH.out.size));clear B4;go_wp2;go_roundw
     case rel=>exact⟨i+1,by go_num,by omega,by rw[DT.out];congr 1;omega,B5.out⟩
     case measure=>simp[intOf];omega
    ·obtain rfl:i=t.args.length:=by omega
     clear hB hBw;go_wp2;go_ret;exact⟨bc_ (by rw[DE.out,List.take_length]),BW.out⟩
end
end Go.Proofs.YtjecnionbjlncaaGreatDoor.Tp

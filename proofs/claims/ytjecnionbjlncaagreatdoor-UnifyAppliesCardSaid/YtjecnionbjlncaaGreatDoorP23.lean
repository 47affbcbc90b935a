/- Packed. -/
import Derived.Test.YtjecnionbjlncaaGreatDoorP22
set_option maxRecDepth 100000
set_option maxHeartbeats 6400000
namespace Go.Proofs.YtjecnionbjlncaaGreatDoor.Tp
section
open Lx
def kR_ (x:ByteArray):Prop:=fk_ x.data.toList∧bd_ (x.data.toList.headD 0)=true∧ky_.contains x.data.toList=false
theorem nz_ (u:Nat)(h:u<1000000000000):(Lib.decDigits u).length≤12:=(bQ_ u).2.2.2 12 (by omega) h
theorem fN_ {c:UInt8}(h:aE_ c=true):aT_ c=true:=by simp[aT_,h]
theorem kV_ (n:Nat):(aP_ n).data.toList=120 :: Lib.decDigits n:=by
 unfold aP_;rw[Lib.itoa_nonneg,ByteArray.data_append];simp[ab_]
theorem fK_ (x:ByteArray)(h:kR_ x):Mk (.mk 1 x 0 []):=by
 have:=p7_ (s:=x.data.toList) h;unfold k6_ at this;rwa [fe_] at this
theorem cn_mk (f:Nat→ByteArray)(free:List ByteArray)(B:Nat)(hB:∀ j,j<B→kR_ (f j)):∀ (t:Ty) (env env':List ByteArray) (k:Nat),env'.length=env.length→Mk t→(∀ x∈env',kR_ x)→(cnT f free env' k (dbT env t)).2≤B→Mk (cnT f free env' k (dbT env t)).1:=by
 intro t
 induction t using Ty.ind with
 | h t ih =>
  have hl:∀ (l:List Ty) (env env':List ByteArray) (k:Nat),(∀ a∈l,∀ (env env':List ByteArray) (k:Nat),env'.length=env.length→Mk a→(∀ x∈env',kR_ x)→(cnT f free env' k (dbT env a)).2≤B→Mk (cnT f free env' k (dbT env a)).1) →
    env'.length=env.length→(∀ a∈l,Mk a)→(∀ x∈env',kR_ x)→(cnL f free env' k (l.map (dbT env))).2≤B→(cnL f free env' k (l.map (dbT env))).1.length=l.length∧∀ a∈(cnL f free env' k (l.map (dbT env))).1,Mk a:=by
   intro l
   induction l with
   | nil=>intro env env' k _ _ _ _ _;simp[cnL]
   | cons a l ihl =>
    intro env env' k hi h1 h2 h3 h4;rw[List.map_cons,cnL] at h4 ⊢;simp only at h4 ⊢;have hm:(cnT f free env' k (dbT env a)).2≤(cnL f free env' (cnT f free env' k (dbT env a)).2 (l.map (dbT env))).2:=by
     generalize (cnT f free env' k (dbT env a)).2=k';generalize l.map (dbT env)=l';clear ihl hi h1 h2 h3 h4
     induction l' generalizing k' with
     | nil=>simp[cnL]
     | cons b l' ih' =>
      rw[cnL];have:=h3_ f free b env' k';have:=ih' (cnT f free env' k' b).2;simp only;omega
    obtain⟨e1,e2⟩:=ihl env env' _ (fun b hb=>hi b (by simp[hb])) h1 (fun b hb=>h2 b (by simp[hb])) h3 h4;refine⟨by simp[e1],fun b hb=>?_⟩
    rcases List.mem_cons.1 hb with rfl|hb
    ·exact hi a (by simp) env env' k h1 (h2 a (by simp)) h3 (by omega)
    ·exact e2 b hb
  intro env env' k h1 hs h2 hb;have hsa:∀ a∈t.args,Mk a:=fun a ha=>⟨hs.1.args a ha,((bR_ t).1 hs.2).2 a ha⟩;have hlx:=((bR_ t).1 hs.2).1
  by_cases h5:t.kind=5
  ·rw[aM_ _ _ h5,lN_] at hb ⊢
   simp only at hb ⊢;have hk:nx f free k<B:=by
    have:∀ (l':List Ty) (e:List ByteArray) (k':Nat),k'≤(cnL f free e k' l').2:=by
     intro l'
     induction l' with
     | nil=>intro e k';simp[cnL]
     | cons b l' ih' =>
      intro e k';rw[cnL];have:=h3_ f free b e k';have:=ih' e (cnT f free e k' b).2;simp only;omega
    have:=this (t.args.map (dbT (t.name :: env))) (f (nx f free k) :: env') (nx f free k+1);omega
   have hN:=hB _ hk;obtain⟨e1,e2⟩:=hl t.args (t.name :: env) (f (nx f free k) :: env') (nx f free k+1) ih (by simp[h1]) hsa (fun x hx=>by
    rcases List.mem_cons.1 hx with rfl|hx
    ·exact hN
    ·exact h2 x hx) hb
   generalize (cnL f free (f (nx f free k) :: env') (nx f free k+1) (t.args.map (dbT (t.name :: env)))).1=l at *;have hl1:l.length=1:=by rw[e1];exact (hs.1.k5 h5).2
   match l,hl1 with
   | [b],_ =>
    have:=p9_ hN (e2 b (by simp));unfold ex_ at this;rwa [fe_] at this
  ·by_cases h1':t.kind=1
   ·obtain⟨hn0,ha⟩:=hs.1.k1 h1'
    rw[aS_ _ _ h1',hn0,fd_];cases hi:ixN env t.name with
    | none=>exact fK_ _ (hlx.1 (.inl h1'))
    | some i =>
     have hg:=fA_ _ _ _ hi;have hlt:i<env'.length:=by rw[h1];exact (List.getElem?_eq_some_iff.1 hg).1
     show Mk (.mk 1 (env'.getD i emp) 0 []);refine fK_ _ (h2 _ ?_);rw[List.getD_eq_getElem?_getD,List.getElem?_eq_getElem hlt];exact List.getElem_mem hlt
   ·have hk:=hs.1.kind
    rw[aw_ _ _ h1' h5,cF_ _ _ _ _ _ _ _ _ (by omega) h5] at hb ⊢;simp only at hb ⊢;obtain⟨e1,e2⟩:=hl t.args env env' k ih h1 hsa h2 hb;have hw:=db_ hs.1 (cnL f free env' k (t.args.map (dbT env))).1 e1 fun a ha=>(e2 a ha).1;refine⟨hw,(bR_ _).2 ⟨?_,fun a ha=>(e2 a ha).2⟩⟩;exact⟨fun e=>hlx.1 e,fun e=>hlx.2.1 e,fun e=>hlx.2.2 e⟩
theorem eS_ {t u:Ty}(ht:Std t)(hu:Std u)(e:dbT [] t=dbT [] u):cf_ t=cf_ u:=by
 rw[dx_ t ht,dx_ u hu,hU_ t ht,hU_ u hu,e]
mutual
def eL_:Ty→Bool
 | .mk k _ _ args=>k==5 || oX_ args
def oX_:List Ty→Bool
 | []=>false
 | t :: ts=>eL_ t || oX_ ts
end
theorem mR_ (ts:List Ty):oX_ ts=ts.any eL_:=by
 induction ts with
 | nil=>rfl
 | cons t ts ih=>rw[oX_,ih];rfl
theorem kl_ (t:Ty):eL_ t=(t.kind==5 || t.args.any eL_):=by
 cases t with
 | mk k s n args=>rw[eL_,mR_];rfl
theorem n3_ (nm:ByteArray)(u:Ty)(hu:bF_ u)(hus:u.size≤50000000000):∀ (d:Nat) (t:Ty),t.depth≤d→bF_ t→t.size≤50000000000→bF_ (ee_ d nm u t):=by
 intro d
 induction d with
 | zero=>intro t h;rw[t.depth_eq] at h;omega
 | succ d ih =>
  intro t h hg hs;have hd:∀ a∈t.args,a.depth≤d∧a.size≤50000000000:=fun a ha=>by
   have:=aF_ _ ha;have:=a6_ _ ha;rw[t.depth_eq] at h;rw[t.size_eq] at hs;omega
  rw[ee_]
  split
  ·exact hg
  ·split
   ·exact hu
   ·split
    ·next hc =>
     simp only[Bool.and_eq_true,beq_iff_eq] at hc;obtain⟨b,hb,hb0⟩:=iq_ hg.1 hc.1;have hbm:b∈t.args:=by rw[hb];simp
     have hnm:=((cd_ t).1 hg.2).1;unfold dS_;rw[hb0];have hfl:=a0_ u;have hfb:=a0_ b;have hbs:=(hd b hbm).2;have hfs:=cy_ t.name (af_ u++af_ b++[t.name,nm]) (by simp;omega) (hnm.1 hc.1);generalize ba_ t.name (af_ u++af_ b++[t.name,nm])=n at *;obtain⟨a1,a2,a3,a4⟩:=cT_ t.name n b (bq_ hg b hbm) hfs.2 (by omega);have:=ih (cb_ t.name n b) (by rw[a1];exact (hd b hbm).1) a3 (by omega);exact ep_ hfs.1 hfs.2 this
    ·refine fa_ hg _ (by simp) fun a ha=>?_
     obtain⟨b,hb,rfl⟩:=List.mem_map.1 ha;exact ih b (hd b hb).1 (bq_ hg b hb) (hd b hb).2
theorem mK_ (u:Ty)(free:List ByteArray)(is:Ty→Bool)(hu:bF_ u)(hfl:free.length≤50000000000):∀ (d:Nat) (t:Ty),t.depth≤d→bF_ t→t.size≤50000000000→bF_ (dW_ d u free is t):=by
 intro d
 induction d with
 | zero=>intro t h;rw[t.depth_eq] at h;omega
 | succ d ih =>
  intro t h hg hs;have hd:∀ a∈t.args,a.depth≤d∧a.size≤50000000000:=fun a ha=>by
   have:=aF_ _ ha;have:=a6_ _ ha;rw[t.depth_eq] at h;rw[t.size_eq] at hs;omega
  rw[dW_]
  split
  ·exact hu
  ·split
   ·next hc =>
    simp only[Bool.and_eq_true,beq_iff_eq] at hc;obtain⟨b,hb,hb0⟩:=iq_ hg.1 hc.1;have hbm:b∈t.args:=by rw[hb];simp
    have hnm:=((cd_ t).1 hg.2).1;unfold dS_;rw[hb0];have hfb:=a0_ b;have hbs:=(hd b hbm).2;have hfs:=cy_ t.name (free++af_ b++[t.name]) (by simp;omega) (hnm.1 hc.1);generalize ba_ t.name (free++af_ b++[t.name])=n at *;obtain⟨a1,a2,a3,a4⟩:=cT_ t.name n b (bq_ hg b hbm) hfs.2 (by omega);have:=ih (cb_ t.name n b) (by rw[a1];exact (hd b hbm).1) a3 (by omega);exact ep_ hfs.1 hfs.2 this
   ·refine fa_ hg _ (by simp) fun a ha=>?_
    obtain⟨b,hb,rfl⟩:=List.mem_map.1 ha;exact ih b (hd b hb).1 (bq_ hg b hb) (hd b hb).2
theorem n1_ (nm:ByteArray)(u t:Ty)(ht:bF_ t)(hu:bF_ u)(hs:t.size≤50000000000)(hus:u.size≤50000000000):bF_ (ii_ nm u t):=n3_ nm u hu hus _ _ (aD_ _) ht hs
theorem er_ (m:Int)(u t:Ty)(ht:bF_ t)(hu:bF_ u)(hs:t.size≤50000000000)(hus:u.size≤50000000000):bF_ (co_ m u t):=mK_ u _ _ hu (by have:=a0_ u;omega) _ _ (aD_ _) ht hs
end
section
open Go.RowKit
def ca_ (w:World)(b:Bool)(e:Ending)(w':World):Prop:=e=.returned (.bool b)∧Below w.heap.size w w'
def jX_ (w:World)(b:Bool)(e:Ending)(w':World):Prop:=∃ k:Int,e=.returned (.int .i64 k)∧decide (0≤k)=b∧Below w.heap.size w w'
theorem h9_ (l:List Ty)(p:Ty→Bool)(k:Nat)(h:k<l.length):(l.take (k+1)).any p=((l.take k).any p || p l[k]):=by
 rw[List.take_add_one,List.getElem?_eq_getElem h,List.any_append];simp only[Option.toList_some,List.any_cons,List.any_nil,Bool.or_false]
theorem nl_ (f:FuncId)(hf:∀ args w,(callFunc f args).run Tryz.prog w=.ok (.enter f args) w)(p:Ty→Bool)(ts:List Ty)(S:Nat→Prop)(a:OA_)(c:Nat)(w:World)(hA:aa_ S w (.slice a ts.length c) ts)(hS:∀ b,S b→b<w.heap.size)(hl:ts.length≤4500000000000)
  (hat:∀ (i:Nat) (hi:i<ts.length) (a:OA_) (c:Nat) (W:World),Below w.heap.size w W→aa_ S W (.slice a ts[i].args.length c) ts[i].args→Calls Tryz.prog f (#[tv ts[i] a c]++#[]) W (ca_ W (p ts[i]))) :
  Calls Tryz.prog 93 #[.slice a ts.length c,.func (.func f) #[] #[]] w (jX_ w (ts.any p)):=by
 have HA:=hid hA;have HS:=hid hS;have HAT:=hid hat;clear hA hS hat;go_enter Tryz.func93,Tryz.ntmps93;go_wp2
 go_loopw [8] (fun iv wr=>∃ i:Nat,iv=.int .i64 i∧i≤ts.length∧(ts.take i).any p=false∧Below w.heap.size w wr) (fun iv _=>ts.length - (intOf iv).toNat)
 case atStart=>exact⟨0,rfl,Nat.zero_le _,rfl,Below.refl _ _⟩
 case round =>
  obtain⟨i,rfl,hil,hno,hB⟩:=hrel;have NO:=hid hno;have HB:=hid hB;clear hno
  by_cases hi:i<ts.length
  ·have z0:(0:Int)≤(i:Int):=by omega
   have z1:(i:Int)<(ts.length:Int):=(by omega);obtain⟨b,off,a',c',rfl,hb,hf4,hs⟩:=HA.out.at_ hi;obtain⟨f0,f1,f2,f3⟩:=hf4.keep (hB.block b (HS.out b hb));have CF:=hid (HAT.out i hi a' c' wr hB (hs.keep fun b hb=>hB.block b (HS.out b hb)));have AT:=hid (h9_ ts p i hi);unfold tv at *;clear hB hf4 hs;go_wp2_with fail;refine CF.out.mono ?_;rintro e W4 ⟨rfl,hb4⟩;have B4':=hid (HB.out.trans (hb4.mono HB.out.size));clear hb4;cases hp:p ts[i] with
   | true =>
    have hany:Hid (ts.any p=true):=hid (List.any_eq_true.2 ⟨_,List.getElem_mem hi,hp⟩);clear hp;go_wp2;go_ret;exact⟨i,rfl,by rw[hany.out];exact decide_eq_true z0,B4'.out⟩
   | false =>
    have st:Hid ((ts.take (i+1)).any p=false):=hid (by rw[AT.out,NO.out,hp];rfl);clear hp;go_wp2;go_roundw
    case rel=>exact⟨i+1,by go_num,by omega,st.out,B4'.out⟩
    case measure=>simp[intOf];omega
  ·obtain rfl:i=ts.length:=by omega
   clear hB;go_wp2;go_ret;refine⟨-1,rfl,?_,HB.out⟩;have:=NO.out;rw[List.take_length] at this;rw[this];rfl
theorem h1_ (f:FuncId)(hf:∀ args w,(callFunc f args).run Tryz.prog w=.ok (.enter f args) w)(p:Ty→Bool)(ts:List Ty)(S:Nat→Prop)(a:OA_)(c:Nat)(w:World)(hA:aa_ S w (.slice a ts.length c) ts)(hS:∀ b,S b→b<w.heap.size)(hl:ts.length≤4500000000000)
  (hat:∀ (i:Nat) (hi:i<ts.length) (a:OA_) (c:Nat) (W:World),Below w.heap.size w W→aa_ S W (.slice a ts[i].args.length c) ts[i].args→Calls Tryz.prog f (#[tv ts[i] a c]++#[]) W (ca_ W (p ts[i]))) :
  Calls Tryz.prog 54 #[.slice a ts.length c,.func (.func f) #[] #[]] w (ca_ w (ts.any p)):=by
 have CI:=hid (nl_ f hf p ts S a c w hA hS hl hat);clear hA hS hat hf;go_enter Tryz.func54,Tryz.ntmps54;go_wp2_with fail;refine CI.out.mono ?_;rintro e w4 ⟨k,rfl,hk,hb4⟩;have B4':=hid hb4;have HK:=hid hk;clear hb4 hk;go_wp2;go_ret;exact⟨a7_ HK.out,B4'.out⟩
theorem lT_ (args:Array Value)(w:World):(callFunc 24 args).run Tryz.prog w=.ok (.enter 24 args) w :=
 enters_of Tryz.func24 (by kernel_rfl) rfl args w
theorem kk_:∀ (t:Ty) (S:Nat→Prop) (a:OA_) (c:Nat) (w:World),aa_ S w (.slice a t.args.length c) t.args→(∀ b,S b→b<w.heap.size)→t.size≤4500000000000 →
  Calls Tryz.prog 24 #[tv t a c] w (ca_ w (eL_ t)):=by
 intro t
 induction t using Ty.ind with
 | h t ih =>
  intro S a c w hA hS hs;have hz:=ar_ w (.cells #[.int .i64 t.kind,.string t.name,.int .i64 t.n,.slice a t.args.length c] 37);have b4:=B4.new w (.int .i64 t.kind) (.string t.name) (.int .i64 t.n) (.slice a t.args.length c);have c0:=b4.c0;have c3:=b4.c3;have hsz:∀ x∈t.args,x.size≤4500000000000:=fun x hx=>by have:=a6_ _ hx;rw[t.size_eq] at hs;omega
  have hll:t.args.length≤4500000000000:=by have:=aW_ t.args;rw[t.size_eq] at hs;omega
  have hpe:=kl_ t;cases h5:(t.kind==5) with
  | true =>
   rw[h5,Bool.true_or] at hpe;have PE:=hid hpe;have HZ:=hid hz;unfold tv at *;clear hz b4 hA hS ih hpe hsz;go_enter Tryz.func24,Tryz.ntmps24;go_wp2;go_ret;exact⟨a7_ PE.out.symm,HZ.out⟩
  | false =>
   rw[h5,Bool.false_or] at hpe;have PE:=hid hpe;have HZ:=hid hz;have CI:=hid (h1_ 24 lT_ eL_ t.args S a c _ (hA.keep fun b hb=>hz.block b (hS b hb)) (fun b hb=>aZ_ (hS b hb) hz.size) hll
    fun i hi a' c' W hW hA'=>ih _ (List.getElem_mem hi) S a' c' W hA' (fun b hb=>aZ_ (aZ_ (hS b hb) hz.size) hW.size) (hsz _ (List.getElem_mem hi)))
   unfold tv at *;clear hz b4 hA hS ih hpe hsz;go_enter Tryz.func24,Tryz.ntmps24;go_wp2_with fail;refine CI.out.mono ?_;rintro e w4 ⟨rfl,hb4⟩;have B4':=hid (HZ.out.trans (hb4.mono HZ.out.size));clear hb4;go_wp2;go_ret;exact⟨a7_ PE.out.symm,B4'.out⟩
theorem lm_:∀ (t:Ty) (S:Nat→Prop) (a:OA_) (c:Nat) (w:World),aa_ S w (.slice a t.args.length c) t.args→(∀ b,S b→b<w.heap.size)→t.depth≤100000 →
  Calls Tryz.prog 57 #[tv t a c] w (jW_ w t.depth):=by
 intro t
 induction t using Ty.ind with
 | h t ih =>
  intro S a c w hA hS hd;have hl:t.args.length≤9223372036854775807:=by
   obtain⟨_,_,_,h⟩:=hA.form;exact h
  have hz:=ar_ w (.cells #[.int .i64 t.kind,.string t.name,.int .i64 t.n,.slice a t.args.length c] 43);have K4:=hid (R4.new w (.int .i64 t.kind) (.string t.name) (.int .i64 t.n) (.slice a t.args.length c));have HZ:=hid hz;have IH:=hid ih;have AH:=hid hA;have HN:=hid hS;have DE:=hid t.depth_eq;unfold tv;clear ih hA hS hz;go_enter Tryz.func57,Tryz.ntmps57;go_wp2
  go_loopw [3,4] (fun mv iv wr=>∃ i:Nat,iv=.int .i64 i∧i≤t.args.length∧mv=.int .i64 (aA_ (t.args.take i):Nat)∧Below (w.alloc (.cells #[.int .i64 t.kind,.string t.name,.int .i64 t.n,.slice a t.args.length c] 43)).heap.size (w.alloc (.cells #[.int .i64 t.kind,.string t.name,.int .i64 t.n,.slice a t.args.length c] 43)) wr) (fun _ iv _=>t.args.length - (intOf iv).toNat)
  case atStart=>exact⟨0,rfl,Nat.zero_le _,by simp[aA_],Below.refl _ _⟩
  case round =>
   obtain⟨i,rfl,hil,rfl,hB⟩:=hrel;have z0:(0:Int)≤(i:Int):=(by omega);have hBw:=HZ.out.trans (hB.mono HZ.out.size);have k3:=(K4.out.low hB).c3;have BW:=hid hBw;have BH:=hid hB
   by_cases hi:i<t.args.length
   ·have z1:(i:Int)<(t.args.length:Int):=by omega
    obtain⟨b,off,a',cap',rfl,hb,hf,hs⟩:=AH.out.at_ hi;obtain⟨f0,f1,f2,f3⟩:=hf.keep (hBw.block b (HN.out b hb));have hm:=List.getElem_mem hi;have hdi:=aF_ _ hm;have hdt:=gA_ _ _ hi;have CH:=hid (IH.out _ hm S a' cap' wr (hs.keep fun b hS=>hBw.block b (HN.out b hS)) (fun b hS=>aZ_ (HN.out b hS) hBw.size) (by have:=DE.out;omega));have DT:=hid hdt;have hdd:t.args[i].depth≤100000:=(by have:=DE.out;omega);have hdl:aA_ (t.args.take i)≤aA_ t.args:=by
     conv=>rhs;rw[← List.take_append_drop i t.args,cS_]
     omega
    have hdl2:aA_ (t.args.take i)≤100000:=(by have:=DE.out;omega);unfold tv at CH;clear hf hs hB hBw hm hdi hdt hdl hb;generalize t.args[i]=x at *;generalize aA_ (t.args.take i)=m at *;go_wp2_with fail;refine CH.out.mono ?_;rintro e w4 ⟨rfl,B4⟩;have B5:=hid (BH.out.trans (B4.mono BH.out.size));have em:(if m<x.depth then (x.depth:Int) else (m:Int))=((max m x.depth:Nat):Int):=by split<;>omega
    clear B4;go_wp2;go_roundw
    case rel=>exact⟨i+1,by go_num,by omega,by rw[DT.out];congr 1;omega,B5.out⟩
    case measure=>simp[intOf];omega
   ·obtain rfl:i=t.args.length:=by omega
    have hdl2:aA_ t.args≤100000:=(by have:=DE.out;omega);clear hB hBw;go_wp2;go_ret;exact⟨bl_ (by rw[DE.out];omega),BW.out⟩
mutual
def nsT:Ty→Nat
 | .mk k _ _ args=>(if k=1∨k=2 then 1 else 0)+nsL args
def nsL:List Ty→Nat
 | []=>0
 | t :: ts=>nsT t+nsL ts
end
theorem iP_ (t:Ty):nsT t=(if t.kind=1∨t.kind=2 then 1 else 0)+nsL t.args:=by
 cases t with
 | mk k s n args=>rw[nsT];rfl
theorem hb_ (a b:List Ty):nsL (a++b)=nsL a+nsL b:=by
 induction a with
 | nil=>rw[List.nil_append,nsL,Nat.zero_add]
 | cons t ts ih=>rw[List.cons_append,nsL,nsL,ih];omega
theorem o9_ (ts:List Ty)(i:Nat)(h:i<ts.length):nsL (ts.take (i+1))=nsL (ts.take i)+nsT ts[i]:=by
 rw[List.take_add_one,List.getElem?_eq_getElem h,hb_];simp[nsL]
theorem jF_ (ts:List Ty)(i:Nat):nsL (ts.take i)≤nsL ts:=by
 conv=>rhs;rw[← List.take_append_drop i ts,hb_]
 omega
theorem rf_:∀ t:Ty,nsT t≤t.size:=by
 intro t
 induction t using Ty.ind with
 | h t ih =>
  rw[iP_,t.size_eq];have:∀ l:List Ty,(∀ a∈l,nsT a≤a.size)→nsL l≤aj_ l:=by
   intro l
   induction l with
   | nil=>intro _;exact aD_ _
   | cons a l ihl =>
    intro h;rw[nsL,aj_];have:=h a (by simp);have:=ihl fun b hb=>h b (by simp[hb]);omega
  have:=this _ ih
  split<;>omega
theorem g2_:∀ (t:Ty) (S:Nat→Prop) (a:OA_) (c:Nat) (w:World),aa_ S w (.slice a t.args.length c) t.args→(∀ b,S b→b<w.heap.size)→nsT t≤1000000 →
  Calls Tryz.prog 31 #[tv t a c] w (jW_ w (nsT t)):=by
 intro t
 induction t using Ty.ind with
 | h t ih =>
  intro S a c w hA hS hd;have hl:t.args.length≤9223372036854775807:=by
   obtain⟨_,_,_,h⟩:=hA.form;exact h
  have hz:=ar_ w (.cells #[.int .i64 t.kind,.string t.name,.int .i64 t.n,.slice a t.args.length c] 43);have k4:=R4.new w (.int .i64 t.kind) (.string t.name) (.int .i64 t.n) (.slice a t.args.length c);have c0:=k4.c0;have K4:=hid k4;have HZ:=hid hz;have IH:=hid ih;have AH:=hid hA;have HN:=hid hS;have hcase:∃ q:Nat,q≤1∧nsT t=q+nsL t.args∧(((t.kind==1)=true∧q=1)∨((t.kind==1)=false∧(t.kind==2)=true∧q=1)∨((t.kind==1)=false∧(t.kind==2)=false∧q=0)):=by
   by_cases h1:t.kind=1
   ·exact⟨1,by omega,by rw[iP_,if_pos (.inl h1)],.inl ⟨by simp[h1],rfl⟩⟩
   ·by_cases h2:t.kind=2
    ·exact⟨1,by omega,by rw[iP_,if_pos (.inr h2)],.inr (.inl ⟨by simp[h2],by simp[h2],rfl⟩)⟩
    ·exact⟨0,by omega,by rw[iP_,if_neg (by omega)],.inr (.inr ⟨by simp[h1],by simp[h2],rfl⟩)⟩
  obtain⟨q,hq,hne,hcs⟩:=hcase;have DE:=hid hne;have HQ:=hid hq;have HD:=hid hd;unfold tv;clear ih hA hS hz k4 hne hq hd;go_enter Tryz.func31,Tryz.ntmps31
  rcases hcs with ⟨h1,hq1⟩|⟨h1,h2,hq1⟩|⟨h1,h2,hq1⟩
  all_goals
   have E:=hid hq1;clear hq1;go_wp2;clear c0
   go_loopw [3,4] (fun mv iv wr=>∃ i:Nat,iv=.int .i64 i∧i≤t.args.length∧mv=.int .i64 ((q+nsL (t.args.take i):Nat):Int)∧Below (w.alloc (.cells #[.int .i64 t.kind,.string t.name,.int .i64 t.n,.slice a t.args.length c] 43)).heap.size (w.alloc (.cells #[.int .i64 t.kind,.string t.name,.int .i64 t.n,.slice a t.args.length c] 43)) wr) (fun _ iv _=>t.args.length - (intOf iv).toNat)
   case atStart=>exact⟨0,rfl,Nat.zero_le _,by rw[E.out];rfl,Below.refl _ _⟩
   case round =>
    obtain⟨i,rfl,hil,rfl,hB⟩:=hrel;have z0:(0:Int)≤(i:Int):=(by omega);have hBw:=HZ.out.trans (hB.mono HZ.out.size);have k3:=(K4.out.low hB).c3;have BW:=hid hBw;have BH:=hid hB
    by_cases hi:i<t.args.length
    ·have z1:(i:Int)<(t.args.length:Int):=by omega
     obtain⟨b,off,a',cap',rfl,hb,hf,hs⟩:=AH.out.at_ hi;obtain⟨f0,f1,f2,f3⟩:=hf.keep (hBw.block b (HN.out b hb));have hm:=List.getElem_mem hi;have hdt:=o9_ _ _ hi;have hle:=jF_ t.args (i+1);have hb1:q+nsL (t.args.take i)+nsT t.args[i]≤1000000:=(by have:=DE.out;have:=HD.out;omega);have CH:=hid (IH.out _ hm S a' cap' wr (hs.keep fun b hS=>hBw.block b (HN.out b hS)) (fun b hS=>aZ_ (HN.out b hS) hBw.size) (by omega));have DT:=hid hdt;unfold tv at CH;clear hf hs hB hBw hm hdt hb hle;generalize t.args[i]=x at *;generalize nsL (t.args.take i)=m at *;have e1:((q+m:Nat):Int)=(q:Int)+(m:Int):=(by omega);rw[e1];have y0:(0:Int)≤(q:Int):=(by omega);have y1:(0:Int)≤(m:Int):=(by omega);have y2:(0:Int)≤(nsT x:Int):=(by omega);have y3:(q:Int)+(m:Int)+(nsT x:Int)≤1000000:=(by omega);go_wp2_with fail;refine CH.out.mono ?_;rintro e w4 ⟨rfl,B4⟩;have B5:=hid (BH.out.trans (B4.mono BH.out.size));clear B4;go_wp2;go_roundw
     case rel=>exact⟨i+1,by go_num,by omega,by rw[DT.out];congr 1;omega,B5.out⟩
     case measure=>simp[intOf];omega
    ·obtain rfl:i=t.args.length:=by omega
     clear hB hBw;go_wp2;go_ret;exact⟨bl_ (by rw[DE.out,List.take_length]),BW.out⟩
end
end Go.Proofs.YtjecnionbjlncaaGreatDoor.Tp

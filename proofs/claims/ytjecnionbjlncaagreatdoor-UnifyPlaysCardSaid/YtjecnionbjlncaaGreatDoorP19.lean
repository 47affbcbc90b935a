/- Packed. -/
import Derived.Test.YtjecnionbjlncaaGreatDoorP17
import Derived.Test.YtjecnionbjlncaaGreatDoorP18
set_option maxRecDepth 100000
set_option maxHeartbeats 6400000
namespace Go.Proofs.YtjecnionbjlncaaGreatDoor.Tp
section
def dD_ (t:Ty):Ty:=.mk t.kind t.name t.n []
section
variable (p : Ty → Bool) (U : Ty)
mutual
def sbT:Ty→Ty
 | .mk k s n args=>if p (.mk k s n []) then U else .mk k s n (sbL args)
def sbL:List Ty→List Ty
 | []=>[]
 | t :: ts=>sbT t :: sbL ts
end
theorem nh_ (ts:List Ty):sbL p U ts=ts.map (sbT p U):=by
 induction ts with
 | nil=>simp[sbL]
 | cons t ts ih=>rw[sbL,ih];rfl
theorem fm_ (t:Ty):sbT p U t=if p (dD_ t) then U else .mk t.kind t.name t.n (t.args.map (sbT p U)):=by
 cases t with
 | mk k s n args=>rw[sbT,nh_];rfl
theorem cC_ (k:Int)(s:ByteArray)(n:Int)(args:List Ty):sbT p U (.mk k s n args)=if p (.mk k s n []) then U else .mk k s n (args.map (sbT p U)):=by rw[sbT,nh_]
end
section
variable (p : Ty → Bool)
mutual
def noP:Ty→Prop
 | .mk k s n args=>p (.mk k s n [])=false∧noL args
def noL:List Ty→Prop
 | []=>True
 | t :: ts=>noP t∧noL ts
end
theorem n6_ (ts:List Ty):noL p ts↔∀ t∈ts,noP p t:=by
 induction ts with
 | nil=>simp[noL]
 | cons t ts ih=>rw[noL,ih];simp
theorem gQ_ (t:Ty):noP p t↔p (dD_ t)=false∧∀ a∈t.args,noP p a:=by
 cases t with
 | mk k s n args=>rw[noP,n6_];rfl
theorem eW_ (k:Int)(s:ByteArray)(n:Int)(args:List Ty):noP p (.mk k s n args)↔p (.mk k s n [])=false∧∀ a∈args,noP p a:=by rw[noP,n6_]
end
theorem dJ_ (t:Ty):Ty.mk t.kind t.name t.n t.args=t:=by cases t;rfl
theorem ep_ {f:Ty→Ty}{l:List Ty}(h:∀ a∈l,f a=a):l.map f=l:=by
 conv=>rhs;rw[← List.map_id l]
 exact List.map_congr_left h
theorem rE_ (p:Ty→Bool)(U:Ty):∀ t:Ty,noP p t→sbT p U t=t:=by
 intro t
 induction t using Ty.ind with
 | h t ih =>
  intro h;obtain⟨h1,h2⟩:=(gQ_ p t).1 h;rw[fm_,if_neg (by rw[h1];simp),ep_ fun a ha=>ih a ha (h2 a ha),dJ_]
def eR_ (x:ByteArray)(t:Ty):Bool:=t.kind==1&&eqN t.name x
theorem bO_ (x:ByteArray)(k:Int)(s:ByteArray)(n:Int)(a:List Ty):eR_ x (.mk k s n a)=(k==1&&eqN s x):=rfl
theorem df_ (m:Int)(k:Int)(s:ByteArray)(n:Int)(a:List Ty):bE_ m (.mk k s n a)=(k==2&&n==m):=rfl
theorem tG_ (x:ByteArray):∀ (t:Ty) (env:List ByteArray),Std t→(¬ fvT x t∨x∈env)→noP (eR_ x) (dbT env t):=by
 intro t
 induction t using Ty.ind with
 | h t ih =>
  intro env hs h
  by_cases h5:t.kind=5
  ·rw[aP_ _ _ h5,eW_]
   refine⟨rfl,fun a ha=>?_⟩;obtain⟨b,hb,rfl⟩:=List.mem_map.1 ha;refine ih b hb _ (hs.args b hb) ?_
   by_cases e:x=t.name
   ·exact .inr (by simp[e])
   ·rcases h with h|h
    ·exact .inl fun hx=>h ((aO_ _ _).2 (.inr ⟨⟨b,hb,hx⟩,fun e'=>e e'.2.symm⟩))
    ·exact .inr (by simp[h])
  ·by_cases h1:t.kind=1
   ·rw[a0_ _ _ h1]
    unfold c9_;cases hi:ixN env t.name with
    | some i=>rw[eW_];exact⟨rfl,fun a ha=>by cases ha⟩
    | none =>
     rw[eW_];refine⟨?_,fun a ha=>by cases ha⟩;rw[bO_];have:t.name≠x:=by
      rintro rfl
      rcases h with h|h
      ·exact h ((aO_ _ _).2 (.inl ⟨h1,rfl⟩))
      ·exact (cO_ _ _).1 hi h
     rw[(fA_ _ _).2 this];simp
   ·rw[az_ _ _ h1 h5,eW_]
    refine⟨?_,fun a ha=>?_⟩
    ·rw[bO_];simp[h1]
    ·obtain⟨b,hb,rfl⟩:=List.mem_map.1 ha
     refine ih b hb _ (hs.args b hb) ?_
     rcases h with h|h
     ·exact .inl fun hx=>h ((aO_ _ _).2 (.inr ⟨⟨b,hb,hx⟩,fun e'=>h5 e'.1⟩))
     ·exact .inr h
theorem mem_metas_walk (m:Int):∀ (t:Ty) (out:List Int) (ns:List ByteArray),m∈bB_ al_ t out ns↔m∈out∨¬ noP (bE_ m) t:=by
 intro t
 induction t using Ty.ind with
 | h t ih =>
  intro out ns;have hstep:m∈al_ out t ns↔m∈out∨bE_ m (dD_ t)=true:=by
   rw[show bE_ m (dD_ t)=(t.kind==2&&t.n==m) from rfl];unfold al_
   split
   ·next h =>
    simp only[Bool.and_eq_true,beq_iff_eq,Bool.not_eq_true'] at h;rw[List.mem_append,List.mem_singleton];simp only[Bool.and_eq_true,beq_iff_eq]
    constructor
    ·rintro (h'|rfl)
     ·exact .inl h'
     ·exact .inr ⟨h.1,rfl⟩
    ·rintro (h'|⟨_,h'⟩)
     ·exact .inl h'
     ·exact .inr h'.symm
   ·next h =>
    simp only[Bool.and_eq_true,beq_iff_eq,Bool.not_eq_true'] at h;simp only[Bool.and_eq_true,beq_iff_eq]
    constructor
    ·exact .inl
    ·rintro (h'|⟨h1,h2⟩)
     ·exact h'
     ·subst h2
      refine Classical.byContradiction fun hx=>h ⟨h1,?_⟩;rw[← Bool.not_eq_true,List.contains_iff_mem];exact hx
  have hl:∀ (l:List Ty) (out:List Int) (ns:List ByteArray),(∀ a∈l,∀ (out:List Int) (ns:List ByteArray),m∈bB_ al_ a out ns↔m∈out∨¬ noP (bE_ m) a)→(m∈a1_ al_ l out ns↔m∈out∨∃ a∈l,¬ noP (bE_ m) a):=by
   intro l
   induction l with
   | nil=>intro out ns _;simp[a1_]
   | cons a l ihl =>
    intro out ns h;rw[a1_,ihl _ _ fun b hb=>h b (by simp[hb]),h a (by simp)];simp only[List.mem_cons,exists_eq_or_imp];exact or_assoc
  rw[bF_,hl _ _ _ ih,hstep,gQ_]
  constructor
  ·rintro ((h|h)|⟨a,ha,h⟩)
   ·exact .inl h
   ·exact .inr fun hn=>by rw[hn.1] at h;cases h
   ·exact .inr fun hn=>h (hn.2 a ha)
  ·rintro (h|h)
   ·exact .inl (.inl h)
   ·cases hb:bE_ m (dD_ t) with
    | true=>exact .inl (.inr rfl)
    | false=>exact .inr (Classical.byContradiction fun hx=>h ⟨hb,fun a ha=>Classical.byContradiction fun hn=>hx ⟨a,ha,hn⟩⟩)
theorem jv_ (m:Int)(t:Ty):m∈ay_ t↔¬ noP (bE_ m) t:=by unfold ay_;rw[mem_metas_walk];simp
theorem g6_ (u:Ty)(env:List ByteArray)(h:∀ x,fvT x u→x∉env):dbT env u=dbT [] u:=by
 refine ov_ u [] env fun x hx n=>?_;unfold c9_;rw[(cO_ _ _).2 (h x hx)];rfl
theorem qE_ (nm:ByteArray)(u:Ty)(hu:Std u):∀ (d:Nat) (t:Ty),t.depth≤d→Std t→Std (ew_ d nm u t):=by
 intro d
 induction d with
 | zero=>intro t h;rw[t.depth_eq] at h;omega
 | succ d ih =>
  intro t h hs;have hd:∀ a∈t.args,a.depth≤d:=fun a ha=>by have:=aI_ _ ha;rw[t.depth_eq] at h;omega
  rw[ew_]
  split
  ·exact hs
  ·split
   ·exact hu
   ·split
    ·next hc =>
     simp only[Bool.and_eq_true,beq_iff_eq] at hc;obtain⟨b,hb,hb0⟩:=dK_ hs hc.1;rw[hb0];have hbm:b∈t.args:=by rw[hb];simp
     generalize bi_ t.name (af_ u++af_ b++[t.name,nm])=n;have hr:=dZ_ b.depth t.name n b (aA_ _) (hs.args b hbm);unfold ef_;rw[hb0];exact h9_ n (ih (cn_ t.name n b) (by show (cc_ _ _ _ _).depth≤d;rw[hr.1];exact hd b hbm) hr.2.1)
    ·refine eB_ hs _ (by simp) fun a ha=>?_
     obtain⟨b,hb,rfl⟩:=List.mem_map.1 ha;exact ih b (hd b hb) (hs.args b hb)
theorem t6_ (nm:ByteArray)(u:Ty):∀ (d:Nat) (t:Ty) (env:List ByteArray),t.depth≤d→Std t→nm∉env→(∀ x,fvT x u→x∉env)→dbT env (ew_ d nm u t)=sbT (eR_ nm) (dbT [] u) (dbT env t):=by
 intro d
 induction d with
 | zero=>intro t env h;rw[t.depth_eq] at h;omega
 | succ d ih =>
  intro t env h hs hn hu;have hd:∀ a∈t.args,a.depth≤d:=fun a ha=>by have:=aI_ _ ha;rw[t.depth_eq] at h;omega
  rw[ew_]
  split
  ·next hc =>
   simp only[Bool.and_eq_true,beq_iff_eq,aN_] at hc;rw[rE_];refine tG_ nm t env hs (.inl fun hx=>?_)
   rcases (aO_ _ _).1 hx with h|h
   ·omega
   ·exact h.2 hc
  ·split
   ·next h1 hc =>
    simp only[Bool.and_eq_true,beq_iff_eq,aN_] at hc;rw[g6_ u env hu,a0_ _ _ hc.1,hc.2];unfold c9_;rw[(cO_ _ _).2 hn];show _=sbT (eR_ nm) (dbT [] u) (.mk 1 nm t.n []);rw[cC_,bO_,(aN_ _ _).2 rfl];rfl
   ·split
    ·next h1 h2 hc =>
     simp only[Bool.and_eq_true,beq_iff_eq,aN_] at hc h1;obtain⟨b,hb,hb0⟩:=dK_ hs hc.1;have hbm:b∈t.args:=by rw[hb];simp
     have hnf:=eK_ t.name (af_ u++af_ (cB_ t)++[t.name,nm]);unfold ef_;rw[hb0] at hnf ⊢;generalize bi_ t.name (af_ u++af_ b++[t.name,nm])=n at *;simp only[List.mem_append,List.mem_cons,List.not_mem_nil,or_false,not_or,be_] at hnf;have hr:=dZ_ b.depth t.name n b (aA_ _) (hs.args b hbm);rw[aP_ _ _ hc.1,hb,aP_ _ _ rfl];show Ty.mk 5 emp 0 [dbT (n :: env) (ew_ d nm u (cn_ t.name n b))]=sbT _ _ (Ty.mk 5 emp 0 [dbT (t.name :: env) b]);rw[ih (cn_ t.name n b) (n :: env) (by show (cc_ _ _ _ _).depth≤d;rw[hr.1];exact hd b hbm) hr.2.1 ?_ ?_,f4_ _ _ _ _ (hs.args b hbm) hnf.1.2,cC_]
     ·rfl
     ·simp only[List.mem_cons,not_or]
      exact⟨fun e=>hnf.2.2 e.symm,hn⟩
     ·intro x hx
      simp only[List.mem_cons,not_or];exact⟨fun e=>hnf.1.1 (e ▸ hx),hu x hx⟩
    ·next h1 h2 h3 =>
     simp only[Bool.and_eq_true,beq_iff_eq,aN_,b7_,be_] at h1 h2 h3
     by_cases hk1:t.kind=1
     ·obtain⟨hn0,ha⟩:=hs.k1 hk1
      rw[ha];have e1:bA_ t ([].map (ew_ d nm u))=t:=by unfold bA_;rw[List.map_nil,← ha,dJ_]
      rw[e1,a0_ _ _ hk1,rE_];unfold c9_;cases ixN env t.name with
      | some i=>simp only;rw[eW_];exact⟨rfl,fun a ha=>by cases ha⟩
      | none =>
       simp only;rw[eW_];refine⟨?_,fun a ha=>by cases ha⟩;rw[bO_,(fA_ _ _).2 fun e=>h2 ⟨hk1,e⟩];simp
     ·by_cases hk5:t.kind=5
      ·rw[aP_ _ _ hk5,aP_ _ _ (show (bA_ t _).kind=5 from hk5),cC_,bO_,if_neg (by simp)]
       congr 1;show (t.args.map _).map _=(t.args.map _).map _;rw[List.map_map,List.map_map];refine List.map_congr_left fun a ha=>ih a _ (hd a ha) (hs.args a ha) ?_ ?_
       ·simp only[List.mem_cons,not_or]
        exact⟨fun e=>h1 ⟨hk5,e.symm⟩,hn⟩
       ·intro x hx
        simp only[List.mem_cons,not_or];exact⟨fun e=>h3 ⟨hk5,by subst e;exact hx⟩,hu x hx⟩
      ·rw[az_ _ _ hk1 hk5,az_ _ _ (show (bA_ t _).kind≠1 from hk1) (show (bA_ t _).kind≠5 from hk5),cC_,bO_,if_neg (by simp[hk1])]
       show Ty.mk t.kind t.name t.n ((t.args.map _).map _)=_;congr 1;rw[List.map_map,List.map_map];exact List.map_congr_left fun a ha=>ih a _ (hd a ha) (hs.args a ha) hn hu
theorem pI_ (u:Ty)(free:List ByteArray)(is:Ty→Bool)(hu:Std u):∀ (d:Nat) (t:Ty),t.depth≤d→Std t→Std (ej_ d u free is t):=by
 intro d
 induction d with
 | zero=>intro t h;rw[t.depth_eq] at h;omega
 | succ d ih =>
  intro t h hs;have hd:∀ a∈t.args,a.depth≤d:=fun a ha=>by have:=aI_ _ ha;rw[t.depth_eq] at h;omega
  rw[ej_]
  split
  ·exact hu
  ·split
   ·next hc =>
    simp only[Bool.and_eq_true,beq_iff_eq] at hc;obtain⟨b,hb,hb0⟩:=dK_ hs hc.1;rw[hb0];have hbm:b∈t.args:=by rw[hb];simp
    generalize bi_ t.name (free++af_ b++[t.name])=n;have hr:=dZ_ b.depth t.name n b (aA_ _) (hs.args b hbm);unfold ef_;rw[hb0];exact h9_ n (ih (cn_ t.name n b) (by show (cc_ _ _ _ _).depth≤d;rw[hr.1];exact hd b hbm) hr.2.1)
   ·refine eB_ hs _ (by simp) fun a ha=>?_
    obtain⟨b,hb,rfl⟩:=List.mem_map.1 ha;exact ih b (hd b hb) (hs.args b hb)
theorem sC_ (m:Int)(u:Ty):∀ (d:Nat) (t:Ty) (env:List ByteArray),t.depth≤d→Std t→(∀ x,fvT x u→x∉env)→dbT env (ej_ d u (af_ u) (bE_ m) t)=sbT (bE_ m) (dbT [] u) (dbT env t):=by
 intro d
 induction d with
 | zero=>intro t env h;rw[t.depth_eq] at h;omega
 | succ d ih =>
  intro t env h hs hu;have hd:∀ a∈t.args,a.depth≤d:=fun a ha=>by have:=aI_ _ ha;rw[t.depth_eq] at h;omega
  rw[ej_]
  split
  ·next hc =>
   unfold bE_ at hc;simp only[Bool.and_eq_true,beq_iff_eq] at hc;rw[g6_ u env hu,az_ env t (by omega) (by omega),cC_,df_,if_pos (by simp[hc])]
  ·next hc0 =>
   unfold bE_ at hc0;simp only[Bool.and_eq_true,beq_iff_eq] at hc0
   split
   ·next hc =>
    simp only[Bool.and_eq_true,beq_iff_eq] at hc;obtain⟨b,hb,hb0⟩:=dK_ hs hc.1;have hbm:b∈t.args:=by rw[hb];simp
    have hnf:=eK_ t.name (af_ u++af_ (cB_ t)++[t.name]);unfold ef_;rw[hb0] at hnf ⊢;generalize bi_ t.name (af_ u++af_ b++[t.name])=n at *;simp only[List.mem_append,List.mem_cons,List.not_mem_nil,or_false,not_or,be_] at hnf;have hr:=dZ_ b.depth t.name n b (aA_ _) (hs.args b hbm);rw[aP_ _ _ hc.1,hb,aP_ _ _ rfl];show Ty.mk 5 emp 0 [dbT (n :: env) (ej_ d u (af_ u) (bE_ m) (cn_ t.name n b))]=sbT _ _ (Ty.mk 5 emp 0 [dbT (t.name :: env) b]);rw[ih (cn_ t.name n b) (n :: env) (by show (cc_ _ _ _ _).depth≤d;rw[hr.1];exact hd b hbm) hr.2.1 ?_,f4_ _ _ _ _ (hs.args b hbm) hnf.1.2,cC_]
    ·rfl
    ·intro x hx
     simp only[List.mem_cons,not_or];exact⟨fun e=>hnf.1.1 (e ▸ hx),hu x hx⟩
   ·next h3 =>
    simp only[Bool.and_eq_true,beq_iff_eq,b7_,be_] at h3
    by_cases hk1:t.kind=1
    ·obtain⟨hn0,ha⟩:=hs.k1 hk1
     rw[ha];have e1:bA_ t ([].map (ej_ d u (af_ u) (bE_ m)))=t:=by unfold bA_;rw[List.map_nil,← ha,dJ_]
     rw[e1,a0_ _ _ hk1,rE_];unfold c9_;cases ixN env t.name<;>(simp only;rw[eW_];exact⟨rfl,fun a ha=>by cases ha⟩)
    ·by_cases hk5:t.kind=5
     ·rw[aP_ _ _ hk5,aP_ _ _ (show (bA_ t _).kind=5 from hk5),cC_,df_,if_neg (by simp)]
      congr 1;show (t.args.map _).map _=(t.args.map _).map _;rw[List.map_map,List.map_map];refine List.map_congr_left fun a ha=>ih a _ (hd a ha) (hs.args a ha) ?_;intro x hx;simp only[List.mem_cons,not_or];exact⟨fun e=>h3 ⟨hk5,by subst e;exact hx⟩,hu x hx⟩
     ·rw[az_ _ _ hk1 hk5,az_ _ _ (show (bA_ t _).kind≠1 from hk1) (show (bA_ t _).kind≠5 from hk5),cC_,df_,if_neg (by simp only[Bool.and_eq_true,beq_iff_eq];exact hc0)]
      show Ty.mk t.kind t.name t.n ((t.args.map _).map _)=_;congr 1;rw[List.map_map,List.map_map];exact List.map_congr_left fun a ha=>ih a _ (hd a ha) (hs.args a ha) hu
theorem sD_ (nm:ByteArray)(u t:Ty)(ht:Std t):dbT [] (gD_ nm u t)=sbT (eR_ nm) (dbT [] u) (dbT [] t) :=
 t6_ nm u t.depth t [] (aA_ _) ht (by simp) (by simp)
theorem fC_ (m:Int)(u t:Ty)(ht:Std t):dbT [] (ce_ m u t)=sbT (bE_ m) (dbT [] u) (dbT [] t) :=
 sC_ m u t.depth t [] (aA_ _) ht (by simp)
theorem qC_ (nm:ByteArray)(u t:Ty)(ht:Std t)(hu:Std u):Std (gD_ nm u t):=qE_ nm u hu _ _ (aA_ _) ht
theorem fy_ (m:Int)(u t:Ty)(ht:Std t)(hu:Std u):Std (ce_ m u t):=pI_ u _ _ hu _ _ (aA_ _) ht
end
section
open Lx
structure It where
 bl:Bool
 k:Nat
 s:List UInt8
def It.text (i:It):List UInt8:=(if i.bl then [32] else [])++i.s
def cu_ (l:List It):List UInt8:=l.flatMap It.text
theorem bf_ (i:It)(l:List It):cu_ (i :: l)=(if i.bl then [32] else [])++i.s++cu_ l:=rfl
theorem fh_ (a b:List It):cu_ (a++b)=cu_ a++cu_ b:=List.flatMap_append
def itF:Nat→Bool→Ty→List It
 | 0,_,_=>[]
 | d+1,b,t =>
  if t.kind=2 then [⟨b,5,63 :: Lib.itoa t.n⟩]
  else if t.kind=3 then ⟨b,2,t.name.data.toList⟩ :: t.args.flatMap fun x=>if x.atomic then itF d true x else ⟨true,6,d3_⟩ :: (itF d false x++[⟨false,6,fT_⟩])
  else if t.kind=4 then (match t.args with
   | x :: y :: _=>(if decide (x.kind<4) then itF d b x else ⟨b,6,d3_⟩ :: (itF d false x++[⟨false,6,fT_⟩]))++⟨true,6,dk_⟩ :: itF d true y
   | _=>[])
  else if t.kind=5 then (match t.args with
   | x :: _=>⟨b,3,fa⟩ :: ⟨true,1,t.name.data.toList⟩ :: (if x.kind=5 then (itF d true x).tail else ⟨false,6,dot⟩ :: itF d true x)
   | _=>[])
  else [⟨b,1,t.name.data.toList⟩]
theorem f0_ (d:Nat)(b:Bool)(t x:Ty)(hk:t.kind=5)(hx:t.args=[x]):itF (d+1) b t=⟨b,3,fa⟩ :: ⟨true,1,t.name.data.toList⟩ :: (if x.kind=5 then (itF d true x).tail else ⟨false,6,dot⟩ :: itF d true x):=by
 rw[itF,if_neg (by omega),if_neg (by omega),if_neg (by omega),if_pos hk,hx]
theorem gU_ (d:Nat)(b:Bool)(t x y:Ty)(hk:t.kind=4)(hx:t.args=[x,y]):itF (d+1) b t=(if decide (x.kind<4) then itF d b x else ⟨b,6,d3_⟩ :: (itF d false x++[⟨false,6,fT_⟩]))++⟨true,6,dk_⟩ :: itF d true y:=by
 rw[itF,if_neg (by omega),if_neg (by omega),if_pos hk,hx]
theorem d4_ (d:Nat)(b:Bool)(t:Ty)(hk:t.kind=3):itF (d+1) b t=⟨b,2,t.name.data.toList⟩ :: t.args.flatMap fun x=>if x.atomic then itF d true x else ⟨true,6,d3_⟩ :: (itF d false x++[⟨false,6,fT_⟩]):=by
 rw[itF,if_neg (by omega),if_pos hk]
theorem du_ (d:Nat)(b:Bool)(t:Ty)(hk:t.kind=2):itF (d+1) b t=[⟨b,5,63 :: Lib.itoa t.n⟩]:=by rw[itF,if_pos hk]
theorem er_ (d:Nat)(b:Bool)(t:Ty)(hk:t.kind=1):itF (d+1) b t=[⟨b,1,t.name.data.toList⟩]:=by
 rw[itF,if_neg (by omega),if_neg (by omega),if_neg (by omega),if_neg (by omega)]
theorem mF_:dg_=fa++[32]:=rfl
theorem mq_ (t:Ty)(hk:t.kind=1):ac_ t=t.name.data.toList:=by
 rw[bo_];unfold gc_;rw[if_neg (by omega),if_neg (by omega),if_neg (by omega),if_neg (by omega)]
theorem kl_ (t:Ty)(hk:t.kind=2):ac_ t=63 :: Lib.itoa t.n:=by
 rw[bo_];unfold gc_;rw[if_pos hk]
theorem ms_ (t:Ty)(hk:t.kind=3):ac_ t=t.name.data.toList++(t.args.zip (t.args.map ac_)).flatMap fun x=>32 :: cd_ x.1.atomic x.2:=by
 rw[bo_];unfold gc_;rw[if_neg (by omega),if_pos hk]
theorem mr_ (t x y:Ty)(hk:t.kind=4)(hx:t.args=[x,y]):ac_ t=cd_ (decide (x.kind<4)) (ac_ x)++[32,45,62,32]++ac_ y:=by
 rw[bo_];unfold gc_;rw[if_neg (by omega),if_neg (by omega),if_pos hk,hx];rfl
theorem hK_ (t x:Ty)(hk:t.kind=5)(hx:t.args=[x]):ac_ t=dg_++t.name.data.toList++(if x.kind=5 then 32 :: (ac_ x).drop 7 else [46,32]++ac_ x):=by
 rw[bo_];unfold gc_;rw[if_neg (by omega),if_neg (by omega),if_neg (by omega),if_pos hk,hx];rfl
theorem fg_ (i:It):cu_ [i]=(if i.bl then [32] else [])++i.s:=by rw[bf_];simp[cu_]
theorem rq_:∀ (d:Nat) (t:Ty) (b:Bool),t.depth≤d→Std t→cu_ (itF d b t)=(if b then [32] else [])++ac_ t:=by
 intro d
 induction d with
 | zero=>intro t b h;rw[t.depth_eq] at h;omega
 | succ d ih =>
  intro t b h hs;have hd:∀ a∈t.args,a.depth≤d:=fun a ha=>by have:=aI_ _ ha;rw[t.depth_eq] at h;omega
  rcases ((bb_ t).1 hs).1 with hk|hk|hk|hk|hk
  ·rw[er_ _ _ _ hk.1,mq_ t hk.1,fg_]
  ·rw[du_ _ _ _ hk.1,kl_ t hk.1,fg_]
  ·rw[d4_ _ _ _ hk.1,ms_ t hk.1,bf_]
   have:∀ l:List Ty,(∀ a∈l,a∈t.args)→cu_ (l.flatMap fun x=>if x.atomic then itF d true x else ⟨true,6,d3_⟩ :: (itF d false x++[⟨false,6,fT_⟩]))=(l.zip (l.map ac_)).flatMap fun x=>32 :: cd_ x.1.atomic x.2:=by
    intro l
    induction l with
    | nil=>intro _;rfl
    | cons a l ihl =>
     intro hl;rw[List.flatMap_cons,fh_,ihl fun c hc=>hl c (by simp[hc]),List.map_cons,List.zip_cons_cons,List.flatMap_cons];congr 1;have ha:=hl a (by simp);show cu_ (if a.atomic then _ else _)=32 :: cd_ a.atomic (ac_ a);unfold cd_
     split
     ·rw[ih a true (hd a ha) (hs.args a ha)];rfl
     ·rw[bf_,fh_,ih a false (hd a ha) (hs.args a ha),fg_]
      simp[d3_,fT_]
   rw[this t.args fun a ha=>ha];simp
  ·obtain⟨x,y,hxy⟩:∃ x y,t.args=[x,y]:=by
    match hl:t.args,hk.2.2.2 with
    | [x,y],_=>exact⟨x,y,rfl⟩
   have hx:=ih x b (hd x (by rw[hxy];simp)) (hs.args x (by rw[hxy];simp));have hx':=ih x false (hd x (by rw[hxy];simp)) (hs.args x (by rw[hxy];simp));have hy:=ih y true (hd y (by rw[hxy];simp)) (hs.args y (by rw[hxy];simp));rw[gU_ _ _ _ x y hk.1 hxy,mr_ t x y hk.1 hxy,fh_,bf_,hy];unfold cd_
   split
   ·rw[hx];simp[dk_]
   ·rw[bf_,fh_,hx',fg_];simp[d3_,fT_,dk_]
  ·obtain⟨x,hx⟩:∃ x,t.args=[x]:=by
    match hl:t.args,hk.2.2 with
    | [x],_=>exact⟨x,rfl⟩
   have hx':=ih x true (hd x (by rw[hx];simp)) (hs.args x (by rw[hx];simp));rw[f0_ _ _ _ x hk.1 hx,hK_ t x hk.1 hx,bf_,bf_,mF_]
   by_cases h5:x.kind=5
   ·rw[if_pos h5,if_pos h5]
    obtain⟨z,hz⟩:∃ z,x.args=[z]:=by
     match hl:x.args,((hs.args x (by rw[hx];simp)).k5 h5).2 with
     | [z],_=>exact⟨z,rfl⟩
    match d,(show 1≤d by have:=hd x (by rw[hx];simp);rw[x.depth_eq] at this;omega) with
    | d+1,_ =>
     rw[f0_ _ _ _ z h5 hz] at hx' ⊢;rw[bf_] at hx';simp only[List.tail_cons];have e1:=hK_ x z h5 hz;have e0:ac_ x=fa++cu_ ((⟨true,1,x.name.data.toList⟩:It) :: (if z.kind=5 then (itF d true z).tail else ⟨false,6,dot⟩ :: itF d true z)):=by
      exact (List.cons.inj (show (32:UInt8) :: (fa++cu_ _)=32 :: ac_ x from hx')).2.symm
     have e2:(ac_ x).drop 7=(cu_ ((⟨true,1,x.name.data.toList⟩:It) :: (if z.kind=5 then (itF d true z).tail else ⟨false,6,dot⟩ :: itF d true z))).drop 1:=by
      rw[e0];rfl
     rw[e2,bf_];simp
   ·rw[if_neg h5,if_neg h5,bf_,hx']
    simp[dot]
def cj_:Bool→List It→Prop
 | _,[]=>True
 | ps,y :: ys=>(y.bl=true∨y.k=6∨ps=true)∧cj_ (y.k==6) ys
theorem ko_ {ps:Bool}{l:List It}(h:cj_ ps l):cj_ true l:=by
 cases l with
 | nil=>trivial
 | cons y ys=>exact⟨.inr (.inr rfl),h.2⟩
theorem hM_ {ps:Bool}{l:List It}(h:cj_ false l):cj_ ps l:=by
 cases ps with
 | false=>exact h
 | true=>exact ko_ h
theorem ok_it:∀ (d:Nat) (t:Ty) (b ps:Bool) (r:List It),t.depth≤d→Std t→(b=true∨ps=true)→cj_ false r→cj_ ps (itF d b t++r)∧(t.kind=5→cj_ ps ((itF d b t).tail++r)):=by
 intro d
 induction d with
 | zero=>intro t b ps r h;rw[t.depth_eq] at h;omega
 | succ d ih =>
  intro t b ps r h hs hb hr;have hd:∀ a∈t.args,a.depth≤d:=fun a ha=>by have:=aI_ _ ha;rw[t.depth_eq] at h;omega
  have hb':b=true∨(1:Nat)=6∨ps=true:=hb.imp id .inr
  rcases ((bb_ t).1 hs).1 with hk|hk|hk|hk|hk
  ·rw[er_ _ _ _ hk.1]
   exact⟨⟨hb.imp id .inr,hr⟩,fun e=>by omega⟩
  ·rw[du_ _ _ _ hk.1]
   exact⟨⟨hb.imp id .inr,hr⟩,fun e=>by omega⟩
  ·rw[d4_ _ _ _ hk.1]
   refine⟨⟨hb.imp id .inr,?_⟩,fun e=>by omega⟩;show cj_ false (_++r);have:∀ l:List Ty,(∀ a∈l,a∈t.args)→cj_ false ((l.flatMap fun x=>if x.atomic then itF d true x else ⟨true,6,d3_⟩ :: (itF d false x++[⟨false,6,fT_⟩]))++r):=by
    intro l
    induction l with
    | nil=>intro _;exact hr
    | cons a l ihl =>
     intro hl;have ha:=hl a (by simp);have hrest:=ihl fun c hc=>hl c (by simp[hc]);rw[List.flatMap_cons,List.append_assoc];generalize (l.flatMap fun x=>if x.atomic then itF d true x else (⟨true,6,d3_⟩:It) :: (itF d false x++[⟨false,6,fT_⟩]))++r=q at *
     split
     ·exact (ih a true false q (hd a ha) (hs.args a ha) (.inl rfl) hrest).1
     ·refine⟨.inl rfl,?_⟩
      show cj_ true (_++[_]++q);rw[List.append_assoc];exact (ih a false true _ (hd a ha) (hs.args a ha) (.inr rfl) (show cj_ false ((⟨false,6,fT_⟩:It) :: q) from ⟨.inr (.inl rfl),hM_ hrest⟩)).1
   exact this t.args fun a ha=>ha
  ·obtain⟨x,y,hxy⟩:∃ x y,t.args=[x,y]:=by
    match hl:t.args,hk.2.2.2 with
    | [x,y],_=>exact⟨x,y,rfl⟩
   refine⟨?_,fun e=>by omega⟩;rw[gU_ _ _ _ x y hk.1 hxy,List.append_assoc];have hy:cj_ false ((⟨true,6,dk_⟩:It) :: itF d true y++r):=⟨.inl rfl,(ih y true true r (hd y (by rw[hxy];simp)) (hs.args y (by rw[hxy];simp)) (.inl rfl) hr).1⟩;generalize (⟨true,6,dk_⟩:It) :: itF d true y++r=q at *
   split
   ·exact (ih x b ps q (hd x (by rw[hxy];simp)) (hs.args x (by rw[hxy];simp)) hb hy).1
   ·refine⟨.inr (.inl rfl),?_⟩
    show cj_ true (_++[_]++q);rw[List.append_assoc];exact (ih x false true _ (hd x (by rw[hxy];simp)) (hs.args x (by rw[hxy];simp)) (.inr rfl) (show cj_ false ((⟨false,6,fT_⟩:It) :: q) from ⟨.inr (.inl rfl),hM_ hy⟩)).1
  ·obtain⟨x,hx⟩:∃ x,t.args=[x]:=by
    match hl:t.args,hk.2.2 with
    | [x],_=>exact⟨x,rfl⟩
   have hx':=fun ps'=>ih x true ps' r (hd x (by rw[hx];simp)) (hs.args x (by rw[hx];simp)) (.inl rfl) hr;have tail:∀ ps',cj_ ps' (((⟨true,1,t.name.data.toList⟩:It) :: (if x.kind=5 then (itF d true x).tail else ⟨false,6,dot⟩ :: itF d true x))++r):=by
    intro ps';refine⟨.inl rfl,?_⟩;show cj_ false (_++r)
    split
    ·next h5=>exact (hx' false).2 h5
    ·exact⟨.inr (.inl rfl),(hx' true).1⟩
   rw[f0_ _ _ _ x hk.1 hx];exact⟨⟨hb.imp id .inr,tail false⟩,fun _=>tail ps⟩
theorem mD_ {s r:List UInt8}(h:s≠[]):(s++r).headD 0=s.headD 0:=by
 cases s with
 | nil=>exact absurd rfl h
 | cons a s=>rfl
theorem lm_ {s:List UInt8}(h:fJ_ s):s≠[]:=by
 intro e;have:=h.len;rw[e] at this;simp at this
theorem gR_ {c:UInt8}(h:bl_ c=true):a4_ c=false:=by
 unfold bl_ at h;unfold a4_;simp only[decide_eq_true_eq] at h;simp only[decide_eq_false_iff_not];omega
def kt (t:Tok):Nat × List UInt8:=(t.kind,t.text)
def ktI (i:It):Nat × List UInt8:=(i.k,i.s)
def LexK (t:Ty):Prop:=((t.kind=1∨t.kind=5)→fJ_ t.name.data.toList∧bl_ (t.name.data.toList.headD 0)=true∧mz_.contains t.name.data.toList=false)∧(t.kind=3→fJ_ t.name.data.toList∧a4_ (t.name.data.toList.headD 0)=true)∧(t.kind=2→t.n<1000000)
mutual
def td_:Ty→Prop
 | .mk k s n args=>LexK (.mk k s n args)∧um_ args
def um_:List Ty→Prop
 | []=>True
 | t :: ts=>td_ t∧um_ ts
end
theorem qH_ (ts:List Ty):um_ ts↔∀ t∈ts,td_ t:=by
 induction ts with
 | nil=>simp[um_]
 | cons t ts ih=>rw[um_,ih];simp
theorem de_ (t:Ty):td_ t↔LexK t∧∀ a∈t.args,td_ a:=by
 cases t with
 | mk k s n args=>rw[td_,qH_];rfl
theorem bQ_ (u:Nat):(∀ c∈Lib.decDigits u,aH_ c=true)∧1≤(Lib.decDigits u).length∧(1≤u→(Lib.decDigits u).headD 0≠48)∧∀ k,1≤k→u<10 ^ k→(Lib.decDigits u).length≤k:=by
 induction u using Nat.strongRecOn with
 | _ u ih =>
  rw[Lib.decDigits];have dig:∀ d,d<10→aH_ (UInt8.ofNat (48+d))=true:=fun d hd=>by
   unfold aH_;simp only[decide_eq_true_eq];rw[UInt8.toNat_ofNat'];omega
  split
  ·next h =>
   refine⟨by simp only[List.mem_singleton];rintro c rfl;exact dig u h,by simp,fun h1=>?_,fun k hk _=>by simpa using hk⟩;simp only[List.headD_cons];intro e;have:=congrArg UInt8.toNat e;rw[UInt8.toNat_ofNat'] at this;simp at this;omega
  ·next h =>
   obtain⟨h1,h2,h3,h4⟩:=ih (u / 10) (by omega);refine⟨?_,by simp,fun _=>?_,fun k hk hu=>?_⟩
   ·intro c hc
    rcases List.mem_append.1 hc with hc|hc
    ·exact h1 c hc
    ·rw[List.mem_singleton.1 hc];exact dig _ (by omega)
   ·rw[mD_ (by intro e;rw[e] at h2;simp at h2)]
    exact h3 (by omega)
   ·cases k with
    | zero=>omega
    | succ k =>
     rw[List.length_append];have hk1:1≤k:=by
      cases k with
      | zero=>simp at hu;omega
      | succ k=>omega
     have:=h4 k hk1 (by rw[Nat.pow_succ] at hu;omega);simp;omega
end
end Go.Proofs.YtjecnionbjlncaaGreatDoor.Tp

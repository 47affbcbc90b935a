/- Texts laid together: TySb, TyItem, TyScanI. -/
import Derived.Test.YtkihnodkhnahiaaGreatDoorP13
set_option maxRecDepth 100000
set_option maxHeartbeats 6400000
namespace Go.Proofs.YtkihnodkhnahiaaGreatDoor.Tp
section
def iE_ (t:Ty):Ty:=.mk t.kind t.name t.n []
section
variable (p : Ty → Bool) (U : Ty)
mutual
def sbT:Ty→Ty
 | .mk k s n args=>if p (.mk k s n []) then U else .mk k s n (sbL args)
def sbL:List Ty→List Ty
 | []=>[]
 | t :: ts=>sbT t :: sbL ts
end
theorem lU_ (ts:List Ty):sbL p U ts=ts.map (sbT p U):=by
 induction ts with
 | nil=>simp[sbL]
 | cons t ts ih=>rw[sbL,ih];rfl
theorem hc_ (t:Ty):sbT p U t=if p (iE_ t) then U else .mk t.kind t.name t.n (t.args.map (sbT p U)):=by
 cases t with
 | mk k s n args=>rw[sbT,lU_];rfl
theorem j0_ (k:Int)(s:ByteArray)(n:Int)(args:List Ty):sbT p U (.mk k s n args)=if p (.mk k s n []) then U else .mk k s n (args.map (sbT p U)):=by rw[sbT,lU_]
end
section
variable (p : Ty → Bool)
mutual
def noP:Ty→Prop
 | .mk k s n args=>p (.mk k s n [])=false∧noL args
def noL:List Ty→Prop
 | []=>True
 | t :: ts=>noP t∧noL ts
end
theorem mS_ (ts:List Ty):noL p ts↔∀ t∈ts,noP p t:=by
 induction ts with
 | nil=>simp[noL]
 | cons t ts ih=>rw[noL,ih];simp
theorem gF_ (t:Ty):noP p t↔p (iE_ t)=false∧∀ a∈t.args,noP p a:=by
 cases t with
 | mk k s n args=>rw[noP,mS_];rfl
theorem eV_ (k:Int)(s:ByteArray)(n:Int)(args:List Ty):noP p (.mk k s n args)↔p (.mk k s n [])=false∧∀ a∈args,noP p a:=by rw[noP,mS_]
end
theorem pg_ (t:Ty):Ty.mk t.kind t.name t.n t.args=t:=by cases t;rfl
theorem mU_ {f:Ty→Ty}{l:List Ty}(h:∀ a∈l,f a=a):l.map f=l:=by
 conv=>rhs;rw[← List.map_id l]
 exact List.map_congr_left h
theorem pL_ (p:Ty→Bool)(U:Ty):∀ t:Ty,noP p t→sbT p U t=t:=by
 intro t
 induction t using Ty.ind with
 | h t ih =>
  intro h;obtain⟨h1,h2⟩:=(gF_ p t).1 h;rw[hc_,if_neg (by rw[h1];simp),mU_ fun a ha=>ih a ha (h2 a ha),pg_]
def gI_ (x:ByteArray)(t:Ty):Bool:=t.kind==1&&eqN t.name x
theorem ef_ (x:ByteArray)(k:Int)(s:ByteArray)(n:Int)(a:List Ty):gI_ x (.mk k s n a)=(k==1&&eqN s x):=rfl
theorem kc_ (x:ByteArray):∀ (t:Ty) (env:List ByteArray),Std t→(¬ fvT x t∨x∈env)→noP (gI_ x) (dbT env t):=by
 intro t
 induction t using Ty.ind with
 | h t ih =>
  intro env hs h
  by_cases h5:t.kind=5
  ·rw[cf_ _ _ h5,eV_]
   refine⟨rfl,fun a ha=>?_⟩;obtain⟨b,hb,rfl⟩:=List.mem_map.1 ha;refine ih b hb _ (hs.args b hb) ?_
   by_cases e:x=t.name
   ·exact .inr (by simp[e])
   ·rcases h with h|h
    ·exact .inl fun hx=>h ((a1_ _ _).2 (.inr ⟨⟨b,hb,hx⟩,fun e'=>e e'.2.symm⟩))
    ·exact .inr (by simp[h])
  ·by_cases h1:t.kind=1
   ·rw[cH_ _ _ h1]
    unfold e4_;cases hi:ixN env t.name with
    | some i=>rw[eV_];exact⟨rfl,fun a ha=>by cases ha⟩
    | none =>
     rw[eV_];refine⟨?_,fun a ha=>by cases ha⟩;rw[ef_];have:t.name≠x:=by
      rintro rfl
      rcases h with h|h
      ·exact h ((a1_ _ _).2 (.inl ⟨h1,rfl⟩))
      ·exact (fl_ _ _).1 hi h
     rw[(iO_ _ _).2 this];simp
   ·rw[bT_ _ _ h1 h5,eV_]
    refine⟨?_,fun a ha=>?_⟩
    ·rw[ef_];simp[h1]
    ·obtain⟨b,hb,rfl⟩:=List.mem_map.1 ha
     refine ih b hb _ (hs.args b hb) ?_
     rcases h with h|h
     ·exact .inl fun hx=>h ((a1_ _ _).2 (.inr ⟨⟨b,hb,hx⟩,fun e'=>h5 e'.1⟩))
     ·exact .inr h
theorem mem_metas_walk (m:Int):∀ (t:Ty) (out:List Int) (ns:List ByteArray),m∈cK_ ff_ t out ns↔m∈out∨¬ noP (hq_ m) t:=by
 intro t
 induction t using Ty.ind with
 | h t ih =>
  intro out ns;have hstep:m∈ff_ out t ns↔m∈out∨hq_ m (iE_ t)=true:=by
   rw[show hq_ m (iE_ t)=(t.kind==2&&t.n==m) from rfl];unfold ff_
   split
   ·next h =>
    simp only[Bool.and_eq_true,beq_iff_eq,Bool.not_eq_true'] at h;rw[List.mem_append,List.mem_singleton];simp only[Bool.and_eq_true,beq_iff_eq]
    constructor
    ·rintro (h'|rfl)
     ·exact .inl h'
     ·exact .inr ⟨h.1,rfl⟩
    ·rintro (h'|⟨_,h'⟩)
     ·exact .inl h'
     ·exact .inr h'.symm
   ·next h =>
    simp only[Bool.and_eq_true,beq_iff_eq,Bool.not_eq_true'] at h;simp only[Bool.and_eq_true,beq_iff_eq]
    constructor
    ·exact .inl
    ·rintro (h'|⟨h1,h2⟩)
     ·exact h'
     ·subst h2
      refine Classical.byContradiction fun hx=>h ⟨h1,?_⟩;rw[← Bool.not_eq_true,List.contains_iff_mem];exact hx
  have hl:∀ (l:List Ty) (out:List Int) (ns:List ByteArray),(∀ a∈l,∀ (out:List Int) (ns:List ByteArray),m∈cK_ ff_ a out ns↔m∈out∨¬ noP (hq_ m) a)→(m∈b1_ ff_ l out ns↔m∈out∨∃ a∈l,¬ noP (hq_ m) a):=by
   intro l
   induction l with
   | nil=>intro out ns _;simp[b1_]
   | cons a l ihl =>
    intro out ns h;rw[b1_,ihl _ _ fun b hb=>h b (by simp[hb]),h a (by simp)];simp only[List.mem_cons,exists_eq_or_imp];exact or_assoc
  rw[dd_,hl _ _ _ ih,hstep,gF_]
  constructor
  ·rintro ((h|h)|⟨a,ha,h⟩)
   ·exact .inl h
   ·exact .inr fun hn=>by rw[hn.1] at h;cases h
   ·exact .inr fun hn=>h (hn.2 a ha)
  ·rintro (h|h)
   ·exact .inl (.inl h)
   ·cases hb:hq_ m (iE_ t) with
    | true=>exact .inl (.inr rfl)
    | false=>exact .inr (Classical.byContradiction fun hx=>h ⟨hb,fun a ha=>Classical.byContradiction fun hn=>hx ⟨a,ha,hn⟩⟩)
theorem no_sb (p q:Ty→Bool)(U:Ty)(hU:noP p U):∀ t:Ty,(∀ k s n,p (.mk k s n [])=true→q (.mk k s n [])=true)→noP p (sbT q U t):=by
 intro t
 induction t using Ty.ind with
 | h t ih =>
  intro hpq;rw[hc_]
  split
  ·exact hU
  ·next h =>
   rw[eV_];refine⟨?_,fun a ha=>?_⟩
   ·cases e:p (.mk t.kind t.name t.n []) with
    | false=>rfl
    | true=>exact absurd (hpq _ _ _ e) h
   ·obtain⟨b,hb,rfl⟩:=List.mem_map.1 ha
    exact ih b hb hpq
theorem nc_ (u:Ty)(env:List ByteArray)(h:∀ x,fvT x u→x∉env):dbT env u=dbT [] u:=by
 refine nb_ u [] env fun x hx n=>?_;unfold e4_;rw[(fl_ _ _).2 (h x hx)];rfl
theorem o6_ (nm:ByteArray)(u:Ty)(hu:Std u):∀ (d:Nat) (t:Ty),t.depth≤d→Std t→Std (eC_ d nm u t):=by
 intro d
 induction d with
 | zero=>intro t h;rw[t.depth_eq] at h;omega
 | succ d ih =>
  intro t h hs;have hd:∀ a∈t.args,a.depth≤d:=fun a ha=>by have:=aX_ _ ha;rw[t.depth_eq] at h;omega
  rw[eC_]
  split
  ·exact hs
  ·split
   ·exact hu
   ·split
    ·next hc =>
     simp only[Bool.and_eq_true,beq_iff_eq] at hc;obtain⟨b,hb,hb0⟩:=go_ hs hc.1;rw[hb0];have hbm:b∈t.args:=by rw[hb];simp
     generalize bK_ t.name (aJ_ u++aJ_ b++[t.name,nm])=n;have hr:=fd_ b.depth t.name n b (az_ _) (hs.args b hbm);unfold hg_;rw[hb0];exact je_ n (ih (dm_ t.name n b) (by show (cm_ _ _ _ _).depth≤d;rw[hr.1];exact hd b hbm) hr.2.1)
    ·refine jW_ hs _ (by simp) fun a ha=>?_
     obtain⟨b,hb,rfl⟩:=List.mem_map.1 ha;exact ih b (hd b hb) (hs.args b hb)
theorem rm_ (nm:ByteArray)(u:Ty):∀ (d:Nat) (t:Ty) (env:List ByteArray),t.depth≤d→Std t→nm∉env→(∀ x,fvT x u→x∉env)→dbT env (eC_ d nm u t)=sbT (gI_ nm) (dbT [] u) (dbT env t):=by
 intro d
 induction d with
 | zero=>intro t env h;rw[t.depth_eq] at h;omega
 | succ d ih =>
  intro t env h hs hn hu;have hd:∀ a∈t.args,a.depth≤d:=fun a ha=>by have:=aX_ _ ha;rw[t.depth_eq] at h;omega
  rw[eC_]
  split
  ·next hc =>
   simp only[Bool.and_eq_true,beq_iff_eq,aN_] at hc;rw[pL_];refine kc_ nm t env hs (.inl fun hx=>?_)
   rcases (a1_ _ _).1 hx with h|h
   ·omega
   ·exact h.2 hc
  ·split
   ·next h1 hc =>
    simp only[Bool.and_eq_true,beq_iff_eq,aN_] at hc;rw[nc_ u env hu,cH_ _ _ hc.1,hc.2];unfold e4_;rw[(fl_ _ _).2 hn];show _=sbT (gI_ nm) (dbT [] u) (.mk 1 nm t.n []);rw[j0_,ef_,(aN_ _ _).2 rfl];rfl
   ·split
    ·next h1 h2 hc =>
     simp only[Bool.and_eq_true,beq_iff_eq,aN_] at hc h1;obtain⟨b,hb,hb0⟩:=go_ hs hc.1;have hbm:b∈t.args:=by rw[hb];simp
     have hnf:=fO_ t.name (aJ_ u++aJ_ (eo_ t)++[t.name,nm]);unfold hg_;rw[hb0] at hnf ⊢;generalize bK_ t.name (aJ_ u++aJ_ b++[t.name,nm])=n at *;simp only[List.mem_append,List.mem_cons,List.not_mem_nil,or_false,not_or,b8_] at hnf;have hr:=fd_ b.depth t.name n b (az_ _) (hs.args b hbm);rw[cf_ _ _ hc.1,hb,cf_ _ _ rfl];show Ty.mk 5 emp 0 [dbT (n :: env) (eC_ d nm u (dm_ t.name n b))]=sbT _ _ (Ty.mk 5 emp 0 [dbT (t.name :: env) b]);rw[ih (dm_ t.name n b) (n :: env) (by show (cm_ _ _ _ _).depth≤d;rw[hr.1];exact hd b hbm) hr.2.1 ?_ ?_,hx_ _ _ _ _ (hs.args b hbm) hnf.1.2,j0_]
     ·rfl
     ·simp only[List.mem_cons,not_or]
      exact⟨fun e=>hnf.2.2 e.symm,hn⟩
     ·intro x hx
      simp only[List.mem_cons,not_or];exact⟨fun e=>hnf.1.1 (e ▸ hx),hu x hx⟩
    ·next h1 h2 h3 =>
     simp only[Bool.and_eq_true,beq_iff_eq,aN_,cF_,b8_] at h1 h2 h3
     by_cases hk1:t.kind=1
     ·obtain⟨hn0,ha⟩:=hs.k1 hk1
      rw[ha];have e1:cj_ t ([].map (eC_ d nm u))=t:=by unfold cj_;rw[List.map_nil,← ha,pg_]
      rw[e1,cH_ _ _ hk1,pL_];unfold e4_;cases ixN env t.name with
      | some i=>simp only;rw[eV_];exact⟨rfl,fun a ha=>by cases ha⟩
      | none =>
       simp only;rw[eV_];refine⟨?_,fun a ha=>by cases ha⟩;rw[ef_,(iO_ _ _).2 fun e=>h2 ⟨hk1,e⟩];simp
     ·by_cases hk5:t.kind=5
      ·rw[cf_ _ _ hk5,cf_ _ _ (show (cj_ t _).kind=5 from hk5),j0_,ef_,if_neg (by simp)]
       congr 1;show (t.args.map _).map _=(t.args.map _).map _;rw[List.map_map,List.map_map];refine List.map_congr_left fun a ha=>ih a _ (hd a ha) (hs.args a ha) ?_ ?_
       ·simp only[List.mem_cons,not_or]
        exact⟨fun e=>h1 ⟨hk5,e.symm⟩,hn⟩
       ·intro x hx
        simp only[List.mem_cons,not_or];exact⟨fun e=>h3 ⟨hk5,by subst e;exact hx⟩,hu x hx⟩
      ·rw[bT_ _ _ hk1 hk5,bT_ _ _ (show (cj_ t _).kind≠1 from hk1) (show (cj_ t _).kind≠5 from hk5),j0_,ef_,if_neg (by simp[hk1])]
       show Ty.mk t.kind t.name t.n ((t.args.map _).map _)=_;congr 1;rw[List.map_map,List.map_map];exact List.map_congr_left fun a ha=>ih a _ (hd a ha) (hs.args a ha) hn hu
theorem gP_ (nm:ByteArray)(u t:Ty)(ht:Std t):dbT [] (ep_ nm u t)=sbT (gI_ nm) (dbT [] u) (dbT [] t) :=
 rm_ nm u t.depth t [] (az_ _) ht (by simp) (by simp)
theorem eP_ (nm:ByteArray)(u t:Ty)(ht:Std t)(hu:Std u):Std (ep_ nm u t):=o6_ nm u hu _ _ (az_ _) ht
def oC_ (p:Ty→Bool):Prop:=∀ t:Ty,p t=true→t.kind=1∨t.kind=2
theorem lS_ (f g:Ty→Ty)(ts:List Ty)(c:Nat)(h:∀ t∈ts,(f t).size≤(g t).size*c):aw_ (ts.map f)≤aw_ (ts.map g)*c:=by
 induction ts with
 | nil=>simp[aw_]
 | cons t ts ih =>
  rw[List.map_cons,List.map_cons,aw_,aw_,Nat.add_mul];have:=h t (by simp);have:=ih fun u hu=>h u (by simp[hu]);omega
theorem pK_ (p:Ty→Bool)(U:Ty):∀ t:Ty,(sbT p U t).size≤t.size*U.size:=by
 intro t;have hU:1≤U.size:=by rw[U.size_eq];omega
 induction t using Ty.ind with
 | h t ih =>
  rw[hc_]
  split
  ·rw[t.size_eq,Nat.add_mul];omega
  ·rw[Ty.size_eq,t.size_eq,Nat.add_mul]
   have h1:=lS_ (sbT p U) id t.args U.size ih;rw[List.map_id] at h1;show aw_ (t.args.map (sbT p U))+1≤aw_ t.args*U.size+1*U.size;omega
theorem ke_ (x:ByteArray):oC_ (gI_ x):=fun t h=>by unfold gI_ at h;simp at h;exact .inl h.1
theorem nx_ (nm:ByteArray)(u t:Ty)(ht:Std t)(hu:Std u):(ep_ nm u t).size≤t.size*u.size:=by
 have h:=pK_ (gI_ nm) (dbT [] u) (dbT [] t);rwa [← gP_ nm u t ht,fB_ _ (eP_ nm u t ht hu),fB_ _ ht,fB_ _ hu] at h
end
section
open Lx
structure It where
 bl:Bool
 k:Nat
 s:List UInt8
def It.text (i:It):List UInt8:=(if i.bl then [32] else [])++i.s
def itF:Nat→Bool→Ty→List It
 | 0,_,_=>[]
 | d+1,b,t =>
  if t.kind=2 then [⟨b,5,63 :: Lib.itoa t.n⟩]
  else if t.kind=3 then ⟨b,2,t.name.data.toList⟩ :: t.args.flatMap fun x=>if x.atomic then itF d true x else ⟨true,6,cs_⟩ :: (itF d false x++[⟨false,6,ce_⟩])
  else if t.kind=4 then (match t.args with
   | x :: y :: _=>(if decide (x.kind<4) then itF d b x else ⟨b,6,cs_⟩ :: (itF d false x++[⟨false,6,ce_⟩]))++⟨true,6,eB_⟩ :: itF d true y
   | _=>[])
  else if t.kind=5 then (match t.args with
   | x :: _=>⟨b,3,fa⟩ :: ⟨true,1,t.name.data.toList⟩ :: (if x.kind=5 then (itF d true x).tail else ⟨false,6,dot⟩ :: itF d true x)
   | _=>[])
  else [⟨b,1,t.name.data.toList⟩]
theorem m2_ (d:Nat)(b:Bool)(t x:Ty)(hk:t.kind=5)(hx:t.args=[x]):itF (d+1) b t=⟨b,3,fa⟩ :: ⟨true,1,t.name.data.toList⟩ :: (if x.kind=5 then (itF d true x).tail else ⟨false,6,dot⟩ :: itF d true x):=by
 rw[itF,if_neg (by omega),if_neg (by omega),if_neg (by omega),if_pos hk,hx]
theorem m1_ (d:Nat)(b:Bool)(t x y:Ty)(hk:t.kind=4)(hx:t.args=[x,y]):itF (d+1) b t=(if decide (x.kind<4) then itF d b x else ⟨b,6,cs_⟩ :: (itF d false x++[⟨false,6,ce_⟩]))++⟨true,6,eB_⟩ :: itF d true y:=by
 rw[itF,if_neg (by omega),if_neg (by omega),if_pos hk,hx]
theorem fN_ (d:Nat)(b:Bool)(t:Ty)(hk:t.kind=3):itF (d+1) b t=⟨b,2,t.name.data.toList⟩ :: t.args.flatMap fun x=>if x.atomic then itF d true x else ⟨true,6,cs_⟩ :: (itF d false x++[⟨false,6,ce_⟩]):=by
 rw[itF,if_neg (by omega),if_pos hk]
theorem fm_ (d:Nat)(b:Bool)(t:Ty)(hk:t.kind=2):itF (d+1) b t=[⟨b,5,63 :: Lib.itoa t.n⟩]:=by rw[itF,if_pos hk]
theorem gH_ (d:Nat)(b:Bool)(t:Ty)(hk:t.kind=1):itF (d+1) b t=[⟨b,1,t.name.data.toList⟩]:=by
 rw[itF,if_neg (by omega),if_neg (by omega),if_neg (by omega),if_neg (by omega)]
theorem ll_ {s r:List UInt8}(h:s≠[]):(s++r).headD 0=s.headD 0:=by
 cases s with
 | nil=>exact absurd rfl h
 | cons a s=>rfl
def kt (t:Tok):Nat × List UInt8:=(t.kind,t.text)
def ktI (i:It):Nat × List UInt8:=(i.k,i.s)
def LexK (t:Ty):Prop:=((t.kind=1∨t.kind=5)→fV_ t.name.data.toList∧bs_ (t.name.data.toList.headD 0)=true∧mY_.contains t.name.data.toList=false)∧(t.kind=3→fV_ t.name.data.toList∧bh_ (t.name.data.toList.headD 0)=true)∧(t.kind=2→t.n<1000000)
mutual
def qL_:Ty→Prop
 | .mk k s n args=>LexK (.mk k s n args)∧rw_ args
def rw_:List Ty→Prop
 | []=>True
 | t :: ts=>qL_ t∧rw_ ts
end
theorem o9_ (ts:List Ty):rw_ ts↔∀ t∈ts,qL_ t:=by
 induction ts with
 | nil=>simp[rw_]
 | cons t ts ih=>rw[rw_,ih];simp
theorem fL_ (t:Ty):qL_ t↔LexK t∧∀ a∈t.args,qL_ a:=by
 cases t with
 | mk k s n args=>rw[qL_,o9_];rfl
theorem fQ_ (u:Nat):(∀ c∈Lib.decDigits u,aH_ c=true)∧1≤(Lib.decDigits u).length∧(1≤u→(Lib.decDigits u).headD 0≠48)∧∀ k,1≤k→u<10 ^ k→(Lib.decDigits u).length≤k:=by
 induction u using Nat.strongRecOn with
 | _ u ih =>
  rw[Lib.decDigits];have dig:∀ d,d<10→aH_ (UInt8.ofNat (48+d))=true:=fun d hd=>by
   unfold aH_;simp only[decide_eq_true_eq];rw[UInt8.toNat_ofNat'];omega
  split
  ·next h =>
   refine⟨by simp only[List.mem_singleton];rintro c rfl;exact dig u h,by simp,fun h1=>?_,fun k hk _=>by simpa using hk⟩;simp only[List.headD_cons];intro e;have:=congrArg UInt8.toNat e;rw[UInt8.toNat_ofNat'] at this;simp at this;omega
  ·next h =>
   obtain⟨h1,h2,h3,h4⟩:=ih (u / 10) (by omega);refine⟨?_,by simp,fun _=>?_,fun k hk hu=>?_⟩
   ·intro c hc
    rcases List.mem_append.1 hc with hc|hc
    ·exact h1 c hc
    ·rw[List.mem_singleton.1 hc];exact dig _ (by omega)
   ·rw[ll_ (by intro e;rw[e] at h2;simp at h2)]
    exact h3 (by omega)
   ·cases k with
    | zero=>omega
    | succ k =>
     rw[List.length_append];have hk1:1≤k:=by
      cases k with
      | zero=>simp at hu;omega
      | succ k=>omega
     have:=h4 k hk1 (by rw[Nat.pow_succ] at hu;omega);simp;omega
end
end Go.Proofs.YtkihnodkhnahiaaGreatDoor.Tp

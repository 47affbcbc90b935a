/- Packed. -/
import Derived.Test.YtjecnionbjlncaaGreatDoorP19
import Derived.Test.YtjecnionbjlncaaGreatDoorP20
set_option maxRecDepth 100000
set_option maxHeartbeats 6400000
namespace Go.Proofs.YtjecnionbjlncaaGreatDoor.Tp
section
def iO_ (t:Ty):Ty:=.mk t.kind t.name t.n []
section
variable (p : Ty → Bool) (U : Ty)
mutual
def sbT:Ty→Ty
 | .mk k s n args=>if p (.mk k s n []) then U else .mk k s n (sbL args)
def sbL:List Ty→List Ty
 | []=>[]
 | t :: ts=>sbT t :: sbL ts
end
theorem md_ (ts:List Ty):sbL p U ts=ts.map (sbT p U):=by
 induction ts with
 | nil=>simp[sbL]
 | cons t ts ih=>rw[sbL,ih];rfl
theorem hb_ (t:Ty):sbT p U t=if p (iO_ t) then U else .mk t.kind t.name t.n (t.args.map (sbT p U)):=by
 cases t with
 | mk k s n args=>rw[sbT,md_];rfl
theorem cg_ (k:Int)(s:ByteArray)(n:Int)(args:List Ty):sbT p U (.mk k s n args)=if p (.mk k s n []) then U else .mk k s n (args.map (sbT p U)):=by rw[sbT,md_]
end
section
variable (p : Ty → Bool)
mutual
def noP:Ty→Prop
 | .mk k s n args=>p (.mk k s n [])=false∧noL args
def noL:List Ty→Prop
 | []=>True
 | t :: ts=>noP t∧noL ts
end
theorem m2_ (ts:List Ty):noL p ts↔∀ t∈ts,noP p t:=by
 induction ts with
 | nil=>simp[noL]
 | cons t ts ih=>rw[noL,ih];simp
theorem gr_ (t:Ty):noP p t↔p (iO_ t)=false∧∀ a∈t.args,noP p a:=by
 cases t with
 | mk k s n args=>rw[noP,m2_];rfl
theorem d1_ (k:Int)(s:ByteArray)(n:Int)(args:List Ty):noP p (.mk k s n args)↔p (.mk k s n [])=false∧∀ a∈args,noP p a:=by rw[noP,m2_]
end
theorem da_ (t:Ty):Ty.mk t.kind t.name t.n t.args=t:=by cases t;rfl
theorem d2_ {f:Ty→Ty}{l:List Ty}(h:∀ a∈l,f a=a):l.map f=l:=by
 conv=>rhs;rw[← List.map_id l]
 exact List.map_congr_left h
theorem jw_ (p:Ty→Bool)(U:Ty):∀ t:Ty,noP p t→sbT p U t=t:=by
 intro t
 induction t using Ty.ind with
 | h t ih =>
  intro h;obtain⟨h1,h2⟩:=(gr_ p t).1 h;rw[hb_,if_neg (by rw[h1];simp),d2_ fun a ha=>ih a ha (h2 a ha),da_]
theorem mc_ (p q:Ty→Bool)(U V:Ty)(hpq:∀ t,p t=true→q t=false)(hU:sbT q V U=U)(hV:sbT p U V=V):∀ t:Ty,sbT q V (sbT p U t)=sbT p U (sbT q V t):=by
 intro t
 induction t using Ty.ind with
 | h t ih =>
  cases t with
  | mk k s n args =>
   rw[cg_ p U,cg_ q V]
   by_cases h1:p (.mk k s n [])=true
   ·rw[if_pos h1,if_neg (by rw[hpq _ h1];simp),cg_ p U,if_pos h1,hU]
   ·by_cases h2:q (.mk k s n [])=true
    ·rw[if_neg h1,if_pos h2,cg_ q V,if_pos h2,hV]
    ·rw[if_neg h1,if_neg h2,cg_ q V,if_neg h2,cg_ p U,if_neg h1,List.map_map,List.map_map]
     congr 1;exact List.map_congr_left fun a ha=>ih a ha
def eD_ (x:ByteArray)(t:Ty):Bool:=t.kind==1&&eqN t.name x
theorem b3_ (x:ByteArray)(k:Int)(s:ByteArray)(n:Int)(a:List Ty):eD_ x (.mk k s n a)=(k==1&&eqN s x):=rfl
theorem gv_ (m:Int)(k:Int)(s:ByteArray)(n:Int)(a:List Ty):bo_ m (.mk k s n a)=(k==2&&n==m):=rfl
theorem m1_ (x:ByteArray):∀ (t:Ty) (env:List ByteArray),Std t→(¬ fvT x t∨x∈env)→noP (eD_ x) (dbT env t):=by
 intro t
 induction t using Ty.ind with
 | h t ih =>
  intro env hs h
  by_cases h5:t.kind=5
  ·rw[aN_ _ _ h5,d1_]
   refine⟨rfl,fun a ha=>?_⟩;obtain⟨b,hb,rfl⟩:=List.mem_map.1 ha;refine ih b hb _ (hs.args b hb) ?_
   by_cases e:x=t.name
   ·exact .inr (by simp[e])
   ·rcases h with h|h
    ·exact .inl fun hx=>h ((aG_ _ _).2 (.inr ⟨⟨b,hb,hx⟩,fun e'=>e e'.2.symm⟩))
    ·exact .inr (by simp[h])
  ·by_cases h1:t.kind=1
   ·rw[aX_ _ _ h1]
    unfold dd_;cases hi:ixN env t.name with
    | some i=>rw[d1_];exact⟨rfl,fun a ha=>by cases ha⟩
    | none =>
     rw[d1_];refine⟨?_,fun a ha=>by cases ha⟩;rw[b3_];have:t.name≠x:=by
      rintro rfl
      rcases h with h|h
      ·exact h ((aG_ _ _).2 (.inl ⟨h1,rfl⟩))
      ·exact (de_ _ _).1 hi h
     rw[(d7_ _ _).2 this];simp
   ·rw[ax_ _ _ h1 h5,d1_]
    refine⟨?_,fun a ha=>?_⟩
    ·rw[b3_];simp[h1]
    ·obtain⟨b,hb,rfl⟩:=List.mem_map.1 ha
     refine ih b hb _ (hs.args b hb) ?_
     rcases h with h|h
     ·exact .inl fun hx=>h ((aG_ _ _).2 (.inr ⟨⟨b,hb,hx⟩,fun e'=>h5 e'.1⟩))
     ·exact .inr h
theorem mem_metas_walk (m:Int):∀ (t:Ty) (out:List Int) (ns:List ByteArray),m∈cd_ aS_ t out ns↔m∈out∨¬ noP (bo_ m) t:=by
 intro t
 induction t using Ty.ind with
 | h t ih =>
  intro out ns;have hstep:m∈aS_ out t ns↔m∈out∨bo_ m (iO_ t)=true:=by
   rw[show bo_ m (iO_ t)=(t.kind==2&&t.n==m) from rfl];unfold aS_
   split
   ·next h =>
    simp only[Bool.and_eq_true,beq_iff_eq,Bool.not_eq_true'] at h;rw[List.mem_append,List.mem_singleton];simp only[Bool.and_eq_true,beq_iff_eq]
    constructor
    ·rintro (h'|rfl)
     ·exact .inl h'
     ·exact .inr ⟨h.1,rfl⟩
    ·rintro (h'|⟨_,h'⟩)
     ·exact .inl h'
     ·exact .inr h'.symm
   ·next h =>
    simp only[Bool.and_eq_true,beq_iff_eq,Bool.not_eq_true'] at h;simp only[Bool.and_eq_true,beq_iff_eq]
    constructor
    ·exact .inl
    ·rintro (h'|⟨h1,h2⟩)
     ·exact h'
     ·subst h2
      refine Classical.byContradiction fun hx=>h ⟨h1,?_⟩;rw[← Bool.not_eq_true,List.contains_iff_mem];exact hx
  have hl:∀ (l:List Ty) (out:List Int) (ns:List ByteArray),(∀ a∈l,∀ (out:List Int) (ns:List ByteArray),m∈cd_ aS_ a out ns↔m∈out∨¬ noP (bo_ m) a)→(m∈bI_ aS_ l out ns↔m∈out∨∃ a∈l,¬ noP (bo_ m) a):=by
   intro l
   induction l with
   | nil=>intro out ns _;simp[bI_]
   | cons a l ihl =>
    intro out ns h;rw[bI_,ihl _ _ fun b hb=>h b (by simp[hb]),h a (by simp)];simp only[List.mem_cons,exists_eq_or_imp];exact or_assoc
  rw[cw_,hl _ _ _ ih,hstep,gr_]
  constructor
  ·rintro ((h|h)|⟨a,ha,h⟩)
   ·exact .inl h
   ·exact .inr fun hn=>by rw[hn.1] at h;cases h
   ·exact .inr fun hn=>h (hn.2 a ha)
  ·rintro (h|h)
   ·exact .inl (.inl h)
   ·cases hb:bo_ m (iO_ t) with
    | true=>exact .inl (.inr rfl)
    | false=>exact .inr (Classical.byContradiction fun hx=>h ⟨hb,fun a ha=>Classical.byContradiction fun hn=>hx ⟨a,ha,hn⟩⟩)
theorem dx_ (m:Int)(t:Ty):m∈az_ t↔¬ noP (bo_ m) t:=by unfold az_;rw[mem_metas_walk];simp
theorem no_sb (p q:Ty→Bool)(U:Ty)(hU:noP p U):∀ t:Ty,(∀ k s n,p (.mk k s n [])=true→q (.mk k s n [])=true)→noP p (sbT q U t):=by
 intro t
 induction t using Ty.ind with
 | h t ih =>
  intro hpq;rw[hb_]
  split
  ·exact hU
  ·next h =>
   rw[d1_];refine⟨?_,fun a ha=>?_⟩
   ·cases e:p (.mk t.kind t.name t.n []) with
    | false=>rfl
    | true=>exact absurd (hpq _ _ _ e) h
   ·obtain⟨b,hb,rfl⟩:=List.mem_map.1 ha
    exact ih b hb hpq
theorem i5_ (u:Ty)(env:List ByteArray)(h:∀ x,fvT x u→x∉env):dbT env u=dbT [] u:=by
 refine nq_ u [] env fun x hx n=>?_;unfold dd_;rw[(de_ _ _).2 (h x hx)];rfl
theorem ph_ (nm:ByteArray)(u:Ty)(hu:Std u):∀ (d:Nat) (t:Ty),t.depth≤d→Std t→Std (ee_ d nm u t):=by
 intro d
 induction d with
 | zero=>intro t h;rw[t.depth_eq] at h;omega
 | succ d ih =>
  intro t h hs;have hd:∀ a∈t.args,a.depth≤d:=fun a ha=>by have:=aw_ _ ha;rw[t.depth_eq] at h;omega
  rw[ee_]
  split
  ·exact hs
  ·split
   ·exact hu
   ·split
    ·next hc =>
     simp only[Bool.and_eq_true,beq_iff_eq] at hc;obtain⟨b,hb,hb0⟩:=dX_ hs hc.1;rw[hb0];have hbm:b∈t.args:=by rw[hb];simp
     generalize a3_ t.name (aj_ u++aj_ b++[t.name,nm])=n;have hr:=dH_ b.depth t.name n b (aA_ _) (hs.args b hbm);unfold dR_;rw[hb0];exact hF_ n (ih (b4_ t.name n b) (by show (bX_ _ _ _ _).depth≤d;rw[hr.1];exact hd b hbm) hr.2.1)
    ·refine e5_ hs _ (by simp) fun a ha=>?_
     obtain⟨b,hb,rfl⟩:=List.mem_map.1 ha;exact ih b (hd b hb) (hs.args b hb)
theorem sE_ (nm:ByteArray)(u:Ty):∀ (d:Nat) (t:Ty) (env:List ByteArray),t.depth≤d→Std t→nm∉env→(∀ x,fvT x u→x∉env)→dbT env (ee_ d nm u t)=sbT (eD_ nm) (dbT [] u) (dbT env t):=by
 intro d
 induction d with
 | zero=>intro t env h;rw[t.depth_eq] at h;omega
 | succ d ih =>
  intro t env h hs hn hu;have hd:∀ a∈t.args,a.depth≤d:=fun a ha=>by have:=aw_ _ ha;rw[t.depth_eq] at h;omega
  rw[ee_]
  split
  ·next hc =>
   simp only[Bool.and_eq_true,beq_iff_eq,aI_] at hc;rw[jw_];refine m1_ nm t env hs (.inl fun hx=>?_)
   rcases (aG_ _ _).1 hx with h|h
   ·omega
   ·exact h.2 hc
  ·split
   ·next h1 hc =>
    simp only[Bool.and_eq_true,beq_iff_eq,aI_] at hc;rw[i5_ u env hu,aX_ _ _ hc.1,hc.2];unfold dd_;rw[(de_ _ _).2 hn];show _=sbT (eD_ nm) (dbT [] u) (.mk 1 nm t.n []);rw[cg_,b3_,(aI_ _ _).2 rfl];rfl
   ·split
    ·next h1 h2 hc =>
     simp only[Bool.and_eq_true,beq_iff_eq,aI_] at hc h1;obtain⟨b,hb,hb0⟩:=dX_ hs hc.1;have hbm:b∈t.args:=by rw[hb];simp
     have hnf:=ew_ t.name (aj_ u++aj_ (cm_ t)++[t.name,nm]);unfold dR_;rw[hb0] at hnf ⊢;generalize a3_ t.name (aj_ u++aj_ b++[t.name,nm])=n at *;simp only[List.mem_append,List.mem_cons,List.not_mem_nil,or_false,not_or,bc_] at hnf;have hr:=dH_ b.depth t.name n b (aA_ _) (hs.args b hbm);rw[aN_ _ _ hc.1,hb,aN_ _ _ rfl];show Ty.mk 5 emp 0 [dbT (n :: env) (ee_ d nm u (b4_ t.name n b))]=sbT _ _ (Ty.mk 5 emp 0 [dbT (t.name :: env) b]);rw[ih (b4_ t.name n b) (n :: env) (by show (bX_ _ _ _ _).depth≤d;rw[hr.1];exact hd b hbm) hr.2.1 ?_ ?_,fS_ _ _ _ _ (hs.args b hbm) hnf.1.2,cg_]
     ·rfl
     ·simp only[List.mem_cons,not_or]
      exact⟨fun e=>hnf.2.2 e.symm,hn⟩
     ·intro x hx
      simp only[List.mem_cons,not_or];exact⟨fun e=>hnf.1.1 (e ▸ hx),hu x hx⟩
    ·next h1 h2 h3 =>
     simp only[Bool.and_eq_true,beq_iff_eq,aI_,bT_,bc_] at h1 h2 h3
     by_cases hk1:t.kind=1
     ·obtain⟨hn0,ha⟩:=hs.k1 hk1
      rw[ha];have e1:bf_ t ([].map (ee_ d nm u))=t:=by unfold bf_;rw[List.map_nil,← ha,da_]
      rw[e1,aX_ _ _ hk1,jw_];unfold dd_;cases ixN env t.name with
      | some i=>simp only;rw[d1_];exact⟨rfl,fun a ha=>by cases ha⟩
      | none =>
       simp only;rw[d1_];refine⟨?_,fun a ha=>by cases ha⟩;rw[b3_,(d7_ _ _).2 fun e=>h2 ⟨hk1,e⟩];simp
     ·by_cases hk5:t.kind=5
      ·rw[aN_ _ _ hk5,aN_ _ _ (show (bf_ t _).kind=5 from hk5),cg_,b3_,if_neg (by simp)]
       congr 1;show (t.args.map _).map _=(t.args.map _).map _;rw[List.map_map,List.map_map];refine List.map_congr_left fun a ha=>ih a _ (hd a ha) (hs.args a ha) ?_ ?_
       ·simp only[List.mem_cons,not_or]
        exact⟨fun e=>h1 ⟨hk5,e.symm⟩,hn⟩
       ·intro x hx
        simp only[List.mem_cons,not_or];exact⟨fun e=>h3 ⟨hk5,by subst e;exact hx⟩,hu x hx⟩
      ·rw[ax_ _ _ hk1 hk5,ax_ _ _ (show (bf_ t _).kind≠1 from hk1) (show (bf_ t _).kind≠5 from hk5),cg_,b3_,if_neg (by simp[hk1])]
       show Ty.mk t.kind t.name t.n ((t.args.map _).map _)=_;congr 1;rw[List.map_map,List.map_map];exact List.map_congr_left fun a ha=>ih a _ (hd a ha) (hs.args a ha) hn hu
theorem oo_ (u:Ty)(free:List ByteArray)(is:Ty→Bool)(hu:Std u):∀ (d:Nat) (t:Ty),t.depth≤d→Std t→Std (dV_ d u free is t):=by
 intro d
 induction d with
 | zero=>intro t h;rw[t.depth_eq] at h;omega
 | succ d ih =>
  intro t h hs;have hd:∀ a∈t.args,a.depth≤d:=fun a ha=>by have:=aw_ _ ha;rw[t.depth_eq] at h;omega
  rw[dV_]
  split
  ·exact hu
  ·split
   ·next hc =>
    simp only[Bool.and_eq_true,beq_iff_eq] at hc;obtain⟨b,hb,hb0⟩:=dX_ hs hc.1;rw[hb0];have hbm:b∈t.args:=by rw[hb];simp
    generalize a3_ t.name (free++aj_ b++[t.name])=n;have hr:=dH_ b.depth t.name n b (aA_ _) (hs.args b hbm);unfold dR_;rw[hb0];exact hF_ n (ih (b4_ t.name n b) (by show (bX_ _ _ _ _).depth≤d;rw[hr.1];exact hd b hbm) hr.2.1)
   ·refine e5_ hs _ (by simp) fun a ha=>?_
    obtain⟨b,hb,rfl⟩:=List.mem_map.1 ha;exact ih b (hd b hb) (hs.args b hb)
theorem rd_ (m:Int)(u:Ty):∀ (d:Nat) (t:Ty) (env:List ByteArray),t.depth≤d→Std t→(∀ x,fvT x u→x∉env)→dbT env (dV_ d u (aj_ u) (bo_ m) t)=sbT (bo_ m) (dbT [] u) (dbT env t):=by
 intro d
 induction d with
 | zero=>intro t env h;rw[t.depth_eq] at h;omega
 | succ d ih =>
  intro t env h hs hu;have hd:∀ a∈t.args,a.depth≤d:=fun a ha=>by have:=aw_ _ ha;rw[t.depth_eq] at h;omega
  rw[dV_]
  split
  ·next hc =>
   unfold bo_ at hc;simp only[Bool.and_eq_true,beq_iff_eq] at hc;rw[i5_ u env hu,ax_ env t (by omega) (by omega),cg_,gv_,if_pos (by simp[hc])]
  ·next hc0 =>
   unfold bo_ at hc0;simp only[Bool.and_eq_true,beq_iff_eq] at hc0
   split
   ·next hc =>
    simp only[Bool.and_eq_true,beq_iff_eq] at hc;obtain⟨b,hb,hb0⟩:=dX_ hs hc.1;have hbm:b∈t.args:=by rw[hb];simp
    have hnf:=ew_ t.name (aj_ u++aj_ (cm_ t)++[t.name]);unfold dR_;rw[hb0] at hnf ⊢;generalize a3_ t.name (aj_ u++aj_ b++[t.name])=n at *;simp only[List.mem_append,List.mem_cons,List.not_mem_nil,or_false,not_or,bc_] at hnf;have hr:=dH_ b.depth t.name n b (aA_ _) (hs.args b hbm);rw[aN_ _ _ hc.1,hb,aN_ _ _ rfl];show Ty.mk 5 emp 0 [dbT (n :: env) (dV_ d u (aj_ u) (bo_ m) (b4_ t.name n b))]=sbT _ _ (Ty.mk 5 emp 0 [dbT (t.name :: env) b]);rw[ih (b4_ t.name n b) (n :: env) (by show (bX_ _ _ _ _).depth≤d;rw[hr.1];exact hd b hbm) hr.2.1 ?_,fS_ _ _ _ _ (hs.args b hbm) hnf.1.2,cg_]
    ·rfl
    ·intro x hx
     simp only[List.mem_cons,not_or];exact⟨fun e=>hnf.1.1 (e ▸ hx),hu x hx⟩
   ·next h3 =>
    simp only[Bool.and_eq_true,beq_iff_eq,bT_,bc_] at h3
    by_cases hk1:t.kind=1
    ·obtain⟨hn0,ha⟩:=hs.k1 hk1
     rw[ha];have e1:bf_ t ([].map (dV_ d u (aj_ u) (bo_ m)))=t:=by unfold bf_;rw[List.map_nil,← ha,da_]
     rw[e1,aX_ _ _ hk1,jw_];unfold dd_;cases ixN env t.name<;>(simp only;rw[d1_];exact⟨rfl,fun a ha=>by cases ha⟩)
    ·by_cases hk5:t.kind=5
     ·rw[aN_ _ _ hk5,aN_ _ _ (show (bf_ t _).kind=5 from hk5),cg_,gv_,if_neg (by simp)]
      congr 1;show (t.args.map _).map _=(t.args.map _).map _;rw[List.map_map,List.map_map];refine List.map_congr_left fun a ha=>ih a _ (hd a ha) (hs.args a ha) ?_;intro x hx;simp only[List.mem_cons,not_or];exact⟨fun e=>h3 ⟨hk5,by subst e;exact hx⟩,hu x hx⟩
     ·rw[ax_ _ _ hk1 hk5,ax_ _ _ (show (bf_ t _).kind≠1 from hk1) (show (bf_ t _).kind≠5 from hk5),cg_,gv_,if_neg (by simp only[Bool.and_eq_true,beq_iff_eq];exact hc0)]
      show Ty.mk t.kind t.name t.n ((t.args.map _).map _)=_;congr 1;rw[List.map_map,List.map_map];exact List.map_congr_left fun a ha=>ih a _ (hd a ha) (hs.args a ha) hu
theorem eX_ (nm:ByteArray)(u t:Ty)(ht:Std t):dbT [] (eH_ nm u t)=sbT (eD_ nm) (dbT [] u) (dbT [] t) :=
 sE_ nm u t.depth t [] (aA_ _) ht (by simp) (by simp)
theorem cl_ (m:Int)(u t:Ty)(ht:Std t):dbT [] (bp_ m u t)=sbT (bo_ m) (dbT [] u) (dbT [] t) :=
 rd_ m u t.depth t [] (aA_ _) ht (by simp)
theorem fu_ (nm:ByteArray)(u t:Ty)(ht:Std t)(hu:Std u):Std (eH_ nm u t):=ph_ nm u hu _ _ (aA_ _) ht
theorem cA_ (m:Int)(u t:Ty)(ht:Std t)(hu:Std u):Std (bp_ m u t):=oo_ u _ _ hu _ _ (aA_ _) ht
theorem r8_ (a b:ByteArray)(t u v:Ty)(ht:Std t)(hu:Std u)(hv:Std v)(hab:a≠b)(h1:¬ fvT b u)(h2:¬ fvT a v):dbT [] (eH_ b v (eH_ a u t))=dbT [] (eH_ a u (eH_ b v t)):=by
 rw[eX_ _ _ _ (fu_ a u t ht hu),eX_ _ _ _ (fu_ b v t ht hv),eX_ _ _ _ ht,eX_ _ _ _ ht];refine mc_ _ _ _ _ (fun x hx=>?_) (jw_ _ _ _ (m1_ b u [] hu (.inl h1))) (jw_ _ _ _ (m1_ a v [] hv (.inl h2))) _;unfold eD_ at *;simp only[Bool.and_eq_true,beq_iff_eq,aI_] at hx;rw[hx.1,hx.2,(d7_ _ _).2 hab];rfl
theorem rH_ (a b:Int)(t u v:Ty)(ht:Std t)(hu:Std u)(hv:Std v)(hab:a≠b)(h1:b∉az_ u)(h2:a∉az_ v):dbT [] (bp_ b v (bp_ a u t))=dbT [] (bp_ a u (bp_ b v t)):=by
 rw[cl_ _ _ _ (cA_ a u t ht hu),cl_ _ _ _ (cA_ b v t ht hv),cl_ _ _ _ ht,cl_ _ _ _ ht];rw[dI_ u hu,dx_,Classical.not_not] at h1;rw[dI_ v hv,dx_,Classical.not_not] at h2;refine mc_ _ _ _ _ (fun x hx=>?_) (jw_ _ _ _ h1) (jw_ _ _ _ h2) _;unfold bo_ at *;simp only[Bool.and_eq_true,beq_iff_eq] at hx;rw[hx.1,hx.2,beq_eq_false_iff_ne.2 hab];simp
theorem sv_ (m:Int)(t u:Ty)(ht:Std t)(hu:Std u)(h:m∉az_ u):m∉az_ (bp_ m u t):=by
 rw[dI_ _ (cA_ m u t ht hu),cl_ _ _ _ ht,dx_,Classical.not_not];rw[dI_ u hu,dx_,Classical.not_not] at h;exact no_sb _ _ _ h _ fun _ _ _ h=>h
theorem gG_ (f g:Ty→Ty)(ts:List Ty)(c:Nat)(h:∀ t∈ts,(f t).depth≤(g t).depth+c):al_ (ts.map f)≤al_ (ts.map g)+c:=by
 induction ts with
 | nil=>simp[al_]
 | cons t ts ih =>
  rw[List.map_cons,List.map_cons,al_,al_];have:=h t (by simp);have:=ih fun u hu=>h u (by simp[hu]);omega
def qW_ (p:Ty→Bool):Prop:=∀ t:Ty,p t=true→t.kind=1∨t.kind=2
theorem rc_ (t:Ty)(hs:Std t)(env:List ByteArray)(h:(dbT env t).kind=1∨(dbT env t).kind=2):(dbT env t).args=[]:=by
 by_cases h5:t.kind=5
 ·rw[aN_ _ _ h5] at h;simp[Ty.kind] at h
 ·by_cases h1:t.kind=1
  ·rw[aX_ _ _ h1];unfold dd_;cases ixN env t.name<;>rfl
  ·rw[ax_ _ _ h1 h5] at h ⊢
   have h2:t.kind=2:=h.resolve_left h1;show t.args.map _=[];rw[(hs.k2 h2).2.1];rfl
theorem n3_ (p:Ty→Bool)(hp:qW_ p)(U:Ty):∀ (t:Ty) (env:List ByteArray),Std t→(dbT env t).depth≤(sbT p U (dbT env t)).depth∧(sbT p U (dbT env t)).depth+1≤(dbT env t).depth+U.depth:=by
 intro t;have hU:1≤U.depth:=by rw[U.depth_eq];omega
 induction t using Ty.ind with
 | h t ih =>
  intro env hs;have hlf:=rc_ t hs env;have key:∀ e:List ByteArray,(∀ k s n,Ty.depth (.mk k s n (t.args.map (dbT e)))≤Ty.depth (.mk k s n ((t.args.map (dbT e)).map (sbT p U)))∧Ty.depth (.mk k s n ((t.args.map (dbT e)).map (sbT p U)))+1≤Ty.depth (.mk k s n (t.args.map (dbT e)))+U.depth):=by
   intro e k s n;rw[Ty.depth_eq (.mk k s n (t.args.map (dbT e))),Ty.depth_eq (.mk k s n ((t.args.map (dbT e)).map (sbT p U)))];show al_ (t.args.map (dbT e))+1≤al_ ((t.args.map (dbT e)).map (sbT p U))+1∧al_ ((t.args.map (dbT e)).map (sbT p U))+1+1≤al_ (t.args.map (dbT e))+1+U.depth;rw[List.map_map];have h1:=gG_ (dbT e) (sbT p U ∘ dbT e) t.args 0 fun a ha=>(ih a ha e (hs.args a ha)).1;have h2:=gG_ (sbT p U ∘ dbT e) (dbT e) t.args (U.depth - 1) fun a ha=>by
    have:=(ih a ha e (hs.args a ha)).2;show (sbT p U (dbT e a)).depth≤_;omega
   omega
  by_cases hpn:p (iO_ (dbT env t))=true
  ·have hk:(dbT env t).kind=1∨(dbT env t).kind=2:=hp (iO_ (dbT env t)) hpn
   rw[hb_,if_pos hpn,Ty.depth_eq (dbT env t),hlf hk];simp only[al_];omega
  ·rw[hb_,if_neg hpn]
   by_cases h5:t.kind=5
   ·rw[aN_ _ _ h5];exact key _ _ _ _
   ·by_cases h1:t.kind=1
    ·rw[aX_ _ _ h1]
     unfold dd_;cases ixN env t.name<;>(simp only[Ty.args,Ty.kind,Ty.name,Ty.n,List.map_nil];rw[Ty.depth_eq];simp only[Ty.args,al_];omega)
    ·rw[ax_ _ _ h1 h5];exact key _ _ _ _
theorem l6_ (f g:Ty→Ty)(ts:List Ty)(c:Nat)(h:∀ t∈ts,(f t).size≤(g t).size*c):ai_ (ts.map f)≤ai_ (ts.map g)*c:=by
 induction ts with
 | nil=>simp[ai_]
 | cons t ts ih =>
  rw[List.map_cons,List.map_cons,ai_,ai_,Nat.add_mul];have:=h t (by simp);have:=ih fun u hu=>h u (by simp[hu]);omega
theorem ma_ (p:Ty→Bool)(U:Ty):∀ t:Ty,(sbT p U t).size≤t.size*U.size:=by
 intro t;have hU:1≤U.size:=by rw[U.size_eq];omega
 induction t using Ty.ind with
 | h t ih =>
  rw[hb_]
  split
  ·rw[t.size_eq,Nat.add_mul];omega
  ·rw[Ty.size_eq,t.size_eq,Nat.add_mul]
   have h1:=l6_ (sbT p U) id t.args U.size ih;rw[List.map_id] at h1;show ai_ (t.args.map (sbT p U))+1≤ai_ t.args*U.size+1*U.size;omega
theorem oN_ (x:ByteArray):qW_ (eD_ x):=fun t h=>by unfold eD_ at h;simp at h;exact .inl h.1
theorem so_ (m:Int):qW_ (bo_ m):=fun t h=>by unfold bo_ at h;simp at h;exact .inr h.1
theorem rN_ (nm:ByteArray)(u t:Ty)(ht:Std t)(hu:Std u):t.depth≤(eH_ nm u t).depth∧(eH_ nm u t).depth<t.depth+u.depth:=by
 have h:=n3_ (eD_ nm) (oN_ nm) (dbT [] u) t [] ht;rw[← eX_ nm u t ht,fn_ _ (fu_ nm u t ht hu),fn_ _ ht,fn_ _ hu] at h;omega
theorem sU_ (nm:ByteArray)(u t:Ty)(ht:Std t)(hu:Std u):(eH_ nm u t).size≤t.size*u.size:=by
 have h:=ma_ (eD_ nm) (dbT [] u) (dbT [] t);rwa [← eX_ nm u t ht,bL_ _ (fu_ nm u t ht hu),bL_ _ ht,bL_ _ hu] at h
theorem rI_ (m:Int)(u t:Ty)(ht:Std t)(hu:Std u):(bp_ m u t).size≤t.size*u.size:=by
 have h:=ma_ (bo_ m) (dbT [] u) (dbT [] t);rwa [← cl_ m u t ht,bL_ _ (cA_ m u t ht hu),bL_ _ ht,bL_ _ hu] at h
end
section
open Lx
structure It where
 bl:Bool
 k:Nat
 s:List UInt8
def It.text (i:It):List UInt8:=(if i.bl then [32] else [])++i.s
def bs_ (l:List It):List UInt8:=l.flatMap It.text
theorem aQ_ (i:It)(l:List It):bs_ (i :: l)=(if i.bl then [32] else [])++i.s++bs_ l:=rfl
theorem e4_ (a b:List It):bs_ (a++b)=bs_ a++bs_ b:=List.flatMap_append
def body0 (t:Ty):Ty:=cm_ t
def itF:Nat→Bool→Ty→List It
 | 0,_,_=>[]
 | d+1,b,t =>
  if t.kind=2 then [⟨b,5,63 :: Lib.itoa t.n⟩]
  else if t.kind=3 then ⟨b,2,t.name.data.toList⟩ :: t.args.flatMap fun x=>if x.atomic then itF d true x else ⟨true,6,do_⟩ :: (itF d false x++[⟨false,6,eN_⟩])
  else if t.kind=4 then (match t.args with
   | x :: y :: _=>(if decide (x.kind<4) then itF d b x else ⟨b,6,do_⟩ :: (itF d false x++[⟨false,6,eN_⟩]))++⟨true,6,cD_⟩ :: itF d true y
   | _=>[])
  else if t.kind=5 then (match t.args with
   | x :: _=>⟨b,3,fa⟩ :: ⟨true,1,t.name.data.toList⟩ :: (if x.kind=5 then (itF d true x).tail else ⟨false,6,dot⟩ :: itF d true x)
   | _=>[])
  else [⟨b,1,t.name.data.toList⟩]
theorem eT_ (d:Nat)(b:Bool)(t x:Ty)(hk:t.kind=5)(hx:t.args=[x]):itF (d+1) b t=⟨b,3,fa⟩ :: ⟨true,1,t.name.data.toList⟩ :: (if x.kind=5 then (itF d true x).tail else ⟨false,6,dot⟩ :: itF d true x):=by
 rw[itF,if_neg (by omega),if_neg (by omega),if_neg (by omega),if_pos hk,hx]
theorem fO_ (d:Nat)(b:Bool)(t x y:Ty)(hk:t.kind=4)(hx:t.args=[x,y]):itF (d+1) b t=(if decide (x.kind<4) then itF d b x else ⟨b,6,do_⟩ :: (itF d false x++[⟨false,6,eN_⟩]))++⟨true,6,cD_⟩ :: itF d true y:=by
 rw[itF,if_neg (by omega),if_neg (by omega),if_pos hk,hx]
theorem dp_ (d:Nat)(b:Bool)(t:Ty)(hk:t.kind=3):itF (d+1) b t=⟨b,2,t.name.data.toList⟩ :: t.args.flatMap fun x=>if x.atomic then itF d true x else ⟨true,6,do_⟩ :: (itF d false x++[⟨false,6,eN_⟩]):=by
 rw[itF,if_neg (by omega),if_pos hk]
theorem cS_ (d:Nat)(b:Bool)(t:Ty)(hk:t.kind=2):itF (d+1) b t=[⟨b,5,63 :: Lib.itoa t.n⟩]:=by rw[itF,if_pos hk]
theorem dM_ (d:Nat)(b:Bool)(t:Ty)(hk:t.kind=1):itF (d+1) b t=[⟨b,1,t.name.data.toList⟩]:=by
 rw[itF,if_neg (by omega),if_neg (by omega),if_neg (by omega),if_neg (by omega)]
theorem lv_:d6_=fa++[32]:=rfl
theorem lh_ (t:Ty)(hk:t.kind=1):ag_ t=t.name.data.toList:=by
 rw[bM_];unfold fY_;rw[if_neg (by omega),if_neg (by omega),if_neg (by omega),if_neg (by omega)]
theorem jB_ (t:Ty)(hk:t.kind=2):ag_ t=63 :: Lib.itoa t.n:=by
 rw[bM_];unfold fY_;rw[if_pos hk]
theorem lj_ (t:Ty)(hk:t.kind=3):ag_ t=t.name.data.toList++(t.args.zip (t.args.map ag_)).flatMap fun x=>32 :: c7_ x.1.atomic x.2:=by
 rw[bM_];unfold fY_;rw[if_neg (by omega),if_pos hk]
theorem li_ (t x y:Ty)(hk:t.kind=4)(hx:t.args=[x,y]):ag_ t=c7_ (decide (x.kind<4)) (ag_ x)++[32,45,62,32]++ag_ y:=by
 rw[bM_];unfold fY_;rw[if_neg (by omega),if_neg (by omega),if_pos hk,hx];rfl
theorem hf_ (t x:Ty)(hk:t.kind=5)(hx:t.args=[x]):ag_ t=d6_++t.name.data.toList++(if x.kind=5 then 32 :: (ag_ x).drop 7 else [46,32]++ag_ x):=by
 rw[bM_];unfold fY_;rw[if_neg (by omega),if_neg (by omega),if_neg (by omega),if_pos hk,hx];rfl
theorem e3_ (i:It):bs_ [i]=(if i.bl then [32] else [])++i.s:=by rw[aQ_];simp[bs_]
theorem js_:∀ (d:Nat) (t:Ty) (b:Bool),t.depth≤d→Std t→bs_ (itF d b t)=(if b then [32] else [])++ag_ t:=by
 intro d
 induction d with
 | zero=>intro t b h;rw[t.depth_eq] at h;omega
 | succ d ih =>
  intro t b h hs;have hd:∀ a∈t.args,a.depth≤d:=fun a ha=>by have:=aw_ _ ha;rw[t.depth_eq] at h;omega
  rcases ((a4_ t).1 hs).1 with hk|hk|hk|hk|hk
  ·rw[dM_ _ _ _ hk.1,lh_ t hk.1,e3_]
  ·rw[cS_ _ _ _ hk.1,jB_ t hk.1,e3_]
  ·rw[dp_ _ _ _ hk.1,lj_ t hk.1,aQ_]
   have:∀ l:List Ty,(∀ a∈l,a∈t.args)→bs_ (l.flatMap fun x=>if x.atomic then itF d true x else ⟨true,6,do_⟩ :: (itF d false x++[⟨false,6,eN_⟩]))=(l.zip (l.map ag_)).flatMap fun x=>32 :: c7_ x.1.atomic x.2:=by
    intro l
    induction l with
    | nil=>intro _;rfl
    | cons a l ihl =>
     intro hl;rw[List.flatMap_cons,e4_,ihl fun c hc=>hl c (by simp[hc]),List.map_cons,List.zip_cons_cons,List.flatMap_cons];congr 1;have ha:=hl a (by simp);show bs_ (if a.atomic then _ else _)=32 :: c7_ a.atomic (ag_ a);unfold c7_
     split
     ·rw[ih a true (hd a ha) (hs.args a ha)];rfl
     ·rw[aQ_,e4_,ih a false (hd a ha) (hs.args a ha),e3_]
      simp[do_,eN_]
   rw[this t.args fun a ha=>ha];simp
  ·obtain⟨x,y,hxy⟩:∃ x y,t.args=[x,y]:=by
    match hl:t.args,hk.2.2.2 with
    | [x,y],_=>exact⟨x,y,rfl⟩
   have hx:=ih x b (hd x (by rw[hxy];simp)) (hs.args x (by rw[hxy];simp));have hx':=ih x false (hd x (by rw[hxy];simp)) (hs.args x (by rw[hxy];simp));have hy:=ih y true (hd y (by rw[hxy];simp)) (hs.args y (by rw[hxy];simp));rw[fO_ _ _ _ x y hk.1 hxy,li_ t x y hk.1 hxy,e4_,aQ_,hy];unfold c7_
   split
   ·rw[hx];simp[cD_]
   ·rw[aQ_,e4_,hx',e3_];simp[do_,eN_,cD_]
  ·obtain⟨x,hx⟩:∃ x,t.args=[x]:=by
    match hl:t.args,hk.2.2 with
    | [x],_=>exact⟨x,rfl⟩
   have hx':=ih x true (hd x (by rw[hx];simp)) (hs.args x (by rw[hx];simp));rw[eT_ _ _ _ x hk.1 hx,hf_ t x hk.1 hx,aQ_,aQ_,lv_]
   by_cases h5:x.kind=5
   ·rw[if_pos h5,if_pos h5]
    obtain⟨z,hz⟩:∃ z,x.args=[z]:=by
     match hl:x.args,((hs.args x (by rw[hx];simp)).k5 h5).2 with
     | [z],_=>exact⟨z,rfl⟩
    match d,(show 1≤d by have:=hd x (by rw[hx];simp);rw[x.depth_eq] at this;omega) with
    | d+1,_ =>
     rw[eT_ _ _ _ z h5 hz] at hx' ⊢;rw[aQ_] at hx';simp only[List.tail_cons];have e1:=hf_ x z h5 hz;have e0:ag_ x=fa++bs_ ((⟨true,1,x.name.data.toList⟩:It) :: (if z.kind=5 then (itF d true z).tail else ⟨false,6,dot⟩ :: itF d true z)):=by
      exact (List.cons.inj (show (32:UInt8) :: (fa++bs_ _)=32 :: ag_ x from hx')).2.symm
     have e2:(ag_ x).drop 7=(bs_ ((⟨true,1,x.name.data.toList⟩:It) :: (if z.kind=5 then (itF d true z).tail else ⟨false,6,dot⟩ :: itF d true z))).drop 1:=by
      rw[e0];rfl
     rw[e2,aQ_];simp
   ·rw[if_neg h5,if_neg h5,aQ_,hx']
    simp[dot]
def bF_:Bool→List It→Prop
 | _,[]=>True
 | ps,y :: ys=>(y.bl=true∨y.k=6∨ps=true)∧bF_ (y.k==6) ys
theorem jF_ {ps:Bool}{l:List It}(h:bF_ ps l):bF_ true l:=by
 cases l with
 | nil=>trivial
 | cons y ys=>exact⟨.inr (.inr rfl),h.2⟩
theorem hh_ {ps:Bool}{l:List It}(h:bF_ false l):bF_ ps l:=by
 cases ps with
 | false=>exact h
 | true=>exact jF_ h
theorem qD_:∀ (d:Nat) (t:Ty) (b ps:Bool) (r:List It),t.depth≤d→Std t→(b=true∨ps=true)→bF_ false r→bF_ ps (itF d b t++r)∧(t.kind=5→bF_ ps ((itF d b t).tail++r)):=by
 intro d
 induction d with
 | zero=>intro t b ps r h;rw[t.depth_eq] at h;omega
 | succ d ih =>
  intro t b ps r h hs hb hr;have hd:∀ a∈t.args,a.depth≤d:=fun a ha=>by have:=aw_ _ ha;rw[t.depth_eq] at h;omega
  have hb':b=true∨(1:Nat)=6∨ps=true:=hb.imp id .inr
  rcases ((a4_ t).1 hs).1 with hk|hk|hk|hk|hk
  ·rw[dM_ _ _ _ hk.1]
   exact⟨⟨hb.imp id .inr,hr⟩,fun e=>by omega⟩
  ·rw[cS_ _ _ _ hk.1]
   exact⟨⟨hb.imp id .inr,hr⟩,fun e=>by omega⟩
  ·rw[dp_ _ _ _ hk.1]
   refine⟨⟨hb.imp id .inr,?_⟩,fun e=>by omega⟩;show bF_ false (_++r);have:∀ l:List Ty,(∀ a∈l,a∈t.args)→bF_ false ((l.flatMap fun x=>if x.atomic then itF d true x else ⟨true,6,do_⟩ :: (itF d false x++[⟨false,6,eN_⟩]))++r):=by
    intro l
    induction l with
    | nil=>intro _;exact hr
    | cons a l ihl =>
     intro hl;have ha:=hl a (by simp);have hrest:=ihl fun c hc=>hl c (by simp[hc]);rw[List.flatMap_cons,List.append_assoc];generalize (l.flatMap fun x=>if x.atomic then itF d true x else (⟨true,6,do_⟩:It) :: (itF d false x++[⟨false,6,eN_⟩]))++r=q at *
     split
     ·exact (ih a true false q (hd a ha) (hs.args a ha) (.inl rfl) hrest).1
     ·refine⟨.inl rfl,?_⟩
      show bF_ true (_++[_]++q);rw[List.append_assoc];exact (ih a false true _ (hd a ha) (hs.args a ha) (.inr rfl) (show bF_ false ((⟨false,6,eN_⟩:It) :: q) from ⟨.inr (.inl rfl),hh_ hrest⟩)).1
   exact this t.args fun a ha=>ha
  ·obtain⟨x,y,hxy⟩:∃ x y,t.args=[x,y]:=by
    match hl:t.args,hk.2.2.2 with
    | [x,y],_=>exact⟨x,y,rfl⟩
   refine⟨?_,fun e=>by omega⟩;rw[fO_ _ _ _ x y hk.1 hxy,List.append_assoc];have hy:bF_ false ((⟨true,6,cD_⟩:It) :: itF d true y++r):=⟨.inl rfl,(ih y true true r (hd y (by rw[hxy];simp)) (hs.args y (by rw[hxy];simp)) (.inl rfl) hr).1⟩;generalize (⟨true,6,cD_⟩:It) :: itF d true y++r=q at *
   split
   ·exact (ih x b ps q (hd x (by rw[hxy];simp)) (hs.args x (by rw[hxy];simp)) hb hy).1
   ·refine⟨.inr (.inl rfl),?_⟩
    show bF_ true (_++[_]++q);rw[List.append_assoc];exact (ih x false true _ (hd x (by rw[hxy];simp)) (hs.args x (by rw[hxy];simp)) (.inr rfl) (show bF_ false ((⟨false,6,eN_⟩:It) :: q) from ⟨.inr (.inl rfl),hh_ hy⟩)).1
  ·obtain⟨x,hx⟩:∃ x,t.args=[x]:=by
    match hl:t.args,hk.2.2 with
    | [x],_=>exact⟨x,rfl⟩
   have hx':=fun ps'=>ih x true ps' r (hd x (by rw[hx];simp)) (hs.args x (by rw[hx];simp)) (.inl rfl) hr;have tail:∀ ps',bF_ ps' (((⟨true,1,t.name.data.toList⟩:It) :: (if x.kind=5 then (itF d true x).tail else ⟨false,6,dot⟩ :: itF d true x))++r):=by
    intro ps';refine⟨.inl rfl,?_⟩;show bF_ false (_++r)
    split
    ·next h5=>exact (hx' false).2 h5
    ·exact⟨.inr (.inl rfl),(hx' true).1⟩
   rw[eT_ _ _ _ x hk.1 hx];exact⟨⟨hb.imp id .inr,tail false⟩,fun _=>tail ps⟩
def lK_ (i:It):Prop :=
 (i.k=1∧dU_ i.s∧aV_ (i.s.headD 0)=true∧jk_.contains i.s=false)∨(i.k=2∧dU_ i.s∧aO_ (i.s.headD 0)=true)∨(i.k=3∧i.s=fa) ∨
 (i.k=5∧∃ ds,i.s=63 :: ds∧pk_ ds)∨(i.k=6∧(i.s=do_∨i.s=eN_∨i.s=dot∨i.s=cD_))
theorem iz_ (p:UInt8→Bool)(s r:List UInt8)(h:∀ c∈s,p c=true)(hr:p (r.headD 0)=false):bg_ p (s++r)=s.length:=by
 unfold bg_;rw[List.takeWhile_append_of_pos h];cases r with
 | nil=>simp
 | cons c r=>have:p c=false:=hr;simp[this]
theorem eu_ {s r:List UInt8}(h:s≠[]):(s++r).headD 0=s.headD 0:=by
 cases s with
 | nil=>exact absurd rfl h
 | cons a s=>rfl
theorem jQ_ {c:UInt8}(h:aF_ c=false):as_ c=false:=by
 simp only[aF_,Bool.or_eq_false_iff] at h;exact h.1.2
theorem jG_ (ds r:List UInt8)(h:pk_ ds)(hr:as_ (r.headD 0)=false):aL_ (ds++r)=ds.length:=by
 have hs:=iz_ as_ ds r h.digits hr;have h1:=h.len;unfold aL_;rw[hs,if_neg,];rintro (h2|⟨h2,h3⟩)
 ·omega
 ·rw[eu_ (by intro e;rw[e] at h1;simp at h1)] at h3
  exact h.head h2 h3
theorem fe_ {s:List UInt8}(h:dU_ s):s≠[]:=by
 intro e;have:=h.len;rw[e] at this;simp at this
theorem d3_ {c:UInt8}(h:aV_ c=true):aO_ c=false:=by
 unfold aV_ at h;unfold aO_;simp only[decide_eq_true_eq] at h;simp only[decide_eq_false_iff_not];omega
theorem ir_ {s:List UInt8}(h:aO_ (s.headD 0)=true):jk_.contains s=false:=by
 rw[← Bool.not_eq_true,List.contains_iff_mem];intro hk;simp only[jk_,List.mem_cons,List.not_mem_nil,or_false] at hk
 rcases hk with rfl|rfl|rfl|rfl|rfl|rfl<;>revert h<;>decide
theorem hz_ (s r:List UInt8)(h:dU_ s)(h0:(aV_ (s.headD 0) || aO_ (s.headD 0))=true)(hr:aF_ (r.headD 0)=false):au_ (s++r)=(dK_ s,s.length):=by
 have hs:=iz_ aF_ s r h.inner hr;have h1:=h.len;unfold au_;rw[eu_ (fe_ h),if_pos h0,hs,if_neg (by omega),List.take_left]
theorem rV_ (i:It)(h:lK_ i)(r:List UInt8)(hr:i.k=6∨aF_ (r.headD 0)=false):au_ (i.s++r)=(i.k,i.s.length):=by
 rcases h with ⟨hk,hn,hl,hc⟩|⟨hk,hn,hu⟩|⟨hk,hs⟩|⟨hk,ds,hs,hn⟩|⟨hk,hs⟩
 ·rw[hz_ _ _ hn (by rw[hl];rfl) (hr.resolve_left (by omega)),hk]
  unfold dK_;rw[hc,d3_ hl];rfl
 ·rw[hz_ _ _ hn (by rw[hu];simp) (hr.resolve_left (by omega)),hk]
  unfold dK_;rw[ir_ hu,hu];rfl
 ·have hn:dU_ fa:=⟨by decide,by decide⟩
  rw[hs,hz_ fa _ hn (by decide) (hr.resolve_left (by omega)),hk];rfl
 ·have hn1:=jG_ ds r hn (jQ_ (hr.resolve_left (by omega)))
  have h1:=hn.len;rw[hs,hk];show au_ (63 :: (ds++r))=_;unfold au_;rw[if_neg (show ¬ (aV_ ((63 :: (ds++r)).headD 0) || aO_ ((63 :: (ds++r)).headD 0))=true from by show ¬ (aV_ 63 || aO_ 63)=true;decide),if_neg (show ¬ as_ ((63 :: (ds++r)).headD 0)=true from by show ¬ as_ 63=true;decide),if_pos (show (63 :: (ds++r)).headD 0=63 from rfl)];simp only[List.drop_succ_cons,List.drop_zero,hn1];rw[if_neg (by omega)];simp
 ·rw[hk]
  rcases hs with hs|hs|hs|hs<;>rw[hs]<;>rfl
theorem qZ_ {i:It}(h:lK_ i):i.s≠[]:=by
 rcases h with ⟨_,hn,_⟩|⟨_,hn,_⟩|⟨_,hs⟩|⟨_,ds,hs,_⟩|⟨_,hs⟩
 ·exact fe_ hn
 ·exact fe_ hn
 ·rw[hs];simp[fa]
 ·rw[hs];simp
 ·rcases hs with hs|hs|hs|hs<;>rw[hs]<;>simp[do_,eN_,dot,cD_]
theorem ho_ {c:UInt8}(h:aV_ c=true∨aO_ c=true):c≠35∧c≠10∧c≠32∧c≠9:=by
 refine⟨?_,?_,?_,?_⟩<;>(rintro rfl;revert h;decide)
theorem q0_ {i:It}(h:lK_ i):(i.s.headD 0)≠35∧(i.s.headD 0)≠10∧(i.s.headD 0)≠32∧(i.s.headD 0)≠9:=by
 rcases h with ⟨_,hn,hl,_⟩|⟨_,hn,hu⟩|⟨_,hs⟩|⟨_,ds,hs,_⟩|⟨_,hs⟩
 ·exact ho_ (.inl hl)
 ·exact ho_ (.inr hu)
 ·rw[hs];decide
 ·rw[hs];show (63:UInt8)≠35∧(63:UInt8)≠10∧(63:UInt8)≠32∧(63:UInt8)≠9;decide
 ·rcases hs with hs|hs|hs|hs<;>rw[hs]<;>decide
theorem hy_ {i:It}(h:lK_ i)(r:List UInt8):ab_ false (i.s++r)=0:=by
 have h1:=q0_ h;have h2:=qZ_ h;cases hs:i.s with
 | nil=>exact absurd hs h2
 | cons c s =>
  rw[hs] at h1;simp only[List.headD_cons] at h1;show ab_ false (c :: (s++r))=0;rw[ab_,if_neg h1.1,if_neg h1.2.1,if_pos];simp[h1.2.2.1,h1.2.2.2]
theorem k2_ {l:List It}(h:bF_ false l)(hl:∀ i∈l,lK_ i):aF_ ((bs_ l).headD 0)=false:=by
 cases l with
 | nil=>rfl
 | cons i l =>
  have hi:=hl i (by simp)
  rcases h.1 with h|h|h
  ·rw[aQ_,h];rfl
  ·cases hb:i.bl with
   | true=>rw[aQ_,hb];rfl
   | false =>
    rw[aQ_,hb];simp only[Bool.false_eq_true,if_false,List.nil_append];rw[eu_ (qZ_ hi)]
    rcases hi with ⟨hk,_⟩|⟨hk,_⟩|⟨hk,_⟩|⟨hk,_⟩|⟨_,hs⟩
    all_goals first|omega|(rcases hs with hs|hs|hs|hs<;>rw[hs]<;>decide)
  ·cases h
def kt (t:Tok):Nat × List UInt8:=(t.kind,t.text)
def ktI (i:It):Nat × List UInt8:=(i.k,i.s)
theorem pS_:∀ (l:List It) (ps:Bool) (p:Nat),(∀ i∈l,lK_ i)→bF_ ps l→∃ ts,Cut (bs_ l) p ts∧ts.map kt=l.map ktI:=by
 intro l
 induction l with
 | nil=>intro ps p _ _;exact⟨[],rfl,rfl⟩
 | cons i l ih =>
  intro ps p h ho;have hi:=h i (by simp);have hl:=fun j hj=>h j (List.mem_cons_of_mem _ hj);have hb:ab_ false (bs_ (i :: l))=if i.bl then 1 else 0:=by
   rw[aQ_];cases i.bl with
   | true =>
    simp only[if_true];show ab_ false (32 :: (i.s++bs_ l))=1;rw[ab_,if_neg (by decide),if_neg (by decide),if_neg (by decide),hy_ hi]
   | false =>
    simp only[Bool.false_eq_true,if_false,List.nil_append];exact hy_ hi _
  have hd:(bs_ (i :: l)).drop (ab_ false (bs_ (i :: l)))=i.s++bs_ l:=by
   rw[hb,aQ_];cases i.bl<;>simp
  have hne:=qZ_ hi;have hlt:ab_ false (bs_ (i :: l))<(bs_ (i :: l)).length:=by
   have:=congrArg List.length hd;rw[List.length_drop,List.length_append] at this;have:0<i.s.length:=List.length_pos_iff.2 hne;omega
  have htok:au_ (i.s++bs_ l)=(i.k,i.s.length):=by
   refine rV_ i hi _ ?_
   by_cases hk:i.k=6
   ·exact .inl hk
   ·refine .inr (k2_ ?_ hl)
    have:=ho.2;rwa [beq_eq_false_iff_ne.2 hk] at this
  obtain⟨ts,hc,hm⟩:=ih (i.k==6) (p+ab_ false (bs_ (i :: l))+i.s.length) hl ho.2;refine⟨⟨i.k,i.s,p+ab_ false (bs_ (i :: l))⟩ :: ts,⟨hlt,rfl,by rw[hd];exact htok,by rw[hd];simp,hne,?_⟩,by rw[List.map_cons,List.map_cons,hm];rfl⟩;rw[hd];simpa using hc
theorem lA_ {l:List UInt8}{p:Nat}{ts us:List Tok}(h:Cut l p ts)(k:Cut l p us):ts=us:=by
 have h1:=go_ l.length l p [] ts (aA_ _) h;have h2:=go_ l.length l p [] us (aA_ _) k;rw[h1] at h2;simpa using h2
def LexK (t:Ty):Prop:=((t.kind=1∨t.kind=5)→dU_ t.name.data.toList∧aV_ (t.name.data.toList.headD 0)=true∧jk_.contains t.name.data.toList=false)∧(t.kind=3→dU_ t.name.data.toList∧aO_ (t.name.data.toList.headD 0)=true)∧(t.kind=2→t.n<1000000)
mutual
def rw_:Ty→Prop
 | .mk k s n args=>LexK (.mk k s n args)∧sX_ args
def sX_:List Ty→Prop
 | []=>True
 | t :: ts=>rw_ t∧sX_ ts
end
theorem pm_ (ts:List Ty):sX_ ts↔∀ t∈ts,rw_ t:=by
 induction ts with
 | nil=>simp[sX_]
 | cons t ts ih=>rw[sX_,ih];simp
theorem b7_ (t:Ty):rw_ t↔LexK t∧∀ a∈t.args,rw_ a:=by
 cases t with
 | mk k s n args=>rw[rw_,pm_];rfl
theorem cc_ (u:Nat):(∀ c∈Lib.decDigits u,as_ c=true)∧1≤(Lib.decDigits u).length∧(1≤u→(Lib.decDigits u).headD 0≠48)∧∀ k,1≤k→u<10 ^ k→(Lib.decDigits u).length≤k:=by
 induction u using Nat.strongRecOn with
 | _ u ih =>
  rw[Lib.decDigits];have dig:∀ d,d<10→as_ (UInt8.ofNat (48+d))=true:=fun d hd=>by
   unfold as_;simp only[decide_eq_true_eq];rw[UInt8.toNat_ofNat'];omega
  split
  ·next h =>
   refine⟨by simp only[List.mem_singleton];rintro c rfl;exact dig u h,by simp,fun h1=>?_,fun k hk _=>by simpa using hk⟩;simp only[List.headD_cons];intro e;have:=congrArg UInt8.toNat e;rw[UInt8.toNat_ofNat'] at this;simp at this;omega
  ·next h =>
   obtain⟨h1,h2,h3,h4⟩:=ih (u / 10) (by omega);refine⟨?_,by simp,fun _=>?_,fun k hk hu=>?_⟩
   ·intro c hc
    rcases List.mem_append.1 hc with hc|hc
    ·exact h1 c hc
    ·rw[List.mem_singleton.1 hc];exact dig _ (by omega)
   ·rw[eu_ (by intro e;rw[e] at h2;simp at h2)]
    exact h3 (by omega)
   ·cases k with
    | zero=>omega
    | succ k =>
     rw[List.length_append];have hk1:1≤k:=by
      cases k with
      | zero=>simp at hu;omega
      | succ k=>omega
     have:=h4 k hk1 (by rw[Nat.pow_succ] at hu;omega);simp;omega
theorem oB_ (n:Int)(h0:0≤n)(h:n<1000000):pk_ (Lib.itoa n):=by
 obtain⟨u,rfl⟩:∃ u:Nat,n=(u:Int):=⟨n.toNat,by omega⟩;rw[Lib.itoa_nonneg];obtain⟨h1,h2,h3,h4⟩:=cc_ u;have h5:=h4 6 (by omega) (by omega);refine⟨⟨h2,h5⟩,h1,fun hl=>?_⟩;refine h3 ?_
 rcases Nat.eq_zero_or_pos u with h|h
 ·subst h
  have:=h4 1 (by omega) (by omega);omega
 ·exact h
theorem m9_:∀ (d:Nat) (t:Ty) (b:Bool),t.depth≤d→Std t→rw_ t→∀ i∈itF d b t,lK_ i:=by
 intro d;have hsig:∀ b:Bool,lK_ ⟨b,6,do_⟩∧lK_ ⟨b,6,eN_⟩∧lK_ ⟨b,6,dot⟩∧lK_ ⟨b,6,cD_⟩:=fun b =>
  ⟨.inr (.inr (.inr (.inr ⟨rfl,.inl rfl⟩))),.inr (.inr (.inr (.inr ⟨rfl,.inr (.inl rfl)⟩))),.inr (.inr (.inr (.inr ⟨rfl,.inr (.inr (.inl rfl))⟩))),.inr (.inr (.inr (.inr ⟨rfl,.inr (.inr (.inr rfl))⟩)))⟩
 induction d with
 | zero=>intro t b h;rw[t.depth_eq] at h;omega
 | succ d ih =>
  intro t b h hs hx i hi;have hd:∀ a∈t.args,a.depth≤d:=fun a ha=>by have:=aw_ _ ha;rw[t.depth_eq] at h;omega
  have hlx:=(b7_ t).1 hx;have hpar:∀ a∈t.args,∀ b':Bool,∀ i,i∈(⟨b',6,do_⟩:It) :: (itF d false a++[⟨false,6,eN_⟩])→lK_ i:=fun a ha b' i hi=>by
   rcases List.mem_cons.1 hi with rfl|hi
   ·exact (hsig b').1
   ·rcases List.mem_append.1 hi with hi|hi
    ·exact ih a false (hd a ha) (hs.args a ha) (hlx.2 a ha) i hi
    ·rw[List.mem_singleton.1 hi];exact (hsig false).2.1
  rcases ((a4_ t).1 hs).1 with hk|hk|hk|hk|hk
  ·rw[dM_ _ _ _ hk.1,List.mem_singleton] at hi
   subst hi;obtain⟨a1,a2,a3⟩:=hlx.1.1 (.inl hk.1);exact .inl ⟨rfl,a1,a2,a3⟩
  ·rw[cS_ _ _ _ hk.1,List.mem_singleton] at hi
   subst hi;exact .inr (.inr (.inr (.inl ⟨rfl,_,rfl,oB_ _ hk.2.2.2.1 (hlx.1.2.2 hk.1)⟩)))
  ·rw[dp_ _ _ _ hk.1] at hi
   rcases List.mem_cons.1 hi with rfl|hi
   ·obtain⟨a1,a2⟩:=hlx.1.2.1 hk.1
    exact .inr (.inl ⟨rfl,a1,a2⟩)
   ·obtain⟨a,ha,hi⟩:=List.mem_flatMap.1 hi
    split at hi
    ·exact ih a true (hd a ha) (hs.args a ha) (hlx.2 a ha) i hi
    ·exact hpar a ha true i hi
  ·obtain⟨x,y,hxy⟩:∃ x y,t.args=[x,y]:=by
    match hl:t.args,hk.2.2.2 with
    | [x,y],_=>exact⟨x,y,rfl⟩
   have hxm:x∈t.args:=by rw[hxy];simp
   have hym:y∈t.args:=by rw[hxy];simp
   rw[fO_ _ _ _ x y hk.1 hxy] at hi
   rcases List.mem_append.1 hi with hi|hi
   ·split at hi
    ·exact ih x b (hd x hxm) (hs.args x hxm) (hlx.2 x hxm) i hi
    ·exact hpar x hxm b i hi
   ·rcases List.mem_cons.1 hi with rfl|hi
    ·exact (hsig true).2.2.2
    ·exact ih y true (hd y hym) (hs.args y hym) (hlx.2 y hym) i hi
  ·obtain⟨x,hxx⟩:∃ x,t.args=[x]:=by
    match hl:t.args,hk.2.2 with
    | [x],_=>exact⟨x,rfl⟩
   have hxm:x∈t.args:=by rw[hxx];simp
   rw[eT_ _ _ _ x hk.1 hxx] at hi
   rcases List.mem_cons.1 hi with rfl|hi
   ·exact .inr (.inr (.inl ⟨rfl,rfl⟩))
   ·rcases List.mem_cons.1 hi with rfl|hi
    ·obtain⟨a1,a2,a3⟩:=hlx.1.1 (.inr hk.1)
     exact .inl ⟨rfl,a1,a2,a3⟩
    ·split at hi
     ·exact ih x true (hd x hxm) (hs.args x hxm) (hlx.2 x hxm) i (List.mem_of_mem_tail hi)
     ·rcases List.mem_cons.1 hi with rfl|hi
      ·exact (hsig false).2.2.1
      ·exact ih x true (hd x hxm) (hs.args x hxm) (hlx.2 x hxm) i hi
end
end Go.Proofs.YtjecnionbjlncaaGreatDoor.Tp

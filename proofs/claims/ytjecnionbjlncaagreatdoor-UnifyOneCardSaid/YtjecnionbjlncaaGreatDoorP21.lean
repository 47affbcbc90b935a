/- Packed. -/
import Derived.Test.YtjecnionbjlncaaGreatDoorP19
import Derived.Test.YtjecnionbjlncaaGreatDoorP20
set_option maxRecDepth 100000
set_option maxHeartbeats 6400000
namespace Go.Proofs.YtjecnionbjlncaaGreatDoor.Tp
section
def jt_ (t:Ty):Ty:=.mk t.kind t.name t.n []
section
variable (p : Ty → Bool) (U : Ty)
mutual
def sbT:Ty→Ty
 | .mk k s n args=>if p (.mk k s n []) then U else .mk k s n (sbL args)
def sbL:List Ty→List Ty
 | []=>[]
 | t :: ts=>sbT t :: sbL ts
end
theorem lX_ (ts:List Ty):sbL p U ts=ts.map (sbT p U):=by
 induction ts with
 | nil=>simp[sbL]
 | cons t ts ih=>rw[sbL,ih];rfl
theorem gZ_ (t:Ty):sbT p U t=if p (jt_ t) then U else .mk t.kind t.name t.n (t.args.map (sbT p U)):=by
 cases t with
 | mk k s n args=>rw[sbT,lX_];rfl
theorem cc_ (k:Int)(s:ByteArray)(n:Int)(args:List Ty):sbT p U (.mk k s n args)=if p (.mk k s n []) then U else .mk k s n (args.map (sbT p U)):=by rw[sbT,lX_]
end
section
variable (p : Ty → Bool)
mutual
def noP:Ty→Prop
 | .mk k s n args=>p (.mk k s n [])=false∧noL args
def noL:List Ty→Prop
 | []=>True
 | t :: ts=>noP t∧noL ts
end
theorem mL_ (ts:List Ty):noL p ts↔∀ t∈ts,noP p t:=by
 induction ts with
 | nil=>simp[noL]
 | cons t ts ih=>rw[noL,ih];simp
theorem hE_ (t:Ty):noP p t↔p (jt_ t)=false∧∀ a∈t.args,noP p a:=by
 cases t with
 | mk k s n args=>rw[noP,mL_];rfl
theorem dY_ (k:Int)(s:ByteArray)(n:Int)(args:List Ty):noP p (.mk k s n args)↔p (.mk k s n [])=false∧∀ a∈args,noP p a:=by rw[noP,mL_]
end
theorem c8_ (t:Ty):Ty.mk t.kind t.name t.n t.args=t:=by cases t;rfl
theorem d0_ {f:Ty→Ty}{l:List Ty}(h:∀ a∈l,f a=a):l.map f=l:=by
 conv=>rhs;rw[← List.map_id l]
 exact List.map_congr_left h
theorem ji_ (p:Ty→Bool)(U:Ty):∀ t:Ty,noP p t→sbT p U t=t:=by
 intro t
 induction t using Ty.ind with
 | h t ih =>
  intro h;obtain⟨h1,h2⟩:=(hE_ p t).1 h;rw[gZ_,if_neg (by rw[h1];simp),d0_ fun a ha=>ih a ha (h2 a ha),c8_]
theorem lW_ (p q:Ty→Bool)(U V:Ty)(hpq:∀ t,p t=true→q t=false)(hU:sbT q V U=U)(hV:sbT p U V=V):∀ t:Ty,sbT q V (sbT p U t)=sbT p U (sbT q V t):=by
 intro t
 induction t using Ty.ind with
 | h t ih =>
  cases t with
  | mk k s n args =>
   rw[cc_ p U,cc_ q V]
   by_cases h1:p (.mk k s n [])=true
   ·rw[if_pos h1,if_neg (by rw[hpq _ h1];simp),cc_ p U,if_pos h1,hU]
   ·by_cases h2:q (.mk k s n [])=true
    ·rw[if_neg h1,if_pos h2,cc_ q V,if_pos h2,hV]
    ·rw[if_neg h1,if_neg h2,cc_ q V,if_neg h2,cc_ p U,if_neg h1,List.map_map,List.map_map]
     congr 1;exact List.map_congr_left fun a ha=>ih a ha
def ex_ (x:ByteArray)(t:Ty):Bool:=t.kind==1&&eqN t.name x
theorem b2_ (x:ByteArray)(k:Int)(s:ByteArray)(n:Int)(a:List Ty):ex_ x (.mk k s n a)=(k==1&&eqN s x):=rfl
theorem gj_ (m:Int)(k:Int)(s:ByteArray)(n:Int)(a:List Ty):bB_ m (.mk k s n a)=(k==2&&n==m):=rfl
theorem mK_ (x:ByteArray):∀ (t:Ty) (env:List ByteArray),Std t→(¬ fvT x t∨x∈env)→noP (ex_ x) (dbT env t):=by
 intro t
 induction t using Ty.ind with
 | h t ih =>
  intro env hs h
  by_cases h5:t.kind=5
  ·rw[aR_ _ _ h5,dY_]
   refine⟨rfl,fun a ha=>?_⟩;obtain⟨b,hb,rfl⟩:=List.mem_map.1 ha;refine ih b hb _ (hs.args b hb) ?_
   by_cases e:x=t.name
   ·exact .inr (by simp[e])
   ·rcases h with h|h
    ·exact .inl fun hx=>h ((aH_ _ _).2 (.inr ⟨⟨b,hb,hx⟩,fun e'=>e e'.2.symm⟩))
    ·exact .inr (by simp[h])
  ·by_cases h1:t.kind=1
   ·rw[a0_ _ _ h1]
    unfold dp_;cases hi:ixN env t.name with
    | some i=>rw[dY_];exact⟨rfl,fun a ha=>by cases ha⟩
    | none =>
     rw[dY_];refine⟨?_,fun a ha=>by cases ha⟩;rw[b2_];have:t.name≠x:=by
      rintro rfl
      rcases h with h|h
      ·exact h ((aH_ _ _).2 (.inl ⟨h1,rfl⟩))
      ·exact (dI_ _ _).1 hi h
     rw[(d5_ _ _).2 this];simp
   ·rw[ay_ _ _ h1 h5,dY_]
    refine⟨?_,fun a ha=>?_⟩
    ·rw[b2_];simp[h1]
    ·obtain⟨b,hb,rfl⟩:=List.mem_map.1 ha
     refine ih b hb _ (hs.args b hb) ?_
     rcases h with h|h
     ·exact .inl fun hx=>h ((aH_ _ _).2 (.inr ⟨⟨b,hb,hx⟩,fun e'=>h5 e'.1⟩))
     ·exact .inr h
theorem mem_metas_walk (m:Int):∀ (t:Ty) (out:List Int) (ns:List ByteArray),m∈b9_ aS_ t out ns↔m∈out∨¬ noP (bB_ m) t:=by
 intro t
 induction t using Ty.ind with
 | h t ih =>
  intro out ns;have hstep:m∈aS_ out t ns↔m∈out∨bB_ m (jt_ t)=true:=by
   rw[show bB_ m (jt_ t)=(t.kind==2&&t.n==m) from rfl];unfold aS_
   split
   ·next h =>
    simp only[Bool.and_eq_true,beq_iff_eq,Bool.not_eq_true'] at h;rw[List.mem_append,List.mem_singleton];simp only[Bool.and_eq_true,beq_iff_eq]
    constructor
    ·rintro (h'|rfl)
     ·exact .inl h'
     ·exact .inr ⟨h.1,rfl⟩
    ·rintro (h'|⟨_,h'⟩)
     ·exact .inl h'
     ·exact .inr h'.symm
   ·next h =>
    simp only[Bool.and_eq_true,beq_iff_eq,Bool.not_eq_true'] at h;simp only[Bool.and_eq_true,beq_iff_eq]
    constructor
    ·exact .inl
    ·rintro (h'|⟨h1,h2⟩)
     ·exact h'
     ·subst h2
      refine Classical.byContradiction fun hx=>h ⟨h1,?_⟩;rw[← Bool.not_eq_true,List.contains_iff_mem];exact hx
  have hl:∀ (l:List Ty) (out:List Int) (ns:List ByteArray),(∀ a∈l,∀ (out:List Int) (ns:List ByteArray),m∈b9_ aS_ a out ns↔m∈out∨¬ noP (bB_ m) a)→(m∈bI_ aS_ l out ns↔m∈out∨∃ a∈l,¬ noP (bB_ m) a):=by
   intro l
   induction l with
   | nil=>intro out ns _;simp[bI_]
   | cons a l ihl =>
    intro out ns h;rw[bI_,ihl _ _ fun b hb=>h b (by simp[hb]),h a (by simp)];simp only[List.mem_cons,exists_eq_or_imp];exact or_assoc
  rw[cr_,hl _ _ _ ih,hstep,hE_]
  constructor
  ·rintro ((h|h)|⟨a,ha,h⟩)
   ·exact .inl h
   ·exact .inr fun hn=>by rw[hn.1] at h;cases h
   ·exact .inr fun hn=>h (hn.2 a ha)
  ·rintro (h|h)
   ·exact .inl (.inl h)
   ·cases hb:bB_ m (jt_ t) with
    | true=>exact .inl (.inr rfl)
    | false=>exact .inr (Classical.byContradiction fun hx=>h ⟨hb,fun a ha=>Classical.byContradiction fun hn=>hx ⟨a,ha,hn⟩⟩)
theorem dZ_ (m:Int)(t:Ty):m∈aO_ t↔¬ noP (bB_ m) t:=by unfold aO_;rw[mem_metas_walk];simp
theorem no_sb (p q:Ty→Bool)(U:Ty)(hU:noP p U):∀ t:Ty,(∀ k s n,p (.mk k s n [])=true→q (.mk k s n [])=true)→noP p (sbT q U t):=by
 intro t
 induction t using Ty.ind with
 | h t ih =>
  intro hpq;rw[gZ_]
  split
  ·exact hU
  ·next h =>
   rw[dY_];refine⟨?_,fun a ha=>?_⟩
   ·cases e:p (.mk t.kind t.name t.n []) with
    | false=>rfl
    | true=>exact absurd (hpq _ _ _ e) h
   ·obtain⟨b,hb,rfl⟩:=List.mem_map.1 ha
    exact ih b hb hpq
theorem iT_ (u:Ty)(env:List ByteArray)(h:∀ x,fvT x u→x∉env):dbT env u=dbT [] u:=by
 refine m8_ u [] env fun x hx n=>?_;unfold dp_;rw[(dI_ _ _).2 (h x hx)];rfl
theorem oV_ (nm:ByteArray)(u:Ty)(hu:Std u):∀ (d:Nat) (t:Ty),t.depth≤d→Std t→Std (eb_ d nm u t):=by
 intro d
 induction d with
 | zero=>intro t h;rw[t.depth_eq] at h;omega
 | succ d ih =>
  intro t h hs;have hd:∀ a∈t.args,a.depth≤d:=fun a ha=>by have:=aw_ _ ha;rw[t.depth_eq] at h;omega
  rw[eb_]
  split
  ·exact hs
  ·split
   ·exact hu
   ·split
    ·next hc =>
     simp only[Bool.and_eq_true,beq_iff_eq] at hc;obtain⟨b,hb,hb0⟩:=dU_ hs hc.1;rw[hb0];have hbm:b∈t.args:=by rw[hb];simp
     generalize a2_ t.name (ak_ u++ak_ b++[t.name,nm])=n;have hr:=dE_ b.depth t.name n b (aA_ _) (hs.args b hbm);unfold dO_;rw[hb0];exact ht_ n (ih (b3_ t.name n b) (by show (bV_ _ _ _ _).depth≤d;rw[hr.1];exact hd b hbm) hr.2.1)
    ·refine eY_ hs _ (by simp) fun a ha=>?_
     obtain⟨b,hb,rfl⟩:=List.mem_map.1 ha;exact ih b (hd b hb) (hs.args b hb)
theorem r7_ (nm:ByteArray)(u:Ty):∀ (d:Nat) (t:Ty) (env:List ByteArray),t.depth≤d→Std t→nm∉env→(∀ x,fvT x u→x∉env)→dbT env (eb_ d nm u t)=sbT (ex_ nm) (dbT [] u) (dbT env t):=by
 intro d
 induction d with
 | zero=>intro t env h;rw[t.depth_eq] at h;omega
 | succ d ih =>
  intro t env h hs hn hu;have hd:∀ a∈t.args,a.depth≤d:=fun a ha=>by have:=aw_ _ ha;rw[t.depth_eq] at h;omega
  rw[eb_]
  split
  ·next hc =>
   simp only[Bool.and_eq_true,beq_iff_eq,aG_] at hc;rw[ji_];refine mK_ nm t env hs (.inl fun hx=>?_)
   rcases (aH_ _ _).1 hx with h|h
   ·omega
   ·exact h.2 hc
  ·split
   ·next h1 hc =>
    simp only[Bool.and_eq_true,beq_iff_eq,aG_] at hc;rw[iT_ u env hu,a0_ _ _ hc.1,hc.2];unfold dp_;rw[(dI_ _ _).2 hn];show _=sbT (ex_ nm) (dbT [] u) (.mk 1 nm t.n []);rw[cc_,b2_,(aG_ _ _).2 rfl];rfl
   ·split
    ·next h1 h2 hc =>
     simp only[Bool.and_eq_true,beq_iff_eq,aG_] at hc h1;obtain⟨b,hb,hb0⟩:=dU_ hs hc.1;have hbm:b∈t.args:=by rw[hb];simp
     have hnf:=eq_ t.name (ak_ u++ak_ (ch_ t)++[t.name,nm]);unfold dO_;rw[hb0] at hnf ⊢;generalize a2_ t.name (ak_ u++ak_ b++[t.name,nm])=n at *;simp only[List.mem_append,List.mem_cons,List.not_mem_nil,or_false,not_or,bk_] at hnf;have hr:=dE_ b.depth t.name n b (aA_ _) (hs.args b hbm);rw[aR_ _ _ hc.1,hb,aR_ _ _ rfl];show Ty.mk 5 emp 0 [dbT (n :: env) (eb_ d nm u (b3_ t.name n b))]=sbT _ _ (Ty.mk 5 emp 0 [dbT (t.name :: env) b]);rw[ih (b3_ t.name n b) (n :: env) (by show (bV_ _ _ _ _).depth≤d;rw[hr.1];exact hd b hbm) hr.2.1 ?_ ?_,fK_ _ _ _ _ (hs.args b hbm) hnf.1.2,cc_]
     ·rfl
     ·simp only[List.mem_cons,not_or]
      exact⟨fun e=>hnf.2.2 e.symm,hn⟩
     ·intro x hx
      simp only[List.mem_cons,not_or];exact⟨fun e=>hnf.1.1 (e ▸ hx),hu x hx⟩
    ·next h1 h2 h3 =>
     simp only[Bool.and_eq_true,beq_iff_eq,aG_,bR_,bk_] at h1 h2 h3
     by_cases hk1:t.kind=1
     ·obtain⟨hn0,ha⟩:=hs.k1 hk1
      rw[ha];have e1:ba_ t ([].map (eb_ d nm u))=t:=by unfold ba_;rw[List.map_nil,← ha,c8_]
      rw[e1,a0_ _ _ hk1,ji_];unfold dp_;cases ixN env t.name with
      | some i=>simp only;rw[dY_];exact⟨rfl,fun a ha=>by cases ha⟩
      | none =>
       simp only;rw[dY_];refine⟨?_,fun a ha=>by cases ha⟩;rw[b2_,(d5_ _ _).2 fun e=>h2 ⟨hk1,e⟩];simp
     ·by_cases hk5:t.kind=5
      ·rw[aR_ _ _ hk5,aR_ _ _ (show (ba_ t _).kind=5 from hk5),cc_,b2_,if_neg (by simp)]
       congr 1;show (t.args.map _).map _=(t.args.map _).map _;rw[List.map_map,List.map_map];refine List.map_congr_left fun a ha=>ih a _ (hd a ha) (hs.args a ha) ?_ ?_
       ·simp only[List.mem_cons,not_or]
        exact⟨fun e=>h1 ⟨hk5,e.symm⟩,hn⟩
       ·intro x hx
        simp only[List.mem_cons,not_or];exact⟨fun e=>h3 ⟨hk5,by subst e;exact hx⟩,hu x hx⟩
      ·rw[ay_ _ _ hk1 hk5,ay_ _ _ (show (ba_ t _).kind≠1 from hk1) (show (ba_ t _).kind≠5 from hk5),cc_,b2_,if_neg (by simp[hk1])]
       show Ty.mk t.kind t.name t.n ((t.args.map _).map _)=_;congr 1;rw[List.map_map,List.map_map];exact List.map_congr_left fun a ha=>ih a _ (hd a ha) (hs.args a ha) hn hu
theorem n4_ (u:Ty)(free:List ByteArray)(is:Ty→Bool)(hu:Std u):∀ (d:Nat) (t:Ty),t.depth≤d→Std t→Std (dS_ d u free is t):=by
 intro d
 induction d with
 | zero=>intro t h;rw[t.depth_eq] at h;omega
 | succ d ih =>
  intro t h hs;have hd:∀ a∈t.args,a.depth≤d:=fun a ha=>by have:=aw_ _ ha;rw[t.depth_eq] at h;omega
  rw[dS_]
  split
  ·exact hu
  ·split
   ·next hc =>
    simp only[Bool.and_eq_true,beq_iff_eq] at hc;obtain⟨b,hb,hb0⟩:=dU_ hs hc.1;rw[hb0];have hbm:b∈t.args:=by rw[hb];simp
    generalize a2_ t.name (free++ak_ b++[t.name])=n;have hr:=dE_ b.depth t.name n b (aA_ _) (hs.args b hbm);unfold dO_;rw[hb0];exact ht_ n (ih (b3_ t.name n b) (by show (bV_ _ _ _ _).depth≤d;rw[hr.1];exact hd b hbm) hr.2.1)
   ·refine eY_ hs _ (by simp) fun a ha=>?_
    obtain⟨b,hb,rfl⟩:=List.mem_map.1 ha;exact ih b (hd b hb) (hs.args b hb)
theorem qL_ (m:Int)(u:Ty):∀ (d:Nat) (t:Ty) (env:List ByteArray),t.depth≤d→Std t→(∀ x,fvT x u→x∉env)→dbT env (dS_ d u (ak_ u) (bB_ m) t)=sbT (bB_ m) (dbT [] u) (dbT env t):=by
 intro d
 induction d with
 | zero=>intro t env h;rw[t.depth_eq] at h;omega
 | succ d ih =>
  intro t env h hs hu;have hd:∀ a∈t.args,a.depth≤d:=fun a ha=>by have:=aw_ _ ha;rw[t.depth_eq] at h;omega
  rw[dS_]
  split
  ·next hc =>
   unfold bB_ at hc;simp only[Bool.and_eq_true,beq_iff_eq] at hc;rw[iT_ u env hu,ay_ env t (by omega) (by omega),cc_,gj_,if_pos (by simp[hc])]
  ·next hc0 =>
   unfold bB_ at hc0;simp only[Bool.and_eq_true,beq_iff_eq] at hc0
   split
   ·next hc =>
    simp only[Bool.and_eq_true,beq_iff_eq] at hc;obtain⟨b,hb,hb0⟩:=dU_ hs hc.1;have hbm:b∈t.args:=by rw[hb];simp
    have hnf:=eq_ t.name (ak_ u++ak_ (ch_ t)++[t.name]);unfold dO_;rw[hb0] at hnf ⊢;generalize a2_ t.name (ak_ u++ak_ b++[t.name])=n at *;simp only[List.mem_append,List.mem_cons,List.not_mem_nil,or_false,not_or,bk_] at hnf;have hr:=dE_ b.depth t.name n b (aA_ _) (hs.args b hbm);rw[aR_ _ _ hc.1,hb,aR_ _ _ rfl];show Ty.mk 5 emp 0 [dbT (n :: env) (dS_ d u (ak_ u) (bB_ m) (b3_ t.name n b))]=sbT _ _ (Ty.mk 5 emp 0 [dbT (t.name :: env) b]);rw[ih (b3_ t.name n b) (n :: env) (by show (bV_ _ _ _ _).depth≤d;rw[hr.1];exact hd b hbm) hr.2.1 ?_,fK_ _ _ _ _ (hs.args b hbm) hnf.1.2,cc_]
    ·rfl
    ·intro x hx
     simp only[List.mem_cons,not_or];exact⟨fun e=>hnf.1.1 (e ▸ hx),hu x hx⟩
   ·next h3 =>
    simp only[Bool.and_eq_true,beq_iff_eq,bR_,bk_] at h3
    by_cases hk1:t.kind=1
    ·obtain⟨hn0,ha⟩:=hs.k1 hk1
     rw[ha];have e1:ba_ t ([].map (dS_ d u (ak_ u) (bB_ m)))=t:=by unfold ba_;rw[List.map_nil,← ha,c8_]
     rw[e1,a0_ _ _ hk1,ji_];unfold dp_;cases ixN env t.name<;>(simp only;rw[dY_];exact⟨rfl,fun a ha=>by cases ha⟩)
    ·by_cases hk5:t.kind=5
     ·rw[aR_ _ _ hk5,aR_ _ _ (show (ba_ t _).kind=5 from hk5),cc_,gj_,if_neg (by simp)]
      congr 1;show (t.args.map _).map _=(t.args.map _).map _;rw[List.map_map,List.map_map];refine List.map_congr_left fun a ha=>ih a _ (hd a ha) (hs.args a ha) ?_;intro x hx;simp only[List.mem_cons,not_or];exact⟨fun e=>h3 ⟨hk5,by subst e;exact hx⟩,hu x hx⟩
     ·rw[ay_ _ _ hk1 hk5,ay_ _ _ (show (ba_ t _).kind≠1 from hk1) (show (ba_ t _).kind≠5 from hk5),cc_,gj_,if_neg (by simp only[Bool.and_eq_true,beq_iff_eq];exact hc0)]
      show Ty.mk t.kind t.name t.n ((t.args.map _).map _)=_;congr 1;rw[List.map_map,List.map_map];exact List.map_congr_left fun a ha=>ih a _ (hd a ha) (hs.args a ha) hu
theorem eQ_ (nm:ByteArray)(u t:Ty)(ht:Std t):dbT [] (eB_ nm u t)=sbT (ex_ nm) (dbT [] u) (dbT [] t) :=
 r7_ nm u t.depth t [] (aA_ _) ht (by simp) (by simp)
theorem cg_ (m:Int)(u t:Ty)(ht:Std t):dbT [] (bn_ m u t)=sbT (bB_ m) (dbT [] u) (dbT [] t) :=
 qL_ m u t.depth t [] (aA_ _) ht (by simp)
theorem fm_ (nm:ByteArray)(u t:Ty)(ht:Std t)(hu:Std u):Std (eB_ nm u t):=oV_ nm u hu _ _ (aA_ _) ht
theorem cx_ (m:Int)(u t:Ty)(ht:Std t)(hu:Std u):Std (bn_ m u t):=n4_ u _ _ hu _ _ (aA_ _) ht
theorem rD_ (a b:ByteArray)(t u v:Ty)(ht:Std t)(hu:Std u)(hv:Std v)(hab:a≠b)(h1:¬ fvT b u)(h2:¬ fvT a v):dbT [] (eB_ b v (eB_ a u t))=dbT [] (eB_ a u (eB_ b v t)):=by
 rw[eQ_ _ _ _ (fm_ a u t ht hu),eQ_ _ _ _ (fm_ b v t ht hv),eQ_ _ _ _ ht,eQ_ _ _ _ ht];refine lW_ _ _ _ _ (fun x hx=>?_) (ji_ _ _ _ (mK_ b u [] hu (.inl h1))) (ji_ _ _ _ (mK_ a v [] hv (.inl h2))) _;unfold ex_ at *;simp only[Bool.and_eq_true,beq_iff_eq,aG_] at hx;rw[hx.1,hx.2,(d5_ _ _).2 hab];rfl
theorem rd_ (a b:Int)(t u v:Ty)(ht:Std t)(hu:Std u)(hv:Std v)(hab:a≠b)(h1:b∉aO_ u)(h2:a∉aO_ v):dbT [] (bn_ b v (bn_ a u t))=dbT [] (bn_ a u (bn_ b v t)):=by
 rw[cg_ _ _ _ (cx_ a u t ht hu),cg_ _ _ _ (cx_ b v t ht hv),cg_ _ _ _ ht,cg_ _ _ _ ht];rw[dF_ u hu,dZ_,Classical.not_not] at h1;rw[dF_ v hv,dZ_,Classical.not_not] at h2;refine lW_ _ _ _ _ (fun x hx=>?_) (ji_ _ _ _ h1) (ji_ _ _ _ h2) _;unfold bB_ at *;simp only[Bool.and_eq_true,beq_iff_eq] at hx;rw[hx.1,hx.2,beq_eq_false_iff_ne.2 hab];simp
theorem rZ_ (m:Int)(t u:Ty)(ht:Std t)(hu:Std u)(h:m∉aO_ u):m∉aO_ (bn_ m u t):=by
 rw[dF_ _ (cx_ m u t ht hu),cg_ _ _ _ ht,dZ_,Classical.not_not];rw[dF_ u hu,dZ_,Classical.not_not] at h;exact no_sb _ _ _ h _ fun _ _ _ h=>h
theorem gu_ (f g:Ty→Ty)(ts:List Ty)(c:Nat)(h:∀ t∈ts,(f t).depth≤(g t).depth+c):al_ (ts.map f)≤al_ (ts.map g)+c:=by
 induction ts with
 | nil=>simp[al_]
 | cons t ts ih =>
  rw[List.map_cons,List.map_cons,al_,al_];have:=h t (by simp);have:=ih fun u hu=>h u (by simp[hu]);omega
def qv_ (p:Ty→Bool):Prop:=∀ t:Ty,p t=true→t.kind=1∨t.kind=2
theorem qK_ (t:Ty)(hs:Std t)(env:List ByteArray)(h:(dbT env t).kind=1∨(dbT env t).kind=2):(dbT env t).args=[]:=by
 by_cases h5:t.kind=5
 ·rw[aR_ _ _ h5] at h;simp[Ty.kind] at h
 ·by_cases h1:t.kind=1
  ·rw[a0_ _ _ h1];unfold dp_;cases ixN env t.name<;>rfl
  ·rw[ay_ _ _ h1 h5] at h ⊢
   have h2:t.kind=2:=h.resolve_left h1;show t.args.map _=[];rw[(hs.k2 h2).2.1];rfl
theorem nH_ (p:Ty→Bool)(hp:qv_ p)(U:Ty):∀ (t:Ty) (env:List ByteArray),Std t→(dbT env t).depth≤(sbT p U (dbT env t)).depth∧(sbT p U (dbT env t)).depth+1≤(dbT env t).depth+U.depth:=by
 intro t;have hU:1≤U.depth:=by rw[U.depth_eq];omega
 induction t using Ty.ind with
 | h t ih =>
  intro env hs;have hlf:=qK_ t hs env;have key:∀ e:List ByteArray,(∀ k s n,Ty.depth (.mk k s n (t.args.map (dbT e)))≤Ty.depth (.mk k s n ((t.args.map (dbT e)).map (sbT p U)))∧Ty.depth (.mk k s n ((t.args.map (dbT e)).map (sbT p U)))+1≤Ty.depth (.mk k s n (t.args.map (dbT e)))+U.depth):=by
   intro e k s n;rw[Ty.depth_eq (.mk k s n (t.args.map (dbT e))),Ty.depth_eq (.mk k s n ((t.args.map (dbT e)).map (sbT p U)))];show al_ (t.args.map (dbT e))+1≤al_ ((t.args.map (dbT e)).map (sbT p U))+1∧al_ ((t.args.map (dbT e)).map (sbT p U))+1+1≤al_ (t.args.map (dbT e))+1+U.depth;rw[List.map_map];have h1:=gu_ (dbT e) (sbT p U ∘ dbT e) t.args 0 fun a ha=>(ih a ha e (hs.args a ha)).1;have h2:=gu_ (sbT p U ∘ dbT e) (dbT e) t.args (U.depth - 1) fun a ha=>by
    have:=(ih a ha e (hs.args a ha)).2;show (sbT p U (dbT e a)).depth≤_;omega
   omega
  by_cases hpn:p (jt_ (dbT env t))=true
  ·have hk:(dbT env t).kind=1∨(dbT env t).kind=2:=hp (jt_ (dbT env t)) hpn
   rw[gZ_,if_pos hpn,Ty.depth_eq (dbT env t),hlf hk];simp only[al_];omega
  ·rw[gZ_,if_neg hpn]
   by_cases h5:t.kind=5
   ·rw[aR_ _ _ h5];exact key _ _ _ _
   ·by_cases h1:t.kind=1
    ·rw[a0_ _ _ h1]
     unfold dp_;cases ixN env t.name<;>(simp only[Ty.args,Ty.kind,Ty.name,Ty.n,List.map_nil];rw[Ty.depth_eq];simp only[Ty.args,al_];omega)
    ·rw[ay_ _ _ h1 h5];exact key _ _ _ _
theorem lQ_ (f g:Ty→Ty)(ts:List Ty)(c:Nat)(h:∀ t∈ts,(f t).size≤(g t).size*c):ai_ (ts.map f)≤ai_ (ts.map g)*c:=by
 induction ts with
 | nil=>simp[ai_]
 | cons t ts ih =>
  rw[List.map_cons,List.map_cons,ai_,ai_,Nat.add_mul];have:=h t (by simp);have:=ih fun u hu=>h u (by simp[hu]);omega
theorem lU_ (p:Ty→Bool)(U:Ty):∀ t:Ty,(sbT p U t).size≤t.size*U.size:=by
 intro t;have hU:1≤U.size:=by rw[U.size_eq];omega
 induction t using Ty.ind with
 | h t ih =>
  rw[gZ_]
  split
  ·rw[t.size_eq,Nat.add_mul];omega
  ·rw[Ty.size_eq,t.size_eq,Nat.add_mul]
   have h1:=lQ_ (sbT p U) id t.args U.size ih;rw[List.map_id] at h1;show ai_ (t.args.map (sbT p U))+1≤ai_ t.args*U.size+1*U.size;omega
theorem os_ (x:ByteArray):qv_ (ex_ x):=fun t h=>by unfold ex_ at h;simp at h;exact .inl h.1
theorem rS_ (m:Int):qv_ (bB_ m):=fun t h=>by unfold bB_ at h;simp at h;exact .inr h.1
theorem rj_ (nm:ByteArray)(u t:Ty)(ht:Std t)(hu:Std u):t.depth≤(eB_ nm u t).depth∧(eB_ nm u t).depth<t.depth+u.depth:=by
 have h:=nH_ (ex_ nm) (os_ nm) (dbT [] u) t [] ht;rw[← eQ_ nm u t ht,fe_ _ (fm_ nm u t ht hu),fe_ _ ht,fe_ _ hu] at h;omega
theorem sn_ (nm:ByteArray)(u t:Ty)(ht:Std t)(hu:Std u):(eB_ nm u t).size≤t.size*u.size:=by
 have h:=lU_ (ex_ nm) (dbT [] u) (dbT [] t);rwa [← eQ_ nm u t ht,cW_ _ (fm_ nm u t ht hu),cW_ _ ht,cW_ _ hu] at h
theorem re_ (m:Int)(u t:Ty)(ht:Std t)(hu:Std u):(bn_ m u t).size≤t.size*u.size:=by
 have h:=lU_ (bB_ m) (dbT [] u) (dbT [] t);rwa [← cg_ m u t ht,cW_ _ (cx_ m u t ht hu),cW_ _ ht,cW_ _ hu] at h
end
section
open Lx
structure It where
 bl:Bool
 k:Nat
 s:List UInt8
def It.text (i:It):List UInt8:=(if i.bl then [32] else [])++i.s
def bq_ (l:List It):List UInt8:=l.flatMap It.text
theorem aN_ (i:It)(l:List It):bq_ (i :: l)=(if i.bl then [32] else [])++i.s++bq_ l:=rfl
theorem eX_ (a b:List It):bq_ (a++b)=bq_ a++bq_ b:=List.flatMap_append
def body0 (t:Ty):Ty:=ch_ t
def itF:Nat→Bool→Ty→List It
 | 0,_,_=>[]
 | d+1,b,t =>
  if t.kind=2 then [⟨b,5,63 :: Lib.itoa t.n⟩]
  else if t.kind=3 then ⟨b,2,t.name.data.toList⟩ :: t.args.flatMap fun x=>if x.atomic then itF d true x else ⟨true,6,dl_⟩ :: (itF d false x++[⟨false,6,eH_⟩])
  else if t.kind=4 then (match t.args with
   | x :: y :: _=>(if decide (x.kind<4) then itF d b x else ⟨b,6,dl_⟩ :: (itF d false x++[⟨false,6,eH_⟩]))++⟨true,6,cA_⟩ :: itF d true y
   | _=>[])
  else if t.kind=5 then (match t.args with
   | x :: _=>⟨b,3,fa⟩ :: ⟨true,1,t.name.data.toList⟩ :: (if x.kind=5 then (itF d true x).tail else ⟨false,6,dot⟩ :: itF d true x)
   | _=>[])
  else [⟨b,1,t.name.data.toList⟩]
theorem eL_ (d:Nat)(b:Bool)(t x:Ty)(hk:t.kind=5)(hx:t.args=[x]):itF (d+1) b t=⟨b,3,fa⟩ :: ⟨true,1,t.name.data.toList⟩ :: (if x.kind=5 then (itF d true x).tail else ⟨false,6,dot⟩ :: itF d true x):=by
 rw[itF,if_neg (by omega),if_neg (by omega),if_neg (by omega),if_pos hk,hx]
theorem fG_ (d:Nat)(b:Bool)(t x y:Ty)(hk:t.kind=4)(hx:t.args=[x,y]):itF (d+1) b t=(if decide (x.kind<4) then itF d b x else ⟨b,6,dl_⟩ :: (itF d false x++[⟨false,6,eH_⟩]))++⟨true,6,cA_⟩ :: itF d true y:=by
 rw[itF,if_neg (by omega),if_neg (by omega),if_pos hk,hx]
theorem dm_ (d:Nat)(b:Bool)(t:Ty)(hk:t.kind=3):itF (d+1) b t=⟨b,2,t.name.data.toList⟩ :: t.args.flatMap fun x=>if x.atomic then itF d true x else ⟨true,6,dl_⟩ :: (itF d false x++[⟨false,6,eH_⟩]):=by
 rw[itF,if_neg (by omega),if_pos hk]
theorem cQ_ (d:Nat)(b:Bool)(t:Ty)(hk:t.kind=2):itF (d+1) b t=[⟨b,5,63 :: Lib.itoa t.n⟩]:=by rw[itF,if_pos hk]
theorem dJ_ (d:Nat)(b:Bool)(t:Ty)(hk:t.kind=1):itF (d+1) b t=[⟨b,1,t.name.data.toList⟩]:=by
 rw[itF,if_neg (by omega),if_neg (by omega),if_neg (by omega),if_neg (by omega)]
theorem lg_:d4_=fa++[32]:=rfl
theorem k2_ (t:Ty)(hk:t.kind=1):ag_ t=t.name.data.toList:=by
 rw[bL_];unfold fP_;rw[if_neg (by omega),if_neg (by omega),if_neg (by omega),if_neg (by omega)]
theorem jn_ (t:Ty)(hk:t.kind=2):ag_ t=63 :: Lib.itoa t.n:=by
 rw[bL_];unfold fP_;rw[if_pos hk]
theorem k4_ (t:Ty)(hk:t.kind=3):ag_ t=t.name.data.toList++(t.args.zip (t.args.map ag_)).flatMap fun x=>32 :: c5_ x.1.atomic x.2:=by
 rw[bL_];unfold fP_;rw[if_neg (by omega),if_pos hk]
theorem k3_ (t x y:Ty)(hk:t.kind=4)(hx:t.args=[x,y]):ag_ t=c5_ (decide (x.kind<4)) (ag_ x)++[32,45,62,32]++ag_ y:=by
 rw[bL_];unfold fP_;rw[if_neg (by omega),if_neg (by omega),if_pos hk,hx];rfl
theorem g3_ (t x:Ty)(hk:t.kind=5)(hx:t.args=[x]):ag_ t=d4_++t.name.data.toList++(if x.kind=5 then 32 :: (ag_ x).drop 7 else [46,32]++ag_ x):=by
 rw[bL_];unfold fP_;rw[if_neg (by omega),if_neg (by omega),if_neg (by omega),if_pos hk,hx];rfl
theorem eW_ (i:It):bq_ [i]=(if i.bl then [32] else [])++i.s:=by rw[aN_];simp[bq_]
theorem jd_:∀ (d:Nat) (t:Ty) (b:Bool),t.depth≤d→Std t→bq_ (itF d b t)=(if b then [32] else [])++ag_ t:=by
 intro d
 induction d with
 | zero=>intro t b h;rw[t.depth_eq] at h;omega
 | succ d ih =>
  intro t b h hs;have hd:∀ a∈t.args,a.depth≤d:=fun a ha=>by have:=aw_ _ ha;rw[t.depth_eq] at h;omega
  rcases ((a3_ t).1 hs).1 with hk|hk|hk|hk|hk
  ·rw[dJ_ _ _ _ hk.1,k2_ t hk.1,eW_]
  ·rw[cQ_ _ _ _ hk.1,jn_ t hk.1,eW_]
  ·rw[dm_ _ _ _ hk.1,k4_ t hk.1,aN_]
   have:∀ l:List Ty,(∀ a∈l,a∈t.args)→bq_ (l.flatMap fun x=>if x.atomic then itF d true x else ⟨true,6,dl_⟩ :: (itF d false x++[⟨false,6,eH_⟩]))=(l.zip (l.map ag_)).flatMap fun x=>32 :: c5_ x.1.atomic x.2:=by
    intro l
    induction l with
    | nil=>intro _;rfl
    | cons a l ihl =>
     intro hl;rw[List.flatMap_cons,eX_,ihl fun c hc=>hl c (by simp[hc]),List.map_cons,List.zip_cons_cons,List.flatMap_cons];congr 1;have ha:=hl a (by simp);show bq_ (if a.atomic then _ else _)=32 :: c5_ a.atomic (ag_ a);unfold c5_
     split
     ·rw[ih a true (hd a ha) (hs.args a ha)];rfl
     ·rw[aN_,eX_,ih a false (hd a ha) (hs.args a ha),eW_]
      simp[dl_,eH_]
   rw[this t.args fun a ha=>ha];simp
  ·obtain⟨x,y,hxy⟩:∃ x y,t.args=[x,y]:=by
    match hl:t.args,hk.2.2.2 with
    | [x,y],_=>exact⟨x,y,rfl⟩
   have hx:=ih x b (hd x (by rw[hxy];simp)) (hs.args x (by rw[hxy];simp));have hx':=ih x false (hd x (by rw[hxy];simp)) (hs.args x (by rw[hxy];simp));have hy:=ih y true (hd y (by rw[hxy];simp)) (hs.args y (by rw[hxy];simp));rw[fG_ _ _ _ x y hk.1 hxy,k3_ t x y hk.1 hxy,eX_,aN_,hy];unfold c5_
   split
   ·rw[hx];simp[cA_]
   ·rw[aN_,eX_,hx',eW_];simp[dl_,eH_,cA_]
  ·obtain⟨x,hx⟩:∃ x,t.args=[x]:=by
    match hl:t.args,hk.2.2 with
    | [x],_=>exact⟨x,rfl⟩
   have hx':=ih x true (hd x (by rw[hx];simp)) (hs.args x (by rw[hx];simp));rw[eL_ _ _ _ x hk.1 hx,g3_ t x hk.1 hx,aN_,aN_,lg_]
   by_cases h5:x.kind=5
   ·rw[if_pos h5,if_pos h5]
    obtain⟨z,hz⟩:∃ z,x.args=[z]:=by
     match hl:x.args,((hs.args x (by rw[hx];simp)).k5 h5).2 with
     | [z],_=>exact⟨z,rfl⟩
    match d,(show 1≤d by have:=hd x (by rw[hx];simp);rw[x.depth_eq] at this;omega) with
    | d+1,_ =>
     rw[eL_ _ _ _ z h5 hz] at hx' ⊢;rw[aN_] at hx';simp only[List.tail_cons];have e1:=g3_ x z h5 hz;have e0:ag_ x=fa++bq_ ((⟨true,1,x.name.data.toList⟩:It) :: (if z.kind=5 then (itF d true z).tail else ⟨false,6,dot⟩ :: itF d true z)):=by
      exact (List.cons.inj (show (32:UInt8) :: (fa++bq_ _)=32 :: ag_ x from hx')).2.symm
     have e2:(ag_ x).drop 7=(bq_ ((⟨true,1,x.name.data.toList⟩:It) :: (if z.kind=5 then (itF d true z).tail else ⟨false,6,dot⟩ :: itF d true z))).drop 1:=by
      rw[e0];rfl
     rw[e2,aN_];simp
   ·rw[if_neg h5,if_neg h5,aN_,hx']
    simp[dot]
def bF_:Bool→List It→Prop
 | _,[]=>True
 | ps,y :: ys=>(y.bl=true∨y.k=6∨ps=true)∧bF_ (y.k==6) ys
theorem jq_ {ps:Bool}{l:List It}(h:bF_ ps l):bF_ true l:=by
 cases l with
 | nil=>trivial
 | cons y ys=>exact⟨.inr (.inr rfl),h.2⟩
theorem g5_ {ps:Bool}{l:List It}(h:bF_ false l):bF_ ps l:=by
 cases ps with
 | false=>exact h
 | true=>exact jq_ h
theorem qb_:∀ (d:Nat) (t:Ty) (b ps:Bool) (r:List It),t.depth≤d→Std t→(b=true∨ps=true)→bF_ false r→bF_ ps (itF d b t++r)∧(t.kind=5→bF_ ps ((itF d b t).tail++r)):=by
 intro d
 induction d with
 | zero=>intro t b ps r h;rw[t.depth_eq] at h;omega
 | succ d ih =>
  intro t b ps r h hs hb hr;have hd:∀ a∈t.args,a.depth≤d:=fun a ha=>by have:=aw_ _ ha;rw[t.depth_eq] at h;omega
  have hb':b=true∨(1:Nat)=6∨ps=true:=hb.imp id .inr
  rcases ((a3_ t).1 hs).1 with hk|hk|hk|hk|hk
  ·rw[dJ_ _ _ _ hk.1]
   exact⟨⟨hb.imp id .inr,hr⟩,fun e=>by omega⟩
  ·rw[cQ_ _ _ _ hk.1]
   exact⟨⟨hb.imp id .inr,hr⟩,fun e=>by omega⟩
  ·rw[dm_ _ _ _ hk.1]
   refine⟨⟨hb.imp id .inr,?_⟩,fun e=>by omega⟩;show bF_ false (_++r);have:∀ l:List Ty,(∀ a∈l,a∈t.args)→bF_ false ((l.flatMap fun x=>if x.atomic then itF d true x else ⟨true,6,dl_⟩ :: (itF d false x++[⟨false,6,eH_⟩]))++r):=by
    intro l
    induction l with
    | nil=>intro _;exact hr
    | cons a l ihl =>
     intro hl;have ha:=hl a (by simp);have hrest:=ihl fun c hc=>hl c (by simp[hc]);rw[List.flatMap_cons,List.append_assoc];generalize (l.flatMap fun x=>if x.atomic then itF d true x else (⟨true,6,dl_⟩:It) :: (itF d false x++[⟨false,6,eH_⟩]))++r=q at *
     split
     ·exact (ih a true false q (hd a ha) (hs.args a ha) (.inl rfl) hrest).1
     ·refine⟨.inl rfl,?_⟩
      show bF_ true (_++[_]++q);rw[List.append_assoc];exact (ih a false true _ (hd a ha) (hs.args a ha) (.inr rfl) (show bF_ false ((⟨false,6,eH_⟩:It) :: q) from ⟨.inr (.inl rfl),g5_ hrest⟩)).1
   exact this t.args fun a ha=>ha
  ·obtain⟨x,y,hxy⟩:∃ x y,t.args=[x,y]:=by
    match hl:t.args,hk.2.2.2 with
    | [x,y],_=>exact⟨x,y,rfl⟩
   refine⟨?_,fun e=>by omega⟩;rw[fG_ _ _ _ x y hk.1 hxy,List.append_assoc];have hy:bF_ false ((⟨true,6,cA_⟩:It) :: itF d true y++r):=⟨.inl rfl,(ih y true true r (hd y (by rw[hxy];simp)) (hs.args y (by rw[hxy];simp)) (.inl rfl) hr).1⟩;generalize (⟨true,6,cA_⟩:It) :: itF d true y++r=q at *
   split
   ·exact (ih x b ps q (hd x (by rw[hxy];simp)) (hs.args x (by rw[hxy];simp)) hb hy).1
   ·refine⟨.inr (.inl rfl),?_⟩
    show bF_ true (_++[_]++q);rw[List.append_assoc];exact (ih x false true _ (hd x (by rw[hxy];simp)) (hs.args x (by rw[hxy];simp)) (.inr rfl) (show bF_ false ((⟨false,6,eH_⟩:It) :: q) from ⟨.inr (.inl rfl),g5_ hy⟩)).1
  ·obtain⟨x,hx⟩:∃ x,t.args=[x]:=by
    match hl:t.args,hk.2.2 with
    | [x],_=>exact⟨x,rfl⟩
   have hx':=fun ps'=>ih x true ps' r (hd x (by rw[hx];simp)) (hs.args x (by rw[hx];simp)) (.inl rfl) hr;have tail:∀ ps',bF_ ps' (((⟨true,1,t.name.data.toList⟩:It) :: (if x.kind=5 then (itF d true x).tail else ⟨false,6,dot⟩ :: itF d true x))++r):=by
    intro ps';refine⟨.inl rfl,?_⟩;show bF_ false (_++r)
    split
    ·next h5=>exact (hx' false).2 h5
    ·exact⟨.inr (.inl rfl),(hx' true).1⟩
   rw[eL_ _ _ _ x hk.1 hx];exact⟨⟨hb.imp id .inr,tail false⟩,fun _=>tail ps⟩
def lu_ (i:It):Prop :=
 (i.k=1∧dR_ i.s∧aV_ (i.s.headD 0)=true∧i6_.contains i.s=false)∨(i.k=2∧dR_ i.s∧aL_ (i.s.headD 0)=true)∨(i.k=3∧i.s=fa) ∨
 (i.k=5∧∃ ds,i.s=63 :: ds∧oY_ ds)∨(i.k=6∧(i.s=dl_∨i.s=eH_∨i.s=dot∨i.s=cA_))
theorem io_ (p:UInt8→Bool)(s r:List UInt8)(h:∀ c∈s,p c=true)(hr:p (r.headD 0)=false):bb_ p (s++r)=s.length:=by
 unfold bb_;rw[List.takeWhile_append_of_pos h];cases r with
 | nil=>simp
 | cons c r=>have:p c=false:=hr;simp[this]
theorem eo_ {s r:List UInt8}(h:s≠[]):(s++r).headD 0=s.headD 0:=by
 cases s with
 | nil=>exact absurd rfl h
 | cons a s=>rfl
theorem jD_ {c:UInt8}(h:aE_ c=false):as_ c=false:=by
 simp only[aE_,Bool.or_eq_false_iff] at h;exact h.1.2
theorem jr_ (ds r:List UInt8)(h:oY_ ds)(hr:as_ (r.headD 0)=false):aJ_ (ds++r)=ds.length:=by
 have hs:=io_ as_ ds r h.digits hr;have h1:=h.len;unfold aJ_;rw[hs,if_neg,];rintro (h2|⟨h2,h3⟩)
 ·omega
 ·rw[eo_ (by intro e;rw[e] at h1;simp at h1)] at h3
  exact h.head h2 h3
theorem fY_ {s:List UInt8}(h:dR_ s):s≠[]:=by
 intro e;have:=h.len;rw[e] at this;simp at this
theorem d1_ {c:UInt8}(h:aV_ c=true):aL_ c=false:=by
 unfold aV_ at h;unfold aL_;simp only[decide_eq_true_eq] at h;simp only[decide_eq_false_iff_not];omega
theorem ih_ {s:List UInt8}(h:aL_ (s.headD 0)=true):i6_.contains s=false:=by
 rw[← Bool.not_eq_true,List.contains_iff_mem];intro hk;simp only[i6_,List.mem_cons,List.not_mem_nil,or_false] at hk
 rcases hk with rfl|rfl|rfl|rfl|rfl|rfl<;>revert h<;>decide
theorem hn_ (s r:List UInt8)(h:dR_ s)(h0:(aV_ (s.headD 0) || aL_ (s.headD 0))=true)(hr:aE_ (r.headD 0)=false):au_ (s++r)=(dH_ s,s.length):=by
 have hs:=io_ aE_ s r h.inner hr;have h1:=h.len;unfold au_;rw[eo_ (fY_ h),if_pos h0,hs,if_neg (by omega),List.take_left]
theorem rr_ (i:It)(h:lu_ i)(r:List UInt8)(hr:i.k=6∨aE_ (r.headD 0)=false):au_ (i.s++r)=(i.k,i.s.length):=by
 rcases h with ⟨hk,hn,hl,hc⟩|⟨hk,hn,hu⟩|⟨hk,hs⟩|⟨hk,ds,hs,hn⟩|⟨hk,hs⟩
 ·rw[hn_ _ _ hn (by rw[hl];rfl) (hr.resolve_left (by omega)),hk]
  unfold dH_;rw[hc,d1_ hl];rfl
 ·rw[hn_ _ _ hn (by rw[hu];simp) (hr.resolve_left (by omega)),hk]
  unfold dH_;rw[ih_ hu,hu];rfl
 ·have hn:dR_ fa:=⟨by decide,by decide⟩
  rw[hs,hn_ fa _ hn (by decide) (hr.resolve_left (by omega)),hk];rfl
 ·have hn1:=jr_ ds r hn (jD_ (hr.resolve_left (by omega)))
  have h1:=hn.len;rw[hs,hk];show au_ (63 :: (ds++r))=_;unfold au_;rw[if_neg (show ¬ (aV_ ((63 :: (ds++r)).headD 0) || aL_ ((63 :: (ds++r)).headD 0))=true from by show ¬ (aV_ 63 || aL_ 63)=true;decide),if_neg (show ¬ as_ ((63 :: (ds++r)).headD 0)=true from by show ¬ as_ 63=true;decide),if_pos (show (63 :: (ds++r)).headD 0=63 from rfl)];simp only[List.drop_succ_cons,List.drop_zero,hn1];rw[if_neg (by omega)];simp
 ·rw[hk]
  rcases hs with hs|hs|hs|hs<;>rw[hs]<;>rfl
theorem qy_ {i:It}(h:lu_ i):i.s≠[]:=by
 rcases h with ⟨_,hn,_⟩|⟨_,hn,_⟩|⟨_,hs⟩|⟨_,ds,hs,_⟩|⟨_,hs⟩
 ·exact fY_ hn
 ·exact fY_ hn
 ·rw[hs];simp[fa]
 ·rw[hs];simp
 ·rcases hs with hs|hs|hs|hs<;>rw[hs]<;>simp[dl_,eH_,dot,cA_]
theorem hc_ {c:UInt8}(h:aV_ c=true∨aL_ c=true):c≠35∧c≠10∧c≠32∧c≠9:=by
 refine⟨?_,?_,?_,?_⟩<;>(rintro rfl;revert h;decide)
theorem qz_ {i:It}(h:lu_ i):(i.s.headD 0)≠35∧(i.s.headD 0)≠10∧(i.s.headD 0)≠32∧(i.s.headD 0)≠9:=by
 rcases h with ⟨_,hn,hl,_⟩|⟨_,hn,hu⟩|⟨_,hs⟩|⟨_,ds,hs,_⟩|⟨_,hs⟩
 ·exact hc_ (.inl hl)
 ·exact hc_ (.inr hu)
 ·rw[hs];decide
 ·rw[hs];show (63:UInt8)≠35∧(63:UInt8)≠10∧(63:UInt8)≠32∧(63:UInt8)≠9;decide
 ·rcases hs with hs|hs|hs|hs<;>rw[hs]<;>decide
theorem hm_ {i:It}(h:lu_ i)(r:List UInt8):ab_ false (i.s++r)=0:=by
 have h1:=qz_ h;have h2:=qy_ h;cases hs:i.s with
 | nil=>exact absurd hs h2
 | cons c s =>
  rw[hs] at h1;simp only[List.headD_cons] at h1;show ab_ false (c :: (s++r))=0;rw[ab_,if_neg h1.1,if_neg h1.2.1,if_pos];simp[h1.2.2.1,h1.2.2.2]
theorem kO_ {l:List It}(h:bF_ false l)(hl:∀ i∈l,lu_ i):aE_ ((bq_ l).headD 0)=false:=by
 cases l with
 | nil=>rfl
 | cons i l =>
  have hi:=hl i (by simp)
  rcases h.1 with h|h|h
  ·rw[aN_,h];rfl
  ·cases hb:i.bl with
   | true=>rw[aN_,hb];rfl
   | false =>
    rw[aN_,hb];simp only[Bool.false_eq_true,if_false,List.nil_append];rw[eo_ (qy_ hi)]
    rcases hi with ⟨hk,_⟩|⟨hk,_⟩|⟨hk,_⟩|⟨hk,_⟩|⟨_,hs⟩
    all_goals first|omega|(rcases hs with hs|hs|hs|hs<;>rw[hs]<;>decide)
  ·cases h
def kt (t:Tok):Nat × List UInt8:=(t.kind,t.text)
def ktI (i:It):Nat × List UInt8:=(i.k,i.s)
theorem pu_:∀ (l:List It) (ps:Bool) (p:Nat),(∀ i∈l,lu_ i)→bF_ ps l→∃ ts,Cut (bq_ l) p ts∧ts.map kt=l.map ktI:=by
 intro l
 induction l with
 | nil=>intro ps p _ _;exact⟨[],rfl,rfl⟩
 | cons i l ih =>
  intro ps p h ho;have hi:=h i (by simp);have hl:=fun j hj=>h j (List.mem_cons_of_mem _ hj);have hb:ab_ false (bq_ (i :: l))=if i.bl then 1 else 0:=by
   rw[aN_];cases i.bl with
   | true =>
    simp only[if_true];show ab_ false (32 :: (i.s++bq_ l))=1;rw[ab_,if_neg (by decide),if_neg (by decide),if_neg (by decide),hm_ hi]
   | false =>
    simp only[Bool.false_eq_true,if_false,List.nil_append];exact hm_ hi _
  have hd:(bq_ (i :: l)).drop (ab_ false (bq_ (i :: l)))=i.s++bq_ l:=by
   rw[hb,aN_];cases i.bl<;>simp
  have hne:=qy_ hi;have hlt:ab_ false (bq_ (i :: l))<(bq_ (i :: l)).length:=by
   have:=congrArg List.length hd;rw[List.length_drop,List.length_append] at this;have:0<i.s.length:=List.length_pos_iff.2 hne;omega
  have htok:au_ (i.s++bq_ l)=(i.k,i.s.length):=by
   refine rr_ i hi _ ?_
   by_cases hk:i.k=6
   ·exact .inl hk
   ·refine .inr (kO_ ?_ hl)
    have:=ho.2;rwa [beq_eq_false_iff_ne.2 hk] at this
  obtain⟨ts,hc,hm⟩:=ih (i.k==6) (p+ab_ false (bq_ (i :: l))+i.s.length) hl ho.2;refine⟨⟨i.k,i.s,p+ab_ false (bq_ (i :: l))⟩ :: ts,⟨hlt,rfl,by rw[hd];exact htok,by rw[hd];simp,hne,?_⟩,by rw[List.map_cons,List.map_cons,hm];rfl⟩;rw[hd];simpa using hc
theorem lk_ {l:List UInt8}{p:Nat}{ts us:List Tok}(h:Cut l p ts)(k:Cut l p us):ts=us:=by
 have h1:=gc_ l.length l p [] ts (aA_ _) h;have h2:=gc_ l.length l p [] us (aA_ _) k;rw[h1] at h2;simpa using h2
def LexK (t:Ty):Prop:=((t.kind=1∨t.kind=5)→dR_ t.name.data.toList∧aV_ (t.name.data.toList.headD 0)=true∧i6_.contains t.name.data.toList=false)∧(t.kind=3→dR_ t.name.data.toList∧aL_ (t.name.data.toList.headD 0)=true)∧(t.kind=2→t.n<1000000)
mutual
def q4_:Ty→Prop
 | .mk k s n args=>LexK (.mk k s n args)∧sr_ args
def sr_:List Ty→Prop
 | []=>True
 | t :: ts=>q4_ t∧sr_ ts
end
theorem o0_ (ts:List Ty):sr_ ts↔∀ t∈ts,q4_ t:=by
 induction ts with
 | nil=>simp[sr_]
 | cons t ts ih=>rw[sr_,ih];simp
theorem cD_ (t:Ty):q4_ t↔LexK t∧∀ a∈t.args,q4_ a:=by
 cases t with
 | mk k s n args=>rw[q4_,o0_];rfl
theorem b8_ (u:Nat):(∀ c∈Lib.decDigits u,as_ c=true)∧1≤(Lib.decDigits u).length∧(1≤u→(Lib.decDigits u).headD 0≠48)∧∀ k,1≤k→u<10 ^ k→(Lib.decDigits u).length≤k:=by
 induction u using Nat.strongRecOn with
 | _ u ih =>
  rw[Lib.decDigits];have dig:∀ d,d<10→as_ (UInt8.ofNat (48+d))=true:=fun d hd=>by
   unfold as_;simp only[decide_eq_true_eq];rw[UInt8.toNat_ofNat'];omega
  split
  ·next h =>
   refine⟨by simp only[List.mem_singleton];rintro c rfl;exact dig u h,by simp,fun h1=>?_,fun k hk _=>by simpa using hk⟩;simp only[List.headD_cons];intro e;have:=congrArg UInt8.toNat e;rw[UInt8.toNat_ofNat'] at this;simp at this;omega
  ·next h =>
   obtain⟨h1,h2,h3,h4⟩:=ih (u / 10) (by omega);refine⟨?_,by simp,fun _=>?_,fun k hk hu=>?_⟩
   ·intro c hc
    rcases List.mem_append.1 hc with hc|hc
    ·exact h1 c hc
    ·rw[List.mem_singleton.1 hc];exact dig _ (by omega)
   ·rw[eo_ (by intro e;rw[e] at h2;simp at h2)]
    exact h3 (by omega)
   ·cases k with
    | zero=>omega
    | succ k =>
     rw[List.length_append];have hk1:1≤k:=by
      cases k with
      | zero=>simp at hu;omega
      | succ k=>omega
     have:=h4 k hk1 (by rw[Nat.pow_succ] at hu;omega);simp;omega
theorem of_ (n:Int)(h0:0≤n)(h:n<1000000):oY_ (Lib.itoa n):=by
 obtain⟨u,rfl⟩:∃ u:Nat,n=(u:Int):=⟨n.toNat,by omega⟩;rw[Lib.itoa_nonneg];obtain⟨h1,h2,h3,h4⟩:=b8_ u;have h5:=h4 6 (by omega) (by omega);refine⟨⟨h2,h5⟩,h1,fun hl=>?_⟩;refine h3 ?_
 rcases Nat.eq_zero_or_pos u with h|h
 ·subst h
  have:=h4 1 (by omega) (by omega);omega
 ·exact h
theorem mS_:∀ (d:Nat) (t:Ty) (b:Bool),t.depth≤d→Std t→q4_ t→∀ i∈itF d b t,lu_ i:=by
 intro d;have hsig:∀ b:Bool,lu_ ⟨b,6,dl_⟩∧lu_ ⟨b,6,eH_⟩∧lu_ ⟨b,6,dot⟩∧lu_ ⟨b,6,cA_⟩:=fun b =>
  ⟨.inr (.inr (.inr (.inr ⟨rfl,.inl rfl⟩))),.inr (.inr (.inr (.inr ⟨rfl,.inr (.inl rfl)⟩))),.inr (.inr (.inr (.inr ⟨rfl,.inr (.inr (.inl rfl))⟩))),.inr (.inr (.inr (.inr ⟨rfl,.inr (.inr (.inr rfl))⟩)))⟩
 induction d with
 | zero=>intro t b h;rw[t.depth_eq] at h;omega
 | succ d ih =>
  intro t b h hs hx i hi;have hd:∀ a∈t.args,a.depth≤d:=fun a ha=>by have:=aw_ _ ha;rw[t.depth_eq] at h;omega
  have hlx:=(cD_ t).1 hx;have hpar:∀ a∈t.args,∀ b':Bool,∀ i,i∈(⟨b',6,dl_⟩:It) :: (itF d false a++[⟨false,6,eH_⟩])→lu_ i:=fun a ha b' i hi=>by
   rcases List.mem_cons.1 hi with rfl|hi
   ·exact (hsig b').1
   ·rcases List.mem_append.1 hi with hi|hi
    ·exact ih a false (hd a ha) (hs.args a ha) (hlx.2 a ha) i hi
    ·rw[List.mem_singleton.1 hi];exact (hsig false).2.1
  rcases ((a3_ t).1 hs).1 with hk|hk|hk|hk|hk
  ·rw[dJ_ _ _ _ hk.1,List.mem_singleton] at hi
   subst hi;obtain⟨a1,a2,a3⟩:=hlx.1.1 (.inl hk.1);exact .inl ⟨rfl,a1,a2,a3⟩
  ·rw[cQ_ _ _ _ hk.1,List.mem_singleton] at hi
   subst hi;exact .inr (.inr (.inr (.inl ⟨rfl,_,rfl,of_ _ hk.2.2.2.1 (hlx.1.2.2 hk.1)⟩)))
  ·rw[dm_ _ _ _ hk.1] at hi
   rcases List.mem_cons.1 hi with rfl|hi
   ·obtain⟨a1,a2⟩:=hlx.1.2.1 hk.1
    exact .inr (.inl ⟨rfl,a1,a2⟩)
   ·obtain⟨a,ha,hi⟩:=List.mem_flatMap.1 hi
    split at hi
    ·exact ih a true (hd a ha) (hs.args a ha) (hlx.2 a ha) i hi
    ·exact hpar a ha true i hi
  ·obtain⟨x,y,hxy⟩:∃ x y,t.args=[x,y]:=by
    match hl:t.args,hk.2.2.2 with
    | [x,y],_=>exact⟨x,y,rfl⟩
   have hxm:x∈t.args:=by rw[hxy];simp
   have hym:y∈t.args:=by rw[hxy];simp
   rw[fG_ _ _ _ x y hk.1 hxy] at hi
   rcases List.mem_append.1 hi with hi|hi
   ·split at hi
    ·exact ih x b (hd x hxm) (hs.args x hxm) (hlx.2 x hxm) i hi
    ·exact hpar x hxm b i hi
   ·rcases List.mem_cons.1 hi with rfl|hi
    ·exact (hsig true).2.2.2
    ·exact ih y true (hd y hym) (hs.args y hym) (hlx.2 y hym) i hi
  ·obtain⟨x,hxx⟩:∃ x,t.args=[x]:=by
    match hl:t.args,hk.2.2 with
    | [x],_=>exact⟨x,rfl⟩
   have hxm:x∈t.args:=by rw[hxx];simp
   rw[eL_ _ _ _ x hk.1 hxx] at hi
   rcases List.mem_cons.1 hi with rfl|hi
   ·exact .inr (.inr (.inl ⟨rfl,rfl⟩))
   ·rcases List.mem_cons.1 hi with rfl|hi
    ·obtain⟨a1,a2,a3⟩:=hlx.1.1 (.inr hk.1)
     exact .inl ⟨rfl,a1,a2,a3⟩
    ·split at hi
     ·exact ih x true (hd x hxm) (hs.args x hxm) (hlx.2 x hxm) i (List.mem_of_mem_tail hi)
     ·rcases List.mem_cons.1 hi with rfl|hi
      ·exact (hsig false).2.2.1
      ·exact ih x true (hd x hxm) (hs.args x hxm) (hlx.2 x hxm) i hi
end
end Go.Proofs.YtjecnionbjlncaaGreatDoor.Tp

/- Texts laid together: TySb, TyItem, TyScanI. -/
import Derived.Test.YtofllmemmggapaaGreatDoorP13
import Derived.Test.YtofllmemmggapaaGreatDoorP03

namespace Go.Proofs.YtofllmemmggapaaGreatDoor.Tp
def nodeT (t:Ty):Ty:=.mk t.kind t.name t.n []
section
variable (p : Ty → Bool) (U : Ty)
mutual
def sbT:Ty→Ty
 | .mk k s n args=>if p (.mk k s n []) then U else .mk k s n (sbL args)
def sbL:List Ty→List Ty
 | []=>[]
 | t :: ts=>sbT t :: sbL ts
end
theorem sbL_map (ts:List Ty):sbL p U ts=ts.map (sbT p U):=by
 induction ts with
 | nil=>simp[sbL]
 | cons t ts ih=>rw[sbL,ih];rfl
theorem sbT_eq (t:Ty):sbT p U t=if p (nodeT t) then U else .mk t.kind t.name t.n (t.args.map (sbT p U)):=by
 cases t with
 | mk k s n args=>rw[sbT,sbL_map];rfl
theorem sbT_mk (k:Int)(s:ByteArray)(n:Int)(args:List Ty):sbT p U (.mk k s n args)=if p (.mk k s n []) then U else .mk k s n (args.map (sbT p U)):=by rw[sbT,sbL_map]
end
section
variable (p : Ty → Bool)
mutual
def noP:Ty→Prop
 | .mk k s n args=>p (.mk k s n [])=false∧noL args
def noL:List Ty→Prop
 | []=>True
 | t :: ts=>noP t∧noL ts
end
theorem noL_iff (ts:List Ty):noL p ts↔∀ t∈ts,noP p t:=by
 induction ts with
 | nil=>simp[noL]
 | cons t ts ih=>rw[noL,ih];simp
theorem noT_iff (t:Ty):noP p t↔p (nodeT t)=false∧∀ a∈t.args,noP p a:=by
 cases t with
 | mk k s n args=>rw[noP,noL_iff];rfl
theorem noP_mk (k:Int)(s:ByteArray)(n:Int)(args:List Ty):noP p (.mk k s n args)↔p (.mk k s n [])=false∧∀ a∈args,noP p a:=by rw[noP,noL_iff]
end
theorem ty_eta (t:Ty):Ty.mk t.kind t.name t.n t.args=t:=by cases t;rfl
theorem map_id_of {f:Ty→Ty}{l:List Ty}(h:∀ a∈l,f a=a):l.map f=l:=by
 conv=>rhs;rw[← List.map_id l]
 exact List.map_congr_left h
theorem sb_no (p:Ty→Bool)(U:Ty):∀ t:Ty,noP p t→sbT p U t=t:=by
 intro t
 induction t using Ty.ind with
 | h t ih =>
  intro h
  obtain⟨h1,h2⟩:=(noT_iff p t).1 h
  rw[sbT_eq,if_neg (by rw[h1];simp),map_id_of fun a ha=>ih a ha (h2 a ha),ty_eta]
def isVar (x:ByteArray)(t:Ty):Bool:=t.kind==1&&eqN t.name x
theorem isVar_mk (x:ByteArray)(k:Int)(s:ByteArray)(n:Int)(a:List Ty):isVar x (.mk k s n a)=(k==1&&eqN s x):=rfl
theorem no_var (x:ByteArray):∀ (t:Ty) (env:List ByteArray),Std t→(¬ fvT x t∨x∈env)→noP (isVar x) (dbT env t):=by
 intro t
 induction t using Ty.ind with
 | h t ih =>
  intro env hs h
  by_cases h5:t.kind=5
  ·rw[dbT_all _ _ h5,noP_mk]
   refine⟨rfl,fun a ha=>?_⟩
   obtain⟨b,hb,rfl⟩:=List.mem_map.1 ha
   refine ih b hb _ (hs.args b hb) ?_
   by_cases e:x=t.name
   ·exact .inr (by simp[e])
   ·rcases h with h|h
    ·exact .inl fun hx=>h ((fvT_iff _ _).2 (.inr ⟨⟨b,hb,hx⟩,fun e'=>e e'.2.symm⟩))
    ·exact .inr (by simp[h])
  ·by_cases h1:t.kind=1
   ·rw[dbT_var _ _ h1]
    unfold look
    cases hi:ixN env t.name with
    | some i=>rw[noP_mk];exact⟨rfl,fun a ha=>by cases ha⟩
    | none =>
     rw[noP_mk]
     refine⟨?_,fun a ha=>by cases ha⟩
     rw[isVar_mk]
     have:t.name≠x:=by
      rintro rfl
      rcases h with h|h
      ·exact h ((fvT_iff _ _).2 (.inl ⟨h1,rfl⟩))
      ·exact (ixN_none _ _).1 hi h
     rw[(eqN_false _ _).2 this];simp
   ·rw[dbT_other _ _ h1 h5,noP_mk]
    refine⟨?_,fun a ha=>?_⟩
    ·rw[isVar_mk];simp[h1]
    ·obtain⟨b,hb,rfl⟩:=List.mem_map.1 ha
     refine ih b hb _ (hs.args b hb) ?_
     rcases h with h|h
     ·exact .inl fun hx=>h ((fvT_iff _ _).2 (.inr ⟨⟨b,hb,hx⟩,fun e'=>h5 e'.1⟩))
     ·exact .inr h
theorem mem_metas_walk (m:Int):∀ (t:Ty) (out:List Int) (ns:List ByteArray),m∈walkF metaStep t out ns↔m∈out∨¬ noP (isMeta m) t:=by
 intro t
 induction t using Ty.ind with
 | h t ih =>
  intro out ns
  have hstep:m∈metaStep out t ns↔m∈out∨isMeta m (nodeT t)=true:=by
   rw[show isMeta m (nodeT t)=(t.kind==2&&t.n==m) from rfl]
   unfold metaStep
   split
   ·next h =>
    simp only[Bool.and_eq_true,beq_iff_eq,Bool.not_eq_true'] at h
    rw[List.mem_append,List.mem_singleton]
    simp only[Bool.and_eq_true,beq_iff_eq]
    constructor
    ·rintro (h'|rfl)
     ·exact .inl h'
     ·exact .inr ⟨h.1,rfl⟩
    ·rintro (h'|⟨_,h'⟩)
     ·exact .inl h'
     ·exact .inr h'.symm
   ·next h =>
    simp only[Bool.and_eq_true,beq_iff_eq,Bool.not_eq_true'] at h
    simp only[Bool.and_eq_true,beq_iff_eq]
    constructor
    ·exact .inl
    ·rintro (h'|⟨h1,h2⟩)
     ·exact h'
     ·subst h2
      refine Classical.byContradiction fun hx=>h ⟨h1,?_⟩
      rw[← Bool.not_eq_true,List.contains_iff_mem];exact hx
  have hl:∀ (l:List Ty) (out:List Int) (ns:List ByteArray),(∀ a∈l,∀ (out:List Int) (ns:List ByteArray),m∈walkF metaStep a out ns↔m∈out∨¬ noP (isMeta m) a)→(m∈walkL metaStep l out ns↔m∈out∨∃ a∈l,¬ noP (isMeta m) a):=by
   intro l
   induction l with
   | nil=>intro out ns _;simp[walkL]
   | cons a l ihl =>
    intro out ns h
    rw[walkL,ihl _ _ fun b hb=>h b (by simp[hb]),h a (by simp)]
    simp only[List.mem_cons,exists_eq_or_imp]
    exact or_assoc
  rw[walkF_eq,hl _ _ _ ih,hstep,noT_iff]
  constructor
  ·rintro ((h|h)|⟨a,ha,h⟩)
   ·exact .inl h
   ·exact .inr fun hn=>by rw[hn.1] at h;cases h
   ·exact .inr fun hn=>h (hn.2 a ha)
  ·rintro (h|h)
   ·exact .inl (.inl h)
   ·cases hb:isMeta m (nodeT t) with
    | true=>exact .inl (.inr rfl)
    | false=>exact .inr (Classical.byContradiction fun hx=>h ⟨hb,fun a ha=>Classical.byContradiction fun hn=>hx ⟨a,ha,hn⟩⟩)
theorem db_closed (u:Ty)(env:List ByteArray)(h:∀ x,fvT x u→x∉env):dbT env u=dbT [] u:=by
 refine db_cong u [] env fun x hx n=>?_
 unfold look
 rw[(ixN_none _ _).2 (h x hx)];rfl
theorem PutF_std (nm:ByteArray)(u:Ty)(hu:Std u):∀ (d:Nat) (t:Ty),t.depth≤d→Std t→Std (PutF d nm u t):=by
 intro d
 induction d with
 | zero=>intro t h;rw[t.depth_eq] at h;omega
 | succ d ih =>
  intro t h hs
  have hd:∀ a∈t.args,a.depth≤d:=fun a ha=>by have:=depth_arg _ ha;rw[t.depth_eq] at h;omega
  rw[PutF]
  split
  ·exact hs
  ·split
   ·exact hu
   ·split
    ·next hc =>
     simp only[Bool.and_eq_true,beq_iff_eq] at hc
     obtain⟨b,hb,hb0⟩:=std_k5 hs hc.1
     rw[hb0]
     have hbm:b∈t.args:=by rw[hb];simp
     generalize freshT t.name (freeT u++freeT b++[t.name,nm])=n
     have hr:=renF_std b.depth t.name n b (Nat.le_refl _) (hs.args b hbm)
     unfold renAll
     rw[hb0]
     exact std_all n (ih (renT t.name n b) (by show (renF _ _ _ _).depth≤d;rw[hr.1];exact hd b hbm) hr.2.1)
    ·refine std_with hs _ (by simp) fun a ha=>?_
     obtain⟨b,hb,rfl⟩:=List.mem_map.1 ha
     exact ih b (hd b hb) (hs.args b hb)
theorem db_Put (nm:ByteArray)(u:Ty):∀ (d:Nat) (t:Ty) (env:List ByteArray),t.depth≤d→Std t→nm∉env→(∀ x,fvT x u→x∉env)→dbT env (PutF d nm u t)=sbT (isVar nm) (dbT [] u) (dbT env t):=by
 intro d
 induction d with
 | zero=>intro t env h;rw[t.depth_eq] at h;omega
 | succ d ih =>
  intro t env h hs hn hu
  have hd:∀ a∈t.args,a.depth≤d:=fun a ha=>by have:=depth_arg _ ha;rw[t.depth_eq] at h;omega
  rw[PutF]
  split
  ·next hc =>
   simp only[Bool.and_eq_true,beq_iff_eq,eqN_iff] at hc
   rw[sb_no]
   refine no_var nm t env hs (.inl fun hx=>?_)
   rcases (fvT_iff _ _).1 hx with h|h
   ·omega
   ·exact h.2 hc
  ·split
   ·next h1 hc =>
    simp only[Bool.and_eq_true,beq_iff_eq,eqN_iff] at hc
    rw[db_closed u env hu,dbT_var _ _ hc.1,hc.2]
    unfold look
    rw[(ixN_none _ _).2 hn]
    show _=sbT (isVar nm) (dbT [] u) (.mk 1 nm t.n [])
    rw[sbT_mk,isVar_mk,(eqN_iff _ _).2 rfl];rfl
   ·split
    ·next h1 h2 hc =>
     simp only[Bool.and_eq_true,beq_iff_eq,eqN_iff] at hc h1
     obtain⟨b,hb,hb0⟩:=std_k5 hs hc.1
     have hbm:b∈t.args:=by rw[hb];simp
     have hnf:=freshT_not t.name (freeT u++freeT (arg0T t)++[t.name,nm])
     unfold renAll
     rw[hb0] at hnf ⊢
     generalize freshT t.name (freeT u++freeT b++[t.name,nm])=n at *
     simp only[List.mem_append,List.mem_cons,List.not_mem_nil,or_false,not_or,mem_free] at hnf
     have hr:=renF_std b.depth t.name n b (Nat.le_refl _) (hs.args b hbm)
     rw[dbT_all _ _ hc.1,hb,dbT_all _ _ rfl]
     show Ty.mk 5 emp 0 [dbT (n :: env) (PutF d nm u (renT t.name n b))]=sbT _ _ (Ty.mk 5 emp 0 [dbT (t.name :: env) b])
     rw[ih (renT t.name n b) (n :: env) (by show (renF _ _ _ _).depth≤d;rw[hr.1];exact hd b hbm) hr.2.1 ?_ ?_,db_ren_all _ _ _ _ (hs.args b hbm) hnf.1.2,sbT_mk]
     ·rfl
     ·simp only[List.mem_cons,not_or]
      exact⟨fun e=>hnf.2.2 e.symm,hn⟩
     ·intro x hx
      simp only[List.mem_cons,not_or]
      exact⟨fun e=>hnf.1.1 (e ▸ hx),hu x hx⟩
    ·next h1 h2 h3 =>
     simp only[Bool.and_eq_true,beq_iff_eq,eqN_iff,hasN_iff,mem_free] at h1 h2 h3
     by_cases hk1:t.kind=1
     ·obtain⟨hn0,ha⟩:=hs.k1 hk1
      rw[ha]
      have e1:withT t ([].map (PutF d nm u))=t:=by unfold withT;rw[List.map_nil,← ha,ty_eta]
      rw[e1,dbT_var _ _ hk1,sb_no]
      unfold look
      cases ixN env t.name with
      | some i=>simp only;rw[noP_mk];exact⟨rfl,fun a ha=>by cases ha⟩
      | none =>
       simp only;rw[noP_mk]
       refine⟨?_,fun a ha=>by cases ha⟩
       rw[isVar_mk,(eqN_false _ _).2 fun e=>h2 ⟨hk1,e⟩];simp
     ·by_cases hk5:t.kind=5
      ·rw[dbT_all _ _ hk5,dbT_all _ _ (show (withT t _).kind=5 from hk5),sbT_mk,isVar_mk,if_neg (by simp)]
       congr 1
       show (t.args.map _).map _=(t.args.map _).map _
       rw[List.map_map,List.map_map]
       refine List.map_congr_left fun a ha=>ih a _ (hd a ha) (hs.args a ha) ?_ ?_
       ·simp only[List.mem_cons,not_or]
        exact⟨fun e=>h1 ⟨hk5,e.symm⟩,hn⟩
       ·intro x hx
        simp only[List.mem_cons,not_or]
        exact⟨fun e=>h3 ⟨hk5,by subst e;exact hx⟩,hu x hx⟩
      ·rw[dbT_other _ _ hk1 hk5,dbT_other _ _ (show (withT t _).kind≠1 from hk1) (show (withT t _).kind≠5 from hk5),sbT_mk,isVar_mk,if_neg (by simp[hk1])]
       show Ty.mk t.kind t.name t.n ((t.args.map _).map _)=_
       congr 1
       rw[List.map_map,List.map_map]
       exact List.map_congr_left fun a ha=>ih a _ (hd a ha) (hs.args a ha) hn hu
theorem db_PutT (nm:ByteArray)(u t:Ty)(ht:Std t):dbT [] (PutT nm u t)=sbT (isVar nm) (dbT [] u) (dbT [] t) :=
 db_Put nm u t.depth t [] (Nat.le_refl _) ht (by simp) (by simp)
theorem PutT_std (nm:ByteArray)(u t:Ty)(ht:Std t)(hu:Std u):Std (PutT nm u t):=PutF_std nm u hu _ _ (Nat.le_refl _) ht
theorem depthL_mono (f g:Ty→Ty)(ts:List Ty)(c:Nat)(h:∀ t∈ts,(f t).depth≤(g t).depth+c):depthL (ts.map f)≤depthL (ts.map g)+c:=by
 induction ts with
 | nil=>simp[depthL]
 | cons t ts ih =>
  rw[List.map_cons,List.map_cons,depthL,depthL]
  have:=h t (by simp)
  have:=ih fun u hu=>h u (by simp[hu])
  omega
def leafP (p:Ty→Bool):Prop:=∀ t:Ty,p t=true→t.kind=1∨t.kind=2
theorem db_leaf (t:Ty)(hs:Std t)(env:List ByteArray)(h:(dbT env t).kind=1∨(dbT env t).kind=2):(dbT env t).args=[]:=by
 by_cases h5:t.kind=5
 ·rw[dbT_all _ _ h5] at h;simp[Ty.kind] at h
 ·by_cases h1:t.kind=1
  ·rw[dbT_var _ _ h1];unfold look;cases ixN env t.name<;>rfl
  ·rw[dbT_other _ _ h1 h5] at h ⊢
   have h2:t.kind=2:=h.resolve_left h1
   show t.args.map _=[]
   rw[(hs.k2 h2).2.1];rfl
theorem sb_depth (p:Ty→Bool)(hp:leafP p)(U:Ty):∀ (t:Ty) (env:List ByteArray),Std t→(dbT env t).depth≤(sbT p U (dbT env t)).depth∧(sbT p U (dbT env t)).depth+1≤(dbT env t).depth+U.depth:=by
 intro t
 have hU:1≤U.depth:=by rw[U.depth_eq];omega
 induction t using Ty.ind with
 | h t ih =>
  intro env hs
  have hlf:=db_leaf t hs env
  have key:∀ e:List ByteArray,(∀ k s n,Ty.depth (.mk k s n (t.args.map (dbT e)))≤Ty.depth (.mk k s n ((t.args.map (dbT e)).map (sbT p U)))∧Ty.depth (.mk k s n ((t.args.map (dbT e)).map (sbT p U)))+1≤Ty.depth (.mk k s n (t.args.map (dbT e)))+U.depth):=by
   intro e k s n
   rw[Ty.depth_eq (.mk k s n (t.args.map (dbT e))),Ty.depth_eq (.mk k s n ((t.args.map (dbT e)).map (sbT p U)))]
   show depthL (t.args.map (dbT e))+1≤depthL ((t.args.map (dbT e)).map (sbT p U))+1∧depthL ((t.args.map (dbT e)).map (sbT p U))+1+1≤depthL (t.args.map (dbT e))+1+U.depth
   rw[List.map_map]
   have h1:=depthL_mono (dbT e) (sbT p U ∘ dbT e) t.args 0 fun a ha=>(ih a ha e (hs.args a ha)).1
   have h2:=depthL_mono (sbT p U ∘ dbT e) (dbT e) t.args (U.depth - 1) fun a ha=>by
    have:=(ih a ha e (hs.args a ha)).2
    show (sbT p U (dbT e a)).depth≤_
    omega
   omega
  by_cases hpn:p (nodeT (dbT env t))=true
  ·have hk:(dbT env t).kind=1∨(dbT env t).kind=2:=hp (nodeT (dbT env t)) hpn
   rw[sbT_eq,if_pos hpn,Ty.depth_eq (dbT env t),hlf hk]
   simp only[depthL];omega
  ·rw[sbT_eq,if_neg hpn]
   by_cases h5:t.kind=5
   ·rw[dbT_all _ _ h5];exact key _ _ _ _
   ·by_cases h1:t.kind=1
    ·rw[dbT_var _ _ h1]
     unfold look
     cases ixN env t.name<;>(simp only[Ty.args,Ty.kind,Ty.name,Ty.n,List.map_nil];rw[Ty.depth_eq];simp only[Ty.args,depthL];omega)
    ·rw[dbT_other _ _ h1 h5];exact key _ _ _ _
theorem sizeL_mul (f g:Ty→Ty)(ts:List Ty)(c:Nat)(h:∀ t∈ts,(f t).size≤(g t).size*c):sizeL (ts.map f)≤sizeL (ts.map g)*c:=by
 induction ts with
 | nil=>simp[sizeL]
 | cons t ts ih =>
  rw[List.map_cons,List.map_cons,sizeL,sizeL,Nat.add_mul]
  have:=h t (by simp)
  have:=ih fun u hu=>h u (by simp[hu])
  omega
theorem sb_size (p:Ty→Bool)(U:Ty):∀ t:Ty,(sbT p U t).size≤t.size*U.size:=by
 intro t
 have hU:1≤U.size:=by rw[U.size_eq];omega
 induction t using Ty.ind with
 | h t ih =>
  rw[sbT_eq]
  split
  ·rw[t.size_eq,Nat.add_mul];omega
  ·rw[Ty.size_eq,t.size_eq,Nat.add_mul]
   have h1:=sizeL_mul (sbT p U) id t.args U.size ih
   rw[List.map_id] at h1
   show sizeL (t.args.map (sbT p U))+1≤sizeL t.args*U.size+1*U.size
   omega
theorem leaf_var (x:ByteArray):leafP (isVar x):=fun t h=>by unfold isVar at h;simp at h;exact .inl h.1
theorem PutT_depth (nm:ByteArray)(u t:Ty)(ht:Std t)(hu:Std u):t.depth≤(PutT nm u t).depth∧(PutT nm u t).depth<t.depth+u.depth:=by
 have h:=sb_depth (isVar nm) (leaf_var nm) (dbT [] u) t [] ht
 rw[← db_PutT nm u t ht,depth_db _ (PutT_std nm u t ht hu),depth_db _ ht,depth_db _ hu] at h
 omega
theorem PutT_size (nm:ByteArray)(u t:Ty)(ht:Std t)(hu:Std u):(PutT nm u t).size≤t.size*u.size:=by
 have h:=sb_size (isVar nm) (dbT [] u) (dbT [] t)
 rwa [← db_PutT nm u t ht,size_db _ (PutT_std nm u t ht hu),size_db _ ht,size_db _ hu] at h
end Go.Proofs.YtofllmemmggapaaGreatDoor.Tp

namespace Go.Proofs.YtofllmemmggapaaGreatDoor.Tp
open Lx
structure It where
 bl:Bool
 k:Nat
 s:List UInt8
def It.text (i:It):List UInt8:=(if i.bl then [32] else [])++i.s
def textI (l:List It):List UInt8:=l.flatMap It.text
theorem textI_cons (i:It)(l:List It):textI (i :: l)=(if i.bl then [32] else [])++i.s++textI l:=rfl
theorem textI_app (a b:List It):textI (a++b)=textI a++textI b:=List.flatMap_append
def itF:Nat→Bool→Ty→List It
 | 0,_,_=>[]
 | d+1,b,t =>
  if t.kind=2 then [⟨b,5,63 :: Lib.itoa t.n⟩]
  else if t.kind=3 then ⟨b,2,t.name.data.toList⟩ :: t.args.flatMap fun x=>if x.atomic then itF d true x else ⟨true,6,lpar⟩ :: (itF d false x++[⟨false,6,rpar⟩])
  else if t.kind=4 then (match t.args with
   | x :: y :: _=>(if decide (x.kind<4) then itF d b x else ⟨b,6,lpar⟩ :: (itF d false x++[⟨false,6,rpar⟩]))++⟨true,6,arrow⟩ :: itF d true y
   | _=>[])
  else if t.kind=5 then (match t.args with
   | x :: _=>⟨b,3,fa⟩ :: ⟨true,1,t.name.data.toList⟩ :: (if x.kind=5 then (itF d true x).tail else ⟨false,6,dot⟩ :: itF d true x)
   | _=>[])
  else [⟨b,1,t.name.data.toList⟩]
theorem itF_all (d:Nat)(b:Bool)(t x:Ty)(hk:t.kind=5)(hx:t.args=[x]):itF (d+1) b t=⟨b,3,fa⟩ :: ⟨true,1,t.name.data.toList⟩ :: (if x.kind=5 then (itF d true x).tail else ⟨false,6,dot⟩ :: itF d true x):=by
 rw[itF,if_neg (by omega),if_neg (by omega),if_neg (by omega),if_pos hk,hx]
theorem itF_fun (d:Nat)(b:Bool)(t x y:Ty)(hk:t.kind=4)(hx:t.args=[x,y]):itF (d+1) b t=(if decide (x.kind<4) then itF d b x else ⟨b,6,lpar⟩ :: (itF d false x++[⟨false,6,rpar⟩]))++⟨true,6,arrow⟩ :: itF d true y:=by
 rw[itF,if_neg (by omega),if_neg (by omega),if_pos hk,hx]
theorem itF_con (d:Nat)(b:Bool)(t:Ty)(hk:t.kind=3):itF (d+1) b t=⟨b,2,t.name.data.toList⟩ :: t.args.flatMap fun x=>if x.atomic then itF d true x else ⟨true,6,lpar⟩ :: (itF d false x++[⟨false,6,rpar⟩]):=by
 rw[itF,if_neg (by omega),if_pos hk]
theorem itF_meta (d:Nat)(b:Bool)(t:Ty)(hk:t.kind=2):itF (d+1) b t=[⟨b,5,63 :: Lib.itoa t.n⟩]:=by rw[itF,if_pos hk]
theorem itF_var (d:Nat)(b:Bool)(t:Ty)(hk:t.kind=1):itF (d+1) b t=[⟨b,1,t.name.data.toList⟩]:=by
 rw[itF,if_neg (by omega),if_neg (by omega),if_neg (by omega),if_neg (by omega)]
theorem forallT_eq:forallT=fa++[32]:=rfl
theorem printT_var (t:Ty)(hk:t.kind=1):printT t=t.name.data.toList:=by
 rw[printT_eq];unfold render;rw[if_neg (by omega),if_neg (by omega),if_neg (by omega),if_neg (by omega)]
theorem printT_meta (t:Ty)(hk:t.kind=2):printT t=63 :: Lib.itoa t.n:=by
 rw[printT_eq];unfold render;rw[if_pos hk]
theorem printT_con (t:Ty)(hk:t.kind=3):printT t=t.name.data.toList++(t.args.zip (t.args.map printT)).flatMap fun x=>32 :: paren x.1.atomic x.2:=by
 rw[printT_eq];unfold render;rw[if_neg (by omega),if_pos hk]
theorem printT_fun (t x y:Ty)(hk:t.kind=4)(hx:t.args=[x,y]):printT t=paren (decide (x.kind<4)) (printT x)++[32,45,62,32]++printT y:=by
 rw[printT_eq];unfold render;rw[if_neg (by omega),if_neg (by omega),if_pos hk,hx];rfl
theorem printT_all (t x:Ty)(hk:t.kind=5)(hx:t.args=[x]):printT t=forallT++t.name.data.toList++(if x.kind=5 then 32 :: (printT x).drop 7 else [46,32]++printT x):=by
 rw[printT_eq];unfold render;rw[if_neg (by omega),if_neg (by omega),if_neg (by omega),if_pos hk,hx];rfl
theorem textI_one (i:It):textI [i]=(if i.bl then [32] else [])++i.s:=by rw[textI_cons];simp[textI]
theorem text_it:∀ (d:Nat) (t:Ty) (b:Bool),t.depth≤d→Std t→textI (itF d b t)=(if b then [32] else [])++printT t:=by
 intro d
 induction d with
 | zero=>intro t b h;rw[t.depth_eq] at h;omega
 | succ d ih =>
  intro t b h hs
  have hd:∀ a∈t.args,a.depth≤d:=fun a ha=>by have:=depth_arg _ ha;rw[t.depth_eq] at h;omega
  rcases ((std_iff t).1 hs).1 with hk|hk|hk|hk|hk
  ·rw[itF_var _ _ _ hk.1,printT_var t hk.1,textI_one]
  ·rw[itF_meta _ _ _ hk.1,printT_meta t hk.1,textI_one]
  ·rw[itF_con _ _ _ hk.1,printT_con t hk.1,textI_cons]
   have:∀ l:List Ty,(∀ a∈l,a∈t.args)→textI (l.flatMap fun x=>if x.atomic then itF d true x else ⟨true,6,lpar⟩ :: (itF d false x++[⟨false,6,rpar⟩]))=(l.zip (l.map printT)).flatMap fun x=>32 :: paren x.1.atomic x.2:=by
    intro l
    induction l with
    | nil=>intro _;rfl
    | cons a l ihl =>
     intro hl
     rw[List.flatMap_cons,textI_app,ihl fun c hc=>hl c (by simp[hc]),List.map_cons,List.zip_cons_cons,List.flatMap_cons]
     congr 1
     have ha:=hl a (by simp)
     show textI (if a.atomic then _ else _)=32 :: paren a.atomic (printT a)
     unfold paren
     split
     ·rw[ih a true (hd a ha) (hs.args a ha)];rfl
     ·rw[textI_cons,textI_app,ih a false (hd a ha) (hs.args a ha),textI_one]
      simp[lpar,rpar]
   rw[this t.args fun a ha=>ha]
   simp
  ·obtain⟨x,y,hxy⟩:∃ x y,t.args=[x,y]:=by
    match hl:t.args,hk.2.2.2 with
    | [x,y],_=>exact⟨x,y,rfl⟩
   have hx:=ih x b (hd x (by rw[hxy];simp)) (hs.args x (by rw[hxy];simp))
   have hx':=ih x false (hd x (by rw[hxy];simp)) (hs.args x (by rw[hxy];simp))
   have hy:=ih y true (hd y (by rw[hxy];simp)) (hs.args y (by rw[hxy];simp))
   rw[itF_fun _ _ _ x y hk.1 hxy,printT_fun t x y hk.1 hxy,textI_app,textI_cons,hy]
   unfold paren
   split
   ·rw[hx];simp[arrow]
   ·rw[textI_cons,textI_app,hx',textI_one];simp[lpar,rpar,arrow]
  ·obtain⟨x,hx⟩:∃ x,t.args=[x]:=by
    match hl:t.args,hk.2.2 with
    | [x],_=>exact⟨x,rfl⟩
   have hx':=ih x true (hd x (by rw[hx];simp)) (hs.args x (by rw[hx];simp))
   rw[itF_all _ _ _ x hk.1 hx,printT_all t x hk.1 hx,textI_cons,textI_cons,forallT_eq]
   by_cases h5:x.kind=5
   ·rw[if_pos h5,if_pos h5]
    obtain⟨z,hz⟩:∃ z,x.args=[z]:=by
     match hl:x.args,((hs.args x (by rw[hx];simp)).k5 h5).2 with
     | [z],_=>exact⟨z,rfl⟩
    match d,(show 1≤d by have:=hd x (by rw[hx];simp);rw[x.depth_eq] at this;omega) with
    | d+1,_ =>
     rw[itF_all _ _ _ z h5 hz] at hx' ⊢
     rw[textI_cons] at hx'
     simp only[List.tail_cons]
     have e1:=printT_all x z h5 hz
     have e0:printT x=fa++textI ((⟨true,1,x.name.data.toList⟩:It) :: (if z.kind=5 then (itF d true z).tail else ⟨false,6,dot⟩ :: itF d true z)):=by
      exact (List.cons.inj (show (32:UInt8) :: (fa++textI _)=32 :: printT x from hx')).2.symm
     have e2:(printT x).drop 7=(textI ((⟨true,1,x.name.data.toList⟩:It) :: (if z.kind=5 then (itF d true z).tail else ⟨false,6,dot⟩ :: itF d true z))).drop 1:=by
      rw[e0];rfl
     rw[e2,textI_cons]
     simp
   ·rw[if_neg h5,if_neg h5,textI_cons,hx']
    simp[dot]
def okFrom:Bool→List It→Prop
 | _,[]=>True
 | ps,y :: ys=>(y.bl=true∨y.k=6∨ps=true)∧okFrom (y.k==6) ys
theorem okFrom_true {ps:Bool}{l:List It}(h:okFrom ps l):okFrom true l:=by
 cases l with
 | nil=>trivial
 | cons y ys=>exact⟨.inr (.inr rfl),h.2⟩
theorem okFrom_any {ps:Bool}{l:List It}(h:okFrom false l):okFrom ps l:=by
 cases ps with
 | false=>exact h
 | true=>exact okFrom_true h
theorem ok_it:∀ (d:Nat) (t:Ty) (b ps:Bool) (r:List It),t.depth≤d→Std t→(b=true∨ps=true)→okFrom false r→okFrom ps (itF d b t++r)∧(t.kind=5→okFrom ps ((itF d b t).tail++r)):=by
 intro d
 induction d with
 | zero=>intro t b ps r h;rw[t.depth_eq] at h;omega
 | succ d ih =>
  intro t b ps r h hs hb hr
  have hd:∀ a∈t.args,a.depth≤d:=fun a ha=>by have:=depth_arg _ ha;rw[t.depth_eq] at h;omega
  have hb':b=true∨(1:Nat)=6∨ps=true:=hb.imp id .inr
  rcases ((std_iff t).1 hs).1 with hk|hk|hk|hk|hk
  ·rw[itF_var _ _ _ hk.1]
   exact⟨⟨hb.imp id .inr,hr⟩,fun e=>by omega⟩
  ·rw[itF_meta _ _ _ hk.1]
   exact⟨⟨hb.imp id .inr,hr⟩,fun e=>by omega⟩
  ·rw[itF_con _ _ _ hk.1]
   refine⟨⟨hb.imp id .inr,?_⟩,fun e=>by omega⟩
   show okFrom false (_++r)
   have:∀ l:List Ty,(∀ a∈l,a∈t.args)→okFrom false ((l.flatMap fun x=>if x.atomic then itF d true x else ⟨true,6,lpar⟩ :: (itF d false x++[⟨false,6,rpar⟩]))++r):=by
    intro l
    induction l with
    | nil=>intro _;exact hr
    | cons a l ihl =>
     intro hl
     have ha:=hl a (by simp)
     have hrest:=ihl fun c hc=>hl c (by simp[hc])
     rw[List.flatMap_cons,List.append_assoc]
     generalize (l.flatMap fun x=>if x.atomic then itF d true x else (⟨true,6,lpar⟩:It) :: (itF d false x++[⟨false,6,rpar⟩]))++r=q at *
     split
     ·exact (ih a true false q (hd a ha) (hs.args a ha) (.inl rfl) hrest).1
     ·refine⟨.inl rfl,?_⟩
      show okFrom true (_++[_]++q)
      rw[List.append_assoc]
      exact (ih a false true _ (hd a ha) (hs.args a ha) (.inr rfl) (show okFrom false ((⟨false,6,rpar⟩:It) :: q) from ⟨.inr (.inl rfl),okFrom_any hrest⟩)).1
   exact this t.args fun a ha=>ha
  ·obtain⟨x,y,hxy⟩:∃ x y,t.args=[x,y]:=by
    match hl:t.args,hk.2.2.2 with
    | [x,y],_=>exact⟨x,y,rfl⟩
   refine⟨?_,fun e=>by omega⟩
   rw[itF_fun _ _ _ x y hk.1 hxy,List.append_assoc]
   have hy:okFrom false ((⟨true,6,arrow⟩:It) :: itF d true y++r):=⟨.inl rfl,(ih y true true r (hd y (by rw[hxy];simp)) (hs.args y (by rw[hxy];simp)) (.inl rfl) hr).1⟩
   generalize (⟨true,6,arrow⟩:It) :: itF d true y++r=q at *
   split
   ·exact (ih x b ps q (hd x (by rw[hxy];simp)) (hs.args x (by rw[hxy];simp)) hb hy).1
   ·refine⟨.inr (.inl rfl),?_⟩
    show okFrom true (_++[_]++q)
    rw[List.append_assoc]
    exact (ih x false true _ (hd x (by rw[hxy];simp)) (hs.args x (by rw[hxy];simp)) (.inr rfl) (show okFrom false ((⟨false,6,rpar⟩:It) :: q) from ⟨.inr (.inl rfl),okFrom_any hy⟩)).1
  ·obtain⟨x,hx⟩:∃ x,t.args=[x]:=by
    match hl:t.args,hk.2.2 with
    | [x],_=>exact⟨x,rfl⟩
   have hx':=fun ps'=>ih x true ps' r (hd x (by rw[hx];simp)) (hs.args x (by rw[hx];simp)) (.inl rfl) hr
   have tail:∀ ps',okFrom ps' (((⟨true,1,t.name.data.toList⟩:It) :: (if x.kind=5 then (itF d true x).tail else ⟨false,6,dot⟩ :: itF d true x))++r):=by
    intro ps'
    refine⟨.inl rfl,?_⟩
    show okFrom false (_++r)
    split
    ·next h5=>exact (hx' false).2 h5
    ·exact⟨.inr (.inl rfl),(hx' true).1⟩
   rw[itF_all _ _ _ x hk.1 hx]
   exact⟨⟨hb.imp id .inr,tail false⟩,fun _=>tail ps⟩
def ItOk (i:It):Prop :=
 (i.k=1∧NameT i.s∧lowerB (i.s.headD 0)=true∧keys.contains i.s=false)∨(i.k=2∧NameT i.s∧upperB (i.s.headD 0)=true)∨(i.k=3∧i.s=fa) ∨
 (i.k=5∧∃ ds,i.s=63 :: ds∧NumT ds)∨(i.k=6∧(i.s=lpar∨i.s=rpar∨i.s=dot∨i.s=arrow))
theorem span_app0 (p:UInt8→Bool)(s r:List UInt8)(h:∀ c∈s,p c=true)(hr:p (r.headD 0)=false):spanL p (s++r)=s.length:=by
 unfold spanL
 rw[List.takeWhile_append_of_pos h]
 cases r with
 | nil=>simp
 | cons c r=>have:p c=false:=hr;simp[this]
theorem headD_app0 {s r:List UInt8}(h:s≠[]):(s++r).headD 0=s.headD 0:=by
 cases s with
 | nil=>exact absurd rfl h
 | cons a s=>rfl
theorem digit_inner {c:UInt8}(h:innerB c=false):digitB c=false:=by
 simp only[innerB,Bool.or_eq_false_iff] at h;exact h.1.2
theorem number_app0 (ds r:List UInt8)(h:NumT ds)(hr:digitB (r.headD 0)=false):numberL (ds++r)=ds.length:=by
 have hs:=span_app0 digitB ds r h.digits hr
 have h1:=h.len
 unfold numberL
 rw[hs,if_neg,]
 rintro (h2|⟨h2,h3⟩)
 ·omega
 ·rw[headD_app0 (by intro e;rw[e] at h1;simp at h1)] at h3
  exact h.head h2 h3
theorem nameT_ne {s:List UInt8}(h:NameT s):s≠[]:=by
 intro e;have:=h.len;rw[e] at this;simp at this
theorem lower_not_upper {c:UInt8}(h:lowerB c=true):upperB c=false:=by
 unfold lowerB at h;unfold upperB
 simp only[decide_eq_true_eq] at h
 simp only[decide_eq_false_iff_not]
 omega
theorem upper_no_key {s:List UInt8}(h:upperB (s.headD 0)=true):keys.contains s=false:=by
 rw[← Bool.not_eq_true,List.contains_iff_mem]
 intro hk
 simp only[keys,List.mem_cons,List.not_mem_nil,or_false] at hk
 rcases hk with rfl|rfl|rfl|rfl|rfl|rfl<;>revert h<;>decide
theorem word_tok (s r:List UInt8)(h:NameT s)(h0:(lowerB (s.headD 0) || upperB (s.headD 0))=true)(hr:innerB (r.headD 0)=false):tokenL (s++r)=(kindL s,s.length):=by
 have hs:=span_app0 innerB s r h.inner hr
 have h1:=h.len
 unfold tokenL
 rw[headD_app0 (nameT_ne h),if_pos h0,hs,if_neg (by omega),List.take_left]
theorem tok_it (i:It)(h:ItOk i)(r:List UInt8)(hr:i.k=6∨innerB (r.headD 0)=false):tokenL (i.s++r)=(i.k,i.s.length):=by
 rcases h with ⟨hk,hn,hl,hc⟩|⟨hk,hn,hu⟩|⟨hk,hs⟩|⟨hk,ds,hs,hn⟩|⟨hk,hs⟩
 ·rw[word_tok _ _ hn (by rw[hl];rfl) (hr.resolve_left (by omega)),hk]
  unfold kindL
  rw[hc,lower_not_upper hl];rfl
 ·rw[word_tok _ _ hn (by rw[hu];simp) (hr.resolve_left (by omega)),hk]
  unfold kindL
  rw[upper_no_key hu,hu];rfl
 ·have hn:NameT fa:=⟨by decide,by decide⟩
  rw[hs,word_tok fa _ hn (by decide) (hr.resolve_left (by omega)),hk]
  rfl
 ·have hn1:=number_app0 ds r hn (digit_inner (hr.resolve_left (by omega)))
  have h1:=hn.len
  rw[hs,hk]
  show tokenL (63 :: (ds++r))=_
  unfold tokenL
  rw[if_neg (show ¬ (lowerB ((63 :: (ds++r)).headD 0) || upperB ((63 :: (ds++r)).headD 0))=true from by show ¬ (lowerB 63 || upperB 63)=true;decide),if_neg (show ¬ digitB ((63 :: (ds++r)).headD 0)=true from by show ¬ digitB 63=true;decide),if_pos (show (63 :: (ds++r)).headD 0=63 from rfl)]
  simp only[List.drop_succ_cons,List.drop_zero,hn1]
  rw[if_neg (by omega)]
  simp
 ·rw[hk]
  rcases hs with hs|hs|hs|hs<;>rw[hs]<;>rfl
theorem it_ne {i:It}(h:ItOk i):i.s≠[]:=by
 rcases h with ⟨_,hn,_⟩|⟨_,hn,_⟩|⟨_,hs⟩|⟨_,ds,hs,_⟩|⟨_,hs⟩
 ·exact nameT_ne hn
 ·exact nameT_ne hn
 ·rw[hs];simp[fa]
 ·rw[hs];simp
 ·rcases hs with hs|hs|hs|hs<;>rw[hs]<;>simp[lpar,rpar,dot,arrow]
theorem inner_head {c:UInt8}(h:lowerB c=true∨upperB c=true):c≠35∧c≠10∧c≠32∧c≠9:=by
 refine⟨?_,?_,?_,?_⟩<;>(rintro rfl;revert h;decide)
theorem it_head {i:It}(h:ItOk i):(i.s.headD 0)≠35∧(i.s.headD 0)≠10∧(i.s.headD 0)≠32∧(i.s.headD 0)≠9:=by
 rcases h with ⟨_,hn,hl,_⟩|⟨_,hn,hu⟩|⟨_,hs⟩|⟨_,ds,hs,_⟩|⟨_,hs⟩
 ·exact inner_head (.inl hl)
 ·exact inner_head (.inr hu)
 ·rw[hs];decide
 ·rw[hs];show (63:UInt8)≠35∧(63:UInt8)≠10∧(63:UInt8)≠32∧(63:UInt8)≠9;decide
 ·rcases hs with hs|hs|hs|hs<;>rw[hs]<;>decide
theorem between_it {i:It}(h:ItOk i)(r:List UInt8):betweenL false (i.s++r)=0:=by
 have h1:=it_head h
 have h2:=it_ne h
 cases hs:i.s with
 | nil=>exact absurd hs h2
 | cons c s =>
  rw[hs] at h1
  simp only[List.headD_cons] at h1
  show betweenL false (c :: (s++r))=0
  rw[betweenL,if_neg h1.1,if_neg h1.2.1,if_pos]
  simp[h1.2.2.1,h1.2.2.2]
theorem textI_head {l:List It}(h:okFrom false l)(hl:∀ i∈l,ItOk i):innerB ((textI l).headD 0)=false:=by
 cases l with
 | nil=>rfl
 | cons i l =>
  have hi:=hl i (by simp)
  rcases h.1 with h|h|h
  ·rw[textI_cons,h];rfl
  ·cases hb:i.bl with
   | true=>rw[textI_cons,hb];rfl
   | false =>
    rw[textI_cons,hb]
    simp only[Bool.false_eq_true,if_false,List.nil_append]
    rw[headD_app0 (it_ne hi)]
    rcases hi with ⟨hk,_⟩|⟨hk,_⟩|⟨hk,_⟩|⟨hk,_⟩|⟨_,hs⟩
    all_goals first|omega|(rcases hs with hs|hs|hs|hs<;>rw[hs]<;>decide)
  ·cases h
def kt (t:Tok):Nat × List UInt8:=(t.kind,t.text)
def ktI (i:It):Nat × List UInt8:=(i.k,i.s)
theorem cut_it:∀ (l:List It) (ps:Bool) (p:Nat),(∀ i∈l,ItOk i)→okFrom ps l→∃ ts,Cut (textI l) p ts∧ts.map kt=l.map ktI:=by
 intro l
 induction l with
 | nil=>intro ps p _ _;exact⟨[],rfl,rfl⟩
 | cons i l ih =>
  intro ps p h ho
  have hi:=h i (by simp)
  have hl:=fun j hj=>h j (List.mem_cons_of_mem _ hj)
  have hb:betweenL false (textI (i :: l))=if i.bl then 1 else 0:=by
   rw[textI_cons]
   cases i.bl with
   | true =>
    simp only[if_true]
    show betweenL false (32 :: (i.s++textI l))=1
    rw[betweenL,if_neg (by decide),if_neg (by decide),if_neg (by decide),between_it hi]
   | false =>
    simp only[Bool.false_eq_true,if_false,List.nil_append]
    exact between_it hi _
  have hd:(textI (i :: l)).drop (betweenL false (textI (i :: l)))=i.s++textI l:=by
   rw[hb,textI_cons]
   cases i.bl<;>simp
  have hne:=it_ne hi
  have hlt:betweenL false (textI (i :: l))<(textI (i :: l)).length:=by
   have:=congrArg List.length hd
   rw[List.length_drop,List.length_append] at this
   have:0<i.s.length:=List.length_pos_iff.2 hne
   omega
  have htok:tokenL (i.s++textI l)=(i.k,i.s.length):=by
   refine tok_it i hi _ ?_
   by_cases hk:i.k=6
   ·exact .inl hk
   ·refine .inr (textI_head ?_ hl)
    have:=ho.2
    rwa [beq_eq_false_iff_ne.2 hk] at this
  obtain⟨ts,hc,hm⟩:=ih (i.k==6) (p+betweenL false (textI (i :: l))+i.s.length) hl ho.2
  refine⟨⟨i.k,i.s,p+betweenL false (textI (i :: l))⟩ :: ts,⟨hlt,rfl,by rw[hd];exact htok,by rw[hd];simp,hne,?_⟩,by rw[List.map_cons,List.map_cons,hm];rfl⟩
  rw[hd]
  simpa using hc
theorem cut_unique {l:List UInt8}{p:Nat}{ts us:List Tok}(h:Cut l p ts)(k:Cut l p us):ts=us:=by
 have h1:=scanS_cut l.length l p [] ts (Nat.le_refl _) h
 have h2:=scanS_cut l.length l p [] us (Nat.le_refl _) k
 rw[h1] at h2
 simpa using h2
def LexK (t:Ty):Prop:=((t.kind=1∨t.kind=5)→NameT t.name.data.toList∧lowerB (t.name.data.toList.headD 0)=true∧keys.contains t.name.data.toList=false)∧(t.kind=3→NameT t.name.data.toList∧upperB (t.name.data.toList.headD 0)=true)∧(t.kind=2→t.n<1000000)
mutual
def LexT:Ty→Prop
 | .mk k s n args=>LexK (.mk k s n args)∧LexL args
def LexL:List Ty→Prop
 | []=>True
 | t :: ts=>LexT t∧LexL ts
end
theorem LexL_iff (ts:List Ty):LexL ts↔∀ t∈ts,LexT t:=by
 induction ts with
 | nil=>simp[LexL]
 | cons t ts ih=>rw[LexL,ih];simp
theorem lex_iff (t:Ty):LexT t↔LexK t∧∀ a∈t.args,LexT a:=by
 cases t with
 | mk k s n args=>rw[LexT,LexL_iff];rfl
theorem dec_digits (u:Nat):(∀ c∈Lib.decDigits u,digitB c=true)∧1≤(Lib.decDigits u).length∧(1≤u→(Lib.decDigits u).headD 0≠48)∧∀ k,1≤k→u<10 ^ k→(Lib.decDigits u).length≤k:=by
 induction u using Nat.strongRecOn with
 | _ u ih =>
  rw[Lib.decDigits]
  have dig:∀ d,d<10→digitB (UInt8.ofNat (48+d))=true:=fun d hd=>by
   unfold digitB;simp only[decide_eq_true_eq];rw[UInt8.toNat_ofNat'];omega
  split
  ·next h =>
   refine⟨by simp only[List.mem_singleton];rintro c rfl;exact dig u h,by simp,fun h1=>?_,fun k hk _=>by simpa using hk⟩
   simp only[List.headD_cons]
   intro e
   have:=congrArg UInt8.toNat e
   rw[UInt8.toNat_ofNat'] at this
   simp at this;omega
  ·next h =>
   obtain⟨h1,h2,h3,h4⟩:=ih (u / 10) (by omega)
   refine⟨?_,by simp,fun _=>?_,fun k hk hu=>?_⟩
   ·intro c hc
    rcases List.mem_append.1 hc with hc|hc
    ·exact h1 c hc
    ·rw[List.mem_singleton.1 hc];exact dig _ (by omega)
   ·rw[headD_app0 (by intro e;rw[e] at h2;simp at h2)]
    exact h3 (by omega)
   ·cases k with
    | zero=>omega
    | succ k =>
     rw[List.length_append]
     have hk1:1≤k:=by
      cases k with
      | zero=>simp at hu;omega
      | succ k=>omega
     have:=h4 k hk1 (by rw[Nat.pow_succ] at hu;omega)
     simp;omega
theorem num_itoa (n:Int)(h0:0≤n)(h:n<1000000):NumT (Lib.itoa n):=by
 obtain⟨u,rfl⟩:∃ u:Nat,n=(u:Int):=⟨n.toNat,by omega⟩
 rw[Lib.itoa_nonneg]
 obtain⟨h1,h2,h3,h4⟩:=dec_digits u
 have h5:=h4 6 (by omega) (by omega)
 refine⟨⟨h2,h5⟩,h1,fun hl=>?_⟩
 refine h3 ?_
 rcases Nat.eq_zero_or_pos u with h|h
 ·subst h
  have:=h4 1 (by omega) (by omega)
  omega
 ·exact h
theorem lexs_it:∀ (d:Nat) (t:Ty) (b:Bool),t.depth≤d→Std t→LexT t→∀ i∈itF d b t,ItOk i:=by
 intro d
 have hsig:∀ b:Bool,ItOk ⟨b,6,lpar⟩∧ItOk ⟨b,6,rpar⟩∧ItOk ⟨b,6,dot⟩∧ItOk ⟨b,6,arrow⟩:=fun b =>
  ⟨.inr (.inr (.inr (.inr ⟨rfl,.inl rfl⟩))),.inr (.inr (.inr (.inr ⟨rfl,.inr (.inl rfl)⟩))),.inr (.inr (.inr (.inr ⟨rfl,.inr (.inr (.inl rfl))⟩))),.inr (.inr (.inr (.inr ⟨rfl,.inr (.inr (.inr rfl))⟩)))⟩
 induction d with
 | zero=>intro t b h;rw[t.depth_eq] at h;omega
 | succ d ih =>
  intro t b h hs hx i hi
  have hd:∀ a∈t.args,a.depth≤d:=fun a ha=>by have:=depth_arg _ ha;rw[t.depth_eq] at h;omega
  have hlx:=(lex_iff t).1 hx
  have hpar:∀ a∈t.args,∀ b':Bool,∀ i,i∈(⟨b',6,lpar⟩:It) :: (itF d false a++[⟨false,6,rpar⟩])→ItOk i:=fun a ha b' i hi=>by
   rcases List.mem_cons.1 hi with rfl|hi
   ·exact (hsig b').1
   ·rcases List.mem_append.1 hi with hi|hi
    ·exact ih a false (hd a ha) (hs.args a ha) (hlx.2 a ha) i hi
    ·rw[List.mem_singleton.1 hi];exact (hsig false).2.1
  rcases ((std_iff t).1 hs).1 with hk|hk|hk|hk|hk
  ·rw[itF_var _ _ _ hk.1,List.mem_singleton] at hi
   subst hi
   obtain⟨a1,a2,a3⟩:=hlx.1.1 (.inl hk.1)
   exact .inl ⟨rfl,a1,a2,a3⟩
  ·rw[itF_meta _ _ _ hk.1,List.mem_singleton] at hi
   subst hi
   exact .inr (.inr (.inr (.inl ⟨rfl,_,rfl,num_itoa _ hk.2.2.2.1 (hlx.1.2.2 hk.1)⟩)))
  ·rw[itF_con _ _ _ hk.1] at hi
   rcases List.mem_cons.1 hi with rfl|hi
   ·obtain⟨a1,a2⟩:=hlx.1.2.1 hk.1
    exact .inr (.inl ⟨rfl,a1,a2⟩)
   ·obtain⟨a,ha,hi⟩:=List.mem_flatMap.1 hi
    split at hi
    ·exact ih a true (hd a ha) (hs.args a ha) (hlx.2 a ha) i hi
    ·exact hpar a ha true i hi
  ·obtain⟨x,y,hxy⟩:∃ x y,t.args=[x,y]:=by
    match hl:t.args,hk.2.2.2 with
    | [x,y],_=>exact⟨x,y,rfl⟩
   have hxm:x∈t.args:=by rw[hxy];simp
   have hym:y∈t.args:=by rw[hxy];simp
   rw[itF_fun _ _ _ x y hk.1 hxy] at hi
   rcases List.mem_append.1 hi with hi|hi
   ·split at hi
    ·exact ih x b (hd x hxm) (hs.args x hxm) (hlx.2 x hxm) i hi
    ·exact hpar x hxm b i hi
   ·rcases List.mem_cons.1 hi with rfl|hi
    ·exact (hsig true).2.2.2
    ·exact ih y true (hd y hym) (hs.args y hym) (hlx.2 y hym) i hi
  ·obtain⟨x,hxx⟩:∃ x,t.args=[x]:=by
    match hl:t.args,hk.2.2 with
    | [x],_=>exact⟨x,rfl⟩
   have hxm:x∈t.args:=by rw[hxx];simp
   rw[itF_all _ _ _ x hk.1 hxx] at hi
   rcases List.mem_cons.1 hi with rfl|hi
   ·exact .inr (.inr (.inl ⟨rfl,rfl⟩))
   ·rcases List.mem_cons.1 hi with rfl|hi
    ·obtain⟨a1,a2,a3⟩:=hlx.1.1 (.inr hk.1)
     exact .inl ⟨rfl,a1,a2,a3⟩
    ·split at hi
     ·exact ih x true (hd x hxm) (hs.args x hxm) (hlx.2 x hxm) i (List.mem_of_mem_tail hi)
     ·rcases List.mem_cons.1 hi with rfl|hi
      ·exact (hsig false).2.2.1
      ·exact ih x true (hd x hxm) (hs.args x hxm) (hlx.2 x hxm) i hi
end Go.Proofs.YtofllmemmggapaaGreatDoor.Tp

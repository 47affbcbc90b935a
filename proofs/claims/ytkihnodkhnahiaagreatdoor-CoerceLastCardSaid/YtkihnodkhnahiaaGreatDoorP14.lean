/- Texts laid together: TySb, TyItem, TyScanI. -/
import Derived.Test.YtkihnodkhnahiaaGreatDoorP13
import Derived.Test.YtkihnodkhnahiaaGreatDoorP03

namespace Go.Proofs.YtkihnodkhnahiaaGreatDoor.Tp
def nodeT (t:Ty):Ty:=.mk t.kind t.name t.n []
section
variable (p : Ty → Bool) (U : Ty)
mutual
def sbT:Ty→Ty
 | .mk k s n args=>if p (.mk k s n []) then U else .mk k s n (sbL args)
def sbL:List Ty→List Ty
 | []=>[]
 | t :: ts=>sbT t :: sbL ts
end
theorem sbL_map (ts:List Ty):sbL p U ts=ts.map (sbT p U):=by
 induction ts with
 | nil=>simp[sbL]
 | cons t ts ih=>rw[sbL,ih];rfl
theorem sbT_eq (t:Ty):sbT p U t=if p (nodeT t) then U else .mk t.kind t.name t.n (t.args.map (sbT p U)):=by
 cases t with
 | mk k s n args=>rw[sbT,sbL_map];rfl
theorem sbT_mk (k:Int)(s:ByteArray)(n:Int)(args:List Ty):sbT p U (.mk k s n args)=if p (.mk k s n []) then U else .mk k s n (args.map (sbT p U)):=by rw[sbT,sbL_map]
end
section
variable (p : Ty → Bool)
mutual
def noP:Ty→Prop
 | .mk k s n args=>p (.mk k s n [])=false∧noL args
def noL:List Ty→Prop
 | []=>True
 | t :: ts=>noP t∧noL ts
end
theorem noL_iff (ts:List Ty):noL p ts↔∀ t∈ts,noP p t:=by
 induction ts with
 | nil=>simp[noL]
 | cons t ts ih=>rw[noL,ih];simp
theorem noT_iff (t:Ty):noP p t↔p (nodeT t)=false∧∀ a∈t.args,noP p a:=by
 cases t with
 | mk k s n args=>rw[noP,noL_iff];rfl
theorem noP_mk (k:Int)(s:ByteArray)(n:Int)(args:List Ty):noP p (.mk k s n args)↔p (.mk k s n [])=false∧∀ a∈args,noP p a:=by rw[noP,noL_iff]
end
theorem ty_eta (t:Ty):Ty.mk t.kind t.name t.n t.args=t:=by cases t;rfl
theorem map_id_of {f:Ty→Ty}{l:List Ty}(h:∀ a∈l,f a=a):l.map f=l:=by
 conv=>rhs;rw[← List.map_id l]
 exact List.map_congr_left h
theorem sb_no (p:Ty→Bool)(U:Ty):∀ t:Ty,noP p t→sbT p U t=t:=by
 intro t
 induction t using Ty.ind with
 | h t ih =>
  intro h
  obtain⟨h1,h2⟩:=(noT_iff p t).1 h
  rw[sbT_eq,if_neg (by rw[h1];simp),map_id_of fun a ha=>ih a ha (h2 a ha),ty_eta]
def isVar (x:ByteArray)(t:Ty):Bool:=t.kind==1&&eqN t.name x
theorem isVar_mk (x:ByteArray)(k:Int)(s:ByteArray)(n:Int)(a:List Ty):isVar x (.mk k s n a)=(k==1&&eqN s x):=rfl
theorem no_var (x:ByteArray):∀ (t:Ty) (env:List ByteArray),Std t→(¬ fvT x t∨x∈env)→noP (isVar x) (dbT env t):=by
 intro t
 induction t using Ty.ind with
 | h t ih =>
  intro env hs h
  by_cases h5:t.kind=5
  ·rw[dbT_all _ _ h5,noP_mk]
   refine⟨rfl,fun a ha=>?_⟩
   obtain⟨b,hb,rfl⟩:=List.mem_map.1 ha
   refine ih b hb _ (hs.args b hb) ?_
   by_cases e:x=t.name
   ·exact .inr (by simp[e])
   ·rcases h with h|h
    ·exact .inl fun hx=>h ((fvT_iff _ _).2 (.inr ⟨⟨b,hb,hx⟩,fun e'=>e e'.2.symm⟩))
    ·exact .inr (by simp[h])
  ·by_cases h1:t.kind=1
   ·rw[dbT_var _ _ h1]
    unfold look
    cases hi:ixN env t.name with
    | some i=>rw[noP_mk];exact⟨rfl,fun a ha=>by cases ha⟩
    | none =>
     rw[noP_mk]
     refine⟨?_,fun a ha=>by cases ha⟩
     rw[isVar_mk]
     have:t.name≠x:=by
      rintro rfl
      rcases h with h|h
      ·exact h ((fvT_iff _ _).2 (.inl ⟨h1,rfl⟩))
      ·exact (ixN_none _ _).1 hi h
     rw[(eqN_false _ _).2 this];simp
   ·rw[dbT_other _ _ h1 h5,noP_mk]
    refine⟨?_,fun a ha=>?_⟩
    ·rw[isVar_mk];simp[h1]
    ·obtain⟨b,hb,rfl⟩:=List.mem_map.1 ha
     refine ih b hb _ (hs.args b hb) ?_
     rcases h with h|h
     ·exact .inl fun hx=>h ((fvT_iff _ _).2 (.inr ⟨⟨b,hb,hx⟩,fun e'=>h5 e'.1⟩))
     ·exact .inr h
theorem mem_metas_walk (m:Int):∀ (t:Ty) (out:List Int) (ns:List ByteArray),m∈walkF metaStep t out ns↔m∈out∨¬ noP (isMeta m) t:=by
 intro t
 induction t using Ty.ind with
 | h t ih =>
  intro out ns
  have hstep:m∈metaStep out t ns↔m∈out∨isMeta m (nodeT t)=true:=by
   rw[show isMeta m (nodeT t)=(t.kind==2&&t.n==m) from rfl]
   unfold metaStep
   split
   ·next h =>
    simp only[Bool.and_eq_true,beq_iff_eq,Bool.not_eq_true'] at h
    rw[List.mem_append,List.mem_singleton]
    simp only[Bool.and_eq_true,beq_iff_eq]
    constructor
    ·rintro (h'|rfl)
     ·exact .inl h'
     ·exact .inr ⟨h.1,rfl⟩
    ·rintro (h'|⟨_,h'⟩)
     ·exact .inl h'
     ·exact .inr h'.symm
   ·next h =>
    simp only[Bool.and_eq_true,beq_iff_eq,Bool.not_eq_true'] at h
    simp only[Bool.and_eq_true,beq_iff_eq]
    constructor
    ·exact .inl
    ·rintro (h'|⟨h1,h2⟩)
     ·exact h'
     ·subst h2
      refine Classical.byContradiction fun hx=>h ⟨h1,?_⟩
      rw[← Bool.not_eq_true,List.contains_iff_mem];exact hx
  have hl:∀ (l:List Ty) (out:List Int) (ns:List ByteArray),(∀ a∈l,∀ (out:List Int) (ns:List ByteArray),m∈walkF metaStep a out ns↔m∈out∨¬ noP (isMeta m) a)→(m∈walkL metaStep l out ns↔m∈out∨∃ a∈l,¬ noP (isMeta m) a):=by
   intro l
   induction l with
   | nil=>intro out ns _;simp[walkL]
   | cons a l ihl =>
    intro out ns h
    rw[walkL,ihl _ _ fun b hb=>h b (by simp[hb]),h a (by simp)]
    simp only[List.mem_cons,exists_eq_or_imp]
    exact or_assoc
  rw[walkF_eq,hl _ _ _ ih,hstep,noT_iff]
  constructor
  ·rintro ((h|h)|⟨a,ha,h⟩)
   ·exact .inl h
   ·exact .inr fun hn=>by rw[hn.1] at h;cases h
   ·exact .inr fun hn=>h (hn.2 a ha)
  ·rintro (h|h)
   ·exact .inl (.inl h)
   ·cases hb:isMeta m (nodeT t) with
    | true=>exact .inl (.inr rfl)
    | false=>exact .inr (Classical.byContradiction fun hx=>h ⟨hb,fun a ha=>Classical.byContradiction fun hn=>hx ⟨a,ha,hn⟩⟩)
theorem no_sb (p q:Ty→Bool)(U:Ty)(hU:noP p U):∀ t:Ty,(∀ k s n,p (.mk k s n [])=true→q (.mk k s n [])=true)→noP p (sbT q U t):=by
 intro t
 induction t using Ty.ind with
 | h t ih =>
  intro hpq
  rw[sbT_eq]
  split
  ·exact hU
  ·next h =>
   rw[noP_mk]
   refine⟨?_,fun a ha=>?_⟩
   ·cases e:p (.mk t.kind t.name t.n []) with
    | false=>rfl
    | true=>exact absurd (hpq _ _ _ e) h
   ·obtain⟨b,hb,rfl⟩:=List.mem_map.1 ha
    exact ih b hb hpq
theorem db_closed (u:Ty)(env:List ByteArray)(h:∀ x,fvT x u→x∉env):dbT env u=dbT [] u:=by
 refine db_cong u [] env fun x hx n=>?_
 unfold look
 rw[(ixN_none _ _).2 (h x hx)];rfl
theorem PutF_std (nm:ByteArray)(u:Ty)(hu:Std u):∀ (d:Nat) (t:Ty),t.depth≤d→Std t→Std (PutF d nm u t):=by
 intro d
 induction d with
 | zero=>intro t h;rw[t.depth_eq] at h;omega
 | succ d ih =>
  intro t h hs
  have hd:∀ a∈t.args,a.depth≤d:=fun a ha=>by have:=depth_arg _ ha;rw[t.depth_eq] at h;omega
  rw[PutF]
  split
  ·exact hs
  ·split
   ·exact hu
   ·split
    ·next hc =>
     simp only[Bool.and_eq_true,beq_iff_eq] at hc
     obtain⟨b,hb,hb0⟩:=std_k5 hs hc.1
     rw[hb0]
     have hbm:b∈t.args:=by rw[hb];simp
     generalize freshT t.name (freeT u++freeT b++[t.name,nm])=n
     have hr:=renF_std b.depth t.name n b (Nat.le_refl _) (hs.args b hbm)
     unfold renAll
     rw[hb0]
     exact std_all n (ih (renT t.name n b) (by show (renF _ _ _ _).depth≤d;rw[hr.1];exact hd b hbm) hr.2.1)
    ·refine std_with hs _ (by simp) fun a ha=>?_
     obtain⟨b,hb,rfl⟩:=List.mem_map.1 ha
     exact ih b (hd b hb) (hs.args b hb)
theorem db_Put (nm:ByteArray)(u:Ty):∀ (d:Nat) (t:Ty) (env:List ByteArray),t.depth≤d→Std t→nm∉env→(∀ x,fvT x u→x∉env)→dbT env (PutF d nm u t)=sbT (isVar nm) (dbT [] u) (dbT env t):=by
 intro d
 induction d with
 | zero=>intro t env h;rw[t.depth_eq] at h;omega
 | succ d ih =>
  intro t env h hs hn hu
  have hd:∀ a∈t.args,a.depth≤d:=fun a ha=>by have:=depth_arg _ ha;rw[t.depth_eq] at h;omega
  rw[PutF]
  split
  ·next hc =>
   simp only[Bool.and_eq_true,beq_iff_eq,eqN_iff] at hc
   rw[sb_no]
   refine no_var nm t env hs (.inl fun hx=>?_)
   rcases (fvT_iff _ _).1 hx with h|h
   ·omega
   ·exact h.2 hc
  ·split
   ·next h1 hc =>
    simp only[Bool.and_eq_true,beq_iff_eq,eqN_iff] at hc
    rw[db_closed u env hu,dbT_var _ _ hc.1,hc.2]
    unfold look
    rw[(ixN_none _ _).2 hn]
    show _=sbT (isVar nm) (dbT [] u) (.mk 1 nm t.n [])
    rw[sbT_mk,isVar_mk,(eqN_iff _ _).2 rfl];rfl
   ·split
    ·next h1 h2 hc =>
     simp only[Bool.and_eq_true,beq_iff_eq,eqN_iff] at hc h1
     obtain⟨b,hb,hb0⟩:=std_k5 hs hc.1
     have hbm:b∈t.args:=by rw[hb];simp
     have hnf:=freshT_not t.name (freeT u++freeT (arg0T t)++[t.name,nm])
     unfold renAll
     rw[hb0] at hnf ⊢
     generalize freshT t.name (freeT u++freeT b++[t.name,nm])=n at *
     simp only[List.mem_append,List.mem_cons,List.not_mem_nil,or_false,not_or,mem_free] at hnf
     have hr:=renF_std b.depth t.name n b (Nat.le_refl _) (hs.args b hbm)
     rw[dbT_all _ _ hc.1,hb,dbT_all _ _ rfl]
     show Ty.mk 5 emp 0 [dbT (n :: env) (PutF d nm u (renT t.name n b))]=sbT _ _ (Ty.mk 5 emp 0 [dbT (t.name :: env) b])
     rw[ih (renT t.name n b) (n :: env) (by show (renF _ _ _ _).depth≤d;rw[hr.1];exact hd b hbm) hr.2.1 ?_ ?_,db_ren_all _ _ _ _ (hs.args b hbm) hnf.1.2,sbT_mk]
     ·rfl
     ·simp only[List.mem_cons,not_or]
      exact⟨fun e=>hnf.2.2 e.symm,hn⟩
     ·intro x hx
      simp only[List.mem_cons,not_or]
      exact⟨fun e=>hnf.1.1 (e ▸ hx),hu x hx⟩
    ·next h1 h2 h3 =>
     simp only[Bool.and_eq_true,beq_iff_eq,eqN_iff,hasN_iff,mem_free] at h1 h2 h3
     by_cases hk1:t.kind=1
     ·obtain⟨hn0,ha⟩:=hs.k1 hk1
      rw[ha]
      have e1:withT t ([].map (PutF d nm u))=t:=by unfold withT;rw[List.map_nil,← ha,ty_eta]
      rw[e1,dbT_var _ _ hk1,sb_no]
      unfold look
      cases ixN env t.name with
      | some i=>simp only;rw[noP_mk];exact⟨rfl,fun a ha=>by cases ha⟩
      | none =>
       simp only;rw[noP_mk]
       refine⟨?_,fun a ha=>by cases ha⟩
       rw[isVar_mk,(eqN_false _ _).2 fun e=>h2 ⟨hk1,e⟩];simp
     ·by_cases hk5:t.kind=5
      ·rw[dbT_all _ _ hk5,dbT_all _ _ (show (withT t _).kind=5 from hk5),sbT_mk,isVar_mk,if_neg (by simp)]
       congr 1
       show (t.args.map _).map _=(t.args.map _).map _
       rw[List.map_map,List.map_map]
       refine List.map_congr_left fun a ha=>ih a _ (hd a ha) (hs.args a ha) ?_ ?_
       ·simp only[List.mem_cons,not_or]
        exact⟨fun e=>h1 ⟨hk5,e.symm⟩,hn⟩
       ·intro x hx
        simp only[List.mem_cons,not_or]
        exact⟨fun e=>h3 ⟨hk5,by subst e;exact hx⟩,hu x hx⟩
      ·rw[dbT_other _ _ hk1 hk5,dbT_other _ _ (show (withT t _).kind≠1 from hk1) (show (withT t _).kind≠5 from hk5),sbT_mk,isVar_mk,if_neg (by simp[hk1])]
       show Ty.mk t.kind t.name t.n ((t.args.map _).map _)=_
       congr 1
       rw[List.map_map,List.map_map]
       exact List.map_congr_left fun a ha=>ih a _ (hd a ha) (hs.args a ha) hn hu
theorem db_PutT (nm:ByteArray)(u t:Ty)(ht:Std t):dbT [] (PutT nm u t)=sbT (isVar nm) (dbT [] u) (dbT [] t) :=
 db_Put nm u t.depth t [] (Nat.le_refl _) ht (by simp) (by simp)
theorem PutT_std (nm:ByteArray)(u t:Ty)(ht:Std t)(hu:Std u):Std (PutT nm u t):=PutF_std nm u hu _ _ (Nat.le_refl _) ht
def leafP (p:Ty→Bool):Prop:=∀ t:Ty,p t=true→t.kind=1∨t.kind=2
theorem sizeL_mul (f g:Ty→Ty)(ts:List Ty)(c:Nat)(h:∀ t∈ts,(f t).size≤(g t).size*c):sizeL (ts.map f)≤sizeL (ts.map g)*c:=by
 induction ts with
 | nil=>simp[sizeL]
 | cons t ts ih =>
  rw[List.map_cons,List.map_cons,sizeL,sizeL,Nat.add_mul]
  have:=h t (by simp)
  have:=ih fun u hu=>h u (by simp[hu])
  omega
theorem sb_size (p:Ty→Bool)(U:Ty):∀ t:Ty,(sbT p U t).size≤t.size*U.size:=by
 intro t
 have hU:1≤U.size:=by rw[U.size_eq];omega
 induction t using Ty.ind with
 | h t ih =>
  rw[sbT_eq]
  split
  ·rw[t.size_eq,Nat.add_mul];omega
  ·rw[Ty.size_eq,t.size_eq,Nat.add_mul]
   have h1:=sizeL_mul (sbT p U) id t.args U.size ih
   rw[List.map_id] at h1
   show sizeL (t.args.map (sbT p U))+1≤sizeL t.args*U.size+1*U.size
   omega
theorem leaf_var (x:ByteArray):leafP (isVar x):=fun t h=>by unfold isVar at h;simp at h;exact .inl h.1
theorem PutT_size (nm:ByteArray)(u t:Ty)(ht:Std t)(hu:Std u):(PutT nm u t).size≤t.size*u.size:=by
 have h:=sb_size (isVar nm) (dbT [] u) (dbT [] t)
 rwa [← db_PutT nm u t ht,size_db _ (PutT_std nm u t ht hu),size_db _ ht,size_db _ hu] at h
end Go.Proofs.YtkihnodkhnahiaaGreatDoor.Tp

namespace Go.Proofs.YtkihnodkhnahiaaGreatDoor.Tp
open Lx
structure It where
 bl:Bool
 k:Nat
 s:List UInt8
def It.text (i:It):List UInt8:=(if i.bl then [32] else [])++i.s
def itF:Nat→Bool→Ty→List It
 | 0,_,_=>[]
 | d+1,b,t =>
  if t.kind=2 then [⟨b,5,63 :: Lib.itoa t.n⟩]
  else if t.kind=3 then ⟨b,2,t.name.data.toList⟩ :: t.args.flatMap fun x=>if x.atomic then itF d true x else ⟨true,6,lpar⟩ :: (itF d false x++[⟨false,6,rpar⟩])
  else if t.kind=4 then (match t.args with
   | x :: y :: _=>(if decide (x.kind<4) then itF d b x else ⟨b,6,lpar⟩ :: (itF d false x++[⟨false,6,rpar⟩]))++⟨true,6,arrow⟩ :: itF d true y
   | _=>[])
  else if t.kind=5 then (match t.args with
   | x :: _=>⟨b,3,fa⟩ :: ⟨true,1,t.name.data.toList⟩ :: (if x.kind=5 then (itF d true x).tail else ⟨false,6,dot⟩ :: itF d true x)
   | _=>[])
  else [⟨b,1,t.name.data.toList⟩]
theorem itF_all (d:Nat)(b:Bool)(t x:Ty)(hk:t.kind=5)(hx:t.args=[x]):itF (d+1) b t=⟨b,3,fa⟩ :: ⟨true,1,t.name.data.toList⟩ :: (if x.kind=5 then (itF d true x).tail else ⟨false,6,dot⟩ :: itF d true x):=by
 rw[itF,if_neg (by omega),if_neg (by omega),if_neg (by omega),if_pos hk,hx]
theorem itF_fun (d:Nat)(b:Bool)(t x y:Ty)(hk:t.kind=4)(hx:t.args=[x,y]):itF (d+1) b t=(if decide (x.kind<4) then itF d b x else ⟨b,6,lpar⟩ :: (itF d false x++[⟨false,6,rpar⟩]))++⟨true,6,arrow⟩ :: itF d true y:=by
 rw[itF,if_neg (by omega),if_neg (by omega),if_pos hk,hx]
theorem itF_con (d:Nat)(b:Bool)(t:Ty)(hk:t.kind=3):itF (d+1) b t=⟨b,2,t.name.data.toList⟩ :: t.args.flatMap fun x=>if x.atomic then itF d true x else ⟨true,6,lpar⟩ :: (itF d false x++[⟨false,6,rpar⟩]):=by
 rw[itF,if_neg (by omega),if_pos hk]
theorem itF_meta (d:Nat)(b:Bool)(t:Ty)(hk:t.kind=2):itF (d+1) b t=[⟨b,5,63 :: Lib.itoa t.n⟩]:=by rw[itF,if_pos hk]
theorem itF_var (d:Nat)(b:Bool)(t:Ty)(hk:t.kind=1):itF (d+1) b t=[⟨b,1,t.name.data.toList⟩]:=by
 rw[itF,if_neg (by omega),if_neg (by omega),if_neg (by omega),if_neg (by omega)]
def kt (t:Tok):Nat × List UInt8:=(t.kind,t.text)
def ktI (i:It):Nat × List UInt8:=(i.k,i.s)
def LexK (t:Ty):Prop:=((t.kind=1∨t.kind=5)→NameT t.name.data.toList∧lowerB (t.name.data.toList.headD 0)=true∧keys.contains t.name.data.toList=false)∧(t.kind=3→NameT t.name.data.toList∧upperB (t.name.data.toList.headD 0)=true)∧(t.kind=2→t.n<1000000)
mutual
def LexT:Ty→Prop
 | .mk k s n args=>LexK (.mk k s n args)∧LexL args
def LexL:List Ty→Prop
 | []=>True
 | t :: ts=>LexT t∧LexL ts
end
theorem LexL_iff (ts:List Ty):LexL ts↔∀ t∈ts,LexT t:=by
 induction ts with
 | nil=>simp[LexL]
 | cons t ts ih=>rw[LexL,ih];simp
theorem lex_iff (t:Ty):LexT t↔LexK t∧∀ a∈t.args,LexT a:=by
 cases t with
 | mk k s n args=>rw[LexT,LexL_iff];rfl
end Go.Proofs.YtkihnodkhnahiaaGreatDoor.Tp

/- Packed. -/
import Derived.Test.YtkihnodkhnahiaaGreatDoorP13
set_option maxRecDepth 100000
set_option maxHeartbeats 6400000
namespace Go.Proofs.YtkihnodkhnahiaaGreatDoor.Tp
section
def jn_ (t:Ty):Ty:=.mk t.kind t.name t.n []
section
variable (p : Ty → Bool) (U : Ty)
mutual
def sbT:Ty→Ty
 | .mk k s n args=>if p (.mk k s n []) then U else .mk k s n (sbL args)
def sbL:List Ty→List Ty
 | []=>[]
 | t :: ts=>sbT t :: sbL ts
end
theorem mU_ (ts:List Ty):sbL p U ts=ts.map (sbT p U):=by
 induction ts with
 | nil=>simp[sbL]
 | cons t ts ih=>rw[sbL,ih];rfl
theorem hG_ (t:Ty):sbT p U t=if p (jn_ t) then U else .mk t.kind t.name t.n (t.args.map (sbT p U)):=by
 cases t with
 | mk k s n args=>rw[sbT,mU_];rfl
theorem kQ_ (k:Int)(s:ByteArray)(n:Int)(args:List Ty):sbT p U (.mk k s n args)=if p (.mk k s n []) then U else .mk k s n (args.map (sbT p U)):=by rw[sbT,mU_]
end
section
variable (p : Ty → Bool)
mutual
def noP:Ty→Prop
 | .mk k s n args=>p (.mk k s n [])=false∧noL args
def noL:List Ty→Prop
 | []=>True
 | t :: ts=>noP t∧noL ts
end
theorem nK_ (ts:List Ty):noL p ts↔∀ t∈ts,noP p t:=by
 induction ts with
 | nil=>simp[noL]
 | cons t ts ih=>rw[noL,ih];simp
theorem g0_ (t:Ty):noP p t↔p (jn_ t)=false∧∀ a∈t.args,noP p a:=by
 cases t with
 | mk k s n args=>rw[noP,nK_];rfl
theorem fc_ (k:Int)(s:ByteArray)(n:Int)(args:List Ty):noP p (.mk k s n args)↔p (.mk k s n [])=false∧∀ a∈args,noP p a:=by rw[noP,nK_]
end
theorem qm_ (t:Ty):Ty.mk t.kind t.name t.n t.args=t:=by cases t;rfl
theorem nM_ {f:Ty→Ty}{l:List Ty}(h:∀ a∈l,f a=a):l.map f=l:=by
 conv=>rhs;rw[← List.map_id l]
 exact List.map_congr_left h
theorem qV_ (p:Ty→Bool)(U:Ty):∀ t:Ty,noP p t→sbT p U t=t:=by
 intro t
 induction t using Ty.ind with
 | h t ih =>
  intro h;obtain⟨h1,h2⟩:=(g0_ p t).1 h;rw[hG_,if_neg (by rw[h1];simp),nM_ fun a ha=>ih a ha (h2 a ha),qm_]
def g5_ (x:ByteArray)(t:Ty):Bool:=t.kind==1&&eqN t.name x
theorem es_ (x:ByteArray)(k:Int)(s:ByteArray)(n:Int)(a:List Ty):g5_ x (.mk k s n a)=(k==1&&eqN s x):=rfl
theorem k4_ (x:ByteArray):∀ (t:Ty) (env:List ByteArray),Std t→(¬ fvT x t∨x∈env)→noP (g5_ x) (dbT env t):=by
 intro t
 induction t using Ty.ind with
 | h t ih =>
  intro env hs h
  by_cases h5:t.kind=5
  ·rw[cl_ _ _ h5,fc_]
   refine⟨rfl,fun a ha=>?_⟩;obtain⟨b,hb,rfl⟩:=List.mem_map.1 ha;refine ih b hb _ (hs.args b hb) ?_
   by_cases e:x=t.name
   ·exact .inr (by simp[e])
   ·rcases h with h|h
    ·exact .inl fun hx=>h ((a6_ _ _).2 (.inr ⟨⟨b,hb,hx⟩,fun e'=>e e'.2.symm⟩))
    ·exact .inr (by simp[h])
  ·by_cases h1:t.kind=1
   ·rw[cP_ _ _ h1]
    unfold fm_;cases hi:ixN env t.name with
    | some i=>rw[fc_];exact⟨rfl,fun a ha=>by cases ha⟩
    | none =>
     rw[fc_];refine⟨?_,fun a ha=>by cases ha⟩;rw[es_];have:t.name≠x:=by
      rintro rfl
      rcases h with h|h
      ·exact h ((a6_ _ _).2 (.inl ⟨h1,rfl⟩))
      ·exact (fD_ _ _).1 hi h
     rw[(jw_ _ _).2 this];simp
   ·rw[b3_ _ _ h1 h5,fc_]
    refine⟨?_,fun a ha=>?_⟩
    ·rw[es_];simp[h1]
    ·obtain⟨b,hb,rfl⟩:=List.mem_map.1 ha
     refine ih b hb _ (hs.args b hb) ?_
     rcases h with h|h
     ·exact .inl fun hx=>h ((a6_ _ _).2 (.inr ⟨⟨b,hb,hx⟩,fun e'=>h5 e'.1⟩))
     ·exact .inr h
theorem mem_metas_walk (m:Int):∀ (t:Ty) (out:List Int) (ns:List ByteArray),m∈cT_ fA_ t out ns↔m∈out∨¬ noP (hW_ m) t:=by
 intro t
 induction t using Ty.ind with
 | h t ih =>
  intro out ns;have hstep:m∈fA_ out t ns↔m∈out∨hW_ m (jn_ t)=true:=by
   rw[show hW_ m (jn_ t)=(t.kind==2&&t.n==m) from rfl];unfold fA_
   split
   ·next h =>
    simp only[Bool.and_eq_true,beq_iff_eq,Bool.not_eq_true'] at h;rw[List.mem_append,List.mem_singleton];simp only[Bool.and_eq_true,beq_iff_eq]
    constructor
    ·rintro (h'|rfl)
     ·exact .inl h'
     ·exact .inr ⟨h.1,rfl⟩
    ·rintro (h'|⟨_,h'⟩)
     ·exact .inl h'
     ·exact .inr h'.symm
   ·next h =>
    simp only[Bool.and_eq_true,beq_iff_eq,Bool.not_eq_true'] at h;simp only[Bool.and_eq_true,beq_iff_eq]
    constructor
    ·exact .inl
    ·rintro (h'|⟨h1,h2⟩)
     ·exact h'
     ·subst h2
      refine Classical.byContradiction fun hx=>h ⟨h1,?_⟩;rw[← Bool.not_eq_true,List.contains_iff_mem];exact hx
  have hl:∀ (l:List Ty) (out:List Int) (ns:List ByteArray),(∀ a∈l,∀ (out:List Int) (ns:List ByteArray),m∈cT_ fA_ a out ns↔m∈out∨¬ noP (hW_ m) a)→(m∈b7_ fA_ l out ns↔m∈out∨∃ a∈l,¬ noP (hW_ m) a):=by
   intro l
   induction l with
   | nil=>intro out ns _;simp[b7_]
   | cons a l ihl =>
    intro out ns h;rw[b7_,ihl _ _ fun b hb=>h b (by simp[hb]),h a (by simp)];simp only[List.mem_cons,exists_eq_or_imp];exact or_assoc
  rw[dq_,hl _ _ _ ih,hstep,g0_]
  constructor
  ·rintro ((h|h)|⟨a,ha,h⟩)
   ·exact .inl h
   ·exact .inr fun hn=>by rw[hn.1] at h;cases h
   ·exact .inr fun hn=>h (hn.2 a ha)
  ·rintro (h|h)
   ·exact .inl (.inl h)
   ·cases hb:hW_ m (jn_ t) with
    | true=>exact .inl (.inr rfl)
    | false=>exact .inr (Classical.byContradiction fun hx=>h ⟨hb,fun a ha=>Classical.byContradiction fun hn=>hx ⟨a,ha,hn⟩⟩)
theorem no_sb (p q:Ty→Bool)(U:Ty)(hU:noP p U):∀ t:Ty,(∀ k s n,p (.mk k s n [])=true→q (.mk k s n [])=true)→noP p (sbT q U t):=by
 intro t
 induction t using Ty.ind with
 | h t ih =>
  intro hpq;rw[hG_]
  split
  ·exact hU
  ·next h =>
   rw[fc_];refine⟨?_,fun a ha=>?_⟩
   ·cases e:p (.mk t.kind t.name t.n []) with
    | false=>rfl
    | true=>exact absurd (hpq _ _ _ e) h
   ·obtain⟨b,hb,rfl⟩:=List.mem_map.1 ha
    exact ih b hb hpq
theorem n8_ (u:Ty)(env:List ByteArray)(h:∀ x,fvT x u→x∉env):dbT env u=dbT [] u:=by
 refine n7_ u [] env fun x hx n=>?_;unfold fm_;rw[(fD_ _ _).2 (h x hx)];rfl
theorem qb_ (nm:ByteArray)(u:Ty)(hu:Std u):∀ (d:Nat) (t:Ty),t.depth≤d→Std t→Std (eO_ d nm u t):=by
 intro d
 induction d with
 | zero=>intro t h;rw[t.depth_eq] at h;omega
 | succ d ih =>
  intro t h hs;have hd:∀ a∈t.args,a.depth≤d:=fun a ha=>by have:=aT_ _ ha;rw[t.depth_eq] at h;omega
  rw[eO_]
  split
  ·exact hs
  ·split
   ·exact hu
   ·split
    ·next hc =>
     simp only[Bool.and_eq_true,beq_iff_eq] at hc;obtain⟨b,hb,hb0⟩:=gJ_ hs hc.1;rw[hb0];have hbm:b∈t.args:=by rw[hb];simp
     generalize bN_ t.name (aK_ u++aK_ b++[t.name,nm])=n;have hr:=fx_ b.depth t.name n b (aw_ _) (hs.args b hbm);unfold hL_;rw[hb0];exact jW_ n (ih (dA_ t.name n b) (by show (cs_ _ _ _ _).depth≤d;rw[hr.1];exact hd b hbm) hr.2.1)
    ·refine kL_ hs _ (by simp) fun a ha=>?_
     obtain⟨b,hb,rfl⟩:=List.mem_map.1 ha;exact ih b (hd b hb) (hs.args b hb)
theorem sC_ (nm:ByteArray)(u:Ty):∀ (d:Nat) (t:Ty) (env:List ByteArray),t.depth≤d→Std t→nm∉env→(∀ x,fvT x u→x∉env)→dbT env (eO_ d nm u t)=sbT (g5_ nm) (dbT [] u) (dbT env t):=by
 intro d
 induction d with
 | zero=>intro t env h;rw[t.depth_eq] at h;omega
 | succ d ih =>
  intro t env h hs hn hu;have hd:∀ a∈t.args,a.depth≤d:=fun a ha=>by have:=aT_ _ ha;rw[t.depth_eq] at h;omega
  rw[eO_]
  split
  ·next hc =>
   simp only[Bool.and_eq_true,beq_iff_eq,aS_] at hc;rw[qV_];refine k4_ nm t env hs (.inl fun hx=>?_)
   rcases (a6_ _ _).1 hx with h|h
   ·omega
   ·exact h.2 hc
  ·split
   ·next h1 hc =>
    simp only[Bool.and_eq_true,beq_iff_eq,aS_] at hc;rw[n8_ u env hu,cP_ _ _ hc.1,hc.2];unfold fm_;rw[(fD_ _ _).2 hn];show _=sbT (g5_ nm) (dbT [] u) (.mk 1 nm t.n []);rw[kQ_,es_,(aS_ _ _).2 rfl];rfl
   ·split
    ·next h1 h2 hc =>
     simp only[Bool.and_eq_true,beq_iff_eq,aS_] at hc h1;obtain⟨b,hb,hb0⟩:=gJ_ hs hc.1;have hbm:b∈t.args:=by rw[hb];simp
     have hnf:=f8_ t.name (aK_ u++aK_ (ew_ t)++[t.name,nm]);unfold hL_;rw[hb0] at hnf ⊢;generalize bN_ t.name (aK_ u++aK_ b++[t.name,nm])=n at *;simp only[List.mem_append,List.mem_cons,List.not_mem_nil,or_false,not_or,cd_] at hnf;have hr:=fx_ b.depth t.name n b (aw_ _) (hs.args b hbm);rw[cl_ _ _ hc.1,hb,cl_ _ _ rfl];show Ty.mk 5 emp 0 [dbT (n :: env) (eO_ d nm u (dA_ t.name n b))]=sbT _ _ (Ty.mk 5 emp 0 [dbT (t.name :: env) b]);rw[ih (dA_ t.name n b) (n :: env) (by show (cs_ _ _ _ _).depth≤d;rw[hr.1];exact hd b hbm) hr.2.1 ?_ ?_,h6_ _ _ _ _ (hs.args b hbm) hnf.1.2,kQ_]
     ·rfl
     ·simp only[List.mem_cons,not_or]
      exact⟨fun e=>hnf.2.2 e.symm,hn⟩
     ·intro x hx
      simp only[List.mem_cons,not_or];exact⟨fun e=>hnf.1.1 (e ▸ hx),hu x hx⟩
    ·next h1 h2 h3 =>
     simp only[Bool.and_eq_true,beq_iff_eq,aS_,cN_,cd_] at h1 h2 h3
     by_cases hk1:t.kind=1
     ·obtain⟨hn0,ha⟩:=hs.k1 hk1
      rw[ha];have e1:cn_ t ([].map (eO_ d nm u))=t:=by unfold cn_;rw[List.map_nil,← ha,qm_]
      rw[e1,cP_ _ _ hk1,qV_];unfold fm_;cases ixN env t.name with
      | some i=>simp only;rw[fc_];exact⟨rfl,fun a ha=>by cases ha⟩
      | none =>
       simp only;rw[fc_];refine⟨?_,fun a ha=>by cases ha⟩;rw[es_,(jw_ _ _).2 fun e=>h2 ⟨hk1,e⟩];simp
     ·by_cases hk5:t.kind=5
      ·rw[cl_ _ _ hk5,cl_ _ _ (show (cn_ t _).kind=5 from hk5),kQ_,es_,if_neg (by simp)]
       congr 1;show (t.args.map _).map _=(t.args.map _).map _;rw[List.map_map,List.map_map];refine List.map_congr_left fun a ha=>ih a _ (hd a ha) (hs.args a ha) ?_ ?_
       ·simp only[List.mem_cons,not_or]
        exact⟨fun e=>h1 ⟨hk5,e.symm⟩,hn⟩
       ·intro x hx
        simp only[List.mem_cons,not_or];exact⟨fun e=>h3 ⟨hk5,by subst e;exact hx⟩,hu x hx⟩
      ·rw[b3_ _ _ hk1 hk5,b3_ _ _ (show (cn_ t _).kind≠1 from hk1) (show (cn_ t _).kind≠5 from hk5),kQ_,es_,if_neg (by simp[hk1])]
       show Ty.mk t.kind t.name t.n ((t.args.map _).map _)=_;congr 1;rw[List.map_map,List.map_map];exact List.map_congr_left fun a ha=>ih a _ (hd a ha) (hs.args a ha) hn hu
theorem hd_ (nm:ByteArray)(u t:Ty)(ht:Std t):dbT [] (ex_ nm u t)=sbT (g5_ nm) (dbT [] u) (dbT [] t) :=
 sC_ nm u t.depth t [] (aw_ _) ht (by simp) (by simp)
theorem e7_ (nm:ByteArray)(u t:Ty)(ht:Std t)(hu:Std u):Std (ex_ nm u t):=qb_ nm u hu _ _ (aw_ _) ht
def pF_ (p:Ty→Bool):Prop:=∀ t:Ty,p t=true→t.kind=1∨t.kind=2
theorem mR_ (f g:Ty→Ty)(ts:List Ty)(c:Nat)(h:∀ t∈ts,(f t).size≤(g t).size*c):ax_ (ts.map f)≤ax_ (ts.map g)*c:=by
 induction ts with
 | nil=>simp[ax_]
 | cons t ts ih =>
  rw[List.map_cons,List.map_cons,ax_,ax_,Nat.add_mul];have:=h t (by simp);have:=ih fun u hu=>h u (by simp[hu]);omega
theorem qU_ (p:Ty→Bool)(U:Ty):∀ t:Ty,(sbT p U t).size≤t.size*U.size:=by
 intro t;have hU:1≤U.size:=by rw[U.size_eq];omega
 induction t using Ty.ind with
 | h t ih =>
  rw[hG_]
  split
  ·rw[t.size_eq,Nat.add_mul];omega
  ·rw[Ty.size_eq,t.size_eq,Nat.add_mul]
   have h1:=mR_ (sbT p U) id t.args U.size ih;rw[List.map_id] at h1;show ax_ (t.args.map (sbT p U))+1≤ax_ t.args*U.size+1*U.size;omega
theorem k8_ (x:ByteArray):pF_ (g5_ x):=fun t h=>by unfold g5_ at h;simp at h;exact .inl h.1
theorem ow_ (nm:ByteArray)(u t:Ty)(ht:Std t)(hu:Std u):(ex_ nm u t).size≤t.size*u.size:=by
 have h:=qU_ (g5_ nm) (dbT [] u) (dbT [] t);rwa [← hd_ nm u t ht,fT_ _ (e7_ nm u t ht hu),fT_ _ ht,fT_ _ hu] at h
end
section
open Lx
structure It where
 bl:Bool
 k:Nat
 s:List UInt8
def It.text (i:It):List UInt8:=(if i.bl then [32] else [])++i.s
def cq_ (l:List It):List UInt8:=l.flatMap It.text
theorem a4_ (i:It)(l:List It):cq_ (i :: l)=(if i.bl then [32] else [])++i.s++cq_ l:=rfl
theorem cD_ (a b:List It):cq_ (a++b)=cq_ a++cq_ b:=List.flatMap_append
def itF:Nat→Bool→Ty→List It
 | 0,_,_=>[]
 | d+1,b,t =>
  if t.kind=2 then [⟨b,5,63 :: Lib.itoa t.n⟩]
  else if t.kind=3 then ⟨b,2,t.name.data.toList⟩ :: t.args.flatMap fun x=>if x.atomic then itF d true x else ⟨true,6,bX_⟩ :: (itF d false x++[⟨false,6,bB_⟩])
  else if t.kind=4 then (match t.args with
   | x :: y :: _=>(if decide (x.kind<4) then itF d b x else ⟨b,6,bX_⟩ :: (itF d false x++[⟨false,6,bB_⟩]))++⟨true,6,dj_⟩ :: itF d true y
   | _=>[])
  else if t.kind=5 then (match t.args with
   | x :: _=>⟨b,3,fa⟩ :: ⟨true,1,t.name.data.toList⟩ :: (if x.kind=5 then (itF d true x).tail else ⟨false,6,dot⟩ :: itF d true x)
   | _=>[])
  else [⟨b,1,t.name.data.toList⟩]
theorem f7_ (d:Nat)(b:Bool)(t x:Ty)(hk:t.kind=5)(hx:t.args=[x]):itF (d+1) b t=⟨b,3,fa⟩ :: ⟨true,1,t.name.data.toList⟩ :: (if x.kind=5 then (itF d true x).tail else ⟨false,6,dot⟩ :: itF d true x):=by
 rw[itF,if_neg (by omega),if_neg (by omega),if_neg (by omega),if_pos hk,hx]
theorem g4_ (d:Nat)(b:Bool)(t x y:Ty)(hk:t.kind=4)(hx:t.args=[x,y]):itF (d+1) b t=(if decide (x.kind<4) then itF d b x else ⟨b,6,bX_⟩ :: (itF d false x++[⟨false,6,bB_⟩]))++⟨true,6,dj_⟩ :: itF d true y:=by
 rw[itF,if_neg (by omega),if_neg (by omega),if_pos hk,hx]
theorem er_ (d:Nat)(b:Bool)(t:Ty)(hk:t.kind=3):itF (d+1) b t=⟨b,2,t.name.data.toList⟩ :: t.args.flatMap fun x=>if x.atomic then itF d true x else ⟨true,6,bX_⟩ :: (itF d false x++[⟨false,6,bB_⟩]):=by
 rw[itF,if_neg (by omega),if_pos hk]
theorem dV_ (d:Nat)(b:Bool)(t:Ty)(hk:t.kind=2):itF (d+1) b t=[⟨b,5,63 :: Lib.itoa t.n⟩]:=by rw[itF,if_pos hk]
theorem eH_ (d:Nat)(b:Bool)(t:Ty)(hk:t.kind=1):itF (d+1) b t=[⟨b,1,t.name.data.toList⟩]:=by
 rw[itF,if_neg (by omega),if_neg (by omega),if_neg (by omega),if_neg (by omega)]
theorem ml_:dM_=fa++[32]:=rfl
theorem l3_ (t:Ty)(hk:t.kind=1):ae_ t=t.name.data.toList:=by
 rw[bj_];unfold gd_;rw[if_neg (by omega),if_neg (by omega),if_neg (by omega),if_neg (by omega)]
theorem kc_ (t:Ty)(hk:t.kind=2):ae_ t=63 :: Lib.itoa t.n:=by
 rw[bj_];unfold gd_;rw[if_pos hk]
theorem l5_ (t:Ty)(hk:t.kind=3):ae_ t=t.name.data.toList++(t.args.zip (t.args.map ae_)).flatMap fun x=>32 :: cj_ x.1.atomic x.2:=by
 rw[bj_];unfold gd_;rw[if_neg (by omega),if_pos hk]
theorem l4_ (t x y:Ty)(hk:t.kind=4)(hx:t.args=[x,y]):ae_ t=cj_ (decide (x.kind<4)) (ae_ x)++[32,45,62,32]++ae_ y:=by
 rw[bj_];unfold gd_;rw[if_neg (by omega),if_neg (by omega),if_pos hk,hx];rfl
theorem hQ_ (t x:Ty)(hk:t.kind=5)(hx:t.args=[x]):ae_ t=dM_++t.name.data.toList++(if x.kind=5 then 32 :: (ae_ x).drop 7 else [46,32]++ae_ x):=by
 rw[bj_];unfold gd_;rw[if_neg (by omega),if_neg (by omega),if_neg (by omega),if_pos hk,hx];rfl
theorem cp_ (i:It):cq_ [i]=(if i.bl then [32] else [])++i.s:=by rw[a4_];simp[cq_]
theorem qP_:∀ (d:Nat) (t:Ty) (b:Bool),t.depth≤d→Std t→cq_ (itF d b t)=(if b then [32] else [])++ae_ t:=by
 intro d
 induction d with
 | zero=>intro t b h;rw[t.depth_eq] at h;omega
 | succ d ih =>
  intro t b h hs;have hd:∀ a∈t.args,a.depth≤d:=fun a ha=>by have:=aT_ _ ha;rw[t.depth_eq] at h;omega
  rcases ((bD_ t).1 hs).1 with hk|hk|hk|hk|hk
  ·rw[eH_ _ _ _ hk.1,l3_ t hk.1,cp_]
  ·rw[dV_ _ _ _ hk.1,kc_ t hk.1,cp_]
  ·rw[er_ _ _ _ hk.1,l5_ t hk.1,a4_]
   have:∀ l:List Ty,(∀ a∈l,a∈t.args)→cq_ (l.flatMap fun x=>if x.atomic then itF d true x else ⟨true,6,bX_⟩ :: (itF d false x++[⟨false,6,bB_⟩]))=(l.zip (l.map ae_)).flatMap fun x=>32 :: cj_ x.1.atomic x.2:=by
    intro l
    induction l with
    | nil=>intro _;rfl
    | cons a l ihl =>
     intro hl;rw[List.flatMap_cons,cD_,ihl fun c hc=>hl c (by simp[hc]),List.map_cons,List.zip_cons_cons,List.flatMap_cons];congr 1;have ha:=hl a (by simp);show cq_ (if a.atomic then _ else _)=32 :: cj_ a.atomic (ae_ a);unfold cj_
     split
     ·rw[ih a true (hd a ha) (hs.args a ha)];rfl
     ·rw[a4_,cD_,ih a false (hd a ha) (hs.args a ha),cp_]
      simp[bX_,bB_]
   rw[this t.args fun a ha=>ha];simp
  ·obtain⟨x,y,hxy⟩:∃ x y,t.args=[x,y]:=by
    match hl:t.args,hk.2.2.2 with
    | [x,y],_=>exact⟨x,y,rfl⟩
   have hx:=ih x b (hd x (by rw[hxy];simp)) (hs.args x (by rw[hxy];simp));have hx':=ih x false (hd x (by rw[hxy];simp)) (hs.args x (by rw[hxy];simp));have hy:=ih y true (hd y (by rw[hxy];simp)) (hs.args y (by rw[hxy];simp));rw[g4_ _ _ _ x y hk.1 hxy,l4_ t x y hk.1 hxy,cD_,a4_,hy];unfold cj_
   split
   ·rw[hx];simp[dj_]
   ·rw[a4_,cD_,hx',cp_];simp[bX_,bB_,dj_]
  ·obtain⟨x,hx⟩:∃ x,t.args=[x]:=by
    match hl:t.args,hk.2.2 with
    | [x],_=>exact⟨x,rfl⟩
   have hx':=ih x true (hd x (by rw[hx];simp)) (hs.args x (by rw[hx];simp));rw[f7_ _ _ _ x hk.1 hx,hQ_ t x hk.1 hx,a4_,a4_,ml_]
   by_cases h5:x.kind=5
   ·rw[if_pos h5,if_pos h5]
    obtain⟨z,hz⟩:∃ z,x.args=[z]:=by
     match hl:x.args,((hs.args x (by rw[hx];simp)).k5 h5).2 with
     | [z],_=>exact⟨z,rfl⟩
    match d,(show 1≤d by have:=hd x (by rw[hx];simp);rw[x.depth_eq] at this;omega) with
    | d+1,_ =>
     rw[f7_ _ _ _ z h5 hz] at hx' ⊢;rw[a4_] at hx';simp only[List.tail_cons];have e1:=hQ_ x z h5 hz;have e0:ae_ x=fa++cq_ ((⟨true,1,x.name.data.toList⟩:It) :: (if z.kind=5 then (itF d true z).tail else ⟨false,6,dot⟩ :: itF d true z)):=by
      exact (List.cons.inj (show (32:UInt8) :: (fa++cq_ _)=32 :: ae_ x from hx')).2.symm
     have e2:(ae_ x).drop 7=(cq_ ((⟨true,1,x.name.data.toList⟩:It) :: (if z.kind=5 then (itF d true z).tail else ⟨false,6,dot⟩ :: itF d true z))).drop 1:=by
      rw[e0];rfl
     rw[e2,a4_];simp
   ·rw[if_neg h5,if_neg h5,a4_,hx']
    simp[dot]
def bk_:Bool→List It→Prop
 | _,[]=>True
 | ps,y :: ys=>(y.bl=true∨y.k=6∨ps=true)∧bk_ (y.k==6) ys
theorem ke_ {ps:Bool}{l:List It}(h:bk_ ps l):bk_ true l:=by
 cases l with
 | nil=>trivial
 | cons y ys=>exact⟨.inr (.inr rfl),h.2⟩
theorem e0_ {ps:Bool}{l:List It}(h:bk_ false l):bk_ ps l:=by
 cases ps with
 | false=>exact h
 | true=>exact ke_ h
theorem ok_it:∀ (d:Nat) (t:Ty) (b ps:Bool) (r:List It),t.depth≤d→Std t→(b=true∨ps=true)→bk_ false r→bk_ ps (itF d b t++r)∧(t.kind=5→bk_ ps ((itF d b t).tail++r)):=by
 intro d
 induction d with
 | zero=>intro t b ps r h;rw[t.depth_eq] at h;omega
 | succ d ih =>
  intro t b ps r h hs hb hr;have hd:∀ a∈t.args,a.depth≤d:=fun a ha=>by have:=aT_ _ ha;rw[t.depth_eq] at h;omega
  have hb':b=true∨(1:Nat)=6∨ps=true:=hb.imp id .inr
  rcases ((bD_ t).1 hs).1 with hk|hk|hk|hk|hk
  ·rw[eH_ _ _ _ hk.1]
   exact⟨⟨hb.imp id .inr,hr⟩,fun e=>by omega⟩
  ·rw[dV_ _ _ _ hk.1]
   exact⟨⟨hb.imp id .inr,hr⟩,fun e=>by omega⟩
  ·rw[er_ _ _ _ hk.1]
   refine⟨⟨hb.imp id .inr,?_⟩,fun e=>by omega⟩;show bk_ false (_++r);have:∀ l:List Ty,(∀ a∈l,a∈t.args)→bk_ false ((l.flatMap fun x=>if x.atomic then itF d true x else ⟨true,6,bX_⟩ :: (itF d false x++[⟨false,6,bB_⟩]))++r):=by
    intro l
    induction l with
    | nil=>intro _;exact hr
    | cons a l ihl =>
     intro hl;have ha:=hl a (by simp);have hrest:=ihl fun c hc=>hl c (by simp[hc]);rw[List.flatMap_cons,List.append_assoc];generalize (l.flatMap fun x=>if x.atomic then itF d true x else (⟨true,6,bX_⟩:It) :: (itF d false x++[⟨false,6,bB_⟩]))++r=q at *
     split
     ·exact (ih a true false q (hd a ha) (hs.args a ha) (.inl rfl) hrest).1
     ·refine⟨.inl rfl,?_⟩
      show bk_ true (_++[_]++q);rw[List.append_assoc];exact (ih a false true _ (hd a ha) (hs.args a ha) (.inr rfl) (show bk_ false ((⟨false,6,bB_⟩:It) :: q) from ⟨.inr (.inl rfl),e0_ hrest⟩)).1
   exact this t.args fun a ha=>ha
  ·obtain⟨x,y,hxy⟩:∃ x y,t.args=[x,y]:=by
    match hl:t.args,hk.2.2.2 with
    | [x,y],_=>exact⟨x,y,rfl⟩
   refine⟨?_,fun e=>by omega⟩;rw[g4_ _ _ _ x y hk.1 hxy,List.append_assoc];have hy:bk_ false ((⟨true,6,dj_⟩:It) :: itF d true y++r):=⟨.inl rfl,(ih y true true r (hd y (by rw[hxy];simp)) (hs.args y (by rw[hxy];simp)) (.inl rfl) hr).1⟩;generalize (⟨true,6,dj_⟩:It) :: itF d true y++r=q at *
   split
   ·exact (ih x b ps q (hd x (by rw[hxy];simp)) (hs.args x (by rw[hxy];simp)) hb hy).1
   ·refine⟨.inr (.inl rfl),?_⟩
    show bk_ true (_++[_]++q);rw[List.append_assoc];exact (ih x false true _ (hd x (by rw[hxy];simp)) (hs.args x (by rw[hxy];simp)) (.inr rfl) (show bk_ false ((⟨false,6,bB_⟩:It) :: q) from ⟨.inr (.inl rfl),e0_ hy⟩)).1
  ·obtain⟨x,hx⟩:∃ x,t.args=[x]:=by
    match hl:t.args,hk.2.2 with
    | [x],_=>exact⟨x,rfl⟩
   have hx':=fun ps'=>ih x true ps' r (hd x (by rw[hx];simp)) (hs.args x (by rw[hx];simp)) (.inl rfl) hr;have tail:∀ ps',bk_ ps' (((⟨true,1,t.name.data.toList⟩:It) :: (if x.kind=5 then (itF d true x).tail else ⟨false,6,dot⟩ :: itF d true x))++r):=by
    intro ps';refine⟨.inl rfl,?_⟩;show bk_ false (_++r)
    split
    ·next h5=>exact (hx' false).2 h5
    ·exact⟨.inr (.inl rfl),(hx' true).1⟩
   rw[f7_ _ _ _ x hk.1 hx];exact⟨⟨hb.imp id .inr,tail false⟩,fun _=>tail ps⟩
def oI_ (i:It):Prop :=
 (i.k=1∧d9_ i.s∧a8_ (i.s.headD 0)=true∧kh_.contains i.s=false)∨(i.k=2∧d9_ i.s∧a5_ (i.s.headD 0)=true)∨(i.k=3∧i.s=fa) ∨
 (i.k=5∧∃ ds,i.s=63 :: ds∧lo_ ds)∨(i.k=6∧(i.s=bX_∨i.s=bB_∨i.s=dot∨i.s=dj_))
theorem i5_ (p:UInt8→Bool)(s r:List UInt8)(h:∀ c∈s,p c=true)(hr:p (r.headD 0)=false):bA_ p (s++r)=s.length:=by
 unfold bA_;rw[List.takeWhile_append_of_pos h];cases r with
 | nil=>simp
 | cons c r=>have:p c=false:=hr;simp[this]
theorem ef_ {s r:List UInt8}(h:s≠[]):(s++r).headD 0=s.headD 0:=by
 cases s with
 | nil=>exact absurd rfl h
 | cons a s=>rfl
theorem ha_ {c:UInt8}(h:aV_ c=false):aA_ c=false:=by
 simp only[aV_,Bool.or_eq_false_iff] at h;exact h.1.2
theorem gY_ (ds r:List UInt8)(h:lo_ ds)(hr:aA_ (r.headD 0)=false):aR_ (ds++r)=ds.length:=by
 have hs:=i5_ aA_ ds r h.digits hr;have h1:=h.len;unfold aR_;rw[hs,if_neg,];rintro (h2|⟨h2,h3⟩)
 ·omega
 ·rw[ef_ (by intro e;rw[e] at h1;simp at h1)] at h3
  exact h.head h2 h3
theorem ix_ {s:List UInt8}(h:d9_ s):s≠[]:=by
 intro e;have:=h.len;rw[e] at this;simp at this
theorem g2_ {c:UInt8}(h:a8_ c=true):a5_ c=false:=by
 unfold a8_ at h;unfold a5_;simp only[decide_eq_true_eq] at h;simp only[decide_eq_false_iff_not];omega
theorem iX_ {s:List UInt8}(h:a5_ (s.headD 0)=true):kh_.contains s=false:=by
 rw[← Bool.not_eq_true,List.contains_iff_mem];intro hk;simp only[kh_,List.mem_cons,List.not_mem_nil,or_false] at hk
 rcases hk with rfl|rfl|rfl|rfl|rfl|rfl<;>revert h<;>decide
theorem ih_ (s r:List UInt8)(h:d9_ s)(h0:(a8_ (s.headD 0) || a5_ (s.headD 0))=true)(hr:aV_ (r.headD 0)=false):aN_ (s++r)=(eF_ s,s.length):=by
 have hs:=i5_ aV_ s r h.inner hr;have h1:=h.len;unfold aN_;rw[ef_ (ix_ h),if_pos h0,hs,if_neg (by omega),List.take_left]
theorem r4_ (i:It)(h:oI_ i)(r:List UInt8)(hr:i.k=6∨aV_ (r.headD 0)=false):aN_ (i.s++r)=(i.k,i.s.length):=by
 rcases h with ⟨hk,hn,hl,hc⟩|⟨hk,hn,hu⟩|⟨hk,hs⟩|⟨hk,ds,hs,hn⟩|⟨hk,hs⟩
 ·rw[ih_ _ _ hn (by rw[hl];rfl) (hr.resolve_left (by omega)),hk]
  unfold eF_;rw[hc,g2_ hl];rfl
 ·rw[ih_ _ _ hn (by rw[hu];simp) (hr.resolve_left (by omega)),hk]
  unfold eF_;rw[iX_ hu,hu];rfl
 ·have hn:d9_ fa:=⟨by decide,by decide⟩
  rw[hs,ih_ fa _ hn (by decide) (hr.resolve_left (by omega)),hk];rfl
 ·have hn1:=gY_ ds r hn (ha_ (hr.resolve_left (by omega)))
  have h1:=hn.len;rw[hs,hk];show aN_ (63 :: (ds++r))=_;unfold aN_;rw[if_neg (show ¬ (a8_ ((63 :: (ds++r)).headD 0) || a5_ ((63 :: (ds++r)).headD 0))=true from by show ¬ (a8_ 63 || a5_ 63)=true;decide),if_neg (show ¬ aA_ ((63 :: (ds++r)).headD 0)=true from by show ¬ aA_ 63=true;decide),if_pos (show (63 :: (ds++r)).headD 0=63 from rfl)];simp only[List.drop_succ_cons,List.drop_zero,hn1];rw[if_neg (by omega)];simp
 ·rw[hk]
  rcases hs with hs|hs|hs|hs<;>rw[hs]<;>rfl
theorem it_ne {i:It}(h:oI_ i):i.s≠[]:=by
 rcases h with ⟨_,hn,_⟩|⟨_,hn,_⟩|⟨_,hs⟩|⟨_,ds,hs,_⟩|⟨_,hs⟩
 ·exact ix_ hn
 ·exact ix_ hn
 ·rw[hs];simp[fa]
 ·rw[hs];simp
 ·rcases hs with hs|hs|hs|hs<;>rw[hs]<;>simp[bX_,bB_,dot,dj_]
theorem hX_ {c:UInt8}(h:a8_ c=true∨a5_ c=true):c≠35∧c≠10∧c≠32∧c≠9:=by
 refine⟨?_,?_,?_,?_⟩<;>(rintro rfl;revert h;decide)
theorem rp_ {i:It}(h:oI_ i):(i.s.headD 0)≠35∧(i.s.headD 0)≠10∧(i.s.headD 0)≠32∧(i.s.headD 0)≠9:=by
 rcases h with ⟨_,hn,hl,_⟩|⟨_,hn,hu⟩|⟨_,hs⟩|⟨_,ds,hs,_⟩|⟨_,hs⟩
 ·exact hX_ (.inl hl)
 ·exact hX_ (.inr hu)
 ·rw[hs];decide
 ·rw[hs];show (63:UInt8)≠35∧(63:UInt8)≠10∧(63:UInt8)≠32∧(63:UInt8)≠9;decide
 ·rcases hs with hs|hs|hs|hs<;>rw[hs]<;>decide
def kt (t:Tok):Nat × List UInt8:=(t.kind,t.text)
def ktI (i:It):Nat × List UInt8:=(i.k,i.s)
def LexK (t:Ty):Prop:=((t.kind=1∨t.kind=5)→d9_ t.name.data.toList∧a8_ (t.name.data.toList.headD 0)=true∧kh_.contains t.name.data.toList=false)∧(t.kind=3→d9_ t.name.data.toList∧a5_ (t.name.data.toList.headD 0)=true)∧(t.kind=2→t.n<1000000)
mutual
def rR_:Ty→Prop
 | .mk k s n args=>LexK (.mk k s n args)∧sO_ args
def sO_:List Ty→Prop
 | []=>True
 | t :: ts=>rR_ t∧sO_ ts
end
theorem qf_ (ts:List Ty):sO_ ts↔∀ t∈ts,rR_ t:=by
 induction ts with
 | nil=>simp[sO_]
 | cons t ts ih=>rw[sO_,ih];simp
theorem fn_ (t:Ty):rR_ t↔LexK t∧∀ a∈t.args,rR_ a:=by
 cases t with
 | mk k s n args=>rw[rR_,qf_];rfl
theorem e4_ (u:Nat):(∀ c∈Lib.decDigits u,aA_ c=true)∧1≤(Lib.decDigits u).length∧(1≤u→(Lib.decDigits u).headD 0≠48)∧∀ k,1≤k→u<10 ^ k→(Lib.decDigits u).length≤k:=by
 induction u using Nat.strongRecOn with
 | _ u ih =>
  rw[Lib.decDigits];have dig:∀ d,d<10→aA_ (UInt8.ofNat (48+d))=true:=fun d hd=>by
   unfold aA_;simp only[decide_eq_true_eq];rw[UInt8.toNat_ofNat'];omega
  split
  ·next h =>
   refine⟨by simp only[List.mem_singleton];rintro c rfl;exact dig u h,by simp,fun h1=>?_,fun k hk _=>by simpa using hk⟩;simp only[List.headD_cons];intro e;have:=congrArg UInt8.toNat e;rw[UInt8.toNat_ofNat'] at this;simp at this;omega
  ·next h =>
   obtain⟨h1,h2,h3,h4⟩:=ih (u / 10) (by omega);refine⟨?_,by simp,fun _=>?_,fun k hk hu=>?_⟩
   ·intro c hc
    rcases List.mem_append.1 hc with hc|hc
    ·exact h1 c hc
    ·rw[List.mem_singleton.1 hc];exact dig _ (by omega)
   ·rw[ef_ (by intro e;rw[e] at h2;simp at h2)]
    exact h3 (by omega)
   ·cases k with
    | zero=>omega
    | succ k =>
     rw[List.length_append];have hk1:1≤k:=by
      cases k with
      | zero=>simp at hu;omega
      | succ k=>omega
     have:=h4 k hk1 (by rw[Nat.pow_succ] at hu;omega);simp;omega
theorem k2_ (n:Int)(h0:0≤n)(h:n<1000000):lo_ (Lib.itoa n):=by
 obtain⟨u,rfl⟩:∃ u:Nat,n=(u:Int):=⟨n.toNat,by omega⟩;rw[Lib.itoa_nonneg];obtain⟨h1,h2,h3,h4⟩:=e4_ u;have h5:=h4 6 (by omega) (by omega);refine⟨⟨h2,h5⟩,h1,fun hl=>?_⟩;refine h3 ?_
 rcases Nat.eq_zero_or_pos u with h|h
 ·subst h
  have:=h4 1 (by omega) (by omega);omega
 ·exact h
theorem rl_:∀ (d:Nat) (t:Ty) (b:Bool),t.depth≤d→Std t→rR_ t→∀ i∈itF d b t,oI_ i:=by
 intro d;have hsig:∀ b:Bool,oI_ ⟨b,6,bX_⟩∧oI_ ⟨b,6,bB_⟩∧oI_ ⟨b,6,dot⟩∧oI_ ⟨b,6,dj_⟩:=fun b =>
  ⟨.inr (.inr (.inr (.inr ⟨rfl,.inl rfl⟩))),.inr (.inr (.inr (.inr ⟨rfl,.inr (.inl rfl)⟩))),.inr (.inr (.inr (.inr ⟨rfl,.inr (.inr (.inl rfl))⟩))),.inr (.inr (.inr (.inr ⟨rfl,.inr (.inr (.inr rfl))⟩)))⟩
 induction d with
 | zero=>intro t b h;rw[t.depth_eq] at h;omega
 | succ d ih =>
  intro t b h hs hx i hi;have hd:∀ a∈t.args,a.depth≤d:=fun a ha=>by have:=aT_ _ ha;rw[t.depth_eq] at h;omega
  have hlx:=(fn_ t).1 hx;have hpar:∀ a∈t.args,∀ b':Bool,∀ i,i∈(⟨b',6,bX_⟩:It) :: (itF d false a++[⟨false,6,bB_⟩])→oI_ i:=fun a ha b' i hi=>by
   rcases List.mem_cons.1 hi with rfl|hi
   ·exact (hsig b').1
   ·rcases List.mem_append.1 hi with hi|hi
    ·exact ih a false (hd a ha) (hs.args a ha) (hlx.2 a ha) i hi
    ·rw[List.mem_singleton.1 hi];exact (hsig false).2.1
  rcases ((bD_ t).1 hs).1 with hk|hk|hk|hk|hk
  ·rw[eH_ _ _ _ hk.1,List.mem_singleton] at hi
   subst hi;obtain⟨a1,a2,a3⟩:=hlx.1.1 (.inl hk.1);exact .inl ⟨rfl,a1,a2,a3⟩
  ·rw[dV_ _ _ _ hk.1,List.mem_singleton] at hi
   subst hi;exact .inr (.inr (.inr (.inl ⟨rfl,_,rfl,k2_ _ hk.2.2.2.1 (hlx.1.2.2 hk.1)⟩)))
  ·rw[er_ _ _ _ hk.1] at hi
   rcases List.mem_cons.1 hi with rfl|hi
   ·obtain⟨a1,a2⟩:=hlx.1.2.1 hk.1
    exact .inr (.inl ⟨rfl,a1,a2⟩)
   ·obtain⟨a,ha,hi⟩:=List.mem_flatMap.1 hi
    split at hi
    ·exact ih a true (hd a ha) (hs.args a ha) (hlx.2 a ha) i hi
    ·exact hpar a ha true i hi
  ·obtain⟨x,y,hxy⟩:∃ x y,t.args=[x,y]:=by
    match hl:t.args,hk.2.2.2 with
    | [x,y],_=>exact⟨x,y,rfl⟩
   have hxm:x∈t.args:=by rw[hxy];simp
   have hym:y∈t.args:=by rw[hxy];simp
   rw[g4_ _ _ _ x y hk.1 hxy] at hi
   rcases List.mem_append.1 hi with hi|hi
   ·split at hi
    ·exact ih x b (hd x hxm) (hs.args x hxm) (hlx.2 x hxm) i hi
    ·exact hpar x hxm b i hi
   ·rcases List.mem_cons.1 hi with rfl|hi
    ·exact (hsig true).2.2.2
    ·exact ih y true (hd y hym) (hs.args y hym) (hlx.2 y hym) i hi
  ·obtain⟨x,hxx⟩:∃ x,t.args=[x]:=by
    match hl:t.args,hk.2.2 with
    | [x],_=>exact⟨x,rfl⟩
   have hxm:x∈t.args:=by rw[hxx];simp
   rw[f7_ _ _ _ x hk.1 hxx] at hi
   rcases List.mem_cons.1 hi with rfl|hi
   ·exact .inr (.inr (.inl ⟨rfl,rfl⟩))
   ·rcases List.mem_cons.1 hi with rfl|hi
    ·obtain⟨a1,a2,a3⟩:=hlx.1.1 (.inr hk.1)
     exact .inl ⟨rfl,a1,a2,a3⟩
    ·split at hi
     ·exact ih x true (hd x hxm) (hs.args x hxm) (hlx.2 x hxm) i (List.mem_of_mem_tail hi)
     ·rcases List.mem_cons.1 hi with rfl|hi
      ·exact (hsig false).2.2.1
      ·exact ih x true (hd x hxm) (hs.args x hxm) (hlx.2 x hxm) i hi
end
end Go.Proofs.YtkihnodkhnahiaaGreatDoor.Tp

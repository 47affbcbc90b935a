/- Packed. -/
import Derived.Test.YtjecnionbjlncaaGreatDoorP19
import Derived.Test.YtjecnionbjlncaaGreatDoorP20
set_option maxRecDepth 100000
set_option maxHeartbeats 6400000
namespace Go.Proofs.YtjecnionbjlncaaGreatDoor.Tp
section
def lq_ (t:Ty):Ty:=.mk t.kind t.name t.n []
section
variable (p : Ty → Bool) (U : Ty)
mutual
def sbT:Ty→Ty
 | .mk k s n args=>if p (.mk k s n []) then U else .mk k s n (sbL args)
def sbL:List Ty→List Ty
 | []=>[]
 | t :: ts=>sbT t :: sbL ts
end
theorem mh_ (ts:List Ty):sbL p U ts=ts.map (sbT p U):=by
 induction ts with
 | nil=>simp[sbL]
 | cons t ts ih=>rw[sbL,ih];rfl
theorem pt_ (t:Ty):sbT p U t=if p (lq_ t) then U else .mk t.kind t.name t.n (t.args.map (sbT p U)):=by
 cases t with
 | mk k s n args=>rw[sbT,mh_];rfl
theorem dx_ (k:Int)(s:ByteArray)(n:Int)(args:List Ty):sbT p U (.mk k s n args)=if p (.mk k s n []) then U else .mk k s n (args.map (sbT p U)):=by rw[sbT,mh_]
end
section
variable (p : Ty → Bool)
mutual
def noP:Ty→Prop
 | .mk k s n args=>p (.mk k s n [])=false∧noL args
def noL:List Ty→Prop
 | []=>True
 | t :: ts=>noP t∧noL ts
end
theorem m3_ (ts:List Ty):noL p ts↔∀ t∈ts,noP p t:=by
 induction ts with
 | nil=>simp[noL]
 | cons t ts ih=>rw[noL,ih];simp
theorem gw_ (t:Ty):noP p t↔p (lq_ t)=false∧∀ a∈t.args,noP p a:=by
 cases t with
 | mk k s n args=>rw[noP,m3_];rfl
theorem dB_ (k:Int)(s:ByteArray)(n:Int)(args:List Ty):noP p (.mk k s n args)↔p (.mk k s n [])=false∧∀ a∈args,noP p a:=by rw[noP,m3_]
end
theorem ce_ (t:Ty):Ty.mk t.kind t.name t.n t.args=t:=by cases t;rfl
theorem c3_ {f:Ty→Ty}{l:List Ty}(h:∀ a∈l,f a=a):l.map f=l:=by
 conv=>rhs;rw[← List.map_id l]
 exact List.map_congr_left h
theorem qi_ (p:Ty→Bool)(U:Ty):∀ t:Ty,noP p t→sbT p U t=t:=by
 intro t
 induction t using Ty.ind with
 | h t ih =>
  intro h;obtain⟨h1,h2⟩:=(gw_ p t).1 h;rw[pt_,if_neg (by rw[h1];simp),c3_ fun a ha=>ih a ha (h2 a ha),ce_]
def gC_ (x:ByteArray)(t:Ty):Bool:=t.kind==1&&eqN t.name x
theorem b6_ (x:ByteArray)(k:Int)(s:ByteArray)(n:Int)(a:List Ty):gC_ x (.mk k s n a)=(k==1&&eqN s x):=rfl
theorem gD_ (m:Int)(k:Int)(s:ByteArray)(n:Int)(a:List Ty):bj_ m (.mk k s n a)=(k==2&&n==m):=rfl
theorem r1_ (x:ByteArray):∀ (t:Ty) (env:List ByteArray),Std t→(¬ fvT x t∨x∈env)→noP (gC_ x) (dbT env t):=by
 intro t
 induction t using Ty.ind with
 | h t ih =>
  intro env hs h
  by_cases h5:t.kind=5
  ·rw[aK_ _ _ h5,dB_]
   refine⟨rfl,fun a ha=>?_⟩;obtain⟨b,hb,rfl⟩:=List.mem_map.1 ha;refine ih b hb _ (hs.args b hb) ?_
   by_cases e:x=t.name
   ·exact .inr (by simp[e])
   ·rcases h with h|h
    ·exact .inl fun hx=>h ((aD_ _ _).2 (.inr ⟨⟨b,hb,hx⟩,fun e'=>e e'.2.symm⟩))
    ·exact .inr (by simp[h])
  ·by_cases h1:t.kind=1
   ·rw[a1_ _ _ h1]
    unfold dC_;cases hi:ixN env t.name with
    | some i=>rw[dB_];exact⟨rfl,fun a ha=>by cases ha⟩
    | none =>
     rw[dB_];refine⟨?_,fun a ha=>by cases ha⟩;rw[b6_];have:t.name≠x:=by
      rintro rfl
      rcases h with h|h
      ·exact h ((aD_ _ _).2 (.inl ⟨h1,rfl⟩))
      ·exact (dh_ _ _).1 hi h
     rw[(fi_ _ _).2 this];simp
   ·rw[az_ _ _ h1 h5,dB_]
    refine⟨?_,fun a ha=>?_⟩
    ·rw[b6_];simp[h1]
    ·obtain⟨b,hb,rfl⟩:=List.mem_map.1 ha
     refine ih b hb _ (hs.args b hb) ?_
     rcases h with h|h
     ·exact .inl fun hx=>h ((aD_ _ _).2 (.inr ⟨⟨b,hb,hx⟩,fun e'=>h5 e'.1⟩))
     ·exact .inr h
theorem mem_metas_walk (m:Int):∀ (t:Ty) (out:List Int) (ns:List ByteArray),m∈bZ_ aE_ t out ns↔m∈out∨¬ noP (bj_ m) t:=by
 intro t
 induction t using Ty.ind with
 | h t ih =>
  intro out ns;have hstep:m∈aE_ out t ns↔m∈out∨bj_ m (lq_ t)=true:=by
   rw[show bj_ m (lq_ t)=(t.kind==2&&t.n==m) from rfl];unfold aE_
   split
   ·next h =>
    simp only[Bool.and_eq_true,beq_iff_eq,Bool.not_eq_true'] at h;rw[List.mem_append,List.mem_singleton];simp only[Bool.and_eq_true,beq_iff_eq]
    constructor
    ·rintro (h'|rfl)
     ·exact .inl h'
     ·exact .inr ⟨h.1,rfl⟩
    ·rintro (h'|⟨_,h'⟩)
     ·exact .inl h'
     ·exact .inr h'.symm
   ·next h =>
    simp only[Bool.and_eq_true,beq_iff_eq,Bool.not_eq_true'] at h;simp only[Bool.and_eq_true,beq_iff_eq]
    constructor
    ·exact .inl
    ·rintro (h'|⟨h1,h2⟩)
     ·exact h'
     ·subst h2
      refine Classical.byContradiction fun hx=>h ⟨h1,?_⟩;rw[← Bool.not_eq_true,List.contains_iff_mem];exact hx
  have hl:∀ (l:List Ty) (out:List Int) (ns:List ByteArray),(∀ a∈l,∀ (out:List Int) (ns:List ByteArray),m∈bZ_ aE_ a out ns↔m∈out∨¬ noP (bj_ m) a)→(m∈bB_ aE_ l out ns↔m∈out∨∃ a∈l,¬ noP (bj_ m) a):=by
   intro l
   induction l with
   | nil=>intro out ns _;simp[bB_]
   | cons a l ihl =>
    intro out ns h;rw[bB_,ihl _ _ fun b hb=>h b (by simp[hb]),h a (by simp)];simp only[List.mem_cons,exists_eq_or_imp];exact or_assoc
  rw[cd_,hl _ _ _ ih,hstep,gw_]
  constructor
  ·rintro ((h|h)|⟨a,ha,h⟩)
   ·exact .inl h
   ·exact .inr fun hn=>by rw[hn.1] at h;cases h
   ·exact .inr fun hn=>h (hn.2 a ha)
  ·rintro (h|h)
   ·exact .inl (.inl h)
   ·cases hb:bj_ m (lq_ t) with
    | true=>exact .inl (.inr rfl)
    | false=>exact .inr (Classical.byContradiction fun hx=>h ⟨hb,fun a ha=>Classical.byContradiction fun hn=>hx ⟨a,ha,hn⟩⟩)
theorem ec_ (m:Int)(t:Ty):m∈ap_ t↔¬ noP (bj_ m) t:=by unfold ap_;rw[mem_metas_walk];simp
theorem ja_ (u:Ty)(env:List ByteArray)(h:∀ x,fvT x u→x∉env):dbT env u=dbT [] u:=by
 refine nr_ u [] env fun x hx n=>?_;unfold dC_;rw[(dh_ _ _).2 (h x hx)];rfl
theorem pj_ (nm:ByteArray)(u:Ty)(hu:Std u):∀ (d:Nat) (t:Ty),t.depth≤d→Std t→Std (eo_ d nm u t):=by
 intro d
 induction d with
 | zero=>intro t h;rw[t.depth_eq] at h;omega
 | succ d ih =>
  intro t h hs;have hd:∀ a∈t.args,a.depth≤d:=fun a ha=>by have:=av_ _ ha;rw[t.depth_eq] at h;omega
  rw[eo_]
  split
  ·exact hs
  ·split
   ·exact hu
   ·split
    ·next hc =>
     simp only[Bool.and_eq_true,beq_iff_eq] at hc;obtain⟨b,hb,hb0⟩:=dw_ hs hc.1;rw[hb0];have hbm:b∈t.args:=by rw[hb];simp
     generalize a2_ t.name (ai_ u++ai_ b++[t.name,nm])=n;have hr:=dQ_ b.depth t.name n b (aC_ _) (hs.args b hbm);unfold d2_;rw[hb0];exact hL_ n (ih (b9_ t.name n b) (by show (bW_ _ _ _ _).depth≤d;rw[hr.1];exact hd b hbm) hr.2.1)
    ·refine ga_ hs _ (by simp) fun a ha=>?_
     obtain⟨b,hb,rfl⟩:=List.mem_map.1 ha;exact ih b (hd b hb) (hs.args b hb)
theorem ss_ (nm:ByteArray)(u:Ty):∀ (d:Nat) (t:Ty) (env:List ByteArray),t.depth≤d→Std t→nm∉env→(∀ x,fvT x u→x∉env)→dbT env (eo_ d nm u t)=sbT (gC_ nm) (dbT [] u) (dbT env t):=by
 intro d
 induction d with
 | zero=>intro t env h;rw[t.depth_eq] at h;omega
 | succ d ih =>
  intro t env h hs hn hu;have hd:∀ a∈t.args,a.depth≤d:=fun a ha=>by have:=av_ _ ha;rw[t.depth_eq] at h;omega
  rw[eo_]
  split
  ·next hc =>
   simp only[Bool.and_eq_true,beq_iff_eq,aH_] at hc;rw[qi_];refine r1_ nm t env hs (.inl fun hx=>?_)
   rcases (aD_ _ _).1 hx with h|h
   ·omega
   ·exact h.2 hc
  ·split
   ·next h1 hc =>
    simp only[Bool.and_eq_true,beq_iff_eq,aH_] at hc;rw[ja_ u env hu,a1_ _ _ hc.1,hc.2];unfold dC_;rw[(dh_ _ _).2 hn];show _=sbT (gC_ nm) (dbT [] u) (.mk 1 nm t.n []);rw[dx_,b6_,(aH_ _ _).2 rfl];rfl
   ·split
    ·next h1 h2 hc =>
     simp only[Bool.and_eq_true,beq_iff_eq,aH_] at hc h1;obtain⟨b,hb,hb0⟩:=dw_ hs hc.1;have hbm:b∈t.args:=by rw[hb];simp
     have hnf:=ez_ t.name (ai_ u++ai_ (cm_ t)++[t.name,nm]);unfold d2_;rw[hb0] at hnf ⊢;generalize a2_ t.name (ai_ u++ai_ b++[t.name,nm])=n at *;simp only[List.mem_append,List.mem_cons,List.not_mem_nil,or_false,not_or,bm_] at hnf;have hr:=dQ_ b.depth t.name n b (aC_ _) (hs.args b hbm);rw[aK_ _ _ hc.1,hb,aK_ _ _ rfl];show Ty.mk 5 emp 0 [dbT (n :: env) (eo_ d nm u (b9_ t.name n b))]=sbT _ _ (Ty.mk 5 emp 0 [dbT (t.name :: env) b]);rw[ih (b9_ t.name n b) (n :: env) (by show (bW_ _ _ _ _).depth≤d;rw[hr.1];exact hd b hbm) hr.2.1 ?_ ?_,fP_ _ _ _ _ (hs.args b hbm) hnf.1.2,dx_]
     ·rfl
     ·simp only[List.mem_cons,not_or]
      exact⟨fun e=>hnf.2.2 e.symm,hn⟩
     ·intro x hx
      simp only[List.mem_cons,not_or];exact⟨fun e=>hnf.1.1 (e ▸ hx),hu x hx⟩
    ·next h1 h2 h3 =>
     simp only[Bool.and_eq_true,beq_iff_eq,aH_,b7_,bm_] at h1 h2 h3
     by_cases hk1:t.kind=1
     ·obtain⟨hn0,ha⟩:=hs.k1 hk1
      rw[ha];have e1:bb_ t ([].map (eo_ d nm u))=t:=by unfold bb_;rw[List.map_nil,← ha,ce_]
      rw[e1,a1_ _ _ hk1,qi_];unfold dC_;cases ixN env t.name with
      | some i=>simp only;rw[dB_];exact⟨rfl,fun a ha=>by cases ha⟩
      | none =>
       simp only;rw[dB_];refine⟨?_,fun a ha=>by cases ha⟩;rw[b6_,(fi_ _ _).2 fun e=>h2 ⟨hk1,e⟩];simp
     ·by_cases hk5:t.kind=5
      ·rw[aK_ _ _ hk5,aK_ _ _ (show (bb_ t _).kind=5 from hk5),dx_,b6_,if_neg (by simp)]
       congr 1;show (t.args.map _).map _=(t.args.map _).map _;rw[List.map_map,List.map_map];refine List.map_congr_left fun a ha=>ih a _ (hd a ha) (hs.args a ha) ?_ ?_
       ·simp only[List.mem_cons,not_or]
        exact⟨fun e=>h1 ⟨hk5,e.symm⟩,hn⟩
       ·intro x hx
        simp only[List.mem_cons,not_or];exact⟨fun e=>h3 ⟨hk5,by subst e;exact hx⟩,hu x hx⟩
      ·rw[az_ _ _ hk1 hk5,az_ _ _ (show (bb_ t _).kind≠1 from hk1) (show (bb_ t _).kind≠5 from hk5),dx_,b6_,if_neg (by simp[hk1])]
       show Ty.mk t.kind t.name t.n ((t.args.map _).map _)=_;congr 1;rw[List.map_map,List.map_map];exact List.map_congr_left fun a ha=>ih a _ (hd a ha) (hs.args a ha) hn hu
theorem ot_ (u:Ty)(free:List ByteArray)(is:Ty→Bool)(hu:Std u):∀ (d:Nat) (t:Ty),t.depth≤d→Std t→Std (d3_ d u free is t):=by
 intro d
 induction d with
 | zero=>intro t h;rw[t.depth_eq] at h;omega
 | succ d ih =>
  intro t h hs;have hd:∀ a∈t.args,a.depth≤d:=fun a ha=>by have:=av_ _ ha;rw[t.depth_eq] at h;omega
  rw[d3_]
  split
  ·exact hu
  ·split
   ·next hc =>
    simp only[Bool.and_eq_true,beq_iff_eq] at hc;obtain⟨b,hb,hb0⟩:=dw_ hs hc.1;rw[hb0];have hbm:b∈t.args:=by rw[hb];simp
    generalize a2_ t.name (free++ai_ b++[t.name])=n;have hr:=dQ_ b.depth t.name n b (aC_ _) (hs.args b hbm);unfold d2_;rw[hb0];exact hL_ n (ih (b9_ t.name n b) (by show (bW_ _ _ _ _).depth≤d;rw[hr.1];exact hd b hbm) hr.2.1)
   ·refine ga_ hs _ (by simp) fun a ha=>?_
    obtain⟨b,hb,rfl⟩:=List.mem_map.1 ha;exact ih b (hd b hb) (hs.args b hb)
theorem q3_ (m:Int)(u:Ty):∀ (d:Nat) (t:Ty) (env:List ByteArray),t.depth≤d→Std t→(∀ x,fvT x u→x∉env)→dbT env (d3_ d u (ai_ u) (bj_ m) t)=sbT (bj_ m) (dbT [] u) (dbT env t):=by
 intro d
 induction d with
 | zero=>intro t env h;rw[t.depth_eq] at h;omega
 | succ d ih =>
  intro t env h hs hu;have hd:∀ a∈t.args,a.depth≤d:=fun a ha=>by have:=av_ _ ha;rw[t.depth_eq] at h;omega
  rw[d3_]
  split
  ·next hc =>
   unfold bj_ at hc;simp only[Bool.and_eq_true,beq_iff_eq] at hc;rw[ja_ u env hu,az_ env t (by omega) (by omega),dx_,gD_,if_pos (by simp[hc])]
  ·next hc0 =>
   unfold bj_ at hc0;simp only[Bool.and_eq_true,beq_iff_eq] at hc0
   split
   ·next hc =>
    simp only[Bool.and_eq_true,beq_iff_eq] at hc;obtain⟨b,hb,hb0⟩:=dw_ hs hc.1;have hbm:b∈t.args:=by rw[hb];simp
    have hnf:=ez_ t.name (ai_ u++ai_ (cm_ t)++[t.name]);unfold d2_;rw[hb0] at hnf ⊢;generalize a2_ t.name (ai_ u++ai_ b++[t.name])=n at *;simp only[List.mem_append,List.mem_cons,List.not_mem_nil,or_false,not_or,bm_] at hnf;have hr:=dQ_ b.depth t.name n b (aC_ _) (hs.args b hbm);rw[aK_ _ _ hc.1,hb,aK_ _ _ rfl];show Ty.mk 5 emp 0 [dbT (n :: env) (d3_ d u (ai_ u) (bj_ m) (b9_ t.name n b))]=sbT _ _ (Ty.mk 5 emp 0 [dbT (t.name :: env) b]);rw[ih (b9_ t.name n b) (n :: env) (by show (bW_ _ _ _ _).depth≤d;rw[hr.1];exact hd b hbm) hr.2.1 ?_,fP_ _ _ _ _ (hs.args b hbm) hnf.1.2,dx_]
    ·rfl
    ·intro x hx
     simp only[List.mem_cons,not_or];exact⟨fun e=>hnf.1.1 (e ▸ hx),hu x hx⟩
   ·next h3 =>
    simp only[Bool.and_eq_true,beq_iff_eq,b7_,bm_] at h3
    by_cases hk1:t.kind=1
    ·obtain⟨hn0,ha⟩:=hs.k1 hk1
     rw[ha];have e1:bb_ t ([].map (d3_ d u (ai_ u) (bj_ m)))=t:=by unfold bb_;rw[List.map_nil,← ha,ce_]
     rw[e1,a1_ _ _ hk1,qi_];unfold dC_;cases ixN env t.name<;>(simp only;rw[dB_];exact⟨rfl,fun a ha=>by cases ha⟩)
    ·by_cases hk5:t.kind=5
     ·rw[aK_ _ _ hk5,aK_ _ _ (show (bb_ t _).kind=5 from hk5),dx_,gD_,if_neg (by simp)]
      congr 1;show (t.args.map _).map _=(t.args.map _).map _;rw[List.map_map,List.map_map];refine List.map_congr_left fun a ha=>ih a _ (hd a ha) (hs.args a ha) ?_;intro x hx;simp only[List.mem_cons,not_or];exact⟨fun e=>h3 ⟨hk5,by subst e;exact hx⟩,hu x hx⟩
     ·rw[az_ _ _ hk1 hk5,az_ _ _ (show (bb_ t _).kind≠1 from hk1) (show (bb_ t _).kind≠5 from hk5),dx_,gD_,if_neg (by simp only[Bool.and_eq_true,beq_iff_eq];exact hc0)]
      show Ty.mk t.kind t.name t.n ((t.args.map _).map _)=_;congr 1;rw[List.map_map,List.map_map];exact List.map_congr_left fun a ha=>ih a _ (hd a ha) (hs.args a ha) hu
theorem q4_ (nm:ByteArray)(u t:Ty)(ht:Std t):dbT [] (f6_ nm u t)=sbT (gC_ nm) (dbT [] u) (dbT [] t) :=
 ss_ nm u t.depth t [] (aC_ _) ht (by simp) (by simp)
theorem fl_ (m:Int)(u t:Ty)(ht:Std t):dbT [] (bH_ m u t)=sbT (bj_ m) (dbT [] u) (dbT [] t) :=
 q3_ m u t.depth t [] (aC_ _) ht (by simp)
theorem ph_ (nm:ByteArray)(u t:Ty)(ht:Std t)(hu:Std u):Std (f6_ nm u t):=pj_ nm u hu _ _ (aC_ _) ht
theorem ei_ (m:Int)(u t:Ty)(ht:Std t)(hu:Std u):Std (bH_ m u t):=ot_ u _ _ hu _ _ (aC_ _) ht
end
section
open Lx
structure It where
 bl:Bool
 k:Nat
 s:List UInt8
def It.text (i:It):List UInt8:=(if i.bl then [32] else [])++i.s
def cf_ (l:List It):List UInt8:=l.flatMap It.text
theorem aZ_ (i:It)(l:List It):cf_ (i :: l)=(if i.bl then [32] else [])++i.s++cf_ l:=rfl
theorem e3_ (a b:List It):cf_ (a++b)=cf_ a++cf_ b:=List.flatMap_append
def itF:Nat→Bool→Ty→List It
 | 0,_,_=>[]
 | d+1,b,t =>
  if t.kind=2 then [⟨b,5,63 :: Lib.itoa t.n⟩]
  else if t.kind=3 then ⟨b,2,t.name.data.toList⟩ :: t.args.flatMap fun x=>if x.atomic then itF d true x else ⟨true,6,dT_⟩ :: (itF d false x++[⟨false,6,fD_⟩])
  else if t.kind=4 then (match t.args with
   | x :: y :: _=>(if decide (x.kind<4) then itF d b x else ⟨b,6,dT_⟩ :: (itF d false x++[⟨false,6,fD_⟩]))++⟨true,6,c5_⟩ :: itF d true y
   | _=>[])
  else if t.kind=5 then (match t.args with
   | x :: _=>⟨b,3,fa⟩ :: ⟨true,1,t.name.data.toList⟩ :: (if x.kind=5 then (itF d true x).tail else ⟨false,6,dot⟩ :: itF d true x)
   | _=>[])
  else [⟨b,1,t.name.data.toList⟩]
theorem fM_ (d:Nat)(b:Bool)(t x:Ty)(hk:t.kind=5)(hx:t.args=[x]):itF (d+1) b t=⟨b,3,fa⟩ :: ⟨true,1,t.name.data.toList⟩ :: (if x.kind=5 then (itF d true x).tail else ⟨false,6,dot⟩ :: itF d true x):=by
 rw[itF,if_neg (by omega),if_neg (by omega),if_neg (by omega),if_pos hk,hx]
theorem gA_ (d:Nat)(b:Bool)(t x y:Ty)(hk:t.kind=4)(hx:t.args=[x,y]):itF (d+1) b t=(if decide (x.kind<4) then itF d b x else ⟨b,6,dT_⟩ :: (itF d false x++[⟨false,6,fD_⟩]))++⟨true,6,c5_⟩ :: itF d true y:=by
 rw[itF,if_neg (by omega),if_neg (by omega),if_pos hk,hx]
theorem dW_ (d:Nat)(b:Bool)(t:Ty)(hk:t.kind=3):itF (d+1) b t=⟨b,2,t.name.data.toList⟩ :: t.args.flatMap fun x=>if x.atomic then itF d true x else ⟨true,6,dT_⟩ :: (itF d false x++[⟨false,6,fD_⟩]):=by
 rw[itF,if_neg (by omega),if_pos hk]
theorem di_ (d:Nat)(b:Bool)(t:Ty)(hk:t.kind=2):itF (d+1) b t=[⟨b,5,63 :: Lib.itoa t.n⟩]:=by rw[itF,if_pos hk]
theorem ef_ (d:Nat)(b:Bool)(t:Ty)(hk:t.kind=1):itF (d+1) b t=[⟨b,1,t.name.data.toList⟩]:=by
 rw[itF,if_neg (by omega),if_neg (by omega),if_neg (by omega),if_neg (by omega)]
theorem lz_:eg_=fa++[32]:=rfl
theorem li_ (t:Ty)(hk:t.kind=1):al_ t=t.name.data.toList:=by
 rw[bL_];unfold fU_;rw[if_neg (by omega),if_neg (by omega),if_neg (by omega),if_neg (by omega)]
theorem jy_ (t:Ty)(hk:t.kind=2):al_ t=63 :: Lib.itoa t.n:=by
 rw[bL_];unfold fU_;rw[if_pos hk]
theorem lk_ (t:Ty)(hk:t.kind=3):al_ t=t.name.data.toList++(t.args.zip (t.args.map al_)).flatMap fun x=>32 :: da_ x.1.atomic x.2:=by
 rw[bL_];unfold fU_;rw[if_neg (by omega),if_pos hk]
theorem lj_ (t x y:Ty)(hk:t.kind=4)(hx:t.args=[x,y]):al_ t=da_ (decide (x.kind<4)) (al_ x)++[32,45,62,32]++al_ y:=by
 rw[bL_];unfold fU_;rw[if_neg (by omega),if_neg (by omega),if_pos hk,hx];rfl
theorem hn_ (t x:Ty)(hk:t.kind=5)(hx:t.args=[x]):al_ t=eg_++t.name.data.toList++(if x.kind=5 then 32 :: (al_ x).drop 7 else [46,32]++al_ x):=by
 rw[bL_];unfold fU_;rw[if_neg (by omega),if_neg (by omega),if_neg (by omega),if_pos hk,hx];rfl
theorem e2_ (i:It):cf_ [i]=(if i.bl then [32] else [])++i.s:=by rw[aZ_];simp[cf_]
theorem p3_:∀ (d:Nat) (t:Ty) (b:Bool),t.depth≤d→Std t→cf_ (itF d b t)=(if b then [32] else [])++al_ t:=by
 intro d
 induction d with
 | zero=>intro t b h;rw[t.depth_eq] at h;omega
 | succ d ih =>
  intro t b h hs;have hd:∀ a∈t.args,a.depth≤d:=fun a ha=>by have:=av_ _ ha;rw[t.depth_eq] at h;omega
  rcases ((aX_ t).1 hs).1 with hk|hk|hk|hk|hk
  ·rw[ef_ _ _ _ hk.1,li_ t hk.1,e2_]
  ·rw[di_ _ _ _ hk.1,jy_ t hk.1,e2_]
  ·rw[dW_ _ _ _ hk.1,lk_ t hk.1,aZ_]
   have:∀ l:List Ty,(∀ a∈l,a∈t.args)→cf_ (l.flatMap fun x=>if x.atomic then itF d true x else ⟨true,6,dT_⟩ :: (itF d false x++[⟨false,6,fD_⟩]))=(l.zip (l.map al_)).flatMap fun x=>32 :: da_ x.1.atomic x.2:=by
    intro l
    induction l with
    | nil=>intro _;rfl
    | cons a l ihl =>
     intro hl;rw[List.flatMap_cons,e3_,ihl fun c hc=>hl c (by simp[hc]),List.map_cons,List.zip_cons_cons,List.flatMap_cons];congr 1;have ha:=hl a (by simp);show cf_ (if a.atomic then _ else _)=32 :: da_ a.atomic (al_ a);unfold da_
     split
     ·rw[ih a true (hd a ha) (hs.args a ha)];rfl
     ·rw[aZ_,e3_,ih a false (hd a ha) (hs.args a ha),e2_]
      simp[dT_,fD_]
   rw[this t.args fun a ha=>ha];simp
  ·obtain⟨x,y,hxy⟩:∃ x y,t.args=[x,y]:=by
    match hl:t.args,hk.2.2.2 with
    | [x,y],_=>exact⟨x,y,rfl⟩
   have hx:=ih x b (hd x (by rw[hxy];simp)) (hs.args x (by rw[hxy];simp));have hx':=ih x false (hd x (by rw[hxy];simp)) (hs.args x (by rw[hxy];simp));have hy:=ih y true (hd y (by rw[hxy];simp)) (hs.args y (by rw[hxy];simp));rw[gA_ _ _ _ x y hk.1 hxy,lj_ t x y hk.1 hxy,e3_,aZ_,hy];unfold da_
   split
   ·rw[hx];simp[c5_]
   ·rw[aZ_,e3_,hx',e2_];simp[dT_,fD_,c5_]
  ·obtain⟨x,hx⟩:∃ x,t.args=[x]:=by
    match hl:t.args,hk.2.2 with
    | [x],_=>exact⟨x,rfl⟩
   have hx':=ih x true (hd x (by rw[hx];simp)) (hs.args x (by rw[hx];simp));rw[fM_ _ _ _ x hk.1 hx,hn_ t x hk.1 hx,aZ_,aZ_,lz_]
   by_cases h5:x.kind=5
   ·rw[if_pos h5,if_pos h5]
    obtain⟨z,hz⟩:∃ z,x.args=[z]:=by
     match hl:x.args,((hs.args x (by rw[hx];simp)).k5 h5).2 with
     | [z],_=>exact⟨z,rfl⟩
    match d,(show 1≤d by have:=hd x (by rw[hx];simp);rw[x.depth_eq] at this;omega) with
    | d+1,_ =>
     rw[fM_ _ _ _ z h5 hz] at hx' ⊢;rw[aZ_] at hx';simp only[List.tail_cons];have e1:=hn_ x z h5 hz;have e0:al_ x=fa++cf_ ((⟨true,1,x.name.data.toList⟩:It) :: (if z.kind=5 then (itF d true z).tail else ⟨false,6,dot⟩ :: itF d true z)):=by
      exact (List.cons.inj (show (32:UInt8) :: (fa++cf_ _)=32 :: al_ x from hx')).2.symm
     have e2:(al_ x).drop 7=(cf_ ((⟨true,1,x.name.data.toList⟩:It) :: (if z.kind=5 then (itF d true z).tail else ⟨false,6,dot⟩ :: itF d true z))).drop 1:=by
      rw[e0];rfl
     rw[e2,aZ_];simp
   ·rw[if_neg h5,if_neg h5,aZ_,hx']
    simp[dot]
def b2_:Bool→List It→Prop
 | _,[]=>True
 | ps,y :: ys=>(y.bl=true∨y.k=6∨ps=true)∧b2_ (y.k==6) ys
theorem jC_ {ps:Bool}{l:List It}(h:b2_ ps l):b2_ true l:=by
 cases l with
 | nil=>trivial
 | cons y ys=>exact⟨.inr (.inr rfl),h.2⟩
theorem hp_ {ps:Bool}{l:List It}(h:b2_ false l):b2_ ps l:=by
 cases ps with
 | false=>exact h
 | true=>exact jC_ h
theorem ok_it:∀ (d:Nat) (t:Ty) (b ps:Bool) (r:List It),t.depth≤d→Std t→(b=true∨ps=true)→b2_ false r→b2_ ps (itF d b t++r)∧(t.kind=5→b2_ ps ((itF d b t).tail++r)):=by
 intro d
 induction d with
 | zero=>intro t b ps r h;rw[t.depth_eq] at h;omega
 | succ d ih =>
  intro t b ps r h hs hb hr;have hd:∀ a∈t.args,a.depth≤d:=fun a ha=>by have:=av_ _ ha;rw[t.depth_eq] at h;omega
  have hb':b=true∨(1:Nat)=6∨ps=true:=hb.imp id .inr
  rcases ((aX_ t).1 hs).1 with hk|hk|hk|hk|hk
  ·rw[ef_ _ _ _ hk.1]
   exact⟨⟨hb.imp id .inr,hr⟩,fun e=>by omega⟩
  ·rw[di_ _ _ _ hk.1]
   exact⟨⟨hb.imp id .inr,hr⟩,fun e=>by omega⟩
  ·rw[dW_ _ _ _ hk.1]
   refine⟨⟨hb.imp id .inr,?_⟩,fun e=>by omega⟩;show b2_ false (_++r);have:∀ l:List Ty,(∀ a∈l,a∈t.args)→b2_ false ((l.flatMap fun x=>if x.atomic then itF d true x else ⟨true,6,dT_⟩ :: (itF d false x++[⟨false,6,fD_⟩]))++r):=by
    intro l
    induction l with
    | nil=>intro _;exact hr
    | cons a l ihl =>
     intro hl;have ha:=hl a (by simp);have hrest:=ihl fun c hc=>hl c (by simp[hc]);rw[List.flatMap_cons,List.append_assoc];generalize (l.flatMap fun x=>if x.atomic then itF d true x else (⟨true,6,dT_⟩:It) :: (itF d false x++[⟨false,6,fD_⟩]))++r=q at *
     split
     ·exact (ih a true false q (hd a ha) (hs.args a ha) (.inl rfl) hrest).1
     ·refine⟨.inl rfl,?_⟩
      show b2_ true (_++[_]++q);rw[List.append_assoc];exact (ih a false true _ (hd a ha) (hs.args a ha) (.inr rfl) (show b2_ false ((⟨false,6,fD_⟩:It) :: q) from ⟨.inr (.inl rfl),hp_ hrest⟩)).1
   exact this t.args fun a ha=>ha
  ·obtain⟨x,y,hxy⟩:∃ x y,t.args=[x,y]:=by
    match hl:t.args,hk.2.2.2 with
    | [x,y],_=>exact⟨x,y,rfl⟩
   refine⟨?_,fun e=>by omega⟩;rw[gA_ _ _ _ x y hk.1 hxy,List.append_assoc];have hy:b2_ false ((⟨true,6,c5_⟩:It) :: itF d true y++r):=⟨.inl rfl,(ih y true true r (hd y (by rw[hxy];simp)) (hs.args y (by rw[hxy];simp)) (.inl rfl) hr).1⟩;generalize (⟨true,6,c5_⟩:It) :: itF d true y++r=q at *
   split
   ·exact (ih x b ps q (hd x (by rw[hxy];simp)) (hs.args x (by rw[hxy];simp)) hb hy).1
   ·refine⟨.inr (.inl rfl),?_⟩
    show b2_ true (_++[_]++q);rw[List.append_assoc];exact (ih x false true _ (hd x (by rw[hxy];simp)) (hs.args x (by rw[hxy];simp)) (.inr rfl) (show b2_ false ((⟨false,6,fD_⟩:It) :: q) from ⟨.inr (.inl rfl),hp_ hy⟩)).1
  ·obtain⟨x,hx⟩:∃ x,t.args=[x]:=by
    match hl:t.args,hk.2.2 with
    | [x],_=>exact⟨x,rfl⟩
   have hx':=fun ps'=>ih x true ps' r (hd x (by rw[hx];simp)) (hs.args x (by rw[hx];simp)) (.inl rfl) hr;have tail:∀ ps',b2_ ps' (((⟨true,1,t.name.data.toList⟩:It) :: (if x.kind=5 then (itF d true x).tail else ⟨false,6,dot⟩ :: itF d true x))++r):=by
    intro ps';refine⟨.inl rfl,?_⟩;show b2_ false (_++r)
    split
    ·next h5=>exact (hx' false).2 h5
    ·exact⟨.inr (.inl rfl),(hx' true).1⟩
   rw[fM_ _ _ _ x hk.1 hx];exact⟨⟨hb.imp id .inr,tail false⟩,fun _=>tail ps⟩
theorem lw_ {s r:List UInt8}(h:s≠[]):(s++r).headD 0=s.headD 0:=by
 cases s with
 | nil=>exact absurd rfl h
 | cons a s=>rfl
theorem kw_ {s:List UInt8}(h:fr_ s):s≠[]:=by
 intro e;have:=h.len;rw[e] at this;simp at this
theorem gy_ {c:UInt8}(h:a9_ c=true):aV_ c=false:=by
 unfold a9_ at h;unfold aV_;simp only[decide_eq_true_eq] at h;simp only[decide_eq_false_iff_not];omega
def kt (t:Tok):Nat × List UInt8:=(t.kind,t.text)
def ktI (i:It):Nat × List UInt8:=(i.k,i.s)
def LexK (t:Ty):Prop:=((t.kind=1∨t.kind=5)→fr_ t.name.data.toList∧a9_ (t.name.data.toList.headD 0)=true∧lN_.contains t.name.data.toList=false)∧(t.kind=3→fr_ t.name.data.toList∧aV_ (t.name.data.toList.headD 0)=true)∧(t.kind=2→t.n<1000000)
mutual
def pQ_:Ty→Prop
 | .mk k s n args=>LexK (.mk k s n args)∧sI_ args
def sI_:List Ty→Prop
 | []=>True
 | t :: ts=>pQ_ t∧sI_ ts
end
theorem pm_ (ts:List Ty):sI_ ts↔∀ t∈ts,pQ_ t:=by
 induction ts with
 | nil=>simp[sI_]
 | cons t ts ih=>rw[sI_,ih];simp
theorem cs_ (t:Ty):pQ_ t↔LexK t∧∀ a∈t.args,pQ_ a:=by
 cases t with
 | mk k s n args=>rw[pQ_,pm_];rfl
theorem dI_ (u:Nat):(∀ c∈Lib.decDigits u,au_ c=true)∧1≤(Lib.decDigits u).length∧(1≤u→(Lib.decDigits u).headD 0≠48)∧∀ k,1≤k→u<10 ^ k→(Lib.decDigits u).length≤k:=by
 induction u using Nat.strongRecOn with
 | _ u ih =>
  rw[Lib.decDigits];have dig:∀ d,d<10→au_ (UInt8.ofNat (48+d))=true:=fun d hd=>by
   unfold au_;simp only[decide_eq_true_eq];rw[UInt8.toNat_ofNat'];omega
  split
  ·next h =>
   refine⟨by simp only[List.mem_singleton];rintro c rfl;exact dig u h,by simp,fun h1=>?_,fun k hk _=>by simpa using hk⟩;simp only[List.headD_cons];intro e;have:=congrArg UInt8.toNat e;rw[UInt8.toNat_ofNat'] at this;simp at this;omega
  ·next h =>
   obtain⟨h1,h2,h3,h4⟩:=ih (u / 10) (by omega);refine⟨?_,by simp,fun _=>?_,fun k hk hu=>?_⟩
   ·intro c hc
    rcases List.mem_append.1 hc with hc|hc
    ·exact h1 c hc
    ·rw[List.mem_singleton.1 hc];exact dig _ (by omega)
   ·rw[lw_ (by intro e;rw[e] at h2;simp at h2)]
    exact h3 (by omega)
   ·cases k with
    | zero=>omega
    | succ k =>
     rw[List.length_append];have hk1:1≤k:=by
      cases k with
      | zero=>simp at hu;omega
      | succ k=>omega
     have:=h4 k hk1 (by rw[Nat.pow_succ] at hu;omega);simp;omega
end
end Go.Proofs.YtjecnionbjlncaaGreatDoor.Tp

/- Texts laid together: R3M. -/
import Derived.Test.YtofllmemmggapaaGreatDoorP42

namespace Go.Proofs.YtofllmemmggapaaGreatDoor.Tp
open Lx
def outG (own:List ByteArray)(v:ByteArray→Option Ty)(g:List ByteArray):Fnd:=(g.filter (hasN own)).filterMap fun n=>(v n).map fun u=>(n,u)
theorem outG_fst {own:List ByteArray}{v:ByteArray→Option Ty}(hd:∀ n∈own,v n≠none)(g:List ByteArray):(outG own v g).map Prod.fst=g.filter (hasN own):=by
 unfold outG
 have:∀ l:List ByteArray,(∀ n∈l,v n≠none)→(l.filterMap fun n=>(v n).map fun u=>(n,u)).map Prod.fst=l:=by
  intro l
  induction l with
  | nil=>intro _;rfl
  | cons n l ih =>
   intro h
   cases hv:v n with
   | none=>exact absurd hv (h n (by simp))
   | some u=>simp[hv,ih fun m hm=>h m (by simp[hm])]
 exact this _ fun n hn=>hd n ((hasN_iff _ _).1 (List.mem_filter.1 hn).2)
theorem outG_own {own:List ByteArray}{v:ByteArray→Option Ty}{g:List ByteArray}{n:ByteArray}{u:Ty}(hn:hasN own n=true)(hv:v n=some u):outG own v (g++[n])=outG own v g++[(n,u)]:=by
 unfold outG;simp[List.filter_append,hn,hv]
theorem outG_not {own:List ByteArray}{v:ByteArray→Option Ty}{g:List ByteArray}{n:ByteArray}(hn:hasN own n=false):outG own v (g++[n])=outG own v g:=by
 unfold outG;simp[List.filter_append,hn]
theorem db_k16 {y:Ty}(hy:Std y){ey:List ByteArray}(h:(dbT ey y).kind=6∨(dbT ey y).kind=1):y.kind=1:=by
 by_cases h1:y.kind=1
 ·exact h1
 ·exfalso
  have hk:=hy.kind
  by_cases h5:y.kind=5
  ·rw[dbT_all _ _ h5] at h
   rcases h with h|h
   ·exact absurd h (by show ¬ (5:Int)=6;decide)
   ·exact absurd h (by show ¬ (5:Int)=1;decide)
  ·rw[dbT_other _ _ h1 h5] at h
   rcases h with h|h
   ·have:y.kind=6:=h;omega
   ·exact h1 h
def ColC (own:List ByteArray)(x:Ty):Prop:=∀ (y:Ty) (ex ey g:List ByteArray) (v:ByteArray→Option Ty),Std x→Std y→bndT (fun s=>s∉own) x→(∀ n∈ex,n∉own)→(∀ n u,v n=some u→Mono u)→(∀ n∈own,v n≠none)→(∀ n,vnT n (dbT ex x)→n∉own→v n=none) →
 svT v (dbT ex x)=dbT ey y→colT own x y (outG own v g)=some (outG own v (walkF freeStep x g ex))
theorem colL_comp (own:List ByteArray):∀ (xs ys:List Ty) (ex ey g:List ByteArray) (v:ByteArray→Option Ty),(∀ x∈xs,ColC own x∧Std x∧bndT (fun s=>s∉own) x)→(∀ y∈ys,Std y)→(∀ n∈ex,n∉own)→(∀ n u,v n=some u→Mono u)→(∀ n∈own,v n≠none)→(∀ n,(∃ x∈xs,vnT n (dbT ex x))→n∉own→v n=none) →
  xs.map (fun x=>svT v (dbT ex x))=ys.map (dbT ey)→colL own xs ys (outG own v g)=some (outG own v (walkL freeStep xs g ex)):=by
 intro xs
 induction xs with
 | nil=>intro ys ex ey g v _ _ _ _ _ _ _;rw[colL,walkL]
 | cons x xs ih =>
  intro ys ex ey g v hx hy he hv hd ho e
  cases ys with
  | nil=>cases e
  | cons y ys =>
   rw[List.map_cons,List.map_cons,List.cons.injEq] at e
   have h1:=(hx x (by simp)).1 y ex ey g v (hx x (by simp)).2.1 (hy y (by simp)) (hx x (by simp)).2.2 he hv hd (fun n hn=>ho n ⟨x,by simp,hn⟩) e.1
   rw[colL,h1]
   simp only
   rw[walkL]
   exact ih ys ex ey _ v (fun a ha=>hx a (by simp[ha])) (fun a ha=>hy a (by simp[ha])) he hv hd (fun n ⟨a,ha,hn⟩=>ho n ⟨a,by simp[ha],hn⟩) e.2
theorem col_comp (own:List ByteArray):∀ x:Ty,ColC own x:=by
 intro x
 induction x using Ty.ind with
 | h x ih =>
  intro y ex ey g v hs hy hb he hv hd ho e
  rw[colT_eq,walkF_eq]
  have hb':=(bnd_iff _ x).1 hb
  by_cases h1:x.kind=1
  ·obtain⟨hn,ha⟩:=hs.k1 h1
   rw[dbT_var _ _ h1,hn] at e ho
   unfold look at e ho
   by_cases hown:hasN own x.name=true
   ·have hmem:=(hasN_iff _ _).1 hown
    have hne:hasN ex x.name=false:=hasN_not fun hm=>he _ hm hmem
    have hix:ixN ex x.name=none:=(ixN_none _ _).2 fun hm=>he _ hm hmem
    rw[hix] at e
    simp only at e
    cases hvx:v x.name with
    | none=>exact absurd hvx (hd _ hmem)
    | some u =>
     rw[svT_mk,if_pos rfl,hvx] at e
     simp only at e
     have hyu:=(db_mono_inv y ey u hy (hv _ _ hvx) e.symm).1
     rw[if_pos ⟨h1,hown⟩,ha,walkL]
     by_cases hg:hasN g x.name=true
     ·have hin:(lkF (outG own v g) x.name).isSome=true:=(lk_mem _ _).2 (by rw[outG_fst hd,List.mem_filter];exact⟨(hasN_iff _ _).1 hg,hown⟩)
      rw[if_pos hin]
      unfold freeStep
      rw[hg];simp
     ·have hg':hasN g x.name=false:=by simpa using hg
      have hin:¬ (lkF (outG own v g) x.name).isSome=true:=fun h=>by
       have:=(lk_mem _ _).1 h
       rw[outG_fst hd,List.mem_filter] at this
       exact hg ((hasN_iff _ _).2 this.1)
      rw[if_neg hin]
      unfold freeStep
      rw[hg',hne,h1]
      simp only[beq_self_eq_true,Bool.not_false,Bool.and_true,if_true]
      rw[outG_own hown hvx,hyu]
   ·have hown':hasN own x.name=false:=by simpa using hown
    have hnm:x.name∉own:=fun hm=>hown ((hasN_iff _ _).2 hm)
    have hy1:y.kind=1:=by
     cases hix:ixN ex x.name with
     | some i =>
      rw[hix] at e
      simp only at e
      rw[svT_mk,if_neg (by decide)] at e
      exact db_k16 hy (ey:=ey) (.inl (by rw[← e];rfl))
     | none =>
      rw[hix] at e ho
      simp only at e ho
      rw[svT_mk,if_pos rfl,ho x.name ((vn_mk _ _ _ _ _).2 (.inl ⟨rfl,rfl⟩)) hnm] at e
      simp only at e
      exact db_k16 hy (ey:=ey) (.inr (by rw[← e];rfl))
    obtain⟨hyn,hya⟩:=hy.k1 hy1
    rw[if_neg (fun e=>hown e.2),if_neg (by
     rintro (h|h|h|h)
     ·exact h (h1.trans hy1.symm)
     ·exact h (hn.trans hyn.symm)
     ·rw[ha,hya] at h;exact h rfl
     ·omega),ha,colL,walkL]
    unfold freeStep
    split
    ·rw[outG_not hown']
    ·rfl
  ·have hst:freeStep g x ex=g:=by
    unfold freeStep
    rw[show (x.kind==1)=false from by rw[beq_eq_false_iff_ne];exact h1];rfl
   rw[if_neg (fun e=>h1 e.1),hst]
   have hkt:=hy.kind
   have hkx:=hs.kind
   by_cases h5:x.kind=5
   ·rw[dbT_all _ _ h5] at e ho
    rw[svT_mk,if_neg (by decide),List.map_map] at e
    have hk5:y.kind=5:=by
     have hk:(dbT ey y).kind=5:=by rw[← e];rfl
     by_cases ht1:y.kind=1
     ·rw[dbT_var _ _ ht1] at hk
      unfold look at hk
      cases h2:ixN ey y.name with
      | some j=>rw[h2] at hk;exact absurd hk (by show ¬ (6:Int)=5;decide)
      | none=>rw[h2] at hk;exact absurd hk (by show ¬ (1:Int)=5;decide)
     ·by_cases ht5:y.kind=5
      ·exact ht5
      ·rw[dbT_other _ _ ht1 ht5] at hk;exact hk
    rw[dbT_all _ _ hk5,Ty.mk.injEq] at e
    have e2:=e.2.2.2
    have hlen:x.args.length=y.args.length:=by have:=congrArg List.length e2;simpa using this
    rw[if_neg (by
     rintro (h|h|h|h)
     ·exact h (h5.trans hk5.symm)
     ·exact h ((hs.k5 h5).1.trans (hy.k5 hk5).1.symm)
     ·exact h hlen
     ·omega),if_pos h5]
    exact colL_comp own x.args y.args (x.name :: ex) (y.name :: ey) g v (fun a ha=>⟨ih a ha,hs.args a ha,hb'.2 a ha⟩) (fun a ha=>hy.args a ha) (fun n hn=>by
     rcases List.mem_cons.1 hn with rfl|hn
     ·exact hb'.1 h5
     ·exact he n hn) hv hd (fun n ⟨a,ha,hn⟩=>ho n ((vn_mk _ _ _ _ _).2 (.inr ⟨_,List.mem_map.2 ⟨a,ha,rfl⟩,hn⟩))) e2
   ·rw[dbT_other _ _ h1 h5] at e ho
    rw[svT_mk,if_neg h1,List.map_map] at e
    have hk:(dbT ey y).kind=x.kind:=by rw[← e];rfl
    have ht1:y.kind≠1:=fun ht1=>by
     rw[dbT_var _ _ ht1] at hk
     unfold look at hk
     cases h2:ixN ey y.name with
     | some j=>rw[h2] at hk;have:(6:Int)=x.kind:=hk;omega
     | none=>rw[h2] at hk;have:(1:Int)=x.kind:=hk;omega
    have ht5:y.kind≠5:=fun ht5=>by
     rw[dbT_all _ _ ht5] at hk
     have:(5:Int)=x.kind:=hk
     omega
    rw[dbT_other _ _ ht1 ht5,Ty.mk.injEq] at e
    obtain⟨ek,en,em,ea⟩:=e
    have hlen:x.args.length=y.args.length:=by have:=congrArg List.length ea;simpa using this
    rw[if_neg (by
     rintro (h|h|h|h)
     ·exact h ek
     ·exact h em
     ·exact h hlen
     ·exact h.2 en),if_neg h5]
    exact colL_comp own x.args y.args ex ey g v (fun a ha=>⟨ih a ha,hs.args a ha,hb'.2 a ha⟩) (fun a ha=>hy.args a ha) he hv hd (fun n ⟨a,ha,hn⟩=>ho n ((vn_mk _ _ _ _ _).2 (.inr ⟨_,List.mem_map.2 ⟨a,ha,rfl⟩,hn⟩))) ea
def rOk (t:Ty)(l:Fnd):Bool:=l.all fun e=>!polyT e.2&&(freeT e.2).all fun n=>hasN (freeT t) n
def ownL (p:Ty)(vars:List ByteArray):List ByteArray:=(freeT p).filter (hasN vars)
def butM (p t:Ty)(vars:List ByteArray):List ByteArray:=vars++freeT p++freeT t
def colM (p t:Ty)(vars:List ByteArray):Option Fnd:=colT (ownL p vars) (rnF (butM p t vars) p.depth 0 p).1 (rnF (butM p t vars) t.depth 0 t).1 []
def rMatchT (p t:Ty)(vars:List ByteArray):Option Fnd:=match colM p t vars with
 | none=>none
 | some l=>if rOk t l&&decide (canonS (paT p l)=canonS t) then some l else none
theorem vn_sv (v:ByteArray→Option Ty)(x n:ByteArray)(u:Ty)(hv:v x=some u)(hn:vnT n u):∀ (X:Ty) (d:Nat),DbW d X→vnT x X→vnT n (svT v X):=by
 intro X
 induction X using Ty.ind with
 | h X ih =>
  cases X with
  | mk k s m args =>
   intro d hw h
   obtain⟨w1,_,wa⟩:=(dbw_mk d k s m args).1 hw
   rw[svT_mk]
   rcases (vn_mk _ _ _ _ _).1 h with h|⟨a,ha,h⟩
   ·rw[if_pos h.1,h.2,hv];exact hn
   ·have:=ih a ha _ (wa a ha) h
    by_cases h1:k=1
    ·rw[(w1 h1).2] at ha;cases ha
    ·rw[if_neg h1]
     exact (vn_mk _ _ _ _ _).2 (.inr ⟨_,List.mem_map.2 ⟨a,ha,rfl⟩,this⟩)
theorem lk_fm (v:ByteArray→Option Ty)(x:ByteArray):∀ l:List ByteArray,x∈l→lkF (l.filterMap fun n=>(v n).map fun u=>(n,u)) x=v x:=by
 intro l
 induction l with
 | nil=>intro h;cases h
 | cons n l ih =>
  intro h
  by_cases e:n=x
  ·subst e
   cases hv:v n with
   | none =>
    simp only[List.filterMap_cons,hv,Option.map_none]
    cases hl:lkF (l.filterMap fun n=>(v n).map fun u=>(n,u)) n with
    | none=>rfl
    | some u =>
     have:=(lk_mem _ n).1 (by rw[hl];rfl)
     obtain⟨e,he,hen⟩:=List.mem_map.1 this
     obtain⟨m,hm,hme⟩:=List.mem_filterMap.1 he
     cases hvm:v m with
     | none=>rw[hvm] at hme;cases hme
     | some w =>
      rw[hvm] at hme
      simp only[Option.map_some,Option.some.injEq] at hme
      rw[← hme] at hen
      simp only at hen
      rw[hen,hv] at hvm
      cases hvm
   | some u =>
    simp only[List.filterMap_cons,hv,Option.map_some]
    unfold lkF
    rw[List.find?_cons,(eqN_iff _ _).2 rfl];rfl
  ·have hx:x∈l:=by
    rcases List.mem_cons.1 h with h|h
    ·exact absurd h.symm e
    ·exact h
   rw[← ih hx]
   cases hv:v n with
   | none=>simp only[List.filterMap_cons,hv,Option.map_none]
   | some u =>
    simp only[List.filterMap_cons,hv,Option.map_some]
    unfold lkF
    rw[List.find?_cons,(eqN_false _ _).2 e]
theorem lk_val {l:Fnd}{x:ByteArray}{u:Ty}(h:lkF l x=some u):∃ e∈l,e.1=x∧e.2=u:=by
 unfold lkF at h
 obtain⟨e,he,hu⟩:=Option.map_eq_some_iff.1 h
 have hf:eqN e.1 x=true:=by have:=List.find?_some (p:=fun e:ByteArray × Ty=>eqN e.1 x) he;simpa using this
 exact⟨e,List.mem_of_find?_eq_some he,(eqN_iff _ _).1 hf,hu⟩
structure RefM (p t:Ty)(vars:List ByteArray):Prop where
 mp:Mk p
 mt:Mk t
 zp:p.size≤400
 zt:t.size≤400
 vn:vars.length≤4000
theorem RefM.but {p t:Ty}{vars:List ByteArray}(h:RefM p t vars):(butM p t vars).length≤5000:=by
 have h1:=freeT_len p
 have h2:=freeT_len t
 have:=h.zp
 have:=h.zt
 have:=h.vn
 unfold butM
 simp only[List.length_append]
 omega
theorem RefM.rx {p t:Ty}{vars:List ByteArray}(h:RefM p t vars):RnOk (butM p t vars) 0 p (rnF (butM p t vars) p.depth 0 p)∧RnOk (butM p t vars) 0 t (rnF (butM p t vars) t.depth 0 t):=by
 have hb:=h.but
 have h1:p.size*((butM p t vars).length+1)≤400*5001:=Nat.mul_le_mul h.zp (by omega)
 have h2:t.size*((butM p t vars).length+1)≤400*5001:=Nat.mul_le_mul h.zt (by omega)
 exact⟨rn_ok _ _ 0 p (Nat.le_refl _) h.mp (by have:=h.zp;omega) (fun x hx=>.inl (by unfold butM;simp[(mem_free x p).2 hx])) (by omega),
  rn_ok _ _ 0 t (Nat.le_refl _) h.mt (by have:=h.zt;omega) (fun x hx=>.inl (by unfold butM;simp[(mem_free x t).2 hx])) (by omega)⟩
theorem own_iff2 {p:Ty}{vars:List ByteArray}{n:ByteArray} : n∈ownL p vars↔fvT n p∧n∈vars:=by
 unfold ownL
 rw[List.mem_filter,mem_free,hasN_iff]
theorem RefM.bnd {p t:Ty}{vars:List ByteArray}(h:RefM p t vars):bndT (fun s=>s∉ownL p vars) (rnF (butM p t vars) p.depth 0 p).1 :=
 bnd_mono (fun s hs hm=>hs (by unfold butM;simp[(own_iff2.1 hm).2])) _ h.rx.1.bnd
theorem RefM.free {p t:Ty}{vars:List ByteArray}(h:RefM p t vars):freeT (rnF (butM p t vars) p.depth 0 p).1=freeT p:=(db_same h.rx.1.mm.1 h.mp.1 (h.rx.1.db [])).1
theorem RefM.col {p t:Ty}{vars:List ByteArray}(h:RefM p t vars){l:Fnd}(hc:colM p t vars=some l):l.map Prod.fst=ownL p vars∧∀ e∈l,Mk e.2∧e.2.size≤400:=by
 have hs:=col_sound (ownL p vars) (fun u=>Mk u∧u.size≤400) (fun u hu a ha=>⟨mk_args hu.1 a ha,by have:=size_arg _ ha;have:=hu.2;rw[u.size_eq] at this;omega⟩) _ _ [] [] [] l h.rx.1.mm.1 ⟨h.rx.2.mm,by have:=h.rx.2.size;have:=h.zt;omega⟩ h.bnd (fun n hn=>by cases hn) rfl (fun e he=>by cases he) hc
 refine⟨?_,hs.2⟩
 rw[hs.1,show walkF freeStep (rnF (butM p t vars) p.depth 0 p).1 [] []=freeT (rnF (butM p t vars) p.depth 0 p).1 from rfl,h.free]
 unfold ownL
 rw[List.filter_congr]
 intro n hn
 rw[Bool.eq_iff_iff,hasN_iff,hasN_iff,List.mem_filter,hasN_iff]
 exact⟨fun h=>h.2,fun h=>⟨hn,h⟩⟩
theorem RefM.av {p t:Ty}{vars:List ByteArray}(h:RefM p t vars){l:Fnd}(hk:l.map Prod.fst=ownL p vars)(hm:∀ e∈l,Mk e.2∧e.2.size≤400):l.length≤400∧(avT p l).length≤1000000:=by
 have h1:=freeT_len p
 have hz:=h.zp
 have hl:l.length≤400:=by
  have:(l.map Prod.fst).length≤(freeT p).length:=by rw[hk];exact List.length_filter_le _ _
  rw[List.length_map] at this
  omega
 refine⟨hl,?_⟩
 have key:∀ m:Fnd,(∀ e∈m,e.2.size≤400)→(m.flatMap fun e=>freeT e.2++[e.1]).length≤m.length*401:=by
  intro m
  induction m with
  | nil=>intro _;simp
  | cons e m ih =>
   intro hm
   have:=freeT_len e.2
   have:=hm e (by simp)
   have:=ih fun x hx=>hm x (by simp[hx])
   simp only[List.flatMap_cons,List.length_append,List.length_cons,List.length_nil]
   omega
 have:=key l fun e he=>(hm e he).2
 unfold avT
 rw[List.length_append]
 omega
theorem RefM.put {p t:Ty}{vars:List ByteArray}(h:RefM p t vars){l:Fnd}(hk:l.map Prod.fst=ownL p vars)(hm:∀ e∈l,Mk e.2∧e.2.size≤400)(hpoly:∀ e∈l,polyT e.2=false) :
  Mk (paT p l)∧(paT p l).size≤200000∧dbT [] (paT p l)=svT (lkF l) (dbT [] p):=by
 obtain⟨h1,h2⟩:=h.av hk hm
 exact pa_db h.mp (M:=400) (by omega) (Nat.le_trans (Nat.mul_le_mul_right 400 h.zp) (by omega)) ⟨fun e he=>⟨(hm e he).1.1,hpoly e he⟩,fun e he=>(hm e he).1,fun e he=>(hm e he).2⟩ h2 (by omega)
theorem rOk_iff (t:Ty)(l:Fnd):rOk t l=true↔∀ e∈l,polyT e.2=false∧∀ n,fvT n e.2→fvT n t:=by
 unfold rOk
 rw[List.all_eq_true]
 refine forall_congr' fun e=>imp_congr_right fun _=>?_
 rw[Bool.and_eq_true,Bool.not_eq_true',List.all_eq_true]
 refine and_congr Iff.rfl ⟨fun h n hn=>?_,fun h n hn=>?_⟩
 ·exact (mem_free n t).1 ((hasN_iff _ _).1 (h n ((mem_free n e.2).2 hn)))
 ·exact (hasN_iff _ _).2 ((mem_free n t).2 (h n ((mem_free n e.2).1 hn)))
theorem RefM.comp {p t:Ty}{vars:List ByteArray}(h:RefM p t vars){v:ByteArray→Option Ty}(hv:IsM vars p t v):rMatchT p t vars=some (pairsT p v):=by
 have hown:∀ n∈ownL p vars,v n≠none:=fun n hn=>hv.dom n (own_iff2.1 hn).2 (own_iff2.1 hn).1
 have hout:∀ n,fvT n p→n∉ownL p vars→v n=none:=fun n hn hno=>hv.out n fun hm=>hno (own_iff2.2 ⟨hn,hm⟩)
 have hpair:outG (ownL p vars) v (freeT p)=pairsT p v:=by
  unfold outG pairsT
  have:∀ l:List ByteArray,(∀ n∈l,fvT n p)→(l.filter (hasN (ownL p vars))).filterMap (fun n=>(v n).map fun u=>(n,u))=l.filterMap fun n=>(v n).map fun u=>(n,u):=by
   intro l
   induction l with
   | nil=>intro _;rfl
   | cons n l ih =>
    intro hl
    have h1:=ih fun m hm=>hl m (by simp[hm])
    cases ho:hasN (ownL p vars) n with
    | true=>rw[List.filter_cons,ho,if_pos rfl,List.filterMap_cons,List.filterMap_cons,h1]
    | false =>
     have hvn:=hout n (hl n (by simp)) (fun hm=>by rw[(hasN_iff _ _).2 hm] at ho;cases ho)
     rw[List.filter_cons,ho,if_neg (by simp),List.filterMap_cons,hvn,h1]
     rfl
  exact this _ fun n hn=>(mem_free n p).1 hn
 have hc:colM p t vars=some (pairsT p v):=by
  have:=col_comp (ownL p vars) (rnF (butM p t vars) p.depth 0 p).1 (rnF (butM p t vars) t.depth 0 t).1 [] [] [] v h.rx.1.mm.1 h.rx.2.mm.1 h.bnd (fun n hn=>by cases hn) hv.mono hown (fun n hn hno=>by
   rw[h.rx.1.db []] at hn
   exact hout n ((vn_db n p [] h.mp.1).1 hn).1 hno) (by rw[h.rx.1.db [],h.rx.2.db [],hv.eq])
  rw[show walkF freeStep (rnF (butM p t vars) p.depth 0 p).1 [] []=freeT (rnF (butM p t vars) p.depth 0 p).1 from rfl,h.free,hpair] at this
  exact this
 obtain⟨hk,hm⟩:=h.col hc
 have hval:∀ e∈pairsT p v,e.1∈freeT p∧v e.1=some e.2:=fun e he=>by
  unfold pairsT at he
  obtain⟨n,hn,hne⟩:=List.mem_filterMap.1 he
  cases hvn:v n with
  | none=>rw[hvn] at hne;cases hne
  | some u =>
   rw[hvn] at hne
   simp only[Option.map_some,Option.some.injEq] at hne
   rw[← hne]
   exact⟨hn,hvn⟩
 have hpoly:∀ e∈pairsT p v,polyT e.2=false:=fun e he=>(hv.mono _ _ (hval e he).2).2
 have hok:rOk t (pairsT p v)=true:=(rOk_iff _ _).2 fun e he=>⟨hpoly e he,fun n hn=>by
  have hmo:=hv.mono _ _ (hval e he).2
  have h1:vnT n e.2:=by
   have:=(vn_db n e.2 [] hmo.1).2 ⟨hn,by simp⟩
   rwa [db_mono e.2 [] hmo (fun x _ h=>by cases h)] at this
  have h2:=vn_sv v e.1 n e.2 (hval e he).2 h1 (dbT [] p) 0 (db_dbw p [] h.mp.1) ((vn_db _ p [] h.mp.1).2 ⟨(mem_free _ p).1 (hval e he).1,by simp⟩)
  rw[hv.eq] at h2
  exact ((vn_db n t [] h.mt.1).1 h2).1⟩
 obtain⟨q1,q2,q3⟩:=h.put hk hm hpoly
 have hsame:canonS (paT p (pairsT p v))=canonS t:=by
  unfold canonS
  rw[canon_congr q1.1 h.mt.1 ?_]
  rw[q3,← hv.eq]
  refine sv_congr _ _ _ fun x hx=>?_
  exact lk_fm v x _ ((mem_free x p).2 ((vn_db x p [] h.mp.1).1 hx).1)
 unfold rMatchT
 rw[hc]
 simp only
 rw[hok,show decide (canonS (paT p (pairsT p v))=canonS t)=true from decide_eq_true hsame]
 rfl
theorem RefM.sound {p t:Ty}{vars:List ByteArray}(h:RefM p t vars){l:Fnd}(hl:rMatchT p t vars=some l):IsM vars p t (lkF l):=by
 unfold rMatchT at hl
 cases hc:colM p t vars with
 | none=>rw[hc] at hl;cases hl
 | some l0 =>
  rw[hc] at hl
  simp only at hl
  split at hl
  ·next hcond =>
   injection hl with hl
   subst hl
   rw[Bool.and_eq_true,decide_eq_true_iff] at hcond
   obtain⟨hok,hsame⟩:=hcond
   have hok:=(rOk_iff _ _).1 hok
   obtain⟨hk,hm⟩:=h.col hc
   obtain⟨q1,q2,q3⟩:=h.put hk hm fun e he=>(hok e he).1
   refine⟨fun x u hx=>?_,fun x hx=>?_,fun x hx hfx=>?_,?_⟩
   ·obtain⟨e,he,_,rfl⟩:=lk_val hx
    exact⟨(hm e he).1.1,(hok e he).1⟩
   ·cases hlk:lkF l0 x with
    | none=>rfl
    | some u =>
     have:=(lk_mem l0 x).1 (by rw[hlk];rfl)
     rw[hk,own_iff2] at this
     exact absurd this.2 hx
   ·have:=(lk_mem l0 x).2 (by rw[hk,own_iff2];exact⟨hfx,hx⟩)
    intro e
    rw[e] at this;cases this
   ·rw[← q3]
    exact canon_inj2 q1 h.mt q2 (by have:=h.zt;omega) hsame
  ·cases hl
theorem RefM.same {p t:Ty}{vars:List ByteArray}(h:RefM p t vars):rMatchT p t vars=MatchT p t vars:=by
 cases hM:MatchT p t vars with
 | some l =>
  obtain⟨v,hv,rfl,_⟩:=match_some h.mp.1 h.mt hM
  exact h.comp hv
 | none =>
  cases hR:rMatchT p t vars with
  | none=>rfl
  | some l =>
   have:=match_of h.mp.1 h.mt (h.sound hR)
   rw[hM] at this
   cases this
end Go.Proofs.YtofllmemmggapaaGreatDoor.Tp

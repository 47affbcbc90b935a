/- Texts laid together: CoNt, CoPl, CoB. -/
import Derived.Test.YtkihnodkhnahiaaGreatDoorP17
import Derived.Test.YtkihnodkhnahiaaGreatDoorP18
set_option maxRecDepth 100000
set_option maxHeartbeats 6400000
namespace Go.Proofs.YtkihnodkhnahiaaGreatDoor.Tp
section
def e0:ByteArray:=⟨#[]⟩
def tz:Ty:=.mk 0 e0 0 []
def ga_ (n:Int)(l r:Ty):Option (Ty × Ty) :=
 if l.kind=r.kind∧(l.kind=4∨l.kind=3∧l.name=r.name∧l.args.length=r.args.length)∧n<l.args.length then some (l.args.getD n.toNat tz,r.args.getD n.toNat tz) else none
end
section
open Lx
inductive Co where
 | mk (kind:Int) (name:ByteArray) (n:Int) (t:Ty) (kids:List Co):Co
def Co.kind:Co→Int | .mk k _ _ _ _=>k
def Co.name:Co→ByteArray | .mk _ s _ _ _=>s
def Co.n:Co→Int | .mk _ _ n _ _=>n
def Co.t:Co→Ty | .mk _ _ _ t _=>t
def Co.kids:Co→List Co | .mk _ _ _ _ ks=>ks
theorem Co.ind {P:Co→Prop}(h:∀ c,(∀ a∈c.kids,P a)→P c)(c:Co):P c :=
 Co.rec (motive_1:=P) (motive_2:=fun cs=>∀ a∈cs,P a) (fun k s n t ks ih=>h (.mk k s n t ks) ih) (fun a ha=>by cases ha)
  (fun t ts iht ihs a ha=>by
   rcases List.mem_cons.1 ha with rfl|ha
   ·exact iht
   ·exact ihs a ha) c
mutual
def Co.deep:Co→Nat
 | .mk _ _ _ _ ks=>br_ ks+1
def br_:List Co→Nat
 | []=>0
 | c :: cs=>max c.deep (br_ cs)
end
theorem Co.deep_eq (c:Co):c.deep=br_ c.kids+1:=by cases c;simp[Co.deep,Co.kids]
theorem dL_ (a b:List Co):br_ (a++b)=max (br_ a) (br_ b):=by
 induction a with
 | nil=>simp[br_]
 | cons t ts ih=>simp[br_,ih,Nat.max_assoc]
theorem fP_ (ts:List Co)(i:Nat)(h:i<ts.length):br_ (ts.take (i+1))=max (br_ (ts.take i)) ts[i].deep:=by
 rw[List.take_add_one,List.getElem?_eq_getElem h,dL_];simp[br_]
theorem ft_ (ts:List Co){a:Co}(h:a∈ts):a.deep≤br_ ts:=by
 induction ts with
 | nil=>cases h
 | cons t ts ih =>
  rw[br_]
  rcases List.mem_cons.1 h with rfl|h
  ·omega
  ·have:=ih h;omega
mutual
def Co.tdep:Co→Nat
 | .mk k _ _ t ks=>max (if k=2∨k=9 then t.depth else 0) (bB_ ks)
def bB_:List Co→Nat
 | []=>0
 | c :: cs=>max c.tdep (bB_ cs)
end
def dD_ (c:Co):Nat:=if c.kind=2∨c.kind=9 then c.t.depth else 0
theorem Co.tdep_eq (c:Co):c.tdep=max (dD_ c) (bB_ c.kids):=by
 cases c;rw[Co.tdep];rfl
theorem dF_ (a b:List Co):bB_ (a++b)=max (bB_ a) (bB_ b):=by
 induction a with
 | nil=>simp[bB_]
 | cons t ts ih=>simp[bB_,ih,Nat.max_assoc]
theorem fz_ (ts:List Co)(i:Nat)(h:i<ts.length):bB_ (ts.take (i+1))=max (bB_ (ts.take i)) ts[i].tdep:=by
 rw[List.take_add_one,List.getElem?_eq_getElem h,dF_];simp[bB_]
theorem hH_ (ts:List Co){a:Co}(h:a∈ts):a.tdep≤bB_ ts:=by
 induction ts with
 | nil=>cases h
 | cons t ts ih =>
  rw[bB_]
  rcases List.mem_cons.1 h with rfl|h
  ·omega
  ·have:=ih h;omega
def lts:List UInt8:=[60]
def gts:List UInt8:=[62]
def wSym:List UInt8:=[83,121,109]
def lG_:List UInt8:=[84,114,97,110,115]
def wCon:List UInt8:=[67,111,110]
def wFun:List UInt8:=[70,117,110]
def wAll:List UInt8:=[65,108,108]
def wNth:List UInt8:=[78,116,104]
def pB_:List UInt8:=[73,110,115,116]
def aR_ (k:Int):List UInt8:=if k=3 then wSym else if k=4 then lG_ else if k=5 then wCon else if k=6 then wFun else if k=7 then wAll else if k=8 then wNth else pB_
def aG_ (s:List UInt8):Nat:=if s=wSym then 3 else if s=lG_ then 4 else if s=wCon then 5 else if s=wFun then 6 else if s=wAll then 7 else if s=wNth then 8 else if s=pB_ then 9 else 0
def dW_ (l:List Tok):Option (Ty × List Tok) :=
 if st l 6 lts then (match em_ l.tail with
  | none=>none
  | some (t,r)=>if st r 6 gts then some (t,r.tail) else none) else none
structure rF_ where
 k:Nat
 nm:ByteArray
 n:Nat
 m:Nat
 l:List Tok
def by_ (l:List Tok):Option rF_ :=
 if sk l 2 then
  if aG_ (ab_ l)=0 then none
  else if aG_ (ab_ l)=5 then (if sk l.tail 2 then some ⟨5,aa_ (ab_ l.tail),0,0,l.tail.tail⟩ else none)
  else if aG_ (ab_ l)=7 then (if sk l.tail 1 then some ⟨7,aa_ (ab_ l.tail),0,1,l.tail.tail⟩ else none)
  else if aG_ (ab_ l)=8 then (if sk l.tail 4 then some ⟨8,e0,c5_ (ab_ l.tail),1,l.tail.tail⟩ else none)
  else some ⟨aG_ (ab_ l),e0,0,if aG_ (ab_ l)=4∨aG_ (ab_ l)=6 then 2 else 1,l.tail⟩
 else none
mutual
def coF:Nat→List Tok→Option (Co × List Tok)
 | 0,_=>none
 | n+1,l =>
  if st l 6 lts then (match dW_ l with
   | none=>none
   | some (t,r)=>some (.mk 2 e0 0 t [],r))
  else if st l 6 cs_ then (match a4_ n l.tail with
   | none=>none
   | some (c,r)=>if st r 6 ce_ then some (c,r.tail) else none)
  else if sk l 1 then some (.mk 1 (aa_ (ab_ l)) 0 tz [],l.tail) else none
def a4_:Nat→List Tok→Option (Co × List Tok)
 | 0,_=>none
 | n+1,l=>match by_ l with
  | none=>none
  | some h=>if h.k=5 then (match hy_ n [] h.l with
    | none=>none
    | some (ks,r)=>some (.mk 5 h.nm 0 tz ks,r))
   else match bC_ n h.m [] h.l with
    | none=>none
    | some (ks,r)=>if h.k=9 then (match dW_ r with
      | none=>none
      | some (t,r')=>some (.mk 9 h.nm h.n t ks,r'))
     else some (.mk h.k h.nm h.n tz ks,r)
def hy_:Nat→List Co→List Tok→Option (List Co × List Tok)
 | 0,_,_=>none
 | n+1,acc,l=>if l.isEmpty || st l 6 ce_ then some (acc,l) else match coF n l with
  | none=>none
  | some (x,r)=>hy_ n (acc++[x]) r
def bC_:Nat→Nat→List Co→List Tok→Option (List Co × List Tok)
 | 0,_,_,_=>none
 | _+1,0,acc,l=>some (acc,l)
 | n+1,m+1,acc,l=>match coF n l with
  | none=>none
  | some (x,r)=>bC_ n m (acc++[x]) r
end
def en_ (l:List Tok):Option (Co × List Tok):=coF (4*l.length+4) l
def bi_ (s:List UInt8):Except Nat Co :=
 if (bZ_ s).2.2≠0 then .error (bZ_ s).2.2
 else match en_ (bZ_ s).1 with
  | none=>.error 50
  | some (c,r)=>if r≠[] then .error 50 else if 50<c.deep∨50<c.tdep then .error 3 else .ok c
mutual
def al_:Co→List UInt8
 | .mk k s n t ks=>if k=1 then s.data.toList else if k=2 then 60 :: ae_ t++[62]
  else 40 :: (aR_ k++(if k=5∨k=7 then 32 :: s.data.toList else if k=8 then 32 :: Lib.itoa n else [])++be_ ks++(if k=9 then 32 :: 60 :: ae_ t++[62] else []))++[41]
def be_:List Co→List UInt8
 | []=>[]
 | c :: cs=>32 :: al_ c++be_ cs
end
structure Giv where
 nm:ByteArray
 l:Ty
 r:Ty
def gG_ (g:List Giv)(s:ByteArray):Option (Ty × Ty):=(g.reverse.find? fun x=>eqN x.nm s).map fun x=>(x.l,x.r)
mutual
def aP_:Co→Nat
 | .mk k _ _ _ ks=>aZ_ ks+(if k=7 then 1 else 0)
def aZ_:List Co→Nat
 | []=>0
 | c :: cs=>max (aP_ c) (aZ_ cs)
end
theorem dB_ (c:Co):aP_ c=aZ_ c.kids+(if c.kind=7 then 1 else 0):=by cases c;rfl
theorem ek_ (a b:List Co):aZ_ (a++b)=max (aZ_ a) (aZ_ b):=by
 induction a with
 | nil=>simp[aZ_]
 | cons t ts ih=>simp[aZ_,ih,Nat.max_assoc]
theorem gQ_ (ts:List Co)(i:Nat)(h:i<ts.length):aZ_ (ts.take (i+1))=max (aZ_ (ts.take i)) (aP_ ts[i]):=by
 rw[List.take_add_one,List.getElem?_eq_getElem h,ek_];simp[aZ_]
def fg_ (n:Nat):ByteArray:=aa_ (List.replicate n 36)
def bV_ (c:Co):ByteArray:=fg_ (aZ_ c.kids+1)
def fW_ (s:ByteArray):Ty:=.mk 1 s 0 []
mutual
def cd_ (fr to:ByteArray):Co→Co
 | .mk k s n t ks=>if k=7∧eqN s fr=true then .mk k s n t ks else .mk k s n (if k=2∨k=9 then ep_ fr (fW_ to) t else t) (ob_ fr to ks)
def ob_ (fr to:ByteArray):List Co→List Co
 | []=>[]
 | c :: cs=>cd_ fr to c :: ob_ fr to cs
end
theorem mo_ (fr to:ByteArray)(ks:List Co):ob_ fr to ks=ks.map (cd_ fr to):=by
 induction ks with
 | nil=>rfl
 | cons c cs ih=>rw[ob_,ih];rfl
theorem gy_ (fr to:ByteArray)(c:Co):cd_ fr to c=if c.kind=7∧eqN c.name fr=true then c else .mk c.kind c.name c.n (if c.kind=2∨c.kind=9 then ep_ fr (fW_ to) c.t else c.t) (c.kids.map (cd_ fr to)):=by
 cases c;rw[cd_,mo_];rfl
def ho_ (c:Co):Co:=c.kids.headD (.mk 0 e0 0 tz [])
def bS_ (c:Co):Co:=if c.kind=7 then .mk 7 (bV_ c) c.n c.t [cd_ c.name (bV_ c) (ho_ c)] else c
def h0 (l:List Ty):Ty:=l.headD tz
def h1 (l:List Ty):Ty:=l.tail.headD tz
def dE_ (c:Co)(x y:List Ty):Option (Ty × Ty) :=
 if c.kind=3 then some (h0 y,h0 x)
 else if c.kind=4 then (if bd_ (h0 y)=bd_ (h1 x) then some (h0 x,h1 y) else none)
 else if c.kind=5 then some (.mk 3 c.name 0 x,.mk 3 c.name 0 y)
 else if c.kind=6 then some (.mk 4 e0 0 x,.mk 4 e0 0 y)
 else if c.kind=7 then some (.mk 5 c.name 0 x,.mk 5 c.name 0 y)
 else if c.kind=8 then ga_ c.n (h0 x) (h0 y)
 else if (h0 x).kind=5∧(h0 y).kind=5 then some (ep_ (h0 x).name c.t (h0 (h0 x).args),ep_ (h0 y).name c.t (h0 (h0 y).args)) else none
def bl_ (f:Co→Option (Ty × Ty)):List Co→Option (List Ty × List Ty)
 | []=>some ([],[])
 | c :: cs=>match f c with
  | none=>none
  | some p=>match bl_ f cs with
   | none=>none
   | some q=>some (p.1 :: q.1,p.2 :: q.2)
def aA_:Nat→List Giv→Co→Option (Ty × Ty)
 | 0,_,_=>none
 | d+1,g,c=>if c.kind=1 then gG_ g c.name else if c.kind=2 then some (c.t,c.t)
  else match bl_ (aA_ d g) (bS_ c).kids with
   | none=>none
   | some p=>dE_ (bS_ c) p.1 p.2
def g2_ (g:List Giv)(c:Co):Option (Ty × Ty):=aA_ c.deep g c
mutual
def cp_:Ty→Nat
 | .mk k _ _ args=>(if k=3∨k=4∨k=5 then 0 else 1)+fu_ args
def fu_:List Ty→Nat
 | []=>0
 | t :: ts=>cp_ t+fu_ ts
end
theorem cI_ (t:Ty):cp_ t=(if t.kind=3∨t.kind=4∨t.kind=5 then 0 else 1)+fu_ t.args:=by cases t;rfl
theorem kn_ (f:Ty→Ty)(ts:List Ty)(h:∀ t∈ts,cp_ (f t)=cp_ t):fu_ (ts.map f)=fu_ ts:=by
 induction ts with
 | nil=>rfl
 | cons t ts ih=>rw[List.map_cons,fu_,fu_,h t (by simp),ih fun u hu=>h u (by simp[hu])]
theorem qo_ (ts:List Ty){a:Ty}(h:a∈ts):cp_ a≤fu_ ts:=by
 induction ts with
 | nil=>cases h
 | cons t ts ih =>
  rw[fu_]
  rcases List.mem_cons.1 h with rfl|h
  ·omega
  ·have:=ih h;omega
theorem h3_ (t:Ty):cp_ t≤t.size:=by
 induction t using Ty.ind with
 | h t ih =>
  have:∀ l:List Ty,(∀ a∈l,cp_ a≤a.size)→fu_ l≤aw_ l:=by
   intro l
   induction l with
   | nil=>intro _;exact az_ _
   | cons a l ihl =>
    intro h;rw[fu_,aw_];have:=h a (by simp);have:=ihl fun b hb=>h b (by simp[hb]);omega
  have:=this t.args ih;rw[cI_,t.size_eq]
  split<;>omega
theorem km_ (t:Ty):Std t→∀ env:List ByteArray,cp_ (dbT env t)=cp_ t:=by
 induction t using Ty.ind with
 | h t ih =>
  intro hs env
  by_cases h5:t.kind=5
  ·rw[cf_ _ _ h5,cI_,cI_ t,h5]
   show _+fu_ (t.args.map _)=_;rw[kn_ _ _ fun a ha=>ih a ha (hs.args a ha) _];rfl
  ·by_cases h1:t.kind=1
   ·rw[cH_ _ _ h1,cI_ t,(hs.k1 h1).2,h1]
    unfold e4_;cases ixN env t.name<;>rfl
   ·rw[bT_ _ _ h1 h5,cI_,cI_ t]
    show _+fu_ (t.args.map _)=_;rw[kn_ _ _ fun a ha=>ih a ha (hs.args a ha) _];rfl
theorem kf_ {p:Ty→Bool}(hp:oC_ p){t:Ty}(h:p (iE_ t)=true):1≤cp_ t:=by
 rw[cI_]
 rcases hp (iE_ t) h with h|h<;>(have h:t.kind=_:=h;rw[h,if_neg (by decide)];omega)
theorem oO_ (f:Ty→Ty)(ts:List Ty)(c:Nat)(h:∀ t∈ts,cp_ (f t)≤cp_ t*c):fu_ (ts.map f)≤fu_ ts*c:=by
 induction ts with
 | nil=>simp[fu_]
 | cons t ts ih =>
  rw[List.map_cons,fu_,fu_,Nat.add_mul];have:=h t (by simp);have:=ih fun u hu=>h u (by simp[hu]);omega
theorem qV_ (p:Ty→Bool)(hp:oC_ p)(U:Ty):∀ t:Ty,cp_ (sbT p U t)≤cp_ t*max 1 (cp_ U):=by
 intro t
 induction t using Ty.ind with
 | h t ih =>
  rw[hc_]
  split
  ·next h =>
   have h1:=kf_ hp h;have h2:1*max 1 (cp_ U)≤cp_ t*max 1 (cp_ U):=Nat.mul_le_mul_right _ h1;omega
  ·have h1:=oO_ (sbT p U) t.args _ ih
   rw[cI_,cI_ t,Nat.add_mul];show (if t.kind=3∨t.kind=4∨t.kind=5 then 0 else 1)+fu_ (t.args.map (sbT p U))≤_
   split<;>omega
theorem lT_ (f:Ty→Ty)(ts:List Ty)(c:Nat)(h:∀ t∈ts,(f t).size≤t.size+cp_ t*c):aw_ (ts.map f)≤aw_ ts+fu_ ts*c:=by
 induction ts with
 | nil=>simp[aw_]
 | cons t ts ih =>
  rw[List.map_cons,aw_,aw_,fu_,Nat.add_mul];have:=h t (by simp);have:=ih fun u hu=>h u (by simp[hu]);omega
theorem nP_ (p:Ty→Bool)(hp:oC_ p)(U:Ty):∀ t:Ty,(sbT p U t).size≤t.size+cp_ t*U.size:=by
 intro t
 induction t using Ty.ind with
 | h t ih =>
  rw[hc_]
  split
  ·next h =>
   have h2:=Nat.mul_le_mul_right U.size (kf_ hp h);omega
  ·have h1:=lT_ (sbT p U) t.args _ ih
   rw[Ty.size_eq,t.size_eq,cI_ t,Nat.add_mul];show aw_ (t.args.map (sbT p U))+1≤_;omega
theorem ks_ (nm:ByteArray)(u t:Ty)(ht:Std t)(hu:Std u):cp_ (ep_ nm u t)≤cp_ t*max 1 (cp_ u):=by
 have h:=qV_ (gI_ nm) (ke_ nm) (dbT [] u) (dbT [] t);rwa [← gP_ nm u t ht,km_ _ (eP_ nm u t ht hu),km_ _ ht,km_ _ hu] at h
theorem lx_ (nm:ByteArray)(u t:Ty)(ht:Std t)(hu:Std u):(ep_ nm u t).size≤t.size+cp_ t*u.size:=by
 have h:=nP_ (gI_ nm) (ke_ nm) (dbT [] u) (dbT [] t);rwa [← gP_ nm u t ht,fB_ _ (eP_ nm u t ht hu),fB_ _ ht,km_ _ ht,fB_ _ hu] at h
theorem mW_:∀ {l m:List ByteArray},l.Nodup→(∀ x∈l,x∈m)→l.length≤m.length:=by
 intro l
 induction l with
 | nil=>intro m _ _;simp
 | cons x l ih =>
  intro m hn h;rw[List.nodup_cons] at hn;obtain⟨a,b,rfl⟩:=List.append_of_mem (h x (by simp));have:=ih (m:=a++b) hn.2 fun y hy=>by
   have hm:=h y (by simp[hy]);have hne:y≠x:=fun e=>hn.1 (e ▸ hy);simp only[List.mem_append,List.mem_cons] at hm ⊢
   rcases hm with hm|hm|hm
   ·exact .inl hm
   ·exact absurd hm hne
   ·exact .inr hm
  simp only[List.length_append,List.length_cons] at this ⊢;omega
theorem kB_:∀ (t:Ty) (out ns:List ByteArray),out.Nodup→(cK_ ap_ t out ns).Nodup:=by
 intro t
 induction t using Ty.ind with
 | h t ih =>
  intro out ns hn;have hs:(ap_ out t ns).Nodup:=by
   unfold ap_
   split
   ·next h =>
    simp only[Bool.and_eq_true,Bool.not_eq_true',dn_] at h;rw[List.nodup_append];exact⟨hn,by simp,fun a ha b hb=>by rw[List.mem_singleton.1 hb];exact fun e=>h.2 (e ▸ ha)⟩
   ·exact hn
  have hl:∀ (l:List Ty) (out ns:List ByteArray),(∀ a∈l,∀ (out ns:List ByteArray),out.Nodup→(cK_ ap_ a out ns).Nodup)→out.Nodup→(b1_ ap_ l out ns).Nodup:=by
   intro l
   induction l with
   | nil=>intro out ns _ h;exact h
   | cons a l ihl=>intro out ns h hn;rw[b1_];exact ihl _ _ (fun b hb=>h b (by simp[hb])) (h a (by simp) _ _ hn)
  rw[dd_];exact hl _ _ _ ih hs
theorem gK_ (t:Ty):(aJ_ t).Nodup:=kB_ t [] [] List.nodup_nil
def fsz (t:Ty):Nat:=(aJ_ t).length
theorem m7_ {t:Ty}{m:List ByteArray}(h:∀ x,fvT x t→x∈m):fsz t≤m.length:=mW_ (gK_ t) fun x hx=>h x ((b8_ x t).1 hx)
theorem qM_ (x:ByteArray):∀ (t:Ty) (env:List ByteArray),Std t→fvT x t→x∉env→¬ noP (gI_ x) (dbT env t):=by
 intro t
 induction t using Ty.ind with
 | h t ih =>
  intro env hs h hx hno
  rcases (a1_ x t).1 h with ⟨h1,h2⟩|⟨⟨a,ha,hf⟩,hn⟩
  ·rw[cH_ _ _ h1,h2] at hno
   unfold e4_ at hno;rw[(fl_ _ _).2 hx] at hno;have:=((gF_ _ _).1 hno).1;simp only[iE_,Ty.kind,Ty.name,ef_,(aN_ x x).2 rfl] at this;cases this
  ·by_cases h5:t.kind=5
   ·rw[cf_ _ _ h5,eV_] at hno
    exact ih a ha (t.name :: env) (hs.args a ha) hf (by simp only[List.mem_cons,not_or];exact⟨fun e=>hn ⟨h5,e.symm⟩,hx⟩) (hno.2 _ (List.mem_map_of_mem ha))
   ·by_cases h1:t.kind=1
    ·rw[(hs.k1 h1).2] at ha;cases ha
    ·rw[bT_ _ _ h1 h5,eV_] at hno
     exact ih a ha env (hs.args a ha) hf hx (hno.2 _ (List.mem_map_of_mem ha))
theorem q9_ (p q:Ty→Bool)(U:Ty)(hU:noP p U):∀ t:Ty,noP p t→noP p (sbT q U t):=by
 intro t
 induction t using Ty.ind with
 | h t ih =>
  intro h;rw[hc_]
  split
  ·exact hU
  ·rw[eV_]
   refine⟨((gF_ _ _).1 h).1,fun a ha=>?_⟩;obtain⟨b,hb,rfl⟩:=List.mem_map.1 ha;exact ih b hb (((gF_ _ _).1 h).2 b hb)
theorem pv_ (nm:ByteArray)(u t:Ty)(ht:Std t)(hu:Std u)(x:ByteArray)(h:fvT x (ep_ nm u t)):fvT x u∨(fvT x t∧x≠nm):=by
 have h1:=qM_ x _ [] (eP_ nm u t ht hu) h (by simp);rw[gP_ nm u t ht] at h1
 by_cases hxu:fvT x u
 ·exact .inl hxu
 ·right
  have hU:=kc_ x u [] hu (.inl hxu)
  constructor
  ·exact Classical.byContradiction fun hxt=>h1 (q9_ _ _ _ hU _ (kc_ x t [] ht (.inl hxt)))
  ·rintro rfl
   exact h1 (no_sb _ _ _ hU _ fun _ _ _ h=>h)
theorem oK_ {a u:Ty}{b:Ty}(hb:a.args=[b])(hs:Std b)(hu:Std u):fsz (ep_ a.name u b)≤fsz a+fsz u:=by
 have:=m7_ (t:=ep_ a.name u b) (m:=aJ_ a++aJ_ u) fun x hx=>by
  rw[List.mem_append,b8_,b8_]
  rcases pv_ a.name u b hs hu x hx with h|h
  ·exact .inr h
  ·exact .inl ((a1_ x a).2 (.inr ⟨⟨b,by rw[hb];simp,h.1⟩,fun e=>h.2 e.2.symm⟩))
 rw[List.length_append] at this;exact this
def ri_:List Ty→Nat
 | []=>0
 | t :: ts=>fsz t+ri_ ts
theorem rh_ (k:Int)(s:ByteArray)(n:Int)(ts:List Ty)(hk:k≠1):fsz (.mk k s n ts)≤ri_ ts:=by
 have h:∀ l:List Ty,(l.flatMap aJ_).length=ri_ l:=by
  intro l
  induction l with
  | nil=>rfl
  | cons t ts ih=>rw[List.flatMap_cons,List.length_append,ih];rfl
 rw[← h];refine m7_ fun x hx=>?_
 rcases (a1_ x _).1 hx with h|h
 ·exact absurd h.1 hk
 ·obtain⟨⟨a,ha,hf⟩,_⟩:=h
  exact List.mem_flatMap.2 ⟨a,ha,(b8_ x a).2 hf⟩
theorem qh_ {t a:Ty}(hk:t.kind≠5)(ha:a∈t.args):fsz a≤fsz t :=
 mW_ (gK_ a) fun x hx=>(b8_ x t).2 ((a1_ x t).2 (.inr ⟨⟨a,ha,(b8_ x a).1 hx⟩,fun e=>hk e.1⟩))
theorem jC_:∀ (t:Ty) (out ns:List ByteArray),(cK_ ap_ t out ns).length≤out.length+cp_ t:=by
 intro t
 induction t using Ty.ind with
 | h t ih =>
  intro out ns;have hs:(ap_ out t ns).length≤out.length+(if t.kind=3∨t.kind=4∨t.kind=5 then 0 else 1):=by
   unfold ap_
   split
   ·next h =>
    simp only[Bool.and_eq_true,beq_iff_eq] at h;rw[if_neg (by rw[h.1.1];decide)];simp
   ·omega
  have hl:∀ (l:List Ty) (out ns:List ByteArray),(∀ a∈l,∀ (out ns:List ByteArray),(cK_ ap_ a out ns).length≤out.length+cp_ a)→(b1_ ap_ l out ns).length≤out.length+fu_ l:=by
   intro l
   induction l with
   | nil=>intro out ns _;simp[b1_,fu_]
   | cons a l ihl =>
    intro out ns h;rw[b1_,fu_];have:=ihl (cK_ ap_ a out ns) ns fun b hb=>h b (by simp[hb]);have:=h a (by simp) out ns;omega
  have:=hl t.args (ap_ out t ns) (if t.kind=5 then t.name :: ns else ns) ih;rw[dd_,cI_];omega
theorem jz_ (t:Ty):fsz t≤cp_ t:=by have:=jC_ t [] [];simpa [fsz,aJ_] using this
def Ok (t:Ty):Prop:=Std t∧cM_ t
theorem Ok.args {t:Ty}(h:Ok t):∀ a∈t.args,Ok a:=fun a ha=>⟨h.1.args a ha,co_ h.2 a ha⟩
theorem q6_ {k:Int}{s:ByteArray}{n:Int}{ts:List Ty}(hk:rE_ (.mk k s n ts))(h5:k=5→1≤s.size)(hs:s.size≤64)(h:∀ a∈ts,Ok a):Ok (.mk k s n ts):=by
 refine⟨(bW_ _).2 ⟨hk,fun a ha=>(h a ha).1⟩,(bg_ _).2 ⟨?_,fun a ha=>(h a ha).2.1⟩,(c9_ _).2 ⟨⟨h5,hs⟩,fun a ha=>(h a ha).2.2⟩⟩
 rcases hk with h|h|h|h|h
 ·exact .inl ⟨h.1,h.2.2⟩
 ·exact .inr (.inl ⟨h.1,h.2.2.1,h.2.2.2⟩)
 ·exact .inr (.inr (.inl h.1))
 ·exact .inr (.inr (.inr (.inl ⟨h.1,h.2.2.2⟩)))
 ·exact .inr (.inr (.inr (.inr ⟨h.1,h.2.2⟩)))
theorem pn_ {s:ByteArray}(h:s.size≤64):Ok (fW_ s):=q6_ (.inl ⟨rfl,rfl,rfl⟩) (fun e=>absurd e (by decide)) h fun a ha=>by cases ha
theorem po_ (nm:ByteArray){u t:Ty}(ht:Ok t)(hu:Ok u)(hs:t.size≤50000000000)(hs':u.size≤50000000000):Ok (ep_ nm u t):=⟨eP_ nm u t ht.1 hu.1,ny_ nm u t ht.2 hu.2 hs hs'⟩
def WfK (c:Co):Prop:=c.name.size≤64∧c.kids.length≤4000∧((c.kind=1∧c.kids.length=0)∨(c.kind=2∧c.kids.length=0∧Ok c.t)∨(c.kind=3∧c.kids.length=1)∨(c.kind=4∧c.kids.length=2)∨c.kind=5∨(c.kind=6∧c.kids.length=2)∨(c.kind=7∧c.kids.length=1)∨(c.kind=8∧c.kids.length=1∧0≤c.n∧c.n<1000000000)∨(c.kind=9∧c.kids.length=1∧Ok c.t))
mutual
def WfC:Co→Prop
 | .mk k s n t ks=>WfK (.mk k s n t ks)∧rs_ ks
def rs_:List Co→Prop
 | []=>True
 | c :: cs=>WfC c∧rs_ cs
end
theorem oZ_ (ks:List Co):rs_ ks↔∀ c∈ks,WfC c:=by
 induction ks with
 | nil=>simp[rs_]
 | cons c cs ih=>rw[rs_,ih];simp
theorem dQ_ (c:Co):WfC c↔WfK c∧∀ a∈c.kids,WfC a:=by cases c;rw[WfC,oZ_];rfl
theorem WfC.k {c:Co}(h:WfC c):WfK c:=((dQ_ c).1 h).1
theorem WfC.kids {c:Co}(h:WfC c):∀ a∈c.kids,WfC a:=((dQ_ c).1 h).2
structure Bd where
 v:Nat
 s:Nat
 f:Nat
def Bd.add (a b:Bd):Bd:=⟨a.v+b.v,a.s+b.s,a.f+b.f⟩
def Bd.sup (a b:Bd):Bd:=⟨max a.v b.v,max a.s b.s,max a.f b.f⟩
def Bd.le (a b:Bd):Prop:=a.v≤b.v∧a.s≤b.s∧a.f≤b.f
mutual
def bdC (q:Nat):Co→Bd
 | .mk k _ _ t ks=>if k=1 then ⟨q,q,q⟩ else if k=2 then ⟨cp_ t,t.size,fsz t⟩
  else if k=3∨k=4∨k=8 then bdM q ks
  else if k=9 then ⟨(bdM q ks).v*max 1 (cp_ t),(bdM q ks).s+(bdM q ks).v*t.size+t.size,(bdM q ks).f+cp_ t⟩
  else ⟨(bdS q ks).v,(bdS q ks).s+1,(bdS q ks).f⟩
def bdM (q:Nat):List Co→Bd
 | []=>⟨0,0,0⟩
 | c :: cs=>(bdC q c).sup (bdM q cs)
def bdS (q:Nat):List Co→Bd
 | []=>⟨0,0,0⟩
 | c :: cs=>(bdC q c).add (bdS q cs)
end
def bd1 (q:Nat)(k:Int)(t:Ty)(m s:Bd):Bd:=if k=1 then ⟨q,q,q⟩ else if k=2 then ⟨cp_ t,t.size,fsz t⟩
  else if k=3∨k=4∨k=8 then m
  else if k=9 then ⟨m.v*max 1 (cp_ t),m.s+m.v*t.size+t.size,m.f+cp_ t⟩
  else ⟨s.v,s.s+1,s.f⟩
theorem ez_ (q:Nat)(c:Co):bdC q c=bd1 q c.kind c.t (bdM q c.kids) (bdS q c.kids):=by cases c;rfl
theorem Bd.le.refl (a:Bd):a.le a:=⟨az_ _,az_ _,az_ _⟩
theorem Bd.le.trans {a b c:Bd}(h:a.le b)(g:b.le c):a.le c:=⟨bc_ h.1 g.1,bc_ h.2.1 g.2.1,bc_ h.2.2 g.2.2⟩
theorem pj_ {a b c d:Bd}(h:a.le c)(g:b.le d):(a.sup b).le (c.sup d):=by
 obtain⟨h1,h2,h3⟩:=h;obtain⟨g1,g2,g3⟩:=g;refine⟨?_,?_,?_⟩<;>(simp only[Bd.sup];omega)
theorem px_ {a b c d:Bd}(h:a.le c)(g:b.le d):(a.add b).le (c.add d):=by
 obtain⟨h1,h2,h3⟩:=h;obtain⟨g1,g2,g3⟩:=g;refine⟨?_,?_,?_⟩<;>(simp only[Bd.add];omega)
theorem kp_ {q:Nat}{k:Int}{t t':Ty}{m s m' s':Bd}(h1:cp_ t'≤cp_ t)(h2:t'.size≤t.size)(h3:fsz t'≤fsz t)(hm:m'.le m)(hs:s'.le s):(bd1 q k t' m' s').le (bd1 q k t m s):=by
 obtain⟨a1,a2,a3⟩:=hm;obtain⟨b1,b2,b3⟩:=hs;unfold bd1
 split
 ·exact .refl _
 ·split
  ·exact⟨h1,h2,h3⟩
  ·split
   ·exact⟨a1,a2,a3⟩
   ·split
    ·refine⟨Nat.mul_le_mul a1 (by omega),?_,?_⟩
     ·have:=Nat.mul_le_mul a1 h2
      show m'.s+m'.v*t'.size+t'.size≤m.s+m.v*t.size+t.size;omega
     ·show m'.f+cp_ t'≤m.f+cp_ t
      omega
    ·refine⟨b1,?_,b3⟩
     show s'.s+1≤s.s+1;omega
theorem bz_ {q:Nat}{ks:List Co}{a:Co}(h:a∈ks):(bdC q a).le (bdM q ks):=by
 induction ks with
 | nil=>cases h
 | cons c cs ih =>
  rw[bdM]
  rcases List.mem_cons.1 h with rfl|h
  ·exact⟨Nat.le_max_left _ _,Nat.le_max_left _ _,Nat.le_max_left _ _⟩
  ·exact (ih h).trans ⟨Nat.le_max_right _ _,Nat.le_max_right _ _,Nat.le_max_right _ _⟩
theorem rq_ (q:Nat)(ks:List Co):(bdM q ks).le (bdS q ks):=by
 induction ks with
 | nil=>exact .refl _
 | cons c cs ih =>
  obtain⟨a,b,d⟩:=ih;rw[bdM,bdS];refine⟨?_,?_,?_⟩<;>(simp only[Bd.add,Bd.sup];omega)
theorem gT_ (q:Nat)(c:Co)(h1:c.kind≠1)(h2:c.kind≠2):(bdM q c.kids).le (bdC q c):=by
 rw[ez_];unfold bd1;rw[if_neg h1,if_neg h2];have hS:=rq_ q c.kids
 split
 ·exact .refl _
 ·split
  ·refine⟨?_,?_,?_⟩
   ·have:=Nat.mul_le_mul_left (bdM q c.kids).v (Nat.le_max_left 1 (cp_ c.t))
    show _≤(bdM q c.kids).v*max 1 (cp_ c.t);omega
   ·show _≤(bdM q c.kids).s+(bdM q c.kids).v*c.t.size+c.t.size;omega
   ·show _≤(bdM q c.kids).f+cp_ c.t;omega
  ·exact⟨hS.1,Nat.le_succ_of_le hS.2.1,hS.2.2⟩
theorem pP_ {q:Nat}{fr to:ByteArray}{ks:List Co}(h:∀ c∈ks,(bdC q (cd_ fr to c)).le (bdC q c)):(bdM q (ks.map (cd_ fr to))).le (bdM q ks)∧(bdS q (ks.map (cd_ fr to))).le (bdS q ks):=by
 induction ks with
 | nil=>exact⟨.refl _,.refl _⟩
 | cons c cs ih =>
  have h1:=h c (by simp);have h2:=ih fun a ha=>h a (by simp[ha]);rw[List.map_cons,bdM,bdM,bdS,bdS];exact⟨pj_ h1 h2.1,px_ h1 h2.2⟩
theorem na_ (f:Co→Co)(ts:List Co)(h:∀ t∈ts,(f t).deep=t.deep):br_ (ts.map f)=br_ ts:=by
 induction ts with
 | nil=>rfl
 | cons t ts ih=>rw[List.map_cons,br_,br_,h t (by simp),ih fun u hu=>h u (by simp[hu])]
theorem lt_ (f:Co→Co)(ts:List Co)(h:∀ t∈ts,aP_ (f t)=aP_ t):aZ_ (ts.map f)=aZ_ ts:=by
 induction ts with
 | nil=>rfl
 | cons t ts ih=>rw[List.map_cons,aZ_,aZ_,h t (by simp),ih fun u hu=>h u (by simp[hu])]
theorem mn_ (fr to:ByteArray)(c:Co):(cd_ fr to c).deep=c.deep∧aP_ (cd_ fr to c)=aP_ c:=by
 induction c using Co.ind with
 | h c ih =>
  rw[gy_]
  split
  ·exact⟨rfl,rfl⟩
  ·rw[Co.deep_eq,c.deep_eq,dB_,dB_ c]
   show br_ (c.kids.map (cd_ fr to))+1=_∧aZ_ (c.kids.map (cd_ fr to))+(if c.kind=7 then 1 else 0)=_;rw[na_ _ _ fun a ha=>(ih a ha).1,lt_ _ _ fun a ha=>(ih a ha).2];exact⟨rfl,rfl⟩
theorem f8_ (s:ByteArray):(fW_ s).size=1∧cp_ (fW_ s)=1:=⟨rfl,rfl⟩
theorem WfC.ok {c:Co}(h:WfC c)(hk:c.kind=2∨c.kind=9):Ok c.t:=by
 obtain⟨_,_,h⟩:=h.k
 rcases h with h|h|h|h|h|h|h|h|h
 ·omega
 ·exact h.2.2
 ·omega
 ·omega
 ·omega
 ·omega
 ·omega
 ·omega
 ·exact h.2.2
theorem WfC.k0 {c:Co}(h:WfC c){a:Co}(ha:a∈c.kids):c.kind≠1∧c.kind≠2:=by
 have:0<c.kids.length:=List.length_pos_iff.2 fun e=>by rw[e] at ha;cases ha
 obtain⟨_,_,h⟩:=h.k;omega
theorem qg_ (fr to:ByteArray)(t:Ty)(ht:Std t)(hv:Std (fW_ to)):fsz (ep_ fr (fW_ to) t)≤fsz t:=by
 by_cases hf:fvT fr t
 ·have hm:fr∈aJ_ t:=(b8_ fr t).2 hf
  have h1:=m7_ (t:=ep_ fr (fW_ to) t) (m:=to :: (aJ_ t).filter fun x=>!eqN x fr) fun x hx=>by
   rcases pv_ fr (fW_ to) t ht hv x hx with h|h
   ·rcases (a1_ x _).1 h with h|⟨⟨a,ha,_⟩,_⟩
    ·rw[← h.2];exact List.mem_cons_self
    ·cases ha
   ·exact List.mem_cons_of_mem _ (List.mem_filter.2 ⟨(b8_ x t).2 h.1,by rw[Bool.not_eq_true'];exact Bool.eq_false_iff.2 fun e=>h.2 ((aN_ x fr).1 e)⟩)
  have h2:((aJ_ t).filter fun x=>!eqN x fr).length<(aJ_ t).length:=List.length_filter_lt_length_iff_exists.2 ⟨fr,hm,by simp[(aN_ fr fr).2 rfl]⟩;rw[List.length_cons] at h1;show _≤(aJ_ t).length;omega
 ·have e:dbT [] (ep_ fr (fW_ to) t)=dbT [] t:=by rw[gP_ fr (fW_ to) t ht,pL_ _ _ _ (kc_ fr t [] ht (.inl hf))]
  unfold fsz;rw[jA_ _ (eP_ fr (fW_ to) t ht hv),e,← jA_ t ht];exact az_ _
theorem k1_ (q:Nat)(fr to:ByteArray)(hto:to.size≤64)(c:Co):WfC c→(bdC q c).s≤50000000000→WfC (cd_ fr to c)∧(bdC q (cd_ fr to c)).le (bdC q c):=by
 induction c using Co.ind with
 | h c ih =>
  intro hw hb;rw[gy_]
  split
  ·exact⟨hw,.refl _⟩
  ·next h7 =>
   have hkid:∀ a∈c.kids,WfC (cd_ fr to a)∧(bdC q (cd_ fr to a)).le (bdC q a):=fun a ha=>ih a ha (hw.kids a ha) (by
    have h0:=hw.k0 ha;exact bc_ ((bz_ ha).trans (gT_ q c h0.1 h0.2)).2.1 hb)
   have hL:=pP_ fun a ha=>(hkid a ha).2;have ht:(c.kind=2∨c.kind=9)→Ok (ep_ fr (fW_ to) c.t)∧cp_ (ep_ fr (fW_ to) c.t)≤cp_ c.t∧(ep_ fr (fW_ to) c.t).size≤c.t.size∧fsz (ep_ fr (fW_ to) c.t)≤fsz c.t:=fun hk=>by
    have ho:=hw.ok hk;have hv:=pn_ hto;have hs:c.t.size≤50000000000:=by
     rw[ez_] at hb;unfold bd1 at hb
     rcases hk with hk|hk
     ·rw[hk] at hb;simpa using hb
     ·rw[hk] at hb
      simp only[if_neg (show ¬ (9:Int)=1 by decide),if_neg (show ¬ (9:Int)=2 by decide),if_neg (show ¬ ((9:Int)=3∨(9:Int)=4∨(9:Int)=8) by decide),if_true] at hb;omega
    have h1:=ks_ fr (fW_ to) c.t ho.1 hv.1;have h2:=nx_ fr (fW_ to) c.t ho.1 hv.1;rw[(f8_ to).2] at h1;rw[(f8_ to).1] at h2;exact⟨po_ fr ho hv hs (by rw[(f8_ to).1];omega),by simpa using h1,by simpa using h2,qg_ fr to c.t ho.1 hv.1⟩
   refine⟨(dQ_ _).2 ⟨?_,fun a ha=>?_⟩,?_⟩
   ·obtain⟨k1,k2,k3⟩:=hw.k
    refine⟨k1,by show (c.kids.map _).length≤_;rw[List.length_map];exact k2,?_⟩;show ((c.kind=1∧(c.kids.map _).length=0)∨(c.kind=2∧(c.kids.map _).length=0∧Ok (if c.kind=2∨c.kind=9 then ep_ fr (fW_ to) c.t else c.t))∨(c.kind=3∧(c.kids.map _).length=1)∨(c.kind=4∧(c.kids.map _).length=2)∨c.kind=5∨(c.kind=6∧(c.kids.map _).length=2)∨(c.kind=7∧(c.kids.map _).length=1)∨(c.kind=8∧(c.kids.map _).length=1∧0≤c.n∧c.n<1000000000)∨(c.kind=9∧(c.kids.map _).length=1∧Ok (if c.kind=2∨c.kind=9 then ep_ fr (fW_ to) c.t else c.t)));rw[List.length_map]
    rcases k3 with h|h|h|h|h|h|h|h|h
    ·exact .inl h
    ·exact .inr (.inl ⟨h.1,h.2.1,by rw[if_pos (.inl h.1)];exact (ht (.inl h.1)).1⟩)
    ·exact .inr (.inr (.inl h))
    ·exact .inr (.inr (.inr (.inl h)))
    ·exact .inr (.inr (.inr (.inr (.inl h))))
    ·exact .inr (.inr (.inr (.inr (.inr (.inl h)))))
    ·exact .inr (.inr (.inr (.inr (.inr (.inr (.inl h))))))
    ·exact .inr (.inr (.inr (.inr (.inr (.inr (.inr (.inl h)))))))
    ·exact .inr (.inr (.inr (.inr (.inr (.inr (.inr (.inr ⟨h.1,h.2.1,by rw[if_pos (.inr h.1)];exact (ht (.inr h.1)).1⟩)))))))
   ·obtain⟨b,hb',rfl⟩:=List.mem_map.1 ha
    exact (hkid b hb').1
   ·rw[ez_,ez_ q c]
    refine kp_ ?_ ?_ ?_ hL.1 hL.2
    ·show cp_ (if c.kind=2∨c.kind=9 then ep_ fr (fW_ to) c.t else c.t)≤_
     split
     ·next hk=>exact (ht hk).2.1
     ·exact az_ _
    ·show (if c.kind=2∨c.kind=9 then ep_ fr (fW_ to) c.t else c.t).size≤_
     split
     ·next hk=>exact (ht hk).2.2.1
     ·exact az_ _
    ·show fsz (if c.kind=2∨c.kind=9 then ep_ fr (fW_ to) c.t else c.t)≤_
     split
     ·next hk=>exact (ht hk).2.2.2
     ·exact az_ _
end
end Go.Proofs.YtkihnodkhnahiaaGreatDoor.Tp

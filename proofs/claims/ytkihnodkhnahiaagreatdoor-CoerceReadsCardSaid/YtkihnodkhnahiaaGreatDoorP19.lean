/- Packed. -/
import Derived.Test.YtkihnodkhnahiaaGreatDoorP17
import Derived.Test.YtkihnodkhnahiaaGreatDoorP18
set_option maxRecDepth 100000
set_option maxHeartbeats 6400000
namespace Go.Proofs.YtkihnodkhnahiaaGreatDoor.Tp
section
def e0:ByteArray:=⟨#[]⟩
def tz:Ty:=.mk 0 e0 0 []
def gs_ (n:Int)(l r:Ty):Option (Ty × Ty) :=
 if l.kind=r.kind∧(l.kind=4∨l.kind=3∧l.name=r.name∧l.args.length=r.args.length)∧n<l.args.length then some (l.args.getD n.toNat tz,r.args.getD n.toNat tz) else none
end
section
open Lx
inductive Co where
 | mk (kind:Int) (name:ByteArray) (n:Int) (t:Ty) (kids:List Co):Co
def Co.kind:Co→Int | .mk k _ _ _ _=>k
def Co.name:Co→ByteArray | .mk _ s _ _ _=>s
def Co.n:Co→Int | .mk _ _ n _ _=>n
def Co.t:Co→Ty | .mk _ _ _ t _=>t
def Co.kids:Co→List Co | .mk _ _ _ _ ks=>ks
theorem Co.ind {P:Co→Prop}(h:∀ c,(∀ a∈c.kids,P a)→P c)(c:Co):P c :=
 Co.rec (motive_1:=P) (motive_2:=fun cs=>∀ a∈cs,P a) (fun k s n t ks ih=>h (.mk k s n t ks) ih) (fun a ha=>by cases ha)
  (fun t ts iht ihs a ha=>by
   rcases List.mem_cons.1 ha with rfl|ha
   ·exact iht
   ·exact ihs a ha) c
theorem sE_ (c:Co):Co.mk c.kind c.name c.n c.t c.kids=c:=by cases c;rfl
mutual
def Co.deep:Co→Nat
 | .mk _ _ _ _ ks=>bl_ ks+1
def bl_:List Co→Nat
 | []=>0
 | c :: cs=>max c.deep (bl_ cs)
end
theorem Co.deep_eq (c:Co):c.deep=bl_ c.kids+1:=by cases c;simp[Co.deep,Co.kids]
theorem c9_ (a b:List Co):bl_ (a++b)=max (bl_ a) (bl_ b):=by
 induction a with
 | nil=>simp[bl_]
 | cons t ts ih=>simp[bl_,ih,Nat.max_assoc]
theorem f9_ (ts:List Co)(i:Nat)(h:i<ts.length):bl_ (ts.take (i+1))=max (bl_ (ts.take i)) ts[i].deep:=by
 rw[List.take_add_one,List.getElem?_eq_getElem h,c9_];simp[bl_]
theorem e3_ (ts:List Co){a:Co}(h:a∈ts):a.deep≤bl_ ts:=by
 induction ts with
 | nil=>cases h
 | cons t ts ih =>
  rw[bl_]
  rcases List.mem_cons.1 h with rfl|h
  ·omega
  ·have:=ih h;omega
mutual
def Co.tdep:Co→Nat
 | .mk k _ _ t ks=>max (if k=2∨k=9 then t.depth else 0) (bz_ ks)
def bz_:List Co→Nat
 | []=>0
 | c :: cs=>max c.tdep (bz_ cs)
end
def cE_ (c:Co):Nat:=if c.kind=2∨c.kind=9 then c.t.depth else 0
theorem Co.tdep_eq (c:Co):c.tdep=max (cE_ c) (bz_ c.kids):=by
 cases c;rw[Co.tdep];rfl
theorem c5_ (a b:List Co):bz_ (a++b)=max (bz_ a) (bz_ b):=by
 induction a with
 | nil=>simp[bz_]
 | cons t ts ih=>simp[bz_,ih,Nat.max_assoc]
theorem fR_ (ts:List Co)(i:Nat)(h:i<ts.length):bz_ (ts.take (i+1))=max (bz_ (ts.take i)) ts[i].tdep:=by
 rw[List.take_add_one,List.getElem?_eq_getElem h,c5_];simp[bz_]
theorem eS_ (ts:List Co){a:Co}(h:a∈ts):a.tdep≤bz_ ts:=by
 induction ts with
 | nil=>cases h
 | cons t ts ih =>
  rw[bz_]
  rcases List.mem_cons.1 h with rfl|h
  ·omega
  ·have:=ih h;omega
def lts:List UInt8:=[60]
def gts:List UInt8:=[62]
def sS_:List UInt8:=[83,121,109]
def kF_:List UInt8:=[84,114,97,110,115]
def sU_:List UInt8:=[67,111,110]
def sT_:List UInt8:=[70,117,110]
def sV_:List UInt8:=[65,108,108]
def wNth:List UInt8:=[78,116,104]
def qJ_:List UInt8:=[73,110,115,116]
def aP_ (k:Int):List UInt8:=if k=3 then sS_ else if k=4 then kF_ else if k=5 then sU_ else if k=6 then sT_ else if k=7 then sV_ else if k=8 then wNth else qJ_
def ay_ (s:List UInt8):Nat:=if s=sS_ then 3 else if s=kF_ then 4 else if s=sU_ then 5 else if s=sT_ then 6 else if s=sV_ then 7 else if s=wNth then 8 else if s=qJ_ then 9 else 0
def dZ_ (l:List Tok):Option (Ty × List Tok) :=
 if st l 6 lts then (match eo_ l.tail with
  | none=>none
  | some (t,r)=>if st r 6 gts then some (t,r.tail) else none) else none
structure oJ_ where
 k:Nat
 nm:ByteArray
 n:Nat
 m:Nat
 l:List Tok
def bo_ (l:List Tok):Option oJ_ :=
 if sk l 2 then
  if ay_ (ab_ l)=0 then none
  else if ay_ (ab_ l)=5 then (if sk l.tail 2 then some ⟨5,aa_ (ab_ l.tail),0,0,l.tail.tail⟩ else none)
  else if ay_ (ab_ l)=7 then (if sk l.tail 1 then some ⟨7,aa_ (ab_ l.tail),0,1,l.tail.tail⟩ else none)
  else if ay_ (ab_ l)=8 then (if sk l.tail 4 then some ⟨8,e0,dw_ (ab_ l.tail),1,l.tail.tail⟩ else none)
  else some ⟨ay_ (ab_ l),e0,0,if ay_ (ab_ l)=4∨ay_ (ab_ l)=6 then 2 else 1,l.tail⟩
 else none
mutual
def coF:Nat→List Tok→Option (Co × List Tok)
 | 0,_=>none
 | n+1,l =>
  if st l 6 lts then (match dZ_ l with
   | none=>none
   | some (t,r)=>some (.mk 2 e0 0 t [],r))
  else if st l 6 bX_ then (match a1_ n l.tail with
   | none=>none
   | some (c,r)=>if st r 6 bB_ then some (c,r.tail) else none)
  else if sk l 1 then some (.mk 1 (aa_ (ab_ l)) 0 tz [],l.tail) else none
def a1_:Nat→List Tok→Option (Co × List Tok)
 | 0,_=>none
 | n+1,l=>match bo_ l with
  | none=>none
  | some h=>if h.k=5 then (match fJ_ n [] h.l with
    | none=>none
    | some (ks,r)=>some (.mk 5 h.nm 0 tz ks,r))
   else match bg_ n h.m [] h.l with
    | none=>none
    | some (ks,r)=>if h.k=9 then (match dZ_ r with
      | none=>none
      | some (t,r')=>some (.mk 9 h.nm h.n t ks,r'))
     else some (.mk h.k h.nm h.n tz ks,r)
def fJ_:Nat→List Co→List Tok→Option (List Co × List Tok)
 | 0,_,_=>none
 | n+1,acc,l=>if l.isEmpty || st l 6 bB_ then some (acc,l) else match coF n l with
  | none=>none
  | some (x,r)=>fJ_ n (acc++[x]) r
def bg_:Nat→Nat→List Co→List Tok→Option (List Co × List Tok)
 | 0,_,_,_=>none
 | _+1,0,acc,l=>some (acc,l)
 | n+1,m+1,acc,l=>match coF n l with
  | none=>none
  | some (x,r)=>bg_ n m (acc++[x]) r
end
def fk_ (l:List Tok):Option (Co × List Tok):=coF (4*l.length+4) l
def aY_ (s:List UInt8):Except Nat Co :=
 if (bI_ s).2.2≠0 then .error (bI_ s).2.2
 else match fk_ (bI_ s).1 with
  | none=>.error 50
  | some (c,r)=>if r≠[] then .error 50 else if 50<c.deep∨50<c.tdep then .error 3 else .ok c
mutual
def an_:Co→List UInt8
 | .mk k s n t ks=>if k=1 then s.data.toList else if k=2 then 60 :: ae_ t++[62]
  else 40 :: (aP_ k++(if k=5∨k=7 then 32 :: s.data.toList else if k=8 then 32 :: Lib.itoa n else [])++bn_ ks++(if k=9 then 32 :: 60 :: ae_ t++[62] else []))++[41]
def bn_:List Co→List UInt8
 | []=>[]
 | c :: cs=>32 :: an_ c++bn_ cs
end
structure Giv where
 nm:ByteArray
 l:Ty
 r:Ty
def g3_ (g:List Giv)(s:ByteArray):Option (Ty × Ty):=(g.reverse.find? fun x=>eqN x.nm s).map fun x=>(x.l,x.r)
mutual
def aW_:Co→Nat
 | .mk k _ _ _ ks=>a3_ ks+(if k=7 then 1 else 0)
def a3_:List Co→Nat
 | []=>0
 | c :: cs=>max (aW_ c) (a3_ cs)
end
theorem dP_ (c:Co):aW_ c=a3_ c.kids+(if c.kind=7 then 1 else 0):=by cases c;rfl
theorem ev_ (a b:List Co):a3_ (a++b)=max (a3_ a) (a3_ b):=by
 induction a with
 | nil=>simp[a3_]
 | cons t ts ih=>simp[a3_,ih,Nat.max_assoc]
theorem hf_ (ts:List Co)(i:Nat)(h:i<ts.length):a3_ (ts.take (i+1))=max (a3_ (ts.take i)) (aW_ ts[i]):=by
 rw[List.take_add_one,List.getElem?_eq_getElem h,ev_];simp[a3_]
def fB_ (n:Nat):ByteArray:=aa_ (List.replicate n 36)
def b5_ (c:Co):ByteArray:=fB_ (a3_ c.kids+1)
def gc_ (s:ByteArray):Ty:=.mk 1 s 0 []
mutual
def ch_ (fr to:ByteArray):Co→Co
 | .mk k s n t ks=>if k=7∧eqN s fr=true then .mk k s n t ks else .mk k s n (if k=2∨k=9 then ex_ fr (gc_ to) t else t) (ph_ fr to ks)
def ph_ (fr to:ByteArray):List Co→List Co
 | []=>[]
 | c :: cs=>ch_ fr to c :: ph_ fr to cs
end
theorem nf_ (fr to:ByteArray)(ks:List Co):ph_ fr to ks=ks.map (ch_ fr to):=by
 induction ks with
 | nil=>rfl
 | cons c cs ih=>rw[ph_,ih];rfl
theorem gT_ (fr to:ByteArray)(c:Co):ch_ fr to c=if c.kind=7∧eqN c.name fr=true then c else .mk c.kind c.name c.n (if c.kind=2∨c.kind=9 then ex_ fr (gc_ to) c.t else c.t) (c.kids.map (ch_ fr to)):=by
 cases c;rw[ch_,nf_];rfl
def hU_ (c:Co):Co:=c.kids.headD (.mk 0 e0 0 tz [])
def b2_ (c:Co):Co:=if c.kind=7 then .mk 7 (b5_ c) c.n c.t [ch_ c.name (b5_ c) (hU_ c)] else c
def h0 (l:List Ty):Ty:=l.headD tz
def h1 (l:List Ty):Ty:=l.tail.headD tz
def dQ_ (c:Co)(x y:List Ty):Option (Ty × Ty) :=
 if c.kind=3 then some (h0 y,h0 x)
 else if c.kind=4 then (if bi_ (h0 y)=bi_ (h1 x) then some (h0 x,h1 y) else none)
 else if c.kind=5 then some (.mk 3 c.name 0 x,.mk 3 c.name 0 y)
 else if c.kind=6 then some (.mk 4 e0 0 x,.mk 4 e0 0 y)
 else if c.kind=7 then some (.mk 5 c.name 0 x,.mk 5 c.name 0 y)
 else if c.kind=8 then gs_ c.n (h0 x) (h0 y)
 else if (h0 x).kind=5∧(h0 y).kind=5 then some (ex_ (h0 x).name c.t (h0 (h0 x).args),ex_ (h0 y).name c.t (h0 (h0 y).args)) else none
def bs_ (f:Co→Option (Ty × Ty)):List Co→Option (List Ty × List Ty)
 | []=>some ([],[])
 | c :: cs=>match f c with
  | none=>none
  | some p=>match bs_ f cs with
   | none=>none
   | some q=>some (p.1 :: q.1,p.2 :: q.2)
def aB_:Nat→List Giv→Co→Option (Ty × Ty)
 | 0,_,_=>none
 | d+1,g,c=>if c.kind=1 then g3_ g c.name else if c.kind=2 then some (c.t,c.t)
  else match bs_ (aB_ d g) (b2_ c).kids with
   | none=>none
   | some p=>dQ_ (b2_ c) p.1 p.2
def hw_ (g:List Giv)(c:Co):Option (Ty × Ty):=aB_ c.deep g c
mutual
def cv_:Ty→Nat
 | .mk k _ _ args=>(if k=3∨k=4∨k=5 then 0 else 1)+fK_ args
def fK_:List Ty→Nat
 | []=>0
 | t :: ts=>cv_ t+fK_ ts
end
theorem cQ_ (t:Ty):cv_ t=(if t.kind=3∨t.kind=4∨t.kind=5 then 0 else 1)+fK_ t.args:=by cases t;rfl
theorem lh_ (f:Ty→Ty)(ts:List Ty)(h:∀ t∈ts,cv_ (f t)=cv_ t):fK_ (ts.map f)=fK_ ts:=by
 induction ts with
 | nil=>rfl
 | cons t ts ih=>rw[List.map_cons,fK_,fK_,h t (by simp),ih fun u hu=>h u (by simp[hu])]
theorem rC_ (ts:List Ty){a:Ty}(h:a∈ts):cv_ a≤fK_ ts:=by
 induction ts with
 | nil=>cases h
 | cons t ts ih =>
  rw[fK_]
  rcases List.mem_cons.1 h with rfl|h
  ·omega
  ·have:=ih h;omega
theorem iF_ (t:Ty):cv_ t≤t.size:=by
 induction t using Ty.ind with
 | h t ih =>
  have:∀ l:List Ty,(∀ a∈l,cv_ a≤a.size)→fK_ l≤ax_ l:=by
   intro l
   induction l with
   | nil=>intro _;exact aw_ _
   | cons a l ihl =>
    intro h;rw[fK_,ax_];have:=h a (by simp);have:=ihl fun b hb=>h b (by simp[hb]);omega
  have:=this t.args ih;rw[cQ_,t.size_eq]
  split<;>omega
theorem lg_ (t:Ty):Std t→∀ env:List ByteArray,cv_ (dbT env t)=cv_ t:=by
 induction t using Ty.ind with
 | h t ih =>
  intro hs env
  by_cases h5:t.kind=5
  ·rw[cl_ _ _ h5,cQ_,cQ_ t,h5]
   show _+fK_ (t.args.map _)=_;rw[lh_ _ _ fun a ha=>ih a ha (hs.args a ha) _];rfl
  ·by_cases h1:t.kind=1
   ·rw[cP_ _ _ h1,cQ_ t,(hs.k1 h1).2,h1]
    unfold fm_;cases ixN env t.name<;>rfl
   ·rw[b3_ _ _ h1 h5,cQ_,cQ_ t]
    show _+fK_ (t.args.map _)=_;rw[lh_ _ _ fun a ha=>ih a ha (hs.args a ha) _];rfl
theorem k9_ {p:Ty→Bool}(hp:pF_ p){t:Ty}(h:p (jn_ t)=true):1≤cv_ t:=by
 rw[cQ_]
 rcases hp (jn_ t) h with h|h<;>(have h:t.kind=_:=h;rw[h,if_neg (by decide)];omega)
theorem pV_ (f:Ty→Ty)(ts:List Ty)(c:Nat)(h:∀ t∈ts,cv_ (f t)≤cv_ t*c):fK_ (ts.map f)≤fK_ ts*c:=by
 induction ts with
 | nil=>simp[fK_]
 | cons t ts ih =>
  rw[List.map_cons,fK_,fK_,Nat.add_mul];have:=h t (by simp);have:=ih fun u hu=>h u (by simp[hu]);omega
theorem sa_ (p:Ty→Bool)(hp:pF_ p)(U:Ty):∀ t:Ty,cv_ (sbT p U t)≤cv_ t*max 1 (cv_ U):=by
 intro t
 induction t using Ty.ind with
 | h t ih =>
  rw[hG_]
  split
  ·next h =>
   have h1:=k9_ hp h;have h2:1*max 1 (cv_ U)≤cv_ t*max 1 (cv_ U):=Nat.mul_le_mul_right _ h1;omega
  ·have h1:=pV_ (sbT p U) t.args _ ih
   rw[cQ_,cQ_ t,Nat.add_mul];show (if t.kind=3∨t.kind=4∨t.kind=5 then 0 else 1)+fK_ (t.args.map (sbT p U))≤_
   split<;>omega
theorem mS_ (f:Ty→Ty)(ts:List Ty)(c:Nat)(h:∀ t∈ts,(f t).size≤t.size+cv_ t*c):ax_ (ts.map f)≤ax_ ts+fK_ ts*c:=by
 induction ts with
 | nil=>simp[ax_]
 | cons t ts ih =>
  rw[List.map_cons,ax_,ax_,fK_,Nat.add_mul];have:=h t (by simp);have:=ih fun u hu=>h u (by simp[hu]);omega
theorem oV_ (p:Ty→Bool)(hp:pF_ p)(U:Ty):∀ t:Ty,(sbT p U t).size≤t.size+cv_ t*U.size:=by
 intro t
 induction t using Ty.ind with
 | h t ih =>
  rw[hG_]
  split
  ·next h =>
   have h2:=Nat.mul_le_mul_right U.size (k9_ hp h);omega
  ·have h1:=mS_ (sbT p U) t.args _ ih
   rw[Ty.size_eq,t.size_eq,cQ_ t,Nat.add_mul];show ax_ (t.args.map (sbT p U))+1≤_;omega
theorem ln_ (nm:ByteArray)(u t:Ty)(ht:Std t)(hu:Std u):cv_ (ex_ nm u t)≤cv_ t*max 1 (cv_ u):=by
 have h:=sa_ (g5_ nm) (k8_ nm) (dbT [] u) (dbT [] t);rwa [← hd_ nm u t ht,lg_ _ (e7_ nm u t ht hu),lg_ _ ht,lg_ _ hu] at h
theorem mx_ (nm:ByteArray)(u t:Ty)(ht:Std t)(hu:Std u):(ex_ nm u t).size≤t.size+cv_ t*u.size:=by
 have h:=oV_ (g5_ nm) (k8_ nm) (dbT [] u) (dbT [] t);rwa [← hd_ nm u t ht,fT_ _ (e7_ nm u t ht hu),fT_ _ ht,lg_ _ ht,fT_ _ hu] at h
theorem nO_:∀ {l m:List ByteArray},l.Nodup→(∀ x∈l,x∈m)→l.length≤m.length:=by
 intro l
 induction l with
 | nil=>intro m _ _;simp
 | cons x l ih =>
  intro m hn h;rw[List.nodup_cons] at hn;obtain⟨a,b,rfl⟩:=List.append_of_mem (h x (by simp));have:=ih (m:=a++b) hn.2 fun y hy=>by
   have hm:=h y (by simp[hy]);have hne:y≠x:=fun e=>hn.1 (e ▸ hy);simp only[List.mem_append,List.mem_cons] at hm ⊢
   rcases hm with hm|hm|hm
   ·exact .inl hm
   ·exact absurd hm hne
   ·exact .inr hm
  simp only[List.length_append,List.length_cons] at this ⊢;omega
theorem lx_:∀ (t:Ty) (out ns:List ByteArray),out.Nodup→(cT_ ap_ t out ns).Nodup:=by
 intro t
 induction t using Ty.ind with
 | h t ih =>
  intro out ns hn;have hs:(ap_ out t ns).Nodup:=by
   unfold ap_
   split
   ·next h =>
    simp only[Bool.and_eq_true,Bool.not_eq_true',dB_] at h;rw[List.nodup_append];exact⟨hn,by simp,fun a ha b hb=>by rw[List.mem_singleton.1 hb];exact fun e=>h.2 (e ▸ ha)⟩
   ·exact hn
  have hl:∀ (l:List Ty) (out ns:List ByteArray),(∀ a∈l,∀ (out ns:List ByteArray),out.Nodup→(cT_ ap_ a out ns).Nodup)→out.Nodup→(b7_ ap_ l out ns).Nodup:=by
   intro l
   induction l with
   | nil=>intro out ns _ h;exact h
   | cons a l ihl=>intro out ns h hn;rw[b7_];exact ihl _ _ (fun b hb=>h b (by simp[hb])) (h a (by simp) _ _ hn)
  rw[dq_];exact hl _ _ _ ih hs
theorem g7_ (t:Ty):(aK_ t).Nodup:=lx_ t [] [] List.nodup_nil
def fsz (t:Ty):Nat:=(aK_ t).length
theorem n1_ {t:Ty}{m:List ByteArray}(h:∀ x,fvT x t→x∈m):fsz t≤m.length:=nO_ (g7_ t) fun x hx=>h x ((cd_ x t).1 hx)
theorem rZ_ (x:ByteArray):∀ (t:Ty) (env:List ByteArray),Std t→fvT x t→x∉env→¬ noP (g5_ x) (dbT env t):=by
 intro t
 induction t using Ty.ind with
 | h t ih =>
  intro env hs h hx hno
  rcases (a6_ x t).1 h with ⟨h1,h2⟩|⟨⟨a,ha,hf⟩,hn⟩
  ·rw[cP_ _ _ h1,h2] at hno
   unfold fm_ at hno;rw[(fD_ _ _).2 hx] at hno;have:=((g0_ _ _).1 hno).1;simp only[jn_,Ty.kind,Ty.name,es_,(aS_ x x).2 rfl] at this;cases this
  ·by_cases h5:t.kind=5
   ·rw[cl_ _ _ h5,fc_] at hno
    exact ih a ha (t.name :: env) (hs.args a ha) hf (by simp only[List.mem_cons,not_or];exact⟨fun e=>hn ⟨h5,e.symm⟩,hx⟩) (hno.2 _ (List.mem_map_of_mem ha))
   ·by_cases h1:t.kind=1
    ·rw[(hs.k1 h1).2] at ha;cases ha
    ·rw[b3_ _ _ h1 h5,fc_] at hno
     exact ih a ha env (hs.args a ha) hf hx (hno.2 _ (List.mem_map_of_mem ha))
theorem sn_ (p q:Ty→Bool)(U:Ty)(hU:noP p U):∀ t:Ty,noP p t→noP p (sbT q U t):=by
 intro t
 induction t using Ty.ind with
 | h t ih =>
  intro h;rw[hG_]
  split
  ·exact hU
  ·rw[fc_]
   refine⟨((g0_ _ _).1 h).1,fun a ha=>?_⟩;obtain⟨b,hb,rfl⟩:=List.mem_map.1 ha;exact ih b hb (((g0_ _ _).1 h).2 b hb)
theorem qE_ (nm:ByteArray)(u t:Ty)(ht:Std t)(hu:Std u)(x:ByteArray)(h:fvT x (ex_ nm u t)):fvT x u∨(fvT x t∧x≠nm):=by
 have h1:=rZ_ x _ [] (e7_ nm u t ht hu) h (by simp);rw[hd_ nm u t ht] at h1
 by_cases hxu:fvT x u
 ·exact .inl hxu
 ·right
  have hU:=k4_ x u [] hu (.inl hxu)
  constructor
  ·exact Classical.byContradiction fun hxt=>h1 (sn_ _ _ _ hU _ (k4_ x t [] ht (.inl hxt)))
  ·rintro rfl
   exact h1 (no_sb _ _ _ hU _ fun _ _ _ h=>h)
theorem pP_ {a u:Ty}{b:Ty}(hb:a.args=[b])(hs:Std b)(hu:Std u):fsz (ex_ a.name u b)≤fsz a+fsz u:=by
 have:=n1_ (t:=ex_ a.name u b) (m:=aK_ a++aK_ u) fun x hx=>by
  rw[List.mem_append,cd_,cd_]
  rcases qE_ a.name u b hs hu x hx with h|h
  ·exact .inr h
  ·exact .inl ((a6_ x a).2 (.inr ⟨⟨b,by rw[hb];simp,h.1⟩,fun e=>h.2 e.2.symm⟩))
 rw[List.length_append] at this;exact this
def sy_:List Ty→Nat
 | []=>0
 | t :: ts=>fsz t+sy_ ts
theorem sx_ (k:Int)(s:ByteArray)(n:Int)(ts:List Ty)(hk:k≠1):fsz (.mk k s n ts)≤sy_ ts:=by
 have h:∀ l:List Ty,(l.flatMap aK_).length=sy_ l:=by
  intro l
  induction l with
  | nil=>rfl
  | cons t ts ih=>rw[List.flatMap_cons,List.length_append,ih];rfl
 rw[← h];refine n1_ fun x hx=>?_
 rcases (a6_ x _).1 hx with h|h
 ·exact absurd h.1 hk
 ·obtain⟨⟨a,ha,hf⟩,_⟩:=h
  exact List.mem_flatMap.2 ⟨a,ha,(cd_ x a).2 hf⟩
theorem ru_ {t a:Ty}(hk:t.kind≠5)(ha:a∈t.args):fsz a≤fsz t :=
 nO_ (g7_ a) fun x hx=>(cd_ x t).2 ((a6_ x t).2 (.inr ⟨⟨a,ha,(cd_ x a).1 hx⟩,fun e=>hk e.1⟩))
theorem ko_:∀ (t:Ty) (out ns:List ByteArray),(cT_ ap_ t out ns).length≤out.length+cv_ t:=by
 intro t
 induction t using Ty.ind with
 | h t ih =>
  intro out ns;have hs:(ap_ out t ns).length≤out.length+(if t.kind=3∨t.kind=4∨t.kind=5 then 0 else 1):=by
   unfold ap_
   split
   ·next h =>
    simp only[Bool.and_eq_true,beq_iff_eq] at h;rw[if_neg (by rw[h.1.1];decide)];simp
   ·omega
  have hl:∀ (l:List Ty) (out ns:List ByteArray),(∀ a∈l,∀ (out ns:List ByteArray),(cT_ ap_ a out ns).length≤out.length+cv_ a)→(b7_ ap_ l out ns).length≤out.length+fK_ l:=by
   intro l
   induction l with
   | nil=>intro out ns _;simp[b7_,fK_]
   | cons a l ihl =>
    intro out ns h;rw[b7_,fK_];have:=ihl (cT_ ap_ a out ns) ns fun b hb=>h b (by simp[hb]);have:=h a (by simp) out ns;omega
  have:=hl t.args (ap_ out t ns) (if t.kind=5 then t.name :: ns else ns) ih;rw[dq_,cQ_];omega
theorem kl_ (t:Ty):fsz t≤cv_ t:=by have:=ko_ t [] [];simpa [fsz,aK_] using this
def Ok (t:Ty):Prop:=Std t∧cV_ t
theorem Ok.args {t:Ty}(h:Ok t):∀ a∈t.args,Ok a:=fun a ha=>⟨h.1.args a ha,cu_ h.2 a ha⟩
theorem si_ {k:Int}{s:ByteArray}{n:Int}{ts:List Ty}(hk:s0_ (.mk k s n ts))(h5:k=5→1≤s.size)(hs:s.size≤64)(h:∀ a∈ts,Ok a):Ok (.mk k s n ts):=by
 refine⟨(bD_ _).2 ⟨hk,fun a ha=>(h a ha).1⟩,(bq_ _).2 ⟨?_,fun a ha=>(h a ha).2.1⟩,(dm_ _).2 ⟨⟨h5,hs⟩,fun a ha=>(h a ha).2.2⟩⟩
 rcases hk with h|h|h|h|h
 ·exact .inl ⟨h.1,h.2.2⟩
 ·exact .inr (.inl ⟨h.1,h.2.2.1,h.2.2.2⟩)
 ·exact .inr (.inr (.inl h.1))
 ·exact .inr (.inr (.inr (.inl ⟨h.1,h.2.2.2⟩)))
 ·exact .inr (.inr (.inr (.inr ⟨h.1,h.2.2⟩)))
theorem qv_ {s:ByteArray}(h:s.size≤64):Ok (gc_ s):=si_ (.inl ⟨rfl,rfl,rfl⟩) (fun e=>absurd e (by decide)) h fun a ha=>by cases ha
theorem qw_ (nm:ByteArray){u t:Ty}(ht:Ok t)(hu:Ok u)(hs:t.size≤50000000000)(hs':u.size≤50000000000):Ok (ex_ nm u t):=⟨e7_ nm u t ht.1 hu.1,ox_ nm u t ht.2 hu.2 hs hs'⟩
def WfK (c:Co):Prop:=c.name.size≤64∧c.kids.length≤4000∧((c.kind=1∧c.kids.length=0)∨(c.kind=2∧c.kids.length=0∧Ok c.t)∨(c.kind=3∧c.kids.length=1)∨(c.kind=4∧c.kids.length=2)∨c.kind=5∨(c.kind=6∧c.kids.length=2)∨(c.kind=7∧c.kids.length=1)∨(c.kind=8∧c.kids.length=1∧0≤c.n∧c.n<1000000000)∨(c.kind=9∧c.kids.length=1∧Ok c.t))
mutual
def WfC:Co→Prop
 | .mk k s n t ks=>WfK (.mk k s n t ks)∧sJ_ ks
def sJ_:List Co→Prop
 | []=>True
 | c :: cs=>WfC c∧sJ_ cs
end
theorem p6_ (ks:List Co):sJ_ ks↔∀ c∈ks,WfC c:=by
 induction ks with
 | nil=>simp[sJ_]
 | cons c cs ih=>rw[sJ_,ih];simp
theorem d3_ (c:Co):WfC c↔WfK c∧∀ a∈c.kids,WfC a:=by cases c;rw[WfC,p6_];rfl
theorem WfC.k {c:Co}(h:WfC c):WfK c:=((d3_ c).1 h).1
theorem WfC.kids {c:Co}(h:WfC c):∀ a∈c.kids,WfC a:=((d3_ c).1 h).2
structure Bd where
 v:Nat
 s:Nat
 f:Nat
def Bd.add (a b:Bd):Bd:=⟨a.v+b.v,a.s+b.s,a.f+b.f⟩
def Bd.sup (a b:Bd):Bd:=⟨max a.v b.v,max a.s b.s,max a.f b.f⟩
def Bd.le (a b:Bd):Prop:=a.v≤b.v∧a.s≤b.s∧a.f≤b.f
mutual
def bdC (q:Nat):Co→Bd
 | .mk k _ _ t ks=>if k=1 then ⟨q,q,q⟩ else if k=2 then ⟨cv_ t,t.size,fsz t⟩
  else if k=3∨k=4∨k=8 then bdM q ks
  else if k=9 then ⟨(bdM q ks).v*max 1 (cv_ t),(bdM q ks).s+(bdM q ks).v*t.size+t.size,(bdM q ks).f+cv_ t⟩
  else ⟨(bdS q ks).v,(bdS q ks).s+1,(bdS q ks).f⟩
def bdM (q:Nat):List Co→Bd
 | []=>⟨0,0,0⟩
 | c :: cs=>(bdC q c).sup (bdM q cs)
def bdS (q:Nat):List Co→Bd
 | []=>⟨0,0,0⟩
 | c :: cs=>(bdC q c).add (bdS q cs)
end
def bd1 (q:Nat)(k:Int)(t:Ty)(m s:Bd):Bd:=if k=1 then ⟨q,q,q⟩ else if k=2 then ⟨cv_ t,t.size,fsz t⟩
  else if k=3∨k=4∨k=8 then m
  else if k=9 then ⟨m.v*max 1 (cv_ t),m.s+m.v*t.size+t.size,m.f+cv_ t⟩
  else ⟨s.v,s.s+1,s.f⟩
theorem eM_ (q:Nat)(c:Co):bdC q c=bd1 q c.kind c.t (bdM q c.kids) (bdS q c.kids):=by cases c;rfl
theorem Bd.le.refl (a:Bd):a.le a:=⟨aw_ _,aw_ _,aw_ _⟩
theorem Bd.le.trans {a b c:Bd}(h:a.le b)(g:b.le c):a.le c:=⟨bm_ h.1 g.1,bm_ h.2.1 g.2.1,bm_ h.2.2 g.2.2⟩
theorem qp_ {a b c d:Bd}(h:a.le c)(g:b.le d):(a.sup b).le (c.sup d):=by
 obtain⟨h1,h2,h3⟩:=h;obtain⟨g1,g2,g3⟩:=g;refine⟨?_,?_,?_⟩<;>(simp only[Bd.sup];omega)
theorem qF_ {a b c d:Bd}(h:a.le c)(g:b.le d):(a.add b).le (c.add d):=by
 obtain⟨h1,h2,h3⟩:=h;obtain⟨g1,g2,g3⟩:=g;refine⟨?_,?_,?_⟩<;>(simp only[Bd.add];omega)
theorem lj_ {q:Nat}{k:Int}{t t':Ty}{m s m' s':Bd}(h1:cv_ t'≤cv_ t)(h2:t'.size≤t.size)(h3:fsz t'≤fsz t)(hm:m'.le m)(hs:s'.le s):(bd1 q k t' m' s').le (bd1 q k t m s):=by
 obtain⟨a1,a2,a3⟩:=hm;obtain⟨b1,b2,b3⟩:=hs;unfold bd1
 split
 ·exact .refl _
 ·split
  ·exact⟨h1,h2,h3⟩
  ·split
   ·exact⟨a1,a2,a3⟩
   ·split
    ·refine⟨Nat.mul_le_mul a1 (by omega),?_,?_⟩
     ·have:=Nat.mul_le_mul a1 h2
      show m'.s+m'.v*t'.size+t'.size≤m.s+m.v*t.size+t.size;omega
     ·show m'.f+cv_ t'≤m.f+cv_ t
      omega
    ·refine⟨b1,?_,b3⟩
     show s'.s+1≤s.s+1;omega
theorem bE_ {q:Nat}{ks:List Co}{a:Co}(h:a∈ks):(bdC q a).le (bdM q ks):=by
 induction ks with
 | nil=>cases h
 | cons c cs ih =>
  rw[bdM]
  rcases List.mem_cons.1 h with rfl|h
  ·exact⟨Nat.le_max_left _ _,Nat.le_max_left _ _,Nat.le_max_left _ _⟩
  ·exact (ih h).trans ⟨Nat.le_max_right _ _,Nat.le_max_right _ _,Nat.le_max_right _ _⟩
theorem sH_ (q:Nat)(ks:List Co):(bdM q ks).le (bdS q ks):=by
 induction ks with
 | nil=>exact .refl _
 | cons c cs ih =>
  obtain⟨a,b,d⟩:=ih;rw[bdM,bdS];refine⟨?_,?_,?_⟩<;>(simp only[Bd.add,Bd.sup];omega)
theorem hj_ (q:Nat)(c:Co)(h1:c.kind≠1)(h2:c.kind≠2):(bdM q c.kids).le (bdC q c):=by
 rw[eM_];unfold bd1;rw[if_neg h1,if_neg h2];have hS:=sH_ q c.kids
 split
 ·exact .refl _
 ·split
  ·refine⟨?_,?_,?_⟩
   ·have:=Nat.mul_le_mul_left (bdM q c.kids).v (Nat.le_max_left 1 (cv_ c.t))
    show _≤(bdM q c.kids).v*max 1 (cv_ c.t);omega
   ·show _≤(bdM q c.kids).s+(bdM q c.kids).v*c.t.size+c.t.size;omega
   ·show _≤(bdM q c.kids).f+cv_ c.t;omega
  ·exact⟨hS.1,Nat.le_succ_of_le hS.2.1,hS.2.2⟩
theorem qZ_ {q:Nat}{fr to:ByteArray}{ks:List Co}(h:∀ c∈ks,(bdC q (ch_ fr to c)).le (bdC q c)):(bdM q (ks.map (ch_ fr to))).le (bdM q ks)∧(bdS q (ks.map (ch_ fr to))).le (bdS q ks):=by
 induction ks with
 | nil=>exact⟨.refl _,.refl _⟩
 | cons c cs ih =>
  have h1:=h c (by simp);have h2:=ih fun a ha=>h a (by simp[ha]);rw[List.map_cons,bdM,bdM,bdS,bdS];exact⟨qp_ h1 h2.1,qF_ h1 h2.2⟩
theorem n5_ (f:Co→Co)(ts:List Co)(h:∀ t∈ts,(f t).deep=t.deep):bl_ (ts.map f)=bl_ ts:=by
 induction ts with
 | nil=>rfl
 | cons t ts ih=>rw[List.map_cons,bl_,bl_,h t (by simp),ih fun u hu=>h u (by simp[hu])]
theorem ms_ (f:Co→Co)(ts:List Co)(h:∀ t∈ts,aW_ (f t)=aW_ t):a3_ (ts.map f)=a3_ ts:=by
 induction ts with
 | nil=>rfl
 | cons t ts ih=>rw[List.map_cons,a3_,a3_,h t (by simp),ih fun u hu=>h u (by simp[hu])]
theorem ne_ (fr to:ByteArray)(c:Co):(ch_ fr to c).deep=c.deep∧aW_ (ch_ fr to c)=aW_ c:=by
 induction c using Co.ind with
 | h c ih =>
  rw[gT_]
  split
  ·exact⟨rfl,rfl⟩
  ·rw[Co.deep_eq,c.deep_eq,dP_,dP_ c]
   show bl_ (c.kids.map (ch_ fr to))+1=_∧a3_ (c.kids.map (ch_ fr to))+(if c.kind=7 then 1 else 0)=_;rw[n5_ _ _ fun a ha=>(ih a ha).1,ms_ _ _ fun a ha=>(ih a ha).2];exact⟨rfl,rfl⟩
theorem gp_ (s:ByteArray):(gc_ s).size=1∧cv_ (gc_ s)=1:=⟨rfl,rfl⟩
theorem WfC.ok {c:Co}(h:WfC c)(hk:c.kind=2∨c.kind=9):Ok c.t:=by
 obtain⟨_,_,h⟩:=h.k
 rcases h with h|h|h|h|h|h|h|h|h
 ·omega
 ·exact h.2.2
 ·omega
 ·omega
 ·omega
 ·omega
 ·omega
 ·omega
 ·exact h.2.2
theorem WfC.k0 {c:Co}(h:WfC c){a:Co}(ha:a∈c.kids):c.kind≠1∧c.kind≠2:=by
 have:0<c.kids.length:=List.length_pos_iff.2 fun e=>by rw[e] at ha;cases ha
 obtain⟨_,_,h⟩:=h.k;omega
theorem rt_ (fr to:ByteArray)(t:Ty)(ht:Std t)(hv:Std (gc_ to)):fsz (ex_ fr (gc_ to) t)≤fsz t:=by
 by_cases hf:fvT fr t
 ·have hm:fr∈aK_ t:=(cd_ fr t).2 hf
  have h1:=n1_ (t:=ex_ fr (gc_ to) t) (m:=to :: (aK_ t).filter fun x=>!eqN x fr) fun x hx=>by
   rcases qE_ fr (gc_ to) t ht hv x hx with h|h
   ·rcases (a6_ x _).1 h with h|⟨⟨a,ha,_⟩,_⟩
    ·rw[← h.2];exact List.mem_cons_self
    ·cases ha
   ·exact List.mem_cons_of_mem _ (List.mem_filter.2 ⟨(cd_ x t).2 h.1,by rw[Bool.not_eq_true'];exact Bool.eq_false_iff.2 fun e=>h.2 ((aS_ x fr).1 e)⟩)
  have h2:((aK_ t).filter fun x=>!eqN x fr).length<(aK_ t).length:=List.length_filter_lt_length_iff_exists.2 ⟨fr,hm,by simp[(aS_ fr fr).2 rfl]⟩;rw[List.length_cons] at h1;show _≤(aK_ t).length;omega
 ·have e:dbT [] (ex_ fr (gc_ to) t)=dbT [] t:=by rw[hd_ fr (gc_ to) t ht,qV_ _ _ _ (k4_ fr t [] ht (.inl hf))]
  unfold fsz;rw[km_ _ (e7_ fr (gc_ to) t ht hv),e,← km_ t ht];exact aw_ _
theorem lY_ (q:Nat)(fr to:ByteArray)(hto:to.size≤64)(c:Co):WfC c→(bdC q c).s≤50000000000→WfC (ch_ fr to c)∧(bdC q (ch_ fr to c)).le (bdC q c):=by
 induction c using Co.ind with
 | h c ih =>
  intro hw hb;rw[gT_]
  split
  ·exact⟨hw,.refl _⟩
  ·next h7 =>
   have hkid:∀ a∈c.kids,WfC (ch_ fr to a)∧(bdC q (ch_ fr to a)).le (bdC q a):=fun a ha=>ih a ha (hw.kids a ha) (by
    have h0:=hw.k0 ha;exact bm_ ((bE_ ha).trans (hj_ q c h0.1 h0.2)).2.1 hb)
   have hL:=qZ_ fun a ha=>(hkid a ha).2;have ht:(c.kind=2∨c.kind=9)→Ok (ex_ fr (gc_ to) c.t)∧cv_ (ex_ fr (gc_ to) c.t)≤cv_ c.t∧(ex_ fr (gc_ to) c.t).size≤c.t.size∧fsz (ex_ fr (gc_ to) c.t)≤fsz c.t:=fun hk=>by
    have ho:=hw.ok hk;have hv:=qv_ hto;have hs:c.t.size≤50000000000:=by
     rw[eM_] at hb;unfold bd1 at hb
     rcases hk with hk|hk
     ·rw[hk] at hb;simpa using hb
     ·rw[hk] at hb
      simp only[if_neg (show ¬ (9:Int)=1 by decide),if_neg (show ¬ (9:Int)=2 by decide),if_neg (show ¬ ((9:Int)=3∨(9:Int)=4∨(9:Int)=8) by decide),if_true] at hb;omega
    have h1:=ln_ fr (gc_ to) c.t ho.1 hv.1;have h2:=ow_ fr (gc_ to) c.t ho.1 hv.1;rw[(gp_ to).2] at h1;rw[(gp_ to).1] at h2;exact⟨qw_ fr ho hv hs (by rw[(gp_ to).1];omega),by simpa using h1,by simpa using h2,rt_ fr to c.t ho.1 hv.1⟩
   refine⟨(d3_ _).2 ⟨?_,fun a ha=>?_⟩,?_⟩
   ·obtain⟨k1,k2,k3⟩:=hw.k
    refine⟨k1,by show (c.kids.map _).length≤_;rw[List.length_map];exact k2,?_⟩;show ((c.kind=1∧(c.kids.map _).length=0)∨(c.kind=2∧(c.kids.map _).length=0∧Ok (if c.kind=2∨c.kind=9 then ex_ fr (gc_ to) c.t else c.t))∨(c.kind=3∧(c.kids.map _).length=1)∨(c.kind=4∧(c.kids.map _).length=2)∨c.kind=5∨(c.kind=6∧(c.kids.map _).length=2)∨(c.kind=7∧(c.kids.map _).length=1)∨(c.kind=8∧(c.kids.map _).length=1∧0≤c.n∧c.n<1000000000)∨(c.kind=9∧(c.kids.map _).length=1∧Ok (if c.kind=2∨c.kind=9 then ex_ fr (gc_ to) c.t else c.t)));rw[List.length_map]
    rcases k3 with h|h|h|h|h|h|h|h|h
    ·exact .inl h
    ·exact .inr (.inl ⟨h.1,h.2.1,by rw[if_pos (.inl h.1)];exact (ht (.inl h.1)).1⟩)
    ·exact .inr (.inr (.inl h))
    ·exact .inr (.inr (.inr (.inl h)))
    ·exact .inr (.inr (.inr (.inr (.inl h))))
    ·exact .inr (.inr (.inr (.inr (.inr (.inl h)))))
    ·exact .inr (.inr (.inr (.inr (.inr (.inr (.inl h))))))
    ·exact .inr (.inr (.inr (.inr (.inr (.inr (.inr (.inl h)))))))
    ·exact .inr (.inr (.inr (.inr (.inr (.inr (.inr (.inr ⟨h.1,h.2.1,by rw[if_pos (.inr h.1)];exact (ht (.inr h.1)).1⟩)))))))
   ·obtain⟨b,hb',rfl⟩:=List.mem_map.1 ha
    exact (hkid b hb').1
   ·rw[eM_,eM_ q c]
    refine lj_ ?_ ?_ ?_ hL.1 hL.2
    ·show cv_ (if c.kind=2∨c.kind=9 then ex_ fr (gc_ to) c.t else c.t)≤_
     split
     ·next hk=>exact (ht hk).2.1
     ·exact aw_ _
    ·show (if c.kind=2∨c.kind=9 then ex_ fr (gc_ to) c.t else c.t).size≤_
     split
     ·next hk=>exact (ht hk).2.2.1
     ·exact aw_ _
    ·show fsz (if c.kind=2∨c.kind=9 then ex_ fr (gc_ to) c.t else c.t)≤_
     split
     ·next hk=>exact (ht hk).2.2.2
     ·exact aw_ _
end
end Go.Proofs.YtkihnodkhnahiaaGreatDoor.Tp

/- Texts laid together: CoNt, CoPl, CoB. -/
import Derived.Test.YtkihnodkhnahiaaGreatDoorP01
import Derived.Test.YtkihnodkhnahiaaGreatDoorP15
import Derived.Test.YtkihnodkhnahiaaGreatDoorP17
import Derived.Test.YtkihnodkhnahiaaGreatDoorP12
import Derived.Test.YtkihnodkhnahiaaGreatDoorP18

namespace Go.Proofs.YtkihnodkhnahiaaGreatDoor.Tp
def e0:ByteArray:=⟨#[]⟩
def tz:Ty:=.mk 0 e0 0 []
def nthT (n:Int)(l r:Ty):Option (Ty × Ty) :=
 if l.kind=r.kind∧(l.kind=4∨l.kind=3∧l.name=r.name∧l.args.length=r.args.length)∧n<l.args.length then some (l.args.getD n.toNat tz,r.args.getD n.toNat tz) else none
end Go.Proofs.YtkihnodkhnahiaaGreatDoor.Tp

namespace Go.Proofs.YtkihnodkhnahiaaGreatDoor.Tp
open Lx
inductive Co where
 | mk (kind:Int) (name:ByteArray) (n:Int) (t:Ty) (kids:List Co):Co
def Co.kind:Co→Int | .mk k _ _ _ _=>k
def Co.name:Co→ByteArray | .mk _ s _ _ _=>s
def Co.n:Co→Int | .mk _ _ n _ _=>n
def Co.t:Co→Ty | .mk _ _ _ t _=>t
def Co.kids:Co→List Co | .mk _ _ _ _ ks=>ks
theorem Co.ind {P:Co→Prop}(h:∀ c,(∀ a∈c.kids,P a)→P c)(c:Co):P c :=
 Co.rec (motive_1:=P) (motive_2:=fun cs=>∀ a∈cs,P a) (fun k s n t ks ih=>h (.mk k s n t ks) ih) (fun a ha=>by cases ha)
  (fun t ts iht ihs a ha=>by
   rcases List.mem_cons.1 ha with rfl|ha
   ·exact iht
   ·exact ihs a ha) c
mutual
def Co.deep:Co→Nat
 | .mk _ _ _ _ ks=>deepL ks+1
def deepL:List Co→Nat
 | []=>0
 | c :: cs=>max c.deep (deepL cs)
end
theorem Co.deep_eq (c:Co):c.deep=deepL c.kids+1:=by cases c;simp[Co.deep,Co.kids]
theorem deepL_append (a b:List Co):deepL (a++b)=max (deepL a) (deepL b):=by
 induction a with
 | nil=>simp[deepL]
 | cons t ts ih=>simp[deepL,ih,Nat.max_assoc]
theorem deepL_take (ts:List Co)(i:Nat)(h:i<ts.length):deepL (ts.take (i+1))=max (deepL (ts.take i)) ts[i].deep:=by
 rw[List.take_add_one,List.getElem?_eq_getElem h,deepL_append];simp[deepL]
theorem deep_kid (ts:List Co){a:Co}(h:a∈ts):a.deep≤deepL ts:=by
 induction ts with
 | nil=>cases h
 | cons t ts ih =>
  rw[deepL]
  rcases List.mem_cons.1 h with rfl|h
  ·omega
  ·have:=ih h;omega
mutual
def Co.tdep:Co→Nat
 | .mk k _ _ t ks=>max (if k=2∨k=9 then t.depth else 0) (tdepL ks)
def tdepL:List Co→Nat
 | []=>0
 | c :: cs=>max c.tdep (tdepL cs)
end
def tdep0 (c:Co):Nat:=if c.kind=2∨c.kind=9 then c.t.depth else 0
theorem Co.tdep_eq (c:Co):c.tdep=max (tdep0 c) (tdepL c.kids):=by
 cases c
 rw[Co.tdep]
 rfl
theorem tdepL_append (a b:List Co):tdepL (a++b)=max (tdepL a) (tdepL b):=by
 induction a with
 | nil=>simp[tdepL]
 | cons t ts ih=>simp[tdepL,ih,Nat.max_assoc]
theorem tdepL_take (ts:List Co)(i:Nat)(h:i<ts.length):tdepL (ts.take (i+1))=max (tdepL (ts.take i)) ts[i].tdep:=by
 rw[List.take_add_one,List.getElem?_eq_getElem h,tdepL_append];simp[tdepL]
theorem tdep_kid (ts:List Co){a:Co}(h:a∈ts):a.tdep≤tdepL ts:=by
 induction ts with
 | nil=>cases h
 | cons t ts ih =>
  rw[tdepL]
  rcases List.mem_cons.1 h with rfl|h
  ·omega
  ·have:=ih h;omega
def lts:List UInt8:=[60]
def gts:List UInt8:=[62]
def wSym:List UInt8:=[83,121,109]
def wTrans:List UInt8:=[84,114,97,110,115]
def wCon:List UInt8:=[67,111,110]
def wFun:List UInt8:=[70,117,110]
def wAll:List UInt8:=[65,108,108]
def wNth:List UInt8:=[78,116,104]
def wInst:List UInt8:=[73,110,115,116]
def wordK (k:Int):List UInt8:=if k=3 then wSym else if k=4 then wTrans else if k=5 then wCon else if k=6 then wFun else if k=7 then wAll else if k=8 then wNth else wInst
def ruleK (s:List UInt8):Nat:=if s=wSym then 3 else if s=wTrans then 4 else if s=wCon then 5 else if s=wFun then 6 else if s=wAll then 7 else if s=wNth then 8 else if s=wInst then 9 else 0
def angT (l:List Tok):Option (Ty × List Tok) :=
 if st l 6 lts then (match readT l.tail with
  | none=>none
  | some (t,r)=>if st r 6 gts then some (t,r.tail) else none) else none
structure Head where
 k:Nat
 nm:ByteArray
 n:Nat
 m:Nat
 l:List Tok
def headF (l:List Tok):Option Head :=
 if sk l 2 then
  if ruleK (headText l)=0 then none
  else if ruleK (headText l)=5 then (if sk l.tail 2 then some ⟨5,bytes (headText l.tail),0,0,l.tail.tail⟩ else none)
  else if ruleK (headText l)=7 then (if sk l.tail 1 then some ⟨7,bytes (headText l.tail),0,1,l.tail.tail⟩ else none)
  else if ruleK (headText l)=8 then (if sk l.tail 4 then some ⟨8,e0,numL (headText l.tail),1,l.tail.tail⟩ else none)
  else some ⟨ruleK (headText l),e0,0,if ruleK (headText l)=4∨ruleK (headText l)=6 then 2 else 1,l.tail⟩
 else none
mutual
def coF:Nat→List Tok→Option (Co × List Tok)
 | 0,_=>none
 | n+1,l =>
  if st l 6 lts then (match angT l with
   | none=>none
   | some (t,r)=>some (.mk 2 e0 0 t [],r))
  else if st l 6 lpar then (match ruleF n l.tail with
   | none=>none
   | some (c,r)=>if st r 6 rpar then some (c,r.tail) else none)
  else if sk l 1 then some (.mk 1 (bytes (headText l)) 0 tz [],l.tail) else none
def ruleF:Nat→List Tok→Option (Co × List Tok)
 | 0,_=>none
 | n+1,l=>match headF l with
  | none=>none
  | some h=>if h.k=5 then (match conF n [] h.l with
    | none=>none
    | some (ks,r)=>some (.mk 5 h.nm 0 tz ks,r))
   else match kidsF n h.m [] h.l with
    | none=>none
    | some (ks,r)=>if h.k=9 then (match angT r with
      | none=>none
      | some (t,r')=>some (.mk 9 h.nm h.n t ks,r'))
     else some (.mk h.k h.nm h.n tz ks,r)
def conF:Nat→List Co→List Tok→Option (List Co × List Tok)
 | 0,_,_=>none
 | n+1,acc,l=>if l.isEmpty || st l 6 rpar then some (acc,l) else match coF n l with
  | none=>none
  | some (x,r)=>conF n (acc++[x]) r
def kidsF:Nat→Nat→List Co→List Tok→Option (List Co × List Tok)
 | 0,_,_,_=>none
 | _+1,0,acc,l=>some (acc,l)
 | n+1,m+1,acc,l=>match coF n l with
  | none=>none
  | some (x,r)=>kidsF n m (acc++[x]) r
end
def readC (l:List Tok):Option (Co × List Tok):=coF (4*l.length+4) l
def parseC (s:List UInt8):Except Nat Co :=
 if (scanR s).2.2≠0 then .error (scanR s).2.2
 else match readC (scanR s).1 with
  | none=>.error 50
  | some (c,r)=>if r≠[] then .error 50 else if 50<c.deep∨50<c.tdep then .error 3 else .ok c
structure Giv where
 nm:ByteArray
 l:Ty
 r:Ty
def lookG (g:List Giv)(s:ByteArray):Option (Ty × Ty):=(g.reverse.find? fun x=>eqN x.nm s).map fun x=>(x.l,x.r)
mutual
def bindsC:Co→Nat
 | .mk k _ _ _ ks=>bindsL ks+(if k=7 then 1 else 0)
def bindsL:List Co→Nat
 | []=>0
 | c :: cs=>max (bindsC c) (bindsL cs)
end
theorem bindsC_eq (c:Co):bindsC c=bindsL c.kids+(if c.kind=7 then 1 else 0):=by cases c;rfl
theorem bindsL_append (a b:List Co):bindsL (a++b)=max (bindsL a) (bindsL b):=by
 induction a with
 | nil=>simp[bindsL]
 | cons t ts ih=>simp[bindsL,ih,Nat.max_assoc]
theorem bindsL_take (ts:List Co)(i:Nat)(h:i<ts.length):bindsL (ts.take (i+1))=max (bindsL (ts.take i)) (bindsC ts[i]):=by
 rw[List.take_add_one,List.getElem?_eq_getElem h,bindsL_append];simp[bindsL]
def marks (n:Nat):ByteArray:=bytes (List.replicate n 36)
def apartC (c:Co):ByteArray:=marks (bindsL c.kids+1)
def varB (s:ByteArray):Ty:=.mk 1 s 0 []
mutual
def renC (fr to:ByteArray):Co→Co
 | .mk k s n t ks=>if k=7∧eqN s fr=true then .mk k s n t ks else .mk k s n (if k=2∨k=9 then PutT fr (varB to) t else t) (renCL fr to ks)
def renCL (fr to:ByteArray):List Co→List Co
 | []=>[]
 | c :: cs=>renC fr to c :: renCL fr to cs
end
theorem renCL_map (fr to:ByteArray)(ks:List Co):renCL fr to ks=ks.map (renC fr to):=by
 induction ks with
 | nil=>rfl
 | cons c cs ih=>rw[renCL,ih];rfl
theorem renC_eq (fr to:ByteArray)(c:Co):renC fr to c=if c.kind=7∧eqN c.name fr=true then c else .mk c.kind c.name c.n (if c.kind=2∨c.kind=9 then PutT fr (varB to) c.t else c.t) (c.kids.map (renC fr to)):=by
 cases c;rw[renC,renCL_map];rfl
def kid0 (c:Co):Co:=c.kids.headD (.mk 0 e0 0 tz [])
def openC (c:Co):Co:=if c.kind=7 then .mk 7 (apartC c) c.n c.t [renC c.name (apartC c) (kid0 c)] else c
def h0 (l:List Ty):Ty:=l.headD tz
def h1 (l:List Ty):Ty:=l.tail.headD tz
def ruleS (c:Co)(x y:List Ty):Option (Ty × Ty) :=
 if c.kind=3 then some (h0 y,h0 x)
 else if c.kind=4 then (if canonS (h0 y)=canonS (h1 x) then some (h0 x,h1 y) else none)
 else if c.kind=5 then some (.mk 3 c.name 0 x,.mk 3 c.name 0 y)
 else if c.kind=6 then some (.mk 4 e0 0 x,.mk 4 e0 0 y)
 else if c.kind=7 then some (.mk 5 c.name 0 x,.mk 5 c.name 0 y)
 else if c.kind=8 then nthT c.n (h0 x) (h0 y)
 else if (h0 x).kind=5∧(h0 y).kind=5 then some (PutT (h0 x).name c.t (h0 (h0 x).args),PutT (h0 y).name c.t (h0 (h0 y).args)) else none
def saysL (f:Co→Option (Ty × Ty)):List Co→Option (List Ty × List Ty)
 | []=>some ([],[])
 | c :: cs=>match f c with
  | none=>none
  | some p=>match saysL f cs with
   | none=>none
   | some q=>some (p.1 :: q.1,p.2 :: q.2)
def saysF:Nat→List Giv→Co→Option (Ty × Ty)
 | 0,_,_=>none
 | d+1,g,c=>if c.kind=1 then lookG g c.name else if c.kind=2 then some (c.t,c.t)
  else match saysL (saysF d g) (openC c).kids with
   | none=>none
   | some p=>ruleS (openC c) p.1 p.2
def saysC (g:List Giv)(c:Co):Option (Ty × Ty):=saysF c.deep g c
mutual
def cntT:Ty→Nat
 | .mk k _ _ args=>(if k=3∨k=4∨k=5 then 0 else 1)+cntL args
def cntL:List Ty→Nat
 | []=>0
 | t :: ts=>cntT t+cntL ts
end
theorem cntT_eq (t:Ty):cntT t=(if t.kind=3∨t.kind=4∨t.kind=5 then 0 else 1)+cntL t.args:=by cases t;rfl
theorem cntL_map (f:Ty→Ty)(ts:List Ty)(h:∀ t∈ts,cntT (f t)=cntT t):cntL (ts.map f)=cntL ts:=by
 induction ts with
 | nil=>rfl
 | cons t ts ih=>rw[List.map_cons,cntL,cntL,h t (by simp),ih fun u hu=>h u (by simp[hu])]
theorem cnt_arg (ts:List Ty){a:Ty}(h:a∈ts):cntT a≤cntL ts:=by
 induction ts with
 | nil=>cases h
 | cons t ts ih =>
  rw[cntL]
  rcases List.mem_cons.1 h with rfl|h
  ·omega
  ·have:=ih h;omega
theorem cnt_size (t:Ty):cntT t≤t.size:=by
 induction t using Ty.ind with
 | h t ih =>
  have:∀ l:List Ty,(∀ a∈l,cntT a≤a.size)→cntL l≤sizeL l:=by
   intro l
   induction l with
   | nil=>intro _;exact Nat.le_refl _
   | cons a l ihl =>
    intro h
    rw[cntL,sizeL]
    have:=h a (by simp);have:=ihl fun b hb=>h b (by simp[hb])
    omega
  have:=this t.args ih
  rw[cntT_eq,t.size_eq]
  split<;>omega
theorem cnt_db (t:Ty):Std t→∀ env:List ByteArray,cntT (dbT env t)=cntT t:=by
 induction t using Ty.ind with
 | h t ih =>
  intro hs env
  by_cases h5:t.kind=5
  ·rw[dbT_all _ _ h5,cntT_eq,cntT_eq t,h5]
   show _+cntL (t.args.map _)=_
   rw[cntL_map _ _ fun a ha=>ih a ha (hs.args a ha) _];rfl
  ·by_cases h1:t.kind=1
   ·rw[dbT_var _ _ h1,cntT_eq t,(hs.k1 h1).2,h1]
    unfold look
    cases ixN env t.name<;>rfl
   ·rw[dbT_other _ _ h1 h5,cntT_eq,cntT_eq t]
    show _+cntL (t.args.map _)=_
    rw[cntL_map _ _ fun a ha=>ih a ha (hs.args a ha) _];rfl
theorem leaf_cnt {p:Ty→Bool}(hp:leafP p){t:Ty}(h:p (nodeT t)=true):1≤cntT t:=by
 rw[cntT_eq]
 rcases hp (nodeT t) h with h|h<;>(have h:t.kind=_:=h;rw[h,if_neg (by decide)];omega)
theorem cntL_mul (f:Ty→Ty)(ts:List Ty)(c:Nat)(h:∀ t∈ts,cntT (f t)≤cntT t*c):cntL (ts.map f)≤cntL ts*c:=by
 induction ts with
 | nil=>simp[cntL]
 | cons t ts ih =>
  rw[List.map_cons,cntL,cntL,Nat.add_mul]
  have:=h t (by simp)
  have:=ih fun u hu=>h u (by simp[hu])
  omega
theorem sb_cnt (p:Ty→Bool)(hp:leafP p)(U:Ty):∀ t:Ty,cntT (sbT p U t)≤cntT t*max 1 (cntT U):=by
 intro t
 induction t using Ty.ind with
 | h t ih =>
  rw[sbT_eq]
  split
  ·next h =>
   have h1:=leaf_cnt hp h
   have h2:1*max 1 (cntT U)≤cntT t*max 1 (cntT U):=Nat.mul_le_mul_right _ h1
   omega
  ·have h1:=cntL_mul (sbT p U) t.args _ ih
   rw[cntT_eq,cntT_eq t,Nat.add_mul]
   show (if t.kind=3∨t.kind=4∨t.kind=5 then 0 else 1)+cntL (t.args.map (sbT p U))≤_
   split<;>omega
theorem sizeL_cnt (f:Ty→Ty)(ts:List Ty)(c:Nat)(h:∀ t∈ts,(f t).size≤t.size+cntT t*c):sizeL (ts.map f)≤sizeL ts+cntL ts*c:=by
 induction ts with
 | nil=>simp[sizeL]
 | cons t ts ih =>
  rw[List.map_cons,sizeL,sizeL,cntL,Nat.add_mul]
  have:=h t (by simp)
  have:=ih fun u hu=>h u (by simp[hu])
  omega
theorem sb_size2 (p:Ty→Bool)(hp:leafP p)(U:Ty):∀ t:Ty,(sbT p U t).size≤t.size+cntT t*U.size:=by
 intro t
 induction t using Ty.ind with
 | h t ih =>
  rw[sbT_eq]
  split
  ·next h =>
   have h2:=Nat.mul_le_mul_right U.size (leaf_cnt hp h)
   omega
  ·have h1:=sizeL_cnt (sbT p U) t.args _ ih
   rw[Ty.size_eq,t.size_eq,cntT_eq t,Nat.add_mul]
   show sizeL (t.args.map (sbT p U))+1≤_
   omega
theorem PutT_cnt (nm:ByteArray)(u t:Ty)(ht:Std t)(hu:Std u):cntT (PutT nm u t)≤cntT t*max 1 (cntT u):=by
 have h:=sb_cnt (isVar nm) (leaf_var nm) (dbT [] u) (dbT [] t)
 rwa [← db_PutT nm u t ht,cnt_db _ (PutT_std nm u t ht hu),cnt_db _ ht,cnt_db _ hu] at h
theorem PutT_size2 (nm:ByteArray)(u t:Ty)(ht:Std t)(hu:Std u):(PutT nm u t).size≤t.size+cntT t*u.size:=by
 have h:=sb_size2 (isVar nm) (leaf_var nm) (dbT [] u) (dbT [] t)
 rwa [← db_PutT nm u t ht,size_db _ (PutT_std nm u t ht hu),size_db _ ht,cnt_db _ ht,size_db _ hu] at h
theorem len_sub:∀ {l m:List ByteArray},l.Nodup→(∀ x∈l,x∈m)→l.length≤m.length:=by
 intro l
 induction l with
 | nil=>intro m _ _;simp
 | cons x l ih =>
  intro m hn h
  rw[List.nodup_cons] at hn
  obtain⟨a,b,rfl⟩:=List.append_of_mem (h x (by simp))
  have:=ih (m:=a++b) hn.2 fun y hy=>by
   have hm:=h y (by simp[hy])
   have hne:y≠x:=fun e=>hn.1 (e ▸ hy)
   simp only[List.mem_append,List.mem_cons] at hm ⊢
   rcases hm with hm|hm|hm
   ·exact .inl hm
   ·exact absurd hm hne
   ·exact .inr hm
  simp only[List.length_append,List.length_cons] at this ⊢
  omega
theorem walk_nodup:∀ (t:Ty) (out ns:List ByteArray),out.Nodup→(walkF freeStep t out ns).Nodup:=by
 intro t
 induction t using Ty.ind with
 | h t ih =>
  intro out ns hn
  have hs:(freeStep out t ns).Nodup:=by
   unfold freeStep
   split
   ·next h =>
    simp only[Bool.and_eq_true,Bool.not_eq_true',hasN_false] at h
    rw[List.nodup_append]
    exact⟨hn,by simp,fun a ha b hb=>by rw[List.mem_singleton.1 hb];exact fun e=>h.2 (e ▸ ha)⟩
   ·exact hn
  have hl:∀ (l:List Ty) (out ns:List ByteArray),(∀ a∈l,∀ (out ns:List ByteArray),out.Nodup→(walkF freeStep a out ns).Nodup)→out.Nodup→(walkL freeStep l out ns).Nodup:=by
   intro l
   induction l with
   | nil=>intro out ns _ h;exact h
   | cons a l ihl=>intro out ns h hn;rw[walkL];exact ihl _ _ (fun b hb=>h b (by simp[hb])) (h a (by simp) _ _ hn)
  rw[walkF_eq]
  exact hl _ _ _ ih hs
theorem freeT_nodup (t:Ty):(freeT t).Nodup:=walk_nodup t [] [] List.nodup_nil
def fsz (t:Ty):Nat:=(freeT t).length
theorem fsz_le {t:Ty}{m:List ByteArray}(h:∀ x,fvT x t→x∈m):fsz t≤m.length:=len_sub (freeT_nodup t) fun x hx=>h x ((mem_free x t).1 hx)
theorem var_no (x:ByteArray):∀ (t:Ty) (env:List ByteArray),Std t→fvT x t→x∉env→¬ noP (isVar x) (dbT env t):=by
 intro t
 induction t using Ty.ind with
 | h t ih =>
  intro env hs h hx hno
  rcases (fvT_iff x t).1 h with ⟨h1,h2⟩|⟨⟨a,ha,hf⟩,hn⟩
  ·rw[dbT_var _ _ h1,h2] at hno
   unfold look at hno
   rw[(ixN_none _ _).2 hx] at hno
   have:=((noT_iff _ _).1 hno).1
   simp only[nodeT,Ty.kind,Ty.name,isVar_mk,(eqN_iff x x).2 rfl] at this
   cases this
  ·by_cases h5:t.kind=5
   ·rw[dbT_all _ _ h5,noP_mk] at hno
    exact ih a ha (t.name :: env) (hs.args a ha) hf (by simp only[List.mem_cons,not_or];exact⟨fun e=>hn ⟨h5,e.symm⟩,hx⟩) (hno.2 _ (List.mem_map_of_mem ha))
   ·by_cases h1:t.kind=1
    ·rw[(hs.k1 h1).2] at ha;cases ha
    ·rw[dbT_other _ _ h1 h5,noP_mk] at hno
     exact ih a ha env (hs.args a ha) hf hx (hno.2 _ (List.mem_map_of_mem ha))
theorem no_sb2 (p q:Ty→Bool)(U:Ty)(hU:noP p U):∀ t:Ty,noP p t→noP p (sbT q U t):=by
 intro t
 induction t using Ty.ind with
 | h t ih =>
  intro h
  rw[sbT_eq]
  split
  ·exact hU
  ·rw[noP_mk]
   refine⟨((noT_iff _ _).1 h).1,fun a ha=>?_⟩
   obtain⟨b,hb,rfl⟩:=List.mem_map.1 ha
   exact ih b hb (((noT_iff _ _).1 h).2 b hb)
theorem fv_Put (nm:ByteArray)(u t:Ty)(ht:Std t)(hu:Std u)(x:ByteArray)(h:fvT x (PutT nm u t)):fvT x u∨(fvT x t∧x≠nm):=by
 have h1:=var_no x _ [] (PutT_std nm u t ht hu) h (by simp)
 rw[db_PutT nm u t ht] at h1
 by_cases hxu:fvT x u
 ·exact .inl hxu
 ·right
  have hU:=no_var x u [] hu (.inl hxu)
  constructor
  ·exact Classical.byContradiction fun hxt=>h1 (no_sb2 _ _ _ hU _ (no_var x t [] ht (.inl hxt)))
  ·rintro rfl
   exact h1 (no_sb _ _ _ hU _ fun _ _ _ h=>h)
theorem fsz_put (nm:ByteArray)(u t:Ty)(ht:Std t)(hu:Std u):fsz (PutT nm u t)≤fsz t+fsz u:=by
 have:=fsz_le (t:=PutT nm u t) (m:=freeT t++freeT u) fun x hx=>by
  rw[List.mem_append,mem_free,mem_free]
  rcases fv_Put nm u t ht hu x hx with h|h
  ·exact .inr h
  ·exact .inl h.1
 rw[List.length_append] at this
 exact this
theorem fsz_open {a u:Ty}{b:Ty}(hb:a.args=[b])(hs:Std b)(hu:Std u):fsz (PutT a.name u b)≤fsz a+fsz u:=by
 have:=fsz_le (t:=PutT a.name u b) (m:=freeT a++freeT u) fun x hx=>by
  rw[List.mem_append,mem_free,mem_free]
  rcases fv_Put a.name u b hs hu x hx with h|h
  ·exact .inr h
  ·exact .inl ((fvT_iff x a).2 (.inr ⟨⟨b,by rw[hb];simp,h.1⟩,fun e=>h.2 e.2.symm⟩))
 rw[List.length_append] at this
 exact this
def fszL:List Ty→Nat
 | []=>0
 | t :: ts=>fsz t+fszL ts
theorem fsz_mk (k:Int)(s:ByteArray)(n:Int)(ts:List Ty)(hk:k≠1):fsz (.mk k s n ts)≤fszL ts:=by
 have h:∀ l:List Ty,(l.flatMap freeT).length=fszL l:=by
  intro l
  induction l with
  | nil=>rfl
  | cons t ts ih=>rw[List.flatMap_cons,List.length_append,ih];rfl
 rw[← h]
 refine fsz_le fun x hx=>?_
 rcases (fvT_iff x _).1 hx with h|h
 ·exact absurd h.1 hk
 ·obtain⟨⟨a,ha,hf⟩,_⟩:=h
  exact List.mem_flatMap.2 ⟨a,ha,(mem_free x a).2 hf⟩
theorem fsz_arg {t a:Ty}(hk:t.kind≠5)(ha:a∈t.args):fsz a≤fsz t :=
 len_sub (freeT_nodup a) fun x hx=>(mem_free x t).2 ((fvT_iff x t).2 (.inr ⟨⟨a,ha,(mem_free x a).1 hx⟩,fun e=>hk e.1⟩))
theorem freeAcc_cnt:∀ (t:Ty) (out ns:List ByteArray),(walkF freeStep t out ns).length≤out.length+cntT t:=by
 intro t
 induction t using Ty.ind with
 | h t ih =>
  intro out ns
  have hs:(freeStep out t ns).length≤out.length+(if t.kind=3∨t.kind=4∨t.kind=5 then 0 else 1):=by
   unfold freeStep
   split
   ·next h =>
    simp only[Bool.and_eq_true,beq_iff_eq] at h
    rw[if_neg (by rw[h.1.1];decide)];simp
   ·omega
  have hl:∀ (l:List Ty) (out ns:List ByteArray),(∀ a∈l,∀ (out ns:List ByteArray),(walkF freeStep a out ns).length≤out.length+cntT a)→(walkL freeStep l out ns).length≤out.length+cntL l:=by
   intro l
   induction l with
   | nil=>intro out ns _;simp[walkL,cntL]
   | cons a l ihl =>
    intro out ns h
    rw[walkL,cntL]
    have:=ihl (walkF freeStep a out ns) ns fun b hb=>h b (by simp[hb])
    have:=h a (by simp) out ns
    omega
  have:=hl t.args (freeStep out t ns) (if t.kind=5 then t.name :: ns else ns) ih
  rw[walkF_eq,cntT_eq]
  omega
theorem fsz_cnt (t:Ty):fsz t≤cntT t:=by have:=freeAcc_cnt t [] [];simpa [fsz,freeT] using this
def Ok (t:Ty):Prop:=Std t∧Good t
theorem Ok.args {t:Ty}(h:Ok t):∀ a∈t.args,Ok a:=fun a ha=>⟨h.1.args a ha,good_args h.2 a ha⟩
theorem ok_mk {k:Int}{s:ByteArray}{n:Int}{ts:List Ty}(hk:StdK (.mk k s n ts))(h5:k=5→1≤s.size)(hs:s.size≤64)(h:∀ a∈ts,Ok a):Ok (.mk k s n ts):=by
 refine⟨(std_iff _).2 ⟨hk,fun a ha=>(h a ha).1⟩,(wf_iff _).2 ⟨?_,fun a ha=>(h a ha).2.1⟩,(nm_iff _).2 ⟨⟨h5,hs⟩,fun a ha=>(h a ha).2.2⟩⟩
 rcases hk with h|h|h|h|h
 ·exact .inl ⟨h.1,h.2.2⟩
 ·exact .inr (.inl ⟨h.1,h.2.2.1,h.2.2.2⟩)
 ·exact .inr (.inr (.inl h.1))
 ·exact .inr (.inr (.inr (.inl ⟨h.1,h.2.2.2⟩)))
 ·exact .inr (.inr (.inr (.inr ⟨h.1,h.2.2⟩)))
theorem ok_var {s:ByteArray}(h:s.size≤64):Ok (varB s):=ok_mk (.inl ⟨rfl,rfl,rfl⟩) (fun e=>absurd e (by decide)) h fun a ha=>by cases ha
theorem ok_put (nm:ByteArray){u t:Ty}(ht:Ok t)(hu:Ok u)(hs:t.size≤50000000000)(hs':u.size≤50000000000):Ok (PutT nm u t):=⟨PutT_std nm u t ht.1 hu.1,PutT_good nm u t ht.2 hu.2 hs hs'⟩
def WfK (c:Co):Prop:=c.name.size≤64∧c.kids.length≤4000∧((c.kind=1∧c.kids.length=0)∨(c.kind=2∧c.kids.length=0∧Ok c.t)∨(c.kind=3∧c.kids.length=1)∨(c.kind=4∧c.kids.length=2)∨c.kind=5∨(c.kind=6∧c.kids.length=2)∨(c.kind=7∧c.kids.length=1)∨(c.kind=8∧c.kids.length=1∧0≤c.n∧c.n<1000000000)∨(c.kind=9∧c.kids.length=1∧Ok c.t))
mutual
def WfC:Co→Prop
 | .mk k s n t ks=>WfK (.mk k s n t ks)∧WfCL ks
def WfCL:List Co→Prop
 | []=>True
 | c :: cs=>WfC c∧WfCL cs
end
theorem WfCL_iff (ks:List Co):WfCL ks↔∀ c∈ks,WfC c:=by
 induction ks with
 | nil=>simp[WfCL]
 | cons c cs ih=>rw[WfCL,ih];simp
theorem wfC_iff (c:Co):WfC c↔WfK c∧∀ a∈c.kids,WfC a:=by cases c;rw[WfC,WfCL_iff];rfl
theorem WfC.k {c:Co}(h:WfC c):WfK c:=((wfC_iff c).1 h).1
theorem WfC.kids {c:Co}(h:WfC c):∀ a∈c.kids,WfC a:=((wfC_iff c).1 h).2
structure Bd where
 v:Nat
 s:Nat
 f:Nat
def Bd.add (a b:Bd):Bd:=⟨a.v+b.v,a.s+b.s,a.f+b.f⟩
def Bd.sup (a b:Bd):Bd:=⟨max a.v b.v,max a.s b.s,max a.f b.f⟩
def Bd.le (a b:Bd):Prop:=a.v≤b.v∧a.s≤b.s∧a.f≤b.f
mutual
def bdC (q:Nat):Co→Bd
 | .mk k _ _ t ks=>if k=1 then ⟨q,q,q⟩ else if k=2 then ⟨cntT t,t.size,fsz t⟩
  else if k=3∨k=4∨k=8 then bdM q ks
  else if k=9 then ⟨(bdM q ks).v*max 1 (cntT t),(bdM q ks).s+(bdM q ks).v*t.size+t.size,(bdM q ks).f+cntT t⟩
  else ⟨(bdS q ks).v,(bdS q ks).s+1,(bdS q ks).f⟩
def bdM (q:Nat):List Co→Bd
 | []=>⟨0,0,0⟩
 | c :: cs=>(bdC q c).sup (bdM q cs)
def bdS (q:Nat):List Co→Bd
 | []=>⟨0,0,0⟩
 | c :: cs=>(bdC q c).add (bdS q cs)
end
def bd1 (q:Nat)(k:Int)(t:Ty)(m s:Bd):Bd:=if k=1 then ⟨q,q,q⟩ else if k=2 then ⟨cntT t,t.size,fsz t⟩
  else if k=3∨k=4∨k=8 then m
  else if k=9 then ⟨m.v*max 1 (cntT t),m.s+m.v*t.size+t.size,m.f+cntT t⟩
  else ⟨s.v,s.s+1,s.f⟩
theorem bdC_eq (q:Nat)(c:Co):bdC q c=bd1 q c.kind c.t (bdM q c.kids) (bdS q c.kids):=by cases c;rfl
theorem Bd.le.refl (a:Bd):a.le a:=⟨Nat.le_refl _,Nat.le_refl _,Nat.le_refl _⟩
theorem Bd.le.trans {a b c:Bd}(h:a.le b)(g:b.le c):a.le c:=⟨Nat.le_trans h.1 g.1,Nat.le_trans h.2.1 g.2.1,Nat.le_trans h.2.2 g.2.2⟩
theorem sup_le {a b c d:Bd}(h:a.le c)(g:b.le d):(a.sup b).le (c.sup d):=by
 obtain⟨h1,h2,h3⟩:=h;obtain⟨g1,g2,g3⟩:=g
 refine⟨?_,?_,?_⟩<;>(simp only[Bd.sup];omega)
theorem add_le {a b c d:Bd}(h:a.le c)(g:b.le d):(a.add b).le (c.add d):=by
 obtain⟨h1,h2,h3⟩:=h;obtain⟨g1,g2,g3⟩:=g
 refine⟨?_,?_,?_⟩<;>(simp only[Bd.add];omega)
theorem bd1_mono {q:Nat}{k:Int}{t t':Ty}{m s m' s':Bd}(h1:cntT t'≤cntT t)(h2:t'.size≤t.size)(h3:fsz t'≤fsz t)(hm:m'.le m)(hs:s'.le s):(bd1 q k t' m' s').le (bd1 q k t m s):=by
 obtain⟨a1,a2,a3⟩:=hm;obtain⟨b1,b2,b3⟩:=hs
 unfold bd1
 split
 ·exact .refl _
 ·split
  ·exact⟨h1,h2,h3⟩
  ·split
   ·exact⟨a1,a2,a3⟩
   ·split
    ·refine⟨Nat.mul_le_mul a1 (by omega),?_,?_⟩
     ·have:=Nat.mul_le_mul a1 h2
      show m'.s+m'.v*t'.size+t'.size≤m.s+m.v*t.size+t.size
      omega
     ·show m'.f+cntT t'≤m.f+cntT t
      omega
    ·refine⟨b1,?_,b3⟩
     show s'.s+1≤s.s+1
     omega
theorem bdM_kid {q:Nat}{ks:List Co}{a:Co}(h:a∈ks):(bdC q a).le (bdM q ks):=by
 induction ks with
 | nil=>cases h
 | cons c cs ih =>
  rw[bdM]
  rcases List.mem_cons.1 h with rfl|h
  ·exact⟨Nat.le_max_left _ _,Nat.le_max_left _ _,Nat.le_max_left _ _⟩
  ·exact (ih h).trans ⟨Nat.le_max_right _ _,Nat.le_max_right _ _,Nat.le_max_right _ _⟩
theorem bdM_S (q:Nat)(ks:List Co):(bdM q ks).le (bdS q ks):=by
 induction ks with
 | nil=>exact .refl _
 | cons c cs ih =>
  obtain⟨a,b,d⟩:=ih
  rw[bdM,bdS]
  refine⟨?_,?_,?_⟩<;>(simp only[Bd.add,Bd.sup];omega)
theorem bd_kids (q:Nat)(c:Co)(h1:c.kind≠1)(h2:c.kind≠2):(bdM q c.kids).le (bdC q c):=by
 rw[bdC_eq]
 unfold bd1
 rw[if_neg h1,if_neg h2]
 have hS:=bdM_S q c.kids
 split
 ·exact .refl _
 ·split
  ·refine⟨?_,?_,?_⟩
   ·have:=Nat.mul_le_mul_left (bdM q c.kids).v (Nat.le_max_left 1 (cntT c.t))
    show _≤(bdM q c.kids).v*max 1 (cntT c.t)
    omega
   ·show _≤(bdM q c.kids).s+(bdM q c.kids).v*c.t.size+c.t.size;omega
   ·show _≤(bdM q c.kids).f+cntT c.t;omega
  ·exact⟨hS.1,Nat.le_succ_of_le hS.2.1,hS.2.2⟩
theorem renL_bd {q:Nat}{fr to:ByteArray}{ks:List Co}(h:∀ c∈ks,(bdC q (renC fr to c)).le (bdC q c)):(bdM q (ks.map (renC fr to))).le (bdM q ks)∧(bdS q (ks.map (renC fr to))).le (bdS q ks):=by
 induction ks with
 | nil=>exact⟨.refl _,.refl _⟩
 | cons c cs ih =>
  have h1:=h c (by simp)
  have h2:=ih fun a ha=>h a (by simp[ha])
  rw[List.map_cons,bdM,bdM,bdS,bdS]
  exact⟨sup_le h1 h2.1,add_le h1 h2.2⟩
theorem deepL_map (f:Co→Co)(ts:List Co)(h:∀ t∈ts,(f t).deep=t.deep):deepL (ts.map f)=deepL ts:=by
 induction ts with
 | nil=>rfl
 | cons t ts ih=>rw[List.map_cons,deepL,deepL,h t (by simp),ih fun u hu=>h u (by simp[hu])]
theorem bindsL_map (f:Co→Co)(ts:List Co)(h:∀ t∈ts,bindsC (f t)=bindsC t):bindsL (ts.map f)=bindsL ts:=by
 induction ts with
 | nil=>rfl
 | cons t ts ih=>rw[List.map_cons,bindsL,bindsL,h t (by simp),ih fun u hu=>h u (by simp[hu])]
theorem renC_deep (fr to:ByteArray)(c:Co):(renC fr to c).deep=c.deep∧bindsC (renC fr to c)=bindsC c:=by
 induction c using Co.ind with
 | h c ih =>
  rw[renC_eq]
  split
  ·exact⟨rfl,rfl⟩
  ·rw[Co.deep_eq,c.deep_eq,bindsC_eq,bindsC_eq c]
   show deepL (c.kids.map (renC fr to))+1=_∧bindsL (c.kids.map (renC fr to))+(if c.kind=7 then 1 else 0)=_
   rw[deepL_map _ _ fun a ha=>(ih a ha).1,bindsL_map _ _ fun a ha=>(ih a ha).2]
   exact⟨rfl,rfl⟩
theorem var_size (s:ByteArray):(varB s).size=1∧cntT (varB s)=1:=⟨rfl,rfl⟩
theorem WfC.ok {c:Co}(h:WfC c)(hk:c.kind=2∨c.kind=9):Ok c.t:=by
 obtain⟨_,_,h⟩:=h.k
 rcases h with h|h|h|h|h|h|h|h|h
 ·omega
 ·exact h.2.2
 ·omega
 ·omega
 ·omega
 ·omega
 ·omega
 ·omega
 ·exact h.2.2
theorem WfC.k0 {c:Co}(h:WfC c){a:Co}(ha:a∈c.kids):c.kind≠1∧c.kind≠2:=by
 have:0<c.kids.length:=List.length_pos_iff.2 fun e=>by rw[e] at ha;cases ha
 obtain⟨_,_,h⟩:=h.k
 omega
theorem fsz_ren (fr to:ByteArray)(t:Ty)(ht:Std t)(hv:Std (varB to)):fsz (PutT fr (varB to) t)≤fsz t:=by
 by_cases hf:fvT fr t
 ·have hm:fr∈freeT t:=(mem_free fr t).2 hf
  have h1:=fsz_le (t:=PutT fr (varB to) t) (m:=to :: (freeT t).filter fun x=>!eqN x fr) fun x hx=>by
   rcases fv_Put fr (varB to) t ht hv x hx with h|h
   ·rcases (fvT_iff x _).1 h with h|⟨⟨a,ha,_⟩,_⟩
    ·rw[← h.2];exact List.mem_cons_self
    ·cases ha
   ·exact List.mem_cons_of_mem _ (List.mem_filter.2 ⟨(mem_free x t).2 h.1,by rw[Bool.not_eq_true'];exact Bool.eq_false_iff.2 fun e=>h.2 ((eqN_iff x fr).1 e)⟩)
  have h2:((freeT t).filter fun x=>!eqN x fr).length<(freeT t).length:=List.length_filter_lt_length_iff_exists.2 ⟨fr,hm,by simp[(eqN_iff fr fr).2 rfl]⟩
  rw[List.length_cons] at h1
  show _≤(freeT t).length
  omega
 ·have e:dbT [] (PutT fr (varB to) t)=dbT [] t:=by rw[db_PutT fr (varB to) t ht,sb_no _ _ _ (no_var fr t [] ht (.inl hf))]
  unfold fsz
  rw[free_db _ (PutT_std fr (varB to) t ht hv),e,← free_db t ht]
  exact Nat.le_refl _
theorem renC_keeps (q:Nat)(fr to:ByteArray)(hto:to.size≤64)(c:Co):WfC c→(bdC q c).s≤50000000000→WfC (renC fr to c)∧(bdC q (renC fr to c)).le (bdC q c):=by
 induction c using Co.ind with
 | h c ih =>
  intro hw hb
  rw[renC_eq]
  split
  ·exact⟨hw,.refl _⟩
  ·next h7 =>
   have hkid:∀ a∈c.kids,WfC (renC fr to a)∧(bdC q (renC fr to a)).le (bdC q a):=fun a ha=>ih a ha (hw.kids a ha) (by
    have h0:=hw.k0 ha
    exact Nat.le_trans ((bdM_kid ha).trans (bd_kids q c h0.1 h0.2)).2.1 hb)
   have hL:=renL_bd fun a ha=>(hkid a ha).2
   have ht:(c.kind=2∨c.kind=9)→Ok (PutT fr (varB to) c.t)∧cntT (PutT fr (varB to) c.t)≤cntT c.t∧(PutT fr (varB to) c.t).size≤c.t.size∧fsz (PutT fr (varB to) c.t)≤fsz c.t:=fun hk=>by
    have ho:=hw.ok hk
    have hv:=ok_var hto
    have hs:c.t.size≤50000000000:=by
     rw[bdC_eq] at hb
     unfold bd1 at hb
     rcases hk with hk|hk
     ·rw[hk] at hb;simpa using hb
     ·rw[hk] at hb
      simp only[if_neg (show ¬ (9:Int)=1 by decide),if_neg (show ¬ (9:Int)=2 by decide),if_neg (show ¬ ((9:Int)=3∨(9:Int)=4∨(9:Int)=8) by decide),if_true] at hb
      omega
    have h1:=PutT_cnt fr (varB to) c.t ho.1 hv.1
    have h2:=PutT_size fr (varB to) c.t ho.1 hv.1
    rw[(var_size to).2] at h1
    rw[(var_size to).1] at h2
    exact⟨ok_put fr ho hv hs (by rw[(var_size to).1];omega),by simpa using h1,by simpa using h2,fsz_ren fr to c.t ho.1 hv.1⟩
   refine⟨(wfC_iff _).2 ⟨?_,fun a ha=>?_⟩,?_⟩
   ·obtain⟨k1,k2,k3⟩:=hw.k
    refine⟨k1,by show (c.kids.map _).length≤_;rw[List.length_map];exact k2,?_⟩
    show ((c.kind=1∧(c.kids.map _).length=0)∨(c.kind=2∧(c.kids.map _).length=0∧Ok (if c.kind=2∨c.kind=9 then PutT fr (varB to) c.t else c.t))∨(c.kind=3∧(c.kids.map _).length=1)∨(c.kind=4∧(c.kids.map _).length=2)∨c.kind=5∨(c.kind=6∧(c.kids.map _).length=2)∨(c.kind=7∧(c.kids.map _).length=1)∨(c.kind=8∧(c.kids.map _).length=1∧0≤c.n∧c.n<1000000000)∨(c.kind=9∧(c.kids.map _).length=1∧Ok (if c.kind=2∨c.kind=9 then PutT fr (varB to) c.t else c.t)))
    rw[List.length_map]
    rcases k3 with h|h|h|h|h|h|h|h|h
    ·exact .inl h
    ·exact .inr (.inl ⟨h.1,h.2.1,by rw[if_pos (.inl h.1)];exact (ht (.inl h.1)).1⟩)
    ·exact .inr (.inr (.inl h))
    ·exact .inr (.inr (.inr (.inl h)))
    ·exact .inr (.inr (.inr (.inr (.inl h))))
    ·exact .inr (.inr (.inr (.inr (.inr (.inl h)))))
    ·exact .inr (.inr (.inr (.inr (.inr (.inr (.inl h))))))
    ·exact .inr (.inr (.inr (.inr (.inr (.inr (.inr (.inl h)))))))
    ·exact .inr (.inr (.inr (.inr (.inr (.inr (.inr (.inr ⟨h.1,h.2.1,by rw[if_pos (.inr h.1)];exact (ht (.inr h.1)).1⟩)))))))
   ·obtain⟨b,hb',rfl⟩:=List.mem_map.1 ha
    exact (hkid b hb').1
   ·rw[bdC_eq,bdC_eq q c]
    refine bd1_mono ?_ ?_ ?_ hL.1 hL.2
    ·show cntT (if c.kind=2∨c.kind=9 then PutT fr (varB to) c.t else c.t)≤_
     split
     ·next hk=>exact (ht hk).2.1
     ·exact Nat.le_refl _
    ·show (if c.kind=2∨c.kind=9 then PutT fr (varB to) c.t else c.t).size≤_
     split
     ·next hk=>exact (ht hk).2.2.1
     ·exact Nat.le_refl _
    ·show fsz (if c.kind=2∨c.kind=9 then PutT fr (varB to) c.t else c.t)≤_
     split
     ·next hk=>exact (ht hk).2.2.2
     ·exact Nat.le_refl _
end Go.Proofs.YtkihnodkhnahiaaGreatDoor.Tp

/- Texts laid together: TyBk, TyLawP. -/
import Derived.Test.YtkihnodkhnahiaaGreatDoorP15
set_option maxRecDepth 100000
set_option maxHeartbeats 6400000
namespace Go.Proofs.YtkihnodkhnahiaaGreatDoor.Tp
open Lx
theorem ej_ (x:ByteArray):aa_ x.data.toList=x:=by apply ByteArray.ext;simp[aa_]
theorem mQ_ (n:Int)(h:0≤n):(c5_ (Lib.itoa n):Int)=n:=by
 obtain⟨u,rfl⟩:∃ u:Nat,n=(u:Int):=⟨n.toNat,by omega⟩;rw[Lib.itoa_nonneg,hT_]
abbrev KT:=Nat × List UInt8
def kI (l:List It):List KT:=l.map ktI
theorem hV_ {l:List Tok}{k:Nat}{s:List UInt8}{q:List KT}(h:l.map kt=(k,s) :: q):∃ t l',l=t :: l'∧t.kind=k∧t.text=s∧l'.map kt=q:=by
 obtain⟨t,l',rfl,h1,h2⟩:=List.map_eq_cons_iff.1 h;injection h1 with h3 h4
 exact⟨t,l',rfl,h3,h4,h2⟩
theorem eu_ {l:List Tok}{b:Bool}{k:Nat}{s:List UInt8}{r:List It}{q:List KT}(h:l.map kt=kI (⟨b,k,s⟩ :: r)++q):∃ t l',l=t :: l'∧t.kind=k∧t.text=s∧l'.map kt=kI r++q:=hV_ h
theorem g1_ (t:Tok)(l:List Tok)(k:Nat):sk (t :: l) k=(t.kind==k):=rfl
theorem ip_ (t:Tok)(l:List Tok)(k:Nat)(s:List UInt8):st (t :: l) k s=(t.kind==k&&t.text==s):=rfl
def gX_ (q:List KT):Prop:=∀ x q',q=x :: q'→x.1≠1∧x.1≠5∧x.1≠2∧x≠(6,cs_)
def jN_ (q:List KT):Prop:=∀ x q',q=x :: q'→x≠(6,eB_)
theorem hn_ {s:List UInt8}(q:List KT)(h:s≠cs_):gX_ ((6,s) :: q):=fun x q' e=>by
 injection e with e1 e2
 subst e1;exact⟨by simp,by simp,by simp,fun e=>h (Prod.mk.inj e).2⟩
theorem lg_ {s:List UInt8}(q:List KT)(h:s≠eB_):jN_ ((6,s) :: q):=fun x q' e=>by
 injection e with e1 e2
 subst e1;exact fun e=>h (Prod.mk.inj e).2
theorem lf_ {l:List Tok}{q:List KT}(h:l.map kt=q)(hq:gX_ q):c8_ l=false:=by
 cases l with
 | nil=>rfl
 | cons t l =>
  obtain⟨a1,a2,a3,a4⟩:=hq (kt t) (l.map kt) h.symm;unfold c8_;rw[g1_,g1_,g1_,ip_,beq_eq_false_iff_ne.2 (show t.kind≠1 from a1),beq_eq_false_iff_ne.2 (show t.kind≠5 from a2),beq_eq_false_iff_ne.2 (show t.kind≠2 from a3)];simp only[Bool.false_or,Bool.and_eq_false_iff,beq_eq_false_iff_ne]
  by_cases hk:t.kind=6
  ·exact .inr fun e=>a4 (by show (t.kind,t.text)=_;rw[hk,e])
  ·exact .inl hk
theorem mR_ {l:List Tok}{q:List KT}(h:l.map kt=q)(hq:jN_ q):st l 6 eB_=false:=by
 cases l with
 | nil=>rfl
 | cons t l =>
  have a:=hq (kt t) (l.map kt) h.symm;rw[ip_];simp only[Bool.and_eq_false_iff,beq_eq_false_iff_ne]
  by_cases hk:t.kind=6
  ·exact .inr fun e=>a (by show (t.kind,t.text)=_;rw[hk,e])
  ·exact .inl hk
def jL_ (f:List Tok→Option (Ty × List Tok))(l:List Tok)(t:Ty)(q:List KT):Prop:=∃ r,f l=some (t,r)∧r.map kt=q
def atI (d:Nat)(b:Bool)(t:Ty):List It:=if t.atomic then itF d b t else ⟨b,6,cs_⟩ :: (itF d false t++[⟨false,6,ce_⟩])
theorem e0_ (t:Tok)(l:List Tok)(k:Nat)(s:List UInt8)(h1:t.kind=k)(h2:t.text=s):st (t :: l) k s=true:=by
 rw[ip_,h1,h2];simp
theorem dR_ (t:Tok)(l:List Tok)(k:Nat)(h1:t.kind=k):sk (t :: l) k=true:=by
 rw[g1_,h1];simp
theorem aW_ (t:Tok)(l:List Tok)(k:Nat)(h1:t.kind≠k):sk (t :: l) k=false:=by
 rw[g1_];exact beq_eq_false_iff_ne.2 h1
theorem b7_ (t:Tok)(l:List Tok)(k:Nat)(s:List UInt8)(h1:t.kind≠k):st (t :: l) k s=false:=by
 rw[ip_,beq_eq_false_iff_ne.2 h1];rfl
theorem qN_ {t:Ty}(h:Std t)(hk:t.kind=1):t=gl_ t.name.data.toList:=by
 obtain⟨h1,h2⟩:=h.k1 hk;unfold gl_;rw[ej_];cases t;simp only[Ty.kind,Ty.n,Ty.args,Ty.name] at *;subst hk h1 h2;rfl
theorem pF_ {t:Ty}(h:Std t)(hk:t.kind=2):t=gm_ (63 :: Lib.itoa t.n):=by
 obtain⟨h1,h2,h3,h4⟩:=h.k2 hk;have:=mQ_ t.n h3;unfold gm_;rw[List.tail_cons,this];cases t;simp only[Ty.kind,Ty.n,Ty.args,Ty.name] at *;subst hk h1 h2;rfl
theorem ph_ {t:Ty}(h:Std t)(hk:t.kind=3):t=fb_ t.name.data.toList t.args:=by
 have h1:t.n=0:=by rcases ((bW_ t).1 h).1 with h|h|h|h|h<;>first|omega|exact h.2
 unfold fb_;rw[ej_];cases t;simp only[Ty.kind,Ty.n,Ty.args,Ty.name] at *;subst hk h1;rfl
theorem qP_ {t x y:Ty}(h:Std t)(hk:t.kind=4)(hx:t.args=[x,y]):t=hI_ x y:=by
 obtain⟨h1,h2,_⟩:=h.k4 hk;unfold hI_;cases t;simp only[Ty.kind,Ty.n,Ty.args,Ty.name] at *;subst hk h1 h2 hx;rfl
theorem qQ_ {t x:Ty}(h:Std t)(hk:t.kind=5)(hx:t.args=[x]):t=eS_ t.name.data.toList x:=by
 obtain⟨h1,_⟩:=h.k5 hk;unfold eS_;rw[ej_];cases t;simp only[Ty.kind,Ty.n,Ty.args,Ty.name] at *;subst hk h1 hx;rfl
theorem iW_ {t:Ty}(hs:Std t)(ha:t.atomic=true)(d:Nat)(b:Bool)(l:List Tok)(q:List KT)(n:Nat)(h:l.map kt=kI (itF (d+1) b t)++q):jL_ (aO_ (n+1)) l t q:=by
 rcases ((bW_ t).1 hs).1 with hk|hk|hk|hk|hk
 ·rw[gH_ _ _ _ hk.1] at h
  obtain⟨t',l',rfl,h1,h2,h3⟩:=eu_ h;refine⟨l',?_,h3⟩;rw[aO_,if_pos (dR_ _ _ _ h1)];show some (gl_ t'.text,l')=_;rw[h2,← qN_ hs hk.1]
 ·rw[fm_ _ _ _ hk.1] at h
  obtain⟨t',l',rfl,h1,h2,h3⟩:=eu_ h;refine⟨l',?_,h3⟩;rw[aO_,aW_ _ _ _ (by omega),aW_ _ _ _ (by omega),dR_ _ _ _ h1];show some (gm_ t'.text,l')=_;rw[h2,← pF_ hs hk.1]
 ·have hz:t.args=[]:=by
   unfold Ty.atomic at ha;simp only[Bool.or_eq_true,Bool.and_eq_true,beq_iff_eq] at ha;cases hl:t.args with
   | nil=>rfl
   | cons a xs=>exfalso;simp[hl] at ha;omega
  have e:=ph_ hs hk.1;rw[fN_ _ _ _ hk.1,hz] at h;obtain⟨t',l',rfl,h1,h2,h3⟩:=eu_ h;refine⟨l',?_,h3⟩;rw[aO_,aW_ _ _ _ (by omega),dR_ _ _ _ h1];show some (fb_ t'.text [],l')=_;rw[h2]
  conv=>rhs;rw[e,hz]
 ·exfalso;unfold Ty.atomic at ha;simp[hk.1] at ha
 ·exfalso;unfold Ty.atomic at ha;simp[hk.1] at ha
theorem oW_ (d:Nat)(b:Bool)(t:Ty)(hs:Std t):∃ k s r,kI (atI (d+1) b t)=(k,s) :: r∧(k=1∨k=5∨k=2∨k=6∧s=cs_):=by
 unfold atI
 split
 ·next ha =>
  rcases ((bW_ t).1 hs).1 with hk|hk|hk|hk|hk
  ·rw[gH_ _ _ _ hk.1];exact⟨_,_,_,rfl,.inl rfl⟩
  ·rw[fm_ _ _ _ hk.1];exact⟨_,_,_,rfl,.inr (.inl rfl)⟩
  ·rw[fN_ _ _ _ hk.1];exact⟨_,_,_,rfl,.inr (.inr (.inl rfl))⟩
  ·exfalso;unfold Ty.atomic at ha;simp[hk.1] at ha
  ·exfalso;unfold Ty.atomic at ha;simp[hk.1] at ha
 ·exact⟨_,_,_,rfl,.inr (.inr (.inr ⟨rfl,rfl⟩))⟩
theorem chain:∀ (d:Nat) (t:Ty),t.depth≤d→Std t→t.kind=5→∃ (vs:List (List UInt8)) (body:Ty) (d':Nat),vs≠[]∧t=vs.foldr eS_ body∧body.kind≠5∧d'<d∧body.depth≤d'∧Std body ∧
  ∀ b,itF d b t=⟨b,3,fa⟩ :: (vs.map (fun s=>(⟨true,1,s⟩:It))++⟨false,6,dot⟩ :: itF d' true body):=by
 intro d
 induction d with
 | zero=>intro t h;rw[t.depth_eq] at h;omega
 | succ d ih =>
  intro t h hs hk;obtain⟨x,hx,_⟩:=go_ hs hk;have hxm:x∈t.args:=by rw[hx];simp
  have hd:x.depth≤d:=by have:=aX_ _ hxm;rw[t.depth_eq] at h;omega
  have e:=qQ_ hs hk hx
  by_cases h5:x.kind=5
  ·obtain⟨vs,body,d',h1,h2,h3,h4,h6,h7,h8⟩:=ih x hd (hs.args x hxm) h5
   refine⟨t.name.data.toList :: vs,body,d',by simp,by rw[List.foldr_cons,← h2];exact e,h3,by omega,h6,h7,fun b=>?_⟩;rw[m2_ _ _ _ x hk hx,if_pos h5,h8 true];rfl
  ·refine⟨[t.name.data.toList],x,d,by simp,e,h5,by omega,hd,hs.args x hxm,fun b=>?_⟩
   rw[m2_ _ _ _ x hk hx,if_neg h5];rfl
theorem kg_ (a b:List It):kI (a++b)=kI a++kI b:=List.map_append
theorem qb_ (i:It)(b:List It):kI (i :: b)=(i.k,i.s) :: kI b:=rfl
theorem back:∀ (d:Nat) (t:Ty),t.depth≤d→Std t →
  (∀ b l q n,l.map kt=kI (itF d b t)++q→gX_ q→jN_ q→4*(itF d b t).length+4≤n→jL_ (bM_ n) l t q) ∧
  (t.kind<4→∀ b l q n,l.map kt=kI (itF d b t)++q→gX_ q→4*(itF d b t).length+3≤n→jL_ (ci_ n) l t q):=by
 intro d
 induction d using Nat.strongRecOn with
 | _ d ihd =>
  intro t h hs;cases d with
  | zero=>rw[t.depth_eq] at h;omega
  | succ d =>
  have hd:∀ a∈t.args,a.depth≤d:=fun a ha=>by have:=aX_ _ ha;rw[t.depth_eq] at h;omega
  have hsa:=hs.args
  -- an argument in parentheses
  have hpar:∀ a∈t.args,∀ (b:Bool) (l:List Tok) (q:List KT) (n:Nat),l.map kt=kI (⟨b,6,cs_⟩ :: (itF d false a++[⟨false,6,ce_⟩]))++q→4*(itF d false a).length+5≤n→jL_ (aO_ n) l a q:=by
   intro a ha b l q n hl hn;cases n with
   | zero=>omega
   | succ n =>
    obtain⟨t',l',rfl,h1,h2,h3⟩:=eu_ hl;rw[kg_,List.append_assoc] at h3;obtain⟨r,hr,hrq⟩:=(ihd d (by omega) a (hd a ha) (hsa a ha)).1 false l' _ n h3 (hn_ _ (by decide)) (lg_ _ (by decide)) (by omega);obtain⟨t2,l2,rfl,g1,g2,g3⟩:=eu_ hrq;refine⟨l2,?_,g3⟩;rw[aO_,aW_ _ _ _ (by omega),aW_ _ _ _ (by omega),aW_ _ _ _ (by omega),e0_ _ _ _ _ h1 h2];simp only[Bool.false_eq_true,if_false,if_true,List.tail_cons];rw[hr];simp only;rw[if_pos (e0_ _ _ _ _ g1 g2)];rfl
  have hat:∀ a∈t.args,∀ (l:List Tok) (q:List KT) (n:Nat),l.map kt=kI (atI d true a)++q→4*(atI d true a).length≤n→1≤n→jL_ (aO_ n) l a q:=by
   intro a ha l q n hl hn hn1;unfold atI at hl hn
   split at hl
   ·next hat =>
    cases n with
    | zero=>omega
    | succ n =>
     cases d with
     | zero=>have:=hd a ha;rw[a.depth_eq] at this;omega
     | succ d=>exact iW_ (hsa a ha) hat d true l q n hl
   ·next hat =>
    rw[if_neg hat] at hn;simp only[List.length_cons,List.length_append,List.length_nil] at hn;exact hpar a ha true l q n hl (by omega)
  have happ:t.kind<4→∀ b l q n,l.map kt=kI (itF (d+1) b t)++q→gX_ q→4*(itF (d+1) b t).length+3≤n→jL_ (ci_ n) l t q:=by
   intro h4 b l q n hl hq hn
   by_cases h3:t.kind=3
   ·have e:=ph_ hs h3
    have hargs:∀ (xs acc:List Ty) (l:List Tok) (n:Nat),(∀ a∈xs,a∈t.args)→l.map kt=kI (xs.flatMap (atI d true))++q→4*(xs.flatMap (atI d true)).length+1≤n→jL_ (bb_ n t.name.data.toList acc) l (fb_ t.name.data.toList (acc++xs)) q:=by
     intro xs
     induction xs with
     | nil =>
      intro acc l n _ hl hn;cases n with
      | zero=>omega
      | succ n =>
       refine⟨l,?_,hl⟩;rw[bb_,lf_ hl hq,List.append_nil];rfl
     | cons a xs ih =>
      intro acc l n ha hl hn;cases n with
      | zero=>omega
      | succ n =>
       rw[List.flatMap_cons,kg_,List.append_assoc] at hl;rw[List.flatMap_cons,List.length_append] at hn;have ham:=ha a (by simp);obtain⟨d',rfl⟩:∃ d',d=d'+1:=by
        cases d with
        | zero=>have:=hd a ham;rw[a.depth_eq] at this;omega
        | succ d=>exact⟨d,rfl⟩
       obtain⟨k,s,r',hh,hk⟩:=oW_ d' true a (hsa a ham);have hlen:1≤(atI (d'+1) true a).length:=by
        have:=congrArg List.length hh;unfold kI at this;rw[List.length_map] at this;rw[this];simp
       obtain⟨r,hr,hrq⟩:=hat a ham l _ n hl (by omega) (by omega);obtain⟨r2,hr2,hrq2⟩:=ih (acc++[a]) r n (fun c hc=>ha c (by simp[hc])) hrq (by omega);refine⟨r2,?_,hrq2⟩;have hst:c8_ l=true:=by
        rw[hh] at hl;obtain⟨t',l',rfl,h1,h2,_⟩:=hV_ hl;unfold c8_
        rcases hk with hk|hk|hk|hk
        ·rw[dR_ _ _ 1 (by omega)];rfl
        ·rw[dR_ _ _ 5 (by omega)];simp
        ·rw[dR_ _ _ 2 (by omega)];simp
        ·rw[e0_ _ _ 6 cs_ (by omega) (by rw[h2];exact hk.2)];simp
       rw[bb_,if_pos hst,hr];simp only;rw[hr2,List.append_assoc];rfl
    rw[fN_ _ _ _ h3] at hl;rw[fN_ _ _ _ h3,List.length_cons] at hn;obtain⟨t',l',rfl,h1,h2,h3'⟩:=eu_ hl;cases n with
    | zero=>omega
    | succ n =>
     obtain⟨r,hr,hrq⟩:=hargs t.args [] l' n (fun a ha=>ha) h3' (by
      show 4*(t.args.flatMap fun x=>if x.atomic then itF d true x else ⟨true,6,cs_⟩ :: (itF d false x++[⟨false,6,ce_⟩])).length+1≤n;omega)
     refine⟨r,?_,hrq⟩;rw[ci_,if_pos (dR_ _ _ 2 h1)];show bb_ n t'.text [] l'=_;have h2':t'.text=t.name.data.toList:=h2;rw[h2',hr,List.nil_append,← e]
   ·have ha:t.atomic=true:=by
     unfold Ty.atomic;have:=hs.kind;have:t.kind=1∨t.kind=2:=by omega
     rcases this with h|h<;>simp[h]
    cases n with
    | zero=>omega
    | succ n =>
     cases n with
     | zero=>omega
     | succ n =>
      obtain⟨r,hr,hrq⟩:=iW_ hs ha d b l q n hl;refine⟨r,?_,hrq⟩;have hsk:sk l 2=false:=by
       have:=hs.kind;have:t.kind=1∨t.kind=2:=by omega
       rcases this with h|h
       ·rw[gH_ _ _ _ h] at hl
        obtain⟨t',l',rfl,h1,_⟩:=eu_ hl;exact aW_ _ _ _ (by omega)
       ·rw[fm_ _ _ _ h] at hl
        obtain⟨t',l',rfl,h1,_⟩:=eu_ hl;exact aW_ _ _ _ (by omega)
      rw[ci_,hsk];exact hr
  refine⟨?_,happ⟩;intro b l q n hl hq hqa hn;cases n with
  | zero=>omega
  | succ n =>
   by_cases h5:t.kind=5
   ·obtain⟨vs,body,d',h1,h2,h3,h4,h6,h7,h8⟩:=chain (d+1) t h hs h5
    rw[h8 b] at hl;rw[h8 b] at hn;simp only[List.length_cons,List.length_append,List.length_map] at hn;obtain⟨t',l',rfl,e1,e2,e3⟩:=eu_ hl;rw[kg_,List.append_assoc] at e3;obtain⟨l1,l2,rfl,g1,g2⟩:=List.map_eq_append_iff.1 e3;obtain⟨td,l3,rfl,f1,f2,f3⟩:=eu_ g2;have hv1:∀ x∈l1,(x.kind==1)=true:=by
     intro x hx;have:kt x∈l1.map kt:=List.mem_map_of_mem hx;rw[g1] at this;unfold kI at this;rw[List.map_map,List.mem_map] at this;obtain⟨s,_,hs'⟩:=this;have:=congrArg Prod.fst hs';simp only[beq_iff_eq];exact this.symm
    have f1':(td.kind==1)=false:=by rw[f1];rfl
    have hvars:c2_ (l1++td :: l3)=l1:=by
     unfold c2_;rw[List.takeWhile_append_of_pos hv1,List.takeWhile_cons,f1'];simp
    have hrest:cQ_ (l1++td :: l3)=td :: l3:=by
     unfold cQ_;rw[List.dropWhile_append_of_pos hv1,List.dropWhile_cons,f1'];simp
    have hfold:∀ (l1:List Tok) (vs:List (List UInt8)),l1.map kt=kI (vs.map (fun s=>(⟨true,1,s⟩:It)))→l1.foldr (fun v t=>eS_ v.text t) body=vs.foldr eS_ body:=by
     intro l1
     induction l1 with
     | nil =>
      intro vs hh;cases vs with
      | nil=>rfl
      | cons v vs=>cases hh
     | cons x l1 ih =>
      intro vs hh;cases vs with
      | nil=>cases hh
      | cons v vs =>
       obtain⟨x',l',he,_,hx2,hx3⟩:=hV_ (k:=1) (s:=v) (q:=kI (vs.map fun s=>(⟨true,1,s⟩:It))) hh;injection he with he1 he2
       subst he1 he2;rw[List.foldr_cons,List.foldr_cons,ih vs hx3,hx2]
    cases n with
    | zero=>omega
    | succ n =>
     obtain⟨r,hr,hrq⟩:=(ihd d' (by omega) body h6 h7).1 true l3 q n f3 hq hqa (by omega);refine⟨r,?_,hrq⟩;have hne:l1.isEmpty=false:=by
      cases l1 with
      | nil =>
       cases vs with
       | nil=>exact absurd rfl h1
       | cons v vs=>cases g1
      | cons=>rfl
     have hall:eX_ (n+1) (l1++td :: l3)=some (t,r):=by
      rw[eX_,hvars,hrest,e0_ _ _ 6 dot f1 f2,hne];show (match bM_ n l3 with|none=>none|some (t,r)=>some (l1.foldr (fun (v:Tok) t=>eS_ v.text t) t,r))=_;rw[hr];show some (l1.foldr (fun (v:Tok) t=>eS_ v.text t) body,r)=_;rw[hfold l1 vs g1,← h2]
     rw[bM_,if_pos (e0_ _ _ 3 fa e1 e2)];exact hall
   ·by_cases h4:t.kind=4
    ·obtain⟨x,y,hxy⟩:∃ x y,t.args=[x,y]:=by
      match hl:t.args,(hs.k4 h4).2.2 with
      | [x,y],_=>exact⟨x,y,rfl⟩
     have hxm:x∈t.args:=by rw[hxy];simp
     have hym:y∈t.args:=by rw[hxy];simp
     rw[m1_ _ _ _ x y h4 hxy,kg_,List.append_assoc] at hl;rw[m1_ _ _ _ x y h4 hxy,List.length_append,List.length_cons] at hn;rw[qb_,List.cons_append] at hl;have e:=qP_ hs h4 hxy;have hfa:st l 3 fa=false∧∃ r,ci_ n l=some (x,r)∧r.map kt=(6,eB_) :: (kI (itF d true y)++q):=by
      by_cases hx4:x.kind<4
      ·rw[decide_eq_true hx4,if_pos rfl] at hl hn
       refine⟨?_,(ihd d (by omega) x (hd x hxm) (hsa x hxm)).2 hx4 b l _ n hl (hn_ _ (by decide)) (by omega)⟩;obtain⟨d',rfl⟩:∃ d',d=d'+1:=by
        cases d with
        | zero=>have:=hd x hxm;rw[x.depth_eq] at this;omega
        | succ d=>exact⟨d,rfl⟩
       have hxk:=(hsa x hxm).kind;have:x.kind=1∨x.kind=2∨x.kind=3:=by omega
       rcases this with hk|hk|hk
       ·rw[gH_ _ _ _ hk] at hl
        obtain⟨t',l',rfl,e1,_⟩:=eu_ hl;exact b7_ _ _ _ _ (by omega)
       ·rw[fm_ _ _ _ hk] at hl
        obtain⟨t',l',rfl,e1,_⟩:=eu_ hl;exact b7_ _ _ _ _ (by omega)
       ·rw[fN_ _ _ _ hk] at hl
        obtain⟨t',l',rfl,e1,_⟩:=eu_ hl;exact b7_ _ _ _ _ (by omega)
      ·rw[decide_eq_false hx4] at hl hn
       simp only[Bool.false_eq_true,if_false] at hl hn;simp only[List.length_cons,List.length_append,List.length_nil] at hn;cases n with
       | zero=>omega
       | succ n =>
        obtain⟨r,hr,hrq⟩:=hpar x hxm b l _ n hl (by omega);obtain⟨t',l',rfl,e1,e2,_⟩:=eu_ hl;refine⟨b7_ _ _ _ _ (by omega),r,?_,hrq⟩;rw[ci_,aW_ _ _ _ (by omega)];exact hr
     obtain⟨hst,r,hr,hrq⟩:=hfa;obtain⟨ta,l2,rfl,g1,g2,g3⟩:=hV_ hrq;obtain⟨r2,hr2,hrq2⟩:=(ihd d (by omega) y (hd y hym) (hsa y hym)).1 true l2 q n g3 hq hqa (by omega);refine⟨r2,?_,hrq2⟩;rw[bM_,hst,hr];simp only[Bool.false_eq_true,if_false];rw[if_pos (e0_ _ _ 6 eB_ g1 g2)];simp only[List.tail_cons];rw[hr2];show some (hI_ x y,r2)=some (t,r2);rw[← e]
    ·have hk:=hs.kind
     obtain⟨r,hr,hrq⟩:=happ (by omega) b l q n hl hq (by omega);refine⟨r,?_,hrq⟩;have hst:st l 3 fa=false:=by
      have:t.kind=1∨t.kind=2∨t.kind=3:=by omega
      rcases this with hk|hk|hk
      ·rw[gH_ _ _ _ hk] at hl
       obtain⟨t',l',rfl,e1,_⟩:=eu_ hl;exact b7_ _ _ _ _ (by omega)
      ·rw[fm_ _ _ _ hk] at hl
       obtain⟨t',l',rfl,e1,_⟩:=eu_ hl;exact b7_ _ _ _ _ (by omega)
      ·rw[fN_ _ _ _ hk] at hl
       obtain⟨t',l',rfl,e1,_⟩:=eu_ hl;exact b7_ _ _ _ _ (by omega)
     rw[bM_,hst,hr];simp only[Bool.false_eq_true,if_false];rw[mR_ hrq hqa];rfl
theorem ql_ (u:Nat)(h:u<1000000000000):(Lib.decDigits u).length≤12:=(fQ_ u).2.2.2 12 (by omega) h
theorem kw_ (n:Nat):(aU_ n).data.toList=120 :: Lib.decDigits n:=by
 unfold aU_;rw[Lib.itoa_nonneg,ByteArray.data_append];simp[aa_]
theorem nA_ (nm:ByteArray)(u:Ty)(hu:cM_ u)(hus:u.size≤50000000000):∀ (d:Nat) (t:Ty),t.depth≤d→cM_ t→t.size≤50000000000→cM_ (eC_ d nm u t):=by
 intro d
 induction d with
 | zero=>intro t h;rw[t.depth_eq] at h;omega
 | succ d ih =>
  intro t h hg hs;have hd:∀ a∈t.args,a.depth≤d∧a.size≤50000000000:=fun a ha=>by
   have:=aX_ _ ha;have:=cr_ _ ha;rw[t.depth_eq] at h;rw[t.size_eq] at hs;omega
  rw[eC_]
  split
  ·exact hg
  ·split
   ·exact hu
   ·split
    ·next hc =>
     simp only[Bool.and_eq_true,beq_iff_eq] at hc;obtain⟨b,hb,hb0⟩:=kA_ hg.1 hc.1;have hbm:b∈t.args:=by rw[hb];simp
     have hnm:=((c9_ t).1 hg.2).1;unfold hg_;rw[hb0];have hfl:=cX_ u;have hfb:=cX_ b;have hbs:=(hd b hbm).2;have hfs:=eg_ t.name (aJ_ u++aJ_ b++[t.name,nm]) (by simp;omega) (hnm.1 hc.1);generalize bK_ t.name (aJ_ u++aJ_ b++[t.name,nm])=n at *;obtain⟨a1,a2,a3,a4⟩:=eJ_ t.name n b (co_ hg b hbm) hfs.2 (by omega);have:=ih (dm_ t.name n b) (by rw[a1];exact (hd b hbm).1) a3 (by omega);exact gc_ hfs.1 hfs.2 this
    ·refine gJ_ hg _ (by simp) fun a ha=>?_
     obtain⟨b,hb,rfl⟩:=List.mem_map.1 ha;exact ih b (hd b hb).1 (co_ hg b hb) (hd b hb).2
theorem ny_ (nm:ByteArray)(u t:Ty)(ht:cM_ t)(hu:cM_ u)(hs:t.size≤50000000000)(hus:u.size≤50000000000):cM_ (ep_ nm u t):=nA_ nm u hu hus _ _ (az_ _) ht hs
end Go.Proofs.YtkihnodkhnahiaaGreatDoor.Tp

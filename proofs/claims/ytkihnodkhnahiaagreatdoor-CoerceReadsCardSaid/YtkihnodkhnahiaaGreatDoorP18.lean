/- Packed. -/
import Derived.Test.YtkihnodkhnahiaaGreatDoorP15
set_option maxRecDepth 100000
set_option maxHeartbeats 6400000
namespace Go.Proofs.YtkihnodkhnahiaaGreatDoor.Tp
open Lx
theorem dX_ (x:ByteArray):aa_ x.data.toList=x:=by apply ByteArray.ext;simp[aa_]
theorem jm_ (n:Int)(h:0≤n):(dw_ (Lib.itoa n):Int)=n:=by
 obtain⟨u,rfl⟩:∃ u:Nat,n=(u:Int):=⟨n.toNat,by omega⟩;rw[Lib.itoa_nonneg,iw_]
abbrev KT:=Nat × List UInt8
def kI (l:List It):List KT:=l.map ktI
theorem dh_ {l:List Tok}{k:Nat}{s:List UInt8}{q:List KT}(h:l.map kt=(k,s) :: q):∃ t l',l=t :: l'∧t.kind=k∧t.text=s∧l'.map kt=q:=by
 obtain⟨t,l',rfl,h1,h2⟩:=List.map_eq_cons_iff.1 h;injection h1 with h3 h4
 exact⟨t,l',rfl,h3,h4,h2⟩
theorem dR_ {l:List Tok}{b:Bool}{k:Nat}{s:List UInt8}{r:List It}{q:List KT}(h:l.map kt=kI (⟨b,k,s⟩ :: r)++q):∃ t l',l=t :: l'∧t.kind=k∧t.text=s∧l'.map kt=kI r++q:=dh_ h
theorem hv_ (t:Tok)(l:List Tok)(k:Nat):sk (t :: l) k=(t.kind==k):=rfl
theorem hu_ (t:Tok)(l:List Tok)(k:Nat)(s:List UInt8):st (t :: l) k s=(t.kind==k&&t.text==s):=rfl
def hp_ (q:List KT):Prop:=∀ x q',q=x :: q'→x.1≠1∧x.1≠5∧x.1≠2∧x≠(6,bX_)
def kz_ (q:List KT):Prop:=∀ x q',q=x :: q'→x≠(6,dj_)
theorem f5_ {s:List UInt8}(q:List KT)(h:s≠bX_):hp_ ((6,s) :: q):=fun x q' e=>by
 injection e with e1 e2
 subst e1;exact⟨by simp,by simp,by simp,fun e=>h (Prod.mk.inj e).2⟩
theorem hT_ {s:List UInt8}(q:List KT)(h:s≠dj_):kz_ ((6,s) :: q):=fun x q' e=>by
 injection e with e1 e2
 subst e1;exact fun e=>h (Prod.mk.inj e).2
theorem mf_ {l:List Tok}{q:List KT}(h:l.map kt=q)(hq:hp_ q):dl_ l=false:=by
 cases l with
 | nil=>rfl
 | cons t l =>
  obtain⟨a1,a2,a3,a4⟩:=hq (kt t) (l.map kt) h.symm;unfold dl_;rw[hv_,hv_,hv_,hu_,beq_eq_false_iff_ne.2 (show t.kind≠1 from a1),beq_eq_false_iff_ne.2 (show t.kind≠5 from a2),beq_eq_false_iff_ne.2 (show t.kind≠2 from a3)];simp only[Bool.false_or,Bool.and_eq_false_iff,beq_eq_false_iff_ne]
  by_cases hk:t.kind=6
  ·exact .inr fun e=>a4 (by show (t.kind,t.text)=_;rw[hk,e])
  ·exact .inl hk
theorem nJ_ {l:List Tok}{q:List KT}(h:l.map kt=q)(hq:kz_ q):st l 6 dj_=false:=by
 cases l with
 | nil=>rfl
 | cons t l =>
  have a:=hq (kt t) (l.map kt) h.symm;rw[hu_];simp only[Bool.and_eq_false_iff,beq_eq_false_iff_ne]
  by_cases hk:t.kind=6
  ·exact .inr fun e=>a (by show (t.kind,t.text)=_;rw[hk,e])
  ·exact .inl hk
def kx_ (f:List Tok→Option (Ty × List Tok))(l:List Tok)(t:Ty)(q:List KT):Prop:=∃ r,f l=some (t,r)∧r.map kt=q
def atI (d:Nat)(b:Bool)(t:Ty):List It:=if t.atomic then itF d b t else ⟨b,6,bX_⟩ :: (itF d false t++[⟨false,6,bB_⟩])
theorem cG_ (t:Tok)(l:List Tok)(k:Nat)(s:List UInt8)(h1:t.kind=k)(h2:t.text=s):st (t :: l) k s=true:=by
 rw[hu_,h1,h2];simp
theorem cA_ (t:Tok)(l:List Tok)(k:Nat)(h1:t.kind=k):sk (t :: l) k=true:=by
 rw[hv_,h1];simp
theorem a0_ (t:Tok)(l:List Tok)(k:Nat)(h1:t.kind≠k):sk (t :: l) k=false:=by
 rw[hv_];exact beq_eq_false_iff_ne.2 h1
theorem b6_ (t:Tok)(l:List Tok)(k:Nat)(s:List UInt8)(h1:t.kind≠k):st (t :: l) k s=false:=by
 rw[hu_,beq_eq_false_iff_ne.2 h1];rfl
theorem r0_ {t:Ty}(h:Std t)(hk:t.kind=1):t=gG_ t.name.data.toList:=by
 obtain⟨h1,h2⟩:=h.k1 hk;unfold gG_;rw[dX_];cases t;simp only[Ty.kind,Ty.n,Ty.args,Ty.name] at *;subst hk h1 h2;rfl
theorem qN_ {t:Ty}(h:Std t)(hk:t.kind=2):t=gH_ (63 :: Lib.itoa t.n):=by
 obtain⟨h1,h2,h3,h4⟩:=h.k2 hk;have:=jm_ t.n h3;unfold gH_;rw[List.tail_cons,this];cases t;simp only[Ty.kind,Ty.n,Ty.args,Ty.name] at *;subst hk h1 h2;rfl
theorem qn_ {t:Ty}(h:Std t)(hk:t.kind=3):t=fu_ t.name.data.toList t.args:=by
 have h1:t.n=0:=by rcases ((bD_ t).1 h).1 with h|h|h|h|h<;>first|omega|exact h.2
 unfold fu_;rw[dX_];cases t;simp only[Ty.kind,Ty.n,Ty.args,Ty.name] at *;subst hk h1;rfl
theorem r2_ {t x y:Ty}(h:Std t)(hk:t.kind=4)(hx:t.args=[x,y]):t=ik_ x y:=by
 obtain⟨h1,h2,_⟩:=h.k4 hk;unfold ik_;cases t;simp only[Ty.kind,Ty.n,Ty.args,Ty.name] at *;subst hk h1 h2 hx;rfl
theorem r3_ {t x:Ty}(h:Std t)(hk:t.kind=5)(hx:t.args=[x]):t=e9_ t.name.data.toList x:=by
 obtain⟨h1,_⟩:=h.k5 hk;unfold e9_;rw[dX_];cases t;simp only[Ty.kind,Ty.n,Ty.args,Ty.name] at *;subst hk h1 hx;rfl
theorem jG_ {t:Ty}(hs:Std t)(ha:t.atomic=true)(d:Nat)(b:Bool)(l:List Tok)(q:List KT)(n:Nat)(h:l.map kt=kI (itF (d+1) b t)++q):kx_ (aU_ (n+1)) l t q:=by
 rcases ((bD_ t).1 hs).1 with hk|hk|hk|hk|hk
 ·rw[eH_ _ _ _ hk.1] at h
  obtain⟨t',l',rfl,h1,h2,h3⟩:=dR_ h;refine⟨l',?_,h3⟩;rw[aU_,if_pos (cA_ _ _ _ h1)];show some (gG_ t'.text,l')=_;rw[h2,← r0_ hs hk.1]
 ·rw[dV_ _ _ _ hk.1] at h
  obtain⟨t',l',rfl,h1,h2,h3⟩:=dR_ h;refine⟨l',?_,h3⟩;rw[aU_,a0_ _ _ _ (by omega),a0_ _ _ _ (by omega),cA_ _ _ _ h1];show some (gH_ t'.text,l')=_;rw[h2,← qN_ hs hk.1]
 ·have hz:t.args=[]:=by
   unfold Ty.atomic at ha;simp only[Bool.or_eq_true,Bool.and_eq_true,beq_iff_eq] at ha;cases hl:t.args with
   | nil=>rfl
   | cons a xs=>exfalso;simp[hl] at ha;omega
  have e:=qn_ hs hk.1;rw[er_ _ _ _ hk.1,hz] at h;obtain⟨t',l',rfl,h1,h2,h3⟩:=dR_ h;refine⟨l',?_,h3⟩;rw[aU_,a0_ _ _ _ (by omega),cA_ _ _ _ h1];show some (fu_ t'.text [],l')=_;rw[h2]
  conv=>rhs;rw[e,hz]
 ·exfalso;unfold Ty.atomic at ha;simp[hk.1] at ha
 ·exfalso;unfold Ty.atomic at ha;simp[hk.1] at ha
theorem p3_ (d:Nat)(b:Bool)(t:Ty)(hs:Std t):∃ k s r,kI (atI (d+1) b t)=(k,s) :: r∧(k=1∨k=5∨k=2∨k=6∧s=bX_):=by
 unfold atI
 split
 ·next ha =>
  rcases ((bD_ t).1 hs).1 with hk|hk|hk|hk|hk
  ·rw[eH_ _ _ _ hk.1];exact⟨_,_,_,rfl,.inl rfl⟩
  ·rw[dV_ _ _ _ hk.1];exact⟨_,_,_,rfl,.inr (.inl rfl)⟩
  ·rw[er_ _ _ _ hk.1];exact⟨_,_,_,rfl,.inr (.inr (.inl rfl))⟩
  ·exfalso;unfold Ty.atomic at ha;simp[hk.1] at ha
  ·exfalso;unfold Ty.atomic at ha;simp[hk.1] at ha
 ·exact⟨_,_,_,rfl,.inr (.inr (.inr ⟨rfl,rfl⟩))⟩
theorem chain:∀ (d:Nat) (t:Ty),t.depth≤d→Std t→t.kind=5→∃ (vs:List (List UInt8)) (body:Ty) (d':Nat),vs≠[]∧t=vs.foldr e9_ body∧body.kind≠5∧d'<d∧body.depth≤d'∧Std body ∧
  ∀ b,itF d b t=⟨b,3,fa⟩ :: (vs.map (fun s=>(⟨true,1,s⟩:It))++⟨false,6,dot⟩ :: itF d' true body):=by
 intro d
 induction d with
 | zero=>intro t h;rw[t.depth_eq] at h;omega
 | succ d ih =>
  intro t h hs hk;obtain⟨x,hx,_⟩:=gJ_ hs hk;have hxm:x∈t.args:=by rw[hx];simp
  have hd:x.depth≤d:=by have:=aT_ _ hxm;rw[t.depth_eq] at h;omega
  have e:=r3_ hs hk hx
  by_cases h5:x.kind=5
  ·obtain⟨vs,body,d',h1,h2,h3,h4,h6,h7,h8⟩:=ih x hd (hs.args x hxm) h5
   refine⟨t.name.data.toList :: vs,body,d',by simp,by rw[List.foldr_cons,← h2];exact e,h3,by omega,h6,h7,fun b=>?_⟩;rw[f7_ _ _ _ x hk hx,if_pos h5,h8 true];rfl
  ·refine⟨[t.name.data.toList],x,d,by simp,e,h5,by omega,hd,hs.args x hxm,fun b=>?_⟩
   rw[f7_ _ _ _ x hk hx,if_neg h5];rfl
theorem fd_ (a b:List It):kI (a++b)=kI a++kI b:=List.map_append
theorem ro_ (i:It)(b:List It):kI (i :: b)=(i.k,i.s) :: kI b:=rfl
theorem back:∀ (d:Nat) (t:Ty),t.depth≤d→Std t →
  (∀ b l q n,l.map kt=kI (itF d b t)++q→hp_ q→kz_ q→4*(itF d b t).length+4≤n→kx_ (bT_ n) l t q) ∧
  (t.kind<4→∀ b l q n,l.map kt=kI (itF d b t)++q→hp_ q→4*(itF d b t).length+3≤n→kx_ (cm_ n) l t q):=by
 intro d
 induction d using Nat.strongRecOn with
 | _ d ihd =>
  intro t h hs;cases d with
  | zero=>rw[t.depth_eq] at h;omega
  | succ d =>
  have hd:∀ a∈t.args,a.depth≤d:=fun a ha=>by have:=aT_ _ ha;rw[t.depth_eq] at h;omega
  have hsa:=hs.args
  -- an argument in parentheses
  have hpar:∀ a∈t.args,∀ (b:Bool) (l:List Tok) (q:List KT) (n:Nat),l.map kt=kI (⟨b,6,bX_⟩ :: (itF d false a++[⟨false,6,bB_⟩]))++q→4*(itF d false a).length+5≤n→kx_ (aU_ n) l a q:=by
   intro a ha b l q n hl hn;cases n with
   | zero=>omega
   | succ n =>
    obtain⟨t',l',rfl,h1,h2,h3⟩:=dR_ hl;rw[fd_,List.append_assoc] at h3;obtain⟨r,hr,hrq⟩:=(ihd d (by omega) a (hd a ha) (hsa a ha)).1 false l' _ n h3 (f5_ _ (by decide)) (hT_ _ (by decide)) (by omega);obtain⟨t2,l2,rfl,g1,g2,g3⟩:=dR_ hrq;refine⟨l2,?_,g3⟩;rw[aU_,a0_ _ _ _ (by omega),a0_ _ _ _ (by omega),a0_ _ _ _ (by omega),cG_ _ _ _ _ h1 h2];simp only[Bool.false_eq_true,if_false,if_true,List.tail_cons];rw[hr];simp only;rw[if_pos (cG_ _ _ _ _ g1 g2)];rfl
  have hat:∀ a∈t.args,∀ (l:List Tok) (q:List KT) (n:Nat),l.map kt=kI (atI d true a)++q→4*(atI d true a).length≤n→1≤n→kx_ (aU_ n) l a q:=by
   intro a ha l q n hl hn hn1;unfold atI at hl hn
   split at hl
   ·next hat =>
    cases n with
    | zero=>omega
    | succ n =>
     cases d with
     | zero=>have:=hd a ha;rw[a.depth_eq] at this;omega
     | succ d=>exact jG_ (hsa a ha) hat d true l q n hl
   ·next hat =>
    rw[if_neg hat] at hn;simp only[List.length_cons,List.length_append,List.length_nil] at hn;exact hpar a ha true l q n hl (by omega)
  have happ:t.kind<4→∀ b l q n,l.map kt=kI (itF (d+1) b t)++q→hp_ q→4*(itF (d+1) b t).length+3≤n→kx_ (cm_ n) l t q:=by
   intro h4 b l q n hl hq hn
   by_cases h3:t.kind=3
   ·have e:=qn_ hs h3
    have hargs:∀ (xs acc:List Ty) (l:List Tok) (n:Nat),(∀ a∈xs,a∈t.args)→l.map kt=kI (xs.flatMap (atI d true))++q→4*(xs.flatMap (atI d true)).length+1≤n→kx_ (bh_ n t.name.data.toList acc) l (fu_ t.name.data.toList (acc++xs)) q:=by
     intro xs
     induction xs with
     | nil =>
      intro acc l n _ hl hn;cases n with
      | zero=>omega
      | succ n =>
       refine⟨l,?_,hl⟩;rw[bh_,mf_ hl hq,List.append_nil];rfl
     | cons a xs ih =>
      intro acc l n ha hl hn;cases n with
      | zero=>omega
      | succ n =>
       rw[List.flatMap_cons,fd_,List.append_assoc] at hl;rw[List.flatMap_cons,List.length_append] at hn;have ham:=ha a (by simp);obtain⟨d',rfl⟩:∃ d',d=d'+1:=by
        cases d with
        | zero=>have:=hd a ham;rw[a.depth_eq] at this;omega
        | succ d=>exact⟨d,rfl⟩
       obtain⟨k,s,r',hh,hk⟩:=p3_ d' true a (hsa a ham);have hlen:1≤(atI (d'+1) true a).length:=by
        have:=congrArg List.length hh;unfold kI at this;rw[List.length_map] at this;rw[this];simp
       obtain⟨r,hr,hrq⟩:=hat a ham l _ n hl (by omega) (by omega);obtain⟨r2,hr2,hrq2⟩:=ih (acc++[a]) r n (fun c hc=>ha c (by simp[hc])) hrq (by omega);refine⟨r2,?_,hrq2⟩;have hst:dl_ l=true:=by
        rw[hh] at hl;obtain⟨t',l',rfl,h1,h2,_⟩:=dh_ hl;unfold dl_
        rcases hk with hk|hk|hk|hk
        ·rw[cA_ _ _ 1 (by omega)];rfl
        ·rw[cA_ _ _ 5 (by omega)];simp
        ·rw[cA_ _ _ 2 (by omega)];simp
        ·rw[cG_ _ _ 6 bX_ (by omega) (by rw[h2];exact hk.2)];simp
       rw[bh_,if_pos hst,hr];simp only;rw[hr2,List.append_assoc];rfl
    rw[er_ _ _ _ h3] at hl;rw[er_ _ _ _ h3,List.length_cons] at hn;obtain⟨t',l',rfl,h1,h2,h3'⟩:=dR_ hl;cases n with
    | zero=>omega
    | succ n =>
     obtain⟨r,hr,hrq⟩:=hargs t.args [] l' n (fun a ha=>ha) h3' (by
      show 4*(t.args.flatMap fun x=>if x.atomic then itF d true x else ⟨true,6,bX_⟩ :: (itF d false x++[⟨false,6,bB_⟩])).length+1≤n;omega)
     refine⟨r,?_,hrq⟩;rw[cm_,if_pos (cA_ _ _ 2 h1)];show bh_ n t'.text [] l'=_;have h2':t'.text=t.name.data.toList:=h2;rw[h2',hr,List.nil_append,← e]
   ·have ha:t.atomic=true:=by
     unfold Ty.atomic;have:=hs.kind;have:t.kind=1∨t.kind=2:=by omega
     rcases this with h|h<;>simp[h]
    cases n with
    | zero=>omega
    | succ n =>
     cases n with
     | zero=>omega
     | succ n =>
      obtain⟨r,hr,hrq⟩:=jG_ hs ha d b l q n hl;refine⟨r,?_,hrq⟩;have hsk:sk l 2=false:=by
       have:=hs.kind;have:t.kind=1∨t.kind=2:=by omega
       rcases this with h|h
       ·rw[eH_ _ _ _ h] at hl
        obtain⟨t',l',rfl,h1,_⟩:=dR_ hl;exact a0_ _ _ _ (by omega)
       ·rw[dV_ _ _ _ h] at hl
        obtain⟨t',l',rfl,h1,_⟩:=dR_ hl;exact a0_ _ _ _ (by omega)
      rw[cm_,hsk];exact hr
  refine⟨?_,happ⟩;intro b l q n hl hq hqa hn;cases n with
  | zero=>omega
  | succ n =>
   by_cases h5:t.kind=5
   ·obtain⟨vs,body,d',h1,h2,h3,h4,h6,h7,h8⟩:=chain (d+1) t h hs h5
    rw[h8 b] at hl;rw[h8 b] at hn;simp only[List.length_cons,List.length_append,List.length_map] at hn;obtain⟨t',l',rfl,e1,e2,e3⟩:=dR_ hl;rw[fd_,List.append_assoc] at e3;obtain⟨l1,l2,rfl,g1,g2⟩:=List.map_eq_append_iff.1 e3;obtain⟨td,l3,rfl,f1,f2,f3⟩:=dR_ g2;have hv1:∀ x∈l1,(x.kind==1)=true:=by
     intro x hx;have:kt x∈l1.map kt:=List.mem_map_of_mem hx;rw[g1] at this;unfold kI at this;rw[List.map_map,List.mem_map] at this;obtain⟨s,_,hs'⟩:=this;have:=congrArg Prod.fst hs';simp only[beq_iff_eq];exact this.symm
    have f1':(td.kind==1)=false:=by rw[f1];rfl
    have hvars:dd_ (l1++td :: l3)=l1:=by
     unfold dd_;rw[List.takeWhile_append_of_pos hv1,List.takeWhile_cons,f1'];simp
    have hrest:cZ_ (l1++td :: l3)=td :: l3:=by
     unfold cZ_;rw[List.dropWhile_append_of_pos hv1,List.dropWhile_cons,f1'];simp
    have hfold:∀ (l1:List Tok) (vs:List (List UInt8)),l1.map kt=kI (vs.map (fun s=>(⟨true,1,s⟩:It)))→l1.foldr (fun v t=>e9_ v.text t) body=vs.foldr e9_ body:=by
     intro l1
     induction l1 with
     | nil =>
      intro vs hh;cases vs with
      | nil=>rfl
      | cons v vs=>cases hh
     | cons x l1 ih =>
      intro vs hh;cases vs with
      | nil=>cases hh
      | cons v vs =>
       obtain⟨x',l',he,_,hx2,hx3⟩:=dh_ (k:=1) (s:=v) (q:=kI (vs.map fun s=>(⟨true,1,s⟩:It))) hh;injection he with he1 he2
       subst he1 he2;rw[List.foldr_cons,List.foldr_cons,ih vs hx3,hx2]
    cases n with
    | zero=>omega
    | succ n =>
     obtain⟨r,hr,hrq⟩:=(ihd d' (by omega) body h6 h7).1 true l3 q n f3 hq hqa (by omega);refine⟨r,?_,hrq⟩;have hne:l1.isEmpty=false:=by
      cases l1 with
      | nil =>
       cases vs with
       | nil=>exact absurd rfl h1
       | cons v vs=>cases g1
      | cons=>rfl
     have hall:ff_ (n+1) (l1++td :: l3)=some (t,r):=by
      rw[ff_,hvars,hrest,cG_ _ _ 6 dot f1 f2,hne];show (match bT_ n l3 with|none=>none|some (t,r)=>some (l1.foldr (fun (v:Tok) t=>e9_ v.text t) t,r))=_;rw[hr];show some (l1.foldr (fun (v:Tok) t=>e9_ v.text t) body,r)=_;rw[hfold l1 vs g1,← h2]
     rw[bT_,if_pos (cG_ _ _ 3 fa e1 e2)];exact hall
   ·by_cases h4:t.kind=4
    ·obtain⟨x,y,hxy⟩:∃ x y,t.args=[x,y]:=by
      match hl:t.args,(hs.k4 h4).2.2 with
      | [x,y],_=>exact⟨x,y,rfl⟩
     have hxm:x∈t.args:=by rw[hxy];simp
     have hym:y∈t.args:=by rw[hxy];simp
     rw[g4_ _ _ _ x y h4 hxy,fd_,List.append_assoc] at hl;rw[g4_ _ _ _ x y h4 hxy,List.length_append,List.length_cons] at hn;rw[ro_,List.cons_append] at hl;have e:=r2_ hs h4 hxy;have hfa:st l 3 fa=false∧∃ r,cm_ n l=some (x,r)∧r.map kt=(6,dj_) :: (kI (itF d true y)++q):=by
      by_cases hx4:x.kind<4
      ·rw[decide_eq_true hx4,if_pos rfl] at hl hn
       refine⟨?_,(ihd d (by omega) x (hd x hxm) (hsa x hxm)).2 hx4 b l _ n hl (f5_ _ (by decide)) (by omega)⟩;obtain⟨d',rfl⟩:∃ d',d=d'+1:=by
        cases d with
        | zero=>have:=hd x hxm;rw[x.depth_eq] at this;omega
        | succ d=>exact⟨d,rfl⟩
       have hxk:=(hsa x hxm).kind;have:x.kind=1∨x.kind=2∨x.kind=3:=by omega
       rcases this with hk|hk|hk
       ·rw[eH_ _ _ _ hk] at hl
        obtain⟨t',l',rfl,e1,_⟩:=dR_ hl;exact b6_ _ _ _ _ (by omega)
       ·rw[dV_ _ _ _ hk] at hl
        obtain⟨t',l',rfl,e1,_⟩:=dR_ hl;exact b6_ _ _ _ _ (by omega)
       ·rw[er_ _ _ _ hk] at hl
        obtain⟨t',l',rfl,e1,_⟩:=dR_ hl;exact b6_ _ _ _ _ (by omega)
      ·rw[decide_eq_false hx4] at hl hn
       simp only[Bool.false_eq_true,if_false] at hl hn;simp only[List.length_cons,List.length_append,List.length_nil] at hn;cases n with
       | zero=>omega
       | succ n =>
        obtain⟨r,hr,hrq⟩:=hpar x hxm b l _ n hl (by omega);obtain⟨t',l',rfl,e1,e2,_⟩:=dR_ hl;refine⟨b6_ _ _ _ _ (by omega),r,?_,hrq⟩;rw[cm_,a0_ _ _ _ (by omega)];exact hr
     obtain⟨hst,r,hr,hrq⟩:=hfa;obtain⟨ta,l2,rfl,g1,g2,g3⟩:=dh_ hrq;obtain⟨r2,hr2,hrq2⟩:=(ihd d (by omega) y (hd y hym) (hsa y hym)).1 true l2 q n g3 hq hqa (by omega);refine⟨r2,?_,hrq2⟩;rw[bT_,hst,hr];simp only[Bool.false_eq_true,if_false];rw[if_pos (cG_ _ _ 6 dj_ g1 g2)];simp only[List.tail_cons];rw[hr2];show some (ik_ x y,r2)=some (t,r2);rw[← e]
    ·have hk:=hs.kind
     obtain⟨r,hr,hrq⟩:=happ (by omega) b l q n hl hq (by omega);refine⟨r,?_,hrq⟩;have hst:st l 3 fa=false:=by
      have:t.kind=1∨t.kind=2∨t.kind=3:=by omega
      rcases this with hk|hk|hk
      ·rw[eH_ _ _ _ hk] at hl
       obtain⟨t',l',rfl,e1,_⟩:=dR_ hl;exact b6_ _ _ _ _ (by omega)
      ·rw[dV_ _ _ _ hk] at hl
       obtain⟨t',l',rfl,e1,_⟩:=dR_ hl;exact b6_ _ _ _ _ (by omega)
      ·rw[er_ _ _ _ hk] at hl
       obtain⟨t',l',rfl,e1,_⟩:=dR_ hl;exact b6_ _ _ _ _ (by omega)
     rw[bT_,hst,hr];simp only[Bool.false_eq_true,if_false];rw[nJ_ hrq hqa];rfl
theorem ry_ (u:Nat)(h:u<1000000000000):(Lib.decDigits u).length≤12:=(e4_ u).2.2.2 12 (by omega) h
theorem ls_ (n:Nat):(aZ_ n).data.toList=120 :: Lib.decDigits n:=by
 unfold aZ_;rw[Lib.itoa_nonneg,ByteArray.data_append];simp[aa_]
theorem oz_ (nm:ByteArray)(u:Ty)(hu:cV_ u)(hus:u.size≤50000000000):∀ (d:Nat) (t:Ty),t.depth≤d→cV_ t→t.size≤50000000000→cV_ (eO_ d nm u t):=by
 intro d
 induction d with
 | zero=>intro t h;rw[t.depth_eq] at h;omega
 | succ d ih =>
  intro t h hg hs;have hd:∀ a∈t.args,a.depth≤d∧a.size≤50000000000:=fun a ha=>by
   have:=aT_ _ ha;have:=cx_ _ ha;rw[t.depth_eq] at h;rw[t.size_eq] at hs;omega
  rw[eO_]
  split
  ·exact hg
  ·split
   ·exact hu
   ·split
    ·next hc =>
     simp only[Bool.and_eq_true,beq_iff_eq] at hc;obtain⟨b,hb,hb0⟩:=lw_ hg.1 hc.1;have hbm:b∈t.args:=by rw[hb];simp
     have hnm:=((dm_ t).1 hg.2).1;unfold hL_;rw[hb0];have hfl:=c7_ u;have hfb:=c7_ b;have hbs:=(hd b hbm).2;have hfs:=et_ t.name (aK_ u++aK_ b++[t.name,nm]) (by simp;omega) (hnm.1 hc.1);generalize bN_ t.name (aK_ u++aK_ b++[t.name,nm])=n at *;obtain⟨a1,a2,a3,a4⟩:=eX_ t.name n b (cu_ hg b hbm) hfs.2 (by omega);have:=ih (dA_ t.name n b) (by rw[a1];exact (hd b hbm).1) a3 (by omega);exact gw_ hfs.1 hfs.2 this
    ·refine g6_ hg _ (by simp) fun a ha=>?_
     obtain⟨b,hb,rfl⟩:=List.mem_map.1 ha;exact ih b (hd b hb).1 (cu_ hg b hb) (hd b hb).2
theorem ox_ (nm:ByteArray)(u t:Ty)(ht:cV_ t)(hu:cV_ u)(hs:t.size≤50000000000)(hus:u.size≤50000000000):cV_ (ex_ nm u t):=oz_ nm u hu hus _ _ (aw_ _) ht hs
end Go.Proofs.YtkihnodkhnahiaaGreatDoor.Tp

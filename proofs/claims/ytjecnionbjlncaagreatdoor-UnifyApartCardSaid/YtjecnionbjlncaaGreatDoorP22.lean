/- Packed. -/
import Derived.Test.YtjecnionbjlncaaGreatDoorP21
set_option maxRecDepth 100000
set_option maxHeartbeats 6400000
namespace Go.Proofs.YtjecnionbjlncaaGreatDoor.Tp
open Lx
def Mk (t:Ty):Prop:=Std t∧pQ_ t
theorem qG_ (l:List UInt8)(h:∀ c∈l,au_ c=true):eT_ l<10 ^ l.length:=by
 have:∀ (l:List UInt8) (n:Nat),(∀ c∈l,au_ c=true)→l.foldl (fun n c=>10*n+(c.toNat - 48)) n<(n+1)*10 ^ l.length:=by
  intro l
  induction l with
  | nil=>intro n _;simp
  | cons c l ih =>
   intro n h;rw[List.foldl_cons,List.length_cons];refine ba_ (ih _ fun d hd=>h d (by simp[hd])) ?_;have hc:=h c (by simp);unfold au_ at hc;simp only[decide_eq_true_eq] at hc;rw[Nat.pow_succ,Nat.mul_comm (10 ^ l.length) 10,← Nat.mul_assoc];refine Nat.mul_le_mul_right _ ?_;omega
 have:=this l 0 h;unfold eT_;omega
theorem rY_ {ds:List UInt8}(h:rx_ ds):eT_ ds<1000000:=by
 have h1:=qG_ ds h.digits;have h2:10 ^ ds.length≤10 ^ 6:=Nat.pow_le_pow_right (by omega) h.len.2;omega
theorem cZ_ (s:List UInt8):(ab_ s).data.toList=s:=by simp[ab_]
theorem lW_ {t:Tok}(h:fq_ t)(hk:t.kind=1):fr_ t.text∧a9_ (t.text.headD 0)=true∧lN_.contains t.text=false:=by
 cases h with
 | var h n c k=>exact⟨n,c,k⟩
 | con h=>omega
 | key h=>omega
 | num h=>omega
 | unk h=>omega
 | sign2 h=>omega
 | sign h=>omega
theorem lX_ {t:Tok}(h:fq_ t)(hk:t.kind=2):fr_ t.text∧aV_ (t.text.headD 0)=true:=by
 cases h with
 | var h=>omega
 | con h n c=>exact⟨n,c⟩
 | key h=>omega
 | num h=>omega
 | unk h=>omega
 | sign2 h=>omega
 | sign h=>omega
theorem p2_ {t:Tok}(h:fq_ t)(hk:t.kind=5):∃ ds,t.text=63 :: ds∧rx_ ds:=by
 cases h with
 | var h=>omega
 | con h=>omega
 | key h=>omega
 | num h=>omega
 | unk h ds e n=>exact⟨ds,e,n⟩
 | sign2 h=>omega
 | sign h=>omega
theorem r8_ {s:List UInt8}(h:fr_ s∧a9_ (s.headD 0)=true∧lN_.contains s=false):Mk (lL_ s) :=
 ⟨hK_ _,(cs_ _).2 ⟨⟨fun _=>by simp only[lL_,Ty.name];rw[cZ_];exact h,fun e=>absurd (show (1:Int)=3 from e) (by decide),fun e=>absurd (show (1:Int)=2 from e) (by decide)⟩,fun a ha=>by cases ha⟩⟩
theorem pE_ {s:List UInt8}(h:fr_ s∧aV_ (s.headD 0)=true){args:List Ty}(ha:∀ a∈args,Mk a):Mk (d0_ s args) :=
 ⟨(aX_ _).2 ⟨.inr (.inr (.inl ⟨rfl,rfl⟩)),fun a h=>(ha a h).1⟩,(cs_ _).2 ⟨⟨fun e=>by rcases e with e|e<;>exact absurd (show (3:Int)=_ from e) (by decide),fun _=>by simp only[d0_,Ty.name];rw[cZ_];exact h,fun e=>absurd (show (3:Int)=2 from e) (by decide)⟩,fun a h=>(ha a h).2⟩⟩
theorem qK_ {s ds:List UInt8}(e:s=63 :: ds)(h:rx_ ds):Mk (d4_ s):=by
 have:=rY_ h;subst e;refine⟨(aX_ _).2 ⟨.inr (.inl ⟨rfl,rfl,rfl,?_,?_⟩),fun a h=>by cases h⟩,(cs_ _).2 ⟨⟨fun e=>by rcases e with e|e<;>exact absurd (show (2:Int)=_ from e) (by decide),fun e=>absurd (show (2:Int)=3 from e) (by decide),fun _=>?_⟩,fun a h=>by cases h⟩⟩
 ·show (0:Int)≤(eT_ ds:Int);omega
 ·show (eT_ ds:Int) < _;omega
 ·show (eT_ ds:Int) < _;omega
theorem r9_ {a b:Ty}(ha:Mk a)(hb:Mk b):Mk (j4_ a b):=by
 have:∀ x∈[a,b],Mk x:=fun x hx=>by
  rcases List.mem_cons.1 hx with rfl|hx
  ·exact ha
  ·rw[List.mem_singleton.1 hx];exact hb
 exact⟨(aX_ _).2 ⟨.inr (.inr (.inr (.inl ⟨rfl,rfl,rfl,rfl⟩))),fun x h=>(this x h).1⟩,(cs_ _).2 ⟨⟨fun e=>by rcases e with e|e<;>exact absurd (show (4:Int)=_ from e) (by decide),fun e=>absurd (show (4:Int)=3 from e) (by decide),fun e=>absurd (show (4:Int)=2 from e) (by decide)⟩,fun x h=>(this x h).2⟩⟩
theorem sa_ {s:List UInt8}(h:fr_ s∧a9_ (s.headD 0)=true∧lN_.contains s=false){b:Ty}(hb:Mk b):Mk (eG_ s b) :=
 ⟨hL_ _ hb.1,(cs_ _).2 ⟨⟨fun _=>by simp only[eG_,Ty.name];rw[cZ_];exact h,fun e=>absurd (show (5:Int)=3 from e) (by decide),fun e=>absurd (show (5:Int)=2 from e) (by decide)⟩,fun x hx=>by obtain rfl:=List.mem_singleton.1 hx;exact hb.2⟩⟩
theorem hP_ {l:List Tok}{k:Nat}(h:sk l k=true)(hl:∀ t∈l,fq_ t):∃ t,ae_ l=t.text∧fq_ t∧t.kind=k:=by
 cases l with
 | nil=>cases h
 | cons t l=>exact⟨t,rfl,hl t (by simp),by simpa [sk] using h⟩
theorem cQ_ {l:List Tok}(hl:∀ t∈l,fq_ t):∀ t∈l.tail,fq_ t:=fun t ht=>hl t (List.mem_of_mem_tail ht)
theorem et_ (t:Ty):1≤t.size:=by rw[t.size_eq];omega
theorem made:∀ n:Nat,
  (∀ l x r,(∀ t∈l,fq_ t)→bC_ n l=some (x,r)→Mk x∧x.size+r.length≤l.length∧∀ t∈r,fq_ t)∧(∀ l x r,(∀ t∈l,fq_ t)→eJ_ n l=some (x,r)→Mk x∧x.size+r.length≤l.length∧∀ t∈r,fq_ t) ∧
  (∀ l x r,(∀ t∈l,fq_ t)→bY_ n l=some (x,r)→Mk x∧x.size+r.length≤l.length∧∀ t∈r,fq_ t) ∧
  (∀ s acc l x r,(fr_ s∧aV_ (s.headD 0)=true)→(∀ a∈acc,Mk a)→(∀ t∈l,fq_ t)→a6_ n s acc l=some (x,r)→Mk x∧x.size+r.length≤l.length+af_ acc+1∧∀ t∈r,fq_ t) ∧
  (∀ l x r,(∀ t∈l,fq_ t)→aI_ n l=some (x,r)→Mk x∧x.size+r.length≤l.length∧∀ t∈r,fq_ t):=by
 have hall:∀ (vs:List Tok) (t:Ty),Mk t→(∀ v∈vs,fq_ v∧v.kind=1)→Mk (vs.foldr (fun v t=>eG_ v.text t) t)∧(vs.foldr (fun v t=>eG_ v.text t) t).size=t.size+vs.length:=by
  intro vs t ht
  induction vs with
  | nil=>intro _;exact⟨ht,rfl⟩
  | cons v vs ih =>
   intro h;obtain⟨h1,h2⟩:=ih fun u hu=>h u (by simp[hu]);obtain⟨h3,h4⟩:=h v (by simp);rw[List.foldr_cons];refine⟨sa_ (lW_ h3 h4) h1,?_⟩;rw[Ty.size_eq];show (vs.foldr (fun v t=>eG_ v.text t) t).size+0+1=_;rw[h2,List.length_cons];omega
 have hvr:∀ l:List Tok,(cI_ l).length+(cr_ l).length=l.length:=fun l=>by
  have:=congrArg List.length (List.takeWhile_append_dropWhile (p:=fun t:Tok=>t.kind==1) (l:=l));rw[List.length_append] at this;exact this
 have hvm:∀ l:List Tok,(∀ t∈l,fq_ t)→(∀ v∈cI_ l,fq_ v∧v.kind=1)∧∀ t∈cr_ l,fq_ t:=fun l hl=>by
  refine⟨fun v hv=>⟨hl v (List.takeWhile_subset _ hv),?_⟩,fun t ht=>hl t (List.dropWhile_subset _ ht)⟩;have:=List.all_eq_true.1 (List.all_takeWhile (p:=fun t:Tok=>t.kind==1) (l:=l)) v hv;simpa using this
 intro n
 induction n with
 | zero=>exact⟨fun _ _ _ _ h=>by simp[bC_] at h,fun _ _ _ _ h=>by simp[eJ_] at h,fun _ _ _ _ h=>by simp[bY_] at h,fun _ _ _ _ _ _ _ _ h=>by simp[a6_] at h,fun _ _ _ _ h=>by simp[aI_] at h⟩
 | succ n ih =>
  obtain⟨i1,i2,i3,i4,i5⟩:=ih;refine⟨fun l x r hl h=>?_,fun l x r hl h=>?_,fun l x r hl h=>?_,fun s acc l x r hs hacc hl h=>?_,fun l x r hl h=>?_⟩
  ·rw[bC_] at h
   split at h
   ·next h1 =>
    obtain⟨a1,a2,a3⟩:=i2 _ _ _ (cQ_ hl) h;have:=d5_ h1;simp only[List.length_tail] at a2;exact⟨a1,by omega,a3⟩
   ·split at h
    ·cases h
    ·next a r' h2 =>
     obtain⟨a1,a2,a3⟩:=i3 _ _ _ hl h2
     split at h
     ·next h3 =>
      split at h
      ·cases h
      ·next b r'' h4 =>
       obtain⟨b1,b2,b3⟩:=i1 _ _ _ (cQ_ a3) h4;have:=d5_ h3;simp only[Option.some.injEq,Prod.mk.injEq] at h;obtain⟨rfl,rfl⟩:=h;refine⟨r9_ a1 b1,?_,b3⟩;rw[Ty.size_eq];simp only[List.length_tail] at b2;show af_ [a,b]+1 + _≤_;simp only[af_];omega
     ·simp only[Option.some.injEq,Prod.mk.injEq] at h
      obtain⟨rfl,rfl⟩:=h;exact⟨a1,a2,a3⟩
  ·rw[eJ_] at h
   split at h
   ·cases h
   ·next h1 =>
    split at h
    ·cases h
    ·next t r' h2 =>
     obtain⟨m1,m2⟩:=hvm l hl;obtain⟨a1,a2,a3⟩:=i1 _ _ _ (cQ_ m2) h2;simp only[Option.some.injEq,Prod.mk.injEq] at h;obtain⟨rfl,rfl⟩:=h;obtain⟨c1,c2⟩:=hall (cI_ l) t a1 m1;refine⟨c1,?_,a3⟩;rw[c2];have:=hvr l;simp only[List.length_tail] at a2;have hne:st (cr_ l) 6 dot=true:=by cases hh:st (cr_ l) 6 dot<;>simp[hh] at h1 ⊢
     have:=d5_ hne;omega
  ·rw[bY_] at h
   split at h
   ·next h1 =>
    obtain⟨t,ht,hk,hk2⟩:=hP_ h1 hl;rw[ht] at h;obtain⟨a1,a2,a3⟩:=i4 _ _ _ _ _ (lX_ hk hk2) (fun a ha=>by cases ha) (cQ_ hl) h;have:=eP_ h1;simp only[List.length_tail,af_] at a2;exact⟨a1,by omega,a3⟩
   ·exact i5 _ _ _ hl h
  ·rw[a6_] at h
   split at h
   ·split at h
    ·cases h
    ·next x' r' h2 =>
     obtain⟨a1,a2,a3⟩:=i5 _ _ _ hl h2;obtain⟨b1,b2,b3⟩:=i4 _ _ _ _ _ hs (fun a ha=>by
      rcases List.mem_append.1 ha with ha|ha
      ·exact hacc a ha
      ·rw[List.mem_singleton.1 ha];exact a1) a3 h
     rw[d9_] at b2;simp only[af_] at b2;exact⟨b1,by omega,b3⟩
   ·simp only[Option.some.injEq,Prod.mk.injEq] at h
    obtain⟨rfl,rfl⟩:=h;refine⟨pE_ hs hacc,?_,hl⟩;rw[Ty.size_eq];show af_ acc+1 + _≤_;omega
  ·rw[aI_] at h
   split at h
   ·next h1 =>
    have:=eP_ h1;obtain⟨t,ht,hk,hk2⟩:=hP_ h1 hl;simp only[Option.some.injEq,Prod.mk.injEq] at h;obtain⟨rfl,rfl⟩:=h;rw[ht];refine⟨r8_ (lW_ hk hk2),?_,cQ_ hl⟩;rw[Ty.size_eq];simp[lL_,Ty.args,af_];omega
   ·split at h
    ·next h1 =>
     have:=eP_ h1;obtain⟨t,ht,hk,hk2⟩:=hP_ h1 hl;simp only[Option.some.injEq,Prod.mk.injEq] at h;obtain⟨rfl,rfl⟩:=h;rw[ht];refine⟨pE_ (lX_ hk hk2) (fun a ha=>by cases ha),?_,cQ_ hl⟩;rw[Ty.size_eq];simp[d0_,Ty.args,af_];omega
    ·split at h
     ·next h1 =>
      have:=eP_ h1;obtain⟨t,ht,hk,hk2⟩:=hP_ h1 hl;simp only[Option.some.injEq,Prod.mk.injEq] at h;obtain⟨rfl,rfl⟩:=h;rw[ht];obtain⟨ds,e,hn⟩:=p2_ hk hk2;refine⟨qK_ e hn,?_,cQ_ hl⟩;rw[Ty.size_eq];simp[d4_,Ty.args,af_];omega
     ·split at h
      ·next h1 =>
       have:=d5_ h1
       split at h
       ·cases h
       ·next t r' h2 =>
        obtain⟨a1,a2,a3⟩:=i1 _ _ _ (cQ_ hl) h2
        split at h
        ·simp only[Option.some.injEq,Prod.mk.injEq] at h
         obtain⟨rfl,rfl⟩:=h;refine⟨a1,?_,cQ_ a3⟩;simp only[List.length_tail] at *;omega
        ·cases h
      ·cases h
theorem fJ_ {s:ByteArray}(h:fr_ s.data.toList):1≤s.size∧s.size≤16:=by
 have e:s.size=s.data.toList.length:=by rw[Array.length_toList];rfl
 rw[e];exact h.len
theorem eU_:∀ t:Ty,Mk t→aY_ t:=by
 intro t
 induction t using Ty.ind with
 | h t ih =>
  intro h;have hs:=(aX_ t).1 h.1;have hx:=(cs_ t).1 h.2;have ia:=fun a ha=>ih a ha ⟨hs.2 a ha,hx.2 a ha⟩;have hn:t.name.size≤64∧(t.kind=5→1≤t.name.size):=by
   rcases hs.1 with hk|hk|hk|hk|hk
   ·have:=fJ_ (hx.1.1 (.inl hk.1)).1
    exact⟨by omega,fun _=>this.1⟩
   ·rw[hk.2.1];exact⟨by decide,fun e=>by omega⟩
   ·have:=fJ_ (hx.1.2.1 hk.1).1
    exact⟨by omega,fun _=>this.1⟩
   ·rw[hk.2.1];exact⟨by decide,fun e=>by omega⟩
   ·have:=fJ_ (hx.1.1 (.inr hk.1)).1
    exact⟨by omega,fun _=>this.1⟩
  refine⟨(bK_ t).2 ⟨?_,fun a ha=>(ia a ha).1⟩,(ci_ t).2 ⟨⟨hn.2,hn.1⟩,fun a ha=>(ia a ha).2⟩⟩
  rcases hs.1 with hk|hk|hk|hk|hk
  ·exact .inl ⟨hk.1,hk.2.2⟩
  ·exact .inr (.inl ⟨hk.1,hk.2.2.1,hk.2.2.2⟩)
  ·exact .inr (.inr (.inl hk.1))
  ·exact .inr (.inr (.inr (.inl ⟨hk.1,hk.2.2.2⟩)))
  ·exact .inr (.inr (.inr (.inr ⟨hk.1,hk.2.2⟩)))
theorem n6_ (l:List UInt8):(cq_ l).1.length≤l.length:=by
 unfold cq_
 split
 ·simp
 ·unfold d1_
  refine cj_ (e6_ _ _ _ _) ?_;simp
theorem dA_ {s:List UInt8}{t:Ty}(h:a8_ s=.ok t):Mk t∧t.depth≤50∧t.size≤s.length∧t.size≤4000:=by
 rw[a8_] at h
 split at h
 ·cases h
 ·split at h
  ·cases h
  ·next t' r hT =>
   split at h
   ·cases h
   ·split at h
    ·cases h
    ·next h50 =>
     injection h with h
     subst h;obtain⟨a1,a2,_⟩:=(made _).1 _ _ _ (fun t ht=>sL_ t (e5_ s t ht)) hT;have h1:=n6_ s;have h2:=ea_ s;exact⟨a1,by omega,by omega,by omega⟩
theorem if_ (x:ByteArray):ab_ x.data.toList=x:=by apply ByteArray.ext;simp[ab_]
theorem m1_ (n:Int)(h:0≤n):(eT_ (Lib.itoa n):Int)=n:=by
 obtain⟨u,rfl⟩:∃ u:Nat,n=(u:Int):=⟨n.toNat,by omega⟩;rw[Lib.itoa_nonneg,e8_]
abbrev KT:=Nat × List UInt8
def kI (l:List It):List KT:=l.map ktI
theorem h2_ {l:List Tok}{k:Nat}{s:List UInt8}{q:List KT}(h:l.map kt=(k,s) :: q):∃ t l',l=t :: l'∧t.kind=k∧t.text=s∧l'.map kt=q:=by
 obtain⟨t,l',rfl,h1,h2⟩:=List.map_eq_cons_iff.1 h;injection h1 with h3 h4
 exact⟨t,l',rfl,h3,h4,h2⟩
theorem ee_ {l:List Tok}{b:Bool}{k:Nat}{s:List UInt8}{r:List It}{q:List KT}(h:l.map kt=kI (⟨b,k,s⟩ :: r)++q):∃ t l',l=t :: l'∧t.kind=k∧t.text=s∧l'.map kt=kI r++q:=h2_ h
theorem iG_ (t:Tok)(l:List Tok)(k:Nat):sk (t :: l) k=(t.kind==k):=rfl
theorem k3_ (t:Tok)(l:List Tok)(k:Nat)(s:List UInt8):st (t :: l) k s=(t.kind==k&&t.text==s):=rfl
def g2_ (q:List KT):Prop:=∀ x q',q=x :: q'→x.1≠1∧x.1≠5∧x.1≠2∧x≠(6,dT_)
def jV_ (q:List KT):Prop:=∀ x q',q=x :: q'→x≠(6,c5_)
theorem ht_ {s:List UInt8}(q:List KT)(h:s≠dT_):g2_ ((6,s) :: q):=fun x q' e=>by
 injection e with e1 e2
 subst e1;exact⟨by simp,by simp,by simp,fun e=>h (Prod.mk.inj e).2⟩
theorem lr_ {s:List UInt8}(q:List KT)(h:s≠c5_):jV_ ((6,s) :: q):=fun x q' e=>by
 injection e with e1 e2
 subst e1;exact fun e=>h (Prod.mk.inj e).2
theorem lp_ {l:List Tok}{q:List KT}(h:l.map kt=q)(hq:g2_ q):cL_ l=false:=by
 cases l with
 | nil=>rfl
 | cons t l =>
  obtain⟨a1,a2,a3,a4⟩:=hq (kt t) (l.map kt) h.symm;unfold cL_;rw[iG_,iG_,iG_,k3_,beq_eq_false_iff_ne.2 (show t.kind≠1 from a1),beq_eq_false_iff_ne.2 (show t.kind≠5 from a2),beq_eq_false_iff_ne.2 (show t.kind≠2 from a3)];simp only[Bool.false_or,Bool.and_eq_false_iff,beq_eq_false_iff_ne]
  by_cases hk:t.kind=6
  ·exact .inr fun e=>a4 (by show (t.kind,t.text)=_;rw[hk,e])
  ·exact .inl hk
theorem m2_ {l:List Tok}{q:List KT}(h:l.map kt=q)(hq:jV_ q):st l 6 c5_=false:=by
 cases l with
 | nil=>rfl
 | cons t l =>
  have a:=hq (kt t) (l.map kt) h.symm;rw[k3_];simp only[Bool.and_eq_false_iff,beq_eq_false_iff_ne]
  by_cases hk:t.kind=6
  ·exact .inr fun e=>a (by show (t.kind,t.text)=_;rw[hk,e])
  ·exact .inl hk
def jU_ (f:List Tok→Option (Ty × List Tok))(l:List Tok)(t:Ty)(q:List KT):Prop:=∃ r,f l=some (t,r)∧r.map kt=q
def atI (d:Nat)(b:Bool)(t:Ty):List It:=if t.atomic then itF d b t else ⟨b,6,dT_⟩ :: (itF d false t++[⟨false,6,fD_⟩])
theorem eO_ (t:Tok)(l:List Tok)(k:Nat)(s:List UInt8)(h1:t.kind=k)(h2:t.text=s):st (t :: l) k s=true:=by
 rw[k3_,h1,h2];simp
theorem dp_ (t:Tok)(l:List Tok)(k:Nat)(h1:t.kind=k):sk (t :: l) k=true:=by
 rw[iG_,h1];simp
theorem aQ_ (t:Tok)(l:List Tok)(k:Nat)(h1:t.kind≠k):sk (t :: l) k=false:=by
 rw[iG_];exact beq_eq_false_iff_ne.2 h1
theorem cp_ (t:Tok)(l:List Tok)(k:Nat)(s:List UInt8)(h1:t.kind≠k):st (t :: l) k s=false:=by
 rw[k3_,beq_eq_false_iff_ne.2 h1];rfl
theorem rD_ {t:Ty}(h:Std t)(hk:t.kind=1):t=lL_ t.name.data.toList:=by
 obtain⟨h1,h2⟩:=h.k1 hk;unfold lL_;rw[if_];cases t;simp only[Ty.kind,Ty.n,Ty.args,Ty.name] at *;subst hk h1 h2;rfl
theorem pZ_ {t:Ty}(h:Std t)(hk:t.kind=2):t=d4_ (63 :: Lib.itoa t.n):=by
 obtain⟨h1,h2,h3,h4⟩:=h.k2 hk;have:=m1_ t.n h3;unfold d4_;rw[List.tail_cons,this];cases t;simp only[Ty.kind,Ty.n,Ty.args,Ty.name] at *;subst hk h1 h2;rfl
theorem pp_ {t:Ty}(h:Std t)(hk:t.kind=3):t=d0_ t.name.data.toList t.args:=by
 have h1:t.n=0:=by rcases ((aX_ t).1 h).1 with h|h|h|h|h<;>first|omega|exact h.2
 unfold d0_;rw[if_];cases t;simp only[Ty.kind,Ty.n,Ty.args,Ty.name] at *;subst hk h1;rfl
theorem rE_ {t x y:Ty}(h:Std t)(hk:t.kind=4)(hx:t.args=[x,y]):t=j4_ x y:=by
 obtain⟨h1,h2,_⟩:=h.k4 hk;unfold j4_;cases t;simp only[Ty.kind,Ty.n,Ty.args,Ty.name] at *;subst hk h1 h2 hx;rfl
theorem rF_ {t x:Ty}(h:Std t)(hk:t.kind=5)(hx:t.args=[x]):t=eG_ t.name.data.toList x:=by
 obtain⟨h1,_⟩:=h.k5 hk;unfold eG_;rw[if_];cases t;simp only[Ty.kind,Ty.n,Ty.args,Ty.name] at *;subst hk h1 hx;rfl
theorem je_ {t:Ty}(hs:Std t)(ha:t.atomic=true)(d:Nat)(b:Bool)(l:List Tok)(q:List KT)(n:Nat)(h:l.map kt=kI (itF (d+1) b t)++q):jU_ (aI_ (n+1)) l t q:=by
 rcases ((aX_ t).1 hs).1 with hk|hk|hk|hk|hk
 ·rw[ef_ _ _ _ hk.1] at h
  obtain⟨t',l',rfl,h1,h2,h3⟩:=ee_ h;refine⟨l',?_,h3⟩;rw[aI_,if_pos (dp_ _ _ _ h1)];show some (lL_ t'.text,l')=_;rw[h2,← rD_ hs hk.1]
 ·rw[di_ _ _ _ hk.1] at h
  obtain⟨t',l',rfl,h1,h2,h3⟩:=ee_ h;refine⟨l',?_,h3⟩;rw[aI_,aQ_ _ _ _ (by omega),aQ_ _ _ _ (by omega),dp_ _ _ _ h1];show some (d4_ t'.text,l')=_;rw[h2,← pZ_ hs hk.1]
 ·have hz:t.args=[]:=by
   unfold Ty.atomic at ha;simp only[Bool.or_eq_true,Bool.and_eq_true,beq_iff_eq] at ha;cases hl:t.args with
   | nil=>rfl
   | cons a xs=>exfalso;simp[hl] at ha;omega
  have e:=pp_ hs hk.1;rw[dW_ _ _ _ hk.1,hz] at h;obtain⟨t',l',rfl,h1,h2,h3⟩:=ee_ h;refine⟨l',?_,h3⟩;rw[aI_,aQ_ _ _ _ (by omega),dp_ _ _ _ h1];show some (d0_ t'.text [],l')=_;rw[h2]
  conv=>rhs;rw[e,hz]
 ·exfalso;unfold Ty.atomic at ha;simp[hk.1] at ha
 ·exfalso;unfold Ty.atomic at ha;simp[hk.1] at ha
theorem pc_ (d:Nat)(b:Bool)(t:Ty)(hs:Std t):∃ k s r,kI (atI (d+1) b t)=(k,s) :: r∧(k=1∨k=5∨k=2∨k=6∧s=dT_):=by
 unfold atI
 split
 ·next ha =>
  rcases ((aX_ t).1 hs).1 with hk|hk|hk|hk|hk
  ·rw[ef_ _ _ _ hk.1];exact⟨_,_,_,rfl,.inl rfl⟩
  ·rw[di_ _ _ _ hk.1];exact⟨_,_,_,rfl,.inr (.inl rfl)⟩
  ·rw[dW_ _ _ _ hk.1];exact⟨_,_,_,rfl,.inr (.inr (.inl rfl))⟩
  ·exfalso;unfold Ty.atomic at ha;simp[hk.1] at ha
  ·exfalso;unfold Ty.atomic at ha;simp[hk.1] at ha
 ·exact⟨_,_,_,rfl,.inr (.inr (.inr ⟨rfl,rfl⟩))⟩
theorem chain:∀ (d:Nat) (t:Ty),t.depth≤d→Std t→t.kind=5→∃ (vs:List (List UInt8)) (body:Ty) (d':Nat),vs≠[]∧t=vs.foldr eG_ body∧body.kind≠5∧d'<d∧body.depth≤d'∧Std body ∧
  ∀ b,itF d b t=⟨b,3,fa⟩ :: (vs.map (fun s=>(⟨true,1,s⟩:It))++⟨false,6,dot⟩ :: itF d' true body):=by
 intro d
 induction d with
 | zero=>intro t h;rw[t.depth_eq] at h;omega
 | succ d ih =>
  intro t h hs hk;obtain⟨x,hx,_⟩:=dw_ hs hk;have hxm:x∈t.args:=by rw[hx];simp
  have hd:x.depth≤d:=by have:=av_ _ hxm;rw[t.depth_eq] at h;omega
  have e:=rF_ hs hk hx
  by_cases h5:x.kind=5
  ·obtain⟨vs,body,d',h1,h2,h3,h4,h6,h7,h8⟩:=ih x hd (hs.args x hxm) h5
   refine⟨t.name.data.toList :: vs,body,d',by simp,by rw[List.foldr_cons,← h2];exact e,h3,by omega,h6,h7,fun b=>?_⟩;rw[fM_ _ _ _ x hk hx,if_pos h5,h8 true];rfl
  ·refine⟨[t.name.data.toList],x,d,by simp,e,h5,by omega,hd,hs.args x hxm,fun b=>?_⟩
   rw[fM_ _ _ _ x hk hx,if_neg h5];rfl
theorem kC_ (a b:List It):kI (a++b)=kI a++kI b:=List.map_append
theorem qT_ (i:It)(b:List It):kI (i :: b)=(i.k,i.s) :: kI b:=rfl
theorem back:∀ (d:Nat) (t:Ty),t.depth≤d→Std t →
  (∀ b l q n,l.map kt=kI (itF d b t)++q→g2_ q→jV_ q→4*(itF d b t).length+4≤n→jU_ (bC_ n) l t q) ∧
  (t.kind<4→∀ b l q n,l.map kt=kI (itF d b t)++q→g2_ q→4*(itF d b t).length+3≤n→jU_ (bY_ n) l t q):=by
 intro d
 induction d using Nat.strongRecOn with
 | _ d ihd =>
  intro t h hs;cases d with
  | zero=>rw[t.depth_eq] at h;omega
  | succ d =>
  have hd:∀ a∈t.args,a.depth≤d:=fun a ha=>by have:=av_ _ ha;rw[t.depth_eq] at h;omega
  have hsa:=hs.args
  -- an argument in parentheses
  have hpar:∀ a∈t.args,∀ (b:Bool) (l:List Tok) (q:List KT) (n:Nat),l.map kt=kI (⟨b,6,dT_⟩ :: (itF d false a++[⟨false,6,fD_⟩]))++q→4*(itF d false a).length+5≤n→jU_ (aI_ n) l a q:=by
   intro a ha b l q n hl hn;cases n with
   | zero=>omega
   | succ n =>
    obtain⟨t',l',rfl,h1,h2,h3⟩:=ee_ hl;rw[kC_,List.append_assoc] at h3;obtain⟨r,hr,hrq⟩:=(ihd d (by omega) a (hd a ha) (hsa a ha)).1 false l' _ n h3 (ht_ _ (by decide)) (lr_ _ (by decide)) (by omega);obtain⟨t2,l2,rfl,g1,g2,g3⟩:=ee_ hrq;refine⟨l2,?_,g3⟩;rw[aI_,aQ_ _ _ _ (by omega),aQ_ _ _ _ (by omega),aQ_ _ _ _ (by omega),eO_ _ _ _ _ h1 h2];simp only[Bool.false_eq_true,if_false,if_true,List.tail_cons];rw[hr];simp only;rw[if_pos (eO_ _ _ _ _ g1 g2)];rfl
  have hat:∀ a∈t.args,∀ (l:List Tok) (q:List KT) (n:Nat),l.map kt=kI (atI d true a)++q→4*(atI d true a).length≤n→1≤n→jU_ (aI_ n) l a q:=by
   intro a ha l q n hl hn hn1;unfold atI at hl hn
   split at hl
   ·next hat =>
    cases n with
    | zero=>omega
    | succ n =>
     cases d with
     | zero=>have:=hd a ha;rw[a.depth_eq] at this;omega
     | succ d=>exact je_ (hsa a ha) hat d true l q n hl
   ·next hat =>
    rw[if_neg hat] at hn;simp only[List.length_cons,List.length_append,List.length_nil] at hn;exact hpar a ha true l q n hl (by omega)
  have happ:t.kind<4→∀ b l q n,l.map kt=kI (itF (d+1) b t)++q→g2_ q→4*(itF (d+1) b t).length+3≤n→jU_ (bY_ n) l t q:=by
   intro h4 b l q n hl hq hn
   by_cases h3:t.kind=3
   ·have e:=pp_ hs h3
    have hargs:∀ (xs acc:List Ty) (l:List Tok) (n:Nat),(∀ a∈xs,a∈t.args)→l.map kt=kI (xs.flatMap (atI d true))++q→4*(xs.flatMap (atI d true)).length+1≤n→jU_ (a6_ n t.name.data.toList acc) l (d0_ t.name.data.toList (acc++xs)) q:=by
     intro xs
     induction xs with
     | nil =>
      intro acc l n _ hl hn;cases n with
      | zero=>omega
      | succ n =>
       refine⟨l,?_,hl⟩;rw[a6_,lp_ hl hq,List.append_nil];rfl
     | cons a xs ih =>
      intro acc l n ha hl hn;cases n with
      | zero=>omega
      | succ n =>
       rw[List.flatMap_cons,kC_,List.append_assoc] at hl;rw[List.flatMap_cons,List.length_append] at hn;have ham:=ha a (by simp);obtain⟨d',rfl⟩:∃ d',d=d'+1:=by
        cases d with
        | zero=>have:=hd a ham;rw[a.depth_eq] at this;omega
        | succ d=>exact⟨d,rfl⟩
       obtain⟨k,s,r',hh,hk⟩:=pc_ d' true a (hsa a ham);have hlen:1≤(atI (d'+1) true a).length:=by
        have:=congrArg List.length hh;unfold kI at this;rw[List.length_map] at this;rw[this];simp
       obtain⟨r,hr,hrq⟩:=hat a ham l _ n hl (by omega) (by omega);obtain⟨r2,hr2,hrq2⟩:=ih (acc++[a]) r n (fun c hc=>ha c (by simp[hc])) hrq (by omega);refine⟨r2,?_,hrq2⟩;have hst:cL_ l=true:=by
        rw[hh] at hl;obtain⟨t',l',rfl,h1,h2,_⟩:=h2_ hl;unfold cL_
        rcases hk with hk|hk|hk|hk
        ·rw[dp_ _ _ 1 (by omega)];rfl
        ·rw[dp_ _ _ 5 (by omega)];simp
        ·rw[dp_ _ _ 2 (by omega)];simp
        ·rw[eO_ _ _ 6 dT_ (by omega) (by rw[h2];exact hk.2)];simp
       rw[a6_,if_pos hst,hr];simp only;rw[hr2,List.append_assoc];rfl
    rw[dW_ _ _ _ h3] at hl;rw[dW_ _ _ _ h3,List.length_cons] at hn;obtain⟨t',l',rfl,h1,h2,h3'⟩:=ee_ hl;cases n with
    | zero=>omega
    | succ n =>
     obtain⟨r,hr,hrq⟩:=hargs t.args [] l' n (fun a ha=>ha) h3' (by
      show 4*(t.args.flatMap fun x=>if x.atomic then itF d true x else ⟨true,6,dT_⟩ :: (itF d false x++[⟨false,6,fD_⟩])).length+1≤n;omega)
     refine⟨r,?_,hrq⟩;rw[bY_,if_pos (dp_ _ _ 2 h1)];show a6_ n t'.text [] l'=_;have h2':t'.text=t.name.data.toList:=h2;rw[h2',hr,List.nil_append,← e]
   ·have ha:t.atomic=true:=by
     unfold Ty.atomic;have:=hs.kind;have:t.kind=1∨t.kind=2:=by omega
     rcases this with h|h<;>simp[h]
    cases n with
    | zero=>omega
    | succ n =>
     cases n with
     | zero=>omega
     | succ n =>
      obtain⟨r,hr,hrq⟩:=je_ hs ha d b l q n hl;refine⟨r,?_,hrq⟩;have hsk:sk l 2=false:=by
       have:=hs.kind;have:t.kind=1∨t.kind=2:=by omega
       rcases this with h|h
       ·rw[ef_ _ _ _ h] at hl
        obtain⟨t',l',rfl,h1,_⟩:=ee_ hl;exact aQ_ _ _ _ (by omega)
       ·rw[di_ _ _ _ h] at hl
        obtain⟨t',l',rfl,h1,_⟩:=ee_ hl;exact aQ_ _ _ _ (by omega)
      rw[bY_,hsk];exact hr
  refine⟨?_,happ⟩;intro b l q n hl hq hqa hn;cases n with
  | zero=>omega
  | succ n =>
   by_cases h5:t.kind=5
   ·obtain⟨vs,body,d',h1,h2,h3,h4,h6,h7,h8⟩:=chain (d+1) t h hs h5
    rw[h8 b] at hl;rw[h8 b] at hn;simp only[List.length_cons,List.length_append,List.length_map] at hn;obtain⟨t',l',rfl,e1,e2,e3⟩:=ee_ hl;rw[kC_,List.append_assoc] at e3;obtain⟨l1,l2,rfl,g1,g2⟩:=List.map_eq_append_iff.1 e3;obtain⟨td,l3,rfl,f1,f2,f3⟩:=ee_ g2;have hv1:∀ x∈l1,(x.kind==1)=true:=by
     intro x hx;have:kt x∈l1.map kt:=List.mem_map_of_mem hx;rw[g1] at this;unfold kI at this;rw[List.map_map,List.mem_map] at this;obtain⟨s,_,hs'⟩:=this;have:=congrArg Prod.fst hs';simp only[beq_iff_eq];exact this.symm
    have f1':(td.kind==1)=false:=by rw[f1];rfl
    have hvars:cI_ (l1++td :: l3)=l1:=by
     unfold cI_;rw[List.takeWhile_append_of_pos hv1,List.takeWhile_cons,f1'];simp
    have hrest:cr_ (l1++td :: l3)=td :: l3:=by
     unfold cr_;rw[List.dropWhile_append_of_pos hv1,List.dropWhile_cons,f1'];simp
    have hfold:∀ (l1:List Tok) (vs:List (List UInt8)),l1.map kt=kI (vs.map (fun s=>(⟨true,1,s⟩:It)))→l1.foldr (fun v t=>eG_ v.text t) body=vs.foldr eG_ body:=by
     intro l1
     induction l1 with
     | nil =>
      intro vs hh;cases vs with
      | nil=>rfl
      | cons v vs=>cases hh
     | cons x l1 ih =>
      intro vs hh;cases vs with
      | nil=>cases hh
      | cons v vs =>
       obtain⟨x',l',he,_,hx2,hx3⟩:=h2_ (k:=1) (s:=v) (q:=kI (vs.map fun s=>(⟨true,1,s⟩:It))) hh;injection he with he1 he2
       subst he1 he2;rw[List.foldr_cons,List.foldr_cons,ih vs hx3,hx2]
    cases n with
    | zero=>omega
    | succ n =>
     obtain⟨r,hr,hrq⟩:=(ihd d' (by omega) body h6 h7).1 true l3 q n f3 hq hqa (by omega);refine⟨r,?_,hrq⟩;have hne:l1.isEmpty=false:=by
      cases l1 with
      | nil =>
       cases vs with
       | nil=>exact absurd rfl h1
       | cons v vs=>cases g1
      | cons=>rfl
     have hall:eJ_ (n+1) (l1++td :: l3)=some (t,r):=by
      rw[eJ_,hvars,hrest,eO_ _ _ 6 dot f1 f2,hne];show (match bC_ n l3 with|none=>none|some (t,r)=>some (l1.foldr (fun (v:Tok) t=>eG_ v.text t) t,r))=_;rw[hr];show some (l1.foldr (fun (v:Tok) t=>eG_ v.text t) body,r)=_;rw[hfold l1 vs g1,← h2]
     rw[bC_,if_pos (eO_ _ _ 3 fa e1 e2)];exact hall
   ·by_cases h4:t.kind=4
    ·obtain⟨x,y,hxy⟩:∃ x y,t.args=[x,y]:=by
      match hl:t.args,(hs.k4 h4).2.2 with
      | [x,y],_=>exact⟨x,y,rfl⟩
     have hxm:x∈t.args:=by rw[hxy];simp
     have hym:y∈t.args:=by rw[hxy];simp
     rw[gA_ _ _ _ x y h4 hxy,kC_,List.append_assoc] at hl;rw[gA_ _ _ _ x y h4 hxy,List.length_append,List.length_cons] at hn;rw[qT_,List.cons_append] at hl;have e:=rE_ hs h4 hxy;have hfa:st l 3 fa=false∧∃ r,bY_ n l=some (x,r)∧r.map kt=(6,c5_) :: (kI (itF d true y)++q):=by
      by_cases hx4:x.kind<4
      ·rw[decide_eq_true hx4,if_pos rfl] at hl hn
       refine⟨?_,(ihd d (by omega) x (hd x hxm) (hsa x hxm)).2 hx4 b l _ n hl (ht_ _ (by decide)) (by omega)⟩;obtain⟨d',rfl⟩:∃ d',d=d'+1:=by
        cases d with
        | zero=>have:=hd x hxm;rw[x.depth_eq] at this;omega
        | succ d=>exact⟨d,rfl⟩
       have hxk:=(hsa x hxm).kind;have:x.kind=1∨x.kind=2∨x.kind=3:=by omega
       rcases this with hk|hk|hk
       ·rw[ef_ _ _ _ hk] at hl
        obtain⟨t',l',rfl,e1,_⟩:=ee_ hl;exact cp_ _ _ _ _ (by omega)
       ·rw[di_ _ _ _ hk] at hl
        obtain⟨t',l',rfl,e1,_⟩:=ee_ hl;exact cp_ _ _ _ _ (by omega)
       ·rw[dW_ _ _ _ hk] at hl
        obtain⟨t',l',rfl,e1,_⟩:=ee_ hl;exact cp_ _ _ _ _ (by omega)
      ·rw[decide_eq_false hx4] at hl hn
       simp only[Bool.false_eq_true,if_false] at hl hn;simp only[List.length_cons,List.length_append,List.length_nil] at hn;cases n with
       | zero=>omega
       | succ n =>
        obtain⟨r,hr,hrq⟩:=hpar x hxm b l _ n hl (by omega);obtain⟨t',l',rfl,e1,e2,_⟩:=ee_ hl;refine⟨cp_ _ _ _ _ (by omega),r,?_,hrq⟩;rw[bY_,aQ_ _ _ _ (by omega)];exact hr
     obtain⟨hst,r,hr,hrq⟩:=hfa;obtain⟨ta,l2,rfl,g1,g2,g3⟩:=h2_ hrq;obtain⟨r2,hr2,hrq2⟩:=(ihd d (by omega) y (hd y hym) (hsa y hym)).1 true l2 q n g3 hq hqa (by omega);refine⟨r2,?_,hrq2⟩;rw[bC_,hst,hr];simp only[Bool.false_eq_true,if_false];rw[if_pos (eO_ _ _ 6 c5_ g1 g2)];simp only[List.tail_cons];rw[hr2];show some (j4_ x y,r2)=some (t,r2);rw[← e]
    ·have hk:=hs.kind
     obtain⟨r,hr,hrq⟩:=happ (by omega) b l q n hl hq (by omega);refine⟨r,?_,hrq⟩;have hst:st l 3 fa=false:=by
      have:t.kind=1∨t.kind=2∨t.kind=3:=by omega
      rcases this with hk|hk|hk
      ·rw[ef_ _ _ _ hk] at hl
       obtain⟨t',l',rfl,e1,_⟩:=ee_ hl;exact cp_ _ _ _ _ (by omega)
      ·rw[di_ _ _ _ hk] at hl
       obtain⟨t',l',rfl,e1,_⟩:=ee_ hl;exact cp_ _ _ _ _ (by omega)
      ·rw[dW_ _ _ _ hk] at hl
       obtain⟨t',l',rfl,e1,_⟩:=ee_ hl;exact cp_ _ _ _ _ (by omega)
     rw[bC_,hst,hr];simp only[Bool.false_eq_true,if_false];rw[m2_ hrq hqa];rfl
end Go.Proofs.YtjecnionbjlncaaGreatDoor.Tp

/- Texts laid together: TyMade, TyBk, TyLen, TyLawP. -/
import Derived.Test.YtkihnodkhnahiaaGreatDoorP15
import Derived.Test.YtkihnodkhnahiaaGreatDoorP13

namespace Go.Proofs.YtkihnodkhnahiaaGreatDoor.Tp
open Lx
def Mk (t:Ty):Prop:=Std t∧LexT t
theorem numL_lt (l:List UInt8)(h:∀ c∈l,digitB c=true):numL l<10 ^ l.length:=by
 have:∀ (l:List UInt8) (n:Nat),(∀ c∈l,digitB c=true)→l.foldl (fun n c=>10*n+(c.toNat - 48)) n<(n+1)*10 ^ l.length:=by
  intro l
  induction l with
  | nil=>intro n _;simp
  | cons c l ih =>
   intro n h
   rw[List.foldl_cons,List.length_cons]
   refine Nat.lt_of_lt_of_le (ih _ fun d hd=>h d (by simp[hd])) ?_
   have hc:=h c (by simp)
   unfold digitB at hc
   simp only[decide_eq_true_eq] at hc
   rw[Nat.pow_succ,Nat.mul_comm (10 ^ l.length) 10,← Nat.mul_assoc]
   refine Nat.mul_le_mul_right _ ?_
   omega
 have:=this l 0 h
 unfold numL
 omega
theorem num_lt {ds:List UInt8}(h:NumT ds):numL ds<1000000:=by
 have h1:=numL_lt ds h.digits
 have h2:10 ^ ds.length≤10 ^ 6:=Nat.pow_le_pow_right (by omega) h.len.2
 omega
theorem bytes_list (s:List UInt8):(bytes s).data.toList=s:=by simp[bytes]
theorem tok_var {t:Tok}(h:TokK t)(hk:t.kind=1):NameT t.text∧lowerB (t.text.headD 0)=true∧keys.contains t.text=false:=by
 cases h with
 | var h n c k=>exact⟨n,c,k⟩
 | con h=>omega
 | key h=>omega
 | num h=>omega
 | unk h=>omega
 | sign2 h=>omega
 | sign h=>omega
theorem tok_con {t:Tok}(h:TokK t)(hk:t.kind=2):NameT t.text∧upperB (t.text.headD 0)=true:=by
 cases h with
 | var h=>omega
 | con h n c=>exact⟨n,c⟩
 | key h=>omega
 | num h=>omega
 | unk h=>omega
 | sign2 h=>omega
 | sign h=>omega
theorem tok_unk {t:Tok}(h:TokK t)(hk:t.kind=5):∃ ds,t.text=63 :: ds∧NumT ds:=by
 cases h with
 | var h=>omega
 | con h=>omega
 | key h=>omega
 | num h=>omega
 | unk h ds e n=>exact⟨ds,e,n⟩
 | sign2 h=>omega
 | sign h=>omega
theorem mk_var {s:List UInt8}(h:NameT s∧lowerB (s.headD 0)=true∧keys.contains s=false):Mk (tVar s) :=
 ⟨std_var _,(lex_iff _).2 ⟨⟨fun _=>by simp only[tVar,Ty.name];rw[bytes_list];exact h,fun e=>absurd (show (1:Int)=3 from e) (by decide),fun e=>absurd (show (1:Int)=2 from e) (by decide)⟩,fun a ha=>by cases ha⟩⟩
theorem mk_con {s:List UInt8}(h:NameT s∧upperB (s.headD 0)=true){args:List Ty}(ha:∀ a∈args,Mk a):Mk (tCon s args) :=
 ⟨(std_iff _).2 ⟨.inr (.inr (.inl ⟨rfl,rfl⟩)),fun a h=>(ha a h).1⟩,(lex_iff _).2 ⟨⟨fun e=>by rcases e with e|e<;>exact absurd (show (3:Int)=_ from e) (by decide),fun _=>by simp only[tCon,Ty.name];rw[bytes_list];exact h,fun e=>absurd (show (3:Int)=2 from e) (by decide)⟩,fun a h=>(ha a h).2⟩⟩
theorem mk_meta {s ds:List UInt8}(e:s=63 :: ds)(h:NumT ds):Mk (tMeta s):=by
 have:=num_lt h
 subst e
 refine⟨(std_iff _).2 ⟨.inr (.inl ⟨rfl,rfl,rfl,?_,?_⟩),fun a h=>by cases h⟩,(lex_iff _).2 ⟨⟨fun e=>by rcases e with e|e<;>exact absurd (show (2:Int)=_ from e) (by decide),fun e=>absurd (show (2:Int)=3 from e) (by decide),fun _=>?_⟩,fun a h=>by cases h⟩⟩
 ·show (0:Int)≤(numL ds:Int);omega
 ·show (numL ds:Int) < _;omega
 ·show (numL ds:Int) < _;omega
theorem mk_fun {a b:Ty}(ha:Mk a)(hb:Mk b):Mk (tFun a b):=by
 have:∀ x∈[a,b],Mk x:=fun x hx=>by
  rcases List.mem_cons.1 hx with rfl|hx
  ·exact ha
  ·rw[List.mem_singleton.1 hx];exact hb
 exact⟨(std_iff _).2 ⟨.inr (.inr (.inr (.inl ⟨rfl,rfl,rfl,rfl⟩))),fun x h=>(this x h).1⟩,(lex_iff _).2 ⟨⟨fun e=>by rcases e with e|e<;>exact absurd (show (4:Int)=_ from e) (by decide),fun e=>absurd (show (4:Int)=3 from e) (by decide),fun e=>absurd (show (4:Int)=2 from e) (by decide)⟩,fun x h=>(this x h).2⟩⟩
theorem mk_all {s:List UInt8}(h:NameT s∧lowerB (s.headD 0)=true∧keys.contains s=false){b:Ty}(hb:Mk b):Mk (tAll s b) :=
 ⟨std_all _ hb.1,(lex_iff _).2 ⟨⟨fun _=>by simp only[tAll,Ty.name];rw[bytes_list];exact h,fun e=>absurd (show (5:Int)=3 from e) (by decide),fun e=>absurd (show (5:Int)=2 from e) (by decide)⟩,fun x hx=>by obtain rfl:=List.mem_singleton.1 hx;exact hb.2⟩⟩
theorem sk_head {l:List Tok}{k:Nat}(h:sk l k=true)(hl:∀ t∈l,TokK t):∃ t,headText l=t.text∧TokK t∧t.kind=k:=by
 cases l with
 | nil=>cases h
 | cons t l=>exact⟨t,rfl,hl t (by simp),by simpa [sk] using h⟩
theorem tail_all {l:List Tok}(hl:∀ t∈l,TokK t):∀ t∈l.tail,TokK t:=fun t ht=>hl t (List.mem_of_mem_tail ht)
theorem made:∀ n:Nat,
  (∀ l x r,(∀ t∈l,TokK t)→typF n l=some (x,r)→Mk x∧x.size+r.length≤l.length∧∀ t∈r,TokK t)∧(∀ l x r,(∀ t∈l,TokK t)→allF n l=some (x,r)→Mk x∧x.size+r.length≤l.length∧∀ t∈r,TokK t) ∧
  (∀ l x r,(∀ t∈l,TokK t)→appF n l=some (x,r)→Mk x∧x.size+r.length≤l.length∧∀ t∈r,TokK t) ∧
  (∀ s acc l x r,(NameT s∧upperB (s.headD 0)=true)→(∀ a∈acc,Mk a)→(∀ t∈l,TokK t)→argsF n s acc l=some (x,r)→Mk x∧x.size+r.length≤l.length+sizeL acc+1∧∀ t∈r,TokK t) ∧
  (∀ l x r,(∀ t∈l,TokK t)→atomF n l=some (x,r)→Mk x∧x.size+r.length≤l.length∧∀ t∈r,TokK t):=by
 have hall:∀ (vs:List Tok) (t:Ty),Mk t→(∀ v∈vs,TokK v∧v.kind=1)→Mk (vs.foldr (fun v t=>tAll v.text t) t)∧(vs.foldr (fun v t=>tAll v.text t) t).size=t.size+vs.length:=by
  intro vs t ht
  induction vs with
  | nil=>intro _;exact⟨ht,rfl⟩
  | cons v vs ih =>
   intro h
   obtain⟨h1,h2⟩:=ih fun u hu=>h u (by simp[hu])
   obtain⟨h3,h4⟩:=h v (by simp)
   rw[List.foldr_cons]
   refine⟨mk_all (tok_var h3 h4) h1,?_⟩
   rw[Ty.size_eq]
   show (vs.foldr (fun v t=>tAll v.text t) t).size+0+1=_
   rw[h2,List.length_cons];omega
 have hvr:∀ l:List Tok,(varsL l).length+(restL l).length=l.length:=fun l=>by
  have:=congrArg List.length (List.takeWhile_append_dropWhile (p:=fun t:Tok=>t.kind==1) (l:=l))
  rw[List.length_append] at this
  exact this
 have hvm:∀ l:List Tok,(∀ t∈l,TokK t)→(∀ v∈varsL l,TokK v∧v.kind=1)∧∀ t∈restL l,TokK t:=fun l hl=>by
  refine⟨fun v hv=>⟨hl v (List.takeWhile_subset _ hv),?_⟩,fun t ht=>hl t (List.dropWhile_subset _ ht)⟩
  have:=List.all_eq_true.1 (List.all_takeWhile (p:=fun t:Tok=>t.kind==1) (l:=l)) v hv
  simpa using this
 intro n
 induction n with
 | zero=>exact⟨fun _ _ _ _ h=>by simp[typF] at h,fun _ _ _ _ h=>by simp[allF] at h,fun _ _ _ _ h=>by simp[appF] at h,fun _ _ _ _ _ _ _ _ h=>by simp[argsF] at h,fun _ _ _ _ h=>by simp[atomF] at h⟩
 | succ n ih =>
  obtain⟨i1,i2,i3,i4,i5⟩:=ih
  refine⟨fun l x r hl h=>?_,fun l x r hl h=>?_,fun l x r hl h=>?_,fun s acc l x r hs hacc hl h=>?_,fun l x r hl h=>?_⟩
  ·rw[typF] at h
   split at h
   ·next h1 =>
    obtain⟨a1,a2,a3⟩:=i2 _ _ _ (tail_all hl) h
    have:=st_ne h1
    simp only[List.length_tail] at a2
    exact⟨a1,by omega,a3⟩
   ·split at h
    ·cases h
    ·next a r' h2 =>
     obtain⟨a1,a2,a3⟩:=i3 _ _ _ hl h2
     split at h
     ·next h3 =>
      split at h
      ·cases h
      ·next b r'' h4 =>
       obtain⟨b1,b2,b3⟩:=i1 _ _ _ (tail_all a3) h4
       have:=st_ne h3
       simp only[Option.some.injEq,Prod.mk.injEq] at h
       obtain⟨rfl,rfl⟩:=h
       refine⟨mk_fun a1 b1,?_,b3⟩
       rw[Ty.size_eq]
       simp only[List.length_tail] at b2
       show sizeL [a,b]+1 + _≤_
       simp only[sizeL]
       omega
     ·simp only[Option.some.injEq,Prod.mk.injEq] at h
      obtain⟨rfl,rfl⟩:=h
      exact⟨a1,a2,a3⟩
  ·rw[allF] at h
   split at h
   ·cases h
   ·next h1 =>
    split at h
    ·cases h
    ·next t r' h2 =>
     obtain⟨m1,m2⟩:=hvm l hl
     obtain⟨a1,a2,a3⟩:=i1 _ _ _ (tail_all m2) h2
     simp only[Option.some.injEq,Prod.mk.injEq] at h
     obtain⟨rfl,rfl⟩:=h
     obtain⟨c1,c2⟩:=hall (varsL l) t a1 m1
     refine⟨c1,?_,a3⟩
     rw[c2]
     have:=hvr l
     simp only[List.length_tail] at a2
     have hne:st (restL l) 6 dot=true:=by cases hh:st (restL l) 6 dot<;>simp[hh] at h1 ⊢
     have:=st_ne hne
     omega
  ·rw[appF] at h
   split at h
   ·next h1 =>
    obtain⟨t,ht,hk,hk2⟩:=sk_head h1 hl
    rw[ht] at h
    obtain⟨a1,a2,a3⟩:=i4 _ _ _ _ _ (tok_con hk hk2) (fun a ha=>by cases ha) (tail_all hl) h
    have:=sk_ne h1
    simp only[List.length_tail,sizeL] at a2
    exact⟨a1,by omega,a3⟩
   ·exact i5 _ _ _ hl h
  ·rw[argsF] at h
   split at h
   ·split at h
    ·cases h
    ·next x' r' h2 =>
     obtain⟨a1,a2,a3⟩:=i5 _ _ _ hl h2
     obtain⟨b1,b2,b3⟩:=i4 _ _ _ _ _ hs (fun a ha=>by
      rcases List.mem_append.1 ha with ha|ha
      ·exact hacc a ha
      ·rw[List.mem_singleton.1 ha];exact a1) a3 h
     rw[sizeL_append] at b2
     simp only[sizeL] at b2
     exact⟨b1,by omega,b3⟩
   ·simp only[Option.some.injEq,Prod.mk.injEq] at h
    obtain⟨rfl,rfl⟩:=h
    refine⟨mk_con hs hacc,?_,hl⟩
    rw[Ty.size_eq]
    show sizeL acc+1 + _≤_
    omega
  ·rw[atomF] at h
   split at h
   ·next h1 =>
    have:=sk_ne h1
    obtain⟨t,ht,hk,hk2⟩:=sk_head h1 hl
    simp only[Option.some.injEq,Prod.mk.injEq] at h
    obtain⟨rfl,rfl⟩:=h
    rw[ht]
    refine⟨mk_var (tok_var hk hk2),?_,tail_all hl⟩
    rw[Ty.size_eq];simp[tVar,Ty.args,sizeL];omega
   ·split at h
    ·next h1 =>
     have:=sk_ne h1
     obtain⟨t,ht,hk,hk2⟩:=sk_head h1 hl
     simp only[Option.some.injEq,Prod.mk.injEq] at h
     obtain⟨rfl,rfl⟩:=h
     rw[ht]
     refine⟨mk_con (tok_con hk hk2) (fun a ha=>by cases ha),?_,tail_all hl⟩
     rw[Ty.size_eq];simp[tCon,Ty.args,sizeL];omega
    ·split at h
     ·next h1 =>
      have:=sk_ne h1
      obtain⟨t,ht,hk,hk2⟩:=sk_head h1 hl
      simp only[Option.some.injEq,Prod.mk.injEq] at h
      obtain⟨rfl,rfl⟩:=h
      rw[ht]
      obtain⟨ds,e,hn⟩:=tok_unk hk hk2
      refine⟨mk_meta e hn,?_,tail_all hl⟩
      rw[Ty.size_eq];simp[tMeta,Ty.args,sizeL];omega
     ·split at h
      ·next h1 =>
       have:=st_ne h1
       split at h
       ·cases h
       ·next t r' h2 =>
        obtain⟨a1,a2,a3⟩:=i1 _ _ _ (tail_all hl) h2
        split at h
        ·simp only[Option.some.injEq,Prod.mk.injEq] at h
         obtain⟨rfl,rfl⟩:=h
         refine⟨a1,?_,tail_all a3⟩
         simp only[List.length_tail] at *;omega
        ·cases h
      ·cases h
theorem nameT_size {s:ByteArray}(h:NameT s.data.toList):1≤s.size∧s.size≤16:=by
 have e:s.size=s.data.toList.length:=by rw[Array.length_toList];rfl
 rw[e];exact h.len
theorem mk_good:∀ t:Ty,Mk t→Good t:=by
 intro t
 induction t using Ty.ind with
 | h t ih =>
  intro h
  have hs:=(std_iff t).1 h.1
  have hx:=(lex_iff t).1 h.2
  have ia:=fun a ha=>ih a ha ⟨hs.2 a ha,hx.2 a ha⟩
  have hn:t.name.size≤64∧(t.kind=5→1≤t.name.size):=by
   rcases hs.1 with hk|hk|hk|hk|hk
   ·have:=nameT_size (hx.1.1 (.inl hk.1)).1
    exact⟨by omega,fun _=>this.1⟩
   ·rw[hk.2.1];exact⟨by decide,fun e=>by omega⟩
   ·have:=nameT_size (hx.1.2.1 hk.1).1
    exact⟨by omega,fun _=>this.1⟩
   ·rw[hk.2.1];exact⟨by decide,fun e=>by omega⟩
   ·have:=nameT_size (hx.1.1 (.inr hk.1)).1
    exact⟨by omega,fun _=>this.1⟩
  refine⟨(wf_iff t).2 ⟨?_,fun a ha=>(ia a ha).1⟩,(nm_iff t).2 ⟨⟨hn.2,hn.1⟩,fun a ha=>(ia a ha).2⟩⟩
  rcases hs.1 with hk|hk|hk|hk|hk
  ·exact .inl ⟨hk.1,hk.2.2⟩
  ·exact .inr (.inl ⟨hk.1,hk.2.2.1,hk.2.2.2⟩)
  ·exact .inr (.inr (.inl hk.1))
  ·exact .inr (.inr (.inr (.inl ⟨hk.1,hk.2.2.2⟩)))
  ·exact .inr (.inr (.inr (.inr ⟨hk.1,hk.2.2⟩)))
theorem scanR_le (l:List UInt8):(scanR l).1.length≤l.length:=by
 unfold scanR
 split
 ·simp
 ·unfold scanAt
  refine Nat.le_trans (scanGo_length _ _ _ _) ?_
  simp
theorem parse_made {s:List UInt8}{t:Ty}(h:parseT s=.ok t):Mk t∧t.depth≤50∧t.size≤s.length∧t.size≤4000:=by
 rw[parseT] at h
 split at h
 ·cases h
 ·split at h
  ·cases h
  ·next t' r hT =>
   split at h
   ·cases h
   ·split at h
    ·cases h
    ·next h50 =>
     injection h with h
     subst h
     obtain⟨a1,a2,_⟩:=(made _).1 _ _ _ (fun t ht=>tokK t (scanR_all s t ht)) hT
     have h1:=scanR_le s
     have h2:=scanR_length s
     exact⟨a1,by omega,by omega,by omega⟩
theorem bytes_of (x:ByteArray):bytes x.data.toList=x:=by apply ByteArray.ext;simp[bytes]
theorem numL_itoa (n:Int)(h:0≤n):(numL (Lib.itoa n):Int)=n:=by
 obtain⟨u,rfl⟩:∃ u:Nat,n=(u:Int):=⟨n.toNat,by omega⟩
 rw[Lib.itoa_nonneg,numL_dec]
abbrev KT:=Nat × List UInt8
def kI (l:List It):List KT:=l.map ktI
theorem kt_cons {l:List Tok}{k:Nat}{s:List UInt8}{q:List KT}(h:l.map kt=(k,s) :: q):∃ t l',l=t :: l'∧t.kind=k∧t.text=s∧l'.map kt=q:=by
 obtain⟨t,l',rfl,h1,h2⟩:=List.map_eq_cons_iff.1 h
 injection h1 with h3 h4
 exact⟨t,l',rfl,h3,h4,h2⟩
theorem kt_it {l:List Tok}{b:Bool}{k:Nat}{s:List UInt8}{r:List It}{q:List KT}(h:l.map kt=kI (⟨b,k,s⟩ :: r)++q):∃ t l',l=t :: l'∧t.kind=k∧t.text=s∧l'.map kt=kI r++q:=kt_cons h
theorem sk_eq (t:Tok)(l:List Tok)(k:Nat):sk (t :: l) k=(t.kind==k):=rfl
theorem st_eq (t:Tok)(l:List Tok)(k:Nat)(s:List UInt8):st (t :: l) k s=(t.kind==k&&t.text==s):=rfl
def NoStart (q:List KT):Prop:=∀ x q',q=x :: q'→x.1≠1∧x.1≠5∧x.1≠2∧x≠(6,lpar)
def NoArrow (q:List KT):Prop:=∀ x q',q=x :: q'→x≠(6,arrow)
theorem noStart_of {s:List UInt8}(q:List KT)(h:s≠lpar):NoStart ((6,s) :: q):=fun x q' e=>by
 injection e with e1 e2
 subst e1
 exact⟨by simp,by simp,by simp,fun e=>h (Prod.mk.inj e).2⟩
theorem noArrow_of {s:List UInt8}(q:List KT)(h:s≠arrow):NoArrow ((6,s) :: q):=fun x q' e=>by
 injection e with e1 e2
 subst e1
 exact fun e=>h (Prod.mk.inj e).2
theorem not_starts {l:List Tok}{q:List KT}(h:l.map kt=q)(hq:NoStart q):starts l=false:=by
 cases l with
 | nil=>rfl
 | cons t l =>
  obtain⟨a1,a2,a3,a4⟩:=hq (kt t) (l.map kt) h.symm
  unfold starts
  rw[sk_eq,sk_eq,sk_eq,st_eq,beq_eq_false_iff_ne.2 (show t.kind≠1 from a1),beq_eq_false_iff_ne.2 (show t.kind≠5 from a2),beq_eq_false_iff_ne.2 (show t.kind≠2 from a3)]
  simp only[Bool.false_or,Bool.and_eq_false_iff,beq_eq_false_iff_ne]
  by_cases hk:t.kind=6
  ·exact .inr fun e=>a4 (by show (t.kind,t.text)=_;rw[hk,e])
  ·exact .inl hk
theorem not_arrow {l:List Tok}{q:List KT}(h:l.map kt=q)(hq:NoArrow q):st l 6 arrow=false:=by
 cases l with
 | nil=>rfl
 | cons t l =>
  have a:=hq (kt t) (l.map kt) h.symm
  rw[st_eq]
  simp only[Bool.and_eq_false_iff,beq_eq_false_iff_ne]
  by_cases hk:t.kind=6
  ·exact .inr fun e=>a (by show (t.kind,t.text)=_;rw[hk,e])
  ·exact .inl hk
def Reads (f:List Tok→Option (Ty × List Tok))(l:List Tok)(t:Ty)(q:List KT):Prop:=∃ r,f l=some (t,r)∧r.map kt=q
def atI (d:Nat)(b:Bool)(t:Ty):List It:=if t.atomic then itF d b t else ⟨b,6,lpar⟩ :: (itF d false t++[⟨false,6,rpar⟩])
theorem st_cons (t:Tok)(l:List Tok)(k:Nat)(s:List UInt8)(h1:t.kind=k)(h2:t.text=s):st (t :: l) k s=true:=by
 rw[st_eq,h1,h2];simp
theorem sk_cons (t:Tok)(l:List Tok)(k:Nat)(h1:t.kind=k):sk (t :: l) k=true:=by
 rw[sk_eq,h1];simp
theorem sk_cons_ne (t:Tok)(l:List Tok)(k:Nat)(h1:t.kind≠k):sk (t :: l) k=false:=by
 rw[sk_eq];exact beq_eq_false_iff_ne.2 h1
theorem st_cons_ne (t:Tok)(l:List Tok)(k:Nat)(s:List UInt8)(h1:t.kind≠k):st (t :: l) k s=false:=by
 rw[st_eq,beq_eq_false_iff_ne.2 h1];rfl
theorem ty_var {t:Ty}(h:Std t)(hk:t.kind=1):t=tVar t.name.data.toList:=by
 obtain⟨h1,h2⟩:=h.k1 hk
 unfold tVar
 rw[bytes_of]
 cases t
 simp only[Ty.kind,Ty.n,Ty.args,Ty.name] at *
 subst hk h1 h2;rfl
theorem ty_meta {t:Ty}(h:Std t)(hk:t.kind=2):t=tMeta (63 :: Lib.itoa t.n):=by
 obtain⟨h1,h2,h3,h4⟩:=h.k2 hk
 have:=numL_itoa t.n h3
 unfold tMeta
 rw[List.tail_cons,this]
 cases t
 simp only[Ty.kind,Ty.n,Ty.args,Ty.name] at *
 subst hk h1 h2;rfl
theorem ty_con {t:Ty}(h:Std t)(hk:t.kind=3):t=tCon t.name.data.toList t.args:=by
 have h1:t.n=0:=by rcases ((std_iff t).1 h).1 with h|h|h|h|h<;>first|omega|exact h.2
 unfold tCon
 rw[bytes_of]
 cases t
 simp only[Ty.kind,Ty.n,Ty.args,Ty.name] at *
 subst hk h1;rfl
theorem ty_fun {t x y:Ty}(h:Std t)(hk:t.kind=4)(hx:t.args=[x,y]):t=tFun x y:=by
 obtain⟨h1,h2,_⟩:=h.k4 hk
 unfold tFun
 cases t
 simp only[Ty.kind,Ty.n,Ty.args,Ty.name] at *
 subst hk h1 h2 hx;rfl
theorem ty_all {t x:Ty}(h:Std t)(hk:t.kind=5)(hx:t.args=[x]):t=tAll t.name.data.toList x:=by
 obtain⟨h1,_⟩:=h.k5 hk
 unfold tAll
 rw[bytes_of]
 cases t
 simp only[Ty.kind,Ty.n,Ty.args,Ty.name] at *
 subst hk h1 hx;rfl
theorem atom_back {t:Ty}(hs:Std t)(ha:t.atomic=true)(d:Nat)(b:Bool)(l:List Tok)(q:List KT)(n:Nat)(h:l.map kt=kI (itF (d+1) b t)++q):Reads (atomF (n+1)) l t q:=by
 rcases ((std_iff t).1 hs).1 with hk|hk|hk|hk|hk
 ·rw[itF_var _ _ _ hk.1] at h
  obtain⟨t',l',rfl,h1,h2,h3⟩:=kt_it h
  refine⟨l',?_,h3⟩
  rw[atomF,if_pos (sk_cons _ _ _ h1)]
  show some (tVar t'.text,l')=_
  rw[h2,← ty_var hs hk.1]
 ·rw[itF_meta _ _ _ hk.1] at h
  obtain⟨t',l',rfl,h1,h2,h3⟩:=kt_it h
  refine⟨l',?_,h3⟩
  rw[atomF,sk_cons_ne _ _ _ (by omega),sk_cons_ne _ _ _ (by omega),sk_cons _ _ _ h1]
  show some (tMeta t'.text,l')=_
  rw[h2,← ty_meta hs hk.1]
 ·have hz:t.args=[]:=by
   unfold Ty.atomic at ha
   simp only[Bool.or_eq_true,Bool.and_eq_true,beq_iff_eq] at ha
   cases hl:t.args with
   | nil=>rfl
   | cons a xs=>exfalso;simp[hl] at ha;omega
  have e:=ty_con hs hk.1
  rw[itF_con _ _ _ hk.1,hz] at h
  obtain⟨t',l',rfl,h1,h2,h3⟩:=kt_it h
  refine⟨l',?_,h3⟩
  rw[atomF,sk_cons_ne _ _ _ (by omega),sk_cons _ _ _ h1]
  show some (tCon t'.text [],l')=_
  rw[h2]
  conv=>rhs;rw[e,hz]
 ·exfalso;unfold Ty.atomic at ha;simp[hk.1] at ha
 ·exfalso;unfold Ty.atomic at ha;simp[hk.1] at ha
theorem atI_head (d:Nat)(b:Bool)(t:Ty)(hs:Std t):∃ k s r,kI (atI (d+1) b t)=(k,s) :: r∧(k=1∨k=5∨k=2∨k=6∧s=lpar):=by
 unfold atI
 split
 ·next ha =>
  rcases ((std_iff t).1 hs).1 with hk|hk|hk|hk|hk
  ·rw[itF_var _ _ _ hk.1];exact⟨_,_,_,rfl,.inl rfl⟩
  ·rw[itF_meta _ _ _ hk.1];exact⟨_,_,_,rfl,.inr (.inl rfl)⟩
  ·rw[itF_con _ _ _ hk.1];exact⟨_,_,_,rfl,.inr (.inr (.inl rfl))⟩
  ·exfalso;unfold Ty.atomic at ha;simp[hk.1] at ha
  ·exfalso;unfold Ty.atomic at ha;simp[hk.1] at ha
 ·exact⟨_,_,_,rfl,.inr (.inr (.inr ⟨rfl,rfl⟩))⟩
theorem chain:∀ (d:Nat) (t:Ty),t.depth≤d→Std t→t.kind=5→∃ (vs:List (List UInt8)) (body:Ty) (d':Nat),vs≠[]∧t=vs.foldr tAll body∧body.kind≠5∧d'<d∧body.depth≤d'∧Std body ∧
  ∀ b,itF d b t=⟨b,3,fa⟩ :: (vs.map (fun s=>(⟨true,1,s⟩:It))++⟨false,6,dot⟩ :: itF d' true body):=by
 intro d
 induction d with
 | zero=>intro t h;rw[t.depth_eq] at h;omega
 | succ d ih =>
  intro t h hs hk
  obtain⟨x,hx,_⟩:=std_k5 hs hk
  have hxm:x∈t.args:=by rw[hx];simp
  have hd:x.depth≤d:=by have:=depth_arg _ hxm;rw[t.depth_eq] at h;omega
  have e:=ty_all hs hk hx
  by_cases h5:x.kind=5
  ·obtain⟨vs,body,d',h1,h2,h3,h4,h6,h7,h8⟩:=ih x hd (hs.args x hxm) h5
   refine⟨t.name.data.toList :: vs,body,d',by simp,by rw[List.foldr_cons,← h2];exact e,h3,by omega,h6,h7,fun b=>?_⟩
   rw[itF_all _ _ _ x hk hx,if_pos h5,h8 true]
   rfl
  ·refine⟨[t.name.data.toList],x,d,by simp,e,h5,by omega,hd,hs.args x hxm,fun b=>?_⟩
   rw[itF_all _ _ _ x hk hx,if_neg h5]
   rfl
theorem kI_app (a b:List It):kI (a++b)=kI a++kI b:=List.map_append
theorem kI_cons (i:It)(b:List It):kI (i :: b)=(i.k,i.s) :: kI b:=rfl
theorem back:∀ (d:Nat) (t:Ty),t.depth≤d→Std t →
  (∀ b l q n,l.map kt=kI (itF d b t)++q→NoStart q→NoArrow q→4*(itF d b t).length+4≤n→Reads (typF n) l t q) ∧
  (t.kind<4→∀ b l q n,l.map kt=kI (itF d b t)++q→NoStart q→4*(itF d b t).length+3≤n→Reads (appF n) l t q):=by
 intro d
 induction d using Nat.strongRecOn with
 | _ d ihd =>
  intro t h hs
  cases d with
  | zero=>rw[t.depth_eq] at h;omega
  | succ d =>
  have hd:∀ a∈t.args,a.depth≤d:=fun a ha=>by have:=depth_arg _ ha;rw[t.depth_eq] at h;omega
  have hsa:=hs.args
  -- an argument in parentheses
  have hpar:∀ a∈t.args,∀ (b:Bool) (l:List Tok) (q:List KT) (n:Nat),l.map kt=kI (⟨b,6,lpar⟩ :: (itF d false a++[⟨false,6,rpar⟩]))++q→4*(itF d false a).length+5≤n→Reads (atomF n) l a q:=by
   intro a ha b l q n hl hn
   cases n with
   | zero=>omega
   | succ n =>
    obtain⟨t',l',rfl,h1,h2,h3⟩:=kt_it hl
    rw[kI_app,List.append_assoc] at h3
    obtain⟨r,hr,hrq⟩:=(ihd d (by omega) a (hd a ha) (hsa a ha)).1 false l' _ n h3 (noStart_of _ (by decide)) (noArrow_of _ (by decide)) (by omega)
    obtain⟨t2,l2,rfl,g1,g2,g3⟩:=kt_it hrq
    refine⟨l2,?_,g3⟩
    rw[atomF,sk_cons_ne _ _ _ (by omega),sk_cons_ne _ _ _ (by omega),sk_cons_ne _ _ _ (by omega),st_cons _ _ _ _ h1 h2]
    simp only[Bool.false_eq_true,if_false,if_true,List.tail_cons]
    rw[hr]
    simp only
    rw[if_pos (st_cons _ _ _ _ g1 g2)]
    rfl
  have hat:∀ a∈t.args,∀ (l:List Tok) (q:List KT) (n:Nat),l.map kt=kI (atI d true a)++q→4*(atI d true a).length≤n→1≤n→Reads (atomF n) l a q:=by
   intro a ha l q n hl hn hn1
   unfold atI at hl hn
   split at hl
   ·next hat =>
    cases n with
    | zero=>omega
    | succ n =>
     cases d with
     | zero=>have:=hd a ha;rw[a.depth_eq] at this;omega
     | succ d=>exact atom_back (hsa a ha) hat d true l q n hl
   ·next hat =>
    rw[if_neg hat] at hn
    simp only[List.length_cons,List.length_append,List.length_nil] at hn
    exact hpar a ha true l q n hl (by omega)
  have happ:t.kind<4→∀ b l q n,l.map kt=kI (itF (d+1) b t)++q→NoStart q→4*(itF (d+1) b t).length+3≤n→Reads (appF n) l t q:=by
   intro h4 b l q n hl hq hn
   by_cases h3:t.kind=3
   ·have e:=ty_con hs h3
    have hargs:∀ (xs acc:List Ty) (l:List Tok) (n:Nat),(∀ a∈xs,a∈t.args)→l.map kt=kI (xs.flatMap (atI d true))++q→4*(xs.flatMap (atI d true)).length+1≤n→Reads (argsF n t.name.data.toList acc) l (tCon t.name.data.toList (acc++xs)) q:=by
     intro xs
     induction xs with
     | nil =>
      intro acc l n _ hl hn
      cases n with
      | zero=>omega
      | succ n =>
       refine⟨l,?_,hl⟩
       rw[argsF,not_starts hl hq,List.append_nil];rfl
     | cons a xs ih =>
      intro acc l n ha hl hn
      cases n with
      | zero=>omega
      | succ n =>
       rw[List.flatMap_cons,kI_app,List.append_assoc] at hl
       rw[List.flatMap_cons,List.length_append] at hn
       have ham:=ha a (by simp)
       obtain⟨d',rfl⟩:∃ d',d=d'+1:=by
        cases d with
        | zero=>have:=hd a ham;rw[a.depth_eq] at this;omega
        | succ d=>exact⟨d,rfl⟩
       obtain⟨k,s,r',hh,hk⟩:=atI_head d' true a (hsa a ham)
       have hlen:1≤(atI (d'+1) true a).length:=by
        have:=congrArg List.length hh
        unfold kI at this
        rw[List.length_map] at this
        rw[this];simp
       obtain⟨r,hr,hrq⟩:=hat a ham l _ n hl (by omega) (by omega)
       obtain⟨r2,hr2,hrq2⟩:=ih (acc++[a]) r n (fun c hc=>ha c (by simp[hc])) hrq (by omega)
       refine⟨r2,?_,hrq2⟩
       have hst:starts l=true:=by
        rw[hh] at hl
        obtain⟨t',l',rfl,h1,h2,_⟩:=kt_cons hl
        unfold starts
        rcases hk with hk|hk|hk|hk
        ·rw[sk_cons _ _ 1 (by omega)];rfl
        ·rw[sk_cons _ _ 5 (by omega)];simp
        ·rw[sk_cons _ _ 2 (by omega)];simp
        ·rw[st_cons _ _ 6 lpar (by omega) (by rw[h2];exact hk.2)];simp
       rw[argsF,if_pos hst,hr]
       simp only
       rw[hr2,List.append_assoc];rfl
    rw[itF_con _ _ _ h3] at hl
    rw[itF_con _ _ _ h3,List.length_cons] at hn
    obtain⟨t',l',rfl,h1,h2,h3'⟩:=kt_it hl
    cases n with
    | zero=>omega
    | succ n =>
     obtain⟨r,hr,hrq⟩:=hargs t.args [] l' n (fun a ha=>ha) h3' (by
      show 4*(t.args.flatMap fun x=>if x.atomic then itF d true x else ⟨true,6,lpar⟩ :: (itF d false x++[⟨false,6,rpar⟩])).length+1≤n
      omega)
     refine⟨r,?_,hrq⟩
     rw[appF,if_pos (sk_cons _ _ 2 h1)]
     show argsF n t'.text [] l'=_
     have h2':t'.text=t.name.data.toList:=h2
     rw[h2',hr,List.nil_append,← e]
   ·have ha:t.atomic=true:=by
     unfold Ty.atomic
     have:=hs.kind
     have:t.kind=1∨t.kind=2:=by omega
     rcases this with h|h<;>simp[h]
    cases n with
    | zero=>omega
    | succ n =>
     cases n with
     | zero=>omega
     | succ n =>
      obtain⟨r,hr,hrq⟩:=atom_back hs ha d b l q n hl
      refine⟨r,?_,hrq⟩
      have hsk:sk l 2=false:=by
       have:=hs.kind
       have:t.kind=1∨t.kind=2:=by omega
       rcases this with h|h
       ·rw[itF_var _ _ _ h] at hl
        obtain⟨t',l',rfl,h1,_⟩:=kt_it hl
        exact sk_cons_ne _ _ _ (by omega)
       ·rw[itF_meta _ _ _ h] at hl
        obtain⟨t',l',rfl,h1,_⟩:=kt_it hl
        exact sk_cons_ne _ _ _ (by omega)
      rw[appF,hsk]
      exact hr
  refine⟨?_,happ⟩
  intro b l q n hl hq hqa hn
  cases n with
  | zero=>omega
  | succ n =>
   by_cases h5:t.kind=5
   ·obtain⟨vs,body,d',h1,h2,h3,h4,h6,h7,h8⟩:=chain (d+1) t h hs h5
    rw[h8 b] at hl
    rw[h8 b] at hn
    simp only[List.length_cons,List.length_append,List.length_map] at hn
    obtain⟨t',l',rfl,e1,e2,e3⟩:=kt_it hl
    rw[kI_app,List.append_assoc] at e3
    obtain⟨l1,l2,rfl,g1,g2⟩:=List.map_eq_append_iff.1 e3
    obtain⟨td,l3,rfl,f1,f2,f3⟩:=kt_it g2
    have hv1:∀ x∈l1,(x.kind==1)=true:=by
     intro x hx
     have:kt x∈l1.map kt:=List.mem_map_of_mem hx
     rw[g1] at this
     unfold kI at this
     rw[List.map_map,List.mem_map] at this
     obtain⟨s,_,hs'⟩:=this
     have:=congrArg Prod.fst hs'
     simp only[beq_iff_eq]
     exact this.symm
    have f1':(td.kind==1)=false:=by rw[f1];rfl
    have hvars:varsL (l1++td :: l3)=l1:=by
     unfold varsL
     rw[List.takeWhile_append_of_pos hv1,List.takeWhile_cons,f1'];simp
    have hrest:restL (l1++td :: l3)=td :: l3:=by
     unfold restL
     rw[List.dropWhile_append_of_pos hv1,List.dropWhile_cons,f1'];simp
    have hfold:∀ (l1:List Tok) (vs:List (List UInt8)),l1.map kt=kI (vs.map (fun s=>(⟨true,1,s⟩:It)))→l1.foldr (fun v t=>tAll v.text t) body=vs.foldr tAll body:=by
     intro l1
     induction l1 with
     | nil =>
      intro vs hh
      cases vs with
      | nil=>rfl
      | cons v vs=>cases hh
     | cons x l1 ih =>
      intro vs hh
      cases vs with
      | nil=>cases hh
      | cons v vs =>
       obtain⟨x',l',he,_,hx2,hx3⟩:=kt_cons (k:=1) (s:=v) (q:=kI (vs.map fun s=>(⟨true,1,s⟩:It))) hh
       injection he with he1 he2
       subst he1 he2
       rw[List.foldr_cons,List.foldr_cons,ih vs hx3,hx2]
    cases n with
    | zero=>omega
    | succ n =>
     obtain⟨r,hr,hrq⟩:=(ihd d' (by omega) body h6 h7).1 true l3 q n f3 hq hqa (by omega)
     refine⟨r,?_,hrq⟩
     have hne:l1.isEmpty=false:=by
      cases l1 with
      | nil =>
       cases vs with
       | nil=>exact absurd rfl h1
       | cons v vs=>cases g1
      | cons=>rfl
     have hall:allF (n+1) (l1++td :: l3)=some (t,r):=by
      rw[allF,hvars,hrest,st_cons _ _ 6 dot f1 f2,hne]
      show (match typF n l3 with|none=>none|some (t,r)=>some (l1.foldr (fun (v:Tok) t=>tAll v.text t) t,r))=_
      rw[hr]
      show some (l1.foldr (fun (v:Tok) t=>tAll v.text t) body,r)=_
      rw[hfold l1 vs g1,← h2]
     rw[typF,if_pos (st_cons _ _ 3 fa e1 e2)]
     exact hall
   ·by_cases h4:t.kind=4
    ·obtain⟨x,y,hxy⟩:∃ x y,t.args=[x,y]:=by
      match hl:t.args,(hs.k4 h4).2.2 with
      | [x,y],_=>exact⟨x,y,rfl⟩
     have hxm:x∈t.args:=by rw[hxy];simp
     have hym:y∈t.args:=by rw[hxy];simp
     rw[itF_fun _ _ _ x y h4 hxy,kI_app,List.append_assoc] at hl
     rw[itF_fun _ _ _ x y h4 hxy,List.length_append,List.length_cons] at hn
     rw[kI_cons,List.cons_append] at hl
     have e:=ty_fun hs h4 hxy
     have hfa:st l 3 fa=false∧∃ r,appF n l=some (x,r)∧r.map kt=(6,arrow) :: (kI (itF d true y)++q):=by
      by_cases hx4:x.kind<4
      ·rw[decide_eq_true hx4,if_pos rfl] at hl hn
       refine⟨?_,(ihd d (by omega) x (hd x hxm) (hsa x hxm)).2 hx4 b l _ n hl (noStart_of _ (by decide)) (by omega)⟩
       obtain⟨d',rfl⟩:∃ d',d=d'+1:=by
        cases d with
        | zero=>have:=hd x hxm;rw[x.depth_eq] at this;omega
        | succ d=>exact⟨d,rfl⟩
       have hxk:=(hsa x hxm).kind
       have:x.kind=1∨x.kind=2∨x.kind=3:=by omega
       rcases this with hk|hk|hk
       ·rw[itF_var _ _ _ hk] at hl
        obtain⟨t',l',rfl,e1,_⟩:=kt_it hl
        exact st_cons_ne _ _ _ _ (by omega)
       ·rw[itF_meta _ _ _ hk] at hl
        obtain⟨t',l',rfl,e1,_⟩:=kt_it hl
        exact st_cons_ne _ _ _ _ (by omega)
       ·rw[itF_con _ _ _ hk] at hl
        obtain⟨t',l',rfl,e1,_⟩:=kt_it hl
        exact st_cons_ne _ _ _ _ (by omega)
      ·rw[decide_eq_false hx4] at hl hn
       simp only[Bool.false_eq_true,if_false] at hl hn
       simp only[List.length_cons,List.length_append,List.length_nil] at hn
       cases n with
       | zero=>omega
       | succ n =>
        obtain⟨r,hr,hrq⟩:=hpar x hxm b l _ n hl (by omega)
        obtain⟨t',l',rfl,e1,e2,_⟩:=kt_it hl
        refine⟨st_cons_ne _ _ _ _ (by omega),r,?_,hrq⟩
        rw[appF,sk_cons_ne _ _ _ (by omega)]
        exact hr
     obtain⟨hst,r,hr,hrq⟩:=hfa
     obtain⟨ta,l2,rfl,g1,g2,g3⟩:=kt_cons hrq
     obtain⟨r2,hr2,hrq2⟩:=(ihd d (by omega) y (hd y hym) (hsa y hym)).1 true l2 q n g3 hq hqa (by omega)
     refine⟨r2,?_,hrq2⟩
     rw[typF,hst,hr]
     simp only[Bool.false_eq_true,if_false]
     rw[if_pos (st_cons _ _ 6 arrow g1 g2)]
     simp only[List.tail_cons]
     rw[hr2]
     show some (tFun x y,r2)=some (t,r2)
     rw[← e]
    ·have hk:=hs.kind
     obtain⟨r,hr,hrq⟩:=happ (by omega) b l q n hl hq (by omega)
     refine⟨r,?_,hrq⟩
     have hst:st l 3 fa=false:=by
      have:t.kind=1∨t.kind=2∨t.kind=3:=by omega
      rcases this with hk|hk|hk
      ·rw[itF_var _ _ _ hk] at hl
       obtain⟨t',l',rfl,e1,_⟩:=kt_it hl
       exact st_cons_ne _ _ _ _ (by omega)
      ·rw[itF_meta _ _ _ hk] at hl
       obtain⟨t',l',rfl,e1,_⟩:=kt_it hl
       exact st_cons_ne _ _ _ _ (by omega)
      ·rw[itF_con _ _ _ hk] at hl
       obtain⟨t',l',rfl,e1,_⟩:=kt_it hl
       exact st_cons_ne _ _ _ _ (by omega)
     rw[typF,hst,hr]
     simp only[Bool.false_eq_true,if_false]
     rw[not_arrow hrq hqa]
     rfl
end Go.Proofs.YtkihnodkhnahiaaGreatDoor.Tp

namespace Go.Proofs.YtkihnodkhnahiaaGreatDoor.Tp
theorem paren_len (b:Bool)(p:List UInt8):(paren b p).length≤p.length+2:=by
 unfold paren;split<;>simp
theorem flat_len (l:List Ty)(h:∀ a∈l,(printT a).length+4≤80*a.size):((l.zip (l.map printT)).flatMap fun x=>32 :: paren x.1.atomic x.2).length≤80*sizeL l:=by
 induction l with
 | nil=>simp[sizeL]
 | cons a l ih =>
  simp only[List.map_cons,List.zip_cons_cons,List.flatMap_cons,List.length_append,List.length_cons,sizeL]
  have:=ih fun b hb=>h b (by simp[hb])
  have:=h a (by simp)
  have:=paren_len a.atomic (printT a)
  omega
theorem printT_len:∀ t:Ty,Good t→(printT t).length+4≤80*t.size:=by
 intro t
 induction t using Ty.ind with
 | h t ih =>
  intro hg
  have hwf:=(wf_iff t).1 hg.1
  have hnm:=(nm_iff t).1 hg.2
  have hi:=fun a ha=>ih a ha ⟨hwf.2 a ha,hnm.2 a ha⟩
  have hn:t.name.data.toList.length≤64:=hnm.1.2
  rw[printT_eq,t.size_eq]
  unfold render
  rcases hwf.1 with h|h|h|h|h
  ·rw[if_neg (by omega),if_neg (by omega),if_neg (by omega),if_neg (by omega)];omega
  ·rw[if_pos h.1]
   have:=Lib.itoa_length_le t.n (by omega) (by omega)
   simp only[List.length_cons];omega
  ·rw[if_neg (by omega),if_pos h,List.length_append]
   have:=flat_len t.args hi
   omega
  ·rw[if_neg (by omega),if_neg (by omega),if_pos h.1]
   match hl:t.args,h.2 with
   | [x,y],_ =>
    have h1:=hi x (by rw[hl];simp)
    have h2:=hi y (by rw[hl];simp)
    have:=paren_len (decide (x.kind<4)) (printT x)
    simp only[List.map_cons,List.map_nil,List.length_append,sizeL,List.length_cons,List.length_nil]
    omega
  ·rw[if_neg (by omega),if_neg (by omega),if_neg (by omega),if_pos h.1]
   match hl:t.args,h.2 with
   | [x],_ =>
    have h1:=hi x (by rw[hl];simp)
    simp only[List.map_cons,List.map_nil,List.length_append,sizeL]
    have h7:forallT.length=7:=rfl
    split
    ·simp only[List.length_cons,List.length_drop];omega
    ·simp only[List.length_append,List.length_cons,List.length_nil];omega
end Go.Proofs.YtkihnodkhnahiaaGreatDoor.Tp

namespace Go.Proofs.YtkihnodkhnahiaaGreatDoor.Tp
open Lx
def LexN (x:ByteArray):Prop:=NameT x.data.toList∧lowerB (x.data.toList.headD 0)=true∧keys.contains x.data.toList=false
theorem xname_list (n:Nat):(xname n).data.toList=120 :: Lib.decDigits n:=by
 unfold xname
 rw[Lib.itoa_nonneg,ByteArray.data_append]
 simp[bytes]
theorem canon_congr {t u:Ty}(ht:Std t)(hu:Std u)(e:dbT [] t=dbT [] u):canonT t=canonT u:=by
 rw[canonT_cn t ht,canonT_cn u hu,free_db t ht,free_db u hu,e]
theorem PutF_good (nm:ByteArray)(u:Ty)(hu:Good u)(hus:u.size≤50000000000):∀ (d:Nat) (t:Ty),t.depth≤d→Good t→t.size≤50000000000→Good (PutF d nm u t):=by
 intro d
 induction d with
 | zero=>intro t h;rw[t.depth_eq] at h;omega
 | succ d ih =>
  intro t h hg hs
  have hd:∀ a∈t.args,a.depth≤d∧a.size≤50000000000:=fun a ha=>by
   have:=depth_arg _ ha;have:=size_arg _ ha;rw[t.depth_eq] at h;rw[t.size_eq] at hs;omega
  rw[PutF]
  split
  ·exact hg
  ·split
   ·exact hu
   ·split
    ·next hc =>
     simp only[Bool.and_eq_true,beq_iff_eq] at hc
     obtain⟨b,hb,hb0⟩:=wf_k5 hg.1 hc.1
     have hbm:b∈t.args:=by rw[hb];simp
     have hnm:=((nm_iff t).1 hg.2).1
     unfold renAll
     rw[hb0]
     have hfl:=freeT_len u
     have hfb:=freeT_len b
     have hbs:=(hd b hbm).2
     have hfs:=freshT_size t.name (freeT u++freeT b++[t.name,nm]) (by simp;omega) (hnm.1 hc.1)
     generalize freshT t.name (freeT u++freeT b++[t.name,nm])=n at *
     obtain⟨a1,a2,a3,a4⟩:=renT_keeps t.name n b (good_args hg b hbm) hfs.2 (by omega)
     have:=ih (renT t.name n b) (by rw[a1];exact (hd b hbm).1) a3 (by omega)
     exact good_all hfs.1 hfs.2 this
    ·refine good_with hg _ (by simp) fun a ha=>?_
     obtain⟨b,hb,rfl⟩:=List.mem_map.1 ha
     exact ih b (hd b hb).1 (good_args hg b hb) (hd b hb).2
theorem PutT_good (nm:ByteArray)(u t:Ty)(ht:Good t)(hu:Good u)(hs:t.size≤50000000000)(hus:u.size≤50000000000):Good (PutT nm u t):=PutF_good nm u hu hus _ _ (Nat.le_refl _) ht hs
end Go.Proofs.YtkihnodkhnahiaaGreatDoor.Tp

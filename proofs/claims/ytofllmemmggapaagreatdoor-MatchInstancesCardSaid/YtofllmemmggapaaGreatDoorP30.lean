/- Texts laid together: MaMs, MaLex, MaPe. -/
import Derived.Test.YtofllmemmggapaaGreatDoorP29

namespace Go.Proofs.YtofllmemmggapaaGreatDoor.Tp
theorem mT_eq (vars:List ByteArray)(p t:Ty)(ep et:List ByteArray)(f:Fnd):mT vars p t ep et f=if p.kind=1 then varM vars p.name t ep et f
  else if p.kind≠t.kind∨p.args.length≠t.args.length∨p.n≠t.n∨(p.kind=3∧p.name≠t.name) then (false,f)
  else if p.kind=5 then mL vars p.args t.args (p.name :: ep) (t.name :: et) f else mL vars p.args t.args ep et f:=by
 cases p with
 | mk k s n args=>rw[mT];rfl
theorem mL_sound (vars:List ByteArray):∀ (ps ts:List Ty) (ep et:List ByteArray) (f f':Fnd),(∀ p∈ps,MSound vars p∧Std p)→(∀ t∈ts,Mk t)→ps.length=ts.length→FGood vars f→mL vars ps ts ep et f=(true,f') →
  FGood vars f'∧Within f (lkF f')∧(∀ x,(∃ p∈ps,vnT x (dbT ep p))→x∈vars→lkF f' x≠none)∧(∀ x,lkF f' x≠none→lkF f x≠none∨∃ p∈ps,vnT x (dbT ep p))∧∀ v,Within f' v→(∀ x,x∉vars→v x=none)→ps.map (fun p=>svT v (dbT ep p))=ts.map (dbT et):=by
 intro ps
 induction ps with
 | nil =>
  intro ts ep et f f' _ _ hl hf h
  have:ts=[]:=List.eq_nil_of_length_eq_zero hl.symm
  subst this
  rw[mL] at h
  injection h with _ h
  subst h
  exact⟨hf,fun x u e=>e,fun x hx=>by obtain⟨p,hp,_⟩:=hx;(cases hp),fun x hx=>.inl hx,fun _ _ _=>rfl⟩
 | cons p ps ih =>
  intro ts ep et f f' hp ht hl hf h
  cases ts with
  | nil=>cases hl
  | cons t ts =>
   rw[mL] at h
   cases hm:mT vars p t ep et f with
   | mk b f1 =>
    rw[hm] at h
    cases b with
    | false=>simp at h
    | true =>
     rw[if_pos rfl] at h
     obtain⟨g1,w1,d1,o1,s1⟩:=(hp p (by simp)).1 t ep et f f1 (hp p (by simp)).2 (ht t (by simp)) hf hm
     obtain⟨g2,w2,d2,o2,s2⟩:=ih ts ep et f1 f' (fun q hq=>hp q (by simp[hq])) (fun u hu=>ht u (by simp[hu])) (by simpa using hl) g1 h
     refine⟨g2,w1.trans w2,fun x hx hxv=>?_,fun x hx=>?_,fun v hv hvn=>?_⟩
     ·obtain⟨q,hq,hqx⟩:=hx
      rcases List.mem_cons.1 hq with rfl|hq
      ·have:=d1 x hqx hxv
       cases e:lkF f1 x with
       | none=>exact absurd e this
       | some u=>rw[w2 x u e];simp
      ·exact d2 x ⟨q,hq,hqx⟩ hxv
     ·rcases o2 x hx with h|⟨q,hq,hqx⟩
      ·rcases o1 x h with h|h
       ·exact .inl h
       ·exact .inr ⟨p,by simp,h⟩
      ·exact .inr ⟨q,by simp[hq],hqx⟩
     ·rw[List.map_cons,List.map_cons,s1 v (w2.trans hv) hvn,s2 v hv hvn]
theorem mT_sound (vars:List ByteArray):∀ p:Ty,MSound vars p:=by
 intro p
 induction p using Ty.ind with
 | h p ih =>
  intro t ep et f f' hp ht hf h
  rw[mT_eq] at h
  by_cases h1:p.kind=1
  ·rw[if_pos h1] at h
   exact var_sound vars p t ep et f f' h1 hp ht hf h
  ·rw[if_neg h1] at h
   split at h
   ·injection h with h;cases h
   ·next hc =>
    simp only[not_or,Classical.not_not,not_and] at hc
    obtain⟨hk,hl,hn,h3⟩:=hc
    by_cases h5:p.kind=5
    ·rw[if_pos h5] at h
     obtain⟨g,wn,d,o,s⟩:=mL_sound vars p.args t.args _ _ f f' (fun q hq=>⟨ih q hq,hp.args q hq⟩) (mk_args ht) hl hf h
     rw[dbT_all _ _ h5,dbT_all _ _ (by rw[← hk];exact h5)]
     refine⟨g,wn,fun x hx hxv=>?_,fun x hx=>?_,fun v hv hvn=>?_⟩
     ·rcases (vn_mk _ _ _ _ _).1 hx with h|⟨a,ha,hax⟩
      ·exact absurd h.1 (by decide)
      ·obtain⟨q,hq,rfl⟩:=List.mem_map.1 ha
       exact d x ⟨q,hq,hax⟩ hxv
     ·rcases o x hx with h|⟨q,hq,hqx⟩
      ·exact .inl h
      ·exact .inr ((vn_mk _ _ _ _ _).2 (.inr ⟨_,List.mem_map.2 ⟨q,hq,rfl⟩,hqx⟩))
     ·rw[svT_mk,if_neg (by decide),List.map_map]
      congr 1
      exact s v hv hvn
    ·rw[if_neg h5] at h
     obtain⟨g,wn,d,o,s⟩:=mL_sound vars p.args t.args _ _ f f' (fun q hq=>⟨ih q hq,hp.args q hq⟩) (mk_args ht) hl hf h
     have ht1:t.kind≠1:=by rw[← hk];exact h1
     have ht5:t.kind≠5:=by rw[← hk];exact h5
     rw[dbT_other _ _ h1 h5,dbT_other _ _ ht1 ht5]
     refine⟨g,wn,fun x hx hxv=>?_,fun x hx=>?_,fun v hv hvn=>?_⟩
     ·rcases (vn_mk _ _ _ _ _).1 hx with h|⟨a,ha,hax⟩
      ·exact absurd h.1 h1
      ·obtain⟨q,hq,rfl⟩:=List.mem_map.1 ha
       exact d x ⟨q,hq,hax⟩ hxv
     ·rcases o x hx with h|⟨q,hq,hqx⟩
      ·exact .inl h
      ·exact .inr ((vn_mk _ _ _ _ _).2 (.inr ⟨_,List.mem_map.2 ⟨q,hq,rfl⟩,hqx⟩))
     ·have hname:p.name=t.name:=by
       by_cases hk3:p.kind=3
       ·exact h3 hk3
       ·have hkp:=hp.kind
        have:p.kind=2∨p.kind=4:=by omega
        rcases this with h|h
        ·rw[(hp.k2 h).1,(ht.1.k2 (by rw[← hk];exact h)).1]
        ·rw[(hp.k4 h).1,(ht.1.k4 (by rw[← hk];exact h)).1]
      rw[svT_mk,if_neg h1,List.map_map,hk,hname,hn]
      congr 1
      exact s v hv hvn
def MComp (vars:List ByteArray)(p:Ty):Prop:=∀ (t:Ty) (ep et:List ByteArray) (f:Fnd) (v:ByteArray→Option Ty),Std p→Mk t→FGood vars f→(∀ x u,v x=some u→Mono u)→(∀ x,x∉vars→v x=none)→(∀ x∈vars,vnT x (dbT ep p)→v x≠none)→Within f v →
 svT v (dbT ep p)=dbT et t→∃ f',mT vars p t ep et f=(true,f')∧Within f' v
theorem var_comp (vars:List ByteArray)(p t:Ty)(ep et:List ByteArray)(f:Fnd)(v:ByteArray→Option Ty)(hk:p.kind=1)(hp:Std p)(ht:Mk t)(hv:∀ x u,v x=some u→Mono u)(hvn:∀ x,x∉vars→v x=none)(hd:∀ x∈vars,vnT x (dbT ep p)→v x≠none)(hw:Within f v)
  (e:svT v (dbT ep p)=dbT et t):∃ f',varM vars p.name t ep et f=(true,f')∧Within f' v:=by
 obtain⟨hn0,ha⟩:=hp.k1 hk
 unfold varM
 rw[dbT_var _ _ hk,hn0] at e hd
 unfold look at e hd
 by_cases hc:((ixN ep p.name).isNone&&hasN vars p.name)=true
 ·rw[if_pos hc]
  rw[Bool.and_eq_true,Option.isNone_iff_eq_none,hasN_iff] at hc
  rw[hc.1] at e hd
  simp only at e hd
  have hne:=hd p.name hc.2 ((vn_mk _ _ _ _ _).2 (.inl ⟨rfl,rfl⟩))
  cases hvp:v p.name with
  | none=>exact absurd hvp hne
  | some u =>
   rw[svT_mk,if_pos rfl,hvp] at e
   simp only at e
   have hmu:=hv _ _ hvp
   obtain⟨etu,hfr⟩:=db_mono_inv t et u ht.1 hmu e.symm
   have ho:ownB t et=true:=(own_iff t et).2 ⟨by rw[etu];exact hmu.2,hfr⟩
   cases hl:lkF f p.name with
   | some u' =>
    have:u'=u:=by have:=hw _ _ hl;rw[hvp] at this;injection this with this;exact this.symm
    subst this
    simp only
    exact⟨f,by rw[ho,etu];simp,hw⟩
   | none =>
    simp only
    refine⟨f++[(p.name,t)],by rw[ho],fun x u' e'=>?_⟩
    by_cases hx:p.name=x
    ·subst hx
     rw[lk_snoc_new hl] at e'
     injection e' with e'
     rw[hvp,← e',etu]
    ·rw[lk_snoc_other hx] at e'
     exact hw _ _ e'
 ·rw[if_neg hc]
  refine⟨f,?_,hw⟩
  have hres:t.kind=1∧ixN ep p.name=ixN et t.name∧((ixN ep p.name).isSome=true∨p.name=t.name):=by
   cases he:ixN ep p.name with
   | some i =>
    rw[he] at e
    simp only at e
    rw[svT_mk,if_neg (by decide)] at e
    have hk6:(dbT et t).kind=6:=by rw[← e];rfl
    by_cases h1:t.kind=1
    ·obtain⟨htn,_⟩:=ht.1.k1 h1
     rw[dbT_var _ _ h1] at e
     unfold look at e
     cases h2:ixN et t.name with
     | some j =>
      rw[h2] at e
      simp only[Ty.mk.injEq] at e
      have:i=j:=by omega
      subst this
      exact⟨h1,rfl,.inl rfl⟩
     | none=>rw[h2] at e;simp only[Ty.mk.injEq] at e;omega
    ·exfalso
     have hkk:=ht.1.kind
     by_cases h5:t.kind=5
     ·rw[dbT_all _ _ h5] at hk6
      exact absurd hk6 (by show ¬ (5:Int)=6;decide)
     ·rw[dbT_other _ _ h1 h5] at hk6
      have:t.kind=6:=hk6
      omega
   | none =>
    rw[he] at e
    simp only at e
    have hnv:p.name∉vars:=fun hm=>hc (by rw[he,Bool.and_eq_true,hasN_iff];exact⟨rfl,hm⟩)
    rw[svT_mk,if_pos rfl,hvn _ hnv] at e
    simp only[List.map_nil] at e
    have hk1:(dbT et t).kind=1:=by rw[← e];rfl
    by_cases h1:t.kind=1
    ·rw[dbT_var _ _ h1] at e
     unfold look at e
     cases h2:ixN et t.name with
     | some j=>rw[h2] at e;simp only[Ty.mk.injEq] at e;omega
     | none =>
      rw[h2] at e
      simp only[Ty.mk.injEq] at e
      exact⟨h1,rfl,.inr e.2.1⟩
    ·exfalso
     have hkk:=ht.1.kind
     by_cases h5:t.kind=5
     ·rw[dbT_all _ _ h5] at hk1
      exact absurd hk1 (by show ¬ (5:Int)=1;decide)
     ·rw[dbT_other _ _ h1 h5] at hk1
      exact h1 hk1
  obtain⟨h1,h2,h3⟩:=hres
  rw[Prod.mk.injEq]
  refine⟨?_,rfl⟩
  rw[Bool.and_eq_true,Bool.and_eq_true,Bool.or_eq_true]
  exact⟨⟨by rw[h1];rfl,by rw[h2];simp⟩,h3.imp id fun h=>(eqN_iff _ _).2 h⟩
theorem mL_comp (vars:List ByteArray):∀ (ps ts:List Ty) (ep et:List ByteArray) (f:Fnd) (v:ByteArray→Option Ty),(∀ p∈ps,MComp vars p∧Std p)→(∀ t∈ts,Mk t)→FGood vars f→(∀ x u,v x=some u→Mono u)→(∀ x,x∉vars→v x=none)→(∀ x∈vars,(∃ p∈ps,vnT x (dbT ep p))→v x≠none)→Within f v →
  ps.map (fun p=>svT v (dbT ep p))=ts.map (dbT et)→∃ f',mL vars ps ts ep et f=(true,f')∧Within f' v:=by
 intro ps
 induction ps with
 | nil=>intro ts ep et f v _ _ _ _ _ _ hw _;exact⟨f,by rw[mL],hw⟩
 | cons p ps ih =>
  intro ts ep et f v hp ht hf hv hvn hd hw e
  cases ts with
  | nil=>cases e
  | cons t ts =>
   rw[List.map_cons,List.map_cons,List.cons.injEq] at e
   obtain⟨f1,hm,hw1⟩:=(hp p (by simp)).1 t ep et f v (hp p (by simp)).2 (ht t (by simp)) hf hv hvn (fun x hx hxn=>hd x hx ⟨p,by simp,hxn⟩) hw e.1
   have hs:=mT_sound vars p t ep et f f1 (hp p (by simp)).2 (ht t (by simp)) hf hm
   obtain⟨f2,hm2,hw2⟩:=ih ts ep et f1 v (fun q hq=>hp q (by simp[hq])) (fun u hu=>ht u (by simp[hu])) hs.1 hv hvn (fun x hx ⟨q,hq,hqx⟩=>hd x hx ⟨q,by simp[hq],hqx⟩) hw1 e.2
   exact⟨f2,by rw[mL,hm,if_pos rfl];exact hm2,hw2⟩
theorem mT_comp (vars:List ByteArray):∀ p:Ty,MComp vars p:=by
 intro p
 induction p using Ty.ind with
 | h p ih =>
  intro t ep et f v hp ht hf hv hvn hd hw e
  rw[mT_eq]
  by_cases h1:p.kind=1
  ·rw[if_pos h1]
   exact var_comp vars p t ep et f v h1 hp ht hv hvn hd hw e
  ·rw[if_neg h1]
   have hkt:=ht.1.kind
   by_cases h5:p.kind=5
   ·rw[dbT_all _ _ h5] at e hd
    rw[svT_mk,if_neg (by decide),List.map_map] at e
    have hk5:t.kind=5:=by
     have hk:(dbT et t).kind=5:=by rw[← e];rfl
     by_cases ht1:t.kind=1
     ·rw[dbT_var _ _ ht1] at hk
      unfold look at hk
      cases h2:ixN et t.name with
      | some j=>rw[h2] at hk;exact absurd hk (by show ¬ (6:Int)=5;decide)
      | none=>rw[h2] at hk;exact absurd hk (by show ¬ (1:Int)=5;decide)
     ·by_cases ht5:t.kind=5
      ·exact ht5
      ·rw[dbT_other _ _ ht1 ht5] at hk;exact hk
    rw[dbT_all _ _ hk5] at e
    rw[Ty.mk.injEq] at e
    have e2:=e.2.2.2
    have hlen:p.args.length=t.args.length:=by have:=congrArg List.length e2;simpa using this
    rw[if_neg (by
     rintro (h|h|h|h)
     ·exact h (h5.trans hk5.symm)
     ·exact h hlen
     ·exact h ((hp.k5 h5).1.trans (ht.1.k5 hk5).1.symm)
     ·omega),if_pos h5]
    exact mL_comp vars p.args t.args _ _ f v (fun q hq=>⟨ih q hq,hp.args q hq⟩) (mk_args ht) hf hv hvn (fun x hx ⟨q,hq,hqx⟩=>hd x hx ((vn_mk _ _ _ _ _).2 (.inr ⟨_,List.mem_map.2 ⟨q,hq,rfl⟩,hqx⟩))) hw e2
   ·rw[dbT_other _ _ h1 h5] at e hd
    rw[svT_mk,if_neg h1,List.map_map] at e
    have hkp:=hp.kind
    have hk:(dbT et t).kind=p.kind:=by rw[← e];rfl
    have ht1:t.kind≠1:=fun ht1=>by
     rw[dbT_var _ _ ht1] at hk
     unfold look at hk
     cases h2:ixN et t.name with
     | some j=>rw[h2] at hk;have:(6:Int)=p.kind:=hk;omega
     | none=>rw[h2] at hk;have:(1:Int)=p.kind:=hk;omega
    have ht5:t.kind≠5:=fun ht5=>by
     rw[dbT_all _ _ ht5] at hk
     have:(5:Int)=p.kind:=hk
     omega
    rw[dbT_other _ _ ht1 ht5,Ty.mk.injEq] at e
    obtain⟨ek,en,em,ea⟩:=e
    have hlen:p.args.length=t.args.length:=by have:=congrArg List.length ea;simpa using this
    rw[if_neg (by
     rintro (h|h|h|h)
     ·exact h ek
     ·exact h hlen
     ·exact h em
     ·exact h.2 en),if_neg h5]
    exact mL_comp vars p.args t.args _ _ f v (fun q hq=>⟨ih q hq,hp.args q hq⟩) (mk_args ht) hf hv hvn (fun x hx ⟨q,hq,hqx⟩=>hd x hx ((vn_mk _ _ _ _ _).2 (.inr ⟨_,List.mem_map.2 ⟨q,hq,rfl⟩,hqx⟩))) hw ea
end Go.Proofs.YtofllmemmggapaaGreatDoor.Tp

namespace Go.Proofs.YtofllmemmggapaaGreatDoor.Tp
open Lx
theorem lname_lex (c:UInt8)(hc:lowerB c=true)(n:Nat)(h:n<1000000000000):LexN (lname ⟨#[c]⟩ n):=by
 have h1:=dec_digits n
 have h2:=dec_len n h
 unfold LexN
 have e:(lname ⟨#[c]⟩ n).data.toList=c :: Lib.decDigits n:=lname_list [c] n
 rw[e]
 refine⟨⟨by simp only[List.length_cons];omega,fun d hd=>?_⟩,hc,?_⟩
 ·rcases List.mem_cons.1 hd with rfl|hd
  ·simp[innerB,hc]
  ·exact digit_innerB (h1.1 d hd)
 ·rw[← Bool.not_eq_true,List.contains_iff_mem]
  intro hk
  cases hd:Lib.decDigits n with
  | nil=>have:=h1.2.1;rw[hd] at this;simp at this
  | cons d ds =>
   have hdig:=h1.1 d (by rw[hd];simp)
   rw[hd] at hk
   unfold digitB at hdig
   simp only[decide_eq_true_eq] at hdig
   simp only[keys,List.mem_cons,List.not_mem_nil,or_false,List.cons.injEq] at hk
   rcases hk with hk|hk|hk|hk|hk|hk<;>(have:=hk.2.1;subst this;revert hdig;decide)
theorem fname_lex (nm:ByteArray)(hn:LexN nm)(i:Nat)(h:i<1000000000000):LexN (fname nm i):=by
 obtain⟨hN,hlow,_⟩:=hn
 have h1:=dec_digits i
 have h2:=dec_len i h
 cases hl:nm.data.toList with
 | nil=>have:=hN.len.1;rw[hl] at this;simp at this
 | cons c r =>
  rw[hl] at hlow
  have hc:lowerB c=true:=hlow
  have e:(fname nm i).data.toList=c :: 95 :: Lib.decDigits i:=by
   unfold fname
   rw[itoa_dec]
   have e0:(nm.extract 0 1).data.toList=[c]:=by
    rw[ByteArray.data_extract,Array.toList_extract,hl];rfl
   rw[ByteArray.data_append,ByteArray.data_append,Array.toList_append,Array.toList_append,e0];rfl
  unfold LexN
  rw[e]
  refine⟨⟨by simp only[List.length_cons];omega,fun d hd=>?_⟩,hc,?_⟩
  ·rcases List.mem_cons.1 hd with rfl|hd
   ·simp[innerB,hc]
   ·rcases List.mem_cons.1 hd with rfl|hd
    ·decide
    ·exact digit_innerB (h1.1 d hd)
  ·rw[← Bool.not_eq_true,List.contains_iff_mem]
   intro hk
   simp only[keys,List.mem_cons,List.not_mem_nil,or_false,List.cons.injEq] at hk
   rcases hk with hk|hk|hk|hk|hk|hk<;>(have:=hk.2.1;revert this;decide)
theorem freshT_lex (nm:ByteArray)(hn:LexN nm)(but:List ByteArray)(h:but.length≤100000000000):LexN (freshT nm but):=by
 have hs:=firstN_spec (fname nm) (fun _ _=>fname_inj) but 0
 exact fname_lex nm hn _ (by omega)
theorem lexN_of {t:Ty}(h:LexT t)(hk:t.kind=1∨t.kind=5):LexN t.name:=((lex_iff t).1 h).1.1 hk
theorem lex_all {s:ByteArray}{b:Ty}(hs:LexN s)(hb:LexT b):LexT (tAllB s b):=by
 refine (lex_iff _).2 ⟨⟨fun _=>hs,fun h=>absurd h (by show ¬ (5:Int)=3;decide),fun h=>absurd h (by show ¬ (5:Int)=2;decide)⟩,fun a ha=>?_⟩
 obtain rfl:=List.mem_singleton.1 ha
 exact hb
theorem lex_args {t:Ty}(h:LexT t)(l:List Ty)(hl:∀ a∈l,LexT a):LexT (.mk t.kind t.name t.n l):=(lex_iff _).2 ⟨((lex_iff t).1 h).1,hl⟩
theorem lex_var {s:ByteArray}(hs:LexN s):LexT (.mk 1 s 0 []):=(lex_iff _).2 ⟨⟨fun _=>hs,fun h=>absurd h (by show ¬ (1:Int)=3;decide),fun h=>absurd h (by show ¬ (1:Int)=2;decide)⟩,fun a ha=>by cases ha⟩
theorem sizeL_same (f:Ty→Ty)(l:List Ty)(h:∀ a∈l,(f a).size=a.size):sizeL (l.map f)=sizeL l:=by
 induction l with
 | nil=>rfl
 | cons a l ih=>rw[List.map_cons,sizeL,sizeL,h a (by simp),ih fun b hb=>h b (by simp[hb])]
theorem renF_lex:∀ (d:Nat) (fr nw:ByteArray) (t:Ty),t.depth≤d→Std t→LexT t→LexN nw→t.size≤10000000000→LexT (renF d fr nw t)∧(renF d fr nw t).size=t.size:=by
 intro d
 induction d with
 | zero=>intro fr nw t h;rw[t.depth_eq] at h;omega
 | succ d ih =>
  intro fr nw t h hs hl hn hz
  have hd:∀ a∈t.args,a.depth≤d:=fun a ha=>by have:=depth_arg _ ha;rw[t.depth_eq] at h;omega
  have hsz:∀ a∈t.args,a.size≤10000000000:=fun a ha=>by have:=size_arg _ ha;rw[t.size_eq] at hz;omega
  have hla:=((lex_iff t).1 hl).2
  rw[renF]
  split
  ·next hc =>
   simp only[Bool.and_eq_true,beq_iff_eq,eqN_iff] at hc
   obtain⟨h1,h2⟩:=hs.k1 hc.1
   rw[hc.1,h1,h2]
   exact⟨lex_var hn,by rw[Ty.size_eq,t.size_eq,h2];rfl⟩
  ·split
   ·exact⟨hl,rfl⟩
   ·split
    ·next h1 h2 hc =>
     simp only[Bool.and_eq_true,beq_iff_eq] at hc
     obtain⟨b,hb,hb0⟩:=std_k5 hs hc.1
     rw[hb0]
     have hbm:b∈t.args:=by rw[hb];simp
     have hfl:=freeT_len b
     have hfx:=freshT_lex nw hn (freeT b++[fr,nw]) (by have:=hsz b hbm;simp;omega)
     generalize freshT nw (freeT b++[fr,nw])=n at *
     have h1:=renF_std d nw n b (hd b hbm) (hs.args b hbm)
     have h2:=ih nw n b (hd b hbm) (hs.args b hbm) (hla b hbm) hfx (hsz b hbm)
     have h3:=ih fr nw (renF d nw n b) (by rw[h1.1];exact hd b hbm) h1.2.1 h2.1 hn (by rw[h2.2];exact hsz b hbm)
     refine⟨lex_all hfx h3.1,?_⟩
     rw[Ty.size_eq,t.size_eq,hb]
     show sizeL [_]+1=_
     rw[sizeL,sizeL,sizeL,sizeL,h3.2,h2.2]
    ·refine⟨lex_args hl _ fun a ha=>?_,?_⟩
     ·obtain⟨b,hb,rfl⟩:=List.mem_map.1 ha
      exact (ih fr nw b (hd b hb) (hs.args b hb) (hla b hb) hn (hsz b hb)).1
     ·rw[Ty.size_eq,t.size_eq]
      show sizeL (t.args.map _)+1=_
      rw[sizeL_same _ _ fun a ha=>(ih fr nw a (hd a ha) (hs.args a ha) (hla a ha) hn (hsz a ha)).2]
theorem PutF_lex (nm:ByteArray)(u:Ty)(hul:LexT u)(huz:u.size≤10000000000):∀ (d:Nat) (t:Ty),t.depth≤d→Std t→LexT t→t.size≤10000000000→LexT (PutF d nm u t):=by
 intro d
 induction d with
 | zero=>intro t h;rw[t.depth_eq] at h;omega
 | succ d ih =>
  intro t h hs hl hz
  have hd:∀ a∈t.args,a.depth≤d:=fun a ha=>by have:=depth_arg _ ha;rw[t.depth_eq] at h;omega
  have hsz:∀ a∈t.args,a.size≤10000000000:=fun a ha=>by have:=size_arg _ ha;rw[t.size_eq] at hz;omega
  have hla:=((lex_iff t).1 hl).2
  rw[PutF]
  split
  ·exact hl
  ·split
   ·exact hul
   ·split
    ·next hc =>
     simp only[Bool.and_eq_true,beq_iff_eq] at hc
     obtain⟨b,hb,hb0⟩:=std_k5 hs hc.1
     rw[hb0]
     have hbm:b∈t.args:=by rw[hb];simp
     have hfl:=freeT_len b
     have hfu:=freeT_len u
     have hfx:=freshT_lex t.name (lexN_of hl (.inr hc.1)) (freeT u++freeT b++[t.name,nm]) (by have:=hsz b hbm;simp;omega)
     generalize freshT t.name (freeT u++freeT b++[t.name,nm])=n at *
     have hr:=renF_std b.depth t.name n b (Nat.le_refl _) (hs.args b hbm)
     have hr2:=renF_lex b.depth t.name n b (Nat.le_refl _) (hs.args b hbm) (hla b hbm) hfx (hsz b hbm)
     unfold renAll
     rw[hb0]
     exact lex_all hfx (ih (renT t.name n b) (by show (renF _ _ _ _).depth≤d;rw[hr.1];exact hd b hbm) hr.2.1 hr2.1 (by show (renF _ _ _ _).size≤_;rw[hr2.2];exact hsz b hbm))
    ·refine lex_args hl _ fun a ha=>?_
     obtain⟨b,hb,rfl⟩:=List.mem_map.1 ha
     exact ih b (hd b hb) (hs.args b hb) (hla b hb) (hsz b hb)
theorem PutT_mk (nm:ByteArray)(u t:Ty)(ht:Mk t)(hu:Mk u)(hs:t.size≤10000000000)(hus:u.size≤10000000000):Mk (PutT nm u t) :=
 ⟨PutT_std nm u t ht.1 hu.1,PutF_lex nm u hu.2 hus _ _ (Nat.le_refl _) ht.1 ht.2 hs⟩
end Go.Proofs.YtofllmemmggapaaGreatDoor.Tp

namespace Go.Proofs.YtofllmemmggapaaGreatDoor.Tp
def MatchT (p t:Ty)(vars:List ByteArray):Option Fnd :=
 if (mT vars p t [] [] []).1 then some ((freeT p).filterMap fun n=>(lkF (mT vars p t [] [] []).2 n).map fun u=>(n,u)) else none
structure IsM (vars:List ByteArray)(p t:Ty)(v:ByteArray→Option Ty):Prop where
 mono:∀ x u,v x=some u→Mono u
 out:∀ x,x∉vars→v x=none
 dom:∀ x∈vars,fvT x p→v x≠none
 eq:svT v (dbT [] p)=dbT [] t
def pairsT (p:Ty)(v:ByteArray→Option Ty):Fnd:=(freeT p).filterMap fun n=>(v n).map fun u=>(n,u)
theorem fgood_nil (vars:List ByteArray):FGood vars []:=⟨fun x u e=>(by cases e),fun x u e=>(by cases e)⟩
theorem match_some {vars:List ByteArray}{p t:Ty}(hp:Std p)(ht:Mk t){l:Fnd}(h:MatchT p t vars=some l):∃ v,IsM vars p t v∧l=pairsT p v∧(∀ x u,v x=some u→Mk u):=by
 unfold MatchT at h
 split at h
 ·next hc =>
  injection h with h
  obtain⟨g,_,d,o,s⟩:=mT_sound vars p t [] [] [] (mT vars p t [] [] []).2 hp ht (fgood_nil vars) (by rw[← hc])
  refine⟨lkF (mT vars p t [] [] []).2,⟨fun x u e=>(g.val x u e).1,fun x hx=>?_,fun x hx hf=>d x ((vn_db x p [] hp).2 ⟨hf,by simp⟩) hx,s _ (fun x u e=>e) fun x hx=>?_⟩,h.symm,fun x u e=>(g.val x u e).2⟩
  all_goals
   cases e:lkF (mT vars p t [] [] []).2 x with
   | none=>rfl
   | some u=>exact absurd (g.dom x u e) hx
 ·cases h
theorem filterMap_congr' {α β : Type}{f g:α→Option β}{l:List α}(h:∀ a∈l,f a=g a):l.filterMap f=l.filterMap g:=by
 induction l with
 | nil=>rfl
 | cons a l ih=>rw[List.filterMap_cons,List.filterMap_cons,h a (by simp),ih fun b hb=>h b (by simp[hb])]
theorem match_of {vars:List ByteArray}{p t:Ty}(hp:Std p)(ht:Mk t){v:ByteArray→Option Ty}(h:IsM vars p t v):MatchT p t vars=some (pairsT p v):=by
 obtain⟨f',hm,hw⟩:=mT_comp vars p t [] [] [] v hp ht (fgood_nil vars) h.mono h.out (fun x hx hn=>h.dom x hx ((vn_db x p [] hp).1 hn).1) (fun x u e=>by cases e) h.eq
 obtain⟨g,_,d,_,_⟩:=mT_sound vars p t [] [] [] f' hp ht (fgood_nil vars) hm
 unfold MatchT pairsT
 rw[hm,if_pos rfl]
 congr 1
 refine filterMap_congr' fun n hn=>?_
 have hfv:=(mem_free n p).1 hn
 have:lkF f' n=v n:=by
  cases e:lkF f' n with
  | some u=>exact (hw n u e).symm
  | none =>
   cases e2:v n with
   | none=>rfl
   | some u =>
    have hv:n∈vars:=Classical.byContradiction fun hc=>by rw[h.out n hc] at e2;cases e2
    exact absurd e (d n ((vn_db n p [] hp).2 ⟨hfv,by simp⟩) hv)
 show (lkF f' n).map _=_
 rw[this]
def peelF (L:ByteArray)(but:List ByteArray):Nat→Nat→Ty→List ByteArray × Ty
 | 0,_,t=>([],t)
 | d+1,n,t=>if t.kind=5 then (lname L (nx (lname L) but n) :: (peelF L but d (nx (lname L) but n+1) (PutT t.name (.mk 1 (lname L (nx (lname L) but n)) 0 []) (arg0T t))).1,
   (peelF L but d (nx (lname L) but n+1) (PutT t.name (.mk 1 (lname L (nx (lname L) but n)) 0 []) (arg0T t))).2) else ([],t)
def PeelT (L:ByteArray)(but:List ByteArray)(t:Ty):List ByteArray × Ty:=peelF L but t.depth 0 t
def stF:Nat→Ty→Ty
 | 0,X=>X
 | k+1,X=>stF k (arg0T X)
def allsN:Nat→Ty→Prop
 | 0,_=>True
 | k+1,X=>X.kind=5∧(∃ b,X=.mk 5 emp 0 [b])∧allsN k (arg0T X)
theorem arg0_mk (k:Int)(s:ByteArray)(n:Int)(b:Ty):arg0T (.mk k s n [b])=b:=rfl
theorem st_ab (env:List ByteArray):∀ (k d:Nat) (Y:Ty),allsN k Y→abT env (d+k) (stF k Y)=stF k (abT env d Y)∧allsN k (abT env d Y):=by
 intro k
 induction k with
 | zero=>intro d Y _;exact⟨rfl,trivial⟩
 | succ k ih =>
  intro d Y h
  obtain⟨_,⟨b,rfl⟩,ha⟩:=h
  rw[arg0_mk] at ha
  have e:abT env d (.mk 5 emp 0 [b])=.mk 5 emp 0 [abT env (d+1) b]:=by rw[abT_mk,if_neg (by decide),if_pos rfl];rfl
  obtain⟨h1,h2⟩:=ih (d+1) b ha
  rw[e]
  refine⟨?_,rfl,⟨_,rfl⟩,by rw[arg0_mk];exact h2⟩
  show abT env (d+(k+1)) (stF k (arg0T (.mk 5 emp 0 [b])))=stF k (arg0T (.mk 5 emp 0 [abT env (d+1) b]))
  rw[arg0_mk,arg0_mk,← h1]
  congr 1
  omega
theorem alls_uniq:∀ (k k':Nat) (X:Ty),allsN k X→(stF k X).kind≠5→allsN k' X→(stF k' X).kind≠5→k=k':=by
 intro k
 induction k with
 | zero =>
  intro k' X _ h0 h1 _
  cases k' with
  | zero=>rfl
  | succ k'=>exact absurd h1.1 h0
 | succ k ih =>
  intro k' X h1 h2 h3 h4
  cases k' with
  | zero=>exact absurd h1.1 h4
  | succ k'=>rw[ih k' (arg0T X) h1.2.2 h2 h3.2.2 h4]
structure PeelOk (L:ByteArray)(but:List ByteArray)(n:Nat)(t:Ty)(r:List ByteArray × Ty):Prop where
 good:Mk r.2
 k5:r.2.kind≠5
 names:∀ x∈r.1,x∉but∧∃ j,n≤j∧x=lname L j
 nodup:r.1.Nodup
 db:dbT r.1.reverse r.2=stF r.1.length (dbT [] t)
 alls:allsN r.1.length (dbT [] t)
 size:r.2.size≤t.size
 depth:r.2.depth≤t.depth
 len:r.1.length≤t.depth
theorem sb_self (y:ByteArray):∀ (X:Ty) (d:Nat),DbW d X→sbT (isVar y) (.mk 1 y 0 []) X=X:=by
 intro X
 induction X using Ty.ind with
 | h X ih =>
  cases X with
  | mk k s n args =>
   intro d hw
   obtain⟨w1,_,wa⟩:=(dbw_mk d k s n args).1 hw
   rw[sbT_mk,isVar_mk]
   split
   ·next h =>
    simp only[Bool.and_eq_true,beq_iff_eq,eqN_iff] at h
    obtain⟨rfl,rfl⟩:=w1 h.1
    rw[h.1,h.2]
   ·congr 1
    exact map_id_of fun a ha=>ih a ha _ (wa a ha)
theorem vn_sb (x y n:ByteArray):∀ X:Ty,vnT x (sbT (isVar y) (.mk 1 n 0 []) X)→x=n∨(vnT x X∧x≠y):=by
 intro X
 induction X using Ty.ind with
 | h X ih =>
  cases X with
  | mk k s m args =>
   intro h
   rw[sbT_mk,isVar_mk] at h
   split at h
   ·rcases (vn_mk _ _ _ _ _).1 h with h|⟨a,ha,_⟩
    ·exact .inl h.2.symm
    ·cases ha
   ·next hc =>
    rcases (vn_mk _ _ _ _ _).1 h with h|⟨a,ha,hax⟩
    ·refine .inr ⟨(vn_mk _ _ _ _ _).2 (.inl h),fun e=>hc ?_⟩
     rw[h.1,h.2,e,(eqN_iff y y).2 rfl];rfl
    ·obtain⟨b,hb,rfl⟩:=List.mem_map.1 ha
     rcases ih b hb hax with h|h
     ·exact .inl h
     ·exact .inr ⟨(vn_mk _ _ _ _ _).2 (.inr ⟨b,hb,h.1⟩),h.2⟩
theorem put_name_db (y n:ByteArray)(b:Ty)(env:List ByteArray)(hb:Std b)(hn:n=y∨¬ fvT n b):dbT (n :: env) (PutT y (.mk 1 n 0 []) b)=dbT (y :: env) b:=by
 rcases hn with rfl|hn
 ·refine db_env (PutT_std n _ b hb (std_var n)) hb ?_ _
  rw[db_PutT n _ b hb]
  exact sb_self n (dbT [] b) 0 (db_dbw b [] hb)
 ·exact put_var_db y n b env hb hn
theorem put_name_fv (x y n:ByteArray)(b:Ty)(hb:Std b)(h:fvT x (PutT y (.mk 1 n 0 []) b)):x=n∨(fvT x b∧x≠y):=by
 have h1:=(vn_db x _ [] (PutT_std y _ b hb (std_var n))).2 ⟨h,by simp⟩
 rw[db_PutT y _ b hb] at h1
 exact (vn_sb x y n _ h1).imp id fun h=>⟨((vn_db x b [] hb).1 h.1).1,h.2⟩
theorem peel_ok (c:UInt8)(hc:Lx.lowerB c=true)(but:List ByteArray):∀ (d n:Nat) (t:Ty),t.depth≤d→Mk t→t.size≤10000000000→(∀ x,fvT x t→x∈but∨∃ j,j<n∧x=lname ⟨#[c]⟩ j)→n+d*(but.length+1)≤100000000000 →
  PeelOk ⟨#[c]⟩ but n t (peelF ⟨#[c]⟩ but d n t):=by
 intro d
 induction d with
 | zero=>intro n t h;rw[t.depth_eq] at h;omega
 | succ d ih =>
  intro n t hd hm hz hfv hn
  by_cases h5:t.kind=5
  ·obtain⟨b,hb,hb0⟩:=std_k5 hm.1 h5
   have hbm:b∈t.args:=by rw[hb];simp
   have hmb:=mk_args hm b hbm
   have hsp:=firstN_spec (lname ⟨#[c]⟩) (fun _ _=>lname_inj) but n
   obtain⟨m,hm0⟩:∃ m,nx (lname ⟨#[c]⟩) but n=m:=⟨_,rfl⟩
   rw[show firstN (lname ⟨#[c]⟩) but (but.length+1) n=m from hm0] at hsp
   rw[Nat.add_mul] at hn
   have hx:LexN (lname ⟨#[c]⟩ m):=lname_lex c hc m (by omega)
   have hxb:lname ⟨#[c]⟩ m∉but:=(hasN_false _ _).1 hsp.2.2.2
   have hmv:Mk (.mk 1 (lname ⟨#[c]⟩ m) 0 []):=⟨std_var _,lex_var hx⟩
   have hxf:lname ⟨#[c]⟩ m=t.name∨¬ fvT (lname ⟨#[c]⟩ m) b:=by
    by_cases he:lname ⟨#[c]⟩ m=t.name
    ·exact .inl he
    ·refine .inr fun h=>?_
     rcases hfv _ ((fvT_iff _ t).2 (.inr ⟨⟨b,hbm,h⟩,fun e=>he e.2.symm⟩)) with h|⟨j,hj,e⟩
     ·exact hxb h
     ·have:=lname_inj e;omega
   have hsb:=size_arg _ hbm
   have hdb:=depth_arg _ hbm
   rw[t.size_eq] at hz
   rw[t.depth_eq] at hd
   have hps:=PutT_size t.name (.mk 1 (lname ⟨#[c]⟩ m) 0 []) b hmb.1 (std_var _)
   have hpd:=PutT_depth t.name (.mk 1 (lname ⟨#[c]⟩ m) 0 []) b hmb.1 (std_var _)
   have e1:(Ty.mk 1 (lname ⟨#[c]⟩ m) 0 []).size=1:=rfl
   have e2:(Ty.mk 1 (lname ⟨#[c]⟩ m) 0 []).depth=1:=rfl
   rw[e1,Nat.mul_one] at hps
   rw[e2] at hpd
   have hmk:=PutT_mk t.name (.mk 1 (lname ⟨#[c]⟩ m) 0 []) b hmb hmv (by omega) (by rw[e1];omega)
   have R:=ih (m+1) (PutT t.name (.mk 1 (lname ⟨#[c]⟩ m) 0 []) b) (by omega) hmk (by omega) (fun x h=>by
    rcases put_name_fv x _ _ b hmb.1 h with h|h
    ·exact .inr ⟨m,by omega,h⟩
    ·rcases hfv x ((fvT_iff x t).2 (.inr ⟨⟨b,hbm,h.1⟩,fun e=>h.2 e.2.symm⟩)) with h|⟨j,hj,e⟩
     ·exact .inl h
     ·exact .inr ⟨j,by omega,e⟩) (by omega)
   have hdbeq:=put_name_db t.name (lname ⟨#[c]⟩ m) b [] hmb.1 hxf
   have er:peelF ⟨#[c]⟩ but (d+1) n t=(lname ⟨#[c]⟩ m :: (peelF ⟨#[c]⟩ but d (m+1) (PutT t.name (.mk 1 (lname ⟨#[c]⟩ m) 0 []) b)).1,(peelF ⟨#[c]⟩ but d (m+1) (PutT t.name (.mk 1 (lname ⟨#[c]⟩ m) 0 []) b)).2):=by
    conv=>lhs;unfold peelF
    rw[if_pos h5,hm0,hb0]
   rw[er]
   generalize peelF ⟨#[c]⟩ but d (m+1) (PutT t.name (.mk 1 (lname ⟨#[c]⟩ m) 0 []) b)=r at *
   have hdt:dbT [] t=.mk 5 emp 0 [dbT [t.name] b]:=by rw[dbT_all _ _ h5,hb];rfl
   have hst:=st_ab [lname ⟨#[c]⟩ m] r.1.length 0 _ R.alls
   rw[← db_ab [lname ⟨#[c]⟩ m] _ hmk.1,hdbeq,Nat.zero_add] at hst
   refine⟨R.good,R.k5,fun x hx=>?_,?_,?_,?_,?_,?_,?_⟩
   ·rcases List.mem_cons.1 hx with rfl|hx
    ·exact⟨hxb,m,hsp.1,rfl⟩
    ·obtain⟨h1,j,h2,h3⟩:=R.names x hx
     exact⟨h1,j,by omega,h3⟩
   ·refine List.nodup_cons.2 ⟨fun h=>?_,R.nodup⟩
    obtain⟨_,j,h2,h3⟩:=R.names _ h
    have:=lname_inj h3;omega
   ·show dbT (lname ⟨#[c]⟩ m :: r.1).reverse r.2=stF (r.1.length+1) (dbT [] t)
    rw[List.reverse_cons,db_append _ _ _ R.good.1,List.length_reverse,R.db,hst.1,hdt];rfl
   ·show allsN (r.1.length+1) (dbT [] t)
    rw[hdt]
    exact⟨rfl,⟨_,rfl⟩,hst.2⟩
   ·show r.2.size≤t.size
    have:=R.size;rw[t.size_eq];omega
   ·show r.2.depth≤t.depth
    have:=R.depth;rw[t.depth_eq];omega
   ·show r.1.length+1≤t.depth
    have:=R.len;rw[t.depth_eq];omega
  ·have er:peelF ⟨#[c]⟩ but (d+1) n t=([],t):=by
    unfold peelF
    rw[if_neg h5]
   rw[er]
   exact⟨hm,h5,fun x hx=>(by cases hx),List.nodup_nil,rfl,trivial,Nat.le_refl _,Nat.le_refl _,Nat.zero_le _⟩
end Go.Proofs.YtofllmemmggapaaGreatDoor.Tp

/-
  What is told, as equations, is told again; and with them behind the equations nothing changes: for every list of at most eight lines of at most 120 bytes a side, with at most 24 variables and unknowns in all; at anything else the law tells what its examples tell.
-/
import Derived.Test.YtjecnionbjlncaaGreatDoorP51
import Derived.Test.YtjecnionbjlncaaGreatDoorCards
import Derived.Test.YtjecnionbjlncaaGreatDoorTie
import Derived.SevenTiedAt

namespace Go.Proofs.YtjecnionbjlncaaGreatDoor.Tp
open Go.RowKit
def eqK (R:Kn):List EqT:=R.map fun x=>(mt x.1,x.2)
theorem runF_more {d:Nat} : ∀ {n:Nat} (m:Nat) {W:Wk} {res:Except Nat Kn},fH_ d n W=some res→fH_ d (n+m) W=some res
 | 0,_,_,_,h=>by cases h
 | n+1,m,W,res,h=>by
  rw[show n+1+m=(n+m)+1 from by omega]
  rw[fH_] at h ⊢
  cases hl:W.left with
  | nil=>rw[hl] at h;exact h
  | cons e es =>
   rw[hl] at h
   simp only at h ⊢
   cases hs:ik_ d { W with left:=es } e with
   | none=>rw[hs] at h;cases h
   | some r =>
    rw[hs] at h
    cases r with
    | error er=>exact h
    | ok W' =>
     simp only at h ⊢
     by_cases hc:W'.left.length≤500000000000
     ·rw[if_pos hc] at h ⊢;exact runF_more m h
     ·rw[if_neg hc] at h;cases h
theorem stpF_tail {W W':Wk}{l r:Ty}(bs:List EqT)(h:gk_ W l r=some (.ok W')):gk_ ⟨W.K,W.left++bs,W.fresh⟩ l r=some (.ok ⟨W'.K,W'.left++bs,W'.fresh⟩):=by
 unfold gk_ at h ⊢
 by_cases h1:aJ_ l=aJ_ r
 ·rw[if_pos h1] at h ⊢;injection h with h;injection h with h;subst h;rfl
 rw[if_neg h1] at h ⊢
 by_cases h2:l.kind=2
 ·rw[if_pos h2] at h ⊢
  by_cases h3:((lkK W.K l.n).isSome || (aj_ r).any (fun s=>s.size==0))=true
  ·rw[if_pos h3] at h;cases h
  ·rw[if_neg h3] at h ⊢
   simp only at h ⊢
   cases hl:g0_ W.K l.n r with
   | error e=>rw[hl] at h;injection h with h;cases h
   | ok K=>rw[hl] at h;injection h with h;injection h with h;subst h;rfl
 rw[if_neg h2] at h ⊢
 by_cases h3:bG_ l r=true
 ·rw[if_pos h3] at h;cases h
 rw[if_neg h3] at h ⊢
 by_cases h4:l.kind=5
 ·rw[if_pos h4] at h ⊢
  simp only at h ⊢
  by_cases h5:(smB (opT l (cJ_ W.fresh))&&smB (opT r (cJ_ W.fresh))&&decide (W.fresh<1000000))=true
  ·rw[if_pos h5] at h ⊢;injection h with h;injection h with h;subst h;rfl
  ·rw[if_neg h5] at h;cases h
 ·rw[if_neg h4] at h ⊢
  injection h with h;injection h with h;subst h
  simp
theorem stpE_tail {d:Nat}{W W':Wk}{e:EqT}(bs:List EqT)(h:ik_ d W e=some (.ok W')):ik_ d ⟨W.K,W.left++bs,W.fresh⟩ e=some (.ok ⟨W'.K,W'.left++bs,W'.fresh⟩):=by
 unfold ik_ at h ⊢
 simp only at h ⊢
 cases h1:eV_ d W.K e.1 with
 | none=>rw[h1] at h;cases h
 | some l =>
  rw[h1] at h
  simp only at h ⊢
  cases h2:eV_ d W.K e.2 with
  | none=>rw[h2] at h;cases h
  | some r=>rw[h2] at h;exact stpF_tail bs h
section
variable {L : List Int} {n : Int → Nat} {NL : List ByteArray} {A0 : Nat}
theorem run_tail (C:Co L n NL A0){f:Int→Ty}(hf:PrF f):∀ (j:Nat) (W:Wk) (K:Kn),NI W→DI L n NL A0 (dW W)→nR_ f (dW W)→phi f (dW W).left≤100000000000→fH_ 100 j W=some (.ok K) →
  ∃ fr,(NI ⟨K,[],fr⟩∧DI L n NL A0 (dW ⟨K,[],fr⟩))∧∀ (bs:List EqT) (m:Nat) (res:Except Nat Kn),bs.length≤100000000000→fH_ 100 m ⟨K,bs,fr⟩=some res→fH_ 100 (j+m) ⟨W.K,W.left++bs,W.fresh⟩=some res:=by
 intro j
 induction j with
 | zero=>intro W K _ _ _ _ h;cases h
 | succ j ih =>
  intro W K N D hs hp h
  rw[fH_] at h
  cases hl:W.left with
  | nil =>
   rw[hl] at h
   injection h with h
   injection h with h
   subst h
   have e:W=⟨W.K,[],W.fresh⟩:=by rw[← hl]
   refine⟨W.fresh,⟨by rw[← e];exact N,by rw[← e];exact D⟩,fun bs m res _ hr=>?_⟩
   rw[show j+1+m=m+(j+1) from by omega]
   exact runF_more _ hr
  | cons e es =>
   rw[hl] at h
   simp only at h
   have hdl:(dW W).left=dbE e :: es.map dbE:=by show W.left.map dbE=_;rw[hl];rfl
   obtain⟨D1,S,ha⟩:=D.cut hdl
   rcases rX_ C N D hl with ⟨er,h1,_⟩|⟨W',h1,N',hd⟩
   ·rw[show ik_ 100 { W with left:=es } e=some (.error er) from h1] at h
    injection h with h
    cases h
   ·rw[show ik_ 100 { W with left:=es } e=some (.ok W') from h1] at h
    simp only at h
    by_cases hc:W'.left.length≤500000000000
    ·rw[if_pos hc] at h
     have D':=hd.inv D1 S ha
     have hs':nR_ f (dW W'):=(hd.sol D1 C.nn S hf).1 ((hH_ hdl).1 hs)
     have he:Ext f W.K:=hs.1
     have hphi:phi f (dW W').left+1≤phi f (dW W).left:=by
      have h2:=hd.phi S f
      rw[hdl,fa_]
      have h3:(fl f (swl W.K (dbE e)).1).size+(fl f (swl W.K (dbE e)).2).size=(fl f (dbE e).1).size+(fl f (dbE e).2).size:=by
       unfold swl
       rcases fy_ (fl (sg W.K) (dbE e).1) (fl (sg W.K) (dbE e).2) with h|h<;>rw[h]<;>simp only<;>rw[kJ_ he,kJ_ he]
       omega
      have h4:phi f (dW W').left+1≤phi f (es.map dbE)+(fl f (swl W.K (dbE e)).1).size+(fl f (swl W.K (dbE e)).2).size:=h2
      omega
     obtain⟨fr,hn,hg⟩:=ih W' K N' D' hs' (by omega) h
     refine⟨fr,hn,fun bs m res hb hr=>?_⟩
     have h2:=hg bs m res hb hr
     rw[show j+1+m=(j+m)+1 from by omega]
     refine mg_ (W:=⟨W.K,e :: es++bs,W.fresh⟩) (e:=e) (es:=es++bs) rfl (stpE_tail bs h1) ?_ h2
     have h3:=qv_ f (dW W').left
     have h4:(dW W').left.length=W'.left.length:=by show (List.map _ _).length=_;rw[List.length_map]
     show (W'.left++bs).length≤_
     rw[List.length_append]
     omega
    ·rw[if_neg hc] at h;cases h
theorem fil_fix (d:Nat)(K:Kn)(t:Ty)(h:∀ m∈az_ t,lkK K m=none):eV_ (d+1) K t=some t:=by
 rw[eV_]
 have:∀ ms:List Int,(∀ m∈ms,lkK K m=none)→c8_ (eV_ d K) K ms t=some t:=by
  intro ms
  induction ms with
  | nil=>intro _;rfl
  | cons m ms ih =>
   intro h
   rw[c8_,h m (by simp)]
   exact ih fun x hx=>h x (by simp[hx])
 exact this _ h
theorem swpE_self (t:Ty):cE_ t t=(t,t):=by unfold cE_;split<;>rfl
theorem db_back {K:Kn}(F:KF K){x:Int}{t:Ty}(hs:Std t)(h:dbT [] t=sg K x):t=sg K x:=by
 have h5:Al (fun t=>t.kind≠5) (dbT [] t):=by rw[h];exact (F.pr x).no5
 rw[← h]
 exact (ck_ t hs ((np_ t [] hs).1 h5)).symm
theorem self_run (C:Co L n NL A0){K:Kn}{fr:Nat}(N:NI ⟨K,[],fr⟩)(D:DI L n NL A0 (dW ⟨K,[],fr⟩)):∀ R:Kn,R.length≤100000000000→(∀ x∈R,x.2=sg K x.1∧Std (mt x.1)∧a5_ (mt x.1))→fH_ 100 (R.length+1) ⟨K,eqK R,fr⟩=some (.ok K):=by
 intro R
 induction R with
 | nil=>intro _ _;rfl
 | cons x R ih =>
  intro hl h
  obtain⟨e,h1,h2⟩:=h x (by simp)
  have hkl:=D.klen
  have hll:=C.ll
  have hnl:=C.nl
  have hfr:fr≤A0:=by have h:fr+acE []≤A0:=D.fr;omega
  obtain⟨t',a1,a2,a3,_⟩:=kI_ D.ko N.kv (NL:=NL) (fr:=fr) (by omega) D.kn 99 0 (mt x.1) (by have h:K.length≤L.length:=hkl;omega) h1 h2 (fun z _=>rfl) (iq_ _ _ _) (by rw[show dbT [] (mt x.1)=mt x.1 from rfl,cH_];exact ql_ C D x.1)
  rw[show dbT [] (mt x.1)=mt x.1 from rfl,cH_] at a2
  have et:t'=x.2:=by rw[e];exact db_back D.ko.facts a3 a2
  have a4:eV_ 100 K x.2=some x.2:=fil_fix 99 K x.2 fun m hm=>by
   rw[e] at hm
   exact (D.ko.facts.free ((f0_ (D.ko.facts.pr x.1).dw).1 hm)).2
  rw[List.length_cons] at hl
  refine mg_ (W:=⟨K,(mt x.1,x.2) :: eqK R,fr⟩) (e:=(mt x.1,x.2)) (es:=eqK R) rfl (W':=⟨K,eqK R,fr⟩) ?_ ?_ (ih (by omega) fun y hy=>h y (by simp[hy]))
  ·unfold ik_
   simp only
   rw[show eV_ 100 K (mt x.1)=some t' from a1,a4]
   simp only
   rw[et,swpE_self]
   unfold gk_
   rw[if_pos rfl]
  ·show (eqK R).length≤_
   unfold eqK
   rw[List.length_map]
   omega
end
section
variable {es : List EqT} {K : Kn}
theorem Kd.out_key (_D:Kd es K){m:Int}(h:m∈(gq_ K).map fun x=>x.1):lkK K m≠none:=by
 obtain⟨x,hx,rfl⟩:=List.mem_map.1 h
 obtain⟨y,hy,rfl⟩:=List.mem_map.1 hx
 exact dL_.1 hy
theorem Kd.out_free (D:Kd es K)(x m:Int)(hm:m∈az_ (sg K x))(P:Kn)(hP:∀ y∈P,y∈gq_ K):lkK P m=none:=by
 rw[b6_]
 intro h
 have h1:=(D.ko.facts.free ((f0_ (D.ko.facts.pr x).dw).1 hm)).2
 obtain⟨y,hy,e⟩:=List.mem_map.1 h
 exact D.out_key (List.mem_map.2 ⟨y,hP y hy,e⟩) h1
theorem Kd.learns (E:Es es)(D:Kd es K):∀ S P:Kn,P++S=gq_ K→fH_ 100 (S.length+1) ⟨P,eqK S,0⟩=some (.ok (gq_ K)):=by
 intro S
 induction S with
 | nil=>intro P h;rw[List.append_nil] at h;subst h;rfl
 | cons x S ih =>
  intro P h
  have hx:x∈gq_ K:=by rw[← h];simp
  obtain⟨⟨fr,hf,hn⟩,h0,h1,e,_,hm⟩:=D.mem E x hx
  have hF:=D.ko.facts
  have hkey:=D.out_key (List.mem_map.2 ⟨x,hx,rfl⟩)
  have hPm:∀ y∈P,y∈gq_ K:=fun y hy=>by rw[← h];simp[hy]
  have hP:lkK P x.1=none:=by
   rw[b6_]
   intro hh
   obtain⟨y,hy,ey⟩:=List.mem_map.1 hh
   have hs:=D.sorted
   rw[← h,List.pairwise_append] at hs
   have:=hs.2.2 y hy x (by simp)
   omega
  have f1:eV_ 100 P (mt x.1)=some (mt x.1):=fil_fix 99 P _ fun m hm=>by
   have:=(f0_ (dw_mt x.1)).1 hm
   rw[ox_] at this
   split at this
   ·next e=>rw[← e];exact hP
   ·exact absurd rfl this
  have f2:eV_ 100 P x.2=some x.2:=fil_fix 99 P _ fun m hm=>D.out_free x.1 m (by rw[← e];exact hm) P hPm
  have h5:=(hF.pr x.1).no5
  rw[← e] at h5
  have hd:=ck_ x.2 hn.st h5
  have hsw:cE_ (mt x.1) x.2=(mt x.1,x.2):=by
   unfold cE_
   refine if_neg fun hh=>?_
   have hk:=c0_ (by rw[e];exact (hF.pr x.1).dw) hh.1
   have ho:=D.ori x.1 x.2.n (by rw[← e];exact hk)
   rcases hh.2 with h2|h2
   ·exact h2 rfl
   ·have h3:x.1<x.2.n:=h2
    omega
  have hne:mt x.1≠x.2:=by
   intro hh
   cases hu:lkK K x.1 with
   | none=>exact hkey hu
   | some u=>exact (hF.bnd x.1 u hu).2.1 (by rw[← e];exact hh.symm)
  have hm0:=ni_mt (NL:=NLE es) (fr:=fr) h0 (by omega:x.1<1000000000000000000)
  have hcan:aJ_ (mt x.1)≠aJ_ x.2:=fun hh=>by
   have:=(fT_ hm0.st hn.st (hA_ (kO_ E) hm0.vn) (hA_ (kO_ E) hn.vn)).1 hh
   rw[hd] at this
   exact hne this
  have hcond:((lkK P x.1).isSome || (aj_ x.2).any fun s=>s.size==0)=false:=by
   rw[hP,Option.isSome_none,Bool.false_or,List.any_eq_false]
   intro s hs
   have hw:s.data.toList≠[]:=by
    rcases j4_ hn.st hn.vn hs with h|⟨j,_,h⟩
    ·exact (kO_ E _ h).2.1.1
    ·rw[h];exact (pQ_ j).1.1
   intro h0
   apply hw
   have h0:s.data.size=0:=by simpa using h0
   exact List.eq_nil_of_length_eq_zero (by simpa using h0)
  have hl:g0_ P x.1 x.2=.ok (P++[x]):=by
   unfold g0_
   rw[if_neg,if_neg,if_neg]
   ·rw[(d5_).2 ((kE_ x.2 hn.st h5).2 (by rw[e];exact (hF.pr x.1).imp fun _ h=>h.2.2.2))];decide
   ·rw[(jC_ x.2).2 h5];decide
   ·rw[List.contains_iff_mem]
    intro hh
    rw[e] at hh
    exact hkey (hF.free ((f0_ (hF.pr x.1).dw).1 hh)).2
  rw[List.length_cons]
  refine mg_ (W:=⟨P,(mt x.1,x.2) :: eqK S,0⟩) (e:=(mt x.1,x.2)) (es:=eqK S) rfl (W':=⟨P++[x],eqK S,0⟩) ?_ ?_ (ih (P++[x]) (by rw[← h];simp))
  ·unfold ik_
   simp only
   rw[f1,f2]
   simp only
   rw[hsw]
   unfold gk_
   rw[if_neg hcan,if_pos (show (mt x.1).kind=2 from rfl),if_neg (by rw[show (mt x.1).n=x.1 from rfl,hcond];decide)]
   show some (match g0_ P x.1 x.2 with | .error e=>(Except.error e:Except Nat Wk) | .ok K=>.ok ⟨K,eqK S,0⟩)=_
   rw[hl]
  ·show (eqK S).length≤_
   have:=D.len E
   rw[← h,List.length_append,List.length_cons] at this
   unfold eqK
   rw[List.length_map]
   omega
theorem Kd.outs (D:Kd es K):∀ ms:List Int,(∀ m∈ms,lkK (gq_ K) m≠none)→il_ 100 (gq_ K) ms=some (ms.map fun m=>(m,sg K m)):=by
 intro ms
 induction ms with
 | nil=>intro _;rfl
 | cons m ms ih =>
  intro h
  rw[il_]
  have h1:=h m (by simp)
  rw[sl_] at h1 ⊢
  by_cases hk:m∈b8_ K
  ·rw[if_pos hk]
   simp only
   rw[fil_fix 99 (gq_ K) (sg K m) fun y hy=>D.out_free m y hy _ fun _ h=>h]
   simp only
   rw[ih fun y hy=>h y (by simp[hy])]
   rfl
  ·rw[if_neg hk] at h1;exact absurd rfl h1
theorem Kd.fresh (E:Es es)(D:Kd es K):∃ R,f7_ 100 ((gq_ K).length+1) (eqK (gq_ K))=some (.ok R)∧R.length=(gq_ K).length:=by
 refine⟨(b8_ (gq_ K)).map fun m=>(m,sg K m),?_,?_⟩
 ·unfold f7_
  rw[D.learns E (gq_ K) [] rfl]
  simp only
  rw[D.outs (b8_ (gq_ K)) fun m hm=>dL_.1 hm]
 ·unfold b8_
  rw[List.length_map,List.length_mergeSort,List.length_map]
theorem Kd.sms (E:Es es)(D:Kd es K):∀ e∈eqK (gq_ K),SmT e.1∧SmT e.2:=by
 intro e he
 obtain⟨x,hx,rfl⟩:=List.mem_map.1 he
 obtain⟨⟨fr,hf,hn⟩,h0,h1,_⟩:=D.mem E x hx
 have hm0:=ni_mt (NL:=NLE es) (fr:=fr) h0 (by omega:x.1<1000000000000000000)
 exact⟨⟨hm0.gd,nT_ (nM_ E hf) hm0.st ⟨hm0.sz,hm0.vn⟩⟩,hn.gd,nT_ (nM_ E hf) hn.st ⟨hn.sz,hn.vn⟩⟩
theorem uni_behind (E:Es es):(∃ j er,j≤100000000000∧f7_ 100 j es=some (.error er)∧40≤er) ∨
  ∃ j j2 j3 K R,j≤100000000000∧j2≤200000000000∧j3≤100∧f7_ 100 j es=some (.ok (gq_ K))∧f7_ 100 j2 (es++eqK (gq_ K))=some (.ok (gq_ K))∧f7_ 100 j3 (eqK (gq_ K))=some (.ok R)∧R.length=(gq_ K).length∧Kd es K:=by
 have hN:∀ e∈es,(Std e.1∧a5_ e.1)∧(Std e.2∧a5_ e.2):=fun e he=>⟨⟨(E.ok e he).l.1.1,eR_ _ (E.ok e he).l.1⟩,(E.ok e he).r.1.1,eR_ _ (E.ok e he).r.1⟩
 have hQ:∀ e∈(dW ⟨[],es,0⟩).left,Qs (LE es) (nE es) e.1∧Qs (LE es) (nE es) e.2:=fun e he=>by
  obtain⟨x,hx,rfl⟩:=List.mem_map.1 he
  exact oZ_ E hx
 obtain⟨j,res,hj,kv,h1,h2⟩:=mf_ (ly_ E) (W:=⟨[],es,0⟩) ⟨hN,fun x u h=>by cases h⟩ (sx_ E) hQ (by show (List.map _ _).length≤16;rw[List.length_map];exact E.ln)
 obtain⟨j',res',hj',hu',h2',hc⟩:=uni_all E
 have hdet:res=res':=ji_.det h2 h2'
 subst hdet
 rcases hc with ⟨er,rfl,h40,_,_⟩|⟨K,rfl,D⟩
 ·exact .inl ⟨j',er,hj',hu',h40⟩
 ·right
  have hsol:nR_ (sg K) (dW ⟨[],es,0⟩):=⟨q7_ _,fun e he=>by
   obtain⟨x,hx,rfl⟩:=List.mem_map.1 he
   exact (D.gen _ D.ko.facts.pr).2 D.ko.facts.ext x hx⟩
  have hphi:phi (sg K) (dW ⟨[],es,0⟩).left≤100000000000:=by
   have h3:phi (sg K) (dW ⟨[],es,0⟩).left≤(es.map dbE).length*(2*LIM):=pv_ _ fun e he=>by
    obtain⟨x,hx,rfl⟩:=List.mem_map.1 he
    exact D.szE x hx
   rw[List.length_map] at h3
   have h4:es.length*(2*LIM)≤16*(2*LIM):=Nat.mul_le_mul_right _ E.ln
   unfold LIM at *
   omega
  obtain⟨fr,⟨N',D'⟩,hg⟩:=run_tail (ly_ E) D.ko.facts.pr j ⟨[],es,0⟩ K ⟨hN,fun x u h=>by cases h⟩ (sx_ E) hsol hphi h1
  have hlen:=D.len E
  have h3:=self_run (ly_ E) N' D' (gq_ K) (by omega) fun x hx=>by
   obtain⟨_,h0,h1,e,_⟩:=D.mem E x hx
   have hm0:=ni_mt (NL:=NLE es) (fr:=0) h0 (by omega:x.1<1000000000000000000)
   exact⟨e,hm0.st,hm0.gd⟩
  have h4:=hg (eqK (gq_ K)) _ _ (by unfold eqK;rw[List.length_map];omega) h3
  obtain⟨R,h5,h6⟩:=D.fresh E
  refine⟨j',j+((gq_ K).length+1),(gq_ K).length+1,K,R,hj',?_,?_,hu',?_,h5,h6,D⟩
  ·exact co_ (Nat.add_le_add hj (by omega:(gq_ K).length+1≤25)) (by omega)
  ·omega
  ·unfold f7_
   rw[show fH_ 100 (j+((gq_ K).length+1)) ⟨[],es++eqK (gq_ K),0⟩=some (.ok K) from h4]
   simp only
   rw[px_ (ly_ E) (W:=⟨K,[],fr⟩) N'.kv D' (b8_ K) fun m hm=>dL_.1 hm]
   rfl
end
def EAt (w:World)(v:Value)(es:List EqT):Prop:=∃ ps,f6_ (Lt w.heap.size) 0 w v es ps
theorem f6_.lo0 {S:Nat→Prop}{lo:Nat}{w:World}{v:Value}{es:List EqT}{ps:List (Value × Value)}(h:f6_ S lo w v es ps):f6_ S 0 w v es ps:=⟨eq_ h.own (Nat.zero_le _),h.len,h.at_⟩
theorem f6_.eat {S:Nat→Prop}{lo:Nat}{w:World}{v:Value}{es:List EqT}{ps:List (Value × Value)}(h:f6_ S lo w v es ps)(hS:∀ b,S b→b<w.heap.size):EAt w v es:=⟨ps,h.lo0.mono hS⟩
theorem EAt.low {w w':World}{v:Value}{es:List EqT}(h:EAt w v es)(hb:Below w.heap.size w w'):EAt w' v es:=by
 obtain⟨ps,h⟩:=h
 exact⟨ps,(h.keep (fun b e=>hb.block b (h.own.lt b e).2) fun b hb'=>hb.block b hb').mono fun _ hj=>bh_ hj hb.size⟩
theorem EAt.es {w:World}{v:Value}{es:List EqT}(h:EAt w v es)(hl:es.length≤1000000000000):pZ_ w v es:=by
 obtain⟨ps,h⟩:=h
 exact h.es hl fun _ h=>h
theorem f6_.one {S:Nat→Prop}{lo:Nat}{w:World}{v:Value}{es:List EqT}{ps:List (Value × Value)}(h:f6_ S lo w v es ps):∀ u∈c1_ es ps,u.oneCell'=true:=by
 intro u hu
 obtain⟨j,hj,rfl⟩:=List.getElem_of_mem hu
 rw[h8_ es ps h.len] at hj
 have hi:j / 8<es.length:=by omega
 have hip:j / 8<ps.length:=by rw[h.len];exact hi
 have hj2:=i8_ es ps h.len (j / 8) hi hip (j % 8) (by omega)
 rw[show j / 8*8+j % 8=j by omega,List.getElem?_eq_getElem (by rw[h8_ es ps h.len];exact hj)] at hj2
 obtain⟨a,c,a',c',e1,e2,_⟩:=h.at_ (j / 8) es[j / 8] ps[j / 8] (List.getElem?_eq_getElem hi) (List.getElem?_eq_getElem hip)
 have hm:(c1_ es ps)[j]'(by rw[h8_ es ps h.len];exact hj)∈ec_ es[j / 8] ps[j / 8]:=List.mem_of_getElem? hj2.symm
 unfold ec_ at hm
 rw[e1,e2] at hm
 simp only[List.mem_cons,List.not_mem_nil,or_false] at hm
 rcases hm with e|e|e|e|e|e|e|e<;>rw[e]<;>rfl
set_option maxRecDepth 100000 in
theorem f6_.more {W w:World}{v:Value}{xs gs:List EqT}{ps:List (Value × Value)}(hb:Below W.heap.size W w)(h:f6_ (Lt W.heap.size) W.heap.size w v xs ps){g:Value}(hG:EAt W g gs)(hl:xs.length+gs.length≤4000) :
  ∃ qs v' w',(Builtin.append_ #[24,24] 24 #[v,g]).run Tryz.prog w=.ok v' w'∧f6_ (Lt W.heap.size) W.heap.size w' v' (xs++gs) qs∧Below W.heap.size W w':=by
 obtain⟨i0,hi0,hz0,hz1,hz3⟩:=info_parts st_
 obtain⟨rs,hG⟩:=hG
 rcases hG.own.2 with ⟨rfl,h0⟩|⟨b,cap,cur,rfl,_,hcur,_⟩
 ·have e0:=List.eq_nil_of_length_eq_zero h0
  subst e0
  refine⟨ps,v,w,run_append_owned_none (P:=Tryz.prog) (w:=w) W.heap.size 24 24 48 i0 8 Tryz.underlying24 hi0 v xs.length (c1_ xs ps) h.own,?_,hb⟩
  rw[List.append_nil];exact h
 ·obtain⟨v',w',hr,ho',hgr,_⟩:=run_append_own (P:=Tryz.prog) w W.heap.size 24 24 48 i0 _ 8 112 Tryz.underlying24 hi0 hz0 hz1 hz3 rfl (by decide) v xs.length (c1_ xs ps) h.own ⟨b,0,none⟩ gs.length cap (c1_ gs rs) (h8_ _ _ hG.len) (fun j u hu=>by
   have hc:=hG.own.cells (g:=b) rfl j u hu
   exact (hb.cell (World.block_lt_of_cell? W _ hc)).trans hc) hG.one (by unfold maxLen;omega) (by omega) hb.size
  have B':=hb.grown hgr hb.size fun k e=>(h.own.lt k e).1
  refine⟨ps++rs,v',w',hr,⟨?_,by rw[List.length_append,List.length_append,h.len,hG.len],fun j t sv h5 h6=>?_⟩,B'⟩
  ·have e:c1_ xs ps++c1_ gs rs=c1_ (xs++gs) (ps++rs):=by
    unfold c1_
    rw[List.zip_append h.len.symm,List.flatMap_append]
   rw[List.length_append,← e];exact ho'
  ·have old:∀ {y:Value} {ts:List Ty},aa_ (Lt W.heap.size) w y ts→aa_ (Lt W.heap.size) w' y ts:=fun hy=>hy.keep fun k hk=>(B'.block k hk).trans (hb.block k hk).symm
   have new:∀ {y:Value} {ts:List Ty},aa_ (Lt W.heap.size) W y ts→aa_ (Lt W.heap.size) w' y ts:=fun hy=>hy.keep fun k hk=>B'.block k hk
   rcases Nat.lt_or_ge j xs.length with hj|hj
   ·rw[List.getElem?_append_left hj] at h5
    rw[List.getElem?_append_left (by rw[h.len];exact hj)] at h6
    obtain⟨b1,b2,b3,b4,e1,e2,h3,h4⟩:=h.at_ j t sv h5 h6
    exact⟨b1,b2,b3,b4,e1,e2,old h3,old h4⟩
   ·rw[List.getElem?_append_right hj] at h5
    rw[List.getElem?_append_right (by rw[h.len];exact hj),h.len] at h6
    obtain⟨b1,b2,b3,b4,e1,e2,h3,h4⟩:=hG.at_ _ t sv h5 h6
    exact⟨b1,b2,b3,b4,e1,e2,new h3,new h4⟩
theorem f6_.none8 {w:World}{b lo:Nat}{S:Nat→Prop}(h:w.heap[b]? = some (.cells #[] 48 (0,0)))(hb:lo≤b):f6_ S lo w (.slice (some ⟨b,0,none⟩) 0 0) [] [] :=
 ⟨⟨rfl,.inr ⟨b,0,#[],rfl,hb,h,aA_ _,by unfold maxLen;omega,by simp,by simp;rfl⟩⟩,rfl,by simp⟩
theorem two_eqs {W:World}{k:Nat}(hk:W.heap.size=k){va vb:Value}{es fs:List EqT}(H:EAt W va es)(G:EAt W vb fs)(hn:es.length+fs.length≤4000) :
  ∃ v1 w1 v2 w2,(Builtin.append_ #[24,24] 24 #[.slice (some ⟨k,0,none⟩) 0 0,va]).run Tryz.prog (W.alloc (.cells #[] 48))=.ok v1 w1 ∧
   (Builtin.append_ #[24,24] 24 #[v1,vb]).run Tryz.prog w1=.ok v2 w2∧Below W.heap.size W w2∧EAt w2 v2 (es++fs):=by
 subst hk
 have hz:=av_ W (.cells #[] 48)
 obtain⟨p1,v1,w1,r1,a1,B1⟩:=f6_.more hz (f6_.none8 (heap_alloc_new W (.cells #[] 48)) (aA_ _)) H (by simp;omega)
 rw[List.nil_append] at a1
 obtain⟨p2,v2,w2,r2,a2,B2⟩:=f6_.more B1 a1 G hn
 exact⟨v1,w1,v2,w2,r1,r2,B2,a2.eat fun b hb=>bh_ hb B2.size⟩
end Go.Proofs.YtjecnionbjlncaaGreatDoor.Tp

namespace Go.Proofs.YtjecnionbjlncaaGreatDoor.Tp
open Go.RowKit Go.Sort
set_option maxRecDepth 100000 in
set_option maxHeartbeats 6400000 in
theorem unifyAgain_walk (v0:Value)(ls:List Ln)(w:World)(hL:lG_ w v0 ls)(hT:Tab w):Calls Tryz.prog 4 #[v0] w fun e w'=>e=.returned (.bool true)∧Below w.heap.size w w':=by
 have HT:=hid hT
 have RL_0:=hid hL
 clear hT hL
 go_enter Tryz.func4,Tryz.ntmps4
 have C:=hid (rL_ _ HT.out)
 go_wp2_with fail
 refine C.out.mono ?_
 rintro e w1 ⟨rfl,hB⟩
 clear C
 have RL_1:=hid (RL_0.out.low hB)
 have B_1:=hid (hB)
 clear hB RL_0
 have C:=hid (mn_ _ v0 ls RL_1.out)
 go_wp2_with fail
 refine C.out.mono ?_
 rintro e w2 ⟨hB,hres⟩
 clear C
 cases hq:c6_ ls with
 | none =>
  rw[hq] at hres
  subst hres
  clear hq
  have RL_2:=hid (RL_1.out.low hB)
  have B_2:=hid (B_1.out.trans (hB.mono B_1.out.size))
  clear hB RL_1 B_1
  go_wp2
  go_ret
  exact⟨rfl,B_2.out⟩
 | some es =>
  rw[hq] at hres
  obtain⟨v,u,ps,qs,rfl,hE⟩:=hres
  obtain⟨va,vc,rfl⟩:=aB_ hE.a.own
  obtain⟨ua,uc,rfl⟩:=aB_ hE.b.own
  have Ees:=hid (es_of hq)
  have hEs:pZ_ w2 (.slice va es.length vc) es:=hE.a.es (by have:=Ees.out.ln;omega) fun b hb=>hb.2.1
  have hEa:EAt w2 (.slice va es.length vc) es:=hE.a.eat fun b hb=>hb.2.1
  have RA_0:=hid hEa
  clear hq hE hEa
  have RL_2:=hid (RL_1.out.low hB)
  have B_2:=hid (B_1.out.trans (hB.mono B_1.out.size))
  have RE_2:=hid hEs
  clear hB hEs RL_1 B_1
  have RA_2:=hid RA_0.out
  clear RA_0
  clear RL_2
  have HLE:Hid (es.length≤16):=hid Ees.out.ln
  have HU:=hid (uni_behind Ees.out)
  rcases HU.out with ⟨j,r,hj,hu,h40⟩|⟨j,j2,j3,K,R,hj,hj2,hj3,hu,hu2,hu3,hRl,hd⟩
  ·clear HU
   have C:=hid (RE_2.out.call (fun e he=>(Ees.out.ok e he).sm) (by have:=Ees.out.ln;omega) (ah_ HT.out B_2.out) hu (by omega))
   go_wp2_with fail
   refine C.out.mono ?_
   rintro e w3 hun
   obtain⟨ka,kc,kR,er,rfl,hK,hB,hk⟩:=jc_.form hun
   clear C hun
   have RE_3:=hid (RE_2.out.low hB)
   have RA_3:=hid (RA_2.out.low hB)
   have B_3:=hid (B_2.out.trans (hB.mono B_2.out.size))
   have RK_3:=hid hK
   clear hB hK RE_2 RA_2 B_2
   obtain⟨rfl,rfl⟩:er=r∧kR=[]:=by
    rcases hk with ⟨h1,_⟩|⟨h1,h2⟩
    ·cases h1
    ·injection h1 with h1;exact⟨h1.symm,h2⟩
   have z0:((er:Int) != 0)=true:=by rw[bne_iff_ne];omega
   go_wp2
   go_ret
   exact⟨rfl,B_3.out⟩
  ·clear HU
   have C:=hid (RE_2.out.call (fun e he=>(Ees.out.ok e he).sm) (by have:=Ees.out.ln;omega) (ah_ HT.out B_2.out) hu (by omega))
   go_wp2_with fail
   refine C.out.mono ?_
   rintro e w3 hun
   obtain⟨ka,kc,kR,er,rfl,hK,hB,hk⟩:=jc_.form hun
   clear C hun
   have RE_3:=hid (RE_2.out.low hB)
   have RA_3:=hid (RA_2.out.low hB)
   have B_3:=hid (B_2.out.trans (hB.mono B_2.out.size))
   have RK_3:=hid hK
   clear hB hK RE_2 RA_2 B_2
   obtain⟨rfl,rfl⟩:kR=gq_ K∧er=0:=by
    rcases hk with ⟨h1,h2⟩|⟨h1,_⟩
    ·injection h1 with h1;exact⟨h1.symm,h2⟩
    ·cases h1
   have D:=hid hd
   have HU2:=hid hu2
   have HU3:=hid hu3
   have HJ2:=hid hj2
   have HJ3:=hid hj3
   have HRL:=hid hRl
   have HR:Hid ((gq_ K).length≤24):=hid (D.out.len Ees.out)
   clear hk hu hj hd hu2 hu3 hj2 hj3 hRl
   go_wp2
   go_loopw [9,10] (fun bv iv wr=>∃ (i:Nat) (pp:List (Value × Value)),iv=.int .i64 i∧i≤(gq_ K).length∧f6_ (Lt w3.heap.size) w3.heap.size wr bv (eqK ((gq_ K).take i)) pp∧Below w3.heap.size w3 wr) (fun _ iv _=>(gq_ K).length - (intOf iv).toNat)
   case atStart=>exact⟨0,[],rfl,Nat.zero_le _,f6_.nil _ _ _,Below.refl _ _⟩
   case round =>
    obtain⟨i,pp,rfl,hil,hE,hBr⟩:=hrel
    have i0:(0:Int)≤(i:Int):=by omega
    by_cases hi:i<(gq_ K).length
    ·have i1:(i:Int)<((gq_ K).length:Int):=by omega
     have i2:(i:Int)<24:=by have:=HR.out;omega
     have TK:Hid (eqK ((gq_ K).take (i+1))=eqK ((gq_ K).take i)++[(mt (gq_ K)[i].1,(gq_ K)[i].2)]):=hid (by unfold eqK;rw[List.take_succ_eq_append_getElem hi,List.map_append];rfl)
     have HEL0:Hid ((eqK ((gq_ K).take i)).length≤24):=hid (by unfold eqK;rw[List.length_map,List.length_take];have:=HR.out;omega)
     generalize eqK ((gq_ K).take i)=F at *
     obtain⟨ba,bc,rfl⟩:=aB_ hE.own
     have HEL:Hid (F.length≤24):=HEL0
     obtain⟨b,off,xa,xc,rfl,hb,hc5,hAx⟩:=RK_3.out.at_ hi
     have kk:∀ o,wr.cell? ⟨b,o,none⟩=w3.cell? ⟨b,o,none⟩:=fun o=>World.cell?_of_block (hBr.block b hb)
     have BD:Hid (Below w3.heap.size w3 wr.drew):=hid hBr.drew
     have ED:=hid (hE.keep (w':=wr.drew) (fun _ _=>rfl) (fun _ _=>rfl))
     have AX:=hid (hAx.keep fun b hb=>BD.out.block b hb)
     have OL:Hid (∀ q,(Value.slice ba F.length bc).ownBlock=some q→w3.heap.size≤q):=hid fun q e=>(ED.out.own.lt q e).1
     have c0:=(kk _).trans hc5.1
     have d0:=(kk _).trans hc5.2.1
     have d1:=(kk _).trans hc5.2.2.1
     have d2:=(kk _).trans hc5.2.2.2.1
     have d3:=(kk _).trans hc5.2.2.2.2
     clear hE hBr hc5 hAx kk hb
     generalize (gq_ K)[i]=x at *
     have pa:=ED.out.push (x:=(mt x.1,x.2)) (a:=none) (c:=0) BD.out.size (by have:=HEL.out;omega) (fun b h=>⟨bh_ h BD.out.size,fun e=>by have:=OL.out b e;have h':b<w3.heap.size:=h;omega⟩) (.nil _ _) AX.out
     rw[gO_] at pa
     change ∃ v' w',(Builtin.append_ #[24,24] 24 #[.slice ba F.length bc,.slice (some ⟨wr.heap.size,0,none⟩) 1 1]).run Tryz.prog (wr.alloc (.cells #[.int .i64 2,.string ⟨#[]⟩,.int .i64 x.1,.slice none 0 0,.int .i64 x.2.kind,.string x.2.name,.int .i64 x.2.n,.slice xa x.2.args.length xc] 48)).drew=.ok v' w'∧_ at pa
     have PA:=hid pa
     clear pa
     go_upto_region 12 with fail
     go_region_law (first
      | ((with_reducible show (if Region.wanted _ _=true then Oper.wp _ _ _ (World.drew (World.alloc _ _)) _ _ else _));refine cX_ (by rfl) _ _ _ (by rfl) (by rfl) (by rfl) PA.out ?_;rintro v9 w9 ⟨hr9,hg9,ho9,hl9⟩;have HR9:=hid hr9;have B9:=hid (BD.out.grown hg9 BD.out.size fun k e=>OL.out k e);clear hr9 hg9 ho9 hl9 PA c0 d0 d1 d2 d3))
     all_goals
      go_wp2
      go_roundw
      case measure=>simp[intOf];omega
      case rel=>exact⟨i+1,_,by go_num,by omega,by rw[TK.out];exact HR9.out,B9.out⟩
    ·obtain rfl:i=(gq_ K).length:=by omega
     rw[List.take_length] at hE
     obtain⟨ba,bc,rfl⟩:=aB_ hE.own
     have hEf:EAt wr (.slice ba (eqK (gq_ K)).length bc) (eqK (gq_ K)):=hE.eat fun b hb=>bh_ hb hBr.size
     have hB:=hBr
     clear hE hBr hi hil i0
     have RE_4:=hid (RE_3.out.low hB)
     have RA_4:=hid (RA_3.out.low hB)
     have RK_4:=hid (RK_3.out.low hB)
     have B_4:=hid (B_3.out.trans (hB.mono B_3.out.size))
     have RF_4:=hid hEf
     clear hB hEf RE_3 RA_3 RK_3 B_3
     have HFL:Hid ((eqK (gq_ K)).length≤24):=hid (by unfold eqK;rw[List.length_map];exact HR.out)
     obtain⟨v1,wa,v2,w5,hr1,hr2,hB,hA⟩:=two_eqs (W:=wr) rfl RA_4.out RF_4.out (by have:=HLE.out;have:=HFL.out;omega)
     have HR1_:=hid hr1
     have HR2_:=hid hr2
     clear hr1 hr2
     have RE_5:=hid (RE_4.out.low hB)
     have RA_5:=hid (RA_4.out.low hB)
     have RK_5:=hid (RK_4.out.low hB)
     have RF_5:=hid (RF_4.out.low hB)
     have B_5:=hid (B_4.out.trans (hB.mono B_4.out.size))
     have RG_5:=hid hA
     clear hB hA RE_4 RA_4 RK_4 RF_4 B_4
     have EG:Hid (∀ e∈es++eqK (gq_ K),SmT e.1∧SmT e.2):=hid fun e he=>by
      rcases List.mem_append.1 he with h|h
      ·exact (Ees.out.ok e h).sm
      ·exact D.out.sms Ees.out e h
     have C:=hid ((RG_5.out.es (by rw[List.length_append];have:=HLE.out;have:=HFL.out;omega)).call EG.out (by rw[List.length_append];have:=HLE.out;have:=HFL.out;omega) (ah_ HT.out B_5.out) HU2.out (by have:=HJ2.out;omega))
     go_wp2_with (first|(at_builtin;refine Lib.wpList_append_run _ rfl _ _ _ _ rfl _ _ rfl rfl _ _ HR1_.out ?_)|(at_builtin;refine Lib.wpList_append_run _ rfl _ _ _ _ rfl _ _ rfl rfl _ _ HR2_.out ?_))
     refine C.out.mono ?_
     rintro e w6 hun
     obtain⟨ma,mc,mR,er2,rfl,hM,hB,hk2⟩:=jc_.form hun
     obtain⟨rfl,rfl⟩:mR=gq_ K∧er2=0:=by
      rcases hk2 with ⟨h1,h2⟩|⟨h1,_⟩
      ·injection h1 with h1;exact⟨h1.symm,h2⟩
      ·cases h1
     clear C hun HR1_ HR2_ hk2
     have RE_6:=hid (RE_5.out.low hB)
     have RA_6:=hid (RA_5.out.low hB)
     have RK_6:=hid (RK_5.out.low hB)
     have RF_6:=hid (RF_5.out.low hB)
     have RG_6:=hid (RG_5.out.low hB)
     have B_6:=hid (B_5.out.trans (hB.mono B_5.out.size))
     have RM_6:=hid hM
     clear hB hM RE_5 RA_5 RK_5 RF_5 RG_5 B_5
     clear RG_6
     clear RA_6
     clear RE_6
     have C:=hid (j6_ w6 _ (gq_ K) 0 RK_6.out (D.out.ans Ees.out).2 (by have:=HR.out;omega) (by omega) (ah_ HT.out B_6.out))
     skip
     go_wp2_with fail
     refine C.out.mono ?_
     rintro e w7 ⟨rfl,hB⟩
     clear C
     have RK_7:=hid (RK_6.out.low hB)
     have RF_7:=hid (RF_6.out.low hB)
     have RM_7:=hid (RM_6.out.low hB)
     have B_7:=hid (B_6.out.trans (hB.mono B_6.out.size))
     clear hB RK_6 RF_6 RM_6 B_6
     have C:=hid (j6_ w7 _ (gq_ K) 0 RM_7.out (D.out.ans Ees.out).2 (by have:=HR.out;omega) (by omega) (ah_ HT.out B_7.out))
     skip
     go_wp2_with fail
     refine C.out.mono ?_
     rintro e w8 ⟨rfl,hB⟩
     clear C
     have RK_8:=hid (RK_7.out.low hB)
     have RF_8:=hid (RF_7.out.low hB)
     have RM_8:=hid (RM_7.out.low hB)
     have B_8:=hid (B_7.out.trans (hB.mono B_7.out.size))
     clear hB RK_7 RF_7 RM_7 B_7
     have EF:Hid (∀ e∈eqK (gq_ K),SmT e.1∧SmT e.2):=hid (D.out.sms Ees.out)
     have C:=hid ((RF_8.out.es (by have:=HFL.out;omega)).call EF.out (by have:=HFL.out;omega) (ah_ HT.out B_8.out) HU3.out (by have:=HJ3.out;omega))
     go_wp2_with fail
     refine C.out.mono ?_
     rintro e w9 hun
     obtain⟨na,nc,nR,er3,rfl,hN,hB,hk3⟩:=jc_.form hun
     obtain⟨rfl,rfl⟩:nR=R∧er3=0:=by
      rcases hk3 with ⟨h1,h2⟩|⟨h1,_⟩
      ·injection h1 with h1;exact⟨h1.symm,h2⟩
      ·cases h1
     clear C hun hk3
     have RK_9:=hid (RK_8.out.low hB)
     have RF_9:=hid (RF_8.out.low hB)
     have RM_9:=hid (RM_8.out.low hB)
     have B_9:=hid (B_8.out.trans (hB.mono B_8.out.size))
     have RN_9:=hid hN
     clear hB hN RK_8 RF_8 RM_8 B_8
     have hrl:=HRL.out
     rw[hrl]
     clear hrl
     go_wp2
     go_ret
     exact⟨rfl,B_9.out⟩
end Go.Proofs.YtjecnionbjlncaaGreatDoor.Tp

namespace Go.Proofs.YtjecnionbjlncaaGreatDoor.unifyAgain
open Go.ChangeShapes Go.WideShapes Go.ChangeAt Go.WideMaps Go.WideElems Go.RowKit
open Go.ChangeMaps (open_string shut_string)
open Tp (Tab sp_ qa_ s2_ own laidOut)

/-! ### the row's step, as the kit's worked example (a law over laid variables) has it -/
set_option linter.unusedVariables false in
set_option maxRecDepth 100000 in
theorem lifted (os : Os) (started : os.Started) (H : Type) (enc : TypeId × Value → H) :
    ReturnsInHanded {} Tryz.checked os 4 .any (fun w args => (Rows.unifyAgainSpec.pre enc Tryz.prog Tryz.f4 [] false w args ∧ laidMetH Tryz.prog sp_ w) ∧ sizedMet enc Tryz.prog Tryz.f4 (OpenSpec.ofChange Rows.unifyAgainSpec) false w args)
      (Rows.unifyAgainSpec.post enc Tryz.prog Tryz.f4 false true false false) := by
  refine returnsInHanded_of_change_and (C := Tryz.checked) (X := fun w _ => laidMetH Tryz.prog sp_ w) (fun _ _ _ hh h => h.of_heap hh) own started (by kernel_rfl) Tryz.func4
    (ChangeSpec.witness_shaped (enc := enc) (C := Tryz.checked) (os := os) (X := fun w _ => laidMetH Tryz.prog sp_ w) false (World.doorLaid Tryz.prog 400 os) #[.slice none 0 0] 8 rfl (World.shaped_of_RefB (by kernel_rfl) (by kernel_rfl)) (by kernel_rfl) (by kernel_rfl) (by kernel_rfl) (s2_ os _)) ?_
  intro W base args ds gs before hval0 hW _ _ hL _
  have hval : ∀ (j : Nat) t v, Tryz.f4.params[j]? = some t → args[j]? = some v → Value.okWide Tryz.prog W .any base t v := hval0
  have hW' := hW
  obtain ⟨p, q, hA0, hV, rfl, hfz, hnd⟩ := hW
  have hA : DataW.TrodAll enc Tryz.prog W 0 (fun _ => true) true Tryz.f4.params.toList args.toList ds p := hA0
  rw [Tryz.params4] at hA hval
  obtain ⟨v0, vs0, d0, ds0, p0, q0, hargs, rfl, rfl, h0, r0⟩ := trodAll_cons hA
  obtain ⟨rfl, rfl, rfl⟩ := trodAll_nil r0
  obtain rfl : args = #[v0] := by cases args; simp_all
  obtain ⟨rfl, rfl⟩ := trodVars_none hV
  have k0 := h0
  have lt0 : ∀ x ∈ p0, x.block < W.heap.size := by obtain ⟨m, hm⟩ := k0; exact DataW.trod_lt m _ _ _ hm
  obtain ⟨a0, w0⟩ := Tp.opnL (hval 0 22 v0 rfl rfl) h0
  clear hA0 hval0
  refine (Tp.unifyAgain_walk v0 a0 W w0 (qa_ hL)).mono fun e W' ⟨he, bel⟩ => ?_
  subst he
  exact ⟨_, rfl, _, _, _, [], _, [], hW', trodAll_mk1 (shut_bool Tryz.underlying4 _), (trodAll_cons_mk (Below.trod laidOut (by kernel_rfl) (of_decide_eq_true (by kernel_rfl)) k0 bel lt0) trodAll_mk0), rfl, bel.frame _, fun h => by cases h⟩

theorem row_holds : Rows.UnifyAgainSaid :=
  OpenClaim.holds_of_wide 4 Tryz.f4 rfl rfl rfl rfl rfl rfl rfl ⟨rfl, rfl, rfl, rfl, rfl⟩ rfl rfl rfl rfl rfl (by kernel_rfl) Tryz.func4 (by kernel_rfl)
    (of_decide_eq_true (by kernel_rfl)) (by unfold Func.isWrapper; first | (rw [if_pos (by decide +kernel)]; kernel_rfl) | (rw [if_neg (by decide +kernel)]; exact ⟨rfl, rfl⟩))
    (fun os started H enc _ => lifted os started H enc)

/-- THE STATEMENT: the row, tied to the program's text. -/
theorem proved : Rows.UnifyAgainCardSaid :=
  Claim7.holds_tied_plain_at .later [] [.data, .data, .data, .sentinel, .sentinel] true Rows.unifyAgainCard.stood.harness true
    row_holds (fun _ h => by cases h) (by kernel_rfl) (fun _ h => by cases h) unifyAgain_row_tie rfl ⟨rfl, rfl⟩ (by kernel_rfl) rfl
    (fun f fn hf hfn => by
      obtain rfl : f = 4 := Option.some.inj ((show Tryz.prog.funcNamed "savant/savantlaw04.UnifyAgain" = some 4 by kernel_rfl).symm.trans hf) |>.symm
      obtain rfl : fn = Tryz.f4 := (Option.some.inj (Tryz.func4.symm.trans hfn)).symm
      exact ⟨by kernel_rfl, fun j t ht => by
        rw [Tryz.params4] at ht
        have hm : t ∈ [22] := by simpa using Array.mem_of_getElem? ht
        have hall : ([22].all fun u => !Tryz.prog.wantsStandIn u) = true := by kernel_rfl
        exact (show Tryz.prog.wantsStandIn t = false by simpa using List.all_eq_true.1 hall t hm)⟩)
    (by kernel_rfl)
#print axioms proved
end Go.Proofs.YtjecnionbjlncaaGreatDoor.unifyAgain

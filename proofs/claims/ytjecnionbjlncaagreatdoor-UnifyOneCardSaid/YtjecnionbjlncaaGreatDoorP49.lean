/- Packed. -/
import Derived.Test.YtjecnionbjlncaaGreatDoorP48
set_option maxRecDepth 100000
set_option maxHeartbeats 6400000
namespace Go.Proofs.YtjecnionbjlncaaGreatDoor.Tp
open Lx
def swl (K:Kn)(e:EqT):EqT:=cB_ (fl (sg K) e.1) (fl (sg K) e.2)
inductive kC_:Wk→Except Nat Kn→Prop
 | done (W:Wk) (h:W.left=[]):kC_ W (.ok W.K)
 | err (W:Wk) (e:EqT) (es:List EqT) (er:Nat) (h:W.left=e :: es) (hd:Dst ⟨W.K,es,W.fresh⟩ (swl W.K e).1 (swl W.K e).2 (.error er)):kC_ W (.error er)
 | step (W W':Wk) (e:EqT) (es:List EqT) (res:Except Nat Kn) (h:W.left=e :: es) (hd:Dst ⟨W.K,es,W.fresh⟩ (swl W.K e).1 (swl W.K e).2 (.ok W')) (hr:kC_ W' res):kC_ W res
section
variable {L : List Int} {n : Int → Nat} {NL : List ByteArray} {A0 : Nat}
theorem DI.cut {W:Wk}{e:EqT}{es:List EqT}(D:DI L n NL A0 W)(h:W.left=e :: es):DI L n NL A0 ⟨W.K,es,W.fresh⟩∧Sd ⟨W.K,es,W.fresh⟩ L n NL (swl W.K e).1 (swl W.K e).2∧W.fresh+acE es+ac (swl W.K e).1+ac (swl W.K e).2≤A0:=by
 have e1:W=⟨W.K,e :: es,W.fresh⟩:=by rw[← h]
 have D1:DI L n NL A0 ⟨W.K,e :: es,W.fresh⟩:=e1 ▸ D;have hlf:=D1.lf e (by simp);refine⟨D1.tail,Sd.of (W:=⟨W.K,es,W.fresh⟩) D1.tail hlf.1 hlf.2,?_⟩;have h0:∀ m,ac (sg W.K m)=0:=fun m=>ac_pr _ (D1.ko.facts.pr m).no5;have h1:=sk_ h0 e.1;have h2:=sk_ h0 e.2;have h3:=D1.fr;simp only at h3;rw[h4_] at h3;unfold swl
 rcases fq_ (fl (sg W.K) e.1) (fl (sg W.K) e.2) with h|h<;>rw[h]<;>simp only<;>omega
theorem hv_ {f:Int→Ty}{W:Wk}{e:EqT}{es:List EqT}(h:W.left=e :: es):pz_ f W↔pz_ f ⟨W.K,es,W.fresh⟩∧fl f (swl W.K e).1=fl f (swl W.K e).2:=by
 unfold pz_;rw[h];have key:Ext f W.K→(fl f e.1=fl f e.2↔fl f (swl W.K e).1=fl f (swl W.K e).2):=fun he=>by
  unfold swl
  rcases fq_ (fl (sg W.K) e.1) (fl (sg W.K) e.2) with h|h<;>rw[h]<;>simp only<;>rw[kv_ he,kv_ he]
  exact⟨fun h=>h.symm,fun h=>h.symm⟩
 constructor
 ·rintro ⟨h1,h2⟩
  exact⟨⟨h1,fun x hx=>h2 x (by simp[hx])⟩,(key h1).1 (h2 e (by simp))⟩
 ·rintro ⟨⟨h1,h2⟩,h3⟩
  refine⟨h1,fun x hx=>?_⟩
  rcases List.mem_cons.1 hx with rfl|hx
  ·exact (key h1).2 h3
  ·exact h2 x hx
theorem kC_.told (hN:sq_ NL){W:Wk}{res:Except Nat Kn}(h:kC_ W res)(D:DI L n NL A0 W):(∀ K,res=.ok K→(∃ fr,DI L n NL A0 ⟨K,[],fr⟩)∧∀ f,PrF f→(pz_ f W↔Ext f K))∧∀ er,res=.error er→∀ f,PrF f→¬ pz_ f W:=by
 induction h with
 | done W h =>
  refine⟨fun K e=>?_,fun er e=>by cases e⟩;injection e with e
  subst e;refine⟨⟨W.fresh,?_⟩,fun f _=>?_⟩
  ·have:W=⟨W.K,[],W.fresh⟩:=by rw[← h]
   exact this ▸ D
  ·unfold pz_;rw[h];simp
 | err W e es er h hd =>
  refine⟨fun K e=>by (cases e),fun er' e' f hf hs=>?_⟩;obtain⟨D1,S,_⟩:=D.cut h;exact hd.err S hf ((hv_ h).1 hs).2
 | step W W' e es res h hd hr ih =>
  obtain⟨D1,S,ha⟩:=D.cut h;obtain⟨i1,i2⟩:=ih (hd.inv D1 S ha);refine⟨fun K e=>⟨(i1 K e).1,fun f hf=>?_⟩,fun er e f hf=>?_⟩
  ·rw[hv_ h,hd.sol D1 hN S hf];exact (i1 K e).2 f hf
  ·rw[hv_ h,hd.sol D1 hN S hf];exact i2 er e f hf
theorem kC_.det {W:Wk}{x y:Except Nat Kn}(h:kC_ W x)(k:kC_ W y):x=y:=by
 induction h generalizing y with
 | done W h=>cases k with
  | done=>rfl
  | err _ e es er k=>rw[h] at k;cases k
  | step _ _ e es _ k=>rw[h] at k;cases k
 | err W e es er h hd=>cases k with
  | done _ k=>rw[h] at k;cases k
  | err _ e' es' er' k kd =>
   rw[h] at k;injection k with k1 k2
   subst k1 k2;have:=hd.det kd;injection this with this
   rw[this]
  | step _ W' e' es' _ k kd =>
   rw[h] at k;injection k with k1 k2
   subst k1 k2;have:=hd.det kd;cases this
 | step W W' e es res h hd hr ih=>cases k with
  | done _ k=>rw[h] at k;cases k
  | err _ e' es' er' k kd =>
   rw[h] at k;injection k with k1 k2
   subst k1 k2;have:=hd.det kd;cases this
  | step _ W'' e' es' _ k kd kr =>
   rw[h] at k;injection k with k1 k2
   subst k1 k2;have:=hd.det kd;injection this with this
   subst this;exact ih kr
theorem rs_ (C:Co L n NL A0){W:Wk}(N:NI W)(D:DI L n NL A0 (dW W)){e:EqT}{es:List EqT}(hl:W.left=e :: es) :
  (∃ er,ib_ 100 ⟨W.K,es,W.fresh⟩ e=some (.error er)∧Dst ⟨W.K,es.map dbE,W.fresh⟩ (swl W.K (dbE e)).1 (swl W.K (dbE e)).2 (.error er)) ∨
  ∃ W',ib_ 100 ⟨W.K,es,W.fresh⟩ e=some (.ok W')∧NI W'∧Dst ⟨W.K,es.map dbE,W.fresh⟩ (swl W.K (dbE e)).1 (swl W.K (dbE e)).2 (.ok (dW W')):=by
 have hdl:(dW W).left=dbE e :: es.map dbE:=by show W.left.map dbE=_;rw[hl];rfl
 obtain⟨D1,S,ha⟩:=D.cut hdl;have hN:=N.lf e (by rw[hl];simp);have hE:=D.lf (dbE e) (by rw[hdl];simp);have hkl:=D.klen;have hfr:W.fresh≤A0:=by have:=D.fr;show (dW W).fresh≤A0;omega
 have hnl:=C.nl;have hll:=C.ll;obtain⟨l0,f1,d1,s1,g1⟩:=m5_ D.ko N.kv (NL:=NL) (fr:=W.fresh) (by omega) D.kn 99 0 e.1 (by have h:W.K.length≤L.length:=hkl;omega) hN.1.1 hN.1.2 (fun z _=>rfl) hE.1.vn (hE.1.sz C D);obtain⟨r0,f2,d2,s2,g2⟩:=m5_ D.ko N.kv (NL:=NL) (fr:=W.fresh) (by omega) D.kn 99 0 e.2 (by have h:W.K.length≤L.length:=hkl;omega) hN.2.1 hN.2.2 (fun z _=>rfl) hE.2.vn (hE.2.sz C D);have hsw:swl W.K (dbE e)=dbE (cB_ l0 r0)∧(Std (cB_ l0 r0).1∧a6_ (cB_ l0 r0).1)∧Std (cB_ l0 r0).2∧a6_ (cB_ l0 r0).2:=by
  obtain⟨a1,a2,_,_⟩:=hh_ s1;obtain⟨b1,b2,_,_⟩:=hh_ s2;unfold swl;show cB_ (fl (sg W.K) (dbT [] e.1)) (fl (sg W.K) (dbT [] e.2))=_∧_;rw[show fl (sg W.K) (dbT [] e.1)=dbT [] l0 from d1.symm,show fl (sg W.K) (dbT [] e.2)=dbT [] r0 from d2.symm];unfold cB_;rw[a1,a2,b1,b2]
  by_cases hc:r0.kind=2∧(l0.kind≠2∨l0.n<r0.n)
  ·rw[if_pos hc,if_pos hc];exact⟨rfl,⟨s2,g2⟩,s1,g1⟩
  ·rw[if_neg hc,if_neg hc];exact⟨rfl,⟨s1,g1⟩,s2,g2⟩
 have hst:ib_ 100 ⟨W.K,es,W.fresh⟩ e=f8_ ⟨W.K,es,W.fresh⟩ (cB_ l0 r0).1 (cB_ l0 r0).2:=by
  unfold ib_;rw[show eN_ 100 W.K e.1=some l0 from f1,show eN_ 100 W.K e.2=some r0 from f2]
 rw[hst];have hsd:swl (dW W).K (dbE e)=dbE (cB_ l0 r0):=hsw.1;rw[hsd] at S ha;rw[hsw.1];have N1:NI ⟨W.K,es,W.fresh⟩:=⟨fun x hx=>N.lf x (by rw[hl];simp[hx]),N.kv⟩;exact pO_ C (W:=⟨W.K,es,W.fresh⟩) N1 D1 hsw.2.1.1 hsw.2.1.2 hsw.2.2.1 hsw.2.2.2 S ha
inductive Rn (W:Wk):Nat→Wk→Prop
 | zero:Rn W 0 W
 | succ (k:Nat) (W' W'':Wk) (e:EqT) (es:List EqT) (h:Rn W k W') (hl:W'.left=e :: es) (hs:ib_ 100 ⟨W'.K,es,W'.fresh⟩ e=some (.ok W'')) (hlen:W''.left.length≤500000000000)
  (hd:Dst ⟨W'.K,es.map dbE,W'.fresh⟩ (swl W'.K (dbE e)).1 (swl W'.K (dbE e)).2 (.ok (dW W''))):Rn W (k+1) W''
theorem lZ_ {n:Nat}{W W':Wk}{e:EqT}{es:List EqT}{res:Except Nat Kn}(hl:W.left=e :: es)(hs:ib_ 100 ⟨W.K,es,W.fresh⟩ e=some (.ok W'))(hlen:W'.left.length≤500000000000)(h:fz_ 100 n W'=some res):fz_ 100 (n+1) W=some res:=by
 rw[fz_,hl];simp only;rw[show ib_ 100 { W with left:=es } e=some (.ok W') from hs];simp only;rw[if_pos hlen,h]
theorem Rn.run {W W':Wk}{k:Nat}(h:Rn W k W'):∀ (n:Nat) (res:Except Nat Kn),fz_ 100 n W'=some res∧kC_ (dW W') res→fz_ 100 (k+n) W=some res∧kC_ (dW W) res:=by
 induction h with
 | zero=>intro n res h;rw[Nat.zero_add];exact h
 | succ k W' W'' e es h hl hs hlen hd ih =>
  intro n res hr;have:=ih (n+1) res ⟨lZ_ hl hs hlen hr.1,.step _ _ (dbE e) (es.map dbE) _ (by show W'.left.map dbE=_;rw[hl];rfl) hd hr.2⟩;rw[show k+1+n=k+(n+1) from by omega];exact this
theorem o9_ {f:Int→Ty}{B:Nat} : ∀ es:List EqT,(∀ e∈es,(fl f e.1).size≤B∧(fl f e.2).size≤B)→phi f es≤es.length*(2*B):=by
 intro es
 induction es with
 | nil=>intro _;exact Nat.zero_le _
 | cons e es ih =>
  intro h;rw[e3_,List.length_cons,Nat.add_mul];have:=ih fun x hx=>h x (by simp[hx]);have:=h e (by simp);omega
theorem nY_ (C:Co L n NL A0){W:Wk}(D:DI L n NL A0 W){s:Ty}(hs:Qs L n s):(fl (sg W.K) s).size≤LIM:=by
 have h1:=ft_ (f:=sg W.K) (fun x _=>(D.kr x).imp (fun h2=>by
  rw[cZ_ (D.ko.facts.pr x).dw h2];exact aA_ _) id) hs
 have h2:2 ^ sm L n≤2 ^ 24:=Nat.pow_le_pow_right (by omega) C.sn;have h3:(2:Nat) ^ 24=16777216:=by decide
 unfold LIM;omega
theorem rA_ (C:Co L n NL A0){W:Wk}(N:NI W)(D:DI L n NL A0 (dW W))(hQ:∀ e∈(dW W).left,Qs L n e.1∧Qs L n e.2)(h8:(dW W).left.length≤16):∀ k:Nat,(∃ j res,j≤k∧(∀ K,res=.ok K→∀ x u,lkK K x=some u→Std u∧a6_ u)∧fz_ 100 j W=some res∧kC_ (dW W) res)∨∃ W',Rn W k W'∧NI W'∧DI L n NL A0 (dW W')∧∀ f,Ext f W'.K→Ext f W.K∧phi f (dW W').left+k≤phi f (dW W).left:=by
 intro k;have hB:∀ W':Wk,DI L n NL A0 W'→phi (sg W'.K) (dW W).left≤16*(2*LIM):=fun W' D' =>
  cj_ (o9_ _ fun e he=>⟨nY_ C D' (hQ e he).1,nY_ C D' (hQ e he).2⟩) (Nat.mul_le_mul_right _ h8)
 induction k with
 | zero=>exact .inr ⟨W,.zero,N,D,fun f hf=>⟨hf,aA_ _⟩⟩
 | succ k ih =>
  rcases ih with ⟨j,res,hj,h⟩|⟨W',hr,N',D',hp⟩
  ·exact .inl ⟨j,res,by omega,h⟩
  ·cases hl:W'.left with
   | nil =>
    have h1:fz_ 100 1 W'=some (.ok W'.K):=(by rw[fz_,hl]);obtain⟨a,b⟩:=hr.run 1 (.ok W'.K) ⟨h1,.done (dW W') (by show W'.left.map dbE=[];rw[hl];rfl)⟩;exact .inl ⟨k+1,_,aA_ _,(fun K e=>by injection e with e;rw[← e];exact N'.kv),a,b⟩
   | cons e es =>
    have hdl:(dW W').left=dbE e :: es.map dbE:=by show W'.left.map dbE=_;rw[hl];rfl
    obtain⟨D1,S,ha⟩:=D'.cut hdl
    rcases rs_ C N' D' hl with ⟨er,hs,hd⟩|⟨W'',hs,N'',hd⟩
    ·have h1:fz_ 100 1 W'=some (.error er):=by
      rw[fz_,hl];simp only;rw[show ib_ 100 { W' with left:=es } e=some (.error er) from hs]
     obtain⟨a,b⟩:=hr.run 1 (.error er) ⟨h1,.err (dW W') (dbE e) (es.map dbE) er hdl hd⟩;exact .inl ⟨k+1,_,aA_ _,(fun K e=>by cases e),a,b⟩
    ·have D'':=hd.inv D1 S ha
     have hext:∀ f,Ext f W''.K→Ext f W'.K:=fun f hf=>hd.ext D1 S hf;have hphi:∀ f,Ext f W''.K→phi f (dW W'').left+1≤phi f (dW W').left:=fun f hf=>by
      have h1:=hd.phi S f;have he:=hext f hf;rw[hdl,e3_];have h2:(fl f (swl W'.K (dbE e)).1).size+(fl f (swl W'.K (dbE e)).2).size=(fl f (dbE e).1).size+(fl f (dbE e).2).size:=by
       unfold swl
       rcases fq_ (fl (sg W'.K) (dbE e).1) (fl (sg W'.K) (dbE e).2) with h|h<;>rw[h]<;>simp only<;>rw[kv_ he,kv_ he]
       omega
      have h3:phi f (dW W'').left+1≤phi f (es.map dbE)+(fl f (swl W'.K (dbE e)).1).size+(fl f (swl W'.K (dbE e)).2).size:=h1;omega
     have hall:∀ f,Ext f W''.K→Ext f W.K∧phi f (dW W'').left+(k+1)≤phi f (dW W).left:=fun f hf=>by
      have h1:=hp f (hext f hf);have h2:=hphi f hf;exact⟨h1.1,by omega⟩
     by_cases hlen:W''.left.length≤500000000000
     ·exact .inr ⟨W'',.succ k W' W'' e es hr hl hs hlen hd,N'',D'',hall⟩
     ·exfalso
      have hf:=D''.ko.facts;have h1:=(hall (sg W''.K) hf.ext).2;have h2:=p4_ (sg W''.K) (dW W'').left;have h3:(dW W'').left.length=W''.left.length:=by show (List.map _ _).length=_;rw[List.length_map]
      have h4:=hB (dW W'') D'';have h5:phi (sg W''.K) (dW W).left≤16*(2*LIM):=h4;unfold LIM at h5;omega
theorem pV_ (C:Co L n NL A0){W:Wk}(N:NI W)(D:DI L n NL A0 (dW W))(hQ:∀ e∈(dW W).left,Qs L n e.1∧Qs L n e.2)(h8:(dW W).left.length≤16):∃ j res,j≤100000000000∧(∀ K,res=.ok K→∀ x u,lkK K x=some u→Std u∧a6_ u)∧fz_ 100 j W=some res∧kC_ (dW W) res:=by
 rcases rA_ C N D hQ h8 100000000000 with h|⟨W',hr,N',D',hp⟩
 ·exact h
 ·exfalso
  have h1:=(hp (sg W'.K) D'.ko.facts.ext).2;have h2:phi (sg W'.K) (dW W).left≤16*(2*LIM):=cj_ (o9_ _ fun e he=>⟨nY_ C D' (hQ e he).1,nY_ C D' (hQ e he).2⟩) (Nat.mul_le_mul_right _ h8);unfold LIM at h2;omega
def outD (K:Kn):Kn:=(cv_ K).map fun m=>(m,sg K m)
theorem rF_ (C:Co L n NL A0){W:Wk}(kv:∀ x u,lkK W.K x=some u→Std u∧a6_ u)(D:DI L n NL A0 W):∀ ms:List Int,(∀ m∈ms,lkK W.K m≠none)→ic_ 100 W.K ms=some (ms.map fun m=>(m,sg W.K m)):=by
 intro ms
 induction ms with
 | nil=>intro _;rfl
 | cons m ms ih =>
  intro h;have hkl:=D.klen;have hll:=C.ll;have hnl:=C.nl;have hfr:W.fresh≤A0:=by have:=D.fr;omega
  rw[ic_];cases hu:lkK W.K m with
  | none=>exact absurd hu (h m (by simp))
  | some u =>
   simp only;obtain⟨us,ug⟩:=kv m u hu;obtain⟨e1,_,up⟩:=D.ko.facts.bnd m u hu;have ed:dbT [] u=u:=ff_ u us up.no5;have hvu:Al (VOk NL W.fresh) u:=h3_ (f:=sg W.K) (fun t l h=>h) (fun t h=>⟨fun h1=>by omega,fun h1=>by omega⟩) u up.dw (by rw[← e1];exact D.kn m);obtain⟨u',a1,a2,a3,a4⟩:=m5_ D.ko kv (NL:=NL) (fr:=W.fresh) (by omega) D.kn 99 0 u (by omega) us ug (fun z _=>rfl) (by rw[ed];exact hvu) (by rw[ed,← e1];exact sg_sz C D m);rw[show eN_ 100 W.K u=some u' from a1];simp only;rw[ih fun x hx=>h x (by simp[hx])];simp only;rw[ed,← e1] at a2;have hp:dbT [] u'=u':=ff_ u' a3 ((ps_ u' [] a3).1 (by rw[a2];exact (D.ko.facts.pr m).no5));rw[hp] at a2;rw[a2];rfl
def tellD:Except Nat Kn→Except Nat Kn
 | .error e=>.error e
 | .ok K=>.ok (outD K)
theorem uni_ex (C:Co L n NL A0){es:List EqT}(N:∀ e∈es,(Std e.1∧a6_ e.1)∧(Std e.2∧a6_ e.2))(D:DI L n NL A0 ⟨[],es.map dbE,0⟩)(hQ:∀ e∈es,Qs L n (dbT [] e.1)∧Qs L n (dbT [] e.2))(h8:es.length≤16) :
  ∃ j res,j≤100000000000∧gL_ 100 j es=some (tellD res)∧kC_ ⟨[],es.map dbE,0⟩ res:=by
 obtain⟨j,res,hj,kv,h1,h2⟩:=pV_ C (W:=⟨[],es,0⟩) ⟨N,fun x u h=>by cases h⟩ D (fun e he=>by
  obtain⟨x,hx,rfl⟩:=List.mem_map.1 he;exact hQ x hx) (by show (List.map _ _).length≤16;rw[List.length_map];exact h8)
 refine⟨j,res,hj,?_,h2⟩;unfold gL_;rw[h1];cases res with
 | error e=>rfl
 | ok K =>
  simp only;obtain⟨⟨fr,D'⟩,_⟩:=(h2.told C.nn D).1 K rfl;rw[rF_ C (W:=⟨K,[],fr⟩) (kv K rfl) D' (cv_ K) fun m hm=>hI_.1 hm];rfl
end
theorem m4_ (n:Nat)(t:Ty):eN_ (n+1) [] t=some t:=by
 have:∀ (ms:List Int) (f:Ty→Option Ty) (x:Ty),c6_ f [] ms x=some x:=by
  intro ms
  induction ms with
  | nil=>intro f x;rfl
  | cons m ms ih=>intro f x;rw[c6_,qu_];exact ih f x
 exact this _ _ t
theorem lB_ {a b:Ty} : ib_ 10 ⟨[],[],0⟩ (a,b)=f8_ ⟨[],[],0⟩ (cB_ a b).1 (cB_ a b).2:=by
 unfold ib_;show (match eN_ 10 [] a with|none=>none|some l=>match eN_ 10 [] b with|none=>none|some r=>f8_ ⟨[],[],0⟩ (cB_ l r).1 (cB_ l r).2)=_;rw[m4_ 9 a,m4_ 9 b]
theorem iz_ {a b:Ty}{K R:Kn}{fr:Nat}(hs:f8_ ⟨[],[],0⟩ (cB_ a b).1 (cB_ a b).2=some (.ok ⟨K,[],fr⟩))(ho:ic_ 10 K (cv_ K)=some R):gL_ 10 10 [(a,b)]=some (.ok R):=by
 have h:fz_ 10 10 ⟨[],[(a,b)],0⟩=some (.ok K):=by
  rw[fz_];simp only;rw[show ib_ 10 { (⟨[],[(a,b)],0⟩:Wk) with left:=[] } (a,b)=some (.ok ⟨K,[],fr⟩) from lB_.trans hs];simp only;rw[if_pos (by simp),fz_]
 unfold gL_;rw[h];simp only;rw[ho]
theorem pc_ {a b:Ty}{er:Nat}(hs:f8_ ⟨[],[],0⟩ (cB_ a b).1 (cB_ a b).2=some (.error er)):gL_ 10 10 [(a,b)]=some (.error er):=by
 have h:fz_ 10 10 ⟨[],[(a,b)],0⟩=some (.error er):=by
  rw[fz_];simp only;rw[show ib_ 10 { (⟨[],[(a,b)],0⟩:Wk) with left:=[] } (a,b)=some (.error er) from lB_.trans hs]
 unfold gL_;rw[h]
theorem km_:cv_ []=[]:=by unfold cv_;exact List.mergeSort_of_pairwise (by simp)
theorem st_ (t:Ty):gL_ 10 10 [(t,t)]=some (.ok []):=by
 refine iz_ (K:=[]) (fr:=0) ?_ (by rw[km_];rfl)
 rcases fq_ t t with e|e<;>rw[e]<;>(unfold f8_;rw[if_pos rfl])
def iA_ (m:Int)(t:Ty):Except Nat Kn :=
 if aP_ t=aP_ (mt m) then .ok []
 else if m∈aO_ t∧t.kind≠2 then .error 41
 else if cu_ t then .error 42
 else if t.kind=2 then .ok [(if m<t.n then t.n else m,mt (if m<t.n then m else t.n))]
 else .ok [(m,t)]
theorem kl_ (m:Int):aO_ (mt m)=[m]:=rfl
theorem rR_ {s:ByteArray}(h:oZ_ s):NmW s.data.toList∧iQ_ s=false∧s.size≠0:=by
 obtain⟨h1,h2,h3⟩:=h;have hne:=fY_ h1;have hh:∀ c:UInt8,aE_ c=true→inW c=true:=fun c hc=>by
  unfold inW;rw[Bool.not_eq_true',Bool.or_eq_false_iff,Bool.or_eq_false_iff,Bool.or_eq_false_iff,Bool.or_eq_false_iff];simp only[beq_eq_false_iff_ne];refine⟨⟨⟨⟨?_,?_⟩,?_⟩,?_⟩,?_⟩<;>(rintro rfl;exact absurd hc (by decide))
 refine⟨⟨⟨hne,fun c hc=>hh c (h1.inner c hc)⟩,d1_ h2,fun e=>?_,fun e=>?_⟩,?_,fun e=>hne ?_⟩
 ·rw[e] at h2;exact absurd h2 (by decide)
 ·rw[e] at h3;exact absurd h3 (by decide)
 ·unfold iQ_
  rw[beq_eq_false_iff_ne];intro e;rw[e] at h2;exact absurd h2 (by decide)
 ·exact List.eq_nil_of_length_eq_zero (by rw[Array.length_toList];exact e)
theorem kk_ {t:Ty}(h:Mk t):∀ s∈ak_ t,NmW s.data.toList∧iQ_ s=false∧s.size≠0:=by
 have key:∀ t:Ty,Mk t→∀ s,fvT s t→oZ_ s:=by
  intro t
  induction t using Ty.ind with
  | h t ih =>
   intro h s hf
   rcases (aH_ s t).1 hf with ⟨h1,rfl⟩|⟨⟨a,ha,hfa⟩,_⟩
   ·exact ((cD_ t).1 h.2).1.1 (.inl h1)
   ·exact ih a ha ⟨h.1.args a ha,((cD_ t).1 h.2).2 a ha⟩ s hfa
 intro s hs;have hl:=key t h s ((bk_ s t).1 hs);exact rR_ hl
theorem ov_ (x:Int × Ty):cv_ [x]=[x.1]:=by unfold cv_;exact List.mergeSort_of_pairwise (by simp)
theorem iI_ {a:Int}{t:Ty}(hm:a∉aO_ t):ic_ 10 [(a,t)] (cv_ [(a,t)])=some [(a,t)]:=by
 have hl:lkK [(a,t)] a=some t:=by unfold lkK;simp
 rw[ov_];show ic_ 10 [(a,t)] [a]=_;rw[ic_,hl];simp only;have hf:eN_ 10 [(a,t)] t=some t:=by
  have:∀ (ms:List Int) (f:Ty→Option Ty) (x:Ty),a∉ms→c6_ f [(a,t)] ms x=some x:=by
   intro ms
   induction ms with
   | nil=>intro f x _;rfl
   | cons m ms ih =>
    intro f x hx;have hn:lkK [(a,t)] m=none:=by
     unfold lkK;have:(a==m)=false:=beq_eq_false_iff_ne.2 fun e=>hx (by simp[e]);simp[this]
    rw[c6_,hn];exact ih f x fun hh=>hx (by simp[hh])
  exact this _ _ t hm
 rw[hf];simp only;rw[ic_]
theorem ot_ {t:Ty}(h:Std t)(h2:t.kind=2):t=mt t.n:=by
 have hd:=eO_ t [] h;rw[ff_ t h (.mk t (by omega) fun a ha=>by rw[(h.k2 h2).2.1] at ha;cases ha)] at hd;exact hd.here.k2 h2
theorem one_res {m:Int}{t:Ty}(h:Mk t):gL_ 10 10 [(mt m,t)]=some (iA_ m t):=by
 have hmt:(mt m).kind=2:=rfl;have hnl:∀ x,(lkK [] x).isSome=false:=fun x=>rfl;have hnm:((Tp.ak_ t).any fun s=>s.size==0)=false:=List.any_eq_false.2 fun s hs=>by simpa using (kk_ h s hs).2.2
 have hdl:ez_ (Tp.ak_ t)=false:=d3_.2 fun s hs=>(kk_ h s hs).2.1
 by_cases hc:aP_ t=aP_ (mt m)
 ·have e:iA_ m t=.ok []:=if_pos hc
  rw[e];refine iz_ (K:=[]) (fr:=0) ?_ (by rw[km_];rfl)
  rcases fq_ (mt m) t with e|e<;>rw[e]<;>unfold f8_
  ·rw[if_pos hc.symm]
  ·rw[if_pos hc]
 ·by_cases h2:t.kind=2
  ·have et:=ot_ h.1 h2
   have hne:t.n≠m:=fun e=>hc (by rw[et,e]);have hor:iA_ m t=.ok [(if m<t.n then t.n else m,mt (if m<t.n then m else t.n))]:=by
    unfold iA_;rw[if_neg hc,if_neg (fun hh=>hh.2 h2),if_neg (by rw[ek_,h2,(h.1.k2 h2).2.1];simp),if_pos h2]
   rw[hor];have key:∀ a b:Int,a≠b→aP_ (mt a)≠aP_ (mt b)→f8_ ⟨[],[],0⟩ (mt a) (mt b)=some (.ok ⟨[(a,mt b)],[],0⟩)∧ic_ 10 [(a,mt b)] (cv_ [(a,mt b)])=some [(a,mt b)]:=by
    intro a b hab hcab;refine⟨?_,iI_ (by rw[kl_];simpa using hab)⟩;have e1:gO_ [] a (mt b)=.ok [(a,mt b)]:=by
     unfold gO_;rw[if_neg (by rw[kl_];simpa using hab),if_neg (show ¬ cu_ (mt b)=true from by rw[ek_];simp[mt,Ty.kind,Ty.args]),if_neg (show ¬ ez_ (Tp.ak_ (mt b))=true from by rw[show Tp.ak_ (mt b)=[] from rfl];simp[ez_])];rfl
    unfold f8_;rw[if_neg hcab,if_pos (show (mt a).kind=2 from rfl),if_neg (by rw[show Tp.ak_ (mt b)=[] from rfl];simp[hnl])];show some (match gO_ [] a (mt b) with | .error e=>(Except.error e:Except Nat Wk) | .ok K=>.ok ⟨K,[],0⟩)=_;rw[e1]
   by_cases hlt:m<t.n
   ·rw[if_pos hlt,if_pos hlt]
    have es:cB_ (mt m) t=(t,mt m):=by unfold cB_;rw[if_pos (show t.kind=2∧((mt m).kind≠2∨(mt m).n<t.n) from ⟨h2,.inr hlt⟩)]
    obtain⟨k1,k2⟩:=key t.n m hne (by rw[← et];exact hc);exact iz_ (by rw[es];simp only;conv=>lhs;rw[et]
             exact k1) k2
   ·rw[if_neg hlt,if_neg hlt]
    have es:cB_ (mt m) t=(mt m,t):=by
     unfold cB_;exact if_neg fun hh=>hh.2.elim (fun h=>h rfl) hlt
    obtain⟨k1,k2⟩:=key m t.n (fun e=>hne e.symm) (by rw[← et];exact fun e=>hc e.symm);exact iz_ (by rw[es];simp only;conv=>lhs;rw[et]
             exact k1) k2
  ·have es:cB_ (mt m) t=(mt m,t):=by
    unfold cB_;exact if_neg fun hh=>h2 hh.1
   have hst:f8_ ⟨[],[],0⟩ (mt m) t=some (match gO_ [] m t with | .error e=>Except.error e | .ok K=>.ok ⟨K,[],0⟩):=by
    unfold f8_;rw[if_neg (fun e=>hc e.symm),if_pos (show (mt m).kind=2 from rfl),if_neg (by rw[hnl,hnm];simp)];rfl
   unfold iA_;rw[if_neg hc]
   by_cases hm:m∈aO_ t
   ·rw[if_pos ⟨hm,h2⟩]
    refine pc_ ?_;rw[es];simp only;rw[hst];unfold gO_;rw[if_pos (by simpa using hm)]
   ·rw[if_neg (fun hh=>hm hh.1)]
    cases hp:cu_ t with
    | true =>
     rw[if_pos rfl];refine pc_ ?_;rw[es];simp only;rw[hst];unfold gO_;rw[if_neg (by simpa using hm),hp,if_pos rfl]
    | false =>
     rw[if_neg (by decide),if_neg h2];refine iz_ (K:=[(m,t)]) (fr:=0) ?_ (iI_ hm);rw[es];simp only;rw[hst];unfold gO_;rw[if_neg (by simpa using hm),hp,if_neg (by decide),hdl,if_neg (by decide)];rfl
end Go.Proofs.YtjecnionbjlncaaGreatDoor.Tp

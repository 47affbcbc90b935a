/- Packed. -/
import Derived.Test.YtjecnionbjlncaaGreatDoorP41
set_option maxRecDepth 100000
set_option maxHeartbeats 6400000
namespace Go.Proofs.YtjecnionbjlncaaGreatDoor.Tp
open Lx
def swl (K:Kn)(e:EqT):EqT:=cB_ (fl (sg K) e.1) (fl (sg K) e.2)
inductive jk_:Wk→Except Nat Kn→Prop
 | done (W:Wk) (h:W.left=[]):jk_ W (.ok W.K)
 | err (W:Wk) (e:EqT) (es:List EqT) (er:Nat) (h:W.left=e :: es) (hd:Dst ⟨W.K,es,W.fresh⟩ (swl W.K e).1 (swl W.K e).2 (.error er)):jk_ W (.error er)
 | step (W W':Wk) (e:EqT) (es:List EqT) (res:Except Nat Kn) (h:W.left=e :: es) (hd:Dst ⟨W.K,es,W.fresh⟩ (swl W.K e).1 (swl W.K e).2 (.ok W')) (hr:jk_ W' res):jk_ W res
section
variable {L : List Int} {n : Int → Nat} {NL : List ByteArray} {A0 : Nat}
theorem DI.cut {W:Wk}{e:EqT}{es:List EqT}(D:DI L n NL A0 W)(h:W.left=e :: es):DI L n NL A0 ⟨W.K,es,W.fresh⟩∧Sd ⟨W.K,es,W.fresh⟩ L n NL (swl W.K e).1 (swl W.K e).2∧W.fresh+acE es+ac (swl W.K e).1+ac (swl W.K e).2≤A0:=by
 have e1:W=⟨W.K,e :: es,W.fresh⟩:=by rw[← h]
 have D1:DI L n NL A0 ⟨W.K,e :: es,W.fresh⟩:=e1 ▸ D;have hlf:=D1.lf e (by simp);refine⟨D1.tail,Sd.of (W:=⟨W.K,es,W.fresh⟩) D1.tail hlf.1 hlf.2,?_⟩;have h0:∀ m,ac (sg W.K m)=0:=fun m=>ac_pr _ (D1.ko.facts.pr m).no5;have h1:=sD_ h0 e.1;have h2:=sD_ h0 e.2;have h3:=D1.fr;simp only at h3;rw[il_] at h3;unfold swl
 rcases eN_ (fl (sg W.K) e.1) (fl (sg W.K) e.2) with h|h<;>rw[h]<;>simp only<;>omega
theorem gb_ {f:Int→Ty}{W:Wk}{e:EqT}{es:List EqT}(h:W.left=e :: es):lF_ f W↔lF_ f ⟨W.K,es,W.fresh⟩∧fl f (swl W.K e).1=fl f (swl W.K e).2:=by
 unfold lF_;rw[h];have key:Ext f W.K→(fl f e.1=fl f e.2↔fl f (swl W.K e).1=fl f (swl W.K e).2):=fun he=>by
  unfold swl
  rcases eN_ (fl (sg W.K) e.1) (fl (sg W.K) e.2) with h|h<;>rw[h]<;>simp only<;>rw[f0_ he,f0_ he]
  exact⟨fun h=>h.symm,fun h=>h.symm⟩
 constructor
 ·rintro ⟨h1,h2⟩
  exact⟨⟨h1,fun x hx=>h2 x (by simp[hx])⟩,(key h1).1 (h2 e (by simp))⟩
 ·rintro ⟨⟨h1,h2⟩,h3⟩
  refine⟨h1,fun x hx=>?_⟩
  rcases List.mem_cons.1 hx with rfl|hx
  ·exact (key h1).2 h3
  ·exact h2 x hx
theorem jk_.told (hN:lI_ NL){W:Wk}{res:Except Nat Kn}(h:jk_ W res)(D:DI L n NL A0 W):(∀ K,res=.ok K→(∃ fr,DI L n NL A0 ⟨K,[],fr⟩)∧∀ f,PrF f→(lF_ f W↔Ext f K))∧∀ er,res=.error er→∀ f,PrF f→¬ lF_ f W:=by
 induction h with
 | done W h =>
  refine⟨fun K e=>?_,fun er e=>by cases e⟩;injection e with e
  subst e;refine⟨⟨W.fresh,?_⟩,fun f _=>?_⟩
  ·have:W=⟨W.K,[],W.fresh⟩:=by rw[← h]
   exact this ▸ D
  ·unfold lF_;rw[h];simp
 | err W e es er h hd =>
  refine⟨fun K e=>by (cases e),fun er' e' f hf hs=>?_⟩;obtain⟨D1,S,_⟩:=D.cut h;exact hd.err S hf ((gb_ h).1 hs).2
 | step W W' e es res h hd hr ih =>
  obtain⟨D1,S,ha⟩:=D.cut h;obtain⟨i1,i2⟩:=ih (hd.inv D1 S ha);refine⟨fun K e=>⟨(i1 K e).1,fun f hf=>?_⟩,fun er e f hf=>?_⟩
  ·rw[gb_ h,hd.sol D1 hN S hf];exact (i1 K e).2 f hf
  ·rw[gb_ h,hd.sol D1 hN S hf];exact i2 er e f hf
theorem jk_.det {W:Wk}{x y:Except Nat Kn}(h:jk_ W x)(k:jk_ W y):x=y:=by
 induction h generalizing y with
 | done W h=>cases k with
  | done=>rfl
  | err _ e es er k=>rw[h] at k;cases k
  | step _ _ e es _ k=>rw[h] at k;cases k
 | err W e es er h hd=>cases k with
  | done _ k=>rw[h] at k;cases k
  | err _ e' es' er' k kd =>
   rw[h] at k;injection k with k1 k2
   subst k1 k2;have:=hd.det kd;injection this with this
   rw[this]
  | step _ W' e' es' _ k kd =>
   rw[h] at k;injection k with k1 k2
   subst k1 k2;have:=hd.det kd;cases this
 | step W W' e es res h hd hr ih=>cases k with
  | done _ k=>rw[h] at k;cases k
  | err _ e' es' er' k kd =>
   rw[h] at k;injection k with k1 k2
   subst k1 k2;have:=hd.det kd;cases this
  | step _ W'' e' es' _ k kd kr =>
   rw[h] at k;injection k with k1 k2
   subst k1 k2;have:=hd.det kd;injection this with this
   subst this;exact ih kr
theorem j6_ (C:Co L n NL A0){W:Wk}(N:NI W)(D:DI L n NL A0 (dW W)){e:EqT}{es:List EqT}(hl:W.left=e :: es) :
  (∃ er,er_ 100 ⟨W.K,es,W.fresh⟩ e=some (.error er)∧Dst ⟨W.K,es.map dbE,W.fresh⟩ (swl W.K (dbE e)).1 (swl W.K (dbE e)).2 (.error er)) ∨
  ∃ W',er_ 100 ⟨W.K,es,W.fresh⟩ e=some (.ok W')∧NI W'∧Dst ⟨W.K,es.map dbE,W.fresh⟩ (swl W.K (dbE e)).1 (swl W.K (dbE e)).2 (.ok (dW W')):=by
 have hdl:(dW W).left=dbE e :: es.map dbE:=by show W.left.map dbE=_;rw[hl];rfl
 obtain⟨D1,S,ha⟩:=D.cut hdl;have hN:=N.lf e (by rw[hl];simp);have hE:=D.lf (dbE e) (by rw[hdl];simp);have hkl:=D.klen;have hfr:W.fresh≤A0:=by have:=D.fr;show (dW W).fresh≤A0;omega
 have hnl:=C.nl;have hll:=C.ll;obtain⟨l0,f1,d1,s1,g1⟩:=gL_ D.ko N.kv (NL:=NL) (fr:=W.fresh) (by omega) D.kn 99 0 e.1 (by have h:W.K.length≤L.length:=hkl;omega) hN.1.1 hN.1.2 (fun z _=>rfl) hE.1.vn (hE.1.sz C D);obtain⟨r0,f2,d2,s2,g2⟩:=gL_ D.ko N.kv (NL:=NL) (fr:=W.fresh) (by omega) D.kn 99 0 e.2 (by have h:W.K.length≤L.length:=hkl;omega) hN.2.1 hN.2.2 (fun z _=>rfl) hE.2.vn (hE.2.sz C D);have hsw:swl W.K (dbE e)=dbE (cB_ l0 r0)∧(Std (cB_ l0 r0).1∧aY_ (cB_ l0 r0).1)∧Std (cB_ l0 r0).2∧aY_ (cB_ l0 r0).2:=by
  obtain⟨a1,a2,_,_⟩:=eI_ s1;obtain⟨b1,b2,_,_⟩:=eI_ s2;unfold swl;show cB_ (fl (sg W.K) (dbT [] e.1)) (fl (sg W.K) (dbT [] e.2))=_∧_;rw[show fl (sg W.K) (dbT [] e.1)=dbT [] l0 from d1.symm,show fl (sg W.K) (dbT [] e.2)=dbT [] r0 from d2.symm];unfold cB_;rw[a1,a2,b1,b2]
  by_cases hc:r0.kind=2∧(l0.kind≠2∨l0.n<r0.n)
  ·rw[if_pos hc,if_pos hc];exact⟨rfl,⟨s2,g2⟩,s1,g1⟩
  ·rw[if_neg hc,if_neg hc];exact⟨rfl,⟨s1,g1⟩,s2,g2⟩
 have hst:er_ 100 ⟨W.K,es,W.fresh⟩ e=f9_ ⟨W.K,es,W.fresh⟩ (cB_ l0 r0).1 (cB_ l0 r0).2:=by
  unfold er_;rw[show dX_ 100 W.K e.1=some l0 from f1,show dX_ 100 W.K e.2=some r0 from f2]
 rw[hst];have hsd:swl (dW W).K (dbE e)=dbE (cB_ l0 r0):=hsw.1;rw[hsd] at S ha;rw[hsw.1];have N1:NI ⟨W.K,es,W.fresh⟩:=⟨fun x hx=>N.lf x (by rw[hl];simp[hx]),N.kv⟩;exact qc_ C (W:=⟨W.K,es,W.fresh⟩) N1 D1 hsw.2.1.1 hsw.2.1.2 hsw.2.2.1 hsw.2.2.2 S ha
inductive Rn (W:Wk):Nat→Wk→Prop
 | zero:Rn W 0 W
 | succ (k:Nat) (W' W'':Wk) (e:EqT) (es:List EqT) (h:Rn W k W') (hl:W'.left=e :: es) (hs:er_ 100 ⟨W'.K,es,W'.fresh⟩ e=some (.ok W'')) (hlen:W''.left.length≤500000000000)
  (hd:Dst ⟨W'.K,es.map dbE,W'.fresh⟩ (swl W'.K (dbE e)).1 (swl W'.K (dbE e)).2 (.ok (dW W''))):Rn W (k+1) W''
theorem dz_ {n:Nat}{W W':Wk}{e:EqT}{es:List EqT}{res:Except Nat Kn}(hl:W.left=e :: es)(hs:er_ 100 ⟨W.K,es,W.fresh⟩ e=some (.ok W'))(hlen:W'.left.length≤500000000000)(h:de_ 100 n W'=some res):de_ 100 (n+1) W=some res:=by
 rw[de_,hl];simp only;rw[show er_ 100 { W with left:=es } e=some (.ok W') from hs];simp only;rw[if_pos hlen,h]
theorem Rn.run {W W':Wk}{k:Nat}(h:Rn W k W'):∀ (n:Nat) (res:Except Nat Kn),de_ 100 n W'=some res∧jk_ (dW W') res→de_ 100 (k+n) W=some res∧jk_ (dW W) res:=by
 induction h with
 | zero=>intro n res h;rw[Nat.zero_add];exact h
 | succ k W' W'' e es h hl hs hlen hd ih =>
  intro n res hr;have:=ih (n+1) res ⟨dz_ hl hs hlen hr.1,.step _ _ (dbE e) (es.map dbE) _ (by show W'.left.map dbE=_;rw[hl];rfl) hd hr.2⟩;rw[show k+1+n=k+(n+1) from by omega];exact this
theorem kn_ {f:Int→Ty}{B:Nat} : ∀ es:List EqT,(∀ e∈es,(fl f e.1).size≤B∧(fl f e.2).size≤B)→phi f es≤es.length*(2*B):=by
 intro es
 induction es with
 | nil=>intro _;exact Nat.zero_le _
 | cons e es ih =>
  intro h;rw[dR_,List.length_cons,Nat.add_mul];have:=ih fun x hx=>h x (by simp[hx]);have:=h e (by simp);omega
theorem iQ_ (C:Co L n NL A0){W:Wk}(D:DI L n NL A0 W){s:Ty}(hs:Qs L n s):(fl (sg W.K) s).size≤LIM:=by
 have h1:=fy_ (f:=sg W.K) (fun x _=>(D.kr x).imp (fun h2=>by
  rw[c4_ (D.ko.facts.pr x).dw h2];exact aC_ _) id) hs
 have h2:2 ^ sm L n≤2 ^ 24:=Nat.pow_le_pow_right (by omega) C.sn;have h3:(2:Nat) ^ 24=16777216:=by decide
 unfold LIM;omega
theorem rN_ (C:Co L n NL A0){W:Wk}(N:NI W)(D:DI L n NL A0 (dW W))(hQ:∀ e∈(dW W).left,Qs L n e.1∧Qs L n e.2)(h8:(dW W).left.length≤16):∀ k:Nat,(∃ j res,j≤k∧(∀ K,res=.ok K→∀ x u,lkK K x=some u→Std u∧aY_ u)∧de_ 100 j W=some res∧jk_ (dW W) res)∨∃ W',Rn W k W'∧NI W'∧DI L n NL A0 (dW W')∧∀ f,Ext f W'.K→Ext f W.K∧phi f (dW W').left+k≤phi f (dW W).left:=by
 intro k;have hB:∀ W':Wk,DI L n NL A0 W'→phi (sg W'.K) (dW W).left≤16*(2*LIM):=fun W' D' =>
  cj_ (kn_ _ fun e he=>⟨iQ_ C D' (hQ e he).1,iQ_ C D' (hQ e he).2⟩) (Nat.mul_le_mul_right _ h8)
 induction k with
 | zero=>exact .inr ⟨W,.zero,N,D,fun f hf=>⟨hf,aC_ _⟩⟩
 | succ k ih =>
  rcases ih with ⟨j,res,hj,h⟩|⟨W',hr,N',D',hp⟩
  ·exact .inl ⟨j,res,by omega,h⟩
  ·cases hl:W'.left with
   | nil =>
    have h1:de_ 100 1 W'=some (.ok W'.K):=(by rw[de_,hl]);obtain⟨a,b⟩:=hr.run 1 (.ok W'.K) ⟨h1,.done (dW W') (by show W'.left.map dbE=[];rw[hl];rfl)⟩;exact .inl ⟨k+1,_,aC_ _,(fun K e=>by injection e with e;rw[← e];exact N'.kv),a,b⟩
   | cons e es =>
    have hdl:(dW W').left=dbE e :: es.map dbE:=by show W'.left.map dbE=_;rw[hl];rfl
    obtain⟨D1,S,ha⟩:=D'.cut hdl
    rcases j6_ C N' D' hl with ⟨er,hs,hd⟩|⟨W'',hs,N'',hd⟩
    ·have h1:de_ 100 1 W'=some (.error er):=by
      rw[de_,hl];simp only;rw[show er_ 100 { W' with left:=es } e=some (.error er) from hs]
     obtain⟨a,b⟩:=hr.run 1 (.error er) ⟨h1,.err (dW W') (dbE e) (es.map dbE) er hdl hd⟩;exact .inl ⟨k+1,_,aC_ _,(fun K e=>by cases e),a,b⟩
    ·have D'':=hd.inv D1 S ha
     have hext:∀ f,Ext f W''.K→Ext f W'.K:=fun f hf=>hd.ext D1 S hf;have hphi:∀ f,Ext f W''.K→phi f (dW W'').left+1≤phi f (dW W').left:=fun f hf=>by
      have h1:=hd.phi S f;have he:=hext f hf;rw[hdl,dR_];have h2:(fl f (swl W'.K (dbE e)).1).size+(fl f (swl W'.K (dbE e)).2).size=(fl f (dbE e).1).size+(fl f (dbE e).2).size:=by
       unfold swl
       rcases eN_ (fl (sg W'.K) (dbE e).1) (fl (sg W'.K) (dbE e).2) with h|h<;>rw[h]<;>simp only<;>rw[f0_ he,f0_ he]
       omega
      have h3:phi f (dW W'').left+1≤phi f (es.map dbE)+(fl f (swl W'.K (dbE e)).1).size+(fl f (swl W'.K (dbE e)).2).size:=h1;omega
     have hall:∀ f,Ext f W''.K→Ext f W.K∧phi f (dW W'').left+(k+1)≤phi f (dW W).left:=fun f hf=>by
      have h1:=hp f (hext f hf);have h2:=hphi f hf;exact⟨h1.1,by omega⟩
     by_cases hlen:W''.left.length≤500000000000
     ·exact .inr ⟨W'',.succ k W' W'' e es hr hl hs hlen hd,N'',D'',hall⟩
     ·exfalso
      have hf:=D''.ko.facts;have h1:=(hall (sg W''.K) hf.ext).2;have h2:=jz_ (sg W''.K) (dW W'').left;have h3:(dW W'').left.length=W''.left.length:=by show (List.map _ _).length=_;rw[List.length_map]
      have h4:=hB (dW W'') D'';have h5:phi (sg W''.K) (dW W).left≤16*(2*LIM):=h4;unfold LIM at h5;omega
theorem mj_ (C:Co L n NL A0){W:Wk}(N:NI W)(D:DI L n NL A0 (dW W))(hQ:∀ e∈(dW W).left,Qs L n e.1∧Qs L n e.2)(h8:(dW W).left.length≤16):∃ j res,j≤100000000000∧(∀ K,res=.ok K→∀ x u,lkK K x=some u→Std u∧aY_ u)∧de_ 100 j W=some res∧jk_ (dW W) res:=by
 rcases rN_ C N D hQ h8 100000000000 with h|⟨W',hr,N',D',hp⟩
 ·exact h
 ·exfalso
  have h1:=(hp (sg W'.K) D'.ko.facts.ext).2;have h2:phi (sg W'.K) (dW W).left≤16*(2*LIM):=cj_ (kn_ _ fun e he=>⟨iQ_ C D' (hQ e he).1,iQ_ C D' (hQ e he).2⟩) (Nat.mul_le_mul_right _ h8);unfold LIM at h2;omega
def cD_ (K:Kn):Kn:=(b4_ K).map fun m=>(m,sg K m)
theorem rU_ (C:Co L n NL A0){W:Wk}(kv:∀ x u,lkK W.K x=some u→Std u∧aY_ u)(D:DI L n NL A0 W):∀ ms:List Int,(∀ m∈ms,lkK W.K m≠none)→jm_ 100 W.K ms=some (ms.map fun m=>(m,sg W.K m)):=by
 intro ms
 induction ms with
 | nil=>intro _;rfl
 | cons m ms ih =>
  intro h;have hkl:=D.klen;have hll:=C.ll;have hnl:=C.nl;have hfr:W.fresh≤A0:=by have:=D.fr;omega
  rw[jm_];cases hu:lkK W.K m with
  | none=>exact absurd hu (h m (by simp))
  | some u =>
   simp only;obtain⟨us,ug⟩:=kv m u hu;obtain⟨e1,_,up⟩:=D.ko.facts.bnd m u hu;have ed:dbT [] u=u:=bJ_ u us up.no5;have hvu:Al (VOk NL W.fresh) u:=fQ_ (f:=sg W.K) (fun t l h=>h) (fun t h=>⟨fun h1=>by omega,fun h1=>by omega⟩) u up.dw (by rw[← e1];exact D.kn m);obtain⟨u',a1,a2,a3,a4⟩:=gL_ D.ko kv (NL:=NL) (fr:=W.fresh) (by omega) D.kn 99 0 u (by omega) us ug (fun z _=>rfl) (by rw[ed];exact hvu) (by rw[ed,← e1];exact md_ C D m);rw[show dX_ 100 W.K u=some u' from a1];simp only;rw[ih fun x hx=>h x (by simp[hx])];simp only;rw[ed,← e1] at a2;have hp:dbT [] u'=u':=bJ_ u' a3 ((i9_ u' [] a3).1 (by rw[a2];exact (D.ko.facts.pr m).no5));rw[hp] at a2;rw[a2];rfl
def iz_:Except Nat Kn→Except Nat Kn
 | .error e=>.error e
 | .ok K=>.ok (cD_ K)
end
theorem sf_ {s:ByteArray}(h:LexN s):NmW s.data.toList∧e0_ s=false∧s.size≠0:=by
 obtain⟨h1,h2,h3⟩:=h;have hne:=kw_ h1;have hh:∀ c:UInt8,aP_ c=true→inW c=true:=fun c hc=>by
  unfold inW;rw[Bool.not_eq_true',Bool.or_eq_false_iff,Bool.or_eq_false_iff,Bool.or_eq_false_iff,Bool.or_eq_false_iff];simp only[beq_eq_false_iff_ne];refine⟨⟨⟨⟨?_,?_⟩,?_⟩,?_⟩,?_⟩<;>(rintro rfl;exact absurd hc (by decide))
 refine⟨⟨⟨hne,fun c hc=>hh c (h1.inner c hc)⟩,gy_ h2,fun e=>?_,fun e=>?_⟩,?_,fun e=>hne ?_⟩
 ·rw[e] at h2;exact absurd h2 (by decide)
 ·rw[e] at h3;exact absurd h3 (by decide)
 ·unfold e0_
  rw[beq_eq_false_iff_ne];intro e;rw[e] at h2;exact absurd h2 (by decide)
 ·exact List.eq_nil_of_length_eq_zero (by rw[Array.length_toList];exact e)
theorem kA_ {t:Ty}(h:Mk t):∀ s∈ai_ t,NmW s.data.toList∧e0_ s=false∧s.size≠0:=by
 have key:∀ t:Ty,Mk t→∀ s,fvT s t→LexN s:=by
  intro t
  induction t using Ty.ind with
  | h t ih =>
   intro h s hf
   rcases (aD_ s t).1 hf with ⟨h1,rfl⟩|⟨⟨a,ha,hfa⟩,_⟩
   ·exact ((cs_ t).1 h.2).1.1 (.inl h1)
   ·exact ih a ha ⟨h.1.args a ha,((cs_ t).1 h.2).2 a ha⟩ s hfa
 intro s hs;have hl:=key t h s ((bm_ s t).1 hs);exact sf_ hl
end Go.Proofs.YtjecnionbjlncaaGreatDoor.Tp

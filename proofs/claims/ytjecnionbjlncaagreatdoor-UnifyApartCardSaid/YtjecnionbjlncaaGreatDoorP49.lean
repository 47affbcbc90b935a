/- Packed. -/
import Derived.Test.YtjecnionbjlncaaGreatDoorP47
set_option maxRecDepth 100000
set_option maxHeartbeats 6400000
namespace Go.Proofs.YtjecnionbjlncaaGreatDoor.Tp
section
open Lx
theorem j7_ {NL:List ByteArray}{A0:Nat}(hnl:NL.length+A0≤2000000)(ha0:A0<1000000)(nn:lI_ NL){W:Wk}(N:NI W){l r:Ty}(sl:Std l)(gl:aY_ l)(sr:Std r)(gr:aY_ r)(unb:(dbT [] l).kind=2→lkK W.K (dbT [] l).n=none)(vl:Al (VOk NL W.fresh) (dbT [] l))(vr:Al (VOk NL W.fresh) (dbT [] r))(zl:(dbT [] l).size≤LIM)(zr:(dbT [] r).size≤LIM)(hfr:W.fresh<A0) :
  (∃ er,f9_ W l r=some (.error er)∧Dst (dW W) (dbT [] l) (dbT [] r) (.error er))∨∃ W',f9_ W l r=some (.ok W')∧NI W'∧Dst (dW W) (dbT [] l) (dbT [] r) (.ok (dW W')):=by
 obtain⟨a1,a2,a3,a4⟩:=eI_ sl;obtain⟨b1,b2,b3,b4⟩:=eI_ sr;have hcan:=dK_ sl sr (d7_ nn vl) (d7_ nn vr);unfold f9_
 by_cases hc:aM_ l=aM_ r
 ·rw[if_pos hc]
  exact .inr ⟨W,rfl,N,.same (hcan.1 hc)⟩
 rw[if_neg hc];have hne:dbT [] l≠dbT [] r:=fun e=>hc (hcan.2 e)
 by_cases h2:l.kind=2
 ·rw[if_pos h2]
  have k2:(dbT [] l).kind=2:=by rw[a1];exact h2
  have e2:=unb k2;rw[a2] at e2;have hcond:((lkK W.K l.n).isSome || (Tp.ai_ r).any fun s=>s.size==0)=false:=by
   rw[show lkK W.K l.n=none from e2,Option.isSome_none,Bool.false_or,List.any_eq_false];intro s hs;have hw:s.data.toList≠[]:=by
    rcases f7_ sr vr hs with h|⟨j,_,h⟩
    ·exact (nn _ h).2.1.1
    ·rw[h];exact (kJ_ j).1.1
   intro h0;apply hw;have h0:s.data.size=0:=by simpa using h0
   exact List.eq_nil_of_length_eq_zero (by simpa using h0)
  rw[if_neg (by rw[hcond];simp)];unfold hv_;have hoc:l.n∈ap_ r↔oc (dbT [] l).n (dbT [] r)≠0:=by rw[a2];exact aT_ sr
  by_cases hm:l.n∈ap_ r
  ·rw[if_pos (by simpa using hm)]
   exact .inl ⟨41,rfl,.occurs hne k2 (hoc.1 hm)⟩
  ·rw[if_neg (by simpa using hm)]
   have ho:oc (dbT [] l).n (dbT [] r)=0:=Classical.byContradiction fun h=>hm (hoc.2 h);cases hp:eR_ r with
   | true =>
    rw[if_pos rfl];refine .inl ⟨42,rfl,.poly hne k2 ho fun h=>?_⟩;rw[i9_ r [] sr,← fG_,hp] at h;cases h
   | false =>
    rw[if_neg (by decide)];have n5:Al (fun t=>t.kind≠5) r:=(fG_ r).1 hp;have er:=bJ_ r sr n5;cases hd:fX_ (Tp.ai_ r) with
    | true =>
     rw[if_pos rfl];refine .inl ⟨43,rfl,.esc hne k2 ho (by rw[er];exact n5) fun h=>?_⟩;rw[er,← fd_ r sr n5,← cF_,hd] at h;cases h
    | false =>
     rw[if_neg (by decide)];have nd:Al (fun t=>t.kind=1→e0_ t.name=false) r:=(fd_ r sr n5).1 ((cF_).1 hd);have hpr:Pr (dbT [] r):=by
      have h1:=d6_ r [] sr;rw[er] at h1 ⊢;exact (h1.and (n5.and ((l9_ r sr).and nd))).imp fun _ h=>h
     refine .inr ⟨⟨W.K++[(l.n,r)],W.left,W.fresh⟩,rfl,⟨N.lf,fun x u hx=>?_⟩,?_⟩
     ·by_cases ex:l.n=x
      ·subst ex
       have:=(bM_ (show lkK W.K l.n=none from e2) r).symm.trans hx;injection this with this
       subst this;exact⟨sr,gr⟩
      ·exact N.kv x u ((bf_ ex).symm.trans hx)
     ·have h:=Dst.learn (W:=dW W) hne k2 ho hpr
      rw[a2] at h;have e4:(⟨(dW W).K++[(l.n,dbT [] r)],(dW W).left,(dW W).fresh⟩:Wk)=dW ⟨W.K++[(l.n,r)],W.left,W.fresh⟩:=by rw[er];rfl
      rw[e4] at h;exact h
 rw[if_neg h2];have k2:(dbT [] l).kind≠2:=by rw[a1];exact h2
 cases hcl:bg_ l r with
 | true =>
  rw[if_pos rfl];exact .inl ⟨40,rfl,.clash hne k2 (by rw[gf_ sl sr];exact hcl)⟩
 | false =>
  rw[if_neg (by decide)];have hcl':bg_ (dbT [] l) (dbT [] r)=false:=by rw[gf_ sl sr];exact hcl
  have hk:l.kind=r.kind:=(cz_ hcl).1
  by_cases h5:l.kind=5
  ·rw[if_pos h5]
   have k5:(dbT [] l).kind=5:=by rw[a1];exact h5
   obtain⟨x,hx,_⟩:=dw_ sl h5;obtain⟨y,hy,_⟩:=dw_ sr (hk ▸ h5);have dl:(dbT [] l).args=[dbT [l.name] x]:=by rw[aK_ _ _ h5];show List.map _ _=_;rw[hx];rfl
   have dr:(dbT [] r).args=[dbT [r.name] y]:=by rw[aK_ _ _ (hk ▸ h5)];show List.map _ _=_;rw[hy];rfl
   have ol:=gQ_ (bo_ W.fresh) sl hx;have or_:=gQ_ (bo_ W.fresh) sr hy;have vx:∀ {t x:Ty},Std t→t.kind=5→t.args=[x]→Al (VOk NL W.fresh) (dbT [] t)→Al (VOk NL (W.fresh+1)) (dbT [] (opT t (bo_ W.fresh))):=by
    intro t x st t5 hx h1;rw[gQ_ _ st hx];refine rd_ (ed_ _ _) _ ⟨fun _=>.inr ⟨_,by omega,rfl⟩,fun h=>absurd (show (1:Int)=3 from h) (by decide)⟩ _ 0 ?_;rw[aK_ _ _ t5] at h1;exact (h1.arg (a:=dbT [t.name] x) (by rw[hx];exact List.mem_singleton.2 rfl)).imp fun t=>dc_ (Nat.le_succ _) t
   have sz:∀ {t x:Ty},Std t→t.kind=5→t.args=[x]→Al (VOk NL W.fresh) (dbT [] t)→(dbT [] t).size≤LIM→smB (opT t (bo_ W.fresh))=true:=by
    intro t x st t5 hx h1 h4;refine lZ_ (NL:=NL) (fr:=W.fresh+1) (by omega) (fw_ _ st hx) ⟨?_,vx st t5 hx h1⟩;rw[gQ_ _ st hx,jA_ _ _ _ (d6_ x _ (st.args x (by rw[hx];simp)))];rw[aK_ _ _ t5,Ty.size_eq] at h4;have h5:af_ (t.args.map (dbT [t.name]))+1≤LIM:=h4;rw[hx] at h5;simp only[List.map_cons,List.map_nil,af_] at h5;omega
   have s1:=sz sl h5 hx vl zl;have s2:=sz sr (hk ▸ h5) hy vr zr;rw[s1,s2];simp only[Bool.and_self,Bool.true_and];rw[if_pos (decide_eq_true (by omega))];have gt:∀ {t x:Ty},Std t→aY_ t→t.kind=5→t.args=[x]→(dbT [] t).size≤LIM→aY_ (opT t (bo_ W.fresh)):=by
    intro t x st gt t5 hx hz;have e:opT t (bo_ W.fresh)=f6_ t.name (.mk 1 (bo_ W.fresh) 0 []) x:=by unfold opT cm_;rw[hx]
    rw[cJ_ t st,t.size_eq,hx] at hz;simp only[af_] at hz;unfold LIM at hz;rw[e];exact g0_ t.name (.mk 1 (bo_ W.fresh) 0 []) x (aR_ gt _ (by rw[hx];simp)) (gd_ _ (fk_ _ (by omega))) (by omega) (by show (1:Nat)≤_;omega)
   refine .inr ⟨_,rfl,⟨fun e he=>?_,N.kv⟩,?_⟩
   ·rcases List.mem_cons.1 he with rfl|he
    ·exact⟨⟨fw_ _ sl hx,gt sl gl h5 hx zl⟩,fw_ _ sr hy,gt sr gr (hk ▸ h5) hy zr⟩
    ·exact N.lf e he
   ·have h:=Dst.opn (W:=dW W) hne k5 hcl' _ _ dl dr
    have e5:(⟨(dW W).K,(opB (bo_ (dW W).fresh) 0 (dbT [l.name] x),opB (bo_ (dW W).fresh) 0 (dbT [r.name] y)) :: (dW W).left,(dW W).fresh+1⟩:Wk)=dW ⟨W.K,(opT l (bo_ W.fresh),opT r (bo_ W.fresh)) :: W.left,W.fresh+1⟩:=by
     show _=Wk.mk W.K (List.map dbE (_ :: W.left)) (W.fresh+1);rw[List.map_cons];show _=Wk.mk W.K ((dbT [] (opT l (bo_ W.fresh)),dbT [] (opT r (bo_ W.fresh))) :: _) _;rw[ol,or_];rfl
    rw[e5] at h;exact h
  ·rw[if_neg h5]
   have h1:l.kind≠1:=(cz_ hcl).2.1;refine .inr ⟨_,rfl,⟨fun e he=>?_,N.kv⟩,?_⟩
   ·rcases List.mem_append.1 he with he|he
    ·have hz:=List.of_mem_zip (show (e.1,e.2)∈_ from he)
     exact⟨⟨sl.args _ hz.1,aR_ gl _ hz.1⟩,sr.args _ hz.2,aR_ gr _ hz.2⟩
    ·exact N.lf e he
   ·have hk2:=sl.kind
    have h:=Dst.parts (W:=dW W) hne k2 (by rw[a1];exact h5) (by rw[a1];omega) hcl';have e5:(⟨(dW W).K,(dbT [] l).args.zip (dbT [] r).args++(dW W).left,(dW W).fresh⟩:Wk)=dW ⟨W.K,l.args.zip r.args++W.left,W.fresh⟩:=by
     show _=Wk.mk W.K (List.map dbE (_++W.left)) W.fresh;rw[List.map_append,az_ _ l h1 h5,az_ _ r (hk ▸ h1) (hk ▸ h5)];show Wk.mk W.K ((l.args.map (dbT [])).zip (r.args.map (dbT []))++_) _=_;rw[List.zip_map];rfl
    rw[e5] at h;exact h
theorem qb_ {NL:List ByteArray}{A0:Nat}(hnl:NL.length+A0≤2000000)(ha0:A0<1000000)(nn:lI_ NL){W:Wk}(N:NI W)(ko:KO W.K)(kn:∀ x,Al (VOk NL W.fresh) (sg W.K x))(hkl:W.K.length≤90)(hfr:W.fresh<A0){e:EqT}{es:List EqT}(hl:W.left=e :: es)
  (v1:Al (VOk NL W.fresh) (dbT [] e.1)) (v2:Al (VOk NL W.fresh) (dbT [] e.2)) (z1:(fl (sg W.K) (dbT [] e.1)).size≤LIM) (z2:(fl (sg W.K) (dbT [] e.2)).size≤LIM) :
  (∃ er,er_ 100 ⟨W.K,es,W.fresh⟩ e=some (.error er)∧Dst ⟨W.K,es.map dbE,W.fresh⟩ (swl W.K (dbE e)).1 (swl W.K (dbE e)).2 (.error er)) ∨
  ∃ W',er_ 100 ⟨W.K,es,W.fresh⟩ e=some (.ok W')∧NI W'∧Dst ⟨W.K,es.map dbE,W.fresh⟩ (swl W.K (dbE e)).1 (swl W.K (dbE e)).2 (.ok (dW W')):=by
 have hN:=N.lf e (by rw[hl];simp);obtain⟨l0,f1,d1,s1,g1⟩:=gL_ ko N.kv (NL:=NL) (fr:=W.fresh) (by omega) kn 99 0 e.1 (by omega) hN.1.1 hN.1.2 (fun z _=>rfl) v1 z1;obtain⟨r0,f2,d2,s2,g2⟩:=gL_ ko N.kv (NL:=NL) (fr:=W.fresh) (by omega) kn 99 0 e.2 (by omega) hN.2.1 hN.2.2 (fun z _=>rfl) v2 z2;have hsw:swl W.K (dbE e)=dbE (cB_ l0 r0)∧(Std (cB_ l0 r0).1∧aY_ (cB_ l0 r0).1)∧Std (cB_ l0 r0).2∧aY_ (cB_ l0 r0).2:=by
  obtain⟨a1,a2,_,_⟩:=eI_ s1;obtain⟨b1,b2,_,_⟩:=eI_ s2;unfold swl;show cB_ (fl (sg W.K) (dbT [] e.1)) (fl (sg W.K) (dbT [] e.2))=_∧_;rw[show fl (sg W.K) (dbT [] e.1)=dbT [] l0 from d1.symm,show fl (sg W.K) (dbT [] e.2)=dbT [] r0 from d2.symm];unfold cB_;rw[a1,a2,b1,b2]
  by_cases hc:r0.kind=2∧(l0.kind≠2∨l0.n<r0.n)
  ·rw[if_pos hc,if_pos hc];exact⟨rfl,⟨s2,g2⟩,s1,g1⟩
  ·rw[if_neg hc,if_neg hc];exact⟨rfl,⟨s1,g1⟩,s2,g2⟩
 have hst:er_ 100 ⟨W.K,es,W.fresh⟩ e=f9_ ⟨W.K,es,W.fresh⟩ (cB_ l0 r0).1 (cB_ l0 r0).2:=by
  unfold er_;rw[show dX_ 100 W.K e.1=some l0 from f1,show dX_ 100 W.K e.2=some r0 from f2]
 rw[hst];have w1:Al (VOk NL W.fresh) (dbT [] l0):=by rw[d1];exact f5_ (ed_ _ _) _ v1 fun m _=>kn m
 have w2:Al (VOk NL W.fresh) (dbT [] r0):=by rw[d2];exact f5_ (ed_ _ _) _ v2 fun m _=>kn m
 rw[← d1] at z1;rw[← d2] at z2;have u1:(dbT [] l0).kind=2→lkK W.K (dbT [] l0).n=none:=fun h=>(ko.facts.freeT (t:=dbT [] e.1) (by rw[← d1];exact c2_ h)).2;have u2:(dbT [] r0).kind=2→lkK W.K (dbT [] r0).n=none:=fun h=>(ko.facts.freeT (t:=dbT [] e.2) (by rw[← d2];exact c2_ h)).2;rw[hsw.1];have N1:NI ⟨W.K,es,W.fresh⟩:=⟨fun x hx=>N.lf x (by rw[hl];simp[hx]),N.kv⟩
 rcases eN_ l0 r0 with e|e
 ·rw[e]
  exact j7_ hnl ha0 nn (W:=⟨W.K,es,W.fresh⟩) N1 s1 g1 s2 g2 u1 w1 w2 z1 z2 hfr
 ·rw[e]
  exact j7_ hnl ha0 nn (W:=⟨W.K,es,W.fresh⟩) N1 s2 g2 s1 g1 u2 w2 w1 z2 z1 hfr
end
section
open Go.RowKit
def eqK (R:Kn):List EqT:=R.map fun x=>(mt x.1,x.2)
theorem iJ_ {d:Nat} : ∀ {n:Nat} (m:Nat) {W:Wk} {res:Except Nat Kn},de_ d n W=some res→de_ d (n+m) W=some res
 | 0,_,_,_,h=>by cases h
 | n+1,m,W,res,h=>by
  rw[show n+1+m=(n+m)+1 from by omega];rw[de_] at h ⊢;cases hl:W.left with
  | nil=>rw[hl] at h;exact h
  | cons e es =>
   rw[hl] at h;simp only at h ⊢;cases hs:er_ d { W with left:=es } e with
   | none=>rw[hs] at h;cases h
   | some r =>
    rw[hs] at h;cases r with
    | error er=>exact h
    | ok W' =>
     simp only at h ⊢
     by_cases hc:W'.left.length≤500000000000
     ·rw[if_pos hc] at h ⊢;exact iJ_ m h
     ·rw[if_neg hc] at h;cases h
theorem l6_ {W W':Wk}{l r:Ty}(bs:List EqT)(h:f9_ W l r=some (.ok W')):f9_ ⟨W.K,W.left++bs,W.fresh⟩ l r=some (.ok ⟨W'.K,W'.left++bs,W'.fresh⟩):=by
 unfold f9_ at h ⊢
 by_cases h1:aM_ l=aM_ r
 ·rw[if_pos h1] at h ⊢;injection h with h;injection h with h;subst h;rfl
 rw[if_neg h1] at h ⊢
 by_cases h2:l.kind=2
 ·rw[if_pos h2] at h ⊢
  by_cases h3:((lkK W.K l.n).isSome || (ai_ r).any (fun s=>s.size==0))=true
  ·rw[if_pos h3] at h;cases h
  ·rw[if_neg h3] at h ⊢
   simp only at h ⊢;cases hl:hv_ W.K l.n r with
   | error e=>rw[hl] at h;injection h with h;cases h
   | ok K=>rw[hl] at h;injection h with h;injection h with h;subst h;rfl
 rw[if_neg h2] at h ⊢
 by_cases h3:bg_ l r=true
 ·rw[if_pos h3] at h;cases h
 rw[if_neg h3] at h ⊢
 by_cases h4:l.kind=5
 ·rw[if_pos h4] at h ⊢
  simp only at h ⊢
  by_cases h5:(smB (opT l (bo_ W.fresh))&&smB (opT r (bo_ W.fresh))&&decide (W.fresh<1000000))=true
  ·rw[if_pos h5] at h ⊢;injection h with h;injection h with h;subst h;rfl
  ·rw[if_neg h5] at h;cases h
 ·rw[if_neg h4] at h ⊢
  injection h with h;injection h with h;subst h
  simp
theorem iD_ {d:Nat}{W W':Wk}{e:EqT}(bs:List EqT)(h:er_ d W e=some (.ok W')):er_ d ⟨W.K,W.left++bs,W.fresh⟩ e=some (.ok ⟨W'.K,W'.left++bs,W'.fresh⟩):=by
 unfold er_ at h ⊢;simp only at h ⊢;cases h1:dX_ d W.K e.1 with
 | none=>rw[h1] at h;cases h
 | some l =>
  rw[h1] at h;simp only at h ⊢;cases h2:dX_ d W.K e.2 with
  | none=>rw[h2] at h;cases h
  | some r=>rw[h2] at h;exact l6_ bs h
section
variable {L : List Int} {n : Int → Nat} {NL : List ByteArray} {A0 : Nat}
theorem n7_ (C:Co L n NL A0){f:Int→Ty}(hf:PrF f):∀ (j:Nat) (W:Wk) (K:Kn),NI W→DI L n NL A0 (dW W)→lF_ f (dW W)→phi f (dW W).left≤100000000000→de_ 100 j W=some (.ok K) →
  ∃ fr,(NI ⟨K,[],fr⟩∧DI L n NL A0 (dW ⟨K,[],fr⟩))∧∀ (bs:List EqT) (m:Nat) (res:Except Nat Kn),bs.length≤100000000000→de_ 100 m ⟨K,bs,fr⟩=some res→de_ 100 (j+m) ⟨W.K,W.left++bs,W.fresh⟩=some res:=by
 intro j
 induction j with
 | zero=>intro W K _ _ _ _ h;cases h
 | succ j ih =>
  intro W K N D hs hp h;rw[de_] at h;cases hl:W.left with
  | nil =>
   rw[hl] at h;injection h with h
   injection h with h
   subst h;have e:W=⟨W.K,[],W.fresh⟩:=(by rw[← hl]);refine⟨W.fresh,⟨by rw[← e];exact N,by rw[← e];exact D⟩,fun bs m res _ hr=>?_⟩;rw[show j+1+m=m+(j+1) from by omega];exact iJ_ _ hr
  | cons e es =>
   rw[hl] at h;simp only at h;have hdl:(dW W).left=dbE e :: es.map dbE:=by show W.left.map dbE=_;rw[hl];rfl
   obtain⟨D1,S,ha⟩:=D.cut hdl
   rcases j6_ C N D hl with ⟨er,h1,_⟩|⟨W',h1,N',hd⟩
   ·rw[show er_ 100 { W with left:=es } e=some (.error er) from h1] at h
    injection h with h
    cases h
   ·rw[show er_ 100 { W with left:=es } e=some (.ok W') from h1] at h
    simp only at h
    by_cases hc:W'.left.length≤500000000000
    ·rw[if_pos hc] at h
     have D':=hd.inv D1 S ha;have hs':lF_ f (dW W'):=(hd.sol D1 C.nn S hf).1 ((gb_ hdl).1 hs);have he:Ext f W.K:=hs.1;have hphi:phi f (dW W').left+1≤phi f (dW W).left:=by
      have h2:=hd.phi S f;rw[hdl,dR_];have h3:(fl f (swl W.K (dbE e)).1).size+(fl f (swl W.K (dbE e)).2).size=(fl f (dbE e).1).size+(fl f (dbE e).2).size:=by
       unfold swl
       rcases eN_ (fl (sg W.K) (dbE e).1) (fl (sg W.K) (dbE e).2) with h|h<;>rw[h]<;>simp only<;>rw[f0_ he,f0_ he]
       omega
      have h4:phi f (dW W').left+1≤phi f (es.map dbE)+(fl f (swl W.K (dbE e)).1).size+(fl f (swl W.K (dbE e)).2).size:=h2;omega
     obtain⟨fr,hn,hg⟩:=ih W' K N' D' hs' (by omega) h;refine⟨fr,hn,fun bs m res hb hr=>?_⟩;have h2:=hg bs m res hb hr;rw[show j+1+m=(j+m)+1 from by omega];refine dz_ (W:=⟨W.K,e :: es++bs,W.fresh⟩) (e:=e) (es:=es++bs) rfl (iD_ bs h1) ?_ h2;have h3:=jz_ f (dW W').left;have h4:(dW W').left.length=W'.left.length:=by show (List.map _ _).length=_;rw[List.length_map]
     show (W'.left++bs).length≤_;rw[List.length_append];omega
    ·rw[if_neg hc] at h;cases h
theorem jM_ (d:Nat)(K:Kn)(t:Ty)(h:∀ m∈ap_ t,lkK K m=none):dX_ (d+1) K t=some t:=by
 rw[dX_];have:∀ ms:List Int,(∀ m∈ms,lkK K m=none)→dH_ (dX_ d K) K ms t=some t:=by
  intro ms
  induction ms with
  | nil=>intro _;rfl
  | cons m ms ih =>
   intro h;rw[dH_,h m (by simp)];exact ih fun x hx=>h x (by simp[hx])
 exact this _ h
end
section
variable {es : List EqT} {K : Kn}
theorem Kd.out_key (_D:Kd es K){m:Int}(h:m∈(cD_ K).map fun x=>x.1):lkK K m≠none:=by
 obtain⟨x,hx,rfl⟩:=List.mem_map.1 h;obtain⟨y,hy,rfl⟩:=List.mem_map.1 hx;exact dV_.1 hy
theorem Kd.out_free (D:Kd es K)(x m:Int)(hm:m∈ap_ (sg K x))(P:Kn)(hP:∀ y∈P,y∈cD_ K):lkK P m=none:=by
 rw[bh_];intro h;have h1:=(D.ko.facts.free ((cE_ (D.ko.facts.pr x).dw).1 hm)).2;obtain⟨y,hy,e⟩:=List.mem_map.1 h;exact D.out_key (List.mem_map.2 ⟨y,hP y hy,e⟩) h1
theorem Kd.learns (E:Es es)(D:Kd es K):∀ S P:Kn,P++S=cD_ K→de_ 100 (S.length+1) ⟨P,eqK S,0⟩=some (.ok (cD_ K)):=by
 intro S
 induction S with
 | nil=>intro P h;rw[List.append_nil] at h;subst h;rfl
 | cons x S ih =>
  intro P h;have hx:x∈cD_ K:=by rw[← h];simp
  obtain⟨⟨fr,hf,hn⟩,h0,h1,e,_,hm⟩:=D.mem E x hx;have hF:=D.ko.facts;have hkey:=D.out_key (List.mem_map.2 ⟨x,hx,rfl⟩);have hPm:∀ y∈P,y∈cD_ K:=fun y hy=>by rw[← h];simp[hy]
  have hP:lkK P x.1=none:=by
   rw[bh_];intro hh;obtain⟨y,hy,ey⟩:=List.mem_map.1 hh;have hs:=D.sorted;rw[← h,List.pairwise_append] at hs;have:=hs.2.2 y hy x (by simp);omega
  have f1:dX_ 100 P (mt x.1)=some (mt x.1):=jM_ 99 P _ fun m hm=>by
   have:=(cE_ (sn_ x.1)).1 hm;rw[hW_] at this
   split at this
   ·next e=>rw[← e];exact hP
   ·exact absurd rfl this
  have f2:dX_ 100 P x.2=some x.2:=jM_ 99 P _ fun m hm=>D.out_free x.1 m (by rw[← e];exact hm) P hPm;have h5:=(hF.pr x.1).no5;rw[← e] at h5;have hd:=bJ_ x.2 hn.st h5;have hsw:cB_ (mt x.1) x.2=(mt x.1,x.2):=by
   unfold cB_;refine if_neg fun hh=>?_;have hk:=c4_ (by rw[e];exact (hF.pr x.1).dw) hh.1;have ho:=D.ori x.1 x.2.n (by rw[← e];exact hk)
   rcases hh.2 with h2|h2
   ·exact h2 rfl
   ·have h3:x.1<x.2.n:=h2
    omega
  have hne:mt x.1≠x.2:=by
   intro hh;cases hu:lkK K x.1 with
   | none=>exact hkey hu
   | some u=>exact (hF.bnd x.1 u hu).2.1 (by rw[← e];exact hh.symm)
  have hm0:=r3_ (NL:=NLE es) (fr:=fr) h0 (by omega:x.1<1000000000000000000);have hcan:aM_ (mt x.1)≠aM_ x.2:=fun hh=>by
   have:=(dK_ hm0.st hn.st (d7_ (eL_ E) hm0.vn) (d7_ (eL_ E) hn.vn)).1 hh;rw[hd] at this;exact hne this
  have hcond:((lkK P x.1).isSome || (ai_ x.2).any fun s=>s.size==0)=false:=by
   rw[hP,Option.isSome_none,Bool.false_or,List.any_eq_false];intro s hs;have hw:s.data.toList≠[]:=by
    rcases f7_ hn.st hn.vn hs with h|⟨j,_,h⟩
    ·exact (eL_ E _ h).2.1.1
    ·rw[h];exact (kJ_ j).1.1
   intro h0;apply hw;have h0:s.data.size=0:=by simpa using h0
   exact List.eq_nil_of_length_eq_zero (by simpa using h0)
  have hl:hv_ P x.1 x.2=.ok (P++[x]):=by
   unfold hv_;rw[if_neg,if_neg,if_neg]
   ·rw[(cF_).2 ((fd_ x.2 hn.st h5).2 (by rw[e];exact (hF.pr x.1).imp fun _ h=>h.2.2.2))];decide
   ·rw[(fG_ x.2).2 h5];decide
   ·rw[List.contains_iff_mem]
    intro hh;rw[e] at hh;exact hkey (hF.free ((cE_ (hF.pr x.1).dw).1 hh)).2
  rw[List.length_cons];refine dz_ (W:=⟨P,(mt x.1,x.2) :: eqK S,0⟩) (e:=(mt x.1,x.2)) (es:=eqK S) rfl (W':=⟨P++[x],eqK S,0⟩) ?_ ?_ (ih (P++[x]) (by rw[← h];simp))
  ·unfold er_
   simp only;rw[f1,f2];simp only;rw[hsw];unfold f9_;rw[if_neg hcan,if_pos (show (mt x.1).kind=2 from rfl),if_neg (by rw[show (mt x.1).n=x.1 from rfl,hcond];decide)];show some (match hv_ P x.1 x.2 with | .error e=>(Except.error e:Except Nat Wk) | .ok K=>.ok ⟨K,eqK S,0⟩)=_;rw[hl]
  ·show (eqK S).length≤_
   have:=D.len E;rw[← h,List.length_append,List.length_cons] at this;unfold eqK;rw[List.length_map];omega
theorem Kd.outs (D:Kd es K):∀ ms:List Int,(∀ m∈ms,lkK (cD_ K) m≠none)→jm_ 100 (cD_ K) ms=some (ms.map fun m=>(m,sg K m)):=by
 intro ms
 induction ms with
 | nil=>intro _;rfl
 | cons m ms ih =>
  intro h;rw[jm_];have h1:=h m (by simp);rw[pF_] at h1 ⊢
  by_cases hk:m∈b4_ K
  ·rw[if_pos hk]
   simp only;rw[jM_ 99 (cD_ K) (sg K m) fun y hy=>D.out_free m y hy _ fun _ h=>h];simp only;rw[ih fun y hy=>h y (by simp[hy])];rfl
  ·rw[if_neg hk] at h1;exact absurd rfl h1
theorem Kd.fresh (E:Es es)(D:Kd es K):∃ R,fT_ 100 ((cD_ K).length+1) (eqK (cD_ K))=some (.ok R)∧R.length=(cD_ K).length:=by
 refine⟨(b4_ (cD_ K)).map fun m=>(m,sg K m),?_,?_⟩
 ·unfold fT_
  rw[D.learns E (cD_ K) [] rfl];simp only;rw[D.outs (b4_ (cD_ K)) fun m hm=>dV_.1 hm]
 ·unfold b4_
  rw[List.length_map,List.length_mergeSort,List.length_map]
end
end
end Go.Proofs.YtjecnionbjlncaaGreatDoor.Tp

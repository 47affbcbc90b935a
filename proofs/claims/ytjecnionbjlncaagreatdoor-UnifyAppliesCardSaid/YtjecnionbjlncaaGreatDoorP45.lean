/- Packed. -/
import Derived.Test.YtjecnionbjlncaaGreatDoorP44
set_option maxRecDepth 100000
set_option maxHeartbeats 6400000
namespace Go.Proofs.YtjecnionbjlncaaGreatDoor.Tp
open Lx
def swl (K:Kn)(e:EqT):EqT:=fm_ (fl (sg K) e.1) (fl (sg K) e.2)
inductive qn_:Wk→Except Nat Kn→Prop
 | done (W:Wk) (h:W.left=[]):qn_ W (.ok W.K)
 | err (W:Wk) (e:EqT) (es:List EqT) (er:Nat) (h:W.left=e :: es) (hd:Dst ⟨W.K,es,W.fresh⟩ (swl W.K e).1 (swl W.K e).2 (.error er)):qn_ W (.error er)
 | step (W W':Wk) (e:EqT) (es:List EqT) (res:Except Nat Kn) (h:W.left=e :: es) (hd:Dst ⟨W.K,es,W.fresh⟩ (swl W.K e).1 (swl W.K e).2 (.ok W')) (hr:qn_ W' res):qn_ W res
section
variable {L : List Int} {n : Int → Nat} {NL : List ByteArray} {A0 : Nat}
theorem DI.cut {W:Wk}{e:EqT}{es:List EqT}(D:DI L n NL A0 W)(h:W.left=e :: es):DI L n NL A0 ⟨W.K,es,W.fresh⟩∧Sd ⟨W.K,es,W.fresh⟩ L n NL (swl W.K e).1 (swl W.K e).2∧W.fresh+acE es+ac (swl W.K e).1+ac (swl W.K e).2≤A0:=by
 have e1:W=⟨W.K,e :: es,W.fresh⟩:=by rw[← h]
 have D1:DI L n NL A0 ⟨W.K,e :: es,W.fresh⟩:=e1 ▸ D;have hlf:=D1.lf e (by simp);refine⟨D1.tail,Sd.of (W:=⟨W.K,es,W.fresh⟩) D1.tail hlf.1 hlf.2,?_⟩;have h0:∀ m,ac (sg W.K m)=0:=fun m=>ac_pr _ (D1.ko.facts.pr m).no5;have h1:=td_ h0 e.1;have h2:=td_ h0 e.2;have h3:=D1.fr;simp only at h3;rw[id_] at h3;unfold swl
 rcases jr_ (fl (sg W.K) e.1) (fl (sg W.K) e.2) with h|h<;>rw[h]<;>simp only<;>omega
theorem hv_ {f:Int→Ty}{W:Wk}{e:EqT}{es:List EqT}(h:W.left=e :: es):ql_ f W↔ql_ f ⟨W.K,es,W.fresh⟩∧fl f (swl W.K e).1=fl f (swl W.K e).2:=by
 unfold ql_;rw[h];have key:Ext f W.K→(fl f e.1=fl f e.2↔fl f (swl W.K e).1=fl f (swl W.K e).2):=fun he=>by
  unfold swl
  rcases jr_ (fl (sg W.K) e.1) (fl (sg W.K) e.2) with h|h<;>rw[h]<;>simp only<;>rw[qg_ he,qg_ he]
  exact⟨fun h=>h.symm,fun h=>h.symm⟩
 constructor
 ·rintro ⟨h1,h2⟩
  exact⟨⟨h1,fun x hx=>h2 x (by simp[hx])⟩,(key h1).1 (h2 e (by simp))⟩
 ·rintro ⟨⟨h1,h2⟩,h3⟩
  refine⟨h1,fun x hx=>?_⟩
  rcases List.mem_cons.1 hx with rfl|hx
  ·exact (key h1).2 h3
  ·exact h2 x hx
theorem qn_.told (hN:r6_ NL){W:Wk}{res:Except Nat Kn}(h:qn_ W res)(D:DI L n NL A0 W):(∀ K,res=.ok K→(∃ fr,DI L n NL A0 ⟨K,[],fr⟩)∧∀ f,PrF f→(ql_ f W↔Ext f K))∧∀ er,res=.error er→∀ f,PrF f→¬ ql_ f W:=by
 induction h with
 | done W h =>
  refine⟨fun K e=>?_,fun er e=>by cases e⟩;injection e with e
  subst e;refine⟨⟨W.fresh,?_⟩,fun f _=>?_⟩
  ·have:W=⟨W.K,[],W.fresh⟩:=by rw[← h]
   exact this ▸ D
  ·unfold ql_;rw[h];simp
 | err W e es er h hd =>
  refine⟨fun K e=>by (cases e),fun er' e' f hf hs=>?_⟩;obtain⟨D1,S,_⟩:=D.cut h;exact hd.err S hf ((hv_ h).1 hs).2
 | step W W' e es res h hd hr ih =>
  obtain⟨D1,S,ha⟩:=D.cut h;obtain⟨i1,i2⟩:=ih (hd.inv D1 S ha);refine⟨fun K e=>⟨(i1 K e).1,fun f hf=>?_⟩,fun er e f hf=>?_⟩
  ·rw[hv_ h,hd.sol D1 hN S hf];exact (i1 K e).2 f hf
  ·rw[hv_ h,hd.sol D1 hN S hf];exact i2 er e f hf
inductive Rn (W:Wk):Nat→Wk→Prop
 | zero:Rn W 0 W
 | succ (k:Nat) (W' W'':Wk) (e:EqT) (es:List EqT) (h:Rn W k W') (hl:W'.left=e :: es) (hs:op_ 100 ⟨W'.K,es,W'.fresh⟩ e=some (.ok W'')) (hlen:W''.left.length≤500000000000)
  (hd:Dst ⟨W'.K,es.map dbE,W'.fresh⟩ (swl W'.K (dbE e)).1 (swl W'.K (dbE e)).2 (.ok (dW W''))):Rn W (k+1) W''
theorem mo_ {n:Nat}{W W':Wk}{e:EqT}{es:List EqT}{res:Except Nat Kn}(hl:W.left=e :: es)(hs:op_ 100 ⟨W.K,es,W.fresh⟩ e=some (.ok W'))(hlen:W'.left.length≤500000000000)(h:jk_ 100 n W'=some res):jk_ 100 (n+1) W=some res:=by
 rw[jk_,hl];simp only;rw[show op_ 100 { W with left:=es } e=some (.ok W') from hs];simp only;rw[if_pos hlen,h]
theorem Rn.run {W W':Wk}{k:Nat}(h:Rn W k W'):∀ (n:Nat) (res:Except Nat Kn),jk_ 100 n W'=some res∧qn_ (dW W') res→jk_ 100 (k+n) W=some res∧qn_ (dW W) res:=by
 induction h with
 | zero=>intro n res h;rw[Nat.zero_add];exact h
 | succ k W' W'' e es h hl hs hlen hd ih =>
  intro n res hr;have:=ih (n+1) res ⟨mo_ hl hs hlen hr.1,.step _ _ (dbE e) (es.map dbE) _ (by show W'.left.map dbE=_;rw[hl];rfl) hd hr.2⟩;rw[show k+1+n=k+(n+1) from by omega];exact this
def iN_ (K:Kn):Kn:=(d6_ K).map fun m=>(m,sg K m)
end
theorem sO_ {s:ByteArray}(h:kR_ s):NmW s.data.toList∧od_ s=false∧s.size≠0:=by
 obtain⟨h1,h2,h3⟩:=h;have hne:=kv_ h1;have hh:∀ c:UInt8,aT_ c=true→inW c=true:=fun c hc=>by
  unfold inW;rw[Bool.not_eq_true',Bool.or_eq_false_iff,Bool.or_eq_false_iff,Bool.or_eq_false_iff,Bool.or_eq_false_iff];simp only[beq_eq_false_iff_ne];refine⟨⟨⟨⟨?_,?_⟩,?_⟩,?_⟩,?_⟩<;>(rintro rfl;exact absurd hc (by decide))
 refine⟨⟨⟨hne,fun c hc=>hh c (h1.inner c hc)⟩,gl_ h2,fun e=>?_,fun e=>?_⟩,?_,fun e=>hne ?_⟩
 ·rw[e] at h2;exact absurd h2 (by decide)
 ·rw[e] at h3;exact absurd h3 (by decide)
 ·unfold od_
  rw[beq_eq_false_iff_ne];intro e;rw[e] at h2;exact absurd h2 (by decide)
 ·exact List.eq_nil_of_length_eq_zero (by rw[Array.length_toList];exact e)
theorem kx_ {t:Ty}(h:Mk t):∀ s∈af_ t,NmW s.data.toList∧od_ s=false∧s.size≠0:=by
 have key:∀ t:Ty,Mk t→∀ s,fvT s t→kR_ s:=by
  intro t
  induction t using Ty.ind with
  | h t ih =>
   intro h s hf
   rcases (aJ_ s t).1 hf with ⟨h1,rfl⟩|⟨⟨a,ha,hfa⟩,_⟩
   ·exact ((bR_ t).1 h.2).1.1 (.inl h1)
   ·exact ih a ha ⟨h.1.args a ha,((bR_ t).1 h.2).2 a ha⟩ s hfa
 intro s hs;have hl:=key t h s ((bb_ s t).1 hs);exact sO_ hl
theorem pk_ {t:Ty}(h:Std t)(h2:t.kind=2):t=mt t.n:=by
 have hd:=d9_ t [] h;rw[f0_ t h (.mk t (by omega) fun a ha=>by rw[(h.k2 h2).2.1] at ha;cases ha)] at hd;exact hd.here.k2 h2
end Go.Proofs.YtjecnionbjlncaaGreatDoor.Tp

/- Packed. -/
import Derived.Test.YtjecnionbjlncaaGreatDoorP43
import Derived.Test.YtjecnionbjlncaaGreatDoorP38
set_option maxRecDepth 100000
set_option maxHeartbeats 6400000
namespace Go.Proofs.YtjecnionbjlncaaGreatDoor.Tp
open Lx
inductive Dst (W:Wk) (l r:Ty):Except Nat Wk→Prop
 | same (h:l=r):Dst W l r (.ok W)
 | occurs (h:l≠r) (h2:l.kind=2) (ho:oc l.n r≠0):Dst W l r (.error 41)
 | poly (h:l≠r) (h2:l.kind=2) (ho:oc l.n r=0) (hp:¬ Al (fun t=>t.kind≠5) r):Dst W l r (.error 42)
 | esc (h:l≠r) (h2:l.kind=2) (ho:oc l.n r=0) (hp:Al (fun t=>t.kind≠5) r) (hd:¬ Al (fun t=>t.kind=1→od_ t.name=false) r):Dst W l r (.error 43)
 | learn (h:l≠r) (h2:l.kind=2) (ho:oc l.n r=0) (hp:Pr r):Dst W l r (.ok ⟨W.K++[(l.n,r)],W.left,W.fresh⟩)
 | clash (h:l≠r) (h2:l.kind≠2) (hc:ce_ l r=true):Dst W l r (.error 40)
 | opn (h:l≠r) (h5:l.kind=5) (hc:ce_ l r=false) (b b':Ty) (hl:l.args=[b]) (hr:r.args=[b']):Dst W l r (.ok ⟨W.K,(opB (dX_ W.fresh) 0 b,opB (dX_ W.fresh) 0 b') :: W.left,W.fresh+1⟩)
 | parts (h:l≠r) (h2:l.kind≠2) (h5:l.kind≠5) (h6:l.kind≠6) (hc:ce_ l r=false):Dst W l r (.ok ⟨W.K,l.args.zip r.args++W.left,W.fresh⟩)
theorem pr_of {t:Ty}(h:Pr t):Al (fun t=>t.kind≠5) t∧Al (fun t=>t.kind=1→od_ t.name=false) t:=⟨h.no5,h.imp fun _ h=>h.2.2.2⟩
def Sw (l r:Ty):Prop:=r.kind=2→l.kind=2∧r.n≤l.n
theorem qC_ (l r:Ty):Sw (fm_ l r).1 (fm_ l r).2:=by
 unfold fm_
 split
 ·next h =>
  intro h2;exact⟨h.1,by rcases h.2 with h3|h3;exact absurd h2 h3;exact Int.le_of_lt h3⟩
 ·next h =>
  intro h2;refine⟨Classical.byContradiction fun hn=>h ⟨h2,.inl hn⟩,?_⟩;have:¬ l.n<r.n:=fun hn=>h ⟨h2,.inr hn⟩;show r.n≤l.n;omega
theorem jr_ (l r:Ty):fm_ l r=(l,r)∨fm_ l r=(r,l):=by
 unfold fm_;split
 ·exact .inr rfl
 ·exact .inl rfl
theorem f3_ {l r:Ty}(h:ce_ l r=false):l.kind=r.kind∧l.kind≠1∧(l.kind≠5→l.name=r.name)∧l.args.length=r.args.length:=by
 unfold ce_ at h;simp only[Bool.or_eq_false_iff,bne_eq_false_iff_eq,beq_eq_false_iff_ne,Bool.and_eq_false_iff,Bool.not_eq_false',aK_] at h;obtain⟨⟨⟨h1,h2⟩,h3⟩,h4⟩:=h;refine⟨h1,h2,fun h5=>?_,h4⟩
 rcases h3 with h3|h3
 ·exact h3
 ·exact absurd h3 h5
mutual
def ac:Ty→Nat
 | .mk k _ _ args=>(if k=5 then 1 else 0)+acL args
def acL:List Ty→Nat
 | []=>0
 | t :: ts=>ac t+acL ts
end
theorem ic_ (t:Ty):ac t=(if t.kind=5 then 1 else 0)+acL t.args:=by
 cases t with
 | mk k s n args=>rw[ac];rfl
theorem nY_ {f:Ty→Ty} : ∀ {l:List Ty},(∀ a∈l,ac (f a)≤ac a)→acL (l.map f)≤acL l:=by
 intro l
 induction l with
 | nil=>intro _;exact aD_ _
 | cons a l ih =>
  intro h;rw[List.map_cons,acL,acL];have:=h a (by simp);have:=ih fun b hb=>h b (by simp[hb]);omega
theorem ac_pr:∀ t:Ty,Al (fun t=>t.kind≠5) t→ac t=0:=by
 intro t
 induction t using Ty.ind with
 | h t ih =>
  intro h;rw[ic_,if_neg h.here];have:∀ l:List Ty,(∀ a∈l,ac a=0)→acL l=0:=by
   intro l
   induction l with
   | nil=>intro _;rfl
   | cons a l ihl=>intro hl;rw[acL,hl a (by simp),ihl fun b hb=>hl b (by simp[hb])]
  rw[this _ fun a ha=>ih a ha (h.arg ha)]
theorem td_ {f:Int→Ty}(hf:∀ m,ac (f m)=0):∀ t:Ty,ac (fl f t)≤ac t:=by
 intro t
 induction t using Ty.ind with
 | h t ih =>
  by_cases h2:t.kind=2
  ·rw[bg_ f h2,hf];exact Nat.zero_le _
  ·rw[aH_ f h2,ic_,ic_ t]
   have:=nY_ (f:=fl f) ih;show (if t.kind=5 then 1 else 0)+acL (t.args.map (fl f))≤_;omega
theorem tc_ (c:ByteArray):∀ (t:Ty) (k:Nat),ac (opB c k t)≤ac t:=by
 intro t
 induction t using Ty.ind with
 | h t ih =>
  intro k
  by_cases h6:t.kind=6
  ·rw[fW_ c k h6]
   split
   ·exact Nat.zero_le _
   ·exact aD_ _
  ·rw[dF_ c k h6,ic_,ic_ t]
   have:=nY_ (f:=opB c (bk k t.kind)) (l:=t.args) fun a ha=>ih a ha _;show (if t.kind=5 then 1 else 0)+acL (t.args.map _)≤_;omega
def VOk (NL:List ByteArray)(fr:Nat)(t:Ty):Prop:=(t.kind=1→t.name∈NL∨∃ j,j<fr∧t.name=dX_ j)∧(t.kind=3→CnW t.name.data.toList)
theorem hM_ (NL:List ByteArray)(fr:Nat):Loc (VOk NL fr):=fun _ h _ _=>h
theorem ej_ {NL:List ByteArray}{fr fr':Nat}(h:fr≤fr')(t:Ty)(k:VOk NL fr t):VOk NL fr' t:=⟨fun h1=>(k.1 h1).imp id fun ⟨j,hj,e⟩=>⟨j,by omega,e⟩,k.2⟩
theorem l0_ (NL:List ByteArray)(fr:Nat)(m:Int):Al (VOk NL fr) (mt m):=.mk _ ⟨fun h=>absurd (show (2:Int)=1 from h) (by decide),fun h=>absurd (show (2:Int)=3 from h) (by decide)⟩ fun a ha=>by cases ha
def r6_ (NL:List ByteArray):Prop:=∀ s∈NL,od_ s=false∧NmW s.data.toList
theorem kG_ (n:Nat):od_ (dX_ n)=true:=by unfold od_ dX_;rw[cU_];rfl
theorem pw_ {a b:Nat}(h:dX_ a=dX_ b):a=b:=by
 unfold dX_ at h;have:=congrArg (fun x:ByteArray=>x.data.toList) h;simp only[cU_] at this;injection this with _ this
 have e1:=e6_ a;have e2:=e6_ b;rw[this] at e1;rw[← e1,e2]
theorem qs_ {NL:List ByteArray}(hN:r6_ NL){fr:Nat}{t:Ty}(h:VOk NL fr t):t.kind=1→t.name≠dX_ fr:=fun h1 e=>by
 rcases h.1 h1 with h|⟨j,hj,h⟩
 ·have:=(hN _ h).1
  rw[e,kG_] at this;cases this
 ·have:=pw_ (h.symm.trans e)
  omega
section
variable (L : List Int) (n : Int → Nat) (NL : List ByteArray) (A0 : Nat)
structure EO (K:Kn)(fr:Nat)(x:Ty):Prop where
 dw:Dw x
 vn:Al (VOk NL fr) x
 rp:∃ s,Qs L n s∧fl (sg K) x=fl (sg K) s
def acE (es:List EqT):Nat:=(es.map fun e=>ac e.1+ac e.2).sum
structure DI (W:Wk):Prop where
 ko:KO W.K
 ori:Ori W.K
 lf:∀ e∈W.left,EO L n NL W.K W.fresh e.1∧EO L n NL W.K W.fresh e.2
 kr:∀ x,(sg W.K x).kind=2∨∃ s,s.kind≠2∧Qs L n s∧sg W.K x=fl (sg W.K) s
 kl:∀ x,lkK W.K x≠none→x∈L
 km:∀ x∈L,∀ m,oc m (sg W.K x)≠0→m∈L
 kn:∀ x,Al (VOk NL W.fresh) (sg W.K x)
 fr:W.fresh+acE W.left≤A0
end
variable {L : List Int} {n : Int → Nat} {NL : List ByteArray} {A0 : Nat}
theorem DI.tail {K:Kn}{e:EqT}{es:List EqT}{fr:Nat}(D:DI L n NL A0 ⟨K,e :: es,fr⟩):DI L n NL A0 ⟨K,es,fr⟩ :=
 ⟨D.ko,D.ori,fun x hx=>D.lf x (by simp[hx]),D.kr,D.kl,D.km,D.kn,by have:=D.fr;unfold acE at this;rw[List.map_cons,List.sum_cons] at this;simp only at this;show fr+acE es≤A0;unfold acE;omega⟩
theorem EO.fill {W:Wk}(D:DI L n NL A0 W){x:Ty}(h:EO L n NL W.K W.fresh x):EO L n NL W.K W.fresh (fl (sg W.K) x):=by
 obtain⟨s,hs,e⟩:=h.rp;exact⟨gJ_ he_ x h.dw fun m _=>(D.ko.facts.pr m).dw,gJ_ (hM_ _ _) x h.vn fun m _=>D.kn m,s,hs,by rw[D.ko.facts.fill,e]⟩
theorem EO.org {W:Wk}(D:DI L n NL A0 W){x:Ty}(h:EO L n NL W.K W.fresh x)(hf:fl (sg W.K) x=x)(h2:x.kind≠2):∃ s,s.kind≠2∧Qs L n s∧x=fl (sg W.K) s:=by
 obtain⟨s,hs,e⟩:=h.rp;rw[hf] at e
 by_cases k2:s.kind=2
 ·rw[bg_ _ k2] at e
  rcases D.kr s.n with k|⟨s',k1,k3,k4⟩
  ·rw[← e] at k;exact absurd k h2
  ·exact⟨s',k1,k3,e.trans k4⟩
 ·exact⟨s,k2,hs,e⟩
theorem EO.oc {W:Wk}(D:DI L n NL A0 W){x:Ty}(h:EO L n NL W.K W.fresh x)(hf:fl (sg W.K) x=x){m:Int}(hm:Tp.oc m x≠0):m∈L:=by
 obtain⟨s,hs,e⟩:=h.rp;rw[hf] at e;rw[e] at hm;obtain⟨y,hy,hy2⟩:=q8_ s hm;exact D.km y (hs.mem y hy) m hy2
theorem EO.arg {W:Wk}(D:DI L n NL A0 W){x a:Ty}(h:EO L n NL W.K W.fresh x)(hf:fl (sg W.K) x=x)(h2:x.kind≠2)(ha:a∈x.args):EO L n NL W.K W.fresh a∧∃ b,Qs L n b∧a=fl (sg W.K) b:=by
 obtain⟨s,k2,hs,e⟩:=h.org D hf h2;have:a∈s.args.map (fl (sg W.K)):=by rw[e,aH_ _ k2] at ha;exact ha
 obtain⟨b,hb,rfl⟩:=List.mem_map.1 this;exact⟨⟨h.dw.arg ha,h.vn.arg ha,b,hs.arg k2 hb,D.ko.facts.fill b⟩,b,hs.arg k2 hb,rfl⟩
theorem EO.op {W:Wk}(D:DI L n NL A0 W){x b:Ty}(h:EO L n NL W.K W.fresh x)(hf:fl (sg W.K) x=x)(h5:x.kind=5)(ha:b∈x.args):EO L n NL W.K (W.fresh+1) (opB (dX_ W.fresh) 0 b):=by
 obtain⟨hb,s,hs,e⟩:=h.arg D hf (by omega) ha;refine⟨sW_ _ _ hb.dw,ta_ (hM_ _ _) _ ⟨fun _=>.inr ⟨_,by omega,rfl⟩,fun h=>absurd (show (1:Int)=3 from h) (by decide)⟩ b 0 (hb.vn.imp fun t=>ej_ (Nat.le_succ _) t),opB (dX_ W.fresh) 0 s,hs.op _ _,?_⟩;rw[e,q4_ _ (fun m=>(D.ko.facts.pr m).no6),D.ko.facts.fill]
theorem EO.mono {K:Kn}{fr fr':Nat}{x:Ty}(h:EO L n NL K fr x)(hf:fr≤fr'):EO L n NL K fr' x:=⟨h.dw,h.vn.imp fun t=>ej_ hf t,h.rp⟩
theorem rX_ (a b:List EqT):acE (a++b)=acE a+acE b:=by unfold acE;rw[List.map_append,List.sum_append]
theorem id_ (e:EqT)(b:List EqT):acE (e :: b)=ac e.1+ac e.2+acE b:=by unfold acE;rw[List.map_cons,List.sum_cons]
theorem rW_:∀ (a b:List Ty),acE (a.zip b)≤acL a+acL b:=by
 intro a
 induction a with
 | nil=>intro b;exact Nat.zero_le _
 | cons x a ih =>
  intro b;cases b with
  | nil=>exact Nat.zero_le _
  | cons y b =>
   rw[List.zip_cons_cons,id_,acL,acL];have:=ih b;simp only;omega
structure Sd (W:Wk)(L:List Int)(n:Int→Nat)(NL:List ByteArray)(l r:Ty):Prop where
 l1:EO L n NL W.K W.fresh l
 l2:fl (sg W.K) l=l
 r1:EO L n NL W.K W.fresh r
 r2:fl (sg W.K) r=r
 sw:Sw l r
theorem Sd.of {W:Wk}(D:DI L n NL A0 W){x y:Ty}(hx:EO L n NL W.K W.fresh x)(hy:EO L n NL W.K W.fresh y):Sd W L n NL (fm_ (fl (sg W.K) x) (fl (sg W.K) y)).1 (fm_ (fl (sg W.K) x) (fl (sg W.K) y)).2:=by
 have h1:=hx.fill D;have h2:=hy.fill D;have f1:=D.ko.facts.fill x;have f2:=D.ko.facts.fill y;have hs:=qC_ (fl (sg W.K) x) (fl (sg W.K) y)
 rcases jr_ (fl (sg W.K) x) (fl (sg W.K) y) with e|e<;>rw[e] at hs ⊢
 ·exact⟨h1,f1,h2,f2,hs⟩
 ·exact⟨h2,f2,h1,f1,hs⟩
theorem Sd.unb {W:Wk}(D:DI L n NL A0 W){l r:Ty}(S:Sd W L n NL l r)(h2:l.kind=2):l=mt l.n∧lkK W.K l.n=none∧sg W.K l.n=mt l.n:=by
 have e:=eO_ S.l1.dw h2;have h:=D.ko.facts.freeT (t:=l) (y:=l.n) (by rw[S.l2];exact d1_ h2);exact⟨e,h.2,h.1⟩
theorem Dst.inv {W W':Wk}{l r:Ty}(D:DI L n NL A0 W)(S:Sd W L n NL l r)(hfr:W.fresh+acE W.left+ac l+ac r≤A0)(h:Dst W l r (.ok W')):DI L n NL A0 W':=by
 cases h with
 | same h=>exact D
 | learn h h2 ho hp =>
  obtain⟨e,hl,hm⟩:=S.unb D h2;have F:=D.ko.facts;have ht:fl (one l.n r) r=r:=jL_ r hp.dw fun y hy=>cK_ r (by rintro rfl;exact hy ho);refine⟨.snoc _ _ _ D.ko hl S.r2 ho hp,oY_ F D.ori fun y hy=>?_,fun x hx=>?_,fun x=>?_,fun x hx=>?_,fun x hx m hm'=>?_,fun x=>?_,by show W.fresh+acE W.left≤A0;omega⟩
  ·have h1:=(S.sw (by rw[hy];rfl)).2
   have e2:r.n=y:=by rw[hy];rfl
   rw[e2] at h1;have:y≠l.n:=fun e3=>h (by rw[e,hy,e3]);omega
  ·have hk:∀ z,EO L n NL W.K W.fresh z→EO L n NL (W.K++[(l.n,r)]) W.fresh z:=fun z hz=>by
    obtain⟨s,hs,es⟩:=hz.rp;exact⟨hz.dw,hz.vn,s,hs,by rw[gt_,gt_,es]⟩
   exact⟨hk _ (D.lf x hx).1,hk _ (D.lf x hx).2⟩
  ·show (sg (W.K++[(l.n,r)]) x).kind=2∨∃ s,s.kind≠2∧Qs L n s∧sg (W.K++[(l.n,r)]) x=fl (sg (W.K++[(l.n,r)])) s
   rcases D.kr x with hx|⟨s,k1,k2,k3⟩
   ·have hz:=eO_ (F.pr x).dw hx
    by_cases ez:(sg W.K x).n=l.n
    ·have e1:sg (W.K++[(l.n,r)]) x=r:=by rw[cX_,hz,c1_,ez,bS_]
     by_cases r2:r.kind=2
     ·exact .inl (by rw[e1];exact r2)
     ·obtain⟨s,k1,k2,k3⟩:=S.r1.org D S.r2 r2
      exact .inr ⟨s,k1,k2,by rw[e1,gt_,← k3,ht]⟩
    ·refine .inl ?_
     rw[cX_,hz,c1_,cK_ _ ez];rfl
   ·exact .inr ⟨s,k1,k2,by rw[cX_,k3,gt_]⟩
  ·by_cases ex:l.n=x
   ·rw[← ex];exact S.l1.oc D S.l2 (d1_ h2)
   ·exact D.kl x (by rw[← bO_ ex];exact hx)
  ·have hm2:oc m (fl (one l.n r) (sg W.K x))≠0:=by rw[← cX_];exact hm'
   obtain⟨z,hz,hz2⟩:=q8_ _ hm2;have hzL:=D.km x hx z hz
   by_cases ez:z=l.n
   ·rw[ez,bS_] at hz2
    exact S.r1.oc D S.r2 hz2
   ·rw[cK_ _ ez,o2_] at hz2
    split at hz2
    ·next e3=>rw[← e3];exact hzL
    ·exact absurd rfl hz2
  ·show Al _ (sg (W.K++[(l.n,r)]) x)
   rw[cX_];refine gJ_ (hM_ _ _) _ (D.kn x) fun y _=>?_;unfold one
   split
   ·exact S.r1.vn
   ·exact l0_ _ _ _
 | opn h h5 hc b b' hl hr =>
  have h5':r.kind=5:=(f3_ hc).1.symm.trans h5;refine⟨D.ko,D.ori,fun x hx=>?_,D.kr,D.kl,D.km,fun x=>(D.kn x).imp fun t=>ej_ (Nat.le_succ _) t,?_⟩
  ·rcases List.mem_cons.1 hx with rfl|hx
   ·exact⟨S.l1.op D S.l2 h5 (by rw[hl];simp),S.r1.op D S.r2 h5' (by rw[hr];simp)⟩
   ·exact⟨(D.lf x hx).1.mono (Nat.le_succ _),(D.lf x hx).2.mono (Nat.le_succ _)⟩
  ·show W.fresh+1+acE (_ :: W.left)≤A0
   rw[id_];have a1:=tc_ (dX_ W.fresh) b 0;have a2:=tc_ (dX_ W.fresh) b' 0;rw[ic_ l,ic_ r,if_pos h5,if_pos h5',hl,hr,acL,acL,acL] at hfr;simp only;omega
 | parts h h2 h5 h6 hc =>
  have hk:=(f3_ hc).1;refine⟨D.ko,D.ori,fun x hx=>?_,D.kr,D.kl,D.km,D.kn,?_⟩
  ·rcases List.mem_append.1 hx with hx|hx
   ·have hz:=List.of_mem_zip (show (x.1,x.2)∈_ from hx)
    exact⟨(S.l1.arg D S.l2 h2 hz.1).1,(S.r1.arg D S.r2 (by rw[← hk];exact h2) hz.2).1⟩
   ·exact D.lf x hx
  ·show W.fresh+acE (l.args.zip r.args++W.left)≤A0
   rw[rX_];have:=rW_ l.args r.args;rw[ic_ l,ic_ r] at hfr;omega
def PrF (f:Int→Ty):Prop:=∀ m,Pr (f m)
def Sol (f:Int→Ty)(e:EqT):Prop:=fl f e.1=fl f e.2
def ql_ (f:Int→Ty)(W:Wk):Prop:=Ext f W.K∧∀ e∈W.left,Sol f e
theorem nX_ {p:Ty→Prop}(hp:∀ (t:Ty) (l:List Ty),p (.mk t.kind t.name t.n l)→p t)(h2:∀ t:Ty,t.kind=2→p t){f:Int→Ty} : ∀ t:Ty,Dw t→Al p (fl f t)→Al p t:=by
 intro t
 induction t using Ty.ind with
 | h t ih =>
  intro hd h
  by_cases k2:t.kind=2
  ·have e:=hd.here.k2 k2
   refine .mk t (h2 t k2) fun a ha=>?_;rw[e] at ha;cases ha
  ·rw[aH_ f k2] at h
   exact .mk t (hp t _ h.here) fun a ha=>ih a ha (hd.arg ha) (h.arg (a:=fl f a) (List.mem_map.2 ⟨a,ha,rfl⟩))
theorem rl_ {f:Ty→Ty} : ∀ {a b:List Ty},a.length=b.length→(a.map f=b.map f↔∀ e∈a.zip b,f e.1=f e.2):=by
 intro a
 induction a with
 | nil =>
  intro b h;cases b with
  | nil=>simp
  | cons y b=>cases h
 | cons x a ih =>
  intro b h;cases b with
  | nil=>cases h
  | cons y b =>
   rw[List.map_cons,List.map_cons,List.zip_cons_cons];have:=ih (b:=b) (by simpa using h)
   constructor
   ·intro e e1 he
    injection e with e2 e3
    rcases List.mem_cons.1 he with rfl|he
    ·exact e2
    ·exact this.1 e3 e1 he
   ·intro e
    rw[show f x=f y from e (x,y) (by simp),this.2 fun e1 he=>e e1 (by simp[he])]
theorem Dst.sol {W W':Wk}{l r:Ty}(D:DI L n NL A0 W)(hN:r6_ NL)(S:Sd W L n NL l r)(h:Dst W l r (.ok W')){f:Int→Ty}(hf:PrF f):(ql_ f W∧fl f l=fl f r)↔ql_ f W':=by
 cases h with
 | same h=>exact⟨fun k=>k.1,fun k=>⟨k,by rw[h]⟩⟩
 | learn h h2 ho hp =>
  obtain⟨e,hl,hm⟩:=S.unb D h2;have e1:fl f l=f l.n:=bg_ f h2;rw[e1]
  constructor
  ·rintro ⟨⟨k1,k2⟩,k3⟩
   exact⟨(hY_ hm).2 ⟨k1,k3⟩,k2⟩
  ·rintro ⟨k1,k2⟩
   obtain⟨k3,k4⟩:=(hY_ hm).1 k1;exact⟨⟨k3,k2⟩,k4⟩
 | opn h h5 hc b b' hl hr =>
  have h5':r.kind=5:=(f3_ hc).1.symm.trans h5;have hbl:b∈l.args:=by rw[hl];simp
  have hbr:b'∈r.args:=by rw[hr];simp
  have hnew:∀ {t:Ty},Al (VOk NL W.fresh) t→Al (fun t=>t.kind=1→t.name≠dX_ W.fresh) t:=fun h=>h.imp fun t ht=>qs_ hN ht;have key:=oZ_ (dX_ W.fresh) (f:=f) (fun m=>⟨(hf m).dw,(hf m).no6,(hf m).nov (kG_ _)⟩) (S.l1.dw.arg hbl) (S.r1.dw.arg hbr) (hnew (S.l1.vn.arg hbl)) (hnew (S.r1.vn.arg hbr));have e1:fl f l=fl f r↔fl f b=fl f b':=by
   rw[aH_ f (by omega),aH_ f (t:=r) (by omega),hl,hr,h5,h5',(S.l1.dw.here.k5 h5).1,(S.l1.dw.here.k5 h5).2.1,(S.r1.dw.here.k5 h5').1,(S.r1.dw.here.k5 h5').2.1];simp
  rw[e1,key]
  constructor
  ·rintro ⟨⟨k1,k2⟩,k3⟩
   refine⟨k1,fun e he=>?_⟩
   rcases List.mem_cons.1 he with rfl|he
   ·exact k3
   ·exact k2 e he
  ·rintro ⟨k1,k2⟩
   exact⟨⟨k1,fun e he=>k2 e (by simp[he])⟩,k2 (opB (dX_ W.fresh) 0 b,opB (dX_ W.fresh) 0 b') (by simp)⟩
 | parts h h2 h5 h6 hc =>
  obtain⟨hk,h1,hnm,hlen⟩:=f3_ hc;have hn:l.n=r.n:=by
   have dl:=S.l1.dw.here;have dr:=S.r1.dw.here;have:=dl.kind;have c34:l.kind=3∨l.kind=4:=by omega
   rcases c34 with c|c
   ·rw[dl.k3 c,dr.k3 (by omega)]
   ·rw[(dl.k4 c).2.1,(dr.k4 (by omega)).2.1]
  have e1:fl f l=fl f r↔∀ e∈l.args.zip r.args,fl f e.1=fl f e.2:=by
   rw[aH_ f h2,aH_ f (t:=r) (by omega),← hk,← hnm h5,← hn,← rl_ hlen];simp
  rw[e1]
  constructor
  ·rintro ⟨⟨k1,k2⟩,k3⟩
   refine⟨k1,fun e he=>?_⟩
   rcases List.mem_append.1 he with he|he
   ·exact k3 e he
   ·exact k2 e he
  ·rintro ⟨k1,k2⟩
   exact⟨⟨k1,fun e he=>k2 e (by simp[he])⟩,fun e he=>k2 e (by simp[he])⟩
theorem Dst.err {W:Wk}{l r:Ty}{er:Nat}(S:Sd W L n NL l r)(h:Dst W l r (.error er)){f:Int→Ty}(hf:PrF f):fl f l≠fl f r:=by
 intro e;cases h with
 | occurs h h2 ho =>
  rw[bg_ f h2] at e;have r2:r.kind≠2:=fun r2=>h (by
   have e1:=eO_ S.l1.dw h2;have e2:=eO_ S.r1.dw r2;rw[e2,o2_] at ho
   split at ho
   ·next e3=>rw[e1,e2,e3]
   ·exact absurd rfl ho)
  have:=(hj_ (f:=f) r ho).2 r2;rw[e] at this;exact Nat.lt_irrefl _ this
 | poly h h2 ho hp =>
  rw[bg_ f h2] at e;refine hp (nX_ (fun t l h=>h) (fun t h=>by omega) r S.r1.dw (f:=f) ?_);rw[← e];exact (hf _).no5
 | esc h h2 ho hp hd =>
  rw[bg_ f h2] at e;refine hd (nX_ (fun t l h=>h) (fun t h h1=>by omega) r S.r1.dw (f:=f) ?_);rw[← e];exact (pr_of (hf _)).2
 | clash h h2 hc =>
  have r2:r.kind≠2:=fun r2=>h2 (S.sw r2).1;rw[aH_ f h2,aH_ f r2] at e;injection e with e1 e2 e3 e4
  have hlen:l.args.length=r.args.length:=by have:=congrArg List.length e4;simpa using this
  unfold ce_ at hc;simp only[Bool.or_eq_true,bne_iff_ne,ne_eq,beq_iff_eq,Bool.and_eq_true,Bool.not_eq_true',fc_] at hc
  rcases hc with ((hc|hc)|hc)|hc
  ·exact hc e1
  ·have r1:r.kind=1:=e1.symm.trans hc
   refine h ?_;rw[← dq_ l,← dq_ r,e1,e2,e3,(S.l1.dw.here.k1 hc).2,(S.r1.dw.here.k1 r1).2]
  ·exact hc.1 e2
  ·exact hc hlen
theorem nr_ {f:Int→Ty}{t:Ty}(h:t.kind≠2):(fl f t).size=aj_ (t.args.map (fl f))+1:=by rw[aH_ f h,Ty.size_eq];rfl
theorem Dst.ext {W W':Wk}{l r:Ty}(D:DI L n NL A0 W)(S:Sd W L n NL l r)(h:Dst W l r (.ok W')){f:Int→Ty}(hf:Ext f W'.K):Ext f W.K:=by
 cases h with
 | learn h h2 ho hp=>exact ((hY_ (S.unb D h2).2.2).1 hf).1
 | same|opn|parts=>exact hf
theorem pj_:∀ {l m:List Int},l.Nodup→(∀ x∈l,x∈m)→l.length≤m.length:=by
 intro l
 induction l with
 | nil=>intro m _ _;simp
 | cons x l ih =>
  intro m hn h;rw[List.nodup_cons] at hn;obtain⟨a,b,rfl⟩:=List.append_of_mem (h x (by simp));have:=ih (m:=a++b) hn.2 fun y hy=>by
   have hm:=h y (by simp[hy]);have hne:y≠x:=fun e=>hn.1 (e ▸ hy);simp only[List.mem_append,List.mem_cons] at hm ⊢
   rcases hm with hm|hm|hm
   ·exact .inl hm
   ·exact absurd hm hne
   ·exact .inr hm
  simp only[List.length_append,List.length_cons] at this ⊢;omega
theorem tb_ (x:ByteArray):∀ t:Ty,Al (fun t=>t.kind=1→t.name≠x) t→noP (du_ x) t:=by
 intro t
 induction t using Ty.ind with
 | h t ih =>
  intro h;rw[gj_];refine⟨?_,fun a ha=>ih a ha (h.arg ha)⟩;show (t.kind==1&&eqN t.name x)=false
  by_cases h1:t.kind=1
  ·rw[(fc_ _ _).2 (h.here h1),Bool.and_false]
  ·rw[beq_eq_false_iff_ne.2 h1,Bool.false_and]
theorem fv_no (x:ByteArray):∀ (t:Ty) (env:List ByteArray),Std t→fvT x t→x∉env→¬ noP (du_ x) (dbT env t):=by
 intro t
 induction t using Ty.ind with
 | h t ih =>
  intro env hs hf hx hn
  by_cases h5:t.kind=5
  ·rw[aM_ _ _ h5,eD_] at hn
   rcases (aJ_ x t).1 hf with ⟨h1,_⟩|⟨⟨a,ha,hxa⟩,h2⟩
   ·omega
   ·have hne:x≠t.name:=fun e=>h2 ⟨h5,e.symm⟩
    exact ih a ha (t.name :: env) (hs.args a ha) hxa (by simp[hne,hx]) (hn.2 _ (List.mem_map.2 ⟨a,ha,rfl⟩))
  ·by_cases h1:t.kind=1
   ·rw[aS_ _ _ h1] at hn
    rcases (aJ_ x t).1 hf with ⟨_,e⟩|⟨⟨a,ha,_⟩,_⟩
    ·unfold cR_ at hn
     rw[e,(cn_ env x).2 hx,eD_] at hn;have:=hn.1;rw[bv_,(aK_ x x).2 rfl] at this;cases this
    ·rw[(hs.k1 h1).2] at ha;cases ha
   ·rw[aw_ _ _ h1 h5,eD_] at hn
    rcases (aJ_ x t).1 hf with ⟨e,_⟩|⟨⟨a,ha,hxa⟩,_⟩
    ·exact h1 e
    ·exact ih a ha env (hs.args a ha) hxa hx (hn.2 _ (List.mem_map.2 ⟨a,ha,rfl⟩))
theorem oh_ {NL:List ByteArray}{fr:Nat}{t:Ty}(hs:Std t)(h:Al (VOk NL fr) (dbT [] t)){x:ByteArray}(hx:x∈af_ t):x∈NL∨∃ j,j<fr∧x=dX_ j :=
 Classical.byContradiction fun hn=>fv_no x t [] hs ((bb_ x t).1 hx) (by simp) (tb_ x _ (h.imp fun t ht h1 e=>hn (by rw[← e];exact ht.1 h1)))
theorem f8_ {NL:List ByteArray}{fr:Nat}{t:Ty}(hs:Std t)(h:Al (VOk NL fr) (dbT [] t)):(Tp.af_ t).length≤NL.length+fr:=by
 have:=jI_ (m:=NL++(List.range fr).map dX_) (eQ_ t) fun x hx=>by
  rcases oh_ hs h hx with h|⟨j,hj,h⟩
  ·simp[h]
  ·exact List.mem_append.2 (.inr (List.mem_map.2 ⟨j,List.mem_range.2 hj,h.symm⟩))
 simpa using this
theorem sY_ (n:Nat):NmW (dX_ n).data.toList:=by
 unfold dX_;rw[cU_];refine⟨⟨by simp,fun c hc=>?_⟩,show a1_ 36=false by decide,show (36:UInt8)≠63 by decide,fun e=>?_⟩
 ·rcases List.mem_cons.1 hc with rfl|hc
  ·decide
  ·exact gz_ ((bQ_ n).1 c hc)
 ·injection e with e _;exact absurd e (by decide)
theorem l2_ {NL:List ByteArray}(hN:r6_ NL){fr:Nat}{t:Ty}(h:Al (VOk NL fr) t):qo_ t:=h.imp fun t ht=>⟨fun h1=>by
 rcases ht.1 h1 with h|⟨j,_,h⟩
 ·exact (hN _ h).2
 ·rw[h];exact sY_ j,ht.2⟩
theorem f0_:∀ t:Ty,Std t→Al (fun t=>t.kind≠5) t→dbT [] t=t:=by
 intro t
 induction t using Ty.ind with
 | h t ih =>
  intro hs h
  by_cases h1:t.kind=1
  ·rw[aS_ _ _ h1,(hs.k1 h1).1]
   show Ty.mk 1 t.name 0 []=t;have e:=dq_ t;rw[h1,(hs.k1 h1).1,(hs.k1 h1).2] at e;exact e
  ·rw[aw_ _ _ h1 h.here,d3_ fun a ha=>ih a ha (hs.args a ha) (h.arg ha),dq_]
theorem q3_:∀ t:Ty,eL_ t=false↔Al (fun t=>t.kind≠5) t:=by
 intro t
 induction t using Ty.ind with
 | h t ih =>
  rw[kl_,Bool.or_eq_false_iff,beq_eq_false_iff_ne,List.any_eq_false,nW_]
  constructor
  ·exact fun h=>⟨h.1,fun a ha=>(ih a ha).1 (by simpa using h.2 a ha)⟩
  ·exact fun h=>⟨h.1,fun a ha=>by simpa using (ih a ha).2 (h.2 a ha)⟩
theorem qH_:∀ t:Ty,Std t→Al (fun t=>t.kind≠6) t:=by
 intro t
 induction t using Ty.ind with
 | h t ih=>exact fun hs=>.mk t (by have:=hs.kind;omega) fun a ha=>ih a ha (hs.args a ha)
def LIM:Nat:=2013265920
def Ti (NL:List ByteArray)(fr:Nat)(X:Ty):Prop:=X.size≤LIM∧Al (VOk NL fr) X
theorem ti_sm {NL:List ByteArray}{fr:Nat}(hl:NL.length+fr≤3000000){t:Ty}(hs:Std t)(h:Ti NL fr (dbT [] t)):smB t=true:=by
 refine decide_eq_true ⟨?_,bN_ (f8_ hs h.2) hl⟩;have:=h.1;rw[bI_ t hs] at this;unfold LIM at this;omega
theorem rp_ {K:Kn}{x:Int}(h:lkK K x=none)(j:Nat):lkK (K.take j) x=none:=by
 rw[cZ_] at h ⊢;intro hm;obtain⟨e,he,rfl⟩:=List.mem_map.1 hm;exact h (List.mem_map.2 ⟨e,List.mem_of_mem_take he,rfl⟩)
theorem KO.later {K:Kn}(h:KO K):∀ (j:Nat) (m:Int) (u:Ty),lkK K m=some u→lkK (K.take j) m=none→∀ z,oc z u≠0→lkK (K.take (j+1)) z=none:=by
 induction h with
 | nil=>intro j m u h;cases h
 | snoc K m0 t h h1 h2 h3 h4 ih =>
  intro j m u hu hn z hz
  by_cases e:m0=m
  ·subst e
   have:t=u:=by
    have:=(cD_ h1 t).symm.trans hu;injection this
   subst this;refine rp_ ?_ _;have hz2:=h.facts.freeT (t:=t) (y:=z) (by rw[h2];exact hz);rw[bO_ (by rintro rfl;exact hz h3)];exact hz2.2
  ·rw[bO_ e] at hu
   by_cases hj:j+1≤K.length
   ·rw[List.take_append_of_le_length hj]
    rw[List.take_append_of_le_length (by omega)] at hn;exact ih j m u hu hn z hz
   ·exfalso
    rw[cZ_] at hn;refine hn (List.mem_map.2 ⟨(m,u),?_,rfl⟩);rw[List.take_append];exact List.mem_append.2 (.inl (by rw[List.take_of_length_le (by omega)];exact d4_ hu))
abbrev dbE (e:EqT):EqT:=(dbT [] e.1,dbT [] e.2)
def dW (W:Wk):Wk:=⟨W.K,W.left.map dbE,W.fresh⟩
structure Co (L:List Int)(n:Int→Nat)(NL:List ByteArray)(A0:Nat):Prop where
 ll:L.length≤90
 sn:sm L n≤24
 nl:NL.length+A0≤2000000
 a0:A0<1000000
 nn:r6_ NL
section
variable {L : List Int} {n : Int → Nat} {NL : List ByteArray} {A0 : Nat}
theorem EO.sz {W:Wk}(C:Co L n NL A0)(D:DI L n NL A0 W){x:Ty}(h:EO L n NL W.K W.fresh x):(fl (sg W.K) x).size≤LIM:=by
 obtain⟨s,hs,e⟩:=h.rp;rw[e];have h1:=la_ (f:=sg W.K) (fun x _=>(D.kr x).imp (fun h2=>by
  rw[eO_ (D.ko.facts.pr x).dw h2];exact aD_ _) id) hs
 have h2:2 ^ sm L n≤2 ^ 24:=Nat.pow_le_pow_right (by omega) C.sn;have h3:(2:Nat) ^ 24=16777216:=by decide
 unfold LIM;omega
end
end Go.Proofs.YtjecnionbjlncaaGreatDoor.Tp

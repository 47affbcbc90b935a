/- Packed. -/
import Derived.Test.YtjecnionbjlncaaGreatDoorP40
import Derived.Test.YtjecnionbjlncaaGreatDoorP38
set_option maxRecDepth 100000
set_option maxHeartbeats 6400000
namespace Go.Proofs.YtjecnionbjlncaaGreatDoor.Tp
open Lx
inductive Dst (W:Wk) (l r:Ty):Except Nat Wk→Prop
 | same (h:l=r):Dst W l r (.ok W)
 | occurs (h:l≠r) (h2:l.kind=2) (ho:oc l.n r≠0):Dst W l r (.error 41)
 | poly (h:l≠r) (h2:l.kind=2) (ho:oc l.n r=0) (hp:¬ Al (fun t=>t.kind≠5) r):Dst W l r (.error 42)
 | esc (h:l≠r) (h2:l.kind=2) (ho:oc l.n r=0) (hp:Al (fun t=>t.kind≠5) r) (hd:¬ Al (fun t=>t.kind=1→e0_ t.name=false) r):Dst W l r (.error 43)
 | learn (h:l≠r) (h2:l.kind=2) (ho:oc l.n r=0) (hp:Pr r):Dst W l r (.ok ⟨W.K++[(l.n,r)],W.left,W.fresh⟩)
 | clash (h:l≠r) (h2:l.kind≠2) (hc:bg_ l r=true):Dst W l r (.error 40)
 | opn (h:l≠r) (h5:l.kind=5) (hc:bg_ l r=false) (b b':Ty) (hl:l.args=[b]) (hr:r.args=[b']):Dst W l r (.ok ⟨W.K,(opB (bo_ W.fresh) 0 b,opB (bo_ W.fresh) 0 b') :: W.left,W.fresh+1⟩)
 | parts (h:l≠r) (h2:l.kind≠2) (h5:l.kind≠5) (h6:l.kind≠6) (hc:bg_ l r=false):Dst W l r (.ok ⟨W.K,l.args.zip r.args++W.left,W.fresh⟩)
theorem ln_ {t:Ty}(h:Pr t):Al (fun t=>t.kind≠5) t∧Al (fun t=>t.kind=1→e0_ t.name=false) t:=⟨h.no5,h.imp fun _ h=>h.2.2.2⟩
theorem Dst.det {W:Wk}{l r:Ty}{x y:Except Nat Wk}(h:Dst W l r x)(k:Dst W l r y):x=y:=by
 cases h with
 | same h=>cases k with
  | same=>rfl
  | occurs k|poly k|esc k|learn k|clash k|opn k|parts k=>exact absurd h k
 | occurs h h2 ho=>cases k with
  | same k=>exact absurd k h
  | occurs=>rfl
  | poly _ _ k|esc _ _ k|learn _ _ k=>exact absurd k ho
  | clash _ k|parts _ k=>exact absurd h2 k
  | opn _ k=>rw[h2] at k;exact absurd k (by decide)
 | poly h h2 ho hp=>cases k with
  | same k=>exact absurd k h
  | occurs _ _ k=>exact absurd ho k
  | poly=>rfl
  | esc _ _ _ k=>exact absurd k hp
  | learn _ _ _ k=>exact absurd (ln_ k).1 hp
  | clash _ k|parts _ k=>exact absurd h2 k
  | opn _ k=>rw[h2] at k;exact absurd k (by decide)
 | esc h h2 ho hp hd=>cases k with
  | same k=>exact absurd k h
  | occurs _ _ k=>exact absurd ho k
  | poly _ _ _ k=>exact absurd hp k
  | esc=>rfl
  | learn _ _ _ k=>exact absurd (ln_ k).2 hd
  | clash _ k|parts _ k=>exact absurd h2 k
  | opn _ k=>rw[h2] at k;exact absurd k (by decide)
 | learn h h2 ho hp=>cases k with
  | same k=>exact absurd k h
  | occurs _ _ k=>exact absurd ho k
  | poly _ _ _ k=>exact absurd (ln_ hp).1 k
  | esc _ _ _ _ k=>exact absurd (ln_ hp).2 k
  | learn=>rfl
  | clash _ k|parts _ k=>exact absurd h2 k
  | opn _ k=>rw[h2] at k;exact absurd k (by decide)
 | clash h h2 hc=>cases k with
  | same k=>exact absurd k h
  | occurs _ k|poly _ k|esc _ k|learn _ k=>exact absurd k h2
  | clash=>rfl
  | opn _ _ k=>rw[hc] at k;cases k
  | parts _ _ _ _ k=>rw[hc] at k;cases k
 | opn h h5 hc b b' hl hr=>cases k with
  | same k=>exact absurd k h
  | occurs _ k|poly _ k|esc _ k|learn _ k=>rw[h5] at k;exact absurd k (by decide)
  | clash _ _ k=>rw[hc] at k;cases k
  | opn _ _ _ d d' kl kr =>
   rw[hl] at kl;rw[hr] at kr;injection kl with kl _
   injection kr with kr _
   rw[kl,kr]
  | parts _ _ k=>exact absurd h5 k
 | parts h h2 h5 h6 hc=>cases k with
  | same k=>exact absurd k h
  | occurs _ k|poly _ k|esc _ k|learn _ k=>exact absurd k h2
  | clash _ _ k=>rw[hc] at k;cases k
  | opn _ k=>exact absurd k h5
  | parts=>rfl
def Sw (l r:Ty):Prop:=r.kind=2→l.kind=2∧r.n≤l.n
theorem p6_ (l r:Ty):Sw (cB_ l r).1 (cB_ l r).2:=by
 unfold cB_
 split
 ·next h =>
  intro h2;exact⟨h.1,by rcases h.2 with h3|h3;exact absurd h2 h3;exact Int.le_of_lt h3⟩
 ·next h =>
  intro h2;refine⟨Classical.byContradiction fun hn=>h ⟨h2,.inl hn⟩,?_⟩;have:¬ l.n<r.n:=fun hn=>h ⟨h2,.inr hn⟩;show r.n≤l.n;omega
theorem eN_ (l r:Ty):cB_ l r=(l,r)∨cB_ l r=(r,l):=by
 unfold cB_;split
 ·exact .inr rfl
 ·exact .inl rfl
theorem cz_ {l r:Ty}(h:bg_ l r=false):l.kind=r.kind∧l.kind≠1∧(l.kind≠5→l.name=r.name)∧l.args.length=r.args.length:=by
 unfold bg_ at h;simp only[Bool.or_eq_false_iff,bne_eq_false_iff_eq,beq_eq_false_iff_ne,Bool.and_eq_false_iff,Bool.not_eq_false',aH_] at h;obtain⟨⟨⟨h1,h2⟩,h3⟩,h4⟩:=h;refine⟨h1,h2,fun h5=>?_,h4⟩
 rcases h3 with h3|h3
 ·exact h3
 ·exact absurd h3 h5
mutual
def ac:Ty→Nat
 | .mk k _ _ args=>(if k=5 then 1 else 0)+acL args
def acL:List Ty→Nat
 | []=>0
 | t :: ts=>ac t+acL ts
end
theorem gX_ (t:Ty):ac t=(if t.kind=5 then 1 else 0)+acL t.args:=by
 cases t with
 | mk k s n args=>rw[ac];rfl
theorem nG_ {f:Ty→Ty} : ∀ {l:List Ty},(∀ a∈l,ac (f a)≤ac a)→acL (l.map f)≤acL l:=by
 intro l
 induction l with
 | nil=>intro _;exact aC_ _
 | cons a l ih =>
  intro h;rw[List.map_cons,acL,acL];have:=h a (by simp);have:=ih fun b hb=>h b (by simp[hb]);omega
theorem ac_pr:∀ t:Ty,Al (fun t=>t.kind≠5) t→ac t=0:=by
 intro t
 induction t using Ty.ind with
 | h t ih =>
  intro h;rw[gX_,if_neg h.here];have:∀ l:List Ty,(∀ a∈l,ac a=0)→acL l=0:=by
   intro l
   induction l with
   | nil=>intro _;rfl
   | cons a l ihl=>intro hl;rw[acL,hl a (by simp),ihl fun b hb=>hl b (by simp[hb])]
  rw[this _ fun a ha=>ih a ha (h.arg ha)]
theorem sD_ {f:Int→Ty}(hf:∀ m,ac (f m)=0):∀ t:Ty,ac (fl f t)≤ac t:=by
 intro t
 induction t using Ty.ind with
 | h t ih =>
  by_cases h2:t.kind=2
  ·rw[a0_ f h2,hf];exact Nat.zero_le _
  ·rw[ay_ f h2,gX_,gX_ t]
   have:=nG_ (f:=fl f) ih;show (if t.kind=5 then 1 else 0)+acL (t.args.map (fl f))≤_;omega
theorem sC_ (c:ByteArray):∀ (t:Ty) (k:Nat),ac (opB c k t)≤ac t:=by
 intro t
 induction t using Ty.ind with
 | h t ih =>
  intro k
  by_cases h6:t.kind=6
  ·rw[f4_ c k h6]
   split
   ·exact Nat.zero_le _
   ·exact aC_ _
  ·rw[eD_ c k h6,gX_,gX_ t]
   have:=nG_ (f:=opB c (bk k t.kind)) (l:=t.args) fun a ha=>ih a ha _;show (if t.kind=5 then 1 else 0)+acL (t.args.map _)≤_;omega
theorem hz_ (c:ByteArray)(f:Int→Ty):∀ (t:Ty) (k:Nat),Dw t→(fl f (opB c k t)).size=(fl f t).size:=by
 intro t
 induction t using Ty.ind with
 | h t ih =>
  intro k h
  by_cases h2:t.kind=2
  ·rw[eD_ c k (by omega),a0_ f h2,a0_ f (show (Ty.mk t.kind t.name t.n _).kind=2 from h2)];rfl
  ·by_cases h6:t.kind=6
   ·rw[f4_ c k h6]
    split
    ·rw[ay_ f (show (Ty.mk 1 c 0 []).kind≠2 from by show (1:Int)≠2;decide),ay_ f h2,Ty.size_eq,Ty.size_eq]
     show af_ (List.map (fl f) [])+1=af_ (t.args.map (fl f))+1;rw[(h.here.k6 h6).2]
    ·rfl
   ·rw[eD_ c k h6,ay_ f (show (Ty.mk t.kind t.name t.n _).kind≠2 from h2),ay_ f h2,Ty.size_eq,Ty.size_eq]
    show af_ (List.map (fl f) (t.args.map _))+1=af_ (t.args.map _)+1;rw[List.map_map];have:∀ l:List Ty,(∀ a∈l,a∈t.args)→af_ (l.map (fl f ∘ opB c (bk k t.kind)))=af_ (l.map (fl f)):=by
     intro l
     induction l with
     | nil=>intro _;rfl
     | cons a l ihl =>
      intro hm;rw[List.map_cons,List.map_cons,af_,af_,ihl fun b hb=>hm b (by simp[hb])];show (fl f (opB c _ a)).size + _=_;rw[ih a (hm a (by simp)) _ (h.arg (hm a (by simp)))]
    rw[this _ fun a ha=>ha]
def VOk (NL:List ByteArray)(fr:Nat)(t:Ty):Prop:=(t.kind=1→t.name∈NL∨∃ j,j<fr∧t.name=bo_ j)∧(t.kind=3→CnW t.name.data.toList)
theorem ed_ (NL:List ByteArray)(fr:Nat):Loc (VOk NL fr):=fun _ h _ _=>h
theorem dc_ {NL:List ByteArray}{fr fr':Nat}(h:fr≤fr')(t:Ty)(k:VOk NL fr t):VOk NL fr' t:=⟨fun h1=>(k.1 h1).imp id fun ⟨j,hj,e⟩=>⟨j,by omega,e⟩,k.2⟩
theorem iu_ (NL:List ByteArray)(fr:Nat)(m:Int):Al (VOk NL fr) (mt m):=.mk _ ⟨fun h=>absurd (show (2:Int)=1 from h) (by decide),fun h=>absurd (show (2:Int)=3 from h) (by decide)⟩ fun a ha=>by cases ha
def lI_ (NL:List ByteArray):Prop:=∀ s∈NL,e0_ s=false∧NmW s.data.toList
theorem fj_ (n:Nat):e0_ (bo_ n)=true:=by unfold e0_ bo_;rw[cZ_];rfl
theorem ia_ {a b:Nat}(h:bo_ a=bo_ b):a=b:=by
 unfold bo_ at h;have:=congrArg (fun x:ByteArray=>x.data.toList) h;simp only[cZ_] at this;injection this with _ this
 have e1:=e8_ a;have e2:=e8_ b;rw[this] at e1;rw[← e1,e2]
theorem pU_ {NL:List ByteArray}(hN:lI_ NL){fr:Nat}{t:Ty}(h:VOk NL fr t):t.kind=1→t.name≠bo_ fr:=fun h1 e=>by
 rcases h.1 h1 with h|⟨j,hj,h⟩
 ·have:=(hN _ h).1
  rw[e,fj_] at this;cases this
 ·have:=ia_ (h.symm.trans e)
  omega
section
variable (L : List Int) (n : Int → Nat) (NL : List ByteArray) (A0 : Nat)
structure EO (K:Kn)(fr:Nat)(x:Ty):Prop where
 dw:Dw x
 vn:Al (VOk NL fr) x
 rp:∃ s,Qs L n s∧fl (sg K) x=fl (sg K) s
def acE (es:List EqT):Nat:=(es.map fun e=>ac e.1+ac e.2).sum
structure DI (W:Wk):Prop where
 ko:KO W.K
 ori:Ori W.K
 lf:∀ e∈W.left,EO L n NL W.K W.fresh e.1∧EO L n NL W.K W.fresh e.2
 kr:∀ x,(sg W.K x).kind=2∨∃ s,s.kind≠2∧Qs L n s∧sg W.K x=fl (sg W.K) s
 kl:∀ x,lkK W.K x≠none→x∈L
 km:∀ x∈L,∀ m,oc m (sg W.K x)≠0→m∈L
 kn:∀ x,Al (VOk NL W.fresh) (sg W.K x)
 fr:W.fresh+acE W.left≤A0
end
variable {L : List Int} {n : Int → Nat} {NL : List ByteArray} {A0 : Nat}
theorem DI.tail {K:Kn}{e:EqT}{es:List EqT}{fr:Nat}(D:DI L n NL A0 ⟨K,e :: es,fr⟩):DI L n NL A0 ⟨K,es,fr⟩ :=
 ⟨D.ko,D.ori,fun x hx=>D.lf x (by simp[hx]),D.kr,D.kl,D.km,D.kn,by have:=D.fr;unfold acE at this;rw[List.map_cons,List.sum_cons] at this;simp only at this;show fr+acE es≤A0;unfold acE;omega⟩
theorem EO.fill {W:Wk}(D:DI L n NL A0 W){x:Ty}(h:EO L n NL W.K W.fresh x):EO L n NL W.K W.fresh (fl (sg W.K) x):=by
 obtain⟨s,hs,e⟩:=h.rp;exact⟨f5_ iY_ x h.dw fun m _=>(D.ko.facts.pr m).dw,f5_ (ed_ _ _) x h.vn fun m _=>D.kn m,s,hs,by rw[D.ko.facts.fill,e]⟩
theorem EO.org {W:Wk}(D:DI L n NL A0 W){x:Ty}(h:EO L n NL W.K W.fresh x)(hf:fl (sg W.K) x=x)(h2:x.kind≠2):∃ s,s.kind≠2∧Qs L n s∧x=fl (sg W.K) s:=by
 obtain⟨s,hs,e⟩:=h.rp;rw[hf] at e
 by_cases k2:s.kind=2
 ·rw[a0_ _ k2] at e
  rcases D.kr s.n with k|⟨s',k1,k3,k4⟩
  ·rw[← e] at k;exact absurd k h2
  ·exact⟨s',k1,k3,e.trans k4⟩
 ·exact⟨s,k2,hs,e⟩
theorem EO.oc {W:Wk}(D:DI L n NL A0 W){x:Ty}(h:EO L n NL W.K W.fresh x)(hf:fl (sg W.K) x=x){m:Int}(hm:Tp.oc m x≠0):m∈L:=by
 obtain⟨s,hs,e⟩:=h.rp;rw[hf] at e;rw[e] at hm;obtain⟨y,hy,hy2⟩:=mZ_ s hm;exact D.km y (hs.mem y hy) m hy2
theorem EO.arg {W:Wk}(D:DI L n NL A0 W){x a:Ty}(h:EO L n NL W.K W.fresh x)(hf:fl (sg W.K) x=x)(h2:x.kind≠2)(ha:a∈x.args):EO L n NL W.K W.fresh a∧∃ b,Qs L n b∧a=fl (sg W.K) b:=by
 obtain⟨s,k2,hs,e⟩:=h.org D hf h2;have:a∈s.args.map (fl (sg W.K)):=by rw[e,ay_ _ k2] at ha;exact ha
 obtain⟨b,hb,rfl⟩:=List.mem_map.1 this;exact⟨⟨h.dw.arg ha,h.vn.arg ha,b,hs.arg k2 hb,D.ko.facts.fill b⟩,b,hs.arg k2 hb,rfl⟩
theorem EO.op {W:Wk}(D:DI L n NL A0 W){x b:Ty}(h:EO L n NL W.K W.fresh x)(hf:fl (sg W.K) x=x)(h5:x.kind=5)(ha:b∈x.args):EO L n NL W.K (W.fresh+1) (opB (bo_ W.fresh) 0 b):=by
 obtain⟨hb,s,hs,e⟩:=h.arg D hf (by omega) ha;refine⟨sm_ _ _ hb.dw,rd_ (ed_ _ _) _ ⟨fun _=>.inr ⟨_,by omega,rfl⟩,fun h=>absurd (show (1:Int)=3 from h) (by decide)⟩ b 0 (hb.vn.imp fun t=>dc_ (Nat.le_succ _) t),opB (bo_ W.fresh) 0 s,hs.op _ _,?_⟩;rw[e,qy_ _ (fun m=>(D.ko.facts.pr m).no6),D.ko.facts.fill]
theorem EO.mono {K:Kn}{fr fr':Nat}{x:Ty}(h:EO L n NL K fr x)(hf:fr≤fr'):EO L n NL K fr' x:=⟨h.dw,h.vn.imp fun t=>dc_ hf t,h.rp⟩
theorem rf_ (a b:List EqT):acE (a++b)=acE a+acE b:=by unfold acE;rw[List.map_append,List.sum_append]
theorem il_ (e:EqT)(b:List EqT):acE (e :: b)=ac e.1+ac e.2+acE b:=by unfold acE;rw[List.map_cons,List.sum_cons]
theorem re_:∀ (a b:List Ty),acE (a.zip b)≤acL a+acL b:=by
 intro a
 induction a with
 | nil=>intro b;exact Nat.zero_le _
 | cons x a ih =>
  intro b;cases b with
  | nil=>exact Nat.zero_le _
  | cons y b =>
   rw[List.zip_cons_cons,il_,acL,acL];have:=ih b;simp only;omega
structure Sd (W:Wk)(L:List Int)(n:Int→Nat)(NL:List ByteArray)(l r:Ty):Prop where
 l1:EO L n NL W.K W.fresh l
 l2:fl (sg W.K) l=l
 r1:EO L n NL W.K W.fresh r
 r2:fl (sg W.K) r=r
 sw:Sw l r
theorem Sd.of {W:Wk}(D:DI L n NL A0 W){x y:Ty}(hx:EO L n NL W.K W.fresh x)(hy:EO L n NL W.K W.fresh y):Sd W L n NL (cB_ (fl (sg W.K) x) (fl (sg W.K) y)).1 (cB_ (fl (sg W.K) x) (fl (sg W.K) y)).2:=by
 have h1:=hx.fill D;have h2:=hy.fill D;have f1:=D.ko.facts.fill x;have f2:=D.ko.facts.fill y;have hs:=p6_ (fl (sg W.K) x) (fl (sg W.K) y)
 rcases eN_ (fl (sg W.K) x) (fl (sg W.K) y) with e|e<;>rw[e] at hs ⊢
 ·exact⟨h1,f1,h2,f2,hs⟩
 ·exact⟨h2,f2,h1,f1,hs⟩
theorem Sd.unb {W:Wk}(D:DI L n NL A0 W){l r:Ty}(S:Sd W L n NL l r)(h2:l.kind=2):l=mt l.n∧lkK W.K l.n=none∧sg W.K l.n=mt l.n:=by
 have e:=c4_ S.l1.dw h2;have h:=D.ko.facts.freeT (t:=l) (y:=l.n) (by rw[S.l2];exact c2_ h2);exact⟨e,h.2,h.1⟩
theorem Dst.inv {W W':Wk}{l r:Ty}(D:DI L n NL A0 W)(S:Sd W L n NL l r)(hfr:W.fresh+acE W.left+ac l+ac r≤A0)(h:Dst W l r (.ok W')):DI L n NL A0 W':=by
 cases h with
 | same h=>exact D
 | learn h h2 ho hp =>
  obtain⟨e,hl,hm⟩:=S.unb D h2;have F:=D.ko.facts;have ht:fl (one l.n r) r=r:=gJ_ r hp.dw fun y hy=>bU_ r (by rintro rfl;exact hy ho);refine⟨.snoc _ _ _ D.ko hl S.r2 ho hp,oy_ F D.ori fun y hy=>?_,fun x hx=>?_,fun x=>?_,fun x hx=>?_,fun x hx m hm'=>?_,fun x=>?_,by show W.fresh+acE W.left≤A0;omega⟩
  ·have h1:=(S.sw (by rw[hy];rfl)).2
   have e2:r.n=y:=by rw[hy];rfl
   rw[e2] at h1;have:y≠l.n:=fun e3=>h (by rw[e,hy,e3]);omega
  ·have hk:∀ z,EO L n NL W.K W.fresh z→EO L n NL (W.K++[(l.n,r)]) W.fresh z:=fun z hz=>by
    obtain⟨s,hs,es⟩:=hz.rp;exact⟨hz.dw,hz.vn,s,hs,by rw[gH_,gH_,es]⟩
   exact⟨hk _ (D.lf x hx).1,hk _ (D.lf x hx).2⟩
  ·show (sg (W.K++[(l.n,r)]) x).kind=2∨∃ s,s.kind≠2∧Qs L n s∧sg (W.K++[(l.n,r)]) x=fl (sg (W.K++[(l.n,r)])) s
   rcases D.kr x with hx|⟨s,k1,k2,k3⟩
   ·have hz:=c4_ (F.pr x).dw hx
    by_cases ez:(sg W.K x).n=l.n
    ·have e1:sg (W.K++[(l.n,r)]) x=r:=by rw[b8_,hz,cK_,ez,bl_]
     by_cases r2:r.kind=2
     ·exact .inl (by rw[e1];exact r2)
     ·obtain⟨s,k1,k2,k3⟩:=S.r1.org D S.r2 r2
      exact .inr ⟨s,k1,k2,by rw[e1,gH_,← k3,ht]⟩
    ·refine .inl ?_
     rw[b8_,hz,cK_,bU_ _ ez];rfl
   ·exact .inr ⟨s,k1,k2,by rw[b8_,k3,gH_]⟩
  ·by_cases ex:l.n=x
   ·rw[← ex];exact S.l1.oc D S.l2 (c2_ h2)
   ·exact D.kl x (by rw[← bf_ ex];exact hx)
  ·have hm2:oc m (fl (one l.n r) (sg W.K x))≠0:=by rw[← b8_];exact hm'
   obtain⟨z,hz,hz2⟩:=mZ_ _ hm2;have hzL:=D.km x hx z hz
   by_cases ez:z=l.n
   ·rw[ez,bl_] at hz2
    exact S.r1.oc D S.r2 hz2
   ·rw[bU_ _ ez,hW_] at hz2
    split at hz2
    ·next e3=>rw[← e3];exact hzL
    ·exact absurd rfl hz2
  ·show Al _ (sg (W.K++[(l.n,r)]) x)
   rw[b8_];refine f5_ (ed_ _ _) _ (D.kn x) fun y _=>?_;unfold one
   split
   ·exact S.r1.vn
   ·exact iu_ _ _ _
 | opn h h5 hc b b' hl hr =>
  have h5':r.kind=5:=(cz_ hc).1.symm.trans h5;refine⟨D.ko,D.ori,fun x hx=>?_,D.kr,D.kl,D.km,fun x=>(D.kn x).imp fun t=>dc_ (Nat.le_succ _) t,?_⟩
  ·rcases List.mem_cons.1 hx with rfl|hx
   ·exact⟨S.l1.op D S.l2 h5 (by rw[hl];simp),S.r1.op D S.r2 h5' (by rw[hr];simp)⟩
   ·exact⟨(D.lf x hx).1.mono (Nat.le_succ _),(D.lf x hx).2.mono (Nat.le_succ _)⟩
  ·show W.fresh+1+acE (_ :: W.left)≤A0
   rw[il_];have a1:=sC_ (bo_ W.fresh) b 0;have a2:=sC_ (bo_ W.fresh) b' 0;rw[gX_ l,gX_ r,if_pos h5,if_pos h5',hl,hr,acL,acL,acL] at hfr;simp only;omega
 | parts h h2 h5 h6 hc =>
  have hk:=(cz_ hc).1;refine⟨D.ko,D.ori,fun x hx=>?_,D.kr,D.kl,D.km,D.kn,?_⟩
  ·rcases List.mem_append.1 hx with hx|hx
   ·have hz:=List.of_mem_zip (show (x.1,x.2)∈_ from hx)
    exact⟨(S.l1.arg D S.l2 h2 hz.1).1,(S.r1.arg D S.r2 (by rw[← hk];exact h2) hz.2).1⟩
   ·exact D.lf x hx
  ·show W.fresh+acE (l.args.zip r.args++W.left)≤A0
   rw[rf_];have:=re_ l.args r.args;rw[gX_ l,gX_ r] at hfr;omega
def PrF (f:Int→Ty):Prop:=∀ m,Pr (f m)
def Sol (f:Int→Ty)(e:EqT):Prop:=fl f e.1=fl f e.2
def lF_ (f:Int→Ty)(W:Wk):Prop:=Ext f W.K∧∀ e∈W.left,Sol f e
theorem fQ_ {p:Ty→Prop}(hp:∀ (t:Ty) (l:List Ty),p (.mk t.kind t.name t.n l)→p t)(h2:∀ t:Ty,t.kind=2→p t){f:Int→Ty} : ∀ t:Ty,Dw t→Al p (fl f t)→Al p t:=by
 intro t
 induction t using Ty.ind with
 | h t ih =>
  intro hd h
  by_cases k2:t.kind=2
  ·have e:=hd.here.k2 k2
   refine .mk t (h2 t k2) fun a ha=>?_;rw[e] at ha;cases ha
  ·rw[ay_ f k2] at h
   exact .mk t (hp t _ h.here) fun a ha=>ih a ha (hd.arg ha) (h.arg (a:=fl f a) (List.mem_map.2 ⟨a,ha,rfl⟩))
theorem qN_ {f:Ty→Ty} : ∀ {a b:List Ty},a.length=b.length→(a.map f=b.map f↔∀ e∈a.zip b,f e.1=f e.2):=by
 intro a
 induction a with
 | nil =>
  intro b h;cases b with
  | nil=>simp
  | cons y b=>cases h
 | cons x a ih =>
  intro b h;cases b with
  | nil=>cases h
  | cons y b =>
   rw[List.map_cons,List.map_cons,List.zip_cons_cons];have:=ih (b:=b) (by simpa using h)
   constructor
   ·intro e e1 he
    injection e with e2 e3
    rcases List.mem_cons.1 he with rfl|he
    ·exact e2
    ·exact this.1 e3 e1 he
   ·intro e
    rw[show f x=f y from e (x,y) (by simp),this.2 fun e1 he=>e e1 (by simp[he])]
theorem Dst.sol {W W':Wk}{l r:Ty}(D:DI L n NL A0 W)(hN:lI_ NL)(S:Sd W L n NL l r)(h:Dst W l r (.ok W')){f:Int→Ty}(hf:PrF f):(lF_ f W∧fl f l=fl f r)↔lF_ f W':=by
 cases h with
 | same h=>exact⟨fun k=>k.1,fun k=>⟨k,by rw[h]⟩⟩
 | learn h h2 ho hp =>
  obtain⟨e,hl,hm⟩:=S.unb D h2;have e1:fl f l=f l.n:=a0_ f h2;rw[e1]
  constructor
  ·rintro ⟨⟨k1,k2⟩,k3⟩
   exact⟨(h9_ hm).2 ⟨k1,k3⟩,k2⟩
  ·rintro ⟨k1,k2⟩
   obtain⟨k3,k4⟩:=(h9_ hm).1 k1;exact⟨⟨k3,k2⟩,k4⟩
 | opn h h5 hc b b' hl hr =>
  have h5':r.kind=5:=(cz_ hc).1.symm.trans h5;have hbl:b∈l.args:=by rw[hl];simp
  have hbr:b'∈r.args:=by rw[hr];simp
  have hnew:∀ {t:Ty},Al (VOk NL W.fresh) t→Al (fun t=>t.kind=1→t.name≠bo_ W.fresh) t:=fun h=>h.imp fun t ht=>pU_ hN ht;have key:=oz_ (bo_ W.fresh) (f:=f) (fun m=>⟨(hf m).dw,(hf m).no6,(hf m).nov (fj_ _)⟩) (S.l1.dw.arg hbl) (S.r1.dw.arg hbr) (hnew (S.l1.vn.arg hbl)) (hnew (S.r1.vn.arg hbr));have e1:fl f l=fl f r↔fl f b=fl f b':=by
   rw[ay_ f (by omega),ay_ f (t:=r) (by omega),hl,hr,h5,h5',(S.l1.dw.here.k5 h5).1,(S.l1.dw.here.k5 h5).2.1,(S.r1.dw.here.k5 h5').1,(S.r1.dw.here.k5 h5').2.1];simp
  rw[e1,key]
  constructor
  ·rintro ⟨⟨k1,k2⟩,k3⟩
   refine⟨k1,fun e he=>?_⟩
   rcases List.mem_cons.1 he with rfl|he
   ·exact k3
   ·exact k2 e he
  ·rintro ⟨k1,k2⟩
   exact⟨⟨k1,fun e he=>k2 e (by simp[he])⟩,k2 (opB (bo_ W.fresh) 0 b,opB (bo_ W.fresh) 0 b') (by simp)⟩
 | parts h h2 h5 h6 hc =>
  obtain⟨hk,h1,hnm,hlen⟩:=cz_ hc;have hn:l.n=r.n:=by
   have dl:=S.l1.dw.here;have dr:=S.r1.dw.here;have:=dl.kind;have c34:l.kind=3∨l.kind=4:=by omega
   rcases c34 with c|c
   ·rw[dl.k3 c,dr.k3 (by omega)]
   ·rw[(dl.k4 c).2.1,(dr.k4 (by omega)).2.1]
  have e1:fl f l=fl f r↔∀ e∈l.args.zip r.args,fl f e.1=fl f e.2:=by
   rw[ay_ f h2,ay_ f (t:=r) (by omega),← hk,← hnm h5,← hn,← qN_ hlen];simp
  rw[e1]
  constructor
  ·rintro ⟨⟨k1,k2⟩,k3⟩
   refine⟨k1,fun e he=>?_⟩
   rcases List.mem_append.1 he with he|he
   ·exact k3 e he
   ·exact k2 e he
  ·rintro ⟨k1,k2⟩
   exact⟨⟨k1,fun e he=>k2 e (by simp[he])⟩,fun e he=>k2 e (by simp[he])⟩
theorem Dst.err {W:Wk}{l r:Ty}{er:Nat}(S:Sd W L n NL l r)(h:Dst W l r (.error er)){f:Int→Ty}(hf:PrF f):fl f l≠fl f r:=by
 intro e;cases h with
 | occurs h h2 ho =>
  rw[a0_ f h2] at e;have r2:r.kind≠2:=fun r2=>h (by
   have e1:=c4_ S.l1.dw h2;have e2:=c4_ S.r1.dw r2;rw[e2,hW_] at ho
   split at ho
   ·next e3=>rw[e1,e2,e3]
   ·exact absurd rfl ho)
  have:=(fO_ (f:=f) r ho).2 r2;rw[e] at this;exact Nat.lt_irrefl _ this
 | poly h h2 ho hp =>
  rw[a0_ f h2] at e;refine hp (fQ_ (fun t l h=>h) (fun t h=>by omega) r S.r1.dw (f:=f) ?_);rw[← e];exact (hf _).no5
 | esc h h2 ho hp hd =>
  rw[a0_ f h2] at e;refine hd (fQ_ (fun t l h=>h) (fun t h h1=>by omega) r S.r1.dw (f:=f) ?_);rw[← e];exact (ln_ (hf _)).2
 | clash h h2 hc =>
  have r2:r.kind≠2:=fun r2=>h2 (S.sw r2).1;rw[ay_ f h2,ay_ f r2] at e;injection e with e1 e2 e3 e4
  have hlen:l.args.length=r.args.length:=by have:=congrArg List.length e4;simpa using this
  unfold bg_ at hc;simp only[Bool.or_eq_true,bne_iff_ne,ne_eq,beq_iff_eq,Bool.and_eq_true,Bool.not_eq_true',fi_] at hc
  rcases hc with ((hc|hc)|hc)|hc
  ·exact hc e1
  ·have r1:r.kind=1:=e1.symm.trans hc
   refine h ?_;rw[← ce_ l,← ce_ r,e1,e2,e3,(S.l1.dw.here.k1 hc).2,(S.r1.dw.here.k1 r1).2]
  ·exact hc.1 e2
  ·exact hc hlen
def phi (f:Int→Ty)(es:List EqT):Nat:=(es.map fun e=>(fl f e.1).size+(fl f e.2).size).sum
theorem dR_ (f:Int→Ty)(e:EqT)(es:List EqT):phi f (e :: es)=(fl f e.1).size+(fl f e.2).size+phi f es:=by unfold phi;rw[List.map_cons,List.sum_cons]
theorem qv_ (f:Int→Ty)(a b:List EqT):phi f (a++b)=phi f a+phi f b:=by unfold phi;rw[List.map_append,List.sum_append]
theorem qu_ (f:Int→Ty):∀ a b:List Ty,phi f (a.zip b)≤af_ (a.map (fl f))+af_ (b.map (fl f)):=by
 intro a
 induction a with
 | nil=>intro b;exact Nat.zero_le _
 | cons x a ih =>
  intro b;cases b with
  | nil=>exact Nat.zero_le _
  | cons y b =>
   rw[List.zip_cons_cons,dR_,List.map_cons,List.map_cons,af_,af_];have:=ih b;simp only;omega
theorem jz_ (f:Int→Ty):∀ es:List EqT,es.length≤phi f es:=by
 intro es
 induction es with
 | nil=>exact aC_ _
 | cons e es ih=>rw[dR_,List.length_cons];have:=et_ (fl f e.1);omega
theorem fe_ {f:Int→Ty}{t:Ty}(h:t.kind≠2):(fl f t).size=af_ (t.args.map (fl f))+1:=by rw[ay_ f h,Ty.size_eq];rfl
theorem Dst.phi {W W':Wk}{l r:Ty}(S:Sd W L n NL l r)(h:Dst W l r (.ok W'))(f:Int→Ty):Tp.phi f W'.left+1≤Tp.phi f W.left+(fl f l).size+(fl f r).size:=by
 have p1:=et_ (fl f l);cases h with
 | same h=>omega
 | learn h h2 ho hp=>show Tp.phi f W.left+1≤_;omega
 | opn h h5 hc b b' hl hr =>
  have h5':r.kind=5:=(cz_ hc).1.symm.trans h5;show Tp.phi f (_ :: W.left)+1≤_;rw[dR_,hz_ _ f b 0 (S.l1.dw.arg (by rw[hl];simp)),hz_ _ f b' 0 (S.r1.dw.arg (by rw[hr];simp)),fe_ (t:=l) (by omega),fe_ (t:=r) (by omega),hl,hr];simp only[List.map_cons,List.map_nil,af_];omega
 | parts h h2 h5 h6 hc =>
  have hk:=(cz_ hc).1;show Tp.phi f (l.args.zip r.args++W.left)+1≤_;rw[qv_,fe_ h2,fe_ (t:=r) (by omega)];have:=qu_ f l.args r.args;omega
theorem Dst.ext {W W':Wk}{l r:Ty}(D:DI L n NL A0 W)(S:Sd W L n NL l r)(h:Dst W l r (.ok W')){f:Int→Ty}(hf:Ext f W'.K):Ext f W.K:=by
 cases h with
 | learn h h2 ho hp=>exact ((h9_ (S.unb D h2).2.2).1 hf).1
 | same|opn|parts=>exact hf
theorem kB_:∀ {l m:List Int},l.Nodup→(∀ x∈l,x∈m)→l.length≤m.length:=by
 intro l
 induction l with
 | nil=>intro m _ _;simp
 | cons x l ih =>
  intro m hn h;rw[List.nodup_cons] at hn;obtain⟨a,b,rfl⟩:=List.append_of_mem (h x (by simp));have:=ih (m:=a++b) hn.2 fun y hy=>by
   have hm:=h y (by simp[hy]);have hne:y≠x:=fun e=>hn.1 (e ▸ hy);simp only[List.mem_append,List.mem_cons] at hm ⊢
   rcases hm with hm|hm|hm
   ·exact .inl hm
   ·exact absurd hm hne
   ·exact .inr hm
  simp only[List.length_append,List.length_cons] at this ⊢;omega
theorem sA_ (x:ByteArray):∀ t:Ty,Al (fun t=>t.kind=1→t.name≠x) t→noP (gC_ x) t:=by
 intro t
 induction t using Ty.ind with
 | h t ih =>
  intro h;rw[gw_];refine⟨?_,fun a ha=>ih a ha (h.arg ha)⟩;show (t.kind==1&&eqN t.name x)=false
  by_cases h1:t.kind=1
  ·rw[(fi_ _ _).2 (h.here h1),Bool.and_false]
  ·rw[beq_eq_false_iff_ne.2 h1,Bool.false_and]
theorem fv_no (x:ByteArray):∀ (t:Ty) (env:List ByteArray),Std t→fvT x t→x∉env→¬ noP (gC_ x) (dbT env t):=by
 intro t
 induction t using Ty.ind with
 | h t ih =>
  intro env hs hf hx hn
  by_cases h5:t.kind=5
  ·rw[aK_ _ _ h5,dB_] at hn
   rcases (aD_ x t).1 hf with ⟨h1,_⟩|⟨⟨a,ha,hxa⟩,h2⟩
   ·omega
   ·have hne:x≠t.name:=fun e=>h2 ⟨h5,e.symm⟩
    exact ih a ha (t.name :: env) (hs.args a ha) hxa (by simp[hne,hx]) (hn.2 _ (List.mem_map.2 ⟨a,ha,rfl⟩))
  ·by_cases h1:t.kind=1
   ·rw[a1_ _ _ h1] at hn
    rcases (aD_ x t).1 hf with ⟨_,e⟩|⟨⟨a,ha,_⟩,_⟩
    ·unfold dC_ at hn
     rw[e,(dh_ env x).2 hx,dB_] at hn;have:=hn.1;rw[b6_,(aH_ x x).2 rfl] at this;cases this
    ·rw[(hs.k1 h1).2] at ha;cases ha
   ·rw[az_ _ _ h1 h5,dB_] at hn
    rcases (aD_ x t).1 hf with ⟨e,_⟩|⟨⟨a,ha,hxa⟩,_⟩
    ·exact h1 e
    ·exact ih a ha env (hs.args a ha) hxa hx (hn.2 _ (List.mem_map.2 ⟨a,ha,rfl⟩))
theorem f7_ {NL:List ByteArray}{fr:Nat}{t:Ty}(hs:Std t)(h:Al (VOk NL fr) (dbT [] t)){x:ByteArray}(hx:x∈ai_ t):x∈NL∨∃ j,j<fr∧x=bo_ j :=
 Classical.byContradiction fun hn=>fv_no x t [] hs ((bm_ x t).1 hx) (by simp) (sA_ x _ (h.imp fun t ht h1 e=>hn (by rw[← e];exact ht.1 h1)))
theorem jq_ {NL:List ByteArray}{fr:Nat}{t:Ty}(hs:Std t)(h:Al (VOk NL fr) (dbT [] t)):(Tp.ai_ t).length≤NL.length+fr:=by
 have:=jH_ (m:=NL++(List.range fr).map bo_) (eV_ t) fun x hx=>by
  rcases f7_ hs h hx with h|⟨j,hj,h⟩
  ·simp[h]
  ·exact List.mem_append.2 (.inr (List.mem_map.2 ⟨j,List.mem_range.2 hj,h.symm⟩))
 simpa using this
theorem kJ_ (n:Nat):NmW (bo_ n).data.toList:=by
 unfold bo_;rw[cZ_];refine⟨⟨by simp,fun c hc=>?_⟩,show aV_ 36=false by decide,show (36:UInt8)≠63 by decide,fun e=>?_⟩
 ·rcases List.mem_cons.1 hc with rfl|hc
  ·decide
  ·exact gM_ ((dI_ n).1 c hc)
 ·injection e with e _;exact absurd e (by decide)
theorem d7_ {NL:List ByteArray}(hN:lI_ NL){fr:Nat}{t:Ty}(h:Al (VOk NL fr) t):rp_ t:=h.imp fun t ht=>⟨fun h1=>by
 rcases ht.1 h1 with h|⟨j,_,h⟩
 ·exact (hN _ h).2
 ·rw[h];exact kJ_ j,ht.2⟩
theorem eI_ {t:Ty}(h:Std t):(dbT [] t).kind=t.kind∧(dbT [] t).n=t.n∧(t.kind≠5→(dbT [] t).name=t.name)∧(dbT [] t).args.length=t.args.length:=by
 by_cases h5:t.kind=5
 ·rw[aK_ _ _ h5]
  exact⟨h5.symm,(h.k5 h5).1.symm,fun e=>absurd h5 e,by show (List.map _ _).length=_;rw[List.length_map]⟩
 ·by_cases h1:t.kind=1
  ·rw[a1_ _ _ h1]
   exact⟨h1.symm,rfl,fun _=>rfl,by show ([]:List Ty).length=_;rw[(h.k1 h1).2]⟩
  ·rw[az_ _ _ h1 h5]
   exact⟨rfl,rfl,fun _=>rfl,by show (List.map _ _).length=_;rw[List.length_map]⟩
theorem bJ_:∀ t:Ty,Std t→Al (fun t=>t.kind≠5) t→dbT [] t=t:=by
 intro t
 induction t using Ty.ind with
 | h t ih =>
  intro hs h
  by_cases h1:t.kind=1
  ·rw[a1_ _ _ h1,(hs.k1 h1).1]
   show Ty.mk 1 t.name 0 []=t;have e:=ce_ t;rw[h1,(hs.k1 h1).1,(hs.k1 h1).2] at e;exact e
  ·rw[az_ _ _ h1 h.here,c3_ fun a ha=>ih a ha (hs.args a ha) (h.arg ha),ce_]
theorem i9_:∀ (t:Ty) (env:List ByteArray),Std t→(Al (fun t=>t.kind≠5) (dbT env t)↔Al (fun t=>t.kind≠5) t):=by
 intro t
 induction t using Ty.ind with
 | h t ih =>
  intro env hs
  by_cases h5:t.kind=5
  ·rw[aK_ _ _ h5]
   exact⟨fun h=>absurd rfl h.here,fun h=>absurd h5 h.here⟩
  ·by_cases h1:t.kind=1
   ·rw[a1_ _ _ h1]
    refine⟨fun _=>.mk t h5 fun a ha=>(by rw[(hs.k1 h1).2] at ha;cases ha),fun _=>?_⟩;unfold dC_;cases ixN env t.name with
    | none=>exact .mk _ (by show (1:Int)≠5;decide) fun a ha=>by cases ha
    | some i=>exact .mk _ (by show (6:Int)≠5;decide) fun a ha=>by cases ha
   ·rw[az_ _ _ h1 h5]
    constructor
    ·exact fun h=>.mk t h5 fun a ha=>(ih a ha env (hs.args a ha)).1 (h.arg (List.mem_map.2 ⟨a,ha,rfl⟩))
    ·refine fun h=>.mk _ h5 fun b hb=>?_
     obtain⟨a,ha,rfl⟩:=List.mem_map.1 hb;exact (ih a ha env (hs.args a ha)).2 (h.arg ha)
theorem fG_:∀ t:Ty,eR_ t=false↔Al (fun t=>t.kind≠5) t:=by
 intro t
 induction t using Ty.ind with
 | h t ih =>
  rw[km_,Bool.or_eq_false_iff,beq_eq_false_iff_ne,List.any_eq_false,nD_]
  constructor
  ·exact fun h=>⟨h.1,fun a ha=>(ih a ha).1 (by simpa using h.2 a ha)⟩
  ·exact fun h=>⟨h.1,fun a ha=>by simpa using (ih a ha).2 (h.2 a ha)⟩
theorem l9_:∀ t:Ty,Std t→Al (fun t=>t.kind≠6) t:=by
 intro t
 induction t using Ty.ind with
 | h t ih=>exact fun hs=>.mk t (by have:=hs.kind;omega) fun a ha=>ih a ha (hs.args a ha)
def LIM:Nat:=2013265920
def Ti (NL:List ByteArray)(fr:Nat)(X:Ty):Prop:=X.size≤LIM∧Al (VOk NL fr) X
theorem lZ_ {NL:List ByteArray}{fr:Nat}(hl:NL.length+fr≤3000000){t:Ty}(hs:Std t)(h:Ti NL fr (dbT [] t)):smB t=true:=by
 refine decide_eq_true ⟨?_,cj_ (jq_ hs h.2) hl⟩;have:=h.1;rw[cJ_ t hs] at this;unfold LIM at this;omega
def pt (K:Kn)(ms:List Int):Int→Ty:=fun x=>if x∈ms then sg K x else mt x
theorem kH_ {K:Kn}(F:KF K){NL:List ByteArray}{fr:Nat}(hl:NL.length+fr≤3000000)(hk:∀ x,Al (VOk NL fr) (sg K x)){g:Ty→Option Ty} : ∀ (ms:List Int) (acc:Ty),Std acc→aY_ acc →
  (∀ m∈ms,∀ u,lkK K m=some u→∃ u',g u=some u'∧dbT [] u'=sg K m∧Std u'∧aY_ u'∧smB u'=true)→Al (VOk NL fr) (dbT [] acc)→(fl (sg K) (dbT [] acc)).size≤LIM →
  ∃ t',dH_ g K ms acc=some t'∧dbT [] t'=fl (pt K ms) (dbT [] acc)∧Std t'∧aY_ t':=by
 intro ms
 induction ms with
 | nil =>
  intro acc hs hg _ _ _;refine⟨acc,rfl,?_,hs,hg⟩;rw[gJ_ _ (d6_ acc [] hs) fun m _=>by unfold pt;rw[if_neg (by simp)]]
 | cons m ms ih =>
  intro acc hs hg hf hv hz;rw[dH_];cases hlk:lkK K m with
  | none =>
   simp only;obtain⟨t',h1,h2,h3⟩:=ih acc hs hg (fun x hx=>hf x (by simp[hx])) hv hz;refine⟨t',h1,?_,h3⟩;rw[h2];refine bI_ _ fun x _=>?_;unfold pt
   by_cases hx:x∈ms
   ·rw[if_pos hx,if_pos (by simp[hx])]
   ·rw[if_neg hx]
    by_cases e:x=m
    ·subst e;rw[if_pos (by simp),F.unb x hlk]
    ·rw[if_neg (by simp[e,hx])]
  | some u =>
   simp only;obtain⟨u',hu,hd,us,ug,um⟩:=hf m (by simp) u hlk;rw[hu];simp only;have hdb:dbT [] (bH_ m u' acc)=fl (one m (sg K m)) (dbT [] acc):=by
    rw[fl_ m u' acc hs,hd,mg_ m _ _ (d6_ acc [] hs)]
   have hsz:(dbT [] (bH_ m u' acc)).size≤(fl (sg K) (dbT [] acc)).size:=by
    rw[hdb];refine cG_ _ fun x _=>?_
    by_cases e:x=m
    ·subst e;rw[bl_];exact aC_ _
    ·rw[bU_ _ e];exact et_ _
   have hv':Al (VOk NL fr) (dbT [] (bH_ m u' acc)):=by
    rw[hdb];refine f5_ (ed_ _ _) _ hv fun x _=>?_;unfold one
    split
    ·exact hk m
    ·exact iu_ _ _ _
   have hs':Std (bH_ m u' acc):=ei_ m u' acc hs us;have hb:smB (bH_ m u' acc)=true:=lZ_ hl hs' ⟨cj_ hsz hz,hv'⟩;rw[um,hb];simp only[Bool.and_self,if_true];have hg':aY_ (bH_ m u' acc):=by
    have h1:=(of_decide_eq_true um).1;have h2:acc.size≤(fl (sg K) (dbT [] acc)).size:=by
     rw[← cJ_ acc hs [],← gJ_ (f:=mt) (dbT [] acc) (d6_ acc [] hs) fun _ _=>rfl,ff_];exact cG_ _ fun x _=>by rw[cK_];exact et_ _
    unfold LIM at hz;exact dG_ m u' acc hg ug (by omega) (by omega)
   have hid:fl (sg K) (dbT [] (bH_ m u' acc))=fl (sg K) (dbT [] acc):=by
    rw[hdb,ff_];refine bI_ _ fun x _=>?_
    by_cases e:x=m
    ·subst e;rw[bl_,F.idem]
    ·rw[bU_ _ e,cK_]
   obtain⟨t',h1,h2,h3⟩:=ih (bH_ m u' acc) hs' hg' (fun x hx=>hf x (by simp[hx])) hv' (by rw[hid];exact hz);refine⟨t',h1,?_,h3⟩;rw[h2,hdb,ff_];refine bI_ _ fun x _=>?_
   by_cases e:x=m
   ·subst e
    rw[bl_];unfold pt;rw[if_pos (by simp)];refine gJ_ _ (F.pr x).dw fun y hy=>?_
    split
    ·exact (F.free hy).1
    ·rfl
   ·rw[bU_ _ e,cK_]
    unfold pt
    by_cases hx:x∈ms
    ·rw[if_pos hx,if_pos (by simp[hx])]
    ·rw[if_neg hx,if_neg (by simp[e,hx])]
theorem qR_ {K:Kn}{x:Int}(h:lkK K x=none)(j:Nat):lkK (K.take j) x=none:=by
 rw[bh_] at h ⊢;intro hm;obtain⟨e,he,rfl⟩:=List.mem_map.1 hm;exact h (List.mem_map.2 ⟨e,List.mem_of_mem_take he,rfl⟩)
theorem KO.later {K:Kn}(h:KO K):∀ (j:Nat) (m:Int) (u:Ty),lkK K m=some u→lkK (K.take j) m=none→∀ z,oc z u≠0→lkK (K.take (j+1)) z=none:=by
 induction h with
 | nil=>intro j m u h;cases h
 | snoc K m0 t h h1 h2 h3 h4 ih =>
  intro j m u hu hn z hz
  by_cases e:m0=m
  ·subst e
   have:t=u:=by
    have:=(bM_ h1 t).symm.trans hu;injection this
   subst this;refine qR_ ?_ _;have hz2:=h.facts.freeT (t:=t) (y:=z) (by rw[h2];exact hz);rw[bf_ (by rintro rfl;exact hz h3)];exact hz2.2
  ·rw[bf_ e] at hu
   by_cases hj:j+1≤K.length
   ·rw[List.take_append_of_le_length hj]
    rw[List.take_append_of_le_length (by omega)] at hn;exact ih j m u hu hn z hz
   ·exfalso
    rw[bh_] at hn;refine hn (List.mem_map.2 ⟨(m,u),?_,rfl⟩);rw[List.take_append];exact List.mem_append.2 (.inl (by rw[List.take_of_length_le (by omega)];exact jG_ hu))
theorem gL_ {K:Kn}(ko:KO K)(kv:∀ x u,lkK K x=some u→Std u∧aY_ u){NL:List ByteArray}{fr:Nat}(hl:NL.length+fr≤3000000)(hk:∀ x,Al (VOk NL fr) (sg K x)):∀ (n j:Nat) (t:Ty),K.length≤n+j→Std t→aY_ t →
  (∀ z,oc z (dbT [] t)≠0→lkK (K.take j) z=none)→Al (VOk NL fr) (dbT [] t)→(fl (sg K) (dbT [] t)).size≤LIM→∃ t',dX_ (n+1) K t=some t'∧dbT [] t'=fl (sg K) (dbT [] t)∧Std t'∧aY_ t':=by
 intro n;have F:=ko.facts
 induction n with
 | zero =>
  intro j t hj hs hg hb hv hz;have hnone:∀ z,oc z (dbT [] t)≠0→lkK K z=none:=fun z hz=>by
   have:=hb z hz;rwa [List.take_of_length_le (by omega)] at this
  obtain⟨t',h1,h2,h3⟩:=kH_ F hl hk (g:=dX_ 0 K) (ap_ t) t hs hg (fun m hm u hu=>by
   rw[hnone m ((aT_ hs).1 hm)] at hu;cases hu) hv hz
  refine⟨t',h1,?_,h3⟩;rw[h2];exact bI_ _ fun x hx=>by unfold pt;rw[if_pos ((aT_ hs).2 hx)]
 | succ n ih =>
  intro j t hj hs hg hb hv hz;obtain⟨t',h1,h2,h3⟩:=kH_ F hl hk (g:=dX_ (n+1) K) (ap_ t) t hs hg (fun m hm u hu=>by
   have hm':=(aT_ hs).1 hm;obtain⟨us,ug⟩:=kv m u hu;obtain⟨e1,_,up⟩:=F.bnd m u hu;have ed:dbT [] u=u:=bJ_ u us up.no5;have hsz:(sg K m).size≤LIM:=cj_ (fO_ (f:=sg K) _ hm').1 hz;have hvu:Al (VOk NL fr) u:=fQ_ (f:=sg K) (fun t l h=>h) (fun t h=>⟨fun h1=>by omega,fun h1=>by omega⟩) u up.dw (by rw[← e1];exact hk m);obtain⟨u',a1,a2,a3,a4⟩:=ih (j+1) u (by omega) us ug (by rw[ed];exact ko.later j m u hu (hb m hm')) (by rw[ed];exact hvu) (by rw[ed,← e1];exact hsz);rw[ed,← e1] at a2;exact⟨u',a1,a2,a3,a4,lZ_ hl a3 (by rw[a2];exact⟨hsz,hk m⟩)⟩) hv hz
  refine⟨t',h1,?_,h3⟩;rw[h2];exact bI_ _ fun x hx=>by unfold pt;rw[if_pos ((aT_ hs).2 hx)]
abbrev dbE (e:EqT):EqT:=(dbT [] e.1,dbT [] e.2)
def dW (W:Wk):Wk:=⟨W.K,W.left.map dbE,W.fresh⟩
structure NI (W:Wk):Prop where
 lf:∀ e∈W.left,(Std e.1∧aY_ e.1)∧(Std e.2∧aY_ e.2)
 kv:∀ x u,lkK W.K x=some u→Std u∧aY_ u
structure Co (L:List Int)(n:Int→Nat)(NL:List ByteArray)(A0:Nat):Prop where
 ll:L.length≤90
 sn:sm L n≤24
 nl:NL.length+A0≤2000000
 a0:A0<1000000
 nn:lI_ NL
section
variable {L : List Int} {n : Int → Nat} {NL : List ByteArray} {A0 : Nat}
theorem DI.klen {W:Wk}(D:DI L n NL A0 W):W.K.length≤L.length:=by
 have:=kB_ D.ko.nodup fun x hx=>D.kl x fun hn=>bh_.1 hn hx;rwa [List.length_map] at this
theorem EO.sz {W:Wk}(C:Co L n NL A0)(D:DI L n NL A0 W){x:Ty}(h:EO L n NL W.K W.fresh x):(fl (sg W.K) x).size≤LIM:=by
 obtain⟨s,hs,e⟩:=h.rp;rw[e];have h1:=fy_ (f:=sg W.K) (fun x _=>(D.kr x).imp (fun h2=>by
  rw[c4_ (D.ko.facts.pr x).dw h2];exact aC_ _) id) hs
 have h2:2 ^ sm L n≤2 ^ 24:=Nat.pow_le_pow_right (by omega) C.sn;have h3:(2:Nat) ^ 24=16777216:=by decide
 unfold LIM;omega
theorem md_ {W:Wk}(C:Co L n NL A0)(D:DI L n NL A0 W)(x:Int):(sg W.K x).size≤LIM:=by
 rcases D.kr x with h|⟨s,_,hs,e⟩
 ·rw[c4_ (D.ko.facts.pr x).dw h];show 1≤LIM;unfold LIM;omega
 ·rw[e]
  have h1:=fy_ (f:=sg W.K) (fun x _=>(D.kr x).imp (fun h2=>by
   rw[c4_ (D.ko.facts.pr x).dw h2];exact aC_ _) id) hs
  have h2:2 ^ sm L n≤2 ^ 24:=Nat.pow_le_pow_right (by omega) C.sn;have h3:(2:Nat) ^ 24=16777216:=by decide
  unfold LIM;omega
theorem gQ_ {t x:Ty}(c:ByteArray)(hs:Std t)(hx:t.args=[x]):dbT [] (opT t c)=opB c 0 (dbT [t.name] x):=by
 have hsx:Std x:=hs.args x (by rw[hx];simp);have e:opT t c=f6_ t.name (.mk 1 c 0 []) x:=by unfold opT cm_;rw[hx]
 rw[e,q4_ _ _ _ hsx];exact (op_db c t.name x [] hsx).symm
theorem fw_ {t x:Ty}(c:ByteArray)(hs:Std t)(hx:t.args=[x]):Std (opT t c):=by
 have e:opT t c=f6_ t.name (.mk 1 c 0 []) x:=by unfold opT cm_;rw[hx]
 rw[e];exact ph_ _ _ _ (hs.args x (by rw[hx];simp)) (hK_ c)
theorem gf_ {l r:Ty}(sl:Std l)(sr:Std r):bg_ (dbT [] l) (dbT [] r)=bg_ l r:=by
 obtain⟨a1,a2,a3,a4⟩:=eI_ sl;obtain⟨b1,b2,b3,b4⟩:=eI_ sr;unfold bg_;rw[a1,b1,a4,b4]
 by_cases hk:l.kind=r.kind
 ·by_cases h5:l.kind=5
  ·rw[h5];simp
  ·rw[a3 h5,b3 (by rw[← hk];exact h5)]
 ·rw[show (l.kind != r.kind)=true from bne_iff_ne.2 hk]
  simp
theorem cF_ {l:List ByteArray} : fX_ l=false↔∀ s∈l,e0_ s=false:=by
 unfold fX_ e0_;rw[List.any_eq_false];exact⟨fun h s hs=>by simpa using h s hs,fun h s hs=>by simpa using h s hs⟩
theorem fd_:∀ t:Ty,Std t→Al (fun t=>t.kind≠5) t→((∀ s∈Tp.ai_ t,e0_ s=false)↔Al (fun t=>t.kind=1→e0_ t.name=false) t):=by
 intro t hs h5;have key:∀ t:Ty,Std t→Al (fun t=>t.kind≠5) t→((∀ s,fvT s t→e0_ s=false)↔Al (fun t=>t.kind=1→e0_ t.name=false) t):=by
  intro t
  induction t using Ty.ind with
  | h t ih =>
   intro hs h5
   constructor
   ·intro h
    exact .mk t (fun h1=>h _ ((aD_ _ t).2 (.inl ⟨h1,rfl⟩))) fun a ha=>(ih a ha (hs.args a ha) (h5.arg ha)).1 fun s hf=>h s ((aD_ s t).2 (.inr ⟨⟨a,ha,hf⟩,fun e=>h5.here e.1⟩))
   ·intro h s hf
    rcases (aD_ s t).1 hf with ⟨h1,rfl⟩|⟨⟨a,ha,hfa⟩,_⟩
    ·exact h.here h1
    ·exact (ih a ha (hs.args a ha) (h5.arg ha)).2 (h.arg ha) s hfa
 rw[← key t hs h5];exact⟨fun h s hf=>h s ((bm_ s t).2 hf),fun h s hf=>h s ((bm_ s t).1 hf)⟩
theorem qc_ (C:Co L n NL A0){W:Wk}(N:NI W)(D:DI L n NL A0 (dW W)){l r:Ty}(sl:Std l)(gl:aY_ l)(sr:Std r)(gr:aY_ r)(S:Sd (dW W) L n NL (dbT [] l) (dbT [] r))(hac:W.fresh+acE (W.left.map dbE)+ac (dbT [] l)+ac (dbT [] r)≤A0) :
  (∃ er,f9_ W l r=some (.error er)∧Dst (dW W) (dbT [] l) (dbT [] r) (.error er))∨∃ W',f9_ W l r=some (.ok W')∧NI W'∧Dst (dW W) (dbT [] l) (dbT [] r) (.ok (dW W')):=by
 obtain⟨a1,a2,a3,a4⟩:=eI_ sl;obtain⟨b1,b2,b3,b4⟩:=eI_ sr;have hcan:=dK_ sl sr (d7_ C.nn S.l1.vn) (d7_ C.nn S.r1.vn);unfold f9_
 by_cases hc:aM_ l=aM_ r
 ·rw[if_pos hc]
  exact .inr ⟨W,rfl,N,.same (hcan.1 hc)⟩
 rw[if_neg hc];have hne:dbT [] l≠dbT [] r:=fun e=>hc (hcan.2 e)
 by_cases h2:l.kind=2
 ·rw[if_pos h2]
  have k2:(dbT [] l).kind=2:=by rw[a1];exact h2
  obtain⟨e1,e2,e3⟩:=S.unb D k2;rw[a2] at e1 e2 e3;have hcond:((lkK W.K l.n).isSome || (Tp.ai_ r).any fun s=>s.size==0)=false:=by
   rw[show lkK W.K l.n=none from e2,Option.isSome_none,Bool.false_or,List.any_eq_false];intro s hs;have hw:s.data.toList≠[]:=by
    rcases f7_ sr S.r1.vn hs with h|⟨j,_,h⟩
    ·exact (C.nn _ h).2.1.1
    ·rw[h];exact (kJ_ j).1.1
   intro h0;apply hw;have h0:s.data.size=0:=by simpa using h0
   exact List.eq_nil_of_length_eq_zero (by simpa using h0)
  rw[if_neg (by rw[hcond];simp)];unfold hv_;have hoc:l.n∈ap_ r↔oc (dbT [] l).n (dbT [] r)≠0:=by rw[a2];exact aT_ sr
  by_cases hm:l.n∈ap_ r
  ·rw[if_pos (by simpa using hm)]
   exact .inl ⟨41,rfl,.occurs hne k2 (hoc.1 hm)⟩
  ·rw[if_neg (by simpa using hm)]
   have ho:oc (dbT [] l).n (dbT [] r)=0:=Classical.byContradiction fun h=>hm (hoc.2 h);cases hp:eR_ r with
   | true =>
    rw[if_pos rfl];refine .inl ⟨42,rfl,.poly hne k2 ho fun h=>?_⟩;rw[i9_ r [] sr,← fG_,hp] at h;cases h
   | false =>
    rw[if_neg (by decide)];have n5:Al (fun t=>t.kind≠5) r:=(fG_ r).1 hp;have er:=bJ_ r sr n5;cases hd:fX_ (Tp.ai_ r) with
    | true =>
     rw[if_pos rfl];refine .inl ⟨43,rfl,.esc hne k2 ho (by rw[er];exact n5) fun h=>?_⟩;rw[er,← fd_ r sr n5,← cF_,hd] at h;cases h
    | false =>
     rw[if_neg (by decide)];have nd:Al (fun t=>t.kind=1→e0_ t.name=false) r:=(fd_ r sr n5).1 ((cF_).1 hd);have hpr:Pr (dbT [] r):=by
      have h1:=S.r1.dw;rw[er] at h1 ⊢;exact (h1.and (n5.and ((l9_ r sr).and nd))).imp fun _ h=>h
     refine .inr ⟨⟨W.K++[(l.n,r)],W.left,W.fresh⟩,rfl,⟨N.lf,fun x u hx=>?_⟩,?_⟩
     ·by_cases ex:l.n=x
      ·subst ex
       have:=(bM_ (show lkK W.K l.n=none from e2) r).symm.trans hx;injection this with this
       subst this;exact⟨sr,gr⟩
      ·exact N.kv x u ((bf_ ex).symm.trans hx)
     ·have h:=Dst.learn (W:=dW W) hne k2 ho hpr
      rw[a2] at h;have e4:(⟨(dW W).K++[(l.n,dbT [] r)],(dW W).left,(dW W).fresh⟩:Wk)=dW ⟨W.K++[(l.n,r)],W.left,W.fresh⟩:=by rw[er];rfl
      rw[e4] at h;exact h
 rw[if_neg h2];have k2:(dbT [] l).kind≠2:=by rw[a1];exact h2
 cases hcl:bg_ l r with
 | true =>
  rw[if_pos rfl];exact .inl ⟨40,rfl,.clash hne k2 (by rw[gf_ sl sr];exact hcl)⟩
 | false =>
  rw[if_neg (by decide)];have hcl':bg_ (dbT [] l) (dbT [] r)=false:=by rw[gf_ sl sr];exact hcl
  have hk:l.kind=r.kind:=(cz_ hcl).1
  by_cases h5:l.kind=5
  ·rw[if_pos h5]
   have k5:(dbT [] l).kind=5:=by rw[a1];exact h5
   obtain⟨x,hx,_⟩:=dw_ sl h5;obtain⟨y,hy,_⟩:=dw_ sr (hk ▸ h5);have dl:(dbT [] l).args=[dbT [l.name] x]:=by rw[aK_ _ _ h5];show List.map _ _=_;rw[hx];rfl
   have dr:(dbT [] r).args=[dbT [r.name] y]:=by rw[aK_ _ _ (hk ▸ h5)];show List.map _ _=_;rw[hy];rfl
   have ol:=gQ_ (bo_ W.fresh) sl hx;have or_:=gQ_ (bo_ W.fresh) sr hy;have hfr:W.fresh<A0:=by
    rw[gX_,if_pos k5] at hac;omega
   have hnl:=C.nl;have ha0:=C.a0;have el:=S.l1.op D S.l2 k5 (b:=dbT [l.name] x) (by rw[dl];simp);have er:=S.r1.op D S.r2 (by rw[b1,← hk];exact h5) (b:=dbT [r.name] y) (by rw[dr];simp);have sz:∀ {t x:Ty},Std t→t.kind=5→t.args=[x]→EO L n NL W.K W.fresh (dbT [] t)→fl (sg W.K) (dbT [] t)=dbT [] t→EO L n NL W.K (W.fresh+1) (dbT [] (opT t (bo_ W.fresh)))→smB (opT t (bo_ W.fresh))=true:=by
    intro t x st t5 hx h1 h2 h3;refine lZ_ (NL:=NL) (fr:=W.fresh+1) (by omega) (fw_ _ st hx) ⟨?_,h3.vn⟩;rw[gQ_ _ st hx,jA_ _ _ _ (d6_ x _ (st.args x (by rw[hx];simp)))];have h4:=h1.sz C D;rw[show sg (dW W).K=sg W.K from rfl,h2,aK_ _ _ t5,Ty.size_eq] at h4;have h5:af_ (t.args.map (dbT [t.name]))+1≤LIM:=h4;rw[hx] at h5;simp only[List.map_cons,List.map_nil,af_] at h5;omega
   have s1:=sz sl h5 hx S.l1 S.l2 (by rw[ol];exact el);have s2:=sz sr (hk ▸ h5) hy S.r1 S.r2 (by rw[or_];exact er);rw[s1,s2];simp only[Bool.and_self,Bool.true_and];rw[if_pos (decide_eq_true (by omega))];have gt:∀ {t x:Ty},Std t→aY_ t→t.kind=5→t.args=[x]→(dbT [] t).size≤LIM→aY_ (opT t (bo_ W.fresh)):=by
    intro t x st gt t5 hx hz;have e:opT t (bo_ W.fresh)=f6_ t.name (.mk 1 (bo_ W.fresh) 0 []) x:=by unfold opT cm_;rw[hx]
    rw[cJ_ t st,t.size_eq,hx] at hz;simp only[af_] at hz;unfold LIM at hz;rw[e];exact g0_ t.name (.mk 1 (bo_ W.fresh) 0 []) x (aR_ gt _ (by rw[hx];simp)) (gd_ _ (fk_ _ (by omega))) (by omega) (by show (1:Nat)≤_;omega)
   have zl:(dbT [] l).size≤LIM:=by have h:=S.l1.sz C D;rwa [S.l2] at h
   have zr:(dbT [] r).size≤LIM:=by have h:=S.r1.sz C D;rwa [S.r2] at h
   refine .inr ⟨_,rfl,⟨fun e he=>?_,N.kv⟩,?_⟩
   ·rcases List.mem_cons.1 he with rfl|he
    ·exact⟨⟨fw_ _ sl hx,gt sl gl h5 hx zl⟩,fw_ _ sr hy,gt sr gr (hk ▸ h5) hy zr⟩
    ·exact N.lf e he
   ·have h:=Dst.opn (W:=dW W) hne k5 hcl' _ _ dl dr
    have e5:(⟨(dW W).K,(opB (bo_ (dW W).fresh) 0 (dbT [l.name] x),opB (bo_ (dW W).fresh) 0 (dbT [r.name] y)) :: (dW W).left,(dW W).fresh+1⟩:Wk)=dW ⟨W.K,(opT l (bo_ W.fresh),opT r (bo_ W.fresh)) :: W.left,W.fresh+1⟩:=by
     show _=Wk.mk W.K (List.map dbE (_ :: W.left)) (W.fresh+1);rw[List.map_cons];show _=Wk.mk W.K ((dbT [] (opT l (bo_ W.fresh)),dbT [] (opT r (bo_ W.fresh))) :: _) _;rw[ol,or_];rfl
    rw[e5] at h;exact h
  ·rw[if_neg h5]
   have h1:l.kind≠1:=(cz_ hcl).2.1;refine .inr ⟨_,rfl,⟨fun e he=>?_,N.kv⟩,?_⟩
   ·rcases List.mem_append.1 he with he|he
    ·have hz:=List.of_mem_zip (show (e.1,e.2)∈_ from he)
     exact⟨⟨sl.args _ hz.1,aR_ gl _ hz.1⟩,sr.args _ hz.2,aR_ gr _ hz.2⟩
    ·exact N.lf e he
   ·have hk2:=sl.kind
    have h:=Dst.parts (W:=dW W) hne k2 (by rw[a1];exact h5) (by rw[a1];omega) hcl';have e5:(⟨(dW W).K,(dbT [] l).args.zip (dbT [] r).args++(dW W).left,(dW W).fresh⟩:Wk)=dW ⟨W.K,l.args.zip r.args++W.left,W.fresh⟩:=by
     show _=Wk.mk W.K (List.map dbE (_++W.left)) W.fresh;rw[List.map_append,az_ _ l h1 h5,az_ _ r (hk ▸ h1) (hk ▸ h5)];show Wk.mk W.K ((l.args.map (dbT [])).zip (r.args.map (dbT []))++_) _=_;rw[List.zip_map];rfl
    rw[e5] at h;exact h
end
end Go.Proofs.YtjecnionbjlncaaGreatDoor.Tp

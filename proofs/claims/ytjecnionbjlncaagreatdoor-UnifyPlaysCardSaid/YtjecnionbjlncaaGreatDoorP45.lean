/- Packed. -/
import Derived.Test.YtjecnionbjlncaaGreatDoorP44
set_option maxRecDepth 100000
set_option maxHeartbeats 6400000
namespace Go.Proofs.YtjecnionbjlncaaGreatDoor.Tp
section
theorem jy_ (A:Kn)(x:Int × Ty)(m:Int):lkK (A++[x]) m=match lkK A m with|some u=>some u|none=>if x.1=m then some x.2 else none:=by
 unfold lkK;rw[List.find?_append];cases hf:A.find? (fun x=>x.1==m) with
 | none =>
  by_cases e:x.1=m
  ·simp[e]
  ·have:(x.1==m)=false:=beq_eq_false_iff_ne.2 e
   simp[e,this]
 | some y=>rfl
structure Ni (NL:List ByteArray)(fr:Nat)(X:Ty):Prop where
 st:Std X
 gd:ba_ X
 vn:Al (VOk NL fr) (dbT [] X)
 sz:(dbT [] X).size≤LIM
section
variable {NL : List ByteArray} {fr : Nat}
theorem Ni.small (hl:NL.length+fr≤3000000){X:Ty}(h:Ni NL fr X):b5_ X:=by
 have h1:=(of_decide_eq_true (o8_ hl h.st ⟨h.sz,h.vn⟩:smB X=true));exact⟨h.gd,by have:=h1.1;omega,by have:=h1.2;omega⟩
theorem Ni.fill {X u:Ty}(h:Ni NL fr X)(hu:Ni NL fr u)(m:Int)(hz:(fl (one m (dbT [] u)) (dbT [] X)).size≤LIM):Ni NL fr (ce_ m u X):=by
 have e:dbT [] (ce_ m u X)=fl (one m (dbT [] u)) (dbT [] X):=by rw[fC_ _ _ _ h.st,l7_ _ _ _ (cX_ X [] h.st)]
 have h1:=h.sz;have h2:=hu.sz;rw[bt_ X h.st] at h1;rw[bt_ u hu.st] at h2;unfold LIM at h1 h2;refine⟨fy_ _ _ _ h.st hu.st,dP_ m u X h.gd hu.gd (by omega) (by omega),?_,by rw[e];exact hz⟩;rw[e];refine gq_ (e8_ _ _) _ h.vn fun x _=>?_;unfold one
 split
 ·exact hu.vn
 ·exact hw_ _ _ _
end
def ddI:List Int→List Int
 | []=>[]
 | x :: l=>if x∈ddI l then ddI l else x :: ddI l
theorem ot_:∀ {l:List Int} {x:Int},x∈ddI l↔x∈l:=by
 intro l
 induction l with
 | nil=>intro x;exact Iff.rfl
 | cons y l ih =>
  intro x;rw[ddI]
  split
  ·next h =>
   rw[ih,List.mem_cons];exact⟨.inr,fun h2=>h2.elim (fun e=>by rw[e];exact ih.1 h) id⟩
  ·rw[List.mem_cons,List.mem_cons,ih]
theorem os_:∀ l:List Int,(ddI l).Nodup:=by
 intro l
 induction l with
 | nil=>exact List.nodup_nil
 | cons y l ih =>
  rw[ddI]
  split
  ·exact ih
  ·next h=>exact List.nodup_cons.2 ⟨h,ih⟩
theorem tI_:∀ (t:Ty) (env:List ByteArray),Std t→mn (dbT env t)≤nsT t:=by
 intro t
 induction t using Ty.ind with
 | h t ih =>
  intro env hs;have hl:∀ (l:List Ty) (env:List ByteArray),(∀ a∈l,a∈t.args)→mnL (l.map (dbT env))≤nsL l:=by
   intro l
   induction l with
   | nil=>intro _ _;exact aA_ _
   | cons a l ihl =>
    intro env hm;rw[List.map_cons,mnL,nsL];have:=ih a (hm a (by simp)) env (hs.args a (hm a (by simp)));have:=ihl env fun b hb=>hm b (by simp[hb]);omega
  rw[jt_]
  by_cases h5:t.kind=5
  ·rw[aP_ _ _ h5,p3_]
   show (if (5:Int)=2 then 1 else mnL (t.args.map _))≤_;rw[if_neg (by decide)];have:=hl t.args (t.name :: env) fun a ha=>ha;omega
  ·by_cases h1:t.kind=1
   ·rw[a0_ _ _ h1,if_pos (.inl h1),p3_]
    unfold c9_;cases ixN env t.name with
    | none=>rw[if_neg (show (Ty.mk 1 t.name t.n []).kind≠2 from by show (1:Int)≠2;decide)];exact Nat.zero_le _
    | some i=>rw[if_neg (show (Ty.mk 6 emp (i:Int) []).kind≠2 from by show (6:Int)≠2;decide)];exact Nat.zero_le _
   ·rw[az_ _ _ h1 h5,p3_]
    show (if t.kind=2 then 1 else mnL (t.args.map _))≤_
    by_cases h2:t.kind=2
    ·rw[if_pos h2,if_pos (.inr h2)];omega
    ·rw[if_neg h2]
     have:=hl t.args env fun a ha=>ha;omega
theorem oO_:∀ t:Ty,ac t≤t.size:=by
 intro t
 induction t using Ty.ind with
 | h t ih =>
  rw[hg_,t.size_eq];have:∀ l:List Ty,(∀ a∈l,ac a≤a.size)→acL l≤ag_ l:=by
   intro l
   induction l with
   | nil=>intro _;exact aA_ _
   | cons a l ihl =>
    intro h;rw[acL,ag_];have:=h a (by simp);have:=ihl fun b hb=>h b (by simp[hb]);omega
  have:=this _ ih
  split<;>omega
theorem qL_ {NL:List ByteArray} : ∀ (t:Ty) (env:List ByteArray),Mk t→(∀ s,fvT s t→s∉env→s∈NL)→Al (VOk NL 0) (dbT env t):=by
 intro t
 induction t using Ty.ind with
 | h t ih =>
  intro env hm hf;have hlx:=(de_ t).1 hm.2
  by_cases h5:t.kind=5
  ·rw[aP_ _ _ h5]
   refine .mk _ ⟨fun h=>absurd (show (5:Int)=1 from h) (by decide),fun h=>absurd (show (5:Int)=3 from h) (by decide)⟩ fun a ha=>?_;obtain⟨b,hb,rfl⟩:=List.mem_map.1 ha;refine ih b hb _ ⟨hm.1.args b hb,hlx.2 b hb⟩ fun s hs hn=>?_;rw[List.mem_cons,not_or] at hn;exact hf s ((aO_ s t).2 (.inr ⟨⟨b,hb,hs⟩,fun e=>hn.1 e.2.symm⟩)) hn.2
  ·by_cases k1:t.kind=1
   ·rw[a0_ _ _ k1]
    unfold c9_;cases hi:ixN env t.name with
    | some i=>exact .mk _ ⟨fun h=>absurd (show (6:Int)=1 from h) (by decide),fun h=>absurd (show (6:Int)=3 from h) (by decide)⟩ fun a ha=>by cases ha
    | none=>exact .mk _ ⟨fun _=>.inl (hf t.name ((aO_ _ t).2 (.inl ⟨k1,rfl⟩)) ((cO_ _ _).1 hi)),fun h=>absurd (show (1:Int)=3 from h) (by decide)⟩ fun a ha=>by cases ha
   ·rw[az_ _ _ k1 h5]
    refine .mk _ ⟨fun h=>absurd h k1,fun h=>?_⟩ fun a ha=>?_
    ·obtain⟨c1,c2⟩:=hlx.1.2.1 h
     refine⟨⟨lm_ c1,fun c hc=>?_⟩,c2⟩;have hin:=c1.inner c hc;unfold inW;rw[Bool.not_eq_true',Bool.or_eq_false_iff,Bool.or_eq_false_iff,Bool.or_eq_false_iff,Bool.or_eq_false_iff];simp only[beq_eq_false_iff_ne];refine⟨⟨⟨⟨?_,?_⟩,?_⟩,?_⟩,?_⟩<;>(rintro rfl;exact absurd hin (by decide))
    ·obtain⟨b,hb,rfl⟩:=List.mem_map.1 ha
     exact ih b hb env ⟨hm.1.args b hb,hlx.2 b hb⟩ fun s hs hn=>hf s ((aO_ s t).2 (.inr ⟨⟨b,hb,hs⟩,fun e=>h5 e.1⟩)) hn
theorem eH_ {t:Ty}(h:Mk t):∀ m∈ay_ t,0≤m∧m<1000000:=by
 have key:∀ t:Ty,Mk t→∀ m,¬ noP (bE_ m) t→0≤m∧m<1000000:=by
  intro t
  induction t using Ty.ind with
  | h t ih =>
   intro h m hn;rw[gQ_] at hn
   by_cases hi:bE_ m (dD_ t)=true
   ·have hi:(t.kind==2&&t.n==m)=true:=hi
    rw[Bool.and_eq_true,beq_iff_eq,beq_iff_eq] at hi;obtain⟨h2,rfl⟩:=hi;exact⟨(h.1.k2 h2).2.2.1,((de_ t).1 h.2).1.2.2 h2⟩
   ·have:∃ a∈t.args,¬ noP (bE_ m) a:=Classical.byContradiction fun hh=>hn ⟨by simpa using hi,fun a ha=>Classical.byContradiction fun hx=>hh ⟨a,ha,hx⟩⟩
    obtain⟨a,ha,hx⟩:=this;exact ih a ha ⟨h.1.args a ha,((de_ t).1 h.2).2 a ha⟩ m hx
 exact fun m hm=>key t h m ((jv_ m t).1 hm)
theorem Dst.errs {W:Wk}{l r:Ty}{x:Except Nat Wk}(h:Dst W l r x):∀ er,x=.error er→40≤er∧er≤43:=by
 intro er e;cases h with
 | same|learn|opn|parts=>cases e
 | occurs=>injection e with e;omega
 | poly=>injection e with e;omega
 | esc=>injection e with e;omega
 | clash=>injection e with e;omega
theorem eb_.errs {W:Wk}{res:Except Nat Kn}(h:eb_ W res):∀ er,res=.error er→40≤er∧er≤43:=by
 induction h with
 | done W h=>intro er e;cases e
 | err W e es er h hd=>intro er' e';injection e' with e';subst e';exact hd.errs _ rfl
 | step W W' e es res h hd hr ih=>exact ih
theorem tp_ {L:List Int}{n:Int→Nat}{NL:List ByteArray}{A0:Nat}(C:Co L n NL A0){W:Wk}(kv:∀ x u,lkK W.K x=some u→Std u∧ba_ u)(D:DI L n NL A0 W){m:Int}{u:Ty}(hu:lkK W.K m=some u):Std (sg W.K m)∧ba_ (sg W.K m):=by
 have hkl:=D.klen;have hll:=C.ll;have hnl:=C.nl;have hfr:W.fresh≤A0:=by have:=D.fr;omega
 obtain⟨us,ug⟩:=kv m u hu;obtain⟨e1,_,up⟩:=D.ko.facts.bnd m u hu;have ed:dbT [] u=u:=cz_ u us up.no5;have hvu:Al (VOk NL W.fresh) u:=f7_ (f:=sg W.K) (fun t l h=>h) (fun t h=>⟨fun h1=>by omega,fun h1=>by omega⟩) u up.dw (by rw[← e1];exact D.kn m);obtain⟨u',a1,a2,a3,a4⟩:=lx_ D.ko kv (NL:=NL) (fr:=W.fresh) (by omega) D.kn 99 0 u (by omega) us ug (fun z _=>rfl) (by rw[ed];exact hvu) (by rw[ed,← e1];exact ne_ C D m);rw[ed,← e1] at a2;have hp:dbT [] u'=u':=cz_ u' a3 ((ou_ u' [] a3).1 (by rw[a2];exact (D.ko.facts.pr m).no5));rw[hp] at a2;rw[← a2];exact⟨a3,a4⟩
structure Es (es:List EqT):Prop where
 ok:∀ e∈es,QOk e
 ns:nsE es≤24
 ln:es.length≤16
def LE (es:List EqT):List Int:=ddI (es.flatMap fun e=>ay_ e.1++ay_ e.2)
def nE (es:List EqT)(m:Int):Nat:=(es.map fun e=>oc m (dbT [] e.1)+oc m (dbT [] e.2)).sum
def NLE (es:List EqT):List ByteArray:=es.flatMap fun e=>af_ e.1++af_ e.2
theorem m8_ {α : Type}{l:List α}{f g:α→Nat}(h:∀ x∈l,f x≤g x):(l.map f).sum≤(l.map g).sum:=by
 induction l with
 | nil=>exact aA_ _
 | cons x l ih =>
  rw[List.map_cons,List.map_cons,List.sum_cons,List.sum_cons];have:=h x (by simp);have:=ih fun y hy=>h y (by simp[hy]);omega
theorem m7_ {α : Type}{l:List α}{f:α→Nat}{x:α}(h:x∈l):f x≤(l.map f).sum:=by
 induction l with
 | nil=>cases h
 | cons y l ih =>
  rw[List.map_cons,List.sum_cons]
  rcases List.mem_cons.1 h with rfl|h
  ·omega
  ·have:=ih h;omega
theorem gI_ {α : Type}(l:List α)(c:Nat):(l.map fun _=>c).sum=l.length*c:=by
 induction l with
 | nil=>simp
 | cons y l ih=>rw[List.map_cons,List.sum_cons,ih,List.length_cons,Nat.add_mul];omega
theorem rc_ {es:List EqT}{e:EqT}(he:e∈es){m:Int}(h:m∈ay_ e.1∨m∈ay_ e.2):m∈LE es:=by
 unfold LE;rw[ot_,List.mem_flatMap];exact⟨e,he,List.mem_append.2 h⟩
theorem oX_ {es:List EqT}(E:Es es):∀ m∈LE es,1≤nE es m∧0≤m∧m<1000000:=by
 intro m hm;unfold LE at hm;rw[ot_,List.mem_flatMap] at hm;obtain⟨e,he,hm⟩:=hm;have hq:=E.ok e he;have h1:=m7_ (f:=fun e=>oc m (dbT [] e.1)+oc m (dbT [] e.2)) he;unfold nE
 rcases List.mem_append.1 hm with h|h
 ·have:=(aX_ hq.l.1.1).1 h
  exact⟨by omega,eH_ hq.l.1 m h⟩
 ·have:=(aX_ hq.r.1.1).1 h
  exact⟨by omega,eH_ hq.r.1 m h⟩
theorem sm_nE {L:List Int}(hn:L.Nodup):∀ es:List EqT,sm L (nE es)≤(es.map fun e=>mn (dbT [] e.1)+mn (dbT [] e.2)).sum:=by
 intro es
 induction es with
 | nil=>exact Nat.le_of_eq (ic_ fun _ _=>rfl)
 | cons e es ih =>
  have e1:sm L (nE (e :: es))=(sm L fun m=>oc m (dbT [] e.1))+(sm L fun m=>oc m (dbT [] e.2))+sm L (nE es):=by
   rw[← k3_,← k3_];congr 1
  rw[e1,List.map_cons,List.sum_cons];have:=qU_ hn (dbT [] e.1);have:=qU_ hn (dbT [] e.2);omega
theorem rb_ {es:List EqT}(E:Es es):sm (LE es) (nE es)≤24 :=
 bL_ (sm_nE (os_ _) es) (bL_ (m8_ fun e he=>Nat.add_le_add (tI_ e.1 [] (E.ok e he).l.1.1) (tI_ e.2 [] (E.ok e he).r.1.1)) E.ns)
theorem rd_ {es:List EqT}(E:Es es):(LE es).length≤24:=by
 have h1:(LE es).length≤sm (LE es) (nE es):=by
  have:(LE es).length=sm (LE es) fun _=>1:=by
   unfold sm;rw[gI_];omega
  rw[this];exact rB_ fun m hm=>(oX_ E m hm).1
 have:=rb_ E;omega
theorem oV_ {es:List EqT}(E:Es es):(NLE es).length≤4000:=by
 unfold NLE;rw[List.length_flatMap];have h1:(es.map fun e=>(af_ e.1++af_ e.2).length).sum≤(es.map fun _=>240).sum:=m8_ fun e he=>by
  rw[List.length_append];have a:=(E.ok e he).l.2.1;have b:=(E.ok e he).r.2.1;have:=bq_ e.1;have:=bq_ e.2;omega
 rw[gI_] at h1;have:=E.ln;omega
theorem oU_ {es:List EqT}(E:Es es):sY_ (NLE es):=by
 intro s hs;unfold NLE at hs;obtain⟨e,he,hs⟩:=List.mem_flatMap.1 hs
 rcases List.mem_append.1 hs with h|h
 ·have:=lo_ (E.ok e he).l.1 s h;exact⟨this.2.1,this.1⟩
 ·have:=lo_ (E.ok e he).r.1 s h;exact⟨this.2.1,this.1⟩
theorem q5_ {es:List EqT}(E:Es es){e:EqT}(he:e∈es):Al (VOk (NLE es) 0) (dbT [] e.1)∧Al (VOk (NLE es) 0) (dbT [] e.2) :=
 ⟨qL_ e.1 [] (E.ok e he).l.1 fun s hs _=>List.mem_flatMap.2 ⟨e,he,List.mem_append.2 (.inl ((be_ s e.1).2 hs))⟩,
  qL_ e.2 [] (E.ok e he).r.1 fun s hs _=>List.mem_flatMap.2 ⟨e,he,List.mem_append.2 (.inr ((be_ s e.2).2 hs))⟩⟩
theorem qm_ {es:List EqT}(E:Es es){e:EqT}(he:e∈es):Qs (LE es) (nE es) (dbT [] e.1)∧Qs (LE es) (nE es) (dbT [] e.2):=by
 have hq:=E.ok e he;have hs:=fun m=>m7_ (f:=fun e=>oc m (dbT [] e.1)+oc m (dbT [] e.2)) he;refine⟨⟨cX_ _ _ hq.l.1.1,by rw[bt_ _ hq.l.1.1];exact hq.l.2.1,fun m=>?_,fun m hm=>rc_ he (.inl ((aX_ hq.l.1.1).2 hm))⟩,cX_ _ _ hq.r.1.1,by rw[bt_ _ hq.r.1.1];exact hq.r.2.1,fun m=>?_,fun m hm=>rc_ he (.inr ((aX_ hq.r.1.1).2 hm))⟩
 ·have:=hs m;unfold nE;omega
 ·have:=hs m;unfold nE;omega
def AE (es:List EqT):Nat:=acE (es.map dbE)
theorem s5_ {es:List EqT}(E:Es es):AE es≤4000:=by
 unfold AE acE;rw[List.map_map];have h1:(es.map ((fun e:EqT=>ac e.1+ac e.2) ∘ dbE)).sum≤(es.map fun _=>240).sum:=m8_ fun e he=>by
  have hq:=E.ok e he;have a:=oO_ (dbT [] e.1);have b:=oO_ (dbT [] e.2);rw[bt_ _ hq.l.1.1] at a;rw[bt_ _ hq.r.1.1] at b;have:=hq.l.2.1;have:=hq.r.2.1;show ac (dbT [] e.1)+ac (dbT [] e.2)≤240;omega
 rw[gI_] at h1;have:=E.ln;omega
theorem kD_ {es:List EqT}(E:Es es):Co (LE es) (nE es) (NLE es) (AE es) :=
 ⟨by have:=rd_ E;omega,rb_ E,by have:=oV_ E;have:=s5_ E;omega,by have:=s5_ E;omega,oU_ E⟩
theorem sx_ {es:List EqT}(E:Es es):DI (LE es) (nE es) (NLE es) (AE es) ⟨[],es.map dbE,0⟩:=by
 refine⟨.nil,r3_,fun e he=>?_,fun x=>.inl rfl,fun x h=>absurd rfl h,fun x hx m hm=>?_,fun x=>hw_ _ _ _,by show 0+acE (es.map dbE)≤AE es;unfold AE;omega⟩
 ·obtain⟨y,hy,rfl⟩:=List.mem_map.1 he
  obtain⟨q1,q2⟩:=qm_ E hy;obtain⟨v1,v2⟩:=q5_ E hy;exact⟨⟨q1.dw,v1,_,q1,rfl⟩,q2.dw,v2,_,q2,rfl⟩
 ·rw[show sg [] x=mt x from rfl,n2_] at hm
  split at hm
  ·next e=>rw[← e];exact hx
  ·exact absurd rfl hm
structure Kd (es:List EqT)(K:Kn):Prop where
 ko:KO K
 ori:Ori K
 gen:∀ f,PrF f→((∀ e∈es,Sol f (dbE e))↔Ext f K)
 ni:∃ fr,fr≤4000∧∀ x,Ni (NLE es) fr (sg K x)∨sg K x=mt x
 szE:∀ e∈es,(fl (sg K) (dbT [] e.1)).size≤LIM∧(fl (sg K) (dbT [] e.2)).size≤LIM
 kl:∀ x,lkK K x≠none→x∈LE es
 km:∀ x∈LE es,∀ m,oc m (sg K x)≠0→m∈LE es
theorem rj_ {es:List EqT}(E:Es es):∃ j res,j≤100000000000∧iY_ 100 j es=some (tellD res)∧eb_ ⟨[],es.map dbE,0⟩ res∧((∃ er,res=.error er∧40≤er∧er≤43∧∀ f,PrF f→¬ ∀ e∈es,Sol f (dbE e))∨∃ K,res=.ok K∧Kd es K):=by
 have hN:∀ e∈es,(Std e.1∧ba_ e.1)∧(Std e.2∧ba_ e.2):=fun e he=>⟨⟨(E.ok e he).l.1.1,e7_ _ (E.ok e he).l.1⟩,(E.ok e he).r.1.1,e7_ _ (E.ok e he).r.1⟩;obtain⟨j,res,hj,kv,h1,h2⟩:=rG_ (kD_ E) (W:=⟨[],es,0⟩) ⟨hN,fun x u h=>by cases h⟩ (sx_ E) (fun e he=>by
  obtain⟨x,hx,rfl⟩:=List.mem_map.1 he;exact qm_ E hx) (by show (List.map _ _).length≤16;rw[List.length_map];exact E.ln)
 have hsol:∀ f,o4_ f ⟨[],es.map dbE,0⟩↔∀ e∈es,Sol f (dbE e):=fun f=>by
  unfold o4_
  constructor
  ·exact fun h e he=>h.2 _ (List.mem_map.2 ⟨e,he,rfl⟩)
  ·refine fun h=>⟨sw_ f,fun e he=>?_⟩
   obtain⟨x,hx,rfl⟩:=List.mem_map.1 he;exact h x hx
 obtain⟨t1,t2⟩:=h2.told (oU_ E) (sx_ E);refine⟨j,res,hj,?_,h2,?_⟩
 ·unfold iY_
  rw[h1];cases res with
  | error e=>rfl
  | ok K =>
   simp only;obtain⟨⟨fr,D'⟩,_⟩:=t1 K rfl;rw[tx_ (kD_ E) (W:=⟨K,[],fr⟩) (kv K rfl) D' (dq_ K) fun m hm=>gv_.1 hm];rfl
 ·cases res with
  | error er =>
   refine .inl ⟨er,rfl,?_,?_,fun f hf hs=>t2 er rfl f hf ((hsol f).2 hs)⟩
   ·exact (h2.errs er rfl).1
   ·exact (h2.errs er rfl).2
  | ok K =>
   obtain⟨⟨fr,D'⟩,hg⟩:=t1 K rfl;have hfr:fr≤4000:=by have h:=D'.fr;have h':fr+acE []≤AE es:=h;have:=s5_ E;omega
   refine .inr ⟨K,rfl,⟨D'.ko,D'.ori,fun f hf=>by rw[← hg f hf];exact (hsol f).symm,⟨fr,hfr,fun x=>?_⟩,fun e he=>⟨mm_ (kD_ E) D' (qm_ E he).1,mm_ (kD_ E) D' (qm_ E he).2⟩,D'.kl,D'.km⟩⟩;cases hx:lkK K x with
   | none=>exact .inr (D'.ko.facts.unb x hx)
   | some u =>
    obtain⟨a,b⟩:=tp_ (kD_ E) (W:=⟨K,[],fr⟩) (kv K rfl) D' hx;refine .inl ⟨a,b,?_,?_⟩
    ·rw[cz_ _ a (D'.ko.facts.pr x).no5];exact D'.kn x
    ·rw[cz_ _ a (D'.ko.facts.pr x).no5];exact ne_ (kD_ E) D' x
end
section
open Go.RowKit
def B5 (w:World)(b:Nat)(m:Int)(t:Ty)(a:OA_)(c:Nat):Prop:=w.heap[b]? = some (.cells #[.int .i64 m,.int .i64 t.kind,.string t.name,.int .i64 t.n,.slice a t.args.length c] 39 (0,0))
section
variable {w w' : World} {b : Nat} {m : Int} {t : Ty} {a : OA_} {c : Nat}
theorem B5.c0 (h:B5 w b m t a c):w.cell? ⟨b,0,none⟩=some (.int .i64 m):=cell_of_row w b 0 _ _ _ h
theorem B5.c1 (h:B5 w b m t a c):w.cell? ⟨b,1,none⟩=some (.int .i64 t.kind):=cell_of_row w b 1 _ _ _ h
theorem B5.c2 (h:B5 w b m t a c):w.cell? ⟨b,2,none⟩=some (.string t.name):=cell_of_row w b 2 _ _ _ h
theorem B5.c3 (h:B5 w b m t a c):w.cell? ⟨b,3,none⟩=some (.int .i64 t.n):=cell_of_row w b 3 _ _ _ h
theorem B5.c4 (h:B5 w b m t a c):w.cell? ⟨b,4,none⟩=some (.slice a t.args.length c):=cell_of_row w b 4 _ _ _ h
theorem B5.lt (h:B5 w b m t a c):b<w.heap.size:=(Array.getElem?_eq_some_iff.1 h).1
end
section
variable {es : List EqT} {K : Kn}
theorem Kd.std (D:Kd es K)(x:Int)(hx:lkK K x≠none):∃ fr,fr≤4000∧Ni (NLE es) fr (sg K x):=by
 obtain⟨fr,hf,h⟩:=D.ni
 rcases h x with h|h
 ·exact⟨fr,hf,h⟩
 ·exact absurd (D.ko.facts.dom x |>.2 h) hx
theorem Kd.len (E:Es es)(D:Kd es K):(jr_ K).length≤24:=by
 have h1:=lp_ D.ko.nodup fun x hx=>D.kl x fun hn=>bT_.1 hn hx;rw[List.length_map] at h1;have h2:=rd_ E;unfold jr_ dq_;rw[List.length_map,List.length_mergeSort,List.length_map];omega
theorem Kd.mem (E:Es es)(D:Kd es K):∀ x∈jr_ K,(∃ fr,fr≤4000∧Ni (NLE es) fr x.2)∧0≤x.1∧x.1<1000000∧x.2=sg K x.1∧x.1∈LE es∧∀ m∈ay_ x.2,m≤1000000:=by
 intro x hx;obtain⟨m,hm,rfl⟩:=List.mem_map.1 hx;have hk:=gv_.1 hm;have hL:=D.kl m hk;have h1:=oX_ E m hL;refine⟨D.std m hk,h1.2.1,h1.2.2,rfl,hL,fun y hy=>?_⟩;have h2:=D.km m hL y ((gd_ (D.ko.facts.pr m).dw).1 hy);have:=oX_ E y h2;omega
theorem ra_ {es:List EqT}(E:Es es){fr:Nat}(h:fr≤4000):(NLE es).length+fr≤3000000:=by have:=oV_ E;omega
end
theorem jU_.form {w:World}{res:Except Nat Kn}{en:Ending}{w':World}(h:jU_ w res en w'):∃ a c R,∃ er:Nat,en=.returned (.tuple #[.slice a (R:Kn).length c,.int .i64 er])∧jZ_ w' (.slice a R.length c) R∧Below w.heap.size w w'∧(res=.ok R∧er=0∨res=.error er∧R=[]):=by
 cases res with
 | error er =>
  obtain⟨rfl,hb⟩:=h;exact⟨none,0,[],er,rfl,jZ_.nil w',hb,.inr ⟨rfl,rfl⟩⟩
 | ok R =>
  obtain⟨v,ps,T',rfl,hK,hT',hb⟩:=h;have hks:=hK.ks hT';obtain⟨a,c,rfl⟩:=aL_ hK.own;exact⟨a,c,R,0,rfl,hks,hb,.inl ⟨rfl,rfl⟩⟩
theorem ey_.monoT {S T T':Nat→Prop}{w:World}{pv:Value}{es:List EqT}(H:ey_ S T w pv es)(h:∀ b,T b→T' b):ey_ S T' w pv es:=by
 obtain⟨a,cap,e,hl,hc⟩:=H;refine⟨a,cap,e,hl,hc.imp id ?_⟩;rintro ⟨b,off,e,hb,hc⟩;refine⟨b,off,e,hb,fun i hi=>?_⟩;obtain⟨xa,xc,ya,yc,h1,h2,h3⟩:=hc i hi;exact⟨xa,xc,ya,yc,h1,h2.mono h,h3.mono h⟩
def qJ_ (w:World)(pv:Value)(es:List EqT):Prop:=ey_ (Lt w.heap.size) (Lt w.heap.size) w pv es
theorem qJ_.low {w w':World}{pv:Value}{es:List EqT}(h:qJ_ w pv es)(hb:Below w.heap.size w w'):qJ_ w' pv es :=
 ((h.keep (fun b hb'=>hb.block b hb') fun b hb'=>hb.block b hb').mono fun _ hj=>aU_ hj hb.size).monoT fun _ hj=>aU_ hj hb.size
theorem gm_.es {S:Nat→Prop}{lo:Nat}{w:World}{v:Value}{es:List EqT}{ps:List (Value × Value)}(h:gm_ S lo w v es ps)(hl:es.length≤1000000000000)(hS:∀ b,S b→b<w.heap.size):qJ_ w v es :=
 ((h.eqs hl).mono fun b e=>(h.own.lt b e).2).monoT hS
theorem qJ_.call {w:World}{v:Value}{es:List EqT}{j d:Nat}{res:Except Nat Kn}(h:qJ_ w v es)(hs:∀ e∈es,SmT e.1∧SmT e.2)(hl:es.length≤500000000000)(hT:Tab w)(hu:iY_ d j es=some res)(hj:j≤1000000000000) :
  Calls Tryz.prog 14 #[v] w (jU_ w res) :=
 i5_ h (fun _ h=>h) (fun _ h=>h) hs hl hT hu hj
theorem qJ_.one {w:World}{a:OA_}{n c:Nat}{es:List EqT}(h:qJ_ w (.slice a n c) es){i:Nat}(hi:i<es.length):∃ b off xa xc ya yc,a=some ⟨b,off,none⟩∧b<w.heap.size∧(w.cell? ⟨b,off+i*8,none⟩=some (.int .i64 es[i].1.kind)∧w.cell? ⟨b,off+i*8+1,none⟩=some (.string es[i].1.name)∧w.cell? ⟨b,off+i*8+2,none⟩=some (.int .i64 es[i].1.n)∧w.cell? ⟨b,off+i*8+3,none⟩=some (.slice xa es[i].1.args.length xc)) ∧
  (w.cell? ⟨b,off+i*8+4,none⟩=some (.int .i64 es[i].2.kind)∧w.cell? ⟨b,off+i*8+5,none⟩=some (.string es[i].2.name)∧w.cell? ⟨b,off+i*8+6,none⟩=some (.int .i64 es[i].2.n)∧w.cell? ⟨b,off+i*8+7,none⟩=some (.slice ya es[i].2.args.length yc))∧AtW es[i].1 xa xc w∧AtW es[i].2 ya yc w:=by
 obtain⟨a',cap,e,hl,hc⟩:=h;injection e with e1 e2 e3
 subst e1;obtain⟨b,off,rfl,hb,hc⟩:=hc.resolve_left (by intro e;rw[e] at hi;simp at hi);obtain⟨xa,xc,ya,yc,h1,h2,h3⟩:=hc i hi;exact⟨b,off,xa,xc,ya,yc,rfl,hb,⟨h1 0 _ (by omega) rfl,h1 1 _ (by omega) rfl,h1 2 _ (by omega) rfl,h1 3 _ (by omega) rfl⟩,⟨h1 4 _ (by omega) rfl,h1 5 _ (by omega) rfl,h1 6 _ (by omega) rfl,h1 7 _ (by omega) rfl⟩,h2,h3⟩
theorem jZ_.at_ {w:World}{a:OA_}{n c:Nat}{R:Kn}(h:jZ_ w (.slice a n c) R){i:Nat}(hi:i<R.length):∃ b off xa xc,a=some ⟨b,off,none⟩∧b<w.heap.size∧(w.cell? ⟨b,off+i*5,none⟩=some (.int .i64 R[i].1)∧w.cell? ⟨b,off+i*5+1,none⟩=some (.int .i64 R[i].2.kind)∧w.cell? ⟨b,off+i*5+2,none⟩=some (.string R[i].2.name)∧w.cell? ⟨b,off+i*5+3,none⟩=some (.int .i64 R[i].2.n)∧w.cell? ⟨b,off+i*5+4,none⟩=some (.slice xa R[i].2.args.length xc))∧AtW R[i].2 xa xc w:=by
 obtain⟨a',cap,e,hc⟩:=h;injection e with e1 e2 e3
 subst e1;obtain⟨b,off,rfl,hb,hc⟩:=hc.resolve_left (by intro e;rw[e] at hi;simp at hi);obtain⟨xa,xc,h1,h2⟩:=hc i hi;exact⟨b,off,xa,xc,rfl,hb,⟨h1 0 _ (by omega) rfl,h1 1 _ (by omega) rfl,h1 2 _ (by omega) rfl,h1 3 _ (by omega) rfl,h1 4 _ (by omega) rfl⟩,h2⟩
theorem es_of {ls:List Ln}{es:List EqT}(h:dp_ ls=some es):Es es:=by
 obtain⟨h1,h2,h3,h4,_⟩:=lb_ h;exact⟨h4,h3,by omega⟩
end
end Go.Proofs.YtjecnionbjlncaaGreatDoor.Tp

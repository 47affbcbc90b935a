/- Packed. -/
import Derived.Test.YtjecnionbjlncaaGreatDoorP50
set_option maxRecDepth 100000
set_option maxHeartbeats 6400000
namespace Go.Proofs.YtjecnionbjlncaaGreatDoor.Tp
section
open Lx
theorem lE_ (f:Nat→ByteArray)(free:List ByteArray):∀ (l:List Ty) (env:List ByteArray) (k:Nat),k≤(cnL f free env k l).2:=by
 intro l
 induction l with
 | nil=>intro env k;simp[cnL]
 | cons b l ih =>
  intro env k;rw[cnL];have:=kG_ f free b env k;have:=ih env (cnT f free env k b).2;simp only;omega
theorem cn_nm (f:Nat→ByteArray)(free:List ByteArray)(B:Nat)(hB:∀ j,j≤B→1≤(f j).size∧(f j).size≤64):∀ (t:Ty) (env:List ByteArray) (k:Nat),Al (fun t=>t.kind≠6→t.kind≠5→t.name.size≤64) t→(∀ x∈env,x.size≤64)→(cnT f free env k t).2≤B→Nm (cnT f free env k t).1:=by
 intro t
 induction t using Ty.ind with
 | h t ih =>
  have hl:∀ (l:List Ty) (env:List ByteArray) (k:Nat),(∀ a∈l,a∈t.args)→(∀ a∈l,Al (fun t=>t.kind≠6→t.kind≠5→t.name.size≤64) a)→(∀ x∈env,x.size≤64)→(cnL f free env k l).2≤B→∀ a∈(cnL f free env k l).1,Nm a:=by
   intro l
   induction l with
   | nil=>intro env k _ _ _ _ a ha;simp[cnL] at ha
   | cons b l ihl =>
    intro env k hm hal he hb a ha;rw[cnL] at hb ha;simp only at hb ha;have h1:=lE_ f free l env (cnT f free env k b).2
    rcases List.mem_cons.1 ha with rfl|ha
    ·exact ih b (hm b (by simp)) env k (hal b (by simp)) he (by omega)
    ·exact ihl env _ (fun c hc=>hm c (by simp[hc])) (fun c hc=>hal c (by simp[hc])) he hb a ha
  intro env k ha he hb;rw[lC_] at hb ⊢
  by_cases h6:t.kind=6
  ·rw[if_pos h6]
   refine (bY_ _).2 ⟨⟨fun e=>absurd (show (1:Int)=5 from e) (by decide),?_⟩,fun a ha=>by cases ha⟩;show (env.getD t.n.toNat emp).size≤64;rw[List.getD_eq_getElem?_getD];cases hg:env[t.n.toNat]? with
   | none=>show (0:Nat)≤64;omega
   | some x=>exact he x (List.mem_of_getElem? hg)
  ·rw[if_neg h6] at hb ⊢
   by_cases h5:t.kind=5
   ·rw[if_pos h5] at hb ⊢
    simp only at hb;have h1:=lE_ f free t.args (f (nx f free k) :: env) (nx f free k+1);have hj:=hB (nx f free k) (by omega);refine (bY_ _).2 ⟨⟨fun _=>hj.1,hj.2⟩,?_⟩;exact hl t.args _ _ (fun a h=>h) (fun a h=>ha.arg h) (fun x hx=>by
     rcases List.mem_cons.1 hx with rfl|hx
     ·exact hj.2
     ·exact he x hx) hb
   ·rw[if_neg h5] at hb ⊢
    refine (bY_ _).2 ⟨⟨fun e=>absurd e h5,ha.here h6 h5⟩,?_⟩;exact hl t.args env k (fun a h=>h) (fun a h=>ha.arg h) he hb
theorem db_nm:∀ (t:Ty) (env:List ByteArray),Nm t→Al (fun t=>t.kind≠6→t.kind≠5→t.name.size≤64) (dbT env t):=by
 intro t
 induction t using Ty.ind with
 | h t ih =>
  intro env hn;have hn':=(bY_ t).1 hn
  by_cases h5:t.kind=5
  ·rw[aP_ _ _ h5]
   refine .mk _ (fun _ h=>absurd rfl h) fun a ha=>?_;obtain⟨b,hb,rfl⟩:=List.mem_map.1 ha;exact ih b hb _ (hn'.2 b hb)
  ·by_cases h1:t.kind=1
   ·rw[a0_ _ _ h1]
    unfold c9_;cases ixN env t.name with
    | none=>exact .mk _ (fun _ _=>hn'.1.2) fun a ha=>by cases ha
    | some i=>exact .mk _ (fun h=>absurd rfl h) fun a ha=>by cases ha
   ·rw[az_ _ _ h1 h5]
    refine .mk _ (fun _ _=>hn'.1.2) fun a ha=>?_;obtain⟨b,hb,rfl⟩:=List.mem_map.1 ha;exact ih b hb _ (hn'.2 b hb)
theorem p8_ {n:Nat}(h:n≤100000000000000000):1≤(aK_ ⟨#[121]⟩ n).size∧(aK_ ⟨#[121]⟩ n).size≤64:=by
 have h10:(10:Nat) ^ 18=1000000000000000000:=by decide
 have h2:=(bQ_ n).2.2.2 18 (by omega) (by omega);have e:(aK_ ⟨#[121]⟩ n).data.toList=121 :: Lib.decDigits n:=fY_ [121] n;have e2:(aK_ ⟨#[121]⟩ n).size=(aK_ ⟨#[121]⟩ n).data.toList.length:=by simp
 rw[e2,e,List.length_cons];omega
theorem h3_ (nm:ByteArray)(u t:Ty)(hs:Std t)(hg:ba_ t)(hmul:t.size*((fE_ nm u t).length+1)≤100000000000000000):ba_ (cU_ nm u t):=by
 refine⟨fi_ _ (cT_ nm u t hs),?_⟩;have h1:=qp_ (aK_ ⟨#[121]⟩) (fun _ _=>cQ_) (fE_ nm u t) (dbT [] t) [] 0;rw[bt_ t hs []] at h1;exact cn_nm (aK_ ⟨#[121]⟩) (fE_ nm u t) 100000000000000000 (fun j hj=>p8_ hj) (dbT [] t) [] 0 (db_nm t [] hg.2) (fun x hx=>by cases hx) (by omega)
theorem tq_ (p:Ty→Bool)(u:Ty)(hu:Nm u):∀ t:Ty,Nm t→Nm (sbT p u t):=by
 intro t
 induction t using Ty.ind with
 | h t ih =>
  intro h;have hh:=(bY_ t).1 h;rw[fm_]
  split
  ·exact hu
  ·refine (bY_ _).2 ⟨hh.1,fun a ha=>?_⟩
   obtain⟨b,hb,rfl⟩:=List.mem_map.1 ha;exact ih b hb (hh.2 b hb)
section
variable {NL : List ByteArray} {fr : Nat}
theorem Ni.but (hl:NL.length+fr≤3000000){t u:Ty}(ht:Ni NL fr t)(hu:Ni NL fr u)(nm:ByteArray):t.size≤2013265920∧(fE_ nm u t).length≤6000001∧t.size*((fE_ nm u t).length+1)≤100000000000000000:=by
 have h1:=db_ ht.st ht.vn;have h2:=db_ hu.st hu.vn;have h3:t.size≤2013265920:=by have:=ht.sz;rw[bt_ t ht.st []] at this;exact this
 have h4:(fE_ nm u t).length≤6000001:=by unfold fE_;rw[List.length_cons,List.length_append];omega
 exact⟨h3,h4,bL_ (Nat.mul_le_mul h3 (show (fE_ nm u t).length+1≤6000002 by omega)) (by omega)⟩
theorem Ni.rfill (hl:NL.length+fr≤3000000){t u:Ty}(ht:Ni NL fr t)(hu:Ni NL fr u)(m:Int)(hz:(fl (one m (dbT [] u)) (dbT [] t)).size≤LIM):Ni NL fr (b1_ m u t)∧dbT [] (b1_ m u t)=fl (one m (dbT [] u)) (dbT [] t):=by
 have hb:=ht.but hl hu emp;have e:dbT [] (b1_ m u t)=fl (one m (dbT [] u)) (dbT [] t):=by rw[nD_ m u t ht.st,l7_ _ _ _ (cX_ t [] ht.st)]
 refine⟨⟨hI_ m u t ht.st hu.st,⟨fi_ _ (hI_ m u t ht.st hu.st),tq_ _ _ hu.gd.2 _ (h3_ emp u t ht.st ht.gd hb.2.2).2⟩,?_,by rw[e];exact hz⟩,e⟩;rw[e];refine gq_ (e8_ _ _) _ ht.vn fun x _=>?_;unfold one
 split
 ·exact hu.vn
 ·exact hw_ _ _ _
theorem Ni.ropen (hl:NL.length+fr≤2999998)(hf6:fr<1000000){x b:Ty}(hx:Ni NL fr x)(h5:x.kind=5)(hb:x.args=[b]) :
  (Std b∧b.size≤2013265920∧(fE_ x.name (.mk 1 (br_ fr) 0 []) b).length≤6000001∧b.size*((fE_ x.name (.mk 1 (br_ fr) 0 []) b).length+1)≤100000000000000000) ∧
  Ni NL (fr+1) (cI_ x.name (.mk 1 (br_ fr) 0 []) b)∧dbT [] (cI_ x.name (.mk 1 (br_ fr) 0 []) b)=opB (br_ fr) 0 (dbT [x.name] b):=by
 have hbm:b∈x.args:=by rw[hb];simp
 have hs:Std b:=hx.st.args b hbm;have hg:ba_ b:=a8_ hx.gd b hbm;have hd:dbT [] x=.mk 5 emp 0 [dbT [x.name] b]:=by rw[aP_ _ _ h5,hb];rfl
 have hvn:=hx.vn;have hsz:=hx.sz;rw[hd] at hvn hsz;have hvb:Al (VOk NL fr) (dbT [x.name] b):=hvn.arg (by show _∈[dbT [x.name] b];simp);have hbz:(dbT [x.name] b).size≤LIM:=by
  have:=a7_ (Ty.mk 5 emp 0 [dbT [x.name] b]).args (a:=dbT [x.name] b) (by show _∈[dbT [x.name] b];simp);rw[Ty.size_eq] at hsz;omega
 have hbs:b.size≤2013265920:=by rw[bt_ b hs [x.name]] at hbz;exact hbz
 have hfb:(af_ b).length≤NL.length+fr+1:=by
  have h1:=db_ hx.st hx.vn;have h2:=it_ (d5_ b) (m:=x.name :: af_ x) fun y hy=>by
   by_cases e:y=x.name
   ·rw[e];simp
   ·exact List.mem_cons.2 (.inr ((be_ y x).2 ((aO_ y x).2 (.inr ⟨⟨b,hbm,(be_ y b).1 hy⟩,fun h=>e h.2.symm⟩))))
  rw[List.length_cons] at h2;omega
 have hfv:(af_ (Ty.mk 1 (br_ fr) 0 [])).length≤1:=bq_ _;have hbut:(fE_ x.name (.mk 1 (br_ fr) 0 []) b).length≤6000001:=by unfold fE_;rw[List.length_cons,List.length_append];omega
 have hmul:b.size*((fE_ x.name (.mk 1 (br_ fr) 0 []) b).length+1)≤100000000000000000:=bL_ (Nat.mul_le_mul hbs (show _+1≤6000002 by omega)) (by omega);have e:dbT [] (cI_ x.name (.mk 1 (br_ fr) 0 []) b)=opB (br_ fr) 0 (dbT [x.name] b):=by
  rw[pD_ _ _ _ hs];exact (tA_ (br_ fr) x.name b [] hs).symm
 have hw:Nm (Ty.mk 1 (br_ fr) 0 []):=(gx_ _ (fB_ fr hf6)).2;refine⟨⟨hs,hbs,hbut,hmul⟩,⟨jn_ _ _ _ hs (el_ _),⟨fi_ _ (jn_ _ _ _ hs (el_ _)),tq_ _ _ hw _ (h3_ _ _ _ hs hg hmul).2⟩,?_,?_⟩,e⟩
 ·rw[e]
  exact sM_ (e8_ _ _) _ ⟨fun _=>.inr ⟨fr,by omega,rfl⟩,fun h=>absurd (show (1:Int)=3 from h) (by decide)⟩ _ _ (hvb.imp fun t=>dU_ (by omega) t)
 ·rw[e,km_ _ _ _ (cX_ b _ hs)];exact hbz
end
def wtK:Kn→Ty→Nat
 | [],_=>0
 | e :: K,t=>(if oc e.1 t=0 then 0 else 2 ^ K.length)+wtK K t
theorem qK_:∀ (K:Kn) (t:Ty),wtK K t<2 ^ K.length
 | [],_=>by show 0<1;omega
 | e :: K,t=>by
  rw[wtK,List.length_cons,Nat.pow_succ];have:=qK_ K t
  split<;>omega
def Tri:Kn→Prop
 | []=>True
 | e :: K=>oc e.1 e.2=0∧(∀ x∈K,oc e.1 x.2=0∧x.1≠e.1)∧Tri K
theorem kU_:∀ (K:Kn) (m:Int) (u:Ty),Tri K→oc m u=0→(∀ x∈K,oc x.1 u=0∧m≠x.1)→Tri (K++[(m,u)])
 | [],m,u,_,h,_=>⟨h,fun x hx=>by (cases hx),trivial⟩
 | e :: K,m,u,ht,h,hx=>⟨ht.1,fun x hxm=>by
  rcases List.mem_append.1 hxm with h1|h1
  ·exact ht.2.1 x h1
  ·rw[List.mem_singleton.1 h1];exact hx e (by simp),kU_ K m u ht.2.2 h fun x hxm=>hx x (by simp[hxm])⟩
theorem KO.tri {K:Kn}(h:KO K):Tri K:=by
 induction h with
 | nil=>trivial
 | snoc K m t h h1 h2 h3 h4 ih =>
  refine kU_ K m t ih h3 fun x hx=>⟨?_,fun e=>bT_.1 h1 (List.mem_map.2 ⟨x,hx,e.symm⟩)⟩;refine Classical.byContradiction fun hne=>?_;have hf:=h.facts;have hk:lkK K x.1≠none:=fun hn=>bT_.1 hn (List.mem_map.2 ⟨x,hx,rfl⟩);have:=oi_ t h4.dw h2 x.1 hne;exact hk ((hf.dom x.1).2 this)
theorem kQ_:∀ (K:Kn) (m:Int) (u t t':Ty),Tri K→(m,u)∈K→oc m t≠0→(∀ x,oc x t'≠0→(oc x t≠0∧x≠m)∨oc x u≠0)→wtK K t'<wtK K t
 | [],_,_,_,_,_,h,_,_=>by cases h
 | e :: K,m,u,t,t',ht,hm,ho,h=>by
  rw[wtK,wtK]
  rcases List.mem_cons.1 hm with rfl|hm
  ·have h0:oc m t'=0:=Classical.byContradiction fun hne=>by
    rcases h m hne with h1|h1
    ·exact h1.2 rfl
    ·exact h1 ht.1
   rw[if_pos h0,if_neg ho];have:=qK_ K t';omega
  ·have ih:=kQ_ K m u t t' ht.2.2 hm ho h
   have hi:oc e.1 t'≠0→oc e.1 t≠0:=fun hne=>by
    rcases h _ hne with h1|h1
    ·exact h1.1
    ·exact absurd (ht.2.1 _ hm).1 h1
   generalize 2 ^ K.length=z
   by_cases h1:oc e.1 t'=0
   ·rw[if_pos h1];split<;>omega
   ·rw[if_neg h1,if_neg (hi h1)];omega
section
variable {L : List Int} {n : Int → Nat} {NL : List ByteArray} {A0 : Nat}
theorem eD_ {f:Int→Ty}(t:Ty)(hd:Dw t):t.size≤(fl f t).size:=by
 have h:=cr_ (f:=mt) (g:=f) t fun m _=>dY_ (f m);rwa [gp_ t hd fun _ _=>rfl] at h
theorem DI.row (C:Co L n NL A0){W:Wk}(kv:∀ x u,lkK W.K x=some u→Std u∧ba_ u)(D:DI L n NL A0 W):∀ m u,lkK W.K m=some u→Ni NL W.fresh u∧dbT [] u=u∧fl (sg W.K) u=sg W.K m:=by
 intro m u hu;obtain⟨us,ug⟩:=kv m u hu;obtain⟨e1,_,up⟩:=D.ko.facts.bnd m u hu;have ed:dbT [] u=u:=cz_ u us up.no5;have hvu:Al (VOk NL W.fresh) u:=f7_ (f:=sg W.K) (fun t l h=>h) (fun t h=>⟨fun h1=>by omega,fun h1=>by omega⟩) u up.dw (by rw[← e1];exact D.kn m);refine⟨⟨us,ug,by rw[ed];exact hvu,?_⟩,ed,e1.symm⟩;rw[ed];exact bL_ (eD_ u up.dw) (by rw[← e1];exact ne_ C D m)
theorem Co.lim (C:Co L n NL A0){W:Wk}(D:DI L n NL A0 W):NL.length+W.fresh≤2999998∧W.K.length≤90∧W.fresh<1000000:=by
 have h1:=C.nl;have h2:=D.fr;have h3:=D.klen;have h4:=C.ll;have h5:=C.a0;exact⟨by omega,by omega,by omega⟩
structure SvI (L:List Int)(n:Int→Nat)(NL:List ByteArray)(A0:Nat)(K:Kn)(a b:Ty)(rest:List EqT)(fr:Nat):Prop where
 N:NI ⟨K,(a,b) :: rest,fr⟩
 D:DI L n NL A0 (dW ⟨K,(a,b) :: rest,fr⟩)
def SvR (L:List Int)(n:Int→Nat)(NL:List ByteArray)(A0:Nat)(K:Kn)(a b:Ty)(rest:List EqT)(fr:Nat):Except Nat (Kn × Nat)→Prop
 | .error er=>40≤er∧er≤43∧eb_ (dW ⟨K,(a,b) :: rest,fr⟩) (.error er)
 | .ok (K',fr')=>NI ⟨K',rest,fr'⟩∧DI L n NL A0 (dW ⟨K',rest,fr'⟩)∧(∀ r,eb_ (dW ⟨K',rest,fr'⟩) r→eb_ (dW ⟨K,(a,b) :: rest,fr⟩) r)∧(K'=K∨K.length<K'.length)
def FlO (K:Kn)(t y:Ty):Prop:=Std y∧ba_ y∧dbT [] y=fl (sg K) (dbT [] t)
variable {K : Kn} {a b : Ty} {rest : List EqT} {fr : Nat}
theorem SvI.kv (I:SvI L n NL A0 K a b rest fr):∀ x u,lkK K x=some u→Std u∧ba_ u:=I.N.kv
theorem SvI.ni (C:Co L n NL A0)(I:SvI L n NL A0 K a b rest fr):(Ni NL fr a∧(fl (sg K) (dbT [] a)).size≤LIM)∧Ni NL fr b∧(fl (sg K) (dbT [] b)).size≤LIM:=by
 have hN:=I.N.lf (a,b) (by simp);have hE:=I.D.lf (dbE (a,b)) (by show _∈List.map dbE ((a,b) :: rest);simp);have s1:=hE.1.sz C I.D;have s2:=hE.2.sz C I.D;exact⟨⟨⟨hN.1.1,hN.1.2,hE.1.vn,bL_ (eD_ _ (cX_ a [] hN.1.1)) s1⟩,s1⟩,⟨hN.2.1,hN.2.2,hE.2.vn,bL_ (eD_ _ (cX_ b [] hN.2.1)) s2⟩,s2⟩
structure SvF (L:List Int)(n:Int→Nat)(NL:List ByteArray)(A0:Nat)(K:Kn)(a b x y:Ty)(rest:List EqT)(fr:Nat):Prop where
 D1:DI L n NL A0 (dW ⟨K,rest,fr⟩)
 N1:NI ⟨K,rest,fr⟩
 S:Sd (dW ⟨K,rest,fr⟩) L n NL (dbT [] (aW_ x y).1) (dbT [] (aW_ x y).2)
 ha:fr+acE (rest.map dbE)+ac (dbT [] (aW_ x y).1)+ac (dbT [] (aW_ x y).2)≤A0
 sw:swl K (dbE (a,b))=dbE (aW_ x y)
 sl:Std (aW_ x y).1∧ba_ (aW_ x y).1
 sr:Std (aW_ x y).2∧ba_ (aW_ x y).2
theorem SvI.cut (I:SvI L n NL A0 K a b rest fr){x y:Ty}(hx:FlO K a x)(hy:FlO K b y):SvF L n NL A0 K a b x y rest fr:=by
 have hdl:(dW ⟨K,(a,b) :: rest,fr⟩).left=dbE (a,b) :: rest.map dbE:=rfl;obtain⟨D1,S,ha⟩:=I.D.cut hdl;obtain⟨sx,gx,dx⟩:=hx;obtain⟨sy,gy,dy⟩:=hy;have hsw:swl K (dbE (a,b))=dbE (aW_ x y)∧(Std (aW_ x y).1∧ba_ (aW_ x y).1)∧Std (aW_ x y).2∧ba_ (aW_ x y).2:=by
  obtain⟨a1,a2,_,_⟩:=gi_ sx;obtain⟨b1,b2,_,_⟩:=gi_ sy;unfold swl;show aW_ (fl (sg K) (dbT [] a)) (fl (sg K) (dbT [] b))=_∧_;rw[← dx,← dy];unfold aW_;rw[a1,a2,b1,b2]
  by_cases hc:y.kind=2∧(x.kind≠2∨x.n<y.n)
  ·rw[if_pos hc,if_pos hc];exact⟨rfl,⟨sy,gy⟩,sx,gx⟩
  ·rw[if_neg hc,if_neg hc];exact⟨rfl,⟨sx,gx⟩,sy,gy⟩
 have hsd:swl (dW ⟨K,(a,b) :: rest,fr⟩).K (dbE (a,b))=dbE (aW_ x y):=hsw.1;rw[hsd] at S ha;exact⟨D1,⟨fun e he=>I.N.lf e (by simp[he]),I.N.kv⟩,S,ha,hsw.1,hsw.2.1,hsw.2.2⟩
section
variable {x y : Ty} (F : SvF L n NL A0 K a b x y rest fr)
include F
theorem SvF.niL (C:Co L n NL A0):Ni NL fr (aW_ x y).1∧Ni NL fr (aW_ x y).2:=by
 have h1:=F.S.l1.sz C F.D1;have h2:=F.S.r1.sz C F.D1;rw[F.S.l2] at h1;rw[F.S.r2] at h2;exact⟨⟨F.sl.1,F.sl.2,F.S.l1.vn,h1⟩,F.sr.1,F.sr.2,F.S.r1.vn,h2⟩
theorem SvF.ex (C:Co L n NL A0):(∃ er,gs_ ⟨K,rest,fr⟩ (aW_ x y).1 (aW_ x y).2=some (.error er)∧Dst (dW ⟨K,rest,fr⟩) (dbT [] (aW_ x y).1) (dbT [] (aW_ x y).2) (.error er))∨∃ W',gs_ ⟨K,rest,fr⟩ (aW_ x y).1 (aW_ x y).2=some (.ok W')∧NI W'∧Dst (dW ⟨K,rest,fr⟩) (dbT [] (aW_ x y).1) (dbT [] (aW_ x y).2) (.ok (dW W')) :=
 na_ C (W:=⟨K,rest,fr⟩) F.N1 F.D1 F.sl.1 F.sl.2 F.sr.1 F.sr.2 F.S F.ha
theorem SvF.err {er:Nat}(h:Dst (dW ⟨K,rest,fr⟩) (dbT [] (aW_ x y).1) (dbT [] (aW_ x y).2) (.error er)):SvR L n NL A0 K a b rest fr (.error er):=by
 have:=h.errs er rfl;refine⟨this.1,this.2,.err _ (dbE (a,b)) (rest.map dbE) er rfl ?_⟩;show Dst (dW ⟨K,rest,fr⟩) (swl K (dbE (a,b))).1 (swl K (dbE (a,b))).2 (.error er);rw[F.sw];exact h
theorem SvF.go {W':Wk}(h:Dst (dW ⟨K,rest,fr⟩) (dbT [] (aW_ x y).1) (dbT [] (aW_ x y).2) (.ok (dW W'))):DI L n NL A0 (dW W')∧∀ r,eb_ (dW W') r→eb_ (dW ⟨K,(a,b) :: rest,fr⟩) r:=by
 refine⟨h.inv F.D1 F.S F.ha,fun r hr=>.step _ (dW W') (dbE (a,b)) (rest.map dbE) r rfl ?_ hr⟩;show Dst (dW ⟨K,rest,fr⟩) (swl K (dbE (a,b))).1 (swl K (dbE (a,b))).2 _;rw[F.sw];exact h
theorem SvF.same (C:Co L n NL A0)(hc:aw_ (aW_ x y).1=aw_ (aW_ x y).2):SvR L n NL A0 K a b rest fr (.ok (K,fr)):=by
 have hs:gs_ ⟨K,rest,fr⟩ (aW_ x y).1 (aW_ x y).2=some (.ok ⟨K,rest,fr⟩):=if_pos hc
 rcases F.ex C with ⟨er,h,_⟩|⟨W',h,hN,hd⟩
 ·rw[hs] at h;cases h
 ·rw[hs] at h
  injection h with h;injection h with h;subst h
  exact⟨hN,(F.go hd).1,(F.go hd).2,.inl rfl⟩
theorem SvF.learn (C:Co L n NL A0)(hc:aw_ (aW_ x y).1≠aw_ (aW_ x y).2)(h2:(aW_ x y).1.kind=2):match ge_ K (aW_ x y).1.n (aW_ x y).2 with
  | .error er=>SvR L n NL A0 K a b rest fr (.error er)
  | .ok K'=>SvR L n NL A0 K a b rest fr (.ok (K',fr)):=by
 have hs:gs_ ⟨K,rest,fr⟩ (aW_ x y).1 (aW_ x y).2=if (lkK K (aW_ x y).1.n).isSome || (af_ (aW_ x y).2).any (fun s=>s.size==0) then none else some (match ge_ K (aW_ x y).1.n (aW_ x y).2 with | .error e=>.error e | .ok K'=>.ok ⟨K',rest,fr⟩):=by
  unfold gs_;rw[if_neg hc,if_pos h2];rfl
 rcases F.ex C with ⟨er,h,hd⟩|⟨W',h,hN,hd⟩
 ·rw[hs] at h
  split at h
  ·cases h
  ·cases hl:ge_ K (aW_ x y).1.n (aW_ x y).2 with
   | error e =>
    rw[hl] at h;injection h with h;injection h with h;subst h
    exact F.err hd
   | ok K'=>rw[hl] at h;injection h with h;cases h
 ·rw[hs] at h
  split at h
  ·cases h
  ·cases hl:ge_ K (aW_ x y).1.n (aW_ x y).2 with
   | error e=>rw[hl] at h;injection h with h;cases h
   | ok K' =>
    rw[hl] at h;injection h with h;injection h with h;subst h
    have hK:=oc_ hl;exact⟨hN,(F.go hd).1,(F.go hd).2,.inr (by show K.length<K'.length;rw[hK];simp)⟩
theorem SvF.clash (C:Co L n NL A0)(hc:aw_ (aW_ x y).1≠aw_ (aW_ x y).2)(h2:(aW_ x y).1.kind≠2)(hk:bs_ (aW_ x y).1 (aW_ x y).2=true):SvR L n NL A0 K a b rest fr (.error 40):=by
 have hs:gs_ ⟨K,rest,fr⟩ (aW_ x y).1 (aW_ x y).2=some (.error 40):=by unfold gs_;rw[if_neg hc,if_neg h2,if_pos hk]
 rcases F.ex C with ⟨er,h,hd⟩|⟨W',h,_,_⟩
 ·rw[hs] at h
  injection h with h;injection h with h;subst h
  exact F.err hd
 ·rw[hs] at h;cases h
theorem SvF.parts (C:Co L n NL A0)(hc:aw_ (aW_ x y).1≠aw_ (aW_ x y).2)(h2:(aW_ x y).1.kind≠2)(hk:bs_ (aW_ x y).1 (aW_ x y).2=false)(h5:(aW_ x y).1.kind≠5) :
  NI ⟨K,(aW_ x y).1.args.zip (aW_ x y).2.args++rest,fr⟩∧DI L n NL A0 (dW ⟨K,(aW_ x y).1.args.zip (aW_ x y).2.args++rest,fr⟩)∧∀ r,eb_ (dW ⟨K,(aW_ x y).1.args.zip (aW_ x y).2.args++rest,fr⟩) r→eb_ (dW ⟨K,(a,b) :: rest,fr⟩) r:=by
 have hs:gs_ ⟨K,rest,fr⟩ (aW_ x y).1 (aW_ x y).2=some (.ok ⟨K,(aW_ x y).1.args.zip (aW_ x y).2.args++rest,fr⟩):=by unfold gs_;rw[if_neg hc,if_neg h2,if_neg (by rw[hk];decide),if_neg h5]
 rcases F.ex C with ⟨er,h,_⟩|⟨W',h,hN,hd⟩
 ·rw[hs] at h;cases h
 ·rw[hs] at h
  injection h with h;injection h with h;subst h
  exact⟨hN,(F.go hd).1,(F.go hd).2⟩
theorem SvF.opn (C:Co L n NL A0)(hc:aw_ (aW_ x y).1≠aw_ (aW_ x y).2)(h5:(aW_ x y).1.kind=5)(hk:bs_ (aW_ x y).1 (aW_ x y).2=false){p q:Ty}(hp:(aW_ x y).1.args=[p])(hq:(aW_ x y).2.args=[q])(P Q:Ty)
  (hP:Std P∧ba_ P) (hQ:Std Q∧ba_ Q) (eP:dbT [] P=opB (br_ fr) 0 (dbT [(aW_ x y).1.name] p)) (eQ:dbT [] Q=opB (br_ fr) 0 (dbT [(aW_ x y).2.name] q)) :
  SvI L n NL A0 K P Q rest (fr+1)∧∀ r,eb_ (dW ⟨K,(P,Q) :: rest,fr+1⟩) r→eb_ (dW ⟨K,(a,b) :: rest,fr⟩) r:=by
 have h2:(aW_ x y).1.kind≠2:=by omega
 have hs:gs_ ⟨K,rest,fr⟩ (aW_ x y).1 (aW_ x y).2=if (smB (opT (aW_ x y).1 (br_ fr))&&smB (opT (aW_ x y).2 (br_ fr))&&decide (fr<1000000)) then some (.ok ⟨K,(opT (aW_ x y).1 (br_ fr),opT (aW_ x y).2 (br_ fr)) :: rest,fr+1⟩) else none:=by
  unfold gs_;rw[if_neg hc,if_neg h2,if_neg (by rw[hk];decide),if_pos h5]
 have e1:=jK_ (br_ fr) F.sl.1 hp;have e2:=jK_ (br_ fr) F.sr.1 hq
 rcases F.ex C with ⟨er,h,_⟩|⟨W',h,hN,hd⟩
 ·rw[hs] at h
  split at h<;>cases h
 ·rw[hs] at h
  split at h
  ·injection h with h;injection h with h;subst h
   have hW:dW ⟨K,(opT (aW_ x y).1 (br_ fr),opT (aW_ x y).2 (br_ fr)) :: rest,fr+1⟩=dW ⟨K,(P,Q) :: rest,fr+1⟩:=by
    show Wk.mk K (dbE _ :: List.map dbE rest) (fr+1)=Wk.mk K (dbE _ :: List.map dbE rest) (fr+1);show Wk.mk K ((dbT [] (opT (aW_ x y).1 (br_ fr)),dbT [] (opT (aW_ x y).2 (br_ fr))) :: List.map dbE rest) (fr+1)=Wk.mk K ((dbT [] P,dbT [] Q) :: List.map dbE rest) (fr+1);rw[e1,e2,eP,eQ]
   rw[hW] at hd;refine⟨⟨⟨fun e he=>?_,hN.kv⟩,(F.go hd).1⟩,(F.go hd).2⟩
   rcases List.mem_cons.1 he with rfl|he
   ·exact⟨hP,hQ⟩
   ·exact hN.lf e (by simp[he])
  ·cases h
end
theorem SvR.back {K':Kn}{P Q:Ty}{fr':Nat}{res:Except Nat (Kn × Nat)}(hK:K'=K∨K.length<K'.length)(hd:∀ r,eb_ (dW ⟨K',(P,Q) :: rest,fr'⟩) r→eb_ (dW ⟨K,(a,b) :: rest,fr⟩) r)(h:SvR L n NL A0 K' P Q rest fr' res):SvR L n NL A0 K a b rest fr res:=by
 cases res with
 | error er=>exact⟨h.1,h.2.1,hd _ h.2.2⟩
 | ok p =>
  obtain⟨K2,f2⟩:=p;refine⟨h.1,h.2.1,fun r hr=>hd _ (h.2.2.1 r hr),?_⟩
  rcases hK with rfl|hK
  ·exact h.2.2.2
  ·rcases h.2.2.2 with e|h4
   ·rw[e];exact .inr hK
   ·exact .inr (by omega)
def svM (K:Kn)(a b:Ty):Nat:=(91 - K.length)*5000000000+(fl (sg K) (dbT [] a)).size+(fl (sg K) (dbT [] b)).size
end
structure FlK (NL:List ByteArray)(fr:Nat)(K:Kn):Prop where
 ko:KO K
 row:∀ m u,lkK K m=some u→Ni NL fr u∧dbT [] u=u∧fl (sg K) u=sg K m
 ll:NL.length+fr≤2999998
 kl:K.length≤90
section
variable {NL : List ByteArray} {fr : Nat} {K : Kn}
theorem FlK.step (H:FlK NL fr K){t u:Ty}{m:Int}(hm:m∈ay_ t)(hu:lkK K m=some u)(ht:Ni NL fr t)(hz:(fl (sg K) (dbT [] t)).size≤LIM) :
  Ni NL fr (b1_ m u t)∧wtK K (dbT [] (b1_ m u t))<wtK K (dbT [] t)∧fl (sg K) (dbT [] (b1_ m u t))=fl (sg K) (dbT [] t):=by
 obtain⟨nu,du,eu⟩:=H.row m u hu;have hl:NL.length+fr≤3000000:=by have:=H.ll;omega
 have key:fl (sg K) (fl (one m (dbT [] u)) (dbT [] t))=fl (sg K) (dbT [] t):=by
  rw[fa_];refine b0_ _ fun x _=>?_
  by_cases e:x=m
  ·subst e;rw[bw_,du,eu]
  ·rw[ci_ _ e,cW_]
 have hd:Dw (fl (one m (dbT [] u)) (dbT [] t)):=gq_ hS_ _ (cX_ t [] ht.st) fun x _=>by
  unfold one
  split
  ·exact cX_ u [] nu.st
  ·exact tY_ x
 have hs:(fl (one m (dbT [] u)) (dbT [] t)).size≤LIM:=bL_ (eD_ (f:=sg K) _ hd) (by rw[key];exact hz);obtain⟨h1,h2⟩:=ht.rfill hl nu m hs;refine⟨h1,?_,by rw[h2,key]⟩;rw[h2];refine kQ_ K m u (dbT [] t) _ H.ko.tri (is_ hu) ((aX_ ht.st).1 hm) fun x hx=>?_;obtain⟨z,hz1,hz2⟩:=pR_ _ hx
 by_cases e:z=m
 ·subst e;rw[bw_,du] at hz2;exact .inr hz2
 ·rw[ci_ _ e,n2_] at hz2
  split at hz2
  ·next e2=>subst e2;exact .inl ⟨hz1,e⟩
  ·exact absurd rfl hz2
theorem FlK.none (H:FlK NL fr K){t:Ty}(ht:Ni NL fr t)(h:∀ m∈ay_ t,lkK K m=none):FlO K t t :=
 ⟨ht.st,ht.gd,(gp_ _ (cX_ t [] ht.st) fun m hm=>H.ko.facts.unb m (h m ((aX_ ht.st).2 hm))).symm⟩
end
section
variable {L : List Int} {n : Int → Nat} {NL : List ByteArray} {A0 : Nat} {K : Kn} {a b x y : Ty} {rest : List EqT} {fr : Nat}
theorem SvI.flk (C:Co L n NL A0)(I:SvI L n NL A0 K a b rest fr):FlK NL fr K:=by
 have hl:=C.lim I.D;exact⟨I.D.ko,I.D.row C I.kv,hl.1,hl.2.1⟩
theorem FlO.size (h:FlO K a x)(F:KF K):fl (sg K) (dbT [] x)=dbT [] x∧(dbT [] x).size=(fl (sg K) (dbT [] a)).size:=by
 rw[h.2.2];exact⟨F.fill _,rfl⟩
theorem pc_ (F:KF K)(hx:FlO K a x)(hy:FlO K b y){p q:Ty}(hp:p∈x.args)(hq:q∈y.args)(h1:x.kind≠2)(h2:y.kind≠2)(h5:x.kind≠5)(h5':y.kind≠5):svM K p q<svM K a b:=by
 have key:∀ {a x p:Ty},FlO K a x→p∈x.args→x.kind≠2→x.kind≠5→(fl (sg K) (dbT [] p)).size<(fl (sg K) (dbT [] a)).size:=by
  intro a x p hx hp h2 h5;obtain⟨e1,e2⟩:=hx.size F
  by_cases k1:x.kind=1
  ·rw[(hx.1.k1 k1).2] at hp;cases hp
  ·have hd:dbT [] x=.mk x.kind x.name x.n (x.args.map (dbT [])):=az_ _ _ k1 h5
   rw[hd,aM_ _ (show (Ty.mk x.kind x.name x.n _).kind≠2 from h2)] at e1;have e3:(x.args.map (dbT [])).map (fl (sg K))=x.args.map (dbT []):=by injection e1
   have e4:=ku_ e3 (dbT [] p) (List.mem_map.2 ⟨p,hp,rfl⟩);have hs:(dbT [] x).size=ag_ (x.args.map (dbT []))+1:=by rw[hd,Ty.size_eq];rfl
   rw[e4,← e2,hs];have:=a7_ (x.args.map (dbT [])) (List.mem_map.2 ⟨p,hp,rfl⟩);omega
 have:=key hx hp h1 h5;have:=key hy hq h2 h5';unfold svM;omega
theorem pa_ (F:KF K)(hx:FlO K a x)(hy:FlO K b y){p q P Q:Ty}{c:ByteArray}(hp:x.args=[p])(hq:y.args=[q])(h5:x.kind=5)(h5':y.kind=5)(eP:dbT [] P=opB c 0 (dbT [x.name] p))(eQ:dbT [] Q=opB c 0 (dbT [y.name] q)):svM K P Q<svM K a b:=by
 have key:∀ {a x p P:Ty},FlO K a x→x.args=[p]→x.kind=5→dbT [] P=opB c 0 (dbT [x.name] p)→(fl (sg K) (dbT [] P)).size<(fl (sg K) (dbT [] a)).size:=by
  intro a x p P hx hp h5 eP;obtain⟨e1,e2⟩:=hx.size F;have hd:dbT [] x=.mk 5 emp 0 [dbT [x.name] p]:=by rw[aP_ _ _ h5,hp];rfl
  rw[hd,aM_ _ (show (Ty.mk 5 emp 0 [dbT [x.name] p]).kind≠2 from by show (5:Int)≠2;decide)] at e1;have e3:[dbT [x.name] p].map (fl (sg K))=[dbT [x.name] p]:=by injection e1
  have e4:=ku_ e3 (dbT [x.name] p) (by simp);rw[eP,f2_ _ _ _ _ (cX_ p _ (hx.1.args p (by rw[hp];simp))),e4,← e2];have hs:(dbT [] x).size=ag_ [dbT [x.name] p]+1:=by rw[hd,Ty.size_eq];rfl
  rw[hs];simp only[ag_];omega
 have:=key hx hp h5 eP;have:=key hy hq h5' eQ;unfold svM;omega
theorem pb_ (C:Co L n NL A0){K':Kn}{p q:Ty}{rest':List EqT}{fr':Nat}(I':SvI L n NL A0 K' p q rest' fr')(h:K.length<K'.length):svM K' p q<svM K a b:=by
 have h1:=(C.lim I'.D).2.1;have h2:=I'.ni C;have h3:=h2.1.2;have h4:=h2.2.2;unfold LIM at h3 h4;unfold svM;have h5:K'.length≤90:=h1;omega
theorem qO_ (h:¬ (y.kind=2∧(x.kind≠2∨x.n<y.n))):aW_ x y=(x,y):=if_neg h
theorem rt_ (h:y.kind=2∧(x.kind≠2∨x.n<y.n)):aW_ x y=(y,x):=if_pos h
theorem oa_ (hx:Std x)(hy:Std y)(h1:x.kind=2)(h2:y.kind=2)(h:x.n=y.n):aw_ x=aw_ y:=by
 rw[lq_ hx h1,lq_ hy h2,h]
theorem jM_ (hx:Std x)(hy:Std y)(h2:x.kind≠2):bs_ x y=(x.kind != y.kind || x.kind==1 || ((x.kind==3)&&!(eqN x.name y.name)) || x.args.length != y.args.length):=by
 unfold bs_
 by_cases hk:x.kind=y.kind
 ·by_cases h1:x.kind=1
  ·simp[h1]
  ·by_cases h3:x.kind=3
   ·rw[h3];simp[← hk,h3]
   ·have hkx:=hx.kind
    have h45:x.kind=4∨x.kind=5:=by omega
    rcases h45 with h4|h5
    ·have e1:=(hx.k4 h4).1
     have e2:=(hy.k4 (hk ▸ h4)).1;rw[e1,e2,(aN_ _ _).2 rfl];simp[h4]
    ·simp[h5]
 ·rw[show (x.kind != y.kind)=true from bne_iff_ne.2 hk];simp
end
theorem t0_ (j:Nat):(⟨#[36]⟩++ab_ (Lib.decDigits j):ByteArray)=br_ j:=by
 have h:=fY_ [36] j;have e:(⟨#[36]⟩++ab_ (Lib.decDigits j):ByteArray).data.toList=(br_ j).data.toList:=by
  rw[show (br_ j).data.toList=36 :: Lib.decDigits j from by unfold br_;exact cL_ _];exact h
 exact ByteArray.ext (Array.toList_inj.1 e)
theorem ru_ {x y:Ty} : aw_ (aW_ x y).1=aw_ (aW_ x y).2↔aw_ x=aw_ y:=by
 rcases fM_ x y with h|h<;>rw[h]
 exact⟨fun h=>h.symm,fun h=>h.symm⟩
section
variable {L : List Int} {n : Int → Nat} {NL : List ByteArray} {A0 : Nat} {K : Kn} {a b x y : Ty} {rest : List EqT} {fr : Nat}
theorem SvF.niXY (C:Co L n NL A0)(F:SvF L n NL A0 K a b x y rest fr):Ni NL fr x∧Ni NL fr y:=by
 have h:=F.niL C
 rcases fM_ x y with e|e<;>rw[e] at h
 ·exact h
 ·exact h.symm
theorem Ni.names (hN:sY_ NL){t:Ty}(h:Ni NL fr t):∀ s∈af_ t,s.size≠0:=by
 intro s hs h0;have hw:s.data.toList≠[]:=by
  rcases h5_ h.st h.vn hs with h|⟨j,_,h⟩
  ·exact (hN _ h).2.1.1
  ·rw[h];exact (oo_ j).1.1
 apply hw;have h0:s.data.size=0:=by simpa using h0
 exact List.eq_nil_of_length_eq_zero (by simpa using h0)
structure SvS (L:List Int)(n:Int→Nat)(NL:List ByteArray)(A0:Nat)(K:Kn)(a b:Ty)(rest:List EqT)(fr:Nat)(Z:List EqT)(i:Nat)(Ki:Kn)(fi:Nat):Prop where
 N:NI ⟨Ki,Z.drop i++rest,fi⟩
 D:DI L n NL A0 (dW ⟨Ki,Z.drop i++rest,fi⟩)
 ch:∀ r,eb_ (dW ⟨Ki,Z.drop i++rest,fi⟩) r→eb_ (dW ⟨K,(a,b) :: rest,fr⟩) r
 gr:Ki=K∨K.length<Ki.length
theorem SvF.start (C:Co L n NL A0)(F:SvF L n NL A0 K a b x y rest fr)(hs:aW_ x y=(x,y))(hc:aw_ x≠aw_ y)(h2:x.kind≠2)(hk:bs_ x y=false)(h5:x.kind≠5):SvS L n NL A0 K a b rest fr (x.args.zip y.args) 0 K fr:=by
 have h:=F.parts C (by rw[hs];exact hc) (by rw[hs];exact h2) (by rw[hs];exact hk) (by rw[hs];exact h5);rw[hs] at h;exact⟨h.1,h.2.1,h.2.2,.inl rfl⟩
section
variable {Z : List EqT} {i : Nat} {Ki : Kn} {fi : Nat} (S : SvS L n NL A0 K a b rest fr Z i Ki fi)
include S
theorem SvS.one (hi:i<Z.length):SvI L n NL A0 Ki Z[i].1 Z[i].2 (Z.drop (i+1)++rest) fi:=by
 have hd:Z.drop i++rest=(Z[i].1,Z[i].2) :: (Z.drop (i+1)++rest):=by rw[List.drop_eq_getElem_cons hi];rfl
 have h1:=S.N;have h2:=S.D;rw[hd] at h1 h2;exact⟨h1,h2⟩
theorem SvS.chain (hi:i<Z.length):∀ r,eb_ (dW ⟨Ki,(Z[i].1,Z[i].2) :: (Z.drop (i+1)++rest),fi⟩) r→eb_ (dW ⟨K,(a,b) :: rest,fr⟩) r:=by
 have hd:Z.drop i++rest=(Z[i].1,Z[i].2) :: (Z.drop (i+1)++rest):=by rw[List.drop_eq_getElem_cons hi];rfl
 have h:=S.ch;rw[hd] at h;exact h
theorem SvS.err (hi:i<Z.length){er:Nat}(h:SvR L n NL A0 Ki Z[i].1 Z[i].2 (Z.drop (i+1)++rest) fi (.error er)):SvR L n NL A0 K a b rest fr (.error er) :=
 ⟨h.1,h.2.1,S.chain hi _ h.2.2⟩
theorem SvS.next (hi:i<Z.length){K':Kn}{f':Nat}(h:SvR L n NL A0 Ki Z[i].1 Z[i].2 (Z.drop (i+1)++rest) fi (.ok (K',f'))):SvS L n NL A0 K a b rest fr Z (i+1) K' f':=by
 refine⟨h.1,h.2.1,fun r hr=>S.chain hi _ (h.2.2.1 r hr),?_⟩
 rcases S.gr with e|e
 ·rw[e] at h;exact h.2.2.2
 ·rcases h.2.2.2 with e2|e2
  ·rw[e2];exact .inr e
  ·exact .inr (by omega)
theorem SvS.fin (hi:i=Z.length):SvR L n NL A0 K a b rest fr (.ok (Ki,fi)):=by
 have hd:Z.drop i++rest=rest:=by rw[hi,List.drop_length];rfl
 obtain⟨h1,h2,h3,h4⟩:=S;rw[hd] at h1 h2 h3;exact⟨h1,h2,h3,h4⟩
theorem SvS.less (C:Co L n NL A0)(F:KF K)(hx:FlO K a x)(hy:FlO K b y)(hZ:Z=x.args.zip y.args)(hi:i<Z.length)(h1:x.kind≠2)(h2:y.kind≠2)(h5:x.kind≠5)(h5':y.kind≠5):svM Ki Z[i].1 Z[i].2<svM K a b:=by
 rcases S.gr with e|e
 ·have hm:(Z[i].1,Z[i].2)∈x.args.zip y.args:=by rw[← hZ];exact List.getElem_mem hi
  have hz:=List.of_mem_zip hm;rw[e];exact pc_ F hx hy hz.1 hz.2 h1 h2 h5 h5'
 ·exact pb_ C (S.one hi) e
end
def SvQ (L:List Int)(n:Int→Nat)(NL:List ByteArray)(A0:Nat)(K:Kn)(a b:Ty)(rest:List EqT)(fr:Nat)(P:Kn→Prop)(nil:Prop)(k er:Int):Prop:=∃ res,SvR L n NL A0 K a b rest fr res∧match res with
 | .error e=>er=(e:Int)∧nil
 | .ok (K',fr')=>k=(fr':Int)∧er=0∧P K'
theorem SvQ.back {K':Kn}{P Q:Ty}{fr':Nat}{R:Kn→Prop}{nil:Prop}{k er:Int}(hK:K'=K∨K.length<K'.length)(hd:∀ r,eb_ (dW ⟨K',(P,Q) :: rest,fr'⟩) r→eb_ (dW ⟨K,(a,b) :: rest,fr⟩) r)(h:SvQ L n NL A0 K' P Q rest fr' R nil k er):SvQ L n NL A0 K a b rest fr R nil k er:=by
 obtain⟨res,h1,h2⟩:=h;exact⟨res,h1.back hK hd,h2⟩
end
structure UnS (es:List EqT)(i:Nat)(Ki:Kn)(fi:Nat):Prop where
 N:NI ⟨Ki,es.drop i,fi⟩
 D:DI (LE es) (nE es) (NLE es) (AE es) (dW ⟨Ki,es.drop i,fi⟩)
 ch:∀ r,eb_ (dW ⟨Ki,es.drop i,fi⟩) r→eb_ ⟨[],es.map dbE,0⟩ r
section
variable {es : List EqT} {i : Nat} {Ki : Kn} {fi : Nat}
theorem UnS.start (E:Es es):UnS es 0 [] 0 :=
 ⟨⟨fun e he=>⟨⟨(E.ok e he).l.1.1,e7_ _ (E.ok e he).l.1⟩,(E.ok e he).r.1.1,e7_ _ (E.ok e he).r.1⟩,fun x u h=>by cases h⟩,sx_ E,fun r h=>h⟩
theorem UnS.one (S:UnS es i Ki fi)(hi:i<es.length):SvI (LE es) (nE es) (NLE es) (AE es) Ki es[i].1 es[i].2 (es.drop (i+1)) fi:=by
 have hd:es.drop i=(es[i].1,es[i].2) :: es.drop (i+1):=List.drop_eq_getElem_cons hi;have h1:=S.N;have h2:=S.D;rw[hd] at h1 h2;exact⟨h1,h2⟩
theorem UnS.chain (S:UnS es i Ki fi)(hi:i<es.length):∀ r,eb_ (dW ⟨Ki,(es[i].1,es[i].2) :: es.drop (i+1),fi⟩) r→eb_ ⟨[],es.map dbE,0⟩ r:=by
 have hd:es.drop i=(es[i].1,es[i].2) :: es.drop (i+1):=List.drop_eq_getElem_cons hi;have h:=S.ch;rw[hd] at h;exact h
theorem UnS.err (S:UnS es i Ki fi)(hi:i<es.length){er:Nat}(h:SvR (LE es) (nE es) (NLE es) (AE es) Ki es[i].1 es[i].2 (es.drop (i+1)) fi (.error er)):eb_ ⟨[],es.map dbE,0⟩ (.error er):=S.chain hi _ h.2.2
theorem UnS.next (S:UnS es i Ki fi)(hi:i<es.length){K':Kn}{f':Nat}(h:SvR (LE es) (nE es) (NLE es) (AE es) Ki es[i].1 es[i].2 (es.drop (i+1)) fi (.ok (K',f'))):UnS es (i+1) K' f' :=
 ⟨h.1,h.2.1,fun r hr=>S.chain hi _ (h.2.2.1 r hr)⟩
structure UnF (es:List EqT)(K:Kn):Prop where
 run:eb_ ⟨[],es.map dbE,0⟩ (.ok K)
 flk:∃ fr,FlK (NLE es) fr K∧∀ x∈K,Ni (NLE es) fr x.2∧dbT [] x.2=x.2∧fl (sg K) x.2=sg K x.1∧(sg K x.1).size≤LIM
 nd:(K.map fun x=>x.1).Nodup
 ln:K.length≤90
theorem q1_:∀ {K:Kn},(K.map fun x=>x.1).Nodup→∀ x∈K,lkK K x.1=some x.2
 | [],_,x,h=>by cases h
 | y :: K,hn,x,h=>by
  rw[List.map_cons,List.nodup_cons] at hn;unfold lkK;rw[List.find?_cons]
  rcases List.mem_cons.1 h with rfl|h
  ·rw[beq_self_eq_true];rfl
  ·have hne:(y.1==x.1)=false:=beq_eq_false_iff_ne.2 fun e=>hn.1 (List.mem_map.2 ⟨x,h,e.symm⟩)
   rw[hne];exact q1_ hn.2 x h
theorem UnS.fin (E:Es es)(S:UnS es i Ki fi)(hi:i=es.length):UnF es Ki:=by
 have hd:es.drop i=[]:=by rw[hi,List.drop_length]
 obtain⟨h1,h2,h3⟩:=S;rw[hd] at h1 h2 h3;have C:=kD_ E;have hl:=C.lim h2;have hrow:=h2.row C h1.kv;refine⟨h3 _ (.done _ rfl),⟨fi,⟨h2.ko,hrow,hl.1,hl.2.1⟩,fun x hx=>?_⟩,h2.ko.nodup,hl.2.1⟩;obtain⟨a,b,c⟩:=hrow x.1 x.2 (q1_ h2.ko.nodup x hx);exact⟨a,b,c,ne_ C h2 x.1⟩
end
structure sU_ (K:Kn)(i:Nat)(O:Kn):Prop where
 so:(O.map fun x=>x.1).Pairwise fun x y=>x<y
 me:∀ m,m∈O.map (fun x=>x.1)↔m∈(K.take i).map fun x=>x.1
 ty:∀ x∈O,Std x.2∧dbT [] x.2=sg K x.1
 ln:O.length=i
theorem sU_.nil (K:Kn):sU_ K 0 []:=⟨List.Pairwise.nil,fun m=>by simp,(fun x h=>by cases h),rfl⟩
def s8_ (p:Nat)(x:Int × Ty)(O:Kn):Kn:=O.take p++([x]++O.drop p)
theorem sU_.put {K:Kn}{i:Nat}{O:Kn}(H:sU_ K i O)(hn:(K.map fun x=>x.1).Nodup)(hi:i<K.length){x:Int × Ty}(hx:x.1=K[i].1)(hs:Std x.2)(hd:dbT [] x.2=sg K x.1){p:Nat}(hp:p≤O.length)(h1:∀ j (h:j<O.length),j<p→O[j].1<x.1)(h2:∀ h:p<O.length,¬ O[p].1<x.1):sU_ K (i+1) (s8_ p x O):=by
 have hnew:x.1∉O.map fun y=>y.1:=fun hm=>by
  have hm2:=(H.me _).1 hm;rw[hx] at hm2;obtain⟨y,hy,e⟩:=List.mem_map.1 hm2;obtain⟨j,hj,rfl⟩:=List.getElem_of_mem hy;rw[List.length_take] at hj;rw[List.getElem_take] at e;have:=(List.getElem?_inj (l:=K.map fun x=>x.1) (i:=j) (j:=i) (by rw[List.length_map];omega) hn).1 (by
   rw[List.getElem?_map,List.getElem?_map,List.getElem?_eq_getElem (by omega),List.getElem?_eq_getElem hi];exact congrArg some e)
  omega
 have hgt:∀ j (h:j<O.length),p≤j→x.1<O[j].1:=fun j h hpj=>by
  have hne:O[j].1≠x.1:=fun e=>hnew (List.mem_map.2 ⟨O[j],List.getElem_mem h,e⟩);have h3:=h2 (by omega)
  rcases Nat.lt_or_ge p j with h4|h4
  ·have hso:=List.pairwise_iff_getElem.1 H.so p j (by rw[List.length_map];omega) (by rw[List.length_map];omega) h4
   simp only[List.getElem_map] at hso;omega
  ·have:j=p:=by omega
   subst this;omega
 refine⟨?_,fun m=>?_,fun y hy=>?_,?_⟩
 ·unfold s8_
  rw[List.map_append,List.pairwise_append];refine⟨H.so.sublist ((List.take_sublist p O).map _),?_,fun u hu v hv=>?_⟩
  ·rw[List.map_append,List.map_cons,List.map_nil,List.singleton_append,List.pairwise_cons]
   refine⟨fun v hv=>?_,H.so.sublist ((List.drop_sublist p O).map _)⟩;obtain⟨y,hy,rfl⟩:=List.mem_map.1 hv;obtain⟨j,hj,rfl⟩:=List.getElem_of_mem hy;rw[List.length_drop] at hj;rw[List.getElem_drop];exact hgt _ (by omega) (by omega)
  ·obtain⟨y,hy,rfl⟩:=List.mem_map.1 hu
   obtain⟨j,hj,rfl⟩:=List.getElem_of_mem hy;rw[List.length_take] at hj;rw[List.getElem_take];have hl:=h1 j (by omega) (by omega);rw[List.map_append,List.map_cons,List.map_nil,List.singleton_append] at hv
   rcases List.mem_cons.1 hv with rfl|hv
   ·exact hl
   ·obtain⟨z,hz,rfl⟩:=List.mem_map.1 hv
    obtain⟨k,hk,rfl⟩:=List.getElem_of_mem hz;rw[List.length_drop] at hk;rw[List.getElem_drop];have:=hgt (p+k) (by omega) (by omega);omega
 ·have he:m∈(s8_ p x O).map (fun x=>x.1)↔m=x.1∨m∈O.map fun x=>x.1:=by
   unfold s8_
   conv=>rhs;rw[← List.take_append_drop p O]
   simp only[List.map_append,List.mem_append,List.map_cons,List.map_nil,List.mem_singleton]
   constructor
   ·rintro (h|h|h)
    ·exact .inr (.inl h)
    ·exact .inl h
    ·exact .inr (.inr h)
   ·rintro (h|h|h)
    ·exact .inr (.inl h)
    ·exact .inl h
    ·exact .inr (.inr h)
  rw[he,H.me,List.take_succ_eq_append_getElem hi,List.map_append,List.mem_append,hx];simp only[List.map_cons,List.map_nil,List.mem_singleton];exact⟨fun h=>h.symm,fun h=>h.symm⟩
 ·unfold s8_ at hy
  rcases List.mem_append.1 hy with h|h
  ·exact H.ty y (List.mem_of_mem_take h)
  ·rcases List.mem_append.1 h with h|h
   ·rw[List.mem_singleton.1 h];exact⟨hs,hd⟩
   ·exact H.ty y (List.mem_of_mem_drop h)
 ·unfold s8_
  rw[List.length_append,List.length_append,List.length_take,List.length_drop,List.length_singleton];have:=H.ln;omega
theorem sU_.keys {K O:Kn}(H:sU_ K K.length O)(hn:(K.map fun x=>x.1).Nodup):(O.map fun x=>x.1)=dq_ K:=by
 have hso:(O.map fun x=>x.1).Pairwise fun x y=>x≤y:=H.so.imp fun h=>Int.le_of_lt h;have hnd:(O.map fun x=>x.1).Nodup:=by
  unfold List.Nodup;exact H.so.imp fun h e=>by omega
 refine ia_ hnd ((gS_ K).nodup_iff.2 hn) hso (kw_ K) fun x=>?_;rw[H.me,(gS_ K).mem_iff,List.take_length]
end
section
open Go.RowKit
theorem qo_ (l:List Int)(i:Nat)(h:i<l.length)(x:Int):(l.take (i+1)).contains x=((l.take i).contains x || l[i]==x):=by
 rw[List.take_succ_eq_append_getElem h]
 by_cases e:l[i]=x
 ·rw[beq_iff_eq.2 e,Bool.or_true,List.contains_iff_mem,e];simp
 ·rw[beq_eq_false_iff_ne.2 e,Bool.or_false]
  by_cases hm:x∈l.take i
  ·rw[(List.contains_iff_mem).2 hm,List.contains_iff_mem];exact List.mem_append.2 (.inl hm)
  ·have h1:(l.take i).contains x=false:=by rw[← Bool.not_eq_true,List.contains_iff_mem];exact hm
   rw[h1,← Bool.not_eq_true,List.contains_iff_mem,List.mem_append,List.mem_singleton];rintro (h2|h2)
   ·exact hm h2
   ·exact e h2.symm
theorem qf_ {w:World}{v:Value}{l:List Int}(h:cM_ w v l)(x:Int):Calls Tryz.prog 105 #[v,.int .i64 x] w fun e w'=>e=.returned (.bool (decide (x∈l)))∧w=w':=by
 obtain⟨⟨a,cap,rfl,hlen,hl1,hc⟩,_⟩:=h;go_enter Tryz.func105,Tryz.ntmps105;go_wp2
 go_loop [5] (fun i=>∃ k:Nat,k≤l.length∧i=.int .i64 k∧(l.take k).contains x=false) (fun i=>l.length - (intOf i).toNat)
 case atStart=>exact⟨0,Nat.zero_le _,rfl,by simp⟩
 case round =>
  obtain⟨k,hk,rfl,hb⟩:=hrel;have H:=hid hb;clear hb
  by_cases hlt:k<l.length
  ·obtain⟨b,off,rfl,_,hcc⟩:=hc.resolve_left (by intro e;rw[e] at hlt;simp at hlt)
   have hcy:=hcc k hlt;have z0:(0:Int)≤(k:Int):=(by omega);have z1:(k:Int)<(l.length:Int):=(by omega);have ST:=hid (qo_ l k hlt x);have ME:=hid (List.getElem_mem hlt);clear hcc hc
   by_cases hx:l[k]=x
   ·have f1:(l[k]==x)=true:=beq_iff_eq.2 hx
    have G:Hid (decide (x∈l)=true):=hid (decide_eq_true (by rw[← hx];exact ME.out));clear hx;go_wp2;go_ret;exact⟨aS_ G.out.symm,rfl⟩
   ·have f1:(l[k]==x)=false:=beq_eq_false_iff_ne.2 hx
    have S:Hid ((l.take (k+1)).contains x=false):=hid (by rw[ST.out,H.out,f1];rfl);clear hx ST;go_wp2;go_round
    case rel=>exact⟨k+1,by omega,by go_num,S.out⟩
    case measure=>simp[intOf];omega
  ·obtain rfl:k=l.length:=by omega
   have G:Hid (decide (x∈l)=false):=hid (by have:=H.out;rw[List.take_length] at this;exact decide_eq_false fun h=>by rw[(List.contains_iff_mem).2 h] at this;cases this);go_wp2;go_ret;exact⟨aS_ G.out.symm,rfl⟩
theorem kA_ (l:List ByteArray)(i:Nat)(h:i<l.length):cq_ (l.take (i+1))=(cq_ (l.take i) || l[i].data.toList.headD 0==36):=by
 unfold cq_;rw[List.take_succ_eq_append_getElem h,List.any_append];simp
theorem oh_ {l:List ByteArray}{i:Nat}(h:i<l.length)(hd:(l[i].data.toList.headD 0==36)=true):cq_ l=true:=by
 unfold cq_;exact List.any_eq_true.2 ⟨l[i],List.getElem_mem h,hd⟩
theorem tU_ (s:ByteArray)(h0:0<s.size):((s[0].toNat:Int)==36)=(s.data.toList.headD 0==36):=by
 have e:s.data.toList.headD 0=s[0]:=by
  cases s with
  | mk d =>
   cases d with
   | mk l =>
    cases l with
    | nil=>simp[ByteArray.size] at h0
    | cons x l=>rfl
 rw[e]
 by_cases h:s[0]=36
 ·rw[h];rfl
 ·rw[beq_eq_false_iff_ne.2 h,beq_eq_false_iff_ne]
  intro h2;apply h;have h3:s[0].toNat=36:=by omega
  exact UInt8.toNat_inj.1 (by rw[h3];rfl)
theorem mj_ {w:World}{t:Ty}{a:OA_}{c:Nat}(hA:AtW t a c w)(hw:Wf t)(hs:t.size≤1000000000000)(hn:∀ s∈af_ t,s.size≠0) :
  Calls Tryz.prog 107 #[.agg #[.int .i64 t.kind,.string t.name,.int .i64 t.n,.slice a t.args.length c]] w (b9_ w (cq_ (af_ t))):=by
 have hz:=aq_ w (.cells #[.int .i64 t.kind,.string t.name,.int .i64 t.n,.slice a t.args.length c] 43);have k4:=R4.new w (.int .i64 t.kind) (.string t.name) (.int .i64 t.n) (.slice a t.args.length c);have CF:=hid (fn_ t _ a c _ (hA.low hz) (fun _ h=>h) hw hs);have HZ:=hid hz;have HN:=hid hn;obtain⟨c0,c1,c2,c3⟩:=k4.c03;generalize af_ t=l at *;clear hA hw hs hn hz k4;go_enter Tryz.func107,Tryz.ntmps107;go_wp2_with fail;generalize w.alloc (.cells #[.int .i64 t.kind,.string t.name,.int .i64 t.n,.slice a t.args.length c] 43)=W0 at *;refine CF.out.mono ?_;rintro e w1 ⟨v,rfl,hF,hb⟩;have HB:=hid (HZ.out.trans (hb.mono HZ.out.size));obtain⟨fa,fc,rfl,hlen,hl1,_,hc⟩:=hF;clear CF hb c0 c1 c2 c3;go_wp2
 go_loopw [4] (fun i wr=>∃ k:Nat,k≤l.length∧i=.int .i64 k∧cq_ (l.take k)=false∧wr=w1) (fun i _=>l.length - (intOf i).toNat)
 case atStart=>exact⟨0,Nat.zero_le _,rfl,rfl,rfl⟩
 case round =>
  obtain⟨k,hk,rfl,hb,rfl⟩:=hrel;have H:=hid hb;clear hb
  by_cases hlt:k<l.length
  ·obtain⟨b,off,rfl,_,hcc⟩:=hc.resolve_left (by intro e;rw[e] at hlt;simp at hlt)
   have hcy:=hcc k hlt;have z0:(0:Int)≤(k:Int):=(by omega);have z1:(k:Int)<(l.length:Int):=(by omega);have ST:=hid (kA_ l k hlt);have HT:=hid (oh_ hlt);have hne:0<l[k].size:=Nat.pos_of_ne_zero (HN.out _ (List.getElem_mem hlt));have z3:(0:Int)<(l[k].size:Int):=(by omega);clear hcc hc;generalize l[k]=x at *;have h36:=tU_ x hne;cases hx:(x.data.toList.headD 0==36) with
   | true =>
    rw[hx] at h36;have G:Hid (cq_ l=true):=hid (HT.out hx);clear hx ST HT;go_wp2;go_ret;exact⟨aS_ G.out.symm,HB.out⟩
   | false =>
    rw[hx] at h36;have S:Hid (cq_ (l.take (k+1))=false):=hid (by rw[ST.out,H.out,hx];rfl);clear hx ST HT;go_wp2;go_roundw
    case rel=>exact⟨k+1,by omega,by go_num,S.out,by trivial⟩
    case measure=>simp[intOf];omega
  ·obtain rfl:k=l.length:=by omega
   have G:Hid (cq_ l=false):=hid (by have:=H.out;rwa [List.take_length] at this);go_wp2;go_ret;exact⟨aS_ G.out.symm,HB.out⟩
def fe_ (w:World)(v:Value)(K:Kn):Prop:=∃ ps,bd_ (Lt w.heap.size) 0 w v K ps
theorem bd_.lo0 {S:Nat→Prop}{lo:Nat}{w:World}{v:Value}{K:Kn}{ps:List Value}(h:bd_ S lo w v K ps):bd_ S 0 w v K ps:=⟨d0_ h.own (Nat.zero_le _),h.len,h.at_⟩
theorem bd_.kr {S:Nat→Prop}{lo:Nat}{w:World}{v:Value}{K:Kn}{ps:List Value}(h:bd_ S lo w v K ps)(hS:∀ b,S b→b<w.heap.size):fe_ w v K:=⟨ps,h.lo0.mono hS⟩
theorem fe_.low {w w':World}{v:Value}{K:Kn}(h:fe_ w v K)(hb:Below w.heap.size w w'):fe_ w' v K:=by
 obtain⟨ps,h⟩:=h;exact⟨ps,(h.keep (fun b e=>hb.block b (h.own.lt b e).2) fun b hb'=>hb.block b hb').mono fun _ hj=>aU_ hj hb.size⟩
theorem fe_.ks {w:World}{v:Value}{K:Kn}(h:fe_ w v K):jZ_ w v K:=by
 obtain⟨ps,h⟩:=h;exact h.ks fun _ h=>h
theorem fe_.nil (w:World):fe_ w (.slice none 0 0) []:=⟨[],bd_.nil _ _ _⟩
theorem fe_.form {w:World}{v:Value}{K:Kn}(h:fe_ w v K):∃ a c,v=.slice a K.length c:=by
 obtain⟨ps,h⟩:=h;exact aL_ h.own
theorem bd_.one {S:Nat→Prop}{lo:Nat}{w:World}{v:Value}{es:Kn}{ps:List Value}(h:bd_ S lo w v es ps):∀ u∈a9_ es ps,u.oneCell'=true:=by
 intro u hu;obtain⟨j,hj,rfl⟩:=List.getElem_of_mem hu;rw[bW_ es ps h.len] at hj;have hi:j / 5<es.length:=by omega
 have hip:j / 5<ps.length:=by rw[h.len];exact hi
 have hj2:=g8_ es ps h.len (j / 5) hi hip (j % 5) (by omega);rw[show j / 5*5+j % 5=j by omega,List.getElem?_eq_getElem (by rw[bW_ es ps h.len];exact hj)] at hj2;obtain⟨a,c,e1,_⟩:=h.at_ (j / 5) es[j / 5] ps[j / 5] (List.getElem?_eq_getElem hi) (List.getElem?_eq_getElem hip);have hm:(a9_ es ps)[j]'(by rw[bW_ es ps h.len];exact hj)∈eS_ es[j / 5] ps[j / 5]:=List.mem_of_getElem? hj2.symm;unfold eS_ at hm;rw[e1] at hm;simp only[List.mem_cons,List.not_mem_nil,or_false] at hm
 rcases hm with e|e|e|e|e<;>rw[e]<;>rfl
theorem bd_.more (ty:TypeId){W w:World}{v:Value}{xs gs:Kn}{ps:List Value}(hb:Below W.heap.size W w)(h:bd_ (Lt W.heap.size) W.heap.size w v xs ps){g:Value}{S:Nat→Prop}{lo:Nat}{rs:List Value}(hG:bd_ S lo w g gs rs)(hS:∀ b,S b→b<W.heap.size)(hl:xs.length+gs.length≤4000) :
  ∃ qs v' w',(Builtin.append_ #[32,32] ty #[v,g]).run Tryz.prog w=.ok v' w'∧bd_ (Lt W.heap.size) W.heap.size w' v' (xs++gs) qs∧Below W.heap.size W w'∧w.grownBy w' v.ownBlock:=by
 obtain⟨i0,hi0,hz0,hz1,hz3⟩:=info_parts ky_
 rcases hG.own.2 with ⟨rfl,h0⟩|⟨b,cap,cur,rfl,_,hcur,_⟩
 ·have e0:=List.eq_nil_of_length_eq_zero h0
  subst e0;refine⟨ps,v,w,run_append_owned_none (P:=Tryz.prog) (w:=w) W.heap.size 32 ty 45 i0 5 Tryz.underlying32 hi0 v xs.length (a9_ xs ps) h.own,?_,hb,.refl _ _⟩;rw[List.append_nil];exact h
 ·obtain⟨v',w',hr,ho',hgr,_⟩:=run_append_own (P:=Tryz.prog) w W.heap.size 32 ty 45 i0 _ 5 64 Tryz.underlying32 hi0 hz0 hz1 hz3 rfl (by decide) v xs.length (a9_ xs ps) h.own ⟨b,0,none⟩ gs.length cap (a9_ gs rs) (bW_ _ _ hG.len) (fun j u hu=>hG.own.cells (g:=b) rfl j u hu) hG.one (by unfold maxLen;omega) (by omega) hb.size
  have B':=hb.grown hgr hb.size fun k e=>(h.own.lt k e).1;refine⟨ps++rs,v',w',hr,⟨?_,by rw[List.length_append,List.length_append,h.len,hG.len],fun j t sv h5 h6=>?_⟩,B',hgr⟩
  ·have e:a9_ xs ps++a9_ gs rs=a9_ (xs++gs) (ps++rs):=by
    unfold a9_;rw[List.zip_append h.len.symm,List.flatMap_append]
   rw[List.length_append,← e];exact ho'
  ·have old:∀ {S':Nat→Prop} {y:Value} {ts:List Ty},(∀ b,S' b→b<W.heap.size)→aa_ S' w y ts→aa_ (Lt W.heap.size) w' y ts:=fun hS' hy=>(hy.keep fun k hk=>(B'.block k (hS' k hk)).trans (hb.block k (hS' k hk)).symm).mono hS'
   rcases Nat.lt_or_ge j xs.length with hj|hj
   ·rw[List.getElem?_append_left hj] at h5
    rw[List.getElem?_append_left (by rw[h.len];exact hj)] at h6;obtain⟨b1,b2,e1,h3⟩:=h.at_ j t sv h5 h6;exact⟨b1,b2,e1,old (fun _ h=>h) h3⟩
   ·rw[List.getElem?_append_right hj] at h5
    rw[List.getElem?_append_right (by rw[h.len];exact hj),h.len] at h6;obtain⟨b1,b2,e1,h3⟩:=hG.at_ _ t sv h5 h6;exact⟨b1,b2,e1,old hS h3⟩
theorem bd_.none5 {w:World}{b lo:Nat}{S:Nat→Prop}(h:w.heap[b]? = some (.cells #[] 45 (0,0)))(hb:lo≤b):bd_ S lo w (.slice (some ⟨b,0,none⟩) 0 0) [] [] :=
 ⟨⟨rfl,.inr ⟨b,0,#[],rfl,hb,h,aA_ _,by unfold maxLen;omega,by simp,by simp;rfl⟩⟩,rfl,by simp⟩
theorem bd_.single {w:World}{b:Nat}{S:Nat→Prop}{e:Int × Ty}{a:OA_}{c:Nat}(h:w.heap[b]? = some (.cells #[.int .i64 e.1,.int .i64 e.2.kind,.string e.2.name,.int .i64 e.2.n,.slice a e.2.args.length c] 45 (0,0)))(hA:aa_ S w (.slice a e.2.args.length c) e.2.args):bd_ S 0 w (.slice (some ⟨b,0,none⟩) 1 1) [e] [.slice a e.2.args.length c]:=by
 refine⟨⟨rfl,.inr ⟨b,1,_,rfl,Nat.zero_le _,h,aA_ _,by unfold maxLen;omega,rfl,?_⟩⟩,rfl,fun j x sv h1 h2=>?_⟩
 ·rfl
 ·have hj:j=0:=by
   have:=(List.getElem?_eq_some_iff.1 h1).1;simp at this;omega
  subst hj;simp at h1 h2;subst h1 h2;exact⟨a,c,rfl,hA⟩
theorem bd_.up {S:Nat→Prop}{lo:Nat}{w w':World}{v:Value}{es:Kn}{ps:List Value}(h:bd_ S lo w v es ps)(hS:∀ b,S b→b<w.heap.size)(hb:Below w.heap.size w w'):bd_ S lo w' v es ps:=h.keep (fun b e=>hb.block b (h.own.lt b e).2) fun b hb'=>hb.block b (hS b hb')
def kL_ (W:World)(K:Kn)(v:Value)(w':World):Prop:=fe_ w' v K∧Below W.heap.size W w'
section
variable (ty1 ty2 : TypeId) (W : World) {v : Value} {K : Kn} (h : fe_ W v K) (hl : K.length ≤ 3000) {e : Int × Ty} {a : OA_} {c : Nat} (hA : AtW e.2 a c W)
include h hl hA
theorem rZ_:∃ v1 w1,(Builtin.append_ #[32,32] ty1 #[.slice (some ⟨W.heap.size,0,none⟩) 0 0,v]).run Tryz.prog (W.alloc (.cells #[] 45)).drew=.ok v1 w1∧Below W.heap.size W w1 ∧
  ∃ v2 w2,(Builtin.append_ #[32,32] ty2 #[v1,.slice (some ⟨w1.heap.size,0,none⟩) 1 1]).run Tryz.prog (w1.alloc (.cells #[.int .i64 e.1,.int .i64 e.2.kind,.string e.2.name,.int .i64 e.2.n,.slice a e.2.args.length c] 45))=.ok v2 w2∧kL_ W (K++[e]) v2 w2:=by
 obtain⟨ps,h⟩:=h;have hb:Below W.heap.size W (W.alloc (.cells #[] 45)).drew:=(aq_ _ _).drew;obtain⟨p1,v1,w1,hr,o1,hB1,_⟩:=bd_.more ty1 hb (bd_.none5 (heap_alloc_new W (.cells #[] 45)) (aA_ _)) (h.up (fun _ h=>h) hb) (fun _ h=>h) (by simp;omega);rw[List.nil_append] at o1;have hx:Below w1.heap.size w1 (w1.alloc (.cells #[.int .i64 e.1,.int .i64 e.2.kind,.string e.2.name,.int .i64 e.2.n,.slice a e.2.args.length c] 45)):=aq_ _ _;have hA2:aa_ (Lt W.heap.size) (w1.alloc (.cells #[.int .i64 e.1,.int .i64 e.2.kind,.string e.2.name,.int .i64 e.2.n,.slice a e.2.args.length c] 45)) (.slice a e.2.args.length c) e.2.args:=hA.keep fun b hb'=>(hB1.alloc hB1.size _).block b hb';obtain⟨p2,v2,w2,hr2,o2,hB2,_⟩:=bd_.more ty2 (hB1.alloc hB1.size _) (o1.up (fun b hb'=>aU_ hb' hB1.size) hx) (bd_.single (heap_alloc_new w1 _) hA2) (fun _ h=>h) (by simp;omega);exact⟨v1,w1,hr,hB1,v2,w2,hr2,o2.kr fun b hb'=>aU_ hb' hB2.size,hB2⟩
theorem rY_:∃ v1 w1,(Builtin.append_ #[32,32] ty1 #[.slice (some ⟨W.heap.size,0,none⟩) 0 0,v]).run Tryz.prog ((W.alloc (.cells #[] 45)).alloc (.cells #[.int .i64 e.1,.int .i64 e.2.kind,.string e.2.name,.int .i64 e.2.n,.slice a e.2.args.length c] 45)).drew=.ok v1 w1∧Below W.heap.size W w1 ∧
  ∃ v2 w2,(Builtin.append_ #[32,32] ty2 #[v1,.slice (some ⟨W.heap.size+1,0,none⟩) 1 1]).run Tryz.prog w1=.ok v2 w2∧kL_ W (K++[e]) v2 w2:=by
 obtain⟨ps,h⟩:=h;have hb0:Below W.heap.size W (W.alloc (.cells #[] 45)):=aq_ _ _;have hb:Below W.heap.size W ((W.alloc (.cells #[] 45)).alloc (.cells #[.int .i64 e.1,.int .i64 e.2.kind,.string e.2.name,.int .i64 e.2.n,.slice a e.2.args.length c] 45)).drew:=(hb0.alloc hb0.size _).drew;have hnew:((W.alloc (.cells #[] 45)).alloc (.cells #[.int .i64 e.1,.int .i64 e.2.kind,.string e.2.name,.int .i64 e.2.n,.slice a e.2.args.length c] 45)).heap[W.heap.size+1]? = some (.cells #[.int .i64 e.1,.int .i64 e.2.kind,.string e.2.name,.int .i64 e.2.n,.slice a e.2.args.length c] 45 (0,0)):=am_ (by simp);obtain⟨p1,v1,w1,hr,o1,hB1,hg⟩:=bd_.more ty1 hb (bd_.none5 ((heap_alloc_old (W.alloc (.cells #[] 45)) _ (by simp)).trans (heap_alloc_new W (.cells #[] 45))) (aA_ _)) (h.up (fun _ h=>h) hb) (fun _ h=>h) (by simp;omega);rw[List.nil_append] at o1;obtain⟨p2,v2,w2,hr2,o2,hB2,_⟩:=bd_.more ty2 hB1 o1 (bd_.single (S:=Lt W.heap.size) ((hg.block (W.heap.size+1) (by simp) (by simp[Value.ownBlock])).trans hnew) (hA.keep fun b hb'=>hB1.block b hb')) (fun _ h=>h) (by simp;omega);exact⟨v1,w1,hr,hB1,v2,w2,hr2,o2.kr fun b hb'=>aU_ hb' hB2.size,hB2⟩
theorem rX_:∃ v1 w1,(Builtin.append_ #[32,32] ty1 #[.slice (some ⟨W.heap.size+1,0,none⟩) 0 0,v]).run Tryz.prog ((W.alloc (.cells #[.int .i64 e.1,.int .i64 e.2.kind,.string e.2.name,.int .i64 e.2.n,.slice a e.2.args.length c] 45)).alloc (.cells #[] 45)).drew=.ok v1 w1∧Below W.heap.size W w1 ∧
  ∃ v2 w2,(Builtin.append_ #[32,32] ty2 #[v1,.slice (some ⟨W.heap.size,0,none⟩) 1 1]).run Tryz.prog w1=.ok v2 w2∧kL_ W (K++[e]) v2 w2:=by
 obtain⟨ps,h⟩:=h;have hb0:Below W.heap.size W (W.alloc (.cells #[.int .i64 e.1,.int .i64 e.2.kind,.string e.2.name,.int .i64 e.2.n,.slice a e.2.args.length c] 45)):=aq_ _ _;have hb:Below W.heap.size W ((W.alloc (.cells #[.int .i64 e.1,.int .i64 e.2.kind,.string e.2.name,.int .i64 e.2.n,.slice a e.2.args.length c] 45)).alloc (.cells #[] 45)).drew:=(hb0.alloc hb0.size _).drew;have hnew:((W.alloc (.cells #[.int .i64 e.1,.int .i64 e.2.kind,.string e.2.name,.int .i64 e.2.n,.slice a e.2.args.length c] 45)).alloc (.cells #[] 45)).heap[W.heap.size]? = some (.cells #[.int .i64 e.1,.int .i64 e.2.kind,.string e.2.name,.int .i64 e.2.n,.slice a e.2.args.length c] 45 (0,0)):=(heap_alloc_old (W.alloc (.cells #[.int .i64 e.1,.int .i64 e.2.kind,.string e.2.name,.int .i64 e.2.n,.slice a e.2.args.length c] 45)) (.cells #[] 45) (by simp)).trans (heap_alloc_new W _);have hm:((W.alloc (.cells #[.int .i64 e.1,.int .i64 e.2.kind,.string e.2.name,.int .i64 e.2.n,.slice a e.2.args.length c] 45)).alloc (.cells #[] 45)).heap[W.heap.size+1]? = some (.cells #[] 45 (0,0)):=am_ (by simp);obtain⟨p1,v1,w1,hr,o1,hB1,hg⟩:=bd_.more ty1 hb (bd_.none5 hm (by omega)) (h.up (fun _ h=>h) hb) (fun _ h=>h) (by simp;omega);rw[List.nil_append] at o1;obtain⟨p2,v2,w2,hr2,o2,hB2,_⟩:=bd_.more ty2 hB1 o1 (bd_.single (S:=Lt W.heap.size) ((hg.block W.heap.size (by simp;omega) (by simp[Value.ownBlock])).trans hnew) (hA.keep fun b hb'=>hB1.block b hb')) (fun _ h=>h) (by simp;omega);exact⟨v1,w1,hr,hB1,v2,w2,hr2,o2.kr fun b hb'=>aU_ hb' hB2.size,hB2⟩
end
def R5 (w:World)(b:Nat)(u0 u1 u2 u3 u4:Value):Prop:=w.heap[b]? = some (.cells #[u0,u1,u2,u3,u4] 45 (0,0))
section
variable {w w' : World} {b : Nat} {u0 u1 u2 u3 u4 : Value}
theorem R5.c0 (h:R5 w b u0 u1 u2 u3 u4):w.cell? ⟨b,0,none⟩=some u0:=cell_of_row w b 0 _ _ _ h
theorem R5.c1 (h:R5 w b u0 u1 u2 u3 u4):w.cell? ⟨b,1,none⟩=some u1:=cell_of_row w b 1 _ _ _ h
theorem R5.c2 (h:R5 w b u0 u1 u2 u3 u4):w.cell? ⟨b,2,none⟩=some u2:=cell_of_row w b 2 _ _ _ h
theorem R5.c3 (h:R5 w b u0 u1 u2 u3 u4):w.cell? ⟨b,3,none⟩=some u3:=cell_of_row w b 3 _ _ _ h
theorem R5.c4 (h:R5 w b u0 u1 u2 u3 u4):w.cell? ⟨b,4,none⟩=some u4:=cell_of_row w b 4 _ _ _ h
theorem R5.fr (h:R5 w b u0 u1 u2 u3 u4)(i:Nat):w.frozen? ⟨b,i,none⟩=false:=by unfold R5 at h;simp[World.frozen?,h]
theorem R5.lt (h:R5 w b u0 u1 u2 u3 u4):b<w.heap.size:=(Array.getElem?_eq_some_iff.1 h).1
theorem R5.new (w:World)(u0 u1 u2 u3 u4:Value):R5 (w.alloc (.cells #[u0,u1,u2,u3,u4] 45)) w.heap.size u0 u1 u2 u3 u4:=heap_alloc_new w _
theorem R5.low (h:R5 w b u0 u1 u2 u3 u4)(hb:Below w.heap.size w w'):R5 w' b u0 u1 u2 u3 u4:=(hb.block b h.lt).trans h
theorem R5.set5 (h:R5 w b u0 u1 u2 u3 u4)(v0 v1 v2 v3 v4:Value):R5 (((((w.setCell ⟨b,0,none⟩ v0).setCell ⟨b,1,none⟩ v1).setCell ⟨b,2,none⟩ v2).setCell ⟨b,3,none⟩ v3).setCell ⟨b,4,none⟩ v4) b v0 v1 v2 v3 v4:=by
 unfold R5 at *;rw[aF_ (aF_ (aF_ (aF_ (aF_ h v0) v1) v2) v3) v4];rfl
end
theorem ta_ {n b:Nat}{a w:World}(h:Below n a w)(hb:n≤b)(v0 v1 v2 v3 v4:Value):Below n a (((((w.setCell ⟨b,0,none⟩ v0).setCell ⟨b,1,none⟩ v1).setCell ⟨b,2,none⟩ v2).setCell ⟨b,3,none⟩ v3).setCell ⟨b,4,none⟩ v4) :=
 (((((h.setCell (show n≤(⟨b,0,none⟩:Addr).block from hb) v0).setCell (show n≤(⟨b,1,none⟩:Addr).block from hb) v1).setCell (show n≤(⟨b,2,none⟩:Addr).block from hb) v2).setCell (show n≤(⟨b,3,none⟩:Addr).block from hb) v3).setCell (show n≤(⟨b,4,none⟩:Addr).block from hb) v4)
theorem aside5 {w0 w1 w:World}{y:Ty}{a:OA_}{c:Nat}(h:aa_ (New (Lt w0.heap.size) w1 w) w (.slice a y.args.length c) y.args)(h0:w0.heap.size≤w.heap.size)(h1:w1.heap.size=w0.heap.size+1)(v0 v1 v2 v3 v4:Value) :
  AtW y a c (((((w.setCell ⟨w0.heap.size,0,none⟩ v0).setCell ⟨w0.heap.size,1,none⟩ v1).setCell ⟨w0.heap.size,2,none⟩ v2).setCell ⟨w0.heap.size,3,none⟩ v3).setCell ⟨w0.heap.size,4,none⟩ v4):=by
 refine (h.keep fun b hb=>?_).mono fun b hb=>?_
 ·have hne:b≠w0.heap.size:=by
   rcases hb with hb|hb
   ·have hb':b<w0.heap.size:=hb
    omega
   ·have:=hb.1;omega
  rw[av_ _ _ _ _ hne,av_ _ _ _ _ hne,av_ _ _ _ _ hne,av_ _ _ _ _ hne,av_ _ _ _ _ hne]
 ·show b<Array.size (World.heap _)
  simp only[World.size_setCell]
  rcases hb with hb|hb
  ·exact aU_ hb h0
  ·exact hb.2
def s0_ (W:World)(g:Value)(gs:Kn):Prop:=(g=.slice none 0 0∧gs=[])∨∃ addr cap qs,g=.slice (some addr) gs.length cap∧qs.length=gs.length∧(∀ j u,(a9_ gs qs)[j]? = some u→W.cell? (addr.add j)=some u)∧(∀ u∈a9_ gs qs,u.oneCell'=true) ∧
 ∀ (j:Nat) (e:Int × Ty) (p:Value),gs[j]? = some e→qs[j]? = some p→∃ a c,p=.slice a e.2.args.length c∧aa_ (Lt W.heap.size) W p e.2.args
theorem s0_.low {W W':World}{g:Value}{gs:Kn}(h:s0_ W g gs)(hb:Below W.heap.size W W'):s0_ W' g gs:=by
 rcases h with h|⟨addr,cap,qs,h1,h2,h3,h4,h5⟩
 ·exact .inl h
 ·refine .inr ⟨addr,cap,qs,h1,h2,fun j u hu=>?_,h4,fun j e p hj hp=>?_⟩
  ·have hc:=h3 j u hu
   exact (hb.cell (World.block_lt_of_cell? W _ hc)).trans hc
  ·obtain⟨a,c,e1,hA⟩:=h5 j e p hj hp
   exact⟨a,c,e1,(hA.keep fun b hb'=>hb.block b hb').mono fun b hb'=>aU_ hb' hb.size⟩
theorem f5_ {xs ys:Kn}{ps qs:List Value}(h:ps.length=xs.length):a9_ (xs++ys) (ps++qs)=a9_ xs ps++a9_ ys qs:=by
 unfold a9_;rw[List.zip_append h.symm,List.flatMap_append]
theorem oN_ (g k j:Nat):(⟨g,k,none⟩:Addr).add j=⟨g,k+j,none⟩:=by unfold Addr.add;split<;>simp_all
theorem fe_.cap {W:World}{oa:OA_}{oc:Nat}{O:Kn}(h:fe_ W (.slice oa O.length oc) O):O.length≤oc:=by
 obtain⟨ps,h⟩:=h
 rcases h.own.2 with ⟨hv,h0⟩|⟨g,cap,cur,hv,hb,hg,h1,_⟩
 ·omega
 ·injection hv with e1 e2 e3
  omega
theorem fe_.drop {W:World}{oa:OA_}{oc:Nat}{O:Kn}(h:fe_ W (.slice oa O.length oc) O){p:Nat}(hp:p≤O.length):s0_ W (.slice (if oc=p then oa else oa.map fun x=>x.add (p*5)) (O.length - p) (oc - p)) (O.drop p):=by
 obtain⟨ps,h⟩:=h
 rcases h.own.2 with ⟨hv,h0⟩|⟨g,cap,cur,hv,hb,hg,h1,h2,h3,h4⟩
 ·injection hv with e1 e2 e3
  subst e1 e3;have hO:O=[]:=List.eq_nil_of_length_eq_zero h0;subst hO;have hp0:p=0:=by simp at hp;exact hp
  subst hp0;exact .inl ⟨rfl,rfl⟩
 ·injection hv with e1 e2 e3
  subst e1 e3;have hlen:(ps.drop p).length=(O.drop p).length:=by rw[List.length_drop,List.length_drop,h.len]
  have hcut:a9_ O ps=a9_ (O.take p) (ps.take p)++a9_ (O.drop p) (ps.drop p):=by
   rw[← f5_ (by rw[List.length_take,List.length_take,h.len]),List.take_append_drop,List.take_append_drop]
  have hcl:(a9_ (O.take p) (ps.take p)).length=p*5:=by
   rw[bW_ _ _ (by rw[List.length_take,List.length_take,h.len]),List.length_take,Nat.min_eq_left hp]
  refine .inr ⟨if oc=p then ⟨g,0,none⟩ else (⟨g,0,none⟩:Addr).add (p*5),oc - p,ps.drop p,?_,hlen,fun j u hu=>?_,fun u hu=>h.one u (by rw[hcut];exact List.mem_append.2 (.inr hu)),fun j e q hj hq=>?_⟩
  ·rw[List.length_drop]
   split<;>rfl
  ·have hcell:=h.own.cells (g:=g) rfl (p*5+j) u (by rw[hcut,List.getElem?_append_right (by omega),hcl,Nat.add_sub_cancel_left];exact hu)
   have hj0:j<(a9_ (O.drop p) (ps.drop p)).length:=(List.getElem?_eq_some_iff.1 hu).1;rw[bW_ _ _ hlen,List.length_drop] at hj0;rw[if_neg (by omega),oN_,oN_];rw[oN_] at hcell;rw[Nat.add_assoc];exact hcell
  ·rw[List.getElem?_drop] at hj hq
   exact h.at_ _ e q hj hq
theorem fe_.take {W:World}{oa:OA_}{oc:Nat}{O:Kn}(h:fe_ W (.slice oa O.length oc) O){p:Nat}(hp:p≤O.length):s0_ W (.slice oa p oc) (O.take p):=by
 obtain⟨ps,h⟩:=h
 rcases h.own.2 with ⟨hv,h0⟩|⟨g,cap,cur,hv,hb,hg,h1,h2,h3,h4⟩
 ·injection hv with e1 e2 e3
  subst e1 e3;have hO:O=[]:=List.eq_nil_of_length_eq_zero h0;subst hO;have hp0:p=0:=by simp at hp;exact hp
  subst hp0;exact .inl ⟨rfl,rfl⟩
 ·injection hv with e1 e2 e3
  subst e1 e3;have hlen:(ps.take p).length=(O.take p).length:=by rw[List.length_take,List.length_take,h.len]
  have hcut:a9_ O ps=a9_ (O.take p) (ps.take p)++a9_ (O.drop p) (ps.drop p):=by
   rw[← f5_ hlen,List.take_append_drop,List.take_append_drop]
  refine .inr ⟨⟨g,0,none⟩,oc,ps.take p,by rw[List.length_take,Nat.min_eq_left hp],hlen,fun j u hu=>?_,fun u hu=>h.one u (by rw[hcut];exact List.mem_append.2 (.inl hu)),fun j e q hj hq=>?_⟩
  ·exact h.own.cells (g:=g) rfl j u (by rw[hcut,List.getElem?_append_left (List.getElem?_eq_some_iff.1 hu).1];exact hu)
  ·have hj1:j<(O.take p).length:=(List.getElem?_eq_some_iff.1 hj).1
   rw[List.length_take] at hj1;rw[List.getElem?_take,if_pos (by omega)] at hj hq;exact h.at_ _ e q hj hq
theorem fe_.all {W:World}{v:Value}{O:Kn}(h:fe_ W v O):s0_ W v O:=by
 obtain⟨a,c,rfl⟩:=h.form;have:=h.take (aA_ O.length);rwa [List.take_length] at this
theorem bd_.part (ty:TypeId){W w:World}{v:Value}{xs gs:Kn}{ps:List Value}(hb:Below W.heap.size W w)(h:bd_ (Lt W.heap.size) W.heap.size w v xs ps){g:Value}(hG:s0_ W g gs)(hl:xs.length+gs.length≤4000) :
  ∃ qs v' w',(Builtin.append_ #[32,32] ty #[v,g]).run Tryz.prog w=.ok v' w'∧bd_ (Lt W.heap.size) W.heap.size w' v' (xs++gs) qs∧Below W.heap.size W w':=by
 obtain⟨i0,hi0,hz0,hz1,hz3⟩:=info_parts ky_
 rcases hG with ⟨rfl,rfl⟩|⟨addr,cap,rs,rfl,hlen,hc,hone,hat⟩
 ·refine⟨ps,v,w,run_append_owned_none (P:=Tryz.prog) (w:=w) W.heap.size 32 ty 45 i0 5 Tryz.underlying32 hi0 v xs.length (a9_ xs ps) h.own,?_,hb⟩
  rw[List.append_nil];exact h
 ·obtain⟨v',w',hr,ho',hgr,_⟩:=run_append_own (P:=Tryz.prog) w W.heap.size 32 ty 45 i0 _ 5 64 Tryz.underlying32 hi0 hz0 hz1 hz3 rfl (by decide) v xs.length (a9_ xs ps) h.own addr gs.length cap (a9_ gs rs) (bW_ _ _ hlen) (fun j u hu=>by
   have h1:=hc j u hu;exact (hb.cell (World.block_lt_of_cell? W _ h1)).trans h1) hone (by unfold maxLen;omega) (by omega) hb.size
  have B':=hb.grown hgr hb.size fun k e=>(h.own.lt k e).1;refine⟨ps++rs,v',w',hr,⟨?_,by rw[List.length_append,List.length_append,h.len,hlen],fun j t sv h5 h6=>?_⟩,B'⟩
  ·rw[List.length_append,f5_ h.len];exact ho'
  ·rcases Nat.lt_or_ge j xs.length with hj|hj
   ·rw[List.getElem?_append_left hj] at h5
    rw[List.getElem?_append_left (by rw[h.len];exact hj)] at h6;obtain⟨b1,b2,e1,h3⟩:=h.at_ j t sv h5 h6;exact⟨b1,b2,e1,h3.keep fun k hk=>(B'.block k hk).trans (hb.block k hk).symm⟩
   ·rw[List.getElem?_append_right hj] at h5
    rw[List.getElem?_append_right (by rw[h.len];exact hj),h.len] at h6;obtain⟨b1,b2,e1,h3⟩:=hat _ t sv h5 h6;exact⟨b1,b2,e1,h3.keep fun k hk=>B'.block k hk⟩
theorem ins_a (ty:TypeId){W:World}{O:Kn}{oa:OA_}{oc p:Nat}{x:Int × Ty}{a:OA_}{c:Nat}(hO:fe_ W (.slice oa O.length oc) O)(hp:p≤O.length)(hl:O.length≤90)(hA:AtW x.2 a c W) :
  ∃ v' w',(Builtin.append_ #[32,32] ty #[.slice (some ⟨W.heap.size,0,none⟩) 1 1,.slice (if oc=p then oa else oa.map fun x=>x.add (p*5)) (O.length - p) (oc - p)]).run Tryz.prog (W.alloc (.cells #[.int .i64 x.1,.int .i64 x.2.kind,.string x.2.name,.int .i64 x.2.n,.slice a x.2.args.length c] 45)).drew=.ok v' w'∧fe_ w' v' ([x]++O.drop p)∧Below W.heap.size W w':=by
 have hb:Below W.heap.size W (W.alloc (.cells #[.int .i64 x.1,.int .i64 x.2.kind,.string x.2.name,.int .i64 x.2.n,.slice a x.2.args.length c] 45)).drew:=(aq_ _ _).drew;have h1:bd_ (Lt W.heap.size) 0 (W.alloc (.cells #[.int .i64 x.1,.int .i64 x.2.kind,.string x.2.name,.int .i64 x.2.n,.slice a x.2.args.length c] 45)).drew (.slice (some ⟨W.heap.size,0,none⟩) 1 1) [x] [.slice a x.2.args.length c]:=bd_.single (heap_alloc_new W _) (hA.keep fun b hb'=>hb.block b hb');have h2:bd_ (Lt W.heap.size) W.heap.size (W.alloc (.cells #[.int .i64 x.1,.int .i64 x.2.kind,.string x.2.name,.int .i64 x.2.n,.slice a x.2.args.length c] 45)).drew (.slice (some ⟨W.heap.size,0,none⟩) 1 1) [x] [.slice a x.2.args.length c]:=by
  refine⟨⟨h1.own.1,?_⟩,h1.len,h1.at_⟩
  rcases h1.own.2 with ⟨e,_⟩|⟨g,cap,cur,hv,_,h3⟩
  ·cases e
  ·refine .inr ⟨g,cap,cur,hv,?_,h3⟩
   injection hv with e1
   injection e1 with e1
   injection e1 with e1
   omega
 obtain⟨qs,v',w',hr,hk,hB⟩:=bd_.part ty hb h2 (hO.drop hp) (by rw[List.length_drop,List.length_singleton];omega);exact⟨v',w',hr,hk.kr fun b hb'=>aU_ hb' hB.size,hB⟩
theorem ins_b (ty1 ty2:TypeId){W:World}{O R:Kn}{oa:OA_}{oc p:Nat}{g:Value}(hO:fe_ W (.slice oa O.length oc) O)(hp:p≤O.length)(hl:O.length≤90)(hR:fe_ W g R)(hl2:R.length≤1000) :
  ∃ v1 w1,(Builtin.append_ #[32,32] ty1 #[.slice (some ⟨W.heap.size,0,none⟩) 0 0,.slice oa p oc]).run Tryz.prog (W.alloc (.cells #[] 45))=.ok v1 w1 ∧
   ∃ v2 w2,(Builtin.append_ #[32,32] ty2 #[v1,g]).run Tryz.prog w1=.ok v2 w2∧fe_ w2 v2 (O.take p++R)∧Below W.heap.size W w2:=by
 have hb:Below W.heap.size W (W.alloc (.cells #[] 45)):=aq_ _ _;obtain⟨q1,v1,w1,r1,a1,B1⟩:=bd_.part ty1 hb (bd_.none5 (heap_alloc_new W (.cells #[] 45)) (aA_ _)) (hO.take hp) (by rw[List.length_take];simp;omega);rw[List.nil_append] at a1;obtain⟨q2,v2,w2,r2,a2,B2⟩:=bd_.part ty2 B1 a1 hR.all (by rw[List.length_take];omega);exact⟨v1,w1,r1,v2,w2,r2,a2.kr fun b hb'=>aU_ hb' B2.size,B2⟩
end
end Go.Proofs.YtjecnionbjlncaaGreatDoor.Tp

/- Packed. -/
import Derived.Test.YtjecnionbjlncaaGreatDoorP16
set_option maxRecDepth 100000
set_option maxHeartbeats 6400000
namespace Go.Proofs.YtjecnionbjlncaaGreatDoor.Tp
section
def ct_:Nat→List ByteArray→Nat→Ty→Ty × Nat
 | 0,_,n,t=>(t,n)
 | d+1,free,n,t =>
  if t.kind=5 then (bA_ (b6_ (aR_ (ck_ free n)) (cn_ t.name (aR_ (ck_ free n)) (cB_ t))) (au_ (ct_ d free) (ck_ free n+1) [cn_ t.name (aR_ (ck_ free n)) (cB_ t)]).1,
   (au_ (ct_ d free) (ck_ free n+1) [cn_ t.name (aR_ (ck_ free n)) (cB_ t)]).2)
  else (bA_ t (au_ (ct_ d free) n t.args).1,(au_ (ct_ d free) n t.args).2)
def cs_ (t:Ty):Ty:=(ct_ t.depth (af_ t) 0 t).1
theorem eA_ (n:Nat)(h:n≤9223372036854775807):(aR_ n).size≤64∧1≤(aR_ n).size:=by
 unfold aR_;rw[ByteArray.size_append];have h1:=Lib.itoa_length_le (n:Int) (by omega) (by omega);have h3:(⟨#[120]⟩:ByteArray).size=1:=rfl;have h4:(ab_ (Lib.itoa (n:Int))).size=(Lib.itoa (n:Int)).length:=by simp[ab_,ByteArray.size]
 omega
theorem ll_ (free:List ByteArray)(n:Nat):n≤ck_ free n∧ck_ free n≤n+free.length :=
 ⟨(bV_ aR_ (fun _ _=>dH_) free n).1,(bV_ aR_ (fun _ _=>dH_) free n).2.1⟩
theorem p2_ {a b c q n m:Nat}(h:n+(a+b)*q≤c)(hm:m≤n+a*q):m+b*q≤c:=by
 rw[Nat.add_mul] at h;omega
theorem hO_ (d:Nat) (free:List ByteArray) (q:Nat) (ih:∀ (t:Ty) (n:Nat),t.depth≤d→ba_ t→t.size≤4499999999224→n+t.size*q≤4611686018427387904 →
   n≤(ct_ d free n t).2∧(ct_ d free n t).2≤n+t.size*q∧(ct_ d free n t).1.depth=t.depth∧(ct_ d free n t).1.size=t.size∧ba_ (ct_ d free n t).1∧(ct_ d free n t).1.kind=t.kind) :
  ∀ (l:List Ty) (n:Nat),(∀ t∈l,t.depth≤d∧ba_ t∧t.size≤4499999999224)→n+ag_ l*q≤4611686018427387904 →
   n≤(au_ (ct_ d free) n l).2∧(au_ (ct_ d free) n l).2≤n+ag_ l*q∧aD_ (au_ (ct_ d free) n l).1=aD_ l∧ag_ (au_ (ct_ d free) n l).1=ag_ l∧∀ t∈(au_ (ct_ d free) n l).1,ba_ t:=by
 intro l
 induction l with
 | nil=>intro n _ _;exact⟨aA_ _,by simp[au_],rfl,rfl,fun t ht=>by cases ht⟩
 | cons t l ihl =>
  intro n h hb;rw[ag_] at hb;obtain⟨a1,a2,a3⟩:=h t (by simp);have hb1:n+t.size*q≤4611686018427387904:=by rw[Nat.add_mul] at hb;omega
  obtain⟨c1,c2,c3,c4,c5,_⟩:=ih t n a1 a2 a3 hb1;obtain⟨e1,e2,e3,e4,e5⟩:=ihl (ct_ d free n t).2 (fun u hu=>h u (by simp[hu])) (p2_ hb c2);simp only[au_];refine⟨by omega,?_,by rw[aD_,aD_,c3,e3],by rw[ag_,ag_,c4,e4],?_⟩
  ·rw[ag_,Nat.add_mul];omega
  ·intro u hu
   rcases List.mem_cons.1 hu with rfl|hu
   ·exact c5
   ·exact e5 u hu
theorem c8_ (fr to:ByteArray)(t:Ty)(hg:ba_ t)(hto:to.size≤64)(hs:t.size≤4499999999224) :
  (cn_ fr to t).depth=t.depth∧(cn_ fr to t).size=t.size∧ba_ (cn_ fr to t)∧(cn_ fr to t).kind=t.kind:=jk_ t.depth fr to t (aA_ _) hg hto hs
theorem a8_ {t:Ty}(h:ba_ t):∀ a∈t.args,ba_ a:=fun a ha=>⟨((a3_ t).1 h.1).2 a ha,((bY_ t).1 h.2).2 a ha⟩
theorem fw_ {t:Ty}(h:ba_ t)(l:List Ty)(hl:l.length=t.args.length)(hg:∀ a∈l,ba_ a):ba_ (bA_ t l):=by
 refine⟨(a3_ _).2 ⟨?_,fun a ha=>(hg a ha).1⟩,(bY_ _).2 ⟨((bY_ t).1 h.2).1,fun a ha=>(hg a ha).2⟩⟩;have:=((a3_ t).1 h.1).1;show (t.kind=1∧l=[]∨t.kind=2∧l=[]∧_∨t.kind=3∨t.kind=4∧l.length=2∨t.kind=5∧l.length=1);rw[hl];have hn:t.args=[]→l=[]:=fun e=>List.eq_nil_of_length_eq_zero (by rw[hl,e];rfl)
 rcases this with h|h|h|h|h
 ·exact .inl ⟨h.1,hn h.2⟩
 ·exact .inr (.inl ⟨h.1,hn h.2.1,h.2.2⟩)
 ·exact .inr (.inr (.inl h))
 ·exact .inr (.inr (.inr (.inl h)))
 ·exact .inr (.inr (.inr (.inr h)))
theorem eJ_ {s:ByteArray}(h1:1≤s.size)(h2:s.size≤64){x:Ty}(hx:ba_ x):ba_ (b6_ s x) :=
 ⟨(a3_ _).2 ⟨.inr (.inr (.inr (.inr ⟨rfl,rfl⟩))),fun a ha=>by obtain rfl:=List.mem_singleton.1 ha;exact hx.1⟩,(bY_ _).2 ⟨⟨fun _=>h1,h2⟩,fun a ha=>by obtain rfl:=List.mem_singleton.1 ha;exact hx.2⟩⟩
theorem fr_:∀ (d:Nat) (free:List ByteArray) (t:Ty) (n:Nat),t.depth≤d→ba_ t→t.size≤4499999999224→n+t.size*(free.length+1)≤4611686018427387904 →
  n≤(ct_ d free n t).2∧(ct_ d free n t).2≤n+t.size*(free.length+1)∧(ct_ d free n t).1.depth=t.depth∧(ct_ d free n t).1.size=t.size∧ba_ (ct_ d free n t).1∧(ct_ d free n t).1.kind=t.kind:=by
 intro d free
 induction d with
 | zero=>intro t n h;rw[t.depth_eq] at h;omega
 | succ d ih =>
  intro t n h hg hs hb;have hL:=hO_ d free (free.length+1) ih;have hds:∀ a∈t.args,a.depth≤d∧a.size≤4499999999224:=fun a ha=>by
   have:=aI_ _ ha;have:=a7_ _ ha;rw[t.depth_eq] at h;rw[t.size_eq] at hs;omega
  rw[t.size_eq,Nat.add_mul,Nat.one_mul] at hb;rw[ct_]
  split
  ·next hk =>
   obtain⟨x,hx,hx0⟩:=i2_ hg.1 hk;have hx1:x∈t.args:=by rw[hx];simp
   have hnb:=ll_ free n;have hxs:=eA_ (ck_ free n) (by omega);rw[hx0];obtain⟨a1,a2,a3,a4⟩:=c8_ t.name (aR_ (ck_ free n)) x (a8_ hg x hx1) hxs.1 (hds x hx1).2;have hsz:ag_ t.args=x.size:=by rw[hx];simp[ag_]
   have hb2:ck_ free n+1+ag_ [cn_ t.name (aR_ (ck_ free n)) x]*(free.length+1)≤4611686018427387904:=by
    have hz:ag_ [cn_ t.name (aR_ (ck_ free n)) x]=ag_ t.args:=by rw[ag_,ag_,a2,hsz];rfl
    rw[hz];omega
   obtain⟨e1,e2,e3,e4,e5⟩:=hL [cn_ t.name (aR_ (ck_ free n)) x] (ck_ free n+1) (fun u hu=>by obtain rfl:=List.mem_singleton.1 hu;exact⟨by rw[a1];exact (hds x hx1).1,a3,by rw[a2];exact (hds x hx1).2⟩) hb2;have e2':(au_ (ct_ d free) (ck_ free n+1) [cn_ t.name (aR_ (ck_ free n)) x]).2≤ck_ free n+1+x.size*(free.length+1):=by
    have:ag_ [cn_ t.name (aR_ (ck_ free n)) x]=x.size:=by rw[ag_,ag_,a2];rfl
    rw[this] at e2;exact e2
   refine⟨by omega,?_,?_,?_,?_,hk.symm⟩
   ·rw[t.size_eq,hsz,Nat.add_mul,Nat.one_mul];omega
   ·rw[Ty.depth_eq,t.depth_eq,hx];show aD_ (au_ _ _ _).1+1=_;rw[e3,aD_,aD_,aD_,aD_,a1]
   ·rw[Ty.size_eq,t.size_eq,hx];show ag_ (au_ _ _ _).1+1=_;rw[e4,ag_,ag_,ag_,ag_,a2]
   ·exact fw_ (eJ_ hxs.2 hxs.1 a3) _ (by rw[eI_];rfl) e5
  ·obtain⟨e1,e2,e3,e4,e5⟩:=hL t.args n (fun u hu=>⟨(hds u hu).1,a8_ hg u hu,(hds u hu).2⟩) (by omega)
   refine⟨e1,?_,?_,?_,?_,rfl⟩
   ·rw[t.size_eq,Nat.add_mul,Nat.one_mul];omega
   ·rw[Ty.depth_eq,t.depth_eq];show aD_ (au_ _ _ _).1+1=_;rw[e3]
   ·rw[Ty.size_eq,t.size_eq];show ag_ (au_ _ _ _).1+1=_;rw[e4]
   ·exact fw_ hg _ (eI_ _ _ _) e5
def ef_ (nm:ByteArray)(t:Ty):Ty:=b6_ nm (cn_ t.name nm (cB_ t))
def ew_:Nat→ByteArray→Ty→Ty→Ty
 | 0,_,_,t=>t
 | d+1,nm,u,t =>
  if t.kind==5&&eqN t.name nm then t
  else if t.kind==1&&eqN t.name nm then u
  else if t.kind==5&&cR_ (af_ u) t.name then
   bA_ (ef_ (bi_ t.name (af_ u++af_ (cB_ t)++[t.name,nm])) t) ((ef_ (bi_ t.name (af_ u++af_ (cB_ t)++[t.name,nm])) t).args.map (ew_ d nm u))
  else bA_ t (t.args.map (ew_ d nm u))
def ej_:Nat→Ty→List ByteArray→(Ty→Bool)→Ty→Ty
 | 0,_,_,_,t=>t
 | d+1,u,free,is,t =>
  if is t then u
  else if t.kind==5&&cR_ free t.name then
   bA_ (ef_ (bi_ t.name (free++af_ (cB_ t)++[t.name])) t) ((ef_ (bi_ t.name (free++af_ (cB_ t)++[t.name])) t).args.map (ej_ d u free is))
  else bA_ t (t.args.map (ej_ d u free is))
def bE_ (n:Int)(x:Ty):Bool:=x.kind==2&&x.n==n
def gD_ (nm:ByteArray)(u t:Ty):Ty:=ew_ t.depth nm u t
def ce_ (n:Int)(u t:Ty):Ty:=ej_ t.depth u (af_ u) (bE_ n) t
theorem oS_ (d:Nat)(nm:ByteArray)(u t:Ty)(hk:t.kind=5)(hn:t.name=nm):ew_ (d+1) nm u t=t:=by
 rw[ew_,if_pos (by rw[hk,hn,(aN_ _ _).2 rfl];rfl)]
theorem qD_ (d:Nat)(nm:ByteArray)(u t:Ty)(hk:t.kind=1)(hn:t.name=nm):ew_ (d+1) nm u t=u:=by
 rw[ew_,if_neg (by rw[hk];simp),if_pos (by rw[hk,hn,(aN_ _ _).2 rfl];rfl)]
theorem jW_ (d:Nat)(nm:ByteArray)(u t:Ty)(h1:t.kind=1→t.name≠nm)(h5:t.kind=5→t.name≠nm∧cR_ (af_ u) t.name=false):ew_ (d+1) nm u t=bA_ t (t.args.map (ew_ d nm u)):=by
 rw[ew_,if_neg,if_neg,if_neg]
 ·intro h;simp only[Bool.and_eq_true,beq_iff_eq] at h;rw[(h5 h.1).2] at h;exact absurd h.2 (by simp)
 ·intro h;simp only[Bool.and_eq_true,beq_iff_eq] at h;exact h1 h.1 ((aN_ _ _).1 h.2)
 ·intro h;simp only[Bool.and_eq_true,beq_iff_eq] at h;exact (h5 h.1).1 ((aN_ _ _).1 h.2)
theorem qF_ (d:Nat)(nm:ByteArray)(u t x:Ty)(hk:t.kind=5)(hne:t.name≠nm)(hf:cR_ (af_ u) t.name=true)(hx:cB_ t=x) :
  ew_ (d+1) nm u t=bA_ (b6_ (bi_ t.name (af_ u++af_ x++[t.name,nm])) (cn_ t.name (bi_ t.name (af_ u++af_ x++[t.name,nm])) x)) [ew_ d nm u (cn_ t.name (bi_ t.name (af_ u++af_ x++[t.name,nm])) x)]:=by
 rw[ew_,if_neg,if_neg (by rw[hk];simp),if_pos (by rw[hk,hf];rfl)]
 ·unfold ef_;rw[hx];rfl
 ·intro h;simp only[Bool.and_eq_true] at h;exact hne ((aN_ _ _).1 h.2)
theorem rT_ (d:Nat)(u:Ty)(free:List ByteArray)(is:Ty→Bool)(t:Ty)(h:is t=true):ej_ (d+1) u free is t=u:=by rw[ej_,if_pos h]
theorem nF_ (d:Nat)(u:Ty)(free:List ByteArray)(is:Ty→Bool)(t:Ty)(h:is t=false)(h5:t.kind=5→cR_ free t.name=false):ej_ (d+1) u free is t=bA_ t (t.args.map (ej_ d u free is)):=by
 rw[ej_,if_neg (by rw[h];simp),if_neg];intro h;simp only[Bool.and_eq_true,beq_iff_eq] at h;rw[h5 h.1] at h;exact absurd h.2 (by simp)
theorem pJ_ (d:Nat)(u:Ty)(free:List ByteArray)(is:Ty→Bool)(t x:Ty)(h:is t=false)(hk:t.kind=5)(hf:cR_ free t.name=true)(hx:cB_ t=x) :
  ej_ (d+1) u free is t=bA_ (b6_ (bi_ t.name (free++af_ x++[t.name])) (cn_ t.name (bi_ t.name (free++af_ x++[t.name])) x)) [ej_ d u free is (cn_ t.name (bi_ t.name (free++af_ x++[t.name])) x)]:=by
 rw[ej_,if_neg (by rw[h];simp),if_pos (by rw[hk,hf];rfl)];unfold ef_;rw[hx];rfl
def emp:ByteArray:=⟨#[]⟩
def ixN:List ByteArray→ByteArray→Option Nat
 | [],_=>none
 | y :: ys,x=>if eqN y x then some 0 else (ixN ys x).map (· + 1)
theorem bx_ (ys:List ByteArray)(x:ByteArray):ixN (x :: ys) x=some 0:=by rw[ixN,if_pos ((aN_ _ _).2 rfl)]
theorem bK_ {y x:ByteArray}(ys:List ByteArray)(h:y≠x):ixN (y :: ys) x=(ixN ys x).map (· + 1):=by
 rw[ixN,if_neg (by rw[aN_];exact h)]
theorem cO_ (ys:List ByteArray)(x:ByteArray):ixN ys x=none↔x∉ys:=by
 induction ys with
 | nil=>simp[ixN]
 | cons y ys ih =>
  by_cases h:y=x
  ·subst h;rw[bx_];simp
  ·rw[bK_ ys h,Option.map_eq_none_iff,ih]
   simp only[List.mem_cons,not_or];exact⟨fun hh=>⟨fun e=>h e.symm,hh⟩,fun hh=>hh.2⟩
theorem gT_:∀ (ys:List ByteArray) (x:ByteArray) (i:Nat),ixN ys x=some i→ys[i]? = some x:=by
 intro ys
 induction ys with
 | nil=>intro x i h;simp[ixN] at h
 | cons y ys ih =>
  intro x i h
  by_cases e:y=x
  ·subst e;rw[bx_] at h;injection h with h;subst h;rfl
  ·rw[bK_ ys e] at h
   obtain⟨j,hj,rfl⟩:=Option.map_eq_some_iff.1 h;simpa using ih x j hj
theorem mA_:∀ (ys:List ByteArray) (x:ByteArray) (i:Nat),ys.Nodup→ys[i]? = some x→ixN ys x=some i:=by
 intro ys
 induction ys with
 | nil=>intro x i _ h;simp at h
 | cons y ys ih =>
  intro x i hn h;rw[List.nodup_cons] at hn;cases i with
  | zero=>simp at h;subst h;exact bx_ _ _
  | succ i =>
   simp at h;have hx:x∈ys:=List.mem_of_getElem? h;rw[bK_ ys (fun e=>hn.1 (by rw[e];exact hx)),ih x i hn.2 h];rfl
def c9_ (env:List ByteArray)(s:ByteArray)(n:Int):Ty:=match ixN env s with
 | some i=>.mk 6 emp i []
 | none=>.mk 1 s n []
mutual
def dbT:List ByteArray→Ty→Ty
 | env,.mk k s n args=>if k=1 then c9_ env s n else if k=5 then .mk 5 emp 0 (dbL (s :: env) args) else .mk k s n (dbL env args)
def dbL:List ByteArray→List Ty→List Ty
 | _,[]=>[]
 | env,t :: ts=>dbT env t :: dbL env ts
end
theorem kF_ (env:List ByteArray)(ts:List Ty):dbL env ts=ts.map (dbT env):=by
 induction ts with
 | nil=>simp[dbL]
 | cons t ts ih=>rw[dbL,ih];rfl
theorem ow_ (env:List ByteArray)(t:Ty):dbT env t=if t.kind=1 then c9_ env t.name t.n else if t.kind=5 then .mk 5 emp 0 (t.args.map (dbT (t.name :: env))) else .mk t.kind t.name t.n (t.args.map (dbT env)):=by
 cases t with
 | mk k s n args=>rw[dbT,kF_,kF_];rfl
theorem a0_ (env:List ByteArray)(t:Ty)(h:t.kind=1):dbT env t=c9_ env t.name t.n:=by rw[ow_,if_pos h]
theorem aP_ (env:List ByteArray)(t:Ty)(h:t.kind=5):dbT env t=.mk 5 emp 0 (t.args.map (dbT (t.name :: env))):=by rw[ow_,if_neg (by omega),if_pos h]
theorem az_ (env:List ByteArray)(t:Ty)(h1:t.kind≠1)(h5:t.kind≠5):dbT env t=.mk t.kind t.name t.n (t.args.map (dbT env)):=by rw[ow_,if_neg h1,if_neg h5]
mutual
def fvT (x:ByteArray):Ty→Prop
 | .mk k s _ args=>(k=1∧s=x)∨(fvL x args∧¬ (k=5∧s=x))
def fvL (x:ByteArray):List Ty→Prop
 | []=>False
 | t :: ts=>fvT x t∨fvL x ts
end
theorem sr_ (x:ByteArray)(ts:List Ty):fvL x ts↔∃ a∈ts,fvT x a:=by
 induction ts with
 | nil=>simp[fvL]
 | cons t ts ih=>rw[fvL,ih];simp
theorem aO_ (x:ByteArray)(t:Ty):fvT x t↔(t.kind=1∧t.name=x)∨((∃ a∈t.args,fvT x a)∧¬ (t.kind=5∧t.name=x)):=by
 cases t with
 | mk k s n args=>rw[fvT,sr_];rfl
theorem mem_walk (x:ByteArray):∀ (t:Ty) (out ns:List ByteArray),x∈bB_ ak_ t out ns↔x∈out∨(fvT x t∧x∉ns):=by
 intro t
 induction t using Ty.ind with
 | h t ih =>
  intro out ns;have hstep:x∈ak_ out t ns↔x∈out∨(t.kind=1∧t.name=x∧x∉ns):=by
   unfold ak_
   split
   ·next h =>
    simp only[Bool.and_eq_true,beq_iff_eq,Bool.not_eq_true',b8_] at h;rw[List.mem_append,List.mem_singleton]
    constructor
    ·rintro (h'|rfl)
     ·exact .inl h'
     ·exact .inr ⟨h.1.1,rfl,h.1.2⟩
    ·rintro (h'|⟨_,h',_⟩)
     ·exact .inl h'
     ·exact .inr h'.symm
   ·next h =>
    simp only[Bool.and_eq_true,beq_iff_eq,Bool.not_eq_true',b8_] at h
    constructor
    ·exact .inl
    ·rintro (h'|⟨h1,h2,h3⟩)
     ·exact h'
     ·subst h2
      exact Classical.byContradiction fun hx=>h ⟨⟨h1,h3⟩,hx⟩
  have hl:∀ (l:List Ty) (out ns:List ByteArray),(∀ a∈l,∀ (out ns:List ByteArray),x∈bB_ ak_ a out ns↔x∈out∨(fvT x a∧x∉ns))→(x∈a1_ ak_ l out ns↔x∈out∨((∃ a∈l,fvT x a)∧x∉ns)):=by
   intro l
   induction l with
   | nil=>intro out ns _;simp[a1_]
   | cons a l ihl =>
    intro out ns h;rw[a1_,ihl _ _ fun b hb=>h b (by simp[hb]),h a (by simp)]
    constructor
    ·rintro ((h|h)|⟨⟨b,hb,hf⟩,h⟩)
     ·exact .inl h
     ·exact .inr ⟨⟨a,by simp,h.1⟩,h.2⟩
     ·exact .inr ⟨⟨b,by simp[hb],hf⟩,h⟩
    ·rintro (h|⟨⟨b,hb,hf⟩,hxn⟩)
     ·exact .inl (.inl h)
     ·rcases List.mem_cons.1 hb with rfl|hb
      ·exact .inl (.inr ⟨hf,hxn⟩)
      ·exact .inr ⟨⟨b,hb,hf⟩,hxn⟩
  rw[bF_,hl _ _ _ ih,hstep,aO_]
  by_cases h5:t.kind=5
  ·rw[if_pos h5]
   simp only[List.mem_cons,not_or]
   constructor
   ·rintro ((h|h)|⟨h,h',h''⟩)
    ·exact .inl h
    ·omega
    ·exact .inr ⟨.inr ⟨h,fun e=>h' e.2.symm⟩,h''⟩
   ·rintro (h|⟨h|⟨h,h'⟩,h''⟩)
    ·exact .inl (.inl h)
    ·omega
    ·exact .inr ⟨h,fun e=>h' ⟨h5,e.symm⟩,h''⟩
  ·rw[if_neg h5]
   constructor
   ·rintro ((h|⟨h,h',h''⟩)|⟨h,h'⟩)
    ·exact .inl h
    ·exact .inr ⟨.inl ⟨h,h'⟩,h''⟩
    ·exact .inr ⟨.inr ⟨h,fun e=>h5 e.1⟩,h'⟩
   ·rintro (h|⟨⟨h,h'⟩|⟨h,_⟩,h''⟩)
    ·exact .inl (.inl h)
    ·exact .inl (.inr ⟨h,h',h''⟩)
    ·exact .inr ⟨h,h''⟩
theorem be_ (x:ByteArray)(t:Ty):x∈af_ t↔fvT x t:=by
 unfold af_;rw[mem_walk];simp
def StdK (t:Ty):Prop:=(t.kind=1∧t.n=0∧t.args=[])∨(t.kind=2∧t.name=emp∧t.args=[]∧0≤t.n∧t.n<1000000000000000000)∨(t.kind=3∧t.n=0)∨(t.kind=4∧t.name=emp∧t.n=0∧t.args.length=2)∨(t.kind=5∧t.n=0∧t.args.length=1)
mutual
def Std:Ty→Prop
 | .mk k s n args=>StdK (.mk k s n args)∧ui_ args
def ui_:List Ty→Prop
 | []=>True
 | t :: ts=>Std t∧ui_ ts
end
theorem qA_ (ts:List Ty):ui_ ts↔∀ t∈ts,Std t:=by
 induction ts with
 | nil=>simp[ui_]
 | cons t ts ih=>rw[ui_,ih];simp
theorem bb_ (t:Ty):Std t↔StdK t∧∀ a∈t.args,Std a:=by
 cases t with
 | mk k s n args=>rw[Std,qA_];rfl
theorem Std.k1 {t:Ty}(h:Std t)(hk:t.kind=1):t.n=0∧t.args=[]:=by
 rcases ((bb_ t).1 h).1 with h|h|h|h|h<;>first|omega|exact h.2
theorem Std.k2 {t:Ty}(h:Std t)(hk:t.kind=2):t.name=emp∧t.args=[]∧0≤t.n∧t.n<1000000000000000000:=by
 rcases ((bb_ t).1 h).1 with h|h|h|h|h<;>first|omega|exact h.2
theorem Std.k4 {t:Ty}(h:Std t)(hk:t.kind=4):t.name=emp∧t.n=0∧t.args.length=2:=by
 rcases ((bb_ t).1 h).1 with h|h|h|h|h<;>first|omega|exact h.2
theorem Std.k5 {t:Ty}(h:Std t)(hk:t.kind=5):t.n=0∧t.args.length=1:=by
 rcases ((bb_ t).1 h).1 with h|h|h|h|h<;>first|omega|exact h.2
theorem Std.args {t:Ty}(h:Std t):∀ a∈t.args,Std a:=((bb_ t).1 h).2
theorem Std.all {t:Ty}(h:Std t)(hk:t.kind=5):∃ b,t=b6_ t.name b∧t.args=[b]∧Std b:=by
 obtain⟨hn,hl⟩:=h.k5 hk;have ha:=h.args
 match he:t.args,hl with
 | [b],_ =>
  refine⟨b,?_,rfl,ha b (by rw[he];simp)⟩;cases t with
  | mk k s n args=>simp only[Ty.kind,Ty.n,Ty.args,Ty.name] at *;subst hk hn he;rfl
theorem Std.kind {t:Ty}(h:Std t):1≤t.kind∧t.kind≤5:=by
 rcases ((bb_ t).1 h).1 with h|h|h|h|h<;>omega
theorem ov_:∀ (t:Ty) (env env':List ByteArray),(∀ x,fvT x t→∀ n,c9_ env' x n=c9_ env x n)→dbT env' t=dbT env t:=by
 intro t
 induction t using Ty.ind with
 | h t ih =>
  intro env env' h
  by_cases h1:t.kind=1
  ·rw[a0_ _ _ h1,a0_ _ _ h1]
   exact h _ ((aO_ _ _).2 (.inl ⟨h1,rfl⟩)) _
  ·by_cases h5:t.kind=5
   ·rw[aP_ _ _ h5,aP_ _ _ h5]
    congr 1;refine List.map_congr_left fun a ha=>ih a ha _ _ fun x hx n=>?_
    by_cases e:t.name=x
    ·subst e;unfold c9_;rw[bx_,bx_]
    ·have:=h x ((aO_ _ _).2 (.inr ⟨⟨a,ha,hx⟩,fun hh=>e hh.2⟩)) n
     unfold c9_ at this ⊢;rw[bK_ _ e,bK_ _ e];cases h3:ixN env' x<;>cases h4:ixN env x<;>rw[h3,h4] at this<;>simp_all
   ·rw[az_ _ _ h1 h5,az_ _ _ h1 h5]
    congr 1;exact List.map_congr_left fun a ha=>ih a ha _ _ fun x hx n=>h x ((aO_ _ _).2 (.inr ⟨⟨a,ha,hx⟩,fun hh=>h5 hh.1⟩)) n
theorem jw_ {y x:ByteArray}{env env':List ByteArray}{n:Int}{y' x':ByteArray}(h:y≠x)(h':y'≠x')(e:c9_ env' x' n=c9_ env x n):c9_ (y' :: env') x' n=c9_ (y :: env) x n:=by
 unfold c9_ at e ⊢;rw[bK_ _ h,bK_ _ h'];cases h3:ixN env' x'<;>cases h4:ixN env x<;>rw[h3,h4] at e<;>simp_all
theorem bz_ (y:ByteArray)(env:List ByteArray)(n:Int):c9_ (y :: env) y n=.mk 6 emp 0 []:=by
 unfold c9_;rw[bx_];rfl
theorem gu_ {y x y' x':ByteArray}{env env':List ByteArray}{n:Int}(h:y≠x)(h':y'≠x')(e:c9_ env' x' n=c9_ env x n):c9_ (y' :: env') x' n=c9_ (y :: env) x n:=jw_ h h' e
theorem jl_:∀ (d:Nat) (x:ByteArray) (t:Ty),cc_ d x x t=t:=by
 intro d x
 induction d with
 | zero=>intro t;rfl
 | succ d ih =>
  intro t;cases t with
  | mk k s n args =>
   rw[cc_]
   split
   ·next h =>
    simp only[Bool.and_eq_true] at h;have:=(aN_ _ _).1 h.2;simp only[Ty.name] at this;subst this;rfl
   ·split
    ·rfl
    ·show Ty.mk k s n (args.map (cc_ d x x))=_
     congr 1
     conv=>rhs;rw[← List.map_id args]
     exact List.map_congr_left fun a _=>ih a
theorem dK_ {t:Ty}(h:Std t)(hk:t.kind=5):∃ x,t.args=[x]∧cB_ t=x:=by
 have:=(h.k5 hk).2
 match hl:t.args,this with
 | [x],_=>exact⟨x,rfl,by unfold cB_;rw[hl]⟩
theorem eB_ {t:Ty}(h:Std t)(l:List Ty)(hl:l.length=t.args.length)(hg:∀ a∈l,Std a):Std (i1_ t l):=by
 refine (bb_ _).2 ⟨?_,hg⟩;have hn:t.args=[]→l=[]:=fun e=>List.eq_nil_of_length_eq_zero (by rw[hl,e];rfl);show (t.kind=1∧t.n=0∧l=[])∨(t.kind=2∧t.name=emp∧l=[]∧0≤t.n∧t.n<1000000000000000000)∨(t.kind=3∧t.n=0)∨(t.kind=4∧t.name=emp∧t.n=0∧l.length=2)∨(t.kind=5∧t.n=0∧l.length=1);rw[hl]
 rcases ((bb_ t).1 h).1 with h|h|h|h|h
 ·exact .inl ⟨h.1,h.2.1,hn h.2.2⟩
 ·exact .inr (.inl ⟨h.1,h.2.1,hn h.2.2.1,h.2.2.2⟩)
 ·exact .inr (.inr (.inl h))
 ·exact .inr (.inr (.inr (.inl h)))
 ·exact .inr (.inr (.inr (.inr h)))
theorem h9_ (s:ByteArray){b:Ty}(h:Std b):Std (b6_ s b):=(bb_ _).2 ⟨.inr (.inr (.inr (.inr ⟨rfl,rfl,rfl⟩))),fun a ha=>by obtain rfl:=List.mem_singleton.1 ha;exact h⟩
theorem el_ (s:ByteArray):Std (.mk 1 s 0 []):=(bb_ _).2 ⟨.inl ⟨rfl,rfl,rfl⟩,fun a ha=>by cases ha⟩
theorem dZ_:∀ (d:Nat) (fr to:ByteArray) (t:Ty),t.depth≤d→Std t→(cc_ d fr to t).depth=t.depth∧Std (cc_ d fr to t)∧(cc_ d fr to t).kind=t.kind:=by
 intro d
 induction d with
 | zero=>intro fr to t h;rw[t.depth_eq] at h;omega
 | succ d ih =>
  intro fr to t h hw;have hd:∀ a∈t.args,a.depth≤d:=fun a ha=>by have:=aI_ _ ha;rw[t.depth_eq] at h;omega
  have hwa:=hw.args;rw[cc_]
  split
  ·next hc =>
   simp only[Bool.and_eq_true,beq_iff_eq,aN_] at hc;obtain⟨h1,h2⟩:=hw.k1 hc.1;rw[hc.1,h1,h2];refine⟨?_,el_ _,rfl⟩;rw[Ty.depth_eq,Ty.depth_eq,h2];rfl
  ·split
   ·exact⟨rfl,hw,rfl⟩
   ·split
    ·next h1 h2 hc =>
     simp only[Bool.and_eq_true,beq_iff_eq] at hc;obtain⟨b,hb,hb0⟩:=dK_ hw hc.1;rw[hb0];have hbm:b∈t.args:=by rw[hb];simp
     generalize bi_ to (af_ b++[fr,to])=n;have h1:=ih to n b (hd b hbm) (hwa b hbm);have h2:=ih fr to (cc_ d to n b) (by rw[h1.1];exact hd b hbm) h1.2.1;refine⟨?_,h9_ _ h2.2.1,hc.1.symm⟩;rw[Ty.depth_eq,t.depth_eq,hb];show aD_ [_]+1=_;rw[aD_,aD_,aD_,aD_,h2.1,h1.1]
    ·refine⟨?_,eB_ hw _ (by simp) fun a ha=>?_,rfl⟩
     ·rw[Ty.depth_eq,t.depth_eq]
      show aD_ (t.args.map _)+1=_;rw[hX_ _ _ fun a ha=>(ih fr to a (hd a ha) (hwa a ha)).1]
     ·obtain⟨b,hb,rfl⟩:=List.mem_map.1 ha
      exact (ih fr to b (hd b hb) (hwa b hb)).2.1
theorem q3_:∀ (d:Nat) (fr to:ByteArray) (t:Ty),t.depth≤d→Std t→∀ x,fvT x (cc_ d fr to t)→(x=to∧fvT fr t)∨(fvT x t∧x≠fr):=by
 intro d
 induction d with
 | zero=>intro fr to t h;rw[t.depth_eq] at h;omega
 | succ d ih =>
  intro fr to t h hw x;have hd:∀ a∈t.args,a.depth≤d:=fun a ha=>by have:=aI_ _ ha;rw[t.depth_eq] at h;omega
  have hwa:=hw.args;rw[cc_]
  split
  ·next hc =>
   simp only[Bool.and_eq_true,beq_iff_eq,aN_] at hc;have ha:t.args=[]:=(hw.k1 hc.1).2;rw[aO_];rintro (h|⟨⟨a,h,_⟩,_⟩)
   ·exact .inl ⟨(show to=x from h.2).symm,(aO_ _ _).2 (.inl hc)⟩
   ·have h':a∈t.args:=h
    rw[ha] at h';cases h'
  ·split
   ·next h1 hc =>
    simp only[Bool.and_eq_true,beq_iff_eq,aN_] at hc;intro hx;refine .inr ⟨hx,fun e=>?_⟩;subst e
    rcases (aO_ _ _).1 hx with h|h
    ·omega
    ·exact h.2 hc
   ·split
    ·next h1 h2 hc =>
     simp only[Bool.and_eq_true,beq_iff_eq,aN_] at hc h1 h2;obtain⟨b,hb,hb0⟩:=dK_ hw hc.1;rw[hb0];have hbm:b∈t.args:=by rw[hb];simp
     have hnf:=eK_ to (af_ b++[fr,to]);generalize bi_ to (af_ b++[fr,to])=n at *;simp only[List.mem_append,List.mem_cons,List.not_mem_nil,or_false,not_or,be_] at hnf;have hne:fr≠to:=fun e=>h2 ⟨hc.1,by rw[hc.2,e]⟩;intro hx;have hx':fvT x (cc_ d fr to (cc_ d to n b))∧x≠n:=by
      rcases (aO_ _ _).1 hx with h|⟨⟨a,ha,h⟩,h'⟩
      ·exact absurd h.1 (by simp[b6_,Ty.kind])
      ·simp only[b6_,Ty.args,List.mem_singleton] at ha
       subst ha;exact⟨h,fun e=>h' ⟨rfl,e.symm⟩⟩
     have key:∀ z,fvT z b→z≠to→fvT z t:=fun z hz hzt=>(aO_ _ _).2 (.inr ⟨⟨b,hbm,hz⟩,fun e=>hzt (e.2.symm.trans hc.2)⟩);have hdep:(cc_ d to n b).depth≤d∧Std (cc_ d to n b):=by
      have:=dZ_ d to n b (hd b hbm) (hwa b hbm);exact⟨by rw[this.1];exact hd b hbm,this.2.1⟩
     rcases ih fr to _ hdep.1 hdep.2 x hx'.1 with ⟨e1,hf⟩|⟨hf,hxf⟩
     ·rcases ih to n b (hd b hbm) (hwa b hbm) fr hf with ⟨e2,_⟩|⟨hf',_⟩
      ·exact absurd e2.symm hnf.2.1
      ·exact .inl ⟨e1,key fr hf' hne⟩
     ·rcases ih to n b (hd b hbm) (hwa b hbm) x hf with ⟨e2,_⟩|⟨hf',hxt⟩
      ·exact absurd e2 hx'.2
      ·exact .inr ⟨key x hf' hxt,hxf⟩
    ·next h1 h2 h3 =>
     simp only[Bool.and_eq_true,beq_iff_eq,aN_] at h1 h2 h3;intro hx
     rcases (aO_ _ _).1 hx with h|⟨⟨a,ha,h⟩,h'⟩
     ·refine .inr ⟨(aO_ _ _).2 (.inl h),fun e=>h1 ⟨h.1,h.2.trans e⟩⟩
     ·simp only[i1_,Ty.args,List.mem_map] at ha
      obtain⟨a,ha,rfl⟩:=ha
      rcases ih fr to a (hd a ha) (hwa a ha) x h with ⟨e1,hf⟩|⟨hf,hxf⟩
      ·exact .inl ⟨e1,(aO_ _ _).2 (.inr ⟨⟨a,ha,hf⟩,h2⟩)⟩
      ·exact .inr ⟨(aO_ _ _).2 (.inr ⟨⟨a,ha,hf⟩,h'⟩),hxf⟩
theorem t2_:∀ (d:Nat) (fr to:ByteArray) (t:Ty) (env env':List ByteArray),t.depth≤d→Std t→¬ fvT to t→(∀ x,fvT x t→∀ n,c9_ env' (if x=fr then to else x) n=c9_ env x n)→dbT env' (cc_ d fr to t)=dbT env t:=by
 intro d
 induction d with
 | zero=>intro fr to t env env' h;rw[t.depth_eq] at h;omega
 | succ d ih =>
  intro fr to t env env' h hw hto hl;have hd:∀ a∈t.args,a.depth≤d:=fun a ha=>by have:=aI_ _ ha;rw[t.depth_eq] at h;omega
  have hwa:=hw.args;rw[cc_]
  split
  ·next hc =>
   simp only[Bool.and_eq_true,beq_iff_eq,aN_] at hc;rw[a0_ _ _ hc.1,a0_ _ _ (show (Ty.mk t.kind to t.n t.args).kind=1 from hc.1)];have:=hl t.name ((aO_ _ _).2 (.inl ⟨hc.1,rfl⟩)) t.n;rw[if_pos hc.2] at this;exact this
  ·split
   ·next h1 hc =>
    simp only[Bool.and_eq_true,beq_iff_eq,aN_] at hc;refine ov_ t env env' fun x hx n=>?_;have:=hl x hx n;rw[if_neg] at this
    ·exact this
    ·intro e;subst e
     rcases (aO_ _ _).1 hx with h|h
     ·omega
     ·exact h.2 hc
   ·split
    ·next h1 h2 hc =>
     simp only[Bool.and_eq_true,beq_iff_eq,aN_] at hc h1 h2;obtain⟨b,hb,hb0⟩:=dK_ hw hc.1;rw[hb0];have hbm:b∈t.args:=by rw[hb];simp
     have hnf:=eK_ to (af_ b++[fr,to]);generalize bi_ to (af_ b++[fr,to])=n at *;simp only[List.mem_append,List.mem_cons,List.not_mem_nil,or_false,not_or,be_] at hnf;have hne:fr≠to:=fun e=>h2 ⟨hc.1,by rw[hc.2,e]⟩;have key:∀ z,fvT z b→z≠to→fvT z t:=fun z hz hzt=>(aO_ _ _).2 (.inr ⟨⟨b,hbm,hz⟩,fun e=>hzt (e.2.symm.trans hc.2)⟩);have hs:=dZ_ d to n b (hd b hbm) (hwa b hbm);have hfv:=q3_ d to n b (hd b hbm) (hwa b hbm);rw[aP_ _ _ (show (b6_ n _).kind=5 from rfl),aP_ _ _ hc.1,hb];show Ty.mk 5 emp 0 [dbT (n :: env') _]=Ty.mk 5 emp 0 [dbT (t.name :: env) b];rw[hc.2,ih fr to (cc_ d to n b) (n :: env) (n :: env') (by rw[hs.1];exact hd b hbm) hs.2.1 ?_ ?_,ih to n b (to :: env) (n :: env) (hd b hbm) (hwa b hbm) hnf.1 ?_]
     ·intro x hx m
      by_cases e:x=to
      ·rw[if_pos e,e,bz_,bz_]
      ·rw[if_neg e]
       exact gu_ (fun e'=>e e'.symm) (fun e'=>hnf.1 (e' ▸ hx)) rfl
     ·intro hx
      rcases hfv to hx with ⟨e,_⟩|⟨_,e⟩
      ·exact hnf.2.2 e.symm
      ·exact e rfl
     ·intro x hx m
      rcases hfv x hx with ⟨e1,_⟩|⟨hx',e⟩
      ·rw[if_neg (fun e=>hnf.2.1 (e1.symm.trans e)),e1,bz_,bz_]
      ·have hxn:n≠x:=fun e'=>hnf.1 (e' ▸ hx')
       refine gu_ hxn ?_ (hl x (key x hx' e) m)
       split
       ·exact hnf.2.2
       ·exact hxn
    ·next h1 h2 h3 =>
     simp only[Bool.and_eq_true,beq_iff_eq,aN_] at h1 h2 h3
     by_cases hk1:t.kind=1
     ·rw[a0_ _ _ hk1,a0_ _ _ (show (i1_ t _).kind=1 from hk1)]
      have:=hl t.name ((aO_ _ _).2 (.inl ⟨hk1,rfl⟩)) t.n;rw[if_neg (fun e=>h1 ⟨hk1,e⟩)] at this;exact this
     ·by_cases hk5:t.kind=5
      ·rw[aP_ _ _ hk5,aP_ _ _ (show (i1_ t _).kind=5 from hk5)]
       congr 1;show (t.args.map _).map _=_;rw[List.map_map];refine List.map_congr_left fun a ha=>ih fr to a _ _ (hd a ha) (hwa a ha) ?_ ?_
       ·intro hx
        exact hto ((aO_ _ _).2 (.inr ⟨⟨a,ha,hx⟩,h3⟩))
       ·intro x hx m
        show c9_ (t.name :: env') _ m=_
        by_cases e:x=t.name
        ·subst e
         rw[if_neg (fun e=>h2 ⟨hk5,e⟩),bz_,bz_]
        ·refine gu_ (fun e'=>e e'.symm) ?_ (hl x ((aO_ _ _).2 (.inr ⟨⟨a,ha,hx⟩,fun e'=>e e'.2.symm⟩)) m)
         split
         ·exact fun e'=>h3 ⟨hk5,e'⟩
         ·exact fun e'=>e e'.symm
      ·rw[az_ _ _ hk1 hk5,az_ _ _ (show (i1_ t _).kind≠1 from hk1) (show (i1_ t _).kind≠5 from hk5)]
       show Ty.mk t.kind t.name t.n ((t.args.map _).map _)=_;congr 1;rw[List.map_map];refine List.map_congr_left fun a ha=>ih fr to a _ _ (hd a ha) (hwa a ha) ?_ ?_
       ·intro hx
        exact hto ((aO_ _ _).2 (.inr ⟨⟨a,ha,hx⟩,h3⟩))
       ·intro x hx m
        exact hl x ((aO_ _ _).2 (.inr ⟨⟨a,ha,hx⟩,fun e'=>hk5 e'.1⟩)) m
theorem f4_ (y n:ByteArray)(b:Ty)(env:List ByteArray)(hb:Std b)(hn:¬ fvT n b):dbT (n :: env) (cn_ y n b)=dbT (y :: env) b:=by
 refine t2_ b.depth y n b (y :: env) (n :: env) (aA_ _) hb hn fun x hx m=>?_
 by_cases e:x=y
 ·rw[if_pos e,e,bz_,bz_]
 ·rw[if_neg e]
  exact gu_ (fun e'=>e e'.symm) (fun e'=>hn (e' ▸ hx)) rfl
def nx (f:Nat→ByteArray)(free:List ByteArray)(k:Nat):Nat:=dw_ f free (free.length+1) k
section
variable (f : Nat → ByteArray) (free : List ByteArray)
mutual
def cnT:List ByteArray→Nat→Ty→Ty × Nat
 | env,k,.mk kd s n args =>
  if kd=6 then (.mk 1 (env.getD n.toNat emp) 0 [],k)
  else if kd=5 then (.mk 5 (f (nx f free k)) 0 (cnL (f (nx f free k) :: env) (nx f free k+1) args).1,(cnL (f (nx f free k) :: env) (nx f free k+1) args).2)
  else (.mk kd s n (cnL env k args).1,(cnL env k args).2)
def cnL:List ByteArray→Nat→List Ty→List Ty × Nat
 | _,k,[]=>([],k)
 | env,k,t :: ts=>((cnT env k t).1 :: (cnL env (cnT env k t).2 ts).1,(cnL env (cnT env k t).2 ts).2)
end
theorem lC_ (env:List ByteArray)(k:Nat)(t:Ty):cnT f free env k t=if t.kind=6 then (.mk 1 (env.getD t.n.toNat emp) 0 [],k)
  else if t.kind=5 then (.mk 5 (f (nx f free k)) 0 (cnL f free (f (nx f free k) :: env) (nx f free k+1) t.args).1,(cnL f free (f (nx f free k) :: env) (nx f free k+1) t.args).2)
  else (.mk t.kind t.name t.n (cnL f free env k t.args).1,(cnL f free env k t.args).2):=by
 cases t with
 | mk k s n args=>rw[cnT];rfl
theorem oz_ (env:List ByteArray)(k:Nat)(args:List Ty):cnT f free env k (.mk 5 emp 0 args)=(.mk 5 (f (nx f free k)) 0 (cnL f free (f (nx f free k) :: env) (nx f free k+1) args).1,(cnL f free (f (nx f free k) :: env) (nx f free k+1) args).2):=by
 rw[cnT,if_neg (by decide),if_pos rfl]
theorem di_ (env:List ByteArray)(k:Nat)(kd:Int)(s:ByteArray)(n:Int)(args:List Ty)(h6:kd≠6)(h5:kd≠5):cnT f free env k (.mk kd s n args)=(.mk kd s n (cnL f free env k args).1,(cnL f free env k args).2):=by
 rw[cnT,if_neg h6,if_neg h5]
theorem gz_ (env env':List ByteArray)(k:Nat)(s:ByteArray):cnT f free env' k (c9_ env s 0)=(match ixN env s with|some i=>.mk 1 (env'.getD i emp) 0 []|none=>.mk 1 s 0 [],k):=by
 unfold c9_;cases ixN env s with
 | some i=>simp only;rw[cnT,if_pos rfl];rfl
 | none=>simp only;rw[di_ _ _ _ _ _ _ _ _ (by omega) (by omega),cnL]
theorem nx_le (k:Nat):k≤nx f free k:=by
 have:∀ (n i:Nat),i≤dw_ f free n i:=by
  intro n
  induction n with
  | zero=>intro i;exact aA_ _
  | succ n ih =>
   intro i;rw[dw_];split
   ·have:=ih (i+1);omega
   ·exact aA_ _
 exact this _ _
theorem kG_:∀ (t:Ty) (env:List ByteArray) (k:Nat),k≤(cnT f free env k t).2:=by
 intro t
 induction t using Ty.ind with
 | h t ih =>
  have hl:∀ (l:List Ty) (env:List ByteArray) (k:Nat),(∀ a∈l,∀ (env:List ByteArray) (k:Nat),k≤(cnT f free env k a).2)→k≤(cnL f free env k l).2:=by
   intro l
   induction l with
   | nil=>intro env k _;simp[cnL]
   | cons a l ihl =>
    intro env k h;rw[cnL];have:=h a (by simp) env k;have:=ihl env (cnT f free env k a).2 fun b hb=>h b (by simp[hb]);simp only;omega
  intro env k;rw[lC_]
  split
  ·exact aA_ _
  ·split
   ·have:=hl t.args (f (nx f free k) :: env) (nx f free k+1) ih
    have:=nx_le f free k;simp only;omega
   ·exact hl t.args env k ih
end
theorem tF_ (d:Nat)(free:List ByteArray)(n:Nat)(t b:Ty)(hk:t.kind=5)(hb:cB_ t=b):ct_ (d+1) free n t =
  (b6_ (aR_ (ck_ free n)) (ct_ d free (ck_ free n+1) (cn_ t.name (aR_ (ck_ free n)) b)).1,(ct_ d free (ck_ free n+1) (cn_ t.name (aR_ (ck_ free n)) b)).2):=by
 rw[ct_,if_pos hk,hb];rfl
theorem tE_ (free:List ByteArray):∀ (d:Nat) (t:Ty) (env:List ByteArray) (n:Nat),t.depth≤d→Std t→(∀ x,fvT x t→x∈free∨x∈env)→(∀ x∈env,∃ j,j<n∧x=aR_ j) →
  ct_ d free n t=cnT aR_ free env n (dbT env t):=by
 intro d
 induction d with
 | zero=>intro t env n h;rw[t.depth_eq] at h;omega
 | succ d ih =>
  have hl:∀ (l:List Ty) (env:List ByteArray) (n:Nat),(∀ a∈l,a.depth≤d∧Std a∧∀ x,fvT x a→x∈free∨x∈env)→(∀ x∈env,∃ j,j<n∧x=aR_ j)→au_ (ct_ d free) n l=cnL aR_ free env n (l.map (dbT env)):=by
   intro l
   induction l with
   | nil=>intro env n _ _;simp[au_,cnL]
   | cons a l ihl =>
    intro env n h he;obtain⟨h1,h2,h3⟩:=h a (by simp);have e1:=ih a env n h1 h2 h3 he;rw[au_,List.map_cons,cnL,e1];have hm:=kG_ aR_ free (dbT env a) env n;have e2:=ihl env (cnT aR_ free env n (dbT env a)).2 (fun b hb=>h b (by simp[hb])) fun x hx=>by
     obtain⟨j,hj,e⟩:=he x hx;exact⟨j,by omega,e⟩
    rw[e2]
  intro t env n h hs hf he;have hd:∀ a∈t.args,a.depth≤d:=fun a ha=>by have:=aI_ _ ha;rw[t.depth_eq] at h;omega
  by_cases h5:t.kind=5
  ·obtain⟨b,hb,hb0⟩:=dK_ hs h5
   have hbm:b∈t.args:=by rw[hb];simp
   have hbs:=hs.args b hbm;rw[tF_ d free n t b h5 hb0,aP_ _ _ h5,oz_,hb];have hn:=ll_ free n;have hnf:=n7_ free n;have hfb:∀ x,fvT x b→x∈free∨x∈env∨x=t.name:=fun x hx=>by
    by_cases e:x=t.name
    ·exact .inr (.inr e)
    ·rcases hf x ((aO_ _ _).2 (.inr ⟨⟨b,hbm,hx⟩,fun e'=>e e'.2.symm⟩)) with h|h
     ·exact .inl h
     ·exact .inr (.inl h)
   show _=(Ty.mk 5 (aR_ (ck_ free n)) 0 (cnL aR_ free (aR_ (ck_ free n) :: env) (ck_ free n+1) _).1,(cnL aR_ free (aR_ (ck_ free n) :: env) (ck_ free n+1) _).2);generalize ck_ free n=n' at *;have hr:=dZ_ b.depth t.name (aR_ n') b (aA_ _) hbs;have hdb:dbT (aR_ n' :: env) (cn_ t.name (aR_ n') b)=dbT (t.name :: env) b:=by
    by_cases e:t.name=aR_ n'
    ·rw[← e];unfold cn_;rw[jl_]
    ·refine f4_ _ _ _ _ hbs fun hx=>?_
     rcases hfb _ hx with h|h|h
     ·exact hnf h
     ·obtain⟨j,hj,e'⟩:=he _ h
      have:=dH_ e';omega
     ·exact e h.symm
   have e1:=ih (cn_ t.name (aR_ n') b) (aR_ n' :: env) (n'+1) (by show (cc_ _ _ _ _).depth≤d;rw[hr.1];exact hd b hbm) hr.2.1 (fun x hx=>by
    rcases q3_ b.depth t.name (aR_ n') b (aA_ _) hbs x hx with ⟨rfl,_⟩|⟨hx',e⟩
    ·exact .inr (by simp)
    ·rcases hfb x hx' with h|h|h
     ·exact .inl h
     ·exact .inr (by simp[h])
     ·exact absurd h e) (fun x hx=>by
    rcases List.mem_cons.1 hx with rfl|hx
    ·exact⟨n',by omega,rfl⟩
    ·obtain⟨j,hj,e⟩:=he x hx
     exact⟨j,by omega,e⟩)
   rw[hdb] at e1;rw[List.map_cons,List.map_nil,cnL,cnL,e1];rfl
  ·by_cases h1:t.kind=1
   ·obtain⟨hn0,ha⟩:=hs.k1 h1
    rw[ct_,if_neg h5,a0_ _ _ h1,hn0,gz_,ha];cases t with
    | mk k s m args =>
     simp only[Ty.kind,Ty.n,Ty.args,Ty.name] at *;subst h1 hn0 ha;cases hi:ixN env s with
     | none=>rfl
     | some i =>
      have:=gT_ env s i hi;simp only[au_];rw[List.getD_eq_getElem?_getD,this];rfl
   ·have hk:=hs.kind
    rw[ct_,if_neg h5,az_ _ _ h1 h5,di_ _ _ _ _ _ _ _ _ (by omega) h5];rw[hl t.args env n (fun a ha=>⟨hd a ha,hs.args a ha,fun x hx=>hf x ((aO_ _ _).2 (.inr ⟨⟨a,ha,hx⟩,fun e=>h5 e.1⟩))⟩) he];rfl
theorem dQ_ (t:Ty)(hs:Std t):cs_ t=(cnT aR_ (af_ t) [] 0 (dbT [] t)).1:=by
 unfold cs_;rw[tE_ (af_ t) t.depth t [] 0 (aA_ _) hs (fun x hx=>.inl ((be_ x t).2 hx)) (fun x hx=>by cases hx)]
theorem t7_ (env:List ByteArray)(k:Int)(s:ByteArray)(n:Int)(args:List Ty)(h1:k≠1)(h5:k≠5):dbT env (.mk k s n args)=.mk k s n (args.map (dbT env)):=by
 rw[dbT,if_neg h1,if_neg h5,kF_]
theorem t5_ (f:Nat→ByteArray)(hf:∀ a b,f a=f b→a=b)(free:List ByteArray):∀ (t:Ty) (env env':List ByteArray) (k:Nat),env'.length=env.length→Std t→(∀ x,fvT x t→x∉env→x∈free)→(∀ x∈env',x∉free∧∃ j,j<k∧x=f j)→env'.Nodup →
  dbT env' (cnT f free env' k (dbT env t)).1=dbT env t:=by
 intro t
 induction t using Ty.ind with
 | h t ih =>
  have hl:∀ (l:List Ty) (env env':List ByteArray) (k:Nat),(∀ a∈l,∀ (env env':List ByteArray) (k:Nat),env'.length=env.length→Std a→(∀ x,fvT x a→x∉env→x∈free)→(∀ x∈env',x∉free∧∃ j,j<k∧x=f j)→env'.Nodup→dbT env' (cnT f free env' k (dbT env a)).1=dbT env a) →
    env'.length=env.length→(∀ a∈l,Std a∧∀ x,fvT x a→x∉env→x∈free)→(∀ x∈env',x∉free∧∃ j,j<k∧x=f j)→env'.Nodup→(cnL f free env' k (l.map (dbT env))).1.map (dbT env')=l.map (dbT env):=by
   intro l
   induction l with
   | nil=>intro env env' k _ _ _ _ _;simp[cnL]
   | cons a l ihl =>
    intro env env' k hi h1 h2 h3 h4;rw[List.map_cons,cnL,List.map_cons];rw[hi a (by simp) env env' k h1 (h2 a (by simp)).1 (h2 a (by simp)).2 h3 h4];rw[ihl env env' _ (fun b hb=>hi b (by simp[hb])) h1 (fun b hb=>h2 b (by simp[hb])) (fun x hx=>⟨(h3 x hx).1,by
     obtain⟨j,hj,e⟩:=(h3 x hx).2;have:=kG_ f free (dbT env a) env' k;exact⟨j,by omega,e⟩⟩) h4]
  intro env env' k h1 hs h2 h3 h4
  by_cases h5:t.kind=5
  ·rw[aP_ _ _ h5,oz_,aP_ _ _ rfl]
   have hsp:=bV_ f hf free k;have hle:k≤nx f free k:=hsp.1;have hnf:f (nx f free k)∉free:=(b8_ _ _).1 hsp.2.2.2;show Ty.mk 5 emp 0 ((cnL f free (f (nx f free k) :: env') (nx f free k+1) (t.args.map (dbT (t.name :: env)))).1.map (dbT (f (nx f free k) :: env')))=_;generalize nx f free k=k' at *;congr 1;refine hl t.args (t.name :: env) (f k' :: env') (k'+1) ih (by simp[h1]) (fun a ha=>⟨hs.args a ha,fun x hx hxe=>?_⟩) (fun x hx=>?_) ?_
   ·simp only[List.mem_cons,not_or] at hxe
    exact h2 x ((aO_ _ _).2 (.inr ⟨⟨a,ha,hx⟩,fun e=>hxe.1 e.2.symm⟩)) hxe.2
   ·rcases List.mem_cons.1 hx with rfl|hx
    ·exact⟨hnf,k',by omega,rfl⟩
    ·obtain⟨j,hj,e⟩:=(h3 x hx).2
     exact⟨(h3 x hx).1,j,by omega,e⟩
   ·rw[List.nodup_cons]
    refine⟨fun hx=>?_,h4⟩;obtain⟨j,hj,e⟩:=(h3 _ hx).2;have:=hf _ _ e;omega
  ·by_cases h1':t.kind=1
   ·obtain⟨hn0,ha⟩:=hs.k1 h1'
    rw[a0_ _ _ h1',hn0,gz_];unfold c9_;cases hi:ixN env t.name with
    | none =>
     simp only;rw[a0_ _ _ rfl];unfold c9_;have hx:t.name∉env':=fun hx=>(h3 _ hx).1 (h2 _ ((aO_ _ _).2 (.inl ⟨h1',rfl⟩)) ((cO_ _ _).1 hi));show (match ixN env' t.name with|some i=>_|none=>_)=_;rw[(cO_ _ _).2 hx];rfl
    | some i =>
     simp only;rw[a0_ _ _ rfl];unfold c9_;have hg:=gT_ _ _ _ hi;have hlt:i<env'.length:=by
      rw[h1];exact (List.getElem?_eq_some_iff.1 hg).1
     show (match ixN env' (env'.getD i emp) with|some i=>_|none=>_)=_;rw[mA_ env' _ i h4 (by rw[List.getD_eq_getElem?_getD,List.getElem?_eq_getElem hlt];rfl)]
   ·have hk:=hs.kind
    rw[az_ _ _ h1' h5,di_ _ _ _ _ _ _ _ _ (by omega) h5,t7_ _ _ _ _ _ h1' h5];congr 1;exact hl t.args env env' k ih h1 (fun a ha=>⟨hs.args a ha,fun x hx=>h2 x ((aO_ _ _).2 (.inr ⟨⟨a,ha,hx⟩,fun e=>h5 e.1⟩))⟩) h3 h4
theorem lA_ (t:Ty)(hs:Std t):dbT [] (cs_ t)=dbT [] t:=by
 rw[dQ_ t hs];exact t5_ aR_ (fun _ _=>dH_) (af_ t) t [] [] 0 rfl hs (fun x hx _=>(be_ x t).2 hx) (fun x hx=>by cases hx) List.nodup_nil
def dt_ (out:List ByteArray)(x:Ty)(_:List ByteArray):List ByteArray:=if x.kind==1&&!cR_ out x.name then out++[x.name] else out
theorem rh_ (t:Ty):Std t→∀ (env ns:List ByteArray) (out:List ByteArray),bB_ ak_ t out env=bB_ dt_ (dbT env t) out ns:=by
 induction t using Ty.ind with
 | h t ih =>
  intro hs env ns out;have hl:∀ (l:List Ty) (env ns:List ByteArray) (out:List ByteArray),(∀ a∈l,∀ (env ns:List ByteArray) (out:List ByteArray),bB_ ak_ a out env=bB_ dt_ (dbT env a) out ns)→a1_ ak_ l out env=a1_ dt_ (l.map (dbT env)) out ns:=by
   intro l
   induction l with
   | nil=>intro env ns out _;rfl
   | cons a l ihl =>
    intro env ns out h;rw[List.map_cons,a1_,a1_,h a (by simp) env ns out];exact ihl env ns _ fun b hb=>h b (by simp[hb])
  have ih':=fun a ha=>ih a ha (hs.args a ha);rw[bF_,bF_]
  by_cases h5:t.kind=5
  ·have h1:(t.kind==1)=false:=by rw[h5];rfl
   rw[if_pos h5,aP_ _ _ h5];show a1_ ak_ t.args (ak_ out t env) (t.name :: env)=a1_ dt_ (t.args.map _) (dt_ out _ _) _;have e1:ak_ out t env=out:=by unfold ak_;rw[h1];simp
   have e2:∀ a b,dt_ out (Ty.mk 5 emp 0 a) b=out:=fun a b=>by unfold dt_;rw[if_neg];simp[Ty.kind]
   rw[e1,e2];exact hl _ _ _ _ ih'
  ·rw[if_neg h5]
   by_cases h1:t.kind=1
   ·obtain⟨hn0,ha⟩:=hs.k1 h1
    rw[a0_ _ _ h1,ha];unfold c9_;cases hi:ixN env t.name with
    | none =>
     show ak_ out t env=dt_ out (Ty.mk 1 t.name t.n []) ns;unfold ak_ dt_;rw[h1,(b8_ _ _).2 ((cO_ _ _).1 hi)];rfl
    | some i =>
     show ak_ out t env=dt_ out (Ty.mk 6 emp i []) ns;unfold ak_ dt_;have:cR_ env t.name=true:=by rw[b7_];exact List.mem_of_getElem? (gT_ _ _ _ hi)
     rw[this];simp[Ty.kind]
   ·rw[az_ _ _ h1 h5]
    have e1:ak_ out t env=out:=by unfold ak_;rw[if_neg];simp[h1]
    have e2:∀ a b,dt_ out (Ty.mk t.kind t.name t.n a) b=out:=fun a b=>by
     unfold dt_;rw[if_neg];show ¬ ((t.kind==1)&&_)=true;rw[beq_eq_false_iff_ne.2 h1];simp
    rw[e1,e2];exact hl _ _ _ _ ih'
theorem iB_ (t:Ty)(hs:Std t):af_ t=bB_ dt_ (dbT [] t) [] []:=rh_ t hs [] [] []
theorem n9_ (t:Ty):Std t→∀ (env ns ns':List ByteArray) (out:List Int),bB_ al_ t out ns=bB_ al_ (dbT env t) out ns':=by
 induction t using Ty.ind with
 | h t ih =>
  intro hs env ns ns' out;have hl:∀ (l:List Ty) (env ns ns':List ByteArray) (out:List Int),(∀ a∈l,∀ (env ns ns':List ByteArray) (out:List Int),bB_ al_ a out ns=bB_ al_ (dbT env a) out ns')→a1_ al_ l out ns=a1_ al_ (l.map (dbT env)) out ns':=by
   intro l
   induction l with
   | nil=>intro env ns ns' out _;rfl
   | cons a l ihl =>
    intro env ns ns' out h;rw[List.map_cons,a1_,a1_,h a (by simp) env ns ns' out];exact ihl env ns ns' _ fun b hb=>h b (by simp[hb])
  have ih':=fun a ha=>ih a ha (hs.args a ha);rw[bF_,bF_]
  by_cases h5:t.kind=5
  ·have e1:al_ out t ns=out:=by unfold al_;rw[if_neg];simp[h5]
   rw[aP_ _ _ h5,e1];exact hl _ _ _ _ _ ih'
  ·by_cases h1:t.kind=1
   ·obtain⟨hn0,ha⟩:=hs.k1 h1
    have e1:al_ out t ns=out:=by unfold al_;rw[if_neg];simp[h1]
    rw[a0_ _ _ h1,ha,e1];unfold c9_;cases hi:ixN env t.name<;>rfl
   ·rw[az_ _ _ h1 h5]
    exact hl _ _ _ _ _ ih'
theorem p5_ (t:Ty)(hs:Std t):ay_ t=ay_ (dbT [] t):=n9_ t hs [] [] [] []
theorem bt_ (t:Ty):Std t→∀ env:List ByteArray,(dbT env t).size=t.size:=by
 induction t using Ty.ind with
 | h t ih =>
  intro hs env
  by_cases h5:t.kind=5
  ·rw[aP_ _ _ h5,Ty.size_eq,t.size_eq]
   show ag_ (t.args.map _)+1=_;rw[fj_ _ _ fun a ha=>ih a ha (hs.args a ha) _]
  ·by_cases h1:t.kind=1
   ·rw[a0_ _ _ h1,t.size_eq,(hs.k1 h1).2]
    unfold c9_;cases ixN env t.name<;>rfl
   ·rw[az_ _ _ h1 h5,Ty.size_eq,t.size_eq]
    show ag_ (t.args.map _)+1=_;rw[fj_ _ _ fun a ha=>ih a ha (hs.args a ha) _]
end
section
open Go.RowKit
theorem px_:∀ d:Nat,hh_ d:=by
 intro d
 induction d with
 | zero=>intro fr to t S a c W hg h;rw[t.depth_eq] at h;omega
 | succ d ih =>
  intro fr to t S a c W hg hd hs hfr hto hA hS hT
  by_cases hn:t.name=fr
  ·by_cases h1:t.kind=1
   ·exact rN_ d fr to t S a c W h1 hn hA hS
   ·by_cases h5:t.kind=5
    ·exact pw_ d fr to t S a c W h5 hn hA hS
    ·exact k8_ d ih fr to t S a c W (fun h=>absurd h h1) (fun h=>absurd h h5) hg hd hs hfr hto hA hS hT
  ·by_cases h5:t.kind=5∧t.name=to
   ·exact rO_ d ih fr to t S a c W h5.1 h5.2 hn hg hd hs hfr hto hA hS hT
   ·exact k8_ d ih fr to t S a c W (fun _=>hn) (fun h=>⟨hn,fun e=>h5 ⟨h,e⟩⟩) hg hd hs hfr hto hA hS hT
theorem kj_ (fr to:ByteArray)(t:Ty)(S:Nat→Prop)(a:OA_)(c:Nat)(W:World)(hg:ba_ t)(hs:t.size≤4499999999224)(hfr:fr.size≤64)(hto:to.size≤64)(hA:aa_ S W (.slice a t.args.length c) t.args)(hS:∀ b,S b→b<W.heap.size)(hT:Tab W) :
  Calls Tryz.prog 75 #[tv t a c,.string fr,.string to] W (TP S (cn_ fr to t) W):=px_ t.depth fr to t S a c W hg (aA_ _) hs hfr hto hA hS hT
def fd_ (d:Nat):Prop:=∀ (nm:ByteArray) (u t:Ty) (S:Nat→Prop) (a ua:OA_) (c uc:Nat) (W:World),ba_ t→ba_ u→t.depth≤d→t.size≤50000000000→u.size≤50000000000 →
 aa_ S W (.slice a t.args.length c) t.args→aa_ S W (.slice ua u.args.length uc) u.args→(∀ b,S b→b<W.heap.size)→Tab W→Calls Tryz.prog 101 #[tv t a c,.string nm,tv u ua uc] W (TP S (ew_ d nm u t) W)
theorem mM_ (args:Array Value)(w:World):(callFunc 136 args).run Tryz.prog w=.ok (.enter 136 args) w :=
 enters_of Tryz.func136 (by kernel_rfl) rfl args w
theorem qG_ (d:Nat)(ih:fd_ d)(nm:ByteArray)(u:Ty)(bf bu:Nat)(t:Ty)(S:Nat→Prop)(a ua:OA_)(c uc:Nat)(W:World)(hf:W.heap[bf]? = some (.cells #[.string nm] 9 (0,0)))(hu:B4 W bu (.int .i64 u.kind) (.string u.name) (.int .i64 u.n) (.slice ua u.args.length uc))(hg:ba_ t)(hgu:ba_ u)(hd:t.depth≤d)(hs:t.size≤50000000000)(hsu:u.size≤50000000000)
  (hA:aa_ S W (.slice a t.args.length c) t.args) (hU:aa_ S W (.slice ua u.args.length uc) u.args) (hS:∀ b,S b→b<W.heap.size) (hT:Tab W):Calls Tryz.prog 136 #[tv t a c,.pointer (some ⟨bf,0,none⟩),.pointer (some ⟨bu,0,none⟩)] W (TP S (ew_ d nm u t) W):=by
 have hz:=aq_ W (.cells #[.int .i64 t.kind,.string t.name,.int .i64 t.n,.slice a t.args.length c] 37);have hz2:=hz.alloc hz.size (.cells #[.int .i64 0,.string ⟨#[]⟩,.int .i64 0,.slice none 0 0] 37);have k4:=(B4.new W (.int .i64 t.kind) (.string t.name) (.int .i64 t.n) (.slice a t.args.length c)).low (aq_ _ (.cells #[.int .i64 0,.string ⟨#[]⟩,.int .i64 0,.slice none 0 0] 37));have q4:B4 ((W.alloc (.cells #[.int .i64 t.kind,.string t.name,.int .i64 t.n,.slice a t.args.length c] 37)).alloc (.cells #[.int .i64 0,.string ⟨#[]⟩,.int .i64 0,.slice none 0 0] 37)) (W.heap.size+1) (.int .i64 0) (.string ⟨#[]⟩) (.int .i64 0) (.slice none 0 0):=am_ (by simp);obtain⟨c0,c1,c2,c3⟩:=k4.c03;have e0:=(hz2.cell (p:=⟨bf,0,none⟩) (Array.getElem?_eq_some_iff.1 hf).1).trans (cell_of_row _ _ 0 _ _ _ hf);have hu4:=hu.low hz2;obtain⟨e1,e2,e3,e4⟩:=hu4.c03;have C:=hid (ih nm u t S a ua c uc _ hg hgu hd hs hsu (hA.keep fun b hb=>hz2.block b (hS b hb)) (hU.keep fun b hb=>hz2.block b (hS b hb)) (fun b hb=>aU_ (hS b hb) hz2.size) (an_ hT hz2));have HZ2:=hid hz2;have HS:=hid hS;have Q4:=hid q4;unfold tv at *;clear hz hz2 k4 q4 hf hu hu4 hA hU hS hT hg hgu hd hs hsu;go_enter Tryz.func136,Tryz.ntmps136;go_wp2_with fail;refine C.out.mono ?_;rintro e W2 ⟨a2,c2,rfl,hA2,hb2⟩;have q4:=Q4.out.low hb2;obtain⟨r0,r1,r2,r3⟩:=q4.c03;obtain⟨s0,s1,s2,s3⟩:=q4.f03;have HA2:=hid hA2;have HB2:=hid hb2;clear hA2 hb2;unfold tv;generalize ew_ d nm u t=y at *;go_wp2;have q5:=B4.set4 q4 (.int .i64 y.kind) (.string y.name) (.int .i64 y.n) (.slice a2 y.args.length c2);exact bodyPost_ret (v:=tv y a2 c2) (by simp[results,Tryz.results136,go_sem,tv,q5.c0,q5.c1,q5.c2,q5.c3]) rfl (TP.stored HS.out HZ2.out HA2.out HB2.out (by omega) (by simp))
end
end Go.Proofs.YtjecnionbjlncaaGreatDoor.Tp

/- Packed. -/
import Derived.Test.YtjecnionbjlncaaGreatDoorP18
set_option maxRecDepth 100000
set_option maxHeartbeats 6400000
namespace Go.Proofs.YtjecnionbjlncaaGreatDoor.Tp
def emp:ByteArray:=⟨#[]⟩
def ixN:List ByteArray→ByteArray→Option Nat
 | [],_=>none
 | y :: ys,x=>if eqN y x then some 0 else (ixN ys x).map (· + 1)
theorem br_ (ys:List ByteArray)(x:ByteArray):ixN (x :: ys) x=some 0:=by rw[ixN,if_pos ((aH_ _ _).2 rfl)]
theorem bE_ {y x:ByteArray}(ys:List ByteArray)(h:y≠x):ixN (y :: ys) x=(ixN ys x).map (· + 1):=by
 rw[ixN,if_neg (by rw[aH_];exact h)]
theorem dh_ (ys:List ByteArray)(x:ByteArray):ixN ys x=none↔x∉ys:=by
 induction ys with
 | nil=>simp[ixN]
 | cons y ys ih =>
  by_cases h:y=x
  ·subst h;rw[br_];simp
  ·rw[bE_ ys h,Option.map_eq_none_iff,ih]
   simp only[List.mem_cons,not_or];exact⟨fun hh=>⟨fun e=>h e.symm,hh⟩,fun hh=>hh.2⟩
theorem gz_:∀ (ys:List ByteArray) (x:ByteArray) (i:Nat),ixN ys x=some i→ys[i]? = some x:=by
 intro ys
 induction ys with
 | nil=>intro x i h;simp[ixN] at h
 | cons y ys ih =>
  intro x i h
  by_cases e:y=x
  ·subst e;rw[br_] at h;injection h with h;subst h;rfl
  ·rw[bE_ ys e] at h
   obtain⟨j,hj,rfl⟩:=Option.map_eq_some_iff.1 h;simpa using ih x j hj
theorem lt_:∀ (ys:List ByteArray) (x:ByteArray) (i:Nat),ys.Nodup→ys[i]? = some x→ixN ys x=some i:=by
 intro ys
 induction ys with
 | nil=>intro x i _ h;simp at h
 | cons y ys ih =>
  intro x i hn h;rw[List.nodup_cons] at hn;cases i with
  | zero=>simp at h;subst h;exact br_ _ _
  | succ i =>
   simp at h;have hx:x∈ys:=List.mem_of_getElem? h;rw[bE_ ys (fun e=>hn.1 (by rw[e];exact hx)),ih x i hn.2 h];rfl
def dC_ (env:List ByteArray)(s:ByteArray)(n:Int):Ty:=match ixN env s with
 | some i=>.mk 6 emp i []
 | none=>.mk 1 s n []
mutual
def dbT:List ByteArray→Ty→Ty
 | env,.mk k s n args=>if k=1 then dC_ env s n else if k=5 then .mk 5 emp 0 (dbL (s :: env) args) else .mk k s n (dbL env args)
def dbL:List ByteArray→List Ty→List Ty
 | _,[]=>[]
 | env,t :: ts=>dbT env t :: dbL env ts
end
theorem jP_ (env:List ByteArray)(ts:List Ty):dbL env ts=ts.map (dbT env):=by
 induction ts with
 | nil=>simp[dbL]
 | cons t ts ih=>rw[dbL,ih];rfl
theorem ns_ (env:List ByteArray)(t:Ty):dbT env t=if t.kind=1 then dC_ env t.name t.n else if t.kind=5 then .mk 5 emp 0 (t.args.map (dbT (t.name :: env))) else .mk t.kind t.name t.n (t.args.map (dbT env)):=by
 cases t with
 | mk k s n args=>rw[dbT,jP_,jP_];rfl
theorem a1_ (env:List ByteArray)(t:Ty)(h:t.kind=1):dbT env t=dC_ env t.name t.n:=by rw[ns_,if_pos h]
theorem aK_ (env:List ByteArray)(t:Ty)(h:t.kind=5):dbT env t=.mk 5 emp 0 (t.args.map (dbT (t.name :: env))):=by rw[ns_,if_neg (by omega),if_pos h]
theorem az_ (env:List ByteArray)(t:Ty)(h1:t.kind≠1)(h5:t.kind≠5):dbT env t=.mk t.kind t.name t.n (t.args.map (dbT env)):=by rw[ns_,if_neg h1,if_neg h5]
mutual
def fvT (x:ByteArray):Ty→Prop
 | .mk k s _ args=>(k=1∧s=x)∨(fvL x args∧¬ (k=5∧s=x))
def fvL (x:ByteArray):List Ty→Prop
 | []=>False
 | t :: ts=>fvT x t∨fvL x ts
end
theorem qV_ (x:ByteArray)(ts:List Ty):fvL x ts↔∃ a∈ts,fvT x a:=by
 induction ts with
 | nil=>simp[fvL]
 | cons t ts ih=>rw[fvL,ih];simp
theorem aD_ (x:ByteArray)(t:Ty):fvT x t↔(t.kind=1∧t.name=x)∨((∃ a∈t.args,fvT x a)∧¬ (t.kind=5∧t.name=x)):=by
 cases t with
 | mk k s n args=>rw[fvT,qV_];rfl
theorem mem_walk (x:ByteArray):∀ (t:Ty) (out ns:List ByteArray),x∈bZ_ ao_ t out ns↔x∈out∨(fvT x t∧x∉ns):=by
 intro t
 induction t using Ty.ind with
 | h t ih =>
  intro out ns;have hstep:x∈ao_ out t ns↔x∈out∨(t.kind=1∧t.name=x∧x∉ns):=by
   unfold ao_
   split
   ·next h =>
    simp only[Bool.and_eq_true,beq_iff_eq,Bool.not_eq_true',ct_] at h;rw[List.mem_append,List.mem_singleton]
    constructor
    ·rintro (h'|rfl)
     ·exact .inl h'
     ·exact .inr ⟨h.1.1,rfl,h.1.2⟩
    ·rintro (h'|⟨_,h',_⟩)
     ·exact .inl h'
     ·exact .inr h'.symm
   ·next h =>
    simp only[Bool.and_eq_true,beq_iff_eq,Bool.not_eq_true',ct_] at h
    constructor
    ·exact .inl
    ·rintro (h'|⟨h1,h2,h3⟩)
     ·exact h'
     ·subst h2
      exact Classical.byContradiction fun hx=>h ⟨⟨h1,h3⟩,hx⟩
  have hl:∀ (l:List Ty) (out ns:List ByteArray),(∀ a∈l,∀ (out ns:List ByteArray),x∈bZ_ ao_ a out ns↔x∈out∨(fvT x a∧x∉ns))→(x∈bB_ ao_ l out ns↔x∈out∨((∃ a∈l,fvT x a)∧x∉ns)):=by
   intro l
   induction l with
   | nil=>intro out ns _;simp[bB_]
   | cons a l ihl =>
    intro out ns h;rw[bB_,ihl _ _ fun b hb=>h b (by simp[hb]),h a (by simp)]
    constructor
    ·rintro ((h|h)|⟨⟨b,hb,hf⟩,h⟩)
     ·exact .inl h
     ·exact .inr ⟨⟨a,by simp,h.1⟩,h.2⟩
     ·exact .inr ⟨⟨b,by simp[hb],hf⟩,h⟩
    ·rintro (h|⟨⟨b,hb,hf⟩,hxn⟩)
     ·exact .inl (.inl h)
     ·rcases List.mem_cons.1 hb with rfl|hb
      ·exact .inl (.inr ⟨hf,hxn⟩)
      ·exact .inr ⟨⟨b,hb,hf⟩,hxn⟩
  rw[cd_,hl _ _ _ ih,hstep,aD_]
  by_cases h5:t.kind=5
  ·rw[if_pos h5]
   simp only[List.mem_cons,not_or]
   constructor
   ·rintro ((h|h)|⟨h,h',h''⟩)
    ·exact .inl h
    ·omega
    ·exact .inr ⟨.inr ⟨h,fun e=>h' e.2.symm⟩,h''⟩
   ·rintro (h|⟨h|⟨h,h'⟩,h''⟩)
    ·exact .inl (.inl h)
    ·omega
    ·exact .inr ⟨h,fun e=>h' ⟨h5,e.symm⟩,h''⟩
  ·rw[if_neg h5]
   constructor
   ·rintro ((h|⟨h,h',h''⟩)|⟨h,h'⟩)
    ·exact .inl h
    ·exact .inr ⟨.inl ⟨h,h'⟩,h''⟩
    ·exact .inr ⟨.inr ⟨h,fun e=>h5 e.1⟩,h'⟩
   ·rintro (h|⟨⟨h,h'⟩|⟨h,_⟩,h''⟩)
    ·exact .inl (.inl h)
    ·exact .inl (.inr ⟨h,h',h''⟩)
    ·exact .inr ⟨h,h''⟩
theorem bm_ (x:ByteArray)(t:Ty):x∈ai_ t↔fvT x t:=by
 unfold ai_;rw[mem_walk];simp
def StdK (t:Ty):Prop:=(t.kind=1∧t.n=0∧t.args=[])∨(t.kind=2∧t.name=emp∧t.args=[]∧0≤t.n∧t.n<1000000000000000000)∨(t.kind=3∧t.n=0)∨(t.kind=4∧t.name=emp∧t.n=0∧t.args.length=2)∨(t.kind=5∧t.n=0∧t.args.length=1)
mutual
def Std:Ty→Prop
 | .mk k s n args=>StdK (.mk k s n args)∧sE_ args
def sE_:List Ty→Prop
 | []=>True
 | t :: ts=>Std t∧sE_ ts
end
theorem pf_ (ts:List Ty):sE_ ts↔∀ t∈ts,Std t:=by
 induction ts with
 | nil=>simp[sE_]
 | cons t ts ih=>rw[sE_,ih];simp
theorem aX_ (t:Ty):Std t↔StdK t∧∀ a∈t.args,Std a:=by
 cases t with
 | mk k s n args=>rw[Std,pf_];rfl
theorem Std.k1 {t:Ty}(h:Std t)(hk:t.kind=1):t.n=0∧t.args=[]:=by
 rcases ((aX_ t).1 h).1 with h|h|h|h|h<;>first|omega|exact h.2
theorem Std.k2 {t:Ty}(h:Std t)(hk:t.kind=2):t.name=emp∧t.args=[]∧0≤t.n∧t.n<1000000000000000000:=by
 rcases ((aX_ t).1 h).1 with h|h|h|h|h<;>first|omega|exact h.2
theorem Std.k4 {t:Ty}(h:Std t)(hk:t.kind=4):t.name=emp∧t.n=0∧t.args.length=2:=by
 rcases ((aX_ t).1 h).1 with h|h|h|h|h<;>first|omega|exact h.2
theorem Std.k5 {t:Ty}(h:Std t)(hk:t.kind=5):t.n=0∧t.args.length=1:=by
 rcases ((aX_ t).1 h).1 with h|h|h|h|h<;>first|omega|exact h.2
theorem Std.args {t:Ty}(h:Std t):∀ a∈t.args,Std a:=((aX_ t).1 h).2
theorem Std.all {t:Ty}(h:Std t)(hk:t.kind=5):∃ b,t=bR_ t.name b∧t.args=[b]∧Std b:=by
 obtain⟨hn,hl⟩:=h.k5 hk;have ha:=h.args
 match he:t.args,hl with
 | [b],_ =>
  refine⟨b,?_,rfl,ha b (by rw[he];simp)⟩;cases t with
  | mk k s n args=>simp only[Ty.kind,Ty.n,Ty.args,Ty.name] at *;subst hk hn he;rfl
theorem Std.kind {t:Ty}(h:Std t):1≤t.kind∧t.kind≤5:=by
 rcases ((aX_ t).1 h).1 with h|h|h|h|h<;>omega
theorem nr_:∀ (t:Ty) (env env':List ByteArray),(∀ x,fvT x t→∀ n,dC_ env' x n=dC_ env x n)→dbT env' t=dbT env t:=by
 intro t
 induction t using Ty.ind with
 | h t ih =>
  intro env env' h
  by_cases h1:t.kind=1
  ·rw[a1_ _ _ h1,a1_ _ _ h1]
   exact h _ ((aD_ _ _).2 (.inl ⟨h1,rfl⟩)) _
  ·by_cases h5:t.kind=5
   ·rw[aK_ _ _ h5,aK_ _ _ h5]
    congr 1;refine List.map_congr_left fun a ha=>ih a ha _ _ fun x hx n=>?_
    by_cases e:t.name=x
    ·subst e;unfold dC_;rw[br_,br_]
    ·have:=h x ((aD_ _ _).2 (.inr ⟨⟨a,ha,hx⟩,fun hh=>e hh.2⟩)) n
     unfold dC_ at this ⊢;rw[bE_ _ e,bE_ _ e];cases h3:ixN env' x<;>cases h4:ixN env x<;>rw[h3,h4] at this<;>simp_all
   ·rw[az_ _ _ h1 h5,az_ _ _ h1 h5]
    congr 1;exact List.map_congr_left fun a ha=>ih a ha _ _ fun x hx n=>h x ((aD_ _ _).2 (.inr ⟨⟨a,ha,hx⟩,fun hh=>h5 hh.1⟩)) n
theorem iX_ {y x:ByteArray}{env env':List ByteArray}{n:Int}{y' x':ByteArray}(h:y≠x)(h':y'≠x')(e:dC_ env' x' n=dC_ env x n):dC_ (y' :: env') x' n=dC_ (y :: env) x n:=by
 unfold dC_ at e ⊢;rw[bE_ _ h,bE_ _ h'];cases h3:ixN env' x'<;>cases h4:ixN env x<;>rw[h3,h4] at e<;>simp_all
theorem be_ (y:ByteArray)(env:List ByteArray)(n:Int):dC_ (y :: env) y n=.mk 6 emp 0 []:=by
 unfold dC_;rw[br_];rfl
theorem gc_ {y x y' x':ByteArray}{env env':List ByteArray}{n:Int}(h:y≠x)(h':y'≠x')(e:dC_ env' x' n=dC_ env x n):dC_ (y' :: env') x' n=dC_ (y :: env) x n:=iX_ h h' e
theorem iO_:∀ (d:Nat) (x:ByteArray) (t:Ty),bW_ d x x t=t:=by
 intro d x
 induction d with
 | zero=>intro t;rfl
 | succ d ih =>
  intro t;cases t with
  | mk k s n args =>
   rw[bW_]
   split
   ·next h =>
    simp only[Bool.and_eq_true] at h;have:=(aH_ _ _).1 h.2;simp only[Ty.name] at this;subst this;rfl
   ·split
    ·rfl
    ·show Ty.mk k s n (args.map (bW_ d x x))=_
     congr 1
     conv=>rhs;rw[← List.map_id args]
     exact List.map_congr_left fun a _=>ih a
theorem dw_ {t:Ty}(h:Std t)(hk:t.kind=5):∃ x,t.args=[x]∧cm_ t=x:=by
 have:=(h.k5 hk).2
 match hl:t.args,this with
 | [x],_=>exact⟨x,rfl,by unfold cm_;rw[hl]⟩
theorem ga_ {t:Ty}(h:Std t)(l:List Ty)(hl:l.length=t.args.length)(hg:∀ a∈l,Std a):Std (ir_ t l):=by
 refine (aX_ _).2 ⟨?_,hg⟩;have hn:t.args=[]→l=[]:=fun e=>List.eq_nil_of_length_eq_zero (by rw[hl,e];rfl);show (t.kind=1∧t.n=0∧l=[])∨(t.kind=2∧t.name=emp∧l=[]∧0≤t.n∧t.n<1000000000000000000)∨(t.kind=3∧t.n=0)∨(t.kind=4∧t.name=emp∧t.n=0∧l.length=2)∨(t.kind=5∧t.n=0∧l.length=1);rw[hl]
 rcases ((aX_ t).1 h).1 with h|h|h|h|h
 ·exact .inl ⟨h.1,h.2.1,hn h.2.2⟩
 ·exact .inr (.inl ⟨h.1,h.2.1,hn h.2.2.1,h.2.2.2⟩)
 ·exact .inr (.inr (.inl h))
 ·exact .inr (.inr (.inr (.inl h)))
 ·exact .inr (.inr (.inr (.inr h)))
theorem hL_ (s:ByteArray){b:Ty}(h:Std b):Std (bR_ s b):=(aX_ _).2 ⟨.inr (.inr (.inr (.inr ⟨rfl,rfl,rfl⟩))),fun a ha=>by obtain rfl:=List.mem_singleton.1 ha;exact h⟩
theorem hK_ (s:ByteArray):Std (.mk 1 s 0 []):=(aX_ _).2 ⟨.inl ⟨rfl,rfl,rfl⟩,fun a ha=>by cases ha⟩
theorem dQ_:∀ (d:Nat) (fr to:ByteArray) (t:Ty),t.depth≤d→Std t→(bW_ d fr to t).depth=t.depth∧Std (bW_ d fr to t)∧(bW_ d fr to t).kind=t.kind:=by
 intro d
 induction d with
 | zero=>intro fr to t h;rw[t.depth_eq] at h;omega
 | succ d ih =>
  intro fr to t h hw;have hd:∀ a∈t.args,a.depth≤d:=fun a ha=>by have:=av_ _ ha;rw[t.depth_eq] at h;omega
  have hwa:=hw.args;rw[bW_]
  split
  ·next hc =>
   simp only[Bool.and_eq_true,beq_iff_eq,aH_] at hc;obtain⟨h1,h2⟩:=hw.k1 hc.1;rw[hc.1,h1,h2];refine⟨?_,hK_ _,rfl⟩;rw[Ty.depth_eq,Ty.depth_eq,h2];rfl
  ·split
   ·exact⟨rfl,hw,rfl⟩
   ·split
    ·next h1 h2 hc =>
     simp only[Bool.and_eq_true,beq_iff_eq] at hc;obtain⟨b,hb,hb0⟩:=dw_ hw hc.1;rw[hb0];have hbm:b∈t.args:=by rw[hb];simp
     generalize a2_ to (ai_ b++[fr,to])=n;have h1:=ih to n b (hd b hbm) (hwa b hbm);have h2:=ih fr to (bW_ d to n b) (by rw[h1.1];exact hd b hbm) h1.2.1;refine⟨?_,hL_ _ h2.2.1,hc.1.symm⟩;rw[Ty.depth_eq,t.depth_eq,hb];show ar_ [_]+1=_;rw[ar_,ar_,ar_,ar_,h2.1,h1.1]
    ·refine⟨?_,ga_ hw _ (by simp) fun a ha=>?_,rfl⟩
     ·rw[Ty.depth_eq,t.depth_eq]
      show ar_ (t.args.map _)+1=_;rw[hB_ _ _ fun a ha=>(ih fr to a (hd a ha) (hwa a ha)).1]
     ·obtain⟨b,hb,rfl⟩:=List.mem_map.1 ha
      exact (ih fr to b (hd b hb) (hwa b hb)).2.1
theorem pJ_:∀ (d:Nat) (fr to:ByteArray) (t:Ty),t.depth≤d→Std t→∀ x,fvT x (bW_ d fr to t)→(x=to∧fvT fr t)∨(fvT x t∧x≠fr):=by
 intro d
 induction d with
 | zero=>intro fr to t h;rw[t.depth_eq] at h;omega
 | succ d ih =>
  intro fr to t h hw x;have hd:∀ a∈t.args,a.depth≤d:=fun a ha=>by have:=av_ _ ha;rw[t.depth_eq] at h;omega
  have hwa:=hw.args;rw[bW_]
  split
  ·next hc =>
   simp only[Bool.and_eq_true,beq_iff_eq,aH_] at hc;have ha:t.args=[]:=(hw.k1 hc.1).2;rw[aD_];rintro (h|⟨⟨a,h,_⟩,_⟩)
   ·exact .inl ⟨(show to=x from h.2).symm,(aD_ _ _).2 (.inl hc)⟩
   ·have h':a∈t.args:=h
    rw[ha] at h';cases h'
  ·split
   ·next h1 hc =>
    simp only[Bool.and_eq_true,beq_iff_eq,aH_] at hc;intro hx;refine .inr ⟨hx,fun e=>?_⟩;subst e
    rcases (aD_ _ _).1 hx with h|h
    ·omega
    ·exact h.2 hc
   ·split
    ·next h1 h2 hc =>
     simp only[Bool.and_eq_true,beq_iff_eq,aH_] at hc h1 h2;obtain⟨b,hb,hb0⟩:=dw_ hw hc.1;rw[hb0];have hbm:b∈t.args:=by rw[hb];simp
     have hnf:=ez_ to (ai_ b++[fr,to]);generalize a2_ to (ai_ b++[fr,to])=n at *;simp only[List.mem_append,List.mem_cons,List.not_mem_nil,or_false,not_or,bm_] at hnf;have hne:fr≠to:=fun e=>h2 ⟨hc.1,by rw[hc.2,e]⟩;intro hx;have hx':fvT x (bW_ d fr to (bW_ d to n b))∧x≠n:=by
      rcases (aD_ _ _).1 hx with h|⟨⟨a,ha,h⟩,h'⟩
      ·exact absurd h.1 (by simp[bR_,Ty.kind])
      ·simp only[bR_,Ty.args,List.mem_singleton] at ha
       subst ha;exact⟨h,fun e=>h' ⟨rfl,e.symm⟩⟩
     have key:∀ z,fvT z b→z≠to→fvT z t:=fun z hz hzt=>(aD_ _ _).2 (.inr ⟨⟨b,hbm,hz⟩,fun e=>hzt (e.2.symm.trans hc.2)⟩);have hdep:(bW_ d to n b).depth≤d∧Std (bW_ d to n b):=by
      have:=dQ_ d to n b (hd b hbm) (hwa b hbm);exact⟨by rw[this.1];exact hd b hbm,this.2.1⟩
     rcases ih fr to _ hdep.1 hdep.2 x hx'.1 with ⟨e1,hf⟩|⟨hf,hxf⟩
     ·rcases ih to n b (hd b hbm) (hwa b hbm) fr hf with ⟨e2,_⟩|⟨hf',_⟩
      ·exact absurd e2.symm hnf.2.1
      ·exact .inl ⟨e1,key fr hf' hne⟩
     ·rcases ih to n b (hd b hbm) (hwa b hbm) x hf with ⟨e2,_⟩|⟨hf',hxt⟩
      ·exact absurd e2 hx'.2
      ·exact .inr ⟨key x hf' hxt,hxf⟩
    ·next h1 h2 h3 =>
     simp only[Bool.and_eq_true,beq_iff_eq,aH_] at h1 h2 h3;intro hx
     rcases (aD_ _ _).1 hx with h|⟨⟨a,ha,h⟩,h'⟩
     ·refine .inr ⟨(aD_ _ _).2 (.inl h),fun e=>h1 ⟨h.1,h.2.trans e⟩⟩
     ·simp only[ir_,Ty.args,List.mem_map] at ha
      obtain⟨a,ha,rfl⟩:=ha
      rcases ih fr to a (hd a ha) (hwa a ha) x h with ⟨e1,hf⟩|⟨hf,hxf⟩
      ·exact .inl ⟨e1,(aD_ _ _).2 (.inr ⟨⟨a,ha,hf⟩,h2⟩)⟩
      ·exact .inr ⟨(aD_ _ _).2 (.inr ⟨⟨a,ha,hf⟩,h'⟩),hxf⟩
theorem sp_:∀ (d:Nat) (fr to:ByteArray) (t:Ty) (env env':List ByteArray),t.depth≤d→Std t→¬ fvT to t→(∀ x,fvT x t→∀ n,dC_ env' (if x=fr then to else x) n=dC_ env x n)→dbT env' (bW_ d fr to t)=dbT env t:=by
 intro d
 induction d with
 | zero=>intro fr to t env env' h;rw[t.depth_eq] at h;omega
 | succ d ih =>
  intro fr to t env env' h hw hto hl;have hd:∀ a∈t.args,a.depth≤d:=fun a ha=>by have:=av_ _ ha;rw[t.depth_eq] at h;omega
  have hwa:=hw.args;rw[bW_]
  split
  ·next hc =>
   simp only[Bool.and_eq_true,beq_iff_eq,aH_] at hc;rw[a1_ _ _ hc.1,a1_ _ _ (show (Ty.mk t.kind to t.n t.args).kind=1 from hc.1)];have:=hl t.name ((aD_ _ _).2 (.inl ⟨hc.1,rfl⟩)) t.n;rw[if_pos hc.2] at this;exact this
  ·split
   ·next h1 hc =>
    simp only[Bool.and_eq_true,beq_iff_eq,aH_] at hc;refine nr_ t env env' fun x hx n=>?_;have:=hl x hx n;rw[if_neg] at this
    ·exact this
    ·intro e;subst e
     rcases (aD_ _ _).1 hx with h|h
     ·omega
     ·exact h.2 hc
   ·split
    ·next h1 h2 hc =>
     simp only[Bool.and_eq_true,beq_iff_eq,aH_] at hc h1 h2;obtain⟨b,hb,hb0⟩:=dw_ hw hc.1;rw[hb0];have hbm:b∈t.args:=by rw[hb];simp
     have hnf:=ez_ to (ai_ b++[fr,to]);generalize a2_ to (ai_ b++[fr,to])=n at *;simp only[List.mem_append,List.mem_cons,List.not_mem_nil,or_false,not_or,bm_] at hnf;have hne:fr≠to:=fun e=>h2 ⟨hc.1,by rw[hc.2,e]⟩;have key:∀ z,fvT z b→z≠to→fvT z t:=fun z hz hzt=>(aD_ _ _).2 (.inr ⟨⟨b,hbm,hz⟩,fun e=>hzt (e.2.symm.trans hc.2)⟩);have hs:=dQ_ d to n b (hd b hbm) (hwa b hbm);have hfv:=pJ_ d to n b (hd b hbm) (hwa b hbm);rw[aK_ _ _ (show (bR_ n _).kind=5 from rfl),aK_ _ _ hc.1,hb];show Ty.mk 5 emp 0 [dbT (n :: env') _]=Ty.mk 5 emp 0 [dbT (t.name :: env) b];rw[hc.2,ih fr to (bW_ d to n b) (n :: env) (n :: env') (by rw[hs.1];exact hd b hbm) hs.2.1 ?_ ?_,ih to n b (to :: env) (n :: env) (hd b hbm) (hwa b hbm) hnf.1 ?_]
     ·intro x hx m
      by_cases e:x=to
      ·rw[if_pos e,e,be_,be_]
      ·rw[if_neg e]
       exact gc_ (fun e'=>e e'.symm) (fun e'=>hnf.1 (e' ▸ hx)) rfl
     ·intro hx
      rcases hfv to hx with ⟨e,_⟩|⟨_,e⟩
      ·exact hnf.2.2 e.symm
      ·exact e rfl
     ·intro x hx m
      rcases hfv x hx with ⟨e1,_⟩|⟨hx',e⟩
      ·rw[if_neg (fun e=>hnf.2.1 (e1.symm.trans e)),e1,be_,be_]
      ·have hxn:n≠x:=fun e'=>hnf.1 (e' ▸ hx')
       refine gc_ hxn ?_ (hl x (key x hx' e) m)
       split
       ·exact hnf.2.2
       ·exact hxn
    ·next h1 h2 h3 =>
     simp only[Bool.and_eq_true,beq_iff_eq,aH_] at h1 h2 h3
     by_cases hk1:t.kind=1
     ·rw[a1_ _ _ hk1,a1_ _ _ (show (ir_ t _).kind=1 from hk1)]
      have:=hl t.name ((aD_ _ _).2 (.inl ⟨hk1,rfl⟩)) t.n;rw[if_neg (fun e=>h1 ⟨hk1,e⟩)] at this;exact this
     ·by_cases hk5:t.kind=5
      ·rw[aK_ _ _ hk5,aK_ _ _ (show (ir_ t _).kind=5 from hk5)]
       congr 1;show (t.args.map _).map _=_;rw[List.map_map];refine List.map_congr_left fun a ha=>ih fr to a _ _ (hd a ha) (hwa a ha) ?_ ?_
       ·intro hx
        exact hto ((aD_ _ _).2 (.inr ⟨⟨a,ha,hx⟩,h3⟩))
       ·intro x hx m
        show dC_ (t.name :: env') _ m=_
        by_cases e:x=t.name
        ·subst e
         rw[if_neg (fun e=>h2 ⟨hk5,e⟩),be_,be_]
        ·refine gc_ (fun e'=>e e'.symm) ?_ (hl x ((aD_ _ _).2 (.inr ⟨⟨a,ha,hx⟩,fun e'=>e e'.2.symm⟩)) m)
         split
         ·exact fun e'=>h3 ⟨hk5,e'⟩
         ·exact fun e'=>e e'.symm
      ·rw[az_ _ _ hk1 hk5,az_ _ _ (show (ir_ t _).kind≠1 from hk1) (show (ir_ t _).kind≠5 from hk5)]
       show Ty.mk t.kind t.name t.n ((t.args.map _).map _)=_;congr 1;rw[List.map_map];refine List.map_congr_left fun a ha=>ih fr to a _ _ (hd a ha) (hwa a ha) ?_ ?_
       ·intro hx
        exact hto ((aD_ _ _).2 (.inr ⟨⟨a,ha,hx⟩,h3⟩))
       ·intro x hx m
        exact hl x ((aD_ _ _).2 (.inr ⟨⟨a,ha,hx⟩,fun e'=>hk5 e'.1⟩)) m
theorem fP_ (y n:ByteArray)(b:Ty)(env:List ByteArray)(hb:Std b)(hn:¬ fvT n b):dbT (n :: env) (b9_ y n b)=dbT (y :: env) b:=by
 refine sp_ b.depth y n b (y :: env) (n :: env) (aC_ _) hb hn fun x hx m=>?_
 by_cases e:x=y
 ·rw[if_pos e,e,be_,be_]
 ·rw[if_neg e]
  exact gc_ (fun e'=>e e'.symm) (fun e'=>hn (e' ▸ hx)) rfl
def nx (f:Nat→ByteArray)(free:List ByteArray)(k:Nat):Nat:=dF_ f free (free.length+1) k
section
variable (f : Nat → ByteArray) (free : List ByteArray)
mutual
def cnT:List ByteArray→Nat→Ty→Ty × Nat
 | env,k,.mk kd s n args =>
  if kd=6 then (.mk 1 (env.getD n.toNat emp) 0 [],k)
  else if kd=5 then (.mk 5 (f (nx f free k)) 0 (cnL (f (nx f free k) :: env) (nx f free k+1) args).1,(cnL (f (nx f free k) :: env) (nx f free k+1) args).2)
  else (.mk kd s n (cnL env k args).1,(cnL env k args).2)
def cnL:List ByteArray→Nat→List Ty→List Ty × Nat
 | _,k,[]=>([],k)
 | env,k,t :: ts=>((cnT env k t).1 :: (cnL env (cnT env k t).2 ts).1,(cnL env (cnT env k t).2 ts).2)
end
theorem su_ (env:List ByteArray)(k:Nat)(t:Ty):cnT f free env k t=if t.kind=6 then (.mk 1 (env.getD t.n.toNat emp) 0 [],k)
  else if t.kind=5 then (.mk 5 (f (nx f free k)) 0 (cnL f free (f (nx f free k) :: env) (nx f free k+1) t.args).1,(cnL f free (f (nx f free k) :: env) (nx f free k+1) t.args).2)
  else (.mk t.kind t.name t.n (cnL f free env k t.args).1,(cnL f free env k t.args).2):=by
 cases t with
 | mk k s n args=>rw[cnT];rfl
theorem q5_ (env:List ByteArray)(k:Nat)(args:List Ty):cnT f free env k (.mk 5 emp 0 args)=(.mk 5 (f (nx f free k)) 0 (cnL f free (f (nx f free k) :: env) (nx f free k+1) args).1,(cnL f free (f (nx f free k) :: env) (nx f free k+1) args).2):=by
 rw[cnT,if_neg (by decide),if_pos rfl]
theorem fm_ (env:List ByteArray)(k:Nat)(kd:Int)(s:ByteArray)(n:Int)(args:List Ty)(h6:kd≠6)(h5:kd≠5):cnT f free env k (.mk kd s n args)=(.mk kd s n (cnL f free env k args).1,(cnL f free env k args).2):=by
 rw[cnT,if_neg h6,if_neg h5]
theorem ie_ (env env':List ByteArray)(k:Nat)(s:ByteArray):cnT f free env' k (dC_ env s 0)=(match ixN env s with|some i=>.mk 1 (env'.getD i emp) 0 []|none=>.mk 1 s 0 [],k):=by
 unfold dC_;cases ixN env s with
 | some i=>simp only;rw[cnT,if_pos rfl];rfl
 | none=>simp only;rw[fm_ _ _ _ _ _ _ _ _ (by omega) (by omega),cnL]
theorem nx_le (k:Nat):k≤nx f free k:=by
 have:∀ (n i:Nat),i≤dF_ f free n i:=by
  intro n
  induction n with
  | zero=>intro i;exact aC_ _
  | succ n ih =>
   intro i;rw[dF_];split
   ·have:=ih (i+1);omega
   ·exact aC_ _
 exact this _ _
theorem nt_:∀ (t:Ty) (env:List ByteArray) (k:Nat),k≤(cnT f free env k t).2:=by
 intro t
 induction t using Ty.ind with
 | h t ih =>
  have hl:∀ (l:List Ty) (env:List ByteArray) (k:Nat),(∀ a∈l,∀ (env:List ByteArray) (k:Nat),k≤(cnT f free env k a).2)→k≤(cnL f free env k l).2:=by
   intro l
   induction l with
   | nil=>intro env k _;simp[cnL]
   | cons a l ihl =>
    intro env k h;rw[cnL];have:=h a (by simp) env k;have:=ihl env (cnT f free env k a).2 fun b hb=>h b (by simp[hb]);simp only;omega
  intro env k;rw[su_]
  split
  ·exact aC_ _
  ·split
   ·have:=hl t.args (f (nx f free k) :: env) (nx f free k+1) ih
    have:=nx_le f free k;simp only;omega
   ·exact hl t.args env k ih
end
theorem r0_ (d:Nat)(free:List ByteArray)(n:Nat)(t b:Ty)(hk:t.kind=5)(hb:cm_ t=b):cc_ (d+1) free n t =
  (bR_ (aO_ (b3_ free n)) (cc_ d free (b3_ free n+1) (b9_ t.name (aO_ (b3_ free n)) b)).1,(cc_ d free (b3_ free n+1) (b9_ t.name (aO_ (b3_ free n)) b)).2):=by
 rw[cc_,if_pos hk,hb];rfl
theorem rZ_ (free:List ByteArray):∀ (d:Nat) (t:Ty) (env:List ByteArray) (n:Nat),t.depth≤d→Std t→(∀ x,fvT x t→x∈free∨x∈env)→(∀ x∈env,∃ j,j<n∧x=aO_ j) →
  cc_ d free n t=cnT aO_ free env n (dbT env t):=by
 intro d
 induction d with
 | zero=>intro t env n h;rw[t.depth_eq] at h;omega
 | succ d ih =>
  have hl:∀ (l:List Ty) (env:List ByteArray) (n:Nat),(∀ a∈l,a.depth≤d∧Std a∧∀ x,fvT x a→x∈free∨x∈env)→(∀ x∈env,∃ j,j<n∧x=aO_ j)→an_ (cc_ d free) n l=cnL aO_ free env n (l.map (dbT env)):=by
   intro l
   induction l with
   | nil=>intro env n _ _;simp[an_,cnL]
   | cons a l ihl =>
    intro env n h he;obtain⟨h1,h2,h3⟩:=h a (by simp);have e1:=ih a env n h1 h2 h3 he;rw[an_,List.map_cons,cnL,e1];have hm:=nt_ aO_ free (dbT env a) env n;have e2:=ihl env (cnT aO_ free env n (dbT env a)).2 (fun b hb=>h b (by simp[hb])) fun x hx=>by
     obtain⟨j,hj,e⟩:=he x hx;exact⟨j,by omega,e⟩
    rw[e2]
  intro t env n h hs hf he;have hd:∀ a∈t.args,a.depth≤d:=fun a ha=>by have:=av_ _ ha;rw[t.depth_eq] at h;omega
  by_cases h5:t.kind=5
  ·obtain⟨b,hb,hb0⟩:=dw_ hs h5
   have hbm:b∈t.args:=by rw[hb];simp
   have hbs:=hs.args b hbm;rw[r0_ d free n t b h5 hb0,aK_ _ _ h5,q5_,hb];have hn:=ku_ free n;have hnf:=m4_ free n;have hfb:∀ x,fvT x b→x∈free∨x∈env∨x=t.name:=fun x hx=>by
    by_cases e:x=t.name
    ·exact .inr (.inr e)
    ·rcases hf x ((aD_ _ _).2 (.inr ⟨⟨b,hbm,hx⟩,fun e'=>e e'.2.symm⟩)) with h|h
     ·exact .inl h
     ·exact .inr (.inl h)
   show _=(Ty.mk 5 (aO_ (b3_ free n)) 0 (cnL aO_ free (aO_ (b3_ free n) :: env) (b3_ free n+1) _).1,(cnL aO_ free (aO_ (b3_ free n) :: env) (b3_ free n+1) _).2);generalize b3_ free n=n' at *;have hr:=dQ_ b.depth t.name (aO_ n') b (aC_ _) hbs;have hdb:dbT (aO_ n' :: env) (b9_ t.name (aO_ n') b)=dbT (t.name :: env) b:=by
    by_cases e:t.name=aO_ n'
    ·rw[← e];unfold b9_;rw[iO_]
    ·refine fP_ _ _ _ _ hbs fun hx=>?_
     rcases hfb _ hx with h|h|h
     ·exact hnf h
     ·obtain⟨j,hj,e'⟩:=he _ h
      have:=dv_ e';omega
     ·exact e h.symm
   have e1:=ih (b9_ t.name (aO_ n') b) (aO_ n' :: env) (n'+1) (by show (bW_ _ _ _ _).depth≤d;rw[hr.1];exact hd b hbm) hr.2.1 (fun x hx=>by
    rcases pJ_ b.depth t.name (aO_ n') b (aC_ _) hbs x hx with ⟨rfl,_⟩|⟨hx',e⟩
    ·exact .inr (by simp)
    ·rcases hfb x hx' with h|h|h
     ·exact .inl h
     ·exact .inr (by simp[h])
     ·exact absurd h e) (fun x hx=>by
    rcases List.mem_cons.1 hx with rfl|hx
    ·exact⟨n',by omega,rfl⟩
    ·obtain⟨j,hj,e⟩:=he x hx
     exact⟨j,by omega,e⟩)
   rw[hdb] at e1;rw[List.map_cons,List.map_nil,cnL,cnL,e1];rfl
  ·by_cases h1:t.kind=1
   ·obtain⟨hn0,ha⟩:=hs.k1 h1
    rw[cc_,if_neg h5,a1_ _ _ h1,hn0,ie_,ha];cases t with
    | mk k s m args =>
     simp only[Ty.kind,Ty.n,Ty.args,Ty.name] at *;subst h1 hn0 ha;cases hi:ixN env s with
     | none=>rfl
     | some i =>
      have:=gz_ env s i hi;simp only[an_];rw[List.getD_eq_getElem?_getD,this];rfl
   ·have hk:=hs.kind
    rw[cc_,if_neg h5,az_ _ _ h1 h5,fm_ _ _ _ _ _ _ _ _ (by omega) h5];rw[hl t.args env n (fun a ha=>⟨hd a ha,hs.args a ha,fun x hx=>hf x ((aD_ _ _).2 (.inr ⟨⟨a,ha,hx⟩,fun e=>h5 e.1⟩))⟩) he];rfl
theorem el_ (t:Ty)(hs:Std t):dl_ t=(cnT aO_ (ai_ t) [] 0 (dbT [] t)).1:=by
 unfold dl_;rw[rZ_ (ai_ t) t.depth t [] 0 (aC_ _) hs (fun x hx=>.inl ((bm_ x t).2 hx)) (fun x hx=>by cases hx)]
theorem st_ (env:List ByteArray)(k:Int)(s:ByteArray)(n:Int)(args:List Ty)(h1:k≠1)(h5:k≠5):dbT env (.mk k s n args)=.mk k s n (args.map (dbT env)):=by
 rw[dbT,if_neg h1,if_neg h5,jP_]
theorem db_cn (f:Nat→ByteArray)(hf:∀ a b,f a=f b→a=b)(free:List ByteArray):∀ (t:Ty) (env env':List ByteArray) (k:Nat),env'.length=env.length→Std t→(∀ x,fvT x t→x∉env→x∈free)→(∀ x∈env',x∉free∧∃ j,j<k∧x=f j)→env'.Nodup →
  dbT env' (cnT f free env' k (dbT env t)).1=dbT env t:=by
 intro t
 induction t using Ty.ind with
 | h t ih =>
  have hl:∀ (l:List Ty) (env env':List ByteArray) (k:Nat),(∀ a∈l,∀ (env env':List ByteArray) (k:Nat),env'.length=env.length→Std a→(∀ x,fvT x a→x∉env→x∈free)→(∀ x∈env',x∉free∧∃ j,j<k∧x=f j)→env'.Nodup→dbT env' (cnT f free env' k (dbT env a)).1=dbT env a) →
    env'.length=env.length→(∀ a∈l,Std a∧∀ x,fvT x a→x∉env→x∈free)→(∀ x∈env',x∉free∧∃ j,j<k∧x=f j)→env'.Nodup→(cnL f free env' k (l.map (dbT env))).1.map (dbT env')=l.map (dbT env):=by
   intro l
   induction l with
   | nil=>intro env env' k _ _ _ _ _;simp[cnL]
   | cons a l ihl =>
    intro env env' k hi h1 h2 h3 h4;rw[List.map_cons,cnL,List.map_cons];rw[hi a (by simp) env env' k h1 (h2 a (by simp)).1 (h2 a (by simp)).2 h3 h4];rw[ihl env env' _ (fun b hb=>hi b (by simp[hb])) h1 (fun b hb=>h2 b (by simp[hb])) (fun x hx=>⟨(h3 x hx).1,by
     obtain⟨j,hj,e⟩:=(h3 x hx).2;have:=nt_ f free (dbT env a) env' k;exact⟨j,by omega,e⟩⟩) h4]
  intro env env' k h1 hs h2 h3 h4
  by_cases h5:t.kind=5
  ·rw[aK_ _ _ h5,q5_,aK_ _ _ rfl]
   have hsp:=cv_ f hf free k;have hle:k≤nx f free k:=hsp.1;have hnf:f (nx f free k)∉free:=(ct_ _ _).1 hsp.2.2.2;show Ty.mk 5 emp 0 ((cnL f free (f (nx f free k) :: env') (nx f free k+1) (t.args.map (dbT (t.name :: env)))).1.map (dbT (f (nx f free k) :: env')))=_;generalize nx f free k=k' at *;congr 1;refine hl t.args (t.name :: env) (f k' :: env') (k'+1) ih (by simp[h1]) (fun a ha=>⟨hs.args a ha,fun x hx hxe=>?_⟩) (fun x hx=>?_) ?_
   ·simp only[List.mem_cons,not_or] at hxe
    exact h2 x ((aD_ _ _).2 (.inr ⟨⟨a,ha,hx⟩,fun e=>hxe.1 e.2.symm⟩)) hxe.2
   ·rcases List.mem_cons.1 hx with rfl|hx
    ·exact⟨hnf,k',by omega,rfl⟩
    ·obtain⟨j,hj,e⟩:=(h3 x hx).2
     exact⟨(h3 x hx).1,j,by omega,e⟩
   ·rw[List.nodup_cons]
    refine⟨fun hx=>?_,h4⟩;obtain⟨j,hj,e⟩:=(h3 _ hx).2;have:=hf _ _ e;omega
  ·by_cases h1':t.kind=1
   ·obtain⟨hn0,ha⟩:=hs.k1 h1'
    rw[a1_ _ _ h1',hn0,ie_];unfold dC_;cases hi:ixN env t.name with
    | none =>
     simp only;rw[a1_ _ _ rfl];unfold dC_;have hx:t.name∉env':=fun hx=>(h3 _ hx).1 (h2 _ ((aD_ _ _).2 (.inl ⟨h1',rfl⟩)) ((dh_ _ _).1 hi));show (match ixN env' t.name with|some i=>_|none=>_)=_;rw[(dh_ _ _).2 hx];rfl
    | some i =>
     simp only;rw[a1_ _ _ rfl];unfold dC_;have hg:=gz_ _ _ _ hi;have hlt:i<env'.length:=by
      rw[h1];exact (List.getElem?_eq_some_iff.1 hg).1
     show (match ixN env' (env'.getD i emp) with|some i=>_|none=>_)=_;rw[lt_ env' _ i h4 (by rw[List.getD_eq_getElem?_getD,List.getElem?_eq_getElem hlt];rfl)]
   ·have hk:=hs.kind
    rw[az_ _ _ h1' h5,fm_ _ _ _ _ _ _ _ _ (by omega) h5,st_ _ _ _ _ _ h1' h5];congr 1;exact hl t.args env env' k ih h1 (fun a ha=>⟨hs.args a ha,fun x hx=>h2 x ((aD_ _ _).2 (.inr ⟨⟨a,ha,hx⟩,fun e=>h5 e.1⟩))⟩) h3 h4
theorem kK_ (t:Ty)(hs:Std t):dbT [] (dl_ t)=dbT [] t:=by
 rw[el_ t hs];exact db_cn aO_ (fun _ _=>dv_) (ai_ t) t [] [] 0 rfl hs (fun x hx _=>(bm_ x t).2 hx) (fun x hx=>by cases hx) List.nodup_nil
def df_ (out:List ByteArray)(x:Ty)(_:List ByteArray):List ByteArray:=if x.kind==1&&!dM_ out x.name then out++[x.name] else out
theorem pT_ (t:Ty):Std t→∀ (env ns:List ByteArray) (out:List ByteArray),bZ_ ao_ t out env=bZ_ df_ (dbT env t) out ns:=by
 induction t using Ty.ind with
 | h t ih =>
  intro hs env ns out;have hl:∀ (l:List Ty) (env ns:List ByteArray) (out:List ByteArray),(∀ a∈l,∀ (env ns:List ByteArray) (out:List ByteArray),bZ_ ao_ a out env=bZ_ df_ (dbT env a) out ns)→bB_ ao_ l out env=bB_ df_ (l.map (dbT env)) out ns:=by
   intro l
   induction l with
   | nil=>intro env ns out _;rfl
   | cons a l ihl =>
    intro env ns out h;rw[List.map_cons,bB_,bB_,h a (by simp) env ns out];exact ihl env ns _ fun b hb=>h b (by simp[hb])
  have ih':=fun a ha=>ih a ha (hs.args a ha);rw[cd_,cd_]
  by_cases h5:t.kind=5
  ·have h1:(t.kind==1)=false:=by rw[h5];rfl
   rw[if_pos h5,aK_ _ _ h5];show bB_ ao_ t.args (ao_ out t env) (t.name :: env)=bB_ df_ (t.args.map _) (df_ out _ _) _;have e1:ao_ out t env=out:=by unfold ao_;rw[h1];simp
   have e2:∀ a b,df_ out (Ty.mk 5 emp 0 a) b=out:=fun a b=>by unfold df_;rw[if_neg];simp[Ty.kind]
   rw[e1,e2];exact hl _ _ _ _ ih'
  ·rw[if_neg h5]
   by_cases h1:t.kind=1
   ·obtain⟨hn0,ha⟩:=hs.k1 h1
    rw[a1_ _ _ h1,ha];unfold dC_;cases hi:ixN env t.name with
    | none =>
     show ao_ out t env=df_ out (Ty.mk 1 t.name t.n []) ns;unfold ao_ df_;rw[h1,(ct_ _ _).2 ((dh_ _ _).1 hi)];rfl
    | some i =>
     show ao_ out t env=df_ out (Ty.mk 6 emp i []) ns;unfold ao_ df_;have:dM_ env t.name=true:=by rw[b7_];exact List.mem_of_getElem? (gz_ _ _ _ hi)
     rw[this];simp[Ty.kind]
   ·rw[az_ _ _ h1 h5]
    have e1:ao_ out t env=out:=by unfold ao_;rw[if_neg];simp[h1]
    have e2:∀ a b,df_ out (Ty.mk t.kind t.name t.n a) b=out:=fun a b=>by
     unfold df_;rw[if_neg];show ¬ ((t.kind==1)&&_)=true;rw[beq_eq_false_iff_ne.2 h1];simp
    rw[e1,e2];exact hl _ _ _ _ ih'
theorem ng_ (t:Ty)(hs:Std t):ai_ t=bZ_ df_ (dbT [] t) [] []:=pT_ t hs [] [] []
theorem m9_ (t:Ty):Std t→∀ (env ns ns':List ByteArray) (out:List Int),bZ_ aE_ t out ns=bZ_ aE_ (dbT env t) out ns':=by
 induction t using Ty.ind with
 | h t ih =>
  intro hs env ns ns' out;have hl:∀ (l:List Ty) (env ns ns':List ByteArray) (out:List Int),(∀ a∈l,∀ (env ns ns':List ByteArray) (out:List Int),bZ_ aE_ a out ns=bZ_ aE_ (dbT env a) out ns')→bB_ aE_ l out ns=bB_ aE_ (l.map (dbT env)) out ns':=by
   intro l
   induction l with
   | nil=>intro env ns ns' out _;rfl
   | cons a l ihl =>
    intro env ns ns' out h;rw[List.map_cons,bB_,bB_,h a (by simp) env ns ns' out];exact ihl env ns ns' _ fun b hb=>h b (by simp[hb])
  have ih':=fun a ha=>ih a ha (hs.args a ha);rw[cd_,cd_]
  by_cases h5:t.kind=5
  ·have e1:aE_ out t ns=out:=by unfold aE_;rw[if_neg];simp[h5]
   rw[aK_ _ _ h5,e1];exact hl _ _ _ _ _ ih'
  ·by_cases h1:t.kind=1
   ·obtain⟨hn0,ha⟩:=hs.k1 h1
    have e1:aE_ out t ns=out:=by unfold aE_;rw[if_neg];simp[h1]
    rw[a1_ _ _ h1,ha,e1];unfold dC_;cases hi:ixN env t.name<;>rfl
   ·rw[az_ _ _ h1 h5]
    exact hl _ _ _ _ _ ih'
theorem oR_ (t:Ty)(hs:Std t):ap_ t=ap_ (dbT [] t):=m9_ t hs [] [] [] []
theorem cJ_ (t:Ty):Std t→∀ env:List ByteArray,(dbT env t).size=t.size:=by
 induction t using Ty.ind with
 | h t ih =>
  intro hs env
  by_cases h5:t.kind=5
  ·rw[aK_ _ _ h5,Ty.size_eq,t.size_eq]
   show af_ (t.args.map _)+1=_;rw[e4_ _ _ fun a ha=>ih a ha (hs.args a ha) _]
  ·by_cases h1:t.kind=1
   ·rw[a1_ _ _ h1,t.size_eq,(hs.k1 h1).2]
    unfold dC_;cases ixN env t.name<;>rfl
   ·rw[az_ _ _ h1 h5,Ty.size_eq,t.size_eq]
    show af_ (t.args.map _)+1=_;rw[e4_ _ _ fun a ha=>ih a ha (hs.args a ha) _]
end Go.Proofs.YtjecnionbjlncaaGreatDoor.Tp

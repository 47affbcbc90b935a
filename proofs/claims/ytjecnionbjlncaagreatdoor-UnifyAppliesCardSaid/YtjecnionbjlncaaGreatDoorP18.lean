/- Packed. -/
import Derived.Test.YtjecnionbjlncaaGreatDoorP17
set_option maxRecDepth 100000
set_option maxHeartbeats 6400000
namespace Go.Proofs.YtjecnionbjlncaaGreatDoor.Tp
section
def cg_:Nat→List ByteArray→Nat→Ty→Ty × Nat
 | 0,_,n,t=>(t,n)
 | d+1,free,n,t =>
  if t.kind=5 then (bp_ (bX_ (aP_ (b7_ free n)) (cb_ t.name (aP_ (b7_ free n)) (cr_ t))) (aq_ (cg_ d free) (b7_ free n+1) [cb_ t.name (aP_ (b7_ free n)) (cr_ t)]).1,
   (aq_ (cg_ d free) (b7_ free n+1) [cb_ t.name (aP_ (b7_ free n)) (cr_ t)]).2)
  else (bp_ t (aq_ (cg_ d free) n t.args).1,(aq_ (cg_ d free) n t.args).2)
def cf_ (t:Ty):Ty:=(cg_ t.depth (af_ t) 0 t).1
theorem eh_ (n:Nat)(h:n≤9223372036854775807):(aP_ n).size≤64∧1≤(aP_ n).size:=by
 unfold aP_;rw[ByteArray.size_append];have h1:=Lib.itoa_length_le (n:Int) (by omega) (by omega);have h3:(⟨#[120]⟩:ByteArray).size=1:=rfl;have h4:(ab_ (Lib.itoa (n:Int))).size=(Lib.itoa (n:Int)).length:=by simp[ab_,ByteArray.size]
 omega
theorem ku_ (free:List ByteArray)(n:Nat):n≤b7_ free n∧b7_ free n≤n+free.length :=
 ⟨(bz_ aP_ (fun _ _=>dp_) free n).1,(bz_ aP_ (fun _ _=>dp_) free n).2.1⟩
theorem pc_ {a b c q n m:Nat}(h:n+(a+b)*q≤c)(hm:m≤n+a*q):m+b*q≤c:=by
 rw[Nat.add_mul] at h;omega
theorem ha_ (d:Nat) (free:List ByteArray) (q:Nat) (ih:∀ (t:Ty) (n:Nat),t.depth≤d→bF_ t→t.size≤4499999999224→n+t.size*q≤4611686018427387904 →
   n≤(cg_ d free n t).2∧(cg_ d free n t).2≤n+t.size*q∧(cg_ d free n t).1.depth=t.depth∧(cg_ d free n t).1.size=t.size∧bF_ (cg_ d free n t).1∧(cg_ d free n t).1.kind=t.kind) :
  ∀ (l:List Ty) (n:Nat),(∀ t∈l,t.depth≤d∧bF_ t∧t.size≤4499999999224)→n+aj_ l*q≤4611686018427387904 →
   n≤(aq_ (cg_ d free) n l).2∧(aq_ (cg_ d free) n l).2≤n+aj_ l*q∧aA_ (aq_ (cg_ d free) n l).1=aA_ l∧aj_ (aq_ (cg_ d free) n l).1=aj_ l∧∀ t∈(aq_ (cg_ d free) n l).1,bF_ t:=by
 intro l
 induction l with
 | nil=>intro n _ _;exact⟨aD_ _,by simp[aq_],rfl,rfl,fun t ht=>by cases ht⟩
 | cons t l ihl =>
  intro n h hb;rw[aj_] at hb;obtain⟨a1,a2,a3⟩:=h t (by simp);have hb1:n+t.size*q≤4611686018427387904:=by rw[Nat.add_mul] at hb;omega
  obtain⟨c1,c2,c3,c4,c5,_⟩:=ih t n a1 a2 a3 hb1;obtain⟨e1,e2,e3,e4,e5⟩:=ihl (cg_ d free n t).2 (fun u hu=>h u (by simp[hu])) (pc_ hb c2);simp only[aq_];refine⟨by omega,?_,by rw[aA_,aA_,c3,e3],by rw[aj_,aj_,c4,e4],?_⟩
  ·rw[aj_,Nat.add_mul];omega
  ·intro u hu
   rcases List.mem_cons.1 hu with rfl|hu
   ·exact c5
   ·exact e5 u hu
theorem cT_ (fr to:ByteArray)(t:Ty)(hg:bF_ t)(hto:to.size≤64)(hs:t.size≤4499999999224) :
  (cb_ fr to t).depth=t.depth∧(cb_ fr to t).size=t.size∧bF_ (cb_ fr to t)∧(cb_ fr to t).kind=t.kind:=iI_ t.depth fr to t (aD_ _) hg hto hs
theorem bq_ {t:Ty}(h:bF_ t):∀ a∈t.args,bF_ a:=fun a ha=>⟨((a4_ t).1 h.1).2 a ha,((cd_ t).1 h.2).2 a ha⟩
theorem fa_ {t:Ty}(h:bF_ t)(l:List Ty)(hl:l.length=t.args.length)(hg:∀ a∈l,bF_ a):bF_ (bp_ t l):=by
 refine⟨(a4_ _).2 ⟨?_,fun a ha=>(hg a ha).1⟩,(cd_ _).2 ⟨((cd_ t).1 h.2).1,fun a ha=>(hg a ha).2⟩⟩;have:=((a4_ t).1 h.1).1;show (t.kind=1∧l=[]∨t.kind=2∧l=[]∧_∨t.kind=3∨t.kind=4∧l.length=2∨t.kind=5∧l.length=1);rw[hl];have hn:t.args=[]→l=[]:=fun e=>List.eq_nil_of_length_eq_zero (by rw[hl,e];rfl)
 rcases this with h|h|h|h|h
 ·exact .inl ⟨h.1,hn h.2⟩
 ·exact .inr (.inl ⟨h.1,hn h.2.1,h.2.2⟩)
 ·exact .inr (.inr (.inl h))
 ·exact .inr (.inr (.inr (.inl h)))
 ·exact .inr (.inr (.inr (.inr h)))
theorem ep_ {s:ByteArray}(h1:1≤s.size)(h2:s.size≤64){x:Ty}(hx:bF_ x):bF_ (bX_ s x) :=
 ⟨(a4_ _).2 ⟨.inr (.inr (.inr (.inr ⟨rfl,rfl⟩))),fun a ha=>by obtain rfl:=List.mem_singleton.1 ha;exact hx.1⟩,(cd_ _).2 ⟨⟨fun _=>h1,h2⟩,fun a ha=>by obtain rfl:=List.mem_singleton.1 ha;exact hx.2⟩⟩
theorem e5_:∀ (d:Nat) (free:List ByteArray) (t:Ty) (n:Nat),t.depth≤d→bF_ t→t.size≤4499999999224→n+t.size*(free.length+1)≤4611686018427387904 →
  n≤(cg_ d free n t).2∧(cg_ d free n t).2≤n+t.size*(free.length+1)∧(cg_ d free n t).1.depth=t.depth∧(cg_ d free n t).1.size=t.size∧bF_ (cg_ d free n t).1∧(cg_ d free n t).1.kind=t.kind:=by
 intro d free
 induction d with
 | zero=>intro t n h;rw[t.depth_eq] at h;omega
 | succ d ih =>
  intro t n h hg hs hb;have hL:=ha_ d free (free.length+1) ih;have hds:∀ a∈t.args,a.depth≤d∧a.size≤4499999999224:=fun a ha=>by
   have:=aF_ _ ha;have:=a6_ _ ha;rw[t.depth_eq] at h;rw[t.size_eq] at hs;omega
  rw[t.size_eq,Nat.add_mul,Nat.one_mul] at hb;rw[cg_]
  split
  ·next hk =>
   obtain⟨x,hx,hx0⟩:=iq_ hg.1 hk;have hx1:x∈t.args:=by rw[hx];simp
   have hnb:=ku_ free n;have hxs:=eh_ (b7_ free n) (by omega);rw[hx0];obtain⟨a1,a2,a3,a4⟩:=cT_ t.name (aP_ (b7_ free n)) x (bq_ hg x hx1) hxs.1 (hds x hx1).2;have hsz:aj_ t.args=x.size:=by rw[hx];simp[aj_]
   have hb2:b7_ free n+1+aj_ [cb_ t.name (aP_ (b7_ free n)) x]*(free.length+1)≤4611686018427387904:=by
    have hz:aj_ [cb_ t.name (aP_ (b7_ free n)) x]=aj_ t.args:=by rw[aj_,aj_,a2,hsz];rfl
    rw[hz];omega
   obtain⟨e1,e2,e3,e4,e5⟩:=hL [cb_ t.name (aP_ (b7_ free n)) x] (b7_ free n+1) (fun u hu=>by obtain rfl:=List.mem_singleton.1 hu;exact⟨by rw[a1];exact (hds x hx1).1,a3,by rw[a2];exact (hds x hx1).2⟩) hb2;have e2':(aq_ (cg_ d free) (b7_ free n+1) [cb_ t.name (aP_ (b7_ free n)) x]).2≤b7_ free n+1+x.size*(free.length+1):=by
    have:aj_ [cb_ t.name (aP_ (b7_ free n)) x]=x.size:=by rw[aj_,aj_,a2];rfl
    rw[this] at e2;exact e2
   refine⟨by omega,?_,?_,?_,?_,hk.symm⟩
   ·rw[t.size_eq,hsz,Nat.add_mul,Nat.one_mul];omega
   ·rw[Ty.depth_eq,t.depth_eq,hx];show aA_ (aq_ _ _ _).1+1=_;rw[e3,aA_,aA_,aA_,aA_,a1]
   ·rw[Ty.size_eq,t.size_eq,hx];show aj_ (aq_ _ _ _).1+1=_;rw[e4,aj_,aj_,aj_,aj_,a2]
   ·exact fa_ (ep_ hxs.2 hxs.1 a3) _ (by rw[eo_];rfl) e5
  ·obtain⟨e1,e2,e3,e4,e5⟩:=hL t.args n (fun u hu=>⟨(hds u hu).1,bq_ hg u hu,(hds u hu).2⟩) (by omega)
   refine⟨e1,?_,?_,?_,?_,rfl⟩
   ·rw[t.size_eq,Nat.add_mul,Nat.one_mul];omega
   ·rw[Ty.depth_eq,t.depth_eq];show aA_ (aq_ _ _ _).1+1=_;rw[e3]
   ·rw[Ty.size_eq,t.size_eq];show aj_ (aq_ _ _ _).1+1=_;rw[e4]
   ·exact fa_ hg _ (eo_ _ _ _) e5
def dS_ (nm:ByteArray)(t:Ty):Ty:=bX_ nm (cb_ t.name nm (cr_ t))
def ee_:Nat→ByteArray→Ty→Ty→Ty
 | 0,_,_,t=>t
 | d+1,nm,u,t =>
  if t.kind==5&&eqN t.name nm then t
  else if t.kind==1&&eqN t.name nm then u
  else if t.kind==5&&cx_ (af_ u) t.name then
   bp_ (dS_ (ba_ t.name (af_ u++af_ (cr_ t)++[t.name,nm])) t) ((dS_ (ba_ t.name (af_ u++af_ (cr_ t)++[t.name,nm])) t).args.map (ee_ d nm u))
  else bp_ t (t.args.map (ee_ d nm u))
def dW_:Nat→Ty→List ByteArray→(Ty→Bool)→Ty→Ty
 | 0,_,_,_,t=>t
 | d+1,u,free,is,t =>
  if is t then u
  else if t.kind==5&&cx_ free t.name then
   bp_ (dS_ (ba_ t.name (free++af_ (cr_ t)++[t.name])) t) ((dS_ (ba_ t.name (free++af_ (cr_ t)++[t.name])) t).args.map (dW_ d u free is))
  else bp_ t (t.args.map (dW_ d u free is))
def bL_ (n:Int)(x:Ty):Bool:=x.kind==2&&x.n==n
def ii_ (nm:ByteArray)(u t:Ty):Ty:=ee_ t.depth nm u t
def co_ (n:Int)(u t:Ty):Ty:=dW_ t.depth u (af_ u) (bL_ n) t
theorem n2_ (d:Nat)(nm:ByteArray)(u t:Ty)(hk:t.kind=5)(hn:t.name=nm):ee_ (d+1) nm u t=t:=by
 rw[ee_,if_pos (by rw[hk,hn,(aK_ _ _).2 rfl];rfl)]
theorem pO_ (d:Nat)(nm:ByteArray)(u t:Ty)(hk:t.kind=1)(hn:t.name=nm):ee_ (d+1) nm u t=u:=by
 rw[ee_,if_neg (by rw[hk];simp),if_pos (by rw[hk,hn,(aK_ _ _).2 rfl];rfl)]
theorem jf_ (d:Nat)(nm:ByteArray)(u t:Ty)(h1:t.kind=1→t.name≠nm)(h5:t.kind=5→t.name≠nm∧cx_ (af_ u) t.name=false):ee_ (d+1) nm u t=bp_ t (t.args.map (ee_ d nm u)):=by
 rw[ee_,if_neg,if_neg,if_neg]
 ·intro h;simp only[Bool.and_eq_true,beq_iff_eq] at h;rw[(h5 h.1).2] at h;exact absurd h.2 (by simp)
 ·intro h;simp only[Bool.and_eq_true,beq_iff_eq] at h;exact h1 h.1 ((aK_ _ _).1 h.2)
 ·intro h;simp only[Bool.and_eq_true,beq_iff_eq] at h;exact (h5 h.1).1 ((aK_ _ _).1 h.2)
theorem pP_ (d:Nat)(nm:ByteArray)(u t x:Ty)(hk:t.kind=5)(hne:t.name≠nm)(hf:cx_ (af_ u) t.name=true)(hx:cr_ t=x) :
  ee_ (d+1) nm u t=bp_ (bX_ (ba_ t.name (af_ u++af_ x++[t.name,nm])) (cb_ t.name (ba_ t.name (af_ u++af_ x++[t.name,nm])) x)) [ee_ d nm u (cb_ t.name (ba_ t.name (af_ u++af_ x++[t.name,nm])) x)]:=by
 rw[ee_,if_neg,if_neg (by rw[hk];simp),if_pos (by rw[hk,hf];rfl)]
 ·unfold dS_;rw[hx];rfl
 ·intro h;simp only[Bool.and_eq_true] at h;exact hne ((aK_ _ _).1 h.2)
theorem q1_ (d:Nat)(u:Ty)(free:List ByteArray)(is:Ty→Bool)(t:Ty)(h:is t=true):dW_ (d+1) u free is t=u:=by rw[dW_,if_pos h]
theorem mJ_ (d:Nat)(u:Ty)(free:List ByteArray)(is:Ty→Bool)(t:Ty)(h:is t=false)(h5:t.kind=5→cx_ free t.name=false):dW_ (d+1) u free is t=bp_ t (t.args.map (dW_ d u free is)):=by
 rw[dW_,if_neg (by rw[h];simp),if_neg];intro h;simp only[Bool.and_eq_true,beq_iff_eq] at h;rw[h5 h.1] at h;exact absurd h.2 (by simp)
theorem oV_ (d:Nat)(u:Ty)(free:List ByteArray)(is:Ty→Bool)(t x:Ty)(h:is t=false)(hk:t.kind=5)(hf:cx_ free t.name=true)(hx:cr_ t=x) :
  dW_ (d+1) u free is t=bp_ (bX_ (ba_ t.name (free++af_ x++[t.name])) (cb_ t.name (ba_ t.name (free++af_ x++[t.name])) x)) [dW_ d u free is (cb_ t.name (ba_ t.name (free++af_ x++[t.name])) x)]:=by
 rw[dW_,if_neg (by rw[h];simp),if_pos (by rw[hk,hf];rfl)];unfold dS_;rw[hx];rfl
end
section
open Go.RowKit
theorem oI_:∀ d:Nat,gK_ d:=by
 intro d
 induction d with
 | zero=>intro fr to t S a c W hg h;rw[t.depth_eq] at h;omega
 | succ d ih =>
  intro fr to t S a c W hg hd hs hfr hto hA hS hT
  by_cases hn:t.name=fr
  ·by_cases h1:t.kind=1
   ·exact qU_ d fr to t S a c W h1 hn hA hS
   ·by_cases h5:t.kind=5
    ·exact oH_ d fr to t S a c W h5 hn hA hS
    ·exact ke_ d ih fr to t S a c W (fun h=>absurd h h1) (fun h=>absurd h h5) hg hd hs hfr hto hA hS hT
  ·by_cases h5:t.kind=5∧t.name=to
   ·exact qV_ d ih fr to t S a c W h5.1 h5.2 hn hg hd hs hfr hto hA hS hT
   ·exact ke_ d ih fr to t S a c W (fun _=>hn) (fun h=>⟨hn,fun e=>h5 ⟨h,e⟩⟩) hg hd hs hfr hto hA hS hT
theorem jz_ (fr to:ByteArray)(t:Ty)(S:Nat→Prop)(a:OA_)(c:Nat)(W:World)(hg:bF_ t)(hs:t.size≤4499999999224)(hfr:fr.size≤64)(hto:to.size≤64)(hA:aa_ S W (.slice a t.args.length c) t.args)(hS:∀ b,S b→b<W.heap.size)(hT:Tab W) :
  Calls Tryz.prog 75 #[tv t a c,.string fr,.string to] W (TP S (cb_ fr to t) W):=oI_ t.depth fr to t S a c W hg (aD_ _) hs hfr hto hA hS hT
def eU_ (d:Nat):Prop:=∀ (nm:ByteArray) (u t:Ty) (S:Nat→Prop) (a ua:OA_) (c uc:Nat) (W:World),bF_ t→bF_ u→t.depth≤d→t.size≤50000000000→u.size≤50000000000 →
 aa_ S W (.slice a t.args.length c) t.args→aa_ S W (.slice ua u.args.length uc) u.args→(∀ b,S b→b<W.heap.size)→Tab W→Calls Tryz.prog 101 #[tv t a c,.string nm,tv u ua uc] W (TP S (ee_ d nm u t) W)
theorem lS_ (args:Array Value)(w:World):(callFunc 136 args).run Tryz.prog w=.ok (.enter 136 args) w :=
 enters_of Tryz.func136 (by kernel_rfl) rfl args w
theorem pQ_ (d:Nat)(ih:eU_ d)(nm:ByteArray)(u:Ty)(bf bu:Nat)(t:Ty)(S:Nat→Prop)(a ua:OA_)(c uc:Nat)(W:World)(hf:W.heap[bf]? = some (.cells #[.string nm] 9 (0,0)))(hu:B4 W bu (.int .i64 u.kind) (.string u.name) (.int .i64 u.n) (.slice ua u.args.length uc))(hg:bF_ t)(hgu:bF_ u)(hd:t.depth≤d)(hs:t.size≤50000000000)(hsu:u.size≤50000000000)
  (hA:aa_ S W (.slice a t.args.length c) t.args) (hU:aa_ S W (.slice ua u.args.length uc) u.args) (hS:∀ b,S b→b<W.heap.size) (hT:Tab W):Calls Tryz.prog 136 #[tv t a c,.pointer (some ⟨bf,0,none⟩),.pointer (some ⟨bu,0,none⟩)] W (TP S (ee_ d nm u t) W):=by
 have hz:=ar_ W (.cells #[.int .i64 t.kind,.string t.name,.int .i64 t.n,.slice a t.args.length c] 37);have hz2:=hz.alloc hz.size (.cells #[.int .i64 0,.string ⟨#[]⟩,.int .i64 0,.slice none 0 0] 37);have k4:=(B4.new W (.int .i64 t.kind) (.string t.name) (.int .i64 t.n) (.slice a t.args.length c)).low (ar_ _ (.cells #[.int .i64 0,.string ⟨#[]⟩,.int .i64 0,.slice none 0 0] 37));have q4:B4 ((W.alloc (.cells #[.int .i64 t.kind,.string t.name,.int .i64 t.n,.slice a t.args.length c] 37)).alloc (.cells #[.int .i64 0,.string ⟨#[]⟩,.int .i64 0,.slice none 0 0] 37)) (W.heap.size+1) (.int .i64 0) (.string ⟨#[]⟩) (.int .i64 0) (.slice none 0 0):=al_ (by simp);obtain⟨c0,c1,c2,c3⟩:=k4.c03;have e0:=(hz2.cell (p:=⟨bf,0,none⟩) (Array.getElem?_eq_some_iff.1 hf).1).trans (cell_of_row _ _ 0 _ _ _ hf);have hu4:=hu.low hz2;obtain⟨e1,e2,e3,e4⟩:=hu4.c03;have C:=hid (ih nm u t S a ua c uc _ hg hgu hd hs hsu (hA.keep fun b hb=>hz2.block b (hS b hb)) (hU.keep fun b hb=>hz2.block b (hS b hb)) (fun b hb=>aZ_ (hS b hb) hz2.size) (ak_ hT hz2));have HZ2:=hid hz2;have HS:=hid hS;have Q4:=hid q4;unfold tv at *;clear hz hz2 k4 q4 hf hu hu4 hA hU hS hT hg hgu hd hs hsu;go_enter Tryz.func136,Tryz.ntmps136;go_wp2_with fail;refine C.out.mono ?_;rintro e W2 ⟨a2,c2,rfl,hA2,hb2⟩;have q4:=Q4.out.low hb2;obtain⟨r0,r1,r2,r3⟩:=q4.c03;obtain⟨s0,s1,s2,s3⟩:=q4.f03;have HA2:=hid hA2;have HB2:=hid hb2;clear hA2 hb2;unfold tv;generalize ee_ d nm u t=y at *;go_wp2;have q5:=B4.set4 q4 (.int .i64 y.kind) (.string y.name) (.int .i64 y.n) (.slice a2 y.args.length c2);exact bodyPost_ret (v:=tv y a2 c2) (by simp[results,Tryz.results136,go_sem,tv,q5.c0,q5.c1,q5.c2,q5.c3]) rfl (TP.stored HS.out HZ2.out HA2.out HB2.out (by omega) (by simp))
end
end Go.Proofs.YtjecnionbjlncaaGreatDoor.Tp

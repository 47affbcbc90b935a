/- Packed. -/
import Derived.Test.YtjecnionbjlncaaGreatDoorP17
set_option maxRecDepth 100000
set_option maxHeartbeats 6400000
namespace Go.Proofs.YtjecnionbjlncaaGreatDoor.Tp
section
def cc_:Nat→List ByteArray→Nat→Ty→Ty × Nat
 | 0,_,n,t=>(t,n)
 | d+1,free,n,t =>
  if t.kind=5 then (bb_ (bR_ (aO_ (b3_ free n)) (b9_ t.name (aO_ (b3_ free n)) (cm_ t))) (an_ (cc_ d free) (b3_ free n+1) [b9_ t.name (aO_ (b3_ free n)) (cm_ t)]).1,
   (an_ (cc_ d free) (b3_ free n+1) [b9_ t.name (aO_ (b3_ free n)) (cm_ t)]).2)
  else (bb_ t (an_ (cc_ d free) n t.args).1,(an_ (cc_ d free) n t.args).2)
def dl_ (t:Ty):Ty:=(cc_ t.depth (ai_ t) 0 t).1
theorem eq_ (n:Nat)(h:n≤9223372036854775807):(aO_ n).size≤64∧1≤(aO_ n).size:=by
 unfold aO_;rw[ByteArray.size_append];have h1:=Lib.itoa_length_le (n:Int) (by omega) (by omega);have h3:(⟨#[120]⟩:ByteArray).size=1:=rfl;have h4:(ab_ (Lib.itoa (n:Int))).size=(Lib.itoa (n:Int)).length:=by simp[ab_,ByteArray.size]
 omega
theorem ku_ (free:List ByteArray)(n:Nat):n≤b3_ free n∧b3_ free n≤n+free.length :=
 ⟨(cv_ aO_ (fun _ _=>dv_) free n).1,(cv_ aO_ (fun _ _=>dv_) free n).2.1⟩
theorem oO_ {a b c q n m:Nat}(h:n+(a+b)*q≤c)(hm:m≤n+a*q):m+b*q≤c:=by
 rw[Nat.add_mul] at h;omega
theorem hr_ (d:Nat) (free:List ByteArray) (q:Nat) (ih:∀ (t:Ty) (n:Nat),t.depth≤d→aY_ t→t.size≤4499999999224→n+t.size*q≤4611686018427387904 →
   n≤(cc_ d free n t).2∧(cc_ d free n t).2≤n+t.size*q∧(cc_ d free n t).1.depth=t.depth∧(cc_ d free n t).1.size=t.size∧aY_ (cc_ d free n t).1∧(cc_ d free n t).1.kind=t.kind) :
  ∀ (l:List Ty) (n:Nat),(∀ t∈l,t.depth≤d∧aY_ t∧t.size≤4499999999224)→n+af_ l*q≤4611686018427387904 →
   n≤(an_ (cc_ d free) n l).2∧(an_ (cc_ d free) n l).2≤n+af_ l*q∧ar_ (an_ (cc_ d free) n l).1=ar_ l∧af_ (an_ (cc_ d free) n l).1=af_ l∧∀ t∈(an_ (cc_ d free) n l).1,aY_ t:=by
 intro l
 induction l with
 | nil=>intro n _ _;exact⟨aC_ _,by simp[an_],rfl,rfl,fun t ht=>by cases ht⟩
 | cons t l ihl =>
  intro n h hb;rw[af_] at hb;obtain⟨a1,a2,a3⟩:=h t (by simp);have hb1:n+t.size*q≤4611686018427387904:=by rw[Nat.add_mul] at hb;omega
  obtain⟨c1,c2,c3,c4,c5,_⟩:=ih t n a1 a2 a3 hb1;obtain⟨e1,e2,e3,e4,e5⟩:=ihl (cc_ d free n t).2 (fun u hu=>h u (by simp[hu])) (oO_ hb c2);simp only[an_];refine⟨by omega,?_,by rw[ar_,ar_,c3,e3],by rw[af_,af_,c4,e4],?_⟩
  ·rw[af_,Nat.add_mul];omega
  ·intro u hu
   rcases List.mem_cons.1 hu with rfl|hu
   ·exact c5
   ·exact e5 u hu
theorem cY_ (fr to:ByteArray)(t:Ty)(hg:aY_ t)(hto:to.size≤64)(hs:t.size≤4499999999224) :
  (b9_ fr to t).depth=t.depth∧(b9_ fr to t).size=t.size∧aY_ (b9_ fr to t)∧(b9_ fr to t).kind=t.kind:=iN_ t.depth fr to t (aC_ _) hg hto hs
theorem aR_ {t:Ty}(h:aY_ t):∀ a∈t.args,aY_ a:=fun a ha=>⟨((bK_ t).1 h.1).2 a ha,((ci_ t).1 h.2).2 a ha⟩
theorem fc_ {t:Ty}(h:aY_ t)(l:List Ty)(hl:l.length=t.args.length)(hg:∀ a∈l,aY_ a):aY_ (bb_ t l):=by
 refine⟨(bK_ _).2 ⟨?_,fun a ha=>(hg a ha).1⟩,(ci_ _).2 ⟨((ci_ t).1 h.2).1,fun a ha=>(hg a ha).2⟩⟩;have:=((bK_ t).1 h.1).1;show (t.kind=1∧l=[]∨t.kind=2∧l=[]∧_∨t.kind=3∨t.kind=4∧l.length=2∨t.kind=5∧l.length=1);rw[hl];have hn:t.args=[]→l=[]:=fun e=>List.eq_nil_of_length_eq_zero (by rw[hl,e];rfl)
 rcases this with h|h|h|h|h
 ·exact .inl ⟨h.1,hn h.2⟩
 ·exact .inr (.inl ⟨h.1,hn h.2.1,h.2.2⟩)
 ·exact .inr (.inr (.inl h))
 ·exact .inr (.inr (.inr (.inl h)))
 ·exact .inr (.inr (.inr (.inr h)))
theorem ey_ {s:ByteArray}(h1:1≤s.size)(h2:s.size≤64){x:Ty}(hx:aY_ x):aY_ (bR_ s x) :=
 ⟨(bK_ _).2 ⟨.inr (.inr (.inr (.inr ⟨rfl,rfl⟩))),fun a ha=>by obtain rfl:=List.mem_singleton.1 ha;exact hx.1⟩,(ci_ _).2 ⟨⟨fun _=>h1,h2⟩,fun a ha=>by obtain rfl:=List.mem_singleton.1 ha;exact hx.2⟩⟩
theorem gu_:∀ (d:Nat) (free:List ByteArray) (t:Ty) (n:Nat),t.depth≤d→aY_ t→t.size≤4499999999224→n+t.size*(free.length+1)≤4611686018427387904 →
  n≤(cc_ d free n t).2∧(cc_ d free n t).2≤n+t.size*(free.length+1)∧(cc_ d free n t).1.depth=t.depth∧(cc_ d free n t).1.size=t.size∧aY_ (cc_ d free n t).1∧(cc_ d free n t).1.kind=t.kind:=by
 intro d free
 induction d with
 | zero=>intro t n h;rw[t.depth_eq] at h;omega
 | succ d ih =>
  intro t n h hg hs hb;have hL:=hr_ d free (free.length+1) ih;have hds:∀ a∈t.args,a.depth≤d∧a.size≤4499999999224:=fun a ha=>by
   have:=av_ _ ha;have:=bx_ _ ha;rw[t.depth_eq] at h;rw[t.size_eq] at hs;omega
  rw[t.size_eq,Nat.add_mul,Nat.one_mul] at hb;rw[cc_]
  split
  ·next hk =>
   obtain⟨x,hx,hx0⟩:=is_ hg.1 hk;have hx1:x∈t.args:=by rw[hx];simp
   have hnb:=ku_ free n;have hxs:=eq_ (b3_ free n) (by omega);rw[hx0];obtain⟨a1,a2,a3,a4⟩:=cY_ t.name (aO_ (b3_ free n)) x (aR_ hg x hx1) hxs.1 (hds x hx1).2;have hsz:af_ t.args=x.size:=by rw[hx];simp[af_]
   have hb2:b3_ free n+1+af_ [b9_ t.name (aO_ (b3_ free n)) x]*(free.length+1)≤4611686018427387904:=by
    have hz:af_ [b9_ t.name (aO_ (b3_ free n)) x]=af_ t.args:=by rw[af_,af_,a2,hsz];rfl
    rw[hz];omega
   obtain⟨e1,e2,e3,e4,e5⟩:=hL [b9_ t.name (aO_ (b3_ free n)) x] (b3_ free n+1) (fun u hu=>by obtain rfl:=List.mem_singleton.1 hu;exact⟨by rw[a1];exact (hds x hx1).1,a3,by rw[a2];exact (hds x hx1).2⟩) hb2;have e2':(an_ (cc_ d free) (b3_ free n+1) [b9_ t.name (aO_ (b3_ free n)) x]).2≤b3_ free n+1+x.size*(free.length+1):=by
    have:af_ [b9_ t.name (aO_ (b3_ free n)) x]=x.size:=by rw[af_,af_,a2];rfl
    rw[this] at e2;exact e2
   refine⟨by omega,?_,?_,?_,?_,hk.symm⟩
   ·rw[t.size_eq,hsz,Nat.add_mul,Nat.one_mul];omega
   ·rw[Ty.depth_eq,t.depth_eq,hx];show ar_ (an_ _ _ _).1+1=_;rw[e3,ar_,ar_,ar_,ar_,a1]
   ·rw[Ty.size_eq,t.size_eq,hx];show af_ (an_ _ _ _).1+1=_;rw[e4,af_,af_,af_,af_,a2]
   ·exact fc_ (ey_ hxs.2 hxs.1 a3) _ (by rw[ex_];rfl) e5
  ·obtain⟨e1,e2,e3,e4,e5⟩:=hL t.args n (fun u hu=>⟨(hds u hu).1,aR_ hg u hu,(hds u hu).2⟩) (by omega)
   refine⟨e1,?_,?_,?_,?_,rfl⟩
   ·rw[t.size_eq,Nat.add_mul,Nat.one_mul];omega
   ·rw[Ty.depth_eq,t.depth_eq];show ar_ (an_ _ _ _).1+1=_;rw[e3]
   ·rw[Ty.size_eq,t.size_eq];show af_ (an_ _ _ _).1+1=_;rw[e4]
   ·exact fc_ hg _ (ex_ _ _ _) e5
def d2_ (nm:ByteArray)(t:Ty):Ty:=bR_ nm (b9_ t.name nm (cm_ t))
def eo_:Nat→ByteArray→Ty→Ty→Ty
 | 0,_,_,t=>t
 | d+1,nm,u,t =>
  if t.kind==5&&eqN t.name nm then t
  else if t.kind==1&&eqN t.name nm then u
  else if t.kind==5&&dM_ (ai_ u) t.name then
   bb_ (d2_ (a2_ t.name (ai_ u++ai_ (cm_ t)++[t.name,nm])) t) ((d2_ (a2_ t.name (ai_ u++ai_ (cm_ t)++[t.name,nm])) t).args.map (eo_ d nm u))
  else bb_ t (t.args.map (eo_ d nm u))
def d3_:Nat→Ty→List ByteArray→(Ty→Bool)→Ty→Ty
 | 0,_,_,_,t=>t
 | d+1,u,free,is,t =>
  if is t then u
  else if t.kind==5&&dM_ free t.name then
   bb_ (d2_ (a2_ t.name (free++ai_ (cm_ t)++[t.name])) t) ((d2_ (a2_ t.name (free++ai_ (cm_ t)++[t.name])) t).args.map (d3_ d u free is))
  else bb_ t (t.args.map (d3_ d u free is))
def bj_ (n:Int)(x:Ty):Bool:=x.kind==2&&x.n==n
def f6_ (nm:ByteArray)(u t:Ty):Ty:=eo_ t.depth nm u t
def bH_ (n:Int)(u t:Ty):Ty:=d3_ t.depth u (ai_ u) (bj_ n) t
theorem nJ_ (d:Nat)(nm:ByteArray)(u t:Ty)(hk:t.kind=5)(hn:t.name=nm):eo_ (d+1) nm u t=t:=by
 rw[eo_,if_pos (by rw[hk,hn,(aH_ _ _).2 rfl];rfl)]
theorem pi_ (d:Nat)(nm:ByteArray)(u t:Ty)(hk:t.kind=1)(hn:t.name=nm):eo_ (d+1) nm u t=u:=by
 rw[eo_,if_neg (by rw[hk];simp),if_pos (by rw[hk,hn,(aH_ _ _).2 rfl];rfl)]
theorem jg_ (d:Nat)(nm:ByteArray)(u t:Ty)(h1:t.kind=1→t.name≠nm)(h5:t.kind=5→t.name≠nm∧dM_ (ai_ u) t.name=false):eo_ (d+1) nm u t=bb_ t (t.args.map (eo_ d nm u)):=by
 rw[eo_,if_neg,if_neg,if_neg]
 ·intro h;simp only[Bool.and_eq_true,beq_iff_eq] at h;rw[(h5 h.1).2] at h;exact absurd h.2 (by simp)
 ·intro h;simp only[Bool.and_eq_true,beq_iff_eq] at h;exact h1 h.1 ((aH_ _ _).1 h.2)
 ·intro h;simp only[Bool.and_eq_true,beq_iff_eq] at h;exact (h5 h.1).1 ((aH_ _ _).1 h.2)
theorem pk_ (d:Nat)(nm:ByteArray)(u t x:Ty)(hk:t.kind=5)(hne:t.name≠nm)(hf:dM_ (ai_ u) t.name=true)(hx:cm_ t=x) :
  eo_ (d+1) nm u t=bb_ (bR_ (a2_ t.name (ai_ u++ai_ x++[t.name,nm])) (b9_ t.name (a2_ t.name (ai_ u++ai_ x++[t.name,nm])) x)) [eo_ d nm u (b9_ t.name (a2_ t.name (ai_ u++ai_ x++[t.name,nm])) x)]:=by
 rw[eo_,if_neg,if_neg (by rw[hk];simp),if_pos (by rw[hk,hf];rfl)]
 ·unfold d2_;rw[hx];rfl
 ·intro h;simp only[Bool.and_eq_true] at h;exact hne ((aH_ _ _).1 h.2)
theorem mD_ (d:Nat)(u:Ty)(free:List ByteArray)(is:Ty→Bool)(t:Ty)(h:is t=true):d3_ (d+1) u free is t=u:=by rw[d3_,if_pos h]
theorem iS_ (d:Nat)(u:Ty)(free:List ByteArray)(is:Ty→Bool)(t:Ty)(h:is t=false)(h5:t.kind=5→dM_ free t.name=false):d3_ (d+1) u free is t=bb_ t (t.args.map (d3_ d u free is)):=by
 rw[d3_,if_neg (by rw[h];simp),if_neg];intro h;simp only[Bool.and_eq_true,beq_iff_eq] at h;rw[h5 h.1] at h;exact absurd h.2 (by simp)
theorem ou_ (d:Nat)(u:Ty)(free:List ByteArray)(is:Ty→Bool)(t x:Ty)(h:is t=false)(hk:t.kind=5)(hf:dM_ free t.name=true)(hx:cm_ t=x) :
  d3_ (d+1) u free is t=bb_ (bR_ (a2_ t.name (free++ai_ x++[t.name])) (b9_ t.name (a2_ t.name (free++ai_ x++[t.name])) x)) [d3_ d u free is (b9_ t.name (a2_ t.name (free++ai_ x++[t.name])) x)]:=by
 rw[d3_,if_neg (by rw[h];simp),if_pos (by rw[hk,hf];rfl)];unfold d2_;rw[hx];rfl
end
section
open Go.RowKit
theorem oi_:∀ d:Nat,gZ_ d:=by
 intro d
 induction d with
 | zero=>intro fr to t S a c W hg h;rw[t.depth_eq] at h;omega
 | succ d ih =>
  intro fr to t S a c W hg hd hs hfr hto hA hS hT
  by_cases hn:t.name=fr
  ·by_cases h1:t.kind=1
   ·exact qo_ d fr to t S a c W h1 hn hA hS
   ·by_cases h5:t.kind=5
    ·exact oh_ d fr to t S a c W h5 hn hA hS
    ·exact ke_ d ih fr to t S a c W (fun h=>absurd h h1) (fun h=>absurd h h5) hg hd hs hfr hto hA hS hT
  ·by_cases h5:t.kind=5∧t.name=to
   ·exact qp_ d ih fr to t S a c W h5.1 h5.2 hn hg hd hs hfr hto hA hS hT
   ·exact ke_ d ih fr to t S a c W (fun _=>hn) (fun h=>⟨hn,fun e=>h5 ⟨h,e⟩⟩) hg hd hs hfr hto hA hS hT
theorem jw_ (fr to:ByteArray)(t:Ty)(S:Nat→Prop)(a:OA_)(c:Nat)(W:World)(hg:aY_ t)(hs:t.size≤4499999999224)(hfr:fr.size≤64)(hto:to.size≤64)(hA:aa_ S W (.slice a t.args.length c) t.args)(hS:∀ b,S b→b<W.heap.size)(hT:Tab W) :
  Calls Tryz.prog 75 #[tv t a c,.string fr,.string to] W (TP S (b9_ fr to t) W):=oi_ t.depth fr to t S a c W hg (aC_ _) hs hfr hto hA hS hT
def eY_ (d:Nat):Prop:=∀ (nm:ByteArray) (u t:Ty) (S:Nat→Prop) (a ua:OA_) (c uc:Nat) (W:World),aY_ t→aY_ u→t.depth≤d→t.size≤50000000000→u.size≤50000000000 →
 aa_ S W (.slice a t.args.length c) t.args→aa_ S W (.slice ua u.args.length uc) u.args→(∀ b,S b→b<W.heap.size)→Tab W→Calls Tryz.prog 101 #[tv t a c,.string nm,tv u ua uc] W (TP S (eo_ d nm u t) W)
theorem lG_ (args:Array Value)(w:World):(callFunc 136 args).run Tryz.prog w=.ok (.enter 136 args) w :=
 enters_of Tryz.func136 (by kernel_rfl) rfl args w
theorem pl_ (d:Nat)(ih:eY_ d)(nm:ByteArray)(u:Ty)(bf bu:Nat)(t:Ty)(S:Nat→Prop)(a ua:OA_)(c uc:Nat)(W:World)(hf:W.heap[bf]? = some (.cells #[.string nm] 9 (0,0)))(hu:B4 W bu (.int .i64 u.kind) (.string u.name) (.int .i64 u.n) (.slice ua u.args.length uc))(hg:aY_ t)(hgu:aY_ u)(hd:t.depth≤d)(hs:t.size≤50000000000)(hsu:u.size≤50000000000)
  (hA:aa_ S W (.slice a t.args.length c) t.args) (hU:aa_ S W (.slice ua u.args.length uc) u.args) (hS:∀ b,S b→b<W.heap.size) (hT:Tab W):Calls Tryz.prog 136 #[tv t a c,.pointer (some ⟨bf,0,none⟩),.pointer (some ⟨bu,0,none⟩)] W (TP S (eo_ d nm u t) W):=by
 have hz:=aw_ W (.cells #[.int .i64 t.kind,.string t.name,.int .i64 t.n,.slice a t.args.length c] 37);have hz2:=hz.alloc hz.size (.cells #[.int .i64 0,.string ⟨#[]⟩,.int .i64 0,.slice none 0 0] 37);have k4:=(B4.new W (.int .i64 t.kind) (.string t.name) (.int .i64 t.n) (.slice a t.args.length c)).low (aw_ _ (.cells #[.int .i64 0,.string ⟨#[]⟩,.int .i64 0,.slice none 0 0] 37));have q4:B4 ((W.alloc (.cells #[.int .i64 t.kind,.string t.name,.int .i64 t.n,.slice a t.args.length c] 37)).alloc (.cells #[.int .i64 0,.string ⟨#[]⟩,.int .i64 0,.slice none 0 0] 37)) (W.heap.size+1) (.int .i64 0) (.string ⟨#[]⟩) (.int .i64 0) (.slice none 0 0):=ah_ (by simp);obtain⟨c0,c1,c2,c3⟩:=k4.c03;have e0:=(hz2.cell (p:=⟨bf,0,none⟩) (Array.getElem?_eq_some_iff.1 hf).1).trans (cell_of_row _ _ 0 _ _ _ hf);have hu4:=hu.low hz2;obtain⟨e1,e2,e3,e4⟩:=hu4.c03;have C:=hid (ih nm u t S a ua c uc _ hg hgu hd hs hsu (hA.keep fun b hb=>hz2.block b (hS b hb)) (hU.keep fun b hb=>hz2.block b (hS b hb)) (fun b hb=>ba_ (hS b hb) hz2.size) (ag_ hT hz2));have HZ2:=hid hz2;have HS:=hid hS;have Q4:=hid q4;unfold tv at *;clear hz hz2 k4 q4 hf hu hu4 hA hU hS hT hg hgu hd hs hsu;go_enter Tryz.func136,Tryz.ntmps136;go_wp2_with fail;refine C.out.mono ?_;rintro e W2 ⟨a2,c2,rfl,hA2,hb2⟩;have q4:=Q4.out.low hb2;obtain⟨r0,r1,r2,r3⟩:=q4.c03;obtain⟨s0,s1,s2,s3⟩:=q4.f03;have HA2:=hid hA2;have HB2:=hid hb2;clear hA2 hb2;unfold tv;generalize eo_ d nm u t=y at *;go_wp2;have q5:=B4.set4 q4 (.int .i64 y.kind) (.string y.name) (.int .i64 y.n) (.slice a2 y.args.length c2);exact bodyPost_ret (v:=tv y a2 c2) (by simp[results,Tryz.results136,go_sem,tv,q5.c0,q5.c1,q5.c2,q5.c3]) rfl (TP.stored HS.out HZ2.out HA2.out HB2.out (by omega) (by simp))
end
end Go.Proofs.YtjecnionbjlncaaGreatDoor.Tp

/- Packed. -/
import Derived.Test.YtjecnionbjlncaaGreatDoorP46
set_option maxRecDepth 100000
set_option maxHeartbeats 6400000
namespace Go.Proofs.YtjecnionbjlncaaGreatDoor.Tp
section
def sP_ (F:Kn)(m:Int):Bool:=F.any fun x=>x.1==m
def mxT (t:Ty):Int:=Lib.maxOf (ap_ t++[0])
def mxI (a b:Int):Int:=if a<b then b else a
def nU_ (p:Kn × Int)(x:Int × Ty):Kn × Int:=if sP_ p.1 x.1 then p else (p.1++[x],mxI (mxI p.2 x.1) (mxT x.2))
def eH_ (R:Kn):Kn × Int:=R.foldl nU_ ([],0)
theorem o1_ (R:Kn):(eH_ R).1.length≤R.length:=by
 have:∀ (R:Kn) (p:Kn × Int),(R.foldl nU_ p).1.length≤p.1.length+R.length:=by
  intro R
  induction R with
  | nil=>intro p;exact aC_ _
  | cons x R ih =>
   intro p;rw[List.foldl_cons,List.length_cons];have h1:=ih (nU_ p x);have h2:(nU_ p x).1.length≤p.1.length+1:=by
    unfold nU_
    split
    ·omega
    ·simp
   omega
 simpa [eH_] using this R ([],0)
theorem o0_ {R:Kn} : ∀ x∈(eH_ R).1,x∈R:=by
 have:∀ (R:Kn) (p:Kn × Int),∀ x∈(R.foldl nU_ p).1,x∈p.1∨x∈R:=by
  intro R
  induction R with
  | nil=>intro p x h;exact .inl h
  | cons y R ih =>
   intro p x h;rw[List.foldl_cons] at h
   rcases ih _ x h with h|h
   ·unfold nU_ at h
    split at h
    ·exact .inl h
    ·rcases List.mem_append.1 h with h|h
     ·exact .inl h
     ·exact .inr (by simp[List.mem_singleton.1 h])
   ·exact .inr (by simp[h])
 intro x h
 rcases this R ([],0) x h with h|h
 ·cases h
 ·exact h
def rr_ (q:Int)(p:Ty × Nat)(x:Int × Ty):Ty × Nat:=(bH_ x.1 (mt (q+1+(p.2:Int))) p.1,p.2+1)
def putG (q:Int)(F:Kn)(t:Ty):Ty × Nat:=F.foldl (rr_ q) (t,0)
def rt_ (q:Int)(p:Ty × Nat)(x:Int × Ty):Ty × Nat:=(bH_ (q+1+(p.2:Int)) x.2 p.1,p.2+1)
def fulG (q:Int)(F:Kn)(t:Ty):Ty × Nat:=F.foldl (rt_ q) (t,0)
def apQ (R:Kn)(t:Ty):Int:=mxI (eH_ R).2 (mxT t)
def apP (R:Kn)(t:Ty):Ty:=(putG (apQ R t) (eH_ R).1 t).1
def apF (R:Kn)(t:Ty):Ty:=(fulG (apQ R t) (eH_ R).1 (apP R t)).1
theorem i4_:∀ (l:List Int) (a:Int),a≤l.foldl max a∧(∀ x∈l,x≤l.foldl max a)∧∀ B:Int,a≤B→(∀ x∈l,x≤B)→l.foldl max a≤B:=by
 intro l
 induction l with
 | nil=>intro a;exact⟨Int.le_refl _,(fun x h=>by cases h),fun B h _=>h⟩
 | cons y l ih =>
  intro a;rw[List.foldl_cons];obtain⟨h1,h2,h3⟩:=ih (max a y);refine⟨by omega,fun x hx=>?_,fun B hB hl=>h3 B (by have:=hl y (by simp);omega) fun x hx=>hl x (by simp[hx])⟩
  rcases List.mem_cons.1 hx with rfl|hx
  ·omega
  ·exact h2 x hx
theorem kx_ (t:Ty):0≤mxT t∧∀ m∈ap_ t,m≤mxT t:=by
 unfold mxT Lib.maxOf;obtain⟨_,h2,_⟩:=i4_ (ap_ t++[0]) ((ap_ t++[0]).headD 0);exact⟨h2 0 (by simp),fun m hm=>h2 m (by simp[hm])⟩
theorem pC_ {t:Ty}{B:Int}(hB:0≤B)(h:∀ m∈ap_ t,m≤B):mxT t≤B:=by
 unfold mxT Lib.maxOf;have hall:∀ x∈ap_ t++[0],x≤B:=fun x hx=>by
  rcases List.mem_append.1 hx with hx|hx
  ·exact h x hx
  ·rw[List.mem_singleton.1 hx];exact hB
 refine (i4_ _ _).2.2 B ?_ hall;cases hm:ap_ t++[0] with
 | nil=>exact hB
 | cons y l=>exact hall y (by rw[hm];simp)
structure Fd (R:Kn)(p:Kn × Int)(B:Int):Prop where
 lk:∀ x,lkK p.1 x=lkK R x
 q0:0≤p.2
 qB:p.2≤B
 ge:∀ e∈p.1,e.1≤p.2∧mxT e.2≤p.2
theorem na_ (A:Kn)(x:Int × Ty)(m:Int):lkK (A++[x]) m=match lkK A m with|some u=>some u|none=>if x.1=m then some x.2 else none:=by
 unfold lkK;rw[List.find?_append];cases hf:A.find? (fun x=>x.1==m) with
 | none =>
  by_cases e:x.1=m
  ·simp[e]
  ·have:(x.1==m)=false:=beq_eq_false_iff_ne.2 e
   simp[e,this]
 | some y=>rfl
theorem so_ {F:Kn}{m:Int} : sP_ F m=true↔lkK F m≠none:=by
 unfold sP_;rw[Ne,bh_,Classical.not_not,List.any_eq_true]
 constructor
 ·rintro ⟨x,hx,e⟩;exact List.mem_map.2 ⟨x,hx,by simpa using e⟩
 ·intro h;obtain⟨x,hx,e⟩:=List.mem_map.1 h;exact⟨x,hx,by simpa using e⟩
theorem pK_ {B:Int}(hB:0≤B)(R:Kn)(h:∀ e∈R,e.1≤B∧∀ m∈ap_ e.2,m≤B):Fd R (eH_ R) B:=by
 have key:∀ (S P:Kn) (p:Kn × Int),(∀ e∈S,e.1≤B∧∀ m∈ap_ e.2,m≤B)→Fd P p B→Fd (P++S) (S.foldl nU_ p) B:=by
  intro S
  induction S with
  | nil=>intro P p _ h;rw[List.append_nil];exact h
  | cons x S ih =>
   intro P p hS hp;rw[List.foldl_cons,show P++x :: S=(P++[x])++S from by simp];refine ih (P++[x]) (nU_ p x) (fun e he=>hS e (by simp[he])) ?_;unfold nU_
   by_cases hd:sP_ p.1 x.1=true
   ·rw[if_pos hd]
    refine⟨fun m=>?_,hp.q0,hp.qB,hp.ge⟩;rw[na_,hp.lk];cases hl:lkK P m with
    | some u=>rfl
    | none =>
     have:¬ x.1=m:=fun e=>by
      have:=so_.1 hd;rw[e,hp.lk,hl] at this;exact this rfl
     simp only;rw[if_neg this]
   ·rw[if_neg hd]
    have hx:=hS x (by simp);have h1:=kx_ x.2;have h2:=pC_ hB hx.2;have h3:p.2≤mxI (mxI p.2 x.1) (mxT x.2)∧x.1≤mxI (mxI p.2 x.1) (mxT x.2)∧mxT x.2≤mxI (mxI p.2 x.1) (mxT x.2)∧mxI (mxI p.2 x.1) (mxT x.2)≤B:=by
     have:=hp.qB;have:=hx.1;unfold mxI
     split<;>split<;>omega
    refine⟨fun m=>by rw[na_,na_,hp.lk],by have:=hp.q0;have:=h3.1;simp only;omega,h3.2.2.2,fun e he=>?_⟩
    rcases List.mem_append.1 he with he|he
    ·have:=hp.ge e he;exact⟨by simp only;omega,by simp only;omega⟩
    ·rw[List.mem_singleton.1 he];exact⟨h3.2.1,h3.2.2.1⟩
 have:=key R [] ([],0) h ⟨fun _=>rfl,Int.le_refl _,hB,fun e he=>by cases he⟩;rwa [List.nil_append] at this
def lkD (R:Kn):Int→Ty:=fun x=>match lkK R x with|some u=>dbT [] u|none=>mt x
def rho (q:Int):Kn→Nat→Int→Ty
 | [],_,x=>mt x
 | e :: F,k,x=>if x=e.1 then mt (q+1+(k:Int)) else rho q F (k+1) x
def tau (q:Int):Kn→Nat→Int→Ty
 | [],_,x=>mt x
 | e :: F,k,x=>if x=q+1+(k:Int) then dbT [] e.2 else tau q F (k+1) x
theorem qk_ {q:Int} : ∀ (F:Kn) (k:Nat) (x:Int),(∀ e∈F,e.1≤q)→q<x→rho q F k x=mt x:=by
 intro F
 induction F with
 | nil=>intro k x _ _;rfl
 | cons e F ih=>intro k x h hx;rw[rho,if_neg (by have:=h e (by simp);omega)];exact ih _ _ (fun y hy=>h y (by simp[hy])) hx
theorem iA_ {q:Int} : ∀ (F:Kn) (k:Nat) (x:Int),x≤q+(k:Int)→tau q F k x=mt x:=by
 intro F
 induction F with
 | nil=>intro k x _;rfl
 | cons e F ih=>intro k x hx;rw[tau,if_neg (by omega)];exact ih _ _ (by omega)
theorem sq_ {q:Int} : ∀ (F:Kn) (k:Nat) (t:Ty),Std t→0≤q→q<100000000000000000→k+F.length≤1000→(∀ e∈F,e.1≤q)→Std (F.foldl (rr_ q) (t,k)).1∧dbT [] (F.foldl (rr_ q) (t,k)).1=fl (rho q F k) (dbT [] t):=by
 intro F
 induction F with
 | nil=>intro k t hs _ _ _ _;exact⟨hs,(gJ_ _ (d6_ t [] hs) fun _ _=>rfl).symm⟩
 | cons e F ih =>
  intro k t hs h0 h1 hl he;rw[List.length_cons] at hl;have hm:Std (mt (q+1+(k:Int))):=(aX_ _).2 ⟨.inr (.inl ⟨rfl,rfl,rfl,by show 0≤q+1+(k:Int);omega,by show q+1+(k:Int) < _;omega⟩),fun a ha=>by cases ha⟩;rw[List.foldl_cons];show Std (F.foldl (rr_ q) (bH_ e.1 (mt (q+1+(k:Int))) t,k+1)).1∧_;obtain⟨a1,a2⟩:=ih (k+1) (bH_ e.1 (mt (q+1+(k:Int))) t) (ei_ _ _ _ hs hm) h0 h1 (by omega) fun y hy=>he y (by simp[hy]);refine⟨a1,?_⟩;rw[show rr_ q (t,k) e=(bH_ e.1 (mt (q+1+(k:Int))) t,k+1) from rfl,a2,fl_ _ _ _ hs,mg_ _ _ _ (d6_ t [] hs),ff_];refine bI_ _ fun x _=>?_;rw[rho]
  by_cases ex:x=e.1
  ·subst ex
   rw[bl_,if_pos rfl,show dbT [] (mt (q+1+(k:Int)))=mt (q+1+(k:Int)) from rfl,cK_,qk_ F _ _ (fun y hy=>he y (by simp[hy])) (by omega)]
  ·rw[bU_ _ ex,if_neg ex,cK_]
theorem sr_ {q:Int} : ∀ (F:Kn) (k:Nat) (t:Ty),Std t→(∀ e∈F,Std e.2∧mxT e.2≤q)→Std (F.foldl (rt_ q) (t,k)).1∧dbT [] (F.foldl (rt_ q) (t,k)).1=fl (tau q F k) (dbT [] t):=by
 intro F
 induction F with
 | nil=>intro k t hs _;exact⟨hs,(gJ_ _ (d6_ t [] hs) fun _ _=>rfl).symm⟩
 | cons e F ih =>
  intro k t hs he;obtain⟨es,em⟩:=he e (by simp);rw[List.foldl_cons];show Std (F.foldl (rt_ q) (bH_ (q+1+(k:Int)) e.2 t,k+1)).1∧_;obtain⟨a1,a2⟩:=ih (k+1) (bH_ (q+1+(k:Int)) e.2 t) (ei_ _ _ _ hs es) fun y hy=>he y (by simp[hy]);refine⟨a1,?_⟩;rw[show rt_ q (t,k) e=(bH_ (q+1+(k:Int)) e.2 t,k+1) from rfl,a2,fl_ _ _ _ hs,mg_ _ _ _ (d6_ t [] hs),ff_];refine bI_ _ fun x _=>?_;rw[tau]
  by_cases ex:x=q+1+(k:Int)
  ·subst ex
   rw[bl_,if_pos rfl];exact gJ_ _ (d6_ e.2 [] es) fun m hm=>iA_ F _ _ (by
    have:=(kx_ e.2).2 m ((aT_ es).2 hm);omega)
  ·rw[bU_ _ ex,if_neg ex,cK_]
theorem p4_ {q:Int} : ∀ (F:Kn) (k:Nat) (x:Int),(∀ e∈F,e.1≤q)→x≤q→fl (tau q F k) (rho q F k x)=lkD F x∧∃ y,rho q F k x=mt y∧(y=x∨q+1+(k:Int)≤y):=by
 intro F
 induction F with
 | nil=>intro k x _ _;exact⟨cK_ _ x,x,rfl,.inl rfl⟩
 | cons e F ih =>
  intro k x he hx
  by_cases ex:x=e.1
  ·have e1:rho q (e :: F) k x=mt (q+1+(k:Int)):=by rw[rho,if_pos ex]
   refine⟨?_,_,e1,.inr (Int.le_refl _)⟩;rw[e1,cK_,tau,if_pos rfl];unfold lkD lkK;rw[List.find?_cons,show (e.1==x)=true from by simp[ex]];rfl
  ·have e1:rho q (e :: F) k x=rho q F (k+1) x:=by rw[rho,if_neg ex]
   obtain⟨h1,y,hy,hc⟩:=ih (k+1) x (fun z hz=>he z (by simp[hz])) hx;rw[e1];refine⟨?_,y,hy,hc.imp id fun h=>by omega⟩;have e2:lkD (e :: F) x=lkD F x:=by
    unfold lkD lkK;rw[List.find?_cons,show (e.1==x)=false from beq_eq_false_iff_ne.2 fun h=>ex h.symm]
   rw[e2,← h1,hy,cK_,cK_,tau,if_neg]
   rcases hc with h|h<;>omega
structure Ni (NL:List ByteArray)(fr:Nat)(X:Ty):Prop where
 st:Std X
 gd:aY_ X
 vn:Al (VOk NL fr) (dbT [] X)
 sz:(dbT [] X).size≤LIM
section
variable {NL : List ByteArray} {fr : Nat}
theorem Ni.small (hl:NL.length+fr≤3000000){X:Ty}(h:Ni NL fr X):bG_ X:=by
 have h1:=(of_decide_eq_true (lZ_ hl h.st ⟨h.sz,h.vn⟩:smB X=true));exact⟨h.gd,by have:=h1.1;omega,by have:=h1.2;omega⟩
theorem r3_ {m:Int}(h0:0≤m)(h1:m<1000000000000000000):Ni NL fr (mt m) :=
 ⟨(aX_ _).2 ⟨.inr (.inl ⟨rfl,rfl,rfl,h0,h1⟩),fun a ha=>by cases ha⟩,⟨(bK_ _).2 ⟨.inr (.inl ⟨rfl,rfl,h0,h1⟩),fun a ha=>by cases ha⟩,(ci_ _).2 ⟨⟨fun e=>absurd (show (2:Int)=5 from e) (by decide),by show (0:Nat)≤64;omega⟩,fun a ha=>by cases ha⟩⟩,iu_ NL fr m,by show 1≤LIM;unfold LIM;omega⟩
theorem Ni.fill {X u:Ty}(h:Ni NL fr X)(hu:Ni NL fr u)(m:Int)(hz:(fl (one m (dbT [] u)) (dbT [] X)).size≤LIM):Ni NL fr (bH_ m u X):=by
 have e:dbT [] (bH_ m u X)=fl (one m (dbT [] u)) (dbT [] X):=by rw[fl_ _ _ _ h.st,mg_ _ _ _ (d6_ X [] h.st)]
 have h1:=h.sz;have h2:=hu.sz;rw[cJ_ X h.st] at h1;rw[cJ_ u hu.st] at h2;unfold LIM at h1 h2;refine⟨ei_ _ _ _ h.st hu.st,dG_ m u X h.gd hu.gd (by omega) (by omega),?_,by rw[e];exact hz⟩;rw[e];refine f5_ (ed_ _ _) _ h.vn fun x _=>?_;unfold one
 split
 ·exact hu.vn
 ·exact iu_ _ _ _
theorem pA_ {q:Int} : ∀ (F:Kn) (k:Nat) (t:Ty),Ni NL fr t→0≤q→q<100000000000000000→k+F.length≤1000→Ni NL fr (F.foldl (rr_ q) (t,k)).1:=by
 intro F
 induction F with
 | nil=>intro k t h _ _ _;exact h
 | cons e F ih =>
  intro k t h h0 h1 hl;rw[List.length_cons] at hl;rw[List.foldl_cons];refine ih (k+1) (bH_ e.1 (mt (q+1+(k:Int))) t) (h.fill (r3_ (by omega) (by omega)) _ ?_) h0 h1 (by omega);refine cj_ (cj_ (cG_ (g:=mt) _ fun x _=>?_) (Nat.le_of_eq (by rw[gJ_ _ (d6_ t [] h.st) fun _ _=>rfl]))) h.sz;unfold one
  split<;>exact aC_ _
theorem pB_ {q:Int} : ∀ (F:Kn) (k:Nat) (t:Ty),Ni NL fr t→(∀ e∈F,Ni NL fr e.2∧mxT e.2≤q)→(fl (tau q F k) (dbT [] t)).size≤LIM→Ni NL fr (F.foldl (rt_ q) (t,k)).1:=by
 intro F
 induction F with
 | nil=>intro k t h _ _;exact h
 | cons e F ih =>
  intro k t h he hz;obtain⟨en,em⟩:=he e (by simp);rw[List.foldl_cons];have hone:(fl (one (q+1+(k:Int)) (dbT [] e.2)) (dbT [] t)).size≤LIM:=by
   refine cj_ (cG_ _ fun x _=>?_) hz;rw[tau]
   by_cases ex:x=q+1+(k:Int)
   ·rw[ex,bl_,if_pos rfl];exact aC_ _
   ·rw[bU_ _ ex];exact et_ _
  refine ih (k+1) (bH_ (q+1+(k:Int)) e.2 t) (h.fill en _ hone) (fun y hy=>he y (by simp[hy])) ?_;rw[fl_ _ _ _ h.st,mg_ _ _ _ (d6_ t [] h.st),ff_];refine cj_ (Nat.le_of_eq (congrArg Ty.size (bI_ _ fun x _=>?_))) hz;rw[tau]
  by_cases ex:x=q+1+(k:Int)
  ·subst ex
   rw[bl_,if_pos rfl];exact gJ_ _ (d6_ e.2 [] en.st) fun m hm=>iA_ F _ _ (by
    have:=(kx_ e.2).2 m ((aT_ en.st).2 hm);omega)
  ·rw[bU_ _ ex,if_neg ex,cK_]
theorem nY_ {q:Int} : ∀ (F:Kn) (k i:Nat) (x:Int),(tau q (F.take i) k x).size≤(tau q F k x).size:=by
 intro F
 induction F with
 | nil=>intro k i x;rw[List.take_nil];exact aC_ _
 | cons e F ih =>
  intro k i x;cases i with
  | zero=>exact et_ _
  | succ i =>
   rw[List.take_succ_cons,tau,tau]
   split
   ·exact aC_ _
   ·exact ih _ _ _
theorem sz_ {R:Kn}{t:Ty}{B:Int}(hB:0≤B)(hB2:B≤10000000000000000)(hl:R.length≤100)(hR:∀ e∈R,Ni NL fr e.2∧0≤e.1∧e.1≤B∧∀ m∈ap_ e.2,m≤B)(ht:Ni NL fr t)(htB:∀ m∈ap_ t,m≤B)(hz:(fl (lkD R) (dbT [] t)).size≤LIM)(hn:NL.length+fr≤3000000) :
  (0≤apQ R t∧apQ R t<100000000000000000)∧(∀ i,i≤R.length→0≤(eH_ (R.take i)).2∧(eH_ (R.take i)).2<100000000000000000)∧(∀ i,i≤(eH_ R).1.length→bG_ (putG (apQ R t) ((eH_ R).1.take i) t).1)∧(∀ i,i≤(eH_ R).1.length→bG_ (fulG (apQ R t) ((eH_ R).1.take i) (apP R t)).1) ∧
   Ni NL fr (apF R t)∧dbT [] (apF R t)=fl (lkD R) (dbT [] t):=by
 have D:=pK_ hB R fun e he=>⟨(hR e he).2.2.1,(hR e he).2.2.2⟩;have h1:=kx_ t;have h2:=pC_ hB htB;have hq:(eH_ R).2≤apQ R t∧mxT t≤apQ R t∧apQ R t≤B:=by
  have:=D.qB;unfold apQ mxI
  split<;>omega
 have q0:0≤apQ R t:=by omega
 have q1:apQ R t<100000000000000000:=by omega
 have fl1:=o1_ R;have fk:∀ e∈(eH_ R).1,e.1≤apQ R t:=fun e he=>by have:=(D.ge e he).1;omega
 have fe:∀ e∈(eH_ R).1,Ni NL fr e.2∧mxT e.2≤apQ R t:=fun e he=>⟨(hR e (o0_ e he)).1,by have:=(D.ge e he).2;omega⟩;have np:Ni NL fr (apP R t):=pA_ (eH_ R).1 0 t ht q0 q1 (by omega);obtain⟨_,dp⟩:=sq_ (q:=apQ R t) (eH_ R).1 0 t ht.st q0 q1 (by omega) fk;have dp':dbT [] (apP R t)=fl (rho (apQ R t) (eH_ R).1 0) (dbT [] t):=dp;have hcomp:fl (tau (apQ R t) (eH_ R).1 0) (dbT [] (apP R t))=fl (lkD R) (dbT [] t):=by
  rw[dp',ff_];refine bI_ _ fun x hx=>?_;have hx2:x≤apQ R t:=by have:=h1.2 x ((aT_ ht.st).2 hx);omega
  rw[(p4_ (eH_ R).1 0 x fk hx2).1];unfold lkD;rw[D.lk]
 have nf:Ni NL fr (apF R t):=pB_ (eH_ R).1 0 (apP R t) np fe (by rw[hcomp];exact hz);obtain⟨_,df⟩:=sr_ (q:=apQ R t) (eH_ R).1 0 (apP R t) np.st fun e he=>⟨(fe e he).1.st,(fe e he).2⟩;refine⟨⟨q0,q1⟩,fun i _=>?_,fun i _=>(pA_ ((eH_ R).1.take i) 0 t ht q0 q1 (by rw[List.length_take];omega)).small hn,fun i _=>(pB_ ((eH_ R).1.take i) 0 (apP R t) np (fun e he=>fe e (List.mem_of_mem_take he)) ?_).small hn,nf,by show dbT [] (apF R t)=_;rw[show dbT [] (apF R t)=fl (tau (apQ R t) (eH_ R).1 0) (dbT [] (apP R t)) from df,hcomp]⟩
 ·have D2:=pK_ hB (R.take i) fun e he=>⟨(hR e (List.mem_of_mem_take he)).2.2.1,(hR e (List.mem_of_mem_take he)).2.2.2⟩
  exact⟨D2.q0,by have:=D2.qB;omega⟩
 ·refine cj_ (cG_ _ fun x _=>nY_ _ _ _ _) (by rw[hcomp];exact hz)
end
def ddI:List Int→List Int
 | []=>[]
 | x :: l=>if x∈ddI l then ddI l else x :: ddI l
theorem ic_:∀ {l:List Int} {x:Int},x∈ddI l↔x∈l:=by
 intro l
 induction l with
 | nil=>intro x;exact Iff.rfl
 | cons y l ih =>
  intro x;rw[ddI]
  split
  ·next h =>
   rw[ih,List.mem_cons];exact⟨.inr,fun h2=>h2.elim (fun e=>by rw[e];exact ih.1 h) id⟩
  ·rw[List.mem_cons,List.mem_cons,ih]
theorem nq_:∀ l:List Int,(ddI l).Nodup:=by
 intro l
 induction l with
 | nil=>exact List.nodup_nil
 | cons y l ih =>
  rw[ddI]
  split
  ·exact ih
  ·next h=>exact List.nodup_cons.2 ⟨h,ih⟩
theorem r7_:∀ (t:Ty) (env:List ByteArray),Std t→mn (dbT env t)≤nsT t:=by
 intro t
 induction t using Ty.ind with
 | h t ih =>
  intro env hs;have hl:∀ (l:List Ty) (env:List ByteArray),(∀ a∈l,a∈t.args)→mnL (l.map (dbT env))≤nsL l:=by
   intro l
   induction l with
   | nil=>intro _ _;exact aC_ _
   | cons a l ihl =>
    intro env hm;rw[List.map_cons,mnL,nsL];have:=ih a (hm a (by simp)) env (hs.args a (hm a (by simp)));have:=ihl env fun b hb=>hm b (by simp[hb]);omega
  rw[gv_]
  by_cases h5:t.kind=5
  ·rw[aK_ _ _ h5,oP_]
   show (if (5:Int)=2 then 1 else mnL (t.args.map _))≤_;rw[if_neg (by decide)];have:=hl t.args (t.name :: env) fun a ha=>ha;omega
  ·by_cases h1:t.kind=1
   ·rw[a1_ _ _ h1,if_pos (.inl h1),oP_]
    unfold dC_;cases ixN env t.name with
    | none=>rw[if_neg (show (Ty.mk 1 t.name t.n []).kind≠2 from by show (1:Int)≠2;decide)];exact Nat.zero_le _
    | some i=>rw[if_neg (show (Ty.mk 6 emp (i:Int) []).kind≠2 from by show (6:Int)≠2;decide)];exact Nat.zero_le _
   ·rw[az_ _ _ h1 h5,oP_]
    show (if t.kind=2 then 1 else mnL (t.args.map _))≤_
    by_cases h2:t.kind=2
    ·rw[if_pos h2,if_pos (.inr h2)];omega
    ·rw[if_neg h2]
     have:=hl t.args env fun a ha=>ha;omega
theorem nF_:∀ t:Ty,ac t≤t.size:=by
 intro t
 induction t using Ty.ind with
 | h t ih =>
  rw[gX_,t.size_eq];have:∀ l:List Ty,(∀ a∈l,ac a≤a.size)→acL l≤af_ l:=by
   intro l
   induction l with
   | nil=>intro _;exact aC_ _
   | cons a l ihl =>
    intro h;rw[acL,af_];have:=h a (by simp);have:=ihl fun b hb=>h b (by simp[hb]);omega
  have:=this _ ih
  split<;>omega
theorem po_ {NL:List ByteArray} : ∀ (t:Ty) (env:List ByteArray),Mk t→(∀ s,fvT s t→s∉env→s∈NL)→Al (VOk NL 0) (dbT env t):=by
 intro t
 induction t using Ty.ind with
 | h t ih =>
  intro env hm hf;have hlx:=(cs_ t).1 hm.2
  by_cases h5:t.kind=5
  ·rw[aK_ _ _ h5]
   refine .mk _ ⟨fun h=>absurd (show (5:Int)=1 from h) (by decide),fun h=>absurd (show (5:Int)=3 from h) (by decide)⟩ fun a ha=>?_;obtain⟨b,hb,rfl⟩:=List.mem_map.1 ha;refine ih b hb _ ⟨hm.1.args b hb,hlx.2 b hb⟩ fun s hs hn=>?_;rw[List.mem_cons,not_or] at hn;exact hf s ((aD_ s t).2 (.inr ⟨⟨b,hb,hs⟩,fun e=>hn.1 e.2.symm⟩)) hn.2
  ·by_cases k1:t.kind=1
   ·rw[a1_ _ _ k1]
    unfold dC_;cases hi:ixN env t.name with
    | some i=>exact .mk _ ⟨fun h=>absurd (show (6:Int)=1 from h) (by decide),fun h=>absurd (show (6:Int)=3 from h) (by decide)⟩ fun a ha=>by cases ha
    | none=>exact .mk _ ⟨fun _=>.inl (hf t.name ((aD_ _ t).2 (.inl ⟨k1,rfl⟩)) ((dh_ _ _).1 hi)),fun h=>absurd (show (1:Int)=3 from h) (by decide)⟩ fun a ha=>by cases ha
   ·rw[az_ _ _ k1 h5]
    refine .mk _ ⟨fun h=>absurd h k1,fun h=>?_⟩ fun a ha=>?_
    ·obtain⟨c1,c2⟩:=hlx.1.2.1 h
     refine⟨⟨kw_ c1,fun c hc=>?_⟩,c2⟩;have hin:=c1.inner c hc;unfold inW;rw[Bool.not_eq_true',Bool.or_eq_false_iff,Bool.or_eq_false_iff,Bool.or_eq_false_iff,Bool.or_eq_false_iff];simp only[beq_eq_false_iff_ne];refine⟨⟨⟨⟨?_,?_⟩,?_⟩,?_⟩,?_⟩<;>(rintro rfl;exact absurd hin (by decide))
    ·obtain⟨b,hb,rfl⟩:=List.mem_map.1 ha
     exact ih b hb env ⟨hm.1.args b hb,hlx.2 b hb⟩ fun s hs hn=>hf s ((aD_ s t).2 (.inr ⟨⟨b,hb,hs⟩,fun e=>h5 e.1⟩)) hn
theorem bS_ {t:Ty}(h:Mk t):∀ m∈ap_ t,0≤m∧m<1000000:=by
 have key:∀ t:Ty,Mk t→∀ m,¬ noP (bj_ m) t→0≤m∧m<1000000:=by
  intro t
  induction t using Ty.ind with
  | h t ih =>
   intro h m hn;rw[gw_] at hn
   by_cases hi:bj_ m (lq_ t)=true
   ·have hi:(t.kind==2&&t.n==m)=true:=hi
    rw[Bool.and_eq_true,beq_iff_eq,beq_iff_eq] at hi;obtain⟨h2,rfl⟩:=hi;exact⟨(h.1.k2 h2).2.2.1,((cs_ t).1 h.2).1.2.2 h2⟩
   ·have:∃ a∈t.args,¬ noP (bj_ m) a:=Classical.byContradiction fun hh=>hn ⟨by simpa using hi,fun a ha=>Classical.byContradiction fun hx=>hh ⟨a,ha,hx⟩⟩
    obtain⟨a,ha,hx⟩:=this;exact ih a ha ⟨h.1.args a ha,((cs_ t).1 h.2).2 a ha⟩ m hx
 exact fun m hm=>key t h m ((ec_ m t).1 hm)
theorem Dst.errs {W:Wk}{l r:Ty}{x:Except Nat Wk}(h:Dst W l r x):∀ er,x=.error er→40≤er∧er≤43:=by
 intro er e;cases h with
 | same|learn|opn|parts=>cases e
 | occurs=>injection e with e;omega
 | poly=>injection e with e;omega
 | esc=>injection e with e;omega
 | clash=>injection e with e;omega
theorem jk_.errs {W:Wk}{res:Except Nat Kn}(h:jk_ W res):∀ er,res=.error er→40≤er∧er≤43:=by
 induction h with
 | done W h=>intro er e;cases e
 | err W e es er h hd=>intro er' e';injection e' with e';subst e';exact hd.errs _ rfl
 | step W W' e es res h hd hr ih=>exact ih
theorem rK_ {L:List Int}{n:Int→Nat}{NL:List ByteArray}{A0:Nat}(C:Co L n NL A0){W:Wk}(kv:∀ x u,lkK W.K x=some u→Std u∧aY_ u)(D:DI L n NL A0 W){m:Int}{u:Ty}(hu:lkK W.K m=some u):Std (sg W.K m)∧aY_ (sg W.K m):=by
 have hkl:=D.klen;have hll:=C.ll;have hnl:=C.nl;have hfr:W.fresh≤A0:=by have:=D.fr;omega
 obtain⟨us,ug⟩:=kv m u hu;obtain⟨e1,_,up⟩:=D.ko.facts.bnd m u hu;have ed:dbT [] u=u:=bJ_ u us up.no5;have hvu:Al (VOk NL W.fresh) u:=fQ_ (f:=sg W.K) (fun t l h=>h) (fun t h=>⟨fun h1=>by omega,fun h1=>by omega⟩) u up.dw (by rw[← e1];exact D.kn m);obtain⟨u',a1,a2,a3,a4⟩:=gL_ D.ko kv (NL:=NL) (fr:=W.fresh) (by omega) D.kn 99 0 u (by omega) us ug (fun z _=>rfl) (by rw[ed];exact hvu) (by rw[ed,← e1];exact md_ C D m);rw[ed,← e1] at a2;have hp:dbT [] u'=u':=bJ_ u' a3 ((i9_ u' [] a3).1 (by rw[a2];exact (D.ko.facts.pr m).no5));rw[hp] at a2;rw[← a2];exact⟨a3,a4⟩
structure Es (es:List EqT):Prop where
 ok:∀ e∈es,QOk e
 ns:nsE es≤24
 ln:es.length≤16
def LE (es:List EqT):List Int:=ddI (es.flatMap fun e=>ap_ e.1++ap_ e.2)
def nE (es:List EqT)(m:Int):Nat:=(es.map fun e=>oc m (dbT [] e.1)+oc m (dbT [] e.2)).sum
def NLE (es:List EqT):List ByteArray:=es.flatMap fun e=>ai_ e.1++ai_ e.2
theorem l4_ {α : Type}{l:List α}{f g:α→Nat}(h:∀ x∈l,f x≤g x):(l.map f).sum≤(l.map g).sum:=by
 induction l with
 | nil=>exact aC_ _
 | cons x l ih =>
  rw[List.map_cons,List.map_cons,List.sum_cons,List.sum_cons];have:=h x (by simp);have:=ih fun y hy=>h y (by simp[hy]);omega
theorem l3_ {α : Type}{l:List α}{f:α→Nat}{x:α}(h:x∈l):f x≤(l.map f).sum:=by
 induction l with
 | nil=>cases h
 | cons y l ih =>
  rw[List.map_cons,List.sum_cons]
  rcases List.mem_cons.1 h with rfl|h
  ·omega
  ·have:=ih h;omega
theorem gl_ {α : Type}(l:List α)(c:Nat):(l.map fun _=>c).sum=l.length*c:=by
 induction l with
 | nil=>simp
 | cons y l ih=>rw[List.map_cons,List.sum_cons,ih,List.length_cons,Nat.add_mul];omega
theorem pS_ {es:List EqT}{e:EqT}(he:e∈es){m:Int}(h:m∈ap_ e.1∨m∈ap_ e.2):m∈LE es:=by
 unfold LE;rw[ic_,List.mem_flatMap];exact⟨e,he,List.mem_append.2 h⟩
theorem nO_ {es:List EqT}(E:Es es):∀ m∈LE es,1≤nE es m∧0≤m∧m<1000000:=by
 intro m hm;unfold LE at hm;rw[ic_,List.mem_flatMap] at hm;obtain⟨e,he,hm⟩:=hm;have hq:=E.ok e he;have h1:=l3_ (f:=fun e=>oc m (dbT [] e.1)+oc m (dbT [] e.2)) he;unfold nE
 rcases List.mem_append.1 hm with h|h
 ·have:=(aT_ hq.l.1.1).1 h
  exact⟨by omega,bS_ hq.l.1 m h⟩
 ·have:=(aT_ hq.r.1.1).1 h
  exact⟨by omega,bS_ hq.r.1 m h⟩
theorem sm_nE {L:List Int}(hn:L.Nodup):∀ es:List EqT,sm L (nE es)≤(es.map fun e=>mn (dbT [] e.1)+mn (dbT [] e.2)).sum:=by
 intro es
 induction es with
 | nil=>exact Nat.le_of_eq (hN_ fun _ _=>rfl)
 | cons e es ih =>
  have e1:sm L (nE (e :: es))=(sm L fun m=>oc m (dbT [] e.1))+(sm L fun m=>oc m (dbT [] e.2))+sm L (nE es):=by
   rw[← kb_,← kb_];congr 1
  rw[e1,List.map_cons,List.sum_cons];have:=px_ hn (dbT [] e.1);have:=px_ hn (dbT [] e.2);omega
theorem pR_ {es:List EqT}(E:Es es):sm (LE es) (nE es)≤24 :=
 cj_ (sm_nE (nq_ _) es) (cj_ (l4_ fun e he=>Nat.add_le_add (r7_ e.1 [] (E.ok e he).l.1.1) (r7_ e.2 [] (E.ok e he).r.1.1)) E.ns)
theorem kO_ {es:List EqT}(E:Es es):(LE es).length≤24:=by
 have h1:(LE es).length≤sm (LE es) (nE es):=by
  have:(LE es).length=sm (LE es) fun _=>1:=by
   unfold sm;rw[gl_];omega
  rw[this];exact qf_ fun m hm=>(nO_ E m hm).1
 have:=pR_ E;omega
theorem ip_ {es:List EqT}(E:Es es):(NLE es).length≤4000:=by
 unfold NLE;rw[List.length_flatMap];have h1:(es.map fun e=>(ai_ e.1++ai_ e.2).length).sum≤(es.map fun _=>240).sum:=l4_ fun e he=>by
  rw[List.length_append];have a:=(E.ok e he).l.2.1;have b:=(E.ok e he).r.2.1;have:=bk_ e.1;have:=bk_ e.2;omega
 rw[gl_] at h1;have:=E.ln;omega
theorem eL_ {es:List EqT}(E:Es es):lI_ (NLE es):=by
 intro s hs;unfold NLE at hs;obtain⟨e,he,hs⟩:=List.mem_flatMap.1 hs
 rcases List.mem_append.1 hs with h|h
 ·have:=kA_ (E.ok e he).l.1 s h;exact⟨this.2.1,this.1⟩
 ·have:=kA_ (E.ok e he).r.1 s h;exact⟨this.2.1,this.1⟩
theorem nn_ {es:List EqT}(E:Es es){e:EqT}(he:e∈es):Al (VOk (NLE es) 0) (dbT [] e.1)∧Al (VOk (NLE es) 0) (dbT [] e.2) :=
 ⟨po_ e.1 [] (E.ok e he).l.1 fun s hs _=>List.mem_flatMap.2 ⟨e,he,List.mem_append.2 (.inl ((bm_ s e.1).2 hs))⟩,
  po_ e.2 [] (E.ok e he).r.1 fun s hs _=>List.mem_flatMap.2 ⟨e,he,List.mem_append.2 (.inr ((bm_ s e.2).2 hs))⟩⟩
theorem jN_ {es:List EqT}(E:Es es){e:EqT}(he:e∈es):Qs (LE es) (nE es) (dbT [] e.1)∧Qs (LE es) (nE es) (dbT [] e.2):=by
 have hq:=E.ok e he;have hs:=fun m=>l3_ (f:=fun e=>oc m (dbT [] e.1)+oc m (dbT [] e.2)) he;refine⟨⟨d6_ _ _ hq.l.1.1,by rw[cJ_ _ hq.l.1.1];exact hq.l.2.1,fun m=>?_,fun m hm=>pS_ he (.inl ((aT_ hq.l.1.1).2 hm))⟩,d6_ _ _ hq.r.1.1,by rw[cJ_ _ hq.r.1.1];exact hq.r.2.1,fun m=>?_,fun m hm=>pS_ he (.inr ((aT_ hq.r.1.1).2 hm))⟩
 ·have:=hs m;unfold nE;omega
 ·have:=hs m;unfold nE;omega
def AE (es:List EqT):Nat:=acE (es.map dbE)
theorem nS_ {es:List EqT}(E:Es es):AE es≤4000:=by
 unfold AE acE;rw[List.map_map];have h1:(es.map ((fun e:EqT=>ac e.1+ac e.2) ∘ dbE)).sum≤(es.map fun _=>240).sum:=l4_ fun e he=>by
  have hq:=E.ok e he;have a:=nF_ (dbT [] e.1);have b:=nF_ (dbT [] e.2);rw[cJ_ _ hq.l.1.1] at a;rw[cJ_ _ hq.r.1.1] at b;have:=hq.l.2.1;have:=hq.r.2.1;show ac (dbT [] e.1)+ac (dbT [] e.2)≤240;omega
 rw[gl_] at h1;have:=E.ln;omega
theorem fh_ {es:List EqT}(E:Es es):Co (LE es) (nE es) (NLE es) (AE es) :=
 ⟨by have:=kO_ E;omega,pR_ E,by have:=ip_ E;have:=nS_ E;omega,by have:=nS_ E;omega,eL_ E⟩
theorem lB_ {es:List EqT}(E:Es es):DI (LE es) (nE es) (NLE es) (AE es) ⟨[],es.map dbE,0⟩:=by
 refine⟨.nil,qx_,fun e he=>?_,fun x=>.inl rfl,fun x h=>absurd rfl h,fun x hx m hm=>?_,fun x=>iu_ _ _ _,by show 0+acE (es.map dbE)≤AE es;unfold AE;omega⟩
 ·obtain⟨y,hy,rfl⟩:=List.mem_map.1 he
  obtain⟨q1,q2⟩:=jN_ E hy;obtain⟨v1,v2⟩:=nn_ E hy;exact⟨⟨q1.dw,v1,_,q1,rfl⟩,q2.dw,v2,_,q2,rfl⟩
 ·rw[show sg [] x=mt x from rfl,hW_] at hm
  split at hm
  ·next e=>rw[← e];exact hx
  ·exact absurd rfl hm
structure Kd (es:List EqT)(K:Kn):Prop where
 ko:KO K
 ori:Ori K
 gen:∀ f,PrF f→((∀ e∈es,Sol f (dbE e))↔Ext f K)
 ni:∃ fr,fr≤4000∧∀ x,Ni (NLE es) fr (sg K x)∨sg K x=mt x
 szE:∀ e∈es,(fl (sg K) (dbT [] e.1)).size≤LIM∧(fl (sg K) (dbT [] e.2)).size≤LIM
 kl:∀ x,lkK K x≠none→x∈LE es
 km:∀ x∈LE es,∀ m,oc m (sg K x)≠0→m∈LE es
theorem pV_ {es:List EqT}(E:Es es):∃ j res,j≤100000000000∧fT_ 100 j es=some (iz_ res)∧jk_ ⟨[],es.map dbE,0⟩ res∧((∃ er,res=.error er∧40≤er∧er≤43∧∀ f,PrF f→¬ ∀ e∈es,Sol f (dbE e))∨∃ K,res=.ok K∧Kd es K):=by
 have hN:∀ e∈es,(Std e.1∧aY_ e.1)∧(Std e.2∧aY_ e.2):=fun e he=>⟨⟨(E.ok e he).l.1.1,eU_ _ (E.ok e he).l.1⟩,(E.ok e he).r.1.1,eU_ _ (E.ok e he).r.1⟩;obtain⟨j,res,hj,kv,h1,h2⟩:=mj_ (fh_ E) (W:=⟨[],es,0⟩) ⟨hN,fun x u h=>by cases h⟩ (lB_ E) (fun e he=>by
  obtain⟨x,hx,rfl⟩:=List.mem_map.1 he;exact jN_ E hx) (by show (List.map _ _).length≤16;rw[List.length_map];exact E.ln)
 have hsol:∀ f,lF_ f ⟨[],es.map dbE,0⟩↔∀ e∈es,Sol f (dbE e):=fun f=>by
  unfold lF_
  constructor
  ·exact fun h e he=>h.2 _ (List.mem_map.2 ⟨e,he,rfl⟩)
  ·refine fun h=>⟨nm_ f,fun e he=>?_⟩
   obtain⟨x,hx,rfl⟩:=List.mem_map.1 he;exact h x hx
 obtain⟨t1,t2⟩:=h2.told (eL_ E) (lB_ E);refine⟨j,res,hj,?_,h2,?_⟩
 ·unfold fT_
  rw[h1];cases res with
  | error e=>rfl
  | ok K =>
   simp only;obtain⟨⟨fr,D'⟩,_⟩:=t1 K rfl;rw[rU_ (fh_ E) (W:=⟨K,[],fr⟩) (kv K rfl) D' (b4_ K) fun m hm=>dV_.1 hm];rfl
 ·cases res with
  | error er =>
   refine .inl ⟨er,rfl,?_,?_,fun f hf hs=>t2 er rfl f hf ((hsol f).2 hs)⟩
   ·exact (h2.errs er rfl).1
   ·exact (h2.errs er rfl).2
  | ok K =>
   obtain⟨⟨fr,D'⟩,hg⟩:=t1 K rfl;have hfr:fr≤4000:=by have h:=D'.fr;have h':fr+acE []≤AE es:=h;have:=nS_ E;omega
   refine .inr ⟨K,rfl,⟨D'.ko,D'.ori,fun f hf=>by rw[← hg f hf];exact (hsol f).symm,⟨fr,hfr,fun x=>?_⟩,fun e he=>⟨iQ_ (fh_ E) D' (jN_ E he).1,iQ_ (fh_ E) D' (jN_ E he).2⟩,D'.kl,D'.km⟩⟩;cases hx:lkK K x with
   | none=>exact .inr (D'.ko.facts.unb x hx)
   | some u =>
    obtain⟨a,b⟩:=rK_ (fh_ E) (W:=⟨K,[],fr⟩) (kv K rfl) D' hx;refine .inl ⟨a,b,?_,?_⟩
    ·rw[bJ_ _ a (D'.ko.facts.pr x).no5];exact D'.kn x
    ·rw[bJ_ _ a (D'.ko.facts.pr x).no5];exact md_ (fh_ E) D' x
end
section
open Go.RowKit
def B5 (w:World)(b:Nat)(m:Int)(t:Ty)(a:OA_)(c:Nat):Prop:=w.heap[b]? = some (.cells #[.int .i64 m,.int .i64 t.kind,.string t.name,.int .i64 t.n,.slice a t.args.length c] 39 (0,0))
section
variable {w w' : World} {b : Nat} {m : Int} {t : Ty} {a : OA_} {c : Nat}
theorem B5.c0 (h:B5 w b m t a c):w.cell? ⟨b,0,none⟩=some (.int .i64 m):=cell_of_row w b 0 _ _ _ h
theorem B5.c1 (h:B5 w b m t a c):w.cell? ⟨b,1,none⟩=some (.int .i64 t.kind):=cell_of_row w b 1 _ _ _ h
theorem B5.c2 (h:B5 w b m t a c):w.cell? ⟨b,2,none⟩=some (.string t.name):=cell_of_row w b 2 _ _ _ h
theorem B5.c3 (h:B5 w b m t a c):w.cell? ⟨b,3,none⟩=some (.int .i64 t.n):=cell_of_row w b 3 _ _ _ h
theorem B5.c4 (h:B5 w b m t a c):w.cell? ⟨b,4,none⟩=some (.slice a t.args.length c):=cell_of_row w b 4 _ _ _ h
theorem B5.lt (h:B5 w b m t a c):b<w.heap.size:=(Array.getElem?_eq_some_iff.1 h).1
theorem B5.low (h:B5 w b m t a c)(hb:Below w.heap.size w w'):B5 w' b m t a c:=(hb.block b h.lt).trans h
theorem B5.grown {r:Option Nat}(h:B5 w b m t a c)(hg:w.grownBy w' r)(hr:r≠some b):B5 w' b m t a c:=(hg.block b h.lt (Ne.symm hr)).trans h
theorem B5.new (w:World)(m:Int)(t:Ty)(a:OA_)(c:Nat):B5 (w.alloc (.cells #[.int .i64 m,.int .i64 t.kind,.string t.name,.int .i64 t.n,.slice a t.args.length c] 39)) w.heap.size m t a c:=heap_alloc_new w _
end
theorem dZ_.low {S:Nat→Prop}{lo:Nat}{w w':World}{v:Value}{es:Kn}{ps:List Value}(h:dZ_ S lo w v es ps)(hS:∀ b,S b→b<w.heap.size)(hb:Below w.heap.size w w'):dZ_ S lo w' v es ps :=
 h.keep (fun b e=>hb.block b (h.own.lt b e).2) fun b h=>hb.block b (hS b h)
theorem FlM.grown {w wr w':World}{x:Ty}{xa:OA_}{xc:Nat}{r:Option Nat}(h:FlM (Lt w.heap.size) w wr x xa xc)(hg:wr.grownBy w' r)(hr:∀ b,r=some b→w.heap.size+2≤b)(ha:aa_ (fun b=>(b<w.heap.size∨w.heap.size+2≤b∧b<wr.heap.size)∧r≠some b) wr (.slice xa x.args.length xc) x.args):FlM (Lt w.heap.size) w w' x xa xc :=
 ⟨h.g.grown hg h.g.size fun b e=>by have:=hr b e;omega,cj_ h.s hg.size,h.k.grown hg fun e=>by have:=hr _ e;omega,h.z.grown hg fun e=>by have:=hr _ e;omega,
  (ha.keep fun b hb=>hg.block b (by rcases hb.1 with h1|h1;have:=h.s;omega;exact h1.2) (Ne.symm hb.2)).mono fun b hb=>hb.1.imp id fun h1=>⟨h1.1,ba_ h1.2 hg.size⟩⟩
structure ApOk (R:Kn)(t:Ty):Prop where
 len:R.length≤100
 st:bG_ t
 sR:∀ x∈R,bG_ x.2∧0≤x.1∧x.1<100000000000000000
 hq:0≤apQ R t∧apQ R t<100000000000000000
 hf:∀ i,i≤R.length→0≤(eH_ (R.take i)).2∧(eH_ (R.take i)).2<100000000000000000
 hP:∀ i,i≤(eH_ R).1.length→bG_ (putG (apQ R t) ((eH_ R).1.take i) t).1
 hQ:∀ i,i≤(eH_ R).1.length→bG_ (fulG (apQ R t) ((eH_ R).1.take i) (apP R t)).1
theorem ap_ok {NL:List ByteArray}{fr:Nat}{R:Kn}{t:Ty}{B:Int}(hB:0≤B)(hB2:B≤10000000000000000)(hl:R.length≤100)(hR:∀ e∈R,Ni NL fr e.2∧0≤e.1∧e.1≤B∧∀ m∈ap_ e.2,m≤B)(ht:Ni NL fr t)(htB:∀ m∈ap_ t,m≤B)(hz:(fl (lkD R) (dbT [] t)).size≤LIM)(hn:NL.length+fr≤3000000) :
  ApOk R t∧Ni NL fr (apF R t)∧dbT [] (apF R t)=fl (lkD R) (dbT [] t):=by
 obtain⟨h1,h2,h3,h4,h5,h6⟩:=sz_ hB hB2 hl hR ht htB hz hn;exact⟨⟨hl,ht.small hn,fun x hx=>⟨(hR x hx).1.small hn,(hR x hx).2.1,by have:=(hR x hx).2.2.1;omega⟩,h1,h2,h3,h4⟩,h5,h6⟩
theorem pF_ (K:Kn)(x:Int):lkK (cD_ K) x=if x∈b4_ K then some (sg K x) else none:=by
 unfold cD_ lkK;generalize b4_ K=ks
 induction ks with
 | nil=>rfl
 | cons m ks ih =>
  rw[List.map_cons,List.find?_cons]
  by_cases e:m=x
  ·subst e
   rw[show (m==m)=true from by simp,if_pos (by simp)];rfl
  ·rw[show (m==x)=false from beq_eq_false_iff_ne.2 e]
   simp only;rw[ih]
   by_cases h:x∈ks
   ·rw[if_pos h,if_pos (by simp[h])]
   ·rw[if_neg h,if_neg (by simp[h,Ne.symm e])]
section
variable {es : List EqT} {K : Kn}
theorem Kd.std (D:Kd es K)(x:Int)(hx:lkK K x≠none):∃ fr,fr≤4000∧Ni (NLE es) fr (sg K x):=by
 obtain⟨fr,hf,h⟩:=D.ni
 rcases h x with h|h
 ·exact⟨fr,hf,h⟩
 ·exact absurd (D.ko.facts.dom x |>.2 h) hx
theorem Kd.lkD (D:Kd es K)(x:Int):lkD (cD_ K) x=sg K x:=by
 unfold Tp.lkD;rw[pF_]
 by_cases h:x∈b4_ K
 ·rw[if_pos h]
  obtain⟨fr,_,hn⟩:=D.std x (dV_.1 h);exact bJ_ _ hn.st (D.ko.facts.pr x).no5
 ·rw[if_neg h]
  exact (D.ko.facts.unb x (Classical.byContradiction fun hn=>h (dV_.2 hn))).symm
theorem Kd.fl_lkD (D:Kd es K)(t:Ty):fl (Tp.lkD (cD_ K)) t=fl (sg K) t:=bI_ t fun x _=>D.lkD x
theorem Kd.len (E:Es es)(D:Kd es K):(cD_ K).length≤24:=by
 have h1:=kB_ D.ko.nodup fun x hx=>D.kl x fun hn=>bh_.1 hn hx;rw[List.length_map] at h1;have h2:=kO_ E;unfold cD_ b4_;rw[List.length_map,List.length_mergeSort,List.length_map];omega
theorem Kd.mem (E:Es es)(D:Kd es K):∀ x∈cD_ K,(∃ fr,fr≤4000∧Ni (NLE es) fr x.2)∧0≤x.1∧x.1<1000000∧x.2=sg K x.1∧x.1∈LE es∧∀ m∈ap_ x.2,m≤1000000:=by
 intro x hx;obtain⟨m,hm,rfl⟩:=List.mem_map.1 hx;have hk:=dV_.1 hm;have hL:=D.kl m hk;have h1:=nO_ E m hL;refine⟨D.std m hk,h1.2.1,h1.2.2,rfl,hL,fun y hy=>?_⟩;have h2:=D.km m hL y ((cE_ (D.ko.facts.pr m).dw).1 hy);have:=nO_ E y h2;omega
theorem nM_ {es:List EqT}(E:Es es){fr:Nat}(h:fr≤4000):(NLE es).length+fr≤3000000:=by have:=ip_ E;omega
theorem Kd.ans (E:Es es)(D:Kd es K):ha_ (.ok (cD_ K)):=by
 refine⟨by have:=D.len E;omega,fun x hx=>?_⟩;obtain⟨⟨fr,hf,hn⟩,h0,h1,_⟩:=D.mem E x hx;exact⟨hn.small (nM_ E hf),h0,by omega⟩
theorem Ni.mono {NL:List ByteArray}{fr fr':Nat}{X:Ty}(h:Ni NL fr X)(hf:fr≤fr'):Ni NL fr' X:=⟨h.st,h.gd,h.vn.imp fun t=>dc_ hf t,h.sz⟩
theorem es_ni {es:List EqT}(E:Es es){e:EqT}(he:e∈es)(fr:Nat):(Ni (NLE es) fr e.1∧∀ m∈ap_ e.1,m≤1000000)∧Ni (NLE es) fr e.2∧∀ m∈ap_ e.2,m≤1000000:=by
 have hq:=E.ok e he;obtain⟨v1,v2⟩:=nn_ E he;refine⟨⟨⟨hq.l.1.1,eU_ _ hq.l.1,v1.imp fun t=>dc_ (Nat.zero_le _) t,by rw[cJ_ _ hq.l.1.1];have:=hq.l.2.1;unfold LIM;omega⟩,fun m hm=>by have:=bS_ hq.l.1 m hm;omega⟩,⟨hq.r.1.1,eU_ _ hq.r.1,v2.imp fun t=>dc_ (Nat.zero_le _) t,by rw[cJ_ _ hq.r.1.1];have:=hq.r.2.1;unfold LIM;omega⟩,fun m hm=>by have:=bS_ hq.r.1 m hm;omega⟩
theorem Kd.ap (E:Es es)(D:Kd es K){t:Ty}(ht:∃ fr,fr≤4000∧Ni (NLE es) fr t)(hm:∀ m∈ap_ t,m≤1000000)(hz:(fl (sg K) (dbT [] t)).size≤LIM) :
  ApOk (cD_ K) t∧bG_ (apF (cD_ K) t)∧Std (apF (cD_ K) t)∧rp_ (dbT [] (apF (cD_ K) t))∧dbT [] (apF (cD_ K) t)=fl (sg K) (dbT [] t):=by
 obtain⟨f1,h1,n1⟩:=ht;have hall:∀ e∈cD_ K,Ni (NLE es) 4000 e.2∧0≤e.1∧e.1≤1000000∧∀ m∈ap_ e.2,m≤1000000:=fun e he=>by
  obtain⟨⟨fr,hf,hn⟩,a,b,_,_,c⟩:=D.mem E e he;exact⟨hn.mono hf,a,by omega,c⟩
 obtain⟨a,b,c⟩:=ap_ok (B:=1000000) (by omega) (by omega) (by have:=D.len E;omega) hall (n1.mono h1) hm (by rw[D.fl_lkD];exact hz) (nM_ E (aC_ 4000));rw[D.fl_lkD] at c;exact⟨a,b.small (nM_ E (aC_ 4000)),b.st,d7_ (eL_ E) b.vn,c⟩
theorem Kd.same (E:Es es)(D:Kd es K){e:EqT}(he:e∈es):aM_ (apF (cD_ K) e.1)=aM_ (apF (cD_ K) e.2):=by
 have hn:=es_ni E he 0;obtain⟨_,_,s1,l1,d1⟩:=D.ap E ⟨0,by omega,hn.1.1⟩ hn.1.2 (D.szE e he).1;obtain⟨_,_,s2,l2,d2⟩:=D.ap E ⟨0,by omega,hn.2.1⟩ hn.2.2 (D.szE e he).2;rw[dK_ s1 s2 l1 l2,d1,d2];exact (D.gen (sg K) D.ko.facts.pr).2 D.ko.facts.ext e he
theorem Kd.again (E:Es es)(D:Kd es K){x:Int × Ty}(hx:x∈cD_ K):ApOk (cD_ K) x.2∧bG_ (apF (cD_ K) x.2)∧aM_ (apF (cD_ K) x.2)=aM_ x.2∧eR_ x.2=false:=by
 obtain⟨⟨fr,hf,hn⟩,_,_,e,_,hm⟩:=D.mem E x hx;have hp:=(D.ko.facts.pr x.1).no5;rw[← e] at hp;have hd:=bJ_ x.2 hn.st hp;have hfl:fl (sg K) (dbT [] x.2)=dbT [] x.2:=by rw[hd,e];exact D.ko.facts.idem x.1
 obtain⟨a,b,s1,l1,d1⟩:=D.ap E ⟨fr,hf,hn⟩ hm (by rw[hfl];exact hn.sz);refine⟨a,b,?_,(fG_ x.2).2 hp⟩;rw[dK_ s1 hn.st l1 (d7_ (eL_ E) hn.vn),d1,hfl]
theorem Kd.sorted (D:Kd es K):(cD_ K).Pairwise fun x y=>x.1<y.1:=by
 unfold cD_;rw[List.pairwise_map];have h1:=dU_ K;have h2:=(bq_ K).nodup_iff.2 D.ko.nodup;have:=h1.and h2;exact this.imp fun h=>by have:=h.1;have:=h.2;simp only;omega
end
theorem gY_.form {w:World}{res:Except Nat Kn}{en:Ending}{w':World}(h:gY_ w res en w'):∃ a c R,∃ er:Nat,en=.returned (.tuple #[.slice a (R:Kn).length c,.int .i64 er])∧lK_ w' (.slice a R.length c) R∧Below w.heap.size w w'∧(res=.ok R∧er=0∨res=.error er∧R=[]):=by
 cases res with
 | error er =>
  obtain⟨rfl,hb⟩:=h;exact⟨none,0,[],er,rfl,lK_.nil w',hb,.inr ⟨rfl,rfl⟩⟩
 | ok R =>
  obtain⟨v,ps,T',rfl,hK,hT',hb⟩:=h;have hks:=hK.ks hT';obtain⟨a,c,rfl⟩:=aG_ hK.own;exact⟨a,c,R,0,rfl,hks,hb,.inl ⟨rfl,rfl⟩⟩
theorem ep_.monoT {S T T':Nat→Prop}{w:World}{pv:Value}{es:List EqT}(H:ep_ S T w pv es)(h:∀ b,T b→T' b):ep_ S T' w pv es:=by
 obtain⟨a,cap,e,hl,hc⟩:=H;refine⟨a,cap,e,hl,hc.imp id ?_⟩;rintro ⟨b,off,e,hb,hc⟩;refine⟨b,off,e,hb,fun i hi=>?_⟩;obtain⟨xa,xc,ya,yc,h1,h2,h3⟩:=hc i hi;exact⟨xa,xc,ya,yc,h1,h2.mono h,h3.mono h⟩
def nQ_ (w:World)(pv:Value)(es:List EqT):Prop:=ep_ (Lt w.heap.size) (Lt w.heap.size) w pv es
theorem nQ_.low {w w':World}{pv:Value}{es:List EqT}(h:nQ_ w pv es)(hb:Below w.heap.size w w'):nQ_ w' pv es :=
 ((h.keep (fun b hb'=>hb.block b hb') fun b hb'=>hb.block b hb').mono fun _ hj=>ba_ hj hb.size).monoT fun _ hj=>ba_ hj hb.size
theorem cX_.es {S:Nat→Prop}{lo:Nat}{w:World}{v:Value}{es:List EqT}{ps:List (Value × Value)}(h:cX_ S lo w v es ps)(hl:es.length≤1000000000000)(hS:∀ b,S b→b<w.heap.size):nQ_ w v es :=
 ((h.eqs hl).mono fun b e=>(h.own.lt b e).2).monoT hS
theorem nQ_.call {w:World}{v:Value}{es:List EqT}{j d:Nat}{res:Except Nat Kn}(h:nQ_ w v es)(hs:∀ e∈es,SmT e.1∧SmT e.2)(hl:es.length≤500000000000)(hT:Tab w)(hu:fT_ d j es=some res)(hj:j≤1000000000000) :
  Calls Tryz.prog 14 #[v] w (gY_ w res) :=
 iv_ h (fun _ h=>h) (fun _ h=>h) hs hl hT hu hj
theorem nQ_.one {w:World}{a:OA_}{n c:Nat}{es:List EqT}(h:nQ_ w (.slice a n c) es){i:Nat}(hi:i<es.length):∃ b off xa xc ya yc,a=some ⟨b,off,none⟩∧b<w.heap.size∧(w.cell? ⟨b,off+i*8,none⟩=some (.int .i64 es[i].1.kind)∧w.cell? ⟨b,off+i*8+1,none⟩=some (.string es[i].1.name)∧w.cell? ⟨b,off+i*8+2,none⟩=some (.int .i64 es[i].1.n)∧w.cell? ⟨b,off+i*8+3,none⟩=some (.slice xa es[i].1.args.length xc)) ∧
  (w.cell? ⟨b,off+i*8+4,none⟩=some (.int .i64 es[i].2.kind)∧w.cell? ⟨b,off+i*8+5,none⟩=some (.string es[i].2.name)∧w.cell? ⟨b,off+i*8+6,none⟩=some (.int .i64 es[i].2.n)∧w.cell? ⟨b,off+i*8+7,none⟩=some (.slice ya es[i].2.args.length yc))∧AtW es[i].1 xa xc w∧AtW es[i].2 ya yc w:=by
 obtain⟨a',cap,e,hl,hc⟩:=h;injection e with e1 e2 e3
 subst e1;obtain⟨b,off,rfl,hb,hc⟩:=hc.resolve_left (by intro e;rw[e] at hi;simp at hi);obtain⟨xa,xc,ya,yc,h1,h2,h3⟩:=hc i hi;exact⟨b,off,xa,xc,ya,yc,rfl,hb,⟨h1 0 _ (by omega) rfl,h1 1 _ (by omega) rfl,h1 2 _ (by omega) rfl,h1 3 _ (by omega) rfl⟩,⟨h1 4 _ (by omega) rfl,h1 5 _ (by omega) rfl,h1 6 _ (by omega) rfl,h1 7 _ (by omega) rfl⟩,h2,h3⟩
theorem lK_.at_ {w:World}{a:OA_}{n c:Nat}{R:Kn}(h:lK_ w (.slice a n c) R){i:Nat}(hi:i<R.length):∃ b off xa xc,a=some ⟨b,off,none⟩∧b<w.heap.size∧(w.cell? ⟨b,off+i*5,none⟩=some (.int .i64 R[i].1)∧w.cell? ⟨b,off+i*5+1,none⟩=some (.int .i64 R[i].2.kind)∧w.cell? ⟨b,off+i*5+2,none⟩=some (.string R[i].2.name)∧w.cell? ⟨b,off+i*5+3,none⟩=some (.int .i64 R[i].2.n)∧w.cell? ⟨b,off+i*5+4,none⟩=some (.slice xa R[i].2.args.length xc))∧AtW R[i].2 xa xc w:=by
 obtain⟨a',cap,e,hc⟩:=h;injection e with e1 e2 e3
 subst e1;obtain⟨b,off,rfl,hb,hc⟩:=hc.resolve_left (by intro e;rw[e] at hi;simp at hi);obtain⟨xa,xc,h1,h2⟩:=hc i hi;exact⟨b,off,xa,xc,rfl,hb,⟨h1 0 _ (by omega) rfl,h1 1 _ (by omega) rfl,h1 2 _ (by omega) rfl,h1 3 _ (by omega) rfl,h1 4 _ (by omega) rfl⟩,h2⟩
theorem es_of {ls:List Ln}{es:List EqT}(h:c9_ ls=some es):Es es:=by
 obtain⟨h1,h2,h3,h4,_⟩:=kh_ h;exact⟨h4,h3,by omega⟩
end
end Go.Proofs.YtjecnionbjlncaaGreatDoor.Tp

/- Texts laid together: R3P, R3C. -/
import Derived.Test.YtofllmemmggapaaGreatDoorP31
import Derived.Test.YtofllmemmggapaaGreatDoorP30
import Derived.Test.YtofllmemmggapaaGreatDoorP28

namespace Go.Proofs.YtofllmemmggapaaGreatDoor.Tp
open Lx
theorem apart_mk2 (nm:ByteArray)(u t:Ty)(ht:Mk t)(hs:t.size≤200000)(hu:u.size≤200000):Mk (apartT nm u t):=by
 have h1:=freeT_len t
 have h2:=freeT_len u
 have h3:(butT nm u t).length≤400001:=by unfold butT;simp;omega
 have h4:=cn_le (lname ⟨#[121]⟩) (fun _ _=>lname_inj) (butT nm u t) (dbT [] t) [] 0
 rw[size_db t ht.1 []] at h4
 have h6:t.size*((butT nm u t).length+1)≤200000*400002:=Nat.mul_le_mul hs (by omega)
 exact cn_mk (lname ⟨#[121]⟩) (butT nm u t) 100000000000 (fun j hj=>yname_lex j (by omega)) t [] [] 0 rfl ht (fun x hx=>by cases hx) (by omega)
theorem rPut_db2 (nm:ByteArray)(u t:Ty)(ht:Mk t)(hs:t.size≤200000)(hu:u.size≤200000):dbT [] (rPutT nm u t)=sbT (isVar nm) (dbT [] u) (dbT [] t):=by
 unfold rPutT
 rw[db_sb (isVar nm) u (fun s n=>by simp[isVar_mk]) (fun s n=>by simp[isVar_mk]) _ [] (apart_mk2 nm u t ht hs hu).1 (bnd_mono (fun s h=>⟨h.2,by
  rw[isVar_mk,Bool.and_eq_false_iff]
  right
  rw[← Bool.not_eq_true,eqN_iff]
  exact h.1⟩) _ (apart_bnd nm u t)) (fun x hx=>by cases hx),apart_db nm u t ht.1]
theorem sb_lex (p:Ty→Bool)(u:Ty)(hu:LexT u):∀ t:Ty,LexT t→LexT (sbT p u t):=by
 intro t
 induction t using Ty.ind with
 | h t ih =>
  cases t with
  | mk k s n args =>
   intro h
   rw[sbT_mk]
   split
   ·exact hu
   ·have hh:=(lex_iff _).1 h
    refine (lex_iff _).2 ⟨hh.1,fun a ha=>?_⟩
    obtain⟨b,hb,rfl⟩:=List.mem_map.1 ha
    exact ih b hb (hh.2 b hb)
theorem rPut_mk2 (nm:ByteArray)(u t:Ty)(ht:Mk t)(hu:Mk u)(hs:t.size≤200000)(hus:u.size≤200000):Mk (rPutT nm u t) :=
 ⟨sb_std _ _ hu.1 _ (apart_mk2 nm u t ht hs hus).1,sb_lex _ _ hu.2 _ (apart_mk2 nm u t ht hs hus).2⟩
theorem rPut_same (nm:ByteArray)(u t:Ty)(ht:Mk t)(hu:Mk u)(hs:t.size≤200000)(hus:u.size≤200000)(E:List ByteArray):dbT E (rPutT nm u t)=dbT E (PutT nm u t):=by
 rw[db_ab E _ (rPut_mk2 nm u t ht hu hs hus).1,db_ab E _ (PutT_std nm u t ht.1 hu.1),rPut_db2 nm u t ht hs hus,db_PutT nm u t ht.1]
theorem canon_mk2 (t:Ty)(h:Mk t)(hs:t.size≤200000):Mk (canonT t)∧(canonT t).size=t.size:=by
 have hg:=mk_good t h
 have hfl:=freeT_len t
 have hm:t.size*((freeT t).length+1)≤200000*200001:=Nat.mul_le_mul hs (by omega)
 have hk:=num_keeps t.depth (freeT t) t 0 (Nat.le_refl _) hg (by omega) (by omega)
 have e:=num_cn (freeT t) t.depth t [] 0 (Nat.le_refl _) h.1 (fun x hx=>.inl ((mem_free x t).2 hx)) (fun x hx=>by cases hx)
 refine⟨?_,hk.2.2.2.1⟩
 rw[canonT_cn t h.1]
 rw[e] at hk
 exact cn_mk xname (freeT t) 200000000000 (fun j hj=>xname_lex j (by omega)) t [] [] 0 rfl h (fun x hx=>by cases hx) (by omega)
theorem canon_inj2 {t u:Ty}(ht:Mk t)(hu:Mk u)(hs:t.size≤200000)(hs':u.size≤200000)(e:canonS t=canonS u):dbT [] t=dbT [] u:=by
 have:=print_inj (canon_mk2 t ht hs).1 (canon_mk2 u hu hs').1 e
 rw[← db_canon t ht.1,this,db_canon u hu.1]
theorem sb_sv (nm:ByteArray)(U:Ty):∀ X:Ty,sbT (isVar nm) U X=svT (fun x=>if eqN x nm then some U else none) X:=by
 intro X
 induction X using Ty.ind with
 | h X ih =>
  cases X with
  | mk k s n args =>
   have ha:args.map (sbT (isVar nm) U)=args.map (svT (fun x=>if eqN x nm then some U else none)):=List.map_congr_left fun a ha=>ih a ha
   rw[sbT_mk,svT_mk,isVar_mk,ha]
   by_cases h1:k=1
   ·rw[if_pos h1]
    cases h:eqN s nm with
    | true=>simp[h1]
    | false=>simp
   ·have:(k==1)=false:=by rw[beq_eq_false_iff_ne];exact h1
    rw[if_neg h1,this];simp
theorem sv_sv (v w:ByteArray→Option Ty):∀ X:Ty,svT w (svT v X)=svT (fun x=>match v x with|some u=>some (svT w u)|none=>w x) X:=by
 intro X
 induction X using Ty.ind with
 | h X ih =>
  cases X with
  | mk k s n args =>
   have ha:(args.map (svT v)).map (svT w)=args.map (svT (fun x=>match v x with|some u=>some (svT w u)|none=>w x)):=by
    rw[List.map_map];exact List.map_congr_left fun a ha=>ih a ha
   rw[svT_mk,svT_mk]
   by_cases h1:k=1
   ·rw[if_pos h1,if_pos h1]
    cases hv:v s with
    | some u=>rfl
    | none=>simp only;rw[svT_mk,if_pos h1,ha]
   ·rw[if_neg h1,if_neg h1,svT_mk,if_neg h1,ha]
theorem sizeL_mul2 (f:Ty→Ty)(ts:List Ty)(M:Nat)(h:∀ t∈ts,(f t).size≤t.size*M):sizeL (ts.map f)≤sizeL ts*M:=by
 induction ts with
 | nil=>simp[sizeL]
 | cons t ts ih =>
  have h1:=h t (by simp)
  have h2:=ih fun a ha=>h a (by simp[ha])
  rw[List.map_cons,sizeL,sizeL,Nat.add_mul]
  omega
theorem sv_size (v:ByteArray→Option Ty)(M:Nat)(hM:1≤M)(h:∀ x u,v x=some u→u.size≤M):∀ X:Ty,(svT v X).size≤X.size*M:=by
 intro X
 induction X using Ty.ind with
 | h X ih =>
  cases X with
  | mk k s n args =>
   have ha:=sizeL_mul2 (svT v) args M ih
   have hx:(Ty.mk k s n args).size=sizeL args+1:=Ty.size_eq _
   have hgen:(Ty.mk k s n (args.map (svT v))).size≤(Ty.mk k s n args).size*M:=by
    rw[Ty.size_eq,hx,Nat.add_mul]
    show sizeL (args.map (svT v))+1≤_
    omega
   rw[svT_mk]
   by_cases h1:k=1
   ·rw[if_pos h1]
    cases hv:v s with
    | some u =>
     have:=h s u hv
     rw[hx,Nat.add_mul]
     show u.size≤_
     omega
    | none=>exact hgen
   ·rw[if_neg h1];exact hgen
def asc (ks:List ByteArray)(us:List Ty)(x:ByteArray):Option Ty:=(ixN ks x).bind fun i=>us[i]?
theorem asc_cons (k:ByteArray)(ks:List ByteArray)(u:Ty)(us:List Ty)(x:ByteArray):asc (k :: ks) (u :: us) x=if eqN k x then some u else asc ks us x:=by
 unfold asc
 rw[ixN]
 cases h:eqN k x with
 | true=>simp
 | false=>cases ixN ks x<;>simp
theorem lk_asc:∀ (l:Fnd) (x:ByteArray),lkF l x=asc (l.map Prod.fst) (l.map Prod.snd) x
 | [],x=>rfl
 | e :: l,x=>by
  rw[List.map_cons,List.map_cons,asc_cons,← lk_asc l x]
  unfold lkF
  rw[List.find?_cons]
  cases eqN e.1 x<;>rfl
theorem asc_some {ks:List ByteArray}{us:List Ty}{x:ByteArray}{u:Ty}(h:asc ks us x=some u):x∈ks∧u∈us:=by
 unfold asc at h
 obtain⟨i,h1,h2⟩:=Option.bind_eq_some_iff.1 h
 exact⟨List.mem_of_getElem? (ixN_get ks x i h1),List.mem_of_getElem? h2⟩
theorem asc_out {ks:List ByteArray}{us:List Ty}{x:ByteArray}(h:x∉ks):asc ks us x=none:=by
 unfold asc
 rw[(ixN_none ks x).2 h];rfl
def vrT (m:ByteArray):Ty:=.mk 1 m 0 []
theorem asc_two {ks ms:List ByteArray}{us:List Ty}(hl:ms.length=ks.length)(hu:us.length=ks.length)(hn:ms.Nodup)(x:ByteArray)(hx:x∉ms) :
  (match asc ks (ms.map vrT) x with|some u=>some (svT (asc ms us) u)|none=>asc ms us x)=asc ks us x:=by
 rw[asc_out hx]
 unfold asc
 cases h:ixN ks x with
 | none=>simp
 | some i =>
  have hg:=ixN_get ks x i h
  have hi:i<ks.length:=(List.getElem?_eq_some_iff.1 hg).1
  have hi':i<ms.length:=by omega
  have hi2:i<us.length:=by omega
  simp only[Option.bind_some,List.getElem?_map,List.getElem?_eq_getElem hi',List.getElem?_eq_getElem hi2,Option.map_some]
  unfold vrT
  rw[svT_mk,if_pos rfl,ixN_of_get ms ms[i] i hn (List.getElem?_eq_getElem hi')]
  simp only[Option.bind_some,List.getElem?_eq_getElem hi2]
def zn (k:Nat):ByteArray:=lname ⟨#[122]⟩ k
def wn (k:Nat):ByteArray:=lname ⟨#[119]⟩ k
def pa1 (avoid:List ByteArray):Fnd→Nat→Ty→List ByteArray × Ty
 | [],_,t=>([],t)
 | e :: l,k,t=>(wn (nx wn avoid k) :: (pa1 avoid l (nx wn avoid k+1) (rPutT e.1 (vrT (wn (nx wn avoid k))) t)).1,(pa1 avoid l (nx wn avoid k+1) (rPutT e.1 (vrT (wn (nx wn avoid k))) t)).2)
def pa2:List ByteArray→Fnd→Ty→Ty
 | m :: ms,e :: l,t=>pa2 ms l (rPutT m e.2 t)
 | _,_,t=>t
def avT (t:Ty)(l:Fnd):List ByteArray:=freeT t++l.flatMap fun e=>freeT e.2++[e.1]
def paT (t:Ty)(l:Fnd):Ty:=pa2 (pa1 (avT t l) l 0 t).1 l (pa1 (avT t l) l 0 t).2
structure PutOk (l:Fnd)(M:Nat):Prop where
 mono:∀ e∈l,Mono e.2
 mm:∀ e∈l,Mk e.2
 size:∀ e∈l,e.2.size≤M
theorem PutOk.tail {e:ByteArray × Ty}{l:Fnd}{M:Nat}(h:PutOk (e :: l) M):PutOk l M:=⟨fun x hx=>h.mono x (by simp[hx]),fun x hx=>h.mm x (by simp[hx]),fun x hx=>h.size x (by simp[hx])⟩
theorem wn_lex (k:Nat)(h:k<1000000000000):LexN (wn k):=lname_lex 119 (by decide) k h
theorem vr_mk {s:ByteArray}(h:LexN s):Mk (vrT s):=⟨std_var _,lex_var h⟩
theorem pa1_ok (avoid:List ByteArray)(P:Ty)(M:Nat)(hM:1≤M)(hPM:P.size*M≤200000)(hav:avoid.length≤1000000):∀ (l:Fnd) (k:Nat) (t:Ty) (V:ByteArray→Option Ty),Mk t→dbT [] t=svT V P→(∀ x u,V x=some u→u.size≤M)→(∀ e∈l,e.1∈avoid)→k+l.length*(avoid.length+1)≤100000000000 →
  (pa1 avoid l k t).1.length=l.length∧(pa1 avoid l k t).1.Nodup∧(∀ m∈(pa1 avoid l k t).1,m∉avoid∧LexN m∧∃ j,k≤j∧m=wn j)∧Mk (pa1 avoid l k t).2 ∧
   ∃ V',(∀ x u,V' x=some u→u.size≤M)∧dbT [] (pa1 avoid l k t).2=svT V' P∧dbT [] (pa1 avoid l k t).2=svT (asc (l.map Prod.fst) ((pa1 avoid l k t).1.map vrT)) (dbT [] t):=by
 intro l
 induction l with
 | nil =>
  intro k t V ht hd hV _ _
  refine⟨rfl,List.nodup_nil,fun m hm=>(by cases hm),ht,V,hV,hd,?_⟩
  show dbT [] t=svT (asc [] []) (dbT [] t)
  exact (sv_none _ _ fun x _=>rfl).symm
 | cons e l ih =>
  intro k t V ht hd hV hin hk
  have hsp:=firstN_spec wn (fun _ _=>lname_inj) avoid k
  obtain⟨m,hm⟩:∃ m,nx wn avoid k=m:=⟨_,rfl⟩
  rw[show firstN wn avoid (avoid.length+1) k=m from hm] at hsp
  rw[List.length_cons,Nat.add_mul] at hk
  have hlx:LexN (wn m):=wn_lex m (by omega)
  have hma:wn m∉avoid:=(hasN_false _ _).1 hsp.2.2.2
  have hts:t.size≤200000:=by
   rw[← size_db t ht.1 [],hd]
   exact Nat.le_trans (sv_size V M hM hV P) hPM
  have hv1:(vrT (wn m)).size≤200000:=by show 1≤200000;omega
  have hmk:=rPut_mk2 e.1 (vrT (wn m)) t ht (vr_mk hlx) hts hv1
  have hdb:=rPut_db2 e.1 (vrT (wn m)) t ht hts hv1
  rw[show dbT [] (vrT (wn m))=vrT (wn m) from rfl,sb_sv] at hdb
  have hd2:=hdb
  rw[hd,sv_sv] at hd2
  obtain⟨q1,q2,q3,q4,V',q5,q6,q7⟩:=ih (m+1) (rPutT e.1 (vrT (wn m)) t) _ hmk hd2 (fun x u hx=>by
   cases hvx:V x with
   | some u0 =>
    rw[hvx] at hx
    simp only[Option.some.injEq] at hx
    rw[← hx]
    have h0:=hV x u0 hvx
    have:(svT (fun x=>if eqN x e.1 then some (vrT (wn m)) else none) u0).size≤u0.size*1:=sv_size _ 1 (Nat.le_refl _) (fun y w hw=>by
     split at hw
     ·injection hw with hw;rw[← hw];exact Nat.le_refl _
     ·cases hw) u0
    omega
   | none =>
    rw[hvx] at hx
    simp only at hx
    split at hx
    ·injection hx with hx;rw[← hx];exact hM
    ·cases hx) (fun x hx=>hin x (by simp[hx])) (by omega)
  have er:pa1 avoid (e :: l) k t=(wn m :: (pa1 avoid l (m+1) (rPutT e.1 (vrT (wn m)) t)).1,(pa1 avoid l (m+1) (rPutT e.1 (vrT (wn m)) t)).2):=by rw[pa1,hm]
  rw[er]
  generalize pa1 avoid l (m+1) (rPutT e.1 (vrT (wn m)) t)=r at *
  refine⟨by simp[q1],List.nodup_cons.2 ⟨fun h=>?_,q2⟩,fun x hx=>?_,q4,V',q5,q6,?_⟩
  ·obtain⟨_,_,j,hj,ej⟩:=q3 _ h
   have:=lname_inj ej
   omega
  ·rcases List.mem_cons.1 hx with rfl|hx
   ·exact⟨hma,hlx,m,hsp.1,rfl⟩
   ·obtain⟨h1,h2,j,hj,ej⟩:=q3 x hx
    exact⟨h1,h2,j,by omega,ej⟩
  ·show dbT [] r.2=svT (asc (e.1 :: l.map Prod.fst) (vrT (wn m) :: r.1.map vrT)) (dbT [] t)
   rw[q7,hdb,sv_sv]
   refine sv_congr _ _ _ fun x _=>?_
   rw[asc_cons]
   have hsym:eqN x e.1=eqN e.1 x:=by
    rw[Bool.eq_iff_iff,eqN_iff,eqN_iff];exact⟨fun h=>h.symm,fun h=>h.symm⟩
   rw[hsym]
   cases h:eqN e.1 x with
   | true =>
    simp only[if_true]
    have hne:wn m∉l.map Prod.fst:=fun hm'=>by
     obtain⟨y,hy,ey⟩:=List.mem_map.1 hm'
     exact hma (by rw[← ey];exact hin y (by simp[hy]))
    unfold vrT
    rw[svT_mk,if_pos rfl,asc_out hne];rfl
   | false=>rfl
theorem pa2_ok (P:Ty)(M:Nat)(hM:1≤M)(hPM:P.size*M≤200000):∀ (ms:List ByteArray) (l:Fnd) (t:Ty) (V:ByteArray→Option Ty),ms.length=l.length→Mk t→dbT [] t=svT V P→(∀ x u,V x=some u→u.size≤M)→PutOk l M→(∀ m∈ms,∀ e∈l,¬ vnT m e.2) →
  (∀ m∈ms,∀ x u,V x=some u→vnT m u→u=vrT m)→ms.Nodup→Mk (pa2 ms l t)∧(∃ V',(∀ x u,V' x=some u→u.size≤M)∧dbT [] (pa2 ms l t)=svT V' P)∧dbT [] (pa2 ms l t)=svT (asc ms (l.map Prod.snd)) (dbT [] t):=by
 intro ms
 induction ms with
 | nil =>
  intro l t V hl ht hd hV _ _ _ _
  have:l=[]:=List.eq_nil_of_length_eq_zero hl.symm
  subst this
  exact⟨ht,⟨V,hV,hd⟩,(sv_none _ _ fun x _=>rfl).symm⟩
 | cons m ms ih =>
  intro l t V hl ht hd hV hP hno hVm hnd
  cases l with
  | nil=>cases hl
  | cons e l =>
   have hts:t.size≤200000:=by
    rw[← size_db t ht.1 [],hd]
    exact Nat.le_trans (sv_size V M hM hV P) hPM
   have hMl:M≤200000:=Nat.le_trans (Nat.le_mul_of_pos_left _ (by rw[P.size_eq];omega)) hPM
   have hes:e.2.size≤200000:=Nat.le_trans (hP.size e (by simp)) hMl
   have hmk:=rPut_mk2 m e.2 t ht (hP.mm e (by simp)) hts hes
   have hdb:=rPut_db2 m e.2 t ht hts hes
   rw[db_mono e.2 [] (hP.mono e (by simp)) (fun x _ h=>by cases h),sb_sv] at hdb
   have hd2:=hdb
   rw[hd,sv_sv] at hd2
   have key:∀ x u,(match V x with|some u=>some (svT (fun x=>if eqN x m then some e.2 else none) u)|none=>(if eqN x m then some e.2 else none))=some u→(u=e.2∨V x=some u):=fun x u hx=>by
    cases hvx:V x with
    | some u0 =>
     rw[hvx] at hx
     simp only[Option.some.injEq] at hx
     by_cases hm:vnT m u0
     ·have:=hVm m (by simp) x u0 hvx hm
      subst this
      left
      rw[← hx]
      unfold vrT
      rw[svT_mk,if_pos rfl,(eqN_iff m m).2 rfl];rfl
     ·right
      rw[← hx,sv_none]
      intro y hy
      have:eqN y m=false:=by rw[← Bool.not_eq_true,eqN_iff];rintro rfl;exact hm hy
      rw[this];rfl
    | none =>
     rw[hvx] at hx
     simp only at hx
     split at hx
     ·injection hx with hx;exact .inl hx.symm
     ·cases hx
   obtain⟨q1,q2,q3⟩:=ih l (rPutT m e.2 t) _ (by simpa using hl) hmk hd2 (fun x u hx=>by
     rcases key x u hx with h|h
     ·rw[h];exact hP.size e (by simp)
     ·exact hV x u h) hP.tail (fun m' hm' e' he'=>hno m' (by simp[hm']) e' (by simp[he'])) (fun m' hm' x u hx hvn=>by
     rcases key x u hx with h|h
     ·rw[h] at hvn;exact absurd hvn (hno m' (by simp[hm']) e (by simp))
     ·exact hVm m' (by simp[hm']) x u h hvn) (List.nodup_cons.1 hnd).2
   refine⟨q1,q2,?_⟩
   show dbT [] (pa2 ms l (rPutT m e.2 t))=svT (asc (m :: ms) (e.2 :: l.map Prod.snd)) (dbT [] t)
   rw[q3,hdb,sv_sv]
   refine sv_congr _ _ _ fun x _=>?_
   rw[asc_cons]
   have hsym:eqN x m=eqN m x:=by
    rw[Bool.eq_iff_iff,eqN_iff,eqN_iff];exact⟨fun h=>h.symm,fun h=>h.symm⟩
   rw[hsym]
   cases h:eqN m x with
   | true =>
    simp only[if_true]
    rw[sv_none]
    intro y hy
    exact asc_out fun hym=>hno y (by simp[hym]) e (by simp) hy
   | false=>rfl
theorem pa_db {t:Ty}{l:Fnd}{M:Nat}(ht:Mk t)(hM:1≤M)(hPM:t.size*M≤200000)(hP:PutOk l M)(hav:(avT t l).length≤1000000)(hll:l.length≤10000) :
  Mk (paT t l)∧(paT t l).size≤200000∧dbT [] (paT t l)=svT (lkF l) (dbT [] t):=by
 have hin:∀ e∈l,e.1∈avT t l:=fun e he=>by
  unfold avT
  rw[List.mem_append,List.mem_flatMap]
  exact .inr ⟨e,he,by simp⟩
 have hdz:=size_db t ht.1 []
 have hk:0+l.length*((avT t l).length+1)≤100000000000:=by
  have:=Nat.mul_le_mul hll (show (avT t l).length+1≤1000001 by omega)
  omega
 obtain⟨q1,q2,q3,q4,V',q5,q6,q7⟩:=pa1_ok (avT t l) (dbT [] t) M hM (by rw[hdz];exact hPM) hav l 0 t (fun _=>none) ht (sv_none _ _ fun x _=>rfl).symm (fun x u h=>by cases h) hin hk
 have hfree:∀ m∈(pa1 (avT t l) l 0 t).1,∀ e∈l,¬ vnT m e.2:=fun m hm e he hv=>by
  refine (q3 m hm).1 ?_
  unfold avT
  rw[List.mem_append,List.mem_flatMap]
  refine .inr ⟨e,he,?_⟩
  rw[List.mem_append]
  left
  rw[mem_free]
  have hmm:=hP.mono e he
  have:=(vn_db m e.2 [] hmm.1).1 (by rw[db_mono e.2 [] hmm (fun x _ h=>by cases h)];exact hv)
  exact this.1
 have hsame:svT V' (dbT [] t)=svT (asc (l.map Prod.fst) ((pa1 (avT t l) l 0 t).1.map vrT)) (dbT [] t):=by rw[← q6,q7]
 obtain⟨r1,⟨W,r2,r3⟩,r4⟩:=pa2_ok (dbT [] t) M hM (by rw[hdz];exact hPM) (pa1 (avT t l) l 0 t).1 l (pa1 (avT t l) l 0 t).2 (asc (l.map Prod.fst) ((pa1 (avT t l) l 0 t).1.map vrT)) q1 q4 q7 (fun x u h=>by
   obtain⟨m,_,rfl⟩:=List.mem_map.1 (asc_some h).2
   exact hM) hP hfree (fun m hm x u h hv=>by
   obtain⟨m',_,rfl⟩:=List.mem_map.1 (asc_some h).2
   unfold vrT at hv ⊢
   rcases (vn_mk _ _ _ _ _).1 hv with h|⟨a,ha,_⟩
   ·rw[h.2]
   ·cases ha) q2
 refine⟨r1,?_,?_⟩
 ·show (pa2 (pa1 (avT t l) l 0 t).1 l (pa1 (avT t l) l 0 t).2).size≤200000
  rw[← size_db _ r1.1 [],r3]
  have:=sv_size W M hM r2 (dbT [] t)
  rw[hdz] at this
  omega
 ·show dbT [] (pa2 (pa1 (avT t l) l 0 t).1 l (pa1 (avT t l) l 0 t).2)=_
  rw[r4,q7,sv_sv]
  refine sv_congr _ _ _ fun x hx=>?_
  rw[lk_asc]
  refine asc_two (by rw[q1,List.length_map]) (by rw[List.length_map,List.length_map]) q2 x fun hm=>?_
  refine (q3 x hm).1 ?_
  unfold avT
  rw[List.mem_append]
  left
  rw[mem_free]
  exact ((vn_db x t [] ht.1).1 hx).1
theorem stdK_len {k:Int}{s:ByteArray}{n:Int}{l l':List Ty}(h:StdK (.mk k s n l))(hl:l'.length=l.length):StdK (.mk k s n l'):=by
 have hnil:l=[]→l'=[]:=fun e=>by subst e;exact List.eq_nil_of_length_eq_zero hl
 unfold StdK at *
 simp only[Ty.kind,Ty.name,Ty.n,Ty.args] at *
 rcases h with h|h|h|h|h
 ·exact .inl ⟨h.1,h.2.1,hnil h.2.2⟩
 ·exact .inr (.inl ⟨h.1,h.2.1,hnil h.2.2.1,h.2.2.2⟩)
 ·exact .inr (.inr (.inl h))
 ·refine .inr (.inr (.inr (.inl ?_)))
  rw[hl];exact h
 ·refine .inr (.inr (.inr (.inr ?_)))
  rw[hl];exact h
def rnF (but:List ByteArray):Nat→Nat→Ty→Ty × Nat
 | 0,k,t=>(t,k)
 | d+1,k,t=>if t.kind=5 then
   (.mk 5 (zn (nx zn but k)) 0 (mapAcc (rnF but d) (nx zn but k+1) [rPutT t.name (vrT (zn (nx zn but k))) (arg0T t)]).1,(mapAcc (rnF but d) (nx zn but k+1) [rPutT t.name (vrT (zn (nx zn but k))) (arg0T t)]).2)
  else (.mk t.kind t.name t.n (mapAcc (rnF but d) k t.args).1,(mapAcc (rnF but d) k t.args).2)
structure RnOk (but:List ByteArray)(k:Nat)(t:Ty)(r:Ty × Nat):Prop where
 mm:Mk r.1
 db:∀ E,dbT E r.1=dbT E t
 bnd:bndT (fun s=>s∉but) r.1
 size:r.1.size≤t.size
 lo:k≤r.2
 hi:r.2≤k+t.size*(but.length+1)
structure RnL (but:List ByteArray)(k:Nat)(l:List Ty)(r:List Ty × Nat):Prop where
 len:r.1.length=l.length
 mm:∀ a∈r.1,Mk a
 db:∀ E,r.1.map (dbT E)=l.map (dbT E)
 bnd:∀ a∈r.1,bndT (fun s=>s∉but) a
 size:sizeL r.1≤sizeL l
 lo:k≤r.2
 hi:r.2≤k+sizeL l*(but.length+1)
def RnIn (but:List ByteArray)(k:Nat)(t:Ty):Prop:=∀ x,fvT x t→x∈but∨∃ j,j<k∧x=zn j
theorem RnIn.up {but:List ByteArray}{k k':Nat}{t:Ty}(h:RnIn but k t)(hk:k≤k'):RnIn but k' t:=fun x hx=>(h x hx).imp id fun ⟨j,hj,e⟩=>⟨j,by omega,e⟩
theorem rn_list (but:List ByteArray)(F:Nat→Ty→Ty × Nat)(B:Nat):∀ (l:List Ty) (k:Nat),(∀ a∈l,∀ k,RnIn but k a→k+a.size*(but.length+1)≤B→RnOk but k a (F k a))→(∀ a∈l,RnIn but k a)→k+sizeL l*(but.length+1)≤B→RnL but k l (mapAcc F k l):=by
 intro l
 induction l with
 | nil=>intro k _ _ _;exact⟨rfl,fun a ha=>(by cases ha),fun E=>rfl,fun a ha=>(by cases ha),Nat.le_refl _,Nat.le_refl _,Nat.le_add_right _ _⟩
 | cons a l ih =>
  intro k hF hin hB
  rw[sizeL,Nat.add_mul] at hB
  have R:=hF a (by simp) k (hin a (by simp)) (by omega)
  have h1:=R.hi
  have h2:=R.lo
  have L:=ih (F k a).2 (fun b hb=>hF b (by simp[hb])) (fun b hb=>(hin b (by simp[hb])).up h2) (by omega)
  rw[mapAcc]
  generalize F k a=r at *
  generalize mapAcc F r.2 l=q at *
  have h3:=L.hi
  have h4:=L.lo
  have h5:=L.size
  have h6:=R.size
  refine⟨by simp[L.len],fun b hb=>?_,fun E=>?_,fun b hb=>?_,?_,by show k≤q.2;omega,?_⟩
  ·rcases List.mem_cons.1 hb with rfl|hb
   ·exact R.mm
   ·exact L.mm b hb
  ·rw[List.map_cons,List.map_cons,R.db,L.db]
  ·rcases List.mem_cons.1 hb with rfl|hb
   ·exact R.bnd
   ·exact L.bnd b hb
  ·show sizeL (r.1 :: q.1)≤_
   rw[sizeL,sizeL];omega
  ·show q.2≤_
   rw[sizeL,Nat.add_mul];omega
theorem zn_lex (k:Nat)(h:k<1000000000000):LexN (zn k):=lname_lex 122 (by decide) k h
theorem rn_ok (but:List ByteArray):∀ (d k:Nat) (t:Ty),t.depth≤d→Mk t→t.size≤100000→RnIn but k t→k+t.size*(but.length+1)≤100000000000→RnOk but k t (rnF but d k t):=by
 intro d
 induction d with
 | zero=>intro k t h;rw[t.depth_eq] at h;omega
 | succ d ih =>
  intro k t hd hm hs hin hB
  have hargs:∀ a∈t.args,a.depth≤d∧a.size≤100000:=fun a ha=>by
   have h1:=depth_arg _ ha
   have h2:=size_arg _ ha
   rw[t.depth_eq] at hd
   rw[t.size_eq] at hs
   omega
  by_cases h5:t.kind=5
  ·obtain⟨b,hb,hb0⟩:=std_k5 hm.1 h5
   have hbm:b∈t.args:=by rw[hb];simp
   have hmb:=mk_args hm b hbm
   have hsp:=firstN_spec zn (fun _ _=>lname_inj) but k
   obtain⟨m,hm0⟩:∃ m,nx zn but k=m:=⟨_,rfl⟩
   rw[show firstN zn but (but.length+1) k=m from hm0] at hsp
   have hts:t.size=b.size+1:=by rw[t.size_eq,hb];simp[sizeL]
   rw[hts,Nat.add_mul] at hB
   have hx:LexN (zn m):=zn_lex m (by omega)
   have hxb:zn m∉but:=(hasN_false _ _).1 hsp.2.2.2
   have hmv:Mk (vrT (zn m)):=vr_mk hx
   have hxf:zn m=t.name∨¬ fvT (zn m) b:=by
    by_cases he:zn m=t.name
    ·exact .inl he
    ·refine .inr fun h=>?_
     rcases hin _ ((fvT_iff _ t).2 (.inr ⟨⟨b,hbm,h⟩,fun e=>he e.2.symm⟩)) with h|⟨j,hj,e⟩
     ·exact hxb h
     ·have:=lname_inj e;omega
   obtain⟨hdb,hsb⟩:=hargs b hbm
   have hbs:b.size≤200000:=by omega
   have hvs:(vrT (zn m)).size≤200000:=by show 1≤200000;omega
   have hmk:=rPut_mk2 t.name (vrT (zn m)) b hmb hmv hbs hvs
   have hsame:=rPut_same t.name (vrT (zn m)) b hmb hmv hbs hvs
   have hdep:(rPutT t.name (vrT (zn m)) b).depth≤d:=by
    have h1:=PutT_depth t.name (vrT (zn m)) b hmb.1 hmv.1
    have e2:(vrT (zn m)).depth=1:=rfl
    rw[← depth_db _ hmk.1 [],hsame [],depth_db _ (PutT_std t.name (vrT (zn m)) b hmb.1 hmv.1) []]
    omega
   have hsz:(rPutT t.name (vrT (zn m)) b).size≤b.size:=by
    rw[← size_db _ hmk.1 [],rPut_db2 t.name (vrT (zn m)) b hmb hbs hvs,sb_sv]
    have:=sv_size (fun x=>if eqN x t.name then some (dbT [] (vrT (zn m))) else none) 1 (Nat.le_refl _) (fun x u hu=>by
     split at hu
     ·injection hu with hu;rw[← hu];exact Nat.le_refl _
     ·cases hu) (dbT [] b)
    rw[size_db b hmb.1 [],Nat.mul_one] at this
    exact this
   have hin2:RnIn but (m+1) (rPutT t.name (vrT (zn m)) b):=fun x h=>by
    have hv:=(vn_db x _ [] hmk.1).2 ⟨h,by simp⟩
    rw[hsame []] at hv
    have hv2:=((vn_db x _ [] (PutT_std t.name (vrT (zn m)) b hmb.1 hmv.1)).1 hv).1
    rcases put_name_fv x _ _ b hmb.1 hv2 with h|h
    ·exact .inr ⟨m,by omega,h⟩
    ·rcases hin x ((fvT_iff x t).2 (.inr ⟨⟨b,hbm,h.1⟩,fun e=>h.2 e.2.symm⟩)) with h|⟨j,hj,e⟩
     ·exact .inl h
     ·exact .inr ⟨j,by omega,e⟩
   have hmul:(rPutT t.name (vrT (zn m)) b).size*(but.length+1)≤b.size*(but.length+1):=Nat.mul_le_mul_right _ hsz
   have R:=ih (m+1) (rPutT t.name (vrT (zn m)) b) hdep hmk (by omega) hin2 (by omega)
   have er:rnF but (d+1) k t=(.mk 5 (zn m) 0 [(rnF but d (m+1) (rPutT t.name (vrT (zn m)) b)).1],(rnF but d (m+1) (rPutT t.name (vrT (zn m)) b)).2):=by
    rw[rnF,if_pos h5,hm0,hb0];rfl
   rw[er]
   generalize rnF but d (m+1) (rPutT t.name (vrT (zn m)) b)=r at *
   have h7:=R.size
   have h8:=R.lo
   have h9:=R.hi
   refine⟨⟨std_all (zn m) R.mm.1,lex_all hx R.mm.2⟩,fun E=>?_,(bnd_iff _ _).2 ⟨fun _=>hxb,fun a ha=>?_⟩,?_,by show k≤r.2;have:=hsp.1;omega,?_⟩
   ·rw[dbT_all E (.mk 5 (zn m) 0 [r.1]) rfl,dbT_all E t h5,hb]
    show Ty.mk 5 emp 0 [dbT (zn m :: E) r.1]=Ty.mk 5 emp 0 [dbT (t.name :: E) b]
    rw[R.db,hsame,show vrT (zn m)=.mk 1 (zn m) 0 [] from rfl,put_name_db t.name (zn m) b E hmb.1 hxf]
   ·obtain rfl:=List.mem_singleton.1 ha
    exact R.bnd
   ·rw[Ty.size_eq,hts]
    show sizeL [r.1]+1≤_
    simp[sizeL];omega
   ·show r.2≤_
    rw[hts,Nat.add_mul]
    have:=hsp.2.1
    omega
  ·have er:rnF but (d+1) k t=(.mk t.kind t.name t.n (mapAcc (rnF but d) k t.args).1,(mapAcc (rnF but d) k t.args).2):=by rw[rnF,if_neg h5]
   have hts:=t.size_eq
   rw[hts,Nat.add_mul] at hB
   have L:=rn_list but (rnF but d) 100000000000 t.args k (fun a ha k' hin' hB'=>ih k' a (hargs a ha).1 (mk_args hm a ha) (hargs a ha).2 hin' hB')
    (fun a ha x hx=>hin x ((fvT_iff x t).2 (.inr ⟨⟨a,ha,hx⟩,fun e=>h5 e.1⟩))) (by omega)
   rw[er]
   generalize mapAcc (rnF but d) k t.args=q at *
   have h7:=L.size
   have h8:=L.hi
   have hstd:Std (.mk t.kind t.name t.n q.1):=(std_iff _).2 ⟨by
    have h0:=((std_iff t).1 hm.1).1
    rw[← ty_eta t] at h0
    exact stdK_len h0 L.len,fun a ha=>(L.mm a ha).1⟩
   refine⟨⟨hstd,lex_args hm.2 _ fun a ha=>(L.mm a ha).2⟩,fun E=>?_,(bnd_iff _ _).2 ⟨fun e=>absurd e h5,L.bnd⟩,?_,L.lo,?_⟩
   ·by_cases h1:t.kind=1
    ·obtain⟨hn,ha⟩:=hm.1.k1 h1
     have hq:q.1=[]:=List.eq_nil_of_length_eq_zero (by rw[L.len,ha];rfl)
     have:Ty.mk t.kind t.name t.n q.1=t:=by rw[hq,← ha];exact ty_eta t
     rw[this]
    ·rw[dbT_other E (.mk t.kind t.name t.n q.1) h1 h5,dbT_other E t h1 h5]
     show Ty.mk t.kind t.name t.n (q.1.map (dbT E))=_
     rw[L.db]
   ·rw[Ty.size_eq,hts]
    show sizeL q.1+1≤_
    omega
   ·show q.2≤_
    rw[hts,Nat.add_mul]
    omega
section
variable (own : List ByteArray)
mutual
def colT:Ty→Ty→Fnd→Option Fnd
 | .mk k s n args,t,out =>
  if k=1∧hasN own s=true then some (if (lkF out s).isSome then out else out++[(s,t)])
  else if k≠t.kind∨n≠t.n∨args.length≠t.args.length∨(k=3∧s≠t.name) then none
  else colL args t.args out
def colL:List Ty→List Ty→Fnd→Option Fnd
 | [],_,out=>some out
 | p :: ps,ts,out=>match ts with
  | []=>some out
  | t :: ts=>match colT p t out with
   | none=>none
   | some l=>colL ps ts l
end
end
theorem colT_eq (own:List ByteArray)(p t:Ty)(out:Fnd):colT own p t out=if p.kind=1∧hasN own p.name=true then some (if (lkF out p.name).isSome then out else out++[(p.name,t)])
  else if p.kind≠t.kind∨p.n≠t.n∨p.args.length≠t.args.length∨(p.kind=3∧p.name≠t.name) then none else colL own p.args t.args out:=by
 cases p with
 | mk k s n args=>rw[colT];rfl
theorem lk_mem (l:Fnd)(x:ByteArray):(lkF l x).isSome=true↔x∈l.map Prod.fst:=by
 unfold lkF
 rw[Option.isSome_map,List.find?_isSome]
 constructor
 ·rintro ⟨e,he,h⟩
  exact List.mem_map.2 ⟨e,he,(eqN_iff _ _).1 h⟩
 ·intro h
  obtain⟨e,he,rfl⟩:=List.mem_map.1 h
  exact⟨e,he,(eqN_iff _ _).2 rfl⟩
def ColS (own:List ByteArray)(P:Ty→Prop)(x:Ty):Prop:=∀ (y:Ty) (ex g:List ByteArray) (out l:Fnd),Std x→P y→bndT (fun s=>s∉own) x→(∀ n∈ex,n∉own)→out.map Prod.fst=g.filter (hasN own)→(∀ e∈out,P e.2)→colT own x y out=some l →
 l.map Prod.fst=(walkF freeStep x g ex).filter (hasN own)∧∀ e∈l,P e.2
theorem colL_sound (own:List ByteArray)(P:Ty→Prop):∀ (xs ys:List Ty) (ex g:List ByteArray) (out l:Fnd),(∀ x∈xs,ColS own P x∧Std x∧bndT (fun s=>s∉own) x)→(∀ y∈ys,P y)→xs.length=ys.length→(∀ n∈ex,n∉own)→out.map Prod.fst=g.filter (hasN own)→(∀ e∈out,P e.2)→colL own xs ys out=some l →
  l.map Prod.fst=(walkL freeStep xs g ex).filter (hasN own)∧∀ e∈l,P e.2:=by
 intro xs
 induction xs with
 | nil =>
  intro ys ex g out l _ _ _ _ ho hP h
  rw[colL] at h
  injection h with h
  subst h
  exact⟨ho,hP⟩
 | cons x xs ih =>
  intro ys ex g out l hx hy hl he ho hP h
  cases ys with
  | nil=>cases hl
  | cons y ys =>
   rw[colL] at h
   cases hc:colT own x y out with
   | none=>rw[hc] at h;cases h
   | some l1 =>
    rw[hc] at h
    simp only at h
    obtain⟨h1,h2⟩:=(hx x (by simp)).1 y ex g out l1 (hx x (by simp)).2.1 (hy y (by simp)) (hx x (by simp)).2.2 he ho hP hc
    rw[walkL]
    exact ih ys ex _ l1 l (fun a ha=>hx a (by simp[ha])) (fun a ha=>hy a (by simp[ha])) (by simpa using hl) he h1 h2 h
theorem col_sound (own:List ByteArray)(P:Ty→Prop)(hPa:∀ t,P t→∀ a∈t.args,P a):∀ x:Ty,ColS own P x:=by
 intro x
 induction x using Ty.ind with
 | h x ih =>
  intro y ex g out l hs hPy hb he ho hP h
  rw[colT_eq] at h
  rw[walkF_eq]
  by_cases h1:x.kind=1
  ·obtain⟨hn,ha⟩:=hs.k1 h1
   rw[ha,walkL]
   by_cases hown:hasN own x.name=true
   ·rw[if_pos ⟨h1,hown⟩] at h
    injection h with h
    have hne:hasN ex x.name=false:=hasN_not fun hm=>he _ hm ((hasN_iff _ _).1 hown)
    by_cases hin:(lkF out x.name).isSome=true
    ·rw[if_pos hin] at h
     subst h
     have hg:hasN g x.name=true:=by
      have:=(lk_mem out x.name).1 hin
      rw[ho,List.mem_filter] at this
      exact (hasN_iff _ _).2 this.1
     unfold freeStep
     rw[hg]
     simp only[Bool.not_true,Bool.and_false,Bool.false_eq_true,if_false]
     exact⟨ho,hP⟩
    ·rw[if_neg hin] at h
     subst h
     have hg:hasN g x.name=false:=hasN_not fun hm=>hin ((lk_mem out x.name).2 (by rw[ho,List.mem_filter];exact⟨hm,hown⟩))
     unfold freeStep
     rw[hg,hne,h1]
     refine⟨?_,fun e he=>?_⟩
     ·rw[List.map_append,ho]
      simp[List.filter_append,hown]
     ·rcases List.mem_append.1 he with he|he
      ·exact hP e he
      ·rw[List.mem_singleton.1 he];exact hPy
   ·rw[if_neg (fun e=>hown e.2),ha] at h
    split at h
    ·cases h
    ·rw[colL] at h
     injection h with h
     subst h
     refine⟨?_,hP⟩
     unfold freeStep
     split
     ·rw[List.filter_append,ho]
      simp[show hasN own x.name=false by simpa using hown]
     ·exact ho
  ·rw[if_neg (fun e=>h1 e.1)] at h
   split at h
   ·cases h
   ·next hc =>
    simp only[not_or,Classical.not_not] at hc
    have hst:freeStep g x ex=g:=by
     unfold freeStep
     rw[show (x.kind==1)=false from by rw[beq_eq_false_iff_ne];exact h1];rfl
    rw[hst]
    have hb':=(bnd_iff _ x).1 hb
    refine colL_sound own P x.args y.args _ g out l (fun a ha=>⟨ih a ha,hs.args a ha,hb'.2 a ha⟩) (hPa y hPy) hc.2.2.1 ?_ ho hP h
    split
    ·next h5 =>
     intro n hn
     rcases List.mem_cons.1 hn with rfl|hn
     ·exact hb'.1 h5
     ·exact he n hn
    ·exact he
end Go.Proofs.YtofllmemmggapaaGreatDoor.Tp

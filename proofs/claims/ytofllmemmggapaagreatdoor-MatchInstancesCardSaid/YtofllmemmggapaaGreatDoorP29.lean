/- Texts laid together: RfHold, MaPl, MaMt. -/
import Derived.Test.YtofllmemmggapaaGreatDoorP25
import Derived.Test.YtofllmemmggapaaGreatDoorP28
import Derived.Test.YtofllmemmggapaaGreatDoorP27

namespace Go.Proofs.YtofllmemmggapaaGreatDoor.Tp
open Go.RowKit
structure HoldR (n b:Nat)(t:Ty)(a:Option Addr)(c:Nat)(W:World):Prop where
 k:R4 W b (.int .i64 t.kind) (.string t.name) (.int .i64 t.n) (.slice a t.args.length c)
 h:ArgsAt (Lt n) W (.slice a t.args.length c) t.args
 lt:b<W.heap.size
 le:n≤W.heap.size
theorem HoldR.low {n b:Nat}{t:Ty}{a:Option Addr}{c:Nat}{W W':World}(R:HoldR n b t a c W)(h:Below W.heap.size W W'):HoldR n b t a c W' :=
 ⟨R.k.low h,R.h.keep fun j hj=>h.block j (Nat.lt_of_lt_of_le hj R.le),Nat.lt_of_lt_of_le R.lt h.size,Nat.le_trans R.le h.size⟩
theorem HoldR.of_at {W:World}{t:Ty}{a:Option Addr}{c:Nat}(h:AtW t a c W) :
  HoldR W.heap.size W.heap.size t a c (W.alloc (.cells #[.int .i64 t.kind,.string t.name,.int .i64 t.n,.slice a t.args.length c] 29)) :=
 ⟨R4.new W _ _ _ _,h.keep fun b hb=>heap_alloc_old W _ hb,by simp,by simp⟩
theorem HoldR.at_ {n b:Nat}{t:Ty}{a:Option Addr}{c:Nat}{W:World}(R:HoldR n b t a c W):AtW t a c W:=R.h.mono fun _ hj=>Nat.lt_of_lt_of_le hj R.le
def BadPostR (w:World)(er:Nat)(e:Ending)(w':World):Prop :=
 e=.returned (.tuple #[.agg #[.int .i64 0,.string ⟨#[]⟩,.int .i64 0,.slice none 0 0],.int .i64 er])∧Below w.heap.size w w'∧Below w.heap.size w (w'.alloc (.cells #[.int .i64 0,.string ⟨#[]⟩,.int .i64 0,.slice none 0 0] 29))
theorem rparse_bad (w:World)(s:ByteArray)(hs:s.size≤maxLen){er:Nat}(h:parseT s.data.toList=.error er):Calls Tryz.prog 28 #[.string s] w (BadPostR w er):=by
 have C:=rparse_any w s hs
 rw[h] at C
 refine C.mono ?_
 rintro e w' ⟨hb,rfl⟩
 exact⟨rfl,hb,hb.trans (((Below.refl _ _).alloc (Nat.le_refl _) _).mono hb.size)⟩
theorem rpoly_h {t:Ty}{a:Option Addr}{c:Nat}{W:World}(R:AtW t a c W) :
  Calls Tryz.prog 33 #[.agg #[.int .i64 t.kind,.string t.name,.int .i64 t.n,.slice a t.args.length c]] W (BoolPost W (polyT t)) :=
 rpoly_any t _ a c W R (fun _ h=>h)
end Go.Proofs.YtofllmemmggapaaGreatDoor.Tp

namespace Go.Proofs.YtofllmemmggapaaGreatDoor.Tp
theorem ixN_append (l m:List ByteArray)(x:ByteArray):ixN (l++m) x=match ixN l x with|some i=>some i|none=>(ixN m x).map (· + l.length):=by
 induction l with
 | nil=>cases h:ixN m x<;>simp[ixN,h]
 | cons y l ih =>
  rw[List.cons_append,ixN,ixN]
  by_cases h:eqN y x=true
  ·rw[if_pos h,if_pos h]
  ·rw[if_neg h,if_neg h,ih]
   cases ixN l x with
   | some i=>rfl
   | none =>
    cases ixN m x with
    | some j=>simp[Nat.add_assoc]
    | none=>rfl
section
variable (env : List ByteArray)
mutual
def abT:Nat→Ty→Ty
 | d,.mk k s n args=>if k=1 then (match ixN env s with|some i=>.mk 6 emp ((d+i:Nat):Int) []|none=>.mk k s n (abL d args)) else if k=5 then .mk k s n (abL (d+1) args) else .mk k s n (abL d args)
def abL:Nat→List Ty→List Ty
 | _,[]=>[]
 | d,t :: ts=>abT d t :: abL d ts
end
theorem abL_map (d:Nat)(ts:List Ty):abL env d ts=ts.map (abT env d):=by
 induction ts with
 | nil=>simp[abL]
 | cons t ts ih=>rw[abL,ih];rfl
theorem abT_mk (d:Nat)(k:Int)(s:ByteArray)(n:Int)(args:List Ty):abT env d (.mk k s n args)=if k=1 then (match ixN env s with|some i=>.mk 6 emp ((d+i:Nat):Int) []|none=>.mk k s n (args.map (abT env d))) else if k=5 then .mk k s n (args.map (abT env (d+1))) else .mk k s n (args.map (abT env d)):=by
 rw[abT,abL_map,abL_map]
end
theorem db_append (env:List ByteArray):∀ (t:Ty) (l:List ByteArray),Std t→dbT (l++env) t=abT env l.length (dbT l t):=by
 intro t
 induction t using Ty.ind with
 | h t ih =>
  intro l hs
  by_cases h1:t.kind=1
  ·obtain⟨hn,ha⟩:=hs.k1 h1
   rw[dbT_var _ _ h1,dbT_var _ _ h1,hn]
   unfold look
   rw[ixN_append]
   cases h:ixN l t.name with
   | some i=>simp only;rw[abT_mk,if_neg (by decide),if_neg (by decide)];rfl
   | none =>
    simp only
    rw[abT_mk,if_pos rfl]
    cases h2:ixN env t.name with
    | some j=>simp only[Option.map_some];rw[Nat.add_comm]
    | none=>rfl
  ·by_cases h5:t.kind=5
   ·rw[dbT_all _ _ h5,dbT_all _ _ h5,abT_mk,if_neg (by decide),if_pos rfl,List.map_map]
    congr 1
    refine List.map_congr_left fun a ha=>?_
    exact ih a ha (t.name :: l) (hs.args a ha)
   ·rw[dbT_other _ _ h1 h5,dbT_other _ _ h1 h5,abT_mk,if_neg h1,if_neg h5,List.map_map]
    congr 1
    exact List.map_congr_left fun a ha=>ih a ha l (hs.args a ha)
theorem db_ab (env:List ByteArray)(t:Ty)(h:Std t):dbT env t=abT env 0 (dbT [] t):=by
 have:=db_append env t [] h
 simpa using this
theorem db_env {t u:Ty}(ht:Std t)(hu:Std u)(e:dbT [] t=dbT [] u)(env:List ByteArray):dbT env t=dbT env u:=by rw[db_ab env t ht,db_ab env u hu,e]
mutual
def vnT (x:ByteArray):Ty→Prop
 | .mk k s _ args=>(k=1∧s=x)∨vnL x args
def vnL (x:ByteArray):List Ty→Prop
 | []=>False
 | t :: ts=>vnT x t∨vnL x ts
end
theorem vnL_iff (x:ByteArray)(ts:List Ty):vnL x ts↔∃ a∈ts,vnT x a:=by
 induction ts with
 | nil=>simp[vnL]
 | cons t ts ih=>rw[vnL,ih];simp
theorem vn_mk (x:ByteArray)(k:Int)(s:ByteArray)(n:Int)(args:List Ty):vnT x (.mk k s n args)↔(k=1∧s=x)∨∃ a∈args,vnT x a:=by rw[vnT,vnL_iff]
theorem vn_db (x:ByteArray):∀ (t:Ty) (env:List ByteArray),Std t→(vnT x (dbT env t)↔fvT x t∧x∉env):=by
 intro t
 induction t using Ty.ind with
 | h t ih =>
  intro env hs
  rw[fvT_iff]
  by_cases h1:t.kind=1
  ·obtain⟨hn,ha⟩:=hs.k1 h1
   rw[dbT_var _ _ h1,ha]
   unfold look
   cases h:ixN env t.name with
   | some i =>
    have hm:t.name∈env:=by
     refine Classical.byContradiction fun hc=>?_
     rw[(ixN_none env t.name).2 hc] at h;cases h
    simp only[vn_mk]
    constructor
    ·rintro (⟨h,_⟩|⟨a,ha,_⟩)
     ·omega
     ·cases ha
    ·rintro ⟨(⟨_,e⟩|⟨⟨a,ha,_⟩,_⟩),hx⟩
     ·exact absurd (e ▸ hm) hx
     ·cases ha
   | none =>
    have hm:t.name∉env:=(ixN_none env t.name).1 h
    simp only[vn_mk]
    constructor
    ·rintro (⟨_,e⟩|⟨a,ha,_⟩)
     ·exact⟨.inl ⟨h1,e⟩,e ▸ hm⟩
     ·cases ha
    ·rintro ⟨(⟨_,e⟩|⟨⟨a,ha,_⟩,_⟩),hx⟩
     ·exact .inl ⟨trivial,e⟩
     ·cases ha
  ·by_cases h5:t.kind=5
   ·rw[dbT_all _ _ h5,vn_mk]
    constructor
    ·rintro (⟨h,_⟩|⟨a,ha,hv⟩)
     ·omega
     ·obtain⟨b,hb,rfl⟩:=List.mem_map.1 ha
      obtain⟨hf,hx⟩:=(ih b hb (t.name :: env) (hs.args b hb)).1 hv
      simp only[List.mem_cons,not_or] at hx
      exact⟨.inr ⟨⟨b,hb,hf⟩,fun e=>hx.1 e.2.symm⟩,hx.2⟩
    ·rintro ⟨(⟨h,_⟩|⟨⟨b,hb,hf⟩,hne⟩),hx⟩
     ·omega
     ·refine .inr ⟨_,List.mem_map.2 ⟨b,hb,rfl⟩,(ih b hb (t.name :: env) (hs.args b hb)).2 ⟨hf,?_⟩⟩
      simp only[List.mem_cons,not_or]
      exact⟨fun e=>hne ⟨h5,e.symm⟩,hx⟩
   ·rw[dbT_other _ _ h1 h5,vn_mk]
    constructor
    ·rintro (⟨h,_⟩|⟨a,ha,hv⟩)
     ·exact absurd h h1
     ·obtain⟨b,hb,rfl⟩:=List.mem_map.1 ha
      obtain⟨hf,hx⟩:=(ih b hb env (hs.args b hb)).1 hv
      exact⟨.inr ⟨⟨b,hb,hf⟩,fun e=>h5 e.1⟩,hx⟩
    ·rintro ⟨(⟨h,_⟩|⟨⟨b,hb,hf⟩,_⟩),hx⟩
     ·exact absurd h h1
     ·exact .inr ⟨_,List.mem_map.2 ⟨b,hb,rfl⟩,(ih b hb env (hs.args b hb)).2 ⟨hf,hx⟩⟩
theorem ab_var (n y:ByteArray):∀ (X:Ty) (d:Nat),¬ vnT n X→abT [n] d (sbT (isVar y) (.mk 1 n 0 []) X)=abT [y] d X:=by
 intro X
 induction X using Ty.ind with
 | h X ih =>
  cases X with
  | mk k s m args =>
   intro d hn
   have hn':=hn
   rw[vn_mk,not_or] at hn
   have ha:∀ a∈args,∀ d,abT [n] d (sbT (isVar y) (.mk 1 n 0 []) a)=abT [y] d a:=fun a ha d=>ih a ha d fun h=>hn.2 ⟨a,ha,h⟩
   rw[sbT_mk,isVar_mk]
   by_cases h1:k=1
   ·subst h1
    by_cases hy:s=y
    ·subst hy
     have e1:eqN s s=true:=(eqN_iff _ _).2 rfl
     rw[show ((1:Int)==1&&eqN s s)=true by rw[e1];rfl,if_pos rfl,abT_mk,abT_mk,if_pos rfl,if_pos rfl,ixN_cons_same,ixN_cons_same]
    ·have e1:eqN s y=false:=by rw[← Bool.not_eq_true,eqN_iff];exact hy
     have hsn:s≠n:=fun e=>hn.1 ⟨rfl,e⟩
     rw[show ((1:Int)==1&&eqN s y)=false by rw[e1];rfl,if_neg (by decide),abT_mk,abT_mk,if_pos rfl,if_pos rfl,(ixN_none [n] s).2 (by simpa using hsn),(ixN_none [y] s).2 (by simpa using hy)]
     simp only[List.map_map]
     congr 1
     exact List.map_congr_left fun a ha'=>ha a ha' d
   ·have e1:(k==1)=false:=by rw[beq_eq_false_iff_ne];exact h1
    rw[show (k==1&&eqN s y)=false by rw[e1];rfl,if_neg (by decide),abT_mk,abT_mk,if_neg h1,if_neg h1]
    split
    ·rw[List.map_map];congr 1;exact List.map_congr_left fun a ha'=>ha a ha' (d+1)
    ·rw[List.map_map];congr 1;exact List.map_congr_left fun a ha'=>ha a ha' d
theorem put_var_db (y n:ByteArray)(b:Ty)(env:List ByteArray)(hb:Std b)(hn:¬ fvT n b):dbT (n :: env) (PutT y (.mk 1 n 0 []) b)=dbT (y :: env) b:=by
 have hp:=PutT_std y (.mk 1 n 0 []) b hb (std_var n)
 have h1:dbT [n] (PutT y (.mk 1 n 0 []) b)=dbT [y] b:=by
  rw[db_ab [n] _ hp,db_ab [y] b hb,db_PutT y _ b hb]
  refine ab_var n y (dbT [] b) 0 fun h=>?_
  exact hn ((vn_db n b [] hb).1 h).1
 have e1:=db_append env (PutT y (.mk 1 n 0 []) b) [n] hp
 have e2:=db_append env b [y] hb
 rw[show n :: env=[n]++env from rfl,show y :: env=[y]++env from rfl,e1,e2,h1];rfl
section
variable (τ : Nat → Ty)
mutual
def inT:Nat→Ty→Ty
 | d,.mk k s n args=>if k=6 then (if d≤n.toNat then τ (n.toNat - d) else .mk k s n (inL d args)) else if k=5 then .mk k s n (inL (d+1) args) else .mk k s n (inL d args)
def inL:Nat→List Ty→List Ty
 | _,[]=>[]
 | d,t :: ts=>inT d t :: inL d ts
end
theorem inL_map (d:Nat)(ts:List Ty):inL τ d ts=ts.map (inT τ d):=by
 induction ts with
 | nil=>simp[inL]
 | cons t ts ih=>rw[inL,ih];rfl
theorem inT_mk (d:Nat)(k:Int)(s:ByteArray)(n:Int)(args:List Ty):inT τ d (.mk k s n args)=if k=6 then (if d≤n.toNat then τ (n.toNat - d) else .mk k s n (args.map (inT τ d))) else if k=5 then .mk k s n (args.map (inT τ (d+1))) else .mk k s n (args.map (inT τ d)):=by
 rw[inT,inL_map,inL_map]
end
mutual
def DbW:Nat→Ty→Prop
 | d,.mk k s n args=>(k=1→n=0∧args=[])∧(k=6→args=[]∧s=emp∧0≤n∧n.toNat<d)∧DbWL (if k=5 then d+1 else d) args
def DbWL:Nat→List Ty→Prop
 | _,[]=>True
 | d,t :: ts=>DbW d t∧DbWL d ts
end
theorem DbWL_iff (d:Nat)(ts:List Ty):DbWL d ts↔∀ t∈ts,DbW d t:=by
 induction ts with
 | nil=>simp[DbWL]
 | cons t ts ih=>rw[DbWL,ih];simp
theorem dbw_mk (d:Nat)(k:Int)(s:ByteArray)(n:Int)(args:List Ty):DbW d (.mk k s n args)↔(k=1→n=0∧args=[])∧(k=6→args=[]∧s=emp∧0≤n∧n.toNat<d)∧∀ a∈args,DbW (if k=5 then d+1 else d) a:=by rw[DbW,DbWL_iff]
theorem db_dbw:∀ (t:Ty) (env:List ByteArray),Std t→DbW env.length (dbT env t):=by
 intro t
 induction t using Ty.ind with
 | h t ih =>
  intro env hs
  have hk:=hs.kind
  by_cases h1:t.kind=1
  ·obtain⟨hn,ha⟩:=hs.k1 h1
   rw[dbT_var _ _ h1,hn]
   unfold look
   cases h:ixN env t.name with
   | some i =>
    have hi:=ixN_get env t.name i h
    obtain⟨hlt,_⟩:=List.getElem?_eq_some_iff.1 hi
    simp only
    rw[dbw_mk]
    exact⟨fun h=>by omega,fun _=>⟨rfl,rfl,by omega,by simpa using hlt⟩,fun a ha=>by cases ha⟩
   | none =>
    simp only
    rw[dbw_mk]
    exact⟨fun _=>⟨rfl,rfl⟩,fun h=>by omega,fun a ha=>by cases ha⟩
  ·by_cases h5:t.kind=5
   ·rw[dbT_all _ _ h5,dbw_mk]
    refine⟨fun h=>by omega,fun h=>by omega,fun a ha=>?_⟩
    obtain⟨b,hb,rfl⟩:=List.mem_map.1 ha
    rw[if_pos rfl]
    exact ih b hb (t.name :: env) (hs.args b hb)
   ·rw[dbT_other _ _ h1 h5,dbw_mk]
    refine⟨fun h=>absurd h h1,fun h=>by omega,fun a ha=>?_⟩
    obtain⟨b,hb,rfl⟩:=List.mem_map.1 ha
    rw[if_neg h5]
    exact ih b hb env (hs.args b hb)
theorem in_ab (env:List ByteArray):∀ (X:Ty) (d:Nat),DbW d X→inT (fun i=>.mk 1 (env.getD i emp) 0 []) d (abT env d X)=X:=by
 intro X
 induction X using Ty.ind with
 | h X ih =>
  cases X with
  | mk k s n args =>
   intro d hw
   obtain⟨w1,w6,wa⟩:=(dbw_mk d k s n args).1 hw
   rw[abT_mk]
   by_cases h1:k=1
   ·subst h1
    obtain⟨rfl,rfl⟩:=w1 rfl
    rw[if_pos rfl]
    cases h:ixN env s with
    | some i =>
     simp only
     rw[inT_mk,if_pos rfl,if_pos (by omega)]
     have hi:=ixN_get env s i h
     rw[show ((d+i:Nat):Int).toNat - d=i by omega,List.getD_eq_getElem?_getD,hi];rfl
    | none =>
     simp only
     rw[inT_mk,if_neg (by decide),if_neg (by decide)];rfl
   ·rw[if_neg h1]
    by_cases h5:k=5
    ·rw[if_pos h5,inT_mk,if_neg (by omega),if_pos h5,List.map_map]
     congr 1
     refine map_id_of fun a ha=>?_
     have:=wa a ha
     rw[if_pos h5] at this
     exact ih a ha (d+1) this
    ·rw[if_neg h5,inT_mk]
     by_cases h6:k=6
     ·subst h6
      obtain⟨rfl,rfl,h0,hlt⟩:=w6 rfl
      rw[if_pos rfl,if_neg (by omega)];rfl
     ·rw[if_neg h6,if_neg h5,List.map_map]
      congr 1
      refine map_id_of fun a ha=>?_
      have:=wa a ha
      rw[if_neg h5] at this
      exact ih a ha d this
def Mono (u:Ty):Prop:=Std u∧polyT u=false
theorem Mono.arg {u a:Ty}(h:Mono u)(ha:a∈u.args):Mono a:=by
 have hp:=h.2
 rw[polyT_eq,Bool.or_eq_false_iff] at hp
 exact⟨h.1.args a ha,by simpa using (List.any_eq_false.1 hp.2) a ha⟩
theorem Mono.kind {u:Ty}(h:Mono u):u.kind≠5∧u.kind≠6:=by
 have hp:=h.2
 rw[polyT_eq,Bool.or_eq_false_iff] at hp
 have:=h.1.kind
 exact⟨by simpa using hp.1,by omega⟩
theorem mono_mk {t:Ty}(hs:Std t)(hk:t.kind≠5)(h:∀ a∈t.args,Mono a):Mono t:=by
 refine⟨hs,?_⟩
 rw[polyT_eq,Bool.or_eq_false_iff]
 exact⟨by simpa using hk,List.any_eq_false.2 fun a ha=>by simp[(h a ha).2]⟩
theorem db_mono:∀ (u:Ty) (env:List ByteArray),Mono u→(∀ x,fvT x u→x∉env)→dbT env u=u:=by
 intro u
 induction u using Ty.ind with
 | h u ih =>
  intro env hm hf
  by_cases h1:u.kind=1
  ·obtain⟨hn,ha⟩:=hm.1.k1 h1
   rw[dbT_var _ _ h1]
   unfold look
   rw[(ixN_none env u.name).2 (hf _ ((fvT_iff _ u).2 (.inl ⟨h1,rfl⟩)))]
   simp only
   rw[← h1,hn]
   conv=>rhs;rw[← ty_eta u,ha,hn]
  ·rw[dbT_other _ _ h1 hm.kind.1]
   conv=>rhs;rw[← ty_eta u]
   congr 1
   exact map_id_of fun a ha=>ih a ha env (hm.arg ha) fun x hx=>hf x ((fvT_iff x u).2 (.inr ⟨⟨a,ha,hx⟩,fun e=>hm.kind.1 e.1⟩))
theorem db_mono_inv:∀ (t:Ty) (env:List ByteArray) (u:Ty),Std t→Mono u→dbT env t=u→t=u∧∀ x,fvT x t→x∉env:=by
 intro t
 induction t using Ty.ind with
 | h t ih =>
  intro env u hs hm e
  by_cases h1:t.kind=1
  ·obtain⟨hn,ha⟩:=hs.k1 h1
   rw[dbT_var _ _ h1] at e
   unfold look at e
   cases h:ixN env t.name with
   | some i=>rw[h] at e;exact absurd (show u.kind=6 by rw[← e];rfl) hm.kind.2
   | none =>
    rw[h] at e
    simp only at e
    have et:t=u:=by rw[← e,← ty_eta t,ha,hn,h1];rfl
    refine⟨et,fun x hx=>?_⟩
    rw[fvT_iff,ha] at hx
    rcases hx with hx|⟨⟨a,ha,_⟩,_⟩
    ·rw[← hx.2];exact (ixN_none env t.name).1 h
    ·cases ha
  ·by_cases h5:t.kind=5
   ·rw[dbT_all _ _ h5] at e
    exact absurd (show u.kind=5 by rw[← e];rfl) hm.kind.1
   ·rw[dbT_other _ _ h1 h5] at e
    have hargs:∀ a∈t.args,dbT env a=a∧∀ x,fvT x a→x∉env:=fun a ha=>by
     have hma:Mono (dbT env a):=hm.arg (by rw[← e];exact List.mem_map.2 ⟨a,ha,rfl⟩)
     obtain⟨e1,e2⟩:=ih a ha env _ (hs.args a ha) hma rfl
     exact⟨e1.symm,e2⟩
    refine⟨?_,fun x hx=>?_⟩
    ·rw[← e,map_id_of fun a ha=>(hargs a ha).1];exact (ty_eta t).symm
    ·rw[fvT_iff] at hx
     rcases hx with hx|⟨⟨a,ha,hx⟩,_⟩
     ·exact absurd hx.1 h1
     ·exact (hargs a ha).2 x hx
section
variable (v : ByteArray → Option Ty)
mutual
def svT:Ty→Ty
 | .mk k s n args=>if k=1 then (match v s with|some u=>u|none=>.mk k s n (svL args)) else .mk k s n (svL args)
def svL:List Ty→List Ty
 | []=>[]
 | t :: ts=>svT t :: svL ts
end
theorem svL_map (ts:List Ty):svL v ts=ts.map (svT v):=by
 induction ts with
 | nil=>simp[svL]
 | cons t ts ih=>rw[svL,ih];rfl
theorem svT_mk (k:Int)(s:ByteArray)(n:Int)(args:List Ty):svT v (.mk k s n args)=if k=1 then (match v s with|some u=>u|none=>.mk k s n (args.map (svT v))) else .mk k s n (args.map (svT v)):=by rw[svT,svL_map]
end
theorem sv_congr (v v':ByteArray→Option Ty):∀ X:Ty,(∀ x,vnT x X→v x=v' x)→svT v X=svT v' X:=by
 intro X
 induction X using Ty.ind with
 | h X ih =>
  cases X with
  | mk k s n args =>
   intro h
   have ha:args.map (svT v)=args.map (svT v'):=List.map_congr_left fun a ha=>ih a ha fun x hx=>h x ((vn_mk _ _ _ _ _).2 (.inr ⟨a,ha,hx⟩))
   rw[svT_mk,svT_mk,ha]
   by_cases h1:k=1
   ·rw[if_pos h1,if_pos h1,h s ((vn_mk _ _ _ _ _).2 (.inl ⟨h1,rfl⟩))]
   ·rw[if_neg h1,if_neg h1]
theorem sv_none (v:ByteArray→Option Ty):∀ X:Ty,(∀ x,vnT x X→v x=none)→svT v X=X:=by
 intro X
 induction X using Ty.ind with
 | h X ih =>
  cases X with
  | mk k s n args =>
   intro h
   have ha:args.map (svT v)=args:=map_id_of fun a ha=>ih a ha fun x hx=>h x ((vn_mk _ _ _ _ _).2 (.inr ⟨a,ha,hx⟩))
   rw[svT_mk,ha]
   by_cases h1:k=1
   ·rw[if_pos h1,h s ((vn_mk _ _ _ _ _).2 (.inl ⟨h1,rfl⟩))]
   ·rw[if_neg h1]
theorem in_mono (τ : Nat→Ty):∀ (u:Ty) (d:Nat),Mono u→inT τ d u=u:=by
 intro u
 induction u using Ty.ind with
 | h u ih =>
  intro d hm
  have hk:=hm.kind
  cases u with
  | mk k s n args =>
   rw[inT_mk,if_neg (show k≠6 from hk.2),if_neg (show k≠5 from hk.1)]
   congr 1
   exact map_id_of fun a ha=>ih a ha d (hm.arg ha)
theorem sv_in (v:ByteArray→Option Ty)(τ : Nat→Ty)(hv:∀ x u,v x=some u→Mono u):∀ (X:Ty) (d m:Nat),DbW m X→svT v (inT τ d X)=inT (fun i=>svT v (τ i)) d (svT v X):=by
 intro X
 induction X using Ty.ind with
 | h X ih =>
  cases X with
  | mk k s n args =>
   intro d m hw
   obtain⟨w1,w6,wa⟩:=(dbw_mk m k s n args).1 hw
   by_cases h1:k=1
   ·subst h1
    obtain⟨rfl,rfl⟩:=w1 rfl
    rw[inT_mk,if_neg (by decide),if_neg (by decide),svT_mk,if_pos rfl,svT_mk,if_pos rfl]
    cases h:v s with
    | some u=>simp only;exact (in_mono _ u d (hv s u h)).symm
    | none=>simp only;rw[inT_mk,if_neg (by decide),if_neg (by decide)];rfl
   ·by_cases h6:k=6
    ·subst h6
     obtain⟨rfl,rfl,_,_⟩:=w6 rfl
     have e6:svT v (.mk 6 emp n [])=.mk 6 emp n []:=by rw[svT_mk,if_neg (by decide)];rfl
     rw[e6,inT_mk τ,if_pos rfl,inT_mk,if_pos rfl]
     split
     ·rfl
     ·exact e6
    ·by_cases h5:k=5
     ·rw[inT_mk,if_neg h6,if_pos h5,svT_mk,if_neg h1,svT_mk,if_neg h1,inT_mk,if_neg h6,if_pos h5,List.map_map,List.map_map]
      congr 1
      exact List.map_congr_left fun a ha=>ih a ha (d+1) _ (wa a ha)
     ·rw[inT_mk,if_neg h6,if_neg h5,svT_mk,if_neg h1,svT_mk,if_neg h1,inT_mk,if_neg h6,if_neg h5,List.map_map,List.map_map]
      congr 1
      exact List.map_congr_left fun a ha=>ih a ha d _ (wa a ha)
abbrev Fnd:=List (ByteArray × Ty)
def lkF (f:Fnd)(x:ByteArray):Option Ty:=(f.find? fun e=>eqN e.1 x).map (·.2)
theorem lk_nil (x:ByteArray):lkF [] x=none:=rfl
theorem lk_snoc_old {f:Fnd}{x:ByteArray}{u:Ty}(h:lkF f x=some u)(e:ByteArray × Ty):lkF (f++[e]) x=some u:=by
 unfold lkF at *
 rw[List.find?_append]
 cases hf:f.find? (fun e=>eqN e.1 x) with
 | some y=>rw[hf] at h;simpa using h
 | none=>rw[hf] at h;cases h
theorem lk_snoc_new {f:Fnd}{x:ByteArray}(h:lkF f x=none)(u:Ty):lkF (f++[(x,u)]) x=some u:=by
 unfold lkF at *
 rw[List.find?_append]
 cases hf:f.find? (fun e=>eqN e.1 x) with
 | some y=>rw[hf] at h;cases h
 | none=>simp[(eqN_iff x x).2 rfl]
theorem lk_snoc_other {f:Fnd}{x y:ByteArray}(hne:y≠x)(u:Ty):lkF (f++[(y,u)]) x=lkF f x:=by
 unfold lkF
 rw[List.find?_append]
 have:eqN y x=false:=by rw[← Bool.not_eq_true,eqN_iff];exact hne
 cases f.find? (fun e=>eqN e.1 x) with
 | some y=>rfl
 | none=>simp[this]
def ownB (t:Ty)(et:List ByteArray):Bool:=!polyT t&&!(freeT t).any fun n=>(ixN et n).isSome
theorem own_iff (t:Ty)(et:List ByteArray):ownB t et=true↔polyT t=false∧∀ x,fvT x t→x∉et:=by
 unfold ownB
 rw[Bool.and_eq_true,Bool.not_eq_true',Bool.not_eq_true',List.any_eq_false]
 refine and_congr Iff.rfl ⟨fun h x hx=>?_,fun h x hx=>?_⟩
 ·have h2:=h x ((mem_free x t).2 hx)
  refine (ixN_none et x).1 ?_
  simpa using h2
 ·have:=(ixN_none et x).2 (h x ((mem_free x t).1 hx))
  simp[this]
def varM (vars:List ByteArray)(s:ByteArray)(t:Ty)(ep et:List ByteArray)(f:Fnd):Bool × Fnd :=
 if (ixN ep s).isNone&&hasN vars s then
  match lkF f s with
  | some u=>(decide (canonS u=canonS t)&&ownB t et,f)
  | none=>(ownB t et,f++[(s,t)])
 else (t.kind==1&&decide (ixN ep s=ixN et t.name)&&((ixN ep s).isSome || eqN s t.name),f)
section
variable (vars : List ByteArray)
mutual
def mT:Ty→Ty→List ByteArray→List ByteArray→Fnd→Bool × Fnd
 | .mk k s n args,t,ep,et,f =>
  if k=1 then varM vars s t ep et f
  else if k≠t.kind∨args.length≠t.args.length∨n≠t.n∨(k=3∧s≠t.name) then (false,f)
  else if k=5 then mL args t.args (s :: ep) (t.name :: et) f else mL args t.args ep et f
def mL:List Ty→List Ty→List ByteArray→List ByteArray→Fnd→Bool × Fnd
 | [],_,_,_,f=>(true,f)
 | p :: ps,ts,ep,et,f=>match ts with
  | []=>(true,f)
  | t :: ts=>if (mT p t ep et f).1 then mL ps ts ep et (mT p t ep et f).2 else (false,(mT p t ep et f).2)
end
end
def Within (f:Fnd)(v:ByteArray→Option Ty):Prop:=∀ x u,lkF f x=some u→v x=some u
theorem Within.trans {f f':Fnd}{v:ByteArray→Option Ty}(h:Within f (lkF f'))(h':Within f' v):Within f v:=fun x u e=>h' x u (h x u e)
structure FGood (vars:List ByteArray)(f:Fnd):Prop where
 dom:∀ x u,lkF f x=some u→x∈vars
 val:∀ x u,lkF f x=some u→Mono u∧Mk u
theorem mk_args {t:Ty}(h:Mk t):∀ a∈t.args,Mk a:=fun a ha=>⟨h.1.args a ha,((lex_iff t).1 h.2).2 a ha⟩
def MSound (vars:List ByteArray)(p:Ty):Prop:=∀ (t:Ty) (ep et:List ByteArray) (f f':Fnd),Std p→Mk t→FGood vars f→mT vars p t ep et f=(true,f') →
 FGood vars f'∧Within f (lkF f')∧(∀ x,vnT x (dbT ep p)→x∈vars→lkF f' x≠none)∧(∀ x,lkF f' x≠none→lkF f x≠none∨vnT x (dbT ep p))∧∀ v,Within f' v→(∀ x,x∉vars→v x=none)→svT v (dbT ep p)=dbT et t
theorem var_sound (vars:List ByteArray)(p t:Ty)(ep et:List ByteArray)(f f':Fnd)(hk:p.kind=1)(hp:Std p)(ht:Mk t)(hf:FGood vars f)(h:varM vars p.name t ep et f=(true,f')) :
  FGood vars f'∧Within f (lkF f')∧(∀ x,vnT x (dbT ep p)→x∈vars→lkF f' x≠none)∧(∀ x,lkF f' x≠none→lkF f x≠none∨vnT x (dbT ep p))∧∀ v,Within f' v→(∀ x,x∉vars→v x=none)→svT v (dbT ep p)=dbT et t:=by
 obtain⟨hn0,ha⟩:=hp.k1 hk
 unfold varM at h
 rw[dbT_var _ _ hk,hn0]
 unfold look
 by_cases hc:((ixN ep p.name).isNone&&hasN vars p.name)=true
 ·rw[if_pos hc] at h
  rw[Bool.and_eq_true,Option.isNone_iff_eq_none,hasN_iff] at hc
  rw[hc.1]
  simp only
  have hsv:∀ v:ByteArray→Option Ty,∀ u,v p.name=some u→svT v (.mk 1 p.name 0 [])=u:=fun v u e=>by rw[svT_mk,if_pos rfl,e]
  have hvn:∀ x,vnT x (.mk 1 p.name 0 [])→p.name=x:=fun x hx=>by
   rcases (vn_mk _ _ _ _ _).1 hx with h|⟨a,ha,_⟩
   ·exact h.2
   ·cases ha
  cases hl:lkF f p.name with
  | some u =>
   rw[hl] at h
   simp only[Prod.mk.injEq,Bool.and_eq_true,decide_eq_true_eq] at h
   obtain⟨⟨hs,ho⟩,rfl⟩:=h
   obtain⟨hm,hfr⟩:=(own_iff t et).1 ho
   have hmt:Mono t:=⟨ht.1,hm⟩
   have e:u=t:=by
    obtain⟨hmu,hku⟩:=hf.val _ _ hl
    unfold canonS at hs
    rw[canon_plain u hmu.2,canon_plain t hm] at hs
    exact print_inj hku ht hs
   refine⟨hf,fun x u e=>e,fun x hx _=>?_,fun x hx=>.inl hx,fun v hv _=>?_⟩
   ·rw[← hvn x hx,hl];simp
   ·rw[hsv v u (hv _ _ hl),e,db_mono t et hmt hfr]
  | none =>
   rw[hl] at h
   simp only[Prod.mk.injEq] at h
   obtain⟨ho,rfl⟩:=h
   obtain⟨hm,hfr⟩:=(own_iff t et).1 ho
   have hmt:Mono t:=⟨ht.1,hm⟩
   have hnew:=lk_snoc_new hl t
   refine⟨⟨fun x u e=>?_,fun x u e=>?_⟩,fun x u e=>lk_snoc_old e _,fun x hx _=>?_,fun x hx=>?_,fun v hv _=>?_⟩
   ·by_cases hx:p.name=x
    ·rw[← hx];exact hc.2
    ·rw[lk_snoc_other hx] at e;exact hf.dom x u e
   ·by_cases hx:p.name=x
    ·subst hx
     rw[hnew] at e
     injection e with e
     exact e ▸ ⟨hmt,ht⟩
    ·rw[lk_snoc_other hx] at e;exact hf.val x u e
   ·rw[← hvn x hx,hnew];simp
   ·by_cases hxe:p.name=x
    ·exact .inr ((vn_mk _ _ _ _ _).2 (.inl ⟨rfl,hxe⟩))
    ·rw[lk_snoc_other hxe] at hx;exact .inl hx
   ·rw[hsv v t (hv _ _ hnew),db_mono t et hmt hfr]
 ·rw[if_neg hc] at h
  simp only[Prod.mk.injEq,Bool.and_eq_true,beq_iff_eq,decide_eq_true_eq,Bool.or_eq_true] at h
  obtain⟨⟨⟨htk,hix⟩,hor⟩,rfl⟩:=h
  obtain⟨htn,hta⟩:=ht.1.k1 htk
  refine⟨hf,fun x u e=>e,fun x hx hxv=>?_,fun x hx=>.inl hx,fun v _ hvn=>?_⟩
  ·exfalso
   cases he:ixN ep p.name with
   | some i =>
    rw[he] at hx
    rcases (vn_mk _ _ _ _ _).1 hx with h|⟨a,ha,_⟩
    ·exact absurd h.1 (by decide)
    ·cases ha
   | none =>
    rw[he] at hx
    rcases (vn_mk _ _ _ _ _).1 hx with h|⟨a,ha,_⟩
    ·apply hc
     rw[he,Bool.and_eq_true,hasN_iff,h.2]
     exact⟨rfl,hxv⟩
    ·cases ha
  ·rw[dbT_var _ _ htk,htn]
   unfold look
   rw[← hix]
   cases he:ixN ep p.name with
   | some i=>simp only;rw[svT_mk,if_neg (by decide)];rfl
   | none =>
    simp only
    rw[he] at hor
    have hne:p.name=t.name:=by
     rcases hor with h|h
     ·cases h
     ·exact (eqN_iff _ _).1 h
    have hnv:p.name∉vars:=fun hm=>hc (by rw[he,Bool.and_eq_true,hasN_iff];exact⟨rfl,hm⟩)
    rw[svT_mk,if_pos rfl,hvn _ hnv,hne];rfl
end Go.Proofs.YtofllmemmggapaaGreatDoor.Tp

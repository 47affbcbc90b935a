/- Texts laid together: MaIn, MaLaw. -/
import Derived.Test.YtofllmemmggapaaGreatDoorP30

namespace Go.Proofs.YtofllmemmggapaaGreatDoor.Tp
def pL:ByteArray:=⟨#[112]⟩
def qL:ByteArray:=⟨#[113]⟩
def InstT (g s:Ty):Bool:=(MatchT (PeelT qL (freeT g++freeT s) g).2 (PeelT pL (freeT g++freeT s) s).2 (PeelT qL (freeT g++freeT s) g).1).isSome
theorem mono_var (x:ByteArray):Mono (.mk 1 x 0 []):=⟨std_var x,rfl⟩
theorem in_congr (τ τ':Nat→Ty)(k:Nat)(h:∀ i,i<k→τ i = τ' i):∀ (X:Ty) (d:Nat),DbW (k+d) X→inT τ d X=inT τ' d X:=by
 intro X
 induction X using Ty.ind with
 | h X ih =>
  cases X with
  | mk kd s n args =>
   intro d hw
   obtain⟨w1,w6,wa⟩:=(dbw_mk _ kd s n args).1 hw
   rw[inT_mk,inT_mk]
   by_cases h6:kd=6
   ·obtain⟨rfl,_,_,hlt⟩:=w6 h6
    rw[if_pos h6,if_pos h6]
    split
    ·exact h _ (by omega)
    ·rfl
   ·rw[if_neg h6,if_neg h6]
    by_cases h5:kd=5
    ·rw[if_pos h5,if_pos h5]
     congr 1
     refine List.map_congr_left fun a ha=>ih a ha (d+1) ?_
     have:=wa a ha
     rw[if_pos h5] at this
     exact this
    ·rw[if_neg h5,if_neg h5]
     congr 1
     refine List.map_congr_left fun a ha=>ih a ha d ?_
     have:=wa a ha
     rw[if_neg h5] at this
     exact this
def nmV (ps:List ByteArray)(i:Nat):Ty:=.mk 1 (ps.getD i emp) 0 []
def RIn (ps:List ByteArray)(c c':Ty):Prop:=∃ τ : Nat→Ty,(∀ i,Mono (τ i))∧inT τ 0 c=inT (nmV ps) 0 c'
def vOf (ps:List ByteArray)(τ : Nat→Ty)(x:ByteArray):Option Ty:=(ixN ps x).map τ
theorem vOf_at {ps:List ByteArray}(hn:ps.Nodup)(τ : Nat→Ty){i:Nat}(hi:i<ps.length):svT (vOf ps τ) (nmV ps i) = τ i:=by
 unfold nmV
 rw[svT_mk,if_pos rfl]
 have:ixN ps (ps.getD i emp)=some i:=ixN_of_get ps _ i hn (by rw[List.getD_eq_getElem?_getD,List.getElem?_eq_getElem hi];rfl)
 unfold vOf
 rw[this];rfl
theorem vOf_mono {ps:List ByteArray}{τ : Nat→Ty}(h:∀ i,Mono (τ i)):∀ x u,vOf ps τ x=some u→Mono u:=by
 intro x u e
 unfold vOf at e
 cases hx:ixN ps x with
 | some i=>rw[hx] at e;injection e with e;exact e ▸ h i
 | none=>rw[hx] at e;cases e
theorem vOf_none {ps:List ByteArray}{τ : Nat→Ty}{x:ByteArray}(h:x∉ps):vOf ps τ x=none:=by unfold vOf;rw[(ixN_none ps x).2 h];rfl
theorem sv_mono {v:ByteArray→Option Ty}(hv:∀ x u,v x=some u→Mono u):∀ u:Ty,Mono u→Mono (svT v u):=by
 intro u
 induction u using Ty.ind with
 | h u ih =>
  intro hm
  have hk:=hm.kind
  cases u with
  | mk k s n args =>
   rw[svT_mk]
   by_cases h1:k=1
   ·subst h1
    rw[if_pos rfl]
    cases e:v s with
    | some w=>exact hv s w e
    | none =>
     simp only
     obtain⟨_,ha⟩:=hm.1.k1 rfl
     have:args=[]:=ha
     subst this
     exact hm
   ·rw[if_neg h1]
    have hargs:∀ a∈args.map (svT v),Mono a:=fun a ha=>by
     obtain⟨b,hb,rfl⟩:=List.mem_map.1 ha
     exact ih b hb (hm.arg hb)
    refine mono_mk ?_ hk.1 hargs
    refine (std_iff _).2 ⟨?_,fun a ha=>(hargs a ha).1⟩
    have hs:=((std_iff _).1 hm.1).1
    unfold StdK at hs ⊢
    rcases hs with h|h|h|h|h
    ·exact absurd h.1 h1
    ·refine .inr (.inl ⟨h.1,h.2.1,?_,h.2.2.2⟩)
     have:args=[]:=h.2.2.1
     show args.map (svT v)=[]
     rw[this];rfl
    ·exact .inr (.inr (.inl h))
    ·refine .inr (.inr (.inr (.inl ⟨h.1,h.2.1,h.2.2.1,?_⟩)))
     show (args.map (svT v)).length=2
     rw[List.length_map];exact h.2.2.2
    ·exact absurd h.1 hk.1
theorem peelT_ok (c:UInt8)(hc:Lx.lowerB c=true)(but:List ByteArray)(t:Ty)(hm:Mk t)(hz:t.size≤4000)(hd:t.depth≤4000)(hb:but.length≤10000)(hf:∀ x,fvT x t→x∈but):PeelOk ⟨#[c]⟩ but 0 t (PeelT ⟨#[c]⟩ but t) :=
 peel_ok c hc but t.depth 0 t (Nat.le_refl _) hm (by omega) (fun x h=>.inl (hf x h)) (by
  have:t.depth*(but.length+1)≤4000*10001:=Nat.mul_le_mul hd (by omega)
  omega)
theorem nodup_rev {l:List ByteArray}(h:l.Nodup):l.reverse.Nodup:=by
 unfold List.Nodup at *
 rw[List.pairwise_reverse]
 exact h.imp fun h=>Ne.symm h
theorem db_k5 (env:List ByteArray)(t:Ty)(h:t.kind≠5):(dbT env t).kind≠5:=by
 by_cases h1:t.kind=1
 ·rw[dbT_var _ _ h1]
  unfold look
  cases ixN env t.name with
  | some i=>show ¬ (6:Int)=5;decide
  | none=>show ¬ (1:Int)=5;decide
 ·rw[dbT_other _ _ h1 h];exact h
theorem PeelOk.core5 {L:ByteArray}{but:List ByteArray}{n:Nat}{t:Ty}{r:List ByteArray × Ty}(R:PeelOk L but n t r):(stF r.1.length (dbT [] t)).kind≠5:=by rw[← R.db];exact db_k5 _ _ R.k5
theorem PeelOk.same {L L':ByteArray}{but but':List ByteArray}{n n':Nat}{t:Ty}{r r':List ByteArray × Ty}(R:PeelOk L but n t r)(R':PeelOk L' but' n' t r'):r.1.length=r'.1.length:=alls_uniq _ _ _ R.alls R.core5 R'.alls R'.core5
theorem PeelOk.dbw {L:ByteArray}{but:List ByteArray}{n:Nat}{t:Ty}{r:List ByteArray × Ty}(R:PeelOk L but n t r):DbW r.1.length (stF r.1.length (dbT [] t)):=by
 have:=db_dbw r.2 r.1.reverse R.good.1
 rwa [List.length_reverse,R.db] at this
theorem PeelOk.body {L:ByteArray}{but:List ByteArray}{n:Nat}{t:Ty}{r:List ByteArray × Ty}(R:PeelOk L but n t r):dbT [] r.2=inT (nmV r.1.reverse) 0 (stF r.1.length (dbT [] t)):=by
 rw[← R.db,db_ab r.1.reverse r.2 R.good.1]
 exact (in_ab r.1.reverse (dbT [] r.2) 0 (db_dbw r.2 [] R.good.1)).symm
theorem inst_iff {g s:Ty}{but:List ByteArray}{rq rp:List ByteArray × Ty}(Q:PeelOk qL but 0 g rq)(P:PeelOk pL but 0 s rp) :
  (MatchT rq.2 rp.2 rq.1).isSome=true↔RIn rp.1.reverse (stF rq.1.length (dbT [] g)) (stF rp.1.length (dbT [] s)):=by
 have hcf:∀ x,vnT x (stF rq.1.length (dbT [] g))→x∉rq.1:=fun x hx=>by
  rw[← Q.db] at hx
  have:=((vn_db x rq.2 rq.1.reverse Q.good.1).1 hx).2
  simpa using this
 constructor
 ·intro h
  obtain⟨l,hl⟩:=Option.isSome_iff_exists.1 h
  obtain⟨v,hv,_,_⟩:=match_some Q.good.1 P.good hl
  refine⟨fun i=>svT v (nmV rq.1.reverse i),fun i=>sv_mono hv.mono _ (mono_var _),?_⟩
  have e:=hv.eq
  rw[Q.body,P.body,sv_in v _ hv.mono _ 0 _ Q.dbw,sv_none v _ fun x hx=>hv.out x (hcf x hx)] at e
  exact e
 ·rintro ⟨τ,hm,e⟩
  have hnd:rq.1.reverse.Nodup:=nodup_rev Q.nodup
  have hM:IsM rq.1 rq.2 rp.2 (vOf rq.1.reverse τ):=by
   refine⟨vOf_mono hm,fun x hx=>vOf_none (by simpa using hx),fun x hx _ h=>?_,?_⟩
   ·unfold vOf at h
    cases hi:ixN rq.1.reverse x with
    | some i=>rw[hi] at h;cases h
    | none=>exact absurd (by simpa using hx) ((ixN_none _ _).1 hi)
   ·rw[Q.body,P.body,sv_in _ _ (vOf_mono hm) _ 0 _ Q.dbw,sv_none _ _ fun x hx=>vOf_none (by simpa using hcf x hx),← e]
    exact in_congr _ _ rq.1.length (fun i hi=>vOf_at hnd τ (by simpa using hi)) _ 0 Q.dbw
  rw[match_of Q.good.1 P.good hM];rfl
structure Few (g s:Ty):Prop where
 mg:Mk g
 ms:Mk s
 gz:g.size≤4000
 sz:s.size≤4000
 gd:g.depth≤4000
 sd:s.depth≤4000
def butI (g s:Ty):List ByteArray:=freeT g++freeT s
theorem Few.q {g s:Ty}(F:Few g s):PeelOk qL (butI g s) 0 g (PeelT qL (butI g s) g) :=
 peelT_ok 113 (by decide) _ g F.mg F.gz F.gd (by have:=freeT_len g;have:=freeT_len s;have:=F.gz;have:=F.sz;unfold butI;simp;omega) fun x h=>by unfold butI;simp[(mem_free x g).2 h]
theorem Few.p {g s:Ty}(F:Few g s):PeelOk pL (butI g s) 0 s (PeelT pL (butI g s) s) :=
 peelT_ok 112 (by decide) _ s F.ms F.sz F.sd (by have:=freeT_len g;have:=freeT_len s;have:=F.gz;have:=F.sz;unfold butI;simp;omega) fun x h=>by unfold butI;simp[(mem_free x s).2 h]
theorem peel_own {t:Ty}(h:Mk t)(hz:t.size≤4000)(hd:t.depth≤4000):PeelOk pL (freeT t) 0 t (PeelT pL (freeT t) t) :=
 peelT_ok 112 (by decide) _ t h hz hd (by have:=freeT_len t;omega) fun x h=>(mem_free x t).2 h
end Go.Proofs.YtofllmemmggapaaGreatDoor.Tp

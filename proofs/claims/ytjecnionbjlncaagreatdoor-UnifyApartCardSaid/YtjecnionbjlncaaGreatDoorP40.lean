/- Packed. -/
import Derived.Test.YtjecnionbjlncaaGreatDoorP36
set_option maxRecDepth 100000
set_option maxHeartbeats 6400000
namespace Go.Proofs.YtjecnionbjlncaaGreatDoor.Tp
def mt (m:Int):Ty:=.mk 2 emp m []
section
variable (f : Int → Ty)
mutual
def fl:Ty→Ty
 | .mk k s n args=>if k=2 then f n else .mk k s n (flL args)
def flL:List Ty→List Ty
 | []=>[]
 | t :: ts=>fl t :: flL ts
end
theorem qX_ (ts:List Ty):flL f ts=ts.map (fl f):=by
 induction ts with
 | nil=>simp[flL]
 | cons t ts ih=>rw[flL,ih];rfl
theorem sj_ (t:Ty):fl f t=if t.kind=2 then f t.n else .mk t.kind t.name t.n (t.args.map (fl f)):=by
 cases t with
 | mk k s n args=>rw[fl,qX_];rfl
theorem a0_ {t:Ty}(h:t.kind=2):fl f t=f t.n:=by rw[sj_,if_pos h]
theorem ay_ {t:Ty}(h:t.kind≠2):fl f t=.mk t.kind t.name t.n (t.args.map (fl f)):=by rw[sj_,if_neg h]
theorem cK_ (m:Int):fl f (mt m)=f m:=a0_ f (t:=mt m) rfl
end
mutual
def oc (m:Int):Ty→Nat
 | .mk k _ n args=>if k=2 then (if n=m then 1 else 0) else ocL m args
def ocL (m:Int):List Ty→Nat
 | []=>0
 | t :: ts=>oc m t+ocL m ts
end
theorem oC_ (m:Int)(t:Ty):oc m t=if t.kind=2 then (if t.n=m then 1 else 0) else ocL m t.args:=by
 cases t with
 | mk k s n args=>rw[oc];rfl
theorem ds_ {m:Int}{t:Ty}(h:t.kind=2):oc m t=if t.n=m then 1 else 0:=by rw[oC_,if_pos h]
theorem cy_ {m:Int}{t:Ty}(h:t.kind≠2):oc m t=ocL m t.args:=by rw[oC_,if_neg h]
theorem hY_ (m:Int)(ts:List Ty):ocL m ts=0↔∀ a∈ts,oc m a=0:=by
 induction ts with
 | nil=>simp[ocL]
 | cons t ts ih=>rw[ocL,Nat.add_eq_zero_iff,ih];simp
theorem fW_ {m:Int}{t a:Ty}(h:t.kind≠2)(ha:a∈t.args)(hm:oc m a≠0):oc m t≠0:=by
 rw[cy_ h];exact fun e=>hm ((hY_ m _).1 e a ha)
theorem hX_ {m:Int}{t:Ty}(h:t.kind≠2)(hm:oc m t≠0):∃ a∈t.args,oc m a≠0:=by
 rw[cy_ h] at hm;exact Classical.byContradiction fun hn=>hm ((hY_ m _).2 fun a ha=>Classical.byContradiction fun hx=>hn ⟨a,ha,hx⟩)
theorem rX_ {m:Int}{ts:List Ty}{a:Ty}(h:a∈ts):oc m a≤ocL m ts:=by
 induction ts with
 | nil=>cases h
 | cons t ts ih =>
  rw[ocL]
  rcases List.mem_cons.1 h with rfl|h
  ·omega
  ·have:=ih h;omega
theorem c2_ {t:Ty}(h:t.kind=2):oc t.n t≠0:=by rw[ds_ h,if_pos rfl];decide
theorem hW_ (m x:Int):oc m (mt x)=if x=m then 1 else 0:=ds_ (t:=mt x) rfl
theorem bI_ {f g:Int→Ty} : ∀ t:Ty,(∀ m,oc m t≠0→f m=g m)→fl f t=fl g t:=by
 intro t
 induction t using Ty.ind with
 | h t ih =>
  intro h
  by_cases h2:t.kind=2
  ·rw[a0_ f h2,a0_ g h2];exact h _ (c2_ h2)
  ·rw[ay_ f h2,ay_ g h2]
   congr 1;exact List.map_congr_left fun a ha=>ih a ha fun m hm=>h m (fW_ h2 ha hm)
theorem ff_ (f g:Int→Ty):∀ t:Ty,fl f (fl g t)=fl (fun m=>fl f (g m)) t:=by
 intro t
 induction t using Ty.ind with
 | h t ih =>
  by_cases h2:t.kind=2
  ·rw[a0_ g h2,a0_ _ h2]
  ·rw[ay_ g h2,ay_ _ h2,ay_ f (t:=.mk t.kind t.name t.n _) h2]
   show Ty.mk t.kind t.name t.n (List.map _ (List.map _ _))=_;rw[List.map_map];congr 1;exact List.map_congr_left fun a ha=>ih a ha
def DK (t:Ty):Prop:=(t.kind=1∧t.n=0∧t.args=[])∨(t.kind=2∧t.name=emp∧t.args=[])∨(t.kind=3∧t.n=0)∨(t.kind=4∧t.name=emp∧t.n=0∧t.args.length=2)∨(t.kind=5∧t.name=emp∧t.n=0∧t.args.length=1)∨(t.kind=6∧t.name=emp∧t.args=[])
abbrev Dw (t:Ty):Prop:=Al DK t
theorem DK.k1 {t:Ty}(h:DK t)(hk:t.kind=1):t.n=0∧t.args=[]:=by
 rcases h with h|h|h|h|h|h<;>first|exact h.2|omega
theorem DK.k2 {t:Ty}(h:DK t)(hk:t.kind=2):t=mt t.n:=by
 rcases h with h|h|h|h|h|h
 ·omega
 ·cases t;obtain⟨h1,h2,h3⟩:=h;simp only[Ty.kind,Ty.name,Ty.args] at h1 h2 h3;subst h1 h2 h3;rfl
 all_goals omega
theorem DK.k6 {t:Ty}(h:DK t)(hk:t.kind=6):t.name=emp∧t.args=[]:=by
 rcases h with h|h|h|h|h|h<;>first|exact h.2|omega
theorem DK.k5 {t:Ty}(h:DK t)(hk:t.kind=5):t.name=emp∧t.n=0∧t.args.length=1:=by
 rcases h with h|h|h|h|h|h<;>first|exact h.2|omega
theorem DK.k4 {t:Ty}(h:DK t)(hk:t.kind=4):t.name=emp∧t.n=0∧t.args.length=2:=by
 rcases h with h|h|h|h|h|h<;>first|exact h.2|omega
theorem DK.k3 {t:Ty}(h:DK t)(hk:t.kind=3):t.n=0:=by
 rcases h with h|h|h|h|h|h<;>first|exact h.2|omega
theorem DK.kind {t:Ty}(h:DK t):1≤t.kind∧t.kind≤6:=by
 rcases h with h|h|h|h|h|h<;>omega
theorem sn_ (m:Int):Dw (mt m):=.mk _ (.inr (.inl ⟨rfl,rfl,rfl⟩)) fun a ha=>by cases ha
theorem d6_:∀ (t:Ty) (env:List ByteArray),Std t→Dw (dbT env t):=by
 intro t
 induction t using Ty.ind with
 | h t ih =>
  intro env hs
  by_cases h5:t.kind=5
  ·rw[aK_ _ _ h5]
   refine .mk _ (.inr (.inr (.inr (.inr (.inl ⟨rfl,rfl,rfl,?_⟩))))) fun a ha=>?_
   ·show (t.args.map _).length=1
    rw[List.length_map];exact (hs.k5 h5).2
   ·obtain⟨b,hb,rfl⟩:=List.mem_map.1 ha
    exact ih b hb _ (hs.args b hb)
  ·by_cases h1:t.kind=1
   ·rw[a1_ _ _ h1,(hs.k1 h1).1]
    unfold dC_;cases ixN env t.name with
    | none=>exact .mk _ (.inl ⟨rfl,rfl,rfl⟩) fun a ha=>by cases ha
    | some i=>exact .mk _ (.inr (.inr (.inr (.inr (.inr ⟨rfl,rfl,rfl⟩))))) fun a ha=>by cases ha
   ·rw[az_ _ _ h1 h5]
    refine .mk _ ?_ fun a ha=>?_
    ·rcases ((aX_ t).1 hs).1 with h|h|h|h|h
     ·exact absurd h.1 h1
     ·exact .inr (.inl ⟨h.1,h.2.1,by show t.args.map _=[];rw[h.2.2.1];rfl⟩)
     ·exact .inr (.inr (.inl h))
     ·exact .inr (.inr (.inr (.inl ⟨h.1,h.2.1,h.2.2.1,by show (t.args.map _).length=2;rw[List.length_map];exact h.2.2.2⟩)))
     ·exact absurd h.1 h5
    ·obtain⟨b,hb,rfl⟩:=List.mem_map.1 ha
     exact ih b hb _ (hs.args b hb)
def Loc (p:Ty→Prop):Prop:=∀ t:Ty,p t→∀ l:List Ty,l.length=t.args.length→p (.mk t.kind t.name t.n l)
theorem iY_:Loc DK:=by
 intro t h l hl;have hnil:t.args=[]→l=[]:=fun e=>List.eq_nil_of_length_eq_zero (by rw[hl,e];rfl)
 rcases h with h|h|h|h|h|h
 ·exact .inl ⟨h.1,h.2.1,hnil h.2.2⟩
 ·exact .inr (.inl ⟨h.1,h.2.1,hnil h.2.2⟩)
 ·exact .inr (.inr (.inl h))
 ·exact .inr (.inr (.inr (.inl ⟨h.1,h.2.1,h.2.2.1,hl.trans h.2.2.2⟩)))
 ·exact .inr (.inr (.inr (.inr (.inl ⟨h.1,h.2.1,h.2.2.1,hl.trans h.2.2.2⟩))))
 ·exact .inr (.inr (.inr (.inr (.inr ⟨h.1,h.2.1,hnil h.2.2⟩))))
theorem f5_ {p:Ty→Prop}(hp:Loc p){f:Int→Ty} : ∀ t:Ty,Al p t→(∀ m,oc m t≠0→Al p (f m))→Al p (fl f t):=by
 intro t
 induction t using Ty.ind with
 | h t ih =>
  intro h hf
  by_cases h2:t.kind=2
  ·rw[a0_ f h2];exact hf _ (c2_ h2)
  ·rw[ay_ f h2]
   refine .mk _ (hp t h.here _ (by rw[List.length_map])) fun a ha=>?_;obtain⟨b,hb,rfl⟩:=List.mem_map.1 ha;exact ih b hb (h.arg hb) fun m hm=>hf m (fW_ h2 hb hm)
theorem gJ_ {f:Int→Ty} : ∀ t:Ty,Dw t→(∀ m,oc m t≠0→f m=mt m)→fl f t=t:=by
 intro t
 induction t using Ty.ind with
 | h t ih =>
  intro hd h
  by_cases h2:t.kind=2
  ·rw[a0_ f h2,h _ (c2_ h2),← hd.here.k2 h2]
  ·rw[ay_ f h2,c3_ fun a ha=>ih a ha (hd.arg ha) fun m hm=>h m (fW_ h2 ha hm),ce_]
theorem qP_ {f:Ty→Ty} : ∀ {l:List Ty},l.map f=l→∀ a∈l,f a=a:=by
 intro l
 induction l with
 | nil=>intro _ a ha;cases ha
 | cons b l ih =>
  intro h a ha;rw[List.map_cons] at h;injection h with h1 h2
  rcases List.mem_cons.1 ha with rfl|ha
  ·exact h1
  ·exact ih h2 a ha
theorem pL_ {f:Int→Ty} : ∀ t:Ty,Dw t→fl f t=t→∀ m,oc m t≠0→f m=mt m:=by
 intro t
 induction t using Ty.ind with
 | h t ih =>
  intro hd h m hm
  by_cases h2:t.kind=2
  ·rw[a0_ f h2] at h
   have:t.n=m:=by
    rw[ds_ h2] at hm
    split at hm
    ·next e=>exact e
    ·exact absurd rfl hm
   subst this;rw[h];exact hd.here.k2 h2
  ·obtain⟨a,ha,hma⟩:=hX_ h2 hm
   refine ih a ha (hd.arg ha) ?_ m hma;rw[ay_ f h2] at h;have:t.args.map (fl f)=t.args:=by
    have:=congrArg Ty.args h;exact this
   exact qP_ this a ha
theorem mZ_ {f:Int→Ty}{m:Int} : ∀ t:Ty,oc m (fl f t)≠0→∃ x,oc x t≠0∧oc m (f x)≠0:=by
 intro t
 induction t using Ty.ind with
 | h t ih =>
  intro h
  by_cases h2:t.kind=2
  ·rw[a0_ f h2] at h;exact⟨_,c2_ h2,h⟩
  ·rw[ay_ f h2] at h
   obtain⟨a,ha,hm⟩:=hX_ (t:=.mk t.kind t.name t.n _) h2 h;obtain⟨b,hb,rfl⟩:=List.mem_map.1 ha;obtain⟨x,hx,hx2⟩:=ih b hb hm;exact⟨x,fW_ h2 hb hx,hx2⟩
theorem py_ {f:Int→Ty}{m x:Int} : ∀ t:Ty,oc x t≠0→oc m (f x)≠0→oc m (fl f t)≠0:=by
 intro t
 induction t using Ty.ind with
 | h t ih =>
  intro h hx
  by_cases h2:t.kind=2
  ·rw[a0_ f h2]
   have:t.n=x:=by
    rw[ds_ h2] at h
    split at h
    ·next e=>exact e
    ·exact absurd rfl h
   rw[this];exact hx
  ·obtain⟨a,ha,hm⟩:=hX_ h2 h
   rw[ay_ f h2];exact fW_ (t:=.mk t.kind t.name t.n _) h2 (List.mem_map.2 ⟨a,ha,rfl⟩) (ih a ha hm hx)
theorem n3_ {f g:Ty→Ty} : ∀ {l:List Ty},(∀ a∈l,(f a).size≤(g a).size)→af_ (l.map f)≤af_ (l.map g):=by
 intro l
 induction l with
 | nil=>intro _;simp[af_]
 | cons a l ih =>
  intro h;rw[List.map_cons,List.map_cons,af_,af_];have:=h a (by simp);have:=ih fun b hb=>h b (by simp[hb]);omega
theorem cG_ {f g:Int→Ty} : ∀ t:Ty,(∀ m,oc m t≠0→(f m).size≤(g m).size)→(fl f t).size≤(fl g t).size:=by
 intro t
 induction t using Ty.ind with
 | h t ih =>
  intro h
  by_cases h2:t.kind=2
  ·rw[a0_ f h2,a0_ g h2];exact h _ (c2_ h2)
  ·rw[ay_ f h2,ay_ g h2,Ty.size_eq,Ty.size_eq]
   show af_ (t.args.map (fl f))+1≤af_ (t.args.map (fl g))+1;have:=n3_ (f:=fl f) (g:=fl g) fun a ha=>ih a ha fun m hm=>h m (fW_ h2 ha hm);omega
theorem fO_ {f:Int→Ty}{x:Int} : ∀ t:Ty,oc x t≠0→(f x).size≤(fl f t).size∧(t.kind≠2→(f x).size<(fl f t).size):=by
 intro t
 induction t using Ty.ind with
 | h t ih =>
  intro h
  by_cases h2:t.kind=2
  ·refine⟨?_,fun h=>absurd h2 h⟩
   rw[a0_ f h2];have:t.n=x:=by
    rw[ds_ h2] at h
    split at h
    ·next e=>exact e
    ·exact absurd rfl h
   rw[this];exact aC_ _
  ·obtain⟨a,ha,hm⟩:=hX_ h2 h
   have h1:=(ih a ha hm).1;have h5:(fl f t).size=af_ (t.args.map (fl f))+1:=by rw[ay_ f h2,Ty.size_eq];rfl
   rw[h5];have h3:(fl f a).size≤af_ (t.args.map (fl f)):=bx_ _ (List.mem_map.2 ⟨a,ha,rfl⟩);have h4:(f x).size<af_ (t.args.map (fl f))+1:=(by omega);exact⟨Nat.le_of_lt h4,fun _=>h4⟩
section
variable (c : ByteArray)
mutual
def opB:Nat→Ty→Ty
 | k,.mk kd s n args=>if kd=6 then (if n=(k:Int) then .mk 1 c 0 [] else .mk kd s n args) else .mk kd s n (opL (if kd=5 then k+1 else k) args)
def opL:Nat→List Ty→List Ty
 | _,[]=>[]
 | k,t :: ts=>opB k t :: opL k ts
end
mutual
def clB:Nat→Ty→Ty
 | k,.mk kd s n args=>if kd=1 then (if eqN s c then .mk 6 emp (k:Int) [] else .mk kd s n args) else .mk kd s n (clL (if kd=5 then k+1 else k) args)
def clL:Nat→List Ty→List Ty
 | _,[]=>[]
 | k,t :: ts=>clB k t :: clL k ts
end
theorem qz_ (k:Nat)(ts:List Ty):opL c k ts=ts.map (opB c k):=by
 induction ts with
 | nil=>simp[opL]
 | cons t ts ih=>rw[opL,ih];rfl
theorem q6_ (k:Nat)(ts:List Ty):clL c k ts=ts.map (clB c k):=by
 induction ts with
 | nil=>simp[clL]
 | cons t ts ih=>rw[clL,ih];rfl
def bk (k:Nat)(kd:Int):Nat:=if kd=5 then k+1 else k
theorem f4_ (k:Nat){t:Ty}(h:t.kind=6):opB c k t=if t.n=(k:Int) then .mk 1 c 0 [] else t:=by
 cases t with
 | mk kd s n args=>rw[opB,if_pos (show kd=6 from h)];rfl
theorem eD_ (k:Nat){t:Ty}(h:t.kind≠6):opB c k t=.mk t.kind t.name t.n (t.args.map (opB c (bk k t.kind))):=by
 cases t with
 | mk kd s n args=>rw[opB,if_neg (show kd≠6 from h),qz_];rfl
theorem sx_ (k:Nat){t:Ty}(h:t.kind=1):clB c k t=if eqN t.name c then .mk 6 emp (k:Int) [] else t:=by
 cases t with
 | mk kd s n args=>rw[clB,if_pos (show kd=1 from h)];rfl
theorem sw_ (k:Nat){t:Ty}(h:t.kind≠1):clB c k t=.mk t.kind t.name t.n (t.args.map (clB c (bk k t.kind))):=by
 cases t with
 | mk kd s n args=>rw[clB,if_neg (show kd≠1 from h),q6_];rfl
end
theorem oY_ (env:List ByteArray)(nm x:ByteArray):ixN (env++[nm]) x=match ixN env x with|some i=>some i|none=>if eqN nm x then some env.length else none:=by
 induction env with
 | nil=>rw[List.nil_append];rw[ixN];simp[ixN]
 | cons y env ih =>
  by_cases h:y=x
  ·subst h;rw[List.cons_append,br_,br_]
  ·rw[List.cons_append,bE_ _ h,bE_ _ h,ih]
   cases ixN env x with
   | some i=>rfl
   | none=>by_cases e:eqN nm x=true<;>simp[e]
theorem sh_ {env:List ByteArray}{x:ByteArray}{i:Nat}(h:ixN env x=some i):i<env.length:=(List.getElem?_eq_some_iff.1 (gz_ _ _ _ h)).1
theorem op_db (c nm:ByteArray):∀ (t:Ty) (env:List ByteArray),Std t→opB c env.length (dbT (env++[nm]) t)=sbT (gC_ nm) (.mk 1 c 0 []) (dbT env t):=by
 intro t
 induction t using Ty.ind with
 | h t ih =>
  intro env hs
  by_cases h5:t.kind=5
  ·rw[aK_ _ _ h5,aK_ _ _ h5,dx_,if_neg (by rw[b6_];simp),eD_ c _ (by show (5:Int)≠6;decide)]
   show Ty.mk 5 emp 0 (List.map _ (List.map _ _))=_;rw[List.map_map,List.map_map];congr 1;exact List.map_congr_left fun a ha=>ih a ha (t.name :: env) (hs.args a ha)
  ·by_cases h1:t.kind=1
   ·rw[a1_ _ _ h1,a1_ _ _ h1,(hs.k1 h1).1]
    unfold dC_;rw[oY_];cases hi:ixN env t.name with
    | some i =>
     have hl:=sh_ hi;show opB c env.length (.mk 6 emp (i:Int) [])=sbT (gC_ nm) _ (.mk 6 emp (i:Int) []);rw[f4_ c _ rfl,if_neg (show ¬ ((Ty.mk 6 emp (i:Int) []).n=(env.length:Int)) by show ¬ ((i:Int)=(env.length:Int));omega),dx_,if_neg (by rw[b6_];simp)];rfl
    | none =>
     by_cases e:eqN nm t.name=true
     ·show opB c env.length (match (if eqN nm t.name=true then some env.length else none) with|some i=>.mk 6 emp (i:Int) []|none=>.mk 1 t.name 0 [])=sbT (gC_ nm) _ (.mk 1 t.name 0 [])
      rw[if_pos e];show opB c env.length (.mk 6 emp (env.length:Int) [])=_;rw[f4_ c _ rfl,if_pos (show (Ty.mk 6 emp (env.length:Int) []).n=(env.length:Int) from rfl),dx_,b6_,if_pos (by rw[(aH_ _ _).1 e];simp[aH_])]
     ·show opB c env.length (match (if eqN nm t.name=true then some env.length else none) with|some i=>.mk 6 emp (i:Int) []|none=>.mk 1 t.name 0 [])=sbT (gC_ nm) _ (.mk 1 t.name 0 [])
      rw[if_neg e];show opB c env.length (.mk 1 t.name 0 [])=_;rw[eD_ c _ (by show (1:Int)≠6;decide),dx_,b6_,if_neg (by
       rw[Bool.and_eq_true,not_and];intro _ he;exact e ((aH_ _ _).2 ((aH_ _ _).1 he).symm))]
      rfl
   ·have hk:=hs.kind
    rw[az_ _ _ h1 h5,az_ _ _ h1 h5,dx_,if_neg (by rw[b6_];simp[h1]),eD_ c _ (by show t.kind≠6;omega)];show Ty.mk t.kind t.name t.n (List.map _ (List.map _ _))=_;rw[List.map_map,List.map_map];congr 1;refine List.map_congr_left fun a ha=>?_;show opB c (bk env.length t.kind) _=_;rw[bk,if_neg h5];exact ih a ha env (hs.args a ha)
theorem sv_ (c:ByteArray):∀ (t:Ty) (k:Nat),Dw t→Al (fun t=>t.kind=1→t.name≠c) t→clB c k (opB c k t)=t:=by
 intro t
 induction t using Ty.ind with
 | h t ih =>
  intro k hd hn
  by_cases h6:t.kind=6
  ·obtain⟨e1,e2⟩:=hd.here.k6 h6
   rw[f4_ c k h6]
   split
   ·next hk =>
    rw[sx_ c k rfl,if_pos (show eqN (Ty.mk 1 c 0 []).name c=true from (aH_ _ _).2 rfl)];cases t;simp only[Ty.kind,Ty.name,Ty.n,Ty.args] at *;subst h6 e1 e2 hk;rfl
   ·rw[sw_ c k (by omega),e2,List.map_nil,← e2,ce_]
  ·rw[eD_ c k h6]
   by_cases h1:t.kind=1
   ·rw[sx_ c k (show (Ty.mk t.kind t.name t.n _).kind=1 from h1),if_neg (by
     show ¬ (eqN t.name c=true);rw[aH_];exact hn.here h1),(hd.here.k1 h1).2,List.map_nil,← (hd.here.k1 h1).2,ce_]
   ·rw[sw_ c k (show (Ty.mk t.kind t.name t.n _).kind≠1 from h1)]
    show Ty.mk t.kind t.name t.n (List.map (clB c (bk k t.kind)) (List.map _ _))=_;rw[List.map_map,c3_ (f:=clB c (bk k t.kind) ∘ opB c (bk k t.kind)) fun a ha=>ih a ha _ (hd.arg ha) (hn.arg ha),ce_]
theorem rW_ (c:ByteArray):∀ (t:Ty) (k:Nat),Al (fun t=>t.kind≠6) t→opB c k t=t:=by
 intro t
 induction t using Ty.ind with
 | h t ih =>
  intro k h;rw[eD_ c k h.here,c3_ fun a ha=>ih a ha _ (h.arg ha),ce_]
theorem qy_ (c:ByteArray){f:Int→Ty}(hf:∀ m,Al (fun t=>t.kind≠6) (f m)):∀ (t:Ty) (k:Nat),opB c k (fl f t)=fl f (opB c k t):=by
 intro t
 induction t using Ty.ind with
 | h t ih =>
  intro k
  by_cases h2:t.kind=2
  ·rw[eD_ c k (t:=t) (by omega),a0_ f h2,a0_ f (show (Ty.mk t.kind t.name t.n _).kind=2 from h2),rW_ c _ _ (hf _)];rfl
  ·rw[ay_ f h2]
   by_cases h6:t.kind=6
   ·rw[f4_ c k (t:=t) h6,f4_ c k (show (Ty.mk t.kind t.name t.n _).kind=6 from h6)]
    show (if t.n=(k:Int) then _ else _)=_
    split
    ·rw[ay_ f (show (Ty.mk 1 c 0 []).kind≠2 from by show (1:Int)≠2;decide)];rfl
    ·rw[ay_ f h2]
   ·rw[eD_ c k (t:=t) h6,eD_ c k (show (Ty.mk t.kind t.name t.n _).kind≠6 from h6),ay_ f (show (Ty.mk t.kind t.name t.n _).kind≠2 from h2)]
    show Ty.mk t.kind t.name t.n (List.map _ (List.map _ _))=Ty.mk t.kind t.name t.n (List.map _ (List.map _ _));rw[List.map_map,List.map_map];congr 1;exact List.map_congr_left fun a ha=>ih a ha _
theorem rd_ {p:Ty→Prop}(hp:Loc p)(c:ByteArray)(hc:p (.mk 1 c 0 [])):∀ (t:Ty) (k:Nat),Al p t→Al p (opB c k t):=by
 intro t
 induction t using Ty.ind with
 | h t ih =>
  intro k h
  by_cases h6:t.kind=6
  ·rw[f4_ c k h6]
   split
   ·exact .mk _ hc fun a ha=>by cases ha
   ·exact h
  ·rw[eD_ c k h6]
   refine .mk _ (hp t h.here _ (by rw[List.length_map])) fun a ha=>?_;obtain⟨b,hb,rfl⟩:=List.mem_map.1 ha;exact ih b hb _ (h.arg hb)
theorem sm_ (c:ByteArray){t:Ty}(k:Nat)(h:Dw t):Dw (opB c k t):=rd_ iY_ c (.inl ⟨rfl,rfl,rfl⟩) t k h
theorem jA_ (c:ByteArray):∀ (t:Ty) (k:Nat),Dw t→(opB c k t).size=t.size:=by
 intro t
 induction t using Ty.ind with
 | h t ih =>
  intro k h
  by_cases h6:t.kind=6
  ·rw[f4_ c k h6]
   split
   ·rw[Ty.size_eq,t.size_eq,(h.here.k6 h6).2];rfl
   ·rfl
  ·rw[eD_ c k h6,Ty.size_eq,t.size_eq]
   show af_ (t.args.map _)+1=_;rw[e4_ _ _ fun a ha=>ih a ha _ (h.arg ha)]
theorem qB_ (m:Int)(f:Ty→Ty)(ts:List Ty)(h:∀ t∈ts,oc m (f t)=oc m t):ocL m (ts.map f)=ocL m ts:=by
 induction ts with
 | nil=>rfl
 | cons t ts ih=>rw[List.map_cons,ocL,ocL,h t (by simp),ih fun a ha=>h a (by simp[ha])]
theorem rV_ (c:ByteArray)(m:Int):∀ (t:Ty) (k:Nat),Dw t→oc m (opB c k t)=oc m t:=by
 intro t
 induction t using Ty.ind with
 | h t ih =>
  intro k h
  by_cases h6:t.kind=6
  ·rw[f4_ c k h6]
   split
   ·rw[cy_ (by show (1:Int)≠2;decide),cy_ (t:=t) (by omega),(h.here.k6 h6).2];rfl
   ·rfl
  ·rw[eD_ c k h6]
   by_cases h2:t.kind=2
   ·rw[ds_ (show (Ty.mk t.kind t.name t.n _).kind=2 from h2),ds_ h2];rfl
   ·rw[cy_ (show (Ty.mk t.kind t.name t.n _).kind≠2 from h2),cy_ h2]
    exact qB_ m _ _ fun a ha=>ih a ha _ (h.arg ha)
theorem oz_ (c:ByteArray){f:Int→Ty}(hf:∀ m,Dw (f m)∧Al (fun t=>t.kind≠6) (f m)∧Al (fun t=>t.kind=1→t.name≠c) (f m)){b b':Ty}(hb:Dw b)(hb':Dw b')(hn:Al (fun t=>t.kind=1→t.name≠c) b)(hn':Al (fun t=>t.kind=1→t.name≠c) b') :
  fl f b=fl f b'↔fl f (opB c 0 b)=fl f (opB c 0 b'):=by
 have hl:Loc fun t=>t.kind=1→t.name≠c:=fun t h l _=>h;rw[← qy_ c (fun m=>(hf m).2.1),← qy_ c (fun m=>(hf m).2.1)]
 constructor
 ·intro e;rw[e]
 ·intro e
  rw[← sv_ c (fl f b) 0 (f5_ iY_ b hb fun m _=>(hf m).1) (f5_ hl b hn fun m _=>(hf m).2.2),e,sv_ c (fl f b') 0 (f5_ iY_ b' hb' fun m _=>(hf m).1) (f5_ hl b' hn' fun m _=>(hf m).2.2)]
def one (m:Int)(t:Ty):Int→Ty:=fun x=>if x=m then t else mt x
theorem bl_ (m:Int)(t:Ty):one m t m=t:=if_pos rfl
theorem bU_ {m x:Int}(t:Ty)(h:x≠m):one m t x=mt x:=if_neg h
theorem mg_ (m:Int)(U:Ty):∀ t:Ty,Dw t→sbT (bj_ m) U t=fl (one m U) t:=by
 intro t
 induction t using Ty.ind with
 | h t ih =>
  intro hd;rw[pt_]
  by_cases h2:t.kind=2
  ·rw[a0_ _ h2]
   have e:=hd.here.k2 h2
   by_cases hm:t.n=m
   ·rw[if_pos (by show (t.kind==2&&t.n==m)=true;simp[h2,hm]),hm,bl_]
   ·rw[if_neg (by show ¬ (t.kind==2&&t.n==m)=true;simp[hm]),bU_ _ hm]
    have ha:t.args=[]:=by rw[e];rfl
    conv=>rhs;rw[← e]
    rw[ha,List.map_nil,← ha,ce_]
  ·rw[if_neg (by show ¬ (t.kind==2&&t.n==m)=true;simp[h2]),ay_ _ h2]
   congr 1;exact List.map_congr_left fun a ha=>ih a ha (hd.arg ha)
theorem r2_ (m:Int):∀ t:Ty,Dw t→(noP (bj_ m) t↔oc m t=0):=by
 intro t
 induction t using Ty.ind with
 | h t ih =>
  intro hd;rw[gw_]
  by_cases h2:t.kind=2
  ·have e:=hd.here.k2 h2
   have ha:t.args=[]:=by rw[e];rfl
   rw[ds_ h2,ha];show ((t.kind==2&&t.n==m)=false∧_)↔_
   by_cases hm:t.n=m<;>simp[h2,hm]
  ·rw[cy_ h2,hY_]
   show ((t.kind==2&&t.n==m)=false∧_)↔_
   constructor
   ·exact fun h a ha=>(ih a ha (hd.arg ha)).1 (h.2 a ha)
   ·exact fun h=>⟨by simp[h2],fun a ha=>(ih a ha (hd.arg ha)).2 (h a ha)⟩
theorem cE_ {m:Int}{t:Ty}(hd:Dw t):m∈ap_ t↔oc m t≠0:=by
 rw[ec_,r2_ m t hd]
theorem aT_ {m:Int}{t:Ty}(hs:Std t):m∈ap_ t↔oc m (dbT [] t)≠0:=by
 rw[oR_ t hs,cE_ (d6_ t [] hs)]
def sg (K:Kn):Int→Ty:=K.foldl (fun σ e x=>fl (one e.1 e.2) (σ x)) mt
theorem ps_ (x:Int):sg [] x=mt x:=rfl
theorem b8_ (K:Kn)(m:Int)(t:Ty)(x:Int):sg (K++[(m,t)]) x=fl (one m t) (sg K x):=by
 unfold sg;rw[List.foldl_append];rfl
theorem gH_ (K:Kn)(m:Int)(t u:Ty):fl (sg (K++[(m,t)])) u=fl (one m t) (fl (sg K) u):=by
 rw[ff_];exact bI_ u fun x _=>b8_ K m t x
def e0_ (s:ByteArray):Bool:=s.data.toList.headD 0==36
def PrK (t:Ty):Prop:=DK t∧t.kind≠5∧t.kind≠6∧(t.kind=1→e0_ t.name=false)
abbrev Pr (t:Ty):Prop:=Al PrK t
theorem sc_:Loc PrK:=fun t h l hl=>⟨iY_ t h.1 l hl,h.2⟩
theorem rT_ (m:Int):Pr (mt m):=.mk _ ⟨(sn_ m).here,by show (2:Int)≠5;decide,by show (2:Int)≠6;decide,fun h=>absurd (show (2:Int)=1 from h) (by decide)⟩ fun a ha=>by cases ha
theorem Pr.dw {t:Ty}(h:Pr t):Dw t:=h.imp fun _ h=>h.1
theorem Pr.no6 {t:Ty}(h:Pr t):Al (fun t=>t.kind≠6) t:=h.imp fun _ h=>h.2.2.1
theorem Pr.no5 {t:Ty}(h:Pr t):Al (fun t=>t.kind≠5) t:=h.imp fun _ h=>h.2.1
theorem Pr.nov {t:Ty}(h:Pr t){c:ByteArray}(hc:e0_ c=true):Al (fun t=>t.kind=1→t.name≠c) t:=h.imp fun _ h h1 e=>by
 have:=h.2.2.2 h1;rw[e,hc] at this;cases this
theorem c4_ {t:Ty}(h:Dw t)(h2:t.kind=2):t=mt t.n:=h.here.k2 h2
theorem pD_ {x y:Int}(h:mt x=mt y):x=y:=congrArg Ty.n h
theorem kG_ {f:Int→Ty}{t:Ty}(h:(fl f t).kind=2):t.kind=2:=Classical.byContradiction fun hn=>hn (by rw[ay_ f hn] at h;exact h)
inductive KO:Kn→Prop
 | nil:KO []
 | snoc (K:Kn) (m:Int) (t:Ty) (h:KO K) (h1:lkK K m=none) (h2:fl (sg K) t=t) (h3:oc m t=0) (h4:Pr t):KO (K++[(m,t)])
structure KF (K:Kn):Prop where
 pr:∀ x,Pr (sg K x)
 idem:∀ x,fl (sg K) (sg K x)=sg K x
 unb:∀ x,lkK K x=none→sg K x=mt x
 bnd:∀ x u,lkK K x=some u→sg K x=fl (sg K) u∧sg K x≠mt x∧Pr u
theorem iZ_ {K:Kn}{m x:Int}{t:Ty}(h:lkK K m=none)(hx:lkK (K++[(m,t)]) x=none):x≠m∧lkK K x=none:=by
 by_cases e:m=x
 ·subst e;rw[bM_ h] at hx;cases hx
 ·rw[bf_ e] at hx;exact⟨fun h=>e h.symm,hx⟩
theorem KO.facts {K:Kn}(h:KO K):KF K:=by
 induction h with
 | nil=>exact⟨rT_,fun x=>cK_ _ x,fun x _=>rfl,fun x u h=>by cases h⟩
 | snoc K m t h h1 h2 h3 h4 ih =>
  have hs:=b8_ K m t;have hfl:=gH_ K m t;have ht:fl (one m t) t=t:=gJ_ t h4.dw fun y hy=>bU_ t (by rintro rfl;exact hy h3);have hm:sg K m=mt m:=ih.unb m h1;have hfix:∀ x y,oc y (sg K x)≠0→sg K y=mt y:=fun x y hy=>pL_ _ (ih.pr x).dw (ih.idem x) y hy;refine⟨fun x=>?_,fun x=>?_,fun x hx=>?_,fun x u hx=>?_⟩
  ·rw[hs]
   refine f5_ sc_ _ (ih.pr x) fun y _=>?_;unfold one
   split
   ·exact h4
   ·exact rT_ y
  ·rw[hfl,hs,ff_ (sg K)]
   have e1:fl (fun y=>fl (sg K) (one m t y)) (sg K x)=fl (one m t) (sg K x):=bI_ _ fun y hy=>by
    by_cases e:y=m
    ·subst e;rw[bl_,h2]
    ·rw[bU_ _ e,cK_,hfix x y hy]
   rw[e1,ff_];exact bI_ _ fun y _=>by
    by_cases e:y=m
    ·subst e;rw[bl_,ht]
    ·rw[bU_ _ e,cK_,bU_ _ e]
  ·obtain⟨e1,e2⟩:=iZ_ h1 hx
   rw[hs,ih.unb x e2,cK_,bU_ _ e1]
  ·by_cases e:m=x
   ·subst e
    have:t=u:=by
     have:=(bM_ h1 t).symm.trans hx;injection this
    subst this;have e2:sg (K++[(m,t)]) m=t:=(by rw[hs,hm,cK_,bl_]);refine⟨?_,?_,h4⟩
    ·rw[e2,hfl,h2,ht]
    ·rw[e2]
     intro e;rw[e,hW_,if_pos rfl] at h3;cases h3
   ·have hx':lkK K x=some u:=(bf_ e).symm.trans hx
    obtain⟨b1,b2,b3⟩:=ih.bnd x u hx';refine⟨by rw[hs,hfl,b1],?_,b3⟩;intro he;rw[hs] at he;have hk:(sg K x).kind=2:=kG_ (f:=one m t) (by rw[he];rfl);have hz:=c4_ (ih.pr x).dw hk;rw[hz,cK_] at he
    by_cases ez:(sg K x).n=m
    ·rw[ez,bl_] at he
     rw[he,cK_] at h2;exact b2 h2
    ·rw[bU_ _ ez] at he
     exact b2 (hz.trans he)
theorem KF.fill {K:Kn}(F:KF K)(t:Ty):fl (sg K) (fl (sg K) t)=fl (sg K) t:=by
 rw[ff_];exact bI_ t fun x _=>F.idem x
theorem KF.free {K:Kn}(F:KF K){x y:Int}(h:oc y (sg K x)≠0):sg K y=mt y∧lkK K y=none:=by
 have h1:=pL_ _ (F.pr x).dw (F.idem x) y h;refine⟨h1,?_⟩;cases hl:lkK K y with
 | none=>rfl
 | some u=>exact absurd h1 (F.bnd y u hl).2.1
theorem KF.freeT {K:Kn}(F:KF K){t:Ty}{y:Int}(h:oc y (fl (sg K) t)≠0):sg K y=mt y∧lkK K y=none:=by
 obtain⟨x,_,hx⟩:=mZ_ t h;exact F.free hx
theorem KF.dom {K:Kn}(F:KF K)(x:Int):lkK K x=none↔sg K x=mt x :=
 ⟨F.unb x,fun h=>by
  cases hl:lkK K x with
  | none=>rfl
  | some u=>exact absurd h (F.bnd x u hl).2.1⟩
def Ext (f:Int→Ty)(K:Kn):Prop:=∀ x,fl f (sg K x)=f x
theorem nm_ (f:Int→Ty):Ext f []:=fun x=>cK_ f x
theorem KF.ext {K:Kn}(F:KF K):Ext (sg K) K:=F.idem
theorem f0_ {f:Int→Ty}{K:Kn}(h:Ext f K)(t:Ty):fl f (fl (sg K) t)=fl f t:=by
 rw[ff_];exact bI_ t fun x _=>h x
theorem h9_ {f:Int→Ty}{K:Kn}{m:Int}{t:Ty}(hm:sg K m=mt m):Ext f (K++[(m,t)])↔Ext f K∧f m=fl f t:=by
 have hone:f m=fl f t→∀ y,fl f (one m t y)=f y:=fun h y=>by
  by_cases e:y=m
  ·subst e;rw[bl_,h]
  ·rw[bU_ _ e,cK_]
 constructor
 ·intro h
  have h1:f m=fl f t:=by rw[← h m,b8_,hm,cK_,bl_]
  refine⟨fun x=>?_,h1⟩;rw[← h x,b8_,ff_];exact bI_ _ fun y _=>(hone h1 y).symm
 ·rintro ⟨h,h1⟩ x
  rw[b8_,ff_,← h x];exact bI_ _ fun y _=>hone h1 y
def Ori (K:Kn):Prop:=∀ x y,sg K x=mt y→y≤x
theorem qx_:Ori []:=fun _ _ h=>Int.le_of_eq (pD_ h).symm
theorem oy_ {K:Kn}(F:KF K){m:Int}{t:Ty}(h:Ori K)(ht:∀ y,t=mt y→y<m):Ori (K++[(m,t)]):=by
 intro x y e;rw[b8_] at e;have hk:(sg K x).kind=2:=kG_ (f:=one m t) (by rw[e];rfl);have hz:=c4_ (F.pr x).dw hk;have h1:=h x _ hz;rw[hz,cK_] at e
 by_cases ez:(sg K x).n=m
 ·rw[ez,bl_] at e
  have:=ht y e;omega
 ·rw[bU_ _ ez] at e
  have:=pD_ e;omega
theorem bh_ {K:Kn}{m:Int} : lkK K m=none↔m∉K.map fun x=>x.1:=by
 unfold lkK;rw[Option.map_eq_none_iff,List.find?_eq_none]
 constructor
 ·rintro h hm
  obtain⟨x,hx,rfl⟩:=List.mem_map.1 hm;exact h x hx (by simp)
 ·intro h x hx he
  exact h (List.mem_map.2 ⟨x,hx,by simpa using he⟩)
theorem KO.nodup {K:Kn}(h:KO K):(K.map fun x=>x.1).Nodup:=by
 induction h with
 | nil=>exact List.nodup_nil
 | snoc K m t h h1 h2 h3 h4 ih =>
  rw[List.map_append,List.nodup_append];refine⟨ih,by simp,fun a ha b hb=>?_⟩;have:b=m:=by simpa using hb
  subst this;rintro rfl;exact bh_.1 h1 ha
theorem bq_ (K:Kn):(b4_ K).Perm (K.map fun x=>x.1):=List.mergeSort_perm _ _
theorem dU_ (K:Kn):(b4_ K).Pairwise fun x y=>x≤y:=by
 have:=List.pairwise_mergeSort (le:=fun x y:Int=>decide (x≤y)) (fun a b c h1 h2=>by simp only[decide_eq_true_eq] at *;omega) (fun a b=>by simp only[Bool.or_eq_true,decide_eq_true_eq];omega) (K.map fun x=>x.1);exact this.imp fun h=>of_decide_eq_true h
theorem dV_ {K:Kn}{x:Int} : x∈b4_ K↔lkK K x≠none:=by
 rw[(bq_ K).mem_iff,Ne,bh_,Classical.not_not]
theorem hM_:∀ {l m:List Int},l.Nodup→m.Nodup→l.Pairwise (fun x y=>x≤y)→m.Pairwise (fun x y=>x≤y)→(∀ x,x∈l↔x∈m)→l=m:=by
 intro l
 induction l with
 | nil =>
  intro m _ _ _ _ h;cases m with
  | nil=>rfl
  | cons y m=>exact absurd ((h y).2 (by simp)) (by simp)
 | cons x l ih =>
  intro m hl hm sl sm h;cases m with
  | nil=>exact absurd ((h x).1 (by simp)) (by simp)
  | cons y m =>
   rw[List.nodup_cons] at hl hm;rw[List.pairwise_cons] at sl sm;have e:x=y:=by
    have h1:=(h x).1 (by simp);have h2:=(h y).2 (by simp)
    rcases List.mem_cons.1 h1 with e|h1
    ·exact e
    ·rcases List.mem_cons.1 h2 with e|h2
     ·exact e.symm
     ·have:=sm.1 x h1;have:=sl.1 y h2;omega
   subst e;rw[ih hl.2 hm.2 sl.2 sm.2 fun z=>?_]
   constructor
   ·intro hz
    rcases List.mem_cons.1 ((h z).1 (by simp[hz])) with rfl|h1
    ·exact absurd hz hl.1
    ·exact h1
   ·intro hz
    rcases List.mem_cons.1 ((h z).2 (by simp[hz])) with rfl|h1
    ·exact absurd hz hm.1
    ·exact h1
def sm (L:List Int)(a:Int→Nat):Nat:=(L.map a).sum
theorem pr_ (a:Int→Nat):sm [] a=0:=rfl
theorem bV_ (m:Int)(L:List Int)(a:Int→Nat):sm (m :: L) a=a m+sm L a:=by unfold sm;rw[List.map_cons,List.sum_cons]
theorem mb_ (A C:List Int)(a:Int→Nat):sm (A++C) a=sm A a+sm C a:=by unfold sm;rw[List.map_append,List.sum_append]
theorem qf_ {L:List Int}{a b:Int→Nat}(h:∀ m∈L,a m≤b m):sm L a≤sm L b:=by
 induction L with
 | nil=>exact aC_ _
 | cons m L ih =>
  rw[bV_,bV_];have:=h m (by simp);have:=ih fun x hx=>h x (by simp[hx]);omega
theorem hN_ {L:List Int}{a:Int→Nat}(h:∀ m∈L,a m=0):sm L a=0:=by
 induction L with
 | nil=>rfl
 | cons m L ih=>rw[bV_,h m (by simp),ih fun x hx=>h x (by simp[hx])]
theorem rI_ {L:List Int}{a:Int→Nat}{m:Int}(h:m∈L):a m≤sm L a:=by
 induction L with
 | nil=>cases h
 | cons x L ih =>
  rw[bV_]
  rcases List.mem_cons.1 h with rfl|h
  ·omega
  ·have:=ih h;omega
theorem kb_ (L:List Int)(a b:Int→Nat):sm L (fun m=>a m+b m)=sm L a+sm L b:=by
 induction L with
 | nil=>rfl
 | cons m L ih=>rw[bV_,bV_,bV_,ih];omega
theorem qe_ {L M:List Int}(h:L.Perm M)(a:Int→Nat):sm L a=sm M a:=by
 induction h with
 | nil=>rfl
 | cons x _ ih=>rw[bV_,bV_,ih]
 | swap x y l=>rw[bV_,bV_,bV_,bV_];omega
 | trans _ _ h1 h2=>exact h1.trans h2
theorem gI_ (L:List Int)(f:Int→Ty):∀ t:Ty,(∀ m,oc m t≠0→m∈L)→(fl f t).size≤t.size+sm L fun m=>oc m t*(f m).size:=by
 intro t
 induction t using Ty.ind with
 | h t ih =>
  intro h
  by_cases h2:t.kind=2
  ·rw[a0_ f h2]
   have h1:=rI_ (a:=fun m=>oc m t*(f m).size) (h _ (c2_ h2));rw[ds_ h2,if_pos rfl] at h1;omega
  ·rw[ay_ f h2,Ty.size_eq,t.size_eq]
   show af_ (t.args.map (fl f))+1≤_;have hl:∀ l:List Ty,(∀ a∈l,a∈t.args)→af_ (l.map (fl f))≤af_ l+sm L fun m=>ocL m l*(f m).size:=by
    intro l
    induction l with
    | nil=>intro _;simp[af_]
    | cons a l ihl =>
     intro hm;rw[List.map_cons,af_,af_];have h1:=ih a (hm a (by simp)) fun m hx=>h m (fW_ h2 (hm a (by simp)) hx);have h3:=ihl fun b hb=>hm b (by simp[hb]);have h4:(sm L fun m=>ocL m (a :: l)*(f m).size)=(sm L fun m=>oc m a*(f m).size)+sm L fun m=>ocL m l*(f m).size:=by
      rw[← kb_];congr 1
      funext m
      rw[ocL,Nat.add_mul]
     omega
   have:=hl t.args fun a ha=>ha;have e:(sm L fun m=>oc m t*(f m).size)=sm L fun m=>ocL m t.args*(f m).size:=by
    congr 1
    funext m
    rw[cy_ h2]
   omega
def pr1 (L:List Int)(a:Int→Nat):Nat:=L.foldl (fun p m=>p*(1+a m)) 1
theorem kk_ (L:List Int)(m:Int)(a:Int→Nat):pr1 (L++[m]) a=pr1 L a*(1+a m):=by unfold pr1;rw[List.foldl_append];rfl
theorem ka_ {P:List Int→Prop}(h0:P [])(h1:∀ L m,P L→P (L++[m]))(L:List Int):P L:=by
 have:∀ n,∀ L:List Int,L.length=n→P L:=by
  intro n
  induction n with
  | zero=>intro L h;rw[List.eq_nil_of_length_eq_zero h];exact h0
  | succ n ih =>
   intro L h;have hne:L≠[]:=by rintro rfl;simp at h
   rw[← List.dropLast_concat_getLast hne];exact h1 _ _ (ih _ (by rw[List.length_dropLast];omega))
 exact this _ L rfl
theorem mK_ (a:Int→Nat)(L:List Int):pr1 L a≤2 ^ sm L a∧1≤pr1 L a:=by
 induction L using ka_ with
 | h0=>exact⟨aC_ _,aC_ _⟩
 | h1 L m ih =>
  rw[kk_,mb_,bV_,pr_,Nat.add_zero,Nat.pow_add];have:a m<2 ^ a m:=Nat.lt_two_pow_self;refine⟨Nat.mul_le_mul ih.1 (by omega),?_⟩;have:=Nat.mul_le_mul ih.2 (show 1≤1+a m by omega);omega
structure Qs (L:List Int)(n:Int→Nat)(s:Ty):Prop where
 dw:Dw s
 sz:s.size≤120
 oc:∀ m,oc m s≤n m
 mem:∀ m,Tp.oc m s≠0→m∈L
theorem Qs.arg {L:List Int}{n:Int→Nat}{s a:Ty}(h:Qs L n s)(h2:s.kind≠2)(ha:a∈s.args):Qs L n a :=
 ⟨h.dw.arg ha,by have:=bx_ _ ha;have:=h.sz;rw[s.size_eq] at this;omega,fun m=>cj_ (by rw[cy_ h2];exact rX_ ha) (h.oc m),fun m hm=>h.mem m (fW_ h2 ha hm)⟩
theorem Qs.op {L:List Int}{n:Int→Nat}{s:Ty}(h:Qs L n s)(c:ByteArray)(k:Nat):Qs L n (opB c k s) :=
 ⟨sm_ c k h.dw,by rw[jA_ c s k h.dw];exact h.sz,fun m=>by rw[rV_ c m s k h.dw];exact h.oc m,fun m hm=>h.mem m (by rwa [rV_ c m s k h.dw] at hm)⟩
theorem fy_ {L:List Int}{n:Int→Nat}{f:Int→Ty}(h:∀ x∈L,(f x).size≤1∨∃ s,s.kind≠2∧Qs L n s∧f x=fl f s){s:Ty}(hs:Qs L n s):(fl f s).size≤120*2 ^ sm L n:=by
 obtain⟨M,hM,hp⟩:∃ M:List Int,M.Pairwise (fun x y=>(f x).size≤(f y).size)∧M.Perm L:=by
  refine⟨L.mergeSort fun x y=>decide ((f x).size≤(f y).size),?_,List.mergeSort_perm _ _⟩;have:=List.pairwise_mergeSort (le:=fun x y:Int=>decide ((f x).size≤(f y).size)) (fun a b c h1 h2=>by simp only[decide_eq_true_eq] at *;omega) (fun a b=>by simp only[Bool.or_eq_true,decide_eq_true_eq];omega) L;exact this.imp fun h=>of_decide_eq_true h
 have key:∀ A:List Int,∀ C,M=A++C→120+(sm A fun m=>n m*(f m).size)≤120*pr1 A n:=by
  intro A
  induction A using ka_ with
  | h0=>intro C _;exact aC_ _
  | h1 A x ih =>
   intro C hC;have hC':M=A++(x :: C):=by rw[hC];simp
   have h1:=ih _ hC';rw[mb_,bV_,pr_,Nat.add_zero,kk_];have hx:(f x).size≤120*pr1 A n:=by
    rcases h x (hp.mem_iff.1 (by rw[hC'];simp)) with hx|⟨s,h2,hs,e⟩
    ·have:=(mK_ n A).2;omega
    ·have hsz:=gI_ M f s fun m hm=>hp.mem_iff.2 (hs.mem m hm)
     have hlt:∀ m,oc m s≠0→(f m).size<(f x).size:=fun m hm=>by
      rw[e];exact (fO_ s hm).2 h2
     have hz:(sm (x :: C) fun m=>oc m s*(f m).size)=0:=hN_ fun m hm=>by
      have:oc m s=0:=Classical.byContradiction fun hne=>by
       have h3:=hlt m hne
       rcases List.mem_cons.1 hm with rfl|hm
       ·omega
       ·rw[hC',List.pairwise_append] at hM
        have:=(List.pairwise_cons.1 hM.2.1).1 m hm;omega
      rw[this,Nat.zero_mul]
     have hA:(sm A fun m=>oc m s*(f m).size)≤sm A fun m=>n m*(f m).size:=qf_ fun m _=>Nat.mul_le_mul_right _ (hs.oc m);have e2:(sm M fun m=>oc m s*(f m).size)=(sm A fun m=>oc m s*(f m).size)+(sm (x :: C) fun m=>oc m s*(f m).size):=(by rw[hC',mb_]);have:=hs.sz;rw[e];omega
   have h5:=Nat.mul_le_mul_left (n x) hx;have h6:120*(pr1 A n*(1+n x))=120*pr1 A n+n x*(120*pr1 A n):=by
    rw[Nat.mul_add,Nat.mul_one,Nat.mul_add,Nat.mul_comm (n x),Nat.mul_assoc]
   omega
 have h1:=key M [] (by simp);have h2:=gI_ M f s fun m hm=>hp.mem_iff.2 (hs.mem m hm);have h3:(sm M fun m=>oc m s*(f m).size)≤sm M fun m=>n m*(f m).size:=qf_ fun m _=>Nat.mul_le_mul_right _ (hs.oc m);have h4:=(mK_ n M).1;rw[qe_ hp] at h4;have h5:=hs.sz;have h6:=Nat.mul_le_mul_left 120 h4;omega
mutual
def mn:Ty→Nat
 | .mk k _ _ args=>if k=2 then 1 else mnL args
def mnL:List Ty→Nat
 | []=>0
 | t :: ts=>mn t+mnL ts
end
theorem oP_ (t:Ty):mn t=if t.kind=2 then 1 else mnL t.args:=by
 cases t with
 | mk k s n args=>rw[mn];rfl
theorem rH_ {L:List Int}(hn:L.Nodup)(x:Int):(sm L fun m=>if x=m then 1 else 0)≤1:=by
 induction L with
 | nil=>exact Nat.zero_le _
 | cons y L ih =>
  rw[List.nodup_cons] at hn;rw[bV_]
  by_cases e:x=y
  ·subst e
   rw[if_pos rfl,hN_ fun m hm=>if_neg fun e=>hn.1 (by rw[e];exact hm)];exact aC_ _
  ·rw[if_neg e]
   have:=ih hn.2;omega
theorem px_ {L:List Int}(hn:L.Nodup):∀ t:Ty,(sm L fun m=>oc m t)≤mn t:=by
 intro t
 induction t using Ty.ind with
 | h t ih =>
  rw[oP_]
  by_cases h2:t.kind=2
  ·rw[if_pos h2]
   have e:(sm L fun m=>oc m t)=sm L fun m=>if t.n=m then 1 else 0:=by
    congr 1;funext m;rw[ds_ h2]
   rw[e];exact rH_ hn t.n
  ·rw[if_neg h2]
   have hl:∀ l:List Ty,(∀ a∈l,a∈t.args)→(sm L fun m=>ocL m l)≤mnL l:=by
    intro l
    induction l with
    | nil=>intro _;exact Nat.le_of_eq (hN_ fun _ _=>rfl)
    | cons a l ihl =>
     intro hm;have h1:=ih a (hm a (by simp));have h3:=ihl fun b hb=>hm b (by simp[hb]);have h4:(sm L fun m=>ocL m (a :: l))=(sm L fun m=>oc m a)+sm L fun m=>ocL m l:=by
      rw[← kb_];congr 1
     rw[mnL];omega
   have:=hl t.args fun a ha=>ha;have e:(sm L fun m=>oc m t)=sm L fun m=>ocL m t.args:=by
    congr 1;funext m;rw[cy_ h2]
   omega
end Go.Proofs.YtjecnionbjlncaaGreatDoor.Tp

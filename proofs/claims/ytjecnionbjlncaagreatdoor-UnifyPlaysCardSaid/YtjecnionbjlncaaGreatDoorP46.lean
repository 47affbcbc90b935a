/- Packed. -/
import Derived.Test.YtjecnionbjlncaaGreatDoorP37
import Derived.Laws.AppendOwn
import Derived.Deep.CutRange
set_option maxRecDepth 100000
set_option maxHeartbeats 6400000
namespace Go.Proofs.YtjecnionbjlncaaGreatDoor.Tp
section
open Lx
def aK_ (L:ByteArray)(n:Nat):ByteArray:=L++ab_ (Lib.decDigits n)
theorem gw_ (n:Nat):Lib.itoa (n:Int)=Lib.decDigits n:=by
 rw[Lib.itoa_nonneg]
theorem rf_ (n:Nat):aR_ n=aK_ ⟨#[120]⟩ n:=by unfold aR_ aK_;rw[gw_]
theorem rg_:aR_=aK_ ⟨#[120]⟩:=funext rf_
theorem cQ_ {L:ByteArray}{a b:Nat}(h:aK_ L a=aK_ L b):a=b:=by
 unfold aK_ at h;rw[← gw_,← gw_] at h;exact iw_ (fD_ (kJ_ h))
theorem fY_ (L:List UInt8)(n:Nat):(aK_ (ab_ L) n).data.toList=L++Lib.decDigits n:=by
 unfold aK_;rw[ByteArray.data_append];simp[ab_]
theorem tf_ (n:Nat)(h:n<1000000000000):ux_ (aK_ ⟨#[121]⟩ n):=by
 have h1:=bQ_ n;have h2:=sB_ n h;unfold ux_;have e:(aK_ ⟨#[121]⟩ n).data.toList=121 :: Lib.decDigits n:=fY_ [121] n;rw[e];refine⟨⟨by simp only[List.length_cons];omega,fun c hc=>?_⟩,by show bl_ 121=true;decide,?_⟩
 ·rcases List.mem_cons.1 hc with rfl|hc
  ·decide
  ·exact jJ_ (h1.1 c hc)
 ·rw[← Bool.not_eq_true,List.contains_iff_mem]
  intro hk;simp only[mz_,List.mem_cons,List.not_mem_nil,or_false] at hk
  rcases hk with hk|hk|hk|hk|hk|hk<;>(have:=(List.cons.inj hk).1;revert this;decide)
mutual
def mR_ (P:ByteArray→Prop):Ty→Prop
 | .mk k s _ args=>(k=5→P s)∧uc_ P args
def uc_ (P:ByteArray→Prop):List Ty→Prop
 | []=>True
 | t :: ts=>mR_ P t∧uc_ P ts
end
theorem qr_ (P:ByteArray→Prop)(ts:List Ty):uc_ P ts↔∀ t∈ts,mR_ P t:=by
 induction ts with
 | nil=>simp[uc_]
 | cons t ts ih=>rw[uc_,ih];simp
theorem f6_ (P:ByteArray→Prop)(t:Ty):mR_ P t↔(t.kind=5→P t.name)∧∀ a∈t.args,mR_ P a:=by
 cases t with
 | mk k s n args=>rw[mR_,qr_];rfl
theorem t8_ (f:Nat→ByteArray)(hf:∀ a b,f a=f b→a=b)(free:List ByteArray):∀ (t:Ty) (env:List ByteArray) (k:Nat),mR_ (fun s=>s∉free) (cnT f free env k t).1:=by
 intro t
 induction t using Ty.ind with
 | h t ih =>
  have hl:∀ (l:List Ty) (env:List ByteArray) (k:Nat),(∀ a∈l,∀ (env:List ByteArray) (k:Nat),mR_ (fun s=>s∉free) (cnT f free env k a).1)→∀ a∈(cnL f free env k l).1,mR_ (fun s=>s∉free) a:=by
   intro l
   induction l with
   | nil=>intro env k _ a ha;simp[cnL] at ha
   | cons b l ihl =>
    intro env k h a ha;rw[cnL] at ha
    rcases List.mem_cons.1 ha with rfl|ha
    ·exact h b (by simp) env k
    ·exact ihl env _ (fun c hc=>h c (by simp[hc])) a ha
  intro env k;rw[lC_]
  split
  ·rw[f6_];exact⟨fun h=>by simp[Ty.kind] at h,fun a ha=>by simp[Ty.args] at ha⟩
  ·split
   ·rw[f6_]
    exact⟨fun _=>(b8_ _ _).1 (bV_ f hf free k).2.2.2,hl t.args _ _ ih⟩
   ·next h5 =>
    rw[f6_];exact⟨fun h=>absurd h h5,hl t.args _ _ ih⟩
theorem t1_ (p:Ty→Bool)(u:Ty)(h5:∀ s n,p (.mk 5 s n [])=false)(h6:∀ s n,p (.mk 6 s n [])=false):∀ (t:Ty) (env:List ByteArray),Std t →
  mR_ (fun s=>¬ fvT s u∧p (.mk 1 s 0 [])=false) t→(∀ x∈env,¬ fvT x u∧p (.mk 1 x 0 [])=false)→dbT env (sbT p u t)=sbT p (dbT [] u) (dbT env t):=by
 intro t
 induction t using Ty.ind with
 | h t ih =>
  intro env hs hb he;have hb':=(f6_ _ t).1 hb;have hcl:dbT env u=dbT [] u:=g6_ u env fun x hx hxe=>(he x hxe).1 hx
  by_cases h5':t.kind=5
  ·have hp:p (dD_ t)=false:=by unfold dD_;rw[h5'];exact h5 _ _
   rw[fm_,hp,if_neg (by decide),aP_ _ _ (by exact h5'),aP_ _ _ h5',cC_,h5 _ _,if_neg (by decide)];show Ty.mk 5 emp 0 ((t.args.map (sbT p u)).map (dbT (t.name :: env)))=_;congr 1;rw[List.map_map,List.map_map];refine List.map_congr_left fun a ha=>?_;exact ih a ha (t.name :: env) (hs.args a ha) (hb'.2 a ha) fun x hx=>by
    rcases List.mem_cons.1 hx with rfl|hx
    ·exact hb'.1 h5'
    ·exact he x hx
  ·by_cases h1:t.kind=1
   ·obtain⟨hn0,ha⟩:=hs.k1 h1
    have hnode:dD_ t=.mk 1 t.name 0 []:=by unfold dD_;rw[h1,hn0]
    rw[a0_ _ _ h1,hn0,fm_,hnode,ha];cases hp:p (.mk 1 t.name 0 []) with
    | true =>
     have hx:t.name∉env:=fun hx=>by rw[(he _ hx).2] at hp;cases hp
     rw[if_pos rfl,hcl];unfold c9_;rw[(cO_ _ _).2 hx];simp only;rw[cC_,hp,if_pos rfl]
    | false =>
     rw[if_neg (by decide)];show dbT env (.mk t.kind t.name t.n [])=_;rw[h1,hn0,a0_ _ _ rfl];show c9_ env t.name 0=sbT p (dbT [] u) (c9_ env t.name 0);unfold c9_;cases ixN env t.name with
     | none=>simp only;rw[cC_,hp,if_neg (by decide)];rfl
     | some i=>simp only;rw[cC_,h6,if_neg (by decide)];rfl
   ·rw[fm_,az_ _ _ h1 h5',cC_]
    show dbT env (if p (dD_ t)=true then u else _)=if p (dD_ t)=true then _ else _;cases hp:p (dD_ t) with
    | true=>rw[if_pos rfl,if_pos rfl,hcl]
    | false =>
     rw[if_neg (by decide),if_neg (by decide),az_ _ _ (by exact h1) (by exact h5')];show Ty.mk t.kind t.name t.n ((t.args.map (sbT p u)).map (dbT env))=_;congr 1;rw[List.map_map,List.map_map];exact List.map_congr_left fun a ha=>ih a ha env (hs.args a ha) (hb'.2 a ha) he
theorem qQ_ (p:Ty→Bool)(u:Ty)(hu:Std u):∀ t:Ty,Std t→Std (sbT p u t):=by
 intro t
 induction t using Ty.ind with
 | h t ih =>
  intro hs;rw[fm_]
  split
  ·exact hu
  ·exact eB_ hs _ (by simp) fun a ha=>by
    obtain⟨b,hb,rfl⟩:=List.mem_map.1 ha;exact ih b hb (hs.args b hb)
def fE_ (nm:ByteArray)(u t:Ty):List ByteArray:=nm :: (af_ u++af_ t)
def cU_ (nm:ByteArray)(u t:Ty):Ty:=(cnT (aK_ ⟨#[121]⟩) (fE_ nm u t) [] 0 (dbT [] t)).1
theorem qp_ (f:Nat→ByteArray)(hf:∀ a b,f a=f b→a=b)(free:List ByteArray):∀ (t:Ty) (env:List ByteArray) (k:Nat),(cnT f free env k t).2≤k+t.size*(free.length+1):=by
 intro t
 induction t using Ty.ind with
 | h t ih =>
  have hl:∀ (l:List Ty) (env:List ByteArray) (k:Nat),(∀ a∈l,∀ (env:List ByteArray) (k:Nat),(cnT f free env k a).2≤k+a.size*(free.length+1))→(cnL f free env k l).2≤k+ag_ l*(free.length+1):=by
   intro l
   induction l with
   | nil=>intro env k _;simp[cnL]
   | cons b l ihl =>
    intro env k h;rw[cnL];have h1:=h b (by simp) env k;have h2:=ihl env (cnT f free env k b).2 fun c hc=>h c (by simp[hc]);simp only[ag_,Nat.add_mul] at h2 ⊢;omega
  intro env k;rw[lC_,t.size_eq,Nat.add_mul]
  split
  ·simp only;omega
  ·split
   ·have h1:=hl t.args (f (nx f free k) :: env) (nx f free k+1) ih
    have h2:=(bV_ f hf free k).2.1;have h3:nx f free k≤k+free.length:=h2;simp only;omega
   ·have h1:=hl t.args env k ih
    simp only;omega
theorem iN_ (nm:ByteArray)(u t:Ty)(ht:Std t):dbT [] (cU_ nm u t)=dbT [] t :=
 t5_ (aK_ ⟨#[121]⟩) (fun _ _=>cQ_) (fE_ nm u t) t [] [] 0 rfl ht (fun x hx _=>by
  unfold fE_;simp only[List.mem_cons,List.mem_append];exact .inr (.inr ((be_ x t).2 hx))) (fun x hx=>by cases hx) List.nodup_nil
theorem iM_ {P Q:ByteArray→Prop}(h:∀ s,P s→Q s):∀ t:Ty,mR_ P t→mR_ Q t:=by
 intro t
 induction t using Ty.ind with
 | h t ih =>
  intro hb;have hb:=(f6_ P t).1 hb;exact (f6_ Q t).2 ⟨fun e=>h _ (hb.1 e),fun a ha=>ih a ha (hb.2 a ha)⟩
theorem jS_ (nm:ByteArray)(u t:Ty):mR_ (fun s=>s≠nm∧¬ fvT s u) (cU_ nm u t):=by
 refine iM_ (fun s hs=>?_) _ (t8_ (aK_ ⟨#[121]⟩) (fun _ _=>cQ_) (fE_ nm u t) (dbT [] t) [] 0);unfold fE_ at hs;simp only[List.mem_cons,List.mem_append,not_or] at hs;exact⟨hs.1,fun h=>hs.2.1 ((be_ s u).2 h)⟩
def cI_ (nm:ByteArray)(u t:Ty):Ty:=sbT (eR_ nm) u (cU_ nm u t)
def b1_ (m:Int)(u t:Ty):Ty:=sbT (bE_ m) u (cU_ emp u t)
end
section
open Go.RowKit
theorem hf_ (b off j:Nat):(⟨b,off,none⟩:Addr).add j=⟨b,off+j,none⟩:=by unfold Addr.add;split<;>simp_all
theorem gt_ {w:World}{base base' size n:Nat}{e:TypeId}{v:Value}{xs:List Value}(h:w.ownsRow base e size v n xs)(hb:base'≤base):w.ownsRow base' e size v n xs:=by
 refine⟨h.1,h.2.imp id ?_⟩;rintro ⟨g,cap,cur,k1,k2,k3⟩;exact⟨g,cap,cur,k1,bL_ hb k2,k3⟩
theorem d8_ (ty:TypeId){wi wy:World}{lo:Nat}{S:Nat→Prop}{v1 v2:Value}{l1 l2:List ByteArray}(o1:wy.ownsRow lo 9 1 v1 l1.length (l1.map Value.string))(h2:aB_ S wy v2 l2)
  (hb:Below wi.heap.size wi wy) (hlo:wi.heap.size≤lo) (hlo1:lo≤wy.heap.size) (hl1:l1.length≤1099511627776) {L:List ByteArray} (hL:l1++l2=L) :
  ∃ v' w',(Builtin.append_ #[89,89] ty #[v1,v2]).run Tryz.prog wy=.ok v' w'∧w'.ownsRow wi.heap.size 9 1 v' L.length (L.map Value.string)∧Below wi.heap.size wi w'∧wy.grownBy w' v1.ownBlock:=by
 subst hL;obtain⟨i0,hi0,hz3,hz1,hz2⟩:=info_parts e9_;obtain⟨a,c,rfl,hc1,hl2,hn,hc⟩:=h2;cases a with
 | none =>
  have hc0:=hn rfl;subst hc0;have e0:l2=[]:=List.eq_nil_of_length_eq_zero (by omega);subst e0;refine⟨v1,wy,run_append_owned_none (P:=Tryz.prog) (w:=wy) lo 89 ty 9 i0 1 Tryz.underlying89 hi0 v1 l1.length (l1.map Value.string) o1,by rw[List.append_nil];exact gt_ o1 hlo,hb,.refl _ _⟩
 | some p =>
  obtain⟨v',w',hr,ho,hgr,_⟩:=run_append_own (P:=Tryz.prog) wy lo 89 ty 9 i0 (.string ByteArray.empty) 1 16 Tryz.underlying89 hi0 hz3 hz1 hz2 rfl (by decide) v1 l1.length (l1.map Value.string) o1 p l2.length c (l2.map Value.string) (by simp) (fun j u hu=>by
   rw[List.getElem?_map] at hu;cases hx:l2[j]? with
   | none=>rw[hx] at hu;cases hu
   | some x =>
    rw[hx] at hu;simp only[Option.map_some,Option.some.injEq] at hu;subst hu;obtain⟨hj,hx⟩:=List.getElem?_eq_some_iff.1 hx;obtain⟨b,off,e,_,hcc⟩:=hc.resolve_left (by intro e;rw[e] at hj;simp at hj);obtain rfl:=Option.some.inj e;rw[hf_,hcc j hj,hx]) (fun u hu=>by obtain⟨x,_,rfl⟩:=List.mem_map.1 hu;rfl) (by unfold maxLen;omega) (by omega) hlo1
  refine⟨v',w',hr,?_,hb.grown hgr (by have:=hb.size;omega) (fun k e=>by have:=(o1.lt k e).1;omega),hgr⟩;rw[List.length_append,List.map_append];exact gt_ ho hlo
theorem d9_ (ty:TypeId){wi wy:World}{lo:Nat}{S:Nat→Prop}{v1 v2:Value}{l1 l2:List ByteArray}(o1:wy.ownsRow lo 9 1 v1 l1.length (l1.map Value.string))(h2:aB_ S wy v2 l2)
  (hb:Below wi.heap.size wi wy) (hlo:wi.heap.size≤lo) (hlo1:lo≤wy.heap.size) (hl1:l1.length≤1099511627776) {L:List ByteArray} (hL:l1++l2=L) :
  ∃ v' w',(Builtin.append_ #[89,89] ty #[v1,v2]).run Tryz.prog wy=.ok v' w'∧w'.ownsRow wi.heap.size 9 1 v' L.length (L.map Value.string)∧Below wi.heap.size wi w' :=
 let ⟨v',w',h1,h2,h3,_⟩:=d8_ ty o1 h2 hb hlo hlo1 hl1 hL;⟨v',w',h1,h2,h3⟩
theorem ea_ (ty:TypeId){wi wy:World}{lo:Nat}{S:Nat→Prop}{v1 v2:Value}{l1 l2:List Int}(o1:wy.ownsRow lo 3 1 v1 l1.length (l1.map (Value.int .i64)))(h2:ex_ S wy v2 l2)(hn:∀ c,v2=.slice none l2.length c→c=0)
  (hb:Below wi.heap.size wi wy) (hlo:wi.heap.size≤lo) (hlo1:lo≤wy.heap.size) (hl1:l1.length≤1099511627776) {L:List Int} (hL:l1++l2=L) :
  ∃ v' w',(Builtin.append_ #[50,50] ty #[v1,v2]).run Tryz.prog wy=.ok v' w'∧w'.ownsRow wi.heap.size 3 1 v' L.length (L.map (Value.int .i64))∧Below wi.heap.size wi w'∧wy.grownBy w' v1.ownBlock:=by
 subst hL;obtain⟨i0,hi0,hz3,hz1,hz2⟩:=info_parts of_;obtain⟨a,c,rfl,hc1,hl2,hc⟩:=h2;cases a with
 | none =>
  have hc0:=hn c rfl;subst hc0;have e0:l2=[]:=List.eq_nil_of_length_eq_zero (by omega);subst e0;refine⟨v1,wy,run_append_owned_none (P:=Tryz.prog) (w:=wy) lo 50 ty 3 i0 1 Tryz.underlying50 hi0 v1 l1.length (l1.map (Value.int .i64)) o1,by rw[List.append_nil];exact gt_ o1 hlo,hb,.refl _ _⟩
 | some p =>
  obtain⟨v',w',hr,ho,hgr,_⟩:=run_append_own (P:=Tryz.prog) wy lo 50 ty 3 i0 (.int .i64 0) 1 8 Tryz.underlying50 hi0 hz3 hz1 hz2 rfl (by decide) v1 l1.length (l1.map (Value.int .i64)) o1 p l2.length c (l2.map (Value.int .i64)) (by simp) (fun j u hu=>by
   rw[List.getElem?_map] at hu;cases hx:l2[j]? with
   | none=>rw[hx] at hu;cases hu
   | some x =>
    rw[hx] at hu;simp only[Option.map_some,Option.some.injEq] at hu;subst hu;obtain⟨hj,hx⟩:=List.getElem?_eq_some_iff.1 hx;obtain⟨b,off,e,_,hcc⟩:=hc.resolve_left (by intro e;rw[e] at hj;simp at hj);obtain rfl:=Option.some.inj e;rw[hf_,hcc j hj,hx]) (fun u hu=>by obtain⟨x,_,rfl⟩:=List.mem_map.1 hu;rfl) (by unfold maxLen;omega) (by omega) hlo1
  refine⟨v',w',hr,?_,hb.grown hgr (by have:=hb.size;omega) (fun k e=>by have:=(o1.lt k e).1;omega),hgr⟩;rw[List.length_append,List.map_append];exact gt_ ho hlo
theorem hd_ (ty:TypeId){wi wy:World}{lo:Nat}{S:Nat→Prop}{v1 v2:Value}{l1 l2:List Int}(o1:wy.ownsRow lo 3 1 v1 l1.length (l1.map (Value.int .i64)))(h2:ex_ S wy v2 l2)(hn:∀ c,v2=.slice none l2.length c→c=0)
  (hb:Below wi.heap.size wi wy) (hlo:wi.heap.size≤lo) (hlo1:lo≤wy.heap.size) (hl1:l1.length≤1099511627776) {L:List Int} (hL:l1++l2=L) :
  ∃ v' w',(Builtin.append_ #[50,50] ty #[v1,v2]).run Tryz.prog wy=.ok v' w'∧w'.ownsRow wi.heap.size 3 1 v' L.length (L.map (Value.int .i64))∧Below wi.heap.size wi w' :=
 let ⟨v',w',h1,h2,h3,_⟩:=ea_ ty o1 h2 hn hb hlo hlo1 hl1 hL;⟨v',w',h1,h2,h3⟩
theorem ah_ {P:Program}{ops:Array Oper}{o:Oper}{a:Act}{w:World}{K:Act→World→Prop}{Q:Exit→Act→World→Prop}{E:Prop}(hgd:o.guard=none)(s x:Operand)(t:TypeId)
  (ho:o.op=.call { callee:=.builtin .append,args:=#[s,x],argTypes:=#[t,t] }) {v vx:Value} (hs:a.eval s=v) (hx:a.eval x=vx) {R:Value→World→Prop}
  (hrun:∃ v' w',(Builtin.append_ #[t,t] o.type #[v,vx]).run P w=.ok v' w'∧R v' w') (h:∀ v' w',R v' w'→K (a.put o.dst v') w') :
  if Region.wanted o (yielded ops a.tmps)=true then Oper.wp P o a w K Q else E:=by
 have hw:Region.wanted o (yielded ops a.tmps)=true:=by simp[Region.wanted,hgd]
 rw[if_pos hw];obtain⟨v',w',hr,hR⟩:=hrun;unfold Oper.wp execOp;simp only[ho,resolve,invoke,builtin,Sem.run_bind,Sem.run_pure,Result.andThen_ok,List.map_toArray,List.map_cons,List.map_nil,hs,hx,hr];exact h v' w' hR
theorem pd_ {w:World}{b:Nat}{x:ByteArray}{t:TypeId}{S:Nat→Prop}(h:w.heap[b]? = some (.cells #[.string x] t (0,0)))(hS:S b):aB_ S w (.slice (some ⟨b,0,none⟩) 1 1) [x] :=
 ⟨_,1,rfl,by simp,by simp,(fun e=>by cases e),.inr ⟨b,0,rfl,hS,fun j hj=>by
  have:j=0:=by simp at hj;omega
  subst this;exact cell_of_row w b 0 _ _ _ h⟩⟩
theorem pS_ {w:World}{b:Nat}{x:Int}{t:TypeId}{S:Nat→Prop}(h:w.heap[b]? = some (.cells #[.int .i64 x] t (0,0)))(hS:S b):ex_ S w (.slice (some ⟨b,0,none⟩) 1 1) [x] :=
 ⟨_,1,rfl,by simp,by simp,.inr ⟨b,0,rfl,hS,fun j hj=>by
  have:j=0:=by simp at hj;omega
  subst this;exact cell_of_row w b 0 _ _ _ h⟩⟩
theorem eF_ {w:World}{b:Nat}{t:TypeId}{lo:Nat}(h:w.heap[b]? = some (.cells #[] t (0,0)))(hb:lo≤b):w.ownsRow lo t 1 (.slice (some ⟨b,0,none⟩) 0 0) 0 [] :=
 ⟨by simp,.inr ⟨b,0,#[],rfl,hb,h,aA_ _,by unfold maxLen;omega,by simp,by simp⟩⟩
def bc_ (w:World)(v:Value)(l:List ByteArray):Prop:=aB_ (fun b=>b<w.heap.size) w v l
theorem bc_.low {w w':World}{v:Value}{l:List ByteArray}(h:bc_ w v l)(hb:Below w.heap.size w w'):bc_ w' v l :=
 (aB_.keep (fun b hS=>hb.block b hS) h).mono fun _ hS=>aU_ hS hb.size
theorem bc_.own {w:World}{lo:Nat}{v:Value}{l:List ByteArray}(h:w.ownsRow lo 9 1 v l.length (l.map Value.string))(hl:l.length≤1099511627776):bc_ w v l :=
 (aB_.of_own h (by omega)).mono fun b hb=>(h.lt b hb).2
def cM_ (w:World)(v:Value)(l:List Int):Prop:=ex_ (fun b=>b<w.heap.size) w v l∧∀ c,v=.slice none l.length c→c=0
theorem cM_.low {w w':World}{v:Value}{l:List Int}(h:cM_ w v l)(hb:Below w.heap.size w w'):cM_ w' v l:=by
 refine⟨?_,h.2⟩;obtain⟨a,c,e,h1,h2,h3⟩:=ex_.keep (fun b hS=>hb.block b hS) h.1;exact⟨a,c,e,h1,h2,h3.imp id fun ⟨b,off,e,hS,hc⟩=>⟨b,off,e,aU_ hS hb.size,hc⟩⟩
theorem cM_.own {w:World}{lo:Nat}{v:Value}{l:List Int}(h:w.ownsRow lo 3 1 v l.length (l.map (Value.int .i64)))(hl:l.length≤1099511627776):cM_ w v l:=by
 constructor
 ·obtain⟨a,c,e,h1,h2,h3⟩:=ex_.of_own h (by omega)
  exact⟨a,c,e,h1,h2,h3.imp id fun ⟨b,off,e,hS,hc⟩=>⟨b,off,e,(h.lt b hS).2,hc⟩⟩
 ·intro c e
  rcases h.2 with ⟨rfl,h0⟩|⟨g,cap,cur,rfl,_⟩
  ·injection e with _ _ e;exact e.symm
  ·simp at e
theorem aa_.low {w w':World}{v:Value}{l:List Ty}(h:aa_ (fun b=>b<w.heap.size) w v l)(hb:Below w.heap.size w w'):aa_ (fun b=>b<w'.heap.size) w' v l :=
 (aa_.keep (fun b hS=>hb.block b hS) h).mono fun _ hS=>aU_ hS hb.size
def iV_ (W:World)(l:List ByteArray)(v:Value)(w':World):Prop:=w'.ownsRow W.heap.size 9 1 v l.length (l.map (Value.string))∧Below W.heap.size W w'
theorem ii_ (ty:TypeId){W w1:World}{v1:Value}{l:List ByteArray}{b:Nat}(x:ByteArray)(o1:w1.ownsRow W.heap.size 9 1 v1 l.length (l.map (Value.string)))(hB:Below W.heap.size W w1)(h2:w1.heap[b]? = some (.cells #[Value.string x] 9 (0,0)))(hl:l.length≤1099511627776) :
  ∃ v2 w2,(Builtin.append_ #[89,89] ty #[v1,.slice (some ⟨b,0,none⟩) 1 1]).run Tryz.prog w1=.ok v2 w2∧iV_ W (l++[x]) v2 w2 :=
 d9_ (wi:=W) (wy:=w1) (lo:=W.heap.size) (S:=fun _=>True) ty o1 (pd_ h2 True.intro) hB (aA_ _) hB.size hl rfl
theorem im_ (ty1 ty2:TypeId)(W:World){v:Value}{l:List ByteArray}(h:bc_ W v l)(hl:l.length≤1099511627776)(x:ByteArray) :
  ∃ v1 w1,(Builtin.append_ #[89,89] ty1 #[.slice (some ⟨W.heap.size,0,none⟩) 0 0,v]).run Tryz.prog (W.alloc (.cells #[] 9)).drew=.ok v1 w1∧Below W.heap.size W w1 ∧
   ∃ v2 w2,(Builtin.append_ #[89,89] ty2 #[v1,.slice (some ⟨w1.heap.size,0,none⟩) 1 1]).run Tryz.prog (w1.alloc (.cells #[Value.string x] 9))=.ok v2 w2∧iV_ W (l++[x]) v2 w2:=by
 have hb:Below W.heap.size W (W.alloc (.cells #[] 9)).drew:=(aq_ _ _).drew;have h2:=h.low hb;obtain⟨v1,w1,hr,o1,hB1⟩:=d9_ (wi:=W) (wy:=(W.alloc (.cells #[] 9)).drew) (lo:=W.heap.size) (l1:=[]) ty1 (eF_ (heap_alloc_new W (.cells #[] 9)) (aA_ _)) h2 hb (aA_ _) hb.size (by simp) (List.nil_append l);exact⟨v1,w1,hr,hB1,ii_ ty2 x (o1.alloc _) (hB1.alloc hB1.size _) (heap_alloc_new w1 _) hl⟩
theorem il_ (ty1 ty2:TypeId)(W:World){v:Value}{l:List ByteArray}(h:bc_ W v l)(hl:l.length≤1099511627776)(x:ByteArray) :
  ∃ v1 w1,(Builtin.append_ #[89,89] ty1 #[.slice (some ⟨W.heap.size,0,none⟩) 0 0,v]).run Tryz.prog ((W.alloc (.cells #[] 9)).alloc (.cells #[Value.string x] 9)).drew=.ok v1 w1∧Below W.heap.size W w1 ∧
   ∃ v2 w2,(Builtin.append_ #[89,89] ty2 #[v1,.slice (some ⟨W.heap.size+1,0,none⟩) 1 1]).run Tryz.prog w1=.ok v2 w2∧iV_ W (l++[x]) v2 w2:=by
 have hb0:Below W.heap.size W (W.alloc (.cells #[] 9)):=aq_ _ _;have hb:Below W.heap.size W ((W.alloc (.cells #[] 9)).alloc (.cells #[Value.string x] 9)).drew:=(hb0.alloc hb0.size _).drew;have h2:=h.low hb;have hn:((W.alloc (.cells #[] 9)).alloc (.cells #[Value.string x] 9)).heap[W.heap.size+1]? = some (.cells #[Value.string x] 9 (0,0)):=by
  have:=heap_alloc_new (W.alloc (.cells #[] 9)) (.cells #[Value.string x] 9);simpa using this
 obtain⟨v1,w1,hr,o1,hB1,hg⟩:=d8_ (wi:=W) (wy:=((W.alloc (.cells #[] 9)).alloc (.cells #[Value.string x] 9)).drew) (lo:=W.heap.size) (l1:=[]) ty1 (eF_ ((heap_alloc_old (W.alloc (.cells #[] 9)) (.cells #[Value.string x] 9) (by simp)).trans (heap_alloc_new W (.cells #[] 9))) (aA_ _)) h2 hb (aA_ _) hb.size (by simp) (List.nil_append l);exact⟨v1,w1,hr,hB1,ii_ ty2 x o1 hB1 ((hg.block (W.heap.size+1) (by simp) (by simp[Value.ownBlock])).trans hn) hl⟩
theorem ik_ (ty1 ty2:TypeId)(W:World){v:Value}{l:List ByteArray}(h:bc_ W v l)(hl:l.length≤1099511627776)(x:ByteArray) :
  ∃ v1 w1,(Builtin.append_ #[89,89] ty1 #[.slice (some ⟨W.heap.size+1,0,none⟩) 0 0,v]).run Tryz.prog ((W.alloc (.cells #[Value.string x] 9)).alloc (.cells #[] 9)).drew=.ok v1 w1∧Below W.heap.size W w1 ∧
   ∃ v2 w2,(Builtin.append_ #[89,89] ty2 #[v1,.slice (some ⟨W.heap.size,0,none⟩) 1 1]).run Tryz.prog w1=.ok v2 w2∧iV_ W (l++[x]) v2 w2:=by
 have hb0:Below W.heap.size W (W.alloc (.cells #[Value.string x] 9)):=aq_ _ _;have hb:Below W.heap.size W ((W.alloc (.cells #[Value.string x] 9)).alloc (.cells #[] 9)).drew:=(hb0.alloc hb0.size _).drew;have h2:=h.low hb;have hn:((W.alloc (.cells #[Value.string x] 9)).alloc (.cells #[] 9)).heap[W.heap.size]? = some (.cells #[Value.string x] 9 (0,0)) :=
  (heap_alloc_old (W.alloc (.cells #[Value.string x] 9)) (.cells #[] 9) (by simp)).trans (heap_alloc_new W (.cells #[Value.string x] 9))
 have hm:((W.alloc (.cells #[Value.string x] 9)).alloc (.cells #[] 9)).heap[W.heap.size+1]? = some (.cells #[] 9 (0,0)):=by
  have:=heap_alloc_new (W.alloc (.cells #[Value.string x] 9)) (.cells #[] 9);simpa using this
 obtain⟨v1,w1,hr,o1,hB1,hg⟩:=d8_ (wi:=W) (wy:=((W.alloc (.cells #[Value.string x] 9)).alloc (.cells #[] 9)).drew) (lo:=W.heap.size) (l1:=[]) ty1 (eF_ (b:=W.heap.size+1) hm (by omega)) h2 hb (aA_ _) hb.size (by simp) (List.nil_append l);exact⟨v1,w1,hr,hB1,ii_ ty2 x o1 hB1 ((hg.block W.heap.size (by simp;omega) (by simp[Value.ownBlock])).trans hn) hl⟩
def iW_ (W:World)(l:List Int)(v:Value)(w':World):Prop:=w'.ownsRow W.heap.size 3 1 v l.length (l.map (Value.int .i64))∧Below W.heap.size W w'
theorem ij_ (ty:TypeId){W w1:World}{v1:Value}{l:List Int}{b:Nat}(x:Int)(o1:w1.ownsRow W.heap.size 3 1 v1 l.length (l.map (Value.int .i64)))(hB:Below W.heap.size W w1)(h2:w1.heap[b]? = some (.cells #[Value.int .i64 x] 3 (0,0)))(hl:l.length≤1099511627776) :
  ∃ v2 w2,(Builtin.append_ #[50,50] ty #[v1,.slice (some ⟨b,0,none⟩) 1 1]).run Tryz.prog w1=.ok v2 w2∧iW_ W (l++[x]) v2 w2 :=
 hd_ (wi:=W) (wy:=w1) (lo:=W.heap.size) (S:=fun _=>True) ty o1 (pS_ h2 True.intro) (fun c e=>by simp at e) hB (aA_ _) hB.size hl rfl
theorem rW_ (ty1 ty2:TypeId)(W:World){v:Value}{l:List Int}(h:cM_ W v l)(hl:l.length≤1099511627776)(x:Int) :
  ∃ v1 w1,(Builtin.append_ #[50,50] ty1 #[.slice (some ⟨W.heap.size,0,none⟩) 0 0,v]).run Tryz.prog (W.alloc (.cells #[] 3)).drew=.ok v1 w1∧Below W.heap.size W w1 ∧
   ∃ v2 w2,(Builtin.append_ #[50,50] ty2 #[v1,.slice (some ⟨w1.heap.size,0,none⟩) 1 1]).run Tryz.prog (w1.alloc (.cells #[Value.int .i64 x] 3))=.ok v2 w2∧iW_ W (l++[x]) v2 w2:=by
 have hb:Below W.heap.size W (W.alloc (.cells #[] 3)).drew:=(aq_ _ _).drew;have h2:=h.low hb;obtain⟨v1,w1,hr,o1,hB1⟩:=hd_ (wi:=W) (wy:=(W.alloc (.cells #[] 3)).drew) (lo:=W.heap.size) (l1:=[]) ty1 (eF_ (heap_alloc_new W (.cells #[] 3)) (aA_ _)) h2.1 h2.2 hb (aA_ _) hb.size (by simp) (List.nil_append l);exact⟨v1,w1,hr,hB1,ij_ ty2 x (o1.alloc _) (hB1.alloc hB1.size _) (heap_alloc_new w1 _) hl⟩
theorem rV_ (ty1 ty2:TypeId)(W:World){v:Value}{l:List Int}(h:cM_ W v l)(hl:l.length≤1099511627776)(x:Int) :
  ∃ v1 w1,(Builtin.append_ #[50,50] ty1 #[.slice (some ⟨W.heap.size,0,none⟩) 0 0,v]).run Tryz.prog ((W.alloc (.cells #[] 3)).alloc (.cells #[Value.int .i64 x] 3)).drew=.ok v1 w1∧Below W.heap.size W w1 ∧
   ∃ v2 w2,(Builtin.append_ #[50,50] ty2 #[v1,.slice (some ⟨W.heap.size+1,0,none⟩) 1 1]).run Tryz.prog w1=.ok v2 w2∧iW_ W (l++[x]) v2 w2:=by
 have hb0:Below W.heap.size W (W.alloc (.cells #[] 3)):=aq_ _ _;have hb:Below W.heap.size W ((W.alloc (.cells #[] 3)).alloc (.cells #[Value.int .i64 x] 3)).drew:=(hb0.alloc hb0.size _).drew;have h2:=h.low hb;have hn:((W.alloc (.cells #[] 3)).alloc (.cells #[Value.int .i64 x] 3)).heap[W.heap.size+1]? = some (.cells #[Value.int .i64 x] 3 (0,0)):=by
  have:=heap_alloc_new (W.alloc (.cells #[] 3)) (.cells #[Value.int .i64 x] 3);simpa using this
 obtain⟨v1,w1,hr,o1,hB1,hg⟩:=ea_ (wi:=W) (wy:=((W.alloc (.cells #[] 3)).alloc (.cells #[Value.int .i64 x] 3)).drew) (lo:=W.heap.size) (l1:=[]) ty1 (eF_ ((heap_alloc_old (W.alloc (.cells #[] 3)) (.cells #[Value.int .i64 x] 3) (by simp)).trans (heap_alloc_new W (.cells #[] 3))) (aA_ _)) h2.1 h2.2 hb (aA_ _) hb.size (by simp) (List.nil_append l);exact⟨v1,w1,hr,hB1,ij_ ty2 x o1 hB1 ((hg.block (W.heap.size+1) (by simp) (by simp[Value.ownBlock])).trans hn) hl⟩
theorem rU_ (ty1 ty2:TypeId)(W:World){v:Value}{l:List Int}(h:cM_ W v l)(hl:l.length≤1099511627776)(x:Int) :
  ∃ v1 w1,(Builtin.append_ #[50,50] ty1 #[.slice (some ⟨W.heap.size+1,0,none⟩) 0 0,v]).run Tryz.prog ((W.alloc (.cells #[Value.int .i64 x] 3)).alloc (.cells #[] 3)).drew=.ok v1 w1∧Below W.heap.size W w1 ∧
   ∃ v2 w2,(Builtin.append_ #[50,50] ty2 #[v1,.slice (some ⟨W.heap.size,0,none⟩) 1 1]).run Tryz.prog w1=.ok v2 w2∧iW_ W (l++[x]) v2 w2:=by
 have hb0:Below W.heap.size W (W.alloc (.cells #[Value.int .i64 x] 3)):=aq_ _ _;have hb:Below W.heap.size W ((W.alloc (.cells #[Value.int .i64 x] 3)).alloc (.cells #[] 3)).drew:=(hb0.alloc hb0.size _).drew;have h2:=h.low hb;have hn:((W.alloc (.cells #[Value.int .i64 x] 3)).alloc (.cells #[] 3)).heap[W.heap.size]? = some (.cells #[Value.int .i64 x] 3 (0,0)) :=
  (heap_alloc_old (W.alloc (.cells #[Value.int .i64 x] 3)) (.cells #[] 3) (by simp)).trans (heap_alloc_new W (.cells #[Value.int .i64 x] 3))
 have hm:((W.alloc (.cells #[Value.int .i64 x] 3)).alloc (.cells #[] 3)).heap[W.heap.size+1]? = some (.cells #[] 3 (0,0)):=by
  have:=heap_alloc_new (W.alloc (.cells #[Value.int .i64 x] 3)) (.cells #[] 3);simpa using this
 obtain⟨v1,w1,hr,o1,hB1,hg⟩:=ea_ (wi:=W) (wy:=((W.alloc (.cells #[Value.int .i64 x] 3)).alloc (.cells #[] 3)).drew) (lo:=W.heap.size) (l1:=[]) ty1 (eF_ (b:=W.heap.size+1) hm (by omega)) h2.1 h2.2 hb (aA_ _) hb.size (by simp) (List.nil_append l);exact⟨v1,w1,hr,hB1,ij_ ty2 x o1 hB1 ((hg.block W.heap.size (by simp;omega) (by simp[Value.ownBlock])).trans hn) hl⟩
theorem qe_ (l:List ByteArray)(x:ByteArray):cR_ l.reverse x=cR_ l x:=by unfold cR_;rw[List.any_reverse]
theorem i3_ (l:List Ty)(out ns:List ByteArray):(a1_ ak_ l out ns).length≤out.length+ag_ l:=by
 induction l generalizing out with
 | nil=>simp[a1_]
 | cons t l ih=>rw[a1_,ag_];have:=ih (bB_ ak_ t out ns);have:=gY_ t out ns;omega
def j0_ (w:World)(l:List ByteArray)(e:Ending)(w':World):Prop:=∃ v,e=.returned v∧bc_ w' v l∧Below w.heap.size w w'
def fI_ (t:Ty):Prop:=∀ (S:Nat→Prop) (a:OA_) (c:Nat) (w:World) (vb vo:Value) (nb out:List ByteArray),aa_ S w (.slice a t.args.length c) t.args→(∀ b,S b→b<w.heap.size)→Wf t→bc_ w vb nb→bc_ w vo out →
  out.length+t.size≤1000000000000→nb.length+t.size≤1000000000000→Calls Tryz.prog 83 #[tv t a c,vb,vo] w (j0_ w (bB_ ak_ t out nb.reverse))
theorem np_ (t:Ty)(hk:t.kind=1)(hta:t.args=[]):fI_ t:=by
 intro S a c w vb vo nb out hA hS hw hb ho hlo hlb;have hz:=aq_ w (.cells #[.int .i64 t.kind,.string t.name,.int .i64 t.n,.slice a t.args.length c] 43);have k4:=R4.new w (.int .i64 t.kind) (.string t.name) (.int .i64 t.n) (.slice a t.args.length c);have E:bB_ ak_ t out nb.reverse=if !cR_ nb t.name&&!cR_ out t.name then out++[t.name] else out:=by
  rw[bF_,hta,a1_];unfold ak_;rw[hk,qe_];rfl
 have hz':Below w.heap.size w (w.alloc (.cells #[.int .i64 t.kind,.string t.name,.int .i64 t.n,.slice a t.args.length c] 43)):=hz;have CB:=hid (kz_ _ vb nb t.name _ (hb.low hz'));have CO:=hid (kz_ _ vo out t.name _ (ho.low hz'));have HOW:=hid (ho.low hz');have e1:(t.kind==1)=true:=by rw[hk];rfl
 have c0:=k4.c0;have c1:=k4.c1;have K4:=hid k4;have HZ:=hid hz';have hl2:out.length≤1099511627776:=by omega
 have hl3:(out++[t.name]).length≤1099511627776:=by simp;omega
 clear hA hS hw hb hz hz' k4 hk hta hlo hlb;unfold tv;generalize t.args.length=n at *;cases h1:cR_ nb t.name with
 | true =>
  rw[h1] at CB E;have EH:Hid (bB_ ak_ t out nb.reverse=out):=hid E;clear E h1;go_enter Tryz.func83,Tryz.ntmps83;go_wp2_with fail;refine CB.out.mono ?_;rintro e w1 ⟨rfl,rfl⟩;go_wp2_with fail;refine CO.out.mono ?_;rintro e w1 ⟨rfl,rfl⟩;go_wp2
  all_goals
   go_ret;exact⟨_,rfl,by rw[EH.out];exact HOW.out,HZ.out⟩
 | false =>
  rw[h1] at CB E;clear h1;cases h2:cR_ out t.name with
  | true =>
   rw[h2] at CO E;have EH:Hid (bB_ ak_ t out nb.reverse=out):=hid E;clear E h2;go_enter Tryz.func83,Tryz.ntmps83;go_wp2_with fail;refine CB.out.mono ?_;rintro e w1 ⟨rfl,rfl⟩;go_wp2_with fail;refine CO.out.mono ?_;rintro e w1 ⟨rfl,rfl⟩;go_wp2;go_ret;exact⟨_,rfl,by rw[EH.out];exact HOW.out,HZ.out⟩
  | false =>
   rw[h2] at CO E;have EH:Hid (bB_ ak_ t out nb.reverse=out++[t.name]):=hid E;clear E h2;go_enter Tryz.func83,Tryz.ntmps83;go_wp2_with fail;refine CB.out.mono ?_;rintro e w1 ⟨rfl,rfl⟩;go_wp2_with fail;refine CO.out.mono ?_;rintro e w1 ⟨rfl,rfl⟩;go_wp2;generalize w.alloc (.cells #[.int .i64 t.kind,.string t.name,.int .i64 t.n,.slice a n c] 43)=W0 at *;have PA:=hid (im_ 89 89 (W0) HOW.out hl2 t.name);have PB:=hid (il_ 89 89 (W0) HOW.out hl2 t.name);have PC:=hid (ik_ 89 89 (W0) HOW.out hl2 t.name)
   go_region_held3 (fun w'=>w'.cell? ⟨w.heap.size,1,none⟩=some (.string t.name))
    (first|(with_reducible exact (K4.out.low HX2.out).c1)|(with_reducible exact (K4.out.low HX1.out).c1)|go_keep)
    (first
     | ((with_reducible show (if Region.wanted _ _=true then Oper.wp _ _ _ ((W0).alloc (.cells #[] 9)).drew _ _ else _));refine ah_ (by rfl) _ _ _ (by rfl) (by rfl) (by rfl) PA.out ?_;rintro v1 w1 ⟨hx1,hA2⟩;have HX1:=hid hx1;have A2:=hid hA2;have q1:=(K4.out.low hx1).c1;clear hx1 hA2)
     | ((with_reducible show (if Region.wanted _ _=true then Oper.wp _ _ _ (((W0).alloc (.cells #[] 9)).alloc (.cells #[.string t.name] 9)).drew _ _ else _));refine ah_ (by rfl) _ _ _ (by rfl) (by rfl) (by rfl) PB.out ?_;rintro v1 w1 ⟨hx1,hA2⟩;have HX1:=hid hx1;have A2:=hid hA2;have q1:=(K4.out.low hx1).c1;clear hx1 hA2)
     | ((with_reducible show (if Region.wanted _ _=true then Oper.wp _ _ _ (((W0).alloc (.cells #[.string t.name] 9)).alloc (.cells #[] 9)).drew _ _ else _));refine ah_ (by rfl) _ _ _ (by rfl) (by rfl) (by rfl) PC.out ?_;rintro v1 w1 ⟨hx1,hA2⟩;have HX1:=hid hx1;have A2:=hid hA2;have q1:=(K4.out.low hx1).c1;clear hx1 hA2)
     | (refine ah_ (by rfl) _ _ _ (by rfl) (by rfl) (by rfl) A2.out ?_;rintro v2 w2 ⟨ho2,hx2⟩;have HO2:=hid ho2;have HX2:=hid hx2;clear ho2 hx2))
   all_goals
    go_wp2;go_ret;exact⟨_,rfl,by rw[EH.out];exact .own HO2.out hl3,HZ.out.trans (HX2.out.mono HZ.out.size)⟩
theorem mg_ (t:Ty)(hk:t.kind≠1)(ih:∀ u∈t.args,fI_ u):fI_ t:=by
 intro S a c w vb vo nb out hA hS hw hb ho hlo hlb;have hz:Below w.heap.size w (w.alloc (.cells #[.int .i64 t.kind,.string t.name,.int .i64 t.n,.slice a t.args.length c] 43)):=aq_ w (.cells #[.int .i64 t.kind,.string t.name,.int .i64 t.n,.slice a t.args.length c] 43);have k4:=R4.new w (.int .i64 t.kind) (.string t.name) (.int .i64 t.n) (.slice a t.args.length c);have hl:t.args.length≤9223372036854775807:=by
  obtain⟨_,_,_,h⟩:=hA.form;exact h
 have hst:ak_ out t nb.reverse=out:=by
  unfold ak_;rw[show (t.kind==1)=false from by rw[beq_eq_false_iff_ne];exact hk];rfl
 have E:=bF_ ak_ t out nb.reverse;rw[hst] at E;have e1:(t.kind==1)=false:=by rw[beq_eq_false_iff_ne];exact hk
 have SE:Hid (ag_ t.args+1+out.length≤1000000000000∧ag_ t.args+1+nb.length≤1000000000000):=hid (by have:=t.size_eq;omega);have IH:=hid ih;have AH:=hid hA;have HN:=hid hS;have HW:=hid ((a3_ t).1 hw).2;have HOW:=hid (ho.low hz);have HBW:=hid (hb.low hz);have c0:=k4.c0;have c1:=k4.c1;have K4:=hid k4;have HZ:=hid hz;have hl2:nb.length≤1099511627776:=by omega
 have hl3:(nb++[t.name]).length≤1099511627776:=by simp;omega
 clear hA hS hw hb ho hz k4 ih hk hst hlo hlb;unfold tv
 by_cases h5:t.kind=5
 ·rw[if_pos h5,show t.name :: nb.reverse=(nb++[t.name]).reverse from by simp] at E
  have EQ:=hid E;have e5:(t.kind==5)=true:=by rw[h5];rfl
  clear E h5;go_enter Tryz.func83,Tryz.ntmps83;go_wp2;generalize w.alloc (.cells #[.int .i64 t.kind,.string t.name,.int .i64 t.n,.slice a t.args.length c] 43)=W0 at *;have PA:=hid (im_ 89 89 (W0) HBW.out hl2 t.name);have PB:=hid (il_ 89 89 (W0) HBW.out hl2 t.name);have PC:=hid (ik_ 89 89 (W0) HBW.out hl2 t.name)
  go_region_held3 (fun w'=>w'.cell? ⟨w.heap.size,1,none⟩=some (.string t.name))
   (first|(with_reducible exact (K4.out.low HX2.out).c1)|(with_reducible exact (K4.out.low HX1.out).c1)|go_keep)
   (first
    | ((with_reducible show (if Region.wanted _ _=true then Oper.wp _ _ _ ((W0).alloc (.cells #[] 9)).drew _ _ else _));refine ah_ (by rfl) _ _ _ (by rfl) (by rfl) (by rfl) PA.out ?_;rintro v1 w1 ⟨hx1,hA2⟩;have HX1:=hid hx1;have A2:=hid hA2;have q1:=(K4.out.low hx1).c1;clear hx1 hA2)
    | ((with_reducible show (if Region.wanted _ _=true then Oper.wp _ _ _ (((W0).alloc (.cells #[] 9)).alloc (.cells #[.string t.name] 9)).drew _ _ else _));refine ah_ (by rfl) _ _ _ (by rfl) (by rfl) (by rfl) PB.out ?_;rintro v1 w1 ⟨hx1,hA2⟩;have HX1:=hid hx1;have A2:=hid hA2;have q1:=(K4.out.low hx1).c1;clear hx1 hA2)
    | ((with_reducible show (if Region.wanted _ _=true then Oper.wp _ _ _ (((W0).alloc (.cells #[.string t.name] 9)).alloc (.cells #[] 9)).drew _ _ else _));refine ah_ (by rfl) _ _ _ (by rfl) (by rfl) (by rfl) PC.out ?_;rintro v1 w1 ⟨hx1,hA2⟩;have HX1:=hid hx1;have A2:=hid hA2;have q1:=(K4.out.low hx1).c1;clear hx1 hA2)
    | (refine ah_ (by rfl) _ _ _ (by rfl) (by rfl) (by rfl) A2.out ?_;rintro v2 w2 ⟨ho2,hx2⟩;have HO2:=hid ho2;have HX2:=hid hx2;clear ho2 hx2))
  all_goals
   have HO:=hid (HOW.out.low HX2.out);have HB2:=hid (bc_.own HO2.out hl3);have HZ2:=hid (HZ.out.trans (HX2.out.mono HZ.out.size));have K42:=hid (K4.out.low HX2.out);clear c0 c1 HX1 A2 q1 PA PB PC HO2 HX2 HOW HBW HZ K4;go_wp2
   go_loopw [2,10] (fun ov iv wr=>∃ i:Nat,iv=.int .i64 i∧i≤t.args.length∧bc_ wr ov (a1_ ak_ (t.args.take i) out (nb++[t.name]).reverse)∧Below (w2).heap.size (w2) wr) (fun _ iv _=>t.args.length - (intOf iv).toNat)
   case atStart=>exact⟨0,rfl,Nat.zero_le _,by simpa [a1_] using HO.out,Below.refl _ _⟩
   case round =>
    obtain⟨i,rfl,hil,hO,hB⟩:=hrel;have z0:(0:Int)≤(i:Int):=(by omega);have hBw:=HZ2.out.trans (hB.mono HZ2.out.size);have k3:=(K42.out.low hB).c3;have BW:=hid hBw;have BH:=hid hB
    by_cases hi:i<t.args.length
    ·have z1:(i:Int)<(t.args.length:Int):=by omega
     obtain⟨b,off,a',cap',rfl,hb,hf,hs⟩:=AH.out.at_ hi;obtain⟨f0,f1,f2,f3⟩:=hf.keep (hBw.block b (HN.out b hb));have hm:=List.getElem_mem hi;have CH:=hid (IH.out _ hm S a' cap' wr _ _ _ _ (hs.keep fun b hS=>hBw.block b (HN.out b hS)) (fun b hS=>aU_ (HN.out b hS) hBw.size) (HW.out _ hm) (HB2.out.low hB) hO (by have:=i3_ (t.args.take i) out ((nb++[t.name]).reverse);have h1:=co_ t.args i hi;have h2:=bu_ t.args (i+1);have:=SE.out;omega) (by have:=SE.out;have:=a7_ _ hm;simp;omega));have ST:=hid (dI_ ak_ t.args i hi out ((nb++[t.name]).reverse));have x0:(0:Int)≤0:=(by omega);unfold tv at CH;clear hf hs hB hBw hm hb hO x0;generalize t.args[i]=x at *;go_wp2_with fail;refine CH.out.mono ?_;rintro e w4 ⟨v4,rfl,h4,B4⟩;have B5:=hid (BH.out.trans (B4.mono BH.out.size));have H4:=hid h4;clear B4 h4;go_wp2;go_roundw
     case rel=>exact⟨i+1,by go_num,by omega,by rw[ST.out];simpa using H4.out,B5.out⟩
     case measure=>simp[intOf];omega
    ·obtain rfl:i=t.args.length:=by omega
     have HO5:=hid hO;clear hB hBw hO;go_wp2;go_ret;exact⟨_,rfl,by rw[EQ.out];have:=HO5.out;rwa [List.take_length] at this,BW.out⟩
 ·rw[if_neg h5] at E
  have EQ:=hid E;have e5:(t.kind==5)=false:=by rw[beq_eq_false_iff_ne];exact h5
  have HO:=hid HOW.out;clear E h5;go_enter Tryz.func83,Tryz.ntmps83;go_wp2;clear c0 c1
  go_loopw [2,10] (fun ov iv wr=>∃ i:Nat,iv=.int .i64 i∧i≤t.args.length∧bc_ wr ov (a1_ ak_ (t.args.take i) out nb.reverse)∧Below (w.alloc (.cells #[.int .i64 t.kind,.string t.name,.int .i64 t.n,.slice a t.args.length c] 43)).heap.size (w.alloc (.cells #[.int .i64 t.kind,.string t.name,.int .i64 t.n,.slice a t.args.length c] 43)) wr) (fun _ iv _=>t.args.length - (intOf iv).toNat)
  case atStart=>exact⟨0,rfl,Nat.zero_le _,by simpa [a1_] using HO.out,Below.refl _ _⟩
  case round =>
   obtain⟨i,rfl,hil,hO,hB⟩:=hrel;have z0:(0:Int)≤(i:Int):=(by omega);have hBw:=HZ.out.trans (hB.mono HZ.out.size);have k3:=(K4.out.low hB).c3;have BW:=hid hBw;have BH:=hid hB
   by_cases hi:i<t.args.length
   ·have z1:(i:Int)<(t.args.length:Int):=by omega
    obtain⟨b,off,a',cap',rfl,hb,hf,hs⟩:=AH.out.at_ hi;obtain⟨f0,f1,f2,f3⟩:=hf.keep (hBw.block b (HN.out b hb));have hm:=List.getElem_mem hi;have CH:=hid (IH.out _ hm S a' cap' wr _ _ _ _ (hs.keep fun b hS=>hBw.block b (HN.out b hS)) (fun b hS=>aU_ (HN.out b hS) hBw.size) (HW.out _ hm) (HBW.out.low hB) hO (by have:=i3_ (t.args.take i) out (nb.reverse);have h1:=co_ t.args i hi;have h2:=bu_ t.args (i+1);have:=SE.out;omega) (by have:=SE.out;have:=a7_ _ hm;simp;omega));have ST:=hid (dI_ ak_ t.args i hi out (nb.reverse));have x0:(0:Int)≤0:=(by omega);unfold tv at CH;clear hf hs hB hBw hm hb hO x0;generalize t.args[i]=x at *;go_wp2_with fail;refine CH.out.mono ?_;rintro e w4 ⟨v4,rfl,h4,B4⟩;have B5:=hid (BH.out.trans (B4.mono BH.out.size));have H4:=hid h4;clear B4 h4;go_wp2;go_roundw
    case rel=>exact⟨i+1,by go_num,by omega,by rw[ST.out];simpa using H4.out,B5.out⟩
    case measure=>simp[intOf];omega
   ·obtain rfl:i=t.args.length:=by omega
    have HO5:=hid hO;clear hB hBw hO;go_wp2;go_ret;exact⟨_,rfl,by rw[EQ.out];have:=HO5.out;rwa [List.take_length] at this,BW.out⟩
theorem nq_:∀ t:Ty,fI_ t:=by
 intro t
 induction t using Ty.ind with
 | h t ih =>
  intro S a c w vb vo nb out hA hS hw
  by_cases h1:t.kind=1
  ·have hta:t.args=[]:=by rcases ((a3_ t).1 hw).1 with h|h|h|h|h<;>first|omega|exact h.2
   exact np_ t h1 hta S a c w vb vo nb out hA hS hw
  ·exact mg_ t h1 ih S a c w vb vo nb out hA hS hw
theorem dX_ (w:World):bc_ w (.slice none 0 0) []:=⟨none,0,rfl,by simp,by simp,fun _=>rfl,.inl rfl⟩
theorem fn_ (t:Ty)(S:Nat→Prop)(a:OA_)(c:Nat)(w:World)(hA:aa_ S w (.slice a t.args.length c) t.args)(hS:∀ b,S b→b<w.heap.size)(hw:Wf t)(hs:t.size≤1000000000000) :
  Calls Tryz.prog 44 #[tv t a c] w (j0_ w (af_ t)):=by
 have hz:Below w.heap.size w (w.alloc (.cells #[.int .i64 t.kind,.string t.name,.int .i64 t.n,.slice a t.args.length c] 43)):=aq_ w (.cells #[.int .i64 t.kind,.string t.name,.int .i64 t.n,.slice a t.args.length c] 43);have k4:=R4.new w (.int .i64 t.kind) (.string t.name) (.int .i64 t.n) (.slice a t.args.length c);have C:=hid (nq_ t S a c (w.alloc (.cells #[.int .i64 t.kind,.string t.name,.int .i64 t.n,.slice a t.args.length c] 43)) (.slice none 0 0) (.slice none 0 0) [] [] (hA.keep fun b hb=>hz.block b (hS b hb)) (fun b hb=>aU_ (hS b hb) hz.size) hw (dX_ _) (dX_ _) (by simpa using hs) (by simpa using hs));have HZ:=hid hz;obtain⟨c0,c1,c2,c3⟩:=k4.c03;clear hA hS hw hz k4;unfold tv at C ⊢;go_enter Tryz.func44,Tryz.ntmps44;go_wp2_with fail;refine C.out.mono ?_;rintro e w1 ⟨v,rfl,h1,hB⟩;have H1:=hid h1;have HB:=hid (HZ.out.trans (hB.mono HZ.out.size));clear h1 hB;go_wp2;go_ret;exact⟨v,rfl,H1.out,HB.out⟩
theorem bg_ {B:Nat}{a w:World}(h:Below B a w)(n:Nat):Below B a (w.drewN n):=h.trans ⟨rfl,rfl,rfl,aA_ _,fun _ _=>rfl⟩
theorem kt_:∀ (t:Ty) (out:List Int) (ns:List ByteArray),(bB_ al_ t out ns).length≤out.length+t.size:=by
 intro t
 induction t using Ty.ind with
 | h t ih =>
  intro out ns;rw[bF_,t.size_eq];have h1:(al_ out t ns).length≤out.length+1:=by unfold al_;split<;>simp
  have:∀ (l:List Ty) (out:List Int) (ns:List ByteArray),(∀ a∈l,∀ (out:List Int) (ns:List ByteArray),(bB_ al_ a out ns).length≤out.length+a.size)→(a1_ al_ l out ns).length≤out.length+ag_ l:=by
   intro l
   induction l with
   | nil=>intro out ns _;simp[a1_,ag_]
   | cons a l ihl =>
    intro out ns h;rw[a1_,ag_];have:=ihl (bB_ al_ a out ns) ns fun b hb=>h b (by simp[hb]);have:=h a (by simp) out ns;omega
  have:=this t.args (al_ out t ns) (if t.kind=5 then t.name :: ns else ns) ih;omega
end
end Go.Proofs.YtjecnionbjlncaaGreatDoor.Tp

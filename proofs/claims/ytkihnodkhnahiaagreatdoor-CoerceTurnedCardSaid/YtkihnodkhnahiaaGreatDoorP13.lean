/- Texts laid together: TyRenP, TyPrintE, TyWithP, TyWith, TyFresh, TyRenA. -/
import Derived.Test.YtkihnodkhnahiaaGreatDoorP09
import Derived.Lib.ItoaLen
import Derived.Test.YtkihnodkhnahiaaGreatDoorP11
import Derived.Test.YtkihnodkhnahiaaGreatDoorP12
import Derived.Test.YtkihnodkhnahiaaGreatDoorP08

namespace Go.Proofs.YtkihnodkhnahiaaGreatDoor.Tp
def eqN (a b:ByteArray):Bool:=decide (a.data=b.data)
theorem eqN_iff (a b:ByteArray):eqN a b=true↔a=b:=by
 unfold eqN;rw[decide_eq_true_eq];exact⟨ByteArray.ext,fun h=>by rw[h]⟩
theorem eqN_false (a b:ByteArray):eqN a b=false↔a≠b:=by rw[← Bool.not_eq_true,eqN_iff]
def withA (t:Ty)(args:List Ty):Ty:=.mk t.kind t.name t.n args
def arg0T (t:Ty):Ty:=match t.args with|a :: _=>a | []=>t
def tAllB (s:ByteArray)(x:Ty):Ty:=.mk 5 s 0 [x]
def renF:Nat→ByteArray→ByteArray→Ty→Ty
 | 0,_,_,t=>t
 | d+1,fr,to,t =>
  if t.kind==1&&eqN t.name fr then .mk t.kind to t.n t.args
  else if t.kind==5&&eqN t.name fr then t
  else if t.kind==5&&eqN t.name to then tAllB (freshT to (freeT (arg0T t)++[fr,to])) (renF d fr to (renF d to (freshT to (freeT (arg0T t)++[fr,to])) (arg0T t)))
  else withA t (t.args.map (renF d fr to))
def renT (fr to:ByteArray)(t:Ty):Ty:=renF t.depth fr to t
mutual
def Nm:Ty→Prop
 | .mk k s _ args=>((k=5→1≤s.size)∧s.size≤64)∧NmL args
def NmL:List Ty→Prop
 | []=>True
 | t :: ts=>Nm t∧NmL ts
end
theorem NmL_iff (ts:List Ty):NmL ts↔∀ t∈ts,Nm t:=by
 induction ts with
 | nil=>simp[NmL]
 | cons t ts ih=>rw[NmL,ih];simp
theorem nm_iff (t:Ty):Nm t↔((t.kind=5→1≤t.name.size)∧t.name.size≤64)∧∀ a∈t.args,Nm a:=by
 cases t with
 | mk k s n args=>rw[Nm,NmL_iff];rfl
def Good (t:Ty):Prop:=Wf t∧Nm t
theorem depthL_map (f:Ty→Ty)(ts:List Ty)(h:∀ t∈ts,(f t).depth=t.depth):depthL (ts.map f)=depthL ts:=by
 induction ts with
 | nil=>rfl
 | cons t ts ih=>rw[List.map_cons,depthL,depthL,h t (by simp),ih fun u hu=>h u (by simp[hu])]
theorem sizeL_map (f:Ty→Ty)(ts:List Ty)(h:∀ t∈ts,(f t).size=t.size):sizeL (ts.map f)=sizeL ts:=by
 induction ts with
 | nil=>rfl
 | cons t ts ih=>rw[List.map_cons,sizeL,sizeL,h t (by simp),ih fun u hu=>h u (by simp[hu])]
theorem wf_k5 {t:Ty}(h:Wf t)(hk:t.kind=5):∃ x,t.args=[x]∧arg0T t=x:=by
 have:t.args.length=1:=by rcases ((wf_iff t).1 h).1 with h|h|h|h|h<;>first|omega|exact h.2
 match hl:t.args,this with
 | [x],_=>exact⟨x,rfl,by unfold arg0T;rw[hl]⟩
theorem freshT_size (nm:ByteArray)(but:List ByteArray)(hb:but.length≤4500000000000)(h:1≤nm.size):1≤(freshT nm but).size∧(freshT nm but).size≤64:=by
 have hf:=firstN_spec (fname nm) (fun _ _=>fname_inj) but 0
 unfold freshT
 generalize firstN (fname nm) but (but.length+1) 0=k at *
 have h2:=Lib.itoa_length_le (k:Int) (by omega) (by omega)
 unfold fname
 rw[ByteArray.size_append,ByteArray.size_append,ByteArray.size_extract]
 have h3:(⟨#[95]⟩:ByteArray).size=1:=rfl
 have h4:(bytes (Lib.itoa (k:Int))).size=(Lib.itoa (k:Int)).length:=by simp[bytes,ByteArray.size]
 omega
theorem freeAcc_len:∀ (t:Ty) (out ns:List ByteArray),(walkF freeStep t out ns).length≤out.length+t.size:=by
 intro t
 induction t using Ty.ind with
 | h t ih =>
  intro out ns
  rw[walkF_eq,t.size_eq]
  have h1:(freeStep out t ns).length≤out.length+1:=by unfold freeStep;split<;>simp
  have:∀ (l:List Ty) (out ns),(∀ a∈l,∀ (out ns:List ByteArray),(walkF freeStep a out ns).length≤out.length+a.size)→(walkL freeStep l out ns).length≤out.length+sizeL l:=by
   intro l
   induction l with
   | nil=>intro out ns _;simp[walkL,sizeL]
   | cons a l ihl =>
    intro out ns h
    rw[walkL,sizeL]
    have:=ihl (walkF freeStep a out ns) ns fun b hb=>h b (by simp[hb])
    have:=h a (by simp) out ns
    omega
  have:=this t.args (freeStep out t ns) (if t.kind=5 then t.name :: ns else ns) ih
  omega
theorem freeT_len (t:Ty):(freeT t).length≤t.size:=by have:=freeAcc_len t [] [];simpa [freeT] using this
theorem ren_keeps:∀ (d:Nat) (fr to:ByteArray) (t:Ty),t.depth≤d→Good t→to.size≤64→t.size≤4499999999224 →
  (renF d fr to t).depth=t.depth∧(renF d fr to t).size=t.size∧Good (renF d fr to t)∧(renF d fr to t).kind=t.kind:=by
 intro d
 induction d with
 | zero=>intro fr to t h;rw[t.depth_eq] at h;omega
 | succ d ih =>
  intro fr to t h hg hto hs
  have hwf:=(wf_iff t).1 hg.1
  have hnm:=(nm_iff t).1 hg.2
  have hd:∀ a∈t.args,a.depth≤d:=fun a ha=>by have:=depth_arg _ ha;rw[t.depth_eq] at h;omega
  have hsz:∀ a∈t.args,a.size≤4499999999224:=fun a ha=>by have:=size_arg _ ha;rw[t.size_eq] at hs;omega
  rw[renF]
  split
  ·next hc =>
   have hk:t.kind=1:=by simp at hc;exact hc.1
   refine⟨by rw[Ty.depth_eq,Ty.depth_eq];rfl,by rw[Ty.size_eq,Ty.size_eq];rfl,⟨?_,?_⟩,rfl⟩
   ·exact (wf_iff _).2 hwf
   ·exact (nm_iff _).2 ⟨⟨fun e=>by have:t.kind=5:=e;omega,hto⟩,hnm.2⟩
  ·split
   ·exact⟨rfl,rfl,hg,rfl⟩
   ·split
    ·next hc =>
     have hk:t.kind=5:=by simp at hc;exact hc.1
     have hn:t.name=to:=by simp only[Bool.and_eq_true] at hc;exact (eqN_iff _ _).1 hc.2
     obtain⟨x,hx,hx0⟩:=wf_k5 hg.1 hk
     rw[hx0]
     have hx1:x∈t.args:=by rw[hx];simp
     have hfl:=freeT_len x
     have hfs:=freshT_size to (freeT x++[fr,to]) (by have:=hsz x hx1;simp;omega) (by rw[← hn];exact hnm.1.1 hk)
     obtain⟨a1,a2,a3,a4⟩:=ih to (freshT to (freeT x++[fr,to])) x (hd x hx1) ⟨hwf.2 x hx1,hnm.2 x hx1⟩ hfs.2 (hsz x hx1)
     obtain⟨b1,b2,b3,b4⟩:=ih fr to (renF d to (freshT to (freeT x++[fr,to])) x) (by rw[a1];exact hd x hx1) a3 hto (by rw[a2];exact hsz x hx1)
     refine⟨?_,?_,⟨?_,?_⟩,hk.symm⟩
     ·rw[Ty.depth_eq,t.depth_eq,hx];show depthL [_]+1=_;rw[depthL,depthL,depthL,depthL,b1,a1]
     ·rw[Ty.size_eq,t.size_eq,hx];show sizeL [_]+1=_;rw[sizeL,sizeL,sizeL,sizeL,b2,a2]
     ·exact (wf_iff _).2 ⟨.inr (.inr (.inr (.inr ⟨rfl,rfl⟩))),fun a ha=>by obtain rfl:=List.mem_singleton.1 ha;exact b3.1⟩
     ·exact (nm_iff _).2 ⟨⟨fun _=>hfs.1,hfs.2⟩,fun a ha=>by obtain rfl:=List.mem_singleton.1 ha;exact b3.2⟩
    ·have hi:=fun a (ha:a∈t.args)=>ih fr to a (hd a ha) ⟨hwf.2 a ha,hnm.2 a ha⟩ hto (hsz a ha)
     refine⟨?_,?_,⟨?_,?_⟩,rfl⟩
     ·rw[Ty.depth_eq,t.depth_eq];show depthL (t.args.map _)+1=_;rw[depthL_map _ _ fun a ha=>(hi a ha).1]
     ·rw[Ty.size_eq,t.size_eq];show sizeL (t.args.map _)+1=_;rw[sizeL_map _ _ fun a ha=>(hi a ha).2.1]
     ·refine (wf_iff _).2 ⟨?_,fun a ha=>?_⟩
      ·show (t.kind=1∧t.args.map _=[]∨t.kind=2∧t.args.map _=[]∧_∨t.kind=3∨t.kind=4∧(t.args.map _).length=2∨t.kind=5∧(t.args.map _).length=1)
       rw[List.map_eq_nil_iff,List.length_map]
       exact hwf.1
      ·obtain⟨b,hb,rfl⟩:=List.mem_map.1 ha
       exact (hi b hb).2.2.1.1
     ·refine (nm_iff _).2 ⟨hnm.1,fun a ha=>?_⟩
      obtain⟨b,hb,rfl⟩:=List.mem_map.1 ha
      exact (hi b hb).2.2.1.2
end Go.Proofs.YtkihnodkhnahiaaGreatDoor.Tp

namespace Go.Proofs.YtkihnodkhnahiaaGreatDoor.Tp
open Go.RowKit
theorem print_below (n:Nat):∀ t:Ty,t.depth≤n→PrintSaid t:=by
 induction n with
 | zero=>intro t h;rw[t.depth_eq] at h;omega
 | succ n ih =>
  intro t hn
  have lower:∀ u∈t.args,u.depth≤n:=fun u hu=>by have:=depth_arg _ hu;rw[t.depth_eq] at hn;omega
  intro S a c w hA hS hw hl ht
  rcases ((wf_iff t).1 hw).1 with h|h|h|h|h
  ·exact print_var t h.1 a c w
  ·exact print_meta t h.1 h.2.2.1 h.2.2.2 a c w ht
  ·exact print_con t h (fun u hu=>ih u (lower u hu)) S a c w hA hS hw hl ht
  ·obtain⟨x,y,hxy⟩:∃ x y,t.args=[x,y]:=by
    match hl:t.args,h.2 with
    | [x,y],_=>exact⟨x,y,rfl⟩
   exact print_fun t h.1 x y hxy (ih x (lower x (by rw[hxy];simp))) (ih y (lower y (by rw[hxy];simp))) S a c w hA hS hw hl ht
  ·obtain⟨x,hx⟩:=one_arg h.2
   exact print_all t h.1 x hx (fun u hu=>ih u (by omega)) S a c w hA hS hw hl ht
theorem print_any (t:Ty):PrintSaid t:=print_below t.depth t (Nat.le_refl _)
def withT (t:Ty)(args:List Ty):Ty:=.mk t.kind t.name t.n args
section
variable {G : Type} (F : G → Ty → Ty × G)
def mapAcc:G→List Ty→List Ty × G
 | g,[]=>([],g)
 | g,t :: ts=>((F g t).1 :: (mapAcc (F g t).2 ts).1,(mapAcc (F g t).2 ts).2)
end
theorem mapAcc_append {G:Type}(F:G→Ty→Ty × G)(a b:List Ty)(g:G):mapAcc F g (a++b)=((mapAcc F g a).1++(mapAcc F (mapAcc F g a).2 b).1,(mapAcc F (mapAcc F g a).2 b).2):=by
 induction a generalizing g with
 | nil=>rfl
 | cons t ts ih=>simp only[List.cons_append,mapAcc,ih]
theorem mapAcc_take {G:Type}(F:G→Ty→Ty × G)(ts:List Ty)(i:Nat)(h:i<ts.length)(g:G) :
  mapAcc F g (ts.take (i+1))=((mapAcc F g (ts.take i)).1++[(F (mapAcc F g (ts.take i)).2 ts[i]).1],(F (mapAcc F g (ts.take i)).2 ts[i]).2):=by
 rw[List.take_add_one,List.getElem?_eq_getElem h,mapAcc_append];rfl
theorem mapAcc_len {G:Type}(F:G→Ty→Ty × G)(ts:List Ty)(g:G):(mapAcc F g ts).1.length=ts.length:=by
 induction ts generalizing g with
 | nil=>rfl
 | cons t ts ih=>simp only[mapAcc,List.length_cons,ih]
def RowAt (W:World)(R n:Nat)(ys:List Ty)(svs:List Value):Prop :=
 svs.length=ys.length∧∃ cur,W.heap[R]? = some (.cells cur 30 (0,0))∧cur.size=n*4∧cur.toList.take (ys.length*4)=cellsT ys svs
theorem RowAt.lt {W:World}{R n:Nat}{ys:List Ty}{svs:List Value}(h:RowAt W R n ys svs):R<W.heap.size:=by
 obtain⟨_,cur,h1,_⟩:=h;exact (Array.getElem?_eq_some_iff.1 h1).1
theorem RowAt.keep {W W':World}{R n:Nat}{ys:List Ty}{svs:List Value}(h:RowAt W R n ys svs)(hb:W'.heap[R]? = W.heap[R]?):RowAt W' R n ys svs:=by
 obtain⟨h0,cur,h1,h2⟩:=h;exact⟨h0,cur,hb.trans h1,h2⟩
theorem RowAt.cell {W:World}{R n:Nat}{ys:List Ty}{svs:List Value}(h:RowAt W R n ys svs)(o:Nat)(ho:o<n*4):∃ v,W.cell? ⟨R,o,none⟩=some v:=by
 obtain⟨_,cur,h1,h2,_⟩:=h
 exact⟨cur[o],by rw[cell_of_row W R o cur _ (0,0) h1];exact Array.getElem?_eq_getElem (by omega)⟩
theorem RowAt.fr {W:World}{R n:Nat}{ys:List Ty}{svs:List Value}(h:RowAt W R n ys svs)(o:Nat):W.frozen? ⟨R,o,none⟩=false:=by
 obtain⟨_,cur,h1,_⟩:=h;simp[World.frozen?,h1]
theorem take4 (l:List Value)(k:Nat)(h:k*4+4≤l.length)(a b c d:Value) :
  ((((l.set (k*4) a).set (k*4+1) b).set (k*4+2) c).set (k*4+3) d).take ((k+1)*4)=l.take (k*4)++[a,b,c,d]:=by
 apply List.ext_getElem?
 intro i
 rw[List.getElem?_take,List.getElem?_append,List.getElem?_take]
 have hl:(l.take (k*4)).length=k*4:=by rw[List.length_take];omega
 rw[hl]
 by_cases h1:i<k*4
 ·rw[if_pos (by omega),if_pos h1,if_pos h1,List.getElem?_set_ne (by omega),List.getElem?_set_ne (by omega),List.getElem?_set_ne (by omega),List.getElem?_set_ne (by omega)]
 ·rw[if_neg h1]
  by_cases h2:i<(k+1)*4
  ·rw[if_pos h2]
   obtain⟨j,rfl⟩:∃ j,i=k*4+j:=⟨i - k*4,by omega⟩
   have hj:j<4:=by omega
   rw[Nat.add_sub_cancel_left]
   match j,hj with
   | 0,_=>simp[show k*4<l.length by omega]
   | 1,_=>simp[show k*4+1<l.length by omega]
   | 2,_=>simp[show k*4+2<l.length by omega]
   | 3,_=>simp[show k*4+3<l.length by omega]
  ·rw[if_neg h2,List.getElem?_eq_none (by simp;omega)]
theorem RowAt.put {W:World}{R n:Nat}{ys:List Ty}{svs:List Value}(h:RowAt W R n ys svs)(hn:ys.length<n)(y:Ty)(sv:Value) :
  RowAt ((((W.setCell ⟨R,ys.length*4,none⟩ (.int .i64 y.kind)).setCell ⟨R,ys.length*4+1,none⟩ (.string y.name)).setCell ⟨R,ys.length*4+2,none⟩ (.int .i64 y.n)).setCell ⟨R,ys.length*4+3,none⟩ sv) R n (ys++[y]) (svs++[sv]):=by
 obtain⟨h0,cur,h1,h2,h3⟩:=h
 refine⟨by simp[h0],_,set_row0 (set_row0 (set_row0 (set_row0 h1 _) _) _) _,by simpa using h2,?_⟩
 rw[List.length_append,List.length_singleton,cellsT_snoc _ _ _ _ h0,← h3]
 simp only[Array.toList_setIfInBounds]
 exact take4 _ _ (by rw[Array.length_toList];show ys.length*4+4≤cur.size;omega) _ _ _ _
theorem RowAt.args {S:Nat→Prop}{W:World}{R n:Nat}{ys:List Ty}{svs:List Value}(h:RowAt W R n ys svs)(hn:ys.length=n)(hl:n≤9223372036854775807)(hR:S R)(ha:∀ (j:Nat) (t:Ty) (sv:Value),ys[j]? = some t→svs[j]? = some sv→ArgsAt S W sv t.args) :
  ArgsAt S W (.slice (some ⟨R,0,none⟩) ys.length n) ys:=by
 obtain⟨h0,cur,h1,h2,h3⟩:=h
 refine .mk R 0 n ys (fun i=>svs.getD i (.slice none 0 0)) hR (by omega) (fun i hi=>?_) (fun i hi=>?_)
 ·have hi':i<svs.length:=by rw[h0];exact hi
  obtain⟨a0,a1,a2,a3⟩:=cellsT_at ys svs h0 i hi hi'
  rw[← h3] at a0 a1 a2 a3
  have get:∀ o v,(cur.toList.take (ys.length*4))[o]? = some v→W.cell? ⟨R,o,none⟩=some v:=fun o v hv=>by
   rw[cell_of_row W R o cur _ (0,0) h1]
   rw[List.getElem?_take] at hv
   split at hv
   ·simpa using hv
   ·cases hv
  simp only[Nat.zero_add]
  rw[List.getD_eq_getElem?_getD,List.getElem?_eq_getElem hi']
  exact⟨get _ _ a0,get _ _ a1,get _ _ a2,get _ _ a3⟩
 ·have hi':i<svs.length:=by rw[h0];exact hi
  simp only[List.getD_eq_getElem?_getD,List.getElem?_eq_getElem hi',Option.getD_some]
  exact ha i _ _ (List.getElem?_eq_getElem hi) (List.getElem?_eq_getElem hi')
theorem make_row (n:Nat)(hn:n≤4500000000000):∃ M:Array Value,M.size=n*4∧∀ W:World,(Instr.makeSlice 28 (.int .i64 (n:Int)) (.int .i64 (n:Int))).run Tryz.prog W=.ok (.slice (some ⟨W.heap.size,0,none⟩) n n) (W.alloc (.cells M 30)):=by
 obtain⟨i0,hi0,hz0,hz1,hz3⟩:=info_parts infoTy
 refine⟨madeCells (Value.cells (.agg #[.int .i64 0,.string ByteArray.empty,.int .i64 0,.slice none 0 0])) (n*4),size_madeCells _ _,fun W=>?_⟩
 have:=run_make (P:=Tryz.prog) W 28 30 i0 _ Tryz.underlying28 hi0 hz0 .i64 .i64 (n:Int) (n:Int) (by omega) (Int.le_refl _) (by rw[hz3];omega) (by omega)
 rw[hz1] at this
 simpa using this
theorem RowAt.new {W:World}{M:Array Value}{n R:Nat}(hM:M.size=n*4)(hR:W.heap.size=R):RowAt (W.alloc (.cells M 30)) R n [] [] :=
 ⟨rfl,M,by subst hR;exact heap_alloc_new W _,hM,by simp[cellsT]⟩
def New (S:Nat→Prop)(w w':World)(b:Nat):Prop:=S b∨w.heap.size≤b∧b<w'.heap.size
section
variable {G : Type} (S T : Nat → Prop) (Inv : G → World → Prop)
def TyPost (y:Ty)(g:G)(W:World)(e:Ending)(W':World):Prop :=
 ∃ a c,e=.returned (tv y a c)∧ArgsAt (New S W W') W' (.slice a y.args.length c) y.args∧Inv g W'∧Kp W.heap.size T W W'
end
theorem with_nil {G:Type}(F:G→Ty→Ty × G)(t:Ty)(g:G)(h:t.args.length=0):withT t (mapAcc F g t.args).1=t∧(mapAcc F g t.args).2=g:=by
 have:t.args=[]:=List.eq_nil_of_length_eq_zero h
 cases t with
 | mk k s n args=>simp only[Ty.args] at this;subst this;exact⟨rfl,rfl⟩
set_option maxHeartbeats 3200000 in
theorem with_any {G:Type}(f:FuncId)(caps:Array Value)(hf:∀ args w,(callFunc f args).run Tryz.prog w=.ok (.enter f args) w)(T:Nat→Prop)(Inv:G→World→Prop)(F:G→Ty→Ty × G)(t:Ty)(g0:G)(S:Nat→Prop)(a:Option Addr)(c:Nat)(w:World)
  (hI:Inv g0 w) (hIk:∀ g W W',Inv g W→(∀ b,T b→W'.heap[b]? = W.heap[b]?)→Inv g W') (hA:ArgsAt S w (.slice a t.args.length c) t.args) (hS:∀ b,S b→b<w.heap.size∧¬ T b) (hT:∀ b,T b→b<w.heap.size) (hl:t.args.length≤4500000000000)
  (hat:∀ (i:Nat) (hi:i<t.args.length) (a:Option Addr) (c:Nat) (W:World),Inv (mapAcc F g0 (t.args.take i)).2 W→Kp w.heap.size T w W→ArgsAt S W (.slice a t.args[i].args.length c) t.args[i].args →
   Calls Tryz.prog f (#[tv t.args[i] a c]++caps) W (TyPost S T Inv (F (mapAcc F g0 (t.args.take i)).2 t.args[i]).1 (F (mapAcc F g0 (t.args.take i)).2 t.args[i]).2 W)) :
  Calls Tryz.prog 39 #[tv t a c,.func (.func f) #[] caps] w (TyPost S T Inv (withT t (mapAcc F g0 t.args).1) (mapAcc F g0 t.args).2 w):=by
 have hz:=(Below.refl w.heap.size w).alloc (Nat.le_refl _) (.cells #[.int .i64 t.kind,.string t.name,.int .i64 t.n,.slice a t.args.length c] 30)
 have b4:=B4.new w (.int .i64 t.kind) (.string t.name) (.int .i64 t.n) (.slice a t.args.length c)
 have hz2:=hz.alloc hz.size (.cells #[.int .i64 0,.string ByteArray.empty,.int .i64 0,.slice none 0 0] 30)
 have k4:=b4.low ((Below.refl _ _).alloc (Nat.le_refl _) (.cells #[.int .i64 0,.string ByteArray.empty,.int .i64 0,.slice none 0 0] 30))
 have q4:=B4.new (w.alloc (.cells #[.int .i64 t.kind,.string t.name,.int .i64 t.n,.slice a t.args.length c] 30)) (.int .i64 0) (.string ByteArray.empty) (.int .i64 0) (.slice none 0 0)
 rw[show (w.alloc (.cells #[.int .i64 t.kind,.string t.name,.int .i64 t.n,.slice a t.args.length c] 30)).heap.size=w.heap.size+1 from by simp] at q4
 have HZ2:=hid hz2
 have K4:=hid k4
 have Q4:=hid q4
 have c0:=k4.c0
 have c1:=k4.c1
 have c2:=k4.c2
 have c3:=k4.c3
 have r0:=q4.c0
 have r1:=q4.c1
 have r2:=q4.c2
 have r3:=q4.c3
 have s0:=q4.fr 0
 have s1:=q4.fr 1
 have s2:=q4.fr 2
 have s3:=q4.fr 3
 unfold tv
 by_cases h0:t.args.length=0
 ·have z0:((t.args.length:Int)==0)=true:=by rw[beq_iff_eq];omega
  have hfin:TyPost S T Inv (withT t (mapAcc F g0 t.args).1) (mapAcc F g0 t.args).2 w (.returned (tv t a c)) (((((w.alloc (.cells #[.int .i64 t.kind,.string t.name,.int .i64 t.n,.slice a t.args.length c] 30)).alloc (.cells #[.int .i64 t.kind,.string t.name,.int .i64 t.n,.slice a t.args.length c] 30))))):=by
   rw[(with_nil F t g0 h0).1,(with_nil F t g0 h0).2]
   have hz3:=hz.alloc hz.size (.cells #[.int .i64 t.kind,.string t.name,.int .i64 t.n,.slice a t.args.length c] 30)
   exact⟨a,c,rfl,(hA.keep fun b hb=>hz3.block b (hS b hb).1).mono fun b hb=>.inl hb,hIk _ _ _ hI fun b hb=>hz3.block b (hT b hb),.of_below hz3⟩
  have HF:=hid hfin
  clear h0 hfin hI hIk hA hS hT hat hz hz2 b4 k4 q4
  go_enter Tryz.func39,Tryz.ntmps39
  go_wp2
  have q5:=B4.new (w.alloc (.cells #[.int .i64 t.kind,.string t.name,.int .i64 t.n,.slice a t.args.length c] 30)) (.int .i64 t.kind) (.string t.name) (.int .i64 t.n) (.slice a t.args.length c)
  rw[show (w.alloc (.cells #[.int .i64 t.kind,.string t.name,.int .i64 t.n,.slice a t.args.length c] 30)).heap.size=w.heap.size+1 from by simp] at q5
  exact bodyPost_ret (v:=tv t a c) (by simp[results,Tryz.results39,go_sem,tv,q5.c0,q5.c1,q5.c2,q5.c3]) rfl HF.out
 ·have z0:((t.args.length:Int)==0)=false:=by rw[beq_eq_false_iff_ne];omega
  obtain⟨M,hM,hmk⟩:=make_row t.args.length hl
  have hz3:=hz2.alloc hz2.size (.cells M 30)
  have H0:Hid (Inv g0 (((w.alloc (.cells #[.int .i64 t.kind,.string t.name,.int .i64 t.n,.slice a t.args.length c] 30)).alloc (.cells #[.int .i64 0,.string ByteArray.empty,.int .i64 0,.slice none 0 0] 30)).alloc (.cells M 30))):=hid (hIk _ _ _ hI fun b hb=>hz3.block b (hT b hb))
  have R0:Hid (RowAt (((w.alloc (.cells #[.int .i64 t.kind,.string t.name,.int .i64 t.n,.slice a t.args.length c] 30)).alloc (.cells #[.int .i64 0,.string ByteArray.empty,.int .i64 0,.slice none 0 0] 30)).alloc (.cells M 30)) (w.heap.size+2) t.args.length [] []):=hid (RowAt.new hM (by simp))
  have HZ3:=hid hz3
  have K5:=hid (k4.low ((Below.refl _ _).alloc (Nat.le_refl _) (.cells M 30)))
  have Q5:=hid (q4.low ((Below.refl _ _).alloc (Nat.le_refl _) (.cells M 30)))
  have HIK:=hid hIk
  have HA:=hid hA
  have HS:=hid hS
  have HT:=hid hT
  have HAT:=hid hat
  have c3':=K5.out.c3
  clear h0 hI hIk hA hS hT hat hz hz2 hz3 b4 k4 q4 hM
  go_enter Tryz.func39,Tryz.ntmps39
  go_wp2
  go_loopw [20] (fun iv wr=>∃ (i:Nat) (svs:List Value),iv=.int .i64 i∧i≤t.args.length∧RowAt wr (w.heap.size+2) t.args.length (mapAcc F g0 (t.args.take i)).1 svs∧Inv (mapAcc F g0 (t.args.take i)).2 wr∧Kp w.heap.size T w wr∧B4 wr w.heap.size (.int .i64 t.kind) (.string t.name) (.int .i64 t.n) (.slice a t.args.length c) ∧
   B4 wr (w.heap.size+1) (.int .i64 0) (.string ByteArray.empty) (.int .i64 0) (.slice none 0 0)∧w.heap.size+3≤wr.heap.size∧∀ (j:Nat) (y:Ty) (sv:Value),(mapAcc F g0 (t.args.take i)).1[j]? = some y→svs[j]? = some sv→ArgsAt (fun b=>S b∨w.heap.size+3≤b∧b<wr.heap.size) wr sv y.args) (fun iv _=>t.args.length - (intOf iv).toNat)
  case atStart=>exact⟨0,[],rfl,Nat.zero_le _,R0.out,H0.out,.of_below HZ3.out,K5.out,Q5.out,by simp,fun j y sv h=>by simp[mapAcc] at h⟩
  case round =>
   clear H0 R0 HZ3 K5 Q5 HZ2 K4 Q4 c0 c1 c2 c3 c3' r0 r1 r2 r3 s0 s1 s2 s3
   obtain⟨i,svs,rfl,hil,hR,hI,hK,hk4,hq4,hsz,hat⟩:=hrel
   by_cases hi:i<t.args.length
   ·have z1:(0:Int)≤(i:Int):=by omega
    have z2:(i:Int)<(t.args.length:Int):=by omega
    obtain⟨b,off,a',c',rfl,hb,hf4,hs⟩:=HA.out.at_ hi
    obtain⟨f0,f1,f2,f3⟩:=hf4.keep (hK.block b (HS.out b hb).1 (HS.out b hb).2)
    have hzr:=(Below.refl wr.heap.size wr).alloc (Nat.le_refl _) (.cells #[.int .i64 t.args[i].kind,.string t.args[i].name,.int .i64 t.args[i].n,.slice a' t.args[i].args.length c'] 30)
    have b4:=B4.new wr (.int .i64 t.args[i].kind) (.string t.args[i].name) (.int .i64 t.args[i].n) (.slice a' t.args[i].args.length c')
    have d0:=b4.c0
    have d1:=b4.c1
    have d2:=b4.c2
    have d3:=b4.c3
    have hKr:Kp w.heap.size T w (wr.alloc (.cells #[.int .i64 t.args[i].kind,.string t.args[i].name,.int .i64 t.args[i].n,.slice a' t.args[i].args.length c'] 30)):=hK.alloc (by omega) _
    have CF:=hid (HAT.out i hi a' c' _ (HIK.out _ _ _ hI fun b hb=>hzr.block b (by have:=HT.out b hb;omega)) hKr (hs.kp hKr HS.out))
    have hyl:(mapAcc F g0 (t.args.take i)).1.length=i:=by rw[mapAcc_len,List.length_take];omega
    have MT:=hid (mapAcc_take F t.args i hi g0)
    have HYL:=hid hyl
    have HR:=hid (hR.keep (hzr.block _ hR.lt))
    have HK:=hid hKr
    have HK4:=hid (hk4.low hzr)
    have HQ4:=hid (hq4.low hzr)
    have HATS:=hid hat
    have HZR:=hid hzr
    unfold tv at *
    clear hR hI hK hk4 hq4 hat hf4 hs hzr b4 hKr hyl
    go_wp2_with fail
    refine CF.out.mono ?_
    rintro e W4 ⟨a4,c4,rfl,hA4,hI4,hK4⟩
    have hszW:(wr.alloc (.cells #[.int .i64 t.args[i].kind,.string t.args[i].name,.int .i64 t.args[i].n,.slice a' t.args[i].args.length c'] 30)).heap.size=wr.heap.size+1:=by simp
    have hs4:=hK4.size
    have hnT:∀ b,w.heap.size≤b→¬ T b:=fun b hb e=>by have:=HT.out b e;omega
    have hR4:=HR.out.keep (hK4.block _ (by omega) (hnT _ (by omega)))
    have hk44:=(hK4.block _ (by omega) (hnT _ (by omega))).trans HK4.out
    have hq44:=(hK4.block _ (by omega) (hnT _ (by omega))).trans HQ4.out
    have HNT:=hid hnT
    have HR4:=hid hR4
    have HK44:=hid hk44
    have HQ44:=hid hq44
    have HA4:=hid hA4
    have HI4:=hid hI4
    have HKK:=hid hK4
    obtain⟨v0,g0'⟩:=hR4.cell (i*4) (by omega)
    obtain⟨v1,g1'⟩:=hR4.cell (i*4+1) (by omega)
    obtain⟨v2,g2'⟩:=hR4.cell (i*4+2) (by omega)
    obtain⟨v3,g3'⟩:=hR4.cell (i*4+3) (by omega)
    have l0:=hR4.fr (i*4)
    have l1:=hR4.fr (i*4+1)
    have l2:=hR4.fr (i*4+2)
    have l3:=hR4.fr (i*4+3)
    have HS4:=hid hs4
    clear hA4 hI4 hK4 hszW hs4 hnT hR4 hk44 hq44
    unfold tv
    go_wp2
    go_roundw
    case measure=>simp[intOf];omega
    case rel =>
     have hset:∀ b,b≠w.heap.size+2→((((W4.setCell ⟨w.heap.size+1+1,i*4,none⟩ (.int .i64 (F (mapAcc F g0 (t.args.take i)).2 t.args[i]).1.kind)).setCell ⟨w.heap.size+1+1,i*4+1,none⟩ (.string (F (mapAcc F g0 (t.args.take i)).2 t.args[i]).1.name)).setCell ⟨w.heap.size+1+1,i*4+2,none⟩ (.int .i64 (F (mapAcc F g0 (t.args.take i)).2 t.args[i]).1.n)).setCell ⟨w.heap.size+1+1,i*4+3,none⟩ (.slice a4 (F (mapAcc F g0 (t.args.take i)).2 t.args[i]).1.args.length c4)).heap[b]? = W4.heap[b]? := fun b hb=>by
      rw[Below.heap_setCell _ _ _ _ (by simpa using hb),Below.heap_setCell _ _ _ _ (by simpa using hb),Below.heap_setCell _ _ _ _ (by simpa using hb),Below.heap_setCell _ _ _ _ (by simpa using hb)]
     have hrow:=HR4.out.put (by rw[HYL.out];exact hi) (F (mapAcc F g0 (t.args.take i)).2 t.args[i]).1 (.slice a4 (F (mapAcc F g0 (t.args.take i)).2 t.args[i]).1.args.length c4)
     rw[HYL.out] at hrow
     have hs4:=HS4.out
     have hss:(wr.alloc (.cells #[.int .i64 t.args[i].kind,.string t.args[i].name,.int .i64 t.args[i].n,.slice a' t.args[i].args.length c'] 30)).heap.size=wr.heap.size+1:=by simp
     have hsz5:((((W4.setCell ⟨w.heap.size+1+1,i*4,none⟩ (.int .i64 (F (mapAcc F g0 (t.args.take i)).2 t.args[i]).1.kind)).setCell ⟨w.heap.size+1+1,i*4+1,none⟩ (.string (F (mapAcc F g0 (t.args.take i)).2 t.args[i]).1.name)).setCell ⟨w.heap.size+1+1,i*4+2,none⟩ (.int .i64 (F (mapAcc F g0 (t.args.take i)).2 t.args[i]).1.n)).setCell ⟨w.heap.size+1+1,i*4+3,none⟩ (.slice a4 (F (mapAcc F g0 (t.args.take i)).2 t.args[i]).1.args.length c4)).heap.size=W4.heap.size:=by simp
     have kpw:=HK.out.trans HKK.out (by omega) (fun b _ h=>h)
     refine⟨i+1,svs++[.slice a4 (F (mapAcc F g0 (t.args.take i)).2 t.args[i]).1.args.length c4],by go_num,by omega,by rw[MT.out];exact hrow,by rw[MT.out];exact HIK.out _ _ _ HI4.out (fun b hb=>hset b (by have:=HT.out b hb;omega)),?_,(hset _ (by omega)).trans HK44.out,(hset _ (by omega)).trans HQ44.out,by rw[hsz5];omega,?_⟩
     ·exact (((kpw.setCell (p:=⟨w.heap.size+1+1,i*4,none⟩) (.inl (by simp;omega)) _).setCell (p:=⟨w.heap.size+1+1,i*4+1,none⟩) (.inl (by simp;omega)) _).setCell (p:=⟨w.heap.size+1+1,i*4+2,none⟩) (.inl (by simp;omega)) _).setCell (p:=⟨w.heap.size+1+1,i*4+3,none⟩) (.inl (by simp;omega)) _
     ·intro j y sv h1 h2
      rw[MT.out] at h1
      rw[hsz5]
      have hsl:=HR4.out.1
      rw[HYL.out] at hsl
      rcases Nat.lt_or_ge j i with hj|hj
      ·rw[List.getElem?_append_left (by rw[HYL.out];exact hj)] at h1
       rw[List.getElem?_append_left (by omega)] at h2
       refine ((HATS.out j y sv h1 h2).keep fun b hb=>?_).mono fun b hb=>hb.imp id fun h=>⟨h.1,by omega⟩
       have hbw:b<wr.heap.size∧b≠w.heap.size+2∧¬ T b:=by
        rcases hb with hb|⟨hb,hb'⟩
        ·have:=HS.out b hb;exact⟨by omega,by omega,this.2⟩
        ·exact⟨hb',by omega,HNT.out b (by omega)⟩
       rw[hset b hbw.2.1,HKK.out.block b (by omega) hbw.2.2]
       exact HZR.out.block b hbw.1
      ·have hj2:j=i:=by
        have:=(List.getElem?_eq_some_iff.1 h1).1
        rw[List.length_append,HYL.out] at this
        simp at this;omega
       subst hj2
       rw[List.getElem?_append_right (by rw[HYL.out];exact Nat.le_refl _),HYL.out,Nat.sub_self] at h1
       rw[List.getElem?_append_right (by omega),hsl,Nat.sub_self] at h2
       simp only[List.getElem?_cons_zero,Option.some.injEq] at h1 h2
       subst h1 h2
       refine (HA4.out.keep fun b hb=>hset b ?_).mono fun b hb=>hb.imp id fun h=>⟨by omega,by omega⟩
       rcases hb with hb|⟨hb,hb'⟩
       ·have:=HS.out b hb;omega
       ·omega
   ·obtain rfl:i=t.args.length:=by omega
    rw[List.take_length] at hR hI hat
    have hyl:(mapAcc F g0 t.args).1.length=t.args.length:=mapAcc_len _ _ _
    have k0:=hk4.c0
    have k1:=hk4.c1
    have k2:=hk4.c2
    have k3:=hk4.c3
    have n3:=hk4.fr 3
    have o0:=hq4.c0
    have o1:=hq4.c1
    have o2:=hq4.c2
    have o3:=hq4.c3
    have p0:=hq4.fr 0
    have p1:=hq4.fr 1
    have p2:=hq4.fr 2
    have p3:=hq4.fr 3
    have HR:=hid hR
    have HI:=hid hI
    have HK:=hid hK
    have HQ4:=hid hq4
    have HATS:=hid hat
    have HYL:=hid hyl
    clear hR hI hK hk4 hq4 hat hyl
    go_wp2
    have hset:∀ b,b≠w.heap.size→b≠w.heap.size+1→(((((wr.setCell ⟨w.heap.size,3,none⟩ (.slice (some ⟨w.heap.size+1+1,0,none⟩) t.args.length t.args.length)).setCell ⟨w.heap.size+1,0,none⟩ (.int .i64 t.kind)).setCell ⟨w.heap.size+1,1,none⟩ (.string t.name)).setCell ⟨w.heap.size+1,2,none⟩ (.int .i64 t.n)).setCell ⟨w.heap.size+1,3,none⟩ (.slice (some ⟨w.heap.size+1+1,0,none⟩) t.args.length t.args.length)).heap[b]? = wr.heap[b]? := fun b hb hb'=>by
     rw[Below.heap_setCell _ _ _ _ (by simpa using hb'),Below.heap_setCell _ _ _ _ (by simpa using hb'),Below.heap_setCell _ _ _ _ (by simpa using hb'),Below.heap_setCell _ _ _ _ (by simpa using hb'),Below.heap_setCell _ _ _ _ (by simpa using hb)]
    have q6:=B4.set4 (w:=wr.setCell ⟨w.heap.size,3,none⟩ (.slice (some ⟨w.heap.size+1+1,0,none⟩) t.args.length t.args.length)) (b:=w.heap.size+1) ((Below.heap_setCell _ _ _ _ (by simp)).trans HQ4.out) (.int .i64 t.kind) (.string t.name) (.int .i64 t.n) (.slice (some ⟨w.heap.size+1+1,0,none⟩) t.args.length t.args.length)
    refine bodyPost_ret (v:=.agg #[.int .i64 t.kind,.string t.name,.int .i64 t.n,.slice (some ⟨w.heap.size+1+1,0,none⟩) t.args.length t.args.length]) (by simp[results,Tryz.results39,go_sem,q6.c0,q6.c1,q6.c2,q6.c3]) rfl ?_
    have hr:=HR.out
    refine⟨some ⟨w.heap.size+1+1,0,none⟩,t.args.length,by unfold tv;rw[show (withT t (mapAcc F g0 t.args).1).args.length=t.args.length from HYL.out];rfl,?_,HIK.out _ _ _ HI.out (fun b hb=>hset b (by have:=HT.out b hb;omega) (by have:=HT.out b hb;omega)),?_⟩
    ·refine RowAt.args (hr.keep (hset _ (by omega) (by omega))) HYL.out (by omega) (.inr ⟨by omega,by simp;omega⟩) (fun j y sv h1 h2=>?_)
     refine ((HATS.out j y sv h1 h2).keep fun b hb=>?_).mono fun b hb=>hb.imp id fun h=>⟨by omega,by simp;omega⟩
     exact hset b (by rcases hb with hb|hb<;>first|(have:=HS.out b hb;omega)|omega) (by rcases hb with hb|hb<;>first|(have:=HS.out b hb;omega)|omega)
    ·exact ((((HK.out.setCell (p:=⟨w.heap.size,3,none⟩) (.inl (Nat.le_refl _)) _).setCell (p:=⟨w.heap.size+1,0,none⟩) (.inl (by simp)) _).setCell (p:=⟨w.heap.size+1,1,none⟩) (.inl (by simp)) _).setCell (p:=⟨w.heap.size+1,2,none⟩) (.inl (by simp)) _).setCell (p:=⟨w.heap.size+1,3,none⟩) (.inl (by simp)) _
end Go.Proofs.YtkihnodkhnahiaaGreatDoor.Tp

namespace Go.Proofs.YtkihnodkhnahiaaGreatDoor.Tp
open Go.RowKit Go.Sort
theorem itoa_any (n:Int)(h0:-9223372036854775808≤n)(h1:n≤9223372036854775807)(w:World)(ht:Tab w) :
  Calls Tryz.prog 45 #[.int .i64 n] w fun e w'=>e=.returned (.string (bytes (Lib.itoa n)))∧Below w.heap.size w w' :=
 (Tryz.strconv_Itoa n h0 h1 w ht).mono fun e w' ⟨he,k,os,hw⟩=>⟨he,by subst hw;exact Lib.below_grow _ _ (Nat.le_refl _) k os⟩
theorem fname_size (nm:ByteArray)(i:Nat)(hi:i≤9223372036854775807):(fname nm i).size≤24:=by
 unfold fname
 rw[ByteArray.size_append,ByteArray.size_append,bytes_size]
 have h1:=Lib.itoa_length_le (i:Int) (by omega) (by omega)
 have h2:(nm.extract 0 1).size≤1:=by rw[ByteArray.size_extract];omega
 have h3:(⟨#[95]⟩:ByteArray).size=1:=rfl
 omega
set_option maxHeartbeats 1600000 in
theorem fresh_any (nm:ByteArray)(h1:1≤nm.size)(S:Nat→Prop)(v:Value)(but:List ByteArray)(w:World)(hs:StrsAt S w v but)(hS:∀ b,S b→b<w.heap.size)(ht:Tab w) :
  Calls Tryz.prog 36 #[.string nm,v] w fun e w'=>e=.returned (.string (freshT nm but))∧Below w.heap.size w w':=by
 have hl:but.length≤4500000000000:=by obtain⟨_,_,_,_,h,_⟩:=hs;exact h
 have HS:=hid hs
 have HT:=hid ht
 have HSS:=hid hS
 have z1:(1:Int)≤(nm.size:Int):=by omega
 clear hs ht hS
 go_enter Tryz.func36,Tryz.ntmps36
 go_wp2
 go_loopw [5] (fun iv wr=>∃ i:Nat,iv=.int .i64 i∧i≤but.length∧(∀ j,j<i→hasN but (fname nm j)=true)∧Below w.heap.size w wr) (fun iv _=>but.length+1 - (intOf iv).toNat)
 case atStart=>exact⟨0,rfl,Nat.zero_le _,fun j hj=>by omega,Below.refl _ _⟩
 case round =>
  obtain⟨i,rfl,hi,hall,hB⟩:=hrel
  have DI:=hid (fun p=>later_of (w:=wr) (p:=p) (itoa_any (i:Int) (by omega) (by omega) _ (tab_below HT.out (hB.trans ((later_below wr p).mono hB.size)))))
  have CC:=hid (fun p=>contains_any (HS.out.keep fun b hb=>(hB.trans ((later_below wr p).mono hB.size)).block b (HSS.out b hb)) (fname nm i))
  have HB:=hid hB
  have HA:=hid hall
  have F:Hid (nm.extract 0 1++⟨#[95]⟩++bytes (Lib.itoa (i:Int))=fname nm i):=hid rfl
  have hil:=Lib.itoa_length_le (i:Int) (by omega) (by omega)
  have hs1:(bytes (Lib.itoa (i:Int))).size≤21:=by rw[bytes_size];exact hil
  have hs2:(nm.extract 0 1).size≤1:=by rw[ByteArray.size_extract];omega
  clear hall hB hil
  go_wp2_with fail
  refine wp_region_later (by kernel_rfl) (by kernel_rfl) ?_
  repeat (go_big_quiet_step (exact DI.out _))
  refine wpQuiet_nil ?_
  intro _ hw'
  obtain⟨pq,hw''⟩:=hw'
  subst hw''
  rw[F.out]
  have B1:=hid (HB.out.trans ((later_below wr pq).mono HB.out.size))
  have C1:=hid (CC.out pq)
  have hfs:=fname_size nm i (by omega)
  cases hn:hasN but (fname nm i) with
  | true =>
   have HA2:=hid (show ∀ j,j<i+1→hasN but (fname nm j)=true from fun j hj=>by
    rcases Nat.lt_or_ge j i with h|h
    ·exact HA.out j h
    ·rw[show j=i by omega];exact hn)
   have hpg:i+1≤but.length:=pigeon (fname nm) (fun _ _=>fname_inj) (i+1) but 0 fun j hj=>by
    rw[Nat.zero_add]
    refine (hasN_iff _ _).1 ?_
    rcases Nat.lt_or_ge j i with h|h
    ·exact HA.out j h
    ·rw[show j=i by omega];exact hn
   rw[contains_hasN,hn] at C1
   generalize later wr pq=w1 at *
   clear hn F DI CC HA
   generalize fname nm i=fn at *
   go_wp2_with fail
   refine C1.out.mono ?_
   rintro e w' ⟨rfl,rfl⟩
   go_wp2
   go_roundw
   case rel=>exact⟨i+1,by go_num,by omega,HA2.out,B1.out⟩
   case measure=>simp[intOf];omega
  | false =>
   have E:Hid (freshT nm but=fname nm i):=hid (by
    unfold freshT
    rw[firstN_eq (fname nm) but (but.length+1) 0 i (by omega) (by omega) (fun j _ hj=>HA.out j hj) hn])
   rw[contains_hasN,hn] at C1
   generalize later wr pq=w1 at *
   clear hn F DI CC HA
   generalize fname nm i=fn at *
   go_wp2_with fail
   refine C1.out.mono ?_
   rintro e w' ⟨rfl,rfl⟩
   go_wp2
   go_ret
   exact⟨by rw[E.out];rfl,B1.out⟩
end Go.Proofs.YtkihnodkhnahiaaGreatDoor.Tp

namespace Go.Proofs.YtkihnodkhnahiaaGreatDoor.Tp
open Go.RowKit
def TP (S:Nat→Prop)(y:Ty)(W:World)(e:Ending)(W':World):Prop :=
 ∃ a c,e=.returned (tv y a c)∧ArgsAt (New S W W') W' (.slice a y.args.length c) y.args∧Below W.heap.size W W'
def noT (_:Nat):Prop:=False
def noI (_:Unit)(_:World):Prop:=True
theorem TP.post {S:Nat→Prop}{y:Ty}{W:World}{e:Ending}{W':World}(h:TP S y W e W'):TyPost S noT noI y () W e W':=by
 obtain⟨a,c,he,hA,hb⟩:=h
 exact⟨a,c,he,hA,trivial,.of_below hb⟩
theorem TP.of {S:Nat→Prop}{y:Ty}{g:Unit}{W:World}{e:Ending}{W':World}(h:TyPost S noT noI y g W e W'):TP S y W e W':=by
 obtain⟨a,c,he,hA,_,hk⟩:=h
 exact⟨a,c,he,hA,hk.to_below⟩
theorem mapAcc_unit (f:Ty→Ty)(l:List Ty):(mapAcc (fun (_:Unit) x=>(f x,())) () l).1=l.map f:=by
 induction l with
 | nil=>rfl
 | cons t l ih=>simp only[mapAcc,List.map_cons,ih]
theorem TP.stored {S:Nat→Prop}{y:Ty}{W W1 W2:World}{a:Option Addr}{c R:Nat}(hS:∀ b,S b→b<W.heap.size)(hb:Below W.heap.size W W1)(hA:ArgsAt (New S W1 W2) W2 (.slice a y.args.length c) y.args)(hb2:Below W1.heap.size W1 W2)(hR:W.heap.size≤R)(hR1:R<W1.heap.size) :
  TP S y W (.returned (tv y a c)) ((((W2.setCell ⟨R,0,none⟩ (.int .i64 y.kind)).setCell ⟨R,1,none⟩ (.string y.name)).setCell ⟨R,2,none⟩ (.int .i64 y.n)).setCell ⟨R,3,none⟩ (.slice a y.args.length c)):=by
 have hs:∀ b,b≠R→((((W2.setCell ⟨R,0,none⟩ (.int .i64 y.kind)).setCell ⟨R,1,none⟩ (.string y.name)).setCell ⟨R,2,none⟩ (.int .i64 y.n)).setCell ⟨R,3,none⟩ (.slice a y.args.length c)).heap[b]? = W2.heap[b]? := fun b hb=>by
  rw[Below.heap_setCell _ _ _ _ hb,Below.heap_setCell _ _ _ _ hb,Below.heap_setCell _ _ _ _ hb,Below.heap_setCell _ _ _ _ hb]
 refine⟨a,c,rfl,(hA.keep fun b h=>hs b ?_).mono fun b h=>h.imp id fun h=>⟨Nat.le_trans hb.size h.1,by simpa using h.2⟩,(hb.trans (hb2.mono hb.size)).set4 hR _ _ _ _⟩
 rcases h with h|h
 ·have:=hS b h;omega
 ·omega
def RenSaid (d:Nat):Prop:=∀ (fr to:ByteArray) (t:Ty) (S:Nat→Prop) (a:Option Addr) (c:Nat) (W:World),Good t→t.depth≤d→t.size≤4499999999224→fr.size≤64→to.size≤64 →
 ArgsAt S W (.slice a t.args.length c) t.args→(∀ b,S b→b<W.heap.size)→Tab W→Calls Tryz.prog 38 #[tv t a c,.string fr,.string to] W (TP S (renF d fr to t) W)
theorem ren1Enters (args:Array Value)(w:World):(callFunc 77 args).run Tryz.prog w=.ok (.enter 77 args) w :=
 enters_of Tryz.func77 (by kernel_rfl) rfl args w
set_option maxHeartbeats 1600000 in
theorem ren1_any (d:Nat)(ih:RenSaid d)(fr to:ByteArray)(bf bt:Nat)(t:Ty)(S:Nat→Prop)(a:Option Addr)(c:Nat)(W:World)(hf:W.cell? ⟨bf,0,none⟩=some (.string fr))(ht:W.cell? ⟨bt,0,none⟩=some (.string to))(hg:Good t)(hd:t.depth≤d)(hs:t.size≤4499999999224)(hfr:fr.size≤64)(hto:to.size≤64)
  (hA:ArgsAt S W (.slice a t.args.length c) t.args) (hS:∀ b,S b→b<W.heap.size) (hT:Tab W):Calls Tryz.prog 77 #[tv t a c,.pointer (some ⟨bf,0,none⟩),.pointer (some ⟨bt,0,none⟩)] W (TP S (renF d fr to t) W):=by
 have hz:=(Below.refl W.heap.size W).alloc (Nat.le_refl _) (.cells #[.int .i64 t.kind,.string t.name,.int .i64 t.n,.slice a t.args.length c] 30)
 have hz2:=hz.alloc hz.size (.cells #[.int .i64 0,.string ⟨#[]⟩,.int .i64 0,.slice none 0 0] 30)
 have k4:=(B4.new W (.int .i64 t.kind) (.string t.name) (.int .i64 t.n) (.slice a t.args.length c)).low ((Below.refl _ _).alloc (Nat.le_refl _) (.cells #[.int .i64 0,.string ⟨#[]⟩,.int .i64 0,.slice none 0 0] 30))
 have q4:B4 ((W.alloc (.cells #[.int .i64 t.kind,.string t.name,.int .i64 t.n,.slice a t.args.length c] 30)).alloc (.cells #[.int .i64 0,.string ⟨#[]⟩,.int .i64 0,.slice none 0 0] 30)) (W.heap.size+1) (.int .i64 0) (.string ⟨#[]⟩) (.int .i64 0) (.slice none 0 0):=alloc_new (by simp)
 have c0:=k4.c0
 have c1:=k4.c1
 have c2:=k4.c2
 have c3:=k4.c3
 have e0:=(hz2.cell (p:=⟨bf,0,none⟩) (World.block_lt_of_cell? W _ hf)).trans hf
 have e1:=(hz2.cell (p:=⟨bt,0,none⟩) (World.block_lt_of_cell? W _ ht)).trans ht
 have C:=hid (ih fr to t S a c _ hg hd hs hfr hto (hA.keep fun b hb=>hz2.block b (hS b hb)) (fun b hb=>Nat.lt_of_lt_of_le (hS b hb) hz2.size) (tab_below hT hz2))
 have HZ2:=hid hz2
 have HS:=hid hS
 have Q4:=hid q4
 unfold tv at *
 clear hz hz2 k4 q4 hf ht hA hS hT hg hd hs hfr hto
 go_enter Tryz.func77,Tryz.ntmps77
 go_wp2_with fail
 refine C.out.mono ?_
 rintro e W2 ⟨a2,c2,rfl,hA2,hb2⟩
 have q4:=Q4.out.low hb2
 have r0:=q4.c0
 have r1:=q4.c1
 have r2:=q4.c2
 have r3:=q4.c3
 have s0:=q4.fr 0
 have s1:=q4.fr 1
 have s2:=q4.fr 2
 have s3:=q4.fr 3
 have HA2:=hid hA2
 have HB2:=hid hb2
 clear hA2 hb2
 unfold tv
 generalize renF d fr to t=y at *
 go_wp2
 have q5:=B4.set4 q4 (.int .i64 y.kind) (.string y.name) (.int .i64 y.n) (.slice a2 y.args.length c2)
 exact bodyPost_ret (v:=tv y a2 c2) (by simp[results,Tryz.results77,go_sem,tv,q5.c0,q5.c1,q5.c2,q5.c3]) rfl (TP.stored HS.out HZ2.out HA2.out HB2.out (by omega) (by simp))
end Go.Proofs.YtkihnodkhnahiaaGreatDoor.Tp

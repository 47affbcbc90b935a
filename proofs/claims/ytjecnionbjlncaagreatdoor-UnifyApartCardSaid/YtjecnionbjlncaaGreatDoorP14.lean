/- Packed. -/
import Derived.Test.YtjecnionbjlncaaGreatDoorP12
import Derived.Carry
set_option maxRecDepth 100000
set_option maxHeartbeats 6400000
namespace Go.Proofs.YtjecnionbjlncaaGreatDoor.Tp
open Go.RowKit
def kQ_ (w:World)(t:Ty)(e:Ending)(w':World):Prop :=
 ∃ v,e=.returned v∧w'.ownsRow w.heap.size 9 1 v (ai_ t).length ((ai_ t).map Value.string)∧(ai_ t).length≤t.size∧Below w.heap.size w w'
def fs_ (w:World)(t:Ty)(e:Ending)(w':World):Prop :=
 ∃ v,e=.returned v∧w'.ownsRow w.heap.size 3 1 v (ap_ t).length ((ap_ t).map (Value.int .i64))∧(ap_ t).length≤t.size∧Below w.heap.size w w'
theorem cx_ {w:World}{base base' size n:Nat}{e:TypeId}{v:Value}{xs:List Value}(h:w.ownsRow base e size v n xs)(hb:base'≤base):w.ownsRow base' e size v n xs:=by
 refine⟨h.1,h.2.imp id ?_⟩;rintro ⟨g,cap,cur,k1,k2,k3⟩;exact⟨g,cap,cur,k1,cj_ hb k2,k3⟩
theorem ly_ (args:Array Value)(w:World):(callFunc 78 args).run Tryz.prog w=.ok (.enter 78 args) w :=
 enters_of Tryz.func78 (by kernel_rfl) rfl args w
theorem jE_ (args:Array Value)(w:World):(callFunc 47 args).run Tryz.prog w=.ok (.enter 47 args) w :=
 enters_of Tryz.func47 (by kernel_rfl) rfl args w
theorem dj_ (t:Ty)(S:Nat→Prop)(a:OA_)(c:Nat)(w:World)(hA:aa_ S w (.slice a t.args.length c) t.args)(hS:∀ b,S b→b<w.heap.size)(hk:t.size≤4500000000000) :
  Calls Tryz.prog 41 #[tv t a c] w (kQ_ w t):=by
 have hz:=aw_ w (.cells #[.int .i64 t.kind,.string t.name,.int .i64 t.n,.slice a t.args.length c] 37);have b4:=B4.new w (.int .i64 t.kind) (.string t.name) (.int .i64 t.n) (.slice a t.args.length c);have hz2:=hz.alloc hz.size (.cells #[.slice none 0 0] 89);have hz3:=hz2.alloc hz2.size (.map #[] 0);have k4:=b4.low (aw_ _ (.cells #[.slice none 0 0] 89));obtain⟨c0,c1,c2,c3⟩:=k4.c03;have hb1:(((w.alloc (.cells #[.int .i64 t.kind,.string t.name,.int .i64 t.n,.slice a t.args.length c] 37)).alloc (.cells #[.slice none 0 0] 89)).alloc (.map #[] 0)).heap[w.heap.size+1]? = some (.cells #[.slice none 0 0] 89 (0,0)):=by
  rw[heap_alloc_old _ _ (by simp)];exact ah_ (by simp)
 have I0:g6_ (w.heap.size+1) 0 [] none (((w.alloc (.cells #[.int .i64 t.kind,.string t.name,.int .i64 t.n,.slice a t.args.length c] 37)).alloc (.cells #[.slice none 0 0] 89)).alloc (.map #[] 0)) :=
  ⟨_,hb1,World.ownsRow_nil _ _ _ _,rfl,aC_ _⟩
 have CW:=j0_ _ #[.pointer (some ⟨w.heap.size+1,0,none⟩)] (w.heap.size+1) ao_ (g6_ (w.heap.size+1)) ly_ (qW_ _) (hy_ _) t 0 [] [] S a c (w.heap.size+1+1) none _ I0 (by omega)
  (hA.keep fun b hb=>hz3.block b (hS b hb)) (fun b hb=>⟨ba_ (hS b hb) hz3.size,by have:=hS b hb;omega,by simp⟩) (cn_.congr (ns:=fun _=>False) (ns':=(·∈([]:List ByteArray))) (cn_.made_at (by simp)) (by simp)) ⟨by simp,by omega,by simp⟩
 rw[Nat.zero_add] at CW;have CW:=hid CW;have HZ3:=hid hz3;have hmm:=@run_makeMap Tryz.prog;unfold tv at *;clear hA hS hz b4 hz2 hz3 k4 hb1 I0;go_enter Tryz.func41,Tryz.ntmps41;go_wp2_with fail;refine CW.out.mono ?_;rintro e W1 ⟨⟨v,rfl⟩,r1,⟨u,hu,ho,_,hl⟩,hT⟩;have cu:W1.cell? ⟨w.heap.size+1,0,none⟩=some u:=cell_of_row W1 _ 0 _ _ _ hu;have O1:=hid (cx_ ho (base':=w.heap.size) (by omega));have B1:=hid ((Kp.of_below (T:=fun b=>b=w.heap.size+1∨some b=(none:Option Nat)) HZ3.out).trans hT.kp HZ3.out.size (fun b _ h=>h));have HL:=hid hl;clear hu ho hT hl;go_wp2;go_ret;exact⟨u,rfl,O1.out,HL.out,⟨B1.out.os,B1.out.tape,B1.out.output,B1.out.size,fun k hk=>B1.out.block k hk (by rintro (h|h)<;>first|omega|cases h)⟩⟩
theorem gx_ (t:Ty)(S:Nat→Prop)(a:OA_)(c:Nat)(w:World)(hA:aa_ S w (.slice a t.args.length c) t.args)(hS:∀ b,S b→b<w.heap.size)(hk:t.size≤4500000000000) :
  Calls Tryz.prog 19 #[tv t a c] w (fs_ w t):=by
 have hz:=aw_ w (.cells #[.int .i64 t.kind,.string t.name,.int .i64 t.n,.slice a t.args.length c] 37);have b4:=B4.new w (.int .i64 t.kind) (.string t.name) (.int .i64 t.n) (.slice a t.args.length c);have hz2:=hz.alloc hz.size (.cells #[.slice none 0 0] 50);have hz3:=hz2.alloc hz2.size (.map #[] 0);have k4:=b4.low (aw_ _ (.cells #[.slice none 0 0] 50));obtain⟨c0,c1,c2,c3⟩:=k4.c03;have hb1:(((w.alloc (.cells #[.int .i64 t.kind,.string t.name,.int .i64 t.n,.slice a t.args.length c] 37)).alloc (.cells #[.slice none 0 0] 50)).alloc (.map #[] 0)).heap[w.heap.size+1]? = some (.cells #[.slice none 0 0] 50 (0,0)):=by
  rw[heap_alloc_old _ _ (by simp)];exact ah_ (by simp)
 have I0:g4_ (w.heap.size+1) 0 [] none (((w.alloc (.cells #[.int .i64 t.kind,.string t.name,.int .i64 t.n,.slice a t.args.length c] 37)).alloc (.cells #[.slice none 0 0] 50)).alloc (.map #[] 0)) :=
  ⟨_,hb1,World.ownsRow_nil _ _ _ _,rfl,aC_ _⟩
 have CW:=j0_ _ #[.pointer (some ⟨w.heap.size+1,0,none⟩)] (w.heap.size+1) aE_ (g4_ (w.heap.size+1)) jE_ (qM_ _) (hu_ _) t 0 [] [] S a c (w.heap.size+1+1) none _ I0 (by omega)
  (hA.keep fun b hb=>hz3.block b (hS b hb)) (fun b hb=>⟨ba_ (hS b hb) hz3.size,by have:=hS b hb;omega,by simp⟩) (cn_.congr (ns:=fun _=>False) (ns':=(·∈([]:List ByteArray))) (cn_.made_at (by simp)) (by simp)) ⟨by simp,by omega,by simp⟩
 rw[Nat.zero_add] at CW;have CW:=hid CW;have HZ3:=hid hz3;have hmm:=@run_makeMap Tryz.prog;unfold tv at *;clear hA hS hz b4 hz2 hz3 k4 hb1 I0;go_enter Tryz.func19,Tryz.ntmps19;go_wp2_with fail;refine CW.out.mono ?_;rintro e W1 ⟨⟨v,rfl⟩,r1,⟨u,hu,ho,_,hl⟩,hT⟩;have cu:W1.cell? ⟨w.heap.size+1,0,none⟩=some u:=cell_of_row W1 _ 0 _ _ _ hu;have O1:=hid (cx_ ho (base':=w.heap.size) (by omega));have B1:=hid ((Kp.of_below (T:=fun b=>b=w.heap.size+1∨some b=(none:Option Nat)) HZ3.out).trans hT.kp HZ3.out.size (fun b _ h=>h));have HL:=hid hl;clear hu ho hT hl;go_wp2;go_ret;exact⟨u,rfl,O1.out,HL.out,⟨B1.out.os,B1.out.tape,B1.out.output,B1.out.size,fun k hk=>B1.out.block k hk (by rintro (h|h)<;>first|omega|cases h)⟩⟩
def bb_ (t:Ty)(args:List Ty):Ty:=.mk t.kind t.name t.n args
section
variable {G : Type} (F : G → Ty → Ty × G)
def an_:G→List Ty→List Ty × G
 | g,[]=>([],g)
 | g,t :: ts=>((F g t).1 :: (an_ (F g t).2 ts).1,(an_ (F g t).2 ts).2)
end
theorem h0_ {G:Type}(F:G→Ty→Ty × G)(a b:List Ty)(g:G):an_ F g (a++b)=((an_ F g a).1++(an_ F (an_ F g a).2 b).1,(an_ F (an_ F g a).2 b).2):=by
 induction a generalizing g with
 | nil=>rfl
 | cons t ts ih=>simp only[List.cons_append,an_,ih]
theorem jF_ {G:Type}(F:G→Ty→Ty × G)(ts:List Ty)(i:Nat)(h:i<ts.length)(g:G) :
  an_ F g (ts.take (i+1))=((an_ F g (ts.take i)).1++[(F (an_ F g (ts.take i)).2 ts[i]).1],(F (an_ F g (ts.take i)).2 ts[i]).2):=by
 rw[List.take_add_one,List.getElem?_eq_getElem h,h0_];rfl
theorem ex_ {G:Type}(F:G→Ty→Ty × G)(ts:List Ty)(g:G):(an_ F g ts).1.length=ts.length:=by
 induction ts generalizing g with
 | nil=>rfl
 | cons t ts ih=>simp only[an_,List.length_cons,ih]
def dL_ (W:World)(R n:Nat)(ys:List Ty)(svs:List Value):Prop :=
 svs.length=ys.length∧∃ cur,W.heap[R]? = some (.cells cur 37 (0,0))∧cur.size=n*4∧cur.toList.take (ys.length*4)=bQ_ ys svs
theorem dL_.lt {W:World}{R n:Nat}{ys:List Ty}{svs:List Value}(h:dL_ W R n ys svs):R<W.heap.size:=by
 obtain⟨_,cur,h1,_⟩:=h;exact (Array.getElem?_eq_some_iff.1 h1).1
theorem dL_.keep {W W':World}{R n:Nat}{ys:List Ty}{svs:List Value}(h:dL_ W R n ys svs)(hb:W'.heap[R]? = W.heap[R]?):dL_ W' R n ys svs:=by
 obtain⟨h0,cur,h1,h2⟩:=h;exact⟨h0,cur,hb.trans h1,h2⟩
theorem dL_.cell {W:World}{R n:Nat}{ys:List Ty}{svs:List Value}(h:dL_ W R n ys svs)(o:Nat)(ho:o<n*4):∃ v,W.cell? ⟨R,o,none⟩=some v:=by
 obtain⟨_,cur,h1,h2,_⟩:=h;exact⟨cur[o],by rw[cell_of_row W R o cur _ (0,0) h1];exact Array.getElem?_eq_getElem (by omega)⟩
theorem dL_.fr {W:World}{R n:Nat}{ys:List Ty}{svs:List Value}(h:dL_ W R n ys svs)(o:Nat):W.frozen? ⟨R,o,none⟩=false:=by
 obtain⟨_,cur,h1,_⟩:=h;simp[World.frozen?,h1]
theorem take4 (l:List Value)(k:Nat)(h:k*4+4≤l.length)(a b c d:Value) :
  ((((l.set (k*4) a).set (k*4+1) b).set (k*4+2) c).set (k*4+3) d).take ((k+1)*4)=l.take (k*4)++[a,b,c,d]:=by
 apply List.ext_getElem?;intro i;rw[List.getElem?_take,List.getElem?_append,List.getElem?_take];have hl:(l.take (k*4)).length=k*4:=by rw[List.length_take];omega
 rw[hl]
 by_cases h1:i<k*4
 ·rw[if_pos (by omega),if_pos h1,if_pos h1,List.getElem?_set_ne (by omega),List.getElem?_set_ne (by omega),List.getElem?_set_ne (by omega),List.getElem?_set_ne (by omega)]
 ·rw[if_neg h1]
  by_cases h2:i<(k+1)*4
  ·rw[if_pos h2]
   obtain⟨j,rfl⟩:∃ j,i=k*4+j:=⟨i - k*4,by omega⟩;have hj:j<4:=(by omega);rw[Nat.add_sub_cancel_left]
   match j,hj with
   | 0,_=>simp[show k*4<l.length by omega]
   | 1,_=>simp[show k*4+1<l.length by omega]
   | 2,_=>simp[show k*4+2<l.length by omega]
   | 3,_=>simp[show k*4+3<l.length by omega]
  ·rw[if_neg h2,List.getElem?_eq_none (by simp;omega)]
theorem dL_.put {W:World}{R n:Nat}{ys:List Ty}{svs:List Value}(h:dL_ W R n ys svs)(hn:ys.length<n)(y:Ty)(sv:Value) :
  dL_ ((((W.setCell ⟨R,ys.length*4,none⟩ (.int .i64 y.kind)).setCell ⟨R,ys.length*4+1,none⟩ (.string y.name)).setCell ⟨R,ys.length*4+2,none⟩ (.int .i64 y.n)).setCell ⟨R,ys.length*4+3,none⟩ sv) R n (ys++[y]) (svs++[sv]):=by
 obtain⟨h0,cur,h1,h2,h3⟩:=h;refine⟨by simp[h0],_,aN_ (aN_ (aN_ (aN_ h1 _) _) _) _,by simpa using h2,?_⟩;rw[List.length_append,List.length_singleton,eX_ _ _ _ _ h0,← h3];simp only[Array.toList_setIfInBounds];exact take4 _ _ (by rw[Array.length_toList];show ys.length*4+4≤cur.size;omega) _ _ _ _
theorem dL_.args {S:Nat→Prop}{W:World}{R n:Nat}{ys:List Ty}{svs:List Value}(h:dL_ W R n ys svs)(hn:ys.length=n)(hl:n≤9223372036854775807)(hR:S R)(ha:∀ (j:Nat) (t:Ty) (sv:Value),ys[j]? = some t→svs[j]? = some sv→aa_ S W sv t.args) :
  aa_ S W (.slice (some ⟨R,0,none⟩) ys.length n) ys:=by
 obtain⟨h0,cur,h1,h2,h3⟩:=h;refine .mk R 0 n ys (fun i=>svs.getD i (.slice none 0 0)) hR (by omega) (fun i hi=>?_) (fun i hi=>?_)
 ·have hi':i<svs.length:=by rw[h0];exact hi
  obtain⟨a0,a1,a2,a3⟩:=fn_ ys svs h0 i hi hi';rw[← h3] at a0 a1 a2 a3;have get:∀ o v,(cur.toList.take (ys.length*4))[o]? = some v→W.cell? ⟨R,o,none⟩=some v:=fun o v hv=>by
   rw[cell_of_row W R o cur _ (0,0) h1];rw[List.getElem?_take] at hv
   split at hv
   ·simpa using hv
   ·cases hv
  simp only[Nat.zero_add];rw[List.getD_eq_getElem?_getD,List.getElem?_eq_getElem hi'];exact⟨get _ _ a0,get _ _ a1,get _ _ a2,get _ _ a3⟩
 ·have hi':i<svs.length:=by rw[h0];exact hi
  simp only[List.getD_eq_getElem?_getD,List.getElem?_eq_getElem hi',Option.getD_some];exact ha i _ _ (List.getElem?_eq_getElem hi) (List.getElem?_eq_getElem hi')
theorem oS_ (n:Nat)(hn:n≤4500000000000):∃ M:Array Value,M.size=n*4∧∀ W:World,(Instr.makeSlice 35 (.int .i64 (n:Int)) (.int .i64 (n:Int))).run Tryz.prog W=.ok (.slice (some ⟨W.heap.size,0,none⟩) n n) (W.alloc (.cells M 37)):=by
 obtain⟨i0,hi0,hz0,hz1,hz3⟩:=info_parts i1_;refine⟨madeCells (Value.cells (.agg #[.int .i64 0,.string ByteArray.empty,.int .i64 0,.slice none 0 0])) (n*4),size_madeCells _ _,fun W=>?_⟩;have:=run_make (P:=Tryz.prog) W 35 37 i0 _ Tryz.underlying35 hi0 hz0 .i64 .i64 (n:Int) (n:Int) (by omega) (Int.le_refl _) (by rw[hz3];omega) (by omega);rw[hz1] at this;simpa using this
theorem dL_.new {W:World}{M:Array Value}{n R:Nat}(hM:M.size=n*4)(hR:W.heap.size=R):dL_ (W.alloc (.cells M 37)) R n [] [] :=
 ⟨rfl,M,by subst hR;exact heap_alloc_new W _,hM,by simp[bQ_]⟩
def New (S:Nat→Prop)(w w':World)(b:Nat):Prop:=S b∨w.heap.size≤b∧b<w'.heap.size
section
variable {G : Type} (S T : Nat → Prop) (Inv : G → World → Prop)
def f2_ (y:Ty)(g:G)(W:World)(e:Ending)(W':World):Prop :=
 ∃ a c,e=.returned (tv y a c)∧aa_ (New S W W') W' (.slice a y.args.length c) y.args∧Inv g W'∧Kp W.heap.size T W W'
end
theorem jZ_ {G:Type}(F:G→Ty→Ty × G)(t:Ty)(g:G)(h:t.args.length=0):bb_ t (an_ F g t.args).1=t∧(an_ F g t.args).2=g:=by
 have:t.args=[]:=List.eq_nil_of_length_eq_zero h;cases t with
 | mk k s n args=>simp only[Ty.args] at this;subst this;exact⟨rfl,rfl⟩
theorem e1_ {G:Type}(f:FuncId)(caps:Array Value)(hf:∀ args w,(callFunc f args).run Tryz.prog w=.ok (.enter f args) w)(T:Nat→Prop)(Inv:G→World→Prop)(F:G→Ty→Ty × G)(t:Ty)(g0:G)(S:Nat→Prop)(a:OA_)(c:Nat)(w:World)
  (hI:Inv g0 w) (hIk:∀ g W W',Inv g W→(∀ b,T b→W'.heap[b]? = W.heap[b]?)→Inv g W') (hA:aa_ S w (.slice a t.args.length c) t.args) (hS:∀ b,S b→b<w.heap.size∧¬ T b) (hT:∀ b,T b→b<w.heap.size) (hl:t.args.length≤4500000000000)
  (hat:∀ (i:Nat) (hi:i<t.args.length) (a:OA_) (c:Nat) (W:World),Inv (an_ F g0 (t.args.take i)).2 W→Kp w.heap.size T w W→aa_ S W (.slice a t.args[i].args.length c) t.args[i].args →
   Calls Tryz.prog f (#[tv t.args[i] a c]++caps) W (f2_ S T Inv (F (an_ F g0 (t.args.take i)).2 t.args[i]).1 (F (an_ F g0 (t.args.take i)).2 t.args[i]).2 W)) :
  Calls Tryz.prog 76 #[tv t a c,.func (.func f) #[] caps] w (f2_ S T Inv (bb_ t (an_ F g0 t.args).1) (an_ F g0 t.args).2 w):=by
 have hz:=aw_ w (.cells #[.int .i64 t.kind,.string t.name,.int .i64 t.n,.slice a t.args.length c] 37);have b4:=B4.new w (.int .i64 t.kind) (.string t.name) (.int .i64 t.n) (.slice a t.args.length c);have hz2:=hz.alloc hz.size (.cells #[.int .i64 0,.string ByteArray.empty,.int .i64 0,.slice none 0 0] 37);have k4:=b4.low (aw_ _ (.cells #[.int .i64 0,.string ByteArray.empty,.int .i64 0,.slice none 0 0] 37));have q4:=B4.new (w.alloc (.cells #[.int .i64 t.kind,.string t.name,.int .i64 t.n,.slice a t.args.length c] 37)) (.int .i64 0) (.string ByteArray.empty) (.int .i64 0) (.slice none 0 0);rw[show (w.alloc (.cells #[.int .i64 t.kind,.string t.name,.int .i64 t.n,.slice a t.args.length c] 37)).heap.size=w.heap.size+1 from by simp] at q4;have HZ2:=hid hz2;have K4:=hid k4;have Q4:=hid q4;obtain⟨c0,c1,c2,c3⟩:=k4.c03;obtain⟨r0,r1,r2,r3⟩:=q4.c03;obtain⟨s0,s1,s2,s3⟩:=q4.f03;unfold tv
 by_cases h0:t.args.length=0
 ·have z0:((t.args.length:Int)==0)=true:=by rw[beq_iff_eq];omega
  have hfin:f2_ S T Inv (bb_ t (an_ F g0 t.args).1) (an_ F g0 t.args).2 w (.returned (tv t a c)) (((((w.alloc (.cells #[.int .i64 t.kind,.string t.name,.int .i64 t.n,.slice a t.args.length c] 37)).alloc (.cells #[.int .i64 t.kind,.string t.name,.int .i64 t.n,.slice a t.args.length c] 37))))):=by
   rw[(jZ_ F t g0 h0).1,(jZ_ F t g0 h0).2];have hz3:=hz.alloc hz.size (.cells #[.int .i64 t.kind,.string t.name,.int .i64 t.n,.slice a t.args.length c] 37);exact⟨a,c,rfl,(hA.keep fun b hb=>hz3.block b (hS b hb).1).mono fun b hb=>.inl hb,hIk _ _ _ hI fun b hb=>hz3.block b (hT b hb),.of_below hz3⟩
  have HF:=hid hfin;clear h0 hfin hI hIk hA hS hT hat hz hz2 b4 k4 q4;go_enter Tryz.func76,Tryz.ntmps76;go_wp2;have q5:=B4.new (w.alloc (.cells #[.int .i64 t.kind,.string t.name,.int .i64 t.n,.slice a t.args.length c] 37)) (.int .i64 t.kind) (.string t.name) (.int .i64 t.n) (.slice a t.args.length c);rw[show (w.alloc (.cells #[.int .i64 t.kind,.string t.name,.int .i64 t.n,.slice a t.args.length c] 37)).heap.size=w.heap.size+1 from by simp] at q5;exact bodyPost_ret (v:=tv t a c) (by simp[results,Tryz.results76,go_sem,tv,q5.c0,q5.c1,q5.c2,q5.c3]) rfl HF.out
 ·have z0:((t.args.length:Int)==0)=false:=by rw[beq_eq_false_iff_ne];omega
  obtain⟨M,hM,hmk⟩:=oS_ t.args.length hl;have hz3:=hz2.alloc hz2.size (.cells M 37);have H0:Hid (Inv g0 (((w.alloc (.cells #[.int .i64 t.kind,.string t.name,.int .i64 t.n,.slice a t.args.length c] 37)).alloc (.cells #[.int .i64 0,.string ByteArray.empty,.int .i64 0,.slice none 0 0] 37)).alloc (.cells M 37))):=hid (hIk _ _ _ hI fun b hb=>hz3.block b (hT b hb));have R0:Hid (dL_ (((w.alloc (.cells #[.int .i64 t.kind,.string t.name,.int .i64 t.n,.slice a t.args.length c] 37)).alloc (.cells #[.int .i64 0,.string ByteArray.empty,.int .i64 0,.slice none 0 0] 37)).alloc (.cells M 37)) (w.heap.size+2) t.args.length [] []):=hid (dL_.new hM (by simp));have HZ3:=hid hz3;have K5:=hid (k4.low (aw_ _ (.cells M 37)));have Q5:=hid (q4.low (aw_ _ (.cells M 37)));have HIK:=hid hIk;have HA:=hid hA;have HS:=hid hS;have HT:=hid hT;have HAT:=hid hat;have c3':=K5.out.c3;clear h0 hI hIk hA hS hT hat hz hz2 hz3 b4 k4 q4 hM;go_enter Tryz.func76,Tryz.ntmps76;go_wp2
  go_loopw [20] (fun iv wr=>∃ (i:Nat) (svs:List Value),iv=.int .i64 i∧i≤t.args.length∧dL_ wr (w.heap.size+2) t.args.length (an_ F g0 (t.args.take i)).1 svs∧Inv (an_ F g0 (t.args.take i)).2 wr∧Kp w.heap.size T w wr∧B4 wr w.heap.size (.int .i64 t.kind) (.string t.name) (.int .i64 t.n) (.slice a t.args.length c) ∧
   B4 wr (w.heap.size+1) (.int .i64 0) (.string ByteArray.empty) (.int .i64 0) (.slice none 0 0)∧w.heap.size+3≤wr.heap.size∧∀ (j:Nat) (y:Ty) (sv:Value),(an_ F g0 (t.args.take i)).1[j]? = some y→svs[j]? = some sv→aa_ (fun b=>S b∨w.heap.size+3≤b∧b<wr.heap.size) wr sv y.args) (fun iv _=>t.args.length - (intOf iv).toNat)
  case atStart=>exact⟨0,[],rfl,Nat.zero_le _,R0.out,H0.out,.of_below HZ3.out,K5.out,Q5.out,by simp,fun j y sv h=>by simp[an_] at h⟩
  case round =>
   clear H0 R0 HZ3 K5 Q5 HZ2 K4 Q4 c0 c1 c2 c3 c3' r0 r1 r2 r3 s0 s1 s2 s3;obtain⟨i,svs,rfl,hil,hR,hI,hK,hk4,hq4,hsz,hat⟩:=hrel
   by_cases hi:i<t.args.length
   ·have z1:(0:Int)≤(i:Int):=by omega
    have z2:(i:Int)<(t.args.length:Int):=(by omega);obtain⟨b,off,a',c',rfl,hb,hf4,hs⟩:=HA.out.at_ hi;obtain⟨f0,f1,f2,f3⟩:=hf4.keep (hK.block b (HS.out b hb).1 (HS.out b hb).2);have hzr:=aw_ wr (.cells #[.int .i64 t.args[i].kind,.string t.args[i].name,.int .i64 t.args[i].n,.slice a' t.args[i].args.length c'] 37);have b4:=B4.new wr (.int .i64 t.args[i].kind) (.string t.args[i].name) (.int .i64 t.args[i].n) (.slice a' t.args[i].args.length c');obtain⟨d0,d1,d2,d3⟩:=b4.c03;have hKr:Kp w.heap.size T w (wr.alloc (.cells #[.int .i64 t.args[i].kind,.string t.args[i].name,.int .i64 t.args[i].n,.slice a' t.args[i].args.length c'] 37)):=hK.alloc (by omega) _;have CF:=hid (HAT.out i hi a' c' _ (HIK.out _ _ _ hI fun b hb=>hzr.block b (by have:=HT.out b hb;omega)) hKr (hs.kp hKr HS.out));have hyl:(an_ F g0 (t.args.take i)).1.length=i:=by rw[ex_,List.length_take];omega
    have MT:=hid (jF_ F t.args i hi g0);have HYL:=hid hyl;have HR:=hid (hR.keep (hzr.block _ hR.lt));have HK:=hid hKr;have HK4:=hid (hk4.low hzr);have HQ4:=hid (hq4.low hzr);have HATS:=hid hat;have HZR:=hid hzr;unfold tv at *;clear hR hI hK hk4 hq4 hat hf4 hs hzr b4 hKr hyl;go_wp2_with fail;refine CF.out.mono ?_;rintro e W4 ⟨a4,c4,rfl,hA4,hI4,hK4⟩;have hszW:(wr.alloc (.cells #[.int .i64 t.args[i].kind,.string t.args[i].name,.int .i64 t.args[i].n,.slice a' t.args[i].args.length c'] 37)).heap.size=wr.heap.size+1:=(by simp);have hs4:=hK4.size;have hnT:∀ b,w.heap.size≤b→¬ T b:=fun b hb e=>by have:=HT.out b e;omega
    have hR4:=HR.out.keep (hK4.block _ (by omega) (hnT _ (by omega)));have hk44:=(hK4.block _ (by omega) (hnT _ (by omega))).trans HK4.out;have hq44:=(hK4.block _ (by omega) (hnT _ (by omega))).trans HQ4.out;have HNT:=hid hnT;have HR4:=hid hR4;have HK44:=hid hk44;have HQ44:=hid hq44;have HA4:=hid hA4;have HI4:=hid hI4;have HKK:=hid hK4;obtain⟨v0,g0'⟩:=hR4.cell (i*4) (by omega);obtain⟨v1,g1'⟩:=hR4.cell (i*4+1) (by omega);obtain⟨v2,g2'⟩:=hR4.cell (i*4+2) (by omega);obtain⟨v3,g3'⟩:=hR4.cell (i*4+3) (by omega);have l0:=hR4.fr (i*4);have l1:=hR4.fr (i*4+1);have l2:=hR4.fr (i*4+2);have l3:=hR4.fr (i*4+3);have HS4:=hid hs4;clear hA4 hI4 hK4 hszW hs4 hnT hR4 hk44 hq44;unfold tv;go_wp2;go_roundw
    case measure=>simp[intOf];omega
    case rel =>
     have hset:∀ b,b≠w.heap.size+2→((((W4.setCell ⟨w.heap.size+1+1,i*4,none⟩ (.int .i64 (F (an_ F g0 (t.args.take i)).2 t.args[i]).1.kind)).setCell ⟨w.heap.size+1+1,i*4+1,none⟩ (.string (F (an_ F g0 (t.args.take i)).2 t.args[i]).1.name)).setCell ⟨w.heap.size+1+1,i*4+2,none⟩ (.int .i64 (F (an_ F g0 (t.args.take i)).2 t.args[i]).1.n)).setCell ⟨w.heap.size+1+1,i*4+3,none⟩ (.slice a4 (F (an_ F g0 (t.args.take i)).2 t.args[i]).1.args.length c4)).heap[b]? = W4.heap[b]? := fun b hb=>by
      rw[aB_ _ _ _ _ (by simpa using hb),aB_ _ _ _ _ (by simpa using hb),aB_ _ _ _ _ (by simpa using hb),aB_ _ _ _ _ (by simpa using hb)]
     have hrow:=HR4.out.put (by rw[HYL.out];exact hi) (F (an_ F g0 (t.args.take i)).2 t.args[i]).1 (.slice a4 (F (an_ F g0 (t.args.take i)).2 t.args[i]).1.args.length c4);rw[HYL.out] at hrow;have hs4:=HS4.out;have hss:(wr.alloc (.cells #[.int .i64 t.args[i].kind,.string t.args[i].name,.int .i64 t.args[i].n,.slice a' t.args[i].args.length c'] 37)).heap.size=wr.heap.size+1:=(by simp);have hsz5:((((W4.setCell ⟨w.heap.size+1+1,i*4,none⟩ (.int .i64 (F (an_ F g0 (t.args.take i)).2 t.args[i]).1.kind)).setCell ⟨w.heap.size+1+1,i*4+1,none⟩ (.string (F (an_ F g0 (t.args.take i)).2 t.args[i]).1.name)).setCell ⟨w.heap.size+1+1,i*4+2,none⟩ (.int .i64 (F (an_ F g0 (t.args.take i)).2 t.args[i]).1.n)).setCell ⟨w.heap.size+1+1,i*4+3,none⟩ (.slice a4 (F (an_ F g0 (t.args.take i)).2 t.args[i]).1.args.length c4)).heap.size=W4.heap.size:=(by simp);have kpw:=HK.out.trans HKK.out (by omega) (fun b _ h=>h);refine⟨i+1,svs++[.slice a4 (F (an_ F g0 (t.args.take i)).2 t.args[i]).1.args.length c4],by go_num,by omega,by rw[MT.out];exact hrow,by rw[MT.out];exact HIK.out _ _ _ HI4.out (fun b hb=>hset b (by have:=HT.out b hb;omega)),?_,(hset _ (by omega)).trans HK44.out,(hset _ (by omega)).trans HQ44.out,by rw[hsz5];omega,?_⟩
     ·exact (((kpw.setCell (p:=⟨w.heap.size+1+1,i*4,none⟩) (.inl (by simp;omega)) _).setCell (p:=⟨w.heap.size+1+1,i*4+1,none⟩) (.inl (by simp;omega)) _).setCell (p:=⟨w.heap.size+1+1,i*4+2,none⟩) (.inl (by simp;omega)) _).setCell (p:=⟨w.heap.size+1+1,i*4+3,none⟩) (.inl (by simp;omega)) _
     ·intro j y sv h1 h2
      rw[MT.out] at h1;rw[hsz5];have hsl:=HR4.out.1;rw[HYL.out] at hsl
      rcases Nat.lt_or_ge j i with hj|hj
      ·rw[List.getElem?_append_left (by rw[HYL.out];exact hj)] at h1
       rw[List.getElem?_append_left (by omega)] at h2;refine ((HATS.out j y sv h1 h2).keep fun b hb=>?_).mono fun b hb=>hb.imp id fun h=>⟨h.1,by omega⟩;have hbw:b<wr.heap.size∧b≠w.heap.size+2∧¬ T b:=by
        rcases hb with hb|⟨hb,hb'⟩
        ·have:=HS.out b hb;exact⟨by omega,by omega,this.2⟩
        ·exact⟨hb',by omega,HNT.out b (by omega)⟩
       rw[hset b hbw.2.1,HKK.out.block b (by omega) hbw.2.2];exact HZR.out.block b hbw.1
      ·have hj2:j=i:=by
        have:=(List.getElem?_eq_some_iff.1 h1).1;rw[List.length_append,HYL.out] at this;simp at this;omega
       subst hj2;rw[List.getElem?_append_right (by rw[HYL.out];exact aC_ _),HYL.out,Nat.sub_self] at h1;rw[List.getElem?_append_right (by omega),hsl,Nat.sub_self] at h2;simp only[List.getElem?_cons_zero,Option.some.injEq] at h1 h2;subst h1 h2;refine (HA4.out.keep fun b hb=>hset b ?_).mono fun b hb=>hb.imp id fun h=>⟨by omega,by omega⟩
       rcases hb with hb|⟨hb,hb'⟩
       ·have:=HS.out b hb;omega
       ·omega
   ·obtain rfl:i=t.args.length:=by omega
    rw[List.take_length] at hR hI hat;have hyl:(an_ F g0 t.args).1.length=t.args.length:=ex_ _ _ _;obtain⟨k0,k1,k2,k3⟩:=hk4.c03;have n3:=hk4.fr 3;obtain⟨o0,o1,o2,o3⟩:=hq4.c03;obtain⟨p0,p1,p2,p3⟩:=hq4.f03;have HR:=hid hR;have HI:=hid hI;have HK:=hid hK;have HQ4:=hid hq4;have HATS:=hid hat;have HYL:=hid hyl;clear hR hI hK hk4 hq4 hat hyl;go_wp2;have hset:∀ b,b≠w.heap.size→b≠w.heap.size+1→(((((wr.setCell ⟨w.heap.size,3,none⟩ (.slice (some ⟨w.heap.size+1+1,0,none⟩) t.args.length t.args.length)).setCell ⟨w.heap.size+1,0,none⟩ (.int .i64 t.kind)).setCell ⟨w.heap.size+1,1,none⟩ (.string t.name)).setCell ⟨w.heap.size+1,2,none⟩ (.int .i64 t.n)).setCell ⟨w.heap.size+1,3,none⟩ (.slice (some ⟨w.heap.size+1+1,0,none⟩) t.args.length t.args.length)).heap[b]? = wr.heap[b]? := fun b hb hb'=>by
     rw[aB_ _ _ _ _ (by simpa using hb'),aB_ _ _ _ _ (by simpa using hb'),aB_ _ _ _ _ (by simpa using hb'),aB_ _ _ _ _ (by simpa using hb'),aB_ _ _ _ _ (by simpa using hb)]
    have q6:=B4.set4 (w:=wr.setCell ⟨w.heap.size,3,none⟩ (.slice (some ⟨w.heap.size+1+1,0,none⟩) t.args.length t.args.length)) (b:=w.heap.size+1) ((aB_ _ _ _ _ (by simp)).trans HQ4.out) (.int .i64 t.kind) (.string t.name) (.int .i64 t.n) (.slice (some ⟨w.heap.size+1+1,0,none⟩) t.args.length t.args.length);refine bodyPost_ret (v:=.agg #[.int .i64 t.kind,.string t.name,.int .i64 t.n,.slice (some ⟨w.heap.size+1+1,0,none⟩) t.args.length t.args.length]) (by simp[results,Tryz.results76,go_sem,q6.c0,q6.c1,q6.c2,q6.c3]) rfl ?_;have hr:=HR.out;refine⟨some ⟨w.heap.size+1+1,0,none⟩,t.args.length,by unfold tv;rw[show (bb_ t (an_ F g0 t.args).1).args.length=t.args.length from HYL.out];rfl,?_,HIK.out _ _ _ HI.out (fun b hb=>hset b (by have:=HT.out b hb;omega) (by have:=HT.out b hb;omega)),?_⟩
    ·refine dL_.args (hr.keep (hset _ (by omega) (by omega))) HYL.out (by omega) (.inr ⟨by omega,by simp;omega⟩) (fun j y sv h1 h2=>?_)
     refine ((HATS.out j y sv h1 h2).keep fun b hb=>?_).mono fun b hb=>hb.imp id fun h=>⟨by omega,by simp;omega⟩;exact hset b (by rcases hb with hb|hb<;>first|(have:=HS.out b hb;omega)|omega) (by rcases hb with hb|hb<;>first|(have:=HS.out b hb;omega)|omega)
    ·exact ((((HK.out.setCell (p:=⟨w.heap.size,3,none⟩) (.inl (aC_ _)) _).setCell (p:=⟨w.heap.size+1,0,none⟩) (.inl (by simp)) _).setCell (p:=⟨w.heap.size+1,1,none⟩) (.inl (by simp)) _).setCell (p:=⟨w.heap.size+1,2,none⟩) (.inl (by simp)) _).setCell (p:=⟨w.heap.size+1,3,none⟩) (.inl (by simp)) _
end Go.Proofs.YtjecnionbjlncaaGreatDoor.Tp

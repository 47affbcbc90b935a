/- Packed. -/
import Derived.Test.YtkihnodkhnahiaaGreatDoorP19
set_option maxRecDepth 100000
set_option maxHeartbeats 6400000
namespace Go.Proofs.YtkihnodkhnahiaaGreatDoor.Tp
open Go.RowKit
open Lx
structure oB_ (w:World)(b o:Nat)(u0 u1 u2 u3 u4 u5 u6 u7:Value):Prop where
 c0:w.cell? ⟨b,o,none⟩=some u0
 c1:w.cell? ⟨b,o+1,none⟩=some u1
 c2:w.cell? ⟨b,o+2,none⟩=some u2
 c3:w.cell? ⟨b,o+3,none⟩=some u3
 c4:w.cell? ⟨b,o+4,none⟩=some u4
 c5:w.cell? ⟨b,o+5,none⟩=some u5
 c6:w.cell? ⟨b,o+6,none⟩=some u6
 c7:w.cell? ⟨b,o+7,none⟩=some u7
theorem oB_.keep {A B:World}{b o:Nat}{u0 u1 u2 u3 u4 u5 u6 u7:Value}(hb:B.heap[b]? = A.heap[b]?)(f:oB_ A b o u0 u1 u2 u3 u4 u5 u6 u7):oB_ B b o u0 u1 u2 u3 u4 u5 u6 u7:=by
 have k:∀ o,B.cell? ⟨b,o,none⟩=A.cell? ⟨b,o,none⟩:=fun o=>World.cell?_of_block hb;exact⟨(k _).trans f.c0,(k _).trans f.c1,(k _).trans f.c2,(k _).trans f.c3,(k _).trans f.c4,(k _).trans f.c5,(k _).trans f.c6,(k _).trans f.c7⟩
inductive bu_ (S:Nat→Prop) (w:World):Value→List Co→Prop
 | nil (a:OA_) (cap:Nat):bu_ S w (.slice a 0 cap) []
 | mk (b off cap:Nat) (cs:List Co) (tv kv:Nat→Value) (hb:S b) (hl:cs.length≤9223372036854775807)
   (hc:∀ i (h:i<cs.length),oB_ w b (off+i*8) (.int .i64 cs[i].kind) (.string cs[i].name) (.int .i64 cs[i].n) (.int .i64 cs[i].t.kind) (.string cs[i].t.name) (.int .i64 cs[i].t.n) (tv i) (kv i))
   (ht:∀ i (h:i<cs.length),ac_ S w (tv i) cs[i].t.args)
   (hk:∀ i (h:i<cs.length),bu_ S w (kv i) cs[i].kids):bu_ S w (.slice (some ⟨b,off,none⟩) cs.length cap) cs
theorem bu_.keep {S:Nat→Prop}{A B:World}(h:∀ b,S b→B.heap[b]? = A.heap[b]?){v:Value}{cs:List Co}(ha:bu_ S A v cs):bu_ S B v cs:=by
 induction ha with
 | nil a cap=>exact .nil a cap
 | mk b off cap cs tv kv hb hl hc ht _ ih=>exact .mk b off cap cs tv kv hb hl (fun i hi=>(hc i hi).keep (h b hb)) (fun i hi=>(ht i hi).keep h) ih
theorem bu_.mono {S S':Nat→Prop}(hS:∀ b,S b→S' b){A:World}{v:Value}{cs:List Co}(ha:bu_ S A v cs):bu_ S' A v cs:=by
 induction ha with
 | nil a cap=>exact .nil a cap
 | mk b off cap cs tv kv hb hl hc ht _ ih=>exact .mk b off cap cs tv kv (hS b hb) hl hc (fun i hi=>(ht i hi).mono hS) ih
theorem bu_.form {S:Nat→Prop}{w:World}{v:Value}{cs:List Co}(h:bu_ S w v cs):∃ a cap,v=.slice a cs.length cap∧cs.length≤9223372036854775807:=by
 cases h with
 | nil a cap=>exact⟨a,cap,rfl,by simp⟩
 | mk b off cap cs tv kv hb hl hc ht hk=>exact⟨_,cap,rfl,hl⟩
theorem bu_.at_ {S:Nat→Prop}{w:World}{a:OA_}{len cap:Nat}{cs:List Co}(h:bu_ S w (.slice a len cap) cs){i:Nat}(hi:i<cs.length) :
  ∃ b off a1 n1 a2 n2,a=some ⟨b,off,none⟩∧S b∧oB_ w b (off+i*8) (.int .i64 cs[i].kind) (.string cs[i].name) (.int .i64 cs[i].n) (.int .i64 cs[i].t.kind) (.string cs[i].t.name) (.int .i64 cs[i].t.n) (.slice a1 cs[i].t.args.length n1) (.slice a2 cs[i].kids.length n2) ∧
   ac_ S w (.slice a1 cs[i].t.args.length n1) cs[i].t.args∧bu_ S w (.slice a2 cs[i].kids.length n2) cs[i].kids:=by
 cases h with
 | nil a cap=>simp at hi
 | mk b off cap cs tv kv hb hl hc ht hk =>
  obtain⟨a1,n1,e1,_⟩:=(ht i hi).form;obtain⟨a2,n2,e2,_⟩:=(hk i hi).form;have h1:=hc i hi;have h2:=ht i hi;have h3:=hk i hi;rw[e1,e2] at h1;rw[e1] at h2;rw[e2] at h3;exact⟨b,off,a1,n1,a2,n2,rfl,hb,h1,h2,h3⟩
def cv (c:Co)(a:OA_)(n:Nat)(ka:OA_)(kn:Nat):Value :=
 .agg #[.int .i64 c.kind,.string c.name,.int .i64 c.n,.int .i64 c.t.kind,.string c.t.name,.int .i64 c.t.n,.slice a c.t.args.length n,.slice ka c.kids.length kn]
structure bS_ (S:Nat→Prop)(w:World)(c:Co)(a:OA_)(n:Nat)(ka:OA_)(kn:Nat):Prop where
 t:ac_ S w (.slice a c.t.args.length n) c.t.args
 k:bu_ S w (.slice ka c.kids.length kn) c.kids
theorem bS_.keep {S:Nat→Prop}{A B:World}(h:∀ b,S b→B.heap[b]? = A.heap[b]?){c:Co}{a:OA_}{n:Nat}{ka:OA_}{kn:Nat}(H:bS_ S A c a n ka kn):bS_ S B c a n ka kn:=⟨H.t.keep h,H.k.keep h⟩
theorem bS_.mono {S S':Nat→Prop}(hS:∀ b,S b→S' b){A:World}{c:Co}{a:OA_}{n:Nat}{ka:OA_}{kn:Nat}(H:bS_ S A c a n ka kn):bS_ S' A c a n ka kn:=⟨H.t.mono hS,H.k.mono hS⟩
theorem bS_.low {w w':World}{c:Co}{a:OA_}{n:Nat}{ka:OA_}{kn:Nat}(H:bS_ (Lt w.heap.size) w c a n ka kn)(h:Below w.heap.size w w'):bS_ (Lt w'.heap.size) w' c a n ka kn :=
 (H.keep fun b hb=>h.block b hb).mono fun _ hb=>aX_ hb h.size
theorem bS_.none (S:Nat→Prop)(w:World)(k:Int)(s:ByteArray)(m:Int)(c1 c2:Nat):bS_ S w (.mk k s m tz []) .none c1 .none c2:=⟨.nil _ _,.nil _ _⟩
def B8 (w:World)(b:Nat)(u0 u1 u2 u3 u4 u5 u6 u7:Value):Prop:=w.heap[b]? = some (.cells #[u0,u1,u2,u3,u4,u5,u6,u7] 33 (0,0))
section
variable {w w' : World} {b : Nat} {u0 u1 u2 u3 u4 u5 u6 u7 : Value}
theorem B8.c0 (h:B8 w b u0 u1 u2 u3 u4 u5 u6 u7):w.cell? ⟨b,0,none⟩=some u0:=cell_of_row w b 0 _ _ _ h
theorem B8.c1 (h:B8 w b u0 u1 u2 u3 u4 u5 u6 u7):w.cell? ⟨b,1,none⟩=some u1:=cell_of_row w b 1 _ _ _ h
theorem B8.c2 (h:B8 w b u0 u1 u2 u3 u4 u5 u6 u7):w.cell? ⟨b,2,none⟩=some u2:=cell_of_row w b 2 _ _ _ h
theorem B8.c3 (h:B8 w b u0 u1 u2 u3 u4 u5 u6 u7):w.cell? ⟨b,3,none⟩=some u3:=cell_of_row w b 3 _ _ _ h
theorem B8.c4 (h:B8 w b u0 u1 u2 u3 u4 u5 u6 u7):w.cell? ⟨b,4,none⟩=some u4:=cell_of_row w b 4 _ _ _ h
theorem B8.c5 (h:B8 w b u0 u1 u2 u3 u4 u5 u6 u7):w.cell? ⟨b,5,none⟩=some u5:=cell_of_row w b 5 _ _ _ h
theorem B8.c6 (h:B8 w b u0 u1 u2 u3 u4 u5 u6 u7):w.cell? ⟨b,6,none⟩=some u6:=cell_of_row w b 6 _ _ _ h
theorem B8.c7 (h:B8 w b u0 u1 u2 u3 u4 u5 u6 u7):w.cell? ⟨b,7,none⟩=some u7:=cell_of_row w b 7 _ _ _ h
theorem B8.fr (h:B8 w b u0 u1 u2 u3 u4 u5 u6 u7)(i:Nat):w.frozen? ⟨b,i,none⟩=false:=by unfold B8 at h;simp[World.frozen?,h]
theorem B8.c07 (h:B8 w b u0 u1 u2 u3 u4 u5 u6 u7):w.cell? ⟨b,0,none⟩=some u0∧w.cell? ⟨b,1,none⟩=some u1∧w.cell? ⟨b,2,none⟩=some u2∧w.cell? ⟨b,3,none⟩=some u3∧w.cell? ⟨b,4,none⟩=some u4∧w.cell? ⟨b,5,none⟩=some u5∧w.cell? ⟨b,6,none⟩=some u6∧w.cell? ⟨b,7,none⟩=some u7:=⟨h.c0,h.c1,h.c2,h.c3,h.c4,h.c5,h.c6,h.c7⟩
theorem B8.f07 (h:B8 w b u0 u1 u2 u3 u4 u5 u6 u7):w.frozen? ⟨b,0,none⟩=false∧w.frozen? ⟨b,1,none⟩=false∧w.frozen? ⟨b,2,none⟩=false∧w.frozen? ⟨b,3,none⟩=false∧w.frozen? ⟨b,4,none⟩=false∧w.frozen? ⟨b,5,none⟩=false∧w.frozen? ⟨b,6,none⟩=false∧w.frozen? ⟨b,7,none⟩=false:=⟨h.fr 0,h.fr 1,h.fr 2,h.fr 3,h.fr 4,h.fr 5,h.fr 6,h.fr 7⟩
theorem B8.c03 (h:B8 w b u0 u1 u2 u3 u4 u5 u6 u7):w.cell? ⟨b,0,none⟩=some u0∧w.cell? ⟨b,1,none⟩=some u1∧w.cell? ⟨b,2,none⟩=some u2∧w.cell? ⟨b,3,none⟩=some u3:=⟨h.c0,h.c1,h.c2,h.c3⟩
theorem B8.f03 (h:B8 w b u0 u1 u2 u3 u4 u5 u6 u7):w.frozen? ⟨b,0,none⟩=false∧w.frozen? ⟨b,1,none⟩=false∧w.frozen? ⟨b,2,none⟩=false∧w.frozen? ⟨b,3,none⟩=false:=⟨h.fr 0,h.fr 1,h.fr 2,h.fr 3⟩
theorem B8.lt (h:B8 w b u0 u1 u2 u3 u4 u5 u6 u7):b<w.heap.size:=(Array.getElem?_eq_some_iff.1 h).1
theorem B8.new (w:World)(u0 u1 u2 u3 u4 u5 u6 u7:Value):B8 (w.alloc (.cells #[u0,u1,u2,u3,u4,u5,u6,u7] 33)) w.heap.size u0 u1 u2 u3 u4 u5 u6 u7:=heap_alloc_new w _
theorem B8.grown {r:Option Nat}(h:B8 w b u0 u1 u2 u3 u4 u5 u6 u7)(hg:w.grownBy w' r)(hr:r≠some b):B8 w' b u0 u1 u2 u3 u4 u5 u6 u7:=(hg.block b h.lt (Ne.symm hr)).trans h
theorem B8.low (h:B8 w b u0 u1 u2 u3 u4 u5 u6 u7)(hb:Below w.heap.size w w'):B8 w' b u0 u1 u2 u3 u4 u5 u6 u7:=(hb.block b h.lt).trans h
theorem B8.set (h:B8 w b u0 u1 u2 u3 u4 u5 u6 u7)(i:Nat)(u:Value):(w.setCell ⟨b,i,none⟩ u).heap[b]? = some (.cells (#[u0,u1,u2,u3,u4,u5,u6,u7].setIfInBounds i u) 33 (0,0)):=ak_ h u
end
def ga_ (c:Co)(p:Value × Value):List Value:=[.int .i64 c.kind,.string c.name,.int .i64 c.n,.int .i64 c.t.kind,.string c.t.name,.int .i64 c.t.n,p.1,p.2]
def dO_ (cs:List Co)(ps:List (Value × Value)):List Value:=(cs.zip ps).flatMap fun p=>ga_ p.1 p.2
theorem fp_:∀ (cs:List Co) (ps:List (Value × Value)) (c:Co) (p:Value × Value),ps.length=cs.length→dO_ (cs++[c]) (ps++[p])=dO_ cs ps++ga_ c p:=by
 intro cs ps c p h;unfold dO_;rw[List.zip_append h.symm,List.flatMap_append];simp
theorem fL_:∀ (cs:List Co) (ps:List (Value × Value)),ps.length=cs.length→∀ (i:Nat) (h:i<cs.length) (h':i<ps.length) (j:Nat),j<8→(dO_ cs ps)[i*8+j]? = (ga_ cs[i] ps[i])[j]?
 | [],_,_,i,h,_,_,_=>by simp at h
 | c :: cs,[],hh,_,_,_,_,_=>by simp at hh
 | c :: cs,p :: ps,hh,i,h,h',j,hj=>by
  have e:dO_ (c :: cs) (p :: ps)=ga_ c p++dO_ cs ps:=rfl;rw[e];cases i with
  | zero =>
   rw[List.getElem?_append_left (by show _<8;omega),Nat.zero_mul,Nat.zero_add];rfl
  | succ i =>
   have:=fL_ cs ps (by simpa using hh) i (by simpa using h) (by simpa using h') j hj;rw[List.getElem?_append_right (by show 8≤_;omega)];show (dO_ cs ps)[(i+1)*8+j - 8]? = _;rw[show (i+1)*8+j - 8=i*8+j by omega,this];rfl
structure iR_ (lo:Nat)(w:World)(v:Value)(acc:List Co)(ps:List (Value × Value)):Prop where
 own:w.ownsRow lo 33 8 v acc.length (dO_ acc ps)
 len:ps.length=acc.length
 at_:∀ (j:Nat) (c:Co) (p:Value × Value),acc[j]? = some c→ps[j]? = some p→ac_ (fun b=>lo≤b∧b<w.heap.size∧v.ownBlock≠some b) w p.1 c.t.args∧bu_ (fun b=>lo≤b∧b<w.heap.size∧v.ownBlock≠some b) w p.2 c.kids
theorem iR_.nil (lo:Nat)(w:World):iR_ lo w (.slice none 0 0) [] []:=⟨World.ownsRow_nil _ _ _ _,rfl,by simp⟩
theorem iR_.keep {lo:Nat}{w w':World}{v:Value}{acc:List Co}{ps:List (Value × Value)}(h:iR_ lo w v acc ps)(hs:w.heap.size≤w'.heap.size)(hk:∀ b,lo≤b→b<w.heap.size→w'.heap[b]? = w.heap[b]?):iR_ lo w' v acc ps :=
 ⟨aF_ h.own fun b hb=>hk b (h.own.lt b hb).1 (h.own.lt b hb).2,h.len,fun j t sv h1 h2 =>
  ⟨((h.at_ j t sv h1 h2).1.keep fun b hb=>hk b hb.1 hb.2.1).mono fun b hb=>⟨hb.1,by have:=hb.2.1;omega,hb.2.2⟩,((h.at_ j t sv h1 h2).2.keep fun b hb=>hk b hb.1 hb.2.1).mono fun b hb=>⟨hb.1,by have:=hb.2.1;omega,hb.2.2⟩⟩⟩
theorem iR_.add {lo:Nat}{w w':World}{v v':Value}{p:Value × Value}{acc:List Co}{ps:List (Value × Value)}{c:Co}{S:Nat→Prop}(h:iR_ lo w v acc ps)(hx:ac_ S w p.1 c.t.args)(hk:bu_ S w p.2 c.kids)(hS:∀ b,S b→lo≤b∧b<w.heap.size∧v.ownBlock≠some b)
  (hg:w.grownBy w' v.ownBlock) (ho:w'.ownsRow lo 33 8 v' (acc.length+1) (dO_ acc ps++ga_ c p)) (hat:∀ b,v'.ownBlock=some b→v.ownBlock=some b∨w.heap.size≤b):iR_ lo w' v' (acc++[c]) (ps++[p]):=by
 have up:∀ {S:Nat→Prop},(∀ b,S b→lo≤b∧b<w.heap.size∧v.ownBlock≠some b)→(∀ b,S b→w'.heap[b]? = w.heap[b]?)∧∀ b,S b→lo≤b∧b<w'.heap.size∧v'.ownBlock≠some b:=fun {S} hS =>
  ⟨fun b hb=>hg.block b (hS b hb).2.1 (Ne.symm (hS b hb).2.2),fun b hb=>⟨(hS b hb).1,aX_ (hS b hb).2.1 hg.size,fun e=>by
   rcases hat b e with e|e
   ·exact (hS b hb).2.2 e
   ·have:=(hS b hb).2.1;omega⟩⟩
 have kp:∀ {S:Nat→Prop} {y:Value} {ts:List Ty},(∀ b,S b→lo≤b∧b<w.heap.size∧v.ownBlock≠some b)→ac_ S w y ts→ac_ (fun b=>lo≤b∧b<w'.heap.size∧v'.ownBlock≠some b) w' y ts:=fun hS hy=>(hy.keep (up hS).1).mono (up hS).2;have kk:∀ {S:Nat→Prop} {y:Value} {ts:List Co},(∀ b,S b→lo≤b∧b<w.heap.size∧v.ownBlock≠some b)→bu_ S w y ts→bu_ (fun b=>lo≤b∧b<w'.heap.size∧v'.ownBlock≠some b) w' y ts:=fun hS hy=>(hy.keep (up hS).1).mono (up hS).2;refine⟨by rw[fp_ _ _ _ _ h.len,List.length_append];exact ho,by simp[h.len],fun j u y h1 h2=>?_⟩
 rcases Nat.lt_or_ge j acc.length with hlt|hge
 ·rw[List.getElem?_append_left hlt] at h1
  rw[List.getElem?_append_left (by rw[h.len];exact hlt)] at h2;exact⟨kp (fun b hb=>hb) (h.at_ j u y h1 h2).1,kk (fun b hb=>hb) (h.at_ j u y h1 h2).2⟩
 ·have hj:j=acc.length:=by
   have:=(List.getElem?_eq_some_iff.1 h1).1;simp at this;omega
  subst hj;rw[List.getElem?_append_right (aw_ _)] at h1;rw[← h.len,List.getElem?_append_right (aw_ _)] at h2;simp at h1 h2;subst h1 h2;exact⟨kp hS hx,kk hS hk⟩
theorem iR_.args {lo:Nat}{w:World}{v:Value}{acc:List Co}{ps:List (Value × Value)}(h:iR_ lo w v acc ps)(hl:acc.length≤4000):bu_ (In lo w.heap.size) w v acc:=by
 rcases h.own.2 with ⟨rfl,h0⟩|⟨g,cap,cur,rfl,hb,hg,h1,h2,h3,h4⟩
 ·have:acc=[]:=List.eq_nil_of_length_eq_zero h0
  subst this;exact .nil _ _
 ·have hc:=h.own.cells (g:=g) rfl
  have hadd:∀ j,(⟨g,0,none⟩:Addr).add j=⟨g,j,none⟩:=fun j=>by unfold Addr.add;split<;>simp_all
  refine .mk g 0 cap acc (fun i=>(ps.getD i (.slice none 0 0,.slice none 0 0)).1) (fun i=>(ps.getD i (.slice none 0 0,.slice none 0 0)).2) ⟨hb,(Array.getElem?_eq_some_iff.1 hg).1⟩ (by omega) (fun i hi=>?_) (fun i hi=>?_) (fun i hi=>?_)
  ·have hi':i<ps.length:=by rw[h.len];exact hi
   have q:∀ j u,j<8→(ga_ acc[i] ps[i])[j]? = some u→w.cell? ⟨g,0+i*8+j,none⟩=some u:=fun j u hj hu=>by
    have:=hc (i*8+j) u (by rw[fL_ acc ps h.len i hi hi' j hj];exact hu);rw[hadd] at this;rw[Nat.zero_add];exact this
   simp only[List.getD_eq_getElem?_getD,List.getElem?_eq_getElem hi',Option.getD_some];exact⟨q 0 _ (by omega) rfl,q 1 _ (by omega) rfl,q 2 _ (by omega) rfl,q 3 _ (by omega) rfl,q 4 _ (by omega) rfl,q 5 _ (by omega) rfl,q 6 _ (by omega) rfl,q 7 _ (by omega) rfl⟩
  ·have hi':i<ps.length:=by rw[h.len];exact hi
   simp only[List.getD_eq_getElem?_getD,List.getElem?_eq_getElem hi',Option.getD_some];exact (h.at_ i _ _ (List.getElem?_eq_getElem hi) (List.getElem?_eq_getElem hi')).1.mono fun b hb=>⟨hb.1,hb.2.1⟩
  ·have hi':i<ps.length:=by rw[h.len];exact hi
   simp only[List.getD_eq_getElem?_getD,List.getElem?_eq_getElem hi',Option.getD_some];exact (h.at_ i _ _ (List.getElem?_eq_getElem hi) (List.getElem?_eq_getElem hi')).2.mono fun b hb=>⟨hb.1,hb.2.1⟩
theorem qB_:(Tryz.prog.info? 33).map (fun i=>(i.zero,i.size,i.bytes))=some (some (.agg #[.int .i64 0,.string ByteArray.empty,.int .i64 0,.int .i64 0,.string ByteArray.empty,.int .i64 0,.slice none 0 0,.slice none 0 0]),8,112):=by kernel_rfl
def AtW (y:Ty)(a:OA_)(c:Nat)(W:World):Prop:=ac_ (Lt W.heap.size) W (.slice a y.args.length c) y.args
theorem AtW.low {y:Ty}{a:OA_}{c:Nat}{W W':World}(R:AtW y a c W)(h:Below W.heap.size W W'):AtW y a c W' :=
 (R.keep fun j hj=>h.block j hj).mono fun _ hj=>aX_ hj h.size
def bp_ (S:Nat→Prop)(T:List PanicEntry)(w:World)(r:Option (Ty × Ty))(e:Ending)(w':World):Prop:=Below w.heap.size w w'∧match r with
 | none=>e=.panicked T
 | some p=>∃ a c b d,e=.returned (.tuple #[tv p.1 a c,tv p.2 b d])∧ac_ (fun b=>S b∨w.heap.size≤b∧b<w'.heap.size) w' (.slice a p.1.args.length c) p.1.args∧ac_ (fun b=>S b∨w.heap.size≤b∧b<w'.heap.size) w' (.slice b p.2.args.length d) p.2.args
theorem AtW.form {y:Ty}{a:OA_}{c:Nat}{W:World}(R:AtW y a c W):y.args.length≤9223372036854775807:=by obtain⟨_,_,_,h⟩:=ac_.form R;exact h
theorem AtW.four {y:Ty}{b o c:Nat}{W:World}(R:AtW y (some ⟨b,o,none⟩) c W){i:Nat}(hi:i<y.args.length) :
  ∃ a' c',b<W.heap.size∧iS_ W b (o+i*4) (.int .i64 y.args[i].kind) (.string y.args[i].name) (.int .i64 y.args[i].n) (.slice a' y.args[i].args.length c')∧AtW y.args[i] a' c' W:=by
 obtain⟨b',o',a',c',e,hb,hf,hs⟩:=ac_.at_ R hi;injection e with e;injection e with e1 e2
 subst e1 e2;exact⟨a',c',hb,hf,hs⟩
def bV_:List PanicEntry:=[{ v:=.iface 79 (.agg #[]),recovered:=false }]
theorem dU_ (w:World):Calls Tryz.prog 57 #[.bool true] w fun e w'=>e=.returned (.tuple #[])∧w=w':=by
 go_enter Tryz.func57,Tryz.ntmps57;go_wp2
 go_end0
 exact⟨rfl,rfl⟩
theorem d6_ (w:World):Calls Tryz.prog 57 #[.bool false] w fun e w'=>e=.panicked bV_∧w=w':=by
 go_enter Tryz.func57,Tryz.ntmps57;go_wp2;exact⟨rfl,rfl,rfl⟩
def rU_ (w:World)(b o:Nat)(c0 c1 c2 c3:Value):Prop:=b<w.heap.size∧iS_ w b o c0 c1 c2 c3
theorem rU_.low {w w':World}{b o:Nat}{c0 c1 c2 c3:Value}(h:rU_ w b o c0 c1 c2 c3)(hb:Below w.heap.size w w'):iS_ w' b o c0 c1 c2 c3:=h.2.keep (hb.block b h.1)
theorem iz_ (a b:Int):∃ q:Bool,(a==b)=q∧(q=true↔a=b):=⟨_,rfl,by simp⟩
theorem de_ (a b:ByteArray):∃ q:Bool,(a.toList==b.toList)=q∧(q=true↔a=b):=⟨_,rfl,by rw[beq_iff_eq,ByteArray.toList_eq,ByteArray.toList_eq];exact⟨fun h=>ByteArray.ext (Array.toList_inj.1 h),fun h=>by rw[h]⟩⟩
theorem iK_ {S:Nat→Prop}{y:Ty}{a:OA_}{c:Nat}{W:World}(hS:∀ b,S b→b<W.heap.size)(R:ac_ S W (.slice a y.args.length c) y.args){i:Nat}(hi:i<y.args.length) :
  ∃ b o a' c',a=some ⟨b,o,none⟩∧b<W.heap.size∧rU_ W b (o+i*4) (.int .i64 y.args[i].kind) (.string y.args[i].name) (.int .i64 y.args[i].n) (.slice a' y.args[i].args.length c')∧ac_ S W (.slice a' y.args[i].args.length c') y.args[i].args:=by
 obtain⟨b',o',a',c',e,hb,hf,hs⟩:=ac_.at_ R hi;exact⟨b',o',a',c',e,hS _ hb,⟨hS _ hb,hf⟩,hs⟩
theorem rh_ (n:Int)(l r:Ty)(a b:OA_)(c d:Nat)(w:World)(S:Nat→Prop)(hS:∀ b,S b→b<w.heap.size)(hl:ac_ S w (.slice a l.args.length c) l.args)(hr:ac_ S w (.slice b r.args.length d) r.args)(hn:0≤n)(h4:l.kind=r.kind→l.kind=4→l.args.length=r.args.length) :
  Calls Tryz.prog 61 #[.int .i64 n,tv l a c,tv r b d] w (bp_ S bV_ w (gs_ n l r)):=by
 obtain⟨k1,e1,i1⟩:=iz_ l.kind r.kind;obtain⟨k2,e2,i2⟩:=iz_ l.kind 4;obtain⟨k3,e3,i3⟩:=iz_ l.kind 3;obtain⟨k4,e4,i4⟩:=de_ l.name r.name;obtain⟨k5,e5,i5⟩:=iz_ (l.args.length:Int) (r.args.length:Int);have HB2:Hid (∀ o3 o4:Obj,Below w.heap.size w ((((w.alloc (.cells #[.int .i64 l.kind,.string l.name,.int .i64 l.n,.slice a l.args.length c] 30)).alloc (.cells #[.int .i64 r.kind,.string r.name,.int .i64 r.n,.slice b r.args.length d] 30)).alloc o3).alloc o4)) :=
  hid fun _ _=>((((ao_ _ _).alloc (by simp) _).alloc (by simp;omega) _).alloc (by simp;omega) _)
 have HS:=hid hS;have hno:∀ r',gs_ n l r=r'→¬ (l.kind=r.kind∧(l.kind=4∨l.kind=3∧l.name=r.name∧l.args.length=r.args.length)∧n<l.args.length)→r'=none:=fun r' e h=>by rw[← e];unfold gs_;rw[if_neg h]
 have I:=hid (And.intro i1 (And.intro i2 (And.intro i3 (And.intro i4 i5))));cases k1
 ·have E:Hid (gs_ n l r=none):=hid (by unfold gs_;rw[if_neg];rintro ⟨h,_⟩;have:=i1.2 h;simp at this)
  clear i1 i2 i3 i4 i5 hl hr h4 hno hS;unfold tv;go_enter Tryz.func61,Tryz.ntmps61;go_wp2_with fail;refine (d6_ _).mono ?_;rintro e w' ⟨rfl,rfl⟩;go_wp2;refine⟨rfl,?_⟩;rw[E.out];exact⟨HB2.out _ _,rfl⟩
 ·cases k2
  ·cases k3
   ·have E:Hid (gs_ n l r=none):=hid (by unfold gs_;rw[if_neg];rintro ⟨_,h|h,_⟩;exact absurd (i2.2 h) (by simp);exact absurd (i3.2 h.1) (by simp))
    clear i1 i2 i3 i4 i5 hl hr h4 hno hS;unfold tv;go_enter Tryz.func61,Tryz.ntmps61;go_wp2_with fail;refine (d6_ _).mono ?_;rintro e w' ⟨rfl,rfl⟩;go_wp2;refine⟨rfl,?_⟩;rw[E.out];exact⟨HB2.out _ _,rfl⟩
   ·cases k4
    ·have E:Hid (gs_ n l r=none):=hid (by unfold gs_;rw[if_neg];rintro ⟨_,h|h,_⟩;exact absurd (i2.2 h) (by simp);exact absurd (i4.2 h.2.1) (by simp))
     clear i1 i2 i3 i4 i5 hl hr h4 hno hS;unfold tv;go_enter Tryz.func61,Tryz.ntmps61;go_wp2_with fail;refine (d6_ _).mono ?_;rintro e w' ⟨rfl,rfl⟩;go_wp2;refine⟨rfl,?_⟩;rw[E.out];exact⟨HB2.out _ _,rfl⟩
    ·cases k5
     ·have E:Hid (gs_ n l r=none):=hid (by unfold gs_;rw[if_neg];rintro ⟨_,h|h,_⟩;exact absurd (i2.2 h) (by simp);exact absurd (i5.2 (by rw[h.2.2])) (by simp))
      clear i1 i2 i3 i4 i5 hl hr h4 hno hS;unfold tv;go_enter Tryz.func61,Tryz.ntmps61;go_wp2_with fail;refine (d6_ _).mono ?_;rintro e w' ⟨rfl,rfl⟩;go_wp2;refine⟨rfl,?_⟩;rw[E.out];exact⟨HB2.out _ _,rfl⟩
     ·have hlen:l.args.length=r.args.length:=by have:=i5.1 rfl;omega
      by_cases hlt:n<l.args.length
      ·obtain⟨m,rfl⟩:∃ m:Nat,n=(m:Int):=⟨n.toNat,by omega⟩
       have hm:m<l.args.length:=(by omega);have hm2:m<r.args.length:=(by omega);have z1:(m:Int)<(r.args.length:Int):=(by omega);have E:Hid (gs_ (m:Int) l r=some (l.args[m],r.args[m])):=hid (by
        unfold gs_;rw[if_pos ⟨i1.1 rfl,.inr ⟨i3.1 rfl,i4.1 rfl,by have:=i5.1 rfl;omega⟩,hlt⟩,Int.toNat_natCast,List.getD_eq_getElem?_getD,List.getD_eq_getElem?_getD,List.getElem?_eq_getElem hm,List.getElem?_eq_getElem hm2];rfl)
       obtain⟨lb,lo,a1,c1,rfl,_,hlf,hla⟩:=iK_ hS hl hm;obtain⟨rb,ro,b1,d1,rfl,_,hrf,hra⟩:=iK_ hS hr hm2;have LA:=hid (fun o3 o4=>hla.keep (fun b hb=>(HB2.out o3 o4).drew.block b (hS b hb)));have RA:=hid (fun o3 o4=>hra.keep (fun b hb=>(HB2.out o3 o4).drew.block b (hS b hb)));have zo:Obj:=.cells #[.int .i64 0,.string ⟨#[]⟩,.int .i64 0,.slice none 0 0] 30;have xo:=Obj.cells #[.int .i64 l.args[m].kind,.string l.args[m].name,.int .i64 l.args[m].n,.slice a1 l.args[m].args.length c1] 30;obtain⟨f0,f1,f2,f3⟩:=hlf.low (HB2.out (.cells #[.int .i64 0,.string ⟨#[]⟩,.int .i64 0,.slice none 0 0] 30) (.cells #[.int .i64 0,.string ⟨#[]⟩,.int .i64 0,.slice none 0 0] 30));obtain⟨g0,g1,g2,g3⟩:=hrf.low (HB2.out (.cells #[.int .i64 0,.string ⟨#[]⟩,.int .i64 0,.slice none 0 0] 30) (.cells #[.int .i64 0,.string ⟨#[]⟩,.int .i64 0,.slice none 0 0] 30));obtain⟨p0,p1,p2,p3⟩:=hrf.low (HB2.out (.cells #[.int .i64 l.args[m].kind,.string l.args[m].name,.int .i64 l.args[m].n,.slice a1 l.args[m].args.length c1] 30) (.cells #[.int .i64 0,.string ⟨#[]⟩,.int .i64 0,.slice none 0 0] 30));obtain⟨q0,q1,q2,q3⟩:=hlf.low (HB2.out (.cells #[.int .i64 0,.string ⟨#[]⟩,.int .i64 0,.slice none 0 0] 30) (.cells #[.int .i64 r.args[m].kind,.string r.args[m].name,.int .i64 r.args[m].n,.slice b1 r.args[m].args.length d1] 30));clear i1 i2 i3 i4 i5 hl hr h4 hno hS hlf hla hrf hra hn hlen zo xo;unfold tv;generalize l.args[m]=x at *;generalize r.args[m]=y at *;go_enter Tryz.func61,Tryz.ntmps61;go_wp2_with fail;refine (dU_ _).mono ?_;rintro e w' ⟨rfl,rfl⟩;go_wp2_with fail;refine (dU_ _).mono ?_;rintro e w' ⟨rfl,rfl⟩;go_wp2
       go_region
       go_wp2;refine bodyPost_ret (v:=.tuple #[tv x a1 c1,tv y b1 d1]) (by simp[results,Tryz.results61,go_sem,tv]) rfl ?_;rw[E.out];exact⟨(HB2.out _ _).drew,_,_,_,_,rfl,(LA.out _ _).mono fun _ hb=>Or.inl hb,(RA.out _ _).mono fun _ hb=>Or.inl hb⟩
      ·have E:Hid (gs_ n l r=none):=hid (by unfold gs_;rw[if_neg];rintro ⟨_,_,h⟩;exact hlt h)
       have z2:decide (n<(l.args.length:Int))=false:=by simpa using hlt
       clear hlt hlen;clear i1 i2 i3 i4 i5 hl hr h4 hno hS;unfold tv;go_enter Tryz.func61,Tryz.ntmps61;go_wp2_with fail;refine (dU_ _).mono ?_;rintro e w' ⟨rfl,rfl⟩;go_wp2_with fail;refine (d6_ _).mono ?_;rintro e w' ⟨rfl,rfl⟩;go_wp2;refine⟨rfl,?_⟩;rw[E.out];exact⟨HB2.out _ _,rfl⟩
  ·have hlen:l.args.length=r.args.length:=h4 (i1.1 rfl) (i2.1 rfl)
   by_cases hlt:n<l.args.length
   ·obtain⟨m,rfl⟩:∃ m:Nat,n=(m:Int):=⟨n.toNat,by omega⟩
    have hm:m<l.args.length:=(by omega);have hm2:m<r.args.length:=(by omega);have z1:(m:Int)<(r.args.length:Int):=(by omega);have E:Hid (gs_ (m:Int) l r=some (l.args[m],r.args[m])):=hid (by
     unfold gs_;rw[if_pos ⟨i1.1 rfl,.inl (i2.1 rfl),hlt⟩,Int.toNat_natCast,List.getD_eq_getElem?_getD,List.getD_eq_getElem?_getD,List.getElem?_eq_getElem hm,List.getElem?_eq_getElem hm2];rfl)
    obtain⟨lb,lo,a1,c1,rfl,_,hlf,hla⟩:=iK_ hS hl hm;obtain⟨rb,ro,b1,d1,rfl,_,hrf,hra⟩:=iK_ hS hr hm2;have LA:=hid (fun o3 o4=>hla.keep (fun b hb=>(HB2.out o3 o4).drew.block b (hS b hb)));have RA:=hid (fun o3 o4=>hra.keep (fun b hb=>(HB2.out o3 o4).drew.block b (hS b hb)));have zo:Obj:=.cells #[.int .i64 0,.string ⟨#[]⟩,.int .i64 0,.slice none 0 0] 30;have xo:=Obj.cells #[.int .i64 l.args[m].kind,.string l.args[m].name,.int .i64 l.args[m].n,.slice a1 l.args[m].args.length c1] 30;obtain⟨f0,f1,f2,f3⟩:=hlf.low (HB2.out (.cells #[.int .i64 0,.string ⟨#[]⟩,.int .i64 0,.slice none 0 0] 30) (.cells #[.int .i64 0,.string ⟨#[]⟩,.int .i64 0,.slice none 0 0] 30));obtain⟨g0,g1,g2,g3⟩:=hrf.low (HB2.out (.cells #[.int .i64 0,.string ⟨#[]⟩,.int .i64 0,.slice none 0 0] 30) (.cells #[.int .i64 0,.string ⟨#[]⟩,.int .i64 0,.slice none 0 0] 30));obtain⟨p0,p1,p2,p3⟩:=hrf.low (HB2.out (.cells #[.int .i64 l.args[m].kind,.string l.args[m].name,.int .i64 l.args[m].n,.slice a1 l.args[m].args.length c1] 30) (.cells #[.int .i64 0,.string ⟨#[]⟩,.int .i64 0,.slice none 0 0] 30));obtain⟨q0,q1,q2,q3⟩:=hlf.low (HB2.out (.cells #[.int .i64 0,.string ⟨#[]⟩,.int .i64 0,.slice none 0 0] 30) (.cells #[.int .i64 r.args[m].kind,.string r.args[m].name,.int .i64 r.args[m].n,.slice b1 r.args[m].args.length d1] 30));clear i1 i2 i3 i4 i5 hl hr h4 hno hS hlf hla hrf hra hn hlen zo xo;unfold tv;generalize l.args[m]=x at *;generalize r.args[m]=y at *;go_enter Tryz.func61,Tryz.ntmps61;go_wp2_with fail;refine (dU_ _).mono ?_;rintro e w' ⟨rfl,rfl⟩;go_wp2_with fail;refine (dU_ _).mono ?_;rintro e w' ⟨rfl,rfl⟩;go_wp2
    go_region
    go_wp2;refine bodyPost_ret (v:=.tuple #[tv x a1 c1,tv y b1 d1]) (by simp[results,Tryz.results61,go_sem,tv]) rfl ?_;rw[E.out];exact⟨(HB2.out _ _).drew,_,_,_,_,rfl,(LA.out _ _).mono fun _ hb=>Or.inl hb,(RA.out _ _).mono fun _ hb=>Or.inl hb⟩
   ·have E:Hid (gs_ n l r=none):=hid (by unfold gs_;rw[if_neg];rintro ⟨_,_,h⟩;exact hlt h)
    have z2:decide (n<(l.args.length:Int))=false:=by simpa using hlt
    clear hlt hlen;clear i1 i2 i3 i4 i5 hl hr h4 hno hS;unfold tv;go_enter Tryz.func61,Tryz.ntmps61;go_wp2_with fail;refine (dU_ _).mono ?_;rintro e w' ⟨rfl,rfl⟩;go_wp2_with fail;refine (d6_ _).mono ?_;rintro e w' ⟨rfl,rfl⟩;go_wp2;refine⟨rfl,?_⟩;rw[E.out];exact⟨HB2.out _ _,rfl⟩
def dk_ (S:Nat→Prop)(w:World)(v:Value)(g:List Giv):Prop :=
 ∃ a cap,v=.slice a g.length cap∧g.length≤4000∧∀ i (h:i<g.length),∃ b off a1 c1 a2 c2,a=some ⟨b,off,none⟩∧S b∧w.cell? ⟨b,off+i*9,none⟩=some (.string g[i].nm) ∧
  iS_ w b (off+i*9+1) (.int .i64 g[i].l.kind) (.string g[i].l.name) (.int .i64 g[i].l.n) (.slice a1 g[i].l.args.length c1)∧ac_ S w (.slice a1 g[i].l.args.length c1) g[i].l.args ∧
  iS_ w b (off+i*9+5) (.int .i64 g[i].r.kind) (.string g[i].r.name) (.int .i64 g[i].r.n) (.slice a2 g[i].r.args.length c2)∧ac_ S w (.slice a2 g[i].r.args.length c2) g[i].r.args
theorem dk_.keep {S:Nat→Prop}{A B:World}(h:∀ b,S b→B.heap[b]? = A.heap[b]?){v:Value}{g:List Giv}(H:dk_ S A v g):dk_ S B v g:=by
 obtain⟨a,cap,e,hl,hc⟩:=H;refine⟨a,cap,e,hl,fun i hi=>?_⟩;obtain⟨b,off,a1,c1,a2,c2,e1,hb,k0,f1,r1,f2,r2⟩:=hc i hi;exact⟨b,off,a1,c1,a2,c2,e1,hb,(World.cell?_of_block (h b hb)).trans k0,f1.keep (h b hb),r1.keep h,f2.keep (h b hb),r2.keep h⟩
theorem dk_.mono {S S':Nat→Prop}(hS:∀ b,S b→S' b){A:World}{v:Value}{g:List Giv}(H:dk_ S A v g):dk_ S' A v g:=by
 obtain⟨a,cap,e,hl,hc⟩:=H;refine⟨a,cap,e,hl,fun i hi=>?_⟩;obtain⟨b,off,a1,c1,a2,c2,e1,hb,k0,f1,r1,f2,r2⟩:=hc i hi;exact⟨b,off,a1,c1,a2,c2,e1,hS b hb,k0,f1,r1.mono hS,f2,r2.mono hS⟩
theorem dk_.low {w w':World}{v:Value}{g:List Giv}(H:dk_ (Lt w.heap.size) w v g)(h:Below w.heap.size w w'):dk_ (Lt w'.heap.size) w' v g :=
 (H.keep fun b hb=>h.block b hb).mono fun _ hb=>aX_ hb h.size
def jM_ (S:Nat→Prop)(lo:Nat)(w:World)(v1 v2:Value)(b:Nat):Prop:=(S b∨lo≤b∧b<w.heap.size)∧v1.ownBlock≠some b∧v2.ownBlock≠some b
structure mB_ (S:Nat→Prop)(lo:Nat)(w:World)(v:Value)(ts:List Ty)(svs:List Value):Prop where
 own:w.ownsRow lo 30 4 v ts.length (bQ_ ts svs)
 len:svs.length=ts.length
 at_:∀ (j:Nat) (t:Ty) (sv:Value),ts[j]? = some t→svs[j]? = some sv→ac_ S w sv t.args
theorem mB_.nil (S:Nat→Prop)(lo:Nat)(w:World):mB_ S lo w (.slice none 0 0) [] []:=⟨World.ownsRow_nil _ _ _ _,rfl,by simp⟩
theorem mB_.keep {S S':Nat→Prop}{lo:Nat}{w w':World}{v:Value}{ts:List Ty}{svs:List Value}(h:mB_ S lo w v ts svs)(ho:∀ b,v.ownBlock=some b→w'.heap[b]? = w.heap[b]?)(hk:∀ b,S b→w'.heap[b]? = w.heap[b]?)(hS:∀ b,S b→S' b):mB_ S' lo w' v ts svs :=
 ⟨aF_ h.own ho,h.len,fun j t sv h1 h2=>((h.at_ j t sv h1 h2).keep hk).mono hS⟩
theorem mB_.add {S:Nat→Prop}{lo:Nat}{w w':World}{v v' sv:Value}{ts:List Ty}{svs:List Value}{t:Ty}(h:mB_ S lo w v ts svs)(hx:ac_ S w sv t.args)(hk:∀ b,S b→w'.heap[b]? = w.heap[b]?)
  (ho:w'.ownsRow lo 30 4 v' (ts.length+1) (bQ_ ts svs++dy_ t sv)):mB_ S lo w' v' (ts++[t]) (svs++[sv]):=by
 refine⟨by rw[eu_ _ _ _ _ h.len,List.length_append];exact ho,by simp[h.len],fun j u y h1 h2=>?_⟩
 rcases Nat.lt_or_ge j ts.length with hlt|hge
 ·rw[List.getElem?_append_left hlt] at h1
  rw[List.getElem?_append_left (by rw[h.len];exact hlt)] at h2;exact (h.at_ j u y h1 h2).keep hk
 ·have hj:j=ts.length:=by
   have:=(List.getElem?_eq_some_iff.1 h1).1;simp at this;omega
  subst hj;rw[List.getElem?_append_right (aw_ _)] at h1;rw[← h.len,List.getElem?_append_right (aw_ _)] at h2;simp at h1 h2;subst h1 h2;exact hx.keep hk
theorem mB_.args {S S':Nat→Prop}{lo:Nat}{w:World}{v:Value}{ts:List Ty}{svs:List Value}(h:mB_ S lo w v ts svs)(hl:ts.length≤4000)(hS:∀ b,S b→S' b)(hS':∀ b,lo≤b→b<w.heap.size→S' b):ac_ S' w v ts:=by
 rcases h.own.2 with ⟨rfl,h0⟩|⟨g,cap,cur,rfl,hb,hg,h1,h2,h3,h4⟩
 ·have:ts=[]:=List.eq_nil_of_length_eq_zero h0
  subst this;exact .nil _ _
 ·refine .mk g 0 cap ts (fun i=>svs.getD i (.slice none 0 0)) (hS' g hb (Array.getElem?_eq_some_iff.1 hg).1) (by omega) (fun i hi=>?_) (fun i hi=>?_)
  ·have hi':i<svs.length:=by rw[h.len];exact hi
   obtain⟨a0,a1,a2,a3⟩:=eK_ ts svs h.len i hi hi';have hc:=h.own.cells (g:=g) rfl;have hadd:∀ j,(⟨g,0,none⟩:Addr).add j=⟨g,j,none⟩:=fun j=>by unfold Addr.add;split<;>simp_all
   have b0:=hc _ _ a0;have b1:=hc _ _ a1;have b2:=hc _ _ a2;have b3:=hc _ _ a3;rw[hadd] at b0 b1 b2 b3;simp only[Nat.zero_add];rw[List.getD_eq_getElem?_getD,List.getElem?_eq_getElem hi'];exact⟨b0,b1,b2,b3⟩
  ·have hi':i<svs.length:=by rw[h.len];exact hi
   simp only[List.getD_eq_getElem?_getD,List.getElem?_eq_getElem hi',Option.getD_some];exact (h.at_ i _ _ (List.getElem?_eq_getElem hi) (List.getElem?_eq_getElem hi')).mono hS
structure Two (S:Nat→Prop)(lo:Nat)(w:World)(v1 v2:Value)(xs ys:List Ty)(sx sy:List Value):Prop where
 one:mB_ (jM_ S lo w v1 v2) lo w v1 xs sx
 two:mB_ (jM_ S lo w v1 v2) lo w v2 ys sy
 ne:∀ b,v1.ownBlock=some b→v2.ownBlock≠some b
 lt:∀ b,S b→b<lo
 le:lo≤w.heap.size
section
variable {S : Nat → Prop} {lo : Nat} {w w' : World} {v1 v2 v' sv : Value} {xs ys : List Ty} {sx sy : List Value} {t : Ty}
theorem Two.nil (h1:∀ b,S b→b<lo)(h2:lo≤w.heap.size):Two S lo w (.slice none 0 0) (.slice none 0 0) [] [] [] []:=⟨.nil _ _ _,.nil _ _ _,(fun _ h=>by cases h),h1,h2⟩
theorem Two.off (h:Two S lo w v1 v2 xs ys sx sy){b:Nat}(hb:jM_ S lo w v1 v2 b):b<w.heap.size:=by
 rcases hb.1 with h'|h'
 ·have:=h.lt b h';have:=h.le;omega
 ·exact h'.2
theorem Two.low (h:Two S lo w v1 v2 xs ys sx sy)(hb:Below w.heap.size w w'):Two S lo w' v1 v2 xs ys sx sy:=by
 have k:∀ b,jM_ S lo w v1 v2 b→jM_ S lo w' v1 v2 b:=fun b h=>⟨h.1.imp id fun h=>⟨h.1,aX_ h.2 hb.size⟩,h.2⟩;exact⟨h.one.keep (fun b e=>hb.block b (h.one.own.lt b e).2) (fun b hb'=>hb.block b (h.off hb')) k,h.two.keep (fun b e=>hb.block b (h.two.own.lt b e).2) (fun b hb'=>hb.block b (h.off hb')) k,h.ne,h.lt,bm_ h.le hb.size⟩
theorem Two.add1 (h:Two S lo w v1 v2 xs ys sx sy)(hx:ac_ (jM_ S lo w v1 v2) w sv t.args)(hg:w.grownBy w' v1.ownBlock)
  (ho:w'.ownsRow lo 30 4 v' (xs.length+1) (bQ_ xs sx++dy_ t sv)) (hat:∀ b,v'.ownBlock=some b→v1.ownBlock=some b∨w.heap.size≤b):Two S lo w' v' v2 (xs++[t]) ys (sx++[sv]) sy:=by
 have hk:∀ b,jM_ S lo w v1 v2 b→w'.heap[b]? = w.heap[b]? := fun b hb=>hg.block b (h.off hb) (Ne.symm hb.2.1);have k:∀ b,jM_ S lo w v1 v2 b→jM_ S lo w' v' v2 b:=fun b hb=>⟨hb.1.imp id fun h=>⟨h.1,aX_ h.2 hg.size⟩,fun e=>by
  rcases hat b e with e|e
  ·exact hb.2.1 e
  ·have:=h.off hb;omega,hb.2.2⟩
 have h1:=h.one.add hx hk ho;refine⟨⟨h1.own,h1.len,fun j t sv e1 e2=>(h1.at_ j t sv e1 e2).mono k⟩,h.two.keep (fun b e=>hg.block b (h.two.own.lt b e).2 (fun e'=>h.ne b e'.symm e)) hk k,(fun b e e2=>?_),h.lt,bm_ h.le hg.size⟩
 rcases hat b e with e|e
 ·exact h.ne b e e2
 ·have:=(h.two.own.lt b e2).2;omega
theorem Two.turn (h:Two S lo w v1 v2 xs ys sx sy):Two S lo w v2 v1 ys xs sy sx:=by
 have k:∀ b,jM_ S lo w v1 v2 b→jM_ S lo w v2 v1 b:=fun b h=>⟨h.1,h.2.2,h.2.1⟩;exact⟨h.two.keep (fun _ _=>rfl) (fun _ _=>rfl) k,h.one.keep (fun _ _=>rfl) (fun _ _=>rfl) k,(fun b e e2=>h.ne b e2 e),h.lt,h.le⟩
theorem Two.new {W3:World}(h:Two S lo W3 v1 v2 xs ys sx sy){y:Value}{ts:List Ty}(hA:ac_ (New S W3 w) w y ts):ac_ (jM_ S lo w v1 v2) w y ts :=
 hA.mono fun b hb'=>by
  have n1:v1.ownBlock≠some b:=fun e=>by
   have:=h.one.own.lt b e
   rcases hb' with h'|h'
   ·have:=h.lt b h';omega
   ·omega
  have n2:v2.ownBlock≠some b:=fun e=>by
   have:=h.two.own.lt b e
   rcases hb' with h'|h'
   ·have:=h.lt b h';omega
   ·omega
  exact⟨hb'.imp id fun h'=>⟨by have:=h.le;omega,h'.2⟩,n1,n2⟩
theorem Two.keepA (h:Two S lo w v1 v2 xs ys sx sy){y:Value}{ts:List Ty}(hA:ac_ (jM_ S lo w v1 v2) w y ts)(hb:Below w.heap.size w w'):ac_ (jM_ S lo w' v1 v2) w' y ts :=
 (hA.keep fun b hb'=>hb.block b (h.off hb')).mono fun _ h=>⟨h.1.imp id fun h=>⟨h.1,aX_ h.2 hb.size⟩,h.2⟩
theorem Two.growA (h:Two S lo w v1 v2 xs ys sx sy){y:Value}{ts:List Ty}(hA:ac_ (jM_ S lo w v1 v2) w y ts)(hg:w.grownBy w' v1.ownBlock)(hat:∀ b,v'.ownBlock=some b→v1.ownBlock=some b∨w.heap.size≤b):ac_ (jM_ S lo w' v' v2) w' y ts :=
 (hA.keep fun b hb=>hg.block b (h.off hb) (Ne.symm hb.2.1)).mono fun b hb=>⟨hb.1.imp id fun h=>⟨h.1,aX_ h.2 hg.size⟩,(fun e=>by
  rcases hat b e with e|e
  ·exact hb.2.1 e
  ·have:=h.off hb;omega),hb.2.2⟩
end
theorem aJ_ {P:Program}{ops:Array Oper}{o:Oper}{a:Act}{w:World}{K:Act→World→Prop}{Q:Exit→Act→World→Prop}{E:Prop}(hgd:o.guard=none)(s x:Operand)(t:TypeId)
  (ho:o.op=.call { callee:=.builtin .append,args:=#[s,x],argTypes:=#[t,t] }) {v vx:Value} (hs:a.eval s=v) (hx:a.eval x=vx) {R:Value→World→Prop}
  (hrun:∃ v' w',(Builtin.append_ #[t,t] o.type #[v,vx]).run P w=.ok v' w'∧R v' w') (h:∀ v' w',R v' w'→K (a.put o.dst v') w') :
  if Region.wanted o (yielded ops a.tmps)=true then Oper.wp P o a w K Q else E:=by
 have hw:Region.wanted o (yielded ops a.tmps)=true:=by simp[Region.wanted,hgd]
 rw[if_pos hw];obtain⟨v',w',hr,hR⟩:=hrun;unfold Oper.wp execOp;simp only[ho,resolve,invoke,builtin,Sem.run_bind,Sem.run_pure,Result.andThen_ok,List.map_toArray,List.map_cons,List.map_nil,hs,hx,hr];exact h v' w' hR
theorem Two.app {S:Nat→Prop}{lo:Nat}{w:World}{v1 v2:Value}{xs ys:List Ty}{sx sy:List Value}(h:Two S lo w v1 v2 xs ys sx sy)(ty:TypeId){g:Nat}{t:Ty}{a:OA_}{c:Nat}
  (hg:w.heap[g]? = some (.cells #[.int .i64 t.kind,.string t.name,.int .i64 t.n,.slice a t.args.length c] 30 (0,0))) (hA:ac_ (jM_ S lo w v1 v2) w (.slice a t.args.length c) t.args) (hl:xs.length≤4000) :
  ∃ v' w',(Builtin.append_ #[28,28] ty #[v1,.slice (some ⟨g,0,none⟩) 1 1]).run Tryz.prog w=.ok v' w'∧Two S lo w' v' v2 (xs++[t]) ys (sx++[.slice a t.args.length c]) sy∧w.grownBy w' v1.ownBlock∧∀ b,v'.ownBlock=some b→v1.ownBlock=some b∨w.heap.size≤b:=by
 obtain⟨i0,hi0,hz0,hz1,hz3⟩:=info_parts hY_;obtain⟨g',cap,w',hr,ho,hgr,hat,_⟩:=run_append_lies (P:=Tryz.prog) (w:=w) 28 ty lo 30 i0 _ 4 56 Tryz.underlying28 hi0 hz0 hz1 hz3 rfl (by omega) v1 xs.length (bQ_ xs sx) h.one.own ⟨g,0,none⟩ 1 1
  (dy_ t (.slice a t.args.length c)) rfl (World.news_of_block (cs:=#[.int .i64 t.kind,.string t.name,.int .i64 t.n,.slice a t.args.length c]) (t:=30) (fr:=(0,0)) hg) (by simp[dy_,Value.oneCell']) (by omega) (by unfold maxLen;omega) (by omega) h.le w.heap.size rfl
 have hat':∀ b,(Value.slice (some ⟨g',0,none⟩) (xs.length+1) cap).ownBlock=some b→v1.ownBlock=some b∨w.heap.size≤b:=fun b e=>by
  have e2:g'=b:=by simpa [Value.ownBlock] using e
  rcases hat with e3|e3
  ·exact .inl (by rw[e3,e2])
  ·right;omega
 exact⟨_,w',hr,h.add1 hA hgr ho hat',hgr,hat'⟩
def qg_ (S:Nat→Prop)(w:World)(r:Option (List Ty × List Ty))(e:Ending)(w':World):Prop:=Below w.heap.size w w'∧match r with
 | none=>e=.panicked bV_
 | some p=>∃ a c b d,e=.returned (.tuple #[.slice a p.1.length c,.slice b p.2.length d])∧ac_ (New S w w') w' (.slice a p.1.length c) p.1∧ac_ (New S w w') w' (.slice b p.2.length d) p.2
theorem i9_ (f:Co→Option (Ty × Ty))(a:List Co)(c:Co):bs_ f (a++[c])=match bs_ f a with
  | none=>none
  | some p=>match f c with
   | none=>none
   | some q=>some (p.1++[q.1],p.2++[q.2]):=by
 induction a with
 | nil =>
  rw[List.nil_append,bs_,bs_,bs_];cases f c<;>rfl
 | cons x xs ih =>
  rw[List.cons_append,bs_,bs_,ih];cases f x with
  | none=>rfl
  | some p =>
   cases bs_ f xs with
   | none=>rfl
   | some q=>cases f c<;>rfl
theorem lM_ {f:Co→Option (Ty × Ty)}(ks:List Co)(i:Nat)(h:i<ks.length):bs_ f (ks.take (i+1))=match bs_ f (ks.take i) with
  | none=>none
  | some p=>match f ks[i] with
   | none=>none
   | some q=>some (p.1++[q.1],p.2++[q.2]):=by
 rw[List.take_add_one,List.getElem?_eq_getElem h];exact i9_ f _ _
theorem lN_ {f:Co→Option (Ty × Ty)}{ks:List Co}{a:Co}(h:a∈ks)(e:f a=none):bs_ f ks=none:=by
 induction ks with
 | nil=>cases h
 | cons c cs ih =>
  rw[bs_]
  rcases List.mem_cons.1 h with rfl|h
  ·rw[e]
  ·rw[ih h];cases f c<;>rfl
theorem dH_ {f:Co→Option (Ty × Ty)} : ∀ {ks:List Co} {p:List Ty × List Ty},bs_ f ks=some p→p.1.length=ks.length∧p.2.length=ks.length:=by
 intro ks
 induction ks with
 | nil=>intro p h;injection h with h;subst h;exact⟨rfl,rfl⟩
 | cons c cs ih =>
  intro p h;rw[bs_] at h
  split at h
  ·cases h
  ·split at h
   ·cases h
   ·next q hq =>
    injection h with h
    subst h;obtain⟨h1,h2⟩:=ih hq;exact⟨by simp[h1],by simp[h2]⟩
abbrev st8 (W:World) (R o:Nat) (u0 u1 u2 u3 u4 u5 u6 u7:Value):World :=
 (((((((W.setCell ⟨R,o,none⟩ u0).setCell ⟨R,o+1,none⟩ u1).setCell ⟨R,o+2,none⟩ u2).setCell ⟨R,o+3,none⟩ u3).setCell ⟨R,o+4,none⟩ u4).setCell ⟨R,o+5,none⟩ u5).setCell ⟨R,o+6,none⟩ u6).setCell ⟨R,o+7,none⟩ u7
abbrev st80 (W:World) (R:Nat) (u0 u1 u2 u3 u4 u5 u6 u7:Value):World :=
 (((((((W.setCell ⟨R,0,none⟩ u0).setCell ⟨R,1,none⟩ u1).setCell ⟨R,2,none⟩ u2).setCell ⟨R,3,none⟩ u3).setCell ⟨R,4,none⟩ u4).setCell ⟨R,5,none⟩ u5).setCell ⟨R,6,none⟩ u6).setCell ⟨R,7,none⟩ u7
section
variable (W : World) (R o : Nat) (u0 u1 u2 u3 u4 u5 u6 u7 : Value)
theorem oR_:(st8 W R o u0 u1 u2 u3 u4 u5 u6 u7).heap.size=W.heap.size:=by simp
theorem gK_ {b:Nat}(hb:b≠R):(st8 W R o u0 u1 u2 u3 u4 u5 u6 u7).heap[b]? = W.heap[b]? := by
 unfold st8;rw[aM_ _ _ _ _ hb,aM_ _ _ _ _ hb,aM_ _ _ _ _ hb,aM_ _ _ _ _ hb,aM_ _ _ _ _ hb,aM_ _ _ _ _ hb,aM_ _ _ _ _ hb,aM_ _ _ _ _ hb]
theorem dE_ {m:Nat}{w:World}(h:Below m w W)(hR:m≤R):Below m w (st8 W R o u0 u1 u2 u3 u4 u5 u6 u7) :=
 (((((((h.setCell (p:=⟨R,o,none⟩) hR u0).setCell (p:=⟨R,o+1,none⟩) hR u1).setCell (p:=⟨R,o+2,none⟩) hR u2).setCell (p:=⟨R,o+3,none⟩) hR u3).setCell (p:=⟨R,o+4,none⟩) hR u4).setCell (p:=⟨R,o+5,none⟩) hR u5).setCell (p:=⟨R,o+6,none⟩) hR u6).setCell (p:=⟨R,o+7,none⟩) hR u7
theorem im_:st80 W R u0 u1 u2 u3 u4 u5 u6 u7=st8 W R 0 u0 u1 u2 u3 u4 u5 u6 u7:=rfl
theorem B8.set80 {x0 x1 x2 x3 x4 x5 x6 x7:Value}(h:B8 W R x0 x1 x2 x3 x4 x5 x6 x7):B8 (st80 W R u0 u1 u2 u3 u4 u5 u6 u7) R u0 u1 u2 u3 u4 u5 u6 u7:=by
 unfold B8 at *;unfold st80;rw[ak_ (ak_ (ak_ (ak_ (ak_ (ak_ (ak_ (ak_ h u0) u1) u2) u3) u4) u5) u6) u7];simp
end
def fN_ (W:World)(R n:Nat)(ys:List Co)(ps:List (Value × Value)):Prop :=
 ps.length=ys.length∧∃ cur,W.heap[R]? = some (.cells cur 33 (0,0))∧cur.size=n*8∧cur.toList.take (ys.length*8)=dO_ ys ps
theorem fN_.lt {W:World}{R n:Nat}{ys:List Co}{ps:List (Value × Value)}(h:fN_ W R n ys ps):R<W.heap.size:=by
 obtain⟨_,cur,h1,_⟩:=h;exact (Array.getElem?_eq_some_iff.1 h1).1
theorem fN_.keep {W W':World}{R n:Nat}{ys:List Co}{ps:List (Value × Value)}(h:fN_ W R n ys ps)(hb:W'.heap[R]? = W.heap[R]?):fN_ W' R n ys ps:=by
 obtain⟨h0,cur,h1,h2⟩:=h;exact⟨h0,cur,hb.trans h1,h2⟩
theorem fN_.cell {W:World}{R n:Nat}{ys:List Co}{ps:List (Value × Value)}(h:fN_ W R n ys ps)(o:Nat)(ho:o<n*8):∃ v,W.cell? ⟨R,o,none⟩=some v:=by
 obtain⟨_,cur,h1,h2,_⟩:=h;exact⟨cur[o],by rw[cell_of_row W R o cur _ (0,0) h1];exact Array.getElem?_eq_getElem (by omega)⟩
theorem fN_.fr {W:World}{R n:Nat}{ys:List Co}{ps:List (Value × Value)}(h:fN_ W R n ys ps)(o:Nat):W.frozen? ⟨R,o,none⟩=false:=by
 obtain⟨_,cur,h1,_⟩:=h;simp[World.frozen?,h1]
theorem take8 (l:List Value)(k:Nat)(h:k*8+8≤l.length)(a b c d e f g i:Value) :
  ((((((((l.set (k*8) a).set (k*8+1) b).set (k*8+2) c).set (k*8+3) d).set (k*8+4) e).set (k*8+5) f).set (k*8+6) g).set (k*8+7) i).take ((k+1)*8)=l.take (k*8)++[a,b,c,d,e,f,g,i]:=by
 apply List.ext_getElem?;intro j;rw[List.getElem?_take,List.getElem?_append,List.getElem?_take];have hl:(l.take (k*8)).length=k*8:=by rw[List.length_take];omega
 rw[hl]
 by_cases h1:j<k*8
 ·rw[if_pos (by omega),if_pos h1,if_pos h1,List.getElem?_set_ne (by omega),List.getElem?_set_ne (by omega),List.getElem?_set_ne (by omega),List.getElem?_set_ne (by omega),List.getElem?_set_ne (by omega),List.getElem?_set_ne (by omega),List.getElem?_set_ne (by omega),List.getElem?_set_ne (by omega)]
 ·rw[if_neg h1]
  by_cases h2:j<(k+1)*8
  ·rw[if_pos h2]
   obtain⟨m,rfl⟩:∃ m,j=k*8+m:=⟨j - k*8,by omega⟩;have hm:m<8:=(by omega);rw[Nat.add_sub_cancel_left]
   match m,hm with
   | 0,_=>simp[show k*8<l.length by omega]
   | 1,_=>simp[show k*8+1<l.length by omega]
   | 2,_=>simp[show k*8+2<l.length by omega]
   | 3,_=>simp[show k*8+3<l.length by omega]
   | 4,_=>simp[show k*8+4<l.length by omega]
   | 5,_=>simp[show k*8+5<l.length by omega]
   | 6,_=>simp[show k*8+6<l.length by omega]
   | 7,_=>simp[show k*8+7<l.length by omega]
  ·rw[if_neg h2,List.getElem?_eq_none (by simp;omega)]
theorem fN_.put {W:World}{R n i:Nat}{ys:List Co}{ps:List (Value × Value)}(h:fN_ W R n ys ps)(hi:ys.length=i)(hn:i<n)(y:Co)(p:Value × Value) :
  fN_ (st8 W R (i*8) (.int .i64 y.kind) (.string y.name) (.int .i64 y.n) (.int .i64 y.t.kind) (.string y.t.name) (.int .i64 y.t.n) p.1 p.2) R n (ys++[y]) (ps++[p]):=by
 subst hi;obtain⟨h0,cur,h1,h2,h3⟩:=h;refine⟨by simp[h0],_,ak_ (ak_ (ak_ (ak_ (ak_ (ak_ (ak_ (ak_ h1 _) _) _) _) _) _) _) _,by simpa using h2,?_⟩;rw[List.length_append,List.length_singleton,fp_ _ _ _ _ h0,← h3];simp only[Array.toList_setIfInBounds];exact take8 _ _ (by rw[Array.length_toList];show ys.length*8+8≤cur.size;omega) _ _ _ _ _ _ _ _
theorem fN_.args {S:Nat→Prop}{W:World}{R n:Nat}{ys:List Co}{ps:List (Value × Value)}(h:fN_ W R n ys ps)(hn:ys.length=n)(hl:n≤9223372036854775807)(hR:S R)
  (ha:∀ (j:Nat) (y:Co) (p:Value × Value),ys[j]? = some y→ps[j]? = some p→ac_ S W p.1 y.t.args∧bu_ S W p.2 y.kids):bu_ S W (.slice (some ⟨R,0,none⟩) ys.length n) ys:=by
 obtain⟨h0,cur,h1,h2,h3⟩:=h;refine .mk R 0 n ys (fun i=>(ps.getD i (.slice none 0 0,.slice none 0 0)).1) (fun i=>(ps.getD i (.slice none 0 0,.slice none 0 0)).2) hR (by omega) (fun i hi=>?_) (fun i hi=>?_) (fun i hi=>?_)
 ·have hi':i<ps.length:=by rw[h0];exact hi
  have q:∀ j u,j<8→(ga_ ys[i] ps[i])[j]? = some u→W.cell? ⟨R,0+i*8+j,none⟩=some u:=fun j u hj hu=>by
   have hv:(cur.toList.take (ys.length*8))[i*8+j]? = some u:=by rw[h3,fL_ ys ps h0 i hi hi' j hj];exact hu
   rw[Nat.zero_add,cell_of_row W R _ cur _ (0,0) h1];rw[List.getElem?_take] at hv
   split at hv
   ·simpa using hv
   ·cases hv
  simp only[List.getD_eq_getElem?_getD,List.getElem?_eq_getElem hi',Option.getD_some];exact⟨q 0 _ (by omega) rfl,q 1 _ (by omega) rfl,q 2 _ (by omega) rfl,q 3 _ (by omega) rfl,q 4 _ (by omega) rfl,q 5 _ (by omega) rfl,q 6 _ (by omega) rfl,q 7 _ (by omega) rfl⟩
 ·have hi':i<ps.length:=by rw[h0];exact hi
  simp only[List.getD_eq_getElem?_getD,List.getElem?_eq_getElem hi',Option.getD_some];exact (ha i _ _ (List.getElem?_eq_getElem hi) (List.getElem?_eq_getElem hi')).1
 ·have hi':i<ps.length:=by rw[h0];exact hi
  simp only[List.getD_eq_getElem?_getD,List.getElem?_eq_getElem hi',Option.getD_some];exact (ha i _ _ (List.getElem?_eq_getElem hi) (List.getElem?_eq_getElem hi')).2
theorem fC_ (n:Nat)(hn:n≤4000):∃ M:Array Value,M.size=n*8∧∀ W:World,(Instr.makeSlice 31 (.int .i64 (n:Int)) (.int .i64 (n:Int))).run Tryz.prog W=.ok (.slice (some ⟨W.heap.size,0,none⟩) n n) (W.alloc (.cells M 33)):=by
 obtain⟨i0,hi0,hz0,hz1,hz3⟩:=info_parts qB_;refine⟨madeCells (Value.cells (.agg #[.int .i64 0,.string ByteArray.empty,.int .i64 0,.int .i64 0,.string ByteArray.empty,.int .i64 0,.slice none 0 0,.slice none 0 0])) (n*8),size_madeCells _ _,fun W=>?_⟩;have:=run_make (P:=Tryz.prog) W 31 33 i0 _ Tryz.underlying31 hi0 hz0 .i64 .i64 (n:Int) (n:Int) (by omega) (Int.le_refl _) (by rw[hz3];omega) (by omega);rw[hz1] at this;simpa using this
theorem fN_.new {W:World}{M:Array Value}{n R:Nat}(hM:M.size=n*8)(hR:W.heap.size=R):fN_ (W.alloc (.cells M 33)) R n [] [] :=
 ⟨rfl,M,by subst hR;exact heap_alloc_new W _,hM,by simp[dO_]⟩
def iQ_ (S:Nat→Prop)(R:Nat)(W:World)(ys:List Co)(ps:List (Value × Value)):Prop :=
 ∀ (j:Nat) (y:Co) (p:Value × Value),ys[j]? = some y→ps[j]? = some p→ac_ (fun b=>S b∨R+1≤b∧b<W.heap.size) W p.1 y.t.args∧bu_ (fun b=>S b∨R+1≤b∧b<W.heap.size) W p.2 y.kids
theorem iQ_.step {S:Nat→Prop}{R:Nat}{W W':World}{ys:List Co}{ps:List (Value × Value)}{y:Co}{p:Value × Value}(h:iQ_ S R W ys ps)(hl:ps.length=ys.length)(hS:∀ b,S b→b<R)(hR:R<W.heap.size)(hb:Below W.heap.size W W')
  (h1:ac_ (New S W W') W' p.1 y.t.args) (h2:bu_ (New S W W') W' p.2 y.kids) (o:Nat) (u0 u1 u2 u3 u4 u5 u6 u7:Value):iQ_ S R (st8 W' R o u0 u1 u2 u3 u4 u5 u6 u7) (ys++[y]) (ps++[p]):=by
 have hsz:=oR_ W' R o u0 u1 u2 u3 u4 u5 u6 u7;have off:=@gK_ W' R o u0 u1 u2 u3 u4 u5 u6 u7;have hbs:=hb.size;generalize st8 W' R o u0 u1 u2 u3 u4 u5 u6 u7=W2 at *;intro j yy pp e1 e2
 rcases Nat.lt_or_ge j ys.length with hj|hj
 ·rw[List.getElem?_append_left hj] at e1
  rw[List.getElem?_append_left (by omega)] at e2;have k1:∀ b,(S b∨R+1≤b∧b<W.heap.size)→W2.heap[b]? = W.heap[b]? := fun b hb'=>by
   have:b<W.heap.size∧b≠R:=by
    rcases hb' with h'|h'
    ·have:=hS b h';omega
    ·omega
   rw[off this.2,hb.block b this.1]
  have k2:∀ b,(S b∨R+1≤b∧b<W.heap.size)→(S b∨R+1≤b∧b<W2.heap.size):=fun b hb'=>hb'.imp id fun h'=>⟨h'.1,by omega⟩;exact⟨((h j yy pp e1 e2).1.keep k1).mono k2,((h j yy pp e1 e2).2.keep k1).mono k2⟩
 ·have hj2:j=ys.length:=by
   have:=(List.getElem?_eq_some_iff.1 e1).1;simp at this;omega
  subst hj2;rw[List.getElem?_append_right (aw_ _),Nat.sub_self] at e1;rw[List.getElem?_append_right (by omega),hl,Nat.sub_self] at e2;simp only[List.getElem?_cons_zero,Option.some.injEq] at e1 e2;subst e1 e2;have k1:∀ b,New S W W' b→W2.heap[b]? = W'.heap[b]? := fun b hb'=>off (by
   rcases hb' with h'|h'
   ·have:=hS b h';omega
   ·omega)
  have k2:∀ b,New S W W' b→(S b∨R+1≤b∧b<W2.heap.size):=fun b hb'=>hb'.imp id fun h'=>⟨by omega,by omega⟩;exact⟨(h1.keep k1).mono k2,(h2.keep k1).mono k2⟩
theorem jF_ (ks:List Co){a:Co}(h:a∈ks):aW_ a≤a3_ ks:=by
 induction ks with
 | nil=>cases h
 | cons c cs ih =>
  rw[a3_]
  rcases List.mem_cons.1 h with rfl|h
  ·omega
  ·have:=ih h;omega
theorem ok_:∀ (c:Co) (S:Nat→Prop) (a:OA_) (n:Nat) (ka:OA_) (kn:Nat) (w:World),bS_ S w c a n ka kn→(∀ b,S b→b<w.heap.size)→aW_ c≤100000 →
  Calls Tryz.prog 90 #[cv c a n ka kn] w (kA_ w (aW_ c:Nat)):=by
 intro c
 induction c using Co.ind with
 | h c ih =>
  intro S a n ka kn w hC hn hd;have DE:Hid (aW_ c=a3_ c.kids+(if c.kind=7 then 1 else 0)∧aW_ c≤100000):=hid ⟨dP_ c,hd⟩;have IH:=hid ih;have HC:=hid hC;have HN:=hid hn;have hz:=ao_ w (.cells #[.int .i64 c.kind,.string c.name,.int .i64 c.n,.int .i64 c.t.kind,.string c.t.name,.int .i64 c.t.n,.slice a c.t.args.length n,.slice ka c.kids.length kn] 33);have KB:=hid (B8.new w (.int .i64 c.kind) (.string c.name) (.int .i64 c.n) (.int .i64 c.t.kind) (.string c.t.name) (.int .i64 c.t.n) (.slice a c.t.args.length n) (.slice ka c.kids.length kn));have hkl:c.kids.length≤9223372036854775807:=by obtain⟨_,_,_,h⟩:=hC.k.form;exact h
  have B0:=hid hz;clear ih hC hn hd hz;unfold cv;go_enter Tryz.func90,Tryz.ntmps90;go_wp2
  go_loopw [3,9] (fun mv iv wr=>∃ i:Nat,iv=.int .i64 i∧i≤c.kids.length∧mv=.int .i64 (a3_ (c.kids.take i):Nat)∧Below (w.alloc (.cells #[.int .i64 c.kind,.string c.name,.int .i64 c.n,.int .i64 c.t.kind,.string c.t.name,.int .i64 c.t.n,.slice a c.t.args.length n,.slice ka c.kids.length kn] 33)).heap.size (w.alloc (.cells #[.int .i64 c.kind,.string c.name,.int .i64 c.n,.int .i64 c.t.kind,.string c.t.name,.int .i64 c.t.n,.slice a c.t.args.length n,.slice ka c.kids.length kn] 33)) wr) (fun _ iv _=>c.kids.length - (intOf iv).toNat)
  case atStart=>exact⟨0,rfl,Nat.zero_le _,by simp[a3_],Below.refl _ _⟩
  case round =>
   obtain⟨i,rfl,hil,rfl,hB1⟩:=hrel;have hB:=B0.out.trans (hB1.mono B0.out.size);have HB1:=hid hB1;have z0:(0:Int)≤(i:Int):=(by omega);have BH:=hid hB
   by_cases hi:i<c.kids.length
   ·have z1:(i:Int)<(c.kids.length:Int):=by omega
    obtain⟨b,off,a1,n1,a2,n2,rfl,hb,hf,hs,hk⟩:=HC.out.k.at_ hi;have hn:=HN.out;obtain⟨f0,f1,f2,f3,f4,f5,f6,f7⟩:=hf.keep (hB.block b (hn b hb));have hm:=List.getElem_mem hi;have hbi:=jF_ _ hm;have CH:=hid (fun (W:World) (hb:Below w.heap.size w W)=>IH.out _ hm S a1 n1 a2 n2 W ⟨hs.keep fun b hS=>hb.block b (hn b hS),hk.keep fun b hS=>hb.block b (hn b hS)⟩ (fun b hS=>aX_ (hn b hS) hb.size) (by have:=DE.out;omega));have DT:=hid (hf_ _ _ hi);have hdl:a3_ (c.kids.take i)≤a3_ c.kids:=by
     conv=>rhs;rw[← List.take_append_drop i c.kids,ev_]
     omega
    have hd1:a3_ (c.kids.take i)≤100000:=(by have:=DE.out;omega);have hd2:aW_ c.kids[i]≤100000:=(by have:=DE.out;omega);have hsz:=hB.size;clear hf hs hk hB hB1 hm hbi hn hb hdl;unfold cv at CH;generalize c.kids[i]=x at *;generalize a3_ (c.kids.take i)=m at *;have em:(if m<aW_ x then (aW_ x:Int) else (m:Int))=((max m (aW_ x):Nat):Int):=by split<;>omega
    go_wp2_with fail;refine (CH.out _ (BH.out.alloc (by omega) _)).mono ?_;rintro e w4 ⟨rfl,B4⟩;have B5:=hid ((HB1.out.alloc (by have:=HB1.out.size;omega) (.cells #[.int .i64 x.kind,.string x.name,.int .i64 x.n,.int .i64 x.t.kind,.string x.t.name,.int .i64 x.t.n,.slice a1 x.t.args.length n1,.slice a2 x.kids.length n2] 33)).trans (B4.mono (by have:=HB1.out.size;simp at *;omega)));clear B4;go_wp2;go_roundw
    case rel=>exact⟨i+1,by go_num,by omega,by rw[DT.out];congr 1;omega,B5.out⟩
    case measure=>simp[intOf];omega
   ·obtain rfl:i=c.kids.length:=by omega
    have hd1:a3_ c.kids≤100000:=(by have:=DE.out;omega);have c0:=(KB.out.low hB1).c0;clear hB hB1;simp only[List.take_length]
    by_cases h7:c.kind=7
    ·have q:(c.kind==7)=true:=by rw[h7];rfl
     have E:=DE.out.1;rw[if_pos h7] at E;have EE:=hid E;clear h7 E;go_wp2;go_ret;exact⟨a9_ (by rw[EE.out];rfl),BH.out⟩
    ·have q:(c.kind==7)=false:=by rw[beq_eq_false_iff_ne];exact h7
     have E:=DE.out.1;rw[if_neg h7] at E;have EE:=hid E;clear h7 E;go_wp2;go_ret;exact⟨a9_ (by rw[EE.out];rfl),BH.out⟩
end Go.Proofs.YtkihnodkhnahiaaGreatDoor.Tp

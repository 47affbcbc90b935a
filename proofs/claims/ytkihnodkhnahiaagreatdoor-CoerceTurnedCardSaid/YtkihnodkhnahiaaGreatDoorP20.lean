/- Texts laid together: CoMem, CoDep, CoBi, Shelr, CoAp. -/
import Derived.Test.YtkihnodkhnahiaaGreatDoorP19
import Derived.Test.YtkihnodkhnahiaaGreatDoorP06
import Derived.Test.YtkihnodkhnahiaaGreatDoorP04
import Derived.Test.YtkihnodkhnahiaaGreatDoorPS
import Derived.Shelf.Strings.BuilderF
import Derived.Shelf.Strings.Repeat

namespace Go.Proofs.YtkihnodkhnahiaaGreatDoor.Tp
open Go.RowKit
open Lx
structure Eight (w:World)(b o:Nat)(u0 u1 u2 u3 u4 u5 u6 u7:Value):Prop where
 c0:w.cell? ⟨b,o,none⟩=some u0
 c1:w.cell? ⟨b,o+1,none⟩=some u1
 c2:w.cell? ⟨b,o+2,none⟩=some u2
 c3:w.cell? ⟨b,o+3,none⟩=some u3
 c4:w.cell? ⟨b,o+4,none⟩=some u4
 c5:w.cell? ⟨b,o+5,none⟩=some u5
 c6:w.cell? ⟨b,o+6,none⟩=some u6
 c7:w.cell? ⟨b,o+7,none⟩=some u7
theorem Eight.keep {A B:World}{b o:Nat}{u0 u1 u2 u3 u4 u5 u6 u7:Value}(hb:B.heap[b]? = A.heap[b]?)(f:Eight A b o u0 u1 u2 u3 u4 u5 u6 u7):Eight B b o u0 u1 u2 u3 u4 u5 u6 u7:=by
 have k:∀ o,B.cell? ⟨b,o,none⟩=A.cell? ⟨b,o,none⟩:=fun o=>World.cell?_of_block hb
 exact⟨(k _).trans f.c0,(k _).trans f.c1,(k _).trans f.c2,(k _).trans f.c3,(k _).trans f.c4,(k _).trans f.c5,(k _).trans f.c6,(k _).trans f.c7⟩
inductive KidsAt (S:Nat→Prop) (w:World):Value→List Co→Prop
 | nil (a:Option Addr) (cap:Nat):KidsAt S w (.slice a 0 cap) []
 | mk (b off cap:Nat) (cs:List Co) (tv kv:Nat→Value) (hb:S b) (hl:cs.length≤9223372036854775807)
   (hc:∀ i (h:i<cs.length),Eight w b (off+i*8) (.int .i64 cs[i].kind) (.string cs[i].name) (.int .i64 cs[i].n) (.int .i64 cs[i].t.kind) (.string cs[i].t.name) (.int .i64 cs[i].t.n) (tv i) (kv i))
   (ht:∀ i (h:i<cs.length),ArgsAt S w (tv i) cs[i].t.args)
   (hk:∀ i (h:i<cs.length),KidsAt S w (kv i) cs[i].kids):KidsAt S w (.slice (some ⟨b,off,none⟩) cs.length cap) cs
theorem KidsAt.keep {S:Nat→Prop}{A B:World}(h:∀ b,S b→B.heap[b]? = A.heap[b]?){v:Value}{cs:List Co}(ha:KidsAt S A v cs):KidsAt S B v cs:=by
 induction ha with
 | nil a cap=>exact .nil a cap
 | mk b off cap cs tv kv hb hl hc ht _ ih=>exact .mk b off cap cs tv kv hb hl (fun i hi=>(hc i hi).keep (h b hb)) (fun i hi=>(ht i hi).keep h) ih
theorem KidsAt.mono {S S':Nat→Prop}(hS:∀ b,S b→S' b){A:World}{v:Value}{cs:List Co}(ha:KidsAt S A v cs):KidsAt S' A v cs:=by
 induction ha with
 | nil a cap=>exact .nil a cap
 | mk b off cap cs tv kv hb hl hc ht _ ih=>exact .mk b off cap cs tv kv (hS b hb) hl hc (fun i hi=>(ht i hi).mono hS) ih
theorem KidsAt.form {S:Nat→Prop}{w:World}{v:Value}{cs:List Co}(h:KidsAt S w v cs):∃ a cap,v=.slice a cs.length cap∧cs.length≤9223372036854775807:=by
 cases h with
 | nil a cap=>exact⟨a,cap,rfl,by simp⟩
 | mk b off cap cs tv kv hb hl hc ht hk=>exact⟨_,cap,rfl,hl⟩
theorem KidsAt.at_ {S:Nat→Prop}{w:World}{a:Option Addr}{len cap:Nat}{cs:List Co}(h:KidsAt S w (.slice a len cap) cs){i:Nat}(hi:i<cs.length) :
  ∃ b off a1 n1 a2 n2,a=some ⟨b,off,none⟩∧S b∧Eight w b (off+i*8) (.int .i64 cs[i].kind) (.string cs[i].name) (.int .i64 cs[i].n) (.int .i64 cs[i].t.kind) (.string cs[i].t.name) (.int .i64 cs[i].t.n) (.slice a1 cs[i].t.args.length n1) (.slice a2 cs[i].kids.length n2) ∧
   ArgsAt S w (.slice a1 cs[i].t.args.length n1) cs[i].t.args∧KidsAt S w (.slice a2 cs[i].kids.length n2) cs[i].kids:=by
 cases h with
 | nil a cap=>simp at hi
 | mk b off cap cs tv kv hb hl hc ht hk =>
  obtain⟨a1,n1,e1,_⟩:=(ht i hi).form
  obtain⟨a2,n2,e2,_⟩:=(hk i hi).form
  have h1:=hc i hi
  have h2:=ht i hi
  have h3:=hk i hi
  rw[e1,e2] at h1
  rw[e1] at h2
  rw[e2] at h3
  exact⟨b,off,a1,n1,a2,n2,rfl,hb,h1,h2,h3⟩
def cv (c:Co)(a:Option Addr)(n:Nat)(ka:Option Addr)(kn:Nat):Value :=
 .agg #[.int .i64 c.kind,.string c.name,.int .i64 c.n,.int .i64 c.t.kind,.string c.t.name,.int .i64 c.t.n,.slice a c.t.args.length n,.slice ka c.kids.length kn]
structure CoAt (S:Nat→Prop)(w:World)(c:Co)(a:Option Addr)(n:Nat)(ka:Option Addr)(kn:Nat):Prop where
 t:ArgsAt S w (.slice a c.t.args.length n) c.t.args
 k:KidsAt S w (.slice ka c.kids.length kn) c.kids
theorem CoAt.keep {S:Nat→Prop}{A B:World}(h:∀ b,S b→B.heap[b]? = A.heap[b]?){c:Co}{a:Option Addr}{n:Nat}{ka:Option Addr}{kn:Nat}(H:CoAt S A c a n ka kn):CoAt S B c a n ka kn:=⟨H.t.keep h,H.k.keep h⟩
theorem CoAt.mono {S S':Nat→Prop}(hS:∀ b,S b→S' b){A:World}{c:Co}{a:Option Addr}{n:Nat}{ka:Option Addr}{kn:Nat}(H:CoAt S A c a n ka kn):CoAt S' A c a n ka kn:=⟨H.t.mono hS,H.k.mono hS⟩
theorem CoAt.low {w w':World}{c:Co}{a:Option Addr}{n:Nat}{ka:Option Addr}{kn:Nat}(H:CoAt (Lt w.heap.size) w c a n ka kn)(h:Below w.heap.size w w'):CoAt (Lt w'.heap.size) w' c a n ka kn :=
 (H.keep fun b hb=>h.block b hb).mono fun _ hb=>Nat.lt_of_lt_of_le hb h.size
theorem CoAt.none (S:Nat→Prop)(w:World)(k:Int)(s:ByteArray)(m:Int)(c1 c2:Nat):CoAt S w (.mk k s m tz []) .none c1 .none c2:=⟨.nil _ _,.nil _ _⟩
def B8 (w:World)(b:Nat)(u0 u1 u2 u3 u4 u5 u6 u7:Value):Prop:=w.heap[b]? = some (.cells #[u0,u1,u2,u3,u4,u5,u6,u7] 33 (0,0))
section
variable {w w' : World} {b : Nat} {u0 u1 u2 u3 u4 u5 u6 u7 : Value}
theorem B8.c0 (h:B8 w b u0 u1 u2 u3 u4 u5 u6 u7):w.cell? ⟨b,0,none⟩=some u0:=cell_of_row w b 0 _ _ _ h
theorem B8.c1 (h:B8 w b u0 u1 u2 u3 u4 u5 u6 u7):w.cell? ⟨b,1,none⟩=some u1:=cell_of_row w b 1 _ _ _ h
theorem B8.c2 (h:B8 w b u0 u1 u2 u3 u4 u5 u6 u7):w.cell? ⟨b,2,none⟩=some u2:=cell_of_row w b 2 _ _ _ h
theorem B8.c3 (h:B8 w b u0 u1 u2 u3 u4 u5 u6 u7):w.cell? ⟨b,3,none⟩=some u3:=cell_of_row w b 3 _ _ _ h
theorem B8.c4 (h:B8 w b u0 u1 u2 u3 u4 u5 u6 u7):w.cell? ⟨b,4,none⟩=some u4:=cell_of_row w b 4 _ _ _ h
theorem B8.c5 (h:B8 w b u0 u1 u2 u3 u4 u5 u6 u7):w.cell? ⟨b,5,none⟩=some u5:=cell_of_row w b 5 _ _ _ h
theorem B8.c6 (h:B8 w b u0 u1 u2 u3 u4 u5 u6 u7):w.cell? ⟨b,6,none⟩=some u6:=cell_of_row w b 6 _ _ _ h
theorem B8.c7 (h:B8 w b u0 u1 u2 u3 u4 u5 u6 u7):w.cell? ⟨b,7,none⟩=some u7:=cell_of_row w b 7 _ _ _ h
theorem B8.fr (h:B8 w b u0 u1 u2 u3 u4 u5 u6 u7)(i:Nat):w.frozen? ⟨b,i,none⟩=false:=by unfold B8 at h;simp[World.frozen?,h]
theorem B8.lt (h:B8 w b u0 u1 u2 u3 u4 u5 u6 u7):b<w.heap.size:=(Array.getElem?_eq_some_iff.1 h).1
theorem B8.new (w:World)(u0 u1 u2 u3 u4 u5 u6 u7:Value):B8 (w.alloc (.cells #[u0,u1,u2,u3,u4,u5,u6,u7] 33)) w.heap.size u0 u1 u2 u3 u4 u5 u6 u7:=heap_alloc_new w _
theorem B8.grown {r:Option Nat}(h:B8 w b u0 u1 u2 u3 u4 u5 u6 u7)(hg:w.grownBy w' r)(hr:r≠some b):B8 w' b u0 u1 u2 u3 u4 u5 u6 u7:=(hg.block b h.lt (Ne.symm hr)).trans h
theorem B8.low (h:B8 w b u0 u1 u2 u3 u4 u5 u6 u7)(hb:Below w.heap.size w w'):B8 w' b u0 u1 u2 u3 u4 u5 u6 u7:=(hb.block b h.lt).trans h
theorem B8.set (h:B8 w b u0 u1 u2 u3 u4 u5 u6 u7)(i:Nat)(u:Value):(w.setCell ⟨b,i,none⟩ u).heap[b]? = some (.cells (#[u0,u1,u2,u3,u4,u5,u6,u7].setIfInBounds i u) 33 (0,0)):=set_row0 h u
end
def cell8 (c:Co)(p:Value × Value):List Value:=[.int .i64 c.kind,.string c.name,.int .i64 c.n,.int .i64 c.t.kind,.string c.t.name,.int .i64 c.t.n,p.1,p.2]
def cellsK (cs:List Co)(ps:List (Value × Value)):List Value:=(cs.zip ps).flatMap fun p=>cell8 p.1 p.2
theorem cellsK_snoc:∀ (cs:List Co) (ps:List (Value × Value)) (c:Co) (p:Value × Value),ps.length=cs.length→cellsK (cs++[c]) (ps++[p])=cellsK cs ps++cell8 c p:=by
 intro cs ps c p h
 unfold cellsK
 rw[List.zip_append h.symm,List.flatMap_append]
 simp
theorem cellsK_at:∀ (cs:List Co) (ps:List (Value × Value)),ps.length=cs.length→∀ (i:Nat) (h:i<cs.length) (h':i<ps.length) (j:Nat),j<8→(cellsK cs ps)[i*8+j]? = (cell8 cs[i] ps[i])[j]?
 | [],_,_,i,h,_,_,_=>by simp at h
 | c :: cs,[],hh,_,_,_,_,_=>by simp at hh
 | c :: cs,p :: ps,hh,i,h,h',j,hj=>by
  have e:cellsK (c :: cs) (p :: ps)=cell8 c p++cellsK cs ps:=rfl
  rw[e]
  cases i with
  | zero =>
   rw[List.getElem?_append_left (by show _<8;omega),Nat.zero_mul,Nat.zero_add];rfl
  | succ i =>
   have:=cellsK_at cs ps (by simpa using hh) i (by simpa using h) (by simpa using h') j hj
   rw[List.getElem?_append_right (by show 8≤_;omega)]
   show (cellsK cs ps)[(i+1)*8+j - 8]? = _
   rw[show (i+1)*8+j - 8=i*8+j by omega,this];rfl
structure KAcc (lo:Nat)(w:World)(v:Value)(acc:List Co)(ps:List (Value × Value)):Prop where
 own:w.ownsRow lo 33 8 v acc.length (cellsK acc ps)
 len:ps.length=acc.length
 at_:∀ (j:Nat) (c:Co) (p:Value × Value),acc[j]? = some c→ps[j]? = some p→ArgsAt (fun b=>lo≤b∧b<w.heap.size∧v.ownBlock≠some b) w p.1 c.t.args∧KidsAt (fun b=>lo≤b∧b<w.heap.size∧v.ownBlock≠some b) w p.2 c.kids
theorem KAcc.nil (lo:Nat)(w:World):KAcc lo w (.slice none 0 0) [] []:=⟨World.ownsRow_nil _ _ _ _,rfl,by simp⟩
theorem KAcc.keep {lo:Nat}{w w':World}{v:Value}{acc:List Co}{ps:List (Value × Value)}(h:KAcc lo w v acc ps)(hs:w.heap.size≤w'.heap.size)(hk:∀ b,lo≤b→b<w.heap.size→w'.heap[b]? = w.heap[b]?):KAcc lo w' v acc ps :=
 ⟨own_keep4 h.own fun b hb=>hk b (h.own.lt b hb).1 (h.own.lt b hb).2,h.len,fun j t sv h1 h2 =>
  ⟨((h.at_ j t sv h1 h2).1.keep fun b hb=>hk b hb.1 hb.2.1).mono fun b hb=>⟨hb.1,by have:=hb.2.1;omega,hb.2.2⟩,((h.at_ j t sv h1 h2).2.keep fun b hb=>hk b hb.1 hb.2.1).mono fun b hb=>⟨hb.1,by have:=hb.2.1;omega,hb.2.2⟩⟩⟩
theorem KAcc.add {lo:Nat}{w w':World}{v v':Value}{p:Value × Value}{acc:List Co}{ps:List (Value × Value)}{c:Co}{S:Nat→Prop}(h:KAcc lo w v acc ps)(hx:ArgsAt S w p.1 c.t.args)(hk:KidsAt S w p.2 c.kids)(hS:∀ b,S b→lo≤b∧b<w.heap.size∧v.ownBlock≠some b)
  (hg:w.grownBy w' v.ownBlock) (ho:w'.ownsRow lo 33 8 v' (acc.length+1) (cellsK acc ps++cell8 c p)) (hat:∀ b,v'.ownBlock=some b→v.ownBlock=some b∨w.heap.size≤b):KAcc lo w' v' (acc++[c]) (ps++[p]):=by
 have up:∀ {S:Nat→Prop},(∀ b,S b→lo≤b∧b<w.heap.size∧v.ownBlock≠some b)→(∀ b,S b→w'.heap[b]? = w.heap[b]?)∧∀ b,S b→lo≤b∧b<w'.heap.size∧v'.ownBlock≠some b:=fun {S} hS =>
  ⟨fun b hb=>hg.block b (hS b hb).2.1 (Ne.symm (hS b hb).2.2),fun b hb=>⟨(hS b hb).1,Nat.lt_of_lt_of_le (hS b hb).2.1 hg.size,fun e=>by
   rcases hat b e with e|e
   ·exact (hS b hb).2.2 e
   ·have:=(hS b hb).2.1;omega⟩⟩
 have kp:∀ {S:Nat→Prop} {y:Value} {ts:List Ty},(∀ b,S b→lo≤b∧b<w.heap.size∧v.ownBlock≠some b)→ArgsAt S w y ts→ArgsAt (fun b=>lo≤b∧b<w'.heap.size∧v'.ownBlock≠some b) w' y ts:=fun hS hy=>(hy.keep (up hS).1).mono (up hS).2
 have kk:∀ {S:Nat→Prop} {y:Value} {ts:List Co},(∀ b,S b→lo≤b∧b<w.heap.size∧v.ownBlock≠some b)→KidsAt S w y ts→KidsAt (fun b=>lo≤b∧b<w'.heap.size∧v'.ownBlock≠some b) w' y ts:=fun hS hy=>(hy.keep (up hS).1).mono (up hS).2
 refine⟨by rw[cellsK_snoc _ _ _ _ h.len,List.length_append];exact ho,by simp[h.len],fun j u y h1 h2=>?_⟩
 rcases Nat.lt_or_ge j acc.length with hlt|hge
 ·rw[List.getElem?_append_left hlt] at h1
  rw[List.getElem?_append_left (by rw[h.len];exact hlt)] at h2
  exact⟨kp (fun b hb=>hb) (h.at_ j u y h1 h2).1,kk (fun b hb=>hb) (h.at_ j u y h1 h2).2⟩
 ·have hj:j=acc.length:=by
   have:=(List.getElem?_eq_some_iff.1 h1).1
   simp at this;omega
  subst hj
  rw[List.getElem?_append_right (Nat.le_refl _)] at h1
  rw[← h.len,List.getElem?_append_right (Nat.le_refl _)] at h2
  simp at h1 h2
  subst h1 h2
  exact⟨kp hS hx,kk hS hk⟩
theorem KAcc.args {lo:Nat}{w:World}{v:Value}{acc:List Co}{ps:List (Value × Value)}(h:KAcc lo w v acc ps)(hl:acc.length≤4000):KidsAt (In lo w.heap.size) w v acc:=by
 rcases h.own.2 with ⟨rfl,h0⟩|⟨g,cap,cur,rfl,hb,hg,h1,h2,h3,h4⟩
 ·have:acc=[]:=List.eq_nil_of_length_eq_zero h0
  subst this
  exact .nil _ _
 ·have hc:=h.own.cells (g:=g) rfl
  have hadd:∀ j,(⟨g,0,none⟩:Addr).add j=⟨g,j,none⟩:=fun j=>by unfold Addr.add;split<;>simp_all
  refine .mk g 0 cap acc (fun i=>(ps.getD i (.slice none 0 0,.slice none 0 0)).1) (fun i=>(ps.getD i (.slice none 0 0,.slice none 0 0)).2) ⟨hb,(Array.getElem?_eq_some_iff.1 hg).1⟩ (by omega) (fun i hi=>?_) (fun i hi=>?_) (fun i hi=>?_)
  ·have hi':i<ps.length:=by rw[h.len];exact hi
   have q:∀ j u,j<8→(cell8 acc[i] ps[i])[j]? = some u→w.cell? ⟨g,0+i*8+j,none⟩=some u:=fun j u hj hu=>by
    have:=hc (i*8+j) u (by rw[cellsK_at acc ps h.len i hi hi' j hj];exact hu)
    rw[hadd] at this
    rw[Nat.zero_add];exact this
   simp only[List.getD_eq_getElem?_getD,List.getElem?_eq_getElem hi',Option.getD_some]
   exact⟨q 0 _ (by omega) rfl,q 1 _ (by omega) rfl,q 2 _ (by omega) rfl,q 3 _ (by omega) rfl,q 4 _ (by omega) rfl,q 5 _ (by omega) rfl,q 6 _ (by omega) rfl,q 7 _ (by omega) rfl⟩
  ·have hi':i<ps.length:=by rw[h.len];exact hi
   simp only[List.getD_eq_getElem?_getD,List.getElem?_eq_getElem hi',Option.getD_some]
   exact (h.at_ i _ _ (List.getElem?_eq_getElem hi) (List.getElem?_eq_getElem hi')).1.mono fun b hb=>⟨hb.1,hb.2.1⟩
  ·have hi':i<ps.length:=by rw[h.len];exact hi
   simp only[List.getD_eq_getElem?_getD,List.getElem?_eq_getElem hi',Option.getD_some]
   exact (h.at_ i _ _ (List.getElem?_eq_getElem hi) (List.getElem?_eq_getElem hi')).2.mono fun b hb=>⟨hb.1,hb.2.1⟩
theorem infoCo:(Tryz.prog.info? 33).map (fun i=>(i.zero,i.size,i.bytes))=some (some (.agg #[.int .i64 0,.string ByteArray.empty,.int .i64 0,.int .i64 0,.string ByteArray.empty,.int .i64 0,.slice none 0 0,.slice none 0 0]),8,112):=by kernel_rfl
set_option maxRecDepth 100000 in
set_option maxHeartbeats 1600000 in
theorem cdepth_any:∀ (c:Co) (S:Nat→Prop) (a:Option Addr) (n:Nat) (ka:Option Addr) (kn:Nat) (w:World),CoAt S w c a n ka kn→(∀ b,S b→b<w.heap.size)→c.deep≤100000→c.tdep≤100000 →
  Calls Tryz.prog 24 #[cv c a n ka kn] w fun e w'=>e=.returned (.tuple #[.int .i64 (c.deep:Nat),.int .i64 (c.tdep:Nat)])∧Below w.heap.size w w':=by
 intro c
 induction c using Co.ind with
 | h c ih =>
  intro S a n ka kn w hC hn hd ht
  have DE:Hid (c.deep=deepL c.kids+1∧c.deep≤100000):=Lib.hid ⟨c.deep_eq,hd⟩
  have TE:Hid (c.tdep=max (tdep0 c) (tdepL c.kids)∧c.tdep≤100000):=Lib.hid ⟨c.tdep_eq,ht⟩
  have IH:=Lib.hid ih
  have HC:=Lib.hid hC
  have HN:=Lib.hid hn
  have hz:=(Below.refl w.heap.size w).alloc (Nat.le_refl _) (.cells #[.int .i64 c.kind,.string c.name,.int .i64 c.n,.int .i64 c.t.kind,.string c.t.name,.int .i64 c.t.n,.slice a c.t.args.length n,.slice ka c.kids.length kn] 33)
  have KB:=B8.new w (.int .i64 c.kind) (.string c.name) (.int .i64 c.n) (.int .i64 c.t.kind) (.string c.t.name) (.int .i64 c.t.n) (.slice a c.t.args.length n) (.slice ka c.kids.length kn)
  have hkl:c.kids.length≤9223372036854775807:=by obtain⟨_,_,_,h⟩:=hC.k.form;exact h
  have hk29:(c.kind=2∨c.kind=9)∨¬ (c.kind=2∨c.kind=9):=Classical.em _
  rcases hk29 with hk|hk
  ·have T0:Hid (tdep0 c=c.t.depth):=Lib.hid (by unfold tdep0;rw[if_pos hk])
   have hd0:c.t.depth≤100000:=by have h1:=TE.out;have h2:=T0.out;omega
   have CD:=Lib.hid (depth_any c.t S (.agg #[.int .i64 c.t.kind,.string c.t.name,.int .i64 c.t.n,.slice a c.t.args.length n]) _ ⟨_,rfl,hC.t.keep fun b hb=>hz.block b (hn b hb)⟩ (fun b hb=>Nat.lt_of_lt_of_le (hn b hb) hz.size) hd0)
   have HZ:=Lib.hid hz
   have KH:=Lib.hid KB
   have hq:((c.kind==2)=true)∨((c.kind==2)=false∧(c.kind==9)=true):=by
    rcases hk with h|h
    ·exact .inl (by rw[h];rfl)
    ·exact .inr ⟨by rw[h];rfl,by rw[h];rfl⟩
   have B1:Hid (∀ w1,Below (w.alloc (.cells #[.int .i64 c.kind,.string c.name,.int .i64 c.n,.int .i64 c.t.kind,.string c.t.name,.int .i64 c.t.n,.slice a c.t.args.length n,.slice ka c.kids.length kn] 33)).heap.size (w.alloc (.cells #[.int .i64 c.kind,.string c.name,.int .i64 c.n,.int .i64 c.t.kind,.string c.t.name,.int .i64 c.t.n,.slice a c.t.args.length n,.slice ka c.kids.length kn] 33)) w1→Below w.heap.size w w1∧w1.cell? ⟨w.heap.size,7,none⟩=some (.slice ka c.kids.length kn)):=Lib.hid fun w1 h=>⟨HZ.out.trans (h.mono HZ.out.size),(KH.out.low h).c7⟩
   clear ih hC hn hd ht hz KB hk
   unfold cv
   rcases hq with q1|⟨q1,q2⟩
   ·go_enter Tryz.func24,Tryz.ntmps24
    go_wp2_with fail
    refine CD.out.mono ?_
    rintro e w1 ⟨rfl,hb1⟩
    obtain⟨hB0,c7⟩:=B1.out w1 hb1
    have B0:=Lib.hid hB0
    clear hb1 hB0
    go_wp2
    go_loopw [2,3,22] (fun mv tv iv wr=>∃ i:Nat,iv=.int .i64 i∧i≤c.kids.length∧mv=.int .i64 (deepL (c.kids.take i):Nat)∧tv=.int .i64 ((max (tdep0 c) (tdepL (c.kids.take i)):Nat))∧Below w.heap.size w wr) (fun _ _ iv _=>c.kids.length - (intOf iv).toNat)
    case atStart=>exact⟨0,rfl,Nat.zero_le _,by simp[deepL],by simp[tdepL,T0.out],B0.out⟩
    case round =>
     obtain⟨i,rfl,hil,rfl,rfl,hB⟩:=hrel
     have z0:(0:Int)≤(i:Int):=by omega
     have BH:=Lib.hid hB
     by_cases hi:i<c.kids.length
     ·have z1:(i:Int)<(c.kids.length:Int):=by omega
      obtain⟨b,off,a1,n1,a2,n2,rfl,hb,hf,hs,hk⟩:=HC.out.k.at_ hi
      have hn:=HN.out
      obtain⟨f0,f1,f2,f3,f4,f5,f6,f7⟩:=hf.keep (hB.block b (hn b hb))
      have hm:=List.getElem_mem hi
      have hdi:=deep_kid _ hm
      have hti:=tdep_kid _ hm
      have CH:=Lib.hid (fun (W:World) (hb:Below w.heap.size w W)=>IH.out _ hm S a1 n1 a2 n2 W ⟨hs.keep fun b hS=>hb.block b (hn b hS),hk.keep fun b hS=>hb.block b (hn b hS)⟩ (fun b hS=>Nat.lt_of_lt_of_le (hn b hS) hb.size) (by have:=DE.out;omega) (by have:=TE.out;omega))
      have DT:=Lib.hid (deepL_take _ _ hi)
      have TT:=Lib.hid (tdepL_take _ _ hi)
      have hdl:deepL (c.kids.take i)≤deepL c.kids:=by
       conv=>rhs;rw[← List.take_append_drop i c.kids,deepL_append]
       omega
      have htl:tdepL (c.kids.take i)≤tdepL c.kids:=by
       conv=>rhs;rw[← List.take_append_drop i c.kids,tdepL_append]
       omega
      have hd1:deepL (c.kids.take i)≤100000:=by have:=DE.out;omega
      have ht1:max (tdep0 c) (tdepL (c.kids.take i))≤100000:=by have:=TE.out;omega
      have hd2:c.kids[i].deep≤100000:=by have:=DE.out;omega
      have ht2:c.kids[i].tdep≤100000:=by have:=TE.out;omega
      have hsz:=hB.size
      clear hf hs hk hB hm hdi hti hn hb hdl htl
      unfold cv at CH
      generalize c.kids[i]=x at *
      have MM:Hid (∀ d,max (tdep0 c) (max (tdepL (c.kids.take i)) d)=max (max (tdep0 c) (tdepL (c.kids.take i))) d):=Lib.hid fun d=>by omega
      generalize max (tdep0 c) (tdepL (c.kids.take i))=q at *
      generalize deepL (c.kids.take i)=m at *
      have em:(if m<x.deep then (x.deep:Int) else (m:Int))=((max m x.deep:Nat):Int):=by split<;>omega
      have et:(if q<x.tdep then (x.tdep:Int) else (q:Int))=((max q x.tdep:Nat):Int):=by split<;>omega
      go_wp2_with fail
      refine (CH.out _ (BH.out.alloc (by omega) _)).mono ?_
      rintro e w4 ⟨rfl,B4⟩
      have B5:=Lib.hid ((BH.out.alloc (by omega) (.cells #[.int .i64 x.kind,.string x.name,.int .i64 x.n,.int .i64 x.t.kind,.string x.t.name,.int .i64 x.t.n,.slice a1 x.t.args.length n1,.slice a2 x.kids.length n2] 33)).trans (B4.mono (by simp;omega)))
      clear B4
      go_wp2
      go_roundw
      case rel=>exact⟨i+1,by go_num,by omega,by rw[DT.out];congr 1;omega,by rw[TT.out,MM.out];congr 1;omega,B5.out⟩
      case measure=>simp[intOf];omega
     ·obtain rfl:i=c.kids.length:=by omega
      have hd1:deepL c.kids≤100000:=by have:=DE.out;omega
      clear hB
      simp only[List.take_length]
      go_wp2
      go_ret2
      exact⟨by rw[DE.out.1,TE.out.1];rfl,BH.out⟩
   ·go_enter Tryz.func24,Tryz.ntmps24
    go_wp2_with fail
    refine CD.out.mono ?_
    rintro e w1 ⟨rfl,hb1⟩
    obtain⟨hB0,c7⟩:=B1.out w1 hb1
    have B0:=Lib.hid hB0
    clear hb1 hB0
    go_wp2
    go_loopw [2,3,22] (fun mv tv iv wr=>∃ i:Nat,iv=.int .i64 i∧i≤c.kids.length∧mv=.int .i64 (deepL (c.kids.take i):Nat)∧tv=.int .i64 ((max (tdep0 c) (tdepL (c.kids.take i)):Nat))∧Below w.heap.size w wr) (fun _ _ iv _=>c.kids.length - (intOf iv).toNat)
    case atStart=>exact⟨0,rfl,Nat.zero_le _,by simp[deepL],by simp[tdepL,T0.out],B0.out⟩
    case round =>
     obtain⟨i,rfl,hil,rfl,rfl,hB⟩:=hrel
     have z0:(0:Int)≤(i:Int):=by omega
     have BH:=Lib.hid hB
     by_cases hi:i<c.kids.length
     ·have z1:(i:Int)<(c.kids.length:Int):=by omega
      obtain⟨b,off,a1,n1,a2,n2,rfl,hb,hf,hs,hk⟩:=HC.out.k.at_ hi
      have hn:=HN.out
      obtain⟨f0,f1,f2,f3,f4,f5,f6,f7⟩:=hf.keep (hB.block b (hn b hb))
      have hm:=List.getElem_mem hi
      have hdi:=deep_kid _ hm
      have hti:=tdep_kid _ hm
      have CH:=Lib.hid (fun (W:World) (hb:Below w.heap.size w W)=>IH.out _ hm S a1 n1 a2 n2 W ⟨hs.keep fun b hS=>hb.block b (hn b hS),hk.keep fun b hS=>hb.block b (hn b hS)⟩ (fun b hS=>Nat.lt_of_lt_of_le (hn b hS) hb.size) (by have:=DE.out;omega) (by have:=TE.out;omega))
      have DT:=Lib.hid (deepL_take _ _ hi)
      have TT:=Lib.hid (tdepL_take _ _ hi)
      have hdl:deepL (c.kids.take i)≤deepL c.kids:=by
       conv=>rhs;rw[← List.take_append_drop i c.kids,deepL_append]
       omega
      have htl:tdepL (c.kids.take i)≤tdepL c.kids:=by
       conv=>rhs;rw[← List.take_append_drop i c.kids,tdepL_append]
       omega
      have hd1:deepL (c.kids.take i)≤100000:=by have:=DE.out;omega
      have ht1:max (tdep0 c) (tdepL (c.kids.take i))≤100000:=by have:=TE.out;omega
      have hd2:c.kids[i].deep≤100000:=by have:=DE.out;omega
      have ht2:c.kids[i].tdep≤100000:=by have:=TE.out;omega
      have hsz:=hB.size
      clear hf hs hk hB hm hdi hti hn hb hdl htl
      unfold cv at CH
      generalize c.kids[i]=x at *
      have MM:Hid (∀ d,max (tdep0 c) (max (tdepL (c.kids.take i)) d)=max (max (tdep0 c) (tdepL (c.kids.take i))) d):=Lib.hid fun d=>by omega
      generalize max (tdep0 c) (tdepL (c.kids.take i))=q at *
      generalize deepL (c.kids.take i)=m at *
      have em:(if m<x.deep then (x.deep:Int) else (m:Int))=((max m x.deep:Nat):Int):=by split<;>omega
      have et:(if q<x.tdep then (x.tdep:Int) else (q:Int))=((max q x.tdep:Nat):Int):=by split<;>omega
      go_wp2_with fail
      refine (CH.out _ (BH.out.alloc (by omega) _)).mono ?_
      rintro e w4 ⟨rfl,B4⟩
      have B5:=Lib.hid ((BH.out.alloc (by omega) (.cells #[.int .i64 x.kind,.string x.name,.int .i64 x.n,.int .i64 x.t.kind,.string x.t.name,.int .i64 x.t.n,.slice a1 x.t.args.length n1,.slice a2 x.kids.length n2] 33)).trans (B4.mono (by simp;omega)))
      clear B4
      go_wp2
      go_roundw
      case rel=>exact⟨i+1,by go_num,by omega,by rw[DT.out];congr 1;omega,by rw[TT.out,MM.out];congr 1;omega,B5.out⟩
      case measure=>simp[intOf];omega
     ·obtain rfl:i=c.kids.length:=by omega
      have hd1:deepL c.kids≤100000:=by have:=DE.out;omega
      clear hB
      simp only[List.take_length]
      go_wp2
      go_ret2
      exact⟨by rw[DE.out.1,TE.out.1];rfl,BH.out⟩
  ·have T0:Hid (tdep0 c=0):=Lib.hid (by unfold tdep0;rw[if_neg hk])
   have q1:(c.kind==2)=false:=by rw[beq_eq_false_iff_ne];omega
   have q2:(c.kind==9)=false:=by rw[beq_eq_false_iff_ne];omega
   have B0:=Lib.hid hz
   clear ih hC hn hd ht hz KB hk
   unfold cv
   go_enter Tryz.func24,Tryz.ntmps24
   go_wp2
   go_loopw [2,3,22] (fun mv tv iv wr=>∃ i:Nat,iv=.int .i64 i∧i≤c.kids.length∧mv=.int .i64 (deepL (c.kids.take i):Nat)∧tv=.int .i64 ((max (tdep0 c) (tdepL (c.kids.take i)):Nat))∧Below w.heap.size w wr) (fun _ _ iv _=>c.kids.length - (intOf iv).toNat)
   case atStart=>exact⟨0,rfl,Nat.zero_le _,by simp[deepL],by simp[tdepL,T0.out],B0.out⟩
   case round =>
    obtain⟨i,rfl,hil,rfl,rfl,hB⟩:=hrel
    have z0:(0:Int)≤(i:Int):=by omega
    have BH:=Lib.hid hB
    by_cases hi:i<c.kids.length
    ·have z1:(i:Int)<(c.kids.length:Int):=by omega
     obtain⟨b,off,a1,n1,a2,n2,rfl,hb,hf,hs,hk⟩:=HC.out.k.at_ hi
     have hn:=HN.out
     obtain⟨f0,f1,f2,f3,f4,f5,f6,f7⟩:=hf.keep (hB.block b (hn b hb))
     have hm:=List.getElem_mem hi
     have hdi:=deep_kid _ hm
     have hti:=tdep_kid _ hm
     have CH:=Lib.hid (fun (W:World) (hb:Below w.heap.size w W)=>IH.out _ hm S a1 n1 a2 n2 W ⟨hs.keep fun b hS=>hb.block b (hn b hS),hk.keep fun b hS=>hb.block b (hn b hS)⟩ (fun b hS=>Nat.lt_of_lt_of_le (hn b hS) hb.size) (by have:=DE.out;omega) (by have:=TE.out;omega))
     have DT:=Lib.hid (deepL_take _ _ hi)
     have TT:=Lib.hid (tdepL_take _ _ hi)
     have hdl:deepL (c.kids.take i)≤deepL c.kids:=by
      conv=>rhs;rw[← List.take_append_drop i c.kids,deepL_append]
      omega
     have htl:tdepL (c.kids.take i)≤tdepL c.kids:=by
      conv=>rhs;rw[← List.take_append_drop i c.kids,tdepL_append]
      omega
     have hd1:deepL (c.kids.take i)≤100000:=by have:=DE.out;omega
     have ht1:max (tdep0 c) (tdepL (c.kids.take i))≤100000:=by have:=TE.out;omega
     have hd2:c.kids[i].deep≤100000:=by have:=DE.out;omega
     have ht2:c.kids[i].tdep≤100000:=by have:=TE.out;omega
     have hsz:=hB.size
     clear hf hs hk hB hm hdi hti hn hb hdl htl
     unfold cv at CH
     generalize c.kids[i]=x at *
     have MM:Hid (∀ d,max (tdep0 c) (max (tdepL (c.kids.take i)) d)=max (max (tdep0 c) (tdepL (c.kids.take i))) d):=Lib.hid fun d=>by omega
     generalize max (tdep0 c) (tdepL (c.kids.take i))=q at *
     generalize deepL (c.kids.take i)=m at *
     have em:(if m<x.deep then (x.deep:Int) else (m:Int))=((max m x.deep:Nat):Int):=by split<;>omega
     have et:(if q<x.tdep then (x.tdep:Int) else (q:Int))=((max q x.tdep:Nat):Int):=by split<;>omega
     go_wp2_with fail
     refine (CH.out _ (BH.out.alloc (by omega) _)).mono ?_
     rintro e w4 ⟨rfl,B4⟩
     have B5:=Lib.hid ((BH.out.alloc (by omega) (.cells #[.int .i64 x.kind,.string x.name,.int .i64 x.n,.int .i64 x.t.kind,.string x.t.name,.int .i64 x.t.n,.slice a1 x.t.args.length n1,.slice a2 x.kids.length n2] 33)).trans (B4.mono (by simp;omega)))
     clear B4
     go_wp2
     go_roundw
     case rel=>exact⟨i+1,by go_num,by omega,by rw[DT.out];congr 1;omega,by rw[TT.out,MM.out];congr 1;omega,B5.out⟩
     case measure=>simp[intOf];omega
    ·obtain rfl:i=c.kids.length:=by omega
     have hd1:deepL c.kids≤100000:=by have:=DE.out;omega
     clear hB
     simp only[List.take_length]
     go_wp2
     go_ret2
     exact⟨by rw[DE.out.1,TE.out.1];rfl,BH.out⟩
theorem binds_kid (ks:List Co){a:Co}(h:a∈ks):bindsC a≤bindsL ks:=by
 induction ks with
 | nil=>cases h
 | cons c cs ih =>
  rw[bindsL]
  rcases List.mem_cons.1 h with rfl|h
  ·omega
  ·have:=ih h;omega
set_option maxRecDepth 100000 in
set_option maxHeartbeats 1600000 in
theorem binds_any:∀ (c:Co) (S:Nat→Prop) (a:Option Addr) (n:Nat) (ka:Option Addr) (kn:Nat) (w:World),CoAt S w c a n ka kn→(∀ b,S b→b<w.heap.size)→bindsC c≤100000 →
  Calls Tryz.prog 90 #[cv c a n ka kn] w (IntPost w (bindsC c:Nat)):=by
 intro c
 induction c using Co.ind with
 | h c ih =>
  intro S a n ka kn w hC hn hd
  have DE:Hid (bindsC c=bindsL c.kids+(if c.kind=7 then 1 else 0)∧bindsC c≤100000):=Lib.hid ⟨bindsC_eq c,hd⟩
  have IH:=Lib.hid ih
  have HC:=Lib.hid hC
  have HN:=Lib.hid hn
  have hz:=(Below.refl w.heap.size w).alloc (Nat.le_refl _) (.cells #[.int .i64 c.kind,.string c.name,.int .i64 c.n,.int .i64 c.t.kind,.string c.t.name,.int .i64 c.t.n,.slice a c.t.args.length n,.slice ka c.kids.length kn] 33)
  have KB:=Lib.hid (B8.new w (.int .i64 c.kind) (.string c.name) (.int .i64 c.n) (.int .i64 c.t.kind) (.string c.t.name) (.int .i64 c.t.n) (.slice a c.t.args.length n) (.slice ka c.kids.length kn))
  have hkl:c.kids.length≤9223372036854775807:=by obtain⟨_,_,_,h⟩:=hC.k.form;exact h
  have B0:=Lib.hid hz
  clear ih hC hn hd hz
  unfold cv
  go_enter Tryz.func90,Tryz.ntmps90
  go_wp2
  go_loopw [3,9] (fun mv iv wr=>∃ i:Nat,iv=.int .i64 i∧i≤c.kids.length∧mv=.int .i64 (bindsL (c.kids.take i):Nat)∧Below (w.alloc (.cells #[.int .i64 c.kind,.string c.name,.int .i64 c.n,.int .i64 c.t.kind,.string c.t.name,.int .i64 c.t.n,.slice a c.t.args.length n,.slice ka c.kids.length kn] 33)).heap.size (w.alloc (.cells #[.int .i64 c.kind,.string c.name,.int .i64 c.n,.int .i64 c.t.kind,.string c.t.name,.int .i64 c.t.n,.slice a c.t.args.length n,.slice ka c.kids.length kn] 33)) wr) (fun _ iv _=>c.kids.length - (intOf iv).toNat)
  case atStart=>exact⟨0,rfl,Nat.zero_le _,by simp[bindsL],Below.refl _ _⟩
  case round =>
   obtain⟨i,rfl,hil,rfl,hB1⟩:=hrel
   have hB:=B0.out.trans (hB1.mono B0.out.size)
   have HB1:=Lib.hid hB1
   have z0:(0:Int)≤(i:Int):=by omega
   have BH:=Lib.hid hB
   by_cases hi:i<c.kids.length
   ·have z1:(i:Int)<(c.kids.length:Int):=by omega
    obtain⟨b,off,a1,n1,a2,n2,rfl,hb,hf,hs,hk⟩:=HC.out.k.at_ hi
    have hn:=HN.out
    obtain⟨f0,f1,f2,f3,f4,f5,f6,f7⟩:=hf.keep (hB.block b (hn b hb))
    have hm:=List.getElem_mem hi
    have hbi:=binds_kid _ hm
    have CH:=Lib.hid (fun (W:World) (hb:Below w.heap.size w W)=>IH.out _ hm S a1 n1 a2 n2 W ⟨hs.keep fun b hS=>hb.block b (hn b hS),hk.keep fun b hS=>hb.block b (hn b hS)⟩ (fun b hS=>Nat.lt_of_lt_of_le (hn b hS) hb.size) (by have:=DE.out;omega))
    have DT:=Lib.hid (bindsL_take _ _ hi)
    have hdl:bindsL (c.kids.take i)≤bindsL c.kids:=by
     conv=>rhs;rw[← List.take_append_drop i c.kids,bindsL_append]
     omega
    have hd1:bindsL (c.kids.take i)≤100000:=by have:=DE.out;omega
    have hd2:bindsC c.kids[i]≤100000:=by have:=DE.out;omega
    have hsz:=hB.size
    clear hf hs hk hB hB1 hm hbi hn hb hdl
    unfold cv at CH
    generalize c.kids[i]=x at *
    generalize bindsL (c.kids.take i)=m at *
    have em:(if m<bindsC x then (bindsC x:Int) else (m:Int))=((max m (bindsC x):Nat):Int):=by split<;>omega
    go_wp2_with fail
    refine (CH.out _ (BH.out.alloc (by omega) _)).mono ?_
    rintro e w4 ⟨rfl,B4⟩
    have B5:=Lib.hid ((HB1.out.alloc (by have:=HB1.out.size;omega) (.cells #[.int .i64 x.kind,.string x.name,.int .i64 x.n,.int .i64 x.t.kind,.string x.t.name,.int .i64 x.t.n,.slice a1 x.t.args.length n1,.slice a2 x.kids.length n2] 33)).trans (B4.mono (by have:=HB1.out.size;simp at *;omega)))
    clear B4
    go_wp2
    go_roundw
    case rel=>exact⟨i+1,by go_num,by omega,by rw[DT.out];congr 1;omega,B5.out⟩
    case measure=>simp[intOf];omega
   ·obtain rfl:i=c.kids.length:=by omega
    have hd1:bindsL c.kids≤100000:=by have:=DE.out;omega
    have c0:=(KB.out.low hB1).c0
    clear hB hB1
    simp only[List.take_length]
    by_cases h7:c.kind=7
    ·have q:(c.kind==7)=true:=by rw[h7];rfl
     have E:=DE.out.1
     rw[if_pos h7] at E
     have EE:=Lib.hid E
     clear h7 E
     go_wp2
     go_ret
     exact⟨ret_int (by rw[EE.out];rfl),BH.out⟩
    ·have q:(c.kind==7)=false:=by rw[beq_eq_false_iff_ne];exact h7
     have E:=DE.out.1
     rw[if_neg h7] at E
     have EE:=Lib.hid E
     clear h7 E
     go_wp2
     go_ret
     exact⟨ret_int (by rw[EE.out];rfl),BH.out⟩
end Go.Proofs.YtkihnodkhnahiaaGreatDoor.Tp

namespace Go.Proofs
open Go.Shelf
def Tryz.lays105_ren:Go.Shelf.Ren:=⟨fun | 105=>91 | 212=>107 | 99=>71 | 165=>82 | 166=>83 | 170=>108 | 169=>84 | 263=>122 | 264=>123 | 206=>96 | 240=>103 | 241=>104 | 276=>117 | 277=>118|n=>n,fun | 9=>9 | 3=>3 | 4=>4 | 20=>20 | 0=>0 | 46=>148 | 109=>149 | 5=>5 | 72=>133 | 76=>137 | 51=>163 | 146=>164 | 53=>154 | 148=>166 | 70=>130 | 37=>131 | 75=>136 | 127=>147 | 164=>159 | 80=>62|n=>n,fun|n=>n⟩
theorem Tryz.lays105:Go.Proofs.Lays.n105 Tryz.prog Tryz.lays105_ren:={
 mixed:=by kernel_rfl
 f99:=Tryz.func71.trans (congrArg some (by kernel_rfl))
 f105:=Tryz.func91.trans (congrArg some (by kernel_rfl))
 f165:=Tryz.func82.trans (congrArg some (by kernel_rfl))
 f166:=Tryz.func83.trans (congrArg some (by kernel_rfl))
 f169:=Tryz.func84.trans (congrArg some (by kernel_rfl))
 f170:=Tryz.func108.trans (congrArg some (by kernel_rfl))
 f206:=Tryz.func96.trans (congrArg some (by kernel_rfl))
 f212:=Tryz.func107.trans (congrArg some (by kernel_rfl))
 f240:=Tryz.func103.trans (congrArg some (by kernel_rfl))
 f241:=Tryz.func104.trans (congrArg some (by kernel_rfl))
 f263:=Tryz.func122.trans (congrArg some (by kernel_rfl))
 f264:=Tryz.func123.trans (congrArg some (by kernel_rfl))
 f276:=Tryz.func117.trans (congrArg some (by kernel_rfl))
 f277:=Tryz.func118.trans (congrArg some (by kernel_rfl))
 t0:=Tryz.underlying0
 a0:=Tryz.isAgg0
 z0:=Tryz.sizeOf0
 v0:=Tryz.zeroValue0
 t3:=Tryz.underlying3
 a3:=Tryz.isAgg3
 z3:=Tryz.sizeOf3
 v3:=Tryz.zeroValue3
 t4:=Tryz.underlying4
 a4:=Tryz.isAgg4
 z4:=Tryz.sizeOf4
 v4:=Tryz.zeroValue4
 t5:=Tryz.underlying5
 a5:=Tryz.isAgg5
 z5:=Tryz.sizeOf5
 v5:=Tryz.zeroValue5
 t9:=Tryz.underlying9
 a9:=Tryz.isAgg9
 z9:=Tryz.sizeOf9
 v9:=Tryz.zeroValue9
 t20:=Tryz.underlying20
 a20:=Tryz.isAgg20
 z20:=Tryz.sizeOf20
 v20:=Tryz.zeroValue20
 t37:=Tryz.underlying131
 a37:=Tryz.isAgg131
 z37:=Tryz.sizeOf131
 v37:=Tryz.zeroValue131
 t46:=Tryz.underlying148
 a46:=Tryz.isAgg148
 z46:=Tryz.sizeOf148
 v46:=Tryz.zeroValue148
 t51:=Tryz.underlying163
 a51:=Tryz.isAgg163
 z51:=Tryz.sizeOf163
 v51:=Tryz.zeroValue163
 t53:=Tryz.underlying154
 a53:=Tryz.isAgg154
 z53:=Tryz.sizeOf154
 v53:=Tryz.zeroValue154
 t70:=Tryz.underlying130
 a70:=Tryz.isAgg130
 z70:=Tryz.sizeOf130
 v70:=Tryz.zeroValue130
 t72:=Tryz.underlying133
 a72:=Tryz.isAgg133
 z72:=Tryz.sizeOf133
 v72:=Tryz.zeroValue133
 t75:=Tryz.underlying136
 a75:=Tryz.isAgg136
 z75:=Tryz.sizeOf136
 v75:=Tryz.zeroValue136
 t76:=Tryz.underlying137
 a76:=Tryz.isAgg137
 z76:=Tryz.sizeOf137
 v76:=Tryz.zeroValue137
 t109:=Tryz.underlying149
 a109:=Tryz.isAgg149
 z109:=Tryz.sizeOf149
 v109:=Tryz.zeroValue149
 t127:=Tryz.underlying147
 a127:=Tryz.isAgg147
 z127:=Tryz.sizeOf147
 v127:=Tryz.zeroValue147
 t146:=Tryz.underlying164
 a146:=Tryz.isAgg164
 z146:=Tryz.sizeOf164
 v146:=Tryz.zeroValue164
 t148:=Tryz.underlying166
 a148:=Tryz.isAgg166
 z148:=Tryz.sizeOf166
 v148:=Tryz.zeroValue166
 t164:=Tryz.underlying159
 a164:=Tryz.isAgg159
 z164:=Tryz.sizeOf159
 v164:=Tryz.zeroValue159 }
theorem Tryz.Builder_Extra_105:Builder.Extra Tryz.prog Tryz.lays105_ren:={
 sizeBuilder:=by kernel_rfl
 liesBuilder:=by kernel_rfl
 t5:=Tryz.underlying5
 a5:=Tryz.isAgg5
 z5:=Tryz.sizeOf5
 v5:=Tryz.zeroValue5
 infoByte:=by kernel_rfl
 cellsByte:=by kernel_rfl
 sizeByte:=by kernel_rfl
 neB5:=by decide }
open Go.RowKit Go.Lib in
theorem Tryz.strings_Repeat (s:ByteArray)(c:Nat)(w:World)(hc:c≤9223372036854775807)(hlen:s.size*c≤140737488355328) :
  Calls Tryz.prog 91 #[.string s,.int .i64 c] w fun e w'=>e=.returned (.string ⟨(Lib.repeatL s.data.toList c).toArray⟩)∧Below w.heap.size w w':=Any.strings_Repeat Tryz.lays105 Tryz.Builder_Extra_105 s c w hc hlen
end Go.Proofs

namespace Go.Proofs.YtkihnodkhnahiaaGreatDoor.Tp
open Go.RowKit
theorem marks_more (m:Nat):(⟨#[36]⟩:ByteArray)++⟨(Lib.repeatL [36] m).toArray⟩=marks (m+1):=by
 unfold marks
 rw[List.replicate_succ,show Lib.repeatL [36] m=List.replicate m 36 from by have:=Lib.repeatL_replicate 36 1 m;simpa using this]
 show bytes [36]++bytes (List.replicate m 36)=_
 rw[bytes_app];rfl
set_option maxRecDepth 100000 in
set_option maxHeartbeats 1600000 in
theorem apart_any (c:Co)(S:Nat→Prop)(a:Option Addr)(n:Nat)(ka:Option Addr)(kn:Nat)(w:World)(hC:CoAt S w c a n ka kn)(hn:∀ b,S b→b<w.heap.size)(hd:bindsC c≤100000) :
  Calls Tryz.prog 58 #[cv c a n ka kn,.int .i64 0] w (fun e w'=>e=.returned (.string (apartC c))∧Below w.heap.size w w'):=by
  have DE:Hid (bindsL c.kids≤100000):=Lib.hid (by rw[bindsC_eq] at hd;omega)
  have HC:=Lib.hid hC
  have HN:=Lib.hid hn
  have hz:=(Below.refl w.heap.size w).alloc (Nat.le_refl _) (.cells #[.int .i64 c.kind,.string c.name,.int .i64 c.n,.int .i64 c.t.kind,.string c.t.name,.int .i64 c.t.n,.slice a c.t.args.length n,.slice ka c.kids.length kn] 33)
  have hkl:c.kids.length≤9223372036854775807:=by obtain⟨_,_,_,h⟩:=hC.k.form;exact h
  have B0:=Lib.hid hz
  clear hC hn hd hz
  unfold cv
  go_enter Tryz.func58,Tryz.ntmps58
  go_wp2
  go_loopw [1,10] (fun mv iv wr=>∃ i:Nat,iv=.int .i64 i∧i≤c.kids.length∧mv=.int .i64 (bindsL (c.kids.take i):Nat)∧Below w.heap.size w wr) (fun _ iv _=>c.kids.length - (intOf iv).toNat)
  case atStart=>exact⟨0,rfl,Nat.zero_le _,by simp[bindsL],B0.out⟩
  case round =>
   obtain⟨i,rfl,hil,rfl,hB⟩:=hrel
   have z0:(0:Int)≤(i:Int):=by omega
   have BH:=Lib.hid hB
   by_cases hi:i<c.kids.length
   ·have z1:(i:Int)<(c.kids.length:Int):=by omega
    obtain⟨b,off,a1,n1,a2,n2,rfl,hb,hf,hs,hk⟩:=HC.out.k.at_ hi
    have hn:=HN.out
    obtain⟨f0,f1,f2,f3,f4,f5,f6,f7⟩:=hf.keep (hB.block b (hn b hb))
    have hm:=List.getElem_mem hi
    have hbi:=binds_kid _ hm
    have CH:=Lib.hid (fun (W:World) (hb:Below w.heap.size w W)=>binds_any _ S a1 n1 a2 n2 W ⟨hs.keep fun b hS=>hb.block b (hn b hS),hk.keep fun b hS=>hb.block b (hn b hS)⟩ (fun b hS=>Nat.lt_of_lt_of_le (hn b hS) hb.size) (by have:=DE.out;omega))
    have DT:=Lib.hid (bindsL_take _ _ hi)
    have hdl:bindsL (c.kids.take i)≤bindsL c.kids:=by
     conv=>rhs;rw[← List.take_append_drop i c.kids,bindsL_append]
     omega
    have hd1:bindsL (c.kids.take i)≤100000:=by have:=DE.out;omega
    have hd2:bindsC c.kids[i]≤100000:=by have:=DE.out;omega
    have hsz:=hB.size
    clear hf hs hk hB hm hbi hn hb hdl
    unfold cv at CH
    generalize c.kids[i]=x at *
    generalize bindsL (c.kids.take i)=m at *
    have em:(if m<bindsC x then (bindsC x:Int) else (m:Int))=((max m (bindsC x):Nat):Int):=by split<;>omega
    go_wp2_with fail
    refine (CH.out _ (BH.out.alloc (by omega) _)).mono ?_
    rintro e w4 ⟨rfl,B4⟩
    have B5:=Lib.hid ((BH.out.alloc (by omega) (.cells #[.int .i64 x.kind,.string x.name,.int .i64 x.n,.int .i64 x.t.kind,.string x.t.name,.int .i64 x.t.n,.slice a1 x.t.args.length n1,.slice a2 x.kids.length n2] 33)).trans (B4.mono (by simp;omega)))
    clear B4
    go_wp2
    go_roundw
    case rel=>exact⟨i+1,by go_num,by omega,by rw[DT.out];congr 1;omega,B5.out⟩
    case measure=>simp[intOf];omega
   ·obtain rfl:i=c.kids.length:=by omega
    have hd1:bindsL c.kids≤100000:=DE.out
    have E:Hid (apartC c=marks (bindsL c.kids+1)):=Lib.hid rfl
    clear hB
    simp only[List.take_length]
    generalize bindsL c.kids=m at *
    have CR:=Lib.hid (Tryz.strings_Repeat ⟨#[36]⟩ m wr (by omega) (by show 1*m≤_;omega))
    have hsz:(⟨(Lib.repeatL [36] m).toArray⟩:ByteArray).size≤100000:=by
     show (Lib.repeatL [36] m).toArray.size≤_
     rw[List.size_toArray,Lib.repeatL_length];simpa using hd1
    have ES:=Lib.hid (marks_more m)
    go_wp2_with fail
    refine CR.out.mono ?_
    rintro e w5 ⟨rfl,hb5⟩
    have B6:=Lib.hid (BH.out.trans (hb5.mono BH.out.size))
    clear hb5
    generalize (⟨(Lib.repeatL [36] m).toArray⟩:ByteArray)=s at *
    have z1:(⟨#[36]⟩++s:ByteArray).size≤1000000:=by rw[ByteArray.size_append];show 1+s.size≤_;omega
    go_wp2
    go_ret
    exact⟨by rw[E.out,← ES.out];rfl,B6.out⟩
end Go.Proofs.YtkihnodkhnahiaaGreatDoor.Tp

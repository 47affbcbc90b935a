/- Packed. -/
import Derived.Test.YtkihnodkhnahiaaGreatDoorP43
set_option maxRecDepth 100000
set_option maxHeartbeats 6400000
namespace Go.Proofs.YtkihnodkhnahiaaGreatDoor.Tp
section
open Go.RowKit
open Lx
def Z8 (w:World)(b:Nat)(u0 u1 u2 u3 u4 u5 u6 u7:Value):Prop:=w.heap[b]? = some (.cells #[u0,u1,u2,u3,u4,u5,u6,u7] 59 (0,0))
section
variable {w w' : World} {b : Nat} {u0 u1 u2 u3 u4 u5 u6 u7 : Value}
theorem Z8.c0 (h:Z8 w b u0 u1 u2 u3 u4 u5 u6 u7):w.cell? ⟨b,0,none⟩=some u0:=cell_of_row w b 0 _ _ _ h
theorem Z8.c1 (h:Z8 w b u0 u1 u2 u3 u4 u5 u6 u7):w.cell? ⟨b,1,none⟩=some u1:=cell_of_row w b 1 _ _ _ h
theorem Z8.c2 (h:Z8 w b u0 u1 u2 u3 u4 u5 u6 u7):w.cell? ⟨b,2,none⟩=some u2:=cell_of_row w b 2 _ _ _ h
theorem Z8.c3 (h:Z8 w b u0 u1 u2 u3 u4 u5 u6 u7):w.cell? ⟨b,3,none⟩=some u3:=cell_of_row w b 3 _ _ _ h
theorem Z8.c4 (h:Z8 w b u0 u1 u2 u3 u4 u5 u6 u7):w.cell? ⟨b,4,none⟩=some u4:=cell_of_row w b 4 _ _ _ h
theorem Z8.c5 (h:Z8 w b u0 u1 u2 u3 u4 u5 u6 u7):w.cell? ⟨b,5,none⟩=some u5:=cell_of_row w b 5 _ _ _ h
theorem Z8.c6 (h:Z8 w b u0 u1 u2 u3 u4 u5 u6 u7):w.cell? ⟨b,6,none⟩=some u6:=cell_of_row w b 6 _ _ _ h
theorem Z8.c7 (h:Z8 w b u0 u1 u2 u3 u4 u5 u6 u7):w.cell? ⟨b,7,none⟩=some u7:=cell_of_row w b 7 _ _ _ h
theorem Z8.fr (h:Z8 w b u0 u1 u2 u3 u4 u5 u6 u7)(i:Nat):w.frozen? ⟨b,i,none⟩=false:=by unfold Z8 at h;simp[World.frozen?,h]
theorem Z8.c07 (h:Z8 w b u0 u1 u2 u3 u4 u5 u6 u7):w.cell? ⟨b,0,none⟩=some u0∧w.cell? ⟨b,1,none⟩=some u1∧w.cell? ⟨b,2,none⟩=some u2∧w.cell? ⟨b,3,none⟩=some u3∧w.cell? ⟨b,4,none⟩=some u4∧w.cell? ⟨b,5,none⟩=some u5∧w.cell? ⟨b,6,none⟩=some u6∧w.cell? ⟨b,7,none⟩=some u7:=⟨h.c0,h.c1,h.c2,h.c3,h.c4,h.c5,h.c6,h.c7⟩
theorem Z8.f07 (h:Z8 w b u0 u1 u2 u3 u4 u5 u6 u7):w.frozen? ⟨b,0,none⟩=false∧w.frozen? ⟨b,1,none⟩=false∧w.frozen? ⟨b,2,none⟩=false∧w.frozen? ⟨b,3,none⟩=false∧w.frozen? ⟨b,4,none⟩=false∧w.frozen? ⟨b,5,none⟩=false∧w.frozen? ⟨b,6,none⟩=false∧w.frozen? ⟨b,7,none⟩=false:=⟨h.fr 0,h.fr 1,h.fr 2,h.fr 3,h.fr 4,h.fr 5,h.fr 6,h.fr 7⟩
theorem Z8.c03 (h:Z8 w b u0 u1 u2 u3 u4 u5 u6 u7):w.cell? ⟨b,0,none⟩=some u0∧w.cell? ⟨b,1,none⟩=some u1∧w.cell? ⟨b,2,none⟩=some u2∧w.cell? ⟨b,3,none⟩=some u3:=⟨h.c0,h.c1,h.c2,h.c3⟩
theorem Z8.f03 (h:Z8 w b u0 u1 u2 u3 u4 u5 u6 u7):w.frozen? ⟨b,0,none⟩=false∧w.frozen? ⟨b,1,none⟩=false∧w.frozen? ⟨b,2,none⟩=false∧w.frozen? ⟨b,3,none⟩=false:=⟨h.fr 0,h.fr 1,h.fr 2,h.fr 3⟩
theorem Z8.lt (h:Z8 w b u0 u1 u2 u3 u4 u5 u6 u7):b<w.heap.size:=(Array.getElem?_eq_some_iff.1 h).1
theorem Z8.new (w:World)(u0 u1 u2 u3 u4 u5 u6 u7:Value):Z8 (w.alloc (.cells #[u0,u1,u2,u3,u4,u5,u6,u7] 59)) w.heap.size u0 u1 u2 u3 u4 u5 u6 u7:=heap_alloc_new w _
theorem Z8.grown {r:Option Nat}(h:Z8 w b u0 u1 u2 u3 u4 u5 u6 u7)(hg:w.grownBy w' r)(hr:r≠some b):Z8 w' b u0 u1 u2 u3 u4 u5 u6 u7:=(hg.block b h.lt (Ne.symm hr)).trans h
theorem Z8.low (h:Z8 w b u0 u1 u2 u3 u4 u5 u6 u7)(hb:Below w.heap.size w w'):Z8 w' b u0 u1 u2 u3 u4 u5 u6 u7:=(hb.block b h.lt).trans h
theorem Z8.set (h:Z8 w b u0 u1 u2 u3 u4 u5 u6 u7)(i:Nat)(u:Value):(w.setCell ⟨b,i,none⟩ u).heap[b]? = some (.cells (#[u0,u1,u2,u3,u4,u5,u6,u7].setIfInBounds i u) 59 (0,0)):=ak_ h u
end
theorem Z8.set80 {W:World}{R:Nat}(u0 u1 u2 u3 u4 u5 u6 u7:Value){x0 x1 x2 x3 x4 x5 x6 x7:Value}(h:Z8 W R x0 x1 x2 x3 x4 x5 x6 x7):Z8 (st80 W R u0 u1 u2 u3 u4 u5 u6 u7) R u0 u1 u2 u3 u4 u5 u6 u7:=by
 unfold Z8 at *;unfold st80;rw[ak_ (ak_ (ak_ (ak_ (ak_ (ak_ (ak_ (ak_ h u0) u1) u2) u3) u4) u5) u6) u7];simp
structure iM_ (lo:Nat)(w:World)(v:Value)(acc:List Co)(ps:List (Value × Value)):Prop where
 own:w.ownsRow lo 59 8 v acc.length (dO_ acc ps)
 len:ps.length=acc.length
 at_:∀ (j:Nat) (c:Co) (p:Value × Value),acc[j]? = some c→ps[j]? = some p→ac_ (fun b=>lo≤b∧b<w.heap.size∧v.ownBlock≠some b) w p.1 c.t.args∧bu_ (fun b=>lo≤b∧b<w.heap.size∧v.ownBlock≠some b) w p.2 c.kids
theorem iM_.nil (lo:Nat)(w:World):iM_ lo w (.slice none 0 0) [] []:=⟨World.ownsRow_nil _ _ _ _,rfl,by simp⟩
theorem iM_.keep {lo:Nat}{w w':World}{v:Value}{acc:List Co}{ps:List (Value × Value)}(h:iM_ lo w v acc ps)(hs:w.heap.size≤w'.heap.size)(hk:∀ b,lo≤b→b<w.heap.size→w'.heap[b]? = w.heap[b]?):iM_ lo w' v acc ps :=
 ⟨aF_ h.own fun b hb=>hk b (h.own.lt b hb).1 (h.own.lt b hb).2,h.len,fun j t sv h1 h2 =>
  ⟨((h.at_ j t sv h1 h2).1.keep fun b hb=>hk b hb.1 hb.2.1).mono fun b hb=>⟨hb.1,by have:=hb.2.1;omega,hb.2.2⟩,((h.at_ j t sv h1 h2).2.keep fun b hb=>hk b hb.1 hb.2.1).mono fun b hb=>⟨hb.1,by have:=hb.2.1;omega,hb.2.2⟩⟩⟩
theorem iM_.add {lo:Nat}{w w':World}{v v':Value}{p:Value × Value}{acc:List Co}{ps:List (Value × Value)}{c:Co}{S:Nat→Prop}(h:iM_ lo w v acc ps)(hx:ac_ S w p.1 c.t.args)(hk:bu_ S w p.2 c.kids)(hS:∀ b,S b→lo≤b∧b<w.heap.size∧v.ownBlock≠some b)
  (hg:w.grownBy w' v.ownBlock) (ho:w'.ownsRow lo 59 8 v' (acc.length+1) (dO_ acc ps++ga_ c p)) (hat:∀ b,v'.ownBlock=some b→v.ownBlock=some b∨w.heap.size≤b):iM_ lo w' v' (acc++[c]) (ps++[p]):=by
 have up:∀ {S:Nat→Prop},(∀ b,S b→lo≤b∧b<w.heap.size∧v.ownBlock≠some b)→(∀ b,S b→w'.heap[b]? = w.heap[b]?)∧∀ b,S b→lo≤b∧b<w'.heap.size∧v'.ownBlock≠some b:=fun {S} hS =>
  ⟨fun b hb=>hg.block b (hS b hb).2.1 (Ne.symm (hS b hb).2.2),fun b hb=>⟨(hS b hb).1,aX_ (hS b hb).2.1 hg.size,fun e=>by
   rcases hat b e with e|e
   ·exact (hS b hb).2.2 e
   ·have:=(hS b hb).2.1;omega⟩⟩
 have kp:∀ {S:Nat→Prop} {y:Value} {ts:List Ty},(∀ b,S b→lo≤b∧b<w.heap.size∧v.ownBlock≠some b)→ac_ S w y ts→ac_ (fun b=>lo≤b∧b<w'.heap.size∧v'.ownBlock≠some b) w' y ts:=fun hS hy=>(hy.keep (up hS).1).mono (up hS).2;have kk:∀ {S:Nat→Prop} {y:Value} {ts:List Co},(∀ b,S b→lo≤b∧b<w.heap.size∧v.ownBlock≠some b)→bu_ S w y ts→bu_ (fun b=>lo≤b∧b<w'.heap.size∧v'.ownBlock≠some b) w' y ts:=fun hS hy=>(hy.keep (up hS).1).mono (up hS).2;refine⟨by rw[fp_ _ _ _ _ h.len,List.length_append];exact ho,by simp[h.len],fun j u y h1 h2=>?_⟩
 rcases Nat.lt_or_ge j acc.length with hlt|hge
 ·rw[List.getElem?_append_left hlt] at h1
  rw[List.getElem?_append_left (by rw[h.len];exact hlt)] at h2;exact⟨kp (fun b hb=>hb) (h.at_ j u y h1 h2).1,kk (fun b hb=>hb) (h.at_ j u y h1 h2).2⟩
 ·have hj:j=acc.length:=by
   have:=(List.getElem?_eq_some_iff.1 h1).1;simp at this;omega
  subst hj;rw[List.getElem?_append_right (aw_ _)] at h1;rw[← h.len,List.getElem?_append_right (aw_ _)] at h2;simp at h1 h2;subst h1 h2;exact⟨kp hS hx,kk hS hk⟩
theorem iM_.args {lo:Nat}{w:World}{v:Value}{acc:List Co}{ps:List (Value × Value)}(h:iM_ lo w v acc ps)(hl:acc.length≤4000):bu_ (In lo w.heap.size) w v acc:=by
 rcases h.own.2 with ⟨rfl,h0⟩|⟨g,cap,cur,rfl,hb,hg,h1,h2,h3,h4⟩
 ·have:acc=[]:=List.eq_nil_of_length_eq_zero h0
  subst this;exact .nil _ _
 ·have hc:=h.own.cells (g:=g) rfl
  have hadd:∀ j,(⟨g,0,none⟩:Addr).add j=⟨g,j,none⟩:=fun j=>by unfold Addr.add;split<;>simp_all
  refine .mk g 0 cap acc (fun i=>(ps.getD i (.slice none 0 0,.slice none 0 0)).1) (fun i=>(ps.getD i (.slice none 0 0,.slice none 0 0)).2) ⟨hb,(Array.getElem?_eq_some_iff.1 hg).1⟩ (by omega) (fun i hi=>?_) (fun i hi=>?_) (fun i hi=>?_)
  ·have hi':i<ps.length:=by rw[h.len];exact hi
   have q:∀ j u,j<8→(ga_ acc[i] ps[i])[j]? = some u→w.cell? ⟨g,0+i*8+j,none⟩=some u:=fun j u hj hu=>by
    have:=hc (i*8+j) u (by rw[fL_ acc ps h.len i hi hi' j hj];exact hu);rw[hadd] at this;rw[Nat.zero_add];exact this
   simp only[List.getD_eq_getElem?_getD,List.getElem?_eq_getElem hi',Option.getD_some];exact⟨q 0 _ (by omega) rfl,q 1 _ (by omega) rfl,q 2 _ (by omega) rfl,q 3 _ (by omega) rfl,q 4 _ (by omega) rfl,q 5 _ (by omega) rfl,q 6 _ (by omega) rfl,q 7 _ (by omega) rfl⟩
  ·have hi':i<ps.length:=by rw[h.len];exact hi
   simp only[List.getD_eq_getElem?_getD,List.getElem?_eq_getElem hi',Option.getD_some];exact (h.at_ i _ _ (List.getElem?_eq_getElem hi) (List.getElem?_eq_getElem hi')).1.mono fun b hb=>⟨hb.1,hb.2.1⟩
  ·have hi':i<ps.length:=by rw[h.len];exact hi
   simp only[List.getD_eq_getElem?_getD,List.getElem?_eq_getElem hi',Option.getD_some];exact (h.at_ i _ _ (List.getElem?_eq_getElem hi) (List.getElem?_eq_getElem hi')).2.mono fun b hb=>⟨hb.1,hb.2.1⟩
theorem st_:(Tryz.prog.info? 59).map (fun i=>(i.zero,i.size,i.bytes))=some (some (.agg #[.int .i64 0,.string ByteArray.empty,.int .i64 0,.int .i64 0,.string ByteArray.empty,.int .i64 0,.slice none 0 0,.slice none 0 0]),8,112):=by kernel_rfl
theorem iM_.push {lo:Nat}{w:World}{v:Value}{acc:List Co}{ps:List (Value × Value)}(h:iM_ lo w v acc ps)(hlo:lo≤w.heap.size)(hl:acc.length≤100000){x:Co}{a:OA_}{n:Nat}{ka:OA_}{kn:Nat}
  (hx:bS_ (fun b=>lo≤b∧b<w.heap.size∧v.ownBlock≠some b) w x a n ka kn) :
  ∃ v' w',(Builtin.append_ #[57,57] 57 #[v,.slice (some ⟨w.heap.size,0,none⟩) 1 1]).run Tryz.prog (w.alloc (.cells #[.int .i64 x.kind,.string x.name,.int .i64 x.n,.int .i64 x.t.kind,.string x.t.name,.int .i64 x.t.n,.slice a x.t.args.length n,.slice ka x.kids.length kn] 59))=.ok v' w' ∧
   iM_ lo w' v' (acc++[x]) (ps++[(.slice a x.t.args.length n,.slice ka x.kids.length kn)])∧w.grownBy w' v.ownBlock∧w.heap.size<w'.heap.size:=by
 obtain⟨i0,hi0,hz0,hz1,hz3⟩:=info_parts st_;have hg0:w.grownBy (w.alloc (.cells #[.int .i64 x.kind,.string x.name,.int .i64 x.n,.int .i64 x.t.kind,.string x.t.name,.int .i64 x.t.n,.slice a x.t.args.length n,.slice ka x.kids.length kn] 59)) v.ownBlock:=⟨rfl,rfl,rfl,by simp,fun k hk _=>heap_alloc_old w _ hk⟩;obtain⟨g,cap,w',hr,ho,hg,hat,hlt⟩:=run_append_lies (P:=Tryz.prog) (w:=w.alloc (.cells #[.int .i64 x.kind,.string x.name,.int .i64 x.n,.int .i64 x.t.kind,.string x.t.name,.int .i64 x.t.n,.slice a x.t.args.length n,.slice ka x.kids.length kn] 59)) 57 57 lo 59 i0 _ 8 112 Tryz.underlying57 hi0 hz0 hz1 hz3 rfl (by omega) v acc.length (dO_ acc ps) (h.own.alloc _) ⟨w.heap.size,0,none⟩ 1 1
  (ga_ x (.slice a x.t.args.length n,.slice ka x.kids.length kn)) rfl (World.news_of_block (cs:=#[.int .i64 x.kind,.string x.name,.int .i64 x.n,.int .i64 x.t.kind,.string x.t.name,.int .i64 x.t.n,.slice a x.t.args.length n,.slice ka x.kids.length kn]) (t:=59) (fr:=(0,0)) (heap_alloc_new w _)) (by simp[ga_,Value.oneCell']) (by omega) (by unfold maxLen;omega) (by omega) (by simp;omega) (w.heap.size+1) (by simp)
 have hgg:w.grownBy w' v.ownBlock:=⟨hg.os.trans hg0.os,hg.tape.trans hg0.tape,hg.output.trans hg0.output,bm_ hg0.size hg.size,fun k hk hne=>(hg.block k (by simp;omega) hne).trans (hg0.block k hk hne)⟩;have hsz:=hg.size;simp only[World.size_alloc] at hsz;exact⟨_,w',hr,h.add hx.t hx.k (fun b hb=>hb) hgg ho (fun b e=>by
  rcases hat with e3|e3
  ·exact .inl (e3.trans (by simpa [Value.ownBlock] using e))
  ·refine .inr ?_
   have:g=b:=by simpa [Value.ownBlock] using e
   omega),hgg,by omega⟩
theorem iM_.form {lo:Nat}{w:World}{v:Value}{acc:List Co}{ps:List (Value × Value)}(h:iM_ lo w v acc ps):∃ a c,v=.slice a acc.length c:=a2_ h.own
theorem ss_ (k:Nat)(s:List UInt8)(w:World)(a:OA_)(c:Nat)(l:List Tok)(i:Nat)(hi:l.length≤i) :
  Calls Tryz.prog 50 #[.slice a l.length c,.int .i64 i,.int .i64 (k:Int),.string ⟨s.toArray⟩] w fun e w'=>e=.returned (.bool (bf_ (l.drop i) k s))∧w=w':=by
 have HK:=hid (show bf_ (l.drop i) k s=false by rw[List.drop_of_length_le hi];rfl);have z1:¬ (i:Int)<(l.length:Int):=by omega
 clear hi;generalize l.length=n at *;go_enter Tryz.func50,Tryz.ntmps50;go_wp2;go_ret;exact⟨bx_ HK.out.symm,rfl⟩
theorem ge_ (k:Nat)(s:List UInt8)(w:World)(a:OA_)(c:Nat)(l:List Tok)(i:Nat)(ht:aO_ w (.slice a l.length c) l) :
  Calls Tryz.prog 50 #[.slice a l.length c,.int .i64 i,.int .i64 (k:Int),.string ⟨s.toArray⟩] w fun e w'=>e=.returned (.bool (bf_ (l.drop i) k s))∧w=w':=by
 by_cases h:i≤l.length
 ·exact eI_ k s w a c l i ht h
 ·exact ss_ k s w a c l i (by omega)
structure XuM (w:World)(O:Nat)(wr:World)(k:Int)(s:ByteArray)(n:Int)(v:Value)(acc:List Co)(ps:List (Value × Value)):Prop where
 g:Below w.heap.size w wr
 lo:w.heap.size<O
 sz:O+1≤wr.heap.size
 r:Z8 wr w.heap.size (.int .i64 0) (.string ⟨#[]⟩) (.int .i64 0) (.int .i64 0) (.string ⟨#[]⟩) (.int .i64 0) (.slice none 0 0) (.slice none 0 0)
 o:Z8 wr O (.int .i64 k) (.string s) (.int .i64 n) (.int .i64 0) (.string ⟨#[]⟩) (.int .i64 0) (.slice none 0 0) v
 row:iM_ (O+1) wr v acc ps
section
variable {w wr w' : World} {O : Nat} {k : Int} {s : ByteArray} {n : Int} {v : Value} {acc : List Co} {ps : List (Value × Value)}
theorem XuM.low (h:XuM w O wr k s n v acc ps)(hb:Below wr.heap.size wr w'):XuM w O w' k s n v acc ps :=
 ⟨h.g.trans (hb.mono h.g.size),h.lo,bm_ h.sz hb.size,h.r.low hb,h.o.low hb,h.row.keep hb.size fun b _ hb'=>hb.block b hb'⟩
theorem kC_ {O lo:Nat}(h:iM_ lo wr v acc ps)(hO:O<lo)(i:Nat)(u:Value):iM_ lo (wr.setCell ⟨O,i,none⟩ u) v acc ps:=h.keep (by simp) fun b hb _=>aM_ _ _ _ _ (by show b≠O;omega)
theorem XuM.set (h:XuM w O wr k s n v acc ps)(i:Nat)(u:Value){k':Int}{s':ByteArray}{n':Int}
  (e:#[.int .i64 k,.string s,.int .i64 n,.int .i64 0,.string ⟨#[]⟩,.int .i64 0,.slice none 0 0,v].setIfInBounds i u=#[.int .i64 k',.string s',.int .i64 n',.int .i64 0,.string ⟨#[]⟩,.int .i64 0,.slice none 0 0,v]):XuM w O (wr.setCell ⟨O,i,none⟩ u) k' s' n' v acc ps:=by
 have hlo:=h.lo;refine⟨h.g.setCell (p:=⟨O,i,none⟩) (by show _≤O;omega) u,hlo,by simpa using h.sz,(aM_ _ _ _ _ (by show w.heap.size≠O;omega)).trans h.r,?_,kC_ h.row (by omega) i u⟩;have:=h.o.set i u;rw[e] at this;exact this
theorem XuM.pushed (h:XuM w O wr k s n v acc ps){v':Value}{y:Co}{ps':List (Value × Value)}(hr:iM_ (O+1) w' v' (acc++[y]) ps')(hg:wr.grownBy w' v.ownBlock):XuM w O (w'.setCell ⟨O,7,none⟩ v') k s n v' (acc++[y]) ps':=by
 have hv:∀ b,v.ownBlock=some b→O+1≤b:=fun b e=>(h.row.own.lt b e).1;have hsz:=h.sz;have hlo:=h.lo;have gs:=hg.size;refine⟨(h.g.grown hg (by omega) fun b e=>by have:=hv b e;omega).setCell (p:=⟨O,7,none⟩) (by show _≤O;omega) v',hlo,by simp;omega,(aM_ _ _ _ _ (by show w.heap.size≠O;omega)).trans (h.r.grown hg fun e=>by have:=hv _ e;omega),?_,kC_ hr (by omega) 7 v'⟩;have:=(h.o.grown hg fun e=>by have:=hv _ e;omega).set 7 v';exact this
theorem XuM.new (w w5:World)(k:Nat)(hb:Below (w.heap.size+1) (w.alloc (.cells #[.int .i64 0,.string ⟨#[]⟩,.int .i64 0,.int .i64 0,.string ⟨#[]⟩,.int .i64 0,.slice none 0 0,.slice none 0 0] 59)) w5):XuM w w5.heap.size (w5.alloc (.cells #[.int .i64 k,.string ⟨#[]⟩,.int .i64 0,.int .i64 0,.string ⟨#[]⟩,.int .i64 0,.slice none 0 0,.slice none 0 0] 59)) k ⟨#[]⟩ 0 (.slice none 0 0) [] []:=by
 have h1:=ao_ w (.cells #[.int .i64 0,.string ⟨#[]⟩,.int .i64 0,.int .i64 0,.string ⟨#[]⟩,.int .i64 0,.slice none 0 0,.slice none 0 0] 59);have hs:=hb.size;simp only[World.size_alloc] at hs;have h5:=h1.trans (hb.mono (by omega));have h6:=ao_ w5 (.cells #[.int .i64 k,.string ⟨#[]⟩,.int .i64 0,.int .i64 0,.string ⟨#[]⟩,.int .i64 0,.slice none 0 0,.slice none 0 0] 59);refine⟨h5.trans (h6.mono h5.size),by omega,by simp,?_,Z8.new _ _ _ _ _ _ _ _ _,.nil _ _⟩;exact ((Z8.new w _ _ _ _ _ _ _ _).low (hb.mono (by simp))).low h6
end
def d2_ (w:World)(L:Nat)(res:Option (Co × List Tok))(e:Ending)(w':World):Prop :=
 Below w.heap.size w w'∧match res with
 | none=>∃ (k:Int) (s:ByteArray) (n:Int) (tk:Int) (ts:ByteArray) (tn:Int) (a:OA_) (al ac:Nat) (b:OA_) (bl bc:Nat),e=.returned (.tuple #[.agg #[.int .i64 k,.string s,.int .i64 n,.int .i64 tk,.string ts,.int .i64 tn,.slice a al ac,.slice b bl bc],.int .i64 (-1)])
 | some (c,r)=>∃ a n ka kn,e=.returned (.tuple #[cv c a n ka kn,.int .i64 ((L - r.length:Nat):Int)])∧bS_ (In w.heap.size w'.heap.size) w' c a n ka kn
def fM_ (n:Nat):Prop:=∀ (w:World) (a:OA_) (c:Nat) (l:List Tok) (i:Nat),aO_ w (.slice a l.length c) l→(∀ b o,a=some ⟨b,o,none⟩→b<w.heap.size)→hl_ l→(∀ t∈l,be_ t)→l.length≤4000→i≤l.length→4*(l.length - i)+1≤n→Calls Tryz.prog 21 #[.slice a l.length c,.int .i64 i] w (d2_ w l.length (coF n (l.drop i)))
theorem zend {w wr:World}{x:Co}{a:OA_}{n:Nat}{ka:OA_}{kn:Nat}{u0 u1 u2 u3 u4 u5 u6 u7:Value}(g:Below w.heap.size w wr)(k:Z8 wr w.heap.size u0 u1 u2 u3 u4 u5 u6 u7)
  (hx:bS_ (In (w.heap.size+1) wr.heap.size) wr x a n ka kn) :
  Z8 (st80 wr w.heap.size (.int .i64 x.kind) (.string x.name) (.int .i64 x.n) (.int .i64 x.t.kind) (.string x.t.name) (.int .i64 x.t.n) (.slice a x.t.args.length n) (.slice ka x.kids.length kn)) w.heap.size (.int .i64 x.kind) (.string x.name) (.int .i64 x.n) (.int .i64 x.t.kind) (.string x.t.name) (.int .i64 x.t.n) (.slice a x.t.args.length n) (.slice ka x.kids.length kn) ∧
  ∀ (L:Nat) (res:Option (Co × List Tok)) (pos:Int),(match res with|some (c',r)=>x=c'∧pos=((L - r.length:Nat):Int)|none=>pos = -1) →
   d2_ w L res (.returned (.tuple #[cv x a n ka kn,.int .i64 pos])) (st80 wr w.heap.size (.int .i64 x.kind) (.string x.name) (.int .i64 x.n) (.int .i64 x.t.kind) (.string x.t.name) (.int .i64 x.t.n) (.slice a x.t.args.length n) (.slice ka x.kids.length kn)):=by
 have hz:(st80 wr w.heap.size (.int .i64 x.kind) (.string x.name) (.int .i64 x.n) (.int .i64 x.t.kind) (.string x.t.name) (.int .i64 x.t.n) (.slice a x.t.args.length n) (.slice ka x.kids.length kn)).heap.size=wr.heap.size:=by simp
 refine⟨Z8.set80 _ _ _ _ _ _ _ _ k,fun L res pos h=>⟨aD_ g (aw_ _) _ _ _ _ _ _ _ _,?_⟩⟩;cases res with
 | none=>subst h;exact⟨_,_,_,_,_,_,_,_,_,_,_,_,rfl⟩
 | some p =>
  obtain⟨c',r⟩:=p;obtain⟨rfl,rfl⟩:=h;refine⟨a,n,ka,kn,rfl,(hx.keep fun b hb=>?_).mono fun b hb=>⟨by have:=hb.1;omega,by rw[hz];exact hb.2⟩⟩;rw[im_];exact gK_ _ _ _ _ _ _ _ _ _ _ _ (by have:=hb.1;omega)
theorem XuM.end_ {w wr:World}{O:Nat}{k:Int}{s:ByteArray}{n:Int}{av:OA_}{cw:Nat}{acc:List Co}{ps:List (Value × Value)}(h:XuM w O wr k s n (.slice av acc.length cw) acc ps)(hl:acc.length≤4000) :
  Z8 (st80 wr w.heap.size (.int .i64 k) (.string s) (.int .i64 n) (.int .i64 0) (.string ⟨#[]⟩) (.int .i64 0) (.slice none 0 0) (.slice av acc.length cw)) w.heap.size (.int .i64 k) (.string s) (.int .i64 n) (.int .i64 0) (.string ⟨#[]⟩) (.int .i64 0) (.slice none 0 0) (.slice av acc.length cw) ∧
  ∀ (L:Nat) (res:Option (Co × List Tok)) (pos:Int),(match res with|some (c',r)=>Co.mk k s n tz acc=c'∧pos=((L - r.length:Nat):Int)|none=>pos = -1) →
   d2_ w L res (.returned (.tuple #[.agg #[.int .i64 k,.string s,.int .i64 n,.int .i64 0,.string ⟨#[]⟩,.int .i64 0,.slice none 0 0,.slice av acc.length cw],.int .i64 pos])) (st80 wr w.heap.size (.int .i64 k) (.string s) (.int .i64 n) (.int .i64 0) (.string ⟨#[]⟩) (.int .i64 0) (.slice none 0 0) (.slice av acc.length cw)):=by
 have hlo:=h.lo;obtain⟨h1,h2⟩:=zend (x:=.mk k s n tz acc) (a:=none) (n:=0) (ka:=av) (kn:=cw) h.g h.r ⟨.nil _ _,(h.row.args hl).mono fun b hb=>⟨by have:=hb.1;omega,hb.2⟩⟩;exact⟨h1,h2⟩
open Lx
theorem XuM.newN (w w5:World)(k:Int)(s:ByteArray)(n:Int)(hb:Below (w.heap.size+1) (w.alloc (.cells #[.int .i64 0,.string ⟨#[]⟩,.int .i64 0,.int .i64 0,.string ⟨#[]⟩,.int .i64 0,.slice none 0 0,.slice none 0 0] 59)) w5):XuM w w5.heap.size (w5.alloc (.cells #[.int .i64 k,.string s,.int .i64 n,.int .i64 0,.string ⟨#[]⟩,.int .i64 0,.slice none 0 0,.slice none 0 0] 59)) k s n (.slice none 0 0) [] []:=by
 have h1:=ao_ w (.cells #[.int .i64 0,.string ⟨#[]⟩,.int .i64 0,.int .i64 0,.string ⟨#[]⟩,.int .i64 0,.slice none 0 0,.slice none 0 0] 59);have hs:=hb.size;simp only[World.size_alloc] at hs;have h5:=h1.trans (hb.mono (by omega));have h6:=ao_ w5 (.cells #[.int .i64 k,.string s,.int .i64 n,.int .i64 0,.string ⟨#[]⟩,.int .i64 0,.slice none 0 0,.slice none 0 0] 59);refine⟨h5.trans (h6.mono h5.size),by omega,by simp,?_,Z8.new _ _ _ _ _ _ _ _ _,.nil _ _⟩;exact ((Z8.new w _ _ _ _ _ _ _ _).low (hb.mono (by simp))).low h6
open Lx
def mA_ (w:World)(O:Nat)(v0 v1 v2 v3:Value):World:=(((w.setCell ⟨O,3,none⟩ v0).setCell ⟨O,4,none⟩ v1).setCell ⟨O,5,none⟩ v2).setCell ⟨O,6,none⟩ v3
theorem in_ (w:World)(O:Nat)(v0 v1 v2 v3:Value)(b:Nat)(hb:b≠O):(mA_ w O v0 v1 v2 v3).heap[b]? = w.heap[b]? := by
 unfold mA_;rw[aM_ _ _ _ _ hb,aM_ _ _ _ _ hb,aM_ _ _ _ _ hb,aM_ _ _ _ _ hb]
theorem i3_ (w:World)(O:Nat)(v0 v1 v2 v3:Value):(mA_ w O v0 v1 v2 v3).heap.size=w.heap.size:=by unfold mA_;simp
theorem lF_ {m O:Nat}(w:World)(v0 v1 v2 v3:Value)(h:m≤O):Below m w (mA_ w O v0 v1 v2 v3):=by
 unfold mA_;exact ((((Below.refl m w).setCell (p:=⟨O,3,none⟩) h v0).setCell (p:=⟨O,4,none⟩) h v1).setCell (p:=⟨O,5,none⟩) h v2).setCell (p:=⟨O,6,none⟩) h v3
theorem XuM.zero4 {w W:World}{O:Nat}{k:Int}{s:ByteArray}{n:Int}{v:Value}{acc:List Co}{ps:List (Value × Value)}(h:XuM w O W k s n v acc ps)(v0 v1 v2 v3:Value) :
  Z8 (mA_ W O v0 v1 v2 v3) w.heap.size (.int .i64 0) (.string ⟨#[]⟩) (.int .i64 0) (.int .i64 0) (.string ⟨#[]⟩) (.int .i64 0) (.slice none 0 0) (.slice none 0 0) :=
 (in_ W O v0 v1 v2 v3 _ (by have:=h.lo;omega)).trans h.r
theorem XuM.typed {w W:World}{O:Nat}{k:Int}{s:ByteArray}{n:Int}{av:OA_}{cw:Nat}{acc:List Co}{ps:List (Value × Value)}{t:Ty}{a:OA_}{c:Nat}(h:XuM w O W k s n (.slice av acc.length cw) acc ps)(hl:acc.length≤4000)
  (hA:ac_ (fun b=>O+1≤b∧b<W.heap.size) W (.slice a t.args.length c) t.args) :
  Z8 (mA_ W O (.int .i64 t.kind) (.string t.name) (.int .i64 t.n) (.slice a t.args.length c)) O (.int .i64 k) (.string s) (.int .i64 n) (.int .i64 t.kind) (.string t.name) (.int .i64 t.n) (.slice a t.args.length c) (.slice av acc.length cw) ∧
  Below w.heap.size w (mA_ W O (.int .i64 t.kind) (.string t.name) (.int .i64 t.n) (.slice a t.args.length c)) ∧
  bS_ (In (w.heap.size+1) (mA_ W O (.int .i64 t.kind) (.string t.name) (.int .i64 t.n) (.slice a t.args.length c)).heap.size) (mA_ W O (.int .i64 t.kind) (.string t.name) (.int .i64 t.n) (.slice a t.args.length c)) (.mk k s n t acc) a c av cw:=by
 have hlo:=h.lo;refine⟨?_,h.g.trans (lF_ W _ _ _ _ (by omega)),⟨?_,?_⟩⟩
 ·have h0:=h.o
  unfold Z8 at h0 ⊢;unfold mA_;rw[ak_ (ak_ (ak_ (ak_ h0 _) _) _) _];simp
 ·rw[i3_]
  exact (hA.keep fun b hb=>in_ W O _ _ _ _ b (by omega)).mono fun b hb=>⟨by have:=hb.1;omega,hb.2⟩
 ·rw[i3_]
  exact ((h.row.args hl).keep fun b hb=>in_ W O _ _ _ _ b (by have:=hb.1;omega)).mono fun b hb=>⟨by have:=hb.1;omega,hb.2⟩
open Lx
theorem eB_ (s:List UInt8)(w:World):Calls Tryz.prog 52 #[.string (aa_ s)] w fun e w'=>e=.returned (.int .i64 (ay_ s:Int))∧Below w.heap.size w w':=by
 have SZ:Hid (Below w.heap.size w (w.alloc (.cells #[.string ⟨#[83,121,109]⟩,.string ⟨#[84,114,97,110,115]⟩,.string ⟨#[67,111,110]⟩,.string ⟨#[70,117,110]⟩,.string ⟨#[65,108,108]⟩,.string ⟨#[78,116,104]⟩,.string ⟨#[73,110,115,116]⟩] 9))):=hid (ao_ w _);have hrow:∀ k,k<7→(w.alloc (.cells #[.string ⟨#[83,121,109]⟩,.string ⟨#[84,114,97,110,115]⟩,.string ⟨#[67,111,110]⟩,.string ⟨#[70,117,110]⟩,.string ⟨#[65,108,108]⟩,.string ⟨#[78,116,104]⟩,.string ⟨#[73,110,115,116]⟩] 9)).cell? ⟨w.heap.size,k,none⟩=some (.string (aa_ (aP_ ((k+3:Nat):Int)))):=fun k hk=>by
  rw[cell_of_row _ _ k _ _ (0,0) (heap_alloc_new w _)];have h:k=0∨k=1∨k=2∨k=3∨k=4∨k=5∨k=6:=by omega
  rcases h with rfl|rfl|rfl|rfl|rfl|rfl|rfl<;>rfl
 have HR:=hid hrow;clear hrow;go_enter Tryz.func52,Tryz.ntmps52;go_wp2
 go_loop [4] (fun iv=>∃ k:Nat,iv=.int .i64 k∧k≤7∧∀ j,j<k→ay_ s≠j+3) (fun iv=>7 - (intOf iv).toNat)
 case atStart=>exact⟨0,rfl,Nat.zero_le _,fun j h=>by omega⟩
 case round =>
  obtain⟨k,rfl,hk,hne⟩:=hrel;have z0:(0:Int)≤(k:Int):=by omega
  have NE:=hid hne
  by_cases hlt:k<7
  ·have z1:(k:Int)<7:=by omega
   have c0:=HR.out k hlt;obtain⟨q,e1,e2⟩:=de_ (aa_ (aP_ ((k+3:Nat):Int))) (aa_ s);have HE:Hid (q=true↔ay_ s=k+3):=hid (e2.trans ⟨fun e=>(bv_ s (k+3) (by omega) (by omega)).1 (b4_ e),fun e=>by rw[(bv_ s (k+3) (by omega) (by omega)).2 e]⟩);generalize aa_ (aP_ ((k+3:Nat):Int))=x at *;clear e2 hne;cases q with
   | true =>
    have HK:=hid (HE.out.1 rfl);clear HE;go_wp2;go_ret;exact⟨a9_ (by rw[HK.out];omega),SZ.out⟩
   | false =>
    have HN:Hid (ay_ s≠k+3):=hid (fun e=>by have:=HE.out.2 e;cases this);clear HE;go_wp2;go_round
    case rel=>exact⟨k+1,by go_num,by omega,fun j hj=>by
     rcases Nat.lt_or_ge j k with h|h
     ·exact NE.out j h
     ·obtain rfl:j=k:=by omega
      exact HN.out⟩
    case measure=>simp[intOf];omega
  ·obtain rfl:k=7:=by omega
   have E:Hid (ay_ s=0):=hid (by
    have h9:=en_ s
    rcases Nat.eq_zero_or_pos (ay_ s) with h|h
    ·exact h
    ·exact absurd (show ay_ s=(ay_ s - 3)+3 by omega) (NE.out (ay_ s - 3) (by omega)))
   clear hne;go_wp2;go_ret;exact⟨a9_ (by rw[E.out];rfl),SZ.out⟩
theorem m9_ (s:ByteArray)(w:World)(hs:s.size≤17)(hd:∀ c∈s.data.toList,aA_ c=true) :
  Calls Tryz.prog 53 #[.string s] w fun e w'=>e=.returned (.int .i64 (dw_ s.data.toList:Int))∧w=w':=by
 have hlen:s.data.toList.length=s.size:=by rw[Array.length_toList];rfl
 have HL:=hid hlen;have HD:=hid hd;clear hlen hd;go_enter Tryz.func53,Tryz.ntmps53;go_wp2
 go_loop [3,4] (fun x i=>∃ k:Nat,i=.int .i64 k∧k≤s.size∧x=.int .i64 (dw_ (s.data.toList.take k):Int)) (fun _ i=>s.size - (intOf i).toNat)
 case atStart=>exact⟨0,rfl,Nat.zero_le _,rfl⟩
 case round =>
  obtain⟨k,rfl,hk,rfl⟩:=hrel
  by_cases hlt:k<s.size
  ·have z0:(0:Int)≤(k:Int):=by omega
   have z1:(k:Int)<(s.size:Int):=(by omega);have hkl:k<s.data.toList.length:=by rw[HL.out];exact hlt
   have st:=hid (jk_ s.data.toList k hkl);have hb:=kT_ (s.data.toList.take k) (fun c hc=>HD.out c (List.mem_of_mem_take hc));have hp:10 ^ (s.data.toList.take k).length≤10 ^ 17:=Nat.pow_le_pow_right (by omega) (by rw[List.length_take];omega);have hdc:=HD.out _ (List.getElem_mem hkl);have eg:s.data.toList[k]=s[k]'hlt:=rfl;rw[eg] at st hdc;unfold aA_ at hdc;simp only[decide_eq_true_eq] at hdc;obtain⟨d1,d2⟩:=hdc;have b1:dw_ (s.data.toList.take k)<100000000000000000:=(by omega);have ST:=hid st.out;clear st hb hp eg hkl;generalize dw_ (s.data.toList.take k)=x at *;go_wp2;go_round
   case rel=>exact⟨k+1,by go_num,by omega,by rw[ST.out];congr 1;omega⟩
   case measure=>simp[intOf];omega
  ·obtain rfl:k=s.size:=by omega
   have E:Hid (s.data.toList.take s.size=s.data.toList):=hid (by rw[← HL.out,List.take_length]);go_wp2;go_ret;exact⟨a9_ (by rw[E.out]),rfl⟩
open Lx
theorem q4_ (w:World)(a:OA_)(c:Nat)(l:List Tok)(i:Nat)(ht:aO_ w (.slice a l.length c) l)(hb:∀ b o,a=some ⟨b,o,none⟩→b<w.heap.size)(hi:i≤l.length)(h1:st (l.drop i) 6 lts=false) :
  Calls Tryz.prog 51 #[.slice a l.length c,.int .i64 i] w (cW_ w l.length (dZ_ (l.drop i))):=by
 have hz:=ao_ w (.cells #[.int .i64 0,.string ⟨#[]⟩,.int .i64 0,.slice none 0 0] 56);have CI:=hid (eI_ 6 lts _ a c l i (aL_ ht hb hz) hi);have SQ:Hid (bf_ (l.drop i) 6 lts=false):=hid (by rw[cF_ (by decide)];exact h1);have E:Hid (dZ_ (l.drop i)=none):=hid (by unfold dZ_;rw[h1];rfl);have HZ:=hid hz;have b4:=R4.new w (.int .i64 0) (.string ⟨#[]⟩) (.int .i64 0) (.slice none 0 0);obtain⟨f0,f1,f2,f3⟩:=b4.f03;obtain⟨d0,d1,d2,d3⟩:=b4.c03;have K6:=hid b4;clear ht hb hz h1 b4;go_enter Tryz.func51,Tryz.ntmps51;go_wp2_with fail;refine CI.out.mono ?_;rintro e w1 ⟨he,rfl⟩;rw[SQ.out] at he;subst he;go_wp2;refine bodyPost_ret (v:=.tuple #[.agg #[.int .i64 0,.string ⟨#[]⟩,.int .i64 0,.slice none 0 0],.int .i64 (-1)]) (by simp[results,Tryz.results51,go_sem,K6.out.c0,K6.out.c1,K6.out.c2,K6.out.c3]) rfl ?_;rw[E.out];exact dg_ HZ.out
theorem eY_ (w:World)(a:OA_)(c:Nat)(l:List Tok)(i:Nat)(ht:aO_ w (.slice a l.length c) l)(hb:∀ b o,a=some ⟨b,o,none⟩→b<w.heap.size)(hr:hl_ l)(hl:l.length≤4000)(hi:i≤l.length) :
  Calls Tryz.prog 51 #[.slice a l.length c,.int .i64 i] w (cW_ w l.length (dZ_ (l.drop i))):=by
 by_cases h1:st (l.drop i) 6 lts=true
 case neg=>exact q4_ w a c l i ht hb hi (by simpa using h1)
 have hlt:i<l.length:=by have:=b8_ h1;rw[List.length_drop] at this;omega
 have hz:=ao_ w (.cells #[.int .i64 0,.string ⟨#[]⟩,.int .i64 0,.slice none 0 0] 56);have CI:=hid (eI_ 6 lts _ a c l i (aL_ ht hb hz) hi);have SQ0:Hid (bf_ (l.drop i) 6 lts=true):=hid (by rw[cF_ (by decide)];exact h1);have htl:(l.drop i).tail=l.drop (i+1):=List.tail_drop;have hrd:eo_ (l.drop (i+1))=bT_ (4*(l.drop (i+1)).length+4) (l.drop (i+1)):=rfl;have E:Hid (dZ_ (l.drop i)=match eo_ (l.drop (i+1)) with|none=>none|some (t,r)=>if st r 6 gts then some (t,r.tail) else none):=hid (by unfold dZ_;rw[if_pos h1,htl];cases eo_ (l.drop (i+1))<;>rfl);have cr:=(sd_ (4*(l.drop (i+1)).length+4)).typ _ a c l (i+1) (aL_ ht hb hz) (fun b' o' e=>aX_ (hb b' o' e) hz.size) hr hl (by omega) (by rw[List.length_drop];omega);rw[← hrd,show ((i+1:Nat):Int)=(i:Int)+1 from by omega] at cr;have CR:=hid cr;have SF:Hid (∀ t r,eo_ (l.drop (i+1))=some (t,r)→r <:+ l):=hid (fun t r e=>gI_ ((oQ_ (4*(l.drop (i+1)).length+4)).1 _ _ _ (hrd ▸ e)));clear cr hrd;have CJ:=hid (fun (W:World) (h:Below w.heap.size w W) (j:Nat) (hj:j≤l.length)=>eI_ 6 gts W a c l j (aL_ ht hb h) hj);have HZ:=hid hz;have b4:=hid (R4.new w (.int .i64 0) (.string ⟨#[]⟩) (.int .i64 0) (.slice none 0 0));have hll:=hl;have z0:(0:Int)≤(i:Int):=by omega
 have z1:(i:Int)<(l.length:Int):=by omega
 clear ht hb hz hr htl h1;go_enter Tryz.func51,Tryz.ntmps51;go_wp2_with fail;refine CI.out.mono ?_;rintro e w0 ⟨he,rfl⟩;rw[SQ0.out] at he;subst he;go_wp2_with fail;refine CR.out.mono ?_;rintro e w1 ⟨hb1,hres⟩;have G1:=hid (HZ.out.trans (hb1.mono HZ.out.size));have hs1:w.heap.size+1≤w1.heap.size:=by have:=hb1.size;simpa using this
 have HS1:=hid hs1;cases hT:eo_ (l.drop (i+1)) with
 | none =>
  rw[hT] at hres;obtain⟨k,s,m,a',c',c'',rfl⟩:=hres;have E2:Hid (dZ_ (l.drop i)=none):=hid (by rw[E.out,hT]);have hz1:=ao_ w1 (.cells #[.int .i64 k,.string s,.int .i64 m,.slice a' c' c''] 56);have k6:=(b4.out.low hb1).low hz1;have kt:=R4.new w1 (.int .i64 k) (.string s) (.int .i64 m) (.slice a' c' c'');obtain⟨f0,f1,f2,f3⟩:=k6.f03;obtain⟨d0,d1,d2,d3⟩:=k6.c03;obtain⟨t0,t1,t2,t3⟩:=kt.c03;have K6:=hid k6;have G2:=hid (G1.out.trans (hz1.mono G1.out.size));clear hT hb1 hz1 k6 kt hs1;go_wp2;have q4:=K6.out.set4 (.int .i64 k) (.string s) (.int .i64 m) (.slice a' c' c'');refine bodyPost_ret (v:=.tuple #[.agg #[.int .i64 k,.string s,.int .i64 m,.slice a' c' c''],.int .i64 (-1)]) (by simp[results,Tryz.results51,go_sem,q4.c0,q4.c1,q4.c2,q4.c3]) rfl ?_;rw[E2.out];exact⟨G2.out.set4 (aw_ _) _ _ _ _,_,_,_,_,_,_,rfl⟩
 | some x =>
  obtain⟨t,r⟩:=x;rw[hT] at hres;obtain⟨a',c',rfl,hA⟩:=hres;have hsuf:=SF.out _ _ hT;have hrl:r.length≤l.length:=hsuf.length_le;have hz1:=ao_ w1 (.cells #[.int .i64 t.kind,.string t.name,.int .i64 t.n,.slice a' t.args.length c'] 56);have k6:=(b4.out.low hb1).low hz1;have kt:=R4.new w1 (.int .i64 t.kind) (.string t.name) (.int .i64 t.n) (.slice a' t.args.length c');obtain⟨f0,f1,f2,f3⟩:=k6.f03;obtain⟨d0,d1,d2,d3⟩:=k6.c03;obtain⟨t0,t1,t2,t3⟩:=kt.c03;have K6:=hid k6;have G2:=hid (G1.out.trans (hz1.mono G1.out.size));have HA:=hid (hA.keep fun b hb=>hz1.block b hb.2);have C2:=hid (CJ.out _ G2.out (l.length - r.length) (by omega));have DS:=hid (cy_ hsuf);have zj:¬ (((l.length - r.length:Nat):Int)<0):=by omega
  have hrl2:r.length≤4000:=by omega
  cases hq:st r 6 gts with
  | false =>
   have E2:Hid (dZ_ (l.drop i)=none):=hid (by rw[E.out,hT];simp only;rw[hq];rfl);have SQ:Hid (bf_ (l.drop (l.length - r.length)) 6 gts=false):=hid (by rw[DS.out,cF_ (by decide)];exact hq);clear hT hb1 hz1 k6 kt hs1 hA hsuf hq;generalize l.length - r.length=j at *;unfold tv;go_wp2_with fail;refine C2.out.mono ?_;rintro e w4 ⟨he,rfl⟩;rw[SQ.out] at he;subst he;go_wp2;have q4:=K6.out.set4 (.int .i64 t.kind) (.string t.name) (.int .i64 t.n) (.slice a' t.args.length c');refine bodyPost_ret (v:=.tuple #[.agg #[.int .i64 t.kind,.string t.name,.int .i64 t.n,.slice a' t.args.length c'],.int .i64 (-1)]) (by simp[results,Tryz.results51,go_sem,q4.c0,q4.c1,q4.c2,q4.c3]) rfl ?_;rw[E2.out];exact⟨G2.out.set4 (aw_ _) _ _ _ _,_,_,_,_,_,_,rfl⟩
  | true =>
   have E2:Hid (dZ_ (l.drop i)=some (t,r.tail)):=hid (by rw[E.out,hT];simp only;rw[hq];rfl);have SQ:Hid (bf_ (l.drop (l.length - r.length)) 6 gts=true):=hid (by rw[DS.out,cF_ (by decide)];exact hq);have hr1:=b8_ hq;have HJ:Hid (((l.length - r.length:Nat):Int)+1=((l.length - r.tail.length:Nat):Int)):=hid (by rw[List.length_tail];omega);clear hT hb1 hz1 k6 kt hs1 hA hsuf hq;have hjl:l.length - r.length≤4000:=(by omega);generalize l.length - r.length=j at *;unfold tv;go_wp2_with fail;refine C2.out.mono ?_;rintro e w4 ⟨he,rfl⟩;rw[SQ.out] at he;subst he;go_wp2;have q4:=K6.out.set4 (.int .i64 t.kind) (.string t.name) (.int .i64 t.n) (.slice a' t.args.length c');refine bodyPost_ret (v:=.tuple #[tv t a' c',.int .i64 ((j:Int)+1)]) (by simp[results,Tryz.results51,go_sem,tv,q4.c0,q4.c1,q4.c2,q4.c3]) rfl ?_;rw[E2.out];refine⟨G2.out.set4 (aw_ _) _ _ _ _,a',c',aG_ HJ.out,dK_ _ _ _ _ (by simp;have:=HS1.out;omega) ?_⟩;refine HA.out.mono fun b hb=>⟨by have:=hb.1;simpa using this,by have:=hb.2;simp;omega⟩
end
section
open Lx
theorem nY_ {l:List Tok}(h:sk l 2=false):bo_ l=none:=by unfold bo_;rw[h];rfl
theorem mj_ {l:List Tok}(h:sk l 2=true)(h2:ay_ (ab_ l)=0):bo_ l=none:=by unfold bo_;rw[if_pos h,if_pos h2]
theorem jq_ {l:List Tok}(h:sk l 2=true)(h2:ay_ (ab_ l)=5):bo_ l=if sk l.tail 2 then some ⟨5,aa_ (ab_ l.tail),0,0,l.tail.tail⟩ else none:=by unfold bo_;rw[if_pos h,h2];rfl
theorem jr_ {l:List Tok}(h:sk l 2=true)(h2:ay_ (ab_ l)=7):bo_ l=if sk l.tail 1 then some ⟨7,aa_ (ab_ l.tail),0,1,l.tail.tail⟩ else none:=by unfold bo_;rw[if_pos h,h2];rfl
theorem jp_ {l:List Tok}(h:sk l 2=true)(h2:ay_ (ab_ l)=8):bo_ l=if sk l.tail 4 then some ⟨8,e0,dw_ (ab_ l.tail),1,l.tail.tail⟩ else none:=by unfold bo_;rw[if_pos h,h2];rfl
theorem hZ_ {l:List Tok}(h:sk l 2=true)(k m:Nat)(h2:ay_ (ab_ l)=k)(hk:k=3∧m=1∨k=4∧m=2∨k=6∧m=2∨k=9∧m=1):bo_ l=some ⟨k,e0,0,m,l.tail⟩:=by
 unfold bo_;rw[if_pos h,h2]
 rcases hk with ⟨rfl,rfl⟩|⟨rfl,rfl⟩|⟨rfl,rfl⟩|⟨rfl,rfl⟩<;>rfl
theorem gq_ {n:Nat}{l:List Tok}(h0:st l 6 lts=false)(h1:st l 6 bX_=true):coF (n+1) l=match a1_ n l.tail with|none=>none|some (c,r)=>if st r 6 bB_ then some (c,r.tail) else none:=by
 rw[coF,h0,h1];cases a1_ n l.tail<;>rfl
theorem iq_ {n:Nat}{l:List Tok}(h0:st l 6 lts=false)(h1:st l 6 bX_=true)(h:bo_ l.tail=none):coF (n+1) l=none:=by
 rw[gq_ h0 h1];cases n with
 | zero=>rw[a1_]
 | succ n=>rw[a1_,h]
theorem nk_ {n:Nat}{l l2:List Tok}{k q m:Nat}{nm:ByteArray}(h0:st l 6 lts=false)(h1:st l 6 bX_=true)(h:bo_ l.tail=some ⟨k,nm,q,m,l2⟩)(h5:k≠5)(h9:k≠9){X:Option (List Co × List Tok)}(hX:X=bg_ n m [] l2) :
  coF (n+2) l=match (generalizing:=false) X with|none=>none|some (ks,r)=>if st r 6 bB_ then some (.mk k nm q tz ks,r.tail) else none:=by
 rw[gq_ h0 h1,a1_,h,hX];simp only[h5,h9,if_false];cases bg_ n m [] l2<;>rfl
theorem sf_ {n:Nat}{l l2:List Tok}{q m:Nat}{nm:ByteArray}(h0:st l 6 lts=false)(h1:st l 6 bX_=true)(h:bo_ l.tail=some ⟨5,nm,q,m,l2⟩){X:Option (List Co × List Tok)}(hX:X=fJ_ n [] l2) :
  coF (n+2) l=match (generalizing:=false) X with|none=>none|some (ks,r)=>if st r 6 bB_ then some (.mk 5 nm 0 tz ks,r.tail) else none:=by
 rw[gq_ h0 h1,a1_,h,hX];simp only[if_true];cases fJ_ n [] l2<;>rfl
theorem q3_ {n:Nat}{l l2:List Tok}{q m:Nat}{nm:ByteArray}(h0:st l 6 lts=false)(h1:st l 6 bX_=true)(h:bo_ l.tail=some ⟨9,nm,q,m,l2⟩){X:Option (List Co × List Tok)}(hX:X=bg_ n m [] l2) :
  coF (n+2) l=match (generalizing:=false) X with|none=>none|some (ks,r)=>(match dZ_ r with|none=>none|some (t,r')=>if st r' 6 bB_ then some (.mk 9 nm q t ks,r'.tail) else none):=by
 rw[gq_ h0 h1,a1_,h,hX];simp only[show (9:Nat)≠5 from by decide,if_false,if_true];cases bg_ n m [] l2 with
 | none=>rfl
 | some p =>
  obtain⟨ks,r⟩:=p;simp only;cases dZ_ r<;>rfl
theorem qs_ {n:Nat}{l:List Tok}(h:sk l 1=true):coF (n+1) l=some (.mk 1 (aa_ (ab_ l)) 0 tz [],l.tail):=by
 cases l with
 | nil=>cases h
 | cons t l =>
  have hk:t.kind=1:=by rw[hv_] at h;simpa using h
  rw[coF,b6_ _ _ 6 _ (by omega),b6_ _ _ 6 _ (by omega),h];rfl
theorem sh_ {n:Nat}{l:List Tok}(h:st l 6 lts=true):coF (n+1) l=match dZ_ l with|none=>none|some (t,r)=>some (.mk 2 e0 0 t [],r):=by
 rw[coF,if_pos h];cases dZ_ l<;>rfl
theorem sg_ {n:Nat}{l:List Tok}(h1:sk l 1=false)(h2:st l 6 lts=false)(h3:st l 6 bX_=false):coF (n+1) l=none:=by
 rw[coF,h2,h3,h1];rfl
theorem lE_ {l:List Tok}{s:List UInt8}(h:st l 6 s=true):sk l 1=false:=by
 cases l with
 | nil=>cases h
 | cons t l =>
  rw[hu_] at h;have:t.kind=6:=by simp at h;exact h.1
  exact a0_ _ _ 1 (by omega)
theorem mO_ {l:List Tok}{s s':List UInt8}(h:st l 6 s=true)(hs:s≠s'):st l 6 s'=false:=by
 cases l with
 | nil=>rfl
 | cons t l =>
  rw[hu_] at h ⊢;have:t.text=s:=by simp at h;exact h.2
  rw[this,beq_eq_false_iff_ne.2 hs,Bool.and_false]
theorem fv_ {l r:List Tok}(j:Nat)(h:r <:+ l.drop j):r <:+ l:=h.trans (List.drop_suffix j l)
theorem il_ {l r:List Tok}(h:r <:+ l):r.tail <:+ l:=(List.tail_suffix r).trans h
theorem kw_ {l r:List Tok}{t:Ty}(h:dZ_ l=some (t,r)):r <:+ l:=by
 unfold dZ_ at h
 split at h
 ·cases hT:eo_ l.tail with
  | none=>rw[hT] at h;cases h
  | some p =>
   obtain⟨t',r'⟩:=p;rw[hT] at h;simp only at h;have hs:r' <:+ l.tail:=(oQ_ (4*l.tail.length+4)).1 _ _ _ hT
   split at h
   ·injection h with h;injection h with _ h;subst h;exact il_ (hs.trans (List.tail_suffix l))
   ·cases h
 ·cases h
theorem pN_ {l:List Tok}{h:oJ_}(e:bo_ l=some h):h.l <:+ l:=by
 have t1:=List.tail_suffix l;have t2:=il_ t1;unfold bo_ at e
 repeat' split at e
 all_goals first
  | (cases e;done)
  | (injection e with e;subst e;first|exact t1|exact t2)
def SufC (n:Nat):Prop:=(∀ l c r,coF n l=some (c,r)→r <:+ l)∧(∀ l c r,a1_ n l=some (c,r)→r <:+ l)∧(∀ acc l ks r,fJ_ n acc l=some (ks,r)→r <:+ l)∧∀ m acc l ks r,bg_ n m acc l=some (ks,r)→r <:+ l
theorem sufC:∀ n,SufC n:=by
 intro n
 induction n with
 | zero=>exact⟨fun l c r h=>(by rw[coF] at h;cases h),fun l c r h=>(by rw[a1_] at h;cases h),fun acc l c r h=>(by rw[fJ_] at h;cases h),fun m acc l c r h=>(by rw[bg_] at h;cases h)⟩
 | succ n ih =>
  obtain⟨i1,i2,i3,i4⟩:=ih;refine⟨fun l c r h=>?_,fun l c r h=>?_,fun acc l ks r h=>?_,fun m acc l ks r h=>?_⟩
  ·rw[coF] at h
   split at h
   ·cases hT:dZ_ l with
    | none=>rw[hT] at h;cases h
    | some p=>obtain⟨t,r'⟩:=p;rw[hT] at h;injection h with h;injection h with _ h;subst h;exact kw_ hT
   ·split at h
    ·cases hT:a1_ n l.tail with
     | none=>rw[hT] at h;cases h
     | some p =>
      obtain⟨t,r'⟩:=p;rw[hT] at h;simp only at h
      split at h
      ·injection h with h;injection h with _ h;subst h;exact il_ ((i2 _ _ _ hT).trans (List.tail_suffix l))
      ·cases h
    ·split at h
     ·injection h with h;injection h with _ h;subst h;exact List.tail_suffix l
     ·cases h
  ·rw[a1_] at h
   cases hH:bo_ l with
   | none=>rw[hH] at h;cases h
   | some hd =>
    rw[hH] at h;simp only at h;have hs:=pN_ hH
    split at h
    ·cases hT:fJ_ n [] hd.l with
     | none=>rw[hT] at h;cases h
     | some p=>obtain⟨t,r'⟩:=p;rw[hT] at h;injection h with h;injection h with _ h;subst h;exact (i3 _ _ _ _ hT).trans hs
    ·cases hT:bg_ n hd.m [] hd.l with
     | none=>rw[hT] at h;cases h
     | some p =>
      obtain⟨t,r'⟩:=p;rw[hT] at h;simp only at h;have hk:=(i4 _ _ _ _ _ hT).trans hs
      split at h
      ·cases hA:dZ_ r' with
       | none=>rw[hA] at h;cases h
       | some q=>obtain⟨t2,r2⟩:=q;rw[hA] at h;injection h with h;injection h with _ h;subst h;exact (kw_ hA).trans hk
      ·injection h with h;injection h with _ h;subst h;exact hk
  ·rw[fJ_] at h
   split at h
   ·injection h with h;injection h with _ h;subst h;exact List.suffix_refl _
   ·cases hT:coF n l with
    | none=>rw[hT] at h;cases h
    | some p=>obtain⟨t,r'⟩:=p;rw[hT] at h;exact (i3 _ _ _ _ h).trans (i1 _ _ _ hT)
  ·cases m with
   | zero=>rw[bg_] at h;injection h with h;injection h with _ h;subst h;exact List.suffix_refl _
   | succ m =>
    rw[bg_] at h;cases hT:coF n l with
    | none=>rw[hT] at h;cases h
    | some p=>obtain⟨t,r'⟩:=p;rw[hT] at h;exact (i4 _ _ _ _ _ h).trans (i1 _ _ _ hT)
theorem he_ {n:Nat}{l r:List Tok}{c:Co}(h:coF n l=some (c,r)):r <:+ l:=(sufC n).1 l c r h
theorem rB_ (n:Nat):coF n []=none:=by cases n<;>rfl
theorem fs_.tk {n m:Nat}{X:Option (List Co × List Tok)}{i:Nat}{acc:List Co}{l:List Tok}(h:fs_ n m X i acc l false):(∀ t∈l,be_ t)∧l.length≤4000:=by
 rcases h.h with ⟨_,_,h1,h2,_⟩|⟨h,_⟩
 ·exact⟨h1,h2⟩
 ·cases h
theorem kr_ {n:Nat}{l r:List Tok}{c:Co}(hk:(∀ t∈l,be_ t)∧l.length≤4000)(h:coF n l=some (c,r)):r.length<l.length:=((mi_ 1 (aw_ _) n).1 l c r hk.1 hk.2 h).2.2.2.1
theorem jR_.bad {n:Nat}{X:Option (List Co × List Tok)}{acc:List Co}{l:List Tok}(h:jR_ n X acc l true):X=none:=by
 rcases h.h with ⟨h,_⟩|⟨_,h⟩
 ·cases h
 ·exact h
open Go.RowKit in
theorem cc_ {P:Program}{ops:Array Oper}{rest:List Oper}{o:Oper}{a:Act}{w:World}{Q:Exit→Act→World→Prop}(hgd:o.guard=none)(s x:Operand)(t:TypeId)
  (ho:o.op=.call { callee:=.builtin .append,args:=#[s,x],argTypes:=#[t,t] }) {v vx:Value} (hs:a.eval s=v) (hx:a.eval x=vx) {R:Value→World→Prop}
  (hrun:∃ v' w',(Builtin.append_ #[t,t] o.type #[v,vx]).run P w=.ok v' w'∧R v' w') (h:∀ v' w',R v' w'→wpList P ops Q rest (a.put o.dst v') w'):wpList P ops Q (o :: rest) a w :=
 wpList_plain hgd fun K hK=>by
  obtain⟨v',w',hr,hR⟩:=hrun;unfold Oper.wp execOp;simp only[ho,resolve,invoke,builtin,Sem.run_bind,Sem.run_pure,Result.andThen_ok,List.map_toArray,List.map_cons,List.map_nil,hs,hx,hr];exact hK _ _ (h v' w' hR)
end
section
open Go.RowKit
open Lx
theorem eU_ (l:List Tok)(k:Nat)(s:List UInt8)(h:st l k s=false)(hs:s≠[]):Hid (bf_ l k s=false):=hid (by rw[b9_ l k s hs];exact h)
theorem eb_ (l:List Tok)(k:Nat)(s:List UInt8)(h:st l k s=true)(hs:s≠[]):Hid (bf_ l k s=true):=hid (by rw[b9_ l k s hs];exact h)
theorem em_ (l:List Tok)(k:Nat)(h:sk l k=false):Hid (bf_ l k []=false):=hid (by rw[bY_];exact h)
theorem eV_ (l:List Tok)(k:Nat)(h:sk l k=true):Hid (bf_ l k []=true):=hid (by rw[bY_];exact h)
theorem gm_ (i k:Nat):((i+k:Nat):Int)=(i:Int)+k:=by omega
theorem m1_ (n:Nat)(w:World)(a:OA_)(c:Nat)(l:List Tok)(i:Nat)(ht:aO_ w (.slice a l.length c) l)(hb:∀ b o,a=some ⟨b,o,none⟩→b<w.heap.size)(hl:l.length≤4000)(h1:sk (l.drop i) 1=true):Calls Tryz.prog 21 #[.slice a l.length c,.int .i64 i] w (d2_ w l.length (coF (n+1) (l.drop i))):=by
 have hi:i<l.length:=by have:=ci_ h1;rw[List.length_drop] at this;omega
 have hz:=ao_ w (.cells #[.int .i64 0,.string ⟨#[]⟩,.int .i64 0,.int .i64 0,.string ⟨#[]⟩,.int .i64 0,.slice none 0 0,.slice none 0 0] 59);have CI:=hid (fun (W:World) (h:Below w.heap.size w W) (k:Nat) (s:List UInt8) (j:Nat)=>ge_ k s W a c l j (aL_ ht hb h));obtain⟨b,off,rfl,_,c1⟩:=bH_ ht hi;have hbl:=hb b off rfl;have htx:ab_ (l.drop i)=l[i].text:=by rw[ck_ hi];rfl
 have t1:(w.alloc (.cells #[.int .i64 0,.string ⟨#[]⟩,.int .i64 0,.int .i64 0,.string ⟨#[]⟩,.int .i64 0,.slice none 0 0,.slice none 0 0] 59)).cell? ⟨b,off+i*3+1,none⟩=some (.string (aa_ l[i].text)):=(hz.cell (p:=⟨b,off+i*3+1,none⟩) hbl).trans c1;have E:Hid (coF (n+1) (l.drop i)=some (.mk 1 (aa_ l[i].text) 0 tz [],l.drop (i+1))):=hid (by rw[qs_ h1,htx,List.tail_drop]);have S1:=eV_ _ _ h1;have z0:(0:Int)≤(i:Int):=by omega
 have z1:(i:Int)<(l.length:Int):=by omega
 have K8:=hid (Z8.new w (.int .i64 0) (.string ⟨#[]⟩) (.int .i64 0) (.int .i64 0) (.string ⟨#[]⟩) (.int .i64 0) (.slice none 0 0) (.slice none 0 0));obtain⟨f0,f1,f2,f3,f4,f5,f6,f7⟩:=K8.out.f07;obtain⟨d0,d1,d2,d3,d4,d5,d6,d7⟩:=K8.out.c07;have HZ:=hid hz;have HP:Hid ((i:Int)+1=((l.length - (l.drop (i+1)).length:Nat):Int)):=hid (by rw[List.length_drop];omega);clear ht hb h1 hz c1 htx hbl;generalize l[i].text=tx at *;go_enter Tryz.func21,Tryz.ntmps21;go_wp2_with fail;refine (CI.out _ HZ.out 1 [] i).mono ?_;rintro e wq ⟨he,rfl⟩;rw[S1.out] at he;subst he;go_wp2;have k8:=Z8.new w (.int .i64 1) (.string (aa_ tx)) (.int .i64 0) (.int .i64 0) (.string ⟨#[]⟩) (.int .i64 0) (.slice none 0 0) (.slice none 0 0);refine bodyPost_ret (v:=.tuple #[.agg #[.int .i64 1,.string (aa_ tx),.int .i64 0,.int .i64 0,.string ⟨#[]⟩,.int .i64 0,.slice none 0 0,.slice none 0 0],.int .i64 ((i:Int)+1)]) (by simp[results,Tryz.results21,go_sem,k8.c0,k8.c1,k8.c2,k8.c3,k8.c4,k8.c5,k8.c6,k8.c7]) rfl ?_;have hp:d2_ w l.length (some (Co.mk 1 (aa_ tx) 0 tz [],l.drop (i+1))) (.returned (.tuple #[.agg #[.int .i64 1,.string (aa_ tx),.int .i64 0,.int .i64 0,.string ⟨#[]⟩,.int .i64 0,.slice none 0 0,.slice none 0 0],.int .i64 ((i:Int)+1)])) (w.alloc (.cells #[.int .i64 1,.string (aa_ tx),.int .i64 0,.int .i64 0,.string ⟨#[]⟩,.int .i64 0,.slice none 0 0,.slice none 0 0] 59)) :=
  ⟨ao_ w _,none,0,none,0,(by rw[HP.out];rfl),⟨.nil _ _,.nil _ _⟩⟩
 rw[E.out];exact hp
theorem m5_ (n:Nat)(w:World)(a:OA_)(c:Nat)(l:List Tok)(i:Nat)(ht:aO_ w (.slice a l.length c) l)(hb:∀ b o,a=some ⟨b,o,none⟩→b<w.heap.size)(hr:hl_ l)(hl:l.length≤4000)(h1:st (l.drop i) 6 lts=true):Calls Tryz.prog 21 #[.slice a l.length c,.int .i64 i] w (d2_ w l.length (coF (n+1) (l.drop i))):=by
 have hi:i<l.length:=by have:=b8_ h1;rw[List.length_drop] at this;omega
 have hz:=ao_ w (.cells #[.int .i64 0,.string ⟨#[]⟩,.int .i64 0,.int .i64 0,.string ⟨#[]⟩,.int .i64 0,.slice none 0 0,.slice none 0 0] 59);have CI:=hid (fun (W:World) (h:Below w.heap.size w W) (k:Nat) (s:List UInt8) (j:Nat)=>ge_ k s W a c l j (aL_ ht hb h));have CR:=hid (eY_ _ a c l i (aL_ ht hb hz) (fun b' o' e=>aX_ (hb b' o' e) hz.size) hr hl (by omega));have S1:=em_ _ _ (lE_ h1);have S2:=eb_ _ _ _ h1 (by decide);have E:Hid (coF (n+1) (l.drop i)=match dZ_ (l.drop i) with|none=>none|some (t,r)=>some (.mk 2 e0 0 t [],r)):=hid (sh_ h1);have z0:(0:Int)≤(i:Int):=by omega
 have z1:(i:Int)<(l.length:Int):=by omega
 have K8:=hid (Z8.new w (.int .i64 0) (.string ⟨#[]⟩) (.int .i64 0) (.int .i64 0) (.string ⟨#[]⟩) (.int .i64 0) (.slice none 0 0) (.slice none 0 0));have HZ:=hid hz;clear ht hb h1 hz hr;go_enter Tryz.func21,Tryz.ntmps21;go_wp2_with fail;refine (CI.out _ HZ.out 1 [] i).mono ?_;rintro e wq ⟨he,rfl⟩;rw[S1.out] at he;subst he;go_wp2_with fail;refine (CI.out _ HZ.out 6 lts i).mono ?_;rintro e wq ⟨he,rfl⟩;rw[S2.out] at he;subst he;go_wp2_with fail;refine CR.out.mono ?_;rintro e w1 ⟨hb1,hres⟩;have G1:=hid (HZ.out.trans (hb1.mono HZ.out.size));have HS1:Hid (w.heap.size+1≤w1.heap.size):=hid (by have:=hb1.size;simpa using this);have KK:=hid (K8.out.low hb1);obtain⟨k,s,m,ta,tn,tc,pos,rfl,HC⟩:∃ (k:Int) (s:ByteArray) (m:Int) (ta:OA_) (tn tc:Nat) (pos:Int),e=.returned (.tuple #[.agg #[.int .i64 k,.string s,.int .i64 m,.slice ta tn tc],.int .i64 pos])∧Hid (match dZ_ (l.drop i) with|none=>pos = -1|some (t,r)=>k=t.kind∧s=t.name∧m=t.n∧tn=t.args.length∧pos=((l.length - r.length:Nat):Int)∧ac_ (In (w.heap.size+1) w1.heap.size) w1 (.slice ta tn tc) t.args):=by
  cases hT:dZ_ (l.drop i) with
  | none=>rw[hT] at hres;obtain⟨k,s,m,a',c',c'',rfl⟩:=hres;exact⟨_,_,_,_,_,_,_,rfl,hid rfl⟩
  | some p =>
   obtain⟨t,r⟩:=p;rw[hT] at hres;obtain⟨a',c',rfl,hA⟩:=hres;exact⟨_,_,_,_,_,_,_,rfl,hid ⟨rfl,rfl,rfl,rfl,rfl,hA.mono fun b hb=>⟨by have:=hb.1;simpa using this,hb.2⟩⟩⟩
 have hz1:=ao_ w1 (.cells #[.int .i64 k,.string s,.int .i64 m,.slice ta tn tc] 56);have k6:=KK.out.low hz1;have kt:=R4.new w1 (.int .i64 k) (.string s) (.int .i64 m) (.slice ta tn tc);obtain⟨f0,f1,f2,f3,f4,f5,f6,f7⟩:=k6.f07;obtain⟨d0,d1,d2,d3,d4,d5,d6,d7⟩:=k6.c07;obtain⟨t0,t1,t2,t3⟩:=kt.c03;have K6:=hid k6;have G2:=hid (G1.out.trans (hz1.mono G1.out.size));have HZ1:=hid hz1;clear hb1 hz1 k6 kt hres;go_wp2
 by_cases hT:∃ p,dZ_ (l.drop i)=some p
 ·obtain⟨⟨t,r⟩,hT⟩:=hT
  have hc:=HC.out;rw[hT] at hc;obtain⟨rfl,rfl,rfl,rfl,rfl,hA⟩:=hc;obtain⟨k8,PP⟩:=zend (x:=.mk 2 e0 0 t []) (a:=ta) (n:=tc) (ka:=none) (kn:=0) G2.out K6.out ⟨(hA.keep fun b hb=>HZ1.out.block b hb.2).mono fun b hb=>⟨hb.1,by have:=hb.2;simp;omega⟩,.nil _ _⟩;refine bodyPost_ret (v:=.tuple #[cv (.mk 2 e0 0 t []) ta tc none 0,.int .i64 ((l.length - r.length:Nat):Int)]) ?_ rfl (PP _ _ _ (by rw[E.out,hT];exact⟨rfl,rfl⟩));simp only[bP_,bO_,h8_,h7_,b0_,e0,List.length_nil] at k8 ⊢;simp[results,Tryz.results21,go_sem,cv,k8.c0,k8.c1,k8.c2,k8.c3,k8.c4,k8.c5,k8.c6,k8.c7,bP_,bO_,h8_,h7_,b0_]
 ·have hT:dZ_ (l.drop i)=none:=by
   cases h:dZ_ (l.drop i) with
   | none=>rfl
   | some p=>exact absurd ⟨p,h⟩ hT
  have hc:=HC.out;rw[hT] at hc;have k8:=Z8.set80 (.int .i64 2) (.string ⟨#[]⟩) (.int .i64 0) (.int .i64 k) (.string s) (.int .i64 m) (.slice ta tn tc) (.slice none 0 0) K6.out;refine bodyPost_ret (v:=.tuple #[.agg #[.int .i64 2,.string ⟨#[]⟩,.int .i64 0,.int .i64 k,.string s,.int .i64 m,.slice ta tn tc,.slice none 0 0],.int .i64 pos]) ?_ rfl ?_
  ·simp[results,Tryz.results21,go_sem,k8.c0,k8.c1,k8.c2,k8.c3,k8.c4,k8.c5,k8.c6,k8.c7]
  ·rw[E.out,hT,hc]
   exact⟨aD_ G2.out (aw_ _) _ _ _ _ _ _ _ _,_,_,_,_,_,_,_,_,_,_,_,_,rfl⟩
theorem sc_ {w w':World}{L:Nat}(h:Below w.heap.size w w'):d2_ w L none (.returned (.tuple #[.agg #[.int .i64 0,.string ⟨#[]⟩,.int .i64 0,.int .i64 0,.string ⟨#[]⟩,.int .i64 0,.slice none 0 0,.slice none 0 0],.int .i64 (-1)])) w':=⟨h,_,_,_,_,_,_,_,_,_,_,_,_,rfl⟩
theorem m3_ (n:Nat)(w:World)(a:OA_)(c:Nat)(l:List Tok)(i:Nat)(ht:aO_ w (.slice a l.length c) l)(hb:∀ b o,a=some ⟨b,o,none⟩→b<w.heap.size)(hl:l.length≤4000)(hi:i≤l.length)(h1:sk (l.drop i) 1=false)(h2:st (l.drop i) 6 lts=false)(h3:(st (l.drop i) 6 bX_&&sk (l.drop (i+1)) 2)=false):Calls Tryz.prog 21 #[.slice a l.length c,.int .i64 i] w (d2_ w l.length (coF (n+1) (l.drop i))):=by
 have hz:=ao_ w (.cells #[.int .i64 0,.string ⟨#[]⟩,.int .i64 0,.int .i64 0,.string ⟨#[]⟩,.int .i64 0,.slice none 0 0,.slice none 0 0] 59);have CI:=hid (fun (W:World) (h:Below w.heap.size w W) (k:Nat) (s:List UInt8) (j:Nat)=>ge_ k s W a c l j (aL_ ht hb h));have S1:=em_ _ _ h1;have S2:=eU_ _ _ _ h2 (by decide);have S3:Hid (bf_ (l.drop i) 6 bX_=st (l.drop i) 6 bX_):=hid (b9_ _ _ _ (by decide));have S4:Hid (bf_ (l.drop (i+1)) 2 []=sk (l.drop (i+1)) 2):=hid (bY_ _ _);have E:Hid (coF (n+1) (l.drop i)=none):=hid (by
  cases hp:st (l.drop i) 6 bX_ with
  | false=>exact sg_ h1 h2 hp
  | true =>
   rw[hp] at h3;refine iq_ h2 hp (nY_ ?_);rw[List.tail_drop];simpa using h3)
 have C4:=hid (CI.out _ hz 2 [] (i+1));rw[gm_] at C4;have z0:(0:Int)≤(i:Int):=by omega
 have K8:=hid (Z8.new w (.int .i64 0) (.string ⟨#[]⟩) (.int .i64 0) (.int .i64 0) (.string ⟨#[]⟩) (.int .i64 0) (.slice none 0 0) (.slice none 0 0));have HZ:=hid hz;clear ht hb h1 h2 hz;generalize st (l.drop i) 6 bX_=q3 at *;generalize sk (l.drop (i+1)) 2=q4 at *;go_enter Tryz.func21,Tryz.ntmps21;go_wp2_with fail;refine (CI.out _ HZ.out 1 [] i).mono ?_;rintro e wq ⟨he,rfl⟩;rw[S1.out] at he;subst he;go_wp2_with fail;refine (CI.out _ HZ.out 6 lts i).mono ?_;rintro e wq ⟨he,rfl⟩;rw[S2.out] at he;subst he;go_wp2_with fail;refine (CI.out _ HZ.out 6 bX_ i).mono ?_;rintro e wq ⟨he,rfl⟩;rw[S3.out] at he;subst he;go_wp2_with fail;refine (C4.out).mono ?_;rintro e wq ⟨he,rfl⟩;rw[S4.out] at he;subst he;cases q3 with
 | false =>
  go_wp2;refine bodyPost_ret (v:=.tuple #[.agg #[.int .i64 0,.string ⟨#[]⟩,.int .i64 0,.int .i64 0,.string ⟨#[]⟩,.int .i64 0,.slice none 0 0,.slice none 0 0],.int .i64 (-1)]) (by simp[results,Tryz.results21,go_sem,K8.out.c0,K8.out.c1,K8.out.c2,K8.out.c3,K8.out.c4,K8.out.c5,K8.out.c6,K8.out.c7]) rfl ?_;rw[E.out];exact sc_ HZ.out
 | true =>
  obtain rfl:q4=false:=by simpa using h3
  go_wp2;refine bodyPost_ret (v:=.tuple #[.agg #[.int .i64 0,.string ⟨#[]⟩,.int .i64 0,.int .i64 0,.string ⟨#[]⟩,.int .i64 0,.slice none 0 0,.slice none 0 0],.int .i64 (-1)]) (by simp[results,Tryz.results21,go_sem,K8.out.c0,K8.out.c1,K8.out.c2,K8.out.c3,K8.out.c4,K8.out.c5,K8.out.c6,K8.out.c7]) rfl ?_;rw[E.out];exact sc_ HZ.out
open Lx
theorem lS_ (n:Nat)(ih:∀ m,m≤n→fM_ m)(w:World)(a:OA_)(c:Nat)(l:List Tok)(i:Nat)(ht:aO_ w (.slice a l.length c) l)(hb:∀ b o,a=some ⟨b,o,none⟩→b<w.heap.size)(hr:hl_ l)(hok:∀ t∈l,be_ t)(hl:l.length≤4000)(hn:4*(l.length - i)+1≤n+1)(h2:st (l.drop i) 6 bX_=true)(h3:sk (l.drop (i+1)) 2=true)(h4:ay_ (ab_ (l.drop (i+1)))=0):Calls Tryz.prog 21 #[.slice a l.length c,.int .i64 i] w (d2_ w l.length (coF (n+1) (l.drop i))):=by
 have hi:i<l.length:=by have:=b8_ h2;rw[List.length_drop] at this;omega
 have hi1:i+1<l.length:=by have:=ci_ h3;rw[List.length_drop] at this;omega
 have h0:st (l.drop i) 6 lts=false:=mO_ h2 (by decide);have hz:=ao_ w (.cells #[.int .i64 0,.string ⟨#[]⟩,.int .i64 0,.int .i64 0,.string ⟨#[]⟩,.int .i64 0,.slice none 0 0,.slice none 0 0] 59);have CI:=hid (fun (W:World) (h:Below w.heap.size w W) (k:Nat) (s:List UInt8) (j:Nat)=>ge_ k s W a c l j (aL_ ht hb h));have RT:=hid (fun (W:World) (h:Below w.heap.size w W) (j:Nat) (hj:j≤l.length)=>eY_ W a c l j (aL_ ht hb h) (fun b' o' e=>aX_ (hb b' o' e) h.size) hr hl hj);have RR:=hid (fun (m:Nat) (hm:m≤n) (W:World) (h:Below w.heap.size w W) (j:Nat) (hj:j≤l.length) (hf:4*(l.length - j)+1≤m)=>ih m hm W a c l j (aL_ ht hb h) (fun b' o' e=>aX_ (hb b' o' e) h.size) hr hok hl hj hf);obtain⟨n,rfl⟩:∃ m,n=m+1:=⟨n - 1,by omega⟩;obtain⟨b,off,rfl,_,c1⟩:=bH_ ht hi1;have hbl:=hb b off rfl;have htx:ab_ (l.drop (i+1))=l[i+1].text:=by rw[ck_ hi1];rfl
 have t1:(w.alloc (.cells #[.int .i64 0,.string ⟨#[]⟩,.int .i64 0,.int .i64 0,.string ⟨#[]⟩,.int .i64 0,.slice none 0 0,.slice none 0 0] 59)).cell? ⟨b,off+(i+1)*3+1,none⟩=some (.string (aa_ l[i+1].text)):=(hz.cell (p:=⟨b,off+(i+1)*3+1,none⟩) hbl).trans c1;have h4':=h4;rw[htx] at h4';have H4:=hid h4';have htd:(l.drop i).tail=l.drop (i+1):=List.tail_drop;have htd2:(l.drop (i+1)).tail=l.drop (i+2):=List.tail_drop;have htd3:(l.drop (i+2)).tail=l.drop (i+3):=List.tail_drop;have h3':sk (l.drop i).tail 2=true:=by rw[htd];exact h3
 have h4'':ay_ (ab_ (l.drop i).tail)=0:=by rw[htd];exact h4
 have S1:=em_ _ _ (lE_ h2);have S2:=eU_ _ _ _ h0 (by decide);have S3:=eb_ _ _ _ h2 (by decide);have S4:=eV_ _ _ h3;have C4:=hid (CI.out _ hz 2 [] (i+1));rw[gm_] at C4;have z0:(0:Int)≤(i:Int):=by omega
 have z1:(i:Int)<(l.length:Int):=by omega
 have y0:(0:Int)≤(i:Int)+1:=by omega
 have y1:(i:Int)+1<(l.length:Int):=by omega
 have K8:=hid (Z8.new w (.int .i64 0) (.string ⟨#[]⟩) (.int .i64 0) (.int .i64 0) (.string ⟨#[]⟩) (.int .i64 0) (.slice none 0 0) (.slice none 0 0));have HZ:=hid hz;have OK:=hid hok;have H0:=hid h0;have H2:=hid h2;have H3':=hid h3';have H4'':=hid h4'';have TX:Hid (∀ W,Below w.heap.size w W→∀ j (hj:j<l.length),W.cell? ⟨b,off+j*3+1,none⟩=some (.string (aa_ l[j].text))):=hid (fun W h j hj=>by
  obtain⟨b',off',e,_,h2⟩:=bH_ ht hj;injection e with e;injection e with e1 e2
  subst e1 e2;exact (h.cell (p:=⟨b,off+j*3+1,none⟩) hbl).trans h2)
 clear ht hb hz c1 htx hr hok ih h0 h2 h3 h4 h4' h3' h4'';generalize l[i+1].text=tx at *;go_enter Tryz.func21,Tryz.ntmps21;go_wp2_with fail;refine (CI.out _ HZ.out 1 [] i).mono ?_;rintro e wq ⟨he,rfl⟩;rw[S1.out] at he;subst he;go_wp2_with fail;refine (CI.out _ HZ.out 6 lts i).mono ?_;rintro e wq ⟨he,rfl⟩;rw[S2.out] at he;subst he;go_wp2_with fail;refine (CI.out _ HZ.out 6 bX_ i).mono ?_;rintro e wq ⟨he,rfl⟩;rw[S3.out] at he;subst he;go_wp2_with fail;refine (C4.out).mono ?_;rintro e wq ⟨he,rfl⟩;rw[S4.out] at he;subst he;go_wp2_with fail;refine (eB_ tx _).mono ?_;rintro e w5 ⟨he,hb5⟩;rw[H4.out] at he;subst he;have M0:XuM w w5.heap.size (w5.alloc (.cells #[.int .i64 0,.string ⟨#[]⟩,.int .i64 0,.int .i64 0,.string ⟨#[]⟩,.int .i64 0,.slice none 0 0,.slice none 0 0] 59)) 0 ⟨#[]⟩ 0 (.slice none 0 0) [] []:=XuM.new w w5 0 (by simpa using hb5);have GM:=hid M0;have HB5:=hid hb5;obtain⟨o0,o1,o2,o3,o4,o5,o6,o7⟩:=M0.o.c07;obtain⟨r0,r1,r2,r3,r4,r5,r6,r7⟩:=M0.r.c07;obtain⟨fo0,fo1,fo2,fo3,fo4,fo5,fo6,fo7⟩:=M0.o.f07;obtain⟨fr0,fr1,fr2,fr3,fr4,fr5,fr6,fr7⟩:=M0.r.f07;clear M0 hb5 t1;have E:Hid (coF (n+1+1) (l.drop i)=none):=hid (iq_ H0.out H2.out (mj_ H3'.out H4''.out));go_wp2;obtain⟨k8,PP⟩:=XuM.end_ (acc:=[]) GM.out (by simp);simp only[List.length_nil] at k8;refine bodyPost_ret (v:=.tuple #[.agg #[.int .i64 0,.string ⟨#[]⟩,.int .i64 0,.int .i64 0,.string ⟨#[]⟩,.int .i64 0,.slice none 0 0,.slice none 0 0],.int .i64 (-1)]) (by simp[results,Tryz.results21,go_sem,k8.c0,k8.c1,k8.c2,k8.c3,k8.c4,k8.c5,k8.c6,k8.c7]) rfl (PP l.length (coF (n+1+1) (l.drop i)) (-1) (by rw[E.out]))
end
end Go.Proofs.YtkihnodkhnahiaaGreatDoor.Tp

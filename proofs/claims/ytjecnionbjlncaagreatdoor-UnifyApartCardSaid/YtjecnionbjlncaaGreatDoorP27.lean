/- Packed. -/
import Derived.Test.YtjecnionbjlncaaGreatDoorP26
set_option maxRecDepth 100000
set_option maxHeartbeats 6400000
namespace Go.Proofs.YtjecnionbjlncaaGreatDoor.Tp
open Go.RowKit
theorem k2_ {W w1 w2:World}{lo1 lo2 b3:Nat}{v1 v2:Value}{l1 l2:List ByteArray}{p q:ByteArray}(o1:w1.ownsRow lo1 9 1 v1 l1.length (l1.map Value.string))(h1:l1.length≤4500000000000)(B1:Below w1.heap.size w1 W)(o2:w2.ownsRow lo2 9 1 v2 l2.length (l2.map Value.string))(h2:l2.length≤4500000000000)(B2:Below w2.heap.size w2 W)
  (h3:W.heap[b3]? = some (.cells #[.string p,.string q] 9 (0,0))):∀ (j:Nat) (h:j < [v1,v2,Value.slice (some ⟨b3,0,none⟩) 2 2].length) (h':j < [l1,l2,[p,q]].length),aJ_ (fun b=>b<W.heap.size) W ([v1,v2,Value.slice (some ⟨b3,0,none⟩) 2 2][j]'h) ([l1,l2,[p,q]][j]'h'):=by
 intro j h h'
 match j,h with
 | 0,_=>exact ((aJ_.of_own o1 h1).keep fun b hb=>B1.block b (o1.lt b hb).2).mono fun b hb=>ba_ (o1.lt b hb).2 B1.size
 | 1,_=>exact ((aJ_.of_own o2 h2).keep fun b hb=>B2.block b (o2.lt b hb).2).mono fun b hb=>ba_ (o2.lt b hb).2 B2.size
 | 2,_ =>
  refine⟨_,2,rfl,aC_ _,by simp,by simp,.inr ⟨b3,0,rfl,(Array.getElem?_eq_some_iff.1 h3).1,fun i hi=>?_⟩⟩
  match i,hi with
  | 0,_=>exact cell_of_row W b3 0 _ _ _ h3
  | 1,_=>exact cell_of_row W b3 1 _ _ _ h3
theorem ej_ {X w1 w2:World}{lo1 lo2 b3 N:Nat}{v1 v2:Value}{l1 l2 L:List ByteArray}{p q:ByteArray}(hL:l1++l2++[p,q]=L)(hN:X.heap.size=N)(o1:w1.ownsRow lo1 9 1 v1 l1.length (l1.map Value.string))(B1:Below w1.heap.size w1 X)(o2:w2.ownsRow lo2 9 1 v2 l2.length (l2.map Value.string))(B2:Below w2.heap.size w2 X)
  (h3:X.heap[b3]? = some (.cells #[.string p,.string q] 9 (0,0))) (hl:l1.length+l2.length+2≤4500000000000) :
  Calls Tryz.prog 87 #[.slice (some ⟨N,0,none⟩) 3 3] (X.alloc (.cells #[v1,v2,.slice (some ⟨b3,0,none⟩) 2 2] 89)) (fS_ (X.alloc (.cells #[v1,v2,.slice (some ⟨b3,0,none⟩) 2 2] 89)) L):=by
 subst hN hL;have ha:=aw_ X (.cells #[v1,v2,.slice (some ⟨b3,0,none⟩) 2 2] 89);have hs:=k2_ o1 (by omega) (B1.trans (ha.mono B1.size)) o2 (by omega) (B2.trans (ha.mono B2.size)) ((ha.block b3 (Array.getElem?_eq_some_iff.1 h3).1).trans h3);have hfl:[l1,l2,[p,q]].flatten=l1++l2++[p,q]:=by simp
 have hb:=heap_alloc_new X (.cells #[v1,v2,.slice (some ⟨b3,0,none⟩) 2 2] 89);have:=hD_ (fun b=>b<(X.alloc (.cells #[v1,v2,.slice (some ⟨b3,0,none⟩) 2 2] 89)).heap.size) X.heap.size 0 3 [v1,v2,.slice (some ⟨b3,0,none⟩) 2 2] [l1,l2,[p,q]] _ rfl rfl (by omega) (fun j hj=>by
  rw[Nat.zero_add]
  match j,hj with
  | 0,_=>exact cell_of_row _ _ 0 _ _ _ hb
  | 1,_=>exact cell_of_row _ _ 1 _ _ _ hb
  | 2,_=>exact cell_of_row _ _ 2 _ _ _ hb) (by simp) hs (fun b h=>h) (by rw[hfl];simp;omega) (by rw[hfl];simp;omega)
 rw[hfl] at this;exact this
def rj_ (S:Nat→Prop)(y:Ty)(w:World)(e:Ending)(W2:World):Prop :=
 ∃ a c,e=.returned (tv y a c)∧aa_ (fun b=>S b∨w.heap.size+4≤b∧b<W2.heap.size) W2 (.slice a y.args.length c) y.args∧Below w.heap.size w W2∧B4 W2 (w.heap.size+3) (.int .i64 0) (.string ⟨#[]⟩) (.int .i64 0) (.slice none 0 0)
theorem oo_ (d:Nat)(ih:eY_ d)(nm fn:ByteArray)(u y:Ty)(S:Nat→Prop)(ua a9:OA_)(uc c9:Nat)(k:Int)(s:ByteArray)(m:Int)(sl:Value)(w w9:World)(R:eK_ k s m sl nm u ua uc w w9)(hg:aY_ y)(hgu:aY_ u)(h1:1≤fn.size)(h2:fn.size≤64)(hd:y.depth≤d)(hs:y.size≤50000000000)(hsu:u.size≤50000000000)
  (hA:aa_ (fun b=>S b∨w.heap.size+4≤b∧b<w9.heap.size) w9 (.slice a9 y.args.length c9) y.args) (hU:aa_ S w (.slice ua u.args.length uc) u.args) (hS:∀ b,S b→b<w.heap.size) (hT:Tab w) :
  Calls Tryz.prog 76 #[.agg #[.int .i64 5,.string fn,.int .i64 0,.slice (some ⟨w9.heap.size,0,none⟩) 1 1],.func (.func 136) #[] #[.pointer (some ⟨w.heap.size+1,0,none⟩),.pointer (some ⟨w.heap.size+1+1,0,none⟩)]] (((((w9.alloc (.cells #[.int .i64 y.kind,.string y.name,.int .i64 y.n,.slice a9 y.args.length c9] 37)).setCell ⟨w.heap.size,0,none⟩ (.int .i64 5)).setCell ⟨w.heap.size,1,none⟩ (.string fn)).setCell ⟨w.heap.size,2,none⟩ (.int .i64 0)).setCell ⟨w.heap.size,3,none⟩ (.slice (some ⟨w9.heap.size,0,none⟩) 1 1)) (rj_ S (bb_ (bR_ fn y) [eo_ d nm u y]) w):=by
 have hR:=(R.low (aw_ _ (.cells #[.int .i64 y.kind,.string y.name,.int .i64 y.n,.slice a9 y.args.length c9] 37))).sett 5 fn 0 (.slice (some ⟨w9.heap.size,0,none⟩) 1 1);have hs10:=a7_ (w9.alloc (.cells #[.int .i64 y.kind,.string y.name,.int .i64 y.n,.slice a9 y.args.length c9] 37)) w.heap.size (.int .i64 5) (.string fn) (.int .i64 0) (.slice (some ⟨w9.heap.size,0,none⟩) 1 1);generalize (((((w9.alloc (.cells #[.int .i64 y.kind,.string y.name,.int .i64 y.n,.slice a9 y.args.length c9] 37)).setCell ⟨w.heap.size,0,none⟩ (.int .i64 5)).setCell ⟨w.heap.size,1,none⟩ (.string fn)).setCell ⟨w.heap.size,2,none⟩ (.int .i64 0)).setCell ⟨w.heap.size,3,none⟩ (.slice (some ⟨w9.heap.size,0,none⟩) 1 1))=W10 at *;have hz10:W10.heap.size=w9.heap.size+1:=hs10.size.trans (by simp);have hR9:=R.size;have hA10:aa_ (fun b=>S b∨w.heap.size+4≤b∧b<w9.heap.size+1) W10 (.slice (some ⟨w9.heap.size,0,none⟩) 1 1) [y]:=by
  refine fp_ (g:=w9.heap.size) ((hs10.off _ (by omega)).trans (heap_alloc_new w9 _)) rfl rfl rfl (.inr ⟨by omega,by omega⟩) ((hA.keep fun b hb2=>?_).mono fun b hb2=>hb2.imp id fun h=>⟨h.1,by omega⟩);have hlt:b<w9.heap.size∧b≠w.heap.size:=by
   rcases hb2 with h|h
   ·have:=hS b h;omega
   ·omega
  exact (hs10.off b hlt.2).trans (heap_alloc_old w9 _ hlt.1)
 have hsl:af_ (bR_ fn y).args=y.size:=by simp[bR_,Ty.args,af_]
 have CW:=hT_ d ih nm u (bR_ fn y) (fun b=>S b∨w.heap.size+4≤b∧b<w9.heap.size+1) S (some ⟨w9.heap.size,0,none⟩) ua 1 uc _ _ _ _ w W10 hR (ey_ h1 h2 hg) hgu (fun u hu=>by obtain rfl:=List.mem_singleton.1 hu;exact hd) (by rw[hsl];omega) hsu hA10 hU (fun b h=>by
  rcases h with h|h
  ·have:=hS b h;omega
  ·omega) hS (fun b h=>.inl h) hT
 refine CW.mono fun e W2 ⟨a2,c2,he,hA2,hb2⟩=>⟨a2,c2,he,hA2.mono fun b h=>?_,hR.hz.trans (hb2.mono hR.hz.size),hR.q4.low hb2⟩;have:=hb2.size
 rcases h with (h|h)|h
 ·exact .inl h
 ·exact .inr ⟨h.1,by omega⟩
 ·exact .inr ⟨by omega,h.2⟩
theorem oQ_ {W w0 w2:World}{Sf:Nat→Prop}{lo2 b3:Nat}{v1 v2:Value}{l1 l2:List ByteArray}{p:ByteArray}(o1:aJ_ Sf w0 v1 l1)(hSf:∀ b,Sf b→b<w0.heap.size)(B1:Below w0.heap.size w0 W)(o2:w2.ownsRow lo2 9 1 v2 l2.length (l2.map Value.string))(h2:l2.length≤4500000000000)(B2:Below w2.heap.size w2 W)
  (h3:W.heap[b3]? = some (.cells #[.string p] 9 (0,0))):∀ (j:Nat) (h:j < [v1,v2,Value.slice (some ⟨b3,0,none⟩) 1 1].length) (h':j < [l1,l2,[p]].length),aJ_ (fun b=>b<W.heap.size) W ([v1,v2,Value.slice (some ⟨b3,0,none⟩) 1 1][j]'h) ([l1,l2,[p]][j]'h'):=by
 intro j h h'
 match j,h with
 | 0,_=>exact (o1.keep fun b hb=>B1.block b (hSf b hb)).mono fun b hb=>ba_ (hSf b hb) B1.size
 | 1,_=>exact ((aJ_.of_own o2 h2).keep fun b hb=>B2.block b (o2.lt b hb).2).mono fun b hb=>ba_ (o2.lt b hb).2 B2.size
 | 2,_ =>
  refine⟨_,1,rfl,aC_ _,by simp,by simp,.inr ⟨b3,0,rfl,(Array.getElem?_eq_some_iff.1 h3).1,fun i hi=>?_⟩⟩
  match i,hi with
  | 0,_=>exact cell_of_row W b3 0 _ _ _ h3
theorem hC_ {X w0 w2:World}{Sf:Nat→Prop}{lo2 b3 N:Nat}{v1 v2:Value}{l1 l2 L:List ByteArray}{p:ByteArray}(hL:l1++l2++[p]=L)(hN:X.heap.size=N)(o1:aJ_ Sf w0 v1 l1)(hSf:∀ b,Sf b→b<w0.heap.size)(B1:Below w0.heap.size w0 X)(o2:w2.ownsRow lo2 9 1 v2 l2.length (l2.map Value.string))(B2:Below w2.heap.size w2 X)
  (h3:X.heap[b3]? = some (.cells #[.string p] 9 (0,0))) (hl:l1.length+l2.length+1≤4500000000000) :
  Calls Tryz.prog 87 #[.slice (some ⟨N,0,none⟩) 3 3] (X.alloc (.cells #[v1,v2,.slice (some ⟨b3,0,none⟩) 1 1] 89)) (fS_ (X.alloc (.cells #[v1,v2,.slice (some ⟨b3,0,none⟩) 1 1] 89)) L):=by
 subst hN hL;have ha:=aw_ X (.cells #[v1,v2,.slice (some ⟨b3,0,none⟩) 1 1] 89);have hs:=oQ_ o1 hSf (B1.trans (ha.mono B1.size)) o2 (by omega) (B2.trans (ha.mono B2.size)) ((ha.block b3 (Array.getElem?_eq_some_iff.1 h3).1).trans h3);have hfl:[l1,l2,[p]].flatten=l1++l2++[p]:=by simp
 have hb:=heap_alloc_new X (.cells #[v1,v2,.slice (some ⟨b3,0,none⟩) 1 1] 89);have:=hD_ (fun b=>b<(X.alloc (.cells #[v1,v2,.slice (some ⟨b3,0,none⟩) 1 1] 89)).heap.size) X.heap.size 0 3 [v1,v2,.slice (some ⟨b3,0,none⟩) 1 1] [l1,l2,[p]] _ rfl rfl (by omega) (fun j hj=>by
  rw[Nat.zero_add]
  match j,hj with
  | 0,_=>exact cell_of_row _ _ 0 _ _ _ hb
  | 1,_=>exact cell_of_row _ _ 1 _ _ _ hb
  | 2,_=>exact cell_of_row _ _ 2 _ _ _ hb) (by simp) hs (fun b h=>h) (by rw[hfl];simp;omega) (by rw[hfl];simp;omega)
 rw[hfl] at this;exact this
def pn_ (S:Nat→Prop)(y:Ty)(w:World)(e:Ending)(W2:World):Prop :=
 ∃ a c,e=.returned (tv y a c)∧aa_ (fun b=>S b∨w.heap.size+5≤b∧b<W2.heap.size) W2 (.slice a y.args.length c) y.args∧Below w.heap.size w W2∧B4 W2 (w.heap.size+4) (.int .i64 0) (.string ⟨#[]⟩) (.int .i64 0) (.slice none 0 0)
theorem ni_ (d:Nat)(ih:eB_ d)(fn:ByteArray)(u y:Ty)(free:List ByteArray)(is:Ty→Bool)(fv isv:Value)(S Sf:Nat→Prop)(ua a9:OA_)(uc c9:Nat)(k:Int)(s:ByteArray)(m:Int)(sl:Value)(w w9:World)(R:c8_ k s m sl fv isv u ua uc w w9)(hg:aY_ y)(hgu:aY_ u)(h1:1≤fn.size)(h2:fn.size≤64)(hd:y.depth≤d)(hs:y.size≤50000000000)(hsu:u.size≤50000000000)(hsf:free.length≤50000000000)
  (hA:aa_ (fun b=>S b∨w.heap.size+5≤b∧b<w9.heap.size) w9 (.slice a9 y.args.length c9) y.args) (hU:aa_ S w (.slice ua u.args.length uc) u.args) (hF:aJ_ Sf w fv free) (hI:eM_ isv is w) (hS:∀ b,S b→b<w.heap.size) (hSf:∀ b,Sf b→b<w.heap.size) (hT:Tab w) :
  Calls Tryz.prog 76 #[.agg #[.int .i64 5,.string fn,.int .i64 0,.slice (some ⟨w9.heap.size,0,none⟩) 1 1],.func (.func 88) #[] #[.pointer (some ⟨w.heap.size+1,0,none⟩),.pointer (some ⟨w.heap.size+1+1,0,none⟩),.pointer (some ⟨w.heap.size+1+1+1,0,none⟩)]] (((((w9.alloc (.cells #[.int .i64 y.kind,.string y.name,.int .i64 y.n,.slice a9 y.args.length c9] 37)).setCell ⟨w.heap.size,0,none⟩ (.int .i64 5)).setCell ⟨w.heap.size,1,none⟩ (.string fn)).setCell ⟨w.heap.size,2,none⟩ (.int .i64 0)).setCell ⟨w.heap.size,3,none⟩ (.slice (some ⟨w9.heap.size,0,none⟩) 1 1)) (pn_ S (bb_ (bR_ fn y) [d3_ d u free is y]) w):=by
 have hR:=(R.low (aw_ _ (.cells #[.int .i64 y.kind,.string y.name,.int .i64 y.n,.slice a9 y.args.length c9] 37))).sett 5 fn 0 (.slice (some ⟨w9.heap.size,0,none⟩) 1 1);have hs10:=a7_ (w9.alloc (.cells #[.int .i64 y.kind,.string y.name,.int .i64 y.n,.slice a9 y.args.length c9] 37)) w.heap.size (.int .i64 5) (.string fn) (.int .i64 0) (.slice (some ⟨w9.heap.size,0,none⟩) 1 1);generalize (((((w9.alloc (.cells #[.int .i64 y.kind,.string y.name,.int .i64 y.n,.slice a9 y.args.length c9] 37)).setCell ⟨w.heap.size,0,none⟩ (.int .i64 5)).setCell ⟨w.heap.size,1,none⟩ (.string fn)).setCell ⟨w.heap.size,2,none⟩ (.int .i64 0)).setCell ⟨w.heap.size,3,none⟩ (.slice (some ⟨w9.heap.size,0,none⟩) 1 1))=W10 at *;have hz10:W10.heap.size=w9.heap.size+1:=hs10.size.trans (by simp);have hR9:=R.size;have hA10:aa_ (fun b=>S b∨w.heap.size+5≤b∧b<w9.heap.size+1) W10 (.slice (some ⟨w9.heap.size,0,none⟩) 1 1) [y]:=by
  refine fp_ (g:=w9.heap.size) ((hs10.off _ (by omega)).trans (heap_alloc_new w9 _)) rfl rfl rfl (.inr ⟨by omega,by omega⟩) ((hA.keep fun b hb2=>?_).mono fun b hb2=>hb2.imp id fun h=>⟨by omega,by omega⟩);have hlt:b<w9.heap.size∧b≠w.heap.size:=by
   rcases hb2 with h|h
   ·have:=hS b h;omega
   ·omega
  exact (hs10.off b hlt.2).trans (heap_alloc_old w9 _ hlt.1)
 have hsl:af_ (bR_ fn y).args=y.size:=by simp[bR_,Ty.args,af_]
 have CW:=i6_ d ih u (bR_ fn y) free is fv isv (fun b=>S b∨w.heap.size+5≤b∧b<w9.heap.size+1) S Sf (some ⟨w9.heap.size,0,none⟩) ua 1 uc _ _ _ _ w W10 hR (ey_ h1 h2 hg) hgu (fun u hu=>by obtain rfl:=List.mem_singleton.1 hu;exact hd) (by rw[hsl];omega) hsu hsf hA10 hU hF hI (fun b h=>by
  rcases h with h|h
  ·have:=hS b h;omega
  ·omega) hS (fun b h=>.inl h) hSf hT
 refine CW.mono fun e W2 ⟨a2,c2,he,hA2,hb2⟩=>⟨a2,c2,he,hA2.mono fun b h=>?_,hR.hz.trans (hb2.mono hR.hz.size),hR.q4.low hb2⟩;have:=hb2.size
 rcases h with (h|h)|h
 ·exact .inl h
 ·exact .inr ⟨h.1,by omega⟩
 ·exact .inr ⟨by omega,h.2⟩
theorem o3_ {S:Nat→Prop}{y:Ty}{w W2:World}{a:OA_}{c:Nat}(hS:∀ b,S b→b<w.heap.size)(hA:aa_ (fun b=>S b∨w.heap.size+5≤b∧b<W2.heap.size) W2 (.slice a y.args.length c) y.args)(hb:Below w.heap.size w W2) :
  TP S y w (.returned (tv y a c)) ((((W2.setCell ⟨w.heap.size+4,0,none⟩ (.int .i64 y.kind)).setCell ⟨w.heap.size+4,1,none⟩ (.string y.name)).setCell ⟨w.heap.size+4,2,none⟩ (.int .i64 y.n)).setCell ⟨w.heap.size+4,3,none⟩ (.slice a y.args.length c)):=by
 have hs:∀ b,b≠w.heap.size+4→((((W2.setCell ⟨w.heap.size+4,0,none⟩ (.int .i64 y.kind)).setCell ⟨w.heap.size+4,1,none⟩ (.string y.name)).setCell ⟨w.heap.size+4,2,none⟩ (.int .i64 y.n)).setCell ⟨w.heap.size+4,3,none⟩ (.slice a y.args.length c)).heap[b]? = W2.heap[b]? := fun b hb=>by
  rw[aB_ _ _ _ _ hb,aB_ _ _ _ _ hb,aB_ _ _ _ _ hb,aB_ _ _ _ _ hb]
 refine⟨a,c,rfl,(hA.keep fun b h=>hs b ?_).mono fun b h=>h.imp id fun h=>⟨by omega,by simpa using h.2⟩,hb.set4 (by omega) _ _ _ _⟩
 rcases h with h|h
 ·have:=hS b h;omega
 ·omega
theorem o4_ (d:Nat)(u t:Ty)(free:List ByteArray)(is:Ty→Bool)(fv isv:Value)(S Sf:Nat→Prop)(a ua:OA_)(c uc:Nat)(w:World)(ih:eB_ d)(his:is t=false)(hk:t.kind=5)(hnf:dM_ free t.name=true)(hg:aY_ t)(hgu:aY_ u)(hd:t.depth≤d+1)(hs:t.size≤50000000000)(hsu:u.size≤50000000000)(hsf:free.length≤50000000000)
  (hA:aa_ S w (.slice a t.args.length c) t.args) (hU:aa_ S w (.slice ua u.args.length uc) u.args) (hF:aJ_ Sf w fv free) (hI:eM_ isv is w) (hS:∀ b,S b→b<w.heap.size) (hSf:∀ b,Sf b→b<w.heap.size) (hT:Tab w):Calls Tryz.prog 49 #[tv t a c,tv u ua uc,fv,isv] w (TP S (d3_ (d+1) u free is t) w):=by
 obtain⟨x,hx,hx0⟩:=is_ hg.1 hk;obtain⟨b,off,a0,p0,rfl,hbS,hf4,hs0⟩:=rw_ hA hx;obtain⟨af,cf,rfl,hF'⟩:=id hF;obtain⟨f,caps,rfl,he,hc⟩:=id hI;have hln:t.args.length=1:=by rw[hx];rfl
 have hx1:x∈t.args:=by rw[hx];simp
 have hgx:=aR_ hg x hx1;have hdx:x.depth≤d:=by have:=av_ _ hx1;rw[t.depth_eq] at hd;omega
 have hsx:x.size≤50000000000:=by have:=bx_ _ hx1;rw[t.size_eq] at hs;omega
 have hns:=((ci_ t).1 hg.2).1;have htn1:1≤t.name.size:=hns.1 hk;have htn2:t.name.size≤64:=hns.2;have R:=jL_ 5 t.name t.n (.slice (some ⟨b,off,none⟩) 1 c) (.slice af free.length cf) (.func (.func f) #[] caps) u ua uc w;have hfx:=bk_ x;have hfs:=cu_ t.name (free++ai_ x++[t.name]) (by simp;omega) htn1;have E:=hid (ou_ d u free is t x his hk hnf hx0);have e0:=cell_of_row _ _ 0 _ _ _ R.hi;obtain⟨c0,c1,c2,c3⟩:=R.k4.c03;have hbl:=hS b hbS;have CI:=hc t (some ⟨b,off,none⟩) c _ R.hz;unfold tv at CI;rw[hln,hk] at CI;have CI:=hid CI;have CC:=hid (fun (W:World) (h:Below w.heap.size w W)=>bP_ (hF.keep fun b hb=>h.block b (hSf b hb)) t.name);have CFx:=hid (fun (W:World) (h:Below w.heap.size w W)=>dj_ x S a0 p0 W (hs0.keep fun b hb=>h.block b (hS b hb)) (fun b hb=>ba_ (hS b hb) h.size) (by omega));have SK2:=hid (fun (W:World) (h:Below (((((w.alloc (.cells #[.int .i64 5,.string t.name,.int .i64 t.n,.slice (some ⟨b,off,none⟩) 1 c] 37)).alloc (.cells #[.int .i64 u.kind,.string u.name,.int .i64 u.n,.slice ua u.args.length uc] 37)).alloc (.cells #[.slice af free.length cf] 89)).alloc (.cells #[.func (.func f) #[] caps] 54)).alloc (.cells #[.int .i64 0,.string ⟨#[]⟩,.int .i64 0,.slice none 0 0] 37)).heap.size (((((w.alloc (.cells #[.int .i64 5,.string t.name,.int .i64 t.n,.slice (some ⟨b,off,none⟩) 1 c] 37)).alloc (.cells #[.int .i64 u.kind,.string u.name,.int .i64 u.n,.slice ua u.args.length uc] 37)).alloc (.cells #[.slice af free.length cf] 89)).alloc (.cells #[.func (.func f) #[] caps] 54)).alloc (.cells #[.int .i64 0,.string ⟨#[]⟩,.int .i64 0,.slice none 0 0] 37)) W)=>And.intro (R.k4.low h).c1 (And.intro (R.k4.low h).c3 (And.intro (cell_of_row _ _ 0 _ _ _ (R.low h).hf)
  (And.intro (((R.low h).hz.cell (p:=⟨b,off,none⟩) hbl).trans hf4.1) (And.intro (((R.low h).hz.cell (p:=⟨b,off+1,none⟩) hbl).trans hf4.2.1) (And.intro (((R.low h).hz.cell (p:=⟨b,off+2,none⟩) hbl).trans hf4.2.2.1) (((R.low h).hz.cell (p:=⟨b,off+3,none⟩) hbl).trans hf4.2.2.2)))))))
 have hLl:(free++ai_ x++[t.name]).length≤4500000000000:=by simp;omega
 generalize hL:free++ai_ x++[t.name]=L at *;have HL:=hid hL;have HIS:=hid his;have RH:=hid R;have HT:=hid hT;have HS:=hid hS;have HSf:=hid hSf;have HU:=hid hU;have HF:=hid hF;have HI:=hid hI;have HNF:=hid hnf;have HF4:=hid hf4;have hcl:free.length+(ai_ x).length+1≤4500000000000:=by omega
 unfold tv at *;rw[hln,hk];clear hL hg hd hs hA hS hT hx hx0 hln hx1 hf4 R hk hnf hns hU his hF hF' hI hc hSf;go_enter Tryz.func49,Tryz.ntmps49;go_wp2_with fail;refine CI.out.mono ?_;rintro e w1 ⟨rfl,hb1⟩;rw[HIS.out];have BA:Hid (Below (((((w.alloc (.cells #[.int .i64 5,.string t.name,.int .i64 t.n,.slice (some ⟨b,off,none⟩) 1 c] 37)).alloc (.cells #[.int .i64 u.kind,.string u.name,.int .i64 u.n,.slice ua u.args.length uc] 37)).alloc (.cells #[.slice af free.length cf] 89)).alloc (.cells #[.func (.func f) #[] caps] 54)).alloc (.cells #[.int .i64 0,.string ⟨#[]⟩,.int .i64 0,.slice none 0 0] 37)).heap.size (((((w.alloc (.cells #[.int .i64 5,.string t.name,.int .i64 t.n,.slice (some ⟨b,off,none⟩) 1 c] 37)).alloc (.cells #[.int .i64 u.kind,.string u.name,.int .i64 u.n,.slice ua u.args.length uc] 37)).alloc (.cells #[.slice af free.length cf] 89)).alloc (.cells #[.func (.func f) #[] caps] 54)).alloc (.cells #[.int .i64 0,.string ⟨#[]⟩,.int .i64 0,.slice none 0 0] 37)) w1):=hid hb1;have R1:=hid (RH.out.low hb1);have l0:=R1.out.k4.c0;obtain⟨s0,s1,s2,s3,s4,s5,s6⟩:=SK2.out _ hb1;clear hb1 c0 c1 c2 c3 e0;have cc:=CC.out w1 R1.out.hz;rw[bs_,HNF.out] at cc;have CC1:=hid cc;clear cc CC;go_wp2_with fail;refine CC1.out.mono ?_;rintro e w' ⟨rfl,rfl⟩;obtain⟨wa,hwa⟩:∃ wa:World,wa=w1:=⟨_,rfl⟩;subst hwa;go_wp2;have BD:=hid ((Below.refl wa.heap.size wa).drew);have BD2:=hid ((aw_ wa (.cells #[.string t.name] 9)).drew);have KK:=hid (fun (W:World) (h:Below wa.heap.size wa W)=>SK2.out W (BA.out.trans (h.mono BA.out.size)));have BW:=hid (fun (W:World) (h:Below wa.heap.size wa W)=>RH.out.hz.trans ((BA.out.trans (h.mono BA.out.size)).mono RH.out.hz.size))
 go_region_held3 (fun w'=>w'.cell? ⟨w.heap.size,1,none⟩=some (.string t.name)∧w'.cell? ⟨w.heap.size,3,none⟩=some (.slice (some ⟨b,off,none⟩) 1 c)∧w'.cell? ⟨w.heap.size+1+1,0,none⟩=some (.slice af free.length cf) ∧
   w'.cell? ⟨b,off,none⟩=some (.int .i64 x.kind)∧w'.cell? ⟨b,off+1,none⟩=some (.string x.name)∧w'.cell? ⟨b,off+2,none⟩=some (.int .i64 x.n)∧w'.cell? ⟨b,off+3,none⟩=some (.slice a0 x.args.length p0))
  (first|exact KK.out _ hB4|exact KK.out _ hB3|exact KK.out _ ((hB2.alloc hB2.size _).alloc (hB2.alloc hB2.size _).size _)|exact KK.out _ (hB2.alloc hB2.size _)|exact KK.out _ hB2|exact KK.out _ BD2.out|exact KK.out _ BD.out)
  (first
   | (go_at_call 41;(with_reducible refine (CFx.out _ (BW.out _ BD.out)).mono ?_);rintro e w2 ⟨v2,rfl,own2,len2,hb2⟩;obtain⟨ya2,yc2,rfl⟩:=aG_ own2;have hB2:=BD.out.trans (hb2.mono BD.out.size);have tkL:=True.intro)
   | (go_at_call 41;(with_reducible refine (CFx.out _ (BW.out _ BD2.out)).mono ?_);rintro e w2 ⟨v2,rfl,own2,len2,hb2⟩;obtain⟨ya2,yc2,rfl⟩:=aG_ own2;have hB2:=BD2.out.trans (hb2.mono BD2.out.size);have tkF:=True.intro)
   | (go_at_call 87;have _t:=tkF;refine (hC_ HL.out (b3:=wa.heap.size) (N:=w2.heap.size) (p:=t.name) rfl HF.out HSf.out (BW.out _ hB2) own2 (Below.refl _ _) ((hb2.block _ (by simp)).trans (ah_ (by simp))) hcl).mono ?_;rintro e w3 ⟨v3,rfl,own3,hb3⟩;obtain⟨ya3,yc3,rfl⟩:=aG_ own3;have hB3:=(hB2.alloc hB2.size _).trans (hb3.mono (hB2.alloc hB2.size _).size))
   | (go_at_call 87;have _t:=tkL;refine (hC_ HL.out (b3:=w2.heap.size) (N:=w2.heap.size+1) (p:=t.name) (by simp) HF.out HSf.out (BW.out _ (hB2.alloc hB2.size _)) own2 (aw_ w2 _) (heap_alloc_new w2 _) hcl).mono ?_;rintro e w3 ⟨v3,rfl,own3,hb3⟩;obtain⟨ya3,yc3,rfl⟩:=aG_ own3;have hB3:=((hB2.alloc hB2.size _).alloc (hB2.alloc hB2.size _).size _).trans (hb3.mono ((hB2.alloc hB2.size _).alloc (hB2.alloc hB2.size _).size _).size))
   | (go_at_call 86;refine (gF_ t.name htn1 _ _ L _ (aJ_.of_own own3 hLl) (fun b hb=>(own3.lt b hb).2) (ag_ HT.out (BW.out _ hB3))).mono ?_;rintro e w4 ⟨rfl,hb4⟩;have hB4:=hB3.trans (hb4.mono hB3.size)))
 all_goals
  have R4:=hid (RH.out.low ((BA.out.trans (hB4.mono BA.out.size))));clear hb2 hb3 hb4 hB2 hB3 hB4 own2 own3 len2 s0 s1 s2 s3 s4 s5 s6 l0 KK BD BD2 BW BA R1;generalize hfn:a2_ t.name L=fn at *;clear hfn;have RD4:=hid (R4.out.low (Below.refl w4.heap.size w4).drew);have KP:=hid (cY_ t.name fn x hgx hfs.2 (by omega));have CR:=hid (fun (W:World) (h:Below w.heap.size w W)=>jw_ t.name fn x S a0 p0 W hgx (by omega) htn2 hfs.2 (hs0.keep fun b hb=>h.block b (HS.out b hb)) (fun b hb=>ba_ (HS.out b hb) h.size) (ag_ HT.out h));have CT:=hid (fun (W9:World) (a9:OA_) (c9:Nat) (R9:c8_ 5 t.name t.n (.slice (some ⟨b,off,none⟩) 1 c) (.slice af free.length cf) (.func (.func f) #[] caps) u ua uc w W9) (hA9:aa_ (fun b=>S b∨w.heap.size+5≤b∧b<W9.heap.size) W9 (.slice a9 (b9_ t.name fn x).args.length c9) (b9_ t.name fn x).args) =>
   ni_ d ih fn u (b9_ t.name fn x) free is _ _ S Sf ua a9 uc c9 _ _ _ _ w W9 R9 KP.out.2.2.1 hgu hfs.1 hfs.2 (by rw[KP.out.1];exact hdx) (by rw[KP.out.2.1];exact hsx) hsu hsf hA9 HU.out HF.out HI.out HS.out HSf.out HT.out)
  obtain⟨f0,f1,f2,f3⟩:=HF4.out.keep (RD4.out.hz.block b hbl);have d1:=RD4.out.k4.c1;have d3:=RD4.out.k4.c3;go_wp2
  go_region_with ((go_at_call 75;refine (CR.out _ RD4.out.hz).mono ?_;rintro e w9 ⟨a9,c9,rfl,hA9,hb9⟩;have R9:=hid (RD4.out.low hb9);have k9:=R9.out.k4;have g0:=k9.c0;have g1:=k9.c1;have g2:=k9.c2;have g3:=k9.c3;have n0:=k9.fr 0;have n1:=k9.fr 1;have n2:=k9.fr 2;have n3:=k9.fr 3;have k10:=k9.low (aw_ _ (.cells #[.int .i64 (b9_ t.name fn x).kind,.string (b9_ t.name fn x).name,.int .i64 (b9_ t.name fn x).n,.slice a9 (b9_ t.name fn x).args.length c9] 37));have h0:=k10.c0;have h1:=k10.c1;have h2:=k10.c2;have h3:=k10.c3;have m0:=k10.fr 0;have m1:=k10.fr 1;have m2:=k10.fr 2;have m3:=k10.fr 3;have HA9:=hid (hA9.mono fun b h=>h.imp id fun h=>And.intro (cj_ RD4.out.size h.1) h.2);clear k9 k10 hA9 hb9;unfold tv))
  all_goals
   go_wp2_with fail;refine (CT.out _ _ _ R9.out HA9.out).mono ?_;rintro e W2 ⟨a2,c2,rfl,hA2,hb2,q2⟩;obtain⟨r0,r1,r2,r3⟩:=q2.c03;obtain⟨v0,v1,v2,v3⟩:=q2.f03;have HA2:=hid hA2;have HB2:=hid hb2;clear hA2 hb2 g0 g1 g2 g3 h0 h1 h2 h3 n0 n1 n2 n3 m0 m1 m2 m3 f0 f1 f2 f3 d1 d3;generalize bb_ (bR_ fn (b9_ t.name fn x)) [d3_ d u free is (b9_ t.name fn x)]=y at *;unfold tv;go_wp2;have q5:=B4.set4 q2 (.int .i64 y.kind) (.string y.name) (.int .i64 y.n) (.slice a2 y.args.length c2);exact bodyPost_ret (v:=tv y a2 c2) (by simp[results,Tryz.results49,go_sem,tv,q5.c0,q5.c1,q5.c2,q5.c3]) rfl (by rw[E.out];exact o3_ HS.out HA2.out HB2.out)
end Go.Proofs.YtjecnionbjlncaaGreatDoor.Tp

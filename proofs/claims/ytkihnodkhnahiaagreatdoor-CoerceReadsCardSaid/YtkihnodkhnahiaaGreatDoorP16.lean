/- Packed. -/
import Derived.Test.YtkihnodkhnahiaaGreatDoorP12
import Derived.ChangeAlike
set_option maxRecDepth 100000
set_option maxHeartbeats 6400000
namespace Go.Proofs.YtkihnodkhnahiaaGreatDoor.Tp
open Go.RowKit
open Lx
def R4 (w:World)(b:Nat)(c0 c1 c2 c3:Value):Prop:=w.heap[b]? = some (.cells #[c0,c1,c2,c3] 56 (0,0))
section
variable {w w' : World} {b : Nat} {u0 u1 u2 u3 : Value}
theorem R4.c0 (h:R4 w b u0 u1 u2 u3):w.cell? ⟨b,0,none⟩=some u0:=cell_of_row w b 0 _ _ _ h
theorem R4.c1 (h:R4 w b u0 u1 u2 u3):w.cell? ⟨b,1,none⟩=some u1:=cell_of_row w b 1 _ _ _ h
theorem R4.c2 (h:R4 w b u0 u1 u2 u3):w.cell? ⟨b,2,none⟩=some u2:=cell_of_row w b 2 _ _ _ h
theorem R4.c3 (h:R4 w b u0 u1 u2 u3):w.cell? ⟨b,3,none⟩=some u3:=cell_of_row w b 3 _ _ _ h
theorem R4.fr (h:R4 w b u0 u1 u2 u3)(i:Nat):w.frozen? ⟨b,i,none⟩=false:=by unfold R4 at h;simp[World.frozen?,h]
theorem R4.c03 (h:R4 w b u0 u1 u2 u3):w.cell? ⟨b,0,none⟩=some u0∧w.cell? ⟨b,1,none⟩=some u1∧w.cell? ⟨b,2,none⟩=some u2∧w.cell? ⟨b,3,none⟩=some u3:=⟨h.c0,h.c1,h.c2,h.c3⟩
theorem R4.f03 (h:R4 w b u0 u1 u2 u3):w.frozen? ⟨b,0,none⟩=false∧w.frozen? ⟨b,1,none⟩=false∧w.frozen? ⟨b,2,none⟩=false∧w.frozen? ⟨b,3,none⟩=false:=⟨h.fr 0,h.fr 1,h.fr 2,h.fr 3⟩
theorem R4.lt (h:R4 w b u0 u1 u2 u3):b<w.heap.size:=(Array.getElem?_eq_some_iff.1 h).1
theorem R4.new (w:World)(u0 u1 u2 u3:Value):R4 (w.alloc (.cells #[u0,u1,u2,u3] 56)) w.heap.size u0 u1 u2 u3:=heap_alloc_new w _
theorem R4.grown {r:Option Nat}(h:R4 w b u0 u1 u2 u3)(hg:w.grownBy w' r)(hr:r≠some b):R4 w' b u0 u1 u2 u3:=(hg.block b h.lt (Ne.symm hr)).trans h
theorem R4.low (h:R4 w b u0 u1 u2 u3)(hb:Below w.heap.size w w'):R4 w' b u0 u1 u2 u3:=(hb.block b h.lt).trans h
end
theorem R4.set4 {w:World}{b:Nat}{u0 u1 u2 u3:Value}(h:R4 w b u0 u1 u2 u3)(v0 v1 v2 v3:Value) :
  R4 ((((w.setCell ⟨b,0,none⟩ v0).setCell ⟨b,1,none⟩ v1).setCell ⟨b,2,none⟩ v2).setCell ⟨b,3,none⟩ v3) b v0 v1 v2 v3:=by
 unfold R4 at *;rw[ak_ (ak_ (ak_ (ak_ h v0) v1) v2) v3];rfl
structure mC_ (lo:Nat)(w:World)(v:Value)(acc:List Ty)(svs:List Value):Prop where
 own:w.ownsRow lo 56 4 v acc.length (bQ_ acc svs)
 len:svs.length=acc.length
 at_:∀ (j:Nat) (t:Ty) (sv:Value),acc[j]? = some t→svs[j]? = some sv→ac_ (fun b=>lo≤b∧b<w.heap.size∧v.ownBlock≠some b) w sv t.args
theorem mC_.nil (lo:Nat)(w:World):mC_ lo w (.slice none 0 0) [] []:=⟨World.ownsRow_nil _ _ _ _,rfl,by simp⟩
theorem mC_.keep {lo:Nat}{w w':World}{v:Value}{acc:List Ty}{svs:List Value}(h:mC_ lo w v acc svs)(hs:w.heap.size≤w'.heap.size)(hk:∀ b,lo≤b→b<w.heap.size→w'.heap[b]? = w.heap[b]?):mC_ lo w' v acc svs :=
 ⟨aF_ h.own fun b hb=>hk b (h.own.lt b hb).1 (h.own.lt b hb).2,h.len,fun j t sv h1 h2=>((h.at_ j t sv h1 h2).keep fun b hb=>hk b hb.1 hb.2.1).mono fun b hb=>⟨hb.1,by have:=hb.2.1;omega,hb.2.2⟩⟩
theorem mC_.add {lo:Nat}{w w':World}{v v' sv:Value}{acc:List Ty}{svs:List Value}{t:Ty}{S:Nat→Prop}(h:mC_ lo w v acc svs)(hx:ac_ S w sv t.args)(hS:∀ b,S b→lo≤b∧b<w.heap.size∧v.ownBlock≠some b)
  (hg:w.grownBy w' v.ownBlock) (ho:w'.ownsRow lo 56 4 v' (acc.length+1) (bQ_ acc svs++dy_ t sv)) (hat:∀ b,v'.ownBlock=some b→v.ownBlock=some b∨w.heap.size≤b):mC_ lo w' v' (acc++[t]) (svs++[sv]):=by
 have kp:∀ {S:Nat→Prop} {y:Value} {ts:List Ty},(∀ b,S b→lo≤b∧b<w.heap.size∧v.ownBlock≠some b)→ac_ S w y ts→ac_ (fun b=>lo≤b∧b<w'.heap.size∧v'.ownBlock≠some b) w' y ts:=fun {S y ts} hS hy =>
  (hy.keep fun b hb=>hg.block b (hS b hb).2.1 (Ne.symm (hS b hb).2.2)).mono fun b hb=>⟨(hS b hb).1,aX_ (hS b hb).2.1 hg.size,fun e=>by
   rcases hat b e with e|e
   ·exact (hS b hb).2.2 e
   ·have:=(hS b hb).2.1;omega⟩
 refine⟨by rw[eu_ _ _ _ _ h.len,List.length_append];exact ho,by simp[h.len],fun j u y h1 h2=>?_⟩
 rcases Nat.lt_or_ge j acc.length with hlt|hge
 ·rw[List.getElem?_append_left hlt] at h1
  rw[List.getElem?_append_left (by rw[h.len];exact hlt)] at h2;exact kp (fun b hb=>hb) (h.at_ j u y h1 h2)
 ·have hj:j=acc.length:=by
   have:=(List.getElem?_eq_some_iff.1 h1).1;simp at this;omega
  subst hj;rw[List.getElem?_append_right (aw_ _)] at h1;rw[← h.len,List.getElem?_append_right (aw_ _)] at h2;simp at h1 h2;subst h1 h2;exact kp hS hx
theorem mC_.args {lo:Nat}{w:World}{v:Value}{acc:List Ty}{svs:List Value}(h:mC_ lo w v acc svs)(hl:acc.length≤4000):ac_ (In lo w.heap.size) w v acc:=by
 rcases h.own.2 with ⟨rfl,h0⟩|⟨g,cap,cur,rfl,hb,hg,h1,h2,h3,h4⟩
 ·have:acc=[]:=List.eq_nil_of_length_eq_zero h0
  subst this;exact .nil _ _
 ·refine .mk g 0 cap acc (fun i=>svs.getD i (.slice none 0 0)) ⟨hb,(Array.getElem?_eq_some_iff.1 hg).1⟩ (by omega) (fun i hi=>?_) (fun i hi=>?_)
  ·have hi':i<svs.length:=by rw[h.len];exact hi
   obtain⟨a0,a1,a2,a3⟩:=eK_ acc svs h.len i hi hi';have hc:=h.own.cells (g:=g) rfl;have hadd:∀ j,(⟨g,0,none⟩:Addr).add j=⟨g,j,none⟩:=fun j=>by unfold Addr.add;split<;>simp_all
   have b0:=hc _ _ a0;have b1:=hc _ _ a1;have b2:=hc _ _ a2;have b3:=hc _ _ a3;rw[hadd] at b0 b1 b2 b3;simp only[Nat.zero_add];rw[List.getD_eq_getElem?_getD,List.getElem?_eq_getElem hi'];exact⟨b0,b1,b2,b3⟩
  ·have hi':i<svs.length:=by rw[h.len];exact hi
   simp only[List.getD_eq_getElem?_getD,List.getElem?_eq_getElem hi',Option.getD_some];exact (h.at_ i _ _ (List.getElem?_eq_getElem hi) (List.getElem?_eq_getElem hi')).mono fun b hb=>⟨hb.1,hb.2.1⟩
theorem le_:(Tryz.prog.info? 56).map (fun i=>(i.zero,i.size,i.bytes))=some (some (.agg #[.int .i64 0,.string ByteArray.empty,.int .i64 0,.slice none 0 0]),4,56):=by kernel_rfl
def cW_ (w:World)(n:Nat)(res:Option (Ty × List Tok))(e:Ending)(w':World):Prop :=
 Below w.heap.size w w'∧match res with
 | none=>∃ (k:Int) (s:ByteArray) (n:Int) (a:OA_) (c m:Nat),e=.returned (.tuple #[.agg #[.int .i64 k,.string s,.int .i64 n,.slice a c m],.int .i64 (-1)])
 | some (t,r)=>∃ a c,e=.returned (.tuple #[tv t a c,.int .i64 ((n - r.length:Nat):Int)])∧ac_ (In w.heap.size w'.heap.size) w' (.slice a t.args.length c) t.args
structure hl_ (l:List Tok):Prop where
 num:∀ t∈l,t.kind=5→t.text.tail.length≤6∧t.text≠[]∧∀ c∈t.text.tail,aA_ c=true
 par:∀ t∈l,t.text=bX_→t.kind=6
structure iP_ (n:Nat):Prop where
 typ:∀ (w:World) (a:OA_) (c:Nat) (l:List Tok) (i:Nat),aO_ w (.slice a l.length c) l→(∀ b o,a=some ⟨b,o,none⟩→b<w.heap.size)→hl_ l→l.length≤4000→i≤l.length→4*(l.length - i)+4≤n→Calls Tryz.prog 54 #[.slice a l.length c,.int .i64 i] w (cW_ w l.length (bT_ n (l.drop i)))
 app:∀ (w:World) (a:OA_) (c:Nat) (l:List Tok) (i:Nat),aO_ w (.slice a l.length c) l→(∀ b o,a=some ⟨b,o,none⟩→b<w.heap.size)→hl_ l→l.length≤4000→i≤l.length→4*(l.length - i)+3≤n→Calls Tryz.prog 89 #[.slice a l.length c,.int .i64 i] w (cW_ w l.length (cm_ n (l.drop i)))
 atom:∀ (w:World) (a:OA_) (c:Nat) (l:List Tok) (i:Nat),aO_ w (.slice a l.length c) l→(∀ b o,a=some ⟨b,o,none⟩→b<w.heap.size)→hl_ l→l.length≤4000→i≤l.length→4*(l.length - i)+2≤n→Calls Tryz.prog 106 #[.slice a l.length c,.int .i64 i] w (cW_ w l.length (aU_ n (l.drop i)))
def ho_ (S:Nat→Prop)(r:Ty × Nat)(W:World)(e:Ending)(W':World):Prop :=
 ∃ a c,e=.returned (.tuple #[tv r.1 a c,.int .i64 r.2])∧ac_ (New S W W') W' (.slice a r.1.args.length c) r.1.args∧Below W.heap.size W W'
def gb_ (d:Nat):Prop:=∀ (free:List ByteArray) (fv:Value) (n:Nat) (t:Ty) (S Sf:Nat→Prop) (a:OA_) (c:Nat) (W:World),cV_ t→t.depth≤d→t.size≤50000000000→n+t.size*(free.length+1)≤4611686018427387904→bd_ Sf W fv free →
 ac_ S W (.slice a t.args.length c) t.args→(∀ b,S b→b<W.heap.size)→(∀ b,Sf b→b<W.heap.size)→Tab W→Calls Tryz.prog 62 #[tv t a c,fv,.int .i64 n] W (ho_ S (cC_ d free n t) W)
def oG_ (bn:Nat)(n:Nat)(W:World):Prop:=W.heap[bn]? = some (.cells #[.int .i64 (n:Int)] 3 (0,0))
def rf_ (bn:Nat)(b:Nat):Prop:=b=bn
theorem me_ (args:Array Value)(w:World):(callFunc 92 args).run Tryz.prog w=.ok (.enter 92 args) w :=
 enters_of Tryz.func92 (by kernel_rfl) rfl args w
structure d8_ (R:Nat)(W W':World):Prop where
 os:W'.os=W.os
 tape:W'.tape=W.tape
 output:W'.output=W.output
 size:W'.heap.size=W.heap.size
 off:∀ b,b≠R→W'.heap[b]? = W.heap[b]?
theorem ed_ (W:World)(R o:Nat)(v:Value):d8_ R W (W.setCell ⟨R,o,none⟩ v):=⟨rfl,rfl,rfl,by simp,fun b h=>aM_ _ _ _ _ h⟩
theorem d8_.trans {R:Nat}{W W1 W2:World}(h:d8_ R W W1)(k:d8_ R W1 W2):d8_ R W W2 :=
 ⟨k.os.trans h.os,k.tape.trans h.tape,k.output.trans h.output,k.size.trans h.size,fun b hb=>(k.off b hb).trans (h.off b hb)⟩
theorem bJ_ (W:World)(R:Nat)(v0 v1 v2 v3:Value):d8_ R W ((((W.setCell ⟨R,0,none⟩ v0).setCell ⟨R,1,none⟩ v1).setCell ⟨R,2,none⟩ v2).setCell ⟨R,3,none⟩ v3) :=
 (((ed_ W R 0 v0).trans (ed_ _ R 1 v1)).trans (ed_ _ R 2 v2)).trans (ed_ _ R 3 v3)
theorem rd_ {S:Nat→Prop}{bn n2 c2':Nat}{y:Ty}{a2:OA_}{W W1 W2 W3 W5:World}(hS:∀ b,S b→b<W.heap.size∧¬ rf_ bn b)(hbn:bn<W.heap.size)(hz:Below W.heap.size W W1)(hs1:W1.heap.size=W.heap.size+2)(hA:ac_ (New S W1 W2) W2 (.slice a2 y.args.length c2') y.args)(hb:Below W1.heap.size W1 W2)
  (q4:B4 W2 (W.heap.size+1) (.int .i64 0) (.string ⟨#[]⟩) (.int .i64 0) (.slice none 0 0)) (hI:∃ v,W2.heap[bn]? = some (.cells #[v] 3 (0,0))) (s3:d8_ W.heap.size W2 W3) (s5:d8_ (W.heap.size+1) (W3.setCell ⟨bn,0,none⟩ (.int .i64 (n2:Int))) W5) :
  B4 (W3.setCell ⟨bn,0,none⟩ (.int .i64 (n2:Int))) (W.heap.size+1) (.int .i64 0) (.string ⟨#[]⟩) (.int .i64 0) (.slice none 0 0)∧gi_ S (rf_ bn) (oG_ bn) y n2 W (.returned (tv y a2 c2')) W5:=by
 have s4:=ed_ W3 bn 0 (.int .i64 (n2:Int));obtain⟨v,hv⟩:=hI;have hI5:oG_ bn n2 W5:=(s5.off bn (by omega)).trans (ak_ ((s3.off bn (by omega)).trans hv) _);have q5:=(s4.off (W.heap.size+1) (by omega)).trans ((s3.off (W.heap.size+1) (by omega)).trans q4);generalize W3.setCell ⟨bn,0,none⟩ (.int .i64 (n2:Int))=W4 at *;have hsz:=hb.size;have hs5:W5.heap.size=W2.heap.size:=s5.size.trans (s4.size.trans s3.size);have off:∀ b,b≠W.heap.size→b≠bn→b≠W.heap.size+1→W5.heap[b]? = W2.heap[b]? := fun b h1 h2 h3=>(s5.off b h3).trans ((s4.off b h2).trans (s3.off b h1));refine⟨q5,a2,c2',rfl,(hA.keep fun b h=>?_).mono fun b h=>h.imp id fun h=>⟨by omega,by omega⟩,hI5,⟨?_,?_,?_,?_,fun b hb2 ht=>?_⟩⟩
 ·rcases h with h|h
  ·have:=hS b h;exact off b (by omega) this.2 (by omega)
  ·exact off b (by omega) (by omega) (by omega)
 ·exact s5.os.trans (s4.os.trans (s3.os.trans (hb.os.trans hz.os)))
 ·exact s5.tape.trans (s4.tape.trans (s3.tape.trans (hb.tape.trans hz.tape)))
 ·exact s5.output.trans (s4.output.trans (s3.output.trans (hb.output.trans hz.output)))
 ·omega
 ·exact (off b (by omega) ht (by omega)).trans ((hb.block b (by omega)).trans (hz.block b hb2))
theorem pB_ (d:Nat)(ih:gb_ d)(free:List ByteArray)(fv:Value)(n:Nat)(bf bn:Nat)(t:Ty)(S Sf:Nat→Prop)(a:OA_)(c:Nat)(W:World)(hg:cV_ t)(hd:t.depth≤d)(hs:t.size≤50000000000)(hb:n+t.size*(free.length+1)≤4611686018427387904)(hf:W.cell? ⟨bf,0,none⟩=some fv)(hI:oG_ bn n W)(hF:bd_ Sf W fv free)
  (hA:ac_ S W (.slice a t.args.length c) t.args) (hS:∀ b,S b→b<W.heap.size∧¬ rf_ bn b) (hSf:∀ b,Sf b→b<W.heap.size) (hT:Tab W) :
  Calls Tryz.prog 92 #[tv t a c,.pointer (some ⟨bf,0,none⟩),.pointer (some ⟨bn,0,none⟩)] W (gi_ S (rf_ bn) (oG_ bn) (cC_ d free n t).1 (cC_ d free n t).2 W):=by
 have hz:=ao_ W (.cells #[.int .i64 t.kind,.string t.name,.int .i64 t.n,.slice a t.args.length c] 30);have hz2:=hz.alloc hz.size (.cells #[.int .i64 0,.string ⟨#[]⟩,.int .i64 0,.slice none 0 0] 30);have k4:=(B4.new W (.int .i64 t.kind) (.string t.name) (.int .i64 t.n) (.slice a t.args.length c)).low (ao_ _ (.cells #[.int .i64 0,.string ⟨#[]⟩,.int .i64 0,.slice none 0 0] 30));have q4:B4 ((W.alloc (.cells #[.int .i64 t.kind,.string t.name,.int .i64 t.n,.slice a t.args.length c] 30)).alloc (.cells #[.int .i64 0,.string ⟨#[]⟩,.int .i64 0,.slice none 0 0] 30)) (W.heap.size+1) (.int .i64 0) (.string ⟨#[]⟩) (.int .i64 0) (.slice none 0 0):=al_ (by simp);obtain⟨c0,c1,c2,c3⟩:=k4.c03;have hbn:=(Array.getElem?_eq_some_iff.1 hI).1;have e0:=(hz2.cell (p:=⟨bf,0,none⟩) (World.block_lt_of_cell? W _ hf)).trans hf;have e1:=(hz2.cell (p:=⟨bn,0,none⟩) hbn).trans (cell_of_row W bn 0 _ _ _ hI);have C:=hid (ih free fv n t S Sf a c _ hg hd hs hb (hF.keep fun b hb=>hz2.block b (hSf b hb)) (hA.keep fun b hb=>hz2.block b (hS b hb).1) (fun b hb=>aX_ (hS b hb).1 hz2.size) (fun b hb=>aX_ (hSf b hb) hz2.size) (ag_ hT hz2));have HZ2:=hid hz2;have HS:=hid hS;have Q4:=hid q4;have K4:=hid k4;have HI:=hid hI;unfold tv at *;clear hz hz2 k4 q4 hf hA hS hT hg hd hs hF hI hSf hb;go_enter Tryz.func92,Tryz.ntmps92;go_wp2_with fail;refine C.out.mono ?_;rintro e W2 ⟨a2,c2',rfl,hA2,hb2⟩;have k4:=K4.out.low hb2;have q4:=Q4.out.low hb2;have hz3:=hb2.size;have i2:=(hb2.block bn (aX_ hbn HZ2.out.size)).trans ((HZ2.out.block bn hbn).trans HI.out);have j0:=cell_of_row W2 bn 0 _ _ _ i2;have j1:W2.frozen? ⟨bn,0,none⟩=false:=by simp[World.frozen?,i2]
 obtain⟨r0,r1,r2,r3⟩:=q4.c03;obtain⟨s0,s1,s2,s3⟩:=q4.f03;obtain⟨l0,l1,l2,l3⟩:=k4.c03;obtain⟨m0,m1,m2,m3⟩:=k4.f03;have HA2:=hid hA2;have HB2:=hid hb2;have I2:=hid i2;have K42:=hid k4;have Q42:=hid q4;have hbne:bn≠W.heap.size:=by omega
 have hbne1:bn≠W.heap.size+1:=by omega
 clear hA2 hb2 i2 k4 q4 hz3;generalize hr:cC_ d free n t=r at *;obtain⟨y,n2⟩:=r;have HR:=hid hr;clear hr;unfold tv;simp only;go_wp2;have hend:=rd_ (y:=y) (n2:=n2) HS.out hbn HZ2.out (by simp) HA2.out HB2.out Q42.out ⟨_,I2.out⟩ (bJ_ W2 W.heap.size (.int .i64 y.kind) (.string y.name) (.int .i64 y.n) (.slice a2 y.args.length c2')) (bJ_ _ (W.heap.size+1) (.int .i64 y.kind) (.string y.name) (.int .i64 y.n) (.slice a2 y.args.length c2'));have q5:=B4.set4 hend.1 (.int .i64 y.kind) (.string y.name) (.int .i64 y.n) (.slice a2 y.args.length c2');exact bodyPost_ret (v:=tv y a2 c2') (by simp[results,Tryz.results92,go_sem,tv,q5.c0,q5.c1,q5.c2,q5.c3]) rfl hend.2
structure dp_ (k:Int)(s:ByteArray)(m:Int)(sl fv:Value)(n:Nat)(w W:World):Prop where
 hz:Below w.heap.size w W
 k4:B4 W w.heap.size (.int .i64 k) (.string s) (.int .i64 m) sl
 hf:W.heap[w.heap.size+1]? = some (.cells #[fv] 88 (0,0))
 hn:oG_ (w.heap.size+2) n W
 q4:B4 W (w.heap.size+3) (.int .i64 0) (.string ⟨#[]⟩) (.int .i64 0) (.slice none 0 0)
 size:w.heap.size+4≤W.heap.size
theorem qz_ (k:Int)(s:ByteArray)(m:Int)(sl fv:Value)(n:Nat)(w:World):dp_ k s m sl fv n w ((((w.alloc (.cells #[.int .i64 k,.string s,.int .i64 m,sl] 30)).alloc (.cells #[fv] 88)).alloc (.cells #[.int .i64 (n:Int)] 3)).alloc (.cells #[.int .i64 0,.string ⟨#[]⟩,.int .i64 0,.slice none 0 0] 30)):=by
 have hz:=ao_ w (.cells #[.int .i64 k,.string s,.int .i64 m,sl] 30);have hz2:=hz.alloc hz.size (.cells #[fv] 88);have hz3:=hz2.alloc hz2.size (.cells #[.int .i64 (n:Int)] 3);have hz4:=hz3.alloc hz3.size (.cells #[.int .i64 0,.string ⟨#[]⟩,.int .i64 0,.slice none 0 0] 30);refine⟨hz4,?_,?_,?_,al_ (by simp),by simp⟩
 ·exact (((B4.new w _ _ _ _).low (ao_ _ _)).low (ao_ _ _)).low (ao_ _ _)
 ·rw[heap_alloc_old _ _ (by simp),heap_alloc_old _ _ (by simp)]
  exact al_ (by simp)
 ·unfold oG_
  rw[heap_alloc_old _ _ (by simp)];exact al_ (by simp)
theorem k3_ (d:Nat)(ih:gb_ d)(free:List ByteArray)(fv:Value)(n:Nat)(t:Ty)(S Sf:Nat→Prop)(a:OA_)(c:Nat)(k:Int)(s:ByteArray)(m:Int)(sl:Value)(w W0:World)(R:dp_ k s m sl fv n w W0)(hg:cV_ t)(hd:∀ x∈t.args,x.depth≤d)(hs:ax_ t.args≤50000000000)(hb:n+ax_ t.args*(free.length+1)≤4611686018427387904)
  (hF:bd_ Sf W0 fv free) (hA:ac_ S W0 (.slice a t.args.length c) t.args) (hS:∀ b,S b→b<W0.heap.size∧b≠w.heap.size+2) (hSf:∀ b,Sf b→b<w.heap.size) (hT:Tab w) :
  Calls Tryz.prog 39 #[tv t a c,.func (.func 92) #[] #[.pointer (some ⟨w.heap.size+1,0,none⟩),.pointer (some ⟨w.heap.size+2,0,none⟩)]] W0 (gi_ S (rf_ (w.heap.size+2)) (oG_ (w.heap.size+2)) (cn_ t (au_ (cC_ d free) n t.args).1) (au_ (cC_ d free) n t.args).2 W0):=by
 have hal:=cL_ t.args;have hsz:=R.size;refine gn_ 92 _ me_ (rf_ (w.heap.size+2)) (oG_ (w.heap.size+2)) (cC_ d free) t n S a c W0 R.hn (fun g W W' h hk=>(hk _ rfl).trans h) hA (fun b hb=>⟨(hS b hb).1,(hS b hb).2⟩) (fun b hb=>by rw[show b=w.heap.size+2 from hb];omega) (by omega) (fun i hi a' c' W hI hK hA'=>?_);have hmi:=List.getElem_mem hi;have hst:=fU_ t.args i hi;have hsl:=ds_ t.args (i+1);have hsa:=cx_ _ hmi;have hL:=hS_ d free (free.length+1) (fun t n h1 h2 h3 h4=>gZ_ d free t n h1 h2 h3 h4) (t.args.take i) n (fun u hu=>⟨hd u (List.mem_of_mem_take hu),cu_ hg u (List.mem_of_mem_take hu),by have:=cx_ _ (List.mem_of_mem_take hu);omega⟩)
  (bm_ (Nat.add_le_add_left (Nat.mul_le_mul_right _ (ds_ t.args i)) n) hb)
 have hb2:(au_ (cC_ d free) n (t.args.take i)).2+t.args[i].size*(free.length+1)≤4611686018427387904:=by
  have h1:=hL.2.1;have h2:=Nat.mul_le_mul_right (free.length+1) hsl;rw[hst,Nat.add_mul] at h2;omega
 exact pB_ d ih free fv _ (w.heap.size+1) (w.heap.size+2) t.args[i] S Sf a' c' W (cu_ hg _ hmi) (hd _ hmi) (by omega) hb2 (cell_of_row _ _ 0 _ _ _ ((hK.block _ (by omega) (fun e=>by have:w.heap.size+1=w.heap.size+2:=e;omega)).trans R.hf)) hI
  (hF.keep fun b hb=>hK.block b (by have:=hSf b hb;omega) (fun e=>by have:b=w.heap.size+2:=e;have:=hSf b hb;omega)) hA' (fun b hb=>⟨aX_ (hS b hb).1 hK.size,(hS b hb).2⟩) (fun b hb=>by have:=hSf b hb;have:=hK.size;omega)
  (ag_ hT ⟨hK.os.trans R.hz.os,hK.tape.trans R.hz.tape,hK.output.trans R.hz.output,bm_ R.hz.size hK.size,fun b hb=>(hK.block b (by omega) (fun e=>by have:b=w.heap.size+2:=e;omega)).trans (R.hz.block b hb)⟩)
theorem rc_ {S:Nat→Prop}{y:Ty}{m c2:Nat}{a2:OA_}{w W0 W2 W3:World}(hS:∀ b,S b→b<w.heap.size)(h0:Below w.heap.size w W0)(hs0:w.heap.size+4≤W0.heap.size)(hk:Kp W0.heap.size (rf_ (w.heap.size+2)) W0 W2)(hA:ac_ (fun b=>S b∨w.heap.size+4≤b∧b<W2.heap.size) W2 (.slice a2 y.args.length c2) y.args)
  (s3:d8_ (w.heap.size+3) (W2.alloc (.cells #[.int .i64 y.kind,.string y.name,.int .i64 y.n,.slice a2 y.args.length c2] 30)) W3):ho_ S (y,m) w (.returned (.tuple #[tv y a2 c2,.int .i64 m])) W3.drew:=by
 have hsz:W3.heap.size=W2.heap.size+1:=s3.size.trans (by simp);have hk2:=hk.size;have off:∀ b,b<W2.heap.size→b≠w.heap.size+3→W3.drew.heap[b]? = W2.heap[b]? := fun b h1 h2=>(s3.off b h2).trans (heap_alloc_old W2 _ h1);refine⟨a2,c2,rfl,(hA.keep fun b h=>?_).mono fun b h=>h.imp id fun h=>⟨by omega,by show b<W3.heap.size;omega⟩,⟨?_,?_,?_,?_,fun b hb=>?_⟩⟩
 ·rcases h with h|h
  ·have:=hS b h;exact off b (by omega) (by omega)
  ·exact off b (by omega) (by omega)
 ·exact s3.os.trans (hk.os.trans h0.os)
 ·exact s3.tape.trans (hk.tape.trans h0.tape)
 ·exact s3.output.trans (hk.output.trans h0.output)
 ·show w.heap.size≤W3.heap.size;omega
 ·exact (off b (by omega) (by omega)).trans ((hk.block b (by omega) (fun e=>by have:b=w.heap.size+2:=e;omega)).trans (h0.block b hb))
theorem pw_ (d:Nat)(ih:gb_ d)(free:List ByteArray)(fv:Value)(n:Nat)(t:Ty)(S Sf:Nat→Prop)(a:OA_)(c:Nat)(w:World)(hk:t.kind≠5)(hg:cV_ t)(hd:t.depth≤d+1)(hs:t.size≤50000000000)(hb:n+t.size*(free.length+1)≤4611686018427387904)(hF:bd_ Sf w fv free)
  (hA:ac_ S w (.slice a t.args.length c) t.args) (hS:∀ b,S b→b<w.heap.size) (hSf:∀ b,Sf b→b<w.heap.size) (hT:Tab w) :
  Calls Tryz.prog 62 #[tv t a c,fv,.int .i64 n] w (ho_ S (cC_ (d+1) free n t) w):=by
 obtain⟨af,cf,rfl,hF'⟩:=id hF;have R:=qz_ t.kind t.name t.n (.slice a t.args.length c) (.slice af free.length cf) n w;have z5:(t.kind==5)=false:=by rw[beq_eq_false_iff_ne];exact hk
 have e0:=cell_of_row _ _ 0 _ _ _ R.hf;have e1:=cell_of_row _ _ 0 _ _ _ R.hn;obtain⟨c0,c1,c2,c3⟩:=R.k4.c03;have hdp:=t.depth_eq;have hsz:=t.size_eq;have CW:=hid (k3_ d ih free _ n t S Sf a c _ _ _ _ w _ R hg (fun x hx=>by have:=aT_ _ hx;omega) (by omega) (by rw[hsz,Nat.add_mul] at hb;omega) (hF.keep fun b hb=>R.hz.block b (hSf b hb)) (hA.keep fun b hb=>R.hz.block b (hS b hb)) (fun b hb=>by have:=hS b hb;have:=R.size;exact⟨by omega,by omega⟩) hSf hT);have E:Hid (cC_ (d+1) free n t=(cn_ t (au_ (cC_ d free) n t.args).1,(au_ (cC_ d free) n t.args).2)):=hid (by rw[cC_,if_neg hk]);have HS:=hid hS;have RH:=hid R;unfold tv at *;clear R hk hg hd hs hb hF hF' hA hS hSf hT hdp hsz;go_enter Tryz.func62,Tryz.ntmps62;go_wp2_with fail;refine CW.out.mono ?_;rintro e W2 ⟨a2,c2',rfl,hA2,hI2,hk2⟩;have hq2:B4 W2 (w.heap.size+3) (.int .i64 0) (.string ⟨#[]⟩) (.int .i64 0) (.slice none 0 0):=(hk2.block _ (by have:=RH.out.size;omega) (fun e=>by have:w.heap.size+3=w.heap.size+2:=e;omega)).trans RH.out.q4;have HA2:=hid hA2;have HI2:=hid hI2;have HK2:=hid hk2;have HQ2:=hid hq2;clear hA2 hI2 hk2 hq2;generalize hy:cn_ t (au_ (cC_ d free) n t.args).1=y at *;generalize hm:(au_ (cC_ d free) n t.args).2=m at *;have EY:Hid (cC_ (d+1) free n t=(y,m)):=E;clear E hy hm CW;unfold tv;have q4:=B4.low HQ2.out (ao_ _ (.cells #[.int .i64 y.kind,.string y.name,.int .i64 y.n,.slice a2 y.args.length c2'] 30));have p4:=B4.new W2 (.int .i64 y.kind) (.string y.name) (.int .i64 y.n) (.slice a2 y.args.length c2');have i4:=((heap_alloc_old W2 (.cells #[.int .i64 y.kind,.string y.name,.int .i64 y.n,.slice a2 y.args.length c2'] 30) (Array.getElem?_eq_some_iff.1 HI2.out).1).trans HI2.out);obtain⟨r0,r1,r2,r3⟩:=q4.c03;obtain⟨s0,s1,s2,s3⟩:=q4.f03;obtain⟨l0,l1,l2,l3⟩:=p4.c03;have j0:=cell_of_row _ _ 0 _ _ _ i4;have Q4:=hid q4;clear q4 p4 i4;go_wp2
 go_region
 all_goals
  go_wp2;have q5:=B4.set4 Q4.out (.int .i64 y.kind) (.string y.name) (.int .i64 y.n) (.slice a2 y.args.length c2');exact bodyPost_ret (v:=.tuple #[tv y a2 c2',.int .i64 m]) (by simp[results,Tryz.results62,go_sem,tv,q5.c0,q5.c1,q5.c2,q5.c3]) rfl (by
   rw[EY.out];exact rc_ HS.out RH.out.hz RH.out.size HK2.out (HA2.out.mono fun b h=>h.imp id fun h=>⟨by have:=RH.out.size;omega,h.2⟩) (bJ_ _ _ _ _ _ _))
end Go.Proofs.YtkihnodkhnahiaaGreatDoor.Tp

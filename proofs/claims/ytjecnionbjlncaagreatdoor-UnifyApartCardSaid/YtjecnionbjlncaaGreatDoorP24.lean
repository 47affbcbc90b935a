/- Packed. -/
import Derived.ChangeAlike
import Derived.Test.YtjecnionbjlncaaGreatDoorP22
set_option maxRecDepth 100000
set_option maxHeartbeats 6400000
namespace Go.Proofs.YtjecnionbjlncaaGreatDoor.Tp
section
open Go.RowKit
def g1_ (S:Nat→Prop)(r:Ty × Nat)(W:World)(e:Ending)(W':World):Prop :=
 ∃ a c,e=.returned (.tuple #[tv r.1 a c,.int .i64 r.2])∧aa_ (New S W W') W' (.slice a r.1.args.length c) r.1.args∧Below W.heap.size W W'
def fR_ (d:Nat):Prop:=∀ (free:List ByteArray) (fv:Value) (n:Nat) (t:Ty) (S Sf:Nat→Prop) (a:OA_) (c:Nat) (W:World),aY_ t→t.depth≤d→t.size≤50000000000→n+t.size*(free.length+1)≤4611686018427387904→aJ_ Sf W fv free →
 aa_ S W (.slice a t.args.length c) t.args→(∀ b,S b→b<W.heap.size)→(∀ b,Sf b→b<W.heap.size)→Tab W→Calls Tryz.prog 40 #[tv t a c,fv,.int .i64 n] W (g1_ S (cc_ d free n t) W)
def nT_ (bn:Nat)(n:Nat)(W:World):Prop:=W.heap[bn]? = some (.cells #[.int .i64 (n:Int)] 3 (0,0))
def qF_ (bn:Nat)(b:Nat):Prop:=b=bn
theorem lo_ (args:Array Value)(w:World):(callFunc 77 args).run Tryz.prog w=.ok (.enter 77 args) w :=
 enters_of Tryz.func77 (by kernel_rfl) rfl args w
structure du_ (R:Nat)(W W':World):Prop where
 os:W'.os=W.os
 tape:W'.tape=W.tape
 output:W'.output=W.output
 size:W'.heap.size=W.heap.size
 off:∀ b,b≠R→W'.heap[b]? = W.heap[b]?
theorem dy_ (W:World)(R o:Nat)(v:Value):du_ R W (W.setCell ⟨R,o,none⟩ v):=⟨rfl,rfl,rfl,by simp,fun b h=>aB_ _ _ _ _ h⟩
theorem du_.trans {R:Nat}{W W1 W2:World}(h:du_ R W W1)(k:du_ R W1 W2):du_ R W W2 :=
 ⟨k.os.trans h.os,k.tape.trans h.tape,k.output.trans h.output,k.size.trans h.size,fun b hb=>(k.off b hb).trans (h.off b hb)⟩
theorem a7_ (W:World)(R:Nat)(v0 v1 v2 v3:Value):du_ R W ((((W.setCell ⟨R,0,none⟩ v0).setCell ⟨R,1,none⟩ v1).setCell ⟨R,2,none⟩ v2).setCell ⟨R,3,none⟩ v3) :=
 (((dy_ W R 0 v0).trans (dy_ _ R 1 v1)).trans (dy_ _ R 2 v2)).trans (dy_ _ R 3 v3)
theorem qD_ {S:Nat→Prop}{bn n2 c2':Nat}{y:Ty}{a2:OA_}{W W1 W2 W3 W5:World}(hS:∀ b,S b→b<W.heap.size∧¬ qF_ bn b)(hbn:bn<W.heap.size)(hz:Below W.heap.size W W1)(hs1:W1.heap.size=W.heap.size+2)(hA:aa_ (New S W1 W2) W2 (.slice a2 y.args.length c2') y.args)(hb:Below W1.heap.size W1 W2)
  (q4:B4 W2 (W.heap.size+1) (.int .i64 0) (.string ⟨#[]⟩) (.int .i64 0) (.slice none 0 0)) (hI:∃ v,W2.heap[bn]? = some (.cells #[v] 3 (0,0))) (s3:du_ W.heap.size W2 W3) (s5:du_ (W.heap.size+1) (W3.setCell ⟨bn,0,none⟩ (.int .i64 (n2:Int))) W5) :
  B4 (W3.setCell ⟨bn,0,none⟩ (.int .i64 (n2:Int))) (W.heap.size+1) (.int .i64 0) (.string ⟨#[]⟩) (.int .i64 0) (.slice none 0 0)∧f2_ S (qF_ bn) (nT_ bn) y n2 W (.returned (tv y a2 c2')) W5:=by
 have s4:=dy_ W3 bn 0 (.int .i64 (n2:Int));obtain⟨v,hv⟩:=hI;have hI5:nT_ bn n2 W5:=(s5.off bn (by omega)).trans (aN_ ((s3.off bn (by omega)).trans hv) _);have q5:=(s4.off (W.heap.size+1) (by omega)).trans ((s3.off (W.heap.size+1) (by omega)).trans q4);generalize W3.setCell ⟨bn,0,none⟩ (.int .i64 (n2:Int))=W4 at *;have hsz:=hb.size;have hs5:W5.heap.size=W2.heap.size:=s5.size.trans (s4.size.trans s3.size);have off:∀ b,b≠W.heap.size→b≠bn→b≠W.heap.size+1→W5.heap[b]? = W2.heap[b]? := fun b h1 h2 h3=>(s5.off b h3).trans ((s4.off b h2).trans (s3.off b h1));refine⟨q5,a2,c2',rfl,(hA.keep fun b h=>?_).mono fun b h=>h.imp id fun h=>⟨by omega,by omega⟩,hI5,⟨?_,?_,?_,?_,fun b hb2 ht=>?_⟩⟩
 ·rcases h with h|h
  ·have:=hS b h;exact off b (by omega) this.2 (by omega)
  ·exact off b (by omega) (by omega) (by omega)
 ·exact s5.os.trans (s4.os.trans (s3.os.trans (hb.os.trans hz.os)))
 ·exact s5.tape.trans (s4.tape.trans (s3.tape.trans (hb.tape.trans hz.tape)))
 ·exact s5.output.trans (s4.output.trans (s3.output.trans (hb.output.trans hz.output)))
 ·omega
 ·exact (off b (by omega) ht (by omega)).trans ((hb.block b (by omega)).trans (hz.block b hb2))
theorem oI_ (d:Nat)(ih:fR_ d)(free:List ByteArray)(fv:Value)(n:Nat)(bf bn:Nat)(t:Ty)(S Sf:Nat→Prop)(a:OA_)(c:Nat)(W:World)(hg:aY_ t)(hd:t.depth≤d)(hs:t.size≤50000000000)(hb:n+t.size*(free.length+1)≤4611686018427387904)(hf:W.cell? ⟨bf,0,none⟩=some fv)(hI:nT_ bn n W)(hF:aJ_ Sf W fv free)
  (hA:aa_ S W (.slice a t.args.length c) t.args) (hS:∀ b,S b→b<W.heap.size∧¬ qF_ bn b) (hSf:∀ b,Sf b→b<W.heap.size) (hT:Tab W) :
  Calls Tryz.prog 77 #[tv t a c,.pointer (some ⟨bf,0,none⟩),.pointer (some ⟨bn,0,none⟩)] W (f2_ S (qF_ bn) (nT_ bn) (cc_ d free n t).1 (cc_ d free n t).2 W):=by
 have hz:=aw_ W (.cells #[.int .i64 t.kind,.string t.name,.int .i64 t.n,.slice a t.args.length c] 37);have hz2:=hz.alloc hz.size (.cells #[.int .i64 0,.string ⟨#[]⟩,.int .i64 0,.slice none 0 0] 37);have k4:=(B4.new W (.int .i64 t.kind) (.string t.name) (.int .i64 t.n) (.slice a t.args.length c)).low (aw_ _ (.cells #[.int .i64 0,.string ⟨#[]⟩,.int .i64 0,.slice none 0 0] 37));have q4:B4 ((W.alloc (.cells #[.int .i64 t.kind,.string t.name,.int .i64 t.n,.slice a t.args.length c] 37)).alloc (.cells #[.int .i64 0,.string ⟨#[]⟩,.int .i64 0,.slice none 0 0] 37)) (W.heap.size+1) (.int .i64 0) (.string ⟨#[]⟩) (.int .i64 0) (.slice none 0 0):=ah_ (by simp);obtain⟨c0,c1,c2,c3⟩:=k4.c03;have hbn:=(Array.getElem?_eq_some_iff.1 hI).1;have e0:=(hz2.cell (p:=⟨bf,0,none⟩) (World.block_lt_of_cell? W _ hf)).trans hf;have e1:=(hz2.cell (p:=⟨bn,0,none⟩) hbn).trans (cell_of_row W bn 0 _ _ _ hI);have C:=hid (ih free fv n t S Sf a c _ hg hd hs hb (hF.keep fun b hb=>hz2.block b (hSf b hb)) (hA.keep fun b hb=>hz2.block b (hS b hb).1) (fun b hb=>ba_ (hS b hb).1 hz2.size) (fun b hb=>ba_ (hSf b hb) hz2.size) (ag_ hT hz2));have HZ2:=hid hz2;have HS:=hid hS;have Q4:=hid q4;have K4:=hid k4;have HI:=hid hI;unfold tv at *;clear hz hz2 k4 q4 hf hA hS hT hg hd hs hF hI hSf hb;go_enter Tryz.func77,Tryz.ntmps77;go_wp2_with fail;refine C.out.mono ?_;rintro e W2 ⟨a2,c2',rfl,hA2,hb2⟩;have k4:=K4.out.low hb2;have q4:=Q4.out.low hb2;have hz3:=hb2.size;have i2:=(hb2.block bn (ba_ hbn HZ2.out.size)).trans ((HZ2.out.block bn hbn).trans HI.out);have j0:=cell_of_row W2 bn 0 _ _ _ i2;have j1:W2.frozen? ⟨bn,0,none⟩=false:=by simp[World.frozen?,i2]
 obtain⟨r0,r1,r2,r3⟩:=q4.c03;obtain⟨s0,s1,s2,s3⟩:=q4.f03;obtain⟨l0,l1,l2,l3⟩:=k4.c03;obtain⟨m0,m1,m2,m3⟩:=k4.f03;have HA2:=hid hA2;have HB2:=hid hb2;have I2:=hid i2;have K42:=hid k4;have Q42:=hid q4;have hbne:bn≠W.heap.size:=by omega
 have hbne1:bn≠W.heap.size+1:=by omega
 clear hA2 hb2 i2 k4 q4 hz3;generalize hr:cc_ d free n t=r at *;obtain⟨y,n2⟩:=r;have HR:=hid hr;clear hr;unfold tv;simp only;go_wp2;have hend:=qD_ (y:=y) (n2:=n2) HS.out hbn HZ2.out (by simp) HA2.out HB2.out Q42.out ⟨_,I2.out⟩ (a7_ W2 W.heap.size (.int .i64 y.kind) (.string y.name) (.int .i64 y.n) (.slice a2 y.args.length c2')) (a7_ _ (W.heap.size+1) (.int .i64 y.kind) (.string y.name) (.int .i64 y.n) (.slice a2 y.args.length c2'));have q5:=B4.set4 hend.1 (.int .i64 y.kind) (.string y.name) (.int .i64 y.n) (.slice a2 y.args.length c2');exact bodyPost_ret (v:=tv y a2 c2') (by simp[results,Tryz.results77,go_sem,tv,q5.c0,q5.c1,q5.c2,q5.c3]) rfl hend.2
structure cO_ (k:Int)(s:ByteArray)(m:Int)(sl fv:Value)(n:Nat)(w W:World):Prop where
 hz:Below w.heap.size w W
 k4:B4 W w.heap.size (.int .i64 k) (.string s) (.int .i64 m) sl
 hf:W.heap[w.heap.size+1]? = some (.cells #[fv] 89 (0,0))
 hn:nT_ (w.heap.size+2) n W
 q4:B4 W (w.heap.size+3) (.int .i64 0) (.string ⟨#[]⟩) (.int .i64 0) (.slice none 0 0)
 size:w.heap.size+4≤W.heap.size
theorem pz_ (k:Int)(s:ByteArray)(m:Int)(sl fv:Value)(n:Nat)(w:World):cO_ k s m sl fv n w ((((w.alloc (.cells #[.int .i64 k,.string s,.int .i64 m,sl] 37)).alloc (.cells #[fv] 89)).alloc (.cells #[.int .i64 (n:Int)] 3)).alloc (.cells #[.int .i64 0,.string ⟨#[]⟩,.int .i64 0,.slice none 0 0] 37)):=by
 have hz:=aw_ w (.cells #[.int .i64 k,.string s,.int .i64 m,sl] 37);have hz2:=hz.alloc hz.size (.cells #[fv] 89);have hz3:=hz2.alloc hz2.size (.cells #[.int .i64 (n:Int)] 3);have hz4:=hz3.alloc hz3.size (.cells #[.int .i64 0,.string ⟨#[]⟩,.int .i64 0,.slice none 0 0] 37);refine⟨hz4,?_,?_,?_,ah_ (by simp),by simp⟩
 ·exact (((B4.new w _ _ _ _).low (aw_ _ _)).low (aw_ _ _)).low (aw_ _ _)
 ·rw[heap_alloc_old _ _ (by simp),heap_alloc_old _ _ (by simp)]
  exact ah_ (by simp)
 ·unfold nT_
  rw[heap_alloc_old _ _ (by simp)];exact ah_ (by simp)
theorem ks_ (d:Nat)(ih:fR_ d)(free:List ByteArray)(fv:Value)(n:Nat)(t:Ty)(S Sf:Nat→Prop)(a:OA_)(c:Nat)(k:Int)(s:ByteArray)(m:Int)(sl:Value)(w W0:World)(R:cO_ k s m sl fv n w W0)(hg:aY_ t)(hd:∀ x∈t.args,x.depth≤d)(hs:af_ t.args≤50000000000)(hb:n+af_ t.args*(free.length+1)≤4611686018427387904)
  (hF:aJ_ Sf W0 fv free) (hA:aa_ S W0 (.slice a t.args.length c) t.args) (hS:∀ b,S b→b<W0.heap.size∧b≠w.heap.size+2) (hSf:∀ b,Sf b→b<w.heap.size) (hT:Tab w) :
  Calls Tryz.prog 76 #[tv t a c,.func (.func 77) #[] #[.pointer (some ⟨w.heap.size+1,0,none⟩),.pointer (some ⟨w.heap.size+2,0,none⟩)]] W0 (f2_ S (qF_ (w.heap.size+2)) (nT_ (w.heap.size+2)) (bb_ t (an_ (cc_ d free) n t.args).1) (an_ (cc_ d free) n t.args).2 W0):=by
 have hal:=bi_ t.args;have hsz:=R.size;refine e1_ 77 _ lo_ (qF_ (w.heap.size+2)) (nT_ (w.heap.size+2)) (cc_ d free) t n S a c W0 R.hn (fun g W W' h hk=>(hk _ rfl).trans h) hA (fun b hb=>⟨(hS b hb).1,(hS b hb).2⟩) (fun b hb=>by rw[show b=w.heap.size+2 from hb];omega) (by omega) (fun i hi a' c' W hI hK hA'=>?_);have hmi:=List.getElem_mem hi;have hst:=fz_ t.args i hi;have hsl:=cR_ t.args (i+1);have hsa:=bx_ _ hmi;have hL:=hr_ d free (free.length+1) (fun t n h1 h2 h3 h4=>gu_ d free t n h1 h2 h3 h4) (t.args.take i) n (fun u hu=>⟨hd u (List.mem_of_mem_take hu),aR_ hg u (List.mem_of_mem_take hu),by have:=bx_ _ (List.mem_of_mem_take hu);omega⟩)
  (cj_ (Nat.add_le_add_left (Nat.mul_le_mul_right _ (cR_ t.args i)) n) hb)
 have hb2:(an_ (cc_ d free) n (t.args.take i)).2+t.args[i].size*(free.length+1)≤4611686018427387904:=by
  have h1:=hL.2.1;have h2:=Nat.mul_le_mul_right (free.length+1) hsl;rw[hst,Nat.add_mul] at h2;omega
 exact oI_ d ih free fv _ (w.heap.size+1) (w.heap.size+2) t.args[i] S Sf a' c' W (aR_ hg _ hmi) (hd _ hmi) (by omega) hb2 (cell_of_row _ _ 0 _ _ _ ((hK.block _ (by omega) (fun e=>by have:w.heap.size+1=w.heap.size+2:=e;omega)).trans R.hf)) hI
  (hF.keep fun b hb=>hK.block b (by have:=hSf b hb;omega) (fun e=>by have:b=w.heap.size+2:=e;have:=hSf b hb;omega)) hA' (fun b hb=>⟨ba_ (hS b hb).1 hK.size,(hS b hb).2⟩) (fun b hb=>by have:=hSf b hb;have:=hK.size;omega)
  (ag_ hT ⟨hK.os.trans R.hz.os,hK.tape.trans R.hz.tape,hK.output.trans R.hz.output,cj_ R.hz.size hK.size,fun b hb=>(hK.block b (by omega) (fun e=>by have:b=w.heap.size+2:=e;omega)).trans (R.hz.block b hb)⟩)
theorem qC_ {S:Nat→Prop}{y:Ty}{m c2:Nat}{a2:OA_}{w W0 W2 W3:World}(hS:∀ b,S b→b<w.heap.size)(h0:Below w.heap.size w W0)(hs0:w.heap.size+4≤W0.heap.size)(hk:Kp W0.heap.size (qF_ (w.heap.size+2)) W0 W2)(hA:aa_ (fun b=>S b∨w.heap.size+4≤b∧b<W2.heap.size) W2 (.slice a2 y.args.length c2) y.args)
  (s3:du_ (w.heap.size+3) (W2.alloc (.cells #[.int .i64 y.kind,.string y.name,.int .i64 y.n,.slice a2 y.args.length c2] 37)) W3):g1_ S (y,m) w (.returned (.tuple #[tv y a2 c2,.int .i64 m])) W3.drew:=by
 have hsz:W3.heap.size=W2.heap.size+1:=s3.size.trans (by simp);have hk2:=hk.size;have off:∀ b,b<W2.heap.size→b≠w.heap.size+3→W3.drew.heap[b]? = W2.heap[b]? := fun b h1 h2=>(s3.off b h2).trans (heap_alloc_old W2 _ h1);refine⟨a2,c2,rfl,(hA.keep fun b h=>?_).mono fun b h=>h.imp id fun h=>⟨by omega,by show b<W3.heap.size;omega⟩,⟨?_,?_,?_,?_,fun b hb=>?_⟩⟩
 ·rcases h with h|h
  ·have:=hS b h;exact off b (by omega) (by omega)
  ·exact off b (by omega) (by omega)
 ·exact s3.os.trans (hk.os.trans h0.os)
 ·exact s3.tape.trans (hk.tape.trans h0.tape)
 ·exact s3.output.trans (hk.output.trans h0.output)
 ·show w.heap.size≤W3.heap.size;omega
 ·exact (off b (by omega) (by omega)).trans ((hk.block b (by omega) (fun e=>by have:b=w.heap.size+2:=e;omega)).trans (h0.block b hb))
theorem oD_ (d:Nat)(ih:fR_ d)(free:List ByteArray)(fv:Value)(n:Nat)(t:Ty)(S Sf:Nat→Prop)(a:OA_)(c:Nat)(w:World)(hk:t.kind≠5)(hg:aY_ t)(hd:t.depth≤d+1)(hs:t.size≤50000000000)(hb:n+t.size*(free.length+1)≤4611686018427387904)(hF:aJ_ Sf w fv free)
  (hA:aa_ S w (.slice a t.args.length c) t.args) (hS:∀ b,S b→b<w.heap.size) (hSf:∀ b,Sf b→b<w.heap.size) (hT:Tab w) :
  Calls Tryz.prog 40 #[tv t a c,fv,.int .i64 n] w (g1_ S (cc_ (d+1) free n t) w):=by
 obtain⟨af,cf,rfl,hF'⟩:=id hF;have R:=pz_ t.kind t.name t.n (.slice a t.args.length c) (.slice af free.length cf) n w;have z5:(t.kind==5)=false:=by rw[beq_eq_false_iff_ne];exact hk
 have e0:=cell_of_row _ _ 0 _ _ _ R.hf;have e1:=cell_of_row _ _ 0 _ _ _ R.hn;obtain⟨c0,c1,c2,c3⟩:=R.k4.c03;have hdp:=t.depth_eq;have hsz:=t.size_eq;have CW:=hid (ks_ d ih free _ n t S Sf a c _ _ _ _ w _ R hg (fun x hx=>by have:=av_ _ hx;omega) (by omega) (by rw[hsz,Nat.add_mul] at hb;omega) (hF.keep fun b hb=>R.hz.block b (hSf b hb)) (hA.keep fun b hb=>R.hz.block b (hS b hb)) (fun b hb=>by have:=hS b hb;have:=R.size;exact⟨by omega,by omega⟩) hSf hT);have E:Hid (cc_ (d+1) free n t=(bb_ t (an_ (cc_ d free) n t.args).1,(an_ (cc_ d free) n t.args).2)):=hid (by rw[cc_,if_neg hk]);have HS:=hid hS;have RH:=hid R;unfold tv at *;clear R hk hg hd hs hb hF hF' hA hS hSf hT hdp hsz;go_enter Tryz.func40,Tryz.ntmps40;go_wp2_with fail;refine CW.out.mono ?_;rintro e W2 ⟨a2,c2',rfl,hA2,hI2,hk2⟩;have hq2:B4 W2 (w.heap.size+3) (.int .i64 0) (.string ⟨#[]⟩) (.int .i64 0) (.slice none 0 0):=(hk2.block _ (by have:=RH.out.size;omega) (fun e=>by have:w.heap.size+3=w.heap.size+2:=e;omega)).trans RH.out.q4;have HA2:=hid hA2;have HI2:=hid hI2;have HK2:=hid hk2;have HQ2:=hid hq2;clear hA2 hI2 hk2 hq2;generalize hy:bb_ t (an_ (cc_ d free) n t.args).1=y at *;generalize hm:(an_ (cc_ d free) n t.args).2=m at *;have EY:Hid (cc_ (d+1) free n t=(y,m)):=E;clear E hy hm CW;unfold tv;have q4:=B4.low HQ2.out (aw_ _ (.cells #[.int .i64 y.kind,.string y.name,.int .i64 y.n,.slice a2 y.args.length c2'] 37));have p4:=B4.new W2 (.int .i64 y.kind) (.string y.name) (.int .i64 y.n) (.slice a2 y.args.length c2');have i4:=((heap_alloc_old W2 (.cells #[.int .i64 y.kind,.string y.name,.int .i64 y.n,.slice a2 y.args.length c2'] 37) (Array.getElem?_eq_some_iff.1 HI2.out).1).trans HI2.out);obtain⟨r0,r1,r2,r3⟩:=q4.c03;obtain⟨s0,s1,s2,s3⟩:=q4.f03;obtain⟨l0,l1,l2,l3⟩:=p4.c03;have j0:=cell_of_row _ _ 0 _ _ _ i4;have Q4:=hid q4;clear q4 p4 i4;go_wp2
 go_region
 all_goals
  go_wp2;have q5:=B4.set4 Q4.out (.int .i64 y.kind) (.string y.name) (.int .i64 y.n) (.slice a2 y.args.length c2');exact bodyPost_ret (v:=.tuple #[tv y a2 c2',.int .i64 m]) (by simp[results,Tryz.results40,go_sem,tv,q5.c0,q5.c1,q5.c2,q5.c3]) rfl (by
   rw[EY.out];exact qC_ HS.out RH.out.hz RH.out.size HK2.out (HA2.out.mono fun b h=>h.imp id fun h=>⟨by have:=RH.out.size;omega,h.2⟩) (a7_ _ _ _ _ _ _))
end
section
open Lx
theorem cP_ (l:List Tok):l.tail <:+ l:=List.tail_suffix l
theorem of_ (l:List Tok):cr_ l <:+ l:=List.dropWhile_suffix _
theorem p8_:∀ n:Nat,
  (∀ l x r,bC_ n l=some (x,r)→r <:+ l)∧(∀ l x r,eJ_ n l=some (x,r)→r <:+ l) ∧
  (∀ l x r,bY_ n l=some (x,r)→r <:+ l)∧(∀ s acc l x r,a6_ n s acc l=some (x,r)→r <:+ l) ∧
  (∀ l x r,aI_ n l=some (x,r)→r <:+ l):=by
 intro n
 induction n with
 | zero=>exact⟨fun _ _ _ h=>by simp[bC_] at h,fun _ _ _ h=>by simp[eJ_] at h,fun _ _ _ h=>by simp[bY_] at h,fun _ _ _ _ _ h=>by simp[a6_] at h,fun _ _ _ h=>by simp[aI_] at h⟩
 | succ n ih =>
  obtain⟨i1,i2,i3,i4,i5⟩:=ih;refine⟨fun l x r h=>?_,fun l x r h=>?_,fun l x r h=>?_,fun s acc l x r h=>?_,fun l x r h=>?_⟩
  ·rw[bC_] at h
   split at h
   ·exact (i2 _ _ _ h).trans (cP_ l)
   ·split at h
    ·cases h
    ·next a r' h2 =>
     have e2:=i3 _ _ _ h2
     split at h
     ·split at h
      ·cases h
      ·next b r'' h4 =>
       have e4:=i1 _ _ _ h4;simp only[Option.some.injEq,Prod.mk.injEq] at h;obtain⟨_,rfl⟩:=h;exact (e4.trans (cP_ _)).trans e2
     ·simp only[Option.some.injEq,Prod.mk.injEq] at h
      obtain⟨_,rfl⟩:=h;exact e2
  ·rw[eJ_] at h
   split at h
   ·cases h
   ·split at h
    ·cases h
    ·next t r' h2 =>
     have e2:=i1 _ _ _ h2;simp only[Option.some.injEq,Prod.mk.injEq] at h;obtain⟨_,rfl⟩:=h;exact (e2.trans (cP_ _)).trans (of_ l)
  ·rw[bY_] at h
   split at h
   ·exact (i4 _ _ _ _ _ h).trans (cP_ l)
   ·exact i5 _ _ _ h
  ·rw[a6_] at h
   split at h
   ·split at h
    ·cases h
    ·next x' r' h2=>exact (i4 _ _ _ _ _ h).trans (i5 _ _ _ h2)
   ·simp only[Option.some.injEq,Prod.mk.injEq] at h
    obtain⟨_,rfl⟩:=h;exact List.suffix_refl _
  ·rw[aI_] at h
   split at h
   ·simp only[Option.some.injEq,Prod.mk.injEq] at h
    obtain⟨_,rfl⟩:=h;exact cP_ l
   ·split at h
    ·simp only[Option.some.injEq,Prod.mk.injEq] at h
     obtain⟨_,rfl⟩:=h;exact cP_ l
    ·split at h
     ·simp only[Option.some.injEq,Prod.mk.injEq] at h
      obtain⟨_,rfl⟩:=h;exact cP_ l
     ·split at h
      ·split at h
       ·cases h
       ·next t r' h2 =>
        have e2:=i1 _ _ _ h2
        split at h
        ·simp only[Option.some.injEq,Prod.mk.injEq] at h
         obtain⟨_,rfl⟩:=h;exact ((cP_ _).trans e2).trans (cP_ l)
        ·cases h
      ·cases h
theorem eA_ {l r:List Tok}(h:r <:+ l):l.drop (l.length - r.length)=r:=by
 obtain⟨p,rfl⟩:=h;rw[List.length_append,Nat.add_sub_cancel,List.drop_left]
theorem he_ {l r:List Tok}{i:Nat}(h:r <:+ l.drop i):r <:+ l:=h.trans (List.drop_suffix i l)
end
section
open Go.RowKit
open Lx
theorem do_ {l:List Tok}{k:Nat}{s:List UInt8}(h:s≠[]):cC_ l k s=st l k s:=me_ l k s h
theorem dD_ {w wx:World}{v:Value}{ts:List Ty}(p0 p1 p2 p3:Value)(_hs:w.heap.size+1≤wx.heap.size)(h:aa_ (In (w.heap.size+1) wx.heap.size) wx v ts) :
  aa_ (In w.heap.size ((((wx.setCell ⟨w.heap.size,0,none⟩ p0).setCell ⟨w.heap.size,1,none⟩ p1).setCell ⟨w.heap.size,2,none⟩ p2).setCell ⟨w.heap.size,3,none⟩ p3).heap.size) ((((wx.setCell ⟨w.heap.size,0,none⟩ p0).setCell ⟨w.heap.size,1,none⟩ p1).setCell ⟨w.heap.size,2,none⟩ p2).setCell ⟨w.heap.size,3,none⟩ p3) v ts:=by
 have k:=a7_ wx w.heap.size p0 p1 p2 p3;refine (h.keep fun b hb=>k.off b (by have:=hb.1;omega)).mono fun b hb=>⟨by have:=hb.1;omega,by rw[k.size];exact hb.2⟩
theorem ax_ {v:Value}{a b:Int}(h:a=b):Ending.returned (.tuple #[v,.int .i64 a])=.returned (.tuple #[v,.int .i64 b]):=by rw[h]
theorem hl_ (n:Nat)(w:World)(a:OA_)(c:Nat)(l:List Tok)(i:Nat)(ht:bu_ w (.slice a l.length c) l)(hb:∀ b o,a=some ⟨b,o,none⟩→b<w.heap.size)(hl:l.length≤4000)(hi:i<l.length)
  (k:Nat) (hk:l[i].kind=k) (hk2:k=1∨k=2):Calls Tryz.prog 133 #[.slice a l.length c,.int .i64 i] w (cM_ w l.length (aI_ (n+1) (l.drop i))):=by
 obtain⟨b,off,rfl,c0',c1'⟩:=dO_ ht hi;have hbl:=hb b off rfl;have hz:=aw_ w (.cells #[.int .i64 0,.string ⟨#[]⟩,.int .i64 0,.slice none 0 0] 43);have c0:=(hz.cell (p:=⟨b,off+i*3,none⟩) hbl).trans c0';have c1:=(hz.cell (p:=⟨b,off+i*3+1,none⟩) hbl).trans c1';have z0:(0:Int)≤(i:Int):=by omega
 have z1:(i:Int)<(l.length:Int):=by omega
 have hrest:(l.drop (i+1)).length=l.length - (i+1):=List.length_drop;have E:Hid (aI_ (n+1) (l.drop i)=some (if k=1 then lL_ l[i].text else d0_ l[i].text [],l.drop (i+1))):=hid (by
  rw[eW_ hi,aI_]
  rcases hk2 with rfl|rfl
  ·rw[if_pos (dp_ _ _ 1 hk)];rfl
  ·rw[aQ_ _ _ 1 (by omega),dp_ _ _ 2 hk];rfl)
 have HR:=hid hrest;clear ht hb c0' c1' hrest hz;rw[hk] at c0;generalize l[i]=t at *;clear hk
 rcases hk2 with rfl|rfl
 ·go_enter Tryz.func133,Tryz.ntmps133
  go_wp2;have q4:=R4.new w (.int .i64 1) (.string ⟨t.text.toArray⟩) (.int .i64 0) (.slice none 0 0);refine bodyPost_ret (v:=.tuple #[tv (lL_ t.text) none 0,.int .i64 ((i:Int)+1)]) (by simp[results,Tryz.results133,go_sem,q4.c0,q4.c1,q4.c2,q4.c3];rfl) rfl ?_;rw[E.out];exact⟨aw_ w _,none,0,ax_ (by rw[HR.out];omega),.nil _ _⟩
 ·go_enter Tryz.func133,Tryz.ntmps133
  go_wp2;have q4:=R4.new w (.int .i64 3) (.string ⟨t.text.toArray⟩) (.int .i64 0) (.slice none 0 0);refine bodyPost_ret (v:=.tuple #[tv (d0_ t.text []) none 0,.int .i64 ((i:Int)+1)]) (by simp[results,Tryz.results133,go_sem,q4.c0,q4.c1,q4.c2,q4.c3];rfl) rfl ?_;rw[E.out];exact⟨aw_ w _,none,0,ax_ (by rw[HR.out];omega),.nil _ _⟩
end
end Go.Proofs.YtjecnionbjlncaaGreatDoor.Tp

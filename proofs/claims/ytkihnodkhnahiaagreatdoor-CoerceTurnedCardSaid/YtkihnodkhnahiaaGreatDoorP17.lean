/- Texts laid together: TyNumA, TyNumB, TyNumC. -/
import Derived.Test.YtkihnodkhnahiaaGreatDoorP16
import Derived.Test.YtkihnodkhnahiaaGreatDoorP14
import Derived.RegionTactic
import Derived.ChangeAlike
import Derived.Deep.RegionWith
import Derived.Deep.LoopGhost

namespace Go.Proofs.YtkihnodkhnahiaaGreatDoor.Tp
open Go.RowKit
def NumPost (S:Nat→Prop)(r:Ty × Nat)(W:World)(e:Ending)(W':World):Prop :=
 ∃ a c,e=.returned (.tuple #[tv r.1 a c,.int .i64 r.2])∧ArgsAt (New S W W') W' (.slice a r.1.args.length c) r.1.args∧Below W.heap.size W W'
def NumSaid (d:Nat):Prop:=∀ (free:List ByteArray) (fv:Value) (n:Nat) (t:Ty) (S Sf:Nat→Prop) (a:Option Addr) (c:Nat) (W:World),Good t→t.depth≤d→t.size≤50000000000→n+t.size*(free.length+1)≤4611686018427387904→StrsAt Sf W fv free →
 ArgsAt S W (.slice a t.args.length c) t.args→(∀ b,S b→b<W.heap.size)→(∀ b,Sf b→b<W.heap.size)→Tab W→Calls Tryz.prog 62 #[tv t a c,fv,.int .i64 n] W (NumPost S (numF d free n t) W)
def numI (bn:Nat)(n:Nat)(W:World):Prop:=W.heap[bn]? = some (.cells #[.int .i64 (n:Int)] 3 (0,0))
def numT (bn:Nat)(b:Nat):Prop:=b=bn
theorem num1Enters (args:Array Value)(w:World):(callFunc 92 args).run Tryz.prog w=.ok (.enter 92 args) w :=
 enters_of Tryz.func92 (by kernel_rfl) rfl args w
structure SameBut (R:Nat)(W W':World):Prop where
 os:W'.os=W.os
 tape:W'.tape=W.tape
 output:W'.output=W.output
 size:W'.heap.size=W.heap.size
 off:∀ b,b≠R→W'.heap[b]? = W.heap[b]?
theorem same_cell (W:World)(R o:Nat)(v:Value):SameBut R W (W.setCell ⟨R,o,none⟩ v):=⟨rfl,rfl,rfl,by simp,fun b h=>Below.heap_setCell _ _ _ _ h⟩
theorem SameBut.trans {R:Nat}{W W1 W2:World}(h:SameBut R W W1)(k:SameBut R W1 W2):SameBut R W W2 :=
 ⟨k.os.trans h.os,k.tape.trans h.tape,k.output.trans h.output,k.size.trans h.size,fun b hb=>(k.off b hb).trans (h.off b hb)⟩
theorem same_set4 (W:World)(R:Nat)(v0 v1 v2 v3:Value):SameBut R W ((((W.setCell ⟨R,0,none⟩ v0).setCell ⟨R,1,none⟩ v1).setCell ⟨R,2,none⟩ v2).setCell ⟨R,3,none⟩ v3) :=
 (((same_cell W R 0 v0).trans (same_cell _ R 1 v1)).trans (same_cell _ R 2 v2)).trans (same_cell _ R 3 v3)
theorem num_end {S:Nat→Prop}{bn n2 c2':Nat}{y:Ty}{a2:Option Addr}{W W1 W2 W3 W5:World}(hS:∀ b,S b→b<W.heap.size∧¬ numT bn b)(hbn:bn<W.heap.size)(hz:Below W.heap.size W W1)(hs1:W1.heap.size=W.heap.size+2)(hA:ArgsAt (New S W1 W2) W2 (.slice a2 y.args.length c2') y.args)(hb:Below W1.heap.size W1 W2)
  (q4:B4 W2 (W.heap.size+1) (.int .i64 0) (.string ⟨#[]⟩) (.int .i64 0) (.slice none 0 0)) (hI:∃ v,W2.heap[bn]? = some (.cells #[v] 3 (0,0))) (s3:SameBut W.heap.size W2 W3) (s5:SameBut (W.heap.size+1) (W3.setCell ⟨bn,0,none⟩ (.int .i64 (n2:Int))) W5) :
  B4 (W3.setCell ⟨bn,0,none⟩ (.int .i64 (n2:Int))) (W.heap.size+1) (.int .i64 0) (.string ⟨#[]⟩) (.int .i64 0) (.slice none 0 0)∧TyPost S (numT bn) (numI bn) y n2 W (.returned (tv y a2 c2')) W5:=by
 have s4:=same_cell W3 bn 0 (.int .i64 (n2:Int))
 obtain⟨v,hv⟩:=hI
 have hI5:numI bn n2 W5:=(s5.off bn (by omega)).trans (set_row0 ((s3.off bn (by omega)).trans hv) _)
 have q5:=(s4.off (W.heap.size+1) (by omega)).trans ((s3.off (W.heap.size+1) (by omega)).trans q4)
 generalize W3.setCell ⟨bn,0,none⟩ (.int .i64 (n2:Int))=W4 at *
 have hsz:=hb.size
 have hs5:W5.heap.size=W2.heap.size:=s5.size.trans (s4.size.trans s3.size)
 have off:∀ b,b≠W.heap.size→b≠bn→b≠W.heap.size+1→W5.heap[b]? = W2.heap[b]? := fun b h1 h2 h3=>(s5.off b h3).trans ((s4.off b h2).trans (s3.off b h1))
 refine⟨q5,a2,c2',rfl,(hA.keep fun b h=>?_).mono fun b h=>h.imp id fun h=>⟨by omega,by omega⟩,hI5,⟨?_,?_,?_,?_,fun b hb2 ht=>?_⟩⟩
 ·rcases h with h|h
  ·have:=hS b h;exact off b (by omega) this.2 (by omega)
  ·exact off b (by omega) (by omega) (by omega)
 ·exact s5.os.trans (s4.os.trans (s3.os.trans (hb.os.trans hz.os)))
 ·exact s5.tape.trans (s4.tape.trans (s3.tape.trans (hb.tape.trans hz.tape)))
 ·exact s5.output.trans (s4.output.trans (s3.output.trans (hb.output.trans hz.output)))
 ·omega
 ·exact (off b (by omega) ht (by omega)).trans ((hb.block b (by omega)).trans (hz.block b hb2))
set_option maxHeartbeats 1600000 in
theorem num1_any (d:Nat)(ih:NumSaid d)(free:List ByteArray)(fv:Value)(n:Nat)(bf bn:Nat)(t:Ty)(S Sf:Nat→Prop)(a:Option Addr)(c:Nat)(W:World)(hg:Good t)(hd:t.depth≤d)(hs:t.size≤50000000000)(hb:n+t.size*(free.length+1)≤4611686018427387904)(hf:W.cell? ⟨bf,0,none⟩=some fv)(hI:numI bn n W)(hF:StrsAt Sf W fv free)
  (hA:ArgsAt S W (.slice a t.args.length c) t.args) (hS:∀ b,S b→b<W.heap.size∧¬ numT bn b) (hSf:∀ b,Sf b→b<W.heap.size) (hT:Tab W) :
  Calls Tryz.prog 92 #[tv t a c,.pointer (some ⟨bf,0,none⟩),.pointer (some ⟨bn,0,none⟩)] W (TyPost S (numT bn) (numI bn) (numF d free n t).1 (numF d free n t).2 W):=by
 have hz:=(Below.refl W.heap.size W).alloc (Nat.le_refl _) (.cells #[.int .i64 t.kind,.string t.name,.int .i64 t.n,.slice a t.args.length c] 30)
 have hz2:=hz.alloc hz.size (.cells #[.int .i64 0,.string ⟨#[]⟩,.int .i64 0,.slice none 0 0] 30)
 have k4:=(B4.new W (.int .i64 t.kind) (.string t.name) (.int .i64 t.n) (.slice a t.args.length c)).low ((Below.refl _ _).alloc (Nat.le_refl _) (.cells #[.int .i64 0,.string ⟨#[]⟩,.int .i64 0,.slice none 0 0] 30))
 have q4:B4 ((W.alloc (.cells #[.int .i64 t.kind,.string t.name,.int .i64 t.n,.slice a t.args.length c] 30)).alloc (.cells #[.int .i64 0,.string ⟨#[]⟩,.int .i64 0,.slice none 0 0] 30)) (W.heap.size+1) (.int .i64 0) (.string ⟨#[]⟩) (.int .i64 0) (.slice none 0 0):=alloc_new (by simp)
 have c0:=k4.c0
 have c1:=k4.c1
 have c2:=k4.c2
 have c3:=k4.c3
 have hbn:=(Array.getElem?_eq_some_iff.1 hI).1
 have e0:=(hz2.cell (p:=⟨bf,0,none⟩) (World.block_lt_of_cell? W _ hf)).trans hf
 have e1:=(hz2.cell (p:=⟨bn,0,none⟩) hbn).trans (cell_of_row W bn 0 _ _ _ hI)
 have C:=hid (ih free fv n t S Sf a c _ hg hd hs hb (hF.keep fun b hb=>hz2.block b (hSf b hb)) (hA.keep fun b hb=>hz2.block b (hS b hb).1) (fun b hb=>Nat.lt_of_lt_of_le (hS b hb).1 hz2.size) (fun b hb=>Nat.lt_of_lt_of_le (hSf b hb) hz2.size) (tab_below hT hz2))
 have HZ2:=hid hz2
 have HS:=hid hS
 have Q4:=hid q4
 have K4:=hid k4
 have HI:=hid hI
 unfold tv at *
 clear hz hz2 k4 q4 hf hA hS hT hg hd hs hF hI hSf hb
 go_enter Tryz.func92,Tryz.ntmps92
 go_wp2_with fail
 refine C.out.mono ?_
 rintro e W2 ⟨a2,c2',rfl,hA2,hb2⟩
 have k4:=K4.out.low hb2
 have q4:=Q4.out.low hb2
 have hz3:=hb2.size
 have i2:=(hb2.block bn (Nat.lt_of_lt_of_le hbn HZ2.out.size)).trans ((HZ2.out.block bn hbn).trans HI.out)
 have j0:=cell_of_row W2 bn 0 _ _ _ i2
 have j1:W2.frozen? ⟨bn,0,none⟩=false:=by simp[World.frozen?,i2]
 have r0:=q4.c0
 have r1:=q4.c1
 have r2:=q4.c2
 have r3:=q4.c3
 have s0:=q4.fr 0
 have s1:=q4.fr 1
 have s2:=q4.fr 2
 have s3:=q4.fr 3
 have l0:=k4.c0
 have l1:=k4.c1
 have l2:=k4.c2
 have l3:=k4.c3
 have m0:=k4.fr 0
 have m1:=k4.fr 1
 have m2:=k4.fr 2
 have m3:=k4.fr 3
 have HA2:=hid hA2
 have HB2:=hid hb2
 have I2:=hid i2
 have K42:=hid k4
 have Q42:=hid q4
 have hbne:bn≠W.heap.size:=by omega
 have hbne1:bn≠W.heap.size+1:=by omega
 clear hA2 hb2 i2 k4 q4 hz3
 generalize hr:numF d free n t=r at *
 obtain⟨y,n2⟩:=r
 have HR:=hid hr
 clear hr
 unfold tv
 simp only
 go_wp2
 have hend:=num_end (y:=y) (n2:=n2) HS.out hbn HZ2.out (by simp) HA2.out HB2.out Q42.out ⟨_,I2.out⟩ (same_set4 W2 W.heap.size (.int .i64 y.kind) (.string y.name) (.int .i64 y.n) (.slice a2 y.args.length c2')) (same_set4 _ (W.heap.size+1) (.int .i64 y.kind) (.string y.name) (.int .i64 y.n) (.slice a2 y.args.length c2'))
 have q5:=B4.set4 hend.1 (.int .i64 y.kind) (.string y.name) (.int .i64 y.n) (.slice a2 y.args.length c2')
 exact bodyPost_ret (v:=tv y a2 c2') (by simp[results,Tryz.results92,go_sem,tv,q5.c0,q5.c1,q5.c2,q5.c3]) rfl hend.2
structure NumMem (k:Int)(s:ByteArray)(m:Int)(sl fv:Value)(n:Nat)(w W:World):Prop where
 hz:Below w.heap.size w W
 k4:B4 W w.heap.size (.int .i64 k) (.string s) (.int .i64 m) sl
 hf:W.heap[w.heap.size+1]? = some (.cells #[fv] 88 (0,0))
 hn:numI (w.heap.size+2) n W
 q4:B4 W (w.heap.size+3) (.int .i64 0) (.string ⟨#[]⟩) (.int .i64 0) (.slice none 0 0)
 size:w.heap.size+4≤W.heap.size
theorem numMem (k:Int)(s:ByteArray)(m:Int)(sl fv:Value)(n:Nat)(w:World):NumMem k s m sl fv n w ((((w.alloc (.cells #[.int .i64 k,.string s,.int .i64 m,sl] 30)).alloc (.cells #[fv] 88)).alloc (.cells #[.int .i64 (n:Int)] 3)).alloc (.cells #[.int .i64 0,.string ⟨#[]⟩,.int .i64 0,.slice none 0 0] 30)):=by
 have hz:=(Below.refl w.heap.size w).alloc (Nat.le_refl _) (.cells #[.int .i64 k,.string s,.int .i64 m,sl] 30)
 have hz2:=hz.alloc hz.size (.cells #[fv] 88)
 have hz3:=hz2.alloc hz2.size (.cells #[.int .i64 (n:Int)] 3)
 have hz4:=hz3.alloc hz3.size (.cells #[.int .i64 0,.string ⟨#[]⟩,.int .i64 0,.slice none 0 0] 30)
 refine⟨hz4,?_,?_,?_,alloc_new (by simp),by simp⟩
 ·exact (((B4.new w _ _ _ _).low ((Below.refl _ _).alloc (Nat.le_refl _) _)).low ((Below.refl _ _).alloc (Nat.le_refl _) _)).low ((Below.refl _ _).alloc (Nat.le_refl _) _)
 ·rw[heap_alloc_old _ _ (by simp),heap_alloc_old _ _ (by simp)]
  exact alloc_new (by simp)
 ·unfold numI
  rw[heap_alloc_old _ _ (by simp)]
  exact alloc_new (by simp)
theorem num_call (d:Nat)(ih:NumSaid d)(free:List ByteArray)(fv:Value)(n:Nat)(t:Ty)(S Sf:Nat→Prop)(a:Option Addr)(c:Nat)(k:Int)(s:ByteArray)(m:Int)(sl:Value)(w W0:World)(R:NumMem k s m sl fv n w W0)(hg:Good t)(hd:∀ x∈t.args,x.depth≤d)(hs:sizeL t.args≤50000000000)(hb:n+sizeL t.args*(free.length+1)≤4611686018427387904)
  (hF:StrsAt Sf W0 fv free) (hA:ArgsAt S W0 (.slice a t.args.length c) t.args) (hS:∀ b,S b→b<W0.heap.size∧b≠w.heap.size+2) (hSf:∀ b,Sf b→b<w.heap.size) (hT:Tab w) :
  Calls Tryz.prog 39 #[tv t a c,.func (.func 92) #[] #[.pointer (some ⟨w.heap.size+1,0,none⟩),.pointer (some ⟨w.heap.size+2,0,none⟩)]] W0 (TyPost S (numT (w.heap.size+2)) (numI (w.heap.size+2)) (withT t (mapAcc (numF d free) n t.args).1) (mapAcc (numF d free) n t.args).2 W0):=by
 have hal:=length_le_sizeL t.args
 have hsz:=R.size
 refine with_any 92 _ num1Enters (numT (w.heap.size+2)) (numI (w.heap.size+2)) (numF d free) t n S a c W0 R.hn (fun g W W' h hk=>(hk _ rfl).trans h) hA (fun b hb=>⟨(hS b hb).1,(hS b hb).2⟩) (fun b hb=>by rw[show b=w.heap.size+2 from hb];omega) (by omega) (fun i hi a' c' W hI hK hA'=>?_)
 have hmi:=List.getElem_mem hi
 have hst:=sizeL_take t.args i hi
 have hsl:=sizeL_take_le t.args (i+1)
 have hsa:=size_arg _ hmi
 have hL:=numL_keeps d free (free.length+1) (fun t n h1 h2 h3 h4=>num_keeps d free t n h1 h2 h3 h4) (t.args.take i) n (fun u hu=>⟨hd u (List.mem_of_mem_take hu),good_args hg u (List.mem_of_mem_take hu),by have:=size_arg _ (List.mem_of_mem_take hu);omega⟩)
  (Nat.le_trans (Nat.add_le_add_left (Nat.mul_le_mul_right _ (sizeL_take_le t.args i)) n) hb)
 have hb2:(mapAcc (numF d free) n (t.args.take i)).2+t.args[i].size*(free.length+1)≤4611686018427387904:=by
  have h1:=hL.2.1
  have h2:=Nat.mul_le_mul_right (free.length+1) hsl
  rw[hst,Nat.add_mul] at h2
  omega
 exact num1_any d ih free fv _ (w.heap.size+1) (w.heap.size+2) t.args[i] S Sf a' c' W (good_args hg _ hmi) (hd _ hmi) (by omega) hb2 (cell_of_row _ _ 0 _ _ _ ((hK.block _ (by omega) (fun e=>by have:w.heap.size+1=w.heap.size+2:=e;omega)).trans R.hf)) hI
  (hF.keep fun b hb=>hK.block b (by have:=hSf b hb;omega) (fun e=>by have:b=w.heap.size+2:=e;have:=hSf b hb;omega)) hA' (fun b hb=>⟨Nat.lt_of_lt_of_le (hS b hb).1 hK.size,(hS b hb).2⟩) (fun b hb=>by have:=hSf b hb;have:=hK.size;omega)
  (tab_below hT ⟨hK.os.trans R.hz.os,hK.tape.trans R.hz.tape,hK.output.trans R.hz.output,Nat.le_trans R.hz.size hK.size,fun b hb=>(hK.block b (by omega) (fun e=>by have:b=w.heap.size+2:=e;omega)).trans (R.hz.block b hb)⟩)
theorem num_fin {S:Nat→Prop}{y:Ty}{m c2:Nat}{a2:Option Addr}{w W0 W2 W3:World}(hS:∀ b,S b→b<w.heap.size)(h0:Below w.heap.size w W0)(hs0:w.heap.size+4≤W0.heap.size)(hk:Kp W0.heap.size (numT (w.heap.size+2)) W0 W2)(hA:ArgsAt (fun b=>S b∨w.heap.size+4≤b∧b<W2.heap.size) W2 (.slice a2 y.args.length c2) y.args)
  (s3:SameBut (w.heap.size+3) (W2.alloc (.cells #[.int .i64 y.kind,.string y.name,.int .i64 y.n,.slice a2 y.args.length c2] 30)) W3):NumPost S (y,m) w (.returned (.tuple #[tv y a2 c2,.int .i64 m])) W3.drew:=by
 have hsz:W3.heap.size=W2.heap.size+1:=s3.size.trans (by simp)
 have hk2:=hk.size
 have off:∀ b,b<W2.heap.size→b≠w.heap.size+3→W3.drew.heap[b]? = W2.heap[b]? := fun b h1 h2=>(s3.off b h2).trans (heap_alloc_old W2 _ h1)
 refine⟨a2,c2,rfl,(hA.keep fun b h=>?_).mono fun b h=>h.imp id fun h=>⟨by omega,by show b<W3.heap.size;omega⟩,⟨?_,?_,?_,?_,fun b hb=>?_⟩⟩
 ·rcases h with h|h
  ·have:=hS b h;exact off b (by omega) (by omega)
  ·exact off b (by omega) (by omega)
 ·exact s3.os.trans (hk.os.trans h0.os)
 ·exact s3.tape.trans (hk.tape.trans h0.tape)
 ·exact s3.output.trans (hk.output.trans h0.output)
 ·show w.heap.size≤W3.heap.size;omega
 ·exact (off b (by omega) (by omega)).trans ((hk.block b (by omega) (fun e=>by have:b=w.heap.size+2:=e;omega)).trans (h0.block b hb))
set_option maxRecDepth 100000 in
set_option maxHeartbeats 3200000 in
theorem num_with (d:Nat)(ih:NumSaid d)(free:List ByteArray)(fv:Value)(n:Nat)(t:Ty)(S Sf:Nat→Prop)(a:Option Addr)(c:Nat)(w:World)(hk:t.kind≠5)(hg:Good t)(hd:t.depth≤d+1)(hs:t.size≤50000000000)(hb:n+t.size*(free.length+1)≤4611686018427387904)(hF:StrsAt Sf w fv free)
  (hA:ArgsAt S w (.slice a t.args.length c) t.args) (hS:∀ b,S b→b<w.heap.size) (hSf:∀ b,Sf b→b<w.heap.size) (hT:Tab w) :
  Calls Tryz.prog 62 #[tv t a c,fv,.int .i64 n] w (NumPost S (numF (d+1) free n t) w):=by
 obtain⟨af,cf,rfl,hF'⟩:=id hF
 have R:=numMem t.kind t.name t.n (.slice a t.args.length c) (.slice af free.length cf) n w
 have z5:(t.kind==5)=false:=by rw[beq_eq_false_iff_ne];exact hk
 have e0:=cell_of_row _ _ 0 _ _ _ R.hf
 have e1:=cell_of_row _ _ 0 _ _ _ R.hn
 have c0:=R.k4.c0
 have c1:=R.k4.c1
 have c2:=R.k4.c2
 have c3:=R.k4.c3
 have hdp:=t.depth_eq
 have hsz:=t.size_eq
 have CW:=hid (num_call d ih free _ n t S Sf a c _ _ _ _ w _ R hg (fun x hx=>by have:=depth_arg _ hx;omega) (by omega) (by rw[hsz,Nat.add_mul] at hb;omega) (hF.keep fun b hb=>R.hz.block b (hSf b hb)) (hA.keep fun b hb=>R.hz.block b (hS b hb)) (fun b hb=>by have:=hS b hb;have:=R.size;exact⟨by omega,by omega⟩) hSf hT)
 have E:Hid (numF (d+1) free n t=(withT t (mapAcc (numF d free) n t.args).1,(mapAcc (numF d free) n t.args).2)):=hid (by rw[numF,if_neg hk])
 have HS:=hid hS
 have RH:=hid R
 unfold tv at *
 clear R hk hg hd hs hb hF hF' hA hS hSf hT hdp hsz
 go_enter Tryz.func62,Tryz.ntmps62
 go_wp2_with fail
 refine CW.out.mono ?_
 rintro e W2 ⟨a2,c2',rfl,hA2,hI2,hk2⟩
 have hq2:B4 W2 (w.heap.size+3) (.int .i64 0) (.string ⟨#[]⟩) (.int .i64 0) (.slice none 0 0):=(hk2.block _ (by have:=RH.out.size;omega) (fun e=>by have:w.heap.size+3=w.heap.size+2:=e;omega)).trans RH.out.q4
 have HA2:=hid hA2
 have HI2:=hid hI2
 have HK2:=hid hk2
 have HQ2:=hid hq2
 clear hA2 hI2 hk2 hq2
 generalize hy:withT t (mapAcc (numF d free) n t.args).1=y at *
 generalize hm:(mapAcc (numF d free) n t.args).2=m at *
 have EY:Hid (numF (d+1) free n t=(y,m)):=E
 clear E hy hm CW
 unfold tv
 have q4:=B4.low HQ2.out ((Below.refl _ _).alloc (Nat.le_refl _) (.cells #[.int .i64 y.kind,.string y.name,.int .i64 y.n,.slice a2 y.args.length c2'] 30))
 have p4:=B4.new W2 (.int .i64 y.kind) (.string y.name) (.int .i64 y.n) (.slice a2 y.args.length c2')
 have i4:=((heap_alloc_old W2 (.cells #[.int .i64 y.kind,.string y.name,.int .i64 y.n,.slice a2 y.args.length c2'] 30) (Array.getElem?_eq_some_iff.1 HI2.out).1).trans HI2.out)
 have r0:=q4.c0
 have r1:=q4.c1
 have r2:=q4.c2
 have r3:=q4.c3
 have s0:=q4.fr 0
 have s1:=q4.fr 1
 have s2:=q4.fr 2
 have s3:=q4.fr 3
 have l0:=p4.c0
 have l1:=p4.c1
 have l2:=p4.c2
 have l3:=p4.c3
 have j0:=cell_of_row _ _ 0 _ _ _ i4
 have Q4:=hid q4
 clear q4 p4 i4
 go_wp2
 go_region
 all_goals
  go_wp2
  have q5:=B4.set4 Q4.out (.int .i64 y.kind) (.string y.name) (.int .i64 y.n) (.slice a2 y.args.length c2')
  exact bodyPost_ret (v:=.tuple #[tv y a2 c2',.int .i64 m]) (by simp[results,Tryz.results62,go_sem,tv,q5.c0,q5.c1,q5.c2,q5.c3]) rfl (by
   rw[EY.out]
   exact num_fin HS.out RH.out.hz RH.out.size HK2.out (HA2.out.mono fun b h=>h.imp id fun h=>⟨by have:=RH.out.size;omega,h.2⟩) (same_set4 _ _ _ _ _ _))
theorem NumMem.low {k:Int}{s:ByteArray}{m:Int}{sl fv:Value}{n:Nat}{w W W':World}(R:NumMem k s m sl fv n w W)(h:Below W.heap.size W W'):NumMem k s m sl fv n w W':=by
 have:=R.size
 exact⟨R.hz.trans (h.mono R.hz.size),R.k4.low h,(h.block _ (by omega)).trans R.hf,(h.block _ (by omega)).trans R.hn,R.q4.low h,Nat.le_trans R.size h.size⟩
theorem NumMem.setn {k:Int}{s:ByteArray}{m:Int}{sl fv:Value}{n:Nat}{w W:World}(R:NumMem k s m sl fv n w W)(n':Nat):NumMem k s m sl fv n' w (W.setCell ⟨w.heap.size+2,0,none⟩ (.int .i64 (n':Int))):=by
 have h:=same_cell W (w.heap.size+2) 0 (.int .i64 (n':Int))
 exact⟨R.hz.setCell (p:=⟨w.heap.size+2,0,none⟩) (by simp) _,(h.off _ (by omega)).trans R.k4,(h.off _ (by omega)).trans R.hf,set_row0 R.hn _,(h.off _ (by omega)).trans R.q4,by rw[h.size];exact R.size⟩
theorem NumMem.sett {k:Int}{s:ByteArray}{m:Int}{sl fv:Value}{n:Nat}{w W:World}(R:NumMem k s m sl fv n w W)(k':Int)(s':ByteArray)(m':Int)(sl':Value) :
  NumMem k' s' m' sl' fv n w ((((W.setCell ⟨w.heap.size,0,none⟩ (.int .i64 k')).setCell ⟨w.heap.size,1,none⟩ (.string s')).setCell ⟨w.heap.size,2,none⟩ (.int .i64 m')).setCell ⟨w.heap.size,3,none⟩ sl'):=by
 have h:=same_set4 W w.heap.size (.int .i64 k') (.string s') (.int .i64 m') sl'
 exact⟨R.hz.set4 (Nat.le_refl _) _ _ _ _,B4.set4 R.k4 _ _ _ _,(h.off _ (by omega)).trans R.hf,(h.off _ (by omega)).trans R.hn,(h.off _ (by omega)).trans R.q4,by rw[h.size];exact R.size⟩
theorem numF_all (d:Nat)(free:List ByteArray)(n m:Nat)(t x:Ty)(hk:t.kind=5)(hx:arg0T t=x)(hm:nextN free n=m) :
  numF (d+1) free n t=(withT (tAllB (xname m) (renT t.name (xname m) x)) (mapAcc (numF d free) (m+1) [renT t.name (xname m) x]).1,(mapAcc (numF d free) (m+1) [renT t.name (xname m) x]).2):=by
 rw[numF,if_pos hk,hx,hm]
theorem xname_spell (m:Nat):(⟨#[120]⟩:ByteArray)++bytes (Lib.itoa (m:Int))=xname m:=rfl
def NumTail (S:Nat→Prop)(y:Ty)(m:Nat)(w:World)(e:Ending)(W2:World):Prop :=
 ∃ a c,e=.returned (tv y a c)∧ArgsAt (fun b=>S b∨w.heap.size+4≤b∧b<W2.heap.size) W2 (.slice a y.args.length c) y.args∧Below w.heap.size w W2∧numI (w.heap.size+2) m W2∧B4 W2 (w.heap.size+3) (.int .i64 0) (.string ⟨#[]⟩) (.int .i64 0) (.slice none 0 0)∧w.heap.size+4≤W2.heap.size
theorem num_fin2 {S:Nat→Prop}{y:Ty}{m c2:Nat}{a2:Option Addr}{w W2 W3:World}(hS:∀ b,S b→b<w.heap.size)(hb:Below w.heap.size w W2)(hs:w.heap.size+4≤W2.heap.size)(hA:ArgsAt (fun b=>S b∨w.heap.size+4≤b∧b<W2.heap.size) W2 (.slice a2 y.args.length c2) y.args)
  (s3:SameBut (w.heap.size+3) (W2.alloc (.cells #[.int .i64 y.kind,.string y.name,.int .i64 y.n,.slice a2 y.args.length c2] 30)) W3):NumPost S (y,m) w (.returned (.tuple #[tv y a2 c2,.int .i64 m])) W3.drew:=by
 have hsz:W3.heap.size=W2.heap.size+1:=s3.size.trans (by simp)
 have off:∀ b,b<W2.heap.size→b≠w.heap.size+3→W3.drew.heap[b]? = W2.heap[b]? := fun b h1 h2=>(s3.off b h2).trans (heap_alloc_old W2 _ h1)
 refine⟨a2,c2,rfl,(hA.keep fun b h=>?_).mono fun b h=>h.imp id fun h=>⟨by omega,by show b<W3.heap.size;omega⟩,⟨?_,?_,?_,?_,fun b hb2=>?_⟩⟩
 ·rcases h with h|h
  ·have:=hS b h;exact off b (by omega) (by omega)
  ·exact off b (by omega) (by omega)
 ·exact s3.os.trans hb.os
 ·exact s3.tape.trans hb.tape
 ·exact s3.output.trans hb.output
 ·show w.heap.size≤W3.heap.size;omega
 ·exact (off b (by omega) (by omega)).trans (hb.block b hb2)
theorem num_tail (d:Nat)(ih:NumSaid d)(free:List ByteArray)(fv:Value)(m:Nat)(xm:ByteArray)(y:Ty)(S Sf:Nat→Prop)(a9:Option Addr)(c9:Nat)(k:Int)(s:ByteArray)(mm:Int)(sl:Value)(w w9:World)(R:NumMem k s mm sl fv m w w9)(hg:Good y)(h1:1≤xm.size)(h2:xm.size≤64)(hd:y.depth≤d)(hs:y.size≤50000000000)(hb:m+y.size*(free.length+1)≤4611686018427387904)
  (hF:StrsAt Sf w fv free) (hA:ArgsAt (fun b=>S b∨w.heap.size+4≤b∧b<w9.heap.size) w9 (.slice a9 y.args.length c9) y.args) (hS:∀ b,S b→b<w.heap.size) (hSf:∀ b,Sf b→b<w.heap.size) (hT:Tab w) :
  Calls Tryz.prog 39 #[.agg #[.int .i64 5,.string xm,.int .i64 0,.slice (some ⟨w9.heap.size,0,none⟩) 1 1],.func (.func 92) #[] #[.pointer (some ⟨w.heap.size+1,0,none⟩),.pointer (some ⟨w.heap.size+1+1,0,none⟩)]]
   (((((w9.alloc (.cells #[.int .i64 y.kind,.string y.name,.int .i64 y.n,.slice a9 y.args.length c9] 30)).setCell ⟨w.heap.size,0,none⟩ (.int .i64 5)).setCell ⟨w.heap.size,1,none⟩ (.string xm)).setCell ⟨w.heap.size,2,none⟩ (.int .i64 0)).setCell ⟨w.heap.size,3,none⟩ (.slice (some ⟨w9.heap.size,0,none⟩) 1 1))
   (NumTail S (withT (tAllB xm y) (mapAcc (numF d free) m [y]).1) (mapAcc (numF d free) m [y]).2 w):=by
 have hR:=(R.low ((Below.refl _ _).alloc (Nat.le_refl _) (.cells #[.int .i64 y.kind,.string y.name,.int .i64 y.n,.slice a9 y.args.length c9] 30))).sett 5 xm 0 (.slice (some ⟨w9.heap.size,0,none⟩) 1 1)
 have hs10:=same_set4 (w9.alloc (.cells #[.int .i64 y.kind,.string y.name,.int .i64 y.n,.slice a9 y.args.length c9] 30)) w.heap.size (.int .i64 5) (.string xm) (.int .i64 0) (.slice (some ⟨w9.heap.size,0,none⟩) 1 1)
 generalize (((((w9.alloc (.cells #[.int .i64 y.kind,.string y.name,.int .i64 y.n,.slice a9 y.args.length c9] 30)).setCell ⟨w.heap.size,0,none⟩ (.int .i64 5)).setCell ⟨w.heap.size,1,none⟩ (.string xm)).setCell ⟨w.heap.size,2,none⟩ (.int .i64 0)).setCell ⟨w.heap.size,3,none⟩ (.slice (some ⟨w9.heap.size,0,none⟩) 1 1))=W10 at *
 have hz10:W10.heap.size=w9.heap.size+1:=hs10.size.trans (by simp)
 have hR9:=R.size
 have hA10:ArgsAt (fun b=>S b∨w.heap.size+4≤b∧b<w9.heap.size+1) W10 (.slice (some ⟨w9.heap.size,0,none⟩) 1 1) [y]:=by
  refine args_one (g:=w9.heap.size) ((hs10.off _ (by omega)).trans (heap_alloc_new w9 _)) rfl rfl rfl (.inr ⟨by omega,by omega⟩) ((hA.keep fun b hb2=>?_).mono fun b hb2=>hb2.imp id fun h=>⟨h.1,by omega⟩)
  have hlt:b<w9.heap.size∧b≠w.heap.size:=by
   rcases hb2 with h|h
   ·have:=hS b h;omega
   ·omega
  exact (hs10.off b hlt.2).trans (heap_alloc_old w9 _ hlt.1)
 have hsl:sizeL (tAllB xm y).args=y.size:=by simp[tAllB,Ty.args,sizeL]
 have CW:=num_call d ih free fv m (tAllB xm y) (fun b=>S b∨w.heap.size+4≤b∧b<w9.heap.size+1) Sf (some ⟨w9.heap.size,0,none⟩) 1 _ _ _ _ w W10 hR (good_all h1 h2 hg) (fun u hu=>by obtain rfl:=List.mem_singleton.1 hu;exact hd) (by rw[hsl];omega) (by rw[hsl];exact hb) (hF.keep fun b hb=>hR.hz.block b (hSf b hb)) hA10 (fun b h=>by
  rcases h with h|h
  ·have:=hS b h;exact⟨by omega,by omega⟩
  ·exact⟨by omega,by omega⟩) hSf hT
 refine CW.mono fun e W2 ⟨a2,c2,he,hA2,hI2,hk2⟩=>⟨a2,c2,he,hA2.mono fun b h=>?_,?_,hI2,(hk2.block _ (by omega) (fun e=>by have:w.heap.size+3=w.heap.size+2:=e;omega)).trans hR.q4,by have:=hk2.size;omega⟩
 ·have:=hk2.size
  rcases h with (h|h)|h
  ·exact .inl h
  ·exact .inr ⟨h.1,by omega⟩
  ·exact .inr ⟨by omega,h.2⟩
 ·exact⟨hk2.os.trans hR.hz.os,hk2.tape.trans hR.hz.tape,hk2.output.trans hR.hz.output,Nat.le_trans hR.hz.size hk2.size,fun b hb2=>(hk2.block b (by omega) (fun e=>by have:b=w.heap.size+2:=e;omega)).trans (hR.hz.block b hb2)⟩
set_option maxRecDepth 100000 in
set_option maxHeartbeats 6400000 in
theorem num_all (d:Nat)(ih:NumSaid d)(free:List ByteArray)(fv:Value)(n:Nat)(t:Ty)(S Sf:Nat→Prop)(a:Option Addr)(c:Nat)(w:World)(hk:t.kind=5)(hg:Good t)(hd:t.depth≤d+1)(hs:t.size≤50000000000)(hb:n+t.size*(free.length+1)≤4611686018427387904)(hF:StrsAt Sf w fv free)
  (hA:ArgsAt S w (.slice a t.args.length c) t.args) (hS:∀ b,S b→b<w.heap.size) (hSf:∀ b,Sf b→b<w.heap.size) (hT:Tab w) :
  Calls Tryz.prog 62 #[tv t a c,fv,.int .i64 n] w (NumPost S (numF (d+1) free n t) w):=by
 obtain⟨x,hx,hx0⟩:=wf_k5 hg.1 hk
 obtain⟨b,off,a0,p0,rfl,hbS,hf4,hs0⟩:=arg0 hA hx
 obtain⟨af,cf,rfl,hF'⟩:=id hF
 have hln:t.args.length=1:=by rw[hx];rfl
 have hx1:x∈t.args:=by rw[hx];simp
 have hgx:=good_args hg x hx1
 have hdx:x.depth≤d:=by have:=depth_arg _ hx1;rw[t.depth_eq] at hd;omega
 have hsz:t.size=x.size+1:=by rw[t.size_eq,hx];simp[sizeL]
 have hsx:x.size≤49999999999:=by omega
 have hbx:n+free.length+1+x.size*(free.length+1)≤4611686018427387904:=by rw[hsz,Nat.add_mul] at hb;omega
 have hbm:n+free.length+1≤4611686018427387904:=by omega
 have hns:=((nm_iff t).1 hg.2).1
 have R:=numMem 5 t.name t.n (.slice (some ⟨b,off,none⟩) 1 c) (.slice af free.length cf) n w
 have e1:=cell_of_row _ _ 0 _ _ _ R.hn
 have c0:=R.k4.c0
 have hbl:=hS b hbS
 have CI:=hid (fun (k:Nat) (hk:k≤4611686018427387904) (W:World) (h:Below w.heap.size w W)=>itoa_any (k:Int) (by omega) (by omega) W (tab_below hT h))
 have CC:=hid (fun (k:Nat) (W:World) (h:Below w.heap.size w W)=>contains_any (hF.keep fun b hb=>h.block b (hSf b hb)) (xname k))
 have RH:=hid R
 have HT:=hid hT
 have HS:=hid hS
 have HSF:=hid hSf
 have HFF:=hid hF
 have HF4:=hid hf4
 have HS0:=hid hs0
 have HG:=hid hgx
 have HNS:=hid hns
 have HX0:=hid hx0
 have HK:=hid hk
 have HBX:=hid hbx
 have IH:=hid ih
 unfold tv
 rw[hln,hk]
 clear R hg hd hs hb hF hF' hA hS hSf hT hx hx0 hln hx1 hgx hsz hns hf4 hs0 hk hbx ih
 go_enter Tryz.func62,Tryz.ntmps62
 go_wp2_with fail
 refine (CI.out n (by omega) _ RH.out.hz).mono ?_
 rintro e W1 ⟨rfl,hb1⟩
 have R1:=hid (RH.out.low hb1)
 have hxs:=(xname_size n (by omega)).1
 have XS:=hid (xname_spell n)
 have hil:(bytes (Lib.itoa (n:Int))).size≤64:=by unfold xname at hxs;rw[ByteArray.size_append] at hxs;omega
 clear hb1 e1 c0 RH hxs
 go_wp2
 rw[XS.out]
 go_loopg [8] (free.length+1) (fun gk nv wr=>∃ m:Nat,n≤m∧m≤n+free.length∧gk=n+free.length+1 - m∧nv=.string (xname m)∧(∀ j,n≤j→j<m→hasN free (xname j)=true)∧NumMem 5 t.name t.n (.slice (some ⟨b,off,none⟩) 1 c) (.slice af free.length cf) m w wr)
 case atStart=>exact⟨n,Nat.le_refl _,by omega,by omega,rfl,fun j hj hj'=>by omega,R1.out⟩
 case round =>
  clear R1 XS hil
  obtain⟨m,hm1,hm2,rfl,rfl,hall,R⟩:=hrel
  have e0:=cell_of_row _ _ 0 _ _ _ R.hf
  have e1:=cell_of_row _ _ 0 _ _ _ R.hn
  have e2:wr.frozen? ⟨w.heap.size+2,0,none⟩=false:=by have:=R.hn;unfold numI at this;simp[World.frozen?,this]
  have C1:=CC.out m wr R.hz
  rw[contains_hasN] at C1
  have RH:=hid R
  have HA:=hid hall
  cases hn:hasN free (xname m) with
  | true =>
   rw[hn] at C1
   have hpg:m - n+1≤free.length:=pigeon xname (fun _ _=>xname_inj) (m - n+1) free n fun j hj=>by
    refine (hasN_iff _ _).1 ?_
    rcases Nat.lt_or_ge (n+j) m with h|h
    ·exact hall (n+j) (by omega) h
    ·rw[show n+j=m by omega];exact hn
   have HA2:=hid (show ∀ j,n≤j→j<m+1→hasN free (xname j)=true from fun j h1 h2=>by
    rcases Nat.lt_or_ge j m with h|h
    ·exact hall j h1 h
    ·rw[show j=m by omega];exact hn)
   have C1H:=hid C1
   have R2:Hid (NumMem 5 t.name t.n (.slice (some ⟨b,off,none⟩) 1 c) (.slice af free.length cf) (m+1) w (wr.setCell ⟨w.heap.size+1+1,0,none⟩ (.int .i64 ((m:Int)+1)))):=hid (R.setn (m+1))
   have CI2:Hid (Calls Tryz.prog 45 #[.int .i64 ((m:Int)+1)] (wr.setCell ⟨w.heap.size+1+1,0,none⟩ (.int .i64 ((m:Int)+1))) _):=hid (CI.out (m+1) (by omega) _ R2.out.hz)
   have e3:=cell_of_row _ _ 0 _ _ _ R2.out.hn
   have XS:=hid (xname_spell (m+1))
   have hxs:=(xname_size (m+1) (by omega)).1
   have hil:(bytes (Lib.itoa ((m+1:Nat):Int))).size≤64:=by unfold xname at hxs;rw[ByteArray.size_append] at hxs;omega
   clear hn hall R C1 hxs
   generalize xname m=xm at *
   go_wp2_with fail
   refine C1H.out.mono ?_
   rintro e w' ⟨rfl,rfl⟩
   go_wp2_with fail
   refine CI2.out.mono ?_
   rintro e W4 ⟨rfl,hb4⟩
   have R4:=hid (R2.out.low hb4)
   clear hb4
   change (bytes (Lib.itoa ((m:Int)+1))).size≤64 at hil
   have XS2:Hid ((⟨#[120]⟩:ByteArray)++bytes (Lib.itoa ((m:Int)+1))=xname (m+1)):=XS
   clear XS
   go_wp2
   go_roundg (n+free.length+1 - (m+1))
   case measure=>omega
   case rel=>exact⟨m+1,by omega,by omega,rfl,by rw[← XS2.out],HA2.out,R4.out⟩
  | false =>
   rw[hn] at C1
   have EN:=hid (firstN_eq xname free (free.length+1) n m hm1 (by omega) hall hn)
   have C1H:=hid C1
   have R3:Hid (NumMem 5 t.name t.n (.slice (some ⟨b,off,none⟩) 1 c) (.slice af free.length cf) (m+1) w (wr.setCell ⟨w.heap.size+1+1,0,none⟩ (.int .i64 ((m:Int)+1)))):=hid (R.setn (m+1))
   have E:=hid (numF_all d free n m t x HK.out HX0.out EN.out)
   have HXS:=xname_size m (by omega)
   have KP:=hid (renT_keeps t.name (xname m) x HG.out HXS.1 (by omega))
   have CR:=hid (fun (W:World) (h:Below w.heap.size w W)=>ren_any t.name (xname m) x S a0 p0 W HG.out (by omega) HNS.out.2 HXS.1 (HS0.out.keep fun b hb=>h.block b (HS.out b hb)) (fun b hb=>Nat.lt_of_lt_of_le (HS.out b hb) h.size) (tab_below HT.out h))
   have CT:=hid (fun (W9:World) (a9:Option Addr) (c9:Nat) (R9:NumMem 5 t.name t.n (.slice (some ⟨b,off,none⟩) 1 c) (.slice af free.length cf) (m+1) w W9) (hA9:ArgsAt (fun b=>S b∨w.heap.size+4≤b∧b<W9.heap.size) W9 (.slice a9 (renT t.name (xname m) x).args.length c9) (renT t.name (xname m) x).args) =>
    num_tail d IH.out free (.slice af free.length cf) (m+1) (xname m) (renT t.name (xname m) x) S Sf a9 c9 _ _ _ _ w W9 R9 KP.out.2.2.1 HXS.2 HXS.1 (by rw[KP.out.1];exact hdx) (by rw[KP.out.2.1];omega) (by rw[KP.out.2.1];have:=HBX.out;omega) HFF.out hA9 HS.out HSF.out HT.out)
   have RD:=hid (R3.out.low (Below.refl (wr.setCell ⟨w.heap.size+1+1,0,none⟩ (.int .i64 ((m:Int)+1))).heap.size (wr.setCell ⟨w.heap.size+1+1,0,none⟩ (.int .i64 ((m:Int)+1)))).drew)
   obtain⟨f0,f1,f2,f3⟩:=HF4.out.keep (RD.out.hz.block b hbl)
   have d1:=RD.out.k4.c1
   have d3:=RD.out.k4.c3
   clear hn hall R C1 HXS
   generalize hxm:xname m=xm at *
   clear hxm
   go_wp2_with fail
   refine C1H.out.mono ?_
   rintro e w' ⟨rfl,rfl⟩
   go_wp2
   go_region_with ((go_at_call 38;refine (CR.out _ RD.out.hz).mono ?_;rintro e w9 ⟨a9,c9,rfl,hA9,hb9⟩;have R9:=hid (RD.out.low hb9);have k9:=R9.out.k4;have g0:=k9.c0;have g1:=k9.c1;have g2:=k9.c2;have g3:=k9.c3;have n0:=k9.fr 0;have n1:=k9.fr 1;have n2:=k9.fr 2;have n3:=k9.fr 3;have k10:=k9.low ((Below.refl _ _).alloc (Nat.le_refl _) (.cells #[.int .i64 (renT t.name xm x).kind,.string (renT t.name xm x).name,.int .i64 (renT t.name xm x).n,.slice a9 (renT t.name xm x).args.length c9] 30));have h0:=k10.c0;have h1:=k10.c1;have h2:=k10.c2;have h3:=k10.c3;have m0:=k10.fr 0;have m1:=k10.fr 1;have m2:=k10.fr 2;have m3:=k10.fr 3;have HA9:=hid (hA9.mono fun b h=>h.imp id fun h=>And.intro (Nat.le_trans RD.out.size h.1) h.2);clear k9 k10 hA9 hb9;unfold tv))
   all_goals
    go_wp2_with fail
    refine (CT.out _ _ _ R9.out HA9.out).mono ?_
    rintro e W2 ⟨a2,c2',rfl,hA2,hb2,hI2,hq2,hs2⟩
    clear g0 g1 g2 g3 n0 n1 n2 n3 h0 h1 h2 h3 m0 m1 m2 m3 d1 d3 f0 f1 f2 f3 e0 e1 e2
    have HA2:=hid hA2
    have HB2:=hid hb2
    have HS2:=hid hs2
    generalize hy:withT (tAllB xm (renT t.name xm x)) (mapAcc (numF d free) (m+1) [renT t.name xm x]).1=y at *
    generalize hm3:(mapAcc (numF d free) (m+1) [renT t.name xm x]).2=m3 at *
    have EY:Hid (numF (d+1) free n t=(y,m3)):=E
    clear E hy hm3 hA2 hb2 hs2
    unfold tv
    have q4:=B4.low hq2 ((Below.refl _ _).alloc (Nat.le_refl _) (.cells #[.int .i64 y.kind,.string y.name,.int .i64 y.n,.slice a2 y.args.length c2'] 30))
    have p4:=B4.new W2 (.int .i64 y.kind) (.string y.name) (.int .i64 y.n) (.slice a2 y.args.length c2')
    have i4:=((heap_alloc_old W2 (.cells #[.int .i64 y.kind,.string y.name,.int .i64 y.n,.slice a2 y.args.length c2'] 30) (Array.getElem?_eq_some_iff.1 hI2).1).trans hI2)
    have r0:=q4.c0
    have r1:=q4.c1
    have r2:=q4.c2
    have r3:=q4.c3
    have s0:=q4.fr 0
    have s1:=q4.fr 1
    have s2:=q4.fr 2
    have s3:=q4.fr 3
    have l0:=p4.c0
    have l1:=p4.c1
    have l2:=p4.c2
    have l3:=p4.c3
    have j0:=cell_of_row _ _ 0 _ _ _ i4
    have Q4:=hid q4
    clear q4 p4 i4 hI2 hq2
    go_wp2
    go_region
    go_wp2
    have q5:=B4.set4 Q4.out (.int .i64 y.kind) (.string y.name) (.int .i64 y.n) (.slice a2 y.args.length c2')
    exact bodyPost_ret (v:=.tuple #[tv y a2 c2',.int .i64 m3]) (by simp[results,Tryz.results62,go_sem,tv,q5.c0,q5.c1,q5.c2,q5.c3]) rfl (by
     rw[EY.out]
     exact num_fin2 HS.out HB2.out HS2.out HA2.out (same_set4 _ _ _ _ _ _))
end Go.Proofs.YtkihnodkhnahiaaGreatDoor.Tp

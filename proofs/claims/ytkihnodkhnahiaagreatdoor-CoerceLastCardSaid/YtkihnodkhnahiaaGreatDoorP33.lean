/- Texts laid together: TyPutB, TyPutT, TyPutC. -/
import Derived.Test.YtkihnodkhnahiaaGreatDoorP12
import Derived.Test.YtkihnodkhnahiaaGreatDoorP17
import Derived.BigQuiet
import Derived.Deep.RegionHeld3
import Derived.Deep.RegionWith

namespace Go.Proofs.YtkihnodkhnahiaaGreatDoor.Tp
open Go.RowKit
structure PutMem (k:Int)(s:ByteArray)(m:Int)(sl:Value)(nm:ByteArray)(u:Ty)(ua:Option Addr)(uc:Nat)(w W:World):Prop where
 hz:Below w.heap.size w W
 k4:B4 W w.heap.size (.int .i64 k) (.string s) (.int .i64 m) sl
 hn:W.heap[w.heap.size+1]? = some (.cells #[.string nm] 9 (0,0))
 hu:B4 W (w.heap.size+2) (.int .i64 u.kind) (.string u.name) (.int .i64 u.n) (.slice ua u.args.length uc)
 q4:B4 W (w.heap.size+3) (.int .i64 0) (.string ⟨#[]⟩) (.int .i64 0) (.slice none 0 0)
 size:w.heap.size+4≤W.heap.size
theorem putMem (k:Int)(s:ByteArray)(m:Int)(sl:Value)(nm:ByteArray)(u:Ty)(ua:Option Addr)(uc:Nat)(w:World):PutMem k s m sl nm u ua uc w ((((w.alloc (.cells #[.int .i64 k,.string s,.int .i64 m,sl] 30)).alloc (.cells #[.string nm] 9)).alloc (.cells #[.int .i64 u.kind,.string u.name,.int .i64 u.n,.slice ua u.args.length uc] 30)).alloc (.cells #[.int .i64 0,.string ⟨#[]⟩,.int .i64 0,.slice none 0 0] 30)):=by
 refine⟨four_allocs _ _ _ _ _,?_,?_,?_,alloc_new (by simp),by simp⟩
 ·exact (((B4.new w _ _ _ _).low ((Below.refl _ _).alloc (Nat.le_refl _) _)).low ((Below.refl _ _).alloc (Nat.le_refl _) _)).low ((Below.refl _ _).alloc (Nat.le_refl _) _)
 ·rw[heap_alloc_old _ _ (by simp),heap_alloc_old _ _ (by simp)]
  exact alloc_new (by simp)
 ·unfold B4
  rw[heap_alloc_old _ _ (by simp)]
  exact alloc_new (by simp)
theorem PutMem.low {k:Int}{s:ByteArray}{m:Int}{sl:Value}{nm:ByteArray}{u:Ty}{ua:Option Addr}{uc:Nat}{w W W':World}(R:PutMem k s m sl nm u ua uc w W)(h:Below W.heap.size W W'):PutMem k s m sl nm u ua uc w W':=by
 have:=R.size
 exact⟨R.hz.trans (h.mono R.hz.size),R.k4.low h,(h.block _ (by omega)).trans R.hn,R.hu.low h,R.q4.low h,Nat.le_trans R.size h.size⟩
theorem PutMem.sett {k:Int}{s:ByteArray}{m:Int}{sl:Value}{nm:ByteArray}{u:Ty}{ua:Option Addr}{uc:Nat}{w W:World}(R:PutMem k s m sl nm u ua uc w W)(k':Int)(s':ByteArray)(m':Int)(sl':Value) :
  PutMem k' s' m' sl' nm u ua uc w ((((W.setCell ⟨w.heap.size,0,none⟩ (.int .i64 k')).setCell ⟨w.heap.size,1,none⟩ (.string s')).setCell ⟨w.heap.size,2,none⟩ (.int .i64 m')).setCell ⟨w.heap.size,3,none⟩ sl'):=by
 have h:=same_set4 W w.heap.size (.int .i64 k') (.string s') (.int .i64 m') sl'
 exact⟨R.hz.set4 (Nat.le_refl _) _ _ _ _,B4.set4 R.k4 _ _ _ _,(h.off _ (by omega)).trans R.hn,(h.off _ (by omega)).trans R.hu,(h.off _ (by omega)).trans R.q4,by rw[h.size];exact R.size⟩
theorem put_call (d:Nat)(ih:PutSaid d)(nm:ByteArray)(u t:Ty)(S S0:Nat→Prop)(a ua:Option Addr)(c uc:Nat)(k:Int)(s:ByteArray)(m:Int)(sl:Value)(w W0:World)(R:PutMem k s m sl nm u ua uc w W0)(hg:Good t)(hgu:Good u)(hd:∀ x∈t.args,x.depth≤d)(hs:sizeL t.args≤50000000000)(hsu:u.size≤50000000000)
  (hA:ArgsAt S W0 (.slice a t.args.length c) t.args) (hU:ArgsAt S0 w (.slice ua u.args.length uc) u.args) (hS:∀ b,S b→b<W0.heap.size) (hS0:∀ b,S0 b→b<w.heap.size) (hSS:∀ b,S0 b→S b) (hT:Tab w) :
  Calls Tryz.prog 39 #[tv t a c,.func (.func 40) #[] #[.pointer (some ⟨w.heap.size+1,0,none⟩),.pointer (some ⟨w.heap.size+2,0,none⟩)]] W0 (TP S (withT t (t.args.map (PutF d nm u))) W0):=by
 have hal:=length_le_sizeL t.args
 have hsz:=R.size
 have CW:=with_any 40 #[.pointer (some ⟨w.heap.size+1,0,none⟩),.pointer (some ⟨w.heap.size+2,0,none⟩)] Put1Enters noT noI (fun (_:Unit) x=>(PutF d nm u x,())) t () S a c W0 trivial (fun _ _ _ _ _=>trivial) hA (fun b hb=>⟨hS b hb,id⟩) (fun b hb=>hb.elim) (by omega)
  (fun i hi a' c' W _ hK hA'=>by
   have hmi:=List.getElem_mem hi
   have hkb:=hK.to_below
   have hwW:=R.hz.trans (hkb.mono R.hz.size)
   exact (Put1_any d ih nm u (w.heap.size+1) (w.heap.size+2) t.args[i] S a' ua c' uc W ((hkb.block _ (by omega)).trans R.hn) (R.hu.low hkb) (good_args hg _ hmi) hgu (hd _ hmi) (by have:=size_arg _ hmi;omega) hsu hA' ((hU.keep fun b hb=>hwW.block b (hS0 b hb)).mono hSS) (fun b hb=>Nat.lt_of_lt_of_le (hS b hb) hkb.size) (tab_below hT hwW)).mono fun e W' h=>h.post)
 rw[mapAcc_unit] at CW
 exact CW.mono fun e W' h=>TP.of h
set_option maxRecDepth 100000 in
set_option maxHeartbeats 1600000 in
theorem put_same (d:Nat)(nm:ByteArray)(u t:Ty)(S:Nat→Prop)(a ua:Option Addr)(c uc:Nat)(w:World)(hk:t.kind=5)(hn:t.name=nm)(hA:ArgsAt S w (.slice a t.args.length c) t.args)(hS:∀ b,S b→b<w.heap.size):Calls Tryz.prog 16 #[tv t a c,.string nm,tv u ua uc] w (TP S (PutF (d+1) nm u t) w):=by
 have R:=putMem t.kind t.name t.n (.slice a t.args.length c) nm u ua uc w
 have e0:=cell_of_row _ _ 0 _ _ _ R.hn
 have c0:=R.k4.c0
 have c1:=R.k4.c1
 have c2:=R.k4.c2
 have c3:=R.k4.c3
 have d0:=R.hu.c0
 have d1:=R.hu.c1
 have d2:=R.hu.c2
 have d3:=R.hu.c3
 have z1:(t.kind==5)=true:=by rw[beq_iff_eq];exact hk
 have z2:=beqN_true hn
 have E:=hid (PutF_same d nm u t hk hn)
 have HA:=hid hA
 have HS:=hid hS
 unfold tv
 clear R hk hn hA hS
 go_enter Tryz.func16,Tryz.ntmps16
 go_wp2
 have q5:B4 ((((w.alloc (.cells #[.int .i64 t.kind,.string t.name,.int .i64 t.n,.slice a t.args.length c] 30)).alloc (.cells #[.string nm] 9)).alloc (.cells #[.int .i64 u.kind,.string u.name,.int .i64 u.n,.slice ua u.args.length uc] 30)).alloc (.cells #[.int .i64 t.kind,.string t.name,.int .i64 t.n,.slice a t.args.length c] 30)) (w.heap.size+3) (.int .i64 t.kind) (.string t.name) (.int .i64 t.n) (.slice a t.args.length c):=alloc_new (by simp)
 refine bodyPost_ret (v:=.agg #[.int .i64 t.kind,.string t.name,.int .i64 t.n,.slice a t.args.length c]) (by simp[results,Tryz.results16,go_sem,q5.c0,q5.c1,q5.c2,q5.c3]) rfl ?_
 have hb:=four_allocs w (.cells #[.int .i64 t.kind,.string t.name,.int .i64 t.n,.slice a t.args.length c] 30) (.cells #[.string nm] 9) (.cells #[.int .i64 u.kind,.string u.name,.int .i64 u.n,.slice ua u.args.length uc] 30) (.cells #[.int .i64 t.kind,.string t.name,.int .i64 t.n,.slice a t.args.length c] 30)
 rw[E.out]
 exact⟨a,c,rfl,(HA.out.keep fun b h=>hb.block b (HS.out b h)).mono fun b h=>.inl h,hb⟩
set_option maxRecDepth 100000 in
set_option maxHeartbeats 1600000 in
theorem put_var (d:Nat)(nm:ByteArray)(u t:Ty)(S:Nat→Prop)(a ua:Option Addr)(c uc:Nat)(w:World)(hk:t.kind=1)(hn:t.name=nm)(hU:ArgsAt S w (.slice ua u.args.length uc) u.args)(hS:∀ b,S b→b<w.heap.size):Calls Tryz.prog 16 #[tv t a c,.string nm,tv u ua uc] w (TP S (PutF (d+1) nm u t) w):=by
 have R:=putMem t.kind t.name t.n (.slice a t.args.length c) nm u ua uc w
 have e0:=cell_of_row _ _ 0 _ _ _ R.hn
 have c0:=R.k4.c0
 have c1:=R.k4.c1
 have c2:=R.k4.c2
 have c3:=R.k4.c3
 have d0:=R.hu.c0
 have d1:=R.hu.c1
 have d2:=R.hu.c2
 have d3:=R.hu.c3
 have z1:(t.kind==1)=true:=by rw[beq_iff_eq];exact hk
 have z3:(t.kind==5)=false:=by rw[beq_eq_false_iff_ne];omega
 have z2:=beqN_true hn
 have E:=hid (PutF_var d nm u t hk hn)
 have HA:=hid hU
 have HS:=hid hS
 unfold tv
 clear R hk hn hS hU
 go_enter Tryz.func16,Tryz.ntmps16
 go_wp2
 have q5:B4 ((((w.alloc (.cells #[.int .i64 t.kind,.string t.name,.int .i64 t.n,.slice a t.args.length c] 30)).alloc (.cells #[.string nm] 9)).alloc (.cells #[.int .i64 u.kind,.string u.name,.int .i64 u.n,.slice ua u.args.length uc] 30)).alloc (.cells #[.int .i64 u.kind,.string u.name,.int .i64 u.n,.slice ua u.args.length uc] 30)) (w.heap.size+3) (.int .i64 u.kind) (.string u.name) (.int .i64 u.n) (.slice ua u.args.length uc):=alloc_new (by simp)
 refine bodyPost_ret (v:=.agg #[.int .i64 u.kind,.string u.name,.int .i64 u.n,.slice ua u.args.length uc]) (by simp[results,Tryz.results16,go_sem,q5.c0,q5.c1,q5.c2,q5.c3]) rfl ?_
 have hb:=four_allocs w (.cells #[.int .i64 t.kind,.string t.name,.int .i64 t.n,.slice a t.args.length c] 30) (.cells #[.string nm] 9) (.cells #[.int .i64 u.kind,.string u.name,.int .i64 u.n,.slice ua u.args.length uc] 30) (.cells #[.int .i64 u.kind,.string u.name,.int .i64 u.n,.slice ua u.args.length uc] 30)
 rw[E.out]
 exact⟨ua,uc,rfl,(HA.out.keep fun b h=>hb.block b (HS.out b h)).mono fun b h=>.inl h,hb⟩
set_option maxRecDepth 100000 in
set_option maxHeartbeats 3200000 in
theorem put_plain (d:Nat)(nm:ByteArray)(u t:Ty)(S:Nat→Prop)(a ua:Option Addr)(c uc:Nat)(w:World)(ih:PutSaid d)(h5:t.kind≠5)(h1:t.kind=1→t.name≠nm)(hg:Good t)(hgu:Good u)(hd:t.depth≤d+1)(hs:t.size≤50000000000)(hsu:u.size≤50000000000)(hA:ArgsAt S w (.slice a t.args.length c) t.args)(hU:ArgsAt S w (.slice ua u.args.length uc) u.args)(hS:∀ b,S b→b<w.heap.size)(hT:Tab w):Calls Tryz.prog 16 #[tv t a c,.string nm,tv u ua uc] w (TP S (PutF (d+1) nm u t) w):=by
 have R:=putMem t.kind t.name t.n (.slice a t.args.length c) nm u ua uc w
 have e0:=cell_of_row _ _ 0 _ _ _ R.hn
 have c0:=R.k4.c0
 have c1:=R.k4.c1
 have c2:=R.k4.c2
 have c3:=R.k4.c3
 have d0:=R.hu.c0
 have d1:=R.hu.c1
 have d2:=R.hu.c2
 have d3:=R.hu.c3
 have E:=hid (PutF_with d nm u t h1 (fun h=>absurd h h5))
 have z3:(t.kind==5)=false:=by rw[beq_eq_false_iff_ne];exact h5
 have hsz:=t.size_eq
 have hdp:=t.depth_eq
 have CW:=hid (fun (W:World) (h:Below ((((w.alloc (.cells #[.int .i64 t.kind,.string t.name,.int .i64 t.n,.slice a t.args.length c] 30)).alloc (.cells #[.string nm] 9)).alloc (.cells #[.int .i64 u.kind,.string u.name,.int .i64 u.n,.slice ua u.args.length uc] 30)).alloc (.cells #[.int .i64 0,.string ⟨#[]⟩,.int .i64 0,.slice none 0 0] 30)).heap.size ((((w.alloc (.cells #[.int .i64 t.kind,.string t.name,.int .i64 t.n,.slice a t.args.length c] 30)).alloc (.cells #[.string nm] 9)).alloc (.cells #[.int .i64 u.kind,.string u.name,.int .i64 u.n,.slice ua u.args.length uc] 30)).alloc (.cells #[.int .i64 0,.string ⟨#[]⟩,.int .i64 0,.slice none 0 0] 30)) W)=>put_call d ih nm u t S S a ua c uc _ _ _ _ w W (R.low h) hg hgu (fun x hx=>by have:=depth_arg _ hx;omega) (by omega) hsu (hA.keep fun b hb=>(R.low h).hz.block b (hS b hb)) hU (fun b hb=>Nat.lt_of_lt_of_le (hS b hb) (R.low h).hz.size) hS (fun b hb=>hb) hT)
 have k0:=later_cell c0
 have k1:=later_cell c1
 have k2:=later_cell c2
 have k3:=later_cell c3
 have HS:=hid hS
 have RH:=hid R
 have q:(t.kind==1)=true∧(t.name.toList==nm.toList)=false∨(t.kind==1)=false:=by
  by_cases hk1:t.kind=1
  ·exact .inl ⟨by rw[beq_iff_eq];exact hk1,beqN_false (h1 hk1)⟩
  ·exact .inr (by rw[beq_eq_false_iff_ne];exact hk1)
 unfold tv at *
 clear R h1 h5 hg hgu hd hs hsu hA hU hS hT hsz hdp ih
 rcases q with ⟨z1,z2⟩|z1
 all_goals
  go_enter Tryz.func16,Tryz.ntmps16
  go_wp2
  refine wp_region_later (by kernel_rfl) (by kernel_rfl) ?_
  repeat (go_big_quiet_step (fail))
  refine wpQuiet_nil ?_
  intro _ hw'
  obtain⟨pq,hw''⟩:=hw'
  subst hw''
  have HL:=hid (later_below ((((w.alloc (.cells #[.int .i64 t.kind,.string t.name,.int .i64 t.n,.slice a t.args.length c] 30)).alloc (.cells #[.string nm] 9)).alloc (.cells #[.int .i64 u.kind,.string u.name,.int .i64 u.n,.slice ua u.args.length uc] 30)).alloc (.cells #[.int .i64 0,.string ⟨#[]⟩,.int .i64 0,.slice none 0 0] 30)) pq)
  have RL:=hid (RH.out.low HL.out)
  generalize later ((((w.alloc (.cells #[.int .i64 t.kind,.string t.name,.int .i64 t.n,.slice a t.args.length c] 30)).alloc (.cells #[.string nm] 9)).alloc (.cells #[.int .i64 u.kind,.string u.name,.int .i64 u.n,.slice ua u.args.length uc] 30)).alloc (.cells #[.int .i64 0,.string ⟨#[]⟩,.int .i64 0,.slice none 0 0] 30)) pq=W1 at *
  have CX:=hid (CW.out W1 HL.out)
  clear CW c0 c1 c2 c3 d0 d1 d2 d3 e0 HL k0 k1 k2 k3
  have l0:=RL.out.k4.c0
  have l1:=RL.out.k4.c1
  have l2:=RL.out.k4.c2
  have l3:=RL.out.k4.c3
  go_wp2_with fail
  refine CX.out.mono ?_
  rintro e W2 ⟨a2,c2',rfl,hA2,hb2⟩
  have q4:=RL.out.q4.low hb2
  have r0:=q4.c0
  have r1:=q4.c1
  have r2:=q4.c2
  have r3:=q4.c3
  have u0:=q4.fr 0
  have u1:=q4.fr 1
  have u2:=q4.fr 2
  have u3:=q4.fr 3
  have HA2:=hid hA2
  have HB2:=hid hb2
  clear hA2 hb2
  generalize withT t (t.args.map (PutF d nm u))=y at *
  unfold tv
  go_wp2
  have q5:=B4.set4 q4 (.int .i64 y.kind) (.string y.name) (.int .i64 y.n) (.slice a2 y.args.length c2')
  exact bodyPost_ret (v:=tv y a2 c2') (by simp[results,Tryz.results16,go_sem,tv,q5.c0,q5.c1,q5.c2,q5.c3]) rfl (by rw[E.out];exact TP.stored (R:=w.heap.size+3) HS.out RL.out.hz HA2.out HB2.out (by omega) (by have:=RL.out.size;omega))
set_option maxRecDepth 100000 in
set_option maxHeartbeats 3200000 in
theorem put_free (d:Nat)(nm:ByteArray)(u t:Ty)(S:Nat→Prop)(a ua:Option Addr)(c uc:Nat)(w:World)(ih:PutSaid d)(h5:t.kind=5)(h1:t.name≠nm)(hnf:hasN (freeT u) t.name=false)(hg:Good t)(hgu:Good u)(hd:t.depth≤d+1)(hs:t.size≤50000000000)(hsu:u.size≤50000000000)(hA:ArgsAt S w (.slice a t.args.length c) t.args)(hU:ArgsAt S w (.slice ua u.args.length uc) u.args)(hS:∀ b,S b→b<w.heap.size)(hT:Tab w):Calls Tryz.prog 16 #[tv t a c,.string nm,tv u ua uc] w (TP S (PutF (d+1) nm u t) w):=by
 have R:=putMem t.kind t.name t.n (.slice a t.args.length c) nm u ua uc w
 have e0:=cell_of_row _ _ 0 _ _ _ R.hn
 have c0:=R.k4.c0
 have c1:=R.k4.c1
 have c2:=R.k4.c2
 have c3:=R.k4.c3
 have d0:=R.hu.c0
 have d1:=R.hu.c1
 have d2:=R.hu.c2
 have d3:=R.hu.c3
 have E:=hid (PutF_with d nm u t (fun h=>by omega) (fun _=>⟨h1,hnf⟩))
 have z3:(t.kind==5)=true:=by rw[beq_iff_eq];exact h5
 have z1:(t.kind==1)=false:=by rw[beq_eq_false_iff_ne];omega
 have z2:=beqN_false h1
 have hsz:=t.size_eq
 have hdp:=t.depth_eq
 have hfl:=freeT_len u
 have CW:=hid (fun (W:World) (h:Below ((((w.alloc (.cells #[.int .i64 t.kind,.string t.name,.int .i64 t.n,.slice a t.args.length c] 30)).alloc (.cells #[.string nm] 9)).alloc (.cells #[.int .i64 u.kind,.string u.name,.int .i64 u.n,.slice ua u.args.length uc] 30)).alloc (.cells #[.int .i64 0,.string ⟨#[]⟩,.int .i64 0,.slice none 0 0] 30)).heap.size ((((w.alloc (.cells #[.int .i64 t.kind,.string t.name,.int .i64 t.n,.slice a t.args.length c] 30)).alloc (.cells #[.string nm] 9)).alloc (.cells #[.int .i64 u.kind,.string u.name,.int .i64 u.n,.slice ua u.args.length uc] 30)).alloc (.cells #[.int .i64 0,.string ⟨#[]⟩,.int .i64 0,.slice none 0 0] 30)) W)=>put_call d ih nm u t S S a ua c uc _ _ _ _ w W (R.low h) hg hgu (fun x hx=>by have:=depth_arg _ hx;omega) (by omega) hsu (hA.keep fun b hb=>(R.low h).hz.block b (hS b hb)) hU (fun b hb=>Nat.lt_of_lt_of_le (hS b hb) (R.low h).hz.size) hS (fun b hb=>hb) hT)
 have CF:=hid (fun (W:World) (h:Below w.heap.size w W)=>free_any u S ua uc W (hU.keep fun b hb=>h.block b (hS b hb)) (fun b hb=>Nat.lt_of_lt_of_le (hS b hb) h.size) (by omega))
 have SK:=hid (fun (W:World) (h:Below ((((w.alloc (.cells #[.int .i64 t.kind,.string t.name,.int .i64 t.n,.slice a t.args.length c] 30)).alloc (.cells #[.string nm] 9)).alloc (.cells #[.int .i64 u.kind,.string u.name,.int .i64 u.n,.slice ua u.args.length uc] 30)).alloc (.cells #[.int .i64 0,.string ⟨#[]⟩,.int .i64 0,.slice none 0 0] 30)).heap.size ((((w.alloc (.cells #[.int .i64 t.kind,.string t.name,.int .i64 t.n,.slice a t.args.length c] 30)).alloc (.cells #[.string nm] 9)).alloc (.cells #[.int .i64 u.kind,.string u.name,.int .i64 u.n,.slice ua u.args.length uc] 30)).alloc (.cells #[.int .i64 0,.string ⟨#[]⟩,.int .i64 0,.slice none 0 0] 30)) W)=>And.intro (R.k4.low h).c0 (And.intro (R.k4.low h).c1 (And.intro (R.hu.low h).c0 (And.intro (R.hu.low h).c1 (And.intro (R.hu.low h).c2 (R.hu.low h).c3)))))
 have RD:=hid ((Below.refl ((((w.alloc (.cells #[.int .i64 t.kind,.string t.name,.int .i64 t.n,.slice a t.args.length c] 30)).alloc (.cells #[.string nm] 9)).alloc (.cells #[.int .i64 u.kind,.string u.name,.int .i64 u.n,.slice ua u.args.length uc] 30)).alloc (.cells #[.int .i64 0,.string ⟨#[]⟩,.int .i64 0,.slice none 0 0] 30)).heap.size ((((w.alloc (.cells #[.int .i64 t.kind,.string t.name,.int .i64 t.n,.slice a t.args.length c] 30)).alloc (.cells #[.string nm] 9)).alloc (.cells #[.int .i64 u.kind,.string u.name,.int .i64 u.n,.slice ua u.args.length uc] 30)).alloc (.cells #[.int .i64 0,.string ⟨#[]⟩,.int .i64 0,.slice none 0 0] 30))).drew)
 have HS:=hid hS
 have RH:=hid R
 have HNF:=hid hnf
 unfold tv at *
 clear R h1 h5 hg hgu hd hs hA hU hS hT hsz hdp ih hnf
 go_enter Tryz.func16,Tryz.ntmps16
 go_wp2
 go_region_held3 (fun w'=>w'.cell? ⟨w.heap.size,0,none⟩=some (.int .i64 t.kind)∧w'.cell? ⟨w.heap.size,1,none⟩=some (.string t.name)∧w'.cell? ⟨w.heap.size+1+1,0,none⟩=some (.int .i64 u.kind)∧w'.cell? ⟨w.heap.size+1+1,1,none⟩=some (.string u.name)∧w'.cell? ⟨w.heap.size+1+1,2,none⟩=some (.int .i64 u.n)∧w'.cell? ⟨w.heap.size+1+1,3,none⟩=some (.slice ua u.args.length uc))
  (first|exact SK.out _ hB1|exact SK.out _ RD.out)
  (first
   | (go_at_call 35;refine (CF.out _ RH.out.hz.drew).mono ?_;rintro e w1 ⟨v1,rfl,own1,len1,hb1⟩;have hB1:=RD.out.trans (hb1.mono (by simp));have cc:=hid (contains_any (StrsAt.of_own own1 (by omega)) t.name))
   | (go_at_call 34;refine cc.out.mono ?_;rintro e w2 ⟨rfl,rfl⟩))
 all_goals
  rw[contains_hasN,HNF.out]
  have RL:=hid (RH.out.low hB1)
  have CX:=hid (CW.out _ hB1)
  clear CW c0 c1 c2 c3 d0 d1 d2 d3 e0 hb1 own1 len1 hB1 cc
  have l0:=RL.out.k4.c0
  have l1:=RL.out.k4.c1
  have l2:=RL.out.k4.c2
  have l3:=RL.out.k4.c3
  go_wp2_with fail
  refine CX.out.mono ?_
  rintro e W2 ⟨a2,c2',rfl,hA2,hb2⟩
  have q4:=RL.out.q4.low hb2
  have r0:=q4.c0
  have r1:=q4.c1
  have r2:=q4.c2
  have r3:=q4.c3
  have u0:=q4.fr 0
  have u1:=q4.fr 1
  have u2:=q4.fr 2
  have u3:=q4.fr 3
  have HA2:=hid hA2
  have HB2:=hid hb2
  clear hA2 hb2
  generalize withT t (t.args.map (PutF d nm u))=y at *
  unfold tv
  go_wp2
  have q5:=B4.set4 q4 (.int .i64 y.kind) (.string y.name) (.int .i64 y.n) (.slice a2 y.args.length c2')
  exact bodyPost_ret (v:=tv y a2 c2') (by simp[results,Tryz.results16,go_sem,tv,q5.c0,q5.c1,q5.c2,q5.c3]) rfl (by rw[E.out];exact TP.stored (R:=w.heap.size+3) HS.out RL.out.hz HA2.out HB2.out (by omega) (by have:=RL.out.size;omega))
theorem three_strs {W w1 w2:World}{lo1 lo2 b3:Nat}{v1 v2:Value}{l1 l2:List ByteArray}{p q:ByteArray}(o1:w1.ownsRow lo1 9 1 v1 l1.length (l1.map Value.string))(h1:l1.length≤4500000000000)(B1:Below w1.heap.size w1 W)(o2:w2.ownsRow lo2 9 1 v2 l2.length (l2.map Value.string))(h2:l2.length≤4500000000000)(B2:Below w2.heap.size w2 W)
  (h3:W.heap[b3]? = some (.cells #[.string p,.string q] 9 (0,0))):∀ (j:Nat) (h:j < [v1,v2,Value.slice (some ⟨b3,0,none⟩) 2 2].length) (h':j < [l1,l2,[p,q]].length),StrsAt (fun b=>b<W.heap.size) W ([v1,v2,Value.slice (some ⟨b3,0,none⟩) 2 2][j]'h) ([l1,l2,[p,q]][j]'h'):=by
 intro j h h'
 match j,h with
 | 0,_=>exact ((StrsAt.of_own o1 h1).keep fun b hb=>B1.block b (o1.lt b hb).2).mono fun b hb=>Nat.lt_of_lt_of_le (o1.lt b hb).2 B1.size
 | 1,_=>exact ((StrsAt.of_own o2 h2).keep fun b hb=>B2.block b (o2.lt b hb).2).mono fun b hb=>Nat.lt_of_lt_of_le (o2.lt b hb).2 B2.size
 | 2,_ =>
  refine⟨_,2,rfl,Nat.le_refl _,by simp,by simp,.inr ⟨b3,0,rfl,(Array.getElem?_eq_some_iff.1 h3).1,fun i hi=>?_⟩⟩
  match i,hi with
  | 0,_=>exact cell_of_row W b3 0 _ _ _ h3
  | 1,_=>exact cell_of_row W b3 1 _ _ _ h3
theorem concat_three {X w1 w2:World}{lo1 lo2 b3 N:Nat}{v1 v2:Value}{l1 l2 L:List ByteArray}{p q:ByteArray}(hL:l1++l2++[p,q]=L)(hN:X.heap.size=N)(o1:w1.ownsRow lo1 9 1 v1 l1.length (l1.map Value.string))(B1:Below w1.heap.size w1 X)(o2:w2.ownsRow lo2 9 1 v2 l2.length (l2.map Value.string))(B2:Below w2.heap.size w2 X)
  (h3:X.heap[b3]? = some (.cells #[.string p,.string q] 9 (0,0))) (hl:l1.length+l2.length+2≤4500000000000) :
  Calls Tryz.prog 37 #[.slice (some ⟨N,0,none⟩) 3 3] (X.alloc (.cells #[v1,v2,.slice (some ⟨b3,0,none⟩) 2 2] 88)) (ConcatPost (X.alloc (.cells #[v1,v2,.slice (some ⟨b3,0,none⟩) 2 2] 88)) L):=by
 subst hN hL
 have ha:=(Below.refl X.heap.size X).alloc (Nat.le_refl _) (.cells #[v1,v2,.slice (some ⟨b3,0,none⟩) 2 2] 88)
 have hs:=three_strs o1 (by omega) (B1.trans (ha.mono B1.size)) o2 (by omega) (B2.trans (ha.mono B2.size)) ((ha.block b3 (Array.getElem?_eq_some_iff.1 h3).1).trans h3)
 have hfl:[l1,l2,[p,q]].flatten=l1++l2++[p,q]:=by simp
 have hb:=heap_alloc_new X (.cells #[v1,v2,.slice (some ⟨b3,0,none⟩) 2 2] 88)
 have:=concat_any (fun b=>b<(X.alloc (.cells #[v1,v2,.slice (some ⟨b3,0,none⟩) 2 2] 88)).heap.size) X.heap.size 0 3 [v1,v2,.slice (some ⟨b3,0,none⟩) 2 2] [l1,l2,[p,q]] _ rfl rfl (by omega) (fun j hj=>by
  rw[Nat.zero_add]
  match j,hj with
  | 0,_=>exact cell_of_row _ _ 0 _ _ _ hb
  | 1,_=>exact cell_of_row _ _ 1 _ _ _ hb
  | 2,_=>exact cell_of_row _ _ 2 _ _ _ hb) (by simp) hs (fun b h=>h) (by rw[hfl];simp;omega) (by rw[hfl];simp;omega)
 rw[hfl] at this
 exact this
def PutTail (S:Nat→Prop)(y:Ty)(w:World)(e:Ending)(W2:World):Prop :=
 ∃ a c,e=.returned (tv y a c)∧ArgsAt (fun b=>S b∨w.heap.size+4≤b∧b<W2.heap.size) W2 (.slice a y.args.length c) y.args∧Below w.heap.size w W2∧B4 W2 (w.heap.size+3) (.int .i64 0) (.string ⟨#[]⟩) (.int .i64 0) (.slice none 0 0)
theorem put_tail (d:Nat)(ih:PutSaid d)(nm fn:ByteArray)(u y:Ty)(S:Nat→Prop)(ua a9:Option Addr)(uc c9:Nat)(k:Int)(s:ByteArray)(m:Int)(sl:Value)(w w9:World)(R:PutMem k s m sl nm u ua uc w w9)(hg:Good y)(hgu:Good u)(h1:1≤fn.size)(h2:fn.size≤64)(hd:y.depth≤d)(hs:y.size≤50000000000)(hsu:u.size≤50000000000)
  (hA:ArgsAt (fun b=>S b∨w.heap.size+4≤b∧b<w9.heap.size) w9 (.slice a9 y.args.length c9) y.args) (hU:ArgsAt S w (.slice ua u.args.length uc) u.args) (hS:∀ b,S b→b<w.heap.size) (hT:Tab w) :
  Calls Tryz.prog 39 #[.agg #[.int .i64 5,.string fn,.int .i64 0,.slice (some ⟨w9.heap.size,0,none⟩) 1 1],.func (.func 40) #[] #[.pointer (some ⟨w.heap.size+1,0,none⟩),.pointer (some ⟨w.heap.size+1+1,0,none⟩)]] (((((w9.alloc (.cells #[.int .i64 y.kind,.string y.name,.int .i64 y.n,.slice a9 y.args.length c9] 30)).setCell ⟨w.heap.size,0,none⟩ (.int .i64 5)).setCell ⟨w.heap.size,1,none⟩ (.string fn)).setCell ⟨w.heap.size,2,none⟩ (.int .i64 0)).setCell ⟨w.heap.size,3,none⟩ (.slice (some ⟨w9.heap.size,0,none⟩) 1 1)) (PutTail S (withT (tAllB fn y) [PutF d nm u y]) w):=by
 have hR:=(R.low ((Below.refl _ _).alloc (Nat.le_refl _) (.cells #[.int .i64 y.kind,.string y.name,.int .i64 y.n,.slice a9 y.args.length c9] 30))).sett 5 fn 0 (.slice (some ⟨w9.heap.size,0,none⟩) 1 1)
 have hs10:=same_set4 (w9.alloc (.cells #[.int .i64 y.kind,.string y.name,.int .i64 y.n,.slice a9 y.args.length c9] 30)) w.heap.size (.int .i64 5) (.string fn) (.int .i64 0) (.slice (some ⟨w9.heap.size,0,none⟩) 1 1)
 generalize (((((w9.alloc (.cells #[.int .i64 y.kind,.string y.name,.int .i64 y.n,.slice a9 y.args.length c9] 30)).setCell ⟨w.heap.size,0,none⟩ (.int .i64 5)).setCell ⟨w.heap.size,1,none⟩ (.string fn)).setCell ⟨w.heap.size,2,none⟩ (.int .i64 0)).setCell ⟨w.heap.size,3,none⟩ (.slice (some ⟨w9.heap.size,0,none⟩) 1 1))=W10 at *
 have hz10:W10.heap.size=w9.heap.size+1:=hs10.size.trans (by simp)
 have hR9:=R.size
 have hA10:ArgsAt (fun b=>S b∨w.heap.size+4≤b∧b<w9.heap.size+1) W10 (.slice (some ⟨w9.heap.size,0,none⟩) 1 1) [y]:=by
  refine args_one (g:=w9.heap.size) ((hs10.off _ (by omega)).trans (heap_alloc_new w9 _)) rfl rfl rfl (.inr ⟨by omega,by omega⟩) ((hA.keep fun b hb2=>?_).mono fun b hb2=>hb2.imp id fun h=>⟨h.1,by omega⟩)
  have hlt:b<w9.heap.size∧b≠w.heap.size:=by
   rcases hb2 with h|h
   ·have:=hS b h;omega
   ·omega
  exact (hs10.off b hlt.2).trans (heap_alloc_old w9 _ hlt.1)
 have hsl:sizeL (tAllB fn y).args=y.size:=by simp[tAllB,Ty.args,sizeL]
 have CW:=put_call d ih nm u (tAllB fn y) (fun b=>S b∨w.heap.size+4≤b∧b<w9.heap.size+1) S (some ⟨w9.heap.size,0,none⟩) ua 1 uc _ _ _ _ w W10 hR (good_all h1 h2 hg) hgu (fun u hu=>by obtain rfl:=List.mem_singleton.1 hu;exact hd) (by rw[hsl];omega) hsu hA10 hU (fun b h=>by
  rcases h with h|h
  ·have:=hS b h;omega
  ·omega) hS (fun b h=>.inl h) hT
 refine CW.mono fun e W2 ⟨a2,c2,he,hA2,hb2⟩=>⟨a2,c2,he,hA2.mono fun b h=>?_,hR.hz.trans (hb2.mono hR.hz.size),hR.q4.low hb2⟩
 have:=hb2.size
 rcases h with (h|h)|h
 ·exact .inl h
 ·exact .inr ⟨h.1,by omega⟩
 ·exact .inr ⟨by omega,h.2⟩
set_option maxRecDepth 100000 in
set_option maxHeartbeats 6400000 in
theorem put_cap (d:Nat)(nm:ByteArray)(u t:Ty)(S:Nat→Prop)(a ua:Option Addr)(c uc:Nat)(w:World)(ih:PutSaid d)(hk:t.kind=5)(hne:t.name≠nm)(hnf:hasN (freeT u) t.name=true)(hg:Good t)(hgu:Good u)(hd:t.depth≤d+1)(hs:t.size≤50000000000)(hsu:u.size≤50000000000)
  (hA:ArgsAt S w (.slice a t.args.length c) t.args) (hU:ArgsAt S w (.slice ua u.args.length uc) u.args) (hS:∀ b,S b→b<w.heap.size) (hT:Tab w):Calls Tryz.prog 16 #[tv t a c,.string nm,tv u ua uc] w (TP S (PutF (d+1) nm u t) w):=by
 obtain⟨x,hx,hx0⟩:=wf_k5 hg.1 hk
 obtain⟨b,off,a0,p0,rfl,hbS,hf4,hs0⟩:=arg0 hA hx
 have hln:t.args.length=1:=by rw[hx];rfl
 have hx1:x∈t.args:=by rw[hx];simp
 have hgx:=good_args hg x hx1
 have hdx:x.depth≤d:=by have:=depth_arg _ hx1;rw[t.depth_eq] at hd;omega
 have hsx:x.size≤50000000000:=by have:=size_arg _ hx1;rw[t.size_eq] at hs;omega
 have hns:=((nm_iff t).1 hg.2).1
 have htn1:1≤t.name.size:=hns.1 hk
 have htn2:t.name.size≤64:=hns.2
 have R:=putMem 5 t.name t.n (.slice (some ⟨b,off,none⟩) 1 c) nm u ua uc w
 have hfx:=freeT_len x
 have hfu:=freeT_len u
 have hfs:=freshT_size t.name (freeT u++freeT x++[t.name,nm]) (by simp;omega) htn1
 have E:=hid (PutF_cap d nm u t x hk hne hnf hx0)
 have z2:=beqN_false hne
 have e0:=cell_of_row _ _ 0 _ _ _ R.hn
 have c0:=R.k4.c0
 have c1:=R.k4.c1
 have c2:=R.k4.c2
 have c3:=R.k4.c3
 have d0:=R.hu.c0
 have d1:=R.hu.c1
 have d2:=R.hu.c2
 have d3:=R.hu.c3
 have hbl:=hS b hbS
 have CFu:=hid (fun (W:World) (h:Below w.heap.size w W)=>free_any u S ua uc W (hU.keep fun b hb=>h.block b (hS b hb)) (fun b hb=>Nat.lt_of_lt_of_le (hS b hb) h.size) (by omega))
 have CFx:=hid (fun (W:World) (h:Below w.heap.size w W)=>free_any x S a0 p0 W (hs0.keep fun b hb=>h.block b (hS b hb)) (fun b hb=>Nat.lt_of_lt_of_le (hS b hb) h.size) (by omega))
 have SK:=hid (fun (W:World) (h:Below ((((w.alloc (.cells #[.int .i64 5,.string t.name,.int .i64 t.n,.slice (some ⟨b,off,none⟩) 1 c] 30)).alloc (.cells #[.string nm] 9)).alloc (.cells #[.int .i64 u.kind,.string u.name,.int .i64 u.n,.slice ua u.args.length uc] 30)).alloc (.cells #[.int .i64 0,.string ⟨#[]⟩,.int .i64 0,.slice none 0 0] 30)).heap.size ((((w.alloc (.cells #[.int .i64 5,.string t.name,.int .i64 t.n,.slice (some ⟨b,off,none⟩) 1 c] 30)).alloc (.cells #[.string nm] 9)).alloc (.cells #[.int .i64 u.kind,.string u.name,.int .i64 u.n,.slice ua u.args.length uc] 30)).alloc (.cells #[.int .i64 0,.string ⟨#[]⟩,.int .i64 0,.slice none 0 0] 30)) W)=>And.intro (R.k4.low h).c0 (And.intro (R.k4.low h).c1 (And.intro (R.hu.low h).c0 (And.intro (R.hu.low h).c1 (And.intro (R.hu.low h).c2 (R.hu.low h).c3)))))
 have SK2:=hid (fun (W:World) (h:Below ((((w.alloc (.cells #[.int .i64 5,.string t.name,.int .i64 t.n,.slice (some ⟨b,off,none⟩) 1 c] 30)).alloc (.cells #[.string nm] 9)).alloc (.cells #[.int .i64 u.kind,.string u.name,.int .i64 u.n,.slice ua u.args.length uc] 30)).alloc (.cells #[.int .i64 0,.string ⟨#[]⟩,.int .i64 0,.slice none 0 0] 30)).heap.size ((((w.alloc (.cells #[.int .i64 5,.string t.name,.int .i64 t.n,.slice (some ⟨b,off,none⟩) 1 c] 30)).alloc (.cells #[.string nm] 9)).alloc (.cells #[.int .i64 u.kind,.string u.name,.int .i64 u.n,.slice ua u.args.length uc] 30)).alloc (.cells #[.int .i64 0,.string ⟨#[]⟩,.int .i64 0,.slice none 0 0] 30)) W)=>And.intro (R.k4.low h).c1 (And.intro (R.k4.low h).c3 (And.intro (R.hu.low h).c0 (And.intro (R.hu.low h).c1 (And.intro (R.hu.low h).c2 (And.intro (R.hu.low h).c3 (And.intro ((h.cell (p:=⟨w.heap.size+1,0,none⟩) (by simp<;>omega)).trans e0)
  (And.intro (((R.low h).hz.cell (p:=⟨b,off,none⟩) hbl).trans hf4.1) (And.intro (((R.low h).hz.cell (p:=⟨b,off+1,none⟩) hbl).trans hf4.2.1) (And.intro (((R.low h).hz.cell (p:=⟨b,off+2,none⟩) hbl).trans hf4.2.2.1) (((R.low h).hz.cell (p:=⟨b,off+3,none⟩) hbl).trans hf4.2.2.2)))))))))))
 have RD:=hid ((Below.refl ((((w.alloc (.cells #[.int .i64 5,.string t.name,.int .i64 t.n,.slice (some ⟨b,off,none⟩) 1 c] 30)).alloc (.cells #[.string nm] 9)).alloc (.cells #[.int .i64 u.kind,.string u.name,.int .i64 u.n,.slice ua u.args.length uc] 30)).alloc (.cells #[.int .i64 0,.string ⟨#[]⟩,.int .i64 0,.slice none 0 0] 30)).heap.size ((((w.alloc (.cells #[.int .i64 5,.string t.name,.int .i64 t.n,.slice (some ⟨b,off,none⟩) 1 c] 30)).alloc (.cells #[.string nm] 9)).alloc (.cells #[.int .i64 u.kind,.string u.name,.int .i64 u.n,.slice ua u.args.length uc] 30)).alloc (.cells #[.int .i64 0,.string ⟨#[]⟩,.int .i64 0,.slice none 0 0] 30))).drew)
 have hLl:(freeT u++freeT x++[t.name,nm]).length≤4500000000000:=by simp;omega
 generalize hL:freeT u++freeT x++[t.name,nm]=L at *
 have HL:=hid hL
 clear hL
 have RH:=hid R
 have HT:=hid hT
 have HS:=hid hS
 have HU:=hid hU
 have HNF:=hid hnf
 have HF4:=hid hf4
 unfold tv at *
 rw[hln,hk]
 clear hg hd hs hA hS hT hx hx0 hln hx1 hf4 R hk hne hnf hns hU
 go_enter Tryz.func16,Tryz.ntmps16
 go_wp2
 go_region_held3 (fun w'=>w'.cell? ⟨w.heap.size,0,none⟩=some (.int .i64 5)∧w'.cell? ⟨w.heap.size,1,none⟩=some (.string t.name)∧w'.cell? ⟨w.heap.size+1+1,0,none⟩=some (.int .i64 u.kind)∧w'.cell? ⟨w.heap.size+1+1,1,none⟩=some (.string u.name)∧w'.cell? ⟨w.heap.size+1+1,2,none⟩=some (.int .i64 u.n)∧w'.cell? ⟨w.heap.size+1+1,3,none⟩=some (.slice ua u.args.length uc))
  (first|exact SK.out _ hB1|exact SK.out _ RD.out)
  (first
   | (go_at_call 35;refine (CFu.out _ RH.out.hz.drew).mono ?_;rintro e w1 ⟨v1,rfl,own1,len1,hb1⟩;have hB1:=RD.out.trans (hb1.mono (by simp));have cc:=hid (contains_any (StrsAt.of_own own1 (by omega)) t.name))
   | (go_at_call 34;refine cc.out.mono ?_;rintro e w2 ⟨rfl,rfl⟩))
 rw[contains_hasN,HNF.out]
 obtain⟨wa,hwa⟩:∃ wa:World,wa=w1:=⟨_,rfl⟩
 subst hwa
 have BA:=hid hB1
 have sk:=SK2.out _ hB1
 obtain⟨s0,s1,s2,s3,s4,s5,s6,s7,s8,s9,s10⟩:=sk
 clear hb1 own1 len1 hB1 cc c0 c1 c2 c3 d0 d1 d2 d3 e0
 go_wp2
 have BD:=hid ((Below.refl wa.heap.size wa).drew)
 have BD2:=hid (((Below.refl wa.heap.size wa).alloc (Nat.le_refl _) (.cells #[.string t.name,.string nm] 9)).drew)
 have KK:=hid (fun (W:World) (h:Below wa.heap.size wa W)=>SK2.out W (BA.out.trans (h.mono BA.out.size)))
 have BW:=hid (fun (W:World) (h:Below wa.heap.size wa W)=>RH.out.hz.trans ((BA.out.trans (h.mono BA.out.size)).mono RH.out.hz.size))
 go_region_held3 (fun w'=>w'.cell? ⟨w.heap.size,1,none⟩=some (.string t.name)∧w'.cell? ⟨w.heap.size,3,none⟩=some (.slice (some ⟨b,off,none⟩) 1 c)∧w'.cell? ⟨w.heap.size+1+1,0,none⟩=some (.int .i64 u.kind)∧w'.cell? ⟨w.heap.size+1+1,1,none⟩=some (.string u.name)∧w'.cell? ⟨w.heap.size+1+1,2,none⟩=some (.int .i64 u.n)∧w'.cell? ⟨w.heap.size+1+1,3,none⟩=some (.slice ua u.args.length uc)∧w'.cell? ⟨w.heap.size+1,0,none⟩=some (.string nm) ∧
   w'.cell? ⟨b,off,none⟩=some (.int .i64 x.kind)∧w'.cell? ⟨b,off+1,none⟩=some (.string x.name)∧w'.cell? ⟨b,off+2,none⟩=some (.int .i64 x.n)∧w'.cell? ⟨b,off+3,none⟩=some (.slice a0 x.args.length p0))
  (first|exact KK.out _ hB4|exact KK.out _ hB3|exact KK.out _ ((hB2.alloc hB2.size _).alloc (hB2.alloc hB2.size _).size _)|exact KK.out _ (hB2.alloc hB2.size _)|exact KK.out _ hB2|exact KK.out _ (hB1.alloc hB1.size _)|exact KK.out _ hB1|exact KK.out _ BD2.out|exact KK.out _ BD.out)
  (first
   | (go_at_call 35;have _t:=own1;(with_reducible refine (CFx.out _ (BW.out _ hB1)).mono ?_);rintro e w2 ⟨v2,rfl,own2,len2,hb2⟩;obtain⟨ya2,yc2,rfl⟩:=own_form own2;have hB2:=hB1.trans (hb2.mono hB1.size);first|(have _u:=tkF;skip)|(have tkL:=True.intro;skip))
   | (go_at_call 35;have _t:=own1;(with_reducible refine (CFx.out _ (BW.out _ (hB1.alloc hB1.size (.cells #[.string t.name,.string nm] 9)))).mono ?_);rintro e w2 ⟨v2,rfl,own2,len2,hb2⟩;obtain⟨ya2,yc2,rfl⟩:=own_form own2;have hB2:=(hB1.alloc hB1.size (.cells #[.string t.name,.string nm] 9)).trans (hb2.mono (hB1.alloc hB1.size (.cells #[.string t.name,.string nm] 9)).size);have tkM:=True.intro)
   | (go_at_call 35;(with_reducible refine (CFu.out _ (BW.out _ BD.out)).mono ?_);rintro e w1 ⟨v1,rfl,own1,len1,hb1⟩;obtain⟨ya1,yc1,rfl⟩:=own_form own1;have hB1:=BD.out.trans (hb1.mono BD.out.size))
   | (go_at_call 35;(with_reducible refine (CFu.out _ (BW.out _ BD2.out)).mono ?_);rintro e w1 ⟨v1,rfl,own1,len1,hb1⟩;obtain⟨ya1,yc1,rfl⟩:=own_form own1;have hB1:=BD2.out.trans (hb1.mono BD2.out.size);have tkF:=True.intro)
   | (go_at_call 37;have _t:=tkF;refine (concat_three HL.out (b3:=wa.heap.size) (N:=w2.heap.size) (p:=t.name) (q:=nm) rfl own1 hb2 own2 (Below.refl _ _) ((hb2.block _ (Nat.lt_of_lt_of_le (by simp) hb1.size)).trans ((hb1.block _ (by simp)).trans (alloc_new (by simp)))) (by omega)).mono ?_;rintro e w3 ⟨v3,rfl,own3,hb3⟩;obtain⟨ya3,yc3,rfl⟩:=own_form own3;have hB3:=(hB2.alloc hB2.size _).trans (hb3.mono (hB2.alloc hB2.size _).size))
   | (go_at_call 37;have _t:=tkM;refine (concat_three HL.out (b3:=w1.heap.size) (N:=w2.heap.size) (p:=t.name) (q:=nm) rfl own1 (((Below.refl w1.heap.size w1).alloc (Nat.le_refl _) _).trans (hb2.mono (by simp))) own2 (Below.refl _ _) ((hb2.block _ (by simp)).trans (heap_alloc_new w1 _)) (by omega)).mono ?_;rintro e w3 ⟨v3,rfl,own3,hb3⟩;obtain⟨ya3,yc3,rfl⟩:=own_form own3;have hB3:=(hB2.alloc hB2.size _).trans (hb3.mono (hB2.alloc hB2.size _).size))
   | (go_at_call 37;have _t:=tkL;refine (concat_three HL.out (b3:=w2.heap.size) (N:=w2.heap.size+1) (p:=t.name) (q:=nm) (by simp) own1 (hb2.alloc hb2.size _) own2 ((Below.refl w2.heap.size w2).alloc (Nat.le_refl _) _) (heap_alloc_new w2 _) (by omega)).mono ?_;rintro e w3 ⟨v3,rfl,own3,hb3⟩;obtain⟨ya3,yc3,rfl⟩:=own_form own3;have hB3:=((hB2.alloc hB2.size _).alloc (hB2.alloc hB2.size _).size _).trans (hb3.mono ((hB2.alloc hB2.size _).alloc (hB2.alloc hB2.size _).size _).size))
   | (go_at_call 36;refine (fresh_any t.name htn1 _ _ L _ (StrsAt.of_own own3 hLl) (fun b hb=>(own3.lt b hb).2) (tab_below HT.out (BW.out _ hB3))).mono ?_;rintro e w4 ⟨rfl,hb4⟩;have hB4:=hB3.trans (hb4.mono hB3.size)))
 all_goals
  have R4:=hid (RH.out.low ((BA.out.trans (hB4.mono BA.out.size))))
  clear hb1 hb2 hb3 hb4 hB1 hB2 hB3 hB4 own1 own2 own3 len1 len2 s0 s1 s2 s3 s4 s5 s6 s7 s8 s9 s10 KK BD BD2 BW BA
  generalize hfn:freshT t.name L=fn at *
  clear hfn
  have RD4:=hid (R4.out.low (Below.refl w4.heap.size w4).drew)
  have KP:=hid (renT_keeps t.name fn x hgx hfs.2 (by omega))
  have CR:=hid (fun (W:World) (h:Below w.heap.size w W)=>ren_any t.name fn x S a0 p0 W hgx (by omega) htn2 hfs.2 (hs0.keep fun b hb=>h.block b (HS.out b hb)) (fun b hb=>Nat.lt_of_lt_of_le (HS.out b hb) h.size) (tab_below HT.out h))
  have CT:=hid (fun (W9:World) (a9:Option Addr) (c9:Nat) (R9:PutMem 5 t.name t.n (.slice (some ⟨b,off,none⟩) 1 c) nm u ua uc w W9) (hA9:ArgsAt (fun b=>S b∨w.heap.size+4≤b∧b<W9.heap.size) W9 (.slice a9 (renT t.name fn x).args.length c9) (renT t.name fn x).args) =>
   put_tail d ih nm fn u (renT t.name fn x) S ua a9 uc c9 _ _ _ _ w W9 R9 KP.out.2.2.1 hgu hfs.1 hfs.2 (by rw[KP.out.1];exact hdx) (by rw[KP.out.2.1];exact hsx) hsu hA9 HU.out HS.out HT.out)
  obtain⟨f0,f1,f2,f3⟩:=HF4.out.keep (RD4.out.hz.block b hbl)
  have d1:=RD4.out.k4.c1
  have d3:=RD4.out.k4.c3
  go_wp2
  go_region_with ((go_at_call 38;refine (CR.out _ RD4.out.hz).mono ?_;rintro e w9 ⟨a9,c9,rfl,hA9,hb9⟩;have R9:=hid (RD4.out.low hb9);have k9:=R9.out.k4;have g0:=k9.c0;have g1:=k9.c1;have g2:=k9.c2;have g3:=k9.c3;have n0:=k9.fr 0;have n1:=k9.fr 1;have n2:=k9.fr 2;have n3:=k9.fr 3;have k10:=k9.low ((Below.refl _ _).alloc (Nat.le_refl _) (.cells #[.int .i64 (renT t.name fn x).kind,.string (renT t.name fn x).name,.int .i64 (renT t.name fn x).n,.slice a9 (renT t.name fn x).args.length c9] 30));have h0:=k10.c0;have h1:=k10.c1;have h2:=k10.c2;have h3:=k10.c3;have m0:=k10.fr 0;have m1:=k10.fr 1;have m2:=k10.fr 2;have m3:=k10.fr 3;have HA9:=hid (hA9.mono fun b h=>h.imp id fun h=>And.intro (Nat.le_trans RD4.out.size h.1) h.2);clear k9 k10 hA9 hb9;unfold tv))
  all_goals
   go_wp2_with fail
   refine (CT.out _ _ _ R9.out HA9.out).mono ?_
   rintro e W2 ⟨a2,c2,rfl,hA2,hb2,q2⟩
   have r0:=q2.c0
   have r1:=q2.c1
   have r2:=q2.c2
   have r3:=q2.c3
   have v0:=q2.fr 0
   have v1:=q2.fr 1
   have v2:=q2.fr 2
   have v3:=q2.fr 3
   have HA2:=hid hA2
   have HB2:=hid hb2
   clear hA2 hb2 g0 g1 g2 g3 h0 h1 h2 h3 n0 n1 n2 n3 m0 m1 m2 m3 f0 f1 f2 f3 d1 d3
   generalize withT (tAllB fn (renT t.name fn x)) [PutF d nm u (renT t.name fn x)]=y at *
   unfold tv
   go_wp2
   have q5:=B4.set4 q2 (.int .i64 y.kind) (.string y.name) (.int .i64 y.n) (.slice a2 y.args.length c2)
   exact bodyPost_ret (v:=tv y a2 c2) (by simp[results,Tryz.results16,go_sem,tv,q5.c0,q5.c1,q5.c2,q5.c3]) rfl (by rw[E.out];exact cap_end HS.out HA2.out HB2.out)
end Go.Proofs.YtkihnodkhnahiaaGreatDoor.Tp

/- Texts laid together: R3N. -/
import Derived.Test.YtofllmemmggapaaGreatDoorP42
import Derived.Test.YtofllmemmggapaaGreatDoorP44
import Derived.Test.YtofllmemmggapaaGreatDoorP40
import Derived.Test.YtofllmemmggapaaGreatDoorP09
import Derived.Deep.QuietTactic
import Derived.Deep.RegionLaw
import Derived.Deep.CutRange

namespace Go.Proofs.YtofllmemmggapaaGreatDoor.Tp
open Go.RowKit
structure RenL (but:List ByteArray)(d k:Nat)(t:Ty)(kd:Int)(s:ByteArray)(nn:Int)(L:List Ty)(k1:Nat):Prop where
 eq:rnF but (d+1) k t=(.mk kd s nn (mapAcc (rnF but d) k1 L).1,(mapAcc (rnF but d) k1 L).2)
 inn:∀ x∈L,Mk x∧x.size≤100000∧x.depth≤d∧RnIn but k1 x
 le:k1+sizeL L*(but.length+1)≤100000000000
theorem ren_other {but:List ByteArray}{d k:Nat}{t:Ty}(h5:t.kind≠5)(hd:t.depth≤d+1)(hm:Mk t)(hs:t.size≤100000)(hin:RnIn but k t)(hB:k+t.size*(but.length+1)≤100000000000):RenL but d k t t.kind t.name t.n t.args k:=by
 refine⟨by rw[rnF,if_neg h5],fun a ha=>?_,?_⟩
 ·have h1:=depth_arg _ ha
  have h2:=size_arg _ ha
  rw[t.depth_eq] at hd
  rw[t.size_eq] at hs
  exact⟨mk_args hm a ha,by omega,by omega,fun x hx=>hin x ((fvT_iff x t).2 (.inr ⟨⟨a,ha,hx⟩,fun e=>h5 e.1⟩))⟩
 ·rw[t.size_eq,Nat.add_mul] at hB;omega
theorem ren_all {but:List ByteArray}{d k:Nat}{t:Ty}(h5:t.kind=5)(hd:t.depth≤d+1)(hm:Mk t)(hs:t.size≤100000)(hin:RnIn but k t)(hB:k+t.size*(but.length+1)≤100000000000) :
  ∃ b m,t.args=[b]∧Mk b∧b.size≤100000∧k≤m∧m≤100000000000∧hasN but (zn m)=false∧(∀ j,k≤j→j<m→hasN but (zn j)=true)∧LexN (zn m)∧RenL but d k t 5 (zn m) 0 [rPutT t.name (vrT (zn m)) b] (m+1):=by
 obtain⟨b,hb,hb0⟩:=std_k5 hm.1 h5
 have hbm:b∈t.args:=by rw[hb];simp
 have hmb:=mk_args hm b hbm
 have hsp:=firstN_spec zn (fun _ _=>lname_inj) but k
 obtain⟨m,hm0⟩:∃ m,nx zn but k=m:=⟨_,rfl⟩
 rw[show firstN zn but (but.length+1) k=m from hm0] at hsp
 have hts:t.size=b.size+1:=by rw[t.size_eq,hb];simp[sizeL]
 rw[hts,Nat.add_mul] at hB
 have hx:LexN (zn m):=zn_lex m (by omega)
 have hmv:Mk (vrT (zn m)):=vr_mk hx
 have hbs:b.size≤200000:=by omega
 have hvs:(vrT (zn m)).size≤200000:=by show 1≤200000;omega
 have hmk:=rPut_mk2 t.name (vrT (zn m)) b hmb hmv hbs hvs
 have hsame:=rPut_same t.name (vrT (zn m)) b hmb hmv hbs hvs
 have hdb:b.depth≤d:=by have h1:=depth_arg _ hbm;rw[t.depth_eq] at hd;omega
 have hdep:(rPutT t.name (vrT (zn m)) b).depth≤d:=by
  have h1:=PutT_depth t.name (vrT (zn m)) b hmb.1 hmv.1
  have e2:(vrT (zn m)).depth=1:=rfl
  rw[← depth_db _ hmk.1 [],hsame [],depth_db _ (PutT_std t.name (vrT (zn m)) b hmb.1 hmv.1) []]
  omega
 have hsz:(rPutT t.name (vrT (zn m)) b).size≤b.size:=by
  rw[← size_db _ hmk.1 [],rPut_db2 t.name (vrT (zn m)) b hmb hbs hvs,sb_sv]
  have:=sv_size (fun x=>if eqN x t.name then some (dbT [] (vrT (zn m))) else none) 1 (Nat.le_refl _) (fun x u hu=>by
   split at hu
   ·injection hu with hu;rw[← hu];exact Nat.le_refl _
   ·cases hu) (dbT [] b)
  rw[size_db b hmb.1 [],Nat.mul_one] at this
  exact this
 have hin2:RnIn but (m+1) (rPutT t.name (vrT (zn m)) b):=fun x h=>by
  have hv:=(vn_db x _ [] hmk.1).2 ⟨h,by simp⟩
  rw[hsame []] at hv
  have hv2:=((vn_db x _ [] (PutT_std t.name (vrT (zn m)) b hmb.1 hmv.1)).1 hv).1
  rcases put_name_fv x _ _ b hmb.1 hv2 with h|h
  ·exact .inr ⟨m,by omega,h⟩
  ·rcases hin x ((fvT_iff x t).2 (.inr ⟨⟨b,hbm,h.1⟩,fun e=>h.2 e.2.symm⟩)) with h|⟨j,hj,e⟩
   ·exact .inl h
   ·exact .inr ⟨j,by have:=hsp.1;omega,e⟩
 have hmul:(rPutT t.name (vrT (zn m)) b).size*(but.length+1)≤b.size*(but.length+1):=Nat.mul_le_mul_right _ hsz
 have h2:=hsp.2.1
 refine⟨b,m,hb,hmb,by omega,hsp.1,by omega,hsp.2.2.2,fun j h1 h2=>hsp.2.2.1 j h1 h2,hx,?_,fun a ha=>?_,?_⟩
 ·rw[rnF,if_pos h5,hm0,hb0]
 ·obtain rfl:=List.mem_singleton.1 ha
  exact⟨hmk,by omega,hdep,hin2⟩
 ·show m+1+sizeL [rPutT t.name (vrT (zn m)) b]*(but.length+1)≤_
  simp only[sizeL,Nat.add_zero]
  omega
theorem zn_eq (j:Nat):(⟨#[122]⟩++bytes (Lib.decDigits j):ByteArray)=zn j:=by unfold zn lname;rfl
def RnSaid (but:List ByteArray)(d:Nat):Prop:=∀ (t:Ty) (a:Option Addr) (c:Nat) (w:World) (vb:Value) (k:Nat),AtW t a c w→Mk t→t.size≤100000→t.depth≤d→StrsLow w vb but→RnIn but k t→k+t.size*(but.length+1)≤100000000000 →
  Calls Tryz.prog 31 #[tv t a c,vb,.int .i64 (k:Int)] w (RNumPost w (rnF but d k t))
def RenCut (w:World)(kd:Int)(s:ByteArray)(nn:Int)(L:List Ty)(k1:Nat)(kv:Value)(wx:World):Prop:=∃ ao co,kv=.int .i64 (k1:Int)∧R4 wx (w.heap.size+1) (.int .i64 0) (.string ⟨#[]⟩) (.int .i64 0) (.slice none 0 0) ∧
 R4 wx (w.heap.size+1+1) (.int .i64 kd) (.string s) (.int .i64 nn) (.slice ao L.length co)∧ArgsAt (Lt wx.heap.size) wx (.slice ao L.length co) L∧Below w.heap.size w wx
theorem RenCut.mk {w:World}{kd:Int}{s:ByteArray}{nn:Int}{L:List Ty}{k1:Nat}{ao:Option Addr}{co:Nat}{wx:World}(h1:R4 wx (w.heap.size+1) (.int .i64 0) (.string ⟨#[]⟩) (.int .i64 0) (.slice none 0 0))
  (h2:R4 wx (w.heap.size+1+1) (.int .i64 kd) (.string s) (.int .i64 nn) (.slice ao L.length co)) (h3:ArgsAt (Lt wx.heap.size) wx (.slice ao L.length co) L) (h4:Below w.heap.size w wx):RenCut w kd s nn L k1 (.int .i64 (k1:Int)) wx:=⟨ao,co,rfl,h1,h2,h3,h4⟩
theorem RenCut.one {w w3:World}{y:Ty}{a4:Option Addr}{c4:Nat}{s:ByteArray}{k1:Nat}{kv:Value}{q0 q1 q2 q3:Value}(hkv:kv=.int .i64 (k1:Int))(hk:R4 w3 (w.heap.size+1) (.int .i64 0) (.string ⟨#[]⟩) (.int .i64 0) (.slice none 0 0))(ho:R4 w3 (w.heap.size+1+1) q0 q1 q2 q3)(hA:ArgsAt (fun b=>b<w3.heap.size∧b≠w.heap.size+1+1) w3 (.slice a4 y.args.length c4) y.args)(hb:Below w.heap.size w w3) :
  RenCut w 5 s 0 [y] k1 kv (((((w3.alloc (.cells #[.int .i64 y.kind,.string y.name,.int .i64 y.n,.slice a4 y.args.length c4] 29)).setCell ⟨w.heap.size+1+1,0,none⟩ (.int .i64 5)).setCell ⟨w.heap.size+1+1,1,none⟩ (.string s)).setCell ⟨w.heap.size+1+1,2,none⟩ (.int .i64 0)).setCell ⟨w.heap.size+1+1,3,none⟩ (.slice (some ⟨w3.heap.size,0,none⟩) 1 1)):=by
 have hz:Below w3.heap.size w3 (w3.alloc (.cells #[.int .i64 y.kind,.string y.name,.int .i64 y.n,.slice a4 y.args.length c4] 29)):=(Below.refl _ _).alloc (Nat.le_refl _) _
 have hx:=heap_alloc_new w3 (.cells #[.int .i64 y.kind,.string y.name,.int .i64 y.n,.slice a4 y.args.length c4] 29)
 have hA2:=hA.keep (B:=w3.alloc (.cells #[.int .i64 y.kind,.string y.name,.int .i64 y.n,.slice a4 y.args.length c4] 29)) fun b hb=>hz.block b hb.1
 have hk2:=hk.low hz
 have ho2:=ho.low hz
 have hb2:=hb.alloc hb.size (.cells #[.int .i64 y.kind,.string y.name,.int .i64 y.n,.slice a4 y.args.length c4] 29)
 have hl:=ho.lt
 have e0:(w3.alloc (.cells #[.int .i64 y.kind,.string y.name,.int .i64 y.n,.slice a4 y.args.length c4] 29)).heap.size=w3.heap.size+1:=by simp
 generalize w3.alloc (.cells #[.int .i64 y.kind,.string y.name,.int .i64 y.n,.slice a4 y.args.length c4] 29)=w5 at *
 obtain⟨W,hW⟩:∃ W,(((w5.setCell ⟨w.heap.size+1+1,0,none⟩ (.int .i64 5)).setCell ⟨w.heap.size+1+1,1,none⟩ (.string s)).setCell ⟨w.heap.size+1+1,2,none⟩ (.int .i64 0)).setCell ⟨w.heap.size+1+1,3,none⟩ (.slice (some ⟨w3.heap.size,0,none⟩) 1 1)=W:=⟨_,rfl⟩
 have k:∀ b,b≠w.heap.size+1+1→W.heap[b]? = w5.heap[b]? := fun b hb=>by rw[← hW,Below.heap_setCell _ _ _ _ hb,Below.heap_setCell _ _ _ _ hb,Below.heap_setCell _ _ _ _ hb,Below.heap_setCell _ _ _ _ hb]
 have e:W.heap.size=w5.heap.size:=by rw[← hW];simp
 have o4:=ho2.set4 (.int .i64 5) (.string s) (.int .i64 0) (.slice (some ⟨w3.heap.size,0,none⟩) 1 1)
 have hb4:=hb2.set4 (b:=w.heap.size+1+1) (by omega) (.int .i64 5) (.string s) (.int .i64 0) (.slice (some ⟨w3.heap.size,0,none⟩) 1 1)
 rw[hW] at o4 hb4 ⊢
 refine⟨some ⟨w3.heap.size,0,none⟩,1,hkv,(k _ (by omega)).trans hk2,o4,rargs_one ((k _ (by omega)).trans hx) (by show _<W.heap.size;omega) ((hA2.keep fun b hb=>k b hb.2).mono fun b hb=>by have:=hb.1;show b<W.heap.size;omega),hb4⟩
set_option maxRecDepth 100000 in
set_option maxHeartbeats 6400000 in
theorem rren_any (but:List ByteArray):∀ d:Nat,RnSaid but d:=by
 intro d
 induction d with
 | zero =>
  intro t a c w vb k _ _ _ h
  rw[t.depth_eq] at h;omega
 | succ d ih =>
  intro t a c w vb k hA hm hs hd hvb hin hB
  have hz:Below w.heap.size w (((w.alloc (.cells #[.int .i64 t.kind,.string t.name,.int .i64 t.n,.slice a t.args.length c] 29)).alloc (.cells #[.int .i64 0,.string ⟨#[]⟩,.int .i64 0,.slice none 0 0] 29)).alloc (.cells #[.int .i64 t.kind,.string t.name,.int .i64 t.n,.slice a t.args.length c] 29)):=(((Below.refl _ _).alloc (Nat.le_refl _) _).alloc (by simp) _).alloc (by simp;omega) _
  have q0:=R4.new w (.int .i64 t.kind) (.string t.name) (.int .i64 t.n) (.slice a t.args.length c)
  have q1:=R4.new (w.alloc (.cells #[.int .i64 t.kind,.string t.name,.int .i64 t.n,.slice a t.args.length c] 29)) (.int .i64 0) (.string ⟨#[]⟩) (.int .i64 0) (.slice none 0 0)
  have q2:=R4.new ((w.alloc (.cells #[.int .i64 t.kind,.string t.name,.int .i64 t.n,.slice a t.args.length c] 29)).alloc (.cells #[.int .i64 0,.string ⟨#[]⟩,.int .i64 0,.slice none 0 0] 29)) (.int .i64 t.kind) (.string t.name) (.int .i64 t.n) (.slice a t.args.length c)
  rw[show (w.alloc (.cells #[.int .i64 t.kind,.string t.name,.int .i64 t.n,.slice a t.args.length c] 29)).heap.size=w.heap.size+1 from by simp] at q1
  rw[show ((w.alloc (.cells #[.int .i64 t.kind,.string t.name,.int .i64 t.n,.slice a t.args.length c] 29)).alloc (.cells #[.int .i64 0,.string ⟨#[]⟩,.int .i64 0,.slice none 0 0] 29)).heap.size=w.heap.size+1+1 from by simp] at q2
  have z1:Below (w.alloc (.cells #[.int .i64 t.kind,.string t.name,.int .i64 t.n,.slice a t.args.length c] 29)).heap.size (w.alloc (.cells #[.int .i64 t.kind,.string t.name,.int .i64 t.n,.slice a t.args.length c] 29)) ((w.alloc (.cells #[.int .i64 t.kind,.string t.name,.int .i64 t.n,.slice a t.args.length c] 29)).alloc (.cells #[.int .i64 0,.string ⟨#[]⟩,.int .i64 0,.slice none 0 0] 29)):=(Below.refl _ _).alloc (Nat.le_refl _) _
  have z2:Below ((w.alloc (.cells #[.int .i64 t.kind,.string t.name,.int .i64 t.n,.slice a t.args.length c] 29)).alloc (.cells #[.int .i64 0,.string ⟨#[]⟩,.int .i64 0,.slice none 0 0] 29)).heap.size ((w.alloc (.cells #[.int .i64 t.kind,.string t.name,.int .i64 t.n,.slice a t.args.length c] 29)).alloc (.cells #[.int .i64 0,.string ⟨#[]⟩,.int .i64 0,.slice none 0 0] 29)) (((w.alloc (.cells #[.int .i64 t.kind,.string t.name,.int .i64 t.n,.slice a t.args.length c] 29)).alloc (.cells #[.int .i64 0,.string ⟨#[]⟩,.int .i64 0,.slice none 0 0] 29)).alloc (.cells #[.int .i64 t.kind,.string t.name,.int .i64 t.n,.slice a t.args.length c] 29)):=(Below.refl _ _).alloc (Nat.le_refl _) _
  have kt:=(q0.low z1).low z2
  have kr:=q1.low z2
  have A2:ArgsAt (Lt w.heap.size) (((w.alloc (.cells #[.int .i64 t.kind,.string t.name,.int .i64 t.n,.slice a t.args.length c] 29)).alloc (.cells #[.int .i64 0,.string ⟨#[]⟩,.int .i64 0,.slice none 0 0] 29)).alloc (.cells #[.int .i64 t.kind,.string t.name,.int .i64 t.n,.slice a t.args.length c] 29)) (.slice a t.args.length c) t.args:=hA.keep fun b hb=>hz.block b hb
  have t00:=(q0.low z1).c0
  have t01:=(q0.low z1).c1
  have t02:=(q0.low z1).c2
  have t03:=(q0.low z1).c3
  have s00:=q0.c0
  have s01:=q0.c1
  have s02:=q0.c2
  have s03:=q0.c3
  have c0:=kt.c0
  have AT:=hid A2
  have HZ:=hid hz
  have KT:=hid kt
  have KR:=hid kr
  have KO:=hid q2
  have VB:=hid hvb
  have IH:=hid ih
  have N2:Hid ((((w.alloc (.cells #[.int .i64 t.kind,.string t.name,.int .i64 t.n,.slice a t.args.length c] 29)).alloc (.cells #[.int .i64 0,.string ⟨#[]⟩,.int .i64 0,.slice none 0 0] 29)).alloc (.cells #[.int .i64 t.kind,.string t.name,.int .i64 t.n,.slice a t.args.length c] 29)).heap.size=w.heap.size+3):=hid (by simp)
  obtain⟨kd,s,nn,L,k1,hL,hcase⟩:∃ kd s nn L k1,RenL but d k t kd s nn L k1∧((t.kind≠5∧kd=t.kind∧s=t.name∧nn=t.n∧L=t.args∧k1=k) ∨
    (t.kind=5∧∃ b m,t.args=[b]∧Mk b∧b.size≤100000∧k≤m∧m≤100000000000∧hasN but (zn m)=false∧(∀ j,k≤j→j<m→hasN but (zn j)=true)∧LexN (zn m)∧kd=5∧s=zn m∧nn=0∧L=[rPutT t.name (vrT (zn m)) b]∧k1=m+1)):=by
   by_cases h5:t.kind=5
   ·obtain⟨b,m,r1,r2,r3,r4,r5,r6,r7,r8,r9⟩:=ren_all h5 hd hm hs hin hB
    exact⟨_,_,_,_,_,r9,.inr ⟨h5,b,m,r1,r2,r3,r4,r5,r6,r7,r8,rfl,rfl,rfl,rfl,rfl⟩⟩
   ·exact⟨_,_,_,_,_,ren_other h5 hd hm hs hin hB,.inl ⟨h5,rfl,rfl,rfl,rfl,rfl⟩⟩
  have HL:=hid hL
  have CASE:=hid hcase
  clear hA hm hs hd hvb hin hB hz q0 q1 q2 z1 z2 kt kr A2 ih hL hcase
  unfold tv
  go_enter Tryz.func31,Tryz.ntmps31
  go_upto_if 18 with (fail)
  go_cut [2] from 15 to 49 (fun kv wx=>RenCut w kd s nn L k1 kv wx)
  case first =>
   clear s00 s01 s02 s03 t00 t01 t02 t03
   rcases CASE.out with ⟨h5,rfl,rfl,rfl,rfl,rfl⟩|⟨h5,b0,m,hb,hmb,hbs,hkm,hml,hno,hyes,hlx,rfl,rfl,rfl,rfl,rfl⟩
   ·have e5:(t.kind==5)=false:=by rw[beq_eq_false_iff_ne];exact h5
    have FF:Hid (RenCut w t.kind t.name t.n t.args k1 (.int .i64 (k1:Int)) (((w.alloc (.cells #[.int .i64 t.kind,.string t.name,.int .i64 t.n,.slice a t.args.length c] 29)).alloc (.cells #[.int .i64 0,.string ⟨#[]⟩,.int .i64 0,.slice none 0 0] 29)).alloc (.cells #[.int .i64 t.kind,.string t.name,.int .i64 t.n,.slice a t.args.length c] 29))):=hid (.mk KR.out KO.out (AT.out.mono fun b (hb:b < _)=>(by show b < _;rw[N2.out];omega)) HZ.out)
    clear h5
    go_wp2_with fail
    go_meet
    exact FF.out
   ·have e5:(t.kind==5)=true:=by rw[h5];rfl
    have AB:Hid (∃ b off a' cap',a=some ⟨b,off,none⟩∧b<w.heap.size∧Four (((w.alloc (.cells #[.int .i64 t.kind,.string t.name,.int .i64 t.n,.slice a t.args.length c] 29)).alloc (.cells #[.int .i64 0,.string ⟨#[]⟩,.int .i64 0,.slice none 0 0] 29)).alloc (.cells #[.int .i64 t.kind,.string t.name,.int .i64 t.n,.slice a t.args.length c] 29)) b off (.int .i64 b0.kind) (.string b0.name) (.int .i64 b0.n) (.slice a' b0.args.length cap')∧ArgsAt (Lt w.heap.size) (((w.alloc (.cells #[.int .i64 t.kind,.string t.name,.int .i64 t.n,.slice a t.args.length c] 29)).alloc (.cells #[.int .i64 0,.string ⟨#[]⟩,.int .i64 0,.slice none 0 0] 29)).alloc (.cells #[.int .i64 t.kind,.string t.name,.int .i64 t.n,.slice a t.args.length c] 29)) (.slice a' b0.args.length cap') b0.args):=hid (by
     obtain⟨b,off,a',c',e1,e2,e3,e4⟩:=AT.out.at_ (i:=0) (by rw[hb];simp)
     have hx0:t.args[0]'(by rw[hb];simp)=b0:=by simp[hb]
     rw[hx0] at e3 e4
     rw[Nat.zero_mul,Nat.add_zero] at e3
     exact⟨b,off,a',c',e1,e2,e3,e4⟩)
    have HMB:=hid hmb
    have HYES:=hid hyes
    have HNO:=hid hno
    have HLX:=hid hlx
    have hml2:m≤100000000000:=hml
    have hl1:(t.args.length:Int)=1:=by rw[hb];rfl
    have DS:∀ j:Nat,j≤100000000000→(bytes (Lib.decDigits j)).size≤100:=fun j hj=>by
     have:=(dec_digits j).2.2.2 18 (by omega) (show j<10 ^ 18 by omega)
     rw[bytes_size];omega
    have DSH:=hid DS
    have DC:=hid (fun (j:Nat) (hj:j≤100000000000) (W:World)=>decimal_any j (by omega) W)
    have CH:=hid (fun (j:Nat) (W:World) (h:Below w.heap.size w W)=>(by rw[zn_eq j];exact has_any _ vb but (zn j) W (VB.out.low h):Calls Tryz.prog 24 #[vb,.string (⟨#[122]⟩++bytes (Lib.decDigits j))] W fun e w'=>e=.returned (.bool (hasN but (zn j)))∧W=w'))
    have hdk:=DS k (by omega)
    clear h5 hb hmb hyes hno hlx DS hml
    go_wp2_with fail
    clear c0
    generalize ((w.alloc (.cells #[.int .i64 t.kind,.string t.name,.int .i64 t.n,.slice a t.args.length c] 29)).alloc (.cells #[.int .i64 0,.string ⟨#[]⟩,.int .i64 0,.slice none 0 0] 29)).alloc (.cells #[.int .i64 t.kind,.string t.name,.int .i64 t.n,.slice a t.args.length c] 29)=W5 at *
    refine (DC.out k (by omega) _).mono ?_
    rintro e w1 ⟨rfl,hb1⟩
    have B1:=hid hb1
    have CH1:=hid (CH.out k w1 (HZ.out.trans (hb1.mono HZ.out.size)))
    clear hb1
    go_wp2_with fail
    refine CH1.out.mono ?_
    rintro e w1' ⟨rfl,rfl⟩
    go_wp2
    go_loopw [2,9] (fun kv bv wr=>∃ j:Nat,kv=.int .i64 j∧bv=.bool (hasN but (zn j))∧k≤j∧j≤m∧Below W5.heap.size W5 wr) (fun kv _ _=>m+1 - (intOf kv).toNat)
    case atStart=>exact⟨k,rfl,rfl,Nat.le_refl _,hkm,B1.out⟩
    case round =>
     clear B1 CH1 hdk
     obtain⟨j,rfl,rfl,hkj,hjn,hB⟩:=hrel
     have BH:=hid hB
     cases hh:hasN but (zn j) with
     | true =>
      have hlt:j<m:=by
       rcases Nat.lt_or_ge j m with h|h
       ·exact h
       ·obtain rfl:j=m:=by omega
        rw[HNO.out] at hh;cases hh
      have hds:=DSH.out (j+1) (by omega)
      have D1:Hid (Calls Tryz.prog 39 #[.int .i64 ((j:Int)+1)] wr (StrPost wr (Lib.decDigits (j+1)))):=hid (DC.out (j+1) (by omega) wr)
      clear hB hh
      go_wp2_with fail
      refine D1.out.mono ?_
      rintro e w2 ⟨rfl,hb2⟩
      have B2:=hid (BH.out.trans (hb2.mono BH.out.size))
      have CH2:=hid (CH.out (j+1) w2 (HZ.out.trans (B2.out.mono HZ.out.size)))
      clear hb2
      go_wp2_with fail
      refine CH2.out.mono ?_
      rintro e w2' ⟨rfl,rfl⟩
      go_wp2
      go_roundw
      case rel=>exact⟨j+1,by go_num,rfl,by omega,by omega,B2.out⟩
      case measure=>simp[intOf];omega
     | false =>
      obtain rfl:j=m:=by
       rcases Nat.lt_or_ge j m with h|h
       ·have:=HYES.out j hkj h
        rw[this] at hh;cases hh
       ·omega
      have hds:=DSH.out j hml2
      have D1:=hid (DC.out j hml2 wr)
      clear hB hh
      go_wp2_with fail
      refine D1.out.mono ?_
      rintro e w2 ⟨rfl,hb2⟩
      have B2h:=BH.out.trans (hb2.mono BH.out.size)
      have B2:=hid B2h
      have BZ:=hid (HZ.out.trans (B2h.mono HZ.out.size))
      have kt2:=KT.out.low B2h
      have KR2:=hid (KR.out.low B2h)
      have ko2:=KO.out.low B2h
      have KO2:=hid ko2
      have t1:=kt2.c1
      have t3:=kt2.c3
      obtain⟨b,off,a',c',rfl,hbS,hf,hsA⟩:=AB.out
      obtain⟨f0,f1,f2,f3⟩:=hf.keep (B2h.block b (Nat.lt_of_lt_of_le hbS (by rw[N2.out];omega)))
      have hbd:=B2h.drew
      have CP:Hid (Calls Tryz.prog 40 #[.agg #[.int .i64 b0.kind,.string b0.name,.int .i64 b0.n,.slice a' b0.args.length c'],.string t.name,.agg #[.int .i64 1,.string (zn j),.int .i64 0,.slice none 0 0]] w2.drew (TP (fun _=>False) (rPutT t.name (vrT (zn j)) b0) w2.drew)) :=
       hid (rPut_s (fun _=>False) t.name (vrT (zn j)) b0 a' none c' 0 w2.drew ((hsA.keep fun b hb=>hbd.block b (Nat.lt_of_lt_of_le hb (by rw[N2.out];omega))).mono fun b (hb:b < _)=>Nat.lt_of_lt_of_le hb (Nat.le_trans (by rw[N2.out];omega) hbd.size)) (.nil _ _) (fun _ h=>h.elim) HMB.out (vr_mk HLX.out).1 (by omega) (by show 1≤200000;omega))
      have hq2:=ko2.lt
      have HQ:Hid (∀ (w4:World) (b:Nat),New (fun _=>False) w2.drew w4 b→b<w4.heap.size∧b≠w.heap.size+1+1):=hid (fun w4 b h=>h.elim False.elim (fun h=>⟨h.2,by have h1:=h.1;simp at h1;omega⟩))
      clear hb2 D1 hf hsA hbS B2h kt2 ko2 hbd
      go_upto_region 9 with fail
      rw[zn_eq j]
      clear hds
      generalize zn j=zj at *
      generalize rPutT t.name (vrT zj) b0=y at *
      go_region_law (first
       | (go_simp;go_at_call 40;(with_reducible refine CP.out.mono ?_);rintro e w4 ⟨a4,c4,rfl,hA4,hB4⟩;unfold tv;have hb4:Below w2.heap.size w2 w4:=(Below.refl _ _).drew.trans hB4;have k4:=KO2.out.low hb4;have p0:=k4.c0;have p1:=k4.c1;have p2:=k4.c2;have p3:=k4.c3;have g0:=k4.fr 0;have g1:=k4.fr 1;have g2:=k4.fr 2;have g3:=k4.fr 3;have hz4:Below w4.heap.size w4 (w4.alloc (.cells #[.int .i64 y.kind,.string y.name,.int .i64 y.n,.slice a4 y.args.length c4] 29)):=(Below.refl _ _).alloc (Nat.le_refl _) _;have k5:=k4.low hz4;have p4:=k5.c0;have p5:=k5.c1;have p6:=k5.c2;have p7:=k5.c3;have g4:=k5.fr 0;have g5:=k5.fr 1;have g6:=k5.fr 2;have g7:=k5.fr 3;have HB4:=hid hb4;have HA4:=hid hA4;clear hA4 hB4 hb4 k4 k5 hz4))
      all_goals
       go_wp2_with fail
       go_meet
       exact RenCut.one (by simp) (KR2.out.low HB4.out) (KO2.out.low HB4.out) (HA4.out.mono fun b hb=>HQ.out w4 b hb) (BZ.out.trans (HB4.out.mono BZ.out.size))
  clear KT KR KO c0 s00 s01 s02 s03 t00 t01 t02 t03 AT CASE HZ N2
  obtain⟨ao,co,rfl,kr,ko,hAL,hBW⟩:=hcut
  have o0:=ko.c0
  have o1:=ko.c1
  have o2:=ko.c2
  have hz:Below wc.heap.size wc (wc.alloc (.cells #[.int .i64 kd,.string s,.int .i64 nn,.slice none 0 0] 29)):=(Below.refl _ _).alloc (Nat.le_refl _) _
  have KR5:=hid (kr.low hz)
  have KO5:=hid (ko.low hz)
  have AL5:=hid (hAL.keep fun b hb=>hz.block b hb)
  have BW5:=hid (hBW.alloc hBW.size (.cells #[.int .i64 kd,.string s,.int .i64 nn,.slice none 0 0] 29))
  have N5:Hid ((wc.alloc (.cells #[.int .i64 kd,.string s,.int .i64 nn,.slice none 0 0] 29)).heap.size=wc.heap.size+1∧w.heap.size+1+1<wc.heap.size):=hid ⟨by simp,ko.lt⟩
  have VB5:Hid (StrsNo wc.heap.size (wc.alloc (.cells #[.int .i64 kd,.string s,.int .i64 nn,.slice none 0 0] 29)) vb but):=hid (StrsNo.of_low (VB.out) (hBW.alloc hBW.size (.cells #[.int .i64 kd,.string s,.int .i64 nn,.slice none 0 0] 29)) hBW.size)
  have I5:Hid (PutInv noS wc.heap.size (wc.alloc (.cells #[.int .i64 kd,.string s,.int .i64 nn,.slice none 0 0] 29)).heap.size (wc.alloc (.cells #[.int .i64 kd,.string s,.int .i64 nn,.slice none 0 0] 29)) (wc.alloc (.cells #[.int .i64 kd,.string s,.int .i64 nn,.slice none 0 0] 29)) kd s nn (.slice none 0 0) [] []):=hid ⟨R4.new _ _ _ _ _,.nil _ _ _,.refl _ _ _⟩
  have hll:L.length≤9223372036854775807:=by
   obtain⟨_,_,_,h⟩:=hAL.form
   exact h
  clear kr ko hAL hBW hz
  go_wp2
  clear o0 o1 o2
  generalize wc.alloc (.cells #[.int .i64 kd,.string s,.int .i64 nn,.slice none 0 0] 29)=W5 at *
  go_loopw [2,12] (fun kv iv wr=>∃ (i kk:Nat) (v:Value) (acc:List Ty) (svs:List Value),kv=.int .i64 kk∧iv=.int .i64 i∧i≤L.length∧mapAcc (rnF but d) k1 (L.take i)=(acc,kk)∧PutInv noS wc.heap.size W5.heap.size W5 wr kd s nn v acc svs) (fun _ iv _=>L.length - (intOf iv).toNat)
  case atStart=>exact⟨0,_,_,_,_,rfl,rfl,Nat.zero_le _,by simp[mapAcc],I5.out⟩
  case round =>
   obtain⟨i,kk,v,acc,svs,rfl,rfl,hil,hcn,hI⟩:=hrel
   have z0:(0:Int)≤(i:Int):=by omega
   have n5:=N5.out
   have hws:W5.heap.size≤wr.heap.size:=hI.kp.size
   have kro:R4 wr (w.heap.size+1+1) (.int .i64 kd) (.string s) (.int .i64 nn) (.slice ao L.length co):=(hI.kept (by omega) (by omega)).trans KO5.out
   have kr:R4 wr (w.heap.size+1) (.int .i64 0) (.string ⟨#[]⟩) (.int .i64 0) (.slice none 0 0):=(hI.kept (by omega) (by omega)).trans KR5.out
   have ko:=hI.ko
   have hBw:Below w.heap.size w wr:=((Kp.of_below BW5.out).trans (hI.kp.mono (n:=w.heap.size) (T':=fun _=>False) (by omega) (fun b hb e=>by omega)) (Nat.le_refl _) (fun _ _ e=>e)).to_below
   have hRL:=rn_list but (rnF but d) 100000000000 (L.take i) k1 (fun x hx k' hin' hB'=>by
    obtain⟨h1,h2,h3,_⟩:=HL.out.inn x (List.mem_of_mem_take hx)
    exact rn_ok but d k' x h3 h1 h2 hin' hB') (fun x hx=>(HL.out.inn x (List.mem_of_mem_take hx)).2.2.2) (by
    have h1:sizeL (L.take i)*(but.length+1)≤sizeL L*(but.length+1):=Nat.mul_le_mul_right _ (sizeL_take_le L i)
    have:=HL.out.le;omega)
   rw[hcn] at hRL
   have hhi:=hRL.hi
   have hlo:=hRL.lo
   have hln:=hRL.len
   simp only at hhi hlo hln
   have KO:=hid ko
   have KR:=hid kr
   have HI:=hid hI
   have BW:=hid hBw
   have t3:=kro.c3
   by_cases hi:i<L.length
   ·have z1:(i:Int)<(L.length:Int):=by omega
    obtain⟨b,off,a',cap',rfl,hb,hf,hs⟩:=AL5.out.at_ hi
    have hbk:wr.heap[b]? = W5.heap[b]? := hI.kept (by have:b<wc.heap.size:=hb;omega) (by have:b<wc.heap.size:=hb;omega)
    obtain⟨f0,f1,f2,f3⟩:=hf.keep hbk
    have hm:=List.getElem_mem hi
    obtain⟨m1,m2,m3,m4⟩:=HL.out.inn _ hm
    have hsx:=sizeL_take L i hi
    have hsy:=sizeL_take_le L (i+1)
    have hbd:kk+L[i].size*(but.length+1)≤100000000000:=by
     have h1:(sizeL (L.take i)+L[i].size)*(but.length+1)≤sizeL L*(but.length+1):=Nat.mul_le_mul_right _ (by omega)
     rw[Nat.add_mul] at h1
     have:=HL.out.le
     omega
    have CA:Hid (Calls Tryz.prog 31 #[tv L[i] a' cap',vb,.int .i64 (kk:Int)] wr (RNumPost wr (rnF but d kk L[i]))):=hid (IH.out L[i] a' cap' wr vb kk ((hs.keep fun b hb=>hI.kept (by have:b<wc.heap.size:=hb;omega) (by have:b<wc.heap.size:=hb;omega)).mono fun b (hb:b<wc.heap.size)=>(by show b<wr.heap.size;omega)) m1 m2 m3 (VB5.out.kp hI.kp) (m4.up hlo) hbd)
    have hal:acc.length≤1000000000000:=by
     have h1:=length_le_sizeL L
     have h2:=HL.out.le
     have h3:sizeL L*1≤sizeL L*(but.length+1):=Nat.mul_le_mul_left _ (by omega)
     rw[hln,List.length_take]
     omega
    have ST:=hid (mapAcc_take (rnF but d) L i hi k1)
    have CN:=hid hcn
    unfold tv at CA
    clear hf hs hbk hBw hm hb hI kro kr ko hcn hsx hsy hbd m1 m2 m3 m4 hRL hhi hlo hln
    generalize L[i]=x at *
    generalize hr:rnF but d kk x=r at *
    obtain⟨y,k2⟩:=r
    have HR:=hid hr
    clear hr
    go_wp2_with fail
    refine CA.out.mono ?_
    rintro e w4 ⟨a4,c4,rfl,hA4,hB4⟩
    unfold tv
    have hxz:Below w4.heap.size w4 (w4.alloc (.cells #[.int .i64 y.kind,.string y.name,.int .i64 y.n,.slice a4 y.args.length c4] 29)):=(Below.refl _ _).alloc (Nat.le_refl _) _
    have KX:=hid (R4.new w4 (.int .i64 y.kind) (.string y.name) (.int .i64 y.n) (.slice a4 y.args.length c4))
    have HAX:=hid ((hA4.keep fun b hb=>hxz.block b hb.2).mono fun b hb=>(⟨hb.1,Nat.lt_of_lt_of_le hb.2 hxz.size⟩:In wr.heap.size (w4.alloc (.cells #[.int .i64 y.kind,.string y.name,.int .i64 y.n,.slice a4 y.args.length c4] 29)).heap.size b))
    have HBX:=hid (hB4.alloc hB4.size (.cells #[.int .i64 y.kind,.string y.name,.int .i64 y.n,.slice a4 y.args.length c4] 29))
    clear hA4 hB4 hxz t3 f0 f1 f2 f3
    go_upto_region 15 with fail
    generalize w4.alloc (.cells #[.int .i64 y.kind,.string y.name,.int .i64 y.n,.slice a4 y.args.length c4] 29)=wx at *
    have kx:=KX.out
    have x0:=kx.c0
    have x1:=kx.c1
    have x2:=kx.c2
    have x3:=kx.c3
    have k4:=KO.out.low HBX.out
    have p3:=k4.c3
    have p5:=(k4.low ((Below.refl _ _).alloc (Nat.le_refl _) (.cells #[.int .i64 y.kind,.string y.name,.int .i64 y.n,.slice a4 y.args.length c4] 29))).c3
    have K4:=hid k4
    have NV:Hid (v.ownBlock≠some wc.heap.size):=hid (fun e=>by have:=(HI.out.row.own.lt _ e).1;omega)
    have PA:=hid ((HI.out.row.low HBX.out).push (Nat.le_trans hws HBX.out.size) hal (t:=y) (a:=a4) (c:=c4) (HAX.out.mono fun b hb=>⟨.inr (by have:=hb.1;omega),hb.2,fun e=>by have:=(HI.out.row.own.lt b e).2;have:=hb.1;omega⟩))
    clear kx k4
    go_wp2_with (at_builtin;refine wpList_append_ok (by rfl) _ _ _ (by rfl) (by rfl) (by rfl) PA.out ?_;rintro v7 w7 ⟨hr7,hg7,hl7⟩;obtain⟨a7,c7,hv7⟩:=hr7.form;rw[List.length_append,List.length_singleton] at hv7;subst hv7;have g7:=(K4.out.grown hg7 NV.out).fr 3;have e7:=(K4.out.grown hg7 NV.out).c3;have HR7:=hid hr7;have HG7:=hid hg7;clear hr7 hg7)
    have HI8:=hid (HI.out.step (by omega) (fun b hb=>hb.elim) hws HBX.out HR7.out HG7.out)
    go_roundw
    case rel=>exact⟨i+1,k2,_,acc++[y],_,rfl,by go_num,by omega,by rw[ST.out,CN.out];simp only;rw[HR.out],HI8.out⟩
    case measure=>simp[intOf];omega
   ·obtain rfl:i=L.length:=by omega
    obtain⟨av,cv,hv⟩:=hI.row.form
    subst hv
    have hal:acc.length=L.length:=by rw[hln,List.length_take];omega
    have EL:=hid hal
    have EE:Hid (rnF but (d+1) k t=(.mk kd s nn acc,kk)):=hid (by
     rw[List.take_length] at hcn
     rw[HL.out.eq,hcn])
    have HI2:=hid hI
    have p0:=ko.c0
    have p1:=ko.c1
    have p2:=ko.c2
    have p3:=ko.c3
    have r0:=kr.c0
    have r1:=kr.c1
    have r2:=kr.c2
    have r3:=kr.c3
    have f0:=kr.fr 0
    have f1:=kr.fr 1
    have f2:=kr.fr 2
    have f3:=kr.fr 3
    clear hI hBw kro kr ko HI KO hal hcn hRL hhi hlo hln
    go_wp2
    have q4:=KR.out.set4 (.int .i64 kd) (.string s) (.int .i64 nn) (.slice av acc.length cv)
    have he:=HI2.out.end_ (w:=w) (fun b hb=>hb.elim) BW5.out (by omega) (by omega) (r:=w.heap.size+1) (by omega) (by omega) (.int .i64 kd) (.string s) (.int .i64 nn) (.slice av acc.length cv)
    refine bodyPost_ret (v:=.tuple #[.agg #[.int .i64 kd,.string s,.int .i64 nn,.slice av acc.length cv],.int .i64 (kk:Int)]) (by simp[results,Tryz.results31,go_sem,q4.c0,q4.c1,q4.c2,q4.c3]) rfl ?_
    rw[EE.out]
    exact⟨av,cv,rfl,he.1.mono fun b hb=>hb.resolve_left (fun h=>h),he.2⟩
end Go.Proofs.YtofllmemmggapaaGreatDoor.Tp

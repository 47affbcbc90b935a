/- Texts laid together: RfCanon, RfCanonH, RfApart. -/
import Derived.Test.YtofllmemmggapaaGreatDoorP40

namespace Go.Proofs.YtofllmemmggapaaGreatDoor.Tp
open Go.RowKit
theorem NumCut.at_ {wr w4:World}{y:Ty}{k2 bx:Nat}{a4:Option Addr}{c4:Nat}{u0 u1 u2 u3:Value}(hb:Below wr.heap.size wr w4)(hA:ArgsAt (fun b=>wr.heap.size≤b∧b<w4.heap.size∧b≠bx) w4 (.slice a4 y.args.length c4) y.args)(k:R4 w4 bx u0 u1 u2 u3)(hx:wr.heap.size≤bx):NumCut wr y k2 (.pointer (some ⟨bx,0,none⟩)) (.int .i64 (k2:Int)) ((((w4.setCell ⟨bx,0,none⟩ (.int .i64 y.kind)).setCell ⟨bx,1,none⟩ (.string y.name)).setCell ⟨bx,2,none⟩ (.int .i64 y.n)).setCell ⟨bx,3,none⟩ (.slice a4 y.args.length c4)) :=
 ⟨_,a4,c4,rfl,rfl,k.set4 _ _ _ _,(hA.keep fun b hb=>by
  have hne:b≠bx:=hb.2.2
  rw[Below.heap_setCell _ _ _ _ hne,Below.heap_setCell _ _ _ _ hne,Below.heap_setCell _ _ _ _ hne,Below.heap_setCell _ _ _ _ hne]).mono fun b hb=>⟨hb.1,by have:=hb.2.1;simpa using this⟩,hb.set4 hx _ _ _ _⟩
theorem std_wf:∀ t:Ty,Std t→Wf t:=by
 intro t
 induction t using Ty.ind with
 | h t ih =>
  intro h
  obtain⟨hk,ha⟩:=(std_iff t).1 h
  refine (wf_iff t).2 ⟨?_,fun a hm=>ih a hm (ha a hm)⟩
  rcases hk with h|h|h|h|h
  ·exact .inl ⟨h.1,h.2.2⟩
  ·exact .inr (.inl ⟨h.1,h.2.2.1,h.2.2.2.1,h.2.2.2.2⟩)
  ·exact .inr (.inr (.inl h.1))
  ·exact .inr (.inr (.inr (.inl ⟨h.1,h.2.2.2⟩)))
  ·exact .inr (.inr (.inr (.inr ⟨h.1,h.2.2⟩)))
theorem rnum_call (L:ByteArray)(hL:L.size≤100)(but:List ByteArray)(t:Ty)(a:Option Addr)(c:Nat)(vb:Value)(W:World)(hA:AtW t a c W)(hs:Std t)(hb:StrsLow W vb but)(hsz:t.size*(but.length+1)≤100000000000000000)(hsz2:t.size≤1000000000000) :
  Calls Tryz.prog 36 #[.agg #[.int .i64 t.kind,.string t.name,.int .i64 t.n,.slice a t.args.length c],.agg #[.slice none 0 0,.slice none 0 0],.string L,vb,.int .i64 0] W (RNumPost W (cnT (lname L) but [] 0 (dbT [] t))) :=
 rnum_any L hL but t _ a c W _ _ vb [] [] 0 hA (fun _ h=>h) hs (strsLow_nil W) (strsLow_nil W) rfl hb (by simpa using hsz2) (by simpa using hsz)
set_option maxRecDepth 100000 in
set_option maxHeartbeats 3200000 in
theorem rCanon_any (t:Ty)(S:Nat→Prop)(a:Option Addr)(c:Nat)(w:World)(hA:ArgsAt S w (.slice a t.args.length c) t.args)(hS:∀ b,S b→b<w.heap.size)(hs:Std t)(hw:Wf (canonT t))(hl:(printT (canonT t)).length≤1099511627776)(hsz:t.size≤100000000) :
  Calls Tryz.prog 14 #[tv t a c] w (StrPost w (canonS t)):=by
 have hz:Below w.heap.size w (w.alloc (.cells #[.int .i64 t.kind,.string t.name,.int .i64 t.n,.slice a t.args.length c] 29)):=(Below.refl w.heap.size w).alloc (Nat.le_refl _) (.cells #[.int .i64 t.kind,.string t.name,.int .i64 t.n,.slice a t.args.length c] 29)
 have kt:=R4.new w (.int .i64 t.kind) (.string t.name) (.int .i64 t.n) (.slice a t.args.length c)
 have hAt:AtW t a c (w.alloc (.cells #[.int .i64 t.kind,.string t.name,.int .i64 t.n,.slice a t.args.length c] 29)):=(hA.keep fun b hb=>hz.block b (hS b hb)).mono fun b hb=>Nat.lt_of_lt_of_le (hS b hb) hz.size
 have hfl:=freeT_len t
 have hmul:t.size*((freeT t).length+1)≤100000000000000000:=Nat.le_trans (Nat.mul_le_mul hsz (show (freeT t).length+1≤100000001 by omega)) (by omega)
 have hcan:=canonT_cn t hs
 rw[xname_f] at hcan
 have CF:=hid (fun (W:World) (h:AtW t a c W)=>rFree_any t _ a c W h (fun _ h=>h) (std_wf t hs) (by omega))
 have CNU:=hid (fun (W:World) (vb:Value) (h:AtW t a c W) (hb:StrsLow W vb (freeT t))=>rnum_call ⟨#[120]⟩ (by decide) (freeT t) t a c vb W h hs hb hmul (by omega))
 have CPR:=hid (fun (W:World) (a':Option Addr) (c':Nat) (h:AtW (canonT t) a' c' W)=>rprint_any (canonT t) _ a' c' W h (fun _ h=>h) hw hl)
 unfold canonS
 rw[hcan] at CPR ⊢
 generalize hr:cnT (lname ⟨#[120]⟩) (freeT t) [] 0 (dbT [] t)=r at *
 obtain⟨y,k2⟩:=r
 simp only at CPR ⊢
 have AT:=hid hAt
 have HZ:=hid hz
 have KT:=hid kt
 clear hA hS hs hw hl hsz hfl hmul hcan hr hAt hz kt
 unfold tv at CF CPR ⊢
 go_enter Tryz.func14,Tryz.ntmps14
 go_wp2
 generalize w.alloc (.cells #[.int .i64 t.kind,.string t.name,.int .i64 t.n,.slice a t.args.length c] 29)=W0 at *
 have HD:=hid (Below.refl W0.heap.size W0).drew
 have HDA:Hid (Below W0.heap.size W0 (W0.alloc (.cells #[.int .i64 0,.string ⟨#[]⟩,.int .i64 0,.slice none 0 0] 29)).drew):=hid ((Below.refl W0.heap.size W0).alloc (Nat.le_refl _) _).drew
 have KK:Hid (∀ W:World,Below W0.heap.size W0 W→W.cell? ⟨w.heap.size,0,none⟩=some (.int .i64 t.kind)∧W.cell? ⟨w.heap.size,1,none⟩=some (.string t.name)∧W.cell? ⟨w.heap.size,2,none⟩=some (.int .i64 t.n)∧W.cell? ⟨w.heap.size,3,none⟩=some (.slice a t.args.length c)):=hid (fun W h=>⟨(KT.out.low h).c0,(KT.out.low h).c1,(KT.out.low h).c2,(KT.out.low h).c3⟩)
 go_upto_region 1 with fail
 go_cut [3,4] from 6 to 12 (fun xp kv wx=>NumCut W0 y k2 xp kv wx)
 case first =>
  have k0:=KT.out.c0
  have k1:=KT.out.c1
  have k2:=KT.out.c2
  have k3:=KT.out.c3
  obtain⟨l0,l1,l2,l3⟩:=KK.out (W0.alloc (.cells #[.int .i64 0,.string ⟨#[]⟩,.int .i64 0,.slice none 0 0] 29)) ((Below.refl W0.heap.size W0).alloc (Nat.le_refl _) _)
  go_region_law (first
   | (go_simp;go_at_call 18;(with_reducible refine (CF.out _ (AT.out.low HD.out)).mono ?_);rintro e w1 ⟨v,rfl,h1,hb1⟩;have HX1:=hid (HD.out.trans (hb1.mono HD.out.size));obtain⟨e0,e1,e2,e3⟩:=KK.out _ HX1.out;have HX2:=hid (HX1.out.alloc HX1.out.size (.cells #[.int .i64 0,.string ⟨#[]⟩,.int .i64 0,.slice none 0 0] 29));obtain⟨j0,j1,j2,j3⟩:=KK.out _ HX2.out;have CN1:=hid (CNU.out w1 v (AT.out.low HX1.out) h1);have CN2:=hid (CNU.out (w1.alloc (.cells #[.int .i64 0,.string ⟨#[]⟩,.int .i64 0,.slice none 0 0] 29)) v (AT.out.low HX2.out) (h1.low ((Below.refl _ _).alloc (Nat.le_refl _) _)));clear h1 hb1)
   | (go_simp;go_at_call 18;(with_reducible refine (CF.out _ (AT.out.low HDA.out)).mono ?_);rintro e w1 ⟨v,rfl,h1,hb1⟩;have HX3:=hid (HDA.out.trans (hb1.mono HDA.out.size));obtain⟨e0,e1,e2,e3⟩:=KK.out _ HX3.out;have kz:=R4.low (R4.low (R4.new W0 (.int .i64 0) (.string ⟨#[]⟩) (.int .i64 0) (.slice none 0 0)) (Below.refl _ _).drew) hb1;have KZ3:=hid kz;have CN3:=hid (CNU.out w1 v (AT.out.low HX3.out) h1);have LT3:Hid (W0.heap.size<w1.heap.size):=hid kz.lt;clear h1 hb1 kz)
   | (go_simp;go_at_call 36;(with_reducible refine CN1.out.mono ?_);rintro e w4 ⟨a4,c4,rfl,hA4,hb4⟩;have HB4:Hid (Below W0.heap.size W0 w4):=hid (HX1.out.trans (hb4.mono HX1.out.size));have HA4:Hid (ArgsAt (In W0.heap.size w4.heap.size) w4 (.slice a4 y.args.length c4) y.args):=hid (hA4.mono fun b hb=>⟨Nat.le_trans HX1.out.size hb.1,hb.2⟩);clear hA4 hb4;unfold tv)
   | (go_simp;go_at_call 36;(with_reducible refine CN2.out.mono ?_);rintro e w4 ⟨a4,c4,rfl,hA4,hb4⟩;have kz:=R4.low (R4.new w1 (.int .i64 0) (.string ⟨#[]⟩) (.int .i64 0) (.slice none 0 0)) hb4;have s0:=kz.c0;have s1:=kz.c1;have s2:=kz.c2;have s3:=kz.c3;have g0:=kz.fr 0;have g1:=kz.fr 1;have g2:=kz.fr 2;have g3:=kz.fr 3;have KZ:=hid kz;have HB4:Hid (Below W0.heap.size W0 w4):=hid (HX2.out.trans (hb4.mono HX2.out.size));have LX:Hid (W0.heap.size≤w1.heap.size):=hid HX1.out.size;have HA5:Hid (ArgsAt (fun b=>W0.heap.size≤b∧b<w4.heap.size∧b≠w1.heap.size) w4 (.slice a4 y.args.length c4) y.args):=hid (hA4.mono fun b hb=>⟨Nat.le_trans HX2.out.size hb.1,hb.2,by have:=hb.1;simp at this;omega⟩);clear hA4 hb4 kz;unfold tv)
   | (go_simp;go_at_call 36;(with_reducible refine CN3.out.mono ?_);rintro e w4 ⟨a4,c4,rfl,hA4,hb4⟩;have kz:=KZ3.out.low hb4;have s0:=kz.c0;have s1:=kz.c1;have s2:=kz.c2;have s3:=kz.c3;have g0:=kz.fr 0;have g1:=kz.fr 1;have g2:=kz.fr 2;have g3:=kz.fr 3;have KZ:=hid kz;have HB4:Hid (Below W0.heap.size W0 w4):=hid (HX3.out.trans (hb4.mono HX3.out.size));have LX:Hid (W0.heap.size≤W0.heap.size):=hid (Nat.le_refl _);have HA5:Hid (ArgsAt (fun b=>W0.heap.size≤b∧b<w4.heap.size∧b≠W0.heap.size) w4 (.slice a4 y.args.length c4) y.args):=hid (hA4.mono fun b hb=>⟨Nat.le_trans HX3.out.size hb.1,hb.2,by have:=hb.1;have:=LT3.out;omega⟩);clear hA4 hb4 kz;unfold tv))
  all_goals
   go_wp2_with fail
   go_meet
   first
    | (with_reducible exact NumCut.new HB4.out HA4.out)
    | (with_reducible exact NumCut.at_ HB4.out HA5.out KZ.out LX.out)
 obtain⟨bx,a4,c4,rfl,rfl,kx,hA4,hB4⟩:=hcut
 have x0:=kx.c0
 have x1:=kx.c1
 have x2:=kx.c2
 have x3:=kx.c3
 have CP:=hid (CPR.out wc a4 c4 (hA4.mono fun b hb=>hb.2))
 have HB:=hid (HZ.out.trans (hB4.mono HZ.out.size))
 clear hA4 hB4 kx
 go_wp2_with fail
 refine CP.out.mono ?_
 rintro e w5 ⟨rfl,hb5⟩
 have HB5:=hid (HB.out.trans (hb5.mono HB.out.size))
 clear hb5
 go_wp2
 go_ret
 exact⟨rfl,HB5.out⟩
structure CanonR (t:Ty):Prop where
 std:Std t
 wf:Wf (canonT t)
 len:(printT (canonT t)).length≤1099511627776
 size:t.size≤100000000
theorem canonR_of {y z:Ty}(hy:Std y)(hz:Good z)(hsz:z.size≤1073741824)(e:canonT y=canonT z)(hs:y.size≤100000000):CanonR y:=by
 have KP:=num_keeps z.depth (freeT z) z 0 (Nat.le_refl _) hz (by omega) (by
  have:=freeT_len z
  have:z.size*((freeT z).length+1)≤1073741824*1073741825:=Nat.mul_le_mul hsz (by omega)
  omega)
 have hg:Good (canonT z):=KP.2.2.2.2.1
 have hn:(canonT z).size=z.size:=KP.2.2.2.1
 refine⟨hy,by rw[e];exact hg.1,?_,hs⟩
 rw[e]
 have:=printT_len (canonT z) hg
 omega
theorem rcanon_h {t:Ty}{a:Option Addr}{c:Nat}{W:World}(R:AtW t a c W)(h:CanonR t) :
  Calls Tryz.prog 14 #[.agg #[.int .i64 t.kind,.string t.name,.int .i64 t.n,.slice a t.args.length c]] W (StrPost W (canonS t)) :=
 rCanon_any t _ a c W R (fun _ h=>h) h.std h.wf h.len h.size
structure TwoMem (w W:World)(t u:Ty)(a ua:Option Addr)(c uc:Nat):Prop where
 hz:Below w.heap.size w W
 lt:w.heap.size+3≤W.heap.size
 kt:R4 W w.heap.size (.int .i64 t.kind) (.string t.name) (.int .i64 t.n) (.slice a t.args.length c)
 ku:R4 W (w.heap.size+1) (.int .i64 u.kind) (.string u.name) (.int .i64 u.n) (.slice ua u.args.length uc)
 kr:R4 W (w.heap.size+1+1) (.int .i64 0) (.string ⟨#[]⟩) (.int .i64 0) (.slice none 0 0)
theorem TwoMem.low {w W W':World}{t u:Ty}{a ua:Option Addr}{c uc:Nat}(h:TwoMem w W t u a ua c uc)(hb:Below W.heap.size W W'):TwoMem w W' t u a ua c uc :=
 ⟨h.hz.trans (hb.mono h.hz.size),Nat.le_trans h.lt hb.size,h.kt.low hb,h.ku.low hb,h.kr.low hb⟩
theorem TwoMem.new (w:World)(t u:Ty)(a ua:Option Addr)(c uc:Nat):TwoMem w (((w.alloc (.cells #[.int .i64 t.kind,.string t.name,.int .i64 t.n,.slice a t.args.length c] 29)).alloc (.cells #[.int .i64 u.kind,.string u.name,.int .i64 u.n,.slice ua u.args.length uc] 29)).alloc (.cells #[.int .i64 0,.string ⟨#[]⟩,.int .i64 0,.slice none 0 0] 29)) t u a ua c uc:=by
 obtain⟨h0,h1,h2,h3,h4,h5⟩:=alloc4' w (.cells #[.int .i64 t.kind,.string t.name,.int .i64 t.n,.slice a t.args.length c] 29) (.cells #[.int .i64 u.kind,.string u.name,.int .i64 u.n,.slice ua u.args.length uc] 29) (.cells #[.int .i64 0,.string ⟨#[]⟩,.int .i64 0,.slice none 0 0] 29) (.cells #[.int .i64 0,.string ⟨#[]⟩,.int .i64 0,.slice none 0 0] 29)
 have k:∀ b,b<w.heap.size+3→((((w.alloc (.cells #[.int .i64 t.kind,.string t.name,.int .i64 t.n,.slice a t.args.length c] 29)).alloc (.cells #[.int .i64 u.kind,.string u.name,.int .i64 u.n,.slice ua u.args.length uc] 29)).alloc (.cells #[.int .i64 0,.string ⟨#[]⟩,.int .i64 0,.slice none 0 0] 29)).alloc (.cells #[.int .i64 0,.string ⟨#[]⟩,.int .i64 0,.slice none 0 0] 29)).heap[b]? = (((w.alloc (.cells #[.int .i64 t.kind,.string t.name,.int .i64 t.n,.slice a t.args.length c] 29)).alloc (.cells #[.int .i64 u.kind,.string u.name,.int .i64 u.n,.slice ua u.args.length uc] 29)).alloc (.cells #[.int .i64 0,.string ⟨#[]⟩,.int .i64 0,.slice none 0 0] 29)).heap[b]? := fun b hb=>heap_alloc_old _ _ (by simp;omega)
 exact⟨(((Below.refl _ _).alloc (Nat.le_refl _) _).alloc (by simp) _).alloc (by simp;omega) _,by simp,(k _ (by omega)).symm.trans h2,(k _ (by omega)).symm.trans h3,(k _ (by omega)).symm.trans h4⟩
theorem TwoMem.set {w W:World}{t u:Ty}{a ua:Option Addr}{c uc:Nat}(h:TwoMem w W t u a ua c uc)(v0 v1 v2 v3:Value) :
  let W':=(((W.setCell ⟨w.heap.size+1+1,0,none⟩ v0).setCell ⟨w.heap.size+1+1,1,none⟩ v1).setCell ⟨w.heap.size+1+1,2,none⟩ v2).setCell ⟨w.heap.size+1+1,3,none⟩ v3
  R4 W' w.heap.size (.int .i64 t.kind) (.string t.name) (.int .i64 t.n) (.slice a t.args.length c)∧R4 W' (w.heap.size+1) (.int .i64 u.kind) (.string u.name) (.int .i64 u.n) (.slice ua u.args.length uc)∧R4 W' (w.heap.size+1+1) v0 v1 v2 v3∧Below w.heap.size w W':=by
 intro W'
 have k:∀ b,b≠w.heap.size+1+1→W'.heap[b]? = W.heap[b]? := fun b hb=>by
  show ((((W.setCell ⟨w.heap.size+1+1,0,none⟩ v0).setCell ⟨w.heap.size+1+1,1,none⟩ v1).setCell ⟨w.heap.size+1+1,2,none⟩ v2).setCell ⟨w.heap.size+1+1,3,none⟩ v3).heap[b]? = _
  rw[Below.heap_setCell _ _ _ _ hb,Below.heap_setCell _ _ _ _ hb,Below.heap_setCell _ _ _ _ hb,Below.heap_setCell _ _ _ _ hb]
 exact⟨(k _ (by omega)).trans h.kt,(k _ (by omega)).trans h.ku,h.kr.set4 _ _ _ _,h.hz.set4 (by omega) _ _ _ _⟩
theorem but_one (ty:TypeId){W wy:World}{b:Nat}{v:Value}{nm:ByteArray}{l:List ByteArray}(hb:Below W.heap.size W wy)(h1:wy.heap[b]? = some (.cells #[.string nm] 9 (0,0)))(hWb:W.heap.size≤b)(h:StrsLow wy v l) :
  ∃ v1 w1,(Builtin.append_ #[22,22] ty #[.slice (some ⟨b,0,none⟩) 1 1,v]).run Tryz.prog wy=.ok v1 w1∧w1.ownsRow W.heap.size 9 1 v1 (nm :: l).length ((nm :: l).map Value.string)∧Below W.heap.size W w1 :=
 append_strs (wi:=W) (wy:=wy) (lo:=W.heap.size) (l1:=[nm]) ty ⟨by simp,.inr ⟨b,1,#[.string nm],rfl,hWb,h1,Nat.le_refl _,by unfold maxLen;omega,by simp,by simp⟩⟩ h hb (Nat.le_refl _) hb.size (by simp) rfl
theorem but_two (ty:TypeId){W wy:World}{v1 v:Value}{l1 l:List ByteArray}(hb:Below W.heap.size W wy)(h1:wy.ownsRow W.heap.size 9 1 v1 l1.length (l1.map Value.string))(hl:l1.length≤1099511627776)(h:StrsLow wy v l) :
  ∃ v2 w2,(Builtin.append_ #[22,22] ty #[v1,v]).run Tryz.prog wy=.ok v2 w2∧w2.ownsRow W.heap.size 9 1 v2 (l1++l).length ((l1++l).map Value.string)∧Below W.heap.size W w2 :=
 append_strs (wi:=W) (wy:=wy) (lo:=W.heap.size) ty h1 h hb (Nat.le_refl _) hb.size hl rfl
def ButCut (W:World)(l:List ByteArray)(s:Value)(wx:World):Prop:=StrsLow wx s l∧Below W.heap.size W wx
set_option maxRecDepth 100000 in
set_option maxHeartbeats 3200000 in
theorem rapart_any (nm:ByteArray)(u t:Ty)(a ua:Option Addr)(c uc:Nat)(w:World)(hA:AtW t a c w)(hU:AtW u ua uc w)(hs:Std t)(hu:Std u)(hsz:t.size≤1000000)(hus:u.size≤1000000) :
  Calls Tryz.prog 61 #[tv t a c,tv u ua uc,.string nm] w (TP (fun _=>False) (apartT nm u t) w):=by
 have M:=TwoMem.new w t u a ua c uc
 have hAt:=hA.low M.hz
 have hUt:=hU.low M.hz
 have hfl:=freeT_len t
 have hful:=freeT_len u
 have hbl:(butT nm u t).length≤2000001:=by unfold butT;simp;omega
 have hmul:t.size*((butT nm u t).length+1)≤100000000000000000:=Nat.le_trans (Nat.mul_le_mul hsz (show (butT nm u t).length+1≤2000002 by omega)) (by omega)
 have CFU:=hid (fun (W:World) (h:AtW u ua uc W)=>rFree_any u _ ua uc W h (fun _ h=>h) (std_wf u hu) (by omega))
 have CFT:=hid (fun (W:World) (h:AtW t a c W)=>rFree_any t _ a c W h (fun _ h=>h) (std_wf t hs) (by omega))
 have CNU:=hid (fun (W:World) (vb:Value) (h:AtW t a c W) (hb:StrsLow W vb (butT nm u t))=>rnum_call ⟨#[121]⟩ (by decide) (butT nm u t) t a c vb W h hs hb hmul (by omega))
 have BE:butT nm u t=(nm :: freeT u)++freeT t:=rfl
 have BL:Hid ((nm :: freeT u).length≤1099511627776∧((nm :: freeT u)++freeT t).length≤1099511627776):=hid (by rw[BE] at hbl;simp at hbl ⊢;omega)
 unfold apartT
 rw[BE] at CNU ⊢
 generalize hr:cnT (lname ⟨#[121]⟩) ((nm :: freeT u)++freeT t) [] 0 (dbT [] t)=r at *
 obtain⟨y,k2⟩:=r
 have MH:=hid M
 have AT:=hid hAt
 have UT:=hid hUt
 clear hA hU hs hu hsz hus M hAt hUt hfl hful hbl hmul BE hr
 unfold tv at CFU CFT ⊢
 go_enter Tryz.func61,Tryz.ntmps61
 go_wp2
 generalize ((w.alloc (.cells #[.int .i64 t.kind,.string t.name,.int .i64 t.n,.slice a t.args.length c] 29)).alloc (.cells #[.int .i64 u.kind,.string u.name,.int .i64 u.n,.slice ua u.args.length uc] 29)).alloc (.cells #[.int .i64 0,.string ⟨#[]⟩,.int .i64 0,.slice none 0 0] 29)=W0 at *
 have HD:=hid (Below.refl W0.heap.size W0).drew
 have HDA:Hid (Below W0.heap.size W0 (W0.alloc (.cells #[.string nm] 9)).drew):=hid ((Below.refl W0.heap.size W0).alloc (Nat.le_refl _) _).drew
 have KK:Hid (∀ W:World,Below W0.heap.size W0 W→W.cell? ⟨w.heap.size,0,none⟩=some (.int .i64 t.kind)∧W.cell? ⟨w.heap.size,1,none⟩=some (.string t.name)∧W.cell? ⟨w.heap.size,2,none⟩=some (.int .i64 t.n)∧W.cell? ⟨w.heap.size,3,none⟩=some (.slice a t.args.length c)∧W.cell? ⟨w.heap.size+1,0,none⟩=some (.int .i64 u.kind)∧W.cell? ⟨w.heap.size+1,1,none⟩=some (.string u.name)∧W.cell? ⟨w.heap.size+1,2,none⟩=some (.int .i64 u.n)∧W.cell? ⟨w.heap.size+1,3,none⟩=some (.slice ua u.args.length uc)):=hid (fun W h=>⟨(MH.out.low h).kt.c0,(MH.out.low h).kt.c1,(MH.out.low h).kt.c2,(MH.out.low h).kt.c3,(MH.out.low h).ku.c0,(MH.out.low h).ku.c1,(MH.out.low h).ku.c2,(MH.out.low h).ku.c3⟩)
 go_upto_region 1 with fail
 go_cut [7] from 10 to 17 (fun s wx=>ButCut W0 ((nm :: freeT u)++freeT t) s wx)
 case first =>
  obtain⟨k0,k1,k2',k3,k4,k5,k6,k7⟩:=KK.out W0 (Below.refl _ _)
  go_region_held3 (fun w'=>w'.cell? ⟨w.heap.size,0,none⟩=some (.int .i64 t.kind)∧w'.cell? ⟨w.heap.size,1,none⟩=some (.string t.name)∧w'.cell? ⟨w.heap.size,2,none⟩=some (.int .i64 t.n)∧w'.cell? ⟨w.heap.size,3,none⟩=some (.slice a t.args.length c)∧w'.cell? ⟨w.heap.size+1,0,none⟩=some (.int .i64 u.kind)∧w'.cell? ⟨w.heap.size+1,1,none⟩=some (.string u.name)∧w'.cell? ⟨w.heap.size+1,2,none⟩=some (.int .i64 u.n)∧w'.cell? ⟨w.heap.size+1,3,none⟩=some (.slice ua u.args.length uc))
   (first|(with_reducible exact KK.out _ HX4.out)|(with_reducible exact KK.out _ HX3.out)|(with_reducible exact KK.out _ HX2.out)|(with_reducible exact KK.out _ HXA.out)|(with_reducible exact KK.out _ HX1.out)|(with_reducible exact KK.out _ HDA.out)|(with_reducible exact KK.out _ HD.out)|go_keep)
   (first
    | (go_at_call 18;(with_reducible refine (CFU.out _ (UT.out.low HD.out)).mono ?_);rintro e w1 ⟨v,rfl,h1,hb1⟩;have HX1:=hid (HD.out.trans (hb1.mono HD.out.size));have HXA:Hid (Below W0.heap.size W0 (w1.alloc (.cells #[.string nm] 9))):=hid (HX1.out.alloc HX1.out.size (.cells #[.string nm] 9));have A1:=hid (but_one 22 (W:=W0) HXA.out (heap_alloc_new w1 (.cells #[.string nm] 9)) HX1.out.size (h1.low ((Below.refl _ _).alloc (Nat.le_refl _) _)));clear h1 hb1)
    | (go_at_call 18;(with_reducible refine (CFU.out _ (UT.out.low HDA.out)).mono ?_);rintro e w1 ⟨v,rfl,h1,hb1⟩;have HX1:=hid (HDA.out.trans (hb1.mono HDA.out.size));have A1:=hid (but_one 22 (W:=W0) (b:=W0.heap.size) HX1.out ((hb1.block _ (by simp)).trans (heap_alloc_new W0 (.cells #[.string nm] 9))) (Nat.le_refl _) h1);clear h1 hb1)
    | (refine step_append_ok (by rfl) _ _ _ (by rfl) (by rfl) (by rfl) A1.out ?_;rintro v1 w2 ⟨ho,hx⟩;obtain⟨oa,oc,hv⟩:=own_form ho;rw[List.length_cons] at hv;subst hv;have HX2:=hid hx;have HO:=hid ho;have CF2:=hid (CFT.out w2 (AT.out.low hx));clear ho hx A1)
    | (go_at_call 18;(with_reducible refine CF2.out.mono ?_);rintro e w3 ⟨v,rfl,h1,hb1⟩;have HX3:=hid (HX2.out.trans (hb1.mono HX2.out.size));have A2:=hid (but_two 22 (W:=W0) HX3.out (own_keep4 HO.out fun b hb=>hb1.block b (HO.out.lt b hb).2) BL.out.1 h1);clear h1 hb1)
    | (refine step_append_ok (by rfl) _ _ _ (by rfl) (by rfl) (by rfl) A2.out ?_;rintro v4 w4 ⟨ho,hx⟩;have HX4:=hid hx;have HO4:=hid ho;clear ho hx))
  all_goals
   go_wp2_with fail
   go_meet
   exact⟨.own HO4.out BL.out.2,HX4.out⟩
 obtain⟨hbs,hB⟩:=hcut
 obtain⟨k0,k1,k2',k3,_⟩:=KK.out wc hB
 have CN:=hid (CNU.out wc _ (AT.out.low hB) hbs)
 have M2:=hid (MH.out.low hB)
 clear hbs hB
 go_wp2_with fail
 refine CN.out.mono ?_
 rintro e w4 ⟨a4,c4,rfl,hA4,hb4⟩
 have M3:=hid (M2.out.low hb4)
 have LW:=hid hb4.size
 have AA:=hid hA4
 have hM4:=M3.out.low ((Below.refl _ _).alloc (Nat.le_refl _) (.cells #[.int .i64 y.kind,.string y.name,.int .i64 y.n,.slice a4 y.args.length c4] 29))
 have r0:=hM4.kr.c0
 have r1:=hM4.kr.c1
 have r2:=hM4.kr.c2
 have r3:=hM4.kr.c3
 have f0:=hM4.kr.fr 0
 have f1:=hM4.kr.fr 1
 have f2:=hM4.kr.fr 2
 have f3:=hM4.kr.fr 3
 have M4:=hid hM4
 clear hA4 hb4 hM4 k0 k1 k2' k3
 unfold tv
 go_wp2
 have q:=M4.out.set (.int .i64 y.kind) (.string y.name) (.int .i64 y.n) (.slice a4 y.args.length c4)
 refine bodyPost_ret (v:=.agg #[.int .i64 y.kind,.string y.name,.int .i64 y.n,.slice a4 y.args.length c4]) (by simp[results,Tryz.results61,go_sem,q.2.2.1.c0,q.2.2.1.c1,q.2.2.1.c2,q.2.2.1.c3]) rfl ?_
 refine⟨a4,c4,rfl,(AA.out.keep fun b hb=>?_).mono fun b hb=>.inr ⟨?_,?_⟩,q.2.2.2⟩
 ·have hne:b≠w.heap.size+1+1:=by have h1:=hb.1;have h2:=M2.out.lt;omega
  rw[Below.heap_setCell _ _ _ _ hne,Below.heap_setCell _ _ _ _ hne,Below.heap_setCell _ _ _ _ hne,Below.heap_setCell _ _ _ _ hne]
  exact heap_alloc_old _ _ hb.2
 ·have h1:=hb.1;have h2:=M2.out.lt;omega
 ·have h1:=hb.2;simp;omega
end Go.Proofs.YtofllmemmggapaaGreatDoor.Tp

/- Texts laid together: RfNumB. -/
import Derived.Test.YtofllmemmggapaaGreatDoorP38
import Derived.Deep.RegionLaw
import Derived.Deep.CutRange

namespace Go.Proofs.YtofllmemmggapaaGreatDoor.Tp
open Go.RowKit
theorem cnL_append (f:Nat→ByteArray)(free env:List ByteArray)(a b:List Ty):∀ k:Nat,cnL f free env k (a++b)=((cnL f free env k a).1++(cnL f free env (cnL f free env k a).2 b).1,(cnL f free env (cnL f free env k a).2 b).2):=by
 induction a with
 | nil=>intro k;simp[cnL]
 | cons t a ih=>intro k;rw[List.cons_append,cnL,cnL,ih];rfl
theorem cnL_take (f:Nat→ByteArray)(free env:List ByteArray)(k:Nat)(g:Ty→Ty)(l:List Ty)(i:Nat)(h:i<l.length) :
  cnL f free env k ((l.take (i+1)).map g)=((cnL f free env k ((l.take i).map g)).1++[(cnT f free env (cnL f free env k ((l.take i).map g)).2 (g l[i])).1],(cnT f free env (cnL f free env k ((l.take i).map g)).2 (g l[i])).2):=by
 rw[List.take_succ_eq_append_getElem h,List.map_append,cnL_append,List.map_singleton,cnL,cnL]
theorem cnL_length (f:Nat→ByteArray)(free:List ByteArray)(l:List Ty):∀ (env:List ByteArray) (k:Nat),(cnL f free env k l).1.length=l.length:=by
 induction l with
 | nil=>intro env k;simp[cnL]
 | cons t l ih=>intro env k;rw[cnL,List.length_cons,List.length_cons,ih]
theorem cnL_le (f:Nat→ByteArray)(hf:∀ a b,f a=f b→a=b)(free:List ByteArray)(l:List Ty):∀ (env:List ByteArray) (k:Nat),(cnL f free env k l).2≤k+sizeL l*(free.length+1):=by
 induction l with
 | nil=>intro env k;simp[cnL]
 | cons t l ih =>
  intro env k
  rw[cnL]
  have h1:=cn_le f hf free t env k
  have h2:=ih env (cnT f free env k t).2
  simp only[sizeL,Nat.add_mul] at h2 ⊢
  omega
theorem sizeL_db {env:List ByteArray}(l:List Ty)(h:∀ x∈l,Std x):sizeL (l.map (dbT env))=sizeL l:=by
 induction l with
 | nil=>rfl
 | cons t l ih=>rw[List.map_cons,sizeL,sizeL,size_db t (h t (by simp)) env,ih fun x hx=>h x (by simp[hx])]
def StrsNo (O:Nat)(w:World)(v:Value)(l:List ByteArray):Prop:=StrsAt (fun b=>b<w.heap.size∧b≠O) w v l
theorem StrsNo.kp {O:Nat}{W wr:World}{v:Value}{l:List ByteArray}(h:StrsNo O W v l)(k:Kp W.heap.size (fun b=>b=O) W wr):StrsLow wr v l :=
 (StrsAt.keep (fun b hb=>k.block b hb.1 hb.2) h).mono fun _ hb=>Nat.lt_of_lt_of_le hb.1 k.size
theorem StrsNo.of_low {O:Nat}{w W:World}{v:Value}{l:List ByteArray}(h:StrsLow w v l)(hb:Below w.heap.size w W)(hO:w.heap.size≤O):StrsNo O W v l :=
 (StrsAt.keep (fun b hS=>hb.block b hS) h).mono fun b hS=>⟨Nat.lt_of_lt_of_le hS hb.size,by omega⟩
def NumCut (wr:World)(y:Ty)(k2:Nat)(xp kv:Value)(wx:World):Prop:=∃ bx a4 c4,xp=.pointer (some ⟨bx,0,none⟩)∧kv=.int .i64 (k2:Int)∧R4 wx bx (.int .i64 y.kind) (.string y.name) (.int .i64 y.n) (.slice a4 y.args.length c4) ∧
 ArgsAt (In wr.heap.size wx.heap.size) wx (.slice a4 y.args.length c4) y.args∧Below wr.heap.size wr wx
theorem NumCut.new {wr w4:World}{y:Ty}{k2:Nat}{a4:Option Addr}{c4:Nat}(hb:Below wr.heap.size wr w4)(hA:ArgsAt (In wr.heap.size w4.heap.size) w4 (.slice a4 y.args.length c4) y.args):NumCut wr y k2 (.pointer (some ⟨w4.heap.size,0,none⟩)) (.int .i64 (k2:Int)) (w4.alloc (.cells #[.int .i64 y.kind,.string y.name,.int .i64 y.n,.slice a4 y.args.length c4] 29)) :=
 ⟨_,a4,c4,rfl,rfl,R4.new w4 _ _ _ _,(hA.keep fun b hb=>heap_alloc_old w4 _ hb.2).mono fun b hb=>⟨hb.1,by simp;have:=hb.2;omega⟩,hb.alloc hb.size _⟩
theorem NumCut.old {wr w4:World}{y:Ty}{k2:Nat}{a4:Option Addr}{c4:Nat}{u0 u1 u2 u3:Value}(hb:Below wr.heap.size wr w4)(hA:ArgsAt (In (wr.heap.size+1) w4.heap.size) w4 (.slice a4 y.args.length c4) y.args)(k:R4 w4 wr.heap.size u0 u1 u2 u3):NumCut wr y k2 (.pointer (some ⟨wr.heap.size,0,none⟩)) (.int .i64 (k2:Int)) ((((w4.setCell ⟨wr.heap.size,0,none⟩ (.int .i64 y.kind)).setCell ⟨wr.heap.size,1,none⟩ (.string y.name)).setCell ⟨wr.heap.size,2,none⟩ (.int .i64 y.n)).setCell ⟨wr.heap.size,3,none⟩ (.slice a4 y.args.length c4)) :=
 ⟨_,a4,c4,rfl,rfl,k.set4 _ _ _ _,(hA.keep fun b hb=>by
  have hne:b≠wr.heap.size:=by have:=hb.1;omega
  rw[Below.heap_setCell _ _ _ _ hne,Below.heap_setCell _ _ _ _ hne,Below.heap_setCell _ _ _ _ hne,Below.heap_setCell _ _ _ _ hne]).mono fun b hb=>⟨by have:=hb.1;omega,by have:=hb.2;simpa using this⟩,hb.set4 (Nat.le_refl _) _ _ _ _⟩
set_option maxRecDepth 100000 in
set_option maxHeartbeats 2400000 in
theorem rnum_other (L:ByteArray)(but:List ByteArray)(t:Ty)(hk1:t.kind≠1)(hk5:t.kind≠5)(ih:∀ x∈t.args,RNumSaid L but x):RNumSaid L but t:=by
 intro S a c w vf vt vb fr tl k hA hS hs hf ht hlen hb hfl hk
 have hdb:dbT fr.reverse t=.mk t.kind t.name t.n (t.args.map (dbT fr.reverse)):=dbT_other _ _ hk1 hk5
 obtain⟨af,cf,rfl,hcf,_⟩:=id hf
 obtain⟨at',ct,rfl,hct,_⟩:=id ht
 have M:=rnumMem w t a c af at' cf ct fr tl
 have e1:(t.kind==1)=false:=by rw[beq_eq_false_iff_ne];exact hk1
 have e5:(t.kind==5)=false:=by rw[beq_eq_false_iff_ne];exact hk5
 have hl:t.args.length≤9223372036854775807:=by
  obtain⟨_,_,_,h⟩:=hA.form
  exact h
 have hb5:Below w.heap.size w (((((w.alloc (.cells #[.int .i64 t.kind,.string t.name,.int .i64 t.n,.slice a t.args.length c] 29)).alloc (.cells #[.slice af fr.length cf,.slice at' tl.length ct] 78)).alloc (.cells #[.int .i64 0,.string ⟨#[]⟩,.int .i64 0,.slice none 0 0] 29)).alloc (.cells #[.int .i64 t.kind,.string t.name,.int .i64 t.n,.slice none 0 0] 29)).alloc (.cells #[.slice af fr.length cf,.slice at' tl.length ct] 78)):=M.hz.alloc M.hz.size _
 have hlw:Below ((((w.alloc (.cells #[.int .i64 t.kind,.string t.name,.int .i64 t.n,.slice a t.args.length c] 29)).alloc (.cells #[.slice af fr.length cf,.slice at' tl.length ct] 78)).alloc (.cells #[.int .i64 0,.string ⟨#[]⟩,.int .i64 0,.slice none 0 0] 29)).alloc (.cells #[.int .i64 t.kind,.string t.name,.int .i64 t.n,.slice none 0 0] 29)).heap.size ((((w.alloc (.cells #[.int .i64 t.kind,.string t.name,.int .i64 t.n,.slice a t.args.length c] 29)).alloc (.cells #[.slice af fr.length cf,.slice at' tl.length ct] 78)).alloc (.cells #[.int .i64 0,.string ⟨#[]⟩,.int .i64 0,.slice none 0 0] 29)).alloc (.cells #[.int .i64 t.kind,.string t.name,.int .i64 t.n,.slice none 0 0] 29)) (((((w.alloc (.cells #[.int .i64 t.kind,.string t.name,.int .i64 t.n,.slice a t.args.length c] 29)).alloc (.cells #[.slice af fr.length cf,.slice at' tl.length ct] 78)).alloc (.cells #[.int .i64 0,.string ⟨#[]⟩,.int .i64 0,.slice none 0 0] 29)).alloc (.cells #[.int .i64 t.kind,.string t.name,.int .i64 t.n,.slice none 0 0] 29)).alloc (.cells #[.slice af fr.length cf,.slice at' tl.length ct] 78)):=(Below.refl _ _).alloc (Nat.le_refl _) _
 have E5:Hid (cnT (lname L) but tl.reverse k (dbT fr.reverse t)=(.mk t.kind t.name t.n (cnL (lname L) but tl.reverse k (t.args.map (dbT fr.reverse))).1,(cnL (lname L) but tl.reverse k (t.args.map (dbT fr.reverse))).2)):=hid (by
  rw[hdb,cnT_other _ _ _ _ _ _ _ _ (by have:=hs.kind;omega) hk5])
 have KT5:=hid (M.kt.low hlw)
 have KR5:=hid (M.kr.low hlw)
 have KM5:Hid (R2 (((((w.alloc (.cells #[.int .i64 t.kind,.string t.name,.int .i64 t.n,.slice a t.args.length c] 29)).alloc (.cells #[.slice af fr.length cf,.slice at' tl.length ct] 78)).alloc (.cells #[.int .i64 0,.string ⟨#[]⟩,.int .i64 0,.slice none 0 0] 29)).alloc (.cells #[.int .i64 t.kind,.string t.name,.int .i64 t.n,.slice none 0 0] 29)).alloc (.cells #[.slice af fr.length cf,.slice at' tl.length ct] 78)) (w.heap.size+1+1+1+1) (.slice af fr.length cf) (.slice at' tl.length ct)):=hid (by have h:=R2.new ((((w.alloc (.cells #[.int .i64 t.kind,.string t.name,.int .i64 t.n,.slice a t.args.length c] 29)).alloc (.cells #[.slice af fr.length cf,.slice at' tl.length ct] 78)).alloc (.cells #[.int .i64 0,.string ⟨#[]⟩,.int .i64 0,.slice none 0 0] 29)).alloc (.cells #[.int .i64 t.kind,.string t.name,.int .i64 t.n,.slice none 0 0] 29)) (.slice af fr.length cf) (.slice at' tl.length ct);rw[M.size] at h;exact h)
 have HF5:=hid (StrsNo.of_low (O:=w.heap.size+1+1+1) hf hb5 (by omega))
 have HT5:=hid (StrsNo.of_low (O:=w.heap.size+1+1+1) ht hb5 (by omega))
 have HB5:=hid (StrsNo.of_low (O:=w.heap.size+1+1+1) hb hb5 (by omega))
 have BW5:=hid hb5
 have N5:Hid (w.heap.size+1+1+1+1<(((((w.alloc (.cells #[.int .i64 t.kind,.string t.name,.int .i64 t.n,.slice a t.args.length c] 29)).alloc (.cells #[.slice af fr.length cf,.slice at' tl.length ct] 78)).alloc (.cells #[.int .i64 0,.string ⟨#[]⟩,.int .i64 0,.slice none 0 0] 29)).alloc (.cells #[.int .i64 t.kind,.string t.name,.int .i64 t.n,.slice none 0 0] 29)).alloc (.cells #[.slice af fr.length cf,.slice at' tl.length ct] 78)).heap.size):=hid (by simp)
 have I5:Hid (PutInv noS (w.heap.size+1+1+1) (((((w.alloc (.cells #[.int .i64 t.kind,.string t.name,.int .i64 t.n,.slice a t.args.length c] 29)).alloc (.cells #[.slice af fr.length cf,.slice at' tl.length ct] 78)).alloc (.cells #[.int .i64 0,.string ⟨#[]⟩,.int .i64 0,.slice none 0 0] 29)).alloc (.cells #[.int .i64 t.kind,.string t.name,.int .i64 t.n,.slice none 0 0] 29)).alloc (.cells #[.slice af fr.length cf,.slice at' tl.length ct] 78)).heap.size (((((w.alloc (.cells #[.int .i64 t.kind,.string t.name,.int .i64 t.n,.slice a t.args.length c] 29)).alloc (.cells #[.slice af fr.length cf,.slice at' tl.length ct] 78)).alloc (.cells #[.int .i64 0,.string ⟨#[]⟩,.int .i64 0,.slice none 0 0] 29)).alloc (.cells #[.int .i64 t.kind,.string t.name,.int .i64 t.n,.slice none 0 0] 29)).alloc (.cells #[.slice af fr.length cf,.slice at' tl.length ct] 78)) (((((w.alloc (.cells #[.int .i64 t.kind,.string t.name,.int .i64 t.n,.slice a t.args.length c] 29)).alloc (.cells #[.slice af fr.length cf,.slice at' tl.length ct] 78)).alloc (.cells #[.int .i64 0,.string ⟨#[]⟩,.int .i64 0,.slice none 0 0] 29)).alloc (.cells #[.int .i64 t.kind,.string t.name,.int .i64 t.n,.slice none 0 0] 29)).alloc (.cells #[.slice af fr.length cf,.slice at' tl.length ct] 78)) t.kind t.name t.n (.slice none 0 0) [] []):=hid ⟨M.ko.low hlw,.nil _ _ _,.refl _ _ _⟩
 have HL5:=hid hlen
 have SE5:Hid (fr.length+sizeL t.args≤1000000000000∧k+sizeL t.args*(but.length+1)≤100000000000000000):=hid ⟨by have:=t.size_eq;omega,by rw[t.size_eq,Nat.add_mul] at hk;omega⟩
 have SA:=hid hs.args
 have IH:=hid ih
 have AH:=hid hA
 have HS:=hid hS
 have c0:=M.kt.c0
 have N0:=M.kn.c0
 have N1:=M.kn.c1
 have P0:=M.kt
 have Q0:R4 ((((w.alloc (.cells #[.int .i64 t.kind,.string t.name,.int .i64 t.n,.slice a t.args.length c] 29)).alloc (.cells #[.slice af fr.length cf,.slice at' tl.length ct] 78)).alloc (.cells #[.int .i64 0,.string ⟨#[]⟩,.int .i64 0,.slice none 0 0] 29))) w.heap.size (.int .i64 t.kind) (.string t.name) (.int .i64 t.n) (.slice a t.args.length c):=(heap_alloc_old _ _ (by simp<;>omega)).symm.trans P0
 have b0:=Q0.c0
 have b1:=Q0.c1
 have b2:=Q0.c2
 have d0:=KT5.out.c0
 clear hA hS hs hf ht hb hfl hk hdb M P0 Q0 hlen hcf hct hk1 hk5 ih hb5 hlw
 unfold tv
 go_enter Tryz.func36,Tryz.ntmps36
 go_wp2
 clear b0 b1 b2 c0 N0 N1 d0
 generalize ((((w.alloc (.cells #[.int .i64 t.kind,.string t.name,.int .i64 t.n,.slice a t.args.length c] 29)).alloc (.cells #[.slice af fr.length cf,.slice at' tl.length ct] 78)).alloc (.cells #[.int .i64 0,.string ⟨#[]⟩,.int .i64 0,.slice none 0 0] 29)).alloc (.cells #[.int .i64 t.kind,.string t.name,.int .i64 t.n,.slice none 0 0] 29)).alloc (.cells #[.slice af fr.length cf,.slice at' tl.length ct] 78)=W5 at *
 go_loopw [4,16] (fun kv iv wr=>∃ (i kk:Nat) (v:Value) (acc:List Ty) (svs:List Value),kv=.int .i64 kk∧iv=.int .i64 i∧i≤t.args.length∧cnL (lname L) but (tl).reverse (k) ((t.args.take i).map (dbT (fr).reverse))=(acc,kk)∧PutInv noS (w.heap.size+1+1+1) (W5).heap.size (W5) wr t.kind t.name t.n v acc svs) (fun _ iv _=>t.args.length - (intOf iv).toNat)
 case atStart=>exact⟨0,_,_,_,_,rfl,rfl,Nat.zero_le _,by simp[cnL],I5.out⟩
 case round =>
  obtain⟨i,kk,v,acc,svs,rfl,rfl,hil,hcn,hI⟩:=hrel
  have z0:(0:Int)≤(i:Int):=by omega
  have n5:=N5.out
  have hws:(W5).heap.size≤wr.heap.size:=hI.kp.size
  have kt:R4 wr w.heap.size (.int .i64 t.kind) (.string t.name) (.int .i64 t.n) (.slice a t.args.length c):=(hI.kept (by omega) (by omega)).trans KT5.out
  have km:R2 wr (w.heap.size+1+1+1+1) (.slice af fr.length cf) (.slice at' tl.length ct):=(hI.kept (by omega) (by omega)).trans KM5.out
  have kr:R4 wr (w.heap.size+1+1) (.int .i64 0) (.string ⟨#[]⟩) (.int .i64 0) (.slice none 0 0):=(hI.kept (by omega) (by omega)).trans KR5.out
  have ko:=hI.ko
  have hBw:Below w.heap.size w wr:=((Kp.of_below BW5.out).trans (hI.kp.mono (n:=w.heap.size) (T':=fun _=>False) (by omega) (fun b hb e=>by omega)) (Nat.le_refl _) (fun _ _ e=>e)).to_below
  have KO:=hid ko
  have KR:=hid kr
  have HI:=hid hI
  have BW:=hid hBw
  have t3:=kt.c3
  by_cases hi:i<t.args.length
  ·have z1:(i:Int)<(t.args.length:Int):=by omega
   obtain⟨b,off,a',cap',rfl,hb,hf,hs⟩:=AH.out.at_ hi
   obtain⟨f0,f1,f2,f3⟩:=hf.keep (hBw.block b (HS.out b hb))
   have hm:=List.getElem_mem hi
   have hkk:kk≤k+sizeL (t.args.take i)*(but.length+1):=by
    have:=cnL_le (lname L) (fun _ _=>lname_inj) but ((t.args.take i).map (dbT (fr).reverse)) (tl).reverse (k)
    rw[hcn,sizeL_db _ (fun x hx=>SA.out x (List.mem_of_mem_take hx))] at this
    exact this
   have hsx:=sizeL_take t.args i hi
   have hsy:=sizeL_take_le t.args (i+1)
   have hbd:kk+t.args[i].size*(but.length+1)≤100000000000000000:=by
    have h1:(sizeL (t.args.take i)+t.args[i].size)*(but.length+1)≤sizeL t.args*(but.length+1):=Nat.mul_le_mul_right _ (by omega)
    rw[Nat.add_mul] at h1
    have:=SE5.out.2
    omega
   have CC:=fun (W:World) (hW:Below wr.heap.size wr W)=>IH.out _ hm S a' cap' W (.slice af fr.length cf) (.slice at' tl.length ct) vb (fr) (tl) kk (hs.keep fun b hS=>(hBw.trans (hW.mono hBw.size)).block b (HS.out b hS)) (fun b hS=>Nat.lt_of_lt_of_le (HS.out b hS) (Nat.le_trans hBw.size hW.size)) (SA.out _ hm) ((HF5.out.kp hI.kp).low hW) ((HT5.out.kp hI.kp).low hW) HL5.out ((HB5.out.kp hI.kp).low hW) (by have:=SE5.out.1;have:=size_arg _ hm;omega) hbd
   have CA:=hid (CC wr.drew (Below.refl _ _).drew)
   have CB:=hid (CC (wr.alloc (.cells #[.int .i64 0,.string ⟨#[]⟩,.int .i64 0,.slice none 0 0] 29)).drew (((Below.refl _ _).alloc (Nat.le_refl _) _).drew))
   have ST:=hid (cnL_take (lname L) but (tl).reverse (k) (dbT (fr).reverse) t.args i hi)
   have hyk:(cnT (lname L) but (tl).reverse kk (dbT (fr).reverse t.args[i])).2≤100000000000000000:=by
    have:=cn_le (lname L) (fun _ _=>lname_inj) but (dbT (fr).reverse t.args[i]) (tl).reverse kk
    rw[size_db _ (SA.out _ hm)] at this
    omega
   have hal:acc.length≤1000000000000:=by
    have h1:=cnL_length (lname L) but ((t.args.take i).map (dbT (fr).reverse)) (tl).reverse (k)
    rw[hcn] at h1
    simp only[List.length_map,List.length_take] at h1
    have:=length_le_sizeL t.args
    have:=SE5.out.1
    omega
   have CN:=hid hcn
   have m0:=km.c0
   have m1:=km.c1
   have o3:=ko.c3
   have hzr:Below wr.heap.size wr (wr.alloc (.cells #[.int .i64 0,.string ⟨#[]⟩,.int .i64 0,.slice none 0 0] 29)):=(Below.refl _ _).alloc (Nat.le_refl _) _
   obtain⟨ff0,ff1,ff2,ff3⟩:=hf.keep ((hBw.trans (hzr.mono hBw.size)).block b (HS.out b hb))
   have tt3:=(kt.low hzr).c3
   have mm0:=(km.low hzr).c0
   have mm1:=(km.low hzr).c1
   unfold tv at CA CB
   clear hf hs hBw hm hb hI kt km kr ko hcn hkk hsx hsy hbd CC hzr
   generalize t.args[i]=x at *
   generalize hr:cnT (lname L) but (tl).reverse kk (dbT (fr).reverse x)=r at *
   obtain⟨y,k2⟩:=r
   have HR:=hid hr
   simp only at hyk
   clear hr
   go_upto_region 23 with fail
   go_cut [17,18] from 107 to 118 (fun xp kv wx=>NumCut wr y k2 xp kv wx)
   case first =>
    go_region_law (first
     | (go_simp;go_at_call 36;(with_reducible refine CA.out.mono ?_);rintro e w4 ⟨a4,c4,rfl,hA4,hB4⟩;have HB4:Hid (Below wr.heap.size wr w4):=hid ((Below.refl _ _).drew.trans hB4);have HA4:Hid (ArgsAt (In wr.heap.size w4.heap.size) w4 (.slice a4 y.args.length c4) y.args):=hid hA4;clear hA4 hB4;unfold tv)
     | (go_simp;go_at_call 36;(with_reducible refine CB.out.mono ?_);rintro e w4 ⟨a4,c4,rfl,hA4,hB4⟩;have k9:=R4.low ((R4.new wr (.int .i64 0) (.string ⟨#[]⟩) (.int .i64 0) (.slice none 0 0)).low (Below.refl _ _).drew) hB4;have s0:=k9.c0;have s1:=k9.c1;have s2:=k9.c2;have s3:=k9.c3;have g0:=k9.fr 0;have g1:=k9.fr 1;have g2:=k9.fr 2;have g3:=k9.fr 3;have K9:=hid k9;have HB4:Hid (Below wr.heap.size wr w4):=hid ((((Below.refl _ _).alloc (Nat.le_refl _) _).drew).trans (hB4.mono (by simp)));have HA4:Hid (ArgsAt (In (wr.heap.size+1) w4.heap.size) w4 (.slice a4 y.args.length c4) y.args):=hid (hA4.mono fun b hb=>And.intro (show wr.heap.size+1≤b from by have:=hb.1;simpa using this) hb.2);clear hA4 hB4 k9;unfold tv))
    all_goals
     go_wp2_with fail
     go_meet
     first
      | (with_reducible exact NumCut.new HB4.out HA4.out)
      | (with_reducible exact NumCut.old HB4.out HA4.out K9.out)
   obtain⟨bx,a4,c4,rfl,rfl,kx,hA4,hB4⟩:=hcut
   rename_i wx _
   have x0:=kx.c0
   have x1:=kx.c1
   have x2:=kx.c2
   have x3:=kx.c3
   have k4:=KO.out.low hB4
   have p0:=k4.c0
   have p1:=k4.c1
   have p2:=k4.c2
   have p3:=k4.c3
   have p5:=(k4.low ((Below.refl _ _).alloc (Nat.le_refl _) (.cells #[.int .i64 y.kind,.string y.name,.int .i64 y.n,.slice a4 y.args.length c4] 29))).c3
   have K4:=hid k4
   have NV:Hid (v.ownBlock≠some (w.heap.size+1+1+1)):=hid (fun e=>by have:=(HI.out.row.own.lt _ e).1;omega)
   have PA:=hid ((HI.out.row.low hB4).push (Nat.le_trans hws hB4.size) hal (t:=y) (a:=a4) (c:=c4) (hA4.mono fun b hb=>⟨.inr (by have:=hb.1;omega),hb.2,fun e=>by have:=(HI.out.row.own.lt b e).2;have:=hb.1;omega⟩))
   have HB4:=hid hB4
   clear hB4 kx k4 hA4 f0 f1 f2 f3 m0 m1 o3 t3 ff0 ff1 ff2 ff3 mm0 mm1 tt3
   go_wp2_with (at_builtin;refine wpList_append_ok (by rfl) _ _ _ (by rfl) (by rfl) (by rfl) PA.out ?_;rintro v7 w7 ⟨hr7,hg7,hl7⟩;obtain⟨a7,c7,hv7⟩:=hr7.form;rw[List.length_append,List.length_singleton] at hv7;subst hv7;have g7:=(K4.out.grown hg7 NV.out).fr 3;have e7:=(K4.out.grown hg7 NV.out).c3;have HR7:=hid hr7;have HG7:=hid hg7;clear hr7 hg7)
   have HI8:=hid (HI.out.step (by omega) (fun b hb=>hb.elim) hws HB4.out HR7.out HG7.out)
   go_roundw
   case rel=>exact⟨i+1,k2,_,acc++[y],_,rfl,by go_num,by omega,by rw[ST.out,CN.out];simp only;rw[HR.out],HI8.out⟩
   case measure=>simp[intOf];omega
  ·obtain rfl:i=t.args.length:=by omega
   obtain⟨av,cv,hv⟩:=hI.row.form
   subst hv
   have hal:acc.length=t.args.length:=by
    have h1:=cnL_length (lname L) but ((t.args.take t.args.length).map (dbT (fr).reverse)) (tl).reverse (k)
    rw[hcn] at h1
    simpa using h1
   have EL:=hid hal
   rw[hal] at ko
   have EE:Hid (cnT (lname L) but tl.reverse k (dbT fr.reverse t)=(.mk t.kind t.name t.n acc,kk)):=hid (by
    rw[List.take_length] at hcn
    rw[E5.out,hcn])
   have HI2:=hid hI
   have o0:=ko.c0
   have o1:=ko.c1
   have o2:=ko.c2
   have o3:=ko.c3
   have r0:=kr.c0
   have r1:=kr.c1
   have r2:=kr.c2
   have r3:=kr.c3
   have f0:=kr.fr 0
   have f1:=kr.fr 1
   have f2:=kr.fr 2
   have f3:=kr.fr 3
   clear hI hBw kt km kr ko HI KO hal hcn
   go_wp2
   have q4:=KR.out.set4 (.int .i64 t.kind) (.string t.name) (.int .i64 t.n) (.slice av t.args.length cv)
   have he:=HI2.out.end_ (w:=w) (fun b hb=>hb.elim) BW5.out (by omega) (by omega) (r:=w.heap.size+1+1) (by omega) (by omega) (.int .i64 t.kind) (.string t.name) (.int .i64 t.n) (.slice av t.args.length cv)
   refine bodyPost_ret (v:=.tuple #[.agg #[.int .i64 t.kind,.string t.name,.int .i64 t.n,.slice av t.args.length cv],.int .i64 (kk:Int)]) (by simp[results,Tryz.results36,go_sem,q4.c0,q4.c1,q4.c2,q4.c3]) rfl ?_
   rw[EE.out]
   refine⟨av,cv,?_,he.1.mono fun b hb=>hb.resolve_left (fun h=>h),he.2⟩
   show _=Ending.returned (.tuple #[.agg #[.int .i64 t.kind,.string t.name,.int .i64 t.n,.slice av acc.length cv],.int .i64 (kk:Int)])
   rw[EL.out]
end Go.Proofs.YtofllmemmggapaaGreatDoor.Tp

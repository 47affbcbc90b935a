/- Texts laid together: CoKids. -/
import Derived.Test.YtkihnodkhnahiaaGreatDoorP20
import Derived.Test.YtkihnodkhnahiaaGreatDoorP22

namespace Go.Proofs.YtkihnodkhnahiaaGreatDoor.Tp
open Go.RowKit
set_option maxRecDepth 100000 in
set_option maxHeartbeats 3200000 in
theorem kids_any (f:Co→Option (Ty × Ty))(gv:Value)(c:Co)(S:Nat→Prop)(a:Option Addr)(n:Nat)(ka:Option Addr)(kn:Nat)(w:World)(hC:CoAt S w c a n ka kn)(hS:∀ b,S b→b<w.heap.size)(hl:c.kids.length≤4000)
  (hat:∀ x∈c.kids,∀ (a:Option Addr) (n:Nat) (ka:Option Addr) (kn:Nat) (W:World),Below w.heap.size w W→CoAt S W x a n ka kn→Calls Tryz.prog 27 #[gv,cv x a n ka kn] W (PairPost S thrown W (f x))) :
  Calls Tryz.prog 60 #[gv,cv c a n ka kn] w (KidsPost S w (saysL f c.kids)):=by
 have HC:=Lib.hid hC
 have HS:=Lib.hid hS
 have HL:=Lib.hid hl
 have HAT:=Lib.hid hat
 have hz:=(Below.refl w.heap.size w).alloc (Nat.le_refl _) (.cells #[.int .i64 c.kind,.string c.name,.int .i64 c.n,.int .i64 c.t.kind,.string c.t.name,.int .i64 c.t.n,.slice a c.t.args.length n,.slice ka c.kids.length kn] 33)
 have T0:Hid (Two S (w.heap.size+1) (w.alloc (.cells #[.int .i64 c.kind,.string c.name,.int .i64 c.n,.int .i64 c.t.kind,.string c.t.name,.int .i64 c.t.n,.slice a c.t.args.length n,.slice ka c.kids.length kn] 33)) (.slice none 0 0) (.slice none 0 0) [] [] [] []):=Lib.hid (Two.nil (fun b hb=>by have:=hS b hb;omega) (by simp))
 have B0:=Lib.hid hz
 clear hC hS hat hz
 unfold cv
 go_enter Tryz.func60,Tryz.ntmps60
 go_wp2
 go_loopw [4,5,13] (fun lv rv iv wr=>∃ (i:Nat) (xs ys:List Ty) (sx sy:List Value),iv=.int .i64 i∧i≤c.kids.length∧saysL f (c.kids.take i)=some (xs,ys)∧Two S (w.heap.size+1) wr lv rv xs ys sx sy∧Below w.heap.size w wr) (fun _ _ iv _=>c.kids.length - (intOf iv).toNat)
 case atStart=>exact⟨0,[],[],[],[],rfl,Nat.zero_le _,rfl,T0.out,B0.out⟩
 case round =>
  obtain⟨i,xs,ys,sx,sy,rfl,hil,hsy,hT,hB⟩:=hrel
  have hlen:=saysL_len hsy
  simp only[List.length_take] at hlen
  have hxl:xs.length=i:=by omega
  have hyl:ys.length=i:=by omega
  have HXL:=Lib.hid hxl
  have HYL:=Lib.hid hyl
  obtain⟨la,lc,rfl⟩:=own_form hT.one.own
  obtain⟨ra,rc,rfl⟩:=own_form hT.two.own
  have TH:=Lib.hid hT
  have BH:=Lib.hid hB
  have SY:=Lib.hid hsy
  have z0:(0:Int)≤(i:Int):=by omega
  by_cases hi:i<c.kids.length
  ·have z1:(i:Int)<(c.kids.length:Int):=by omega
   obtain⟨b,off,a1,n1,a2,n2,rfl,hb,hf,hs,hk⟩:=HC.out.k.at_ hi
   have hn:=HS.out
   obtain⟨f0,f1,f2,f3,f4,f5,f6,f7⟩:=hf.keep (hB.block b (hn b hb))
   have hzr:=(Below.refl wr.heap.size wr).alloc (Nat.le_refl _) (.cells #[.int .i64 c.kids[i].kind,.string c.kids[i].name,.int .i64 c.kids[i].n,.int .i64 c.kids[i].t.kind,.string c.kids[i].t.name,.int .i64 c.kids[i].t.n,.slice a1 c.kids[i].t.args.length n1,.slice a2 c.kids[i].kids.length n2] 33)
   have hB1:=hB.trans (hzr.mono hB.size)
   have CH:=Lib.hid (HAT.out c.kids[i] (List.getElem_mem hi) a1 n1 a2 n2 _ hB1 ⟨hs.keep fun b hS=>hB1.block b (hn b hS),hk.keep fun b hS=>hB1.block b (hn b hS)⟩)
   have TK:=Lib.hid (saysL_take (f:=f) c.kids i hi)
   have NO:Hid (f c.kids[i]=none→saysL f c.kids=none):=Lib.hid fun e=>saysL_none (List.getElem_mem hi) e
   have T1:=Lib.hid (hT.low hzr)
   have HB1:=Lib.hid hB1
   unfold cv at CH
   clear hf hs hk hzr hB1 hn hb hT hB hsy hlen hxl hyl
   generalize c.kids[i]=x at *
   go_wp2_with fail
   refine CH.out.mono ?_
   rintro e w4 ⟨hb4,hres⟩
   cases hx:f x with
   | none =>
    rw[hx] at hres
    subst hres
    have E:=Lib.hid (NO.out hx)
    have HB4:=Lib.hid (HB1.out.trans (hb4.mono HB1.out.size))
    clear hx hb4
    go_wp2
    refine⟨rfl,?_⟩
    rw[E.out]
    exact⟨HB4.out,rfl⟩
   | some pq =>
    obtain⟨p,q⟩:=pq
    rw[hx] at hres
    obtain⟨pa,pc,qa,qc,rfl,hP,hQ⟩:=hres
    have HX:=Lib.hid hx
    have T4:=Lib.hid (T1.out.low hb4)
    have P4:=Lib.hid (T1.out.new hP)
    have Q4:=Lib.hid (T1.out.new hQ)
    have HB4:=Lib.hid (HB1.out.trans (hb4.mono HB1.out.size))
    clear hx hb4 hP hQ
    unfold tv
    go_wp2
    have hxe:Hid (xs.length≤4000∧ys.length≤4000):=Lib.hid ⟨by have:=HL.out;have:=HXL.out;omega,by have:=HL.out;have:=HYL.out;omega⟩
    have hx5:=((Below.refl w4.heap.size w4).alloc (Nat.le_refl _) (.cells #[.int .i64 p.kind,.string p.name,.int .i64 p.n,.slice pa p.args.length pc] 30)).alloc (by simp) (.cells #[.int .i64 q.kind,.string q.name,.int .i64 q.n,.slice qa q.args.length qc] 30)
    have px:=(B4.new w4 (.int .i64 p.kind) (.string p.name) (.int .i64 p.n) (.slice pa p.args.length pc)).low ((Below.refl _ _).alloc (Nat.le_refl _) (.cells #[.int .i64 q.kind,.string q.name,.int .i64 q.n,.slice qa q.args.length qc] 30))
    have qx:B4 ((w4.alloc (.cells #[.int .i64 p.kind,.string p.name,.int .i64 p.n,.slice pa p.args.length pc] 30)).alloc (.cells #[.int .i64 q.kind,.string q.name,.int .i64 q.n,.slice qa q.args.length qc] 30)) (w4.heap.size+1) (.int .i64 q.kind) (.string q.name) (.int .i64 q.n) (.slice qa q.args.length qc):=alloc_new (by simp)
    have T5:=Lib.hid (T4.out.low hx5)
    have P5:=Lib.hid (T4.out.keepA P4.out hx5)
    have Q5:=Lib.hid (T4.out.keepA Q4.out hx5)
    have p0:=px.c0
    have p1:=px.c1
    have p2:=px.c2
    have p3:=px.c3
    have q0:=qx.c0
    have q1:=qx.c1
    have q2:=qx.c2
    have q3:=qx.c3
    have N1:Hid (∀ b,(Value.slice la xs.length lc).ownBlock=some b→b<w4.heap.size):=Lib.hid fun b e=>(T4.out.one.own.lt b e).2
    have N2:Hid (∀ b,(Value.slice ra ys.length rc).ownBlock=some b→b<w4.heap.size):=Lib.hid fun b e=>(T4.out.two.own.lt b e).2
    have N11:Hid (∀ b,(Value.slice la xs.length lc).ownBlock=some b→w.heap.size+1≤b):=Lib.hid fun b e=>(T4.out.one.own.lt b e).1
    have N21:Hid (∀ b,(Value.slice ra ys.length rc).ownBlock=some b→w.heap.size+1≤b):=Lib.hid fun b e=>(T4.out.two.own.lt b e).1
    have H5:=Lib.hid (HB4.out.trans (hx5.mono HB4.out.size))
    have hw45:=HB4.out.size
    clear hx5
    go_region_law (first
     | ((refine step_append_any (by rfl) _ _ _ (by rfl) (by rfl) (by rfl) (Two.app (T5.out.low (by first|exact (Below.refl _ _).drew.alloc (by simp) _|exact ((Below.refl _ _).drew.alloc (by simp) _).alloc (by simp<;>omega) _)) _ (by first|exact alloc_new (by simp)|exact (heap_alloc_old _ _ (by simp)).trans (alloc_new (by simp))) (T5.out.keepA P5.out (by first|exact (Below.refl _ _).drew.alloc (by simp) _|exact ((Below.refl _ _).drew.alloc (by simp) _).alloc (by simp<;>omega) _)) hxe.out.1) ?_);rintro v7 w7 ⟨hT7,hG7,hA7⟩;have o7:=Two.growA (T5.out.low (by first|exact (Below.refl _ _).drew.alloc (by simp) _|exact ((Below.refl _ _).drew.alloc (by simp) _).alloc (by simp<;>omega) _)) (T5.out.keepA Q5.out (by first|exact (Below.refl _ _).drew.alloc (by simp) _|exact ((Below.refl _ _).drew.alloc (by simp) _).alloc (by simp<;>omega) _)) hG7 hA7;have x7:=(qx.low (by first|exact (Below.refl _ _).drew.alloc (by simp) _|exact ((Below.refl _ _).drew.alloc (by simp) _).alloc (by simp<;>omega) _)).grown hG7 (fun e=>by have:=N1.out _ e;omega);have s0:=x7.c0;have s1:=x7.c1;have s2:=x7.c2;have s3:=x7.c3;have T7:=Lib.hid hT7;have O7:=Lib.hid o7;have HG7:=Lib.hid hG7;have HB7:Hid (Below w.heap.size w w7):=Lib.hid ((H5.out.trans (by first|exact (Below.refl _ _).drew.alloc (by simp<;>omega) _|exact ((Below.refl _ _).drew.alloc (by simp<;>omega) _).alloc (by simp<;>omega) _)).grown hG7 (by simp<;>omega) (fun k e=>by have:=N11.out _ e;omega));obtain⟨va7,vc7,hv7⟩:=own_form hT7.one.own;rw[List.length_append,List.length_singleton] at hv7;subst hv7;have hz7:w4.heap.size<w7.heap.size:=by have:=hG7.size;simp at this;omega)
     | ((refine step_append_any (by rfl) _ _ _ (by rfl) (by rfl) (by rfl) (Two.app (T5.out.low (by first|exact (Below.refl _ _).drew.alloc (by simp) _|exact ((Below.refl _ _).drew.alloc (by simp) _).alloc (by simp<;>omega) _)).turn _ (by first|exact alloc_new (by simp)|exact (heap_alloc_old _ _ (by simp)).trans (alloc_new (by simp))) ((T5.out.keepA Q5.out (by first|exact (Below.refl _ _).drew.alloc (by simp) _|exact ((Below.refl _ _).drew.alloc (by simp) _).alloc (by simp<;>omega) _)).mono fun _ h=>⟨h.1,h.2.2,h.2.1⟩) hxe.out.2) ?_);rintro v7 w7 ⟨hT7,hG7,hA7⟩;have o7:=Two.growA (T5.out.low (by first|exact (Below.refl _ _).drew.alloc (by simp) _|exact ((Below.refl _ _).drew.alloc (by simp) _).alloc (by simp<;>omega) _)).turn ((T5.out.keepA P5.out (by first|exact (Below.refl _ _).drew.alloc (by simp) _|exact ((Below.refl _ _).drew.alloc (by simp) _).alloc (by simp<;>omega) _)).mono fun _ h=>⟨h.1,h.2.2,h.2.1⟩) hG7 hA7;have x7:=(px.low (by first|exact (Below.refl _ _).drew.alloc (by simp) _|exact ((Below.refl _ _).drew.alloc (by simp) _).alloc (by simp<;>omega) _)).grown hG7 (fun e=>by have:=N2.out _ e;omega);have s0:=x7.c0;have s1:=x7.c1;have s2:=x7.c2;have s3:=x7.c3;have T7:=Lib.hid hT7;have O7:=Lib.hid o7;have HG7:=Lib.hid hG7;have HB7:Hid (Below w.heap.size w w7):=Lib.hid ((H5.out.trans (by first|exact (Below.refl _ _).drew.alloc (by simp<;>omega) _|exact ((Below.refl _ _).drew.alloc (by simp<;>omega) _).alloc (by simp<;>omega) _)).grown hG7 (by simp<;>omega) (fun k e=>by have:=N21.out _ e;omega));obtain⟨va7,vc7,hv7⟩:=own_form hT7.one.own;rw[List.length_append,List.length_singleton] at hv7;subst hv7;have hz7:w4.heap.size<w7.heap.size:=by have:=hG7.size;simp at this;omega)
     | ((refine step_append_any (by rfl) _ _ _ (by rfl) (by rfl) (by rfl) (Two.app (T7.out.low (by first|exact Below.refl _ _|exact (Below.refl _ _).alloc (Nat.le_refl _) _)).turn _ (by first|exact alloc_new (by simp)|exact (HG7.out.block _ (by simp<;>omega) (fun e=>by have:=N1.out _ e.symm;omega)).trans (by first|exact alloc_new (by simp)|exact (heap_alloc_old _ _ (by simp)).trans (alloc_new (by simp)))) ((T7.out.keepA O7.out (by first|exact Below.refl _ _|exact (Below.refl _ _).alloc (Nat.le_refl _) _)).mono fun _ h=>⟨h.1,h.2.2,h.2.1⟩) hxe.out.2) ?_);rintro v8 w8 ⟨hT8,hG8,hA8⟩;have T9:=Lib.hid hT8;have HB9:Hid (Below w.heap.size w w8):=Lib.hid ((HB7.out.trans (by first|exact Below.refl _ _|exact (Below.refl _ _).alloc HB7.out.size _)).grown hG8 (by have:=HB7.out.size;simp;omega) (fun k e=>by have:=(T7.out.two.own.lt k e).1;omega));obtain⟨va8,vc8,hv8⟩:=own_form hT8.one.own;rw[List.length_append,List.length_singleton] at hv8;subst hv8;clear hT7 hG7 hA7 o7 x7 hT8 hG8 hA8)
     | ((refine step_append_any (by rfl) _ _ _ (by rfl) (by rfl) (by rfl) (Two.app (T7.out.low (by first|exact Below.refl _ _|exact (Below.refl _ _).alloc (Nat.le_refl _) _)).turn _ (by first|exact alloc_new (by simp)|exact (HG7.out.block _ (by simp<;>omega) (fun e=>by have:=N2.out _ e.symm;omega)).trans (by first|exact alloc_new (by simp)|exact (heap_alloc_old _ _ (by simp)).trans (alloc_new (by simp)))) ((T7.out.keepA O7.out (by first|exact Below.refl _ _|exact (Below.refl _ _).alloc (Nat.le_refl _) _)).mono fun _ h=>⟨h.1,h.2.2,h.2.1⟩) hxe.out.1) ?_);rintro v8 w8 ⟨hT8,hG8,hA8⟩;have T9:=Lib.hid hT8;have HB9:Hid (Below w.heap.size w w8):=Lib.hid ((HB7.out.trans (by first|exact Below.refl _ _|exact (Below.refl _ _).alloc HB7.out.size _)).grown hG8 (by have:=HB7.out.size;simp;omega) (fun k e=>by have:=(T7.out.two.own.lt k e).1;omega));obtain⟨va8,vc8,hv8⟩:=own_form hT8.one.own;rw[List.length_append,List.length_singleton] at hv8;subst hv8;clear hT7 hG7 hA7 o7 x7 hT8 hG8 hA8))
    all_goals
     go_wp2
     go_roundw
     case measure=>simp[intOf];omega
     case rel=>exact⟨i+1,xs++[p],ys++[q],_,_,by go_num,by omega,by rw[TK.out,SY.out];simp only[HX.out],(by first|exact T9.out|exact T9.out.turn),HB9.out⟩
  ·obtain rfl:i=c.kids.length:=by omega
   rw[List.take_length] at hsy
   have E:=Lib.hid hsy
   clear hT hB hsy hlen SY hxl hyl
   go_wp2
   go_ret2
   refine⟨BH.out,?_⟩
   rw[E.out]
   exact⟨la,lc,ra,rc,by first|rfl|(rw[HXL.out,HYL.out];rfl),TH.out.one.args (by have:=HXL.out;have:=HL.out;omega) (fun b hb=>hb.1.imp id fun h=>⟨by omega,h.2⟩) (fun b h1 h2=>.inr ⟨by omega,h2⟩),TH.out.two.args (by have:=HYL.out;have:=HL.out;omega) (fun b hb=>hb.1.imp id fun h=>⟨by omega,h.2⟩) (fun b h1 h2=>.inr ⟨by omega,h2⟩)⟩
end Go.Proofs.YtkihnodkhnahiaaGreatDoor.Tp

/- Packed. -/
import Derived.Laws.IdiomStrings
import Derived.Test.YtkihnodkhnahiaaGreatDoorP32
set_option maxRecDepth 100000
set_option maxHeartbeats 6400000
namespace Go.Proofs.YtkihnodkhnahiaaGreatDoor.Tp
section
open Go.RowKit
theorem gx_ (W:World)(b r:Nat)(hr:r<10)(h:W.cell? ⟨b,0,none⟩=some (.int .u8 (48+(r:Int)))) :
  (convert 131 9 (.slice (some ⟨b,0,none⟩) 1 1)).run Tryz.prog W=.ok (.string ⟨#[UInt8.ofNat (48+r)]⟩) W:=by
 refine run_convert_bytes_back W 131 9 5 ⟨b,0,none⟩ 1 [UInt8.ofNat (48+r)] Tryz.underlying131 Tryz.underlying5 Tryz.underlying9 (fun j hj=>?_);have hj0:j=0:=by simp at hj;omega
 subst hj0;show W.cell? ((⟨b,0,none⟩:Addr).add 0)=_;rw[show (⟨b,0,none⟩:Addr).add 0=⟨b,0,none⟩ from rfl,h];congr 2;show (48+(r:Int))=((UInt8.ofNat (48+r)).toNat:Int);rw[UInt8.toNat_ofNat'];omega
theorem gy_ (w:World)(v:Value)(t:TypeId):(w.alloc (.cells #[v] t)).cell? ⟨w.heap.size,0,none⟩=some v:=cell_of_row _ _ 0 _ _ _ (heap_alloc_new w _)
theorem iD_ (n:Nat)(h:n<10)(w:World):Calls Tryz.prog 48 #[.int .i64 n] w (aQ_ w (Lib.decDigits n)):=by
 have h1:(n:Int)<10:=by omega
 have h0:(0:Int)≤(n:Int):=by omega
 have hc:=gx_ _ _ n h (gy_ w (.int .u8 (48+(n:Int))) 5);have E:Hid (Lib.decDigits n=[UInt8.ofNat (48+n)]):=hid (by rw[Lib.decDigits,dif_pos h]);have HZ:=hid (ao_ w (.cells #[.int .u8 (48+(n:Int))] 5));clear h;generalize UInt8.ofNat (48+n)=x at *;go_enter Tryz.func48,Tryz.ntmps48;go_wp2;go_ret;exact⟨by rw[E.out];rfl,HZ.out⟩
theorem kq_ (N:Int)(q r:Nat)(h10:¬ N<10)(hq:N.tdiv 10=(q:Int))(hr:N.tmod 10=(r:Int))(hr10:r<10)(hqb:q≤1000000000000000000)(w:World)(ih:∀ w,Calls Tryz.prog 48 #[.int .i64 (q:Int)] w (aQ_ w (Lib.decDigits q)))(hl:(Lib.decDigits q).length≤100) :
  Calls Tryz.prog 48 #[.int .i64 N] w (aQ_ w (Lib.decDigits q++[UInt8.ofNat (48+r)])):=by
 have hrI:(r:Int)<10:=by omega
 have hrJ:(0:Int)≤(r:Int):=by omega
 have hw1:IntKind.i64.wrap (q:Int)=(q:Int):=by rw[IntKind.wrap_i64];omega
 have hw2:IntKind.i64.wrap (48+(r:Int))=48+(r:Int):=by rw[IntKind.wrap_i64];omega
 have hw3:IntKind.u8.wrap (48+(r:Int))=48+(r:Int):=by rw[IntKind.wrap_u8];omega
 have hsz:(aa_ (Lib.decDigits q)).size≤100:=by rw[am_];exact hl
 have hc:=gx_ ((w.alloc (.cells #[.int .u8 (48+(r:Int))] 5)).drew) w.heap.size r hr10 (gy_ w (.int .u8 (48+(r:Int))) 5);have F:Hid (aa_ (Lib.decDigits q)++⟨#[UInt8.ofNat (48+r)]⟩=aa_ (Lib.decDigits q++[UInt8.ofNat (48+r)])):=hid (ah_ _ _);have HD:=hid ((Below.refl w.heap.size w).drew);have HDA:=hid ((ao_ w (.cells #[.int .u8 (48+(r:Int))] 5)).drew);have IHA:=hid (ih ((w.alloc (.cells #[.int .u8 (48+(r:Int))] 5)).drew));have IHB:=hid (ih w.drew);have HX1:=hid (fun (W:World)=>gx_ _ _ r hr10 (gy_ W (.int .u8 (48+(r:Int))) 5));have HX2:=hid (fun (W:World) (hb:Below ((w.alloc (.cells #[.int .u8 (48+(r:Int))] 5)).drew).heap.size ((w.alloc (.cells #[.int .u8 (48+(r:Int))] 5)).drew) W)=>gx_ W w.heap.size r hr10 ((hb.cell (p:=⟨w.heap.size,0,none⟩) (by simp)).trans (gy_ w (.int .u8 (48+(r:Int))) 5)));clear ih hr10 hl;unfold aQ_ at IHA IHB;generalize UInt8.ofNat (48+r)=x at *;generalize aa_ (Lib.decDigits q)=sq at *;go_enter Tryz.func48,Tryz.ntmps48;go_wp2_with fail
 go_region_with
  (first
   | (go_at_call 48;(try simp only[hw1,hw2,hw3]);(with_reducible refine IHA.out.mono ?_);rintro e w1 ⟨rfl,hb1⟩;have hA2:=HX2.out w1 hb1;have HB:=hid (HDA.out.trans (hb1.mono HDA.out.size)))
   | (go_at_call 48;(try simp only[hw1,hw2,hw3]);(with_reducible refine IHB.out.mono ?_);rintro e w1 ⟨rfl,hb1⟩;have hA1:=HX1.out w1;have HB:=hid (HD.out.trans (hb1.mono HD.out.size))))
 all_goals
  go_wp2;go_ret;refine⟨by rw[← F.out];rfl,?_⟩
  first
   | exact HB.out
   | exact HB.out.alloc HB.out.size _
theorem hc_:∀ (n:Nat),n<1000000000000000000→∀ w:World,Calls Tryz.prog 48 #[.int .i64 n] w (aQ_ w (Lib.decDigits n)):=by
 intro n
 induction n using Nat.strongRecOn with
 | _ n ih =>
  intro hn w
  by_cases h:n<10
  ·exact iD_ n h w
  ·have e:Lib.decDigits n=Lib.decDigits (n / 10)++[UInt8.ofNat (48+n % 10)]:=by rw[Lib.decDigits,dif_neg h]
   rw[e];refine kq_ n (n / 10) (n % 10) (by omega) ?_ ?_ (by omega) (by omega) w (ih (n / 10) (by omega) (by omega)) ?_
   ·rw[Int.tdiv_eq_ediv_of_nonneg (by omega)];omega
   ·rw[Int.tmod_eq_emod_of_nonneg (by omega)];omega
   ·have:=(e4_ (n / 10)).2.2.2 18 (by omega) (show n / 10<10 ^ 18 by omega)
    omega
end
section
open Lx
theorem pJ_ (n:Nat):Lib.itoa (n:Int)=Lib.decDigits n:=by
 rw[Lib.itoa_nonneg]
end
section
open Go.RowKit Go.Sort
def ba_ (t:Ty):Prop:=∀ (S:Nat→Prop) (a:OA_) (c:Nat) (w:World),ac_ S w (.slice a t.args.length c) t.args→(∀ b,S b→b<w.heap.size)→Wf t→(ae_ t).length≤4500000000000 →
  Calls Tryz.prog 47 #[tv t a c] w (aQ_ w (ae_ t))
theorem lU_ (t:Ty)(hk:t.kind=1)(a:OA_)(c:Nat)(w:World):Calls Tryz.prog 47 #[tv t a c] w (aQ_ w (ae_ t)):=by
 have E:Hid (aa_ (ae_ t)=t.name):=hid (by rw[bj_,hk];rfl);have HZ:=hid (ao_ w (.cells #[.int .i64 t.kind,.string t.name,.int .i64 t.n,.slice a t.args.length c] 56));have b4:=R4.new w (.int .i64 t.kind) (.string t.name) (.int .i64 t.n) (.slice a t.args.length c);unfold tv;generalize t.args.length=n at *;rw[hk] at *;have c0:=b4.c0;have c1:=b4.c1;clear b4;go_enter Tryz.func47,Tryz.ntmps47;go_wp2;go_ret;exact⟨by rw[E.out];rfl,HZ.out⟩
theorem j1_ (t:Ty)(hk:t.kind=2)(h0:0≤t.n)(h1:t.n<1000000000000000000)(a:OA_)(c:Nat)(w:World):Calls Tryz.prog 47 #[tv t a c] w (aQ_ w (ae_ t)):=by
 obtain⟨m,hm⟩:∃ m:Nat,t.n=(m:Int):=⟨t.n.toNat,by omega⟩;have E:Hid (ae_ t=63 :: Lib.decDigits m):=hid (by rw[bj_,hk,hm,← pJ_];rfl);have hz:=ao_ w (.cells #[.int .i64 t.kind,.string t.name,.int .i64 t.n,.slice a t.args.length c] 56);have C:=hid (hc_ m (by omega));have HZ:=hid hz;have b4:=R4.new w (.int .i64 t.kind) (.string t.name) (.int .i64 t.n) (.slice a t.args.length c);have hlen:=(e4_ m).2.2.2 18 (by omega) (show m<10 ^ 18 by omega);have z1:(aa_ (Lib.decDigits m)).size≤21:=by rw[am_];omega
 clear hz hlen;unfold tv;generalize t.args.length=n at *;rw[hk,hm] at *;have c0:=b4.c0;have c2:=b4.c2;clear b4 h0 h1 hm;go_enter Tryz.func47,Tryz.ntmps47;go_wp2_with fail;refine (C.out _).mono ?_;rintro e w1 ⟨rfl,hb⟩;have G:=hid (HZ.out.trans (hb.mono HZ.out.size));have F:Hid ((⟨#[63]⟩:ByteArray)++aa_ (Lib.decDigits m)=aa_ (ae_ t)):=hid (by
  rw[E.out];show aa_ [63]++_=_;rw[ah_];rfl)
 clear hb;generalize aa_ (Lib.decDigits m)=s at *;go_wp2;go_ret;exact⟨by rw[← F.out];rfl,G.out⟩
theorem j3_ (t:Ty)(hk:t.kind=4)(x y:Ty)(hxy:t.args=[x,y])(hq:x.kind=4)(ihx:ba_ x)(ihy:ba_ y):ba_ t:=by
 intro S a c w hA hS hw hl;have hz:=ao_ w (.cells #[.int .i64 t.kind,.string t.name,.int .i64 t.n,.slice a t.args.length c] 56);have E:Hid (ae_ t=[40]++ae_ x++[41,32,45,62,32]++ae_ y):=hid (by
  rw[bj_,hk,hxy];show cj_ (decide (x.kind<4)) (ae_ x)++[32,45,62,32]++ae_ y=_;unfold cj_;rw[if_neg (by simp;omega)];simp)
 have hlen:(ae_ x).length+6+(ae_ y).length≤4500000000002:=by rw[E.out] at hl;simp at hl;omega
 have hwf:=(bq_ t).1 hw;have hwx:Wf x:=hwf.2 x (by rw[hxy];simp);have hwy:Wf y:=hwf.2 y (by rw[hxy];simp);obtain⟨b,off,a0,p0,rfl,hb,⟨f0,f1,f2,f3⟩,hs0⟩:=hA.at_ (i:=0) (by rw[hxy];simp);obtain⟨b',off',a1,p1,he,_,⟨g0,g1,g2,g3⟩,hs1⟩:=hA.at_ (i:=1) (by rw[hxy];simp);simp only[Option.some.injEq,Addr.mk.injEq] at he;obtain⟨rfl,rfl,_⟩:=he;simp only[hxy,List.getElem_cons_zero,List.getElem_cons_succ,Nat.zero_mul,Nat.add_zero,Nat.one_mul,Nat.add_assoc,Nat.reduceAdd] at f0 f1 f2 f3 g0 g1 g2 g3 hs0 hs1;have CX:=hid (fun (W:World) (h:Below w.heap.size w W)=>ihx S a0 p0 W (hs0.keep (fun b hb=>h.block b (hS b hb))) (fun b hb=>aX_ (hS b hb) h.size) hwx (by omega));have CY:=hid (fun (W:World) (h:Below w.heap.size w W)=>ihy S a1 p1 W (hs1.keep (fun b hb=>h.block b (hS b hb))) (fun b hb=>aX_ (hS b hb) h.size) hwy (by omega));have b4:=R4.new w (.int .i64 t.kind) (.string t.name) (.int .i64 t.n) (.slice (some ⟨b,off,none⟩) t.args.length c);have hbl:=hS b hb;have hln:t.args.length=2:=by rw[hxy];rfl
 have hz2:=hz;rw[hln,hk] at hz2;have HZ:=hid hz2;have DX:=hid (fun p=>ce_ (CX.out _ (HZ.out.trans ((az_ _ p).mono HZ.out.size))));have DY:=hid (fun p=>ce_ (CY.out _ (HZ.out.trans ((az_ _ p).mono HZ.out.size))));have hsx:(aa_ (ae_ x)).size+6+(aa_ (ae_ y)).size≤4500000000002:=by rw[am_,am_];omega
 have F:Hid (⟨#[40]⟩++aa_ (ae_ x)++⟨#[41,32,45,62,32]⟩++aa_ (ae_ y)=aa_ (ae_ t)):=hid (by
  rw[E.out];show aa_ [40]++aa_ _++aa_ [41,32,45,62,32]++aa_ _=_;rw[ah_,ah_,ah_])
 have c0:=b4.c0;have c3:=b4.c3;have hz3:=hz;rw[hln,hk] at hz3 c0 c3;have j4:=(hz3.cell (p:=⟨b,off,none⟩) hbl).trans f0;have k3:=ai_ c3;have k4:=ai_ j4;have k5:=ai_ ((hz3.cell (p:=⟨b,off+1,none⟩) hbl).trans f1);have k6:=ai_ ((hz3.cell (p:=⟨b,off+2,none⟩) hbl).trans f2);have k7:=ai_ ((hz3.cell (p:=⟨b,off+3,none⟩) hbl).trans f3);have k8:=ai_ ((hz3.cell (p:=⟨b,off+4,none⟩) hbl).trans g0);have k9:=ai_ ((hz3.cell (p:=⟨b,off+5,none⟩) hbl).trans g1);have k10:=ai_ ((hz3.cell (p:=⟨b,off+6,none⟩) hbl).trans g2);have k11:=ai_ ((hz3.cell (p:=⟨b,off+7,none⟩) hbl).trans g3);have e4:(x.kind==4)=true:=by rw[hq];rfl
 unfold tv at DX DY ⊢;unfold aQ_;rw[hln,hk] at *;clear hA hw hl E hlen hwf hwx hwy hs0 hs1 b4 hz hz2 hz3 ihx ihy f0 f1 f2 f3 g0 g1 g2 g3 hxy hln hk hS hq;go_enter Tryz.func47,Tryz.ntmps47;go_wp2;clear c0 c3 j4;refine bb_ (by kernel_rfl) (by kernel_rfl) ?_
 repeat (go_big_quiet_step ((first|(with_reducible exact DX.out _)|(with_reducible exact DY.out _))))
 refine wpQuiet_nil ?_;intro _ hw';obtain⟨pq,hw''⟩:=hw';subst hw'';go_wp2;go_ret;exact⟨by rw[F.out];rfl,HZ.out.trans ((az_ _ _).mono HZ.out.size)⟩
theorem j2_ (t:Ty)(hk:t.kind=4)(x y:Ty)(hxy:t.args=[x,y])(hq:x.kind=5)(ihx:ba_ x)(ihy:ba_ y):ba_ t:=by
 intro S a c w hA hS hw hl;have hz:=ao_ w (.cells #[.int .i64 t.kind,.string t.name,.int .i64 t.n,.slice a t.args.length c] 56);have E:Hid (ae_ t=[40]++ae_ x++[41,32,45,62,32]++ae_ y):=hid (by
  rw[bj_,hk,hxy];show cj_ (decide (x.kind<4)) (ae_ x)++[32,45,62,32]++ae_ y=_;unfold cj_;rw[if_neg (by simp;omega)];simp)
 have hlen:(ae_ x).length+6+(ae_ y).length≤4500000000002:=by rw[E.out] at hl;simp at hl;omega
 have hwf:=(bq_ t).1 hw;have hwx:Wf x:=hwf.2 x (by rw[hxy];simp);have hwy:Wf y:=hwf.2 y (by rw[hxy];simp);obtain⟨b,off,a0,p0,rfl,hb,⟨f0,f1,f2,f3⟩,hs0⟩:=hA.at_ (i:=0) (by rw[hxy];simp);obtain⟨b',off',a1,p1,he,_,⟨g0,g1,g2,g3⟩,hs1⟩:=hA.at_ (i:=1) (by rw[hxy];simp);simp only[Option.some.injEq,Addr.mk.injEq] at he;obtain⟨rfl,rfl,_⟩:=he;simp only[hxy,List.getElem_cons_zero,List.getElem_cons_succ,Nat.zero_mul,Nat.add_zero,Nat.one_mul,Nat.add_assoc,Nat.reduceAdd] at f0 f1 f2 f3 g0 g1 g2 g3 hs0 hs1;have CX:=hid (fun (W:World) (h:Below w.heap.size w W)=>ihx S a0 p0 W (hs0.keep (fun b hb=>h.block b (hS b hb))) (fun b hb=>aX_ (hS b hb) h.size) hwx (by omega));have CY:=hid (fun (W:World) (h:Below w.heap.size w W)=>ihy S a1 p1 W (hs1.keep (fun b hb=>h.block b (hS b hb))) (fun b hb=>aX_ (hS b hb) h.size) hwy (by omega));have b4:=R4.new w (.int .i64 t.kind) (.string t.name) (.int .i64 t.n) (.slice (some ⟨b,off,none⟩) t.args.length c);have hbl:=hS b hb;have hln:t.args.length=2:=by rw[hxy];rfl
 have hz2:=hz;rw[hln,hk] at hz2;have HZ:=hid hz2;have DX:=hid (fun p=>ce_ (CX.out _ (HZ.out.trans ((az_ _ p).mono HZ.out.size))));have DY:=hid (fun p=>ce_ (CY.out _ (HZ.out.trans ((az_ _ p).mono HZ.out.size))));have hsx:(aa_ (ae_ x)).size+6+(aa_ (ae_ y)).size≤4500000000002:=by rw[am_,am_];omega
 have F:Hid (⟨#[40]⟩++aa_ (ae_ x)++⟨#[41,32,45,62,32]⟩++aa_ (ae_ y)=aa_ (ae_ t)):=hid (by
  rw[E.out];show aa_ [40]++aa_ _++aa_ [41,32,45,62,32]++aa_ _=_;rw[ah_,ah_,ah_])
 have c0:=b4.c0;have c3:=b4.c3;have hz3:=hz;rw[hln,hk] at hz3 c0 c3;have j4:=(hz3.cell (p:=⟨b,off,none⟩) hbl).trans f0;have k3:=ai_ c3;have k4:=ai_ j4;have k5:=ai_ ((hz3.cell (p:=⟨b,off+1,none⟩) hbl).trans f1);have k6:=ai_ ((hz3.cell (p:=⟨b,off+2,none⟩) hbl).trans f2);have k7:=ai_ ((hz3.cell (p:=⟨b,off+3,none⟩) hbl).trans f3);have k8:=ai_ ((hz3.cell (p:=⟨b,off+4,none⟩) hbl).trans g0);have k9:=ai_ ((hz3.cell (p:=⟨b,off+5,none⟩) hbl).trans g1);have k10:=ai_ ((hz3.cell (p:=⟨b,off+6,none⟩) hbl).trans g2);have k11:=ai_ ((hz3.cell (p:=⟨b,off+7,none⟩) hbl).trans g3);have e4:(x.kind==4)=false:=by rw[hq];rfl
 have e5:(x.kind==5)=true:=by rw[hq];rfl
 unfold tv at DX DY ⊢;unfold aQ_;rw[hln,hk] at *;clear hA hw hl E hlen hwf hwx hwy hs0 hs1 b4 hz hz2 hz3 ihx ihy f0 f1 f2 f3 g0 g1 g2 g3 hxy hln hk hS hq;go_enter Tryz.func47,Tryz.ntmps47;go_wp2;clear c0 c3 j4;refine bb_ (by kernel_rfl) (by kernel_rfl) ?_
 repeat (go_big_quiet_step ((first|(with_reducible exact DX.out _)|(with_reducible exact DY.out _))))
 refine wpQuiet_nil ?_;intro _ hw';obtain⟨pq,hw''⟩:=hw';subst hw'';go_wp2;go_ret;exact⟨by rw[F.out];rfl,HZ.out.trans ((az_ _ _).mono HZ.out.size)⟩
theorem j4_ (t:Ty)(hk:t.kind=4)(x y:Ty)(hxy:t.args=[x,y])(hq:x.kind<4)(ihx:ba_ x)(ihy:ba_ y):ba_ t:=by
 intro S a c w hA hS hw hl;have hz:=ao_ w (.cells #[.int .i64 t.kind,.string t.name,.int .i64 t.n,.slice a t.args.length c] 56);have E:Hid (ae_ t=ae_ x++[32,45,62,32]++ae_ y):=hid (by
  rw[bj_,hk,hxy];show cj_ (decide (x.kind<4)) (ae_ x)++[32,45,62,32]++ae_ y=_;unfold cj_;rw[if_pos (by simp;omega)]
  skip)
 have hlen:(ae_ x).length+6+(ae_ y).length≤4500000000002:=by rw[E.out] at hl;simp at hl;omega
 have hwf:=(bq_ t).1 hw;have hwx:Wf x:=hwf.2 x (by rw[hxy];simp);have hwy:Wf y:=hwf.2 y (by rw[hxy];simp);obtain⟨b,off,a0,p0,rfl,hb,⟨f0,f1,f2,f3⟩,hs0⟩:=hA.at_ (i:=0) (by rw[hxy];simp);obtain⟨b',off',a1,p1,he,_,⟨g0,g1,g2,g3⟩,hs1⟩:=hA.at_ (i:=1) (by rw[hxy];simp);simp only[Option.some.injEq,Addr.mk.injEq] at he;obtain⟨rfl,rfl,_⟩:=he;simp only[hxy,List.getElem_cons_zero,List.getElem_cons_succ,Nat.zero_mul,Nat.add_zero,Nat.one_mul,Nat.add_assoc,Nat.reduceAdd] at f0 f1 f2 f3 g0 g1 g2 g3 hs0 hs1;have CX:=hid (fun (W:World) (h:Below w.heap.size w W)=>ihx S a0 p0 W (hs0.keep (fun b hb=>h.block b (hS b hb))) (fun b hb=>aX_ (hS b hb) h.size) hwx (by omega));have CY:=hid (fun (W:World) (h:Below w.heap.size w W)=>ihy S a1 p1 W (hs1.keep (fun b hb=>h.block b (hS b hb))) (fun b hb=>aX_ (hS b hb) h.size) hwy (by omega));have b4:=R4.new w (.int .i64 t.kind) (.string t.name) (.int .i64 t.n) (.slice (some ⟨b,off,none⟩) t.args.length c);have hbl:=hS b hb;have hln:t.args.length=2:=by rw[hxy];rfl
 have hz2:=hz;rw[hln,hk] at hz2;have HZ:=hid hz2;have DX:=hid (fun p=>ce_ (CX.out _ (HZ.out.trans ((az_ _ p).mono HZ.out.size))));have DY:=hid (fun p=>ce_ (CY.out _ (HZ.out.trans ((az_ _ p).mono HZ.out.size))));have hsx:(aa_ (ae_ x)).size+6+(aa_ (ae_ y)).size≤4500000000002:=by rw[am_,am_];omega
 have F:Hid (aa_ (ae_ x)++⟨#[32,45,62,32]⟩++aa_ (ae_ y)=aa_ (ae_ t)):=hid (by
  rw[E.out];show aa_ _++aa_ [32,45,62,32]++aa_ _=_;rw[ah_,ah_])
 have c0:=b4.c0;have c3:=b4.c3;have hz3:=hz;rw[hln,hk] at hz3 c0 c3;have j4:=(hz3.cell (p:=⟨b,off,none⟩) hbl).trans f0;have k3:=ai_ c3;have k4:=ai_ j4;have k5:=ai_ ((hz3.cell (p:=⟨b,off+1,none⟩) hbl).trans f1);have k6:=ai_ ((hz3.cell (p:=⟨b,off+2,none⟩) hbl).trans f2);have k7:=ai_ ((hz3.cell (p:=⟨b,off+3,none⟩) hbl).trans f3);have k8:=ai_ ((hz3.cell (p:=⟨b,off+4,none⟩) hbl).trans g0);have k9:=ai_ ((hz3.cell (p:=⟨b,off+5,none⟩) hbl).trans g1);have k10:=ai_ ((hz3.cell (p:=⟨b,off+6,none⟩) hbl).trans g2);have k11:=ai_ ((hz3.cell (p:=⟨b,off+7,none⟩) hbl).trans g3);have e4:(x.kind==4)=false:=by rw[beq_eq_false_iff_ne];omega
 have e5:(x.kind==5)=false:=by rw[beq_eq_false_iff_ne];omega
 unfold tv at DX DY ⊢;unfold aQ_;rw[hln,hk] at *;clear hA hw hl E hlen hwf hwx hwy hs0 hs1 b4 hz hz2 hz3 ihx ihy f0 f1 f2 f3 g0 g1 g2 g3 hxy hln hk hS hq;go_enter Tryz.func47,Tryz.ntmps47;go_wp2;clear c0 c3 j4;refine bb_ (by kernel_rfl) (by kernel_rfl) ?_
 repeat (go_big_quiet_step ((first|(with_reducible exact DX.out _)|(with_reducible exact DY.out _))))
 refine wpQuiet_nil ?_;intro _ hw';obtain⟨pq,hw''⟩:=hw';subst hw'';go_wp2;go_ret;exact⟨by rw[F.out];rfl,HZ.out.trans ((az_ _ _).mono HZ.out.size)⟩
theorem lW_ (t:Ty)(hk:t.kind=5)(x:Ty)(hx:t.args=[x])(ih:∀ u:Ty,u.depth<t.depth→ba_ u):ba_ t:=by
 intro S a c w hA hS hw hl;have hz:=ao_ w (.cells #[.int .i64 t.kind,.string t.name,.int .i64 t.n,.slice a t.args.length c] 56);have hwf:=(bq_ t).1 hw;have hwx:Wf x:=hwf.2 x (by rw[hx];simp);have hdx:x.depth<t.depth:=by rw[t.depth_eq,hx];simp[aC_]
 have E:ae_ t=dM_++t.name.data.toList++gk_ x:=is_ t x hk hx;obtain⟨b,off,a0,p0,rfl,hb,hf,hs0⟩:=rF_ hA hx;obtain⟨f0,f1,f2,f3⟩:=hf.keep (hz.block b (hS b hb));have b4:=R4.new w (.int .i64 t.kind) (.string t.name) (.int .i64 t.n) (.slice (some ⟨b,off,none⟩) t.args.length c);have c0:=b4.c0;have c1:=b4.c1;have c3:=b4.c3;have hbl:=hS b hb;have hln:t.args.length=1:=by rw[hx];rfl
 have hsz:(dM_++t.name.data.toList).length≤4500000000000:=by rw[E] at hl;rw[List.length_append] at hl;omega
 have hsn:t.name.size≤4500000000000:=by rw[List.length_append] at hsz;have:t.name.data.toList.length=t.name.size:=rfl;omega
 have b4s:=hid (R4.new (w.alloc (.cells #[.int .i64 t.kind,.string t.name,.int .i64 t.n,.slice (some ⟨b,off,none⟩) t.args.length c] 56)) (.int .i64 x.kind) (.string x.name) (.int .i64 x.n) (.slice a0 x.args.length p0));have G0:=hid (hz.alloc hz.size (.cells #[.int .i64 x.kind,.string x.name,.int .i64 x.n,.slice a0 x.args.length p0] 56));have IH:=hid ih;have HS:=hid hS;have HL:=hid hl;have HE:=hid E;have HW:=hid hwx;have HDX:=hid hdx;have HA0:=hid hs0;unfold tv;rw[hln,hk] at f0 f1 f2 f3 c0 c1 c3 b4s G0 ⊢;clear hA hw hl E hz hwf hwx hdx hf hs0 hS b4 ih hx hln hk hsz;go_enter Tryz.func47,Tryz.ntmps47;go_wp2
 go_loopg [6] x.depth (fun gk wv wr=>∃ (s:List UInt8) (u:Ty) (a:OA_) (p:Nat),wv=.string (aa_ s)∧ae_ t=s++gk_ u∧gk=u.depth∧u.depth<t.depth∧Wf u ∧
  R4 wr (w.heap.size+1) (.int .i64 u.kind) (.string u.name) (.int .i64 u.n) (.slice a u.args.length p)∧ac_ S wr (.slice a u.args.length p) u.args∧Below w.heap.size w wr∧w.heap.size+2≤wr.heap.size)
 case atStart =>
  have g:=G0.out;exact⟨dM_++t.name.data.toList,x,a0,p0,rfl,HE.out,rfl,HDX.out,HW.out,by simpa using b4s.out,HA0.out.keep fun b hb=>g.block b (HS.out b hb),g,by simp⟩
 case round =>
  clear b4s G0 HA0 HDX HW HE f0 f1 f2 f3 c0 c1 c3;obtain⟨s,u,a,p,rfl,hE,rfl,hd,hw,k4,hA,hB,hsz⟩:=hrel;obtain⟨c0,c1,c2,c3⟩:=k4.c03;obtain⟨fr0,fr1,fr2,fr3⟩:=k4.f03;have hsl:(aa_ s).size≤4500000000000:=by rw[am_];have:=HL.out;rw[hE,List.length_append] at this;omega
  have HB:=hid hB;have HE:=hid hE;have HW:=hid hw;have HA:=hid hA;have K4:=hid k4
  by_cases h5:u.kind=5
  ·have z5:(u.kind==5)=true:=by rw[beq_iff_eq];exact h5
   obtain⟨y,hy⟩:=iv_ (by rcases ((bq_ u).1 hw).1 with h|h|h|h|h<;>first|omega|exact h.2:u.args.length=1);have hwy:Wf y:=((bq_ u).1 hw).2 y (by rw[hy];simp);have hdy:y.depth<u.depth:=by rw[u.depth_eq,hy];simp[aC_]
   have E2:ae_ t=(s++(32 :: u.name.data.toList))++gk_ y:=by rw[hE,kU_ u y h5 hy];simp
   obtain⟨b2,off2,a2,p2,rfl,hb2,⟨g0,g1,g2,g3⟩,hs2⟩:=rF_ hA hy;have hbl2:=HS.out b2 hb2;have hne:b2≠w.heap.size+1:=(by omega);have hln:u.args.length=1:=by rw[hy];rfl
   have hs3:(aa_ s).size+1+u.name.size≤4500000000000:=by
    rw[am_];have:=HL.out;rw[E2,List.length_append,List.length_append,List.length_cons] at this;have:u.name.data.toList.length=u.name.size:=rfl;omega
   have E3:Hid (aa_ s++⟨#[32]⟩++u.name=aa_ (s++(32 :: u.name.data.toList))):=hid (by show aa_ s++aa_ [32]++aa_ u.name.data.toList=_;rw[ah_,ah_];simp);have E2H:=hid E2;have HWY:=hid hwy;have HD:Hid (y.depth<u.depth∧u.depth<t.depth):=hid ⟨hdy,hd⟩;have HA2:=hid hs2;rw[hln] at c3;generalize aa_ s=sb at *;clear hE hw hA k4 hB E2 hwy hdy hd hs2 h5 hy hln;go_wp2;have k5:=K4.out.set4 (.int .i64 y.kind) (.string y.name) (.int .i64 y.n) (.slice a2 y.args.length p2);have B5:=(HB.out).set4 (b:=w.heap.size+1) (by omega) (.int .i64 y.kind) (.string y.name) (.int .i64 y.n) (.slice a2 y.args.length p2);go_roundg y.depth
   case measure=>exact HD.out.1
   case rel=>exact⟨s++(32 :: u.name.data.toList),y,a2,p2,by rw[← E3.out],E2H.out,rfl,by have:=HD.out;omega,HWY.out,k5,HA2.out.keep (fun b hb=>(B5.block b (HS.out b hb)).trans (HB.out.block b (HS.out b hb)).symm),B5,by simp;omega⟩
  ·have z5:(u.kind==5)=false:=by rw[beq_eq_false_iff_ne];exact h5
   have E2:ae_ t=s++[46,32]++ae_ u:=by rw[hE,gS_ u h5];simp
   have hlu:(aa_ s).size+2+(ae_ u).length≤4500000000000:=by
    rw[am_];have:=HL.out;rw[E2,List.length_append,List.length_append] at this;simp at this;omega
   have C:=hid (IH.out u hd S a p wr hA (fun b hb=>aX_ (HS.out b hb) hB.size) hw (by omega));have E3:Hid (aa_ s++⟨#[46,32]⟩++aa_ (ae_ u)=aa_ (ae_ t)):=hid (by rw[E2];show aa_ _++aa_ [46,32]++aa_ _=_;rw[ah_,ah_]);have hlu2:(aa_ s).size+2+(aa_ (ae_ u)).size≤4500000000000:=by rw[am_ (ae_ u)];exact hlu
   generalize aa_ s=sb at *;clear hE hw hA k4 hB E2 hd h5 hlu;go_wp2_with fail;refine C.out.mono ?_;rintro e w1 ⟨rfl,hb1⟩;generalize aa_ (ae_ u)=ub at *;go_wp2;go_ret;exact⟨by rw[← E3.out];rfl,HB.out.trans (hb1.mono HB.out.size)⟩
end
section
open Go.RowKit
def iE_ (t:Ty)(i:Nat):List UInt8:=t.name.data.toList++((t.args.take i).map clT).flatMap (fun x=>32 :: x)
theorem lf_ (t:Ty)(i:Nat)(h:i<t.args.length):iE_ t (i+1)=iE_ t i++(32 :: clT t.args[i]):=by
 unfold iE_;rw[List.take_succ_eq_append_getElem h,List.map_append,List.flatMap_append,List.append_assoc];simp
theorem oc_ (t:Ty)(hk:t.kind=3):iE_ t t.args.length=ae_ t:=by rw[fy_ t hk];unfold iE_;rw[List.take_length]
theorem ob_ (t:Ty)(hk:t.kind=3)(i:Nat):(iE_ t i).length≤(ae_ t).length:=by
 rw[fy_ t hk]
 conv=>rhs;rw[← List.take_append_drop i t.args,List.map_append,List.flatMap_append]
 unfold iE_;simp
theorem mt_ {x:Ty}(hw:Wf x)(h:x.atomic=true):(x.kind==4)=false∧(x.kind==5)=false∧((x.kind==3)=false∨((x.kind==3)=true∧x.args.length=0)):=by
 unfold Ty.atomic at h;have:=((bq_ x).1 hw).1;simp only[Bool.or_eq_true,Bool.and_eq_true,beq_iff_eq,List.isEmpty_iff] at h;simp only[beq_eq_false_iff_ne,beq_iff_eq]
 rcases h with (h|h)|h
 ·exact⟨by omega,by omega,.inl (by omega)⟩
 ·exact⟨by omega,by omega,.inl (by omega)⟩
 ·exact⟨by omega,by omega,.inr ⟨h.1,by rw[h.2];rfl⟩⟩
theorem nB_ {x:Ty}(hw:Wf x)(h:x.atomic=false):(x.kind==4)=true∨((x.kind==4)=false∧(x.kind==5)=true)∨((x.kind==4)=false∧(x.kind==5)=false∧(x.kind==3)=true∧0<x.args.length):=by
 unfold Ty.atomic at h;have h0:=((bq_ x).1 hw).1;simp only[Bool.or_eq_false_iff,Bool.and_eq_false_iff,beq_eq_false_iff_ne,List.isEmpty_eq_false_iff] at h;simp only[beq_eq_false_iff_ne,beq_iff_eq]
 rcases h0 with h0|h0|h0|h0|h0
 ·omega
 ·omega
 ·exact .inr (.inr ⟨by omega,by omega,h0,by rcases h.2 with h|h;exact absurd h0 h;exact List.length_pos_iff.2 h⟩)
 ·exact .inl h0.1
 ·exact .inr (.inl ⟨by omega,h0.1⟩)
theorem lV_ (t:Ty)(hk:t.kind=3)(ih:∀ u∈t.args,ba_ u):ba_ t:=by
 intro S a c w hA hS hw hl;have hwf:=(bq_ t).1 hw;have hz:=ao_ w (.cells #[.int .i64 t.kind,.string t.name,.int .i64 t.n,.slice a t.args.length c] 56);have b4:=R4.new w (.int .i64 t.kind) (.string t.name) (.int .i64 t.n) (.slice a t.args.length c);have hla:t.args.length≤4500000000000:=by have:=oo_ t hk;omega
 have CC:=hid (fun (i:Nat) (hi:i<t.args.length) (a':OA_) (c':Nat) (W:World) (hA':ac_ S W (.slice a' t.args[i].args.length c') t.args[i].args) (h:Below w.heap.size w W) =>
  ih _ (List.getElem_mem hi) S a' c' W hA' (fun b hb=>aX_ (hS b hb) h.size) (hwf.2 _ (List.getElem_mem hi)) (by have h1:=li_ t hk i hi;have h2:(ae_ t.args[i]).length≤(clT t.args[i]).length:=(by unfold clT cj_;split<;>simp;omega);omega))
 have HA:=hid hA;have HS:=hid hS;have HL:=hid hl;have HK:=hid hk;have HW:=hid hwf.2;have HZ:=hid hz;have K4:=hid b4;have c0:=b4.c0;have c1:=b4.c1;unfold tv;rw[hk] at c0 c1 HZ K4 ⊢;clear hA hS hw hl hwf hz b4 ih hk;go_enter Tryz.func47,Tryz.ntmps47;go_wp2
 go_loopw [3,4] (fun sv iv wr=>∃ i:Nat,iv=.int .i64 i∧i≤t.args.length∧sv=.string (aa_ (iE_ t i))∧Below (w.alloc (.cells #[.int .i64 3,.string t.name,.int .i64 t.n,.slice a t.args.length c] 56)).heap.size (w.alloc (.cells #[.int .i64 3,.string t.name,.int .i64 t.n,.slice a t.args.length c] 56)) wr) (fun _ iv _=>t.args.length - (intOf iv).toNat)
 case atStart=>exact⟨0,rfl,Nat.zero_le _,by simp[iE_,aa_],Below.refl _ _⟩
 case round =>
  clear c0 c1;obtain⟨i,rfl,hil,rfl,hB⟩:=hrel;have z0:(0:Int)≤(i:Int):=by omega
  have hBw:=HZ.out.trans (hB.mono HZ.out.size);have k3:=(K4.out.low hB).c3;have BW:=hid hBw;have BH:=hid hB;have hcl:=ob_ t HK.out i
  by_cases hi:i<t.args.length
  ·have z1:(i:Int)<(t.args.length:Int):=by omega
   obtain⟨b,off,a',cap',rfl,hb,hf,hs⟩:=HA.out.at_ hi;obtain⟨f0,f1,f2,f3⟩:=hf.keep (hBw.block b (HS.out b hb));have hzr:=ao_ wr (.cells #[.int .i64 t.args[i].kind,.string t.args[i].name,.int .i64 t.args[i].n,.slice a' t.args[i].args.length cap'] 56);have kx:=R4.new wr (.int .i64 t.args[i].kind) (.string t.args[i].name) (.int .i64 t.args[i].n) (.slice a' t.args[i].args.length cap');obtain⟨x0,x1,x2,x3⟩:=kx.c03;have hBz:=hBw.trans (hzr.mono hBw.size);have CH:=hid (CC.out i hi a' cap' (wr.alloc (.cells #[.int .i64 t.args[i].kind,.string t.args[i].name,.int .i64 t.args[i].n,.slice a' t.args[i].args.length cap'] 56)) (hs.keep fun b hS=>hBz.block b (HS.out b hS)) hBz);have ZR:=hid (hB.trans (hzr.mono hB.size));have CA:=hid (lf_ t i hi);have hlc:=li_ t HK.out i hi;have hca:(iE_ t (i+1)).length≤(ae_ t).length:=ob_ t HK.out (i+1);rw[lf_ t i hi,List.length_append,List.length_cons] at hca;have hwx:=HW.out _ (List.getElem_mem hi);cases hq:t.args[i].atomic with
   | true =>
    obtain⟨e4,e5,e3⟩:=mt_ hwx hq;have CE:Hid (aa_ (iE_ t i)++⟨#[32]⟩++aa_ (ae_ t.args[i])=aa_ (iE_ t (i+1))):=hid (by
     rw[CA.out];unfold clT cj_;rw[hq,if_pos rfl];show aa_ _++aa_ [32]++aa_ _=_;rw[ah_,ah_];simp)
    have hsz:(aa_ (iE_ t i)).size+(aa_ (ae_ t.args[i])).size+1≤4500000000000:=by
     rw[am_,am_];unfold clT cj_ at hca;rw[hq,if_pos rfl] at hca;have:=HL.out;omega
    clear hf hs hB hBw hb hzr kx hBz hlc hca hwx hcl hq CC;generalize t.args[i]=x at *;generalize aa_ (iE_ t i)=s0 at *
    rcases e3 with e3|⟨e3,el⟩
    all_goals
     (try (have el1:decide ((0:Int)<(x.args.length:Int))=false:=by rw[el];rfl))
     (try (have el2:¬ (0:Int)<(x.args.length:Int):=by omega))
     (try clear el)
     unfold tv at CH;go_wp2_with fail;refine CH.out.mono ?_;rintro e w4 ⟨rfl,B4⟩;have B5:=hid (ZR.out.trans (B4.mono ZR.out.size));clear B4 CH x0 x1 x2 x3 f0 f1 f2 f3 k3;generalize aa_ (ae_ x)=px at *;go_wp2;go_roundw
     case rel=>exact⟨i+1,by go_num,by omega,by rw[← CE.out],B5.out⟩
     case measure=>simp[intOf];omega
   | false =>
    have CE:Hid (aa_ (iE_ t i)++⟨#[32,40]⟩++aa_ (ae_ t.args[i])++⟨#[41]⟩=aa_ (iE_ t (i+1))):=hid (by
     rw[CA.out];unfold clT cj_;rw[hq,if_neg (by decide)];show aa_ _++aa_ [32,40]++aa_ _++aa_ [41]=_;rw[ah_,ah_,ah_];simp)
    have hsz:(aa_ (iE_ t i)).size+(aa_ (ae_ t.args[i])).size+3≤4500000000000:=by
     rw[am_,am_];unfold clT cj_ at hca;rw[hq,if_neg (by decide)] at hca;simp at hca;have:=HL.out;omega
    have e3:=nB_ hwx hq;clear hf hs hB hBw hb hzr kx hBz hlc hca hwx hcl hq CC;generalize t.args[i]=x at *;generalize aa_ (iE_ t i)=s0 at *
    rcases e3 with e4|⟨e4,e5⟩|⟨e4,e5,e3,el⟩
    all_goals
     (try (have el1:decide ((0:Int)<(x.args.length:Int))=true:=by rw[decide_eq_true_eq];omega))
     (try (have el2:(0:Int)<(x.args.length:Int):=by omega))
     unfold tv at CH;go_wp2_with fail;refine CH.out.mono ?_;rintro e w4 ⟨rfl,B4⟩;have B5:=hid (ZR.out.trans (B4.mono ZR.out.size));clear B4 CH x0 x1 x2 x3 f0 f1 f2 f3 k3;generalize aa_ (ae_ x)=px at *;go_wp2;go_roundw
     case rel=>exact⟨i+1,by go_num,by omega,by rw[← CE.out],B5.out⟩
     case measure=>simp[intOf];omega
  ·obtain rfl:i=t.args.length:=by omega
   have E:Hid (iE_ t t.args.length=ae_ t):=hid (oc_ t HK.out);clear hB hBw hcl CC;go_wp2;go_ret;exact⟨by rw[E.out];rfl,BW.out⟩
theorem jd_ (n:Nat):∀ t:Ty,t.depth≤n→ba_ t:=by
 induction n with
 | zero=>intro t h;rw[t.depth_eq] at h;omega
 | succ n ih =>
  intro t hn;have lower:∀ u∈t.args,u.depth≤n:=fun u hu=>by have:=aT_ _ hu;rw[t.depth_eq] at hn;omega
  intro S a c w hA hS hw hl
  rcases ((bq_ t).1 hw).1 with h|h|h|h|h
  ·exact lU_ t h.1 a c w
  ·exact j1_ t h.1 h.2.2.1 h.2.2.2 a c w
  ·exact lV_ t h (fun u hu=>ih u (lower u hu)) S a c w hA hS hw hl
  ·obtain⟨x,y,hxy⟩:∃ x y,t.args=[x,y]:=by
    match hl:t.args,h.2 with
    | [x,y],_=>exact⟨x,y,rfl⟩
   have lx:=ih x (lower x (by rw[hxy];simp));have ly:=ih y (lower y (by rw[hxy];simp));have hwx:Wf x:=((bq_ t).1 hw).2 x (by rw[hxy];simp)
   by_cases h4:x.kind=4
   ·exact j3_ t h.1 x y hxy h4 lx ly S a c w hA hS hw hl
   ·by_cases h5:x.kind=5
    ·exact j2_ t h.1 x y hxy h5 lx ly S a c w hA hS hw hl
    ·exact j4_ t h.1 x y hxy (by rcases ((bq_ x).1 hwx).1 with g|g|g|g|g<;>omega) lx ly S a c w hA hS hw hl
  ·obtain⟨x,hx⟩:=iv_ h.2
   exact lW_ t h.1 x hx (fun u hu=>ih u (by omega)) S a c w hA hS hw hl
theorem hK_ (t:Ty):ba_ t:=jd_ t.depth t (aw_ _)
end
end Go.Proofs.YtkihnodkhnahiaaGreatDoor.Tp

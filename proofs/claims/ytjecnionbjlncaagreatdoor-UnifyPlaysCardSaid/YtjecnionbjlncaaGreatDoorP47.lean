/- Packed. -/
import Derived.Test.YtjecnionbjlncaaGreatDoorP40
import Derived.Test.YtjecnionbjlncaaGreatDoorP46
set_option maxRecDepth 100000
set_option maxHeartbeats 6400000
namespace Go.Proofs.YtjecnionbjlncaaGreatDoor.Tp
section
open Go.RowKit Go.Sort
def bh_ (t:Ty):Prop:=∀ (S:Nat→Prop) (a:OA_) (c:Nat) (w:World),aa_ S w (.slice a t.args.length c) t.args→(∀ b,S b→b<w.heap.size)→Wf t→(ac_ t).length≤4500000000000 →
  Calls Tryz.prog 45 #[tv t a c] w (bm_ w (ac_ t))
theorem l9_ (t:Ty)(hk:t.kind=1)(a:OA_)(c:Nat)(w:World):Calls Tryz.prog 45 #[tv t a c] w (bm_ w (ac_ t)):=by
 have E:Hid (ab_ (ac_ t)=t.name):=hid (by rw[bo_,hk];rfl);have HZ:=hid (aq_ w (.cells #[.int .i64 t.kind,.string t.name,.int .i64 t.n,.slice a t.args.length c] 43));have b4:=R4.new w (.int .i64 t.kind) (.string t.name) (.int .i64 t.n) (.slice a t.args.length c);unfold tv;generalize t.args.length=n at *;rw[hk] at *;have c0:=b4.c0;have c1:=b4.c1;clear b4;go_enter Tryz.func45,Tryz.ntmps45;go_wp2;go_ret;exact⟨by rw[E.out];rfl,HZ.out⟩
theorem kc_ (t:Ty)(hk:t.kind=2)(h0:0≤t.n)(h1:t.n<1000000000000000000)(a:OA_)(c:Nat)(w:World):Calls Tryz.prog 45 #[tv t a c] w (bm_ w (ac_ t)):=by
 obtain⟨m,hm⟩:∃ m:Nat,t.n=(m:Int):=⟨t.n.toNat,by omega⟩;have E:Hid (ac_ t=63 :: Lib.decDigits m):=hid (by rw[bo_,hk,hm,← gw_];rfl);have hz:=aq_ w (.cells #[.int .i64 t.kind,.string t.name,.int .i64 t.n,.slice a t.args.length c] 43);have C:=hid (dh_ m (by omega));have HZ:=hid hz;have b4:=R4.new w (.int .i64 t.kind) (.string t.name) (.int .i64 t.n) (.slice a t.args.length c);have hlen:=(bQ_ m).2.2.2 18 (by omega) (show m<10 ^ 18 by omega);have z1:(ab_ (Lib.decDigits m)).size≤21:=by rw[ap_];omega
 clear hz hlen;unfold tv;generalize t.args.length=n at *;rw[hk,hm] at *;have c0:=b4.c0;have c2:=b4.c2;clear b4 h0 h1 hm;go_enter Tryz.func45,Tryz.ntmps45;go_wp2_with fail;refine (C.out _).mono ?_;rintro e w1 ⟨rfl,hb⟩;have G:=hid (HZ.out.trans (hb.mono HZ.out.size));have F:Hid ((⟨#[63]⟩:ByteArray)++ab_ (Lib.decDigits m)=ab_ (ac_ t)):=hid (by
  rw[E.out];show ab_ [63]++_=_;rw[aC_];rfl)
 clear hb;generalize ab_ (Lib.decDigits m)=s at *;go_wp2;go_ret;exact⟨by rw[← F.out];rfl,G.out⟩
theorem ke_ (t:Ty)(hk:t.kind=4)(x y:Ty)(hxy:t.args=[x,y])(hq:x.kind=4)(ihx:bh_ x)(ihy:bh_ y):bh_ t:=by
 intro S a c w hA hS hw hl;have hz:=aq_ w (.cells #[.int .i64 t.kind,.string t.name,.int .i64 t.n,.slice a t.args.length c] 43);have E:Hid (ac_ t=[40]++ac_ x++[41,32,45,62,32]++ac_ y):=hid (by
  rw[bo_,hk,hxy];show cd_ (decide (x.kind<4)) (ac_ x)++[32,45,62,32]++ac_ y=_;unfold cd_;rw[if_neg (by simp;omega)];simp)
 have hlen:(ac_ x).length+6+(ac_ y).length≤4500000000002:=by rw[E.out] at hl;simp at hl;omega
 have hwf:=(a3_ t).1 hw;have hwx:Wf x:=hwf.2 x (by rw[hxy];simp);have hwy:Wf y:=hwf.2 y (by rw[hxy];simp);obtain⟨b,off,a0,p0,rfl,hb,⟨f0,f1,f2,f3⟩,hs0⟩:=hA.at_ (i:=0) (by rw[hxy];simp);obtain⟨b',off',a1,p1,he,_,⟨g0,g1,g2,g3⟩,hs1⟩:=hA.at_ (i:=1) (by rw[hxy];simp);simp only[Option.some.injEq,Addr.mk.injEq] at he;obtain⟨rfl,rfl,_⟩:=he;simp only[hxy,List.getElem_cons_zero,List.getElem_cons_succ,Nat.zero_mul,Nat.add_zero,Nat.one_mul,Nat.add_assoc,Nat.reduceAdd] at f0 f1 f2 f3 g0 g1 g2 g3 hs0 hs1;have CX:=hid (fun (W:World) (h:Below w.heap.size w W)=>ihx S a0 p0 W (hs0.keep (fun b hb=>h.block b (hS b hb))) (fun b hb=>aU_ (hS b hb) h.size) hwx (by omega));have CY:=hid (fun (W:World) (h:Below w.heap.size w W)=>ihy S a1 p1 W (hs1.keep (fun b hb=>h.block b (hS b hb))) (fun b hb=>aU_ (hS b hb) h.size) hwy (by omega));have b4:=R4.new w (.int .i64 t.kind) (.string t.name) (.int .i64 t.n) (.slice (some ⟨b,off,none⟩) t.args.length c);have hbl:=hS b hb;have hln:t.args.length=2:=by rw[hxy];rfl
 have hz2:=hz;rw[hln,hk] at hz2;have HZ:=hid hz2;have DX:=hid (fun p=>bU_ (CX.out _ (HZ.out.trans ((ao_ _ p).mono HZ.out.size))));have DY:=hid (fun p=>bU_ (CY.out _ (HZ.out.trans ((ao_ _ p).mono HZ.out.size))));have hsx:(ab_ (ac_ x)).size+6+(ab_ (ac_ y)).size≤4500000000002:=by rw[ap_,ap_];omega
 have F:Hid (⟨#[40]⟩++ab_ (ac_ x)++⟨#[41,32,45,62,32]⟩++ab_ (ac_ y)=ab_ (ac_ t)):=hid (by
  rw[E.out];show ab_ [40]++ab_ _++ab_ [41,32,45,62,32]++ab_ _=_;rw[aC_,aC_,aC_])
 have c0:=b4.c0;have c3:=b4.c3;have hz3:=hz;rw[hln,hk] at hz3 c0 c3;have j4:=(hz3.cell (p:=⟨b,off,none⟩) hbl).trans f0;have k3:=ad_ c3;have k4:=ad_ j4;have k5:=ad_ ((hz3.cell (p:=⟨b,off+1,none⟩) hbl).trans f1);have k6:=ad_ ((hz3.cell (p:=⟨b,off+2,none⟩) hbl).trans f2);have k7:=ad_ ((hz3.cell (p:=⟨b,off+3,none⟩) hbl).trans f3);have k8:=ad_ ((hz3.cell (p:=⟨b,off+4,none⟩) hbl).trans g0);have k9:=ad_ ((hz3.cell (p:=⟨b,off+5,none⟩) hbl).trans g1);have k10:=ad_ ((hz3.cell (p:=⟨b,off+6,none⟩) hbl).trans g2);have k11:=ad_ ((hz3.cell (p:=⟨b,off+7,none⟩) hbl).trans g3);have e4:(x.kind==4)=true:=by rw[hq];rfl
 unfold tv at DX DY ⊢;unfold bm_;rw[hln,hk] at *;clear hA hw hl E hlen hwf hwx hwy hs0 hs1 b4 hz hz2 hz3 ihx ihy f0 f1 f2 f3 g0 g1 g2 g3 hxy hln hk hS hq;go_enter Tryz.func45,Tryz.ntmps45;go_wp2;clear c0 c3 j4;refine a6_ (by kernel_rfl) (by kernel_rfl) ?_
 repeat (go_big_quiet_step ((first|(with_reducible exact DX.out _)|(with_reducible exact DY.out _))))
 refine wpQuiet_nil ?_;intro _ hw';obtain⟨pq,hw''⟩:=hw';subst hw'';go_wp2;go_ret;exact⟨by rw[F.out];rfl,HZ.out.trans ((ao_ _ _).mono HZ.out.size)⟩
theorem kd_ (t:Ty)(hk:t.kind=4)(x y:Ty)(hxy:t.args=[x,y])(hq:x.kind=5)(ihx:bh_ x)(ihy:bh_ y):bh_ t:=by
 intro S a c w hA hS hw hl;have hz:=aq_ w (.cells #[.int .i64 t.kind,.string t.name,.int .i64 t.n,.slice a t.args.length c] 43);have E:Hid (ac_ t=[40]++ac_ x++[41,32,45,62,32]++ac_ y):=hid (by
  rw[bo_,hk,hxy];show cd_ (decide (x.kind<4)) (ac_ x)++[32,45,62,32]++ac_ y=_;unfold cd_;rw[if_neg (by simp;omega)];simp)
 have hlen:(ac_ x).length+6+(ac_ y).length≤4500000000002:=by rw[E.out] at hl;simp at hl;omega
 have hwf:=(a3_ t).1 hw;have hwx:Wf x:=hwf.2 x (by rw[hxy];simp);have hwy:Wf y:=hwf.2 y (by rw[hxy];simp);obtain⟨b,off,a0,p0,rfl,hb,⟨f0,f1,f2,f3⟩,hs0⟩:=hA.at_ (i:=0) (by rw[hxy];simp);obtain⟨b',off',a1,p1,he,_,⟨g0,g1,g2,g3⟩,hs1⟩:=hA.at_ (i:=1) (by rw[hxy];simp);simp only[Option.some.injEq,Addr.mk.injEq] at he;obtain⟨rfl,rfl,_⟩:=he;simp only[hxy,List.getElem_cons_zero,List.getElem_cons_succ,Nat.zero_mul,Nat.add_zero,Nat.one_mul,Nat.add_assoc,Nat.reduceAdd] at f0 f1 f2 f3 g0 g1 g2 g3 hs0 hs1;have CX:=hid (fun (W:World) (h:Below w.heap.size w W)=>ihx S a0 p0 W (hs0.keep (fun b hb=>h.block b (hS b hb))) (fun b hb=>aU_ (hS b hb) h.size) hwx (by omega));have CY:=hid (fun (W:World) (h:Below w.heap.size w W)=>ihy S a1 p1 W (hs1.keep (fun b hb=>h.block b (hS b hb))) (fun b hb=>aU_ (hS b hb) h.size) hwy (by omega));have b4:=R4.new w (.int .i64 t.kind) (.string t.name) (.int .i64 t.n) (.slice (some ⟨b,off,none⟩) t.args.length c);have hbl:=hS b hb;have hln:t.args.length=2:=by rw[hxy];rfl
 have hz2:=hz;rw[hln,hk] at hz2;have HZ:=hid hz2;have DX:=hid (fun p=>bU_ (CX.out _ (HZ.out.trans ((ao_ _ p).mono HZ.out.size))));have DY:=hid (fun p=>bU_ (CY.out _ (HZ.out.trans ((ao_ _ p).mono HZ.out.size))));have hsx:(ab_ (ac_ x)).size+6+(ab_ (ac_ y)).size≤4500000000002:=by rw[ap_,ap_];omega
 have F:Hid (⟨#[40]⟩++ab_ (ac_ x)++⟨#[41,32,45,62,32]⟩++ab_ (ac_ y)=ab_ (ac_ t)):=hid (by
  rw[E.out];show ab_ [40]++ab_ _++ab_ [41,32,45,62,32]++ab_ _=_;rw[aC_,aC_,aC_])
 have c0:=b4.c0;have c3:=b4.c3;have hz3:=hz;rw[hln,hk] at hz3 c0 c3;have j4:=(hz3.cell (p:=⟨b,off,none⟩) hbl).trans f0;have k3:=ad_ c3;have k4:=ad_ j4;have k5:=ad_ ((hz3.cell (p:=⟨b,off+1,none⟩) hbl).trans f1);have k6:=ad_ ((hz3.cell (p:=⟨b,off+2,none⟩) hbl).trans f2);have k7:=ad_ ((hz3.cell (p:=⟨b,off+3,none⟩) hbl).trans f3);have k8:=ad_ ((hz3.cell (p:=⟨b,off+4,none⟩) hbl).trans g0);have k9:=ad_ ((hz3.cell (p:=⟨b,off+5,none⟩) hbl).trans g1);have k10:=ad_ ((hz3.cell (p:=⟨b,off+6,none⟩) hbl).trans g2);have k11:=ad_ ((hz3.cell (p:=⟨b,off+7,none⟩) hbl).trans g3);have e4:(x.kind==4)=false:=by rw[hq];rfl
 have e5:(x.kind==5)=true:=by rw[hq];rfl
 unfold tv at DX DY ⊢;unfold bm_;rw[hln,hk] at *;clear hA hw hl E hlen hwf hwx hwy hs0 hs1 b4 hz hz2 hz3 ihx ihy f0 f1 f2 f3 g0 g1 g2 g3 hxy hln hk hS hq;go_enter Tryz.func45,Tryz.ntmps45;go_wp2;clear c0 c3 j4;refine a6_ (by kernel_rfl) (by kernel_rfl) ?_
 repeat (go_big_quiet_step ((first|(with_reducible exact DX.out _)|(with_reducible exact DY.out _))))
 refine wpQuiet_nil ?_;intro _ hw';obtain⟨pq,hw''⟩:=hw';subst hw'';go_wp2;go_ret;exact⟨by rw[F.out];rfl,HZ.out.trans ((ao_ _ _).mono HZ.out.size)⟩
theorem kf_ (t:Ty)(hk:t.kind=4)(x y:Ty)(hxy:t.args=[x,y])(hq:x.kind<4)(ihx:bh_ x)(ihy:bh_ y):bh_ t:=by
 intro S a c w hA hS hw hl;have hz:=aq_ w (.cells #[.int .i64 t.kind,.string t.name,.int .i64 t.n,.slice a t.args.length c] 43);have E:Hid (ac_ t=ac_ x++[32,45,62,32]++ac_ y):=hid (by
  rw[bo_,hk,hxy];show cd_ (decide (x.kind<4)) (ac_ x)++[32,45,62,32]++ac_ y=_;unfold cd_;rw[if_pos (by simp;omega)]
  skip)
 have hlen:(ac_ x).length+6+(ac_ y).length≤4500000000002:=by rw[E.out] at hl;simp at hl;omega
 have hwf:=(a3_ t).1 hw;have hwx:Wf x:=hwf.2 x (by rw[hxy];simp);have hwy:Wf y:=hwf.2 y (by rw[hxy];simp);obtain⟨b,off,a0,p0,rfl,hb,⟨f0,f1,f2,f3⟩,hs0⟩:=hA.at_ (i:=0) (by rw[hxy];simp);obtain⟨b',off',a1,p1,he,_,⟨g0,g1,g2,g3⟩,hs1⟩:=hA.at_ (i:=1) (by rw[hxy];simp);simp only[Option.some.injEq,Addr.mk.injEq] at he;obtain⟨rfl,rfl,_⟩:=he;simp only[hxy,List.getElem_cons_zero,List.getElem_cons_succ,Nat.zero_mul,Nat.add_zero,Nat.one_mul,Nat.add_assoc,Nat.reduceAdd] at f0 f1 f2 f3 g0 g1 g2 g3 hs0 hs1;have CX:=hid (fun (W:World) (h:Below w.heap.size w W)=>ihx S a0 p0 W (hs0.keep (fun b hb=>h.block b (hS b hb))) (fun b hb=>aU_ (hS b hb) h.size) hwx (by omega));have CY:=hid (fun (W:World) (h:Below w.heap.size w W)=>ihy S a1 p1 W (hs1.keep (fun b hb=>h.block b (hS b hb))) (fun b hb=>aU_ (hS b hb) h.size) hwy (by omega));have b4:=R4.new w (.int .i64 t.kind) (.string t.name) (.int .i64 t.n) (.slice (some ⟨b,off,none⟩) t.args.length c);have hbl:=hS b hb;have hln:t.args.length=2:=by rw[hxy];rfl
 have hz2:=hz;rw[hln,hk] at hz2;have HZ:=hid hz2;have DX:=hid (fun p=>bU_ (CX.out _ (HZ.out.trans ((ao_ _ p).mono HZ.out.size))));have DY:=hid (fun p=>bU_ (CY.out _ (HZ.out.trans ((ao_ _ p).mono HZ.out.size))));have hsx:(ab_ (ac_ x)).size+6+(ab_ (ac_ y)).size≤4500000000002:=by rw[ap_,ap_];omega
 have F:Hid (ab_ (ac_ x)++⟨#[32,45,62,32]⟩++ab_ (ac_ y)=ab_ (ac_ t)):=hid (by
  rw[E.out];show ab_ _++ab_ [32,45,62,32]++ab_ _=_;rw[aC_,aC_])
 have c0:=b4.c0;have c3:=b4.c3;have hz3:=hz;rw[hln,hk] at hz3 c0 c3;have j4:=(hz3.cell (p:=⟨b,off,none⟩) hbl).trans f0;have k3:=ad_ c3;have k4:=ad_ j4;have k5:=ad_ ((hz3.cell (p:=⟨b,off+1,none⟩) hbl).trans f1);have k6:=ad_ ((hz3.cell (p:=⟨b,off+2,none⟩) hbl).trans f2);have k7:=ad_ ((hz3.cell (p:=⟨b,off+3,none⟩) hbl).trans f3);have k8:=ad_ ((hz3.cell (p:=⟨b,off+4,none⟩) hbl).trans g0);have k9:=ad_ ((hz3.cell (p:=⟨b,off+5,none⟩) hbl).trans g1);have k10:=ad_ ((hz3.cell (p:=⟨b,off+6,none⟩) hbl).trans g2);have k11:=ad_ ((hz3.cell (p:=⟨b,off+7,none⟩) hbl).trans g3);have e4:(x.kind==4)=false:=by rw[beq_eq_false_iff_ne];omega
 have e5:(x.kind==5)=false:=by rw[beq_eq_false_iff_ne];omega
 unfold tv at DX DY ⊢;unfold bm_;rw[hln,hk] at *;clear hA hw hl E hlen hwf hwx hwy hs0 hs1 b4 hz hz2 hz3 ihx ihy f0 f1 f2 f3 g0 g1 g2 g3 hxy hln hk hS hq;go_enter Tryz.func45,Tryz.ntmps45;go_wp2;clear c0 c3 j4;refine a6_ (by kernel_rfl) (by kernel_rfl) ?_
 repeat (go_big_quiet_step ((first|(with_reducible exact DX.out _)|(with_reducible exact DY.out _))))
 refine wpQuiet_nil ?_;intro _ hw';obtain⟨pq,hw''⟩:=hw';subst hw'';go_wp2;go_ret;exact⟨by rw[F.out];rfl,HZ.out.trans ((ao_ _ _).mono HZ.out.size)⟩
theorem mc_ (t:Ty)(hk:t.kind=5)(x:Ty)(hx:t.args=[x])(ih:∀ u:Ty,u.depth<t.depth→bh_ u):bh_ t:=by
 intro S a c w hA hS hw hl;have hz:=aq_ w (.cells #[.int .i64 t.kind,.string t.name,.int .i64 t.n,.slice a t.args.length c] 43);have hwf:=(a3_ t).1 hw;have hwx:Wf x:=hwf.2 x (by rw[hx];simp);have hdx:x.depth<t.depth:=by rw[t.depth_eq,hx];simp[aD_]
 have E:ac_ t=dg_++t.name.data.toList++go_ x:=in_ t x hk hx;obtain⟨b,off,a0,p0,rfl,hb,hf,hs0⟩:=q7_ hA hx;obtain⟨f0,f1,f2,f3⟩:=hf.keep (hz.block b (hS b hb));have b4:=R4.new w (.int .i64 t.kind) (.string t.name) (.int .i64 t.n) (.slice (some ⟨b,off,none⟩) t.args.length c);have c0:=b4.c0;have c1:=b4.c1;have c3:=b4.c3;have hbl:=hS b hb;have hln:t.args.length=1:=by rw[hx];rfl
 have hsz:(dg_++t.name.data.toList).length≤4500000000000:=by rw[E] at hl;rw[List.length_append] at hl;omega
 have hsn:t.name.size≤4500000000000:=by rw[List.length_append] at hsz;have:t.name.data.toList.length=t.name.size:=rfl;omega
 have b4s:=hid (R4.new (w.alloc (.cells #[.int .i64 t.kind,.string t.name,.int .i64 t.n,.slice (some ⟨b,off,none⟩) t.args.length c] 43)) (.int .i64 x.kind) (.string x.name) (.int .i64 x.n) (.slice a0 x.args.length p0));have G0:=hid (hz.alloc hz.size (.cells #[.int .i64 x.kind,.string x.name,.int .i64 x.n,.slice a0 x.args.length p0] 43));have IH:=hid ih;have HS:=hid hS;have HL:=hid hl;have HE:=hid E;have HW:=hid hwx;have HDX:=hid hdx;have HA0:=hid hs0;unfold tv;rw[hln,hk] at f0 f1 f2 f3 c0 c1 c3 b4s G0 ⊢;clear hA hw hl E hz hwf hwx hdx hf hs0 hS b4 ih hx hln hk hsz;go_enter Tryz.func45,Tryz.ntmps45;go_wp2
 go_loopg [6] x.depth (fun gk wv wr=>∃ (s:List UInt8) (u:Ty) (a:OA_) (p:Nat),wv=.string (ab_ s)∧ac_ t=s++go_ u∧gk=u.depth∧u.depth<t.depth∧Wf u ∧
  R4 wr (w.heap.size+1) (.int .i64 u.kind) (.string u.name) (.int .i64 u.n) (.slice a u.args.length p)∧aa_ S wr (.slice a u.args.length p) u.args∧Below w.heap.size w wr∧w.heap.size+2≤wr.heap.size)
 case atStart =>
  have g:=G0.out;exact⟨dg_++t.name.data.toList,x,a0,p0,rfl,HE.out,rfl,HDX.out,HW.out,by simpa using b4s.out,HA0.out.keep fun b hb=>g.block b (HS.out b hb),g,by simp⟩
 case round =>
  clear b4s G0 HA0 HDX HW HE f0 f1 f2 f3 c0 c1 c3;obtain⟨s,u,a,p,rfl,hE,rfl,hd,hw,k4,hA,hB,hsz⟩:=hrel;obtain⟨c0,c1,c2,c3⟩:=k4.c03;obtain⟨fr0,fr1,fr2,fr3⟩:=k4.f03;have hsl:(ab_ s).size≤4500000000000:=by rw[ap_];have:=HL.out;rw[hE,List.length_append] at this;omega
  have HB:=hid hB;have HE:=hid hE;have HW:=hid hw;have HA:=hid hA;have K4:=hid k4
  by_cases h5:u.kind=5
  ·have z5:(u.kind==5)=true:=by rw[beq_iff_eq];exact h5
   obtain⟨y,hy⟩:=ip_ (by rcases ((a3_ u).1 hw).1 with h|h|h|h|h<;>first|omega|exact h.2:u.args.length=1);have hwy:Wf y:=((a3_ u).1 hw).2 y (by rw[hy];simp);have hdy:y.depth<u.depth:=by rw[u.depth_eq,hy];simp[aD_]
   have E2:ac_ t=(s++(32 :: u.name.data.toList))++go_ y:=by rw[hE,k7_ u y h5 hy];simp
   obtain⟨b2,off2,a2,p2,rfl,hb2,⟨g0,g1,g2,g3⟩,hs2⟩:=q7_ hA hy;have hbl2:=HS.out b2 hb2;have hne:b2≠w.heap.size+1:=(by omega);have hln:u.args.length=1:=by rw[hy];rfl
   have hs3:(ab_ s).size+1+u.name.size≤4500000000000:=by
    rw[ap_];have:=HL.out;rw[E2,List.length_append,List.length_append,List.length_cons] at this;have:u.name.data.toList.length=u.name.size:=rfl;omega
   have E3:Hid (ab_ s++⟨#[32]⟩++u.name=ab_ (s++(32 :: u.name.data.toList))):=hid (by show ab_ s++ab_ [32]++ab_ u.name.data.toList=_;rw[aC_,aC_];simp);have E2H:=hid E2;have HWY:=hid hwy;have HD:Hid (y.depth<u.depth∧u.depth<t.depth):=hid ⟨hdy,hd⟩;have HA2:=hid hs2;rw[hln] at c3;generalize ab_ s=sb at *;clear hE hw hA k4 hB E2 hwy hdy hd hs2 h5 hy hln;go_wp2;have k5:=K4.out.set4 (.int .i64 y.kind) (.string y.name) (.int .i64 y.n) (.slice a2 y.args.length p2);have B5:=(HB.out).set4 (b:=w.heap.size+1) (by omega) (.int .i64 y.kind) (.string y.name) (.int .i64 y.n) (.slice a2 y.args.length p2);go_roundg y.depth
   case measure=>exact HD.out.1
   case rel=>exact⟨s++(32 :: u.name.data.toList),y,a2,p2,by rw[← E3.out],E2H.out,rfl,by have:=HD.out;omega,HWY.out,k5,HA2.out.keep (fun b hb=>(B5.block b (HS.out b hb)).trans (HB.out.block b (HS.out b hb)).symm),B5,by simp;omega⟩
  ·have z5:(u.kind==5)=false:=by rw[beq_eq_false_iff_ne];exact h5
   have E2:ac_ t=s++[46,32]++ac_ u:=by rw[hE,gO_ u h5];simp
   have hlu:(ab_ s).size+2+(ac_ u).length≤4500000000000:=by
    rw[ap_];have:=HL.out;rw[E2,List.length_append,List.length_append] at this;simp at this;omega
   have C:=hid (IH.out u hd S a p wr hA (fun b hb=>aU_ (HS.out b hb) hB.size) hw (by omega));have E3:Hid (ab_ s++⟨#[46,32]⟩++ab_ (ac_ u)=ab_ (ac_ t)):=hid (by rw[E2];show ab_ _++ab_ [46,32]++ab_ _=_;rw[aC_,aC_]);have hlu2:(ab_ s).size+2+(ab_ (ac_ u)).size≤4500000000000:=by rw[ap_ (ac_ u)];exact hlu
   generalize ab_ s=sb at *;clear hE hw hA k4 hB E2 hd h5 hlu;go_wp2_with fail;refine C.out.mono ?_;rintro e w1 ⟨rfl,hb1⟩;generalize ab_ (ac_ u)=ub at *;go_wp2;go_ret;exact⟨by rw[← E3.out];rfl,HB.out.trans (hb1.mono HB.out.size)⟩
end
section
open Go.RowKit
def iH_ (t:Ty)(i:Nat):List UInt8:=t.name.data.toList++((t.args.take i).map clT).flatMap (fun x=>32 :: x)
theorem lB_ (t:Ty)(i:Nat)(h:i<t.args.length):iH_ t (i+1)=iH_ t i++(32 :: clT t.args[i]):=by
 unfold iH_;rw[List.take_succ_eq_append_getElem h,List.map_append,List.flatMap_append,List.append_assoc];simp
theorem oy_ (t:Ty)(hk:t.kind=3):iH_ t t.args.length=ac_ t:=by rw[fo_ t hk];unfold iH_;rw[List.take_length]
theorem ox_ (t:Ty)(hk:t.kind=3)(i:Nat):(iH_ t i).length≤(ac_ t).length:=by
 rw[fo_ t hk]
 conv=>rhs;rw[← List.take_append_drop i t.args,List.map_append,List.flatMap_append]
 unfold iH_;simp
theorem mJ_ {x:Ty}(hw:Wf x)(h:x.atomic=true):(x.kind==4)=false∧(x.kind==5)=false∧((x.kind==3)=false∨((x.kind==3)=true∧x.args.length=0)):=by
 unfold Ty.atomic at h;have:=((a3_ x).1 hw).1;simp only[Bool.or_eq_true,Bool.and_eq_true,beq_iff_eq,List.isEmpty_iff] at h;simp only[beq_eq_false_iff_ne,beq_iff_eq]
 rcases h with (h|h)|h
 ·exact⟨by omega,by omega,.inl (by omega)⟩
 ·exact⟨by omega,by omega,.inl (by omega)⟩
 ·exact⟨by omega,by omega,.inr ⟨h.1,by rw[h.2];rfl⟩⟩
theorem nT_ {x:Ty}(hw:Wf x)(h:x.atomic=false):(x.kind==4)=true∨((x.kind==4)=false∧(x.kind==5)=true)∨((x.kind==4)=false∧(x.kind==5)=false∧(x.kind==3)=true∧0<x.args.length):=by
 unfold Ty.atomic at h;have h0:=((a3_ x).1 hw).1;simp only[Bool.or_eq_false_iff,Bool.and_eq_false_iff,beq_eq_false_iff_ne,List.isEmpty_eq_false_iff] at h;simp only[beq_eq_false_iff_ne,beq_iff_eq]
 rcases h0 with h0|h0|h0|h0|h0
 ·omega
 ·omega
 ·exact .inr (.inr ⟨by omega,by omega,h0,by rcases h.2 with h|h;exact absurd h0 h;exact List.length_pos_iff.2 h⟩)
 ·exact .inl h0.1
 ·exact .inr (.inl ⟨by omega,h0.1⟩)
theorem ma_ (t:Ty)(hk:t.kind=3)(ih:∀ u∈t.args,bh_ u):bh_ t:=by
 intro S a c w hA hS hw hl;have hwf:=(a3_ t).1 hw;have hz:=aq_ w (.cells #[.int .i64 t.kind,.string t.name,.int .i64 t.n,.slice a t.args.length c] 43);have b4:=R4.new w (.int .i64 t.kind) (.string t.name) (.int .i64 t.n) (.slice a t.args.length c);have hla:t.args.length≤4500000000000:=by have:=oH_ t hk;omega
 have CC:=hid (fun (i:Nat) (hi:i<t.args.length) (a':OA_) (c':Nat) (W:World) (hA':aa_ S W (.slice a' t.args[i].args.length c') t.args[i].args) (h:Below w.heap.size w W) =>
  ih _ (List.getElem_mem hi) S a' c' W hA' (fun b hb=>aU_ (hS b hb) h.size) (hwf.2 _ (List.getElem_mem hi)) (by have h1:=lG_ t hk i hi;have h2:(ac_ t.args[i]).length≤(clT t.args[i]).length:=(by unfold clT cd_;split<;>simp;omega);omega))
 have HA:=hid hA;have HS:=hid hS;have HL:=hid hl;have HK:=hid hk;have HW:=hid hwf.2;have HZ:=hid hz;have K4:=hid b4;have c0:=b4.c0;have c1:=b4.c1;unfold tv;rw[hk] at c0 c1 HZ K4 ⊢;clear hA hS hw hl hwf hz b4 ih hk;go_enter Tryz.func45,Tryz.ntmps45;go_wp2
 go_loopw [3,4] (fun sv iv wr=>∃ i:Nat,iv=.int .i64 i∧i≤t.args.length∧sv=.string (ab_ (iH_ t i))∧Below (w.alloc (.cells #[.int .i64 3,.string t.name,.int .i64 t.n,.slice a t.args.length c] 43)).heap.size (w.alloc (.cells #[.int .i64 3,.string t.name,.int .i64 t.n,.slice a t.args.length c] 43)) wr) (fun _ iv _=>t.args.length - (intOf iv).toNat)
 case atStart=>exact⟨0,rfl,Nat.zero_le _,by simp[iH_,ab_],Below.refl _ _⟩
 case round =>
  clear c0 c1;obtain⟨i,rfl,hil,rfl,hB⟩:=hrel;have z0:(0:Int)≤(i:Int):=by omega
  have hBw:=HZ.out.trans (hB.mono HZ.out.size);have k3:=(K4.out.low hB).c3;have BW:=hid hBw;have BH:=hid hB;have hcl:=ox_ t HK.out i
  by_cases hi:i<t.args.length
  ·have z1:(i:Int)<(t.args.length:Int):=by omega
   obtain⟨b,off,a',cap',rfl,hb,hf,hs⟩:=HA.out.at_ hi;obtain⟨f0,f1,f2,f3⟩:=hf.keep (hBw.block b (HS.out b hb));have hzr:=aq_ wr (.cells #[.int .i64 t.args[i].kind,.string t.args[i].name,.int .i64 t.args[i].n,.slice a' t.args[i].args.length cap'] 43);have kx:=R4.new wr (.int .i64 t.args[i].kind) (.string t.args[i].name) (.int .i64 t.args[i].n) (.slice a' t.args[i].args.length cap');obtain⟨x0,x1,x2,x3⟩:=kx.c03;have hBz:=hBw.trans (hzr.mono hBw.size);have CH:=hid (CC.out i hi a' cap' (wr.alloc (.cells #[.int .i64 t.args[i].kind,.string t.args[i].name,.int .i64 t.args[i].n,.slice a' t.args[i].args.length cap'] 43)) (hs.keep fun b hS=>hBz.block b (HS.out b hS)) hBz);have ZR:=hid (hB.trans (hzr.mono hB.size));have CA:=hid (lB_ t i hi);have hlc:=lG_ t HK.out i hi;have hca:(iH_ t (i+1)).length≤(ac_ t).length:=ox_ t HK.out (i+1);rw[lB_ t i hi,List.length_append,List.length_cons] at hca;have hwx:=HW.out _ (List.getElem_mem hi);cases hq:t.args[i].atomic with
   | true =>
    obtain⟨e4,e5,e3⟩:=mJ_ hwx hq;have CE:Hid (ab_ (iH_ t i)++⟨#[32]⟩++ab_ (ac_ t.args[i])=ab_ (iH_ t (i+1))):=hid (by
     rw[CA.out];unfold clT cd_;rw[hq,if_pos rfl];show ab_ _++ab_ [32]++ab_ _=_;rw[aC_,aC_];simp)
    have hsz:(ab_ (iH_ t i)).size+(ab_ (ac_ t.args[i])).size+1≤4500000000000:=by
     rw[ap_,ap_];unfold clT cd_ at hca;rw[hq,if_pos rfl] at hca;have:=HL.out;omega
    clear hf hs hB hBw hb hzr kx hBz hlc hca hwx hcl hq CC;generalize t.args[i]=x at *;generalize ab_ (iH_ t i)=s0 at *
    rcases e3 with e3|⟨e3,el⟩
    all_goals
     (try (have el1:decide ((0:Int)<(x.args.length:Int))=false:=by rw[el];rfl))
     (try (have el2:¬ (0:Int)<(x.args.length:Int):=by omega))
     (try clear el)
     unfold tv at CH;go_wp2_with fail;refine CH.out.mono ?_;rintro e w4 ⟨rfl,B4⟩;have B5:=hid (ZR.out.trans (B4.mono ZR.out.size));clear B4 CH x0 x1 x2 x3 f0 f1 f2 f3 k3;generalize ab_ (ac_ x)=px at *;go_wp2;go_roundw
     case rel=>exact⟨i+1,by go_num,by omega,by rw[← CE.out],B5.out⟩
     case measure=>simp[intOf];omega
   | false =>
    have CE:Hid (ab_ (iH_ t i)++⟨#[32,40]⟩++ab_ (ac_ t.args[i])++⟨#[41]⟩=ab_ (iH_ t (i+1))):=hid (by
     rw[CA.out];unfold clT cd_;rw[hq,if_neg (by decide)];show ab_ _++ab_ [32,40]++ab_ _++ab_ [41]=_;rw[aC_,aC_,aC_];simp)
    have hsz:(ab_ (iH_ t i)).size+(ab_ (ac_ t.args[i])).size+3≤4500000000000:=by
     rw[ap_,ap_];unfold clT cd_ at hca;rw[hq,if_neg (by decide)] at hca;simp at hca;have:=HL.out;omega
    have e3:=nT_ hwx hq;clear hf hs hB hBw hb hzr kx hBz hlc hca hwx hcl hq CC;generalize t.args[i]=x at *;generalize ab_ (iH_ t i)=s0 at *
    rcases e3 with e4|⟨e4,e5⟩|⟨e4,e5,e3,el⟩
    all_goals
     (try (have el1:decide ((0:Int)<(x.args.length:Int))=true:=by rw[decide_eq_true_eq];omega))
     (try (have el2:(0:Int)<(x.args.length:Int):=by omega))
     unfold tv at CH;go_wp2_with fail;refine CH.out.mono ?_;rintro e w4 ⟨rfl,B4⟩;have B5:=hid (ZR.out.trans (B4.mono ZR.out.size));clear B4 CH x0 x1 x2 x3 f0 f1 f2 f3 k3;generalize ab_ (ac_ x)=px at *;go_wp2;go_roundw
     case rel=>exact⟨i+1,by go_num,by omega,by rw[← CE.out],B5.out⟩
     case measure=>simp[intOf];omega
  ·obtain rfl:i=t.args.length:=by omega
   have E:Hid (iH_ t t.args.length=ac_ t):=hid (oy_ t HK.out);clear hB hBw hcl CC;go_wp2;go_ret;exact⟨by rw[E.out];rfl,BW.out⟩
theorem jg_ (n:Nat):∀ t:Ty,t.depth≤n→bh_ t:=by
 induction n with
 | zero=>intro t h;rw[t.depth_eq] at h;omega
 | succ n ih =>
  intro t hn;have lower:∀ u∈t.args,u.depth≤n:=fun u hu=>by have:=aI_ _ hu;rw[t.depth_eq] at hn;omega
  intro S a c w hA hS hw hl
  rcases ((a3_ t).1 hw).1 with h|h|h|h|h
  ·exact l9_ t h.1 a c w
  ·exact kc_ t h.1 h.2.2.1 h.2.2.2 a c w
  ·exact ma_ t h (fun u hu=>ih u (lower u hu)) S a c w hA hS hw hl
  ·obtain⟨x,y,hxy⟩:∃ x y,t.args=[x,y]:=by
    match hl:t.args,h.2 with
    | [x,y],_=>exact⟨x,y,rfl⟩
   have lx:=ih x (lower x (by rw[hxy];simp));have ly:=ih y (lower y (by rw[hxy];simp));have hwx:Wf x:=((a3_ t).1 hw).2 x (by rw[hxy];simp)
   by_cases h4:x.kind=4
   ·exact ke_ t h.1 x y hxy h4 lx ly S a c w hA hS hw hl
   ·by_cases h5:x.kind=5
    ·exact kd_ t h.1 x y hxy h5 lx ly S a c w hA hS hw hl
    ·exact kf_ t h.1 x y hxy (by rcases ((a3_ x).1 hwx).1 with g|g|g|g|g<;>omega) lx ly S a c w hA hS hw hl
  ·obtain⟨x,hx⟩:=ip_ h.2
   exact mc_ t h.1 x hx (fun u hu=>ih u (by omega)) S a c w hA hS hw hl
theorem mb_ (t:Ty):bh_ t:=jg_ t.depth t (aA_ _)
theorem sh_:∀ (t:Ty) (out:List Int) (ns ns':List ByteArray),bB_ al_ t out ns=bB_ al_ t out ns':=by
 intro t
 induction t using Ty.ind with
 | h t ih =>
  intro out ns ns';rw[bF_,bF_];have:∀ (l:List Ty) (out:List Int) (ns ns':List ByteArray),(∀ a∈l,∀ (out:List Int) (ns ns':List ByteArray),bB_ al_ a out ns=bB_ al_ a out ns')→a1_ al_ l out ns=a1_ al_ l out ns':=by
   intro l
   induction l with
   | nil=>intro out ns ns' _;rfl
   | cons a l ihl=>intro out ns ns' h;rw[a1_,a1_,h a (by simp) out ns ns'];exact ihl _ _ _ fun b hb=>h b (by simp[hb])
  exact this t.args _ _ _ ih
theorem lU_ (ts:List Ty)(i:Nat)(h:i<ts.length)(g:List Int):a1_ al_ (ts.take (i+1)) g []=bB_ al_ ts[i] (a1_ al_ (ts.take i) g []) []:=dI_ al_ ts i h g []
theorem mU_ (l:List Ty)(out:List Int):(a1_ al_ l out []).length≤out.length+ag_ l:=by
 induction l generalizing out with
 | nil=>simp[a1_]
 | cons t l ih=>rw[a1_,ag_];have:=ih (bB_ al_ t out []);have:=kt_ t out [];omega
theorem o6_ (l:List Ty)(out:List Int)(ns:List ByteArray):a1_ al_ l out ns=a1_ al_ l out []:=by
 induction l generalizing out with
 | nil=>rfl
 | cons t l ih=>rw[a1_,a1_,sh_ t out ns []];exact ih _
def h4_ (w:World)(l:List Int)(e:Ending)(w':World):Prop:=∃ v,e=.returned v∧cM_ w' v l∧Below w.heap.size w w'
def eO_ (t:Ty):Prop:=∀ (S:Nat→Prop) (a:OA_) (c:Nat) (w:World) (vo:Value) (out:List Int),aa_ S w (.slice a t.args.length c) t.args→(∀ b,S b→b<w.heap.size)→Wf t→cM_ w vo out →
  out.length+t.size≤1000000000000→Calls Tryz.prog 110 #[tv t a c,vo] w (h4_ w (bB_ al_ t out []))
theorem R4.drawn {w:World}{b:Nat}{u0 u1 u2 u3:Value}(h:R4 w b u0 u1 u2 u3)(n:Nat):R4 (w.drewN n) b u0 u1 u2 u3:=h.low (bg_ (Below.refl _ _) n)
theorem qz_ {l:List Int}{k:Nat}(h:k<l.length){x:Int}(h1:x∉l.take k)(h2:l[k]≠x):x∉l.take (k+1):=by
 rw[List.take_add_one,List.getElem?_eq_getElem h];intro h'
 rcases List.mem_append.1 h' with h'|h'
 ·exact h1 h'
 ·simp only[Option.toList_some,List.mem_singleton] at h';exact h2 h'.symm
theorem kh_ (t:Ty)(hk:t.kind=2)(hta:t.args=[]):eO_ t:=by
 intro S a c w vo out hA hS hw ho hlo;obtain⟨⟨ao,co,rfl,hc1,hl1,hcells⟩,hnil⟩:=id ho;have hz:Below w.heap.size w (w.alloc (.cells #[.int .i64 t.kind,.string t.name,.int .i64 t.n,.slice a t.args.length c] 43)):=aq_ w (.cells #[.int .i64 t.kind,.string t.name,.int .i64 t.n,.slice a t.args.length c] 43);have k4:=R4.new w (.int .i64 t.kind) (.string t.name) (.int .i64 t.n) (.slice a t.args.length c);have E:bB_ al_ t out []=if out.contains t.n then out else out++[t.n]:=by
  rw[bF_,hta,a1_];unfold al_;rw[hk];cases out.contains t.n<;>rfl
 have HOW:=hid (ho.low hz);have HCC:Hid (out=[]∨∃ b off,ao=some ⟨b,off,none⟩∧∀ j (h:j<out.length),(w.alloc (.cells #[.int .i64 t.kind,.string t.name,.int .i64 t.n,.slice a t.args.length c] 43)).cell? ⟨b,off+j,none⟩=some (.int .i64 out[j])):=hid (hcells.imp id fun ⟨b,off,e,hb,hcc⟩=>⟨b,off,e,fun j hj=>(hz.cell (p:=⟨b,off+j,none⟩) hb).trans (hcc j hj)⟩);have e1:(t.kind==2)=true:=by rw[hk];rfl
 have c0:=k4.c0;have c2:=k4.c2;have K4:=hid k4;have HZ:=hid hz;have EH:=hid E;have hl2:out.length≤1099511627776:=by omega
 have hl3:(out++[t.n]).length≤1099511627776:=by simp;omega
 clear hA hS hw hcells hnil hc1 hl1 ho hz k4 hk hta hlo E;unfold tv;generalize t.args.length=n at *;go_enter Tryz.func110,Tryz.ntmps110;go_wp2;generalize w.alloc (.cells #[.int .i64 t.kind,.string t.name,.int .i64 t.n,.slice a n c] 43)=W0 at *
 go_loopw [5] (fun iv wr=>∃ k:Nat,iv=.int .i64 k∧k≤out.length∧t.n∉out.take k∧∃ m,wr=W0.drewN m) (fun iv _=>out.length - (intOf iv).toNat)
 case atStart=>exact⟨0,rfl,Nat.zero_le _,by simp,0,rfl⟩
 case round =>
  obtain⟨k,rfl,hkl,hno,m,rfl⟩:=hrel;have NO:=hid hno;clear hno
  by_cases hlt:k<out.length
  ·obtain⟨b,off,rfl,hcc⟩:=HCC.out.resolve_left (by intro e;rw[e] at hlt;simp at hlt)
   have hcy:=hcc k hlt;have z0:(0:Int)≤(k:Int):=(by omega);have z1:(k:Int)<(out.length:Int):=(by omega);clear hcc
   by_cases hx:out[k]=t.n
   ·have f1:(out[k]==t.n)=true:=by rw[hx];simp
    have EO:Hid (bB_ al_ t out []=out):=hid (by rw[EH.out,if_pos (by rw[List.contains_iff_mem,← hx];exact List.getElem_mem hlt)]);clear hx;go_wp2;go_quiet (fail);go_wp2;go_ret;exact⟨_,rfl,by rw[EO.out];exact HOW.out.low (bg_ (bg_ (Below.refl _ _) _) _),bg_ (bg_ HZ.out _) _⟩
   ·have f1:(out[k]==t.n)=false:=by rw[beq_eq_false_iff_ne];exact hx
    have ST:=hid (qz_ hlt NO.out hx);clear hx;go_wp2;go_quiet (fail);go_wp2;go_roundw
    case rel=>exact⟨k+1,by go_num,by omega,ST.out,_,rfl⟩
    case measure=>simp[intOf];omega
  ·obtain rfl:k=out.length:=by omega
   have EO:Hid (bB_ al_ t out []=out++[t.n]):=hid (by rw[EH.out,if_neg (by rw[List.contains_iff_mem];have:=NO.out;rwa [List.take_length] at this)]);have HZ1:=hid (bg_ HZ.out m);have K41:=hid (K4.out.drawn m);have HO1:=hid (HOW.out.low (bg_ (Below.refl _ _) m));have d2:=K41.out.c2;clear c0 c2 NO HCC;generalize W0.drewN m=W1 at *;clear HOW K4 HZ;go_wp2;have PA:=hid (rW_ 50 50 (W1) HO1.out hl2 t.n);have PB:=hid (rV_ 50 50 (W1) HO1.out hl2 t.n);have PC:=hid (rU_ 50 50 (W1) HO1.out hl2 t.n)
   go_region_held3 (fun w'=>w'.cell? ⟨w.heap.size,2,none⟩=some (.int .i64 t.n))
    (first|(with_reducible exact (K41.out.low HX2.out).c2)|(with_reducible exact (K41.out.low HX1.out).c2)|go_keep)
    (first
     | ((with_reducible show (if Region.wanted _ _=true then Oper.wp _ _ _ ((W1).alloc (.cells #[] 3)).drew _ _ else _));refine ah_ (by rfl) _ _ _ (by rfl) (by rfl) (by rfl) PA.out ?_;rintro v1 w1 ⟨hx1,hA2⟩;have HX1:=hid hx1;have A2:=hid hA2;have q1:=(K41.out.low hx1).c2;clear hx1 hA2)
     | ((with_reducible show (if Region.wanted _ _=true then Oper.wp _ _ _ (((W1).alloc (.cells #[] 3)).alloc (.cells #[.int .i64 t.n] 3)).drew _ _ else _));refine ah_ (by rfl) _ _ _ (by rfl) (by rfl) (by rfl) PB.out ?_;rintro v1 w1 ⟨hx1,hA2⟩;have HX1:=hid hx1;have A2:=hid hA2;have q1:=(K41.out.low hx1).c2;clear hx1 hA2)
     | ((with_reducible show (if Region.wanted _ _=true then Oper.wp _ _ _ (((W1).alloc (.cells #[.int .i64 t.n] 3)).alloc (.cells #[] 3)).drew _ _ else _));refine ah_ (by rfl) _ _ _ (by rfl) (by rfl) (by rfl) PC.out ?_;rintro v1 w1 ⟨hx1,hA2⟩;have HX1:=hid hx1;have A2:=hid hA2;have q1:=(K41.out.low hx1).c2;clear hx1 hA2)
     | (refine ah_ (by rfl) _ _ _ (by rfl) (by rfl) (by rfl) A2.out ?_;rintro v2 w2 ⟨ho2,hx2⟩;have HO2:=hid ho2;have HX2:=hid hx2;clear ho2 hx2))
   all_goals
    go_wp2;go_ret;exact⟨_,rfl,by rw[EO.out];exact .own HO2.out hl3,HZ1.out.trans (HX2.out.mono HZ1.out.size)⟩
theorem kg_ (t:Ty)(hk:t.kind≠2)(ih:∀ u∈t.args,eO_ u):eO_ t:=by
 intro S a c w vo out hA hS hw ho hlo;have hz:Below w.heap.size w (w.alloc (.cells #[.int .i64 t.kind,.string t.name,.int .i64 t.n,.slice a t.args.length c] 43)):=aq_ w (.cells #[.int .i64 t.kind,.string t.name,.int .i64 t.n,.slice a t.args.length c] 43);have k4:=R4.new w (.int .i64 t.kind) (.string t.name) (.int .i64 t.n) (.slice a t.args.length c);have hl:t.args.length≤9223372036854775807:=by
  obtain⟨_,_,_,h⟩:=hA.form;exact h
 have hst:al_ out t []=out:=by
  unfold al_;rw[show (t.kind==2)=false from by rw[beq_eq_false_iff_ne];exact hk];rfl
 have E:=bF_ al_ t out [];rw[hst,o6_] at E;have EQ:=hid E;have e1:(t.kind==2)=false:=by rw[beq_eq_false_iff_ne];exact hk
 have SE:Hid (ag_ t.args+1+out.length≤1000000000000):=hid (by have:=t.size_eq;omega);have IH:=hid ih;have AH:=hid hA;have HN:=hid hS;have HW:=hid ((a3_ t).1 hw).2;have HOW:=hid (ho.low hz);have c0:=k4.c0;have K4:=hid k4;have HZ:=hid hz;clear hA hS hw ho hz k4 ih hk hst hlo E;unfold tv;go_enter Tryz.func110,Tryz.ntmps110;go_wp2;clear c0
 go_loopw [1,6] (fun ov iv wr=>∃ i:Nat,iv=.int .i64 i∧i≤t.args.length∧cM_ wr ov (a1_ al_ (t.args.take i) out [])∧Below (w.alloc (.cells #[.int .i64 t.kind,.string t.name,.int .i64 t.n,.slice a t.args.length c] 43)).heap.size (w.alloc (.cells #[.int .i64 t.kind,.string t.name,.int .i64 t.n,.slice a t.args.length c] 43)) wr) (fun _ iv _=>t.args.length - (intOf iv).toNat)
 case atStart=>exact⟨0,rfl,Nat.zero_le _,by simpa [a1_] using HOW.out,Below.refl _ _⟩
 case round =>
  obtain⟨i,rfl,hil,hO,hB⟩:=hrel;have z0:(0:Int)≤(i:Int):=by omega
  have hBw:=HZ.out.trans (hB.mono HZ.out.size);have k3:=(K4.out.low hB).c3;have BW:=hid hBw;have BH:=hid hB
  by_cases hi:i<t.args.length
  ·have z1:(i:Int)<(t.args.length:Int):=by omega
   obtain⟨b,off,a',cap',rfl,hb,hf,hs⟩:=AH.out.at_ hi;obtain⟨f0,f1,f2,f3⟩:=hf.keep (hBw.block b (HN.out b hb));have hm:=List.getElem_mem hi;have CH:=hid (IH.out _ hm S a' cap' wr _ _ (hs.keep fun b hS=>hBw.block b (HN.out b hS)) (fun b hS=>aU_ (HN.out b hS) hBw.size) (HW.out _ hm) hO (by have:=mU_ (t.args.take i) out;have h1:=co_ t.args i hi;have h2:=bu_ t.args (i+1);have:=SE.out;omega));have ST:=hid (lU_ t.args i hi out);unfold tv at CH;clear hf hs hB hBw hm hb hO;generalize t.args[i]=x at *;go_wp2_with fail;refine CH.out.mono ?_;rintro e w4 ⟨v4,rfl,h4,B4⟩;have B5:=hid (BH.out.trans (B4.mono BH.out.size));have H4:=hid h4;clear B4 h4;go_wp2;go_roundw
   case rel=>exact⟨i+1,by go_num,by omega,by rw[ST.out];exact H4.out,B5.out⟩
   case measure=>simp[intOf];omega
  ·obtain rfl:i=t.args.length:=by omega
   have HO5:=hid hO;clear hB hBw hO;go_wp2;go_ret;exact⟨_,rfl,by rw[EQ.out];have:=HO5.out;rwa [List.take_length] at this,BW.out⟩
theorem mf_:∀ t:Ty,eO_ t:=by
 intro t
 induction t using Ty.ind with
 | h t ih =>
  intro S a c w vo out hA hS hw
  by_cases h1:t.kind=2
  ·have hta:t.args=[]:=by rcases ((a3_ t).1 hw).1 with h|h|h|h|h<;>first|omega|exact h.2|exact h.2.1
   exact kh_ t h1 hta S a c w vo out hA hS hw
  ·exact kg_ t h1 ih S a c w vo out hA hS hw
theorem kq_ (w:World):cM_ w (.slice none 0 0) []:=⟨⟨none,0,rfl,by simp,by simp,.inl rfl⟩,fun c e=>by injection e with _ _ e;exact e.symm⟩
theorem hH_ (t:Ty)(S:Nat→Prop)(a:OA_)(c:Nat)(w:World)(hA:aa_ S w (.slice a t.args.length c) t.args)(hS:∀ b,S b→b<w.heap.size)(hw:Wf t)(hs:t.size≤1000000000000) :
  Calls Tryz.prog 71 #[tv t a c] w (h4_ w (ay_ t)):=by
 have hz:Below w.heap.size w (w.alloc (.cells #[.int .i64 t.kind,.string t.name,.int .i64 t.n,.slice a t.args.length c] 43)):=aq_ w (.cells #[.int .i64 t.kind,.string t.name,.int .i64 t.n,.slice a t.args.length c] 43);have k4:=R4.new w (.int .i64 t.kind) (.string t.name) (.int .i64 t.n) (.slice a t.args.length c);have C:=hid (mf_ t S a c (w.alloc (.cells #[.int .i64 t.kind,.string t.name,.int .i64 t.n,.slice a t.args.length c] 43)) (.slice none 0 0) [] (hA.keep fun b hb=>hz.block b (hS b hb)) (fun b hb=>aU_ (hS b hb) hz.size) hw (kq_ _) (by simpa using hs));have HZ:=hid hz;obtain⟨c0,c1,c2,c3⟩:=k4.c03;clear hA hS hw hz k4;unfold tv at C ⊢;go_enter Tryz.func71,Tryz.ntmps71;go_wp2_with fail;refine C.out.mono ?_;rintro e w1 ⟨v,rfl,h1,hB⟩;have H1:=hid h1;have HB:=hid (HZ.out.trans (hB.mono HZ.out.size));clear h1 hB;go_wp2;go_ret;exact⟨v,rfl,H1.out,HB.out⟩
structure o0_ (n b:Nat)(t:Ty)(a:OA_)(c:Nat)(W:World):Prop where
 k:R4 W b (.int .i64 t.kind) (.string t.name) (.int .i64 t.n) (.slice a t.args.length c)
 h:aa_ (Lt n) W (.slice a t.args.length c) t.args
 lt:b<W.heap.size
 le:n≤W.heap.size
theorem o0_.low {n b:Nat}{t:Ty}{a:OA_}{c:Nat}{W W':World}(R:o0_ n b t a c W)(h:Below W.heap.size W W'):o0_ n b t a c W' :=
 ⟨R.k.low h,R.h.keep fun j hj=>h.block j (aU_ hj R.le),aU_ R.lt h.size,bL_ R.le h.size⟩
theorem o0_.at_ {n b:Nat}{t:Ty}{a:OA_}{c:Nat}{W:World}(R:o0_ n b t a c W):AtW t a c W:=R.h.mono fun _ hj=>aU_ hj R.le
theorem rJ_ {t:Ty}{a:OA_}{c:Nat}{W:World}(R:AtW t a c W) :
  Calls Tryz.prog 106 #[.agg #[.int .i64 t.kind,.string t.name,.int .i64 t.n,.slice a t.args.length c]] W (b9_ W (c5_ t)) :=
 no_ t _ a c W R (fun _ h=>h)
def R2 (w:World)(b:Nat)(c0 c1:Value):Prop:=w.heap[b]? = some (.cells #[c0,c1] 94 (0,0))
section
variable {w w' : World} {b : Nat} {u0 u1 : Value}
theorem R2.c0 (h:R2 w b u0 u1):w.cell? ⟨b,0,none⟩=some u0:=cell_of_row w b 0 _ _ _ h
theorem R2.c1 (h:R2 w b u0 u1):w.cell? ⟨b,1,none⟩=some u1:=cell_of_row w b 1 _ _ _ h
theorem R2.fr (h:R2 w b u0 u1)(i:Nat):w.frozen? ⟨b,i,none⟩=false:=by unfold R2 at h;simp[World.frozen?,h]
theorem R2.lt (h:R2 w b u0 u1):b<w.heap.size:=(Array.getElem?_eq_some_iff.1 h).1
theorem R2.new (w:World)(u0 u1:Value):R2 (w.alloc (.cells #[u0,u1] 94)) w.heap.size u0 u1:=heap_alloc_new w _
theorem R2.low (h:R2 w b u0 u1)(hb:Below w.heap.size w w'):R2 w' b u0 u1:=(hb.block b h.lt).trans h
theorem R2.set0 (h:R2 w b u0 u1)(v:Value):R2 (w.setCell ⟨b,0,none⟩ v) b v u1:=aF_ h v
theorem R2.set1 (h:R2 w b u0 u1)(v:Value):R2 (w.setCell ⟨b,1,none⟩ v) b u0 v:=aF_ h v
end
theorem R4.set1 {w:World}{b:Nat}{u0 u1 u2 u3:Value}(h:R4 w b u0 u1 u2 u3)(v:Value):R4 (w.setCell ⟨b,1,none⟩ v) b u0 v u2 u3:=aF_ h v
theorem R4.set3 {w:World}{b:Nat}{u0 u1 u2 u3:Value}(h:R4 w b u0 u1 u2 u3)(v:Value):R4 (w.setCell ⟨b,3,none⟩ v) b u0 u1 u2 v:=aF_ h v
structure iZ_ (S:Nat→Prop)(lo:Nat)(w:World)(v:Value)(acc:List Ty)(svs:List Value):Prop where
 own:w.ownsRow lo 43 4 v acc.length (bZ_ acc svs)
 len:svs.length=acc.length
 at_:∀ (j:Nat) (t:Ty) (sv:Value),acc[j]? = some t→svs[j]? = some sv→aa_ (fun b=>(S b∨lo≤b)∧b<w.heap.size∧v.ownBlock≠some b) w sv t.args
section
variable {S : Nat → Prop} {lo : Nat} {w w' : World} {v : Value} {acc : List Ty} {svs : List Value}
theorem iZ_.nil (S:Nat→Prop)(lo:Nat)(w:World):iZ_ S lo w (.slice none 0 0) [] []:=⟨World.ownsRow_nil _ _ _ _,rfl,by simp⟩
theorem iZ_.low (h:iZ_ S lo w v acc svs)(hb:Below w.heap.size w w'):iZ_ S lo w' v acc svs :=
 ⟨aE_ h.own fun b hq=>hb.block b (h.own.lt b hq).2,h.len,fun j t sv h1 h2=>((h.at_ j t sv h1 h2).keep fun b hq=>hb.block b hq.2.1).mono fun _ hq=>⟨hq.1,aU_ hq.2.1 hb.size,hq.2.2⟩⟩
theorem iZ_.off (h:iZ_ S lo w v acc svs){O:Nat}(hO:O<lo)(hS:∀ b,S b→b<O)(i:Nat)(u:Value):iZ_ S lo (w.setCell ⟨O,i,none⟩ u) v acc svs:=by
 have hk:∀ b,b≠O→(w.setCell ⟨O,i,none⟩ u).heap[b]? = w.heap[b]? := fun b hb=>av_ w _ u b (fun e=>hb e);refine⟨aE_ h.own fun b hq=>hk b (by have:=(h.own.lt b hq).1;omega),h.len,fun j t sv h1 h2=>((h.at_ j t sv h1 h2).keep fun b hq=>hk b ?_).mono fun b hq=>⟨hq.1,by simpa using hq.2.1,hq.2.2⟩⟩
 rcases hq.1 with hq|hq
 ·have:=hS b hq;omega
 ·omega
theorem iZ_.push (h:iZ_ S lo w v acc svs)(hlo:lo≤w.heap.size)(hl:acc.length≤1000000000000){t:Ty}{a:OA_}{c:Nat}(hx:aa_ (fun b=>(S b∨lo≤b)∧b<w.heap.size∧v.ownBlock≠some b) w (.slice a t.args.length c) t.args) :
  ∃ v' w',(Builtin.append_ #[41,41] 41 #[v,.slice (some ⟨w.heap.size,0,none⟩) 1 1]).run Tryz.prog (w.alloc (.cells #[.int .i64 t.kind,.string t.name,.int .i64 t.n,.slice a t.args.length c] 43))=.ok v' w' ∧
   iZ_ S lo w' v' (acc++[t]) (svs++[.slice a t.args.length c])∧w.grownBy w' v.ownBlock∧w.heap.size<w'.heap.size:=by
 obtain⟨i0,hi0,hz0,hz1,hz3⟩:=info_parts jB_;have hg0:w.grownBy (w.alloc (.cells #[.int .i64 t.kind,.string t.name,.int .i64 t.n,.slice a t.args.length c] 43)) v.ownBlock:=⟨rfl,rfl,rfl,by simp,fun k hk _=>heap_alloc_old w _ hk⟩;obtain⟨g,cap,w',hr,ho,hg,hat,hlt⟩:=run_append_lies (P:=Tryz.prog) (w:=w.alloc (.cells #[.int .i64 t.kind,.string t.name,.int .i64 t.n,.slice a t.args.length c] 43)) 41 41 lo 43 i0 _ 4 56 Tryz.underlying41 hi0 hz0 hz1 hz3 rfl (by omega) v acc.length (bZ_ acc svs) (h.own.alloc _) ⟨w.heap.size,0,none⟩ 1 1
  (dr_ t (.slice a t.args.length c)) rfl (World.news_of_block (cs:=#[.int .i64 t.kind,.string t.name,.int .i64 t.n,.slice a t.args.length c]) (t:=43) (fr:=(0,0)) (heap_alloc_new w _)) (by simp[dr_,Value.oneCell']) (by omega) (by unfold maxLen;omega) (by omega) (by simp;omega) (w.heap.size+1) (by simp)
 have hgg:w.grownBy w' v.ownBlock:=⟨hg.os.trans hg0.os,hg.tape.trans hg0.tape,hg.output.trans hg0.output,bL_ hg0.size hg.size,fun k hk hne=>(hg.block k (by simp;omega) hne).trans (hg0.block k hk hne)⟩;have hsz:=hg.size;simp only[World.size_alloc] at hsz;have kp:∀ {y:Value} {ts:List Ty},aa_ (fun b=>(S b∨lo≤b)∧b<w.heap.size∧v.ownBlock≠some b) w y ts→aa_ (fun b=>(S b∨lo≤b)∧b<w'.heap.size∧(Value.slice (some ⟨g,0,none⟩) (acc.length+1) cap).ownBlock≠some b) w' y ts:=fun hy =>
  (hy.keep fun b hb=>hgg.block b hb.2.1 (Ne.symm hb.2.2)).mono fun b hb=>⟨hb.1,by omega,fun e=>by
   have e2:g=b:=by simpa [Value.ownBlock] using e
   rcases hat with e3|e3
   ·exact hb.2.2 (by rw[e3,e2])
   ·have:=hb.2.1;omega⟩
 refine⟨_,w',hr,⟨by rw[d6_ _ _ _ _ h.len,List.length_append];exact ho,by simp[h.len],fun j u y h1 h2=>?_⟩,hgg,by omega⟩
 rcases Nat.lt_or_ge j acc.length with hj|hge
 ·rw[List.getElem?_append_left hj] at h1
  rw[List.getElem?_append_left (by rw[h.len];exact hj)] at h2;exact kp (h.at_ j u y h1 h2)
 ·have hj:j=acc.length:=by
   have:=(List.getElem?_eq_some_iff.1 h1).1;simp at this;omega
  subst hj;rw[List.getElem?_append_right (aA_ _)] at h1;rw[← h.len,List.getElem?_append_right (aA_ _)] at h2;simp at h1 h2;subst h1 h2;exact kp hx
theorem iZ_.args (h:iZ_ S lo w v acc svs):aa_ (fun b=>(S b∨lo≤b)∧b<w.heap.size) w v acc:=by
 rcases h.own.2 with ⟨rfl,h0⟩|⟨g,cap,cur,rfl,hb,hg,h1,h2,h3,h4⟩
 ·have:acc=[]:=List.eq_nil_of_length_eq_zero h0
  subst this;exact .nil _ _
 ·refine .mk g 0 cap acc (fun i=>svs.getD i (.slice none 0 0)) ⟨.inr hb,(Array.getElem?_eq_some_iff.1 hg).1⟩ (by unfold maxLen at h2;omega) (fun i hi=>?_) (fun i hi=>?_)
  ·have hi':i<svs.length:=by rw[h.len];exact hi
   obtain⟨a0,a1,a2,a3⟩:=et_ acc svs h.len i hi hi';have hc:=h.own.cells (g:=g) rfl;have b0:=hc _ _ a0;have b1:=hc _ _ a1;have b2:=hc _ _ a2;have b3:=hc _ _ a3;rw[hf_] at b0 b1 b2 b3;simp only[Nat.zero_add] at b0 b1 b2 b3 ⊢;rw[List.getD_eq_getElem?_getD,List.getElem?_eq_getElem hi'];exact⟨b0,b1,b2,b3⟩
  ·have hi':i<svs.length:=by rw[h.len];exact hi
   simp only[List.getD_eq_getElem?_getD,List.getElem?_eq_getElem hi',Option.getD_some];exact (h.at_ i _ _ (List.getElem?_eq_getElem hi) (List.getElem?_eq_getElem hi')).mono fun b hb=>⟨hb.1,hb.2.1⟩
theorem iZ_.form (h:iZ_ S lo w v acc svs):∃ a c,v=.slice a acc.length c:=aL_ h.own
end
end
end Go.Proofs.YtjecnionbjlncaaGreatDoor.Tp

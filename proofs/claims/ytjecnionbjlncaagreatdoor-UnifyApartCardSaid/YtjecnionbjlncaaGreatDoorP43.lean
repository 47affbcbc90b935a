/- Packed. -/
import Derived.Deep.CutRange
import Derived.Test.YtjecnionbjlncaaGreatDoorP42
set_option maxRecDepth 100000
set_option maxHeartbeats 6400000
namespace Go.Proofs.YtjecnionbjlncaaGreatDoor.Tp
section
open Go.RowKit
theorem j8_ {T:Nat→Prop}{n0 d:Nat}{w:World}{wb kb:Nat}{W:Wk}{v:Value}{ps:List (Value × Value)}{e:EqT}{a a':OA_}{c c':Nat}{l r:Ty}{res:Except Nat Wk}(h:UM T n0 w wb kb W v ps)(hK:KB W.K)(hA:aa_ T w (.slice a e.1.args.length c) e.1.args)(hA':aa_ T w (.slice a' e.2.args.length c') e.2.args)(hs:SmT e.1∧SmT e.2)(hT:∀ w',Below n0 w w'→Tab w')(hl:dX_ d W.K e.1=some l)(hr:dX_ d W.K e.2=some r)(hst:f9_ W (cB_ l r).1 (cB_ l r).2=some res)(hn0:n0≤w.heap.size)(hlen:W.left.length≤500000000000)(hok:∀ W',res=.ok W'→W'.left.length≤500000000000) :
  Calls Tryz.prog 33 #[.pointer (some ⟨wb,0,none⟩),eqv e a c a' c'] w (nI_ n0 w wb kb v res):=by
 have HSW:=hid (l1_ (kI_ hK hs.1 hl) (kI_ hK hs.2 hr));have HST:=hid hst;have HN0:=hid hn0;have HLEN:=hid hlen;have HTAB:=hid hT;have HTB:Hid (∀ w',Below w.heap.size w w'→Tab w'):=hid fun w' hb=>hT w' (hb.mono hn0);clear hst hn0 hlen hT;have hTl:∀ b,T b→b<w.heap.size:=fun b hb=>(h.t b hb).1;have hz:=aw_ w (.cells #[.int .i64 e.1.kind,.string e.1.name,.int .i64 e.1.n,.slice a e.1.args.length c,.int .i64 e.2.kind,.string e.2.name,.int .i64 e.2.n,.slice a' e.2.args.length c'] 48);have q8:=Q8.new w (.int .i64 e.1.kind) (.string e.1.name) (.int .i64 e.1.n) (.slice a e.1.args.length c) (.int .i64 e.2.kind) (.string e.2.name) (.int .i64 e.2.n) (.slice a' e.2.args.length c');have CF1:Hid (∀ W':World,Below w.heap.size w W'→Calls Tryz.prog 37 #[.pointer (some ⟨wb,0,none⟩),.agg #[.int .i64 e.1.kind,.string e.1.name,.int .i64 e.1.n,.slice a e.1.args.length c]] W' (TP T l W')):=hid (fun W' hb=>h7_ d T n0 W' wb kb W v ps e.1 l a c (h.low hb) hK.small (hA.keep fun b hT=>hb.block b (hTl b hT)) hs.1.small (HTB.out _ hb) hl);have CF2:Hid (∀ W':World,Below w.heap.size w W'→Calls Tryz.prog 37 #[.pointer (some ⟨wb,0,none⟩),.agg #[.int .i64 e.2.kind,.string e.2.name,.int .i64 e.2.n,.slice a' e.2.args.length c']] W' (TP T r W')):=hid (fun W' hb=>h7_ d T n0 W' wb kb W v ps e.2 r a' c' (h.low hb) hK.small (hA'.keep fun b hT=>hb.block b (hTl b hT)) hs.2.small (HTB.out _ hb) hr);obtain⟨k0,k1,k2,k3,k4,k5,k6,k7⟩:=q8.c07;have HD:Hid (Below w.heap.size w ((w.alloc (.cells #[.int .i64 e.1.kind,.string e.1.name,.int .i64 e.1.n,.slice a e.1.args.length c,.int .i64 e.2.kind,.string e.2.name,.int .i64 e.2.n,.slice a' e.2.args.length c'] 48)).drew)):=hid (hz.trans ((Below.refl _ _).drew.mono hz.size));have HDA:Hid (Below w.heap.size w (((w.alloc (.cells #[.int .i64 e.1.kind,.string e.1.name,.int .i64 e.1.n,.slice a e.1.args.length c,.int .i64 e.2.kind,.string e.2.name,.int .i64 e.2.n,.slice a' e.2.args.length c'] 48)).alloc (.cells #[.int .i64 0,.string ⟨#[]⟩,.int .i64 0,.slice none 0 0] 37)).drew)):=hid (show Below w.heap.size w (((w.alloc (.cells #[.int .i64 e.1.kind,.string e.1.name,.int .i64 e.1.n,.slice a e.1.args.length c,.int .i64 e.2.kind,.string e.2.name,.int .i64 e.2.n,.slice a' e.2.args.length c'] 48)).drew).alloc (.cells #[.int .i64 0,.string ⟨#[]⟩,.int .i64 0,.slice none 0 0] 37)) from HD.out.alloc HD.out.size _);have HDB:Hid (Below w.heap.size w ((((w.alloc (.cells #[.int .i64 e.1.kind,.string e.1.name,.int .i64 e.1.n,.slice a e.1.args.length c,.int .i64 e.2.kind,.string e.2.name,.int .i64 e.2.n,.slice a' e.2.args.length c'] 48)).alloc (.cells #[.int .i64 0,.string ⟨#[]⟩,.int .i64 0,.slice none 0 0] 37)).alloc (.cells #[.int .i64 0,.string ⟨#[]⟩,.int .i64 0,.slice none 0 0] 37)).drew)):=hid (show Below w.heap.size w ((((w.alloc (.cells #[.int .i64 e.1.kind,.string e.1.name,.int .i64 e.1.n,.slice a e.1.args.length c,.int .i64 e.2.kind,.string e.2.name,.int .i64 e.2.n,.slice a' e.2.args.length c'] 48)).alloc (.cells #[.int .i64 0,.string ⟨#[]⟩,.int .i64 0,.slice none 0 0] 37)).drew).alloc (.cells #[.int .i64 0,.string ⟨#[]⟩,.int .i64 0,.slice none 0 0] 37)) from HDA.out.alloc HDA.out.size _);have QD:Hid (Q8 ((w.alloc (.cells #[.int .i64 e.1.kind,.string e.1.name,.int .i64 e.1.n,.slice a e.1.args.length c,.int .i64 e.2.kind,.string e.2.name,.int .i64 e.2.n,.slice a' e.2.args.length c'] 48)).drew) w.heap.size (.int .i64 e.1.kind) (.string e.1.name) (.int .i64 e.1.n) (.slice a e.1.args.length c) (.int .i64 e.2.kind) (.string e.2.name) (.int .i64 e.2.n) (.slice a' e.2.args.length c')):=hid (q8.low (Below.refl _ _).drew);have QDA:Hid (Q8 (((w.alloc (.cells #[.int .i64 e.1.kind,.string e.1.name,.int .i64 e.1.n,.slice a e.1.args.length c,.int .i64 e.2.kind,.string e.2.name,.int .i64 e.2.n,.slice a' e.2.args.length c'] 48)).alloc (.cells #[.int .i64 0,.string ⟨#[]⟩,.int .i64 0,.slice none 0 0] 37)).drew) w.heap.size (.int .i64 e.1.kind) (.string e.1.name) (.int .i64 e.1.n) (.slice a e.1.args.length c) (.int .i64 e.2.kind) (.string e.2.name) (.int .i64 e.2.n) (.slice a' e.2.args.length c')):=hid (QD.out.low (show Below ((w.alloc (.cells #[.int .i64 e.1.kind,.string e.1.name,.int .i64 e.1.n,.slice a e.1.args.length c,.int .i64 e.2.kind,.string e.2.name,.int .i64 e.2.n,.slice a' e.2.args.length c'] 48)).drew).heap.size ((w.alloc (.cells #[.int .i64 e.1.kind,.string e.1.name,.int .i64 e.1.n,.slice a e.1.args.length c,.int .i64 e.2.kind,.string e.2.name,.int .i64 e.2.n,.slice a' e.2.args.length c'] 48)).drew) (((w.alloc (.cells #[.int .i64 e.1.kind,.string e.1.name,.int .i64 e.1.n,.slice a e.1.args.length c,.int .i64 e.2.kind,.string e.2.name,.int .i64 e.2.n,.slice a' e.2.args.length c'] 48)).drew).alloc (.cells #[.int .i64 0,.string ⟨#[]⟩,.int .i64 0,.slice none 0 0] 37)) from aw_ _ _));have QDB:Hid (Q8 ((((w.alloc (.cells #[.int .i64 e.1.kind,.string e.1.name,.int .i64 e.1.n,.slice a e.1.args.length c,.int .i64 e.2.kind,.string e.2.name,.int .i64 e.2.n,.slice a' e.2.args.length c'] 48)).alloc (.cells #[.int .i64 0,.string ⟨#[]⟩,.int .i64 0,.slice none 0 0] 37)).alloc (.cells #[.int .i64 0,.string ⟨#[]⟩,.int .i64 0,.slice none 0 0] 37)).drew) w.heap.size (.int .i64 e.1.kind) (.string e.1.name) (.int .i64 e.1.n) (.slice a e.1.args.length c) (.int .i64 e.2.kind) (.string e.2.name) (.int .i64 e.2.n) (.slice a' e.2.args.length c')):=hid (QDA.out.low (show Below (((w.alloc (.cells #[.int .i64 e.1.kind,.string e.1.name,.int .i64 e.1.n,.slice a e.1.args.length c,.int .i64 e.2.kind,.string e.2.name,.int .i64 e.2.n,.slice a' e.2.args.length c'] 48)).alloc (.cells #[.int .i64 0,.string ⟨#[]⟩,.int .i64 0,.slice none 0 0] 37)).drew).heap.size (((w.alloc (.cells #[.int .i64 e.1.kind,.string e.1.name,.int .i64 e.1.n,.slice a e.1.args.length c,.int .i64 e.2.kind,.string e.2.name,.int .i64 e.2.n,.slice a' e.2.args.length c'] 48)).alloc (.cells #[.int .i64 0,.string ⟨#[]⟩,.int .i64 0,.slice none 0 0] 37)).drew) ((((w.alloc (.cells #[.int .i64 e.1.kind,.string e.1.name,.int .i64 e.1.n,.slice a e.1.args.length c,.int .i64 e.2.kind,.string e.2.name,.int .i64 e.2.n,.slice a' e.2.args.length c'] 48)).alloc (.cells #[.int .i64 0,.string ⟨#[]⟩,.int .i64 0,.slice none 0 0] 37)).drew).alloc (.cells #[.int .i64 0,.string ⟨#[]⟩,.int .i64 0,.slice none 0 0] 37)) from aw_ _ _));have YA1:Hid (B4 (((w.alloc (.cells #[.int .i64 e.1.kind,.string e.1.name,.int .i64 e.1.n,.slice a e.1.args.length c,.int .i64 e.2.kind,.string e.2.name,.int .i64 e.2.n,.slice a' e.2.args.length c'] 48)).alloc (.cells #[.int .i64 0,.string ⟨#[]⟩,.int .i64 0,.slice none 0 0] 37)).drew) (w.heap.size+1) (.int .i64 0) (.string ⟨#[]⟩) (.int .i64 0) (.slice none 0 0)):=hid (by have h:=B4.new ((w.alloc (.cells #[.int .i64 e.1.kind,.string e.1.name,.int .i64 e.1.n,.slice a e.1.args.length c,.int .i64 e.2.kind,.string e.2.name,.int .i64 e.2.n,.slice a' e.2.args.length c'] 48)).drew) (.int .i64 0) (.string ⟨#[]⟩) (.int .i64 0) (.slice none 0 0);rw[show (((w.alloc (.cells #[.int .i64 e.1.kind,.string e.1.name,.int .i64 e.1.n,.slice a e.1.args.length c,.int .i64 e.2.kind,.string e.2.name,.int .i64 e.2.n,.slice a' e.2.args.length c'] 48)).drew)).heap.size=w.heap.size+1 from by simp] at h;exact h);have YA2:Hid (B4 ((((w.alloc (.cells #[.int .i64 e.1.kind,.string e.1.name,.int .i64 e.1.n,.slice a e.1.args.length c,.int .i64 e.2.kind,.string e.2.name,.int .i64 e.2.n,.slice a' e.2.args.length c'] 48)).alloc (.cells #[.int .i64 0,.string ⟨#[]⟩,.int .i64 0,.slice none 0 0] 37)).alloc (.cells #[.int .i64 0,.string ⟨#[]⟩,.int .i64 0,.slice none 0 0] 37)).drew) (w.heap.size+1) (.int .i64 0) (.string ⟨#[]⟩) (.int .i64 0) (.slice none 0 0)):=hid (YA1.out.low (show Below (((w.alloc (.cells #[.int .i64 e.1.kind,.string e.1.name,.int .i64 e.1.n,.slice a e.1.args.length c,.int .i64 e.2.kind,.string e.2.name,.int .i64 e.2.n,.slice a' e.2.args.length c'] 48)).alloc (.cells #[.int .i64 0,.string ⟨#[]⟩,.int .i64 0,.slice none 0 0] 37)).drew).heap.size (((w.alloc (.cells #[.int .i64 e.1.kind,.string e.1.name,.int .i64 e.1.n,.slice a e.1.args.length c,.int .i64 e.2.kind,.string e.2.name,.int .i64 e.2.n,.slice a' e.2.args.length c'] 48)).alloc (.cells #[.int .i64 0,.string ⟨#[]⟩,.int .i64 0,.slice none 0 0] 37)).drew) ((((w.alloc (.cells #[.int .i64 e.1.kind,.string e.1.name,.int .i64 e.1.n,.slice a e.1.args.length c,.int .i64 e.2.kind,.string e.2.name,.int .i64 e.2.n,.slice a' e.2.args.length c'] 48)).alloc (.cells #[.int .i64 0,.string ⟨#[]⟩,.int .i64 0,.slice none 0 0] 37)).drew).alloc (.cells #[.int .i64 0,.string ⟨#[]⟩,.int .i64 0,.slice none 0 0] 37)) from aw_ _ _));have YB2:Hid (B4 ((((w.alloc (.cells #[.int .i64 e.1.kind,.string e.1.name,.int .i64 e.1.n,.slice a e.1.args.length c,.int .i64 e.2.kind,.string e.2.name,.int .i64 e.2.n,.slice a' e.2.args.length c'] 48)).alloc (.cells #[.int .i64 0,.string ⟨#[]⟩,.int .i64 0,.slice none 0 0] 37)).alloc (.cells #[.int .i64 0,.string ⟨#[]⟩,.int .i64 0,.slice none 0 0] 37)).drew) (w.heap.size+1+1) (.int .i64 0) (.string ⟨#[]⟩) (.int .i64 0) (.slice none 0 0)):=hid (by have h:=B4.new (((w.alloc (.cells #[.int .i64 e.1.kind,.string e.1.name,.int .i64 e.1.n,.slice a e.1.args.length c,.int .i64 e.2.kind,.string e.2.name,.int .i64 e.2.n,.slice a' e.2.args.length c'] 48)).alloc (.cells #[.int .i64 0,.string ⟨#[]⟩,.int .i64 0,.slice none 0 0] 37)).drew) (.int .i64 0) (.string ⟨#[]⟩) (.int .i64 0) (.slice none 0 0);rw[show ((((w.alloc (.cells #[.int .i64 e.1.kind,.string e.1.name,.int .i64 e.1.n,.slice a e.1.args.length c,.int .i64 e.2.kind,.string e.2.name,.int .i64 e.2.n,.slice a' e.2.args.length c'] 48)).alloc (.cells #[.int .i64 0,.string ⟨#[]⟩,.int .i64 0,.slice none 0 0] 37)).drew)).heap.size=w.heap.size+1+1 from by simp] at h;exact h)
 have HH:=hid h;have HTL:=hid hTl;clear h hK hA hA' hs hl hr hz q8 hTl;unfold eqv;go_enter Tryz.func33,Tryz.ntmps33
 go_upto_region 1 with fail
 go_cut [5,6] from 10 to 17 (fun s5 s6 wx=>c7_ T w l r s5 s6 wx)
 case first =>
  obtain⟨k0,k1,k2,k3⟩:True∧True∧True∧True:=⟨trivial,trivial,trivial,trivial⟩;have kd:=QD.out;obtain⟨k0,k1,k2,k3,k4,k5,k6,k7⟩:=kd.c07;clear kd
  go_region_law (first
   | (go_simp;go_at_call 37;(first|((with_reducible refine (CF1.out _ HD.out).mono ?_);rintro en w4 ⟨la,lc,he,hA4,hb4⟩;unfold tv at he;subst he;have kq:=QD.out.low hb4;have HX4:=hid (HD.out.trans (hb4.mono HD.out.size));skip)|((with_reducible refine (CF1.out _ HDA.out).mono ?_);rintro en w4 ⟨la,lc,he,hA4,hb4⟩;unfold tv at he;subst he;have kq:=QDA.out.low hb4;have HX4:=hid (HDA.out.trans (hb4.mono HDA.out.size));have ya:=YA1.out.low hb4;have Hya:=hid ya;have lya:=ya.lt;have fya0:=ya.fr 0;have fya1:=ya.fr 1;have fya2:=ya.fr 2;have fya3:=ya.fr 3;have cya0:=ya.c0;have cya1:=ya.c1;have cya2:=ya.c2;have cya3:=ya.c3;clear ya)|((with_reducible refine (CF1.out _ HDB.out).mono ?_);rintro en w4 ⟨la,lc,he,hA4,hb4⟩;unfold tv at he;subst he;have kq:=QDB.out.low hb4;have HX4:=hid (HDB.out.trans (hb4.mono HDB.out.size));have ya:=YA2.out.low hb4;have Hya:=hid ya;have lya:=ya.lt;have fya0:=ya.fr 0;have fya1:=ya.fr 1;have fya2:=ya.fr 2;have fya3:=ya.fr 3;have cya0:=ya.c0;have cya1:=ya.c1;have cya2:=ya.c2;have cya3:=ya.c3;clear ya;have yb:=YB2.out.low hb4;have Hyb:=hid yb;have lyb:=yb.lt;have fyb0:=yb.fr 0;have fyb1:=yb.fr 1;have fyb2:=yb.fr 2;have fyb3:=yb.fr 3;have cyb0:=yb.c0;have cyb1:=yb.c1;have cyb2:=yb.c2;have cyb3:=yb.c3;clear yb));have p0:=kq.c0;have p1:=kq.c1;have p2:=kq.c2;have p3:=kq.c3;have p4:=kq.c4;have p5:=kq.c5;have p6:=kq.c6;have p7:=kq.c7;have lkq:=kq.lt;have KQ4:=hid kq;have A4:=hid hA4;have H4:=hid hb4;clear kq hA4 hb4;have H41:=hid (aw_ w4 (.cells #[.int .i64 0,.string ⟨#[]⟩,.int .i64 0,.slice none 0 0] 37));have H42:=hid ((aw_ w4 (.cells #[.int .i64 0,.string ⟨#[]⟩,.int .i64 0,.slice none 0 0] 37)).alloc H41.out.size (.cells #[.int .i64 0,.string ⟨#[]⟩,.int .i64 0,.slice none 0 0] 37));have HX4A:=hid (HX4.out.alloc HX4.out.size (.cells #[.int .i64 0,.string ⟨#[]⟩,.int .i64 0,.slice none 0 0] 37));have HX4B:=hid ((HX4.out.alloc HX4.out.size (.cells #[.int .i64 0,.string ⟨#[]⟩,.int .i64 0,.slice none 0 0] 37)).alloc HX4A.out.size (.cells #[.int .i64 0,.string ⟨#[]⟩,.int .i64 0,.slice none 0 0] 37));have ZC1:=hid (B4.new w4 (.int .i64 0) (.string ⟨#[]⟩) (.int .i64 0) (.slice none 0 0));have ZC2:=hid ((B4.new w4 (.int .i64 0) (.string ⟨#[]⟩) (.int .i64 0) (.slice none 0 0)).low (aw_ _ (.cells #[.int .i64 0,.string ⟨#[]⟩,.int .i64 0,.slice none 0 0] 37)));have ZD2:=hid (B4.new1 w4 (.int .i64 0) (.string ⟨#[]⟩) (.int .i64 0) (.slice none 0 0) (.int .i64 0) (.string ⟨#[]⟩) (.int .i64 0) (.slice none 0 0)))
   | (go_simp;go_at_call 37;(first|((with_reducible refine (CF2.out _ HX4.out).mono ?_);rintro en w5 ⟨ra,rc,he,hA5,hb5⟩;unfold tv at he;subst he;have HX5:=hid (HX4.out.trans (hb5.mono HX4.out.size));have hb6:=hb5;skip)|((with_reducible refine (CF2.out _ HX4A.out).mono ?_);rintro en w5 ⟨ra,rc,he,hA5,hb5⟩;unfold tv at he;subst he;have HX5:=hid (HX4A.out.trans (hb5.mono HX4A.out.size));have hb6:=H41.out.trans (hb5.mono H41.out.size);have zc:=ZC1.out.low hb5;have Hzc:=hid zc;have lzc:=zc.lt;have fzc0:=zc.fr 0;have fzc1:=zc.fr 1;have fzc2:=zc.fr 2;have fzc3:=zc.fr 3;have czc0:=zc.c0;have czc1:=zc.c1;have czc2:=zc.c2;have czc3:=zc.c3;clear zc)|((with_reducible refine (CF2.out _ HX4B.out).mono ?_);rintro en w5 ⟨ra,rc,he,hA5,hb5⟩;unfold tv at he;subst he;have HX5:=hid (HX4B.out.trans (hb5.mono HX4B.out.size));have hb6:=H42.out.trans (hb5.mono H42.out.size);have zc:=ZC2.out.low hb5;have Hzc:=hid zc;have lzc:=zc.lt;have fzc0:=zc.fr 0;have fzc1:=zc.fr 1;have fzc2:=zc.fr 2;have fzc3:=zc.fr 3;have czc0:=zc.c0;have czc1:=zc.c1;have czc2:=zc.c2;have czc3:=zc.c3;clear zc;have zd:=ZD2.out.low hb5;have Hzd:=hid zd;have lzd:=zd.lt;have fzd0:=zd.fr 0;have fzd1:=zd.fr 1;have fzd2:=zd.fr 2;have fzd3:=zd.fr 3;have czd0:=zd.c0;have czd1:=zd.c1;have czd2:=zd.c2;have czd3:=zd.c3;clear zd));(try (have za:=Hya.out.low hb6;have Hza:=hid za;have lza:=za.lt;have fza0:=za.fr 0;have fza1:=za.fr 1;have fza2:=za.fr 2;have fza3:=za.fr 3;have cza0:=za.c0;have cza1:=za.c1;have cza2:=za.c2;have cza3:=za.c3;clear za));(try (have zb:=Hyb.out.low hb6;have Hzb:=hid zb;have lzb:=zb.lt;have fzb0:=zb.fr 0;have fzb1:=zb.fr 1;have fzb2:=zb.fr 2;have fzb3:=zb.fr 3;have czb0:=zb.c0;have czb1:=zb.c1;have czb2:=zb.c2;have czb3:=zb.c3;clear zb));have A5:=hid hA5;have A45:=hid (A4.out.keep (B:=w5) fun b hb=>hb6.block b (by rcases hb with h|h;exact ba_ (HTL.out b h) HX4.out.size;exact h.2));have H5:=hid hb5;have H6:=hid hb6;clear hA5 hb5 hb6))
  all_goals
   go_wp2_with fail
   go_meet
   have z4:=H4.out.size;have z5:=H5.out.size;have HT:=HTL.out;simp at z4 z5
   first
    | (with_reducible refine c7_.both Hza.out Hzb.out A45.out A5.out HX5.out ?_ ?_)
    | (with_reducible refine c7_.both Hzb.out Hza.out A45.out A5.out HX5.out ?_ ?_)
    | (with_reducible refine c7_.both Hza.out Hzc.out A45.out A5.out HX5.out ?_ ?_)
    | (with_reducible refine c7_.both Hzc.out Hza.out A45.out A5.out HX5.out ?_ ?_)
    | (with_reducible refine c7_.both Hzc.out Hzd.out A45.out A5.out HX5.out ?_ ?_)
    | (with_reducible refine c7_.both Hzd.out Hzc.out A45.out A5.out HX5.out ?_ ?_)
    | (with_reducible refine c7_.left Hza.out A45.out A5.out HX5.out ?_ ?_)
    | (with_reducible refine c7_.right Hza.out A45.out A5.out HX5.out ?_ ?_)
    | (with_reducible refine c7_.left Hzc.out A45.out A5.out HX5.out ?_ ?_)
    | (with_reducible refine c7_.right Hzc.out A45.out A5.out HX5.out ?_ ?_)
    | (with_reducible refine c7_.non A45.out A5.out HX5.out ?_ ?_)
    | (with_reducible refine c7_.non2 A45.out A5.out HX5.out ?_ ?_)
   all_goals
    first
     | omega
     | (refine⟨?_,?_,?_⟩<;>omega)
     | (rintro b (h|h)<;>(unfold New at h;(try simp at h);rcases h with h|h<;>first|(have hw:=HT b h;exact⟨.inl h,by omega,by omega⟩)|(have hw:=HT b h;exact⟨.inl h,by omega⟩)|exact⟨.inr ⟨by omega,by omega⟩,by omega,by omega⟩|exact⟨.inr ⟨by omega,by omega⟩,by omega⟩))
 case rest =>
  obtain⟨b5,b6,rfl,rfl,la,lc,ra,rc,hn,h5,h6,kk5,kk6,A5,A6,hb⟩:=hcut;clear CF1 CF2 HD HDA HDB QD QDA QDB YA1 YA2 YB2 k0 k1 k2 k3 k4 k5 k6 k7;have k5:=kk5;have k6:=kk6;clear kk5 kk6;obtain⟨a0,a1,a2,a3⟩:=k5.c03;obtain⟨e0,e1,e2,e3⟩:=k6.c03;have K5:=hid k5;have K6:=hid k6;have HA5:=hid A5;have HA6:=hid A6;have HB:=hid hb;have HN:=hid (show b5≠b6∧w.heap.size<b5∧w.heap.size<b6 from ⟨hn,h5,h6⟩);clear k5 k6 A5 A6 hb hn h5 h6;obtain⟨wA,hwA⟩:∃ x:World,x=wc:=⟨wc,rfl⟩;subst hwA
  go_upto_region 2 with fail
  go_cut [32] from 18 to 32 (fun s wx=>s=.bool (decide (r.kind=2∧(l.kind≠2∨l.n<r.n)))∧wx=wA)
  case first =>
   clear K5 K6 HA5 HA6 HB HN
   by_cases h1:r.kind=2
   ·by_cases h2:l.kind=2
    ·by_cases h3:l.n<r.n
     ·have FF:Hid (decide (r.kind=2∧(l.kind≠2∨l.n<r.n))=true):=hid (decide_eq_true ⟨h1,.inr h3⟩)
      have x1:(r.kind==2)=true:=(by simp[h1]);have x2:(l.kind != 2)=false:=(by simp[h2]);have x3:decide (l.n<r.n)=true:=decide_eq_true h3;clear h1 h2 h3;go_wp2_with fail
      go_meet
      exact⟨by rw[FF.out],rfl⟩
     ·have FF:Hid (decide (r.kind=2∧(l.kind≠2∨l.n<r.n))=false):=hid (decide_eq_false fun h=>h.2.elim (fun h=>h h2) h3)
      have x1:(r.kind==2)=true:=(by simp[h1]);have x2:(l.kind != 2)=false:=(by simp[h2]);have x3:decide (l.n<r.n)=false:=decide_eq_false h3;clear h1 h2 h3;go_wp2_with fail
      go_meet
      exact⟨by rw[FF.out],rfl⟩
    ·have FF:Hid (decide (r.kind=2∧(l.kind≠2∨l.n<r.n))=true):=hid (decide_eq_true ⟨h1,.inl h2⟩)
     have x1:(r.kind==2)=true:=(by simp[h1]);have x2:(l.kind != 2)=true:=(by simp[h2]);clear h1 h2;go_wp2_with fail
     go_meet
     exact⟨by rw[FF.out],rfl⟩
   ·have FF:Hid (decide (r.kind=2∧(l.kind≠2∨l.n<r.n))=false):=hid (decide_eq_false fun h=>h1 h.1)
    have x1:(r.kind==2)=false:=(by simp[h1]);clear h1;go_wp2_with fail
    go_meet
    exact⟨by rw[FF.out],rfl⟩
  case rest =>
  obtain⟨rfl,rfl⟩:=hcut;obtain⟨wA,hwA⟩:∃ x:World,x=wc:=⟨wc,rfl⟩;subst hwA
  go_upto_if 32 with (fail)
  go_cut [33] from 32 to 34 (fun _ wx=>in_ T w (cB_ l r).1 (cB_ l r).2 b5 b6 wx)
  case first =>
   by_cases hq:r.kind=2∧(l.kind≠2∨l.n<r.n)
   ·have eq:decide (r.kind=2∧(l.kind≠2∨l.n<r.n))=true:=decide_eq_true hq
    have HQ:=hid hq;obtain⟨f50,f51,f52,f53⟩:=K5.out.f03;obtain⟨f60,f61,f62,f63⟩:=K6.out.f03;have hne:=HN.out.1;have hne':=Ne.symm HN.out.1;rw[eq];clear hq eq;go_wp2_with fail
    go_meet
    rw[(j5_ HQ.out).1,(j5_ HQ.out).2];exact in_.swap HN.out.1 HN.out.2.1 HN.out.2.2 K5.out K6.out HA5.out HA6.out HB.out
   ·have eq:decide (r.kind=2∧(l.kind≠2∨l.n<r.n))=false:=decide_eq_false hq
    have HQ:=hid hq;rw[eq];clear hq eq;go_wp2_with fail
    go_meet
    rw[(l2_ HQ.out).1,(l2_ HQ.out).2];exact⟨la,lc,ra,rc,HN.out.1,HN.out.2.1,HN.out.2.2,K5.out,K6.out,HA5.out,HA6.out,HB.out⟩
  case rest =>
  clear a0 a1 a2 a3 e0 e1 e2 e3 K5 K6 HA5 HA6 HB HN;obtain⟨la,lc,ra,rc,hn,h5,h6,k5,k6,A5,A6,hb⟩:=hcut;generalize (cB_ l r).1=L at *;generalize (cB_ l r).2=R at *;have HSL:Hid (SmT L∧SmT R):=HSW;have hlo:=HH.out.klt;obtain⟨T1,U1,P5,P6⟩:∃ T1:Nat→Prop,Hid (UM T1 n0 wc wb kb W v ps)∧Hid (aa_ T1 wc (.slice la L.args.length lc) L.args)∧Hid (aa_ T1 wc (.slice ra R.args.length rc) R.args) :=
   ⟨fun b=>T b∨w.heap.size≤b∧b<wc.heap.size,hid ((HH.out.low hb).more hlo.1 hlo.2.1 hlo.2.2),hid (A5.mono fun b h=>h.1.imp id fun h=>⟨Nat.le_of_lt h.1,h.2⟩),hid (A6.mono fun b h=>h.1.imp id fun h=>⟨Nat.le_of_lt h.1,h.2⟩)⟩
  have HNB:Hid (w.heap.size<b5∧w.heap.size<b6∧wb<w.heap.size):=hid ⟨h5,h6,hlo.1⟩;have XLO:=hid HH.out.xlo;have TC:Hid (Tab wc):=hid (HTB.out _ hb);have CS:=hid (rM_ (P5.out.mono fun b h=>(U1.out.t b h).1) (P6.out.mono fun b h=>(U1.out.t b h).1) HSL.out.1.small HSL.out.2.small TC.out);have K5:=hid k5;have K6:=hid k6;have HB:=hid hb;obtain⟨a0,a1,a2,a3⟩:=k5.c03;obtain⟨e0,e1,e2,e3⟩:=k6.c03;have G1:Hid (GB (XW wb kb v) w wc):=hid (GB.of_below hb);clear k5 k6 A5 A6 hb hlo hn h5 h6 HSW;obtain⟨wA,hwA⟩:∃ x:World,x=wc:=⟨wc,rfl⟩;subst hwA;go_wp2_with fail;refine CS.out.mono ?_;rintro en w1 ⟨rfl,hb1⟩;have B1:=hid hb1;have K51:=hid (K5.out.low hb1);have K61:=hid (K6.out.low hb1);clear a0 a1 a2 a3 e0 e1 e2 e3 hb1;obtain⟨a0,a1,a2,a3⟩:=K51.out.c03;obtain⟨e0,e1,e2,e3⟩:=K61.out.c03;have U2:=hid (U1.out.low B1.out);have TL2:Hid (∀ b,T1 b→w1.heap[b]? = wA.heap[b]?):=hid (fun b h=>B1.out.block b (U1.out.t b h).1);have P52:=hid (P5.out.keep TL2.out);have P62:=hid (P6.out.keep TL2.out);have G2:Hid (GB (XW wb kb v) w w1):=hid (G1.out.trans (GB.of_below (X:=XW wb kb v) B1.out) fun _ _ h=>h);have TC2:=hid (HTAB.out _ (G2.out.below XLO.out HN0.out))
  by_cases hc:aM_ L=aM_ R
  ·have ec:decide (aM_ L=aM_ R)=true:=decide_eq_true hc
   have hst:=HST.out;unfold f9_ at hst;rw[if_pos hc] at hst;injection hst with hst
   subst hst;rw[ec];clear hc ec;go_wp2;go_ret;exact⟨rfl,_,v,ps,U2.out,G2.out,fun b e=>.inl e⟩
  ·have ec:decide (aM_ L=aM_ R)=false:=decide_eq_false hc
   have hst:=HST.out;unfold f9_ at hst;rw[if_neg hc] at hst;rw[ec];clear hc ec HST
   by_cases h2:L.kind=2
   ·have x2:(L.kind==2)=true:=by simp[h2]
    rw[if_pos h2] at hst
    split at hst
    ·cases hst
    next hcond =>
    injection hst with hst
    have hnl:lkK W.K L.n=none:=by
     cases hk:lkK W.K L.n with
     | none=>rfl
     | some u=>rw[hk] at hcond;simp at hcond
    have hfr:∀ s∈ai_ R,1≤s.size:=by
     intro s hs;cases hz:s.size with
     | zero =>
      have:(ai_ R).any (fun s=>s.size==0)=true:=List.any_eq_true.2 ⟨s,hs,by simp[hz]⟩;rw[this] at hcond;simp at hcond
     | succ n=>omega
    have CL:=hid (ls_ (K:=W.K) (L:=W.left) (fr:=W.fresh) (m:=L.n) U2.out P62.out HSL.out.2.small hnl hfr);unfold tv at CL;clear h2 hcond hnl hfr;cases hq:hv_ W.K L.n R with
    | error er =>
     rw[hq] at hst CL;simp only at hst;subst hst;unfold nN_ at CL;clear hq;go_wp2_with fail;refine CL.out.mono ?_;rintro en w2 ⟨rfl,hb2⟩;have G3:Hid (GB (XW wb kb v) w w2):=hid (G2.out.trans (GB.of_below (X:=XW wb kb v) hb2) fun _ _ h=>h);clear hb2;go_wp2;go_ret;exact⟨rfl,G3.out⟩
    | ok K' =>
     rw[hq] at hst CL;simp only at hst;subst hst;unfold nN_ at CL;clear hq;go_wp2_with fail;refine CL.out.mono ?_;rintro en w2 ⟨rfl,hu,hg⟩;have U3:=hid hu;have G3:Hid (GB (XW wb kb v) w w2):=hid (G2.out.trans hg fun _ _ h=>h);clear hu hg;go_wp2;go_ret;exact⟨rfl,_,v,ps,U3.out,G3.out,fun b e=>.inl e⟩
   ·have x2:(L.kind==2)=false:=by simp[h2]
    rw[if_neg h2] at hst;have HS8:=hid hst;clear h2 hst
    go_upto_region 8 with fail
    obtain⟨qn,hq1,hq2⟩:=l5_ L.name R.name
    go_cut [48] from 39 to 79 (fun s wx=>s=.bool (bg_ L R)∧wx=w1)
    case first =>
     have hname:eqN L.name R.name=qn:=by
      unfold eqN;cases qn with
      | true=>exact decide_eq_true (by rw[hq2.1 rfl])
      | false=>exact decide_eq_false fun h=>by have:=hq2.2 (ByteArray.ext h);cases this
     have FF:Hid (bg_ L R=(L.kind != R.kind || L.kind==1 || (!qn&&L.kind != 5) || L.args.length != R.args.length)):=hid (by unfold bg_;rw[hname]);clear hname hq2;have hlen:∀ q:Bool,(L.args.length != R.args.length)=q→((L.args.length:Int) != (R.args.length:Int))=q:=by
      intro q h;rw[← h]
      by_cases e:L.args.length=R.args.length
      ·simp[e]
      ·have:(L.args.length:Int)≠(R.args.length:Int):=by omega
       have h1:(L.args.length != R.args.length)=true:=by simpa using e
       have h2:((L.args.length:Int) != (R.args.length:Int))=true:=by simpa using this
       rw[h1,h2]
     cases y1:L.kind != R.kind with
     | true =>
      have FG:Hid (bg_ L R=true):=hid (by rw[FF.out,y1];rfl);go_wp2_with fail
      go_meet
      exact⟨by rw[FG.out],rfl⟩
     | false =>
      cases y2:L.kind==1 with
      | true =>
       have FG:Hid (bg_ L R=true):=hid (by rw[FF.out,y1,y2];rfl);go_wp2_with fail
       go_meet
       exact⟨by rw[FG.out],rfl⟩
      | false =>
       cases y5:L.args.length != R.args.length with
       | true =>
        have y6:=hlen _ y5;have FG:Hid (bg_ L R=true):=hid (by rw[FF.out,y1,y2,y5];simp);cases qn<;>(cases y4:L.kind != 5<;>(go_wp2_with fail;go_meet;exact⟨by rw[FG.out],rfl⟩))
       | false =>
        have y6:=hlen _ y5;have FG:Hid (bg_ L R=(!qn&&L.kind != 5)):=hid (by rw[FF.out,y1,y2,y5];simp);cases qn<;>(cases y4:L.kind != 5<;>(rw[y4] at FG;go_wp2_with fail;go_meet;exact⟨by rw[FG.out];rfl,rfl⟩))
    case rest =>
    obtain⟨rfl,hwx⟩:=hcut;subst hwx;have hst:=HS8.out
    by_cases hcl:bg_ L R=true
    ·rw[if_pos hcl] at hst
     injection hst with hst
     subst hst;rw[hcl];clear hcl HS8 hq1 hq2;go_wp2;go_ret;exact⟨rfl,G2.out⟩
    ·rw[if_neg hcl] at hst
     have hcf:bg_ L R=false:=by simpa using hcl
     rw[hcf];have hkk:L.kind=R.kind∧L.args.length=R.args.length:=by
      unfold bg_ at hcf;simp only[Bool.or_eq_false_iff,bne_eq_false_iff_eq] at hcf;exact⟨hcf.1.1.1,hcf.2⟩
     clear hcl hcf HS8 hq1 hq2 U1 P5 P6 TC CS TL2 G1 K5 K6 HB;have g1:=U2.out.wk.c2
     by_cases h5:L.kind=5
     ·have x5:(L.kind==5)=true:=by simp[h5]
      rw[if_pos h5] at hst
      split at hst
      next hcond =>
       simp only[Bool.and_eq_true] at hcond;injection hst with hst
       subst hst;have hfr:W.fresh<1000000:=of_decide_eq_true hcond.2;obtain⟨x,hx⟩:=jT_ HSL.out.1.1 h5;obtain⟨y,hy⟩:=jT_ HSL.out.2.1 (hkk.1 ▸ h5);have HX:=hid hx;have HY:=hid hy;have HSX:Hid (bG_ x):=hid (HSL.out.1.argS (by rw[hx];simp));have HSY:Hid (bG_ y):=hid (HSL.out.2.argS (by rw[hy];simp));have CI:=hid (h3_ (W.fresh:Int) (by omega) (by omega) _ TC2.out);have HFR:=hid hfr;have HDL:=hid (q2_ W.fresh);have HDS:=hid (fk_ W.fresh hfr);have hsz:=Lib.itoa_length_le (W.fresh:Int) (by omega) (by omega);rw[← aU_] at hsz;generalize ab_ (Lib.itoa (W.fresh:Int))=sa at *;clear hcond h5 hkk hx hy;go_wp2_with fail;refine CI.out.mono ?_;rintro en w2 ⟨rfl,hb2⟩;have U3:=hid (U2.out.low hb2);have TL3:Hid (∀ b,T1 b→w2.heap[b]? = wc.heap[b]?):=hid (fun b h=>hb2.block b (U2.out.t b h).1);have P53:=hid (P52.out.keep TL3.out);have P63:=hid (P62.out.keep TL3.out);have K52:=hid (K51.out.low hb2);have K62:=hid (K61.out.low hb2);have G3:Hid (GB (XW wb kb v) w w2):=hid (G2.out.trans (GB.of_below (X:=XW wb kb v) hb2) fun _ _ h=>h);have TC3:=hid (ag_ TC2.out hb2);clear a0 a1 a2 a3 e0 e1 e2 e3 g1 hb2;have g1:=U3.out.wk.c2;have g2:=U3.out.wk.fz 2;have x7:(W.fresh:Int)<1000000:=(by omega);have x8:(0:Int)≤(W.fresh:Int):=by omega
       go_upto_region 13 with fail
       have U4:Hid (UM T1 n0 (w2.setCell ⟨wb,2,none⟩ (.int .i64 ((W.fresh:Int)+1))) wb kb ⟨W.K,W.left,W.fresh+1⟩ v ps):=hid (by
        have h:=U3.out.setf (W.fresh+1);rw[show ((W.fresh+1:Nat):Int)=(W.fresh:Int)+1 from by omega] at h;exact h)
       have OF:Hid (∀ b,b≠wb→(w2.setCell ⟨wb,2,none⟩ (.int .i64 ((W.fresh:Int)+1))).heap[b]? = w2.heap[b]?):=hid fun b hb=>aB_ _ _ _ _ hb;have K53:Hid (B4 (w2.setCell ⟨wb,2,none⟩ (.int .i64 ((W.fresh:Int)+1))) b5 (.int .i64 L.kind) (.string L.name) (.int .i64 L.n) (.slice la L.args.length lc)):=hid ((OF.out b5 (by have:=HNB.out;omega)).trans K52.out);have K63:Hid (B4 (w2.setCell ⟨wb,2,none⟩ (.int .i64 ((W.fresh:Int)+1))) b6 (.int .i64 R.kind) (.string R.name) (.int .i64 R.n) (.slice ra R.args.length rc)):=hid ((OF.out b6 (by have:=HNB.out;omega)).trans K62.out);have P54:=hid (P53.out.keep fun b h=>OF.out b (U3.out.t b h).2.1);have P64:=hid (P63.out.keep fun b h=>OF.out b (U3.out.t b h).2.1);have G4:Hid (GB (XW wb kb v) w (w2.setCell ⟨wb,2,none⟩ (.int .i64 ((W.fresh:Int)+1)))):=hid (G3.out.trans (GB.set ⟨wb,2,none⟩ _ (.inl rfl)) fun _ _ h=>h);clear OF K52 K62 P53 P63 TL3 U3 TC3 g1 g2 x7 x8 CI;generalize w2.setCell ⟨wb,2,none⟩ (.int .i64 ((W.fresh:Int)+1))=w3 at *;have TC4:Hid (∀ W',Below w3.heap.size w3 W'→Tab W'):=hid fun W' hb=>HTAB.out _ ((G4.out.trans (GB.of_below (X:=XW wb kb v) hb) fun _ _ h=>h).below XLO.out HN0.out);have hds:=HDS.out;rw[← HDL.out] at hds;have T1L:Hid (∀ b,T1 b→b<w3.heap.size):=hid fun b h=>(U4.out.t b h).1;have CO1:Hid (∀ W',Below w3.heap.size w3 W'→Calls Tryz.prog 64 #[.agg #[.int .i64 L.kind,.string L.name,.int .i64 L.n,.slice la L.args.length lc],.string ({ data:=#[36] }++sa)] W' (TP T1 (opT L (bo_ W.fresh)) W')):=hid fun W' hb=>by
        rw[← HDL.out];exact ho_ _ HX.out (P54.out.keep fun b h=>hb.block b (T1L.out b h)) (fun b h=>ba_ (T1L.out b h) hb.size) HSX.out hds (TC4.out _ hb)
       have CO2:Hid (∀ W',Below w3.heap.size w3 W'→Calls Tryz.prog 64 #[.agg #[.int .i64 R.kind,.string R.name,.int .i64 R.n,.slice ra R.args.length rc],.string ({ data:=#[36] }++sa)] W' (TP T1 (opT R (bo_ W.fresh)) W')):=hid fun W' hb=>by
        rw[← HDL.out];exact ho_ _ HY.out (P64.out.keep fun b h=>hb.block b (T1L.out b h)) (fun b h=>ba_ (T1L.out b h) hb.size) HSY.out hds (TC4.out _ hb)
       have HD3:=hid (Below.refl w3.heap.size w3).drew;have kd5:=K53.out.low HD3.out;have kd6:=K63.out.low HD3.out;obtain⟨a0,a1,a2,a3⟩:=kd5.c03;obtain⟨e0,e1,e2,e3⟩:=kd6.c03;clear kd5 kd6 hds U2 G2 P52 P62 K51 K61 B1 TC2 G3;generalize ({ data:=#[36] } : ByteArray)++sa=dn at *
       go_region_law (first
        | (go_simp;go_at_call 64;(with_reducible refine (CO1.out _ HD3.out).mono ?_);rintro en w4 ⟨xa,xc,he,hA4,hb4⟩;unfold tv at he;subst he;have HX4:=hid (HD3.out.trans (hb4.mono HD3.out.size));have A4:=hid hA4;have k54:=K53.out.low HX4.out;have k64:=K63.out.low HX4.out;have a0:=k54.c0;have a1:=k54.c1;have a2:=k54.c2;have a3:=k54.c3;have e0:=k64.c0;have e1:=k64.c1;have e2:=k64.c2;have e3:=k64.c3;clear hA4 hb4 k54 k64)
        | (go_simp;go_at_call 64;(with_reducible refine (CO2.out _ HX4.out).mono ?_);rintro en w5 ⟨ya,yc,he,hA5,hb5⟩;unfold tv at he;subst he;have HX5:=hid (HX4.out.trans (hb5.mono HX4.out.size));have LY:=hid (qS_ U4.out HX4.out hb5 A4.out hA5 HN0.out HLEN.out G4.out.size);clear hA5 hb5)
        | (go_simp;go_at_call 32;(with_reducible refine LY.out.mono ?_);rintro en w6 ⟨v',ps',he,hu,hg,ho⟩;subst he;have HU6:=hid hu;have G6:=hid hg;have HO6:=hid ho;clear hu hg ho))
       all_goals
        go_wp2;go_ret;exact⟨rfl,_,_,_,HU6.out,(G4.out.trans (GB.of_below (X:=XW wb kb v) (HX5.out.alloc HX5.out.size _)) fun _ _ h=>h).trans G6.out fun _ _ h=>h,fun b e=>(HO6.out b e).imp id fun h=>cj_ (cj_ G4.out.size (HX5.out.alloc HX5.out.size _).size) h⟩
      ·cases hst
     ·have x5:(L.kind==5)=false:=by simp[h5]
      rw[if_neg h5] at hst;injection hst with hst
      subst hst;have HOK:=hid (hok _ rfl);have HLL:=hid hkk.2;have HB0:=hid (Below.refl wc.heap.size wc);have HSM:Hid (L.args.length≤1000000000000):=hid (q7_ HSL.out.1);clear h5 hkk;go_wp2_with fail
      go_loopw [8,112] (fun pv iv wr=>∃ (k:Nat) (ps':List (Value × Value)),iv=.int .i64 (k:Int)∧k≤L.args.length∧cX_ T1 wc.heap.size wr pv ((L.args.zip R.args).take k) ps'∧Below wc.heap.size wc wr) (fun _ iv _=>L.args.length - (intOf iv).toNat)
      case atStart=>exact⟨0,[],rfl,Nat.zero_le _,cX_.nil _ _ _,HB0.out⟩
      case round =>
       obtain⟨k,ps',rfl,hk,hE,hB⟩:=hrel;have z0:(0:Int)≤(k:Int):=(by omega);obtain⟨va,vc,rfl⟩:=aG_ hE.own;have k5r:=K51.out.low hB;have k6r:=K61.out.low hB;obtain⟨a0,a1,a2,a3⟩:=k5r.c03;obtain⟨e0,e1,e2,e3⟩:=k6r.c03;have T1L:Hid (∀ b,T1 b→b<wc.heap.size):=hid fun b h=>(U2.out.t b h).1;have VL:Hid (∀ b,(Value.slice va ((L.args.zip R.args).take k).length vc).ownBlock=some b→wc.heap.size≤b∧b<wr.heap.size):=hid fun b hb=>hE.own.lt b hb
       by_cases hi:k<L.args.length
       ·have hi':k<R.args.length:=by rw[← HLL.out];exact hi
        have z1:(k:Int)<(L.args.length:Int):=(by omega);have z2:(k:Int)<(R.args.length:Int):=(by omega);have zk:(k:Int)<1000000000000:=(by have:=HSM.out;omega);obtain⟨b1,off1,xa,xc,hla,hb1,⟨p0,p1,p2,p3⟩,hxa⟩:=P52.out.at_ hi;obtain⟨b2,off2,ya,yc,hra,hb2,⟨q0,q1,q2,q3⟩,hya⟩:=P62.out.at_ hi';have l1:=T1L.out b1 hb1;have l2:=T1L.out b2 hb2;have m0:=(hB.cell (p:=⟨b1,off1+k*4,none⟩) l1).trans p0;have m1:=(hB.cell (p:=⟨b1,off1+k*4+1,none⟩) l1).trans p1;have m2:=(hB.cell (p:=⟨b1,off1+k*4+2,none⟩) l1).trans p2;have m3:=(hB.cell (p:=⟨b1,off1+k*4+3,none⟩) l1).trans p3;have n1:=(hB.cell (p:=⟨b2,off2+k*4,none⟩) l2).trans q0;have n2:=(hB.cell (p:=⟨b2,off2+k*4+1,none⟩) l2).trans q1;have n3:=(hB.cell (p:=⟨b2,off2+k*4+2,none⟩) l2).trans q2;have n4:=(hB.cell (p:=⟨b2,off2+k*4+3,none⟩) l2).trans q3;have kT:∀ b,T1 b→wr.heap[b]? = wc.heap[b]? := fun b hT=>hB.block b (T1L.out b hT);have hEd:=hE.keep (w':=wr.drew) (fun b _=>lC_ wr b) fun b _=>lC_ wr b;have hlt:((L.args.zip R.args).take k).length=k:=by simp;omega
        have pa:=hEd.push (x:=(L.args[k],R.args[k])) hB.size (by rw[hlt];have:=HSM.out;omega) (fun b hT=>⟨ba_ (T1L.out b hT) hB.size,fun e=>by have:=(VL.out b e).1;have:=T1L.out b hT;omega⟩) ((hxa.keep kT).keep (B:=wr.drew) fun b _=>lC_ wr b) ((hya.keep kT).keep (B:=wr.drew) fun b _=>lC_ wr b);rw[gW_] at pa;have PA:=hid pa;have ED:Hid ((L.args.zip R.args).take k++[(L.args[k],R.args[k])]=(L.args.zip R.args).take (k+1)):=hid (by
         rw[List.take_add_one,List.getElem?_eq_getElem (by simp;omega)];simp)
        have HB2:=hid (hB.trans ((Below.refl _ _).drew.mono hB.size));subst hla;subst hra;clear hE hB p0 p1 p2 p3 q0 q1 q2 q3 hxa hya l1 l2 kT hEd pa hlt k5r k6r;generalize L.args[k]=x at *;generalize R.args[k]=y at *;generalize ((L.args.zip R.args).take k).length=vn at *;go_wp2
        go_region_law (first
         | ((with_reducible show (if Region.wanted _ _=true then Oper.wp _ _ _ (World.drew (World.alloc _ _)) _ _ else _));refine d8_ (by rfl) _ _ _ (by rfl) (by rfl) (by rfl) PA.out ?_;rintro v7 w7 ⟨hr7,hg7,ho7,hl7⟩;have HR7:=hid hr7;have HG7:=hid hg7;clear hr7 hg7 ho7))
        all_goals
         go_wp2;go_roundw
         case rel=>exact⟨k+1,_,by go_num,by omega,by rw[← ED.out];exact HR7.out,HB2.out.grown HG7.out HB2.out.size fun b hb=>(VL.out b hb).1⟩
         case measure=>simp[intOf];omega
       ·have z1:¬ (k:Int)<(L.args.length:Int):=by omega
        have hk':(L.args.zip R.args).take k=L.args.zip R.args:=List.take_of_length_le (by rw[List.length_zip];omega);have hu:=U2.out.low hB;have hkl:=U2.out.klt;have hEq:=(hE.eqs (by rw[hk',List.length_zip];have:=HSM.out;omega)).mono (S':=fun b=>b<wr.heap.size∧¬ XW wb kb v b) fun b hb=>⟨(VL.out b hb).2,fun hx=>by
         have:=(VL.out b hb).1
         rcases hx with hx|hx|hx
         ·have:=hkl.1;omega
         ·have:=hkl.2.1;omega
         ·have:=hkl.2.2 _ hx;omega⟩
        have CLY:=hid (h1_ (K:=W.K) (L:=W.left) (fr:=W.fresh) hu hEq (by rw[hk'];have h:=HOK.out;rw[List.length_append] at h;omega) (cj_ HN0.out (cj_ G2.out.size hB.size)));rw[hk'] at CLY;have G5:Hid (GB (XW wb kb v) w wr):=hid (G2.out.trans (GB.of_below (X:=XW wb kb v) hB) fun _ _ h=>h);have Z5:=hid (cj_ G2.out.size hB.size);clear hE hB hu hkl hEq hi hk k5r k6r;unfold kN_ at CLY;rw[hk'];generalize (L.args.zip R.args).length=vn at *;generalize L.args.zip R.args=zs at *;go_wp2_with fail;refine CLY.out.mono ?_;rintro en w6 ⟨v',ps'',rfl,hu6,hg6,ho6⟩;have HU6:=hid hu6;have G6:=hid hg6;have HO6:=hid ho6;clear hu6 hg6 ho6;go_wp2;go_ret;exact⟨rfl,_,_,_,HU6.out,G5.out.trans G6.out fun _ _ h=>h,fun b e=>(HO6.out b e).imp id fun h=>cj_ Z5.out h⟩
end
section
open Lx
section
variable (q : Nat)
open Classical in
noncomputable def rhN (s:ByteArray):ByteArray:=if h:∃ j,s=bo_ j then bo_ (h.choose+q) else s
theorem fE_ (j:Nat):rhN q (bo_ j)=bo_ (j+q):=by
 have h:∃ i,bo_ j=bo_ i:=⟨j,rfl⟩;unfold rhN;rw[dif_pos h,← ia_ h.choose_spec]
theorem eb_ {s:ByteArray}(h:¬ ∃ j,s=bo_ j):rhN q s=s:=dif_neg h
theorem iL_ {s:ByteArray}(h:e0_ s=false):rhN q s=s:=eb_ q fun ⟨j,e⟩=>by
 rw[e,fj_] at h;cases h
theorem ql_ {s t:ByteArray}(h:rhN q s=rhN q t):s=t:=by
 by_cases hs:∃ j,s=bo_ j
 ·obtain⟨j,rfl⟩:=hs
  rw[fE_] at h
  by_cases ht:∃ j,t=bo_ j
  ·obtain⟨i,rfl⟩:=ht
   rw[fE_] at h;have:=ia_ h;rw[show j=i from by omega]
  ·rw[eb_ q ht] at h
   exact absurd ⟨_,h.symm⟩ ht
 ·rw[eb_ q hs] at h
  by_cases ht:∃ j,t=bo_ j
  ·obtain⟨i,rfl⟩:=ht
   rw[fE_] at h;exact absurd ⟨_,h⟩ hs
  ·rwa [eb_ q ht] at h
theorem kd_ (s:ByteArray):e0_ (rhN q s)=e0_ s:=by
 by_cases hs:∃ j,s=bo_ j
 ·obtain⟨j,rfl⟩:=hs
  rw[fE_,fj_,fj_]
 ·rw[eb_ q hs]
mutual
noncomputable def rh:Ty→Ty
 | .mk k s n args=>.mk k (if k=1 then rhN q s else s) n (rhL args)
noncomputable def rhL:List Ty→List Ty
 | []=>[]
 | t :: ts=>rh t :: rhL ts
end
theorem qm_ (ts:List Ty):rhL q ts=ts.map (rh q):=by
 induction ts with
 | nil=>rw[rhL];rfl
 | cons t ts ih=>rw[rhL,ih];rfl
theorem e7_ (t:Ty):rh q t=.mk t.kind (if t.kind=1 then rhN q t.name else t.name) t.n (t.args.map (rh q)):=by
 cases t with
 | mk k s n args=>rw[rh,qm_];rfl
theorem bz_ (t:Ty):(rh q t).kind=t.kind:=by rw[e7_];rfl
theorem lM_ (t:Ty):(rh q t).n=t.n:=by rw[e7_];rfl
theorem dr_ (t:Ty):(rh q t).args=t.args.map (rh q):=by rw[e7_];rfl
theorem mq_ {t:Ty}(h:t.kind≠1):(rh q t).name=t.name:=by rw[e7_,if_neg h];rfl
theorem qO_ {f:Ty→Ty} : ∀ {a b:List Ty},(∀ x∈a,∀ y,f x=f y→x=y)→a.map f=b.map f→a=b:=by
 intro a
 induction a with
 | nil =>
  intro b _ h;cases b with
  | nil=>rfl
  | cons y b=>cases h
 | cons x a ih =>
  intro b hx h;cases b with
  | nil=>cases h
  | cons y b =>
   rw[List.map_cons,List.map_cons] at h;injection h with h1 h2
   rw[hx x (by simp) y h1,ih (fun z hz=>hx z (by simp[hz])) h2]
theorem gr_:∀ t u:Ty,rh q t=rh q u→t=u:=by
 intro t
 induction t using Ty.ind with
 | h t ih =>
  intro u h;rw[e7_,e7_ q u] at h;injection h with h1 h2 h3 h4
  have h5:t.name=u.name:=by
   by_cases hk:t.kind=1
   ·rw[if_pos hk,if_pos (h1 ▸ hk)] at h2
    exact ql_ q h2
   ·rwa [if_neg hk,if_neg (h1 ▸ hk)] at h2
  rw[← ce_ t,← ce_ u,h1,h5,h3,qO_ (fun x hx y e=>ih x hx y e) h4]
theorem iK_ (m:Int):∀ t:Ty,oc m (rh q t)=oc m t:=by
 intro t
 induction t using Ty.ind with
 | h t ih =>
  rw[oC_,oC_ m t,bz_,lM_,dr_];have:∀ l:List Ty,(∀ a∈l,oc m (rh q a)=oc m a)→ocL m (l.map (rh q))=ocL m l:=by
   intro l
   induction l with
   | nil=>intro _;rfl
   | cons a l ihl=>intro hl;rw[List.map_cons,ocL,ocL,hl a (by simp),ihl fun b hb=>hl b (by simp[hb])]
  rw[this t.args ih]
theorem mo_:∀ t:Ty,(rh q t).size=t.size:=by
 intro t
 induction t using Ty.ind with
 | h t ih =>
  rw[Ty.size_eq,t.size_eq,dr_];have:∀ l:List Ty,(∀ a∈l,(rh q a).size=a.size)→af_ (l.map (rh q))=af_ l:=by
   intro l
   induction l with
   | nil=>intro _;rfl
   | cons a l ihl=>intro hl;rw[List.map_cons,af_,af_,hl a (by simp),ihl fun b hb=>hl b (by simp[hb])]
  rw[this t.args ih]
theorem rc_ {p p':Ty→Prop}(hp:∀ t:Ty,p t→p' (.mk t.kind (if t.kind=1 then rhN q t.name else t.name) t.n (t.args.map (rh q)))):∀ t:Ty,Al p t→Al p' (rh q t):=by
 intro t
 induction t using Ty.ind with
 | h t ih =>
  intro h;rw[e7_];refine .mk _ (hp t h.here) fun a ha=>?_;obtain⟨b,hb,rfl⟩:=List.mem_map.1 ha;exact ih b hb (h.arg hb)
theorem sB_ {p p':Ty→Prop}(hp:∀ t:Ty,p' (.mk t.kind (if t.kind=1 then rhN q t.name else t.name) t.n (t.args.map (rh q)))→p t):∀ t:Ty,Al p' (rh q t)→Al p t:=by
 intro t
 induction t using Ty.ind with
 | h t ih =>
  intro h;rw[e7_] at h;exact .mk _ (hp t h.here) fun a ha=>ih a ha (h.arg (a:=rh q a) (List.mem_map.2 ⟨a,ha,rfl⟩))
theorem pu_ (t:Ty):Al (fun t=>t.kind≠5) (rh q t)↔Al (fun t=>t.kind≠5) t:=⟨sB_ q (p:=fun t=>t.kind≠5) (p':=fun t=>t.kind≠5) (fun _ h=>h) t,rc_ q (p:=fun t=>t.kind≠5) (p':=fun t=>t.kind≠5) (fun _ h=>h) t⟩
theorem rQ_ (t:Ty):Al (fun t=>t.kind=1→e0_ t.name=false) (rh q t)↔Al (fun t=>t.kind=1→e0_ t.name=false) t :=
 ⟨sB_ q (p:=fun t=>t.kind=1→e0_ t.name=false) (p':=fun t=>t.kind=1→e0_ t.name=false) (fun t h h1=>by
  have h2:e0_ (if t.kind=1 then rhN q t.name else t.name)=false:=h h1;rwa [if_pos h1,kd_] at h2) t,rc_ q (p:=fun t=>t.kind=1→e0_ t.name=false) (p':=fun t=>t.kind=1→e0_ t.name=false) (fun t h h1=>by
  have h1:t.kind=1:=h1;show e0_ (if t.kind=1 then rhN q t.name else t.name)=false;rw[if_pos h1,kd_];exact h h1) t⟩
theorem mn_ {NL NL':List ByteArray}(hN:lI_ NL)(hs:∀ s∈NL,s∈NL'){fr:Nat}{t:Ty}(h:Al (VOk NL fr) t):Al (VOk NL' (fr+q)) (rh q t):=rc_ q (fun t h=>by
 refine⟨fun h1=>?_,fun h3=>?_⟩
 ·show (if t.kind=1 then rhN q t.name else t.name)∈NL'∨∃ j,j<fr+q∧(if t.kind=1 then rhN q t.name else t.name)=bo_ j
  rw[if_pos (show t.kind=1 from h1)]
  rcases h.1 h1 with h|⟨j,hj,e⟩
  ·rw[iL_ q (hN _ h).1];exact .inl (hs _ h)
  ·rw[e,fE_];exact .inr ⟨_,by omega,rfl⟩
 ·show CnW (if t.kind=1 then rhN q t.name else t.name).data.toList
  rw[if_neg (by have:t.kind=3:=h3;omega)];exact h.2 h3) t h
theorem rR_:∀ t:Ty,Al (fun t=>t.kind=1→e0_ t.name=false) t→rh q t=t:=by
 intro t
 induction t using Ty.ind with
 | h t ih =>
  intro h;rw[e7_,c3_ fun a ha=>ih a ha (h.arg ha)];have:(if t.kind=1 then rhN q t.name else t.name)=t.name:=by
   split
   ·next h1=>exact iL_ q (h.here h1)
   ·rfl
  rw[this,ce_]
theorem mp_ {t:Ty}(h:Pr t):rh q t=t:=rR_ q t (ln_ h).2
theorem oe_ {f:Int→Ty}(hf:∀ m,rh q (f m)=f m):∀ t:Ty,rh q (fl f t)=fl f (rh q t):=by
 intro t
 induction t using Ty.ind with
 | h t ih =>
  by_cases h2:t.kind=2
  ·rw[a0_ f h2,a0_ f (by rw[bz_];exact h2),lM_,hf]
  ·rw[ay_ f h2,ay_ f (t:=rh q t) (by rw[bz_];exact h2),e7_,bz_,lM_,dr_,List.map_map]
   show Ty.mk t.kind (if t.kind=1 then rhN q t.name else t.name) t.n ((t.args.map (fl f)).map (rh q))=_;rw[List.map_map,show (rh q t).name=if t.kind=1 then rhN q t.name else t.name from by rw[e7_];rfl];congr 1;exact List.map_congr_left fun a ha=>ih a ha
theorem rP_ (j:Nat):∀ (t:Ty) (k:Nat),opB (bo_ (j+q)) k (rh q t)=rh q (opB (bo_ j) k t):=by
 intro t
 induction t using Ty.ind with
 | h t ih =>
  intro k
  by_cases h6:t.kind=6
  ·rw[f4_ _ k h6,f4_ _ k (by rw[bz_];exact h6),lM_]
   split
   ·rw[e7_];show Ty.mk 1 (bo_ (j+q)) 0 []=Ty.mk 1 (if (1:Int)=1 then rhN q (bo_ j) else bo_ j) 0 [];rw[if_pos rfl,fE_]
   ·rfl
  ·rw[eD_ _ k h6,eD_ _ k (by rw[bz_];exact h6),bz_,lM_,dr_,e7_ q (Ty.mk t.kind t.name t.n _)]
   show Ty.mk t.kind (rh q t).name t.n ((t.args.map (rh q)).map _)=Ty.mk t.kind (if t.kind=1 then rhN q t.name else t.name) t.n ((t.args.map _).map (rh q));rw[List.map_map,List.map_map,show (rh q t).name=if t.kind=1 then rhN q t.name else t.name from by rw[e7_];rfl];congr 1;exact List.map_congr_left fun a ha=>ih a ha _
theorem hR_ (l r:Ty):bg_ (rh q l) (rh q r)=bg_ l r:=by
 unfold bg_;rw[bz_,bz_,dr_,dr_,List.length_map,List.length_map]
 by_cases h1:l.kind=1
 ·rw[show (l.kind==1)=true from beq_iff_eq.2 h1];simp
 ·rw[mq_ q h1]
  by_cases h2:r.kind=1
  ·rw[show (l.kind != r.kind)=true from bne_iff_ne.2 (by omega)];simp
  ·rw[mq_ q h2]
theorem rO_ (l r:Ty):cB_ (rh q l) (rh q r)=(rh q (cB_ l r).1,rh q (cB_ l r).2):=by
 unfold cB_;rw[bz_,bz_,lM_,lM_]
 split<;>rfl
end
def LoK (c:Int)(K:Kn):Prop:=∀ e∈K,e.1<c∧∀ m,oc m e.2≠0→m<c
def HiK (c:Int)(K:Kn):Prop:=∀ e∈K,c≤e.1∧∀ m,oc m e.2≠0→c≤m
section
variable {c : Int}
theorem rL_ {K:Kn}(ko:KO K)(h:LoK c K):∀ x,(c≤x→sg K x=mt x)∧(x<c→∀ m,oc m (sg K x)≠0→m<c):=by
 induction ko with
 | nil=>exact fun x=>⟨fun _=>rfl,fun hx m hm=>by
   rw[ps_,hW_] at hm
   split at hm
   ·next e=>omega
   ·exact absurd rfl hm⟩
 | snoc K m t hk h1 h2 h3 h4 ih =>
  have hK:=ih fun e he=>h e (by simp[he]);have ht:=h (m,t) (by simp);refine fun x=>⟨fun hx=>?_,fun hx y hy=>?_⟩
  ·rw[b8_,(hK x).1 hx,cK_,bU_ _ (by have:=ht.1;simp only at this;omega)]
  ·rw[b8_] at hy
   obtain⟨z,hz,hz2⟩:=mZ_ _ hy;have h5:=(hK x).2 hx z hz
   by_cases e:z=m
   ·rw[e,bl_] at hz2;exact ht.2 y hz2
   ·rw[bU_ _ e,hW_] at hz2
    split at hz2
    ·next e2=>omega
    ·exact absurd rfl hz2
theorem hg_ {A K:Kn}(koA:KO A)(ko:KO K)(hA:LoK c A)(h:HiK c K):∀ x,sg (A++K) x=if x<c then sg A x else sg K x:=by
 induction ko with
 | nil =>
  intro x;rw[List.append_nil]
  split
  ·rfl
  ·next hx=>rw[(rL_ koA hA x).1 (by omega),ps_]
 | snoc K m t hk h1 h2 h3 h4 ih =>
  have hK:=ih fun e he=>h e (by simp[he]);have ht:=h (m,t) (by simp);intro x;rw[← List.append_assoc,b8_,hK,b8_]
  by_cases hx:x<c
  ·rw[if_pos hx,if_pos hx]
   refine gJ_ _ (koA.facts.pr x).dw fun y hy=>bU_ _ ?_;have:=(rL_ koA hA x).2 hx y hy;have:=ht.1;simp only at this;omega
  ·rw[if_neg hx,if_neg hx]
theorem eh_ {A K:Kn}(koA:KO A)(ko:KO K)(hA:LoK c A)(h:HiK c K){t:Ty}(ht:∀ m,oc m t≠0→c≤m):fl (sg (A++K)) t=fl (sg K) t:=bI_ t fun m hm=>by
 rw[hg_ koA ko hA h,if_neg (by have:=ht m hm;omega)]
theorem pH_ {A K:Kn}(koA:KO A)(ko:KO K)(hA:LoK c A)(h:HiK c K):KO (A++K):=by
 induction ko with
 | nil=>rwa [List.append_nil]
 | snoc K m t hk h1 h2 h3 h4 ih =>
  have hKh:HiK c K:=fun e he=>h e (by simp[he]);have ht:=h (m,t) (by simp);rw[← List.append_assoc];refine .snoc _ _ _ (ih hKh) ?_ ?_ h3 h4
  ·rw[bh_,List.map_append,List.mem_append]
   rintro (hm|hm)
   ·obtain⟨x,hx,e⟩:=List.mem_map.1 hm
    have:=(hA x hx).1;have:=ht.1;simp only at *;omega
   ·exact bh_.1 h1 hm
  ·rw[eh_ koA hk hA hKh ht.2,h2]
end
noncomputable def rhE (q:Nat) (e:EqT):EqT:=(rh q e.1,rh q e.2)
noncomputable def simW (A:Kn) (q:Nat) (W:Wk):Wk:=⟨A++W.K,W.left.map (rhE q),W.fresh+q⟩
noncomputable def simX (A:Kn) (q:Nat):Except Nat Wk→Except Nat Wk
 | .error e=>.error e
 | .ok W=>.ok (simW A q W)
theorem rz_ (q:Nat):∀ a b:List Ty,(a.map (rh q)).zip (b.map (rh q))=(a.zip b).map (rhE q):=by
 intro a
 induction a with
 | nil=>intro b;rfl
 | cons x a ih =>
  intro b;cases b with
  | nil=>rfl
  | cons y b=>rw[List.map_cons,List.map_cons,List.zip_cons_cons,List.zip_cons_cons,List.map_cons,ih];rfl
theorem Dst.sim (A:Kn)(q:Nat){W:Wk}{l r:Ty}{x:Except Nat Wk}(h:Dst W l r x):Dst (simW A q W) (rh q l) (rh q r) (simX A q x):=by
 cases h with
 | same h=>exact .same (by rw[h])
 | occurs h h2 ho=>exact .occurs (fun e=>h (gr_ q _ _ e)) (by rw[bz_];exact h2) (by rw[lM_,iK_];exact ho)
 | poly h h2 ho hp=>exact .poly (fun e=>h (gr_ q _ _ e)) (by rw[bz_];exact h2) (by rw[lM_,iK_];exact ho) (by rw[pu_];exact hp)
 | esc h h2 ho hp hd=>exact .esc (fun e=>h (gr_ q _ _ e)) (by rw[bz_];exact h2) (by rw[lM_,iK_];exact ho) (by rw[pu_];exact hp) (by rw[rQ_];exact hd)
 | learn h h2 ho hp =>
  have h3:=Dst.learn (W:=simW A q W) (fun e=>h (gr_ q _ _ e)) (by rw[bz_];exact h2) (by rw[lM_,iK_];exact ho) (show Pr (rh q r) from by rw[mp_ q hp];exact hp);rw[lM_,mp_ q hp] at h3;rw[mp_ q hp];have e:simX A q (.ok ⟨W.K++[(l.n,r)],W.left,W.fresh⟩)=.ok ⟨(simW A q W).K++[(l.n,r)],(simW A q W).left,(simW A q W).fresh⟩:=by
   show Except.ok (Wk.mk (A++(W.K++[(l.n,r)])) _ _)=_;rw[← List.append_assoc];rfl
  rw[e];exact h3
 | clash h h2 hc=>exact .clash (fun e=>h (gr_ q _ _ e)) (by rw[bz_];exact h2) (by rw[hR_];exact hc)
 | opn h h5 hc b b' hl hr =>
  have h3:=Dst.opn (W:=simW A q W) (fun e=>h (gr_ q _ _ e)) (by rw[bz_];exact h5) (by rw[hR_];exact hc) (rh q b) (rh q b') (by rw[dr_,hl];rfl) (by rw[dr_,hr];rfl);have e:simX A q (.ok ⟨W.K,(opB (bo_ W.fresh) 0 b,opB (bo_ W.fresh) 0 b') :: W.left,W.fresh+1⟩)=.ok ⟨(simW A q W).K,(opB (bo_ (simW A q W).fresh) 0 (rh q b),opB (bo_ (simW A q W).fresh) 0 (rh q b')) :: (simW A q W).left,(simW A q W).fresh+1⟩:=by
   show Except.ok (Wk.mk (A++W.K) ((rh q (opB _ 0 b),rh q (opB _ 0 b')) :: W.left.map (rhE q)) (W.fresh+1+q))=Except.ok (Wk.mk (A++W.K) ((opB (bo_ (W.fresh+q)) 0 (rh q b),opB (bo_ (W.fresh+q)) 0 (rh q b')) :: W.left.map (rhE q)) (W.fresh+q+1));rw[rP_,rP_,show W.fresh+1+q=W.fresh+q+1 from by omega]
  rw[e];exact h3
 | parts h h2 h5 h6 hc =>
  have h3:=Dst.parts (W:=simW A q W) (fun e=>h (gr_ q _ _ e)) (by rw[bz_];exact h2) (by rw[bz_];exact h5) (by rw[bz_];exact h6) (by rw[hR_];exact hc);have e:simX A q (.ok ⟨W.K,l.args.zip r.args++W.left,W.fresh⟩)=.ok ⟨(simW A q W).K,(rh q l).args.zip (rh q r).args++(simW A q W).left,(simW A q W).fresh⟩:=by
   show Except.ok (Wk.mk (A++W.K) ((l.args.zip r.args++W.left).map (rhE q)) _)=_;rw[List.map_append,← rz_,← dr_,← dr_];rfl
  rw[e];exact h3
theorem p7_ {c:Int}{A K:Kn}(koA:KO A)(ko:KO K)(hA:LoK c A)(h:HiK c K)(q:Nat){e:EqT}(h1:∀ m,oc m e.1≠0→c≤m)(h2:∀ m,oc m e.2≠0→c≤m):swl (A++K) (rhE q e)=rhE q (swl K e):=by
 have hf:∀ m,rh q (sg K m)=sg K m:=fun m=>mp_ q (ko.facts.pr m);unfold swl rhE;simp only;rw[eh_ koA ko hA h (t:=rh q e.1) (by intro m;rw[iK_];exact h1 m),eh_ koA ko hA h (t:=rh q e.2) (by intro m;rw[iK_];exact h2 m),← oe_ q hf,← oe_ q hf,rO_]
end
end Go.Proofs.YtjecnionbjlncaaGreatDoor.Tp

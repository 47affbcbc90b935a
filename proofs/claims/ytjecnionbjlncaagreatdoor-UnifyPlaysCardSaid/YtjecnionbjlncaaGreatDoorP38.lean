/- Packed. -/
import Derived.Test.YtjecnionbjlncaaGreatDoorP36
import Derived.Deep.CutRange
set_option maxRecDepth 100000
set_option maxHeartbeats 6400000
namespace Go.Proofs.YtjecnionbjlncaaGreatDoor.Tp
open Go.RowKit
theorem k0_ {T:Nat→Prop}{n0 d:Nat}{w:World}{wb kb:Nat}{W:Wk}{v:Value}{ps:List (Value × Value)}{e:EqT}{a a':OA_}{c c':Nat}{l r:Ty}{res:Except Nat Wk}(h:UM T n0 w wb kb W v ps)(hK:KB W.K)(hA:aa_ T w (.slice a e.1.args.length c) e.1.args)(hA':aa_ T w (.slice a' e.2.args.length c') e.2.args)(hs:SmT e.1∧SmT e.2)(hT:∀ w',Below n0 w w'→Tab w')(hl:f3_ d W.K e.1=some l)(hr:f3_ d W.K e.2=some r)(hst:gs_ W (aW_ l r).1 (aW_ l r).2=some res)(hn0:n0≤w.heap.size)(hlen:W.left.length≤500000000000)(hok:∀ W',res=.ok W'→W'.left.length≤500000000000) :
  Calls Tryz.prog 33 #[.pointer (some ⟨wb,0,none⟩),eqv e a c a' c'] w (oR_ n0 w wb kb v res):=by
 have HSW:=hid (m5_ (lw_ hK hs.1 hl) (lw_ hK hs.2 hr));have HST:=hid hst;have HN0:=hid hn0;have HLEN:=hid hlen;have HTAB:=hid hT;have HTB:Hid (∀ w',Below w.heap.size w w'→Tab w'):=hid fun w' hb=>hT w' (hb.mono hn0);clear hst hn0 hlen hT;have hTl:∀ b,T b→b<w.heap.size:=fun b hb=>(h.t b hb).1;have hz:=aq_ w (.cells #[.int .i64 e.1.kind,.string e.1.name,.int .i64 e.1.n,.slice a e.1.args.length c,.int .i64 e.2.kind,.string e.2.name,.int .i64 e.2.n,.slice a' e.2.args.length c'] 48);have q8:=Q8.new w (.int .i64 e.1.kind) (.string e.1.name) (.int .i64 e.1.n) (.slice a e.1.args.length c) (.int .i64 e.2.kind) (.string e.2.name) (.int .i64 e.2.n) (.slice a' e.2.args.length c');have CF1:Hid (∀ W':World,Below w.heap.size w W'→Calls Tryz.prog 37 #[.pointer (some ⟨wb,0,none⟩),.agg #[.int .i64 e.1.kind,.string e.1.name,.int .i64 e.1.n,.slice a e.1.args.length c]] W' (TP T l W')):=hid (fun W' hb=>iC_ d T n0 W' wb kb W v ps e.1 l a c (h.low hb) hK.small (hA.keep fun b hT=>hb.block b (hTl b hT)) hs.1.small (HTB.out _ hb) hl);have CF2:Hid (∀ W':World,Below w.heap.size w W'→Calls Tryz.prog 37 #[.pointer (some ⟨wb,0,none⟩),.agg #[.int .i64 e.2.kind,.string e.2.name,.int .i64 e.2.n,.slice a' e.2.args.length c']] W' (TP T r W')):=hid (fun W' hb=>iC_ d T n0 W' wb kb W v ps e.2 r a' c' (h.low hb) hK.small (hA'.keep fun b hT=>hb.block b (hTl b hT)) hs.2.small (HTB.out _ hb) hr);obtain⟨k0,k1,k2,k3,k4,k5,k6,k7⟩:=q8.c07;have HD:Hid (Below w.heap.size w ((w.alloc (.cells #[.int .i64 e.1.kind,.string e.1.name,.int .i64 e.1.n,.slice a e.1.args.length c,.int .i64 e.2.kind,.string e.2.name,.int .i64 e.2.n,.slice a' e.2.args.length c'] 48)).drew)):=hid (hz.trans ((Below.refl _ _).drew.mono hz.size));have HDA:Hid (Below w.heap.size w (((w.alloc (.cells #[.int .i64 e.1.kind,.string e.1.name,.int .i64 e.1.n,.slice a e.1.args.length c,.int .i64 e.2.kind,.string e.2.name,.int .i64 e.2.n,.slice a' e.2.args.length c'] 48)).alloc (.cells #[.int .i64 0,.string ⟨#[]⟩,.int .i64 0,.slice none 0 0] 37)).drew)):=hid (show Below w.heap.size w (((w.alloc (.cells #[.int .i64 e.1.kind,.string e.1.name,.int .i64 e.1.n,.slice a e.1.args.length c,.int .i64 e.2.kind,.string e.2.name,.int .i64 e.2.n,.slice a' e.2.args.length c'] 48)).drew).alloc (.cells #[.int .i64 0,.string ⟨#[]⟩,.int .i64 0,.slice none 0 0] 37)) from HD.out.alloc HD.out.size _);have HDB:Hid (Below w.heap.size w ((((w.alloc (.cells #[.int .i64 e.1.kind,.string e.1.name,.int .i64 e.1.n,.slice a e.1.args.length c,.int .i64 e.2.kind,.string e.2.name,.int .i64 e.2.n,.slice a' e.2.args.length c'] 48)).alloc (.cells #[.int .i64 0,.string ⟨#[]⟩,.int .i64 0,.slice none 0 0] 37)).alloc (.cells #[.int .i64 0,.string ⟨#[]⟩,.int .i64 0,.slice none 0 0] 37)).drew)):=hid (show Below w.heap.size w ((((w.alloc (.cells #[.int .i64 e.1.kind,.string e.1.name,.int .i64 e.1.n,.slice a e.1.args.length c,.int .i64 e.2.kind,.string e.2.name,.int .i64 e.2.n,.slice a' e.2.args.length c'] 48)).alloc (.cells #[.int .i64 0,.string ⟨#[]⟩,.int .i64 0,.slice none 0 0] 37)).drew).alloc (.cells #[.int .i64 0,.string ⟨#[]⟩,.int .i64 0,.slice none 0 0] 37)) from HDA.out.alloc HDA.out.size _);have QD:Hid (Q8 ((w.alloc (.cells #[.int .i64 e.1.kind,.string e.1.name,.int .i64 e.1.n,.slice a e.1.args.length c,.int .i64 e.2.kind,.string e.2.name,.int .i64 e.2.n,.slice a' e.2.args.length c'] 48)).drew) w.heap.size (.int .i64 e.1.kind) (.string e.1.name) (.int .i64 e.1.n) (.slice a e.1.args.length c) (.int .i64 e.2.kind) (.string e.2.name) (.int .i64 e.2.n) (.slice a' e.2.args.length c')):=hid (q8.low (Below.refl _ _).drew);have QDA:Hid (Q8 (((w.alloc (.cells #[.int .i64 e.1.kind,.string e.1.name,.int .i64 e.1.n,.slice a e.1.args.length c,.int .i64 e.2.kind,.string e.2.name,.int .i64 e.2.n,.slice a' e.2.args.length c'] 48)).alloc (.cells #[.int .i64 0,.string ⟨#[]⟩,.int .i64 0,.slice none 0 0] 37)).drew) w.heap.size (.int .i64 e.1.kind) (.string e.1.name) (.int .i64 e.1.n) (.slice a e.1.args.length c) (.int .i64 e.2.kind) (.string e.2.name) (.int .i64 e.2.n) (.slice a' e.2.args.length c')):=hid (QD.out.low (show Below ((w.alloc (.cells #[.int .i64 e.1.kind,.string e.1.name,.int .i64 e.1.n,.slice a e.1.args.length c,.int .i64 e.2.kind,.string e.2.name,.int .i64 e.2.n,.slice a' e.2.args.length c'] 48)).drew).heap.size ((w.alloc (.cells #[.int .i64 e.1.kind,.string e.1.name,.int .i64 e.1.n,.slice a e.1.args.length c,.int .i64 e.2.kind,.string e.2.name,.int .i64 e.2.n,.slice a' e.2.args.length c'] 48)).drew) (((w.alloc (.cells #[.int .i64 e.1.kind,.string e.1.name,.int .i64 e.1.n,.slice a e.1.args.length c,.int .i64 e.2.kind,.string e.2.name,.int .i64 e.2.n,.slice a' e.2.args.length c'] 48)).drew).alloc (.cells #[.int .i64 0,.string ⟨#[]⟩,.int .i64 0,.slice none 0 0] 37)) from aq_ _ _));have QDB:Hid (Q8 ((((w.alloc (.cells #[.int .i64 e.1.kind,.string e.1.name,.int .i64 e.1.n,.slice a e.1.args.length c,.int .i64 e.2.kind,.string e.2.name,.int .i64 e.2.n,.slice a' e.2.args.length c'] 48)).alloc (.cells #[.int .i64 0,.string ⟨#[]⟩,.int .i64 0,.slice none 0 0] 37)).alloc (.cells #[.int .i64 0,.string ⟨#[]⟩,.int .i64 0,.slice none 0 0] 37)).drew) w.heap.size (.int .i64 e.1.kind) (.string e.1.name) (.int .i64 e.1.n) (.slice a e.1.args.length c) (.int .i64 e.2.kind) (.string e.2.name) (.int .i64 e.2.n) (.slice a' e.2.args.length c')):=hid (QDA.out.low (show Below (((w.alloc (.cells #[.int .i64 e.1.kind,.string e.1.name,.int .i64 e.1.n,.slice a e.1.args.length c,.int .i64 e.2.kind,.string e.2.name,.int .i64 e.2.n,.slice a' e.2.args.length c'] 48)).alloc (.cells #[.int .i64 0,.string ⟨#[]⟩,.int .i64 0,.slice none 0 0] 37)).drew).heap.size (((w.alloc (.cells #[.int .i64 e.1.kind,.string e.1.name,.int .i64 e.1.n,.slice a e.1.args.length c,.int .i64 e.2.kind,.string e.2.name,.int .i64 e.2.n,.slice a' e.2.args.length c'] 48)).alloc (.cells #[.int .i64 0,.string ⟨#[]⟩,.int .i64 0,.slice none 0 0] 37)).drew) ((((w.alloc (.cells #[.int .i64 e.1.kind,.string e.1.name,.int .i64 e.1.n,.slice a e.1.args.length c,.int .i64 e.2.kind,.string e.2.name,.int .i64 e.2.n,.slice a' e.2.args.length c'] 48)).alloc (.cells #[.int .i64 0,.string ⟨#[]⟩,.int .i64 0,.slice none 0 0] 37)).drew).alloc (.cells #[.int .i64 0,.string ⟨#[]⟩,.int .i64 0,.slice none 0 0] 37)) from aq_ _ _));have YA1:Hid (B4 (((w.alloc (.cells #[.int .i64 e.1.kind,.string e.1.name,.int .i64 e.1.n,.slice a e.1.args.length c,.int .i64 e.2.kind,.string e.2.name,.int .i64 e.2.n,.slice a' e.2.args.length c'] 48)).alloc (.cells #[.int .i64 0,.string ⟨#[]⟩,.int .i64 0,.slice none 0 0] 37)).drew) (w.heap.size+1) (.int .i64 0) (.string ⟨#[]⟩) (.int .i64 0) (.slice none 0 0)):=hid (by have h:=B4.new ((w.alloc (.cells #[.int .i64 e.1.kind,.string e.1.name,.int .i64 e.1.n,.slice a e.1.args.length c,.int .i64 e.2.kind,.string e.2.name,.int .i64 e.2.n,.slice a' e.2.args.length c'] 48)).drew) (.int .i64 0) (.string ⟨#[]⟩) (.int .i64 0) (.slice none 0 0);rw[show (((w.alloc (.cells #[.int .i64 e.1.kind,.string e.1.name,.int .i64 e.1.n,.slice a e.1.args.length c,.int .i64 e.2.kind,.string e.2.name,.int .i64 e.2.n,.slice a' e.2.args.length c'] 48)).drew)).heap.size=w.heap.size+1 from by simp] at h;exact h);have YA2:Hid (B4 ((((w.alloc (.cells #[.int .i64 e.1.kind,.string e.1.name,.int .i64 e.1.n,.slice a e.1.args.length c,.int .i64 e.2.kind,.string e.2.name,.int .i64 e.2.n,.slice a' e.2.args.length c'] 48)).alloc (.cells #[.int .i64 0,.string ⟨#[]⟩,.int .i64 0,.slice none 0 0] 37)).alloc (.cells #[.int .i64 0,.string ⟨#[]⟩,.int .i64 0,.slice none 0 0] 37)).drew) (w.heap.size+1) (.int .i64 0) (.string ⟨#[]⟩) (.int .i64 0) (.slice none 0 0)):=hid (YA1.out.low (show Below (((w.alloc (.cells #[.int .i64 e.1.kind,.string e.1.name,.int .i64 e.1.n,.slice a e.1.args.length c,.int .i64 e.2.kind,.string e.2.name,.int .i64 e.2.n,.slice a' e.2.args.length c'] 48)).alloc (.cells #[.int .i64 0,.string ⟨#[]⟩,.int .i64 0,.slice none 0 0] 37)).drew).heap.size (((w.alloc (.cells #[.int .i64 e.1.kind,.string e.1.name,.int .i64 e.1.n,.slice a e.1.args.length c,.int .i64 e.2.kind,.string e.2.name,.int .i64 e.2.n,.slice a' e.2.args.length c'] 48)).alloc (.cells #[.int .i64 0,.string ⟨#[]⟩,.int .i64 0,.slice none 0 0] 37)).drew) ((((w.alloc (.cells #[.int .i64 e.1.kind,.string e.1.name,.int .i64 e.1.n,.slice a e.1.args.length c,.int .i64 e.2.kind,.string e.2.name,.int .i64 e.2.n,.slice a' e.2.args.length c'] 48)).alloc (.cells #[.int .i64 0,.string ⟨#[]⟩,.int .i64 0,.slice none 0 0] 37)).drew).alloc (.cells #[.int .i64 0,.string ⟨#[]⟩,.int .i64 0,.slice none 0 0] 37)) from aq_ _ _));have YB2:Hid (B4 ((((w.alloc (.cells #[.int .i64 e.1.kind,.string e.1.name,.int .i64 e.1.n,.slice a e.1.args.length c,.int .i64 e.2.kind,.string e.2.name,.int .i64 e.2.n,.slice a' e.2.args.length c'] 48)).alloc (.cells #[.int .i64 0,.string ⟨#[]⟩,.int .i64 0,.slice none 0 0] 37)).alloc (.cells #[.int .i64 0,.string ⟨#[]⟩,.int .i64 0,.slice none 0 0] 37)).drew) (w.heap.size+1+1) (.int .i64 0) (.string ⟨#[]⟩) (.int .i64 0) (.slice none 0 0)):=hid (by have h:=B4.new (((w.alloc (.cells #[.int .i64 e.1.kind,.string e.1.name,.int .i64 e.1.n,.slice a e.1.args.length c,.int .i64 e.2.kind,.string e.2.name,.int .i64 e.2.n,.slice a' e.2.args.length c'] 48)).alloc (.cells #[.int .i64 0,.string ⟨#[]⟩,.int .i64 0,.slice none 0 0] 37)).drew) (.int .i64 0) (.string ⟨#[]⟩) (.int .i64 0) (.slice none 0 0);rw[show ((((w.alloc (.cells #[.int .i64 e.1.kind,.string e.1.name,.int .i64 e.1.n,.slice a e.1.args.length c,.int .i64 e.2.kind,.string e.2.name,.int .i64 e.2.n,.slice a' e.2.args.length c'] 48)).alloc (.cells #[.int .i64 0,.string ⟨#[]⟩,.int .i64 0,.slice none 0 0] 37)).drew)).heap.size=w.heap.size+1+1 from by simp] at h;exact h)
 have HH:=hid h;have HTL:=hid hTl;clear h hK hA hA' hs hl hr hz q8 hTl;unfold eqv;go_enter Tryz.func33,Tryz.ntmps33
 go_upto_region 1 with fail
 go_cut [5,6] from 10 to 17 (fun s5 s6 wx=>dm_ T w l r s5 s6 wx)
 case first =>
  obtain⟨k0,k1,k2,k3⟩:True∧True∧True∧True:=⟨trivial,trivial,trivial,trivial⟩;have kd:=QD.out;obtain⟨k0,k1,k2,k3,k4,k5,k6,k7⟩:=kd.c07;clear kd
  go_region_law (first
   | (go_simp;go_at_call 37;(first|((with_reducible refine (CF1.out _ HD.out).mono ?_);rintro en w4 ⟨la,lc,he,hA4,hb4⟩;unfold tv at he;subst he;have kq:=QD.out.low hb4;have HX4:=hid (HD.out.trans (hb4.mono HD.out.size));skip)|((with_reducible refine (CF1.out _ HDA.out).mono ?_);rintro en w4 ⟨la,lc,he,hA4,hb4⟩;unfold tv at he;subst he;have kq:=QDA.out.low hb4;have HX4:=hid (HDA.out.trans (hb4.mono HDA.out.size));have ya:=YA1.out.low hb4;have Hya:=hid ya;have lya:=ya.lt;have fya0:=ya.fr 0;have fya1:=ya.fr 1;have fya2:=ya.fr 2;have fya3:=ya.fr 3;have cya0:=ya.c0;have cya1:=ya.c1;have cya2:=ya.c2;have cya3:=ya.c3;clear ya)|((with_reducible refine (CF1.out _ HDB.out).mono ?_);rintro en w4 ⟨la,lc,he,hA4,hb4⟩;unfold tv at he;subst he;have kq:=QDB.out.low hb4;have HX4:=hid (HDB.out.trans (hb4.mono HDB.out.size));have ya:=YA2.out.low hb4;have Hya:=hid ya;have lya:=ya.lt;have fya0:=ya.fr 0;have fya1:=ya.fr 1;have fya2:=ya.fr 2;have fya3:=ya.fr 3;have cya0:=ya.c0;have cya1:=ya.c1;have cya2:=ya.c2;have cya3:=ya.c3;clear ya;have yb:=YB2.out.low hb4;have Hyb:=hid yb;have lyb:=yb.lt;have fyb0:=yb.fr 0;have fyb1:=yb.fr 1;have fyb2:=yb.fr 2;have fyb3:=yb.fr 3;have cyb0:=yb.c0;have cyb1:=yb.c1;have cyb2:=yb.c2;have cyb3:=yb.c3;clear yb));have p0:=kq.c0;have p1:=kq.c1;have p2:=kq.c2;have p3:=kq.c3;have p4:=kq.c4;have p5:=kq.c5;have p6:=kq.c6;have p7:=kq.c7;have lkq:=kq.lt;have KQ4:=hid kq;have A4:=hid hA4;have H4:=hid hb4;clear kq hA4 hb4;have H41:=hid (aq_ w4 (.cells #[.int .i64 0,.string ⟨#[]⟩,.int .i64 0,.slice none 0 0] 37));have H42:=hid ((aq_ w4 (.cells #[.int .i64 0,.string ⟨#[]⟩,.int .i64 0,.slice none 0 0] 37)).alloc H41.out.size (.cells #[.int .i64 0,.string ⟨#[]⟩,.int .i64 0,.slice none 0 0] 37));have HX4A:=hid (HX4.out.alloc HX4.out.size (.cells #[.int .i64 0,.string ⟨#[]⟩,.int .i64 0,.slice none 0 0] 37));have HX4B:=hid ((HX4.out.alloc HX4.out.size (.cells #[.int .i64 0,.string ⟨#[]⟩,.int .i64 0,.slice none 0 0] 37)).alloc HX4A.out.size (.cells #[.int .i64 0,.string ⟨#[]⟩,.int .i64 0,.slice none 0 0] 37));have ZC1:=hid (B4.new w4 (.int .i64 0) (.string ⟨#[]⟩) (.int .i64 0) (.slice none 0 0));have ZC2:=hid ((B4.new w4 (.int .i64 0) (.string ⟨#[]⟩) (.int .i64 0) (.slice none 0 0)).low (aq_ _ (.cells #[.int .i64 0,.string ⟨#[]⟩,.int .i64 0,.slice none 0 0] 37)));have ZD2:=hid (B4.new1 w4 (.int .i64 0) (.string ⟨#[]⟩) (.int .i64 0) (.slice none 0 0) (.int .i64 0) (.string ⟨#[]⟩) (.int .i64 0) (.slice none 0 0)))
   | (go_simp;go_at_call 37;(first|((with_reducible refine (CF2.out _ HX4.out).mono ?_);rintro en w5 ⟨ra,rc,he,hA5,hb5⟩;unfold tv at he;subst he;have HX5:=hid (HX4.out.trans (hb5.mono HX4.out.size));have hb6:=hb5;skip)|((with_reducible refine (CF2.out _ HX4A.out).mono ?_);rintro en w5 ⟨ra,rc,he,hA5,hb5⟩;unfold tv at he;subst he;have HX5:=hid (HX4A.out.trans (hb5.mono HX4A.out.size));have hb6:=H41.out.trans (hb5.mono H41.out.size);have zc:=ZC1.out.low hb5;have Hzc:=hid zc;have lzc:=zc.lt;have fzc0:=zc.fr 0;have fzc1:=zc.fr 1;have fzc2:=zc.fr 2;have fzc3:=zc.fr 3;have czc0:=zc.c0;have czc1:=zc.c1;have czc2:=zc.c2;have czc3:=zc.c3;clear zc)|((with_reducible refine (CF2.out _ HX4B.out).mono ?_);rintro en w5 ⟨ra,rc,he,hA5,hb5⟩;unfold tv at he;subst he;have HX5:=hid (HX4B.out.trans (hb5.mono HX4B.out.size));have hb6:=H42.out.trans (hb5.mono H42.out.size);have zc:=ZC2.out.low hb5;have Hzc:=hid zc;have lzc:=zc.lt;have fzc0:=zc.fr 0;have fzc1:=zc.fr 1;have fzc2:=zc.fr 2;have fzc3:=zc.fr 3;have czc0:=zc.c0;have czc1:=zc.c1;have czc2:=zc.c2;have czc3:=zc.c3;clear zc;have zd:=ZD2.out.low hb5;have Hzd:=hid zd;have lzd:=zd.lt;have fzd0:=zd.fr 0;have fzd1:=zd.fr 1;have fzd2:=zd.fr 2;have fzd3:=zd.fr 3;have czd0:=zd.c0;have czd1:=zd.c1;have czd2:=zd.c2;have czd3:=zd.c3;clear zd));(try (have za:=Hya.out.low hb6;have Hza:=hid za;have lza:=za.lt;have fza0:=za.fr 0;have fza1:=za.fr 1;have fza2:=za.fr 2;have fza3:=za.fr 3;have cza0:=za.c0;have cza1:=za.c1;have cza2:=za.c2;have cza3:=za.c3;clear za));(try (have zb:=Hyb.out.low hb6;have Hzb:=hid zb;have lzb:=zb.lt;have fzb0:=zb.fr 0;have fzb1:=zb.fr 1;have fzb2:=zb.fr 2;have fzb3:=zb.fr 3;have czb0:=zb.c0;have czb1:=zb.c1;have czb2:=zb.c2;have czb3:=zb.c3;clear zb));have A5:=hid hA5;have A45:=hid (A4.out.keep (B:=w5) fun b hb=>hb6.block b (by rcases hb with h|h;exact aU_ (HTL.out b h) HX4.out.size;exact h.2));have H5:=hid hb5;have H6:=hid hb6;clear hA5 hb5 hb6))
  all_goals
   go_wp2_with fail
   go_meet
   have z4:=H4.out.size;have z5:=H5.out.size;have HT:=HTL.out;simp at z4 z5
   first
    | (with_reducible refine dm_.both Hza.out Hzb.out A45.out A5.out HX5.out ?_ ?_)
    | (with_reducible refine dm_.both Hzb.out Hza.out A45.out A5.out HX5.out ?_ ?_)
    | (with_reducible refine dm_.both Hza.out Hzc.out A45.out A5.out HX5.out ?_ ?_)
    | (with_reducible refine dm_.both Hzc.out Hza.out A45.out A5.out HX5.out ?_ ?_)
    | (with_reducible refine dm_.both Hzc.out Hzd.out A45.out A5.out HX5.out ?_ ?_)
    | (with_reducible refine dm_.both Hzd.out Hzc.out A45.out A5.out HX5.out ?_ ?_)
    | (with_reducible refine dm_.left Hza.out A45.out A5.out HX5.out ?_ ?_)
    | (with_reducible refine dm_.right Hza.out A45.out A5.out HX5.out ?_ ?_)
    | (with_reducible refine dm_.left Hzc.out A45.out A5.out HX5.out ?_ ?_)
    | (with_reducible refine dm_.right Hzc.out A45.out A5.out HX5.out ?_ ?_)
    | (with_reducible refine dm_.non A45.out A5.out HX5.out ?_ ?_)
    | (with_reducible refine dm_.non2 A45.out A5.out HX5.out ?_ ?_)
   all_goals
    first
     | omega
     | (refine⟨?_,?_,?_⟩<;>omega)
     | (rintro b (h|h)<;>(unfold New at h;(try simp at h);rcases h with h|h<;>first|(have hw:=HT b h;exact⟨.inl h,by omega,by omega⟩)|(have hw:=HT b h;exact⟨.inl h,by omega⟩)|exact⟨.inr ⟨by omega,by omega⟩,by omega,by omega⟩|exact⟨.inr ⟨by omega,by omega⟩,by omega⟩))
 case rest =>
  obtain⟨b5,b6,rfl,rfl,la,lc,ra,rc,hn,h5,h6,kk5,kk6,A5,A6,hb⟩:=hcut;clear CF1 CF2 HD HDA HDB QD QDA QDB YA1 YA2 YB2 k0 k1 k2 k3 k4 k5 k6 k7;have k5:=kk5;have k6:=kk6;clear kk5 kk6;obtain⟨a0,a1,a2,a3⟩:=k5.c03;obtain⟨e0,e1,e2,e3⟩:=k6.c03;have K5:=hid k5;have K6:=hid k6;have HA5:=hid A5;have HA6:=hid A6;have HB:=hid hb;have HN:=hid (show b5≠b6∧w.heap.size<b5∧w.heap.size<b6 from ⟨hn,h5,h6⟩);clear k5 k6 A5 A6 hb hn h5 h6;obtain⟨wA,hwA⟩:∃ x:World,x=wc:=⟨wc,rfl⟩;subst hwA
  go_upto_region 2 with fail
  go_cut [32] from 18 to 32 (fun s wx=>s=.bool (decide (r.kind=2∧(l.kind≠2∨l.n<r.n)))∧wx=wA)
  case first =>
   clear K5 K6 HA5 HA6 HB HN
   by_cases h1:r.kind=2
   ·by_cases h2:l.kind=2
    ·by_cases h3:l.n<r.n
     ·have FF:Hid (decide (r.kind=2∧(l.kind≠2∨l.n<r.n))=true):=hid (decide_eq_true ⟨h1,.inr h3⟩)
      have x1:(r.kind==2)=true:=(by simp[h1]);have x2:(l.kind != 2)=false:=(by simp[h2]);have x3:decide (l.n<r.n)=true:=decide_eq_true h3;clear h1 h2 h3;go_wp2_with fail
      go_meet
      exact⟨by rw[FF.out],rfl⟩
     ·have FF:Hid (decide (r.kind=2∧(l.kind≠2∨l.n<r.n))=false):=hid (decide_eq_false fun h=>h.2.elim (fun h=>h h2) h3)
      have x1:(r.kind==2)=true:=(by simp[h1]);have x2:(l.kind != 2)=false:=(by simp[h2]);have x3:decide (l.n<r.n)=false:=decide_eq_false h3;clear h1 h2 h3;go_wp2_with fail
      go_meet
      exact⟨by rw[FF.out],rfl⟩
    ·have FF:Hid (decide (r.kind=2∧(l.kind≠2∨l.n<r.n))=true):=hid (decide_eq_true ⟨h1,.inl h2⟩)
     have x1:(r.kind==2)=true:=(by simp[h1]);have x2:(l.kind != 2)=true:=(by simp[h2]);clear h1 h2;go_wp2_with fail
     go_meet
     exact⟨by rw[FF.out],rfl⟩
   ·have FF:Hid (decide (r.kind=2∧(l.kind≠2∨l.n<r.n))=false):=hid (decide_eq_false fun h=>h1 h.1)
    have x1:(r.kind==2)=false:=(by simp[h1]);clear h1;go_wp2_with fail
    go_meet
    exact⟨by rw[FF.out],rfl⟩
  case rest =>
  obtain⟨rfl,rfl⟩:=hcut;obtain⟨wA,hwA⟩:∃ x:World,x=wc:=⟨wc,rfl⟩;subst hwA
  go_upto_if 32 with (fail)
  go_cut [33] from 32 to 34 (fun _ wx=>iS_ T w (aW_ l r).1 (aW_ l r).2 b5 b6 wx)
  case first =>
   by_cases hq:r.kind=2∧(l.kind≠2∨l.n<r.n)
   ·have eq:decide (r.kind=2∧(l.kind≠2∨l.n<r.n))=true:=decide_eq_true hq
    have HQ:=hid hq;obtain⟨f50,f51,f52,f53⟩:=K5.out.f03;obtain⟨f60,f61,f62,f63⟩:=K6.out.f03;have hne:=HN.out.1;have hne':=Ne.symm HN.out.1;rw[eq];clear hq eq;go_wp2_with fail
    go_meet
    rw[(kY_ HQ.out).1,(kY_ HQ.out).2];exact iS_.swap HN.out.1 HN.out.2.1 HN.out.2.2 K5.out K6.out HA5.out HA6.out HB.out
   ·have eq:decide (r.kind=2∧(l.kind≠2∨l.n<r.n))=false:=decide_eq_false hq
    have HQ:=hid hq;rw[eq];clear hq eq;go_wp2_with fail
    go_meet
    rw[(m6_ HQ.out).1,(m6_ HQ.out).2];exact⟨la,lc,ra,rc,HN.out.1,HN.out.2.1,HN.out.2.2,K5.out,K6.out,HA5.out,HA6.out,HB.out⟩
  case rest =>
  clear a0 a1 a2 a3 e0 e1 e2 e3 K5 K6 HA5 HA6 HB HN;obtain⟨la,lc,ra,rc,hn,h5,h6,k5,k6,A5,A6,hb⟩:=hcut;generalize (aW_ l r).1=L at *;generalize (aW_ l r).2=R at *;have HSL:Hid (SmT L∧SmT R):=HSW;have hlo:=HH.out.klt;obtain⟨T1,U1,P5,P6⟩:∃ T1:Nat→Prop,Hid (UM T1 n0 wc wb kb W v ps)∧Hid (aa_ T1 wc (.slice la L.args.length lc) L.args)∧Hid (aa_ T1 wc (.slice ra R.args.length rc) R.args) :=
   ⟨fun b=>T b∨w.heap.size≤b∧b<wc.heap.size,hid ((HH.out.low hb).more hlo.1 hlo.2.1 hlo.2.2),hid (A5.mono fun b h=>h.1.imp id fun h=>⟨Nat.le_of_lt h.1,h.2⟩),hid (A6.mono fun b h=>h.1.imp id fun h=>⟨Nat.le_of_lt h.1,h.2⟩)⟩
  have HNB:Hid (w.heap.size<b5∧w.heap.size<b6∧wb<w.heap.size):=hid ⟨h5,h6,hlo.1⟩;have XLO:=hid HH.out.xlo;have TC:Hid (Tab wc):=hid (HTB.out _ hb);have CS:=hid (ts_ (P5.out.mono fun b h=>(U1.out.t b h).1) (P6.out.mono fun b h=>(U1.out.t b h).1) HSL.out.1.small HSL.out.2.small TC.out);have K5:=hid k5;have K6:=hid k6;have HB:=hid hb;obtain⟨a0,a1,a2,a3⟩:=k5.c03;obtain⟨e0,e1,e2,e3⟩:=k6.c03;have G1:Hid (GB (XW wb kb v) w wc):=hid (GB.of_below hb);clear k5 k6 A5 A6 hb hlo hn h5 h6 HSW;obtain⟨wA,hwA⟩:∃ x:World,x=wc:=⟨wc,rfl⟩;subst hwA;go_wp2_with fail;refine CS.out.mono ?_;rintro en w1 ⟨rfl,hb1⟩;have B1:=hid hb1;have K51:=hid (K5.out.low hb1);have K61:=hid (K6.out.low hb1);clear a0 a1 a2 a3 e0 e1 e2 e3 hb1;obtain⟨a0,a1,a2,a3⟩:=K51.out.c03;obtain⟨e0,e1,e2,e3⟩:=K61.out.c03;have U2:=hid (U1.out.low B1.out);have TL2:Hid (∀ b,T1 b→w1.heap[b]? = wA.heap[b]?):=hid (fun b h=>B1.out.block b (U1.out.t b h).1);have P52:=hid (P5.out.keep TL2.out);have P62:=hid (P6.out.keep TL2.out);have G2:Hid (GB (XW wb kb v) w w1):=hid (G1.out.trans (GB.of_below (X:=XW wb kb v) B1.out) fun _ _ h=>h);have TC2:=hid (HTAB.out _ (G2.out.below XLO.out HN0.out))
  by_cases hc:aw_ L=aw_ R
  ·have ec:decide (aw_ L=aw_ R)=true:=decide_eq_true hc
   have hst:=HST.out;unfold gs_ at hst;rw[if_pos hc] at hst;injection hst with hst
   subst hst;rw[ec];clear hc ec;go_wp2;go_ret;exact⟨rfl,_,v,ps,U2.out,G2.out,fun b e=>.inl e⟩
  ·have ec:decide (aw_ L=aw_ R)=false:=decide_eq_false hc
   have hst:=HST.out;unfold gs_ at hst;rw[if_neg hc] at hst;rw[ec];clear hc ec HST
   by_cases h2:L.kind=2
   ·have x2:(L.kind==2)=true:=by simp[h2]
    rw[if_pos h2] at hst
    split at hst
    ·cases hst
    next hcond =>
    injection hst with hst
    have hnl:lkK W.K L.n=none:=by
     cases hk:lkK W.K L.n with
     | none=>rfl
     | some u=>rw[hk] at hcond;simp at hcond
    have hfr:∀ s∈af_ R,1≤s.size:=by
     intro s hs;cases hz:s.size with
     | zero =>
      have:(af_ R).any (fun s=>s.size==0)=true:=List.any_eq_true.2 ⟨s,hs,by simp[hz]⟩;rw[this] at hcond;simp at hcond
     | succ n=>omega
    have CL:=hid (my_ (K:=W.K) (L:=W.left) (fr:=W.fresh) (m:=L.n) U2.out P62.out HSL.out.2.small hnl hfr);unfold tv at CL;clear h2 hcond hnl hfr;cases hq:ge_ W.K L.n R with
    | error er =>
     rw[hq] at hst CL;simp only at hst;subst hst;unfold oW_ at CL;clear hq;go_wp2_with fail;refine CL.out.mono ?_;rintro en w2 ⟨rfl,hb2⟩;have G3:Hid (GB (XW wb kb v) w w2):=hid (G2.out.trans (GB.of_below (X:=XW wb kb v) hb2) fun _ _ h=>h);clear hb2;go_wp2;go_ret;exact⟨rfl,G3.out⟩
    | ok K' =>
     rw[hq] at hst CL;simp only at hst;subst hst;unfold oW_ at CL;clear hq;go_wp2_with fail;refine CL.out.mono ?_;rintro en w2 ⟨rfl,hu,hg⟩;have U3:=hid hu;have G3:Hid (GB (XW wb kb v) w w2):=hid (G2.out.trans hg fun _ _ h=>h);clear hu hg;go_wp2;go_ret;exact⟨rfl,_,v,ps,U3.out,G3.out,fun b e=>.inl e⟩
   ·have x2:(L.kind==2)=false:=by simp[h2]
    rw[if_neg h2] at hst;have HS8:=hid hst;clear h2 hst
    go_upto_region 8 with fail
    obtain⟨qn,hq1,hq2⟩:=m9_ L.name R.name
    go_cut [48] from 39 to 79 (fun s wx=>s=.bool (bs_ L R)∧wx=w1)
    case first =>
     have hname:eqN L.name R.name=qn:=by
      unfold eqN;cases qn with
      | true=>exact decide_eq_true (by rw[hq2.1 rfl])
      | false=>exact decide_eq_false fun h=>by have:=hq2.2 (ByteArray.ext h);cases this
     have FF:Hid (bs_ L R=(L.kind != R.kind || L.kind==1 || (!qn&&L.kind != 5) || L.args.length != R.args.length)):=hid (by unfold bs_;rw[hname]);clear hname hq2;have hlen:∀ q:Bool,(L.args.length != R.args.length)=q→((L.args.length:Int) != (R.args.length:Int))=q:=by
      intro q h;rw[← h]
      by_cases e:L.args.length=R.args.length
      ·simp[e]
      ·have:(L.args.length:Int)≠(R.args.length:Int):=by omega
       have h1:(L.args.length != R.args.length)=true:=by simpa using e
       have h2:((L.args.length:Int) != (R.args.length:Int))=true:=by simpa using this
       rw[h1,h2]
     cases y1:L.kind != R.kind with
     | true =>
      have FG:Hid (bs_ L R=true):=hid (by rw[FF.out,y1];rfl);go_wp2_with fail
      go_meet
      exact⟨by rw[FG.out],rfl⟩
     | false =>
      cases y2:L.kind==1 with
      | true =>
       have FG:Hid (bs_ L R=true):=hid (by rw[FF.out,y1,y2];rfl);go_wp2_with fail
       go_meet
       exact⟨by rw[FG.out],rfl⟩
      | false =>
       cases y5:L.args.length != R.args.length with
       | true =>
        have y6:=hlen _ y5;have FG:Hid (bs_ L R=true):=hid (by rw[FF.out,y1,y2,y5];simp);cases qn<;>(cases y4:L.kind != 5<;>(go_wp2_with fail;go_meet;exact⟨by rw[FG.out],rfl⟩))
       | false =>
        have y6:=hlen _ y5;have FG:Hid (bs_ L R=(!qn&&L.kind != 5)):=hid (by rw[FF.out,y1,y2,y5];simp);cases qn<;>(cases y4:L.kind != 5<;>(rw[y4] at FG;go_wp2_with fail;go_meet;exact⟨by rw[FG.out];rfl,rfl⟩))
    case rest =>
    obtain⟨rfl,hwx⟩:=hcut;subst hwx;have hst:=HS8.out
    by_cases hcl:bs_ L R=true
    ·rw[if_pos hcl] at hst
     injection hst with hst
     subst hst;rw[hcl];clear hcl HS8 hq1 hq2;go_wp2;go_ret;exact⟨rfl,G2.out⟩
    ·rw[if_neg hcl] at hst
     have hcf:bs_ L R=false:=by simpa using hcl
     rw[hcf];have hkk:L.kind=R.kind∧L.args.length=R.args.length:=by
      unfold bs_ at hcf;simp only[Bool.or_eq_false_iff,bne_eq_false_iff_eq] at hcf;exact⟨hcf.1.1.1,hcf.2⟩
     clear hcl hcf HS8 hq1 hq2 U1 P5 P6 TC CS TL2 G1 K5 K6 HB;have g1:=U2.out.wk.c2
     by_cases h5:L.kind=5
     ·have x5:(L.kind==5)=true:=by simp[h5]
      rw[if_pos h5] at hst
      split at hst
      next hcond =>
       simp only[Bool.and_eq_true] at hcond;injection hst with hst
       subst hst;have hfr:W.fresh<1000000:=of_decide_eq_true hcond.2;obtain⟨x,hx⟩:=kI_ HSL.out.1.1 h5;obtain⟨y,hy⟩:=kI_ HSL.out.2.1 (hkk.1 ▸ h5);have HX:=hid hx;have HY:=hid hy;have HSX:Hid (b5_ x):=hid (HSL.out.1.argS (by rw[hx];simp));have HSY:Hid (b5_ y):=hid (HSL.out.2.argS (by rw[hy];simp));have CI:=hid (ix_ (W.fresh:Int) (by omega) (by omega) _ TC2.out);have HFR:=hid hfr;have HDL:=hid (sA_ W.fresh);have HDS:=hid (fB_ W.fresh hfr);have hsz:=Lib.itoa_length_le (W.fresh:Int) (by omega) (by omega);rw[← ap_] at hsz;generalize ab_ (Lib.itoa (W.fresh:Int))=sa at *;clear hcond h5 hkk hx hy;go_wp2_with fail;refine CI.out.mono ?_;rintro en w2 ⟨rfl,hb2⟩;have U3:=hid (U2.out.low hb2);have TL3:Hid (∀ b,T1 b→w2.heap[b]? = wc.heap[b]?):=hid (fun b h=>hb2.block b (U2.out.t b h).1);have P53:=hid (P52.out.keep TL3.out);have P63:=hid (P62.out.keep TL3.out);have K52:=hid (K51.out.low hb2);have K62:=hid (K61.out.low hb2);have G3:Hid (GB (XW wb kb v) w w2):=hid (G2.out.trans (GB.of_below (X:=XW wb kb v) hb2) fun _ _ h=>h);have TC3:=hid (an_ TC2.out hb2);clear a0 a1 a2 a3 e0 e1 e2 e3 g1 hb2;have g1:=U3.out.wk.c2;have g2:=U3.out.wk.fz 2;have x7:(W.fresh:Int)<1000000:=(by omega);have x8:(0:Int)≤(W.fresh:Int):=by omega
       go_upto_region 13 with fail
       have U4:Hid (UM T1 n0 (w2.setCell ⟨wb,2,none⟩ (.int .i64 ((W.fresh:Int)+1))) wb kb ⟨W.K,W.left,W.fresh+1⟩ v ps):=hid (by
        have h:=U3.out.setf (W.fresh+1);rw[show ((W.fresh+1:Nat):Int)=(W.fresh:Int)+1 from by omega] at h;exact h)
       have OF:Hid (∀ b,b≠wb→(w2.setCell ⟨wb,2,none⟩ (.int .i64 ((W.fresh:Int)+1))).heap[b]? = w2.heap[b]?):=hid fun b hb=>av_ _ _ _ _ hb;have K53:Hid (B4 (w2.setCell ⟨wb,2,none⟩ (.int .i64 ((W.fresh:Int)+1))) b5 (.int .i64 L.kind) (.string L.name) (.int .i64 L.n) (.slice la L.args.length lc)):=hid ((OF.out b5 (by have:=HNB.out;omega)).trans K52.out);have K63:Hid (B4 (w2.setCell ⟨wb,2,none⟩ (.int .i64 ((W.fresh:Int)+1))) b6 (.int .i64 R.kind) (.string R.name) (.int .i64 R.n) (.slice ra R.args.length rc)):=hid ((OF.out b6 (by have:=HNB.out;omega)).trans K62.out);have P54:=hid (P53.out.keep fun b h=>OF.out b (U3.out.t b h).2.1);have P64:=hid (P63.out.keep fun b h=>OF.out b (U3.out.t b h).2.1);have G4:Hid (GB (XW wb kb v) w (w2.setCell ⟨wb,2,none⟩ (.int .i64 ((W.fresh:Int)+1)))):=hid (G3.out.trans (GB.set ⟨wb,2,none⟩ _ (.inl rfl)) fun _ _ h=>h);clear OF K52 K62 P53 P63 TL3 U3 TC3 g1 g2 x7 x8 CI;generalize w2.setCell ⟨wb,2,none⟩ (.int .i64 ((W.fresh:Int)+1))=w3 at *;have TC4:Hid (∀ W',Below w3.heap.size w3 W'→Tab W'):=hid fun W' hb=>HTAB.out _ ((G4.out.trans (GB.of_below (X:=XW wb kb v) hb) fun _ _ h=>h).below XLO.out HN0.out);have hds:=HDS.out;rw[← HDL.out] at hds;have T1L:Hid (∀ b,T1 b→b<w3.heap.size):=hid fun b h=>(U4.out.t b h).1;have CO1:Hid (∀ W',Below w3.heap.size w3 W'→Calls Tryz.prog 64 #[.agg #[.int .i64 L.kind,.string L.name,.int .i64 L.n,.slice la L.args.length lc],.string ({ data:=#[36] }++sa)] W' (TP T1 (opT L (br_ W.fresh)) W')):=hid fun W' hb=>by
        rw[← HDL.out];exact hL_ _ HX.out (P54.out.keep fun b h=>hb.block b (T1L.out b h)) (fun b h=>aU_ (T1L.out b h) hb.size) HSX.out hds (TC4.out _ hb)
       have CO2:Hid (∀ W',Below w3.heap.size w3 W'→Calls Tryz.prog 64 #[.agg #[.int .i64 R.kind,.string R.name,.int .i64 R.n,.slice ra R.args.length rc],.string ({ data:=#[36] }++sa)] W' (TP T1 (opT R (br_ W.fresh)) W')):=hid fun W' hb=>by
        rw[← HDL.out];exact hL_ _ HY.out (P64.out.keep fun b h=>hb.block b (T1L.out b h)) (fun b h=>aU_ (T1L.out b h) hb.size) HSY.out hds (TC4.out _ hb)
       have HD3:=hid (Below.refl w3.heap.size w3).drew;have kd5:=K53.out.low HD3.out;have kd6:=K63.out.low HD3.out;obtain⟨a0,a1,a2,a3⟩:=kd5.c03;obtain⟨e0,e1,e2,e3⟩:=kd6.c03;clear kd5 kd6 hds U2 G2 P52 P62 K51 K61 B1 TC2 G3;generalize ({ data:=#[36] } : ByteArray)++sa=dn at *
       go_region_law (first
        | (go_simp;go_at_call 64;(with_reducible refine (CO1.out _ HD3.out).mono ?_);rintro en w4 ⟨xa,xc,he,hA4,hb4⟩;unfold tv at he;subst he;have HX4:=hid (HD3.out.trans (hb4.mono HD3.out.size));have A4:=hid hA4;have k54:=K53.out.low HX4.out;have k64:=K63.out.low HX4.out;have a0:=k54.c0;have a1:=k54.c1;have a2:=k54.c2;have a3:=k54.c3;have e0:=k64.c0;have e1:=k64.c1;have e2:=k64.c2;have e3:=k64.c3;clear hA4 hb4 k54 k64)
        | (go_simp;go_at_call 64;(with_reducible refine (CO2.out _ HX4.out).mono ?_);rintro en w5 ⟨ya,yc,he,hA5,hb5⟩;unfold tv at he;subst he;have HX5:=hid (HX4.out.trans (hb5.mono HX4.out.size));have LY:=hid (sm_ U4.out HX4.out hb5 A4.out hA5 HN0.out HLEN.out G4.out.size);clear hA5 hb5)
        | (go_simp;go_at_call 32;(with_reducible refine LY.out.mono ?_);rintro en w6 ⟨v',ps',he,hu,hg,ho⟩;subst he;have HU6:=hid hu;have G6:=hid hg;have HO6:=hid ho;clear hu hg ho))
       all_goals
        go_wp2;go_ret;exact⟨rfl,_,_,_,HU6.out,(G4.out.trans (GB.of_below (X:=XW wb kb v) (HX5.out.alloc HX5.out.size _)) fun _ _ h=>h).trans G6.out fun _ _ h=>h,fun b e=>(HO6.out b e).imp id fun h=>bL_ (bL_ G4.out.size (HX5.out.alloc HX5.out.size _).size) h⟩
      ·cases hst
     ·have x5:(L.kind==5)=false:=by simp[h5]
      rw[if_neg h5] at hst;injection hst with hst
      subst hst;have HOK:=hid (hok _ rfl);have HLL:=hid hkk.2;have HB0:=hid (Below.refl wc.heap.size wc);have HSM:Hid (L.args.length≤1000000000000):=hid (sI_ HSL.out.1);clear h5 hkk;go_wp2_with fail
      go_loopw [8,112] (fun pv iv wr=>∃ (k:Nat) (ps':List (Value × Value)),iv=.int .i64 (k:Int)∧k≤L.args.length∧gm_ T1 wc.heap.size wr pv ((L.args.zip R.args).take k) ps'∧Below wc.heap.size wc wr) (fun _ iv _=>L.args.length - (intOf iv).toNat)
      case atStart=>exact⟨0,[],rfl,Nat.zero_le _,gm_.nil _ _ _,HB0.out⟩
      case round =>
       obtain⟨k,ps',rfl,hk,hE,hB⟩:=hrel;have z0:(0:Int)≤(k:Int):=(by omega);obtain⟨va,vc,rfl⟩:=aL_ hE.own;have k5r:=K51.out.low hB;have k6r:=K61.out.low hB;obtain⟨a0,a1,a2,a3⟩:=k5r.c03;obtain⟨e0,e1,e2,e3⟩:=k6r.c03;have T1L:Hid (∀ b,T1 b→b<wc.heap.size):=hid fun b h=>(U2.out.t b h).1;have VL:Hid (∀ b,(Value.slice va ((L.args.zip R.args).take k).length vc).ownBlock=some b→wc.heap.size≤b∧b<wr.heap.size):=hid fun b hb=>hE.own.lt b hb
       by_cases hi:k<L.args.length
       ·have hi':k<R.args.length:=by rw[← HLL.out];exact hi
        have z1:(k:Int)<(L.args.length:Int):=(by omega);have z2:(k:Int)<(R.args.length:Int):=(by omega);have zk:(k:Int)<1000000000000:=(by have:=HSM.out;omega);obtain⟨b1,off1,xa,xc,hla,hb1,⟨p0,p1,p2,p3⟩,hxa⟩:=P52.out.at_ hi;obtain⟨b2,off2,ya,yc,hra,hb2,⟨q0,q1,q2,q3⟩,hya⟩:=P62.out.at_ hi';have l1:=T1L.out b1 hb1;have l2:=T1L.out b2 hb2;have m0:=(hB.cell (p:=⟨b1,off1+k*4,none⟩) l1).trans p0;have m1:=(hB.cell (p:=⟨b1,off1+k*4+1,none⟩) l1).trans p1;have m2:=(hB.cell (p:=⟨b1,off1+k*4+2,none⟩) l1).trans p2;have m3:=(hB.cell (p:=⟨b1,off1+k*4+3,none⟩) l1).trans p3;have n1:=(hB.cell (p:=⟨b2,off2+k*4,none⟩) l2).trans q0;have n2:=(hB.cell (p:=⟨b2,off2+k*4+1,none⟩) l2).trans q1;have n3:=(hB.cell (p:=⟨b2,off2+k*4+2,none⟩) l2).trans q2;have n4:=(hB.cell (p:=⟨b2,off2+k*4+3,none⟩) l2).trans q3;have kT:∀ b,T1 b→wr.heap[b]? = wc.heap[b]? := fun b hT=>hB.block b (T1L.out b hT);have hEd:=hE.keep (w':=wr.drew) (fun b _=>mH_ wr b) fun b _=>mH_ wr b;have hlt:((L.args.zip R.args).take k).length=k:=by simp;omega
        have pa:=hEd.push (x:=(L.args[k],R.args[k])) hB.size (by rw[hlt];have:=HSM.out;omega) (fun b hT=>⟨aU_ (T1L.out b hT) hB.size,fun e=>by have:=(VL.out b e).1;have:=T1L.out b hT;omega⟩) ((hxa.keep kT).keep (B:=wr.drew) fun b _=>mH_ wr b) ((hya.keep kT).keep (B:=wr.drew) fun b _=>mH_ wr b);rw[he_] at pa;have PA:=hid pa;have ED:Hid ((L.args.zip R.args).take k++[(L.args[k],R.args[k])]=(L.args.zip R.args).take (k+1)):=hid (by
         rw[List.take_add_one,List.getElem?_eq_getElem (by simp;omega)];simp)
        have HB2:=hid (hB.trans ((Below.refl _ _).drew.mono hB.size));subst hla;subst hra;clear hE hB p0 p1 p2 p3 q0 q1 q2 q3 hxa hya l1 l2 kT hEd pa hlt k5r k6r;generalize L.args[k]=x at *;generalize R.args[k]=y at *;generalize ((L.args.zip R.args).take k).length=vn at *;go_wp2
        go_region_law (first
         | ((with_reducible show (if Region.wanted _ _=true then Oper.wp _ _ _ (World.drew (World.alloc _ _)) _ _ else _));refine ek_ (by rfl) _ _ _ (by rfl) (by rfl) (by rfl) PA.out ?_;rintro v7 w7 ⟨hr7,hg7,ho7,hl7⟩;have HR7:=hid hr7;have HG7:=hid hg7;clear hr7 hg7 ho7))
        all_goals
         go_wp2;go_roundw
         case rel=>exact⟨k+1,_,by go_num,by omega,by rw[← ED.out];exact HR7.out,HB2.out.grown HG7.out HB2.out.size fun b hb=>(VL.out b hb).1⟩
         case measure=>simp[intOf];omega
       ·have z1:¬ (k:Int)<(L.args.length:Int):=by omega
        have hk':(L.args.zip R.args).take k=L.args.zip R.args:=List.take_of_length_le (by rw[List.length_zip];omega);have hu:=U2.out.low hB;have hkl:=U2.out.klt;have hEq:=(hE.eqs (by rw[hk',List.length_zip];have:=HSM.out;omega)).mono (S':=fun b=>b<wr.heap.size∧¬ XW wb kb v b) fun b hb=>⟨(VL.out b hb).2,fun hx=>by
         have:=(VL.out b hb).1
         rcases hx with hx|hx|hx
         ·have:=hkl.1;omega
         ·have:=hkl.2.1;omega
         ·have:=hkl.2.2 _ hx;omega⟩
        have CLY:=hid (iu_ (K:=W.K) (L:=W.left) (fr:=W.fresh) hu hEq (by rw[hk'];have h:=HOK.out;rw[List.length_append] at h;omega) (bL_ HN0.out (bL_ G2.out.size hB.size)));rw[hk'] at CLY;have G5:Hid (GB (XW wb kb v) w wr):=hid (G2.out.trans (GB.of_below (X:=XW wb kb v) hB) fun _ _ h=>h);have Z5:=hid (bL_ G2.out.size hB.size);clear hE hB hu hkl hEq hi hk k5r k6r;unfold lM_ at CLY;rw[hk'];generalize (L.args.zip R.args).length=vn at *;generalize L.args.zip R.args=zs at *;go_wp2_with fail;refine CLY.out.mono ?_;rintro en w6 ⟨v',ps'',rfl,hu6,hg6,ho6⟩;have HU6:=hid hu6;have G6:=hid hg6;have HO6:=hid ho6;clear hu6 hg6 ho6;go_wp2;go_ret;exact⟨rfl,_,_,_,HU6.out,G5.out.trans G6.out fun _ _ h=>h,fun b e=>(HO6.out b e).imp id fun h=>bL_ Z5.out h⟩
end Go.Proofs.YtjecnionbjlncaaGreatDoor.Tp

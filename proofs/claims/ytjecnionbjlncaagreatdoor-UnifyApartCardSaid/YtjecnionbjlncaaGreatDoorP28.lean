/- Packed. -/
import Derived.Test.YtjecnionbjlncaaGreatDoorP27
set_option maxRecDepth 100000
set_option maxHeartbeats 6400000
namespace Go.Proofs.YtjecnionbjlncaaGreatDoor.Tp
open Go.RowKit
theorem qr_ (d:Nat)(nm:ByteArray)(u t:Ty)(S:Nat→Prop)(a ua:OA_)(c uc:Nat)(w:World)(ih:eY_ d)(hk:t.kind=5)(hne:t.name≠nm)(hnf:dM_ (ai_ u) t.name=true)(hg:aY_ t)(hgu:aY_ u)(hd:t.depth≤d+1)(hs:t.size≤50000000000)(hsu:u.size≤50000000000)
  (hA:aa_ S w (.slice a t.args.length c) t.args) (hU:aa_ S w (.slice ua u.args.length uc) u.args) (hS:∀ b,S b→b<w.heap.size) (hT:Tab w):Calls Tryz.prog 101 #[tv t a c,.string nm,tv u ua uc] w (TP S (eo_ (d+1) nm u t) w):=by
 obtain⟨x,hx,hx0⟩:=is_ hg.1 hk;obtain⟨b,off,a0,p0,rfl,hbS,hf4,hs0⟩:=rw_ hA hx;have hln:t.args.length=1:=by rw[hx];rfl
 have hx1:x∈t.args:=by rw[hx];simp
 have hgx:=aR_ hg x hx1;have hdx:x.depth≤d:=by have:=av_ _ hx1;rw[t.depth_eq] at hd;omega
 have hsx:x.size≤50000000000:=by have:=bx_ _ hx1;rw[t.size_eq] at hs;omega
 have hns:=((ci_ t).1 hg.2).1;have htn1:1≤t.name.size:=hns.1 hk;have htn2:t.name.size≤64:=hns.2;have R:=iR_ 5 t.name t.n (.slice (some ⟨b,off,none⟩) 1 c) nm u ua uc w;have hfx:=bk_ x;have hfu:=bk_ u;have hfs:=cu_ t.name (ai_ u++ai_ x++[t.name,nm]) (by simp;omega) htn1;have E:=hid (pk_ d nm u t x hk hne hnf hx0);have z2:=cb_ hne;have e0:=cell_of_row _ _ 0 _ _ _ R.hn;obtain⟨c0,c1,c2,c3⟩:=R.k4.c03;obtain⟨d0,d1,d2,d3⟩:=R.hu.c03;have hbl:=hS b hbS;have CFu:=hid (fun (W:World) (h:Below w.heap.size w W)=>dj_ u S ua uc W (hU.keep fun b hb=>h.block b (hS b hb)) (fun b hb=>ba_ (hS b hb) h.size) (by omega));have CFx:=hid (fun (W:World) (h:Below w.heap.size w W)=>dj_ x S a0 p0 W (hs0.keep fun b hb=>h.block b (hS b hb)) (fun b hb=>ba_ (hS b hb) h.size) (by omega));have SK:=hid (fun (W:World) (h:Below ((((w.alloc (.cells #[.int .i64 5,.string t.name,.int .i64 t.n,.slice (some ⟨b,off,none⟩) 1 c] 37)).alloc (.cells #[.string nm] 9)).alloc (.cells #[.int .i64 u.kind,.string u.name,.int .i64 u.n,.slice ua u.args.length uc] 37)).alloc (.cells #[.int .i64 0,.string ⟨#[]⟩,.int .i64 0,.slice none 0 0] 37)).heap.size ((((w.alloc (.cells #[.int .i64 5,.string t.name,.int .i64 t.n,.slice (some ⟨b,off,none⟩) 1 c] 37)).alloc (.cells #[.string nm] 9)).alloc (.cells #[.int .i64 u.kind,.string u.name,.int .i64 u.n,.slice ua u.args.length uc] 37)).alloc (.cells #[.int .i64 0,.string ⟨#[]⟩,.int .i64 0,.slice none 0 0] 37)) W)=>And.intro (R.k4.low h).c0 (And.intro (R.k4.low h).c1 (And.intro (R.hu.low h).c0 (And.intro (R.hu.low h).c1 (And.intro (R.hu.low h).c2 (R.hu.low h).c3)))));have SK2:=hid (fun (W:World) (h:Below ((((w.alloc (.cells #[.int .i64 5,.string t.name,.int .i64 t.n,.slice (some ⟨b,off,none⟩) 1 c] 37)).alloc (.cells #[.string nm] 9)).alloc (.cells #[.int .i64 u.kind,.string u.name,.int .i64 u.n,.slice ua u.args.length uc] 37)).alloc (.cells #[.int .i64 0,.string ⟨#[]⟩,.int .i64 0,.slice none 0 0] 37)).heap.size ((((w.alloc (.cells #[.int .i64 5,.string t.name,.int .i64 t.n,.slice (some ⟨b,off,none⟩) 1 c] 37)).alloc (.cells #[.string nm] 9)).alloc (.cells #[.int .i64 u.kind,.string u.name,.int .i64 u.n,.slice ua u.args.length uc] 37)).alloc (.cells #[.int .i64 0,.string ⟨#[]⟩,.int .i64 0,.slice none 0 0] 37)) W)=>And.intro (R.k4.low h).c1 (And.intro (R.k4.low h).c3 (And.intro (R.hu.low h).c0 (And.intro (R.hu.low h).c1 (And.intro (R.hu.low h).c2 (And.intro (R.hu.low h).c3 (And.intro ((h.cell (p:=⟨w.heap.size+1,0,none⟩) (by simp<;>omega)).trans e0)
  (And.intro (((R.low h).hz.cell (p:=⟨b,off,none⟩) hbl).trans hf4.1) (And.intro (((R.low h).hz.cell (p:=⟨b,off+1,none⟩) hbl).trans hf4.2.1) (And.intro (((R.low h).hz.cell (p:=⟨b,off+2,none⟩) hbl).trans hf4.2.2.1) (((R.low h).hz.cell (p:=⟨b,off+3,none⟩) hbl).trans hf4.2.2.2)))))))))))
 have RD:=hid ((Below.refl ((((w.alloc (.cells #[.int .i64 5,.string t.name,.int .i64 t.n,.slice (some ⟨b,off,none⟩) 1 c] 37)).alloc (.cells #[.string nm] 9)).alloc (.cells #[.int .i64 u.kind,.string u.name,.int .i64 u.n,.slice ua u.args.length uc] 37)).alloc (.cells #[.int .i64 0,.string ⟨#[]⟩,.int .i64 0,.slice none 0 0] 37)).heap.size ((((w.alloc (.cells #[.int .i64 5,.string t.name,.int .i64 t.n,.slice (some ⟨b,off,none⟩) 1 c] 37)).alloc (.cells #[.string nm] 9)).alloc (.cells #[.int .i64 u.kind,.string u.name,.int .i64 u.n,.slice ua u.args.length uc] 37)).alloc (.cells #[.int .i64 0,.string ⟨#[]⟩,.int .i64 0,.slice none 0 0] 37))).drew);have hLl:(ai_ u++ai_ x++[t.name,nm]).length≤4500000000000:=by simp;omega
 generalize hL:ai_ u++ai_ x++[t.name,nm]=L at *;have HL:=hid hL;clear hL;have RH:=hid R;have HT:=hid hT;have HS:=hid hS;have HU:=hid hU;have HNF:=hid hnf;have HF4:=hid hf4;unfold tv at *;rw[hln,hk];clear hg hd hs hA hS hT hx hx0 hln hx1 hf4 R hk hne hnf hns hU;go_enter Tryz.func101,Tryz.ntmps101;go_wp2
 go_region_held3 (fun w'=>w'.cell? ⟨w.heap.size,0,none⟩=some (.int .i64 5)∧w'.cell? ⟨w.heap.size,1,none⟩=some (.string t.name)∧w'.cell? ⟨w.heap.size+1+1,0,none⟩=some (.int .i64 u.kind)∧w'.cell? ⟨w.heap.size+1+1,1,none⟩=some (.string u.name)∧w'.cell? ⟨w.heap.size+1+1,2,none⟩=some (.int .i64 u.n)∧w'.cell? ⟨w.heap.size+1+1,3,none⟩=some (.slice ua u.args.length uc))
  (first|exact SK.out _ hB1|exact SK.out _ RD.out)
  (first
   | (go_at_call 41;refine (CFu.out _ RH.out.hz.drew).mono ?_;rintro e w1 ⟨v1,rfl,own1,len1,hb1⟩;have hB1:=RD.out.trans (hb1.mono (by simp));have cc:=hid (bP_ (aJ_.of_own own1 (by omega)) t.name))
   | (go_at_call 74;refine cc.out.mono ?_;rintro e w2 ⟨rfl,rfl⟩))
 rw[bs_,HNF.out];obtain⟨wa,hwa⟩:∃ wa:World,wa=w1:=⟨_,rfl⟩;subst hwa;have BA:=hid hB1;have sk:=SK2.out _ hB1;obtain⟨s0,s1,s2,s3,s4,s5,s6,s7,s8,s9,s10⟩:=sk;clear hb1 own1 len1 hB1 cc c0 c1 c2 c3 d0 d1 d2 d3 e0;go_wp2;have BD:=hid ((Below.refl wa.heap.size wa).drew);have BD2:=hid ((aw_ wa (.cells #[.string t.name,.string nm] 9)).drew);have KK:=hid (fun (W:World) (h:Below wa.heap.size wa W)=>SK2.out W (BA.out.trans (h.mono BA.out.size)));have BW:=hid (fun (W:World) (h:Below wa.heap.size wa W)=>RH.out.hz.trans ((BA.out.trans (h.mono BA.out.size)).mono RH.out.hz.size))
 go_region_held3 (fun w'=>w'.cell? ⟨w.heap.size,1,none⟩=some (.string t.name)∧w'.cell? ⟨w.heap.size,3,none⟩=some (.slice (some ⟨b,off,none⟩) 1 c)∧w'.cell? ⟨w.heap.size+1+1,0,none⟩=some (.int .i64 u.kind)∧w'.cell? ⟨w.heap.size+1+1,1,none⟩=some (.string u.name)∧w'.cell? ⟨w.heap.size+1+1,2,none⟩=some (.int .i64 u.n)∧w'.cell? ⟨w.heap.size+1+1,3,none⟩=some (.slice ua u.args.length uc)∧w'.cell? ⟨w.heap.size+1,0,none⟩=some (.string nm) ∧
   w'.cell? ⟨b,off,none⟩=some (.int .i64 x.kind)∧w'.cell? ⟨b,off+1,none⟩=some (.string x.name)∧w'.cell? ⟨b,off+2,none⟩=some (.int .i64 x.n)∧w'.cell? ⟨b,off+3,none⟩=some (.slice a0 x.args.length p0))
  (first|exact KK.out _ hB4|exact KK.out _ hB3|exact KK.out _ ((hB2.alloc hB2.size _).alloc (hB2.alloc hB2.size _).size _)|exact KK.out _ (hB2.alloc hB2.size _)|exact KK.out _ hB2|exact KK.out _ (hB1.alloc hB1.size _)|exact KK.out _ hB1|exact KK.out _ BD2.out|exact KK.out _ BD.out)
  (first
   | (go_at_call 41;have _t:=own1;(with_reducible refine (CFx.out _ (BW.out _ hB1)).mono ?_);rintro e w2 ⟨v2,rfl,own2,len2,hb2⟩;obtain⟨ya2,yc2,rfl⟩:=aG_ own2;have hB2:=hB1.trans (hb2.mono hB1.size);first|(have _u:=tkF;skip)|(have tkL:=True.intro;skip))
   | (go_at_call 41;have _t:=own1;(with_reducible refine (CFx.out _ (BW.out _ (hB1.alloc hB1.size (.cells #[.string t.name,.string nm] 9)))).mono ?_);rintro e w2 ⟨v2,rfl,own2,len2,hb2⟩;obtain⟨ya2,yc2,rfl⟩:=aG_ own2;have hB2:=(hB1.alloc hB1.size (.cells #[.string t.name,.string nm] 9)).trans (hb2.mono (hB1.alloc hB1.size (.cells #[.string t.name,.string nm] 9)).size);have tkM:=True.intro)
   | (go_at_call 41;(with_reducible refine (CFu.out _ (BW.out _ BD.out)).mono ?_);rintro e w1 ⟨v1,rfl,own1,len1,hb1⟩;obtain⟨ya1,yc1,rfl⟩:=aG_ own1;have hB1:=BD.out.trans (hb1.mono BD.out.size))
   | (go_at_call 41;(with_reducible refine (CFu.out _ (BW.out _ BD2.out)).mono ?_);rintro e w1 ⟨v1,rfl,own1,len1,hb1⟩;obtain⟨ya1,yc1,rfl⟩:=aG_ own1;have hB1:=BD2.out.trans (hb1.mono BD2.out.size);have tkF:=True.intro)
   | (go_at_call 87;have _t:=tkF;refine (ej_ HL.out (b3:=wa.heap.size) (N:=w2.heap.size) (p:=t.name) (q:=nm) rfl own1 hb2 own2 (Below.refl _ _) ((hb2.block _ (ba_ (by simp) hb1.size)).trans ((hb1.block _ (by simp)).trans (ah_ (by simp)))) (by omega)).mono ?_;rintro e w3 ⟨v3,rfl,own3,hb3⟩;obtain⟨ya3,yc3,rfl⟩:=aG_ own3;have hB3:=(hB2.alloc hB2.size _).trans (hb3.mono (hB2.alloc hB2.size _).size))
   | (go_at_call 87;have _t:=tkM;refine (ej_ HL.out (b3:=w1.heap.size) (N:=w2.heap.size) (p:=t.name) (q:=nm) rfl own1 ((aw_ w1 _).trans (hb2.mono (by simp))) own2 (Below.refl _ _) ((hb2.block _ (by simp)).trans (heap_alloc_new w1 _)) (by omega)).mono ?_;rintro e w3 ⟨v3,rfl,own3,hb3⟩;obtain⟨ya3,yc3,rfl⟩:=aG_ own3;have hB3:=(hB2.alloc hB2.size _).trans (hb3.mono (hB2.alloc hB2.size _).size))
   | (go_at_call 87;have _t:=tkL;refine (ej_ HL.out (b3:=w2.heap.size) (N:=w2.heap.size+1) (p:=t.name) (q:=nm) (by simp) own1 (hb2.alloc hb2.size _) own2 (aw_ w2 _) (heap_alloc_new w2 _) (by omega)).mono ?_;rintro e w3 ⟨v3,rfl,own3,hb3⟩;obtain⟨ya3,yc3,rfl⟩:=aG_ own3;have hB3:=((hB2.alloc hB2.size _).alloc (hB2.alloc hB2.size _).size _).trans (hb3.mono ((hB2.alloc hB2.size _).alloc (hB2.alloc hB2.size _).size _).size))
   | (go_at_call 86;refine (gF_ t.name htn1 _ _ L _ (aJ_.of_own own3 hLl) (fun b hb=>(own3.lt b hb).2) (ag_ HT.out (BW.out _ hB3))).mono ?_;rintro e w4 ⟨rfl,hb4⟩;have hB4:=hB3.trans (hb4.mono hB3.size)))
 all_goals
  have R4:=hid (RH.out.low ((BA.out.trans (hB4.mono BA.out.size))));clear hb1 hb2 hb3 hb4 hB1 hB2 hB3 hB4 own1 own2 own3 len1 len2 s0 s1 s2 s3 s4 s5 s6 s7 s8 s9 s10 KK BD BD2 BW BA;generalize hfn:a2_ t.name L=fn at *;clear hfn;have RD4:=hid (R4.out.low (Below.refl w4.heap.size w4).drew);have KP:=hid (cY_ t.name fn x hgx hfs.2 (by omega));have CR:=hid (fun (W:World) (h:Below w.heap.size w W)=>jw_ t.name fn x S a0 p0 W hgx (by omega) htn2 hfs.2 (hs0.keep fun b hb=>h.block b (HS.out b hb)) (fun b hb=>ba_ (HS.out b hb) h.size) (ag_ HT.out h));have CT:=hid (fun (W9:World) (a9:OA_) (c9:Nat) (R9:eK_ 5 t.name t.n (.slice (some ⟨b,off,none⟩) 1 c) nm u ua uc w W9) (hA9:aa_ (fun b=>S b∨w.heap.size+4≤b∧b<W9.heap.size) W9 (.slice a9 (b9_ t.name fn x).args.length c9) (b9_ t.name fn x).args) =>
   oo_ d ih nm fn u (b9_ t.name fn x) S ua a9 uc c9 _ _ _ _ w W9 R9 KP.out.2.2.1 hgu hfs.1 hfs.2 (by rw[KP.out.1];exact hdx) (by rw[KP.out.2.1];exact hsx) hsu hA9 HU.out HS.out HT.out)
  obtain⟨f0,f1,f2,f3⟩:=HF4.out.keep (RD4.out.hz.block b hbl);have d1:=RD4.out.k4.c1;have d3:=RD4.out.k4.c3;go_wp2
  go_region_with ((go_at_call 75;refine (CR.out _ RD4.out.hz).mono ?_;rintro e w9 ⟨a9,c9,rfl,hA9,hb9⟩;have R9:=hid (RD4.out.low hb9);have k9:=R9.out.k4;have g0:=k9.c0;have g1:=k9.c1;have g2:=k9.c2;have g3:=k9.c3;have n0:=k9.fr 0;have n1:=k9.fr 1;have n2:=k9.fr 2;have n3:=k9.fr 3;have k10:=k9.low (aw_ _ (.cells #[.int .i64 (b9_ t.name fn x).kind,.string (b9_ t.name fn x).name,.int .i64 (b9_ t.name fn x).n,.slice a9 (b9_ t.name fn x).args.length c9] 37));have h0:=k10.c0;have h1:=k10.c1;have h2:=k10.c2;have h3:=k10.c3;have m0:=k10.fr 0;have m1:=k10.fr 1;have m2:=k10.fr 2;have m3:=k10.fr 3;have HA9:=hid (hA9.mono fun b h=>h.imp id fun h=>And.intro (cj_ RD4.out.size h.1) h.2);clear k9 k10 hA9 hb9;unfold tv))
  all_goals
   go_wp2_with fail;refine (CT.out _ _ _ R9.out HA9.out).mono ?_;rintro e W2 ⟨a2,c2,rfl,hA2,hb2,q2⟩;obtain⟨r0,r1,r2,r3⟩:=q2.c03;obtain⟨v0,v1,v2,v3⟩:=q2.f03;have HA2:=hid hA2;have HB2:=hid hb2;clear hA2 hb2 g0 g1 g2 g3 h0 h1 h2 h3 n0 n1 n2 n3 m0 m1 m2 m3 f0 f1 f2 f3 d1 d3;generalize bb_ (bR_ fn (b9_ t.name fn x)) [eo_ d nm u (b9_ t.name fn x)]=y at *;unfold tv;go_wp2;have q5:=B4.set4 q2 (.int .i64 y.kind) (.string y.name) (.int .i64 y.n) (.slice a2 y.args.length c2);exact bodyPost_ret (v:=tv y a2 c2) (by simp[results,Tryz.results101,go_sem,tv,q5.c0,q5.c1,q5.c2,q5.c3]) rfl (by rw[E.out];exact nv_ HS.out HA2.out HB2.out)
theorem oq_:∀ d:Nat,eY_ d:=by
 intro d
 induction d with
 | zero=>intro nm u t S a ua c uc W hg hgu h;rw[t.depth_eq] at h;omega
 | succ d ih =>
  intro nm u t S a ua c uc W hg hgu hd hs hsu hA hU hS hT
  by_cases h5:t.kind=5
  ·by_cases hn:t.name=nm
   ·exact op_ d nm u t S a ua c uc W h5 hn hA hS
   ·cases hf:dM_ (ai_ u) t.name with
    | false=>exact os_ d nm u t S a ua c uc W ih h5 hn hf hg hgu hd hs hsu hA hU hS hT
    | true=>exact qr_ d nm u t S a ua c uc W ih h5 hn hf hg hgu hd hs hsu hA hU hS hT
  ·by_cases h1:t.kind=1∧t.name=nm
   ·exact qq_ d nm u t S a ua c uc W h1.1 h1.2 hU hS
   ·exact mC_ d nm u t S a ua c uc W ih h5 (fun h e=>h1 ⟨h,e⟩) hg hgu hd hs hsu hA hU hS hT
theorem qs_ (nm:ByteArray)(u t:Ty)(S:Nat→Prop)(a ua:OA_)(c uc:Nat)(W:World)(hg:aY_ t)(hgu:aY_ u)(hs:t.size≤50000000000)(hsu:u.size≤50000000000)
  (hA:aa_ S W (.slice a t.args.length c) t.args) (hU:aa_ S W (.slice ua u.args.length uc) u.args) (hS:∀ b,S b→b<W.heap.size) (hT:Tab W):Calls Tryz.prog 101 #[tv t a c,.string nm,tv u ua uc] W (TP S (f6_ nm u t) W) :=
 oq_ t.depth nm u t S a ua c uc W hg hgu (aC_ _) hs hsu hA hU hS hT
theorem nj_:∀ d:Nat,eB_ d:=by
 intro d
 induction d with
 | zero=>intro u t free is fv isv S Sf a ua c uc W hg hgu h;rw[t.depth_eq] at h;omega
 | succ d ih =>
  intro u t free is fv isv S Sf a ua c uc W hg hgu hd hs hsu hsf hA hU hF hI hS hSf hT;cases his:is t with
  | true=>exact qZ_ d u t free is fv isv S Sf a ua c uc W his hU hF hI hS
  | false =>
   by_cases h5:t.kind=5
   ·cases hf:dM_ free t.name with
    | false=>exact hA_ d u t free is fv isv S Sf a ua c uc W ih his (fun _=>hf) hg hgu hd hs hsu hsf hA hU hF hI hS hSf hT
    | true=>exact o4_ d u t free is fv isv S Sf a ua c uc W ih his h5 hf hg hgu hd hs hsu hsf hA hU hF hI hS hSf hT
   ·exact hA_ d u t free is fv isv S Sf a ua c uc W ih his (fun h=>absurd h h5) hg hgu hd hs hsu hsf hA hU hF hI hS hSf hT
theorem jX_ (args:Array Value)(w:World):(callFunc 50 args).run Tryz.prog w=.ok (.enter 50 args) w :=
 enters_of Tryz.func50 (by kernel_rfl) rfl args w
theorem nb_ (n:Int)(x:Ty):bj_ n x=((x.kind==2)&&(x.n==n)):=rfl
theorem nl_ (n:Int)(bn:Nat)(x:Ty)(a:OA_)(c:Nat)(W:World)(hn:W.heap[bn]? = some (.cells #[.int .i64 n] 3 (0,0))):Calls Tryz.prog 50 #[tv x a c,.pointer (some ⟨bn,0,none⟩)] W fun e W'=>e=.returned (.bool (bj_ n x))∧Below W.heap.size W W':=by
 have hz:=aw_ W (.cells #[.int .i64 x.kind,.string x.name,.int .i64 x.n,.slice a x.args.length c] 37);have k4:=B4.new W (.int .i64 x.kind) (.string x.name) (.int .i64 x.n) (.slice a x.args.length c);obtain⟨c0,c1,c2,c3⟩:=k4.c03;have e0:=(hz.cell (p:=⟨bn,0,none⟩) (Array.getElem?_eq_some_iff.1 hn).1).trans (cell_of_row _ _ 0 _ _ _ hn);have HZ:=hid hz;rw[nb_];unfold tv at *;clear hz k4 hn;cases z:(x.kind==2) with
 | true =>
  go_enter Tryz.func50,Tryz.ntmps50;go_wp2;go_ret;exact⟨by simp,HZ.out⟩
 | false =>
  go_enter Tryz.func50,Tryz.ntmps50;go_wp2;go_ret;exact⟨by simp,HZ.out⟩
structure g7_ (t u:Ty)(n:Int)(a ua:OA_)(c uc:Nat)(w W:World):Prop where
 hz:Below w.heap.size w W
 k4:B4 W w.heap.size (.int .i64 t.kind) (.string t.name) (.int .i64 t.n) (.slice a t.args.length c)
 hn:W.heap[w.heap.size+1]? = some (.cells #[.int .i64 n] 3 (0,0))
 hu:B4 W (w.heap.size+2) (.int .i64 u.kind) (.string u.name) (.int .i64 u.n) (.slice ua u.args.length uc)
 q4:B4 W (w.heap.size+3) (.int .i64 0) (.string ⟨#[]⟩) (.int .i64 0) (.slice none 0 0)
 size:w.heap.size+4≤W.heap.size
theorem sk_ (t u:Ty)(n:Int)(a ua:OA_)(c uc:Nat)(w:World):g7_ t u n a ua c uc w ((((w.alloc (.cells #[.int .i64 t.kind,.string t.name,.int .i64 t.n,.slice a t.args.length c] 37)).alloc (.cells #[.int .i64 n] 3)).alloc (.cells #[.int .i64 u.kind,.string u.name,.int .i64 u.n,.slice ua u.args.length uc] 37)).alloc (.cells #[.int .i64 0,.string ⟨#[]⟩,.int .i64 0,.slice none 0 0] 37)):=by
 refine⟨bO_ _ _ _ _ _,?_,?_,?_,ah_ (by simp),by simp⟩
 ·exact (((B4.new w _ _ _ _).low (aw_ _ _)).low (aw_ _ _)).low (aw_ _ _)
 ·rw[heap_alloc_old _ _ (by simp),heap_alloc_old _ _ (by simp)]
  exact ah_ (by simp)
 ·unfold B4
  rw[heap_alloc_old _ _ (by simp)];exact ah_ (by simp)
theorem g7_.low {t u:Ty}{n:Int}{a ua:OA_}{c uc:Nat}{w W W':World}(R:g7_ t u n a ua c uc w W)(h:Below W.heap.size W W'):g7_ t u n a ua c uc w W':=by
 have:=R.size;exact⟨R.hz.trans (h.mono R.hz.size),R.k4.low h,(h.block _ (by omega)).trans R.hn,R.hu.low h,R.q4.low h,cj_ R.size h.size⟩
theorem B4.of_block {W W':World}{b:Nat}{p q r s:Value}(h:W'.heap[b]? = W.heap[b]?)(k:B4 W b p q r s):B4 W' b p q r s:=h.trans k
theorem nk_ (n:Int)(u t:Ty)(S:Nat→Prop)(a ua:OA_)(c uc:Nat)(w:World)(hg:aY_ t)(hgu:aY_ u)(hs:t.size≤50000000000)(hsu:u.size≤50000000000)
  (hA:aa_ S w (.slice a t.args.length c) t.args) (hU:aa_ S w (.slice ua u.args.length uc) u.args) (hS:∀ b,S b→b<w.heap.size) (hT:Tab w):Calls Tryz.prog 21 #[tv t a c,.int .i64 n,tv u ua uc] w (TP S (bH_ n u t) w):=by
 have R:=sk_ t u n a ua c uc w;have hfu:=bk_ u;obtain⟨c0,c1,c2,c3⟩:=R.k4.c03;obtain⟨d0,d1,d2,d3⟩:=R.hu.c03;have RD:=R.low ((Below.refl _ _).drew);obtain⟨x0,x1,x2,x3⟩:=RD.k4.c03;obtain⟨y0,y1,y2,y3⟩:=RD.hu.c03;have CF:=hid (fun (W:World) (h:Below w.heap.size w W)=>dj_ u S ua uc W (hU.keep fun b hb=>h.block b (hS b hb)) (fun b hb=>ba_ (hS b hb) h.size) (by omega));have CP:=hid (fun (W:World) (R:g7_ t u n a ua c uc w W) (v:Value) (lo:Nat) (own:W.ownsRow lo 9 1 v (ai_ u).length ((ai_ u).map Value.string))=>nj_ t.depth u t (ai_ u) (bj_ n) v (.func (.func 50) #[] #[.pointer (some ⟨w.heap.size+1,0,none⟩)]) S _ a ua c uc W hg hgu (aC_ _) hs hsu (by omega)
  (hA.keep fun b hb=>R.hz.block b (hS b hb)) (hU.keep fun b hb=>R.hz.block b (hS b hb)) (aJ_.of_own own (by omega)) ⟨_,_,rfl,jX_,fun x a' c' W' h'=>nl_ n _ x a' c' W' ((R.low h').hn)⟩ (fun b hb=>ba_ (hS b hb) R.hz.size) (fun b hb=>(own.lt b hb).2) (ag_ hT R.hz))
 have HS:=hid hS;have RH:=hid R;have HRD:=hid RD;unfold bH_;unfold tv at *;clear R RD hg hgu hs hsu hA hU hS hT;go_enter Tryz.func21,Tryz.ntmps21;go_wp2;have KD:Hid (∀ (W:World),g7_ t u n a ua c uc w W→(W.cell? ⟨w.heap.size,0,none⟩=some (.int .i64 t.kind)∧W.cell? ⟨w.heap.size,1,none⟩=some (.string t.name)∧W.cell? ⟨w.heap.size,2,none⟩=some (.int .i64 t.n)∧W.cell? ⟨w.heap.size,3,none⟩=some (.slice a t.args.length c)∧W.cell? ⟨w.heap.size+1+1,0,none⟩=some (.int .i64 u.kind)∧W.cell? ⟨w.heap.size+1+1,1,none⟩=some (.string u.name)∧W.cell? ⟨w.heap.size+1+1,2,none⟩=some (.int .i64 u.n)∧W.cell? ⟨w.heap.size+1+1,3,none⟩=some (.slice ua u.args.length uc))):=hid (fun W R=>⟨R.k4.c0,R.k4.c1,R.k4.c2,R.k4.c3,R.hu.c0,R.hu.c1,R.hu.c2,R.hu.c3⟩);have KX:Hid (∀ (W:World),g7_ t u n a ua c uc w W→∀ (p q r s:Value),(((((W.setCell ⟨w.heap.size+1+1+1,0,none⟩ p).setCell ⟨w.heap.size+1+1+1,1,none⟩ q).setCell ⟨w.heap.size+1+1+1,2,none⟩ r).setCell ⟨w.heap.size+1+1+1,3,none⟩ s).cell? ⟨w.heap.size,0,none⟩=some (.int .i64 t.kind)∧((((W.setCell ⟨w.heap.size+1+1+1,0,none⟩ p).setCell ⟨w.heap.size+1+1+1,1,none⟩ q).setCell ⟨w.heap.size+1+1+1,2,none⟩ r).setCell ⟨w.heap.size+1+1+1,3,none⟩ s).cell? ⟨w.heap.size,1,none⟩=some (.string t.name)∧((((W.setCell ⟨w.heap.size+1+1+1,0,none⟩ p).setCell ⟨w.heap.size+1+1+1,1,none⟩ q).setCell ⟨w.heap.size+1+1+1,2,none⟩ r).setCell ⟨w.heap.size+1+1+1,3,none⟩ s).cell? ⟨w.heap.size,2,none⟩=some (.int .i64 t.n)∧((((W.setCell ⟨w.heap.size+1+1+1,0,none⟩ p).setCell ⟨w.heap.size+1+1+1,1,none⟩ q).setCell ⟨w.heap.size+1+1+1,2,none⟩ r).setCell ⟨w.heap.size+1+1+1,3,none⟩ s).cell? ⟨w.heap.size,3,none⟩=some (.slice a t.args.length c)∧((((W.setCell ⟨w.heap.size+1+1+1,0,none⟩ p).setCell ⟨w.heap.size+1+1+1,1,none⟩ q).setCell ⟨w.heap.size+1+1+1,2,none⟩ r).setCell ⟨w.heap.size+1+1+1,3,none⟩ s).cell? ⟨w.heap.size+1+1,0,none⟩=some (.int .i64 u.kind)∧((((W.setCell ⟨w.heap.size+1+1+1,0,none⟩ p).setCell ⟨w.heap.size+1+1+1,1,none⟩ q).setCell ⟨w.heap.size+1+1+1,2,none⟩ r).setCell ⟨w.heap.size+1+1+1,3,none⟩ s).cell? ⟨w.heap.size+1+1,1,none⟩=some (.string u.name)∧((((W.setCell ⟨w.heap.size+1+1+1,0,none⟩ p).setCell ⟨w.heap.size+1+1+1,1,none⟩ q).setCell ⟨w.heap.size+1+1+1,2,none⟩ r).setCell ⟨w.heap.size+1+1+1,3,none⟩ s).cell? ⟨w.heap.size+1+1,2,none⟩=some (.int .i64 u.n)∧((((W.setCell ⟨w.heap.size+1+1+1,0,none⟩ p).setCell ⟨w.heap.size+1+1+1,1,none⟩ q).setCell ⟨w.heap.size+1+1+1,2,none⟩ r).setCell ⟨w.heap.size+1+1+1,3,none⟩ s).cell? ⟨w.heap.size+1+1,3,none⟩=some (.slice ua u.args.length uc))):=hid (fun W R p q r s=>by
  have h:=a7_ W (w.heap.size+1+1+1) p q r s;have k:=B4.of_block (h.off w.heap.size (by omega)) R.k4;have l:=B4.of_block (h.off (w.heap.size+2) (by omega)) R.hu;exact⟨k.c0,k.c1,k.c2,k.c3,l.c0,l.c1,l.c2,l.c3⟩)
 clear x0 x1 x2 x3 y0 y1 y2 y3
 go_region_held3 (fun w'=>w'.cell? ⟨w.heap.size,0,none⟩=some (.int .i64 t.kind)∧w'.cell? ⟨w.heap.size,1,none⟩=some (.string t.name)∧w'.cell? ⟨w.heap.size,2,none⟩=some (.int .i64 t.n)∧w'.cell? ⟨w.heap.size,3,none⟩=some (.slice a t.args.length c)∧w'.cell? ⟨w.heap.size+1+1,0,none⟩=some (.int .i64 u.kind)∧w'.cell? ⟨w.heap.size+1+1,1,none⟩=some (.string u.name)∧w'.cell? ⟨w.heap.size+1+1,2,none⟩=some (.int .i64 u.n)∧w'.cell? ⟨w.heap.size+1+1,3,none⟩=some (.slice ua u.args.length uc))
  (first|(with_reducible exact KX.out _ R2.out _ _ _ _)|(with_reducible exact KD.out _ R2.out)|(with_reducible exact KD.out _ R1.out)|(with_reducible exact KD.out _ HRD.out))
  (first
   | (go_at_call 41;refine (CF.out _ HRD.out.hz).mono ?_;rintro e w1 ⟨v1,rfl,own1,len1,hb1⟩;obtain⟨ya1,yc1,rfl⟩:=aG_ own1;have R1:=hid (HRD.out.low hb1);have CP1:=hid (CP.out _ R1.out _ _ own1);clear hb1 own1)
   | (go_at_call 49;refine CP1.out.mono ?_;rintro e W2 ⟨a2,c9,rfl,hA2,hb2⟩;have q4:=R1.out.q4.low hb2;have R2:=hid (R1.out.low hb2);have r0:=q4.c0;have r1:=q4.c1;have r2:=q4.c2;have r3:=q4.c3;have v0:=q4.fr 0;have v1:=q4.fr 1;have v2:=q4.fr 2;have v3:=q4.fr 3;have HA2:=hid hA2;have HB2:=hid hb2;have Q4:=hid q4;clear hA2 hb2 q4;unfold tv))
 all_goals
  clear CP CF CP1 KD KX c0 c1 c2 c3 d0 d1 d2 d3;generalize d3_ t.depth u (ai_ u) (bj_ n) t=y at *;go_wp2;have q5:=B4.set4 Q4.out (.int .i64 y.kind) (.string y.name) (.int .i64 y.n) (.slice a2 y.args.length c9);exact bodyPost_ret (v:=tv y a2 c9) (by simp[results,Tryz.results21,go_sem,tv,q5.c0,q5.c1,q5.c2,q5.c3]) rfl (TP.stored HS.out R1.out.hz HA2.out HB2.out (by omega) (by have:=R1.out.size;omega))
end Go.Proofs.YtjecnionbjlncaaGreatDoor.Tp

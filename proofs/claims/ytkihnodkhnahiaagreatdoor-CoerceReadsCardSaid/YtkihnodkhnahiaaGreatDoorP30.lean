/- Packed. -/
import Derived.Test.YtkihnodkhnahiaaGreatDoorP29
import Derived.Test.YtkihnodkhnahiaaGreatDoorP20
import Derived.Test.YtkihnodkhnahiaaGreatDoorP28
set_option maxRecDepth 100000
set_option maxHeartbeats 6400000
namespace Go.Proofs.YtkihnodkhnahiaaGreatDoor.Tp
section
open Go.RowKit
open Lx
theorem kZ_ {l:List UInt8}{ts:List Tok}{p er:Nat}(h:bI_ l=(ts,p,er)):bF_ l=if er≠0 then .error er else match eo_ ts with
  | none=>.error 20
  | some (t,r)=>if r≠[] then .error 20 else if 50<t.depth then .error 3 else .ok t:=by
 rw[bF_,h];rfl
def jL_ (w:World)(res:Except Nat Ty)(e:Ending)(w':World):Prop :=
 Below w.heap.size w w'∧match res with
 | .error er=>e=.returned (.tuple #[zv,.int .i64 er])
 | .ok t=>∃ a c,e=.returned (.tuple #[tv t a c,.int .i64 0])∧ac_ (In w.heap.size w'.heap.size) w' (.slice a t.args.length c) t.args
theorem nz_ (w:World)(s:ByteArray)(hs:s.size≤maxLen):Calls Tryz.prog 14 #[.string s] w (jL_ w (bF_ s.data.toList)):=by
 have C:=hid (kO_ s (w.alloc (.cells #[.int .i64 0,.string ByteArray.empty,.int .i64 0,.slice none 0 0] 30)) hs);have b4:=hid (B4.new w (.int .i64 0) (.string ByteArray.empty) (.int .i64 0) (.slice none 0 0));have HZ:=hid (ao_ w (.cells #[.int .i64 0,.string ByteArray.empty,.int .i64 0,.slice none 0 0] 30));have hok:=hid (lC_ s.data.toList);have hlen:=ca_ s.data.toList
 rcases hsc:bI_ s.data.toList with ⟨ts,p,er⟩
 have hP:=kZ_ hsc;rw[hsc] at hok hlen;have HSC:=hid hsc;have HP:=hid hP;clear hsc hP;go_enter Tryz.func14,Tryz.ntmps14;go_wp2_with fail;refine C.out.mono ?_;rintro e w1 ⟨v,rfl,hb,ho⟩;rw[HSC.out] at ho ⊢;have k4:=b4.out.low hb;obtain⟨c0,c1,c2,c3⟩:=k4.c03;obtain⟨f0,f1,f2,f3⟩:=k4.f03;have K4:=hid k4;have hb1:=HZ.out.trans (hb.mono (by simp));have B1:=hid hb1;obtain⟨va,vc,rfl⟩:=a2_ ho;have OW:=hid ho;have hw01:Hid (w.heap.size+1≤w1.heap.size):=hid (by have:=hb.size;simpa using this);clear k4 hb ho hb1
 by_cases her:er=0
 ·subst her
  have HP1:=HP.out;rw[if_neg (by simp)] at HP1;have RC:=hid (pi_ w1 va vc ts (c4_ OW.out) (fun b o e=>(OW.out.lt b (by rw[e];rfl)).2) hok.out hlen);have HP2:=hid HP1;clear HP1;go_wp2_with fail;refine RC.out.mono ?_;rintro e w2 ⟨hb2,hres⟩;have k5:=K4.out.low hb2;have K5:=hid k5;have B2:=hid hb2;cases hT:eo_ ts with
  | none =>
   rw[hT] at hres;subst hres;have E:Hid (bF_ s.data.toList=.error 20):=hid (by rw[HP2.out,hT]);have hz:=ao_ w2 (.cells #[.int .i64 0,.string ⟨#[]⟩,.int .i64 0,.slice none 0 0] 30);have k6:=k5.low hz;have K6:=hid k6;have G6:=hid (B1.out.trans ((hb2.trans (hz.mono hb2.size)).mono B1.out.size));obtain⟨d0,d1,d2,d3⟩:=k6.c03;obtain⟨h0,h1,h2,h3⟩:=k6.f03;clear hT k5 hb2 hz k6;unfold zv;go_wp2;have q4:=K6.out.set4 (.int .i64 0) (.string ⟨#[]⟩) (.int .i64 0) (.slice none 0 0);have g4:=((((G6.out.setCell (p:=⟨w.heap.size,0,none⟩) (by simp) (.int .i64 0)).setCell (p:=⟨w.heap.size,1,none⟩) (by simp) (.string ⟨#[]⟩)).setCell (p:=⟨w.heap.size,2,none⟩) (by simp) (.int .i64 0)).setCell (p:=⟨w.heap.size,3,none⟩) (by simp) (.slice none 0 0));refine bodyPost_ret (v:=.tuple #[zv,.int .i64 20]) (by simp[results,Tryz.results14,go_sem,zv,q4.c0,q4.c1,q4.c2,q4.c3]) rfl ?_;rw[E.out];exact⟨g4,rfl⟩
  | some x =>
   obtain⟨t,r⟩:=x;rw[hT] at hres;obtain⟨a1,c,a2,c2,rfl,hA,hR⟩:=hres;have hz:=ao_ w2 (.cells #[.int .i64 t.kind,.string t.name,.int .i64 t.n,.slice a1 t.args.length c] 30);have k6:=k5.low hz;have kt:=B4.new w2 (.int .i64 t.kind) (.string t.name) (.int .i64 t.n) (.slice a1 t.args.length c);have K6:=hid k6;have G6:=hid (B1.out.trans ((hb2.trans (hz.mono hb2.size)).mono B1.out.size));have A6:=hid (hA.keep (fun b hb=>hz.block b hb.2));have hdp:t.depth≤4000:=(by have:=(deep _).1 _ _ _ hT;omega);have hE2:bF_ s.data.toList=if r≠[] then .error 20 else if 50<t.depth then .error 3 else .ok t:=(by rw[HP2.out,hT]);obtain⟨d0,d1,d2,d3⟩:=k6.c03;obtain⟨h0,h1,h2,h3⟩:=k6.f03;obtain⟨t0,t1,t2,t3⟩:=kt.c03;clear hT k5 hb2 hz k6 kt hA hR;unfold tv
   by_cases hr:r=[]
   ·subst hr
    have hE3:bF_ s.data.toList=if 50<t.depth then .error 3 else .ok t:=(by rw[hE2,if_neg (by simp)]);have CD:=hid (jy_ t _ (.agg #[.int .i64 t.kind,.string t.name,.int .i64 t.n,.slice a1 t.args.length c]) _ ⟨_,rfl,A6.out⟩ (fun b hb=>by have:=hb.2;simp;omega) (by omega));clear hE2
    by_cases hd:50<t.depth
    ·have E:Hid (bF_ s.data.toList=.error 3):=hid (by rw[hE3,if_pos hd])
     have hz0:decide ((50:Int)<(t.depth:Int))=true:=by simp;omega
     clear hE3;go_wp2_with fail;refine CD.out.mono ?_;rintro e w4 ⟨rfl,hb4⟩;have k7:=K6.out.low hb4;obtain⟨x0,x1,x2,x3⟩:=k7.c03;obtain⟨y0,y1,y2,y3⟩:=k7.f03;have K7:=hid k7;have G7:=hid (G6.out.trans (hb4.mono G6.out.size));clear k7;go_wp2;have q4:=K7.out.set4 (.int .i64 0) (.string ⟨#[]⟩) (.int .i64 0) (.slice none 0 0);have g4:=((((G7.out.setCell (p:=⟨w.heap.size,0,none⟩) (by simp) (.int .i64 0)).setCell (p:=⟨w.heap.size,1,none⟩) (by simp) (.string ⟨#[]⟩)).setCell (p:=⟨w.heap.size,2,none⟩) (by simp) (.int .i64 0)).setCell (p:=⟨w.heap.size,3,none⟩) (by simp) (.slice none 0 0));refine bodyPost_ret (v:=.tuple #[zv,.int .i64 3]) (by simp[results,Tryz.results14,go_sem,zv,q4.c0,q4.c1,q4.c2,q4.c3]) rfl ?_;rw[E.out];exact⟨g4,rfl⟩
    ·have E:Hid (bF_ s.data.toList=.ok t):=hid (by rw[hE3,if_neg hd])
     have hz0:decide ((50:Int)<(t.depth:Int))=false:=by simp;omega
     have KT6:=hid (B4.new w2 (.int .i64 t.kind) (.string t.name) (.int .i64 t.n) (.slice a1 t.args.length c));clear hE3;go_wp2_with fail;refine CD.out.mono ?_;rintro e w4 ⟨rfl,hb4⟩;have k7:=K6.out.low hb4;have t7:=KT6.out.low hb4;obtain⟨x0,x1,x2,x3⟩:=k7.c03;obtain⟨y0,y1,y2,y3⟩:=k7.f03;obtain⟨z0,z1,z2,z3⟩:=t7.c03;have K7:=hid k7;have G7:=hid (G6.out.trans (hb4.mono G6.out.size));have A7:=hid (A6.out.keep (fun b hb=>hb4.block b (by have:=hb.2;simp;omega)));have H4:=hid hb4;clear k7 t7 hb4;go_wp2;have q4:=K7.out.set4 (.int .i64 t.kind) (.string t.name) (.int .i64 t.n) (.slice a1 t.args.length c);have g4:=((((G7.out.setCell (p:=⟨w.heap.size,0,none⟩) (by simp) (.int .i64 t.kind)).setCell (p:=⟨w.heap.size,1,none⟩) (by simp) (.string t.name)).setCell (p:=⟨w.heap.size,2,none⟩) (by simp) (.int .i64 t.n)).setCell (p:=⟨w.heap.size,3,none⟩) (by simp) (.slice a1 t.args.length c));refine bodyPost_ret (v:=.tuple #[tv t a1 c,.int .i64 0]) (by simp[results,Tryz.results14,go_sem,tv,q4.c0,q4.c1,q4.c2,q4.c3]) rfl ?_;rw[E.out];refine⟨g4,a1,c,rfl,?_⟩;refine (A7.out.keep (B:=(((w4.setCell ⟨w.heap.size,0,none⟩ (.int .i64 t.kind)).setCell ⟨w.heap.size,1,none⟩ (.string t.name)).setCell ⟨w.heap.size,2,none⟩ (.int .i64 t.n)).setCell ⟨w.heap.size,3,none⟩ (.slice a1 t.args.length c)) (fun b hb=>?_)).mono (fun b hb=>?_)
     ·obtain⟨b1,b2⟩:=hb
      have:=hw01.out;rw[aM_ _ _ _ _ (by simp;omega),aM_ _ _ _ _ (by simp;omega),aM_ _ _ _ _ (by simp;omega),aM_ _ _ _ _ (by simp;omega)]
     ·obtain⟨b1,b2⟩:=hb
      have h1:=hw01.out;have h2:=H4.out.size;simp at h2;exact⟨by omega,by simp;omega⟩
   ·have E:Hid (bF_ s.data.toList=.error 20):=hid (by rw[hE2,if_pos hr])
    have hz0:decide ((0:Int)<(r.length:Int))=true:=by
     rw[decide_eq_true_eq];have:=List.length_pos_iff.2 hr;omega
    have hz1:(0:Int)<(r.length:Int):=by
     have:=List.length_pos_iff.2 hr;omega
    clear hE2 hr;generalize r.length=rl at *;go_wp2;have q4:=K6.out.set4 (.int .i64 0) (.string ⟨#[]⟩) (.int .i64 0) (.slice none 0 0);have g4:=((((G6.out.setCell (p:=⟨w.heap.size,0,none⟩) (by simp) (.int .i64 0)).setCell (p:=⟨w.heap.size,1,none⟩) (by simp) (.string ⟨#[]⟩)).setCell (p:=⟨w.heap.size,2,none⟩) (by simp) (.int .i64 0)).setCell (p:=⟨w.heap.size,3,none⟩) (by simp) (.slice none 0 0));refine bodyPost_ret (v:=.tuple #[zv,.int .i64 20]) (by simp[results,Tryz.results14,go_sem,zv,q4.c0,q4.c1,q4.c2,q4.c3]) rfl ?_;rw[E.out];exact⟨g4,rfl⟩
 ·have E:Hid (bF_ s.data.toList=.error er):=hid (by rw[HP.out,if_pos her])
  have hz0:((er:Int) != 0)=true:=by rw[bne_iff_ne];omega
  go_wp2;have q4:=K4.out.set4 (.int .i64 0) (.string ⟨#[]⟩) (.int .i64 0) (.slice none 0 0);have g4:=((((B1.out.setCell (p:=⟨w.heap.size,0,none⟩) (by simp) (.int .i64 0)).setCell (p:=⟨w.heap.size,1,none⟩) (by simp) (.string ⟨#[]⟩)).setCell (p:=⟨w.heap.size,2,none⟩) (by simp) (.int .i64 0)).setCell (p:=⟨w.heap.size,3,none⟩) (by simp) (.slice none 0 0));refine bodyPost_ret (v:=.tuple #[zv,.int .i64 er]) (by simp[results,Tryz.results14,go_sem,zv,q4.c0,q4.c1,q4.c2,q4.c3]) rfl ?_;rw[E.out];exact⟨g4,rfl⟩
theorem po_:∀ d:Nat,fr_ d:=by
 intro d
 induction d with
 | zero=>intro nm u t S a ua c uc W hg hgu h;rw[t.depth_eq] at h;omega
 | succ d ih =>
  intro nm u t S a ua c uc W hg hgu hd hs hsu hA hU hS hT
  by_cases h5:t.kind=5
  ·by_cases hn:t.name=nm
   ·exact pn_ d nm u t S a ua c uc W h5 hn hA hS
   ·cases hf:fb_ (aK_ u) t.name with
    | false=>exact pp_ d nm u t S a ua c uc W ih h5 hn hf hg hgu hd hs hsu hA hU hS hT
    | true=>exact q6_ d nm u t S a ua c uc W ih h5 hn hf hg hgu hd hs hsu hA hU hS hT
  ·by_cases h1:t.kind=1∧t.name=nm
   ·exact q5_ d nm u t S a ua c uc W h1.1 h1.2 hU hS
   ·exact ns_ d nm u t S a ua c uc W ih h5 (fun h e=>h1 ⟨h,e⟩) hg hgu hd hs hsu hA hU hS hT
theorem j9_ (nm:ByteArray)(u t:Ty)(S:Nat→Prop)(a ua:OA_)(c uc:Nat)(W:World)(hg:cV_ t)(hgu:cV_ u)(hs:t.size≤50000000000)(hsu:u.size≤50000000000)
  (hA:ac_ S W (.slice a t.args.length c) t.args) (hU:ac_ S W (.slice ua u.args.length uc) u.args) (hS:∀ b,S b→b<W.heap.size) (hT:Tab W):Calls Tryz.prog 16 #[tv t a c,.string nm,tv u ua uc] W (TP S (ex_ nm u t) W) :=
 po_ t.depth nm u t S a ua c uc W hg hgu (aw_ _) hs hsu hA hU hS hT
def jJ_ (t:Ty):Prop:=cV_ t∧t.size≤50000000000∧(aK_ t).length≤4000000
structure qh_ (n b:Nat)(t:Ty)(a:OA_)(c:Nat)(W:World):Prop where
 k:B4 W b (.int .i64 t.kind) (.string t.name) (.int .i64 t.n) (.slice a t.args.length c)
 h:ac_ (Lt n) W (.slice a t.args.length c) t.args
 lt:b<W.heap.size
 le:n≤W.heap.size
theorem qh_.low {n b:Nat}{t:Ty}{a:OA_}{c:Nat}{W W':World}(R:qh_ n b t a c W)(h:Below W.heap.size W W'):qh_ n b t a c W' :=
 ⟨R.k.low h,R.h.keep fun j hj=>h.block j (aX_ hj R.le),aX_ R.lt h.size,bm_ R.le h.size⟩
theorem qh_.at_ {n b:Nat}{t:Ty}{a:OA_}{c:Nat}{W:World}(R:qh_ n b t a c W):AtW t a c W:=R.h.mono fun _ hj=>aX_ hj R.le
def oA_ (y:Ty)(W:World)(e:Ending)(W':World):Prop:=∃ a c,e=.returned (.agg #[.int .i64 y.kind,.string y.name,.int .i64 y.n,.slice a y.args.length c])∧AtW y a c W'∧Below W.heap.size W W'
theorem oA_.of {y:Ty}{W:World}{e:Ending}{W':World}(h:TP (Lt W.heap.size) y W e W'):oA_ y W e W':=by
 obtain⟨a,c,he,hA,hb⟩:=h;refine⟨a,c,he,hA.mono fun j hj=>?_,hb⟩
 rcases hj with hj|hj
 ·exact aX_ hj hb.size
 ·exact hj.2
theorem iG_ {t:Ty}{a:OA_}{c:Nat}{W:World}(R:AtW t a c W)(hs:jJ_ t)(hT:Tab W) :
  Calls Tryz.prog 28 #[.agg #[.int .i64 t.kind,.string t.name,.int .i64 t.n,.slice a t.args.length c]] W (aQ_ W (bi_ t)) :=
 oh_ t _ a c W R (fun _ h=>h) hs.1 hs.2 hT
end
section
open Go.RowKit Go.Sort
theorem pY_ {a b:List UInt8}(h:a≠b):aa_ a≠aa_ b:=fun e=>h (b4_ e)
theorem sb_ {t u:Ty}{a ua:OA_}{c uc:Nat}{w:World}(R:AtW t a c w)(U:AtW u ua uc w)(hs:jJ_ t)(hu:jJ_ u)(hT:Tab w) :
  Calls Tryz.prog 13 #[.agg #[.int .i64 t.kind,.string t.name,.int .i64 t.n,.slice a t.args.length c],.agg #[.int .i64 u.kind,.string u.name,.int .i64 u.n,.slice ua u.args.length uc]] w (qj_ w (decide (bi_ t=bi_ u))):=by
 have hz:=ao_ w (.cells #[.int .i64 t.kind,.string t.name,.int .i64 t.n,.slice a t.args.length c] 30);have hz2:=hz.alloc hz.size (.cells #[.int .i64 u.kind,.string u.name,.int .i64 u.n,.slice ua u.args.length uc] 30);have b4:=(B4.new w (.int .i64 t.kind) (.string t.name) (.int .i64 t.n) (.slice a t.args.length c)).low (ao_ _ (.cells #[.int .i64 u.kind,.string u.name,.int .i64 u.n,.slice ua u.args.length uc] 30));have u4:=B4.new (w.alloc (.cells #[.int .i64 t.kind,.string t.name,.int .i64 t.n,.slice a t.args.length c] 30)) (.int .i64 u.kind) (.string u.name) (.int .i64 u.n) (.slice ua u.args.length uc);rw[show (w.alloc (.cells #[.int .i64 t.kind,.string t.name,.int .i64 t.n,.slice a t.args.length c] 30)).heap.size=w.heap.size+1 from by simp] at u4;have HZ:=hid hz2;have DX:=hid (fun p=>ce_ (iG_ (R.low (HZ.out.trans ((az_ _ p).mono HZ.out.size))) hs (ag_ hT (HZ.out.trans ((az_ _ p).mono HZ.out.size)))));have DY:=hid (fun p=>ce_ (iG_ (U.low (HZ.out.trans ((az_ _ p).mono HZ.out.size))) hu (ag_ hT (HZ.out.trans ((az_ _ p).mono HZ.out.size)))));have k0:=ai_ b4.c0;have k1:=ai_ b4.c1;have k2:=ai_ b4.c2;have k3:=ai_ b4.c3;have l0:=ai_ u4.c0;have l1:=ai_ u4.c1;have l2:=ai_ u4.c2;have l3:=ai_ u4.c3;have hb:∃ b,((aa_ (bi_ t)).toList==(aa_ (bi_ u)).toList)=b∧b=decide (bi_ t=bi_ u):=by
  by_cases e:bi_ t=bi_ u
  ·exact⟨true,eL_ (by rw[e]),(decide_eq_true e).symm⟩
  ·exact⟨false,cB_ (pY_ e),(decide_eq_false e).symm⟩
 obtain⟨bb,hbb,hbe⟩:=hb;rw[← hbe];clear R U hs hu hT hz hz2 b4 u4 hbe;unfold aQ_ at *;generalize aa_ (bi_ t)=s1 at *;generalize aa_ (bi_ u)=s2 at *;go_enter Tryz.func13,Tryz.ntmps13;go_wp2;refine bb_ (by kernel_rfl) (by kernel_rfl) ?_
 repeat (go_big_quiet_step ((first|(with_reducible exact DX.out _)|(with_reducible exact DY.out _))))
 refine wpQuiet_nil ?_;intro _ hw';obtain⟨pq,hw''⟩:=hw';subst hw'';go_wp2;go_ret;exact⟨bx_ rfl,HZ.out.trans ((az_ _ _).mono HZ.out.size)⟩
end
end Go.Proofs.YtkihnodkhnahiaaGreatDoor.Tp

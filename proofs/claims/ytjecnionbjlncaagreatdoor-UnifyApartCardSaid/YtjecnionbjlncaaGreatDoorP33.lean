/- Packed. -/
import Derived.Test.YtjecnionbjlncaaGreatDoorP23
import Derived.Test.YtjecnionbjlncaaGreatDoorP32
set_option maxRecDepth 100000
set_option maxHeartbeats 6400000
namespace Go.Proofs.YtjecnionbjlncaaGreatDoor.Tp
open Go.RowKit
open Lx
theorem kp_ {l:List UInt8}{ts:List Tok}{p er:Nat}(h:cq_ l=(ts,p,er)):a8_ l=if er≠0 then .error er else match iP_ ts with
  | none=>.error 20
  | some (t,r)=>if r≠[] then .error 20 else if 50<t.depth then .error 3 else .ok t:=by
 rw[a8_,h];rfl
def jh_ (w:World)(res:Except Nat Ty)(e:Ending)(w':World):Prop :=
 Below w.heap.size w w'∧match res with
 | .error er=>e=.returned (.tuple #[zv,.int .i64 er])
 | .ok t=>∃ a c,e=.returned (.tuple #[tv t a c,.int .i64 0])∧aa_ (In w.heap.size w'.heap.size) w' (.slice a t.args.length c) t.args
theorem mP_ (w:World)(s:ByteArray)(hs:s.size≤maxLen):Calls Tryz.prog 23 #[.string s] w (jh_ w (a8_ s.data.toList)):=by
 have C:=hid (n5_ s (w.alloc (.cells #[.int .i64 0,.string ByteArray.empty,.int .i64 0,.slice none 0 0] 37)) hs);have b4:=hid (B4.new w (.int .i64 0) (.string ByteArray.empty) (.int .i64 0) (.slice none 0 0));have HZ:=hid (aw_ w (.cells #[.int .i64 0,.string ByteArray.empty,.int .i64 0,.slice none 0 0] 37));have hok:=hid (k1_ s.data.toList);have hlen:=ea_ s.data.toList
 rcases hsc:cq_ s.data.toList with ⟨ts,p,er⟩
 have hP:=kp_ hsc;rw[hsc] at hok hlen;have HSC:=hid hsc;have HP:=hid hP;clear hsc hP;go_enter Tryz.func23,Tryz.ntmps23;go_wp2_with fail;refine C.out.mono ?_;rintro e w1 ⟨v,rfl,hb,ho⟩;rw[HSC.out] at ho ⊢;have k4:=b4.out.low hb;obtain⟨c0,c1,c2,c3⟩:=k4.c03;obtain⟨f0,f1,f2,f3⟩:=k4.f03;have K4:=hid k4;have hb1:=HZ.out.trans (hb.mono (by simp));have B1:=hid hb1;obtain⟨va,vc,rfl⟩:=aG_ ho;have OW:=hid ho;have hw01:Hid (w.heap.size+1≤w1.heap.size):=hid (by have:=hb.size;simpa using this);clear k4 hb ho hb1
 by_cases her:er=0
 ·subst her
  have HP1:=HP.out;rw[if_neg (by simp)] at HP1;have RC:=hid (ol_ w1 va vc ts (eF_ OW.out) (fun b o e=>(OW.out.lt b (by rw[e];rfl)).2) hok.out hlen);have HP2:=hid HP1;clear HP1;go_wp2_with fail;refine RC.out.mono ?_;rintro e w2 ⟨hb2,hres⟩;have k5:=K4.out.low hb2;have K5:=hid k5;have B2:=hid hb2;cases hT:iP_ ts with
  | none =>
   rw[hT] at hres;subst hres;have E:Hid (a8_ s.data.toList=.error 20):=hid (by rw[HP2.out,hT]);have hz:=aw_ w2 (.cells #[.int .i64 0,.string ⟨#[]⟩,.int .i64 0,.slice none 0 0] 37);have k6:=k5.low hz;have K6:=hid k6;have G6:=hid (B1.out.trans ((hb2.trans (hz.mono hb2.size)).mono B1.out.size));obtain⟨d0,d1,d2,d3⟩:=k6.c03;obtain⟨h0,h1,h2,h3⟩:=k6.f03;clear hT k5 hb2 hz k6;unfold zv;go_wp2;have q4:=K6.out.set4 (.int .i64 0) (.string ⟨#[]⟩) (.int .i64 0) (.slice none 0 0);have g4:=((((G6.out.setCell (p:=⟨w.heap.size,0,none⟩) (by simp) (.int .i64 0)).setCell (p:=⟨w.heap.size,1,none⟩) (by simp) (.string ⟨#[]⟩)).setCell (p:=⟨w.heap.size,2,none⟩) (by simp) (.int .i64 0)).setCell (p:=⟨w.heap.size,3,none⟩) (by simp) (.slice none 0 0));refine bodyPost_ret (v:=.tuple #[zv,.int .i64 20]) (by simp[results,Tryz.results23,go_sem,zv,q4.c0,q4.c1,q4.c2,q4.c3]) rfl ?_;rw[E.out];exact⟨g4,rfl⟩
  | some x =>
   obtain⟨t,r⟩:=x;rw[hT] at hres;obtain⟨a1,c,a2,c2,rfl,hA,hR⟩:=hres;have hz:=aw_ w2 (.cells #[.int .i64 t.kind,.string t.name,.int .i64 t.n,.slice a1 t.args.length c] 37);have k6:=k5.low hz;have kt:=B4.new w2 (.int .i64 t.kind) (.string t.name) (.int .i64 t.n) (.slice a1 t.args.length c);have K6:=hid k6;have G6:=hid (B1.out.trans ((hb2.trans (hz.mono hb2.size)).mono B1.out.size));have A6:=hid (hA.keep (fun b hb=>hz.block b hb.2));have hdp:t.depth≤4000:=(by have:=(deep _).1 _ _ _ hT;omega);have hE2:a8_ s.data.toList=if r≠[] then .error 20 else if 50<t.depth then .error 3 else .ok t:=(by rw[HP2.out,hT]);obtain⟨d0,d1,d2,d3⟩:=k6.c03;obtain⟨h0,h1,h2,h3⟩:=k6.f03;obtain⟨t0,t1,t2,t3⟩:=kt.c03;clear hT k5 hb2 hz k6 kt hA hR;unfold tv
   by_cases hr:r=[]
   ·subst hr
    have hE3:a8_ s.data.toList=if 50<t.depth then .error 3 else .ok t:=(by rw[hE2,if_neg (by simp)]);have CD:=hid (np_ t _ (.agg #[.int .i64 t.kind,.string t.name,.int .i64 t.n,.slice a1 t.args.length c]) _ ⟨_,rfl,A6.out⟩ (fun b hb=>by have:=hb.2;simp;omega) (by omega));clear hE2
    by_cases hd:50<t.depth
    ·have E:Hid (a8_ s.data.toList=.error 3):=hid (by rw[hE3,if_pos hd])
     have hz0:decide ((50:Int)<(t.depth:Int))=true:=by simp;omega
     clear hE3;go_wp2_with fail;refine CD.out.mono ?_;rintro e w4 ⟨rfl,hb4⟩;have k7:=K6.out.low hb4;obtain⟨x0,x1,x2,x3⟩:=k7.c03;obtain⟨y0,y1,y2,y3⟩:=k7.f03;have K7:=hid k7;have G7:=hid (G6.out.trans (hb4.mono G6.out.size));clear k7;go_wp2;have q4:=K7.out.set4 (.int .i64 0) (.string ⟨#[]⟩) (.int .i64 0) (.slice none 0 0);have g4:=((((G7.out.setCell (p:=⟨w.heap.size,0,none⟩) (by simp) (.int .i64 0)).setCell (p:=⟨w.heap.size,1,none⟩) (by simp) (.string ⟨#[]⟩)).setCell (p:=⟨w.heap.size,2,none⟩) (by simp) (.int .i64 0)).setCell (p:=⟨w.heap.size,3,none⟩) (by simp) (.slice none 0 0));refine bodyPost_ret (v:=.tuple #[zv,.int .i64 3]) (by simp[results,Tryz.results23,go_sem,zv,q4.c0,q4.c1,q4.c2,q4.c3]) rfl ?_;rw[E.out];exact⟨g4,rfl⟩
    ·have E:Hid (a8_ s.data.toList=.ok t):=hid (by rw[hE3,if_neg hd])
     have hz0:decide ((50:Int)<(t.depth:Int))=false:=by simp;omega
     have KT6:=hid (B4.new w2 (.int .i64 t.kind) (.string t.name) (.int .i64 t.n) (.slice a1 t.args.length c));clear hE3;go_wp2_with fail;refine CD.out.mono ?_;rintro e w4 ⟨rfl,hb4⟩;have k7:=K6.out.low hb4;have t7:=KT6.out.low hb4;obtain⟨x0,x1,x2,x3⟩:=k7.c03;obtain⟨y0,y1,y2,y3⟩:=k7.f03;obtain⟨z0,z1,z2,z3⟩:=t7.c03;have K7:=hid k7;have G7:=hid (G6.out.trans (hb4.mono G6.out.size));have A7:=hid (A6.out.keep (fun b hb=>hb4.block b (by have:=hb.2;simp;omega)));have H4:=hid hb4;clear k7 t7 hb4;go_wp2;have q4:=K7.out.set4 (.int .i64 t.kind) (.string t.name) (.int .i64 t.n) (.slice a1 t.args.length c);have g4:=((((G7.out.setCell (p:=⟨w.heap.size,0,none⟩) (by simp) (.int .i64 t.kind)).setCell (p:=⟨w.heap.size,1,none⟩) (by simp) (.string t.name)).setCell (p:=⟨w.heap.size,2,none⟩) (by simp) (.int .i64 t.n)).setCell (p:=⟨w.heap.size,3,none⟩) (by simp) (.slice a1 t.args.length c));refine bodyPost_ret (v:=.tuple #[tv t a1 c,.int .i64 0]) (by simp[results,Tryz.results23,go_sem,tv,q4.c0,q4.c1,q4.c2,q4.c3]) rfl ?_;rw[E.out];refine⟨g4,a1,c,rfl,?_⟩;refine (A7.out.keep (B:=(((w4.setCell ⟨w.heap.size,0,none⟩ (.int .i64 t.kind)).setCell ⟨w.heap.size,1,none⟩ (.string t.name)).setCell ⟨w.heap.size,2,none⟩ (.int .i64 t.n)).setCell ⟨w.heap.size,3,none⟩ (.slice a1 t.args.length c)) (fun b hb=>?_)).mono (fun b hb=>?_)
     ·obtain⟨b1,b2⟩:=hb
      have:=hw01.out;rw[aB_ _ _ _ _ (by simp;omega),aB_ _ _ _ _ (by simp;omega),aB_ _ _ _ _ (by simp;omega),aB_ _ _ _ _ (by simp;omega)]
     ·obtain⟨b1,b2⟩:=hb
      have h1:=hw01.out;have h2:=H4.out.size;simp at h2;exact⟨by omega,by simp;omega⟩
   ·have E:Hid (a8_ s.data.toList=.error 20):=hid (by rw[hE2,if_pos hr])
    have hz0:decide ((0:Int)<(r.length:Int))=true:=by
     rw[decide_eq_true_eq];have:=List.length_pos_iff.2 hr;omega
    have hz1:(0:Int)<(r.length:Int):=by
     have:=List.length_pos_iff.2 hr;omega
    clear hE2 hr;generalize r.length=rl at *;go_wp2;have q4:=K6.out.set4 (.int .i64 0) (.string ⟨#[]⟩) (.int .i64 0) (.slice none 0 0);have g4:=((((G6.out.setCell (p:=⟨w.heap.size,0,none⟩) (by simp) (.int .i64 0)).setCell (p:=⟨w.heap.size,1,none⟩) (by simp) (.string ⟨#[]⟩)).setCell (p:=⟨w.heap.size,2,none⟩) (by simp) (.int .i64 0)).setCell (p:=⟨w.heap.size,3,none⟩) (by simp) (.slice none 0 0));refine bodyPost_ret (v:=.tuple #[zv,.int .i64 20]) (by simp[results,Tryz.results23,go_sem,zv,q4.c0,q4.c1,q4.c2,q4.c3]) rfl ?_;rw[E.out];exact⟨g4,rfl⟩
 ·have E:Hid (a8_ s.data.toList=.error er):=hid (by rw[HP.out,if_pos her])
  have hz0:((er:Int) != 0)=true:=by rw[bne_iff_ne];omega
  go_wp2;have q4:=K4.out.set4 (.int .i64 0) (.string ⟨#[]⟩) (.int .i64 0) (.slice none 0 0);have g4:=((((B1.out.setCell (p:=⟨w.heap.size,0,none⟩) (by simp) (.int .i64 0)).setCell (p:=⟨w.heap.size,1,none⟩) (by simp) (.string ⟨#[]⟩)).setCell (p:=⟨w.heap.size,2,none⟩) (by simp) (.int .i64 0)).setCell (p:=⟨w.heap.size,3,none⟩) (by simp) (.slice none 0 0));refine bodyPost_ret (v:=.tuple #[zv,.int .i64 er]) (by simp[results,Tryz.results23,go_sem,zv,q4.c0,q4.c1,q4.c2,q4.c3]) rfl ?_;rw[E.out];exact⟨g4,rfl⟩
open Lx
theorem lY_ (l:List UInt8):kM_ (cq_ l).1:=by
 constructor
 ·intro t ht h5
  cases sL_ t (e5_ l t ht) with
  | unk _ ds e n =>
   rw[e,List.tail_cons];exact⟨n.len.2,by simp,n.digits⟩
  | var h _ _ _|con h _ _|key h _|num h _|sign2 h _|sign h _ _ _=>omega
 ·intro t ht hp
  cases sL_ t (e5_ l t ht) with
  | sign2 h _|sign h _ _ _=>exact h
  | unk _ ds e n=>rw[hp] at e;exact absurd (List.cons.inj e).1 (by decide)
  | var h n c k=>rw[hp] at c;exact absurd c (by decide)
  | con h n c=>rw[hp] at c;exact absurd c (by decide)
  | key h k=>rw[hp] at k;exact absurd k (by decide)
  | num h n=>have:=n.digits 40 (by rw[hp];decide);exact absurd this (by decide)
theorem mm_ (w:World)(a:OA_)(c:Nat)(l:List Tok)(ht:bu_ w (.slice a l.length c) l)(hb:∀ b o,a=some ⟨b,o,none⟩→b<w.heap.size)(hr:kM_ l)(hl:l.length≤4000) :
  Calls Tryz.prog 56 #[.slice a l.length c,.int .i64 0] w (cM_ w l.length (iP_ l)):=by
 have:=(rsaid (4*l.length+4)).typ w a c l 0 ht hb hr hl (Nat.zero_le _) (by omega);rwa [List.drop_zero] at this
theorem k9_ (w:World)(s:ByteArray)(hs:s.size≤maxLen):Calls Tryz.prog 27 #[.string s] w (jh_ w (a8_ s.data.toList)):=by
 have C:=hid (ml_ s (w.alloc (.cells #[.int .i64 0,.string ByteArray.empty,.int .i64 0,.slice none 0 0] 43)) hs);have b4:=hid (R4.new w (.int .i64 0) (.string ByteArray.empty) (.int .i64 0) (.slice none 0 0));have HZ:=hid (aw_ w (.cells #[.int .i64 0,.string ByteArray.empty,.int .i64 0,.slice none 0 0] 43));have hok:=hid (lY_ s.data.toList);have hlen:=ea_ s.data.toList
 rcases hsc:cq_ s.data.toList with ⟨ts,p,er⟩
 have hP:=kp_ hsc;rw[hsc] at hok hlen;have HSC:=hid hsc;have HP:=hid hP;clear hsc hP;go_enter Tryz.func27,Tryz.ntmps27;go_wp2_with fail;refine C.out.mono ?_;rintro e w1 ⟨v,rfl,hb,ho⟩;rw[HSC.out] at ho ⊢;have k4:=b4.out.low hb;obtain⟨c0,c1,c2,c3⟩:=k4.c03;obtain⟨f0,f1,f2,f3⟩:=k4.f03;have K4:=hid k4;have hb1:=HZ.out.trans (hb.mono (by simp));have B1:=hid hb1;obtain⟨va,vc,rfl⟩:=aG_ ho;have OW:=hid ho;have hw01:Hid (w.heap.size+1≤w1.heap.size):=hid (by have:=hb.size;simpa using this);clear k4 hb ho hb1
 by_cases her:er=0
 ·subst her
  have HP1:=HP.out;rw[if_neg (by simp)] at HP1;have RC:=hid (mm_ w1 va vc ts (eF_ OW.out) (fun b o e=>(OW.out.lt b (by rw[e];rfl)).2) hok.out hlen);have HP2:=hid HP1;clear HP1;go_wp2_with fail;refine RC.out.mono ?_;rintro e w2 ⟨hb2,hres⟩;have k5:=K4.out.low hb2;have K5:=hid k5;have B2:=hid hb2;cases hT:iP_ ts with
  | none =>
   rw[hT] at hres;obtain⟨jk,js,jn,ja,jc,jm,rfl⟩:=hres;have zt:((-1:Int) != (ts.length:Int))=true:=by rw[bne_iff_ne];omega
   have E:Hid (a8_ s.data.toList=.error 20):=hid (by rw[HP2.out,hT]);have hz:=aw_ w2 (.cells #[.int .i64 jk,.string js,.int .i64 jn,.slice ja jc jm] 43);have k6:=k5.low hz;have K6:=hid k6;have G6:=hid (B1.out.trans ((hb2.trans (hz.mono hb2.size)).mono B1.out.size));obtain⟨d0,d1,d2,d3⟩:=k6.c03;obtain⟨h0,h1,h2,h3⟩:=k6.f03;clear hT k5 hb2 hz k6;go_wp2;have q4:=K6.out.set4 (.int .i64 0) (.string ⟨#[]⟩) (.int .i64 0) (.slice none 0 0);have g4:=((((G6.out.setCell (p:=⟨w.heap.size,0,none⟩) (by simp) (.int .i64 0)).setCell (p:=⟨w.heap.size,1,none⟩) (by simp) (.string ⟨#[]⟩)).setCell (p:=⟨w.heap.size,2,none⟩) (by simp) (.int .i64 0)).setCell (p:=⟨w.heap.size,3,none⟩) (by simp) (.slice none 0 0));refine bodyPost_ret (v:=.tuple #[zv,.int .i64 20]) (by simp[results,Tryz.results27,go_sem,zv,q4.c0,q4.c1,q4.c2,q4.c3]) rfl ?_;rw[E.out];exact⟨g4,rfl⟩
  | some x =>
   obtain⟨t,r⟩:=x;rw[hT] at hres;obtain⟨a1,c,rfl,hA⟩:=hres;have hsuf:=(p8_ (4*ts.length+4)).1 _ _ _ hT;have hrl:=hsuf.length_le;have hz:=aw_ w2 (.cells #[.int .i64 t.kind,.string t.name,.int .i64 t.n,.slice a1 t.args.length c] 43);have k6:=k5.low hz;have kt:=R4.new w2 (.int .i64 t.kind) (.string t.name) (.int .i64 t.n) (.slice a1 t.args.length c);have K6:=hid k6;have G6:=hid (B1.out.trans ((hb2.trans (hz.mono hb2.size)).mono B1.out.size));have A6:=hid (hA.keep (fun b hb=>hz.block b hb.2));have hdp:t.depth≤4000:=(by have:=(deep _).1 _ _ _ hT;omega);have hE2:a8_ s.data.toList=if r≠[] then .error 20 else if 50<t.depth then .error 3 else .ok t:=(by rw[HP2.out,hT]);obtain⟨d0,d1,d2,d3⟩:=k6.c03;obtain⟨h0,h1,h2,h3⟩:=k6.f03;obtain⟨t0,t1,t2,t3⟩:=kt.c03;clear hT k5 hb2 hz k6 kt hA hsuf;unfold tv
   by_cases hr:r=[]
   ·subst hr
    have zt:(((ts.length - ([]:List Tok).length:Nat):Int) != (ts.length:Int))=false:=(by simp);have hE3:a8_ s.data.toList=if 50<t.depth then .error 3 else .ok t:=(by rw[hE2,if_neg (by simp)]);have CD:=hid (lc_ t _ a1 c _ A6.out (fun b hb=>by have:=hb.2;simp;omega) (by omega));clear hE2;unfold tv at CD
    by_cases hd:50<t.depth
    ·have E:Hid (a8_ s.data.toList=.error 3):=hid (by rw[hE3,if_pos hd])
     have hz0:decide ((50:Int)<(t.depth:Int))=true:=by simp;omega
     clear hE3;go_wp2_with fail;refine CD.out.mono ?_;rintro e w4 ⟨rfl,hb4⟩;have k7:=K6.out.low hb4;obtain⟨x0,x1,x2,x3⟩:=k7.c03;obtain⟨y0,y1,y2,y3⟩:=k7.f03;have K7:=hid k7;have G7:=hid (G6.out.trans (hb4.mono G6.out.size));clear k7;go_wp2;have q4:=K7.out.set4 (.int .i64 0) (.string ⟨#[]⟩) (.int .i64 0) (.slice none 0 0);have g4:=((((G7.out.setCell (p:=⟨w.heap.size,0,none⟩) (by simp) (.int .i64 0)).setCell (p:=⟨w.heap.size,1,none⟩) (by simp) (.string ⟨#[]⟩)).setCell (p:=⟨w.heap.size,2,none⟩) (by simp) (.int .i64 0)).setCell (p:=⟨w.heap.size,3,none⟩) (by simp) (.slice none 0 0));refine bodyPost_ret (v:=.tuple #[zv,.int .i64 3]) (by simp[results,Tryz.results27,go_sem,zv,q4.c0,q4.c1,q4.c2,q4.c3]) rfl ?_;rw[E.out];exact⟨g4,rfl⟩
    ·have E:Hid (a8_ s.data.toList=.ok t):=hid (by rw[hE3,if_neg hd])
     have hz0:decide ((50:Int)<(t.depth:Int))=false:=by simp;omega
     have KT6:=hid (R4.new w2 (.int .i64 t.kind) (.string t.name) (.int .i64 t.n) (.slice a1 t.args.length c));clear hE3;go_wp2_with fail;refine CD.out.mono ?_;rintro e w4 ⟨rfl,hb4⟩;have k7:=K6.out.low hb4;have t7:=KT6.out.low hb4;obtain⟨x0,x1,x2,x3⟩:=k7.c03;obtain⟨y0,y1,y2,y3⟩:=k7.f03;obtain⟨z0,z1,z2,z3⟩:=t7.c03;have K7:=hid k7;have G7:=hid (G6.out.trans (hb4.mono G6.out.size));have A7:=hid (A6.out.keep (fun b hb=>hb4.block b (by have:=hb.2;simp;omega)));have H4:=hid hb4;clear k7 t7 hb4;go_wp2;have q4:=K7.out.set4 (.int .i64 t.kind) (.string t.name) (.int .i64 t.n) (.slice a1 t.args.length c);have g4:=((((G7.out.setCell (p:=⟨w.heap.size,0,none⟩) (by simp) (.int .i64 t.kind)).setCell (p:=⟨w.heap.size,1,none⟩) (by simp) (.string t.name)).setCell (p:=⟨w.heap.size,2,none⟩) (by simp) (.int .i64 t.n)).setCell (p:=⟨w.heap.size,3,none⟩) (by simp) (.slice a1 t.args.length c));refine bodyPost_ret (v:=.tuple #[tv t a1 c,.int .i64 0]) (by simp[results,Tryz.results27,go_sem,tv,q4.c0,q4.c1,q4.c2,q4.c3]) rfl ?_;rw[E.out];refine⟨g4,a1,c,rfl,?_⟩;refine (A7.out.keep (B:=(((w4.setCell ⟨w.heap.size,0,none⟩ (.int .i64 t.kind)).setCell ⟨w.heap.size,1,none⟩ (.string t.name)).setCell ⟨w.heap.size,2,none⟩ (.int .i64 t.n)).setCell ⟨w.heap.size,3,none⟩ (.slice a1 t.args.length c)) (fun b hb=>?_)).mono (fun b hb=>?_)
     ·obtain⟨b1,b2⟩:=hb
      have:=hw01.out;rw[aB_ _ _ _ _ (by simp;omega),aB_ _ _ _ _ (by simp;omega),aB_ _ _ _ _ (by simp;omega),aB_ _ _ _ _ (by simp;omega)]
     ·obtain⟨b1,b2⟩:=hb
      have h1:=hw01.out;have h2:=H4.out.size;simp at h2;exact⟨by omega,by simp;omega⟩
   ·have E:Hid (a8_ s.data.toList=.error 20):=hid (by rw[hE2,if_pos hr])
    have zt:(((ts.length - r.length:Nat):Int) != (ts.length:Int))=true:=by
     rw[bne_iff_ne];have:=List.length_pos_iff.2 hr;omega
    clear hE2 hr;generalize ts.length - r.length=rl at *;go_wp2;have q4:=K6.out.set4 (.int .i64 0) (.string ⟨#[]⟩) (.int .i64 0) (.slice none 0 0);have g4:=((((G6.out.setCell (p:=⟨w.heap.size,0,none⟩) (by simp) (.int .i64 0)).setCell (p:=⟨w.heap.size,1,none⟩) (by simp) (.string ⟨#[]⟩)).setCell (p:=⟨w.heap.size,2,none⟩) (by simp) (.int .i64 0)).setCell (p:=⟨w.heap.size,3,none⟩) (by simp) (.slice none 0 0));refine bodyPost_ret (v:=.tuple #[zv,.int .i64 20]) (by simp[results,Tryz.results27,go_sem,zv,q4.c0,q4.c1,q4.c2,q4.c3]) rfl ?_;rw[E.out];exact⟨g4,rfl⟩
 ·have E:Hid (a8_ s.data.toList=.error er):=hid (by rw[HP.out,if_pos her])
  have hz0:((er:Int) != 0)=true:=by rw[bne_iff_ne];omega
  go_wp2;have q4:=K4.out.set4 (.int .i64 0) (.string ⟨#[]⟩) (.int .i64 0) (.slice none 0 0);have g4:=((((B1.out.setCell (p:=⟨w.heap.size,0,none⟩) (by simp) (.int .i64 0)).setCell (p:=⟨w.heap.size,1,none⟩) (by simp) (.string ⟨#[]⟩)).setCell (p:=⟨w.heap.size,2,none⟩) (by simp) (.int .i64 0)).setCell (p:=⟨w.heap.size,3,none⟩) (by simp) (.slice none 0 0));refine bodyPost_ret (v:=.tuple #[zv,.int .i64 er]) (by simp[results,Tryz.results27,go_sem,zv,q4.c0,q4.c1,q4.c2,q4.c3]) rfl ?_;rw[E.out];exact⟨g4,rfl⟩
end Go.Proofs.YtjecnionbjlncaaGreatDoor.Tp

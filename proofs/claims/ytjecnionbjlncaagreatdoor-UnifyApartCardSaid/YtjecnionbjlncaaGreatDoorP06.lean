/- Packed. -/
import Derived.Test.YtjecnionbjlncaaGreatDoorP05
import Derived.Lib.AtoiErrMem
set_option maxRecDepth 100000
set_option maxHeartbeats 6400000
namespace Go.Proofs.YtjecnionbjlncaaGreatDoor.Tp
open Go.RowKit
open Lx
theorem ch_ {l:List Tok}{k:Nat}{b:Bool}(h:sk l k=b):cC_ l k []=b:=by rw[mf_];exact h
theorem f3_ {l:List Tok}{k:Nat}{s:List UInt8}{b:Bool}(hs:s≠[])(h:st l k s=b):cC_ l k s=b:=by rw[me_ _ _ _ hs];exact h
theorem eu_ (l:List UInt8):(ab_ l).size=l.length:=by simp[ab_,ByteArray.size]
theorem pa_ (n N B:Nat)(w:World)(l:List Tok)(h:Rd N B w l)(hN:N≤w.heap.size)(h1:sk l 1=false)(h2:sk l 2=true):Calls Tryz.prog 153 #[.pointer (some ⟨B,0,none⟩)] w (cN_ N B w (aI_ (n+1) l)):=by
 have hr:=h.low (aw_ w (.cells #[.int .i64 0,.string ByteArray.empty,.int .i64 0,.slice none 0 0] 37));have C1:=hid (bv_ hr (k:=1) (s:=[]) (ch_ h1));have C2:=hid (b1_ hr (k:=2) (s:=[]) (ch_ h2));have b4:=hid (B4.new w (.int .i64 0) (.string ByteArray.empty) (.int .i64 0) (.slice none 0 0));have HR:=hid hr;have e:aI_ (n+1) l=some (d0_ (ae_ l) [],l.tail):=by rw[aI_,h1,if_neg (by simp),if_pos h2]
 have E:=hid e;clear h hr h1 h2 e;go_enter Tryz.func153,Tryz.ntmps153;go_wp2_with fail;refine C1.out.mono ?_;rintro e w1 ⟨rfl,rfl⟩;go_wp2_with fail;refine C2.out.mono ?_;rintro e w1 ⟨rfl,hrd,hg⟩;have k4:=b4.out.grown hg (fun e=>b4.out.ne_rd HR.out (by injection e with e;exact e.symm));obtain⟨c0,c1,c2,c3⟩:=k4.c03;obtain⟨f0,f1,f2,f3⟩:=k4.f03;have K4:=hid k4;have RD:=hid hrd;have G:=hid hg;clear k4 hrd hg;have hne:=K4.out.ne_rd RD.out;go_wp2;have q4:=K4.out.set4 (.int .i64 3) (.string (ab_ (ae_ l))) (.int .i64 0) (.slice none 0 0);have g4:=aq_ (ac_ (ad_ (aw_ w _)) G.out) (aC_ _) (.int .i64 3) (.string (ab_ (ae_ l))) (.int .i64 0) (.slice none 0 0);have r4:=RD.out.set4 (Ne.symm hne) hN (.int .i64 3) (.string (ab_ (ae_ l))) (.int .i64 0) (.slice none 0 0);refine bodyPost_ret (v:=.tuple #[tv (d0_ (ae_ l) []) none 0,.bool true]) (by simp[results,Tryz.results153,go_sem,q4.c0,q4.c1,q4.c2,q4.c3];rfl) rfl ?_;rw[E.out];exact⟨g4,none,0,rfl,.nil _ _,r4⟩
theorem ny_ (n N B:Nat)(w:World)(l:List Tok)(h:Rd N B w l)(hN:N≤w.heap.size)(hok:c6_ l)(h1:sk l 1=false)(h2:sk l 2=false)(h3:sk l 5=true):Calls Tryz.prog 153 #[.pointer (some ⟨B,0,none⟩)] w (cN_ N B w (aI_ (n+1) l)):=by
 have hr:=h.low (aw_ w (.cells #[.int .i64 0,.string ByteArray.empty,.int .i64 0,.slice none 0 0] 37));have C1:=hid (bv_ hr (k:=1) (s:=[]) (ch_ h1));have C2:=hid (bv_ hr (k:=2) (s:=[]) (ch_ h2));have C3:=hid (b1_ hr (k:=5) (s:=[]) (ch_ h3));have b4:=hid (B4.new w (.int .i64 0) (.string ByteArray.empty) (.int .i64 0) (.slice none 0 0));have HR:=hid hr;have e:aI_ (n+1) l=some (d4_ (ae_ l),l.tail):=by rw[aI_,h1,if_neg (by simp),h2,if_neg (by simp),if_pos h3]
 have E:=hid e;obtain⟨hlen,hat⟩:(ae_ l).length≤19∧Lib.atoi (ae_ l).tail=some (eT_ (ae_ l).tail:Int):=by
  cases l with
  | nil=>cases h3
  | cons t l=>exact hok t (by simp) (by simpa [sk] using h3)
 have hpos:1≤(ae_ l).length:=by
  rcases Nat.eq_zero_or_pos (ae_ l).length with h0|h0
  ·rw[List.eq_nil_of_length_eq_zero h0] at hat;cases hat
  ·exact h0
 have hsz:=eu_ (ae_ l);have hx:(ab_ (ae_ l)).extract 1 (ab_ (ae_ l)).size=ab_ (ae_ l).tail:=by
  apply ByteArray.ext;apply Array.toList_inj.1;rw[dk_];simp[ab_]
 have AT:=fun W=>Tryz.strconv_Atoi (ab_ (ae_ l).tail) (eT_ (ae_ l).tail:Int) (by rw[eu_];simp;omega) (by simpa [ab_] using hat) W;have HX:=hid hx;have HA:=hid AT;have hs1:1≤(ab_ (ae_ l)).size:=by omega
 clear h hr h1 h2 h3 e hok hat hx hsz AT;go_enter Tryz.func153,Tryz.ntmps153;go_wp2_with fail;refine C1.out.mono ?_;rintro e w1 ⟨rfl,rfl⟩;go_wp2_with fail;refine C2.out.mono ?_;rintro e w1 ⟨rfl,rfl⟩;go_wp2_with fail;refine C3.out.mono ?_;rintro e w1 ⟨rfl,hrd,hg⟩;have k4:=b4.out.grown hg (fun e=>b4.out.ne_rd HR.out (by injection e with e;exact e.symm));have K4:=hid k4;have RD:=hid hrd;have G:=hid hg;clear k4 hrd hg;go_wp2_with fail;rw[HX.out];refine (HA.out _).mono ?_;rintro e w2 ⟨rfl,tt,rfl⟩;have hbw:=Lib.bytesWorld_below w1 5 tt;generalize Lib.bytesWorld w1 5 tt=w2 at *;have k5:=K4.out.low hbw;have r5:=RD.out.low hbw;obtain⟨c0,c1,c2,c3⟩:=k5.c03;obtain⟨f0,f1,f2,f3⟩:=k5.f03;have hne:=k5.ne_rd r5;have K5:=hid k5;have R5:=hid r5;have G5:=hid (ac_ G.out (ad_ (r:=some B) hbw));clear k5 r5 hbw;go_wp2;have q4:=K5.out.set4 (.int .i64 2) (.string ⟨#[]⟩) (.int .i64 (eT_ (ae_ l).tail:Int)) (.slice none 0 0);have g4:=aq_ (ac_ (ad_ (aw_ w _)) G5.out) (aC_ _) (.int .i64 2) (.string ⟨#[]⟩) (.int .i64 (eT_ (ae_ l).tail:Int)) (.slice none 0 0);have r4:=R5.out.set4 (Ne.symm hne) hN (.int .i64 2) (.string ⟨#[]⟩) (.int .i64 (eT_ (ae_ l).tail:Int)) (.slice none 0 0);refine bodyPost_ret (v:=.tuple #[tv (d4_ (ae_ l)) none 0,.bool true]) (by simp[results,Tryz.results153,go_sem,q4.c0,q4.c1,q4.c2,q4.c3];rfl) rfl ?_;rw[E.out];exact⟨g4,none,0,rfl,.nil _ _,r4⟩
open Lx
def zv:Value:=.agg #[.int .i64 0,.string ⟨#[]⟩,.int .i64 0,.slice none 0 0]
theorem nx_ (n N B:Nat)(w:World)(l:List Tok)(h:Rd N B w l)(h1:sk l 1=false)(h2:sk l 2=false)(h3:sk l 5=false)(h4:st l 6 dT_=false):Calls Tryz.prog 153 #[.pointer (some ⟨B,0,none⟩)] w (cN_ N B w (aI_ (n+1) l)):=by
 have hr:=h.low (aw_ w (.cells #[.int .i64 0,.string ByteArray.empty,.int .i64 0,.slice none 0 0] 37));have C1:=hid (bv_ hr (k:=1) (s:=[]) (ch_ h1));have C2:=hid (bv_ hr (k:=2) (s:=[]) (ch_ h2));have C3:=hid (bv_ hr (k:=5) (s:=[]) (ch_ h3));have C4:=hid (bv_ hr (k:=6) (s:=dT_) (f3_ (by decide) h4));have k4:=B4.new w (.int .i64 0) (.string ByteArray.empty) (.int .i64 0) (.slice none 0 0);have e:aI_ (n+1) l=none:=by rw[aI_,h1,if_neg (by simp),h2,if_neg (by simp),h3,if_neg (by simp),h4,if_neg (by simp)]
 have E:=hid e;have K4:=hid k4;clear h hr h1 h2 h3 h4 e k4;go_enter Tryz.func153,Tryz.ntmps153;go_wp2_with fail;refine C1.out.mono ?_;rintro e w1 ⟨rfl,rfl⟩;go_wp2_with fail;refine C2.out.mono ?_;rintro e w1 ⟨rfl,rfl⟩;go_wp2_with fail;refine C3.out.mono ?_;rintro e w1 ⟨rfl,rfl⟩;go_wp2_with fail;refine C4.out.mono ?_;rintro e w1 ⟨rfl,rfl⟩;go_wp2;refine bodyPost_ret (v:=.tuple #[zv,.bool false]) (by simp[results,Tryz.results153,go_sem,zv]) rfl ?_;rw[E.out];exact⟨ad_ (aw_ w _),_,_,_,_,_,_,rfl⟩
theorem o9_ (n N B:Nat)(w:World)(l:List Tok)(ih:nV_ n)(h:Rd N B w l)(hN:N≤w.heap.size)(hok:c6_ l)(hl:l.length≤4000)(hn:4*l.length+2≤n+1)(h1:sk l 1=false)(h2:sk l 2=false)(h3:sk l 5=false)(h4:st l 6 dT_=true):Calls Tryz.prog 153 #[.pointer (some ⟨B,0,none⟩)] w (cN_ N B w (aI_ (n+1) l)):=by
 have hr:=h.low (aw_ w (.cells #[.int .i64 0,.string ByteArray.empty,.int .i64 0,.slice none 0 0] 37));have C1:=hid (bv_ hr (k:=1) (s:=[]) (ch_ h1));have C2:=hid (bv_ hr (k:=2) (s:=[]) (ch_ h2));have C3:=hid (bv_ hr (k:=5) (s:=[]) (ch_ h3));have C4:=hid (b1_ hr (k:=6) (s:=dT_) (f3_ (by decide) h4));have b4:=hid (B4.new w (.int .i64 0) (.string ByteArray.empty) (.int .i64 0) (.slice none 0 0));have HR:=hid hr;have htl:l.tail.length+1=l.length:=by have:=d5_ h4;rw[List.length_tail];omega
 have e:aI_ (n+1) l=(match bC_ n l.tail with|none=>none|some (t,r)=>if st r 6 fD_ then some (t,r.tail) else none):=by
  rw[aI_,h1,if_neg (by simp),h2,if_neg (by simp),h3,if_neg (by simp),if_pos h4];rfl
 have IH:=hid (fun w1 (hr1:Rd N B w1 l.tail) (hN1:N≤w1.heap.size)=>ih.typ N B w1 l.tail hr1 hN1 hok.tail (by omega) (by omega));have E:=hid e;clear h hr h1 h2 h3 h4 e ih hok;go_enter Tryz.func153,Tryz.ntmps153;go_wp2_with fail;refine C1.out.mono ?_;rintro e w1 ⟨rfl,rfl⟩;go_wp2_with fail;refine C2.out.mono ?_;rintro e w1 ⟨rfl,rfl⟩;go_wp2_with fail;refine C3.out.mono ?_;rintro e w1 ⟨rfl,rfl⟩;go_wp2_with fail;refine C4.out.mono ?_;rintro e w1 ⟨rfl,hrd,hg⟩;have k4:=b4.out.grown hg (fun e=>b4.out.ne_rd HR.out (by injection e with e;exact e.symm));have hs1:=hg.size;have K4:=hid k4;have RD:=hid hrd;have G:=hid (ac_ (ad_ (aw_ w _)) hg);have hs1:w.heap.size<w1.heap.size:=by have:=hg.size;simp at this;omega
 clear k4 hrd hg;go_wp2_with fail;refine (IH.out w1 RD.out (by omega)).mono ?_;rintro e w2 ⟨hg2,hres⟩;have k5:=K4.out.grown hg2 (fun e=>K4.out.ne_rd RD.out (by injection e with e;exact e.symm));have hs2:=hg2.size;have K5:=hid k5;have G2:=hid (ac_ G.out hg2);clear k5;cases hT:bC_ n l.tail with
 | none =>
  rw[hT] at hres;obtain⟨k,s,m,a,c,c',rfl⟩:=hres;have e2:aI_ (n+1) l=none:=by rw[E.out,hT]
  have E2:=hid e2;have k6:=K5.out.low (aw_ w2 (.cells #[.int .i64 k,.string s,.int .i64 m,.slice a c c'] 37));obtain⟨c0,c1,c2,c3⟩:=k6.c03;obtain⟨f0,f1,f2,f3⟩:=k6.f03;have K6:=hid k6;clear e2 hT hg2 k6;go_wp2;have q4:=K6.out.set4 (.int .i64 0) (.string ⟨#[]⟩) (.int .i64 0) (.slice none 0 0);have g4:=aq_ (ac_ G2.out (ad_ (aw_ w2 (.cells #[.int .i64 k,.string s,.int .i64 m,.slice a c c'] 37)))) (aC_ _) (.int .i64 0) (.string ⟨#[]⟩) (.int .i64 0) (.slice none 0 0);refine bodyPost_ret (v:=.tuple #[zv,.bool false]) (by simp[results,Tryz.results153,go_sem,zv,q4.c0,q4.c1,q4.c2,q4.c3]) rfl ?_;rw[E2.out];exact⟨g4,_,_,_,_,_,_,rfl⟩
 | some x =>
  obtain⟨t,r⟩:=x;rw[hT] at hres;obtain⟨a,c,rfl,hA,hR⟩:=hres;have hb3:=aw_ w2 (.cells #[.int .i64 t.kind,.string t.name,.int .i64 t.n,.slice a t.args.length c] 37);have hR3:=hR.low hb3;have k6:=K5.out.low hb3;have kt:=B4.new w2 (.int .i64 t.kind) (.string t.name) (.int .i64 t.n) (.slice a t.args.length c);have hBlt:B<w.heap.size+1:=by
   obtain⟨v,hv⟩:=HR.out.blk;have:=(Array.getElem?_eq_some_iff.1 hv).1;simpa using this
  have hBne:=K4.out.ne_rd RD.out;have hBl:B<w.heap.size:=by omega
  cases hp:st r 6 fD_
  ·have e2:aI_ (n+1) l=none:=by rw[E.out,hT];simp[hp]
   have E2:=hid e2;have C5:=hid (bv_ hR3 (k:=6) (s:=fD_) (f3_ (by decide) hp));obtain⟨c0,c1,c2,c3⟩:=k6.c03;obtain⟨f0,f1,f2,f3⟩:=k6.f03;obtain⟨t0,t1,t2,t3⟩:=kt.c03;have K6:=hid k6;have G3:=hid (ac_ G2.out (ad_ hb3));clear e2 hT hg2 k6 kt hb3 hR3 hR hA hp;unfold tv;go_wp2_with fail;refine C5.out.mono ?_;rintro e w4 ⟨rfl,rfl⟩;go_wp2;have q4:=K6.out.set4 (.int .i64 t.kind) (.string t.name) (.int .i64 t.n) (.slice a t.args.length c);have g4:=aq_ G3.out (aC_ _) (.int .i64 t.kind) (.string t.name) (.int .i64 t.n) (.slice a t.args.length c);refine bodyPost_ret (v:=.tuple #[tv t a c,.bool false]) (by simp[results,Tryz.results153,go_sem,tv,q4.c0,q4.c1,q4.c2,q4.c3]) rfl ?_;rw[E2.out];exact⟨g4,_,_,_,_,_,_,rfl⟩
  ·have e2:aI_ (n+1) l=some (t,r.tail):=by rw[E.out,hT];simp[hp]
   have E2:=hid e2;have C5:=hid (b1_ hR3 (k:=6) (s:=fD_) (f3_ (by decide) hp));have K6:=hid k6;have KT:=hid kt;have R3:=hid hR3;have HA:=hid hA;have G3:=hid (ac_ G2.out (ad_ hb3));clear e2 hT hg2 k6 kt hb3 hR3 hR hA hp;unfold tv;go_wp2_with fail;refine C5.out.mono ?_;rintro e w4 ⟨rfl,hR4,hg4⟩;have k7:=K6.out.grown hg4 (fun e=>K6.out.ne_rd R3.out (by injection e with e;exact e.symm));have kt7:=KT.out.grown hg4 (fun e=>KT.out.ne_rd R3.out (by injection e with e;exact e.symm));obtain⟨c0,c1,c2,c3⟩:=k7.c03;obtain⟨f0,f1,f2,f3⟩:=k7.f03;obtain⟨t0,t1,t2,t3⟩:=kt7.c03;have hne:=k7.ne_rd hR4;have K7:=hid k7;have G7:=hid (ac_ G3.out hg4);have R4:=hid hR4;have H4:=hid hg4;clear k7 kt7 hR4 hg4;go_wp2;have q4:=K7.out.set4 (.int .i64 t.kind) (.string t.name) (.int .i64 t.n) (.slice a t.args.length c);have g4:=aq_ G7.out (aC_ _) (.int .i64 t.kind) (.string t.name) (.int .i64 t.n) (.slice a t.args.length c);have r4:=R4.out.set4 (Ne.symm hne) hN (.int .i64 t.kind) (.string t.name) (.int .i64 t.n) (.slice a t.args.length c);have hz4:=H4.out.size;have ha4:=HA.out.keep (B:=(((w4.setCell ⟨w.heap.size,0,none⟩ (.int .i64 t.kind)).setCell ⟨w.heap.size,1,none⟩ (.string t.name)).setCell ⟨w.heap.size,2,none⟩ (.int .i64 t.n)).setCell ⟨w.heap.size,3,none⟩ (.slice a t.args.length c)) (fun b hb=>by
    obtain⟨b1,b2⟩:=hb;rw[aB_ _ _ _ _ (by simp;omega),aB_ _ _ _ _ (by simp;omega),aB_ _ _ _ _ (by simp;omega),aB_ _ _ _ _ (by simp;omega)];rw[H4.out.block b (by simp;omega) (fun e=>by injection e;omega)];exact Below.heap_alloc _ _ _ b2)
   refine bodyPost_ret (v:=.tuple #[tv t a c,.bool true]) (by simp[results,Tryz.results153,go_sem,tv,q4.c0,q4.c1,q4.c2,q4.c3]) rfl ?_;rw[E2.out];refine⟨g4,a,c,rfl,ha4.mono (fun b hb=>⟨by have:=hb.1;omega,?_⟩),r4⟩;have:=hb.2;simp at hz4 ⊢;omega
theorem pb_ (n N B:Nat)(w:World)(l:List Tok)(ih:nV_ n)(h:Rd N B w l)(hN:N≤w.heap.size)(hok:c6_ l)(hl:l.length≤4000)(hn:4*l.length+2≤n+1):Calls Tryz.prog 153 #[.pointer (some ⟨B,0,none⟩)] w (cN_ N B w (aI_ (n+1) l)):=by
 cases h1:sk l 1
 ·cases h2:sk l 2
  ·cases h3:sk l 5
   ·cases h4:st l 6 dT_
    ·exact nx_ n N B w l h h1 h2 h3 h4
    ·exact o9_ n N B w l ih h hN hok hl hn h1 h2 h3 h4
   ·exact ny_ n N B w l h hN hok h1 h2 h3
  ·exact pa_ n N B w l h hN h1 h2
 ·exact o8_ n N B w l h hN h1
end Go.Proofs.YtjecnionbjlncaaGreatDoor.Tp

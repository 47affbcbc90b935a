/- Texts laid together: RcPrP, RcPrA, RcPrB, RcPrint, RcHold. -/
import Derived.Test.YtkihnodkhnahiaaGreatDoorP46
import Derived.Test.YtkihnodkhnahiaaGreatDoorP45
import Derived.Test.YtkihnodkhnahiaaGreatDoorP51
set_option maxRecDepth 100000
set_option maxHeartbeats 6400000
namespace Go.Proofs.YtkihnodkhnahiaaGreatDoor.Tp
section
open Go.RowKit
def oz_ (c:Co):List UInt8:=if c.kind=5∨c.kind=7 then 32 :: c.name.data.toList else if c.kind=8 then 32 :: Lib.itoa c.n else []
def iM_ (c:Co):List UInt8:=if c.kind=9 then 32 :: 60 :: ae_ c.t++[62] else []
def b5_ (c:Co)(i:Nat):List UInt8:=40 :: (aR_ c.kind++oz_ c++be_ (c.kids.take i))
theorem gD_ (a b:List Co):be_ (a++b)=be_ a++be_ b:=by
 induction a with
 | nil=>rfl
 | cons x xs ih=>rw[List.cons_append,be_,be_,ih,List.append_assoc]
theorem ec_ (c:Co)(i:Nat)(h:i<c.kids.length):b5_ c (i+1)=b5_ c i++32 :: al_ c.kids[i]:=by
 unfold b5_;rw[List.take_succ_eq_append_getElem h,gD_,be_,be_,List.append_nil];simp
theorem cw_ (c:Co)(h1:c.kind≠1)(h2:c.kind≠2):al_ c=b5_ c c.kids.length++iM_ c++[41]:=by
 cases c with
 | mk k s n t ks =>
  have h1:¬ k=1:=h1;have h2:¬ k=2:=h2;rw[al_,if_neg h1,if_neg h2];unfold b5_ oz_ iM_;simp only[Co.kind,Co.name,Co.n,Co.t,Co.kids,List.take_length];rfl
theorem e2_ (c:Co)(h1:c.kind≠1)(h2:c.kind≠2)(i:Nat):(b5_ c i).length+(iM_ c).length≤(al_ c).length:=by
 rw[cw_ c h1 h2];have:(be_ (c.kids.take i)).length≤(be_ c.kids).length:=by
  conv=>rhs;rw[← List.take_append_drop i c.kids,gD_]
  rw[List.length_append];omega
 unfold b5_;simp only[List.take_length,List.length_append,List.length_cons,List.length_nil];omega
def aS_ (c:Co):Prop:=∀ (S:Nat→Prop) (a:Option Addr) (n:Nat) (ka:Option Addr) (kn:Nat) (w:World),bO_ S w c a n ka kn→(∀ b,S b→b<w.heap.size)→WfC c→(al_ c).length≤1000000000 →
 Calls Tryz.prog 19 #[cv c a n ka kn] w (aK_ w (al_ c))
theorem jn_ (c:Co)(hk:c.kind=1):aS_ c:=by
 intro S a n ka kn w hC hS hw hl;have E:Hid (aa_ (al_ c)=c.name):=hid (by cases c with|mk k s n t ks=>rw[al_,if_pos (show k=1 from hk)];rfl);have b8:=Z8.new w (.int .i64 c.kind) (.string c.name) (.int .i64 c.n) (.int .i64 c.t.kind) (.string c.t.name) (.int .i64 c.t.n) (.slice a c.t.args.length n) (.slice ka c.kids.length kn);have B0:=hid (ao_ w (.cells #[.int .i64 c.kind,.string c.name,.int .i64 c.n,.int .i64 c.t.kind,.string c.t.name,.int .i64 c.t.n,.slice a c.t.args.length n,.slice ka c.kids.length kn] 59));have c0:=b8.c0;have c1:=b8.c1;clear hC hS hw hl b8;unfold cv;rw[hk] at *;go_enter Tryz.func19,Tryz.ntmps19;go_wp2;go_ret;exact⟨by rw[E.out];rfl,B0.out⟩
theorem iw_ (c:Co)(hk:c.kind=2):aS_ c:=by
 intro S a n ka kn w hC hS hw hl;have EP:al_ c=60 :: ae_ c.t++[62]:=by cases c with|mk k s n t ks=>rw[al_,if_neg (by rw[show k=2 from hk];decide),if_pos (show k=2 from hk)];rfl
 have b8:=Z8.new w (.int .i64 c.kind) (.string c.name) (.int .i64 c.n) (.int .i64 c.t.kind) (.string c.t.name) (.int .i64 c.t.n) (.slice a c.t.args.length n) (.slice ka c.kids.length kn);have hb:=ao_ w (.cells #[.int .i64 c.kind,.string c.name,.int .i64 c.n,.int .i64 c.t.kind,.string c.t.name,.int .i64 c.t.n,.slice a c.t.args.length n,.slice ka c.kids.length kn] 59);have B0:=hid hb;have c0:=b8.c0;have c3:=b8.c3;have c4:=b8.c4;have c5:=b8.c5;have c6:=b8.c6;have hpl:(ae_ c.t).length≤1000000000:=by rw[EP] at hl;simp at hl;omega
 have C:=hid (hf_ c.t S a n _ (c29 hC hS _ hb) (fun b h=>aM_ (hS b h) hb.size) (hw.ok (.inl hk)).2.1 (by omega));have E:Hid ((⟨#[60]⟩:ByteArray)++aa_ (ae_ c.t)++⟨#[62]⟩=aa_ (al_ c)):=hid (by rw[EP];show aa_ [60]++aa_ (ae_ c.t)++aa_ [62]=_;rw[af_,af_];rfl);have hz:(aa_ (ae_ c.t)).size≤1000000000:=by rw[aj_];exact hpl
 clear hC hS hw hl b8 hb EP hpl;unfold cv;unfold tv at C;unfold aK_ at *;generalize aa_ (al_ c)=sr at *;generalize aa_ (ae_ c.t)=st at *;rw[hk] at *;go_enter Tryz.func19,Tryz.ntmps19;go_wp2_with fail;refine C.out.mono ?_;rintro e w1 ⟨rfl,hb1⟩;have B1:=hid (B0.out.trans (hb1.mono B0.out.size));clear hb1;have z1:(⟨#[60]⟩++st:ByteArray).size≤1000000001:=by rw[ByteArray.size_append];show 1+st.size≤_;omega
 go_wp2;go_ret;exact⟨by rw[← E.out];rfl,B1.out⟩
theorem mf_ (c:Co)(hk:c.kind=3)(ih:∀ x∈c.kids,aS_ x):aS_ c:=by
 intro S a n ka kn w hC hS hw hl;have h1:c.kind≠1:=by omega
 have h2:c.kind≠2:=by omega
 have E0:Hid (((⟨#[40]⟩++⟨#[83,121,109]⟩):ByteArray)=aa_ (b5_ c 0)):=hid (by unfold b5_ oz_;rw[hk,List.take_zero,be_,if_neg (by decide),if_neg (by decide)];rfl);have hz0:=ao_ w (.cells #[.int .i64 c.kind,.string c.name,.int .i64 c.n,.int .i64 c.t.kind,.string c.t.name,.int .i64 c.t.n,.slice a c.t.args.length n,.slice ka c.kids.length kn] 59);have hz1:=hz0.alloc (by simp) (.cells #[.string ⟨#[83,121,109]⟩,.string ⟨#[84,114,97,110,115]⟩,.string ⟨#[67,111,110]⟩,.string ⟨#[70,117,110]⟩,.string ⟨#[65,108,108]⟩,.string ⟨#[78,116,104]⟩,.string ⟨#[73,110,115,116]⟩] 9);have b8:=(Z8.new w (.int .i64 c.kind) (.string c.name) (.int .i64 c.n) (.int .i64 c.t.kind) (.string c.t.name) (.int .i64 c.t.n) (.slice a c.t.args.length n) (.slice ka c.kids.length kn)).low (ao_ _ (.cells #[.string ⟨#[83,121,109]⟩,.string ⟨#[84,114,97,110,115]⟩,.string ⟨#[67,111,110]⟩,.string ⟨#[70,117,110]⟩,.string ⟨#[65,108,108]⟩,.string ⟨#[78,116,104]⟩,.string ⟨#[73,110,115,116]⟩] 9));have cw:((w.alloc (.cells #[.int .i64 c.kind,.string c.name,.int .i64 c.n,.int .i64 c.t.kind,.string c.t.name,.int .i64 c.t.n,.slice a c.t.args.length n,.slice ka c.kids.length kn] 59)).alloc (.cells #[.string ⟨#[83,121,109]⟩,.string ⟨#[84,114,97,110,115]⟩,.string ⟨#[67,111,110]⟩,.string ⟨#[70,117,110]⟩,.string ⟨#[65,108,108]⟩,.string ⟨#[78,116,104]⟩,.string ⟨#[73,110,115,116]⟩] 9)).cell? ⟨w.heap.size+1,0,none⟩=some (.string ⟨#[83,121,109]⟩):=by
  rw[show w.heap.size+1=(w.alloc (.cells #[.int .i64 c.kind,.string c.name,.int .i64 c.n,.int .i64 c.t.kind,.string c.t.name,.int .i64 c.t.n,.slice a c.t.args.length n,.slice ka c.kids.length kn] 59)).heap.size from by simp,cell_of_row _ _ 0 _ _ (0,0) (heap_alloc_new _ _)];rfl
 have hkl:c.kids.length≤4000:=hw.k.2.1;have EP:=hid (cw_ c h1 h2);have PL:=hid (fun i=>e2_ c h1 h2 i);have KL:Hid (∀ x∈c.kids,(al_ x).length≤(al_ c).length):=hid fun x hx=>c6_ c h1 h2 hx;have EF:Hid (iM_ c=[]):=hid (by unfold iM_;rw[if_neg (by omega)]);have HC:=hid hC;have HS:=hid hS;have HL:=hid hl;have IH:=hid ih;have HWK:=hid hw.kids;rw[hk] at hz1 b8 cw;have B0:=hid hz1;have K0:=hid b8;have c0:=b8.c0;have c1:=b8.c1;have c2:=b8.c2;clear hC hS hw hl ih hz0 hz1 b8 h1 h2;unfold cv;rw[hk];go_enter Tryz.func19,Tryz.ntmps19;have c7:=K0.out.c7;go_wp2
 go_loopw [4,5] (fun sv iv wr=>∃ i:Nat,iv=.int .i64 i∧i≤c.kids.length∧sv=.string (aa_ (b5_ c i))∧Z8 wr w.heap.size (.int .i64 3) (.string c.name) (.int .i64 c.n) (.int .i64 c.t.kind) (.string c.t.name) (.int .i64 c.t.n) (.slice a c.t.args.length n) (.slice ka c.kids.length kn)∧Below w.heap.size w wr) (fun _ iv _=>c.kids.length - (intOf iv).toNat)
 case atStart=>exact⟨0,rfl,Nat.zero_le _,by rw[← E0.out],K0.out,B0.out⟩
 case round =>
  clear c0 c1 c2 cw c7;obtain⟨i,rfl,hil,rfl,hK,hB⟩:=hrel;have z0:(0:Int)≤(i:Int):=by omega
  have KH:=hid hK;have BH:=hid hB;have hps:(aa_ (b5_ c i)).size≤1000000000:=by rw[aj_];have h1:=PL.out i;have h2:=HL.out;omega
  by_cases hi:i<c.kids.length
  ·have z1:(i:Int)<(c.kids.length:Int):=by omega
   obtain⟨b,off,a1,n1,a2,n2,rfl,hb,hf,hs,hk2⟩:=HC.out.k.at_ hi;have hn:=HS.out;obtain⟨f0,f1,f2,f3,f4,f5,f6,f7⟩:=hf.keep (hB.block b (hn b hb));have hm_:=List.getElem_mem hi;have hx1:=HWK.out _ hm_;have hx2:=bc_ (KL.out _ hm_) HL.out;have CH:=hid (IH.out _ hm_ S a1 n1 a2 n2 wr ⟨hs.keep fun b hS=>hB.block b (hn b hS),hk2.keep fun b hS=>hB.block b (hn b hS)⟩ (fun b hS=>aM_ (hn b hS) hB.size) hx1 hx2);have CA:=hid (ec_ c i hi);have hxs:(aa_ (al_ c.kids[i])).size≤1000000000:=by rw[aj_];exact hx2
   have c7:=hK.c7;have CE:Hid (aa_ (b5_ c i)++⟨#[32]⟩++aa_ (al_ c.kids[i])=aa_ (b5_ c (i+1))):=hid (by
    rw[CA.out];show aa_ _++aa_ [32]++aa_ _=_;rw[af_,af_];simp)
   clear hf hs hk2 hB hK hm_ hn hb hx1 hx2;unfold cv aK_ at CH;generalize c.kids[i]=x at *;generalize aa_ (al_ x)=px at *;generalize aa_ (b5_ c i)=s0 at *;have z5:(s0++(⟨#[32]⟩:ByteArray)).size≤1000000001:=by rw[ByteArray.size_append];show s0.size+1≤_;omega
   go_wp2_with fail;refine CH.out.mono ?_;rintro e w4 ⟨rfl,hb4⟩;have B4_:=hid (BH.out.trans (hb4.mono BH.out.size));have K4:=hid (KH.out.low hb4);clear hb4;go_wp2;go_roundw
   case rel=>exact⟨i+1,by go_num,by omega,by rw[← CE.out],K4.out,B4_.out⟩
   case measure=>simp[intOf];omega
  ·obtain rfl:i=c.kids.length:=by omega
   have c0:=hK.c0;have c7:=hK.c7;have CE:Hid (aa_ (b5_ c c.kids.length)++⟨#[41]⟩=aa_ (al_ c)):=hid (by
    rw[EP.out,EF.out,List.append_nil];show aa_ _++aa_ [41]=_;rw[af_])
   clear hB hK;generalize aa_ (b5_ c c.kids.length)=s0 at *;go_wp2;go_ret;exact⟨by rw[← CE.out];rfl,BH.out⟩
theorem me_ (c:Co)(hk:c.kind=4)(ih:∀ x∈c.kids,aS_ x):aS_ c:=by
 intro S a n ka kn w hC hS hw hl;have h1:c.kind≠1:=by omega
 have h2:c.kind≠2:=by omega
 have E0:Hid (((⟨#[40]⟩++⟨#[84,114,97,110,115]⟩):ByteArray)=aa_ (b5_ c 0)):=hid (by unfold b5_ oz_;rw[hk,List.take_zero,be_,if_neg (by decide),if_neg (by decide)];rfl);have hz0:=ao_ w (.cells #[.int .i64 c.kind,.string c.name,.int .i64 c.n,.int .i64 c.t.kind,.string c.t.name,.int .i64 c.t.n,.slice a c.t.args.length n,.slice ka c.kids.length kn] 59);have hz1:=hz0.alloc (by simp) (.cells #[.string ⟨#[83,121,109]⟩,.string ⟨#[84,114,97,110,115]⟩,.string ⟨#[67,111,110]⟩,.string ⟨#[70,117,110]⟩,.string ⟨#[65,108,108]⟩,.string ⟨#[78,116,104]⟩,.string ⟨#[73,110,115,116]⟩] 9);have b8:=(Z8.new w (.int .i64 c.kind) (.string c.name) (.int .i64 c.n) (.int .i64 c.t.kind) (.string c.t.name) (.int .i64 c.t.n) (.slice a c.t.args.length n) (.slice ka c.kids.length kn)).low (ao_ _ (.cells #[.string ⟨#[83,121,109]⟩,.string ⟨#[84,114,97,110,115]⟩,.string ⟨#[67,111,110]⟩,.string ⟨#[70,117,110]⟩,.string ⟨#[65,108,108]⟩,.string ⟨#[78,116,104]⟩,.string ⟨#[73,110,115,116]⟩] 9));have cw:((w.alloc (.cells #[.int .i64 c.kind,.string c.name,.int .i64 c.n,.int .i64 c.t.kind,.string c.t.name,.int .i64 c.t.n,.slice a c.t.args.length n,.slice ka c.kids.length kn] 59)).alloc (.cells #[.string ⟨#[83,121,109]⟩,.string ⟨#[84,114,97,110,115]⟩,.string ⟨#[67,111,110]⟩,.string ⟨#[70,117,110]⟩,.string ⟨#[65,108,108]⟩,.string ⟨#[78,116,104]⟩,.string ⟨#[73,110,115,116]⟩] 9)).cell? ⟨w.heap.size+1,1,none⟩=some (.string ⟨#[84,114,97,110,115]⟩):=by
  rw[show w.heap.size+1=(w.alloc (.cells #[.int .i64 c.kind,.string c.name,.int .i64 c.n,.int .i64 c.t.kind,.string c.t.name,.int .i64 c.t.n,.slice a c.t.args.length n,.slice ka c.kids.length kn] 59)).heap.size from by simp,cell_of_row _ _ 1 _ _ (0,0) (heap_alloc_new _ _)];rfl
 have hkl:c.kids.length≤4000:=hw.k.2.1;have EP:=hid (cw_ c h1 h2);have PL:=hid (fun i=>e2_ c h1 h2 i);have KL:Hid (∀ x∈c.kids,(al_ x).length≤(al_ c).length):=hid fun x hx=>c6_ c h1 h2 hx;have EF:Hid (iM_ c=[]):=hid (by unfold iM_;rw[if_neg (by omega)]);have HC:=hid hC;have HS:=hid hS;have HL:=hid hl;have IH:=hid ih;have HWK:=hid hw.kids;rw[hk] at hz1 b8 cw;have B0:=hid hz1;have K0:=hid b8;have c0:=b8.c0;have c1:=b8.c1;have c2:=b8.c2;clear hC hS hw hl ih hz0 hz1 b8 h1 h2;unfold cv;rw[hk];go_enter Tryz.func19,Tryz.ntmps19;have c7:=K0.out.c7;go_wp2
 go_loopw [4,5] (fun sv iv wr=>∃ i:Nat,iv=.int .i64 i∧i≤c.kids.length∧sv=.string (aa_ (b5_ c i))∧Z8 wr w.heap.size (.int .i64 4) (.string c.name) (.int .i64 c.n) (.int .i64 c.t.kind) (.string c.t.name) (.int .i64 c.t.n) (.slice a c.t.args.length n) (.slice ka c.kids.length kn)∧Below w.heap.size w wr) (fun _ iv _=>c.kids.length - (intOf iv).toNat)
 case atStart=>exact⟨0,rfl,Nat.zero_le _,by rw[← E0.out],K0.out,B0.out⟩
 case round =>
  clear c0 c1 c2 cw c7;obtain⟨i,rfl,hil,rfl,hK,hB⟩:=hrel;have z0:(0:Int)≤(i:Int):=by omega
  have KH:=hid hK;have BH:=hid hB;have hps:(aa_ (b5_ c i)).size≤1000000000:=by rw[aj_];have h1:=PL.out i;have h2:=HL.out;omega
  by_cases hi:i<c.kids.length
  ·have z1:(i:Int)<(c.kids.length:Int):=by omega
   obtain⟨b,off,a1,n1,a2,n2,rfl,hb,hf,hs,hk2⟩:=HC.out.k.at_ hi;have hn:=HS.out;obtain⟨f0,f1,f2,f3,f4,f5,f6,f7⟩:=hf.keep (hB.block b (hn b hb));have hm_:=List.getElem_mem hi;have hx1:=HWK.out _ hm_;have hx2:=bc_ (KL.out _ hm_) HL.out;have CH:=hid (IH.out _ hm_ S a1 n1 a2 n2 wr ⟨hs.keep fun b hS=>hB.block b (hn b hS),hk2.keep fun b hS=>hB.block b (hn b hS)⟩ (fun b hS=>aM_ (hn b hS) hB.size) hx1 hx2);have CA:=hid (ec_ c i hi);have hxs:(aa_ (al_ c.kids[i])).size≤1000000000:=by rw[aj_];exact hx2
   have c7:=hK.c7;have CE:Hid (aa_ (b5_ c i)++⟨#[32]⟩++aa_ (al_ c.kids[i])=aa_ (b5_ c (i+1))):=hid (by
    rw[CA.out];show aa_ _++aa_ [32]++aa_ _=_;rw[af_,af_];simp)
   clear hf hs hk2 hB hK hm_ hn hb hx1 hx2;unfold cv aK_ at CH;generalize c.kids[i]=x at *;generalize aa_ (al_ x)=px at *;generalize aa_ (b5_ c i)=s0 at *;have z5:(s0++(⟨#[32]⟩:ByteArray)).size≤1000000001:=by rw[ByteArray.size_append];show s0.size+1≤_;omega
   go_wp2_with fail;refine CH.out.mono ?_;rintro e w4 ⟨rfl,hb4⟩;have B4_:=hid (BH.out.trans (hb4.mono BH.out.size));have K4:=hid (KH.out.low hb4);clear hb4;go_wp2;go_roundw
   case rel=>exact⟨i+1,by go_num,by omega,by rw[← CE.out],K4.out,B4_.out⟩
   case measure=>simp[intOf];omega
  ·obtain rfl:i=c.kids.length:=by omega
   have c0:=hK.c0;have c7:=hK.c7;have CE:Hid (aa_ (b5_ c c.kids.length)++⟨#[41]⟩=aa_ (al_ c)):=hid (by
    rw[EP.out,EF.out,List.append_nil];show aa_ _++aa_ [41]=_;rw[af_])
   clear hB hK;generalize aa_ (b5_ c c.kids.length)=s0 at *;go_wp2;go_ret;exact⟨by rw[← CE.out];rfl,BH.out⟩
theorem md_ (c:Co)(hk:c.kind=5)(ih:∀ x∈c.kids,aS_ x):aS_ c:=by
 intro S a n ka kn w hC hS hw hl;have h1:c.kind≠1:=by omega
 have h2:c.kind≠2:=by omega
 have E0:Hid (((⟨#[40]⟩++⟨#[67,111,110]⟩++⟨#[32]⟩++c.name):ByteArray)=aa_ (b5_ c 0)):=hid (by unfold b5_ oz_;rw[hk,List.take_zero,be_,if_pos (by decide)];show aa_ [40]++aa_ [67,111,110]++aa_ [32]++c.name=_;rw[← ej_ c.name,af_,af_,af_,ej_];simp only[List.append_nil];rfl);have hms:c.name.size≤64:=hw.k.1;have hz0:=ao_ w (.cells #[.int .i64 c.kind,.string c.name,.int .i64 c.n,.int .i64 c.t.kind,.string c.t.name,.int .i64 c.t.n,.slice a c.t.args.length n,.slice ka c.kids.length kn] 59);have hz1:=hz0.alloc (by simp) (.cells #[.string ⟨#[83,121,109]⟩,.string ⟨#[84,114,97,110,115]⟩,.string ⟨#[67,111,110]⟩,.string ⟨#[70,117,110]⟩,.string ⟨#[65,108,108]⟩,.string ⟨#[78,116,104]⟩,.string ⟨#[73,110,115,116]⟩] 9);have b8:=(Z8.new w (.int .i64 c.kind) (.string c.name) (.int .i64 c.n) (.int .i64 c.t.kind) (.string c.t.name) (.int .i64 c.t.n) (.slice a c.t.args.length n) (.slice ka c.kids.length kn)).low (ao_ _ (.cells #[.string ⟨#[83,121,109]⟩,.string ⟨#[84,114,97,110,115]⟩,.string ⟨#[67,111,110]⟩,.string ⟨#[70,117,110]⟩,.string ⟨#[65,108,108]⟩,.string ⟨#[78,116,104]⟩,.string ⟨#[73,110,115,116]⟩] 9));have cw:((w.alloc (.cells #[.int .i64 c.kind,.string c.name,.int .i64 c.n,.int .i64 c.t.kind,.string c.t.name,.int .i64 c.t.n,.slice a c.t.args.length n,.slice ka c.kids.length kn] 59)).alloc (.cells #[.string ⟨#[83,121,109]⟩,.string ⟨#[84,114,97,110,115]⟩,.string ⟨#[67,111,110]⟩,.string ⟨#[70,117,110]⟩,.string ⟨#[65,108,108]⟩,.string ⟨#[78,116,104]⟩,.string ⟨#[73,110,115,116]⟩] 9)).cell? ⟨w.heap.size+1,2,none⟩=some (.string ⟨#[67,111,110]⟩):=by
  rw[show w.heap.size+1=(w.alloc (.cells #[.int .i64 c.kind,.string c.name,.int .i64 c.n,.int .i64 c.t.kind,.string c.t.name,.int .i64 c.t.n,.slice a c.t.args.length n,.slice ka c.kids.length kn] 59)).heap.size from by simp,cell_of_row _ _ 2 _ _ (0,0) (heap_alloc_new _ _)];rfl
 have hkl:c.kids.length≤4000:=hw.k.2.1;have EP:=hid (cw_ c h1 h2);have PL:=hid (fun i=>e2_ c h1 h2 i);have KL:Hid (∀ x∈c.kids,(al_ x).length≤(al_ c).length):=hid fun x hx=>c6_ c h1 h2 hx;have EF:Hid (iM_ c=[]):=hid (by unfold iM_;rw[if_neg (by omega)]);have HC:=hid hC;have HS:=hid hS;have HL:=hid hl;have IH:=hid ih;have HWK:=hid hw.kids;rw[hk] at hz1 b8 cw;have B0:=hid hz1;have K0:=hid b8;have c0:=b8.c0;have c1:=b8.c1;have c2:=b8.c2;clear hC hS hw hl ih hz0 hz1 b8 h1 h2;unfold cv;rw[hk];go_enter Tryz.func19,Tryz.ntmps19;have c7:=K0.out.c7;go_wp2
 go_loopw [4,5] (fun sv iv wr=>∃ i:Nat,iv=.int .i64 i∧i≤c.kids.length∧sv=.string (aa_ (b5_ c i))∧Z8 wr w.heap.size (.int .i64 5) (.string c.name) (.int .i64 c.n) (.int .i64 c.t.kind) (.string c.t.name) (.int .i64 c.t.n) (.slice a c.t.args.length n) (.slice ka c.kids.length kn)∧Below w.heap.size w wr) (fun _ iv _=>c.kids.length - (intOf iv).toNat)
 case atStart=>exact⟨0,rfl,Nat.zero_le _,by rw[← E0.out],K0.out,B0.out⟩
 case round =>
  clear c0 c1 c2 cw c7;obtain⟨i,rfl,hil,rfl,hK,hB⟩:=hrel;have z0:(0:Int)≤(i:Int):=by omega
  have KH:=hid hK;have BH:=hid hB;have hps:(aa_ (b5_ c i)).size≤1000000000:=by rw[aj_];have h1:=PL.out i;have h2:=HL.out;omega
  by_cases hi:i<c.kids.length
  ·have z1:(i:Int)<(c.kids.length:Int):=by omega
   obtain⟨b,off,a1,n1,a2,n2,rfl,hb,hf,hs,hk2⟩:=HC.out.k.at_ hi;have hn:=HS.out;obtain⟨f0,f1,f2,f3,f4,f5,f6,f7⟩:=hf.keep (hB.block b (hn b hb));have hm_:=List.getElem_mem hi;have hx1:=HWK.out _ hm_;have hx2:=bc_ (KL.out _ hm_) HL.out;have CH:=hid (IH.out _ hm_ S a1 n1 a2 n2 wr ⟨hs.keep fun b hS=>hB.block b (hn b hS),hk2.keep fun b hS=>hB.block b (hn b hS)⟩ (fun b hS=>aM_ (hn b hS) hB.size) hx1 hx2);have CA:=hid (ec_ c i hi);have hxs:(aa_ (al_ c.kids[i])).size≤1000000000:=by rw[aj_];exact hx2
   have c7:=hK.c7;have CE:Hid (aa_ (b5_ c i)++⟨#[32]⟩++aa_ (al_ c.kids[i])=aa_ (b5_ c (i+1))):=hid (by
    rw[CA.out];show aa_ _++aa_ [32]++aa_ _=_;rw[af_,af_];simp)
   clear hf hs hk2 hB hK hm_ hn hb hx1 hx2;unfold cv aK_ at CH;generalize c.kids[i]=x at *;generalize aa_ (al_ x)=px at *;generalize aa_ (b5_ c i)=s0 at *;have z5:(s0++(⟨#[32]⟩:ByteArray)).size≤1000000001:=by rw[ByteArray.size_append];show s0.size+1≤_;omega
   go_wp2_with fail;refine CH.out.mono ?_;rintro e w4 ⟨rfl,hb4⟩;have B4_:=hid (BH.out.trans (hb4.mono BH.out.size));have K4:=hid (KH.out.low hb4);clear hb4;go_wp2;go_roundw
   case rel=>exact⟨i+1,by go_num,by omega,by rw[← CE.out],K4.out,B4_.out⟩
   case measure=>simp[intOf];omega
  ·obtain rfl:i=c.kids.length:=by omega
   have c0:=hK.c0;have c7:=hK.c7;have CE:Hid (aa_ (b5_ c c.kids.length)++⟨#[41]⟩=aa_ (al_ c)):=hid (by
    rw[EP.out,EF.out,List.append_nil];show aa_ _++aa_ [41]=_;rw[af_])
   clear hB hK;generalize aa_ (b5_ c c.kids.length)=s0 at *;go_wp2;go_ret;exact⟨by rw[← CE.out];rfl,BH.out⟩
theorem mc_ (c:Co)(hk:c.kind=6)(ih:∀ x∈c.kids,aS_ x):aS_ c:=by
 intro S a n ka kn w hC hS hw hl;have h1:c.kind≠1:=by omega
 have h2:c.kind≠2:=by omega
 have E0:Hid (((⟨#[40]⟩++⟨#[70,117,110]⟩):ByteArray)=aa_ (b5_ c 0)):=hid (by unfold b5_ oz_;rw[hk,List.take_zero,be_,if_neg (by decide),if_neg (by decide)];rfl);have hz0:=ao_ w (.cells #[.int .i64 c.kind,.string c.name,.int .i64 c.n,.int .i64 c.t.kind,.string c.t.name,.int .i64 c.t.n,.slice a c.t.args.length n,.slice ka c.kids.length kn] 59);have hz1:=hz0.alloc (by simp) (.cells #[.string ⟨#[83,121,109]⟩,.string ⟨#[84,114,97,110,115]⟩,.string ⟨#[67,111,110]⟩,.string ⟨#[70,117,110]⟩,.string ⟨#[65,108,108]⟩,.string ⟨#[78,116,104]⟩,.string ⟨#[73,110,115,116]⟩] 9);have b8:=(Z8.new w (.int .i64 c.kind) (.string c.name) (.int .i64 c.n) (.int .i64 c.t.kind) (.string c.t.name) (.int .i64 c.t.n) (.slice a c.t.args.length n) (.slice ka c.kids.length kn)).low (ao_ _ (.cells #[.string ⟨#[83,121,109]⟩,.string ⟨#[84,114,97,110,115]⟩,.string ⟨#[67,111,110]⟩,.string ⟨#[70,117,110]⟩,.string ⟨#[65,108,108]⟩,.string ⟨#[78,116,104]⟩,.string ⟨#[73,110,115,116]⟩] 9));have cw:((w.alloc (.cells #[.int .i64 c.kind,.string c.name,.int .i64 c.n,.int .i64 c.t.kind,.string c.t.name,.int .i64 c.t.n,.slice a c.t.args.length n,.slice ka c.kids.length kn] 59)).alloc (.cells #[.string ⟨#[83,121,109]⟩,.string ⟨#[84,114,97,110,115]⟩,.string ⟨#[67,111,110]⟩,.string ⟨#[70,117,110]⟩,.string ⟨#[65,108,108]⟩,.string ⟨#[78,116,104]⟩,.string ⟨#[73,110,115,116]⟩] 9)).cell? ⟨w.heap.size+1,3,none⟩=some (.string ⟨#[70,117,110]⟩):=by
  rw[show w.heap.size+1=(w.alloc (.cells #[.int .i64 c.kind,.string c.name,.int .i64 c.n,.int .i64 c.t.kind,.string c.t.name,.int .i64 c.t.n,.slice a c.t.args.length n,.slice ka c.kids.length kn] 59)).heap.size from by simp,cell_of_row _ _ 3 _ _ (0,0) (heap_alloc_new _ _)];rfl
 have hkl:c.kids.length≤4000:=hw.k.2.1;have EP:=hid (cw_ c h1 h2);have PL:=hid (fun i=>e2_ c h1 h2 i);have KL:Hid (∀ x∈c.kids,(al_ x).length≤(al_ c).length):=hid fun x hx=>c6_ c h1 h2 hx;have EF:Hid (iM_ c=[]):=hid (by unfold iM_;rw[if_neg (by omega)]);have HC:=hid hC;have HS:=hid hS;have HL:=hid hl;have IH:=hid ih;have HWK:=hid hw.kids;rw[hk] at hz1 b8 cw;have B0:=hid hz1;have K0:=hid b8;have c0:=b8.c0;have c1:=b8.c1;have c2:=b8.c2;clear hC hS hw hl ih hz0 hz1 b8 h1 h2;unfold cv;rw[hk];go_enter Tryz.func19,Tryz.ntmps19;have c7:=K0.out.c7;go_wp2
 go_loopw [4,5] (fun sv iv wr=>∃ i:Nat,iv=.int .i64 i∧i≤c.kids.length∧sv=.string (aa_ (b5_ c i))∧Z8 wr w.heap.size (.int .i64 6) (.string c.name) (.int .i64 c.n) (.int .i64 c.t.kind) (.string c.t.name) (.int .i64 c.t.n) (.slice a c.t.args.length n) (.slice ka c.kids.length kn)∧Below w.heap.size w wr) (fun _ iv _=>c.kids.length - (intOf iv).toNat)
 case atStart=>exact⟨0,rfl,Nat.zero_le _,by rw[← E0.out],K0.out,B0.out⟩
 case round =>
  clear c0 c1 c2 cw c7;obtain⟨i,rfl,hil,rfl,hK,hB⟩:=hrel;have z0:(0:Int)≤(i:Int):=by omega
  have KH:=hid hK;have BH:=hid hB;have hps:(aa_ (b5_ c i)).size≤1000000000:=by rw[aj_];have h1:=PL.out i;have h2:=HL.out;omega
  by_cases hi:i<c.kids.length
  ·have z1:(i:Int)<(c.kids.length:Int):=by omega
   obtain⟨b,off,a1,n1,a2,n2,rfl,hb,hf,hs,hk2⟩:=HC.out.k.at_ hi;have hn:=HS.out;obtain⟨f0,f1,f2,f3,f4,f5,f6,f7⟩:=hf.keep (hB.block b (hn b hb));have hm_:=List.getElem_mem hi;have hx1:=HWK.out _ hm_;have hx2:=bc_ (KL.out _ hm_) HL.out;have CH:=hid (IH.out _ hm_ S a1 n1 a2 n2 wr ⟨hs.keep fun b hS=>hB.block b (hn b hS),hk2.keep fun b hS=>hB.block b (hn b hS)⟩ (fun b hS=>aM_ (hn b hS) hB.size) hx1 hx2);have CA:=hid (ec_ c i hi);have hxs:(aa_ (al_ c.kids[i])).size≤1000000000:=by rw[aj_];exact hx2
   have c7:=hK.c7;have CE:Hid (aa_ (b5_ c i)++⟨#[32]⟩++aa_ (al_ c.kids[i])=aa_ (b5_ c (i+1))):=hid (by
    rw[CA.out];show aa_ _++aa_ [32]++aa_ _=_;rw[af_,af_];simp)
   clear hf hs hk2 hB hK hm_ hn hb hx1 hx2;unfold cv aK_ at CH;generalize c.kids[i]=x at *;generalize aa_ (al_ x)=px at *;generalize aa_ (b5_ c i)=s0 at *;have z5:(s0++(⟨#[32]⟩:ByteArray)).size≤1000000001:=by rw[ByteArray.size_append];show s0.size+1≤_;omega
   go_wp2_with fail;refine CH.out.mono ?_;rintro e w4 ⟨rfl,hb4⟩;have B4_:=hid (BH.out.trans (hb4.mono BH.out.size));have K4:=hid (KH.out.low hb4);clear hb4;go_wp2;go_roundw
   case rel=>exact⟨i+1,by go_num,by omega,by rw[← CE.out],K4.out,B4_.out⟩
   case measure=>simp[intOf];omega
  ·obtain rfl:i=c.kids.length:=by omega
   have c0:=hK.c0;have c7:=hK.c7;have CE:Hid (aa_ (b5_ c c.kids.length)++⟨#[41]⟩=aa_ (al_ c)):=hid (by
    rw[EP.out,EF.out,List.append_nil];show aa_ _++aa_ [41]=_;rw[af_])
   clear hB hK;generalize aa_ (b5_ c c.kids.length)=s0 at *;go_wp2;go_ret;exact⟨by rw[← CE.out];rfl,BH.out⟩
theorem mb_ (c:Co)(hk:c.kind=7)(ih:∀ x∈c.kids,aS_ x):aS_ c:=by
 intro S a n ka kn w hC hS hw hl;have h1:c.kind≠1:=by omega
 have h2:c.kind≠2:=by omega
 have E0:Hid (((⟨#[40]⟩++⟨#[65,108,108]⟩++⟨#[32]⟩++c.name):ByteArray)=aa_ (b5_ c 0)):=hid (by unfold b5_ oz_;rw[hk,List.take_zero,be_,if_pos (by decide)];show aa_ [40]++aa_ [65,108,108]++aa_ [32]++c.name=_;rw[← ej_ c.name,af_,af_,af_,ej_];simp only[List.append_nil];rfl);have hms:c.name.size≤64:=hw.k.1;have hz0:=ao_ w (.cells #[.int .i64 c.kind,.string c.name,.int .i64 c.n,.int .i64 c.t.kind,.string c.t.name,.int .i64 c.t.n,.slice a c.t.args.length n,.slice ka c.kids.length kn] 59);have hz1:=hz0.alloc (by simp) (.cells #[.string ⟨#[83,121,109]⟩,.string ⟨#[84,114,97,110,115]⟩,.string ⟨#[67,111,110]⟩,.string ⟨#[70,117,110]⟩,.string ⟨#[65,108,108]⟩,.string ⟨#[78,116,104]⟩,.string ⟨#[73,110,115,116]⟩] 9);have b8:=(Z8.new w (.int .i64 c.kind) (.string c.name) (.int .i64 c.n) (.int .i64 c.t.kind) (.string c.t.name) (.int .i64 c.t.n) (.slice a c.t.args.length n) (.slice ka c.kids.length kn)).low (ao_ _ (.cells #[.string ⟨#[83,121,109]⟩,.string ⟨#[84,114,97,110,115]⟩,.string ⟨#[67,111,110]⟩,.string ⟨#[70,117,110]⟩,.string ⟨#[65,108,108]⟩,.string ⟨#[78,116,104]⟩,.string ⟨#[73,110,115,116]⟩] 9));have cw:((w.alloc (.cells #[.int .i64 c.kind,.string c.name,.int .i64 c.n,.int .i64 c.t.kind,.string c.t.name,.int .i64 c.t.n,.slice a c.t.args.length n,.slice ka c.kids.length kn] 59)).alloc (.cells #[.string ⟨#[83,121,109]⟩,.string ⟨#[84,114,97,110,115]⟩,.string ⟨#[67,111,110]⟩,.string ⟨#[70,117,110]⟩,.string ⟨#[65,108,108]⟩,.string ⟨#[78,116,104]⟩,.string ⟨#[73,110,115,116]⟩] 9)).cell? ⟨w.heap.size+1,4,none⟩=some (.string ⟨#[65,108,108]⟩):=by
  rw[show w.heap.size+1=(w.alloc (.cells #[.int .i64 c.kind,.string c.name,.int .i64 c.n,.int .i64 c.t.kind,.string c.t.name,.int .i64 c.t.n,.slice a c.t.args.length n,.slice ka c.kids.length kn] 59)).heap.size from by simp,cell_of_row _ _ 4 _ _ (0,0) (heap_alloc_new _ _)];rfl
 have hkl:c.kids.length≤4000:=hw.k.2.1;have EP:=hid (cw_ c h1 h2);have PL:=hid (fun i=>e2_ c h1 h2 i);have KL:Hid (∀ x∈c.kids,(al_ x).length≤(al_ c).length):=hid fun x hx=>c6_ c h1 h2 hx;have EF:Hid (iM_ c=[]):=hid (by unfold iM_;rw[if_neg (by omega)]);have HC:=hid hC;have HS:=hid hS;have HL:=hid hl;have IH:=hid ih;have HWK:=hid hw.kids;have hmb:True:=by trivial
 rw[hk] at hz1 b8 cw;have B0:=hid hz1;have K0:=hid b8;have c0:=b8.c0;have c1:=b8.c1;have c2:=b8.c2;clear hC hS hw hl ih hz0 hz1 b8 h1 h2;unfold cv;rw[hk];clear hmb;go_enter Tryz.func19,Tryz.ntmps19;have c7:=K0.out.c7;go_wp2
 go_loopw [4,5] (fun sv iv wr=>∃ i:Nat,iv=.int .i64 i∧i≤c.kids.length∧sv=.string (aa_ (b5_ c i))∧Z8 wr w.heap.size (.int .i64 7) (.string c.name) (.int .i64 c.n) (.int .i64 c.t.kind) (.string c.t.name) (.int .i64 c.t.n) (.slice a c.t.args.length n) (.slice ka c.kids.length kn)∧Below w.heap.size w wr) (fun _ iv _=>c.kids.length - (intOf iv).toNat)
 case atStart=>exact⟨0,rfl,Nat.zero_le _,by rw[← E0.out],K0.out,B0.out⟩
 case round =>
  clear c0 c1 c2 cw c7;obtain⟨i,rfl,hil,rfl,hK,hB⟩:=hrel;have z0:(0:Int)≤(i:Int):=by omega
  have KH:=hid hK;have BH:=hid hB;have hps:(aa_ (b5_ c i)).size≤1000000000:=by rw[aj_];have h1:=PL.out i;have h2:=HL.out;omega
  by_cases hi:i<c.kids.length
  ·have z1:(i:Int)<(c.kids.length:Int):=by omega
   obtain⟨b,off,a1,n1,a2,n2,rfl,hb,hf,hs,hk2⟩:=HC.out.k.at_ hi;have hn:=HS.out;obtain⟨f0,f1,f2,f3,f4,f5,f6,f7⟩:=hf.keep (hB.block b (hn b hb));have hm_:=List.getElem_mem hi;have hx1:=HWK.out _ hm_;have hx2:=bc_ (KL.out _ hm_) HL.out;have CH:=hid (IH.out _ hm_ S a1 n1 a2 n2 wr ⟨hs.keep fun b hS=>hB.block b (hn b hS),hk2.keep fun b hS=>hB.block b (hn b hS)⟩ (fun b hS=>aM_ (hn b hS) hB.size) hx1 hx2);have CA:=hid (ec_ c i hi);have hxs:(aa_ (al_ c.kids[i])).size≤1000000000:=by rw[aj_];exact hx2
   have c7:=hK.c7;have CE:Hid (aa_ (b5_ c i)++⟨#[32]⟩++aa_ (al_ c.kids[i])=aa_ (b5_ c (i+1))):=hid (by
    rw[CA.out];show aa_ _++aa_ [32]++aa_ _=_;rw[af_,af_];simp)
   clear hf hs hk2 hB hK hm_ hn hb hx1 hx2;unfold cv aK_ at CH;generalize c.kids[i]=x at *;generalize aa_ (al_ x)=px at *;generalize aa_ (b5_ c i)=s0 at *;have z5:(s0++(⟨#[32]⟩:ByteArray)).size≤1000000001:=by rw[ByteArray.size_append];show s0.size+1≤_;omega
   go_wp2_with fail;refine CH.out.mono ?_;rintro e w4 ⟨rfl,hb4⟩;have B4_:=hid (BH.out.trans (hb4.mono BH.out.size));have K4:=hid (KH.out.low hb4);clear hb4;go_wp2;go_roundw
   case rel=>exact⟨i+1,by go_num,by omega,by rw[← CE.out],K4.out,B4_.out⟩
   case measure=>simp[intOf];omega
  ·obtain rfl:i=c.kids.length:=by omega
   have c0:=hK.c0;have c7:=hK.c7;have CE:Hid (aa_ (b5_ c c.kids.length)++⟨#[41]⟩=aa_ (al_ c)):=hid (by
    rw[EP.out,EF.out,List.append_nil];show aa_ _++aa_ [41]=_;rw[af_])
   clear hB hK;generalize aa_ (b5_ c c.kids.length)=s0 at *;go_wp2;go_ret;exact⟨by rw[← CE.out];rfl,BH.out⟩
theorem ma_ (c:Co)(hk:c.kind=8)(ih:∀ x∈c.kids,aS_ x):aS_ c:=by
 intro S a n ka kn w hC hS hw hl;have h1:c.kind≠1:=by omega
 have h2:c.kind≠2:=by omega
 have hn9:0≤c.n∧c.n<1000000000:=by have:=hw.k.2.2;omega
 obtain⟨m,hm⟩:∃ m:Nat,c.n=m:=⟨c.n.toNat,by omega⟩;have E0:Hid (((⟨#[40]⟩++⟨#[78,116,104]⟩++⟨#[32]⟩++aa_ (Lib.decDigits m)):ByteArray)=aa_ (b5_ c 0)):=hid (by unfold b5_ oz_;rw[hk,List.take_zero,be_,if_neg (by decide),if_pos rfl,hm,Lib.itoa_nonneg];show aa_ [40]++aa_ [78,116,104]++aa_ [32]++aa_ (Lib.decDigits m)=_;rw[af_,af_,af_];simp only[List.append_nil];rfl);have hml:(Lib.decDigits m).length≤30:=by have:=ql_ m (by omega);omega
 have hms:(aa_ (Lib.decDigits m)).size≤30:=by rw[aj_];exact hml
 have hz0:=ao_ w (.cells #[.int .i64 c.kind,.string c.name,.int .i64 c.n,.int .i64 c.t.kind,.string c.t.name,.int .i64 c.t.n,.slice a c.t.args.length n,.slice ka c.kids.length kn] 59);have hz1:=hz0.alloc (by simp) (.cells #[.string ⟨#[83,121,109]⟩,.string ⟨#[84,114,97,110,115]⟩,.string ⟨#[67,111,110]⟩,.string ⟨#[70,117,110]⟩,.string ⟨#[65,108,108]⟩,.string ⟨#[78,116,104]⟩,.string ⟨#[73,110,115,116]⟩] 9);have b8:=(Z8.new w (.int .i64 c.kind) (.string c.name) (.int .i64 c.n) (.int .i64 c.t.kind) (.string c.t.name) (.int .i64 c.t.n) (.slice a c.t.args.length n) (.slice ka c.kids.length kn)).low (ao_ _ (.cells #[.string ⟨#[83,121,109]⟩,.string ⟨#[84,114,97,110,115]⟩,.string ⟨#[67,111,110]⟩,.string ⟨#[70,117,110]⟩,.string ⟨#[65,108,108]⟩,.string ⟨#[78,116,104]⟩,.string ⟨#[73,110,115,116]⟩] 9));have cw:((w.alloc (.cells #[.int .i64 c.kind,.string c.name,.int .i64 c.n,.int .i64 c.t.kind,.string c.t.name,.int .i64 c.t.n,.slice a c.t.args.length n,.slice ka c.kids.length kn] 59)).alloc (.cells #[.string ⟨#[83,121,109]⟩,.string ⟨#[84,114,97,110,115]⟩,.string ⟨#[67,111,110]⟩,.string ⟨#[70,117,110]⟩,.string ⟨#[65,108,108]⟩,.string ⟨#[78,116,104]⟩,.string ⟨#[73,110,115,116]⟩] 9)).cell? ⟨w.heap.size+1,5,none⟩=some (.string ⟨#[78,116,104]⟩):=by
  rw[show w.heap.size+1=(w.alloc (.cells #[.int .i64 c.kind,.string c.name,.int .i64 c.n,.int .i64 c.t.kind,.string c.t.name,.int .i64 c.t.n,.slice a c.t.args.length n,.slice ka c.kids.length kn] 59)).heap.size from by simp,cell_of_row _ _ 5 _ _ (0,0) (heap_alloc_new _ _)];rfl
 have hkl:c.kids.length≤4000:=hw.k.2.1;have EP:=hid (cw_ c h1 h2);have PL:=hid (fun i=>e2_ c h1 h2 i);have KL:Hid (∀ x∈c.kids,(al_ x).length≤(al_ c).length):=hid fun x hx=>c6_ c h1 h2 hx;have EF:Hid (iM_ c=[]):=hid (by unfold iM_;rw[if_neg (by omega)]);have HC:=hid hC;have HS:=hid hS;have HL:=hid hl;have IH:=hid ih;have HWK:=hid hw.kids;have hmb:m<1000000000000000000:=by omega
 rw[hk,hm] at hz1 b8 cw;have B0:=hid hz1;have K0:=hid b8;have c0:=b8.c0;have c1:=b8.c1;have c2:=b8.c2;clear hC hS hw hl ih hz0 hz1 b8 h1 h2 hn9 hml;unfold cv;rw[hk,hm];clear hm;go_enter Tryz.func19,Tryz.ntmps19;go_wp2_with fail;refine (gO_ m hmb _).mono ?_;rintro e w1 ⟨rfl,hb1⟩;have B1:=hid (B0.out.trans (hb1.mono B0.out.size));have K1:=hid (K0.out.low hb1);clear hb1 c0 c1 c2 cw;have c0:=K1.out.c0;have c7:=K1.out.c7;go_wp2
 go_loopw [4,5] (fun sv iv wr=>∃ i:Nat,iv=.int .i64 i∧i≤c.kids.length∧sv=.string (aa_ (b5_ c i))∧Z8 wr w.heap.size (.int .i64 8) (.string c.name) (.int .i64 (m:Int)) (.int .i64 c.t.kind) (.string c.t.name) (.int .i64 c.t.n) (.slice a c.t.args.length n) (.slice ka c.kids.length kn)∧Below w.heap.size w wr) (fun _ iv _=>c.kids.length - (intOf iv).toNat)
 case atStart=>exact⟨0,rfl,Nat.zero_le _,by rw[← E0.out],K1.out,B1.out⟩
 case round =>
  clear c0 c7;obtain⟨i,rfl,hil,rfl,hK,hB⟩:=hrel;have z0:(0:Int)≤(i:Int):=by omega
  have KH:=hid hK;have BH:=hid hB;have hps:(aa_ (b5_ c i)).size≤1000000000:=by rw[aj_];have h1:=PL.out i;have h2:=HL.out;omega
  by_cases hi:i<c.kids.length
  ·have z1:(i:Int)<(c.kids.length:Int):=by omega
   obtain⟨b,off,a1,n1,a2,n2,rfl,hb,hf,hs,hk2⟩:=HC.out.k.at_ hi;have hn:=HS.out;obtain⟨f0,f1,f2,f3,f4,f5,f6,f7⟩:=hf.keep (hB.block b (hn b hb));have hm_:=List.getElem_mem hi;have hx1:=HWK.out _ hm_;have hx2:=bc_ (KL.out _ hm_) HL.out;have CH:=hid (IH.out _ hm_ S a1 n1 a2 n2 wr ⟨hs.keep fun b hS=>hB.block b (hn b hS),hk2.keep fun b hS=>hB.block b (hn b hS)⟩ (fun b hS=>aM_ (hn b hS) hB.size) hx1 hx2);have CA:=hid (ec_ c i hi);have hxs:(aa_ (al_ c.kids[i])).size≤1000000000:=by rw[aj_];exact hx2
   have c7:=hK.c7;have CE:Hid (aa_ (b5_ c i)++⟨#[32]⟩++aa_ (al_ c.kids[i])=aa_ (b5_ c (i+1))):=hid (by
    rw[CA.out];show aa_ _++aa_ [32]++aa_ _=_;rw[af_,af_];simp)
   clear hf hs hk2 hB hK hm_ hn hb hx1 hx2;unfold cv aK_ at CH;generalize c.kids[i]=x at *;generalize aa_ (al_ x)=px at *;generalize aa_ (b5_ c i)=s0 at *;have z5:(s0++(⟨#[32]⟩:ByteArray)).size≤1000000001:=by rw[ByteArray.size_append];show s0.size+1≤_;omega
   go_wp2_with fail;refine CH.out.mono ?_;rintro e w4 ⟨rfl,hb4⟩;have B4_:=hid (BH.out.trans (hb4.mono BH.out.size));have K4:=hid (KH.out.low hb4);clear hb4;go_wp2;go_roundw
   case rel=>exact⟨i+1,by go_num,by omega,by rw[← CE.out],K4.out,B4_.out⟩
   case measure=>simp[intOf];omega
  ·obtain rfl:i=c.kids.length:=by omega
   have c0:=hK.c0;have c7:=hK.c7;have CE:Hid (aa_ (b5_ c c.kids.length)++⟨#[41]⟩=aa_ (al_ c)):=hid (by
    rw[EP.out,EF.out,List.append_nil];show aa_ _++aa_ [41]=_;rw[af_])
   clear hB hK;generalize aa_ (b5_ c c.kids.length)=s0 at *;go_wp2;go_ret;exact⟨by rw[← CE.out];rfl,BH.out⟩
theorem l9_ (c:Co)(hk:c.kind=9)(ih:∀ x∈c.kids,aS_ x):aS_ c:=by
 intro S a n ka kn w hC hS hw hl;have h1:c.kind≠1:=by omega
 have h2:c.kind≠2:=by omega
 have E0:Hid (((⟨#[40]⟩++⟨#[73,110,115,116]⟩):ByteArray)=aa_ (b5_ c 0)):=hid (by unfold b5_ oz_;rw[hk,List.take_zero,be_,if_neg (by decide),if_neg (by decide)];rfl);have hz0:=ao_ w (.cells #[.int .i64 c.kind,.string c.name,.int .i64 c.n,.int .i64 c.t.kind,.string c.t.name,.int .i64 c.t.n,.slice a c.t.args.length n,.slice ka c.kids.length kn] 59);have hz1:=hz0.alloc (by simp) (.cells #[.string ⟨#[83,121,109]⟩,.string ⟨#[84,114,97,110,115]⟩,.string ⟨#[67,111,110]⟩,.string ⟨#[70,117,110]⟩,.string ⟨#[65,108,108]⟩,.string ⟨#[78,116,104]⟩,.string ⟨#[73,110,115,116]⟩] 9);have b8:=(Z8.new w (.int .i64 c.kind) (.string c.name) (.int .i64 c.n) (.int .i64 c.t.kind) (.string c.t.name) (.int .i64 c.t.n) (.slice a c.t.args.length n) (.slice ka c.kids.length kn)).low (ao_ _ (.cells #[.string ⟨#[83,121,109]⟩,.string ⟨#[84,114,97,110,115]⟩,.string ⟨#[67,111,110]⟩,.string ⟨#[70,117,110]⟩,.string ⟨#[65,108,108]⟩,.string ⟨#[78,116,104]⟩,.string ⟨#[73,110,115,116]⟩] 9));have cw:((w.alloc (.cells #[.int .i64 c.kind,.string c.name,.int .i64 c.n,.int .i64 c.t.kind,.string c.t.name,.int .i64 c.t.n,.slice a c.t.args.length n,.slice ka c.kids.length kn] 59)).alloc (.cells #[.string ⟨#[83,121,109]⟩,.string ⟨#[84,114,97,110,115]⟩,.string ⟨#[67,111,110]⟩,.string ⟨#[70,117,110]⟩,.string ⟨#[65,108,108]⟩,.string ⟨#[78,116,104]⟩,.string ⟨#[73,110,115,116]⟩] 9)).cell? ⟨w.heap.size+1,6,none⟩=some (.string ⟨#[73,110,115,116]⟩):=by
  rw[show w.heap.size+1=(w.alloc (.cells #[.int .i64 c.kind,.string c.name,.int .i64 c.n,.int .i64 c.t.kind,.string c.t.name,.int .i64 c.t.n,.slice a c.t.args.length n,.slice ka c.kids.length kn] 59)).heap.size from by simp,cell_of_row _ _ 6 _ _ (0,0) (heap_alloc_new _ _)];rfl
 have hkl:c.kids.length≤4000:=hw.k.2.1;have EP:=hid (cw_ c h1 h2);have PL:=hid (fun i=>e2_ c h1 h2 i);have KL:Hid (∀ x∈c.kids,(al_ x).length≤(al_ c).length):=hid fun x hx=>c6_ c h1 h2 hx;have hpl:(ae_ c.t).length+2≤1000000000:=bc_ (nu_ c (by omega)) hl;have hpw:=(hw.ok (.inr (by omega))).2.1;have CT:=hid (fun (W:World) (h:Below w.heap.size w W)=>hf_ c.t S a n W (c29 hC hS W h) (fun b hb=>aM_ (hS b hb) h.size) hpw (by omega));have hzt:(aa_ (ae_ c.t)).size≤1000000000:=by rw[aj_];omega
 have EF:Hid (iM_ c=32 :: 60 :: ae_ c.t++[62]):=hid (by unfold iM_;rw[if_pos hk]);unfold tv aK_ at CT;have HC:=hid hC;have HS:=hid hS;have HL:=hid hl;have IH:=hid ih;have HWK:=hid hw.kids;have hmb:True:=by trivial
 rw[hk] at hz1 b8 cw;have B0:=hid hz1;have K0:=hid b8;have c0:=b8.c0;have c1:=b8.c1;have c2:=b8.c2;clear hC hS hw hl ih hz0 hz1 b8 h1 h2 hpl hpw;unfold cv;rw[hk];clear hmb;go_enter Tryz.func19,Tryz.ntmps19;have c7:=K0.out.c7;go_wp2
 go_loopw [4,5] (fun sv iv wr=>∃ i:Nat,iv=.int .i64 i∧i≤c.kids.length∧sv=.string (aa_ (b5_ c i))∧Z8 wr w.heap.size (.int .i64 9) (.string c.name) (.int .i64 c.n) (.int .i64 c.t.kind) (.string c.t.name) (.int .i64 c.t.n) (.slice a c.t.args.length n) (.slice ka c.kids.length kn)∧Below w.heap.size w wr) (fun _ iv _=>c.kids.length - (intOf iv).toNat)
 case atStart=>exact⟨0,rfl,Nat.zero_le _,by rw[← E0.out],K0.out,B0.out⟩
 case round =>
  clear c0 c1 c2 cw c7;obtain⟨i,rfl,hil,rfl,hK,hB⟩:=hrel;have z0:(0:Int)≤(i:Int):=by omega
  have KH:=hid hK;have BH:=hid hB;have hps:(aa_ (b5_ c i)).size≤1000000000:=by rw[aj_];have h1:=PL.out i;have h2:=HL.out;omega
  by_cases hi:i<c.kids.length
  ·have z1:(i:Int)<(c.kids.length:Int):=by omega
   obtain⟨b,off,a1,n1,a2,n2,rfl,hb,hf,hs,hk2⟩:=HC.out.k.at_ hi;have hn:=HS.out;obtain⟨f0,f1,f2,f3,f4,f5,f6,f7⟩:=hf.keep (hB.block b (hn b hb));have hm_:=List.getElem_mem hi;have hx1:=HWK.out _ hm_;have hx2:=bc_ (KL.out _ hm_) HL.out;have CH:=hid (IH.out _ hm_ S a1 n1 a2 n2 wr ⟨hs.keep fun b hS=>hB.block b (hn b hS),hk2.keep fun b hS=>hB.block b (hn b hS)⟩ (fun b hS=>aM_ (hn b hS) hB.size) hx1 hx2);have CA:=hid (ec_ c i hi);have hxs:(aa_ (al_ c.kids[i])).size≤1000000000:=by rw[aj_];exact hx2
   have c7:=hK.c7;have CE:Hid (aa_ (b5_ c i)++⟨#[32]⟩++aa_ (al_ c.kids[i])=aa_ (b5_ c (i+1))):=hid (by
    rw[CA.out];show aa_ _++aa_ [32]++aa_ _=_;rw[af_,af_];simp)
   clear hf hs hk2 hB hK hm_ hn hb hx1 hx2;unfold cv aK_ at CH;generalize c.kids[i]=x at *;generalize aa_ (al_ x)=px at *;generalize aa_ (b5_ c i)=s0 at *;have z5:(s0++(⟨#[32]⟩:ByteArray)).size≤1000000001:=by rw[ByteArray.size_append];show s0.size+1≤_;omega
   go_wp2_with fail;refine CH.out.mono ?_;rintro e w4 ⟨rfl,hb4⟩;have B4_:=hid (BH.out.trans (hb4.mono BH.out.size));have K4:=hid (KH.out.low hb4);clear hb4;go_wp2;go_roundw
   case rel=>exact⟨i+1,by go_num,by omega,by rw[← CE.out],K4.out,B4_.out⟩
   case measure=>simp[intOf];omega
  ·obtain rfl:i=c.kids.length:=by omega
   have c0:=hK.c0;have c7:=hK.c7;have c3:=hK.c3;have c4:=hK.c4;have c5:=hK.c5;have c6:=hK.c6;have CE:Hid (aa_ (b5_ c c.kids.length)++⟨#[32,60]⟩++aa_ (ae_ c.t)++⟨#[62]⟩++⟨#[41]⟩=aa_ (al_ c)):=hid (by
    rw[EP.out,EF.out];show aa_ _++aa_ [32,60]++aa_ _++aa_ [62]++aa_ [41]=_;rw[af_,af_,af_,af_];simp)
   have C9:=hid (CT.out wr hB);clear hB hK CT;generalize aa_ (ae_ c.t)=st at *;generalize aa_ (b5_ c c.kids.length)=s0 at *;have z5:(s0++(⟨#[32,60]⟩:ByteArray)).size≤1000000002:=by rw[ByteArray.size_append];show s0.size+2≤_;omega
   have z6:(s0++(⟨#[32,60]⟩:ByteArray)++st).size≤2000000002:=by rw[ByteArray.size_append];omega
   have z7:(s0++(⟨#[32,60]⟩:ByteArray)++st++(⟨#[62]⟩:ByteArray)).size≤2000000003:=by rw[ByteArray.size_append];show _+1≤_;omega
   go_wp2_with fail;refine C9.out.mono ?_;rintro e w4 ⟨rfl,hb4⟩;have B4_:=hid (BH.out.trans (hb4.mono BH.out.size));clear hb4;go_wp2;go_ret;exact⟨by rw[← CE.out];rfl,B4_.out⟩
theorem jp_ (c:Co):aS_ c:=by
 induction c using Co.ind with
 | h c ih =>
  intro S a n ka kn w hC hS hw hl
  rcases hw.k.2.2 with h|h|h|h|h|h|h|h|h
  ·exact jn_ c h.1 S a n ka kn w hC hS hw hl
  ·exact iw_ c h.1 S a n ka kn w hC hS hw hl
  ·exact mf_ c h.1 ih S a n ka kn w hC hS hw hl
  ·exact me_ c h.1 ih S a n ka kn w hC hS hw hl
  ·exact md_ c h ih S a n ka kn w hC hS hw hl
  ·exact mc_ c h.1 ih S a n ka kn w hC hS hw hl
  ·exact mb_ c h.1 ih S a n ka kn w hC hS hw hl
  ·exact ma_ c h.1 ih S a n ka kn w hC hS hw hl
  ·exact l9_ c h.1 ih S a n ka kn w hC hS hw hl
end
section
open Go.RowKit Go.Sort
open Lx
structure i3_ (n b:Nat)(c:Co)(a:Option Addr)(m:Nat)(ka:Option Addr)(km:Nat)(W:World):Prop where
 k:Z8 W b (.int .i64 c.kind) (.string c.name) (.int .i64 c.n) (.int .i64 c.t.kind) (.string c.t.name) (.int .i64 c.t.n) (.slice a c.t.args.length m) (.slice ka c.kids.length km)
 h:bO_ (Lt n) W c a m ka km
 lt:b<W.heap.size
 le:n≤W.heap.size
section
variable {n b : Nat} {c : Co} {a : Option Addr} {m : Nat} {ka : Option Addr} {km : Nat} {W W' : World}
theorem i3_.low (R:i3_ n b c a m ka km W)(h:Below W.heap.size W W'):i3_ n b c a m ka km W' :=
 ⟨R.k.low h,R.h.keep fun j hj=>h.block j (aM_ hj R.le),aM_ R.lt h.size,bc_ R.le h.size⟩
theorem i3_.at_ (R:i3_ n b c a m ka km W):bO_ (Lt W.heap.size) W c a m ka km:=R.h.mono fun _ hj=>aM_ hj R.le
theorem i3_.of_at (h:bO_ (Lt W.heap.size) W c a m ka km):i3_ W.heap.size W.heap.size c a m ka km (W.alloc (.cells #[.int .i64 c.kind,.string c.name,.int .i64 c.n,.int .i64 c.t.kind,.string c.t.name,.int .i64 c.t.n,.slice a c.t.args.length m,.slice ka c.kids.length km] 59)) :=
 ⟨Z8.new W _ _ _ _ _ _ _ _,h.keep fun b hb=>heap_alloc_old W _ hb,by simp,by simp⟩
end
structure f2_ (w:World)(va:Option Addr)(vc:Nat)(ts:List Tok):Prop where
 at_:aL_ w (.slice va ts.length vc) ts
 lt:∀ b o,va=some ⟨b,o,none⟩→b<w.heap.size
theorem f2_.low {w w':World}{va:Option Addr}{vc:Nat}{ts:List Tok}(h:f2_ w va vc ts)(hb:Below w.heap.size w w'):f2_ w' va vc ts :=
 ⟨bo_ h.at_ hb,fun b o e=>aM_ (h.lt b o e) hb.size⟩
def ScanH (ts:List Tok)(p er:Nat)(w:World)(e:Ending)(w':World):Prop :=
 ∃ va vc,e=.returned (.tuple #[.slice va ts.length vc,.int .i64 p,.int .i64 er])∧f2_ w' va vc ts∧Below w.heap.size w w'
theorem scan_h (s:ByteArray)(w:World)(hs:s.size≤maxLen){ts:List Tok}{p er:Nat}(h:bZ_ s.data.toList=(ts,p,er)):Calls Tryz.prog 15 #[.string s] w (ScanH ts p er w):=by
 refine (hN_ s w hs).mono fun e w' hp=>?_;obtain⟨v,he,hb,ho⟩:=hp;rw[h] at he ho;obtain⟨va,vc,rfl⟩:=aY_ ho;exact⟨va,vc,he,⟨cV_ ho,fun b o e=>(ho.lt b (by rw[e];rfl)).2⟩,hb⟩
def qH_ (w:World)(e:Ending)(w':World):Prop:=e=.returned (.tuple #[.agg #[.int .i64 0,.string ⟨#[]⟩,.int .i64 0,.int .i64 0,.string ⟨#[]⟩,.int .i64 0,.slice none 0 0,.slice none 0 0],.slice none 0 0,.bool false])∧Below w.heap.size w (w'.alloc (.cells #[.int .i64 0,.string ⟨#[]⟩,.int .i64 0,.int .i64 0,.string ⟨#[]⟩,.int .i64 0,.slice none 0 0,.slice none 0 0] 33))
def qG_ (n:Nat)(c:Co)(w:World)(e:Ending)(w':World):Prop:=∃ a m ka km a2 c2,e=.returned (.tuple #[.agg #[.int .i64 c.kind,.string c.name,.int .i64 c.n,.int .i64 c.t.kind,.string c.t.name,.int .i64 c.t.n,.slice a c.t.args.length m,.slice ka c.kids.length km],.slice a2 n c2,.bool true]) ∧
  ig_ w'.heap.size w'.heap.size c a m ka km (w'.alloc (.cells #[.int .i64 c.kind,.string c.name,.int .i64 c.n,.int .i64 c.t.kind,.string c.t.name,.int .i64 c.t.n,.slice a c.t.args.length m,.slice ka c.kids.length km] 33))∧Below w.heap.size w (w'.alloc (.cells #[.int .i64 c.kind,.string c.name,.int .i64 c.n,.int .i64 c.t.kind,.string c.t.name,.int .i64 c.t.n,.slice a c.t.args.length m,.slice ka c.kids.length km] 33))
def o4_ (w:World)(e:Ending)(w':World):Prop:=∃ (jk:Int) (js:ByteArray) (jn jt:Int) (ju:ByteArray) (jv:Int) (ja:Option Addr) (jl jc:Nat) (jb:Option Addr) (jm jd:Nat),e=.returned (.tuple #[.agg #[.int .i64 jk,.string js,.int .i64 jn,.int .i64 jt,.string ju,.int .i64 jv,.slice ja jl jc,.slice jb jm jd],.int .i64 (-1)])∧Below w.heap.size w (w'.alloc (.cells #[.int .i64 jk,.string js,.int .i64 jn,.int .i64 jt,.string ju,.int .i64 jv,.slice ja jl jc,.slice jb jm jd] 59))
def o3_ (n:Nat)(c:Co)(w:World)(e:Ending)(w':World):Prop:=∃ a m ka km,e=.returned (.tuple #[.agg #[.int .i64 c.kind,.string c.name,.int .i64 c.n,.int .i64 c.t.kind,.string c.t.name,.int .i64 c.t.n,.slice a c.t.args.length m,.slice ka c.kids.length km],.int .i64 (n:Int)]) ∧
  i3_ w'.heap.size w'.heap.size c a m ka km (w'.alloc (.cells #[.int .i64 c.kind,.string c.name,.int .i64 c.n,.int .i64 c.t.kind,.string c.t.name,.int .i64 c.t.n,.slice a c.t.args.length m,.slice ka c.kids.length km] 59))∧Below w.heap.size w (w'.alloc (.cells #[.int .i64 c.kind,.string c.name,.int .i64 c.n,.int .i64 c.t.kind,.string c.t.name,.int .i64 c.t.n,.slice a c.t.args.length m,.slice ka c.kids.length km] 59))
section
variable {w : World} {va : Option Addr} {vc : Nat} {ts : List Tok}
theorem rB_ (h:f2_ w va vc ts)(hV:Vs w)(hok:∀ t∈ts,bu_ t)(hl:ts.length≤4000)(hT:en_ ts=none):Calls Tryz.prog 20 #[.slice va ts.length vc] w (qH_ w):=by
 have C:=gA_ w hV va vc ts h.at_ h.lt hok hl;rw[hT] at C;refine C.mono ?_;rintro e w' ⟨hb,rfl⟩;exact⟨rfl,hb.trans ((ao_ _ _).mono hb.size)⟩
theorem rA_ (h:f2_ w va vc ts)(hV:Vs w)(hok:∀ t∈ts,bu_ t)(hl:ts.length≤4000){c:Co}{r:List Tok}(hT:en_ ts=some (c,r)):Calls Tryz.prog 20 #[.slice va ts.length vc] w (qG_ r.length c w):=by
 have C:=gA_ w hV va vc ts h.at_ h.lt hok hl;rw[hT] at C;refine C.mono ?_;rintro e w' ⟨hb,a,m,ka,km,a2,c2,rfl,hC,_⟩;exact⟨a,m,ka,km,a2,c2,rfl,.of_at (hC.mono fun b hb=>hb.2),hb.trans ((ao_ _ _).mono hb.size)⟩
theorem q0_ (h:f2_ w va vc ts)(hr:f1_ ts)(hok:∀ t∈ts,bu_ t)(hl:ts.length≤4000)(hT:en_ ts=none):Calls Tryz.prog 21 #[.slice va ts.length vc,.int .i64 0] w (o4_ w):=by
 have C:=hi_ w va vc ts h.at_ h.lt hr hok hl;rw[hT] at C;refine C.mono ?_;rintro e w' ⟨hb,k,s,n,tk,tu,tn,a,al,ac,b,bl,bc,rfl⟩;exact⟨k,s,n,tk,tu,tn,a,al,ac,b,bl,bc,rfl,hb.trans ((ao_ _ _).mono hb.size)⟩
theorem qZ_ (h:f2_ w va vc ts)(hr:f1_ ts)(hok:∀ t∈ts,bu_ t)(hl:ts.length≤4000){c:Co}{r:List Tok}(hT:en_ ts=some (c,r)):Calls Tryz.prog 21 #[.slice va ts.length vc,.int .i64 0] w (o3_ (ts.length - r.length) c w):=by
 have C:=hi_ w va vc ts h.at_ h.lt hr hok hl;rw[hT] at C;refine C.mono ?_;rintro e w' ⟨hb,a,m,ka,km,rfl,hC⟩;exact⟨a,m,ka,km,rfl,.of_at (hC.mono fun b hb=>hb.2),hb.trans ((ao_ _ _).mono hb.size)⟩
end
def PrOk (c:Co):Prop:=WfC c∧(al_ c).length≤400000
theorem qJ_ {s:List UInt8}{ts:List Tok}{p er:Nat}(h:bZ_ s=(ts,p,er)){c:Co}{r:List Tok}(hT:en_ ts=some (c,r)):PrOk c∧r.length≤ts.length:=by
 have h0:=cv_ s;have h1:=ds_ s;rw[h] at h0 h1;simp only at h0 h1;have hm:=(lj_ 1 (az_ _) (4*ts.length+4)).1 ts c r (fun x hx=>pG_ x (h1 x hx)) h0 hT;have h2:=k9_ c hm.1;have h3:=hm.2.1;exact⟨⟨hm.1,by omega⟩,(fS_ hT).length_le⟩
section
variable {c : Co} {a : Option Addr} {m : Nat} {ka : Option Addr} {km : Nat} {W : World}
theorem rC_ (R:bO_ (Lt W.heap.size) W c a m ka km)(hp:PrOk c)(hT:Tab W):Calls Tryz.prog 18 #[.agg #[.int .i64 c.kind,.string c.name,.int .i64 c.n,.int .i64 c.t.kind,.string c.t.name,.int .i64 c.t.n,.slice a c.t.args.length m,.slice ka c.kids.length km]] W (aK_ W (al_ c)) :=
 la_ c _ a m ka km W R (fun _ h=>h) hp.1 (by have:=hp.2;omega) hT
theorem q1_ (R:bO_ (Lt W.heap.size) W c a m ka km)(hp:PrOk c):Calls Tryz.prog 19 #[.agg #[.int .i64 c.kind,.string c.name,.int .i64 c.n,.int .i64 c.t.kind,.string c.t.name,.int .i64 c.t.n,.slice a c.t.args.length m,.slice ka c.kids.length km]] W (aK_ W (al_ c)) :=
 jp_ c _ a m ka km W R (fun _ h=>h) hp.1 (by have:=hp.2;omega)
end
end
end Go.Proofs.YtkihnodkhnahiaaGreatDoor.Tp

/- Packed. -/
import Derived.Test.YtkihnodkhnahiaaGreatDoorP46
import Derived.Test.YtkihnodkhnahiaaGreatDoorP45
import Derived.Test.YtkihnodkhnahiaaGreatDoorP51
set_option maxRecDepth 100000
set_option maxHeartbeats 6400000
namespace Go.Proofs.YtkihnodkhnahiaaGreatDoor.Tp
section
open Go.RowKit
def rX_ (c:Co):List UInt8:=if c.kind=5∨c.kind=7 then 32 :: c.name.data.toList else if c.kind=8 then 32 :: Lib.itoa c.n else []
def n4_ (c:Co):List UInt8:=if c.kind=9 then 32 :: 60 :: ae_ c.t++[62] else []
def d5_ (c:Co)(i:Nat):List UInt8:=40 :: (aP_ c.kind++rX_ c++bn_ (c.kids.take i))
theorem gW_ (a b:List Co):bn_ (a++b)=bn_ a++bn_ b:=by
 induction a with
 | nil=>rfl
 | cons x xs ih=>rw[List.cons_append,bn_,bn_,ih,List.append_assoc]
theorem gr_ (c:Co)(i:Nat)(h:i<c.kids.length):d5_ c (i+1)=d5_ c i++32 :: an_ c.kids[i]:=by
 unfold d5_;rw[List.take_succ_eq_append_getElem h,gW_,bn_,bn_,List.append_nil];simp
theorem ee_ (c:Co)(h1:c.kind≠1)(h2:c.kind≠2):an_ c=d5_ c c.kids.length++n4_ c++[41]:=by
 cases c with
 | mk k s n t ks =>
  have h1:¬ k=1:=h1;have h2:¬ k=2:=h2;rw[an_,if_neg h1,if_neg h2];unfold d5_ rX_ n4_;simp only[Co.kind,Co.name,Co.n,Co.t,Co.kids,List.take_length];rfl
theorem it_ (c:Co)(h1:c.kind≠1)(h2:c.kind≠2)(i:Nat):(d5_ c i).length+(n4_ c).length≤(an_ c).length:=by
 rw[ee_ c h1 h2];have:(bn_ (c.kids.take i)).length≤(bn_ c.kids).length:=by
  conv=>rhs;rw[← List.take_append_drop i c.kids,gW_]
  rw[List.length_append];omega
 unfold d5_;simp only[List.take_length,List.length_append,List.length_cons,List.length_nil];omega
def bt_ (c:Co):Prop:=∀ (S:Nat→Prop) (a:OA_) (n:Nat) (ka:OA_) (kn:Nat) (w:World),bS_ S w c a n ka kn→(∀ b,S b→b<w.heap.size)→WfC c→(an_ c).length≤1000000000 →
 Calls Tryz.prog 19 #[cv c a n ka kn] w (aQ_ w (an_ c))
theorem j5_ (c:Co)(hk:c.kind=1):bt_ c:=by
 intro S a n ka kn w hC hS hw hl;have E:Hid (aa_ (an_ c)=c.name):=hid (by cases c with|mk k s n t ks=>rw[an_,if_pos (show k=1 from hk)];rfl);have b8:=Z8.new w (.int .i64 c.kind) (.string c.name) (.int .i64 c.n) (.int .i64 c.t.kind) (.string c.t.name) (.int .i64 c.t.n) (.slice a c.t.args.length n) (.slice ka c.kids.length kn);have B0:=hid (ao_ w (.cells #[.int .i64 c.kind,.string c.name,.int .i64 c.n,.int .i64 c.t.kind,.string c.t.name,.int .i64 c.t.n,.slice a c.t.args.length n,.slice ka c.kids.length kn] 59));have c0:=b8.c0;have c1:=b8.c1;clear hC hS hw hl b8;unfold cv;rw[hk] at *;go_enter Tryz.func19,Tryz.ntmps19;go_wp2;go_ret;exact⟨by rw[E.out];rfl,B0.out⟩
theorem jc_ (c:Co)(hk:c.kind=2):bt_ c:=by
 intro S a n ka kn w hC hS hw hl;have EP:an_ c=60 :: ae_ c.t++[62]:=by cases c with|mk k s n t ks=>rw[an_,if_neg (by rw[show k=2 from hk];decide),if_pos (show k=2 from hk)];rfl
 have b8:=Z8.new w (.int .i64 c.kind) (.string c.name) (.int .i64 c.n) (.int .i64 c.t.kind) (.string c.t.name) (.int .i64 c.t.n) (.slice a c.t.args.length n) (.slice ka c.kids.length kn);have hb:=ao_ w (.cells #[.int .i64 c.kind,.string c.name,.int .i64 c.n,.int .i64 c.t.kind,.string c.t.name,.int .i64 c.t.n,.slice a c.t.args.length n,.slice ka c.kids.length kn] 59);have B0:=hid hb;have c0:=b8.c0;have c3:=b8.c3;have c4:=b8.c4;have c5:=b8.c5;have c6:=b8.c6;have hpl:(ae_ c.t).length≤1000000000:=by rw[EP] at hl;simp at hl;omega
 have C:=hid (hK_ c.t S a n _ (c29 hC hS _ hb) (fun b h=>aX_ (hS b h) hb.size) (hw.ok (.inl hk)).2.1 (by omega));have E:Hid ((⟨#[60]⟩:ByteArray)++aa_ (ae_ c.t)++⟨#[62]⟩=aa_ (an_ c)):=hid (by rw[EP];show aa_ [60]++aa_ (ae_ c.t)++aa_ [62]=_;rw[ah_,ah_];rfl);have hz:(aa_ (ae_ c.t)).size≤1000000000:=by rw[am_];exact hpl
 clear hC hS hw hl b8 hb EP hpl;unfold cv;unfold tv at C;unfold aQ_ at *;generalize aa_ (an_ c)=sr at *;generalize aa_ (ae_ c.t)=st at *;rw[hk] at *;go_enter Tryz.func19,Tryz.ntmps19;go_wp2_with fail;refine C.out.mono ?_;rintro e w1 ⟨rfl,hb1⟩;have B1:=hid (B0.out.trans (hb1.mono B0.out.size));clear hb1;have z1:(⟨#[60]⟩++st:ByteArray).size≤1000000001:=by rw[ByteArray.size_append];show 1+st.size≤_;omega
 go_wp2;go_ret;exact⟨by rw[← E.out];rfl,B1.out⟩
theorem fi_ (c:Co)(j:Nat)(wd:List UInt8)(hk:c.kind=(j:Int)+3)(hj:j=0∧wd=[83,121,109]∨j=1∧wd=[84,114,97,110,115]∨j=3∧wd=[70,117,110])(ih:∀ x∈c.kids,bt_ x):bt_ c:=by
 intro S a n ka kn w hC hS hw hl;have h1:c.kind≠1:=by omega
 have h2:c.kind≠2:=by omega
 have HW:aP_ c.kind=wd:=by rw[hk];rcases hj with ⟨rfl,rfl⟩|⟨rfl,rfl⟩|⟨rfl,rfl⟩<;>rfl
 have E0:Hid (((⟨#[40]⟩++aa_ wd):ByteArray)=aa_ (d5_ c 0)):=hid (by unfold d5_ rX_;rw[HW,List.take_zero,bn_,if_neg (by omega),if_neg (by omega),List.append_nil,List.append_nil];show aa_ [40]++aa_ wd=_;rw[ah_];rfl);have hz0:=ao_ w (.cells #[.int .i64 c.kind,.string c.name,.int .i64 c.n,.int .i64 c.t.kind,.string c.t.name,.int .i64 c.t.n,.slice a c.t.args.length n,.slice ka c.kids.length kn] 59);have hz1:=hz0.alloc (by simp) (.cells #[.string ⟨#[83,121,109]⟩,.string ⟨#[84,114,97,110,115]⟩,.string ⟨#[67,111,110]⟩,.string ⟨#[70,117,110]⟩,.string ⟨#[65,108,108]⟩,.string ⟨#[78,116,104]⟩,.string ⟨#[73,110,115,116]⟩] 9);have b8:=(Z8.new w (.int .i64 c.kind) (.string c.name) (.int .i64 c.n) (.int .i64 c.t.kind) (.string c.t.name) (.int .i64 c.t.n) (.slice a c.t.args.length n) (.slice ka c.kids.length kn)).low (ao_ _ (.cells #[.string ⟨#[83,121,109]⟩,.string ⟨#[84,114,97,110,115]⟩,.string ⟨#[67,111,110]⟩,.string ⟨#[70,117,110]⟩,.string ⟨#[65,108,108]⟩,.string ⟨#[78,116,104]⟩,.string ⟨#[73,110,115,116]⟩] 9));have cw:((w.alloc (.cells #[.int .i64 c.kind,.string c.name,.int .i64 c.n,.int .i64 c.t.kind,.string c.t.name,.int .i64 c.t.n,.slice a c.t.args.length n,.slice ka c.kids.length kn] 59)).alloc (.cells #[.string ⟨#[83,121,109]⟩,.string ⟨#[84,114,97,110,115]⟩,.string ⟨#[67,111,110]⟩,.string ⟨#[70,117,110]⟩,.string ⟨#[65,108,108]⟩,.string ⟨#[78,116,104]⟩,.string ⟨#[73,110,115,116]⟩] 9)).cell? ⟨w.heap.size+1,j,none⟩=some (.string (aa_ wd)):=by
  rw[show w.heap.size+1=(w.alloc (.cells #[.int .i64 c.kind,.string c.name,.int .i64 c.n,.int .i64 c.t.kind,.string c.t.name,.int .i64 c.t.n,.slice a c.t.args.length n,.slice ka c.kids.length kn] 59)).heap.size from by simp,cell_of_row _ _ j _ _ (0,0) (heap_alloc_new _ _)];rcases hj with ⟨rfl,rfl⟩|⟨rfl,rfl⟩|⟨rfl,rfl⟩<;>rfl
 have hws:(aa_ wd).size≤5:=by rw[am_];rcases hj with ⟨_,rfl⟩|⟨_,rfl⟩|⟨_,rfl⟩<;>decide
 have hkl:c.kids.length≤4000:=hw.k.2.1;have EP:=hid (ee_ c h1 h2);have PL:=hid (fun i=>it_ c h1 h2 i);have KL:Hid (∀ x∈c.kids,(an_ x).length≤(an_ c).length):=hid fun x hx=>eG_ c h1 h2 hx;have EF:Hid (n4_ c=[]):=hid (by unfold n4_;rw[if_neg (by omega)]);have HC:=hid hC;have HS:=hid hS;have HL:=hid hl;have IH:=hid ih;have HWK:=hid hw.kids;rw[hk] at hz1 b8 cw;have B0:=hid hz1;have K0:=hid b8;have c0:=b8.c0;have c1:=b8.c1;have q1:((j:Int)+3==1)=false:=by rw[beq_eq_false_iff_ne];omega
 have q2:((j:Int)+3==2)=false:=by rw[beq_eq_false_iff_ne];omega
 have q8:((j:Int)+3==8)=false:=by rw[beq_eq_false_iff_ne];omega
 have q9:((j:Int)+3==9)=false:=by rw[beq_eq_false_iff_ne];omega
 have hj6:j≤6:=by omega
 have hje:(j:Int)+3 - 3=(j:Int):=by omega
 unfold cv;rw[hk];clear hC hS hw hl ih hz0 hz1 b8 h1 h2 HW hk;have q5:((j:Int)+3==5)=false:=by rw[beq_eq_false_iff_ne];omega
 have q7:((j:Int)+3==7)=false:=by rw[beq_eq_false_iff_ne];omega
 clear hj;go_enter Tryz.func19,Tryz.ntmps19;have c7:=K0.out.c7;go_wp2
 go_loopw [4,5] (fun sv iv wr=>∃ i:Nat,iv=.int .i64 i∧i≤c.kids.length∧sv=.string (aa_ (d5_ c i))∧Z8 wr w.heap.size (.int .i64 ((j:Int)+3)) (.string c.name) (.int .i64 c.n) (.int .i64 c.t.kind) (.string c.t.name) (.int .i64 c.t.n) (.slice a c.t.args.length n) (.slice ka c.kids.length kn)∧Below w.heap.size w wr) (fun _ iv _=>c.kids.length - (intOf iv).toNat)
 case atStart=>exact⟨0,rfl,Nat.zero_le _,by rw[← E0.out],K0.out,B0.out⟩
 case round =>
  clear c0 c1 cw c7;obtain⟨i,rfl,hil,rfl,hK,hB⟩:=hrel;have z0:(0:Int)≤(i:Int):=by omega
  have KH:=hid hK;have BH:=hid hB;have hps:(aa_ (d5_ c i)).size≤1000000000:=by rw[am_];have h1:=PL.out i;have h2:=HL.out;omega
  by_cases hi:i<c.kids.length
  ·have z1:(i:Int)<(c.kids.length:Int):=by omega
   obtain⟨b,off,a1,n1,a2,n2,rfl,hb,hf,hs,hk2⟩:=HC.out.k.at_ hi;have hn:=HS.out;obtain⟨f0,f1,f2,f3,f4,f5,f6,f7⟩:=hf.keep (hB.block b (hn b hb));have hm_:=List.getElem_mem hi;have hx1:=HWK.out _ hm_;have hx2:=bm_ (KL.out _ hm_) HL.out;have CH:=hid (IH.out _ hm_ S a1 n1 a2 n2 wr ⟨hs.keep fun b hS=>hB.block b (hn b hS),hk2.keep fun b hS=>hB.block b (hn b hS)⟩ (fun b hS=>aX_ (hn b hS) hB.size) hx1 hx2);have CA:=hid (gr_ c i hi);have hxs:(aa_ (an_ c.kids[i])).size≤1000000000:=by rw[am_];exact hx2
   have c7:=hK.c7;have CE:Hid (aa_ (d5_ c i)++⟨#[32]⟩++aa_ (an_ c.kids[i])=aa_ (d5_ c (i+1))):=hid (by
    rw[CA.out];show aa_ _++aa_ [32]++aa_ _=_;rw[ah_,ah_];simp)
   clear hf hs hk2 hB hK hm_ hn hb hx1 hx2;unfold cv aQ_ at CH;generalize c.kids[i]=x at *;generalize aa_ (an_ x)=px at *;generalize aa_ (d5_ c i)=s0 at *;have z5:(s0++(⟨#[32]⟩:ByteArray)).size≤1000000001:=by rw[ByteArray.size_append];show s0.size+1≤_;omega
   go_wp2_with fail;refine CH.out.mono ?_;rintro e w4 ⟨rfl,hb4⟩;have B4_:=hid (BH.out.trans (hb4.mono BH.out.size));have K4:=hid (KH.out.low hb4);clear hb4;go_wp2;go_roundw
   case rel=>exact⟨i+1,by go_num,by omega,by rw[← CE.out],K4.out,B4_.out⟩
   case measure=>simp[intOf];omega
  ·obtain rfl:i=c.kids.length:=by omega
   have c0:=hK.c0;have c7:=hK.c7;have CE:Hid (aa_ (d5_ c c.kids.length)++⟨#[41]⟩=aa_ (an_ c)):=hid (by
    rw[EP.out,EF.out,List.append_nil];show aa_ _++aa_ [41]=_;rw[ah_])
   clear hB hK;generalize aa_ (d5_ c c.kids.length)=s0 at *;go_wp2;go_ret;exact⟨by rw[← CE.out];rfl,BH.out⟩
theorem hJ_ (c:Co)(j:Nat)(wd:List UInt8)(hk:c.kind=(j:Int)+3)(hj:j=2∧wd=[67,111,110]∨j=4∧wd=[65,108,108])(ih:∀ x∈c.kids,bt_ x):bt_ c:=by
 intro S a n ka kn w hC hS hw hl;have h1:c.kind≠1:=by omega
 have h2:c.kind≠2:=by omega
 have HW:aP_ c.kind=wd:=by rw[hk];rcases hj with ⟨rfl,rfl⟩|⟨rfl,rfl⟩<;>rfl
 have E0:Hid (((⟨#[40]⟩++aa_ wd++⟨#[32]⟩++c.name):ByteArray)=aa_ (d5_ c 0)):=hid (by unfold d5_ rX_;rw[HW,List.take_zero,bn_,if_pos (by omega)];show aa_ [40]++aa_ wd++aa_ [32]++c.name=_;rw[← dX_ c.name,ah_,ah_,ah_,dX_];simp only[List.append_nil,List.append_assoc];rfl);have hms:c.name.size≤64:=hw.k.1;have hz0:=ao_ w (.cells #[.int .i64 c.kind,.string c.name,.int .i64 c.n,.int .i64 c.t.kind,.string c.t.name,.int .i64 c.t.n,.slice a c.t.args.length n,.slice ka c.kids.length kn] 59);have hz1:=hz0.alloc (by simp) (.cells #[.string ⟨#[83,121,109]⟩,.string ⟨#[84,114,97,110,115]⟩,.string ⟨#[67,111,110]⟩,.string ⟨#[70,117,110]⟩,.string ⟨#[65,108,108]⟩,.string ⟨#[78,116,104]⟩,.string ⟨#[73,110,115,116]⟩] 9);have b8:=(Z8.new w (.int .i64 c.kind) (.string c.name) (.int .i64 c.n) (.int .i64 c.t.kind) (.string c.t.name) (.int .i64 c.t.n) (.slice a c.t.args.length n) (.slice ka c.kids.length kn)).low (ao_ _ (.cells #[.string ⟨#[83,121,109]⟩,.string ⟨#[84,114,97,110,115]⟩,.string ⟨#[67,111,110]⟩,.string ⟨#[70,117,110]⟩,.string ⟨#[65,108,108]⟩,.string ⟨#[78,116,104]⟩,.string ⟨#[73,110,115,116]⟩] 9));have cw:((w.alloc (.cells #[.int .i64 c.kind,.string c.name,.int .i64 c.n,.int .i64 c.t.kind,.string c.t.name,.int .i64 c.t.n,.slice a c.t.args.length n,.slice ka c.kids.length kn] 59)).alloc (.cells #[.string ⟨#[83,121,109]⟩,.string ⟨#[84,114,97,110,115]⟩,.string ⟨#[67,111,110]⟩,.string ⟨#[70,117,110]⟩,.string ⟨#[65,108,108]⟩,.string ⟨#[78,116,104]⟩,.string ⟨#[73,110,115,116]⟩] 9)).cell? ⟨w.heap.size+1,j,none⟩=some (.string (aa_ wd)):=by
  rw[show w.heap.size+1=(w.alloc (.cells #[.int .i64 c.kind,.string c.name,.int .i64 c.n,.int .i64 c.t.kind,.string c.t.name,.int .i64 c.t.n,.slice a c.t.args.length n,.slice ka c.kids.length kn] 59)).heap.size from by simp,cell_of_row _ _ j _ _ (0,0) (heap_alloc_new _ _)];rcases hj with ⟨rfl,rfl⟩|⟨rfl,rfl⟩<;>rfl
 have hws:(aa_ wd).size≤5:=by rw[am_];rcases hj with ⟨_,rfl⟩|⟨_,rfl⟩<;>decide
 have hkl:c.kids.length≤4000:=hw.k.2.1;have EP:=hid (ee_ c h1 h2);have PL:=hid (fun i=>it_ c h1 h2 i);have KL:Hid (∀ x∈c.kids,(an_ x).length≤(an_ c).length):=hid fun x hx=>eG_ c h1 h2 hx;have EF:Hid (n4_ c=[]):=hid (by unfold n4_;rw[if_neg (by omega)]);have HC:=hid hC;have HS:=hid hS;have HL:=hid hl;have IH:=hid ih;have HWK:=hid hw.kids;rw[hk] at hz1 b8 cw;have B0:=hid hz1;have K0:=hid b8;have c0:=b8.c0;have c1:=b8.c1;have q1:((j:Int)+3==1)=false:=by rw[beq_eq_false_iff_ne];omega
 have q2:((j:Int)+3==2)=false:=by rw[beq_eq_false_iff_ne];omega
 have q8:((j:Int)+3==8)=false:=by rw[beq_eq_false_iff_ne];omega
 have q9:((j:Int)+3==9)=false:=by rw[beq_eq_false_iff_ne];omega
 have hj6:j≤6:=by omega
 have hje:(j:Int)+3 - 3=(j:Int):=by omega
 unfold cv;rw[hk];clear hC hS hw hl ih hz0 hz1 b8 h1 h2 HW hk;have hq:(((j:Int)+3==5)=true)∨(((j:Int)+3==5)=false∧((j:Int)+3==7)=true):=by
  rcases hj with ⟨rfl,_⟩|⟨rfl,_⟩
  ·exact .inl rfl
  ·exact .inr ⟨rfl,rfl⟩
 clear hj
 rcases hq with q5|⟨q5,q7⟩
 all_goals
  go_enter Tryz.func19,Tryz.ntmps19;have c7:=K0.out.c7;go_wp2
  go_loopw [4,5] (fun sv iv wr=>∃ i:Nat,iv=.int .i64 i∧i≤c.kids.length∧sv=.string (aa_ (d5_ c i))∧Z8 wr w.heap.size (.int .i64 ((j:Int)+3)) (.string c.name) (.int .i64 c.n) (.int .i64 c.t.kind) (.string c.t.name) (.int .i64 c.t.n) (.slice a c.t.args.length n) (.slice ka c.kids.length kn)∧Below w.heap.size w wr) (fun _ iv _=>c.kids.length - (intOf iv).toNat)
  case atStart=>exact⟨0,rfl,Nat.zero_le _,by rw[← E0.out],K0.out,B0.out⟩
  case round =>
   clear c0 c1 cw c7;obtain⟨i,rfl,hil,rfl,hK,hB⟩:=hrel;have z0:(0:Int)≤(i:Int):=(by omega);have KH:=hid hK;have BH:=hid hB;have hps:(aa_ (d5_ c i)).size≤1000000000:=by rw[am_];have h1:=PL.out i;have h2:=HL.out;omega
   by_cases hi:i<c.kids.length
   ·have z1:(i:Int)<(c.kids.length:Int):=by omega
    obtain⟨b,off,a1,n1,a2,n2,rfl,hb,hf,hs,hk2⟩:=HC.out.k.at_ hi;have hn:=HS.out;obtain⟨f0,f1,f2,f3,f4,f5,f6,f7⟩:=hf.keep (hB.block b (hn b hb));have hm_:=List.getElem_mem hi;have hx1:=HWK.out _ hm_;have hx2:=bm_ (KL.out _ hm_) HL.out;have CH:=hid (IH.out _ hm_ S a1 n1 a2 n2 wr ⟨hs.keep fun b hS=>hB.block b (hn b hS),hk2.keep fun b hS=>hB.block b (hn b hS)⟩ (fun b hS=>aX_ (hn b hS) hB.size) hx1 hx2);have CA:=hid (gr_ c i hi);have hxs:(aa_ (an_ c.kids[i])).size≤1000000000:=by rw[am_];exact hx2
    have c7:=hK.c7;have CE:Hid (aa_ (d5_ c i)++⟨#[32]⟩++aa_ (an_ c.kids[i])=aa_ (d5_ c (i+1))):=hid (by
     rw[CA.out];show aa_ _++aa_ [32]++aa_ _=_;rw[ah_,ah_];simp)
    clear hf hs hk2 hB hK hm_ hn hb hx1 hx2;unfold cv aQ_ at CH;generalize c.kids[i]=x at *;generalize aa_ (an_ x)=px at *;generalize aa_ (d5_ c i)=s0 at *;have z5:(s0++(⟨#[32]⟩:ByteArray)).size≤1000000001:=by rw[ByteArray.size_append];show s0.size+1≤_;omega
    go_wp2_with fail;refine CH.out.mono ?_;rintro e w4 ⟨rfl,hb4⟩;have B4_:=hid (BH.out.trans (hb4.mono BH.out.size));have K4:=hid (KH.out.low hb4);clear hb4;go_wp2;go_roundw
    case rel=>exact⟨i+1,by go_num,by omega,by rw[← CE.out],K4.out,B4_.out⟩
    case measure=>simp[intOf];omega
   ·obtain rfl:i=c.kids.length:=by omega
    have c0:=hK.c0;have c7:=hK.c7;have CE:Hid (aa_ (d5_ c c.kids.length)++⟨#[41]⟩=aa_ (an_ c)):=hid (by
     rw[EP.out,EF.out,List.append_nil];show aa_ _++aa_ [41]=_;rw[ah_])
    clear hB hK;generalize aa_ (d5_ c c.kids.length)=s0 at *;go_wp2;go_ret;exact⟨by rw[← CE.out];rfl,BH.out⟩
theorem m7_ (c:Co)(hk:c.kind=8)(ih:∀ x∈c.kids,bt_ x):bt_ c:=by
 intro S a n ka kn w hC hS hw hl;have h1:c.kind≠1:=by omega
 have h2:c.kind≠2:=by omega
 have hn9:0≤c.n∧c.n<1000000000:=by have:=hw.k.2.2;omega
 obtain⟨m,hm⟩:∃ m:Nat,c.n=m:=⟨c.n.toNat,by omega⟩;have E0:Hid (((⟨#[40]⟩++⟨#[78,116,104]⟩++⟨#[32]⟩++aa_ (Lib.decDigits m)):ByteArray)=aa_ (d5_ c 0)):=hid (by unfold d5_ rX_;rw[hk,List.take_zero,bn_,if_neg (by decide),if_pos rfl,hm,Lib.itoa_nonneg];show aa_ [40]++aa_ [78,116,104]++aa_ [32]++aa_ (Lib.decDigits m)=_;rw[ah_,ah_,ah_];simp only[List.append_nil];rfl);have hml:(Lib.decDigits m).length≤30:=by have:=ry_ m (by omega);omega
 have hms:(aa_ (Lib.decDigits m)).size≤30:=by rw[am_];exact hml
 have hz0:=ao_ w (.cells #[.int .i64 c.kind,.string c.name,.int .i64 c.n,.int .i64 c.t.kind,.string c.t.name,.int .i64 c.t.n,.slice a c.t.args.length n,.slice ka c.kids.length kn] 59);have hz1:=hz0.alloc (by simp) (.cells #[.string ⟨#[83,121,109]⟩,.string ⟨#[84,114,97,110,115]⟩,.string ⟨#[67,111,110]⟩,.string ⟨#[70,117,110]⟩,.string ⟨#[65,108,108]⟩,.string ⟨#[78,116,104]⟩,.string ⟨#[73,110,115,116]⟩] 9);have b8:=(Z8.new w (.int .i64 c.kind) (.string c.name) (.int .i64 c.n) (.int .i64 c.t.kind) (.string c.t.name) (.int .i64 c.t.n) (.slice a c.t.args.length n) (.slice ka c.kids.length kn)).low (ao_ _ (.cells #[.string ⟨#[83,121,109]⟩,.string ⟨#[84,114,97,110,115]⟩,.string ⟨#[67,111,110]⟩,.string ⟨#[70,117,110]⟩,.string ⟨#[65,108,108]⟩,.string ⟨#[78,116,104]⟩,.string ⟨#[73,110,115,116]⟩] 9));have cw:((w.alloc (.cells #[.int .i64 c.kind,.string c.name,.int .i64 c.n,.int .i64 c.t.kind,.string c.t.name,.int .i64 c.t.n,.slice a c.t.args.length n,.slice ka c.kids.length kn] 59)).alloc (.cells #[.string ⟨#[83,121,109]⟩,.string ⟨#[84,114,97,110,115]⟩,.string ⟨#[67,111,110]⟩,.string ⟨#[70,117,110]⟩,.string ⟨#[65,108,108]⟩,.string ⟨#[78,116,104]⟩,.string ⟨#[73,110,115,116]⟩] 9)).cell? ⟨w.heap.size+1,5,none⟩=some (.string ⟨#[78,116,104]⟩):=by
  rw[show w.heap.size+1=(w.alloc (.cells #[.int .i64 c.kind,.string c.name,.int .i64 c.n,.int .i64 c.t.kind,.string c.t.name,.int .i64 c.t.n,.slice a c.t.args.length n,.slice ka c.kids.length kn] 59)).heap.size from by simp,cell_of_row _ _ 5 _ _ (0,0) (heap_alloc_new _ _)];rfl
 have hkl:c.kids.length≤4000:=hw.k.2.1;have EP:=hid (ee_ c h1 h2);have PL:=hid (fun i=>it_ c h1 h2 i);have KL:Hid (∀ x∈c.kids,(an_ x).length≤(an_ c).length):=hid fun x hx=>eG_ c h1 h2 hx;have EF:Hid (n4_ c=[]):=hid (by unfold n4_;rw[if_neg (by omega)]);have HC:=hid hC;have HS:=hid hS;have HL:=hid hl;have IH:=hid ih;have HWK:=hid hw.kids;have hmb:m<1000000000000000000:=by omega
 rw[hk,hm] at hz1 b8 cw;have B0:=hid hz1;have K0:=hid b8;have c0:=b8.c0;have c1:=b8.c1;have c2:=b8.c2;clear hC hS hw hl ih hz0 hz1 b8 h1 h2 hn9 hml;unfold cv;rw[hk,hm];clear hm;go_enter Tryz.func19,Tryz.ntmps19;go_wp2_with fail;refine (hc_ m hmb _).mono ?_;rintro e w1 ⟨rfl,hb1⟩;have B1:=hid (B0.out.trans (hb1.mono B0.out.size));have K1:=hid (K0.out.low hb1);clear hb1 c0 c1 c2 cw;have c0:=K1.out.c0;have c7:=K1.out.c7;go_wp2
 go_loopw [4,5] (fun sv iv wr=>∃ i:Nat,iv=.int .i64 i∧i≤c.kids.length∧sv=.string (aa_ (d5_ c i))∧Z8 wr w.heap.size (.int .i64 8) (.string c.name) (.int .i64 (m:Int)) (.int .i64 c.t.kind) (.string c.t.name) (.int .i64 c.t.n) (.slice a c.t.args.length n) (.slice ka c.kids.length kn)∧Below w.heap.size w wr) (fun _ iv _=>c.kids.length - (intOf iv).toNat)
 case atStart=>exact⟨0,rfl,Nat.zero_le _,by rw[← E0.out],K1.out,B1.out⟩
 case round =>
  clear c0 c7;obtain⟨i,rfl,hil,rfl,hK,hB⟩:=hrel;have z0:(0:Int)≤(i:Int):=by omega
  have KH:=hid hK;have BH:=hid hB;have hps:(aa_ (d5_ c i)).size≤1000000000:=by rw[am_];have h1:=PL.out i;have h2:=HL.out;omega
  by_cases hi:i<c.kids.length
  ·have z1:(i:Int)<(c.kids.length:Int):=by omega
   obtain⟨b,off,a1,n1,a2,n2,rfl,hb,hf,hs,hk2⟩:=HC.out.k.at_ hi;have hn:=HS.out;obtain⟨f0,f1,f2,f3,f4,f5,f6,f7⟩:=hf.keep (hB.block b (hn b hb));have hm_:=List.getElem_mem hi;have hx1:=HWK.out _ hm_;have hx2:=bm_ (KL.out _ hm_) HL.out;have CH:=hid (IH.out _ hm_ S a1 n1 a2 n2 wr ⟨hs.keep fun b hS=>hB.block b (hn b hS),hk2.keep fun b hS=>hB.block b (hn b hS)⟩ (fun b hS=>aX_ (hn b hS) hB.size) hx1 hx2);have CA:=hid (gr_ c i hi);have hxs:(aa_ (an_ c.kids[i])).size≤1000000000:=by rw[am_];exact hx2
   have c7:=hK.c7;have CE:Hid (aa_ (d5_ c i)++⟨#[32]⟩++aa_ (an_ c.kids[i])=aa_ (d5_ c (i+1))):=hid (by
    rw[CA.out];show aa_ _++aa_ [32]++aa_ _=_;rw[ah_,ah_];simp)
   clear hf hs hk2 hB hK hm_ hn hb hx1 hx2;unfold cv aQ_ at CH;generalize c.kids[i]=x at *;generalize aa_ (an_ x)=px at *;generalize aa_ (d5_ c i)=s0 at *;have z5:(s0++(⟨#[32]⟩:ByteArray)).size≤1000000001:=by rw[ByteArray.size_append];show s0.size+1≤_;omega
   go_wp2_with fail;refine CH.out.mono ?_;rintro e w4 ⟨rfl,hb4⟩;have B4_:=hid (BH.out.trans (hb4.mono BH.out.size));have K4:=hid (KH.out.low hb4);clear hb4;go_wp2;go_roundw
   case rel=>exact⟨i+1,by go_num,by omega,by rw[← CE.out],K4.out,B4_.out⟩
   case measure=>simp[intOf];omega
  ·obtain rfl:i=c.kids.length:=by omega
   have c0:=hK.c0;have c7:=hK.c7;have CE:Hid (aa_ (d5_ c c.kids.length)++⟨#[41]⟩=aa_ (an_ c)):=hid (by
    rw[EP.out,EF.out,List.append_nil];show aa_ _++aa_ [41]=_;rw[ah_])
   clear hB hK;generalize aa_ (d5_ c c.kids.length)=s0 at *;go_wp2;go_ret;exact⟨by rw[← CE.out];rfl,BH.out⟩
theorem m6_ (c:Co)(hk:c.kind=9)(ih:∀ x∈c.kids,bt_ x):bt_ c:=by
 intro S a n ka kn w hC hS hw hl;have h1:c.kind≠1:=by omega
 have h2:c.kind≠2:=by omega
 have E0:Hid (((⟨#[40]⟩++⟨#[73,110,115,116]⟩):ByteArray)=aa_ (d5_ c 0)):=hid (by unfold d5_ rX_;rw[hk,List.take_zero,bn_,if_neg (by decide),if_neg (by decide)];rfl);have hz0:=ao_ w (.cells #[.int .i64 c.kind,.string c.name,.int .i64 c.n,.int .i64 c.t.kind,.string c.t.name,.int .i64 c.t.n,.slice a c.t.args.length n,.slice ka c.kids.length kn] 59);have hz1:=hz0.alloc (by simp) (.cells #[.string ⟨#[83,121,109]⟩,.string ⟨#[84,114,97,110,115]⟩,.string ⟨#[67,111,110]⟩,.string ⟨#[70,117,110]⟩,.string ⟨#[65,108,108]⟩,.string ⟨#[78,116,104]⟩,.string ⟨#[73,110,115,116]⟩] 9);have b8:=(Z8.new w (.int .i64 c.kind) (.string c.name) (.int .i64 c.n) (.int .i64 c.t.kind) (.string c.t.name) (.int .i64 c.t.n) (.slice a c.t.args.length n) (.slice ka c.kids.length kn)).low (ao_ _ (.cells #[.string ⟨#[83,121,109]⟩,.string ⟨#[84,114,97,110,115]⟩,.string ⟨#[67,111,110]⟩,.string ⟨#[70,117,110]⟩,.string ⟨#[65,108,108]⟩,.string ⟨#[78,116,104]⟩,.string ⟨#[73,110,115,116]⟩] 9));have cw:((w.alloc (.cells #[.int .i64 c.kind,.string c.name,.int .i64 c.n,.int .i64 c.t.kind,.string c.t.name,.int .i64 c.t.n,.slice a c.t.args.length n,.slice ka c.kids.length kn] 59)).alloc (.cells #[.string ⟨#[83,121,109]⟩,.string ⟨#[84,114,97,110,115]⟩,.string ⟨#[67,111,110]⟩,.string ⟨#[70,117,110]⟩,.string ⟨#[65,108,108]⟩,.string ⟨#[78,116,104]⟩,.string ⟨#[73,110,115,116]⟩] 9)).cell? ⟨w.heap.size+1,6,none⟩=some (.string ⟨#[73,110,115,116]⟩):=by
  rw[show w.heap.size+1=(w.alloc (.cells #[.int .i64 c.kind,.string c.name,.int .i64 c.n,.int .i64 c.t.kind,.string c.t.name,.int .i64 c.t.n,.slice a c.t.args.length n,.slice ka c.kids.length kn] 59)).heap.size from by simp,cell_of_row _ _ 6 _ _ (0,0) (heap_alloc_new _ _)];rfl
 have hkl:c.kids.length≤4000:=hw.k.2.1;have EP:=hid (ee_ c h1 h2);have PL:=hid (fun i=>it_ c h1 h2 i);have KL:Hid (∀ x∈c.kids,(an_ x).length≤(an_ c).length):=hid fun x hx=>eG_ c h1 h2 hx;have hpl:(ae_ c.t).length+2≤1000000000:=bm_ (or_ c (by omega)) hl;have hpw:=(hw.ok (.inr (by omega))).2.1;have CT:=hid (fun (W:World) (h:Below w.heap.size w W)=>hK_ c.t S a n W (c29 hC hS W h) (fun b hb=>aX_ (hS b hb) h.size) hpw (by omega));have hzt:(aa_ (ae_ c.t)).size≤1000000000:=by rw[am_];omega
 have EF:Hid (n4_ c=32 :: 60 :: ae_ c.t++[62]):=hid (by unfold n4_;rw[if_pos hk]);unfold tv aQ_ at CT;have HC:=hid hC;have HS:=hid hS;have HL:=hid hl;have IH:=hid ih;have HWK:=hid hw.kids;have hmb:True:=by trivial
 rw[hk] at hz1 b8 cw;have B0:=hid hz1;have K0:=hid b8;have c0:=b8.c0;have c1:=b8.c1;have c2:=b8.c2;clear hC hS hw hl ih hz0 hz1 b8 h1 h2 hpl hpw;unfold cv;rw[hk];clear hmb;go_enter Tryz.func19,Tryz.ntmps19;have c7:=K0.out.c7;go_wp2
 go_loopw [4,5] (fun sv iv wr=>∃ i:Nat,iv=.int .i64 i∧i≤c.kids.length∧sv=.string (aa_ (d5_ c i))∧Z8 wr w.heap.size (.int .i64 9) (.string c.name) (.int .i64 c.n) (.int .i64 c.t.kind) (.string c.t.name) (.int .i64 c.t.n) (.slice a c.t.args.length n) (.slice ka c.kids.length kn)∧Below w.heap.size w wr) (fun _ iv _=>c.kids.length - (intOf iv).toNat)
 case atStart=>exact⟨0,rfl,Nat.zero_le _,by rw[← E0.out],K0.out,B0.out⟩
 case round =>
  clear c0 c1 c2 cw c7;obtain⟨i,rfl,hil,rfl,hK,hB⟩:=hrel;have z0:(0:Int)≤(i:Int):=by omega
  have KH:=hid hK;have BH:=hid hB;have hps:(aa_ (d5_ c i)).size≤1000000000:=by rw[am_];have h1:=PL.out i;have h2:=HL.out;omega
  by_cases hi:i<c.kids.length
  ·have z1:(i:Int)<(c.kids.length:Int):=by omega
   obtain⟨b,off,a1,n1,a2,n2,rfl,hb,hf,hs,hk2⟩:=HC.out.k.at_ hi;have hn:=HS.out;obtain⟨f0,f1,f2,f3,f4,f5,f6,f7⟩:=hf.keep (hB.block b (hn b hb));have hm_:=List.getElem_mem hi;have hx1:=HWK.out _ hm_;have hx2:=bm_ (KL.out _ hm_) HL.out;have CH:=hid (IH.out _ hm_ S a1 n1 a2 n2 wr ⟨hs.keep fun b hS=>hB.block b (hn b hS),hk2.keep fun b hS=>hB.block b (hn b hS)⟩ (fun b hS=>aX_ (hn b hS) hB.size) hx1 hx2);have CA:=hid (gr_ c i hi);have hxs:(aa_ (an_ c.kids[i])).size≤1000000000:=by rw[am_];exact hx2
   have c7:=hK.c7;have CE:Hid (aa_ (d5_ c i)++⟨#[32]⟩++aa_ (an_ c.kids[i])=aa_ (d5_ c (i+1))):=hid (by
    rw[CA.out];show aa_ _++aa_ [32]++aa_ _=_;rw[ah_,ah_];simp)
   clear hf hs hk2 hB hK hm_ hn hb hx1 hx2;unfold cv aQ_ at CH;generalize c.kids[i]=x at *;generalize aa_ (an_ x)=px at *;generalize aa_ (d5_ c i)=s0 at *;have z5:(s0++(⟨#[32]⟩:ByteArray)).size≤1000000001:=by rw[ByteArray.size_append];show s0.size+1≤_;omega
   go_wp2_with fail;refine CH.out.mono ?_;rintro e w4 ⟨rfl,hb4⟩;have B4_:=hid (BH.out.trans (hb4.mono BH.out.size));have K4:=hid (KH.out.low hb4);clear hb4;go_wp2;go_roundw
   case rel=>exact⟨i+1,by go_num,by omega,by rw[← CE.out],K4.out,B4_.out⟩
   case measure=>simp[intOf];omega
  ·obtain rfl:i=c.kids.length:=by omega
   have c0:=hK.c0;have c7:=hK.c7;have c3:=hK.c3;have c4:=hK.c4;have c5:=hK.c5;have c6:=hK.c6;have CE:Hid (aa_ (d5_ c c.kids.length)++⟨#[32,60]⟩++aa_ (ae_ c.t)++⟨#[62]⟩++⟨#[41]⟩=aa_ (an_ c)):=hid (by
    rw[EP.out,EF.out];show aa_ _++aa_ [32,60]++aa_ _++aa_ [62]++aa_ [41]=_;rw[ah_,ah_,ah_,ah_];simp)
   have C9:=hid (CT.out wr hB);clear hB hK CT;generalize aa_ (ae_ c.t)=st at *;generalize aa_ (d5_ c c.kids.length)=s0 at *;have z5:(s0++(⟨#[32,60]⟩:ByteArray)).size≤1000000002:=by rw[ByteArray.size_append];show s0.size+2≤_;omega
   have z6:(s0++(⟨#[32,60]⟩:ByteArray)++st).size≤2000000002:=by rw[ByteArray.size_append];omega
   have z7:(s0++(⟨#[32,60]⟩:ByteArray)++st++(⟨#[62]⟩:ByteArray)).size≤2000000003:=by rw[ByteArray.size_append];show _+1≤_;omega
   go_wp2_with fail;refine C9.out.mono ?_;rintro e w4 ⟨rfl,hb4⟩;have B4_:=hid (BH.out.trans (hb4.mono BH.out.size));clear hb4;go_wp2;go_ret;exact⟨by rw[← CE.out];rfl,B4_.out⟩
theorem j7_ (c:Co):bt_ c:=by
 induction c using Co.ind with
 | h c ih =>
  intro S a n ka kn w hC hS hw hl
  rcases hw.k.2.2 with h|h|h|h|h|h|h|h|h
  ·exact j5_ c h.1 S a n ka kn w hC hS hw hl
  ·exact jc_ c h.1 S a n ka kn w hC hS hw hl
  ·exact fi_ c 0 sS_ h.1 (.inl ⟨rfl,rfl⟩) ih S a n ka kn w hC hS hw hl
  ·exact fi_ c 1 kF_ h.1 (.inr (.inl ⟨rfl,rfl⟩)) ih S a n ka kn w hC hS hw hl
  ·exact hJ_ c 2 sU_ h (.inl ⟨rfl,rfl⟩) ih S a n ka kn w hC hS hw hl
  ·exact fi_ c 3 sT_ h.1 (.inr (.inr ⟨rfl,rfl⟩)) ih S a n ka kn w hC hS hw hl
  ·exact hJ_ c 4 sV_ h.1 (.inr ⟨rfl,rfl⟩) ih S a n ka kn w hC hS hw hl
  ·exact m7_ c h.1 ih S a n ka kn w hC hS hw hl
  ·exact m6_ c h.1 ih S a n ka kn w hC hS hw hl
end
section
open Go.RowKit Go.Sort
open Lx
structure jN_ (n b:Nat)(c:Co)(a:OA_)(m:Nat)(ka:OA_)(km:Nat)(W:World):Prop where
 k:Z8 W b (.int .i64 c.kind) (.string c.name) (.int .i64 c.n) (.int .i64 c.t.kind) (.string c.t.name) (.int .i64 c.t.n) (.slice a c.t.args.length m) (.slice ka c.kids.length km)
 h:bS_ (Lt n) W c a m ka km
 lt:b<W.heap.size
 le:n≤W.heap.size
section
variable {n b : Nat} {c : Co} {a : OA_} {m : Nat} {ka : OA_} {km : Nat} {W W' : World}
theorem jN_.low (R:jN_ n b c a m ka km W)(h:Below W.heap.size W W'):jN_ n b c a m ka km W' :=
 ⟨R.k.low h,R.h.keep fun j hj=>h.block j (aX_ hj R.le),aX_ R.lt h.size,bm_ R.le h.size⟩
theorem jN_.at_ (R:jN_ n b c a m ka km W):bS_ (Lt W.heap.size) W c a m ka km:=R.h.mono fun _ hj=>aX_ hj R.le
theorem jN_.of_at (h:bS_ (Lt W.heap.size) W c a m ka km):jN_ W.heap.size W.heap.size c a m ka km (W.alloc (.cells #[.int .i64 c.kind,.string c.name,.int .i64 c.n,.int .i64 c.t.kind,.string c.t.name,.int .i64 c.t.n,.slice a c.t.args.length m,.slice ka c.kids.length km] 59)) :=
 ⟨Z8.new W _ _ _ _ _ _ _ _,h.keep fun b hb=>heap_alloc_old W _ hb,by simp,by simp⟩
end
structure ou_ (w:World)(va:OA_)(vc:Nat)(ts:List Tok):Prop where
 at_:aO_ w (.slice va ts.length vc) ts
 lt:∀ b o,va=some ⟨b,o,none⟩→b<w.heap.size
theorem ou_.low {w w':World}{va:OA_}{vc:Nat}{ts:List Tok}(h:ou_ w va vc ts)(hb:Below w.heap.size w w'):ou_ w' va vc ts :=
 ⟨bw_ h.at_ hb,fun b o e=>aX_ (h.lt b o e) hb.size⟩
section
variable {w : World} {va : OA_} {vc : Nat} {ts : List Tok}
end
def PrOk (c:Co):Prop:=WfC c∧(an_ c).length≤400000
theorem q8_ {s:List UInt8}{c:Co}(h:aY_ s=.ok c):PrOk c:=by
 obtain⟨h1,h2,_⟩:=nA_ h;have h3:=l8_ c h1;exact⟨h1,by omega⟩
section
variable {c : Co} {a : OA_} {m : Nat} {ka : OA_} {km : Nat} {W : World}
theorem sY_ (R:bS_ (Lt W.heap.size) W c a m ka km)(hp:PrOk c)(hT:Tab W):Calls Tryz.prog 18 #[.agg #[.int .i64 c.kind,.string c.name,.int .i64 c.n,.int .i64 c.t.kind,.string c.t.name,.int .i64 c.t.n,.slice a c.t.args.length m,.slice ka c.kids.length km]] W (aQ_ W (an_ c)) :=
 l9_ c _ a m ka km W R (fun _ h=>h) hp.1 (by have:=hp.2;omega) hT
theorem se_ (R:bS_ (Lt W.heap.size) W c a m ka km)(hp:PrOk c):Calls Tryz.prog 19 #[.agg #[.int .i64 c.kind,.string c.name,.int .i64 c.n,.int .i64 c.t.kind,.string c.t.name,.int .i64 c.t.n,.slice a c.t.args.length m,.slice ka c.kids.length km]] W (aQ_ W (an_ c)) :=
 j7_ c _ a m ka km W R (fun _ h=>h) hp.1 (by have:=hp.2;omega)
end
def PeZ (w:World)(res:Except Nat Co)(e:Ending)(w':World):Prop :=
 ∃ (c:Co) (a:OA_) (m:Nat) (ka:OA_) (km er:Nat),e=.returned (.tuple #[.agg #[.int .i64 c.kind,.string c.name,.int .i64 c.n,.int .i64 c.t.kind,.string c.t.name,.int .i64 c.t.n,.slice a c.t.args.length m,.slice ka c.kids.length km],.int .i64 er])∧jN_ w'.heap.size w'.heap.size c a m ka km (w'.alloc (.cells #[.int .i64 c.kind,.string c.name,.int .i64 c.n,.int .i64 c.t.kind,.string c.t.name,.int .i64 c.t.n,.slice a c.t.args.length m,.slice ka c.kids.length km] 59)) ∧
  Below w.heap.size w (w'.alloc (.cells #[.int .i64 c.kind,.string c.name,.int .i64 c.n,.int .i64 c.t.kind,.string c.t.name,.int .i64 c.t.n,.slice a c.t.args.length m,.slice ka c.kids.length km] 59))∧(res=.ok c∧er=0∨res=.error er∧er≠0)
theorem pez_any (w:World)(s:ByteArray)(hs:s.size≤maxLen):Calls Tryz.prog 17 #[.string s] w (PeZ w (aY_ s.data.toList)):=by
 refine (j8_ w s hs).mono ?_;rintro e w' ⟨hb,hres⟩;cases hp:aY_ s.data.toList with
 | error er =>
  rw[hp] at hres;subst hres;exact⟨coz,none,0,none,0,er,rfl,.of_at (bS_.none _ _ _ _ _ _ _),hb.trans ((ao_ _ _).mono hb.size),.inr ⟨rfl,ji_ hp⟩⟩
 | ok c =>
  rw[hp] at hres;obtain⟨a,m,ka,km,rfl,hC⟩:=hres;exact⟨c,a,m,ka,km,0,rfl,.of_at (hC.mono fun b hb=>hb.2),hb.trans ((ao_ _ _).mono hb.size),.inl ⟨rfl,rfl⟩⟩
end
end Go.Proofs.YtkihnodkhnahiaaGreatDoor.Tp

/- Packed. -/
import Derived.Test.YtjecnionbjlncaaGreatDoorP11
set_option maxRecDepth 100000
set_option maxHeartbeats 6400000
namespace Go.Proofs.YtjecnionbjlncaaGreatDoor.Tp
section
mutual
def Ty.size:Ty→Nat
 | .mk _ _ _ args=>af_ args+1
def af_:List Ty→Nat
 | []=>0
 | t :: ts=>t.size+af_ ts
end
theorem Ty.size_eq (t:Ty):t.size=af_ t.args+1:=by cases t;simp[Ty.size,Ty.args]
theorem d9_ (a b:List Ty):af_ (a++b)=af_ a+af_ b:=by
 induction a with
 | nil=>simp[af_]
 | cons t ts ih=>simp only[List.cons_append,af_,ih];omega
theorem fz_ (ts:List Ty)(i:Nat)(h:i<ts.length):af_ (ts.take (i+1))=af_ (ts.take i)+ts[i].size:=by
 rw[List.take_add_one,List.getElem?_eq_getElem h,d9_];simp[af_]
theorem bx_ (ts:List Ty){a:Ty}(h:a∈ts):a.size≤af_ ts:=by
 induction ts with
 | nil=>cases h
 | cons t ts ih =>
  rw[af_]
  rcases List.mem_cons.1 h with rfl|h
  ·omega
  ·have:=ih h;omega
theorem cR_ (ts:List Ty)(i:Nat):af_ (ts.take i)≤af_ ts:=by
 conv=>rhs;rw[← List.take_append_drop i ts,d9_]
 omega
theorem bi_ (ts:List Ty):ts.length≤af_ ts:=by
 induction ts with
 | nil=>simp
 | cons t ts ih=>rw[af_,List.length_cons,t.size_eq];omega
section
variable {G : Type} (step : G → Ty → List ByteArray → G)
mutual
def bZ_:Ty→G→List ByteArray→G
 | .mk k s n args,g,ns=>bB_ args (step g (.mk k s n args) ns) (if k=5 then s :: ns else ns)
def bB_:List Ty→G→List ByteArray→G
 | [],g,_=>g
 | t :: ts,g,ns=>bB_ ts (bZ_ t g ns) ns
end
end
theorem cd_ {G:Type}(step:G→Ty→List ByteArray→G)(t:Ty)(g:G)(ns:List ByteArray):bZ_ step t g ns=bB_ step t.args (step g t ns) (if t.kind=5 then t.name :: ns else ns):=by
 cases t with
 | mk k s n args=>rw[bZ_];rfl
theorem it_ {G:Type}(step:G→Ty→List ByteArray→G)(a b:List Ty)(g:G)(ns:List ByteArray):bB_ step (a++b) g ns=bB_ step b (bB_ step a g ns) ns:=by
 induction a generalizing g with
 | nil=>rfl
 | cons t ts ih=>rw[List.cons_append,bB_,bB_,ih]
theorem hc_ {G:Type}(step:G→Ty→List ByteArray→G)(ts:List Ty)(i:Nat)(h:i<ts.length)(g:G)(ns:List ByteArray):bB_ step (ts.take (i+1)) g ns=bZ_ step ts[i] (bB_ step (ts.take i) g ns) ns:=by
 rw[List.take_add_one,List.getElem?_eq_getElem h,it_];rfl
def dM_ (l:List ByteArray)(x:ByteArray):Bool:=l.any fun y=>decide (y.data=x.data)
theorem b7_ (l:List ByteArray)(x:ByteArray):dM_ l x=true↔x∈l:=by
 unfold dM_;rw[List.any_eq_true]
 constructor
 ·rintro ⟨y,hy,h⟩
  have:y=x:=ByteArray.ext (by simpa using h);exact this ▸ hy
 ·intro h
  exact⟨x,h,by simp⟩
def ao_ (out:List ByteArray)(x:Ty)(ns:List ByteArray):List ByteArray:=if x.kind==1&&!dM_ ns x.name&&!dM_ out x.name then out++[x.name] else out
def aE_ (out:List Int)(x:Ty)(_:List ByteArray):List Int:=if x.kind==2&&!out.contains x.n then out++[x.n] else out
def ai_ (t:Ty):List ByteArray:=bZ_ ao_ t [] []
def ap_ (t:Ty):List Int:=bZ_ aE_ t [] []
end
section
open Go.RowKit
structure Tr (bo:Nat)(r:Option Nat)(W:World)(r':Option Nat)(W':World):Prop where
 kp:Kp W.heap.size (fun b=>b=bo∨some b=r) W W'
 row:r'=r∨∃ g,r'=some g∧W.heap.size≤g
theorem Tr.refl (bo:Nat)(r:Option Nat)(W:World):Tr bo r W r W:=⟨.refl _ _ _,.inl rfl⟩
theorem Tr.of_below {bo:Nat}{r:Option Nat}{W W':World}(h:Below W.heap.size W W'):Tr bo r W r W':=⟨.of_below h,.inl rfl⟩
theorem Tr.trans {bo:Nat}{r r1 r2:Option Nat}{W W1 W2:World}(h:Tr bo r W r1 W1)(h':Tr bo r1 W1 r2 W2):Tr bo r W r2 W2:=by
 refine⟨h.kp.trans h'.kp h.kp.size fun b hb e=>?_,?_⟩
 ·rcases e with e|e
  ·exact .inl e
  ·rcases h.row with e2|⟨g,e2,hg⟩
   ·exact .inr (e.trans e2)
   ·rw[e2] at e;injection e with e;omega
 ·have:=h.kp.size
  rcases h'.row with e|⟨g,e,hg⟩
  ·rcases h.row with e2|⟨g,e2,hg⟩
   ·exact .inl (e.trans e2)
   ·exact .inr ⟨g,e.trans e2,hg⟩
  ·exact .inr ⟨g,e,by omega⟩
theorem Tr.safe {bo:Nat}{r r':Option Nat}{W W':World}(h:Tr bo r W r' W'){b:Nat}(hb:b<W.heap.size)(h1:b≠bo)(h2:some b≠r):W'.heap[b]? = W.heap[b]?∧b<W'.heap.size∧some b≠r':=by
 refine⟨h.kp.block b hb (fun e=>e.elim h1 h2),by have:=h.kp.size;omega,fun e=>?_⟩
 rcases h.row with e2|⟨g,e2,hg⟩
 ·exact h2 (e.trans e2)
 ·rw[e2] at e;injection e with e;omega
section
variable {G : Type} (f : FuncId) (caps : Array Value) (bo : Nat) (step : G → Ty → List ByteArray → G) (Inv : Nat → G → Option Nat → World → Prop)
def kR_ (k:Nat)(g:G)(r:Option Nat)(W:World)(e:Ending)(W':World):Prop:=(∃ v,e=.returned v)∧∃ r',Inv k g r' W'∧Tr bo r W r' W'
def Off (bo:Nat)(r:Option Nat)(W:World)(b:Nat):Prop:=b<W.heap.size∧b≠bo∧some b≠r
def nR_:Prop:=∀ (k:Nat) (g:G) (x:Ty) (ns:List ByteArray) (S:Nat→Prop) (a:OA_) (c m:Nat) (r:Option Nat) (W:World),Inv k g r W→k<4500000000000→aa_ S W (.slice a x.args.length c) x.args →
 (∀ b,S b→Off bo r W b)→cn_ W m (·∈ns)→Off bo r W m→Calls Tryz.prog f (#[tv x a c,.map (some m)]++caps) W (kR_ bo Inv (k+1) (step g x ns) r W)
structure rn_:Prop where
 low:∀ k g r W W',Inv k g r W→Below W.heap.size W W'→Inv k g r W'
 bo:∀ k g r W,Inv k g r W→bo<W.heap.size
 row:∀ k g r W b,Inv k g r W→r=some b→b<W.heap.size
end
theorem Off.tr {bo:Nat}{r r':Option Nat}{W W':World}{b:Nat}(h:Off bo r W b)(k:Tr bo r W r' W'):Off bo r' W' b:=⟨(k.safe h.1 h.2.1 h.2.2).2.1,h.2.1,(k.safe h.1 h.2.1 h.2.2).2.2⟩
theorem j0_ {G:Type}(f:FuncId)(caps:Array Value)(bo:Nat)(step:G→Ty→List ByteArray→G)(Inv:Nat→G→Option Nat→World→Prop)(hf:∀ args w,(callFunc f args).run Tryz.prog w=.ok (.enter f args) w)(hat:nR_ f caps bo step Inv)(hok:rn_ bo Inv) :
  ∀ (t:Ty) (k:Nat) (g:G) (ns:List ByteArray) (S:Nat→Prop) (a:OA_) (c m:Nat) (r:Option Nat) (W:World),Inv k g r W→k+t.size≤4500000000000→aa_ S W (.slice a t.args.length c) t.args →
   (∀ b,S b→Off bo r W b)→cn_ W m (·∈ns)→Off bo r W m→Calls Tryz.prog 46 #[tv t a c,.map (some m),.func (.func f) #[] caps] W (kR_ bo Inv (k+t.size) (bZ_ step t g ns) r W):=by
 intro t
 induction t using Ty.ind with
 | h t ih =>
  intro k g ns S a c m r W hI hk hA hS hM hOm;have hz:=aw_ W (.cells #[.int .i64 t.kind,.string t.name,.int .i64 t.n,.slice a t.args.length c] 37);have b4:=B4.new W (.int .i64 t.kind) (.string t.name) (.int .i64 t.n) (.slice a t.args.length c);have hs1:(W.alloc (.cells #[.int .i64 t.kind,.string t.name,.int .i64 t.n,.slice a t.args.length c] 37)).heap.size=W.heap.size+1:=by simp
  have T0:Tr bo r W r (W.alloc (.cells #[.int .i64 t.kind,.string t.name,.int .i64 t.n,.slice a t.args.length c] 37)):=.of_below hz;have hB:Off bo r (W.alloc (.cells #[.int .i64 t.kind,.string t.name,.int .i64 t.n,.slice a t.args.length c] 37)) W.heap.size:=by
   refine⟨by simp,fun e=>?_,fun e=>?_⟩
   ·have:=hok.bo _ _ _ _ hI;omega
   ·have:=hok.row _ _ _ _ _ hI e.symm;omega
  have htl:=bi_ t.args;have hsz:=t.size_eq;have hal:t.args.length≤4500000000000:=by omega
  have CA:=hid (hat k g t ns S a c m r _ (hok.low _ _ _ _ _ hI hz) (by omega) (hA.keep (fun b hb=>hz.block b (hS b hb).1)) (fun b hb=>(hS b hb).tr T0) (hM.keep (hz.block m hOm.1)) (hOm.tr T0));obtain⟨c0,c1,c2,c3⟩:=b4.c03;have T0H:=hid T0;have HB:=hid hB;have B4H:=hid b4;have HA:=hid hA;have HS:=hid hS;have HM:=hid hM;have HOM:=hid hOm;have IH:=hid ih;have HAT:=hid hat;have HOK:=hid hok;have HSZ:=hid hsz;have HK:=hid hk;unfold tv at *;clear hI hA hS hM hOm hz b4 T0 hB ih hat hok hsz hk hs1
  by_cases h5:t.kind=5
  ·have z5:(t.kind==5)=true:=by rw[beq_iff_eq];exact h5
   have E:Hid (bZ_ step t g ns=bB_ step t.args (step g t ns) (t.name :: ns)):=hid (by rw[cd_,if_pos h5]);clear h5;go_enter Tryz.func46,Tryz.ntmps46;go_wp2_with fail;refine CA.out.mono ?_;rintro e W1 ⟨⟨v,rfl⟩,r1,hI1,hT1⟩;have q4:B4 W1 W.heap.size (.int .i64 t.kind) (.string t.name) (.int .i64 t.n) (.slice a t.args.length c):=(hT1.safe HB.out.1 HB.out.2.1 HB.out.2.2).1.trans B4H.out;have hm1:=hT1.safe (HOM.out.tr T0H.out).1 HOM.out.2.1 HOM.out.2.2;have T1:=T0H.out.trans hT1;have C2:=hid (nu_ m (·∈ns) W1 ((HM.out.keep (T0H.out.safe HOM.out.1 HOM.out.2.1 HOM.out.2.2).1).keep hm1.1));have Q4:=hid q4;have HI1:=hid hI1;have HT1:=hid T1;have c0:=q4.c0;have c1:=q4.c1;have c3:=q4.c3;clear hT1 hm1 T1 q4 hI1;go_wp2_with fail;refine C2.out.mono ?_;rintro e W2 ⟨rfl,hb2,hs2,hz2⟩;obtain⟨W3,hrun,hs3,hg3⟩:=hs2.update Tryz.underlying96 Tryz.underlying9 t.name;have q4:=(Q4.out.low hb2).grown hg3 (fun e=>by injection e with e;have:=Q4.out.lt;omega);have c12:=(Q4.out.low hb2).c1;have c0:=q4.c0;have c1:=q4.c1;have c3:=q4.c3;have TG:Tr bo r1 W1 r1 W3:=.of_below ⟨hg3.os.trans hb2.os,hg3.tape.trans hb2.tape,hg3.output.trans hb2.output,by have:=hg3.size;omega,fun b hb=>(hg3.block b (by omega) (fun e=>by injection e with e;omega)).trans (hb2.block b hb)⟩;have HI3:=hid (HOK.out.low _ _ _ _ W3 HI1.out ⟨TG.kp.os,TG.kp.tape,TG.kp.output,TG.kp.size,fun b hb=>(hg3.block b (by omega) (fun e=>by injection e with e;omega)).trans (hb2.block b hb)⟩);have HT3:=hid (HT1.out.trans TG);have HM3:=hid (show cn_ W3 W1.heap.size (·∈t.name :: ns) from hs3.congr fun s=>List.mem_cons.symm);have HO3:Hid (Off bo r1 W3 W1.heap.size):=hid ⟨by have:=hg3.size;omega,fun e=>by have:=HOK.out.bo _ _ _ _ HI1.out;omega,fun e=>by have:=HOK.out.row _ _ _ _ _ HI1.out e.symm;omega⟩;clear hb2 hs2 hz2 hs3 hg3 q4 TG;go_wp2
   go_loopw [23] (fun iv wr=>∃ (i:Nat) (g':G) (r':Option Nat),iv=.int .i64 i∧i≤t.args.length∧g'=bB_ step (t.args.take i) (step g t ns) (t.name :: ns)∧Inv (k+1+af_ (t.args.take i)) g' r' wr∧Tr bo r W r' wr∧cn_ wr W1.heap.size (·∈(t.name :: ns))∧Off bo r' wr W1.heap.size) (fun iv _=>t.args.length - (intOf iv).toNat)
   case atStart=>exact⟨0,_,r1,rfl,Nat.zero_le _,rfl,by simpa [af_,bB_] using HI3.out,HT3.out,HM3.out,HO3.out⟩
   case round =>
    clear HI3 HT3 HM3 HO3;obtain⟨i,g',r',rfl,hil,hg',hI,hT,hM,hO⟩:=hrel;have GE:=hid hg';have TE:=hid hT
    by_cases hi:i<t.args.length
    ·have z0:(0:Int)≤(i:Int):=by omega
     have z1:(i:Int)<(t.args.length:Int):=(by omega);obtain⟨b,off,a',c',rfl,hb,hf4,hs⟩:=HA.out.at_ hi;obtain⟨f0,f1,f2,f3⟩:=hf4.keep (hT.safe (HS.out b hb).1 (HS.out b hb).2.1 (HS.out b hb).2.2).1;have hz:=aw_ wr (.cells #[.int .i64 t.args[i].kind,.string t.args[i].name,.int .i64 t.args[i].n,.slice a' t.args[i].args.length c'] 37);have b4:=B4.new wr (.int .i64 t.args[i].kind) (.string t.args[i].name) (.int .i64 t.args[i].n) (.slice a' t.args[i].args.length c');obtain⟨c0,c1,c2,c3⟩:=b4.c03;have TN:Tr bo r' wr r' _:=.of_below hz;have hst:=fz_ t.args i hi;have hsl:=cR_ t.args (i+1);have hk2:=HK.out;have hz2:=HSZ.out;have CW:=hid (IH.out t.args[i] (List.getElem_mem hi) (k+1+af_ (t.args.take i)) g' (t.name :: ns) S a' c' W1.heap.size r' _ (HOK.out.low _ _ _ _ _ hI hz) (by omega) (hs.keep (fun b hb=>(hz.block b ((HS.out b hb).tr hT).1).trans (hT.safe (HS.out b hb).1 (HS.out b hb).2.1 (HS.out b hb).2.2).1)) (fun b hb=>((HS.out b hb).tr hT).tr TN) (hM.keep (hz.block W1.heap.size hO.1)) (hO.tr TN));have HST:=hid hst;have WT:=hid (hc_ step t.args i hi (step g t ns) (t.name :: ns));have HMR:=hid hM;have HOR:=hid hO;have TNH:=hid TN;unfold tv at *;clear hg' hI hT hM hO hf4 hs hz b4 TN hst hsl hk2 hz2;go_wp2_with fail;refine CW.out.mono ?_;rintro e W4 ⟨⟨v4,rfl⟩,r4,hI4,hT4⟩;have TF:=TNH.out.trans hT4;have HI4:=hid hI4;have HT4:=hid (TE.out.trans TF);have HM4:=hid (HMR.out.keep (TF.safe HOR.out.1 HOR.out.2.1 HOR.out.2.2).1);have HO4:=hid (HOR.out.tr TF);clear hI4 hT4 TF;go_wp2;go_roundw
     case rel=>exact⟨i+1,_,r4,by go_num,by omega,rfl,by rw[WT.out,← GE.out,HST.out,← Nat.add_assoc];exact HI4.out,HT4.out,HM4.out,HO4.out⟩
     case measure=>simp[intOf];omega
    ·obtain rfl:i=t.args.length:=by omega
     have HI:=hid hI;clear hg' hI hT hM hO;go_wp2
     go_end0
     have e1:k+1+af_ (t.args.take t.args.length)=k+t.size:=by rw[List.take_length,HSZ.out];omega
     have e2:g'=bZ_ step t g ns:=(by rw[GE.out,E.out,List.take_length]);rw[e1,e2] at HI;exact⟨⟨_,rfl⟩,r',HI.out,TE.out⟩
  ·have z5:(t.kind==5)=false:=by rw[beq_eq_false_iff_ne];exact h5
   have E:Hid (bZ_ step t g ns=bB_ step t.args (step g t ns) ns):=hid (by rw[cd_,if_neg h5]);clear h5;go_enter Tryz.func46,Tryz.ntmps46;go_wp2_with fail;refine CA.out.mono ?_;rintro e W1 ⟨⟨v,rfl⟩,r1,hI1,hT1⟩;have q4:B4 W1 W.heap.size (.int .i64 t.kind) (.string t.name) (.int .i64 t.n) (.slice a t.args.length c):=(hT1.safe HB.out.1 HB.out.2.1 HB.out.2.2).1.trans B4H.out;have c0:=q4.c0;have c3:=q4.c3;have T1:=T0H.out.trans hT1;have HI3:=hid hI1;have HT3:=hid T1;have HM3:=hid (HM.out.keep (T1.safe HOM.out.1 HOM.out.2.1 HOM.out.2.2).1);have HO3:=hid (HOM.out.tr T1);clear hI1 hT1 T1 q4;go_wp2
   go_loopw [23] (fun iv wr=>∃ (i:Nat) (g':G) (r':Option Nat),iv=.int .i64 i∧i≤t.args.length∧g'=bB_ step (t.args.take i) (step g t ns) ns∧Inv (k+1+af_ (t.args.take i)) g' r' wr∧Tr bo r W r' wr∧cn_ wr m (·∈ns)∧Off bo r' wr m) (fun iv _=>t.args.length - (intOf iv).toNat)
   case atStart=>exact⟨0,_,r1,rfl,Nat.zero_le _,rfl,by simpa [af_,bB_] using HI3.out,HT3.out,HM3.out,HO3.out⟩
   case round =>
    clear HI3 HT3 HM3 HO3;obtain⟨i,g',r',rfl,hil,hg',hI,hT,hM,hO⟩:=hrel;have GE:=hid hg';have TE:=hid hT
    by_cases hi:i<t.args.length
    ·have z0:(0:Int)≤(i:Int):=by omega
     have z1:(i:Int)<(t.args.length:Int):=(by omega);obtain⟨b,off,a',c',rfl,hb,hf4,hs⟩:=HA.out.at_ hi;obtain⟨f0,f1,f2,f3⟩:=hf4.keep (hT.safe (HS.out b hb).1 (HS.out b hb).2.1 (HS.out b hb).2.2).1;have hz:=aw_ wr (.cells #[.int .i64 t.args[i].kind,.string t.args[i].name,.int .i64 t.args[i].n,.slice a' t.args[i].args.length c'] 37);have b4:=B4.new wr (.int .i64 t.args[i].kind) (.string t.args[i].name) (.int .i64 t.args[i].n) (.slice a' t.args[i].args.length c');obtain⟨c0,c1,c2,c3⟩:=b4.c03;have TN:Tr bo r' wr r' _:=.of_below hz;have hst:=fz_ t.args i hi;have hsl:=cR_ t.args (i+1);have hk2:=HK.out;have hz2:=HSZ.out;have CW:=hid (IH.out t.args[i] (List.getElem_mem hi) (k+1+af_ (t.args.take i)) g' ns S a' c' m r' _ (HOK.out.low _ _ _ _ _ hI hz) (by omega) (hs.keep (fun b hb=>(hz.block b ((HS.out b hb).tr hT).1).trans (hT.safe (HS.out b hb).1 (HS.out b hb).2.1 (HS.out b hb).2.2).1)) (fun b hb=>((HS.out b hb).tr hT).tr TN) (hM.keep (hz.block m hO.1)) (hO.tr TN));have HST:=hid hst;have WT:=hid (hc_ step t.args i hi (step g t ns) ns);have HMR:=hid hM;have HOR:=hid hO;have TNH:=hid TN;unfold tv at *;clear hg' hI hT hM hO hf4 hs hz b4 TN hst hsl hk2 hz2;go_wp2_with fail;refine CW.out.mono ?_;rintro e W4 ⟨⟨v4,rfl⟩,r4,hI4,hT4⟩;have TF:=TNH.out.trans hT4;have HI4:=hid hI4;have HT4:=hid (TE.out.trans TF);have HM4:=hid (HMR.out.keep (TF.safe HOR.out.1 HOR.out.2.1 HOR.out.2.2).1);have HO4:=hid (HOR.out.tr TF);clear hI4 hT4 TF;go_wp2;go_roundw
     case rel=>exact⟨i+1,_,r4,by go_num,by omega,rfl,by rw[WT.out,← GE.out,HST.out,← Nat.add_assoc];exact HI4.out,HT4.out,HM4.out,HO4.out⟩
     case measure=>simp[intOf];omega
    ·obtain rfl:i=t.args.length:=by omega
     have HI:=hid hI;clear hg' hI hT hM hO;go_wp2
     go_end0
     have e1:k+1+af_ (t.args.take t.args.length)=k+t.size:=by rw[List.take_length,HSZ.out];omega
     have e2:g'=bZ_ step t g ns:=(by rw[GE.out,E.out,List.take_length]);rw[e1,e2] at HI;exact⟨⟨_,rfl⟩,r',HI.out,TE.out⟩
def g6_ (bo:Nat)(k:Nat)(out:List ByteArray)(r:Option Nat)(W:World):Prop :=
 ∃ v,W.heap[bo]? = some (.cells #[v] 89 (0,0))∧W.ownsRow (bo+1) 9 1 v out.length (out.map Value.string)∧r=v.ownBlock∧out.length≤k
theorem hy_ (bo:Nat):rn_ bo (g6_ bo) where
 low:=by
  rintro k g r W W' ⟨v,h1,h2,h3,h4⟩ hb;exact⟨v,(hb.block bo (Array.getElem?_eq_some_iff.1 h1).1).trans h1,aF_ h2 fun b e=>hb.block b (h2.lt b e).2,h3,h4⟩
 bo:=by
  rintro k g r W ⟨v,h1,_⟩;exact (Array.getElem?_eq_some_iff.1 h1).1
 row:=by
  rintro k g r W b ⟨v,h1,h2,h3,h4⟩ e;exact (h2.lt b (h3.symm.trans e)).2
theorem jY_ (w:World):(zeroValue 4).run Tryz.prog w=.ok (.bool false) w:=by kernel_rfl
theorem h6_ {l:List ByteArray}{x:ByteArray}(h:x∉l):dM_ l x=false:=by
 cases e:dM_ l x with
 | false=>rfl
 | true=>exact absurd ((b7_ l x).1 e) h
theorem bs_ (l:List ByteArray)(x:ByteArray):Lib.containsS l x=dM_ l x:=by
 rw[Bool.eq_iff_iff,jb_,b7_]
theorem qW_ (bo:Nat):nR_ 78 #[.pointer (some ⟨bo,0,none⟩)] bo ao_ (g6_ bo):=by
 intro k out x ns S a c m r W hI hk hA hS hM hOm;obtain⟨v,hv,hO,hr,hl⟩:=hI;have hbo:=(Array.getElem?_eq_some_iff.1 hv).1;have hz:=aw_ W (.cells #[.int .i64 x.kind,.string x.name,.int .i64 x.n,.slice a x.args.length c] 37);have b4:=B4.new W (.int .i64 x.kind) (.string x.name) (.int .i64 x.n) (.slice a x.args.length c);have c0:=b4.c0;have c1:=b4.c1;have cv:(W.alloc (.cells #[.int .i64 x.kind,.string x.name,.int .i64 x.n,.slice a x.args.length c] 37)).cell? ⟨bo,0,none⟩=some v:=(hz.cell (p:=⟨bo,0,none⟩) hbo).trans (cell_of_row W bo 0 _ _ _ hv);have same:∀ (e:ao_ out x ns=out),kR_ bo (g6_ bo) (k+1) (ao_ out x ns) r W (.returned (.tuple #[])) (W.alloc (.cells #[.int .i64 x.kind,.string x.name,.int .i64 x.n,.slice a x.args.length c] 37)):=fun e=>by
  rw[e];obtain⟨v',h1,h2,h3,h4⟩:=(hy_ bo).low k out r W _ ⟨v,hv,hO,hr,hl⟩ hz;exact⟨⟨_,rfl⟩,r,⟨v',h1,h2,h3,by omega⟩,.of_below hz⟩
 have SM:=hid same;unfold tv;clear b4 same
 by_cases h1:x.kind=1
 ·have z1:(x.kind==1)=true:=by rw[beq_iff_eq];exact h1
  by_cases h2:x.name∈ns
  ·have E:Hid (ao_ out x ns=out):=hid (by unfold ao_;rw[(b7_ ns x.name).2 h2];simp)
   have hlk:=(hM.keep (hz.block m hOm.1)).lookup Tryz.underlying96 Tryz.underlying9 (jY_ _) x.name (c:=true) (by simpa using h2);clear h1 h2 hv hO hr hl hbo hz hA hS hM hOm hk;go_enter Tryz.func78,Tryz.ntmps78;go_wp2
   go_end0
   exact SM.out E.out
  ·have hlk:=(hM.keep (hz.block m hOm.1)).lookup Tryz.underlying96 Tryz.underlying9 (jY_ _) x.name (c:=false) (by simpa using h2)
   have hso:aJ_ (fun b=>v.ownBlock=some b) (W.alloc (.cells #[.int .i64 x.kind,.string x.name,.int .i64 x.n,.slice a x.args.length c] 37)) v out:=aJ_.of_own (aF_ hO fun b e=>hz.block b (hO.lt b e).2) (by omega);have CC:=bP_ hso x.name;rw[bs_] at CC
   by_cases h3:x.name∈out
   ·have E:Hid (ao_ out x ns=out):=hid (by unfold ao_;rw[(b7_ out x.name).2 h3];simp)
    rw[(b7_ out x.name).2 h3] at CC;have CC:=hid CC;clear h1 h2 h3 hv hO hr hl hbo hz hA hS hM hOm hk hso;go_enter Tryz.func78,Tryz.ntmps78;go_wp2_with fail;refine CC.out.mono ?_;rintro e w' ⟨rfl,rfl⟩;go_wp2
    go_end0
    exact SM.out E.out
   ·have E:Hid (ao_ out x ns=out++[x.name]):=hid (by unfold ao_;rw[h6_ h2,h6_ h3,z1];rfl)
    rw[h6_ h3] at CC;have CC:=hid CC;have hz2:=hz.alloc hz.size (.cells #[.string x.name] 9);have OW:=hid (aF_ hO fun b e=>hz2.block b (hO.lt b e).2);have HV:=hid hv;have HO:=hid hO;have HR:=hid hr;have HZ2:=hid hz2;have NB:Hid (v.ownBlock≠some bo):=hid (fun e=>by have:=(hO.lt _ e).1;omega);have HB7:=hid ((hz2.block bo hbo).trans hv);obtain⟨i0,hi0,hzz0,hz1,hz3⟩:=info_parts fN_;clear h1 h2 h3 hv hO hr hA hS hM hOm hso hz hz2;go_enter Tryz.func78,Tryz.ntmps78;go_wp2_with fail;refine CC.out.mono ?_;rintro e w' ⟨rfl,rfl⟩;have cb:((W.alloc (.cells #[.int .i64 x.kind,.string x.name,.int .i64 x.n,.slice a x.args.length c] 37)).alloc (.cells #[.string x.name] 9)).cell? ⟨bo,0,none⟩=some v:=(HZ2.out.cell (p:=⟨bo,0,none⟩) hbo).trans (cell_of_row W bo 0 _ _ _ HV.out);go_wp2_with (at_builtin;go_loud (refine wpList_append_lies _ rfl _ _ _ rfl (bo+1) 9 i0 _ 1 16 Tryz.underlying89 hi0 hzz0 hz1 hz3 rfl (by omega) v out.length (out.map Value.string) rfl OW.out ⟨W.heap.size+1,0,none⟩ 1 1 [.string x.name] rfl rfl (World.news_of_block (cs:=#[.string x.name]) (t:=9) (fr:=(0,0)) (ah_ (by simp))) (by simp[Value.oneCell']) (by omega) (by unfold maxLen;omega) (by omega) (by simp;omega) (W.heap.size+1+1) (by simp) ?_;intro gg cap w7 hown7 hgrow7 hat7 hlt7;have hb7:=(hgrow7.block bo (by first|(simp;done)|(simp;omega)) (fun e=>NB.out e.symm)).trans (HB7.out);have c7:=cell_of_row w7 bo 0 _ _ _ hb7;have fr7:w7.frozen? ⟨bo,0,none⟩=false:=(by simp[World.frozen?,hb7]);have HB8:=hid hb7;clear hb7))
    go_end0
    have hne:gg≠bo:=by
     rcases hat7 with e|e
     ·intro h;rw[h] at e;exact NB.out e
     ·omega
    refine⟨⟨_,rfl⟩,(some gg:Option Nat),⟨.slice (some ⟨gg,0,none⟩) (out.length+1) cap,aN_ HB8.out _,?_,rfl,by rw[E.out,List.length_append];simp;omega⟩,⟨?_,?_⟩⟩
    ·rw[E.out,List.length_append,List.map_append]
     exact aF_ hown7 fun b e=>aB_ _ _ _ _ (by injection e with e;subst e;exact hne)
    ·refine ((Kp.of_below HZ2.out).grown hgrow7 (by simp;omega) (fun b e=>.inr (.inr ?_))).setCell (.inr (.inl rfl)) _
     rw[HR.out,e]
    ·rcases hat7 with e|e
     ·exact .inl (by rw[HR.out,e])
     ·exact .inr ⟨gg,rfl,by omega⟩
 ·have z1:(x.kind==1)=false:=by rw[beq_eq_false_iff_ne];exact h1
  have E:Hid (ao_ out x ns=out):=hid (by unfold ao_;rw[z1];simp);clear h1 hv hO hr hl hbo hz hA hS hM hOm hk;go_enter Tryz.func78,Tryz.ntmps78;go_wp2
  go_end0
  exact SM.out E.out
def g4_ (bo:Nat)(k:Nat)(out:List Int)(r:Option Nat)(W:World):Prop :=
 ∃ v,W.heap[bo]? = some (.cells #[v] 50 (0,0))∧W.ownsRow (bo+1) 3 1 v out.length (out.map (Value.int .i64))∧r=v.ownBlock∧out.length≤k
theorem hu_ (bo:Nat):rn_ bo (g4_ bo) where
 low:=by
  rintro k g r W W' ⟨v,h1,h2,h3,h4⟩ hb;exact⟨v,(hb.block bo (Array.getElem?_eq_some_iff.1 h1).1).trans h1,aF_ h2 fun b e=>hb.block b (h2.lt b e).2,h3,h4⟩
 bo:=by
  rintro k g r W ⟨v,h1,_⟩;exact (Array.getElem?_eq_some_iff.1 h1).1
 row:=by
  rintro k g r W b ⟨v,h1,h2,h3,h4⟩ e;exact (h2.lt b (h3.symm.trans e)).2
theorem nd_:(Tryz.prog.info? 3).map (fun i=>(i.zero,i.size,i.bytes))=some (some (.int .i64 0),1,8):=by kernel_rfl
theorem f1_ {w:World}{lo:Nat}{v:Value}{l:List Int}(h:w.ownsRow lo 3 1 v l.length (l.map (Value.int .i64)))(hl:l.length≤4500000000000)(x:Int) :
  Calls Tryz.prog 48 #[v,.int .i64 x] w fun e w'=>e=.returned (.bool (l.contains x))∧w=w':=by
 rcases h.2 with ⟨rfl,h0⟩|⟨g,cap,cur,rfl,hb,hg,h1,h2,h3,h4⟩
 ·have:l=[]:=List.eq_nil_of_length_eq_zero h0
  subst this;exact (Tryz.slices_Contains_int_empty none 0 x w).mono fun e w' ⟨he,hw⟩=>⟨he,hw.symm⟩
 ·have:=Tryz.slices_Contains_int g 0 l.length cap l x w (aC_ _) (by omega) (fun j hj=>by
   have hc:=h.cells (g:=g) rfl j (.int .i64 l[j]) (by rw[List.getElem?_map,List.getElem?_eq_getElem hj];rfl);have hadd:∀ j,(⟨g,0,none⟩:Addr).add j=⟨g,j,none⟩:=fun j=>by unfold Addr.add;split<;>simp_all
   rw[hadd] at hc;rw[Nat.zero_add,hc,List.getD_eq_getElem?_getD,List.getElem?_eq_getElem hj];rfl)
  rw[List.take_length] at this;exact this.mono fun e w' ⟨he,hw⟩=>⟨he,hw.symm⟩
theorem qM_ (bo:Nat):nR_ 47 #[.pointer (some ⟨bo,0,none⟩)] bo aE_ (g4_ bo):=by
 intro k out x ns S a c m r W hI hk hA hS hM hOm;obtain⟨v,hv,hO,hr,hl⟩:=hI;have hbo:=(Array.getElem?_eq_some_iff.1 hv).1;have hz:=aw_ W (.cells #[.int .i64 x.kind,.string x.name,.int .i64 x.n,.slice a x.args.length c] 37);have b4:=B4.new W (.int .i64 x.kind) (.string x.name) (.int .i64 x.n) (.slice a x.args.length c);have c0:=b4.c0;have c2:=b4.c2;have cv:(W.alloc (.cells #[.int .i64 x.kind,.string x.name,.int .i64 x.n,.slice a x.args.length c] 37)).cell? ⟨bo,0,none⟩=some v:=(hz.cell (p:=⟨bo,0,none⟩) hbo).trans (cell_of_row W bo 0 _ _ _ hv);have same:∀ (e:aE_ out x ns=out),kR_ bo (g4_ bo) (k+1) (aE_ out x ns) r W (.returned (.tuple #[])) (W.alloc (.cells #[.int .i64 x.kind,.string x.name,.int .i64 x.n,.slice a x.args.length c] 37)):=fun e=>by
  rw[e];obtain⟨v',h1,h2,h3,h4⟩:=(hu_ bo).low k out r W _ ⟨v,hv,hO,hr,hl⟩ hz;exact⟨⟨_,rfl⟩,r,⟨v',h1,h2,h3,by omega⟩,.of_below hz⟩
 have SM:=hid same;unfold tv;clear b4 same
 by_cases h1:x.kind=2
 ·have z1:(x.kind==2)=true:=by rw[beq_iff_eq];exact h1
  have CC:=f1_ (aF_ hO (w':=(W.alloc (.cells #[.int .i64 x.kind,.string x.name,.int .i64 x.n,.slice a x.args.length c] 37))) fun b e=>hz.block b (hO.lt b e).2) (by omega) x.n
  by_cases h3:out.contains x.n=true
  ·have E:Hid (aE_ out x ns=out):=hid (by unfold aE_;rw[h3];simp)
   rw[h3] at CC;have CC:=hid CC;clear h1 h3 hv hO hr hl hbo hz hA hS hM hOm hk;go_enter Tryz.func47,Tryz.ntmps47;go_wp2_with fail;refine CC.out.mono ?_;rintro e w' ⟨rfl,rfl⟩;go_wp2
   go_end0
   exact SM.out E.out
  ·have h3f:out.contains x.n=false:=by simpa using h3
   have E:Hid (aE_ out x ns=out++[x.n]):=hid (by unfold aE_;rw[h3f,z1];rfl);rw[h3f] at CC;have CC:=hid CC;have hz2:=hz.alloc hz.size (.cells #[.int .i64 x.n] 3);have OW:=hid (aF_ hO fun b e=>hz2.block b (hO.lt b e).2);have HV:=hid hv;have HO:=hid hO;have HR:=hid hr;have HZ2:=hid hz2;have NB:Hid (v.ownBlock≠some bo):=hid (fun e=>by have:=(hO.lt _ e).1;omega);have HB7:=hid ((hz2.block bo hbo).trans hv);obtain⟨i0,hi0,hzz0,hz1,hz3⟩:=info_parts nd_;clear h1 h3 h3f hv hO hr hA hS hM hOm hz hz2;go_enter Tryz.func47,Tryz.ntmps47;go_wp2_with fail;refine CC.out.mono ?_;rintro e w' ⟨rfl,rfl⟩;have cb:((W.alloc (.cells #[.int .i64 x.kind,.string x.name,.int .i64 x.n,.slice a x.args.length c] 37)).alloc (.cells #[.int .i64 x.n] 3)).cell? ⟨bo,0,none⟩=some v:=(HZ2.out.cell (p:=⟨bo,0,none⟩) hbo).trans (cell_of_row W bo 0 _ _ _ HV.out);go_wp2_with (at_builtin;go_loud (refine wpList_append_lies _ rfl _ _ _ rfl (bo+1) 3 i0 _ 1 8 Tryz.underlying50 hi0 hzz0 hz1 hz3 rfl (by omega) v out.length (out.map (Value.int .i64)) rfl OW.out ⟨W.heap.size+1,0,none⟩ 1 1 [.int .i64 x.n] rfl rfl (World.news_of_block (cs:=#[.int .i64 x.n]) (t:=3) (fr:=(0,0)) (ah_ (by simp))) (by simp[Value.oneCell']) (by omega) (by unfold maxLen;omega) (by omega) (by simp;omega) (W.heap.size+1+1) (by simp) ?_;intro gg cap w7 hown7 hgrow7 hat7 hlt7;have hb7:=(hgrow7.block bo (by first|(simp;done)|(simp;omega)) (fun e=>NB.out e.symm)).trans (HB7.out);have c7:=cell_of_row w7 bo 0 _ _ _ hb7;have fr7:w7.frozen? ⟨bo,0,none⟩=false:=(by simp[World.frozen?,hb7]);have HB8:=hid hb7;clear hb7))
   go_end0
   have hne:gg≠bo:=by
    rcases hat7 with e|e
    ·intro h;rw[h] at e;exact NB.out e
    ·omega
   refine⟨⟨_,rfl⟩,(some gg:Option Nat),⟨.slice (some ⟨gg,0,none⟩) (out.length+1) cap,aN_ HB8.out _,?_,rfl,by rw[E.out,List.length_append];simp;omega⟩,⟨?_,?_⟩⟩
   ·rw[E.out,List.length_append,List.map_append]
    exact aF_ hown7 fun b e=>aB_ _ _ _ _ (by injection e with e;subst e;exact hne)
   ·refine ((Kp.of_below HZ2.out).grown hgrow7 (by simp;omega) (fun b e=>.inr (.inr ?_))).setCell (.inr (.inl rfl)) _
    rw[HR.out,e]
   ·rcases hat7 with e|e
    ·exact .inl (by rw[HR.out,e])
    ·exact .inr ⟨gg,rfl,by omega⟩
 ·have z1:(x.kind==2)=false:=by rw[beq_eq_false_iff_ne];exact h1
  have E:Hid (aE_ out x ns=out):=hid (by unfold aE_;rw[z1];simp);clear h1 hv hO hr hl hbo hz hA hS hM hOm hk;go_enter Tryz.func47,Tryz.ntmps47;go_wp2
  go_end0
  exact SM.out E.out
end
end Go.Proofs.YtjecnionbjlncaaGreatDoor.Tp

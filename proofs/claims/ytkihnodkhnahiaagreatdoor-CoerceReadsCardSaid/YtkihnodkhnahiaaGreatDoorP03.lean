/- Packed. -/
import Derived.Test.YtkihnodkhnahiaaGreatDoorP02
import Derived.Laws.StructEq
import Derived.Deep.QuietTactic
import Derived.BigQuiet
import Derived.Test.YtkihnodkhnahiaaGreatDoorPS
import Derived.Lib.AtoiErrMem
import Derived.Lib.Atoi
set_option maxRecDepth 100000
set_option maxHeartbeats 6400000
namespace Go.Proofs.YtkihnodkhnahiaaGreatDoor
open Go.RowKit
open Lx
def aO_ (w:World)(v:Value)(ts:List Tok):Prop :=
 ∃ a cap,v=.slice a ts.length cap∧ts.length≤cap∧(ts=[]∨∃ b off,a=some ⟨b,off,none⟩∧∀ i (h:i<ts.length),
  w.cell? ⟨b,off+i*3,none⟩=some (.int .i64 ts[i].kind)∧w.cell? ⟨b,off+i*3+1,none⟩=some (.string ⟨ts[i].text.toArray⟩)∧w.cell? ⟨b,off+i*3+2,none⟩=some (.int .i64 ts[i].pos))
theorem iZ_ (ts:List Tok)(i:Nat)(h:i<ts.length) :
  (bc_ ts)[i*3]? = some (.int .i64 ts[i].kind)∧(bc_ ts)[i*3+1]? = some (.string ⟨ts[i].text.toArray⟩)∧(bc_ ts)[i*3+2]? = some (.int .i64 ts[i].pos):=by
 induction ts generalizing i with
 | nil=>simp at h
 | cons t ts ih =>
  have e:bc_ (t :: ts)=.int .i64 t.kind :: .string ⟨t.text.toArray⟩ :: .int .i64 t.pos :: bc_ ts:=rfl;rw[e];cases i with
  | zero=>exact⟨rfl,rfl,rfl⟩
  | succ i =>
   have:=ih i (by simpa using h);rw[show (i+1)*3=i*3+1+1+1 by omega,show i*3+1+1+1+1=i*3+1+1+1+1 from rfl,show i*3+1+1+1+2=i*3+2+1+1+1 by omega];simp only[List.getElem?_cons_succ,List.getElem_cons_succ];exact this
theorem c4_ {w:World}{base:Nat}{v:Value}{ts:List Tok}(h:w.ownsRow base 51 3 v ts.length (bc_ ts)):aO_ w v ts:=by
 rcases h.2 with ⟨rfl,h0⟩|⟨g,cap,cur,rfl,hb,hg,hn,hm,hs,ht⟩
 ·have:ts=[]:=List.length_eq_zero_iff.1 h0
  subst this;exact⟨none,0,rfl,Nat.zero_le _,.inl rfl⟩
 ·refine⟨_,cap,rfl,hn,.inr ⟨g,0,rfl,fun i hi=>?_⟩⟩
  have hc:=h.cells (g:=g) rfl;have hadd:∀ j,(⟨g,0,none⟩:Addr).add j=⟨g,j,none⟩:=fun j=>by unfold Addr.add;split<;>simp_all
  obtain⟨a1,a2,a3⟩:=iZ_ ts i hi;have b1:=hc _ _ a1;have b2:=hc _ _ a2;have b3:=hc _ _ a3;rw[hadd] at b1 b2 b3;simp only[Nat.zero_add];exact⟨b1,b2,b3⟩
end Go.Proofs.YtkihnodkhnahiaaGreatDoor
namespace Go.Proofs.YtkihnodkhnahiaaGreatDoor.Tp
open Go.RowKit
open Lx
def Rd (N B:Nat)(w:World)(l:List Tok):Prop:=∃ a cap,w.heap[B]? = some (.cells #[.slice a l.length cap] 115 (0,0))∧aO_ w (.slice a l.length cap) l∧l.length≤9223372036854775807∧∀ b o,a=some ⟨b,o,none⟩→b<N
def bf_ (l:List Tok)(k:Nat)(s:List UInt8):Bool:=match l with
 | []=>false
 | t :: _=>t.kind==k&&(s.isEmpty || t.text==s)
theorem bY_ (l:List Tok)(k:Nat):bf_ l k []=sk l k:=by cases l<;>simp[bf_,sk]
theorem b9_ (l:List Tok)(k:Nat)(s:List UInt8)(h:s≠[]):bf_ l k s=st l k s:=by
 cases l with
 | nil=>rfl
 | cons t l=>cases s with
  | nil=>exact absurd rfl h
  | cons c s=>simp[bf_,st]
theorem bx_ {a b:Bool}(h:a=b):Ending.returned (.bool a)=.returned (.bool b):=by rw[h]
theorem ft_ {w:World}{a:OA_}{n cap:Nat}{t:Tok}{l:List Tok}(h:aO_ w (.slice a n cap) (t :: l)) :
  ∃ b off,a=some ⟨b,off,none⟩∧w.cell? ⟨b,off,none⟩=some (.int .i64 t.kind)∧w.cell? ⟨b,off+1,none⟩=some (.string ⟨t.text.toArray⟩):=by
 obtain⟨a',cap',he,hl,h0|⟨b,off,rfl,hc⟩⟩:=h
 ·cases h0
 ·injection he with e1 e2 e3
  subst e1;obtain⟨c1,c2,_⟩:=hc 0 (by simp);exact⟨b,off,rfl,by simpa using c1,by simpa using c2⟩
theorem kN_ (k:Nat)(s:List UInt8)(N B:Nat)(w:World)(l:List Tok)(h:Rd N B w l) :
  Calls Tryz.prog 109 #[.pointer (some ⟨B,0,none⟩),.int .i64 (k:Int),.string ⟨s.toArray⟩] w fun e w'=>e=.returned (.bool (bf_ l k s))∧w=w':=by
 obtain⟨a,cap,hb,ht,hl,_⟩:=h;have cB:w.cell? ⟨B,0,none⟩=some (.slice a l.length cap):=cell_of_row w B 0 _ _ _ hb;cases l with
 | nil =>
  clear ht hb;go_enter Tryz.func109,Tryz.ntmps109;go_wp2;go_ret;exact⟨rfl,rfl⟩
 | cons t l =>
  obtain⟨b,off,rfl,c0,c1⟩:=ft_ ht;have hk:bf_ (t :: l) k s=(t.kind==k&&(s.isEmpty || t.text==s)):=rfl;have HK:=hid hk;have hl0:(0:Int)<((t :: l).length:Int):=by simp
  generalize (t :: l).length=n at *;clear hk hb ht
  by_cases h1:t.kind=k
  ·have e1:((t.kind:Int)==(k:Int))=true:=by rw[h1];simp
   have H1:=hid h1;clear h1
   by_cases h2:s=[]
   ·subst h2
    go_enter Tryz.func109,Tryz.ntmps109;go_wp2;go_ret;exact⟨bx_ (by rw[HK.out,H1.out];simp),rfl⟩
   ·have h3:s.isEmpty=false:=by simpa using h2
    have H3:=hid h3;clear h2;go_enter Tryz.func109,Tryz.ntmps109;go_wp2;go_ret;exact⟨bx_ (by rw[HK.out,H1.out,H3.out];simp),rfl⟩
  ·have e1:((t.kind:Int)==(k:Int))=false:=by rw[beq_eq_false_iff_ne];omega
   have H1:Hid ((t.kind==k)=false):=hid (by rw[beq_eq_false_iff_ne];exact h1);clear h1;go_enter Tryz.func109,Tryz.ntmps109;go_wp2;go_ret;exact⟨bx_ (by rw[HK.out,H1.out];rfl),rfl⟩
def ov_ (N B:Nat)(w:World)(l:List Tok)(ok:Bool)(e:Ending)(w':World):Prop :=
 if ok then e=.returned (.tuple #[.string (aa_ (ab_ l)),.bool true])∧Rd N B w' l.tail∧w.grownBy w' (some B)
 else e=.returned (.tuple #[.string ByteArray.empty,.bool false])∧w=w'
theorem iY_ {w:World}{b off n cap cap':Nat}{t:Tok}{l:List Tok}(h:aO_ w (.slice (some ⟨b,off,none⟩) n cap) (t :: l))(hc:l.length≤cap'):aO_ w (.slice (some ⟨b,off+3,none⟩) l.length cap') l:=by
 obtain⟨a',cap1,he,hl,h0|⟨b',off',e,hcc⟩⟩:=h
 ·cases h0
 ·injection he with e1 e2 e3
  rw[e] at e1;injection e1 with e1
  injection e1 with e1 e4
  subst e1 e4;refine⟨_,cap',rfl,hc,.inr ⟨b,off+3,rfl,fun i hi=>?_⟩⟩;have:=hcc (i+1) (by simp;omega);simp only[List.getElem_cons_succ] at this;rw[show off+3+i*3=off+(i+1)*3 by omega];exact this
theorem ak_ {w:World}{b i:Nat}{c:Array Value}{t:TypeId}{f:Nat × Nat}(h:w.heap[b]? = some (.cells c t f))(u:Value) :
  (w.setCell ⟨b,i,none⟩ u).heap[b]? = some (.cells (c.setIfInBounds i u) t f):=by
 simp[World.setCell,Array.getElem?_modify,h]
theorem bM_ (w:World)(a:Addr)(u:Value):w.grownBy (w.setCell a u) (some a.block) :=
 ⟨rfl,rfl,rfl,by simp,fun k _ hk=>aM_ w a u k (fun e=>hk (by rw[e]))⟩
theorem ii_ {w:World}{b off cap B:Nat}{l:List Tok}{cs:Array Value}{f:Nat × Nat}(h:aO_ w (.slice (some ⟨b,off,none⟩) l.length cap) l)(hl:l≠[])(hB:w.heap[B]? = some (.cells cs 115 f))(hc:cs.size=1):b≠B:=by
 rintro rfl;obtain⟨a',cap1,he,_,h0|⟨b',off',e,hcc⟩⟩:=h
 ·exact hl h0
 ·injection he with e1 e2 e3
  rw[e] at e1;injection e1 with e1
  injection e1 with e1 e4
  subst e1 e4;have h1:=(hcc 0 (List.length_pos_iff.2 hl)).2.1;rw[cell_of_row _ _ _ _ _ _ hB,Array.getElem?_eq_none (by omega)] at h1;cases h1
theorem mH_ {w w':World}{b off n cap:Nat}{l:List Tok}(h:aO_ w (.slice (some ⟨b,off,none⟩) n cap) l)(hk:∀ o,w'.cell? ⟨b,o,none⟩=w.cell? ⟨b,o,none⟩):aO_ w' (.slice (some ⟨b,off,none⟩) n cap) l:=by
 obtain⟨a',cap1,he,hl,h0|⟨b',off',e,hcc⟩⟩:=h
 ·exact⟨a',cap1,he,hl,.inl h0⟩
 ·refine⟨a',cap1,he,hl,.inr ⟨b',off',e,fun i hi=>?_⟩⟩
  injection he with e1 e2 e3
  rw[e] at e1;injection e1 with e1
  injection e1 with e1 e4
  subst e1;rw[hk,hk,hk];exact hcc i hi
theorem i1_ (k:Nat)(s:List UInt8)(N B:Nat)(w:World)(l:List Tok)(h:Rd N B w l) :
  Calls Tryz.prog 93 #[.pointer (some ⟨B,0,none⟩),.int .i64 (k:Int),.string ⟨s.toArray⟩] w (ov_ N B w l (bf_ l k s)):=by
 have C:=hid (kN_ k s N B w l h);cases hs:bf_ l k s
 ·have HS:=hid hs
  clear hs h;go_enter Tryz.func93,Tryz.ntmps93;go_wp2_with fail;refine C.out.mono ?_;rintro e w' ⟨he,rfl⟩;rw[HS.out] at he;subst he;go_wp2;go_ret2;exact⟨rfl,rfl⟩
 ·cases l with
  | nil=>cases hs
  | cons t l =>
   obtain⟨a,cap,hb,ht,hl,hN⟩:=h;have cB:w.cell? ⟨B,0,none⟩=some (.slice a (t :: l).length cap):=cell_of_row w B 0 _ _ _ hb;have fB:w.frozen? ⟨B,0,none⟩=false:=(by simp[World.frozen?,hb]);obtain⟨b,off,rfl,c0,c1⟩:=ft_ ht;have hcap:(t :: l).length≤cap:=by obtain⟨_,_,e,h,_⟩:=ht;injection e with _ _ e;rw[e];exact h
   have hcl:l.length+1≤cap:=by simpa using hcap
   have hnn:(t :: l).length=l.length+1:=(by simp);rw[hnn] at cB hl;have NN:=hid (hN b off rfl);have HS:=hid hs;have HB:=hid hb;have HT:=hid ht;clear hs hb ht hnn hcap hN
   by_cases h1:cap=1
   ·obtain rfl:l=[]:=List.eq_nil_of_length_eq_zero (by omega)
    subst h1;go_enter Tryz.func93,Tryz.ntmps93;go_wp2_with fail;refine C.out.mono ?_;rintro e w' ⟨he,rfl⟩;rw[HS.out] at he;subst he;go_wp2;go_ret2;refine⟨rfl,⟨_,0,?_,⟨some ⟨b,off,none⟩,0,rfl,by simp,.inl rfl⟩,by simp,fun b' o' e=>by injection e with e;injection e with e;rw[← e];exact NN.out⟩,?_⟩
    ·exact (ak_ HB.out _)
    ·exact bM_ w _ _
   ·have h2:¬ cap=1:=h1
    go_enter Tryz.func93,Tryz.ntmps93;go_wp2_with fail;refine C.out.mono ?_;rintro e w' ⟨he,rfl⟩;rw[HS.out] at he;subst he;go_wp2;go_ret2;refine⟨rfl,⟨_,cap - 1,ak_ HB.out _,?_,by show l.length≤_;omega,fun b' o' e=>by injection e with e;injection e with e;rw[← e];exact NN.out⟩,bM_ w _ _⟩;have hne:=ii_ (l:=t :: l) (B:=B) HT.out (by simp) HB.out rfl;exact mH_ (iY_ (l:=l) HT.out (by omega)) (fun o=>World.cell?_setCell_other _ _ _ _ (fun e=>by injection e with e;exact hne e.symm))
end Go.Proofs.YtkihnodkhnahiaaGreatDoor.Tp
namespace Go.Proofs.YtkihnodkhnahiaaGreatDoor
open Go.RowKit
open Lx
def cb_ (c:UInt8):Bool:=a8_ c || a5_ c
theorem aq_ (c:UInt8)(w:World):Calls Tryz.prog 99 #[.int .u8 c.toNat] w fun e w'=>e=.returned (.bool (cb_ c))∧w=w':=by
 go_enter Tryz.func99,Tryz.ntmps99;go_wp2
 all_goals
  go_ret;exact⟨bx_ (by
   unfold cb_ a8_ a5_;rw[Bool.eq_iff_iff];simp only[Bool.or_eq_true,decide_eq_true_eq,Bool.false_eq_true,true_iff,false_iff];omega),rfl⟩
theorem ar_ (c:UInt8)(w:World):Calls Tryz.prog 100 #[.int .u8 c.toNat] w fun e w'=>e=.returned (.bool (aA_ c))∧w=w':=by
 go_enter Tryz.func100,Tryz.ntmps100;go_wp2
 all_goals
  go_ret;exact⟨bx_ (by unfold aA_;first|(rw[decide_eq_decide];omega)|(symm;rw[decide_eq_false_iff_not];omega)),rfl⟩
theorem cO_ (s:ByteArray)(i:Nat)(h:i<s.size):s.data.toList.drop i=s[i] :: s.data.toList.drop (i+1):=by
 rw[List.drop_eq_getElem_cons (by simpa using h)];rfl
def Run (p:UInt8→Bool)(s:ByteArray)(i k:Nat):Prop:=∀ j (h:j<s.size),i≤j→j<k→p s[j]=true
theorem Run.step {p:UInt8→Bool}{s:ByteArray}{i k:Nat}(h:Run p s i k)(hk:k<s.size)(hp:p s[k]=true):Run p s i (k+1):=by
 intro j hj h1 h2
 by_cases e:j=k
 ·subst e;exact hp
 ·exact h j hj h1 (by omega)
theorem Run.take {p:UInt8→Bool}{s:ByteArray}{i k:Nat}(h:Run p s i k)(hk:k≤s.size):((s.data.toList.drop i).take (k - i)).all p=true:=by
 rw[List.all_eq_true];intro c hc;obtain⟨j,hj,rfl⟩:=List.mem_iff_getElem.1 hc;simp only[List.length_take,List.length_drop,Array.length_toList] at hj;have hs:s.data.size=s.size:=rfl;simp only[List.getElem_take,List.getElem_drop];exact h (i+j) (by omega) (by omega) (by omega)
theorem Run.stop {p:UInt8→Bool}{s:ByteArray}{i k:Nat}(h:Run p s i k)(hi:i≤k)(hk:k<s.size)(hp:p s[k]=false):bA_ p (s.data.toList.drop i)=k - i:=by
 refine fS_ _ _ _ (h.take (by omega)) (by simp;have:s.data.size=s.size:=rfl;omega) ?_;simp only[List.getElem_drop];have:i+(k - i)=k:=by omega
 simp only[this];exact hp
theorem Run.full {p:UInt8→Bool}{s:ByteArray}{i k:Nat}(h:Run p s i k)(hi:i≤k)(hk:k=s.size):bA_ p (s.data.toList.drop i)=k - i:=by
 have h1:=h.take (by omega);have hs:s.data.size=s.size:=rfl;rw[List.take_of_length_le (by simp;omega)] at h1;rw[gL_ _ _ h1];simp;omega
theorem hR_ (s:ByteArray)(i j:Nat)(sp:bA_ aA_ (s.data.toList.drop i)=j - i)(hij:i≤j) :
  i+aR_ (s.data.toList.drop i)=if 6<j - i∨1<j - i∧(s.data.toList.drop i).headD 0=48 then i else j:=by
 rw[aR_,sp];split<;>omega
theorem fj_ (s:ByteArray)(i:Nat)(w:World)(hs:s.size≤maxLen)(hi:i≤s.size) :
  Calls Tryz.prog 101 #[.string s,.int .i64 i] w fun e w'=>e=.returned (.int .i64 ((i+aR_ (s.data.toList.drop i):Nat):Int))∧w=w':=by
 unfold maxLen at hs;go_enter Tryz.func101,Tryz.ntmps101;go_wp2
 go_loop [5] (fun k=>∃ j:Nat,i≤j∧j≤s.size∧k=.int .i64 j∧Run aA_ s i j) (fun k=>s.size - (intOf k).toNat)
 case atStart=>exact⟨i,Nat.le_refl _,hi,rfl,fun _ _ _ _=>by omega⟩
 case round =>
  obtain⟨j,hij,hj,rfl,hrun⟩:=hrel;have R:=Lib.hid hrun;clear hrun
  by_cases hlt:j<s.size
  ·cases hd:aA_ s[j]
   ·have sp:=R.out.stop hij hlt hd
    have fin:=hR_ s i j sp hij
    by_cases c1:6<j - i
    ·rw[if_pos (Or.inl c1)] at fin
     have F:=Lib.hid fin;clear fin;go_wp2_with (go_at_call 100;refine (ar_ _ _).mono ?_;rw[hd];rintro e w' ⟨rfl,rfl⟩);go_ret;exact⟨a9_ (by have:=F.out;omega),rfl⟩
    by_cases c2:1<j - i
    ·rw[cO_ s i (by omega),List.headD_cons,← cO_ s i (by omega)] at fin
     by_cases c3:s[i]=48
     ·rw[if_pos (Or.inr ⟨c2,c3⟩)] at fin
      have F:=Lib.hid fin;have f3:=b1_ 48 48 c3 rfl;clear c3;go_wp2_with (go_at_call 100;refine (ar_ _ _).mono ?_;rw[hd];rintro e w' ⟨rfl,rfl⟩);go_ret;exact⟨a9_ (by have:=F.out;omega),rfl⟩
     ·rw[if_neg (by rintro (h|h);exact c1 h;exact c3 h.2)] at fin
      have F:=Lib.hid fin;have f3:=by_ 48 48 c3 rfl;clear c3;go_wp2_with (go_at_call 100;refine (ar_ _ _).mono ?_;rw[hd];rintro e w' ⟨rfl,rfl⟩);go_ret;exact⟨a9_ (by have:=F.out;omega),rfl⟩
    rw[if_neg (by rintro (h|h);exact c1 h;exact c2 h.1)] at fin;have F:=Lib.hid fin;clear fin;go_wp2_with (go_at_call 100;refine (ar_ _ _).mono ?_;rw[hd];rintro e w' ⟨rfl,rfl⟩);go_ret;exact⟨a9_ (by have:=F.out;omega),rfl⟩
   ·have RN:=Lib.hid (R.out.step hlt hd)
    go_wp2_with (go_at_call 100;refine (ar_ _ _).mono ?_;rw[hd];rintro e w' ⟨rfl,rfl⟩);go_round
    case rel=>exact⟨j+1,by omega,by omega,by go_num,RN.out⟩
    case measure=>simp[intOf];omega
  ·have sp:=R.out.full hij (by omega)
   have fin:=hR_ s i j sp hij
   by_cases c1:6<j - i
   ·rw[if_pos (Or.inl c1)] at fin
    have F:=Lib.hid fin;clear fin;go_wp2;go_ret;exact⟨a9_ (by have:=F.out;omega),rfl⟩
   by_cases c2:1<j - i
   ·rw[cO_ s i (by omega),List.headD_cons,← cO_ s i (by omega)] at fin
    by_cases c3:s[i]=48
    ·rw[if_pos (Or.inr ⟨c2,c3⟩)] at fin
     have F:=Lib.hid fin;have f3:=b1_ 48 48 c3 rfl;clear c3;go_wp2;go_ret;exact⟨a9_ (by have:=F.out;omega),rfl⟩
    ·rw[if_neg (by rintro (h|h);exact c1 h;exact c3 h.2)] at fin
     have F:=Lib.hid fin;have f3:=by_ 48 48 c3 rfl;clear c3;go_wp2;go_ret;exact⟨a9_ (by have:=F.out;omega),rfl⟩
   rw[if_neg (by rintro (h|h);exact c1 h;exact c2 h.1)] at fin;have F:=Lib.hid fin;clear fin;go_wp2;go_ret;exact⟨a9_ (by have:=F.out;omega),rfl⟩
end Go.Proofs.YtkihnodkhnahiaaGreatDoor
namespace Go.Proofs.YtkihnodkhnahiaaGreatDoor.Tp
open Go.RowKit
open Lx
theorem ad_ {a b c:World}{r:Option Nat}(h:a.grownBy b r)(k:b.grownBy c r):a.grownBy c r :=
 ⟨k.os.trans h.os,k.tape.trans h.tape,k.output.trans h.output,bm_ h.size k.size,fun j hj hr=>(k.block j (aX_ hj h.size) hr).trans (h.block j hj hr)⟩
theorem af_ {a b:World}{r:Option Nat}(h:Below a.heap.size a b):a.grownBy b r:=⟨h.os,h.tape,h.output,h.size,fun k hk _=>h.block k hk⟩
theorem Rd.low {N B:Nat}{w w':World}{l:List Tok}(h:Rd N B w l)(hb:Below w.heap.size w w'):Rd N B w' l:=by
 obtain⟨a,cap,h1,h2,h3,h9⟩:=h;refine⟨a,cap,(hb.block B (Array.getElem?_eq_some_iff.1 h1).1).trans h1,?_,h3,h9⟩;obtain⟨a',c',e,h4,h5|⟨b,off,h6,h7⟩⟩:=h2
 ·exact⟨a',c',e,h4,.inl h5⟩
 ·refine⟨a',c',e,h4,.inr ⟨b,off,h6,fun i hi=>?_⟩⟩
  obtain⟨c0,c1,c2⟩:=h7 i hi;have hbl:=World.block_lt_of_cell? w _ c0;exact⟨(hb.cell hbl).trans c0,(hb.cell (p:=⟨b,off+i*3+1,none⟩) hbl).trans c1,(hb.cell (p:=⟨b,off+i*3+2,none⟩) hbl).trans c2⟩
theorem Rd.blk {N B:Nat}{w:World}{l:List Tok}(h:Rd N B w l):∃ v,w.heap[B]? = some (.cells #[v] 115 (0,0)):=by
 obtain⟨a,cap,h1,_⟩:=h;exact⟨_,h1⟩
theorem Rd.set {N B:Nat}{w:World}{l:List Tok}(h:Rd N B w l){p:Addr}(hB:B≠p.block)(hN:N≤p.block)(u:Value):Rd N B (w.setCell p u) l:=by
 obtain⟨a,cap,h1,h2,h3,h9⟩:=h;refine⟨a,cap,(aM_ _ _ _ _ hB).trans h1,?_,h3,h9⟩;cases ha:a with
 | none =>
  subst ha;obtain⟨a',c',e,h4,h5|⟨b,off,h6,h7⟩⟩:=h2
  ·exact⟨a',c',e,h4,.inl h5⟩
  ·injection e with e;rw[h6] at e;cases e
 | some x =>
  subst ha;obtain⟨a',c',e,h4,h5|⟨b,off,h6,h7⟩⟩:=h2
  ·exact⟨a',c',e,h4,.inl h5⟩
  ·refine⟨a',c',e,h4,.inr ⟨b,off,h6,fun i hi=>?_⟩⟩
   injection e with e
   have hb:=h9 b off (by rw[e,h6]);have k:∀ o,(w.setCell p u).cell? ⟨b,o,none⟩=w.cell? ⟨b,o,none⟩:=fun o=>World.cell?_of_block (aM_ w p u b (by omega));rw[k,k,k];exact h7 i hi
def B4 (w:World)(b:Nat)(c0 c1 c2 c3:Value):Prop:=w.heap[b]? = some (.cells #[c0,c1,c2,c3] 30 (0,0))
section
variable {w w' : World} {b : Nat} {u0 u1 u2 u3 : Value}
theorem B4.c0 (h:B4 w b u0 u1 u2 u3):w.cell? ⟨b,0,none⟩=some u0:=cell_of_row w b 0 _ _ _ h
theorem B4.c1 (h:B4 w b u0 u1 u2 u3):w.cell? ⟨b,1,none⟩=some u1:=cell_of_row w b 1 _ _ _ h
theorem B4.c2 (h:B4 w b u0 u1 u2 u3):w.cell? ⟨b,2,none⟩=some u2:=cell_of_row w b 2 _ _ _ h
theorem B4.c3 (h:B4 w b u0 u1 u2 u3):w.cell? ⟨b,3,none⟩=some u3:=cell_of_row w b 3 _ _ _ h
theorem B4.fr (h:B4 w b u0 u1 u2 u3)(i:Nat):w.frozen? ⟨b,i,none⟩=false:=by unfold B4 at h;simp[World.frozen?,h]
theorem B4.c03 (h:B4 w b u0 u1 u2 u3):w.cell? ⟨b,0,none⟩=some u0∧w.cell? ⟨b,1,none⟩=some u1∧w.cell? ⟨b,2,none⟩=some u2∧w.cell? ⟨b,3,none⟩=some u3:=⟨h.c0,h.c1,h.c2,h.c3⟩
theorem B4.f03 (h:B4 w b u0 u1 u2 u3):w.frozen? ⟨b,0,none⟩=false∧w.frozen? ⟨b,1,none⟩=false∧w.frozen? ⟨b,2,none⟩=false∧w.frozen? ⟨b,3,none⟩=false:=⟨h.fr 0,h.fr 1,h.fr 2,h.fr 3⟩
theorem B4.lt (h:B4 w b u0 u1 u2 u3):b<w.heap.size:=(Array.getElem?_eq_some_iff.1 h).1
theorem B4.new (w:World)(u0 u1 u2 u3:Value):B4 (w.alloc (.cells #[u0,u1,u2,u3] 30)) w.heap.size u0 u1 u2 u3:=heap_alloc_new w _
theorem B4.grown {r:Option Nat}(h:B4 w b u0 u1 u2 u3)(hg:w.grownBy w' r)(hr:r≠some b):B4 w' b u0 u1 u2 u3:=(hg.block b h.lt (Ne.symm hr)).trans h
theorem B4.low (h:B4 w b u0 u1 u2 u3)(hb:Below w.heap.size w w'):B4 w' b u0 u1 u2 u3:=(hb.block b h.lt).trans h
theorem B4.ne_rd {N B:Nat}{l:List Tok}(h:B4 w b u0 u1 u2 u3)(k:Rd N B w l):b≠B:=by
 rintro rfl;obtain⟨v,hv⟩:=k.blk;unfold B4 at h;rw[hv] at h;injection h with h
 injection h with _ ht
 exact absurd ht (by decide)
end
theorem B4.set4 {w:World}{b:Nat}{u0 u1 u2 u3:Value}(h:B4 w b u0 u1 u2 u3)(v0 v1 v2 v3:Value) :
  B4 ((((w.setCell ⟨b,0,none⟩ v0).setCell ⟨b,1,none⟩ v1).setCell ⟨b,2,none⟩ v2).setCell ⟨b,3,none⟩ v3) b v0 v1 v2 v3:=by
 unfold B4 at *;rw[ak_ (ak_ (ak_ (ak_ h v0) v1) v2) v3];rfl
theorem av_ {w w1:World}{r:Option Nat}{b:Nat}(h:w.grownBy w1 r)(hb:w.heap.size≤b)(v0 v1 v2 v3:Value) :
  w.grownBy ((((w1.setCell ⟨b,0,none⟩ v0).setCell ⟨b,1,none⟩ v1).setCell ⟨b,2,none⟩ v2).setCell ⟨b,3,none⟩ v3) r:=by
 refine⟨h.os,h.tape,h.output,by simpa using h.size,fun k hk hr=>?_⟩;rw[aM_ _ _ _ _ (by simp;omega),aM_ _ _ _ _ (by simp;omega),aM_ _ _ _ _ (by simp;omega),aM_ _ _ _ _ (by simp;omega)];exact h.block k hk hr
theorem Rd.set4 {N B:Nat}{w:World}{l:List Tok}(h:Rd N B w l){b:Nat}(hB:B≠b)(hN:N≤b)(v0 v1 v2 v3:Value) :
  Rd N B ((((w.setCell ⟨b,0,none⟩ v0).setCell ⟨b,1,none⟩ v1).setCell ⟨b,2,none⟩ v2).setCell ⟨b,3,none⟩ v3) l :=
 (((h.set (p:=⟨b,0,none⟩) hB hN v0).set (p:=⟨b,1,none⟩) hB hN v1).set (p:=⟨b,2,none⟩) hB hN v2).set (p:=⟨b,3,none⟩) hB hN v3
def tv (t:Ty)(a:OA_)(c:Nat):Value:=.agg #[.int .i64 t.kind,.string t.name,.int .i64 t.n,.slice a t.args.length c]
def do_ (N B:Nat)(w:World)(res:Option (Ty × List Tok))(e:Ending)(w':World):Prop :=
 w.grownBy w' (some B)∧match res with
 | none=>∃ (k:Int) (s:ByteArray) (n:Int) (a:OA_) (c m:Nat),e=.returned (.tuple #[.agg #[.int .i64 k,.string s,.int .i64 n,.slice a c m],.bool false])
 | some (t,r)=>∃ a c,e=.returned (.tuple #[tv t a c,.bool true])∧ac_ (In w.heap.size w'.heap.size) w' (.slice a t.args.length c) t.args∧Rd N B w' r
def c2_ (l:List Tok):Prop:=∀ t∈l,t.kind=5→t.text.length≤19∧Lib.atoi t.text.tail=some (dw_ t.text.tail:Int)
theorem c2_.tail {l:List Tok}(h:c2_ l):c2_ l.tail:=fun t ht=>h t (List.mem_of_mem_tail ht)
structure oH_ (n:Nat):Prop where
 typ:∀ (N B:Nat) (w:World) (l:List Tok),Rd N B w l→N≤w.heap.size→c2_ l→l.length≤4000→4*l.length+4≤n→Calls Tryz.prog 63 #[.pointer (some ⟨B,0,none⟩)] w (do_ N B w (bT_ n l))
 all:∀ (N B:Nat) (w:World) (l:List Tok),Rd N B w l→N≤w.heap.size→c2_ l→l.length≤4000→4*l.length+1≤n→Calls Tryz.prog 94 #[.pointer (some ⟨B,0,none⟩)] w (do_ N B w (ff_ n l))
 app:∀ (N B:Nat) (w:World) (l:List Tok),Rd N B w l→N≤w.heap.size→c2_ l→l.length≤4000→4*l.length+3≤n→Calls Tryz.prog 95 #[.pointer (some ⟨B,0,none⟩)] w (do_ N B w (cm_ n l))
 atom:∀ (N B:Nat) (w:World) (l:List Tok),Rd N B w l→N≤w.heap.size→c2_ l→l.length≤4000→4*l.length+2≤n→Calls Tryz.prog 110 #[.pointer (some ⟨B,0,none⟩)] w (do_ N B w (aU_ n l))
theorem cr_ {k:Nat}{s:List UInt8}{N B:Nat}{w:World}{l:List Tok}(h:Rd N B w l)(hs:bf_ l k s=true) :
  Calls Tryz.prog 93 #[.pointer (some ⟨B,0,none⟩),.int .i64 (k:Int),.string ⟨s.toArray⟩] w fun e w'=>e=.returned (.tuple #[.string (aa_ (ab_ l)),.bool true])∧Rd N B w' l.tail∧w.grownBy w' (some B):=by
 have:=i1_ k s N B w l h;rw[hs] at this;exact this
theorem bG_ {k:Nat}{s:List UInt8}{N B:Nat}{w:World}{l:List Tok}(h:Rd N B w l)(hs:bf_ l k s=false) :
  Calls Tryz.prog 93 #[.pointer (some ⟨B,0,none⟩),.int .i64 (k:Int),.string ⟨s.toArray⟩] w fun e w'=>e=.returned (.tuple #[.string ByteArray.empty,.bool false])∧w=w':=by
 have:=i1_ k s N B w l h;rw[hs] at this;exact this
theorem pZ_ (n N B:Nat)(w:World)(l:List Tok)(h:Rd N B w l)(hN:N≤w.heap.size)(h1:sk l 1=true):Calls Tryz.prog 110 #[.pointer (some ⟨B,0,none⟩)] w (do_ N B w (aU_ (n+1) l)):=by
 have hr:=h.low (ao_ w (.cells #[.int .i64 0,.string ByteArray.empty,.int .i64 0,.slice none 0 0] 30));have C:=hid (cr_ hr (k:=1) (s:=[]) (by rw[bY_];exact h1));have b4:=hid (B4.new w (.int .i64 0) (.string ByteArray.empty) (.int .i64 0) (.slice none 0 0));have HR:=hid hr;have H1:=hid h1;clear h hr h1;go_enter Tryz.func110,Tryz.ntmps110;go_wp2_with fail;refine C.out.mono ?_;rintro e w1 ⟨rfl,hrd,hg⟩;have k4:=b4.out.grown hg (fun e=>b4.out.ne_rd HR.out (by injection e with e;exact e.symm));obtain⟨c0,c1,c2,c3⟩:=k4.c03;obtain⟨f0,f1,f2,f3⟩:=k4.f03;have K4:=hid k4;have RD:=hid hrd;have G:=hid hg;clear k4 hrd hg;have hne:=K4.out.ne_rd RD.out;go_wp2;have q4:=K4.out.set4 (.int .i64 1) (.string (aa_ (ab_ l))) (.int .i64 0) (.slice none 0 0);have g4:=av_ (ad_ (af_ (ao_ w _)) G.out) (aw_ _) (.int .i64 1) (.string (aa_ (ab_ l))) (.int .i64 0) (.slice none 0 0);have r4:=RD.out.set4 (Ne.symm hne) hN (.int .i64 1) (.string (aa_ (ab_ l))) (.int .i64 0) (.slice none 0 0);refine bodyPost_ret (v:=.tuple #[tv (gG_ (ab_ l)) none 0,.bool true]) (by simp[results,Tryz.results110,go_sem,q4.c0,q4.c1,q4.c2,q4.c3];rfl) rfl ?_;have e:aU_ (n+1) l=some (gG_ (ab_ l),l.tail):=by rw[aU_,if_pos H1.out]
 rw[e];exact⟨g4,none,0,rfl,.nil _ _,r4⟩
open Lx
theorem cI_ {l:List Tok}{k:Nat}{b:Bool}(h:sk l k=b):bf_ l k []=b:=by rw[bY_];exact h
theorem gj_ {l:List Tok}{k:Nat}{s:List UInt8}{b:Bool}(hs:s≠[])(h:st l k s=b):bf_ l k s=b:=by rw[b9_ _ _ _ hs];exact h
theorem dz_ (l:List UInt8):(aa_ l).size=l.length:=by simp[aa_,ByteArray.size]
theorem p1_ (n N B:Nat)(w:World)(l:List Tok)(h:Rd N B w l)(hN:N≤w.heap.size)(h1:sk l 1=false)(h2:sk l 2=true):Calls Tryz.prog 110 #[.pointer (some ⟨B,0,none⟩)] w (do_ N B w (aU_ (n+1) l)):=by
 have hr:=h.low (ao_ w (.cells #[.int .i64 0,.string ByteArray.empty,.int .i64 0,.slice none 0 0] 30));have C1:=hid (bG_ hr (k:=1) (s:=[]) (cI_ h1));have C2:=hid (cr_ hr (k:=2) (s:=[]) (cI_ h2));have b4:=hid (B4.new w (.int .i64 0) (.string ByteArray.empty) (.int .i64 0) (.slice none 0 0));have HR:=hid hr;have e:aU_ (n+1) l=some (fu_ (ab_ l) [],l.tail):=by rw[aU_,h1,if_neg (by simp),if_pos h2]
 have E:=hid e;clear h hr h1 h2 e;go_enter Tryz.func110,Tryz.ntmps110;go_wp2_with fail;refine C1.out.mono ?_;rintro e w1 ⟨rfl,rfl⟩;go_wp2_with fail;refine C2.out.mono ?_;rintro e w1 ⟨rfl,hrd,hg⟩;have k4:=b4.out.grown hg (fun e=>b4.out.ne_rd HR.out (by injection e with e;exact e.symm));obtain⟨c0,c1,c2,c3⟩:=k4.c03;obtain⟨f0,f1,f2,f3⟩:=k4.f03;have K4:=hid k4;have RD:=hid hrd;have G:=hid hg;clear k4 hrd hg;have hne:=K4.out.ne_rd RD.out;go_wp2;have q4:=K4.out.set4 (.int .i64 3) (.string (aa_ (ab_ l))) (.int .i64 0) (.slice none 0 0);have g4:=av_ (ad_ (af_ (ao_ w _)) G.out) (aw_ _) (.int .i64 3) (.string (aa_ (ab_ l))) (.int .i64 0) (.slice none 0 0);have r4:=RD.out.set4 (Ne.symm hne) hN (.int .i64 3) (.string (aa_ (ab_ l))) (.int .i64 0) (.slice none 0 0);refine bodyPost_ret (v:=.tuple #[tv (fu_ (ab_ l) []) none 0,.bool true]) (by simp[results,Tryz.results110,go_sem,q4.c0,q4.c1,q4.c2,q4.c3];rfl) rfl ?_;rw[E.out];exact⟨g4,none,0,rfl,.nil _ _,r4⟩
theorem om_ (n N B:Nat)(w:World)(l:List Tok)(h:Rd N B w l)(hN:N≤w.heap.size)(hok:c2_ l)(h1:sk l 1=false)(h2:sk l 2=false)(h3:sk l 5=true):Calls Tryz.prog 110 #[.pointer (some ⟨B,0,none⟩)] w (do_ N B w (aU_ (n+1) l)):=by
 have hr:=h.low (ao_ w (.cells #[.int .i64 0,.string ByteArray.empty,.int .i64 0,.slice none 0 0] 30));have C1:=hid (bG_ hr (k:=1) (s:=[]) (cI_ h1));have C2:=hid (bG_ hr (k:=2) (s:=[]) (cI_ h2));have C3:=hid (cr_ hr (k:=5) (s:=[]) (cI_ h3));have b4:=hid (B4.new w (.int .i64 0) (.string ByteArray.empty) (.int .i64 0) (.slice none 0 0));have HR:=hid hr;have e:aU_ (n+1) l=some (gH_ (ab_ l),l.tail):=by rw[aU_,h1,if_neg (by simp),h2,if_neg (by simp),if_pos h3]
 have E:=hid e;obtain⟨hlen,hat⟩:(ab_ l).length≤19∧Lib.atoi (ab_ l).tail=some (dw_ (ab_ l).tail:Int):=by
  cases l with
  | nil=>cases h3
  | cons t l=>exact hok t (by simp) (by simpa [sk] using h3)
 have hpos:1≤(ab_ l).length:=by
  rcases Nat.eq_zero_or_pos (ab_ l).length with h0|h0
  ·rw[List.eq_nil_of_length_eq_zero h0] at hat;cases hat
  ·exact h0
 have hsz:=dz_ (ab_ l);have hx:(aa_ (ab_ l)).extract 1 (aa_ (ab_ l)).size=aa_ (ab_ l).tail:=by
  apply ByteArray.ext;apply Array.toList_inj.1;rw[dW_];simp[aa_]
 have AT:=fun W=>Tryz.strconv_Atoi (aa_ (ab_ l).tail) (dw_ (ab_ l).tail:Int) (by rw[dz_];simp;omega) (by simpa [aa_] using hat) W;have HX:=hid hx;have HA:=hid AT;have hs1:1≤(aa_ (ab_ l)).size:=by omega
 clear h hr h1 h2 h3 e hok hat hx hsz AT;go_enter Tryz.func110,Tryz.ntmps110;go_wp2_with fail;refine C1.out.mono ?_;rintro e w1 ⟨rfl,rfl⟩;go_wp2_with fail;refine C2.out.mono ?_;rintro e w1 ⟨rfl,rfl⟩;go_wp2_with fail;refine C3.out.mono ?_;rintro e w1 ⟨rfl,hrd,hg⟩;have k4:=b4.out.grown hg (fun e=>b4.out.ne_rd HR.out (by injection e with e;exact e.symm));have K4:=hid k4;have RD:=hid hrd;have G:=hid hg;clear k4 hrd hg;go_wp2_with fail;rw[HX.out];refine (HA.out _).mono ?_;rintro e w2 ⟨rfl,tt,rfl⟩;have hbw:=Lib.bytesWorld_below w1 5 tt;generalize Lib.bytesWorld w1 5 tt=w2 at *;have k5:=K4.out.low hbw;have r5:=RD.out.low hbw;obtain⟨c0,c1,c2,c3⟩:=k5.c03;obtain⟨f0,f1,f2,f3⟩:=k5.f03;have hne:=k5.ne_rd r5;have K5:=hid k5;have R5:=hid r5;have G5:=hid (ad_ G.out (af_ (r:=some B) hbw));clear k5 r5 hbw;go_wp2;have q4:=K5.out.set4 (.int .i64 2) (.string ⟨#[]⟩) (.int .i64 (dw_ (ab_ l).tail:Int)) (.slice none 0 0);have g4:=av_ (ad_ (af_ (ao_ w _)) G5.out) (aw_ _) (.int .i64 2) (.string ⟨#[]⟩) (.int .i64 (dw_ (ab_ l).tail:Int)) (.slice none 0 0);have r4:=R5.out.set4 (Ne.symm hne) hN (.int .i64 2) (.string ⟨#[]⟩) (.int .i64 (dw_ (ab_ l).tail:Int)) (.slice none 0 0);refine bodyPost_ret (v:=.tuple #[tv (gH_ (ab_ l)) none 0,.bool true]) (by simp[results,Tryz.results110,go_sem,q4.c0,q4.c1,q4.c2,q4.c3];rfl) rfl ?_;rw[E.out];exact⟨g4,none,0,rfl,.nil _ _,r4⟩
end Go.Proofs.YtkihnodkhnahiaaGreatDoor.Tp
namespace Go.Proofs.YtkihnodkhnahiaaGreatDoor.Lx
def gQ_ (r:Bool)(l:List UInt8)(p:Nat)(acc:List Tok):List Tok × Nat × Nat :=
 ec_ (l.drop (aj_ r l)) (p+aj_ r l) acc
theorem qT_ (l:List UInt8)(h:l.length≤4000):bI_ l=gQ_ false l 0 []:=by
 rw[bI_,if_neg (by omega),gQ_,Nat.zero_add]
def Cut:List UInt8→Nat→List Tok→Prop
 | l,_,[]=>aj_ false l=l.length
 | l,p,t :: ts=>aj_ false l<l.length∧t.pos=p+aj_ false l∧aN_ (l.drop (aj_ false l))=(t.kind,t.text.length) ∧
   t.text=(l.drop (aj_ false l)).take t.text.length∧t.text≠[]∧Cut ((l.drop (aj_ false l)).drop t.text.length) (p+aj_ false l+t.text.length) ts
theorem i8_ (r:Bool)(l:List UInt8)(p:Nat)(acc:List Tok)(h:aj_ r l=l.length):gQ_ r l p acc=(acc,0,0):=by
 rw[gQ_,h,List.drop_length,hF_]
theorem r8_ (r:Bool)(l:List UInt8)(p:Nat)(acc:List Tok)(h:aj_ r l<l.length)(h2:(aN_ (l.drop (aj_ r l))).2=0):gQ_ r l p acc=([],p+aj_ r l,10):=by
 rw[gQ_,fY_ _ _ _ (by intro e;have:=congrArg List.length e;simp at this;omega) h2]
theorem lI_ (r:Bool)(l:List UInt8)(p:Nat)(acc:List Tok)(h:aj_ r l<l.length)(h2:(aN_ (l.drop (aj_ r l))).2≠0) :
  gQ_ r l p acc=gQ_ false ((l.drop (aj_ r l)).drop (aN_ (l.drop (aj_ r l))).2) (p+aj_ r l+(aN_ (l.drop (aj_ r l))).2)
   (acc++[⟨(aN_ (l.drop (aj_ r l))).1,(l.drop (aj_ r l)).take (aN_ (l.drop (aj_ r l))).2,p+aj_ r l⟩]):=by
 rw[gQ_,fh_ _ _ _ (by intro e;have:=congrArg List.length e;simp at this;omega) h2,gQ_]
theorem mT_ (n:Nat):∀ (l:List UInt8) (p:Nat) (acc ts:List Tok),l.length≤n→Cut l p ts→gQ_ false l p acc=(acc++ts,0,0):=by
 induction n with
 | zero =>
  intro l p acc ts hn h;cases ts with
  | nil=>rw[i8_ _ _ _ _ h,List.append_nil]
  | cons t ts=>exact absurd h.1 (by omega)
 | succ n ih =>
  intro l p acc ts hn h;cases ts with
  | nil=>rw[i8_ _ _ _ _ h,List.append_nil]
  | cons t ts =>
   obtain⟨h1,h2,h3,h4,h5,h6⟩:=h;have hl:t.text.length≠0:=fun e=>h5 (List.length_eq_zero_iff.1 e);rw[lI_ _ _ _ _ h1 (by rw[h3];exact hl),h3];simp only;rw[ih _ _ _ ts (by simp;omega) h6,← h4,← h2];simp
theorem fw_ (n:Nat):∀ (l:List UInt8) (p:Nat) (acc:List Tok),(dS_ n l p acc).1.length≤acc.length+l.length:=by
 induction n with
 | zero=>intro l p acc;simp[dS_]
 | succ n ih =>
  intro l p acc;simp only[dS_]
  split
  ·simp
  ·split
   ·simp
   ·rename_i h1 h2
    refine Nat.le_trans (ih _ _ _) ?_;have:1≤l.length:=by cases l with
     | nil=>exact absurd rfl h1
     | cons a l=>simp
    simp only[List.length_append,List.length_cons,List.length_nil,List.length_drop];omega
theorem ca_ (l:List UInt8):(bI_ l).1.length≤4000:=by
 unfold bI_
 split
 ·simp
 ·unfold ec_
  refine Nat.le_trans (fw_ _ _ _ _) ?_;simp;omega
end Go.Proofs.YtkihnodkhnahiaaGreatDoor.Lx
namespace Go.Proofs.YtkihnodkhnahiaaGreatDoor.Tp
open Go.RowKit
open Lx
def sZ_ (t:Tok):Prop:=∃ l,l≠[]∧(aN_ l).2≠0∧t.kind=(aN_ l).1∧t.text=l.take (aN_ l).2
theorem lJ_ (n:Nat):∀ (l:List UInt8) (p:Nat) (acc:List Tok),(∀ t∈acc,sZ_ t)→∀ t∈(dS_ n l p acc).1,sZ_ t:=by
 induction n with
 | zero=>intro l p acc h;simpa [dS_] using h
 | succ n ih =>
  intro l p acc h;simp only[dS_]
  split
  ·exact h
  ·split
   ·simp
   ·rename_i h1 h2
    refine ih _ _ _ fun t ht=>?_
    rcases List.mem_append.1 ht with ht|ht
    ·exact h t ht
    ·obtain rfl:=List.mem_singleton.1 ht
     exact⟨l,h1,h2,rfl,rfl⟩
theorem cJ_ (l:List UInt8):∀ t∈(bI_ l).1,sZ_ t:=by
 unfold bI_
 split
 ·simp
 ·exact lJ_ _ _ _ _ (by simp)
theorem i4_ (p:UInt8→Bool)(l:List UInt8):∀ c∈l.take (bA_ p l),p c=true:=by
 unfold bA_;rw[← List.takeWhile_append_dropWhile (p:=p) (l:=l)];intro c hc;have e:(l.takeWhile p++l.dropWhile p).takeWhile p=l.takeWhile p:=by rw[List.takeWhile_append_dropWhile]
 rw[e,List.take_left] at hc;exact List.all_eq_true.1 (List.all_takeWhile (p:=p) (l:=l)) c hc
structure d9_ (s:List UInt8):Prop where
 len:1≤s.length∧s.length≤16
 inner:∀ c∈s,aV_ c=true
structure lo_ (s:List UInt8):Prop where
 len:1≤s.length∧s.length≤6
 digits:∀ c∈s,aA_ c=true
 head:1<s.length→s.headD 0≠48
theorem h0_ {l:List UInt8}{k:Nat}(h:0<k):(l.take k).headD 0=l.headD 0:=by
 cases l with
 | nil=>simp
 | cons a l=>cases k with
  | zero=>omega
  | succ k=>rfl
theorem k1_ (l:List UInt8)(h:aR_ l≠0):lo_ (l.take (aR_ l)):=by
 have hs:=i4_ aA_ l;have hle:=eT_ aA_ l;have h6:¬ (6<bA_ aA_ l∨1<bA_ aA_ l∧l.headD 0=48):=fun hc=>by unfold aR_ at h;rw[if_pos hc] at h;exact h rfl
 have e:aR_ l=bA_ aA_ l:=by unfold aR_;rw[if_neg h6]
 rw[e] at h ⊢;refine⟨by rw[List.length_take];omega,hs,fun h1 hh=>?_⟩;rw[h0_ (by omega)] at hh;rw[List.length_take] at h1;exact h6 (.inr ⟨by omega,hh⟩)
inductive be_:Tok→Prop
 | var (t:Tok) (h:t.kind=1) (n:d9_ t.text) (c:a8_ (t.text.headD 0)=true) (k:kh_.contains t.text=false):be_ t
 | con (t:Tok) (h:t.kind=2) (n:d9_ t.text) (c:a5_ (t.text.headD 0)=true):be_ t
 | key (t:Tok) (h:t.kind=3) (k:kh_.contains t.text=true):be_ t
 | num (t:Tok) (h:t.kind=4) (n:lo_ t.text):be_ t
 | unk (t:Tok) (h:t.kind=5) (ds:List UInt8) (e:t.text=63 :: ds) (n:lo_ ds):be_ t
 | sign2 (t:Tok) (h:t.kind=6) (e:t.text=[45,62]∨t.text=[124,62]):be_ t
 | sign (t:Tok) (h:t.kind=6) (c:UInt8) (e:t.text=[c]) (s:gN_.contains c=true):be_ t
theorem oM_ (t:Tok)(h:sZ_ t):be_ t:=by
 obtain⟨l,hne,h2,hk,ht⟩:=h;have hl1:1≤l.length:=by cases l with
  | nil=>exact absurd rfl hne
  | cons a l=>simp
 have hle:=gD_ l hne;unfold aN_ at h2 hk ht hle
 by_cases h0:(a8_ (l.headD 0) || a5_ (l.headD 0))=true
 ·rw[if_pos h0] at h2 hk ht hle
  by_cases h16:16<bA_ aV_ l
  ·rw[if_pos h16] at h2;exact absurd rfl h2
  ·rw[if_neg h16] at h2 hk ht hle
   simp only at h2 hk ht hle;have hn:d9_ t.text:=⟨by rw[ht,List.length_take];omega,by rw[ht];exact i4_ aV_ l⟩;have hh:t.text.headD 0=l.headD 0:=by rw[ht];exact h0_ (by omega)
   rw[← ht] at hk;unfold eF_ at hk;cases hc:kh_.contains t.text with
   | true=>rw[if_pos hc] at hk;exact .key t hk hc
   | false =>
    rw[if_neg (by rw[hc];simp),hh] at hk;cases hu:a5_ (l.headD 0) with
    | true=>rw[if_pos hu] at hk;exact .con t hk hn (by rw[hh];exact hu)
    | false =>
     rw[if_neg (by rw[hu];simp)] at hk;refine .var t hk hn ?_ hc;rw[hu] at h0;rw[hh];simpa using h0
 ·rw[if_neg h0] at h2 hk ht hle
  by_cases hd:aA_ (l.headD 0)=true
  ·rw[if_pos hd] at h2 hk ht hle
   simp only at h2 hk ht;exact .num t hk (by rw[ht];exact k1_ l h2)
  ·rw[if_neg hd] at h2 hk ht hle
   by_cases hq:l.headD 0=63
   ·rw[if_pos hq] at h2 hk ht hle
    by_cases hz:aR_ (l.drop 1)=0
    ·rw[if_pos hz] at h2;exact absurd rfl h2
    ·rw[if_neg hz] at h2 hk ht hle
     simp only at h2 hk ht;refine .unk t hk ((l.drop 1).take (aR_ (l.drop 1))) ?_ (k1_ _ hz);cases l with
     | nil=>exact absurd rfl hne
     | cons a l=>simp at hq;subst hq;rw[ht];rfl
   ·rw[if_neg hq] at h2 hk ht hle
    by_cases hp:([45,62].isPrefixOf l || [124,62].isPrefixOf l)=true
    ·rw[if_pos hp] at h2 hk ht hle
     simp only at h2 hk ht;refine .sign2 t hk ?_
     match l,hp with
     | [],hp=>simp[List.isPrefixOf] at hp
     | [x],hp=>simp[List.isPrefixOf] at hp
     | x :: y :: l,hp =>
      simp[List.isPrefixOf] at hp;rw[ht]
      rcases hp with ⟨h,h'⟩|⟨h,h'⟩
      ·subst h h';exact .inl rfl
      ·subst h h';exact .inr rfl
    ·rw[if_neg hp] at h2 hk ht hle
     by_cases hs:gN_.contains (l.headD 0)=true
     ·rw[if_pos hs] at h2 hk ht hle
      simp only at h2 hk ht;refine .sign t hk (l.headD 0) ?_ hs;cases l with
      | nil=>exact absurd rfl hne
      | cons a l=>rw[ht];rfl
     ·rw[if_neg hs] at h2;exact absurd rfl h2
theorem hx_ (l:List UInt8)(h:∀ c∈l,aA_ c=true)(n:Nat):Lib.decFrom n l=some (l.foldl (fun n c=>10*n+(c.toNat - 48)) n):=by
 induction l generalizing n with
 | nil=>rfl
 | cons c l ih =>
  have hc:48≤c.toNat∧c.toNat≤57:=by have:=h c (by simp);simpa [aA_] using this
  have hd:Lib.digitVal c=some (c.toNat - 48):=by unfold Lib.digitVal;rw[if_pos hc]
  rw[Lib.decFrom,hd];simp only[List.foldl_cons];rw[ih (fun c hc=>h c (by simp[hc])),Nat.mul_comm]
theorem fq_ (l:List UInt8)(h0:l≠[])(h:∀ c∈l,aA_ c=true):Lib.atoi l=some (dw_ l:Int):=by
 cases l with
 | nil=>exact absurd rfl h0
 | cons c l =>
  have hc:48≤c.toNat∧c.toNat≤57:=by have:=h c (by simp);simpa [aA_] using this
  have a1:¬ (c==45)=true:=by intro e;rw[beq_iff_eq] at e;subst e;simp at hc
  have a2:¬ (c==43)=true:=by intro e;rw[beq_iff_eq] at e;subst e;simp at hc
  rw[Lib.atoi,if_neg a1,if_neg a2,Lib.decNat,if_neg (by simp),hx_ _ h];rfl
theorem lC_ (l:List UInt8):c2_ (bI_ l).1:=by
 intro t ht h5;cases oM_ t (cJ_ l t ht) with
 | unk _ ds e n =>
  rw[e];have:=n.len;refine⟨by simp;omega,?_⟩;rw[List.tail_cons];exact fq_ ds (fun e=>by rw[e] at this;simp at this) n.digits
 | var h _ _ _|con h _ _|key h _|num h _|sign2 h _|sign h _ _ _=>omega
end Go.Proofs.YtkihnodkhnahiaaGreatDoor.Tp

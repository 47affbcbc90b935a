/- Packed. -/
import Derived.Test.YtjecnionbjlncaaGreatDoorP04
set_option maxRecDepth 100000
set_option maxHeartbeats 6400000
namespace Go.Proofs.YtjecnionbjlncaaGreatDoor
open Go.RowKit
open Lx
def b2_ (c:UInt8):Bool:=bl_ c || a4_ c
theorem ar_ (c:UInt8)(w:World):Calls Tryz.prog 130 #[.int .u8 c.toNat] w fun e w'=>e=.returned (.bool (b2_ c))∧w=w':=by
 go_enter Tryz.func130,Tryz.ntmps130;go_wp2
 all_goals
  go_ret;exact⟨aS_ (by
   unfold b2_ bl_ a4_;rw[Bool.eq_iff_iff];simp only[Bool.or_eq_true,decide_eq_true_eq,Bool.false_eq_true,true_iff,false_iff];omega),rfl⟩
theorem as_ (c:UInt8)(w:World):Calls Tryz.prog 131 #[.int .u8 c.toNat] w fun e w'=>e=.returned (.bool (aH_ c))∧w=w':=by
 go_enter Tryz.func131,Tryz.ntmps131;go_wp2
 all_goals
  go_ret;exact⟨aS_ (by unfold aH_;first|(rw[decide_eq_decide];omega)|(symm;rw[decide_eq_false_iff_not];omega)),rfl⟩
theorem cy_ (s:ByteArray)(i:Nat)(h:i<s.size):s.data.toList.drop i=s[i] :: s.data.toList.drop (i+1):=by
 rw[List.drop_eq_getElem_cons (by simpa using h)];rfl
def Run (p:UInt8→Bool)(s:ByteArray)(i k:Nat):Prop:=∀ j (h:j<s.size),i≤j→j<k→p s[j]=true
theorem Run.step {p:UInt8→Bool}{s:ByteArray}{i k:Nat}(h:Run p s i k)(hk:k<s.size)(hp:p s[k]=true):Run p s i (k+1):=by
 intro j hj h1 h2
 by_cases e:j=k
 ·subst e;exact hp
 ·exact h j hj h1 (by omega)
theorem Run.take {p:UInt8→Bool}{s:ByteArray}{i k:Nat}(h:Run p s i k)(hk:k≤s.size):((s.data.toList.drop i).take (k - i)).all p=true:=by
 rw[List.all_eq_true];intro c hc;obtain⟨j,hj,rfl⟩:=List.mem_iff_getElem.1 hc;simp only[List.length_take,List.length_drop,Array.length_toList] at hj;have hs:s.data.size=s.size:=rfl;simp only[List.getElem_take,List.getElem_drop];exact h (i+j) (by omega) (by omega) (by omega)
theorem Run.stop {p:UInt8→Bool}{s:ByteArray}{i k:Nat}(h:Run p s i k)(hi:i≤k)(hk:k<s.size)(hp:p s[k]=false):bG_ p (s.data.toList.drop i)=k - i:=by
 refine fO_ _ _ _ (h.take (by omega)) (by simp;have:s.data.size=s.size:=rfl;omega) ?_;simp only[List.getElem_drop];have:i+(k - i)=k:=by omega
 simp only[this];exact hp
theorem Run.full {p:UInt8→Bool}{s:ByteArray}{i k:Nat}(h:Run p s i k)(hi:i≤k)(hk:k=s.size):bG_ p (s.data.toList.drop i)=k - i:=by
 have h1:=h.take (by omega);have hs:s.data.size=s.size:=rfl;rw[List.take_of_length_le (by simp;omega)] at h1;rw[gJ_ _ _ h1];simp;omega
theorem hN_ (s:ByteArray)(i j:Nat)(sp:bG_ aH_ (s.data.toList.drop i)=j - i)(hij:i≤j) :
  i+aT_ (s.data.toList.drop i)=if 6<j - i∨1<j - i∧(s.data.toList.drop i).headD 0=48 then i else j:=by
 rw[aT_,sp];split<;>omega
theorem e4_ (s:ByteArray)(i:Nat)(w:World)(hs:s.size≤maxLen)(hi:i≤s.size) :
  Calls Tryz.prog 132 #[.string s,.int .i64 i] w fun e w'=>e=.returned (.int .i64 ((i+aT_ (s.data.toList.drop i):Nat):Int))∧w=w':=by
 unfold maxLen at hs;go_enter Tryz.func132,Tryz.ntmps132;go_wp2
 go_loop [5] (fun k=>∃ j:Nat,i≤j∧j≤s.size∧k=.int .i64 j∧Run aH_ s i j) (fun k=>s.size - (intOf k).toNat)
 case atStart=>exact⟨i,Nat.le_refl _,hi,rfl,fun _ _ _ _=>by omega⟩
 case round =>
  obtain⟨j,hij,hj,rfl,hrun⟩:=hrel;have R:=Lib.hid hrun;clear hrun
  by_cases hlt:j<s.size
  ·cases hd:aH_ s[j]
   ·have sp:=R.out.stop hij hlt hd
    have fin:=hN_ s i j sp hij
    by_cases c1:6<j - i
    ·rw[if_pos (Or.inl c1)] at fin
     have F:=Lib.hid fin;clear fin;go_wp2_with (go_at_call 131;refine (as_ _ _).mono ?_;rw[hd];rintro e w' ⟨rfl,rfl⟩);go_ret;exact⟨bv_ (by have:=F.out;omega),rfl⟩
    by_cases c2:1<j - i
    ·rw[cy_ s i (by omega),List.headD_cons,← cy_ s i (by omega)] at fin
     by_cases c3:s[i]=48
     ·rw[if_pos (Or.inr ⟨c2,c3⟩)] at fin
      have F:=Lib.hid fin;have f3:=bX_ 48 48 c3 rfl;clear c3;go_wp2_with (go_at_call 131;refine (as_ _ _).mono ?_;rw[hd];rintro e w' ⟨rfl,rfl⟩);go_ret;exact⟨bv_ (by have:=F.out;omega),rfl⟩
     ·rw[if_neg (by rintro (h|h);exact c1 h;exact c3 h.2)] at fin
      have F:=Lib.hid fin;have f3:=bD_ 48 48 c3 rfl;clear c3;go_wp2_with (go_at_call 131;refine (as_ _ _).mono ?_;rw[hd];rintro e w' ⟨rfl,rfl⟩);go_ret;exact⟨bv_ (by have:=F.out;omega),rfl⟩
    rw[if_neg (by rintro (h|h);exact c1 h;exact c2 h.1)] at fin;have F:=Lib.hid fin;clear fin;go_wp2_with (go_at_call 131;refine (as_ _ _).mono ?_;rw[hd];rintro e w' ⟨rfl,rfl⟩);go_ret;exact⟨bv_ (by have:=F.out;omega),rfl⟩
   ·have RN:=Lib.hid (R.out.step hlt hd)
    go_wp2_with (go_at_call 131;refine (as_ _ _).mono ?_;rw[hd];rintro e w' ⟨rfl,rfl⟩);go_round
    case rel=>exact⟨j+1,by omega,by omega,by go_num,RN.out⟩
    case measure=>simp[intOf];omega
  ·have sp:=R.out.full hij (by omega)
   have fin:=hN_ s i j sp hij
   by_cases c1:6<j - i
   ·rw[if_pos (Or.inl c1)] at fin
    have F:=Lib.hid fin;clear fin;go_wp2;go_ret;exact⟨bv_ (by have:=F.out;omega),rfl⟩
   by_cases c2:1<j - i
   ·rw[cy_ s i (by omega),List.headD_cons,← cy_ s i (by omega)] at fin
    by_cases c3:s[i]=48
    ·rw[if_pos (Or.inr ⟨c2,c3⟩)] at fin
     have F:=Lib.hid fin;have f3:=bX_ 48 48 c3 rfl;clear c3;go_wp2;go_ret;exact⟨bv_ (by have:=F.out;omega),rfl⟩
    ·rw[if_neg (by rintro (h|h);exact c1 h;exact c3 h.2)] at fin
     have F:=Lib.hid fin;have f3:=bD_ 48 48 c3 rfl;clear c3;go_wp2;go_ret;exact⟨bv_ (by have:=F.out;omega),rfl⟩
   rw[if_neg (by rintro (h|h);exact c1 h;exact c2 h.1)] at fin;have F:=Lib.hid fin;clear fin;go_wp2;go_ret;exact⟨bv_ (by have:=F.out;omega),rfl⟩
open Lx
theorem aJ_ {p:Nat × Nat}{a b:Nat}(h:p=(a,b)):Ending.returned (.tuple #[.int .i64 a,.int .i64 b])=.returned (.tuple #[.int .i64 p.1,.int .i64 p.2]):=by rw[h]
def dT_ (s:ByteArray)(i:Nat):Nat × Nat :=
 if (a5_ (s.data.toList.drop i)).2=0 then (0,i) else ((a5_ (s.data.toList.drop i)).1,i+(a5_ (s.data.toList.drop i)).2)
theorem a2_ (s:ByteArray)(i k:Nat):(s.extract i k).data.toList=(s.data.toList.drop i).take (k - i):=by simp
theorem fz_ (s:ByteArray)(i k:Nat)(h:i<k)(hk:k≤s.size):(s.extract i k)[0]'(by rw[ByteArray.size_extract];omega)=s[i]:=by
 rw[← iy_,a2_,cy_ s i (by omega),show k - i=(k - i - 1)+1 by omega];rfl
theorem kT_ (c:UInt8)(h:b2_ c=true):a4_ c=decide ((c.toNat:Int)≤90):=by
 simp only[b2_,bl_,a4_,Bool.or_eq_true,decide_eq_true_eq] at *;rw[decide_eq_decide];omega
theorem k1_ (s:ByteArray)(i k:Nat)(hi:i<s.size)(h1:b2_ s[i]=true)(sp:bG_ aV_ (s.data.toList.drop i)=k - i):i<k:=by
 have hw:(bl_ s[i] || a4_ s[i])=true:=h1;have hin:aV_ s[i]=true:=by unfold aV_;rw[hw];rfl
 rw[cy_ s i hi] at sp;simp[bG_,hin] at sp;omega
theorem nZ_ (s:ByteArray)(i k:Nat)(hi:i<s.size)(h1:b2_ s[i]=true)(sp:bG_ aV_ (s.data.toList.drop i)=k - i)(hij:i≤k) :
  dT_ s i=if 16<k - i then (0,i) else (ft_ ((s.data.toList.drop i).take (k - i)),k):=by
 have hw:(bl_ s[i] || a4_ s[i])=true:=h1;have e:a5_ (s.data.toList.drop i)=if 16<k - i then (0,0) else (ft_ ((s.data.toList.drop i).take (k - i)),k - i):=by
  unfold a5_;rw[cy_ s i hi,List.headD_cons,if_pos hw,← cy_ s i hi,sp]
 unfold dT_;rw[e]
 by_cases c:16<k - i
 ·simp[c]
 ·have hpos:k - i≠0:=by
   rw[← sp,cy_ s i hi];have hin:aV_ s[i]=true:=by unfold aV_;rw[hw];rfl
   simp[bG_,hin]
  simp only[if_neg c,if_neg hpos];rw[show i+(k - i)=k by omega]
theorem pP_ (s:ByteArray)(i:Nat)(w:World)(hs:s.size≤maxLen)(hi:i<s.size)(h1:b2_ s[i]=true) :
  Calls Tryz.prog 94 #[.string s,.int .i64 i] w fun e w'=>e=.returned (.tuple #[.int .i64 (dT_ s i).1,.int .i64 (dT_ s i).2])∧w=w':=by
 unfold maxLen at hs;go_enter Tryz.func94,Tryz.ntmps94;go_wp2_with fail;refine (ar_ _ _).mono ?_;rw[h1];rintro e w' ⟨rfl,rfl⟩;go_wp2
 go_loop [7] (fun k=>∃ j:Nat,i≤j∧j≤s.size∧k=.int .i64 j∧Run aV_ s i j) (fun k=>s.size - (intOf k).toNat)
 case atStart=>exact⟨i,Nat.le_refl _,by omega,rfl,fun _ _ _ _=>by omega⟩
 case round =>
  obtain⟨k,hij,hk,rfl,hrun⟩:=hrel;have R:=Lib.hid hrun;clear hrun
  by_cases hlt:k<s.size
  ·cases hl:b2_ s[k]
   ·cases hd:aH_ s[k]
    ·by_cases c95:s[k]=95
     ·have f95:=bX_ 95 95 c95 rfl
      have RN:=Lib.hid (R.out.step hlt (by unfold aV_;rw[show (bl_ s[k] || a4_ s[k])=false from hl,hd];simp[c95]));clear c95;go_wp2_with (first|(go_at_call 130;refine (ar_ _ _).mono ?_;(first|rw[hl]|rw[h1]);rintro e w' ⟨rfl,rfl⟩)|(go_at_call 131;refine (as_ _ _).mono ?_;(first|rw[hd]|rw[h3]);rintro e w' ⟨rfl,rfl⟩));go_round
      case rel=>exact⟨k+1,by omega,by omega,by go_num,RN.out⟩
      case measure=>simp[intOf];omega
     ·have f95:=bD_ 95 95 c95 rfl
      have sp:=R.out.stop hij hlt (by unfold aV_;rw[show (bl_ s[k] || a4_ s[k])=false from hl,hd];simp;exact fun h=>c95 (UInt8.toNat_inj.1 h));have en:=nZ_ s i k hi h1 sp hij;have hpos:=k1_ s i k hi h1 sp;clear c95 sp
      by_cases c16:16<k - i
      ·rw[if_pos c16] at en
       have EN:=Lib.hid en;clear en;go_wp2_with (first|(go_at_call 130;refine (ar_ _ _).mono ?_;(first|rw[hl]|rw[h1]);rintro e w' ⟨rfl,rfl⟩)|(go_at_call 131;refine (as_ _ _).mono ?_;(first|rw[hd]|rw[h3]);rintro e w' ⟨rfl,rfl⟩));go_ret2;exact⟨aJ_ EN.out,rfl⟩
      rw[if_neg c16] at en;have EN:=Lib.hid en;clear en;have c16':(k:Int) - (i:Int)≤16:=(by omega);clear c16
      by_cases q0:((s.extract i k).toList==[100,97,116,97])=true
      ·have K:=bP_ q0 (by decide)
       rw[a2_ s i k] at K;rw[K] at EN;clear K;go_wp2_with (first|(go_at_call 130;refine (ar_ _ _).mono ?_;(first|rw[hl]|rw[h1]);rintro e w' ⟨rfl,rfl⟩)|(go_at_call 131;refine (as_ _ _).mono ?_;(first|rw[hd]|rw[h3]);rintro e w' ⟨rfl,rfl⟩));go_ret2;exact⟨aJ_ EN.out,rfl⟩
      have p0:((s.extract i k).toList==[100,97,116,97])=false:=by simpa using q0
      clear q0
      by_cases q1:((s.extract i k).toList==[108,101,116])=true
      ·have K:=bP_ q1 (by decide)
       rw[a2_ s i k] at K;rw[K] at EN;clear K;go_wp2_with (first|(go_at_call 130;refine (ar_ _ _).mono ?_;(first|rw[hl]|rw[h1]);rintro e w' ⟨rfl,rfl⟩)|(go_at_call 131;refine (as_ _ _).mono ?_;(first|rw[hd]|rw[h3]);rintro e w' ⟨rfl,rfl⟩));go_ret2;exact⟨aJ_ EN.out,rfl⟩
      have p1:((s.extract i k).toList==[108,101,116])=false:=by simpa using q1
      clear q1
      by_cases q2:((s.extract i k).toList==[105,110])=true
      ·have K:=bP_ q2 (by decide)
       rw[a2_ s i k] at K;rw[K] at EN;clear K;go_wp2_with (first|(go_at_call 130;refine (ar_ _ _).mono ?_;(first|rw[hl]|rw[h1]);rintro e w' ⟨rfl,rfl⟩)|(go_at_call 131;refine (as_ _ _).mono ?_;(first|rw[hd]|rw[h3]);rintro e w' ⟨rfl,rfl⟩));go_ret2;exact⟨aJ_ EN.out,rfl⟩
      have p2:((s.extract i k).toList==[105,110])=false:=by simpa using q2
      clear q2
      by_cases q3:((s.extract i k).toList==[99,97,115,101])=true
      ·have K:=bP_ q3 (by decide)
       rw[a2_ s i k] at K;rw[K] at EN;clear K;go_wp2_with (first|(go_at_call 130;refine (ar_ _ _).mono ?_;(first|rw[hl]|rw[h1]);rintro e w' ⟨rfl,rfl⟩)|(go_at_call 131;refine (as_ _ _).mono ?_;(first|rw[hd]|rw[h3]);rintro e w' ⟨rfl,rfl⟩));go_ret2;exact⟨aJ_ EN.out,rfl⟩
      have p3:((s.extract i k).toList==[99,97,115,101])=false:=by simpa using q3
      clear q3
      by_cases q4:((s.extract i k).toList==[111,102])=true
      ·have K:=bP_ q4 (by decide)
       rw[a2_ s i k] at K;rw[K] at EN;clear K;go_wp2_with (first|(go_at_call 130;refine (ar_ _ _).mono ?_;(first|rw[hl]|rw[h1]);rintro e w' ⟨rfl,rfl⟩)|(go_at_call 131;refine (as_ _ _).mono ?_;(first|rw[hd]|rw[h3]);rintro e w' ⟨rfl,rfl⟩));go_ret2;exact⟨aJ_ EN.out,rfl⟩
      have p4:((s.extract i k).toList==[111,102])=false:=by simpa using q4
      clear q4
      by_cases q5:((s.extract i k).toList==[102,111,114,97,108,108])=true
      ·have K:=bP_ q5 (by decide)
       rw[a2_ s i k] at K;rw[K] at EN;clear K;go_wp2_with (first|(go_at_call 130;refine (ar_ _ _).mono ?_;(first|rw[hl]|rw[h1]);rintro e w' ⟨rfl,rfl⟩)|(go_at_call 131;refine (as_ _ _).mono ?_;(first|rw[hd]|rw[h3]);rintro e w' ⟨rfl,rfl⟩));go_ret2;exact⟨aJ_ EN.out,rfl⟩
      have p5:((s.extract i k).toList==[102,111,114,97,108,108])=false:=by simpa using q5
      clear q5;have kw:=fZ_ p0 p1 p2 p3 p4 p5 (by rw[ByteArray.size_extract];omega);rw[a2_ s i k,fz_ s i k hpos (by omega),kT_ s[i] h1] at kw;cases hle:decide ((s[i].toNat:Int)≤90)
      all_goals
       rw[hle] at kw;rw[kw] at EN;clear kw;go_wp2_with (first|(go_at_call 130;refine (ar_ _ _).mono ?_;(first|rw[hl]|rw[h1]);rintro e w' ⟨rfl,rfl⟩)|(go_at_call 131;refine (as_ _ _).mono ?_;(first|rw[hd]|rw[h3]);rintro e w' ⟨rfl,rfl⟩));go_ret2;exact⟨aJ_ EN.out,rfl⟩
    ·have RN:=Lib.hid (R.out.step hlt (by unfold aV_;rw[hd];simp))
     go_wp2_with (first|(go_at_call 130;refine (ar_ _ _).mono ?_;(first|rw[hl]|rw[h1]);rintro e w' ⟨rfl,rfl⟩)|(go_at_call 131;refine (as_ _ _).mono ?_;(first|rw[hd]|rw[h3]);rintro e w' ⟨rfl,rfl⟩));go_round
     case rel=>exact⟨k+1,by omega,by omega,by go_num,RN.out⟩
     case measure=>simp[intOf];omega
   ·have RN:=Lib.hid (R.out.step hlt (by unfold aV_;rw[show (bl_ s[k] || a4_ s[k])=true from hl];simp))
    go_wp2_with (first|(go_at_call 130;refine (ar_ _ _).mono ?_;(first|rw[hl]|rw[h1]);rintro e w' ⟨rfl,rfl⟩)|(go_at_call 131;refine (as_ _ _).mono ?_;(first|rw[hd]|rw[h3]);rintro e w' ⟨rfl,rfl⟩));go_round
    case rel=>exact⟨k+1,by omega,by omega,by go_num,RN.out⟩
    case measure=>simp[intOf];omega
  ·have sp:=R.out.full hij (by omega)
   have en:=nZ_ s i k hi h1 sp hij;have hpos:=k1_ s i k hi h1 sp;clear sp
   by_cases c16:16<k - i
   ·rw[if_pos c16] at en
    have EN:=Lib.hid en;clear en;go_wp2_with (first|(go_at_call 130;refine (ar_ _ _).mono ?_;(first|rw[hl]|rw[h1]);rintro e w' ⟨rfl,rfl⟩)|(go_at_call 131;refine (as_ _ _).mono ?_;(first|rw[hd]|rw[h3]);rintro e w' ⟨rfl,rfl⟩));go_ret2;exact⟨aJ_ EN.out,rfl⟩
   rw[if_neg c16] at en;have EN:=Lib.hid en;clear en;have c16':(k:Int) - (i:Int)≤16:=(by omega);clear c16
   by_cases q0:((s.extract i k).toList==[100,97,116,97])=true
   ·have K:=bP_ q0 (by decide)
    rw[a2_ s i k] at K;rw[K] at EN;clear K;go_wp2_with (first|(go_at_call 130;refine (ar_ _ _).mono ?_;(first|rw[hl]|rw[h1]);rintro e w' ⟨rfl,rfl⟩)|(go_at_call 131;refine (as_ _ _).mono ?_;(first|rw[hd]|rw[h3]);rintro e w' ⟨rfl,rfl⟩));go_ret2;exact⟨aJ_ EN.out,rfl⟩
   have p0:((s.extract i k).toList==[100,97,116,97])=false:=by simpa using q0
   clear q0
   by_cases q1:((s.extract i k).toList==[108,101,116])=true
   ·have K:=bP_ q1 (by decide)
    rw[a2_ s i k] at K;rw[K] at EN;clear K;go_wp2_with (first|(go_at_call 130;refine (ar_ _ _).mono ?_;(first|rw[hl]|rw[h1]);rintro e w' ⟨rfl,rfl⟩)|(go_at_call 131;refine (as_ _ _).mono ?_;(first|rw[hd]|rw[h3]);rintro e w' ⟨rfl,rfl⟩));go_ret2;exact⟨aJ_ EN.out,rfl⟩
   have p1:((s.extract i k).toList==[108,101,116])=false:=by simpa using q1
   clear q1
   by_cases q2:((s.extract i k).toList==[105,110])=true
   ·have K:=bP_ q2 (by decide)
    rw[a2_ s i k] at K;rw[K] at EN;clear K;go_wp2_with (first|(go_at_call 130;refine (ar_ _ _).mono ?_;(first|rw[hl]|rw[h1]);rintro e w' ⟨rfl,rfl⟩)|(go_at_call 131;refine (as_ _ _).mono ?_;(first|rw[hd]|rw[h3]);rintro e w' ⟨rfl,rfl⟩));go_ret2;exact⟨aJ_ EN.out,rfl⟩
   have p2:((s.extract i k).toList==[105,110])=false:=by simpa using q2
   clear q2
   by_cases q3:((s.extract i k).toList==[99,97,115,101])=true
   ·have K:=bP_ q3 (by decide)
    rw[a2_ s i k] at K;rw[K] at EN;clear K;go_wp2_with (first|(go_at_call 130;refine (ar_ _ _).mono ?_;(first|rw[hl]|rw[h1]);rintro e w' ⟨rfl,rfl⟩)|(go_at_call 131;refine (as_ _ _).mono ?_;(first|rw[hd]|rw[h3]);rintro e w' ⟨rfl,rfl⟩));go_ret2;exact⟨aJ_ EN.out,rfl⟩
   have p3:((s.extract i k).toList==[99,97,115,101])=false:=by simpa using q3
   clear q3
   by_cases q4:((s.extract i k).toList==[111,102])=true
   ·have K:=bP_ q4 (by decide)
    rw[a2_ s i k] at K;rw[K] at EN;clear K;go_wp2_with (first|(go_at_call 130;refine (ar_ _ _).mono ?_;(first|rw[hl]|rw[h1]);rintro e w' ⟨rfl,rfl⟩)|(go_at_call 131;refine (as_ _ _).mono ?_;(first|rw[hd]|rw[h3]);rintro e w' ⟨rfl,rfl⟩));go_ret2;exact⟨aJ_ EN.out,rfl⟩
   have p4:((s.extract i k).toList==[111,102])=false:=by simpa using q4
   clear q4
   by_cases q5:((s.extract i k).toList==[102,111,114,97,108,108])=true
   ·have K:=bP_ q5 (by decide)
    rw[a2_ s i k] at K;rw[K] at EN;clear K;go_wp2_with (first|(go_at_call 130;refine (ar_ _ _).mono ?_;(first|rw[hl]|rw[h1]);rintro e w' ⟨rfl,rfl⟩)|(go_at_call 131;refine (as_ _ _).mono ?_;(first|rw[hd]|rw[h3]);rintro e w' ⟨rfl,rfl⟩));go_ret2;exact⟨aJ_ EN.out,rfl⟩
   have p5:((s.extract i k).toList==[102,111,114,97,108,108])=false:=by simpa using q5
   clear q5;have kw:=fZ_ p0 p1 p2 p3 p4 p5 (by rw[ByteArray.size_extract];omega);rw[a2_ s i k,fz_ s i k hpos (by omega),kT_ s[i] h1] at kw;cases hle:decide ((s[i].toNat:Int)≤90)
   all_goals
    rw[hle] at kw;rw[kw] at EN;clear kw;go_wp2_with (first|(go_at_call 130;refine (ar_ _ _).mono ?_;(first|rw[hl]|rw[h1]);rintro e w' ⟨rfl,rfl⟩)|(go_at_call 131;refine (as_ _ _).mono ?_;(first|rw[hd]|rw[h3]);rintro e w' ⟨rfl,rfl⟩));go_ret2;exact⟨aJ_ EN.out,rfl⟩
theorem gH_ (s:ByteArray)(i:Nat)(hi:i<s.size):a5_ (s.data.toList.drop i) =
 if b2_ s[i] then
  if 16<bG_ aV_ (s.data.toList.drop i) then (0,0) else (ft_ ((s.data.toList.drop i).take (bG_ aV_ (s.data.toList.drop i))),bG_ aV_ (s.data.toList.drop i))
 else if aH_ s[i] then (4,aT_ (s.data.toList.drop i))
 else if s[i]=63 then (if aT_ (s.data.toList.drop (i+1))=0 then (0,0) else (5,aT_ (s.data.toList.drop (i+1))+1))
 else if [45,62].isPrefixOf (s.data.toList.drop i) || [124,62].isPrefixOf (s.data.toList.drop i) then (6,2)
 else if fR_ s[i] then (6,1)
 else (0,0):=by
  unfold a5_;have e:(s.data.toList.drop i).headD 0=s[i]:=by rw[cy_ s i hi];rfl
  rw[e,List.drop_drop];rfl
theorem r6_ (s:ByteArray)(i:Nat)(w:World)(hs:s.size≤maxLen)(hi:i<s.size)(h1:b2_ s[i]=false)(h3:aH_ s[i]=true) :
  Calls Tryz.prog 94 #[.string s,.int .i64 i] w fun e w'=>e=.returned (.tuple #[.int .i64 (dT_ s i).1,.int .i64 (dT_ s i).2])∧w=w':=by
 have hs':=hs;have hn':i≤s.size:=by omega
 have ho:dT_ s i=if aT_ (s.data.toList.drop i)=0 then (0,i) else (4,i+aT_ (s.data.toList.drop i)):=by
  unfold dT_;rw[gH_ s i hi,h1,h3];rfl
 have hle:i+aT_ (s.data.toList.drop i)≤s.size:=by
  have:=Lx.fW_ (s.data.toList.drop i);simp at this;omega
 unfold maxLen at hs;generalize hk:aT_ (s.data.toList.drop i)=k at *;have HK:=Lib.hid hk;have HO:=Lib.hid ho;clear hk ho
 by_cases c:k=0
 ·subst c
  go_enter Tryz.func94,Tryz.ntmps94;go_wp2_with (first|(go_at_call 130;refine (ar_ _ _).mono ?_;(first|rw[hl]|rw[h1]);rintro e w' ⟨rfl,rfl⟩)|(go_at_call 131;refine (as_ _ _).mono ?_;(first|rw[hd]|rw[h3]);rintro e w' ⟨rfl,rfl⟩)|(go_at_call 132;refine (e4_ _ _ _ hs' hn').mono ?_;rw[HK.out];rintro e w' ⟨rfl,rfl⟩));go_ret2;exact⟨aJ_ (by rw[HO.out];rfl),rfl⟩
 ·have cb:(((i+k:Nat):Int)==(i:Int))=false:=by simp;omega
  have c2:(((i:Int)+(k:Int))==(i:Int))=false:=by simp;omega
  go_enter Tryz.func94,Tryz.ntmps94;go_wp2_with (first|(go_at_call 130;refine (ar_ _ _).mono ?_;(first|rw[hl]|rw[h1]);rintro e w' ⟨rfl,rfl⟩)|(go_at_call 131;refine (as_ _ _).mono ?_;(first|rw[hd]|rw[h3]);rintro e w' ⟨rfl,rfl⟩)|(go_at_call 132;refine (e4_ _ _ _ hs' hn').mono ?_;rw[HK.out];rintro e w' ⟨rfl,rfl⟩));go_ret2;exact⟨aJ_ (by rw[HO.out,if_neg c]),rfl⟩
theorem pQ_ (s:ByteArray)(i:Nat)(w:World)(hs:s.size≤maxLen)(hi:i<s.size)(h1:b2_ s[i]=false)(h3:aH_ s[i]=false)(h4:s[i]=63) :
  Calls Tryz.prog 94 #[.string s,.int .i64 i] w fun e w'=>e=.returned (.tuple #[.int .i64 (dT_ s i).1,.int .i64 (dT_ s i).2])∧w=w':=by
 have ho:dT_ s i=if aT_ (s.data.toList.drop (i+1))=0 then (0,i) else (5,i+1+aT_ (s.data.toList.drop (i+1))):=by
  unfold dT_;rw[gH_ s i hi,h1,h3];simp only[Bool.false_eq_true,if_false,if_pos h4]
  by_cases c:aT_ (s.data.toList.drop (i+1))=0
  ·simp[c]
  ·simp[c];omega
 have hle:i+1+aT_ (s.data.toList.drop (i+1))≤s.size:=by
  have:=Lx.fW_ (s.data.toList.drop (i+1));simp at this;omega
 have f4:=bX_ 63 63 h4 rfl;have nm:=fun w=>e4_ s (i+1) w hs (by omega);unfold maxLen at hs;generalize hk:aT_ (s.data.toList.drop (i+1))=k at *;have NM:=Lib.hid nm;have HO:=Lib.hid ho;clear hk ho h4 nm
 by_cases c:k=0
 ·subst c
  have c2:((i:Int)+1==(i:Int)+1)=true:=by simp
  go_enter Tryz.func94,Tryz.ntmps94;go_wp2_with (first|(go_at_call 130;refine (ar_ _ _).mono ?_;(first|rw[hl]|rw[h1]);rintro e w' ⟨rfl,rfl⟩)|(go_at_call 131;refine (as_ _ _).mono ?_;(first|rw[hd]|rw[h3]);rintro e w' ⟨rfl,rfl⟩)|(go_at_call 132;rw[show ((i:Int)+1)=((i+1:Nat):Int) by omega];refine (NM.out _).mono ?_;rintro e w' ⟨rfl,rfl⟩));go_ret2;exact⟨aJ_ (by rw[HO.out];rfl),rfl⟩
 ·have c2:(((i:Int)+1+(k:Int))==(i:Int)+1)=false:=by simp;omega
  go_enter Tryz.func94,Tryz.ntmps94;go_wp2_with (first|(go_at_call 130;refine (ar_ _ _).mono ?_;(first|rw[hl]|rw[h1]);rintro e w' ⟨rfl,rfl⟩)|(go_at_call 131;refine (as_ _ _).mono ?_;(first|rw[hd]|rw[h3]);rintro e w' ⟨rfl,rfl⟩)|(go_at_call 132;rw[show ((i:Int)+1)=((i+1:Nat):Int) by omega];refine (NM.out _).mono ?_;rintro e w' ⟨rfl,rfl⟩));go_ret2;exact⟨aJ_ (by rw[HO.out,if_neg c]),rfl⟩
end Go.Proofs.YtjecnionbjlncaaGreatDoor

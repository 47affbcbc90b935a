/- Packed. -/
import Derived.Test.YtkihnodkhnahiaaGreatDoorP34
import Derived.Test.YtkihnodkhnahiaaGreatDoorP30
set_option maxRecDepth 100000
set_option maxHeartbeats 6400000
namespace Go.Proofs.YtkihnodkhnahiaaGreatDoor
open Go.RowKit
open Lx
theorem aG_ {p:Nat × Nat}{a b:Nat}(h:p=(a,b)):Ending.returned (.tuple #[.int .i64 a,.int .i64 b])=.returned (.tuple #[.int .i64 p.1,.int .i64 p.2]):=by rw[h]
def ek_ (s:ByteArray)(i:Nat):Nat × Nat :=
 if (aN_ (s.data.toList.drop i)).2=0 then (0,i) else ((aN_ (s.data.toList.drop i)).1,i+(aN_ (s.data.toList.drop i)).2)
theorem a7_ (s:ByteArray)(i k:Nat):(s.extract i k).data.toList=(s.data.toList.drop i).take (k - i):=by simp
theorem fI_ (s:ByteArray)(i k:Nat)(h:i<k)(hk:k≤s.size):(s.extract i k)[0]'(by rw[ByteArray.size_extract];omega)=s[i]:=by
 rw[← iA_,a7_,cO_ s i (by omega),show k - i=(k - i - 1)+1 by omega];rfl
theorem kH_ (c:UInt8)(h:cb_ c=true):a5_ c=decide ((c.toNat:Int)≤90):=by
 simp only[cb_,a8_,a5_,Bool.or_eq_true,decide_eq_true_eq] at *;rw[decide_eq_decide];omega
theorem kM_ (s:ByteArray)(i k:Nat)(hi:i<s.size)(h1:cb_ s[i]=true)(sp:bA_ aV_ (s.data.toList.drop i)=k - i):i<k:=by
 have hw:(a8_ s[i] || a5_ s[i])=true:=h1;have hin:aV_ s[i]=true:=by unfold aV_;rw[hw];rfl
 rw[cO_ s i hi] at sp;simp[bA_,hin] at sp;omega
theorem nG_ (s:ByteArray)(i k:Nat)(hi:i<s.size)(h1:cb_ s[i]=true)(sp:bA_ aV_ (s.data.toList.drop i)=k - i)(hij:i≤k) :
  ek_ s i=if 16<k - i then (0,i) else (eF_ ((s.data.toList.drop i).take (k - i)),k):=by
 have hw:(a8_ s[i] || a5_ s[i])=true:=h1;have e:aN_ (s.data.toList.drop i)=if 16<k - i then (0,0) else (eF_ ((s.data.toList.drop i).take (k - i)),k - i):=by
  unfold aN_;rw[cO_ s i hi,List.headD_cons,if_pos hw,← cO_ s i hi,sp]
 unfold ek_;rw[e]
 by_cases c:16<k - i
 ·simp[c]
 ·have hpos:k - i≠0:=by
   rw[← sp,cO_ s i hi];have hin:aV_ s[i]=true:=by unfold aV_;rw[hw];rfl
   simp[bA_,hin]
  simp only[if_neg c,if_neg hpos];rw[show i+(k - i)=k by omega]
theorem pu_ (s:ByteArray)(i:Nat)(w:World)(hs:s.size≤maxLen)(hi:i<s.size)(h1:cb_ s[i]=true) :
  Calls Tryz.prog 78 #[.string s,.int .i64 i] w fun e w'=>e=.returned (.tuple #[.int .i64 (ek_ s i).1,.int .i64 (ek_ s i).2])∧w=w':=by
 unfold maxLen at hs;go_enter Tryz.func78,Tryz.ntmps78;go_wp2_with fail;refine (aq_ _ _).mono ?_;rw[h1];rintro e w' ⟨rfl,rfl⟩;go_wp2
 go_loop [7] (fun k=>∃ j:Nat,i≤j∧j≤s.size∧k=.int .i64 j∧Run aV_ s i j) (fun k=>s.size - (intOf k).toNat)
 case atStart=>exact⟨i,Nat.le_refl _,by omega,rfl,fun _ _ _ _=>by omega⟩
 case round =>
  obtain⟨k,hij,hk,rfl,hrun⟩:=hrel;have R:=Lib.hid hrun;clear hrun
  by_cases hlt:k<s.size
  ·cases hl:cb_ s[k]
   ·cases hd:aA_ s[k]
    ·by_cases c95:s[k]=95
     ·have f95:=b1_ 95 95 c95 rfl
      have RN:=Lib.hid (R.out.step hlt (by unfold aV_;rw[show (a8_ s[k] || a5_ s[k])=false from hl,hd];simp[c95]));clear c95;go_wp2_with (first|(go_at_call 99;refine (aq_ _ _).mono ?_;(first|rw[hl]|rw[h1]);rintro e w' ⟨rfl,rfl⟩)|(go_at_call 100;refine (ar_ _ _).mono ?_;(first|rw[hd]|rw[h3]);rintro e w' ⟨rfl,rfl⟩));go_round
      case rel=>exact⟨k+1,by omega,by omega,by go_num,RN.out⟩
      case measure=>simp[intOf];omega
     ·have f95:=by_ 95 95 c95 rfl
      have sp:=R.out.stop hij hlt (by unfold aV_;rw[show (a8_ s[k] || a5_ s[k])=false from hl,hd];simp;exact fun h=>c95 (UInt8.toNat_inj.1 h));have en:=nG_ s i k hi h1 sp hij;have hpos:=kM_ s i k hi h1 sp;clear c95 sp
      by_cases c16:16<k - i
      ·rw[if_pos c16] at en
       have EN:=Lib.hid en;clear en;go_wp2_with (first|(go_at_call 99;refine (aq_ _ _).mono ?_;(first|rw[hl]|rw[h1]);rintro e w' ⟨rfl,rfl⟩)|(go_at_call 100;refine (ar_ _ _).mono ?_;(first|rw[hd]|rw[h3]);rintro e w' ⟨rfl,rfl⟩));go_ret2;exact⟨aG_ EN.out,rfl⟩
      rw[if_neg c16] at en;have EN:=Lib.hid en;clear en;have c16':(k:Int) - (i:Int)≤16:=(by omega);clear c16
      by_cases q0:((s.extract i k).toList==[100,97,116,97])=true
      ·have K:=bL_ q0 (by decide)
       rw[a7_ s i k] at K;rw[K] at EN;clear K;go_wp2_with (first|(go_at_call 99;refine (aq_ _ _).mono ?_;(first|rw[hl]|rw[h1]);rintro e w' ⟨rfl,rfl⟩)|(go_at_call 100;refine (ar_ _ _).mono ?_;(first|rw[hd]|rw[h3]);rintro e w' ⟨rfl,rfl⟩));go_ret2;exact⟨aG_ EN.out,rfl⟩
      have p0:((s.extract i k).toList==[100,97,116,97])=false:=by simpa using q0
      clear q0
      by_cases q1:((s.extract i k).toList==[108,101,116])=true
      ·have K:=bL_ q1 (by decide)
       rw[a7_ s i k] at K;rw[K] at EN;clear K;go_wp2_with (first|(go_at_call 99;refine (aq_ _ _).mono ?_;(first|rw[hl]|rw[h1]);rintro e w' ⟨rfl,rfl⟩)|(go_at_call 100;refine (ar_ _ _).mono ?_;(first|rw[hd]|rw[h3]);rintro e w' ⟨rfl,rfl⟩));go_ret2;exact⟨aG_ EN.out,rfl⟩
      have p1:((s.extract i k).toList==[108,101,116])=false:=by simpa using q1
      clear q1
      by_cases q2:((s.extract i k).toList==[105,110])=true
      ·have K:=bL_ q2 (by decide)
       rw[a7_ s i k] at K;rw[K] at EN;clear K;go_wp2_with (first|(go_at_call 99;refine (aq_ _ _).mono ?_;(first|rw[hl]|rw[h1]);rintro e w' ⟨rfl,rfl⟩)|(go_at_call 100;refine (ar_ _ _).mono ?_;(first|rw[hd]|rw[h3]);rintro e w' ⟨rfl,rfl⟩));go_ret2;exact⟨aG_ EN.out,rfl⟩
      have p2:((s.extract i k).toList==[105,110])=false:=by simpa using q2
      clear q2
      by_cases q3:((s.extract i k).toList==[99,97,115,101])=true
      ·have K:=bL_ q3 (by decide)
       rw[a7_ s i k] at K;rw[K] at EN;clear K;go_wp2_with (first|(go_at_call 99;refine (aq_ _ _).mono ?_;(first|rw[hl]|rw[h1]);rintro e w' ⟨rfl,rfl⟩)|(go_at_call 100;refine (ar_ _ _).mono ?_;(first|rw[hd]|rw[h3]);rintro e w' ⟨rfl,rfl⟩));go_ret2;exact⟨aG_ EN.out,rfl⟩
      have p3:((s.extract i k).toList==[99,97,115,101])=false:=by simpa using q3
      clear q3
      by_cases q4:((s.extract i k).toList==[111,102])=true
      ·have K:=bL_ q4 (by decide)
       rw[a7_ s i k] at K;rw[K] at EN;clear K;go_wp2_with (first|(go_at_call 99;refine (aq_ _ _).mono ?_;(first|rw[hl]|rw[h1]);rintro e w' ⟨rfl,rfl⟩)|(go_at_call 100;refine (ar_ _ _).mono ?_;(first|rw[hd]|rw[h3]);rintro e w' ⟨rfl,rfl⟩));go_ret2;exact⟨aG_ EN.out,rfl⟩
      have p4:((s.extract i k).toList==[111,102])=false:=by simpa using q4
      clear q4
      by_cases q5:((s.extract i k).toList==[102,111,114,97,108,108])=true
      ·have K:=bL_ q5 (by decide)
       rw[a7_ s i k] at K;rw[K] at EN;clear K;go_wp2_with (first|(go_at_call 99;refine (aq_ _ _).mono ?_;(first|rw[hl]|rw[h1]);rintro e w' ⟨rfl,rfl⟩)|(go_at_call 100;refine (ar_ _ _).mono ?_;(first|rw[hd]|rw[h3]);rintro e w' ⟨rfl,rfl⟩));go_ret2;exact⟨aG_ EN.out,rfl⟩
      have p5:((s.extract i k).toList==[102,111,114,97,108,108])=false:=by simpa using q5
      clear q5;have kw:=f6_ p0 p1 p2 p3 p4 p5 (by rw[ByteArray.size_extract];omega);rw[a7_ s i k,fI_ s i k hpos (by omega),kH_ s[i] h1] at kw;cases hle:decide ((s[i].toNat:Int)≤90)
      all_goals
       rw[hle] at kw;rw[kw] at EN;clear kw;go_wp2_with (first|(go_at_call 99;refine (aq_ _ _).mono ?_;(first|rw[hl]|rw[h1]);rintro e w' ⟨rfl,rfl⟩)|(go_at_call 100;refine (ar_ _ _).mono ?_;(first|rw[hd]|rw[h3]);rintro e w' ⟨rfl,rfl⟩));go_ret2;exact⟨aG_ EN.out,rfl⟩
    ·have RN:=Lib.hid (R.out.step hlt (by unfold aV_;rw[hd];simp))
     go_wp2_with (first|(go_at_call 99;refine (aq_ _ _).mono ?_;(first|rw[hl]|rw[h1]);rintro e w' ⟨rfl,rfl⟩)|(go_at_call 100;refine (ar_ _ _).mono ?_;(first|rw[hd]|rw[h3]);rintro e w' ⟨rfl,rfl⟩));go_round
     case rel=>exact⟨k+1,by omega,by omega,by go_num,RN.out⟩
     case measure=>simp[intOf];omega
   ·have RN:=Lib.hid (R.out.step hlt (by unfold aV_;rw[show (a8_ s[k] || a5_ s[k])=true from hl];simp))
    go_wp2_with (first|(go_at_call 99;refine (aq_ _ _).mono ?_;(first|rw[hl]|rw[h1]);rintro e w' ⟨rfl,rfl⟩)|(go_at_call 100;refine (ar_ _ _).mono ?_;(first|rw[hd]|rw[h3]);rintro e w' ⟨rfl,rfl⟩));go_round
    case rel=>exact⟨k+1,by omega,by omega,by go_num,RN.out⟩
    case measure=>simp[intOf];omega
  ·have sp:=R.out.full hij (by omega)
   have en:=nG_ s i k hi h1 sp hij;have hpos:=kM_ s i k hi h1 sp;clear sp
   by_cases c16:16<k - i
   ·rw[if_pos c16] at en
    have EN:=Lib.hid en;clear en;go_wp2_with (first|(go_at_call 99;refine (aq_ _ _).mono ?_;(first|rw[hl]|rw[h1]);rintro e w' ⟨rfl,rfl⟩)|(go_at_call 100;refine (ar_ _ _).mono ?_;(first|rw[hd]|rw[h3]);rintro e w' ⟨rfl,rfl⟩));go_ret2;exact⟨aG_ EN.out,rfl⟩
   rw[if_neg c16] at en;have EN:=Lib.hid en;clear en;have c16':(k:Int) - (i:Int)≤16:=(by omega);clear c16
   by_cases q0:((s.extract i k).toList==[100,97,116,97])=true
   ·have K:=bL_ q0 (by decide)
    rw[a7_ s i k] at K;rw[K] at EN;clear K;go_wp2_with (first|(go_at_call 99;refine (aq_ _ _).mono ?_;(first|rw[hl]|rw[h1]);rintro e w' ⟨rfl,rfl⟩)|(go_at_call 100;refine (ar_ _ _).mono ?_;(first|rw[hd]|rw[h3]);rintro e w' ⟨rfl,rfl⟩));go_ret2;exact⟨aG_ EN.out,rfl⟩
   have p0:((s.extract i k).toList==[100,97,116,97])=false:=by simpa using q0
   clear q0
   by_cases q1:((s.extract i k).toList==[108,101,116])=true
   ·have K:=bL_ q1 (by decide)
    rw[a7_ s i k] at K;rw[K] at EN;clear K;go_wp2_with (first|(go_at_call 99;refine (aq_ _ _).mono ?_;(first|rw[hl]|rw[h1]);rintro e w' ⟨rfl,rfl⟩)|(go_at_call 100;refine (ar_ _ _).mono ?_;(first|rw[hd]|rw[h3]);rintro e w' ⟨rfl,rfl⟩));go_ret2;exact⟨aG_ EN.out,rfl⟩
   have p1:((s.extract i k).toList==[108,101,116])=false:=by simpa using q1
   clear q1
   by_cases q2:((s.extract i k).toList==[105,110])=true
   ·have K:=bL_ q2 (by decide)
    rw[a7_ s i k] at K;rw[K] at EN;clear K;go_wp2_with (first|(go_at_call 99;refine (aq_ _ _).mono ?_;(first|rw[hl]|rw[h1]);rintro e w' ⟨rfl,rfl⟩)|(go_at_call 100;refine (ar_ _ _).mono ?_;(first|rw[hd]|rw[h3]);rintro e w' ⟨rfl,rfl⟩));go_ret2;exact⟨aG_ EN.out,rfl⟩
   have p2:((s.extract i k).toList==[105,110])=false:=by simpa using q2
   clear q2
   by_cases q3:((s.extract i k).toList==[99,97,115,101])=true
   ·have K:=bL_ q3 (by decide)
    rw[a7_ s i k] at K;rw[K] at EN;clear K;go_wp2_with (first|(go_at_call 99;refine (aq_ _ _).mono ?_;(first|rw[hl]|rw[h1]);rintro e w' ⟨rfl,rfl⟩)|(go_at_call 100;refine (ar_ _ _).mono ?_;(first|rw[hd]|rw[h3]);rintro e w' ⟨rfl,rfl⟩));go_ret2;exact⟨aG_ EN.out,rfl⟩
   have p3:((s.extract i k).toList==[99,97,115,101])=false:=by simpa using q3
   clear q3
   by_cases q4:((s.extract i k).toList==[111,102])=true
   ·have K:=bL_ q4 (by decide)
    rw[a7_ s i k] at K;rw[K] at EN;clear K;go_wp2_with (first|(go_at_call 99;refine (aq_ _ _).mono ?_;(first|rw[hl]|rw[h1]);rintro e w' ⟨rfl,rfl⟩)|(go_at_call 100;refine (ar_ _ _).mono ?_;(first|rw[hd]|rw[h3]);rintro e w' ⟨rfl,rfl⟩));go_ret2;exact⟨aG_ EN.out,rfl⟩
   have p4:((s.extract i k).toList==[111,102])=false:=by simpa using q4
   clear q4
   by_cases q5:((s.extract i k).toList==[102,111,114,97,108,108])=true
   ·have K:=bL_ q5 (by decide)
    rw[a7_ s i k] at K;rw[K] at EN;clear K;go_wp2_with (first|(go_at_call 99;refine (aq_ _ _).mono ?_;(first|rw[hl]|rw[h1]);rintro e w' ⟨rfl,rfl⟩)|(go_at_call 100;refine (ar_ _ _).mono ?_;(first|rw[hd]|rw[h3]);rintro e w' ⟨rfl,rfl⟩));go_ret2;exact⟨aG_ EN.out,rfl⟩
   have p5:((s.extract i k).toList==[102,111,114,97,108,108])=false:=by simpa using q5
   clear q5;have kw:=f6_ p0 p1 p2 p3 p4 p5 (by rw[ByteArray.size_extract];omega);rw[a7_ s i k,fI_ s i k hpos (by omega),kH_ s[i] h1] at kw;cases hle:decide ((s[i].toNat:Int)≤90)
   all_goals
    rw[hle] at kw;rw[kw] at EN;clear kw;go_wp2_with (first|(go_at_call 99;refine (aq_ _ _).mono ?_;(first|rw[hl]|rw[h1]);rintro e w' ⟨rfl,rfl⟩)|(go_at_call 100;refine (ar_ _ _).mono ?_;(first|rw[hd]|rw[h3]);rintro e w' ⟨rfl,rfl⟩));go_ret2;exact⟨aG_ EN.out,rfl⟩
theorem gE_ (s:ByteArray)(i:Nat)(hi:i<s.size):aN_ (s.data.toList.drop i) =
 if cb_ s[i] then
  if 16<bA_ aV_ (s.data.toList.drop i) then (0,0) else (eF_ ((s.data.toList.drop i).take (bA_ aV_ (s.data.toList.drop i))),bA_ aV_ (s.data.toList.drop i))
 else if aA_ s[i] then (4,aR_ (s.data.toList.drop i))
 else if s[i]=63 then (if aR_ (s.data.toList.drop (i+1))=0 then (0,0) else (5,aR_ (s.data.toList.drop (i+1))+1))
 else if [45,62].isPrefixOf (s.data.toList.drop i) || [124,62].isPrefixOf (s.data.toList.drop i) then (6,2)
 else if fW_ s[i] then (6,1)
 else (0,0):=by
  unfold aN_;have e:(s.data.toList.drop i).headD 0=s[i]:=by rw[cO_ s i hi];rfl
  rw[e,List.drop_drop];rfl
theorem rb_ (s:ByteArray)(i:Nat)(w:World)(hs:s.size≤maxLen)(hi:i<s.size)(h1:cb_ s[i]=false)(h3:aA_ s[i]=true) :
  Calls Tryz.prog 78 #[.string s,.int .i64 i] w fun e w'=>e=.returned (.tuple #[.int .i64 (ek_ s i).1,.int .i64 (ek_ s i).2])∧w=w':=by
 have hs':=hs;have hn':i≤s.size:=by omega
 have ho:ek_ s i=if aR_ (s.data.toList.drop i)=0 then (0,i) else (4,i+aR_ (s.data.toList.drop i)):=by
  unfold ek_;rw[gE_ s i hi,h1,h3];rfl
 have hle:i+aR_ (s.data.toList.drop i)≤s.size:=by
  have:=Lx.f4_ (s.data.toList.drop i);simp at this;omega
 unfold maxLen at hs;generalize hk:aR_ (s.data.toList.drop i)=k at *;have HK:=Lib.hid hk;have HO:=Lib.hid ho;clear hk ho
 by_cases c:k=0
 ·subst c
  go_enter Tryz.func78,Tryz.ntmps78;go_wp2_with (first|(go_at_call 99;refine (aq_ _ _).mono ?_;(first|rw[hl]|rw[h1]);rintro e w' ⟨rfl,rfl⟩)|(go_at_call 100;refine (ar_ _ _).mono ?_;(first|rw[hd]|rw[h3]);rintro e w' ⟨rfl,rfl⟩)|(go_at_call 101;refine (fj_ _ _ _ hs' hn').mono ?_;rw[HK.out];rintro e w' ⟨rfl,rfl⟩));go_ret2;exact⟨aG_ (by rw[HO.out];rfl),rfl⟩
 ·have cb:(((i+k:Nat):Int)==(i:Int))=false:=by simp;omega
  have c2:(((i:Int)+(k:Int))==(i:Int))=false:=by simp;omega
  go_enter Tryz.func78,Tryz.ntmps78;go_wp2_with (first|(go_at_call 99;refine (aq_ _ _).mono ?_;(first|rw[hl]|rw[h1]);rintro e w' ⟨rfl,rfl⟩)|(go_at_call 100;refine (ar_ _ _).mono ?_;(first|rw[hd]|rw[h3]);rintro e w' ⟨rfl,rfl⟩)|(go_at_call 101;refine (fj_ _ _ _ hs' hn').mono ?_;rw[HK.out];rintro e w' ⟨rfl,rfl⟩));go_ret2;exact⟨aG_ (by rw[HO.out,if_neg c]),rfl⟩
theorem pv_ (s:ByteArray)(i:Nat)(w:World)(hs:s.size≤maxLen)(hi:i<s.size)(h1:cb_ s[i]=false)(h3:aA_ s[i]=false)(h4:s[i]=63) :
  Calls Tryz.prog 78 #[.string s,.int .i64 i] w fun e w'=>e=.returned (.tuple #[.int .i64 (ek_ s i).1,.int .i64 (ek_ s i).2])∧w=w':=by
 have ho:ek_ s i=if aR_ (s.data.toList.drop (i+1))=0 then (0,i) else (5,i+1+aR_ (s.data.toList.drop (i+1))):=by
  unfold ek_;rw[gE_ s i hi,h1,h3];simp only[Bool.false_eq_true,if_false,if_pos h4]
  by_cases c:aR_ (s.data.toList.drop (i+1))=0
  ·simp[c]
  ·simp[c];omega
 have hle:i+1+aR_ (s.data.toList.drop (i+1))≤s.size:=by
  have:=Lx.f4_ (s.data.toList.drop (i+1));simp at this;omega
 have f4:=b1_ 63 63 h4 rfl;have nm:=fun w=>fj_ s (i+1) w hs (by omega);unfold maxLen at hs;generalize hk:aR_ (s.data.toList.drop (i+1))=k at *;have NM:=Lib.hid nm;have HO:=Lib.hid ho;clear hk ho h4 nm
 by_cases c:k=0
 ·subst c
  have c2:((i:Int)+1==(i:Int)+1)=true:=by simp
  go_enter Tryz.func78,Tryz.ntmps78;go_wp2_with (first|(go_at_call 99;refine (aq_ _ _).mono ?_;(first|rw[hl]|rw[h1]);rintro e w' ⟨rfl,rfl⟩)|(go_at_call 100;refine (ar_ _ _).mono ?_;(first|rw[hd]|rw[h3]);rintro e w' ⟨rfl,rfl⟩)|(go_at_call 101;rw[show ((i:Int)+1)=((i+1:Nat):Int) by omega];refine (NM.out _).mono ?_;rintro e w' ⟨rfl,rfl⟩));go_ret2;exact⟨aG_ (by rw[HO.out];rfl),rfl⟩
 ·have c2:(((i:Int)+1+(k:Int))==(i:Int)+1)=false:=by simp;omega
  go_enter Tryz.func78,Tryz.ntmps78;go_wp2_with (first|(go_at_call 99;refine (aq_ _ _).mono ?_;(first|rw[hl]|rw[h1]);rintro e w' ⟨rfl,rfl⟩)|(go_at_call 100;refine (ar_ _ _).mono ?_;(first|rw[hd]|rw[h3]);rintro e w' ⟨rfl,rfl⟩)|(go_at_call 101;rw[show ((i:Int)+1)=((i+1:Nat):Int) by omega];refine (NM.out _).mono ?_;rintro e w' ⟨rfl,rfl⟩));go_ret2;exact⟨aG_ (by rw[HO.out,if_neg c]),rfl⟩
open Lx
def eN_ (s:ByteArray)(i:Nat):Bool:=([45,62]:List UInt8).isPrefixOf (s.data.toList.drop i) || ([124,62]:List UInt8).isPrefixOf (s.data.toList.drop i)
theorem hk_ (s:ByteArray)(i:Nat)(hi:i<s.size):eN_ s i=true↔∃ h:i+1<s.size,s[i+1]=62∧(s[i]=45∨s[i]=124):=by
 unfold eN_;rw[cO_ s i hi]
 by_cases h:i+1<s.size
 ·rw[cO_ s (i+1) h]
  simp only[List.isPrefixOf,Bool.or_eq_true,Bool.and_eq_true,beq_iff_eq,Bool.and_true,h,exists_true_left]
  constructor
  ·rintro (⟨a,b⟩|⟨a,b⟩)
   ·exact⟨b.symm,.inl a.symm⟩
   ·exact⟨b.symm,.inr a.symm⟩
  ·rintro ⟨b,a|a⟩
   ·exact .inl ⟨a.symm,b.symm⟩
   ·exact .inr ⟨a.symm,b.symm⟩
 ·have e:s.data.toList.drop (i+1)=[]:=List.drop_of_length_le (by simp;have:s.data.size=s.size:=rfl;omega)
  rw[e];simp[List.isPrefixOf,h]
theorem eZ_ (s:ByteArray)(i:Nat)(hi:i<s.size)(h1:cb_ s[i]=false)(h3:aA_ s[i]=false)(h4:s[i]≠63) :
  ek_ s i=if eN_ s i then (6,i+2) else if fW_ s[i] then (6,i+1) else (0,i):=by
 unfold ek_;rw[gE_ s i hi,h1,h3];simp only[Bool.false_eq_true,if_false,if_neg h4];cases ha:eN_ s i
 ·have ha':=ha
  unfold eN_ at ha';rw[ha'];cases fW_ s[i]<;>simp
 ·have ha':=ha
  unfold eN_ at ha';rw[ha'];simp
theorem nH_ (s:ByteArray)(i:Nat)(w:World)(hs:s.size≤maxLen)(hi:i<s.size)(h1:cb_ s[i]=false)(h3:aA_ s[i]=false)(h4:s[i]≠63)(ha:eN_ s i=true) :
  Calls Tryz.prog 78 #[.string s,.int .i64 i] w fun e w'=>e=.returned (.tuple #[.int .i64 (ek_ s i).1,.int .i64 (ek_ s i).2])∧w=w':=by
 have ho:=eZ_ s i hi h1 h3 h4;rw[if_pos ha] at ho;have f4:=by_ 63 63 h4 rfl;obtain⟨hlt,h62,hd⟩:=(hk_ s i hi).1 ha;have f62:=b1_ 62 62 h62 rfl;have HO:=Lib.hid ho;clear ho ha h62 h4;unfold maxLen at hs
 by_cases c:s[i]=45
 ·have f45:=b1_ 45 45 c rfl
  clear c hd;go_enter Tryz.func78,Tryz.ntmps78;go_wp2_with (first|(go_at_call 99;refine (aq_ _ _).mono ?_;rw[h1];rintro e w' ⟨rfl,rfl⟩)|(go_at_call 100;refine (ar_ _ _).mono ?_;rw[h3];rintro e w' ⟨rfl,rfl⟩));go_ret2;exact⟨aG_ HO.out,rfl⟩
 ·have f45:=by_ 45 45 c rfl
  have f124:=b1_ 124 124 (hd.resolve_left c) rfl;clear c hd;go_enter Tryz.func78,Tryz.ntmps78;go_wp2_with (first|(go_at_call 99;refine (aq_ _ _).mono ?_;rw[h1];rintro e w' ⟨rfl,rfl⟩)|(go_at_call 100;refine (ar_ _ _).mono ?_;rw[h3];rintro e w' ⟨rfl,rfl⟩));go_ret2;exact⟨aG_ HO.out,rfl⟩
def dt_:ByteArray:=⟨#[92,58,61,59,123,125,40,41,46,126,64,60,62,44,91,93,33]⟩
def hq_ (c:UInt8)(k:Nat):Prop:=∀ j (h:j<dt_.size),j<k→dt_[j]≠c
theorem hq_.step {c:UInt8}{k:Nat}(h:hq_ c k)(hk:k<dt_.size)(hne:dt_[k]≠c):hq_ c (k+1):=by
 intro j hj hl
 by_cases e:j=k
 ·subst e;exact hne
 ·exact h j hj (by omega)
theorem fV_ (c:UInt8)(k:Nat)(hk:k<dt_.size)(h:dt_[k]=c):fW_ c=true:=by
 unfold fW_;rw[List.contains_iff_mem,← h];exact List.getElem_mem (l:=gN_) (n:=k) hk
theorem gO_ (c:UInt8)(h:hq_ c 17):fW_ c=false:=by
 cases hb:fW_ c
 ·rfl
 ·unfold fW_ at hb
  rw[List.contains_iff_mem] at hb;obtain⟨j,hj,e⟩:=List.mem_iff_getElem.1 hb;exact absurd e (h j hj hj)
theorem nF_ (s:ByteArray)(i:Nat)(w:World)(hs:s.size≤maxLen)(hi:i<s.size)(h1:cb_ s[i]=false)(h3:aA_ s[i]=false)(h4:s[i]≠63)(ha:eN_ s i=false)(hq:¬ i+1<s.size) :
  Calls Tryz.prog 78 #[.string s,.int .i64 i] w fun e w'=>e=.returned (.tuple #[.int .i64 (ek_ s i).1,.int .i64 (ek_ s i).2])∧∃ n,w'=w.drewN n:=by
 have ho:=eZ_ s i hi h1 h3 h4;rw[if_neg (by rw[ha];simp)] at ho;have f4:=by_ 63 63 h4 rfl;have HO:=Lib.hid ho;clear ho ha h4;unfold maxLen at hs;go_enter Tryz.func78,Tryz.ntmps78;go_wp2_with (first|(go_at_call 99;refine (aq_ _ _).mono ?_;rw[h1];rintro e w' ⟨rfl,rfl⟩)|(go_at_call 100;refine (ar_ _ _).mono ?_;rw[h3];rintro e w' ⟨rfl,rfl⟩))
 go_loopw [12] (fun k wr=>∃ j:Nat,j≤17∧k=.int .i64 j∧hq_ s[i] j∧∃ n,wr=w.drewN n) (fun k _=>17 - (intOf k).toNat)
 case atStart=>exact⟨0,by omega,rfl,fun _ _ h=>absurd h (by omega),0,rfl⟩
 case round =>
  obtain⟨j,hj,rfl,hns,n,rfl⟩:=hrel;have NS:=Lib.hid hns;clear hns
  by_cases hlt:j<17
  ·have hsz:j<dt_.size:=hlt
   have z1:(0:Int)≤(j:Int):=(by omega);have z2:(j:Int)<17:=(by omega);have z3:(0:Int)≤(i:Int):=(by omega);have z4:(i:Int)<(s.size:Int):=by omega
   by_cases ce:dt_[j]=s[i]
   ·have SB:=Lib.hid (fV_ s[i] j hlt ce)
    have fe:((dt_[j].toNat:Int)==(s[i].toNat:Int))=true:=by rw[ce];simp
    clear ce;unfold dt_ at fe hsz;go_wp2;go_quiet (fail);go_wp2;go_ret2;exact⟨aG_ (by rw[HO.out,SB.out];rfl),_,by first|rfl|exact World.drewN_drewN w n nq⟩
   ·have RN:=Lib.hid (NS.out.step hlt ce)
    have fe:((dt_[j].toNat:Int)==(s[i].toNat:Int))=false:=by simp;exact fun h=>ce (UInt8.toNat_inj.1 (by omega))
    clear ce;unfold dt_ at fe hsz;go_wp2;go_quiet (fail);go_wp2;go_roundw
    case rel=>exact⟨j+1,by omega,by go_num,RN.out,_,rfl⟩
    case measure=>simp[intOf];omega
  ·obtain rfl:j=17:=by omega
   go_wp2;go_ret2;exact⟨aG_ (by rw[HO.out,gO_ _ NS.out];rfl),n,rfl⟩
theorem nE_ (s:ByteArray)(i:Nat)(w:World)(hs:s.size≤maxLen)(hi:i<s.size)(h1:cb_ s[i]=false)(h3:aA_ s[i]=false)(h4:s[i]≠63)(ha:eN_ s i=false)(hq:i+1<s.size)(h62:s[i+1]≠62) :
  Calls Tryz.prog 78 #[.string s,.int .i64 i] w fun e w'=>e=.returned (.tuple #[.int .i64 (ek_ s i).1,.int .i64 (ek_ s i).2])∧∃ n,w'=w.drewN n:=by
 have ho:=eZ_ s i hi h1 h3 h4;rw[if_neg (by rw[ha];simp)] at ho;have f4:=by_ 63 63 h4 rfl;have f62:=by_ 62 62 h62 rfl;have HO:=Lib.hid ho;clear ho ha h4 h62;unfold maxLen at hs;go_enter Tryz.func78,Tryz.ntmps78;go_wp2_with (first|(go_at_call 99;refine (aq_ _ _).mono ?_;rw[h1];rintro e w' ⟨rfl,rfl⟩)|(go_at_call 100;refine (ar_ _ _).mono ?_;rw[h3];rintro e w' ⟨rfl,rfl⟩))
 go_loopw [12] (fun k wr=>∃ j:Nat,j≤17∧k=.int .i64 j∧hq_ s[i] j∧∃ n,wr=w.drewN n) (fun k _=>17 - (intOf k).toNat)
 case atStart=>exact⟨0,by omega,rfl,fun _ _ h=>absurd h (by omega),0,rfl⟩
 case round =>
  obtain⟨j,hj,rfl,hns,n,rfl⟩:=hrel;have NS:=Lib.hid hns;clear hns
  by_cases hlt:j<17
  ·have hsz:j<dt_.size:=hlt
   have z1:(0:Int)≤(j:Int):=(by omega);have z2:(j:Int)<17:=(by omega);have z3:(0:Int)≤(i:Int):=(by omega);have z4:(i:Int)<(s.size:Int):=by omega
   by_cases ce:dt_[j]=s[i]
   ·have SB:=Lib.hid (fV_ s[i] j hlt ce)
    have fe:((dt_[j].toNat:Int)==(s[i].toNat:Int))=true:=by rw[ce];simp
    clear ce;unfold dt_ at fe hsz;go_wp2;go_quiet (fail);go_wp2;go_ret2;exact⟨aG_ (by rw[HO.out,SB.out];rfl),_,by first|rfl|exact World.drewN_drewN w n nq⟩
   ·have RN:=Lib.hid (NS.out.step hlt ce)
    have fe:((dt_[j].toNat:Int)==(s[i].toNat:Int))=false:=by simp;exact fun h=>ce (UInt8.toNat_inj.1 (by omega))
    clear ce;unfold dt_ at fe hsz;go_wp2;go_quiet (fail);go_wp2;go_roundw
    case rel=>exact⟨j+1,by omega,by go_num,RN.out,_,rfl⟩
    case measure=>simp[intOf];omega
  ·obtain rfl:j=17:=by omega
   go_wp2;go_ret2;exact⟨aG_ (by rw[HO.out,gO_ _ NS.out];rfl),n,rfl⟩
theorem nD_ (s:ByteArray)(i:Nat)(w:World)(hs:s.size≤maxLen)(hi:i<s.size)(h1:cb_ s[i]=false)(h3:aA_ s[i]=false)(h4:s[i]≠63)(ha:eN_ s i=false)(hq:i+1<s.size)(h62:s[i+1]=62) :
  Calls Tryz.prog 78 #[.string s,.int .i64 i] w fun e w'=>e=.returned (.tuple #[.int .i64 (ek_ s i).1,.int .i64 (ek_ s i).2])∧∃ n,w'=w.drewN n:=by
 have ho:=eZ_ s i hi h1 h3 h4;rw[if_neg (by rw[ha];simp)] at ho;have f4:=by_ 63 63 h4 rfl;have f62:=b1_ 62 62 h62 rfl;have f45:=by_ 45 45 (fun h=>by have:=(hk_ s i hi).2 ⟨hq,h62,.inl h⟩;rw[ha] at this;cases this) rfl;have f124:=by_ 124 124 (fun h=>by have:=(hk_ s i hi).2 ⟨hq,h62,.inr h⟩;rw[ha] at this;cases this) rfl;have HO:=Lib.hid ho;clear ho ha h4 h62;unfold maxLen at hs;go_enter Tryz.func78,Tryz.ntmps78;go_wp2_with (first|(go_at_call 99;refine (aq_ _ _).mono ?_;rw[h1];rintro e w' ⟨rfl,rfl⟩)|(go_at_call 100;refine (ar_ _ _).mono ?_;rw[h3];rintro e w' ⟨rfl,rfl⟩))
 go_loopw [12] (fun k wr=>∃ j:Nat,j≤17∧k=.int .i64 j∧hq_ s[i] j∧∃ n,wr=w.drewN n) (fun k _=>17 - (intOf k).toNat)
 case atStart=>exact⟨0,by omega,rfl,fun _ _ h=>absurd h (by omega),0,rfl⟩
 case round =>
  obtain⟨j,hj,rfl,hns,n,rfl⟩:=hrel;have NS:=Lib.hid hns;clear hns
  by_cases hlt:j<17
  ·have hsz:j<dt_.size:=hlt
   have z1:(0:Int)≤(j:Int):=(by omega);have z2:(j:Int)<17:=(by omega);have z3:(0:Int)≤(i:Int):=(by omega);have z4:(i:Int)<(s.size:Int):=by omega
   by_cases ce:dt_[j]=s[i]
   ·have SB:=Lib.hid (fV_ s[i] j hlt ce)
    have fe:((dt_[j].toNat:Int)==(s[i].toNat:Int))=true:=by rw[ce];simp
    clear ce;unfold dt_ at fe hsz;go_wp2;go_quiet (fail);go_wp2;go_ret2;exact⟨aG_ (by rw[HO.out,SB.out];rfl),_,by first|rfl|exact World.drewN_drewN w n nq⟩
   ·have RN:=Lib.hid (NS.out.step hlt ce)
    have fe:((dt_[j].toNat:Int)==(s[i].toNat:Int))=false:=by simp;exact fun h=>ce (UInt8.toNat_inj.1 (by omega))
    clear ce;unfold dt_ at fe hsz;go_wp2;go_quiet (fail);go_wp2;go_roundw
    case rel=>exact⟨j+1,by omega,by go_num,RN.out,_,rfl⟩
    case measure=>simp[intOf];omega
  ·obtain rfl:j=17:=by omega
   go_wp2;go_ret2;exact⟨aG_ (by rw[HO.out,gO_ _ NS.out];rfl),n,rfl⟩
theorem pb_ (s:ByteArray)(i:Nat)(w:World)(hs:s.size≤maxLen)(hi:i<s.size) :
  Calls Tryz.prog 78 #[.string s,.int .i64 i] w fun e w'=>e=.returned (.tuple #[.int .i64 (ek_ s i).1,.int .i64 (ek_ s i).2])∧∃ n,w'=w.drewN n:=by
 have up:∀ (e:Ending) (w':World),(e=.returned (.tuple #[.int .i64 (ek_ s i).1,.int .i64 (ek_ s i).2])∧w=w')→e=.returned (.tuple #[.int .i64 (ek_ s i).1,.int .i64 (ek_ s i).2])∧∃ n,w'=w.drewN n :=
  fun e w' h=>⟨h.1,0,h.2 ▸ rfl⟩
 cases h1:cb_ s[i]
 ·cases h3:aA_ s[i]
  ·by_cases h4:s[i]=63
   ·exact (pv_ s i w hs hi h1 h3 h4).mono up
   ·cases ha:eN_ s i
    ·by_cases hq:i+1<s.size
     ·by_cases h62:s[i+1]=62
      ·exact nD_ s i w hs hi h1 h3 h4 ha hq h62
      ·exact nE_ s i w hs hi h1 h3 h4 ha hq h62
     ·exact nF_ s i w hs hi h1 h3 h4 ha hq
    ·exact (nH_ s i w hs hi h1 h3 h4 ha).mono up
  ·exact (rb_ s i w hs hi h1 h3).mono up
 ·exact (pu_ s i w hs hi h1).mono up
open Lx
def cg_ (s:ByteArray)(r:Bool)(p:Nat)(ts:List Tok):List Tok × Nat × Nat :=
 ec_ (s.data.toList.drop (p+aj_ r (s.data.toList.drop p))) (p+aj_ r (s.data.toList.drop p)) ts
theorem i7_ (s:ByteArray)(h:¬ 4000<s.size):bI_ s.data.toList=cg_ s false 0 []:=by
 rw[bI_,if_neg (by simpa using h),cg_];simp
theorem gP_ (s:ByteArray)(r r':Bool)(p:Nat)(ts:List Tok)(h:aj_ r (s.data.toList.drop p)=aj_ r' (s.data.toList.drop (p+1))+1) :
  cg_ s r p ts=cg_ s r' (p+1) ts:=by
 unfold cg_;rw[h,show p+(aj_ r' (s.data.toList.drop (p+1))+1)=p+1+aj_ r' (s.data.toList.drop (p+1)) by omega]
theorem io_ (s:ByteArray)(p:Nat)(ts:List Tok)(hp:p<s.size)(h:s[p]=32∨s[p]=9∨s[p]=10):cg_ s false p ts=cg_ s false (p+1) ts:=by
 refine gP_ s _ _ p ts ?_;rw[dY_ s p hp]
 rcases h with h|h|h<;>rw[h]<;>simp
theorem qR_ (s:ByteArray)(p:Nat)(ts:List Tok)(hp:p<s.size)(h:s[p]=35):cg_ s false p ts=cg_ s true p ts:=by
 unfold cg_;rw[dY_ s p hp,dY_ s p hp,h];simp
theorem sk_in (s:ByteArray)(p:Nat)(ts:List Tok)(hp:p<s.size)(h:s[p]≠10):cg_ s true p ts=cg_ s true (p+1) ts:=by
 refine gP_ s _ _ p ts ?_;rw[dY_ s p hp,if_neg h];simp
theorem r7_ (s:ByteArray)(p:Nat)(ts:List Tok)(hp:p<s.size)(h:s[p]=10):cg_ s true p ts=cg_ s false p ts:=by
 unfold cg_;rw[dY_ s p hp,dY_ s p hp,h];simp
theorem mP_ (s:ByteArray)(r:Bool)(ts:List Tok):cg_ s r s.size ts=(ts,0,0):=by
 have e:s.data.toList.drop s.size=[]:=List.drop_of_length_le (by simp);unfold cg_;rw[e];simp only[aj_,Nat.add_zero];rw[e];rfl
theorem oS_ (s:ByteArray)(p:Nat)(ts:List Tok)(hp:p<s.size)(h:¬ (s[p]=32∨s[p]=9∨s[p]=10))(h2:s[p]≠35) :
  cg_ s false p ts=if (ek_ s p).2=p then ([],p,10) else cg_ s false (ek_ s p).2 (ts++[⟨(ek_ s p).1,(s.data.toList.drop p).take ((ek_ s p).2 - p),p⟩]):=by
 have hb:aj_ false (s.data.toList.drop p)=0:=by
  rw[dY_ s p hp,if_neg h2,if_neg (fun e=>h (.inr (.inr e))),if_pos];simp only[Bool.not_false,Bool.true_and,Bool.and_eq_true,bne_iff_ne,ne_eq];exact⟨fun e=>h (.inl e),fun e=>h (.inr (.inl e))⟩
 have hne:s.data.toList.drop p≠[]:=by rw[cO_ s p hp];simp
 unfold cg_ ek_;rw[hb,Nat.add_zero]
 by_cases hz:(aN_ (s.data.toList.drop p)).2=0
 ·rw[fY_ _ _ _ hne hz];simp[hz]
 ·rw[fh_ _ _ _ hne hz]
  generalize aN_ (s.data.toList.drop p)=tk at *;simp only[if_neg hz];rw[if_neg (by omega),show p+tk.2 - p=tk.2 by omega];simp only[List.drop_drop,Nat.add_assoc]
theorem kd_ (s:ByteArray)(p:Nat)(hp:p<s.size):p≤(ek_ s p).2∧(ek_ s p).2≤s.size:=by
 have hne:s.data.toList.drop p≠[]:=by rw[cO_ s p hp];simp
 have:=gD_ _ hne;have hs:s.data.size=s.size:=rfl;simp at this;unfold ek_
 split<;>constructor<;>simp<;>omega
theorem nI_ (s:ByteArray)(p:Nat)(_hp:p<s.size):(ek_ s p).1=0↔(ek_ s p).2=p:=by
 unfold ek_
 by_cases hz:(aN_ (s.data.toList.drop p)).2=0
 ·simp[hz]
 ·simp only[if_neg hz]
  constructor
  ·intro h
   exfalso
   revert hz h
   unfold aN_;have hk:∀ l,eF_ l≠0:=fun l=>by unfold eF_;split<;>(try split)<;>simp
   repeat' split
   all_goals simp[hk]
  ·intro h;omega
theorem jb_ (s:ByteArray)(w:World)(hs:s.size≤maxLen) :
  Calls Tryz.prog 41 #[.string s] w (d0_ s w):=by
 unfold maxLen at hs
 by_cases hl:4000<s.size
 ·have hr:=fX_ s.data.toList (by simpa using hl)
  have R:=Lib.hid hr;clear hr;go_enter Tryz.func41,Tryz.ntmps41;go_wp2;refine bodyPost_ret (v:=.tuple #[.slice none 0 0,.int .i64 0,.int .i64 2]) (by simp[results,Tryz.results41,go_sem]) rfl ?_;unfold d0_;rw[R.out];exact⟨_,rfl,Below.refl _ _,World.ownsRow_nil _ _ _ _⟩
 ·have hr:=i7_ s hl
  have R:=Lib.hid hr;clear hr;go_enter Tryz.func41,Tryz.ntmps41;go_wp2
  go_loopg [5,6] s.size (fun k v i wr=>∃ (p:Nat) (ts:List Tok),k=s.size - p∧ts.length≤p∧p≤s.size∧i=.int .i64 p∧wr.ownsRow w.heap.size 51 3 v ts.length (bc_ ts)∧Below w.heap.size w wr∧bI_ s.data.toList=cg_ s false p ts)
  case atStart=>exact⟨0,[],rfl,Nat.le_refl _,Nat.zero_le _,rfl,World.ownsRow_nil _ _ _ _,Below.refl _ _,R.out⟩
  case round =>
   obtain⟨p,ts,rfl,htp,hp,rfl,hown,hbel,heq⟩:=hrel;obtain⟨i0,hi0,hz0,hz1,hz2⟩:=info_parts ld_;have E:=Lib.hid heq;have OW:=Lib.hid hown;have BL:=Lib.hid hbel;clear hown hbel heq
   by_cases hlt:p<s.size
   ·by_cases b1:s[p]=32
    ·have f1:=b1_ 32 32 b1 rfl
     have K:=Lib.hid (io_ s p ts hlt (.inl b1));clear b1;go_wp2;go_roundg (s.size - (p+1))
     case measure=>omega
     case rel=>exact⟨p+1,ts,rfl,by omega,by omega,by go_num,OW.out,BL.out,by rw[E.out,K.out]⟩
    ·have f1:=by_ 32 32 b1 rfl
     by_cases b2:s[p]=9
     ·have f2:=b1_ 9 9 b2 rfl
      have K:=Lib.hid (io_ s p ts hlt (.inr (.inl b2)));clear b1 b2;go_wp2;go_roundg (s.size - (p+1))
      case measure=>omega
      case rel=>exact⟨p+1,ts,rfl,by omega,by omega,by go_num,OW.out,BL.out,by rw[E.out,K.out]⟩
     ·have f2:=by_ 9 9 b2 rfl
      by_cases b3:s[p]=10
      ·have f3:=b1_ 10 10 b3 rfl
       have K:=Lib.hid (io_ s p ts hlt (.inr (.inr b3)));clear b1 b2 b3;go_wp2;go_roundg (s.size - (p+1))
       case measure=>omega
       case rel=>exact⟨p+1,ts,rfl,by omega,by omega,by go_num,OW.out,BL.out,by rw[E.out,K.out]⟩
      ·have f3:=by_ 10 10 b3 rfl
       by_cases b4:s[p]=35
       ·have f4:=b1_ 35 35 b4 rfl
        have K:=Lib.hid (qR_ s p ts hlt b4);have B4:=Lib.hid b4;clear b1 b2 b3 b4;go_wp2;obtain⟨wo,rfl⟩:∃ wo:World,wo=wr:=⟨_,rfl⟩
        go_loopg [6] (s.size - p) (fun k i wr=>∃ q:Nat,k=s.size - q∧p≤q∧q≤s.size∧i=.int .i64 q∧wr=wo∧bI_ s.data.toList=cg_ s true q ts)
        case atStart=>exact⟨p,rfl,Nat.le_refl _,hp,rfl,rfl,by rw[E.out,K.out]⟩
        case round =>
         obtain⟨q,rfl,hpq,hq,rfl,rfl,heq2⟩:=hrel;have E2:=Lib.hid heq2;clear heq2
         by_cases hlt2:q<s.size
         ·by_cases c10:s[q]=10
          ·have f10:=iJ_ 10 10 c10 rfl
           have K2:=Lib.hid (r7_ s q ts hlt2 c10);have hne:p≠q:=by rintro rfl;have:=B4.out;rw[c10] at this;revert this;decide
           clear c10;go_wp2;go_roundg (s.size - q)
           case measure=>omega
           case rel=>exact⟨q,ts,rfl,by omega,hq,rfl,OW.out,BL.out,by rw[E2.out,K2.out]⟩
          ·have f10:=iI_ 10 10 c10 rfl
           have K2:=Lib.hid (sk_in s q ts hlt2 c10);clear c10;go_wp2;go_roundg (s.size - (q+1))
           case measure=>omega
           case rel=>exact⟨q+1,rfl,by omega,by omega,by go_num,rfl,by rw[E2.out,K2.out]⟩
         ·obtain rfl:q=s.size:=by omega
          go_wp2;go_roundg (s.size - s.size)
          case measure=>omega
          case rel=>exact⟨s.size,ts,rfl,by omega,hq,rfl,OW.out,BL.out,by rw[E2.out,mP_,mP_]⟩
       ·have f4:=by_ 35 35 b4 rfl
        have K:=Lib.hid (oS_ s p ts hlt (by rintro (h|h|h);exact b1 h;exact b2 h;exact b3 h) b4);obtain⟨o1,o2⟩:=kd_ s p hlt;have ok:=nI_ s p hlt;have rone:=fun w=>pb_ s p w (by unfold maxLen;omega) hlt;generalize ek_ s p=o at *;obtain⟨kd,q⟩:=o;simp only at o1 o2 ok;have RO:=Lib.hid rone;clear b1 b2 b3 b4 rone
        by_cases hz:q=p
        ·subst hz
         have ok2:=ok.2 rfl;have KK:=K.out;simp only[if_true] at KK;have K3:=Lib.hid KK;subst ok2;clear ok K KK;go_wp2_with (go_at_call 78;refine (RO.out _).mono ?_;rintro e w' ⟨rfl,n,rfl⟩);refine bodyPost_ret (v:=.tuple #[.slice none 0 0,.int .i64 q,.int .i64 10]) (by simp[results,Tryz.results41,go_sem]) rfl ?_;unfold d0_;rw[E.out,K3.out];exact⟨_,rfl,below_drewN BL.out n,World.ownsRow_nil _ _ _ _⟩
        ·have KK:=K.out
         simp only[if_neg hz] at KK;have K3:=Lib.hid KK;have hkz:((kd:Int)==0)=false:=by simp;exact fun h=>hz (ok.1 (by omega))
         clear ok K KK;go_wp2_with (first|(go_at_call 78;refine (RO.out _).mono ?_;rintro e w' ⟨rfl,n,rfl⟩)|(at_builtin;refine wpList_append_lies _ rfl _ _ _ rfl w.heap.size 51 i0 _ 3 32 Tryz.underlying47 hi0 hz0 hz1 hz2 rfl (by omega) u5 ts.length (bc_ ts) rfl (OW.out.alloc _) ⟨wr.heap.size,0,none⟩ 1 1 [.int .i64 kd,.string (s.extract p q),.int .i64 p] rfl rfl (World.news_of_block (cs:=#[.int .i64 kd,.string (s.extract p q),.int .i64 p]) (t:=51) (fr:=(0,0)) (heap_alloc_new _ _)) (by simp[Value.oneCell']) (by omega) (by unfold maxLen;omega) (by omega) (by have:=BL.out.size;simp;omega) (wr.heap.size+1) (by simp) ?_;intro gg cap w1 hown1 hgrow hat hlt1));have e1:bc_ (ts++[⟨kd,(s.data.toList.drop p).take (q - p),p⟩])=bc_ ts++[.int .i64 kd,.string (s.extract p q),.int .i64 p]:=by
          have h5:=gg_ s p (q - p);rw[show p+(q - p)=q by omega] at h5;rw[bc_,List.flatMap_append,h5];rfl
         have BL1:=Lib.hid ((((below_drewN BL.out n).alloc (by have:=BL.out.size;simp;omega) _)).grown hgrow (by have:=BL.out.size;simp;omega) (fun k hk=>by have:=OW.out.lt _ hk;omega));have OW1:=Lib.hid hown1;clear hgrow hat hlt1 hown1;go_roundg (s.size - q)
         case measure=>omega
         case rel=>exact⟨q,ts++[⟨kd,(s.data.toList.drop p).take (q - p),p⟩],rfl,by simp;omega,o2,rfl,by rw[e1,List.length_append];exact OW1.out,BL1.out,by rw[E.out,K3.out]⟩
   ·obtain rfl:p=s.size:=by omega
    go_wp2;refine bodyPost_ret (v:=.tuple #[u5,.int .i64 0,.int .i64 0]) (by simp[results,Tryz.results41,go_sem]) rfl ?_;unfold d0_;rw[E.out,mP_];exact⟨_,rfl,BL.out,OW.out⟩
end Go.Proofs.YtkihnodkhnahiaaGreatDoor
namespace Go.Proofs.YtkihnodkhnahiaaGreatDoor.Tp
open Go.RowKit
theorem hO_:∀ (t:Ty) (S:Nat→Prop) (a:OA_) (c:Nat) (w:World),ac_ S w (.slice a t.args.length c) t.args→(∀ b,S b→b<w.heap.size)→t.depth≤100000 →
  Calls Tryz.prog 55 #[tv t a c] w (kA_ w t.depth):=by
 intro t
 induction t using Ty.ind with
 | h t ih =>
  intro S a c w hA hS hd;have hl:t.args.length≤9223372036854775807:=by
   obtain⟨_,_,_,h⟩:=hA.form;exact h
  have hz:=ao_ w (.cells #[.int .i64 t.kind,.string t.name,.int .i64 t.n,.slice a t.args.length c] 56);have K4:=hid (R4.new w (.int .i64 t.kind) (.string t.name) (.int .i64 t.n) (.slice a t.args.length c));have HZ:=hid hz;have IH:=hid ih;have AH:=hid hA;have HN:=hid hS;have DE:=hid t.depth_eq;unfold tv;clear ih hA hS hz;go_enter Tryz.func55,Tryz.ntmps55;go_wp2
  go_loopw [3,4] (fun mv iv wr=>∃ i:Nat,iv=.int .i64 i∧i≤t.args.length∧mv=.int .i64 (aC_ (t.args.take i):Nat)∧Below (w.alloc (.cells #[.int .i64 t.kind,.string t.name,.int .i64 t.n,.slice a t.args.length c] 56)).heap.size (w.alloc (.cells #[.int .i64 t.kind,.string t.name,.int .i64 t.n,.slice a t.args.length c] 56)) wr) (fun _ iv _=>t.args.length - (intOf iv).toNat)
  case atStart=>exact⟨0,rfl,Nat.zero_le _,by simp[aC_],Below.refl _ _⟩
  case round =>
   obtain⟨i,rfl,hil,rfl,hB⟩:=hrel;have z0:(0:Int)≤(i:Int):=(by omega);have hBw:=HZ.out.trans (hB.mono HZ.out.size);have k3:=(K4.out.low hB).c3;have BW:=hid hBw;have BH:=hid hB
   by_cases hi:i<t.args.length
   ·have z1:(i:Int)<(t.args.length:Int):=by omega
    obtain⟨b,off,a',cap',rfl,hb,hf,hs⟩:=AH.out.at_ hi;obtain⟨f0,f1,f2,f3⟩:=hf.keep (hBw.block b (HN.out b hb));have hm:=List.getElem_mem hi;have hdi:=aT_ _ hm;have hdt:=hb_ _ _ hi;have CH:=hid (IH.out _ hm S a' cap' wr (hs.keep fun b hS=>hBw.block b (HN.out b hS)) (fun b hS=>aX_ (HN.out b hS) hBw.size) (by have:=DE.out;omega));have DT:=hid hdt;have hdd:t.args[i].depth≤100000:=(by have:=DE.out;omega);have hdl:aC_ (t.args.take i)≤aC_ t.args:=by
     conv=>rhs;rw[← List.take_append_drop i t.args,dx_]
     omega
    have hdl2:aC_ (t.args.take i)≤100000:=(by have:=DE.out;omega);unfold tv at CH;clear hf hs hB hBw hm hdi hdt hdl hb;generalize t.args[i]=x at *;generalize aC_ (t.args.take i)=m at *;go_wp2_with fail;refine CH.out.mono ?_;rintro e w4 ⟨rfl,B4⟩;have B5:=hid (BH.out.trans (B4.mono BH.out.size));have em:(if m<x.depth then (x.depth:Int) else (m:Int))=((max m x.depth:Nat):Int):=by split<;>omega
    clear B4;go_wp2;go_roundw
    case rel=>exact⟨i+1,by go_num,by omega,by rw[DT.out];congr 1;omega,B5.out⟩
    case measure=>simp[intOf];omega
   ·obtain rfl:i=t.args.length:=by omega
    have hdl2:aC_ t.args≤100000:=(by have:=DE.out;omega);clear hB hBw;go_wp2;go_ret;exact⟨a9_ (by rw[DE.out];omega),BW.out⟩
open Lx
theorem i0_ (l:List UInt8):hl_ (bI_ l).1:=by
 constructor
 ·intro t ht h5
  cases oM_ t (cJ_ l t ht) with
  | unk _ ds e n =>
   rw[e,List.tail_cons];exact⟨n.len.2,by simp,n.digits⟩
  | var h _ _ _|con h _ _|key h _|num h _|sign2 h _|sign h _ _ _=>omega
 ·intro t ht hp
  cases oM_ t (cJ_ l t ht) with
  | sign2 h _|sign h _ _ _=>exact h
  | unk _ ds e n=>rw[hp] at e;exact absurd (List.cons.inj e).1 (by decide)
  | var h n c k=>rw[hp] at c;exact absurd c (by decide)
  | con h n c=>rw[hp] at c;exact absurd c (by decide)
  | key h k=>rw[hp] at k;exact absurd k (by decide)
  | num h n=>have:=n.digits 40 (by rw[hp];decide);exact absurd this (by decide)
theorem m4_ (w:World)(a:OA_)(c:Nat)(l:List Tok)(ht:aO_ w (.slice a l.length c) l)(hb:∀ b o,a=some ⟨b,o,none⟩→b<w.heap.size)(hr:hl_ l)(hl:l.length≤4000) :
  Calls Tryz.prog 54 #[.slice a l.length c,.int .i64 0] w (cW_ w l.length (eo_ l)):=by
 have:=(sd_ (4*l.length+4)).typ w a c l 0 ht hb hr hl (Nat.zero_le _) (by omega);rwa [List.drop_zero] at this
theorem lX_ (w:World)(s:ByteArray)(hs:s.size≤maxLen):Calls Tryz.prog 23 #[.string s] w (jL_ w (bF_ s.data.toList)):=by
 have C:=hid (jb_ s (w.alloc (.cells #[.int .i64 0,.string ByteArray.empty,.int .i64 0,.slice none 0 0] 56)) hs);have b4:=hid (R4.new w (.int .i64 0) (.string ByteArray.empty) (.int .i64 0) (.slice none 0 0));have HZ:=hid (ao_ w (.cells #[.int .i64 0,.string ByteArray.empty,.int .i64 0,.slice none 0 0] 56));have hok:=hid (i0_ s.data.toList);have hlen:=ca_ s.data.toList
 rcases hsc:bI_ s.data.toList with ⟨ts,p,er⟩
 have hP:=kZ_ hsc;rw[hsc] at hok hlen;have HSC:=hid hsc;have HP:=hid hP;clear hsc hP;go_enter Tryz.func23,Tryz.ntmps23;go_wp2_with fail;refine C.out.mono ?_;rintro e w1 ⟨v,rfl,hb,ho⟩;rw[HSC.out] at ho ⊢;have k4:=b4.out.low hb;obtain⟨c0,c1,c2,c3⟩:=k4.c03;obtain⟨f0,f1,f2,f3⟩:=k4.f03;have K4:=hid k4;have hb1:=HZ.out.trans (hb.mono (by simp));have B1:=hid hb1;obtain⟨va,vc,rfl⟩:=a2_ ho;have OW:=hid ho;have hw01:Hid (w.heap.size+1≤w1.heap.size):=hid (by have:=hb.size;simpa using this);clear k4 hb ho hb1
 by_cases her:er=0
 ·subst her
  have HP1:=HP.out;rw[if_neg (by simp)] at HP1;have RC:=hid (m4_ w1 va vc ts (c4_ OW.out) (fun b o e=>(OW.out.lt b (by rw[e];rfl)).2) hok.out hlen);have HP2:=hid HP1;clear HP1;go_wp2_with fail;refine RC.out.mono ?_;rintro e w2 ⟨hb2,hres⟩;have k5:=K4.out.low hb2;have K5:=hid k5;have B2:=hid hb2;cases hT:eo_ ts with
  | none =>
   rw[hT] at hres;obtain⟨jk,js,jn,ja,jc,jm,rfl⟩:=hres;have zt:((-1:Int) != (ts.length:Int))=true:=by rw[bne_iff_ne];omega
   have E:Hid (bF_ s.data.toList=.error 20):=hid (by rw[HP2.out,hT]);have hz:=ao_ w2 (.cells #[.int .i64 jk,.string js,.int .i64 jn,.slice ja jc jm] 56);have k6:=k5.low hz;have K6:=hid k6;have G6:=hid (B1.out.trans ((hb2.trans (hz.mono hb2.size)).mono B1.out.size));obtain⟨d0,d1,d2,d3⟩:=k6.c03;obtain⟨h0,h1,h2,h3⟩:=k6.f03;clear hT k5 hb2 hz k6;go_wp2;have q4:=K6.out.set4 (.int .i64 0) (.string ⟨#[]⟩) (.int .i64 0) (.slice none 0 0);have g4:=((((G6.out.setCell (p:=⟨w.heap.size,0,none⟩) (by simp) (.int .i64 0)).setCell (p:=⟨w.heap.size,1,none⟩) (by simp) (.string ⟨#[]⟩)).setCell (p:=⟨w.heap.size,2,none⟩) (by simp) (.int .i64 0)).setCell (p:=⟨w.heap.size,3,none⟩) (by simp) (.slice none 0 0));refine bodyPost_ret (v:=.tuple #[zv,.int .i64 20]) (by simp[results,Tryz.results23,go_sem,zv,q4.c0,q4.c1,q4.c2,q4.c3]) rfl ?_;rw[E.out];exact⟨g4,rfl⟩
  | some x =>
   obtain⟨t,r⟩:=x;rw[hT] at hres;obtain⟨a1,c,rfl,hA⟩:=hres;have hsuf:=(oQ_ (4*ts.length+4)).1 _ _ _ hT;have hrl:=hsuf.length_le;have hz:=ao_ w2 (.cells #[.int .i64 t.kind,.string t.name,.int .i64 t.n,.slice a1 t.args.length c] 56);have k6:=k5.low hz;have kt:=R4.new w2 (.int .i64 t.kind) (.string t.name) (.int .i64 t.n) (.slice a1 t.args.length c);have K6:=hid k6;have G6:=hid (B1.out.trans ((hb2.trans (hz.mono hb2.size)).mono B1.out.size));have A6:=hid (hA.keep (fun b hb=>hz.block b hb.2));have hdp:t.depth≤4000:=(by have:=(deep _).1 _ _ _ hT;omega);have hE2:bF_ s.data.toList=if r≠[] then .error 20 else if 50<t.depth then .error 3 else .ok t:=(by rw[HP2.out,hT]);obtain⟨d0,d1,d2,d3⟩:=k6.c03;obtain⟨h0,h1,h2,h3⟩:=k6.f03;obtain⟨t0,t1,t2,t3⟩:=kt.c03;clear hT k5 hb2 hz k6 kt hA hsuf;unfold tv
   by_cases hr:r=[]
   ·subst hr
    have zt:(((ts.length - ([]:List Tok).length:Nat):Int) != (ts.length:Int))=false:=(by simp);have hE3:bF_ s.data.toList=if 50<t.depth then .error 3 else .ok t:=(by rw[hE2,if_neg (by simp)]);have CD:=hid (hO_ t _ a1 c _ A6.out (fun b hb=>by have:=hb.2;simp;omega) (by omega));clear hE2;unfold tv at CD
    by_cases hd:50<t.depth
    ·have E:Hid (bF_ s.data.toList=.error 3):=hid (by rw[hE3,if_pos hd])
     have hz0:decide ((50:Int)<(t.depth:Int))=true:=by simp;omega
     clear hE3;go_wp2_with fail;refine CD.out.mono ?_;rintro e w4 ⟨rfl,hb4⟩;have k7:=K6.out.low hb4;obtain⟨x0,x1,x2,x3⟩:=k7.c03;obtain⟨y0,y1,y2,y3⟩:=k7.f03;have K7:=hid k7;have G7:=hid (G6.out.trans (hb4.mono G6.out.size));clear k7;go_wp2;have q4:=K7.out.set4 (.int .i64 0) (.string ⟨#[]⟩) (.int .i64 0) (.slice none 0 0);have g4:=((((G7.out.setCell (p:=⟨w.heap.size,0,none⟩) (by simp) (.int .i64 0)).setCell (p:=⟨w.heap.size,1,none⟩) (by simp) (.string ⟨#[]⟩)).setCell (p:=⟨w.heap.size,2,none⟩) (by simp) (.int .i64 0)).setCell (p:=⟨w.heap.size,3,none⟩) (by simp) (.slice none 0 0));refine bodyPost_ret (v:=.tuple #[zv,.int .i64 3]) (by simp[results,Tryz.results23,go_sem,zv,q4.c0,q4.c1,q4.c2,q4.c3]) rfl ?_;rw[E.out];exact⟨g4,rfl⟩
    ·have E:Hid (bF_ s.data.toList=.ok t):=hid (by rw[hE3,if_neg hd])
     have hz0:decide ((50:Int)<(t.depth:Int))=false:=by simp;omega
     have KT6:=hid (R4.new w2 (.int .i64 t.kind) (.string t.name) (.int .i64 t.n) (.slice a1 t.args.length c));clear hE3;go_wp2_with fail;refine CD.out.mono ?_;rintro e w4 ⟨rfl,hb4⟩;have k7:=K6.out.low hb4;have t7:=KT6.out.low hb4;obtain⟨x0,x1,x2,x3⟩:=k7.c03;obtain⟨y0,y1,y2,y3⟩:=k7.f03;obtain⟨z0,z1,z2,z3⟩:=t7.c03;have K7:=hid k7;have G7:=hid (G6.out.trans (hb4.mono G6.out.size));have A7:=hid (A6.out.keep (fun b hb=>hb4.block b (by have:=hb.2;simp;omega)));have H4:=hid hb4;clear k7 t7 hb4;go_wp2;have q4:=K7.out.set4 (.int .i64 t.kind) (.string t.name) (.int .i64 t.n) (.slice a1 t.args.length c);have g4:=((((G7.out.setCell (p:=⟨w.heap.size,0,none⟩) (by simp) (.int .i64 t.kind)).setCell (p:=⟨w.heap.size,1,none⟩) (by simp) (.string t.name)).setCell (p:=⟨w.heap.size,2,none⟩) (by simp) (.int .i64 t.n)).setCell (p:=⟨w.heap.size,3,none⟩) (by simp) (.slice a1 t.args.length c));refine bodyPost_ret (v:=.tuple #[tv t a1 c,.int .i64 0]) (by simp[results,Tryz.results23,go_sem,tv,q4.c0,q4.c1,q4.c2,q4.c3]) rfl ?_;rw[E.out];refine⟨g4,a1,c,rfl,?_⟩;refine (A7.out.keep (B:=(((w4.setCell ⟨w.heap.size,0,none⟩ (.int .i64 t.kind)).setCell ⟨w.heap.size,1,none⟩ (.string t.name)).setCell ⟨w.heap.size,2,none⟩ (.int .i64 t.n)).setCell ⟨w.heap.size,3,none⟩ (.slice a1 t.args.length c)) (fun b hb=>?_)).mono (fun b hb=>?_)
     ·obtain⟨b1,b2⟩:=hb
      have:=hw01.out;rw[aM_ _ _ _ _ (by simp;omega),aM_ _ _ _ _ (by simp;omega),aM_ _ _ _ _ (by simp;omega),aM_ _ _ _ _ (by simp;omega)]
     ·obtain⟨b1,b2⟩:=hb
      have h1:=hw01.out;have h2:=H4.out.size;simp at h2;exact⟨by omega,by simp;omega⟩
   ·have E:Hid (bF_ s.data.toList=.error 20):=hid (by rw[hE2,if_pos hr])
    have zt:(((ts.length - r.length:Nat):Int) != (ts.length:Int))=true:=by
     rw[bne_iff_ne];have:=List.length_pos_iff.2 hr;omega
    clear hE2 hr;generalize ts.length - r.length=rl at *;go_wp2;have q4:=K6.out.set4 (.int .i64 0) (.string ⟨#[]⟩) (.int .i64 0) (.slice none 0 0);have g4:=((((G6.out.setCell (p:=⟨w.heap.size,0,none⟩) (by simp) (.int .i64 0)).setCell (p:=⟨w.heap.size,1,none⟩) (by simp) (.string ⟨#[]⟩)).setCell (p:=⟨w.heap.size,2,none⟩) (by simp) (.int .i64 0)).setCell (p:=⟨w.heap.size,3,none⟩) (by simp) (.slice none 0 0));refine bodyPost_ret (v:=.tuple #[zv,.int .i64 20]) (by simp[results,Tryz.results23,go_sem,zv,q4.c0,q4.c1,q4.c2,q4.c3]) rfl ?_;rw[E.out];exact⟨g4,rfl⟩
 ·have E:Hid (bF_ s.data.toList=.error er):=hid (by rw[HP.out,if_pos her])
  have hz0:((er:Int) != 0)=true:=by rw[bne_iff_ne];omega
  go_wp2;have q4:=K4.out.set4 (.int .i64 0) (.string ⟨#[]⟩) (.int .i64 0) (.slice none 0 0);have g4:=((((B1.out.setCell (p:=⟨w.heap.size,0,none⟩) (by simp) (.int .i64 0)).setCell (p:=⟨w.heap.size,1,none⟩) (by simp) (.string ⟨#[]⟩)).setCell (p:=⟨w.heap.size,2,none⟩) (by simp) (.int .i64 0)).setCell (p:=⟨w.heap.size,3,none⟩) (by simp) (.slice none 0 0));refine bodyPost_ret (v:=.tuple #[zv,.int .i64 er]) (by simp[results,Tryz.results23,go_sem,zv,q4.c0,q4.c1,q4.c2,q4.c3]) rfl ?_;rw[E.out];exact⟨g4,rfl⟩
end Go.Proofs.YtkihnodkhnahiaaGreatDoor.Tp

/- Packed. -/
import Derived.Test.YtjecnionbjlncaaGreatDoorP33
set_option maxRecDepth 100000
set_option maxHeartbeats 6400000
namespace Go.Proofs.YtjecnionbjlncaaGreatDoor
open Go.RowKit
open Lx
theorem ay_ {p:Nat × Nat}{a b:Nat}(h:p=(a,b)):Ending.returned (.tuple #[.int .i64 a,.int .i64 b])=.returned (.tuple #[.int .i64 p.1,.int .i64 p.2]):=by rw[h]
def dD_ (s:ByteArray)(i:Nat):Nat × Nat :=
 if (au_ (s.data.toList.drop i)).2=0 then (0,i) else ((au_ (s.data.toList.drop i)).1,i+(au_ (s.data.toList.drop i)).2)
theorem aW_ (s:ByteArray)(i k:Nat):(s.extract i k).data.toList=(s.data.toList.drop i).take (k - i):=by simp
theorem fm_ (s:ByteArray)(i k:Nat)(h:i<k)(hk:k≤s.size):(s.extract i k)[0]'(by rw[ByteArray.size_extract];omega)=s[i]:=by
 rw[← hV_,aW_,cj_ s i (by omega),show k - i=(k - i - 1)+1 by omega];rfl
theorem j5_ (c:UInt8)(h:bN_ c=true):aO_ c=decide ((c.toNat:Int)≤90):=by
 simp only[bN_,aV_,aO_,Bool.or_eq_true,decide_eq_true_eq] at *;rw[decide_eq_decide];omega
theorem kc_ (s:ByteArray)(i k:Nat)(hi:i<s.size)(h1:bN_ s[i]=true)(sp:bg_ aF_ (s.data.toList.drop i)=k - i):i<k:=by
 have hw:(aV_ s[i] || aO_ s[i])=true:=h1;have hin:aF_ s[i]=true:=by unfold aF_;rw[hw];rfl
 rw[cj_ s i hi] at sp;simp[bg_,hin] at sp;omega
theorem mT_ (s:ByteArray)(i k:Nat)(hi:i<s.size)(h1:bN_ s[i]=true)(sp:bg_ aF_ (s.data.toList.drop i)=k - i)(hij:i≤k) :
  dD_ s i=if 16<k - i then (0,i) else (dK_ ((s.data.toList.drop i).take (k - i)),k):=by
 have hw:(aV_ s[i] || aO_ s[i])=true:=h1;have e:au_ (s.data.toList.drop i)=if 16<k - i then (0,0) else (dK_ ((s.data.toList.drop i).take (k - i)),k - i):=by
  unfold au_;rw[cj_ s i hi,List.headD_cons,if_pos hw,← cj_ s i hi,sp]
 unfold dD_;rw[e]
 by_cases c:16<k - i
 ·simp[c]
 ·have hpos:k - i≠0:=by
   rw[← sp,cj_ s i hi];have hin:aF_ s[i]=true:=by unfold aF_;rw[hw];rfl
   simp[bg_,hin]
  simp only[if_neg c,if_neg hpos];rw[show i+(k - i)=k by omega]
theorem ov_ (s:ByteArray)(i:Nat)(w:World)(hs:s.size≤maxLen)(hi:i<s.size)(h1:bN_ s[i]=true) :
  Calls Tryz.prog 94 #[.string s,.int .i64 i] w fun e w'=>e=.returned (.tuple #[.int .i64 (dD_ s i).1,.int .i64 (dD_ s i).2])∧w=w':=by
 unfold maxLen at hs;go_enter Tryz.func94,Tryz.ntmps94;go_wp2_with fail;refine (an_ _ _).mono ?_;rw[h1];rintro e w' ⟨rfl,rfl⟩;go_wp2
 go_loop [7] (fun k=>∃ j:Nat,i≤j∧j≤s.size∧k=.int .i64 j∧Run aF_ s i j) (fun k=>s.size - (intOf k).toNat)
 case atStart=>exact⟨i,Nat.le_refl _,by omega,rfl,fun _ _ _ _=>by omega⟩
 case round =>
  obtain⟨k,hij,hk,rfl,hrun⟩:=hrel;have R:=Lib.hid hrun;clear hrun
  by_cases hlt:k<s.size
  ·cases hl:bN_ s[k]
   ·cases hd:as_ s[k]
    ·by_cases c95:s[k]=95
     ·have f95:=bE_ 95 95 c95 rfl
      have RN:=Lib.hid (R.out.step hlt (by unfold aF_;rw[show (aV_ s[k] || aO_ s[k])=false from hl,hd];simp[c95]));clear c95;go_wp2_with (first|(go_at_call 130;refine (an_ _ _).mono ?_;(first|rw[hl]|rw[h1]);rintro e w' ⟨rfl,rfl⟩)|(go_at_call 131;refine (ap_ _ _).mono ?_;(first|rw[hd]|rw[h3]);rintro e w' ⟨rfl,rfl⟩));go_round
      case rel=>exact⟨k+1,by omega,by omega,by go_num,RN.out⟩
      case measure=>simp[intOf];omega
     ·have f95:=bk_ 95 95 c95 rfl
      have sp:=R.out.stop hij hlt (by unfold aF_;rw[show (aV_ s[k] || aO_ s[k])=false from hl,hd];simp;exact fun h=>c95 (UInt8.toNat_inj.1 h));have en:=mT_ s i k hi h1 sp hij;have hpos:=kc_ s i k hi h1 sp;clear c95 sp
      by_cases c16:16<k - i
      ·rw[if_pos c16] at en
       have EN:=Lib.hid en;clear en;go_wp2_with (first|(go_at_call 130;refine (an_ _ _).mono ?_;(first|rw[hl]|rw[h1]);rintro e w' ⟨rfl,rfl⟩)|(go_at_call 131;refine (ap_ _ _).mono ?_;(first|rw[hd]|rw[h3]);rintro e w' ⟨rfl,rfl⟩));go_ret2;exact⟨ay_ EN.out,rfl⟩
      rw[if_neg c16] at en;have EN:=Lib.hid en;clear en;have c16':(k:Int) - (i:Int)≤16:=(by omega);clear c16
      by_cases q0:((s.extract i k).toList==[100,97,116,97])=true
      ·have K:=bz_ q0 (by decide)
       rw[aW_ s i k] at K;rw[K] at EN;clear K;go_wp2_with (first|(go_at_call 130;refine (an_ _ _).mono ?_;(first|rw[hl]|rw[h1]);rintro e w' ⟨rfl,rfl⟩)|(go_at_call 131;refine (ap_ _ _).mono ?_;(first|rw[hd]|rw[h3]);rintro e w' ⟨rfl,rfl⟩));go_ret2;exact⟨ay_ EN.out,rfl⟩
      have p0:((s.extract i k).toList==[100,97,116,97])=false:=by simpa using q0
      clear q0
      by_cases q1:((s.extract i k).toList==[108,101,116])=true
      ·have K:=bz_ q1 (by decide)
       rw[aW_ s i k] at K;rw[K] at EN;clear K;go_wp2_with (first|(go_at_call 130;refine (an_ _ _).mono ?_;(first|rw[hl]|rw[h1]);rintro e w' ⟨rfl,rfl⟩)|(go_at_call 131;refine (ap_ _ _).mono ?_;(first|rw[hd]|rw[h3]);rintro e w' ⟨rfl,rfl⟩));go_ret2;exact⟨ay_ EN.out,rfl⟩
      have p1:((s.extract i k).toList==[108,101,116])=false:=by simpa using q1
      clear q1
      by_cases q2:((s.extract i k).toList==[105,110])=true
      ·have K:=bz_ q2 (by decide)
       rw[aW_ s i k] at K;rw[K] at EN;clear K;go_wp2_with (first|(go_at_call 130;refine (an_ _ _).mono ?_;(first|rw[hl]|rw[h1]);rintro e w' ⟨rfl,rfl⟩)|(go_at_call 131;refine (ap_ _ _).mono ?_;(first|rw[hd]|rw[h3]);rintro e w' ⟨rfl,rfl⟩));go_ret2;exact⟨ay_ EN.out,rfl⟩
      have p2:((s.extract i k).toList==[105,110])=false:=by simpa using q2
      clear q2
      by_cases q3:((s.extract i k).toList==[99,97,115,101])=true
      ·have K:=bz_ q3 (by decide)
       rw[aW_ s i k] at K;rw[K] at EN;clear K;go_wp2_with (first|(go_at_call 130;refine (an_ _ _).mono ?_;(first|rw[hl]|rw[h1]);rintro e w' ⟨rfl,rfl⟩)|(go_at_call 131;refine (ap_ _ _).mono ?_;(first|rw[hd]|rw[h3]);rintro e w' ⟨rfl,rfl⟩));go_ret2;exact⟨ay_ EN.out,rfl⟩
      have p3:((s.extract i k).toList==[99,97,115,101])=false:=by simpa using q3
      clear q3
      by_cases q4:((s.extract i k).toList==[111,102])=true
      ·have K:=bz_ q4 (by decide)
       rw[aW_ s i k] at K;rw[K] at EN;clear K;go_wp2_with (first|(go_at_call 130;refine (an_ _ _).mono ?_;(first|rw[hl]|rw[h1]);rintro e w' ⟨rfl,rfl⟩)|(go_at_call 131;refine (ap_ _ _).mono ?_;(first|rw[hd]|rw[h3]);rintro e w' ⟨rfl,rfl⟩));go_ret2;exact⟨ay_ EN.out,rfl⟩
      have p4:((s.extract i k).toList==[111,102])=false:=by simpa using q4
      clear q4
      by_cases q5:((s.extract i k).toList==[102,111,114,97,108,108])=true
      ·have K:=bz_ q5 (by decide)
       rw[aW_ s i k] at K;rw[K] at EN;clear K;go_wp2_with (first|(go_at_call 130;refine (an_ _ _).mono ?_;(first|rw[hl]|rw[h1]);rintro e w' ⟨rfl,rfl⟩)|(go_at_call 131;refine (ap_ _ _).mono ?_;(first|rw[hd]|rw[h3]);rintro e w' ⟨rfl,rfl⟩));go_ret2;exact⟨ay_ EN.out,rfl⟩
      have p5:((s.extract i k).toList==[102,111,114,97,108,108])=false:=by simpa using q5
      clear q5;have kw:=fM_ p0 p1 p2 p3 p4 p5 (by rw[ByteArray.size_extract];omega);rw[aW_ s i k,fm_ s i k hpos (by omega),j5_ s[i] h1] at kw;cases hle:decide ((s[i].toNat:Int)≤90)
      all_goals
       rw[hle] at kw;rw[kw] at EN;clear kw;go_wp2_with (first|(go_at_call 130;refine (an_ _ _).mono ?_;(first|rw[hl]|rw[h1]);rintro e w' ⟨rfl,rfl⟩)|(go_at_call 131;refine (ap_ _ _).mono ?_;(first|rw[hd]|rw[h3]);rintro e w' ⟨rfl,rfl⟩));go_ret2;exact⟨ay_ EN.out,rfl⟩
    ·have RN:=Lib.hid (R.out.step hlt (by unfold aF_;rw[hd];simp))
     go_wp2_with (first|(go_at_call 130;refine (an_ _ _).mono ?_;(first|rw[hl]|rw[h1]);rintro e w' ⟨rfl,rfl⟩)|(go_at_call 131;refine (ap_ _ _).mono ?_;(first|rw[hd]|rw[h3]);rintro e w' ⟨rfl,rfl⟩));go_round
     case rel=>exact⟨k+1,by omega,by omega,by go_num,RN.out⟩
     case measure=>simp[intOf];omega
   ·have RN:=Lib.hid (R.out.step hlt (by unfold aF_;rw[show (aV_ s[k] || aO_ s[k])=true from hl];simp))
    go_wp2_with (first|(go_at_call 130;refine (an_ _ _).mono ?_;(first|rw[hl]|rw[h1]);rintro e w' ⟨rfl,rfl⟩)|(go_at_call 131;refine (ap_ _ _).mono ?_;(first|rw[hd]|rw[h3]);rintro e w' ⟨rfl,rfl⟩));go_round
    case rel=>exact⟨k+1,by omega,by omega,by go_num,RN.out⟩
    case measure=>simp[intOf];omega
  ·have sp:=R.out.full hij (by omega)
   have en:=mT_ s i k hi h1 sp hij;have hpos:=kc_ s i k hi h1 sp;clear sp
   by_cases c16:16<k - i
   ·rw[if_pos c16] at en
    have EN:=Lib.hid en;clear en;go_wp2_with (first|(go_at_call 130;refine (an_ _ _).mono ?_;(first|rw[hl]|rw[h1]);rintro e w' ⟨rfl,rfl⟩)|(go_at_call 131;refine (ap_ _ _).mono ?_;(first|rw[hd]|rw[h3]);rintro e w' ⟨rfl,rfl⟩));go_ret2;exact⟨ay_ EN.out,rfl⟩
   rw[if_neg c16] at en;have EN:=Lib.hid en;clear en;have c16':(k:Int) - (i:Int)≤16:=(by omega);clear c16
   by_cases q0:((s.extract i k).toList==[100,97,116,97])=true
   ·have K:=bz_ q0 (by decide)
    rw[aW_ s i k] at K;rw[K] at EN;clear K;go_wp2_with (first|(go_at_call 130;refine (an_ _ _).mono ?_;(first|rw[hl]|rw[h1]);rintro e w' ⟨rfl,rfl⟩)|(go_at_call 131;refine (ap_ _ _).mono ?_;(first|rw[hd]|rw[h3]);rintro e w' ⟨rfl,rfl⟩));go_ret2;exact⟨ay_ EN.out,rfl⟩
   have p0:((s.extract i k).toList==[100,97,116,97])=false:=by simpa using q0
   clear q0
   by_cases q1:((s.extract i k).toList==[108,101,116])=true
   ·have K:=bz_ q1 (by decide)
    rw[aW_ s i k] at K;rw[K] at EN;clear K;go_wp2_with (first|(go_at_call 130;refine (an_ _ _).mono ?_;(first|rw[hl]|rw[h1]);rintro e w' ⟨rfl,rfl⟩)|(go_at_call 131;refine (ap_ _ _).mono ?_;(first|rw[hd]|rw[h3]);rintro e w' ⟨rfl,rfl⟩));go_ret2;exact⟨ay_ EN.out,rfl⟩
   have p1:((s.extract i k).toList==[108,101,116])=false:=by simpa using q1
   clear q1
   by_cases q2:((s.extract i k).toList==[105,110])=true
   ·have K:=bz_ q2 (by decide)
    rw[aW_ s i k] at K;rw[K] at EN;clear K;go_wp2_with (first|(go_at_call 130;refine (an_ _ _).mono ?_;(first|rw[hl]|rw[h1]);rintro e w' ⟨rfl,rfl⟩)|(go_at_call 131;refine (ap_ _ _).mono ?_;(first|rw[hd]|rw[h3]);rintro e w' ⟨rfl,rfl⟩));go_ret2;exact⟨ay_ EN.out,rfl⟩
   have p2:((s.extract i k).toList==[105,110])=false:=by simpa using q2
   clear q2
   by_cases q3:((s.extract i k).toList==[99,97,115,101])=true
   ·have K:=bz_ q3 (by decide)
    rw[aW_ s i k] at K;rw[K] at EN;clear K;go_wp2_with (first|(go_at_call 130;refine (an_ _ _).mono ?_;(first|rw[hl]|rw[h1]);rintro e w' ⟨rfl,rfl⟩)|(go_at_call 131;refine (ap_ _ _).mono ?_;(first|rw[hd]|rw[h3]);rintro e w' ⟨rfl,rfl⟩));go_ret2;exact⟨ay_ EN.out,rfl⟩
   have p3:((s.extract i k).toList==[99,97,115,101])=false:=by simpa using q3
   clear q3
   by_cases q4:((s.extract i k).toList==[111,102])=true
   ·have K:=bz_ q4 (by decide)
    rw[aW_ s i k] at K;rw[K] at EN;clear K;go_wp2_with (first|(go_at_call 130;refine (an_ _ _).mono ?_;(first|rw[hl]|rw[h1]);rintro e w' ⟨rfl,rfl⟩)|(go_at_call 131;refine (ap_ _ _).mono ?_;(first|rw[hd]|rw[h3]);rintro e w' ⟨rfl,rfl⟩));go_ret2;exact⟨ay_ EN.out,rfl⟩
   have p4:((s.extract i k).toList==[111,102])=false:=by simpa using q4
   clear q4
   by_cases q5:((s.extract i k).toList==[102,111,114,97,108,108])=true
   ·have K:=bz_ q5 (by decide)
    rw[aW_ s i k] at K;rw[K] at EN;clear K;go_wp2_with (first|(go_at_call 130;refine (an_ _ _).mono ?_;(first|rw[hl]|rw[h1]);rintro e w' ⟨rfl,rfl⟩)|(go_at_call 131;refine (ap_ _ _).mono ?_;(first|rw[hd]|rw[h3]);rintro e w' ⟨rfl,rfl⟩));go_ret2;exact⟨ay_ EN.out,rfl⟩
   have p5:((s.extract i k).toList==[102,111,114,97,108,108])=false:=by simpa using q5
   clear q5;have kw:=fM_ p0 p1 p2 p3 p4 p5 (by rw[ByteArray.size_extract];omega);rw[aW_ s i k,fm_ s i k hpos (by omega),j5_ s[i] h1] at kw;cases hle:decide ((s[i].toNat:Int)≤90)
   all_goals
    rw[hle] at kw;rw[kw] at EN;clear kw;go_wp2_with (first|(go_at_call 130;refine (an_ _ _).mono ?_;(first|rw[hl]|rw[h1]);rintro e w' ⟨rfl,rfl⟩)|(go_at_call 131;refine (ap_ _ _).mono ?_;(first|rw[hd]|rw[h3]);rintro e w' ⟨rfl,rfl⟩));go_ret2;exact⟨ay_ EN.out,rfl⟩
theorem gi_ (s:ByteArray)(i:Nat)(hi:i<s.size):au_ (s.data.toList.drop i) =
 if bN_ s[i] then
  if 16<bg_ aF_ (s.data.toList.drop i) then (0,0) else (dK_ ((s.data.toList.drop i).take (bg_ aF_ (s.data.toList.drop i))),bg_ aF_ (s.data.toList.drop i))
 else if as_ s[i] then (4,aL_ (s.data.toList.drop i))
 else if s[i]=63 then (if aL_ (s.data.toList.drop (i+1))=0 then (0,0) else (5,aL_ (s.data.toList.drop (i+1))+1))
 else if [45,62].isPrefixOf (s.data.toList.drop i) || [124,62].isPrefixOf (s.data.toList.drop i) then (6,2)
 else if fE_ s[i] then (6,1)
 else (0,0):=by
  unfold au_;have e:(s.data.toList.drop i).headD 0=s[i]:=by rw[cj_ s i hi];rfl
  rw[e,List.drop_drop];rfl
theorem qC_ (s:ByteArray)(i:Nat)(w:World)(hs:s.size≤maxLen)(hi:i<s.size)(h1:bN_ s[i]=false)(h3:as_ s[i]=true) :
  Calls Tryz.prog 94 #[.string s,.int .i64 i] w fun e w'=>e=.returned (.tuple #[.int .i64 (dD_ s i).1,.int .i64 (dD_ s i).2])∧w=w':=by
 have hs':=hs;have hn':i≤s.size:=by omega
 have ho:dD_ s i=if aL_ (s.data.toList.drop i)=0 then (0,i) else (4,i+aL_ (s.data.toList.drop i)):=by
  unfold dD_;rw[gi_ s i hi,h1,h3];rfl
 have hle:i+aL_ (s.data.toList.drop i)≤s.size:=by
  have:=Lx.fK_ (s.data.toList.drop i);simp at this;omega
 unfold maxLen at hs;generalize hk:aL_ (s.data.toList.drop i)=k at *;have HK:=Lib.hid hk;have HO:=Lib.hid ho;clear hk ho
 by_cases c:k=0
 ·subst c
  go_enter Tryz.func94,Tryz.ntmps94;go_wp2_with (first|(go_at_call 130;refine (an_ _ _).mono ?_;(first|rw[hl]|rw[h1]);rintro e w' ⟨rfl,rfl⟩)|(go_at_call 131;refine (ap_ _ _).mono ?_;(first|rw[hd]|rw[h3]);rintro e w' ⟨rfl,rfl⟩)|(go_at_call 132;refine (eO_ _ _ _ hs' hn').mono ?_;rw[HK.out];rintro e w' ⟨rfl,rfl⟩));go_ret2;exact⟨ay_ (by rw[HO.out];rfl),rfl⟩
 ·have cb:(((i+k:Nat):Int)==(i:Int))=false:=by simp;omega
  have c2:(((i:Int)+(k:Int))==(i:Int))=false:=by simp;omega
  go_enter Tryz.func94,Tryz.ntmps94;go_wp2_with (first|(go_at_call 130;refine (an_ _ _).mono ?_;(first|rw[hl]|rw[h1]);rintro e w' ⟨rfl,rfl⟩)|(go_at_call 131;refine (ap_ _ _).mono ?_;(first|rw[hd]|rw[h3]);rintro e w' ⟨rfl,rfl⟩)|(go_at_call 132;refine (eO_ _ _ _ hs' hn').mono ?_;rw[HK.out];rintro e w' ⟨rfl,rfl⟩));go_ret2;exact⟨ay_ (by rw[HO.out,if_neg c]),rfl⟩
theorem ow_ (s:ByteArray)(i:Nat)(w:World)(hs:s.size≤maxLen)(hi:i<s.size)(h1:bN_ s[i]=false)(h3:as_ s[i]=false)(h4:s[i]=63) :
  Calls Tryz.prog 94 #[.string s,.int .i64 i] w fun e w'=>e=.returned (.tuple #[.int .i64 (dD_ s i).1,.int .i64 (dD_ s i).2])∧w=w':=by
 have ho:dD_ s i=if aL_ (s.data.toList.drop (i+1))=0 then (0,i) else (5,i+1+aL_ (s.data.toList.drop (i+1))):=by
  unfold dD_;rw[gi_ s i hi,h1,h3];simp only[Bool.false_eq_true,if_false,if_pos h4]
  by_cases c:aL_ (s.data.toList.drop (i+1))=0
  ·simp[c]
  ·simp[c];omega
 have hle:i+1+aL_ (s.data.toList.drop (i+1))≤s.size:=by
  have:=Lx.fK_ (s.data.toList.drop (i+1));simp at this;omega
 have f4:=bE_ 63 63 h4 rfl;have nm:=fun w=>eO_ s (i+1) w hs (by omega);unfold maxLen at hs;generalize hk:aL_ (s.data.toList.drop (i+1))=k at *;have NM:=Lib.hid nm;have HO:=Lib.hid ho;clear hk ho h4 nm
 by_cases c:k=0
 ·subst c
  have c2:((i:Int)+1==(i:Int)+1)=true:=by simp
  go_enter Tryz.func94,Tryz.ntmps94;go_wp2_with (first|(go_at_call 130;refine (an_ _ _).mono ?_;(first|rw[hl]|rw[h1]);rintro e w' ⟨rfl,rfl⟩)|(go_at_call 131;refine (ap_ _ _).mono ?_;(first|rw[hd]|rw[h3]);rintro e w' ⟨rfl,rfl⟩)|(go_at_call 132;rw[show ((i:Int)+1)=((i+1:Nat):Int) by omega];refine (NM.out _).mono ?_;rintro e w' ⟨rfl,rfl⟩));go_ret2;exact⟨ay_ (by rw[HO.out];rfl),rfl⟩
 ·have c2:(((i:Int)+1+(k:Int))==(i:Int)+1)=false:=by simp;omega
  go_enter Tryz.func94,Tryz.ntmps94;go_wp2_with (first|(go_at_call 130;refine (an_ _ _).mono ?_;(first|rw[hl]|rw[h1]);rintro e w' ⟨rfl,rfl⟩)|(go_at_call 131;refine (ap_ _ _).mono ?_;(first|rw[hd]|rw[h3]);rintro e w' ⟨rfl,rfl⟩)|(go_at_call 132;rw[show ((i:Int)+1)=((i+1:Nat):Int) by omega];refine (NM.out _).mono ?_;rintro e w' ⟨rfl,rfl⟩));go_ret2;exact⟨ay_ (by rw[HO.out,if_neg c]),rfl⟩
end Go.Proofs.YtjecnionbjlncaaGreatDoor

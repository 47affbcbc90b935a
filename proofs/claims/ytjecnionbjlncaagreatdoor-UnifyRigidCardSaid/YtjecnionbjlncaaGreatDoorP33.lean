/- Packed. -/
import Derived.Test.YtjecnionbjlncaaGreatDoorP05
set_option maxRecDepth 100000
set_option maxHeartbeats 6400000
namespace Go.Proofs.YtjecnionbjlncaaGreatDoor
open Go.RowKit
open Lx
def bN_ (c:UInt8):Bool:=aV_ c || aO_ c
theorem an_ (c:UInt8)(w:World):Calls Tryz.prog 130 #[.int .u8 c.toNat] w fun e w'=>e=.returned (.bool (bN_ c))∧w=w':=by
 go_enter Tryz.func130,Tryz.ntmps130;go_wp2
 all_goals
  go_ret;exact⟨aU_ (by
   unfold bN_ aV_ aO_;rw[Bool.eq_iff_iff];simp only[Bool.or_eq_true,decide_eq_true_eq,Bool.false_eq_true,true_iff,false_iff];omega),rfl⟩
theorem ap_ (c:UInt8)(w:World):Calls Tryz.prog 131 #[.int .u8 c.toNat] w fun e w'=>e=.returned (.bool (as_ c))∧w=w':=by
 go_enter Tryz.func131,Tryz.ntmps131;go_wp2
 all_goals
  go_ret;exact⟨aU_ (by unfold as_;first|(rw[decide_eq_decide];omega)|(symm;rw[decide_eq_false_iff_not];omega)),rfl⟩
theorem cj_ (s:ByteArray)(i:Nat)(h:i<s.size):s.data.toList.drop i=s[i] :: s.data.toList.drop (i+1):=by
 rw[List.drop_eq_getElem_cons (by simpa using h)];rfl
def Run (p:UInt8→Bool)(s:ByteArray)(i k:Nat):Prop:=∀ j (h:j<s.size),i≤j→j<k→p s[j]=true
theorem Run.step {p:UInt8→Bool}{s:ByteArray}{i k:Nat}(h:Run p s i k)(hk:k<s.size)(hp:p s[k]=true):Run p s i (k+1):=by
 intro j hj h1 h2
 by_cases e:j=k
 ·subst e;exact hp
 ·exact h j hj h1 (by omega)
theorem Run.take {p:UInt8→Bool}{s:ByteArray}{i k:Nat}(h:Run p s i k)(hk:k≤s.size):((s.data.toList.drop i).take (k - i)).all p=true:=by
 rw[List.all_eq_true];intro c hc;obtain⟨j,hj,rfl⟩:=List.mem_iff_getElem.1 hc;simp only[List.length_take,List.length_drop,Array.length_toList] at hj;have hs:s.data.size=s.size:=rfl;simp only[List.getElem_take,List.getElem_drop];exact h (i+j) (by omega) (by omega) (by omega)
theorem Run.stop {p:UInt8→Bool}{s:ByteArray}{i k:Nat}(h:Run p s i k)(hi:i≤k)(hk:k<s.size)(hp:p s[k]=false):bg_ p (s.data.toList.drop i)=k - i:=by
 refine fA_ _ _ _ (h.take (by omega)) (by simp;have:s.data.size=s.size:=rfl;omega) ?_;simp only[List.getElem_drop];have:i+(k - i)=k:=by omega
 simp only[this];exact hp
theorem Run.full {p:UInt8→Bool}{s:ByteArray}{i k:Nat}(h:Run p s i k)(hi:i≤k)(hk:k=s.size):bg_ p (s.data.toList.drop i)=k - i:=by
 have h1:=h.take (by omega);have hs:s.data.size=s.size:=rfl;rw[List.take_of_length_le (by simp;omega)] at h1;rw[e6_ _ _ h1];simp;omega
theorem hi_ (s:ByteArray)(i j:Nat)(sp:bg_ as_ (s.data.toList.drop i)=j - i)(hij:i≤j) :
  i+aL_ (s.data.toList.drop i)=if 6<j - i∨1<j - i∧(s.data.toList.drop i).headD 0=48 then i else j:=by
 rw[aL_,sp];split<;>omega
theorem eO_ (s:ByteArray)(i:Nat)(w:World)(hs:s.size≤maxLen)(hi:i≤s.size) :
  Calls Tryz.prog 132 #[.string s,.int .i64 i] w fun e w'=>e=.returned (.int .i64 ((i+aL_ (s.data.toList.drop i):Nat):Int))∧w=w':=by
 unfold maxLen at hs;go_enter Tryz.func132,Tryz.ntmps132;go_wp2
 go_loop [5] (fun k=>∃ j:Nat,i≤j∧j≤s.size∧k=.int .i64 j∧Run as_ s i j) (fun k=>s.size - (intOf k).toNat)
 case atStart=>exact⟨i,Nat.le_refl _,hi,rfl,fun _ _ _ _=>by omega⟩
 case round =>
  obtain⟨j,hij,hj,rfl,hrun⟩:=hrel;have R:=Lib.hid hrun;clear hrun
  by_cases hlt:j<s.size
  ·cases hd:as_ s[j]
   ·have sp:=R.out.stop hij hlt hd
    have fin:=hi_ s i j sp hij
    by_cases c1:6<j - i
    ·rw[if_pos (Or.inl c1)] at fin
     have F:=Lib.hid fin;clear fin;go_wp2_with (go_at_call 131;refine (ap_ _ _).mono ?_;rw[hd];rintro e w' ⟨rfl,rfl⟩);go_ret;exact⟨bb_ (by have:=F.out;omega),rfl⟩
    by_cases c2:1<j - i
    ·rw[cj_ s i (by omega),List.headD_cons,← cj_ s i (by omega)] at fin
     by_cases c3:s[i]=48
     ·rw[if_pos (Or.inr ⟨c2,c3⟩)] at fin
      have F:=Lib.hid fin;have f3:=bE_ 48 48 c3 rfl;clear c3;go_wp2_with (go_at_call 131;refine (ap_ _ _).mono ?_;rw[hd];rintro e w' ⟨rfl,rfl⟩);go_ret;exact⟨bb_ (by have:=F.out;omega),rfl⟩
     ·rw[if_neg (by rintro (h|h);exact c1 h;exact c3 h.2)] at fin
      have F:=Lib.hid fin;have f3:=bk_ 48 48 c3 rfl;clear c3;go_wp2_with (go_at_call 131;refine (ap_ _ _).mono ?_;rw[hd];rintro e w' ⟨rfl,rfl⟩);go_ret;exact⟨bb_ (by have:=F.out;omega),rfl⟩
    rw[if_neg (by rintro (h|h);exact c1 h;exact c2 h.1)] at fin;have F:=Lib.hid fin;clear fin;go_wp2_with (go_at_call 131;refine (ap_ _ _).mono ?_;rw[hd];rintro e w' ⟨rfl,rfl⟩);go_ret;exact⟨bb_ (by have:=F.out;omega),rfl⟩
   ·have RN:=Lib.hid (R.out.step hlt hd)
    go_wp2_with (go_at_call 131;refine (ap_ _ _).mono ?_;rw[hd];rintro e w' ⟨rfl,rfl⟩);go_round
    case rel=>exact⟨j+1,by omega,by omega,by go_num,RN.out⟩
    case measure=>simp[intOf];omega
  ·have sp:=R.out.full hij (by omega)
   have fin:=hi_ s i j sp hij
   by_cases c1:6<j - i
   ·rw[if_pos (Or.inl c1)] at fin
    have F:=Lib.hid fin;clear fin;go_wp2;go_ret;exact⟨bb_ (by have:=F.out;omega),rfl⟩
   by_cases c2:1<j - i
   ·rw[cj_ s i (by omega),List.headD_cons,← cj_ s i (by omega)] at fin
    by_cases c3:s[i]=48
    ·rw[if_pos (Or.inr ⟨c2,c3⟩)] at fin
     have F:=Lib.hid fin;have f3:=bE_ 48 48 c3 rfl;clear c3;go_wp2;go_ret;exact⟨bb_ (by have:=F.out;omega),rfl⟩
    ·rw[if_neg (by rintro (h|h);exact c1 h;exact c3 h.2)] at fin
     have F:=Lib.hid fin;have f3:=bk_ 48 48 c3 rfl;clear c3;go_wp2;go_ret;exact⟨bb_ (by have:=F.out;omega),rfl⟩
   rw[if_neg (by rintro (h|h);exact c1 h;exact c2 h.1)] at fin;have F:=Lib.hid fin;clear fin;go_wp2;go_ret;exact⟨bb_ (by have:=F.out;omega),rfl⟩
end Go.Proofs.YtjecnionbjlncaaGreatDoor

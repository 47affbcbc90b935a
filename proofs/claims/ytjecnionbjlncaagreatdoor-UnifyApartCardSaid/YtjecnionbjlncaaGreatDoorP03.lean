/- Packed. -/
import Derived.Test.YtjecnionbjlncaaGreatDoorRows
import Derived.Test.YtjecnionbjlncaaGreatDoorP01
import Derived.WalkKit
import Derived.WalkLawsBesides
import Derived.WalkSpells
import Derived.Lib.Hide
set_option maxRecDepth 100000
set_option maxHeartbeats 6400000
namespace Go.Proofs.YtjecnionbjlncaaGreatDoor
open Go.RowKit
open Lx
theorem bd_ {a b:Bool}(h:a=b):Ending.returned (.bool a)=.returned (.bool b):=by rw[h]
theorem bc_ {k:IntKind}{a b:Int}(h:a=b):Ending.returned (.int k a)=.returned (.int k b):=by rw[h]
theorem byte_is {c:UInt8}{n:Int}(k:UInt8)(h:((c.toNat:Int)==n)=true)(hk:(k.toNat:Int)=n):c=k:=by
 have h':(c.toNat:Int)=n:=by simpa using h
 apply UInt8.toNat_inj.1;omega
theorem gh_ (c:UInt8)(n:Int)(k:UInt8)(hk:(k.toNat:Int)=n):((c.toNat:Int)==n)=decide (c=k):=by
 rw[Bool.eq_iff_iff];simp only[beq_iff_eq,decide_eq_true_eq];exact⟨fun h=>UInt8.toNat_inj.1 (by omega),fun h=>by subst h;exact hk⟩
theorem ck_ (c:UInt8)(w:World):Calls Tryz.prog 118 #[.int .u8 c.toNat] w fun e w'=>e=.returned (.bool (a9_ c))∧w=w':=by
 go_enter Tryz.func118,Tryz.ntmps118;go_wp2
 all_goals
  go_ret;exact⟨bd_ (by unfold a9_;first|(rw[decide_eq_decide];omega)|(symm;rw[decide_eq_false_iff_not];omega)),rfl⟩
theorem b0_ (c:UInt8)(w:World):Calls Tryz.prog 119 #[.int .u8 c.toNat] w fun e w'=>e=.returned (.bool (aV_ c))∧w=w':=by
 go_enter Tryz.func119,Tryz.ntmps119;go_wp2
 all_goals
  go_ret;exact⟨bd_ (by unfold aV_;first|(rw[decide_eq_decide];omega)|(symm;rw[decide_eq_false_iff_not];omega)),rfl⟩
theorem cH_ (c:UInt8)(w:World):Calls Tryz.prog 123 #[.int .u8 c.toNat] w fun e w'=>e=.returned (.bool (au_ c))∧w=w':=by
 go_enter Tryz.func123,Tryz.ntmps123;go_wp2
 all_goals
  go_ret;exact⟨bd_ (by unfold au_;first|(rw[decide_eq_decide];omega)|(symm;rw[decide_eq_false_iff_not];omega)),rfl⟩
theorem nc_ (c:UInt8)(w:World):Calls Tryz.prog 121 #[.int .u8 c.toNat] w fun e w'=>e=.returned (.bool (aP_ c))∧w=w':=by
 go_enter Tryz.func121,Tryz.ntmps121;go_wp2_with (first|(go_at_call 118;refine (ck_ _ _).mono ?_;rintro e w' ⟨rfl,rfl⟩)|(go_at_call 119;refine (b0_ _ _).mono ?_;rintro e w' ⟨rfl,rfl⟩)|(go_at_call 123;refine (cH_ _ _).mono ?_;rintro e w' ⟨rfl,rfl⟩))
 all_goals
  go_ret;exact⟨bd_ (by unfold aP_;simp[*];try (rw[Bool.eq_iff_iff];simp;omega)),rfl⟩
theorem iC_ (s:ByteArray)(k:Nat)(h:k<s.size):s.data.toList.take (k+1)=s.data.toList.take k++[s[k]]:=by
 rw[List.take_succ_eq_append_getElem (by simpa using h)];rfl
theorem k4_ (s:ByteArray)(w:World)(hs:s.size≤maxLen) :
  Calls Tryz.prog 120 #[.string s,.func (.func 123) #[] #[]] w fun e w'=>e=.returned (.int .i64 (bp_ au_ s.data.toList))∧w=w':=by
 unfold maxLen at hs;go_enter Tryz.func120,Tryz.ntmps120;go_wp2
 go_loop [5] (fun i=>∃ k:Nat,k≤s.size∧i=.int .i64 k∧(s.data.toList.take k).all au_=true) (fun i=>s.size - (intOf i).toNat)
 case atStart=>exact⟨0,Nat.zero_le _,rfl,by simp⟩
 case round =>
  obtain⟨k,hk,rfl,hall⟩:=hrel;have H:=Lib.hid hall;clear hall
  by_cases hlt:k<s.size
  ·go_wp2_with (go_at_call 123;refine (cH_ _ _).mono ?_;rintro e w' ⟨rfl,rfl⟩)
   ·have hd:au_ s[k]=true:=by assumption
    go_round
    case rel=>exact⟨k+1,by omega,by go_num,by rw[iC_ s k hlt,List.all_append,H.out];simp[hd]⟩
    case measure=>simp[intOf];omega
   ·have hd:au_ s[k]=false:=by assumption
    go_ret;exact⟨bc_ (by rw[fx_ _ _ k H.out (by simpa using hlt) hd]),rfl⟩
  ·go_wp2
   go_ret;have hk2:s.data.toList.take k=s.data.toList:=List.take_of_length_le (by simp;omega);exact⟨bc_ (by rw[gm_ _ _ (by rw[← hk2];exact H.out)];simp;omega),rfl⟩
theorem hf_ (s:ByteArray)(w:World)(hs:s.size≤maxLen) :
  Calls Tryz.prog 120 #[.string s,.func (.func 121) #[] #[]] w fun e w'=>e=.returned (.int .i64 (bp_ aP_ s.data.toList))∧w=w':=by
 unfold maxLen at hs;go_enter Tryz.func120,Tryz.ntmps120;go_wp2
 go_loop [5] (fun i=>∃ k:Nat,k≤s.size∧i=.int .i64 k∧(s.data.toList.take k).all aP_=true) (fun i=>s.size - (intOf i).toNat)
 case atStart=>exact⟨0,Nat.zero_le _,rfl,by simp⟩
 case round =>
  obtain⟨k,hk,rfl,hall⟩:=hrel;have H:=Lib.hid hall;clear hall
  by_cases hlt:k<s.size
  ·go_wp2_with (go_at_call 121;refine (nc_ _ _).mono ?_;rintro e w' ⟨rfl,rfl⟩)
   ·have hd:aP_ s[k]=true:=by assumption
    go_round
    case rel=>exact⟨k+1,by omega,by go_num,by rw[iC_ s k hlt,List.all_append,H.out];simp[hd]⟩
    case measure=>simp[intOf];omega
   ·have hd:aP_ s[k]=false:=by assumption
    go_ret;exact⟨bc_ (by rw[fx_ _ _ k H.out (by simpa using hlt) hd]),rfl⟩
  ·go_wp2
   go_ret;have hk2:s.data.toList.take k=s.data.toList:=List.take_of_length_le (by simp;omega);exact⟨bc_ (by rw[gm_ _ _ (by rw[← hk2];exact H.out)];simp;omega),rfl⟩
open Lx
theorem h4_ (s:ByteArray)(h0:0<s.size):s.data.toList.headD 0=s[0]:=by
 rcases s with ⟨⟨l⟩⟩
 cases l with
 | nil=>exact absurd h0 (by decide)
 | cons a l=>rfl
theorem bA_ {s:ByteArray}{k:List UInt8}(h:(s.toList==k)=true)(hk:lN_.contains k=true):e9_ s.data.toList=3:=by
 rw[ByteArray.toList_eq] at h;rw[eq_of_beq h,e9_,if_pos hk]
theorem fL_ {s:ByteArray}(h1:(s.toList==[100,97,116,97])=false)(h2:(s.toList==[108,101,116])=false)(h3:(s.toList==[105,110])=false)
  (h4:(s.toList==[99,97,115,101])=false) (h5:(s.toList==[111,102])=false) (h6:(s.toList==[102,111,114,97,108,108])=false) (h0:0<s.size) :
  e9_ s.data.toList=if aV_ s[0] then 2 else 1:=by
 rw[ByteArray.toList_eq] at *;have hk:lN_.contains s.data.toList=false:=by
  simp only[lN_,List.contains_cons,h1,h2,h3,h4,h5,h6];rfl
 rw[e9_,if_neg (by rw[hk];decide),h4_ s h0]
theorem oU_ (s:ByteArray)(w:World)(h0:0<s.size):Calls Tryz.prog 122 #[.string s] w fun e w'=>e=.returned (.int .i64 (e9_ s.data.toList))∧w=w':=by
 go_enter Tryz.func122,Tryz.ntmps122;go_wp2_with (go_at_call 119;refine (b0_ _ _).mono ?_;rintro e w' ⟨rfl,rfl⟩)
 all_goals
  go_ret
  first
   | (exfalso;simp_all;done)
   | exact⟨bc_ (by rw[bA_ ‹(s.toList==_)=true› (by decide)];rfl),rfl⟩
   | (rename_i hu;exact⟨bc_ (by rw[fL_ ‹_› ‹_› ‹_› ‹_› ‹_› ‹_› h0,hu];rfl),rfl⟩)
theorem fH_ (s:ByteArray)(w:World)(hs:s.size≤maxLen):Calls Tryz.prog 124 #[.string s] w fun e w'=>e=.returned (.int .i64 (aL_ s.data.toList))∧w=w':=by
 have hle:=es_ au_ s.data.toList;have hle2:bp_ au_ s.data.toList≤s.size:=by simpa using hle
 unfold maxLen at hs;go_enter Tryz.func124,Tryz.ntmps124;go_wp2_with (go_at_call 120;refine (k4_ _ _ (by unfold maxLen;omega)).mono ?_;rintro e w' ⟨rfl,rfl⟩)
 all_goals
  go_ret;refine⟨bc_ ?_,rfl⟩;unfold aL_
  first
   | (rw[h4_ s (by omega)];simp only[gh_ s[0] 48 48 rfl] at *;by_cases h48:s[0]=48<;>simp only[h48,decide_true,decide_false,and_true,and_false,or_true,or_false,reduceCtorEq] at *<;>split<;>omega)
   | (split<;>omega)
open Lx
theorem k0_ (s:ByteArray)(w:World)(h0:0<s.size)(hs:s.size≤maxLen)(hw:(a9_ s[0] || aV_ s[0])=true)(hl:16<bp_ aP_ s.data.toList):Calls Tryz.prog 90 #[.string s] w fun e w'=>e=.returned (.tuple #[.int .i64 0,.int .i64 0])∧w=w':=by
 have hle:bp_ aP_ s.data.toList≤s.size:=by simpa using es_ aP_ s.data.toList
 have hs':=hs;unfold maxLen at hs;cases h1:a9_ s[0]
 all_goals
  simp only[h1,Bool.false_or,Bool.true_or] at hw;go_enter Tryz.func90,Tryz.ntmps90;go_wp2_with (first|(go_at_call 118;refine (ck_ _ _).mono ?_;rintro e w' ⟨rfl,rfl⟩)|(go_at_call 119;refine (b0_ _ _).mono ?_;rintro e w' ⟨rfl,rfl⟩)|(go_at_call 120;refine (hf_ _ _ hs').mono ?_;rintro e w' ⟨rfl,rfl⟩));go_ret2;exact⟨rfl,rfl⟩
theorem kX_ (s:ByteArray)(w:World)(h0:0<s.size)(hs:s.size≤maxLen)(hw:(a9_ s[0] || aV_ s[0])=true)(hl:bp_ aP_ s.data.toList≤16)(hp:0<bp_ aP_ s.data.toList):Calls Tryz.prog 90 #[.string s] w fun e w'=>e=.returned (.tuple #[.int .i64 (e9_ (s.data.toList.take (bp_ aP_ s.data.toList))),.int .i64 (bp_ aP_ s.data.toList)])∧w=w':=by
 have hle:bp_ aP_ s.data.toList≤s.size:=by simpa using es_ aP_ s.data.toList
 have hs':=hs;have hk':0<(s.extract 0 (bp_ aP_ s.data.toList)).size:=by simp;omega
 unfold maxLen at hs;cases h1:a9_ s[0]
 all_goals
  simp only[h1,Bool.false_or,Bool.true_or] at hw;go_enter Tryz.func90,Tryz.ntmps90;go_wp2_with (first|(go_at_call 118;refine (ck_ _ _).mono ?_;rintro e w' ⟨rfl,rfl⟩)|(go_at_call 119;refine (b0_ _ _).mono ?_;rintro e w' ⟨rfl,rfl⟩)|(go_at_call 120;refine (hf_ _ _ hs').mono ?_;rintro e w' ⟨rfl,rfl⟩)|(go_at_call 122;refine (oU_ _ _ hk').mono ?_;rintro e w' ⟨rfl,rfl⟩));go_ret2;exact⟨rfl,rfl⟩
theorem lU_ (s:ByteArray)(w:World)(h0:0<s.size)(hs:s.size≤maxLen)(h1:a9_ s[0]=false)(h2:aV_ s[0]=false)(h3:au_ s[0]=true):Calls Tryz.prog 90 #[.string s] w fun e w'=>e=.returned (.tuple #[.int .i64 4,.int .i64 (aL_ s.data.toList)])∧w=w':=by
 have hs':=hs;unfold maxLen at hs;go_enter Tryz.func90,Tryz.ntmps90;go_wp2_with (first|(go_at_call 118;refine (ck_ _ _).mono ?_;rintro e w' ⟨rfl,rfl⟩)|(go_at_call 119;refine (b0_ _ _).mono ?_;rintro e w' ⟨rfl,rfl⟩)|(go_at_call 123;refine (cH_ _ _).mono ?_;rintro e w' ⟨rfl,rfl⟩)|(go_at_call 124;refine (fH_ _ _ hs').mono ?_;rintro e w' ⟨rfl,rfl⟩));go_ret2;exact⟨rfl,rfl⟩
theorem kZ_ (s:ByteArray)(w:World)(h0:0<s.size)(hs:s.size≤maxLen)(h1:a9_ s[0]=false)(h2:aV_ s[0]=false)(h3:au_ s[0]=false)(h4:((s[0].toNat:Int)==63)=true)(k:Nat)(hk:aL_ (s.extract 1 s.size).data.toList=k):Calls Tryz.prog 90 #[.string s] w fun e w'=>e=.returned (.tuple #[.int .i64 (if k=0 then 0 else 5),.int .i64 (if k=0 then 0 else k+1)])∧w=w':=by
 have hn':(s.extract 1 s.size).size≤maxLen:=by simp;omega
 have hm:aL_ (s.extract 1 s.size).data.toList+1≤s.size:=by
  have h7:=fI_ (s.extract 1 s.size).data.toList;have h8:(s.extract 1 s.size).data.toList.length=s.size - 1:=by simp
  omega
 rw[hk] at hm;have H:=Lib.hid hk;clear hk;unfold maxLen at hs
 by_cases hz:k=0
 ·subst hz
  go_enter Tryz.func90,Tryz.ntmps90;go_wp2_with (first|(go_at_call 118;refine (ck_ _ _).mono ?_;rintro e w' ⟨rfl,rfl⟩)|(go_at_call 119;refine (b0_ _ _).mono ?_;rintro e w' ⟨rfl,rfl⟩)|(go_at_call 123;refine (cH_ _ _).mono ?_;rintro e w' ⟨rfl,rfl⟩)|(go_at_call 124;refine (fH_ _ _ hn').mono ?_;rw[H.out];rintro e w' ⟨rfl,rfl⟩));go_ret2;exact⟨rfl,rfl⟩
 ·have hz':((k:Int)==0)=false:=by simp;omega
  rw[if_neg hz,if_neg hz];go_enter Tryz.func90,Tryz.ntmps90;go_wp2_with (first|(go_at_call 118;refine (ck_ _ _).mono ?_;rintro e w' ⟨rfl,rfl⟩)|(go_at_call 119;refine (b0_ _ _).mono ?_;rintro e w' ⟨rfl,rfl⟩)|(go_at_call 123;refine (cH_ _ _).mono ?_;rintro e w' ⟨rfl,rfl⟩)|(go_at_call 124;refine (fH_ _ _ hn').mono ?_;rw[H.out];rintro e w' ⟨rfl,rfl⟩));go_ret2;exact⟨rfl,rfl⟩
end Go.Proofs.YtjecnionbjlncaaGreatDoor

/- Packed. -/
import Derived.Test.YtkihnodkhnahiaaGreatDoorP01
import Derived.Lib.Strings
import Derived.Lib.Slices
import Derived.Lib.Walk
import Derived.Lib.Bytealg
import Derived.StillTailTactics
import Derived.Deep.RegionLaw
import Derived.Deep.LoopGhost
import Derived.Deep.RegionHeld3
import Derived.Deep.AppendLies
import Derived.RegionTactic
import Derived.IntWalk
set_option maxRecDepth 100000
set_option maxHeartbeats 6400000
namespace Go.Proofs.YtkihnodkhnahiaaGreatDoor
open Go.RowKit
open Lx
theorem bx_ {a b:Bool}(h:a=b):Ending.returned (.bool a)=.returned (.bool b):=by rw[h]
theorem a9_ {k:IntKind}{a b:Int}(h:a=b):Ending.returned (.int k a)=.returned (.int k b):=by rw[h]
theorem byte_is {c:UInt8}{n:Int}(k:UInt8)(h:((c.toNat:Int)==n)=true)(hk:(k.toNat:Int)=n):c=k:=by
 have h':(c.toNat:Int)=n:=by simpa using h
 apply UInt8.toNat_inj.1;omega
theorem gz_ (c:UInt8)(n:Int)(k:UInt8)(hk:(k.toNat:Int)=n):((c.toNat:Int)==n)=decide (c=k):=by
 rw[Bool.eq_iff_iff];simp only[beq_iff_eq,decide_eq_true_eq];exact⟨fun h=>UInt8.toNat_inj.1 (by omega),fun h=>by subst h;exact hk⟩
theorem cK_ (c:UInt8)(w:World):Calls Tryz.prog 64 #[.int .u8 c.toNat] w fun e w'=>e=.returned (.bool (a8_ c))∧w=w':=by
 go_enter Tryz.func64,Tryz.ntmps64;go_wp2
 all_goals
  go_ret;exact⟨bx_ (by unfold a8_;first|(rw[decide_eq_decide];omega)|(symm;rw[decide_eq_false_iff_not];omega)),rfl⟩
theorem co_ (c:UInt8)(w:World):Calls Tryz.prog 65 #[.int .u8 c.toNat] w fun e w'=>e=.returned (.bool (a5_ c))∧w=w':=by
 go_enter Tryz.func65,Tryz.ntmps65;go_wp2
 all_goals
  go_ret;exact⟨bx_ (by unfold a5_;first|(rw[decide_eq_decide];omega)|(symm;rw[decide_eq_false_iff_not];omega)),rfl⟩
theorem c8_ (c:UInt8)(w:World):Calls Tryz.prog 69 #[.int .u8 c.toNat] w fun e w'=>e=.returned (.bool (aA_ c))∧w=w':=by
 go_enter Tryz.func69,Tryz.ntmps69;go_wp2
 all_goals
  go_ret;exact⟨bx_ (by unfold aA_;first|(rw[decide_eq_decide];omega)|(symm;rw[decide_eq_false_iff_not];omega)),rfl⟩
theorem nX_ (c:UInt8)(w:World):Calls Tryz.prog 67 #[.int .u8 c.toNat] w fun e w'=>e=.returned (.bool (aV_ c))∧w=w':=by
 go_enter Tryz.func67,Tryz.ntmps67;go_wp2_with (first|(go_at_call 64;refine (cK_ _ _).mono ?_;rintro e w' ⟨rfl,rfl⟩)|(go_at_call 65;refine (co_ _ _).mono ?_;rintro e w' ⟨rfl,rfl⟩)|(go_at_call 69;refine (c8_ _ _).mono ?_;rintro e w' ⟨rfl,rfl⟩))
 all_goals
  go_ret;exact⟨bx_ (by unfold aV_;simp[*];try (rw[Bool.eq_iff_iff];simp;omega)),rfl⟩
theorem i2_ (s:ByteArray)(k:Nat)(h:k<s.size):s.data.toList.take (k+1)=s.data.toList.take k++[s[k]]:=by
 rw[List.take_succ_eq_append_getElem (by simpa using h)];rfl
theorem lG_ (s:ByteArray)(w:World)(hs:s.size≤maxLen) :
  Calls Tryz.prog 66 #[.string s,.func (.func 69) #[] #[]] w fun e w'=>e=.returned (.int .i64 (bA_ aA_ s.data.toList))∧w=w':=by
 unfold maxLen at hs;go_enter Tryz.func66,Tryz.ntmps66;go_wp2
 go_loop [5] (fun i=>∃ k:Nat,k≤s.size∧i=.int .i64 k∧(s.data.toList.take k).all aA_=true) (fun i=>s.size - (intOf i).toNat)
 case atStart=>exact⟨0,Nat.zero_le _,rfl,by simp⟩
 case round =>
  obtain⟨k,hk,rfl,hall⟩:=hrel;have H:=Lib.hid hall;clear hall
  by_cases hlt:k<s.size
  ·go_wp2_with (go_at_call 69;refine (c8_ _ _).mono ?_;rintro e w' ⟨rfl,rfl⟩)
   ·have hd:aA_ s[k]=true:=by assumption
    go_round
    case rel=>exact⟨k+1,by omega,by go_num,by rw[i2_ s k hlt,List.all_append,H.out];simp[hd]⟩
    case measure=>simp[intOf];omega
   ·have hd:aA_ s[k]=false:=by assumption
    go_ret;exact⟨a9_ (by rw[fS_ _ _ k H.out (by simpa using hlt) hd]),rfl⟩
  ·go_wp2
   go_ret;have hk2:s.data.toList.take k=s.data.toList:=List.take_of_length_le (by simp;omega);exact⟨a9_ (by rw[gL_ _ _ (by rw[← hk2];exact H.out)];simp;omega),rfl⟩
theorem hE_ (s:ByteArray)(w:World)(hs:s.size≤maxLen) :
  Calls Tryz.prog 66 #[.string s,.func (.func 67) #[] #[]] w fun e w'=>e=.returned (.int .i64 (bA_ aV_ s.data.toList))∧w=w':=by
 unfold maxLen at hs;go_enter Tryz.func66,Tryz.ntmps66;go_wp2
 go_loop [5] (fun i=>∃ k:Nat,k≤s.size∧i=.int .i64 k∧(s.data.toList.take k).all aV_=true) (fun i=>s.size - (intOf i).toNat)
 case atStart=>exact⟨0,Nat.zero_le _,rfl,by simp⟩
 case round =>
  obtain⟨k,hk,rfl,hall⟩:=hrel;have H:=Lib.hid hall;clear hall
  by_cases hlt:k<s.size
  ·go_wp2_with (go_at_call 67;refine (nX_ _ _).mono ?_;rintro e w' ⟨rfl,rfl⟩)
   ·have hd:aV_ s[k]=true:=by assumption
    go_round
    case rel=>exact⟨k+1,by omega,by go_num,by rw[i2_ s k hlt,List.all_append,H.out];simp[hd]⟩
    case measure=>simp[intOf];omega
   ·have hd:aV_ s[k]=false:=by assumption
    go_ret;exact⟨a9_ (by rw[fS_ _ _ k H.out (by simpa using hlt) hd]),rfl⟩
  ·go_wp2
   go_ret;have hk2:s.data.toList.take k=s.data.toList:=List.take_of_length_le (by simp;omega);exact⟨a9_ (by rw[gL_ _ _ (by rw[← hk2];exact H.out)];simp;omega),rfl⟩
open Lx
theorem iA_ (s:ByteArray)(h0:0<s.size):s.data.toList.headD 0=s[0]:=by
 rcases s with ⟨⟨l⟩⟩
 cases l with
 | nil=>exact absurd h0 (by decide)
 | cons a l=>rfl
theorem bL_ {s:ByteArray}{k:List UInt8}(h:(s.toList==k)=true)(hk:kh_.contains k=true):eF_ s.data.toList=3:=by
 rw[ByteArray.toList_eq] at h;rw[eq_of_beq h,eF_,if_pos hk]
theorem f6_ {s:ByteArray}(h1:(s.toList==[100,97,116,97])=false)(h2:(s.toList==[108,101,116])=false)(h3:(s.toList==[105,110])=false)
  (h4:(s.toList==[99,97,115,101])=false) (h5:(s.toList==[111,102])=false) (h6:(s.toList==[102,111,114,97,108,108])=false) (h0:0<s.size) :
  eF_ s.data.toList=if a5_ s[0] then 2 else 1:=by
 rw[ByteArray.toList_eq] at *;have hk:kh_.contains s.data.toList=false:=by
  simp only[kh_,List.contains_cons,h1,h2,h3,h4,h5,h6];rfl
 rw[eF_,if_neg (by rw[hk];decide),iA_ s h0]
theorem pG_ (s:ByteArray)(w:World)(h0:0<s.size):Calls Tryz.prog 68 #[.string s] w fun e w'=>e=.returned (.int .i64 (eF_ s.data.toList))∧w=w':=by
 go_enter Tryz.func68,Tryz.ntmps68;go_wp2_with (go_at_call 65;refine (co_ _ _).mono ?_;rintro e w' ⟨rfl,rfl⟩)
 all_goals
  go_ret
  first
   | (exfalso;simp_all;done)
   | exact⟨a9_ (by rw[bL_ ‹(s.toList==_)=true› (by decide)];rfl),rfl⟩
   | (rename_i hu;exact⟨a9_ (by rw[f6_ ‹_› ‹_› ‹_› ‹_› ‹_› ‹_› h0,hu];rfl),rfl⟩)
theorem f3_ (s:ByteArray)(w:World)(hs:s.size≤maxLen):Calls Tryz.prog 70 #[.string s] w fun e w'=>e=.returned (.int .i64 (aR_ s.data.toList))∧w=w':=by
 have hle:=eT_ aA_ s.data.toList;have hle2:bA_ aA_ s.data.toList≤s.size:=by simpa using hle
 unfold maxLen at hs;go_enter Tryz.func70,Tryz.ntmps70;go_wp2_with (go_at_call 66;refine (lG_ _ _ (by unfold maxLen;omega)).mono ?_;rintro e w' ⟨rfl,rfl⟩)
 all_goals
  go_ret;refine⟨a9_ ?_,rfl⟩;unfold aR_
  first
   | (rw[iA_ s (by omega)];simp only[gz_ s[0] 48 48 rfl] at *;by_cases h48:s[0]=48<;>simp only[h48,decide_true,decide_false,and_true,and_false,or_true,or_false,reduceCtorEq] at *<;>split<;>omega)
   | (split<;>omega)
open Lx
theorem lB_ (s:ByteArray)(w:World)(h0:0<s.size)(hs:s.size≤maxLen)(hw:(a8_ s[0] || a5_ s[0])=true)(hl:16<bA_ aV_ s.data.toList):Calls Tryz.prog 32 #[.string s] w fun e w'=>e=.returned (.tuple #[.int .i64 0,.int .i64 0])∧w=w':=by
 have hle:bA_ aV_ s.data.toList≤s.size:=by simpa using eT_ aV_ s.data.toList
 have hs':=hs;unfold maxLen at hs;cases h1:a8_ s[0]
 all_goals
  simp only[h1,Bool.false_or,Bool.true_or] at hw;go_enter Tryz.func32,Tryz.ntmps32;go_wp2_with (first|(go_at_call 64;refine (cK_ _ _).mono ?_;rintro e w' ⟨rfl,rfl⟩)|(go_at_call 65;refine (co_ _ _).mono ?_;rintro e w' ⟨rfl,rfl⟩)|(go_at_call 66;refine (hE_ _ _ hs').mono ?_;rintro e w' ⟨rfl,rfl⟩));go_ret2;exact⟨rfl,rfl⟩
theorem ly_ (s:ByteArray)(w:World)(h0:0<s.size)(hs:s.size≤maxLen)(hw:(a8_ s[0] || a5_ s[0])=true)(hl:bA_ aV_ s.data.toList≤16)(hp:0<bA_ aV_ s.data.toList):Calls Tryz.prog 32 #[.string s] w fun e w'=>e=.returned (.tuple #[.int .i64 (eF_ (s.data.toList.take (bA_ aV_ s.data.toList))),.int .i64 (bA_ aV_ s.data.toList)])∧w=w':=by
 have hle:bA_ aV_ s.data.toList≤s.size:=by simpa using eT_ aV_ s.data.toList
 have hs':=hs;have hk':0<(s.extract 0 (bA_ aV_ s.data.toList)).size:=by simp;omega
 unfold maxLen at hs;cases h1:a8_ s[0]
 all_goals
  simp only[h1,Bool.false_or,Bool.true_or] at hw;go_enter Tryz.func32,Tryz.ntmps32;go_wp2_with (first|(go_at_call 64;refine (cK_ _ _).mono ?_;rintro e w' ⟨rfl,rfl⟩)|(go_at_call 65;refine (co_ _ _).mono ?_;rintro e w' ⟨rfl,rfl⟩)|(go_at_call 66;refine (hE_ _ _ hs').mono ?_;rintro e w' ⟨rfl,rfl⟩)|(go_at_call 68;refine (pG_ _ _ hk').mono ?_;rintro e w' ⟨rfl,rfl⟩));go_ret2;exact⟨rfl,rfl⟩
theorem mI_ (s:ByteArray)(w:World)(h0:0<s.size)(hs:s.size≤maxLen)(h1:a8_ s[0]=false)(h2:a5_ s[0]=false)(h3:aA_ s[0]=true):Calls Tryz.prog 32 #[.string s] w fun e w'=>e=.returned (.tuple #[.int .i64 4,.int .i64 (aR_ s.data.toList)])∧w=w':=by
 have hs':=hs;unfold maxLen at hs;go_enter Tryz.func32,Tryz.ntmps32;go_wp2_with (first|(go_at_call 64;refine (cK_ _ _).mono ?_;rintro e w' ⟨rfl,rfl⟩)|(go_at_call 65;refine (co_ _ _).mono ?_;rintro e w' ⟨rfl,rfl⟩)|(go_at_call 69;refine (c8_ _ _).mono ?_;rintro e w' ⟨rfl,rfl⟩)|(go_at_call 70;refine (f3_ _ _ hs').mono ?_;rintro e w' ⟨rfl,rfl⟩));go_ret2;exact⟨rfl,rfl⟩
theorem lA_ (s:ByteArray)(w:World)(h0:0<s.size)(hs:s.size≤maxLen)(h1:a8_ s[0]=false)(h2:a5_ s[0]=false)(h3:aA_ s[0]=false)(h4:((s[0].toNat:Int)==63)=true)(k:Nat)(hk:aR_ (s.extract 1 s.size).data.toList=k):Calls Tryz.prog 32 #[.string s] w fun e w'=>e=.returned (.tuple #[.int .i64 (if k=0 then 0 else 5),.int .i64 (if k=0 then 0 else k+1)])∧w=w':=by
 have hn':(s.extract 1 s.size).size≤maxLen:=by simp;omega
 have hm:aR_ (s.extract 1 s.size).data.toList+1≤s.size:=by
  have h7:=f4_ (s.extract 1 s.size).data.toList;have h8:(s.extract 1 s.size).data.toList.length=s.size - 1:=by simp
  omega
 rw[hk] at hm;have H:=Lib.hid hk;clear hk;unfold maxLen at hs
 by_cases hz:k=0
 ·subst hz
  go_enter Tryz.func32,Tryz.ntmps32;go_wp2_with (first|(go_at_call 64;refine (cK_ _ _).mono ?_;rintro e w' ⟨rfl,rfl⟩)|(go_at_call 65;refine (co_ _ _).mono ?_;rintro e w' ⟨rfl,rfl⟩)|(go_at_call 69;refine (c8_ _ _).mono ?_;rintro e w' ⟨rfl,rfl⟩)|(go_at_call 70;refine (f3_ _ _ hn').mono ?_;rw[H.out];rintro e w' ⟨rfl,rfl⟩));go_ret2;exact⟨rfl,rfl⟩
 ·have hz':((k:Int)==0)=false:=by simp;omega
  rw[if_neg hz,if_neg hz];go_enter Tryz.func32,Tryz.ntmps32;go_wp2_with (first|(go_at_call 64;refine (cK_ _ _).mono ?_;rintro e w' ⟨rfl,rfl⟩)|(go_at_call 65;refine (co_ _ _).mono ?_;rintro e w' ⟨rfl,rfl⟩)|(go_at_call 69;refine (c8_ _ _).mono ?_;rintro e w' ⟨rfl,rfl⟩)|(go_at_call 70;refine (f3_ _ _ hn').mono ?_;rw[H.out];rintro e w' ⟨rfl,rfl⟩));go_ret2;exact⟨rfl,rfl⟩
open Lx
theorem f2_ (s p:ByteArray)(w:World):Calls Tryz.prog 71 #[.string s,.string p] w fun e w'=>e=.returned (.bool (p.data.toList.isPrefixOf s.data.toList))∧w=w':=by
 show Calls _ _ _ _ fun e w'=>e=.returned (.bool (Lib.hasPrefix s.data.toList p.data.toList))∧w=w';rw[← Lib.hasPrefix_of_take,← Lib.size_eq,← Lib.size_eq];go_enter Tryz.func71,Tryz.ntmps71;go_wp2
 ·rename_i h
  go_ret;refine⟨?_,rfl⟩;show Ending.returned (Value.bool ((s.extract 0 p.size).toList==p.toList))=_;rw[Lib.extract_toList,Lib.toList_data];simp[h]
 ·rename_i h
  go_ret;refine⟨?_,rfl⟩;show Ending.returned (Value.bool false)=_;simp[h]
theorem fF_ (s:ByteArray)(c:Int)(w:World) :
  Calls Tryz.prog 72 #[.string s,.int .u8 c] w fun e w'=>e=.returned (.int .i64 (Lib.indexByte s.data.toList c.toNat.toUInt8))∧w=w':=by
 go_enter Tryz.func72,Tryz.ntmps72;go_wp2;rw[run_callFunc_extern Tryz.func111 (by kernel_rfl) (by kernel_rfl) (by kernel_rfl) (e:=Extern.BytealgIndexByte.indexByte) (by kernel_rfl),Lib.run_indexByteString];simp only[Result.andThen];rw[Oper.upon_value];go_wp2;go_ret;exact⟨rfl,rfl⟩
theorem fE_ (l:List UInt8)(c:UInt8):decide (0≤Lib.indexByte l c)=l.contains c:=by
 induction l with
 | nil=>rfl
 | cons b l ih =>
  have hg:=Lib.indexByte_ge l c;unfold Lib.indexByte
  by_cases hb:b=c
  ·subst hb;simp
  ·have hb':(b==c)=false:=by simpa using hb
   have hc':(c==b)=false:=by simpa using fun h=>hb h.symm
   rw[hb',List.contains_cons,hc',← ih];simp only[Bool.false_or,Bool.false_eq_true,if_false]
   by_cases h1:Lib.indexByte l c = -1
   ·simp[h1]
   ·have h1':(Lib.indexByte l c==-1)=false:=by simpa using h1
    rw[h1'];simp only[Bool.false_eq_true,if_false,decide_eq_decide];omega
def fW_ (c:UInt8):Bool:=gN_.contains c
theorem oU_ (c:UInt8)(w:World)(h:fW_ c=true):Calls Tryz.prog 72 #[.string ⟨#[92,58,61,59,123,125,40,41,46,126,64,60,62,44,91,93,33]⟩,.int .u8 c.toNat] w fun e w'=>∃ n:Nat,e=.returned (.int .i64 n)∧w=w':=by
 refine (fF_ _ _ _).mono ?_;rintro e w' ⟨rfl,rfl⟩;have h2:=(fE_ gN_ c).trans h;simp only[decide_eq_true_eq] at h2;obtain⟨n,hn⟩:=Int.eq_ofNat_of_zero_le h2;refine⟨n,a9_ ?_,rfl⟩;rw[← hn];simp[gN_]
theorem qS_ (c:UInt8)(w:World)(h:fW_ c=false):Calls Tryz.prog 72 #[.string ⟨#[92,58,61,59,123,125,40,41,46,126,64,60,62,44,91,93,33]⟩,.int .u8 c.toNat] w fun e w'=>e=.returned (.int .i64 (-1))∧w=w':=by
 refine (fF_ _ _ _).mono ?_;rintro e w' ⟨rfl,rfl⟩;have h2:=(fE_ gN_ c).trans h;simp only[decide_eq_false_iff_not] at h2;have h3:=Lib.indexByte_ge gN_ c;refine⟨a9_ ?_,rfl⟩;have:Lib.indexByte gN_ c = -1:=by omega
 rw[← this];simp[gN_]
theorem jS_ (s:ByteArray)(w:World)(h0:0<s.size)(h1:a8_ s[0]=false)(h2:a5_ s[0]=false)(h3:aA_ s[0]=false)(h4:((s[0].toNat:Int)==63)=false)(p:Bool)(hp:([45,62]:List UInt8).isPrefixOf s.data.toList=p)(q:Bool)(hq:([124,62]:List UInt8).isPrefixOf s.data.toList=q)(hpq:(p || q)=true):Calls Tryz.prog 32 #[.string s] w fun e w'=>e=.returned (.tuple #[.int .i64 6,.int .i64 2])∧w=w':=by
 have P:=Lib.hid hp;clear hp;have Q:=Lib.hid hq;clear hq;cases p
 all_goals
  simp only[Bool.false_or,Bool.true_or] at hpq;go_enter Tryz.func32,Tryz.ntmps32;go_wp2_with (first|(go_at_call 64;refine (cK_ _ _).mono ?_;rintro e w' ⟨rfl,rfl⟩)|(go_at_call 65;refine (co_ _ _).mono ?_;rintro e w' ⟨rfl,rfl⟩)|(go_at_call 69;refine (c8_ _ _).mono ?_;rintro e w' ⟨rfl,rfl⟩)|(go_at_call 71;refine (f2_ _ _ _).mono ?_;(first|rw[P.out]|rw[Q.out]);rintro e w' ⟨rfl,rfl⟩));go_ret2;exact⟨rfl,rfl⟩
theorem lz_ (s:ByteArray)(w:World)(h0:0<s.size)(h1:a8_ s[0]=false)(h2:a5_ s[0]=false)(h3:aA_ s[0]=false)(h4:((s[0].toNat:Int)==63)=false)(hp:([45,62]:List UInt8).isPrefixOf s.data.toList=false)(hq:([124,62]:List UInt8).isPrefixOf s.data.toList=false)(b:Bool)(hb:fW_ s[0]=b):Calls Tryz.prog 32 #[.string s] w fun e w'=>e=.returned (.tuple #[.int .i64 (if b then 6 else 0),.int .i64 (if b then 1 else 0)])∧w=w':=by
 have P:=Lib.hid hp;clear hp;have Q:=Lib.hid hq;clear hq;have B:=Lib.hid hb;clear hb;cases b
 ·go_enter Tryz.func32,Tryz.ntmps32
  go_wp2_with (first|(go_at_call 64;refine (cK_ _ _).mono ?_;rintro e w' ⟨rfl,rfl⟩)|(go_at_call 65;refine (co_ _ _).mono ?_;rintro e w' ⟨rfl,rfl⟩)|(go_at_call 69;refine (c8_ _ _).mono ?_;rintro e w' ⟨rfl,rfl⟩)|(go_at_call 71;refine (f2_ _ _ _).mono ?_;(first|rw[P.out]|rw[Q.out]);rintro e w' ⟨rfl,rfl⟩)|(go_at_call 72;refine (qS_ _ _ B.out).mono ?_;rintro e w' ⟨rfl,rfl⟩));go_ret2;exact⟨rfl,rfl⟩
 ·go_enter Tryz.func32,Tryz.ntmps32
  go_wp2_with (first|(go_at_call 64;refine (cK_ _ _).mono ?_;rintro e w' ⟨rfl,rfl⟩)|(go_at_call 65;refine (co_ _ _).mono ?_;rintro e w' ⟨rfl,rfl⟩)|(go_at_call 69;refine (c8_ _ _).mono ?_;rintro e w' ⟨rfl,rfl⟩)|(go_at_call 71;refine (f2_ _ _ _).mono ?_;(first|rw[P.out]|rw[Q.out]);rintro e w' ⟨rfl,rfl⟩)|(go_at_call 72;refine (oU_ _ _ B.out).mono ?_;rintro e w' ⟨n,rfl,rfl⟩));go_ret2;exact⟨rfl,rfl⟩
theorem jT_ (s:ByteArray)(h0:0<s.size):aN_ s.data.toList =
 if a8_ s[0] || a5_ s[0] then
  if 16<bA_ aV_ s.data.toList then (0,0) else (eF_ (s.data.toList.take (bA_ aV_ s.data.toList)),bA_ aV_ s.data.toList)
 else if aA_ s[0] then (4,aR_ s.data.toList)
 else if s[0]=63 then (if aR_ (s.data.toList.drop 1)=0 then (0,0) else (5,aR_ (s.data.toList.drop 1)+1))
 else if [45,62].isPrefixOf s.data.toList || [124,62].isPrefixOf s.data.toList then (6,2)
 else if fW_ s[0] then (6,1)
 else (0,0):=by rw[aN_,iA_ s h0];rfl
theorem mJ_ (s:ByteArray)(w:World)(h0:0<s.size)(hs:s.size≤maxLen):Calls Tryz.prog 32 #[.string s] w fun e w'=>e=.returned (.tuple #[.int .i64 (aN_ s.data.toList).1,.int .i64 (aN_ s.data.toList).2])∧w=w':=by
 rw[jT_ s h0]
 by_cases c1:(a8_ s[0] || a5_ s[0])=true
 ·rw[if_pos c1]
  by_cases c2:16<bA_ aV_ s.data.toList
  ·rw[if_pos c2];exact lB_ s w h0 hs c1 c2
  ·rw[if_neg c2]
   refine ly_ s w h0 hs c1 (by omega) ?_
   rcases s with ⟨⟨l⟩⟩
   cases l with
   | nil=>exact absurd h0 (by decide)
   | cons a l =>
    have ha:(a8_ a || a5_ a)=true:=c1;have hi:aV_ a=true:=by unfold aV_;rw[ha];rfl
    simp[bA_,hi]
 ·have c1':a8_ s[0]=false∧a5_ s[0]=false:=by simpa using c1
  rw[if_neg c1]
  by_cases c3:aA_ s[0]=true
  ·rw[if_pos c3];exact mI_ s w h0 hs c1'.1 c1'.2 c3
  ·rw[if_neg c3]
   have c3':aA_ s[0]=false:=by simpa using c3
   by_cases c4:s[0]=63
   ·rw[if_pos c4]
    have c4':((s[0].toNat:Int)==63)=true:=by rw[c4];rfl
    have e:(s.extract 1 s.size).data.toList=s.data.toList.drop 1:=by simp;exact List.take_of_length_le (by simp)
    have:=lA_ s w h0 hs c1'.1 c1'.2 c3' c4' _ rfl;rw[e] at this
    by_cases c5:aR_ (s.data.toList.drop 1)=0
    ·rw[if_pos c5,if_pos c5] at this;rw[if_pos c5];exact this
    ·rw[if_neg c5,if_neg c5] at this;rw[if_neg c5];exact this
   ·rw[if_neg c4]
    have c4':((s[0].toNat:Int)==63)=false:=by rw[gz_ _ 63 63 rfl];simpa using c4
    by_cases c6:(([45,62]:List UInt8).isPrefixOf s.data.toList || ([124,62]:List UInt8).isPrefixOf s.data.toList)=true
    ·rw[if_pos c6];exact jS_ s w h0 c1'.1 c1'.2 c3' c4' _ rfl _ rfl c6
    ·rw[if_neg c6]
     have c6':([45,62]:List UInt8).isPrefixOf s.data.toList=false∧([124,62]:List UInt8).isPrefixOf s.data.toList=false:=by simpa only[Bool.or_eq_true,not_or,Bool.not_eq_true] using c6
     have:=lz_ s w h0 c1'.1 c1'.2 c3' c4' c6'.1 c6'.2 _ rfl;cases hb:fW_ s[0]
     ·rw[hb] at this;exact this
     ·rw[hb] at this;exact this
open Lx
theorem dY_ (s:ByteArray)(k:Nat)(h:k<s.size)(r:Bool):aj_ r (s.data.toList.drop k) =
  if s[k]=35 then aj_ true (s.data.toList.drop (k+1))+1
  else if s[k]=10 then aj_ false (s.data.toList.drop (k+1))+1
  else if !r&&s[k] != 32&&s[k] != 9 then 0
  else aj_ r (s.data.toList.drop (k+1))+1:=by
 have e:s.data.toList.drop k=s[k] :: s.data.toList.drop (k+1):=by
  rw[List.drop_eq_getElem_cons (by simpa using h)];rfl
 rw[e,aj_]
theorem b1_ {c:UInt8}(n:Int)(k:UInt8)(h:c=k)(hk:(k.toNat:Int)=n):((c.toNat:Int)==n)=true:=by rw[gz_ c n k hk];simpa using h
theorem by_ {c:UInt8}(n:Int)(k:UInt8)(h:c≠k)(hk:(k.toNat:Int)=n):((c.toNat:Int)==n)=false:=by rw[gz_ c n k hk];simpa using h
theorem iI_ {c:UInt8}(n:Int)(k:UInt8)(h:c≠k)(hk:(k.toNat:Int)=n):((c.toNat:Int) != n)=true:=by rw[bne,by_ n k h hk];rfl
theorem iJ_ {c:UInt8}(n:Int)(k:UInt8)(h:c=k)(hk:(k.toNat:Int)=n):((c.toNat:Int) != n)=false:=by rw[bne,b1_ n k h hk];rfl
theorem hh_ (s:ByteArray)(w:World)(hs:s.size≤maxLen) :
  Calls Tryz.prog 33 #[.string s] w fun e w'=>e=.returned (.int .i64 (aj_ false s.data.toList))∧w=w':=by
 unfold maxLen at hs;go_enter Tryz.func33,Tryz.ntmps33;go_wp2
 go_loop [3,4] (fun n r=>∃ (k:Nat) (b:Bool),k≤s.size∧n=.int .i64 k∧r=.bool b∧aj_ false s.data.toList=k+aj_ b (s.data.toList.drop k)) (fun n _=>s.size - (intOf n).toNat)
 case atStart=>exact⟨0,false,Nat.zero_le _,rfl,rfl,by simp⟩
 case round =>
  obtain⟨k,b,hk,rfl,rfl,hb⟩:=hrel;have H:=Lib.hid hb;clear hb
  by_cases hlt:k<s.size
  ·have st:=dY_ s k hlt b
   by_cases c1:s[k]=35
   ·rw[if_pos c1] at st
    have S:=Lib.hid st;clear st;have f1:=b1_ 35 35 c1 rfl;clear c1;go_wp2;go_round
    case rel=>exact⟨k+1,true,by omega,by go_num,rfl,by rw[H.out,S.out];omega⟩
    case measure=>simp[intOf];omega
   ·rw[if_neg c1] at st
    have f1:=by_ 35 35 c1 rfl;clear c1
    by_cases c2:s[k]=10
    ·rw[if_pos c2] at st
     have S:=Lib.hid st;clear st;have f2:=b1_ 10 10 c2 rfl;clear c2;go_wp2;go_round
     case rel=>exact⟨k+1,false,by omega,by go_num,rfl,by rw[H.out,S.out];omega⟩
     case measure=>simp[intOf];omega
    ·rw[if_neg c2] at st
     have f2:=by_ 10 10 c2 rfl;clear c2;cases b
     ·by_cases c3:s[k]=32
      ·rw[if_neg (by simp[c3])] at st
       have S:=Lib.hid st;clear st;have f3:=iJ_ 32 32 c3 rfl;clear c3;go_wp2;go_round
       case rel=>exact⟨k+1,false,by omega,by go_num,rfl,by rw[H.out,S.out];omega⟩
       case measure=>simp[intOf];omega
      ·have f3:=iI_ 32 32 c3 rfl
       by_cases c4:s[k]=9
       ·rw[if_neg (by simp[c4])] at st
        have S:=Lib.hid st;clear st;have f4:=iJ_ 9 9 c4 rfl;clear c3 c4;go_wp2;go_round
        case rel=>exact⟨k+1,false,by omega,by go_num,rfl,by rw[H.out,S.out];omega⟩
        case measure=>simp[intOf];omega
       ·rw[if_pos (by simp[c3,c4])] at st
        have S:=Lib.hid st;clear st;have f4:=iI_ 9 9 c4 rfl;clear c3 c4;go_wp2;go_ret;exact⟨a9_ (by rw[H.out,S.out];rfl),rfl⟩
     ·rw[if_neg (by simp)] at st
      have S:=Lib.hid st;clear st;go_wp2;go_round
      case rel=>exact⟨k+1,true,by omega,by go_num,rfl,by rw[H.out,S.out];omega⟩
      case measure=>simp[intOf];omega
  ·go_wp2
   go_ret;have e:k=s.size:=(by omega);exact⟨a9_ (by rw[H.out,e];simp[List.drop_of_length_le,aj_]),rfl⟩
open Lx
theorem dW_ (s:ByteArray)(p:Nat):(s.extract p s.size).data.toList=s.data.toList.drop p:=by
 simp;exact List.take_of_length_le (by simp)
theorem bC_ (s:ByteArray)(p:Nat)(a b:Addr)(w:World)(hs:s.size≤maxLen)(hp:p<s.size)(ha:w.cell? a=some (.string s))(hb:w.cell? b=some (.int .i64 p)) :
  Calls Tryz.prog 31 #[.pointer (some a),.pointer (some b)] w fun e w'=>e=.returned (.tuple #[.int .i64 (aN_ (s.data.toList.drop p)).1,.int .i64 (aN_ (s.data.toList.drop p)).2])∧w=w':=by
 have hs':(s.extract p s.size).size≤maxLen:=by simp;omega
 have h0:0<(s.extract p s.size).size:=by simp;omega
 have tk:=mJ_ (s.extract p s.size) w h0 hs';rw[dW_] at tk;have T:=Lib.hid tk;clear tk;unfold maxLen at hs;go_enter Tryz.func31,Tryz.ntmps31;go_wp2_with (go_at_call 32;refine T.out.mono ?_;rintro e w' ⟨rfl,rfl⟩);go_ret2;exact⟨rfl,rfl⟩
theorem gg_ (s:ByteArray)(p m:Nat):s.extract p (p+m)=⟨((s.data.toList.drop p).take m).toArray⟩:=by
 have h:(s.extract p (p+m)).data.toList=(s.data.toList.drop p).take m:=by simp
 rw[← h]
def oN_ (t:Tok):List Value:=[.int .i64 t.kind,.string ⟨t.text.toArray⟩,.int .i64 t.pos]
def bc_ (ts:List Tok):List Value:=ts.flatMap oN_
def d0_ (s:ByteArray)(w:World)(e:Ending)(w':World):Prop :=
 ∃ v,e=.returned (.tuple #[v,.int .i64 (bI_ s.data.toList).2.1,.int .i64 (bI_ s.data.toList).2.2])∧Below w.heap.size w w' ∧
  w'.ownsRow w.heap.size 51 3 v (bI_ s.data.toList).1.length (bc_ (bI_ s.data.toList).1)
theorem fX_ (l:List UInt8)(h:4000<l.length):bI_ l=([],0,2):=by rw[bI_,if_pos h]
theorem jY_ (l:List UInt8)(h:¬ 4000<l.length):bI_ l=ec_ (l.drop (aj_ false l)) (aj_ false l) []:=by rw[bI_,if_neg h]
theorem ld_:(Tryz.prog.info? 51).map (fun i=>(i.zero,i.size,i.bytes))=some (some (.agg #[.int .i64 0,.string ByteArray.empty,.int .i64 0]),3,32):=by kernel_rfl
def rN_ (s:ByteArray)(w:World)(p:Nat)(v:Value)(wr:World):Prop :=
 ∃ ts:List Tok,ts.length≤p∧p≤s.size∧wr.heap[w.heap.size]? = some (.cells #[.string s] 9 (0,0))∧wr.heap[w.heap.size+1]? = some (.cells #[.int .i64 p] 3 (0,0)) ∧
  wr.ownsRow (w.heap.size+2) 51 3 v ts.length (bc_ ts)∧Below w.heap.size w wr∧bI_ s.data.toList=ec_ (s.data.toList.drop p) p ts
theorem kO_ (s:ByteArray)(w:World)(hs:s.size≤maxLen) :
  Calls Tryz.prog 15 #[.string s] w (d0_ s w):=by
 unfold maxLen at hs
 by_cases hl:4000<s.size
 ·have hr:=fX_ s.data.toList (by simpa using hl)
  have R:=Lib.hid hr;clear hr;go_enter Tryz.func15,Tryz.ntmps15;go_wp2;refine bodyPost_ret (v:=.tuple #[.slice none 0 0,.int .i64 0,.int .i64 2]) (by simp[results,Tryz.results15,go_sem]) rfl ?_;unfold d0_;rw[R.out];refine⟨_,rfl,((Below.refl _ _).alloc (by simp) _).alloc (by simp) _,World.ownsRow_nil _ _ _ _⟩
 ·have hbl:=hi_ false s.data.toList
  have hbl2:aj_ false s.data.toList≤s.size:=by simpa using hbl
  have hr:=jY_ s.data.toList (by simpa using hl);have R:=Lib.hid hr;clear hr hbl;go_enter Tryz.func15,Tryz.ntmps15;go_wp2_with (go_at_call 33;refine (hh_ _ _ (by unfold maxLen;omega)).mono ?_;rintro e w' ⟨rfl,rfl⟩)
  go_loopg [2] (s.size - aj_ false s.data.toList) (fun k v wr=>∃ p,k=s.size - p∧rN_ s w p v wr)
  case atStart =>
   refine⟨aj_ false s.data.toList,rfl,[],Nat.zero_le _,hbl2,?_,?_,World.ownsRow_nil _ _ _ _,((Below.refl _ _).alloc (by simp) _).alloc (by simp) _,R.out⟩
   ·rw[heap_alloc_old _ _ (by simp)];exact heap_alloc_new _ _
   ·have:=heap_alloc_new (w.alloc (.cells #[.string s] 9)) (.cells #[.int .i64 (aj_ false s.data.toList)] 3)
    simpa using this
  case round =>
   obtain⟨p,rfl,ts,htp,hp,b0,b1,hown,hbel,heq⟩:=hrel;obtain⟨i0,hi0,hz0,hz1,hz2⟩:=info_parts ld_;have c0:=cell_of_one b0;have c1:=cell_of_one b1;have f1:=free_of_one b1;have L1:=lt_of_block b1;have B0:=Lib.hid b0;have B1:=Lib.hid b1;have E:=Lib.hid heq;have OW:=Lib.hid hown;have BL:=Lib.hid hbel;clear b0 b1 heq hown hbel
   by_cases hlt:p<s.size
   ·have nx:=bC_ s p ⟨w.heap.size,0,none⟩ ⟨w.heap.size+1,0,none⟩ wr (by unfold maxLen;omega) hlt c0 c1
    have NX:=Lib.hid nx;clear nx;have hne:s.data.toList.drop p≠[]:=by intro h;have:=congrArg List.length h;simp at this;omega
    have tle:=gD_ _ hne;have tle2:p+(aN_ (s.data.toList.drop p)).2≤s.size:=by simp at tle;omega
    clear tle;have Z1:=fY_ (s.data.toList.drop p) p ts hne;have Z2:=fh_ (s.data.toList.drop p) p ts hne;rw[List.drop_drop,List.drop_drop] at Z2;generalize htk:aN_ (s.data.toList.drop p)=tk at *;obtain⟨kd,m⟩:=tk;have HT:=Lib.hid htk;clear htk hne;simp only at tle2 Z1 Z2
    by_cases hz:m=0
    ·have Z:=Lib.hid (Z1 hz)
     have hzz:((m:Int)==0)=true:=by simpa using hz
     clear hz Z1 Z2;go_wp2_with (go_at_call 31;refine NX.out.mono ?_;rintro e w' ⟨rfl,rfl⟩)
     go_region
     go_wp2;refine bodyPost_ret (v:=.tuple #[.slice none 0 0,.int .i64 p,.int .i64 10]) (by simp[results,Tryz.results15,go_sem,c1]) rfl ?_;unfold d0_;rw[R.out,← R.out,E.out,Z.out];exact⟨_,rfl,(BL.out.drew).setCell (by simp) _,World.ownsRow_nil _ _ _ _⟩
    ·have Z:=Lib.hid (Z2 hz)
     have hzz:((m:Int)==0)=false:=by simpa using hz
     have z0:(0:Int)≤(p:Int):=(by omega);have z1:(0:Int)≤(p:Int)+(m:Int):=(by omega);have z2:(p:Int)≤(p:Int)+(m:Int):=(by omega);have z3:(p:Int)+(m:Int)≤(s.size:Int):=(by omega);have z4:IntKind.i64.wrap ((p:Int)+(m:Int))=(p:Int)+(m:Int):=IntWalk.i64_in _ (by omega);have z5:((p:Int)+(m:Int)).toNat=p+m:=(by omega);have ag0:u2.ownBlock≠some w.heap.size:=fun h=>by have:=OW.out.lt _ h;omega
     have ag1:u2.ownBlock≠some (w.heap.size+1):=fun h=>by have:=OW.out.lt _ h;omega
     clear Z1 Z2;go_wp2_with (go_at_call 31;refine NX.out.mono ?_;rintro e w' ⟨rfl,rfl⟩)
     go_region_held3 (fun w'=>w'.cell? ⟨w.heap.size,0,none⟩=some (.string s)∧w'.cell? ⟨w.heap.size+1,0,none⟩=some (.int .i64 p))
      (first
       | go_keep
       | (go_split_ands;refine⟨?_,?_⟩;(rw[hgrow.cell_far _ (by simp;omega) (Ne.symm ag0)];assumption);(rw[hgrow.cell_far _ (by simp;omega) (Ne.symm ag1)];assumption)))
      ((refine step_append_lies _ (by rfl) _ _ _ (by rfl) (w.heap.size+2) 51 i0 _ 3 32 Tryz.underlying47 hi0 hz0 hz1 hz2 rfl (by omega) u2 ts.length (bc_ ts) (by rfl) ((OW.out.alloc _).drew) ⟨wr.heap.size,0,none⟩ 1 1 [.int .i64 kd,.string (s.extract p (p+m)),.int .i64 p] (by rfl) (by rfl) (World.news_of_block (cs:=#[.int .i64 kd,.string (s.extract p (p+m)),.int .i64 p]) (t:=51) (fr:=(0,0)) (heap_alloc_new wr _)) (by simp[Value.oneCell']) (by omega) (by unfold maxLen;omega) (by omega) (by simp;omega) (wr.heap.size+1) (by simp) ?_;intro gg cap w1 hown1 hgrow hat hlt))
     have g0:w1.heap[w.heap.size]? = some (.cells #[.string s] 9 (0,0)):=by
      rw[hgrow.block _ (by simp;omega) (Ne.symm ag0)];exact (heap_alloc_old wr _ (by omega)).trans B0.out
     have g1:w1.heap[w.heap.size+1]? = some (.cells #[.int .i64 p] 3 (0,0)):=by
      rw[hgrow.block _ (by simp;omega) (Ne.symm ag1)];exact (heap_alloc_old wr _ (by omega)).trans B1.out
     have BL1:Below w.heap.size w w1:=(((BL.out.alloc (by omega) _).drew).grown hgrow (by simp;omega) (fun k hk=>by have:=OW.out.lt _ hk;omega));have k0:=cell_of_one g0;have k1:=cell_of_one g1;have kf:=free_of_one g1;have G0:=Lib.hid g0;have G1:=Lib.hid g1;have OW1:=Lib.hid hown1;have BLh:=Lib.hid BL1;clear g0 g1 BL1 hown1 hgrow hat hlt c0 c1 f1;go_wp2;obtain⟨q,hq⟩:∃ q,q=p+m:=⟨_,rfl⟩;have h0:(w1.setCell ⟨w.heap.size+1,0,none⟩ (.int .i64 ((p:Int)+(m:Int)))).heap[w.heap.size]? = some (.cells #[.string s] 9 (0,0)):=by
      rw[Below.heap_setCell _ _ _ _ (by simp)];exact G0.out
     have h1:(w1.setCell ⟨w.heap.size+1,0,none⟩ (.int .i64 ((p:Int)+(m:Int)))).heap[w.heap.size+1]? = some (.cells #[.int .i64 q] 3 (0,0)):=by
      rw[one_setCell G1.out,hq];simp
     have OW2:=Lib.hid (ownsRow_setCell_other OW1.out (a:=⟨w.heap.size+1,0,none⟩) (fun h=>by have:=OW1.out.lt _ h;simp at this) (.int .i64 ((p:Int)+(m:Int))));have BL2:=Lib.hid (BLh.out.setCell (p:=⟨w.heap.size+1,0,none⟩) (by simp) (.int .i64 ((p:Int)+(m:Int))));clear k0 k1 kf G0 G1 OW1 BLh;generalize w1.setCell ⟨w.heap.size+1,0,none⟩ (.int .i64 ((p:Int)+(m:Int)))=w2 at *;have k0:=cell_of_one h0;have k1:=cell_of_one h1;have kf:=free_of_one h1;have hq3:q≤s.size:=(by omega);have bt:=hi_ false (s.data.toList.drop q);have bt2:q+aj_ false (s.data.toList.drop q)≤s.size:=by simp at bt;omega
     have H0:=Lib.hid h0;have H1:=Lib.hid h1;have HQ:=Lib.hid hq;have cb:=hh_ (s.extract q s.size) w2.drew (by simp;unfold maxLen;omega);rw[dW_] at cb;clear h0 h1 hq bt z0 z1 z2 z3 z4 z5;have z0:(0:Int)≤(q:Int):=(by omega);have z1:(q:Int)≤(s.size:Int):=(by omega);generalize hbb:aj_ false (s.data.toList.drop q)=bb at *;have HBB:=Lib.hid hbb;have CB:=Lib.hid cb;clear hbb cb;have z2:IntKind.i64.wrap ((q:Int)+(bb:Int))=(q:Int)+(bb:Int):=IntWalk.i64_in _ (by omega)
     go_still_tail 6,(by kernel_rfl)
     still_call (CB.out.mono (fun e w'' h=>⟨h.1,h.2.symm⟩))
     repeat still_step
     refine wpStill_nil ?_;change wpList _ _ _ _ _ w2.drew;go_wp2;go_roundg (s.size - (q+bb))
     case measure=>have:=HQ.out;omega
     case rel =>
      refine⟨q+bb,rfl,ts++[⟨kd,(s.data.toList.drop p).take m,p⟩],by have:=HQ.out;simp;omega,bt2,?_,?_,?_,?_,?_⟩
      ·show (w2.setCell _ _).heap[_]? = _
       rw[Below.heap_setCell _ _ _ _ (by simp)];exact H0.out
      ·have h7:=one_setCell (u:=.int .i64 ((q:Int)+(bb:Int))) H1.out
       show (w2.setCell _ _).heap[_]? = _;simpa using h7
      ·have h9:=ownsRow_setCell_other OW2.out (a:=⟨w.heap.size+1,0,none⟩) (fun h=>by have:=OW2.out.lt _ h;simp at this) (.int .i64 ((q:Int)+(bb:Int)))
       have e1:bc_ (ts++[⟨kd,(s.data.toList.drop p).take m,p⟩])=bc_ ts++[.int .i64 kd,.string (s.extract p (p+m)),.int .i64 p]:=by
        rw[bc_,List.flatMap_append,gg_];rfl
       rw[e1,List.length_append];exact h9.drew
      ·exact (BL2.out.drew).setCell (by simp) _
      ·rw[E.out,Z.out]
       have:=HBB.out;have hq:=HQ.out;rw[List.drop_drop,← hq,this,show p+(m+bb)=q+bb by omega]
   ·go_wp2
    refine bodyPost_ret (v:=.tuple #[u2,.int .i64 0,.int .i64 0]) (by simp[results,Tryz.results15,go_sem,cell_of_one (one_setCell B1.out (u:=.int .i64 0))]) rfl ?_;unfold d0_;have e:s.data.toList.drop p=[]:=List.drop_of_length_le (by simp;omega);have:=E.out;rw[e,hF_] at this;rw[R.out,← R.out,this];refine⟨_,rfl,(BL.out).setCell (by simp) _,?_⟩;obtain⟨h1,h2⟩:=ownsRow_setCell_other OW.out (a:=⟨w.heap.size+1,0,none⟩) (fun h=>by have:=OW.out.lt _ h;simp at this) (.int .i64 0);refine⟨h1,h2.imp id ?_⟩;rintro ⟨g,cap,cur,k1,k2,k3⟩;exact⟨g,cap,cur,k1,by omega,k3⟩
end Go.Proofs.YtkihnodkhnahiaaGreatDoor

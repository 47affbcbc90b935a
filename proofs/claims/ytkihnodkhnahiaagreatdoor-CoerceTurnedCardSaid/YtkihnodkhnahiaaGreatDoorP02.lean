/- Texts laid together: LexTok, LexTokB, LexTokC, LexBetween. -/
import Derived.Test.YtkihnodkhnahiaaGreatDoorP01
import Derived.Lib.Strings
import Derived.Lib.Slices
import Derived.Lib.Walk
import Derived.Lib.Bytealg

namespace Go.Proofs.YtkihnodkhnahiaaGreatDoor
open Go.RowKit
open Lx
theorem head_at (s:ByteArray)(h0:0<s.size):s.data.toList.headD 0=s[0]:=by
 rcases s with ⟨⟨l⟩⟩
 cases l with
 | nil=>exact absurd h0 (by decide)
 | cons a l=>rfl
theorem kindL_key {s:ByteArray}{k:List UInt8}(h:(s.toList==k)=true)(hk:keys.contains k=true):kindL s.data.toList=3:=by
 rw[ByteArray.toList_eq] at h
 rw[eq_of_beq h,kindL,if_pos hk]
theorem kindL_word {s:ByteArray}(h1:(s.toList==[100,97,116,97])=false)(h2:(s.toList==[108,101,116])=false)(h3:(s.toList==[105,110])=false)
  (h4:(s.toList==[99,97,115,101])=false) (h5:(s.toList==[111,102])=false) (h6:(s.toList==[102,111,114,97,108,108])=false) (h0:0<s.size) :
  kindL s.data.toList=if upperB s[0] then 2 else 1:=by
 rw[ByteArray.toList_eq] at *
 have hk:keys.contains s.data.toList=false:=by
  simp only[keys,List.contains_cons,h1,h2,h3,h4,h5,h6];rfl
 rw[kindL,if_neg (by rw[hk];decide),head_at s h0]
theorem kind_any (s:ByteArray)(w:World)(h0:0<s.size):Calls Tryz.prog 68 #[.string s] w fun e w'=>e=.returned (.int .i64 (kindL s.data.toList))∧w=w':=by
 go_enter Tryz.func68,Tryz.ntmps68
 go_wp2_with (go_at_call 65;refine (upper_any _ _).mono ?_;rintro e w' ⟨rfl,rfl⟩)
 all_goals
  go_ret
  first
   | (exfalso;simp_all;done)
   | exact⟨ret_int (by rw[kindL_key ‹(s.toList==_)=true› (by decide)];rfl),rfl⟩
   | (rename_i hu;exact⟨ret_int (by rw[kindL_word ‹_› ‹_› ‹_› ‹_› ‹_› ‹_› h0,hu];rfl),rfl⟩)
theorem number_any (s:ByteArray)(w:World)(hs:s.size≤maxLen):Calls Tryz.prog 70 #[.string s] w fun e w'=>e=.returned (.int .i64 (numberL s.data.toList))∧w=w':=by
 have hle:=spanL_le digitB s.data.toList
 have hle2:spanL digitB s.data.toList≤s.size:=by simpa using hle
 unfold maxLen at hs
 go_enter Tryz.func70,Tryz.ntmps70
 go_wp2_with (go_at_call 66;refine (span_digit _ _ (by unfold maxLen;omega)).mono ?_;rintro e w' ⟨rfl,rfl⟩)
 all_goals
  go_ret
  refine⟨ret_int ?_,rfl⟩
  unfold numberL
  first
   | (rw[head_at s (by omega)];simp only[byte_dec s[0] 48 48 rfl] at *;by_cases h48:s[0]=48<;>simp only[h48,decide_true,decide_false,and_true,and_false,or_true,or_false,reduceCtorEq] at *<;>split<;>omega)
   | (split<;>omega)
open Lx
theorem token_long (s:ByteArray)(w:World)(h0:0<s.size)(hs:s.size≤maxLen)(hw:(lowerB s[0] || upperB s[0])=true)(hl:16<spanL innerB s.data.toList):Calls Tryz.prog 32 #[.string s] w fun e w'=>e=.returned (.tuple #[.int .i64 0,.int .i64 0])∧w=w':=by
 have hle:spanL innerB s.data.toList≤s.size:=by simpa using spanL_le innerB s.data.toList
 have hs':=hs
 unfold maxLen at hs
 cases h1:lowerB s[0]
 all_goals
  simp only[h1,Bool.false_or,Bool.true_or] at hw
  go_enter Tryz.func32,Tryz.ntmps32
  go_wp2_with (first|(go_at_call 64;refine (lower_any _ _).mono ?_;rintro e w' ⟨rfl,rfl⟩)|(go_at_call 65;refine (upper_any _ _).mono ?_;rintro e w' ⟨rfl,rfl⟩)|(go_at_call 66;refine (span_inner _ _ hs').mono ?_;rintro e w' ⟨rfl,rfl⟩))
  go_ret2
  exact⟨rfl,rfl⟩
theorem token_word (s:ByteArray)(w:World)(h0:0<s.size)(hs:s.size≤maxLen)(hw:(lowerB s[0] || upperB s[0])=true)(hl:spanL innerB s.data.toList≤16)(hp:0<spanL innerB s.data.toList):Calls Tryz.prog 32 #[.string s] w fun e w'=>e=.returned (.tuple #[.int .i64 (kindL (s.data.toList.take (spanL innerB s.data.toList))),.int .i64 (spanL innerB s.data.toList)])∧w=w':=by
 have hle:spanL innerB s.data.toList≤s.size:=by simpa using spanL_le innerB s.data.toList
 have hs':=hs
 have hk':0<(s.extract 0 (spanL innerB s.data.toList)).size:=by simp;omega
 unfold maxLen at hs
 cases h1:lowerB s[0]
 all_goals
  simp only[h1,Bool.false_or,Bool.true_or] at hw
  go_enter Tryz.func32,Tryz.ntmps32
  go_wp2_with (first|(go_at_call 64;refine (lower_any _ _).mono ?_;rintro e w' ⟨rfl,rfl⟩)|(go_at_call 65;refine (upper_any _ _).mono ?_;rintro e w' ⟨rfl,rfl⟩)|(go_at_call 66;refine (span_inner _ _ hs').mono ?_;rintro e w' ⟨rfl,rfl⟩)|(go_at_call 68;refine (kind_any _ _ hk').mono ?_;rintro e w' ⟨rfl,rfl⟩))
  go_ret2
  exact⟨rfl,rfl⟩
theorem token_num (s:ByteArray)(w:World)(h0:0<s.size)(hs:s.size≤maxLen)(h1:lowerB s[0]=false)(h2:upperB s[0]=false)(h3:digitB s[0]=true):Calls Tryz.prog 32 #[.string s] w fun e w'=>e=.returned (.tuple #[.int .i64 4,.int .i64 (numberL s.data.toList)])∧w=w':=by
 have hs':=hs
 unfold maxLen at hs
 go_enter Tryz.func32,Tryz.ntmps32
 go_wp2_with (first|(go_at_call 64;refine (lower_any _ _).mono ?_;rintro e w' ⟨rfl,rfl⟩)|(go_at_call 65;refine (upper_any _ _).mono ?_;rintro e w' ⟨rfl,rfl⟩)|(go_at_call 69;refine (digit_any _ _).mono ?_;rintro e w' ⟨rfl,rfl⟩)|(go_at_call 70;refine (number_any _ _ hs').mono ?_;rintro e w' ⟨rfl,rfl⟩))
 go_ret2
 exact⟨rfl,rfl⟩
theorem token_meta (s:ByteArray)(w:World)(h0:0<s.size)(hs:s.size≤maxLen)(h1:lowerB s[0]=false)(h2:upperB s[0]=false)(h3:digitB s[0]=false)(h4:((s[0].toNat:Int)==63)=true)(k:Nat)(hk:numberL (s.extract 1 s.size).data.toList=k):Calls Tryz.prog 32 #[.string s] w fun e w'=>e=.returned (.tuple #[.int .i64 (if k=0 then 0 else 5),.int .i64 (if k=0 then 0 else k+1)])∧w=w':=by
 have hn':(s.extract 1 s.size).size≤maxLen:=by simp;omega
 have hm:numberL (s.extract 1 s.size).data.toList+1≤s.size:=by
  have h7:=numberL_le (s.extract 1 s.size).data.toList
  have h8:(s.extract 1 s.size).data.toList.length=s.size - 1:=by simp
  omega
 rw[hk] at hm
 have H:=Lib.hid hk;clear hk
 unfold maxLen at hs
 by_cases hz:k=0
 ·subst hz
  go_enter Tryz.func32,Tryz.ntmps32
  go_wp2_with (first|(go_at_call 64;refine (lower_any _ _).mono ?_;rintro e w' ⟨rfl,rfl⟩)|(go_at_call 65;refine (upper_any _ _).mono ?_;rintro e w' ⟨rfl,rfl⟩)|(go_at_call 69;refine (digit_any _ _).mono ?_;rintro e w' ⟨rfl,rfl⟩)|(go_at_call 70;refine (number_any _ _ hn').mono ?_;rw[H.out];rintro e w' ⟨rfl,rfl⟩))
  go_ret2
  exact⟨rfl,rfl⟩
 ·have hz':((k:Int)==0)=false:=by simp;omega
  rw[if_neg hz,if_neg hz]
  go_enter Tryz.func32,Tryz.ntmps32
  go_wp2_with (first|(go_at_call 64;refine (lower_any _ _).mono ?_;rintro e w' ⟨rfl,rfl⟩)|(go_at_call 65;refine (upper_any _ _).mono ?_;rintro e w' ⟨rfl,rfl⟩)|(go_at_call 69;refine (digit_any _ _).mono ?_;rintro e w' ⟨rfl,rfl⟩)|(go_at_call 70;refine (number_any _ _ hn').mono ?_;rw[H.out];rintro e w' ⟨rfl,rfl⟩))
  go_ret2
  exact⟨rfl,rfl⟩
open Lx
theorem prefix_any (s p:ByteArray)(w:World):Calls Tryz.prog 71 #[.string s,.string p] w fun e w'=>e=.returned (.bool (p.data.toList.isPrefixOf s.data.toList))∧w=w':=by
 show Calls _ _ _ _ fun e w'=>e=.returned (.bool (Lib.hasPrefix s.data.toList p.data.toList))∧w=w'
 rw[← Lib.hasPrefix_of_take,← Lib.size_eq,← Lib.size_eq]
 go_enter Tryz.func71,Tryz.ntmps71
 go_wp2
 ·rename_i h
  go_ret
  refine⟨?_,rfl⟩
  show Ending.returned (Value.bool ((s.extract 0 p.size).toList==p.toList))=_
  rw[Lib.extract_toList,Lib.toList_data]
  simp[h]
 ·rename_i h
  go_ret
  refine⟨?_,rfl⟩
  show Ending.returned (Value.bool false)=_
  simp[h]
set_option maxRecDepth 100000 in
theorem indexByte_any (s:ByteArray)(c:Int)(w:World) :
  Calls Tryz.prog 72 #[.string s,.int .u8 c] w fun e w'=>e=.returned (.int .i64 (Lib.indexByte s.data.toList c.toNat.toUInt8))∧w=w':=by
 go_enter Tryz.func72,Tryz.ntmps72
 go_wp2
 rw[run_callFunc_extern Tryz.func111 (by kernel_rfl) (by kernel_rfl) (by kernel_rfl) (e:=Extern.BytealgIndexByte.indexByte) (by kernel_rfl),Lib.run_indexByteString]
 simp only[Result.andThen]
 rw[Oper.upon_value]
 go_wp2
 go_ret
 exact⟨rfl,rfl⟩
theorem indexByte_has (l:List UInt8)(c:UInt8):decide (0≤Lib.indexByte l c)=l.contains c:=by
 induction l with
 | nil=>rfl
 | cons b l ih =>
  have hg:=Lib.indexByte_ge l c
  unfold Lib.indexByte
  by_cases hb:b=c
  ·subst hb;simp
  ·have hb':(b==c)=false:=by simpa using hb
   have hc':(c==b)=false:=by simpa using fun h=>hb h.symm
   rw[hb',List.contains_cons,hc',← ih]
   simp only[Bool.false_or,Bool.false_eq_true,if_false]
   by_cases h1:Lib.indexByte l c = -1
   ·simp[h1]
   ·have h1':(Lib.indexByte l c==-1)=false:=by simpa using h1
    rw[h1'];simp only[Bool.false_eq_true,if_false,decide_eq_decide];omega
def signB (c:UInt8):Bool:=signs.contains c
theorem sign_yes (c:UInt8)(w:World)(h:signB c=true):Calls Tryz.prog 72 #[.string ⟨#[92,58,61,59,123,125,40,41,46,126,64,60,62,44,91,93,33]⟩,.int .u8 c.toNat] w fun e w'=>∃ n:Nat,e=.returned (.int .i64 n)∧w=w':=by
 refine (indexByte_any _ _ _).mono ?_
 rintro e w' ⟨rfl,rfl⟩
 have h2:=(indexByte_has signs c).trans h
 simp only[decide_eq_true_eq] at h2
 obtain⟨n,hn⟩:=Int.eq_ofNat_of_zero_le h2
 refine⟨n,ret_int ?_,rfl⟩
 rw[← hn];simp[signs]
theorem sign_no (c:UInt8)(w:World)(h:signB c=false):Calls Tryz.prog 72 #[.string ⟨#[92,58,61,59,123,125,40,41,46,126,64,60,62,44,91,93,33]⟩,.int .u8 c.toNat] w fun e w'=>e=.returned (.int .i64 (-1))∧w=w':=by
 refine (indexByte_any _ _ _).mono ?_
 rintro e w' ⟨rfl,rfl⟩
 have h2:=(indexByte_has signs c).trans h
 simp only[decide_eq_false_iff_not] at h2
 have h3:=Lib.indexByte_ge signs c
 refine⟨ret_int ?_,rfl⟩
 have:Lib.indexByte signs c = -1:=by omega
 rw[← this];simp[signs]
theorem token_arrow (s:ByteArray)(w:World)(h0:0<s.size)(h1:lowerB s[0]=false)(h2:upperB s[0]=false)(h3:digitB s[0]=false)(h4:((s[0].toNat:Int)==63)=false)(p:Bool)(hp:([45,62]:List UInt8).isPrefixOf s.data.toList=p)(q:Bool)(hq:([124,62]:List UInt8).isPrefixOf s.data.toList=q)(hpq:(p || q)=true):Calls Tryz.prog 32 #[.string s] w fun e w'=>e=.returned (.tuple #[.int .i64 6,.int .i64 2])∧w=w':=by
 have P:=Lib.hid hp;clear hp
 have Q:=Lib.hid hq;clear hq
 cases p
 all_goals
  simp only[Bool.false_or,Bool.true_or] at hpq
  go_enter Tryz.func32,Tryz.ntmps32
  go_wp2_with (first|(go_at_call 64;refine (lower_any _ _).mono ?_;rintro e w' ⟨rfl,rfl⟩)|(go_at_call 65;refine (upper_any _ _).mono ?_;rintro e w' ⟨rfl,rfl⟩)|(go_at_call 69;refine (digit_any _ _).mono ?_;rintro e w' ⟨rfl,rfl⟩)|(go_at_call 71;refine (prefix_any _ _ _).mono ?_;(first|rw[P.out]|rw[Q.out]);rintro e w' ⟨rfl,rfl⟩))
  go_ret2
  exact⟨rfl,rfl⟩
theorem token_sign (s:ByteArray)(w:World)(h0:0<s.size)(h1:lowerB s[0]=false)(h2:upperB s[0]=false)(h3:digitB s[0]=false)(h4:((s[0].toNat:Int)==63)=false)(hp:([45,62]:List UInt8).isPrefixOf s.data.toList=false)(hq:([124,62]:List UInt8).isPrefixOf s.data.toList=false)(b:Bool)(hb:signB s[0]=b):Calls Tryz.prog 32 #[.string s] w fun e w'=>e=.returned (.tuple #[.int .i64 (if b then 6 else 0),.int .i64 (if b then 1 else 0)])∧w=w':=by
 have P:=Lib.hid hp;clear hp
 have Q:=Lib.hid hq;clear hq
 have B:=Lib.hid hb;clear hb
 cases b
 ·go_enter Tryz.func32,Tryz.ntmps32
  go_wp2_with (first|(go_at_call 64;refine (lower_any _ _).mono ?_;rintro e w' ⟨rfl,rfl⟩)|(go_at_call 65;refine (upper_any _ _).mono ?_;rintro e w' ⟨rfl,rfl⟩)|(go_at_call 69;refine (digit_any _ _).mono ?_;rintro e w' ⟨rfl,rfl⟩)|(go_at_call 71;refine (prefix_any _ _ _).mono ?_;(first|rw[P.out]|rw[Q.out]);rintro e w' ⟨rfl,rfl⟩)|(go_at_call 72;refine (sign_no _ _ B.out).mono ?_;rintro e w' ⟨rfl,rfl⟩))
  go_ret2
  exact⟨rfl,rfl⟩
 ·go_enter Tryz.func32,Tryz.ntmps32
  go_wp2_with (first|(go_at_call 64;refine (lower_any _ _).mono ?_;rintro e w' ⟨rfl,rfl⟩)|(go_at_call 65;refine (upper_any _ _).mono ?_;rintro e w' ⟨rfl,rfl⟩)|(go_at_call 69;refine (digit_any _ _).mono ?_;rintro e w' ⟨rfl,rfl⟩)|(go_at_call 71;refine (prefix_any _ _ _).mono ?_;(first|rw[P.out]|rw[Q.out]);rintro e w' ⟨rfl,rfl⟩)|(go_at_call 72;refine (sign_yes _ _ B.out).mono ?_;rintro e w' ⟨n,rfl,rfl⟩))
  go_ret2
  exact⟨rfl,rfl⟩
theorem tokenL_head (s:ByteArray)(h0:0<s.size):tokenL s.data.toList =
 if lowerB s[0] || upperB s[0] then
  if 16<spanL innerB s.data.toList then (0,0) else (kindL (s.data.toList.take (spanL innerB s.data.toList)),spanL innerB s.data.toList)
 else if digitB s[0] then (4,numberL s.data.toList)
 else if s[0]=63 then (if numberL (s.data.toList.drop 1)=0 then (0,0) else (5,numberL (s.data.toList.drop 1)+1))
 else if [45,62].isPrefixOf s.data.toList || [124,62].isPrefixOf s.data.toList then (6,2)
 else if signB s[0] then (6,1)
 else (0,0):=by rw[tokenL,head_at s h0];rfl
theorem token_any (s:ByteArray)(w:World)(h0:0<s.size)(hs:s.size≤maxLen):Calls Tryz.prog 32 #[.string s] w fun e w'=>e=.returned (.tuple #[.int .i64 (tokenL s.data.toList).1,.int .i64 (tokenL s.data.toList).2])∧w=w':=by
 rw[tokenL_head s h0]
 by_cases c1:(lowerB s[0] || upperB s[0])=true
 ·rw[if_pos c1]
  by_cases c2:16<spanL innerB s.data.toList
  ·rw[if_pos c2];exact token_long s w h0 hs c1 c2
  ·rw[if_neg c2]
   refine token_word s w h0 hs c1 (by omega) ?_
   rcases s with ⟨⟨l⟩⟩
   cases l with
   | nil=>exact absurd h0 (by decide)
   | cons a l =>
    have ha:(lowerB a || upperB a)=true:=c1
    have hi:innerB a=true:=by unfold innerB;rw[ha];rfl
    simp[spanL,hi]
 ·have c1':lowerB s[0]=false∧upperB s[0]=false:=by simpa using c1
  rw[if_neg c1]
  by_cases c3:digitB s[0]=true
  ·rw[if_pos c3];exact token_num s w h0 hs c1'.1 c1'.2 c3
  ·rw[if_neg c3]
   have c3':digitB s[0]=false:=by simpa using c3
   by_cases c4:s[0]=63
   ·rw[if_pos c4]
    have c4':((s[0].toNat:Int)==63)=true:=by rw[c4];rfl
    have e:(s.extract 1 s.size).data.toList=s.data.toList.drop 1:=by simp;exact List.take_of_length_le (by simp)
    have:=token_meta s w h0 hs c1'.1 c1'.2 c3' c4' _ rfl
    rw[e] at this
    by_cases c5:numberL (s.data.toList.drop 1)=0
    ·rw[if_pos c5,if_pos c5] at this;rw[if_pos c5];exact this
    ·rw[if_neg c5,if_neg c5] at this;rw[if_neg c5];exact this
   ·rw[if_neg c4]
    have c4':((s[0].toNat:Int)==63)=false:=by rw[byte_dec _ 63 63 rfl];simpa using c4
    by_cases c6:(([45,62]:List UInt8).isPrefixOf s.data.toList || ([124,62]:List UInt8).isPrefixOf s.data.toList)=true
    ·rw[if_pos c6];exact token_arrow s w h0 c1'.1 c1'.2 c3' c4' _ rfl _ rfl c6
    ·rw[if_neg c6]
     have c6':([45,62]:List UInt8).isPrefixOf s.data.toList=false∧([124,62]:List UInt8).isPrefixOf s.data.toList=false:=by simpa only[Bool.or_eq_true,not_or,Bool.not_eq_true] using c6
     have:=token_sign s w h0 c1'.1 c1'.2 c3' c4' c6'.1 c6'.2 _ rfl
     cases hb:signB s[0]
     ·rw[hb] at this;exact this
     ·rw[hb] at this;exact this
open Lx
theorem btw_step (s:ByteArray)(k:Nat)(h:k<s.size)(r:Bool):betweenL r (s.data.toList.drop k) =
  if s[k]=35 then betweenL true (s.data.toList.drop (k+1))+1
  else if s[k]=10 then betweenL false (s.data.toList.drop (k+1))+1
  else if !r&&s[k] != 32&&s[k] != 9 then 0
  else betweenL r (s.data.toList.drop (k+1))+1:=by
 have e:s.data.toList.drop k=s[k] :: s.data.toList.drop (k+1):=by
  rw[List.drop_eq_getElem_cons (by simpa using h)];rfl
 rw[e,betweenL]
theorem byte_eqT {c:UInt8}(n:Int)(k:UInt8)(h:c=k)(hk:(k.toNat:Int)=n):((c.toNat:Int)==n)=true:=by rw[byte_dec c n k hk];simpa using h
theorem byte_eqF {c:UInt8}(n:Int)(k:UInt8)(h:c≠k)(hk:(k.toNat:Int)=n):((c.toNat:Int)==n)=false:=by rw[byte_dec c n k hk];simpa using h
theorem byte_neT {c:UInt8}(n:Int)(k:UInt8)(h:c≠k)(hk:(k.toNat:Int)=n):((c.toNat:Int) != n)=true:=by rw[bne,byte_eqF n k h hk];rfl
theorem byte_neF {c:UInt8}(n:Int)(k:UInt8)(h:c=k)(hk:(k.toNat:Int)=n):((c.toNat:Int) != n)=false:=by rw[bne,byte_eqT n k h hk];rfl
set_option maxHeartbeats 800000 in
theorem between_any (s:ByteArray)(w:World)(hs:s.size≤maxLen) :
  Calls Tryz.prog 33 #[.string s] w fun e w'=>e=.returned (.int .i64 (betweenL false s.data.toList))∧w=w':=by
 unfold maxLen at hs
 go_enter Tryz.func33,Tryz.ntmps33
 go_wp2
 go_loop [3,4] (fun n r=>∃ (k:Nat) (b:Bool),k≤s.size∧n=.int .i64 k∧r=.bool b∧betweenL false s.data.toList=k+betweenL b (s.data.toList.drop k)) (fun n _=>s.size - (intOf n).toNat)
 case atStart=>exact⟨0,false,Nat.zero_le _,rfl,rfl,by simp⟩
 case round =>
  obtain⟨k,b,hk,rfl,rfl,hb⟩:=hrel
  have H:=Lib.hid hb;clear hb
  by_cases hlt:k<s.size
  ·have st:=btw_step s k hlt b
   by_cases c1:s[k]=35
   ·rw[if_pos c1] at st
    have S:=Lib.hid st;clear st
    have f1:=byte_eqT 35 35 c1 rfl
    clear c1
    go_wp2
    go_round
    case rel=>exact⟨k+1,true,by omega,by go_num,rfl,by rw[H.out,S.out];omega⟩
    case measure=>simp[intOf];omega
   ·rw[if_neg c1] at st
    have f1:=byte_eqF 35 35 c1 rfl
    clear c1
    by_cases c2:s[k]=10
    ·rw[if_pos c2] at st
     have S:=Lib.hid st;clear st
     have f2:=byte_eqT 10 10 c2 rfl
     clear c2
     go_wp2
     go_round
     case rel=>exact⟨k+1,false,by omega,by go_num,rfl,by rw[H.out,S.out];omega⟩
     case measure=>simp[intOf];omega
    ·rw[if_neg c2] at st
     have f2:=byte_eqF 10 10 c2 rfl
     clear c2
     cases b
     ·by_cases c3:s[k]=32
      ·rw[if_neg (by simp[c3])] at st
       have S:=Lib.hid st;clear st
       have f3:=byte_neF 32 32 c3 rfl
       clear c3
       go_wp2
       go_round
       case rel=>exact⟨k+1,false,by omega,by go_num,rfl,by rw[H.out,S.out];omega⟩
       case measure=>simp[intOf];omega
      ·have f3:=byte_neT 32 32 c3 rfl
       by_cases c4:s[k]=9
       ·rw[if_neg (by simp[c4])] at st
        have S:=Lib.hid st;clear st
        have f4:=byte_neF 9 9 c4 rfl
        clear c3 c4
        go_wp2
        go_round
        case rel=>exact⟨k+1,false,by omega,by go_num,rfl,by rw[H.out,S.out];omega⟩
        case measure=>simp[intOf];omega
       ·rw[if_pos (by simp[c3,c4])] at st
        have S:=Lib.hid st;clear st
        have f4:=byte_neT 9 9 c4 rfl
        clear c3 c4
        go_wp2
        go_ret
        exact⟨ret_int (by rw[H.out,S.out];rfl),rfl⟩
     ·rw[if_neg (by simp)] at st
      have S:=Lib.hid st;clear st
      go_wp2
      go_round
      case rel=>exact⟨k+1,true,by omega,by go_num,rfl,by rw[H.out,S.out];omega⟩
      case measure=>simp[intOf];omega
  ·go_wp2
   go_ret
   have e:k=s.size:=by omega
   exact⟨ret_int (by rw[H.out,e];simp[List.drop_of_length_le,betweenL]),rfl⟩
end Go.Proofs.YtkihnodkhnahiaaGreatDoor

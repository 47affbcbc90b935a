/- Packed. -/
import Derived.Test.YtjecnionbjlncaaGreatDoorP03
import Derived.Lib.Strings
import Derived.Lib.Slices
import Derived.Lib.Walk
import Derived.Lib.Bytealg
import Derived.StillTailTactics
import Derived.Deep.RegionLaw
import Derived.Deep.LoopGhost
import Derived.Deep.RegionHeld3
import Derived.Deep.AppendLies
import Derived.RegionTactic
import Derived.IntWalk
set_option maxRecDepth 100000
set_option maxHeartbeats 6400000
namespace Go.Proofs.YtjecnionbjlncaaGreatDoor
open Go.RowKit
open Lx
theorem fF_ (s p:ByteArray)(w:World):Calls Tryz.prog 125 #[.string s,.string p] w fun e w'=>e=.returned (.bool (p.data.toList.isPrefixOf s.data.toList))∧w=w':=by
 show Calls _ _ _ _ fun e w'=>e=.returned (.bool (Lib.hasPrefix s.data.toList p.data.toList))∧w=w';rw[← Lib.hasPrefix_of_take,← Lib.size_eq,← Lib.size_eq];go_enter Tryz.func125,Tryz.ntmps125;go_wp2
 ·rename_i h
  go_ret;refine⟨?_,rfl⟩;show Ending.returned (Value.bool ((s.extract 0 p.size).toList==p.toList))=_;rw[Lib.extract_toList,Lib.toList_data];simp[h]
 ·rename_i h
  go_ret;refine⟨?_,rfl⟩;show Ending.returned (Value.bool false)=_;simp[h]
theorem fb_ (s:ByteArray)(c:Int)(w:World) :
  Calls Tryz.prog 126 #[.string s,.int .u8 c] w fun e w'=>e=.returned (.int .i64 (Lib.indexByte s.data.toList c.toNat.toUInt8))∧w=w':=by
 go_enter Tryz.func126,Tryz.ntmps126;go_wp2;rw[run_callFunc_extern Tryz.func167 (by kernel_rfl) (by kernel_rfl) (by kernel_rfl) (e:=Extern.BytealgIndexByte.indexByte) (by kernel_rfl),Lib.run_indexByteString];simp only[Result.andThen];rw[Oper.upon_value];go_wp2;go_ret;exact⟨rfl,rfl⟩
theorem fa_ (l:List UInt8)(c:UInt8):decide (0≤Lib.indexByte l c)=l.contains c:=by
 induction l with
 | nil=>rfl
 | cons b l ih =>
  have hg:=Lib.indexByte_ge l c;unfold Lib.indexByte
  by_cases hb:b=c
  ·subst hb;simp
  ·have hb':(b==c)=false:=by simpa using hb
   have hc':(c==b)=false:=by simpa using fun h=>hb h.symm
   rw[hb',List.contains_cons,hc',← ih];simp only[Bool.false_or,Bool.false_eq_true,if_false]
   by_cases h1:Lib.indexByte l c = -1
   ·simp[h1]
   ·have h1':(Lib.indexByte l c==-1)=false:=by simpa using h1
    rw[h1'];simp only[Bool.false_eq_true,if_false,decide_eq_decide];omega
def fB_ (c:UInt8):Bool:=gn_.contains c
theorem n4_ (c:UInt8)(w:World)(h:fB_ c=true):Calls Tryz.prog 126 #[.string ⟨#[92,58,61,59,123,125,40,41,46,126,64,60,62,44,91,93,33]⟩,.int .u8 c.toNat] w fun e w'=>∃ n:Nat,e=.returned (.int .i64 n)∧w=w':=by
 refine (fb_ _ _ _).mono ?_;rintro e w' ⟨rfl,rfl⟩;have h2:=(fa_ gn_ c).trans h;simp only[decide_eq_true_eq] at h2;obtain⟨n,hn⟩:=Int.eq_ofNat_of_zero_le h2;refine⟨n,bc_ ?_,rfl⟩;rw[← hn];simp[gn_]
theorem qh_ (c:UInt8)(w:World)(h:fB_ c=false):Calls Tryz.prog 126 #[.string ⟨#[92,58,61,59,123,125,40,41,46,126,64,60,62,44,91,93,33]⟩,.int .u8 c.toNat] w fun e w'=>e=.returned (.int .i64 (-1))∧w=w':=by
 refine (fb_ _ _ _).mono ?_;rintro e w' ⟨rfl,rfl⟩;have h2:=(fa_ gn_ c).trans h;simp only[decide_eq_false_iff_not] at h2;have h3:=Lib.indexByte_ge gn_ c;refine⟨bc_ ?_,rfl⟩;have:Lib.indexByte gn_ c = -1:=by omega
 rw[← this];simp[gn_]
theorem jr_ (s:ByteArray)(w:World)(h0:0<s.size)(h1:a9_ s[0]=false)(h2:aV_ s[0]=false)(h3:au_ s[0]=false)(h4:((s[0].toNat:Int)==63)=false)(p:Bool)(hp:([45,62]:List UInt8).isPrefixOf s.data.toList=p)(q:Bool)(hq:([124,62]:List UInt8).isPrefixOf s.data.toList=q)(hpq:(p || q)=true):Calls Tryz.prog 90 #[.string s] w fun e w'=>e=.returned (.tuple #[.int .i64 6,.int .i64 2])∧w=w':=by
 have P:=Lib.hid hp;clear hp;have Q:=Lib.hid hq;clear hq;cases p
 all_goals
  simp only[Bool.false_or,Bool.true_or] at hpq;go_enter Tryz.func90,Tryz.ntmps90;go_wp2_with (first|(go_at_call 118;refine (ck_ _ _).mono ?_;rintro e w' ⟨rfl,rfl⟩)|(go_at_call 119;refine (b0_ _ _).mono ?_;rintro e w' ⟨rfl,rfl⟩)|(go_at_call 123;refine (cH_ _ _).mono ?_;rintro e w' ⟨rfl,rfl⟩)|(go_at_call 125;refine (fF_ _ _ _).mono ?_;(first|rw[P.out]|rw[Q.out]);rintro e w' ⟨rfl,rfl⟩));go_ret2;exact⟨rfl,rfl⟩
theorem kY_ (s:ByteArray)(w:World)(h0:0<s.size)(h1:a9_ s[0]=false)(h2:aV_ s[0]=false)(h3:au_ s[0]=false)(h4:((s[0].toNat:Int)==63)=false)(hp:([45,62]:List UInt8).isPrefixOf s.data.toList=false)(hq:([124,62]:List UInt8).isPrefixOf s.data.toList=false)(b:Bool)(hb:fB_ s[0]=b):Calls Tryz.prog 90 #[.string s] w fun e w'=>e=.returned (.tuple #[.int .i64 (if b then 6 else 0),.int .i64 (if b then 1 else 0)])∧w=w':=by
 have P:=Lib.hid hp;clear hp;have Q:=Lib.hid hq;clear hq;have B:=Lib.hid hb;clear hb;cases b
 ·go_enter Tryz.func90,Tryz.ntmps90
  go_wp2_with (first|(go_at_call 118;refine (ck_ _ _).mono ?_;rintro e w' ⟨rfl,rfl⟩)|(go_at_call 119;refine (b0_ _ _).mono ?_;rintro e w' ⟨rfl,rfl⟩)|(go_at_call 123;refine (cH_ _ _).mono ?_;rintro e w' ⟨rfl,rfl⟩)|(go_at_call 125;refine (fF_ _ _ _).mono ?_;(first|rw[P.out]|rw[Q.out]);rintro e w' ⟨rfl,rfl⟩)|(go_at_call 126;refine (qh_ _ _ B.out).mono ?_;rintro e w' ⟨rfl,rfl⟩));go_ret2;exact⟨rfl,rfl⟩
 ·go_enter Tryz.func90,Tryz.ntmps90
  go_wp2_with (first|(go_at_call 118;refine (ck_ _ _).mono ?_;rintro e w' ⟨rfl,rfl⟩)|(go_at_call 119;refine (b0_ _ _).mono ?_;rintro e w' ⟨rfl,rfl⟩)|(go_at_call 123;refine (cH_ _ _).mono ?_;rintro e w' ⟨rfl,rfl⟩)|(go_at_call 125;refine (fF_ _ _ _).mono ?_;(first|rw[P.out]|rw[Q.out]);rintro e w' ⟨rfl,rfl⟩)|(go_at_call 126;refine (n4_ _ _ B.out).mono ?_;rintro e w' ⟨n,rfl,rfl⟩));go_ret2;exact⟨rfl,rfl⟩
theorem js_ (s:ByteArray)(h0:0<s.size):aW_ s.data.toList =
 if a9_ s[0] || aV_ s[0] then
  if 16<bp_ aP_ s.data.toList then (0,0) else (e9_ (s.data.toList.take (bp_ aP_ s.data.toList)),bp_ aP_ s.data.toList)
 else if au_ s[0] then (4,aL_ s.data.toList)
 else if s[0]=63 then (if aL_ (s.data.toList.drop 1)=0 then (0,0) else (5,aL_ (s.data.toList.drop 1)+1))
 else if [45,62].isPrefixOf s.data.toList || [124,62].isPrefixOf s.data.toList then (6,2)
 else if fB_ s[0] then (6,1)
 else (0,0):=by rw[aW_,h4_ s h0];rfl
theorem lV_ (s:ByteArray)(w:World)(h0:0<s.size)(hs:s.size≤maxLen):Calls Tryz.prog 90 #[.string s] w fun e w'=>e=.returned (.tuple #[.int .i64 (aW_ s.data.toList).1,.int .i64 (aW_ s.data.toList).2])∧w=w':=by
 rw[js_ s h0]
 by_cases c1:(a9_ s[0] || aV_ s[0])=true
 ·rw[if_pos c1]
  by_cases c2:16<bp_ aP_ s.data.toList
  ·rw[if_pos c2];exact k0_ s w h0 hs c1 c2
  ·rw[if_neg c2]
   refine kX_ s w h0 hs c1 (by omega) ?_
   rcases s with ⟨⟨l⟩⟩
   cases l with
   | nil=>exact absurd h0 (by decide)
   | cons a l =>
    have ha:(a9_ a || aV_ a)=true:=c1;have hi:aP_ a=true:=by unfold aP_;rw[ha];rfl
    simp[bp_,hi]
 ·have c1':a9_ s[0]=false∧aV_ s[0]=false:=by simpa using c1
  rw[if_neg c1]
  by_cases c3:au_ s[0]=true
  ·rw[if_pos c3];exact lU_ s w h0 hs c1'.1 c1'.2 c3
  ·rw[if_neg c3]
   have c3':au_ s[0]=false:=by simpa using c3
   by_cases c4:s[0]=63
   ·rw[if_pos c4]
    have c4':((s[0].toNat:Int)==63)=true:=by rw[c4];rfl
    have e:(s.extract 1 s.size).data.toList=s.data.toList.drop 1:=by simp;exact List.take_of_length_le (by simp)
    have:=kZ_ s w h0 hs c1'.1 c1'.2 c3' c4' _ rfl;rw[e] at this
    by_cases c5:aL_ (s.data.toList.drop 1)=0
    ·rw[if_pos c5,if_pos c5] at this;rw[if_pos c5];exact this
    ·rw[if_neg c5,if_neg c5] at this;rw[if_neg c5];exact this
   ·rw[if_neg c4]
    have c4':((s[0].toNat:Int)==63)=false:=by rw[gh_ _ 63 63 rfl];simpa using c4
    by_cases c6:(([45,62]:List UInt8).isPrefixOf s.data.toList || ([124,62]:List UInt8).isPrefixOf s.data.toList)=true
    ·rw[if_pos c6];exact jr_ s w h0 c1'.1 c1'.2 c3' c4' _ rfl _ rfl c6
    ·rw[if_neg c6]
     have c6':([45,62]:List UInt8).isPrefixOf s.data.toList=false∧([124,62]:List UInt8).isPrefixOf s.data.toList=false:=by simpa only[Bool.or_eq_true,not_or,Bool.not_eq_true] using c6
     have:=kY_ s w h0 c1'.1 c1'.2 c3' c4' c6'.1 c6'.2 _ rfl;cases hb:fB_ s[0]
     ·rw[hb] at this;exact this
     ·rw[hb] at this;exact this
open Lx
theorem dm_ (s:ByteArray)(k:Nat)(h:k<s.size)(r:Bool):as_ r (s.data.toList.drop k) =
  if s[k]=35 then as_ true (s.data.toList.drop (k+1))+1
  else if s[k]=10 then as_ false (s.data.toList.drop (k+1))+1
  else if !r&&s[k] != 32&&s[k] != 9 then 0
  else as_ r (s.data.toList.drop (k+1))+1:=by
 have e:s.data.toList.drop k=s[k] :: s.data.toList.drop (k+1):=by
  rw[List.drop_eq_getElem_cons (by simpa using h)];rfl
 rw[e,as_]
theorem bF_ {c:UInt8}(n:Int)(k:UInt8)(h:c=k)(hk:(k.toNat:Int)=n):((c.toNat:Int)==n)=true:=by rw[gh_ c n k hk];simpa using h
theorem bn_ {c:UInt8}(n:Int)(k:UInt8)(h:c≠k)(hk:(k.toNat:Int)=n):((c.toNat:Int)==n)=false:=by rw[gh_ c n k hk];simpa using h
theorem ig_ {c:UInt8}(n:Int)(k:UInt8)(h:c≠k)(hk:(k.toNat:Int)=n):((c.toNat:Int) != n)=true:=by rw[bne,bn_ n k h hk];rfl
theorem ih_ {c:UInt8}(n:Int)(k:UInt8)(h:c=k)(hk:(k.toNat:Int)=n):((c.toNat:Int) != n)=false:=by rw[bne,bF_ n k h hk];rfl
theorem gT_ (s:ByteArray)(w:World)(hs:s.size≤maxLen) :
  Calls Tryz.prog 91 #[.string s] w fun e w'=>e=.returned (.int .i64 (as_ false s.data.toList))∧w=w':=by
 unfold maxLen at hs;go_enter Tryz.func91,Tryz.ntmps91;go_wp2
 go_loop [3,4] (fun n r=>∃ (k:Nat) (b:Bool),k≤s.size∧n=.int .i64 k∧r=.bool b∧as_ false s.data.toList=k+as_ b (s.data.toList.drop k)) (fun n _=>s.size - (intOf n).toNat)
 case atStart=>exact⟨0,false,Nat.zero_le _,rfl,rfl,by simp⟩
 case round =>
  obtain⟨k,b,hk,rfl,rfl,hb⟩:=hrel;have H:=Lib.hid hb;clear hb
  by_cases hlt:k<s.size
  ·have st:=dm_ s k hlt b
   by_cases c1:s[k]=35
   ·rw[if_pos c1] at st
    have S:=Lib.hid st;clear st;have f1:=bF_ 35 35 c1 rfl;clear c1;go_wp2;go_round
    case rel=>exact⟨k+1,true,by omega,by go_num,rfl,by rw[H.out,S.out];omega⟩
    case measure=>simp[intOf];omega
   ·rw[if_neg c1] at st
    have f1:=bn_ 35 35 c1 rfl;clear c1
    by_cases c2:s[k]=10
    ·rw[if_pos c2] at st
     have S:=Lib.hid st;clear st;have f2:=bF_ 10 10 c2 rfl;clear c2;go_wp2;go_round
     case rel=>exact⟨k+1,false,by omega,by go_num,rfl,by rw[H.out,S.out];omega⟩
     case measure=>simp[intOf];omega
    ·rw[if_neg c2] at st
     have f2:=bn_ 10 10 c2 rfl;clear c2;cases b
     ·by_cases c3:s[k]=32
      ·rw[if_neg (by simp[c3])] at st
       have S:=Lib.hid st;clear st;have f3:=ih_ 32 32 c3 rfl;clear c3;go_wp2;go_round
       case rel=>exact⟨k+1,false,by omega,by go_num,rfl,by rw[H.out,S.out];omega⟩
       case measure=>simp[intOf];omega
      ·have f3:=ig_ 32 32 c3 rfl
       by_cases c4:s[k]=9
       ·rw[if_neg (by simp[c4])] at st
        have S:=Lib.hid st;clear st;have f4:=ih_ 9 9 c4 rfl;clear c3 c4;go_wp2;go_round
        case rel=>exact⟨k+1,false,by omega,by go_num,rfl,by rw[H.out,S.out];omega⟩
        case measure=>simp[intOf];omega
       ·rw[if_pos (by simp[c3,c4])] at st
        have S:=Lib.hid st;clear st;have f4:=ig_ 9 9 c4 rfl;clear c3 c4;go_wp2;go_ret;exact⟨bc_ (by rw[H.out,S.out];rfl),rfl⟩
     ·rw[if_neg (by simp)] at st
      have S:=Lib.hid st;clear st;go_wp2;go_round
      case rel=>exact⟨k+1,true,by omega,by go_num,rfl,by rw[H.out,S.out];omega⟩
      case measure=>simp[intOf];omega
  ·go_wp2
   go_ret;have e:k=s.size:=(by omega);exact⟨bc_ (by rw[H.out,e];simp[List.drop_of_length_le,as_]),rfl⟩
open Lx
theorem dk_ (s:ByteArray)(p:Nat):(s.extract p s.size).data.toList=s.data.toList.drop p:=by
 simp;exact List.take_of_length_le (by simp)
theorem oM_ (s:ByteArray)(p:Nat)(a b:Addr)(w:World)(hs:s.size≤maxLen)(hp:p<s.size)(ha:w.cell? a=some (.string s))(hb:w.cell? b=some (.int .i64 p)) :
  Calls Tryz.prog 89 #[.pointer (some a),.pointer (some b)] w fun e w'=>e=.returned (.tuple #[.int .i64 (aW_ (s.data.toList.drop p)).1,.int .i64 (aW_ (s.data.toList.drop p)).2])∧w=w':=by
 have hs':(s.extract p s.size).size≤maxLen:=by simp;omega
 have h0:0<(s.extract p s.size).size:=by simp;omega
 have tk:=lV_ (s.extract p s.size) w h0 hs';rw[dk_] at tk;have T:=Lib.hid tk;clear tk;unfold maxLen at hs;go_enter Tryz.func89,Tryz.ntmps89;go_wp2_with (go_at_call 90;refine T.out.mono ?_;rintro e w' ⟨rfl,rfl⟩);go_ret2;exact⟨rfl,rfl⟩
theorem fZ_ (s:ByteArray)(p m:Nat):s.extract p (p+m)=⟨((s.data.toList.drop p).take m).toArray⟩:=by
 have h:(s.extract p (p+m)).data.toList=(s.data.toList.drop p).take m:=by simp
 rw[← h]
def nX_ (t:Tok):List Value:=[.int .i64 t.kind,.string ⟨t.text.toArray⟩,.int .i64 t.pos]
def a4_ (ts:List Tok):List Value:=ts.flatMap nX_
def dn_ (s:ByteArray)(w:World)(e:Ending)(w':World):Prop :=
 ∃ v,e=.returned (.tuple #[v,.int .i64 (cq_ s.data.toList).2.1,.int .i64 (cq_ s.data.toList).2.2])∧Below w.heap.size w w' ∧
  w'.ownsRow w.heap.size 138 3 v (cq_ s.data.toList).1.length (a4_ (cq_ s.data.toList).1)
theorem hh_ (l:List UInt8)(h:4000<l.length):cq_ l=([],0,2):=by rw[cq_,if_pos h]
theorem jt_ (l:List UInt8)(h:¬ 4000<l.length):cq_ l=d1_ (l.drop (as_ false l)) (as_ false l) []:=by rw[cq_,if_neg h]
theorem kE_:(Tryz.prog.info? 138).map (fun i=>(i.zero,i.size,i.bytes))=some (some (.agg #[.int .i64 0,.string ByteArray.empty,.int .i64 0]),3,32):=by kernel_rfl
def ri_ (s:ByteArray)(w:World)(p:Nat)(v:Value)(wr:World):Prop :=
 ∃ ts:List Tok,ts.length≤p∧p≤s.size∧wr.heap[w.heap.size]? = some (.cells #[.string s] 9 (0,0))∧wr.heap[w.heap.size+1]? = some (.cells #[.int .i64 p] 3 (0,0)) ∧
  wr.ownsRow (w.heap.size+2) 138 3 v ts.length (a4_ ts)∧Below w.heap.size w wr∧cq_ s.data.toList=d1_ (s.data.toList.drop p) p ts
theorem n5_ (s:ByteArray)(w:World)(hs:s.size≤maxLen) :
  Calls Tryz.prog 51 #[.string s] w (dn_ s w):=by
 unfold maxLen at hs
 by_cases hl:4000<s.size
 ·have hr:=hh_ s.data.toList (by simpa using hl)
  have R:=Lib.hid hr;clear hr;go_enter Tryz.func51,Tryz.ntmps51;go_wp2;refine bodyPost_ret (v:=.tuple #[.slice none 0 0,.int .i64 0,.int .i64 2]) (by simp[results,Tryz.results51,go_sem]) rfl ?_;unfold dn_;rw[R.out];refine⟨_,rfl,((Below.refl _ _).alloc (by simp) _).alloc (by simp) _,World.ownsRow_nil _ _ _ _⟩
 ·have hbl:=gU_ false s.data.toList
  have hbl2:as_ false s.data.toList≤s.size:=by simpa using hbl
  have hr:=jt_ s.data.toList (by simpa using hl);have R:=Lib.hid hr;clear hr hbl;go_enter Tryz.func51,Tryz.ntmps51;go_wp2_with (go_at_call 91;refine (gT_ _ _ (by unfold maxLen;omega)).mono ?_;rintro e w' ⟨rfl,rfl⟩)
  go_loopg [2] (s.size - as_ false s.data.toList) (fun k v wr=>∃ p,k=s.size - p∧ri_ s w p v wr)
  case atStart =>
   refine⟨as_ false s.data.toList,rfl,[],Nat.zero_le _,hbl2,?_,?_,World.ownsRow_nil _ _ _ _,((Below.refl _ _).alloc (by simp) _).alloc (by simp) _,R.out⟩
   ·rw[heap_alloc_old _ _ (by simp)];exact heap_alloc_new _ _
   ·have:=heap_alloc_new (w.alloc (.cells #[.string s] 9)) (.cells #[.int .i64 (as_ false s.data.toList)] 3)
    simpa using this
  case round =>
   obtain⟨p,rfl,ts,htp,hp,b0,b1,hown,hbel,heq⟩:=hrel;obtain⟨i0,hi0,hz0,hz1,hz2⟩:=info_parts kE_;have c0:=cell_of_one b0;have c1:=cell_of_one b1;have f1:=free_of_one b1;have L1:=lt_of_block b1;have B0:=Lib.hid b0;have B1:=Lib.hid b1;have E:=Lib.hid heq;have OW:=Lib.hid hown;have BL:=Lib.hid hbel;clear b0 b1 heq hown hbel
   by_cases hlt:p<s.size
   ·have nx:=oM_ s p ⟨w.heap.size,0,none⟩ ⟨w.heap.size+1,0,none⟩ wr (by unfold maxLen;omega) hlt c0 c1
    have NX:=Lib.hid nx;clear nx;have hne:s.data.toList.drop p≠[]:=by intro h;have:=congrArg List.length h;simp at this;omega
    have tle:=gj_ _ hne;have tle2:p+(aW_ (s.data.toList.drop p)).2≤s.size:=by simp at tle;omega
    clear tle;have Z1:=hi_ (s.data.toList.drop p) p ts hne;have Z2:=gq_ (s.data.toList.drop p) p ts hne;rw[List.drop_drop,List.drop_drop] at Z2;generalize htk:aW_ (s.data.toList.drop p)=tk at *;obtain⟨kd,m⟩:=tk;have HT:=Lib.hid htk;clear htk hne;simp only at tle2 Z1 Z2
    by_cases hz:m=0
    ·have Z:=Lib.hid (Z1 hz)
     have hzz:((m:Int)==0)=true:=by simpa using hz
     clear hz Z1 Z2;go_wp2_with (go_at_call 89;refine NX.out.mono ?_;rintro e w' ⟨rfl,rfl⟩)
     go_region
     go_wp2;refine bodyPost_ret (v:=.tuple #[.slice none 0 0,.int .i64 p,.int .i64 10]) (by simp[results,Tryz.results51,go_sem,c1]) rfl ?_;unfold dn_;rw[R.out,← R.out,E.out,Z.out];exact⟨_,rfl,(BL.out.drew).setCell (by simp) _,World.ownsRow_nil _ _ _ _⟩
    ·have Z:=Lib.hid (Z2 hz)
     have hzz:((m:Int)==0)=false:=by simpa using hz
     have z0:(0:Int)≤(p:Int):=(by omega);have z1:(0:Int)≤(p:Int)+(m:Int):=(by omega);have z2:(p:Int)≤(p:Int)+(m:Int):=(by omega);have z3:(p:Int)+(m:Int)≤(s.size:Int):=(by omega);have z4:IntKind.i64.wrap ((p:Int)+(m:Int))=(p:Int)+(m:Int):=IntWalk.i64_in _ (by omega);have z5:((p:Int)+(m:Int)).toNat=p+m:=(by omega);have ag0:u2.ownBlock≠some w.heap.size:=fun h=>by have:=OW.out.lt _ h;omega
     have ag1:u2.ownBlock≠some (w.heap.size+1):=fun h=>by have:=OW.out.lt _ h;omega
     clear Z1 Z2;go_wp2_with (go_at_call 89;refine NX.out.mono ?_;rintro e w' ⟨rfl,rfl⟩)
     go_region_held3 (fun w'=>w'.cell? ⟨w.heap.size,0,none⟩=some (.string s)∧w'.cell? ⟨w.heap.size+1,0,none⟩=some (.int .i64 p))
      (first
       | go_keep
       | (go_split_ands;refine⟨?_,?_⟩;(rw[hgrow.cell_far _ (by simp;omega) (Ne.symm ag0)];assumption);(rw[hgrow.cell_far _ (by simp;omega) (Ne.symm ag1)];assumption)))
      ((refine step_append_lies _ (by rfl) _ _ _ (by rfl) (w.heap.size+2) 138 i0 _ 3 32 Tryz.underlying101 hi0 hz0 hz1 hz2 rfl (by omega) u2 ts.length (a4_ ts) (by rfl) ((OW.out.alloc _).drew) ⟨wr.heap.size,0,none⟩ 1 1 [.int .i64 kd,.string (s.extract p (p+m)),.int .i64 p] (by rfl) (by rfl) (World.news_of_block (cs:=#[.int .i64 kd,.string (s.extract p (p+m)),.int .i64 p]) (t:=138) (fr:=(0,0)) (heap_alloc_new wr _)) (by simp[Value.oneCell']) (by omega) (by unfold maxLen;omega) (by omega) (by simp;omega) (wr.heap.size+1) (by simp) ?_;intro gg cap w1 hown1 hgrow hat hlt))
     have g0:w1.heap[w.heap.size]? = some (.cells #[.string s] 9 (0,0)):=by
      rw[hgrow.block _ (by simp;omega) (Ne.symm ag0)];exact (heap_alloc_old wr _ (by omega)).trans B0.out
     have g1:w1.heap[w.heap.size+1]? = some (.cells #[.int .i64 p] 3 (0,0)):=by
      rw[hgrow.block _ (by simp;omega) (Ne.symm ag1)];exact (heap_alloc_old wr _ (by omega)).trans B1.out
     have BL1:Below w.heap.size w w1:=(((BL.out.alloc (by omega) _).drew).grown hgrow (by simp;omega) (fun k hk=>by have:=OW.out.lt _ hk;omega));have k0:=cell_of_one g0;have k1:=cell_of_one g1;have kf:=free_of_one g1;have G0:=Lib.hid g0;have G1:=Lib.hid g1;have OW1:=Lib.hid hown1;have BLh:=Lib.hid BL1;clear g0 g1 BL1 hown1 hgrow hat hlt c0 c1 f1;go_wp2;obtain⟨q,hq⟩:∃ q,q=p+m:=⟨_,rfl⟩;have h0:(w1.setCell ⟨w.heap.size+1,0,none⟩ (.int .i64 ((p:Int)+(m:Int)))).heap[w.heap.size]? = some (.cells #[.string s] 9 (0,0)):=by
      rw[Below.heap_setCell _ _ _ _ (by simp)];exact G0.out
     have h1:(w1.setCell ⟨w.heap.size+1,0,none⟩ (.int .i64 ((p:Int)+(m:Int)))).heap[w.heap.size+1]? = some (.cells #[.int .i64 q] 3 (0,0)):=by
      rw[one_setCell G1.out,hq];simp
     have OW2:=Lib.hid (ownsRow_setCell_other OW1.out (a:=⟨w.heap.size+1,0,none⟩) (fun h=>by have:=OW1.out.lt _ h;simp at this) (.int .i64 ((p:Int)+(m:Int))));have BL2:=Lib.hid (BLh.out.setCell (p:=⟨w.heap.size+1,0,none⟩) (by simp) (.int .i64 ((p:Int)+(m:Int))));clear k0 k1 kf G0 G1 OW1 BLh;generalize w1.setCell ⟨w.heap.size+1,0,none⟩ (.int .i64 ((p:Int)+(m:Int)))=w2 at *;have k0:=cell_of_one h0;have k1:=cell_of_one h1;have kf:=free_of_one h1;have hq3:q≤s.size:=(by omega);have bt:=gU_ false (s.data.toList.drop q);have bt2:q+as_ false (s.data.toList.drop q)≤s.size:=by simp at bt;omega
     have H0:=Lib.hid h0;have H1:=Lib.hid h1;have HQ:=Lib.hid hq;have cb:=gT_ (s.extract q s.size) w2.drew (by simp;unfold maxLen;omega);rw[dk_] at cb;clear h0 h1 hq bt z0 z1 z2 z3 z4 z5;have z0:(0:Int)≤(q:Int):=(by omega);have z1:(q:Int)≤(s.size:Int):=(by omega);generalize hbb:as_ false (s.data.toList.drop q)=bb at *;have HBB:=Lib.hid hbb;have CB:=Lib.hid cb;clear hbb cb;have z2:IntKind.i64.wrap ((q:Int)+(bb:Int))=(q:Int)+(bb:Int):=IntWalk.i64_in _ (by omega)
     go_still_tail 6,(by kernel_rfl)
     still_call (CB.out.mono (fun e w'' h=>⟨h.1,h.2.symm⟩))
     repeat still_step
     refine wpStill_nil ?_;change wpList _ _ _ _ _ w2.drew;go_wp2;go_roundg (s.size - (q+bb))
     case measure=>have:=HQ.out;omega
     case rel =>
      refine⟨q+bb,rfl,ts++[⟨kd,(s.data.toList.drop p).take m,p⟩],by have:=HQ.out;simp;omega,bt2,?_,?_,?_,?_,?_⟩
      ·show (w2.setCell _ _).heap[_]? = _
       rw[Below.heap_setCell _ _ _ _ (by simp)];exact H0.out
      ·have h7:=one_setCell (u:=.int .i64 ((q:Int)+(bb:Int))) H1.out
       show (w2.setCell _ _).heap[_]? = _;simpa using h7
      ·have h9:=ownsRow_setCell_other OW2.out (a:=⟨w.heap.size+1,0,none⟩) (fun h=>by have:=OW2.out.lt _ h;simp at this) (.int .i64 ((q:Int)+(bb:Int)))
       have e1:a4_ (ts++[⟨kd,(s.data.toList.drop p).take m,p⟩])=a4_ ts++[.int .i64 kd,.string (s.extract p (p+m)),.int .i64 p]:=by
        rw[a4_,List.flatMap_append,fZ_];rfl
       rw[e1,List.length_append];exact h9.drew
      ·exact (BL2.out.drew).setCell (by simp) _
      ·rw[E.out,Z.out]
       have:=HBB.out;have hq:=HQ.out;rw[List.drop_drop,← hq,this,show p+(m+bb)=q+bb by omega]
   ·go_wp2
    refine bodyPost_ret (v:=.tuple #[u2,.int .i64 0,.int .i64 0]) (by simp[results,Tryz.results51,go_sem,cell_of_one (one_setCell B1.out (u:=.int .i64 0))]) rfl ?_;unfold dn_;have e:s.data.toList.drop p=[]:=List.drop_of_length_le (by simp;omega);have:=E.out;rw[e,k7_] at this;rw[R.out,← R.out,this];refine⟨_,rfl,(BL.out).setCell (by simp) _,?_⟩;obtain⟨h1,h2⟩:=ownsRow_setCell_other OW.out (a:=⟨w.heap.size+1,0,none⟩) (fun h=>by have:=OW.out.lt _ h;simp at this) (.int .i64 0);refine⟨h1,h2.imp id ?_⟩;rintro ⟨g,cap,cur,k1,k2,k3⟩;exact⟨g,cap,cur,k1,by omega,k3⟩
end Go.Proofs.YtjecnionbjlncaaGreatDoor

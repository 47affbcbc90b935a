/- Texts laid together: LexPlain, LexLeaf, LexFacts, LexCut. -/
import Derived.Test.YtkihnodkhnahiaaGreatDoorRows
import Derived.WalkKit
import Derived.WalkLawsBesides
import Derived.WalkSpells
import Derived.Lib.Hide

namespace Go.Proofs.YtkihnodkhnahiaaGreatDoor.Lx
def lowerB (c:UInt8):Bool:=decide (97≤c.toNat∧c.toNat≤122)
def upperB (c:UInt8):Bool:=decide (65≤c.toNat∧c.toNat≤90)
def digitB (c:UInt8):Bool:=decide (48≤c.toNat∧c.toNat≤57)
def innerB (c:UInt8):Bool:=lowerB c || upperB c || digitB c || decide (c.toNat=95)
def spanL (p:UInt8→Bool)(l:List UInt8):Nat:=(l.takeWhile p).length
theorem spanL_le (p:UInt8→Bool)(l:List UInt8):spanL p l≤l.length:=by
 unfold spanL;induction l with
 | nil=>simp
 | cons a l ih=>simp only[List.takeWhile_cons];split<;>simp<;>omega
theorem spanL_stop (p:UInt8→Bool)(l:List UInt8)(k:Nat)(h:(l.take k).all p=true)(hk:k<l.length)(hp:p l[k]=false):spanL p l=k:=by
 unfold spanL
 induction l generalizing k with
 | nil=>simp at hk
 | cons a l ih =>
  cases k with
  | zero=>simp at hp;simp[hp]
  | succ k =>
   simp at h hp hk
   simp[h.1]
   exact ih k (by simpa using h.2) hk hp
theorem spanL_all (p:UInt8→Bool)(l:List UInt8)(h:l.all p=true):spanL p l=l.length:=by
 unfold spanL;induction l with
 | nil=>rfl
 | cons a l ih=>simp at h;simp[h.1];exact ih (by simpa using h.2)
def keys:List (List UInt8):=[[100,97,116,97],[108,101,116],[105,110],[99,97,115,101],[111,102],[102,111,114,97,108,108]]
def kindL (l:List UInt8):Nat :=
 if keys.contains l then 3 else if upperB (l.headD 0) then 2 else 1
def numberL (l:List UInt8):Nat :=
 if 6<spanL digitB l∨1<spanL digitB l∧l.headD 0=48 then 0 else spanL digitB l
def signs:List UInt8:=[92,58,61,59,123,125,40,41,46,126,64,60,62,44,91,93,33]
def tokenL (l:List UInt8):Nat × Nat :=
 if lowerB (l.headD 0) || upperB (l.headD 0) then
  if 16<spanL innerB l then (0,0) else (kindL (l.take (spanL innerB l)),spanL innerB l)
 else if digitB (l.headD 0) then (4,numberL l)
 else if l.headD 0=63 then (if numberL (l.drop 1)=0 then (0,0) else (5,numberL (l.drop 1)+1))
 else if [45,62].isPrefixOf l || [124,62].isPrefixOf l then (6,2)
 else if signs.contains (l.headD 0) then (6,1)
 else (0,0)
def betweenL:Bool→List UInt8→Nat
 | _,[]=>0
 | r,c :: l =>
  if c=35 then betweenL true l+1
  else if c=10 then betweenL false l+1
  else if !r&&c != 32&&c != 9 then 0
  else betweenL r l+1
theorem betweenL_le (r:Bool)(l:List UInt8):betweenL r l≤l.length:=by
 induction l generalizing r with
 | nil=>simp[betweenL]
 | cons c l ih =>
  simp only[betweenL]
  have h1:=ih true
  have h2:=ih false
  have h3:=ih r
  split
  ·simp;omega
  ·split
   ·simp;omega
   ·split
    ·simp
    ·simp;omega
structure Tok where
 kind:Nat
 text:List UInt8
 pos:Nat
deriving DecidableEq
theorem numberL_le (l:List UInt8):numberL l≤l.length:=by
 have:=spanL_le digitB l
 unfold numberL;split<;>omega
theorem prefix2_le (a b:UInt8)(l:List UInt8)(h:([a,b]:List UInt8).isPrefixOf l=true):2≤l.length:=by
 match l,h with
 | [],h=>simp[List.isPrefixOf] at h
 | [x],h=>simp[List.isPrefixOf] at h
 | x :: y :: l,_=>simp
theorem tokenL_le (l:List UInt8)(h:l≠[]):(tokenL l).2≤l.length:=by
 have h1:1≤l.length:=by cases l with
  | nil=>exact absurd rfl h
  | cons a l=>simp
 have a1:=spanL_le innerB l
 have a2:=numberL_le l
 have a3:=numberL_le (l.drop 1)
 rw[List.length_drop] at a3
 unfold tokenL
 repeat' split
 all_goals first
  | omega
  | (simp;done)
  | (simp;omega)
  | (rename_i hp;simp only[Bool.or_eq_true] at hp;rcases hp with hp|hp<;>exact prefix2_le _ _ _ hp)
def scanGo:Nat→List UInt8→Nat→List Tok→List Tok × Nat × Nat
 | 0,_,_,acc=>(acc,0,0)
 | n+1,l,p,acc =>
  if l=[] then (acc,0,0)
  else if (tokenL l).2=0 then ([],p,10)
  else scanGo n ((l.drop (tokenL l).2).drop (betweenL false (l.drop (tokenL l).2))) (p+(tokenL l).2+betweenL false (l.drop (tokenL l).2))
   (acc++[⟨(tokenL l).1,l.take (tokenL l).2,p⟩])
theorem scanGo_more (n:Nat):∀ (l:List UInt8) (p:Nat) (acc:List Tok) (m:Nat),l.length≤n→n≤m→scanGo m l p acc=scanGo n l p acc:=by
 induction n with
 | zero =>
  intro l p acc m hl _
  have:l=[]:=List.length_eq_zero_iff.1 (by omega)
  subst this
  cases m<;>simp[scanGo]
 | succ n ih =>
  intro l p acc m hl hm
  obtain⟨m,rfl⟩:∃ k,m=k+1:=⟨m - 1,by omega⟩
  simp only[scanGo]
  split
  ·rfl
  ·split
   ·rfl
   ·rename_i h1 h2
    refine ih _ _ _ _ ?_ (by omega)
    have:1≤l.length:=by cases l with
     | nil=>exact absurd rfl h1
     | cons a l=>simp
    simp only[List.length_drop];omega
def scanAt (l:List UInt8)(p:Nat)(acc:List Tok):List Tok × Nat × Nat:=scanGo l.length l p acc
theorem scanAt_nil (p:Nat)(acc:List Tok):scanAt [] p acc=(acc,0,0):=rfl
theorem scanAt_bad (l:List UInt8)(p:Nat)(acc:List Tok)(h:l≠[])(h2:(tokenL l).2=0):scanAt l p acc=([],p,10):=by
 unfold scanAt
 cases l with
 | nil=>exact absurd rfl h
 | cons a l=>simp only[List.length_cons,scanGo];rw[if_neg h,if_pos h2]
theorem scanAt_step (l:List UInt8)(p:Nat)(acc:List Tok)(h:l≠[])(h2:(tokenL l).2≠0) :
  scanAt l p acc=scanAt ((l.drop (tokenL l).2).drop (betweenL false (l.drop (tokenL l).2))) (p+(tokenL l).2+betweenL false (l.drop (tokenL l).2))
   (acc++[⟨(tokenL l).1,l.take (tokenL l).2,p⟩]):=by
 unfold scanAt
 cases l with
 | nil=>exact absurd rfl h
 | cons a l =>
  simp only[List.length_cons,scanGo]
  rw[if_neg h,if_neg h2]
  refine scanGo_more _ _ _ _ _ (Nat.le_refl _) ?_
  simp only[List.length_drop,List.length_cons];omega
def scanR (l:List UInt8):List Tok × Nat × Nat :=
 if 4000<l.length then ([],0,2) else scanAt (l.drop (betweenL false l)) (betweenL false l) []
end Go.Proofs.YtkihnodkhnahiaaGreatDoor.Lx

namespace Go.Proofs.YtkihnodkhnahiaaGreatDoor
open Go.RowKit
open Lx
theorem ret_bool {a b:Bool}(h:a=b):Ending.returned (.bool a)=.returned (.bool b):=by rw[h]
theorem ret_int {k:IntKind}{a b:Int}(h:a=b):Ending.returned (.int k a)=.returned (.int k b):=by rw[h]
theorem byte_is {c:UInt8}{n:Int}(k:UInt8)(h:((c.toNat:Int)==n)=true)(hk:(k.toNat:Int)=n):c=k:=by
 have h':(c.toNat:Int)=n:=by simpa using h
 apply UInt8.toNat_inj.1;omega
theorem byte_dec (c:UInt8)(n:Int)(k:UInt8)(hk:(k.toNat:Int)=n):((c.toNat:Int)==n)=decide (c=k):=by
 rw[Bool.eq_iff_iff];simp only[beq_iff_eq,decide_eq_true_eq]
 exact⟨fun h=>UInt8.toNat_inj.1 (by omega),fun h=>by subst h;exact hk⟩
theorem lower_any (c:UInt8)(w:World):Calls Tryz.prog 64 #[.int .u8 c.toNat] w fun e w'=>e=.returned (.bool (lowerB c))∧w=w':=by
 go_enter Tryz.func64,Tryz.ntmps64
 go_wp2
 all_goals
  go_ret
  exact⟨ret_bool (by unfold lowerB;first|(rw[decide_eq_decide];omega)|(symm;rw[decide_eq_false_iff_not];omega)),rfl⟩
theorem upper_any (c:UInt8)(w:World):Calls Tryz.prog 65 #[.int .u8 c.toNat] w fun e w'=>e=.returned (.bool (upperB c))∧w=w':=by
 go_enter Tryz.func65,Tryz.ntmps65
 go_wp2
 all_goals
  go_ret
  exact⟨ret_bool (by unfold upperB;first|(rw[decide_eq_decide];omega)|(symm;rw[decide_eq_false_iff_not];omega)),rfl⟩
theorem digit_any (c:UInt8)(w:World):Calls Tryz.prog 69 #[.int .u8 c.toNat] w fun e w'=>e=.returned (.bool (digitB c))∧w=w':=by
 go_enter Tryz.func69,Tryz.ntmps69
 go_wp2
 all_goals
  go_ret
  exact⟨ret_bool (by unfold digitB;first|(rw[decide_eq_decide];omega)|(symm;rw[decide_eq_false_iff_not];omega)),rfl⟩
theorem inner_any (c:UInt8)(w:World):Calls Tryz.prog 67 #[.int .u8 c.toNat] w fun e w'=>e=.returned (.bool (innerB c))∧w=w':=by
 go_enter Tryz.func67,Tryz.ntmps67
 go_wp2_with (first|(go_at_call 64;refine (lower_any _ _).mono ?_;rintro e w' ⟨rfl,rfl⟩)|(go_at_call 65;refine (upper_any _ _).mono ?_;rintro e w' ⟨rfl,rfl⟩)|(go_at_call 69;refine (digit_any _ _).mono ?_;rintro e w' ⟨rfl,rfl⟩))
 all_goals
  go_ret
  exact⟨ret_bool (by unfold innerB;simp[*];try (rw[Bool.eq_iff_iff];simp;omega)),rfl⟩
theorem take_snoc (s:ByteArray)(k:Nat)(h:k<s.size):s.data.toList.take (k+1)=s.data.toList.take k++[s[k]]:=by
 rw[List.take_succ_eq_append_getElem (by simpa using h)];rfl
set_option maxHeartbeats 400000 in
theorem span_digit (s:ByteArray)(w:World)(hs:s.size≤maxLen) :
  Calls Tryz.prog 66 #[.string s,.func (.func 69) #[] #[]] w fun e w'=>e=.returned (.int .i64 (spanL digitB s.data.toList))∧w=w':=by
 unfold maxLen at hs
 go_enter Tryz.func66,Tryz.ntmps66
 go_wp2
 go_loop [5] (fun i=>∃ k:Nat,k≤s.size∧i=.int .i64 k∧(s.data.toList.take k).all digitB=true) (fun i=>s.size - (intOf i).toNat)
 case atStart=>exact⟨0,Nat.zero_le _,rfl,by simp⟩
 case round =>
  obtain⟨k,hk,rfl,hall⟩:=hrel
  have H:=Lib.hid hall;clear hall
  by_cases hlt:k<s.size
  ·go_wp2_with (go_at_call 69;refine (digit_any _ _).mono ?_;rintro e w' ⟨rfl,rfl⟩)
   ·have hd:digitB s[k]=true:=by assumption
    go_round
    case rel=>exact⟨k+1,by omega,by go_num,by rw[take_snoc s k hlt,List.all_append,H.out];simp[hd]⟩
    case measure=>simp[intOf];omega
   ·have hd:digitB s[k]=false:=by assumption
    go_ret
    exact⟨ret_int (by rw[spanL_stop _ _ k H.out (by simpa using hlt) hd]),rfl⟩
  ·go_wp2
   go_ret
   have hk2:s.data.toList.take k=s.data.toList:=List.take_of_length_le (by simp;omega)
   exact⟨ret_int (by rw[spanL_all _ _ (by rw[← hk2];exact H.out)];simp;omega),rfl⟩
set_option maxHeartbeats 400000 in
theorem span_inner (s:ByteArray)(w:World)(hs:s.size≤maxLen) :
  Calls Tryz.prog 66 #[.string s,.func (.func 67) #[] #[]] w fun e w'=>e=.returned (.int .i64 (spanL innerB s.data.toList))∧w=w':=by
 unfold maxLen at hs
 go_enter Tryz.func66,Tryz.ntmps66
 go_wp2
 go_loop [5] (fun i=>∃ k:Nat,k≤s.size∧i=.int .i64 k∧(s.data.toList.take k).all innerB=true) (fun i=>s.size - (intOf i).toNat)
 case atStart=>exact⟨0,Nat.zero_le _,rfl,by simp⟩
 case round =>
  obtain⟨k,hk,rfl,hall⟩:=hrel
  have H:=Lib.hid hall;clear hall
  by_cases hlt:k<s.size
  ·go_wp2_with (go_at_call 67;refine (inner_any _ _).mono ?_;rintro e w' ⟨rfl,rfl⟩)
   ·have hd:innerB s[k]=true:=by assumption
    go_round
    case rel=>exact⟨k+1,by omega,by go_num,by rw[take_snoc s k hlt,List.all_append,H.out];simp[hd]⟩
    case measure=>simp[intOf];omega
   ·have hd:innerB s[k]=false:=by assumption
    go_ret
    exact⟨ret_int (by rw[spanL_stop _ _ k H.out (by simpa using hlt) hd]),rfl⟩
  ·go_wp2
   go_ret
   have hk2:s.data.toList.take k=s.data.toList:=List.take_of_length_le (by simp;omega)
   exact⟨ret_int (by rw[spanL_all _ _ (by rw[← hk2];exact H.out)];simp;omega),rfl⟩
end Go.Proofs.YtkihnodkhnahiaaGreatDoor

namespace Go.Proofs.YtkihnodkhnahiaaGreatDoor.Lx
theorem scanGo_length (n:Nat):∀ (l:List UInt8) (p:Nat) (acc:List Tok),(scanGo n l p acc).1.length≤acc.length+l.length:=by
 induction n with
 | zero=>intro l p acc;simp[scanGo]
 | succ n ih =>
  intro l p acc
  simp only[scanGo]
  split
  ·simp
  ·split
   ·simp
   ·rename_i h1 h2
    refine Nat.le_trans (ih _ _ _) ?_
    have:1≤l.length:=by cases l with
     | nil=>exact absurd rfl h1
     | cons a l=>simp
    simp only[List.length_append,List.length_cons,List.length_nil,List.length_drop];omega
theorem scanR_length (l:List UInt8):(scanR l).1.length≤4000:=by
 unfold scanR
 split
 ·simp
 ·unfold scanAt
  refine Nat.le_trans (scanGo_length _ _ _ _) ?_
  simp;omega
end Go.Proofs.YtkihnodkhnahiaaGreatDoor.Lx

/- Packed. -/
import Derived.Test.YtjecnionbjlncaaGreatDoorP35
set_option maxRecDepth 100000
set_option maxHeartbeats 6400000
namespace Go.Proofs.YtjecnionbjlncaaGreatDoor
open Go.RowKit
open Lx
def bV_ (s:ByteArray)(r:Bool)(p:Nat)(ts:List Tok):List Tok × Nat × Nat :=
 du_ (s.data.toList.drop (p+ab_ r (s.data.toList.drop p))) (p+ab_ r (s.data.toList.drop p)) ts
theorem iC_ (s:ByteArray)(h:¬ 4000<s.size):bJ_ s.data.toList=bV_ s false 0 []:=by
 rw[bJ_,if_neg (by simpa using h),bV_];simp
theorem gn_ (s:ByteArray)(r r':Bool)(p:Nat)(ts:List Tok)(h:ab_ r (s.data.toList.drop p)=ab_ r' (s.data.toList.drop (p+1))+1) :
  bV_ s r p ts=bV_ s r' (p+1) ts:=by
 unfold bV_;rw[h,show p+(ab_ r' (s.data.toList.drop (p+1))+1)=p+1+ab_ r' (s.data.toList.drop (p+1)) by omega]
theorem hL_ (s:ByteArray)(p:Nat)(ts:List Tok)(hp:p<s.size)(h:s[p]=32∨s[p]=9∨s[p]=10):bV_ s false p ts=bV_ s false (p+1) ts:=by
 refine gn_ s _ _ p ts ?_;rw[dh_ s p hp]
 rcases h with h|h|h<;>rw[h]<;>simp
theorem qj_ (s:ByteArray)(p:Nat)(ts:List Tok)(hp:p<s.size)(h:s[p]=35):bV_ s false p ts=bV_ s true p ts:=by
 unfold bV_;rw[dh_ s p hp,dh_ s p hp,h];simp
theorem sk_in (s:ByteArray)(p:Nat)(ts:List Tok)(hp:p<s.size)(h:s[p]≠10):bV_ s true p ts=bV_ s true (p+1) ts:=by
 refine gn_ s _ _ p ts ?_;rw[dh_ s p hp,if_neg h];simp
theorem r1_ (s:ByteArray)(p:Nat)(ts:List Tok)(hp:p<s.size)(h:s[p]=10):bV_ s true p ts=bV_ s false p ts:=by
 unfold bV_;rw[dh_ s p hp,dh_ s p hp,h];simp
theorem l5_ (s:ByteArray)(r:Bool)(ts:List Tok):bV_ s r s.size ts=(ts,0,0):=by
 have e:s.data.toList.drop s.size=[]:=List.drop_of_length_le (by simp);unfold bV_;rw[e];simp only[ab_,Nat.add_zero];rw[e];rfl
theorem nY_ (s:ByteArray)(p:Nat)(ts:List Tok)(hp:p<s.size)(h:¬ (s[p]=32∨s[p]=9∨s[p]=10))(h2:s[p]≠35) :
  bV_ s false p ts=if (dD_ s p).2=p then ([],p,10) else bV_ s false (dD_ s p).2 (ts++[⟨(dD_ s p).1,(s.data.toList.drop p).take ((dD_ s p).2 - p),p⟩]):=by
 have hb:ab_ false (s.data.toList.drop p)=0:=by
  rw[dh_ s p hp,if_neg h2,if_neg (fun e=>h (.inr (.inr e))),if_pos];simp only[Bool.not_false,Bool.true_and,Bool.and_eq_true,bne_iff_ne,ne_eq];exact⟨fun e=>h (.inl e),fun e=>h (.inr (.inl e))⟩
 have hne:s.data.toList.drop p≠[]:=by rw[cj_ s p hp];simp
 unfold bV_ dD_;rw[hb,Nat.add_zero]
 by_cases hz:(au_ (s.data.toList.drop p)).2=0
 ·rw[en_ _ _ _ hne hz];simp[hz]
 ·rw[dG_ _ _ _ hne hz]
  generalize au_ (s.data.toList.drop p)=tk at *;simp only[if_neg hz];rw[if_neg (by omega),show p+tk.2 - p=tk.2 by omega];simp only[List.drop_drop,Nat.add_assoc]
theorem jE_ (s:ByteArray)(p:Nat)(hp:p<s.size):p≤(dD_ s p).2∧(dD_ s p).2≤s.size:=by
 have hne:s.data.toList.drop p≠[]:=by rw[cj_ s p hp];simp
 have:=dW_ _ hne;have hs:s.data.size=s.size:=rfl;simp at this;unfold dD_
 split<;>constructor<;>simp<;>omega
theorem mW_ (s:ByteArray)(p:Nat)(_hp:p<s.size):(dD_ s p).1=0↔(dD_ s p).2=p:=by
 unfold dD_
 by_cases hz:(au_ (s.data.toList.drop p)).2=0
 ·simp[hz]
 ·simp only[if_neg hz]
  constructor
  ·intro h
   exfalso
   revert hz h
   unfold au_;have hk:∀ l,dK_ l≠0:=fun l=>by unfold dK_;split<;>(try split)<;>simp
   repeat' split
   all_goals simp[hk]
  ·intro h;omega
theorem mi_ (s:ByteArray)(w:World)(hs:s.size≤maxLen) :
  Calls Tryz.prog 55 #[.string s] w (di_ s w):=by
 unfold maxLen at hs
 by_cases hl:4000<s.size
 ·have hr:=em_ s.data.toList (by simpa using hl)
  have R:=Lib.hid hr;clear hr;go_enter Tryz.func55,Tryz.ntmps55;go_wp2;refine bodyPost_ret (v:=.tuple #[.slice none 0 0,.int .i64 0,.int .i64 2]) (by simp[results,Tryz.results55,go_sem]) rfl ?_;unfold di_;rw[R.out];exact⟨_,rfl,Below.refl _ _,World.ownsRow_nil _ _ _ _⟩
 ·have hr:=iC_ s hl
  have R:=Lib.hid hr;clear hr;go_enter Tryz.func55,Tryz.ntmps55;go_wp2
  go_loopg [5,6] s.size (fun k v i wr=>∃ (p:Nat) (ts:List Tok),k=s.size - p∧ts.length≤p∧p≤s.size∧i=.int .i64 p∧wr.ownsRow w.heap.size 138 3 v ts.length (aY_ ts)∧Below w.heap.size w wr∧bJ_ s.data.toList=bV_ s false p ts)
  case atStart=>exact⟨0,[],rfl,Nat.le_refl _,Nat.zero_le _,rfl,World.ownsRow_nil _ _ _ _,Below.refl _ _,R.out⟩
  case round =>
   obtain⟨p,ts,rfl,htp,hp,rfl,hown,hbel,heq⟩:=hrel;obtain⟨i0,hi0,hz0,hz1,hz2⟩:=info_parts kC_;have E:=Lib.hid heq;have OW:=Lib.hid hown;have BL:=Lib.hid hbel;clear hown hbel heq
   by_cases hlt:p<s.size
   ·by_cases b1:s[p]=32
    ·have f1:=bE_ 32 32 b1 rfl
     have K:=Lib.hid (hL_ s p ts hlt (.inl b1));clear b1;go_wp2;go_roundg (s.size - (p+1))
     case measure=>omega
     case rel=>exact⟨p+1,ts,rfl,by omega,by omega,by go_num,OW.out,BL.out,by rw[E.out,K.out]⟩
    ·have f1:=bk_ 32 32 b1 rfl
     by_cases b2:s[p]=9
     ·have f2:=bE_ 9 9 b2 rfl
      have K:=Lib.hid (hL_ s p ts hlt (.inr (.inl b2)));clear b1 b2;go_wp2;go_roundg (s.size - (p+1))
      case measure=>omega
      case rel=>exact⟨p+1,ts,rfl,by omega,by omega,by go_num,OW.out,BL.out,by rw[E.out,K.out]⟩
     ·have f2:=bk_ 9 9 b2 rfl
      by_cases b3:s[p]=10
      ·have f3:=bE_ 10 10 b3 rfl
       have K:=Lib.hid (hL_ s p ts hlt (.inr (.inr b3)));clear b1 b2 b3;go_wp2;go_roundg (s.size - (p+1))
       case measure=>omega
       case rel=>exact⟨p+1,ts,rfl,by omega,by omega,by go_num,OW.out,BL.out,by rw[E.out,K.out]⟩
      ·have f3:=bk_ 10 10 b3 rfl
       by_cases b4:s[p]=35
       ·have f4:=bE_ 35 35 b4 rfl
        have K:=Lib.hid (qj_ s p ts hlt b4);have B4:=Lib.hid b4;clear b1 b2 b3 b4;go_wp2;obtain⟨wo,rfl⟩:∃ wo:World,wo=wr:=⟨_,rfl⟩
        go_loopg [6] (s.size - p) (fun k i wr=>∃ q:Nat,k=s.size - q∧p≤q∧q≤s.size∧i=.int .i64 q∧wr=wo∧bJ_ s.data.toList=bV_ s true q ts)
        case atStart=>exact⟨p,rfl,Nat.le_refl _,hp,rfl,rfl,by rw[E.out,K.out]⟩
        case round =>
         obtain⟨q,rfl,hpq,hq,rfl,rfl,heq2⟩:=hrel;have E2:=Lib.hid heq2;clear heq2
         by_cases hlt2:q<s.size
         ·by_cases c10:s[q]=10
          ·have f10:=ia_ 10 10 c10 rfl
           have K2:=Lib.hid (r1_ s q ts hlt2 c10);have hne:p≠q:=by rintro rfl;have:=B4.out;rw[c10] at this;revert this;decide
           clear c10;go_wp2;go_roundg (s.size - q)
           case measure=>omega
           case rel=>exact⟨q,ts,rfl,by omega,hq,rfl,OW.out,BL.out,by rw[E2.out,K2.out]⟩
          ·have f10:=h9_ 10 10 c10 rfl
           have K2:=Lib.hid (sk_in s q ts hlt2 c10);clear c10;go_wp2;go_roundg (s.size - (q+1))
           case measure=>omega
           case rel=>exact⟨q+1,rfl,by omega,by omega,by go_num,rfl,by rw[E2.out,K2.out]⟩
         ·obtain rfl:q=s.size:=by omega
          go_wp2;go_roundg (s.size - s.size)
          case measure=>omega
          case rel=>exact⟨s.size,ts,rfl,by omega,hq,rfl,OW.out,BL.out,by rw[E2.out,l5_,l5_]⟩
       ·have f4:=bk_ 35 35 b4 rfl
        have K:=Lib.hid (nY_ s p ts hlt (by rintro (h|h|h);exact b1 h;exact b2 h;exact b3 h) b4);obtain⟨o1,o2⟩:=jE_ s p hlt;have ok:=mW_ s p hlt;have rone:=fun w=>n8_ s p w (by unfold maxLen;omega) hlt;generalize dD_ s p=o at *;obtain⟨kd,q⟩:=o;simp only at o1 o2 ok;have RO:=Lib.hid rone;clear b1 b2 b3 b4 rone
        by_cases hz:q=p
        ·subst hz
         have ok2:=ok.2 rfl;have KK:=K.out;simp only[if_true] at KK;have K3:=Lib.hid KK;subst ok2;clear ok K KK;go_wp2_with (go_at_call 94;refine (RO.out _).mono ?_;rintro e w' ⟨rfl,n,rfl⟩);refine bodyPost_ret (v:=.tuple #[.slice none 0 0,.int .i64 q,.int .i64 10]) (by simp[results,Tryz.results55,go_sem]) rfl ?_;unfold di_;rw[E.out,K3.out];exact⟨_,rfl,below_drewN BL.out n,World.ownsRow_nil _ _ _ _⟩
        ·have KK:=K.out
         simp only[if_neg hz] at KK;have K3:=Lib.hid KK;have hkz:((kd:Int)==0)=false:=by simp;exact fun h=>hz (ok.1 (by omega))
         clear ok K KK;go_wp2_with (first|(go_at_call 94;refine (RO.out _).mono ?_;rintro e w' ⟨rfl,n,rfl⟩)|(at_builtin;refine wpList_append_lies _ rfl _ _ _ rfl w.heap.size 138 i0 _ 3 32 Tryz.underlying101 hi0 hz0 hz1 hz2 rfl (by omega) u5 ts.length (aY_ ts) rfl (OW.out.alloc _) ⟨wr.heap.size,0,none⟩ 1 1 [.int .i64 kd,.string (s.extract p q),.int .i64 p] rfl rfl (World.news_of_block (cs:=#[.int .i64 kd,.string (s.extract p q),.int .i64 p]) (t:=138) (fr:=(0,0)) (heap_alloc_new _ _)) (by simp[Value.oneCell']) (by omega) (by unfold maxLen;omega) (by omega) (by have:=BL.out.size;simp;omega) (wr.heap.size+1) (by simp) ?_;intro gg cap w1 hown1 hgrow hat hlt1));have e1:aY_ (ts++[⟨kd,(s.data.toList.drop p).take (q - p),p⟩])=aY_ ts++[.int .i64 kd,.string (s.extract p q),.int .i64 p]:=by
          have h5:=f3_ s p (q - p);rw[show p+(q - p)=q by omega] at h5;rw[aY_,List.flatMap_append,h5];rfl
         have BL1:=Lib.hid ((((below_drewN BL.out n).alloc (by have:=BL.out.size;simp;omega) _)).grown hgrow (by have:=BL.out.size;simp;omega) (fun k hk=>by have:=OW.out.lt _ hk;omega));have OW1:=Lib.hid hown1;clear hgrow hat hlt1 hown1;go_roundg (s.size - q)
         case measure=>omega
         case rel=>exact⟨q,ts++[⟨kd,(s.data.toList.drop p).take (q - p),p⟩],rfl,by simp;omega,o2,rfl,by rw[e1,List.length_append];exact OW1.out,BL1.out,by rw[E.out,K3.out]⟩
   ·obtain rfl:p=s.size:=by omega
    go_wp2;refine bodyPost_ret (v:=.tuple #[u5,.int .i64 0,.int .i64 0]) (by simp[results,Tryz.results55,go_sem]) rfl ?_;unfold di_;rw[E.out,l5_];exact⟨_,rfl,BL.out,OW.out⟩
end Go.Proofs.YtjecnionbjlncaaGreatDoor

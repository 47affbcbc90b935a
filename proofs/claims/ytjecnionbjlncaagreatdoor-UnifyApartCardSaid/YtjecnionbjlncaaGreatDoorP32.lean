/- Packed. -/
import Derived.Test.YtjecnionbjlncaaGreatDoorP31
set_option maxRecDepth 100000
set_option maxHeartbeats 6400000
namespace Go.Proofs.YtjecnionbjlncaaGreatDoor
open Go.RowKit
open Lx
def en_ (s:ByteArray)(i:Nat):Bool:=([45,62]:List UInt8).isPrefixOf (s.data.toList.drop i) || ([124,62]:List UInt8).isPrefixOf (s.data.toList.drop i)
theorem gV_ (s:ByteArray)(i:Nat)(hi:i<s.size):en_ s i=true↔∃ h:i+1<s.size,s[i+1]=62∧(s[i]=45∨s[i]=124):=by
 unfold en_;rw[cl_ s i hi]
 by_cases h:i+1<s.size
 ·rw[cl_ s (i+1) h]
  simp only[List.isPrefixOf,Bool.or_eq_true,Bool.and_eq_true,beq_iff_eq,Bool.and_true,h,exists_true_left]
  constructor
  ·rintro (⟨a,b⟩|⟨a,b⟩)
   ·exact⟨b.symm,.inl a.symm⟩
   ·exact⟨b.symm,.inr a.symm⟩
  ·rintro ⟨b,a|a⟩
   ·exact .inl ⟨a.symm,b.symm⟩
   ·exact .inr ⟨a.symm,b.symm⟩
 ·have e:s.data.toList.drop (i+1)=[]:=List.drop_of_length_le (by simp;have:s.data.size=s.size:=rfl;omega)
  rw[e];simp[List.isPrefixOf,h]
theorem ew_ (s:ByteArray)(i:Nat)(hi:i<s.size)(h1:bN_ s[i]=false)(h3:au_ s[i]=false)(h4:s[i]≠63) :
  dN_ s i=if en_ s i then (6,i+2) else if fB_ s[i] then (6,i+1) else (0,i):=by
 unfold dN_;rw[gk_ s i hi,h1,h3];simp only[Bool.false_eq_true,if_false,if_neg h4];cases ha:en_ s i
 ·have ha':=ha
  unfold en_ at ha';rw[ha'];cases fB_ s[i]<;>simp
 ·have ha':=ha
  unfold en_ at ha';rw[ha'];simp
theorem mW_ (s:ByteArray)(i:Nat)(w:World)(hs:s.size≤maxLen)(hi:i<s.size)(h1:bN_ s[i]=false)(h3:au_ s[i]=false)(h4:s[i]≠63)(ha:en_ s i=true) :
  Calls Tryz.prog 94 #[.string s,.int .i64 i] w fun e w'=>e=.returned (.tuple #[.int .i64 (dN_ s i).1,.int .i64 (dN_ s i).2])∧w=w':=by
 have ho:=ew_ s i hi h1 h3 h4;rw[if_pos ha] at ho;have f4:=bn_ 63 63 h4 rfl;obtain⟨hlt,h62,hd⟩:=(gV_ s i hi).1 ha;have f62:=bF_ 62 62 h62 rfl;have HO:=Lib.hid ho;clear ho ha h62 h4;unfold maxLen at hs
 by_cases c:s[i]=45
 ·have f45:=bF_ 45 45 c rfl
  clear c hd;go_enter Tryz.func94,Tryz.ntmps94;go_wp2_with (first|(go_at_call 130;refine (ak_ _ _).mono ?_;rw[h1];rintro e w' ⟨rfl,rfl⟩)|(go_at_call 131;refine (am_ _ _).mono ?_;rw[h3];rintro e w' ⟨rfl,rfl⟩));go_ret2;exact⟨ax_ HO.out,rfl⟩
 ·have f45:=bn_ 45 45 c rfl
  have f124:=bF_ 124 124 (hd.resolve_left c) rfl;clear c hd;go_enter Tryz.func94,Tryz.ntmps94;go_wp2_with (first|(go_at_call 130;refine (ak_ _ _).mono ?_;rw[h1];rintro e w' ⟨rfl,rfl⟩)|(go_at_call 131;refine (am_ _ _).mono ?_;rw[h3];rintro e w' ⟨rfl,rfl⟩));go_ret2;exact⟨ax_ HO.out,rfl⟩
def cS_:ByteArray:=⟨#[92,58,61,59,123,125,40,41,46,126,64,60,62,44,91,93,33]⟩
def g3_ (c:UInt8)(k:Nat):Prop:=∀ j (h:j<cS_.size),j<k→cS_[j]≠c
theorem g3_.step {c:UInt8}{k:Nat}(h:g3_ c k)(hk:k<cS_.size)(hne:cS_[k]≠c):g3_ c (k+1):=by
 intro j hj hl
 by_cases e:j=k
 ·subst e;exact hne
 ·exact h j hj (by omega)
theorem fA_ (c:UInt8)(k:Nat)(hk:k<cS_.size)(h:cS_[k]=c):fB_ c=true:=by
 unfold fB_;rw[List.contains_iff_mem,← h];exact List.getElem_mem (l:=gn_) (n:=k) hk
theorem go_ (c:UInt8)(h:g3_ c 17):fB_ c=false:=by
 cases hb:fB_ c
 ·rfl
 ·unfold fB_ at hb
  rw[List.contains_iff_mem] at hb;obtain⟨j,hj,e⟩:=List.mem_iff_getElem.1 hb;exact absurd e (h j hj hj)
theorem mU_ (s:ByteArray)(i:Nat)(w:World)(hs:s.size≤maxLen)(hi:i<s.size)(h1:bN_ s[i]=false)(h3:au_ s[i]=false)(h4:s[i]≠63)(ha:en_ s i=false)(hq:¬ i+1<s.size) :
  Calls Tryz.prog 94 #[.string s,.int .i64 i] w fun e w'=>e=.returned (.tuple #[.int .i64 (dN_ s i).1,.int .i64 (dN_ s i).2])∧∃ n,w'=w.drewN n:=by
 have ho:=ew_ s i hi h1 h3 h4;rw[if_neg (by rw[ha];simp)] at ho;have f4:=bn_ 63 63 h4 rfl;have HO:=Lib.hid ho;clear ho ha h4;unfold maxLen at hs;go_enter Tryz.func94,Tryz.ntmps94;go_wp2_with (first|(go_at_call 130;refine (ak_ _ _).mono ?_;rw[h1];rintro e w' ⟨rfl,rfl⟩)|(go_at_call 131;refine (am_ _ _).mono ?_;rw[h3];rintro e w' ⟨rfl,rfl⟩))
 go_loopw [12] (fun k wr=>∃ j:Nat,j≤17∧k=.int .i64 j∧g3_ s[i] j∧∃ n,wr=w.drewN n) (fun k _=>17 - (intOf k).toNat)
 case atStart=>exact⟨0,by omega,rfl,fun _ _ h=>absurd h (by omega),0,rfl⟩
 case round =>
  obtain⟨j,hj,rfl,hns,n,rfl⟩:=hrel;have NS:=Lib.hid hns;clear hns
  by_cases hlt:j<17
  ·have hsz:j<cS_.size:=hlt
   have z1:(0:Int)≤(j:Int):=(by omega);have z2:(j:Int)<17:=(by omega);have z3:(0:Int)≤(i:Int):=(by omega);have z4:(i:Int)<(s.size:Int):=by omega
   by_cases ce:cS_[j]=s[i]
   ·have SB:=Lib.hid (fA_ s[i] j hlt ce)
    have fe:((cS_[j].toNat:Int)==(s[i].toNat:Int))=true:=by rw[ce];simp
    clear ce;unfold cS_ at fe hsz;go_wp2;go_quiet (fail);go_wp2;go_ret2;exact⟨ax_ (by rw[HO.out,SB.out];rfl),_,by first|rfl|exact World.drewN_drewN w n nq⟩
   ·have RN:=Lib.hid (NS.out.step hlt ce)
    have fe:((cS_[j].toNat:Int)==(s[i].toNat:Int))=false:=by simp;exact fun h=>ce (UInt8.toNat_inj.1 (by omega))
    clear ce;unfold cS_ at fe hsz;go_wp2;go_quiet (fail);go_wp2;go_roundw
    case rel=>exact⟨j+1,by omega,by go_num,RN.out,_,rfl⟩
    case measure=>simp[intOf];omega
  ·obtain rfl:j=17:=by omega
   go_wp2;go_ret2;exact⟨ax_ (by rw[HO.out,go_ _ NS.out];rfl),n,rfl⟩
theorem mT_ (s:ByteArray)(i:Nat)(w:World)(hs:s.size≤maxLen)(hi:i<s.size)(h1:bN_ s[i]=false)(h3:au_ s[i]=false)(h4:s[i]≠63)(ha:en_ s i=false)(hq:i+1<s.size)(h62:s[i+1]≠62) :
  Calls Tryz.prog 94 #[.string s,.int .i64 i] w fun e w'=>e=.returned (.tuple #[.int .i64 (dN_ s i).1,.int .i64 (dN_ s i).2])∧∃ n,w'=w.drewN n:=by
 have ho:=ew_ s i hi h1 h3 h4;rw[if_neg (by rw[ha];simp)] at ho;have f4:=bn_ 63 63 h4 rfl;have f62:=bn_ 62 62 h62 rfl;have HO:=Lib.hid ho;clear ho ha h4 h62;unfold maxLen at hs;go_enter Tryz.func94,Tryz.ntmps94;go_wp2_with (first|(go_at_call 130;refine (ak_ _ _).mono ?_;rw[h1];rintro e w' ⟨rfl,rfl⟩)|(go_at_call 131;refine (am_ _ _).mono ?_;rw[h3];rintro e w' ⟨rfl,rfl⟩))
 go_loopw [12] (fun k wr=>∃ j:Nat,j≤17∧k=.int .i64 j∧g3_ s[i] j∧∃ n,wr=w.drewN n) (fun k _=>17 - (intOf k).toNat)
 case atStart=>exact⟨0,by omega,rfl,fun _ _ h=>absurd h (by omega),0,rfl⟩
 case round =>
  obtain⟨j,hj,rfl,hns,n,rfl⟩:=hrel;have NS:=Lib.hid hns;clear hns
  by_cases hlt:j<17
  ·have hsz:j<cS_.size:=hlt
   have z1:(0:Int)≤(j:Int):=(by omega);have z2:(j:Int)<17:=(by omega);have z3:(0:Int)≤(i:Int):=(by omega);have z4:(i:Int)<(s.size:Int):=by omega
   by_cases ce:cS_[j]=s[i]
   ·have SB:=Lib.hid (fA_ s[i] j hlt ce)
    have fe:((cS_[j].toNat:Int)==(s[i].toNat:Int))=true:=by rw[ce];simp
    clear ce;unfold cS_ at fe hsz;go_wp2;go_quiet (fail);go_wp2;go_ret2;exact⟨ax_ (by rw[HO.out,SB.out];rfl),_,by first|rfl|exact World.drewN_drewN w n nq⟩
   ·have RN:=Lib.hid (NS.out.step hlt ce)
    have fe:((cS_[j].toNat:Int)==(s[i].toNat:Int))=false:=by simp;exact fun h=>ce (UInt8.toNat_inj.1 (by omega))
    clear ce;unfold cS_ at fe hsz;go_wp2;go_quiet (fail);go_wp2;go_roundw
    case rel=>exact⟨j+1,by omega,by go_num,RN.out,_,rfl⟩
    case measure=>simp[intOf];omega
  ·obtain rfl:j=17:=by omega
   go_wp2;go_ret2;exact⟨ax_ (by rw[HO.out,go_ _ NS.out];rfl),n,rfl⟩
theorem mS_ (s:ByteArray)(i:Nat)(w:World)(hs:s.size≤maxLen)(hi:i<s.size)(h1:bN_ s[i]=false)(h3:au_ s[i]=false)(h4:s[i]≠63)(ha:en_ s i=false)(hq:i+1<s.size)(h62:s[i+1]=62) :
  Calls Tryz.prog 94 #[.string s,.int .i64 i] w fun e w'=>e=.returned (.tuple #[.int .i64 (dN_ s i).1,.int .i64 (dN_ s i).2])∧∃ n,w'=w.drewN n:=by
 have ho:=ew_ s i hi h1 h3 h4;rw[if_neg (by rw[ha];simp)] at ho;have f4:=bn_ 63 63 h4 rfl;have f62:=bF_ 62 62 h62 rfl;have f45:=bn_ 45 45 (fun h=>by have:=(gV_ s i hi).2 ⟨hq,h62,.inl h⟩;rw[ha] at this;cases this) rfl;have f124:=bn_ 124 124 (fun h=>by have:=(gV_ s i hi).2 ⟨hq,h62,.inr h⟩;rw[ha] at this;cases this) rfl;have HO:=Lib.hid ho;clear ho ha h4 h62;unfold maxLen at hs;go_enter Tryz.func94,Tryz.ntmps94;go_wp2_with (first|(go_at_call 130;refine (ak_ _ _).mono ?_;rw[h1];rintro e w' ⟨rfl,rfl⟩)|(go_at_call 131;refine (am_ _ _).mono ?_;rw[h3];rintro e w' ⟨rfl,rfl⟩))
 go_loopw [12] (fun k wr=>∃ j:Nat,j≤17∧k=.int .i64 j∧g3_ s[i] j∧∃ n,wr=w.drewN n) (fun k _=>17 - (intOf k).toNat)
 case atStart=>exact⟨0,by omega,rfl,fun _ _ h=>absurd h (by omega),0,rfl⟩
 case round =>
  obtain⟨j,hj,rfl,hns,n,rfl⟩:=hrel;have NS:=Lib.hid hns;clear hns
  by_cases hlt:j<17
  ·have hsz:j<cS_.size:=hlt
   have z1:(0:Int)≤(j:Int):=(by omega);have z2:(j:Int)<17:=(by omega);have z3:(0:Int)≤(i:Int):=(by omega);have z4:(i:Int)<(s.size:Int):=by omega
   by_cases ce:cS_[j]=s[i]
   ·have SB:=Lib.hid (fA_ s[i] j hlt ce)
    have fe:((cS_[j].toNat:Int)==(s[i].toNat:Int))=true:=by rw[ce];simp
    clear ce;unfold cS_ at fe hsz;go_wp2;go_quiet (fail);go_wp2;go_ret2;exact⟨ax_ (by rw[HO.out,SB.out];rfl),_,by first|rfl|exact World.drewN_drewN w n nq⟩
   ·have RN:=Lib.hid (NS.out.step hlt ce)
    have fe:((cS_[j].toNat:Int)==(s[i].toNat:Int))=false:=by simp;exact fun h=>ce (UInt8.toNat_inj.1 (by omega))
    clear ce;unfold cS_ at fe hsz;go_wp2;go_quiet (fail);go_wp2;go_roundw
    case rel=>exact⟨j+1,by omega,by go_num,RN.out,_,rfl⟩
    case measure=>simp[intOf];omega
  ·obtain rfl:j=17:=by omega
   go_wp2;go_ret2;exact⟨ax_ (by rw[HO.out,go_ _ NS.out];rfl),n,rfl⟩
theorem oc_ (s:ByteArray)(i:Nat)(w:World)(hs:s.size≤maxLen)(hi:i<s.size) :
  Calls Tryz.prog 94 #[.string s,.int .i64 i] w fun e w'=>e=.returned (.tuple #[.int .i64 (dN_ s i).1,.int .i64 (dN_ s i).2])∧∃ n,w'=w.drewN n:=by
 have up:∀ (e:Ending) (w':World),(e=.returned (.tuple #[.int .i64 (dN_ s i).1,.int .i64 (dN_ s i).2])∧w=w')→e=.returned (.tuple #[.int .i64 (dN_ s i).1,.int .i64 (dN_ s i).2])∧∃ n,w'=w.drewN n :=
  fun e w' h=>⟨h.1,0,h.2 ▸ rfl⟩
 cases h1:bN_ s[i]
 ·cases h3:au_ s[i]
  ·by_cases h4:s[i]=63
   ·exact (oB_ s i w hs hi h1 h3 h4).mono up
   ·cases ha:en_ s i
    ·by_cases hq:i+1<s.size
     ·by_cases h62:s[i+1]=62
      ·exact mS_ s i w hs hi h1 h3 h4 ha hq h62
      ·exact mT_ s i w hs hi h1 h3 h4 ha hq h62
     ·exact mU_ s i w hs hi h1 h3 h4 ha hq
    ·exact (mW_ s i w hs hi h1 h3 h4 ha).mono up
  ·exact (qA_ s i w hs hi h1 h3).mono up
 ·exact (oA_ s i w hs hi h1).mono up
open Lx
def bT_ (s:ByteArray)(r:Bool)(p:Nat)(ts:List Tok):List Tok × Nat × Nat :=
 d1_ (s.data.toList.drop (p+as_ r (s.data.toList.drop p))) (p+as_ r (s.data.toList.drop p)) ts
theorem iH_ (s:ByteArray)(h:¬ 4000<s.size):cq_ s.data.toList=bT_ s false 0 []:=by
 rw[cq_,if_neg (by simpa using h),bT_];simp
theorem gp_ (s:ByteArray)(r r':Bool)(p:Nat)(ts:List Tok)(h:as_ r (s.data.toList.drop p)=as_ r' (s.data.toList.drop (p+1))+1) :
  bT_ s r p ts=bT_ s r' (p+1) ts:=by
 unfold bT_;rw[h,show p+(as_ r' (s.data.toList.drop (p+1))+1)=p+1+as_ r' (s.data.toList.drop (p+1)) by omega]
theorem hQ_ (s:ByteArray)(p:Nat)(ts:List Tok)(hp:p<s.size)(h:s[p]=32∨s[p]=9∨s[p]=10):bT_ s false p ts=bT_ s false (p+1) ts:=by
 refine gp_ s _ _ p ts ?_;rw[dm_ s p hp]
 rcases h with h|h|h<;>rw[h]<;>simp
theorem qg_ (s:ByteArray)(p:Nat)(ts:List Tok)(hp:p<s.size)(h:s[p]=35):bT_ s false p ts=bT_ s true p ts:=by
 unfold bT_;rw[dm_ s p hp,dm_ s p hp,h];simp
theorem sk_in (s:ByteArray)(p:Nat)(ts:List Tok)(hp:p<s.size)(h:s[p]≠10):bT_ s true p ts=bT_ s true (p+1) ts:=by
 refine gp_ s _ _ p ts ?_;rw[dm_ s p hp,if_neg h];simp
theorem rJ_ (s:ByteArray)(p:Nat)(ts:List Tok)(hp:p<s.size)(h:s[p]=10):bT_ s true p ts=bT_ s false p ts:=by
 unfold bT_;rw[dm_ s p hp,dm_ s p hp,h];simp
theorem mc_ (s:ByteArray)(r:Bool)(ts:List Tok):bT_ s r s.size ts=(ts,0,0):=by
 have e:s.data.toList.drop s.size=[]:=List.drop_of_length_le (by simp);unfold bT_;rw[e];simp only[as_,Nat.add_zero];rw[e];rfl
theorem n2_ (s:ByteArray)(p:Nat)(ts:List Tok)(hp:p<s.size)(h:¬ (s[p]=32∨s[p]=9∨s[p]=10))(h2:s[p]≠35) :
  bT_ s false p ts=if (dN_ s p).2=p then ([],p,10) else bT_ s false (dN_ s p).2 (ts++[⟨(dN_ s p).1,(s.data.toList.drop p).take ((dN_ s p).2 - p),p⟩]):=by
 have hb:as_ false (s.data.toList.drop p)=0:=by
  rw[dm_ s p hp,if_neg h2,if_neg (fun e=>h (.inr (.inr e))),if_pos];simp only[Bool.not_false,Bool.true_and,Bool.and_eq_true,bne_iff_ne,ne_eq];exact⟨fun e=>h (.inl e),fun e=>h (.inr (.inl e))⟩
 have hne:s.data.toList.drop p≠[]:=by rw[cl_ s p hp];simp
 unfold bT_ dN_;rw[hb,Nat.add_zero]
 by_cases hz:(aW_ (s.data.toList.drop p)).2=0
 ·rw[hi_ _ _ _ hne hz];simp[hz]
 ·rw[gq_ _ _ _ hne hz]
  generalize aW_ (s.data.toList.drop p)=tk at *;simp only[if_neg hz];rw[if_neg (by omega),show p+tk.2 - p=tk.2 by omega];simp only[List.drop_drop,Nat.add_assoc]
theorem jB_ (s:ByteArray)(p:Nat)(hp:p<s.size):p≤(dN_ s p).2∧(dN_ s p).2≤s.size:=by
 have hne:s.data.toList.drop p≠[]:=by rw[cl_ s p hp];simp
 have:=gj_ _ hne;have hs:s.data.size=s.size:=rfl;simp at this;unfold dN_
 split<;>constructor<;>simp<;>omega
theorem mY_ (s:ByteArray)(p:Nat)(_hp:p<s.size):(dN_ s p).1=0↔(dN_ s p).2=p:=by
 unfold dN_
 by_cases hz:(aW_ (s.data.toList.drop p)).2=0
 ·simp[hz]
 ·simp only[if_neg hz]
  constructor
  ·intro h
   exfalso
   revert hz h
   unfold aW_;have hk:∀ l,e9_ l≠0:=fun l=>by unfold e9_;split<;>(try split)<;>simp
   repeat' split
   all_goals simp[hk]
  ·intro h;omega
theorem ml_ (s:ByteArray)(w:World)(hs:s.size≤maxLen) :
  Calls Tryz.prog 55 #[.string s] w (dn_ s w):=by
 unfold maxLen at hs
 by_cases hl:4000<s.size
 ·have hr:=hh_ s.data.toList (by simpa using hl)
  have R:=Lib.hid hr;clear hr;go_enter Tryz.func55,Tryz.ntmps55;go_wp2;refine bodyPost_ret (v:=.tuple #[.slice none 0 0,.int .i64 0,.int .i64 2]) (by simp[results,Tryz.results55,go_sem]) rfl ?_;unfold dn_;rw[R.out];exact⟨_,rfl,Below.refl _ _,World.ownsRow_nil _ _ _ _⟩
 ·have hr:=iH_ s hl
  have R:=Lib.hid hr;clear hr;go_enter Tryz.func55,Tryz.ntmps55;go_wp2
  go_loopg [5,6] s.size (fun k v i wr=>∃ (p:Nat) (ts:List Tok),k=s.size - p∧ts.length≤p∧p≤s.size∧i=.int .i64 p∧wr.ownsRow w.heap.size 138 3 v ts.length (a4_ ts)∧Below w.heap.size w wr∧cq_ s.data.toList=bT_ s false p ts)
  case atStart=>exact⟨0,[],rfl,Nat.le_refl _,Nat.zero_le _,rfl,World.ownsRow_nil _ _ _ _,Below.refl _ _,R.out⟩
  case round =>
   obtain⟨p,ts,rfl,htp,hp,rfl,hown,hbel,heq⟩:=hrel;obtain⟨i0,hi0,hz0,hz1,hz2⟩:=info_parts kE_;have E:=Lib.hid heq;have OW:=Lib.hid hown;have BL:=Lib.hid hbel;clear hown hbel heq
   by_cases hlt:p<s.size
   ·by_cases b1:s[p]=32
    ·have f1:=bF_ 32 32 b1 rfl
     have K:=Lib.hid (hQ_ s p ts hlt (.inl b1));clear b1;go_wp2;go_roundg (s.size - (p+1))
     case measure=>omega
     case rel=>exact⟨p+1,ts,rfl,by omega,by omega,by go_num,OW.out,BL.out,by rw[E.out,K.out]⟩
    ·have f1:=bn_ 32 32 b1 rfl
     by_cases b2:s[p]=9
     ·have f2:=bF_ 9 9 b2 rfl
      have K:=Lib.hid (hQ_ s p ts hlt (.inr (.inl b2)));clear b1 b2;go_wp2;go_roundg (s.size - (p+1))
      case measure=>omega
      case rel=>exact⟨p+1,ts,rfl,by omega,by omega,by go_num,OW.out,BL.out,by rw[E.out,K.out]⟩
     ·have f2:=bn_ 9 9 b2 rfl
      by_cases b3:s[p]=10
      ·have f3:=bF_ 10 10 b3 rfl
       have K:=Lib.hid (hQ_ s p ts hlt (.inr (.inr b3)));clear b1 b2 b3;go_wp2;go_roundg (s.size - (p+1))
       case measure=>omega
       case rel=>exact⟨p+1,ts,rfl,by omega,by omega,by go_num,OW.out,BL.out,by rw[E.out,K.out]⟩
      ·have f3:=bn_ 10 10 b3 rfl
       by_cases b4:s[p]=35
       ·have f4:=bF_ 35 35 b4 rfl
        have K:=Lib.hid (qg_ s p ts hlt b4);have B4:=Lib.hid b4;clear b1 b2 b3 b4;go_wp2;obtain⟨wo,rfl⟩:∃ wo:World,wo=wr:=⟨_,rfl⟩
        go_loopg [6] (s.size - p) (fun k i wr=>∃ q:Nat,k=s.size - q∧p≤q∧q≤s.size∧i=.int .i64 q∧wr=wo∧cq_ s.data.toList=bT_ s true q ts)
        case atStart=>exact⟨p,rfl,Nat.le_refl _,hp,rfl,rfl,by rw[E.out,K.out]⟩
        case round =>
         obtain⟨q,rfl,hpq,hq,rfl,rfl,heq2⟩:=hrel;have E2:=Lib.hid heq2;clear heq2
         by_cases hlt2:q<s.size
         ·by_cases c10:s[q]=10
          ·have f10:=ih_ 10 10 c10 rfl
           have K2:=Lib.hid (rJ_ s q ts hlt2 c10);have hne:p≠q:=by rintro rfl;have:=B4.out;rw[c10] at this;revert this;decide
           clear c10;go_wp2;go_roundg (s.size - q)
           case measure=>omega
           case rel=>exact⟨q,ts,rfl,by omega,hq,rfl,OW.out,BL.out,by rw[E2.out,K2.out]⟩
          ·have f10:=ig_ 10 10 c10 rfl
           have K2:=Lib.hid (sk_in s q ts hlt2 c10);clear c10;go_wp2;go_roundg (s.size - (q+1))
           case measure=>omega
           case rel=>exact⟨q+1,rfl,by omega,by omega,by go_num,rfl,by rw[E2.out,K2.out]⟩
         ·obtain rfl:q=s.size:=by omega
          go_wp2;go_roundg (s.size - s.size)
          case measure=>omega
          case rel=>exact⟨s.size,ts,rfl,by omega,hq,rfl,OW.out,BL.out,by rw[E2.out,mc_,mc_]⟩
       ·have f4:=bn_ 35 35 b4 rfl
        have K:=Lib.hid (n2_ s p ts hlt (by rintro (h|h|h);exact b1 h;exact b2 h;exact b3 h) b4);obtain⟨o1,o2⟩:=jB_ s p hlt;have ok:=mY_ s p hlt;have rone:=fun w=>oc_ s p w (by unfold maxLen;omega) hlt;generalize dN_ s p=o at *;obtain⟨kd,q⟩:=o;simp only at o1 o2 ok;have RO:=Lib.hid rone;clear b1 b2 b3 b4 rone
        by_cases hz:q=p
        ·subst hz
         have ok2:=ok.2 rfl;have KK:=K.out;simp only[if_true] at KK;have K3:=Lib.hid KK;subst ok2;clear ok K KK;go_wp2_with (go_at_call 94;refine (RO.out _).mono ?_;rintro e w' ⟨rfl,n,rfl⟩);refine bodyPost_ret (v:=.tuple #[.slice none 0 0,.int .i64 q,.int .i64 10]) (by simp[results,Tryz.results55,go_sem]) rfl ?_;unfold dn_;rw[E.out,K3.out];exact⟨_,rfl,below_drewN BL.out n,World.ownsRow_nil _ _ _ _⟩
        ·have KK:=K.out
         simp only[if_neg hz] at KK;have K3:=Lib.hid KK;have hkz:((kd:Int)==0)=false:=by simp;exact fun h=>hz (ok.1 (by omega))
         clear ok K KK;go_wp2_with (first|(go_at_call 94;refine (RO.out _).mono ?_;rintro e w' ⟨rfl,n,rfl⟩)|(at_builtin;refine wpList_append_lies _ rfl _ _ _ rfl w.heap.size 138 i0 _ 3 32 Tryz.underlying101 hi0 hz0 hz1 hz2 rfl (by omega) u5 ts.length (a4_ ts) rfl (OW.out.alloc _) ⟨wr.heap.size,0,none⟩ 1 1 [.int .i64 kd,.string (s.extract p q),.int .i64 p] rfl rfl (World.news_of_block (cs:=#[.int .i64 kd,.string (s.extract p q),.int .i64 p]) (t:=138) (fr:=(0,0)) (heap_alloc_new _ _)) (by simp[Value.oneCell']) (by omega) (by unfold maxLen;omega) (by omega) (by have:=BL.out.size;simp;omega) (wr.heap.size+1) (by simp) ?_;intro gg cap w1 hown1 hgrow hat hlt1));have e1:a4_ (ts++[⟨kd,(s.data.toList.drop p).take (q - p),p⟩])=a4_ ts++[.int .i64 kd,.string (s.extract p q),.int .i64 p]:=by
          have h5:=fZ_ s p (q - p);rw[show p+(q - p)=q by omega] at h5;rw[a4_,List.flatMap_append,h5];rfl
         have BL1:=Lib.hid ((((below_drewN BL.out n).alloc (by have:=BL.out.size;simp;omega) _)).grown hgrow (by have:=BL.out.size;simp;omega) (fun k hk=>by have:=OW.out.lt _ hk;omega));have OW1:=Lib.hid hown1;clear hgrow hat hlt1 hown1;go_roundg (s.size - q)
         case measure=>omega
         case rel=>exact⟨q,ts++[⟨kd,(s.data.toList.drop p).take (q - p),p⟩],rfl,by simp;omega,o2,rfl,by rw[e1,List.length_append];exact OW1.out,BL1.out,by rw[E.out,K3.out]⟩
   ·obtain rfl:p=s.size:=by omega
    go_wp2;refine bodyPost_ret (v:=.tuple #[u5,.int .i64 0,.int .i64 0]) (by simp[results,Tryz.results55,go_sem]) rfl ?_;unfold dn_;rw[E.out,mc_];exact⟨_,rfl,BL.out,OW.out⟩
end Go.Proofs.YtjecnionbjlncaaGreatDoor

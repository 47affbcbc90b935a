/- Packed. -/
import Derived.Test.YtjecnionbjlncaaGreatDoorP34
set_option maxRecDepth 100000
set_option maxHeartbeats 6400000
namespace Go.Proofs.YtjecnionbjlncaaGreatDoor
open Go.RowKit
open Lx
def ed_ (s:ByteArray)(i:Nat):Bool:=([45,62]:List UInt8).isPrefixOf (s.data.toList.drop i) || ([124,62]:List UInt8).isPrefixOf (s.data.toList.drop i)
theorem gN_ (s:ByteArray)(i:Nat)(hi:i<s.size):ed_ s i=true↔∃ h:i+1<s.size,s[i+1]=62∧(s[i]=45∨s[i]=124):=by
 unfold ed_;rw[cj_ s i hi]
 by_cases h:i+1<s.size
 ·rw[cj_ s (i+1) h]
  simp only[List.isPrefixOf,Bool.or_eq_true,Bool.and_eq_true,beq_iff_eq,Bool.and_true,h,exists_true_left]
  constructor
  ·rintro (⟨a,b⟩|⟨a,b⟩)
   ·exact⟨b.symm,.inl a.symm⟩
   ·exact⟨b.symm,.inr a.symm⟩
  ·rintro ⟨b,a|a⟩
   ·exact .inl ⟨a.symm,b.symm⟩
   ·exact .inr ⟨a.symm,b.symm⟩
 ·have e:s.data.toList.drop (i+1)=[]:=List.drop_of_length_le (by simp;have:s.data.size=s.size:=rfl;omega)
  rw[e];simp[List.isPrefixOf,h]
theorem er_ (s:ByteArray)(i:Nat)(hi:i<s.size)(h1:bN_ s[i]=false)(h3:as_ s[i]=false)(h4:s[i]≠63) :
  dD_ s i=if ed_ s i then (6,i+2) else if fE_ s[i] then (6,i+1) else (0,i):=by
 unfold dD_;rw[gi_ s i hi,h1,h3];simp only[Bool.false_eq_true,if_false,if_neg h4];cases ha:ed_ s i
 ·have ha':=ha
  unfold ed_ at ha';rw[ha'];cases fE_ s[i]<;>simp
 ·have ha':=ha
  unfold ed_ at ha';rw[ha'];simp
theorem mU_ (s:ByteArray)(i:Nat)(w:World)(hs:s.size≤maxLen)(hi:i<s.size)(h1:bN_ s[i]=false)(h3:as_ s[i]=false)(h4:s[i]≠63)(ha:ed_ s i=true) :
  Calls Tryz.prog 94 #[.string s,.int .i64 i] w fun e w'=>e=.returned (.tuple #[.int .i64 (dD_ s i).1,.int .i64 (dD_ s i).2])∧w=w':=by
 have ho:=er_ s i hi h1 h3 h4;rw[if_pos ha] at ho;have f4:=bk_ 63 63 h4 rfl;obtain⟨hlt,h62,hd⟩:=(gN_ s i hi).1 ha;have f62:=bE_ 62 62 h62 rfl;have HO:=Lib.hid ho;clear ho ha h62 h4;unfold maxLen at hs
 by_cases c:s[i]=45
 ·have f45:=bE_ 45 45 c rfl
  clear c hd;go_enter Tryz.func94,Tryz.ntmps94;go_wp2_with (first|(go_at_call 130;refine (an_ _ _).mono ?_;rw[h1];rintro e w' ⟨rfl,rfl⟩)|(go_at_call 131;refine (ap_ _ _).mono ?_;rw[h3];rintro e w' ⟨rfl,rfl⟩));go_ret2;exact⟨ay_ HO.out,rfl⟩
 ·have f45:=bk_ 45 45 c rfl
  have f124:=bE_ 124 124 (hd.resolve_left c) rfl;clear c hd;go_enter Tryz.func94,Tryz.ntmps94;go_wp2_with (first|(go_at_call 130;refine (an_ _ _).mono ?_;rw[h1];rintro e w' ⟨rfl,rfl⟩)|(go_at_call 131;refine (ap_ _ _).mono ?_;rw[h3];rintro e w' ⟨rfl,rfl⟩));go_ret2;exact⟨ay_ HO.out,rfl⟩
def cQ_:ByteArray:=⟨#[92,58,61,59,123,125,40,41,46,126,64,60,62,44,91,93,33]⟩
def gU_ (c:UInt8)(k:Nat):Prop:=∀ j (h:j<cQ_.size),j<k→cQ_[j]≠c
theorem gU_.step {c:UInt8}{k:Nat}(h:gU_ c k)(hk:k<cQ_.size)(hne:cQ_[k]≠c):gU_ c (k+1):=by
 intro j hj hl
 by_cases e:j=k
 ·subst e;exact hne
 ·exact h j hj (by omega)
theorem fD_ (c:UInt8)(k:Nat)(hk:k<cQ_.size)(h:cQ_[k]=c):fE_ c=true:=by
 unfold fE_;rw[List.contains_iff_mem,← h];exact List.getElem_mem (l:=gl_) (n:=k) hk
theorem gm_ (c:UInt8)(h:gU_ c 17):fE_ c=false:=by
 cases hb:fE_ c
 ·rfl
 ·unfold fE_ at hb
  rw[List.contains_iff_mem] at hb;obtain⟨j,hj,e⟩:=List.mem_iff_getElem.1 hb;exact absurd e (h j hj hj)
theorem mS_ (s:ByteArray)(i:Nat)(w:World)(hs:s.size≤maxLen)(hi:i<s.size)(h1:bN_ s[i]=false)(h3:as_ s[i]=false)(h4:s[i]≠63)(ha:ed_ s i=false)(hq:¬ i+1<s.size) :
  Calls Tryz.prog 94 #[.string s,.int .i64 i] w fun e w'=>e=.returned (.tuple #[.int .i64 (dD_ s i).1,.int .i64 (dD_ s i).2])∧∃ n,w'=w.drewN n:=by
 have ho:=er_ s i hi h1 h3 h4;rw[if_neg (by rw[ha];simp)] at ho;have f4:=bk_ 63 63 h4 rfl;have HO:=Lib.hid ho;clear ho ha h4;unfold maxLen at hs;go_enter Tryz.func94,Tryz.ntmps94;go_wp2_with (first|(go_at_call 130;refine (an_ _ _).mono ?_;rw[h1];rintro e w' ⟨rfl,rfl⟩)|(go_at_call 131;refine (ap_ _ _).mono ?_;rw[h3];rintro e w' ⟨rfl,rfl⟩))
 go_loopw [12] (fun k wr=>∃ j:Nat,j≤17∧k=.int .i64 j∧gU_ s[i] j∧∃ n,wr=w.drewN n) (fun k _=>17 - (intOf k).toNat)
 case atStart=>exact⟨0,by omega,rfl,fun _ _ h=>absurd h (by omega),0,rfl⟩
 case round =>
  obtain⟨j,hj,rfl,hns,n,rfl⟩:=hrel;have NS:=Lib.hid hns;clear hns
  by_cases hlt:j<17
  ·have hsz:j<cQ_.size:=hlt
   have z1:(0:Int)≤(j:Int):=(by omega);have z2:(j:Int)<17:=(by omega);have z3:(0:Int)≤(i:Int):=(by omega);have z4:(i:Int)<(s.size:Int):=by omega
   by_cases ce:cQ_[j]=s[i]
   ·have SB:=Lib.hid (fD_ s[i] j hlt ce)
    have fe:((cQ_[j].toNat:Int)==(s[i].toNat:Int))=true:=by rw[ce];simp
    clear ce;unfold cQ_ at fe hsz;go_wp2;go_quiet (fail);go_wp2;go_ret2;exact⟨ay_ (by rw[HO.out,SB.out];rfl),_,by first|rfl|exact World.drewN_drewN w n nq⟩
   ·have RN:=Lib.hid (NS.out.step hlt ce)
    have fe:((cQ_[j].toNat:Int)==(s[i].toNat:Int))=false:=by simp;exact fun h=>ce (UInt8.toNat_inj.1 (by omega))
    clear ce;unfold cQ_ at fe hsz;go_wp2;go_quiet (fail);go_wp2;go_roundw
    case rel=>exact⟨j+1,by omega,by go_num,RN.out,_,rfl⟩
    case measure=>simp[intOf];omega
  ·obtain rfl:j=17:=by omega
   go_wp2;go_ret2;exact⟨ay_ (by rw[HO.out,gm_ _ NS.out];rfl),n,rfl⟩
theorem mR_ (s:ByteArray)(i:Nat)(w:World)(hs:s.size≤maxLen)(hi:i<s.size)(h1:bN_ s[i]=false)(h3:as_ s[i]=false)(h4:s[i]≠63)(ha:ed_ s i=false)(hq:i+1<s.size)(h62:s[i+1]≠62) :
  Calls Tryz.prog 94 #[.string s,.int .i64 i] w fun e w'=>e=.returned (.tuple #[.int .i64 (dD_ s i).1,.int .i64 (dD_ s i).2])∧∃ n,w'=w.drewN n:=by
 have ho:=er_ s i hi h1 h3 h4;rw[if_neg (by rw[ha];simp)] at ho;have f4:=bk_ 63 63 h4 rfl;have f62:=bk_ 62 62 h62 rfl;have HO:=Lib.hid ho;clear ho ha h4 h62;unfold maxLen at hs;go_enter Tryz.func94,Tryz.ntmps94;go_wp2_with (first|(go_at_call 130;refine (an_ _ _).mono ?_;rw[h1];rintro e w' ⟨rfl,rfl⟩)|(go_at_call 131;refine (ap_ _ _).mono ?_;rw[h3];rintro e w' ⟨rfl,rfl⟩))
 go_loopw [12] (fun k wr=>∃ j:Nat,j≤17∧k=.int .i64 j∧gU_ s[i] j∧∃ n,wr=w.drewN n) (fun k _=>17 - (intOf k).toNat)
 case atStart=>exact⟨0,by omega,rfl,fun _ _ h=>absurd h (by omega),0,rfl⟩
 case round =>
  obtain⟨j,hj,rfl,hns,n,rfl⟩:=hrel;have NS:=Lib.hid hns;clear hns
  by_cases hlt:j<17
  ·have hsz:j<cQ_.size:=hlt
   have z1:(0:Int)≤(j:Int):=(by omega);have z2:(j:Int)<17:=(by omega);have z3:(0:Int)≤(i:Int):=(by omega);have z4:(i:Int)<(s.size:Int):=by omega
   by_cases ce:cQ_[j]=s[i]
   ·have SB:=Lib.hid (fD_ s[i] j hlt ce)
    have fe:((cQ_[j].toNat:Int)==(s[i].toNat:Int))=true:=by rw[ce];simp
    clear ce;unfold cQ_ at fe hsz;go_wp2;go_quiet (fail);go_wp2;go_ret2;exact⟨ay_ (by rw[HO.out,SB.out];rfl),_,by first|rfl|exact World.drewN_drewN w n nq⟩
   ·have RN:=Lib.hid (NS.out.step hlt ce)
    have fe:((cQ_[j].toNat:Int)==(s[i].toNat:Int))=false:=by simp;exact fun h=>ce (UInt8.toNat_inj.1 (by omega))
    clear ce;unfold cQ_ at fe hsz;go_wp2;go_quiet (fail);go_wp2;go_roundw
    case rel=>exact⟨j+1,by omega,by go_num,RN.out,_,rfl⟩
    case measure=>simp[intOf];omega
  ·obtain rfl:j=17:=by omega
   go_wp2;go_ret2;exact⟨ay_ (by rw[HO.out,gm_ _ NS.out];rfl),n,rfl⟩
theorem mQ_ (s:ByteArray)(i:Nat)(w:World)(hs:s.size≤maxLen)(hi:i<s.size)(h1:bN_ s[i]=false)(h3:as_ s[i]=false)(h4:s[i]≠63)(ha:ed_ s i=false)(hq:i+1<s.size)(h62:s[i+1]=62) :
  Calls Tryz.prog 94 #[.string s,.int .i64 i] w fun e w'=>e=.returned (.tuple #[.int .i64 (dD_ s i).1,.int .i64 (dD_ s i).2])∧∃ n,w'=w.drewN n:=by
 have ho:=er_ s i hi h1 h3 h4;rw[if_neg (by rw[ha];simp)] at ho;have f4:=bk_ 63 63 h4 rfl;have f62:=bE_ 62 62 h62 rfl;have f45:=bk_ 45 45 (fun h=>by have:=(gN_ s i hi).2 ⟨hq,h62,.inl h⟩;rw[ha] at this;cases this) rfl;have f124:=bk_ 124 124 (fun h=>by have:=(gN_ s i hi).2 ⟨hq,h62,.inr h⟩;rw[ha] at this;cases this) rfl;have HO:=Lib.hid ho;clear ho ha h4 h62;unfold maxLen at hs;go_enter Tryz.func94,Tryz.ntmps94;go_wp2_with (first|(go_at_call 130;refine (an_ _ _).mono ?_;rw[h1];rintro e w' ⟨rfl,rfl⟩)|(go_at_call 131;refine (ap_ _ _).mono ?_;rw[h3];rintro e w' ⟨rfl,rfl⟩))
 go_loopw [12] (fun k wr=>∃ j:Nat,j≤17∧k=.int .i64 j∧gU_ s[i] j∧∃ n,wr=w.drewN n) (fun k _=>17 - (intOf k).toNat)
 case atStart=>exact⟨0,by omega,rfl,fun _ _ h=>absurd h (by omega),0,rfl⟩
 case round =>
  obtain⟨j,hj,rfl,hns,n,rfl⟩:=hrel;have NS:=Lib.hid hns;clear hns
  by_cases hlt:j<17
  ·have hsz:j<cQ_.size:=hlt
   have z1:(0:Int)≤(j:Int):=(by omega);have z2:(j:Int)<17:=(by omega);have z3:(0:Int)≤(i:Int):=(by omega);have z4:(i:Int)<(s.size:Int):=by omega
   by_cases ce:cQ_[j]=s[i]
   ·have SB:=Lib.hid (fD_ s[i] j hlt ce)
    have fe:((cQ_[j].toNat:Int)==(s[i].toNat:Int))=true:=by rw[ce];simp
    clear ce;unfold cQ_ at fe hsz;go_wp2;go_quiet (fail);go_wp2;go_ret2;exact⟨ay_ (by rw[HO.out,SB.out];rfl),_,by first|rfl|exact World.drewN_drewN w n nq⟩
   ·have RN:=Lib.hid (NS.out.step hlt ce)
    have fe:((cQ_[j].toNat:Int)==(s[i].toNat:Int))=false:=by simp;exact fun h=>ce (UInt8.toNat_inj.1 (by omega))
    clear ce;unfold cQ_ at fe hsz;go_wp2;go_quiet (fail);go_wp2;go_roundw
    case rel=>exact⟨j+1,by omega,by go_num,RN.out,_,rfl⟩
    case measure=>simp[intOf];omega
  ·obtain rfl:j=17:=by omega
   go_wp2;go_ret2;exact⟨ay_ (by rw[HO.out,gm_ _ NS.out];rfl),n,rfl⟩
theorem n8_ (s:ByteArray)(i:Nat)(w:World)(hs:s.size≤maxLen)(hi:i<s.size) :
  Calls Tryz.prog 94 #[.string s,.int .i64 i] w fun e w'=>e=.returned (.tuple #[.int .i64 (dD_ s i).1,.int .i64 (dD_ s i).2])∧∃ n,w'=w.drewN n:=by
 have up:∀ (e:Ending) (w':World),(e=.returned (.tuple #[.int .i64 (dD_ s i).1,.int .i64 (dD_ s i).2])∧w=w')→e=.returned (.tuple #[.int .i64 (dD_ s i).1,.int .i64 (dD_ s i).2])∧∃ n,w'=w.drewN n :=
  fun e w' h=>⟨h.1,0,h.2 ▸ rfl⟩
 cases h1:bN_ s[i]
 ·cases h3:as_ s[i]
  ·by_cases h4:s[i]=63
   ·exact (ow_ s i w hs hi h1 h3 h4).mono up
   ·cases ha:ed_ s i
    ·by_cases hq:i+1<s.size
     ·by_cases h62:s[i+1]=62
      ·exact mQ_ s i w hs hi h1 h3 h4 ha hq h62
      ·exact mR_ s i w hs hi h1 h3 h4 ha hq h62
     ·exact mS_ s i w hs hi h1 h3 h4 ha hq
    ·exact (mU_ s i w hs hi h1 h3 h4 ha).mono up
  ·exact (qC_ s i w hs hi h1 h3).mono up
 ·exact (ov_ s i w hs hi h1).mono up
end Go.Proofs.YtjecnionbjlncaaGreatDoor

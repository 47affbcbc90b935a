/- Packed. -/
import Derived.Test.YtkihnodkhnahiaaGreatDoorP18
import Derived.Test.YtkihnodkhnahiaaGreatDoorP17
import Derived.KernelRfl
set_option maxRecDepth 100000
set_option maxHeartbeats 6400000
namespace Go.Proofs.YtkihnodkhnahiaaGreatDoor.Tp
open Lx
theorem ps_ {l:List UInt8}{er:Nat}(h:bF_ l=.error er):er≠0:=by
 rw[bF_] at h
 split at h
 ·next hn=>injection h with h;rw[← h];exact hn
 ·split at h
  ·injection h with h;omega
  ·split at h
   ·injection h with h;omega
   ·split at h
    ·injection h with h;omega
    ·cases h
def xn (n:Nat):ByteArray:=if n<10 then ⟨#[120,UInt8.ofNat (48+n)]⟩ else aZ_ n
theorem oK_:aZ_=xn:=by
 funext n
 unfold xn
 split
 ·next h =>
  apply ByteArray.ext;have:=ls_ n;rw[Lib.decDigits,dif_pos h] at this;apply Array.toList_inj.1;rw[this]
 ·rfl
theorem e6_ {t D:Ty}{F:List ByteArray}(hs:Std t)(hD:dbT [] t=D)(hF:cT_ dJ_ D [] []=F):db_ t=(cnT xn F [] 0 D).1:=by
 rw[oi_ t hs,km_ t hs,hD,hF,oK_]
end Go.Proofs.YtkihnodkhnahiaaGreatDoor.Tp

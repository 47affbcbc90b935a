/- Texts laid together: TyLawQ, TyAwkP. -/
import Derived.Test.YtkihnodkhnahiaaGreatDoorP18
import Derived.Test.YtkihnodkhnahiaaGreatDoorP17
import Derived.KernelRfl
set_option maxRecDepth 100000
set_option maxHeartbeats 6400000
namespace Go.Proofs.YtkihnodkhnahiaaGreatDoor.Tp
open Lx
theorem oo_ {l:List UInt8}{er:Nat}(h:bA_ l=.error er):er≠0:=by
 rw[bA_] at h
 split at h
 ·next hn=>injection h with h;rw[← h];exact hn
 ·split at h
  ·injection h with h;omega
  ·split at h
   ·injection h with h;omega
   ·split at h
    ·injection h with h;omega
    ·cases h
def xn (n:Nat):ByteArray:=if n<10 then ⟨#[120,UInt8.ofNat (48+n)]⟩ else aU_ n
theorem nH_:aU_=xn:=by
 funext n
 unfold xn
 split
 ·next h =>
  apply ByteArray.ext;have:=kw_ n;rw[Lib.decDigits,dif_pos h] at this;apply Array.toList_inj.1;rw[this]
 ·rfl
theorem eN_ {t D:Ty}{F:List ByteArray}(hs:Std t)(hD:dbT [] t=D)(hF:cK_ dw_ D [] []=F):c1_ t=(cnT xn F [] 0 D).1:=by
 rw[nl_ t hs,jA_ t hs,hD,hF,nH_]
end Go.Proofs.YtkihnodkhnahiaaGreatDoor.Tp

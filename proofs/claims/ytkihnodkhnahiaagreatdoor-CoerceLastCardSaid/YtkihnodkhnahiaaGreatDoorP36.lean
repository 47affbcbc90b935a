/- Texts laid together: TyLawQ, TyAwkP. -/
import Derived.Test.YtkihnodkhnahiaaGreatDoorP18
import Derived.Test.YtkihnodkhnahiaaGreatDoorP17
import Derived.KernelRfl

namespace Go.Proofs.YtkihnodkhnahiaaGreatDoor.Tp
open Lx
theorem parse_er {l:List UInt8}{er:Nat}(h:parseT l=.error er):er≠0:=by
 rw[parseT] at h
 split at h
 ·next hn=>injection h with h;rw[← h];exact hn
 ·split at h
  ·injection h with h;omega
  ·split at h
   ·injection h with h;omega
   ·split at h
    ·injection h with h;omega
    ·cases h
def xn (n:Nat):ByteArray:=if n<10 then ⟨#[120,UInt8.ofNat (48+n)]⟩ else xname n
theorem xname_xn:xname=xn:=by
 funext n
 unfold xn
 split
 ·next h =>
  apply ByteArray.ext
  have:=xname_list n
  rw[Lib.decDigits,dif_pos h] at this
  apply Array.toList_inj.1
  rw[this]
 ·rfl
theorem canon_fast {t D:Ty}{F:List ByteArray}(hs:Std t)(hD:dbT [] t=D)(hF:walkF ocStep D [] []=F):canonT t=(cnT xn F [] 0 D).1:=by
 rw[canonT_cn t hs,free_db t hs,hD,hF,xname_xn]
end Go.Proofs.YtkihnodkhnahiaaGreatDoor.Tp

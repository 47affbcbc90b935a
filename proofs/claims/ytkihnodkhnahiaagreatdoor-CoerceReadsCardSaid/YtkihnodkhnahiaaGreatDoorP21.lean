/- Packed. -/
import Derived.Test.YtkihnodkhnahiaaGreatDoorP06
import Derived.ProofKit
import Derived.LaidMore
import Derived.OpenShut
import Derived.ShutString
import Derived.ChangeOld
import Derived.Below
import Derived.Stop.Joined
import Derived.MakeChecks
import Derived.Lib.LaidTab
import Derived.LaidHandle
set_option maxRecDepth 100000
set_option maxHeartbeats 6400000
namespace Go.Proofs.YtkihnodkhnahiaaGreatDoor.Tp
open Go.ChangeShapes Go.WideShapes Go.ChangeAt Go.WideMaps Go.WideElems Go.RowKit
theorem own:ownKnob Tryz.prog.godebug=none:=by kernel_rfl
theorem laidOut:laidOutB Tryz.prog=true:=by kernel_rfl
def rm_:List (String × DataW Unit):=[("math/bits.deBruijn32tab",Rows.laid_math_bits_deBruijn32tab),("math/bits.deBruijn64tab",Rows.laid_math_bits_deBruijn64tab),("internal/strconv.uint64pow10",Rows.laid_internal_strconv_uint64pow10),("strconv.ErrRange",Rows.laid_strconv_ErrRange),("strconv.ErrSyntax",Rows.laid_strconv_ErrSyntax)]
theorem sX_ (os:Os)(args:Array Value):laidMetH Tryz.prog rm_ ((World.doorLaid Tryz.prog 400 os).forCall (fun _ _=>0) ⟨#[],args,[]⟩).memory :=
 laidMetH_of_parts3 (fuel:=8) (laidMet_of_run' 8 (by kernel_rfl) (by kernel_rfl)) (by kernel_rfl) (by kernel_rfl)
theorem qQ_ {W:World}(h:laidMetH Tryz.prog rm_ W):Tab W:=by
 rw[MakeChecks.laidMetH_plain _ _ _ (by kernel_rfl)] at h;obtain⟨ps,⟨_,_,_,_,_,_,_,_,_,_,⟨_,_,_,_,_,_,_,_,_,_,⟨g',t',cs,fuel,p,q,hg',ht',hvar,hd,_,_⟩,_⟩,_⟩,_,_⟩:=h;have ht:((Tryz.prog.globalNamed "internal/strconv.uint64pow10").bind (Tryz.prog.globals[·]?)).map (·.type)=some 170:=by kernel_rfl
 rw[hg',Option.bind_some,ht'] at ht;obtain rfl:=Option.some.inj ht;unfold Tab Lib.TabIs;rw[hvar,← Lib.cells_of_tab (zs:=Lib.pow10Tab) (k:=.u64) Tryz.underlying170 Tryz.underlying154 (by kernel_rfl) (by kernel_rfl) hd]
end Go.Proofs.YtkihnodkhnahiaaGreatDoor.Tp

/- Packed. -/
import Derived.Test.YtjecnionbjlncaaGreatDoorP21
import Derived.Laws.IdiomStrings
import Derived.ProofKit
import Derived.LaidMore
import Derived.OpenShut
import Derived.ShutString
import Derived.ChangeOld
import Derived.Stop.Joined
import Derived.MakeChecks
import Derived.Lib.LaidTab
import Derived.LaidHandle
set_option maxRecDepth 100000
set_option maxHeartbeats 6400000
namespace Go.Proofs.YtjecnionbjlncaaGreatDoor.Tp
section
open Go.RowKit
theorem ge_ (W:World)(b r:Nat)(hr:r<10)(h:W.cell? ⟨b,0,none⟩=some (.int .u8 (48+(r:Int)))) :
  (convert 99 9 (.slice (some ⟨b,0,none⟩) 1 1)).run Tryz.prog W=.ok (.string ⟨#[UInt8.ofNat (48+r)]⟩) W:=by
 refine run_convert_bytes_back W 99 9 5 ⟨b,0,none⟩ 1 [UInt8.ofNat (48+r)] Tryz.underlying99 Tryz.underlying5 Tryz.underlying9 (fun j hj=>?_);have hj0:j=0:=by simp at hj;omega
 subst hj0;show W.cell? ((⟨b,0,none⟩:Addr).add 0)=_;rw[show (⟨b,0,none⟩:Addr).add 0=⟨b,0,none⟩ from rfl,h];congr 2;show (48+(r:Int))=((UInt8.ofNat (48+r)).toNat:Int);rw[UInt8.toNat_ofNat'];omega
theorem gg_ (w:World)(v:Value)(t:TypeId):(w.alloc (.cells #[v] t)).cell? ⟨w.heap.size,0,none⟩=some v:=cell_of_row _ _ 0 _ _ _ (heap_alloc_new w _)
theorem ib_ (n:Nat)(h:n<10)(w:World):Calls Tryz.prog 20 #[.int .i64 n] w (bX_ w (Lib.decDigits n)):=by
 have h1:(n:Int)<10:=by omega
 have h0:(0:Int)≤(n:Int):=by omega
 have hc:=ge_ _ _ n h (gg_ w (.int .u8 (48+(n:Int))) 5);have E:Hid (Lib.decDigits n=[UInt8.ofNat (48+n)]):=hid (by rw[Lib.decDigits,dif_pos h]);have HZ:=hid (aw_ w (.cells #[.int .u8 (48+(n:Int))] 5));clear h;generalize UInt8.ofNat (48+n)=x at *;go_enter Tryz.func20,Tryz.ntmps20;go_wp2;go_ret;exact⟨by rw[E.out];rfl,HZ.out⟩
theorem jO_ (N:Int)(q r:Nat)(h10:¬ N<10)(hq:N.tdiv 10=(q:Int))(hr:N.tmod 10=(r:Int))(hr10:r<10)(hqb:q≤1000000000000000000)(w:World)(ih:∀ w,Calls Tryz.prog 20 #[.int .i64 (q:Int)] w (bX_ w (Lib.decDigits q)))(hl:(Lib.decDigits q).length≤100) :
  Calls Tryz.prog 20 #[.int .i64 N] w (bX_ w (Lib.decDigits q++[UInt8.ofNat (48+r)])):=by
 have hrI:(r:Int)<10:=by omega
 have hrJ:(0:Int)≤(r:Int):=by omega
 have hw1:IntKind.i64.wrap (q:Int)=(q:Int):=by rw[IntKind.wrap_i64];omega
 have hw2:IntKind.i64.wrap (48+(r:Int))=48+(r:Int):=by rw[IntKind.wrap_i64];omega
 have hw3:IntKind.u8.wrap (48+(r:Int))=48+(r:Int):=by rw[IntKind.wrap_u8];omega
 have hsz:(ab_ (Lib.decDigits q)).size≤100:=by rw[aU_];exact hl
 have hc:=ge_ ((w.alloc (.cells #[.int .u8 (48+(r:Int))] 5)).drew) w.heap.size r hr10 (gg_ w (.int .u8 (48+(r:Int))) 5);have F:Hid (ab_ (Lib.decDigits q)++⟨#[UInt8.ofNat (48+r)]⟩=ab_ (Lib.decDigits q++[UInt8.ofNat (48+r)])):=hid (bt_ _ _);have HD:=hid ((Below.refl w.heap.size w).drew);have HDA:=hid ((aw_ w (.cells #[.int .u8 (48+(r:Int))] 5)).drew);have IHA:=hid (ih ((w.alloc (.cells #[.int .u8 (48+(r:Int))] 5)).drew));have IHB:=hid (ih w.drew);have HX1:=hid (fun (W:World)=>ge_ _ _ r hr10 (gg_ W (.int .u8 (48+(r:Int))) 5));have HX2:=hid (fun (W:World) (hb:Below ((w.alloc (.cells #[.int .u8 (48+(r:Int))] 5)).drew).heap.size ((w.alloc (.cells #[.int .u8 (48+(r:Int))] 5)).drew) W)=>ge_ W w.heap.size r hr10 ((hb.cell (p:=⟨w.heap.size,0,none⟩) (by simp)).trans (gg_ w (.int .u8 (48+(r:Int))) 5)));clear ih hr10 hl;unfold bX_ at IHA IHB;generalize UInt8.ofNat (48+r)=x at *;generalize ab_ (Lib.decDigits q)=sq at *;go_enter Tryz.func20,Tryz.ntmps20;go_wp2_with fail
 go_region_with
  (first
   | (go_at_call 20;(try simp only[hw1,hw2,hw3]);(with_reducible refine IHA.out.mono ?_);rintro e w1 ⟨rfl,hb1⟩;have hA2:=HX2.out w1 hb1;have HB:=hid (HDA.out.trans (hb1.mono HDA.out.size)))
   | (go_at_call 20;(try simp only[hw1,hw2,hw3]);(with_reducible refine IHB.out.mono ?_);rintro e w1 ⟨rfl,hb1⟩;have hA1:=HX1.out w1;have HB:=hid (HD.out.trans (hb1.mono HD.out.size))))
 all_goals
  go_wp2;go_ret;refine⟨by rw[← F.out];rfl,?_⟩
  first
   | exact HB.out
   | exact HB.out.alloc HB.out.size _
theorem gO_:∀ (n:Nat),n<1000000000000000000→∀ w:World,Calls Tryz.prog 20 #[.int .i64 n] w (bX_ w (Lib.decDigits n)):=by
 intro n
 induction n using Nat.strongRecOn with
 | _ n ih =>
  intro hn w
  by_cases h:n<10
  ·exact ib_ n h w
  ·have e:Lib.decDigits n=Lib.decDigits (n / 10)++[UInt8.ofNat (48+n % 10)]:=by rw[Lib.decDigits,dif_neg h]
   rw[e];refine jO_ n (n / 10) (n % 10) (by omega) ?_ ?_ (by omega) (by omega) w (ih (n / 10) (by omega) (by omega)) ?_
   ·rw[Int.tdiv_eq_ediv_of_nonneg (by omega)];omega
   ·rw[Int.tmod_eq_emod_of_nonneg (by omega)];omega
   ·have:=(dI_ (n / 10)).2.2.2 18 (by omega) (show n / 10<10 ^ 18 by omega)
    omega
end
section
open Go.ChangeShapes Go.WideShapes Go.ChangeAt Go.WideMaps Go.WideElems Go.RowKit
theorem own:ownKnob Tryz.prog.godebug=none:=by kernel_rfl
theorem laidOut:laidOutB Tryz.prog=true:=by kernel_rfl
def sg_:List (String × DataW Unit):=[("math/bits.deBruijn32tab",Rows.laid_math_bits_deBruijn32tab),("math/bits.deBruijn64tab",Rows.laid_math_bits_deBruijn64tab),("internal/strconv.uint64pow10",Rows.laid_internal_strconv_uint64pow10),("strconv.ErrRange",Rows.laid_strconv_ErrRange),("strconv.ErrSyntax",Rows.laid_strconv_ErrSyntax)]
theorem sQ_ (os:Os)(args:Array Value):laidMetH Tryz.prog sg_ ((World.doorLaid Tryz.prog 400 os).forCall (fun _ _=>0) ⟨#[],args,[]⟩).memory :=
 laidMetH_of_parts3 (fuel:=8) (laidMet_of_run' 8 (by kernel_rfl) (by kernel_rfl)) (by kernel_rfl) (by kernel_rfl)
theorem p5_ {W:World}(h:laidMetH Tryz.prog sg_ W):Tab W:=by
 rw[MakeChecks.laidMetH_plain _ _ _ (by kernel_rfl)] at h;obtain⟨ps,⟨_,_,_,_,_,_,_,_,_,_,⟨_,_,_,_,_,_,_,_,_,_,⟨g',t',cs,fuel,p,q,hg',ht',hvar,hd,_,_⟩,_⟩,_⟩,_,_⟩:=h;have ht:((Tryz.prog.globalNamed "internal/strconv.uint64pow10").bind (Tryz.prog.globals[·]?)).map (·.type)=some 208:=by kernel_rfl
 rw[hg',Option.bind_some,ht'] at ht;obtain rfl:=Option.some.inj ht;unfold Tab Lib.TabIs;rw[hvar,← Lib.cells_of_tab (zs:=Lib.pow10Tab) (k:=.u64) Tryz.underlying208 Tryz.underlying190 (by kernel_rfl) (by kernel_rfl) hd]
end
end Go.Proofs.YtjecnionbjlncaaGreatDoor.Tp

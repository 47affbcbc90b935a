/- Texts laid together: TyClosed, TyPrintA, TyFrame. -/
import Derived.Test.YtkihnodkhnahiaaGreatDoorP09
import Derived.Test.YtkihnodkhnahiaaGreatDoorP04
import Derived.Lib.AppendIntMem
import Derived.Lib.ItoaLen
import Derived.Test.YtkihnodkhnahiaaGreatDoorRows
import Derived.ProofKit
import Derived.LaidMore
import Derived.OpenShut
import Derived.ShutString
import Derived.ChangeOld
import Derived.Below
import Derived.Stop.Joined
import Derived.MakeChecks
import Derived.Lib.LaidTab
import Derived.LaidHandle

namespace Go.Proofs.YtkihnodkhnahiaaGreatDoor.Tp
open Go.RowKit
def StrPost (w:World)(s:List UInt8)(e:Ending)(w':World):Prop:=e=.returned (.string (bytes s))∧Below w.heap.size w w'
def Tab (w:World):Prop:=Lib.TabIs Tryz.prog w "internal/strconv.uint64pow10" .u64 Lib.pow10Tab
def PrintSaid (t:Ty):Prop:=∀ (S:Nat→Prop) (a:Option Addr) (c:Nat) (w:World),ArgsAt S w (.slice a t.args.length c) t.args→(∀ b,S b→b<w.heap.size)→Wf t→(printT t).length≤4500000000000→Tab w →
 Calls Tryz.prog 43 #[tv t a c] w (StrPost w (printT t))
theorem bytes_app (a b:List UInt8):bytes a++bytes b=bytes (a++b):=by
 apply ByteArray.ext;simp[bytes]
theorem bytes_size (a:List UInt8):(bytes a).size=a.length:=by simp[bytes,ByteArray.size]
set_option maxHeartbeats 800000 in
theorem closed_any (t:Ty)(hp:PrintSaid t)(S:Nat→Prop)(a:Option Addr)(c:Nat)(w:World)(hA:ArgsAt S w (.slice a t.args.length c) t.args)(hS:∀ b,S b→b<w.heap.size)(hw:Wf t)(hl:(printT t).length≤4500000000000)
  (ht:∀ w',Below w.heap.size w w'→Tab w') (bare:Bool):Calls Tryz.prog 79 #[tv t a c,.bool bare] w (StrPost w (paren bare (printT t))):=by
 have hz:=(Below.refl w.heap.size w).alloc (Nat.le_refl _) (.cells #[.int .i64 t.kind,.string t.name,.int .i64 t.n,.slice a t.args.length c] 30)
 have C:=hid (hp S a c _ (hA.keep (fun b hb=>hz.block b (hS b hb))) (fun b hb=>by have:=hS b hb;simp;omega) hw hl (ht _ hz))
 have b4:=B4.new w (.int .i64 t.kind) (.string t.name) (.int .i64 t.n) (.slice a t.args.length c)
 have c0:=b4.c0
 have c1:=b4.c1
 have c2:=b4.c2
 have c3:=b4.c3
 have HZ:=hid hz
 clear hz b4 hA hS hw hp ht
 cases bare
 ·unfold tv at *
  have hsz:(bytes (printT t)).size≤4500000000000:=by rw[bytes_size];exact hl
  have E:Hid ((⟨#[40]⟩:ByteArray)++bytes (printT t)++⟨#[41]⟩=bytes (paren false (printT t))):=hid (by
   show bytes [40]++bytes (printT t)++bytes [41]=_
   rw[bytes_app,bytes_app];rfl)
  clear hl
  go_enter Tryz.func79,Tryz.ntmps79
  go_wp2_with fail
  refine C.out.mono ?_
  rintro e w1 ⟨rfl,hb⟩
  generalize bytes (printT t)=s at *
  have z1:(⟨#[40]⟩++s:ByteArray).size≤4500000000001:=by rw[ByteArray.size_append];show 1+s.size≤_;omega
  go_wp2
  go_ret
  exact⟨by rw[← E.out];rfl,HZ.out.trans (hb.mono HZ.out.size)⟩
 ·unfold tv at *
  go_enter Tryz.func79,Tryz.ntmps79
  go_wp2_with fail
  refine C.out.mono ?_
  rintro e w1 ⟨rfl,hb⟩
  go_wp2
  go_ret
  exact⟨rfl,HZ.out.trans (hb.mono HZ.out.size)⟩
theorem tab_kept {w w':World}(h:Tab w):1<w.heap.size∧(w'.heap[1]? = w.heap[1]?→Tab w'):=by
 have hg:Tryz.prog.globalNamed "internal/strconv.uint64pow10" = some 1:=by kernel_rfl
 unfold Tab Lib.TabIs World.var? at h ⊢
 rw[hg] at h ⊢
 simp only[Option.bind_some] at h ⊢
 refine⟨?_,fun e=>by rw[e];exact h⟩
 rcases Nat.lt_or_ge 1 w.heap.size with h'|h'
 ·exact h'
 ·rw[Array.getElem?_eq_none h'] at h;cases h
theorem tab_below {w w':World}(h:Tab w)(hb:Below w.heap.size w w'):Tab w':=(tab_kept h).2 (hb.block _ (tab_kept (w':=w') h).1)
set_option maxHeartbeats 800000 in
theorem print_var (t:Ty)(hk:t.kind=1)(a:Option Addr)(c:Nat)(w:World):Calls Tryz.prog 43 #[tv t a c] w (StrPost w (printT t)):=by
 have E:Hid (bytes (printT t)=t.name):=hid (by rw[printT_eq,hk];rfl)
 have HZ:=hid ((Below.refl w.heap.size w).alloc (Nat.le_refl _) (.cells #[.int .i64 t.kind,.string t.name,.int .i64 t.n,.slice a t.args.length c] 30))
 have b4:=B4.new w (.int .i64 t.kind) (.string t.name) (.int .i64 t.n) (.slice a t.args.length c)
 unfold tv
 generalize t.args.length=n at *
 rw[hk] at *
 have c0:=b4.c0
 have c1:=b4.c1
 clear b4
 go_enter Tryz.func43,Tryz.ntmps43
 go_wp2
 go_ret
 exact⟨by rw[E.out];rfl,HZ.out⟩
set_option maxHeartbeats 800000 in
theorem print_meta (t:Ty)(hk:t.kind=2)(h0:0≤t.n)(h1:t.n<1000000000000000000)(a:Option Addr)(c:Nat)(w:World)(ht:Tab w):Calls Tryz.prog 43 #[tv t a c] w (StrPost w (printT t)):=by
 have E:Hid (printT t=63 :: Lib.itoa t.n):=hid (by rw[printT_eq,hk];rfl)
 have hz:=(Below.refl w.heap.size w).alloc (Nat.le_refl _) (.cells #[.int .i64 t.kind,.string t.name,.int .i64 t.n,.slice a t.args.length c] 30)
 have C:=hid (Tryz.strconv_Itoa t.n (by omega) (by omega) _ (tab_below ht hz))
 have HZ:=hid hz
 have b4:=B4.new w (.int .i64 t.kind) (.string t.name) (.int .i64 t.n) (.slice a t.args.length c)
 have hlen:=Lib.itoa_length_le t.n (by omega) (by omega)
 have z1:(bytes (Lib.itoa t.n)).size≤21:=by rw[bytes_size];exact hlen
 clear hz ht hlen
 unfold tv
 generalize t.args.length=n at *
 rw[hk] at *
 have c0:=b4.c0
 have c2:=b4.c2
 clear b4
 go_enter Tryz.func43,Tryz.ntmps43
 go_wp2_with fail
 refine C.out.mono ?_
 rintro e w1 ⟨rfl,k,os,rfl⟩
 have hb:=hid (Lib.below_grow w.heap.size (w.alloc (.cells #[.int .i64 2,.string t.name,.int .i64 t.n,.slice a n c] 30)) (by simp) k os)
 have F:Hid ((⟨#[63]⟩:ByteArray)++bytes (Lib.itoa t.n)=bytes (printT t)):=hid (by
  rw[E.out];show bytes [63]++_=_;rw[bytes_app];rfl)
 have hbb:(⟨(Lib.itoa t.n).toArray⟩:ByteArray)=bytes (Lib.itoa t.n):=rfl
 rw[hbb]
 generalize bytes (Lib.itoa t.n)=s at *
 go_wp2
 go_ret
 exact⟨by rw[← F.out];rfl,HZ.out.trans hb.out⟩
end Go.Proofs.YtkihnodkhnahiaaGreatDoor.Tp

namespace Go.Proofs.YtkihnodkhnahiaaGreatDoor.Tp
open Go.ChangeShapes Go.WideShapes Go.ChangeAt Go.WideMaps Go.WideElems Go.RowKit
theorem own:ownKnob Tryz.prog.godebug=none:=by kernel_rfl
theorem laidOut:laidOutB Tryz.prog=true:=by kernel_rfl
def laidL:List (String × DataW Unit):=[("math/bits.deBruijn32tab",Rows.laid_math_bits_deBruijn32tab),("math/bits.deBruijn64tab",Rows.laid_math_bits_deBruijn64tab),("internal/strconv.uint64pow10",Rows.laid_internal_strconv_uint64pow10),("strconv.ErrRange",Rows.laid_strconv_ErrRange),("strconv.ErrSyntax",Rows.laid_strconv_ErrSyntax)]
theorem door_met (os:Os)(args:Array Value):laidMetH Tryz.prog laidL ((World.doorLaid Tryz.prog 400 os).forCall (fun _ _=>0) ⟨#[],args,[]⟩).memory :=
 laidMetH_of_parts3 (fuel:=8) (laidMet_of_run' 8 (by kernel_rfl) (by kernel_rfl)) (by kernel_rfl) (by kernel_rfl)
theorem tab_of_laid {W:World}(h:laidMetH Tryz.prog laidL W):Tab W:=by
 rw[MakeChecks.laidMetH_plain _ _ _ (by kernel_rfl)] at h
 obtain⟨ps,⟨_,_,_,_,_,_,_,_,_,_,⟨_,_,_,_,_,_,_,_,_,_,⟨g',t',cs,fuel,p,q,hg',ht',hvar,hd,_,_⟩,_⟩,_⟩,_,_⟩:=h
 have ht:((Tryz.prog.globalNamed "internal/strconv.uint64pow10").bind (Tryz.prog.globals[·]?)).map (·.type)=some 170:=by kernel_rfl
 rw[hg',Option.bind_some,ht'] at ht
 obtain rfl:=Option.some.inj ht
 unfold Tab Lib.TabIs
 rw[hvar,← Lib.cells_of_tab (zs:=Lib.pow10Tab) (k:=.u64) Tryz.underlying170 Tryz.underlying154 (by kernel_rfl) (by kernel_rfl) hd]
end Go.Proofs.YtkihnodkhnahiaaGreatDoor.Tp

/- Packed. -/
import Derived.Test.YtjecnionbjlncaaGreatDoorP28
import Derived.Test.YtjecnionbjlncaaGreatDoorP37
set_option maxRecDepth 100000
set_option maxHeartbeats 6400000
namespace Go.Proofs.YtjecnionbjlncaaGreatDoor.Tp
section
open Go.RowKit
def a8_ (t:Ty):Prop:=a5_ t∧t.size≤50000000000∧(aj_ t).length≤4000000
structure ry_ (n b:Nat)(t:Ty)(a:OA_)(c:Nat)(W:World):Prop where
 k:B4 W b (.int .i64 t.kind) (.string t.name) (.int .i64 t.n) (.slice a t.args.length c)
 h:aa_ (Lt n) W (.slice a t.args.length c) t.args
 lt:b<W.heap.size
 le:n≤W.heap.size
theorem ry_.low {n b:Nat}{t:Ty}{a:OA_}{c:Nat}{W W':World}(R:ry_ n b t a c W)(h:Below W.heap.size W W'):ry_ n b t a c W' :=
 ⟨R.k.low h,R.h.keep fun j hj=>h.block j (bh_ hj R.le),bh_ R.lt h.size,co_ R.le h.size⟩
theorem ry_.of_parse {w W:World}{t:Ty}{a:OA_}{c:Nat}(h:aa_ (In w.heap.size W.heap.size) W (.slice a t.args.length c) t.args) :
  ry_ W.heap.size W.heap.size t a c (W.alloc (.cells #[.int .i64 t.kind,.string t.name,.int .i64 t.n,.slice a t.args.length c] 37)) :=
 ⟨B4.new W _ _ _ _,(h.mono fun b hb=>hb.2).keep fun b hb=>heap_alloc_old W _ hb,by simp,by simp⟩
def AtW (y:Ty)(a:OA_)(c:Nat)(W:World):Prop:=aa_ (Lt W.heap.size) W (.slice a y.args.length c) y.args
theorem AtW.low {y:Ty}{a:OA_}{c:Nat}{W W':World}(R:AtW y a c W)(h:Below W.heap.size W W'):AtW y a c W' :=
 (R.keep fun j hj=>h.block j hj).mono fun _ hj=>bh_ hj h.size
theorem ry_.at_ {n b:Nat}{t:Ty}{a:OA_}{c:Nat}{W:World}(R:ry_ n b t a c W):AtW t a c W:=R.h.mono fun _ hj=>bh_ hj R.le
def fV_ (y:Ty)(W:World)(e:Ending)(W':World):Prop:=∃ a c,e=.returned (.agg #[.int .i64 y.kind,.string y.name,.int .i64 y.n,.slice a y.args.length c])∧AtW y a c W'∧Below W.heap.size W W'
theorem fV_.of {y:Ty}{W:World}{e:Ending}{W':World}(h:TP (Lt W.heap.size) y W e W'):fV_ y W e W':=by
 obtain⟨a,c,he,hA,hb⟩:=h;refine⟨a,c,he,hA.mono fun j hj=>?_,hb⟩
 rcases hj with hj|hj
 ·exact bh_ hj hb.size
 ·exact hj.2
theorem print_h {t:Ty}{a:OA_}{c:Nat}{W:World}(R:AtW t a c W)(hs:a8_ t)(hT:Tab W) :
  Calls Tryz.prog 42 #[.agg #[.int .i64 t.kind,.string t.name,.int .i64 t.n,.slice a t.args.length c]] W (bR_ W (ag_ t)) :=
 iI_ t _ a c W R (fun _ h=>h) hs.1.1 (by have:=eo_ t hs.1;have:=hs.2;omega) hT
theorem nu_ {t:Ty}{a:OA_}{c:Nat}{W:World}(R:AtW t a c W)(hs:a8_ t)(hT:Tab W) :
  Calls Tryz.prog 16 #[.agg #[.int .i64 t.kind,.string t.name,.int .i64 t.n,.slice a t.args.length c]] W (bR_ W (aJ_ t)) :=
 i9_ t _ a c W R (fun _ h=>h) hs.1 hs.2 hT
theorem depth_h {t:Ty}{a:OA_}{c:Nat}{W:World}(R:AtW t a c W)(hd:t.depth≤100000) :
  Calls Tryz.prog 53 #[.agg #[.int .i64 t.kind,.string t.name,.int .i64 t.n,.slice a t.args.length c]] W (ii_ W t.depth) :=
 i4_ t _ _ W ⟨_,rfl,R⟩ (fun _ h=>h) hd
theorem poly_h {t:Ty}{a:OA_}{c:Nat}{W:World}(R:AtW t a c W)(hs:a8_ t) :
  Calls Tryz.prog 24 #[.agg #[.int .i64 t.kind,.string t.name,.int .i64 t.n,.slice a t.args.length c]] W (bU_ W (cr_ t)) :=
 ko_ t _ a c W R (fun _ h=>h) (by have:=hs.2;omega)
theorem free_h {t:Ty}{a:OA_}{c:Nat}{W:World}(R:AtW t a c W)(hs:a8_ t) :
  Calls Tryz.prog 41 #[.agg #[.int .i64 t.kind,.string t.name,.int .i64 t.n,.slice a t.args.length c]] W (ij_ W t) :=
 cT_ t _ a c W R (fun _ h=>h) (by have:=hs.2;omega)
theorem m5_ {t:Ty}{a:OA_}{c:Nat}{W:World}(R:AtW t a c W)(hs:a8_ t) :
  Calls Tryz.prog 19 #[.agg #[.int .i64 t.kind,.string t.name,.int .i64 t.n,.slice a t.args.length c]] W (fv_ W t) :=
 gs_ t _ a c W R (fun _ h=>h) (by have:=hs.2;omega)
theorem put_h (nm:ByteArray){u t:Ty}{a ua:OA_}{c uc:Nat}{W:World}(R:AtW t a c W)(U:AtW u ua uc W)(hs:a8_ t)(hu:a8_ u)(hT:Tab W) :
  Calls Tryz.prog 101 #[.agg #[.int .i64 t.kind,.string t.name,.int .i64 t.n,.slice a t.args.length c],.string nm,.agg #[.int .i64 u.kind,.string u.name,.int .i64 u.n,.slice ua u.args.length uc]] W (fV_ (eH_ nm u t) W) :=
 (mw_ nm u t _ a ua c uc W hs.1 hu.1 hs.2.1 hu.2.1 R U (fun _ h=>h) hT).mono fun _ _ h=>.of h
theorem fill_h (n:Int){u t:Ty}{a ua:OA_}{c uc:Nat}{W:World}(R:AtW t a c W)(U:AtW u ua uc W)(hs:a8_ t)(hu:a8_ u)(hT:Tab W) :
  Calls Tryz.prog 21 #[.agg #[.int .i64 t.kind,.string t.name,.int .i64 t.n,.slice a t.args.length c],.int .i64 n,.agg #[.int .i64 u.kind,.string u.name,.int .i64 u.n,.slice ua u.args.length uc]] W (fV_ (bp_ n u t) W) :=
 (fl_ n u t _ a ua c uc W hs.1 hu.1 hs.2.1 hu.2.1 R U (fun _ h=>h) hT).mono fun _ _ h=>.of h
end
section
open Go.RowKit Go.Sort
theorem o5_ {a b:List UInt8}(h:a≠b):ac_ a≠ac_ b:=fun e=>h (gL_ e)
theorem r4_ {t u:Ty}{a ua:OA_}{c uc:Nat}{w:World}(R:AtW t a c w)(U:AtW u ua uc w)(hs:a8_ t)(hu:a8_ u)(hT:Tab w) :
  Calls Tryz.prog 22 #[.agg #[.int .i64 t.kind,.string t.name,.int .i64 t.n,.slice a t.args.length c],.agg #[.int .i64 u.kind,.string u.name,.int .i64 u.n,.slice ua u.args.length uc]] w (bU_ w (decide (aJ_ t=aJ_ u))):=by
 have hz:=av_ w (.cells #[.int .i64 t.kind,.string t.name,.int .i64 t.n,.slice a t.args.length c] 37);have hz2:=hz.alloc hz.size (.cells #[.int .i64 u.kind,.string u.name,.int .i64 u.n,.slice ua u.args.length uc] 37);have b4:=(B4.new w (.int .i64 t.kind) (.string t.name) (.int .i64 t.n) (.slice a t.args.length c)).low (av_ _ (.cells #[.int .i64 u.kind,.string u.name,.int .i64 u.n,.slice ua u.args.length uc] 37));have u4:=B4.new (w.alloc (.cells #[.int .i64 t.kind,.string t.name,.int .i64 t.n,.slice a t.args.length c] 37)) (.int .i64 u.kind) (.string u.name) (.int .i64 u.n) (.slice ua u.args.length uc);rw[show (w.alloc (.cells #[.int .i64 t.kind,.string t.name,.int .i64 t.n,.slice a t.args.length c] 37)).heap.size=w.heap.size+1 from by simp] at u4;have HZ:=hid hz2;have DX:=hid (fun p=>cR_ (nu_ (R.low (HZ.out.trans ((aD_ _ p).mono HZ.out.size))) hs (ah_ hT (HZ.out.trans ((aD_ _ p).mono HZ.out.size)))));have DY:=hid (fun p=>cR_ (nu_ (U.low (HZ.out.trans ((aD_ _ p).mono HZ.out.size))) hu (ah_ hT (HZ.out.trans ((aD_ _ p).mono HZ.out.size)))));have k0:=am_ b4.c0;have k1:=am_ b4.c1;have k2:=am_ b4.c2;have k3:=am_ b4.c3;have l0:=am_ u4.c0;have l1:=am_ u4.c1;have l2:=am_ u4.c2;have l3:=am_ u4.c3;have hb:∃ b,((ac_ (aJ_ t)).toList==(ac_ (aJ_ u)).toList)=b∧b=decide (aJ_ t=aJ_ u):=by
  by_cases e:aJ_ t=aJ_ u
  ·exact⟨true,c2_ (by rw[e]),(decide_eq_true e).symm⟩
  ·exact⟨false,bH_ (o5_ e),(decide_eq_false e).symm⟩
 obtain⟨bb,hbb,hbe⟩:=hb;rw[← hbe];clear R U hs hu hT hz hz2 b4 u4 hbe;unfold bR_ at *;generalize ac_ (aJ_ t)=s1 at *;generalize ac_ (aJ_ u)=s2 at *;go_enter Tryz.func22,Tryz.ntmps22;go_wp2;refine bx_ (by kernel_rfl) (by kernel_rfl) ?_
 repeat (go_big_quiet_step ((first|(with_reducible exact DX.out _)|(with_reducible exact DY.out _))))
 refine wpQuiet_nil ?_;intro _ hw';obtain⟨pq,hw''⟩:=hw';subst hw'';go_wp2;go_ret;exact⟨aU_ rfl,HZ.out.trans ((aD_ _ _).mono HZ.out.size)⟩
end
end Go.Proofs.YtjecnionbjlncaaGreatDoor.Tp

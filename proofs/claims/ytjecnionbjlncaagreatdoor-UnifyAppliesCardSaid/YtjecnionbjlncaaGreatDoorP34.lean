/- Packed. -/
import Derived.Test.YtjecnionbjlncaaGreatDoorP28
import Derived.Test.YtjecnionbjlncaaGreatDoorP33
set_option maxRecDepth 100000
set_option maxHeartbeats 6400000
namespace Go.Proofs.YtjecnionbjlncaaGreatDoor.Tp
section
open Go.RowKit
def bf_ (t:Ty):Prop:=bF_ t∧t.size≤50000000000∧(af_ t).length≤4000000
structure tn_ (n b:Nat)(t:Ty)(a:OA_)(c:Nat)(W:World):Prop where
 k:B4 W b (.int .i64 t.kind) (.string t.name) (.int .i64 t.n) (.slice a t.args.length c)
 h:aa_ (Lt n) W (.slice a t.args.length c) t.args
 lt:b<W.heap.size
 le:n≤W.heap.size
theorem tn_.low {n b:Nat}{t:Ty}{a:OA_}{c:Nat}{W W':World}(R:tn_ n b t a c W)(h:Below W.heap.size W W'):tn_ n b t a c W' :=
 ⟨R.k.low h,R.h.keep fun j hj=>h.block j (aZ_ hj R.le),aZ_ R.lt h.size,bN_ R.le h.size⟩
def AtW (y:Ty)(a:OA_)(c:Nat)(W:World):Prop:=aa_ (Lt W.heap.size) W (.slice a y.args.length c) y.args
theorem AtW.low {y:Ty}{a:OA_}{c:Nat}{W W':World}(R:AtW y a c W)(h:Below W.heap.size W W'):AtW y a c W' :=
 (R.keep fun j hj=>h.block j hj).mono fun _ hj=>aZ_ hj h.size
theorem tn_.at_ {n b:Nat}{t:Ty}{a:OA_}{c:Nat}{W:World}(R:tn_ n b t a c W):AtW t a c W:=R.h.mono fun _ hj=>aZ_ hj R.le
def ik_ (y:Ty)(W:World)(e:Ending)(W':World):Prop:=∃ a c,e=.returned (.agg #[.int .i64 y.kind,.string y.name,.int .i64 y.n,.slice a y.args.length c])∧AtW y a c W'∧Below W.heap.size W W'
theorem ik_.of {y:Ty}{W:World}{e:Ending}{W':World}(h:TP (Lt W.heap.size) y W e W'):ik_ y W e W':=by
 obtain⟨a,c,he,hA,hb⟩:=h;refine⟨a,c,he,hA.mono fun j hj=>?_,hb⟩
 rcases hj with hj|hj
 ·exact aZ_ hj hb.size
 ·exact hj.2
theorem nI_ {t:Ty}{a:OA_}{c:Nat}{W:World}(R:AtW t a c W)(hs:bf_ t)(hT:Tab W) :
  Calls Tryz.prog 16 #[.agg #[.int .i64 t.kind,.string t.name,.int .i64 t.n,.slice a t.args.length c]] W (bh_ W (aO_ t)) :=
 i8_ t _ a c W R (fun _ h=>h) hs.1 hs.2 hT
theorem poly_h {t:Ty}{a:OA_}{c:Nat}{W:World}(R:AtW t a c W)(hs:bf_ t) :
  Calls Tryz.prog 24 #[.agg #[.int .i64 t.kind,.string t.name,.int .i64 t.n,.slice a t.args.length c]] W (ca_ W (eL_ t)) :=
 kk_ t _ a c W R (fun _ h=>h) (by have:=hs.2;omega)
theorem ne_ {t:Ty}{a:OA_}{c:Nat}{W:World}(R:AtW t a c W)(hs:bf_ t) :
  Calls Tryz.prog 19 #[.agg #[.int .i64 t.kind,.string t.name,.int .i64 t.n,.slice a t.args.length c]] W (fl_ W t) :=
 gk_ t _ a c W R (fun _ h=>h) (by have:=hs.2;omega)
end
section
open Go.RowKit Go.Sort
theorem pA_ {a b:List UInt8}(h:a≠b):ab_ a≠ab_ b:=fun e=>h (ff_ e)
theorem ss_ {t u:Ty}{a ua:OA_}{c uc:Nat}{w:World}(R:AtW t a c w)(U:AtW u ua uc w)(hs:bf_ t)(hu:bf_ u)(hT:Tab w) :
  Calls Tryz.prog 22 #[.agg #[.int .i64 t.kind,.string t.name,.int .i64 t.n,.slice a t.args.length c],.agg #[.int .i64 u.kind,.string u.name,.int .i64 u.n,.slice ua u.args.length uc]] w (ca_ w (decide (aO_ t=aO_ u))):=by
 have hz:=ar_ w (.cells #[.int .i64 t.kind,.string t.name,.int .i64 t.n,.slice a t.args.length c] 37);have hz2:=hz.alloc hz.size (.cells #[.int .i64 u.kind,.string u.name,.int .i64 u.n,.slice ua u.args.length uc] 37);have b4:=(B4.new w (.int .i64 t.kind) (.string t.name) (.int .i64 t.n) (.slice a t.args.length c)).low (ar_ _ (.cells #[.int .i64 u.kind,.string u.name,.int .i64 u.n,.slice ua u.args.length uc] 37));have u4:=B4.new (w.alloc (.cells #[.int .i64 t.kind,.string t.name,.int .i64 t.n,.slice a t.args.length c] 37)) (.int .i64 u.kind) (.string u.name) (.int .i64 u.n) (.slice ua u.args.length uc);rw[show (w.alloc (.cells #[.int .i64 t.kind,.string t.name,.int .i64 t.n,.slice a t.args.length c] 37)).heap.size=w.heap.size+1 from by simp] at u4;have HZ:=hid hz2;have DX:=hid (fun p=>bJ_ (nI_ (R.low (HZ.out.trans ((am_ _ p).mono HZ.out.size))) hs (ak_ hT (HZ.out.trans ((am_ _ p).mono HZ.out.size)))));have DY:=hid (fun p=>bJ_ (nI_ (U.low (HZ.out.trans ((am_ _ p).mono HZ.out.size))) hu (ak_ hT (HZ.out.trans ((am_ _ p).mono HZ.out.size)))));have k0:=ad_ b4.c0;have k1:=ad_ b4.c1;have k2:=ad_ b4.c2;have k3:=ad_ b4.c3;have l0:=ad_ u4.c0;have l1:=ad_ u4.c1;have l2:=ad_ u4.c2;have l3:=ad_ u4.c3;have hb:∃ b,((ab_ (aO_ t)).toList==(ab_ (aO_ u)).toList)=b∧b=decide (aO_ t=aO_ u):=by
  by_cases e:aO_ t=aO_ u
  ·exact⟨true,cG_ (by rw[e]),(decide_eq_true e).symm⟩
  ·exact⟨false,bE_ (pA_ e),(decide_eq_false e).symm⟩
 obtain⟨bb,hbb,hbe⟩:=hb;rw[← hbe];clear R U hs hu hT hz hz2 b4 u4 hbe;unfold bh_ at *;generalize ab_ (aO_ t)=s1 at *;generalize ab_ (aO_ u)=s2 at *;go_enter Tryz.func22,Tryz.ntmps22;go_wp2;refine a3_ (by kernel_rfl) (by kernel_rfl) ?_
 repeat (go_big_quiet_step ((first|(with_reducible exact DX.out _)|(with_reducible exact DY.out _))))
 refine wpQuiet_nil ?_;intro _ hw';obtain⟨pq,hw''⟩:=hw';subst hw'';go_wp2;go_ret;exact⟨a7_ rfl,HZ.out.trans ((am_ _ _).mono HZ.out.size)⟩
end
end Go.Proofs.YtjecnionbjlncaaGreatDoor.Tp

/- Packed. -/
import Derived.Test.YtjecnionbjlncaaGreatDoorP28
import Derived.Test.YtjecnionbjlncaaGreatDoorP33
set_option maxRecDepth 100000
set_option maxHeartbeats 6400000
namespace Go.Proofs.YtjecnionbjlncaaGreatDoor.Tp
section
open Go.RowKit
def bG_ (t:Ty):Prop:=aY_ t∧t.size≤50000000000∧(ai_ t).length≤4000000
structure sJ_ (n b:Nat)(t:Ty)(a:OA_)(c:Nat)(W:World):Prop where
 k:B4 W b (.int .i64 t.kind) (.string t.name) (.int .i64 t.n) (.slice a t.args.length c)
 h:aa_ (Lt n) W (.slice a t.args.length c) t.args
 lt:b<W.heap.size
 le:n≤W.heap.size
theorem sJ_.low {n b:Nat}{t:Ty}{a:OA_}{c:Nat}{W W':World}(R:sJ_ n b t a c W)(h:Below W.heap.size W W'):sJ_ n b t a c W' :=
 ⟨R.k.low h,R.h.keep fun j hj=>h.block j (ba_ hj R.le),ba_ R.lt h.size,cj_ R.le h.size⟩
def AtW (y:Ty)(a:OA_)(c:Nat)(W:World):Prop:=aa_ (Lt W.heap.size) W (.slice a y.args.length c) y.args
theorem AtW.low {y:Ty}{a:OA_}{c:Nat}{W W':World}(R:AtW y a c W)(h:Below W.heap.size W W'):AtW y a c W' :=
 (R.keep fun j hj=>h.block j hj).mono fun _ hj=>ba_ hj h.size
theorem sJ_.at_ {n b:Nat}{t:Ty}{a:OA_}{c:Nat}{W:World}(R:sJ_ n b t a c W):AtW t a c W:=R.h.mono fun _ hj=>ba_ hj R.le
def nL_ (y:Ty)(W:World)(e:Ending)(W':World):Prop:=∃ a c,e=.returned (.agg #[.int .i64 y.kind,.string y.name,.int .i64 y.n,.slice a y.args.length c])∧AtW y a c W'∧Below W.heap.size W W'
theorem nL_.of {y:Ty}{W:World}{e:Ending}{W':World}(h:TP (Lt W.heap.size) y W e W'):nL_ y W e W':=by
 obtain⟨a,c,he,hA,hb⟩:=h;refine⟨a,c,he,hA.mono fun j hj=>?_,hb⟩
 rcases hj with hj|hj
 ·exact ba_ hj hb.size
 ·exact hj.2
theorem nw_ {t:Ty}{a:OA_}{c:Nat}{W:World}(R:AtW t a c W)(hs:bG_ t)(hT:Tab W) :
  Calls Tryz.prog 16 #[.agg #[.int .i64 t.kind,.string t.name,.int .i64 t.n,.slice a t.args.length c]] W (bX_ W (aM_ t)) :=
 jd_ t _ a c W R (fun _ h=>h) hs.1 hs.2 hT
theorem poly_h {t:Ty}{a:OA_}{c:Nat}{W:World}(R:AtW t a c W)(hs:bG_ t) :
  Calls Tryz.prog 24 #[.agg #[.int .i64 t.kind,.string t.name,.int .i64 t.n,.slice a t.args.length c]] W (cA_ W (eR_ t)) :=
 kl_ t _ a c W R (fun _ h=>h) (by have:=hs.2;omega)
theorem metas_h {t:Ty}{a:OA_}{c:Nat}{W:World}(R:AtW t a c W)(hs:bG_ t) :
  Calls Tryz.prog 19 #[.agg #[.int .i64 t.kind,.string t.name,.int .i64 t.n,.slice a t.args.length c]] W (fs_ W t) :=
 gx_ t _ a c W R (fun _ h=>h) (by have:=hs.2;omega)
end
section
open Go.RowKit Go.Sort
theorem o7_ {a b:List UInt8}(h:a≠b):ab_ a≠ab_ b:=fun e=>h (gS_ e)
theorem rM_ {t u:Ty}{a ua:OA_}{c uc:Nat}{w:World}(R:AtW t a c w)(U:AtW u ua uc w)(hs:bG_ t)(hu:bG_ u)(hT:Tab w) :
  Calls Tryz.prog 22 #[.agg #[.int .i64 t.kind,.string t.name,.int .i64 t.n,.slice a t.args.length c],.agg #[.int .i64 u.kind,.string u.name,.int .i64 u.n,.slice ua u.args.length uc]] w (cA_ w (decide (aM_ t=aM_ u))):=by
 have hz:=aw_ w (.cells #[.int .i64 t.kind,.string t.name,.int .i64 t.n,.slice a t.args.length c] 37);have hz2:=hz.alloc hz.size (.cells #[.int .i64 u.kind,.string u.name,.int .i64 u.n,.slice ua u.args.length uc] 37);have b4:=(B4.new w (.int .i64 t.kind) (.string t.name) (.int .i64 t.n) (.slice a t.args.length c)).low (aw_ _ (.cells #[.int .i64 u.kind,.string u.name,.int .i64 u.n,.slice ua u.args.length uc] 37));have u4:=B4.new (w.alloc (.cells #[.int .i64 t.kind,.string t.name,.int .i64 t.n,.slice a t.args.length c] 37)) (.int .i64 u.kind) (.string u.name) (.int .i64 u.n) (.slice ua u.args.length uc);rw[show (w.alloc (.cells #[.int .i64 t.kind,.string t.name,.int .i64 t.n,.slice a t.args.length c] 37)).heap.size=w.heap.size+1 from by simp] at u4;have HZ:=hid hz2;have DX:=hid (fun p=>cU_ (nw_ (R.low (HZ.out.trans ((aA_ _ p).mono HZ.out.size))) hs (ag_ hT (HZ.out.trans ((aA_ _ p).mono HZ.out.size)))));have DY:=hid (fun p=>cU_ (nw_ (U.low (HZ.out.trans ((aA_ _ p).mono HZ.out.size))) hu (ag_ hT (HZ.out.trans ((aA_ _ p).mono HZ.out.size)))));have k0:=aj_ b4.c0;have k1:=aj_ b4.c1;have k2:=aj_ b4.c2;have k3:=aj_ b4.c3;have l0:=aj_ u4.c0;have l1:=aj_ u4.c1;have l2:=aj_ u4.c2;have l3:=aj_ u4.c3;have hb:∃ b,((ab_ (aM_ t)).toList==(ab_ (aM_ u)).toList)=b∧b=decide (aM_ t=aM_ u):=by
  by_cases e:aM_ t=aM_ u
  ·exact⟨true,em_ (by rw[e]),(decide_eq_true e).symm⟩
  ·exact⟨false,cb_ (o7_ e),(decide_eq_false e).symm⟩
 obtain⟨bb,hbb,hbe⟩:=hb;rw[← hbe];clear R U hs hu hT hz hz2 b4 u4 hbe;unfold bX_ at *;generalize ab_ (aM_ t)=s1 at *;generalize ab_ (aM_ u)=s2 at *;go_enter Tryz.func22,Tryz.ntmps22;go_wp2;refine by_ (by kernel_rfl) (by kernel_rfl) ?_
 repeat (go_big_quiet_step ((first|(with_reducible exact DX.out _)|(with_reducible exact DY.out _))))
 refine wpQuiet_nil ?_;intro _ hw';obtain⟨pq,hw''⟩:=hw';subst hw'';go_wp2;go_ret;exact⟨bd_ rfl,HZ.out.trans ((aA_ _ _).mono HZ.out.size)⟩
end
end Go.Proofs.YtjecnionbjlncaaGreatDoor.Tp

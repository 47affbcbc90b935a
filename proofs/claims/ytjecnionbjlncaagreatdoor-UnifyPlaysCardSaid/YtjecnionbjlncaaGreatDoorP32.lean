/- Packed. -/
import Derived.Test.YtjecnionbjlncaaGreatDoorP26
import Derived.Test.YtjecnionbjlncaaGreatDoorP31
set_option maxRecDepth 100000
set_option maxHeartbeats 6400000
namespace Go.Proofs.YtjecnionbjlncaaGreatDoor.Tp
section
open Go.RowKit
def b5_ (t:Ty):Prop:=ba_ t∧t.size≤50000000000∧(af_ t).length≤4000000
structure up_ (n b:Nat)(t:Ty)(a:OA_)(c:Nat)(W:World):Prop where
 k:B4 W b (.int .i64 t.kind) (.string t.name) (.int .i64 t.n) (.slice a t.args.length c)
 h:aa_ (Lt n) W (.slice a t.args.length c) t.args
 lt:b<W.heap.size
 le:n≤W.heap.size
theorem up_.low {n b:Nat}{t:Ty}{a:OA_}{c:Nat}{W W':World}(R:up_ n b t a c W)(h:Below W.heap.size W W'):up_ n b t a c W' :=
 ⟨R.k.low h,R.h.keep fun j hj=>h.block j (aU_ hj R.le),aU_ R.lt h.size,bL_ R.le h.size⟩
def AtW (y:Ty)(a:OA_)(c:Nat)(W:World):Prop:=aa_ (Lt W.heap.size) W (.slice a y.args.length c) y.args
theorem AtW.low {y:Ty}{a:OA_}{c:Nat}{W W':World}(R:AtW y a c W)(h:Below W.heap.size W W'):AtW y a c W' :=
 (R.keep fun j hj=>h.block j hj).mono fun _ hj=>aU_ hj h.size
theorem up_.at_ {n b:Nat}{t:Ty}{a:OA_}{c:Nat}{W:World}(R:up_ n b t a c W):AtW t a c W:=R.h.mono fun _ hj=>aU_ hj R.le
def hl_ (y:Ty)(W:World)(e:Ending)(W':World):Prop:=∃ a c,e=.returned (.agg #[.int .i64 y.kind,.string y.name,.int .i64 y.n,.slice a y.args.length c])∧AtW y a c W'∧Below W.heap.size W W'
theorem hl_.of {y:Ty}{W:World}{e:Ending}{W':World}(h:TP (Lt W.heap.size) y W e W'):hl_ y W e W':=by
 obtain⟨a,c,he,hA,hb⟩:=h;refine⟨a,c,he,hA.mono fun j hj=>?_,hb⟩
 rcases hj with hj|hj
 ·exact aU_ hj hb.size
 ·exact hj.2
theorem oC_ {t:Ty}{a:OA_}{c:Nat}{W:World}(R:AtW t a c W)(hs:b5_ t)(hT:Tab W) :
  Calls Tryz.prog 16 #[.agg #[.int .i64 t.kind,.string t.name,.int .i64 t.n,.slice a t.args.length c]] W (bm_ W (aw_ t)) :=
 jP_ t _ a c W R (fun _ h=>h) hs.1 hs.2 hT
end
section
open Go.RowKit Go.Sort
theorem lH_ {a b:List UInt8}(h:a≠b):ab_ a≠ab_ b:=fun e=>h (fD_ e)
theorem ts_ {t u:Ty}{a ua:OA_}{c uc:Nat}{w:World}(R:AtW t a c w)(U:AtW u ua uc w)(hs:b5_ t)(hu:b5_ u)(hT:Tab w) :
  Calls Tryz.prog 22 #[.agg #[.int .i64 t.kind,.string t.name,.int .i64 t.n,.slice a t.args.length c],.agg #[.int .i64 u.kind,.string u.name,.int .i64 u.n,.slice ua u.args.length uc]] w (b9_ w (decide (aw_ t=aw_ u))):=by
 have hz:=aq_ w (.cells #[.int .i64 t.kind,.string t.name,.int .i64 t.n,.slice a t.args.length c] 37);have hz2:=hz.alloc hz.size (.cells #[.int .i64 u.kind,.string u.name,.int .i64 u.n,.slice ua u.args.length uc] 37);have b4:=(B4.new w (.int .i64 t.kind) (.string t.name) (.int .i64 t.n) (.slice a t.args.length c)).low (aq_ _ (.cells #[.int .i64 u.kind,.string u.name,.int .i64 u.n,.slice ua u.args.length uc] 37));have u4:=B4.new (w.alloc (.cells #[.int .i64 t.kind,.string t.name,.int .i64 t.n,.slice a t.args.length c] 37)) (.int .i64 u.kind) (.string u.name) (.int .i64 u.n) (.slice ua u.args.length uc);rw[show (w.alloc (.cells #[.int .i64 t.kind,.string t.name,.int .i64 t.n,.slice a t.args.length c] 37)).heap.size=w.heap.size+1 from by simp] at u4;have HZ:=hid hz2;have DX:=hid (fun p=>bU_ (oC_ (R.low (HZ.out.trans ((ao_ _ p).mono HZ.out.size))) hs (an_ hT (HZ.out.trans ((ao_ _ p).mono HZ.out.size)))));have DY:=hid (fun p=>bU_ (oC_ (U.low (HZ.out.trans ((ao_ _ p).mono HZ.out.size))) hu (an_ hT (HZ.out.trans ((ao_ _ p).mono HZ.out.size)))));have k0:=ad_ b4.c0;have k1:=ad_ b4.c1;have k2:=ad_ b4.c2;have k3:=ad_ b4.c3;have l0:=ad_ u4.c0;have l1:=ad_ u4.c1;have l2:=ad_ u4.c2;have l3:=ad_ u4.c3;have hb:∃ b,((ab_ (aw_ t)).toList==(ab_ (aw_ u)).toList)=b∧b=decide (aw_ t=aw_ u):=by
  by_cases e:aw_ t=aw_ u
  ·exact⟨true,cl_ (by rw[e]),(decide_eq_true e).symm⟩
  ·exact⟨false,bC_ (lH_ e),(decide_eq_false e).symm⟩
 obtain⟨bb,hbb,hbe⟩:=hb;rw[← hbe];clear R U hs hu hT hz hz2 b4 u4 hbe;unfold bm_ at *;generalize ab_ (aw_ t)=s1 at *;generalize ab_ (aw_ u)=s2 at *;go_enter Tryz.func22,Tryz.ntmps22;go_wp2;refine a6_ (by kernel_rfl) (by kernel_rfl) ?_
 repeat (go_big_quiet_step ((first|(with_reducible exact DX.out _)|(with_reducible exact DY.out _))))
 refine wpQuiet_nil ?_;intro _ hw';obtain⟨pq,hw''⟩:=hw';subst hw'';go_wp2;go_ret;exact⟨aS_ rfl,HZ.out.trans ((ao_ _ _).mono HZ.out.size)⟩
end
end Go.Proofs.YtjecnionbjlncaaGreatDoor.Tp

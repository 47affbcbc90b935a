/- Packed. -/
import Derived.Test.YtjecnionbjlncaaGreatDoorP28
import Derived.Test.YtjecnionbjlncaaGreatDoorP37
set_option maxRecDepth 100000
set_option maxHeartbeats 6400000
namespace Go.Proofs.YtjecnionbjlncaaGreatDoor.Tp
section
open Go.RowKit
def bi_ (t:Ty):Prop:=a6_ t∧t.size≤50000000000∧(ak_ t).length≤4000000
structure q6_ (n b:Nat)(t:Ty)(a:OA_)(c:Nat)(W:World):Prop where
 k:B4 W b (.int .i64 t.kind) (.string t.name) (.int .i64 t.n) (.slice a t.args.length c)
 h:aa_ (Lt n) W (.slice a t.args.length c) t.args
 lt:b<W.heap.size
 le:n≤W.heap.size
theorem q6_.low {n b:Nat}{t:Ty}{a:OA_}{c:Nat}{W W':World}(R:q6_ n b t a c W)(h:Below W.heap.size W W'):q6_ n b t a c W' :=
 ⟨R.k.low h,R.h.keep fun j hj=>h.block j (bf_ hj R.le),bf_ R.lt h.size,cj_ R.le h.size⟩
theorem q6_.of_parse {w W:World}{t:Ty}{a:OA_}{c:Nat}(h:aa_ (In w.heap.size W.heap.size) W (.slice a t.args.length c) t.args) :
  q6_ W.heap.size W.heap.size t a c (W.alloc (.cells #[.int .i64 t.kind,.string t.name,.int .i64 t.n,.slice a t.args.length c] 37)) :=
 ⟨B4.new W _ _ _ _,(h.mono fun b hb=>hb.2).keep fun b hb=>heap_alloc_old W _ hb,by simp,by simp⟩
def AtW (y:Ty)(a:OA_)(c:Nat)(W:World):Prop:=aa_ (Lt W.heap.size) W (.slice a y.args.length c) y.args
theorem AtW.low {y:Ty}{a:OA_}{c:Nat}{W W':World}(R:AtW y a c W)(h:Below W.heap.size W W'):AtW y a c W' :=
 (R.keep fun j hj=>h.block j hj).mono fun _ hj=>bf_ hj h.size
theorem q6_.at_ {n b:Nat}{t:Ty}{a:OA_}{c:Nat}{W:World}(R:q6_ n b t a c W):AtW t a c W:=R.h.mono fun _ hj=>bf_ hj R.le
def gH_ (y:Ty)(W:World)(e:Ending)(W':World):Prop:=∃ a c,e=.returned (.agg #[.int .i64 y.kind,.string y.name,.int .i64 y.n,.slice a y.args.length c])∧AtW y a c W'∧Below W.heap.size W W'
theorem gH_.of {y:Ty}{W:World}{e:Ending}{W':World}(h:TP (Lt W.heap.size) y W e W'):gH_ y W e W':=by
 obtain⟨a,c,he,hA,hb⟩:=h;refine⟨a,c,he,hA.mono fun j hj=>?_,hb⟩
 rcases hj with hj|hj
 ·exact bf_ hj hb.size
 ·exact hj.2
theorem print_h {t:Ty}{a:OA_}{c:Nat}{W:World}(R:AtW t a c W)(hs:bi_ t)(hT:Tab W) :
  Calls Tryz.prog 42 #[.agg #[.int .i64 t.kind,.string t.name,.int .i64 t.n,.slice a t.args.length c]] W (bP_ W (ag_ t)) :=
 ix_ t _ a c W R (fun _ h=>h) hs.1.1 (by have:=ej_ t hs.1;have:=hs.2;omega) hT
theorem nc_ {t:Ty}{a:OA_}{c:Nat}{W:World}(R:AtW t a c W)(hs:bi_ t)(hT:Tab W) :
  Calls Tryz.prog 16 #[.agg #[.int .i64 t.kind,.string t.name,.int .i64 t.n,.slice a t.args.length c]] W (bP_ W (aP_ t)) :=
 iX_ t _ a c W R (fun _ h=>h) hs.1 hs.2 hT
theorem depth_h {t:Ty}{a:OA_}{c:Nat}{W:World}(R:AtW t a c W)(hd:t.depth≤100000) :
  Calls Tryz.prog 53 #[.agg #[.int .i64 t.kind,.string t.name,.int .i64 t.n,.slice a t.args.length c]] W (h8_ W t.depth) :=
 iS_ t _ _ W ⟨_,rfl,R⟩ (fun _ h=>h) hd
theorem poly_h {t:Ty}{a:OA_}{c:Nat}{W:World}(R:AtW t a c W)(hs:bi_ t) :
  Calls Tryz.prog 24 #[.agg #[.int .i64 t.kind,.string t.name,.int .i64 t.n,.slice a t.args.length c]] W (bS_ W (cu_ t)) :=
 ka_ t _ a c W R (fun _ h=>h) (by have:=hs.2;omega)
theorem free_h {t:Ty}{a:OA_}{c:Nat}{W:World}(R:AtW t a c W)(hs:bi_ t) :
  Calls Tryz.prog 41 #[.agg #[.int .i64 t.kind,.string t.name,.int .i64 t.n,.slice a t.args.length c]] W (h9_ W t) :=
 cR_ t _ a c W R (fun _ h=>h) (by have:=hs.2;omega)
theorem mO_ {t:Ty}{a:OA_}{c:Nat}{W:World}(R:AtW t a c W)(hs:bi_ t) :
  Calls Tryz.prog 19 #[.agg #[.int .i64 t.kind,.string t.name,.int .i64 t.n,.slice a t.args.length c]] W (fn_ W t) :=
 ge_ t _ a c W R (fun _ h=>h) (by have:=hs.2;omega)
theorem put_h (nm:ByteArray){u t:Ty}{a ua:OA_}{c uc:Nat}{W:World}(R:AtW t a c W)(U:AtW u ua uc W)(hs:bi_ t)(hu:bi_ u)(hT:Tab W) :
  Calls Tryz.prog 101 #[.agg #[.int .i64 t.kind,.string t.name,.int .i64 t.n,.slice a t.args.length c],.string nm,.agg #[.int .i64 u.kind,.string u.name,.int .i64 u.n,.slice ua u.args.length uc]] W (gH_ (eB_ nm u t) W) :=
 (mf_ nm u t _ a ua c uc W hs.1 hu.1 hs.2.1 hu.2.1 R U (fun _ h=>h) hT).mono fun _ _ h=>.of h
theorem fill_h (n:Int){u t:Ty}{a ua:OA_}{c uc:Nat}{W:World}(R:AtW t a c W)(U:AtW u ua uc W)(hs:bi_ t)(hu:bi_ u)(hT:Tab W) :
  Calls Tryz.prog 21 #[.agg #[.int .i64 t.kind,.string t.name,.int .i64 t.n,.slice a t.args.length c],.int .i64 n,.agg #[.int .i64 u.kind,.string u.name,.int .i64 u.n,.slice ua u.args.length uc]] W (gH_ (bn_ n u t) W) :=
 (fc_ n u t _ a ua c uc W hs.1 hu.1 hs.2.1 hu.2.1 R U (fun _ h=>h) hT).mono fun _ _ h=>.of h
end
section
open Go.RowKit Go.Sort
theorem oJ_ {a b:List UInt8}(h:a≠b):ac_ a≠ac_ b:=fun e=>h (gz_ e)
theorem rz_ {t u:Ty}{a ua:OA_}{c uc:Nat}{w:World}(R:AtW t a c w)(U:AtW u ua uc w)(hs:bi_ t)(hu:bi_ u)(hT:Tab w) :
  Calls Tryz.prog 22 #[.agg #[.int .i64 t.kind,.string t.name,.int .i64 t.n,.slice a t.args.length c],.agg #[.int .i64 u.kind,.string u.name,.int .i64 u.n,.slice ua u.args.length uc]] w (bS_ w (decide (aP_ t=aP_ u))):=by
 have hz:=av_ w (.cells #[.int .i64 t.kind,.string t.name,.int .i64 t.n,.slice a t.args.length c] 37);have hz2:=hz.alloc hz.size (.cells #[.int .i64 u.kind,.string u.name,.int .i64 u.n,.slice ua u.args.length uc] 37);have b4:=(B4.new w (.int .i64 t.kind) (.string t.name) (.int .i64 t.n) (.slice a t.args.length c)).low (av_ _ (.cells #[.int .i64 u.kind,.string u.name,.int .i64 u.n,.slice ua u.args.length uc] 37));have u4:=B4.new (w.alloc (.cells #[.int .i64 t.kind,.string t.name,.int .i64 t.n,.slice a t.args.length c] 37)) (.int .i64 u.kind) (.string u.name) (.int .i64 u.n) (.slice ua u.args.length uc);rw[show (w.alloc (.cells #[.int .i64 t.kind,.string t.name,.int .i64 t.n,.slice a t.args.length c] 37)).heap.size=w.heap.size+1 from by simp] at u4;have HZ:=hid hz2;have DX:=hid (fun p=>cP_ (nc_ (R.low (HZ.out.trans ((aB_ _ p).mono HZ.out.size))) hs (ah_ hT (HZ.out.trans ((aB_ _ p).mono HZ.out.size)))));have DY:=hid (fun p=>cP_ (nc_ (U.low (HZ.out.trans ((aB_ _ p).mono HZ.out.size))) hu (ah_ hT (HZ.out.trans ((aB_ _ p).mono HZ.out.size)))));have k0:=am_ b4.c0;have k1:=am_ b4.c1;have k2:=am_ b4.c2;have k3:=am_ b4.c3;have l0:=am_ u4.c0;have l1:=am_ u4.c1;have l2:=am_ u4.c2;have l3:=am_ u4.c3;have hb:∃ b,((ac_ (aP_ t)).toList==(ac_ (aP_ u)).toList)=b∧b=decide (aP_ t=aP_ u):=by
  by_cases e:aP_ t=aP_ u
  ·exact⟨true,c1_ (by rw[e]),(decide_eq_true e).symm⟩
  ·exact⟨false,bH_ (oJ_ e),(decide_eq_false e).symm⟩
 obtain⟨bb,hbb,hbe⟩:=hb;rw[← hbe];clear R U hs hu hT hz hz2 b4 u4 hbe;unfold bP_ at *;generalize ac_ (aP_ t)=s1 at *;generalize ac_ (aP_ u)=s2 at *;go_enter Tryz.func22,Tryz.ntmps22;go_wp2;refine bv_ (by kernel_rfl) (by kernel_rfl) ?_
 repeat (go_big_quiet_step ((first|(with_reducible exact DX.out _)|(with_reducible exact DY.out _))))
 refine wpQuiet_nil ?_;intro _ hw';obtain⟨pq,hw''⟩:=hw';subst hw'';go_wp2;go_ret;exact⟨aU_ rfl,HZ.out.trans ((aB_ _ _).mono HZ.out.size)⟩
end
end Go.Proofs.YtjecnionbjlncaaGreatDoor.Tp

/- Packed. -/
import Derived.Test.YtjecnionbjlncaaGreatDoorP15
import Derived.Test.YtjecnionbjlncaaGreatDoorP13
import Derived.Test.YtjecnionbjlncaaGreatDoorP14
set_option maxRecDepth 100000
set_option maxHeartbeats 6400000
namespace Go.Proofs.YtjecnionbjlncaaGreatDoor.Tp
section
open Go.RowKit
theorem jx_ (n:Nat):∀ t:Ty,t.depth≤n→b5_ t:=by
 induction n with
 | zero=>intro t h;rw[t.depth_eq] at h;omega
 | succ n ih =>
  intro t hn;have lower:∀ u∈t.args,u.depth≤n:=fun u hu=>by have:=av_ _ hu;rw[t.depth_eq] at hn;omega
  intro S a c w hA hS hw hl ht
  rcases ((bK_ t).1 hw).1 with h|h|h|h|h
  ·exact mF_ t h.1 a c w
  ·exact lg_ t h.1 h.2.2.1 h.2.2.2 a c w ht
  ·exact mH_ t h (fun u hu=>ih u (lower u hu)) S a c w hA hS hw hl ht
  ·obtain⟨x,y,hxy⟩:∃ x y,t.args=[x,y]:=by
    match hl:t.args,h.2 with
    | [x,y],_=>exact⟨x,y,rfl⟩
   exact mG_ t h.1 x y hxy (ih x (lower x (by rw[hxy];simp))) (ih y (lower y (by rw[hxy];simp))) S a c w hA hS hw hl ht
  ·obtain⟨x,hx⟩:=mX_ h.2
   exact mJ_ t h.1 x hx (fun u hu=>ih u (by omega)) S a c w hA hS hw hl ht
theorem mI_ (t:Ty):b5_ t:=jx_ t.depth t (aC_ _)
end
section
open Go.RowKit Go.Sort
theorem h3_ (n:Int)(h0:-9223372036854775808≤n)(h1:n≤9223372036854775807)(w:World)(ht:Tab w) :
  Calls Tryz.prog 63 #[.int .i64 n] w fun e w'=>e=.returned (.string (ab_ (Lib.itoa n)))∧Below w.heap.size w w' :=
 (Tryz.strconv_Itoa n h0 h1 w ht).mono fun e w' ⟨he,k,os,hw⟩=>⟨he,by subst hw;exact Lib.below_grow _ _ (aC_ _) k os⟩
theorem lA_ (nm:ByteArray)(i:Nat)(hi:i≤9223372036854775807):(dE_ nm i).size≤24:=by
 unfold dE_;rw[ByteArray.size_append,ByteArray.size_append,aU_];have h1:=Lib.itoa_length_le (i:Int) (by omega) (by omega);have h2:(nm.extract 0 1).size≤1:=by rw[ByteArray.size_extract];omega
 have h3:(⟨#[95]⟩:ByteArray).size=1:=rfl;omega
theorem gF_ (nm:ByteArray)(h1:1≤nm.size)(S:Nat→Prop)(v:Value)(but:List ByteArray)(w:World)(hs:aJ_ S w v but)(hS:∀ b,S b→b<w.heap.size)(ht:Tab w) :
  Calls Tryz.prog 86 #[.string nm,v] w fun e w'=>e=.returned (.string (a2_ nm but))∧Below w.heap.size w w':=by
 have hl:but.length≤4500000000000:=by obtain⟨_,_,_,_,h,_⟩:=hs;exact h
 have HS:=hid hs;have HT:=hid ht;have HSS:=hid hS;have z1:(1:Int)≤(nm.size:Int):=by omega
 clear hs ht hS;go_enter Tryz.func86,Tryz.ntmps86;go_wp2
 go_loopw [5] (fun iv wr=>∃ i:Nat,iv=.int .i64 i∧i≤but.length∧(∀ j,j<i→dM_ but (dE_ nm j)=true)∧Below w.heap.size w wr) (fun iv _=>but.length+1 - (intOf iv).toNat)
 case atStart=>exact⟨0,rfl,Nat.zero_le _,fun j hj=>by omega,Below.refl _ _⟩
 case round =>
  obtain⟨i,rfl,hi,hall,hB⟩:=hrel;have DI:=hid (fun p=>cU_ (w:=wr) (p:=p) (h3_ (i:Int) (by omega) (by omega) _ (ag_ HT.out (hB.trans ((aA_ wr p).mono hB.size)))));have CC:=hid (fun p=>bP_ (HS.out.keep fun b hb=>(hB.trans ((aA_ wr p).mono hB.size)).block b (HSS.out b hb)) (dE_ nm i));have HB:=hid hB;have HA:=hid hall;have F:Hid (nm.extract 0 1++⟨#[95]⟩++ab_ (Lib.itoa (i:Int))=dE_ nm i):=hid rfl;have hil:=Lib.itoa_length_le (i:Int) (by omega) (by omega);have hs1:(ab_ (Lib.itoa (i:Int))).size≤21:=by rw[aU_];exact hil
  have hs2:(nm.extract 0 1).size≤1:=by rw[ByteArray.size_extract];omega
  clear hall hB hil;go_wp2_with fail;refine by_ (by kernel_rfl) (by kernel_rfl) ?_
  repeat (go_big_quiet_step (exact DI.out _))
  refine wpQuiet_nil ?_;intro _ hw';obtain⟨pq,hw''⟩:=hw';subst hw'';rw[F.out];have B1:=hid (HB.out.trans ((aA_ wr pq).mono HB.out.size));have C1:=hid (CC.out pq);have hfs:=lA_ nm i (by omega);cases hn:dM_ but (dE_ nm i) with
  | true =>
   have HA2:=hid (show ∀ j,j<i+1→dM_ but (dE_ nm j)=true from fun j hj=>by
    rcases Nat.lt_or_ge j i with h|h
    ·exact HA.out j h
    ·rw[show j=i by omega];exact hn)
   have hpg:i+1≤but.length:=mM_ (dE_ nm) (fun _ _=>gG_) (i+1) but 0 fun j hj=>by
    rw[Nat.zero_add];refine (b7_ _ _).1 ?_
    rcases Nat.lt_or_ge j i with h|h
    ·exact HA.out j h
    ·rw[show j=i by omega];exact hn
   rw[bs_,hn] at C1;generalize dt_ wr pq=w1 at *;clear hn F DI CC HA;generalize dE_ nm i=fn at *;go_wp2_with fail;refine C1.out.mono ?_;rintro e w' ⟨rfl,rfl⟩;go_wp2;go_roundw
   case rel=>exact⟨i+1,by go_num,by omega,HA2.out,B1.out⟩
   case measure=>simp[intOf];omega
  | false =>
   have E:Hid (a2_ nm but=dE_ nm i):=hid (by
    unfold a2_;rw[gK_ (dE_ nm) but (but.length+1) 0 i (by omega) (by omega) (fun j _ hj=>HA.out j hj) hn])
   rw[bs_,hn] at C1;generalize dt_ wr pq=w1 at *;clear hn F DI CC HA;generalize dE_ nm i=fn at *;go_wp2_with fail;refine C1.out.mono ?_;rintro e w' ⟨rfl,rfl⟩;go_wp2;go_ret;exact⟨by rw[E.out];rfl,B1.out⟩
end
section
open Go.RowKit
def TP (S:Nat→Prop)(y:Ty)(W:World)(e:Ending)(W':World):Prop :=
 ∃ a c,e=.returned (tv y a c)∧aa_ (New S W W') W' (.slice a y.args.length c) y.args∧Below W.heap.size W W'
def noT (_:Nat):Prop:=False
def noI (_:Unit)(_:World):Prop:=True
theorem TP.post {S:Nat→Prop}{y:Ty}{W:World}{e:Ending}{W':World}(h:TP S y W e W'):f2_ S noT noI y () W e W':=by
 obtain⟨a,c,he,hA,hb⟩:=h;exact⟨a,c,he,hA,trivial,.of_below hb⟩
theorem TP.of {S:Nat→Prop}{y:Ty}{g:Unit}{W:World}{e:Ending}{W':World}(h:f2_ S noT noI y g W e W'):TP S y W e W':=by
 obtain⟨a,c,he,hA,_,hk⟩:=h;exact⟨a,c,he,hA,hk.to_below⟩
theorem dS_ (f:Ty→Ty)(l:List Ty):(an_ (fun (_:Unit) x=>(f x,())) () l).1=l.map f:=by
 induction l with
 | nil=>rfl
 | cons t l ih=>simp only[an_,List.map_cons,ih]
theorem TP.later {S:Nat→Prop}{y:Ty}{W W1:World}{e:Ending}{W':World}(hb:Below W.heap.size W W1)(h:TP S y W1 e W'):TP S y W e W':=by
 obtain⟨a,c,he,hA,hb'⟩:=h;exact⟨a,c,he,hA.mono fun b hb2=>hb2.imp id fun h=>⟨cj_ hb.size h.1,h.2⟩,hb.trans (hb'.mono hb.size)⟩
theorem TP.stored {S:Nat→Prop}{y:Ty}{W W1 W2:World}{a:OA_}{c R:Nat}(hS:∀ b,S b→b<W.heap.size)(hb:Below W.heap.size W W1)(hA:aa_ (New S W1 W2) W2 (.slice a y.args.length c) y.args)(hb2:Below W1.heap.size W1 W2)(hR:W.heap.size≤R)(hR1:R<W1.heap.size) :
  TP S y W (.returned (tv y a c)) ((((W2.setCell ⟨R,0,none⟩ (.int .i64 y.kind)).setCell ⟨R,1,none⟩ (.string y.name)).setCell ⟨R,2,none⟩ (.int .i64 y.n)).setCell ⟨R,3,none⟩ (.slice a y.args.length c)):=by
 have hs:∀ b,b≠R→((((W2.setCell ⟨R,0,none⟩ (.int .i64 y.kind)).setCell ⟨R,1,none⟩ (.string y.name)).setCell ⟨R,2,none⟩ (.int .i64 y.n)).setCell ⟨R,3,none⟩ (.slice a y.args.length c)).heap[b]? = W2.heap[b]? := fun b hb=>by
  rw[aB_ _ _ _ _ hb,aB_ _ _ _ _ hb,aB_ _ _ _ _ hb,aB_ _ _ _ _ hb]
 refine⟨a,c,rfl,(hA.keep fun b h=>hs b ?_).mono fun b h=>h.imp id fun h=>⟨cj_ hb.size h.1,by simpa using h.2⟩,(hb.trans (hb2.mono hb.size)).set4 hR _ _ _ _⟩
 rcases h with h|h
 ·have:=hS b h;omega
 ·omega
def gZ_ (d:Nat):Prop:=∀ (fr to:ByteArray) (t:Ty) (S:Nat→Prop) (a:OA_) (c:Nat) (W:World),aY_ t→t.depth≤d→t.size≤4499999999224→fr.size≤64→to.size≤64 →
 aa_ S W (.slice a t.args.length c) t.args→(∀ b,S b→b<W.heap.size)→Tab W→Calls Tryz.prog 75 #[tv t a c,.string fr,.string to] W (TP S (bW_ d fr to t) W)
theorem hk_ (args:Array Value)(w:World):(callFunc 112 args).run Tryz.prog w=.ok (.enter 112 args) w :=
 enters_of Tryz.func112 (by kernel_rfl) rfl args w
theorem kg_ (d:Nat)(ih:gZ_ d)(fr to:ByteArray)(bf bt:Nat)(t:Ty)(S:Nat→Prop)(a:OA_)(c:Nat)(W:World)(hf:W.cell? ⟨bf,0,none⟩=some (.string fr))(ht:W.cell? ⟨bt,0,none⟩=some (.string to))(hg:aY_ t)(hd:t.depth≤d)(hs:t.size≤4499999999224)(hfr:fr.size≤64)(hto:to.size≤64)
  (hA:aa_ S W (.slice a t.args.length c) t.args) (hS:∀ b,S b→b<W.heap.size) (hT:Tab W):Calls Tryz.prog 112 #[tv t a c,.pointer (some ⟨bf,0,none⟩),.pointer (some ⟨bt,0,none⟩)] W (TP S (bW_ d fr to t) W):=by
 have hz:=aw_ W (.cells #[.int .i64 t.kind,.string t.name,.int .i64 t.n,.slice a t.args.length c] 37);have hz2:=hz.alloc hz.size (.cells #[.int .i64 0,.string ⟨#[]⟩,.int .i64 0,.slice none 0 0] 37);have k4:=(B4.new W (.int .i64 t.kind) (.string t.name) (.int .i64 t.n) (.slice a t.args.length c)).low (aw_ _ (.cells #[.int .i64 0,.string ⟨#[]⟩,.int .i64 0,.slice none 0 0] 37));have q4:B4 ((W.alloc (.cells #[.int .i64 t.kind,.string t.name,.int .i64 t.n,.slice a t.args.length c] 37)).alloc (.cells #[.int .i64 0,.string ⟨#[]⟩,.int .i64 0,.slice none 0 0] 37)) (W.heap.size+1) (.int .i64 0) (.string ⟨#[]⟩) (.int .i64 0) (.slice none 0 0):=ah_ (by simp);obtain⟨c0,c1,c2,c3⟩:=k4.c03;have e0:=(hz2.cell (p:=⟨bf,0,none⟩) (World.block_lt_of_cell? W _ hf)).trans hf;have e1:=(hz2.cell (p:=⟨bt,0,none⟩) (World.block_lt_of_cell? W _ ht)).trans ht;have C:=hid (ih fr to t S a c _ hg hd hs hfr hto (hA.keep fun b hb=>hz2.block b (hS b hb)) (fun b hb=>ba_ (hS b hb) hz2.size) (ag_ hT hz2));have HZ2:=hid hz2;have HS:=hid hS;have Q4:=hid q4;unfold tv at *;clear hz hz2 k4 q4 hf ht hA hS hT hg hd hs hfr hto;go_enter Tryz.func112,Tryz.ntmps112;go_wp2_with fail;refine C.out.mono ?_;rintro e W2 ⟨a2,c2,rfl,hA2,hb2⟩;have q4:=Q4.out.low hb2;obtain⟨r0,r1,r2,r3⟩:=q4.c03;obtain⟨s0,s1,s2,s3⟩:=q4.f03;have HA2:=hid hA2;have HB2:=hid hb2;clear hA2 hb2;unfold tv;generalize bW_ d fr to t=y at *;go_wp2;have q5:=B4.set4 q4 (.int .i64 y.kind) (.string y.name) (.int .i64 y.n) (.slice a2 y.args.length c2);exact bodyPost_ret (v:=tv y a2 c2) (by simp[results,Tryz.results112,go_sem,tv,q5.c0,q5.c1,q5.c2,q5.c3]) rfl (TP.stored HS.out HZ2.out HA2.out HB2.out (by omega) (by simp))
end
end Go.Proofs.YtjecnionbjlncaaGreatDoor.Tp

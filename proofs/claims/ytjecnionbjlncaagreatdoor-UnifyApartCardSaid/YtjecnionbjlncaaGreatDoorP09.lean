/- Packed. -/
import Derived.Lib.QuietBelow
import Derived.Test.YtjecnionbjlncaaGreatDoorP07
set_option maxRecDepth 100000
set_option maxHeartbeats 6400000
namespace Go.Proofs.YtjecnionbjlncaaGreatDoor.Tp
open Go.RowKit Go.Sort
def dt_ (w:World)(p:Regrown):World:=grow (redrawn w p.d) p.os
theorem aA_ (w:World)(p:Regrown):Below w.heap.size w (dt_ w p):=below_regrown w p.d p.os
theorem aj_ {w:World}{a:Addr}{v:Value}(h:w.cell? a=some v)(p:Regrown):(dt_ w p).cell? a=some v:=cell_regrown h p.d p.os
theorem cU_ {P:Program}{f:FuncId}{args:Array Value}{w:World}{p:Regrown}{v:Value}
  (h:Calls P f args (dt_ w p) fun e w'=>e=.returned v∧Below (dt_ w p).heap.size (dt_ w p) w'):Calls P f args (dt_ w p) fun e w''=>e=.returned v∧∃ q:Regrown,w''=dt_ w q :=
 Calls.regrown_of h
theorem by_ {P:Program}{id:Nat}{Q:Exit→Act→World→Prop}{a:Act}{w:World}{l:List Oper}(hm:P.follows .mixedOrders=true)(hB:Region.lexB .any l.toArray=true)
  (h:wpQuiet P l.toArray (fun w'=>∃ p:Regrown,w'=dt_ w p) (fun a'=>∀ w',(∃ p:Regrown,w'=dt_ w p)→Q .normal a' w') l a):(Code.region id l.toArray true).wp P Q a w :=
 wp_region_quiet_below hm hB h
theorem mG_ (t:Ty)(hk:t.kind=4)(x y:Ty)(hxy:t.args=[x,y])(ihx:b5_ x)(ihy:b5_ y):b5_ t:=by
 intro S a c w hA hS hw hl ht;have hz:=aw_ w (.cells #[.int .i64 t.kind,.string t.name,.int .i64 t.n,.slice a t.args.length c] 37);have E:Hid (al_ t=da_ (decide (x.kind<4)) (al_ x)++[32,45,62,32]++al_ y):=hid (by rw[bL_,hk,hxy];rfl);have hlen:32*0+(da_ (decide (x.kind<4)) (al_ x)).length+4+(al_ y).length≤4500000000000:=by rw[E.out] at hl;simp at hl;omega
 have hpx:(al_ x).length≤(da_ (decide (x.kind<4)) (al_ x)).length:=by unfold da_;split<;>simp;omega
 have hwf:=(bK_ t).1 hw;have hwx:Wf x:=hwf.2 x (by rw[hxy];simp);have hwy:Wf y:=hwf.2 y (by rw[hxy];simp);obtain⟨b,off,a0,p0,rfl,hb,⟨f0,f1,f2,f3⟩,hs0⟩:=hA.at_ (i:=0) (by rw[hxy];simp);obtain⟨b',off',a1,p1,he,_,⟨g0,g1,g2,g3⟩,hs1⟩:=hA.at_ (i:=1) (by rw[hxy];simp);simp only[Option.some.injEq,Addr.mk.injEq] at he;obtain⟨rfl,rfl,_⟩:=he;simp only[hxy,List.getElem_cons_zero,List.getElem_cons_succ,Nat.zero_mul,Nat.add_zero,Nat.one_mul,Nat.add_assoc,Nat.reduceAdd] at f0 f1 f2 f3 g0 g1 g2 g3 hs0 hs1;have CX:=hid (fun (W:World) (h:Below w.heap.size w W)=>hE_ x ihx S a0 p0 W (hs0.keep (fun b hb=>h.block b (hS b hb))) (fun b hb=>ba_ (hS b hb) h.size) hwx (by omega) (fun w' h'=>ag_ ht (h.trans (h'.mono h.size))) (decide (x.kind<4)));have CY:=hid (fun (W:World) (h:Below w.heap.size w W)=>ihy S a1 p1 W (hs1.keep (fun b hb=>h.block b (hS b hb))) (fun b hb=>ba_ (hS b hb) h.size) hwy (by omega) (ag_ ht h));have b4:=B4.new w (.int .i64 t.kind) (.string t.name) (.int .i64 t.n) (.slice (some ⟨b,off,none⟩) t.args.length c);have hbl:=hS b hb;have hln:t.args.length=2:=by rw[hxy];rfl
 have hz2:=hz;rw[hln,hk] at hz2;have HZ:=hid hz2;have DX:=hid (fun p=>cU_ (CX.out _ (HZ.out.trans ((aA_ _ p).mono HZ.out.size))));have DY:=hid (fun p=>cU_ (CY.out _ (HZ.out.trans ((aA_ _ p).mono HZ.out.size))));have hsx:(ab_ (da_ (decide (x.kind<4)) (al_ x))).size+4+(ab_ (al_ y)).size≤4500000000000:=by rw[aU_,aU_];omega
 have F:Hid (ab_ (da_ (decide (x.kind<4)) (al_ x))++⟨#[32,45,62,32]⟩++ab_ (al_ y)=ab_ (al_ t)):=hid (by
  rw[E.out];show ab_ _++ab_ [32,45,62,32]++ab_ _=_;rw[bt_,bt_])
 have c0:=b4.c0;have c3:=b4.c3;have hz3:=hz;rw[hln,hk] at hz3 c0 c3;have k3:=aj_ c3;have k4:=aj_ ((hz3.cell (p:=⟨b,off,none⟩) hbl).trans f0);have k5:=aj_ ((hz3.cell (p:=⟨b,off+1,none⟩) hbl).trans f1);have k6:=aj_ ((hz3.cell (p:=⟨b,off+2,none⟩) hbl).trans f2);have k7:=aj_ ((hz3.cell (p:=⟨b,off+3,none⟩) hbl).trans f3);have k8:=aj_ ((hz3.cell (p:=⟨b,off+4,none⟩) hbl).trans g0);have k9:=aj_ ((hz3.cell (p:=⟨b,off+5,none⟩) hbl).trans g1);have k10:=aj_ ((hz3.cell (p:=⟨b,off+6,none⟩) hbl).trans g2);have k11:=aj_ ((hz3.cell (p:=⟨b,off+7,none⟩) hbl).trans g3);unfold tv bX_;rw[hln,hk] at *;have z0:((⟨b,off+4,none⟩:Addr)=⟨b,off+4,none⟩):=rfl;clear hA hw hl ht E hlen hpx hwf hwx hwy hs0 hs1 b4 hz hz2 hz3 ihx ihy f0 f1 f2 f3 g0 g1 g2 g3 hxy hln hk hS z0 c3;go_enter Tryz.func42,Tryz.ntmps42;go_wp2;refine by_ (by kernel_rfl) (by kernel_rfl) ?_
 repeat (go_big_quiet_step ((first|exact DX.out _|exact DY.out _)))
 refine wpQuiet_nil ?_;intro _ hw';obtain⟨pq,hw''⟩:=hw';subst hw'';go_wp2;go_ret;exact⟨by rw[F.out];rfl,HZ.out.trans ((aA_ _ _).mono HZ.out.size)⟩
end Go.Proofs.YtjecnionbjlncaaGreatDoor.Tp

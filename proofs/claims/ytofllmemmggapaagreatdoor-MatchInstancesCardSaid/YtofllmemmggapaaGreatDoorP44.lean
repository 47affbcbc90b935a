/- Texts laid together: R3Put, R3Mem, R3Pe, R3I. -/
import Derived.Test.YtofllmemmggapaaGreatDoorP41
import Derived.Test.YtofllmemmggapaaGreatDoorP42
import Derived.Test.YtofllmemmggapaaGreatDoorP40
import Derived.Test.YtofllmemmggapaaGreatDoorP35
import Derived.Deep.QuietTactic
import Derived.Deep.RegionLaw
import Derived.Deep.LoopGhost
import Derived.Test.YtofllmemmggapaaGreatDoorP43
import Derived.Test.YtofllmemmggapaaGreatDoorP31

namespace Go.Proofs.YtofllmemmggapaaGreatDoor.Tp
open Go.RowKit
theorem apart_size2 (nm:ByteArray)(u t:Ty)(h:Mk t)(hs:t.size≤200000)(hu:u.size≤200000):(apartT nm u t).size=t.size:=by
 rw[← size_db _ (apart_mk2 nm u t h hs hu).1 [],apart_db nm u t h.1,size_db t h.1 []]
set_option maxRecDepth 100000 in
set_option maxHeartbeats 3200000 in
theorem rPut_s (S:Nat→Prop)(nm:ByteArray)(u t:Ty)(a ua:Option Addr)(c uc:Nat)(w:World)(hA:AtW t a c w)(hUS:ArgsAt S w (.slice ua u.args.length uc) u.args)(hS:∀ b,S b→b<w.heap.size)(hs:Mk t)(hu:Std u)(hsz:t.size≤200000)(hus:u.size≤200000) :
  Calls Tryz.prog 40 #[.agg #[.int .i64 t.kind,.string t.name,.int .i64 t.n,.slice a t.args.length c],.string nm,.agg #[.int .i64 u.kind,.string u.name,.int .i64 u.n,.slice ua u.args.length uc]] w (TP S (rPutT nm u t) w):=by
 have hU:AtW u ua uc w:=hUS.mono hS
 have HS:=hid hS
 have M:=TwoMem.new w t u a ua c uc
 have hAt:=hA.low M.hz
 have hUt:=hU.low M.hz
 have ham:=apart_mk2 nm u t hs hsz hus
 have has:=apart_size2 nm u t hs hsz hus
 have CAP:=hid (fun (W:World) (h1:AtW t a c W) (h2:AtW u ua uc W)=>rapart_any nm u t a ua c uc W h1 h2 hs.1 hu (by omega) (by omega))
 have CPU:=hid (fun (W:World) (a':Option Addr) (c':Nat) (hW:w.heap.size≤W.heap.size) (h1:ArgsAt (fun b=>S b∨(w.heap.size+3≤b∧b<W.heap.size)) W (.slice a' (apartT nm u t).args.length c') (apartT nm u t).args) (h2:ArgsAt (fun b=>S b∨(w.heap.size+3≤b∧b<W.heap.size)) W (.slice ua u.args.length uc) u.args)=>rput_any 1 nm 0 (isVar nm) u (fun x hx=>by
  unfold nodeT
  rw[isVar_mk]
  simp only[Bool.and_eq_true,beq_iff_eq,eqN_iff]
  exact⟨fun h=>⟨h.1,h.2,(hx.k1 h.1).1⟩,fun h=>⟨h.1,h.2.1⟩⟩) (apartT nm u t) _ a' ua c' uc W h1 h2 (fun b h=>h.elim (fun h=>Nat.lt_of_lt_of_le (hS b h) hW) (fun h=>h.2)) ham.1 (by omega))
 have UH:Hid (∀ (W:World),Below w.heap.size w W→ArgsAt (fun b=>S b∨(w.heap.size+3≤b∧b<W.heap.size)) W (.slice ua u.args.length uc) u.args):=hid (fun W h=>(hUS.keep fun b hb=>h.block b (hS b hb)).mono fun b hb=>.inl hb)
 unfold rPutT
 generalize apartT nm u t=y at *
 generalize sbT (isVar nm) u y=z at *
 have MH:=hid M
 have AT:=hid hAt
 have UT:=hid hUt
 clear hA hU hs hu hsz hus M hAt hUt ham has
 unfold tv at CAP CPU
 go_enter Tryz.func40,Tryz.ntmps40
 go_wp2
 generalize ((w.alloc (.cells #[.int .i64 t.kind,.string t.name,.int .i64 t.n,.slice a t.args.length c] 29)).alloc (.cells #[.int .i64 u.kind,.string u.name,.int .i64 u.n,.slice ua u.args.length uc] 29)).alloc (.cells #[.int .i64 0,.string ⟨#[]⟩,.int .i64 0,.slice none 0 0] 29)=W0 at *
 have HD:=hid (Below.refl W0.heap.size W0).drew
 have KK:Hid (∀ W:World,Below W0.heap.size W0 W→W.cell? ⟨w.heap.size,0,none⟩=some (.int .i64 t.kind)∧W.cell? ⟨w.heap.size,1,none⟩=some (.string t.name)∧W.cell? ⟨w.heap.size,2,none⟩=some (.int .i64 t.n)∧W.cell? ⟨w.heap.size,3,none⟩=some (.slice a t.args.length c)∧W.cell? ⟨w.heap.size+1,0,none⟩=some (.int .i64 u.kind)∧W.cell? ⟨w.heap.size+1,1,none⟩=some (.string u.name)∧W.cell? ⟨w.heap.size+1,2,none⟩=some (.int .i64 u.n)∧W.cell? ⟨w.heap.size+1,3,none⟩=some (.slice ua u.args.length uc)):=hid (fun W h=>⟨(MH.out.low h).kt.c0,(MH.out.low h).kt.c1,(MH.out.low h).kt.c2,(MH.out.low h).kt.c3,(MH.out.low h).ku.c0,(MH.out.low h).ku.c1,(MH.out.low h).ku.c2,(MH.out.low h).ku.c3⟩)
 have KS:Hid (∀ (W:World) (v0 v1 v2 v3:Value),Below W0.heap.size W0 W→((((W.setCell ⟨w.heap.size+1+1,0,none⟩ v0).setCell ⟨w.heap.size+1+1,1,none⟩ v1).setCell ⟨w.heap.size+1+1,2,none⟩ v2).setCell ⟨w.heap.size+1+1,3,none⟩ v3).cell? ⟨w.heap.size,0,none⟩=some (.int .i64 t.kind)∧((((W.setCell ⟨w.heap.size+1+1,0,none⟩ v0).setCell ⟨w.heap.size+1+1,1,none⟩ v1).setCell ⟨w.heap.size+1+1,2,none⟩ v2).setCell ⟨w.heap.size+1+1,3,none⟩ v3).cell? ⟨w.heap.size,1,none⟩=some (.string t.name)∧((((W.setCell ⟨w.heap.size+1+1,0,none⟩ v0).setCell ⟨w.heap.size+1+1,1,none⟩ v1).setCell ⟨w.heap.size+1+1,2,none⟩ v2).setCell ⟨w.heap.size+1+1,3,none⟩ v3).cell? ⟨w.heap.size,2,none⟩=some (.int .i64 t.n)∧((((W.setCell ⟨w.heap.size+1+1,0,none⟩ v0).setCell ⟨w.heap.size+1+1,1,none⟩ v1).setCell ⟨w.heap.size+1+1,2,none⟩ v2).setCell ⟨w.heap.size+1+1,3,none⟩ v3).cell? ⟨w.heap.size,3,none⟩=some (.slice a t.args.length c)∧((((W.setCell ⟨w.heap.size+1+1,0,none⟩ v0).setCell ⟨w.heap.size+1+1,1,none⟩ v1).setCell ⟨w.heap.size+1+1,2,none⟩ v2).setCell ⟨w.heap.size+1+1,3,none⟩ v3).cell? ⟨w.heap.size+1,0,none⟩=some (.int .i64 u.kind)∧((((W.setCell ⟨w.heap.size+1+1,0,none⟩ v0).setCell ⟨w.heap.size+1+1,1,none⟩ v1).setCell ⟨w.heap.size+1+1,2,none⟩ v2).setCell ⟨w.heap.size+1+1,3,none⟩ v3).cell? ⟨w.heap.size+1,1,none⟩=some (.string u.name)∧((((W.setCell ⟨w.heap.size+1+1,0,none⟩ v0).setCell ⟨w.heap.size+1+1,1,none⟩ v1).setCell ⟨w.heap.size+1+1,2,none⟩ v2).setCell ⟨w.heap.size+1+1,3,none⟩ v3).cell? ⟨w.heap.size+1,2,none⟩=some (.int .i64 u.n)∧((((W.setCell ⟨w.heap.size+1+1,0,none⟩ v0).setCell ⟨w.heap.size+1+1,1,none⟩ v1).setCell ⟨w.heap.size+1+1,2,none⟩ v2).setCell ⟨w.heap.size+1+1,3,none⟩ v3).cell? ⟨w.heap.size+1,3,none⟩=some (.slice ua u.args.length uc)):=hid (fun W v0 v1 v2 v3 h=>by
  have q:=(MH.out.low h).set v0 v1 v2 v3
  exact⟨q.1.c0,q.1.c1,q.1.c2,q.1.c3,q.2.1.c0,q.2.1.c1,q.2.1.c2,q.2.1.c3⟩)
 obtain⟨k0,k1,k2',k3,k4,k5,k6,k7⟩:=KK.out W0 (Below.refl _ _)
 go_region_held3 (fun w'=>w'.cell? ⟨w.heap.size,0,none⟩=some (.int .i64 t.kind)∧w'.cell? ⟨w.heap.size,1,none⟩=some (.string t.name)∧w'.cell? ⟨w.heap.size,2,none⟩=some (.int .i64 t.n)∧w'.cell? ⟨w.heap.size,3,none⟩=some (.slice a t.args.length c)∧w'.cell? ⟨w.heap.size+1,0,none⟩=some (.int .i64 u.kind)∧w'.cell? ⟨w.heap.size+1,1,none⟩=some (.string u.name)∧w'.cell? ⟨w.heap.size+1,2,none⟩=some (.int .i64 u.n)∧w'.cell? ⟨w.heap.size+1,3,none⟩=some (.slice ua u.args.length uc))
  (first|(with_reducible exact KS.out _ _ _ _ _ HX2.out)|(with_reducible exact KK.out _ HX2.out)|(with_reducible exact KK.out _ HX1.out)|(with_reducible exact KK.out _ HD.out)|go_keep)
  (first
   | (go_at_call 61;(with_reducible refine (CAP.out _ (AT.out.low HD.out) (UT.out.low HD.out)).mono ?_);rintro e w1 ⟨a1,c1,rfl,hA1,hb1⟩;have HX1:=hid (HD.out.trans (hb1.mono HD.out.size));have CP:=hid (CPU.out w1 a1 c1 (Nat.le_trans MH.out.hz.size HX1.out.size) (hA1.mono fun b hb=>by rcases hb with h|h;exact h.elim;exact .inr ⟨by have h1:=h.1;have h2:=MH.out.lt;simp at h1;omega,h.2⟩) (UH.out _ (MH.out.hz.trans (HX1.out.mono MH.out.hz.size))));clear hA1 hb1;unfold tv)
   | (go_at_call 62;(with_reducible refine CP.out.mono ?_);rintro e w2 ⟨a2,c2,rfl,hA2,hb2⟩;have HX2:=hid (HX1.out.trans (hb2.mono HX1.out.size));have hm2:=MH.out.low HX2.out;have r0:=hm2.kr.c0;have r1:=hm2.kr.c1;have r2:=hm2.kr.c2;have r3:=hm2.kr.c3;have f0:=hm2.kr.fr 0;have f1:=hm2.kr.fr 1;have f2:=hm2.kr.fr 2;have f3:=hm2.kr.fr 3;have M2:=hid hm2;have LW:=hid hb2.size;have HA2:=hid hA2;clear hA2 hb2 hm2;unfold tv))
 all_goals
  go_wp2
  have q:=M2.out.set (.int .i64 z.kind) (.string z.name) (.int .i64 z.n) (.slice a2 z.args.length c2)
  refine bodyPost_ret (v:=.agg #[.int .i64 z.kind,.string z.name,.int .i64 z.n,.slice a2 z.args.length c2]) (by simp[results,Tryz.results40,go_sem,q.2.2.1.c0,q.2.2.1.c1,q.2.2.1.c2,q.2.2.1.c3]) rfl ?_
  have hlt:=MH.out.lt
  have hx1:=HX1.out.size
  have hlw:=LW.out
  have hsz:∀ v0 v1 v2 v3:Value,((((w2.setCell ⟨w.heap.size+1+1,0,none⟩ v0).setCell ⟨w.heap.size+1+1,1,none⟩ v1).setCell ⟨w.heap.size+1+1,2,none⟩ v2).setCell ⟨w.heap.size+1+1,3,none⟩ v3).heap.size=w2.heap.size:=fun _ _ _ _=>by simp
  have hne:∀ b,New (fun b=>S b∨(w.heap.size+3≤b∧b<w1.heap.size)) w1 w2 b→b≠w.heap.size+1+1∧(S b∨(w.heap.size≤b∧b<w2.heap.size)):=fun b hb=>by
   rcases hb with (h|h)|h
   ·exact⟨by have:=HS.out b h;omega,.inl h⟩
   ·exact⟨by omega,.inr (by omega)⟩
   ·exact⟨by omega,.inr (by omega)⟩
  refine⟨a2,c2,rfl,(HA2.out.keep fun b hb=>?_).mono fun b hb=>?_,q.2.2.2⟩
  ·have hb:=(hne b hb).1
   rw[Below.heap_setCell _ _ _ _ hb,Below.heap_setCell _ _ _ _ hb,Below.heap_setCell _ _ _ _ hb,Below.heap_setCell _ _ _ _ hb]
  ·exact (hne b hb).2.imp id fun h=>⟨h.1,by rw[hsz];exact h.2⟩
def Pr (S:Nat→Prop)(W wr:World)(v:Value)(b:Nat):Prop:=(S b∨W.heap.size≤b)∧b<wr.heap.size∧v.ownBlock≠some b
structure RPM (S:Nat→Prop)(w W wr:World)(v:Value)(names:List ByteArray)(t:Ty)(a:Option Addr)(c:Nat):Prop where
 bw:Below w.heap.size w W
 lt:w.heap.size+2≤W.heap.size
 kp:Kp W.heap.size (fun b=>b=w.heap.size) W wr
 k4:R4 wr w.heap.size (.int .i64 t.kind) (.string t.name) (.int .i64 t.n) (.slice a t.args.length c)
 row:wr.ownsRow W.heap.size 9 1 v names.length (names.map Value.string)
 args:ArgsAt (Pr S W wr v) wr (.slice a t.args.length c) t.args
 hS:∀ b,S b→b<w.heap.size
section
variable {S : Nat → Prop} {w W wr wr' : World} {v v' : Value} {names : List ByteArray} {t y : Ty} {a a' : Option Addr} {c c' : Nat}
theorem RPM.below (h:RPM S w W wr v names t a c):Below w.heap.size w wr :=
 ((Kp.of_below h.bw).trans (h.kp.mono (n:=w.heap.size) (T':=fun _=>False) (by have:=h.lt;omega) (fun b hb e=>by omega)) (Nat.le_refl _) (fun _ _ e=>e)).to_below
theorem RPM.low (h:RPM S w W wr v names t a c)(hb:Below wr.heap.size wr wr'):RPM S w W wr' v names t a c :=
 ⟨h.bw,h.lt,h.kp.below hb h.kp.size,h.k4.low hb,own_keep4 h.row fun b e=>hb.block b (h.row.lt b e).2,(h.args.keep fun b hb'=>hb.block b hb'.2.1).mono fun _ hb'=>⟨hb'.1,Nat.lt_of_lt_of_le hb'.2.1 hb.size,hb'.2.2⟩,h.hS⟩
theorem RPM.add (h:RPM S w W wr v names t a c)(nm:ByteArray)(ho:wr'.ownsRow W.heap.size 9 1 v' (names.length+1) (names.map Value.string++[.string nm]))(hg:wr.grownBy wr' v.ownBlock)(hat:∀ b,v'.ownBlock=some b→v.ownBlock=some b∨wr.heap.size≤b):RPM S w W wr' v' (names++[nm]) t a c:=by
 have hv:∀ b,v.ownBlock=some b→W.heap.size≤b:=fun b e=>(h.row.lt b e).1
 refine⟨h.bw,h.lt,h.kp.grown hg h.kp.size (fun b e=>.inl (hv b e)),h.k4.grown hg (fun e=>by have:=hv _ e;have:=h.lt;omega),?_,?_,h.hS⟩
 ·rw[List.length_append,List.map_append];exact ho
 ·refine (h.args.keep fun b hb'=>hg.block b hb'.2.1 (fun e=>hb'.2.2 e.symm)).mono fun b hb'=>⟨hb'.1,Nat.lt_of_lt_of_le hb'.2.1 hg.size,fun e=>?_⟩
  rcases hat b e with e2|e2
  ·exact hb'.2.2 e2
  ·have:=hb'.2.1;omega
theorem RPM.put (h:RPM S w W wr v names t a c)(hb:Below wr.heap.size wr wr')(hy:ArgsAt (New S wr wr') wr' (.slice a' y.args.length c') y.args) :
  RPM S w W (((((wr').setCell ⟨w.heap.size,0,none⟩ (.int .i64 y.kind)).setCell ⟨w.heap.size,1,none⟩ (.string y.name)).setCell ⟨w.heap.size,2,none⟩ (.int .i64 y.n)).setCell ⟨w.heap.size,3,none⟩ (.slice a' y.args.length c')) v names y a' c':=by
 have h2:=h.low hb
 have hs:=h.lt
 have hs2:=h.kp.size
 have off:∀ b,b≠w.heap.size→(((((wr').setCell ⟨w.heap.size,0,none⟩ (.int .i64 y.kind)).setCell ⟨w.heap.size,1,none⟩ (.string y.name)).setCell ⟨w.heap.size,2,none⟩ (.int .i64 y.n)).setCell ⟨w.heap.size,3,none⟩ (.slice a' y.args.length c')).heap[b]? = wr'.heap[b]? := fun b hb=>by
  rw[Below.heap_setCell _ _ _ _ hb,Below.heap_setCell _ _ _ _ hb,Below.heap_setCell _ _ _ _ hb,Below.heap_setCell _ _ _ _ hb]
 have hsz:(((((wr').setCell ⟨w.heap.size,0,none⟩ (.int .i64 y.kind)).setCell ⟨w.heap.size,1,none⟩ (.string y.name)).setCell ⟨w.heap.size,2,none⟩ (.int .i64 y.n)).setCell ⟨w.heap.size,3,none⟩ (.slice a' y.args.length c')).heap.size=wr'.heap.size:=by simp
 refine⟨h.bw,h.lt,(((h2.kp.setCell (.inr rfl) _).setCell (.inr rfl) _).setCell (.inr rfl) _).setCell (.inr rfl) _,R4.set4 h2.k4 _ _ _ _,own_keep4 h2.row fun b e=>off b (by have:=(h2.row.lt b e).1;omega),(hy.keep fun b hb'=>off b ?_).mono fun b hb'=>⟨?_,?_,?_⟩,h.hS⟩
 ·rcases hb' with hb'|hb'
  ·have:b<w.heap.size:=h.hS b hb';omega
  ·have:=hb'.1;omega
 ·rcases hb' with hb'|hb'
  ·exact .inl hb'
  ·have:=hb'.1;exact .inr (by omega)
 ·rw[hsz]
  rcases hb' with hb'|hb'
  ·have:b<w.heap.size:=h.hS b hb';have:=hb.size;have:=h.kp.size;omega
  ·exact hb'.2
 ·intro e
  have h3:=h.row.lt b e
  rcases hb' with hb'|hb'
  ·have:b<w.heap.size:=h.hS b hb';omega
  ·have:=hb'.1;omega
theorem RPM.fin (h:RPM S w W wr v names t a c){q0 q1 q2 q3:Value}(hq:R4 W (w.heap.size+1) q0 q1 q2 q3) :
  R4 (((((wr).setCell ⟨(w.heap.size+1),0,none⟩ (.int .i64 t.kind)).setCell ⟨(w.heap.size+1),1,none⟩ (.string t.name)).setCell ⟨(w.heap.size+1),2,none⟩ (.int .i64 t.n)).setCell ⟨(w.heap.size+1),3,none⟩ (.slice a t.args.length c)) (w.heap.size+1) (.int .i64 t.kind) (.string t.name) (.int .i64 t.n) (.slice a t.args.length c)∧Below w.heap.size w (((((wr).setCell ⟨(w.heap.size+1),0,none⟩ (.int .i64 t.kind)).setCell ⟨(w.heap.size+1),1,none⟩ (.string t.name)).setCell ⟨(w.heap.size+1),2,none⟩ (.int .i64 t.n)).setCell ⟨(w.heap.size+1),3,none⟩ (.slice a t.args.length c))∧ArgsAt (New S w (((((wr).setCell ⟨(w.heap.size+1),0,none⟩ (.int .i64 t.kind)).setCell ⟨(w.heap.size+1),1,none⟩ (.string t.name)).setCell ⟨(w.heap.size+1),2,none⟩ (.int .i64 t.n)).setCell ⟨(w.heap.size+1),3,none⟩ (.slice a t.args.length c))) (((((wr).setCell ⟨(w.heap.size+1),0,none⟩ (.int .i64 t.kind)).setCell ⟨(w.heap.size+1),1,none⟩ (.string t.name)).setCell ⟨(w.heap.size+1),2,none⟩ (.int .i64 t.n)).setCell ⟨(w.heap.size+1),3,none⟩ (.slice a t.args.length c)) (.slice a t.args.length c) t.args∧(((((wr).setCell ⟨(w.heap.size+1),0,none⟩ (.int .i64 t.kind)).setCell ⟨(w.heap.size+1),1,none⟩ (.string t.name)).setCell ⟨(w.heap.size+1),2,none⟩ (.int .i64 t.n)).setCell ⟨(w.heap.size+1),3,none⟩ (.slice a t.args.length c)).ownsRow W.heap.size 9 1 v names.length (names.map Value.string):=by
 have hs:=h.lt
 have off:∀ b,b≠(w.heap.size+1)→(((((wr).setCell ⟨(w.heap.size+1),0,none⟩ (.int .i64 t.kind)).setCell ⟨(w.heap.size+1),1,none⟩ (.string t.name)).setCell ⟨(w.heap.size+1),2,none⟩ (.int .i64 t.n)).setCell ⟨(w.heap.size+1),3,none⟩ (.slice a t.args.length c)).heap[b]? = wr.heap[b]? := fun b hb=>by
  rw[Below.heap_setCell _ _ _ _ hb,Below.heap_setCell _ _ _ _ hb,Below.heap_setCell _ _ _ _ hb,Below.heap_setCell _ _ _ _ hb]
 have hsz:(((((wr).setCell ⟨(w.heap.size+1),0,none⟩ (.int .i64 t.kind)).setCell ⟨(w.heap.size+1),1,none⟩ (.string t.name)).setCell ⟨(w.heap.size+1),2,none⟩ (.int .i64 t.n)).setCell ⟨(w.heap.size+1),3,none⟩ (.slice a t.args.length c)).heap.size=wr.heap.size:=by simp
 have hq2:R4 wr (w.heap.size+1) q0 q1 q2 q3:=(h.kp.block (w.heap.size+1) (by omega) (by omega)).trans hq
 refine⟨R4.set4 hq2 _ _ _ _,h.below.set4 (by omega) _ _ _ _,(h.args.keep fun b hb'=>off b ?_).mono fun b hb'=>?_,own_keep4 h.row fun b e=>off b (by have:=(h.row.lt b e).1;omega)⟩
 ·rcases hb'.1 with h1|h1
  ·have:=h.hS b h1;omega
  ·omega
 ·rcases hb'.1 with h1|h1
  ·exact .inl h1
  ·exact .inr ⟨by omega,by rw[hsz];exact hb'.2.1⟩
theorem RPM.q (h:RPM S w W wr v names t a c){q0 q1 q2 q3:Value}(hq:R4 W (w.heap.size+1) q0 q1 q2 q3):R4 wr (w.heap.size+1) q0 q1 q2 q3:=(h.kp.block (w.heap.size+1) (by have:=h.lt;omega) (by omega)).trans hq
end
theorem put_var_ok (nm x:ByteArray)(b:Ty)(hb:Mk b)(hx:LexN x)(hs:b.size≤200000):Mk (rPutT nm (vrT x) b)∧(rPutT nm (vrT x) b).size≤b.size∧(rPutT nm (vrT x) b).depth≤b.depth:=by
 have hmv:Mk (vrT x):=vr_mk hx
 have hvs:(vrT x).size≤200000:=by show 1≤200000;omega
 have hmk:=rPut_mk2 nm (vrT x) b hb hmv hs hvs
 have hsame:=rPut_same nm (vrT x) b hb hmv hs hvs
 refine⟨hmk,?_,?_⟩
 ·rw[← size_db _ hmk.1 [],rPut_db2 nm (vrT x) b hb hs hvs,sb_sv]
  have:=sv_size (fun y=>if eqN y nm then some (dbT [] (vrT x)) else none) 1 (Nat.le_refl _) (fun y u hu=>by
   split at hu
   ·injection hu with hu;rw[← hu];exact Nat.le_refl _
   ·cases hu) (dbT [] b)
  rw[size_db b hb.1 [],Nat.mul_one] at this
  exact this
 ·have h1:=PutT_depth nm (vrT x) b hb.1 hmv.1
  have e2:(vrT x).depth=1:=rfl
  have h0:1≤b.depth:=by rw[b.depth_eq];omega
  rw[← depth_db _ hmk.1 [],hsame [],depth_db _ (PutT_std nm (vrT x) b hb.1 hmv.1) []]
  omega
end Go.Proofs.YtofllmemmggapaaGreatDoor.Tp

namespace Go.Proofs.YtofllmemmggapaaGreatDoor.Tp
open Go.RowKit Go.Sort
def rpeelF (L:ByteArray)(but:List ByteArray):Nat→Nat→Ty→List ByteArray × Ty
 | 0,_,t=>([],t)
 | d+1,n,t=>if t.kind=5 then (lname L (nx (lname L) but n) :: (rpeelF L but d (nx (lname L) but n+1) (rPutT t.name (vrT (lname L (nx (lname L) but n))) (arg0T t))).1,(rpeelF L but d (nx (lname L) but n+1) (rPutT t.name (vrT (lname L (nx (lname L) but n))) (arg0T t))).2) else ([],t)
def rPeelT (L:ByteArray)(but:List ByteArray)(t:Ty):List ByteArray × Ty:=rpeelF L but t.depth 0 t
theorem rpeelF_end (L:ByteArray)(but:List ByteArray)(d n:Nat)(t:Ty)(h5:t.kind≠5):rpeelF L but d n t=([],t):=by
 cases d with
 | zero=>rfl
 | succ d=>rw[rpeelF,if_neg h5]
structure RPst (but:List ByteArray)(d n:Nat)(t:Ty):Prop where
 dd:t.depth≤d
 mm:Mk t
 z:t.size≤200000
 b:n+d*(but.length+1)≤100000000000
theorem RPst.step {c:UInt8}(hc:Lx.lowerB c=true){but:List ByteArray}{d n:Nat}{t:Ty}(h:RPst but d n t)(h5:t.kind=5) :
  ∃ d' b m,d=d'+1∧t.args=[b]∧Mk b∧b.size≤200000∧n≤m∧m≤100000000000∧hasN but (lname ⟨#[c]⟩ m)=false∧(∀ j,n≤j→j<m→hasN but (lname ⟨#[c]⟩ j)=true)∧LexN (lname ⟨#[c]⟩ m) ∧
   RPst but d' (m+1) (rPutT t.name (vrT (lname ⟨#[c]⟩ m)) b) ∧
   rpeelF ⟨#[c]⟩ but d n t=(lname ⟨#[c]⟩ m :: (rpeelF ⟨#[c]⟩ but d' (m+1) (rPutT t.name (vrT (lname ⟨#[c]⟩ m)) b)).1,(rpeelF ⟨#[c]⟩ but d' (m+1) (rPutT t.name (vrT (lname ⟨#[c]⟩ m)) b)).2):=by
 obtain⟨b,hb,hb0⟩:=std_k5 h.mm.1 h5
 have hbm:b∈t.args:=by rw[hb];simp
 have hmb:=mk_args h.mm b hbm
 have hsp:=firstN_spec (lname ⟨#[c]⟩) (fun _ _=>lname_inj) but n
 obtain⟨m,hm0⟩:∃ m,nx (lname ⟨#[c]⟩) but n=m:=⟨_,rfl⟩
 rw[show firstN (lname ⟨#[c]⟩) but (but.length+1) n=m from hm0] at hsp
 obtain⟨hd,hm,hz,hn⟩:=h
 have hdb:=depth_arg _ hbm
 have hsb:=size_arg _ hbm
 rw[t.depth_eq] at hd
 rw[t.size_eq] at hz
 obtain⟨d',rfl⟩:∃ d',d=d'+1:=⟨d - 1,by omega⟩
 rw[Nat.add_mul] at hn
 have hx:LexN (lname ⟨#[c]⟩ m):=lname_lex c hc m (by omega)
 obtain⟨p1,p2,p3⟩:=put_var_ok t.name (lname ⟨#[c]⟩ m) b hmb hx (by omega)
 exact⟨d',b,m,rfl,hb,hmb,by omega,hsp.1,by omega,hsp.2.2.2,fun j h1 h2=>hsp.2.2.1 j h1 h2,hx,⟨by omega,p1,by omega,by omega⟩,by rw[rpeelF,if_pos h5,hm0,hb0]⟩
def RPeelPost (S:Nat→Prop)(w:World)(r:List ByteArray × Ty)(e:Ending)(w':World):Prop :=
 Below w.heap.size w w'∧∃ v a c,e=.returned (.tuple #[v,tv r.2 a c])∧StrsAt (In w.heap.size w'.heap.size) w' v r.1∧ArgsAt (New S w w') w' (.slice a r.2.args.length c) r.2.args
theorem RPeelPost.drew {S:Nat→Prop}{w:World}{r:List ByteArray × Ty}{e:Ending}{w':World}(h:RPeelPost S w r e w'):RPeelPost S w r e w'.drew:=by
 obtain⟨hb,v,a,c,he,h1,h2⟩:=h
 exact⟨hb.drew,v,a,c,he,h1.keep (A:=w') (B:=w'.drew) fun _ _=>rfl,ArgsAt.keep (A:=w') (B:=w'.drew) (fun _ _=>rfl) h2⟩
set_option maxRecDepth 100000 in
set_option maxHeartbeats 6400000 in
theorem rpeel_any (ch:UInt8)(hc:Lx.lowerB ch=true)(L:ByteArray)(hLc:L=⟨#[ch]⟩)(but:List ByteArray)(t:Ty)(S:Nat→Prop)(a:Option Addr)(c:Nat)(bv:Value)(w:World)(hA:ArgsAt S w (.slice a t.args.length c) t.args)(hS:∀ b,S b→b<w.heap.size)(hbv:StrsLow w bv but)(hP:RPst but t.depth 0 t) :
  Calls Tryz.prog 17 #[tv t a c,.string L,bv] w (RPeelPost S w (rPeelT L but t)):=by
 have hz1:=(Below.refl w.heap.size w).alloc (Nat.le_refl _) (.cells #[.int .i64 t.kind,.string t.name,.int .i64 t.n,.slice a t.args.length c] 29)
 have hz2:=hz1.alloc hz1.size (.cells #[.int .i64 0,.string ⟨#[]⟩,.int .i64 0,.slice none 0 0] 29)
 have k4:=(R4.new w (.int .i64 t.kind) (.string t.name) (.int .i64 t.n) (.slice a t.args.length c)).low ((Below.refl _ _).alloc (Nat.le_refl _) (.cells #[.int .i64 0,.string ⟨#[]⟩,.int .i64 0,.slice none 0 0] 29))
 have q4:=R4.new (w.alloc (.cells #[.int .i64 t.kind,.string t.name,.int .i64 t.n,.slice a t.args.length c] 29)) (.int .i64 0) (.string ⟨#[]⟩) (.int .i64 0) (.slice none 0 0)
 rw[show (w.alloc (.cells #[.int .i64 t.kind,.string t.name,.int .i64 t.n,.slice a t.args.length c] 29)).heap.size=w.heap.size+1 from by simp] at q4
 have M0:Hid (RPM S w ((w.alloc (.cells #[.int .i64 t.kind,.string t.name,.int .i64 t.n,.slice a t.args.length c] 29)).alloc (.cells #[.int .i64 0,.string ⟨#[]⟩,.int .i64 0,.slice none 0 0] 29)) ((w.alloc (.cells #[.int .i64 t.kind,.string t.name,.int .i64 t.n,.slice a t.args.length c] 29)).alloc (.cells #[.int .i64 0,.string ⟨#[]⟩,.int .i64 0,.slice none 0 0] 29)) (.slice none 0 0) [] t a c):=hid ⟨hz2,by simp,.refl _ _ _,k4,World.ownsRow_nil _ _ _ _,(hA.keep fun b hb=>hz2.block b (hS b hb)).mono fun b hb=>⟨.inl hb,by have:=hS b hb;simp;omega,by simp[Value.ownBlock]⟩,hS⟩
 have Q0:=hid q4
 have HP:=hid hP
 have LS:L.size≤100:=by rw[hLc];show 1≤100;omega
 have hpd:=hP.b
 have ST:=hid (fun (d n:Nat) (x:Ty) (h:RPst but d n x) (h5:x.kind=5)=>h.step hc h5)
 rw[← hLc] at ST
 have HTD:Hid (t.depth≤100000000000):=hid (by
  rw[Nat.zero_add] at hpd
  exact Nat.le_trans (Nat.le_mul_of_pos_right _ (Nat.succ_pos _)) hpd)
 have DSH:Hid (∀ j:Nat,j≤100000000000→(bytes (Lib.decDigits j)).size≤100):=hid (fun j hj=>by
  have:=(dec_digits j).2.2.2 18 (by omega) (show j<10 ^ 18 by omega)
  rw[bytes_size];omega)
 have DC:=hid (fun (j:Nat) (hj:j≤100000000000) (W:World)=>decimal_any j (by omega) W)
 have CH:=hid (fun (j:Nat) (W:World) (h:Below w.heap.size w W)=>(has_any _ bv but (L++bytes (Lib.decDigits j)) W (hbv.low h):Calls Tryz.prog 24 #[bv,.string (L++bytes (Lib.decDigits j))] W fun e w'=>e=.returned (.bool (hasN but (lname L j)))∧W=w'))
 obtain⟨ba,bc,rfl,_⟩:=id hbv
 obtain⟨i0,hi0,hzz0,hzz1,hzz3⟩:=info_parts infoStr
 unfold tv
 clear hA hS hbv hP hz1 hz2 k4 q4 hpd hLc
 have c0:=M0.out.k4.c0
 go_enter Tryz.func17,Tryz.ntmps17
 go_wp2
 clear c0
 generalize (w.alloc (.cells #[.int .i64 t.kind,.string t.name,.int .i64 t.n,.slice a t.args.length c] 29)).alloc (.cells #[.int .i64 0,.string ⟨#[]⟩,.int .i64 0,.slice none 0 0] 29)=W0 at *
 go_loopg [8,9] t.depth (fun d nv iv wr=>∃ (n:Nat) (names:List ByteArray) (x:Ty) (xa:Option Addr) (xc:Nat),iv=.int .i64 n∧rPeelT L but t=(names++(rpeelF L but d n x).1,(rpeelF L but d n x).2)∧RPst but d n x∧names.length+d≤t.depth∧RPM S w W0 wr nv names x xa xc)
 case atStart=>exact⟨0,[],t,a,c,rfl,rfl,HP.out,by simp,M0.out⟩
 case round =>
  clear M0 HP
  obtain⟨n,names,x,xa,xc,rfl,hE,hP,hln,hM⟩:=hrel
  have HE:=hid hE
  have HPS:=hid hP
  have HM:=hid hM
  have HLN:=hid hln
  have c0:=hM.k4.c0
  have c1:=hM.k4.c1
  have c2:=hM.k4.c2
  have c3:=hM.k4.c3
  obtain⟨va,vcap,hvv⟩:=own_form hM.row
  subst hvv
  cases h5:(x.kind==5) with
  | false =>
   have E:=hid (hE.trans (by rw[rpeelF_end _ _ _ _ _ (show x.kind≠5 by simpa using h5),List.append_nil]))
   have qq:=hM.q Q0.out
   have q0:=qq.fr 0
   have q1:=qq.fr 1
   have q2:=qq.fr 2
   have q3:=qq.fr 3
   have z0:=qq.c0
   have z1:=qq.c1
   have z2:=qq.c2
   have z3:=qq.c3
   clear hE hP hln hM qq
   go_wp2
   go_region
   all_goals
    go_wp2
    obtain⟨q5,hB,hAx,hR⟩:=HM.out.fin Q0.out
    refine bodyPost_ret (v:=.tuple #[.slice va names.length vcap,tv x xa xc]) (by simp[results,Tryz.results17,go_sem,tv,q5.c0,q5.c1,q5.c2,q5.c3]) rfl ?_
    rw[E.out]
    exact RPeelPost.drew ⟨hB,_,xa,xc,rfl,(StrsAt.of_own hR (by show names.length≤_;have:=HLN.out;have:=HTD.out;omega)).mono fun b e=>⟨by have h1:=(hR.lt b e).1;have h2:=HM.out.lt;omega,(hR.lt b e).2⟩,hAx⟩
  | true =>
   obtain⟨d',b0,m,rfl,hb1,hmb,hbs,hnm,hml,hno,hyes,hlx,hP',hE'⟩:=ST.out _ n x hP (show x.kind=5 by simpa using h5)
   have HB1:=hid hb1
   have HMB:=hid hmb
   have HP2:=hid hP'
   have HE2:=hid hE'
   have HNO:=hid hno
   have HYES:=hid hyes
   have HLX:=hid hlx
   have hdk:=DSH.out n (by omega)
   have D0:=hid (DC.out n (by omega) wr)
   clear hE hP hln hM hb1 hmb hP' hE' hno hyes hlx
   go_wp2_with fail
   refine D0.out.mono ?_
   rintro e w1 ⟨rfl,hb1⟩
   have M1:=hid (HM.out.low hb1)
   have CH1:=hid (CH.out n w1 M1.out.below)
   clear hb1 c0 c1 c2 c3 D0
   go_wp2_with fail
   refine CH1.out.mono ?_
   rintro e w1' ⟨rfl,rfl⟩
   obtain⟨wo,hwo⟩:∃ wo:World,wo=w1:=⟨_,rfl⟩
   subst hwo
   clear CH1
   go_wp2
   go_loopg [9,10] (m+1 - n) (fun gk kv bv' wr=>∃ j:Nat,kv=.int .i64 j∧bv'=.bool (hasN but (lname L j))∧n≤j∧j≤m∧gk=m+1 - j∧RPM S w W0 wr (.slice va names.length vcap) names x xa xc)
   case atStart=>exact⟨n,rfl,rfl,Nat.le_refl _,hnm,rfl,M1.out⟩
   case round =>
    clear M1 hdk
    obtain⟨j,rfl,rfl,hkj,hjn,rfl,hM⟩:=hrel
    have HM:=hid hM
    cases hh:hasN but (lname L j) with
    | true =>
     have hlt:j<m:=by
      rcases Nat.lt_or_ge j m with h|h
      ·exact h
      ·obtain rfl:j=m:=by omega
       rw[HNO.out] at hh;cases hh
     have hds:=DSH.out (j+1) (by omega)
     have D1:Hid (Calls Tryz.prog 39 #[.int .i64 ((j:Int)+1)] wr (StrPost wr (Lib.decDigits (j+1)))):=hid (DC.out (j+1) (by omega) wr)
     clear hM hh
     go_wp2_with fail
     refine D1.out.mono ?_
     rintro e w2 ⟨rfl,hb2⟩
     have M2:=hid (HM.out.low hb2)
     have CH2:=hid (CH.out (j+1) w2 M2.out.below)
     clear hb2
     go_wp2_with fail
     refine CH2.out.mono ?_
     rintro e w2' ⟨rfl,rfl⟩
     go_wp2
     go_roundg (m+1 - (j+1))
     case measure=>omega
     case rel=>exact⟨j+1,by go_num,rfl,by omega,by omega,rfl,M2.out⟩
    | false =>
     obtain rfl:j=m:=by
      rcases Nat.lt_or_ge j m with h|h
      ·have:=HYES.out j hkj h
       rw[this] at hh;cases hh
      ·omega
     have hds:=DSH.out j hml
     have D1:=hid (DC.out j hml wr)
     have hnl:names.length≤100000000000:=by have:=HLN.out;have:=HTD.out;omega
     clear hM hh
     go_wp2_with fail
     refine D1.out.mono ?_
     rintro e w2 ⟨rfl,hb2⟩
     have M2:=hid (HM.out.low hb2)
     clear hb2 D1
     go_upto_region 10 with fail
     have EN:L++bytes (Lib.decDigits j)=lname L j:=rfl
     rw[EN]
     clear EN hds
     have MA:=M2.out.low ((Below.refl w2.heap.size w2).alloc (Nat.le_refl _) (.cells #[.string (lname L j)] 9))
     have HMA:=hid MA
     have OW:=hid MA.row
     have SZ:Hid (W0.heap.size≤w2.heap.size):=hid M2.out.kp.size
     clear MA
     generalize lname L j=xm at *
     go_wp2_with (at_builtin;go_loud (refine wpList_append_lies _ rfl _ _ _ rfl W0.heap.size 9 i0 _ 1 16 Tryz.underlying22 hi0 hzz0 hzz1 hzz3 rfl (by omega) (.slice va names.length vcap) names.length (names.map Value.string) rfl OW.out ⟨w2.heap.size,0,none⟩ 1 1 [.string xm] rfl rfl (World.news_of_block (cs:=#[.string xm]) (t:=9) (fr:=(0,0)) (heap_alloc_new w2 _)) (by simp[Value.oneCell']) (by omega) (by unfold maxLen;omega) (by omega) (by have:=SZ.out;simp;omega) (w2.heap.size+1) (by simp) ?_;intro gg cap w7 hown7 hgrow7 hat7 hlt7))
     have M7:=hid (HMA.out.add (v':=.slice (some ⟨gg,0,none⟩) (names.length+1) cap) xm hown7 hgrow7 (fun b e=>by
      simp only[Value.ownBlock,Option.some.injEq] at e
      subst e
      rcases hat7 with e|e
      ·exact .inl e
      ·right;subst e;simp))
     have M7d:=M7.out.low (Below.refl w7.heap.size w7).drew
     have M7H:=hid M7d
     obtain⟨bb,off,ax,cx,rfl,hbS,hf4,hs0⟩:=arg0 M7d.args HB1.out
     obtain⟨f0,f1,f2,f3⟩:=hf4
     have c1:=M7d.k4.c1
     have c3:=M7d.k4.c3
     rw[show x.args.length=1 by rw[HB1.out];rfl] at c3
     have CP:Hid (Calls Tryz.prog 40 #[.agg #[.int .i64 b0.kind,.string b0.name,.int .i64 b0.n,.slice ax b0.args.length cx],.string x.name,.agg #[.int .i64 1,.string xm,.int .i64 0,.slice none 0 0]] w7.drew (TP (fun _=>False) (rPutT x.name (vrT xm) b0) w7.drew)):=hid (rPut_s (fun _=>False) x.name (vrT xm) b0 ax none cx 0 w7.drew (hs0.mono fun b hb=>hb.2.1) (.nil _ _) (fun _ h=>h.elim) HMB.out (vr_mk HLX.out).1 hbs (by show 1≤200000;omega))
     clear hown7 hgrow7 hat7 hlt7 M7d hbS hs0
     generalize hy:rPutT x.name (vrT xm) b0=y at *
     clear hy
     go_upto_region 11 with fail
     go_region_law (go_simp;go_at_call 40;(with_reducible refine CP.out.mono ?_);rintro e w8 ⟨a8,c8,rfl,hA8,hb8⟩;have k8:=(M7H.out.low hb8).k4;have g0:=k8.c0;have g1:=k8.c1;have g2:=k8.c2;have g3:=k8.c3;have r0:=k8.fr 0;have r1:=k8.fr 1;have r2:=k8.fr 2;have r3:=k8.fr 3;have HA8:=hid hA8;have HB8:=hid hb8;clear hA8 hb8 k8;unfold tv)
     all_goals
      have M8:=hid (M7H.out.put HB8.out (HA8.out.mono fun b hb=>hb.elim False.elim .inr))
      go_wp2
      go_roundg d'
      case measure=>omega
      case rel=>exact⟨j+1,names++[xm],y,a8,c8,by go_num,by rw[HE.out,HE2.out];simp,HP2.out,by have:=HLN.out;simp;omega,by simpa using M8.out⟩
end Go.Proofs.YtofllmemmggapaaGreatDoor.Tp

namespace Go.Proofs.YtofllmemmggapaaGreatDoor.Tp
theorem rpeel_ok (c:UInt8)(hc:Lx.lowerB c=true)(but:List ByteArray):∀ (d n:Nat) (t:Ty),RPst but d n t→(∀ x,fvT x t→x∈but∨∃ j,j<n∧x=lname ⟨#[c]⟩ j) →
  PeelOk ⟨#[c]⟩ but n t (rpeelF ⟨#[c]⟩ but d n t):=by
 intro d
 induction d with
 | zero=>intro n t h;have:=h.dd;rw[t.depth_eq] at this;omega
 | succ d ih =>
  intro n t hP hfv
  have hm:=hP.mm
  by_cases h5:t.kind=5
  ·obtain⟨d',b,m,hd',hb,hmb,hbs,hnm,hml,hno,hyes,hx,hP',er⟩:=hP.step hc h5
   obtain rfl:d=d':=by omega
   have hbm:b∈t.args:=by rw[hb];simp
   have hxb:lname ⟨#[c]⟩ m∉but:=(hasN_false _ _).1 hno
   have hmv:Mk (vrT (lname ⟨#[c]⟩ m)):=vr_mk hx
   have hvs:(vrT (lname ⟨#[c]⟩ m)).size≤200000:=by show 1≤200000;omega
   have hsame:=rPut_same t.name (vrT (lname ⟨#[c]⟩ m)) b hmb hmv hbs hvs
   have hxf:lname ⟨#[c]⟩ m=t.name∨¬ fvT (lname ⟨#[c]⟩ m) b:=by
    by_cases he:lname ⟨#[c]⟩ m=t.name
    ·exact .inl he
    ·refine .inr fun h=>?_
     rcases hfv _ ((fvT_iff _ t).2 (.inr ⟨⟨b,hbm,h⟩,fun e=>he e.2.symm⟩)) with h|⟨j,hj,e⟩
     ·exact hxb h
     ·have:=lname_inj e;omega
   have hsb:=size_arg _ hbm
   have hdb:=depth_arg _ hbm
   obtain⟨p1,p2,p3⟩:=put_var_ok t.name (lname ⟨#[c]⟩ m) b hmb hx hbs
   have R:=ih (m+1) (rPutT t.name (vrT (lname ⟨#[c]⟩ m)) b) hP' (fun x h=>by
    have hv:=(vn_db x _ [] p1.1).2 ⟨h,by simp⟩
    rw[hsame []] at hv
    have hv2:=((vn_db x _ [] (PutT_std t.name (vrT (lname ⟨#[c]⟩ m)) b hmb.1 hmv.1)).1 hv).1
    rcases put_name_fv x _ _ b hmb.1 hv2 with h|h
    ·exact .inr ⟨m,by omega,h⟩
    ·rcases hfv x ((fvT_iff x t).2 (.inr ⟨⟨b,hbm,h.1⟩,fun e=>h.2 e.2.symm⟩)) with h|⟨j,hj,e⟩
     ·exact .inl h
     ·exact .inr ⟨j,by omega,e⟩)
   have hdbeq:=put_name_db t.name (lname ⟨#[c]⟩ m) b [] hmb.1 hxf
   have hs1:=hsame [lname ⟨#[c]⟩ m]
   rw[show vrT (lname ⟨#[c]⟩ m)=.mk 1 (lname ⟨#[c]⟩ m) 0 [] from rfl] at hs1 R p1 p2 p3 er
   rw[er]
   generalize rpeelF ⟨#[c]⟩ but d (m+1) (rPutT t.name (.mk 1 (lname ⟨#[c]⟩ m) 0 []) b)=r at *
   have hdt:dbT [] t=.mk 5 emp 0 [dbT [t.name] b]:=by rw[dbT_all _ _ h5,hb];rfl
   have hst:=st_ab [lname ⟨#[c]⟩ m] r.1.length 0 _ R.alls
   rw[← db_ab [lname ⟨#[c]⟩ m] _ p1.1,hs1,hdbeq,Nat.zero_add] at hst
   refine⟨R.good,R.k5,fun x hx=>?_,?_,?_,?_,?_,?_,?_⟩
   ·rcases List.mem_cons.1 hx with rfl|hx
    ·exact⟨hxb,m,hnm,rfl⟩
    ·obtain⟨h1,j,h2,h3⟩:=R.names x hx
     exact⟨h1,j,by omega,h3⟩
   ·refine List.nodup_cons.2 ⟨fun h=>?_,R.nodup⟩
    obtain⟨_,j,h2,h3⟩:=R.names _ h
    have:=lname_inj h3;omega
   ·show dbT (lname ⟨#[c]⟩ m :: r.1).reverse r.2=stF (r.1.length+1) (dbT [] t)
    rw[List.reverse_cons,db_append _ _ _ R.good.1,List.length_reverse,R.db,hst.1,hdt];rfl
   ·show allsN (r.1.length+1) (dbT [] t)
    rw[hdt]
    exact⟨rfl,⟨_,rfl⟩,hst.2⟩
   ·show r.2.size≤t.size
    have:=R.size;rw[t.size_eq];omega
   ·show r.2.depth≤t.depth
    have:=R.depth;rw[t.depth_eq];omega
   ·show r.1.length+1≤t.depth
    have:=R.len;rw[t.depth_eq];omega
  ·have er:rpeelF ⟨#[c]⟩ but (d+1) n t=([],t):=rpeelF_end _ _ _ _ _ h5
   rw[er]
   exact⟨hm,h5,fun x hx=>(by cases hx),List.nodup_nil,rfl,trivial,Nat.le_refl _,Nat.le_refl _,Nat.zero_le _⟩
def seqL (L:ByteArray)(but:List ByteArray):Nat→Nat→List ByteArray
 | 0,_=>[]
 | k+1,n=>lname L (nx (lname L) but n) :: seqL L but k (nx (lname L) but n+1)
theorem peelF_seq (L:ByteArray)(but:List ByteArray):∀ (d n:Nat) (t:Ty),(peelF L but d n t).1=seqL L but (peelF L but d n t).1.length n:=by
 intro d
 induction d with
 | zero=>intro n t;rfl
 | succ d ih =>
  intro n t
  rw[peelF]
  split
  ·simp only[List.length_cons]
   rw[seqL,← ih]
  ·rfl
theorem rpeelF_seq (L:ByteArray)(but:List ByteArray):∀ (d n:Nat) (t:Ty),(rpeelF L but d n t).1=seqL L but (rpeelF L but d n t).1.length n:=by
 intro d
 induction d with
 | zero=>intro n t;rfl
 | succ d ih =>
  intro n t
  rw[rpeelF]
  split
  ·simp only[List.length_cons]
   rw[seqL,← ih]
  ·rfl
theorem rpst_of {but:List ByteArray}{t:Ty}(hm:Mk t)(hz:t.size≤400)(hd:t.depth≤400)(hb:but.length≤10000):RPst but t.depth 0 t :=
 ⟨Nat.le_refl _,hm,by omega,by
  rw[Nat.zero_add]
  exact Nat.le_trans (Nat.mul_le_mul hd (show but.length+1≤10001 by omega)) (by decide)⟩
structure PeelBoth (r r':List ByteArray × Ty):Prop where
 names:r.1=r'.1
 db:dbT [] r.2=dbT [] r'.2
theorem peel_both (c:UInt8)(hc:Lx.lowerB c=true){but:List ByteArray}{t:Ty}(hm:Mk t)(hz:t.size≤400)(hd:t.depth≤400)(hb:but.length≤10000)(hf:∀ x,fvT x t→x∈but) :
  PeelOk ⟨#[c]⟩ but 0 t (PeelT ⟨#[c]⟩ but t)∧PeelOk ⟨#[c]⟩ but 0 t (rPeelT ⟨#[c]⟩ but t)∧PeelBoth (PeelT ⟨#[c]⟩ but t) (rPeelT ⟨#[c]⟩ but t):=by
 have A:=peelT_ok c hc but t hm (by omega) (by omega) hb hf
 have B:PeelOk ⟨#[c]⟩ but 0 t (rPeelT ⟨#[c]⟩ but t):=rpeel_ok c hc but t.depth 0 t (rpst_of hm hz hd hb) (fun x h=>.inl (hf x h))
 have e:(PeelT ⟨#[c]⟩ but t).1=(rPeelT ⟨#[c]⟩ but t).1:=by
  have h1:=peelF_seq ⟨#[c]⟩ but t.depth 0 t
  have h2:=rpeelF_seq ⟨#[c]⟩ but t.depth 0 t
  have h3:=A.same B
  unfold PeelT rPeelT at h3 ⊢
  rw[h1,h2,h3]
 refine⟨A,B,e,?_⟩
 rw[A.body,B.body,e]
def rInstT (g s:Ty):Bool:=(rMatchT (rPeelT qL (butI g s) g).2 (rPeelT pL (butI g s) s).2 (rPeelT qL (butI g s) g).1).isSome
structure FewR (g s:Ty):Prop where
 mg:Mk g
 ms:Mk s
 gz:g.size≤400
 sz:s.size≤400
 gd:g.depth≤400
 sd:s.depth≤400
theorem FewR.but {g s:Ty}(F:FewR g s):(butI g s).length≤10000:=by
 have h1:=freeT_len g
 have h2:=freeT_len s
 have:=F.gz
 have:=F.sz
 unfold butI;simp;omega
theorem FewR.q {g s:Ty}(F:FewR g s):PeelOk qL (butI g s) 0 g (PeelT qL (butI g s) g)∧PeelOk qL (butI g s) 0 g (rPeelT qL (butI g s) g)∧PeelBoth (PeelT qL (butI g s) g) (rPeelT qL (butI g s) g):=peel_both 113 (by decide) (but:=butI g s) F.mg F.gz F.gd F.but (fun x h=>by unfold butI;simp[(mem_free x g).2 h])
theorem FewR.p {g s:Ty}(F:FewR g s):PeelOk pL (butI g s) 0 s (PeelT pL (butI g s) s)∧PeelOk pL (butI g s) 0 s (rPeelT pL (butI g s) s)∧PeelBoth (PeelT pL (butI g s) s) (rPeelT pL (butI g s) s):=peel_both 112 (by decide) (but:=butI g s) F.ms F.sz F.sd F.but (fun x h=>by unfold butI;simp[(mem_free x s).2 h])
theorem FewR.refM {g s:Ty}(F:FewR g s):RefM (rPeelT qL (butI g s) g).2 (rPeelT pL (butI g s) s).2 (rPeelT qL (butI g s) g).1:=by
 have Q:=F.q.2.1
 have P:=F.p.2.1
 exact⟨Q.good,P.good,Nat.le_trans Q.size F.gz,Nat.le_trans P.size F.sz,by have h1:=Q.len;have h2:=F.gd;exact Nat.le_trans h1 (by omega)⟩
theorem FewR.inst {g s:Ty}(F:FewR g s):rInstT g s=InstT g s:=by
 have Q:=F.q
 have P:=F.p
 have h0:rInstT g s=(MatchT (rPeelT qL (butI g s) g).2 (rPeelT pL (butI g s) s).2 (rPeelT qL (butI g s) g).1).isSome:=by unfold rInstT;rw[F.refM.same]
 have h1:=inst_iff (g:=g) (s:=s) (rq:=rPeelT qL (butI g s) g) (rp:=rPeelT pL (butI g s) s) Q.2.1 P.2.1
 have h2:=inst_iff (g:=g) (s:=s) (rq:=PeelT qL (butI g s) g) (rp:=PeelT pL (butI g s) s) Q.1 P.1
 have e1:(PeelT qL (butI g s) g).1=(rPeelT qL (butI g s) g).1:=Q.2.2.names
 have e2:(PeelT pL (butI g s) s).1=(rPeelT pL (butI g s) s).1:=P.2.2.names
 rw[h0,Bool.eq_iff_iff,h1]
 show _↔(MatchT (PeelT qL (butI g s) g).2 (PeelT pL (butI g s) s).2 (PeelT qL (butI g s) g).1).isSome=true
 rw[h2,e1,e2]
end Go.Proofs.YtofllmemmggapaaGreatDoor.Tp

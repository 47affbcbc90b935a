/- Packed. -/
import Derived.Test.YtjecnionbjlncaaGreatDoorP16
import Derived.Deep.RegionWith
set_option maxRecDepth 100000
set_option maxHeartbeats 6400000
namespace Go.Proofs.YtjecnionbjlncaaGreatDoor.Tp
open Go.RowKit
structure sF_ (k:Int)(s:ByteArray)(m:Int)(sl:Value)(fr to:ByteArray)(w W0:World):Prop where
 hz:Below w.heap.size w W0
 k4:B4 W0 w.heap.size (.int .i64 k) (.string s) (.int .i64 m) sl
 hf:W0.heap[w.heap.size+1]? = some (.cells #[.string fr] 9 (0,0))
 ht:W0.heap[w.heap.size+2]? = some (.cells #[.string to] 9 (0,0))
 q4:B4 W0 (w.heap.size+3) (.int .i64 0) (.string ⟨#[]⟩) (.int .i64 0) (.slice none 0 0)
 size:W0.heap.size=w.heap.size+4
theorem kf_ (k:Int)(s:ByteArray)(m:Int)(sl:Value)(fr to:ByteArray)(w:World):sF_ k s m sl fr to w ((((w.alloc (.cells #[.int .i64 k,.string s,.int .i64 m,sl] 37)).alloc (.cells #[.string fr] 9)).alloc (.cells #[.string to] 9)).alloc (.cells #[.int .i64 0,.string ⟨#[]⟩,.int .i64 0,.slice none 0 0] 37)):=by
 have hz:=aw_ w (.cells #[.int .i64 k,.string s,.int .i64 m,sl] 37);have hz2:=hz.alloc hz.size (.cells #[.string fr] 9);have hz3:=hz2.alloc hz2.size (.cells #[.string to] 9);have hz4:=hz3.alloc hz3.size (.cells #[.int .i64 0,.string ⟨#[]⟩,.int .i64 0,.slice none 0 0] 37);refine⟨hz4,?_,?_,?_,ah_ (by simp),by simp⟩
 ·exact (((B4.new w _ _ _ _).low (aw_ _ _)).low (aw_ _ _)).low (aw_ _ _)
 ·rw[heap_alloc_old _ _ (by simp),heap_alloc_old _ _ (by simp)]
  exact ah_ (by simp)
 ·rw[heap_alloc_old _ _ (by simp)]
  exact ah_ (by simp)
theorem bO_ (w:World)(o1 o2 o3 o4:Obj):Below w.heap.size w ((((w.alloc o1).alloc o2).alloc o3).alloc o4):=by
 have h1:=aw_ w o1;have h2:=h1.alloc h1.size o2;have h3:=h2.alloc h2.size o3;exact h3.alloc h3.size o4
theorem oj_ (d:Nat)(fr to:ByteArray)(t:Ty)(hk:t.kind=1)(hn:t.name=fr):bW_ (d+1) fr to t=.mk t.kind to t.n t.args:=by
 rw[bW_,if_pos (by rw[hk,hn,(aH_ _ _).2 rfl];rfl)]
theorem mt_ (d:Nat)(fr to:ByteArray)(t:Ty)(hk:t.kind=5)(hn:t.name=fr):bW_ (d+1) fr to t=t:=by
 rw[bW_,if_neg (by rw[hk];simp),if_pos (by rw[hk,hn,(aH_ _ _).2 rfl];rfl)]
theorem ms_ (d:Nat)(fr to:ByteArray)(t:Ty)(h1:t.kind=1→t.name≠fr)(h5:t.kind=5→t.name≠fr∧t.name≠to):bW_ (d+1) fr to t=ir_ t (t.args.map (bW_ d fr to)):=by
 rw[bW_,if_neg,if_neg,if_neg]
 ·intro h;simp only[Bool.and_eq_true,beq_iff_eq] at h;exact (h5 h.1).2 ((aH_ _ _).1 h.2)
 ·intro h;simp only[Bool.and_eq_true,beq_iff_eq] at h;exact (h5 h.1).1 ((aH_ _ _).1 h.2)
 ·intro h;simp only[Bool.and_eq_true,beq_iff_eq] at h;exact h1 h.1 ((aH_ _ _).1 h.2)
theorem em_ {a b:ByteArray}(h:a=b):(a.toList==b.toList)=true:=by rw[h];simp
theorem cb_ {a b:ByteArray}(h:a≠b):(a.toList==b.toList)=false:=by
 rw[beq_eq_false_iff_ne];intro e;rw[ByteArray.toList_eq,ByteArray.toList_eq] at e;exact h (ByteArray.ext (Array.toList_inj.1 e))
theorem qo_ (d:Nat)(fr to:ByteArray)(t:Ty)(S:Nat→Prop)(a:OA_)(c:Nat)(w:World)(hk:t.kind=1)(hn:t.name=fr)(hA:aa_ S w (.slice a t.args.length c) t.args)(hS:∀ b,S b→b<w.heap.size) :
  Calls Tryz.prog 75 #[tv t a c,.string fr,.string to] w (TP S (bW_ (d+1) fr to t) w):=by
 have R:=kf_ t.kind t.name t.n (.slice a t.args.length c) fr to w;have e0:=cell_of_row _ _ 0 _ _ _ R.hf;have e1:=cell_of_row _ _ 0 _ _ _ R.ht;obtain⟨c0,c1,c2,c3⟩:=R.k4.c03;have s1:=R.k4.fr 1;have z1:(t.kind==1)=true:=by rw[beq_iff_eq];exact hk
 have z2:=em_ hn;have E:=hid (oj_ d fr to t hk hn);have HA:=hid hA;have HS:=hid hS;unfold tv;clear R hk hn hA hS;go_enter Tryz.func75,Tryz.ntmps75;go_wp2;have q5:B4 ((((w.alloc (.cells #[.int .i64 t.kind,.string to,.int .i64 t.n,.slice a t.args.length c] 37)).alloc (.cells #[.string fr] 9)).alloc (.cells #[.string to] 9)).alloc (.cells #[.int .i64 t.kind,.string to,.int .i64 t.n,.slice a t.args.length c] 37)) (w.heap.size+3) (.int .i64 t.kind) (.string to) (.int .i64 t.n) (.slice a t.args.length c):=ah_ (by simp);refine bodyPost_ret (v:=.agg #[.int .i64 t.kind,.string to,.int .i64 t.n,.slice a t.args.length c]) (by simp[results,Tryz.results75,go_sem,q5.c0,q5.c1,q5.c2,q5.c3]) rfl ?_;have hb:=bO_ w (.cells #[.int .i64 t.kind,.string to,.int .i64 t.n,.slice a t.args.length c] 37) (.cells #[.string fr] 9) (.cells #[.string to] 9) (.cells #[.int .i64 t.kind,.string to,.int .i64 t.n,.slice a t.args.length c] 37);rw[E.out];exact⟨a,c,rfl,(HA.out.keep fun b h=>hb.block b (HS.out b h)).mono fun b h=>.inl h,hb⟩
theorem oh_ (d:Nat)(fr to:ByteArray)(t:Ty)(S:Nat→Prop)(a:OA_)(c:Nat)(w:World)(hk:t.kind=5)(hn:t.name=fr)(hA:aa_ S w (.slice a t.args.length c) t.args)(hS:∀ b,S b→b<w.heap.size) :
  Calls Tryz.prog 75 #[tv t a c,.string fr,.string to] w (TP S (bW_ (d+1) fr to t) w):=by
 have R:=kf_ t.kind t.name t.n (.slice a t.args.length c) fr to w;have e0:=cell_of_row _ _ 0 _ _ _ R.hf;have e1:=cell_of_row _ _ 0 _ _ _ R.ht;obtain⟨c0,c1,c2,c3⟩:=R.k4.c03;have s1:=R.k4.fr 1;have z1:(t.kind==1)=false:=by rw[beq_eq_false_iff_ne];omega
 have z3:(t.kind==5)=true:=by rw[beq_iff_eq];exact hk
 have z2:=em_ hn;have E:=hid (mt_ d fr to t hk hn);have HA:=hid hA;have HS:=hid hS;unfold tv;clear R hk hn hA hS;go_enter Tryz.func75,Tryz.ntmps75;go_wp2;have q5:B4 ((((w.alloc (.cells #[.int .i64 t.kind,.string t.name,.int .i64 t.n,.slice a t.args.length c] 37)).alloc (.cells #[.string fr] 9)).alloc (.cells #[.string to] 9)).alloc (.cells #[.int .i64 t.kind,.string t.name,.int .i64 t.n,.slice a t.args.length c] 37)) (w.heap.size+3) (.int .i64 t.kind) (.string t.name) (.int .i64 t.n) (.slice a t.args.length c):=ah_ (by simp);refine bodyPost_ret (v:=.agg #[.int .i64 t.kind,.string t.name,.int .i64 t.n,.slice a t.args.length c]) (by simp[results,Tryz.results75,go_sem,q5.c0,q5.c1,q5.c2,q5.c3]) rfl ?_;have hb:=bO_ w (.cells #[.int .i64 t.kind,.string t.name,.int .i64 t.n,.slice a t.args.length c] 37) (.cells #[.string fr] 9) (.cells #[.string to] 9) (.cells #[.int .i64 t.kind,.string t.name,.int .i64 t.n,.slice a t.args.length c] 37);rw[E.out];exact⟨a,c,rfl,(HA.out.keep fun b h=>hb.block b (HS.out b h)).mono fun b h=>.inl h,hb⟩
theorem ke_ (d:Nat)(ih:gZ_ d)(fr to:ByteArray)(t:Ty)(S:Nat→Prop)(a:OA_)(c:Nat)(w:World)(h1:t.kind=1→t.name≠fr)(h5:t.kind=5→t.name≠fr∧t.name≠to)(hg:aY_ t)(hd:t.depth≤d+1)(hs:t.size≤4499999999224)(hfr:fr.size≤64)(hto:to.size≤64)
  (hA:aa_ S w (.slice a t.args.length c) t.args) (hS:∀ b,S b→b<w.heap.size) (hT:Tab w) :
  Calls Tryz.prog 75 #[tv t a c,.string fr,.string to] w (TP S (bW_ (d+1) fr to t) w):=by
 have R:=kf_ t.kind t.name t.n (.slice a t.args.length c) fr to w;have e0:=cell_of_row _ _ 0 _ _ _ R.hf;have e1:=cell_of_row _ _ 0 _ _ _ R.ht;obtain⟨c0,c1,c2,c3⟩:=R.k4.c03;have s1:=R.k4.fr 1;have hwf:=(bK_ t).1 hg.1;have hnm:=(ci_ t).1 hg.2;have hsz:=t.size_eq;have hdp:=t.depth_eq;have hal:=bi_ t.args;have CW:=e1_ 112 #[.pointer (some ⟨w.heap.size+1,0,none⟩),.pointer (some ⟨w.heap.size+2,0,none⟩)] hk_ noT noI (fun (_:Unit) x=>(bW_ d fr to x,())) t () S a c ((((w.alloc (.cells #[.int .i64 t.kind,.string t.name,.int .i64 t.n,.slice a t.args.length c] 37)).alloc (.cells #[.string fr] 9)).alloc (.cells #[.string to] 9)).alloc (.cells #[.int .i64 0,.string ⟨#[]⟩,.int .i64 0,.slice none 0 0] 37)) trivial (fun _ _ _ _ _=>trivial) (hA.keep fun b hb=>R.hz.block b (hS b hb)) (fun b hb=>⟨ba_ (hS b hb) R.hz.size,id⟩) (fun b hb=>hb.elim) (by omega)
  (fun i hi a' c' W _ hK hA'=>(kg_ d ih fr to (w.heap.size+1) (w.heap.size+2) t.args[i] S a' c' W (((hK.to_below).cell (p:=⟨w.heap.size+1,0,none⟩) (by have:=R.size;simp only at *;omega)).trans e0) (((hK.to_below).cell (p:=⟨w.heap.size+2,0,none⟩) (by have:=R.size;simp only at *;omega)).trans e1)
   ⟨hwf.2 _ (List.getElem_mem hi),hnm.2 _ (List.getElem_mem hi)⟩ (by have:=av_ _ (List.getElem_mem hi);omega) (by have:=bx_ _ (List.getElem_mem hi);omega) hfr hto hA' (fun b hb=>ba_ (hS b hb) (cj_ R.hz.size hK.size)) (ag_ hT (R.hz.trans (hK.to_below.mono R.hz.size)))).mono fun e W' h=>h.post)
 rw[dS_] at CW;have E:=hid (ms_ d fr to t h1 h5);have CW:=hid CW;have HS:=hid hS;have RH:=hid R;have q:(t.kind==1)=true∧(t.name.toList==fr.toList)=false∧(t.kind==5)=false∨(t.kind==1)=false∧(t.kind==5)=true∧(t.name.toList==fr.toList)=false∧(t.name.toList==to.toList)=false∨(t.kind==1)=false∧(t.kind==5)=false:=by
  simp only[beq_eq_false_iff_ne,beq_iff_eq]
  by_cases hk1:t.kind=1
  ·exact .inl ⟨hk1,by rw[← beq_eq_false_iff_ne];exact cb_ (h1 hk1),by omega⟩
  ·by_cases hk5:t.kind=5
   ·exact .inr (.inl ⟨by omega,hk5,by rw[← beq_eq_false_iff_ne];exact cb_ (h5 hk5).1,by rw[← beq_eq_false_iff_ne];exact cb_ (h5 hk5).2⟩)
   ·exact .inr (.inr ⟨hk1,hk5⟩)
 unfold tv at *;clear R h1 h5 hg hd hs hfr hto hA hS hT hwf hnm hsz hdp hal ih
 rcases q with ⟨z1,z2,z3⟩|⟨z1,z2,z3,z4⟩|⟨z1,z2⟩
 all_goals
  go_enter Tryz.func75,Tryz.ntmps75;go_wp2_with fail;refine CW.out.mono ?_;rintro e W2 ⟨a2,c2,rfl,hA2,_,hk2⟩;have q4:=RH.out.q4.low hk2.to_below;obtain⟨r0,r1,r2,r3⟩:=q4.c03;obtain⟨u0,u1,u2,u3⟩:=q4.f03;have HA2:=hid hA2;have HB2:=hid hk2.to_below;clear hA2 hk2;have EY:Hid (bW_ (d+1) fr to t=bb_ t (t.args.map (bW_ d fr to))):=E;clear E;generalize bb_ t (t.args.map (bW_ d fr to))=y at *;unfold tv;go_wp2;have q5:=B4.set4 q4 (.int .i64 y.kind) (.string y.name) (.int .i64 y.n) (.slice a2 y.args.length c2);exact bodyPost_ret (v:=tv y a2 c2) (by simp[results,Tryz.results75,go_sem,tv,q5.c0,q5.c1,q5.c2,q5.c3]) rfl (by rw[EY.out];exact TP.stored (R:=w.heap.size+3) HS.out RH.out.hz HA2.out HB2.out (by omega) (by rw[RH.out.size];omega))
theorem ok_ (d:Nat)(fr to:ByteArray)(t x:Ty)(hk:t.kind=5)(hn:t.name=to)(hne:t.name≠fr)(hx:cm_ t=x) :
  bW_ (d+1) fr to t=bb_ (bR_ (a2_ to (ai_ x++[fr,to])) (bW_ d to (a2_ to (ai_ x++[fr,to])) x)) [bW_ d fr to (bW_ d to (a2_ to (ai_ x++[fr,to])) x)]:=by
 rw[bW_,if_neg (by rw[hk];simp),if_neg,if_pos (by rw[hk,hn,(aH_ _ _).2 rfl];rfl),hx]
 ·rfl
 ·intro h;simp only[Bool.and_eq_true] at h;exact hne ((aH_ _ _).1 h.2)
def rq_ (S:Nat→Prop)(y:Ty)(w:World)(e:Ending)(W2:World):Prop :=
 ∃ a c,e=.returned (tv y a c)∧aa_ (fun b=>S b∨w.heap.size+4≤b∧b<W2.heap.size) W2 (.slice a y.args.length c) y.args∧Below w.heap.size w W2∧B4 W2 (w.heap.size+3) (.int .i64 0) (.string ⟨#[]⟩) (.int .i64 0) (.slice none 0 0)
theorem nv_ {S:Nat→Prop}{y:Ty}{w W2:World}{a:OA_}{c:Nat}(hS:∀ b,S b→b<w.heap.size)(hA:aa_ (fun b=>S b∨w.heap.size+4≤b∧b<W2.heap.size) W2 (.slice a y.args.length c) y.args)(hb:Below w.heap.size w W2) :
  TP S y w (.returned (tv y a c)) ((((W2.setCell ⟨w.heap.size+3,0,none⟩ (.int .i64 y.kind)).setCell ⟨w.heap.size+3,1,none⟩ (.string y.name)).setCell ⟨w.heap.size+3,2,none⟩ (.int .i64 y.n)).setCell ⟨w.heap.size+3,3,none⟩ (.slice a y.args.length c)):=by
 have hs:∀ b,b≠w.heap.size+3→((((W2.setCell ⟨w.heap.size+3,0,none⟩ (.int .i64 y.kind)).setCell ⟨w.heap.size+3,1,none⟩ (.string y.name)).setCell ⟨w.heap.size+3,2,none⟩ (.int .i64 y.n)).setCell ⟨w.heap.size+3,3,none⟩ (.slice a y.args.length c)).heap[b]? = W2.heap[b]? := fun b hb=>by
  rw[aB_ _ _ _ _ hb,aB_ _ _ _ _ hb,aB_ _ _ _ _ hb,aB_ _ _ _ _ hb]
 refine⟨a,c,rfl,(hA.keep fun b h=>hs b ?_).mono fun b h=>h.imp id fun h=>⟨by omega,by simpa using h.2⟩,hb.set4 (by omega) _ _ _ _⟩
 rcases h with h|h
 ·have:=hS b h;omega
 ·omega
theorem o6_ (d:Nat)(ih:gZ_ d)(fr to fn:ByteArray)(y:Ty)(S:Nat→Prop)(w w9:World)(a9:OA_)(c9:Nat)(hg:aY_ y)(hd:y.depth≤d)(hs:y.size≤4499999999224)(hfr:fr.size≤64)(hto:to.size≤64)(hS:∀ b,S b→b<w.heap.size)(hT:Tab w)
  (hb:Below w.heap.size w w9) (hf:w9.heap[w.heap.size+1]? = some (.cells #[.string fr] 9 (0,0))) (ht:w9.heap[w.heap.size+2]? = some (.cells #[.string to] 9 (0,0))) (q4:B4 w9 (w.heap.size+3) (.int .i64 0) (.string ⟨#[]⟩) (.int .i64 0) (.slice none 0 0))
  (hA:aa_ (fun b=>S b∨w.heap.size+4≤b∧b<w9.heap.size) w9 (.slice a9 y.args.length c9) y.args) (hsz:w.heap.size+4≤w9.heap.size) :
  Calls Tryz.prog 76 #[.agg #[.int .i64 5,.string fn,.int .i64 0,.slice (some ⟨w9.heap.size,0,none⟩) 1 1],.func (.func 112) #[] #[.pointer (some ⟨w.heap.size+1,0,none⟩),.pointer (some ⟨w.heap.size+1+1,0,none⟩)]]
   (((((w9.alloc (.cells #[.int .i64 y.kind,.string y.name,.int .i64 y.n,.slice a9 y.args.length c9] 37)).setCell ⟨w.heap.size,0,none⟩ (.int .i64 5)).setCell ⟨w.heap.size,1,none⟩ (.string fn)).setCell ⟨w.heap.size,2,none⟩ (.int .i64 0)).setCell ⟨w.heap.size,3,none⟩ (.slice (some ⟨w9.heap.size,0,none⟩) 1 1))
   (rq_ S (bb_ (bR_ fn y) [bW_ d fr to y]) w):=by
 have hs10:∀ b,b≠w.heap.size→(((((w9.alloc (.cells #[.int .i64 y.kind,.string y.name,.int .i64 y.n,.slice a9 y.args.length c9] 37)).setCell ⟨w.heap.size,0,none⟩ (.int .i64 5)).setCell ⟨w.heap.size,1,none⟩ (.string fn)).setCell ⟨w.heap.size,2,none⟩ (.int .i64 0)).setCell ⟨w.heap.size,3,none⟩ (.slice (some ⟨w9.heap.size,0,none⟩) 1 1)).heap[b]? = (w9.alloc (.cells #[.int .i64 y.kind,.string y.name,.int .i64 y.n,.slice a9 y.args.length c9] 37)).heap[b]? := fun b hb=>by
  rw[aB_ _ _ _ _ hb,aB_ _ _ _ _ hb,aB_ _ _ _ _ hb,aB_ _ _ _ _ hb]
 have hb10:=(hb.alloc hb.size (.cells #[.int .i64 y.kind,.string y.name,.int .i64 y.n,.slice a9 y.args.length c9] 37)).set4 (aC_ w.heap.size) (.int .i64 5) (.string fn) (.int .i64 0) (.slice (some ⟨w9.heap.size,0,none⟩) 1 1);have hz10:(((((w9.alloc (.cells #[.int .i64 y.kind,.string y.name,.int .i64 y.n,.slice a9 y.args.length c9] 37)).setCell ⟨w.heap.size,0,none⟩ (.int .i64 5)).setCell ⟨w.heap.size,1,none⟩ (.string fn)).setCell ⟨w.heap.size,2,none⟩ (.int .i64 0)).setCell ⟨w.heap.size,3,none⟩ (.slice (some ⟨w9.heap.size,0,none⟩) 1 1)).heap.size=w9.heap.size+1:=by simp
 have hA10:aa_ (fun b=>S b∨w.heap.size+4≤b∧b<w9.heap.size+1) (((((w9.alloc (.cells #[.int .i64 y.kind,.string y.name,.int .i64 y.n,.slice a9 y.args.length c9] 37)).setCell ⟨w.heap.size,0,none⟩ (.int .i64 5)).setCell ⟨w.heap.size,1,none⟩ (.string fn)).setCell ⟨w.heap.size,2,none⟩ (.int .i64 0)).setCell ⟨w.heap.size,3,none⟩ (.slice (some ⟨w9.heap.size,0,none⟩) 1 1)) (.slice (some ⟨w9.heap.size,0,none⟩) 1 1) [y]:=by
  refine fp_ (g:=w9.heap.size) ((hs10 _ (by omega)).trans (heap_alloc_new w9 _)) rfl rfl rfl (.inr ⟨by omega,by omega⟩) ((hA.keep fun b hb2=>?_).mono fun b hb2=>hb2.imp id fun h=>⟨h.1,by omega⟩);have hlt:b<w9.heap.size∧b≠w.heap.size:=by
   rcases hb2 with h|h
   ·have:=hS b h;have:=hb.size;omega
   ·omega
  exact (hs10 b hlt.2).trans (heap_alloc_old w9 _ hlt.1)
 have qq:=(hs10 (w.heap.size+3) (by omega)).trans ((heap_alloc_old w9 _ (by omega)).trans q4);have hff:=cell_of_row _ _ 0 _ _ _ ((hs10 (w.heap.size+1) (by omega)).trans ((heap_alloc_old w9 _ (by omega)).trans hf));have htt:=cell_of_row _ _ 0 _ _ _ ((hs10 (w.heap.size+2) (by omega)).trans ((heap_alloc_old w9 _ (by omega)).trans ht));generalize (((((w9.alloc (.cells #[.int .i64 y.kind,.string y.name,.int .i64 y.n,.slice a9 y.args.length c9] 37)).setCell ⟨w.heap.size,0,none⟩ (.int .i64 5)).setCell ⟨w.heap.size,1,none⟩ (.string fn)).setCell ⟨w.heap.size,2,none⟩ (.int .i64 0)).setCell ⟨w.heap.size,3,none⟩ (.slice (some ⟨w9.heap.size,0,none⟩) 1 1))=W10 at *;have hSS:∀ b,(S b∨w.heap.size+4≤b∧b<w9.heap.size+1)→b<W10.heap.size:=fun b h=>by
  rcases h with h|h
  ·have:=hS b h;have:=hb.size;omega
  ·omega
 have CW:=e1_ 112 #[.pointer (some ⟨w.heap.size+1,0,none⟩),.pointer (some ⟨w.heap.size+2,0,none⟩)] hk_ noT noI (fun (_:Unit) x=>(bW_ d fr to x,())) (bR_ fn y) () (fun b=>S b∨w.heap.size+4≤b∧b<w9.heap.size+1) (some ⟨w9.heap.size,0,none⟩) 1 W10 trivial (fun _ _ _ _ _=>trivial) hA10 (fun b h=>⟨hSS b h,id⟩) (fun b hb=>hb.elim) (by simp[bR_,Ty.args])
  (fun i hi a' c' W _ hK hA'=>by
   have hi0:i=0:=by simp[bR_,Ty.args] at hi;exact hi
   subst hi0;exact (kg_ d ih fr to (w.heap.size+1) (w.heap.size+2) y _ a' c' W (((hK.to_below).cell (p:=⟨w.heap.size+1,0,none⟩) (by simp only;omega)).trans hff) (((hK.to_below).cell (p:=⟨w.heap.size+2,0,none⟩) (by simp only;omega)).trans htt)
    hg hd hs hfr hto hA' (fun b h=>ba_ (hSS b h) hK.size) (ag_ hT (hb10.trans (hK.to_below.mono hb10.size)))).mono fun e W' h=>h.post)
 rw[dS_] at CW;refine CW.mono fun e W2 ⟨a2,c2,he,hA2,_,hk2⟩=>⟨a2,c2,he,hA2.mono fun b h=>?_,hb10.trans (hk2.to_below.mono hb10.size),B4.low qq hk2.to_below⟩;have:=hk2.size
 rcases h with (h|h)|h
 ·exact .inl h
 ·exact .inr ⟨h.1,by omega⟩
 ·exact .inr ⟨by omega,h.2⟩
theorem qp_ (d:Nat)(ih:gZ_ d)(fr to:ByteArray)(t:Ty)(S:Nat→Prop)(a:OA_)(c:Nat)(w:World)(hk:t.kind=5)(hn:t.name=to)(hne:t.name≠fr)(hg:aY_ t)(hd:t.depth≤d+1)(hs:t.size≤4499999999224)(hfr:fr.size≤64)(hto:to.size≤64)
  (hA:aa_ S w (.slice a t.args.length c) t.args) (hS:∀ b,S b→b<w.heap.size) (hT:Tab w) :
  Calls Tryz.prog 75 #[tv t a c,.string fr,.string to] w (TP S (bW_ (d+1) fr to t) w):=by
 obtain⟨x,hx,hx0⟩:=is_ hg.1 hk;obtain⟨b,off,a0,p0,rfl,hb,hf4,hs0⟩:=rw_ hA hx;have hln:t.args.length=1:=by rw[hx];rfl
 have hx1:x∈t.args:=by rw[hx];simp
 have hwf:=(bK_ t).1 hg.1;have hnm:=(ci_ t).1 hg.2;have hgx:aY_ x:=⟨hwf.2 x hx1,hnm.2 x hx1⟩;have hdx:x.depth≤d:=by have:=av_ _ hx1;rw[t.depth_eq] at hd;omega
 have hsx:x.size≤4499999999224:=by have:=bx_ _ hx1;rw[t.size_eq] at hs;omega
 have hto1:1≤to.size:=by rw[← hn];exact hnm.1.1 hk
 have hne2:to≠fr:=by rw[← hn];exact hne
 have R:=kf_ 5 to t.n (.slice (some ⟨b,off,none⟩) 1 c) fr to w;have hfl:=bk_ x;have hfs:=cu_ to (ai_ x++[fr,to]) (by simp;omega) hto1;have E:=hid (ok_ d fr to t x hk hn hne hx0);have z2:=cb_ hne2;have e0:=cell_of_row _ _ 0 _ _ _ R.hf;have e1:=cell_of_row _ _ 0 _ _ _ R.ht;obtain⟨c0,c1,c2,c3⟩:=R.k4.c03;have hbl:=hS b hb;obtain⟨f0,f1,f2,f3⟩:=hf4.keep (R.hz.block b hbl);have CF:=hid (fun (W:World) (h:Below w.heap.size w W)=>dj_ x S a0 p0 W (hs0.keep fun b hb=>h.block b (hS b hb)) (fun b hb=>ba_ (hS b hb) h.size) (by omega));have RH:=hid R;have HT:=hid hT;have HS:=hid hS;unfold tv;rw[hln,hn,hk];clear hg hd hs hA hS hT hx hx0 hln hx1 hwf hnm hf4 R hk hn hne hne2;go_enter Tryz.func75,Tryz.ntmps75;go_wp2;have RD:=hid ((Below.refl ((((w.alloc (.cells #[.int .i64 5,.string to,.int .i64 t.n,.slice (some ⟨b,off,none⟩) 1 c] 37)).alloc (.cells #[.string fr] 9)).alloc (.cells #[.string to] 9)).alloc (.cells #[.int .i64 0,.string ⟨#[]⟩,.int .i64 0,.slice none 0 0] 37)).heap.size ((((w.alloc (.cells #[.int .i64 5,.string to,.int .i64 t.n,.slice (some ⟨b,off,none⟩) 1 c] 37)).alloc (.cells #[.string fr] 9)).alloc (.cells #[.string to] 9)).alloc (.cells #[.int .i64 0,.string ⟨#[]⟩,.int .i64 0,.slice none 0 0] 37))).drew);have RD2:=hid (((Below.refl ((((w.alloc (.cells #[.int .i64 5,.string to,.int .i64 t.n,.slice (some ⟨b,off,none⟩) 1 c] 37)).alloc (.cells #[.string fr] 9)).alloc (.cells #[.string to] 9)).alloc (.cells #[.int .i64 0,.string ⟨#[]⟩,.int .i64 0,.slice none 0 0] 37)).heap.size ((((w.alloc (.cells #[.int .i64 5,.string to,.int .i64 t.n,.slice (some ⟨b,off,none⟩) 1 c] 37)).alloc (.cells #[.string fr] 9)).alloc (.cells #[.string to] 9)).alloc (.cells #[.int .i64 0,.string ⟨#[]⟩,.int .i64 0,.slice none 0 0] 37))).alloc (aC_ _) (.cells #[.string fr,.string to] 9)).drew);have d0:=(RH.out.k4.low RD.out).c3;have SK:=hid (fun (W:World) (h:Below ((((w.alloc (.cells #[.int .i64 5,.string to,.int .i64 t.n,.slice (some ⟨b,off,none⟩) 1 c] 37)).alloc (.cells #[.string fr] 9)).alloc (.cells #[.string to] 9)).alloc (.cells #[.int .i64 0,.string ⟨#[]⟩,.int .i64 0,.slice none 0 0] 37)).heap.size ((((w.alloc (.cells #[.int .i64 5,.string to,.int .i64 t.n,.slice (some ⟨b,off,none⟩) 1 c] 37)).alloc (.cells #[.string fr] 9)).alloc (.cells #[.string to] 9)).alloc (.cells #[.int .i64 0,.string ⟨#[]⟩,.int .i64 0,.slice none 0 0] 37)) W)=>And.intro (RH.out.k4.low h).c3 (And.intro ((h.cell (p:=⟨w.heap.size+1,0,none⟩) (by simp<;>omega)).trans e0) (And.intro ((h.cell (p:=⟨w.heap.size+1+1,0,none⟩) (by simp<;>omega)).trans e1)
  (And.intro ((h.cell (p:=⟨b,off,none⟩) (by simp<;>omega)).trans f0) (And.intro ((h.cell (p:=⟨b,off+1,none⟩) (by simp<;>omega)).trans f1) (And.intro ((h.cell (p:=⟨b,off+2,none⟩) (by simp<;>omega)).trans f2) ((h.cell (p:=⟨b,off+3,none⟩) (by simp<;>omega)).trans f3)))))))
 obtain⟨i0,hi0,hz0,hz1,hz3⟩:=info_parts fN_
 go_region_held3 (fun w'=>w'.cell? ⟨w.heap.size,3,none⟩=some (.slice (some ⟨b,off,none⟩) 1 c)∧w'.cell? ⟨w.heap.size+1,0,none⟩=some (.string fr)∧w'.cell? ⟨w.heap.size+1+1,0,none⟩=some (.string to) ∧
   w'.cell? ⟨b,off,none⟩=some (.int .i64 x.kind)∧w'.cell? ⟨b,off+1,none⟩=some (.string x.name)∧w'.cell? ⟨b,off+2,none⟩=some (.int .i64 x.n)∧w'.cell? ⟨b,off+3,none⟩=some (.slice a0 x.args.length p0))
  (first|exact SK.out _ hB8|exact SK.out _ hB7|exact SK.out _ (hB1.alloc hB1.size _)|exact SK.out _ hB1|exact SK.out _ RD2.out|go_keep)
  (first
   | (go_at_call 41;refine (CF.out _ (by first|exact RH.out.hz.drew|exact (RH.out.hz.alloc RH.out.hz.size _).drew)).mono ?_;rintro e w1 ⟨v1,rfl,own1,len1,hb1⟩;have hB1:=(show Below ((((w.alloc (.cells #[.int .i64 5,.string to,.int .i64 t.n,.slice (some ⟨b,off,none⟩) 1 c] 37)).alloc (.cells #[.string fr] 9)).alloc (.cells #[.string to] 9)).alloc (.cells #[.int .i64 0,.string ⟨#[]⟩,.int .i64 0,.slice none 0 0] 37)).heap.size ((((w.alloc (.cells #[.int .i64 5,.string to,.int .i64 t.n,.slice (some ⟨b,off,none⟩) 1 c] 37)).alloc (.cells #[.string fr] 9)).alloc (.cells #[.string to] 9)).alloc (.cells #[.int .i64 0,.string ⟨#[]⟩,.int .i64 0,.slice none 0 0] 37)) _ from by first|exact RD.out|exact RD2.out).trans (hb1.mono (by simp)))
   | (go_at_call 86;refine (gF_ to hto1 _ _ (ai_ x++[fr,to]) _ STR7 HS7 TB7).mono ?_;rintro e w8 ⟨rfl,hb8⟩;have hB8:=hB7.trans (hb8.mono hB7.size))
   | ((refine step_append_lies _ (by rfl) _ _ _ (by rfl) (w.heap.size+4) 9 i0 _ 1 16 Tryz.underlying89 hi0 hz0 hz1 hz3 rfl (by omega) v1 (ai_ x).length ((ai_ x).map Value.string) (by rfl) ((cx_ own1 (by simp)).alloc _) ⟨w1.heap.size,0,none⟩ 2 2 [.string fr,.string to] (by rfl) (by rfl) (World.news_of_block (cs:=#[.string fr,.string to]) (t:=9) (fr:=(0,0)) (heap_alloc_new w1 _)) (by simp[Value.oneCell']) (by omega) (by unfold maxLen;omega) (by omega) (by have:=hB1.size;simp at *;omega) (w1.heap.size+1) (by simp) ?_;intro gg cap w7 hown7 hgrow7 hat7 hlt7;have hB7:=(hB1.alloc hB1.size (.cells #[.string fr,.string to] 9)).grown hgrow7 (by have:=hB1.size;simp at *;omega) (fun k hk=>by have:=(own1.lt k hk).1;simp at *;omega);have STR7:=aJ_.of_own (l:=ai_ x++[fr,to]) (by rw[List.length_append,List.map_append];exact hown7) (by simp;omega);have HS7:∀ k,Value.ownBlock (.slice (some ⟨gg,0,none⟩) ((ai_ x).length+2) cap)=some k→k<w7.heap.size:=fun k hk=>(hown7.lt k hk).2;have TB7:=ag_ HT.out (RH.out.hz.trans (hB7.mono RH.out.hz.size))))
   | ((refine step_append_lies _ (by rfl) _ _ _ (by rfl) (w.heap.size+4) 9 i0 _ 1 16 Tryz.underlying89 hi0 hz0 hz1 hz3 rfl (by omega) v1 (ai_ x).length ((ai_ x).map Value.string) (by rfl) (cx_ own1 (by simp)) ⟨w.heap.size+1+1+1+1,0,none⟩ 2 2 [.string fr,.string to] (by rfl) (by rfl) (World.news_of_block (cs:=#[.string fr,.string to]) (t:=9) (fr:=(0,0)) ((hb1.block _ (by simp)).trans (ah_ (by simp)))) (by simp[Value.oneCell']) (by omega) (by unfold maxLen;omega) (by omega) (by have:=hB1.size;simp at *;omega) w1.heap.size (by simp) ?_;intro gg cap w7 hown7 hgrow7 hat7 hlt7;have hB7:=hB1.grown hgrow7 hB1.size (fun k hk=>by have:=(own1.lt k hk).1;simp at *;omega);have STR7:=aJ_.of_own (l:=ai_ x++[fr,to]) (by rw[List.length_append,List.map_append];exact hown7) (by simp;omega);have HS7:∀ k,Value.ownBlock (.slice (some ⟨gg,0,none⟩) ((ai_ x).length+2) cap)=some k→k<w7.heap.size:=fun k hk=>(hown7.lt k hk).2;have TB7:=ag_ HT.out (RH.out.hz.trans (hB7.mono RH.out.hz.size)))))
 all_goals
  have HB8:=hid hB8;clear hb1 hB1 own1 len1 hown7 hgrow7 hat7 hlt7 hB7 STR7 HS7 TB7 hb8 hB8;generalize hfn:a2_ to (ai_ x++[fr,to])=fn at *;have s0:=SK.out _ HB8.out.drew;obtain⟨s0,s1,s2,s3,s4,s5,s6⟩:=s0;have CR:=hid (fun (W:World) (h:Below w.heap.size w W)=>ih to fn x S a0 p0 W hgx hdx hsx hto hfs.2 (hs0.keep fun b hb=>h.block b (HS.out b hb)) (fun b hb=>ba_ (HS.out b hb) h.size) (ag_ HT.out h));have KP:=hid (iN_ d to fn x hdx hgx hfs.2 hsx);have TL:=hid (fun (w9:World) (a9:OA_) (c9:Nat) (hb9:Below w8.drew.heap.size w8.drew w9) (hA9:aa_ (New S w8.drew w9) w9 (.slice a9 (bW_ d to fn x).args.length c9) (bW_ d to fn x).args) =>
   o6_ d ih fr to fn (bW_ d to fn x) S w w9 a9 c9 KP.out.2.2.1 (by rw[KP.out.1];exact hdx) (by rw[KP.out.2.1];exact hsx) hfr hto HS.out HT.out ((RH.out.hz.trans (HB8.out.drew.mono RH.out.hz.size)).trans (hb9.mono (cj_ RH.out.hz.size HB8.out.drew.size)))
    ((hb9.block _ (ba_ (by rw[RH.out.size];omega) HB8.out.drew.size)).trans ((HB8.out.drew.block _ (by rw[RH.out.size];omega)).trans RH.out.hf)) ((hb9.block _ (ba_ (by rw[RH.out.size];omega) HB8.out.drew.size)).trans ((HB8.out.drew.block _ (by rw[RH.out.size];omega)).trans RH.out.ht))
    (B4.low (RH.out.q4.low HB8.out.drew) hb9) (hA9.mono fun b h=>h.imp id fun h=>⟨cj_ (by rw[← RH.out.size];exact HB8.out.drew.size) h.1,h.2⟩) (by rw[← RH.out.size];exact cj_ HB8.out.drew.size hb9.size))
  have KD:=hid (RH.out.k4.low HB8.out.drew);clear c0 c1 c2 c3 d0 f0 f1 f2 f3 e0 e1;go_wp2
  go_region_with ((go_at_call 75;refine (CR.out _ (RH.out.hz.trans (HB8.out.drew.mono RH.out.hz.size))).mono ?_;rintro e w9 ⟨a9,c9,rfl,hA9,hb9⟩;have k9:=KD.out.low hb9;have g0:=k9.c0;have g1:=k9.c1;have g2:=k9.c2;have g3:=k9.c3;have n0:=k9.fr 0;have n1:=k9.fr 1;have n2:=k9.fr 2;have n3:=k9.fr 3;have k10:=k9.low (aw_ _ (.cells #[.int .i64 (bW_ d to fn x).kind,.string (bW_ d to fn x).name,.int .i64 (bW_ d to fn x).n,.slice a9 (bW_ d to fn x).args.length c9] 37));have h0:=k10.c0;have h1:=k10.c1;have h2:=k10.c2;have h3:=k10.c3;have m0:=k10.fr 0;have m1:=k10.fr 1;have m2:=k10.fr 2;have m3:=k10.fr 3;have HA9:=hid hA9;have HB9:=hid hb9;clear k9 k10 hA9 hb9;unfold tv))
  all_goals
   go_wp2_with fail;refine (TL.out _ _ _ HB9.out HA9.out).mono ?_;rintro e W2 ⟨a2,c2,rfl,hA2,hb2,q2⟩;obtain⟨r0,r1,r2,r3⟩:=q2.c03;obtain⟨v0,v1,v2,v3⟩:=q2.f03;have HA2:=hid hA2;have HB2:=hid hb2;clear hA2 hb2 g0 g1 g2 g3 h0 h1 h2 h3 n0 n1 n2 n3 m0 m1 m2 m3;generalize bb_ (bR_ fn (bW_ d to fn x)) [bW_ d fr to (bW_ d to fn x)]=y at *;unfold tv;go_wp2;have q5:=B4.set4 q2 (.int .i64 y.kind) (.string y.name) (.int .i64 y.n) (.slice a2 y.args.length c2);exact bodyPost_ret (v:=tv y a2 c2) (by simp[results,Tryz.results75,go_sem,tv,q5.c0,q5.c1,q5.c2,q5.c3]) rfl (by rw[E.out];exact nv_ HS.out HA2.out HB2.out)
def jj_ (S:Nat→Prop)(w:World)(v:Value)(l:List Int):Prop :=
 ∃ a c,v=.slice a l.length c∧l.length≤c∧l.length≤4500000000000∧(l=[]∨∃ b off,a=some ⟨b,off,none⟩∧S b∧∀ j (h:j<l.length),w.cell? ⟨b,off+j,none⟩=some (.int .i64 l[j]))
theorem jj_.keep {S:Nat→Prop}{A B:World}(h:∀ b,S b→B.heap[b]? = A.heap[b]?){v:Value}{l:List Int}(hs:jj_ S A v l):jj_ S B v l:=by
 obtain⟨a,c,e,h1,h2,h3⟩:=hs;refine⟨a,c,e,h1,h2,h3.imp id ?_⟩;rintro ⟨b,off,e,hb,hc⟩;exact⟨b,off,e,hb,fun j hj=>(World.cell?_of_block (h b hb)).trans (hc j hj)⟩
theorem jj_.of_own {w:World}{lo:Nat}{v:Value}{l:List Int}(h:w.ownsRow lo 3 1 v l.length (l.map (Value.int .i64)))(hl:l.length≤4500000000000):jj_ (fun b=>v.ownBlock=some b) w v l:=by
 rcases h.2 with ⟨rfl,h0⟩|⟨g,cap,cur,rfl,hb,hg,h1,h2,h3,h4⟩
 ·have:l=[]:=List.eq_nil_of_length_eq_zero h0
  subst this;exact⟨none,0,rfl,Nat.zero_le _,by simp,.inl rfl⟩
 ·refine⟨_,cap,rfl,h1,hl,.inr ⟨g,0,rfl,rfl,fun j hj=>?_⟩⟩
  have hc:=h.cells (g:=g) rfl j (.int .i64 l[j]) (by rw[List.getElem?_map,List.getElem?_eq_getElem hj];rfl);have hadd:∀ j,(⟨g,0,none⟩:Addr).add j=⟨g,j,none⟩:=fun j=>by unfold Addr.add;split<;>simp_all
  rw[hadd] at hc;rw[Nat.zero_add];exact hc
end Go.Proofs.YtjecnionbjlncaaGreatDoor.Tp

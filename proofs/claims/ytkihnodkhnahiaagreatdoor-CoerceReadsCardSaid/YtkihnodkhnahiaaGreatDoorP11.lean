/- Packed. -/
import Derived.Lib.AppendZerosOnto
import Derived.Laws.AppendOwnNone
import Derived.Test.YtkihnodkhnahiaaGreatDoorP10
set_option maxRecDepth 100000
set_option maxHeartbeats 6400000
namespace Go.Proofs.YtkihnodkhnahiaaGreatDoor.Tp
open Go.RowKit
def lp_ (w:World)(e:Ending)(w':World):Prop:=∃ cap,e=.returned (.slice (some ⟨w.heap.size,0,none⟩) 0 cap)∧w'.ownsRow w.heap.size 9 1 (.slice (some ⟨w.heap.size,0,none⟩) 0 cap) 0 []∧Below w.heap.size w w'
theorem pO_ (n:Nat)(h0:0<n)(hn:n≤4500000000000)(w:World):Calls Tryz.prog 76 #[.slice none 0 0,.int .i64 n] w (lp_ w):=by
 obtain⟨i0,hi0,hz0,hz1,hz3⟩:=info_parts fo_;have hrun:=fun ty=>Lib.run_append_grow_zeros (P:=Tryz.prog) w 88 3 ty 9 i0 _ .i64 .i64 Tryz.underlying88 Tryz.underlying3 hi0 hz0 none 0 0 [] (run_firstCells_none w.drew i0.size 0 0 0) n h0 (by omega) (by omega) (by omega) (by rw[hz3];omega) (by rw[Nat.zero_add];exact growslice_fits h0 (by rw[hz3];omega));simp only[Nat.zero_add] at hrun;have hcap:=grownCap_ge w n 0 9;have hcm:=grownCap_le_maxLen w n 0 9 (by unfold maxLen;omega);generalize grownCap w n 0 9=cap at *;have hz:(Builtin.zeroCells (Value.cells (.string ByteArray.empty)) n++Builtin.zeroCells (Value.cells (.string ByteArray.empty)) (cap - n)).size=cap*1:=by simp[Builtin.zeroCells,Value.cells];omega
 generalize Builtin.zeroCells (Value.cells (.string ByteArray.empty)) n=Z1 at *;generalize Builtin.zeroCells (Value.cells (.string ByteArray.empty)) (cap - n)=Z2 at *;have HP:Hid (lp_ w (.returned (.slice (some ⟨w.heap.size,0,none⟩) 0 cap)) (w.alloc (.cells (Z1++Z2) 9)).drew) :=
  hid ⟨cap,rfl,(World.ownsRow_made w _ cap (aw_ _) hcm hz).drew,(ao_ w _).drew⟩
 have hc63:cap≤9223372036854775807:=by unfold maxLen at hcm;exact hcm
 clear hz hcm;go_enter Tryz.func76,Tryz.ntmps76;go_wp2_with (at_builtin;refine Lib.wpList_append_run _ rfl _ _ _ _ rfl _ _ rfl rfl _ _ (hrun _) ?_)
 all_goals (go_ret;exact HP.out)
def if_ (w:World)(l:List ByteArray)(e:Ending)(w':World):Prop:=∃ v,e=.returned v∧w'.ownsRow w.heap.size 9 1 v l.length (l.map Value.string)∧Below w.heap.size w w'
theorem jt_ (ls:List (List ByteArray))(i:Nat)(h:i<ls.length):(ls.take (i+1)).flatten=(ls.take i).flatten++ls[i]:=by
 rw[List.take_succ_eq_append_getElem h,List.flatten_append];simp
theorem gf_ (ls:List (List ByteArray))(i:Nat):(ls.take i).flatten.length≤ls.flatten.length:=by
 conv=>rhs;rw[← List.take_append_drop i ls,List.flatten_append,List.length_append]
 omega
theorem mo_ (S:Nat→Prop)(B off k:Nat)(vs:List Value)(ls:List (List ByteArray))(w:World)(hk:vs.length=k)(hk2:ls.length=k)(hk3:k≤4500000000000)(hc:∀ j (h:j<vs.length),w.cell? ⟨B,off+j,none⟩=some vs[j])(hB:B<w.heap.size)
  (hs:∀ j (h:j<vs.length) (h':j<ls.length),bd_ S w vs[j] ls[j]) (hS:∀ b,S b→b<w.heap.size) (h0:0<ls.flatten.length) (hl:ls.flatten.length≤4500000000000) :
  Calls Tryz.prog 37 #[.slice (some ⟨B,off,none⟩) k k] w (if_ w ls.flatten):=by
 have HC:=hid hc;have HS:=hid hs;have HSS:=hid hS;have HK:=hid hk;have HK2:=hid hk2;clear hc hs hS hk hk2;go_enter Tryz.func37,Tryz.ntmps37;go_wp2
 go_loopw [3,11] (fun sv iv wr=>∃ i:Nat,iv=.int .i64 i∧i≤k∧sv=.int .i64 (ls.take i).flatten.length∧wr=w) (fun _ iv _=>k - (intOf iv).toNat)
 case atStart=>exact⟨0,rfl,Nat.zero_le _,by simp,rfl⟩
 case round =>
  obtain⟨i,rfl,hi,rfl,rfl⟩:=hrel
  by_cases hlt:i<k
  ·have z1:(0:Int)≤(i:Int):=by omega
   have z2:(i:Int)<(k:Int):=(by omega);have ht:=jt_ ls i (by rw[HK2.out];exact hlt);have ht1:=gf_ ls (i+1);rw[ht,List.length_append] at ht1;have hcc:=HC.out i (by rw[HK.out];exact hlt);obtain⟨a,c,hv,h1,h2,h3,h4⟩:=HS.out i (by rw[HK.out];exact hlt) (by rw[HK2.out];exact hlt);rw[hv] at hcc;have E:Hid ((ls.take (i+1)).flatten.length=(ls.take i).flatten.length+(ls[i]'(by rw[HK2.out];exact hlt)).length):=hid (by rw[ht,List.length_append]);clear hv h1 h2 h3 h4 ht;generalize hq:(ls[i]'(by rw[HK2.out];exact hlt)).length=q at *;generalize (ls.take i).flatten.length=m at *;have HQ:=hid hq;clear hq;go_wp2;go_roundw
   case rel=>exact⟨i+1,by go_num,by omega,by rw[E.out];go_num,trivial⟩
   case measure=>simp[intOf];omega
  ·obtain rfl:i=k:=by omega
   have E:(ls.take i).flatten=ls.flatten:=by rw[List.take_of_length_le (by rw[HK2.out];exact aw_ _)]
   rw[E];have CG:=hid (pO_ ls.flatten.length h0 hl wr);have EH:=hid E;clear E;generalize hfl:ls.flatten.length=n at *;have HFL:=hid hfl;clear hfl;go_wp2_with fail;refine CG.out.mono ?_;rintro e w1 ⟨cap,rfl,ho,hb⟩;have HO:=hid ho;have HBB:=hid hb;clear ho hb CG;obtain⟨wo,hwo⟩:∃ wo:World,wo=wr:=⟨_,rfl⟩;subst hwo;have hs1:wo.heap.size≤w1.heap.size:=HBB.out.size;obtain⟨i0,hi0,hz0,hz1,hz3⟩:=info_parts fo_;go_wp2
   go_loopw [6,27] (fun uv iv wr=>∃ j:Nat,iv=.int .i64 j∧j≤i∧wr.ownsRow wo.heap.size 9 1 uv (ls.take j).flatten.length ((ls.take j).flatten.map Value.string)∧Below wo.heap.size wo wr) (fun _ iv _=>i - (intOf iv).toNat)
   case atStart=>exact⟨0,rfl,Nat.zero_le _,by simpa using HO.out,HBB.out⟩
   case round =>
    clear HO HBB hs1;obtain⟨j,rfl,hj,hown,hB2⟩:=hrel;have hsw:=hB2.size
    by_cases hlt2:j<i
    ·have z1:(0:Int)≤(j:Int):=by omega
     have z2:(j:Int)<(i:Int):=(by omega);have ht:=jt_ ls j (by rw[HK2.out];exact hlt2);have ht1:=gf_ ls (j+1);rw[ht,List.length_append,HFL.out] at ht1;have hcc:=(hB2.cell (p:=⟨B,off+j,none⟩) hB).trans (HC.out j (by rw[HK.out];exact hlt2));obtain⟨a,c,hv,h1,h2,h3,h4⟩:=(HS.out j (by rw[HK.out];exact hlt2) (by rw[HK2.out];exact hlt2)).keep fun b hb=>hB2.block b (HSS.out b hb);rw[hv] at hcc;have E2:=hid ht;have HO:=hid hown;have HB2:=hid hB2;generalize hq:ls[j]'(by rw[HK2.out];exact hlt2)=q at *;clear hv ht hown hB2 hq;cases a with
     | none =>
      obtain rfl:=h3 rfl;have hq0:q=[]:=List.eq_nil_of_length_eq_zero (by omega);rw[hq0,List.append_nil] at E2;rw[show q.length=0 from by rw[hq0];rfl] at hcc;clear h1 h2 h3 h4 hq0;go_wp2_with (at_builtin;refine wpList_append_own_none rfl _ _ _ rfl wo.heap.size 9 i0 1 Tryz.underlying88 hi0 _ _ _ rfl HO.out rfl ?_);go_roundw
      case rel=>exact⟨j+1,by go_num,by omega,by rw[E2.out];exact HO.out,HB2.out⟩
      case measure=>simp[intOf];omega
     | some ad =>
      have hnews:∀ (o:Nat) (u:Value),(q.map Value.string)[o]? = some u→wr.cell? (ad.add o)=some u:=fun o u ho=>by
       rw[List.getElem?_map] at ho;cases hg:q[o]? with
       | none=>rw[hg] at ho;cases ho
       | some y =>
        rw[hg] at ho;simp only[Option.map_some,Option.some.injEq] at ho;subst ho
        rcases h4 with h4|⟨b,off2,e,hb,hcl⟩
        ·rw[h4] at hg;cases hg
        ·injection e with e
         subst e;obtain⟨hlo,hgl⟩:=List.getElem?_eq_some_iff.1 hg;have hadd:∀ j,(⟨b,off2,none⟩:Addr).add j=⟨b,off2+j,none⟩:=fun j=>by unfold Addr.add;split<;>simp_all
         rw[hadd,hcl o hlo,hgl]
      have HN:=hid hnews;clear h1 h2 h3 h4 hnews;go_wp2_with (at_builtin;refine wpList_append_own _ rfl _ _ _ rfl wo.heap.size 9 i0 _ 1 16 Tryz.underlying88 hi0 hz0 hz1 hz3 rfl (by decide) _ _ _ rfl HO.out ad q.length c (q.map Value.string) rfl (by simp) HN.out (by simp[Value.oneCell']) (by unfold maxLen;omega) (by omega) (by omega) ?_;intro v' w' hown' hgrow' _);have B3:=hid (HB2.out.grown hgrow' (by omega) fun b hb=>(HO.out.lt b hb).1);have O3:=hid hown';clear hown' hgrow';go_roundw
      case rel=>exact⟨j+1,by go_num,by omega,by rw[E2.out,List.length_append,List.map_append];exact O3.out,B3.out⟩
      case measure=>simp[intOf];omega
    ·obtain rfl:j=i:=by omega
     rw[EH.out] at hown;rw[HFL.out] at hown;have HO:=hid hown;have HB2:=hid hB2;clear hown hB2;go_wp2;go_ret;exact⟨_,rfl,by rw[HFL.out];exact HO.out,HB2.out⟩
def TP (S:Nat→Prop)(y:Ty)(W:World)(e:Ending)(W':World):Prop :=
 ∃ a c,e=.returned (tv y a c)∧ac_ (New S W W') W' (.slice a y.args.length c) y.args∧Below W.heap.size W W'
def noT (_:Nat):Prop:=False
def noI (_:Unit)(_:World):Prop:=True
theorem TP.post {S:Nat→Prop}{y:Ty}{W:World}{e:Ending}{W':World}(h:TP S y W e W'):gi_ S noT noI y () W e W':=by
 obtain⟨a,c,he,hA,hb⟩:=h;exact⟨a,c,he,hA,trivial,.of_below hb⟩
theorem TP.of {S:Nat→Prop}{y:Ty}{g:Unit}{W:World}{e:Ending}{W':World}(h:gi_ S noT noI y g W e W'):TP S y W e W':=by
 obtain⟨a,c,he,hA,_,hk⟩:=h;exact⟨a,c,he,hA,hk.to_below⟩
theorem fl_ (f:Ty→Ty)(l:List Ty):(au_ (fun (_:Unit) x=>(f x,())) () l).1=l.map f:=by
 induction l with
 | nil=>rfl
 | cons t l ih=>simp only[au_,List.map_cons,ih]
theorem TP.later {S:Nat→Prop}{y:Ty}{W W1:World}{e:Ending}{W':World}(hb:Below W.heap.size W W1)(h:TP S y W1 e W'):TP S y W e W':=by
 obtain⟨a,c,he,hA,hb'⟩:=h;exact⟨a,c,he,hA.mono fun b hb2=>hb2.imp id fun h=>⟨bm_ hb.size h.1,h.2⟩,hb.trans (hb'.mono hb.size)⟩
theorem TP.stored {S:Nat→Prop}{y:Ty}{W W1 W2:World}{a:OA_}{c R:Nat}(hS:∀ b,S b→b<W.heap.size)(hb:Below W.heap.size W W1)(hA:ac_ (New S W1 W2) W2 (.slice a y.args.length c) y.args)(hb2:Below W1.heap.size W1 W2)(hR:W.heap.size≤R)(hR1:R<W1.heap.size) :
  TP S y W (.returned (tv y a c)) ((((W2.setCell ⟨R,0,none⟩ (.int .i64 y.kind)).setCell ⟨R,1,none⟩ (.string y.name)).setCell ⟨R,2,none⟩ (.int .i64 y.n)).setCell ⟨R,3,none⟩ (.slice a y.args.length c)):=by
 have hs:∀ b,b≠R→((((W2.setCell ⟨R,0,none⟩ (.int .i64 y.kind)).setCell ⟨R,1,none⟩ (.string y.name)).setCell ⟨R,2,none⟩ (.int .i64 y.n)).setCell ⟨R,3,none⟩ (.slice a y.args.length c)).heap[b]? = W2.heap[b]? := fun b hb=>by
  rw[aM_ _ _ _ _ hb,aM_ _ _ _ _ hb,aM_ _ _ _ _ hb,aM_ _ _ _ _ hb]
 refine⟨a,c,rfl,(hA.keep fun b h=>hs b ?_).mono fun b h=>h.imp id fun h=>⟨bm_ hb.size h.1,by simpa using h.2⟩,(hb.trans (hb2.mono hb.size)).set4 hR _ _ _ _⟩
 rcases h with h|h
 ·have:=hS b h;omega
 ·omega
def hn_ (d:Nat):Prop:=∀ (fr to:ByteArray) (t:Ty) (S:Nat→Prop) (a:OA_) (c:Nat) (W:World),cV_ t→t.depth≤d→t.size≤4499999999224→fr.size≤64→to.size≤64 →
 ac_ S W (.slice a t.args.length c) t.args→(∀ b,S b→b<W.heap.size)→Tab W→Calls Tryz.prog 38 #[tv t a c,.string fr,.string to] W (TP S (cs_ d fr to t) W)
theorem hM_ (args:Array Value)(w:World):(callFunc 77 args).run Tryz.prog w=.ok (.enter 77 args) w :=
 enters_of Tryz.func77 (by kernel_rfl) rfl args w
theorem kX_ (d:Nat)(ih:hn_ d)(fr to:ByteArray)(bf bt:Nat)(t:Ty)(S:Nat→Prop)(a:OA_)(c:Nat)(W:World)(hf:W.cell? ⟨bf,0,none⟩=some (.string fr))(ht:W.cell? ⟨bt,0,none⟩=some (.string to))(hg:cV_ t)(hd:t.depth≤d)(hs:t.size≤4499999999224)(hfr:fr.size≤64)(hto:to.size≤64)
  (hA:ac_ S W (.slice a t.args.length c) t.args) (hS:∀ b,S b→b<W.heap.size) (hT:Tab W):Calls Tryz.prog 77 #[tv t a c,.pointer (some ⟨bf,0,none⟩),.pointer (some ⟨bt,0,none⟩)] W (TP S (cs_ d fr to t) W):=by
 have hz:=ao_ W (.cells #[.int .i64 t.kind,.string t.name,.int .i64 t.n,.slice a t.args.length c] 30);have hz2:=hz.alloc hz.size (.cells #[.int .i64 0,.string ⟨#[]⟩,.int .i64 0,.slice none 0 0] 30);have k4:=(B4.new W (.int .i64 t.kind) (.string t.name) (.int .i64 t.n) (.slice a t.args.length c)).low (ao_ _ (.cells #[.int .i64 0,.string ⟨#[]⟩,.int .i64 0,.slice none 0 0] 30));have q4:B4 ((W.alloc (.cells #[.int .i64 t.kind,.string t.name,.int .i64 t.n,.slice a t.args.length c] 30)).alloc (.cells #[.int .i64 0,.string ⟨#[]⟩,.int .i64 0,.slice none 0 0] 30)) (W.heap.size+1) (.int .i64 0) (.string ⟨#[]⟩) (.int .i64 0) (.slice none 0 0):=al_ (by simp);obtain⟨c0,c1,c2,c3⟩:=k4.c03;have e0:=(hz2.cell (p:=⟨bf,0,none⟩) (World.block_lt_of_cell? W _ hf)).trans hf;have e1:=(hz2.cell (p:=⟨bt,0,none⟩) (World.block_lt_of_cell? W _ ht)).trans ht;have C:=hid (ih fr to t S a c _ hg hd hs hfr hto (hA.keep fun b hb=>hz2.block b (hS b hb)) (fun b hb=>aX_ (hS b hb) hz2.size) (ag_ hT hz2));have HZ2:=hid hz2;have HS:=hid hS;have Q4:=hid q4;unfold tv at *;clear hz hz2 k4 q4 hf ht hA hS hT hg hd hs hfr hto;go_enter Tryz.func77,Tryz.ntmps77;go_wp2_with fail;refine C.out.mono ?_;rintro e W2 ⟨a2,c2,rfl,hA2,hb2⟩;have q4:=Q4.out.low hb2;obtain⟨r0,r1,r2,r3⟩:=q4.c03;obtain⟨s0,s1,s2,s3⟩:=q4.f03;have HA2:=hid hA2;have HB2:=hid hb2;clear hA2 hb2;unfold tv;generalize cs_ d fr to t=y at *;go_wp2;have q5:=B4.set4 q4 (.int .i64 y.kind) (.string y.name) (.int .i64 y.n) (.slice a2 y.args.length c2);exact bodyPost_ret (v:=tv y a2 c2) (by simp[results,Tryz.results77,go_sem,tv,q5.c0,q5.c1,q5.c2,q5.c3]) rfl (TP.stored HS.out HZ2.out HA2.out HB2.out (by omega) (by simp))
structure sL_ (k:Int)(s:ByteArray)(m:Int)(sl:Value)(fr to:ByteArray)(w W0:World):Prop where
 hz:Below w.heap.size w W0
 k4:B4 W0 w.heap.size (.int .i64 k) (.string s) (.int .i64 m) sl
 hf:W0.heap[w.heap.size+1]? = some (.cells #[.string fr] 9 (0,0))
 ht:W0.heap[w.heap.size+2]? = some (.cells #[.string to] 9 (0,0))
 q4:B4 W0 (w.heap.size+3) (.int .i64 0) (.string ⟨#[]⟩) (.int .i64 0) (.slice none 0 0)
 size:W0.heap.size=w.heap.size+4
theorem kW_ (k:Int)(s:ByteArray)(m:Int)(sl:Value)(fr to:ByteArray)(w:World):sL_ k s m sl fr to w ((((w.alloc (.cells #[.int .i64 k,.string s,.int .i64 m,sl] 30)).alloc (.cells #[.string fr] 9)).alloc (.cells #[.string to] 9)).alloc (.cells #[.int .i64 0,.string ⟨#[]⟩,.int .i64 0,.slice none 0 0] 30)):=by
 have hz:=ao_ w (.cells #[.int .i64 k,.string s,.int .i64 m,sl] 30);have hz2:=hz.alloc hz.size (.cells #[.string fr] 9);have hz3:=hz2.alloc hz2.size (.cells #[.string to] 9);have hz4:=hz3.alloc hz3.size (.cells #[.int .i64 0,.string ⟨#[]⟩,.int .i64 0,.slice none 0 0] 30);refine⟨hz4,?_,?_,?_,al_ (by simp),by simp⟩
 ·exact (((B4.new w _ _ _ _).low (ao_ _ _)).low (ao_ _ _)).low (ao_ _ _)
 ·rw[heap_alloc_old _ _ (by simp),heap_alloc_old _ _ (by simp)]
  exact al_ (by simp)
 ·rw[heap_alloc_old _ _ (by simp)]
  exact al_ (by simp)
theorem dL_ (w:World)(o1 o2 o3 o4:Obj):Below w.heap.size w ((((w.alloc o1).alloc o2).alloc o3).alloc o4):=by
 have h1:=ao_ w o1;have h2:=h1.alloc h1.size o2;have h3:=h2.alloc h2.size o3;exact h3.alloc h3.size o4
theorem pf_ (d:Nat)(fr to:ByteArray)(t:Ty)(hk:t.kind=1)(hn:t.name=fr):cs_ (d+1) fr to t=.mk t.kind to t.n t.args:=by
 rw[cs_,if_pos (by rw[hk,hn,(aS_ _ _).2 rfl];rfl)]
theorem nd_ (d:Nat)(fr to:ByteArray)(t:Ty)(hk:t.kind=5)(hn:t.name=fr):cs_ (d+1) fr to t=t:=by
 rw[cs_,if_neg (by rw[hk];simp),if_pos (by rw[hk,hn,(aS_ _ _).2 rfl];rfl)]
theorem nc_ (d:Nat)(fr to:ByteArray)(t:Ty)(h1:t.kind=1→t.name≠fr)(h5:t.kind=5→t.name≠fr∧t.name≠to):cs_ (d+1) fr to t=iV_ t (t.args.map (cs_ d fr to)):=by
 rw[cs_,if_neg,if_neg,if_neg]
 ·intro h;simp only[Bool.and_eq_true,beq_iff_eq] at h;exact (h5 h.1).2 ((aS_ _ _).1 h.2)
 ·intro h;simp only[Bool.and_eq_true,beq_iff_eq] at h;exact (h5 h.1).1 ((aS_ _ _).1 h.2)
 ·intro h;simp only[Bool.and_eq_true,beq_iff_eq] at h;exact h1 h.1 ((aS_ _ _).1 h.2)
theorem eL_ {a b:ByteArray}(h:a=b):(a.toList==b.toList)=true:=by rw[h];simp
theorem cB_ {a b:ByteArray}(h:a≠b):(a.toList==b.toList)=false:=by
 rw[beq_eq_false_iff_ne];intro e;rw[ByteArray.toList_eq,ByteArray.toList_eq] at e;exact h (ByteArray.ext (Array.toList_inj.1 e))
theorem qX_ (d:Nat)(fr to:ByteArray)(t:Ty)(S:Nat→Prop)(a:OA_)(c:Nat)(w:World)(hk:t.kind=1)(hn:t.name=fr)(hA:ac_ S w (.slice a t.args.length c) t.args)(hS:∀ b,S b→b<w.heap.size) :
  Calls Tryz.prog 38 #[tv t a c,.string fr,.string to] w (TP S (cs_ (d+1) fr to t) w):=by
 have R:=kW_ t.kind t.name t.n (.slice a t.args.length c) fr to w;have e0:=cell_of_row _ _ 0 _ _ _ R.hf;have e1:=cell_of_row _ _ 0 _ _ _ R.ht;obtain⟨c0,c1,c2,c3⟩:=R.k4.c03;have s1:=R.k4.fr 1;have z1:(t.kind==1)=true:=by rw[beq_iff_eq];exact hk
 have z2:=eL_ hn;have E:=hid (pf_ d fr to t hk hn);have HA:=hid hA;have HS:=hid hS;unfold tv;clear R hk hn hA hS;go_enter Tryz.func38,Tryz.ntmps38;go_wp2;have q5:B4 ((((w.alloc (.cells #[.int .i64 t.kind,.string to,.int .i64 t.n,.slice a t.args.length c] 30)).alloc (.cells #[.string fr] 9)).alloc (.cells #[.string to] 9)).alloc (.cells #[.int .i64 t.kind,.string to,.int .i64 t.n,.slice a t.args.length c] 30)) (w.heap.size+3) (.int .i64 t.kind) (.string to) (.int .i64 t.n) (.slice a t.args.length c):=al_ (by simp);refine bodyPost_ret (v:=.agg #[.int .i64 t.kind,.string to,.int .i64 t.n,.slice a t.args.length c]) (by simp[results,Tryz.results38,go_sem,q5.c0,q5.c1,q5.c2,q5.c3]) rfl ?_;have hb:=dL_ w (.cells #[.int .i64 t.kind,.string to,.int .i64 t.n,.slice a t.args.length c] 30) (.cells #[.string fr] 9) (.cells #[.string to] 9) (.cells #[.int .i64 t.kind,.string to,.int .i64 t.n,.slice a t.args.length c] 30);rw[E.out];exact⟨a,c,rfl,(HA.out.keep fun b h=>hb.block b (HS.out b h)).mono fun b h=>.inl h,hb⟩
theorem pd_ (d:Nat)(fr to:ByteArray)(t:Ty)(S:Nat→Prop)(a:OA_)(c:Nat)(w:World)(hk:t.kind=5)(hn:t.name=fr)(hA:ac_ S w (.slice a t.args.length c) t.args)(hS:∀ b,S b→b<w.heap.size) :
  Calls Tryz.prog 38 #[tv t a c,.string fr,.string to] w (TP S (cs_ (d+1) fr to t) w):=by
 have R:=kW_ t.kind t.name t.n (.slice a t.args.length c) fr to w;have e0:=cell_of_row _ _ 0 _ _ _ R.hf;have e1:=cell_of_row _ _ 0 _ _ _ R.ht;obtain⟨c0,c1,c2,c3⟩:=R.k4.c03;have s1:=R.k4.fr 1;have z1:(t.kind==1)=false:=by rw[beq_eq_false_iff_ne];omega
 have z3:(t.kind==5)=true:=by rw[beq_iff_eq];exact hk
 have z2:=eL_ hn;have E:=hid (nd_ d fr to t hk hn);have HA:=hid hA;have HS:=hid hS;unfold tv;clear R hk hn hA hS;go_enter Tryz.func38,Tryz.ntmps38;go_wp2;have q5:B4 ((((w.alloc (.cells #[.int .i64 t.kind,.string t.name,.int .i64 t.n,.slice a t.args.length c] 30)).alloc (.cells #[.string fr] 9)).alloc (.cells #[.string to] 9)).alloc (.cells #[.int .i64 t.kind,.string t.name,.int .i64 t.n,.slice a t.args.length c] 30)) (w.heap.size+3) (.int .i64 t.kind) (.string t.name) (.int .i64 t.n) (.slice a t.args.length c):=al_ (by simp);refine bodyPost_ret (v:=.agg #[.int .i64 t.kind,.string t.name,.int .i64 t.n,.slice a t.args.length c]) (by simp[results,Tryz.results38,go_sem,q5.c0,q5.c1,q5.c2,q5.c3]) rfl ?_;have hb:=dL_ w (.cells #[.int .i64 t.kind,.string t.name,.int .i64 t.n,.slice a t.args.length c] 30) (.cells #[.string fr] 9) (.cells #[.string to] 9) (.cells #[.int .i64 t.kind,.string t.name,.int .i64 t.n,.slice a t.args.length c] 30);rw[E.out];exact⟨a,c,rfl,(HA.out.keep fun b h=>hb.block b (HS.out b h)).mono fun b h=>.inl h,hb⟩
theorem kV_ (d:Nat)(ih:hn_ d)(fr to:ByteArray)(t:Ty)(S:Nat→Prop)(a:OA_)(c:Nat)(w:World)(h1:t.kind=1→t.name≠fr)(h5:t.kind=5→t.name≠fr∧t.name≠to)(hg:cV_ t)(hd:t.depth≤d+1)(hs:t.size≤4499999999224)(hfr:fr.size≤64)(hto:to.size≤64)
  (hA:ac_ S w (.slice a t.args.length c) t.args) (hS:∀ b,S b→b<w.heap.size) (hT:Tab w) :
  Calls Tryz.prog 38 #[tv t a c,.string fr,.string to] w (TP S (cs_ (d+1) fr to t) w):=by
 have R:=kW_ t.kind t.name t.n (.slice a t.args.length c) fr to w;have e0:=cell_of_row _ _ 0 _ _ _ R.hf;have e1:=cell_of_row _ _ 0 _ _ _ R.ht;obtain⟨c0,c1,c2,c3⟩:=R.k4.c03;have s1:=R.k4.fr 1;have hwf:=(bq_ t).1 hg.1;have hnm:=(dm_ t).1 hg.2;have hsz:=t.size_eq;have hdp:=t.depth_eq;have hal:=cL_ t.args;have CW:=gn_ 77 #[.pointer (some ⟨w.heap.size+1,0,none⟩),.pointer (some ⟨w.heap.size+2,0,none⟩)] hM_ noT noI (fun (_:Unit) x=>(cs_ d fr to x,())) t () S a c ((((w.alloc (.cells #[.int .i64 t.kind,.string t.name,.int .i64 t.n,.slice a t.args.length c] 30)).alloc (.cells #[.string fr] 9)).alloc (.cells #[.string to] 9)).alloc (.cells #[.int .i64 0,.string ⟨#[]⟩,.int .i64 0,.slice none 0 0] 30)) trivial (fun _ _ _ _ _=>trivial) (hA.keep fun b hb=>R.hz.block b (hS b hb)) (fun b hb=>⟨aX_ (hS b hb) R.hz.size,id⟩) (fun b hb=>hb.elim) (by omega)
  (fun i hi a' c' W _ hK hA'=>(kX_ d ih fr to (w.heap.size+1) (w.heap.size+2) t.args[i] S a' c' W (((hK.to_below).cell (p:=⟨w.heap.size+1,0,none⟩) (by have:=R.size;simp only at *;omega)).trans e0) (((hK.to_below).cell (p:=⟨w.heap.size+2,0,none⟩) (by have:=R.size;simp only at *;omega)).trans e1)
   ⟨hwf.2 _ (List.getElem_mem hi),hnm.2 _ (List.getElem_mem hi)⟩ (by have:=aT_ _ (List.getElem_mem hi);omega) (by have:=cx_ _ (List.getElem_mem hi);omega) hfr hto hA' (fun b hb=>aX_ (hS b hb) (bm_ R.hz.size hK.size)) (ag_ hT (R.hz.trans (hK.to_below.mono R.hz.size)))).mono fun e W' h=>h.post)
 rw[fl_] at CW;have E:=hid (nc_ d fr to t h1 h5);have CW:=hid CW;have HS:=hid hS;have RH:=hid R;have q:(t.kind==1)=true∧(t.name.toList==fr.toList)=false∧(t.kind==5)=false∨(t.kind==1)=false∧(t.kind==5)=true∧(t.name.toList==fr.toList)=false∧(t.name.toList==to.toList)=false∨(t.kind==1)=false∧(t.kind==5)=false:=by
  simp only[beq_eq_false_iff_ne,beq_iff_eq]
  by_cases hk1:t.kind=1
  ·exact .inl ⟨hk1,by rw[← beq_eq_false_iff_ne];exact cB_ (h1 hk1),by omega⟩
  ·by_cases hk5:t.kind=5
   ·exact .inr (.inl ⟨by omega,hk5,by rw[← beq_eq_false_iff_ne];exact cB_ (h5 hk5).1,by rw[← beq_eq_false_iff_ne];exact cB_ (h5 hk5).2⟩)
   ·exact .inr (.inr ⟨hk1,hk5⟩)
 unfold tv at *;clear R h1 h5 hg hd hs hfr hto hA hS hT hwf hnm hsz hdp hal ih
 rcases q with ⟨z1,z2,z3⟩|⟨z1,z2,z3,z4⟩|⟨z1,z2⟩
 all_goals
  go_enter Tryz.func38,Tryz.ntmps38;go_wp2_with fail;refine CW.out.mono ?_;rintro e W2 ⟨a2,c2,rfl,hA2,_,hk2⟩;have q4:=RH.out.q4.low hk2.to_below;obtain⟨r0,r1,r2,r3⟩:=q4.c03;obtain⟨u0,u1,u2,u3⟩:=q4.f03;have HA2:=hid hA2;have HB2:=hid hk2.to_below;clear hA2 hk2;have EY:Hid (cs_ (d+1) fr to t=cn_ t (t.args.map (cs_ d fr to))):=E;clear E;generalize cn_ t (t.args.map (cs_ d fr to))=y at *;unfold tv;go_wp2;have q5:=B4.set4 q4 (.int .i64 y.kind) (.string y.name) (.int .i64 y.n) (.slice a2 y.args.length c2);exact bodyPost_ret (v:=tv y a2 c2) (by simp[results,Tryz.results38,go_sem,tv,q5.c0,q5.c1,q5.c2,q5.c3]) rfl (by rw[EY.out];exact TP.stored (R:=w.heap.size+3) HS.out RH.out.hz HA2.out HB2.out (by omega) (by rw[RH.out.size];omega))
end Go.Proofs.YtkihnodkhnahiaaGreatDoor.Tp

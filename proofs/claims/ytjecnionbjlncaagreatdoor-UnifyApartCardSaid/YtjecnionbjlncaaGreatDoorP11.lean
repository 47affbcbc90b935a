/- Packed. -/
import Derived.Test.YtjecnionbjlncaaGreatDoorP10
import Derived.Test.YtjecnionbjlncaaGreatDoorP08
import Derived.Lib.AppendZerosOnto
import Derived.Laws.AppendOwnNone
set_option maxRecDepth 100000
set_option maxHeartbeats 6400000
namespace Go.Proofs.YtjecnionbjlncaaGreatDoor.Tp
open Go.RowKit
open Lx
theorem pY_ (n N B:Nat)(w:World)(l:List Tok)(ih:nV_ n)(h:Rd N B w l)(hN:N≤w.heap.size)(hok:c6_ l)(hl:l.length≤4000)(hn:4*l.length+4≤n+1)(h1:st l 3 fa=true):Calls Tryz.prog 92 #[.pointer (some ⟨B,0,none⟩)] w (cN_ N B w (bC_ (n+1) l)):=by
 have hz:=aw_ w (.cells #[.int .i64 0,.string ByteArray.empty,.int .i64 0,.slice none 0 0] 37);have hr:=h.low hz;have C1:=hid (b1_ hr (k:=3) (s:=fa) (f3_ (by decide) h1));have b4:=hid (B4.new w (.int .i64 0) (.string ByteArray.empty) (.int .i64 0) (.slice none 0 0));have HR:=hid hr;have htl:l.tail.length+1=l.length:=by have:=d5_ h1;rw[List.length_tail];omega
 have CA:=hid (fun w1 (hr1:Rd N B w1 l.tail) (hN1:N≤w1.heap.size)=>ih.all N B w1 l.tail hr1 hN1 hok.tail (by omega) (by omega));have e:bC_ (n+1) l=eJ_ n l.tail:=by rw[bC_,if_pos h1]
 have E:=hid e;clear h hr h1 e hok ih hz;go_enter Tryz.func92,Tryz.ntmps92;go_wp2_with fail;refine C1.out.mono ?_;rintro e w1 ⟨rfl,hrd,hg1⟩;have k3:=b4.out.grown hg1 (fun e=>b4.out.ne_rd HR.out (by injection e with e;exact e.symm));have K3:=hid k3;have RD:=hid hrd;have hs1:w.heap.size<w1.heap.size:=by have:=hg1.size;simp at this;omega
 have G1:=hid (ac_ (ad_ (aw_ w (.cells #[.int .i64 0,.string ByteArray.empty,.int .i64 0,.slice none 0 0] 37))) hg1);clear k3 hrd hg1;go_wp2_with fail;refine (CA.out w1 RD.out (by omega)).mono ?_;rintro e w2 ⟨hg,hres⟩;have k4:=K3.out.grown hg (fun e=>K3.out.ne_rd RD.out (by injection e with e;exact e.symm));obtain⟨c0,c1,c2,c3⟩:=k4.c03;obtain⟨f0,f1,f2,f3⟩:=k4.f03;have K4:=hid k4;have G:=hid (ac_ G1.out hg);have hsz:=hg.size;have hBlt:=RD.out.lt;clear k4 hg;cases hT:eJ_ n l.tail with
 | none =>
  rw[hT] at hres;obtain⟨k,s,m,a,c,c',rfl⟩:=hres;have E2:Hid (bC_ (n+1) l=none):=hid (E.out.trans hT);clear hT;go_wp2;have q4:=K4.out.set4 (.int .i64 k) (.string s) (.int .i64 m) (.slice a c c');have g4:=aq_ G.out (aC_ _) (.int .i64 k) (.string s) (.int .i64 m) (.slice a c c');refine bodyPost_ret (v:=.tuple #[.agg #[.int .i64 k,.string s,.int .i64 m,.slice a c c'],.bool false]) (by simp[results,Tryz.results92,go_sem,q4.c0,q4.c1,q4.c2,q4.c3]) rfl ?_;rw[E2.out];exact⟨g4,_,_,_,_,_,_,rfl⟩
 | some x =>
  obtain⟨t,r⟩:=x;rw[hT] at hres;obtain⟨a,c,rfl,hA,hR⟩:=hres;have E2:Hid (bC_ (n+1) l=some (t,r)):=hid (E.out.trans hT);have HA:=hid hA;have RR:=hid hR;have hne:=K4.out.ne_rd hR;clear hT hA hR;unfold tv;go_wp2;have q4:=K4.out.set4 (.int .i64 t.kind) (.string t.name) (.int .i64 t.n) (.slice a t.args.length c);have g4:=aq_ G.out (aC_ _) (.int .i64 t.kind) (.string t.name) (.int .i64 t.n) (.slice a t.args.length c);have r4:=RR.out.set4 (Ne.symm hne) hN (.int .i64 t.kind) (.string t.name) (.int .i64 t.n) (.slice a t.args.length c);have ha4:=HA.out.keep (B:=(((w2.setCell ⟨w.heap.size,0,none⟩ (.int .i64 t.kind)).setCell ⟨w.heap.size,1,none⟩ (.string t.name)).setCell ⟨w.heap.size,2,none⟩ (.int .i64 t.n)).setCell ⟨w.heap.size,3,none⟩ (.slice a t.args.length c)) (fun b hb=>by
   obtain⟨b1,b2⟩:=hb;rw[aB_ _ _ _ _ (by simp;omega),aB_ _ _ _ _ (by simp;omega),aB_ _ _ _ _ (by simp;omega),aB_ _ _ _ _ (by simp;omega)])
  refine bodyPost_ret (v:=.tuple #[tv t a c,.bool true]) (by simp[results,Tryz.results92,go_sem,tv,q4.c0,q4.c1,q4.c2,q4.c3]) rfl ?_;rw[E2.out];exact⟨g4,a,c,rfl,ha4.mono (fun b hb=>by obtain⟨b1,b2⟩:=hb;exact⟨by omega,by simpa using b2⟩),r4⟩
theorem pd_ {w:World}{g:Nat}{a b:Ty}{sa sb:Value}{S:Nat→Prop}(h:w.heap[g]? = some (.cells #[.int .i64 a.kind,.string a.name,.int .i64 a.n,sa,.int .i64 b.kind,.string b.name,.int .i64 b.n,sb] 37 (0,0)))(hg:S g)(ha:aa_ S w sa a.args)(hb:aa_ S w sb b.args) :
  aa_ S w (.slice (some ⟨g,0,none⟩) 2 2) [a,b]:=by
 refine .mk g 0 2 [a,b] (fun i=>if i=0 then sa else sb) hg (by simp) (fun i hi=>?_) (fun i hi=>?_)
 ·have hi2:i=0∨i=1:=by simp at hi;omega
  rcases hi2 with rfl|rfl
  ·exact⟨cell_of_row w g 0 _ _ _ h,cell_of_row w g 1 _ _ _ h,cell_of_row w g 2 _ _ _ h,cell_of_row w g 3 _ _ _ h⟩
  ·exact⟨cell_of_row w g 4 _ _ _ h,cell_of_row w g 5 _ _ _ h,cell_of_row w g 6 _ _ _ h,cell_of_row w g 7 _ _ _ h⟩
 ·have hi2:i=0∨i=1:=by simp at hi;omega
  rcases hi2 with rfl|rfl
  ·exact ha
  ·exact hb
theorem pW_ (n N B:Nat)(w:World)(l:List Tok)(ih:nV_ n)(h:Rd N B w l)(hN:N≤w.heap.size)(hok:c6_ l)(hl:l.length≤4000)(hn:4*l.length+4≤n+1)(h1:st l 3 fa=false):Calls Tryz.prog 92 #[.pointer (some ⟨B,0,none⟩)] w (cN_ N B w (bC_ (n+1) l)):=by
 have hz:=aw_ w (.cells #[.int .i64 0,.string ByteArray.empty,.int .i64 0,.slice none 0 0] 37);have hr:=h.low hz;have C1:=hid (bv_ hr (k:=3) (s:=fa) (f3_ (by decide) h1));have b4:=hid (B4.new w (.int .i64 0) (.string ByteArray.empty) (.int .i64 0) (.slice none 0 0));have HR:=hid hr;have CA:=hid (ih.app N B _ l hr (by simp;omega) hok hl (by omega));have e:bC_ (n+1) l=(match bY_ n l with|none=>none|some (a,r)=>if st r 6 c5_ then (match bC_ n r.tail with|none=>none|some (b,r')=>some (j4_ a b,r')) else some (a,r)):=by rw[bC_,h1,if_neg (by simp)];rfl
 have E:=hid e;have IH:=hid ih;have OK:=hid hok;have hBw:=h.lt;clear h hr h1 e hok ih hz;go_enter Tryz.func92,Tryz.ntmps92;go_wp2_with fail;refine C1.out.mono ?_;rintro e w1 ⟨rfl,rfl⟩;go_wp2_with fail;refine CA.out.mono ?_;rintro e w2 ⟨hg,hres⟩;have k4:=b4.out.grown hg (fun e=>b4.out.ne_rd HR.out (by injection e with e;exact e.symm));have K4:=hid k4;have G:=hid (ac_ (ad_ (aw_ w (.cells #[.int .i64 0,.string ByteArray.empty,.int .i64 0,.slice none 0 0] 37))) hg);have hsz:w.heap.size<w2.heap.size:=by have:=hg.size;simp at this;omega
 have hBne:B≠w.heap.size:=by omega
 have HS:=hid hsz;clear k4 hg hsz;cases hT:bY_ n l with
 | none =>
  rw[hT] at hres;obtain⟨k,s,m,a,c,c',rfl⟩:=hres;have E2:Hid (bC_ (n+1) l=none):=hid (by rw[E.out,hT]);have hz:=aw_ w2 (.cells #[.int .i64 k,.string s,.int .i64 m,.slice a c c'] 37);have k5:=K4.out.low hz;obtain⟨c0,c1,c2,c3⟩:=k5.c03;obtain⟨f0,f1,f2,f3⟩:=k5.f03;have K5:=hid k5;have G5:=hid (ac_ G.out (ad_ hz));clear hT k5 hz;go_wp2;have hsz:=HS.out;have q4:=K5.out.set4 (.int .i64 0) (.string ⟨#[]⟩) (.int .i64 0) (.slice none 0 0);have g4:=aq_ G5.out (aC_ _) (.int .i64 0) (.string ⟨#[]⟩) (.int .i64 0) (.slice none 0 0);refine bodyPost_ret (v:=.tuple #[zv,.bool false]) (by simp[results,Tryz.results92,go_sem,zv,q4.c0,q4.c1,q4.c2,q4.c3]) rfl ?_;rw[E2.out];exact⟨g4,_,_,_,_,_,_,rfl⟩
 | some x =>
  obtain⟨t,r⟩:=x;rw[hT] at hres;obtain⟨a,c,rfl,hA,hR⟩:=hres;have hsh:=(dq_ n).2.2.1 _ _ _ hT;have hrok:c6_ r:=fun t ht=>OK.out t ((hd_ n).2.2.1 _ _ _ hT t ht);have hz:=aw_ w2 (.cells #[.int .i64 t.kind,.string t.name,.int .i64 t.n,.slice a t.args.length c] 37);have k5:=K4.out.low hz;have kt:=B4.new w2 (.int .i64 t.kind) (.string t.name) (.int .i64 t.n) (.slice a t.args.length c);have hR3:=hR.low hz;have G5:=hid (ac_ G.out (ad_ hz));have HA:=hid hA;have HT:=hid hT;have ROK:=hid hrok;have R3:=hid hR3;have K5:=hid k5;have KT:=hid kt;have HZ:=hid hz;clear hA hT hR hz hrok;unfold tv;cases hp:st r 6 c5_
  ·have E2:Hid (bC_ (n+1) l=some (t,r)):=hid (by rw[E.out,HT.out];simp[hp])
   have C5:=hid (bv_ hR3 (k:=6) (s:=c5_) (f3_ (by decide) hp));obtain⟨c0,c1,c2,c3⟩:=k5.c03;obtain⟨f0,f1,f2,f3⟩:=k5.f03;obtain⟨t0,t1,t2,t3⟩:=kt.c03;have hne:=k5.ne_rd hR3;clear k5 kt hR3 hp;go_wp2_with fail;refine C5.out.mono ?_;rintro e w4 ⟨rfl,rfl⟩;go_wp2;have hsz:=HS.out;have q4:=K5.out.set4 (.int .i64 t.kind) (.string t.name) (.int .i64 t.n) (.slice a t.args.length c);have g4:=aq_ G5.out (aC_ _) (.int .i64 t.kind) (.string t.name) (.int .i64 t.n) (.slice a t.args.length c);have r4:=R3.out.set4 (Ne.symm hne) hN (.int .i64 t.kind) (.string t.name) (.int .i64 t.n) (.slice a t.args.length c);have ha4:=HA.out.keep (B:=((((w2.alloc (.cells #[.int .i64 t.kind,.string t.name,.int .i64 t.n,.slice a t.args.length c] 37)).setCell ⟨w.heap.size,0,none⟩ (.int .i64 t.kind)).setCell ⟨w.heap.size,1,none⟩ (.string t.name)).setCell ⟨w.heap.size,2,none⟩ (.int .i64 t.n)).setCell ⟨w.heap.size,3,none⟩ (.slice a t.args.length c)) (fun b hb=>by
    obtain⟨b1,b2⟩:=hb;simp at b1;rw[aB_ _ _ _ _ (by simp;omega),aB_ _ _ _ _ (by simp;omega),aB_ _ _ _ _ (by simp;omega),aB_ _ _ _ _ (by simp;omega)];exact HZ.out.block b b2)
   refine bodyPost_ret (v:=.tuple #[tv t a c,.bool true]) (by simp[results,Tryz.results92,go_sem,tv,q4.c0,q4.c1,q4.c2,q4.c3]) rfl ?_;rw[E2.out];exact⟨g4,a,c,rfl,ha4.mono (fun b hb=>by obtain⟨b1,b2⟩:=hb;simp at b1;exact⟨by omega,by simp;omega⟩),r4⟩
  ·have C5:=hid (b1_ hR3 (k:=6) (s:=c5_) (f3_ (by decide) hp))
   have hrt:r.tail.length+1=r.length:=by have:=d5_ hp;rw[List.length_tail];omega
   have E3:Hid (bC_ (n+1) l=(match bC_ n r.tail with|none=>none|some (b,r')=>some (j4_ t b,r'))):=hid (by rw[E.out,HT.out];simp only[hp,if_true]);clear k5 kt hR3 hp;go_wp2_with fail;refine C5.out.mono ?_;rintro e w4 ⟨rfl,hR4,hg4⟩;have k6:=K5.out.grown hg4 (fun e=>hBne (by injection e));have kt6:=KT.out.grown hg4 (fun e=>by have:=HS.out;injection e;omega);have G6:=hid (ac_ G5.out hg4);have hs4:w2.heap.size<w4.heap.size:=by have:=hg4.size;simp at this;omega
   have K6:=hid k6;have KT6:=hid kt6;have R4:=hid hR4;have H4:=hid hg4;clear k6 kt6 hR4 hg4;go_wp2_with fail;refine (IH.out.typ N B w4 r.tail R4.out (by have:=HS.out;omega) ROK.out.tail (by omega) (by omega)).mono ?_;rintro e w5 ⟨hg5,hres5⟩;have k7:=K6.out.grown hg5 (fun e=>hBne (by injection e));have kt7:=KT6.out.grown hg5 (fun e=>by have:=HS.out;injection e;omega);have G7:=hid (ac_ G6.out hg5);have hs5:=hg5.size;have K7:=hid k7;have KT7:=hid kt7;have H5:=hid hg5;clear k7 kt7 hg5;cases hT5:bC_ n r.tail with
   | none =>
    rw[hT5] at hres5;obtain⟨k5,s5,m5,a5,c5,c5',rfl⟩:=hres5;have E4:Hid (bC_ (n+1) l=none):=hid (by rw[E3.out,hT5]);clear hT5;have hz6:=aw_ w5 (.cells #[.int .i64 k5,.string s5,.int .i64 m5,.slice a5 c5 c5'] 37);have hz7:=hz6.alloc (by simp) (.cells #[.int .i64 t.kind,.string t.name,.int .i64 t.n,.slice a t.args.length c,.int .i64 k5,.string s5,.int .i64 m5,.slice a5 c5 c5'] 37);have kt8:=KT7.out.low hz6;have kb8:=B4.new w5 (.int .i64 k5) (.string s5) (.int .i64 m5) (.slice a5 c5 c5');have k8:=K7.out.low hz7;obtain⟨t0,t1,t2,t3⟩:=kt8.c03;obtain⟨b0,b1,b2,b3⟩:=kb8.c03;obtain⟨c0,c1,c2,c3⟩:=k8.c03;obtain⟨f0,f1,f2,f3⟩:=k8.f03;have K8:=hid k8;have G8:=hid (ac_ G7.out (ad_ hz7));have HZ7:=hid hz7;clear kt8 kb8 k8 hz6 hz7;go_wp2;have hsz:=HS.out;have q4:=K8.out.set4 (.int .i64 4) (.string ⟨#[]⟩) (.int .i64 0) (.slice (some ⟨w5.heap.size+1,0,none⟩) 2 2);have g4:=aq_ G8.out (aC_ _) (.int .i64 4) (.string ⟨#[]⟩) (.int .i64 0) (.slice (some ⟨w5.heap.size+1,0,none⟩) 2 2);refine bodyPost_ret (v:=.tuple #[.agg #[.int .i64 4,.string ⟨#[]⟩,.int .i64 0,.slice (some ⟨w5.heap.size+1,0,none⟩) 2 2],.bool false]) (by simp[results,Tryz.results92,go_sem,q4.c0,q4.c1,q4.c2,q4.c3]) rfl ?_;rw[E4.out];exact⟨g4,_,_,_,_,_,_,rfl⟩
   | some x =>
    obtain⟨b,r'⟩:=x;rw[hT5] at hres5;obtain⟨a5,c5,rfl,hB5,hR5⟩:=hres5;have E4:Hid (bC_ (n+1) l=some (j4_ t b,r')):=hid (by rw[E3.out,hT5]);have HB5:=hid hB5;have RR5:=hid hR5;clear hT5 hB5 hR5;unfold tv;have hz6:=aw_ w5 (.cells #[.int .i64 b.kind,.string b.name,.int .i64 b.n,.slice a5 b.args.length c5] 37);have hz7:=hz6.alloc (by simp) (.cells #[.int .i64 t.kind,.string t.name,.int .i64 t.n,.slice a t.args.length c,.int .i64 b.kind,.string b.name,.int .i64 b.n,.slice a5 b.args.length c5] 37);have kt8:=KT7.out.low hz6;have kb8:=B4.new w5 (.int .i64 b.kind) (.string b.name) (.int .i64 b.n) (.slice a5 b.args.length c5);have k8:=K7.out.low hz7;obtain⟨t0,t1,t2,t3⟩:=kt8.c03;obtain⟨b0,b1,b2,b3⟩:=kb8.c03;obtain⟨c0,c1,c2,c3⟩:=k8.c03;obtain⟨f0,f1,f2,f3⟩:=k8.f03;have K8:=hid k8;have G8:=hid (ac_ G7.out (ad_ hz7));have R8:=hid (RR5.out.low hz7);have hne:=K8.out.ne_rd R8.out;have HZ7:=hid hz7;clear kt8 kb8 k8 hz6 hz7;go_wp2;have hsz:=HS.out;have q4:=K8.out.set4 (.int .i64 4) (.string ⟨#[]⟩) (.int .i64 0) (.slice (some ⟨w5.heap.size+1,0,none⟩) 2 2);have g4:=aq_ G8.out (aC_ _) (.int .i64 4) (.string ⟨#[]⟩) (.int .i64 0) (.slice (some ⟨w5.heap.size+1,0,none⟩) 2 2);have r4:=R8.out.set4 (Ne.symm hne) hN (.int .i64 4) (.string ⟨#[]⟩) (.int .i64 0) (.slice (some ⟨w5.heap.size+1,0,none⟩) 2 2);have hfin:∀ q,w.heap.size<q→q<w5.heap.size→((((((w5.alloc (.cells #[.int .i64 b.kind,.string b.name,.int .i64 b.n,.slice a5 b.args.length c5] 37)).alloc (.cells #[.int .i64 t.kind,.string t.name,.int .i64 t.n,.slice a t.args.length c,.int .i64 b.kind,.string b.name,.int .i64 b.n,.slice a5 b.args.length c5] 37)).setCell ⟨w.heap.size,0,none⟩ (.int .i64 4)).setCell ⟨w.heap.size,1,none⟩ (.string ⟨#[]⟩)).setCell ⟨w.heap.size,2,none⟩ (.int .i64 0)).setCell ⟨w.heap.size,3,none⟩ (.slice (some ⟨w5.heap.size+1,0,none⟩) 2 2)).heap[q]? = w5.heap[q]? := fun q b1 b2=>by
     rw[aB_ _ _ _ _ (by simp;omega),aB_ _ _ _ _ (by simp;omega),aB_ _ _ _ _ (by simp;omega),aB_ _ _ _ _ (by simp;omega)];exact HZ7.out.block q b2
    have hnew:((((((w5.alloc (.cells #[.int .i64 b.kind,.string b.name,.int .i64 b.n,.slice a5 b.args.length c5] 37)).alloc (.cells #[.int .i64 t.kind,.string t.name,.int .i64 t.n,.slice a t.args.length c,.int .i64 b.kind,.string b.name,.int .i64 b.n,.slice a5 b.args.length c5] 37)).setCell ⟨w.heap.size,0,none⟩ (.int .i64 4)).setCell ⟨w.heap.size,1,none⟩ (.string ⟨#[]⟩)).setCell ⟨w.heap.size,2,none⟩ (.int .i64 0)).setCell ⟨w.heap.size,3,none⟩ (.slice (some ⟨w5.heap.size+1,0,none⟩) 2 2)).heap[w5.heap.size+1]? = some (.cells #[.int .i64 t.kind,.string t.name,.int .i64 t.n,.slice a t.args.length c,.int .i64 b.kind,.string b.name,.int .i64 b.n,.slice a5 b.args.length c5] 37 (0,0)):=by
     rw[aB_ _ _ _ _ (by simp;omega),aB_ _ _ _ _ (by simp;omega),aB_ _ _ _ _ (by simp;omega),aB_ _ _ _ _ (by simp;omega)];exact ah_ (by simp)
    have ha4:=HA.out.keep (B:=(((((w5.alloc (.cells #[.int .i64 b.kind,.string b.name,.int .i64 b.n,.slice a5 b.args.length c5] 37)).alloc (.cells #[.int .i64 t.kind,.string t.name,.int .i64 t.n,.slice a t.args.length c,.int .i64 b.kind,.string b.name,.int .i64 b.n,.slice a5 b.args.length c5] 37)).setCell ⟨w.heap.size,0,none⟩ (.int .i64 4)).setCell ⟨w.heap.size,1,none⟩ (.string ⟨#[]⟩)).setCell ⟨w.heap.size,2,none⟩ (.int .i64 0)).setCell ⟨w.heap.size,3,none⟩ (.slice (some ⟨w5.heap.size+1,0,none⟩) 2 2)) (fun b hb=>by
     obtain⟨b1,b2⟩:=hb;simp at b1;rw[hfin b (by omega) (by omega),H5.out.block b (by omega) (fun e=>by injection e;omega),H4.out.block b (by simp;omega) (fun e=>by injection e;omega)];exact HZ.out.block b b2)
    have hb4:=HB5.out.keep (B:=(((((w5.alloc (.cells #[.int .i64 b.kind,.string b.name,.int .i64 b.n,.slice a5 b.args.length c5] 37)).alloc (.cells #[.int .i64 t.kind,.string t.name,.int .i64 t.n,.slice a t.args.length c,.int .i64 b.kind,.string b.name,.int .i64 b.n,.slice a5 b.args.length c5] 37)).setCell ⟨w.heap.size,0,none⟩ (.int .i64 4)).setCell ⟨w.heap.size,1,none⟩ (.string ⟨#[]⟩)).setCell ⟨w.heap.size,2,none⟩ (.int .i64 0)).setCell ⟨w.heap.size,3,none⟩ (.slice (some ⟨w5.heap.size+1,0,none⟩) 2 2)) (fun b hb=>by
     obtain⟨b1,b2⟩:=hb;exact hfin b (by omega) b2)
    have hfs:((((((w5.alloc (.cells #[.int .i64 b.kind,.string b.name,.int .i64 b.n,.slice a5 b.args.length c5] 37)).alloc (.cells #[.int .i64 t.kind,.string t.name,.int .i64 t.n,.slice a t.args.length c,.int .i64 b.kind,.string b.name,.int .i64 b.n,.slice a5 b.args.length c5] 37)).setCell ⟨w.heap.size,0,none⟩ (.int .i64 4)).setCell ⟨w.heap.size,1,none⟩ (.string ⟨#[]⟩)).setCell ⟨w.heap.size,2,none⟩ (.int .i64 0)).setCell ⟨w.heap.size,3,none⟩ (.slice (some ⟨w5.heap.size+1,0,none⟩) 2 2)).heap.size=w5.heap.size+1+1:=(by simp);refine bodyPost_ret (v:=.tuple #[tv (j4_ t b) (some ⟨w5.heap.size+1,0,none⟩) 2,.bool true]) (by simp[results,Tryz.results92,go_sem,q4.c0,q4.c1,q4.c2,q4.c3];rfl) rfl ?_;rw[E4.out];refine⟨g4,_,_,rfl,?_,r4⟩;rw[hfs];refine pd_ hnew ⟨by omega,by omega⟩ (ha4.mono (fun b hb=>?_)) (hb4.mono (fun b hb=>?_))
    ·obtain⟨b1,b2⟩:=hb
     simp at b1;exact⟨by omega,by omega⟩
    ·obtain⟨b1,b2⟩:=hb
     exact⟨by omega,by omega⟩
theorem pX_ (n N B:Nat)(w:World)(l:List Tok)(ih:nV_ n)(h:Rd N B w l)(hN:N≤w.heap.size)(hok:c6_ l)(hl:l.length≤4000)(hn:4*l.length+4≤n+1):Calls Tryz.prog 92 #[.pointer (some ⟨B,0,none⟩)] w (cN_ N B w (bC_ (n+1) l)):=by
 cases h1:st l 3 fa
 ·exact pW_ n N B w l ih h hN hok hl hn h1
 ·exact pY_ n N B w l ih h hN hok hl hn h1
open Lx
def ft_ (l:List Tok):List (List UInt8):=(cI_ l).map (·.text)
def bw_ (acc:List (List UInt8)):List Value:=acc.map fun s=>.string (ab_ s)
theorem lQ_ {l:List Tok}(h:sk l 1=true):ft_ l=ae_ l :: ft_ l.tail∧cr_ l=cr_ l.tail:=by
 cases l with
 | nil=>simp[sk] at h
 | cons t l =>
  have h':(t.kind==1)=true:=by simpa [sk] using h
  refine⟨?_,?_⟩
  ·unfold ft_ cI_
   rw[List.takeWhile_cons,if_pos h'];rfl
  ·unfold cr_
   rw[List.dropWhile_cons,if_pos h'];rfl
theorem f8_ {l:List Tok}(h:sk l 1=false):ft_ l=[]∧cr_ l=l:=by
 cases l with
 | nil=>exact⟨rfl,rfl⟩
 | cons t l =>
  have h':¬ (t.kind==1)=true:=by simpa [sk] using h
  refine⟨?_,?_⟩
  ·unfold ft_ cI_
   rw[List.takeWhile_cons,if_neg h'];rfl
  ·unfold cr_
   rw[List.dropWhile_cons,if_neg h']
theorem rb_ (n:Nat)(l:List Tok):eJ_ (n+1) l=if !st (cr_ l) 6 dot || (ft_ l).isEmpty then none
  else match bC_ n (cr_ l).tail with
   | none=>none
   | some (t,r)=>some ((ft_ l).foldr eG_ t,r):=by
 rw[eJ_];have e1:(ft_ l).isEmpty=(cI_ l).isEmpty:=by unfold ft_;cases cI_ l<;>rfl
 have e2:∀ t,(ft_ l).foldr eG_ t=(cI_ l).foldr (fun v t=>eG_ v.text t) t:=fun t=>by unfold ft_;rw[List.foldr_map]
 rw[e1]
 split
 ·rfl
 ·cases bC_ n (cr_ l).tail with
  | none=>rfl
  | some x=>obtain⟨t,r⟩:=x;simp only[e2]
theorem fN_:(Tryz.prog.info? 9).map (fun i=>(i.zero,i.size,i.bytes))=some (some (.string ByteArray.empty),1,16):=by kernel_rfl
theorem fp_ {w:World}{g:Nat}{kd:Int}{nm:ByteArray}{nn:Int}{a:Ty}{sa:Value}{S:Nat→Prop}(h:w.heap[g]? = some (.cells #[.int .i64 kd,.string nm,.int .i64 nn,sa] 37 (0,0)))(e0:kd=a.kind)(e1:nm=a.name)(e2:nn=a.n)(hg:S g)(ha:aa_ S w sa a.args) :
  aa_ S w (.slice (some ⟨g,0,none⟩) 1 1) [a]:=by
 subst e0 e1 e2;refine .mk g 0 1 [a] (fun _=>sa) hg (by simp) (fun i hi=>?_) (fun i hi=>?_)
 ·have hi2:i=0:=by simp at hi;omega
  subst hi2;exact⟨cell_of_row w g 0 _ _ _ h,cell_of_row w g 1 _ _ _ h,cell_of_row w g 2 _ _ _ h,cell_of_row w g 3 _ _ _ h⟩
 ·have hi2:i=0:=by simp at hi;omega
  subst hi2;exact ha
theorem kq_ {w:World}{lo:Nat}{v:Value}{acc:List (List UInt8)}(h:w.ownsRow lo 9 1 v acc.length (bw_ acc))(h0:0<acc.length) :
  ∃ g cap,v=.slice (some ⟨g,0,none⟩) acc.length cap∧lo≤g∧g<w.heap.size∧∀ (i:Nat) (hi:i<acc.length),w.cell? ⟨g,i,none⟩=some (.string (ab_ acc[i])):=by
 rcases h.2 with ⟨rfl,e⟩|⟨g,cap,cur,rfl,hb,hg,h1,h2,h3,h4⟩
 ·omega
 ·refine⟨g,cap,rfl,hb,(Array.getElem?_eq_some_iff.1 hg).1,fun i hi=>?_⟩
  have hc:=h.cells (g:=g) rfl i (.string (ab_ acc[i])) (by unfold bw_;rw[List.getElem?_map,List.getElem?_eq_getElem hi];rfl);have hadd:∀ j,(⟨g,0,none⟩:Addr).add j=⟨g,j,none⟩:=fun j=>by unfold Addr.add;split<;>simp_all
  rw[hadd] at hc;exact hc
theorem ra_ (n N B:Nat)(w:World)(l:List Tok)(ih:nV_ n)(h:Rd N B w l)(hN:N≤w.heap.size)(hok:c6_ l)(hl:l.length≤4000)(hn:4*l.length+1≤n+1):Calls Tryz.prog 128 #[.pointer (some ⟨B,0,none⟩)] w (cN_ N B w (eJ_ (n+1) l)):=by
 have hz:=aw_ w (.cells #[.int .i64 0,.string ByteArray.empty,.int .i64 0,.slice none 0 0] 37);have R0:=hid (h.low hz);have b4:=hid (B4.new w (.int .i64 0) (.string ByteArray.empty) (.int .i64 0) (.slice none 0 0));have G0:=hid (ad_ (r:=some B) hz);have E:=hid (rb_ n l);have IH:=hid ih;have OK:=hid hok;have hBw:=h.lt;clear h hok ih hz;go_enter Tryz.func128,Tryz.ntmps128;go_wp2
 go_loopg [4] l.length (fun gk v wr=>∃ (l':List Tok) (acc:List (List UInt8)) (u:Value),u=v∧gk=l'.length∧Rd N B wr l'∧c6_ l'∧l'.length≤l.length∧ft_ l=acc++ft_ l'∧cr_ l=cr_ l' ∧
  wr.ownsRow (w.heap.size+1) 9 1 u acc.length (bw_ acc)∧B4 wr w.heap.size (.int .i64 0) (.string ByteArray.empty) (.int .i64 0) (.slice none 0 0)∧w.grownBy wr (some B)∧acc.length+l'.length≤4000∧w.heap.size+1≤wr.heap.size)
 case atStart=>exact⟨l,[],_,rfl,rfl,R0.out,OK.out,aC_ _,rfl,rfl,World.ownsRow_nil _ _ _ _,b4.out,G0.out,by simpa using hl,by simp⟩
 case round =>
  clear R0 b4 G0 OK;obtain⟨l',acc,v,rfl,rfl,hR,hTk,hll,hV,hRe,hO,kr,gw,hal,hsw⟩:=hrel;have hBr:B≠w.heap.size:=by omega
  have KR:=hid kr;have OW:=hid hO;have GW:=hid gw;have TK:=hid hTk;have HV:=hid hV;have HRe:=hid hRe;have hnr:v.ownBlock≠some w.heap.size:=fun e=>by have:=(hO.lt _ e).1;omega
  have hnB:some B≠v.ownBlock:=fun e=>by have:=(hO.lt _ e.symm).1;omega
  have HNR:=hid hnr;have HNB:=hid hnB;have HS:=hid hsw;cases h1:sk l' 1
  ·have V1:=hid (f8_ h1)
   have C1:=hid (bv_ hR (k:=1) (s:=[]) (ch_ h1));cases h6:st l' 6 dot
   ·have C6:=hid (bv_ hR (k:=6) (s:=dot) (f3_ (by decide) h6))
    have E2:Hid (eJ_ (n+1) l=none):=hid (by rw[E.out,hRe,(f8_ h1).2,h6];rfl);obtain⟨c0,c1,c2,c3⟩:=kr.c03;obtain⟨f0,f1,f2,f3⟩:=kr.f03;clear h1 h6 hR hTk hV hRe hO kr gw hnr hnB hsw;go_wp2_with fail;refine C1.out.mono ?_;rintro e w3 ⟨rfl,rfl⟩;go_wp2_with fail;refine C6.out.mono ?_;rintro e w3 ⟨rfl,rfl⟩;go_wp2;have q4:=KR.out.set4 (.int .i64 0) (.string ⟨#[]⟩) (.int .i64 0) (.slice none 0 0);have g4:=aq_ GW.out (aC_ _) (.int .i64 0) (.string ⟨#[]⟩) (.int .i64 0) (.slice none 0 0);refine bodyPost_ret (v:=.tuple #[zv,.bool false]) (by simp[results,Tryz.results128,go_sem,zv,q4.c0,q4.c1,q4.c2,q4.c3]) rfl ?_;rw[E2.out];exact⟨g4,_,_,_,_,_,_,rfl⟩
   ·have C6:=hid (b1_ hR (k:=6) (s:=dot) (f3_ (by decide) h6))
    have hl6:l'.tail.length+1=l'.length:=by have:=d5_ h6;rw[List.length_tail];omega
    have E1:Hid (eJ_ (n+1) l=if acc.isEmpty then none else match bC_ n l'.tail with|none=>none|some (t,r)=>some (acc.foldr eG_ t,r)):=hid (by rw[E.out,hRe,(f8_ h1).2,h6,hV,(f8_ h1).1,List.append_nil];rfl);clear h1 h6 hR hTk hV hRe hO kr gw hnr hnB hsw;go_wp2_with fail;refine C1.out.mono ?_;rintro e w3 ⟨rfl,rfl⟩;go_wp2_with fail;refine C6.out.mono ?_;rintro e w4 ⟨rfl,hR4,hg4⟩;have k4:=KR.out.grown hg4 (fun e=>hBr (by injection e));have ow4:=aF_ OW.out (w':=w4) (fun b hb=>hg4.block b (OW.out.lt b hb).2 (fun e=>HNB.out (by rw[hb];exact e.symm)));have R4:=hid hR4;have OW4:=hid ow4;have G4:=hid (ac_ GW.out hg4);have K4:=hid k4;have HS4:Hid (w.heap.size+1≤w4.heap.size):=hid (by have:=HS.out;have:=hg4.size;omega);obtain⟨va,vc,rfl⟩:=aG_ ow4
    by_cases h0:acc.length=0
    ·have hz0:((acc.length:Int)==0)=true:=by rw[beq_iff_eq];omega
     have E2:Hid (eJ_ (n+1) l=none):=hid (by rw[E1.out,List.eq_nil_of_length_eq_zero h0];rfl);obtain⟨c0,c1,c2,c3⟩:=k4.c03;obtain⟨f0,f1,f2,f3⟩:=k4.f03;clear h0 hR4 hg4 k4 ow4;go_wp2;have q4:=K4.out.set4 (.int .i64 0) (.string ⟨#[]⟩) (.int .i64 0) (.slice none 0 0);have g4:=aq_ G4.out (aC_ _) (.int .i64 0) (.string ⟨#[]⟩) (.int .i64 0) (.slice none 0 0);refine bodyPost_ret (v:=.tuple #[zv,.bool false]) (by simp[results,Tryz.results128,go_sem,zv,q4.c0,q4.c1,q4.c2,q4.c3]) rfl ?_;rw[E2.out];exact⟨g4,_,_,_,_,_,_,rfl⟩
    ·have hz0:((acc.length:Int)==0)=false:=by rw[beq_eq_false_iff_ne];omega
     have E2:Hid (eJ_ (n+1) l=match bC_ n l'.tail with|none=>none|some (t,r)=>some (acc.foldr eG_ t,r)):=hid (by rw[E1.out,if_neg (by cases acc<;>simp at h0 ⊢)]);have IT:=hid (IH.out.typ N B w4 l'.tail hR4 (by have:=HS4.out;omega) TK.out.tail (by omega) (by omega));clear hR4 hg4 k4 ow4;go_wp2_with fail;refine IT.out.mono ?_;rintro e w5 ⟨hg5,hres⟩;have k5:=K4.out.grown hg5 (fun e=>hBr (by injection e));have ow5:=aF_ OW4.out (w':=w5) (fun b hb=>hg5.block b (OW4.out.lt b hb).2 (fun e=>by have:=(OW4.out.lt b hb).1;injection e;omega));have HS5:Hid (w.heap.size+1≤w5.heap.size):=hid (by have:=HS4.out;have:=hg5.size;omega);have G5:=hid (ac_ G4.out hg5);have hB5:B<w5.heap.size:=(by have:=HS5.out;omega);have HB5:=hid hB5;have hs45:=hid hg5.size;clear hB5;cases hT:bC_ n l'.tail with
     | none =>
      rw[hT] at hres;obtain⟨k,s,m,a,c,c',rfl⟩:=hres;have E3:Hid (eJ_ (n+1) l=none):=hid (by rw[E2.out,hT]);have hz:=aw_ w5 (.cells #[.int .i64 k,.string s,.int .i64 m,.slice a c c'] 37);have KT:=hid (B4.new w5 (.int .i64 k) (.string s) (.int .i64 m) (.slice a c c'));have K6:=hid (k5.low hz);have OW6:=hid (aF_ ow5 (fun b hb=>hz.block b (ow5.lt b hb).2));have G6:=hid (ac_ G5.out (ad_ hz));clear hT k5 ow5 hz hg5;go_wp2
      go_loopg [11] acc.length (fun gk iv wr=>∃ (j:Nat) (kd:Int) (nm:ByteArray) (nn:Int) (a:OA_) (c p2:Nat),j=gk∧j≤acc.length∧iv=.int .i64 ((j:Int) - 1)∧B4 wr w5.heap.size (.int .i64 kd) (.string nm) (.int .i64 nn) (.slice a c p2)∧wr.ownsRow (w.heap.size+1) 9 1 (.slice va acc.length vc) acc.length (bw_ acc)∧B4 wr w.heap.size (.int .i64 0) (.string ByteArray.empty) (.int .i64 0) (.slice none 0 0)∧w.grownBy wr (some B)∧w5.heap.size+1≤wr.heap.size)
      case atStart=>exact⟨acc.length,_,_,_,_,_,_,rfl,aC_ _,rfl,KT.out,OW6.out,K6.out,G6.out,by simp⟩
      case round =>
       clear KT OW6 K6 G6;obtain⟨j,kd,nm,nn,a,c,p2,rfl,hj,rfl,kt,ow,kr,gw,hsw⟩:=hrel;have KT:=hid kt;have KR:=hid kr;have OWr:=hid ow;have GWr:=hid gw;have HSW:=hid hsw;obtain⟨c0,c1,c2,c3⟩:=kt.c03;obtain⟨f0,f1,f2,f3⟩:=kt.f03
       by_cases hj0:j=0
       ·subst hj0
        obtain⟨d0,d1,d2,d3⟩:=kr.c03;obtain⟨h0,h1,h2,h3⟩:=kr.f03;clear kt kr ow gw hsw;go_wp2;have q4:=KR.out.set4 (.int .i64 kd) (.string nm) (.int .i64 nn) (.slice a c p2);have g4:=aq_ GWr.out (aC_ _) (.int .i64 kd) (.string nm) (.int .i64 nn) (.slice a c p2);refine bodyPost_ret (v:=.tuple #[.agg #[.int .i64 kd,.string nm,.int .i64 nn,.slice a c p2],.bool false]) (by simp[results,Tryz.results128,go_sem,q4.c0,q4.c1,q4.c2,q4.c3]) rfl ?_;rw[E3.out];exact⟨g4,_,_,_,_,_,_,rfl⟩
       ·obtain⟨i,rfl⟩:∃ i,j=i+1:=⟨j - 1,by omega⟩
        obtain⟨g,cap,ev,hg1,hg2,hgc⟩:=kq_ ow (by omega);cases ev;have hi:i<acc.length:=(by omega);have cn:=hgc i hi;have ei:(((i+1:Nat):Int) - 1)=(i:Int):=(by omega);rw[ei];have z0:(0:Int)≤(i:Int):=(by omega);have z1:(i:Int)<(acc.length:Int):=(by omega);have HG2:=hid hg2;have hzr:=aw_ wr (.cells #[.int .i64 kd,.string nm,.int .i64 nn,.slice a c p2] 37);have ktz:=kt.low hzr;obtain⟨e0,e1,e2,e3⟩:=ktz.c03;obtain⟨y0,y1,y2,y3⟩:=ktz.f03;have cnz:=(hzr.cell (p:=⟨g,i,none⟩) hg2).trans cn;have HZR:=hid hzr;clear kt kr ow gw hsw hgc hg2 hzr ktz;go_wp2
        go_region
        go_wp2;have hsw:=HSW.out;have hs5:=HS5.out;have hb5:=HB5.out;have k4:=(KT.out.low HZR.out).set4 (.int .i64 5) (.string (ab_ acc[i])) (.int .i64 0) (.slice (some ⟨wr.heap.size,0,none⟩) 1 1);have g4:=ac_ (aq_ (ac_ GWr.out (ad_ HZR.out)) (b:=w5.heap.size) (by omega) (.int .i64 5) (.string (ab_ acc[i])) (.int .i64 0) (.slice (some ⟨wr.heap.size,0,none⟩) 1 1)) (ad_ ((Below.refl _ _).drew));have ow4:(((((wr.alloc (.cells #[.int .i64 kd,.string nm,.int .i64 nn,.slice a c p2] 37)).setCell ⟨w5.heap.size,0,none⟩ (.int .i64 5)).setCell ⟨w5.heap.size,1,none⟩ (.string (ab_ acc[i]))).setCell ⟨w5.heap.size,2,none⟩ (.int .i64 0)).setCell ⟨w5.heap.size,3,none⟩ (.slice (some ⟨wr.heap.size,0,none⟩) 1 1)).drew.ownsRow (w.heap.size+1) 9 1 (.slice (some ⟨g,0,none⟩) acc.length vc) acc.length (bw_ acc):=aF_ OWr.out (fun b hb=>by
         have hbt:b≠w5.heap.size:=(by have:=(OW4.out.lt b hb).2;have:=hs45.out;omega);show (((((wr.alloc (.cells #[.int .i64 kd,.string nm,.int .i64 nn,.slice a c p2] 37)).setCell ⟨w5.heap.size,0,none⟩ (.int .i64 5)).setCell ⟨w5.heap.size,1,none⟩ (.string (ab_ acc[i]))).setCell ⟨w5.heap.size,2,none⟩ (.int .i64 0)).setCell ⟨w5.heap.size,3,none⟩ (.slice (some ⟨wr.heap.size,0,none⟩) 1 1)).heap[b]? = _;rw[aB_ _ _ _ _ (by simpa using hbt),aB_ _ _ _ _ (by simpa using hbt),aB_ _ _ _ _ (by simpa using hbt),aB_ _ _ _ _ (by simpa using hbt)];exact HZR.out.block b (OWr.out.lt b hb).2)
        have kr4:B4 (((((wr.alloc (.cells #[.int .i64 kd,.string nm,.int .i64 nn,.slice a c p2] 37)).setCell ⟨w5.heap.size,0,none⟩ (.int .i64 5)).setCell ⟨w5.heap.size,1,none⟩ (.string (ab_ acc[i]))).setCell ⟨w5.heap.size,2,none⟩ (.int .i64 0)).setCell ⟨w5.heap.size,3,none⟩ (.slice (some ⟨wr.heap.size,0,none⟩) 1 1)).drew w.heap.size (.int .i64 0) (.string ByteArray.empty) (.int .i64 0) (.slice none 0 0):=by
         show (((((wr.alloc (.cells #[.int .i64 kd,.string nm,.int .i64 nn,.slice a c p2] 37)).setCell ⟨w5.heap.size,0,none⟩ (.int .i64 5)).setCell ⟨w5.heap.size,1,none⟩ (.string (ab_ acc[i]))).setCell ⟨w5.heap.size,2,none⟩ (.int .i64 0)).setCell ⟨w5.heap.size,3,none⟩ (.slice (some ⟨wr.heap.size,0,none⟩) 1 1)).heap[w.heap.size]? = _;rw[aB_ _ _ _ _ (by simp;omega),aB_ _ _ _ _ (by simp;omega),aB_ _ _ _ _ (by simp;omega),aB_ _ _ _ _ (by simp;omega)];exact KR.out.low HZR.out
        have hfs:(((((wr.alloc (.cells #[.int .i64 kd,.string nm,.int .i64 nn,.slice a c p2] 37)).setCell ⟨w5.heap.size,0,none⟩ (.int .i64 5)).setCell ⟨w5.heap.size,1,none⟩ (.string (ab_ acc[i]))).setCell ⟨w5.heap.size,2,none⟩ (.int .i64 0)).setCell ⟨w5.heap.size,3,none⟩ (.slice (some ⟨wr.heap.size,0,none⟩) 1 1)).drew.heap.size=wr.heap.size+1:=(by simp);go_roundg i
        case measure=>omega
        case rel=>exact⟨i,5,ab_ acc[i],0,some ⟨wr.heap.size,0,none⟩,1,1,rfl,by omega,rfl,k4,ow4,kr4,g4,by rw[hfs];omega⟩
     | some x =>
      obtain⟨t,r⟩:=x;rw[hT] at hres;obtain⟨a,c,rfl,hA,hR5⟩:=hres;have E3:Hid (eJ_ (n+1) l=some (acc.foldr eG_ t,r)):=hid (by rw[E2.out,hT]);unfold tv;have hz:=aw_ w5 (.cells #[.int .i64 t.kind,.string t.name,.int .i64 t.n,.slice a t.args.length c] 37);have KT:=hid (B4.new w5 (.int .i64 t.kind) (.string t.name) (.int .i64 t.n) (.slice a t.args.length c));have K6:=hid (k5.low hz);have OW6:=hid (aF_ ow5 (fun b hb=>hz.block b (ow5.lt b hb).2));have G6:=hid (ac_ G5.out (ad_ hz));have R6:=hid (hR5.low hz);have A6:=hid ((hA.keep fun b hb=>hz.block b hb.2).mono (S':=fun b=>w.heap.size+1≤b∧b<(w5.heap.size+1)∧b≠w5.heap.size) fun b hb=>by
       obtain⟨b1,b2⟩:=hb;have:=HS4.out;exact⟨by omega,by omega,by omega⟩)
      clear hT k5 ow5 hz hg5 hA hR5;go_wp2
      go_loopg [11] acc.length (fun gk iv wr=>∃ (j:Nat) (kd:Int) (nm:ByteArray) (nn:Int) (a:OA_) (c p2:Nat),j=gk∧j≤acc.length∧iv=.int .i64 ((j:Int) - 1)∧B4 wr w5.heap.size (.int .i64 kd) (.string nm) (.int .i64 nn) (.slice a c p2)∧wr.ownsRow (w.heap.size+1) 9 1 (.slice va acc.length vc) acc.length (bw_ acc)∧B4 wr w.heap.size (.int .i64 0) (.string ByteArray.empty) (.int .i64 0) (.slice none 0 0)∧w.grownBy wr (some B)∧w5.heap.size+1≤wr.heap.size∧Rd N B wr r∧∃ t':Ty,t'=(acc.drop j).foldr eG_ t∧kd=t'.kind∧nm=t'.name∧nn=t'.n∧c=t'.args.length∧aa_ (fun b=>w.heap.size+1≤b∧b<wr.heap.size∧b≠w5.heap.size) wr (.slice a c p2) t'.args)
      case atStart=>exact⟨acc.length,_,_,_,_,_,_,rfl,aC_ _,rfl,KT.out,OW6.out,K6.out,G6.out,by simp,R6.out,t,by simp,rfl,rfl,rfl,rfl,by simpa using A6.out⟩
      case round =>
       clear KT OW6 K6 G6 R6 A6;obtain⟨j,kd,nm,nn,a,c,p2,rfl,hj,rfl,kt,ow,kr,gw,hsw,hRr,t',ht',rfl,rfl,rfl,rfl,hA⟩:=hrel;have KT:=hid kt;have KR:=hid kr;have OWr:=hid ow;have GWr:=hid gw;have HSW:=hid hsw;have RR:=hid hRr;have AA:=hid hA;have HT:=hid ht';obtain⟨c0,c1,c2,c3⟩:=kt.c03;obtain⟨f0,f1,f2,f3⟩:=kt.f03
       by_cases hj0:j=0
       ·subst hj0
        obtain⟨d0,d1,d2,d3⟩:=kr.c03;obtain⟨h0,h1,h2,h3⟩:=kr.f03;clear kt kr ow gw hsw hRr hA ht';go_wp2;have q4:=KR.out.set4 (.int .i64 t'.kind) (.string t'.name) (.int .i64 t'.n) (.slice a t'.args.length p2);have g4:=aq_ GWr.out (aC_ _) (.int .i64 t'.kind) (.string t'.name) (.int .i64 t'.n) (.slice a t'.args.length p2);have r4:=RR.out.set4 hBr hN (.int .i64 t'.kind) (.string t'.name) (.int .i64 t'.n) (.slice a t'.args.length p2);have ha4:=AA.out.keep (B:=(((wr.setCell ⟨w.heap.size,0,none⟩ (.int .i64 t'.kind)).setCell ⟨w.heap.size,1,none⟩ (.string t'.name)).setCell ⟨w.heap.size,2,none⟩ (.int .i64 t'.n)).setCell ⟨w.heap.size,3,none⟩ (.slice a t'.args.length p2)) (fun b hb=>by
         obtain⟨b1,b2,b3⟩:=hb;rw[aB_ _ _ _ _ (by simp;omega),aB_ _ _ _ _ (by simp;omega),aB_ _ _ _ _ (by simp;omega),aB_ _ _ _ _ (by simp;omega)])
        refine bodyPost_ret (v:=.tuple #[tv t' a p2,.bool true]) (by simp[results,Tryz.results128,go_sem,tv,q4.c0,q4.c1,q4.c2,q4.c3]) rfl ?_;rw[E3.out,← List.drop_zero (l:=acc),← HT.out];exact⟨g4,a,p2,rfl,ha4.mono (fun b hb=>by obtain⟨b1,b2,b3⟩:=hb;exact⟨by omega,by simpa using b2⟩),r4⟩
       ·obtain⟨i,rfl⟩:∃ i,j=i+1:=⟨j - 1,by omega⟩
        obtain⟨g,cap,ev,hg1,hg2,hgc⟩:=kq_ ow (by omega);cases ev;have hi:i<acc.length:=(by omega);have cn:=hgc i hi;have ei:(((i+1:Nat):Int) - 1)=(i:Int):=(by omega);rw[ei];have z0:(0:Int)≤(i:Int):=(by omega);have z1:(i:Int)<(acc.length:Int):=(by omega);have HG2:=hid hg2;have hzr:=aw_ wr (.cells #[.int .i64 t'.kind,.string t'.name,.int .i64 t'.n,.slice a t'.args.length p2] 37);have ktz:=kt.low hzr;obtain⟨e0,e1,e2,e3⟩:=ktz.c03;obtain⟨y0,y1,y2,y3⟩:=ktz.f03;have cnz:=(hzr.cell (p:=⟨g,i,none⟩) hg2).trans cn;have HZR:=hid hzr;clear kt kr ow gw hsw hgc hg2 hzr ktz hRr hA ht';go_wp2
        go_region
        go_wp2;have hsw:=HSW.out;have hs5:=HS5.out;have hb5:=HB5.out;have k4:=(KT.out.low HZR.out).set4 (.int .i64 5) (.string (ab_ acc[i])) (.int .i64 0) (.slice (some ⟨wr.heap.size,0,none⟩) 1 1);have g4:=ac_ (aq_ (ac_ GWr.out (ad_ HZR.out)) (b:=w5.heap.size) (by omega) (.int .i64 5) (.string (ab_ acc[i])) (.int .i64 0) (.slice (some ⟨wr.heap.size,0,none⟩) 1 1)) (ad_ ((Below.refl _ _).drew));have ow4:(((((wr.alloc (.cells #[.int .i64 t'.kind,.string t'.name,.int .i64 t'.n,.slice a t'.args.length p2] 37)).setCell ⟨w5.heap.size,0,none⟩ (.int .i64 5)).setCell ⟨w5.heap.size,1,none⟩ (.string (ab_ acc[i]))).setCell ⟨w5.heap.size,2,none⟩ (.int .i64 0)).setCell ⟨w5.heap.size,3,none⟩ (.slice (some ⟨wr.heap.size,0,none⟩) 1 1)).drew.ownsRow (w.heap.size+1) 9 1 (.slice (some ⟨g,0,none⟩) acc.length vc) acc.length (bw_ acc):=aF_ OWr.out (fun b hb=>by
         have hbt:b≠w5.heap.size:=(by have:=(OW4.out.lt b hb).2;have:=hs45.out;omega);show (((((wr.alloc (.cells #[.int .i64 t'.kind,.string t'.name,.int .i64 t'.n,.slice a t'.args.length p2] 37)).setCell ⟨w5.heap.size,0,none⟩ (.int .i64 5)).setCell ⟨w5.heap.size,1,none⟩ (.string (ab_ acc[i]))).setCell ⟨w5.heap.size,2,none⟩ (.int .i64 0)).setCell ⟨w5.heap.size,3,none⟩ (.slice (some ⟨wr.heap.size,0,none⟩) 1 1)).heap[b]? = _;rw[aB_ _ _ _ _ (by simpa using hbt),aB_ _ _ _ _ (by simpa using hbt),aB_ _ _ _ _ (by simpa using hbt),aB_ _ _ _ _ (by simpa using hbt)];exact HZR.out.block b (OWr.out.lt b hb).2)
        have kr4:B4 (((((wr.alloc (.cells #[.int .i64 t'.kind,.string t'.name,.int .i64 t'.n,.slice a t'.args.length p2] 37)).setCell ⟨w5.heap.size,0,none⟩ (.int .i64 5)).setCell ⟨w5.heap.size,1,none⟩ (.string (ab_ acc[i]))).setCell ⟨w5.heap.size,2,none⟩ (.int .i64 0)).setCell ⟨w5.heap.size,3,none⟩ (.slice (some ⟨wr.heap.size,0,none⟩) 1 1)).drew w.heap.size (.int .i64 0) (.string ByteArray.empty) (.int .i64 0) (.slice none 0 0):=by
         show (((((wr.alloc (.cells #[.int .i64 t'.kind,.string t'.name,.int .i64 t'.n,.slice a t'.args.length p2] 37)).setCell ⟨w5.heap.size,0,none⟩ (.int .i64 5)).setCell ⟨w5.heap.size,1,none⟩ (.string (ab_ acc[i]))).setCell ⟨w5.heap.size,2,none⟩ (.int .i64 0)).setCell ⟨w5.heap.size,3,none⟩ (.slice (some ⟨wr.heap.size,0,none⟩) 1 1)).heap[w.heap.size]? = _;rw[aB_ _ _ _ _ (by simp;omega),aB_ _ _ _ _ (by simp;omega),aB_ _ _ _ _ (by simp;omega),aB_ _ _ _ _ (by simp;omega)];exact KR.out.low HZR.out
        have hfs:(((((wr.alloc (.cells #[.int .i64 t'.kind,.string t'.name,.int .i64 t'.n,.slice a t'.args.length p2] 37)).setCell ⟨w5.heap.size,0,none⟩ (.int .i64 5)).setCell ⟨w5.heap.size,1,none⟩ (.string (ab_ acc[i]))).setCell ⟨w5.heap.size,2,none⟩ (.int .i64 0)).setCell ⟨w5.heap.size,3,none⟩ (.slice (some ⟨wr.heap.size,0,none⟩) 1 1)).drew.heap.size=wr.heap.size+1:=(by simp);have r4:=((RR.out.low HZR.out).set4 (b:=w5.heap.size) (by omega) (by omega) (.int .i64 5) (.string (ab_ acc[i])) (.int .i64 0) (.slice (some ⟨wr.heap.size,0,none⟩) 1 1)).low ((Below.refl _ _).drew);have ha4:=AA.out.keep (B:=(((((wr.alloc (.cells #[.int .i64 t'.kind,.string t'.name,.int .i64 t'.n,.slice a t'.args.length p2] 37)).setCell ⟨w5.heap.size,0,none⟩ (.int .i64 5)).setCell ⟨w5.heap.size,1,none⟩ (.string (ab_ acc[i]))).setCell ⟨w5.heap.size,2,none⟩ (.int .i64 0)).setCell ⟨w5.heap.size,3,none⟩ (.slice (some ⟨wr.heap.size,0,none⟩) 1 1)).drew) (fun b hb=>by
         obtain⟨b1,b2,b3⟩:=hb;show (((((wr.alloc (.cells #[.int .i64 t'.kind,.string t'.name,.int .i64 t'.n,.slice a t'.args.length p2] 37)).setCell ⟨w5.heap.size,0,none⟩ (.int .i64 5)).setCell ⟨w5.heap.size,1,none⟩ (.string (ab_ acc[i]))).setCell ⟨w5.heap.size,2,none⟩ (.int .i64 0)).setCell ⟨w5.heap.size,3,none⟩ (.slice (some ⟨wr.heap.size,0,none⟩) 1 1)).heap[b]? = _;rw[aB_ _ _ _ _ (by simpa using b3),aB_ _ _ _ _ (by simpa using b3),aB_ _ _ _ _ (by simpa using b3),aB_ _ _ _ _ (by simpa using b3)];exact HZR.out.block b b2)
        have hnew:(((((wr.alloc (.cells #[.int .i64 t'.kind,.string t'.name,.int .i64 t'.n,.slice a t'.args.length p2] 37)).setCell ⟨w5.heap.size,0,none⟩ (.int .i64 5)).setCell ⟨w5.heap.size,1,none⟩ (.string (ab_ acc[i]))).setCell ⟨w5.heap.size,2,none⟩ (.int .i64 0)).setCell ⟨w5.heap.size,3,none⟩ (.slice (some ⟨wr.heap.size,0,none⟩) 1 1)).drew.heap[wr.heap.size]? = some (.cells #[.int .i64 t'.kind,.string t'.name,.int .i64 t'.n,.slice a t'.args.length p2] 37 (0,0)):=by
         show (((((wr.alloc (.cells #[.int .i64 t'.kind,.string t'.name,.int .i64 t'.n,.slice a t'.args.length p2] 37)).setCell ⟨w5.heap.size,0,none⟩ (.int .i64 5)).setCell ⟨w5.heap.size,1,none⟩ (.string (ab_ acc[i]))).setCell ⟨w5.heap.size,2,none⟩ (.int .i64 0)).setCell ⟨w5.heap.size,3,none⟩ (.slice (some ⟨wr.heap.size,0,none⟩) 1 1)).heap[wr.heap.size]? = _;rw[aB_ _ _ _ _ (by simp;omega),aB_ _ _ _ _ (by simp;omega),aB_ _ _ _ _ (by simp;omega),aB_ _ _ _ _ (by simp;omega)];exact heap_alloc_new wr _
        have hat:=fp_ (S:=fun b=>w.heap.size+1≤b∧b<(((((wr.alloc (.cells #[.int .i64 t'.kind,.string t'.name,.int .i64 t'.n,.slice a t'.args.length p2] 37)).setCell ⟨w5.heap.size,0,none⟩ (.int .i64 5)).setCell ⟨w5.heap.size,1,none⟩ (.string (ab_ acc[i]))).setCell ⟨w5.heap.size,2,none⟩ (.int .i64 0)).setCell ⟨w5.heap.size,3,none⟩ (.slice (some ⟨wr.heap.size,0,none⟩) 1 1)).drew.heap.size∧b≠w5.heap.size) hnew rfl rfl rfl (by rw[hfs];exact⟨by omega,by omega,by omega⟩) (ha4.mono fun b hb=>by rw[hfs];exact⟨hb.1,by have:=hb.2.1;omega,hb.2.2⟩);have hdr:(acc.drop i).foldr eG_ t=eG_ acc[i] t':=by rw[HT.out,List.drop_eq_getElem_cons hi];rfl
        go_roundg i
        case measure=>omega
        case rel=>exact⟨i,5,ab_ acc[i],0,some ⟨wr.heap.size,0,none⟩,1,1,rfl,by omega,rfl,k4,ow4,kr4,g4,by rw[hfs];omega,r4,eG_ acc[i] t',hdr.symm,rfl,rfl,rfl,rfl,hat⟩
  ·have V1:=hid (lQ_ h1)
   have C1:=hid (b1_ hR (k:=1) (s:=[]) (ch_ h1));have hl1:l'.tail.length+1=l'.length:=by have:=eP_ h1;rw[List.length_tail];omega
   clear h1 hR hTk hV hRe hO kr gw hnr hnB hsw;obtain⟨i0,hi0,hz0,hz1,hz3⟩:=info_parts fN_;go_wp2_with fail;refine C1.out.mono ?_;rintro e w3 ⟨rfl,hR3,hg3⟩;have hsz3:=hg3.size;have hz:=aw_ w3 (.cells #[.string (ab_ (ae_ l'))] 9);have k5:=(KR.out.grown hg3 (fun e=>hBr (by injection e))).low hz;have ow5:=aF_ (aF_ OW.out (w':=w3) (fun b hb=>hg3.block b (OW.out.lt b hb).2 (fun e=>HNB.out (by rw[hb];exact e.symm)))) (fun b hb=>hz.block b (by have:=(OW.out.lt b hb).2;omega));have K5:=hid k5;have OW5:=hid ow5;have G5:=hid (ac_ (ac_ GW.out hg3) (ad_ hz));have R5:=hid (hR3.low hz);have HS3:=hid hsz3;clear hR3 hg3 hz k5 ow5 hsz3;go_wp2_with (at_builtin;refine wpList_append_lies _ rfl _ _ _ rfl (w.heap.size+1) 9 i0 _ 1 16 Tryz.underlying89 hi0 hz0 hz1 hz3 rfl (by omega) v acc.length (bw_ acc) rfl OW5.out ⟨w3.heap.size,0,none⟩ 1 1 [.string (ab_ (ae_ l'))] rfl rfl (World.news_of_block (cs:=#[.string (ab_ (ae_ l'))]) (t:=9) (fr:=(0,0)) (heap_alloc_new w3 _)) (by simp[Value.oneCell']) (by omega) (by unfold maxLen;omega) (by omega) (by have:=HS.out;have:=HS3.out;simp;omega) (w3.heap.size+1) (by simp) ?_;intro gg cap w7 hown7 hgrow7 hat7 hlt7);have hsz7:=hgrow7.size;have KR7:=K5.out.grown hgrow7 (fun e=>HNR.out e);have R7:=R5.out.grown hgrow7 (fun e=>HNB.out e.symm) (fun b e hb=>by have:=(OW.out.lt _ e).1;omega);have G7:w.grownBy w7 (some B):=⟨hgrow7.os.trans G5.out.os,hgrow7.tape.trans G5.out.tape,hgrow7.output.trans G5.out.output,by have:=HS.out;have:=HS3.out;simp at hsz7;omega,fun k hk hr=>(hgrow7.block k (by have:=HS.out;have:=HS3.out;simp;omega) (fun e=>by have:=(OW.out.lt _ e.symm).1;omega)).trans (G5.out.block k hk hr)⟩;go_wp2;go_roundg l'.tail.length
   case measure=>omega
   case rel=>exact⟨l'.tail,acc++[ae_ l'],_,rfl,rfl,R7,TK.out.tail,by omega,by rw[HV.out,V1.out.1];simp,by rw[HRe.out,V1.out.2],by rw[List.length_append];unfold bw_ at *;rw[List.map_append];exact hown7,KR7,G7,by simp;omega,by have:=HS.out;have:=HS3.out;simp at hsz7;omega⟩
def kP_ (w:World)(e:Ending)(w':World):Prop:=∃ cap,e=.returned (.slice (some ⟨w.heap.size,0,none⟩) 0 cap)∧w'.ownsRow w.heap.size 9 1 (.slice (some ⟨w.heap.size,0,none⟩) 0 cap) 0 []∧Below w.heap.size w w'
theorem oZ_ (n:Nat)(h0:0<n)(hn:n≤4500000000000)(w:World):Calls Tryz.prog 117 #[.slice none 0 0,.int .i64 n] w (kP_ w):=by
 obtain⟨i0,hi0,hz0,hz1,hz3⟩:=info_parts fN_;have hrun:=fun ty=>Lib.run_append_grow_zeros (P:=Tryz.prog) w 89 3 ty 9 i0 _ .i64 .i64 Tryz.underlying89 Tryz.underlying3 hi0 hz0 none 0 0 [] (run_firstCells_none w.drew i0.size 0 0 0) n h0 (by omega) (by omega) (by omega) (by rw[hz3];omega) (by rw[Nat.zero_add];exact growslice_fits h0 (by rw[hz3];omega));simp only[Nat.zero_add] at hrun;have hcap:=grownCap_ge w n 0 9;have hcm:=grownCap_le_maxLen w n 0 9 (by unfold maxLen;omega);generalize grownCap w n 0 9=cap at *;have hz:(Builtin.zeroCells (Value.cells (.string ByteArray.empty)) n++Builtin.zeroCells (Value.cells (.string ByteArray.empty)) (cap - n)).size=cap*1:=by simp[Builtin.zeroCells,Value.cells];omega
 generalize Builtin.zeroCells (Value.cells (.string ByteArray.empty)) n=Z1 at *;generalize Builtin.zeroCells (Value.cells (.string ByteArray.empty)) (cap - n)=Z2 at *;have HP:Hid (kP_ w (.returned (.slice (some ⟨w.heap.size,0,none⟩) 0 cap)) (w.alloc (.cells (Z1++Z2) 9)).drew) :=
  hid ⟨cap,rfl,(World.ownsRow_made w _ cap (aC_ _) hcm hz).drew,(aw_ w _).drew⟩
 have hc63:cap≤9223372036854775807:=by unfold maxLen at hcm;exact hcm
 clear hz hcm;go_enter Tryz.func117,Tryz.ntmps117;go_wp2_with (at_builtin;refine Lib.wpList_append_run _ rfl _ _ _ _ rfl _ _ rfl rfl _ _ (hrun _) ?_)
 all_goals (go_ret;exact HP.out)
def fS_ (w:World)(l:List ByteArray)(e:Ending)(w':World):Prop:=∃ v,e=.returned v∧w'.ownsRow w.heap.size 9 1 v l.length (l.map Value.string)∧Below w.heap.size w w'
theorem i5_ (ls:List (List ByteArray))(i:Nat)(h:i<ls.length):(ls.take (i+1)).flatten=(ls.take i).flatten++ls[i]:=by
 rw[List.take_succ_eq_append_getElem h,List.flatten_append];simp
theorem fY_ (ls:List (List ByteArray))(i:Nat):(ls.take i).flatten.length≤ls.flatten.length:=by
 conv=>rhs;rw[← List.take_append_drop i ls,List.flatten_append,List.length_append]
 omega
theorem hD_ (S:Nat→Prop)(B off k:Nat)(vs:List Value)(ls:List (List ByteArray))(w:World)(hk:vs.length=k)(hk2:ls.length=k)(hk3:k≤4500000000000)(hc:∀ j (h:j<vs.length),w.cell? ⟨B,off+j,none⟩=some vs[j])(hB:B<w.heap.size)
  (hs:∀ j (h:j<vs.length) (h':j<ls.length),aJ_ S w vs[j] ls[j]) (hS:∀ b,S b→b<w.heap.size) (h0:0<ls.flatten.length) (hl:ls.flatten.length≤4500000000000) :
  Calls Tryz.prog 87 #[.slice (some ⟨B,off,none⟩) k k] w (fS_ w ls.flatten):=by
 have HC:=hid hc;have HS:=hid hs;have HSS:=hid hS;have HK:=hid hk;have HK2:=hid hk2;clear hc hs hS hk hk2;go_enter Tryz.func87,Tryz.ntmps87;go_wp2
 go_loopw [3,11] (fun sv iv wr=>∃ i:Nat,iv=.int .i64 i∧i≤k∧sv=.int .i64 (ls.take i).flatten.length∧wr=w) (fun _ iv _=>k - (intOf iv).toNat)
 case atStart=>exact⟨0,rfl,Nat.zero_le _,by simp,rfl⟩
 case round =>
  obtain⟨i,rfl,hi,rfl,rfl⟩:=hrel
  by_cases hlt:i<k
  ·have z1:(0:Int)≤(i:Int):=by omega
   have z2:(i:Int)<(k:Int):=(by omega);have ht:=i5_ ls i (by rw[HK2.out];exact hlt);have ht1:=fY_ ls (i+1);rw[ht,List.length_append] at ht1;have hcc:=HC.out i (by rw[HK.out];exact hlt);obtain⟨a,c,hv,h1,h2,h3,h4⟩:=HS.out i (by rw[HK.out];exact hlt) (by rw[HK2.out];exact hlt);rw[hv] at hcc;have E:Hid ((ls.take (i+1)).flatten.length=(ls.take i).flatten.length+(ls[i]'(by rw[HK2.out];exact hlt)).length):=hid (by rw[ht,List.length_append]);clear hv h1 h2 h3 h4 ht;generalize hq:(ls[i]'(by rw[HK2.out];exact hlt)).length=q at *;generalize (ls.take i).flatten.length=m at *;have HQ:=hid hq;clear hq;go_wp2;go_roundw
   case rel=>exact⟨i+1,by go_num,by omega,by rw[E.out];go_num,trivial⟩
   case measure=>simp[intOf];omega
  ·obtain rfl:i=k:=by omega
   have E:(ls.take i).flatten=ls.flatten:=by rw[List.take_of_length_le (by rw[HK2.out];exact aC_ _)]
   rw[E];have CG:=hid (oZ_ ls.flatten.length h0 hl wr);have EH:=hid E;clear E;generalize hfl:ls.flatten.length=n at *;have HFL:=hid hfl;clear hfl;go_wp2_with fail;refine CG.out.mono ?_;rintro e w1 ⟨cap,rfl,ho,hb⟩;have HO:=hid ho;have HBB:=hid hb;clear ho hb CG;obtain⟨wo,hwo⟩:∃ wo:World,wo=wr:=⟨_,rfl⟩;subst hwo;have hs1:wo.heap.size≤w1.heap.size:=HBB.out.size;obtain⟨i0,hi0,hz0,hz1,hz3⟩:=info_parts fN_;go_wp2
   go_loopw [6,27] (fun uv iv wr=>∃ j:Nat,iv=.int .i64 j∧j≤i∧wr.ownsRow wo.heap.size 9 1 uv (ls.take j).flatten.length ((ls.take j).flatten.map Value.string)∧Below wo.heap.size wo wr) (fun _ iv _=>i - (intOf iv).toNat)
   case atStart=>exact⟨0,rfl,Nat.zero_le _,by simpa using HO.out,HBB.out⟩
   case round =>
    clear HO HBB hs1;obtain⟨j,rfl,hj,hown,hB2⟩:=hrel;have hsw:=hB2.size
    by_cases hlt2:j<i
    ·have z1:(0:Int)≤(j:Int):=by omega
     have z2:(j:Int)<(i:Int):=(by omega);have ht:=i5_ ls j (by rw[HK2.out];exact hlt2);have ht1:=fY_ ls (j+1);rw[ht,List.length_append,HFL.out] at ht1;have hcc:=(hB2.cell (p:=⟨B,off+j,none⟩) hB).trans (HC.out j (by rw[HK.out];exact hlt2));obtain⟨a,c,hv,h1,h2,h3,h4⟩:=(HS.out j (by rw[HK.out];exact hlt2) (by rw[HK2.out];exact hlt2)).keep fun b hb=>hB2.block b (HSS.out b hb);rw[hv] at hcc;have E2:=hid ht;have HO:=hid hown;have HB2:=hid hB2;generalize hq:ls[j]'(by rw[HK2.out];exact hlt2)=q at *;clear hv ht hown hB2 hq;cases a with
     | none =>
      obtain rfl:=h3 rfl;have hq0:q=[]:=List.eq_nil_of_length_eq_zero (by omega);rw[hq0,List.append_nil] at E2;rw[show q.length=0 from by rw[hq0];rfl] at hcc;clear h1 h2 h3 h4 hq0;go_wp2_with (at_builtin;refine wpList_append_own_none rfl _ _ _ rfl wo.heap.size 9 i0 1 Tryz.underlying89 hi0 _ _ _ rfl HO.out rfl ?_);go_roundw
      case rel=>exact⟨j+1,by go_num,by omega,by rw[E2.out];exact HO.out,HB2.out⟩
      case measure=>simp[intOf];omega
     | some ad =>
      have hnews:∀ (o:Nat) (u:Value),(q.map Value.string)[o]? = some u→wr.cell? (ad.add o)=some u:=fun o u ho=>by
       rw[List.getElem?_map] at ho;cases hg:q[o]? with
       | none=>rw[hg] at ho;cases ho
       | some y =>
        rw[hg] at ho;simp only[Option.map_some,Option.some.injEq] at ho;subst ho
        rcases h4 with h4|⟨b,off2,e,hb,hcl⟩
        ·rw[h4] at hg;cases hg
        ·injection e with e
         subst e;obtain⟨hlo,hgl⟩:=List.getElem?_eq_some_iff.1 hg;have hadd:∀ j,(⟨b,off2,none⟩:Addr).add j=⟨b,off2+j,none⟩:=fun j=>by unfold Addr.add;split<;>simp_all
         rw[hadd,hcl o hlo,hgl]
      have HN:=hid hnews;clear h1 h2 h3 h4 hnews;go_wp2_with (at_builtin;refine wpList_append_own _ rfl _ _ _ rfl wo.heap.size 9 i0 _ 1 16 Tryz.underlying89 hi0 hz0 hz1 hz3 rfl (by decide) _ _ _ rfl HO.out ad q.length c (q.map Value.string) rfl (by simp) HN.out (by simp[Value.oneCell']) (by unfold maxLen;omega) (by omega) (by omega) ?_;intro v' w' hown' hgrow' _);have B3:=hid (HB2.out.grown hgrow' (by omega) fun b hb=>(HO.out.lt b hb).1);have O3:=hid hown';clear hown' hgrow';go_roundw
      case rel=>exact⟨j+1,by go_num,by omega,by rw[E2.out,List.length_append,List.map_append];exact O3.out,B3.out⟩
      case measure=>simp[intOf];omega
    ·obtain rfl:j=i:=by omega
     rw[EH.out] at hown;rw[HFL.out] at hown;have HO:=hid hown;have HB2:=hid hB2;clear hown hB2;go_wp2;go_ret;exact⟨_,rfl,by rw[HFL.out];exact HO.out,HB2.out⟩
end Go.Proofs.YtjecnionbjlncaaGreatDoor.Tp

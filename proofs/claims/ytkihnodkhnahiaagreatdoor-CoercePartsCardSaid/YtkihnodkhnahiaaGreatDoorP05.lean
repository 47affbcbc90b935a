/- Texts laid together: TyTyp, TyAll. -/
import Derived.Test.YtkihnodkhnahiaaGreatDoorP04

namespace Go.Proofs.YtkihnodkhnahiaaGreatDoor.Tp
open Go.RowKit
open Lx
theorem typ_all (n N B:Nat)(w:World)(l:List Tok)(ih:Said n)(h:Rd N B w l)(hN:N≤w.heap.size)(hok:TokOk l)(hl:l.length≤4000)(hn:4*l.length+4≤n+1)(h1:st l 3 fa=true):Calls Tryz.prog 63 #[.pointer (some ⟨B,0,none⟩)] w (RdPost N B w (typF (n+1) l)):=by
 have hz:=(Below.refl w.heap.size w).alloc (Nat.le_refl _) (.cells #[.int .i64 0,.string ByteArray.empty,.int .i64 0,.slice none 0 0] 30)
 have hr:=h.low hz
 have C1:=hid (takes_yes hr (k:=3) (s:=fa) (sees1 (by decide) h1))
 have b4:=hid (B4.new w (.int .i64 0) (.string ByteArray.empty) (.int .i64 0) (.slice none 0 0))
 have HR:=hid hr
 have htl:l.tail.length+1=l.length:=by have:=st_ne h1;rw[List.length_tail];omega
 have CA:=hid (fun w1 (hr1:Rd N B w1 l.tail) (hN1:N≤w1.heap.size)=>ih.all N B w1 l.tail hr1 hN1 hok.tail (by omega) (by omega))
 have e:typF (n+1) l=allF n l.tail:=by rw[typF,if_pos h1]
 have E:=hid e
 clear h hr h1 e hok ih hz
 go_enter Tryz.func63,Tryz.ntmps63
 go_wp2_with fail
 refine C1.out.mono ?_
 rintro e w1 ⟨rfl,hrd,hg1⟩
 have k3:=b4.out.grown hg1 (fun e=>b4.out.ne_rd HR.out (by injection e with e;exact e.symm))
 have K3:=hid k3
 have RD:=hid hrd
 have hs1:w.heap.size<w1.heap.size:=by have:=hg1.size;simp at this;omega
 have G1:=hid (grown_trans (grown_below ((Below.refl w.heap.size w).alloc (Nat.le_refl _) (.cells #[.int .i64 0,.string ByteArray.empty,.int .i64 0,.slice none 0 0] 30))) hg1)
 clear k3 hrd hg1
 go_wp2_with fail
 refine (CA.out w1 RD.out (by omega)).mono ?_
 rintro e w2 ⟨hg,hres⟩
 have k4:=K3.out.grown hg (fun e=>K3.out.ne_rd RD.out (by injection e with e;exact e.symm))
 have c0:=k4.c0
 have c1:=k4.c1
 have c2:=k4.c2
 have c3:=k4.c3
 have f0:=k4.fr 0
 have f1:=k4.fr 1
 have f2:=k4.fr 2
 have f3:=k4.fr 3
 have K4:=hid k4
 have G:=hid (grown_trans G1.out hg)
 have hsz:=hg.size
 have hBlt:=RD.out.lt
 clear k4 hg
 cases hT:allF n l.tail with
 | none =>
  rw[hT] at hres
  obtain⟨k,s,m,a,c,c',rfl⟩:=hres
  have E2:Hid (typF (n+1) l=none):=hid (E.out.trans hT)
  clear hT
  go_wp2
  have q4:=K4.out.set4 (.int .i64 k) (.string s) (.int .i64 m) (.slice a c c')
  have g4:=grown_set4 G.out (Nat.le_refl _) (.int .i64 k) (.string s) (.int .i64 m) (.slice a c c')
  refine bodyPost_ret (v:=.tuple #[.agg #[.int .i64 k,.string s,.int .i64 m,.slice a c c'],.bool false]) (by simp[results,Tryz.results63,go_sem,q4.c0,q4.c1,q4.c2,q4.c3]) rfl ?_
  rw[E2.out]
  exact⟨g4,_,_,_,_,_,_,rfl⟩
 | some x =>
  obtain⟨t,r⟩:=x
  rw[hT] at hres
  obtain⟨a,c,rfl,hA,hR⟩:=hres
  have E2:Hid (typF (n+1) l=some (t,r)):=hid (E.out.trans hT)
  have HA:=hid hA
  have RR:=hid hR
  have hne:=K4.out.ne_rd hR
  clear hT hA hR
  unfold tv
  go_wp2
  have q4:=K4.out.set4 (.int .i64 t.kind) (.string t.name) (.int .i64 t.n) (.slice a t.args.length c)
  have g4:=grown_set4 G.out (Nat.le_refl _) (.int .i64 t.kind) (.string t.name) (.int .i64 t.n) (.slice a t.args.length c)
  have r4:=RR.out.set4 (Ne.symm hne) hN (.int .i64 t.kind) (.string t.name) (.int .i64 t.n) (.slice a t.args.length c)
  have ha4:=HA.out.keep (B:=(((w2.setCell ⟨w.heap.size,0,none⟩ (.int .i64 t.kind)).setCell ⟨w.heap.size,1,none⟩ (.string t.name)).setCell ⟨w.heap.size,2,none⟩ (.int .i64 t.n)).setCell ⟨w.heap.size,3,none⟩ (.slice a t.args.length c)) (fun b hb=>by
   obtain⟨b1,b2⟩:=hb
   rw[Below.heap_setCell _ _ _ _ (by simp;omega),Below.heap_setCell _ _ _ _ (by simp;omega),Below.heap_setCell _ _ _ _ (by simp;omega),Below.heap_setCell _ _ _ _ (by simp;omega)])
  refine bodyPost_ret (v:=.tuple #[tv t a c,.bool true]) (by simp[results,Tryz.results63,go_sem,tv,q4.c0,q4.c1,q4.c2,q4.c3]) rfl ?_
  rw[E2.out]
  exact⟨g4,a,c,rfl,ha4.mono (fun b hb=>by obtain⟨b1,b2⟩:=hb;exact⟨by omega,by simpa using b2⟩),r4⟩
theorem args_two {w:World}{g:Nat}{a b:Ty}{sa sb:Value}{S:Nat→Prop}(h:w.heap[g]? = some (.cells #[.int .i64 a.kind,.string a.name,.int .i64 a.n,sa,.int .i64 b.kind,.string b.name,.int .i64 b.n,sb] 30 (0,0)))(hg:S g)(ha:ArgsAt S w sa a.args)(hb:ArgsAt S w sb b.args) :
  ArgsAt S w (.slice (some ⟨g,0,none⟩) 2 2) [a,b]:=by
 refine .mk g 0 2 [a,b] (fun i=>if i=0 then sa else sb) hg (by simp) (fun i hi=>?_) (fun i hi=>?_)
 ·have hi2:i=0∨i=1:=by simp at hi;omega
  rcases hi2 with rfl|rfl
  ·exact⟨cell_of_row w g 0 _ _ _ h,cell_of_row w g 1 _ _ _ h,cell_of_row w g 2 _ _ _ h,cell_of_row w g 3 _ _ _ h⟩
  ·exact⟨cell_of_row w g 4 _ _ _ h,cell_of_row w g 5 _ _ _ h,cell_of_row w g 6 _ _ _ h,cell_of_row w g 7 _ _ _ h⟩
 ·have hi2:i=0∨i=1:=by simp at hi;omega
  rcases hi2 with rfl|rfl
  ·exact ha
  ·exact hb
set_option maxHeartbeats 3200000 in
theorem typ_app (n N B:Nat)(w:World)(l:List Tok)(ih:Said n)(h:Rd N B w l)(hN:N≤w.heap.size)(hok:TokOk l)(hl:l.length≤4000)(hn:4*l.length+4≤n+1)(h1:st l 3 fa=false):Calls Tryz.prog 63 #[.pointer (some ⟨B,0,none⟩)] w (RdPost N B w (typF (n+1) l)):=by
 have hz:=(Below.refl w.heap.size w).alloc (Nat.le_refl _) (.cells #[.int .i64 0,.string ByteArray.empty,.int .i64 0,.slice none 0 0] 30)
 have hr:=h.low hz
 have C1:=hid (takes_no hr (k:=3) (s:=fa) (sees1 (by decide) h1))
 have b4:=hid (B4.new w (.int .i64 0) (.string ByteArray.empty) (.int .i64 0) (.slice none 0 0))
 have HR:=hid hr
 have CA:=hid (ih.app N B _ l hr (by simp;omega) hok hl (by omega))
 have e:typF (n+1) l=(match appF n l with|none=>none|some (a,r)=>if st r 6 arrow then (match typF n r.tail with|none=>none|some (b,r')=>some (tFun a b,r')) else some (a,r)):=by rw[typF,h1,if_neg (by simp)];rfl
 have E:=hid e
 have IH:=hid ih
 have OK:=hid hok
 have hBw:=h.lt
 clear h hr h1 e hok ih hz
 go_enter Tryz.func63,Tryz.ntmps63
 go_wp2_with fail
 refine C1.out.mono ?_
 rintro e w1 ⟨rfl,rfl⟩
 go_wp2_with fail
 refine CA.out.mono ?_
 rintro e w2 ⟨hg,hres⟩
 have k4:=b4.out.grown hg (fun e=>b4.out.ne_rd HR.out (by injection e with e;exact e.symm))
 have K4:=hid k4
 have G:=hid (grown_trans (grown_below ((Below.refl w.heap.size w).alloc (Nat.le_refl _) (.cells #[.int .i64 0,.string ByteArray.empty,.int .i64 0,.slice none 0 0] 30))) hg)
 have hsz:w.heap.size<w2.heap.size:=by have:=hg.size;simp at this;omega
 have hBne:B≠w.heap.size:=by omega
 have HS:=hid hsz
 clear k4 hg hsz
 cases hT:appF n l with
 | none =>
  rw[hT] at hres
  obtain⟨k,s,m,a,c,c',rfl⟩:=hres
  have E2:Hid (typF (n+1) l=none):=hid (by rw[E.out,hT])
  have hz:=(Below.refl w2.heap.size w2).alloc (Nat.le_refl _) (.cells #[.int .i64 k,.string s,.int .i64 m,.slice a c c'] 30)
  have k5:=K4.out.low hz
  have c0:=k5.c0
  have c1:=k5.c1
  have c2:=k5.c2
  have c3:=k5.c3
  have f0:=k5.fr 0
  have f1:=k5.fr 1
  have f2:=k5.fr 2
  have f3:=k5.fr 3
  have K5:=hid k5
  have G5:=hid (grown_trans G.out (grown_below hz))
  clear hT k5 hz
  go_wp2
  have hsz:=HS.out
  have q4:=K5.out.set4 (.int .i64 0) (.string ⟨#[]⟩) (.int .i64 0) (.slice none 0 0)
  have g4:=grown_set4 G5.out (Nat.le_refl _) (.int .i64 0) (.string ⟨#[]⟩) (.int .i64 0) (.slice none 0 0)
  refine bodyPost_ret (v:=.tuple #[zv,.bool false]) (by simp[results,Tryz.results63,go_sem,zv,q4.c0,q4.c1,q4.c2,q4.c3]) rfl ?_
  rw[E2.out]
  exact⟨g4,_,_,_,_,_,_,rfl⟩
 | some x =>
  obtain⟨t,r⟩:=x
  rw[hT] at hres
  obtain⟨a,c,rfl,hA,hR⟩:=hres
  have hsh:=(shorter n).2.2.1 _ _ _ hT
  have hrok:TokOk r:=fun t ht=>OK.out t ((tok_of_typ n).2.2.1 _ _ _ hT t ht)
  have hz:=(Below.refl w2.heap.size w2).alloc (Nat.le_refl _) (.cells #[.int .i64 t.kind,.string t.name,.int .i64 t.n,.slice a t.args.length c] 30)
  have k5:=K4.out.low hz
  have kt:=B4.new w2 (.int .i64 t.kind) (.string t.name) (.int .i64 t.n) (.slice a t.args.length c)
  have hR3:=hR.low hz
  have G5:=hid (grown_trans G.out (grown_below hz))
  have HA:=hid hA
  have HT:=hid hT
  have ROK:=hid hrok
  have R3:=hid hR3
  have K5:=hid k5
  have KT:=hid kt
  have HZ:=hid hz
  clear hA hT hR hz hrok
  unfold tv
  cases hp:st r 6 arrow
  ·have E2:Hid (typF (n+1) l=some (t,r)):=hid (by rw[E.out,HT.out];simp[hp])
   have C5:=hid (takes_no hR3 (k:=6) (s:=arrow) (sees1 (by decide) hp))
   have c0:=k5.c0
   have c1:=k5.c1
   have c2:=k5.c2
   have c3:=k5.c3
   have f0:=k5.fr 0
   have f1:=k5.fr 1
   have f2:=k5.fr 2
   have f3:=k5.fr 3
   have t0:=kt.c0
   have t1:=kt.c1
   have t2:=kt.c2
   have t3:=kt.c3
   have hne:=k5.ne_rd hR3
   clear k5 kt hR3 hp
   go_wp2_with fail
   refine C5.out.mono ?_
   rintro e w4 ⟨rfl,rfl⟩
   go_wp2
   have hsz:=HS.out
   have q4:=K5.out.set4 (.int .i64 t.kind) (.string t.name) (.int .i64 t.n) (.slice a t.args.length c)
   have g4:=grown_set4 G5.out (Nat.le_refl _) (.int .i64 t.kind) (.string t.name) (.int .i64 t.n) (.slice a t.args.length c)
   have r4:=R3.out.set4 (Ne.symm hne) hN (.int .i64 t.kind) (.string t.name) (.int .i64 t.n) (.slice a t.args.length c)
   have ha4:=HA.out.keep (B:=((((w2.alloc (.cells #[.int .i64 t.kind,.string t.name,.int .i64 t.n,.slice a t.args.length c] 30)).setCell ⟨w.heap.size,0,none⟩ (.int .i64 t.kind)).setCell ⟨w.heap.size,1,none⟩ (.string t.name)).setCell ⟨w.heap.size,2,none⟩ (.int .i64 t.n)).setCell ⟨w.heap.size,3,none⟩ (.slice a t.args.length c)) (fun b hb=>by
    obtain⟨b1,b2⟩:=hb
    simp at b1
    rw[Below.heap_setCell _ _ _ _ (by simp;omega),Below.heap_setCell _ _ _ _ (by simp;omega),Below.heap_setCell _ _ _ _ (by simp;omega),Below.heap_setCell _ _ _ _ (by simp;omega)]
    exact HZ.out.block b b2)
   refine bodyPost_ret (v:=.tuple #[tv t a c,.bool true]) (by simp[results,Tryz.results63,go_sem,tv,q4.c0,q4.c1,q4.c2,q4.c3]) rfl ?_
   rw[E2.out]
   exact⟨g4,a,c,rfl,ha4.mono (fun b hb=>by obtain⟨b1,b2⟩:=hb;simp at b1;exact⟨by omega,by simp;omega⟩),r4⟩
  ·have C5:=hid (takes_yes hR3 (k:=6) (s:=arrow) (sees1 (by decide) hp))
   have hrt:r.tail.length+1=r.length:=by have:=st_ne hp;rw[List.length_tail];omega
   have E3:Hid (typF (n+1) l=(match typF n r.tail with|none=>none|some (b,r')=>some (tFun t b,r'))):=hid (by rw[E.out,HT.out];simp only[hp,if_true])
   clear k5 kt hR3 hp
   go_wp2_with fail
   refine C5.out.mono ?_
   rintro e w4 ⟨rfl,hR4,hg4⟩
   have k6:=K5.out.grown hg4 (fun e=>hBne (by injection e))
   have kt6:=KT.out.grown hg4 (fun e=>by have:=HS.out;injection e;omega)
   have G6:=hid (grown_trans G5.out hg4)
   have hs4:w2.heap.size<w4.heap.size:=by have:=hg4.size;simp at this;omega
   have K6:=hid k6
   have KT6:=hid kt6
   have R4:=hid hR4
   have H4:=hid hg4
   clear k6 kt6 hR4 hg4
   go_wp2_with fail
   refine (IH.out.typ N B w4 r.tail R4.out (by have:=HS.out;omega) ROK.out.tail (by omega) (by omega)).mono ?_
   rintro e w5 ⟨hg5,hres5⟩
   have k7:=K6.out.grown hg5 (fun e=>hBne (by injection e))
   have kt7:=KT6.out.grown hg5 (fun e=>by have:=HS.out;injection e;omega)
   have G7:=hid (grown_trans G6.out hg5)
   have hs5:=hg5.size
   have K7:=hid k7
   have KT7:=hid kt7
   have H5:=hid hg5
   clear k7 kt7 hg5
   cases hT5:typF n r.tail with
   | none =>
    rw[hT5] at hres5
    obtain⟨k5,s5,m5,a5,c5,c5',rfl⟩:=hres5
    have E4:Hid (typF (n+1) l=none):=hid (by rw[E3.out,hT5])
    clear hT5
    have hz6:=(Below.refl w5.heap.size w5).alloc (Nat.le_refl _) (.cells #[.int .i64 k5,.string s5,.int .i64 m5,.slice a5 c5 c5'] 30)
    have hz7:=hz6.alloc (by simp) (.cells #[.int .i64 t.kind,.string t.name,.int .i64 t.n,.slice a t.args.length c,.int .i64 k5,.string s5,.int .i64 m5,.slice a5 c5 c5'] 30)
    have kt8:=KT7.out.low hz6
    have kb8:=B4.new w5 (.int .i64 k5) (.string s5) (.int .i64 m5) (.slice a5 c5 c5')
    have k8:=K7.out.low hz7
    have t0:=kt8.c0
    have t1:=kt8.c1
    have t2:=kt8.c2
    have t3:=kt8.c3
    have b0:=kb8.c0
    have b1:=kb8.c1
    have b2:=kb8.c2
    have b3:=kb8.c3
    have c0:=k8.c0
    have c1:=k8.c1
    have c2:=k8.c2
    have c3:=k8.c3
    have f0:=k8.fr 0
    have f1:=k8.fr 1
    have f2:=k8.fr 2
    have f3:=k8.fr 3
    have K8:=hid k8
    have G8:=hid (grown_trans G7.out (grown_below hz7))
    have HZ7:=hid hz7
    clear kt8 kb8 k8 hz6 hz7
    go_wp2
    have hsz:=HS.out
    have q4:=K8.out.set4 (.int .i64 4) (.string ⟨#[]⟩) (.int .i64 0) (.slice (some ⟨w5.heap.size+1,0,none⟩) 2 2)
    have g4:=grown_set4 G8.out (Nat.le_refl _) (.int .i64 4) (.string ⟨#[]⟩) (.int .i64 0) (.slice (some ⟨w5.heap.size+1,0,none⟩) 2 2)
    refine bodyPost_ret (v:=.tuple #[.agg #[.int .i64 4,.string ⟨#[]⟩,.int .i64 0,.slice (some ⟨w5.heap.size+1,0,none⟩) 2 2],.bool false]) (by simp[results,Tryz.results63,go_sem,q4.c0,q4.c1,q4.c2,q4.c3]) rfl ?_
    rw[E4.out]
    exact⟨g4,_,_,_,_,_,_,rfl⟩
   | some x =>
    obtain⟨b,r'⟩:=x
    rw[hT5] at hres5
    obtain⟨a5,c5,rfl,hB5,hR5⟩:=hres5
    have E4:Hid (typF (n+1) l=some (tFun t b,r')):=hid (by rw[E3.out,hT5])
    have HB5:=hid hB5
    have RR5:=hid hR5
    clear hT5 hB5 hR5
    unfold tv
    have hz6:=(Below.refl w5.heap.size w5).alloc (Nat.le_refl _) (.cells #[.int .i64 b.kind,.string b.name,.int .i64 b.n,.slice a5 b.args.length c5] 30)
    have hz7:=hz6.alloc (by simp) (.cells #[.int .i64 t.kind,.string t.name,.int .i64 t.n,.slice a t.args.length c,.int .i64 b.kind,.string b.name,.int .i64 b.n,.slice a5 b.args.length c5] 30)
    have kt8:=KT7.out.low hz6
    have kb8:=B4.new w5 (.int .i64 b.kind) (.string b.name) (.int .i64 b.n) (.slice a5 b.args.length c5)
    have k8:=K7.out.low hz7
    have t0:=kt8.c0
    have t1:=kt8.c1
    have t2:=kt8.c2
    have t3:=kt8.c3
    have b0:=kb8.c0
    have b1:=kb8.c1
    have b2:=kb8.c2
    have b3:=kb8.c3
    have c0:=k8.c0
    have c1:=k8.c1
    have c2:=k8.c2
    have c3:=k8.c3
    have f0:=k8.fr 0
    have f1:=k8.fr 1
    have f2:=k8.fr 2
    have f3:=k8.fr 3
    have K8:=hid k8
    have G8:=hid (grown_trans G7.out (grown_below hz7))
    have R8:=hid (RR5.out.low hz7)
    have hne:=K8.out.ne_rd R8.out
    have HZ7:=hid hz7
    clear kt8 kb8 k8 hz6 hz7
    go_wp2
    have hsz:=HS.out
    have q4:=K8.out.set4 (.int .i64 4) (.string ⟨#[]⟩) (.int .i64 0) (.slice (some ⟨w5.heap.size+1,0,none⟩) 2 2)
    have g4:=grown_set4 G8.out (Nat.le_refl _) (.int .i64 4) (.string ⟨#[]⟩) (.int .i64 0) (.slice (some ⟨w5.heap.size+1,0,none⟩) 2 2)
    have r4:=R8.out.set4 (Ne.symm hne) hN (.int .i64 4) (.string ⟨#[]⟩) (.int .i64 0) (.slice (some ⟨w5.heap.size+1,0,none⟩) 2 2)
    have hfin:∀ q,w.heap.size<q→q<w5.heap.size→((((((w5.alloc (.cells #[.int .i64 b.kind,.string b.name,.int .i64 b.n,.slice a5 b.args.length c5] 30)).alloc (.cells #[.int .i64 t.kind,.string t.name,.int .i64 t.n,.slice a t.args.length c,.int .i64 b.kind,.string b.name,.int .i64 b.n,.slice a5 b.args.length c5] 30)).setCell ⟨w.heap.size,0,none⟩ (.int .i64 4)).setCell ⟨w.heap.size,1,none⟩ (.string ⟨#[]⟩)).setCell ⟨w.heap.size,2,none⟩ (.int .i64 0)).setCell ⟨w.heap.size,3,none⟩ (.slice (some ⟨w5.heap.size+1,0,none⟩) 2 2)).heap[q]? = w5.heap[q]? := fun q b1 b2=>by
     rw[Below.heap_setCell _ _ _ _ (by simp;omega),Below.heap_setCell _ _ _ _ (by simp;omega),Below.heap_setCell _ _ _ _ (by simp;omega),Below.heap_setCell _ _ _ _ (by simp;omega)]
     exact HZ7.out.block q b2
    have hnew:((((((w5.alloc (.cells #[.int .i64 b.kind,.string b.name,.int .i64 b.n,.slice a5 b.args.length c5] 30)).alloc (.cells #[.int .i64 t.kind,.string t.name,.int .i64 t.n,.slice a t.args.length c,.int .i64 b.kind,.string b.name,.int .i64 b.n,.slice a5 b.args.length c5] 30)).setCell ⟨w.heap.size,0,none⟩ (.int .i64 4)).setCell ⟨w.heap.size,1,none⟩ (.string ⟨#[]⟩)).setCell ⟨w.heap.size,2,none⟩ (.int .i64 0)).setCell ⟨w.heap.size,3,none⟩ (.slice (some ⟨w5.heap.size+1,0,none⟩) 2 2)).heap[w5.heap.size+1]? = some (.cells #[.int .i64 t.kind,.string t.name,.int .i64 t.n,.slice a t.args.length c,.int .i64 b.kind,.string b.name,.int .i64 b.n,.slice a5 b.args.length c5] 30 (0,0)):=by
     rw[Below.heap_setCell _ _ _ _ (by simp;omega),Below.heap_setCell _ _ _ _ (by simp;omega),Below.heap_setCell _ _ _ _ (by simp;omega),Below.heap_setCell _ _ _ _ (by simp;omega)]
     exact alloc_new (by simp)
    have ha4:=HA.out.keep (B:=(((((w5.alloc (.cells #[.int .i64 b.kind,.string b.name,.int .i64 b.n,.slice a5 b.args.length c5] 30)).alloc (.cells #[.int .i64 t.kind,.string t.name,.int .i64 t.n,.slice a t.args.length c,.int .i64 b.kind,.string b.name,.int .i64 b.n,.slice a5 b.args.length c5] 30)).setCell ⟨w.heap.size,0,none⟩ (.int .i64 4)).setCell ⟨w.heap.size,1,none⟩ (.string ⟨#[]⟩)).setCell ⟨w.heap.size,2,none⟩ (.int .i64 0)).setCell ⟨w.heap.size,3,none⟩ (.slice (some ⟨w5.heap.size+1,0,none⟩) 2 2)) (fun b hb=>by
     obtain⟨b1,b2⟩:=hb
     simp at b1
     rw[hfin b (by omega) (by omega),H5.out.block b (by omega) (fun e=>by injection e;omega),H4.out.block b (by simp;omega) (fun e=>by injection e;omega)]
     exact HZ.out.block b b2)
    have hb4:=HB5.out.keep (B:=(((((w5.alloc (.cells #[.int .i64 b.kind,.string b.name,.int .i64 b.n,.slice a5 b.args.length c5] 30)).alloc (.cells #[.int .i64 t.kind,.string t.name,.int .i64 t.n,.slice a t.args.length c,.int .i64 b.kind,.string b.name,.int .i64 b.n,.slice a5 b.args.length c5] 30)).setCell ⟨w.heap.size,0,none⟩ (.int .i64 4)).setCell ⟨w.heap.size,1,none⟩ (.string ⟨#[]⟩)).setCell ⟨w.heap.size,2,none⟩ (.int .i64 0)).setCell ⟨w.heap.size,3,none⟩ (.slice (some ⟨w5.heap.size+1,0,none⟩) 2 2)) (fun b hb=>by
     obtain⟨b1,b2⟩:=hb
     exact hfin b (by omega) b2)
    have hfs:((((((w5.alloc (.cells #[.int .i64 b.kind,.string b.name,.int .i64 b.n,.slice a5 b.args.length c5] 30)).alloc (.cells #[.int .i64 t.kind,.string t.name,.int .i64 t.n,.slice a t.args.length c,.int .i64 b.kind,.string b.name,.int .i64 b.n,.slice a5 b.args.length c5] 30)).setCell ⟨w.heap.size,0,none⟩ (.int .i64 4)).setCell ⟨w.heap.size,1,none⟩ (.string ⟨#[]⟩)).setCell ⟨w.heap.size,2,none⟩ (.int .i64 0)).setCell ⟨w.heap.size,3,none⟩ (.slice (some ⟨w5.heap.size+1,0,none⟩) 2 2)).heap.size=w5.heap.size+1+1:=by simp
    refine bodyPost_ret (v:=.tuple #[tv (tFun t b) (some ⟨w5.heap.size+1,0,none⟩) 2,.bool true]) (by simp[results,Tryz.results63,go_sem,q4.c0,q4.c1,q4.c2,q4.c3];rfl) rfl ?_
    rw[E4.out]
    refine⟨g4,_,_,rfl,?_,r4⟩
    rw[hfs]
    refine args_two hnew ⟨by omega,by omega⟩ (ha4.mono (fun b hb=>?_)) (hb4.mono (fun b hb=>?_))
    ·obtain⟨b1,b2⟩:=hb
     simp at b1
     exact⟨by omega,by omega⟩
    ·obtain⟨b1,b2⟩:=hb
     exact⟨by omega,by omega⟩
theorem typ_any (n N B:Nat)(w:World)(l:List Tok)(ih:Said n)(h:Rd N B w l)(hN:N≤w.heap.size)(hok:TokOk l)(hl:l.length≤4000)(hn:4*l.length+4≤n+1):Calls Tryz.prog 63 #[.pointer (some ⟨B,0,none⟩)] w (RdPost N B w (typF (n+1) l)):=by
 cases h1:st l 3 fa
 ·exact typ_app n N B w l ih h hN hok hl hn h1
 ·exact typ_all n N B w l ih h hN hok hl hn h1
open Lx
def varsT (l:List Tok):List (List UInt8):=(varsL l).map (·.text)
def strCells (acc:List (List UInt8)):List Value:=acc.map fun s=>.string (bytes s)
theorem varsT_yes {l:List Tok}(h:sk l 1=true):varsT l=headText l :: varsT l.tail∧restL l=restL l.tail:=by
 cases l with
 | nil=>simp[sk] at h
 | cons t l =>
  have h':(t.kind==1)=true:=by simpa [sk] using h
  refine⟨?_,?_⟩
  ·unfold varsT varsL
   rw[List.takeWhile_cons,if_pos h'];rfl
  ·unfold restL
   rw[List.dropWhile_cons,if_pos h'];rfl
theorem varsT_no {l:List Tok}(h:sk l 1=false):varsT l=[]∧restL l=l:=by
 cases l with
 | nil=>exact⟨rfl,rfl⟩
 | cons t l =>
  have h':¬ (t.kind==1)=true:=by simpa [sk] using h
  refine⟨?_,?_⟩
  ·unfold varsT varsL
   rw[List.takeWhile_cons,if_neg h'];rfl
  ·unfold restL
   rw[List.dropWhile_cons,if_neg h']
theorem allF_eq (n:Nat)(l:List Tok):allF (n+1) l=if !st (restL l) 6 dot || (varsT l).isEmpty then none
  else match typF n (restL l).tail with
   | none=>none
   | some (t,r)=>some ((varsT l).foldr tAll t,r):=by
 rw[allF]
 have e1:(varsT l).isEmpty=(varsL l).isEmpty:=by unfold varsT;cases varsL l<;>rfl
 have e2:∀ t,(varsT l).foldr tAll t=(varsL l).foldr (fun v t=>tAll v.text t) t:=fun t=>by unfold varsT;rw[List.foldr_map]
 rw[e1]
 split
 ·rfl
 ·cases typF n (restL l).tail with
  | none=>rfl
  | some x=>obtain⟨t,r⟩:=x;simp only[e2]
theorem infoStr:(Tryz.prog.info? 9).map (fun i=>(i.zero,i.size,i.bytes))=some (some (.string ByteArray.empty),1,16):=by kernel_rfl
theorem args_one {w:World}{g:Nat}{kd:Int}{nm:ByteArray}{nn:Int}{a:Ty}{sa:Value}{S:Nat→Prop}(h:w.heap[g]? = some (.cells #[.int .i64 kd,.string nm,.int .i64 nn,sa] 30 (0,0)))(e0:kd=a.kind)(e1:nm=a.name)(e2:nn=a.n)(hg:S g)(ha:ArgsAt S w sa a.args) :
  ArgsAt S w (.slice (some ⟨g,0,none⟩) 1 1) [a]:=by
 subst e0 e1 e2
 refine .mk g 0 1 [a] (fun _=>sa) hg (by simp) (fun i hi=>?_) (fun i hi=>?_)
 ·have hi2:i=0:=by simp at hi;omega
  subst hi2
  exact⟨cell_of_row w g 0 _ _ _ h,cell_of_row w g 1 _ _ _ h,cell_of_row w g 2 _ _ _ h,cell_of_row w g 3 _ _ _ h⟩
 ·have hi2:i=0:=by simp at hi;omega
  subst hi2
  exact ha
theorem own_name {w:World}{lo:Nat}{v:Value}{acc:List (List UInt8)}(h:w.ownsRow lo 9 1 v acc.length (strCells acc))(h0:0<acc.length) :
  ∃ g cap,v=.slice (some ⟨g,0,none⟩) acc.length cap∧lo≤g∧g<w.heap.size∧∀ (i:Nat) (hi:i<acc.length),w.cell? ⟨g,i,none⟩=some (.string (bytes acc[i])):=by
 rcases h.2 with ⟨rfl,e⟩|⟨g,cap,cur,rfl,hb,hg,h1,h2,h3,h4⟩
 ·omega
 ·refine⟨g,cap,rfl,hb,(Array.getElem?_eq_some_iff.1 hg).1,fun i hi=>?_⟩
  have hc:=h.cells (g:=g) rfl i (.string (bytes acc[i])) (by unfold strCells;rw[List.getElem?_map,List.getElem?_eq_getElem hi];rfl)
  have hadd:∀ j,(⟨g,0,none⟩:Addr).add j=⟨g,j,none⟩:=fun j=>by unfold Addr.add;split<;>simp_all
  rw[hadd] at hc
  exact hc
set_option maxHeartbeats 3200000 in
theorem all_any (n N B:Nat)(w:World)(l:List Tok)(ih:Said n)(h:Rd N B w l)(hN:N≤w.heap.size)(hok:TokOk l)(hl:l.length≤4000)(hn:4*l.length+1≤n+1):Calls Tryz.prog 94 #[.pointer (some ⟨B,0,none⟩)] w (RdPost N B w (allF (n+1) l)):=by
 have hz:=(Below.refl w.heap.size w).alloc (Nat.le_refl _) (.cells #[.int .i64 0,.string ByteArray.empty,.int .i64 0,.slice none 0 0] 30)
 have R0:=hid (h.low hz)
 have b4:=hid (B4.new w (.int .i64 0) (.string ByteArray.empty) (.int .i64 0) (.slice none 0 0))
 have G0:=hid (grown_below (r:=some B) hz)
 have E:=hid (allF_eq n l)
 have IH:=hid ih
 have OK:=hid hok
 have hBw:=h.lt
 clear h hok ih hz
 go_enter Tryz.func94,Tryz.ntmps94
 go_wp2
 go_loopg [4] l.length (fun gk v wr=>∃ (l':List Tok) (acc:List (List UInt8)) (u:Value),u=v∧gk=l'.length∧Rd N B wr l'∧TokOk l'∧l'.length≤l.length∧varsT l=acc++varsT l'∧restL l=restL l' ∧
  wr.ownsRow (w.heap.size+1) 9 1 u acc.length (strCells acc)∧B4 wr w.heap.size (.int .i64 0) (.string ByteArray.empty) (.int .i64 0) (.slice none 0 0)∧w.grownBy wr (some B)∧acc.length+l'.length≤4000∧w.heap.size+1≤wr.heap.size)
 case atStart=>exact⟨l,[],_,rfl,rfl,R0.out,OK.out,Nat.le_refl _,rfl,rfl,World.ownsRow_nil _ _ _ _,b4.out,G0.out,by simpa using hl,by simp⟩
 case round =>
  clear R0 b4 G0 OK
  obtain⟨l',acc,v,rfl,rfl,hR,hTk,hll,hV,hRe,hO,kr,gw,hal,hsw⟩:=hrel
  have hBr:B≠w.heap.size:=by omega
  have KR:=hid kr
  have OW:=hid hO
  have GW:=hid gw
  have TK:=hid hTk
  have HV:=hid hV
  have HRe:=hid hRe
  have hnr:v.ownBlock≠some w.heap.size:=fun e=>by have:=(hO.lt _ e).1;omega
  have hnB:some B≠v.ownBlock:=fun e=>by have:=(hO.lt _ e.symm).1;omega
  have HNR:=hid hnr
  have HNB:=hid hnB
  have HS:=hid hsw
  cases h1:sk l' 1
  ·have V1:=hid (varsT_no h1)
   have C1:=hid (takes_no hR (k:=1) (s:=[]) (sees0 h1))
   cases h6:st l' 6 dot
   ·have C6:=hid (takes_no hR (k:=6) (s:=dot) (sees1 (by decide) h6))
    have E2:Hid (allF (n+1) l=none):=hid (by rw[E.out,hRe,(varsT_no h1).2,h6];rfl)
    have c0:=kr.c0
    have c1:=kr.c1
    have c2:=kr.c2
    have c3:=kr.c3
    have f0:=kr.fr 0
    have f1:=kr.fr 1
    have f2:=kr.fr 2
    have f3:=kr.fr 3
    clear h1 h6 hR hTk hV hRe hO kr gw hnr hnB hsw
    go_wp2_with fail
    refine C1.out.mono ?_
    rintro e w3 ⟨rfl,rfl⟩
    go_wp2_with fail
    refine C6.out.mono ?_
    rintro e w3 ⟨rfl,rfl⟩
    go_wp2
    have q4:=KR.out.set4 (.int .i64 0) (.string ⟨#[]⟩) (.int .i64 0) (.slice none 0 0)
    have g4:=grown_set4 GW.out (Nat.le_refl _) (.int .i64 0) (.string ⟨#[]⟩) (.int .i64 0) (.slice none 0 0)
    refine bodyPost_ret (v:=.tuple #[zv,.bool false]) (by simp[results,Tryz.results94,go_sem,zv,q4.c0,q4.c1,q4.c2,q4.c3]) rfl ?_
    rw[E2.out]
    exact⟨g4,_,_,_,_,_,_,rfl⟩
   ·have C6:=hid (takes_yes hR (k:=6) (s:=dot) (sees1 (by decide) h6))
    have hl6:l'.tail.length+1=l'.length:=by have:=st_ne h6;rw[List.length_tail];omega
    have E1:Hid (allF (n+1) l=if acc.isEmpty then none else match typF n l'.tail with|none=>none|some (t,r)=>some (acc.foldr tAll t,r)):=hid (by rw[E.out,hRe,(varsT_no h1).2,h6,hV,(varsT_no h1).1,List.append_nil];rfl)
    clear h1 h6 hR hTk hV hRe hO kr gw hnr hnB hsw
    go_wp2_with fail
    refine C1.out.mono ?_
    rintro e w3 ⟨rfl,rfl⟩
    go_wp2_with fail
    refine C6.out.mono ?_
    rintro e w4 ⟨rfl,hR4,hg4⟩
    have k4:=KR.out.grown hg4 (fun e=>hBr (by injection e))
    have ow4:=own_keep4 OW.out (w':=w4) (fun b hb=>hg4.block b (OW.out.lt b hb).2 (fun e=>HNB.out (by rw[hb];exact e.symm)))
    have R4:=hid hR4
    have OW4:=hid ow4
    have G4:=hid (grown_trans GW.out hg4)
    have K4:=hid k4
    have HS4:Hid (w.heap.size+1≤w4.heap.size):=hid (by have:=HS.out;have:=hg4.size;omega)
    obtain⟨va,vc,rfl⟩:=own_form ow4
    by_cases h0:acc.length=0
    ·have hz0:((acc.length:Int)==0)=true:=by rw[beq_iff_eq];omega
     have E2:Hid (allF (n+1) l=none):=hid (by rw[E1.out,List.eq_nil_of_length_eq_zero h0];rfl)
     have c0:=k4.c0
     have c1:=k4.c1
     have c2:=k4.c2
     have c3:=k4.c3
     have f0:=k4.fr 0
     have f1:=k4.fr 1
     have f2:=k4.fr 2
     have f3:=k4.fr 3
     clear h0 hR4 hg4 k4 ow4
     go_wp2
     have q4:=K4.out.set4 (.int .i64 0) (.string ⟨#[]⟩) (.int .i64 0) (.slice none 0 0)
     have g4:=grown_set4 G4.out (Nat.le_refl _) (.int .i64 0) (.string ⟨#[]⟩) (.int .i64 0) (.slice none 0 0)
     refine bodyPost_ret (v:=.tuple #[zv,.bool false]) (by simp[results,Tryz.results94,go_sem,zv,q4.c0,q4.c1,q4.c2,q4.c3]) rfl ?_
     rw[E2.out]
     exact⟨g4,_,_,_,_,_,_,rfl⟩
    ·have hz0:((acc.length:Int)==0)=false:=by rw[beq_eq_false_iff_ne];omega
     have E2:Hid (allF (n+1) l=match typF n l'.tail with|none=>none|some (t,r)=>some (acc.foldr tAll t,r)):=hid (by rw[E1.out,if_neg (by cases acc<;>simp at h0 ⊢)])
     have IT:=hid (IH.out.typ N B w4 l'.tail hR4 (by have:=HS4.out;omega) TK.out.tail (by omega) (by omega))
     clear hR4 hg4 k4 ow4
     go_wp2_with fail
     refine IT.out.mono ?_
     rintro e w5 ⟨hg5,hres⟩
     have k5:=K4.out.grown hg5 (fun e=>hBr (by injection e))
     have ow5:=own_keep4 OW4.out (w':=w5) (fun b hb=>hg5.block b (OW4.out.lt b hb).2 (fun e=>by have:=(OW4.out.lt b hb).1;injection e;omega))
     have HS5:Hid (w.heap.size+1≤w5.heap.size):=hid (by have:=HS4.out;have:=hg5.size;omega)
     have G5:=hid (grown_trans G4.out hg5)
     have hB5:B<w5.heap.size:=by have:=HS5.out;omega
     have HB5:=hid hB5
     have hs45:=hid hg5.size
     clear hB5
     cases hT:typF n l'.tail with
     | none =>
      rw[hT] at hres
      obtain⟨k,s,m,a,c,c',rfl⟩:=hres
      have E3:Hid (allF (n+1) l=none):=hid (by rw[E2.out,hT])
      have hz:=(Below.refl w5.heap.size w5).alloc (Nat.le_refl _) (.cells #[.int .i64 k,.string s,.int .i64 m,.slice a c c'] 30)
      have KT:=hid (B4.new w5 (.int .i64 k) (.string s) (.int .i64 m) (.slice a c c'))
      have K6:=hid (k5.low hz)
      have OW6:=hid (own_keep4 ow5 (fun b hb=>hz.block b (ow5.lt b hb).2))
      have G6:=hid (grown_trans G5.out (grown_below hz))
      clear hT k5 ow5 hz hg5
      go_wp2
      go_loopg [11] acc.length (fun gk iv wr=>∃ (j:Nat) (kd:Int) (nm:ByteArray) (nn:Int) (a:Option Addr) (c p2:Nat),j=gk∧j≤acc.length∧iv=.int .i64 ((j:Int) - 1)∧B4 wr w5.heap.size (.int .i64 kd) (.string nm) (.int .i64 nn) (.slice a c p2)∧wr.ownsRow (w.heap.size+1) 9 1 (.slice va acc.length vc) acc.length (strCells acc)∧B4 wr w.heap.size (.int .i64 0) (.string ByteArray.empty) (.int .i64 0) (.slice none 0 0)∧w.grownBy wr (some B)∧w5.heap.size+1≤wr.heap.size)
      case atStart=>exact⟨acc.length,_,_,_,_,_,_,rfl,Nat.le_refl _,rfl,KT.out,OW6.out,K6.out,G6.out,by simp⟩
      case round =>
       clear KT OW6 K6 G6
       obtain⟨j,kd,nm,nn,a,c,p2,rfl,hj,rfl,kt,ow,kr,gw,hsw⟩:=hrel
       have KT:=hid kt
       have KR:=hid kr
       have OWr:=hid ow
       have GWr:=hid gw
       have HSW:=hid hsw
       have c0:=kt.c0
       have c1:=kt.c1
       have c2:=kt.c2
       have c3:=kt.c3
       have f0:=kt.fr 0
       have f1:=kt.fr 1
       have f2:=kt.fr 2
       have f3:=kt.fr 3
       by_cases hj0:j=0
       ·subst hj0
        have d0:=kr.c0
        have d1:=kr.c1
        have d2:=kr.c2
        have d3:=kr.c3
        have h0:=kr.fr 0
        have h1:=kr.fr 1
        have h2:=kr.fr 2
        have h3:=kr.fr 3
        clear kt kr ow gw hsw
        go_wp2
        have q4:=KR.out.set4 (.int .i64 kd) (.string nm) (.int .i64 nn) (.slice a c p2)
        have g4:=grown_set4 GWr.out (Nat.le_refl _) (.int .i64 kd) (.string nm) (.int .i64 nn) (.slice a c p2)
        refine bodyPost_ret (v:=.tuple #[.agg #[.int .i64 kd,.string nm,.int .i64 nn,.slice a c p2],.bool false]) (by simp[results,Tryz.results94,go_sem,q4.c0,q4.c1,q4.c2,q4.c3]) rfl ?_
        rw[E3.out]
        exact⟨g4,_,_,_,_,_,_,rfl⟩
       ·obtain⟨i,rfl⟩:∃ i,j=i+1:=⟨j - 1,by omega⟩
        obtain⟨g,cap,ev,hg1,hg2,hgc⟩:=own_name ow (by omega)
        cases ev
        have hi:i<acc.length:=by omega
        have cn:=hgc i hi
        have ei:(((i+1:Nat):Int) - 1)=(i:Int):=by omega
        rw[ei]
        have z0:(0:Int)≤(i:Int):=by omega
        have z1:(i:Int)<(acc.length:Int):=by omega
        have HG2:=hid hg2
        have hzr:=(Below.refl wr.heap.size wr).alloc (Nat.le_refl _) (.cells #[.int .i64 kd,.string nm,.int .i64 nn,.slice a c p2] 30)
        have ktz:=kt.low hzr
        have e0:=ktz.c0
        have e1:=ktz.c1
        have e2:=ktz.c2
        have e3:=ktz.c3
        have y0:=ktz.fr 0
        have y1:=ktz.fr 1
        have y2:=ktz.fr 2
        have y3:=ktz.fr 3
        have cnz:=(hzr.cell (p:=⟨g,i,none⟩) hg2).trans cn
        have HZR:=hid hzr
        clear kt kr ow gw hsw hgc hg2 hzr ktz
        go_wp2
        go_region
        go_wp2
        have hsw:=HSW.out
        have hs5:=HS5.out
        have hb5:=HB5.out
        have k4:=(KT.out.low HZR.out).set4 (.int .i64 5) (.string (bytes acc[i])) (.int .i64 0) (.slice (some ⟨wr.heap.size,0,none⟩) 1 1)
        have g4:=grown_trans (grown_set4 (grown_trans GWr.out (grown_below HZR.out)) (b:=w5.heap.size) (by omega) (.int .i64 5) (.string (bytes acc[i])) (.int .i64 0) (.slice (some ⟨wr.heap.size,0,none⟩) 1 1)) (grown_below ((Below.refl _ _).drew))
        have ow4:(((((wr.alloc (.cells #[.int .i64 kd,.string nm,.int .i64 nn,.slice a c p2] 30)).setCell ⟨w5.heap.size,0,none⟩ (.int .i64 5)).setCell ⟨w5.heap.size,1,none⟩ (.string (bytes acc[i]))).setCell ⟨w5.heap.size,2,none⟩ (.int .i64 0)).setCell ⟨w5.heap.size,3,none⟩ (.slice (some ⟨wr.heap.size,0,none⟩) 1 1)).drew.ownsRow (w.heap.size+1) 9 1 (.slice (some ⟨g,0,none⟩) acc.length vc) acc.length (strCells acc):=own_keep4 OWr.out (fun b hb=>by
         have hbt:b≠w5.heap.size:=by have:=(OW4.out.lt b hb).2;have:=hs45.out;omega
         show (((((wr.alloc (.cells #[.int .i64 kd,.string nm,.int .i64 nn,.slice a c p2] 30)).setCell ⟨w5.heap.size,0,none⟩ (.int .i64 5)).setCell ⟨w5.heap.size,1,none⟩ (.string (bytes acc[i]))).setCell ⟨w5.heap.size,2,none⟩ (.int .i64 0)).setCell ⟨w5.heap.size,3,none⟩ (.slice (some ⟨wr.heap.size,0,none⟩) 1 1)).heap[b]? = _
         rw[Below.heap_setCell _ _ _ _ (by simpa using hbt),Below.heap_setCell _ _ _ _ (by simpa using hbt),Below.heap_setCell _ _ _ _ (by simpa using hbt),Below.heap_setCell _ _ _ _ (by simpa using hbt)]
         exact HZR.out.block b (OWr.out.lt b hb).2)
        have kr4:B4 (((((wr.alloc (.cells #[.int .i64 kd,.string nm,.int .i64 nn,.slice a c p2] 30)).setCell ⟨w5.heap.size,0,none⟩ (.int .i64 5)).setCell ⟨w5.heap.size,1,none⟩ (.string (bytes acc[i]))).setCell ⟨w5.heap.size,2,none⟩ (.int .i64 0)).setCell ⟨w5.heap.size,3,none⟩ (.slice (some ⟨wr.heap.size,0,none⟩) 1 1)).drew w.heap.size (.int .i64 0) (.string ByteArray.empty) (.int .i64 0) (.slice none 0 0):=by
         show (((((wr.alloc (.cells #[.int .i64 kd,.string nm,.int .i64 nn,.slice a c p2] 30)).setCell ⟨w5.heap.size,0,none⟩ (.int .i64 5)).setCell ⟨w5.heap.size,1,none⟩ (.string (bytes acc[i]))).setCell ⟨w5.heap.size,2,none⟩ (.int .i64 0)).setCell ⟨w5.heap.size,3,none⟩ (.slice (some ⟨wr.heap.size,0,none⟩) 1 1)).heap[w.heap.size]? = _
         rw[Below.heap_setCell _ _ _ _ (by simp;omega),Below.heap_setCell _ _ _ _ (by simp;omega),Below.heap_setCell _ _ _ _ (by simp;omega),Below.heap_setCell _ _ _ _ (by simp;omega)]
         exact KR.out.low HZR.out
        have hfs:(((((wr.alloc (.cells #[.int .i64 kd,.string nm,.int .i64 nn,.slice a c p2] 30)).setCell ⟨w5.heap.size,0,none⟩ (.int .i64 5)).setCell ⟨w5.heap.size,1,none⟩ (.string (bytes acc[i]))).setCell ⟨w5.heap.size,2,none⟩ (.int .i64 0)).setCell ⟨w5.heap.size,3,none⟩ (.slice (some ⟨wr.heap.size,0,none⟩) 1 1)).drew.heap.size=wr.heap.size+1:=by simp
        go_roundg i
        case measure=>omega
        case rel=>exact⟨i,5,bytes acc[i],0,some ⟨wr.heap.size,0,none⟩,1,1,rfl,by omega,rfl,k4,ow4,kr4,g4,by rw[hfs];omega⟩
     | some x =>
      obtain⟨t,r⟩:=x
      rw[hT] at hres
      obtain⟨a,c,rfl,hA,hR5⟩:=hres
      have E3:Hid (allF (n+1) l=some (acc.foldr tAll t,r)):=hid (by rw[E2.out,hT])
      unfold tv
      have hz:=(Below.refl w5.heap.size w5).alloc (Nat.le_refl _) (.cells #[.int .i64 t.kind,.string t.name,.int .i64 t.n,.slice a t.args.length c] 30)
      have KT:=hid (B4.new w5 (.int .i64 t.kind) (.string t.name) (.int .i64 t.n) (.slice a t.args.length c))
      have K6:=hid (k5.low hz)
      have OW6:=hid (own_keep4 ow5 (fun b hb=>hz.block b (ow5.lt b hb).2))
      have G6:=hid (grown_trans G5.out (grown_below hz))
      have R6:=hid (hR5.low hz)
      have A6:=hid ((hA.keep fun b hb=>hz.block b hb.2).mono (S':=fun b=>w.heap.size+1≤b∧b<(w5.heap.size+1)∧b≠w5.heap.size) fun b hb=>by
       obtain⟨b1,b2⟩:=hb;have:=HS4.out;exact⟨by omega,by omega,by omega⟩)
      clear hT k5 ow5 hz hg5 hA hR5
      go_wp2
      go_loopg [11] acc.length (fun gk iv wr=>∃ (j:Nat) (kd:Int) (nm:ByteArray) (nn:Int) (a:Option Addr) (c p2:Nat),j=gk∧j≤acc.length∧iv=.int .i64 ((j:Int) - 1)∧B4 wr w5.heap.size (.int .i64 kd) (.string nm) (.int .i64 nn) (.slice a c p2)∧wr.ownsRow (w.heap.size+1) 9 1 (.slice va acc.length vc) acc.length (strCells acc)∧B4 wr w.heap.size (.int .i64 0) (.string ByteArray.empty) (.int .i64 0) (.slice none 0 0)∧w.grownBy wr (some B)∧w5.heap.size+1≤wr.heap.size∧Rd N B wr r∧∃ t':Ty,t'=(acc.drop j).foldr tAll t∧kd=t'.kind∧nm=t'.name∧nn=t'.n∧c=t'.args.length∧ArgsAt (fun b=>w.heap.size+1≤b∧b<wr.heap.size∧b≠w5.heap.size) wr (.slice a c p2) t'.args)
      case atStart=>exact⟨acc.length,_,_,_,_,_,_,rfl,Nat.le_refl _,rfl,KT.out,OW6.out,K6.out,G6.out,by simp,R6.out,t,by simp,rfl,rfl,rfl,rfl,by simpa using A6.out⟩
      case round =>
       clear KT OW6 K6 G6 R6 A6
       obtain⟨j,kd,nm,nn,a,c,p2,rfl,hj,rfl,kt,ow,kr,gw,hsw,hRr,t',ht',rfl,rfl,rfl,rfl,hA⟩:=hrel
       have KT:=hid kt
       have KR:=hid kr
       have OWr:=hid ow
       have GWr:=hid gw
       have HSW:=hid hsw
       have RR:=hid hRr
       have AA:=hid hA
       have HT:=hid ht'
       have c0:=kt.c0
       have c1:=kt.c1
       have c2:=kt.c2
       have c3:=kt.c3
       have f0:=kt.fr 0
       have f1:=kt.fr 1
       have f2:=kt.fr 2
       have f3:=kt.fr 3
       by_cases hj0:j=0
       ·subst hj0
        have d0:=kr.c0
        have d1:=kr.c1
        have d2:=kr.c2
        have d3:=kr.c3
        have h0:=kr.fr 0
        have h1:=kr.fr 1
        have h2:=kr.fr 2
        have h3:=kr.fr 3
        clear kt kr ow gw hsw hRr hA ht'
        go_wp2
        have q4:=KR.out.set4 (.int .i64 t'.kind) (.string t'.name) (.int .i64 t'.n) (.slice a t'.args.length p2)
        have g4:=grown_set4 GWr.out (Nat.le_refl _) (.int .i64 t'.kind) (.string t'.name) (.int .i64 t'.n) (.slice a t'.args.length p2)
        have r4:=RR.out.set4 hBr hN (.int .i64 t'.kind) (.string t'.name) (.int .i64 t'.n) (.slice a t'.args.length p2)
        have ha4:=AA.out.keep (B:=(((wr.setCell ⟨w.heap.size,0,none⟩ (.int .i64 t'.kind)).setCell ⟨w.heap.size,1,none⟩ (.string t'.name)).setCell ⟨w.heap.size,2,none⟩ (.int .i64 t'.n)).setCell ⟨w.heap.size,3,none⟩ (.slice a t'.args.length p2)) (fun b hb=>by
         obtain⟨b1,b2,b3⟩:=hb
         rw[Below.heap_setCell _ _ _ _ (by simp;omega),Below.heap_setCell _ _ _ _ (by simp;omega),Below.heap_setCell _ _ _ _ (by simp;omega),Below.heap_setCell _ _ _ _ (by simp;omega)])
        refine bodyPost_ret (v:=.tuple #[tv t' a p2,.bool true]) (by simp[results,Tryz.results94,go_sem,tv,q4.c0,q4.c1,q4.c2,q4.c3]) rfl ?_
        rw[E3.out,← List.drop_zero (l:=acc),← HT.out]
        exact⟨g4,a,p2,rfl,ha4.mono (fun b hb=>by obtain⟨b1,b2,b3⟩:=hb;exact⟨by omega,by simpa using b2⟩),r4⟩
       ·obtain⟨i,rfl⟩:∃ i,j=i+1:=⟨j - 1,by omega⟩
        obtain⟨g,cap,ev,hg1,hg2,hgc⟩:=own_name ow (by omega)
        cases ev
        have hi:i<acc.length:=by omega
        have cn:=hgc i hi
        have ei:(((i+1:Nat):Int) - 1)=(i:Int):=by omega
        rw[ei]
        have z0:(0:Int)≤(i:Int):=by omega
        have z1:(i:Int)<(acc.length:Int):=by omega
        have HG2:=hid hg2
        have hzr:=(Below.refl wr.heap.size wr).alloc (Nat.le_refl _) (.cells #[.int .i64 t'.kind,.string t'.name,.int .i64 t'.n,.slice a t'.args.length p2] 30)
        have ktz:=kt.low hzr
        have e0:=ktz.c0
        have e1:=ktz.c1
        have e2:=ktz.c2
        have e3:=ktz.c3
        have y0:=ktz.fr 0
        have y1:=ktz.fr 1
        have y2:=ktz.fr 2
        have y3:=ktz.fr 3
        have cnz:=(hzr.cell (p:=⟨g,i,none⟩) hg2).trans cn
        have HZR:=hid hzr
        clear kt kr ow gw hsw hgc hg2 hzr ktz hRr hA ht'
        go_wp2
        go_region
        go_wp2
        have hsw:=HSW.out
        have hs5:=HS5.out
        have hb5:=HB5.out
        have k4:=(KT.out.low HZR.out).set4 (.int .i64 5) (.string (bytes acc[i])) (.int .i64 0) (.slice (some ⟨wr.heap.size,0,none⟩) 1 1)
        have g4:=grown_trans (grown_set4 (grown_trans GWr.out (grown_below HZR.out)) (b:=w5.heap.size) (by omega) (.int .i64 5) (.string (bytes acc[i])) (.int .i64 0) (.slice (some ⟨wr.heap.size,0,none⟩) 1 1)) (grown_below ((Below.refl _ _).drew))
        have ow4:(((((wr.alloc (.cells #[.int .i64 t'.kind,.string t'.name,.int .i64 t'.n,.slice a t'.args.length p2] 30)).setCell ⟨w5.heap.size,0,none⟩ (.int .i64 5)).setCell ⟨w5.heap.size,1,none⟩ (.string (bytes acc[i]))).setCell ⟨w5.heap.size,2,none⟩ (.int .i64 0)).setCell ⟨w5.heap.size,3,none⟩ (.slice (some ⟨wr.heap.size,0,none⟩) 1 1)).drew.ownsRow (w.heap.size+1) 9 1 (.slice (some ⟨g,0,none⟩) acc.length vc) acc.length (strCells acc):=own_keep4 OWr.out (fun b hb=>by
         have hbt:b≠w5.heap.size:=by have:=(OW4.out.lt b hb).2;have:=hs45.out;omega
         show (((((wr.alloc (.cells #[.int .i64 t'.kind,.string t'.name,.int .i64 t'.n,.slice a t'.args.length p2] 30)).setCell ⟨w5.heap.size,0,none⟩ (.int .i64 5)).setCell ⟨w5.heap.size,1,none⟩ (.string (bytes acc[i]))).setCell ⟨w5.heap.size,2,none⟩ (.int .i64 0)).setCell ⟨w5.heap.size,3,none⟩ (.slice (some ⟨wr.heap.size,0,none⟩) 1 1)).heap[b]? = _
         rw[Below.heap_setCell _ _ _ _ (by simpa using hbt),Below.heap_setCell _ _ _ _ (by simpa using hbt),Below.heap_setCell _ _ _ _ (by simpa using hbt),Below.heap_setCell _ _ _ _ (by simpa using hbt)]
         exact HZR.out.block b (OWr.out.lt b hb).2)
        have kr4:B4 (((((wr.alloc (.cells #[.int .i64 t'.kind,.string t'.name,.int .i64 t'.n,.slice a t'.args.length p2] 30)).setCell ⟨w5.heap.size,0,none⟩ (.int .i64 5)).setCell ⟨w5.heap.size,1,none⟩ (.string (bytes acc[i]))).setCell ⟨w5.heap.size,2,none⟩ (.int .i64 0)).setCell ⟨w5.heap.size,3,none⟩ (.slice (some ⟨wr.heap.size,0,none⟩) 1 1)).drew w.heap.size (.int .i64 0) (.string ByteArray.empty) (.int .i64 0) (.slice none 0 0):=by
         show (((((wr.alloc (.cells #[.int .i64 t'.kind,.string t'.name,.int .i64 t'.n,.slice a t'.args.length p2] 30)).setCell ⟨w5.heap.size,0,none⟩ (.int .i64 5)).setCell ⟨w5.heap.size,1,none⟩ (.string (bytes acc[i]))).setCell ⟨w5.heap.size,2,none⟩ (.int .i64 0)).setCell ⟨w5.heap.size,3,none⟩ (.slice (some ⟨wr.heap.size,0,none⟩) 1 1)).heap[w.heap.size]? = _
         rw[Below.heap_setCell _ _ _ _ (by simp;omega),Below.heap_setCell _ _ _ _ (by simp;omega),Below.heap_setCell _ _ _ _ (by simp;omega),Below.heap_setCell _ _ _ _ (by simp;omega)]
         exact KR.out.low HZR.out
        have hfs:(((((wr.alloc (.cells #[.int .i64 t'.kind,.string t'.name,.int .i64 t'.n,.slice a t'.args.length p2] 30)).setCell ⟨w5.heap.size,0,none⟩ (.int .i64 5)).setCell ⟨w5.heap.size,1,none⟩ (.string (bytes acc[i]))).setCell ⟨w5.heap.size,2,none⟩ (.int .i64 0)).setCell ⟨w5.heap.size,3,none⟩ (.slice (some ⟨wr.heap.size,0,none⟩) 1 1)).drew.heap.size=wr.heap.size+1:=by simp
        have r4:=((RR.out.low HZR.out).set4 (b:=w5.heap.size) (by omega) (by omega) (.int .i64 5) (.string (bytes acc[i])) (.int .i64 0) (.slice (some ⟨wr.heap.size,0,none⟩) 1 1)).low ((Below.refl _ _).drew)
        have ha4:=AA.out.keep (B:=(((((wr.alloc (.cells #[.int .i64 t'.kind,.string t'.name,.int .i64 t'.n,.slice a t'.args.length p2] 30)).setCell ⟨w5.heap.size,0,none⟩ (.int .i64 5)).setCell ⟨w5.heap.size,1,none⟩ (.string (bytes acc[i]))).setCell ⟨w5.heap.size,2,none⟩ (.int .i64 0)).setCell ⟨w5.heap.size,3,none⟩ (.slice (some ⟨wr.heap.size,0,none⟩) 1 1)).drew) (fun b hb=>by
         obtain⟨b1,b2,b3⟩:=hb
         show (((((wr.alloc (.cells #[.int .i64 t'.kind,.string t'.name,.int .i64 t'.n,.slice a t'.args.length p2] 30)).setCell ⟨w5.heap.size,0,none⟩ (.int .i64 5)).setCell ⟨w5.heap.size,1,none⟩ (.string (bytes acc[i]))).setCell ⟨w5.heap.size,2,none⟩ (.int .i64 0)).setCell ⟨w5.heap.size,3,none⟩ (.slice (some ⟨wr.heap.size,0,none⟩) 1 1)).heap[b]? = _
         rw[Below.heap_setCell _ _ _ _ (by simpa using b3),Below.heap_setCell _ _ _ _ (by simpa using b3),Below.heap_setCell _ _ _ _ (by simpa using b3),Below.heap_setCell _ _ _ _ (by simpa using b3)]
         exact HZR.out.block b b2)
        have hnew:(((((wr.alloc (.cells #[.int .i64 t'.kind,.string t'.name,.int .i64 t'.n,.slice a t'.args.length p2] 30)).setCell ⟨w5.heap.size,0,none⟩ (.int .i64 5)).setCell ⟨w5.heap.size,1,none⟩ (.string (bytes acc[i]))).setCell ⟨w5.heap.size,2,none⟩ (.int .i64 0)).setCell ⟨w5.heap.size,3,none⟩ (.slice (some ⟨wr.heap.size,0,none⟩) 1 1)).drew.heap[wr.heap.size]? = some (.cells #[.int .i64 t'.kind,.string t'.name,.int .i64 t'.n,.slice a t'.args.length p2] 30 (0,0)):=by
         show (((((wr.alloc (.cells #[.int .i64 t'.kind,.string t'.name,.int .i64 t'.n,.slice a t'.args.length p2] 30)).setCell ⟨w5.heap.size,0,none⟩ (.int .i64 5)).setCell ⟨w5.heap.size,1,none⟩ (.string (bytes acc[i]))).setCell ⟨w5.heap.size,2,none⟩ (.int .i64 0)).setCell ⟨w5.heap.size,3,none⟩ (.slice (some ⟨wr.heap.size,0,none⟩) 1 1)).heap[wr.heap.size]? = _
         rw[Below.heap_setCell _ _ _ _ (by simp;omega),Below.heap_setCell _ _ _ _ (by simp;omega),Below.heap_setCell _ _ _ _ (by simp;omega),Below.heap_setCell _ _ _ _ (by simp;omega)]
         exact heap_alloc_new wr _
        have hat:=args_one (S:=fun b=>w.heap.size+1≤b∧b<(((((wr.alloc (.cells #[.int .i64 t'.kind,.string t'.name,.int .i64 t'.n,.slice a t'.args.length p2] 30)).setCell ⟨w5.heap.size,0,none⟩ (.int .i64 5)).setCell ⟨w5.heap.size,1,none⟩ (.string (bytes acc[i]))).setCell ⟨w5.heap.size,2,none⟩ (.int .i64 0)).setCell ⟨w5.heap.size,3,none⟩ (.slice (some ⟨wr.heap.size,0,none⟩) 1 1)).drew.heap.size∧b≠w5.heap.size) hnew rfl rfl rfl (by rw[hfs];exact⟨by omega,by omega,by omega⟩) (ha4.mono fun b hb=>by rw[hfs];exact⟨hb.1,by have:=hb.2.1;omega,hb.2.2⟩)
        have hdr:(acc.drop i).foldr tAll t=tAll acc[i] t':=by rw[HT.out,List.drop_eq_getElem_cons hi];rfl
        go_roundg i
        case measure=>omega
        case rel=>exact⟨i,5,bytes acc[i],0,some ⟨wr.heap.size,0,none⟩,1,1,rfl,by omega,rfl,k4,ow4,kr4,g4,by rw[hfs];omega,r4,tAll acc[i] t',hdr.symm,rfl,rfl,rfl,rfl,hat⟩
  ·have V1:=hid (varsT_yes h1)
   have C1:=hid (takes_yes hR (k:=1) (s:=[]) (sees0 h1))
   have hl1:l'.tail.length+1=l'.length:=by have:=sk_ne h1;rw[List.length_tail];omega
   clear h1 hR hTk hV hRe hO kr gw hnr hnB hsw
   obtain⟨i0,hi0,hz0,hz1,hz3⟩:=info_parts infoStr
   go_wp2_with fail
   refine C1.out.mono ?_
   rintro e w3 ⟨rfl,hR3,hg3⟩
   have hsz3:=hg3.size
   have hz:=(Below.refl w3.heap.size w3).alloc (Nat.le_refl _) (.cells #[.string (bytes (headText l'))] 9)
   have k5:=(KR.out.grown hg3 (fun e=>hBr (by injection e))).low hz
   have ow5:=own_keep4 (own_keep4 OW.out (w':=w3) (fun b hb=>hg3.block b (OW.out.lt b hb).2 (fun e=>HNB.out (by rw[hb];exact e.symm)))) (fun b hb=>hz.block b (by have:=(OW.out.lt b hb).2;omega))
   have K5:=hid k5
   have OW5:=hid ow5
   have G5:=hid (grown_trans (grown_trans GW.out hg3) (grown_below hz))
   have R5:=hid (hR3.low hz)
   have HS3:=hid hsz3
   clear hR3 hg3 hz k5 ow5 hsz3
   go_wp2_with (at_builtin;refine wpList_append_lies _ rfl _ _ _ rfl (w.heap.size+1) 9 i0 _ 1 16 Tryz.underlying88 hi0 hz0 hz1 hz3 rfl (by omega) v acc.length (strCells acc) rfl OW5.out ⟨w3.heap.size,0,none⟩ 1 1 [.string (bytes (headText l'))] rfl rfl (World.news_of_block (cs:=#[.string (bytes (headText l'))]) (t:=9) (fr:=(0,0)) (heap_alloc_new w3 _)) (by simp[Value.oneCell']) (by omega) (by unfold maxLen;omega) (by omega) (by have:=HS.out;have:=HS3.out;simp;omega) (w3.heap.size+1) (by simp) ?_;intro gg cap w7 hown7 hgrow7 hat7 hlt7)
   have hsz7:=hgrow7.size
   have KR7:=K5.out.grown hgrow7 (fun e=>HNR.out e)
   have R7:=R5.out.grown hgrow7 (fun e=>HNB.out e.symm) (fun b e hb=>by have:=(OW.out.lt _ e).1;omega)
   have G7:w.grownBy w7 (some B):=⟨hgrow7.os.trans G5.out.os,hgrow7.tape.trans G5.out.tape,hgrow7.output.trans G5.out.output,by have:=HS.out;have:=HS3.out;simp at hsz7;omega,fun k hk hr=>(hgrow7.block k (by have:=HS.out;have:=HS3.out;simp;omega) (fun e=>by have:=(OW.out.lt _ e.symm).1;omega)).trans (G5.out.block k hk hr)⟩
   go_wp2
   go_roundg l'.tail.length
   case measure=>omega
   case rel=>exact⟨l'.tail,acc++[headText l'],_,rfl,rfl,R7,TK.out.tail,by omega,by rw[HV.out,V1.out.1];simp,by rw[HRe.out,V1.out.2],by rw[List.length_append];unfold strCells at *;rw[List.map_append];exact hown7,KR7,G7,by simp;omega,by have:=HS.out;have:=HS3.out;simp at hsz7;omega⟩
end Go.Proofs.YtkihnodkhnahiaaGreatDoor.Tp

/- Packed. -/
import Derived.Test.YtkihnodkhnahiaaGreatDoorP03
import Derived.OwnWalk
import Derived.Maps.OwnRows
set_option maxRecDepth 100000
set_option maxHeartbeats 6400000
namespace Go.Proofs.YtkihnodkhnahiaaGreatDoor.Tp
open Go.RowKit
open Lx
def zv:Value:=.agg #[.int .i64 0,.string ⟨#[]⟩,.int .i64 0,.slice none 0 0]
theorem ol_ (n N B:Nat)(w:World)(l:List Tok)(h:Rd N B w l)(h1:sk l 1=false)(h2:sk l 2=false)(h3:sk l 5=false)(h4:st l 6 bX_=false):Calls Tryz.prog 110 #[.pointer (some ⟨B,0,none⟩)] w (do_ N B w (aU_ (n+1) l)):=by
 have hr:=h.low (ao_ w (.cells #[.int .i64 0,.string ByteArray.empty,.int .i64 0,.slice none 0 0] 30));have C1:=hid (bG_ hr (k:=1) (s:=[]) (cI_ h1));have C2:=hid (bG_ hr (k:=2) (s:=[]) (cI_ h2));have C3:=hid (bG_ hr (k:=5) (s:=[]) (cI_ h3));have C4:=hid (bG_ hr (k:=6) (s:=bX_) (gj_ (by decide) h4));have k4:=B4.new w (.int .i64 0) (.string ByteArray.empty) (.int .i64 0) (.slice none 0 0);have e:aU_ (n+1) l=none:=by rw[aU_,h1,if_neg (by simp),h2,if_neg (by simp),h3,if_neg (by simp),h4,if_neg (by simp)]
 have E:=hid e;have K4:=hid k4;clear h hr h1 h2 h3 h4 e k4;go_enter Tryz.func110,Tryz.ntmps110;go_wp2_with fail;refine C1.out.mono ?_;rintro e w1 ⟨rfl,rfl⟩;go_wp2_with fail;refine C2.out.mono ?_;rintro e w1 ⟨rfl,rfl⟩;go_wp2_with fail;refine C3.out.mono ?_;rintro e w1 ⟨rfl,rfl⟩;go_wp2_with fail;refine C4.out.mono ?_;rintro e w1 ⟨rfl,rfl⟩;go_wp2;refine bodyPost_ret (v:=.tuple #[zv,.bool false]) (by simp[results,Tryz.results110,go_sem,zv]) rfl ?_;rw[E.out];exact⟨af_ (ao_ w _),_,_,_,_,_,_,rfl⟩
theorem p0_ (n N B:Nat)(w:World)(l:List Tok)(ih:oH_ n)(h:Rd N B w l)(hN:N≤w.heap.size)(hok:c2_ l)(hl:l.length≤4000)(hn:4*l.length+2≤n+1)(h1:sk l 1=false)(h2:sk l 2=false)(h3:sk l 5=false)(h4:st l 6 bX_=true):Calls Tryz.prog 110 #[.pointer (some ⟨B,0,none⟩)] w (do_ N B w (aU_ (n+1) l)):=by
 have hr:=h.low (ao_ w (.cells #[.int .i64 0,.string ByteArray.empty,.int .i64 0,.slice none 0 0] 30));have C1:=hid (bG_ hr (k:=1) (s:=[]) (cI_ h1));have C2:=hid (bG_ hr (k:=2) (s:=[]) (cI_ h2));have C3:=hid (bG_ hr (k:=5) (s:=[]) (cI_ h3));have C4:=hid (cr_ hr (k:=6) (s:=bX_) (gj_ (by decide) h4));have b4:=hid (B4.new w (.int .i64 0) (.string ByteArray.empty) (.int .i64 0) (.slice none 0 0));have HR:=hid hr;have htl:l.tail.length+1=l.length:=by have:=b8_ h4;rw[List.length_tail];omega
 have e:aU_ (n+1) l=(match bT_ n l.tail with|none=>none|some (t,r)=>if st r 6 bB_ then some (t,r.tail) else none):=by
  rw[aU_,h1,if_neg (by simp),h2,if_neg (by simp),h3,if_neg (by simp),if_pos h4];rfl
 have IH:=hid (fun w1 (hr1:Rd N B w1 l.tail) (hN1:N≤w1.heap.size)=>ih.typ N B w1 l.tail hr1 hN1 hok.tail (by omega) (by omega));have E:=hid e;clear h hr h1 h2 h3 h4 e ih hok;go_enter Tryz.func110,Tryz.ntmps110;go_wp2_with fail;refine C1.out.mono ?_;rintro e w1 ⟨rfl,rfl⟩;go_wp2_with fail;refine C2.out.mono ?_;rintro e w1 ⟨rfl,rfl⟩;go_wp2_with fail;refine C3.out.mono ?_;rintro e w1 ⟨rfl,rfl⟩;go_wp2_with fail;refine C4.out.mono ?_;rintro e w1 ⟨rfl,hrd,hg⟩;have k4:=b4.out.grown hg (fun e=>b4.out.ne_rd HR.out (by injection e with e;exact e.symm));have hs1:=hg.size;have K4:=hid k4;have RD:=hid hrd;have G:=hid (ad_ (af_ (ao_ w _)) hg);have hs1:w.heap.size<w1.heap.size:=by have:=hg.size;simp at this;omega
 clear k4 hrd hg;go_wp2_with fail;refine (IH.out w1 RD.out (by omega)).mono ?_;rintro e w2 ⟨hg2,hres⟩;have k5:=K4.out.grown hg2 (fun e=>K4.out.ne_rd RD.out (by injection e with e;exact e.symm));have hs2:=hg2.size;have K5:=hid k5;have G2:=hid (ad_ G.out hg2);clear k5;cases hT:bT_ n l.tail with
 | none =>
  rw[hT] at hres;obtain⟨k,s,m,a,c,c',rfl⟩:=hres;have e2:aU_ (n+1) l=none:=by rw[E.out,hT]
  have E2:=hid e2;have k6:=K5.out.low (ao_ w2 (.cells #[.int .i64 k,.string s,.int .i64 m,.slice a c c'] 30));obtain⟨c0,c1,c2,c3⟩:=k6.c03;obtain⟨f0,f1,f2,f3⟩:=k6.f03;have K6:=hid k6;clear e2 hT hg2 k6;go_wp2;have q4:=K6.out.set4 (.int .i64 0) (.string ⟨#[]⟩) (.int .i64 0) (.slice none 0 0);have g4:=av_ (ad_ G2.out (af_ (ao_ w2 (.cells #[.int .i64 k,.string s,.int .i64 m,.slice a c c'] 30)))) (aw_ _) (.int .i64 0) (.string ⟨#[]⟩) (.int .i64 0) (.slice none 0 0);refine bodyPost_ret (v:=.tuple #[zv,.bool false]) (by simp[results,Tryz.results110,go_sem,zv,q4.c0,q4.c1,q4.c2,q4.c3]) rfl ?_;rw[E2.out];exact⟨g4,_,_,_,_,_,_,rfl⟩
 | some x =>
  obtain⟨t,r⟩:=x;rw[hT] at hres;obtain⟨a,c,rfl,hA,hR⟩:=hres;have hb3:=ao_ w2 (.cells #[.int .i64 t.kind,.string t.name,.int .i64 t.n,.slice a t.args.length c] 30);have hR3:=hR.low hb3;have k6:=K5.out.low hb3;have kt:=B4.new w2 (.int .i64 t.kind) (.string t.name) (.int .i64 t.n) (.slice a t.args.length c);have hBlt:B<w.heap.size+1:=by
   obtain⟨v,hv⟩:=HR.out.blk;have:=(Array.getElem?_eq_some_iff.1 hv).1;simpa using this
  have hBne:=K4.out.ne_rd RD.out;have hBl:B<w.heap.size:=by omega
  cases hp:st r 6 bB_
  ·have e2:aU_ (n+1) l=none:=by rw[E.out,hT];simp[hp]
   have E2:=hid e2;have C5:=hid (bG_ hR3 (k:=6) (s:=bB_) (gj_ (by decide) hp));obtain⟨c0,c1,c2,c3⟩:=k6.c03;obtain⟨f0,f1,f2,f3⟩:=k6.f03;obtain⟨t0,t1,t2,t3⟩:=kt.c03;have K6:=hid k6;have G3:=hid (ad_ G2.out (af_ hb3));clear e2 hT hg2 k6 kt hb3 hR3 hR hA hp;unfold tv;go_wp2_with fail;refine C5.out.mono ?_;rintro e w4 ⟨rfl,rfl⟩;go_wp2;have q4:=K6.out.set4 (.int .i64 t.kind) (.string t.name) (.int .i64 t.n) (.slice a t.args.length c);have g4:=av_ G3.out (aw_ _) (.int .i64 t.kind) (.string t.name) (.int .i64 t.n) (.slice a t.args.length c);refine bodyPost_ret (v:=.tuple #[tv t a c,.bool false]) (by simp[results,Tryz.results110,go_sem,tv,q4.c0,q4.c1,q4.c2,q4.c3]) rfl ?_;rw[E2.out];exact⟨g4,_,_,_,_,_,_,rfl⟩
  ·have e2:aU_ (n+1) l=some (t,r.tail):=by rw[E.out,hT];simp[hp]
   have E2:=hid e2;have C5:=hid (cr_ hR3 (k:=6) (s:=bB_) (gj_ (by decide) hp));have K6:=hid k6;have KT:=hid kt;have R3:=hid hR3;have HA:=hid hA;have G3:=hid (ad_ G2.out (af_ hb3));clear e2 hT hg2 k6 kt hb3 hR3 hR hA hp;unfold tv;go_wp2_with fail;refine C5.out.mono ?_;rintro e w4 ⟨rfl,hR4,hg4⟩;have k7:=K6.out.grown hg4 (fun e=>K6.out.ne_rd R3.out (by injection e with e;exact e.symm));have kt7:=KT.out.grown hg4 (fun e=>KT.out.ne_rd R3.out (by injection e with e;exact e.symm));obtain⟨c0,c1,c2,c3⟩:=k7.c03;obtain⟨f0,f1,f2,f3⟩:=k7.f03;obtain⟨t0,t1,t2,t3⟩:=kt7.c03;have hne:=k7.ne_rd hR4;have K7:=hid k7;have G7:=hid (ad_ G3.out hg4);have R4:=hid hR4;have H4:=hid hg4;clear k7 kt7 hR4 hg4;go_wp2;have q4:=K7.out.set4 (.int .i64 t.kind) (.string t.name) (.int .i64 t.n) (.slice a t.args.length c);have g4:=av_ G7.out (aw_ _) (.int .i64 t.kind) (.string t.name) (.int .i64 t.n) (.slice a t.args.length c);have r4:=R4.out.set4 (Ne.symm hne) hN (.int .i64 t.kind) (.string t.name) (.int .i64 t.n) (.slice a t.args.length c);have hz4:=H4.out.size;have ha4:=HA.out.keep (B:=(((w4.setCell ⟨w.heap.size,0,none⟩ (.int .i64 t.kind)).setCell ⟨w.heap.size,1,none⟩ (.string t.name)).setCell ⟨w.heap.size,2,none⟩ (.int .i64 t.n)).setCell ⟨w.heap.size,3,none⟩ (.slice a t.args.length c)) (fun b hb=>by
    obtain⟨b1,b2⟩:=hb;rw[aM_ _ _ _ _ (by simp;omega),aM_ _ _ _ _ (by simp;omega),aM_ _ _ _ _ (by simp;omega),aM_ _ _ _ _ (by simp;omega)];rw[H4.out.block b (by simp;omega) (fun e=>by injection e;omega)];exact Below.heap_alloc _ _ _ b2)
   refine bodyPost_ret (v:=.tuple #[tv t a c,.bool true]) (by simp[results,Tryz.results110,go_sem,tv,q4.c0,q4.c1,q4.c2,q4.c3]) rfl ?_;rw[E2.out];refine⟨g4,a,c,rfl,ha4.mono (fun b hb=>⟨by have:=hb.1;omega,?_⟩),r4⟩;have:=hb.2;simp at hz4 ⊢;omega
theorem p2_ (n N B:Nat)(w:World)(l:List Tok)(ih:oH_ n)(h:Rd N B w l)(hN:N≤w.heap.size)(hok:c2_ l)(hl:l.length≤4000)(hn:4*l.length+2≤n+1):Calls Tryz.prog 110 #[.pointer (some ⟨B,0,none⟩)] w (do_ N B w (aU_ (n+1) l)):=by
 cases h1:sk l 1
 ·cases h2:sk l 2
  ·cases h3:sk l 5
   ·cases h4:st l 6 bX_
    ·exact ol_ n N B w l h h1 h2 h3 h4
    ·exact p0_ n N B w l ih h hN hok hl hn h1 h2 h3 h4
   ·exact om_ n N B w l h hN hok h1 h2 h3
  ·exact p1_ n N B w l h hN h1 h2
 ·exact pZ_ n N B w l h hN h1
open Lx
def dy_ (t:Ty)(sv:Value):List Value:=[.int .i64 t.kind,.string t.name,.int .i64 t.n,sv]
def bQ_ (ts:List Ty)(svs:List Value):List Value:=(ts.zip svs).flatMap fun p=>dy_ p.1 p.2
theorem eu_:∀ (ts:List Ty) (svs:List Value) (t:Ty) (v:Value),svs.length=ts.length→bQ_ (ts++[t]) (svs++[v])=bQ_ ts svs++dy_ t v:=by
 intro ts svs t v h;unfold bQ_;rw[List.zip_append h.symm,List.flatMap_append];simp
theorem eK_:∀ (ts:List Ty) (svs:List Value),svs.length=ts.length→∀ (i:Nat) (h:i<ts.length) (h':i<svs.length),
  (bQ_ ts svs)[i*4]? = some (.int .i64 ts[i].kind)∧(bQ_ ts svs)[i*4+1]? = some (.string ts[i].name)∧(bQ_ ts svs)[i*4+2]? = some (.int .i64 ts[i].n)∧(bQ_ ts svs)[i*4+3]? = some svs[i]
 | [],_,_,i,h,_=>by simp at h
 | t :: ts,[],hh,_,_,_=>by simp at hh
 | t :: ts,v :: svs,hh,i,h,h'=>by
  have e:bQ_ (t :: ts) (v :: svs)=.int .i64 t.kind :: .string t.name :: .int .i64 t.n :: v :: bQ_ ts svs:=rfl;rw[e];cases i with
  | zero=>exact⟨rfl,rfl,rfl,rfl⟩
  | succ i =>
   have:=eK_ ts svs (by simpa using hh) i (by simpa using h) (by simpa using h');rw[show (i+1)*4=i*4+1+1+1+1 by omega,show i*4+1+1+1+1+1=i*4+1+1+1+1+1 from rfl,show i*4+1+1+1+1+2=i*4+2+1+1+1+1 by omega,show i*4+1+1+1+1+3=i*4+3+1+1+1+1 by omega];simp only[List.getElem?_cons_succ,List.getElem_cons_succ];exact this
structure Acc (lo:Nat)(w:World)(v:Value)(acc:List Ty)(svs:List Value):Prop where
 own:w.ownsRow lo 30 4 v acc.length (bQ_ acc svs)
 len:svs.length=acc.length
 at_:∀ (j:Nat) (t:Ty) (sv:Value),acc[j]? = some t→svs[j]? = some sv→ac_ (fun b=>lo≤b∧b<w.heap.size∧v.ownBlock≠some b) w sv t.args
theorem Acc.nil (lo:Nat)(w:World):Acc lo w (.slice none 0 0) [] []:=⟨World.ownsRow_nil _ _ _ _,rfl,by simp⟩
theorem aF_ {w w':World}{base:Nat}{e:TypeId}{size n:Nat}{v:Value}{xs:List Value}(h:w.ownsRow base e size v n xs)(hk:∀ b,v.ownBlock=some b→w'.heap[b]? = w.heap[b]?):w'.ownsRow base e size v n xs:=by
 refine⟨h.1,h.2.imp id ?_⟩;rintro ⟨g,cap,cur,k1,k2,k3,k4⟩;exact⟨g,cap,cur,k1,k2,(hk g (by rw[k1];rfl)).trans k3,k4⟩
theorem Acc.keep {lo:Nat}{w w':World}{v:Value}{acc:List Ty}{svs:List Value}(h:Acc lo w v acc svs)(hs:w.heap.size≤w'.heap.size)(hk:∀ b,lo≤b→b<w.heap.size→w'.heap[b]? = w.heap[b]?):Acc lo w' v acc svs :=
 ⟨aF_ h.own fun b hb=>hk b (h.own.lt b hb).1 (h.own.lt b hb).2,h.len,fun j t sv h1 h2=>((h.at_ j t sv h1 h2).keep fun b hb=>hk b hb.1 hb.2.1).mono fun b hb=>⟨hb.1,by have:=hb.2.1;omega,hb.2.2⟩⟩
theorem Acc.add {lo:Nat}{w w':World}{v v' sv:Value}{acc:List Ty}{svs:List Value}{t:Ty}{S:Nat→Prop}(h:Acc lo w v acc svs)(hx:ac_ S w sv t.args)(hS:∀ b,S b→lo≤b∧b<w.heap.size∧v.ownBlock≠some b)
  (hg:w.grownBy w' v.ownBlock) (ho:w'.ownsRow lo 30 4 v' (acc.length+1) (bQ_ acc svs++dy_ t sv)) (hat:∀ b,v'.ownBlock=some b→v.ownBlock=some b∨w.heap.size≤b):Acc lo w' v' (acc++[t]) (svs++[sv]):=by
 have kp:∀ {S:Nat→Prop} {y:Value} {ts:List Ty},(∀ b,S b→lo≤b∧b<w.heap.size∧v.ownBlock≠some b)→ac_ S w y ts→ac_ (fun b=>lo≤b∧b<w'.heap.size∧v'.ownBlock≠some b) w' y ts:=fun {S y ts} hS hy =>
  (hy.keep fun b hb=>hg.block b (hS b hb).2.1 (Ne.symm (hS b hb).2.2)).mono fun b hb=>⟨(hS b hb).1,aX_ (hS b hb).2.1 hg.size,fun e=>by
   rcases hat b e with e|e
   ·exact (hS b hb).2.2 e
   ·have:=(hS b hb).2.1;omega⟩
 refine⟨by rw[eu_ _ _ _ _ h.len,List.length_append];exact ho,by simp[h.len],fun j u y h1 h2=>?_⟩
 rcases Nat.lt_or_ge j acc.length with hlt|hge
 ·rw[List.getElem?_append_left hlt] at h1
  rw[List.getElem?_append_left (by rw[h.len];exact hlt)] at h2;exact kp (fun b hb=>hb) (h.at_ j u y h1 h2)
 ·have hj:j=acc.length:=by
   have:=(List.getElem?_eq_some_iff.1 h1).1;simp at this;omega
  subst hj;rw[List.getElem?_append_right (aw_ _)] at h1;rw[← h.len,List.getElem?_append_right (aw_ _)] at h2;simp at h1 h2;subst h1 h2;exact kp hS hx
theorem Acc.args {lo:Nat}{w:World}{v:Value}{acc:List Ty}{svs:List Value}(h:Acc lo w v acc svs)(hl:acc.length≤4000):ac_ (In lo w.heap.size) w v acc:=by
 rcases h.own.2 with ⟨rfl,h0⟩|⟨g,cap,cur,rfl,hb,hg,h1,h2,h3,h4⟩
 ·have:acc=[]:=List.eq_nil_of_length_eq_zero h0
  subst this;exact .nil _ _
 ·refine .mk g 0 cap acc (fun i=>svs.getD i (.slice none 0 0)) ⟨hb,(Array.getElem?_eq_some_iff.1 hg).1⟩ (by omega) (fun i hi=>?_) (fun i hi=>?_)
  ·have hi':i<svs.length:=by rw[h.len];exact hi
   obtain⟨a0,a1,a2,a3⟩:=eK_ acc svs h.len i hi hi';have hc:=h.own.cells (g:=g) rfl;have hadd:∀ j,(⟨g,0,none⟩:Addr).add j=⟨g,j,none⟩:=fun j=>by unfold Addr.add;split<;>simp_all
   have b0:=hc _ _ a0;have b1:=hc _ _ a1;have b2:=hc _ _ a2;have b3:=hc _ _ a3;rw[hadd] at b0 b1 b2 b3;simp only[Nat.zero_add];rw[List.getD_eq_getElem?_getD,List.getElem?_eq_getElem hi'];exact⟨b0,b1,b2,b3⟩
  ·have hi':i<svs.length:=by rw[h.len];exact hi
   simp only[List.getD_eq_getElem?_getD,List.getElem?_eq_getElem hi',Option.getD_some];exact (h.at_ i _ _ (List.getElem?_eq_getElem hi) (List.getElem?_eq_getElem hi')).mono fun b hb=>⟨hb.1,hb.2.1⟩
theorem hY_:(Tryz.prog.info? 30).map (fun i=>(i.zero,i.size,i.bytes))=some (some (.agg #[.int .i64 0,.string ByteArray.empty,.int .i64 0,.slice none 0 0]),4,56):=by kernel_rfl
theorem a2_ {w:World}{base size:Nat}{e:TypeId}{v:Value}{n:Nat}{xs:List Value}(h:w.ownsRow base e size v n xs):∃ a cap,v=.slice a n cap:=by
 rcases h.2 with ⟨rfl,rfl⟩|⟨g,cap,cur,rfl,_⟩
 ·exact⟨_,_,rfl⟩
 ·exact⟨_,_,rfl⟩
open Lx
theorem cH_ {k:Nat}{s:List UInt8}{N B:Nat}{w:World}{l:List Tok}{b:Bool}(h:Rd N B w l)(hs:bf_ l k s=b) :
  Calls Tryz.prog 109 #[.pointer (some ⟨B,0,none⟩),.int .i64 (k:Int),.string ⟨s.toArray⟩] w fun e w'=>e=.returned (.bool b)∧w=w':=by
 have:=kN_ k s N B w l h;rw[hs] at this;exact this
theorem Rd.lt {N B:Nat}{w:World}{l:List Tok}(h:Rd N B w l):B<w.heap.size:=by
 obtain⟨v,hv⟩:=h.blk;exact (Array.getElem?_eq_some_iff.1 hv).1
theorem p5_ (n N B:Nat)(w:World)(l:List Tok)(ih:oH_ n)(h:Rd N B w l)(hN:N≤w.heap.size)(hok:c2_ l)(hl:l.length≤4000)(hn:4*l.length+3≤n+1)(h1:sk l 2=false):Calls Tryz.prog 95 #[.pointer (some ⟨B,0,none⟩)] w (do_ N B w (cm_ (n+1) l)):=by
 have hz:=ao_ w (.cells #[.int .i64 0,.string ByteArray.empty,.int .i64 0,.slice none 0 0] 30);have hr:=h.low hz;have C1:=hid (bG_ hr (k:=2) (s:=[]) (cI_ h1));have b4:=hid (B4.new w (.int .i64 0) (.string ByteArray.empty) (.int .i64 0) (.slice none 0 0));have HR:=hid hr;have CA:=hid (ih.atom N B _ l hr (by simp;omega) hok hl (by omega));have e:cm_ (n+1) l=aU_ n l:=by rw[cm_,h1,if_neg (by simp)]
 have E:=hid e;clear h hr h1 e hok ih hz;go_enter Tryz.func95,Tryz.ntmps95;go_wp2_with fail;refine C1.out.mono ?_;rintro e w1 ⟨rfl,rfl⟩;go_wp2_with fail;refine CA.out.mono ?_;rintro e w2 ⟨hg,hres⟩;have k4:=b4.out.grown hg (fun e=>b4.out.ne_rd HR.out (by injection e with e;exact e.symm));obtain⟨c0,c1,c2,c3⟩:=k4.c03;obtain⟨f0,f1,f2,f3⟩:=k4.f03;have K4:=hid k4;have G:=hid (ad_ (af_ (ao_ w (.cells #[.int .i64 0,.string ByteArray.empty,.int .i64 0,.slice none 0 0] 30))) hg);have hsz:=hg.size;have hBlt:=HR.out.lt;have hBne:=b4.out.ne_rd HR.out;clear k4 hg;cases hT:aU_ n l with
 | none =>
  rw[hT] at hres;obtain⟨k,s,m,a,c,c',rfl⟩:=hres;have E2:Hid (cm_ (n+1) l=none):=hid (E.out.trans hT);clear hT;go_wp2;have q4:=K4.out.set4 (.int .i64 k) (.string s) (.int .i64 m) (.slice a c c');have g4:=av_ G.out (aw_ _) (.int .i64 k) (.string s) (.int .i64 m) (.slice a c c');refine bodyPost_ret (v:=.tuple #[.agg #[.int .i64 k,.string s,.int .i64 m,.slice a c c'],.bool false]) (by simp[results,Tryz.results95,go_sem,q4.c0,q4.c1,q4.c2,q4.c3]) rfl ?_;rw[E2.out];exact⟨g4,_,_,_,_,_,_,rfl⟩
 | some x =>
  obtain⟨t,r⟩:=x;rw[hT] at hres;obtain⟨a,c,rfl,hA,hR⟩:=hres;have E2:Hid (cm_ (n+1) l=some (t,r)):=hid (E.out.trans hT);have HA:=hid hA;have RR:=hid hR;have hne:=K4.out.ne_rd hR;clear hT hA hR;unfold tv;go_wp2;have q4:=K4.out.set4 (.int .i64 t.kind) (.string t.name) (.int .i64 t.n) (.slice a t.args.length c);have g4:=av_ G.out (aw_ _) (.int .i64 t.kind) (.string t.name) (.int .i64 t.n) (.slice a t.args.length c);have r4:=RR.out.set4 (Ne.symm hne) hN (.int .i64 t.kind) (.string t.name) (.int .i64 t.n) (.slice a t.args.length c);have ha4:=HA.out.keep (B:=(((w2.setCell ⟨w.heap.size,0,none⟩ (.int .i64 t.kind)).setCell ⟨w.heap.size,1,none⟩ (.string t.name)).setCell ⟨w.heap.size,2,none⟩ (.int .i64 t.n)).setCell ⟨w.heap.size,3,none⟩ (.slice a t.args.length c)) (fun b hb=>by
   obtain⟨b1,b2⟩:=hb;simp at b1;rw[aM_ _ _ _ _ (by simp;omega),aM_ _ _ _ _ (by simp;omega),aM_ _ _ _ _ (by simp;omega),aM_ _ _ _ _ (by simp;omega)])
  refine bodyPost_ret (v:=.tuple #[tv t a c,.bool true]) (by simp[results,Tryz.results95,go_sem,tv,q4.c0,q4.c1,q4.c2,q4.c3]) rfl ?_;rw[E2.out];exact⟨g4,a,c,rfl,ha4.mono (fun b hb=>by obtain⟨b1,b2⟩:=hb;simp at b1;exact⟨by omega,by simpa using b2⟩),r4⟩
theorem hD_:∀ n:Nat,
  (∀ l x r,bT_ n l=some (x,r)→∀ t∈r,t∈l)∧(∀ l x r,ff_ n l=some (x,r)→∀ t∈r,t∈l) ∧
  (∀ l x r,cm_ n l=some (x,r)→∀ t∈r,t∈l)∧(∀ s acc l x r,bh_ n s acc l=some (x,r)→∀ t∈r,t∈l) ∧
  (∀ l x r,aU_ n l=some (x,r)→∀ t∈r,t∈l):=by
 intro n
 induction n with
 | zero=>exact⟨fun _ _ _ h=>by simp[bT_] at h,fun _ _ _ h=>by simp[ff_] at h,fun _ _ _ h=>by simp[cm_] at h,fun _ _ _ _ _ h=>by simp[bh_] at h,fun _ _ _ h=>by simp[aU_] at h⟩
 | succ n ih =>
  obtain⟨i1,i2,i3,i4,i5⟩:=ih;have tl:∀ {l:List Tok} {t:Tok},t∈l.tail→t∈l:=fun h=>List.mem_of_mem_tail h;have rl:∀ {l:List Tok} {t:Tok},t∈cZ_ l→t∈l:=fun h=>(List.dropWhile_sublist _).mem h;refine⟨fun l x r h=>?_,fun l x r h=>?_,fun l x r h=>?_,fun s acc l x r h=>?_,fun l x r h=>?_⟩
  ·rw[bT_] at h
   split at h
   ·exact fun t ht=>tl (i2 _ _ _ h t ht)
   ·split at h
    ·cases h
    ·next a r' h2 =>
     split at h
     ·split at h
      ·cases h
      ·next b r'' h4 =>
       simp only[Option.some.injEq,Prod.mk.injEq] at h;obtain⟨_,rfl⟩:=h;exact fun t ht=>i3 _ _ _ h2 t (tl (i1 _ _ _ h4 t ht))
     ·simp only[Option.some.injEq,Prod.mk.injEq] at h
      obtain⟨_,rfl⟩:=h;exact i3 _ _ _ h2
  ·rw[ff_] at h
   split at h
   ·cases h
   ·split at h
    ·cases h
    ·next t' r' h2 =>
     simp only[Option.some.injEq,Prod.mk.injEq] at h;obtain⟨_,rfl⟩:=h;exact fun t ht=>rl (tl (i1 _ _ _ h2 t ht))
  ·rw[cm_] at h
   split at h
   ·exact fun t ht=>tl (i4 _ _ _ _ _ h t ht)
   ·exact i5 _ _ _ h
  ·rw[bh_] at h
   split at h
   ·split at h
    ·cases h
    ·next x' r' h2=>exact fun t ht=>i5 _ _ _ h2 t (i4 _ _ _ _ _ h t ht)
   ·simp only[Option.some.injEq,Prod.mk.injEq] at h
    obtain⟨_,rfl⟩:=h;exact fun t ht=>ht
  ·rw[aU_] at h
   split at h
   ·simp only[Option.some.injEq,Prod.mk.injEq] at h
    obtain⟨_,rfl⟩:=h;exact fun t ht=>tl ht
   ·split at h
    ·simp only[Option.some.injEq,Prod.mk.injEq] at h
     obtain⟨_,rfl⟩:=h;exact fun t ht=>tl ht
    ·split at h
     ·simp only[Option.some.injEq,Prod.mk.injEq] at h
      obtain⟨_,rfl⟩:=h;exact fun t ht=>tl ht
     ·split at h
      ·split at h
       ·cases h
       ·next t' r' h2 =>
        split at h
        ·simp only[Option.some.injEq,Prod.mk.injEq] at h
         obtain⟨_,rfl⟩:=h;exact fun t ht=>tl (i1 _ _ _ h2 t (tl ht))
        ·cases h
      ·cases h
theorem el_ (m:Nat)(l:List Tok)(x:Ty)(r:List Tok)(h:c2_ l)(hT:aU_ m l=some (x,r)):c2_ r:=fun t ht=>h t ((hD_ m).2.2.2.2 _ _ _ hT t ht)
theorem al_ {w:World}{o:Obj}{k:Nat}(h:k=w.heap.size):(w.alloc o).heap[k]? = some o:=by subst h;exact heap_alloc_new w o
theorem Rd.grown {N B:Nat}{w w':World}{l:List Tok}{row:Option Nat}(h:Rd N B w l)(hg:w.grownBy w' row)(hB:row≠some B)(hN:∀ b,row=some b→¬ b<N):Rd N B w' l:=by
 obtain⟨a,cap,h1,h2,h3,h9⟩:=h;refine⟨a,cap,(hg.block B (Array.getElem?_eq_some_iff.1 h1).1 (Ne.symm hB)).trans h1,?_,h3,h9⟩;obtain⟨a',c',e,h4,h5|⟨b,off,h6,h7⟩⟩:=h2
 ·exact⟨a',c',e,h4,.inl h5⟩
 ·refine⟨a',c',e,h4,.inr ⟨b,off,h6,fun i hi=>?_⟩⟩
  injection e with e
  have hb:=h9 b off (by rw[e,h6]);obtain⟨c0,c1,c2⟩:=h7 i hi;have hbl:=World.block_lt_of_cell? w _ c0;have k:∀ o,w'.cell? ⟨b,o,none⟩=w.cell? ⟨b,o,none⟩:=fun o=>World.cell?_of_block (hg.block b hbl (fun e=>hN b e.symm hb));rw[k,k,k];exact⟨c0,c1,c2⟩
theorem rG_ (n N B:Nat)(w:World)(l:List Tok)(ih:∀ m,m≤n→oH_ m)(h:Rd N B w l)(hN:N≤w.heap.size)(hok:c2_ l)(hl:l.length≤4000)(hn:4*l.length+3≤n+1)(h1:sk l 2=true):Calls Tryz.prog 95 #[.pointer (some ⟨B,0,none⟩)] w (do_ N B w (cm_ (n+1) l)):=by
 have hz:=ao_ w (.cells #[.int .i64 0,.string ByteArray.empty,.int .i64 0,.slice none 0 0] 30);have hr:=h.low hz;have C1:=hid (cr_ hr (k:=2) (s:=[]) (cI_ h1));have b4:=hid (B4.new w (.int .i64 0) (.string ByteArray.empty) (.int .i64 0) (.slice none 0 0));have HR:=hid hr;have htl:l.tail.length+1=l.length:=by have:=ci_ h1;rw[List.length_tail];omega
 have e:cm_ (n+1) l=bh_ n (ab_ l) [] l.tail:=by rw[cm_,if_pos h1]
 have E:=hid e;have IH:=hid ih;have TO:=hid hok.tail;have hBw:=h.lt;clear h hr h1 e hok ih;go_enter Tryz.func95,Tryz.ntmps95;go_wp2_with fail;refine C1.out.mono ?_;rintro e w1 ⟨rfl,hrd,hg⟩;have k4:=b4.out.grown hg (fun e=>b4.out.ne_rd HR.out (by injection e with e;exact e.symm));have hs1:w.heap.size<w1.heap.size:=by have:=hg.size;simp at this;omega
 have hz1:=ao_ w1 (.cells #[.int .i64 3,.string (aa_ (ab_ l)),.int .i64 0,.slice none 0 0] 30);have KR1:=hid (k4.low hz1);have KT1:=hid (B4.new w1 (.int .i64 3) (.string (aa_ (ab_ l))) (.int .i64 0) (.slice none 0 0));have G1:=hid (ad_ (ad_ (af_ hz) hg) (af_ hz1));have R1:=hid (hrd.low hz1);clear k4 hrd hg hz hz1;go_wp2
 go_loopg [] l.tail.length (fun gk wr=>∃ (l':List Tok) (acc:List Ty) (svs:List Value) (m:Nat) (u:Value),gk=l'.length∧Rd N B wr l'∧c2_ l'∧l'.length≤4000∧4*l'.length+3≤m∧m≤n∧cm_ (n+1) l=bh_ m (ab_ l) acc l' ∧
  B4 wr w1.heap.size (.int .i64 3) (.string (aa_ (ab_ l))) (.int .i64 0) u∧Acc (w1.heap.size+1) wr u acc svs∧B4 wr w.heap.size (.int .i64 0) (.string ByteArray.empty) (.int .i64 0) (.slice none 0 0)∧w.grownBy wr (some B)∧acc.length+l'.length≤4000∧w1.heap.size+1≤wr.heap.size)
 case atStart=>exact⟨l.tail,[],[],n,_,rfl,R1.out,TO.out,by omega,by omega,aw_ _,E.out,KT1.out,Acc.nil _ _,KR1.out,G1.out,by simp;omega,by simp⟩
 case round =>
  clear KT1 KR1 G1 R1;obtain⟨l',acc,svs,m,u,rfl,hR,hTk,hl4,hm,hmn,hEQ,kt,ac,kr,gw,hal2,hsw⟩:=hrel;have hBr:B≠w.heap.size:=by omega
  have hBt:B≠w1.heap.size:=by omega
  have KR:=hid kr;have KT:=hid kt;have AC:=hid ac;have GW:=hid gw;have EQ:=hid hEQ;have TK:=hid hTk;have RR:=hid hR;obtain⟨m,rfl⟩:∃ k,m=k+1:=⟨m - 1,by omega⟩
  by_cases hst:dl_ l'=true
  ·have ST:=hid hst
   have IA:=hid ((IH.out m (by omega)).atom N B wr l' hR (by omega) hTk hl4 (by have:=hTk;omega));have hstl:dl_ l'=(sk l' 1 || sk l' 5 || sk l' 2 || st l' 6 bX_):=rfl;rw[hst] at hstl;cases h1:sk l' 1
   ·cases h5:sk l' 5
    ·cases h2:sk l' 2
     ·have h6:st l' 6 bX_=true:=by rw[h1,h5,h2] at hstl;simpa using hstl.symm
      have S1:=hid (cH_ hR (k:=1) (s:=[]) (cI_ h1));have S2:=hid (cH_ hR (k:=5) (s:=[]) (cI_ h5));have S3:=hid (cH_ hR (k:=2) (s:=[]) (cI_ h2));have S4:=hid (cH_ hR (k:=6) (s:=bX_) (gj_ (by decide) h6));clear h1 h5 h2 h6 hstl hst hR hTk hEQ kt ac kr gw;go_wp2_with fail;refine S1.out.mono ?_;rintro e w3 ⟨rfl,rfl⟩;go_wp2_with fail;refine S2.out.mono ?_;rintro e w3 ⟨rfl,rfl⟩;go_wp2_with fail;refine S3.out.mono ?_;rintro e w3 ⟨rfl,rfl⟩;go_wp2_with fail;refine S4.out.mono ?_;rintro e w3 ⟨rfl,rfl⟩;go_wp2_with fail;refine IA.out.mono ?_;rintro e w4 ⟨hg4,hres⟩;have k4r:=KR.out.grown hg4 (fun e=>hBr (by injection e));have k4t:=KT.out.grown hg4 (fun e=>hBt (by injection e));have hsz4:=hg4.size;have KR4:=hid k4r;have KT4:=hid k4t;have G4:=hid (ad_ GW.out hg4);have H4:=hid hg4;clear k4r k4t hg4;cases hT:aU_ m l' with
      | none =>
       rw[hT] at hres;obtain⟨k,s,mm,a,c,c',rfl⟩:=hres;have E2:Hid (cm_ (n+1) l=none):=hid (by rw[EQ.out,bh_,if_pos ST.out,hT]);have hz:=ao_ w4 (.cells #[.int .i64 k,.string s,.int .i64 mm,.slice a c c'] 30);have k5:=KR4.out.low hz;obtain⟨c0,c1,c2,c3⟩:=k5.c03;obtain⟨f0,f1,f2,f3⟩:=k5.f03;have K5:=hid k5;have G5:=hid (ad_ G4.out (af_ hz));clear hT k5 hz;go_wp2;have q4:=K5.out.set4 (.int .i64 0) (.string ⟨#[]⟩) (.int .i64 0) (.slice none 0 0);have g4:=av_ G5.out (aw_ _) (.int .i64 0) (.string ⟨#[]⟩) (.int .i64 0) (.slice none 0 0);refine bodyPost_ret (v:=.tuple #[zv,.bool false]) (by simp[results,Tryz.results95,go_sem,zv,q4.c0,q4.c1,q4.c2,q4.c3]) rfl ?_;rw[E2.out];exact⟨g4,_,_,_,_,_,_,rfl⟩
      | some x =>
       obtain⟨x,r⟩:=x;rw[hT] at hres;obtain⟨a,c,rfl,hA,hR⟩:=hres;have hsh:=(dF_ m).2.2.2.2 _ _ _ hT;have hEQ2:cm_ (n+1) l=bh_ m (ab_ l) (acc++[x]) r:=(by rw[EQ.out,bh_,if_pos ST.out,hT]);have EQ2:=hid hEQ2;have hz:=ao_ w4 (.cells #[.int .i64 x.kind,.string x.name,.int .i64 x.n,.slice a x.args.length c] 30);have hz2:=hz.alloc (by simp) (.cells #[.int .i64 x.kind,.string x.name,.int .i64 x.n,.slice a x.args.length c] 30);have hAc:=(AC.out.keep (w':=w4) hsz4 (fun b hb hlb=>H4.out.block b hlb (fun e=>by injection e;omega)));have hAc2:=hAc.keep hz2.size (fun b hb hlb=>hz2.block b hlb);have hx2:=hA.keep (fun b hb=>hz2.block b hb.2);have R6:=hR.low hz2;have cx:=(B4.new w4 (.int .i64 x.kind) (.string x.name) (.int .i64 x.n) (.slice a x.args.length c));have kt5:=KT4.out.low hz;have kt6:=KT4.out.low hz2;have t3:=kt5.c3;have ct3:=kt6.c3;have ft3:=kt6.fr 3;obtain⟨x0,x1,x2,x3⟩:=cx.c03;have KT6:=hid kt6;have KR6:=hid (KR4.out.low hz2);have G6:=hid (ad_ G4.out (af_ hz2));have A6:=hid hAc2;have X6:=hid hx2;have RR6:=hid R6;have hva:∀ b,u.ownBlock=some b→b<wr.heap.size:=fun b hb=>(AC.out.own.lt b hb).2;have HVA:=hid hva;have hal:=AC.out.len;have hnt:u.ownBlock≠some (w1.heap.size):=fun e=>by have:=(AC.out.own.lt _ e).1;omega
       have hnr:u.ownBlock≠some (w.heap.size):=fun e=>by have:=(AC.out.own.lt _ e).1;omega
       have HNT:=hid hnt;have HNR:=hid hnr;have HTX:=hid hT;clear hT hA hR hEQ2 hAc hAc2 hx2 R6 cx kt5 kt6 hz hva hnt hnr;obtain⟨i0,hi0,hz0,hz1,hz3⟩:=info_parts hY_;unfold tv;go_wp2_with (at_builtin;refine wpList_append_lies _ rfl _ _ _ rfl (w1.heap.size+1) 30 i0 _ 4 56 Tryz.underlying28 hi0 hz0 hz1 hz3 rfl (by omega) u acc.length (bQ_ acc svs) rfl A6.out.own ⟨w4.heap.size+1,0,none⟩ 1 1 (dy_ x (.slice a x.args.length c)) rfl rfl (World.news_of_block (cs:=#[.int .i64 x.kind,.string x.name,.int .i64 x.n,.slice a x.args.length c]) (t:=30) (fr:=(0,0)) (al_ (by simp))) (by simp[dy_,Value.oneCell']) (by omega) (by unfold maxLen;omega) (by omega) (by simp;omega) (w4.heap.size+1+1) (by simp) ?_;intro gg cap w7 hown7 hgrow7 hat7 hlt7;have kt7:=KT6.out.grown hgrow7 (fun e=>HNT.out e);have c73:=kt7.c3;have f73:=kt7.fr 3;have KT7:=hid kt7;clear kt7);have hA7:=A6.out.add (v':=.slice (some ⟨gg,0,none⟩) (acc.length+1) cap) X6.out (fun b hb=>⟨by have:=hb.1;omega,by have:=hb.2;simp;omega,fun e=>by have:=HVA.out b e;have:=hb.1;omega⟩) hgrow7 hown7 (fun b hb=>by
        simp only[Value.ownBlock,Option.some.injEq] at hb;subst hb
        rcases hat7 with e|e
        ·exact .inl e
        ·right;subst e;simp)
       have hsz7:=hgrow7.size;have hw7:w4.heap.size+1+1≤w7.heap.size:=by simpa using hsz7
       have KR7:=KR6.out.grown hgrow7 (fun e=>HNR.out e);have R7:=RR6.out.grown hgrow7 (fun e=>by have:=(A6.out.own.lt _ e).1;omega) (fun b e hb=>by have:=(A6.out.own.lt _ e).1;omega);have hown8:w.grownBy w7 (some B):=⟨hgrow7.os.trans G6.out.os,hgrow7.tape.trans G6.out.tape,hgrow7.output.trans G6.out.output,by omega,fun k hk hr=>(hgrow7.block k (by simp;omega) (fun e=>by have:=(A6.out.own.lt _ e.symm).1;omega)).trans (G6.out.block k hk hr)⟩;have G8:Hid (w.grownBy (w7.setCell ⟨w1.heap.size,3,none⟩ (.slice (some ⟨gg,0,none⟩) (acc.length+1) cap)) (some B)):=hid ⟨hown8.os,hown8.tape,hown8.output,by simpa using hown8.size,fun k hk hr=>(aM_ _ _ _ _ (by simp;omega)).trans (hown8.block k hk hr)⟩;have A8:=hid (hA7.keep (w':=w7.setCell ⟨w1.heap.size,3,none⟩ (.slice (some ⟨gg,0,none⟩) (acc.length+1) cap)) (by simp) (fun b hb _=>aM_ _ _ _ _ (by simp;omega)));have K8:Hid (B4 (w7.setCell ⟨w1.heap.size,3,none⟩ (.slice (some ⟨gg,0,none⟩) (acc.length+1) cap)) w1.heap.size (.int .i64 3) (.string (aa_ (ab_ l))) (.int .i64 0) (.slice (some ⟨gg,0,none⟩) (acc.length+1) cap)):=hid (by
        have:=KT7.out;unfold B4 at *;rw[ak_ this];rfl)
       have KR8:Hid (B4 (w7.setCell ⟨w1.heap.size,3,none⟩ (.slice (some ⟨gg,0,none⟩) (acc.length+1) cap)) w.heap.size (.int .i64 0) (.string ByteArray.empty) (.int .i64 0) (.slice none 0 0)):=hid ((aM_ _ _ _ _ (by simp;omega)).trans KR7);have R8:=hid (R7.set (p:=⟨w1.heap.size,3,none⟩) hBt (by simp;omega) (.slice (some ⟨gg,0,none⟩) (acc.length+1) cap));clear hA7 hgrow7 hown7 hown8 hat7 hlt7 c73 f73 KR7 R7;go_wp2;go_roundg r.length
       case measure=>omega
       case rel=>exact⟨r,acc++[x],svs++[.slice a x.args.length c],m,_,rfl,R8.out,el_ m l' x r TK.out HTX.out,by omega,by omega,by omega,EQ2.out,K8.out,A8.out,KR8.out,G8.out,by rw[List.length_append];simp;omega,by simp;omega⟩
     ·have S1:=hid (cH_ hR (k:=1) (s:=[]) (cI_ h1))
      have S2:=hid (cH_ hR (k:=5) (s:=[]) (cI_ h5));have S3:=hid (cH_ hR (k:=2) (s:=[]) (cI_ h2));clear h1 h5 h2 hstl hst hR hTk hEQ kt ac kr gw;go_wp2_with fail;refine S1.out.mono ?_;rintro e w3 ⟨rfl,rfl⟩;go_wp2_with fail;refine S2.out.mono ?_;rintro e w3 ⟨rfl,rfl⟩;go_wp2_with fail;refine S3.out.mono ?_;rintro e w3 ⟨rfl,rfl⟩;go_wp2_with fail;refine IA.out.mono ?_;rintro e w4 ⟨hg4,hres⟩;have k4r:=KR.out.grown hg4 (fun e=>hBr (by injection e));have k4t:=KT.out.grown hg4 (fun e=>hBt (by injection e));have hsz4:=hg4.size;have KR4:=hid k4r;have KT4:=hid k4t;have G4:=hid (ad_ GW.out hg4);have H4:=hid hg4;clear k4r k4t hg4;cases hT:aU_ m l' with
      | none =>
       rw[hT] at hres;obtain⟨k,s,mm,a,c,c',rfl⟩:=hres;have E2:Hid (cm_ (n+1) l=none):=hid (by rw[EQ.out,bh_,if_pos ST.out,hT]);have hz:=ao_ w4 (.cells #[.int .i64 k,.string s,.int .i64 mm,.slice a c c'] 30);have k5:=KR4.out.low hz;obtain⟨c0,c1,c2,c3⟩:=k5.c03;obtain⟨f0,f1,f2,f3⟩:=k5.f03;have K5:=hid k5;have G5:=hid (ad_ G4.out (af_ hz));clear hT k5 hz;go_wp2;have q4:=K5.out.set4 (.int .i64 0) (.string ⟨#[]⟩) (.int .i64 0) (.slice none 0 0);have g4:=av_ G5.out (aw_ _) (.int .i64 0) (.string ⟨#[]⟩) (.int .i64 0) (.slice none 0 0);refine bodyPost_ret (v:=.tuple #[zv,.bool false]) (by simp[results,Tryz.results95,go_sem,zv,q4.c0,q4.c1,q4.c2,q4.c3]) rfl ?_;rw[E2.out];exact⟨g4,_,_,_,_,_,_,rfl⟩
      | some x =>
       obtain⟨x,r⟩:=x;rw[hT] at hres;obtain⟨a,c,rfl,hA,hR⟩:=hres;have hsh:=(dF_ m).2.2.2.2 _ _ _ hT;have hEQ2:cm_ (n+1) l=bh_ m (ab_ l) (acc++[x]) r:=(by rw[EQ.out,bh_,if_pos ST.out,hT]);have EQ2:=hid hEQ2;have hz:=ao_ w4 (.cells #[.int .i64 x.kind,.string x.name,.int .i64 x.n,.slice a x.args.length c] 30);have hz2:=hz.alloc (by simp) (.cells #[.int .i64 x.kind,.string x.name,.int .i64 x.n,.slice a x.args.length c] 30);have hAc:=(AC.out.keep (w':=w4) hsz4 (fun b hb hlb=>H4.out.block b hlb (fun e=>by injection e;omega)));have hAc2:=hAc.keep hz2.size (fun b hb hlb=>hz2.block b hlb);have hx2:=hA.keep (fun b hb=>hz2.block b hb.2);have R6:=hR.low hz2;have cx:=(B4.new w4 (.int .i64 x.kind) (.string x.name) (.int .i64 x.n) (.slice a x.args.length c));have kt5:=KT4.out.low hz;have kt6:=KT4.out.low hz2;have t3:=kt5.c3;have ct3:=kt6.c3;have ft3:=kt6.fr 3;obtain⟨x0,x1,x2,x3⟩:=cx.c03;have KT6:=hid kt6;have KR6:=hid (KR4.out.low hz2);have G6:=hid (ad_ G4.out (af_ hz2));have A6:=hid hAc2;have X6:=hid hx2;have RR6:=hid R6;have hva:∀ b,u.ownBlock=some b→b<wr.heap.size:=fun b hb=>(AC.out.own.lt b hb).2;have HVA:=hid hva;have hal:=AC.out.len;have hnt:u.ownBlock≠some (w1.heap.size):=fun e=>by have:=(AC.out.own.lt _ e).1;omega
       have hnr:u.ownBlock≠some (w.heap.size):=fun e=>by have:=(AC.out.own.lt _ e).1;omega
       have HNT:=hid hnt;have HNR:=hid hnr;have HTX:=hid hT;clear hT hA hR hEQ2 hAc hAc2 hx2 R6 cx kt5 kt6 hz hva hnt hnr;obtain⟨i0,hi0,hz0,hz1,hz3⟩:=info_parts hY_;unfold tv;go_wp2_with (at_builtin;refine wpList_append_lies _ rfl _ _ _ rfl (w1.heap.size+1) 30 i0 _ 4 56 Tryz.underlying28 hi0 hz0 hz1 hz3 rfl (by omega) u acc.length (bQ_ acc svs) rfl A6.out.own ⟨w4.heap.size+1,0,none⟩ 1 1 (dy_ x (.slice a x.args.length c)) rfl rfl (World.news_of_block (cs:=#[.int .i64 x.kind,.string x.name,.int .i64 x.n,.slice a x.args.length c]) (t:=30) (fr:=(0,0)) (al_ (by simp))) (by simp[dy_,Value.oneCell']) (by omega) (by unfold maxLen;omega) (by omega) (by simp;omega) (w4.heap.size+1+1) (by simp) ?_;intro gg cap w7 hown7 hgrow7 hat7 hlt7;have kt7:=KT6.out.grown hgrow7 (fun e=>HNT.out e);have c73:=kt7.c3;have f73:=kt7.fr 3;have KT7:=hid kt7;clear kt7);have hA7:=A6.out.add (v':=.slice (some ⟨gg,0,none⟩) (acc.length+1) cap) X6.out (fun b hb=>⟨by have:=hb.1;omega,by have:=hb.2;simp;omega,fun e=>by have:=HVA.out b e;have:=hb.1;omega⟩) hgrow7 hown7 (fun b hb=>by
        simp only[Value.ownBlock,Option.some.injEq] at hb;subst hb
        rcases hat7 with e|e
        ·exact .inl e
        ·right;subst e;simp)
       have hsz7:=hgrow7.size;have hw7:w4.heap.size+1+1≤w7.heap.size:=by simpa using hsz7
       have KR7:=KR6.out.grown hgrow7 (fun e=>HNR.out e);have R7:=RR6.out.grown hgrow7 (fun e=>by have:=(A6.out.own.lt _ e).1;omega) (fun b e hb=>by have:=(A6.out.own.lt _ e).1;omega);have hown8:w.grownBy w7 (some B):=⟨hgrow7.os.trans G6.out.os,hgrow7.tape.trans G6.out.tape,hgrow7.output.trans G6.out.output,by omega,fun k hk hr=>(hgrow7.block k (by simp;omega) (fun e=>by have:=(A6.out.own.lt _ e.symm).1;omega)).trans (G6.out.block k hk hr)⟩;have G8:Hid (w.grownBy (w7.setCell ⟨w1.heap.size,3,none⟩ (.slice (some ⟨gg,0,none⟩) (acc.length+1) cap)) (some B)):=hid ⟨hown8.os,hown8.tape,hown8.output,by simpa using hown8.size,fun k hk hr=>(aM_ _ _ _ _ (by simp;omega)).trans (hown8.block k hk hr)⟩;have A8:=hid (hA7.keep (w':=w7.setCell ⟨w1.heap.size,3,none⟩ (.slice (some ⟨gg,0,none⟩) (acc.length+1) cap)) (by simp) (fun b hb _=>aM_ _ _ _ _ (by simp;omega)));have K8:Hid (B4 (w7.setCell ⟨w1.heap.size,3,none⟩ (.slice (some ⟨gg,0,none⟩) (acc.length+1) cap)) w1.heap.size (.int .i64 3) (.string (aa_ (ab_ l))) (.int .i64 0) (.slice (some ⟨gg,0,none⟩) (acc.length+1) cap)):=hid (by
        have:=KT7.out;unfold B4 at *;rw[ak_ this];rfl)
       have KR8:Hid (B4 (w7.setCell ⟨w1.heap.size,3,none⟩ (.slice (some ⟨gg,0,none⟩) (acc.length+1) cap)) w.heap.size (.int .i64 0) (.string ByteArray.empty) (.int .i64 0) (.slice none 0 0)):=hid ((aM_ _ _ _ _ (by simp;omega)).trans KR7);have R8:=hid (R7.set (p:=⟨w1.heap.size,3,none⟩) hBt (by simp;omega) (.slice (some ⟨gg,0,none⟩) (acc.length+1) cap));clear hA7 hgrow7 hown7 hown8 hat7 hlt7 c73 f73 KR7 R7;go_wp2;go_roundg r.length
       case measure=>omega
       case rel=>exact⟨r,acc++[x],svs++[.slice a x.args.length c],m,_,rfl,R8.out,el_ m l' x r TK.out HTX.out,by omega,by omega,by omega,EQ2.out,K8.out,A8.out,KR8.out,G8.out,by rw[List.length_append];simp;omega,by simp;omega⟩
    ·next =>
      have S1:=hid (cH_ hR (k:=1) (s:=[]) (cI_ h1));have S2:=hid (cH_ hR (k:=5) (s:=[]) (cI_ h5));clear h1 h5 hstl hst hR hTk hEQ kt ac kr gw;go_wp2_with fail;refine S1.out.mono ?_;rintro e w3 ⟨rfl,rfl⟩;go_wp2_with fail;refine S2.out.mono ?_;rintro e w3 ⟨rfl,rfl⟩;go_wp2_with fail;refine IA.out.mono ?_;rintro e w4 ⟨hg4,hres⟩;have k4r:=KR.out.grown hg4 (fun e=>hBr (by injection e));have k4t:=KT.out.grown hg4 (fun e=>hBt (by injection e));have hsz4:=hg4.size;have KR4:=hid k4r;have KT4:=hid k4t;have G4:=hid (ad_ GW.out hg4);have H4:=hid hg4;clear k4r k4t hg4;cases hT:aU_ m l' with
      | none =>
       rw[hT] at hres;obtain⟨k,s,mm,a,c,c',rfl⟩:=hres;have E2:Hid (cm_ (n+1) l=none):=hid (by rw[EQ.out,bh_,if_pos ST.out,hT]);have hz:=ao_ w4 (.cells #[.int .i64 k,.string s,.int .i64 mm,.slice a c c'] 30);have k5:=KR4.out.low hz;obtain⟨c0,c1,c2,c3⟩:=k5.c03;obtain⟨f0,f1,f2,f3⟩:=k5.f03;have K5:=hid k5;have G5:=hid (ad_ G4.out (af_ hz));clear hT k5 hz;go_wp2;have q4:=K5.out.set4 (.int .i64 0) (.string ⟨#[]⟩) (.int .i64 0) (.slice none 0 0);have g4:=av_ G5.out (aw_ _) (.int .i64 0) (.string ⟨#[]⟩) (.int .i64 0) (.slice none 0 0);refine bodyPost_ret (v:=.tuple #[zv,.bool false]) (by simp[results,Tryz.results95,go_sem,zv,q4.c0,q4.c1,q4.c2,q4.c3]) rfl ?_;rw[E2.out];exact⟨g4,_,_,_,_,_,_,rfl⟩
      | some x =>
       obtain⟨x,r⟩:=x;rw[hT] at hres;obtain⟨a,c,rfl,hA,hR⟩:=hres;have hsh:=(dF_ m).2.2.2.2 _ _ _ hT;have hEQ2:cm_ (n+1) l=bh_ m (ab_ l) (acc++[x]) r:=(by rw[EQ.out,bh_,if_pos ST.out,hT]);have EQ2:=hid hEQ2;have hz:=ao_ w4 (.cells #[.int .i64 x.kind,.string x.name,.int .i64 x.n,.slice a x.args.length c] 30);have hz2:=hz.alloc (by simp) (.cells #[.int .i64 x.kind,.string x.name,.int .i64 x.n,.slice a x.args.length c] 30);have hAc:=(AC.out.keep (w':=w4) hsz4 (fun b hb hlb=>H4.out.block b hlb (fun e=>by injection e;omega)));have hAc2:=hAc.keep hz2.size (fun b hb hlb=>hz2.block b hlb);have hx2:=hA.keep (fun b hb=>hz2.block b hb.2);have R6:=hR.low hz2;have cx:=(B4.new w4 (.int .i64 x.kind) (.string x.name) (.int .i64 x.n) (.slice a x.args.length c));have kt5:=KT4.out.low hz;have kt6:=KT4.out.low hz2;have t3:=kt5.c3;have ct3:=kt6.c3;have ft3:=kt6.fr 3;obtain⟨x0,x1,x2,x3⟩:=cx.c03;have KT6:=hid kt6;have KR6:=hid (KR4.out.low hz2);have G6:=hid (ad_ G4.out (af_ hz2));have A6:=hid hAc2;have X6:=hid hx2;have RR6:=hid R6;have hva:∀ b,u.ownBlock=some b→b<wr.heap.size:=fun b hb=>(AC.out.own.lt b hb).2;have HVA:=hid hva;have hal:=AC.out.len;have hnt:u.ownBlock≠some (w1.heap.size):=fun e=>by have:=(AC.out.own.lt _ e).1;omega
       have hnr:u.ownBlock≠some (w.heap.size):=fun e=>by have:=(AC.out.own.lt _ e).1;omega
       have HNT:=hid hnt;have HNR:=hid hnr;have HTX:=hid hT;clear hT hA hR hEQ2 hAc hAc2 hx2 R6 cx kt5 kt6 hz hva hnt hnr;obtain⟨i0,hi0,hz0,hz1,hz3⟩:=info_parts hY_;unfold tv;go_wp2_with (at_builtin;refine wpList_append_lies _ rfl _ _ _ rfl (w1.heap.size+1) 30 i0 _ 4 56 Tryz.underlying28 hi0 hz0 hz1 hz3 rfl (by omega) u acc.length (bQ_ acc svs) rfl A6.out.own ⟨w4.heap.size+1,0,none⟩ 1 1 (dy_ x (.slice a x.args.length c)) rfl rfl (World.news_of_block (cs:=#[.int .i64 x.kind,.string x.name,.int .i64 x.n,.slice a x.args.length c]) (t:=30) (fr:=(0,0)) (al_ (by simp))) (by simp[dy_,Value.oneCell']) (by omega) (by unfold maxLen;omega) (by omega) (by simp;omega) (w4.heap.size+1+1) (by simp) ?_;intro gg cap w7 hown7 hgrow7 hat7 hlt7;have kt7:=KT6.out.grown hgrow7 (fun e=>HNT.out e);have c73:=kt7.c3;have f73:=kt7.fr 3;have KT7:=hid kt7;clear kt7);have hA7:=A6.out.add (v':=.slice (some ⟨gg,0,none⟩) (acc.length+1) cap) X6.out (fun b hb=>⟨by have:=hb.1;omega,by have:=hb.2;simp;omega,fun e=>by have:=HVA.out b e;have:=hb.1;omega⟩) hgrow7 hown7 (fun b hb=>by
        simp only[Value.ownBlock,Option.some.injEq] at hb;subst hb
        rcases hat7 with e|e
        ·exact .inl e
        ·right;subst e;simp)
       have hsz7:=hgrow7.size;have hw7:w4.heap.size+1+1≤w7.heap.size:=by simpa using hsz7
       have KR7:=KR6.out.grown hgrow7 (fun e=>HNR.out e);have R7:=RR6.out.grown hgrow7 (fun e=>by have:=(A6.out.own.lt _ e).1;omega) (fun b e hb=>by have:=(A6.out.own.lt _ e).1;omega);have hown8:w.grownBy w7 (some B):=⟨hgrow7.os.trans G6.out.os,hgrow7.tape.trans G6.out.tape,hgrow7.output.trans G6.out.output,by omega,fun k hk hr=>(hgrow7.block k (by simp;omega) (fun e=>by have:=(A6.out.own.lt _ e.symm).1;omega)).trans (G6.out.block k hk hr)⟩;have G8:Hid (w.grownBy (w7.setCell ⟨w1.heap.size,3,none⟩ (.slice (some ⟨gg,0,none⟩) (acc.length+1) cap)) (some B)):=hid ⟨hown8.os,hown8.tape,hown8.output,by simpa using hown8.size,fun k hk hr=>(aM_ _ _ _ _ (by simp;omega)).trans (hown8.block k hk hr)⟩;have A8:=hid (hA7.keep (w':=w7.setCell ⟨w1.heap.size,3,none⟩ (.slice (some ⟨gg,0,none⟩) (acc.length+1) cap)) (by simp) (fun b hb _=>aM_ _ _ _ _ (by simp;omega)));have K8:Hid (B4 (w7.setCell ⟨w1.heap.size,3,none⟩ (.slice (some ⟨gg,0,none⟩) (acc.length+1) cap)) w1.heap.size (.int .i64 3) (.string (aa_ (ab_ l))) (.int .i64 0) (.slice (some ⟨gg,0,none⟩) (acc.length+1) cap)):=hid (by
        have:=KT7.out;unfold B4 at *;rw[ak_ this];rfl)
       have KR8:Hid (B4 (w7.setCell ⟨w1.heap.size,3,none⟩ (.slice (some ⟨gg,0,none⟩) (acc.length+1) cap)) w.heap.size (.int .i64 0) (.string ByteArray.empty) (.int .i64 0) (.slice none 0 0)):=hid ((aM_ _ _ _ _ (by simp;omega)).trans KR7);have R8:=hid (R7.set (p:=⟨w1.heap.size,3,none⟩) hBt (by simp;omega) (.slice (some ⟨gg,0,none⟩) (acc.length+1) cap));clear hA7 hgrow7 hown7 hown8 hat7 hlt7 c73 f73 KR7 R7;go_wp2;go_roundg r.length
       case measure=>omega
       case rel=>exact⟨r,acc++[x],svs++[.slice a x.args.length c],m,_,rfl,R8.out,el_ m l' x r TK.out HTX.out,by omega,by omega,by omega,EQ2.out,K8.out,A8.out,KR8.out,G8.out,by rw[List.length_append];simp;omega,by simp;omega⟩
   ·next =>
      have S1:=hid (cH_ hR (k:=1) (s:=[]) (cI_ h1));clear h1 hstl hst hR hTk hEQ kt ac kr gw;go_wp2_with fail;refine S1.out.mono ?_;rintro e w3 ⟨rfl,rfl⟩;go_wp2_with fail;refine IA.out.mono ?_;rintro e w4 ⟨hg4,hres⟩;have k4r:=KR.out.grown hg4 (fun e=>hBr (by injection e));have k4t:=KT.out.grown hg4 (fun e=>hBt (by injection e));have hsz4:=hg4.size;have KR4:=hid k4r;have KT4:=hid k4t;have G4:=hid (ad_ GW.out hg4);have H4:=hid hg4;clear k4r k4t hg4;cases hT:aU_ m l' with
      | none =>
       rw[hT] at hres;obtain⟨k,s,mm,a,c,c',rfl⟩:=hres;have E2:Hid (cm_ (n+1) l=none):=hid (by rw[EQ.out,bh_,if_pos ST.out,hT]);have hz:=ao_ w4 (.cells #[.int .i64 k,.string s,.int .i64 mm,.slice a c c'] 30);have k5:=KR4.out.low hz;obtain⟨c0,c1,c2,c3⟩:=k5.c03;obtain⟨f0,f1,f2,f3⟩:=k5.f03;have K5:=hid k5;have G5:=hid (ad_ G4.out (af_ hz));clear hT k5 hz;go_wp2;have q4:=K5.out.set4 (.int .i64 0) (.string ⟨#[]⟩) (.int .i64 0) (.slice none 0 0);have g4:=av_ G5.out (aw_ _) (.int .i64 0) (.string ⟨#[]⟩) (.int .i64 0) (.slice none 0 0);refine bodyPost_ret (v:=.tuple #[zv,.bool false]) (by simp[results,Tryz.results95,go_sem,zv,q4.c0,q4.c1,q4.c2,q4.c3]) rfl ?_;rw[E2.out];exact⟨g4,_,_,_,_,_,_,rfl⟩
      | some x =>
       obtain⟨x,r⟩:=x;rw[hT] at hres;obtain⟨a,c,rfl,hA,hR⟩:=hres;have hsh:=(dF_ m).2.2.2.2 _ _ _ hT;have hEQ2:cm_ (n+1) l=bh_ m (ab_ l) (acc++[x]) r:=(by rw[EQ.out,bh_,if_pos ST.out,hT]);have EQ2:=hid hEQ2;have hz:=ao_ w4 (.cells #[.int .i64 x.kind,.string x.name,.int .i64 x.n,.slice a x.args.length c] 30);have hz2:=hz.alloc (by simp) (.cells #[.int .i64 x.kind,.string x.name,.int .i64 x.n,.slice a x.args.length c] 30);have hAc:=(AC.out.keep (w':=w4) hsz4 (fun b hb hlb=>H4.out.block b hlb (fun e=>by injection e;omega)));have hAc2:=hAc.keep hz2.size (fun b hb hlb=>hz2.block b hlb);have hx2:=hA.keep (fun b hb=>hz2.block b hb.2);have R6:=hR.low hz2;have cx:=(B4.new w4 (.int .i64 x.kind) (.string x.name) (.int .i64 x.n) (.slice a x.args.length c));have kt5:=KT4.out.low hz;have kt6:=KT4.out.low hz2;have t3:=kt5.c3;have ct3:=kt6.c3;have ft3:=kt6.fr 3;obtain⟨x0,x1,x2,x3⟩:=cx.c03;have KT6:=hid kt6;have KR6:=hid (KR4.out.low hz2);have G6:=hid (ad_ G4.out (af_ hz2));have A6:=hid hAc2;have X6:=hid hx2;have RR6:=hid R6;have hva:∀ b,u.ownBlock=some b→b<wr.heap.size:=fun b hb=>(AC.out.own.lt b hb).2;have HVA:=hid hva;have hal:=AC.out.len;have hnt:u.ownBlock≠some (w1.heap.size):=fun e=>by have:=(AC.out.own.lt _ e).1;omega
       have hnr:u.ownBlock≠some (w.heap.size):=fun e=>by have:=(AC.out.own.lt _ e).1;omega
       have HNT:=hid hnt;have HNR:=hid hnr;have HTX:=hid hT;clear hT hA hR hEQ2 hAc hAc2 hx2 R6 cx kt5 kt6 hz hva hnt hnr;obtain⟨i0,hi0,hz0,hz1,hz3⟩:=info_parts hY_;unfold tv;go_wp2_with (at_builtin;refine wpList_append_lies _ rfl _ _ _ rfl (w1.heap.size+1) 30 i0 _ 4 56 Tryz.underlying28 hi0 hz0 hz1 hz3 rfl (by omega) u acc.length (bQ_ acc svs) rfl A6.out.own ⟨w4.heap.size+1,0,none⟩ 1 1 (dy_ x (.slice a x.args.length c)) rfl rfl (World.news_of_block (cs:=#[.int .i64 x.kind,.string x.name,.int .i64 x.n,.slice a x.args.length c]) (t:=30) (fr:=(0,0)) (al_ (by simp))) (by simp[dy_,Value.oneCell']) (by omega) (by unfold maxLen;omega) (by omega) (by simp;omega) (w4.heap.size+1+1) (by simp) ?_;intro gg cap w7 hown7 hgrow7 hat7 hlt7;have kt7:=KT6.out.grown hgrow7 (fun e=>HNT.out e);have c73:=kt7.c3;have f73:=kt7.fr 3;have KT7:=hid kt7;clear kt7);have hA7:=A6.out.add (v':=.slice (some ⟨gg,0,none⟩) (acc.length+1) cap) X6.out (fun b hb=>⟨by have:=hb.1;omega,by have:=hb.2;simp;omega,fun e=>by have:=HVA.out b e;have:=hb.1;omega⟩) hgrow7 hown7 (fun b hb=>by
        simp only[Value.ownBlock,Option.some.injEq] at hb;subst hb
        rcases hat7 with e|e
        ·exact .inl e
        ·right;subst e;simp)
       have hsz7:=hgrow7.size;have hw7:w4.heap.size+1+1≤w7.heap.size:=by simpa using hsz7
       have KR7:=KR6.out.grown hgrow7 (fun e=>HNR.out e);have R7:=RR6.out.grown hgrow7 (fun e=>by have:=(A6.out.own.lt _ e).1;omega) (fun b e hb=>by have:=(A6.out.own.lt _ e).1;omega);have hown8:w.grownBy w7 (some B):=⟨hgrow7.os.trans G6.out.os,hgrow7.tape.trans G6.out.tape,hgrow7.output.trans G6.out.output,by omega,fun k hk hr=>(hgrow7.block k (by simp;omega) (fun e=>by have:=(A6.out.own.lt _ e.symm).1;omega)).trans (G6.out.block k hk hr)⟩;have G8:Hid (w.grownBy (w7.setCell ⟨w1.heap.size,3,none⟩ (.slice (some ⟨gg,0,none⟩) (acc.length+1) cap)) (some B)):=hid ⟨hown8.os,hown8.tape,hown8.output,by simpa using hown8.size,fun k hk hr=>(aM_ _ _ _ _ (by simp;omega)).trans (hown8.block k hk hr)⟩;have A8:=hid (hA7.keep (w':=w7.setCell ⟨w1.heap.size,3,none⟩ (.slice (some ⟨gg,0,none⟩) (acc.length+1) cap)) (by simp) (fun b hb _=>aM_ _ _ _ _ (by simp;omega)));have K8:Hid (B4 (w7.setCell ⟨w1.heap.size,3,none⟩ (.slice (some ⟨gg,0,none⟩) (acc.length+1) cap)) w1.heap.size (.int .i64 3) (.string (aa_ (ab_ l))) (.int .i64 0) (.slice (some ⟨gg,0,none⟩) (acc.length+1) cap)):=hid (by
        have:=KT7.out;unfold B4 at *;rw[ak_ this];rfl)
       have KR8:Hid (B4 (w7.setCell ⟨w1.heap.size,3,none⟩ (.slice (some ⟨gg,0,none⟩) (acc.length+1) cap)) w.heap.size (.int .i64 0) (.string ByteArray.empty) (.int .i64 0) (.slice none 0 0)):=hid ((aM_ _ _ _ _ (by simp;omega)).trans KR7);have R8:=hid (R7.set (p:=⟨w1.heap.size,3,none⟩) hBt (by simp;omega) (.slice (some ⟨gg,0,none⟩) (acc.length+1) cap));clear hA7 hgrow7 hown7 hown8 hat7 hlt7 c73 f73 KR7 R7;go_wp2;go_roundg r.length
       case measure=>omega
       case rel=>exact⟨r,acc++[x],svs++[.slice a x.args.length c],m,_,rfl,R8.out,el_ m l' x r TK.out HTX.out,by omega,by omega,by omega,EQ2.out,K8.out,A8.out,KR8.out,G8.out,by rw[List.length_append];simp;omega,by simp;omega⟩
  ·have hst':dl_ l'=false:=by simpa using hst
   have hstl:(sk l' 1 || sk l' 5 || sk l' 2 || st l' 6 bX_)=false:=hst';simp only[Bool.or_eq_false_iff] at hstl;obtain⟨⟨⟨h1,h5⟩,h2⟩,h6⟩:=hstl;have S1:=hid (cH_ hR (k:=1) (s:=[]) (cI_ h1));have S2:=hid (cH_ hR (k:=5) (s:=[]) (cI_ h5));have S3:=hid (cH_ hR (k:=2) (s:=[]) (cI_ h2));have S4:=hid (cH_ hR (k:=6) (s:=bX_) (gj_ (by decide) h6));have E2:Hid (cm_ (n+1) l=some (fu_ (ab_ l) acc,l')):=hid (by rw[hEQ,bh_,if_neg hst]);obtain⟨ua,uc,rfl⟩:=a2_ ac.own;obtain⟨t0,t1,t2,t3⟩:=kt.c03;obtain⟨c0,c1,c2,c3⟩:=kr.c03;obtain⟨f0,f1,f2,f3⟩:=kr.f03;have hne:=kr.ne_rd hR;clear hst hst' h1 h5 h2 h6 hR hTk hEQ kt ac kr gw;go_wp2_with fail;refine S1.out.mono ?_;rintro e w3 ⟨rfl,rfl⟩;go_wp2_with fail;refine S2.out.mono ?_;rintro e w3 ⟨rfl,rfl⟩;go_wp2_with fail;refine S3.out.mono ?_;rintro e w3 ⟨rfl,rfl⟩;go_wp2_with fail;refine S4.out.mono ?_;rintro e w3 ⟨rfl,rfl⟩;go_wp2;have q4:=KR.out.set4 (.int .i64 3) (.string (aa_ (ab_ l))) (.int .i64 0) (.slice ua acc.length uc);have g4:=av_ GW.out (aw_ _) (.int .i64 3) (.string (aa_ (ab_ l))) (.int .i64 0) (.slice ua acc.length uc);have r4:=RR.out.set4 (Ne.symm hne) hN (.int .i64 3) (.string (aa_ (ab_ l))) (.int .i64 0) (.slice ua acc.length uc);have ha4:=(AC.out.args (by omega)).keep (B:=(((wr.setCell ⟨w.heap.size,0,none⟩ (.int .i64 3)).setCell ⟨w.heap.size,1,none⟩ (.string (aa_ (ab_ l)))).setCell ⟨w.heap.size,2,none⟩ (.int .i64 0)).setCell ⟨w.heap.size,3,none⟩ (.slice ua acc.length uc)) (fun b hb=>by
    have b1:=hb.1;rw[aM_ _ _ _ _ (by simp;omega),aM_ _ _ _ _ (by simp;omega),aM_ _ _ _ _ (by simp;omega),aM_ _ _ _ _ (by simp;omega)])
   refine bodyPost_ret (v:=.tuple #[tv (fu_ (ab_ l) acc) ua uc,.bool true]) (by simp[results,Tryz.results95,go_sem,q4.c0,q4.c1,q4.c2,q4.c3];rfl) rfl ?_;rw[E2.out];exact⟨g4,ua,uc,rfl,ha4.mono (fun b hb=>⟨by have:=hb.1;omega,by simpa using hb.2⟩),r4⟩
end Go.Proofs.YtkihnodkhnahiaaGreatDoor.Tp

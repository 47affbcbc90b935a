/- Packed. -/
import Derived.OwnWalk
import Derived.Maps.OwnRows
import Derived.Test.YtjecnionbjlncaaGreatDoorP09
set_option maxRecDepth 100000
set_option maxHeartbeats 6400000
namespace Go.Proofs.YtjecnionbjlncaaGreatDoor.Tp
open Go.RowKit
open Lx
def dJ_ (t:Ty)(sv:Value):List Value:=[.int .i64 t.kind,.string t.name,.int .i64 t.n,sv]
def bQ_ (ts:List Ty)(svs:List Value):List Value:=(ts.zip svs).flatMap fun p=>dJ_ p.1 p.2
theorem eX_:∀ (ts:List Ty) (svs:List Value) (t:Ty) (v:Value),svs.length=ts.length→bQ_ (ts++[t]) (svs++[v])=bQ_ ts svs++dJ_ t v:=by
 intro ts svs t v h;unfold bQ_;rw[List.zip_append h.symm,List.flatMap_append];simp
theorem fn_:∀ (ts:List Ty) (svs:List Value),svs.length=ts.length→∀ (i:Nat) (h:i<ts.length) (h':i<svs.length),
  (bQ_ ts svs)[i*4]? = some (.int .i64 ts[i].kind)∧(bQ_ ts svs)[i*4+1]? = some (.string ts[i].name)∧(bQ_ ts svs)[i*4+2]? = some (.int .i64 ts[i].n)∧(bQ_ ts svs)[i*4+3]? = some svs[i]
 | [],_,_,i,h,_=>by simp at h
 | t :: ts,[],hh,_,_,_=>by simp at hh
 | t :: ts,v :: svs,hh,i,h,h'=>by
  have e:bQ_ (t :: ts) (v :: svs)=.int .i64 t.kind :: .string t.name :: .int .i64 t.n :: v :: bQ_ ts svs:=rfl;rw[e];cases i with
  | zero=>exact⟨rfl,rfl,rfl,rfl⟩
  | succ i =>
   have:=fn_ ts svs (by simpa using hh) i (by simpa using h) (by simpa using h');rw[show (i+1)*4=i*4+1+1+1+1 by omega,show i*4+1+1+1+1+1=i*4+1+1+1+1+1 from rfl,show i*4+1+1+1+1+2=i*4+2+1+1+1+1 by omega,show i*4+1+1+1+1+3=i*4+3+1+1+1+1 by omega];simp only[List.getElem?_cons_succ,List.getElem_cons_succ];exact this
structure Acc (lo:Nat)(w:World)(v:Value)(acc:List Ty)(svs:List Value):Prop where
 own:w.ownsRow lo 37 4 v acc.length (bQ_ acc svs)
 len:svs.length=acc.length
 at_:∀ (j:Nat) (t:Ty) (sv:Value),acc[j]? = some t→svs[j]? = some sv→aa_ (fun b=>lo≤b∧b<w.heap.size∧v.ownBlock≠some b) w sv t.args
theorem Acc.nil (lo:Nat)(w:World):Acc lo w (.slice none 0 0) [] []:=⟨World.ownsRow_nil _ _ _ _,rfl,by simp⟩
theorem aF_ {w w':World}{base:Nat}{e:TypeId}{size n:Nat}{v:Value}{xs:List Value}(h:w.ownsRow base e size v n xs)(hk:∀ b,v.ownBlock=some b→w'.heap[b]? = w.heap[b]?):w'.ownsRow base e size v n xs:=by
 refine⟨h.1,h.2.imp id ?_⟩;rintro ⟨g,cap,cur,k1,k2,k3,k4⟩;exact⟨g,cap,cur,k1,k2,(hk g (by rw[k1];rfl)).trans k3,k4⟩
theorem Acc.keep {lo:Nat}{w w':World}{v:Value}{acc:List Ty}{svs:List Value}(h:Acc lo w v acc svs)(hs:w.heap.size≤w'.heap.size)(hk:∀ b,lo≤b→b<w.heap.size→w'.heap[b]? = w.heap[b]?):Acc lo w' v acc svs :=
 ⟨aF_ h.own fun b hb=>hk b (h.own.lt b hb).1 (h.own.lt b hb).2,h.len,fun j t sv h1 h2=>((h.at_ j t sv h1 h2).keep fun b hb=>hk b hb.1 hb.2.1).mono fun b hb=>⟨hb.1,by have:=hb.2.1;omega,hb.2.2⟩⟩
theorem Acc.add {lo:Nat}{w w':World}{v v' sv:Value}{acc:List Ty}{svs:List Value}{t:Ty}{S:Nat→Prop}(h:Acc lo w v acc svs)(hx:aa_ S w sv t.args)(hS:∀ b,S b→lo≤b∧b<w.heap.size∧v.ownBlock≠some b)
  (hg:w.grownBy w' v.ownBlock) (ho:w'.ownsRow lo 37 4 v' (acc.length+1) (bQ_ acc svs++dJ_ t sv)) (hat:∀ b,v'.ownBlock=some b→v.ownBlock=some b∨w.heap.size≤b):Acc lo w' v' (acc++[t]) (svs++[sv]):=by
 have kp:∀ {S:Nat→Prop} {y:Value} {ts:List Ty},(∀ b,S b→lo≤b∧b<w.heap.size∧v.ownBlock≠some b)→aa_ S w y ts→aa_ (fun b=>lo≤b∧b<w'.heap.size∧v'.ownBlock≠some b) w' y ts:=fun {S y ts} hS hy =>
  (hy.keep fun b hb=>hg.block b (hS b hb).2.1 (Ne.symm (hS b hb).2.2)).mono fun b hb=>⟨(hS b hb).1,ba_ (hS b hb).2.1 hg.size,fun e=>by
   rcases hat b e with e|e
   ·exact (hS b hb).2.2 e
   ·have:=(hS b hb).2.1;omega⟩
 refine⟨by rw[eX_ _ _ _ _ h.len,List.length_append];exact ho,by simp[h.len],fun j u y h1 h2=>?_⟩
 rcases Nat.lt_or_ge j acc.length with hlt|hge
 ·rw[List.getElem?_append_left hlt] at h1
  rw[List.getElem?_append_left (by rw[h.len];exact hlt)] at h2;exact kp (fun b hb=>hb) (h.at_ j u y h1 h2)
 ·have hj:j=acc.length:=by
   have:=(List.getElem?_eq_some_iff.1 h1).1;simp at this;omega
  subst hj;rw[List.getElem?_append_right (aC_ _)] at h1;rw[← h.len,List.getElem?_append_right (aC_ _)] at h2;simp at h1 h2;subst h1 h2;exact kp hS hx
theorem Acc.args {lo:Nat}{w:World}{v:Value}{acc:List Ty}{svs:List Value}(h:Acc lo w v acc svs)(hl:acc.length≤4000):aa_ (In lo w.heap.size) w v acc:=by
 rcases h.own.2 with ⟨rfl,h0⟩|⟨g,cap,cur,rfl,hb,hg,h1,h2,h3,h4⟩
 ·have:acc=[]:=List.eq_nil_of_length_eq_zero h0
  subst this;exact .nil _ _
 ·refine .mk g 0 cap acc (fun i=>svs.getD i (.slice none 0 0)) ⟨hb,(Array.getElem?_eq_some_iff.1 hg).1⟩ (by omega) (fun i hi=>?_) (fun i hi=>?_)
  ·have hi':i<svs.length:=by rw[h.len];exact hi
   obtain⟨a0,a1,a2,a3⟩:=fn_ acc svs h.len i hi hi';have hc:=h.own.cells (g:=g) rfl;have hadd:∀ j,(⟨g,0,none⟩:Addr).add j=⟨g,j,none⟩:=fun j=>by unfold Addr.add;split<;>simp_all
   have b0:=hc _ _ a0;have b1:=hc _ _ a1;have b2:=hc _ _ a2;have b3:=hc _ _ a3;rw[hadd] at b0 b1 b2 b3;simp only[Nat.zero_add];rw[List.getD_eq_getElem?_getD,List.getElem?_eq_getElem hi'];exact⟨b0,b1,b2,b3⟩
  ·have hi':i<svs.length:=by rw[h.len];exact hi
   simp only[List.getD_eq_getElem?_getD,List.getElem?_eq_getElem hi',Option.getD_some];exact (h.at_ i _ _ (List.getElem?_eq_getElem hi) (List.getElem?_eq_getElem hi')).mono fun b hb=>⟨hb.1,hb.2.1⟩
theorem i1_:(Tryz.prog.info? 37).map (fun i=>(i.zero,i.size,i.bytes))=some (some (.agg #[.int .i64 0,.string ByteArray.empty,.int .i64 0,.slice none 0 0]),4,56):=by kernel_rfl
theorem aG_ {w:World}{base size:Nat}{e:TypeId}{v:Value}{n:Nat}{xs:List Value}(h:w.ownsRow base e size v n xs):∃ a cap,v=.slice a n cap:=by
 rcases h.2 with ⟨rfl,rfl⟩|⟨g,cap,cur,rfl,_⟩
 ·exact⟨_,_,rfl⟩
 ·exact⟨_,_,rfl⟩
open Lx
theorem cg_ {k:Nat}{s:List UInt8}{N B:Nat}{w:World}{l:List Tok}{b:Bool}(h:Rd N B w l)(hs:cC_ l k s=b) :
  Calls Tryz.prog 152 #[.pointer (some ⟨B,0,none⟩),.int .i64 (k:Int),.string ⟨s.toArray⟩] w fun e w'=>e=.returned (.bool b)∧w=w':=by
 have:=kc_ k s N B w l h;rw[hs] at this;exact this
theorem Rd.lt {N B:Nat}{w:World}{l:List Tok}(h:Rd N B w l):B<w.heap.size:=by
 obtain⟨v,hv⟩:=h.blk;exact (Array.getElem?_eq_some_iff.1 hv).1
theorem pe_ (n N B:Nat)(w:World)(l:List Tok)(ih:nV_ n)(h:Rd N B w l)(hN:N≤w.heap.size)(hok:c6_ l)(hl:l.length≤4000)(hn:4*l.length+3≤n+1)(h1:sk l 2=false):Calls Tryz.prog 129 #[.pointer (some ⟨B,0,none⟩)] w (cN_ N B w (bY_ (n+1) l)):=by
 have hz:=aw_ w (.cells #[.int .i64 0,.string ByteArray.empty,.int .i64 0,.slice none 0 0] 37);have hr:=h.low hz;have C1:=hid (bv_ hr (k:=2) (s:=[]) (ch_ h1));have b4:=hid (B4.new w (.int .i64 0) (.string ByteArray.empty) (.int .i64 0) (.slice none 0 0));have HR:=hid hr;have CA:=hid (ih.atom N B _ l hr (by simp;omega) hok hl (by omega));have e:bY_ (n+1) l=aI_ n l:=by rw[bY_,h1,if_neg (by simp)]
 have E:=hid e;clear h hr h1 e hok ih hz;go_enter Tryz.func129,Tryz.ntmps129;go_wp2_with fail;refine C1.out.mono ?_;rintro e w1 ⟨rfl,rfl⟩;go_wp2_with fail;refine CA.out.mono ?_;rintro e w2 ⟨hg,hres⟩;have k4:=b4.out.grown hg (fun e=>b4.out.ne_rd HR.out (by injection e with e;exact e.symm));obtain⟨c0,c1,c2,c3⟩:=k4.c03;obtain⟨f0,f1,f2,f3⟩:=k4.f03;have K4:=hid k4;have G:=hid (ac_ (ad_ (aw_ w (.cells #[.int .i64 0,.string ByteArray.empty,.int .i64 0,.slice none 0 0] 37))) hg);have hsz:=hg.size;have hBlt:=HR.out.lt;have hBne:=b4.out.ne_rd HR.out;clear k4 hg;cases hT:aI_ n l with
 | none =>
  rw[hT] at hres;obtain⟨k,s,m,a,c,c',rfl⟩:=hres;have E2:Hid (bY_ (n+1) l=none):=hid (E.out.trans hT);clear hT;go_wp2;have q4:=K4.out.set4 (.int .i64 k) (.string s) (.int .i64 m) (.slice a c c');have g4:=aq_ G.out (aC_ _) (.int .i64 k) (.string s) (.int .i64 m) (.slice a c c');refine bodyPost_ret (v:=.tuple #[.agg #[.int .i64 k,.string s,.int .i64 m,.slice a c c'],.bool false]) (by simp[results,Tryz.results129,go_sem,q4.c0,q4.c1,q4.c2,q4.c3]) rfl ?_;rw[E2.out];exact⟨g4,_,_,_,_,_,_,rfl⟩
 | some x =>
  obtain⟨t,r⟩:=x;rw[hT] at hres;obtain⟨a,c,rfl,hA,hR⟩:=hres;have E2:Hid (bY_ (n+1) l=some (t,r)):=hid (E.out.trans hT);have HA:=hid hA;have RR:=hid hR;have hne:=K4.out.ne_rd hR;clear hT hA hR;unfold tv;go_wp2;have q4:=K4.out.set4 (.int .i64 t.kind) (.string t.name) (.int .i64 t.n) (.slice a t.args.length c);have g4:=aq_ G.out (aC_ _) (.int .i64 t.kind) (.string t.name) (.int .i64 t.n) (.slice a t.args.length c);have r4:=RR.out.set4 (Ne.symm hne) hN (.int .i64 t.kind) (.string t.name) (.int .i64 t.n) (.slice a t.args.length c);have ha4:=HA.out.keep (B:=(((w2.setCell ⟨w.heap.size,0,none⟩ (.int .i64 t.kind)).setCell ⟨w.heap.size,1,none⟩ (.string t.name)).setCell ⟨w.heap.size,2,none⟩ (.int .i64 t.n)).setCell ⟨w.heap.size,3,none⟩ (.slice a t.args.length c)) (fun b hb=>by
   obtain⟨b1,b2⟩:=hb;simp at b1;rw[aB_ _ _ _ _ (by simp;omega),aB_ _ _ _ _ (by simp;omega),aB_ _ _ _ _ (by simp;omega),aB_ _ _ _ _ (by simp;omega)])
  refine bodyPost_ret (v:=.tuple #[tv t a c,.bool true]) (by simp[results,Tryz.results129,go_sem,tv,q4.c0,q4.c1,q4.c2,q4.c3]) rfl ?_;rw[E2.out];exact⟨g4,a,c,rfl,ha4.mono (fun b hb=>by obtain⟨b1,b2⟩:=hb;simp at b1;exact⟨by omega,by simpa using b2⟩),r4⟩
theorem hd_:∀ n:Nat,
  (∀ l x r,bC_ n l=some (x,r)→∀ t∈r,t∈l)∧(∀ l x r,eJ_ n l=some (x,r)→∀ t∈r,t∈l) ∧
  (∀ l x r,bY_ n l=some (x,r)→∀ t∈r,t∈l)∧(∀ s acc l x r,a6_ n s acc l=some (x,r)→∀ t∈r,t∈l) ∧
  (∀ l x r,aI_ n l=some (x,r)→∀ t∈r,t∈l):=by
 intro n
 induction n with
 | zero=>exact⟨fun _ _ _ h=>by simp[bC_] at h,fun _ _ _ h=>by simp[eJ_] at h,fun _ _ _ h=>by simp[bY_] at h,fun _ _ _ _ _ h=>by simp[a6_] at h,fun _ _ _ h=>by simp[aI_] at h⟩
 | succ n ih =>
  obtain⟨i1,i2,i3,i4,i5⟩:=ih;have tl:∀ {l:List Tok} {t:Tok},t∈l.tail→t∈l:=fun h=>List.mem_of_mem_tail h;have rl:∀ {l:List Tok} {t:Tok},t∈cr_ l→t∈l:=fun h=>(List.dropWhile_sublist _).mem h;refine⟨fun l x r h=>?_,fun l x r h=>?_,fun l x r h=>?_,fun s acc l x r h=>?_,fun l x r h=>?_⟩
  ·rw[bC_] at h
   split at h
   ·exact fun t ht=>tl (i2 _ _ _ h t ht)
   ·split at h
    ·cases h
    ·next a r' h2 =>
     split at h
     ·split at h
      ·cases h
      ·next b r'' h4 =>
       simp only[Option.some.injEq,Prod.mk.injEq] at h;obtain⟨_,rfl⟩:=h;exact fun t ht=>i3 _ _ _ h2 t (tl (i1 _ _ _ h4 t ht))
     ·simp only[Option.some.injEq,Prod.mk.injEq] at h
      obtain⟨_,rfl⟩:=h;exact i3 _ _ _ h2
  ·rw[eJ_] at h
   split at h
   ·cases h
   ·split at h
    ·cases h
    ·next t' r' h2 =>
     simp only[Option.some.injEq,Prod.mk.injEq] at h;obtain⟨_,rfl⟩:=h;exact fun t ht=>rl (tl (i1 _ _ _ h2 t ht))
  ·rw[bY_] at h
   split at h
   ·exact fun t ht=>tl (i4 _ _ _ _ _ h t ht)
   ·exact i5 _ _ _ h
  ·rw[a6_] at h
   split at h
   ·split at h
    ·cases h
    ·next x' r' h2=>exact fun t ht=>i5 _ _ _ h2 t (i4 _ _ _ _ _ h t ht)
   ·simp only[Option.some.injEq,Prod.mk.injEq] at h
    obtain⟨_,rfl⟩:=h;exact fun t ht=>ht
  ·rw[aI_] at h
   split at h
   ·simp only[Option.some.injEq,Prod.mk.injEq] at h
    obtain⟨_,rfl⟩:=h;exact fun t ht=>tl ht
   ·split at h
    ·simp only[Option.some.injEq,Prod.mk.injEq] at h
     obtain⟨_,rfl⟩:=h;exact fun t ht=>tl ht
    ·split at h
     ·simp only[Option.some.injEq,Prod.mk.injEq] at h
      obtain⟨_,rfl⟩:=h;exact fun t ht=>tl ht
     ·split at h
      ·split at h
       ·cases h
       ·next t' r' h2 =>
        split at h
        ·simp only[Option.some.injEq,Prod.mk.injEq] at h
         obtain⟨_,rfl⟩:=h;exact fun t ht=>tl (i1 _ _ _ h2 t (tl ht))
        ·cases h
      ·cases h
theorem dP_ (m:Nat)(l:List Tok)(x:Ty)(r:List Tok)(h:c6_ l)(hT:aI_ m l=some (x,r)):c6_ r:=fun t ht=>h t ((hd_ m).2.2.2.2 _ _ _ hT t ht)
theorem ah_ {w:World}{o:Obj}{k:Nat}(h:k=w.heap.size):(w.alloc o).heap[k]? = some o:=by subst h;exact heap_alloc_new w o
theorem Rd.grown {N B:Nat}{w w':World}{l:List Tok}{row:Option Nat}(h:Rd N B w l)(hg:w.grownBy w' row)(hB:row≠some B)(hN:∀ b,row=some b→¬ b<N):Rd N B w' l:=by
 obtain⟨a,cap,h1,h2,h3,h9⟩:=h;refine⟨a,cap,(hg.block B (Array.getElem?_eq_some_iff.1 h1).1 (Ne.symm hB)).trans h1,?_,h3,h9⟩;obtain⟨a',c',e,h4,h5|⟨b,off,h6,h7⟩⟩:=h2
 ·exact⟨a',c',e,h4,.inl h5⟩
 ·refine⟨a',c',e,h4,.inr ⟨b,off,h6,fun i hi=>?_⟩⟩
  injection e with e
  have hb:=h9 b off (by rw[e,h6]);obtain⟨c0,c1,c2⟩:=h7 i hi;have hbl:=World.block_lt_of_cell? w _ c0;have k:∀ o,w'.cell? ⟨b,o,none⟩=w.cell? ⟨b,o,none⟩:=fun o=>World.cell?_of_block (hg.block b hbl (fun e=>hN b e.symm hb));rw[k,k,k];exact⟨c0,c1,c2⟩
theorem q9_ (n N B:Nat)(w:World)(l:List Tok)(ih:∀ m,m≤n→nV_ m)(h:Rd N B w l)(hN:N≤w.heap.size)(hok:c6_ l)(hl:l.length≤4000)(hn:4*l.length+3≤n+1)(h1:sk l 2=true):Calls Tryz.prog 129 #[.pointer (some ⟨B,0,none⟩)] w (cN_ N B w (bY_ (n+1) l)):=by
 have hz:=aw_ w (.cells #[.int .i64 0,.string ByteArray.empty,.int .i64 0,.slice none 0 0] 37);have hr:=h.low hz;have C1:=hid (b1_ hr (k:=2) (s:=[]) (ch_ h1));have b4:=hid (B4.new w (.int .i64 0) (.string ByteArray.empty) (.int .i64 0) (.slice none 0 0));have HR:=hid hr;have htl:l.tail.length+1=l.length:=by have:=eP_ h1;rw[List.length_tail];omega
 have e:bY_ (n+1) l=a6_ n (ae_ l) [] l.tail:=by rw[bY_,if_pos h1]
 have E:=hid e;have IH:=hid ih;have TO:=hid hok.tail;have hBw:=h.lt;clear h hr h1 e hok ih;go_enter Tryz.func129,Tryz.ntmps129;go_wp2_with fail;refine C1.out.mono ?_;rintro e w1 ⟨rfl,hrd,hg⟩;have k4:=b4.out.grown hg (fun e=>b4.out.ne_rd HR.out (by injection e with e;exact e.symm));have hs1:w.heap.size<w1.heap.size:=by have:=hg.size;simp at this;omega
 have hz1:=aw_ w1 (.cells #[.int .i64 3,.string (ab_ (ae_ l)),.int .i64 0,.slice none 0 0] 37);have KR1:=hid (k4.low hz1);have KT1:=hid (B4.new w1 (.int .i64 3) (.string (ab_ (ae_ l))) (.int .i64 0) (.slice none 0 0));have G1:=hid (ac_ (ac_ (ad_ hz) hg) (ad_ hz1));have R1:=hid (hrd.low hz1);clear k4 hrd hg hz hz1;go_wp2
 go_loopg [] l.tail.length (fun gk wr=>∃ (l':List Tok) (acc:List Ty) (svs:List Value) (m:Nat) (u:Value),gk=l'.length∧Rd N B wr l'∧c6_ l'∧l'.length≤4000∧4*l'.length+3≤m∧m≤n∧bY_ (n+1) l=a6_ m (ae_ l) acc l' ∧
  B4 wr w1.heap.size (.int .i64 3) (.string (ab_ (ae_ l))) (.int .i64 0) u∧Acc (w1.heap.size+1) wr u acc svs∧B4 wr w.heap.size (.int .i64 0) (.string ByteArray.empty) (.int .i64 0) (.slice none 0 0)∧w.grownBy wr (some B)∧acc.length+l'.length≤4000∧w1.heap.size+1≤wr.heap.size)
 case atStart=>exact⟨l.tail,[],[],n,_,rfl,R1.out,TO.out,by omega,by omega,aC_ _,E.out,KT1.out,Acc.nil _ _,KR1.out,G1.out,by simp;omega,by simp⟩
 case round =>
  clear KT1 KR1 G1 R1;obtain⟨l',acc,svs,m,u,rfl,hR,hTk,hl4,hm,hmn,hEQ,kt,ac,kr,gw,hal2,hsw⟩:=hrel;have hBr:B≠w.heap.size:=by omega
  have hBt:B≠w1.heap.size:=by omega
  have KR:=hid kr;have KT:=hid kt;have AC:=hid ac;have GW:=hid gw;have EQ:=hid hEQ;have TK:=hid hTk;have RR:=hid hR;obtain⟨m,rfl⟩:∃ k,m=k+1:=⟨m - 1,by omega⟩
  by_cases hst:cL_ l'=true
  ·have ST:=hid hst
   have IA:=hid ((IH.out m (by omega)).atom N B wr l' hR (by omega) hTk hl4 (by have:=hTk;omega));have hstl:cL_ l'=(sk l' 1 || sk l' 5 || sk l' 2 || st l' 6 dT_):=rfl;rw[hst] at hstl;cases h1:sk l' 1
   ·cases h5:sk l' 5
    ·cases h2:sk l' 2
     ·have h6:st l' 6 dT_=true:=by rw[h1,h5,h2] at hstl;simpa using hstl.symm
      have S1:=hid (cg_ hR (k:=1) (s:=[]) (ch_ h1));have S2:=hid (cg_ hR (k:=5) (s:=[]) (ch_ h5));have S3:=hid (cg_ hR (k:=2) (s:=[]) (ch_ h2));have S4:=hid (cg_ hR (k:=6) (s:=dT_) (f3_ (by decide) h6));clear h1 h5 h2 h6 hstl hst hR hTk hEQ kt ac kr gw;go_wp2_with fail;refine S1.out.mono ?_;rintro e w3 ⟨rfl,rfl⟩;go_wp2_with fail;refine S2.out.mono ?_;rintro e w3 ⟨rfl,rfl⟩;go_wp2_with fail;refine S3.out.mono ?_;rintro e w3 ⟨rfl,rfl⟩;go_wp2_with fail;refine S4.out.mono ?_;rintro e w3 ⟨rfl,rfl⟩;go_wp2_with fail;refine IA.out.mono ?_;rintro e w4 ⟨hg4,hres⟩;have k4r:=KR.out.grown hg4 (fun e=>hBr (by injection e));have k4t:=KT.out.grown hg4 (fun e=>hBt (by injection e));have hsz4:=hg4.size;have KR4:=hid k4r;have KT4:=hid k4t;have G4:=hid (ac_ GW.out hg4);have H4:=hid hg4;clear k4r k4t hg4;cases hT:aI_ m l' with
      | none =>
       rw[hT] at hres;obtain⟨k,s,mm,a,c,c',rfl⟩:=hres;have E2:Hid (bY_ (n+1) l=none):=hid (by rw[EQ.out,a6_,if_pos ST.out,hT]);have hz:=aw_ w4 (.cells #[.int .i64 k,.string s,.int .i64 mm,.slice a c c'] 37);have k5:=KR4.out.low hz;obtain⟨c0,c1,c2,c3⟩:=k5.c03;obtain⟨f0,f1,f2,f3⟩:=k5.f03;have K5:=hid k5;have G5:=hid (ac_ G4.out (ad_ hz));clear hT k5 hz;go_wp2;have q4:=K5.out.set4 (.int .i64 0) (.string ⟨#[]⟩) (.int .i64 0) (.slice none 0 0);have g4:=aq_ G5.out (aC_ _) (.int .i64 0) (.string ⟨#[]⟩) (.int .i64 0) (.slice none 0 0);refine bodyPost_ret (v:=.tuple #[zv,.bool false]) (by simp[results,Tryz.results129,go_sem,zv,q4.c0,q4.c1,q4.c2,q4.c3]) rfl ?_;rw[E2.out];exact⟨g4,_,_,_,_,_,_,rfl⟩
      | some x =>
       obtain⟨x,r⟩:=x;rw[hT] at hres;obtain⟨a,c,rfl,hA,hR⟩:=hres;have hsh:=(dq_ m).2.2.2.2 _ _ _ hT;have hEQ2:bY_ (n+1) l=a6_ m (ae_ l) (acc++[x]) r:=(by rw[EQ.out,a6_,if_pos ST.out,hT]);have EQ2:=hid hEQ2;have hz:=aw_ w4 (.cells #[.int .i64 x.kind,.string x.name,.int .i64 x.n,.slice a x.args.length c] 37);have hz2:=hz.alloc (by simp) (.cells #[.int .i64 x.kind,.string x.name,.int .i64 x.n,.slice a x.args.length c] 37);have hAc:=(AC.out.keep (w':=w4) hsz4 (fun b hb hlb=>H4.out.block b hlb (fun e=>by injection e;omega)));have hAc2:=hAc.keep hz2.size (fun b hb hlb=>hz2.block b hlb);have hx2:=hA.keep (fun b hb=>hz2.block b hb.2);have R6:=hR.low hz2;have cx:=(B4.new w4 (.int .i64 x.kind) (.string x.name) (.int .i64 x.n) (.slice a x.args.length c));have kt5:=KT4.out.low hz;have kt6:=KT4.out.low hz2;have t3:=kt5.c3;have ct3:=kt6.c3;have ft3:=kt6.fr 3;obtain⟨x0,x1,x2,x3⟩:=cx.c03;have KT6:=hid kt6;have KR6:=hid (KR4.out.low hz2);have G6:=hid (ac_ G4.out (ad_ hz2));have A6:=hid hAc2;have X6:=hid hx2;have RR6:=hid R6;have hva:∀ b,u.ownBlock=some b→b<wr.heap.size:=fun b hb=>(AC.out.own.lt b hb).2;have HVA:=hid hva;have hal:=AC.out.len;have hnt:u.ownBlock≠some (w1.heap.size):=fun e=>by have:=(AC.out.own.lt _ e).1;omega
       have hnr:u.ownBlock≠some (w.heap.size):=fun e=>by have:=(AC.out.own.lt _ e).1;omega
       have HNT:=hid hnt;have HNR:=hid hnr;have HTX:=hid hT;clear hT hA hR hEQ2 hAc hAc2 hx2 R6 cx kt5 kt6 hz hva hnt hnr;obtain⟨i0,hi0,hz0,hz1,hz3⟩:=info_parts i1_;unfold tv;go_wp2_with (at_builtin;refine wpList_append_lies _ rfl _ _ _ rfl (w1.heap.size+1) 37 i0 _ 4 56 Tryz.underlying35 hi0 hz0 hz1 hz3 rfl (by omega) u acc.length (bQ_ acc svs) rfl A6.out.own ⟨w4.heap.size+1,0,none⟩ 1 1 (dJ_ x (.slice a x.args.length c)) rfl rfl (World.news_of_block (cs:=#[.int .i64 x.kind,.string x.name,.int .i64 x.n,.slice a x.args.length c]) (t:=37) (fr:=(0,0)) (ah_ (by simp))) (by simp[dJ_,Value.oneCell']) (by omega) (by unfold maxLen;omega) (by omega) (by simp;omega) (w4.heap.size+1+1) (by simp) ?_;intro gg cap w7 hown7 hgrow7 hat7 hlt7;have kt7:=KT6.out.grown hgrow7 (fun e=>HNT.out e);have c73:=kt7.c3;have f73:=kt7.fr 3;have KT7:=hid kt7;clear kt7);have hA7:=A6.out.add (v':=.slice (some ⟨gg,0,none⟩) (acc.length+1) cap) X6.out (fun b hb=>⟨by have:=hb.1;omega,by have:=hb.2;simp;omega,fun e=>by have:=HVA.out b e;have:=hb.1;omega⟩) hgrow7 hown7 (fun b hb=>by
        simp only[Value.ownBlock,Option.some.injEq] at hb;subst hb
        rcases hat7 with e|e
        ·exact .inl e
        ·right;subst e;simp)
       have hsz7:=hgrow7.size;have hw7:w4.heap.size+1+1≤w7.heap.size:=by simpa using hsz7
       have KR7:=KR6.out.grown hgrow7 (fun e=>HNR.out e);have R7:=RR6.out.grown hgrow7 (fun e=>by have:=(A6.out.own.lt _ e).1;omega) (fun b e hb=>by have:=(A6.out.own.lt _ e).1;omega);have hown8:w.grownBy w7 (some B):=⟨hgrow7.os.trans G6.out.os,hgrow7.tape.trans G6.out.tape,hgrow7.output.trans G6.out.output,by omega,fun k hk hr=>(hgrow7.block k (by simp;omega) (fun e=>by have:=(A6.out.own.lt _ e.symm).1;omega)).trans (G6.out.block k hk hr)⟩;have G8:Hid (w.grownBy (w7.setCell ⟨w1.heap.size,3,none⟩ (.slice (some ⟨gg,0,none⟩) (acc.length+1) cap)) (some B)):=hid ⟨hown8.os,hown8.tape,hown8.output,by simpa using hown8.size,fun k hk hr=>(aB_ _ _ _ _ (by simp;omega)).trans (hown8.block k hk hr)⟩;have A8:=hid (hA7.keep (w':=w7.setCell ⟨w1.heap.size,3,none⟩ (.slice (some ⟨gg,0,none⟩) (acc.length+1) cap)) (by simp) (fun b hb _=>aB_ _ _ _ _ (by simp;omega)));have K8:Hid (B4 (w7.setCell ⟨w1.heap.size,3,none⟩ (.slice (some ⟨gg,0,none⟩) (acc.length+1) cap)) w1.heap.size (.int .i64 3) (.string (ab_ (ae_ l))) (.int .i64 0) (.slice (some ⟨gg,0,none⟩) (acc.length+1) cap)):=hid (by
        have:=KT7.out;unfold B4 at *;rw[aN_ this];rfl)
       have KR8:Hid (B4 (w7.setCell ⟨w1.heap.size,3,none⟩ (.slice (some ⟨gg,0,none⟩) (acc.length+1) cap)) w.heap.size (.int .i64 0) (.string ByteArray.empty) (.int .i64 0) (.slice none 0 0)):=hid ((aB_ _ _ _ _ (by simp;omega)).trans KR7);have R8:=hid (R7.set (p:=⟨w1.heap.size,3,none⟩) hBt (by simp;omega) (.slice (some ⟨gg,0,none⟩) (acc.length+1) cap));clear hA7 hgrow7 hown7 hown8 hat7 hlt7 c73 f73 KR7 R7;go_wp2;go_roundg r.length
       case measure=>omega
       case rel=>exact⟨r,acc++[x],svs++[.slice a x.args.length c],m,_,rfl,R8.out,dP_ m l' x r TK.out HTX.out,by omega,by omega,by omega,EQ2.out,K8.out,A8.out,KR8.out,G8.out,by rw[List.length_append];simp;omega,by simp;omega⟩
     ·have S1:=hid (cg_ hR (k:=1) (s:=[]) (ch_ h1))
      have S2:=hid (cg_ hR (k:=5) (s:=[]) (ch_ h5));have S3:=hid (cg_ hR (k:=2) (s:=[]) (ch_ h2));clear h1 h5 h2 hstl hst hR hTk hEQ kt ac kr gw;go_wp2_with fail;refine S1.out.mono ?_;rintro e w3 ⟨rfl,rfl⟩;go_wp2_with fail;refine S2.out.mono ?_;rintro e w3 ⟨rfl,rfl⟩;go_wp2_with fail;refine S3.out.mono ?_;rintro e w3 ⟨rfl,rfl⟩;go_wp2_with fail;refine IA.out.mono ?_;rintro e w4 ⟨hg4,hres⟩;have k4r:=KR.out.grown hg4 (fun e=>hBr (by injection e));have k4t:=KT.out.grown hg4 (fun e=>hBt (by injection e));have hsz4:=hg4.size;have KR4:=hid k4r;have KT4:=hid k4t;have G4:=hid (ac_ GW.out hg4);have H4:=hid hg4;clear k4r k4t hg4;cases hT:aI_ m l' with
      | none =>
       rw[hT] at hres;obtain⟨k,s,mm,a,c,c',rfl⟩:=hres;have E2:Hid (bY_ (n+1) l=none):=hid (by rw[EQ.out,a6_,if_pos ST.out,hT]);have hz:=aw_ w4 (.cells #[.int .i64 k,.string s,.int .i64 mm,.slice a c c'] 37);have k5:=KR4.out.low hz;obtain⟨c0,c1,c2,c3⟩:=k5.c03;obtain⟨f0,f1,f2,f3⟩:=k5.f03;have K5:=hid k5;have G5:=hid (ac_ G4.out (ad_ hz));clear hT k5 hz;go_wp2;have q4:=K5.out.set4 (.int .i64 0) (.string ⟨#[]⟩) (.int .i64 0) (.slice none 0 0);have g4:=aq_ G5.out (aC_ _) (.int .i64 0) (.string ⟨#[]⟩) (.int .i64 0) (.slice none 0 0);refine bodyPost_ret (v:=.tuple #[zv,.bool false]) (by simp[results,Tryz.results129,go_sem,zv,q4.c0,q4.c1,q4.c2,q4.c3]) rfl ?_;rw[E2.out];exact⟨g4,_,_,_,_,_,_,rfl⟩
      | some x =>
       obtain⟨x,r⟩:=x;rw[hT] at hres;obtain⟨a,c,rfl,hA,hR⟩:=hres;have hsh:=(dq_ m).2.2.2.2 _ _ _ hT;have hEQ2:bY_ (n+1) l=a6_ m (ae_ l) (acc++[x]) r:=(by rw[EQ.out,a6_,if_pos ST.out,hT]);have EQ2:=hid hEQ2;have hz:=aw_ w4 (.cells #[.int .i64 x.kind,.string x.name,.int .i64 x.n,.slice a x.args.length c] 37);have hz2:=hz.alloc (by simp) (.cells #[.int .i64 x.kind,.string x.name,.int .i64 x.n,.slice a x.args.length c] 37);have hAc:=(AC.out.keep (w':=w4) hsz4 (fun b hb hlb=>H4.out.block b hlb (fun e=>by injection e;omega)));have hAc2:=hAc.keep hz2.size (fun b hb hlb=>hz2.block b hlb);have hx2:=hA.keep (fun b hb=>hz2.block b hb.2);have R6:=hR.low hz2;have cx:=(B4.new w4 (.int .i64 x.kind) (.string x.name) (.int .i64 x.n) (.slice a x.args.length c));have kt5:=KT4.out.low hz;have kt6:=KT4.out.low hz2;have t3:=kt5.c3;have ct3:=kt6.c3;have ft3:=kt6.fr 3;obtain⟨x0,x1,x2,x3⟩:=cx.c03;have KT6:=hid kt6;have KR6:=hid (KR4.out.low hz2);have G6:=hid (ac_ G4.out (ad_ hz2));have A6:=hid hAc2;have X6:=hid hx2;have RR6:=hid R6;have hva:∀ b,u.ownBlock=some b→b<wr.heap.size:=fun b hb=>(AC.out.own.lt b hb).2;have HVA:=hid hva;have hal:=AC.out.len;have hnt:u.ownBlock≠some (w1.heap.size):=fun e=>by have:=(AC.out.own.lt _ e).1;omega
       have hnr:u.ownBlock≠some (w.heap.size):=fun e=>by have:=(AC.out.own.lt _ e).1;omega
       have HNT:=hid hnt;have HNR:=hid hnr;have HTX:=hid hT;clear hT hA hR hEQ2 hAc hAc2 hx2 R6 cx kt5 kt6 hz hva hnt hnr;obtain⟨i0,hi0,hz0,hz1,hz3⟩:=info_parts i1_;unfold tv;go_wp2_with (at_builtin;refine wpList_append_lies _ rfl _ _ _ rfl (w1.heap.size+1) 37 i0 _ 4 56 Tryz.underlying35 hi0 hz0 hz1 hz3 rfl (by omega) u acc.length (bQ_ acc svs) rfl A6.out.own ⟨w4.heap.size+1,0,none⟩ 1 1 (dJ_ x (.slice a x.args.length c)) rfl rfl (World.news_of_block (cs:=#[.int .i64 x.kind,.string x.name,.int .i64 x.n,.slice a x.args.length c]) (t:=37) (fr:=(0,0)) (ah_ (by simp))) (by simp[dJ_,Value.oneCell']) (by omega) (by unfold maxLen;omega) (by omega) (by simp;omega) (w4.heap.size+1+1) (by simp) ?_;intro gg cap w7 hown7 hgrow7 hat7 hlt7;have kt7:=KT6.out.grown hgrow7 (fun e=>HNT.out e);have c73:=kt7.c3;have f73:=kt7.fr 3;have KT7:=hid kt7;clear kt7);have hA7:=A6.out.add (v':=.slice (some ⟨gg,0,none⟩) (acc.length+1) cap) X6.out (fun b hb=>⟨by have:=hb.1;omega,by have:=hb.2;simp;omega,fun e=>by have:=HVA.out b e;have:=hb.1;omega⟩) hgrow7 hown7 (fun b hb=>by
        simp only[Value.ownBlock,Option.some.injEq] at hb;subst hb
        rcases hat7 with e|e
        ·exact .inl e
        ·right;subst e;simp)
       have hsz7:=hgrow7.size;have hw7:w4.heap.size+1+1≤w7.heap.size:=by simpa using hsz7
       have KR7:=KR6.out.grown hgrow7 (fun e=>HNR.out e);have R7:=RR6.out.grown hgrow7 (fun e=>by have:=(A6.out.own.lt _ e).1;omega) (fun b e hb=>by have:=(A6.out.own.lt _ e).1;omega);have hown8:w.grownBy w7 (some B):=⟨hgrow7.os.trans G6.out.os,hgrow7.tape.trans G6.out.tape,hgrow7.output.trans G6.out.output,by omega,fun k hk hr=>(hgrow7.block k (by simp;omega) (fun e=>by have:=(A6.out.own.lt _ e.symm).1;omega)).trans (G6.out.block k hk hr)⟩;have G8:Hid (w.grownBy (w7.setCell ⟨w1.heap.size,3,none⟩ (.slice (some ⟨gg,0,none⟩) (acc.length+1) cap)) (some B)):=hid ⟨hown8.os,hown8.tape,hown8.output,by simpa using hown8.size,fun k hk hr=>(aB_ _ _ _ _ (by simp;omega)).trans (hown8.block k hk hr)⟩;have A8:=hid (hA7.keep (w':=w7.setCell ⟨w1.heap.size,3,none⟩ (.slice (some ⟨gg,0,none⟩) (acc.length+1) cap)) (by simp) (fun b hb _=>aB_ _ _ _ _ (by simp;omega)));have K8:Hid (B4 (w7.setCell ⟨w1.heap.size,3,none⟩ (.slice (some ⟨gg,0,none⟩) (acc.length+1) cap)) w1.heap.size (.int .i64 3) (.string (ab_ (ae_ l))) (.int .i64 0) (.slice (some ⟨gg,0,none⟩) (acc.length+1) cap)):=hid (by
        have:=KT7.out;unfold B4 at *;rw[aN_ this];rfl)
       have KR8:Hid (B4 (w7.setCell ⟨w1.heap.size,3,none⟩ (.slice (some ⟨gg,0,none⟩) (acc.length+1) cap)) w.heap.size (.int .i64 0) (.string ByteArray.empty) (.int .i64 0) (.slice none 0 0)):=hid ((aB_ _ _ _ _ (by simp;omega)).trans KR7);have R8:=hid (R7.set (p:=⟨w1.heap.size,3,none⟩) hBt (by simp;omega) (.slice (some ⟨gg,0,none⟩) (acc.length+1) cap));clear hA7 hgrow7 hown7 hown8 hat7 hlt7 c73 f73 KR7 R7;go_wp2;go_roundg r.length
       case measure=>omega
       case rel=>exact⟨r,acc++[x],svs++[.slice a x.args.length c],m,_,rfl,R8.out,dP_ m l' x r TK.out HTX.out,by omega,by omega,by omega,EQ2.out,K8.out,A8.out,KR8.out,G8.out,by rw[List.length_append];simp;omega,by simp;omega⟩
    ·next =>
      have S1:=hid (cg_ hR (k:=1) (s:=[]) (ch_ h1));have S2:=hid (cg_ hR (k:=5) (s:=[]) (ch_ h5));clear h1 h5 hstl hst hR hTk hEQ kt ac kr gw;go_wp2_with fail;refine S1.out.mono ?_;rintro e w3 ⟨rfl,rfl⟩;go_wp2_with fail;refine S2.out.mono ?_;rintro e w3 ⟨rfl,rfl⟩;go_wp2_with fail;refine IA.out.mono ?_;rintro e w4 ⟨hg4,hres⟩;have k4r:=KR.out.grown hg4 (fun e=>hBr (by injection e));have k4t:=KT.out.grown hg4 (fun e=>hBt (by injection e));have hsz4:=hg4.size;have KR4:=hid k4r;have KT4:=hid k4t;have G4:=hid (ac_ GW.out hg4);have H4:=hid hg4;clear k4r k4t hg4;cases hT:aI_ m l' with
      | none =>
       rw[hT] at hres;obtain⟨k,s,mm,a,c,c',rfl⟩:=hres;have E2:Hid (bY_ (n+1) l=none):=hid (by rw[EQ.out,a6_,if_pos ST.out,hT]);have hz:=aw_ w4 (.cells #[.int .i64 k,.string s,.int .i64 mm,.slice a c c'] 37);have k5:=KR4.out.low hz;obtain⟨c0,c1,c2,c3⟩:=k5.c03;obtain⟨f0,f1,f2,f3⟩:=k5.f03;have K5:=hid k5;have G5:=hid (ac_ G4.out (ad_ hz));clear hT k5 hz;go_wp2;have q4:=K5.out.set4 (.int .i64 0) (.string ⟨#[]⟩) (.int .i64 0) (.slice none 0 0);have g4:=aq_ G5.out (aC_ _) (.int .i64 0) (.string ⟨#[]⟩) (.int .i64 0) (.slice none 0 0);refine bodyPost_ret (v:=.tuple #[zv,.bool false]) (by simp[results,Tryz.results129,go_sem,zv,q4.c0,q4.c1,q4.c2,q4.c3]) rfl ?_;rw[E2.out];exact⟨g4,_,_,_,_,_,_,rfl⟩
      | some x =>
       obtain⟨x,r⟩:=x;rw[hT] at hres;obtain⟨a,c,rfl,hA,hR⟩:=hres;have hsh:=(dq_ m).2.2.2.2 _ _ _ hT;have hEQ2:bY_ (n+1) l=a6_ m (ae_ l) (acc++[x]) r:=(by rw[EQ.out,a6_,if_pos ST.out,hT]);have EQ2:=hid hEQ2;have hz:=aw_ w4 (.cells #[.int .i64 x.kind,.string x.name,.int .i64 x.n,.slice a x.args.length c] 37);have hz2:=hz.alloc (by simp) (.cells #[.int .i64 x.kind,.string x.name,.int .i64 x.n,.slice a x.args.length c] 37);have hAc:=(AC.out.keep (w':=w4) hsz4 (fun b hb hlb=>H4.out.block b hlb (fun e=>by injection e;omega)));have hAc2:=hAc.keep hz2.size (fun b hb hlb=>hz2.block b hlb);have hx2:=hA.keep (fun b hb=>hz2.block b hb.2);have R6:=hR.low hz2;have cx:=(B4.new w4 (.int .i64 x.kind) (.string x.name) (.int .i64 x.n) (.slice a x.args.length c));have kt5:=KT4.out.low hz;have kt6:=KT4.out.low hz2;have t3:=kt5.c3;have ct3:=kt6.c3;have ft3:=kt6.fr 3;obtain⟨x0,x1,x2,x3⟩:=cx.c03;have KT6:=hid kt6;have KR6:=hid (KR4.out.low hz2);have G6:=hid (ac_ G4.out (ad_ hz2));have A6:=hid hAc2;have X6:=hid hx2;have RR6:=hid R6;have hva:∀ b,u.ownBlock=some b→b<wr.heap.size:=fun b hb=>(AC.out.own.lt b hb).2;have HVA:=hid hva;have hal:=AC.out.len;have hnt:u.ownBlock≠some (w1.heap.size):=fun e=>by have:=(AC.out.own.lt _ e).1;omega
       have hnr:u.ownBlock≠some (w.heap.size):=fun e=>by have:=(AC.out.own.lt _ e).1;omega
       have HNT:=hid hnt;have HNR:=hid hnr;have HTX:=hid hT;clear hT hA hR hEQ2 hAc hAc2 hx2 R6 cx kt5 kt6 hz hva hnt hnr;obtain⟨i0,hi0,hz0,hz1,hz3⟩:=info_parts i1_;unfold tv;go_wp2_with (at_builtin;refine wpList_append_lies _ rfl _ _ _ rfl (w1.heap.size+1) 37 i0 _ 4 56 Tryz.underlying35 hi0 hz0 hz1 hz3 rfl (by omega) u acc.length (bQ_ acc svs) rfl A6.out.own ⟨w4.heap.size+1,0,none⟩ 1 1 (dJ_ x (.slice a x.args.length c)) rfl rfl (World.news_of_block (cs:=#[.int .i64 x.kind,.string x.name,.int .i64 x.n,.slice a x.args.length c]) (t:=37) (fr:=(0,0)) (ah_ (by simp))) (by simp[dJ_,Value.oneCell']) (by omega) (by unfold maxLen;omega) (by omega) (by simp;omega) (w4.heap.size+1+1) (by simp) ?_;intro gg cap w7 hown7 hgrow7 hat7 hlt7;have kt7:=KT6.out.grown hgrow7 (fun e=>HNT.out e);have c73:=kt7.c3;have f73:=kt7.fr 3;have KT7:=hid kt7;clear kt7);have hA7:=A6.out.add (v':=.slice (some ⟨gg,0,none⟩) (acc.length+1) cap) X6.out (fun b hb=>⟨by have:=hb.1;omega,by have:=hb.2;simp;omega,fun e=>by have:=HVA.out b e;have:=hb.1;omega⟩) hgrow7 hown7 (fun b hb=>by
        simp only[Value.ownBlock,Option.some.injEq] at hb;subst hb
        rcases hat7 with e|e
        ·exact .inl e
        ·right;subst e;simp)
       have hsz7:=hgrow7.size;have hw7:w4.heap.size+1+1≤w7.heap.size:=by simpa using hsz7
       have KR7:=KR6.out.grown hgrow7 (fun e=>HNR.out e);have R7:=RR6.out.grown hgrow7 (fun e=>by have:=(A6.out.own.lt _ e).1;omega) (fun b e hb=>by have:=(A6.out.own.lt _ e).1;omega);have hown8:w.grownBy w7 (some B):=⟨hgrow7.os.trans G6.out.os,hgrow7.tape.trans G6.out.tape,hgrow7.output.trans G6.out.output,by omega,fun k hk hr=>(hgrow7.block k (by simp;omega) (fun e=>by have:=(A6.out.own.lt _ e.symm).1;omega)).trans (G6.out.block k hk hr)⟩;have G8:Hid (w.grownBy (w7.setCell ⟨w1.heap.size,3,none⟩ (.slice (some ⟨gg,0,none⟩) (acc.length+1) cap)) (some B)):=hid ⟨hown8.os,hown8.tape,hown8.output,by simpa using hown8.size,fun k hk hr=>(aB_ _ _ _ _ (by simp;omega)).trans (hown8.block k hk hr)⟩;have A8:=hid (hA7.keep (w':=w7.setCell ⟨w1.heap.size,3,none⟩ (.slice (some ⟨gg,0,none⟩) (acc.length+1) cap)) (by simp) (fun b hb _=>aB_ _ _ _ _ (by simp;omega)));have K8:Hid (B4 (w7.setCell ⟨w1.heap.size,3,none⟩ (.slice (some ⟨gg,0,none⟩) (acc.length+1) cap)) w1.heap.size (.int .i64 3) (.string (ab_ (ae_ l))) (.int .i64 0) (.slice (some ⟨gg,0,none⟩) (acc.length+1) cap)):=hid (by
        have:=KT7.out;unfold B4 at *;rw[aN_ this];rfl)
       have KR8:Hid (B4 (w7.setCell ⟨w1.heap.size,3,none⟩ (.slice (some ⟨gg,0,none⟩) (acc.length+1) cap)) w.heap.size (.int .i64 0) (.string ByteArray.empty) (.int .i64 0) (.slice none 0 0)):=hid ((aB_ _ _ _ _ (by simp;omega)).trans KR7);have R8:=hid (R7.set (p:=⟨w1.heap.size,3,none⟩) hBt (by simp;omega) (.slice (some ⟨gg,0,none⟩) (acc.length+1) cap));clear hA7 hgrow7 hown7 hown8 hat7 hlt7 c73 f73 KR7 R7;go_wp2;go_roundg r.length
       case measure=>omega
       case rel=>exact⟨r,acc++[x],svs++[.slice a x.args.length c],m,_,rfl,R8.out,dP_ m l' x r TK.out HTX.out,by omega,by omega,by omega,EQ2.out,K8.out,A8.out,KR8.out,G8.out,by rw[List.length_append];simp;omega,by simp;omega⟩
   ·next =>
      have S1:=hid (cg_ hR (k:=1) (s:=[]) (ch_ h1));clear h1 hstl hst hR hTk hEQ kt ac kr gw;go_wp2_with fail;refine S1.out.mono ?_;rintro e w3 ⟨rfl,rfl⟩;go_wp2_with fail;refine IA.out.mono ?_;rintro e w4 ⟨hg4,hres⟩;have k4r:=KR.out.grown hg4 (fun e=>hBr (by injection e));have k4t:=KT.out.grown hg4 (fun e=>hBt (by injection e));have hsz4:=hg4.size;have KR4:=hid k4r;have KT4:=hid k4t;have G4:=hid (ac_ GW.out hg4);have H4:=hid hg4;clear k4r k4t hg4;cases hT:aI_ m l' with
      | none =>
       rw[hT] at hres;obtain⟨k,s,mm,a,c,c',rfl⟩:=hres;have E2:Hid (bY_ (n+1) l=none):=hid (by rw[EQ.out,a6_,if_pos ST.out,hT]);have hz:=aw_ w4 (.cells #[.int .i64 k,.string s,.int .i64 mm,.slice a c c'] 37);have k5:=KR4.out.low hz;obtain⟨c0,c1,c2,c3⟩:=k5.c03;obtain⟨f0,f1,f2,f3⟩:=k5.f03;have K5:=hid k5;have G5:=hid (ac_ G4.out (ad_ hz));clear hT k5 hz;go_wp2;have q4:=K5.out.set4 (.int .i64 0) (.string ⟨#[]⟩) (.int .i64 0) (.slice none 0 0);have g4:=aq_ G5.out (aC_ _) (.int .i64 0) (.string ⟨#[]⟩) (.int .i64 0) (.slice none 0 0);refine bodyPost_ret (v:=.tuple #[zv,.bool false]) (by simp[results,Tryz.results129,go_sem,zv,q4.c0,q4.c1,q4.c2,q4.c3]) rfl ?_;rw[E2.out];exact⟨g4,_,_,_,_,_,_,rfl⟩
      | some x =>
       obtain⟨x,r⟩:=x;rw[hT] at hres;obtain⟨a,c,rfl,hA,hR⟩:=hres;have hsh:=(dq_ m).2.2.2.2 _ _ _ hT;have hEQ2:bY_ (n+1) l=a6_ m (ae_ l) (acc++[x]) r:=(by rw[EQ.out,a6_,if_pos ST.out,hT]);have EQ2:=hid hEQ2;have hz:=aw_ w4 (.cells #[.int .i64 x.kind,.string x.name,.int .i64 x.n,.slice a x.args.length c] 37);have hz2:=hz.alloc (by simp) (.cells #[.int .i64 x.kind,.string x.name,.int .i64 x.n,.slice a x.args.length c] 37);have hAc:=(AC.out.keep (w':=w4) hsz4 (fun b hb hlb=>H4.out.block b hlb (fun e=>by injection e;omega)));have hAc2:=hAc.keep hz2.size (fun b hb hlb=>hz2.block b hlb);have hx2:=hA.keep (fun b hb=>hz2.block b hb.2);have R6:=hR.low hz2;have cx:=(B4.new w4 (.int .i64 x.kind) (.string x.name) (.int .i64 x.n) (.slice a x.args.length c));have kt5:=KT4.out.low hz;have kt6:=KT4.out.low hz2;have t3:=kt5.c3;have ct3:=kt6.c3;have ft3:=kt6.fr 3;obtain⟨x0,x1,x2,x3⟩:=cx.c03;have KT6:=hid kt6;have KR6:=hid (KR4.out.low hz2);have G6:=hid (ac_ G4.out (ad_ hz2));have A6:=hid hAc2;have X6:=hid hx2;have RR6:=hid R6;have hva:∀ b,u.ownBlock=some b→b<wr.heap.size:=fun b hb=>(AC.out.own.lt b hb).2;have HVA:=hid hva;have hal:=AC.out.len;have hnt:u.ownBlock≠some (w1.heap.size):=fun e=>by have:=(AC.out.own.lt _ e).1;omega
       have hnr:u.ownBlock≠some (w.heap.size):=fun e=>by have:=(AC.out.own.lt _ e).1;omega
       have HNT:=hid hnt;have HNR:=hid hnr;have HTX:=hid hT;clear hT hA hR hEQ2 hAc hAc2 hx2 R6 cx kt5 kt6 hz hva hnt hnr;obtain⟨i0,hi0,hz0,hz1,hz3⟩:=info_parts i1_;unfold tv;go_wp2_with (at_builtin;refine wpList_append_lies _ rfl _ _ _ rfl (w1.heap.size+1) 37 i0 _ 4 56 Tryz.underlying35 hi0 hz0 hz1 hz3 rfl (by omega) u acc.length (bQ_ acc svs) rfl A6.out.own ⟨w4.heap.size+1,0,none⟩ 1 1 (dJ_ x (.slice a x.args.length c)) rfl rfl (World.news_of_block (cs:=#[.int .i64 x.kind,.string x.name,.int .i64 x.n,.slice a x.args.length c]) (t:=37) (fr:=(0,0)) (ah_ (by simp))) (by simp[dJ_,Value.oneCell']) (by omega) (by unfold maxLen;omega) (by omega) (by simp;omega) (w4.heap.size+1+1) (by simp) ?_;intro gg cap w7 hown7 hgrow7 hat7 hlt7;have kt7:=KT6.out.grown hgrow7 (fun e=>HNT.out e);have c73:=kt7.c3;have f73:=kt7.fr 3;have KT7:=hid kt7;clear kt7);have hA7:=A6.out.add (v':=.slice (some ⟨gg,0,none⟩) (acc.length+1) cap) X6.out (fun b hb=>⟨by have:=hb.1;omega,by have:=hb.2;simp;omega,fun e=>by have:=HVA.out b e;have:=hb.1;omega⟩) hgrow7 hown7 (fun b hb=>by
        simp only[Value.ownBlock,Option.some.injEq] at hb;subst hb
        rcases hat7 with e|e
        ·exact .inl e
        ·right;subst e;simp)
       have hsz7:=hgrow7.size;have hw7:w4.heap.size+1+1≤w7.heap.size:=by simpa using hsz7
       have KR7:=KR6.out.grown hgrow7 (fun e=>HNR.out e);have R7:=RR6.out.grown hgrow7 (fun e=>by have:=(A6.out.own.lt _ e).1;omega) (fun b e hb=>by have:=(A6.out.own.lt _ e).1;omega);have hown8:w.grownBy w7 (some B):=⟨hgrow7.os.trans G6.out.os,hgrow7.tape.trans G6.out.tape,hgrow7.output.trans G6.out.output,by omega,fun k hk hr=>(hgrow7.block k (by simp;omega) (fun e=>by have:=(A6.out.own.lt _ e.symm).1;omega)).trans (G6.out.block k hk hr)⟩;have G8:Hid (w.grownBy (w7.setCell ⟨w1.heap.size,3,none⟩ (.slice (some ⟨gg,0,none⟩) (acc.length+1) cap)) (some B)):=hid ⟨hown8.os,hown8.tape,hown8.output,by simpa using hown8.size,fun k hk hr=>(aB_ _ _ _ _ (by simp;omega)).trans (hown8.block k hk hr)⟩;have A8:=hid (hA7.keep (w':=w7.setCell ⟨w1.heap.size,3,none⟩ (.slice (some ⟨gg,0,none⟩) (acc.length+1) cap)) (by simp) (fun b hb _=>aB_ _ _ _ _ (by simp;omega)));have K8:Hid (B4 (w7.setCell ⟨w1.heap.size,3,none⟩ (.slice (some ⟨gg,0,none⟩) (acc.length+1) cap)) w1.heap.size (.int .i64 3) (.string (ab_ (ae_ l))) (.int .i64 0) (.slice (some ⟨gg,0,none⟩) (acc.length+1) cap)):=hid (by
        have:=KT7.out;unfold B4 at *;rw[aN_ this];rfl)
       have KR8:Hid (B4 (w7.setCell ⟨w1.heap.size,3,none⟩ (.slice (some ⟨gg,0,none⟩) (acc.length+1) cap)) w.heap.size (.int .i64 0) (.string ByteArray.empty) (.int .i64 0) (.slice none 0 0)):=hid ((aB_ _ _ _ _ (by simp;omega)).trans KR7);have R8:=hid (R7.set (p:=⟨w1.heap.size,3,none⟩) hBt (by simp;omega) (.slice (some ⟨gg,0,none⟩) (acc.length+1) cap));clear hA7 hgrow7 hown7 hown8 hat7 hlt7 c73 f73 KR7 R7;go_wp2;go_roundg r.length
       case measure=>omega
       case rel=>exact⟨r,acc++[x],svs++[.slice a x.args.length c],m,_,rfl,R8.out,dP_ m l' x r TK.out HTX.out,by omega,by omega,by omega,EQ2.out,K8.out,A8.out,KR8.out,G8.out,by rw[List.length_append];simp;omega,by simp;omega⟩
  ·have hst':cL_ l'=false:=by simpa using hst
   have hstl:(sk l' 1 || sk l' 5 || sk l' 2 || st l' 6 dT_)=false:=hst';simp only[Bool.or_eq_false_iff] at hstl;obtain⟨⟨⟨h1,h5⟩,h2⟩,h6⟩:=hstl;have S1:=hid (cg_ hR (k:=1) (s:=[]) (ch_ h1));have S2:=hid (cg_ hR (k:=5) (s:=[]) (ch_ h5));have S3:=hid (cg_ hR (k:=2) (s:=[]) (ch_ h2));have S4:=hid (cg_ hR (k:=6) (s:=dT_) (f3_ (by decide) h6));have E2:Hid (bY_ (n+1) l=some (d0_ (ae_ l) acc,l')):=hid (by rw[hEQ,a6_,if_neg hst]);obtain⟨ua,uc,rfl⟩:=aG_ ac.own;obtain⟨t0,t1,t2,t3⟩:=kt.c03;obtain⟨c0,c1,c2,c3⟩:=kr.c03;obtain⟨f0,f1,f2,f3⟩:=kr.f03;have hne:=kr.ne_rd hR;clear hst hst' h1 h5 h2 h6 hR hTk hEQ kt ac kr gw;go_wp2_with fail;refine S1.out.mono ?_;rintro e w3 ⟨rfl,rfl⟩;go_wp2_with fail;refine S2.out.mono ?_;rintro e w3 ⟨rfl,rfl⟩;go_wp2_with fail;refine S3.out.mono ?_;rintro e w3 ⟨rfl,rfl⟩;go_wp2_with fail;refine S4.out.mono ?_;rintro e w3 ⟨rfl,rfl⟩;go_wp2;have q4:=KR.out.set4 (.int .i64 3) (.string (ab_ (ae_ l))) (.int .i64 0) (.slice ua acc.length uc);have g4:=aq_ GW.out (aC_ _) (.int .i64 3) (.string (ab_ (ae_ l))) (.int .i64 0) (.slice ua acc.length uc);have r4:=RR.out.set4 (Ne.symm hne) hN (.int .i64 3) (.string (ab_ (ae_ l))) (.int .i64 0) (.slice ua acc.length uc);have ha4:=(AC.out.args (by omega)).keep (B:=(((wr.setCell ⟨w.heap.size,0,none⟩ (.int .i64 3)).setCell ⟨w.heap.size,1,none⟩ (.string (ab_ (ae_ l)))).setCell ⟨w.heap.size,2,none⟩ (.int .i64 0)).setCell ⟨w.heap.size,3,none⟩ (.slice ua acc.length uc)) (fun b hb=>by
    have b1:=hb.1;rw[aB_ _ _ _ _ (by simp;omega),aB_ _ _ _ _ (by simp;omega),aB_ _ _ _ _ (by simp;omega),aB_ _ _ _ _ (by simp;omega)])
   refine bodyPost_ret (v:=.tuple #[tv (d0_ (ae_ l) acc) ua uc,.bool true]) (by simp[results,Tryz.results129,go_sem,q4.c0,q4.c1,q4.c2,q4.c3];rfl) rfl ?_;rw[E2.out];exact⟨g4,ua,uc,rfl,ha4.mono (fun b hb=>⟨by have:=hb.1;omega,by simpa using hb.2⟩),r4⟩
open Lx
def R4 (w:World)(b:Nat)(c0 c1 c2 c3:Value):Prop:=w.heap[b]? = some (.cells #[c0,c1,c2,c3] 43 (0,0))
section
variable {w w' : World} {b : Nat} {u0 u1 u2 u3 : Value}
theorem R4.c0 (h:R4 w b u0 u1 u2 u3):w.cell? ⟨b,0,none⟩=some u0:=cell_of_row w b 0 _ _ _ h
theorem R4.c1 (h:R4 w b u0 u1 u2 u3):w.cell? ⟨b,1,none⟩=some u1:=cell_of_row w b 1 _ _ _ h
theorem R4.c2 (h:R4 w b u0 u1 u2 u3):w.cell? ⟨b,2,none⟩=some u2:=cell_of_row w b 2 _ _ _ h
theorem R4.c3 (h:R4 w b u0 u1 u2 u3):w.cell? ⟨b,3,none⟩=some u3:=cell_of_row w b 3 _ _ _ h
theorem R4.fr (h:R4 w b u0 u1 u2 u3)(i:Nat):w.frozen? ⟨b,i,none⟩=false:=by unfold R4 at h;simp[World.frozen?,h]
theorem R4.c03 (h:R4 w b u0 u1 u2 u3):w.cell? ⟨b,0,none⟩=some u0∧w.cell? ⟨b,1,none⟩=some u1∧w.cell? ⟨b,2,none⟩=some u2∧w.cell? ⟨b,3,none⟩=some u3:=⟨h.c0,h.c1,h.c2,h.c3⟩
theorem R4.f03 (h:R4 w b u0 u1 u2 u3):w.frozen? ⟨b,0,none⟩=false∧w.frozen? ⟨b,1,none⟩=false∧w.frozen? ⟨b,2,none⟩=false∧w.frozen? ⟨b,3,none⟩=false:=⟨h.fr 0,h.fr 1,h.fr 2,h.fr 3⟩
theorem R4.lt (h:R4 w b u0 u1 u2 u3):b<w.heap.size:=(Array.getElem?_eq_some_iff.1 h).1
theorem R4.new (w:World)(u0 u1 u2 u3:Value):R4 (w.alloc (.cells #[u0,u1,u2,u3] 43)) w.heap.size u0 u1 u2 u3:=heap_alloc_new w _
theorem R4.grown {r:Option Nat}(h:R4 w b u0 u1 u2 u3)(hg:w.grownBy w' r)(hr:r≠some b):R4 w' b u0 u1 u2 u3:=(hg.block b h.lt (Ne.symm hr)).trans h
theorem R4.low (h:R4 w b u0 u1 u2 u3)(hb:Below w.heap.size w w'):R4 w' b u0 u1 u2 u3:=(hb.block b h.lt).trans h
end
theorem R4.set4 {w:World}{b:Nat}{u0 u1 u2 u3:Value}(h:R4 w b u0 u1 u2 u3)(v0 v1 v2 v3:Value) :
  R4 ((((w.setCell ⟨b,0,none⟩ v0).setCell ⟨b,1,none⟩ v1).setCell ⟨b,2,none⟩ v2).setCell ⟨b,3,none⟩ v3) b v0 v1 v2 v3:=by
 unfold R4 at *;rw[aN_ (aN_ (aN_ (aN_ h v0) v1) v2) v3];rfl
structure lO_ (lo:Nat)(w:World)(v:Value)(acc:List Ty)(svs:List Value):Prop where
 own:w.ownsRow lo 43 4 v acc.length (bQ_ acc svs)
 len:svs.length=acc.length
 at_:∀ (j:Nat) (t:Ty) (sv:Value),acc[j]? = some t→svs[j]? = some sv→aa_ (fun b=>lo≤b∧b<w.heap.size∧v.ownBlock≠some b) w sv t.args
theorem lO_.nil (lo:Nat)(w:World):lO_ lo w (.slice none 0 0) [] []:=⟨World.ownsRow_nil _ _ _ _,rfl,by simp⟩
theorem lO_.keep {lo:Nat}{w w':World}{v:Value}{acc:List Ty}{svs:List Value}(h:lO_ lo w v acc svs)(hs:w.heap.size≤w'.heap.size)(hk:∀ b,lo≤b→b<w.heap.size→w'.heap[b]? = w.heap[b]?):lO_ lo w' v acc svs :=
 ⟨aF_ h.own fun b hb=>hk b (h.own.lt b hb).1 (h.own.lt b hb).2,h.len,fun j t sv h1 h2=>((h.at_ j t sv h1 h2).keep fun b hb=>hk b hb.1 hb.2.1).mono fun b hb=>⟨hb.1,by have:=hb.2.1;omega,hb.2.2⟩⟩
theorem lO_.add {lo:Nat}{w w':World}{v v' sv:Value}{acc:List Ty}{svs:List Value}{t:Ty}{S:Nat→Prop}(h:lO_ lo w v acc svs)(hx:aa_ S w sv t.args)(hS:∀ b,S b→lo≤b∧b<w.heap.size∧v.ownBlock≠some b)
  (hg:w.grownBy w' v.ownBlock) (ho:w'.ownsRow lo 43 4 v' (acc.length+1) (bQ_ acc svs++dJ_ t sv)) (hat:∀ b,v'.ownBlock=some b→v.ownBlock=some b∨w.heap.size≤b):lO_ lo w' v' (acc++[t]) (svs++[sv]):=by
 have kp:∀ {S:Nat→Prop} {y:Value} {ts:List Ty},(∀ b,S b→lo≤b∧b<w.heap.size∧v.ownBlock≠some b)→aa_ S w y ts→aa_ (fun b=>lo≤b∧b<w'.heap.size∧v'.ownBlock≠some b) w' y ts:=fun {S y ts} hS hy =>
  (hy.keep fun b hb=>hg.block b (hS b hb).2.1 (Ne.symm (hS b hb).2.2)).mono fun b hb=>⟨(hS b hb).1,ba_ (hS b hb).2.1 hg.size,fun e=>by
   rcases hat b e with e|e
   ·exact (hS b hb).2.2 e
   ·have:=(hS b hb).2.1;omega⟩
 refine⟨by rw[eX_ _ _ _ _ h.len,List.length_append];exact ho,by simp[h.len],fun j u y h1 h2=>?_⟩
 rcases Nat.lt_or_ge j acc.length with hlt|hge
 ·rw[List.getElem?_append_left hlt] at h1
  rw[List.getElem?_append_left (by rw[h.len];exact hlt)] at h2;exact kp (fun b hb=>hb) (h.at_ j u y h1 h2)
 ·have hj:j=acc.length:=by
   have:=(List.getElem?_eq_some_iff.1 h1).1;simp at this;omega
  subst hj;rw[List.getElem?_append_right (aC_ _)] at h1;rw[← h.len,List.getElem?_append_right (aC_ _)] at h2;simp at h1 h2;subst h1 h2;exact kp hS hx
theorem lO_.args {lo:Nat}{w:World}{v:Value}{acc:List Ty}{svs:List Value}(h:lO_ lo w v acc svs)(hl:acc.length≤4000):aa_ (In lo w.heap.size) w v acc:=by
 rcases h.own.2 with ⟨rfl,h0⟩|⟨g,cap,cur,rfl,hb,hg,h1,h2,h3,h4⟩
 ·have:acc=[]:=List.eq_nil_of_length_eq_zero h0
  subst this;exact .nil _ _
 ·refine .mk g 0 cap acc (fun i=>svs.getD i (.slice none 0 0)) ⟨hb,(Array.getElem?_eq_some_iff.1 hg).1⟩ (by omega) (fun i hi=>?_) (fun i hi=>?_)
  ·have hi':i<svs.length:=by rw[h.len];exact hi
   obtain⟨a0,a1,a2,a3⟩:=fn_ acc svs h.len i hi hi';have hc:=h.own.cells (g:=g) rfl;have hadd:∀ j,(⟨g,0,none⟩:Addr).add j=⟨g,j,none⟩:=fun j=>by unfold Addr.add;split<;>simp_all
   have b0:=hc _ _ a0;have b1:=hc _ _ a1;have b2:=hc _ _ a2;have b3:=hc _ _ a3;rw[hadd] at b0 b1 b2 b3;simp only[Nat.zero_add];rw[List.getD_eq_getElem?_getD,List.getElem?_eq_getElem hi'];exact⟨b0,b1,b2,b3⟩
  ·have hi':i<svs.length:=by rw[h.len];exact hi
   simp only[List.getD_eq_getElem?_getD,List.getElem?_eq_getElem hi',Option.getD_some];exact (h.at_ i _ _ (List.getElem?_eq_getElem hi) (List.getElem?_eq_getElem hi')).mono fun b hb=>⟨hb.1,hb.2.1⟩
theorem kF_:(Tryz.prog.info? 43).map (fun i=>(i.zero,i.size,i.bytes))=some (some (.agg #[.int .i64 0,.string ByteArray.empty,.int .i64 0,.slice none 0 0]),4,56):=by kernel_rfl
def cM_ (w:World)(n:Nat)(res:Option (Ty × List Tok))(e:Ending)(w':World):Prop :=
 Below w.heap.size w w'∧match res with
 | none=>∃ (k:Int) (s:ByteArray) (n:Int) (a:OA_) (c m:Nat),e=.returned (.tuple #[.agg #[.int .i64 k,.string s,.int .i64 n,.slice a c m],.int .i64 (-1)])
 | some (t,r)=>∃ a c,e=.returned (.tuple #[tv t a c,.int .i64 ((n - r.length:Nat):Int)])∧aa_ (In w.heap.size w'.heap.size) w' (.slice a t.args.length c) t.args
structure kM_ (l:List Tok):Prop where
 num:∀ t∈l,t.kind=5→t.text.tail.length≤6∧t.text≠[]∧∀ c∈t.text.tail,au_ c=true
 par:∀ t∈l,t.text=dT_→t.kind=6
structure io_ (n:Nat):Prop where
 typ:∀ (w:World) (a:OA_) (c:Nat) (l:List Tok) (i:Nat),bu_ w (.slice a l.length c) l→(∀ b o,a=some ⟨b,o,none⟩→b<w.heap.size)→kM_ l→l.length≤4000→i≤l.length→4*(l.length - i)+4≤n→Calls Tryz.prog 56 #[.slice a l.length c,.int .i64 i] w (cM_ w l.length (bC_ n (l.drop i)))
 app:∀ (w:World) (a:OA_) (c:Nat) (l:List Tok) (i:Nat),bu_ w (.slice a l.length c) l→(∀ b o,a=some ⟨b,o,none⟩→b<w.heap.size)→kM_ l→l.length≤4000→i≤l.length→4*(l.length - i)+3≤n→Calls Tryz.prog 96 #[.slice a l.length c,.int .i64 i] w (cM_ w l.length (bY_ n (l.drop i)))
 atom:∀ (w:World) (a:OA_) (c:Nat) (l:List Tok) (i:Nat),bu_ w (.slice a l.length c) l→(∀ b o,a=some ⟨b,o,none⟩→b<w.heap.size)→kM_ l→l.length≤4000→i≤l.length→4*(l.length - i)+2≤n→Calls Tryz.prog 133 #[.slice a l.length c,.int .i64 i] w (cM_ w l.length (aI_ n (l.drop i)))
end Go.Proofs.YtjecnionbjlncaaGreatDoor.Tp

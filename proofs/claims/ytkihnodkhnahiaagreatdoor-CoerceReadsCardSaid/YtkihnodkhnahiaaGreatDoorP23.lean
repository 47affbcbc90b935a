/- Packed. -/
import Derived.Test.YtkihnodkhnahiaaGreatDoorP22
set_option maxRecDepth 100000
set_option maxHeartbeats 6400000
namespace Go.Proofs.YtkihnodkhnahiaaGreatDoor.Tp
section
open Go.RowKit
open Lx
theorem Rc.ne {N B b:Nat}{w:World}{l:List Tok}{bad:Bool}{u0 u1 u2 u3:Value}(h:Rc N B w l bad)(k:B4 w b u0 u1 u2 u3):b≠B:=by
 obtain⟨a,cap,h1,_⟩:=h;rintro rfl;unfold B4 at k;rw[h1] at k;injection k with k
 injection k with _ k
 exact absurd k (by decide)
theorem Rc.set4 {N B:Nat}{w:World}{l:List Tok}{bad:Bool}(h:Rc N B w l bad){b:Nat}(hB:B≠b)(hN:N≤b)(v0 v1 v2 v3:Value):Rc N B ((((w.setCell ⟨b,0,none⟩ v0).setCell ⟨b,1,none⟩ v1).setCell ⟨b,2,none⟩ v2).setCell ⟨b,3,none⟩ v3) l bad :=
 (((h.set (p:=⟨b,0,none⟩) hB hN v0).set (p:=⟨b,1,none⟩) hB hN v1).set (p:=⟨b,2,none⟩) hB hN v2).set (p:=⟨b,3,none⟩) hB hN v3
theorem typc (N B:Nat)(w:World)(l:List Tok)(h:Rc N B w l false)(hN:N≤w.heap.size)(hok:c2_ l)(hl:l.length≤4000) :
  Calls Tryz.prog 86 #[.pointer (some ⟨B,0,none⟩)] w (rL_ N B w l):=by
 have hz:=ao_ w (.cells #[.int .i64 0,.string ByteArray.empty,.int .i64 0,.slice none 0 0] 30);have hr:=h.low hz;have hBn:B≠w.heap.size:=by have:=h.lt;omega
 have CN:=hid (fa_ 6 lts N B _ l false hr);have b4:=hid (B4.new w (.int .i64 0) (.string ByteArray.empty) (.int .i64 0) (.slice none 0 0));have HZ:=hid hz;have OK:=hid hok;have HL:=hid hl;have HN:=hid hN;have HB:=hid hBn;clear h hr hz hok hl hN hBn;go_enter Tryz.func86,Tryz.ntmps86;go_wp2_with fail;refine CN.out.mono ?_;intro e w1 hpost;obtain⟨hg1,hsz1,s1,l1,b1,rfl,hR1,hcase⟩:=bC_ hpost;have k1:=hid (b4.out.grown hg1 (fun e=>HB.out (by injection e)));have G1:=hid (ad_ (af_ (r:=some B) HZ.out) hg1);have hs1:w.heap.size+1=w1.heap.size:=by rw[hsz1];simp
 have hok1:c2_ l1:=by rcases hcase with ⟨_,_,rfl,_⟩|⟨_,_,rfl,_⟩<;>first|exact OK.out.tail|exact OK.out
 have hl1:l1.length≤4000:=by have:=HL.out;rcases hcase with ⟨_,_,rfl,_⟩|⟨_,_,rfl,_⟩<;>(try simp)<;>omega
 obtain⟨a,cap,hb,ht,_,ha,hNB⟩:=id hR1;have cB:w1.cell? ⟨B,0,none⟩=some (.slice a l1.length cap):=cell_of_row w1 B 0 _ _ _ hb;have CR:=hid (ng_ N w1 (by have:=HN.out;omega) a cap l1 ht ha hok1 hl1);have R1:=hid hR1;have HC:=hid hcase;have HS1:=hid hs1;have HL1:=hid hl1;clear hpost hg1 hsz1 hcase hs1 hok1 hl1 hb ht ha hR1 CN b4 HZ OK HL;go_wp2_with fail;refine CR.out.mono ?_;rintro e w2 ⟨hb2,hres⟩;have hR2:=R1.out.low hb2;have k2:=k1.out.low hb2;have hlt2:=hR2.lt;have d1:B≠w2.heap.size:=by omega
 have d2:=Ne.symm d1;have d3:w.heap.size≠w2.heap.size:=by have:=k2.lt;omega
 have d4:=Ne.symm d3;have d5:=HB.out;have d6:=Ne.symm d5;have R2:=hid hR2;have K2:=hid k2;have B2:=hid hb2;clear hR2 k2 hb2 hlt2 cB;cases hT:eo_ l1 with
 | none =>
  rw[hT] at hres;subst hres;unfold zv;have HT:=hid hT;have h3:=ao_ w2 (.cells #[.int .i64 0,.string ⟨#[]⟩,.int .i64 0,.slice none 0 0] 30);have R3:=R2.out.low h3;have k3:=K2.out.low h3;have g3:=ad_ (ad_ G1.out (af_ B2.out)) (af_ (r:=some B) h3);have c1:=R3.c1;obtain⟨a2,cap2,c0⟩:=R3.c0;have f0:=R3.fr 0;have f1:=R3.fr 1;obtain⟨p0,p1,p2,p3⟩:=k3.c03;obtain⟨q0,q1,q2,q3⟩:=k3.f03;have HR3:=hid R3;have K3:=hid k3;have G3:=hid g3;clear hT h3 R3 k3 g3;go_wp2;have q4:=B4.set4 (w:=(w2.alloc (.cells #[.int .i64 0,.string ⟨#[]⟩,.int .i64 0,.slice none 0 0] 30)).setCell ⟨B,1,none⟩ (.bool true)) (b:=w.heap.size) (u0:=.int .i64 0) (u1:=.string ByteArray.empty) (u2:=.int .i64 0) (u3:=.slice none 0 0) (K3.out.grown (bM_ _ ⟨B,1,none⟩ (.bool true)) (fun e=>HB.out (by injection e))) (.int .i64 0) (.string ⟨#[]⟩) (.int .i64 0) (.slice none 0 0);have r4:=(HR3.out.bad true).set4 HB.out HN.out (.int .i64 0) (.string ⟨#[]⟩) (.int .i64 0) (.slice none 0 0);have g4:=av_ (ad_ G3.out (bM_ (w2.alloc (.cells #[.int .i64 0,.string ⟨#[]⟩,.int .i64 0,.slice none 0 0] 30)) ⟨B,1,none⟩ (.bool true))) (aw_ _) (.int .i64 0) (.string ⟨#[]⟩) (.int .i64 0) (.slice none 0 0);refine bodyPost_ret (v:=tv tz none 0) (by simp[results,Tryz.results86,go_sem,q4.c0,q4.c1,q4.c2,q4.c3];rfl) rfl ?_;refine⟨g4,tz,none,0,rfl,.nil _ _,?_⟩;have E:dZ_ l=none:=by
   unfold dZ_
   rcases HC.out with ⟨h,_,h',_⟩|⟨h,_⟩
   ·rw[← h',HT.out];split<;>rfl
   ·rw[b9_ _ _ _ (by decide)] at h;rw[h];rfl
  rw[E];exact⟨_,r4⟩
 | some tr =>
  obtain⟨t,r⟩:=tr;rw[hT] at hres;obtain⟨ta,tc,ra,rc,rfl,hA,hR,hRN⟩:=hres;have HT:=hid hT;have HA:=hid hA;have HRT:=hid hR;have HRN:=hid hRN;unfold tv;have h3:=ao_ w2 (.cells #[.int .i64 t.kind,.string t.name,.int .i64 t.n,.slice ta t.args.length tc] 30);have R3:=R2.out.low h3;have k3:=K2.out.low h3;have g3:=ad_ (ad_ G1.out (af_ B2.out)) (af_ (r:=some B) h3);have c1:=R3.c1;obtain⟨a2,cap2,c0⟩:=R3.c0;have f0:=R3.fr 0;have f1:=R3.fr 1;obtain⟨p0,p1,p2,p3⟩:=k3.c03;obtain⟨q0,q1,q2,q3⟩:=k3.f03;have HR3:=hid R3;have K3:=hid k3;have G3:=hid g3;have hrl:r.length≤9223372036854775807:=by have:=(dF_ _).1 _ _ _ hT;have:=HL1.out;omega
  have HRL:=hid hrl;clear hT hA hR hRN h3 R3 k3 g3 hrl;have RR:=hid (HR3.out.toks (bw_ HRT.out (ao_ w2 (.cells #[.int .i64 t.kind,.string t.name,.int .i64 t.n,.slice ta t.args.length tc] 30))) HRL.out HRN.out);have CN:=hid (fa_ 6 gts N B _ r b1 RR.out);go_wp2_with fail;have t4:=(B4.new w2 (.int .i64 t.kind) (.string t.name) (.int .i64 t.n) (.slice ta t.args.length tc)).grown (bM_ _ ⟨B,0,none⟩ (.slice ra r.length rc)) (fun e=>d1 (by injection e));have k4:=K3.out.grown (bM_ _ ⟨B,0,none⟩ (.slice ra r.length rc)) (fun e=>HB.out (by injection e));have g4:=ad_ G3.out (bM_ (w2.alloc (.cells #[.int .i64 t.kind,.string t.name,.int .i64 t.n,.slice ta t.args.length tc] 30)) ⟨B,0,none⟩ (.slice ra r.length rc));have hx4:∀ b,In w1.heap.size w2.heap.size b→((w2.alloc (.cells #[.int .i64 t.kind,.string t.name,.int .i64 t.n,.slice ta t.args.length tc] 30)).setCell ⟨B,0,none⟩ (.slice ra r.length rc)).heap[b]? = w2.heap[b]? := fun b hb=>by
   have hbB:b≠B:=by rintro rfl;have:=hb.1;have:=R1.out.lt;omega
   rw[aM_ _ _ _ _ hbB];exact (ao_ w2 (.cells #[.int .i64 t.kind,.string t.name,.int .i64 t.n,.slice ta t.args.length tc] 30)).block b hb.2
  have hz4:((w2.alloc (.cells #[.int .i64 t.kind,.string t.name,.int .i64 t.n,.slice ta t.args.length tc] 30)).setCell ⟨B,0,none⟩ (.slice ra r.length rc)).heap.size=w2.heap.size+1:=by simp
  have HA4:=HA.out.keep hx4;clear hx4;generalize (w2.alloc (.cells #[.int .i64 t.kind,.string t.name,.int .i64 t.n,.slice ta t.args.length tc] 30)).setCell ⟨B,0,none⟩ (.slice ra r.length rc)=w4 at *;refine CN.out.mono ?_;intro e w5 hpost;obtain⟨hg5,hz5,s5,l5,b5,rfl,hR5,hcase5⟩:=bC_ hpost;have t5:=t4.grown hg5 (fun e=>d1 (by injection e));have k5:=k4.grown hg5 (fun e=>HB.out (by injection e));obtain⟨u0,u1,u2,u3⟩:=t5.c03;obtain⟨v0,v1,v2,v3⟩:=k5.c03;obtain⟨y0,y1,y2,y3⟩:=k5.f03;have K5:=hid k5;have R5:=hid hR5;have HC5:=hid hcase5;have G5:=hid (ad_ g4 hg5);have A5:Hid (ac_ (In w.heap.size w5.heap.size) w5 (.slice ta t.args.length tc) t.args∧∀ b,In w1.heap.size w2.heap.size b→b≠w.heap.size):=hid ⟨(HA4.keep fun b hb=>hg5.block b (by have:=hb.2;omega) (by intro e;injection e with e;subst e;have:=hb.1;have:=R1.out.lt;omega)).mono fun b hb=>⟨by have:=hb.1;have:=HS1.out;omega,by have:=hb.2;omega⟩,fun b hb=>by have:=hb.1;have:=HS1.out;omega⟩;have A6:Hid (ac_ (In w1.heap.size w2.heap.size) w5 (.slice ta t.args.length tc) t.args):=hid (HA4.keep fun b hb=>hg5.block b (by have:=hb.2;omega) (by intro e;injection e with e;subst e;have:=hb.1;have:=R1.out.lt;omega));have HZ5:Hid (w2.heap.size+1=w5.heap.size):=hid (by omega);clear t4 k4 g4 hz4 HA4 hpost hg5 hz5 t5 k5 hR5 hcase5 c0 c1 f0 f1 p0 p1 p2 p3 q0 q1 q2 q3 A5;go_wp2;have q4:=K5.out.set4 (.int .i64 t.kind) (.string t.name) (.int .i64 t.n) (.slice ta t.args.length tc);have r4:=R5.out.set4 HB.out HN.out (.int .i64 t.kind) (.string t.name) (.int .i64 t.n) (.slice ta t.args.length tc);have g4:=av_ G5.out (aw_ _) (.int .i64 t.kind) (.string t.name) (.int .i64 t.n) (.slice ta t.args.length tc);refine bodyPost_ret (v:=tv t ta tc) (by simp[results,Tryz.results86,go_sem,tv,q4.c0,q4.c1,q4.c2,q4.c3]) rfl ?_;refine⟨g4,t,ta,tc,rfl,(A6.out.keep fun b hb=>?_).mono fun b hb=>?_,?_⟩
  ·have hne:b≠w.heap.size:=by have:=hb.1;have:=HS1.out;omega
   rw[aM_ _ _ _ _ hne,aM_ _ _ _ _ hne,aM_ _ _ _ _ hne,aM_ _ _ _ _ hne]
  ·have h1:=hb.1
   have h2:=hb.2;have h3:=HS1.out;have h4:=HZ5.out;exact⟨by omega,by simp;omega⟩
  ·rcases HC.out with ⟨h,_,h',hb1⟩|⟨h,_,_,hb1⟩
   ·rw[b9_ _ _ _ (by decide)] at h
    have E:dZ_ l=if st r 6 gts then some (t,r.tail) else none:=by unfold dZ_;rw[if_pos h,← h',HT.out]
    rcases HC5.out with ⟨h5,_,e5,e6⟩|⟨h5,_,e5,e6⟩
    ·rw[b9_ _ _ _ (by decide)] at h5
     rw[E,if_pos h5];subst e5 e6 hb1;exact⟨rfl,r4⟩
    ·rw[b9_ _ _ _ (by decide)] at h5
     rw[E,h5,if_neg (by decide)];subst e6;exact⟨_,r4⟩
   ·rw[b9_ _ _ _ (by decide)] at h
    have E:dZ_ l=none:=by unfold dZ_;rw[h];rfl
    rw[E];subst hb1
    rcases HC5.out with ⟨_,_,_,e6⟩|⟨_,_,_,e6⟩<;>(subst e6;exact⟨_,r4⟩)
end
section
theorem bP_ (k:Int)(s:ByteArray)(n:Int)(t:Ty)(l:List Co):(Co.mk k s n t l).kind=k:=rfl
theorem bO_ (k:Int)(s:ByteArray)(n:Int)(t:Ty)(l:List Co):(Co.mk k s n t l).name=s:=rfl
theorem h8_ (k:Int)(s:ByteArray)(n:Int)(t:Ty)(l:List Co):(Co.mk k s n t l).n=n:=rfl
theorem h7_ (k:Int)(s:ByteArray)(n:Int)(t:Ty)(l:List Co):(Co.mk k s n t l).t=t:=rfl
theorem b0_ (k:Int)(s:ByteArray)(n:Int)(t:Ty)(l:List Co):(Co.mk k s n t l).kids=l:=rfl
end
section
open Go.RowKit
open Lx
theorem iR_.push {lo:Nat}{w:World}{v:Value}{acc:List Co}{ps:List (Value × Value)}(h:iR_ lo w v acc ps)(hlo:lo≤w.heap.size)(hl:acc.length≤100000){x:Co}{a:OA_}{n:Nat}{ka:OA_}{kn:Nat}
  (hx:bS_ (fun b=>lo≤b∧b<w.heap.size∧v.ownBlock≠some b) w x a n ka kn) :
  ∃ v' w',(Builtin.append_ #[31,31] 31 #[v,.slice (some ⟨w.heap.size,0,none⟩) 1 1]).run Tryz.prog (w.alloc (.cells #[.int .i64 x.kind,.string x.name,.int .i64 x.n,.int .i64 x.t.kind,.string x.t.name,.int .i64 x.t.n,.slice a x.t.args.length n,.slice ka x.kids.length kn] 33))=.ok v' w' ∧
   iR_ lo w' v' (acc++[x]) (ps++[(.slice a x.t.args.length n,.slice ka x.kids.length kn)])∧w.grownBy w' v.ownBlock∧w.heap.size<w'.heap.size:=by
 obtain⟨i0,hi0,hz0,hz1,hz3⟩:=info_parts qB_;have hg0:w.grownBy (w.alloc (.cells #[.int .i64 x.kind,.string x.name,.int .i64 x.n,.int .i64 x.t.kind,.string x.t.name,.int .i64 x.t.n,.slice a x.t.args.length n,.slice ka x.kids.length kn] 33)) v.ownBlock:=⟨rfl,rfl,rfl,by simp,fun k hk _=>heap_alloc_old w _ hk⟩;obtain⟨g,cap,w',hr,ho,hg,hat,hlt⟩:=run_append_lies (P:=Tryz.prog) (w:=w.alloc (.cells #[.int .i64 x.kind,.string x.name,.int .i64 x.n,.int .i64 x.t.kind,.string x.t.name,.int .i64 x.t.n,.slice a x.t.args.length n,.slice ka x.kids.length kn] 33)) 31 31 lo 33 i0 _ 8 112 Tryz.underlying31 hi0 hz0 hz1 hz3 rfl (by omega) v acc.length (dO_ acc ps) (h.own.alloc _) ⟨w.heap.size,0,none⟩ 1 1
  (ga_ x (.slice a x.t.args.length n,.slice ka x.kids.length kn)) rfl (World.news_of_block (cs:=#[.int .i64 x.kind,.string x.name,.int .i64 x.n,.int .i64 x.t.kind,.string x.t.name,.int .i64 x.t.n,.slice a x.t.args.length n,.slice ka x.kids.length kn]) (t:=33) (fr:=(0,0)) (heap_alloc_new w _)) (by simp[ga_,Value.oneCell']) (by omega) (by unfold maxLen;omega) (by omega) (by simp;omega) (w.heap.size+1) (by simp)
 have hgg:w.grownBy w' v.ownBlock:=⟨hg.os.trans hg0.os,hg.tape.trans hg0.tape,hg.output.trans hg0.output,bm_ hg0.size hg.size,fun k hk hne=>(hg.block k (by simp;omega) hne).trans (hg0.block k hk hne)⟩;have hsz:=hg.size;simp only[World.size_alloc] at hsz;exact⟨_,w',hr,h.add hx.t hx.k (fun b hb=>hb) hgg ho (fun b e=>by
  rcases hat with e3|e3
  ·exact .inl (e3.trans (by simpa [Value.ownBlock] using e))
  ·refine .inr ?_
   have:g=b:=by simpa [Value.ownBlock] using e
   omega),hgg,by omega⟩
theorem iR_.form {lo:Nat}{w:World}{v:Value}{acc:List Co}{ps:List (Value × Value)}(h:iR_ lo w v acc ps):∃ a c,v=.slice a acc.length c:=a2_ h.own
structure RuM (N B:Nat)(w wr:World)(l:List Tok)(bad:Bool)(k:Int)(s:ByteArray)(n:Int)(v:Value)(acc:List Co)(ps:List (Value × Value)):Prop where
 g:w.grownBy wr (some B)
 sz:w.heap.size+2≤wr.heap.size
 r:B8 wr w.heap.size (.int .i64 0) (.string ⟨#[]⟩) (.int .i64 0) (.int .i64 0) (.string ⟨#[]⟩) (.int .i64 0) (.slice none 0 0) (.slice none 0 0)
 o:B8 wr (w.heap.size+1) (.int .i64 k) (.string s) (.int .i64 n) (.int .i64 0) (.string ⟨#[]⟩) (.int .i64 0) (.slice none 0 0) v
 row:iR_ (w.heap.size+2) wr v acc ps
 rc:Rc N B wr l bad
 lt:B<w.heap.size
section
variable {N B : Nat} {w wr w' : World} {l l' : List Tok} {bad bad' : Bool} {k : Int} {s : ByteArray} {n : Int} {v : Value} {acc : List Co} {ps : List (Value × Value)}
theorem RuM.call (h:RuM N B w wr l bad k s n v acc ps)(hg:wr.grownBy w' (some B))(hR:Rc N B w' l' bad'):RuM N B w w' l' bad' k s n v acc ps:=by
 have hB:=h.lt;refine⟨ad_ h.g hg,bm_ h.sz hg.size,h.r.grown hg (fun e=>by injection e;omega),h.o.grown hg (fun e=>by injection e;omega),h.row.keep hg.size fun b hb hb'=>hg.block b hb' (fun e=>by injection e;omega),hR,hB⟩
theorem RuM.low (h:RuM N B w wr l bad k s n v acc ps)(hb:Below wr.heap.size wr w'):RuM N B w w' l bad k s n v acc ps:=h.call (af_ hb) (h.rc.low hb)
theorem RuM.spoil (h:RuM N B w wr l bad k s n v acc ps)(b:Bool):RuM N B w (wr.setCell ⟨B,1,none⟩ (.bool b)) l b k s n v acc ps:=h.call (bM_ _ _ _) (h.rc.bad b)
theorem nC_ {O lo:Nat}(h:iR_ lo wr v acc ps)(hO:O<lo)(i:Nat)(u:Value):iR_ lo (wr.setCell ⟨O,i,none⟩ u) v acc ps:=h.keep (by simp) fun b hb _=>aM_ _ _ _ _ (by show b≠O;omega)
theorem RuM.set (h:RuM N B w wr l bad k s n v acc ps)(hN:N≤w.heap.size)(i:Nat)(u:Value){k':Int}{s':ByteArray}{n':Int}
  (e:#[.int .i64 k,.string s,.int .i64 n,.int .i64 0,.string ⟨#[]⟩,.int .i64 0,.slice none 0 0,v].setIfInBounds i u=#[.int .i64 k',.string s',.int .i64 n',.int .i64 0,.string ⟨#[]⟩,.int .i64 0,.slice none 0 0,v]):RuM N B w (wr.setCell ⟨w.heap.size+1,i,none⟩ u) l bad k' s' n' v acc ps:=by
 have hB:=h.lt;refine⟨⟨h.g.os,h.g.tape,h.g.output,by simpa using h.g.size,fun b hb hne=>?_⟩,by simpa using h.sz,(aM_ _ _ _ _ (by show w.heap.size≠w.heap.size+1;omega)).trans h.r,?_,nC_ h.row (by omega) i u,h.rc.set (by show B≠w.heap.size+1;omega) (by show N≤w.heap.size+1;omega) u,hB⟩
 ·rw[aM_ _ _ _ _ (by show b≠w.heap.size+1;omega)];exact h.g.block b hb hne
 ·have:=h.o.set i u
  rw[e] at this;exact this
theorem RuM.pushed (h:RuM N B w wr l bad k s n v acc ps)(hN:N≤w.heap.size){v':Value}{y:Co}{ps':List (Value × Value)}(hr:iR_ (w.heap.size+2) w' v' (acc++[y]) ps')(hg:wr.grownBy w' v.ownBlock):RuM N B w (w'.setCell ⟨w.heap.size+1,7,none⟩ v') l bad k s n v' (acc++[y]) ps':=by
 have hB:=h.lt;have hv:∀ b,v.ownBlock=some b→w.heap.size+2≤b:=fun b e=>(h.row.own.lt b e).1;have hsz:=h.sz;have gs:=hg.size;refine⟨⟨hg.os.trans h.g.os,hg.tape.trans h.g.tape,hg.output.trans h.g.output,by have:=h.g.size;simp;omega,fun b hb hne=>?_⟩,by simp;omega,(aM_ _ _ _ _ (by show w.heap.size≠w.heap.size+1;omega)).trans (h.r.grown hg fun e=>by have:=hv _ e;omega),?_,nC_ hr (by omega) 7 v',(h.rc.grown hg (fun e=>by have:=hv _ e;omega) fun b e=>by have:=hv b e;omega).set (by show B≠w.heap.size+1;omega) (by show N≤w.heap.size+1;omega) v',hB⟩
 ·rw[aM_ _ _ _ _ (by show b≠w.heap.size+1;omega)]
  exact (hg.block b (by have:=h.g.size;omega) (fun e=>by have:=hv b e.symm;omega)).trans (h.g.block b hb hne)
 ·have:=(h.o.grown hg fun e=>by have:=hv _ e;omega).set 7 v'
  exact this
end
open Lx
theorem kI_ {l:List Tok}(h:∀ t∈l,be_ t):c2_ l:=fun t ht h5=>by
 obtain⟨ds,e,n⟩:=mK_ (h t ht) h5;rw[e];have:=n.len;refine⟨by simp;omega,?_⟩;rw[List.tail_cons];exact fq_ ds (fun e=>by rw[e] at this;simp at this) n.digits
def cX_ (N B:Nat)(w:World)(res:Option (Co × List Tok))(e:Ending)(w':World):Prop :=
 w.grownBy w' (some B)∧∃ c a n ka kn,e=.returned (cv c a n ka kn)∧bS_ (In w.heap.size w'.heap.size) w' c a n ka kn∧match res with
  | some (c',r)=>c=c'∧Rc N B w' r false
  | none=>∃ l',Rc N B w' l' true
def ej_ (n:Nat):Prop:=∀ (N B:Nat) (w:World) (l:List Tok),Rc N B w l false→N≤w.heap.size→VsN N w→(∀ t∈l,be_ t)→l.length≤4000→4*l.length+1≤n→Calls Tryz.prog 49 #[.pointer (some ⟨B,0,none⟩)] w (cX_ N B w (coF n l))
def ll_ (n:Nat):Prop:=∀ (N B:Nat) (w:World) (l:List Tok),Rc N B w l false→N≤w.heap.size→VsN N w→(∀ t∈l,be_ t)→l.length≤4000→4*l.length+4≤n→Calls Tryz.prog 88 #[.pointer (some ⟨B,0,none⟩)] w (cX_ N B w (a1_ n l))
theorem Rc.set80 {N B:Nat}{w:World}{l:List Tok}{bad:Bool}(h:Rc N B w l bad){b:Nat}(hB:B≠b)(hN:N≤b)(u0 u1 u2 u3 u4 u5 u6 u7:Value):Rc N B (st80 w b u0 u1 u2 u3 u4 u5 u6 u7) l bad :=
 (((((((h.set (p:=⟨b,0,none⟩) hB hN u0).set (p:=⟨b,1,none⟩) hB hN u1).set (p:=⟨b,2,none⟩) hB hN u2).set (p:=⟨b,3,none⟩) hB hN u3).set (p:=⟨b,4,none⟩) hB hN u4).set (p:=⟨b,5,none⟩) hB hN u5).set (p:=⟨b,6,none⟩) hB hN u6).set (p:=⟨b,7,none⟩) hB hN u7
theorem kk_ {w w1:World}{r:Option Nat}{b:Nat}(h:w.grownBy w1 r)(hb:w.heap.size≤b)(u0 u1 u2 u3 u4 u5 u6 u7:Value):w.grownBy (st80 w1 b u0 u1 u2 u3 u4 u5 u6 u7) r:=by
 have hb:=dE_ w1 b 0 u0 u1 u2 u3 u4 u5 u6 u7 (Below.refl w.heap.size w1) hb;exact⟨hb.os.trans h.os,hb.tape.trans h.tape,hb.output.trans h.output,bm_ h.size hb.size,fun k hk hr=>(hb.block k hk).trans (h.block k hk hr)⟩
theorem jC_ {N B:Nat}{w w2:World}{l':List Tok}{bad:Bool}{x:Co}{a:OA_}{n:Nat}{ka:OA_}{kn:Nat}{u0 u1 u2 u3 u4 u5 u6 u7:Value}(g:w.grownBy w2 (some B))(k:B8 w2 w.heap.size u0 u1 u2 u3 u4 u5 u6 u7)(hR:Rc N B w2 l' bad)(hN:N≤w.heap.size)(hB:B<w.heap.size)
  (hx:bS_ (In (w.heap.size+1) w2.heap.size) w2 x a n ka kn) :
  B8 (st80 w2 w.heap.size (.int .i64 x.kind) (.string x.name) (.int .i64 x.n) (.int .i64 x.t.kind) (.string x.t.name) (.int .i64 x.t.n) (.slice a x.t.args.length n) (.slice ka x.kids.length kn)) w.heap.size (.int .i64 x.kind) (.string x.name) (.int .i64 x.n) (.int .i64 x.t.kind) (.string x.t.name) (.int .i64 x.t.n) (.slice a x.t.args.length n) (.slice ka x.kids.length kn) ∧
  ∀ res:Option (Co × List Tok),(match res with|some (c',r)=>x=c'∧l'=r∧bad=false|none=>bad=true) →
   cX_ N B w res (.returned (cv x a n ka kn)) (st80 w2 w.heap.size (.int .i64 x.kind) (.string x.name) (.int .i64 x.n) (.int .i64 x.t.kind) (.string x.t.name) (.int .i64 x.t.n) (.slice a x.t.args.length n) (.slice ka x.kids.length kn)):=by
 have hz:(st80 w2 w.heap.size (.int .i64 x.kind) (.string x.name) (.int .i64 x.n) (.int .i64 x.t.kind) (.string x.t.name) (.int .i64 x.t.n) (.slice a x.t.args.length n) (.slice ka x.kids.length kn)).heap.size=w2.heap.size:=by simp
 have hr:=hR.set80 (b:=w.heap.size) (by omega) hN (.int .i64 x.kind) (.string x.name) (.int .i64 x.n) (.int .i64 x.t.kind) (.string x.t.name) (.int .i64 x.t.n) (.slice a x.t.args.length n) (.slice ka x.kids.length kn);refine⟨k.set80 ..,fun res h=>⟨kk_ g (aw_ _) ..,x,a,n,ka,kn,rfl,(hx.keep fun b hb=>?_).mono fun b hb=>⟨by have:=hb.1;omega,by rw[hz];exact hb.2⟩,?_⟩⟩
 ·rw[im_]
  exact gK_ _ _ _ _ _ _ _ _ _ _ _ (by have:=hb.1;omega)
 ·cases res with
  | none=>subst h;exact⟨_,hr⟩
  | some p=>obtain⟨c',r⟩:=p;obtain⟨h1,h2,h3⟩:=h;subst h2 h3;exact⟨h1,hr⟩
theorem sF_ (n N B:Nat)(w:World)(l:List Tok)(h:Rc N B w l false)(hN:N≤w.heap.size)(hok:∀ t∈l,be_ t)(hl:l.length≤4000)(h1:st l 6 lts=true):Calls Tryz.prog 49 #[.pointer (some ⟨B,0,none⟩)] w (cX_ N B w (coF (n+1) l)):=by
 have hz:=ao_ w (.cells #[.int .i64 0,.string ⟨#[]⟩,.int .i64 0,.int .i64 0,.string ⟨#[]⟩,.int .i64 0,.slice none 0 0,.slice none 0 0] 33);have hr:=h.low hz;have hBn:=h.lt;have CS:=hid (lH_ lts N B _ l false hr);have CT:=hid (typc N B _ l hr (by simp;omega) (kI_ hok) hl);have b8:=hid (B8.new w (.int .i64 0) (.string ⟨#[]⟩) (.int .i64 0) (.int .i64 0) (.string ⟨#[]⟩) (.int .i64 0) (.slice none 0 0) (.slice none 0 0));have HZ:=hid hz;have HB:=hid hBn;have HN:=hid hN;have E:Hid (coF (n+1) l=match dZ_ l with|none=>none|some (t,r)=>some (.mk 2 e0 0 t [],r)):=hid (by rw[coF,if_pos h1];cases dZ_ l<;>rfl);rw[h1] at CS;have c1:=hr.c1;clear h hr hz hok hl hN hBn h1;go_enter Tryz.func49,Tryz.ntmps49;go_wp2_with fail;refine CS.out.mono ?_;rintro e w1 ⟨rfl,rfl⟩;go_wp2_with fail;refine CT.out.mono ?_;rintro e w2 ⟨hg,t,a,c,rfl,hA,hres⟩;have k2:=b8.out.grown hg (fun e=>by injection e with e;have:=HB.out;omega);have G2:=hid (ad_ (af_ (r:=some B) HZ.out) hg);obtain⟨p0,p1,p2,p3,p4,p5,p6,p7⟩:=k2.c07;obtain⟨fz0,fz1,fz2,fz3,fz4,fz5,fz6,fz7⟩:=k2.f07;have K2:=hid k2;have HA:=hid hA;have HR:=hid hres;clear k2 hg hA hres c1;unfold tv;go_wp2;obtain⟨l2,b2,r2,e2⟩:∃ l2 b2,Rc N B w2 l2 b2∧(match (coF (n+1) l) with|some (c',r)=>Co.mk 2 e0 0 t []=c'∧l2=r∧b2=false|none=>b2=true):=by
  have hres:=HR.out;rw[E.out];cases hT:dZ_ l with
  | none=>rw[hT] at hres;obtain⟨l',h⟩:=hres;exact⟨l',true,h,rfl⟩
  | some p=>obtain⟨t',r⟩:=p;rw[hT] at hres;obtain⟨e,h⟩:=hres;subst e;exact⟨r,false,h,rfl,rfl,rfl⟩
 obtain⟨k8,PP⟩:=jC_ (x:=.mk 2 e0 0 t []) (a:=a) (n:=c) (ka:=none) (kn:=0) G2.out K2.out r2 HN.out HB.out ⟨HA.out.mono fun b hb=>⟨by have:=hb.1;simp at this;omega,hb.2⟩,.nil _ _⟩;refine bodyPost_ret (v:=cv (.mk 2 e0 0 t []) a c none 0) ?_ rfl (PP _ e2);simp only[bP_,bO_,h8_,h7_,b0_,e0,List.length_nil] at k8 ⊢;simp[results,Tryz.results49,go_sem,cv,k8.c0,k8.c1,k8.c2,k8.c3,k8.c4,k8.c5,k8.c6,k8.c7,bP_,bO_,h8_,h7_,b0_]
theorem co_nm (n N B:Nat)(w:World)(l:List Tok)(h:Rc N B w l false)(hN:N≤w.heap.size)(h1:st l 6 lts=false)(h2:st l 6 bX_=false):Calls Tryz.prog 49 #[.pointer (some ⟨B,0,none⟩)] w (cX_ N B w (coF (n+1) l)):=by
 have hz:=ao_ w (.cells #[.int .i64 0,.string ⟨#[]⟩,.int .i64 0,.int .i64 0,.string ⟨#[]⟩,.int .i64 0,.slice none 0 0,.slice none 0 0] 33);have hr:=h.low hz;have hBn:=h.lt;have CS:=hid (lH_ lts N B _ l false hr);have CP:=hid (lH_ bX_ N B _ l false hr);have CN:=hid (fa_ 1 [] N B _ l false hr);have b8:=hid (B8.new w (.int .i64 0) (.string ⟨#[]⟩) (.int .i64 0) (.int .i64 0) (.string ⟨#[]⟩) (.int .i64 0) (.slice none 0 0) (.slice none 0 0));have HZ:=hid hz;have HB:=hid hBn;have HN:=hid hN;have E:Hid (coF (n+1) l=if sk l 1 then some (.mk 1 (aa_ (ab_ l)) 0 tz [],l.tail) else none):=hid (by rw[coF,h1,h2];rfl);rw[h1] at CS;rw[h2] at CP;rw[bY_] at CN;have c1:=hr.c1;clear h hr hz hN hBn h1 h2;go_enter Tryz.func49,Tryz.ntmps49;go_wp2_with fail;refine CS.out.mono ?_;rintro e w1 ⟨rfl,rfl⟩;go_wp2_with fail;refine CP.out.mono ?_;rintro e w1 ⟨rfl,rfl⟩;go_wp2_with fail;refine CN.out.mono ?_;intro e w2 hpost;obtain⟨hg,hsz,s1,l1,b1,rfl,hR,hcase⟩:=bC_ hpost;have k2:=b8.out.grown hg (fun e=>by injection e with e;have:=HB.out;omega);have G2:=hid (ad_ (af_ (r:=some B) HZ.out) hg);obtain⟨p0,p1,p2,p3,p4,p5,p6,p7⟩:=k2.c07;obtain⟨fz0,fz1,fz2,fz3,fz4,fz5,fz6,fz7⟩:=k2.f07;have K2:=hid k2;have HR:=hid hR;have HC:=hid hcase;clear k2 hg hpost hsz hR hcase c1;go_wp2;have e2:(match (coF (n+1) l) with|some (c',r)=>Co.mk 1 s1 0 tz []=c'∧l1=r∧b1=false|none=>b1=true):=by
  rw[E.out]
  rcases HC.out with ⟨a,b,c,d⟩|⟨a,b,c,d⟩
  ·rw[a,if_pos rfl];subst b c d;exact⟨rfl,rfl,rfl⟩
  ·rw[a,if_neg (by decide)];exact d
 obtain⟨k8,PP⟩:=jC_ (x:=.mk 1 s1 0 tz []) (a:=none) (n:=0) (ka:=none) (kn:=0) G2.out K2.out HR.out HN.out HB.out ⟨.nil _ _,.nil _ _⟩;refine bodyPost_ret (v:=.agg #[.int .i64 1,.string s1,.int .i64 0,.int .i64 0,.string ⟨#[]⟩,.int .i64 0,.slice none 0 0,.slice none 0 0]) ?_ rfl (PP _ e2);replace k8:B8 (st80 w2 w.heap.size (.int .i64 1) (.string s1) (.int .i64 0) (.int .i64 0) (.string ⟨#[]⟩) (.int .i64 0) (.slice none 0 0) (.slice none 0 0)) w.heap.size (.int .i64 1) (.string s1) (.int .i64 0) (.int .i64 0) (.string ⟨#[]⟩) (.int .i64 0) (.slice none 0 0) (.slice none 0 0):=k8;simp[results,Tryz.results49,go_sem,k8.c0,k8.c1,k8.c2,k8.c3,k8.c4,k8.c5,k8.c6,k8.c7]
theorem sD_ (n N B:Nat)(w:World)(l:List Tok)(ih:ll_ n)(h:Rc N B w l false)(hN:N≤w.heap.size)(hV:VsN N w)(hok:∀ t∈l,be_ t)(hl:l.length≤4000)(hn:4*l.length+1≤n+1)(h1:st l 6 lts=false)(h2:st l 6 bX_=true):Calls Tryz.prog 49 #[.pointer (some ⟨B,0,none⟩)] w (cX_ N B w (coF (n+1) l)):=by
 have hz:=ao_ w (.cells #[.int .i64 0,.string ⟨#[]⟩,.int .i64 0,.int .i64 0,.string ⟨#[]⟩,.int .i64 0,.slice none 0 0,.slice none 0 0] 33);have hr:=h.low hz;have hBn:=h.lt;have hBN:N≤B:=by obtain⟨_,_,_,_,_,_,h⟩:=h;exact h
 have CS:=hid (lH_ lts N B _ l false hr);have CP:=hid (lH_ bX_ N B _ l false hr);have CN:=hid (fa_ 6 bX_ N B _ l false hr);have b8:=hid (B8.new w (.int .i64 0) (.string ⟨#[]⟩) (.int .i64 0) (.int .i64 0) (.string ⟨#[]⟩) (.int .i64 0) (.slice none 0 0) (.slice none 0 0));have HZ:=hid hz;have HB:=hid hBn;have HN:=hid hN;have E:Hid (coF (n+1) l=match a1_ n l.tail with|none=>none|some (c,r)=>if st r 6 bB_ then some (c,r.tail) else none):=hid (by rw[coF,h1,h2];cases a1_ n l.tail<;>rfl);have hlt:4*l.tail.length+4≤n:=by have:=b8_ h2;rw[List.length_tail];omega
 have CR:=hid (fun (W:World) (hg:w.grownBy W (some B)) (hR:Rc N B W l.tail false)=>ih N B W l.tail hR (bm_ hN hg.size) (hV.below ((Below.refl N w).grown hg hN fun k e=>by injection e with e;omega)) (aI_ hok) (by rw[List.length_tail];omega) hlt);rw[h1] at CS;rw[h2] at CP;rw[b9_ _ _ _ (by decide),h2] at CN;have c1:=hr.c1;clear h hr hz hN hBn h1 h2 ih hV hok hl hn hlt hBN;go_enter Tryz.func49,Tryz.ntmps49;go_wp2_with fail;refine CS.out.mono ?_;rintro e w1 ⟨rfl,rfl⟩;go_wp2_with fail;refine CP.out.mono ?_;rintro e w1 ⟨rfl,rfl⟩;go_wp2_with fail;refine CN.out.mono ?_;rintro e w2 ⟨hg2,hz2,rfl,hR2⟩;have k2:=hid (b8.out.grown hg2 (fun e=>by injection e with e;have:=HB.out;omega));have G2:=hid (ad_ (af_ (r:=some B) HZ.out) hg2);have HR2:=hid hR2;have HS2:Hid (w.heap.size+1=w2.heap.size):=hid (by rw[hz2];simp);clear hg2 hz2 hR2 c1 CN CS CP b8 HZ;go_wp2_with fail;refine (CR.out w2 G2.out HR2.out).mono ?_;rintro e w3 ⟨hg3,x,a,m,ka,kn,rfl,hA,hres⟩;have k3:=k2.out.grown hg3 (fun e=>by injection e with e;have:=HB.out;omega);have G3:=hid (ad_ G2.out hg3);obtain⟨l3,b3,r3,e3⟩:∃ l3 b3,Rc N B w3 l3 b3∧(match a1_ n l.tail with|some (c',r)=>x=c'∧l3=r∧b3=false|none=>b3=true):=by
  cases hT:a1_ n l.tail with
  | none=>rw[hT] at hres;obtain⟨l',h⟩:=hres;exact⟨l',true,h,rfl⟩
  | some p=>obtain⟨t',r⟩:=p;rw[hT] at hres;obtain⟨e,h⟩:=hres;subst e;exact⟨r,false,h,rfl,rfl,rfl⟩
 have E3:=hid e3;have h4:=ao_ w3 (.cells #[.int .i64 x.kind,.string x.name,.int .i64 x.n,.int .i64 x.t.kind,.string x.t.name,.int .i64 x.t.n,.slice a x.t.args.length m,.slice ka x.kids.length kn] 33);have CN4:=hid (fa_ 6 bB_ N B _ l3 b3 (r3.low h4));have k4:=hid (k3.low h4);have t4:=hid (B8.new w3 (.int .i64 x.kind) (.string x.name) (.int .i64 x.n) (.int .i64 x.t.kind) (.string x.t.name) (.int .i64 x.t.n) (.slice a x.t.args.length m) (.slice ka x.kids.length kn));have G4:=hid (ad_ G3.out (af_ (r:=some B) h4));have HA4:=hid (bS_.keep (B:=w3.alloc (.cells #[.int .i64 x.kind,.string x.name,.int .i64 x.n,.int .i64 x.t.kind,.string x.t.name,.int .i64 x.t.n,.slice a x.t.args.length m,.slice ka x.kids.length kn] 33)) (fun b hb=>h4.block b hb.2) hA);have HS3:Hid (w2.heap.size≤w3.heap.size∧B<w3.heap.size):=hid ⟨hg3.size,r3.lt⟩;clear hg3 hA hres k3 r3 e3 h4 CR k2 HR2;unfold cv;go_wp2_with fail;have hz4:(w3.alloc (.cells #[.int .i64 x.kind,.string x.name,.int .i64 x.n,.int .i64 x.t.kind,.string x.t.name,.int .i64 x.t.n,.slice a x.t.args.length m,.slice ka x.kids.length kn] 33)).heap.size=w3.heap.size+1:=by simp
 generalize w3.alloc (.cells #[.int .i64 x.kind,.string x.name,.int .i64 x.n,.int .i64 x.t.kind,.string x.t.name,.int .i64 x.t.n,.slice a x.t.args.length m,.slice ka x.kids.length kn] 33)=w4 at *;refine CN4.out.mono ?_;intro e w5 hpost;obtain⟨hg5,hz5,s5,l5,b5,rfl,hR5,hcase⟩:=bC_ hpost;have k5:=k4.out.grown hg5 (fun e=>by injection e with e;have:=HB.out;omega);have t5:=t4.out.grown hg5 (fun e=>by injection e with e;have:=HS3.out.2;omega);obtain⟨p0,p1,p2,p3,p4,p5,p6,p7⟩:=k5.c07;obtain⟨fz0,fz1,fz2,fz3,fz4,fz5,fz6,fz7⟩:=k5.f07;obtain⟨u0,u1,u2,u3,u4,u5,u6,u7⟩:=t5.c07;have K5:=hid k5;have R5:=hid hR5;have HC:=hid hcase;have G5:=hid (ad_ G4.out hg5);have HA5:Hid (bS_ (In (w.heap.size+1) w5.heap.size) w5 x a m ka kn):=hid ((bS_.keep (A:=w4) (B:=w5) (fun b hb=>hg5.block b (by have:=hb.2;omega) (fun e=>by injection e with e;have h1:=hb.1;have h2:=HS2.out;have h3:=HB.out;omega)) HA4.out).mono fun b hb=>⟨by have h1:=hb.1;have h2:=HS2.out;omega,by have h1:=hb.2;omega⟩);clear hz4 hpost hg5 hz5 hR5 hcase k5 t5 k4 t4 G4 HA4 CN4;go_wp2;have e2:(match (coF (n+1) l) with|some (c',r)=>x=c'∧l5=r∧b5=false|none=>b5=true):=by
  rw[E.out];have e3:=E3.out;have hc:=HC.out;rw[b9_ _ _ _ (by decide)] at hc;cases hT:a1_ n l.tail with
  | none =>
   rw[hT] at e3
   rcases hc with ⟨_,_,_,d⟩|⟨_,_,_,d⟩
   ·rw[d];exact e3
   ·exact d
  | some p =>
   obtain⟨c',r⟩:=p;rw[hT] at e3;obtain⟨e1,e2,e4⟩:=e3;subst e1 e2 e4
   rcases hc with ⟨a,b,c,d⟩|⟨a,b,c,d⟩
   ·show (match (if st l3 6 bB_=true then some (x,l3.tail) else none:Option (Co × List Tok)) with|some (c',r)=>x=c'∧l5=r∧b5=false|none=>b5=true)
    rw[a,if_pos rfl];exact⟨rfl,c,d⟩
   ·show (match (if st l3 6 bB_=true then some (x,l3.tail) else none:Option (Co × List Tok)) with|some (c',r)=>x=c'∧l5=r∧b5=false|none=>b5=true)
    rw[a,if_neg (by decide)];exact d
 obtain⟨k8,PP⟩:=jC_ (x:=x) (a:=a) (n:=m) (ka:=ka) (kn:=kn) G5.out K5.out R5.out HN.out HB.out HA5.out;refine bodyPost_ret (v:=cv x a m ka kn) ?_ rfl (PP _ e2);simp[results,Tryz.results49,go_sem,cv,k8.c0,k8.c1,k8.c2,k8.c3,k8.c4,k8.c5,k8.c6,k8.c7]
theorem rA_ (n:Nat)(ih:ll_ n):ej_ (n+1):=fun N B w l h hN hV hok hl hn=>by
 cases h1:st l 6 lts with
 | true=>exact sF_ n N B w l h hN hok hl h1
 | false=>cases h2:st l 6 bX_ with
  | true=>exact sD_ n N B w l ih h hN hV hok hl hn h1 h2
  | false=>exact co_nm n N B w l h hN h1 h2
open Lx
def rkI (s:List UInt8)(k:Nat):Int:=if ay_ s<k then (ay_ s:Int) else 0
theorem c6_ (s:List UInt8):rkI s 3=0:=by
 unfold rkI;have:=en_ s
 split<;>omega
theorem eD_ (s:List UInt8):rkI s 10=ay_ s:=by
 unfold rkI;have:=en_ s;rw[if_pos (by omega)]
theorem bv_ (s:List UInt8)(k:Nat)(h:3≤k)(h':k≤9):aP_ k=s↔ay_ s=k:=by
 have hk:k=3∨k=4∨k=5∨k=6∨k=7∨k=8∨k=9:=by omega
 constructor
 ·rintro rfl
  rcases hk with rfl|rfl|rfl|rfl|rfl|rfl|rfl<;>decide
 ·intro e
  unfold ay_ at e
  by_cases c1:s=sS_
  ·rw[if_pos c1] at e;subst e;exact c1.symm
  by_cases c2:s=kF_
  ·rw[if_neg c1,if_pos c2] at e;subst e;exact c2.symm
  by_cases c3:s=sU_
  ·rw[if_neg c1,if_neg c2,if_pos c3] at e;subst e;exact c3.symm
  by_cases c4:s=sT_
  ·rw[if_neg c1,if_neg c2,if_neg c3,if_pos c4] at e;subst e;exact c4.symm
  by_cases c5:s=sV_
  ·rw[if_neg c1,if_neg c2,if_neg c3,if_neg c4,if_pos c5] at e;subst e;exact c5.symm
  by_cases c6:s=wNth
  ·rw[if_neg c1,if_neg c2,if_neg c3,if_neg c4,if_neg c5,if_pos c6] at e;subst e;exact c6.symm
  by_cases c7:s=qJ_
  ·rw[if_neg c1,if_neg c2,if_neg c3,if_neg c4,if_neg c5,if_neg c6,if_pos c7] at e;subst e;exact c7.symm
  rw[if_neg c1,if_neg c2,if_neg c3,if_neg c4,if_neg c5,if_neg c6,if_neg c7] at e;omega
theorem eC_ {s:List UInt8}{k:Nat}(h:ay_ s=k):rkI s k=0∧rkI s (k+1)=k:=by
 unfold rkI;rw[if_neg (by omega),if_pos (by omega),h];exact⟨rfl,rfl⟩
theorem dT_ {s:List UInt8}{k:Nat}(h:ay_ s≠k):rkI s (k+1)=rkI s k:=by
 unfold rkI
 by_cases hc:ay_ s<k
 ·rw[if_pos hc,if_pos (by omega)]
 ·rw[if_neg hc,if_neg (by omega)]
theorem RuM.new {N B:Nat}{w:World}{l:List Tok}{bad:Bool}(h:Rc N B w l bad):RuM N B w ((w.alloc (.cells #[.int .i64 0,.string ⟨#[]⟩,.int .i64 0,.int .i64 0,.string ⟨#[]⟩,.int .i64 0,.slice none 0 0,.slice none 0 0] 33)).alloc (.cells #[.int .i64 0,.string ⟨#[]⟩,.int .i64 0,.int .i64 0,.string ⟨#[]⟩,.int .i64 0,.slice none 0 0,.slice none 0 0] 33)) l bad 0 ⟨#[]⟩ 0 (.slice none 0 0) [] []:=by
 have h1:=ao_ w (.cells #[.int .i64 0,.string ⟨#[]⟩,.int .i64 0,.int .i64 0,.string ⟨#[]⟩,.int .i64 0,.slice none 0 0,.slice none 0 0] 33);have h2:=h1.alloc h1.size (.cells #[.int .i64 0,.string ⟨#[]⟩,.int .i64 0,.int .i64 0,.string ⟨#[]⟩,.int .i64 0,.slice none 0 0,.slice none 0 0] 33);refine⟨af_ h2,by simp,?_,?_,.nil _ _,h.low h2,h.lt⟩
 ·exact (B8.new w _ _ _ _ _ _ _ _).low (ao_ _ _)
 ·have:=B8.new (w.alloc (.cells #[.int .i64 0,.string ⟨#[]⟩,.int .i64 0,.int .i64 0,.string ⟨#[]⟩,.int .i64 0,.slice none 0 0,.slice none 0 0] 33)) (.int .i64 0) (.string ⟨#[]⟩) (.int .i64 0) (.int .i64 0) (.string ⟨#[]⟩) (.int .i64 0) (.slice none 0 0) (.slice none 0 0)
  simpa using this
structure fs_ (n m:Nat)(X:Option (List Co × List Tok))(i:Nat)(acc:List Co)(l:List Tok)(b:Bool):Prop where
 len:acc.length+(m - i)≤4000
 h:b=false∧X=bg_ (n - i) (m - i) acc l∧(∀ t∈l,be_ t)∧l.length≤4000∧4*l.length+3≤n - i∨b=true∧X=none
theorem fs_.step {n m:Nat}{X:Option (List Co × List Tok)}{i:Nat}{acc:List Co}{l:List Tok}(h:fs_ n m X i acc l false)(hi:i<m){x:Co}{l4:List Tok}{b4:Bool}(e4:match coF (n - i - 1) l with|some (c',r)=>x=c'∧l4=r∧b4=false|none=>b4=true):fs_ n m X (i+1) (acc++[x]) l4 b4:=by
 rcases h.h with ⟨_,h1,h2,h3,h4⟩|⟨h1,_⟩
 ·obtain⟨n',hn'⟩:∃ n',n - i=n'+1:=⟨n - i - 1,by omega⟩
  obtain⟨m',hm'⟩:∃ m',m - i=m'+1:=⟨m - i - 1,by omega⟩;have hl:=h.len;rw[hn',hm',bg_] at h1;have e5:n - i - 1=n':=by omega
  rw[e5] at e4;refine⟨by simp;omega,?_⟩;cases hT:coF n' l with
  | none=>rw[hT] at h1 e4;exact .inr ⟨e4,h1⟩
  | some p =>
   obtain⟨c',r⟩:=p;rw[hT] at h1 e4;obtain⟨rfl,rfl,rfl⟩:=e4;have hr:=((mi_ 1 (aw_ _) n').1 l x l4 h2 h3 hT).2.2.2;refine .inl ⟨rfl,?_,hr.2,by omega,by omega⟩;rw[show n - (i+1)=n' by omega,show m - (i+1)=m' by omega];exact h1
 ·cases h1
theorem fs_.end_ {n m:Nat}{X:Option (List Co × List Tok)}{i:Nat}{acc:List Co}{l:List Tok}{b:Bool}(h:fs_ n m X i acc l b)(hi:b=false→m≤i):acc.length≤4000∧(match (generalizing:=false) X with|some (ks,r)=>acc=ks∧l=r∧b=false∧(∀ t∈l,be_ t)∧l.length≤4000|none=>b=true):=by
 have hl:=h.len;refine⟨by omega,?_⟩
 rcases h.h with ⟨hb,h1,h2,h3,h4⟩|⟨h1,h2⟩
 ·have:=hi hb
  obtain⟨n',hn'⟩:∃ n',n - i=n'+1:=⟨n - i - 1,by omega⟩;rw[hn',show m - i=0 by omega,bg_] at h1;rw[h1];exact⟨rfl,rfl,hb,h2,h3⟩
 ·rw[h2];exact h1
theorem RuM.beside {N B:Nat}{w wr w4:World}{l:List Tok}{bad:Bool}{k:Int}{s:ByteArray}{n:Int}{v:Value}{acc:List Co}{ps:List (Value × Value)}(h:RuM N B w wr l bad k s n v acc ps){b:Nat}(hb:In wr.heap.size w4.heap.size b):w.heap.size+2≤b∧b<w4.heap.size∧v.ownBlock≠some b:=by
 have h1:=h.sz;exact⟨by have:=hb.1;omega,hb.2,fun e=>by have h2:=(h.row.own.lt b e).2;have:=hb.1;omega⟩
theorem gh_ {N B:Nat}{w':World}{x:Co}{res:Option (Co × List Tok)}(h:match res with|some (c',r)=>x=c'∧Rc N B w' r false|none=>∃ l',Rc N B w' l' true):∃ l4 b4,Rc N B w' l4 b4∧match (generalizing:=false) res with|some (c',r)=>x=c'∧l4=r∧b4=false|none=>b4=true:=by
 cases res with
 | none=>obtain⟨l',h⟩:=h;exact⟨l',true,h,rfl⟩
 | some p=>obtain⟨c',r⟩:=p;obtain⟨e,h⟩:=h;exact⟨r,false,h,e,rfl,rfl⟩
theorem eq_ {n m:Nat}(ih:∀ k,k≤n→ej_ k){N B:Nat}{w wr:World}{l:List Tok}{k:Int}{s:ByteArray}{nn:Int}{v:Value}{acc:List Co}{ps:List (Value × Value)}{X:Option (List Co × List Tok)}{i:Nat}(h:RuM N B w wr l false k s nn v acc ps)(hN:N≤w.heap.size)(hV:VsN N w)(hK:fs_ n m X i acc l false):Calls Tryz.prog 49 #[.pointer (some ⟨B,0,none⟩)] wr.drew (cX_ N B wr.drew (coF (n - i - 1) l)):=by
 have hd:Below wr.heap.size wr wr.drew:=(Below.refl _ _).drew;have hBN:N≤B:=by obtain⟨_,_,_,_,_,_,h⟩:=h.rc;exact h
 have hg:=h.g.size
 rcases hK.h with ⟨_,h1,h2,h3,h4⟩|⟨h1,_⟩
 ·exact ih _ (by omega) N B wr.drew l (h.rc.low hd) (by show N≤wr.heap.size;omega) (hV.below (((Below.refl N w).grown h.g hN fun k e=>by injection e with e;omega).trans (hd.mono (by omega)))) h2 h3 (by omega)
 ·cases h1
theorem RuM.end_ {N B:Nat}{w wr:World}{l:List Tok}{bad:Bool}{k:Int}{s:ByteArray}{n:Int}{av:OA_}{cv':Nat}{acc:List Co}{ps:List (Value × Value)}(h:RuM N B w wr l bad k s n (.slice av acc.length cv') acc ps)(hN:N≤w.heap.size)(hl:acc.length≤4000) :
  B8 (st80 wr w.heap.size (.int .i64 k) (.string s) (.int .i64 n) (.int .i64 0) (.string ⟨#[]⟩) (.int .i64 0) (.slice none 0 0) (.slice av acc.length cv')) w.heap.size (.int .i64 k) (.string s) (.int .i64 n) (.int .i64 0) (.string ⟨#[]⟩) (.int .i64 0) (.slice none 0 0) (.slice av acc.length cv') ∧
  ∀ res:Option (Co × List Tok),(match res with|some (c',r)=>Co.mk k s n tz acc=c'∧l=r∧bad=false|none=>bad=true) →
   cX_ N B w res (.returned (.agg #[.int .i64 k,.string s,.int .i64 n,.int .i64 0,.string ⟨#[]⟩,.int .i64 0,.slice none 0 0,.slice av acc.length cv'])) (st80 wr w.heap.size (.int .i64 k) (.string s) (.int .i64 n) (.int .i64 0) (.string ⟨#[]⟩) (.int .i64 0) (.slice none 0 0) (.slice av acc.length cv')):=by
 obtain⟨h1,h2⟩:=jC_ (x:=.mk k s n tz acc) (a:=none) (n:=0) (ka:=av) (kn:=cv') h.g h.r h.rc hN h.lt ⟨.nil _ _,(h.row.args hl).mono fun b hb=>⟨by have:=hb.1;omega,hb.2⟩⟩;exact⟨h1,h2⟩
open Lx
def cM (l:List Tok)(b:Bool):Nat:=if b then 0 else l.length+1
def CGo (n m:Nat)(X:Option (List Co × List Tok))(acc:List Co)(l:List Tok):Prop:=X=fJ_ m acc l∧(∀ t∈l,be_ t)∧acc.length+l.length<4000∧4*l.length+3≤m∧m≤n
structure jR_ (n:Nat)(X:Option (List Co × List Tok))(acc:List Co)(l:List Tok)(b:Bool):Prop where
 len:acc.length≤4000
 h:(b=false∧∃ m,CGo n m X acc l)∨b=true∧X=none
theorem jR_.go {n:Nat}{X:Option (List Co × List Tok)}{acc:List Co}{l:List Tok}(h:jR_ n X acc l false):∃ m,CGo n m X acc l:=by
 rcases h.h with ⟨_,h⟩|⟨h,_⟩
 ·exact h
 ·cases h
theorem jR_.len2 {n:Nat}{X:Option (List Co × List Tok)}{acc:List Co}{l:List Tok}(h:jR_ n X acc l false)(h0:l≠[]):acc.length+1≤4000:=by
 obtain⟨m,_,_,h3,_⟩:=h.go;have:=List.length_pos_iff.2 h0;omega
theorem jR_.exit {n:Nat}{X:Option (List Co × List Tok)}{acc:List Co}{l:List Tok}{b:Bool}(h:jR_ n X acc l b)(hn:3≤n)(he:b=true∨l=[]∨st l 6 bB_=true):fs_ n 0 X 0 acc l b:=by
 refine⟨by have:=h.len;omega,?_⟩
 rcases h.h with ⟨hb,m,h1,h2,h3,h4,h5⟩|h
 ·refine .inl ⟨hb,?_,h2,by omega,by omega⟩
  obtain⟨m',rfl⟩:∃ m',m=m'+1:=⟨m - 1,by omega⟩;obtain⟨n',rfl⟩:∃ n',n=n'+1:=⟨n - 1,by omega⟩;have e:fJ_ (m'+1) acc l=some (acc,l):=by
   rw[fJ_,if_pos]
   rcases he with he|he|he
   ·rw[hb] at he;cases he
   ·rw[he];rfl
   ·rw[he];simp
  rw[h1,e];show _=bg_ (n'+1) 0 acc l;rw[bg_]
 ·exact .inr h
theorem jR_.step {n m:Nat}{X:Option (List Co × List Tok)}{acc:List Co}{l:List Tok}(h:jR_ n X acc l false)(hm:CGo n m X acc l)(h0:l≠[])(hs:st l 6 bB_=false){x:Co}{l4:List Tok}{b4:Bool}(e4:match coF (m - 1) l with|some (c',r)=>x=c'∧l4=r∧b4=false|none=>b4=true) :
  jR_ n X (acc++[x]) l4 b4∧cM l4 b4<cM l false:=by
 have hl2:=h.len2 h0;obtain⟨h1,h2,h3,h4,h5⟩:=hm;obtain⟨m',rfl⟩:∃ m',m=m'+1:=⟨m - 1,by omega⟩;have e0:l.isEmpty=false:=by cases l<;>simp at h0 ⊢
 rw[fJ_,e0,hs] at h1;replace h1:X=match coF m' l with
  | none=>none
  | some (x,r)=>fJ_ m' (acc++[x]) r:=h1
 rw[Nat.add_sub_cancel] at e4;cases hT:coF m' l with
 | none =>
  rw[hT] at h1 e4;replace e4:b4=true:=e4;subst e4;exact⟨⟨by simp;omega,.inr ⟨rfl,h1⟩⟩,by unfold cM;simp⟩
 | some p =>
  obtain⟨c',r⟩:=p;rw[hT] at h1 e4;obtain⟨rfl,rfl,rfl⟩:=e4;have hr:=((mi_ 1 (aw_ _) m').1 l x l4 h2 (by omega) hT).2.2.2;exact⟨⟨by simp;omega,.inl ⟨rfl,m',h1,hr.2,by simp;omega,by omega,by omega⟩⟩,by unfold cM;simp;omega⟩
theorem rn_ {n m:Nat}(ih:∀ k,k≤n→ej_ k){N B:Nat}{w wr:World}{l:List Tok}{k:Int}{s:ByteArray}{nn:Int}{v:Value}{acc:List Co}{ps:List (Value × Value)}{X:Option (List Co × List Tok)}(h:RuM N B w wr l false k s nn v acc ps)(hN:N≤w.heap.size)(hV:VsN N w)(hK:CGo n m X acc l):Calls Tryz.prog 49 #[.pointer (some ⟨B,0,none⟩)] wr.drew (cX_ N B wr.drew (coF (m - 1) l)):=by
 have hd:Below wr.heap.size wr wr.drew:=(Below.refl _ _).drew;have hBN:N≤B:=by obtain⟨_,_,_,_,_,_,h⟩:=h.rc;exact h
 have hg:=h.g.size;obtain⟨h1,h2,h3,h4,h5⟩:=hK;exact ih _ (by omega) N B wr.drew l (h.rc.low hd) (by show N≤wr.heap.size;omega) (hV.below (((Below.refl N w).grown h.g hN fun k e=>by injection e with e;omega).trans (hd.mono (by omega)))) h2 (by omega) (by omega)
open Lx
theorem r1_ {N B:Nat}{w':World}{x:Ty}{res:Option (Ty × List Tok)}(h:match res with|some (c',r)=>x=c'∧Rc N B w' r false|none=>∃ l',Rc N B w' l' true):∃ l4 b4,Rc N B w' l4 b4∧match (generalizing:=false) res with|some (c',r)=>x=c'∧l4=r∧b4=false|none=>b4=true:=by
 cases res with
 | none=>obtain⟨l',h⟩:=h;exact⟨l',true,h,rfl⟩
 | some p=>obtain⟨c',r⟩:=p;obtain⟨e,h⟩:=h;exact⟨r,false,h,e,rfl,rfl⟩
theorem RuM.typed {N B:Nat}{w w5:World}{l:List Tok}{bad:Bool}{k:Int}{s:ByteArray}{nn:Int}{av:OA_}{cw:Nat}{acc:List Co}{ps:List (Value × Value)}{t:Ty}{ta:OA_}{tc:Nat}(h:RuM N B w w5 l bad k s nn (.slice av acc.length cw) acc ps)(hN:N≤w.heap.size)(hl:acc.length≤4000)(hA:ac_ (fun b=>w.heap.size+2≤b∧b<w5.heap.size) w5 (.slice ta t.args.length tc) t.args) :
  B8 (st80 ((((w5.setCell ⟨w.heap.size+1,3,none⟩ (.int .i64 t.kind)).setCell ⟨w.heap.size+1,4,none⟩ (.string t.name)).setCell ⟨w.heap.size+1,5,none⟩ (.int .i64 t.n)).setCell ⟨w.heap.size+1,6,none⟩ (.slice ta t.args.length tc)) w.heap.size (.int .i64 k) (.string s) (.int .i64 nn) (.int .i64 t.kind) (.string t.name) (.int .i64 t.n) (.slice ta t.args.length tc) (.slice av acc.length cw)) w.heap.size (.int .i64 k) (.string s) (.int .i64 nn) (.int .i64 t.kind) (.string t.name) (.int .i64 t.n) (.slice ta t.args.length tc) (.slice av acc.length cw) ∧
  ∀ res:Option (Co × List Tok),(match res with|some (c',r)=>Co.mk k s nn t acc=c'∧l=r∧bad=false|none=>bad=true) →
   cX_ N B w res (.returned (.agg #[.int .i64 k,.string s,.int .i64 nn,.int .i64 t.kind,.string t.name,.int .i64 t.n,.slice ta t.args.length tc,.slice av acc.length cw])) (st80 ((((w5.setCell ⟨w.heap.size+1,3,none⟩ (.int .i64 t.kind)).setCell ⟨w.heap.size+1,4,none⟩ (.string t.name)).setCell ⟨w.heap.size+1,5,none⟩ (.int .i64 t.n)).setCell ⟨w.heap.size+1,6,none⟩ (.slice ta t.args.length tc)) w.heap.size (.int .i64 k) (.string s) (.int .i64 nn) (.int .i64 t.kind) (.string t.name) (.int .i64 t.n) (.slice ta t.args.length tc) (.slice av acc.length cw)):=by
 have hB:=h.lt;have hb:Below w5.heap.size w5 w5:=Below.refl _ _;have off:∀ b,b≠w.heap.size+1→((((w5.setCell ⟨w.heap.size+1,3,none⟩ (.int .i64 t.kind)).setCell ⟨w.heap.size+1,4,none⟩ (.string t.name)).setCell ⟨w.heap.size+1,5,none⟩ (.int .i64 t.n)).setCell ⟨w.heap.size+1,6,none⟩ (.slice ta t.args.length tc)).heap[b]? = w5.heap[b]? := fun b hb=>by
  rw[aM_ _ _ _ _ hb,aM_ _ _ _ _ hb,aM_ _ _ _ _ hb,aM_ _ _ _ _ hb]
 have hz:((((w5.setCell ⟨w.heap.size+1,3,none⟩ (.int .i64 t.kind)).setCell ⟨w.heap.size+1,4,none⟩ (.string t.name)).setCell ⟨w.heap.size+1,5,none⟩ (.int .i64 t.n)).setCell ⟨w.heap.size+1,6,none⟩ (.slice ta t.args.length tc)).heap.size=w5.heap.size:=by simp
 have h1:=(((Below.refl (w.heap.size+1) w5).setCell (p:=⟨w.heap.size+1,3,none⟩) (aw_ _) (.int .i64 t.kind)).setCell (p:=⟨w.heap.size+1,4,none⟩) (aw_ _) (.string t.name)).setCell (p:=⟨w.heap.size+1,5,none⟩) (aw_ _) (.int .i64 t.n) |>.setCell (p:=⟨w.heap.size+1,6,none⟩) (aw_ _) (.slice ta t.args.length tc);have hr:=(((h.rc.set (p:=⟨w.heap.size+1,3,none⟩) (by show B≠w.heap.size+1;omega) (by show N≤w.heap.size+1;omega) (.int .i64 t.kind)).set (p:=⟨w.heap.size+1,4,none⟩) (by show B≠w.heap.size+1;omega) (by show N≤w.heap.size+1;omega) (.string t.name)).set (p:=⟨w.heap.size+1,5,none⟩) (by show B≠w.heap.size+1;omega) (by show N≤w.heap.size+1;omega) (.int .i64 t.n)).set (p:=⟨w.heap.size+1,6,none⟩) (by show B≠w.heap.size+1;omega) (by show N≤w.heap.size+1;omega) (.slice ta t.args.length tc);have hk:=(off w.heap.size (by omega)).trans h.r;have hg:w.grownBy ((((w5.setCell ⟨w.heap.size+1,3,none⟩ (.int .i64 t.kind)).setCell ⟨w.heap.size+1,4,none⟩ (.string t.name)).setCell ⟨w.heap.size+1,5,none⟩ (.int .i64 t.n)).setCell ⟨w.heap.size+1,6,none⟩ (.slice ta t.args.length tc)) (some B):=⟨h1.os.trans h.g.os,h1.tape.trans h.g.tape,h1.output.trans h.g.output,bm_ h.g.size h1.size,fun b hb hne=>(off b (by omega)).trans (h.g.block b hb hne)⟩;generalize (((w5.setCell ⟨w.heap.size+1,3,none⟩ (.int .i64 t.kind)).setCell ⟨w.heap.size+1,4,none⟩ (.string t.name)).setCell ⟨w.heap.size+1,5,none⟩ (.int .i64 t.n)).setCell ⟨w.heap.size+1,6,none⟩ (.slice ta t.args.length tc)=W6 at *;obtain⟨e1,e2⟩:=jC_ (x:=.mk k s nn t acc) (a:=ta) (n:=tc) (ka:=av) (kn:=cw) hg hk hr hN h.lt ⟨(hA.keep fun b hb=>off b (by omega)).mono fun b hb=>⟨by omega,by omega⟩,((h.row.args hl).keep fun b hb=>off b (by have:=hb.1;omega)).mono fun b hb=>⟨by have:=hb.1;omega,by have:=hb.2;omega⟩⟩;exact⟨e1,e2⟩
end
end Go.Proofs.YtkihnodkhnahiaaGreatDoor.Tp

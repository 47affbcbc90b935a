/- Packed. -/
import Derived.Test.YtjecnionbjlncaaGreatDoorP38
import Derived.SliceStrings
import Derived.ProofKit
import Derived.OpenShut
import Derived.ChangeOld
import Derived.Deep.Slices
import Derived.Lib.SmallJoins
set_option maxRecDepth 100000
set_option maxHeartbeats 6400000
namespace Go.Proofs.YtjecnionbjlncaaGreatDoor.Tp
section
open Lx
theorem ko_ {l:List UInt8}{er:Nat}(h:a8_ l=.error er):er≠0:=by
 rw[a8_] at h
 split at h
 ·next hn=>injection h with h;rw[← h];exact hn
 ·split at h
  ·injection h with h;omega
  ·split at h
   ·injection h with h;omega
   ·split at h
    ·injection h with h;omega
    ·cases h
end
section
open Go.RowKit
structure Ln where
 l:ByteArray
 r:ByteArray
def lJ_ (w:World)(v:Value)(ls:List Ln):Prop :=
 ∃ a c,v=.slice a ls.length c∧ls.length≤c∧ls.length≤9223372036854775807∧(∀ x∈ls,x.l.size≤maxLen∧x.r.size≤maxLen) ∧
  (ls=[]∨∃ b off,a=some ⟨b,off,none⟩∧b<w.heap.size∧∀ j (h:j<ls.length),w.cell? ⟨b,off+j*2,none⟩=some (.string ls[j].l)∧w.cell? ⟨b,off+j*2+1,none⟩=some (.string ls[j].r))
theorem lJ_.low {w w':World}{v:Value}{ls:List Ln}(h:lJ_ w v ls)(hb:Below w.heap.size w w'):lJ_ w' v ls:=by
 obtain⟨a,c,e,h1,h2,h3,h4⟩:=h;refine⟨a,c,e,h1,h2,h3,h4.imp id ?_⟩;rintro ⟨b,off,e,hb',hc⟩;have k:∀ o,w'.cell? ⟨b,o,none⟩=w.cell? ⟨b,o,none⟩:=fun o=>World.cell?_of_block (hb.block b hb');exact⟨b,off,e,ba_ hb' hb.size,fun j hj=>by rw[k,k];exact hc j hj⟩
def qOf (x:Ln):Option EqT:=match a8_ x.l.data.toList,a8_ x.r.data.toList with
 | .ok t,.ok u=>if x.l.size≤120∧x.r.size≤120 then some (t,u) else none
 | _,_=>none
def eE_:List Ln→Option (List EqT)
 | []=>some []
 | x :: xs=>match qOf x with
  | none=>none
  | some g=>match eE_ xs with
   | none=>none
   | some gs=>some (g :: gs)
def nsE (es:List EqT):Nat:=(es.map fun e=>nsT e.1+nsT e.2).sum
theorem oK_ (es:List EqT)(e:EqT):nsE (es++[e])=nsE es+(nsT e.1+nsT e.2):=by unfold nsE;rw[List.map_append,List.sum_append];simp
def c9_ (ls:List Ln):Option (List EqT):=if 8<ls.length then none else match eE_ ls with
 | none=>none
 | some es=>if 24<nsE es then none else some es
theorem ik_:∀ (xs ys:List Ln),eE_ (xs++ys)=match eE_ xs,eE_ ys with|some a,some b=>some (a++b) | _,_=>none
 | [],ys=>by
  show eE_ ys=match some [],eE_ ys with|some a,some b=>some (a++b) | _,_=>none
  cases eE_ ys<;>rfl
 | x :: xs,ys=>by
  rw[List.cons_append,eE_,eE_,ik_ xs ys];cases qOf x<;>cases eE_ xs<;>cases eE_ ys<;>rfl
theorem nB_ (xs:List Ln)(x:Ln){es:List EqT}(h:eE_ xs=some es):eE_ (xs++[x])=match qOf x with|none=>none|some e=>some (es++[e]):=by
 rw[ik_,h];show (match some es,(match qOf x with|none=>none|some g=>match eE_ [] with|none=>none|some gs=>some (g :: gs)) with|some a,some b=>some (a++b) | _,_=>none)=_;cases qOf x<;>rfl
theorem jf_:∀ (xs:List Ln) (x:Ln),x∈xs→qOf x=none→eE_ xs=none
 | [],x,h,_=>by cases h
 | y :: xs,x,h,hn=>by
  rw[eE_]
  rcases List.mem_cons.1 h with rfl|h
  ·rw[hn]
  ·rw[jf_ xs x h hn];cases qOf y<;>rfl
theorem ij_:∀ {xs:List Ln} {gs:List EqT},eE_ xs=some gs→gs.length=xs.length
 | [],gs,h=>by injection h with h;subst h;rfl
 | y :: xs,gs,h=>by
  rw[eE_] at h;cases hy:qOf y with
  | none=>rw[hy] at h;cases h
  | some g =>
   rw[hy] at h;cases hx:eE_ xs with
   | none=>rw[hx] at h;cases h
   | some g2 =>
    rw[hx] at h;injection h with h
    subst h;simp[ij_ hx]
theorem lb_ {ls:List Ln}{i:Nat}{es:List EqT}(h:eE_ (ls.take i)=some es)(hn:24<nsE es):c9_ ls=none:=by
 unfold c9_
 split
 ·rfl
 ·have:=ik_ (ls.take i) (ls.drop i)
  rw[List.take_append_drop,h] at this;rw[this];cases eE_ (ls.drop i) with
  | none=>rfl
  | some fs =>
   show (if 24<nsE (es++fs) then none else some (es++fs))=none;rw[if_pos];unfold nsE at *;rw[List.map_append,List.sum_append];omega
structure eZ_ (S:Nat→Prop)(lo:Nat)(w:World)(v:Value)(es:List EqT)(ps:List (Value × Value)):Prop where
 own:w.ownsRow lo 64 8 v es.length (a5_ es ps)
 len:ps.length=es.length
 at_:∀ (j:Nat) (e:EqT) (p:Value × Value),es[j]? = some e→ps[j]? = some p→∃ a c a' c',p.1=.slice a e.1.args.length c∧p.2=.slice a' e.2.args.length c'∧aa_ S w p.1 e.1.args∧aa_ S w p.2 e.2.args
theorem eZ_.nil (S:Nat→Prop)(lo:Nat)(w:World):eZ_ S lo w (.slice none 0 0) [] []:=⟨World.ownsRow_nil _ _ _ _,rfl,by simp⟩
theorem eZ_.keep {S:Nat→Prop}{lo:Nat}{w w':World}{v:Value}{es:List EqT}{ps:List (Value × Value)}(h:eZ_ S lo w v es ps)(hv:∀ b,v.ownBlock=some b→w'.heap[b]? = w.heap[b]?)(hS:∀ b,S b→w'.heap[b]? = w.heap[b]?):eZ_ S lo w' v es ps :=
 ⟨aF_ h.own hv,h.len,fun j t sv h1 h2=>by
  obtain⟨a,c,a',c',e1,e2,h3,h4⟩:=h.at_ j t sv h1 h2;exact⟨a,c,a',c',e1,e2,h3.keep hS,h4.keep hS⟩⟩
theorem eZ_.mono {S S':Nat→Prop}{lo:Nat}{w:World}{v:Value}{es:List EqT}{ps:List (Value × Value)}(h:eZ_ S lo w v es ps)(hS:∀ b,S b→S' b):eZ_ S' lo w v es ps :=
 ⟨h.own,h.len,fun j t sv h1 h2=>by
  obtain⟨a,c,a',c',e1,e2,h3,h4⟩:=h.at_ j t sv h1 h2;exact⟨a,c,a',c',e1,e2,h3.mono hS,h4.mono hS⟩⟩
theorem qU_:(Tryz.prog.info? 64).map (fun i=>(i.zero,i.size,i.bytes))=some (some (.agg #[.int .i64 0,.string ByteArray.empty,.int .i64 0,.slice none 0 0,.int .i64 0,.string ByteArray.empty,.int .i64 0,.slice none 0 0]),8,112):=by kernel_rfl
theorem eZ_.push {S:Nat→Prop}{lo:Nat}{w:World}{v:Value}{es:List EqT}{ps:List (Value × Value)}(h:eZ_ S lo w v es ps)(hlo:lo≤w.heap.size)(hl:es.length≤1000000000000){x:EqT}{a a':OA_}{c c':Nat}
  (hS:∀ b,S b→b<w.heap.size∧v.ownBlock≠some b) (h1:aa_ S w (.slice a x.1.args.length c) x.1.args) (h2:aa_ S w (.slice a' x.2.args.length c') x.2.args) :
  ∃ v' w',(Builtin.append_ #[25,25] 25 #[v,.slice (some ⟨w.heap.size,0,none⟩) 1 1]).run Tryz.prog (w.alloc (.cells #[.int .i64 x.1.kind,.string x.1.name,.int .i64 x.1.n,.slice a x.1.args.length c,.int .i64 x.2.kind,.string x.2.name,.int .i64 x.2.n,.slice a' x.2.args.length c'] 64))=.ok v' w' ∧
   eZ_ S lo w' v' (es++[x]) (ps++[(.slice a x.1.args.length c,.slice a' x.2.args.length c')])∧w.grownBy w' v.ownBlock∧(∀ b,v'.ownBlock=some b→v.ownBlock=some b∨w.heap.size≤b)∧w.heap.size<w'.heap.size:=by
 obtain⟨i0,hi0,hz0,hz1,hz3⟩:=info_parts qU_;have hg0:w.grownBy (w.alloc (.cells #[.int .i64 x.1.kind,.string x.1.name,.int .i64 x.1.n,.slice a x.1.args.length c,.int .i64 x.2.kind,.string x.2.name,.int .i64 x.2.n,.slice a' x.2.args.length c'] 64)) v.ownBlock:=⟨rfl,rfl,rfl,by simp,fun k hk _=>heap_alloc_old w _ hk⟩;obtain⟨g,cap,w',hr,ho,hg,hat,hlt⟩:=run_append_lies (P:=Tryz.prog) (w:=w.alloc (.cells #[.int .i64 x.1.kind,.string x.1.name,.int .i64 x.1.n,.slice a x.1.args.length c,.int .i64 x.2.kind,.string x.2.name,.int .i64 x.2.n,.slice a' x.2.args.length c'] 64)) 25 25 lo 64 i0 _ 8 112 Tryz.underlying25 hi0 hz0 hz1 hz3 rfl (by omega) v es.length (a5_ es ps) (h.own.alloc _) ⟨w.heap.size,0,none⟩ 1 1
  (db_ x (.slice a x.1.args.length c,.slice a' x.2.args.length c')) rfl (World.news_of_block (cs:=#[.int .i64 x.1.kind,.string x.1.name,.int .i64 x.1.n,.slice a x.1.args.length c,.int .i64 x.2.kind,.string x.2.name,.int .i64 x.2.n,.slice a' x.2.args.length c']) (t:=64) (fr:=(0,0)) (heap_alloc_new w _)) (by simp[db_,Value.oneCell']) (by omega) (by unfold maxLen;omega) (by omega) (by simp;omega) (w.heap.size+1) (by simp)
 have hgg:w.grownBy w' v.ownBlock:=⟨hg.os.trans hg0.os,hg.tape.trans hg0.tape,hg.output.trans hg0.output,cj_ hg0.size hg.size,fun k hk hne=>(hg.block k (by simp;omega) hne).trans (hg0.block k hk hne)⟩;have hsz:=hg.size;simp only[World.size_alloc] at hsz;have kS:∀ b,S b→w'.heap[b]? = w.heap[b]? := fun b hb=>hgg.block b (hS b hb).1 (Ne.symm (hS b hb).2);refine⟨_,w',hr,⟨?_,by simp[h.len],fun j t sv h5 h6=>?_⟩,hgg,fun b e=>?_,by omega⟩
 ·rw[dY_ _ _ _ _ h.len,List.length_append];exact ho
 ·rcases Nat.lt_or_ge j es.length with hj|hj
  ·rw[List.getElem?_append_left hj] at h5
   rw[List.getElem?_append_left (by rw[h.len];exact hj)] at h6;obtain⟨b1,b2,b3,b4,e1,e2,h3,h4⟩:=h.at_ j t sv h5 h6;exact⟨b1,b2,b3,b4,e1,e2,h3.keep kS,h4.keep kS⟩
  ·have hj':j=es.length:=by
    have:=(List.getElem?_eq_some_iff.1 h5).1;simp at this;omega
   subst hj';rw[List.getElem?_append_right (aC_ _)] at h5;rw[← h.len,List.getElem?_append_right (aC_ _)] at h6;simp at h5 h6;subst h5 h6;exact⟨a,c,a',c',rfl,rfl,h1.keep kS,h2.keep kS⟩
 ·rcases hat with e3|e3
  ·exact .inl (e3.trans (by simpa [Value.ownBlock] using e))
  ·refine .inr ?_
   have:g=b:=by simpa [Value.ownBlock] using e
   omega
theorem eZ_.eqs {S:Nat→Prop}{lo:Nat}{w:World}{v:Value}{es:List EqT}{ps:List (Value × Value)}(h:eZ_ S lo w v es ps)(hl:es.length≤1000000000000):ep_ (fun b=>v.ownBlock=some b) S w v es:=by
 rcases h.own.2 with ⟨hv,h0⟩|⟨g,cap,cur,hv,hb,hg,h1,h2,h3,h4⟩
 ·exact⟨none,0,by rw[hv,h0],hl,.inl (List.eq_nil_of_length_eq_zero h0)⟩
 ·refine⟨some ⟨g,0,none⟩,cap,hv,hl,.inr ⟨g,0,rfl,by rw[hv];rfl,fun i hi=>?_⟩⟩
  have hip:i<ps.length:=by rw[h.len];exact hi
  obtain⟨a,c,a',c',e1,e2,hA,hA'⟩:=h.at_ i es[i] ps[i] (List.getElem?_eq_getElem hi) (List.getElem?_eq_getElem hip);rw[e1] at hA;rw[e2] at hA';refine⟨a,c,a',c',fun j u hj hu=>?_,hA,hA'⟩;have hc:=h.own.cells (g:=g) (by rw[hv];rfl) (i*8+j) u (by
   rw[ek_ es ps h.len i hi hip j hj,show ps[i]=(ps[i].1,ps[i].2) from rfl,e1,e2];exact hu)
  have hadd:(⟨g,0,none⟩:Addr).add (i*8+j)=⟨g,0+i*8+j,none⟩:=by unfold Addr.add;split<;>simp_all
  rw[hadd] at hc;exact hc
def ji_ (lo:Nat)(w:World)(v1 v2:Value)(b:Nat):Prop:=lo≤b∧b<w.heap.size∧v1.ownBlock≠some b∧v2.ownBlock≠some b
structure jo_ (lo:Nat)(w:World)(v1 v2:Value)(es fs:List EqT)(ps qs:List (Value × Value)):Prop where
 a:cX_ (ji_ lo w v1 v2) lo w v1 es ps
 b:eZ_ (ji_ lo w v1 v2) lo w v2 fs qs
 ne:∀ b,v1.ownBlock=some b→v2.ownBlock≠some b
 le:lo≤w.heap.size
theorem jo_.nil {lo:Nat}{w:World}(h:lo≤w.heap.size):jo_ lo w (.slice none 0 0) (.slice none 0 0) [] [] [] [] :=
 ⟨cX_.nil _ _ _,eZ_.nil _ _ _,(fun _ h=>by cases h),h⟩
section
variable {lo : Nat} {w w' : World} {v1 v2 v' : Value} {es fs : List EqT} {ps qs : List (Value × Value)}
theorem jo_.low (h:jo_ lo w v1 v2 es fs ps qs)(hb:Below w.heap.size w w'):jo_ lo w' v1 v2 es fs ps qs :=
 ⟨(h.a.keep (fun b e=>hb.block b (h.a.own.lt b e).2) fun b hb'=>hb.block b hb'.2.1).mono fun _ h=>⟨h.1,ba_ h.2.1 hb.size,h.2.2⟩,
  (h.b.keep (fun b e=>hb.block b (h.b.own.lt b e).2) fun b hb'=>hb.block b hb'.2.1).mono fun _ h=>⟨h.1,ba_ h.2.1 hb.size,h.2.2⟩,h.ne,cj_ h.le hb.size⟩
def sH_ (lo:Nat)(w:World)(v1 v2:Value)(es fs:List EqT)(ps qs:List (Value × Value))(x:EqT)(p:Value × Value)(v':Value)(w':World):Prop:=jo_ lo w' v' v2 (es++[x]) fs (ps++[p]) qs∧w.grownBy w' v1.ownBlock∧w.heap.size<w'.heap.size∧∀ b,v'.ownBlock=some b→v1.ownBlock=some b∨w.heap.size≤b
def sG_ (lo:Nat)(w:World)(v1 v2:Value)(es fs:List EqT)(ps qs:List (Value × Value))(x:EqT)(p:Value × Value)(v':Value)(w':World):Prop:=jo_ lo w' v1 v' es (fs++[x]) ps (qs++[p])∧w.grownBy w' v2.ownBlock∧w.heap.size<w'.heap.size∧∀ b,v'.ownBlock=some b→v2.ownBlock=some b∨w.heap.size≤b
theorem jo_.push1 (h:jo_ lo w v1 v2 es fs ps qs)(hl:es.length≤1000){x:EqT}{a a':OA_}{c c':Nat}(h1:aa_ (ji_ lo w v1 v2) w (.slice a x.1.args.length c) x.1.args)(h2:aa_ (ji_ lo w v1 v2) w (.slice a' x.2.args.length c') x.2.args) :
  ∃ v' w',(Builtin.append_ #[24,24] 24 #[v1,.slice (some ⟨w.heap.size,0,none⟩) 1 1]).run Tryz.prog (w.alloc (.cells #[.int .i64 x.1.kind,.string x.1.name,.int .i64 x.1.n,.slice a x.1.args.length c,.int .i64 x.2.kind,.string x.2.name,.int .i64 x.2.n,.slice a' x.2.args.length c'] 48))=.ok v' w' ∧
   sH_ lo w v1 v2 es fs ps qs x (.slice a x.1.args.length c,.slice a' x.2.args.length c') v' w':=by
 obtain⟨v',w',hr,hE,hg,ho,hl'⟩:=h.a.push h.le (by omega) (fun b hb=>⟨hb.2.1,hb.2.2.1⟩) h1 h2;have hS:∀ b,ji_ lo w v1 v2 b→ji_ lo w' v' v2 b:=fun b hb=>⟨hb.1,ba_ hb.2.1 hg.size,fun e=>by
  rcases ho b e with e|e
  ·exact hb.2.2.1 e
  ·have:=hb.2.1;omega,hb.2.2.2⟩
 refine⟨v',w',hr,⟨hE.mono hS,(h.b.keep (fun b e=>hg.block b (h.b.own.lt b e).2 fun e'=>h.ne b e'.symm e) fun b hb=>hg.block b hb.2.1 (Ne.symm hb.2.2.1)).mono hS,fun b e e2=>?_,cj_ h.le hg.size⟩,hg,hl',ho⟩
 rcases ho b e with e|e
 ·exact h.ne b e e2
 ·have:=(h.b.own.lt b e2).2;omega
theorem jo_.push2 (h:jo_ lo w v1 v2 es fs ps qs)(hl:fs.length≤1000){x:EqT}{a a':OA_}{c c':Nat}(h1:aa_ (ji_ lo w v1 v2) w (.slice a x.1.args.length c) x.1.args)(h2:aa_ (ji_ lo w v1 v2) w (.slice a' x.2.args.length c') x.2.args) :
  ∃ v' w',(Builtin.append_ #[25,25] 25 #[v2,.slice (some ⟨w.heap.size,0,none⟩) 1 1]).run Tryz.prog (w.alloc (.cells #[.int .i64 x.1.kind,.string x.1.name,.int .i64 x.1.n,.slice a x.1.args.length c,.int .i64 x.2.kind,.string x.2.name,.int .i64 x.2.n,.slice a' x.2.args.length c'] 64))=.ok v' w' ∧
   sG_ lo w v1 v2 es fs ps qs x (.slice a x.1.args.length c,.slice a' x.2.args.length c') v' w':=by
 obtain⟨v',w',hr,hE,hg,ho,hl'⟩:=h.b.push h.le (by omega) (fun b hb=>⟨hb.2.1,hb.2.2.2⟩) h1 h2;have hS:∀ b,ji_ lo w v1 v2 b→ji_ lo w' v1 v' b:=fun b hb=>⟨hb.1,ba_ hb.2.1 hg.size,hb.2.2.1,fun e=>by
  rcases ho b e with e|e
  ·exact hb.2.2.2 e
  ·have:=hb.2.1;omega⟩
 refine⟨v',w',hr,⟨(h.a.keep (fun b e=>hg.block b (h.a.own.lt b e).2 fun e'=>h.ne b e e'.symm) fun b hb=>hg.block b hb.2.1 (Ne.symm hb.2.2.2)).mono hS,hE.mono hS,fun b e e2=>?_,cj_ h.le hg.size⟩,hg,hl',ho⟩
 rcases ho b e2 with e2|e2
 ·exact h.ne b e e2
 ·have:=(h.a.own.lt b e).2;omega
end
end
section
open Go.RowKit Go.ChangeShapes Go.WideShapes Go.Deep Go.Joins
theorem p9_ {H:Type}{enc:TypeId × Value→H}{W:World}{base:Nat}{n:Nat}{v:Value}{y:DataW H × List MemPlace}(h:DataW.trod enc Tryz.prog W base (fun _=>true) true n 9 [v]=some y):∃ s:ByteArray,v=.string s∧s.size≤maxLen:=by
 obtain⟨s,e,_,hs⟩:=DataW.trod_string Tryz.underlying9 h;exact⟨s,by simpa using e,hs⟩
theorem spotL {w:World}{a:Addr}{v:Value}(h:w.cell? a=some v):∃ b off,a=⟨b,off,none⟩:=by
 obtain⟨b,off,sp⟩:=a;cases sp with
 | none=>exact⟨b,off,rfl⟩
 | some x =>
  exfalso
  unfold World.cell? at h
  split at h<;>simp at h
theorem se_ {H:Type}{enc:TypeId × Value→H}{W:World}{base n:Nat}{cs:List Value}{y:DataW H × List MemPlace}(h:DataW.trod enc Tryz.prog W base (fun _=>true) true n 70 cs=some y) :
  ∃ s0 s1:ByteArray,cs=[.string s0,.string s1]∧s0.size≤maxLen∧s1.size≤maxLen:=by
 obtain⟨xs,n',_,_,hlen,_,hf⟩:=DataW.trod_struct Tryz.underlying70 h;have hc:Tryz.prog.cellsOf 70=2:=by kernel_rfl
 have hs:Tryz.prog.cellsOf 9=1:=by kernel_rfl
 rw[hc] at hlen
 match cs,hlen with
 | [a,b],_ =>
  have h0:=hf 0 _ rfl;have h1:=hf 1 _ rfl;replace h0:DataW.trod enc Tryz.prog W base (fun _=>true) true n' 9 ([a,b].take (Tryz.prog.cellsOf 9))=xs[0]? := h0;replace h1:DataW.trod enc Tryz.prog W base (fun _=>true) true n' 9 ([b].take (Tryz.prog.cellsOf 9))=xs[1]? := h1;rw[hs] at h0 h1;have g:∀ (i:Nat) (v:Value),i<xs.length→DataW.trod enc Tryz.prog W base (fun _=>true) true n' 9 [v]=xs[i]?→∃ s:ByteArray,v=.string s∧s.size≤maxLen:=fun i v hi e=>by
   rw[List.getElem?_eq_getElem hi] at e;exact p9_ e
  have hx:xs.length=2:=by assumption
  obtain⟨s0,rfl,z0⟩:=g 0 a (by omega) h0;obtain⟨s1,rfl,z1⟩:=g 1 b (by omega) h1;exact⟨s0,s1,rfl,z0,z1⟩
theorem opnL {H:Type}{enc:TypeId × Value→H}{W:World}{base:Nat}{v:Value}{d:DataW H}{p:List MemPlace}(hok:Value.okWide Tryz.prog W .any base 22 v)
  (h:DataW.Trod enc Tryz.prog W 0 (fun _=>true) true 22 v d p):∃ ls,lJ_ W v ls:=by
 obtain⟨a0,len,cap,rfl⟩:=okWide_slice Tryz.underlying22 hok;obtain⟨fuel,hf⟩:=h
 rcases open_slice Tryz.underlying22 hf with ⟨hcs,_⟩|⟨a,l,c,m,n,D,Pl,hcs,_,hl,hm,hmm,_,hi⟩
 ·simp[Value.cells] at hcs
  obtain⟨rfl,rfl,rfl⟩:=hcs;exact⟨[],none,0,rfl,by simp,by simp,(fun x hx=>by cases hx),.inl rfl⟩
 ·simp[Value.cells] at hcs
  obtain⟨rfl,rfl,rfl⟩:=hcs;simp only[if_true] at hmm;unfold maxLen at hm;have hc:Tryz.prog.cellsOf 70=2:=by kernel_rfl
  rw[hc] at hi;have each:∀ i,i<len→∃ x:Ln,W.cell? (a.add (i*2))=some (.string x.l)∧W.cell? (a.add (i*2+1))=some (.string x.r)∧x.l.size≤maxLen∧x.r.size≤maxLen:=fun i hil=>by
   obtain⟨cs',h1,h2⟩:=hi i (by omega);obtain⟨s0,s1,rfl,z0,z1⟩:=se_ h2;obtain⟨_,_,hat⟩:=World.cells?_some h1;have c0:=hat 0 (by omega);have c1:=hat 1 (by omega);rw[Go.Deep.add_add] at c0 c1;exact⟨⟨s0,s1⟩,by simpa using c0,by simpa using c1,z0,z1⟩
  let f:Nat→Ln:=fun i=>if h:i<len then Classical.choose (each i h) else ⟨⟨#[]⟩,⟨#[]⟩⟩
  have fs:∀ i,i<len→W.cell? (a.add (i*2))=some (.string (f i).l)∧W.cell? (a.add (i*2+1))=some (.string (f i).r)∧(f i).l.size≤maxLen∧(f i).r.size≤maxLen:=fun i h=>by
   show W.cell? _=some (.string (dite _ _ _:Ln).l)∧W.cell? _=some (.string (dite _ _ _:Ln).r)∧(dite _ _ _:Ln).l.size≤maxLen∧(dite _ _ _:Ln).r.size≤maxLen;rw[dif_pos h];exact Classical.choose_spec (each i h)
  have hll:((List.range len).map f).length=len:=by simp
  refine⟨(List.range len).map f,some a,cap,by rw[hll],by omega,by omega,fun x hx=>?_,?_⟩
  ·obtain⟨i,hi',rfl⟩:=List.mem_map.1 hx
   have:=fs i (List.mem_range.1 hi');exact this.2.2
  ·by_cases h0:len=0
   ·left;subst h0;rfl
   ·right
    have h00:=(fs 0 (by omega)).1;obtain⟨b,off,rfl⟩:=spotL (a:=a) (by simpa [Addr.add] using h00);have hadd:∀ j,(⟨b,off,none⟩:Addr).add j=⟨b,off+j,none⟩:=fun j=>by unfold Addr.add;split<;>simp_all
    refine⟨b,off,rfl,World.block_lt_of_cell? W _ (by simpa [Addr.add] using h00),fun j hj=>?_⟩;obtain⟨c0,c1,_⟩:=fs j (by omega);rw[hadd] at c0 c1;simp only[List.getElem_map,List.getElem_range,Nat.add_assoc];exact⟨c0,c1⟩
end
end Go.Proofs.YtjecnionbjlncaaGreatDoor.Tp

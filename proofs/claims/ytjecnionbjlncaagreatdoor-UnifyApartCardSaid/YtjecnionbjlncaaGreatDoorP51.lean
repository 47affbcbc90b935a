/- Packed. -/
import Derived.Test.YtjecnionbjlncaaGreatDoorP50
set_option maxRecDepth 100000
set_option maxHeartbeats 6400000
namespace Go.Proofs.YtjecnionbjlncaaGreatDoor.Tp
section
open Go.RowKit
theorem mN_ {α : Type}{P:Nat→α→Prop} : ∀ n:Nat,(∀ i,i<n→∃ x,P i x)→∃ l:List α,l.length=n∧∀ i x,l[i]? = some x→P i x:=by
 intro n
 induction n with
 | zero=>intro _;exact⟨[],rfl,fun i x h=>by simp at h⟩
 | succ n ih =>
  intro h;obtain⟨l,hl,hp⟩:=ih fun i hi=>h i (by omega);obtain⟨x,hx⟩:=h n (by omega);refine⟨l++[x],by rw[List.length_append,hl];rfl,fun i y hy=>?_⟩
  rcases Nat.lt_or_ge i l.length with hi|hi
  ·rw[List.getElem?_append_left hi] at hy;exact hp i y hy
  ·rw[List.getElem?_append_right hi] at hy
   have e:i - l.length=0:=by
    rcases Nat.eq_zero_or_pos (i - l.length) with e|e
    ·exact e
    ·rw[List.getElem?_eq_none (by simp;omega)] at hy;cases hy
   rw[e] at hy;injection hy with hy
   subst hy;rw[show i=n from by omega];exact hx
theorem Rw.rows {W:World}{g off:Nat}{es:List EqT}(h:Rw g off W es):∃ rs:List (Value × Value),rs.length=es.length∧∀ (j:Nat) (e:EqT) (p:Value × Value),es[j]? = some e→rs[j]? = some p→∃ a c a' c',p.1=.slice a e.1.args.length c∧p.2=.slice a' e.2.args.length c'∧C4 W g (off+j*8) e.1 a c∧C4 W g (off+j*8+4) e.2 a' c'∧aa_ (Lt W.heap.size) W p.1 e.1.args∧aa_ (Lt W.heap.size) W p.2 e.2.args:=by
 obtain⟨rs,h1,h2⟩:=mN_ (α := Value × Value) (P:=fun j p=>∀ e:EqT,es[j]? = some e→∃ a c a' c',p.1=.slice a e.1.args.length c∧p.2=.slice a' e.2.args.length c'∧C4 W g (off+j*8) e.1 a c∧C4 W g (off+j*8+4) e.2 a' c'∧aa_ (Lt W.heap.size) W p.1 e.1.args∧aa_ (Lt W.heap.size) W p.2 e.2.args) es.length fun i hi=>by
  obtain⟨xa,xc,ya,yc,h1,h2,h3,h4⟩:=h.at_ i hi;refine⟨(.slice xa es[i].1.args.length xc,.slice ya es[i].2.args.length yc),fun e he=>?_⟩;rw[List.getElem?_eq_getElem hi] at he;injection he with he
  subst he;exact⟨xa,xc,ya,yc,rfl,rfl,h1,h2,h3.mono fun _ h=>h.1,h4.mono fun _ h=>h.1⟩
 exact⟨rs,h1,fun j e p he hp=>h2 j p hp e he⟩
theorem ob_ {es:List EqT}{ps:List (Value × Value)}(hl:ps.length=es.length)(h:∀ (j:Nat) (e:EqT) (p:Value × Value),es[j]? = some e→ps[j]? = some p→∃ a c a' c',p.1=.slice a e.1.args.length c∧p.2=.slice a' e.2.args.length c'):∀ u∈a5_ es ps,u.oneCell'=true:=by
 intro u hu;obtain⟨j,hj,rfl⟩:=List.getElem_of_mem hu;rw[a3_ es ps hl] at hj;have hi:j / 8<es.length:=by omega
 have hip:j / 8<ps.length:=by rw[hl];exact hi
 have hj2:=ek_ es ps hl (j / 8) hi hip (j % 8) (by omega);rw[show j / 8*8+j % 8=j by omega,List.getElem?_eq_getElem (by rw[a3_ es ps hl];exact hj)] at hj2;obtain⟨a,c,a',c',e1,e2⟩:=h (j / 8) es[j / 8] ps[j / 8] (List.getElem?_eq_getElem hi) (List.getElem?_eq_getElem hip);have hm:(a5_ es ps)[j]'(by rw[a3_ es ps hl];exact hj)∈db_ es[j / 8] ps[j / 8]:=List.mem_of_getElem? hj2.symm;unfold db_ at hm;rw[e1,e2] at hm;simp only[List.mem_cons,List.not_mem_nil,or_false] at hm
 rcases hm with e|e|e|e|e|e|e|e<;>rw[e]<;>rfl
theorem la_ {W:World}{g off:Nat}{es:List EqT}{ps:List (Value × Value)}(hl:ps.length=es.length)(h:∀ (j:Nat) (e:EqT) (p:Value × Value),es[j]? = some e→ps[j]? = some p→∃ a c a' c',p.1=.slice a e.1.args.length c∧p.2=.slice a' e.2.args.length c'∧C4 W g (off+j*8) e.1 a c∧C4 W g (off+j*8+4) e.2 a' c'∧aa_ (Lt W.heap.size) W p.1 e.1.args∧aa_ (Lt W.heap.size) W p.2 e.2.args):∀ j u,(a5_ es ps)[j]? = some u→W.cell? ⟨g,off+j,none⟩=some u:=by
 intro j u hu;have hj:=(List.getElem?_eq_some_iff.1 hu).1;rw[a3_ es ps hl] at hj;have hi:j / 8<es.length:=by omega
 have hip:j / 8<ps.length:=by rw[hl];exact hi
 have hj2:=ek_ es ps hl (j / 8) hi hip (j % 8) (by omega);rw[show j / 8*8+j % 8=j by omega,hu] at hj2;obtain⟨a,c,a',c',e1,e2,h1,h2,_⟩:=h (j / 8) es[j / 8] ps[j / 8] (List.getElem?_eq_getElem hi) (List.getElem?_eq_getElem hip);unfold db_ at hj2;rw[e1,e2] at hj2;have hm:j % 8<8:=by omega
 have hoff:off+j=off+j / 8*8+j % 8:=by omega
 rw[hoff];generalize j % 8=r at *
 match r,hm with
 | 0,_=>injection hj2 with hj2;subst hj2;exact h1.1
 | 1,_=>injection hj2 with hj2;subst hj2;exact h1.2.1
 | 2,_=>injection hj2 with hj2;subst hj2;exact h1.2.2.1
 | 3,_=>injection hj2 with hj2;subst hj2;exact h1.2.2.2
 | 4,_=>injection hj2 with hj2;subst hj2;exact h2.1
 | 5,_=>injection hj2 with hj2;subst hj2;exact h2.2.1
 | 6,_=>injection hj2 with hj2;subst hj2;exact h2.2.2.1
 | 7,_=>injection hj2 with hj2;subst hj2;exact h2.2.2.2
theorem cX_.moreR {W w:World}{v:Value}{xs gs:List EqT}{ps:List (Value × Value)}(hb:Below W.heap.size W w)(h:cX_ (Lt W.heap.size) W.heap.size w v xs ps){g off cap:Nat}(hG:Rw g off W gs)(hl:xs.length+gs.length≤4000) :
  ∃ qs v' w',(Builtin.append_ #[24,24] 24 #[v,.slice (some ⟨g,off,none⟩) gs.length cap]).run Tryz.prog w=.ok v' w'∧cX_ (Lt W.heap.size) W.heap.size w' v' (xs++gs) qs∧Below W.heap.size W w':=by
 obtain⟨i0,hi0,hz0,hz1,hz3⟩:=info_parts ne_;obtain⟨rs,hrl,hrs⟩:=hG.rows;have hz:∀ u∈a5_ gs rs,u.oneCell'=true:=ob_ hrl fun j t sv h1 h2=>by
  obtain⟨a,c,a',c',e1,e2,_⟩:=hrs j t sv h1 h2;exact⟨a,c,a',c',e1,e2⟩
 have hcs:∀ j u,(a5_ gs rs)[j]? = some u→W.cell? ⟨g,off+j,none⟩=some u:=la_ hrl hrs;obtain⟨v',w',hr,ho',hgr,_⟩:=run_append_own (P:=Tryz.prog) w W.heap.size 24 24 48 i0 _ 8 112 Tryz.underlying24 hi0 hz0 hz1 hz3 rfl (by decide) v xs.length (a5_ xs ps) h.own ⟨g,off,none⟩ gs.length cap (a5_ gs rs) (a3_ _ _ hrl) (fun j u hu=>by
   have hc:=hcs j u hu;have hadd:(⟨g,off,none⟩:Addr).add j=⟨g,off+j,none⟩:=by unfold Addr.add;split<;>simp_all
   rw[hadd];exact (hb.cell (World.block_lt_of_cell? W _ hc)).trans hc) hz (by unfold maxLen;omega) (by omega) hb.size
 have B':=hb.grown hgr hb.size fun k e=>(h.own.lt k e).1;refine⟨ps++rs,v',w',hr,⟨?_,by rw[List.length_append,List.length_append,h.len,hrl],fun j t sv h5 h6=>?_⟩,B'⟩
 ·have e:a5_ xs ps++a5_ gs rs=a5_ (xs++gs) (ps++rs):=by
   unfold a5_;rw[List.zip_append h.len.symm,List.flatMap_append]
  rw[List.length_append,← e];exact ho'
 ·have old:∀ {y:Value} {ts:List Ty},aa_ (Lt W.heap.size) w y ts→aa_ (Lt W.heap.size) w' y ts:=fun hy=>hy.keep fun k hk=>(B'.block k hk).trans (hb.block k hk).symm
  have new:∀ {y:Value} {ts:List Ty},aa_ (Lt W.heap.size) W y ts→aa_ (Lt W.heap.size) w' y ts:=fun hy=>hy.keep fun k hk=>B'.block k hk
  rcases Nat.lt_or_ge j xs.length with hj|hj
  ·rw[List.getElem?_append_left hj] at h5
   rw[List.getElem?_append_left (by rw[h.len];exact hj)] at h6;obtain⟨b1,b2,b3,b4,e1,e2,h3,h4⟩:=h.at_ j t sv h5 h6;exact⟨b1,b2,b3,b4,e1,e2,old h3,old h4⟩
  ·rw[List.getElem?_append_right hj] at h5
   rw[List.getElem?_append_right (by rw[h.len];exact hj),h.len] at h6;obtain⟨b1,b2,b3,b4,e1,e2,_,_,h3,h4⟩:=hrs _ t sv h5 h6;exact⟨b1,b2,b3,b4,e1,e2,new h3,new h4⟩
theorem nW_ {W:World}{k:Nat}(hk:W.heap.size=k){va:Value}{es fs:List EqT}(H:EAt W va es){g off cap:Nat}(G:Rw g off W fs)(hn:es.length+fs.length≤4000) :
  ∃ v1 w1 v2 w2,(Builtin.append_ #[24,24] 24 #[.slice (some ⟨k,0,none⟩) 0 0,va]).run Tryz.prog (W.alloc (.cells #[] 48))=.ok v1 w1 ∧
   (Builtin.append_ #[24,24] 24 #[v1,.slice (some ⟨g,off,none⟩) fs.length cap]).run Tryz.prog w1=.ok v2 w2∧Below W.heap.size W w2∧EAt w2 v2 (es++fs):=by
 subst hk;have hz:=aw_ W (.cells #[] 48);obtain⟨p1,v1,w1,r1,a1,B1⟩:=cX_.more hz (cX_.none8 (heap_alloc_new W (.cells #[] 48)) (aC_ _)) H (by simp;omega);rw[List.nil_append] at a1;obtain⟨p2,v2,w2,r2,a2,B2⟩:=cX_.moreR B1 a1 (cap:=cap) G hn;exact⟨v1,w1,v2,w2,r1,r2,B2,a2.eat fun b hb=>ba_ hb B2.size⟩
def KAt (w:World)(v:Value)(es:Kn):Prop:=∃ ps,dZ_ (Lt w.heap.size) 0 w v es ps
theorem dZ_.lo00 {S:Nat→Prop}{lo:Nat}{w:World}{v:Value}{es:Kn}{ps:List Value}(h:dZ_ S lo w v es ps):dZ_ S 0 w v es ps:=⟨cx_ h.own (Nat.zero_le _),h.len,h.at_⟩
theorem dZ_.kat {S:Nat→Prop}{lo:Nat}{w:World}{v:Value}{es:Kn}{ps:List Value}(h:dZ_ S lo w v es ps)(hS:∀ b,S b→b<w.heap.size):KAt w v es:=⟨ps,h.lo00.mono hS⟩
theorem KAt.low {w w':World}{v:Value}{es:Kn}(h:KAt w v es)(hb:Below w.heap.size w w'):KAt w' v es:=by
 obtain⟨ps,h⟩:=h;exact⟨ps,(h.keep (fun b e=>hb.block b (h.own.lt b e).2) fun b hb'=>hb.block b hb').mono fun _ hj=>ba_ hj hb.size⟩
theorem KAt.ks {w:World}{v:Value}{es:Kn}(h:KAt w v es):lK_ w v es:=by
 obtain⟨ps,h⟩:=h;exact h.ks fun _ h=>h
theorem dZ_.one5 {S:Nat→Prop}{lo:Nat}{w:World}{v:Value}{es:Kn}{ps:List Value}(h:dZ_ S lo w v es ps):∀ u∈ca_ es ps,u.oneCell'=true:=by
 intro u hu;obtain⟨j,hj,rfl⟩:=List.getElem_of_mem hu;rw[cW_ es ps h.len] at hj;have hi:j / 5<es.length:=by omega
 have hip:j / 5<ps.length:=by rw[h.len];exact hi
 have hj2:=jc_ es ps h.len (j / 5) hi hip (j % 5) (by omega);rw[show j / 5*5+j % 5=j by omega,List.getElem?_eq_getElem (by rw[cW_ es ps h.len];exact hj)] at hj2;obtain⟨a,c,e1,_⟩:=h.at_ (j / 5) es[j / 5] ps[j / 5] (List.getElem?_eq_getElem hi) (List.getElem?_eq_getElem hip);have hm:(ca_ es ps)[j]'(by rw[cW_ es ps h.len];exact hj)∈fo_ es[j / 5] ps[j / 5]:=List.mem_of_getElem? hj2.symm;unfold fo_ at hm;rw[e1] at hm;simp only[List.mem_cons,List.not_mem_nil,or_false] at hm
 rcases hm with e|e|e|e|e<;>rw[e]<;>rfl
theorem dZ_.more5 {W w:World}{v:Value}{xs gs:Kn}{ps:List Value}(hb:Below W.heap.size W w)(h:dZ_ (Lt W.heap.size) W.heap.size w v xs ps){g:Value}(hG:KAt W g gs)(hl:xs.length+gs.length≤4000) :
  ∃ qs v' w',(Builtin.append_ #[28,28] 28 #[v,g]).run Tryz.prog w=.ok v' w'∧dZ_ (Lt W.heap.size) W.heap.size w' v' (xs++gs) qs∧Below W.heap.size W w':=by
 obtain⟨i0,hi0,hz0,hz1,hz3⟩:=info_parts pI_;obtain⟨rs,hG⟩:=hG
 rcases hG.own.2 with ⟨rfl,h0⟩|⟨b,cap,cur,rfl,_,hcur,_⟩
 ·have e0:=List.eq_nil_of_length_eq_zero h0
  subst e0;refine⟨ps,v,w,run_append_owned_none (P:=Tryz.prog) (w:=w) W.heap.size 28 28 39 i0 5 Tryz.underlying28 hi0 v xs.length (ca_ xs ps) h.own,?_,hb⟩;rw[List.append_nil];exact h
 ·obtain⟨v',w',hr,ho',hgr,_⟩:=run_append_own (P:=Tryz.prog) w W.heap.size 28 28 39 i0 _ 5 64 Tryz.underlying28 hi0 hz0 hz1 hz3 rfl (by decide) v xs.length (ca_ xs ps) h.own ⟨b,0,none⟩ gs.length cap (ca_ gs rs) (cW_ _ _ hG.len) (fun j u hu=>by
   have hc:=hG.own.cells (g:=b) rfl j u hu;exact (hb.cell (World.block_lt_of_cell? W _ hc)).trans hc) hG.one5 (by unfold maxLen;omega) (by omega) hb.size
  have B':=hb.grown hgr hb.size fun k e=>(h.own.lt k e).1;refine⟨ps++rs,v',w',hr,⟨?_,by rw[List.length_append,List.length_append,h.len,hG.len],fun j t sv h5 h6=>?_⟩,B'⟩
  ·have e:ca_ xs ps++ca_ gs rs=ca_ (xs++gs) (ps++rs):=by
    unfold ca_;rw[List.zip_append h.len.symm,List.flatMap_append]
   rw[List.length_append,← e];exact ho'
  ·have old:∀ {y:Value} {ts:List Ty},aa_ (Lt W.heap.size) w y ts→aa_ (Lt W.heap.size) w' y ts:=fun hy=>hy.keep fun k hk=>(B'.block k hk).trans (hb.block k hk).symm
   have new:∀ {y:Value} {ts:List Ty},aa_ (Lt W.heap.size) W y ts→aa_ (Lt W.heap.size) w' y ts:=fun hy=>hy.keep fun k hk=>B'.block k hk
   rcases Nat.lt_or_ge j xs.length with hj|hj
   ·rw[List.getElem?_append_left hj] at h5
    rw[List.getElem?_append_left (by rw[h.len];exact hj)] at h6;obtain⟨b1,b2,e1,h3⟩:=h.at_ j t sv h5 h6;exact⟨b1,b2,e1,old h3⟩
   ·rw[List.getElem?_append_right hj] at h5
    rw[List.getElem?_append_right (by rw[h.len];exact hj),h.len] at h6;obtain⟨b1,b2,e1,h3⟩:=hG.at_ _ t sv h5 h6;exact⟨b1,b2,e1,new h3⟩
theorem dZ_.none5 {w:World}{b lo:Nat}{S:Nat→Prop}(h:w.heap[b]? = some (.cells #[] 39 (0,0)))(hb:lo≤b):dZ_ S lo w (.slice (some ⟨b,0,none⟩) 0 0) [] [] :=
 ⟨⟨rfl,.inr ⟨b,0,#[],rfl,hb,h,aC_ _,by unfold maxLen;omega,by simp,by simp;rfl⟩⟩,rfl,by simp⟩
theorem two_ks {W:World}{k:Nat}(hk:W.heap.size=k){va vb:Value}{es fs:Kn}(H:KAt W va es)(G:KAt W vb fs)(hn:es.length+fs.length≤4000) :
  ∃ v1 w1 v2 w2,(Builtin.append_ #[28,28] 28 #[.slice (some ⟨k,0,none⟩) 0 0,va]).run Tryz.prog (W.alloc (.cells #[] 39))=.ok v1 w1 ∧
   (Builtin.append_ #[28,28] 28 #[v1,vb]).run Tryz.prog w1=.ok v2 w2∧Below W.heap.size W w2∧KAt w2 v2 (es++fs):=by
 subst hk;have hz:=aw_ W (.cells #[] 39);obtain⟨p1,v1,w1,r1,a1,B1⟩:=dZ_.more5 hz (dZ_.none5 (heap_alloc_new W (.cells #[] 39)) (aC_ _)) H (by simp;omega);rw[List.nil_append] at a1;obtain⟨p2,v2,w2,r2,a2,B2⟩:=dZ_.more5 B1 a1 G hn;exact⟨v1,w1,v2,w2,r1,r2,B2,a2.kat fun b hb=>ba_ hb B2.size⟩
end
section
open Lx
theorem sd_:∀ {K:Kn},(K.map fun x=>x.1).Nodup→∀ x∈K,lkK K x.1=some x.2
 | [],_,x,h=>by cases h
 | y :: K,hn,x,h=>by
  rw[List.map_cons,List.nodup_cons] at hn;unfold lkK;rw[List.find?_cons]
  rcases List.mem_cons.1 h with rfl|h
  ·rw[beq_self_eq_true];rfl
  ·have hne:(y.1==x.1)=false:=beq_eq_false_iff_ne.2 fun e=>hn.1 (List.mem_map.2 ⟨x,h,e.symm⟩)
   rw[hne];exact sd_ hn.2 x h
theorem DI.ent {L:List Int}{n:Int→Nat}{NL:List ByteArray}{A0:Nat}{W:Wk}(D:DI L n NL A0 W):∀ e∈W.K,e.1∈L∧∀ m,Tp.oc m e.2≠0→m∈L:=by
 intro e he;have hl:=sd_ D.ko.nodup e he;have h1:e.1∈L:=D.kl e.1 (by rw[hl];simp);refine⟨h1,fun m hm=>?_⟩
 by_cases hk:lkK W.K m=none
 ·refine D.km e.1 h1 m ?_
  rw[(D.ko.facts.bnd e.1 e.2 hl).1];exact py_ e.2 hm (by rw[D.ko.facts.unb m hk,hW_,if_pos rfl];decide)
 ·exact D.kl m hk
theorem hG_ {NL NL':List ByteArray}(h:∀ s∈NL,s∈NL'){fr fr':Nat}(hf:fr≤fr'){t:Ty}(k:Al (VOk NL fr) t):Al (VOk NL' fr') t :=
 k.imp fun _ k=>⟨fun h1=>(k.1 h1).imp (h _) fun ⟨j,hj,e⟩=>⟨j,by omega,e⟩,k.2⟩
theorem oL_ {a b:List ByteArray}(h:lI_ a)(k:lI_ b):lI_ (a++b):=fun s hs=>(List.mem_append.1 hs).elim (h s) (k s)
theorem i8_ {es:List EqT}(E:Es es):NI ⟨[],es,0⟩:=⟨fun e he=>⟨⟨(E.ok e he).l.1.1,eU_ _ (E.ok e he).l.1⟩,(E.ok e he).r.1.1,eU_ _ (E.ok e he).r.1⟩,fun x u h=>by cases h⟩
theorem pN_ {es:List EqT}(E:Es es):∃ j res,j≤100000000000∧de_ 100 j ⟨[],es,0⟩=some res∧(∃ i,i≤100000000000∧fT_ 100 i es=some (iz_ res))∧(∀ er,res=.error er→40≤er)∧∀ K,res=.ok K→Kd es K:=by
 have hQ:∀ e∈(dW ⟨[],es,0⟩).left,Qs (LE es) (nE es) e.1∧Qs (LE es) (nE es) e.2:=fun e he=>by
  obtain⟨x,hx,rfl⟩:=List.mem_map.1 he;exact jN_ E hx
 obtain⟨j,res,hj,kv,h1,h2⟩:=mj_ (fh_ E) (W:=⟨[],es,0⟩) (i8_ E) (lB_ E) hQ (by show (List.map _ _).length≤16;rw[List.length_map];exact E.ln);obtain⟨j',res',hj',hu',h2',hc⟩:=pV_ E;have hdet:res=res':=jk_.det h2 h2';subst hdet;refine⟨j,res,hj,h1,⟨j',hj',hu'⟩,fun er e=>?_,fun K e=>?_⟩
 ·rcases hc with ⟨er',e',h40,_⟩|⟨K,e',_⟩
  ·rw[e] at e';injection e' with e';omega
  ·rw[e] at e';cases e'
 ·rcases hc with ⟨er',e',h40,_⟩|⟨K',e',D⟩
  ·rw[e] at e';cases e'
  ·rw[e] at e';injection e' with e';rw[e'];exact D
theorem sl_ {es:List EqT}(E:Es es):∀ W',DI (LE es) (nE es) (NLE es) (AE es) W'→phi (sg W'.K) (es.map dbE)≤100000000000:=fun W' D'=>by
 have h3:phi (sg W'.K) (es.map dbE)≤(es.map dbE).length*(2*LIM):=kn_ _ fun e he=>by
  obtain⟨x,hx,rfl⟩:=List.mem_map.1 he;exact⟨iQ_ (fh_ E) D' (jN_ E hx).1,iQ_ (fh_ E) D' (jN_ E hx).2⟩
 rw[List.length_map] at h3;have h4:es.length*(2*LIM)≤16*(2*LIM):=Nat.mul_le_mul_right _ E.ln;unfold LIM at *;omega
theorem rC_ {xs bs:List EqT}(E1:Es xs)(E2:Es bs){c:Int}(hlo:∀ m∈LE xs,m<c)(hhi:∀ m∈LE bs,c≤m) :
  ∃ j1 j2 j3 r1 r2 r3,j1≤100000000000∧j2≤100000000000∧j3≤200000000000∧fT_ 100 j1 xs=some (iz_ r1)∧fT_ 100 j2 bs=some (iz_ r2)∧fT_ 100 j3 (xs++bs)=some r3 ∧
  (∀ er,r1=.error er→40≤er∧r3=.error er)∧∀ K1,r1=.ok K1→Kd xs K1∧(∀ er,r2=.error er→40≤er∧r3=.error er)∧∀ K2,r2=.ok K2→Kd bs K2∧r3=.ok (cD_ K1++cD_ K2):=by
 obtain⟨j1,r1,hj1,h1,⟨i1,hi1,u1⟩,e1,k1⟩:=pN_ E1;obtain⟨j2,r2,hj2,h2,⟨i2,hi2,u2⟩,e2,k2⟩:=pN_ E2;have hbl:bs.length≤100000000000:=by have:=E2.ln;omega
 cases r1 with
 | error er =>
  have h3:=iI_ (fh_ E1) (sl_ E1) j1 ⟨[],xs,0⟩ er (i8_ E1) (lB_ E1) (fun f _=>aC_ _) h1 bs hbl;refine⟨i1,i2,j1,.error er,r2,.error er,hi1,hi2,by omega,u1,u2,?_,fun er' e=>?_,fun K e=>by cases e⟩
  ·unfold fT_
   rw[show de_ 100 j1 ⟨[],xs++bs,0⟩=some (.error er) from h3]
  ·injection e with e;subst e
   exact⟨e1 _ rfl,rfl⟩
 | ok K1 =>
  have D1:=k1 K1 rfl;have hsol:lF_ (sg K1) (dW ⟨[],xs,0⟩):=⟨nm_ _,fun e he=>by
   obtain⟨x,hx,rfl⟩:=List.mem_map.1 he;exact (D1.gen _ D1.ko.facts.pr).2 D1.ko.facts.ext x hx⟩
  have hphi:phi (sg K1) (dW ⟨[],xs,0⟩).left≤100000000000:=by
   have h3:phi (sg K1) (dW ⟨[],xs,0⟩).left≤(xs.map dbE).length*(2*LIM):=kn_ _ fun e he=>by
    obtain⟨x,hx,rfl⟩:=List.mem_map.1 he;exact D1.szE x hx
   rw[List.length_map] at h3;have h4:xs.length*(2*LIM)≤16*(2*LIM):=Nat.mul_le_mul_right _ E1.ln;unfold LIM at *;omega
  obtain⟨q,⟨N1,DD1⟩,hg⟩:=n7_ (fh_ E1) D1.ko.facts.pr j1 ⟨[],xs,0⟩ K1 (i8_ E1) (lB_ E1) hsol hphi h1;have hq:q≤AE xs:=by have h:q+acE []≤AE xs:=DD1.fr;omega
  have hA:LoK c K1:=fun e he=>by
   have:=DD1.ent e he;exact⟨hlo _ this.1,fun m hm=>hlo m (this.2 m hm)⟩
  have hl1:K1.length≤(LE xs).length:=DD1.klen;have hl2:=kO_ E1;have hl3:=kO_ E2;have ha1:=nS_ E1;have ha2:=nS_ E2;have hn1:=ip_ E1;have hn2:=ip_ E2;have hN1:∀ s∈NLE xs,s∈NLE xs++NLE bs:=fun s h=>List.mem_append.2 (.inl h);have hN2:∀ s∈NLE bs,s∈NLE xs++NLE bs:=fun s h=>List.mem_append.2 (.inr h);have hnd:∀ e∈bs,rhE q (dbE e)=dbE e:=fun e he=>by
   have hv:=nn_ E2 he;have key:∀ t:Ty,Al (VOk (NLE bs) 0) t→rh q t=t:=fun t h=>rR_ q t (h.imp fun t ht h1=>by
    rcases ht.1 h1 with h|⟨j,hj,_⟩
    ·exact (eL_ E2 _ h).1
    ·omega)
   show (rh q (dbT [] e.1),rh q (dbT [] e.2))=_;rw[key _ hv.1,key _ hv.2]
  have hV:dW ⟨K1,bs,q⟩=simW K1 q (dW ⟨[],bs,0⟩):=by
   show Wk.mk K1 (bs.map dbE) q=Wk.mk (K1++[]) ((bs.map dbE).map (rhE q)) (0+q);rw[List.append_nil,Nat.zero_add,List.map_map];congr 1;exact List.map_congr_left fun e he=>(hnd e he).symm
  have NV:NI ⟨K1,bs,q⟩:=⟨(i8_ E2).lf,N1.kv⟩;obtain⟨s1,s2⟩:=qj_ (fh_ E2) (c:=c) (A:=K1) (q:=q) D1.ko hA (by omega) hN2 (oL_ (eL_ E1) (eL_ E2)) (A1:=AE xs+AE bs+1) (by rw[List.length_append];omega) (by omega) (by omega) (fun x=>hG_ hN1 (aC_ _) (DD1.kn x)) hhi j2 ⟨[],bs,0⟩ ⟨K1,bs,q⟩ r2 (i8_ E2) (lB_ E2) hV NV (fun e he=>by cases he) h2;cases r2 with
  | error er =>
   have h3:=hg bs j2 (.error er) hbl (s1 er rfl);refine⟨i1,i2,j1+j2,.ok K1,.error er,.error er,hi1,hi2,by omega,u1,u2,?_,fun er' e=>(by cases e),fun K e=>?_⟩
   ·unfold fT_
    rw[show de_ 100 (j1+j2) ⟨[],xs++bs,0⟩=some (.error er) from h3]
   ·injection e with e;subst e
    exact⟨D1,fun er' e=>by injection e with e;subst e;exact⟨e2 _ rfl,rfl⟩,fun K e=>by cases e⟩
  | ok K2 =>
   obtain⟨g1,g2,⟨fr2,DD2⟩,kv⟩:=s2 K2 rfl;have D2:=k2 K2 rfl;have h3:=hg bs j2 (.ok (K1++K2)) hbl g1;have ko:=pH_ D1.ko D2.ko hA g2;have hf2:fr2≤AE bs:=by have h:fr2+acE []≤AE bs:=DD2.fr;omega
   have hl4:K2.length≤(LE bs).length:=DD2.klen;have ho:=qw_ (NL:=NLE xs++NLE bs) (fr:=AE xs+AE bs) (by rw[List.length_append];omega) ko kv (fun x=>by
    rw[hg_ D1.ko D2.ko hA g2]
    split
    ·exact hG_ hN1 (by show q≤_;omega) (DD1.kn x)
    ·exact hG_ hN2 (by show fr2≤_;omega) (DD2.kn x)) (by rw[List.length_append];omega) (fun x=>by
    rw[hg_ D1.ko D2.ko hA g2]
    split
    ·exact md_ (fh_ E1) DD1 x
    ·exact md_ (fh_ E2) DD2 x) (b4_ (K1++K2)) fun m hm=>dV_.1 hm
   refine⟨i1,i2,j1+j2,.ok K1,.ok K2,.ok (cD_ K1++cD_ K2),hi1,hi2,by omega,u1,u2,?_,fun er' e=>(by cases e),fun K e=>?_⟩
   ·unfold fT_
    rw[show de_ 100 (j1+j2) ⟨[],xs++bs,0⟩=some (.ok (K1++K2)) from h3];simp only;rw[ho];simp only;rw[show (b4_ (K1++K2)).map (fun m=>(m,sg (K1++K2) m))=cD_ (K1++K2) from rfl,ox_ D1.ko D2.ko hA g2]
   ·injection e with e;subst e
    exact⟨D1,fun er' e=>(by cases e),fun K e=>by injection e with e;subst e;exact⟨D2,rfl⟩⟩
end
end Go.Proofs.YtjecnionbjlncaaGreatDoor.Tp

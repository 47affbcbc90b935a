/- Packed. -/
import Derived.Test.YtjecnionbjlncaaGreatDoorP47
set_option maxRecDepth 100000
set_option maxHeartbeats 6400000
namespace Go.Proofs.YtjecnionbjlncaaGreatDoor.Tp
open Go.RowKit
def EAt (w:World)(v:Value)(es:List EqT):Prop:=∃ ps,cX_ (Lt w.heap.size) 0 w v es ps
theorem cX_.lo0 {S:Nat→Prop}{lo:Nat}{w:World}{v:Value}{es:List EqT}{ps:List (Value × Value)}(h:cX_ S lo w v es ps):cX_ S 0 w v es ps:=⟨cx_ h.own (Nat.zero_le _),h.len,h.at_⟩
theorem cX_.eat {S:Nat→Prop}{lo:Nat}{w:World}{v:Value}{es:List EqT}{ps:List (Value × Value)}(h:cX_ S lo w v es ps)(hS:∀ b,S b→b<w.heap.size):EAt w v es:=⟨ps,h.lo0.mono hS⟩
theorem EAt.low {w w':World}{v:Value}{es:List EqT}(h:EAt w v es)(hb:Below w.heap.size w w'):EAt w' v es:=by
 obtain⟨ps,h⟩:=h;exact⟨ps,(h.keep (fun b e=>hb.block b (h.own.lt b e).2) fun b hb'=>hb.block b hb').mono fun _ hj=>ba_ hj hb.size⟩
theorem EAt.es {w:World}{v:Value}{es:List EqT}(h:EAt w v es)(hl:es.length≤1000000000000):nQ_ w v es:=by
 obtain⟨ps,h⟩:=h;exact h.es hl fun _ h=>h
theorem cX_.one {S:Nat→Prop}{lo:Nat}{w:World}{v:Value}{es:List EqT}{ps:List (Value × Value)}(h:cX_ S lo w v es ps):∀ u∈a5_ es ps,u.oneCell'=true:=by
 intro u hu;obtain⟨j,hj,rfl⟩:=List.getElem_of_mem hu;rw[a3_ es ps h.len] at hj;have hi:j / 8<es.length:=by omega
 have hip:j / 8<ps.length:=by rw[h.len];exact hi
 have hj2:=ek_ es ps h.len (j / 8) hi hip (j % 8) (by omega);rw[show j / 8*8+j % 8=j by omega,List.getElem?_eq_getElem (by rw[a3_ es ps h.len];exact hj)] at hj2;obtain⟨a,c,a',c',e1,e2,_⟩:=h.at_ (j / 8) es[j / 8] ps[j / 8] (List.getElem?_eq_getElem hi) (List.getElem?_eq_getElem hip);have hm:(a5_ es ps)[j]'(by rw[a3_ es ps h.len];exact hj)∈db_ es[j / 8] ps[j / 8]:=List.mem_of_getElem? hj2.symm;unfold db_ at hm;rw[e1,e2] at hm;simp only[List.mem_cons,List.not_mem_nil,or_false] at hm
 rcases hm with e|e|e|e|e|e|e|e<;>rw[e]<;>rfl
theorem cX_.more {W w:World}{v:Value}{xs gs:List EqT}{ps:List (Value × Value)}(hb:Below W.heap.size W w)(h:cX_ (Lt W.heap.size) W.heap.size w v xs ps){g:Value}(hG:EAt W g gs)(hl:xs.length+gs.length≤4000) :
  ∃ qs v' w',(Builtin.append_ #[24,24] 24 #[v,g]).run Tryz.prog w=.ok v' w'∧cX_ (Lt W.heap.size) W.heap.size w' v' (xs++gs) qs∧Below W.heap.size W w':=by
 obtain⟨i0,hi0,hz0,hz1,hz3⟩:=info_parts ne_;obtain⟨rs,hG⟩:=hG
 rcases hG.own.2 with ⟨rfl,h0⟩|⟨b,cap,cur,rfl,_,hcur,_⟩
 ·have e0:=List.eq_nil_of_length_eq_zero h0
  subst e0;refine⟨ps,v,w,run_append_owned_none (P:=Tryz.prog) (w:=w) W.heap.size 24 24 48 i0 8 Tryz.underlying24 hi0 v xs.length (a5_ xs ps) h.own,?_,hb⟩;rw[List.append_nil];exact h
 ·obtain⟨v',w',hr,ho',hgr,_⟩:=run_append_own (P:=Tryz.prog) w W.heap.size 24 24 48 i0 _ 8 112 Tryz.underlying24 hi0 hz0 hz1 hz3 rfl (by decide) v xs.length (a5_ xs ps) h.own ⟨b,0,none⟩ gs.length cap (a5_ gs rs) (a3_ _ _ hG.len) (fun j u hu=>by
   have hc:=hG.own.cells (g:=b) rfl j u hu;exact (hb.cell (World.block_lt_of_cell? W _ hc)).trans hc) hG.one (by unfold maxLen;omega) (by omega) hb.size
  have B':=hb.grown hgr hb.size fun k e=>(h.own.lt k e).1;refine⟨ps++rs,v',w',hr,⟨?_,by rw[List.length_append,List.length_append,h.len,hG.len],fun j t sv h5 h6=>?_⟩,B'⟩
  ·have e:a5_ xs ps++a5_ gs rs=a5_ (xs++gs) (ps++rs):=by
    unfold a5_;rw[List.zip_append h.len.symm,List.flatMap_append]
   rw[List.length_append,← e];exact ho'
  ·have old:∀ {y:Value} {ts:List Ty},aa_ (Lt W.heap.size) w y ts→aa_ (Lt W.heap.size) w' y ts:=fun hy=>hy.keep fun k hk=>(B'.block k hk).trans (hb.block k hk).symm
   have new:∀ {y:Value} {ts:List Ty},aa_ (Lt W.heap.size) W y ts→aa_ (Lt W.heap.size) w' y ts:=fun hy=>hy.keep fun k hk=>B'.block k hk
   rcases Nat.lt_or_ge j xs.length with hj|hj
   ·rw[List.getElem?_append_left hj] at h5
    rw[List.getElem?_append_left (by rw[h.len];exact hj)] at h6;obtain⟨b1,b2,b3,b4,e1,e2,h3,h4⟩:=h.at_ j t sv h5 h6;exact⟨b1,b2,b3,b4,e1,e2,old h3,old h4⟩
   ·rw[List.getElem?_append_right hj] at h5
    rw[List.getElem?_append_right (by rw[h.len];exact hj),h.len] at h6;obtain⟨b1,b2,b3,b4,e1,e2,h3,h4⟩:=hG.at_ _ t sv h5 h6;exact⟨b1,b2,b3,b4,e1,e2,new h3,new h4⟩
theorem cX_.none8 {w:World}{b lo:Nat}{S:Nat→Prop}(h:w.heap[b]? = some (.cells #[] 48 (0,0)))(hb:lo≤b):cX_ S lo w (.slice (some ⟨b,0,none⟩) 0 0) [] [] :=
 ⟨⟨rfl,.inr ⟨b,0,#[],rfl,hb,h,aC_ _,by unfold maxLen;omega,by simp,by simp;rfl⟩⟩,rfl,by simp⟩
theorem p0_ {W:World}{k:Nat}(hk:W.heap.size=k){va vb:Value}{es fs:List EqT}(H:EAt W va es)(G:EAt W vb fs)(hn:es.length+fs.length≤4000) :
  ∃ v1 w1 v2 w2,(Builtin.append_ #[24,24] 24 #[.slice (some ⟨k,0,none⟩) 0 0,va]).run Tryz.prog (W.alloc (.cells #[] 48))=.ok v1 w1 ∧
   (Builtin.append_ #[24,24] 24 #[v1,vb]).run Tryz.prog w1=.ok v2 w2∧Below W.heap.size W w2∧EAt w2 v2 (es++fs):=by
 subst hk;have hz:=aw_ W (.cells #[] 48);obtain⟨p1,v1,w1,r1,a1,B1⟩:=cX_.more hz (cX_.none8 (heap_alloc_new W (.cells #[] 48)) (aC_ _)) H (by simp;omega);rw[List.nil_append] at a1;obtain⟨p2,v2,w2,r2,a2,B2⟩:=cX_.more B1 a1 G hn;exact⟨v1,w1,v2,w2,r1,r2,B2,a2.eat fun b hb=>ba_ hb B2.size⟩
def cstN (m:Nat):ByteArray:=ab_ (67 :: Lib.decDigits m)
def cst (m:Int):Ty:=.mk 3 (cstN m.toNat) 0 []
def rg (ms:List Int)(t:Ty):Ty:=ms.foldl (fun t m=>bH_ m (cst m) t) t
def msE (e:EqT):List Int:=ap_ e.1++ap_ e.2
section
variable {es : List EqT}
theorem ms_ok (E:Es es){e:EqT}(he:e∈es):∀ m∈msE e,0≤m∧m<1000000:=by
 intro m hm;have hq:=E.ok e he
 rcases List.mem_append.1 hm with h|h
 ·exact bS_ hq.l.1 m h
 ·exact bS_ hq.r.1 m h
end
end Go.Proofs.YtjecnionbjlncaaGreatDoor.Tp

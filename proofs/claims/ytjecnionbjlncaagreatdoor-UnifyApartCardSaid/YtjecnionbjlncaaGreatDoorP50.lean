/- Packed. -/
import Derived.Test.YtjecnionbjlncaaGreatDoorP48
import Derived.Laws.AppendOwn
import Derived.Test.YtjecnionbjlncaaGreatDoorP49
set_option maxRecDepth 100000
set_option maxHeartbeats 6400000
namespace Go.Proofs.YtjecnionbjlncaaGreatDoor.Tp
section
open Go.RowKit
structure Ofg (g:Nat)(A B:World):Prop where
 le:A.heap.size≤B.heap.size
 bl:∀ b,b<A.heap.size→b≠g→B.heap[b]? = A.heap[b]?
theorem Ofg.refl (g:Nat)(A:World):Ofg g A A:=⟨aC_ _,fun _ _ _=>rfl⟩
theorem Ofg.of_below {g:Nat}{A B:World}(h:Below A.heap.size A B):Ofg g A B:=⟨h.size,fun b hb _=>h.block b hb⟩
theorem Ofg.trans {g:Nat}{A B C:World}(h:Ofg g A B)(k:Ofg g B C):Ofg g A C:=⟨cj_ h.le k.le,fun b hb hg=>(k.bl b (ba_ hb h.le) hg).trans (h.bl b hb hg)⟩
def Ot (g:Nat)(W:World)(b:Nat):Prop:=b<W.heap.size∧b≠g
def hU_ (W:World)(g o:Nat)(t:Ty)(a:OA_)(c:Nat):World :=
 (((W.setCell ⟨g,o,none⟩ (.int .i64 t.kind)).setCell ⟨g,o+1,none⟩ (.string t.name)).setCell ⟨g,o+2,none⟩ (.int .i64 t.n)).setCell ⟨g,o+3,none⟩ (.slice a t.args.length c)
section
variable {W W' : World} {g o : Nat} {t : Ty} {a : OA_} {c : Nat}
theorem gs_:(hU_ W g o t a c).heap.size=W.heap.size:=by unfold hU_;simp
theorem le_ (b:Nat)(h:b≠g):(hU_ W g o t a c).heap[b]? = W.heap[b]? := by
 unfold hU_;rw[aB_ _ _ _ _ h,aB_ _ _ _ _ h,aB_ _ _ _ _ h,aB_ _ _ _ _ h]
theorem rs_ {B:Nat}{A:World}(h:Below B A W)(hg:B≤g):Below B A (hU_ W g o t a c):=(((h.setCell hg _).setCell hg _).setCell hg _).setCell hg _
theorem gt_ (x:Addr):(hU_ W g o t a c).frozen? x=W.frozen? x:=by unfold hU_;simp
theorem nE_ {g x y:Nat}(h:x≠y):(⟨g,x,none⟩:Addr)≠⟨g,y,none⟩:=fun e=>h (by injection e)
theorem cso {W:World}{g x y:Nat}{u:Value}(h:x≠y):(W.setCell ⟨g,x,none⟩ u).cell? ⟨g,y,none⟩=W.cell? ⟨g,y,none⟩:=by
 first|exact World.cell?_setCell_other (nE_ h)|exact World.cell?_setCell_other _ (nE_ h)|exact World.cell?_setCell_other _ _ (nE_ h)|exact World.cell?_setCell_other _ _ _ (nE_ h)|exact World.cell?_setCell_other _ _ _ _ (nE_ h)
theorem css {W:World}{g x:Nat}{u v:Value}(h:W.cell? ⟨g,x,none⟩=some u):(W.setCell ⟨g,x,none⟩ v).cell? ⟨g,x,none⟩=some v:=by
 first|exact World.cell?_setCell_same h|exact World.cell?_setCell_same _ h|exact World.cell?_setCell_same _ _ h|exact World.cell?_setCell_same _ _ _ h
theorem ev_ {k:Nat}(h:k<o∨o+4≤k):(hU_ W g o t a c).cell? ⟨g,k,none⟩=W.cell? ⟨g,k,none⟩ :=
 (cso (by omega)).trans ((cso (by omega)).trans ((cso (by omega)).trans (cso (by omega))))
theorem iT_ {u0 u1 u2 u3:Value}(h0:W.cell? ⟨g,o,none⟩=some u0)(h1:W.cell? ⟨g,o+1,none⟩=some u1)(h2:W.cell? ⟨g,o+2,none⟩=some u2)(h3:W.cell? ⟨g,o+3,none⟩=some u3) :
  (hU_ W g o t a c).cell? ⟨g,o,none⟩=some (.int .i64 t.kind)∧(hU_ W g o t a c).cell? ⟨g,o+1,none⟩=some (.string t.name)∧(hU_ W g o t a c).cell? ⟨g,o+2,none⟩=some (.int .i64 t.n)∧(hU_ W g o t a c).cell? ⟨g,o+3,none⟩=some (.slice a t.args.length c) :=
 ⟨(cso (by omega)).trans ((cso (by omega)).trans ((cso (by omega)).trans (css h0))),(cso (by omega)).trans ((cso (by omega)).trans (css ((cso (by omega)).trans h1))),
  (cso (by omega)).trans (css ((cso (by omega)).trans ((cso (by omega)).trans h2))),css ((cso (by omega)).trans ((cso (by omega)).trans ((cso (by omega)).trans h3)))⟩
end
theorem st1 {W:World}{g o:Nat}{x:Value}(h:W.cell? ⟨g,o+1,none⟩=some x)(u0:Value):(W.setCell ⟨g,o,none⟩ u0).cell? ⟨g,o+1,none⟩=some x:=(cso (by omega)).trans h
theorem st2 {W:World}{g o:Nat}{x:Value}(h:W.cell? ⟨g,o+2,none⟩=some x)(u0 u1:Value):((W.setCell ⟨g,o,none⟩ u0).setCell ⟨g,o+1,none⟩ u1).cell? ⟨g,o+2,none⟩=some x:=(cso (by omega)).trans ((cso (by omega)).trans h)
theorem st3 {W:World}{g o:Nat}{x:Value}(h:W.cell? ⟨g,o+3,none⟩=some x)(u0 u1 u2:Value):(((W.setCell ⟨g,o,none⟩ u0).setCell ⟨g,o+1,none⟩ u1).setCell ⟨g,o+2,none⟩ u2).cell? ⟨g,o+3,none⟩=some x:=(cso (by omega)).trans ((cso (by omega)).trans ((cso (by omega)).trans h))
def C4 (W:World)(g o:Nat)(t:Ty)(a:OA_)(c:Nat):Prop:=W.cell? ⟨g,o,none⟩=some (.int .i64 t.kind)∧W.cell? ⟨g,o+1,none⟩=some (.string t.name)∧W.cell? ⟨g,o+2,none⟩=some (.int .i64 t.n)∧W.cell? ⟨g,o+3,none⟩=some (.slice a t.args.length c)
structure Rw (g off:Nat)(W:World)(es:List EqT):Prop where
 lt:g<W.heap.size
 fz:∀ k,W.frozen? ⟨g,k,none⟩=false
 at_:∀ i (h:i<es.length),∃ xa xc ya yc,C4 W g (off+i*8) es[i].1 xa xc∧C4 W g (off+i*8+4) es[i].2 ya yc∧aa_ (Ot g W) W (.slice xa es[i].1.args.length xc) es[i].1.args∧aa_ (Ot g W) W (.slice ya es[i].2.args.length yc) es[i].2.args
section
variable {W W' : World} {g off : Nat} {es : List EqT}
theorem C4.blk {o:Nat}{t:Ty}{a:OA_}{c:Nat}(h:C4 W g o t a c)(e:W'.heap[g]? = W.heap[g]?):C4 W' g o t a c:=by
 exact⟨(World.cell?_of_block e).trans h.1,(World.cell?_of_block e).trans h.2.1,(World.cell?_of_block e).trans h.2.2.1,(World.cell?_of_block e).trans h.2.2.2⟩
theorem lx_ {x:Addr}(e:W'.heap[x.block]? = W.heap[x.block]?):W'.frozen? x=W.frozen? x:=by unfold World.frozen?;rw[e]
theorem Rw.low (h:Rw g off W es)(hb:Below W.heap.size W W'):Rw g off W' es:=by
 refine⟨ba_ h.lt hb.size,fun k=>by rw[lx_ (hb.block g h.lt)];exact h.fz k,fun i hi=>?_⟩;obtain⟨xa,xc,ya,yc,h1,h2,h3,h4⟩:=h.at_ i hi;exact⟨xa,xc,ya,yc,h1.blk (hb.block g h.lt),h2.blk (hb.block g h.lt),(h3.keep fun b hb'=>hb.block b hb'.1).mono fun b hb'=>⟨ba_ hb'.1 hb.size,hb'.2⟩,(h4.keep fun b hb'=>hb.block b hb'.1).mono fun b hb'=>⟨ba_ hb'.1 hb.size,hb'.2⟩⟩
theorem fV_ {o:Nat}{t:Ty}{a:OA_}{c:Nat}{y:Value}{ts:List Ty}(h:aa_ (Ot g W) W y ts):aa_ (Ot g (hU_ W g o t a c)) (hU_ W g o t a c) y ts :=
 (h.keep fun b hb=>le_ b hb.2).mono fun b hb=>⟨by rw[gs_];exact hb.1,hb.2⟩
theorem C4.far {o k:Nat}{t u:Ty}{a ua:OA_}{c uc:Nat}(h:C4 W g k u ua uc)(hk:k+4≤o∨o+4≤k):C4 (hU_ W g o t a c) g k u ua uc:=by
 exact⟨(ev_ (by omega)).trans h.1,(ev_ (by omega)).trans h.2.1,(ev_ (by omega)).trans h.2.2.1,(ev_ (by omega)).trans h.2.2.2⟩
theorem Rw.set1 (h:Rw g off W es){i:Nat}(hi:i<es.length){t:Ty}{a:OA_}{c:Nat}(hA:aa_ (Ot g W) W (.slice a t.args.length c) t.args):Rw g off (hU_ W g (off+i*8) t a c) (es.set i (t,es[i].2)):=by
 refine⟨by rw[gs_];exact h.lt,fun k=>by rw[gt_];exact h.fz k,fun j hj=>?_⟩;rw[List.length_set] at hj;obtain⟨xa,xc,ya,yc,h1,h2,h3,h4⟩:=h.at_ j hj
 by_cases e:i=j
 ·subst e
  rw[List.getElem_set_self];exact⟨a,c,ya,yc,iT_ h1.1 h1.2.1 h1.2.2.1 h1.2.2.2,h2.far (by omega),fV_ hA,fV_ h4⟩
 ·rw[List.getElem_set_ne e]
  exact⟨xa,xc,ya,yc,h1.far (by omega),h2.far (by omega),fV_ h3,fV_ h4⟩
theorem Rw.set2 (h:Rw g off W es){i:Nat}(hi:i<es.length){t:Ty}{a:OA_}{c:Nat}(hA:aa_ (Ot g W) W (.slice a t.args.length c) t.args):Rw g off (hU_ W g (off+i*8+4) t a c) (es.set i (es[i].1,t)):=by
 refine⟨by rw[gs_];exact h.lt,fun k=>by rw[gt_];exact h.fz k,fun j hj=>?_⟩;rw[List.length_set] at hj;obtain⟨xa,xc,ya,yc,h1,h2,h3,h4⟩:=h.at_ j hj
 by_cases e:i=j
 ·subst e
  rw[List.getElem_set_self];exact⟨xa,xc,a,c,h1.far (by omega),iT_ h2.1 h2.2.1 h2.2.2.1 h2.2.2.2,fV_ h3,fV_ hA⟩
 ·rw[List.getElem_set_ne e]
  exact⟨xa,xc,ya,yc,h1.far (by omega),h2.far (by omega),fV_ h3,fV_ h4⟩
theorem Rw.of {S:Nat→Prop}{lo:Nat}{v:Value}{ps:List (Value × Value)}(h:cX_ S lo W v es ps)(hl:es.length≤1000000000000)(hn:0<es.length)(hS:∀ b,S b→b<W.heap.size∧v.ownBlock≠some b):∃ g off cap,v=.slice (some ⟨g,off,none⟩) es.length cap∧lo≤g∧Rw g off W es:=by
 obtain⟨a,cap,e,_,hc⟩:=h.eqs hl;obtain⟨b,off,rfl,hb,hc⟩:=hc.resolve_left (by intro e;rw[e] at hn;simp at hn);have hlt:=h.own.lt b hb
 rcases h.own.2 with ⟨_,h0⟩|⟨g,cap',cur,hv,_,hg,_⟩
 ·omega
 ·have hgb:g=b:=by rw[hv] at hb;simpa [Value.ownBlock] using hb
  subst hgb;refine⟨g,off,cap,e,hlt.1,hlt.2,fun k=>by simp[World.frozen?,hg],fun i hi=>?_⟩;obtain⟨xa,xc,ya,yc,h1,h2,h3⟩:=hc i hi;exact⟨xa,xc,ya,yc,⟨h1 0 _ (by omega) rfl,h1 1 _ (by omega) rfl,h1 2 _ (by omega) rfl,h1 3 _ (by omega) rfl⟩,⟨h1 4 _ (by omega) rfl,h1 5 _ (by omega) rfl,h1 6 _ (by omega) rfl,h1 7 _ (by omega) rfl⟩,
   h2.mono fun b hb'=>⟨(hS b hb').1,fun e=>(hS b hb').2 (by rw[e];exact hb)⟩,h3.mono fun b hb'=>⟨(hS b hb').1,fun e=>(hS b hb').2 (by rw[e];exact hb)⟩⟩
theorem Rw.row (h:Rw g off W es)(hl:es.length≤1000000000000){cap:Nat} : nQ_ W (.slice (some ⟨g,off,none⟩) es.length cap) es:=by
 refine⟨_,cap,rfl,hl,.inr ⟨g,off,rfl,h.lt,fun i hi=>?_⟩⟩;obtain⟨xa,xc,ya,yc,h1,h2,h3,h4⟩:=h.at_ i hi;refine⟨xa,xc,ya,yc,fun j u hj hu=>?_,h3.mono fun b hb=>hb.1,h4.mono fun b hb=>hb.1⟩
 match j,hj with
 | 0,_=>injection hu with hu;subst hu;exact h1.1
 | 1,_=>injection hu with hu;subst hu;exact h1.2.1
 | 2,_=>injection hu with hu;subst hu;exact h1.2.2.1
 | 3,_=>injection hu with hu;subst hu;exact h1.2.2.2
 | 4,_=>injection hu with hu;subst hu;exact h2.1
 | 5,_=>injection hu with hu;subst hu;exact h2.2.1
 | 6,_=>injection hu with hu;subst hu;exact h2.2.2.1
 | 7,_=>injection hu with hu;subst hu;exact h2.2.2.2
end
theorem si_ (ty:TypeId){wi wy:World}{lo lo2:Nat}{v1 v2:Value}{l1 l2:List Int}(o1:wy.ownsRow lo 3 1 v1 l1.length (l1.map (Value.int .i64)))(o2:wy.ownsRow lo2 3 1 v2 l2.length (l2.map (Value.int .i64)))
  (hb:Below wi.heap.size wi wy) (hlo:wi.heap.size≤lo) (hlo1:lo≤wy.heap.size) (h1:l1.length≤1000000000) (h2:l2.length≤1000000000) {L:List Int} (hL:l1++l2=L) :
  ∃ v' w',(Builtin.append_ #[50,50] ty #[v1,v2]).run Tryz.prog wy=.ok v' w'∧w'.ownsRow wi.heap.size 3 1 v' L.length (L.map (Value.int .i64))∧Below wi.heap.size wi w':=by
 subst hL;obtain⟨i0,hi0,hz3,hz1,hz2⟩:=info_parts nd_
 rcases o2.2 with ⟨rfl,h0⟩|⟨g,cap,cur,rfl,hg1,hg2,hg3⟩
 ·have e0:l2=[]:=List.eq_nil_of_length_eq_zero h0
  subst e0;refine⟨v1,wy,run_append_owned_none (P:=Tryz.prog) (w:=wy) lo 50 ty 3 i0 1 Tryz.underlying50 hi0 v1 l1.length (l1.map (Value.int .i64)) o1,by rw[List.append_nil];exact cx_ o1 hlo,hb⟩
 ·have hc:=o2.cells (g:=g) rfl
  obtain⟨v',w',hr,ho,hgr,_⟩:=run_append_own (P:=Tryz.prog) wy lo 50 ty 3 i0 (.int .i64 0) 1 8 Tryz.underlying50 hi0 hz3 hz1 hz2 rfl (by decide) v1 l1.length (l1.map (Value.int .i64)) o1 ⟨g,0,none⟩ l2.length cap (l2.map (Value.int .i64)) (by simp) (fun j u hu=>hc j u hu) (fun u hu=>by obtain⟨x,_,rfl⟩:=List.mem_map.1 hu;rfl) (by unfold maxLen;omega) (by omega) hlo1;refine⟨v',w',hr,?_,hb.grown hgr (by have:=hb.size;omega) fun k e=>by have:=(o1.lt k e).1;omega⟩;rw[List.length_append,List.map_append];exact cx_ ho hlo
theorem ints_at {l:List Int}{v:Value}{lo:Nat}{w:World}(h:w.ownsRow lo 3 1 v l.length (l.map (Value.int .i64))){a:OA_}{c:Nat}(e:v=.slice a l.length c):∀ j (hj:j<l.length),∃ b,a=some ⟨b,0,none⟩∧lo≤b∧b<w.heap.size∧w.cell? ⟨b,j,none⟩=some (.int .i64 l[j]):=by
 intro j hj
 rcases h.2 with ⟨_,h0⟩|⟨g,cap,cur,hv,hg,hcur,_⟩
 ·omega
 ·rw[hv] at e
  injection e with e1 e2 e3
  subst e1;have hc:=h.cells (g:=g) (by rw[hv];rfl) j (.int .i64 l[j]) (by rw[List.getElem?_map,List.getElem?_eq_getElem hj];rfl);have hadd:(⟨g,0,none⟩:Addr).add j=⟨g,j,none⟩:=by unfold Addr.add;split<;>simp_all
  rw[hadd] at hc;exact⟨g,rfl,hg,World.block_lt_of_cell? _ _ hc,hc⟩
theorem Rw.one {W:World}{g off:Nat}{F:List EqT}(h:Rw g off W F){i:Nat}{e:EqT}(he:F[i]? = some e):∃ xa xc ya yc,C4 W g (off+i*8) e.1 xa xc∧C4 W g (off+i*8+4) e.2 ya yc∧aa_ (Ot g W) W (.slice xa e.1.args.length xc) e.1.args∧aa_ (Ot g W) W (.slice ya e.2.args.length yc) e.2.args:=by
 obtain⟨hi,rfl⟩:=List.getElem?_eq_some_iff.1 he;exact h.at_ i hi
theorem Rw.put1 {W:World}{g off:Nat}{F:List EqT}(h:Rw g off W F){i:Nat}{e:EqT}(he:F[i]? = some e){t:Ty}{a:OA_}{c:Nat}(hA:aa_ (Ot g W) W (.slice a t.args.length c) t.args):Rw g off (hU_ W g (off+i*8) t a c) (F.set i (t,e.2)):=by
 obtain⟨hi,rfl⟩:=List.getElem?_eq_some_iff.1 he;exact h.set1 hi hA
theorem Rw.put2 {W:World}{g off:Nat}{F:List EqT}(h:Rw g off W F){i:Nat}{e:EqT}(he:F[i]? = some e){t:Ty}{a:OA_}{c:Nat}(hA:aa_ (Ot g W) W (.slice a t.args.length c) t.args):Rw g off (hU_ W g (off+i*8+4) t a c) (F.set i (e.1,t)):=by
 obtain⟨hi,rfl⟩:=List.getElem?_eq_some_iff.1 he;exact h.set2 hi hA
theorem iW_:∀ (t:Ty) (out:List Int) (ns:List ByteArray),(bZ_ aE_ t out ns).length≤out.length+t.size:=by
 intro t
 induction t using Ty.ind with
 | h t ih =>
  intro out ns;rw[cd_,t.size_eq];have h1:(aE_ out t ns).length≤out.length+1:=by unfold aE_;split<;>simp
  have:∀ (l:List Ty) (out:List Int) (ns:List ByteArray),(∀ a∈l,∀ (out:List Int) (ns:List ByteArray),(bZ_ aE_ a out ns).length≤out.length+a.size)→(bB_ aE_ l out ns).length≤out.length+af_ l:=by
   intro l
   induction l with
   | nil=>intro out ns _;simp[bB_,af_]
   | cons a l ihl =>
    intro out ns h;rw[bB_,af_];have:=ihl (bZ_ aE_ a out ns) ns fun b hb=>h b (by simp[hb]);have:=h a (by simp) out ns;omega
  have:=this t.args (aE_ out t ns) (if t.kind=5 then t.name :: ns else ns) ih;omega
theorem sb_ (t:Ty):(ap_ t).length≤t.size:=by have:=iW_ t [] [];simpa [ap_] using this
end
section
open Lx
theorem l7_ {W:Wk}{l r:Ty}{er:Nat}(bs:List EqT)(h:f9_ W l r=some (.error er)):f9_ ⟨W.K,W.left++bs,W.fresh⟩ l r=some (.error er):=by
 unfold f9_ at h ⊢
 by_cases h1:aM_ l=aM_ r
 ·rw[if_pos h1] at h;injection h with h;cases h
 rw[if_neg h1] at h ⊢
 by_cases h2:l.kind=2
 ·rw[if_pos h2] at h ⊢
  by_cases h3:((lkK W.K l.n).isSome || (ai_ r).any (fun s=>s.size==0))=true
  ·rw[if_pos h3] at h;cases h
  ·rw[if_neg h3] at h ⊢
   simp only at h ⊢;cases hl:hv_ W.K l.n r with
   | error e=>rw[hl] at h;exact h
   | ok K=>rw[hl] at h;injection h with h;cases h
 rw[if_neg h2] at h ⊢
 by_cases h3:bg_ l r=true
 ·rw[if_pos h3] at h ⊢;exact h
 rw[if_neg h3] at h ⊢
 by_cases h4:l.kind=5
 ·rw[if_pos h4] at h
  by_cases h5:(smB (opT l (bo_ W.fresh))&&smB (opT r (bo_ W.fresh))&&decide (W.fresh<1000000))=true
  ·rw[if_pos h5] at h;injection h with h;cases h
  ·rw[if_neg h5] at h;cases h
 ·rw[if_neg h4] at h
  injection h with h;cases h
theorem l8_ {d:Nat}{W:Wk}{e:EqT}{er:Nat}(bs:List EqT)(h:er_ d W e=some (.error er)):er_ d ⟨W.K,W.left++bs,W.fresh⟩ e=some (.error er):=by
 unfold er_ at h ⊢;simp only at h ⊢;cases h1:dX_ d W.K e.1 with
 | none=>rw[h1] at h;cases h
 | some l =>
  rw[h1] at h;simp only at h ⊢;cases h2:dX_ d W.K e.2 with
  | none=>rw[h2] at h;cases h
  | some r=>rw[h2] at h;exact l7_ bs h
section
variable {L : List Int} {n : Int → Nat} {NL : List ByteArray} {A0 : Nat}
theorem EO.ocx {W:Wk}(D:DI L n NL A0 W){x:Ty}(h:EO L n NL W.K W.fresh x){m:Int}(hm:Tp.oc m x≠0):m∈L:=by
 by_cases hk:lkK W.K m=none
 ·have h1:Tp.oc m (fl (sg W.K) x)≠0:=py_ x hm (by rw[D.ko.facts.unb m hk,hW_,if_pos rfl];decide)
  obtain⟨s,hs,e⟩:=h.rp;rw[e] at h1;obtain⟨y,hy,hy2⟩:=mZ_ s h1;exact D.km y (hs.mem y hy) m hy2
 ·exact D.kl m hk
theorem qa_ {W W':Wk}{e:EqT}{es:List EqT}(D:DI L n NL A0 (dW W))(hl:W.left=e :: es)(hd:Dst ⟨W.K,es.map dbE,W.fresh⟩ (swl W.K (dbE e)).1 (swl W.K (dbE e)).2 (.ok (dW W'))) :
  DI L n NL A0 (dW W')∧∀ f,Ext f W'.K→Ext f W.K∧phi f (dW W').left+1≤phi f (dW W).left:=by
 have hdl:(dW W).left=dbE e :: es.map dbE:=by show W.left.map dbE=_;rw[hl];rfl
 obtain⟨D1,S,ha⟩:=D.cut hdl;refine⟨hd.inv D1 S ha,fun f hf=>?_⟩;have he:Ext f W.K:=hd.ext D1 S hf;refine⟨he,?_⟩;have h1:=hd.phi S f;rw[hdl,dR_];have h2:(fl f (swl W.K (dbE e)).1).size+(fl f (swl W.K (dbE e)).2).size=(fl f (dbE e).1).size+(fl f (dbE e).2).size:=by
  unfold swl
  rcases eN_ (fl (sg W.K) (dbE e).1) (fl (sg W.K) (dbE e).2) with h|h<;>rw[h]<;>simp only<;>rw[f0_ he,f0_ he]
  omega
 have h3:phi f (dW W').left+1≤phi f (es.map dbE)+(fl f (swl W.K (dbE e)).1).size+(fl f (swl W.K (dbE e)).2).size:=h1;omega
theorem iI_ (C:Co L n NL A0){es0:List EqT}(hB:∀ W',DI L n NL A0 W'→phi (sg W'.K) es0≤100000000000):∀ (j:Nat) (W:Wk) (er:Nat),NI W→DI L n NL A0 (dW W)→(∀ f,Ext f W.K→phi f (dW W).left≤phi f es0)→de_ 100 j W=some (.error er) →
  ∀ bs:List EqT,bs.length≤100000000000→de_ 100 j ⟨W.K,W.left++bs,W.fresh⟩=some (.error er):=by
 intro j
 induction j with
 | zero=>intro W er _ _ _ h;cases h
 | succ j ih =>
  intro W er N D hp h bs hb;rw[de_] at h;cases hl:W.left with
  | nil=>rw[hl] at h;injection h with h;cases h
  | cons e es =>
   rw[hl] at h;simp only at h
   rcases j6_ C N D hl with ⟨er',h1,_⟩|⟨W',h1,N',hd⟩
   ·rw[show er_ 100 { W with left:=es } e=some (.error er') from h1] at h
    simp only at h;injection h with h
    injection h with h
    subst h;rw[de_];simp only[List.cons_append];rw[show er_ 100 { K:=W.K,left:=es++bs,fresh:=W.fresh } e=some (.error er') from l8_ bs h1]
   ·rw[show er_ 100 { W with left:=es } e=some (.ok W') from h1] at h
    simp only at h
    by_cases hc:W'.left.length≤500000000000
    ·rw[if_pos hc] at h
     obtain⟨D',hph⟩:=qa_ D hl hd;have hp':∀ f,Ext f W'.K→phi f (dW W').left≤phi f es0:=fun f hf=>by
      have h2:=hph f hf;have h3:=hp f h2.1;omega
     have h2:=ih W' er N' D' hp' h bs hb;refine dz_ (W:=⟨W.K,e :: es++bs,W.fresh⟩) (e:=e) (es:=es++bs) rfl (iD_ bs h1) ?_ h2;have h3:=jz_ (sg W'.K) (dW W').left;have h4:(dW W').left.length=W'.left.length:=by show (List.map _ _).length=_;rw[List.length_map]
     have h5:=hp' (sg W'.K) D'.ko.facts.ext;have h6:phi (sg W'.K) es0≤100000000000:=hB (dW W') D';show (W'.left++bs).length≤_;rw[List.length_append];omega
    ·rw[if_neg hc] at h;cases h
theorem Dst.hi {c:Int}(hL:∀ m∈L,c≤m){W W':Wk}{l r:Ty}(D:DI L n NL A0 W)(S:Sd W L n NL l r)(h:Dst W l r (.ok W'))(hK:HiK c W.K):HiK c W'.K:=by
 cases h with
 | same h=>exact hK
 | opn h h5 hc b b' hl hr=>exact hK
 | parts h h2 h5 h6 hc=>exact hK
 | learn h h2 ho hp =>
  intro e he
  rcases List.mem_append.1 he with he|he
  ·exact hK e he
  ·rw[List.mem_singleton.1 he]
   exact⟨hL _ (S.l1.oc D S.l2 (c2_ h2)),fun m hm=>hL m (S.r1.oc D S.r2 hm)⟩
theorem qj_ (C:Co L n NL A0){c:Int}{A:Kn}{q:Nat}(koA:KO A)(hA:LoK c A)(hlen:A.length+L.length≤90){NL':List ByteArray}(hNL:∀ s∈NL,s∈NL')(nn:lI_ NL'){A1:Nat}(hnl:NL'.length+A1≤2000000)(ha1:A1<1000000)(hq:A0+q<A1)
  (knA:∀ x,Al (VOk NL' q) (sg A x)) (hL:∀ m∈L,c≤m):∀ (j:Nat) (U V:Wk) (res:Except Nat Kn),NI U→DI L n NL A0 (dW U)→dW V=simW A q (dW U)→NI V→HiK c U.K→de_ 100 j U=some res →
  (∀ er,res=.error er→de_ 100 j V=some (.error er))∧∀ K,res=.ok K→de_ 100 j V=some (.ok (A++K))∧HiK c K∧(∃ fr,DI L n NL A0 (dW ⟨K,[],fr⟩))∧∀ x u,lkK (A++K) x=some u→Std u∧aY_ u:=by
 intro j
 induction j with
 | zero=>intro U V res _ _ _ _ _ h;cases h
 | succ j ih =>
  intro U V res NU D hV NV hi h;obtain⟨VK,Vl,Vf⟩:=V;unfold simW dW at hV;injection hV with e1 e2 e3
  simp only at e1 e2 e3;subst e1 e3;rw[de_] at h;cases hl:U.left with
  | nil =>
   rw[hl] at h e2;injection h with h
   subst h;have hv:Vl=[]:=by cases Vl with
    | nil=>rfl
    | cons y Vl=>cases e2
   subst hv;refine⟨fun er e=>(by cases e),fun K e=>?_⟩;injection e with e
   subst e;refine⟨by rw[de_],hi,⟨U.fresh,?_⟩,NV.kv⟩;have:U=⟨U.K,[],U.fresh⟩:=(by rw[← hl]);rw[← this];exact D
  | cons e es =>
   rw[hl] at h e2;simp only at h;cases Vl with
   | nil=>cases e2
   | cons e' es' =>
    rw[List.map_cons,List.map_cons,List.map_cons] at e2;injection e2 with e2 e3
    have x1:dbT [] e'.1=rh q (dbT [] e.1):=congrArg Prod.fst e2;have x2:dbT [] e'.2=rh q (dbT [] e.2):=congrArg Prod.snd e2;have hdl:(dW U).left=dbE e :: es.map dbE:=by show U.left.map dbE=_;rw[hl];rfl
    obtain⟨D1,S,ha⟩:=D.cut hdl;obtain⟨E1,E2⟩:=D.lf (dbE e) (by rw[hdl];simp);have ko:KO U.K:=D.ko;have m1:∀ m,oc m (dbT [] e.1)≠0→c≤m:=fun m hm=>hL m (E1.ocx D hm);have m2:∀ m,oc m (dbT [] e.2)≠0→c≤m:=fun m hm=>hL m (E2.ocx D hm);have hpr:∀ m,rh q (sg U.K m)=sg U.K m:=fun m=>mp_ q (ko.facts.pr m);have koV:KO (A++U.K):=pH_ koA ko hA hi;have kn:∀ x,Al (VOk NL' (U.fresh+q)) (sg (A++U.K) x):=fun x=>by
     rw[hg_ koA ko hA hi]
     split
     ·exact (knA x).imp fun t=>dc_ (Nat.le_add_left _ _) t
     ·have:=mn_ q C.nn hNL (D.kn x)
      rwa [show rh q (sg (dW U).K x)=sg U.K x from hpr x] at this
    have hkl:(A++U.K).length≤90:=by
     rw[List.length_append];have h1:U.K.length≤L.length:=D.klen;omega
    have hfr:U.fresh+q<A1:=by
     have h1:U.fresh+acE (dW U).left≤A0:=D.fr;omega
    have v1:Al (VOk NL' (U.fresh+q)) (dbT [] e'.1):=by rw[x1];exact mn_ q C.nn hNL E1.vn
    have v2:Al (VOk NL' (U.fresh+q)) (dbT [] e'.2):=by rw[x2];exact mn_ q C.nn hNL E2.vn
    have z1:(fl (sg (A++U.K)) (dbT [] e'.1)).size≤LIM:=by
     rw[x1,eh_ koA ko hA hi (by intro m;rw[iK_];exact m1 m),← oe_ q hpr,mo_];exact E1.sz C D
    have z2:(fl (sg (A++U.K)) (dbT [] e'.2)).size≤LIM:=by
     rw[x2,eh_ koA ko hA hi (by intro m;rw[iK_];exact m2 m),← oe_ q hpr,mo_];exact E2.sz C D
    have hsw:swl (A++U.K) (dbE e')=rhE q (swl U.K (dbE e)):=by
     rw[show dbE e'=rhE q (dbE e) from e2];exact p7_ koA ko hA hi q m1 m2
    have hVs:=qb_ hnl ha1 nn NV koV kn hkl hfr (e:=e') (es:=es') rfl v1 v2 z1 z2;rw[hsw,show es'.map dbE=(es.map dbE).map (rhE q) from e3] at hVs
    rcases j6_ C NU D hl with ⟨er,h1,hd⟩|⟨U',h1,NU',hd⟩
    ·rw[show er_ 100 { U with left:=es } e=some (.error er) from h1] at h
     simp only at h;injection h with h
     subst h;have hs:=hd.sim A q;refine⟨fun er' e=>?_,fun K e=>(by cases e)⟩;injection e with e
     subst e
     rcases hVs with ⟨er',g1,g2⟩|⟨V',g1,_,g2⟩
     ·have:=hs.det g2
      injection this with this
      subst this;rw[de_];simp only;rw[show er_ 100 { K:=A++U.K,left:=es',fresh:=U.fresh+q } e'=some (.error er) from g1]
     ·have:=hs.det g2
      cases this
    ·rw[show er_ 100 { U with left:=es } e=some (.ok U') from h1] at h
     simp only at h
     by_cases hc:U'.left.length≤500000000000
     ·rw[if_pos hc] at h
      have D':=hd.inv D1 S ha;have hi':HiK c U'.K:=Dst.hi (W':=dW U') hL D1 S hd hi;have hs:=hd.sim A q
      rcases hVs with ⟨er',g1,g2⟩|⟨V',g1,NV',g2⟩
      ·have:=hs.det g2
       cases this
      ·have hdet:=hs.det g2
       have hV':simW A q (dW U')=dW V':=by injection hdet
       obtain⟨i1,i2⟩:=ih U' V' res NU' D' hV'.symm NV' hi' h;have hlV:V'.left.length≤500000000000:=by
        have h5:=congrArg (fun W:Wk=>W.left.length) hV';simp only[simW,dW,List.length_map] at h5;omega
       refine⟨fun er e=>dz_ (W:=⟨A++U.K,e' :: es',U.fresh+q⟩) rfl g1 hlV (i1 er e),fun K e=>?_⟩;obtain⟨k1,k2⟩:=i2 K e;exact⟨dz_ (W:=⟨A++U.K,e' :: es',U.fresh+q⟩) rfl g1 hlV k1,k2⟩
     ·rw[if_neg hc] at h;cases h
end
theorem qw_ {NL:List ByteArray}{fr:Nat}(hl:NL.length+fr≤3000000){K:Kn}(ko:KO K)(kv:∀ x u,lkK K x=some u→Std u∧aY_ u)(kn:∀ x,Al (VOk NL fr) (sg K x))(hkl:K.length≤90)(hz:∀ x,(sg K x).size≤LIM):∀ ms:List Int,(∀ m∈ms,lkK K m≠none)→jm_ 100 K ms=some (ms.map fun m=>(m,sg K m)):=by
 intro ms
 induction ms with
 | nil=>intro _;rfl
 | cons m ms ih =>
  intro h;rw[jm_];cases hu:lkK K m with
  | none=>exact absurd hu (h m (by simp))
  | some u =>
   simp only;obtain⟨us,ug⟩:=kv m u hu;obtain⟨e1,_,up⟩:=ko.facts.bnd m u hu;have ed:dbT [] u=u:=bJ_ u us up.no5;have hvu:Al (VOk NL fr) u:=fQ_ (f:=sg K) (fun t l h=>h) (fun t h=>⟨fun h1=>by omega,fun h1=>by omega⟩) u up.dw (by rw[← e1];exact kn m);obtain⟨u',a1,a2,a3,a4⟩:=gL_ ko kv hl kn 99 0 u (by omega) us ug (fun z _=>rfl) (by rw[ed];exact hvu) (by rw[ed,← e1];exact hz m);rw[show dX_ 100 K u=some u' from a1];simp only;rw[ih fun x hx=>h x (by simp[hx])];simp only;rw[ed,← e1] at a2;have hp:dbT [] u'=u':=bJ_ u' a3 ((i9_ u' [] a3).1 (by rw[a2];exact (ko.facts.pr m).no5));rw[hp] at a2;rw[a2];rfl
theorem oV_ {c:Int}{A K:Kn}(hA:(A.map fun x=>x.1).Nodup)(hK:(K.map fun x=>x.1).Nodup)(h1:LoK c A)(h2:HiK c K):b4_ (A++K)=b4_ A++b4_ K:=by
 have hlt:∀ x∈b4_ A,∀ y∈b4_ K,x<y:=fun x hx y hy=>by
  obtain⟨a,ha,rfl⟩:=List.mem_map.1 ((bq_ A).mem_iff.1 hx);obtain⟨b,hb,rfl⟩:=List.mem_map.1 ((bq_ K).mem_iff.1 hy);have:=(h1 a ha).1;have:=(h2 b hb).1;omega
 have nA:=(bq_ A).nodup_iff.2 hA;have nK:=(bq_ K).nodup_iff.2 hK;refine hM_ ((bq_ _).nodup_iff.2 ?_) ?_ (dU_ _) ?_ fun x=>?_
 ·rw[List.map_append,List.nodup_append]
  refine⟨hA,hK,fun a ha b hb=>?_⟩;have:=hlt a ((bq_ A).mem_iff.2 ha) b ((bq_ K).mem_iff.2 hb);omega
 ·rw[List.nodup_append]
  exact⟨nA,nK,fun a ha b hb=>by have:=hlt a ha b hb;omega⟩
 ·rw[List.pairwise_append]
  exact⟨dU_ A,dU_ K,fun a ha b hb=>by have:=hlt a ha b hb;omega⟩
 ·rw[(bq_ _).mem_iff,List.mem_append,(bq_ _).mem_iff,(bq_ _).mem_iff,List.map_append,List.mem_append]
theorem ox_ {c:Int}{A K:Kn}(koA:KO A)(ko:KO K)(h1:LoK c A)(h2:HiK c K):cD_ (A++K)=cD_ A++cD_ K:=by
 unfold cD_;rw[oV_ koA.nodup ko.nodup h1 h2,List.map_append];congr 1
 ·refine List.map_congr_left fun m hm=>?_
  obtain⟨a,ha,rfl⟩:=List.mem_map.1 ((bq_ A).mem_iff.1 hm);rw[hg_ koA ko h1 h2,if_pos (h1 a ha).1]
 ·refine List.map_congr_left fun m hm=>?_
  obtain⟨a,ha,rfl⟩:=List.mem_map.1 ((bq_ K).mem_iff.1 hm);rw[hg_ koA ko h1 h2,if_neg (by have:=(h2 a ha).1;omega)]
end
end Go.Proofs.YtjecnionbjlncaaGreatDoor.Tp

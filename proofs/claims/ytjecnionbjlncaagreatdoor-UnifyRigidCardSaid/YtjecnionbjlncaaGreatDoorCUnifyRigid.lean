/-
  Without unknowns equations have an answer, the empty one, just if the two sides of each are the same: for every list of at most eight lines of at most 120 bytes a side, with at most 24 variables and unknowns in all, whose unknowns are taken for constants; at anything else the law tells what its examples tell.
-/
import Derived.Test.YtjecnionbjlncaaGreatDoorP51
import Derived.Laws.AppendOwn
import Derived.Test.YtjecnionbjlncaaGreatDoorCards
import Derived.Test.YtjecnionbjlncaaGreatDoorTie
import Derived.SevenTiedAt

namespace Go.Proofs.YtjecnionbjlncaaGreatDoor.Tp
open Go.RowKit
def cstN (m:Nat):ByteArray:=ac_ (67 :: Lib.decDigits m)
def cst (m:Int):Ty:=.mk 3 (cstN m.toNat) 0 []
theorem cst_cn (m:Nat):CnW (cstN m).data.toList:=by
 unfold cstN
 rw[cv_]
 refine⟨⟨by simp,fun c hc=>?_⟩,rfl⟩
 rcases List.mem_cons.1 hc with rfl|hc
 ·rfl
 ·exact gE_ ((cc_ m).1 c hc)
theorem cst_len {m:Int}(h0:0≤m)(h1:m<1000000000000000000):(cstN m.toNat).size≤64:=by
 have h10:(10:Nat) ^ 18=1000000000000000000:=by decide
 have h:=(cc_ m.toNat).2.2.2 18 (by omega) (by omega)
 have e:(cstN m.toNat).size=(cstN m.toNat).data.toList.length:=by simp
 rw[e]
 unfold cstN
 rw[cv_,List.length_cons]
 omega
theorem db_cst (m:Int):dbT [] (cst m)=cst m:=rfl
theorem ni_cst {NL:List ByteArray}{fr:Nat}{m:Int}(h0:0≤m)(h1:m<1000000000000000000):Ni NL fr (cst m) :=
 ⟨(a4_ _).2 ⟨.inr (.inr (.inl ⟨rfl,rfl⟩)),fun a ha=>by cases ha⟩,⟨(bK_ _).2 ⟨.inr (.inr (.inl rfl)),fun a ha=>by cases ha⟩,(b9_ _).2 ⟨⟨fun e=>absurd (show (3:Int)=5 from e) (by decide),cst_len h0 h1⟩,fun a ha=>by cases ha⟩⟩,
  .mk _ ⟨fun e=>absurd (show (3:Int)=1 from e) (by decide),fun _=>cst_cn _⟩ (fun a ha=>by cases ha),by show 1≤LIM;unfold LIM;omega⟩
def rg (ms:List Int)(t:Ty):Ty:=ms.foldl (fun t m=>bp_ m (cst m) t) t
def csf (ms:List Int)(x:Int):Ty:=if x∈ms then cst x else mt x
theorem csf_size (ms:List Int)(x:Int):(csf ms x).size≤(mt x).size:=by
 unfold csf
 split<;>exact aA_ _
theorem rg_ni {NL:List ByteArray}{fr:Nat} : ∀ (ms:List Int) (t:Ty),Ni NL fr t→(∀ m∈ms,0≤m∧m<1000000000000000000)→Ni NL fr (rg ms t)∧dbT [] (rg ms t)=fl (csf ms) (dbT [] t):=by
 intro ms
 induction ms with
 | nil=>intro t h _;exact⟨h,(gB_ _ (d8_ t [] h.st) fun x _=>by unfold csf;rw[if_neg (by simp)]).symm⟩
 | cons m ms ih =>
  intro t h hm
  obtain⟨h0,h1⟩:=hm m (by simp)
  have hc:=ni_cst (NL:=NL) (fr:=fr) h0 h1
  have hn:Ni NL fr (bp_ m (cst m) t):=h.fill hc m (by
   refine co_ (cz_ (g:=mt) _ fun x _=>?_) (by rw[gB_ _ (d8_ t [] h.st) fun _ _=>rfl];exact h.sz)
   unfold one
   split<;>exact aA_ _)
  obtain⟨a,b⟩:=ih (bp_ m (cst m) t) hn fun x hx=>hm x (by simp[hx])
  refine⟨a,?_⟩
  show dbT [] (rg ms (bp_ m (cst m) t))=_
  rw[b,cl_ _ _ _ h.st,mb_ _ _ _ (d8_ t [] h.st),fk_,db_cst]
  refine bP_ _ fun x _=>?_
  by_cases e:x=m
  ·subst e
   rw[bm_]
   unfold csf
   rw[if_pos (by simp)]
   rfl
  ·rw[ch_ _ e,cH_]
   unfold csf
   have:(x∈m :: ms)↔x∈ms:=by rw[List.mem_cons];exact⟨fun h=>h.resolve_left e,.inr⟩
   by_cases hx:x∈ms
   ·rw[if_pos hx,if_pos (this.2 hx)]
   ·rw[if_neg hx,if_neg fun h=>hx (this.1 h)]
def msE (e:EqT):List Int:=az_ e.1++az_ e.2
def rgE (e:EqT):EqT:=(rg (msE e) e.1,rg (msE e) e.2)
theorem oc_cst (m x:Int):oc m (cst x)=0:=rfl
section
variable {es : List EqT}
theorem ms_ok (E:Es es){e:EqT}(he:e∈es):∀ m∈msE e,0≤m∧m<1000000:=by
 intro m hm
 have hq:=E.ok e he
 rcases List.mem_append.1 hm with h|h
 ·exact es_ hq.l.1 m h
 ·exact es_ hq.r.1 m h
structure Rg (NL:List ByteArray)(t:Ty):Prop where
 ni:Ni NL 0 t
 oc:∀ m,Tp.oc m (dbT [] t)=0
 sz:(dbT [] t).size≤120
theorem rg_side {NL:List ByteArray}{ms:List Int}{t:Ty}(h:Ni NL 0 t)(hm:∀ m∈ms,0≤m∧m<1000000000000000000)(hs:t.size≤120)(ht:∀ m∈az_ t,m∈ms):Rg NL (rg ms t):=by
 obtain⟨a,b⟩:=rg_ni ms t h hm
 refine⟨a,fun m=>?_,?_⟩
 ·rw[b]
  refine Classical.byContradiction fun hn=>?_
  obtain⟨x,hx,hy⟩:=qE_ _ hn
  have:=ht x ((a1_ h.st).2 hx)
  unfold csf at hy
  rw[if_pos this] at hy
  exact hy rfl
 ·rw[b]
  refine co_ (cz_ (g:=mt) _ fun x _=>csf_size ms x) ?_
  rw[gB_ _ (d8_ t [] h.st) fun _ _=>rfl,bL_ t h.st]
  exact hs
theorem rg_line (E:Es es){e:EqT}(he:e∈es):Rg (NLE es) (rgE e).1∧Rg (NLE es) (rgE e).2:=by
 have hq:=E.ok e he
 obtain⟨⟨n1,_⟩,n2,_⟩:=es_ni E he 0
 have hm:∀ m∈msE e,0≤m∧m<1000000000000000000:=fun m h=>by have:=ms_ok E he m h;omega
 exact⟨rg_side n1 hm hq.l.2.1 fun m h=>List.mem_append.2 (.inl h),rg_side n2 hm hq.r.2.1 fun m h=>List.mem_append.2 (.inr h)⟩
theorem rig_run {W:Wk}{res:Except Nat Kn}(h:ji_ W res):W.K=[]→(∀ e∈W.left,(Dw e.1∧∀ m,oc m e.1=0)∧Dw e.2∧∀ m,oc m e.2=0)→(∀ er,res=.error er→er=40)∧∀ K,res=.ok K→K=[]:=by
 have side:∀ {W:Wk} {e:EqT} {fs:List EqT},W.K=[]→W.left=e :: fs→(∀ e∈W.left,(Dw e.1∧∀ m,oc m e.1=0)∧Dw e.2∧∀ m,oc m e.2=0)→(Dw (swl W.K e).1∧∀ m,oc m (swl W.K e).1=0)∧Dw (swl W.K e).2∧∀ m,oc m (swl W.K e).2=0:=fun {W e fs} hK hl hn=>by
  obtain⟨⟨a,b⟩,c,d⟩:=hn e (by rw[hl];simp)
  unfold swl
  have ea:fl (sg []) e.1=e.1:=gB_ _ a fun _ _=>rfl
  have ec:fl (sg []) e.2=e.2:=gB_ _ c fun _ _=>rfl
  rw[hK,ea,ec]
  rcases fy_ _ _ with h|h<;>rw[h]
  ·exact⟨⟨a,b⟩,c,d⟩
  ·exact⟨⟨c,d⟩,a,b⟩
 have no2:∀ {t:Ty},(∀ m,oc m t=0)→t.kind≠2:=fun h h2=>d0_ h2 (h _)
 have arg:∀ {t a:Ty},t.kind≠2→(∀ m,oc m t=0)→a∈t.args→∀ m,oc m a=0:=fun h2 h ha m=>Classical.byContradiction fun hn=>fZ_ h2 ha hn (h m)
 induction h with
 | done W h=>intro hK _;exact⟨fun er e=>by (cases e),fun K e=>by injection e with e;rw[← e];exact hK⟩
 | err W e fs er h hd =>
  intro hK hn
  obtain⟨⟨a,b⟩,c,d⟩:=side hK h hn
  refine⟨fun er' e'=>?_,fun K e=>by (cases e)⟩
  injection e' with e'
  subst e'
  cases hd with
  | occurs _ h2 _=>exact absurd h2 (no2 b)
  | poly _ h2 _ _=>exact absurd h2 (no2 b)
  | esc _ h2 _ _ _=>exact absurd h2 (no2 b)
  | clash=>rfl
 | step W W' e fs res h hd hr ih =>
  intro hK hn
  obtain⟨⟨a,b⟩,c,d⟩:=side hK h hn
  have hf:∀ e∈fs,(Dw e.1∧∀ m,oc m e.1=0)∧Dw e.2∧∀ m,oc m e.2=0:=fun x hx=>hn x (by rw[h];simp[hx])
  cases hd with
  | same=>exact ih hK hf
  | learn _ h2 _ _=>exact absurd h2 (no2 b)
  | opn _ h5 _ u u' hl hr' =>
   refine ih hK fun x hx=>?_
   rcases List.mem_cons.1 hx with rfl|hx
   ·have m1:u∈(swl W.K e).1.args:=by rw[hl];simp
    have m2:u'∈(swl W.K e).2.args:=by rw[hr'];simp
    exact⟨⟨sy_ _ _ (a.arg m1),fun m=>by rw[sa_ _ _ _ _ (a.arg m1)];exact arg (no2 b) b m1 m⟩,sy_ _ _ (c.arg m2),fun m=>by rw[sa_ _ _ _ _ (c.arg m2)];exact arg (no2 d) d m2 m⟩
   ·exact hf x hx
  | parts _ h2 h5 h6 _ =>
   refine ih hK fun x hx=>?_
   rcases List.mem_append.1 hx with hx|hx
   ·obtain⟨m1,m2⟩:=List.of_mem_zip hx
    exact⟨⟨a.arg m1,arg (no2 b) b m1⟩,c.arg m2,arg (no2 d) d m2⟩
   ·exact hf x hx
theorem rig_all (E:Es es):∃ j res,j≤100000000000∧f7_ 100 j (es.map rgE)=some res∧((res=.ok []∧∀ e∈es,aJ_ (rgE e).1=aJ_ (rgE e).2)∨(res=.error 40∧¬ ∀ e∈es,aJ_ (rgE e).1=aJ_ (rgE e).2)):=by
 have hR:∀ e∈es.map rgE,Rg (NLE es) e.1∧Rg (NLE es) e.2:=fun e he=>by
  obtain⟨x,hx,rfl⟩:=List.mem_map.1 he
  exact rg_line E hx
 have hQs:∀ {t:Ty},Rg (NLE es) t→Qs [] (fun _=>0) (dbT [] t):=fun h=>⟨d8_ _ _ h.ni.st,h.sz,fun m=>by rw[h.oc m];exact aA_ _,fun m hm=>absurd (h.oc m) hm⟩
 have hac:acE ((es.map rgE).map dbE)≤4000:=by
  unfold acE
  rw[List.map_map]
  have h1:((es.map rgE).map ((fun e:EqT=>ac e.1+ac e.2) ∘ dbE)).sum≤((es.map rgE).map fun _=>240).sum:=l1_ fun e he=>by
   obtain⟨a,b⟩:=hR e he
   have h1:=nF_ (dbT [] e.1)
   have h2:=nF_ (dbT [] e.2)
   have:=a.sz
   have:=b.sz
   show ac (dbT [] e.1)+ac (dbT [] e.2)≤240
   omega
  rw[gj_,List.length_map] at h1
  have:=E.ln
  omega
 have hC:Co [] (fun _=>0) (NLE es) (acE ((es.map rgE).map dbE)):=⟨by simp,Nat.zero_le _,by have:=nL_ E;omega,by omega,kO_ E⟩
 have hD:DI [] (fun _=>0) (NLE es) (acE ((es.map rgE).map dbE)) ⟨[],(es.map rgE).map dbE,0⟩:=by
  refine⟨.nil,qz_,fun e he=>?_,fun x=>.inl rfl,fun x h=>absurd rfl h,fun x hx=>by (cases hx),fun x=>iq_ _ _ _,by show 0+acE ((es.map rgE).map dbE)≤acE ((es.map rgE).map dbE);omega⟩
  obtain⟨y,hy,rfl⟩:=List.mem_map.1 he
  obtain⟨a,b⟩:=hR y hy
  exact⟨⟨(hQs a).dw,a.ni.vn,_,hQs a,rfl⟩,(hQs b).dw,b.ni.vn,_,hQs b,rfl⟩
 obtain⟨j,res,hj,hu,hd⟩:=uni_ex hC (fun e he=>⟨⟨(hR e he).1.ni.st,(hR e he).1.ni.gd⟩,(hR e he).2.ni.st,(hR e he).2.ni.gd⟩) hD (fun e he=>⟨hQs (hR e he).1,hQs (hR e he).2⟩) (by rw[List.length_map];exact E.ln)
 obtain⟨t1,t2⟩:=hd.told (kO_ E) hD
 obtain⟨r1,r2⟩:=rig_run hd rfl fun e he=>by
  obtain⟨y,hy,rfl⟩:=List.mem_map.1 he
  obtain⟨a,b⟩:=hR y hy
  exact⟨⟨(hQs a).dw,a.oc⟩,(hQs b).dw,b.oc⟩
 have hcan:∀ e∈es,(aJ_ (rgE e).1=aJ_ (rgE e).2↔Sol mt (dbE (rgE e))):=fun e he=>by
  obtain⟨a,b⟩:=rg_line E he
  rw[fT_ a.ni.st b.ni.st (hA_ (kO_ E) a.ni.vn) (hA_ (kO_ E) b.ni.vn)]
  unfold Sol
  show _↔fl mt (dbT [] (rgE e).1)=fl mt (dbT [] (rgE e).2)
  rw[gB_ _ (hQs a).dw fun _ _=>rfl,gB_ _ (hQs b).dw fun _ _=>rfl]
 have hall:(∀ e∈es,aJ_ (rgE e).1=aJ_ (rgE e).2)↔nR_ mt ⟨[],(es.map rgE).map dbE,0⟩:=by
  constructor
  ·intro h
   refine⟨q7_ _,fun e he=>?_⟩
   obtain⟨y,hy,rfl⟩:=List.mem_map.1 he
   obtain⟨x,hx,rfl⟩:=List.mem_map.1 hy
   exact (hcan x hx).1 (h x hx)
  ·intro h e he
   exact (hcan e he).2 (h.2 _ (List.mem_map.2 ⟨_,List.mem_map.2 ⟨e,he,rfl⟩,rfl⟩))
 refine⟨j,rW_ res,hj,hu,?_⟩
 cases res with
 | error er=>exact .inr ⟨by rw[r1 er rfl];rfl,fun h=>t2 er rfl mt r9_ (hall.1 h)⟩
 | ok K =>
  have hK:=r2 K rfl
  subst hK
  exact .inl ⟨by simp[rW_,gq_,b8_],hall.2 (((t1 [] rfl).2 mt r9_).2 (q7_ _))⟩
end
structure Ofg (g:Nat)(A B:World):Prop where
 le:A.heap.size≤B.heap.size
 bl:∀ b,b<A.heap.size→b≠g→B.heap[b]? = A.heap[b]?
theorem Ofg.refl (g:Nat)(A:World):Ofg g A A:=⟨aA_ _,fun _ _ _=>rfl⟩
theorem Ofg.of_below {g:Nat}{A B:World}(h:Below A.heap.size A B):Ofg g A B:=⟨h.size,fun b hb _=>h.block b hb⟩
theorem Ofg.trans {g:Nat}{A B C:World}(h:Ofg g A B)(k:Ofg g B C):Ofg g A C:=⟨co_ h.le k.le,fun b hb hg=>(k.bl b (bh_ hb h.le) hg).trans (h.bl b hb hg)⟩
def Ot (g:Nat)(W:World)(b:Nat):Prop:=b<W.heap.size∧b≠g
def put4 (W:World)(g o:Nat)(t:Ty)(a:OA_)(c:Nat):World :=
 (((W.setCell ⟨g,o,none⟩ (.int .i64 t.kind)).setCell ⟨g,o+1,none⟩ (.string t.name)).setCell ⟨g,o+2,none⟩ (.int .i64 t.n)).setCell ⟨g,o+3,none⟩ (.slice a t.args.length c)
section
variable {W W' : World} {g o : Nat} {t : Ty} {a : OA_} {c : Nat}
theorem put4_size:(put4 W g o t a c).heap.size=W.heap.size:=by unfold put4;simp
theorem put4_block (b:Nat)(h:b≠g):(put4 W g o t a c).heap[b]? = W.heap[b]? := by
 unfold put4
 rw[aC_ _ _ _ _ h,aC_ _ _ _ _ h,aC_ _ _ _ _ h,aC_ _ _ _ _ h]
theorem put4_off:Ofg g W (put4 W g o t a c):=⟨by rw[put4_size];exact aA_ _,fun b _ h=>put4_block b h⟩
theorem put4_below {B:Nat}{A:World}(h:Below B A W)(hg:B≤g):Below B A (put4 W g o t a c):=(((h.setCell hg _).setCell hg _).setCell hg _).setCell hg _
theorem put4_frozen (x:Addr):(put4 W g o t a c).frozen? x=W.frozen? x:=by unfold put4;simp
theorem ad_ne {g x y:Nat}(h:x≠y):(⟨g,x,none⟩:Addr)≠⟨g,y,none⟩:=fun e=>h (by injection e)
theorem cso {W:World}{g x y:Nat}{u:Value}(h:x≠y):(W.setCell ⟨g,x,none⟩ u).cell? ⟨g,y,none⟩=W.cell? ⟨g,y,none⟩:=by
 first|exact World.cell?_setCell_other (ad_ne h)|exact World.cell?_setCell_other _ (ad_ne h)|exact World.cell?_setCell_other _ _ (ad_ne h)|exact World.cell?_setCell_other _ _ _ (ad_ne h)|exact World.cell?_setCell_other _ _ _ _ (ad_ne h)
theorem css {W:World}{g x:Nat}{u v:Value}(h:W.cell? ⟨g,x,none⟩=some u):(W.setCell ⟨g,x,none⟩ v).cell? ⟨g,x,none⟩=some v:=by
 first|exact World.cell?_setCell_same h|exact World.cell?_setCell_same _ h|exact World.cell?_setCell_same _ _ h|exact World.cell?_setCell_same _ _ _ h
theorem put4_other {k:Nat}(h:k<o∨o+4≤k):(put4 W g o t a c).cell? ⟨g,k,none⟩=W.cell? ⟨g,k,none⟩ :=
 (cso (by omega)).trans ((cso (by omega)).trans ((cso (by omega)).trans (cso (by omega))))
theorem put4_same {u0 u1 u2 u3:Value}(h0:W.cell? ⟨g,o,none⟩=some u0)(h1:W.cell? ⟨g,o+1,none⟩=some u1)(h2:W.cell? ⟨g,o+2,none⟩=some u2)(h3:W.cell? ⟨g,o+3,none⟩=some u3) :
  (put4 W g o t a c).cell? ⟨g,o,none⟩=some (.int .i64 t.kind)∧(put4 W g o t a c).cell? ⟨g,o+1,none⟩=some (.string t.name)∧(put4 W g o t a c).cell? ⟨g,o+2,none⟩=some (.int .i64 t.n)∧(put4 W g o t a c).cell? ⟨g,o+3,none⟩=some (.slice a t.args.length c) :=
 ⟨(cso (by omega)).trans ((cso (by omega)).trans ((cso (by omega)).trans (css h0))),(cso (by omega)).trans ((cso (by omega)).trans (css ((cso (by omega)).trans h1))),
  (cso (by omega)).trans (css ((cso (by omega)).trans ((cso (by omega)).trans h2))),css ((cso (by omega)).trans ((cso (by omega)).trans ((cso (by omega)).trans h3)))⟩
end
theorem st1 {W:World}{g o:Nat}{x:Value}(h:W.cell? ⟨g,o+1,none⟩=some x)(u0:Value):(W.setCell ⟨g,o,none⟩ u0).cell? ⟨g,o+1,none⟩=some x:=(cso (by omega)).trans h
theorem st2 {W:World}{g o:Nat}{x:Value}(h:W.cell? ⟨g,o+2,none⟩=some x)(u0 u1:Value):((W.setCell ⟨g,o,none⟩ u0).setCell ⟨g,o+1,none⟩ u1).cell? ⟨g,o+2,none⟩=some x:=(cso (by omega)).trans ((cso (by omega)).trans h)
theorem st3 {W:World}{g o:Nat}{x:Value}(h:W.cell? ⟨g,o+3,none⟩=some x)(u0 u1 u2:Value):(((W.setCell ⟨g,o,none⟩ u0).setCell ⟨g,o+1,none⟩ u1).setCell ⟨g,o+2,none⟩ u2).cell? ⟨g,o+3,none⟩=some x:=(cso (by omega)).trans ((cso (by omega)).trans ((cso (by omega)).trans h))
def C4 (W:World)(g o:Nat)(t:Ty)(a:OA_)(c:Nat):Prop:=W.cell? ⟨g,o,none⟩=some (.int .i64 t.kind)∧W.cell? ⟨g,o+1,none⟩=some (.string t.name)∧W.cell? ⟨g,o+2,none⟩=some (.int .i64 t.n)∧W.cell? ⟨g,o+3,none⟩=some (.slice a t.args.length c)
structure Rw (g off:Nat)(W:World)(es:List EqT):Prop where
 lt:g<W.heap.size
 fz:∀ k,W.frozen? ⟨g,k,none⟩=false
 at_:∀ i (h:i<es.length),∃ xa xc ya yc,C4 W g (off+i*8) es[i].1 xa xc∧C4 W g (off+i*8+4) es[i].2 ya yc∧aa_ (Ot g W) W (.slice xa es[i].1.args.length xc) es[i].1.args∧aa_ (Ot g W) W (.slice ya es[i].2.args.length yc) es[i].2.args
section
variable {W W' : World} {g off : Nat} {es : List EqT}
theorem C4.blk {o:Nat}{t:Ty}{a:OA_}{c:Nat}(h:C4 W g o t a c)(e:W'.heap[g]? = W.heap[g]?):C4 W' g o t a c:=by
 exact⟨(World.cell?_of_block e).trans h.1,(World.cell?_of_block e).trans h.2.1,(World.cell?_of_block e).trans h.2.2.1,(World.cell?_of_block e).trans h.2.2.2⟩
theorem frozen_blk {x:Addr}(e:W'.heap[x.block]? = W.heap[x.block]?):W'.frozen? x=W.frozen? x:=by unfold World.frozen?;rw[e]
theorem Rw.low (h:Rw g off W es)(hb:Below W.heap.size W W'):Rw g off W' es:=by
 refine⟨bh_ h.lt hb.size,fun k=>by rw[frozen_blk (hb.block g h.lt)];exact h.fz k,fun i hi=>?_⟩
 obtain⟨xa,xc,ya,yc,h1,h2,h3,h4⟩:=h.at_ i hi
 exact⟨xa,xc,ya,yc,h1.blk (hb.block g h.lt),h2.blk (hb.block g h.lt),(h3.keep fun b hb'=>hb.block b hb'.1).mono fun b hb'=>⟨bh_ hb'.1 hb.size,hb'.2⟩,(h4.keep fun b hb'=>hb.block b hb'.1).mono fun b hb'=>⟨bh_ hb'.1 hb.size,hb'.2⟩⟩
theorem ot_put {o:Nat}{t:Ty}{a:OA_}{c:Nat}{y:Value}{ts:List Ty}(h:aa_ (Ot g W) W y ts):aa_ (Ot g (put4 W g o t a c)) (put4 W g o t a c) y ts :=
 (h.keep fun b hb=>put4_block b hb.2).mono fun b hb=>⟨by rw[put4_size];exact hb.1,hb.2⟩
theorem C4.far {o k:Nat}{t u:Ty}{a ua:OA_}{c uc:Nat}(h:C4 W g k u ua uc)(hk:k+4≤o∨o+4≤k):C4 (put4 W g o t a c) g k u ua uc:=by
 exact⟨(put4_other (by omega)).trans h.1,(put4_other (by omega)).trans h.2.1,(put4_other (by omega)).trans h.2.2.1,(put4_other (by omega)).trans h.2.2.2⟩
theorem Rw.set1 (h:Rw g off W es){i:Nat}(hi:i<es.length){t:Ty}{a:OA_}{c:Nat}(hA:aa_ (Ot g W) W (.slice a t.args.length c) t.args):Rw g off (put4 W g (off+i*8) t a c) (es.set i (t,es[i].2)):=by
 refine⟨by rw[put4_size];exact h.lt,fun k=>by rw[put4_frozen];exact h.fz k,fun j hj=>?_⟩
 rw[List.length_set] at hj
 obtain⟨xa,xc,ya,yc,h1,h2,h3,h4⟩:=h.at_ j hj
 by_cases e:i=j
 ·subst e
  rw[List.getElem_set_self]
  exact⟨a,c,ya,yc,put4_same h1.1 h1.2.1 h1.2.2.1 h1.2.2.2,h2.far (by omega),ot_put hA,ot_put h4⟩
 ·rw[List.getElem_set_ne e]
  exact⟨xa,xc,ya,yc,h1.far (by omega),h2.far (by omega),ot_put h3,ot_put h4⟩
theorem Rw.set2 (h:Rw g off W es){i:Nat}(hi:i<es.length){t:Ty}{a:OA_}{c:Nat}(hA:aa_ (Ot g W) W (.slice a t.args.length c) t.args):Rw g off (put4 W g (off+i*8+4) t a c) (es.set i (es[i].1,t)):=by
 refine⟨by rw[put4_size];exact h.lt,fun k=>by rw[put4_frozen];exact h.fz k,fun j hj=>?_⟩
 rw[List.length_set] at hj
 obtain⟨xa,xc,ya,yc,h1,h2,h3,h4⟩:=h.at_ j hj
 by_cases e:i=j
 ·subst e
  rw[List.getElem_set_self]
  exact⟨xa,xc,a,c,h1.far (by omega),put4_same h2.1 h2.2.1 h2.2.2.1 h2.2.2.2,ot_put h3,ot_put hA⟩
 ·rw[List.getElem_set_ne e]
  exact⟨xa,xc,ya,yc,h1.far (by omega),h2.far (by omega),ot_put h3,ot_put h4⟩
theorem Rw.of {S:Nat→Prop}{lo:Nat}{v:Value}{ps:List (Value × Value)}(h:f6_ S lo W v es ps)(hl:es.length≤1000000000000)(hn:0<es.length)(hS:∀ b,S b→b<W.heap.size∧v.ownBlock≠some b):∃ g off cap,v=.slice (some ⟨g,off,none⟩) es.length cap∧lo≤g∧Rw g off W es:=by
 obtain⟨a,cap,e,_,hc⟩:=h.eqs hl
 obtain⟨b,off,rfl,hb,hc⟩:=hc.resolve_left (by intro e;rw[e] at hn;simp at hn)
 have hlt:=h.own.lt b hb
 rcases h.own.2 with ⟨_,h0⟩|⟨g,cap',cur,hv,_,hg,_⟩
 ·omega
 ·have hgb:g=b:=by rw[hv] at hb;simpa [Value.ownBlock] using hb
  subst hgb
  refine⟨g,off,cap,e,hlt.1,hlt.2,fun k=>by simp[World.frozen?,hg],fun i hi=>?_⟩
  obtain⟨xa,xc,ya,yc,h1,h2,h3⟩:=hc i hi
  exact⟨xa,xc,ya,yc,⟨h1 0 _ (by omega) rfl,h1 1 _ (by omega) rfl,h1 2 _ (by omega) rfl,h1 3 _ (by omega) rfl⟩,⟨h1 4 _ (by omega) rfl,h1 5 _ (by omega) rfl,h1 6 _ (by omega) rfl,h1 7 _ (by omega) rfl⟩,
   h2.mono fun b hb'=>⟨(hS b hb').1,fun e=>(hS b hb').2 (by rw[e];exact hb)⟩,h3.mono fun b hb'=>⟨(hS b hb').1,fun e=>(hS b hb').2 (by rw[e];exact hb)⟩⟩
theorem Rw.row (h:Rw g off W es)(hl:es.length≤1000000000000){cap:Nat} : pZ_ W (.slice (some ⟨g,off,none⟩) es.length cap) es:=by
 refine⟨_,cap,rfl,hl,.inr ⟨g,off,rfl,h.lt,fun i hi=>?_⟩⟩
 obtain⟨xa,xc,ya,yc,h1,h2,h3,h4⟩:=h.at_ i hi
 refine⟨xa,xc,ya,yc,fun j u hj hu=>?_,h3.mono fun b hb=>hb.1,h4.mono fun b hb=>hb.1⟩
 match j,hj with
 | 0,_=>injection hu with hu;subst hu;exact h1.1
 | 1,_=>injection hu with hu;subst hu;exact h1.2.1
 | 2,_=>injection hu with hu;subst hu;exact h1.2.2.1
 | 3,_=>injection hu with hu;subst hu;exact h1.2.2.2
 | 4,_=>injection hu with hu;subst hu;exact h2.1
 | 5,_=>injection hu with hu;subst hu;exact h2.2.1
 | 6,_=>injection hu with hu;subst hu;exact h2.2.2.1
 | 7,_=>injection hu with hu;subst hu;exact h2.2.2.2
end
theorem ints_more (ty:TypeId){wi wy:World}{lo lo2:Nat}{v1 v2:Value}{l1 l2:List Int}(o1:wy.ownsRow lo 3 1 v1 l1.length (l1.map (Value.int .i64)))(o2:wy.ownsRow lo2 3 1 v2 l2.length (l2.map (Value.int .i64)))
  (hb:Below wi.heap.size wi wy) (hlo:wi.heap.size≤lo) (hlo1:lo≤wy.heap.size) (h1:l1.length≤1000000000) (h2:l2.length≤1000000000) {L:List Int} (hL:l1++l2=L) :
  ∃ v' w',(Builtin.append_ #[50,50] ty #[v1,v2]).run Tryz.prog wy=.ok v' w'∧w'.ownsRow wi.heap.size 3 1 v' L.length (L.map (Value.int .i64))∧Below wi.heap.size wi w':=by
 subst hL
 obtain⟨i0,hi0,hz3,hz1,hz2⟩:=info_parts nc_
 rcases o2.2 with ⟨rfl,h0⟩|⟨g,cap,cur,rfl,hg1,hg2,hg3⟩
 ·have e0:l2=[]:=List.eq_nil_of_length_eq_zero h0
  subst e0
  refine⟨v1,wy,run_append_owned_none (P:=Tryz.prog) (w:=wy) lo 50 ty 3 i0 1 Tryz.underlying50 hi0 v1 l1.length (l1.map (Value.int .i64)) o1,by rw[List.append_nil];exact eq_ o1 hlo,hb⟩
 ·have hc:=o2.cells (g:=g) rfl
  obtain⟨v',w',hr,ho,hgr,_⟩:=run_append_own (P:=Tryz.prog) wy lo 50 ty 3 i0 (.int .i64 0) 1 8 Tryz.underlying50 hi0 hz3 hz1 hz2 rfl (by decide) v1 l1.length (l1.map (Value.int .i64)) o1 ⟨g,0,none⟩ l2.length cap (l2.map (Value.int .i64)) (by simp) (fun j u hu=>hc j u hu) (fun u hu=>by obtain⟨x,_,rfl⟩:=List.mem_map.1 hu;rfl) (by unfold maxLen;omega) (by omega) hlo1
  refine⟨v',w',hr,?_,hb.grown hgr (by have:=hb.size;omega) fun k e=>by have:=(o1.lt k e).1;omega⟩
  rw[List.length_append,List.map_append];exact eq_ ho hlo
theorem ints_at {l:List Int}{v:Value}{lo:Nat}{w:World}(h:w.ownsRow lo 3 1 v l.length (l.map (Value.int .i64))){a:OA_}{c:Nat}(e:v=.slice a l.length c):∀ j (hj:j<l.length),∃ b,a=some ⟨b,0,none⟩∧lo≤b∧b<w.heap.size∧w.cell? ⟨b,j,none⟩=some (.int .i64 l[j]):=by
 intro j hj
 rcases h.2 with ⟨_,h0⟩|⟨g,cap,cur,hv,hg,hcur,_⟩
 ·omega
 ·rw[hv] at e
  injection e with e1 e2 e3
  subst e1
  have hc:=h.cells (g:=g) (by rw[hv];rfl) j (.int .i64 l[j]) (by rw[List.getElem?_map,List.getElem?_eq_getElem hj];rfl)
  have hadd:(⟨g,0,none⟩:Addr).add j=⟨g,j,none⟩:=by unfold Addr.add;split<;>simp_all
  rw[hadd] at hc
  exact⟨g,rfl,hg,World.block_lt_of_cell? _ _ hc,hc⟩
theorem Rw.one {W:World}{g off:Nat}{F:List EqT}(h:Rw g off W F){i:Nat}{e:EqT}(he:F[i]? = some e):∃ xa xc ya yc,C4 W g (off+i*8) e.1 xa xc∧C4 W g (off+i*8+4) e.2 ya yc∧aa_ (Ot g W) W (.slice xa e.1.args.length xc) e.1.args∧aa_ (Ot g W) W (.slice ya e.2.args.length yc) e.2.args:=by
 obtain⟨hi,rfl⟩:=List.getElem?_eq_some_iff.1 he
 exact h.at_ i hi
theorem Rw.put1 {W:World}{g off:Nat}{F:List EqT}(h:Rw g off W F){i:Nat}{e:EqT}(he:F[i]? = some e){t:Ty}{a:OA_}{c:Nat}(hA:aa_ (Ot g W) W (.slice a t.args.length c) t.args):Rw g off (put4 W g (off+i*8) t a c) (F.set i (t,e.2)):=by
 obtain⟨hi,rfl⟩:=List.getElem?_eq_some_iff.1 he
 exact h.set1 hi hA
theorem Rw.put2 {W:World}{g off:Nat}{F:List EqT}(h:Rw g off W F){i:Nat}{e:EqT}(he:F[i]? = some e){t:Ty}{a:OA_}{c:Nat}(hA:aa_ (Ot g W) W (.slice a t.args.length c) t.args):Rw g off (put4 W g (off+i*8+4) t a c) (F.set i (e.1,t)):=by
 obtain⟨hi,rfl⟩:=List.getElem?_eq_some_iff.1 he
 exact h.set2 hi hA
def rgF (es:List EqT)(i:Nat):List EqT:=(es.take i).map rgE++es.drop i
theorem rgF_len (es:List EqT)(i:Nat)(hi:i≤es.length):(rgF es i).length=es.length:=by
 unfold rgF;rw[List.length_append,List.length_map,List.length_take,List.length_drop];omega
theorem rgF_at {es:List EqT}{i:Nat}(hi:i<es.length):(rgF es i)[i]? = some es[i]:=by
 unfold rgF
 rw[List.getElem?_append_right (by rw[List.length_map,List.length_take];omega),List.length_map,List.length_take,show i - min i es.length=0 from by omega,List.getElem?_drop,List.getElem?_eq_getElem (by omega)]
 simp
theorem rgF_set {es:List EqT}{i:Nat}(hi:i<es.length):(rgF es i).set i (rgE es[i])=rgF es (i+1):=by
 unfold rgF
 rw[List.set_append_right _ _ (by rw[List.length_map,List.length_take];omega),List.length_map,List.length_take,show i - min i es.length=0 from by omega,List.drop_eq_getElem_cons hi,List.set_cons_zero,List.take_succ_eq_append_getElem hi,List.map_append,List.append_assoc]
 rfl
theorem rgF_zero (es:List EqT):rgF es 0=es:=rfl
theorem rgF_all (es:List EqT):rgF es es.length=es.map rgE:=by unfold rgF;rw[List.take_length,List.drop_length,List.append_nil]
def sameB (l:List EqT):Bool:=l.all fun e=>decide (aJ_ (rgE e).1=aJ_ (rgE e).2)
theorem sameB_take {es:List EqT}{i:Nat}(hi:i<es.length):sameB (es.take (i+1))=(sameB (es.take i)&&decide (aJ_ (rgE es[i]).1=aJ_ (rgE es[i]).2)):=by
 unfold sameB
 rw[List.take_succ_eq_append_getElem hi,List.all_append]
 simp
theorem sameB_iff (es:List EqT):sameB es=true↔∀ e∈es,aJ_ (rgE e).1=aJ_ (rgE e).2:=by
 unfold sameB
 rw[List.all_eq_true]
 exact⟨fun h e he=>of_decide_eq_true (h e he),fun h e he=>decide_eq_true (h e he)⟩
theorem cst_str (n:Nat):(⟨#[67]⟩:ByteArray)++ac_ (Lib.decDigits n)=cstN n:=by
 unfold cstN
 show ac_ [67]++ac_ _=_
 rw[br_]
 rfl
theorem rg_step (ms:List Int)(t:Ty){k:Nat}(hk:k<ms.length):rg (ms.take (k+1)) t=bp_ ms[k] (cst ms[k]) (rg (ms.take k) t):=by
 unfold rg
 rw[List.take_succ_eq_append_getElem hk,List.foldl_append]
 rfl
theorem metaAcc_len4:∀ (t:Ty) (out:List Int) (ns:List ByteArray),(cd_ aS_ t out ns).length≤out.length+t.size:=by
 intro t
 induction t using Ty.ind with
 | h t ih =>
  intro out ns
  rw[cw_,t.size_eq]
  have h1:(aS_ out t ns).length≤out.length+1:=by unfold aS_;split<;>simp
  have:∀ (l:List Ty) (out:List Int) (ns:List ByteArray),(∀ a∈l,∀ (out:List Int) (ns:List ByteArray),(cd_ aS_ a out ns).length≤out.length+a.size)→(bI_ aS_ l out ns).length≤out.length+ai_ l:=by
   intro l
   induction l with
   | nil=>intro out ns _;simp[bI_,ai_]
   | cons a l ihl =>
    intro out ns h
    rw[bI_,ai_]
    have:=ihl (cd_ aS_ a out ns) ns fun b hb=>h b (by simp[hb])
    have:=h a (by simp) out ns
    omega
  have:=this t.args (aS_ out t ns) (if t.kind=5 then t.name :: ns else ns) ih
  omega
theorem metas_len (t:Ty):(az_ t).length≤t.size:=by have:=metaAcc_len4 t [] [];simpa [az_] using this
end Go.Proofs.YtjecnionbjlncaaGreatDoor.Tp

namespace Go.Proofs.YtjecnionbjlncaaGreatDoor.Tp
open Go.RowKit Go.Sort
set_option maxRecDepth 100000 in
set_option maxHeartbeats 6400000 in
theorem unifyRigid_walk (v0:Value)(ls:List Ln)(w:World)(hL:lG_ w v0 ls)(hT:Tab w):Calls Tryz.prog 5 #[v0] w fun e w'=>e=.returned (.bool true)∧Below w.heap.size w w':=by
 have HT:=hid hT
 have RL_0:=hid hL
 clear hT hL
 go_enter Tryz.func5,Tryz.ntmps5
 have C:=hid (rL_ _ HT.out)
 go_wp2_with fail
 refine C.out.mono ?_
 rintro e w1 ⟨rfl,hB⟩
 clear C
 have RL_1:=hid (RL_0.out.low hB)
 have B_1:=hid (hB)
 clear hB RL_0
 have B_1s:Hid (w.heap.size≤w1.heap.size):=hid B_1.out.size
 have C:=hid (mn_ _ v0 ls RL_1.out)
 go_wp2_with fail
 refine C.out.mono ?_
 rintro e w2 ⟨hB,hres⟩
 clear C
 cases hq:c6_ ls with
 | none =>
  rw[hq] at hres
  subst hres
  clear hq
  have RL_2:=hid (RL_1.out.low hB)
  have B_2:=hid (B_1.out.trans (hB.mono B_1.out.size))
  clear hB RL_1 B_1
  go_wp2
  go_ret
  exact⟨rfl,B_2.out⟩
 | some es =>
  rw[hq] at hres
  obtain⟨v,u,ps,qs,rfl,hE⟩:=hres
  obtain⟨va,vc,rfl⟩:=aB_ hE.a.own
  obtain⟨ua,uc,rfl⟩:=aB_ hE.b.own
  have Ees:=hid (es_of hq)
  have HRW:Hid (es=[]∨∃ g off,va=some ⟨g,off,none⟩∧w1.heap.size≤g∧Rw g off w2 es):=hid (by
   by_cases h0:0<es.length
   ·obtain⟨g,off,cap,hv,hg,hr⟩:=Rw.of hE.a (by have:=Ees.out.ln;omega) h0 fun b hb=>⟨hb.2.1,hb.2.2.1⟩
    injection hv with hv _ _
    exact .inr ⟨g,off,hv,hg,hr⟩
   ·exact .inl (List.eq_nil_of_length_eq_zero (by omega)))
  clear hq hE
  have RL_2:=hid (RL_1.out.low hB)
  have B_2:=hid (B_1.out.trans (hB.mono B_1.out.size))
  clear RL_2
  have BW1:Hid (w.heap.size≤w1.heap.size):=hid B_1s.out
  have HL:Hid (es.length≤16):=hid Ees.out.ln
  go_wp2
  go_loopw [7,8] (fun av iv wr=>∃ i:Nat,iv=.int .i64 i∧i≤es.length∧av=.bool (sameB (es.take i))∧(es=[]∨∃ g off,va=some ⟨g,off,none⟩∧w.heap.size≤g∧Rw g off wr (rgF es i))∧Below w.heap.size w wr) (fun _ iv _=>es.length - (intOf iv).toNat)
  case atStart=>exact⟨0,rfl,Nat.zero_le _,rfl,HRW.out.imp id fun ⟨g,off,h1,h2,h3⟩=>⟨g,off,h1,co_ BW1.out h2,h3⟩,B_2.out⟩
  case round =>
   clear HRW
   obtain⟨i,rfl,hil,rfl,hrow,hBr⟩:=hrel
   have i0:(0:Int)≤(i:Int):=by omega
   have BR:=hid hBr
   have HROW:=hid hrow
   clear hBr hrow
   by_cases hi:i<es.length
   ·have i1:(i:Int)<(es.length:Int):=by omega
    have i2:(i:Int)<16:=by have:=HL.out;omega
    obtain⟨g,off,rfl,hg,hR⟩:=HROW.out.resolve_left (by intro e;rw[e] at hi;simp at hi)
    have FI:=hid (rgF_at hi)
    have FS:=hid (rgF_set hi)
    have SB:=hid (sameB_take hi)
    have FL:Hid ((rgF es i).length=es.length):=hid (rgF_len es i (by omega))
    have MS:=hid (ms_ok Ees.out (List.getElem_mem hi))
    have EN:=hid (es_ni Ees.out (List.getElem_mem hi) 0)
    have RL:=hid (rg_line Ees.out (List.getElem_mem hi))
    have QQ:=hid (Ees.out.ok _ (List.getElem_mem hi))
    generalize es[i]=x at *
    generalize rgF es i=F at *
    generalize sameB (es.take i)=av at *
    have HG:=hid hg
    obtain⟨xa,xc,ya,yc,h1,h2,h3,h4⟩:=hR.one FI.out
    have RW0:=hid hR
    have KK:Hid (∀ W:World,Below wr.heap.size wr W→C4 W g (off+i*8) x.1 xa xc∧C4 W g (off+i*8+4) x.2 ya yc):=hid fun W h=>⟨h1.blk (h.block g hR.lt),h2.blk (h.block g hR.lt)⟩
    have AL:Hid (AtW x.1 xa xc wr):=hid (h3.mono fun b hb=>hb.1)
    have AR:Hid (AtW x.2 ya yc wr):=hid (h4.mono fun b hb=>hb.1)
    have S1:=hid (EN.out.1.1.small (nM_ Ees.out (Nat.zero_le _)))
    have S2:=hid (EN.out.2.1.small (nM_ Ees.out (Nat.zero_le _)))
    have LM:Hid ((az_ x.1).length≤1000000000∧(az_ x.2).length≤1000000000):=hid ⟨by have:=metas_len x.1;have:=QQ.out.l.2.1;omega,by have:=metas_len x.2;have:=QQ.out.r.2.1;omega⟩
    obtain⟨ms,hms⟩:∃ ms,az_ x.1++az_ x.2=ms:=⟨_,rfl⟩
    have HMS:=hid hms
    have ML:Hid (ms.length≤300):=hid (by have:=metas_len x.1;have:=QQ.out.l.2.1;have:=metas_len x.2;have:=QQ.out.r.2.1;rw[← hms,List.length_append];omega)
    clear hg hR h1 h2 h3 h4 hms HROW
    go_upto_region 9 with fail
    go_cut [9] from 31 to 43 (fun s wx=>∃ (a:OA_) (c:Nat),s=.slice a ms.length c∧wx.ownsRow wr.heap.size 3 1 s ms.length (ms.map (Value.int .i64))∧Below wr.heap.size wr wx)
    case first =>
     have HD:=hid ((Below.refl wr.heap.size wr).drew)
     have CF1:=hid (fun (W:World) (h:Below wr.heap.size wr W)=>m5_ (AL.out.low h) S1.out)
     have CF2:=hid (fun (W:World) (h:Below wr.heap.size wr W)=>m5_ (AR.out.low h) S2.out)
     have KD:Hid (∀ W:World,Below wr.heap.size wr W→(W.cell? ⟨g,off+i*8,none⟩=some (.int .i64 x.1.kind)∧W.cell? ⟨g,off+i*8+1,none⟩=some (.string x.1.name)∧W.cell? ⟨g,off+i*8+2,none⟩=some (.int .i64 x.1.n)∧W.cell? ⟨g,off+i*8+3,none⟩=some (.slice xa x.1.args.length xc))∧(W.cell? ⟨g,off+i*8+4,none⟩=some (.int .i64 x.2.kind)∧W.cell? ⟨g,off+i*8+5,none⟩=some (.string x.2.name)∧W.cell? ⟨g,off+i*8+6,none⟩=some (.int .i64 x.2.n)∧W.cell? ⟨g,off+i*8+7,none⟩=some (.slice ya x.2.args.length yc))):=hid (fun W h=>KK.out W h)
     have hkd:=KD.out _ HD.out
     try simp only[and_assoc] at hkd
     obtain⟨hk0,hk1,hk2,hk3,hk4,hk5,hk6,hk7⟩:=hkd
     go_region_held3 (fun w'=>(w'.cell? ⟨g,off+i*8,none⟩=some (.int .i64 x.1.kind)∧w'.cell? ⟨g,off+i*8+1,none⟩=some (.string x.1.name)∧w'.cell? ⟨g,off+i*8+2,none⟩=some (.int .i64 x.1.n)∧w'.cell? ⟨g,off+i*8+3,none⟩=some (.slice xa x.1.args.length xc))∧(w'.cell? ⟨g,off+i*8+4,none⟩=some (.int .i64 x.2.kind)∧w'.cell? ⟨g,off+i*8+5,none⟩=some (.string x.2.name)∧w'.cell? ⟨g,off+i*8+6,none⟩=some (.int .i64 x.2.n)∧w'.cell? ⟨g,off+i*8+7,none⟩=some (.slice ya x.2.args.length yc)))
      (first|(with_reducible exact KD.out _ HX3.out)|(with_reducible exact KD.out _ HX2.out)|(with_reducible exact KD.out _ HX1.out)|(with_reducible exact KD.out _ HD.out))
      (first
       | (go_at_call 19;(with_reducible refine (CF1.out _ HD.out).mono ?_);rintro e x1 ⟨v1,rfl,own1,len1,hb1⟩;obtain⟨za,zc,rfl⟩:=aB_ own1;have HX1:=hid (HD.out.trans (hb1.mono HD.out.size));have O1:=hid own1;clear hb1 own1 len1)
       | (go_at_call 19;(with_reducible refine (CF2.out _ HX1.out).mono ?_);rintro e x2 ⟨v2,rfl,own2,len2,hb2⟩;obtain⟨ta,tc,rfl⟩:=aB_ own2;have HX2:=hid (HX1.out.trans (hb2.mono HX1.out.size));have CA:=hid (fun ty=>ints_more ty (aH_ O1.out fun b hb=>hb2.block b (O1.out.lt b hb).2) own2 (wi:=wr) HX2.out (by simp) (by have:=hb2.size;have:=(HX1.out).size;simp at *;omega) LM.out.1 LM.out.2 HMS.out);clear hb2 own2 len2)
       | ((refine cX_ (by rfl) _ _ _ (by rfl) (by rfl) (by rfl) (CA.out _) ?_);rintro v3 x3 ⟨own3,hb3⟩;obtain⟨qa,qc,rfl⟩:=aB_ own3;have HX3:=hid hb3;have O3:=hid own3;clear own3 hb3))
     all_goals
      go_wp2_with fail
      go_meet
      exact⟨_,_,rfl,eq_ O3.out (by simp),HX3.out⟩
    obtain⟨qa,qc,rfl,hO,hB⟩:=hcut
    obtain⟨wm,hwm⟩:∃ wm:World,wm=wc:=⟨_,rfl⟩
    subst hwm
    have OI:=hid (ints_at hO rfl)
    have RWm:=hid (RW0.out.low hB)
    have BM:=hid (BR.out.trans (hB.mono BR.out.size))
    have GS:Hid (g<wr.heap.size):=hid RW0.out.lt
    have MK:Hid (∀ j (h:j<ms.length),∃ n:Nat,ms[j]=(n:Int)∧n<1000000):=hid fun j h=>by
     have hm:ms[j]∈msE x:=by unfold msE;rw[HMS.out];exact List.getElem_mem h
     have:=MS.out _ hm
     exact⟨ms[j].toNat,by omega,by omega⟩
    have FSET:Hid (F.set i x=F):=hid (by
     obtain⟨h,e⟩:=List.getElem?_eq_some_iff.1 FI.out
     rw[← e];exact List.set_getElem_self h)
    have RGN:Hid (∀ k,k≤ms.length→Ni (NLE es) 0 (rg (ms.take k) x.1)∧Ni (NLE es) 0 (rg (ms.take k) x.2)):=hid fun k _=>by
     have hm:∀ m∈ms.take k,0≤m∧m<1000000000000000000:=fun m h=>by
      have hm:m∈msE x:=by unfold msE;rw[HMS.out];exact List.mem_of_mem_take h
      have:=MS.out _ hm
      omega
     exact⟨(rg_ni _ _ EN.out.1.1 hm).1,(rg_ni _ _ EN.out.2.1 hm).1⟩
    clear hO hB RW0 AL AR KK
    go_wp2
    go_loopw [10] (fun kv wk=>∃ k:Nat,kv=.int .i64 k∧k≤ms.length∧Rw g off wk (F.set i (rg (ms.take k) x.1,rg (ms.take k) x.2))∧Ofg g wm wk∧Below w.heap.size w wk) (fun kv _=>ms.length - (intOf kv).toNat)
    case atStart=>exact⟨0,rfl,Nat.zero_le _,by rw[show (rg (ms.take 0) x.1,rg (ms.take 0) x.2)=x from rfl,FSET.out];exact RWm.out,Ofg.refl _ _,BM.out⟩
    case round =>
     obtain⟨k,rfl,hkl,hRw,hOf,hBk⟩:=hrel
     have k0:(0:Int)≤(k:Int):=by omega
     have RK:=hid hRw
     have OF:=hid hOf
     have BK:=hid hBk
     clear hRw hOf hBk
     by_cases hk:k<ms.length
     ·have k1:(k:Int)<(ms.length:Int):=by omega
      have k2:(k:Int)<300:=by have:=ML.out;omega
      obtain⟨n,hn,hn6⟩:=MK.out k hk
      obtain⟨b,rfl,hb1,hb2,hcm⟩:=OI.out k hk
      have ST1:=hid (rg_step ms x.1 hk)
      have ST2:=hid (rg_step ms x.2 hk)
      rw[hn] at hcm
      have HN:=hid hn
      have GB:Hid (b≠g∧b<wm.heap.size):=hid ⟨by have:=GS.out;omega,hb2⟩
      have CM:Hid (∀ W:World,Ofg g wm W→W.cell? ⟨b,k,none⟩=some (.int .i64 (n:Int))):=hid fun W h=>(World.cell?_of_block (h.bl b GB.out.2 GB.out.1)).trans hcm
      have NI1:=hid (RGN.out k (by omega))
      have NI2:=hid (RGN.out (k+1) (by omega))
      have FK:Hid ((F.set i (rg (ms.take k) x.1,rg (ms.take k) x.2))[i]? = some (rg (ms.take k) x.1,rg (ms.take k) x.2)):=hid (by
       obtain⟨h,_⟩:=List.getElem?_eq_some_iff.1 FI.out
       rw[List.getElem?_set_self h])
      clear hcm hb1 hb2 hn
      have c0:=CM.out _ OF.out
      have CD:=hid (gH_ n (by omega))
      go_wp2_with fail
      refine (CD.out _).mono ?_
      rintro e w5 ⟨rfl,hB5⟩
      have OF5:=hid (OF.out.trans (.of_below hB5))
      have RK5:=hid (RK.out.low hB5)
      have BK5:=hid (BK.out.trans (hB5.mono BK.out.size))
      clear hB5 c0 CD
      have s2:(ac_ (Lib.decDigits n)).size≤20:=by rw[a0_];exact gI_ _ (by omega)
      have HSC:Hid ((⟨#[67]⟩:ByteArray)++ac_ (Lib.decDigits n)=cstN n):=hid (cst_str n)
      generalize ac_ (Lib.decDigits n)=sb at *
      go_upto_region 14 with fail
      rw[HSC.out]
      have hZ:=av_ w5 (.cells #[.int .i64 3,.string (cstN n),.int .i64 0,.slice none 0 0] 37)
      have hK4:=B4.new w5 (.int .i64 3) (.string (cstN n)) (.int .i64 0) (.slice none 0 0)
      have GC:Hid (w5.heap.size≠g):=hid (by have:=RK5.out.lt;omega)
      have OF6:=hid (OF5.out.trans (.of_below hZ))
      have RK6:=hid (RK5.out.low hZ)
      have BK6:=hid (BK5.out.trans (hZ.mono BK5.out.size))
      have CB:=hid hK4
      clear hZ hK4 RK5 OF5 BK5 RK OF BK
      generalize (w5.alloc (.cells #[.int .i64 3,.string (cstN n),.int .i64 0,.slice none 0 0] 37))=wb at *
      generalize w5.heap.size=cb at *
      generalize rg (ms.take k) x.1=y at *
      generalize rg (ms.take k) x.2=z at *
      go_cut [] from 57 to 71 (fun wx=>Rw g off wx (F.set i (bp_ (n:Int) (cst (n:Int)) y,z))∧Ofg g wb wx∧Below w.heap.size w wx)
      case first =>
       have HD:=hid ((Below.refl wb.heap.size wb).drew)
       obtain⟨xa,xc,ya,yc,h1,h2,h3,h4⟩:=RK6.out.one FK.out
       have C1:=hid h1
       have A1_:=hid h3
       clear h1 h2 h3 h4
       have k0:=C1.out.1
       have k1_:=C1.out.2.1
       have k2_:=C1.out.2.2.1
       have k3:=C1.out.2.2.2
       have c0:=CM.out _ OF6.out
       obtain⟨e0,e1,e2,e3⟩:=CB.out.c03
       have NC:=hid (ni_cst (NL:=NLE es) (fr:=0) (m:=(n:Int)) (by omega) (by omega))
       have CF:Hid (∀ W:World,Below wb.heap.size wb W→Calls Tryz.prog 21 #[.agg #[.int .i64 y.kind,.string y.name,.int .i64 y.n,.slice xa y.args.length xc],.int .i64 (n:Int),.agg #[.int .i64 3,.string (cstN n),.int .i64 0,.slice none 0 0]] W (fun e W'=>∃ a c,e=.returned (.agg #[.int .i64 (bp_ (n:Int) (cst (n:Int)) y).kind,.string (bp_ (n:Int) (cst (n:Int)) y).name,.int .i64 (bp_ (n:Int) (cst (n:Int)) y).n,.slice a (bp_ (n:Int) (cst (n:Int)) y).args.length c])∧aa_ (New (Ot g wb) W W') W' (.slice a (bp_ (n:Int) (cst (n:Int)) y).args.length c) (bp_ (n:Int) (cst (n:Int)) y).args∧Below W.heap.size W W')):=hid fun W h=>fl_ (n:Int) (cst (n:Int)) y (Ot g wb) _ none _ 0 W NI1.out.1.gd NC.out.gd (by have:=(NI1.out.1.small (nM_ Ees.out (Nat.zero_le _))).2.1;omega) (by show (1:Nat)≤_;omega) (A1_.out.keep fun b hb=>h.block b hb.1) (.nil _ _) (fun b hb=>bh_ hb.1 h.size) (ah_ HT.out (BK6.out.trans (h.mono BK6.out.size)))
       go_region_with (go_at_call 21;(with_reducible refine (CF.out _ HD.out).mono ?_);rintro e x1 ⟨ta,tc,rfl,hA1,hb1⟩;have HX1:=hid (HD.out.trans (hb1.mono HD.out.size));have HA1:=hid hA1;have q0:=(C1.out.blk (HX1.out.block g RK6.out.lt)).1;have q1:=(C1.out.blk (HX1.out.block g RK6.out.lt)).2.1;have q2:=(C1.out.blk (HX1.out.block g RK6.out.lt)).2.2.1;have q3:=(C1.out.blk (HX1.out.block g RK6.out.lt)).2.2.2;have f0:=(RK6.out.low HX1.out).fz;have s1:=st1 q1;have s2:=st2 q2;have s3:=st3 q3;clear hA1 hb1)
       all_goals
        go_wp2_with fail
        go_meet
        have hW:=Rw.put1 (RK6.out.low HX1.out) FK.out (HA1.out.mono (S':=Ot g x1) fun b hb=>by
         rcases hb with hb|hb
         ·exact⟨bh_ hb.1 HX1.out.size,hb.2⟩
         ·exact⟨hb.2,by have h1:wb.heap.size≤b:=hb.1;have:=RK6.out.lt;omega⟩)
        rw[List.set_set] at hW
        exact⟨hW,(Ofg.of_below HX1.out).trans put4_off,put4_below (BK6.out.trans (HX1.out.mono BK6.out.size)) HG.out⟩
      obtain⟨hR7,hO7,hB7⟩:=hcut
      obtain⟨wx,hwx⟩:∃ wx:World,wx=wc:=⟨_,rfl⟩
      subst hwx
      have RK7:=hid hR7
      have OF7:=hid (OF6.out.trans hO7)
      have BK7:=hid hB7
      have CB7:Hid (B4 wx cb (.int .i64 3) (.string (cstN n)) (.int .i64 0) (.slice none 0 0)):=hid ((hO7.bl cb CB.out.lt GC.out).trans CB.out)
      have SN1:=hid (ST1.out.trans (by rw[HN.out]))
      have SN2:=hid (ST2.out.trans (by rw[HN.out]))
      clear hR7 hO7 hB7 RK6 OF6 BK6 CB ST1 ST2
      generalize bp_ (n:Int) (cst (n:Int)) y=y2 at *
      have FK7:Hid ((F.set i (y2,z))[i]? = some (y2,z)):=hid (by
       obtain⟨h,_⟩:=List.getElem?_eq_some_iff.1 FI.out
       rw[List.getElem?_set_self h])
      go_upto_region 15 with fail
      have HD:=hid ((Below.refl wx.heap.size wx).drew)
      obtain⟨xa,xc,ya,yc,h1,h2,h3,h4⟩:=RK7.out.one FK7.out
      have C2:=hid h2
      have A2_:=hid h4
      clear h1 h2 h3 h4
      have k0:=C2.out.1
      have k1_:=C2.out.2.1
      have k2_:=C2.out.2.2.1
      have k3:=C2.out.2.2.2
      have c0:=CM.out _ OF7.out
      obtain⟨e0,e1,e2,e3⟩:=CB7.out.c03
      have NC:=hid (ni_cst (NL:=NLE es) (fr:=0) (m:=(n:Int)) (by omega) (by omega))
      have CF:Hid (∀ W:World,Below wx.heap.size wx W→Calls Tryz.prog 21 #[.agg #[.int .i64 z.kind,.string z.name,.int .i64 z.n,.slice ya z.args.length yc],.int .i64 (n:Int),.agg #[.int .i64 3,.string (cstN n),.int .i64 0,.slice none 0 0]] W (fun e W'=>∃ a c,e=.returned (.agg #[.int .i64 (bp_ (n:Int) (cst (n:Int)) z).kind,.string (bp_ (n:Int) (cst (n:Int)) z).name,.int .i64 (bp_ (n:Int) (cst (n:Int)) z).n,.slice a (bp_ (n:Int) (cst (n:Int)) z).args.length c])∧aa_ (New (Ot g wx) W W') W' (.slice a (bp_ (n:Int) (cst (n:Int)) z).args.length c) (bp_ (n:Int) (cst (n:Int)) z).args∧Below W.heap.size W W')):=hid fun W h=>fl_ (n:Int) (cst (n:Int)) z (Ot g wx) _ none _ 0 W NI1.out.2.gd NC.out.gd (by have:=(NI1.out.2.small (nM_ Ees.out (Nat.zero_le _))).2.1;omega) (by show (1:Nat)≤_;omega) (A2_.out.keep fun b hb=>h.block b hb.1) (.nil _ _) (fun b hb=>bh_ hb.1 h.size) (ah_ HT.out (BK7.out.trans (h.mono BK7.out.size)))
      go_region_with (go_at_call 21;(with_reducible refine (CF.out _ HD.out).mono ?_);rintro e x1 ⟨ta,tc,rfl,hA1,hb1⟩;have HX1:=hid (HD.out.trans (hb1.mono HD.out.size));have HA1:=hid hA1;have q0:=(C2.out.blk (HX1.out.block g RK7.out.lt)).1;have q1:=(C2.out.blk (HX1.out.block g RK7.out.lt)).2.1;have q2:=(C2.out.blk (HX1.out.block g RK7.out.lt)).2.2.1;have q3:=(C2.out.blk (HX1.out.block g RK7.out.lt)).2.2.2;have f0:=(RK7.out.low HX1.out).fz;have s1:=st1 q1;have s2:=st2 q2;have s3:=st3 q3;clear hA1 hb1)
      all_goals
       have hW:=Rw.put2 (RK7.out.low HX1.out) FK7.out (HA1.out.mono (S':=Ot g x1) fun b hb=>by
        rcases hb with hb|hb
        ·exact⟨bh_ hb.1 HX1.out.size,hb.2⟩
        ·exact⟨hb.2,by have h1:wx.heap.size≤b:=hb.1;have:=RK7.out.lt;omega⟩)
       rw[List.set_set] at hW
       have RK8:=hid hW
       have OF8:Hid (Ofg g wm (put4 x1 g (off+i*8+4) (bp_ (n:Int) (cst (n:Int)) z) ta tc)):=hid (OF7.out.trans ((Ofg.of_below HX1.out).trans put4_off))
       have BK8:Hid (Below w.heap.size w (put4 x1 g (off+i*8+4) (bp_ (n:Int) (cst (n:Int)) z) ta tc)):=hid (put4_below (BK7.out.trans (HX1.out.mono BK7.out.size)) HG.out)
       clear hW
       go_wp2
       go_roundw
       case measure=>simp[intOf];omega
       case rel=>exact⟨k+1,by go_num,hk,by rw[SN1.out,SN2.out];exact RK8.out,OF8.out,BK8.out⟩
     ·obtain rfl:k=ms.length:=by omega
      have EX:Hid ((rg (ms.take ms.length) x.1,rg (ms.take ms.length) x.2)=rgE x):=hid (by unfold rgE msE;rw[HMS.out,List.take_length])
      have RK8:=RK.out
      rw[EX.out] at RK8
      have FK8:Hid ((F.set i (rgE x))[i]? = some (rgE x)):=hid (by
       obtain⟨h,_⟩:=List.getElem?_eq_some_iff.1 FI.out
       rw[List.getElem?_set_self h])
      obtain⟨xa,xc,ya,yc,h1,h2,h3,h4⟩:=RK8.one FK8.out
      have RK9:=hid RK8
      have KK:Hid (∀ W:World,Below wr.heap.size wr W→C4 W g (off+i*8) (rgE x).1 xa xc∧C4 W g (off+i*8+4) (rgE x).2 ya yc):=hid fun W h=>⟨h1.blk (h.block g RK9.out.lt),h2.blk (h.block g RK9.out.lt)⟩
      have AL:Hid (AtW (rgE x).1 xa xc wr):=hid (h3.mono fun b hb=>hb.1)
      have AR:Hid (AtW (rgE x).2 ya yc wr):=hid (h4.mono fun b hb=>hb.1)
      have S1':=hid (RL.out.1.ni.small (nM_ Ees.out (Nat.zero_le _)))
      have S2':=hid (RL.out.2.ni.small (nM_ Ees.out (Nat.zero_le _)))
      have RKE:Hid (Rw g off wr (rgF es (i+1))):=hid (by rw[← FS.out];exact RK8)
      clear RK8 h1 h2 h3 h4 RK OF OI EX
      generalize rgE x=e0 at *
      go_upto_region 16 with fail
      go_cut [12] from 87 to 97 (fun s wy=>s=.bool (decide (aJ_ e0.1=aJ_ e0.2))∧Below wr.heap.size wr wy)
      case first =>
       have HD:=hid ((Below.refl wr.heap.size wr).drew)
       have KD:Hid (∀ W:World,Below wr.heap.size wr W→(W.cell? ⟨g,off+i*8,none⟩=some (.int .i64 e0.1.kind)∧W.cell? ⟨g,off+i*8+1,none⟩=some (.string e0.1.name)∧W.cell? ⟨g,off+i*8+2,none⟩=some (.int .i64 e0.1.n)∧W.cell? ⟨g,off+i*8+3,none⟩=some (.slice xa e0.1.args.length xc))∧(W.cell? ⟨g,off+i*8+4,none⟩=some (.int .i64 e0.2.kind)∧W.cell? ⟨g,off+i*8+5,none⟩=some (.string e0.2.name)∧W.cell? ⟨g,off+i*8+6,none⟩=some (.int .i64 e0.2.n)∧W.cell? ⟨g,off+i*8+7,none⟩=some (.slice ya e0.2.args.length yc))):=hid (fun W h=>KK.out W h)
       have CS:=hid (fun (W:World) (h:Below wr.heap.size wr W)=>r4_ (AL.out.low h) (AR.out.low h) S1'.out S2'.out (ah_ HT.out (BK.out.trans (h.mono BK.out.size))))
       have hkd:=KD.out _ HD.out
       try simp only[and_assoc] at hkd
       obtain⟨hk0,hk1,hk2,hk3,hk4,hk5,hk6,hk7⟩:=hkd
       go_region_held3 (fun w'=>(w'.cell? ⟨g,off+i*8,none⟩=some (.int .i64 e0.1.kind)∧w'.cell? ⟨g,off+i*8+1,none⟩=some (.string e0.1.name)∧w'.cell? ⟨g,off+i*8+2,none⟩=some (.int .i64 e0.1.n)∧w'.cell? ⟨g,off+i*8+3,none⟩=some (.slice xa e0.1.args.length xc))∧(w'.cell? ⟨g,off+i*8+4,none⟩=some (.int .i64 e0.2.kind)∧w'.cell? ⟨g,off+i*8+5,none⟩=some (.string e0.2.name)∧w'.cell? ⟨g,off+i*8+6,none⟩=some (.int .i64 e0.2.n)∧w'.cell? ⟨g,off+i*8+7,none⟩=some (.slice ya e0.2.args.length yc)))
        (first|(with_reducible exact KD.out _ HX1.out)|(with_reducible exact KD.out _ HD.out))
        (first
         | (go_at_call 22;(with_reducible refine (CS.out _ HD.out).mono ?_);rintro e x3 ⟨rfl,hb3⟩;have HX1:=hid (HD.out.trans (hb3.mono HD.out.size));clear hb3))
       all_goals
        go_wp2_with fail
        go_meet
        exact⟨rfl,HX1.out⟩
      obtain⟨rfl,hBc⟩:=hcut
      have RKF:=hid (RKE.out.low hBc)
      have BKF:=hid (BK.out.trans (hBc.mono BK.out.size))
      clear hBc
      generalize decide (aJ_ e0.1=aJ_ e0.2)=dv at *
      have REL:Hid (∀ bv,bv=sameB (es.take (i+1))→∃ i',Value.int .i64 ((i:Int)+1)=.int .i64 ((i':Nat):Int)∧i'≤es.length∧Value.bool bv=.bool (sameB (es.take i'))∧(es=[]∨∃ g' off',some (⟨g,off,none⟩:Addr)=some ⟨g',off',none⟩∧w.heap.size≤g'∧Rw g' off' wc (rgF es i'))∧Below w.heap.size w wc):=hid fun bv hbv=>⟨i+1,by go_num,by omega,by rw[hbv],.inr ⟨g,off,rfl,HG.out,RKF.out⟩,BKF.out⟩
      cases av with
      | true =>
       go_wp2
       go_roundw
       case measure=>simp[intOf];omega
       case rel=>exact REL.out dv (by rw[SB.out];rfl)
      | false =>
       go_wp2
       go_roundw
       case measure=>simp[intOf];omega
       case rel=>exact REL.out false (by rw[SB.out];rfl)
   ·obtain rfl:i=es.length:=by omega
    rw[List.take_length]
    have hEs:pZ_ wr (.slice va es.length vc) (es.map rgE):=by
     rcases HROW.out with h|⟨g,off,h1,_,h3⟩
     ·rw[h];exact⟨va,vc,rfl,by simp,.inl rfl⟩
     ·rw[rgF_all] at h3
      have:=h3.row (by rw[List.length_map];have:=HL.out;omega) (cap:=vc)
      rw[List.length_map] at this
      rw[h1];exact this
    have RE:=hid hEs
    have HSM:Hid (∀ e∈es.map rgE,SmT e.1∧SmT e.2):=hid fun e he=>by
     obtain⟨x,hx,rfl⟩:=List.mem_map.1 he
     obtain⟨a,b⟩:=rg_line Ees.out hx
     exact⟨⟨a.ni.gd,nT_ (nM_ Ees.out (Nat.zero_le _)) a.ni.st ⟨a.ni.sz,a.ni.vn⟩⟩,b.ni.gd,nT_ (nM_ Ees.out (Nat.zero_le _)) b.ni.st ⟨b.ni.sz,b.ni.vn⟩⟩
    clear hEs HROW hi hil i0
    obtain⟨j,res,hj,hu,hcase⟩:=rig_all Ees.out
    have HCS:=hid hcase
    clear hcase
    have C:=hid (RE.out.call HSM.out (by rw[List.length_map];have:=HL.out;omega) (ah_ HT.out BR.out) hu (by omega))
    go_wp2_with fail
    refine C.out.mono ?_
    rintro e wz hun
    obtain⟨ka,kc,kR,er,rfl,_,hB,hk⟩:=jc_.form hun
    have BZ:=hid (BR.out.trans (hB.mono BR.out.size))
    have hc:kR=[]∧((er=0∧sameB es=true)∨er=40∧sameB es=false):=by
     rcases HCS.out with ⟨rfl,h⟩|⟨rfl,h⟩
     ·rcases hk with ⟨h1,h2⟩|⟨h1,_⟩
      ·injection h1 with h1;exact⟨h1.symm,.inl ⟨h2,(sameB_iff es).2 h⟩⟩
      ·cases h1
     ·rcases hk with ⟨h1,_⟩|⟨h1,h2⟩
      ·cases h1
      ·injection h1 with h1
       exact⟨h2,.inr ⟨h1.symm,by rw[← Bool.not_eq_true,sameB_iff];exact h⟩⟩
    clear C hun hB hk hu hj HCS
    obtain⟨rfl,⟨rfl,hs⟩|⟨rfl,hs⟩⟩:=hc
    all_goals
     rw[hs]
     go_wp2
     go_ret
     exact⟨rfl,BZ.out⟩
end Go.Proofs.YtjecnionbjlncaaGreatDoor.Tp

namespace Go.Proofs.YtjecnionbjlncaaGreatDoor.unifyRigid
open Go.ChangeShapes Go.WideShapes Go.ChangeAt Go.WideMaps Go.WideElems Go.RowKit
open Go.ChangeMaps (open_string shut_string)
open Tp (Tab sp_ qa_ s2_ own laidOut)

/-! ### the row's step, as the kit's worked example (a law over laid variables) has it -/
set_option linter.unusedVariables false in
set_option maxRecDepth 100000 in
theorem lifted (os : Os) (started : os.Started) (H : Type) (enc : TypeId × Value → H) :
    ReturnsInHanded {} Tryz.checked os 5 .any (fun w args => (Rows.unifyRigidSpec.pre enc Tryz.prog Tryz.f5 [] false w args ∧ laidMetH Tryz.prog sp_ w) ∧ sizedMet enc Tryz.prog Tryz.f5 (OpenSpec.ofChange Rows.unifyRigidSpec) false w args)
      (Rows.unifyRigidSpec.post enc Tryz.prog Tryz.f5 false true false false) := by
  refine returnsInHanded_of_change_and (C := Tryz.checked) (X := fun w _ => laidMetH Tryz.prog sp_ w) (fun _ _ _ hh h => h.of_heap hh) own started (by kernel_rfl) Tryz.func5
    (ChangeSpec.witness_shaped (enc := enc) (C := Tryz.checked) (os := os) (X := fun w _ => laidMetH Tryz.prog sp_ w) false (World.doorLaid Tryz.prog 400 os) #[.slice none 0 0] 8 rfl (World.shaped_of_RefB (by kernel_rfl) (by kernel_rfl)) (by kernel_rfl) (by kernel_rfl) (by kernel_rfl) (s2_ os _)) ?_
  intro W base args ds gs before hval0 hW _ _ hL _
  have hval : ∀ (j : Nat) t v, Tryz.f5.params[j]? = some t → args[j]? = some v → Value.okWide Tryz.prog W .any base t v := hval0
  have hW' := hW
  obtain ⟨p, q, hA0, hV, rfl, hfz, hnd⟩ := hW
  have hA : DataW.TrodAll enc Tryz.prog W 0 (fun _ => true) true Tryz.f5.params.toList args.toList ds p := hA0
  rw [Tryz.params5] at hA hval
  obtain ⟨v0, vs0, d0, ds0, p0, q0, hargs, rfl, rfl, h0, r0⟩ := trodAll_cons hA
  obtain ⟨rfl, rfl, rfl⟩ := trodAll_nil r0
  obtain rfl : args = #[v0] := by cases args; simp_all
  obtain ⟨rfl, rfl⟩ := trodVars_none hV
  have k0 := h0
  have lt0 : ∀ x ∈ p0, x.block < W.heap.size := by obtain ⟨m, hm⟩ := k0; exact DataW.trod_lt m _ _ _ hm
  obtain ⟨a0, w0⟩ := Tp.opnL (hval 0 22 v0 rfl rfl) h0
  clear hA0 hval0
  refine (Tp.unifyRigid_walk v0 a0 W w0 (qa_ hL)).mono fun e W' ⟨he, bel⟩ => ?_
  subst he
  exact ⟨_, rfl, _, _, _, [], _, [], hW', trodAll_mk1 (shut_bool Tryz.underlying4 _), (trodAll_cons_mk (Below.trod laidOut (by kernel_rfl) (of_decide_eq_true (by kernel_rfl)) k0 bel lt0) trodAll_mk0), rfl, bel.frame _, fun h => by cases h⟩

theorem row_holds : Rows.UnifyRigidSaid :=
  OpenClaim.holds_of_wide 5 Tryz.f5 rfl rfl rfl rfl rfl rfl rfl ⟨rfl, rfl, rfl, rfl, rfl⟩ rfl rfl rfl rfl rfl (by kernel_rfl) Tryz.func5 (by kernel_rfl)
    (of_decide_eq_true (by kernel_rfl)) (by unfold Func.isWrapper; first | (rw [if_pos (by decide +kernel)]; kernel_rfl) | (rw [if_neg (by decide +kernel)]; exact ⟨rfl, rfl⟩))
    (fun os started H enc _ => lifted os started H enc)

/-- THE STATEMENT: the row, tied to the program's text. -/
theorem proved : Rows.UnifyRigidCardSaid :=
  Claim7.holds_tied_plain_at .later [] [.data, .data, .data, .sentinel, .sentinel] true Rows.unifyRigidCard.stood.harness true
    row_holds (fun _ h => by cases h) (by kernel_rfl) (fun _ h => by cases h) unifyRigid_row_tie rfl ⟨rfl, rfl⟩ (by kernel_rfl) rfl
    (fun f fn hf hfn => by
      obtain rfl : f = 5 := Option.some.inj ((show Tryz.prog.funcNamed "savant/savantlaw04.UnifyRigid" = some 5 by kernel_rfl).symm.trans hf) |>.symm
      obtain rfl : fn = Tryz.f5 := (Option.some.inj (Tryz.func5.symm.trans hfn)).symm
      exact ⟨by kernel_rfl, fun j t ht => by
        rw [Tryz.params5] at ht
        have hm : t ∈ [22] := by simpa using Array.mem_of_getElem? ht
        have hall : ([22].all fun u => !Tryz.prog.wantsStandIn u) = true := by kernel_rfl
        exact (show Tryz.prog.wantsStandIn t = false by simpa using List.all_eq_true.1 hall t hm)⟩)
    (by kernel_rfl)
#print axioms proved
end Go.Proofs.YtjecnionbjlncaaGreatDoor.unifyRigid

/-
  What is told is the most general: whatever types for unknowns, without for alls, let the equations hold, let what is told hold; and then there is an answer: for every two lists of at most eight lines of at most 120 bytes a side, with at most 24 variables and unknowns in each; at anything else the law tells what its examples tell.
-/
import Derived.Test.YtjecnionbjlncaaGreatDoorP51
import Derived.Test.YtjecnionbjlncaaGreatDoorCards
import Derived.Test.YtjecnionbjlncaaGreatDoorTie
import Derived.SevenTiedAt

namespace Go.Proofs.YtjecnionbjlncaaGreatDoor.Tp
open Go.RowKit
def trn (es:List EqT):List EqT:=(es.map fun e=>(e.2,e.1)).reverse
theorem trn_len (es:List EqT):(trn es).length=es.length:=by unfold trn;simp
theorem trn_mem {es:List EqT}{e:EqT} : e∈trn es↔(e.2,e.1)∈es:=by
 unfold trn
 rw[List.mem_reverse,List.mem_map]
 constructor
 ·rintro ⟨x,hx,rfl⟩;exact hx
 ·intro h;exact⟨_,h,rfl⟩
theorem trn_get (es:List EqT){k i:Nat}(h:k+1+i=es.length)(hi:i<es.length):(trn es)[k]? = some (es[i].2,es[i].1):=by
 unfold trn
 rw[List.getElem?_reverse (by rw[List.length_map];omega),List.length_map,List.getElem?_map,show es.length - 1 - k=i from by omega,List.getElem?_eq_getElem hi]
 rfl
theorem trn_take {es:List EqT}{k i:Nat}(h:k+1+i=es.length)(hi:i<es.length):(trn es).take (k+1)=(trn es).take k++[(es[i].2,es[i].1)]:=by
 have hk:k<(trn es).length:=by rw[trn_len];omega
 rw[List.take_succ_eq_append_getElem hk,(List.getElem?_eq_some_iff.1 (trn_get es h hi)).2]
theorem sum_rev (l:List Nat):l.reverse.sum=l.sum:=by
 induction l with
 | nil=>rfl
 | cons x l ih=>rw[List.reverse_cons,List.sum_append,List.sum_cons,ih,List.sum_cons,List.sum_nil];omega
theorem Es.trn {es:List EqT}(E:Es es):Es (trn es):=by
 refine⟨fun e he=>?_,?_,by rw[trn_len];exact E.ln⟩
 ·have h:=E.ok _ (trn_mem.1 he)
  exact⟨h.r,h.l⟩
 ·have h:nsE (Tp.trn es)=nsE es:=by
   unfold nsE Tp.trn
   rw[List.map_reverse,sum_rev,List.map_map]
   congr 1
   exact List.map_congr_left fun e _=>Nat.add_comm _ _
  rw[h];exact E.ns
theorem trn_sol {es:List EqT}{f:Int→Ty} : (∀ e∈trn es,Sol f (dbE e))↔∀ e∈es,Sol f (dbE e):=by
 constructor
 ·intro h e he
  exact (h (e.2,e.1) (trn_mem.2 he)).symm
 ·intro h e he
  exact (h _ (trn_mem.1 he)).symm
theorem kd_same {es fs:List EqT}{K M:Kn}(D:Kd es K)(D':Kd fs M)(h:∀ f,(∀ e∈fs,Sol f (dbE e))↔∀ e∈es,Sol f (dbE e)):gq_ M=gq_ K:=by
 have k1:Ext (sg K) M:=(D'.gen _ D.ko.facts.pr).1 ((h _).2 ((D.gen _ D.ko.facts.pr).2 D.ko.facts.ext))
 have k2:Ext (sg M) K:=(D.gen _ D'.ko.facts.pr).1 ((h _).1 ((D'.gen _ D'.ko.facts.pr).2 D'.ko.facts.ext))
 have hs:=r2_ D'.ko.facts D.ko.facts D'.ori D.ori k2 k1
 unfold gq_
 rw[sq_ D'.ko D.ko hs]
 exact List.map_congr_left fun m _=>by rw[hs]
theorem trn_all {es:List EqT}(E:Es es):∃ j1 j2 r1 r2,j1≤100000000000∧j2≤100000000000∧f7_ 100 j1 es=some r1∧f7_ 100 j2 (trn es)=some r2∧((∃ a b,r1=.error a∧r2=.error b∧40≤a∧40≤b)∨∃ K,r1=.ok (gq_ K)∧r2=.ok (gq_ K)∧Kd es K):=by
 obtain⟨j1,r1,h1,u1,_,c1⟩:=uni_all E
 obtain⟨j2,r2,h2,u2,_,c2⟩:=uni_all E.trn
 refine⟨j1,j2,_,_,h1,h2,u1,u2,?_⟩
 rcases c1 with ⟨a,rfl,a1,_,na⟩|⟨K,rfl,D⟩
 ·rcases c2 with ⟨b,rfl,b1,_,nb⟩|⟨M,rfl,D'⟩
  ·exact .inl ⟨a,b,rfl,rfl,a1,b1⟩
  ·exact absurd (trn_sol.1 ((D'.gen _ D'.ko.facts.pr).2 D'.ko.facts.ext)) (na _ D'.ko.facts.pr)
 ·rcases c2 with ⟨b,rfl,b1,_,nb⟩|⟨M,rfl,D'⟩
  ·exact absurd (trn_sol.2 ((D.gen _ D.ko.facts.pr).2 D.ko.facts.ext)) (nb _ D.ko.facts.pr)
  ·refine .inr ⟨K,rfl,?_,D⟩
   show Except.ok (gq_ M)=_
   rw[kd_same D D' fun f=>trn_sol]
structure Two (R:Kn)(x:EqT):Prop where
 a1:s7_ R x.1
 a2:s7_ R x.2
 s1:a8_ (apF R x.1)
 s2:a8_ (apF R x.2)
 eq:aJ_ (apF R x.1)=aJ_ (apF R x.2)
theorem Two.swap {R:Kn}{x:EqT}(h:Two R x):Two R (x.2,x.1):=⟨h.a2,h.a1,h.s2,h.s1,h.eq.symm⟩
theorem Kd.two {es:List EqT}{K:Kn}(E:Es es)(D:Kd es K){e:EqT}(he:e∈es):Two (gq_ K) e:=by
 have hn:=es_ni E he 0
 obtain⟨a1,s1,_⟩:=D.ap E ⟨0,by omega,hn.1.1⟩ hn.1.2 (D.szE e he).1
 obtain⟨a2,s2,_⟩:=D.ap E ⟨0,by omega,hn.2.1⟩ hn.2.2 (D.szE e he).2
 exact⟨a1,a2,s1,s2,D.same E he⟩
def gvB (e:EqT):Bool:=decide (e.1.kind=2)&&decide (e.1.n<100000)&&!cr_ e.2
def gvE (e:EqT):List (Int × Ty):=if gvB e=true then [(e.1.n,e.2)] else []
def gvK (bs:List EqT):Kn:=bs.flatMap gvE
theorem gvK_take {bs:List EqT}{i:Nat}(h:i<bs.length):gvK (bs.take (i+1))=gvK (bs.take i)++gvE bs[i]:=by
 unfold gvK
 rw[List.take_succ_eq_append_getElem h,List.flatMap_append]
 simp
theorem gvE_len (e:EqT):(gvE e).length≤1:=by unfold gvE;split<;>simp
theorem gvK_len:∀ bs:List EqT,(gvK bs).length≤bs.length
 | []=>aA_ _
 | e :: bs=>by
  show (gvE e++gvK bs).length≤_
  rw[List.length_append,List.length_cons]
  have:=gvE_len e
  have:=gvK_len bs
  omega
theorem gvK_mem {bs:List EqT}{x:Int × Ty}(h:x∈gvK bs):∃ e∈bs,e.1.kind=2∧e.1.n<100000∧cr_ e.2=false∧x=(e.1.n,e.2):=by
 unfold gvK at h
 obtain⟨e,he,hx⟩:=List.mem_flatMap.1 h
 unfold gvE at hx
 split at hx
 ·next hg =>
  unfold gvB at hg
  rw[Bool.and_eq_true,Bool.and_eq_true,decide_eq_true_eq,decide_eq_true_eq,Bool.not_eq_true'] at hg
  exact⟨e,he,hg.1.1,hg.1.2,hg.2,List.mem_singleton.1 hx⟩
 ·cases hx
theorem lk_mem {R:Kn}{x:Int}{u:Ty}(h:lkK R x=some u):(x,u)∈R:=by
 unfold lkK at h
 cases hf:R.find? (fun y=>y.1==x) with
 | none=>rw[hf] at h;cases h
 | some y =>
  rw[hf] at h
  injection h with h
  have h1:=List.mem_of_find?_eq_some hf
  have h2:(y.1==x)=true:=List.find?_some (p:=fun y:Int × Ty=>y.1==x) hf
  rw[beq_iff_eq] at h2
  have:y=(x,u):=by rw[← h2,← h]
  rwa [this] at h1
theorem Ni.wide {NL NL':List ByteArray}{fr fr':Nat}{X:Ty}(h:Ni NL fr X)(hn:∀ s∈NL,s∈NL')(hf:fr≤fr'):Ni NL' fr' X :=
 ⟨h.st,h.gd,h.vn.imp fun t k=>⟨fun h1=>(k.1 h1).imp (hn _) fun ⟨j,hj,e⟩=>⟨j,by omega,e⟩,k.2⟩,h.sz⟩
structure Gv (es bs:List EqT):Prop where
 e:Es es
 b:Es bs
def NL2 (es bs:List EqT):List ByteArray:=NLE es++NLE bs
section
variable {es bs : List EqT}
theorem Gv.nlen (G:Gv es bs):(NL2 es bs).length+4000≤3000000:=by
 unfold NL2
 rw[List.length_append]
 have:=nL_ G.e
 have:=nL_ G.b
 omega
theorem Gv.nlok (G:Gv es bs):rO_ (NL2 es bs):=fun s hs=>by
 rcases List.mem_append.1 hs with h|h
 ·exact kO_ G.e s h
 ·exact kO_ G.b s h
theorem Gv.row (G:Gv es bs):∀ x∈gvK bs,(Ni (NL2 es bs) 0 x.2∧0≤x.1∧x.1≤1000000∧∀ m∈az_ x.2,m≤1000000)∧x.2.size≤120∧cr_ x.2=false:=by
 intro x hx
 obtain⟨e,he,h2,hn,hp,rfl⟩:=gvK_mem hx
 obtain⟨_,n2,m2⟩:=es_ni G.b he 0
 exact⟨⟨n2.wide (fun s hs=>List.mem_append.2 (.inr hs)) (Nat.zero_le _),((G.b.ok e he).l.1.1.k2 h2).2.2.1,by show e.1.n≤1000000;omega,m2⟩,(G.b.ok e he).r.2.1,hp⟩
theorem Gv.prf (G:Gv es bs):PrF (lkD (gvK bs)):=by
 intro m
 unfold lkD
 cases hl:lkK (gvK bs) m with
 | none=>exact r9_ m
 | some u =>
  obtain⟨⟨hn,_⟩,_,hp⟩:=G.row _ (lk_mem hl)
  have h5:=(jC_ u).1 hp
  have hd:dbT [] u=u:=ck_ u hn.st h5
  simp only
  have hv:=hn.vn
  rw[hd] at hv ⊢
  have hdw:=d8_ u [] hn.st
  rw[hd] at hdw
  have h6:=qg_ u hn.st
  exact (((hdw.and h5).and h6).and hv).imp fun t h=>⟨h.1.1.1,h.1.1.2,h.1.2,fun h1=>by
   rcases h.2.1 h1 with h|⟨j,hj,_⟩
   ·exact (G.nlok _ h).1
   ·omega⟩
theorem Gv.lksz (G:Gv es bs)(m:Int):(lkD (gvK bs) m).size≤120:=by
 unfold lkD
 cases hl:lkK (gvK bs) m with
 | none=>show 1≤120;omega
 | some u =>
  obtain⟨⟨hn,_⟩,hs,_⟩:=G.row _ (lk_mem hl)
  simp only
  rw[bL_ u hn.st];exact hs
theorem Gv.ap (G:Gv es bs){t:Ty}{fr:Nat}(hf:fr≤4000)(ht:Ni (NL2 es bs) fr t)(hm:∀ m∈az_ t,m≤1000000)(hz:(fl (lkD (gvK bs)) (dbT [] t)).size≤LIM) :
  s7_ (gvK bs) t∧a8_ (apF (gvK bs) t)∧Std (apF (gvK bs) t)∧rA_ (dbT [] (apF (gvK bs) t))∧dbT [] (apF (gvK bs) t)=fl (lkD (gvK bs)) (dbT [] t):=by
 have hall:∀ e∈gvK bs,Ni (NL2 es bs) 4000 e.2∧0≤e.1∧e.1≤1000000∧∀ m∈az_ e.2,m≤1000000:=fun e he=>by
  obtain⟨⟨a,b,c,d⟩,_⟩:=G.row e he
  exact⟨a.mono (Nat.zero_le _),b,c,d⟩
 obtain⟨a,b,c⟩:=ap_ok (B:=1000000) (by omega) (by omega) (by have:=gvK_len bs;have:=G.b.ln;omega) hall (ht.mono hf) hm hz G.nlen
 exact⟨a,b.small G.nlen,b.st,hA_ G.nlok b.vn,c⟩
theorem fl_size_c {f:Int→Ty}{c:Nat}(hf:∀ m,(f m).size≤c):∀ t:Ty,(fl f t).size≤t.size*c:=by
 intro t
 induction t using Ty.ind with
 | h t ih =>
  by_cases h2:t.kind=2
  ·rw[a7_ _ h2]
   exact co_ (hf _) (Nat.le_mul_of_pos_left _ (ej_ t))
  ·rw[fj_ h2,t.size_eq]
   have hc:1≤c:=co_ (ej_ (f 0)) (hf 0)
   have:∀ l:List Ty,(∀ a∈l,a∈t.args)→ai_ (l.map (fl f))≤ai_ l*c:=by
    intro l
    induction l with
    | nil=>intro _;exact Nat.zero_le _
    | cons a l ihl =>
     intro h
     rw[List.map_cons,ai_,ai_,Nat.add_mul]
     have:=ih a (h a (by simp))
     have:=ihl fun b hb=>h b (by simp[hb])
     omega
   have:=this t.args fun _ h=>h
   rw[Nat.add_mul]
   omega
theorem Gv.line (G:Gv es bs){e:EqT}(he:e∈es):s7_ (gvK bs) e.1∧s7_ (gvK bs) e.2∧a8_ (apF (gvK bs) e.1)∧a8_ (apF (gvK bs) e.2)∧(aJ_ (apF (gvK bs) e.1)=aJ_ (apF (gvK bs) e.2)↔Sol (lkD (gvK bs)) (dbE e)):=by
 have hq:=G.e.ok e he
 obtain⟨⟨n1,m1⟩,n2,m2⟩:=es_ni G.e he 0
 have hw:∀ s∈NLE es,s∈NL2 es bs:=fun s hs=>List.mem_append.2 (.inl hs)
 have hz:∀ t:Ty,Std t→t.size≤120→(fl (lkD (gvK bs)) (dbT [] t)).size≤LIM:=fun t hs ht=>by
  have h1:=fl_size_c G.lksz (dbT [] t)
  rw[bL_ t hs] at h1
  have:t.size*120≤120*120:=Nat.mul_le_mul_right _ ht
  unfold LIM
  omega
 obtain⟨a1,s1,t1,l1,d1⟩:=G.ap (Nat.zero_le _) (n1.wide hw (aA_ 0)) m1 (hz _ hq.l.1.1 hq.l.2.1)
 obtain⟨a2,s2,t2,l2,d2⟩:=G.ap (Nat.zero_le _) (n2.wide hw (aA_ 0)) m2 (hz _ hq.r.1.1 hq.r.2.1)
 refine⟨a1,a2,s1,s2,?_⟩
 rw[fT_ t1 t2 l1 l2,d1,d2]
 exact Iff.rfl
theorem Gv.best (G:Gv es bs)(h:∀ e∈es,aJ_ (apF (gvK bs) e.1)=aJ_ (apF (gvK bs) e.2)):(∀ f,PrF f→¬ ∀ e∈es,Sol f (dbE e))→False:=fun hn =>
 hn _ G.prf fun e he=>(G.line he).2.2.2.2.1 (h e he)
theorem Gv.told (G:Gv es bs)(h:∀ e∈es,aJ_ (apF (gvK bs) e.1)=aJ_ (apF (gvK bs) e.2)){K:Kn}(D:Kd es K){x:Int × Ty}(hx:x∈gq_ K) :
  s7_ (gvK bs) (mt x.1)∧s7_ (gvK bs) x.2∧a8_ (apF (gvK bs) (mt x.1))∧a8_ (apF (gvK bs) x.2)∧aJ_ (apF (gvK bs) (mt x.1))=aJ_ (apF (gvK bs) x.2):=by
 have hext:=(D.gen _ G.prf).1 fun e he=>(G.line he).2.2.2.2.1 (h e he)
 obtain⟨⟨fr,hf,hn⟩,h0,h1,e,_,hm⟩:=D.mem G.e x hx
 have hp:=(D.ko.facts.pr x.1).no5
 rw[← e] at hp
 have hd:=ck_ x.2 hn.st hp
 have hfx:fl (lkD (gvK bs)) (dbT [] x.2)=lkD (gvK bs) x.1:=by rw[hd,e];exact hext x.1
 have hw:∀ s∈NLE es,s∈NL2 es bs:=fun s hs=>List.mem_append.2 (.inl hs)
 have hsz:=G.lksz x.1
 obtain⟨a1,s1,t1,l1,d1⟩:=G.ap (t:=mt x.1) (Nat.zero_le _) (ni_mt h0 (by omega)) (fun m hm=>by
  have:=(f0_ (dw_mt x.1)).1 hm
  rw[ox_] at this
  split at this
  ·next e=>omega
  ·exact absurd rfl this) (by rw[show dbT [] (mt x.1)=mt x.1 from rfl,cH_];unfold LIM;omega)
 obtain⟨a2,s2,t2,l2,d2⟩:=G.ap hf (hn.wide hw (aA_ fr)) hm (by rw[hfx];unfold LIM;omega)
 refine⟨a1,a2,s1,s2,?_⟩
 rw[fT_ t1 t2 l1 l2,d1,d2,hfx,show dbT [] (mt x.1)=mt x.1 from rfl,cH_]
theorem Gv.uni (G:Gv es bs)(h:∀ e∈es,aJ_ (apF (gvK bs) e.1)=aJ_ (apF (gvK bs) e.2)):∃ j K,j≤100000000000∧f7_ 100 j es=some (.ok (gq_ K))∧Kd es K:=by
 obtain⟨j,r,hj,hu,_,hc⟩:=uni_all G.e
 rcases hc with ⟨er,_,_,_,hn⟩|⟨K,rfl,hd⟩
 ·exact (G.best h hn).elim
 ·exact⟨j,K,hj,hu,hd⟩
theorem gvE_no {e:EqT}(h:¬ (e.1.kind=2∧e.1.n<100000∧cr_ e.2=false)):gvE e=[]:=by
 unfold gvE gvB
 rw[if_neg]
 rw[Bool.and_eq_true,Bool.and_eq_true,decide_eq_true_eq,decide_eq_true_eq,Bool.not_eq_true']
 exact fun hh=>h ⟨hh.1.1,hh.1.2,hh.2⟩
theorem gvE_yes {e:EqT}(h:e.1.kind=2∧e.1.n<100000∧cr_ e.2=false):gvE e=[(e.1.n,e.2)]:=by
 unfold gvE gvB
 rw[if_pos]
 rw[Bool.and_eq_true,Bool.and_eq_true,decide_eq_true_eq,decide_eq_true_eq,Bool.not_eq_true']
 exact⟨⟨h.1,h.2.1⟩,h.2.2⟩
end
end Go.Proofs.YtjecnionbjlncaaGreatDoor.Tp

namespace Go.Proofs.YtjecnionbjlncaaGreatDoor.Tp
open Go.RowKit Go.Sort
set_option maxRecDepth 100000 in
set_option maxHeartbeats 6400000 in
theorem unifyGeneral_walk (v0:Value)(ls:List Ln)(v1:Value)(ms:List Ln)(w:World)(hL:lG_ w v0 ls)(hM:lG_ w v1 ms)(hT:Tab w):Calls Tryz.prog 10 #[v0,v1] w fun e w'=>e=.returned (.bool true)∧Below w.heap.size w w':=by
 have HT:=hid hT
 have RL_0:=hid hL
 have RM_0:=hid hM
 clear hT hL hM
 go_enter Tryz.func10,Tryz.ntmps10
 have C:=hid (rL_ _ HT.out)
 go_wp2_with fail
 refine C.out.mono ?_
 rintro e w1 ⟨rfl,hB⟩
 clear C
 have RL_1:=hid (RL_0.out.low hB)
 have RM_1:=hid (RM_0.out.low hB)
 have B_1:=hid (hB)
 clear hB RL_0 RM_0
 have C:=hid (mn_ _ v0 ls RL_1.out)
 go_wp2_with fail
 refine C.out.mono ?_
 rintro e w2 ⟨hB,hres⟩
 clear C
 cases hq:c6_ ls with
 | none =>
  rw[hq] at hres
  subst hres
  clear hq
  have RL_2:=hid (RL_1.out.low hB)
  have RM_2:=hid (RM_1.out.low hB)
  have B_2:=hid (B_1.out.trans (hB.mono B_1.out.size))
  clear hB RL_1 RM_1 B_1
  clear RL_2
  have C:=hid (mn_ _ v1 ms RM_2.out)
  go_wp2_with fail
  refine C.out.mono ?_
  rintro e w3 ⟨hB,hres⟩
  clear C
  cases hq:c6_ ms with
  | none =>
   rw[hq] at hres
   subst hres
   clear hq
   have RM_3:=hid (RM_2.out.low hB)
   have B_3:=hid (B_2.out.trans (hB.mono B_2.out.size))
   clear hB RM_2 B_2
   go_wp2
   go_ret
   exact⟨rfl,B_3.out⟩
  | some bs =>
   rw[hq] at hres
   obtain⟨x,y,pt,qt,rfl,hE⟩:=hres
   obtain⟨xa,xc,rfl⟩:=aB_ hE.a.own
   obtain⟨ya,yc,rfl⟩:=aB_ hE.b.own
   have Ebs:=hid (es_of hq)
   have hEs:pZ_ w3 (.slice xa bs.length xc) bs:=hE.a.es (by have:=Ebs.out.ln;omega) fun b hb=>hb.2.1
   clear hq hE
   have RM_3:=hid (RM_2.out.low hB)
   have B_3:=hid (B_2.out.trans (hB.mono B_2.out.size))
   have RF_3:=hid hEs
   clear hB hEs RM_2 B_2
   go_wp2
   go_ret
   exact⟨rfl,B_3.out⟩
 | some es =>
  rw[hq] at hres
  obtain⟨v,u,ps,qs,rfl,hE⟩:=hres
  obtain⟨va,vc,rfl⟩:=aB_ hE.a.own
  obtain⟨ua,uc,rfl⟩:=aB_ hE.b.own
  have Ees:=hid (es_of hq)
  have hEs:pZ_ w2 (.slice va es.length vc) es:=hE.a.es (by have:=Ees.out.ln;omega) fun b hb=>hb.2.1
  clear hq hE
  have RL_2:=hid (RL_1.out.low hB)
  have RM_2:=hid (RM_1.out.low hB)
  have B_2:=hid (B_1.out.trans (hB.mono B_1.out.size))
  have RE_2:=hid hEs
  clear hB hEs RL_1 RM_1 B_1
  clear RL_2
  have C:=hid (mn_ _ v1 ms RM_2.out)
  go_wp2_with fail
  refine C.out.mono ?_
  rintro e w3 ⟨hB,hres⟩
  clear C
  cases hq:c6_ ms with
  | none =>
   rw[hq] at hres
   subst hres
   clear hq
   have RM_3:=hid (RM_2.out.low hB)
   have RE_3:=hid (RE_2.out.low hB)
   have B_3:=hid (B_2.out.trans (hB.mono B_2.out.size))
   clear hB RM_2 RE_2 B_2
   go_wp2
   go_ret
   exact⟨rfl,B_3.out⟩
  | some bs =>
   rw[hq] at hres
   obtain⟨x,y,pt,qt,rfl,hE⟩:=hres
   obtain⟨xa,xc,rfl⟩:=aB_ hE.a.own
   obtain⟨ya,yc,rfl⟩:=aB_ hE.b.own
   have Ebs:=hid (es_of hq)
   have hEs:pZ_ w3 (.slice xa bs.length xc) bs:=hE.a.es (by have:=Ebs.out.ln;omega) fun b hb=>hb.2.1
   clear hq hE
   have RM_3:=hid (RM_2.out.low hB)
   have RE_3:=hid (RE_2.out.low hB)
   have B_3:=hid (B_2.out.trans (hB.mono B_2.out.size))
   have RF_3:=hid hEs
   clear hB hEs RM_2 RE_2 B_2
   clear RM_3
   have G:=hid (⟨Ees.out,Ebs.out⟩:Gv es bs)
   have HLE:Hid (es.length≤16):=hid Ees.out.ln
   have HLB:Hid (bs.length≤16):=hid Ebs.out.ln
   go_wp2
   go_loopw [12,13] (fun sv iv wr=>∃ (i:Nat) (pp:List Value),iv=.int .i64 i∧i≤bs.length∧ez_ (Lt w3.heap.size) w3.heap.size wr sv (gvK (bs.take i)) pp∧Below w3.heap.size w3 wr) (fun _ iv _=>bs.length - (intOf iv).toNat)
   case atStart=>exact⟨0,[],rfl,Nat.zero_le _,ez_.nil _ _ _,Below.refl _ _⟩
   case round =>
    obtain⟨i,pp,rfl,hil,hE,hBr⟩:=hrel
    have i0:(0:Int)≤(i:Int):=by omega
    by_cases hi:i<bs.length
    ·have i1:(i:Int)<(bs.length:Int):=by omega
     have i2:(i:Int)<16:=by have:=HLB.out;omega
     have TK:=hid (gvK_take hi)
     have XN:=hid (es_ni Ebs.out (List.getElem_mem hi) 0)
     have HEL0:Hid ((gvK (bs.take i)).length≤16):=hid (by have:=gvK_len (bs.take i);rw[List.length_take] at this;have:=HLB.out;omega)
     generalize gvK (bs.take i)=F at *
     obtain⟨ba,bc,rfl⟩:=aB_ hE.own
     have HEL:Hid (F.length≤16):=HEL0
     obtain⟨b,off,xa,xc,ya,yc,rfl,hb,hl4,hr4,hAl,hAr⟩:=RF_3.out.one hi
     have KK:Hid (∀ W,Below w3.heap.size w3 W→∀ o,W.cell? ⟨b,o,none⟩=w3.cell? ⟨b,o,none⟩):=hid fun W h o=>World.cell?_of_block (h.block b hb)
     have BR:=hid hBr
     have AR:=hid hAr
     have KE:=hid hE
     have L4:=hid hl4
     have R4_:=hid hr4
     have OL:Hid (∀ q,(Value.slice ba F.length bc).ownBlock=some q→w3.heap.size≤q∧q<wr.heap.size):=hid fun q e=>hE.own.lt q e
     clear hE hBr hl4 hr4 hAl hAr hb
     generalize bs[i]=x at *
     have CP:=hid (poly_h (show AtW x.2 ya yc wr from (AR.out.keep fun b hb=>BR.out.block b hb).mono fun b hb=>bh_ hb BR.out.size) (XN.out.2.1.small (nM_ Ebs.out (Nat.zero_le _))))
     have d0:=(KK.out _ BR.out _).trans R4_.out.1
     have d1:=(KK.out _ BR.out _).trans R4_.out.2.1
     have d2:=(KK.out _ BR.out _).trans R4_.out.2.2.1
     have d3:=(KK.out _ BR.out _).trans R4_.out.2.2.2
     go_wp2_with fail
     refine CP.out.mono ?_
     rintro e w' ⟨rfl,hb5⟩
     have B5:=hid (BR.out.trans (hb5.mono BR.out.size))
     have BD:Hid (Below w3.heap.size w3 w'.drew):=hid B5.out.drew
     have KE5:Hid (ez_ (Lt w3.heap.size) w3.heap.size w' (.slice ba F.length bc) F pp):=hid (KE.out.keep (fun q e=>hb5.block q (OL.out q e).2) fun q e=>hb5.block q (bh_ e BR.out.size))
     clear hb5 d0 d1 d2 d3 CP KE
     have c0:=(KK.out _ B5.out _).trans L4.out.1
     have c2:=(KK.out _ B5.out _).trans L4.out.2.2.1
     by_cases hgv:x.1.kind=2∧x.1.n<100000∧cr_ x.2=false
     ·have TK2:=hid (TK.out.trans (by rw[gvE_yes hgv]))
      obtain⟨g1,g2,g3⟩:=hgv
      rw[g1] at c0
      rw[g3]
      have z2:decide (x.1.n<(100000:Int))=true:=decide_eq_true g2
      have d0:=(KK.out _ B5.out _).trans R4_.out.1
      have d1:=(KK.out _ B5.out _).trans R4_.out.2.1
      have d2:=(KK.out _ B5.out _).trans R4_.out.2.2.1
      have d3:=(KK.out _ B5.out _).trans R4_.out.2.2.2
      have ED:=hid (KE5.out.keep (w':=w'.drew) (fun _ _=>rfl) (fun _ _=>rfl))
      have pa:=ED.out.push (x:=(x.1.n,x.2)) BD.out.size (by have:=HEL.out;omega) (fun b h=>⟨bh_ h BD.out.size,fun e=>by have:=(OL.out b e).1;have h':b<w3.heap.size:=h;omega⟩) (AR.out.keep fun b hb=>BD.out.block b hb)
      rw[gO_] at pa
      have PA:=hid pa
      clear pa
      go_upto_region 12 with fail
      go_region_law (first
       | ((with_reducible show (if Region.wanted _ _=true then Oper.wp _ _ _ (World.drew (World.alloc _ _)) _ _ else _));refine cX_ (by rfl) _ _ _ (by rfl) (by rfl) (by rfl) PA.out ?_;rintro v9 w9 ⟨hr9,hg9,ho9,hl9⟩;have HR9:=hid hr9;have B9:=hid (BD.out.grown hg9 BD.out.size fun k e=>(OL.out k e).1);clear hr9 hg9 ho9 hl9 PA c0 c2 d0 d1 d2 d3))
      all_goals
       go_wp2
       go_roundw
       case measure=>simp[intOf];omega
       case rel=>exact⟨i+1,_,by go_num,by omega,by rw[TK2.out];exact HR9.out,B9.out⟩
     ·have TK2:=hid (TK.out.trans (by rw[gvE_no hgv,List.append_nil]))
      have KR:Hid (∃ i' pp',Value.int .i64 ((i:Int)+1)=.int .i64 ((i':Nat):Int)∧i'≤bs.length∧ez_ (Lt w3.heap.size) w3.heap.size w' (.slice ba F.length bc) (gvK (bs.take i')) pp'∧Below w3.heap.size w3 w'):=hid ⟨i+1,pp,by go_num,by omega,by rw[TK2.out];exact KE5.out,B5.out⟩
      by_cases g1:x.1.kind=2
      ·rw[g1] at c0
       by_cases g2:x.1.n<100000
       ·have z2:decide (x.1.n<(100000:Int))=true:=decide_eq_true g2
        have g3:cr_ x.2=true:=by
         cases hp:cr_ x.2 with
         | true=>rfl
         | false=>exact absurd ⟨g1,g2,hp⟩ hgv
        rw[g3]
        clear hgv
        go_wp2
        go_roundw
        case measure=>simp[intOf];omega
        case rel=>exact KR.out
       ·have z2:decide (x.1.n<(100000:Int))=false:=decide_eq_false g2
        clear hgv
        go_wp2
        go_roundw
        case measure=>simp[intOf];omega
        case rel=>exact KR.out
      ·have z1:(x.1.kind==(2:Int))=false:=beq_eq_false_iff_ne.2 g1
       have z2:decide (x.1.kind=(2:Int))=false:=decide_eq_false g1
       clear hgv
       go_wp2
       go_roundw
       case measure=>simp[intOf];omega
       case rel=>exact KR.out
    ·obtain rfl:i=bs.length:=by omega
     rw[List.take_length] at hE
     obtain⟨sa,sc,rfl⟩:=aB_ hE.own
     have hKs:jm_ wr (.slice sa (gvK bs).length sc) (gvK bs):=hE.ks fun b hb=>bh_ hb hBr.size
     have hB:=hBr
     clear hE hBr hi hil i0
     have RE_4:=hid (RE_3.out.low hB)
     have RF_4:=hid (RF_3.out.low hB)
     have B_4:=hid (B_3.out.trans (hB.mono B_3.out.size))
     have RS_4:=hid hKs
     clear hB hKs RE_3 RF_3 B_3
     clear RF_4
     obtain⟨wo,hwo⟩:∃ wo:World,wo=wr:=⟨_,rfl⟩
     subst hwo
     go_wp2
     go_loopw [15] (fun iv wr=>∃ i:Nat,iv=.int .i64 i∧i≤es.length∧(∀ j (h:j<es.length),j<i→aJ_ (apF (gvK bs) es[j].1)=aJ_ (apF (gvK bs) es[j].2))∧Below wo.heap.size wo wr) (fun iv _=>es.length - (intOf iv).toNat)
     case atStart=>exact⟨0,rfl,Nat.zero_le _,fun j _ h=>by omega,Below.refl _ _⟩
     case round =>
      obtain⟨i,rfl,hil,hall,hBr⟩:=hrel
      have i0:(0:Int)≤(i:Int):=by omega
      have BR:=hid (B_4.out.trans (hBr.mono B_4.out.size))
      have RE:=hid (RE_4.out.low hBr)
      have RS:=hid (RS_4.out.low hBr)
      have BW:=hid hBr
      have HALL:=hid hall
      clear hBr hall
      by_cases hi:i<es.length
      ·have i1:(i:Int)<(es.length:Int):=by omega
       have i2:(i:Int)<16:=by have:=HLE.out;omega
       obtain⟨b,off,xa,xc,ya,yc,rfl,hb,hl4,hr4,hAl,hAr⟩:=RE.out.one hi
       have T1:=hid (G.out.line (List.getElem_mem hi))
       have AL:=hid hAl
       have AR:=hid hAr
       have L4:=hid hl4
       have R4_:=hid hr4
       have HBL:=hid hb
       obtain⟨dv,hdv⟩:∃ dv,dv=decide (aJ_ (apF (gvK bs) es[i].1)=aJ_ (apF (gvK bs) es[i].2)):=⟨_,rfl⟩
       have HDV:=hid hdv
       have NX:Hid (dv=true→∀ j (h:j<es.length),j<i+1→aJ_ (apF (gvK bs) es[j].1)=aJ_ (apF (gvK bs) es[j].2)):=hid fun e j h hj=>by
        rcases Nat.lt_or_ge j i with h1|h1
        ·exact HALL.out j h h1
        ·obtain rfl:j=i:=by omega
         rw[hdv] at e
         exact of_decide_eq_true e
       clear hl4 hr4 hAl hAr hb hdv
       generalize es[i]=x at *
       go_upto_region 16 with fail
       go_cut [16] from 94 to 108 (fun s wx=>s=.bool (dv)∧Below wr.heap.size wr wx)
       case first =>
        have KD:Hid (∀ W:World,Below wr.heap.size wr W→(W.cell? ⟨b,off+i*8,none⟩=some (.int .i64 x.1.kind)∧W.cell? ⟨b,off+i*8+1,none⟩=some (.string x.1.name)∧W.cell? ⟨b,off+i*8+2,none⟩=some (.int .i64 x.1.n)∧W.cell? ⟨b,off+i*8+3,none⟩=some (.slice xa x.1.args.length xc))∧(W.cell? ⟨b,off+i*8+4,none⟩=some (.int .i64 x.2.kind)∧W.cell? ⟨b,off+i*8+5,none⟩=some (.string x.2.name)∧W.cell? ⟨b,off+i*8+6,none⟩=some (.int .i64 x.2.n)∧W.cell? ⟨b,off+i*8+7,none⟩=some (.slice ya x.2.args.length yc))):=hid (fun W h=>⟨⟨(World.cell?_of_block (h.block b HBL.out)).trans L4.out.1,(World.cell?_of_block (h.block b HBL.out)).trans L4.out.2.1,(World.cell?_of_block (h.block b HBL.out)).trans L4.out.2.2.1,(World.cell?_of_block (h.block b HBL.out)).trans L4.out.2.2.2⟩,(World.cell?_of_block (h.block b HBL.out)).trans R4_.out.1,(World.cell?_of_block (h.block b HBL.out)).trans R4_.out.2.1,(World.cell?_of_block (h.block b HBL.out)).trans R4_.out.2.2.1,(World.cell?_of_block (h.block b HBL.out)).trans R4_.out.2.2.2⟩)
        have HD:=hid ((Below.refl wr.heap.size wr).drew)
        have CA1:=hid (fun (W:World) (h:Below wr.heap.size wr W)=>apply_h (RS.out.low h) (AL.out.low h) T1.out.1 (ah_ HT.out (BR.out.trans (h.mono BR.out.size))))
        have CA2:=hid (fun (W:World) (h:Below wr.heap.size wr W)=>apply_h (RS.out.low h) (AR.out.low h) T1.out.2.1 (ah_ HT.out (BR.out.trans (h.mono BR.out.size))))
        have hkd:=KD.out _ HD.out
        try simp only[and_assoc] at hkd
        obtain⟨hk0,hk1,hk2,hk3,hk4,hk5,hk6,hk7⟩:=hkd
        go_region_held3 (fun w'=>(w'.cell? ⟨b,off+i*8,none⟩=some (.int .i64 x.1.kind)∧w'.cell? ⟨b,off+i*8+1,none⟩=some (.string x.1.name)∧w'.cell? ⟨b,off+i*8+2,none⟩=some (.int .i64 x.1.n)∧w'.cell? ⟨b,off+i*8+3,none⟩=some (.slice xa x.1.args.length xc))∧(w'.cell? ⟨b,off+i*8+4,none⟩=some (.int .i64 x.2.kind)∧w'.cell? ⟨b,off+i*8+5,none⟩=some (.string x.2.name)∧w'.cell? ⟨b,off+i*8+6,none⟩=some (.int .i64 x.2.n)∧w'.cell? ⟨b,off+i*8+7,none⟩=some (.slice ya x.2.args.length yc)))
         (first|(with_reducible exact KD.out _ HX3.out)|(with_reducible exact KD.out _ HX2.out)|(with_reducible exact KD.out _ HX1.out)|(with_reducible exact KD.out _ HD.out))
         (first
          | (go_at_call 28;(with_reducible refine (CA1.out _ HD.out).mono ?_);rintro e x1 ⟨b1,d1,rfl,hA1,hb1⟩;have HX1:=hid (HD.out.trans (hb1.mono HD.out.size));have HA1:=hid hA1;clear hA1 hb1)
          | (go_at_call 28;(with_reducible refine (CA2.out _ HX1.out).mono ?_);rintro e x2 ⟨b2,d2,rfl,hA2,hb2⟩;have HX2:=hid (HX1.out.trans (hb2.mono HX1.out.size));have CS:=hid (r4_ (HA1.out.low hb2) hA2 T1.out.2.2.1 T1.out.2.2.2.1 ((fun (W:World) (h:Below wr.heap.size wr W)=>ah_ HT.out (BR.out.trans (h.mono BR.out.size))) x2 HX2.out));clear hA2 hb2)
          | (go_at_call 22;(with_reducible refine CS.out.mono ?_);rintro e x3 ⟨rfl,hb3⟩;have HX3:=hid (HX2.out.trans (hb3.mono HX2.out.size));clear hb3))
        all_goals
         go_wp2_with fail
         go_meet
         exact⟨congrArg Value.bool (HDV.out.symm),HX3.out⟩
       obtain⟨rfl,hBc⟩:=hcut
       have BC:=hid (BW.out.trans (hBc.mono BW.out.size))
       have BE:=hid (BR.out.trans (hBc.mono BR.out.size))
       clear hBc
       cases dv with
       | true =>
        go_wp2
        go_roundw
        case measure=>simp[intOf];omega
        case rel=>exact⟨i+1,by go_num,by omega,NX.out rfl,BC.out⟩
       | false =>
        go_wp2
        go_ret
        exact⟨rfl,BE.out⟩
      ·obtain rfl:i=es.length:=by omega
       have HEQ:Hid (∀ e∈es,aJ_ (apF (gvK bs) e.1)=aJ_ (apF (gvK bs) e.2)):=hid fun e he=>by
        obtain⟨j,hj,rfl⟩:=List.getElem_of_mem he
        exact HALL.out j hj hj
       clear HALL hi hil i0
       have RE_5:=hid RE.out
       have RS_5:=hid RS.out
       have B_5:=hid BR.out
       clear RE RS BR BW RE_4 RS_4 B_4
       obtain⟨j,K,hj,hu,hd⟩:=G.out.uni HEQ.out
       have C:=hid (RE_5.out.call (fun e he=>(Ees.out.ok e he).sm) (by have:=Ees.out.ln;omega) (ah_ HT.out B_5.out) hu (by omega))
       go_wp2_with fail
       refine C.out.mono ?_
       rintro e w6 hun
       obtain⟨ka,kc,kR,er,rfl,hK,hB,hk⟩:=jc_.form hun
       clear C hun
       have RE_6:=hid (RE_5.out.low hB)
       have RS_6:=hid (RS_5.out.low hB)
       have B_6:=hid (B_5.out.trans (hB.mono B_5.out.size))
       have RK_6:=hid hK
       clear hB hK RE_5 RS_5 B_5
       obtain⟨rfl,rfl⟩:kR=gq_ K∧er=0:=by
        rcases hk with ⟨h1,h2⟩|⟨h1,_⟩
        ·injection h1 with h1;exact⟨h1.symm,h2⟩
        ·cases h1
       have D:=hid hd
       have HR:Hid ((gq_ K).length≤24):=hid (D.out.len Ees.out)
       clear hk hu hj hd
       go_wp2
       go_loopw [19] (fun iv wr=>∃ i:Nat,iv=.int .i64 i∧i≤(gq_ K).length∧Below w6.heap.size w6 wr) (fun iv _=>(gq_ K).length - (intOf iv).toNat)
       case atStart=>exact⟨0,rfl,Nat.zero_le _,Below.refl _ _⟩
       case round =>
        obtain⟨i,rfl,hil,hBr⟩:=hrel
        have i0:(0:Int)≤(i:Int):=by omega
        have BR:=hid (B_6.out.trans (hBr.mono B_6.out.size))
        have RS:=hid (RS_6.out.low hBr)
        have RK:=hid (RK_6.out.low hBr)
        have BW:=hid hBr
        clear hBr
        by_cases hi:i<(gq_ K).length
        ·have i1:(i:Int)<((gq_ K).length:Int):=by omega
         have i2:(i:Int)<24:=by have:=HR.out;omega
         obtain⟨b,off,xa,xc,rfl,hb,hc5,hAx⟩:=RK.out.at_ hi
         have T1:=hid (G.out.told HEQ.out D.out (List.getElem_mem hi))
         have AX:=hid hAx
         have C5:=hid hc5
         have HBL:=hid hb
         clear hc5 hAx hb
         generalize (gq_ K)[i]=x at *
         have AM:Hid (AtW (mt x.1) none 0 wr):=hid (.nil _ _)
         go_upto_region 25 with fail
         go_cut [20] from 125 to 140 (fun s wx=>s=.bool (true)∧Below wr.heap.size wr wx)
         case first =>
          have KD:Hid (∀ W:World,Below wr.heap.size wr W→(W.cell? ⟨b,off+i*5,none⟩=some (.int .i64 x.1))∧(W.cell? ⟨b,off+i*5+1,none⟩=some (.int .i64 x.2.kind)∧W.cell? ⟨b,off+i*5+2,none⟩=some (.string x.2.name)∧W.cell? ⟨b,off+i*5+3,none⟩=some (.int .i64 x.2.n)∧W.cell? ⟨b,off+i*5+4,none⟩=some (.slice xa x.2.args.length xc))):=hid (fun W h=>⟨(World.cell?_of_block (h.block b HBL.out)).trans C5.out.1,(World.cell?_of_block (h.block b HBL.out)).trans C5.out.2.1,(World.cell?_of_block (h.block b HBL.out)).trans C5.out.2.2.1,(World.cell?_of_block (h.block b HBL.out)).trans C5.out.2.2.2.1,(World.cell?_of_block (h.block b HBL.out)).trans C5.out.2.2.2.2⟩)
          have HD:=hid ((Below.refl wr.heap.size wr).drew)
          have CA1:Hid (∀ W:World,Below wr.heap.size wr W→Calls Tryz.prog 28 #[.slice sa (gvK bs).length sc,.agg #[.int .i64 2,.string ⟨#[]⟩,.int .i64 x.1,.slice none 0 0]] W (fV_ (apF (gvK bs) (mt x.1)) W)):=hid (fun (W:World) (h:Below wr.heap.size wr W)=>apply_h (RS.out.low h) (AM.out.low h) T1.out.1 (ah_ HT.out (BR.out.trans (h.mono BR.out.size))))
          have CA2:=hid (fun (W:World) (h:Below wr.heap.size wr W)=>apply_h (RS.out.low h) (AX.out.low h) T1.out.2.1 (ah_ HT.out (BR.out.trans (h.mono BR.out.size))))
          have hkd:=KD.out _ HD.out
          try simp only[and_assoc] at hkd
          obtain⟨hk0,hk1,hk2,hk3,hk4⟩:=hkd
          go_region_held3 (fun w'=>(w'.cell? ⟨b,off+i*5,none⟩=some (.int .i64 x.1))∧(w'.cell? ⟨b,off+i*5+1,none⟩=some (.int .i64 x.2.kind)∧w'.cell? ⟨b,off+i*5+2,none⟩=some (.string x.2.name)∧w'.cell? ⟨b,off+i*5+3,none⟩=some (.int .i64 x.2.n)∧w'.cell? ⟨b,off+i*5+4,none⟩=some (.slice xa x.2.args.length xc)))
           (first|(with_reducible exact KD.out _ HX3.out)|(with_reducible exact KD.out _ HX2.out)|(with_reducible exact KD.out _ HX1.out)|(with_reducible exact KD.out _ HD.out))
           (first
            | (go_at_call 28;(with_reducible refine (CA1.out _ HD.out).mono ?_);rintro e x1 ⟨b1,d1,rfl,hA1,hb1⟩;have HX1:=hid (HD.out.trans (hb1.mono HD.out.size));have HA1:=hid hA1;clear hA1 hb1)
            | (go_at_call 28;(with_reducible refine (CA2.out _ HX1.out).mono ?_);rintro e x2 ⟨b2,d2,rfl,hA2,hb2⟩;have HX2:=hid (HX1.out.trans (hb2.mono HX1.out.size));have CS:=hid (r4_ (HA1.out.low hb2) hA2 T1.out.2.2.1 T1.out.2.2.2.1 ((fun (W:World) (h:Below wr.heap.size wr W)=>ah_ HT.out (BR.out.trans (h.mono BR.out.size))) x2 HX2.out));clear hA2 hb2)
            | (go_at_call 22;(with_reducible refine CS.out.mono ?_);rintro e x3 ⟨rfl,hb3⟩;have HX3:=hid (HX2.out.trans (hb3.mono HX2.out.size));clear hb3))
          all_goals
           go_wp2_with fail
           go_meet
           exact⟨congrArg Value.bool ((decide_eq_true T1.out.2.2.2.2)),HX3.out⟩
         obtain⟨rfl,hBc⟩:=hcut
         have BC:=hid (BW.out.trans (hBc.mono BW.out.size))
         clear hBc
         go_wp2
         go_roundw
         case measure=>simp[intOf];omega
         case rel=>exact⟨i+1,by go_num,by omega,BC.out⟩
        ·obtain rfl:i=(gq_ K).length:=by omega
         clear hi hil i0
         go_wp2
         go_ret
         exact⟨rfl,BR.out⟩
end Go.Proofs.YtjecnionbjlncaaGreatDoor.Tp

namespace Go.Proofs.YtjecnionbjlncaaGreatDoor.unifyGeneral
open Go.ChangeShapes Go.WideShapes Go.ChangeAt Go.WideMaps Go.WideElems Go.RowKit
open Go.ChangeMaps (open_string shut_string)
open Tp (Tab sp_ qa_ s2_ own laidOut)

/-! ### the row's step, as the kit's worked example (a law over laid variables) has it -/
set_option linter.unusedVariables false in
set_option maxRecDepth 100000 in
theorem lifted (os : Os) (started : os.Started) (H : Type) (enc : TypeId × Value → H) :
    ReturnsInHanded {} Tryz.checked os 10 .any (fun w args => (Rows.unifyGeneralSpec.pre enc Tryz.prog Tryz.f10 [] false w args ∧ laidMetH Tryz.prog sp_ w) ∧ sizedMet enc Tryz.prog Tryz.f10 (OpenSpec.ofChange Rows.unifyGeneralSpec) false w args)
      (Rows.unifyGeneralSpec.post enc Tryz.prog Tryz.f10 false true false false) := by
  refine returnsInHanded_of_change_and (C := Tryz.checked) (X := fun w _ => laidMetH Tryz.prog sp_ w) (fun _ _ _ hh h => h.of_heap hh) own started (by kernel_rfl) Tryz.func10
    (ChangeSpec.witness_shaped (enc := enc) (C := Tryz.checked) (os := os) (X := fun w _ => laidMetH Tryz.prog sp_ w) false (World.doorLaid Tryz.prog 400 os) #[.slice none 0 0, .slice none 0 0] 8 rfl (World.shaped_of_RefB (by kernel_rfl) (by kernel_rfl)) (by kernel_rfl) (by kernel_rfl) (by kernel_rfl) (s2_ os _)) ?_
  intro W base args ds gs before hval0 hW _ _ hL _
  have hval : ∀ (j : Nat) t v, Tryz.f10.params[j]? = some t → args[j]? = some v → Value.okWide Tryz.prog W .any base t v := hval0
  have hW' := hW
  obtain ⟨p, q, hA0, hV, rfl, hfz, hnd⟩ := hW
  have hA : DataW.TrodAll enc Tryz.prog W 0 (fun _ => true) true Tryz.f10.params.toList args.toList ds p := hA0
  rw [Tryz.params10] at hA hval
  obtain ⟨v0, vs0, d0, ds0, p0, q0, hargs, rfl, rfl, h0, r0⟩ := trodAll_cons hA
  obtain ⟨v1, vs1, d1, ds1, p1, q1, rfl, rfl, rfl, h1, r1⟩ := trodAll_cons r0
  obtain ⟨rfl, rfl, rfl⟩ := trodAll_nil r1
  obtain rfl : args = #[v0, v1] := by cases args; simp_all
  obtain ⟨rfl, rfl⟩ := trodVars_none hV
  have k0 := h0
  have lt0 : ∀ x ∈ p0, x.block < W.heap.size := by obtain ⟨m, hm⟩ := k0; exact DataW.trod_lt m _ _ _ hm
  obtain ⟨a0, w0⟩ := Tp.opnL (hval 0 22 v0 rfl rfl) h0
  have k1 := h1
  have lt1 : ∀ x ∈ p1, x.block < W.heap.size := by obtain ⟨m, hm⟩ := k1; exact DataW.trod_lt m _ _ _ hm
  obtain ⟨a1, w1⟩ := Tp.opnL (hval 1 22 v1 rfl rfl) h1
  clear hA0 hval0
  refine (Tp.unifyGeneral_walk v0 a0 v1 a1 W w0 w1 (qa_ hL)).mono fun e W' ⟨he, bel⟩ => ?_
  subst he
  exact ⟨_, rfl, _, _, _, [], _, [], hW', trodAll_mk1 (shut_bool Tryz.underlying4 _), (trodAll_cons_mk (Below.trod laidOut (by kernel_rfl) (of_decide_eq_true (by kernel_rfl)) k0 bel lt0) (trodAll_cons_mk (Below.trod laidOut (by kernel_rfl) (of_decide_eq_true (by kernel_rfl)) k1 bel lt1) trodAll_mk0)), rfl, bel.frame _, fun h => by cases h⟩

theorem row_holds : Rows.UnifyGeneralSaid :=
  OpenClaim.holds_of_wide 10 Tryz.f10 rfl rfl rfl rfl rfl rfl rfl ⟨rfl, rfl, rfl, rfl, rfl⟩ rfl rfl rfl rfl rfl (by kernel_rfl) Tryz.func10 (by kernel_rfl)
    (of_decide_eq_true (by kernel_rfl)) (by unfold Func.isWrapper; first | (rw [if_pos (by decide +kernel)]; kernel_rfl) | (rw [if_neg (by decide +kernel)]; exact ⟨rfl, rfl⟩))
    (fun os started H enc _ => lifted os started H enc)

/-- THE STATEMENT: the row, tied to the program's text. -/
theorem proved : Rows.UnifyGeneralCardSaid :=
  Claim7.holds_tied_plain_at .later [] [.data, .data, .data, .sentinel, .sentinel] true Rows.unifyGeneralCard.stood.harness true
    row_holds (fun _ h => by cases h) (by kernel_rfl) (fun _ h => by cases h) unifyGeneral_row_tie rfl ⟨rfl, rfl⟩ (by kernel_rfl) rfl
    (fun f fn hf hfn => by
      obtain rfl : f = 10 := Option.some.inj ((show Tryz.prog.funcNamed "savant/savantlaw04.UnifyGeneral" = some 10 by kernel_rfl).symm.trans hf) |>.symm
      obtain rfl : fn = Tryz.f10 := (Option.some.inj (Tryz.func10.symm.trans hfn)).symm
      exact ⟨by kernel_rfl, fun j t ht => by
        rw [Tryz.params10] at ht
        have hm : t ∈ [22, 22] := by simpa using Array.mem_of_getElem? ht
        have hall : ([22, 22].all fun u => !Tryz.prog.wantsStandIn u) = true := by kernel_rfl
        exact (show Tryz.prog.wantsStandIn t = false by simpa using List.all_eq_true.1 hall t hm)⟩)
    (by kernel_rfl)
#print axioms proved
end Go.Proofs.YtjecnionbjlncaaGreatDoor.unifyGeneral

/-
  Whether there is an answer does not hang on the order of equations, nor on their sides; the answers solve one another's equations: for every list of at most eight lines of at most 120 bytes a side, with at most 24 variables and unknowns in all; at anything else the law tells what its examples tell.
-/
import Derived.Test.YtjecnionbjlncaaGreatDoorP51
import Derived.Test.YtjecnionbjlncaaGreatDoorCards
import Derived.Test.YtjecnionbjlncaaGreatDoorTie
import Derived.SevenTiedAt

namespace Go.Proofs.YtjecnionbjlncaaGreatDoor.Tp
open Go.RowKit
def trn (es:List EqT):List EqT:=(es.map fun e=>(e.2,e.1)).reverse
theorem trn_len (es:List EqT):(trn es).length=es.length:=by unfold trn;simp
theorem trn_mem {es:List EqT}{e:EqT} : e∈trn es↔(e.2,e.1)∈es:=by
 unfold trn
 rw[List.mem_reverse,List.mem_map]
 constructor
 ·rintro ⟨x,hx,rfl⟩;exact hx
 ·intro h;exact⟨_,h,rfl⟩
theorem trn_get (es:List EqT){k i:Nat}(h:k+1+i=es.length)(hi:i<es.length):(trn es)[k]? = some (es[i].2,es[i].1):=by
 unfold trn
 rw[List.getElem?_reverse (by rw[List.length_map];omega),List.length_map,List.getElem?_map,show es.length - 1 - k=i from by omega,List.getElem?_eq_getElem hi]
 rfl
theorem trn_take {es:List EqT}{k i:Nat}(h:k+1+i=es.length)(hi:i<es.length):(trn es).take (k+1)=(trn es).take k++[(es[i].2,es[i].1)]:=by
 have hk:k<(trn es).length:=by rw[trn_len];omega
 rw[List.take_succ_eq_append_getElem hk,(List.getElem?_eq_some_iff.1 (trn_get es h hi)).2]
theorem sum_rev (l:List Nat):l.reverse.sum=l.sum:=by
 induction l with
 | nil=>rfl
 | cons x l ih=>rw[List.reverse_cons,List.sum_append,List.sum_cons,ih,List.sum_cons,List.sum_nil];omega
theorem Es.trn {es:List EqT}(E:Es es):Es (trn es):=by
 refine⟨fun e he=>?_,?_,by rw[trn_len];exact E.ln⟩
 ·have h:=E.ok _ (trn_mem.1 he)
  exact⟨h.r,h.l⟩
 ·have h:nsE (Tp.trn es)=nsE es:=by
   unfold nsE Tp.trn
   rw[List.map_reverse,sum_rev,List.map_map]
   congr 1
   exact List.map_congr_left fun e _=>Nat.add_comm _ _
  rw[h];exact E.ns
theorem trn_sol {es:List EqT}{f:Int→Ty} : (∀ e∈trn es,Sol f (dbE e))↔∀ e∈es,Sol f (dbE e):=by
 constructor
 ·intro h e he
  exact (h (e.2,e.1) (trn_mem.2 he)).symm
 ·intro h e he
  exact (h _ (trn_mem.1 he)).symm
theorem kd_same {es fs:List EqT}{K M:Kn}(D:Kd es K)(D':Kd fs M)(h:∀ f,(∀ e∈fs,Sol f (dbE e))↔∀ e∈es,Sol f (dbE e)):gq_ M=gq_ K:=by
 have k1:Ext (sg K) M:=(D'.gen _ D.ko.facts.pr).1 ((h _).2 ((D.gen _ D.ko.facts.pr).2 D.ko.facts.ext))
 have k2:Ext (sg M) K:=(D.gen _ D'.ko.facts.pr).1 ((h _).1 ((D'.gen _ D'.ko.facts.pr).2 D'.ko.facts.ext))
 have hs:=r2_ D'.ko.facts D.ko.facts D'.ori D.ori k2 k1
 unfold gq_
 rw[sq_ D'.ko D.ko hs]
 exact List.map_congr_left fun m _=>by rw[hs]
theorem trn_all {es:List EqT}(E:Es es):∃ j1 j2 r1 r2,j1≤100000000000∧j2≤100000000000∧f7_ 100 j1 es=some r1∧f7_ 100 j2 (trn es)=some r2∧((∃ a b,r1=.error a∧r2=.error b∧40≤a∧40≤b)∨∃ K,r1=.ok (gq_ K)∧r2=.ok (gq_ K)∧Kd es K):=by
 obtain⟨j1,r1,h1,u1,_,c1⟩:=uni_all E
 obtain⟨j2,r2,h2,u2,_,c2⟩:=uni_all E.trn
 refine⟨j1,j2,_,_,h1,h2,u1,u2,?_⟩
 rcases c1 with ⟨a,rfl,a1,_,na⟩|⟨K,rfl,D⟩
 ·rcases c2 with ⟨b,rfl,b1,_,nb⟩|⟨M,rfl,D'⟩
  ·exact .inl ⟨a,b,rfl,rfl,a1,b1⟩
  ·exact absurd (trn_sol.1 ((D'.gen _ D'.ko.facts.pr).2 D'.ko.facts.ext)) (na _ D'.ko.facts.pr)
 ·rcases c2 with ⟨b,rfl,b1,_,nb⟩|⟨M,rfl,D'⟩
  ·exact absurd (trn_sol.2 ((D.gen _ D.ko.facts.pr).2 D.ko.facts.ext)) (nb _ D.ko.facts.pr)
  ·refine .inr ⟨K,rfl,?_,D⟩
   show Except.ok (gq_ M)=_
   rw[kd_same D D' fun f=>trn_sol]
structure Two (R:Kn)(x:EqT):Prop where
 a1:s7_ R x.1
 a2:s7_ R x.2
 s1:a8_ (apF R x.1)
 s2:a8_ (apF R x.2)
 eq:aJ_ (apF R x.1)=aJ_ (apF R x.2)
theorem Two.swap {R:Kn}{x:EqT}(h:Two R x):Two R (x.2,x.1):=⟨h.a2,h.a1,h.s2,h.s1,h.eq.symm⟩
theorem Kd.two {es:List EqT}{K:Kn}(E:Es es)(D:Kd es K){e:EqT}(he:e∈es):Two (gq_ K) e:=by
 have hn:=es_ni E he 0
 obtain⟨a1,s1,_⟩:=D.ap E ⟨0,by omega,hn.1.1⟩ hn.1.2 (D.szE e he).1
 obtain⟨a2,s2,_⟩:=D.ap E ⟨0,by omega,hn.2.1⟩ hn.2.2 (D.szE e he).2
 exact⟨a1,a2,s1,s2,D.same E he⟩
end Go.Proofs.YtjecnionbjlncaaGreatDoor.Tp

namespace Go.Proofs.YtjecnionbjlncaaGreatDoor.Tp
open Go.RowKit Go.Sort
set_option maxRecDepth 100000 in
set_option maxHeartbeats 6400000 in
theorem unifyTurned_walk (v0:Value)(ls:List Ln)(w:World)(hL:lG_ w v0 ls)(hT:Tab w):Calls Tryz.prog 11 #[v0] w fun e w'=>e=.returned (.bool true)∧Below w.heap.size w w':=by
 have HT:=hid hT
 have RL_0:=hid hL
 clear hT hL
 go_enter Tryz.func11,Tryz.ntmps11
 have C:=hid (rL_ _ HT.out)
 go_wp2_with fail
 refine C.out.mono ?_
 rintro e w1 ⟨rfl,hB⟩
 clear C
 have RL_1:=hid (RL_0.out.low hB)
 have B_1:=hid (hB)
 clear hB RL_0
 have C:=hid (mn_ _ v0 ls RL_1.out)
 go_wp2_with fail
 refine C.out.mono ?_
 rintro e w2 ⟨hB,hres⟩
 clear C
 cases hq:c6_ ls with
 | none =>
  rw[hq] at hres
  subst hres
  clear hq
  have RL_2:=hid (RL_1.out.low hB)
  have B_2:=hid (B_1.out.trans (hB.mono B_1.out.size))
  clear hB RL_1 B_1
  go_wp2
  go_ret
  exact⟨rfl,B_2.out⟩
 | some es =>
  rw[hq] at hres
  obtain⟨v,u,ps,qs,rfl,hE⟩:=hres
  obtain⟨va,vc,rfl⟩:=aB_ hE.a.own
  obtain⟨ua,uc,rfl⟩:=aB_ hE.b.own
  have Ees:=hid (es_of hq)
  have hEs:pZ_ w2 (.slice va es.length vc) es:=hE.a.es (by have:=Ees.out.ln;omega) fun b hb=>hb.2.1
  clear hq hE
  have RL_2:=hid (RL_1.out.low hB)
  have B_2:=hid (B_1.out.trans (hB.mono B_1.out.size))
  have RE_2:=hid hEs
  clear hB hEs RL_1 B_1
  clear RL_2
  have HL:Hid (es.length≤16):=hid Ees.out.ln
  have Etr:=hid Ees.out.trn
  have hl16:(es.length:Int)≤16:=by have:=HL.out;omega
  go_wp2
  go_loopw [7,8] (fun bv iv wr=>∃ (k:Nat) (x:Int) (ps:List (Value × Value)),iv=.int .i64 x∧x=(es.length:Int) - 1 - (k:Int)∧k≤es.length∧f6_ (Lt w2.heap.size) w2.heap.size wr bv ((trn es).take k) ps∧Below w2.heap.size w2 wr) (fun _ iv _=>(intOf iv+1).toNat)
  case atStart=>exact⟨0,_,[],rfl,by omega,Nat.zero_le _,f6_.nil _ _ _,Below.refl _ _⟩
  case round =>
   obtain⟨k,x,ps,rfl,hx,hkl,hE,hBr⟩:=hrel
   by_cases hk:k<es.length
   ·obtain⟨p,hp⟩:∃ p:Nat,x=(p:Int):=⟨es.length - 1 - k,by omega⟩
    subst hp
    have hpl:p<es.length:=by omega
    have hsum:k+1+p=es.length:=by omega
    have p0:(0:Int)≤(p:Int):=by omega
    have p1:(p:Int)<(es.length:Int):=by omega
    have p2:(p:Int)<16:=by omega
    have TK:=hid (trn_take hsum hpl)
    have HX:=hid hx
    have HSUM:=hid hsum
    have HEL0:Hid (((trn es).take k).length≤16):=hid (by rw[List.length_take];have:=HL.out;omega)
    generalize (trn es).take k=F at *
    obtain⟨ba,bc,rfl⟩:=aB_ hE.own
    have HEL:Hid (F.length≤16):=HEL0
    obtain⟨b,off,xa,xc,ya,yc,rfl,hb,hl4,hr4,hAl,hAr⟩:=RE_2.out.one hpl
    have kk:∀ o,wr.cell? ⟨b,o,none⟩=w2.cell? ⟨b,o,none⟩:=fun o=>World.cell?_of_block (hBr.block b hb)
    have BD:Hid (Below w2.heap.size w2 wr.drew):=hid hBr.drew
    have ED:=hid (hE.keep (w':=wr.drew) (fun _ _=>rfl) (fun _ _=>rfl))
    have AL:=hid (hAl.keep fun b hb=>BD.out.block b hb)
    have AR:=hid (hAr.keep fun b hb=>BD.out.block b hb)
    have OL:Hid (∀ q,(Value.slice ba F.length bc).ownBlock=some q→w2.heap.size≤q):=hid fun q e=>(ED.out.own.lt q e).1
    have c0:=(kk _).trans hl4.1
    have c1:=(kk _).trans hl4.2.1
    have c2:=(kk _).trans hl4.2.2.1
    have c3:=(kk _).trans hl4.2.2.2
    have d0:=(kk _).trans hr4.1
    have d1:=(kk _).trans hr4.2.1
    have d2:=(kk _).trans hr4.2.2.1
    have d3:=(kk _).trans hr4.2.2.2
    clear hx hsum hE hBr hl4 hr4 hAl hAr kk hb
    generalize es[p]=x at *
    have pa:=ED.out.push (x:=(x.2,x.1)) BD.out.size (by have:=HEL.out;omega) (fun b h=>⟨bh_ h BD.out.size,fun e=>by have:=OL.out b e;have h':b<w2.heap.size:=h;omega⟩) AR.out AL.out
    rw[gO_] at pa
    have PA:=hid pa
    clear pa
    go_upto_region 9 with fail
    go_region_law (first
     | ((with_reducible show (if Region.wanted _ _=true then Oper.wp _ _ _ (World.drew (World.alloc _ _)) _ _ else _));refine cX_ (by rfl) _ _ _ (by rfl) (by rfl) (by rfl) PA.out ?_;rintro v9 w9 ⟨hr9,hg9,ho9,hl9⟩;have HR9:=hid hr9;have B9:=hid (BD.out.grown hg9 BD.out.size fun k e=>OL.out k e);clear hr9 hg9 ho9 hl9 PA c0 c1 c2 c3 d0 d1 d2 d3))
    all_goals
     go_wp2
     go_roundw
     case measure=>simp[intOf]
     case rel=>exact⟨k+1,_,_,by go_num,by have:=HX.out;omega,hk,by rw[TK.out];exact HR9.out,B9.out⟩
   ·obtain rfl:k=es.length:=by omega
    obtain rfl:x = -1:=by omega
    rw[List.take_of_length_le (show (trn es).length≤es.length by rw[trn_len];exact aA_ _)] at hE
    obtain⟨ba,bc,hv⟩:=aB_ hE.own
    rw[trn_len] at hv
    subst hv
    have hEs:pZ_ wr (.slice ba es.length bc) (trn es):=hE.es (by rw[trn_len];have:=HL.out;omega) fun b hb=>bh_ hb hBr.size
    have hB:=hBr
    clear hE hBr hk hkl hx
    have RE_3:=hid (RE_2.out.low hB)
    have B_3:=hid (B_2.out.trans (hB.mono B_2.out.size))
    have RF_3:=hid hEs
    clear hB hEs RE_2 B_2
    obtain⟨j1,j2,r1,r2,hj1,hj2,hu1,hu2,hcase⟩:=trn_all Ees.out
    have HCS:=hid hcase
    clear hcase
    have C:=hid (RE_3.out.call (fun e he=>(Ees.out.ok e he).sm) (by have:=Ees.out.ln;omega) (ah_ HT.out B_3.out) hu1 (by omega))
    go_wp2_with fail
    refine C.out.mono ?_
    rintro e w4 hun
    obtain⟨ka,kc,kR,er,rfl,hK,hB,hk1⟩:=jc_.form hun
    clear C hun
    have RE_4:=hid (RE_3.out.low hB)
    have RF_4:=hid (RF_3.out.low hB)
    have B_4:=hid (B_3.out.trans (hB.mono B_3.out.size))
    have RK_4:=hid hK
    clear hB hK RE_3 RF_3 B_3
    have C:=hid (RF_4.out.call (fun e he=>(Etr.out.ok e he).sm) (by have:=Etr.out.ln;omega) (ah_ HT.out B_4.out) hu2 (by omega))
    go_wp2_with fail
    refine C.out.mono ?_
    rintro e w5 hun
    obtain⟨ma,mc,mR,er2,rfl,hK,hB,hk2⟩:=jc_.form hun
    clear C hun
    have RE_5:=hid (RE_4.out.low hB)
    have RF_5:=hid (RF_4.out.low hB)
    have RK_5:=hid (RK_4.out.low hB)
    have B_5:=hid (B_4.out.trans (hB.mono B_4.out.size))
    have RM_5:=hid hK
    clear hB hK RE_4 RF_4 RK_4 B_4
    have hc:(((er:Int)==0)=false∧((er2:Int)==0)=false∧kR=[]∧mR=[])∨∃ K,kR=gq_ K∧mR=gq_ K∧er=0∧er2=0∧Kd es K:=by
     rcases HCS.out with ⟨a,b,rfl,rfl,h1,h2⟩|⟨K,rfl,rfl,hd⟩
     ·rcases hk1 with ⟨h3,_⟩|⟨h3,h4⟩
      ·cases h3
      ·rcases hk2 with ⟨h5,_⟩|⟨h5,h6⟩
       ·cases h5
       ·injection h3 with h3
        injection h5 with h5
        subst h3 h5
        exact .inl ⟨beq_eq_false_iff_ne.2 (by omega),beq_eq_false_iff_ne.2 (by omega),h4,h6⟩
     ·rcases hk1 with ⟨h3,h4⟩|⟨h3,_⟩
      ·rcases hk2 with ⟨h5,h6⟩|⟨h5,_⟩
       ·injection h3 with h3
        injection h5 with h5
        exact .inr ⟨K,h3.symm,h5.symm,h4,h6,hd⟩
       ·cases h5
      ·cases h3
    clear hk1 hk2 hu1 hu2 HCS hj1 hj2
    rcases hc with ⟨z1,z2,rfl,rfl⟩|⟨K,rfl,rfl,rfl,rfl,hd⟩
    ·have z3:decide ((er:Int)=0)=false:=z1
     have z4:decide ((er2:Int)=0)=false:=z2
     go_wp2
     go_loopw [13] (fun iv wr=>iv=.int .i64 0∧Below w5.heap.size w5 wr) (fun _ _=>0)
     case atStart=>exact⟨rfl,Below.refl _ _⟩
     case round =>
      obtain⟨rfl,hBr⟩:=hrel
      by_cases hn:es.length=0
      ·have z5:decide ((0:Int)<(es.length:Int))=false:=decide_eq_false (by omega)
       go_wp2
       go_ret
       exact⟨rfl,B_5.out.trans (hBr.mono B_5.out.size)⟩
      ·have z5:decide ((0:Int)<(es.length:Int))=true:=decide_eq_true (by omega)
       go_wp2
       go_ret
       exact⟨rfl,B_5.out.trans (hBr.mono B_5.out.size)⟩
    ·have D:=hid hd
     clear hd
     go_wp2
     go_loopw [13] (fun iv wr=>∃ i:Nat,iv=.int .i64 i∧i≤es.length∧Below w5.heap.size w5 wr) (fun iv _=>es.length - (intOf iv).toNat)
     case atStart=>exact⟨0,rfl,Nat.zero_le _,Below.refl _ _⟩
     case round =>
      obtain⟨i,rfl,hil,hBr⟩:=hrel
      have i0:(0:Int)≤(i:Int):=by omega
      have BR:=hid (B_5.out.trans (hBr.mono B_5.out.size))
      have RE:=hid (RE_5.out.low hBr)
      have RF:=hid (RF_5.out.low hBr)
      have RK:=hid (RK_5.out.low hBr)
      have RM:=hid (RM_5.out.low hBr)
      have BW:=hid hBr
      clear hBr
      by_cases hi:i<es.length
      ·have i1:(i:Int)<(es.length:Int):=by omega
       have z5:decide ((i:Int)<(es.length:Int))=true:=decide_eq_true i1
       have i2:(i:Int)<16:=by have:=HL.out;omega
       obtain⟨b,off,xa,xc,ya,yc,rfl,hb,hl4,hr4,hAl,hAr⟩:=RE.out.one hi
       obtain⟨b2,off2,xa2,xc2,ya2,yc2,rfl,hb2,hl42,hr42,hAl2,hAr2⟩:=RF.out.one (i:=i) (by rw[trn_len];exact hi)
       have T1:=hid (D.out.two Ees.out (List.getElem_mem hi))
       have T2:=hid (D.out.two Ees.out (trn_mem.1 (List.getElem_mem (by rw[trn_len];exact hi:i<(trn es).length)))).swap
       have AL:=hid hAl
       have AR:=hid hAr
       have L4:=hid hl4
       have R4_:=hid hr4
       have HBL:=hid hb
       have AL2:=hid hAl2
       have AR2:=hid hAr2
       have L42:=hid hl42
       have R42:=hid hr42
       have HBL2:=hid hb2
       clear hl4 hr4 hAl hAr hb hl42 hr42 hAl2 hAr2 hb2
       have hi2:i<(trn es).length:=by rw[trn_len];exact hi
       generalize es[i]=x at *
       generalize (trn es)[i]=y at *
       go_upto_region 17 with fail
       go_cut [14] from 83 to 97 (fun s wx=>s=.bool (true)∧Below wr.heap.size wr wx)
       case first =>
        have KD:Hid (∀ W:World,Below wr.heap.size wr W→(W.cell? ⟨b,off+i*8,none⟩=some (.int .i64 x.1.kind)∧W.cell? ⟨b,off+i*8+1,none⟩=some (.string x.1.name)∧W.cell? ⟨b,off+i*8+2,none⟩=some (.int .i64 x.1.n)∧W.cell? ⟨b,off+i*8+3,none⟩=some (.slice xa x.1.args.length xc))∧(W.cell? ⟨b,off+i*8+4,none⟩=some (.int .i64 x.2.kind)∧W.cell? ⟨b,off+i*8+5,none⟩=some (.string x.2.name)∧W.cell? ⟨b,off+i*8+6,none⟩=some (.int .i64 x.2.n)∧W.cell? ⟨b,off+i*8+7,none⟩=some (.slice ya x.2.args.length yc))):=hid (fun W h=>⟨⟨(World.cell?_of_block (h.block b HBL.out)).trans L4.out.1,(World.cell?_of_block (h.block b HBL.out)).trans L4.out.2.1,(World.cell?_of_block (h.block b HBL.out)).trans L4.out.2.2.1,(World.cell?_of_block (h.block b HBL.out)).trans L4.out.2.2.2⟩,(World.cell?_of_block (h.block b HBL.out)).trans R4_.out.1,(World.cell?_of_block (h.block b HBL.out)).trans R4_.out.2.1,(World.cell?_of_block (h.block b HBL.out)).trans R4_.out.2.2.1,(World.cell?_of_block (h.block b HBL.out)).trans R4_.out.2.2.2⟩)
        have HD:=hid ((Below.refl wr.heap.size wr).drew)
        have CA1:=hid (fun (W:World) (h:Below wr.heap.size wr W)=>apply_h (RM.out.low h) (AL.out.low h) T1.out.a1 (ah_ HT.out (BR.out.trans (h.mono BR.out.size))))
        have CA2:=hid (fun (W:World) (h:Below wr.heap.size wr W)=>apply_h (RM.out.low h) (AR.out.low h) T1.out.a2 (ah_ HT.out (BR.out.trans (h.mono BR.out.size))))
        have hkd:=KD.out _ HD.out
        try simp only[and_assoc] at hkd
        obtain⟨hk0,hk1,hk2,hk3,hk4,hk5,hk6,hk7⟩:=hkd
        go_region_held3 (fun w'=>(w'.cell? ⟨b,off+i*8,none⟩=some (.int .i64 x.1.kind)∧w'.cell? ⟨b,off+i*8+1,none⟩=some (.string x.1.name)∧w'.cell? ⟨b,off+i*8+2,none⟩=some (.int .i64 x.1.n)∧w'.cell? ⟨b,off+i*8+3,none⟩=some (.slice xa x.1.args.length xc))∧(w'.cell? ⟨b,off+i*8+4,none⟩=some (.int .i64 x.2.kind)∧w'.cell? ⟨b,off+i*8+5,none⟩=some (.string x.2.name)∧w'.cell? ⟨b,off+i*8+6,none⟩=some (.int .i64 x.2.n)∧w'.cell? ⟨b,off+i*8+7,none⟩=some (.slice ya x.2.args.length yc)))
         (first|(with_reducible exact KD.out _ HX3.out)|(with_reducible exact KD.out _ HX2.out)|(with_reducible exact KD.out _ HX1.out)|(with_reducible exact KD.out _ HD.out))
         (first
          | (go_at_call 28;(with_reducible refine (CA1.out _ HD.out).mono ?_);rintro e x1 ⟨b1,d1,rfl,hA1,hb1⟩;have HX1:=hid (HD.out.trans (hb1.mono HD.out.size));have HA1:=hid hA1;clear hA1 hb1)
          | (go_at_call 28;(with_reducible refine (CA2.out _ HX1.out).mono ?_);rintro e x2 ⟨b2,d2,rfl,hA2,hb2⟩;have HX2:=hid (HX1.out.trans (hb2.mono HX1.out.size));have CS:=hid (r4_ (HA1.out.low hb2) hA2 T1.out.s1 T1.out.s2 ((fun (W:World) (h:Below wr.heap.size wr W)=>ah_ HT.out (BR.out.trans (h.mono BR.out.size))) x2 HX2.out));clear hA2 hb2)
          | (go_at_call 22;(with_reducible refine CS.out.mono ?_);rintro e x3 ⟨rfl,hb3⟩;have HX3:=hid (HX2.out.trans (hb3.mono HX2.out.size));clear hb3))
        all_goals
         go_wp2_with fail
         go_meet
         exact⟨congrArg Value.bool ((decide_eq_true T1.out.eq)),HX3.out⟩
       obtain⟨rfl,hBc⟩:=hcut
       have BC:=hid hBc
       have BR2:=hid (BR.out.trans (BC.out.mono BR.out.size))
       have RK2:=hid (RK.out.low BC.out)
       have AL3:=hid (AL2.out.low BC.out)
       have AR3:=hid (AR2.out.low BC.out)
       clear hBc
       obtain⟨wd,hwd⟩:∃ wd:World,wd=wc:=⟨_,rfl⟩
       subst hwd
       go_upto_region 18 with fail
       go_cut [15] from 98 to 112 (fun s wx=>s=.bool (true)∧Below wd.heap.size wd wx)
       case first =>
        have KD:Hid (∀ W:World,Below wd.heap.size wd W→(W.cell? ⟨b2,off2+i*8,none⟩=some (.int .i64 y.1.kind)∧W.cell? ⟨b2,off2+i*8+1,none⟩=some (.string y.1.name)∧W.cell? ⟨b2,off2+i*8+2,none⟩=some (.int .i64 y.1.n)∧W.cell? ⟨b2,off2+i*8+3,none⟩=some (.slice xa2 y.1.args.length xc2))∧(W.cell? ⟨b2,off2+i*8+4,none⟩=some (.int .i64 y.2.kind)∧W.cell? ⟨b2,off2+i*8+5,none⟩=some (.string y.2.name)∧W.cell? ⟨b2,off2+i*8+6,none⟩=some (.int .i64 y.2.n)∧W.cell? ⟨b2,off2+i*8+7,none⟩=some (.slice ya2 y.2.args.length yc2))):=hid (fun W h=>⟨⟨(World.cell?_of_block ((BC.out.trans (h.mono BC.out.size)).block b2 HBL2.out)).trans L42.out.1,(World.cell?_of_block ((BC.out.trans (h.mono BC.out.size)).block b2 HBL2.out)).trans L42.out.2.1,(World.cell?_of_block ((BC.out.trans (h.mono BC.out.size)).block b2 HBL2.out)).trans L42.out.2.2.1,(World.cell?_of_block ((BC.out.trans (h.mono BC.out.size)).block b2 HBL2.out)).trans L42.out.2.2.2⟩,(World.cell?_of_block ((BC.out.trans (h.mono BC.out.size)).block b2 HBL2.out)).trans R42.out.1,(World.cell?_of_block ((BC.out.trans (h.mono BC.out.size)).block b2 HBL2.out)).trans R42.out.2.1,(World.cell?_of_block ((BC.out.trans (h.mono BC.out.size)).block b2 HBL2.out)).trans R42.out.2.2.1,(World.cell?_of_block ((BC.out.trans (h.mono BC.out.size)).block b2 HBL2.out)).trans R42.out.2.2.2⟩)
        have HD:=hid ((Below.refl wd.heap.size wd).drew)
        have CA1:=hid (fun (W:World) (h:Below wd.heap.size wd W)=>apply_h (RK2.out.low h) (AL3.out.low h) T2.out.a1 (ah_ HT.out (BR2.out.trans (h.mono BR2.out.size))))
        have CA2:=hid (fun (W:World) (h:Below wd.heap.size wd W)=>apply_h (RK2.out.low h) (AR3.out.low h) T2.out.a2 (ah_ HT.out (BR2.out.trans (h.mono BR2.out.size))))
        have hkd:=KD.out _ HD.out
        try simp only[and_assoc] at hkd
        obtain⟨hk0,hk1,hk2,hk3,hk4,hk5,hk6,hk7⟩:=hkd
        go_region_held3 (fun w'=>(w'.cell? ⟨b2,off2+i*8,none⟩=some (.int .i64 y.1.kind)∧w'.cell? ⟨b2,off2+i*8+1,none⟩=some (.string y.1.name)∧w'.cell? ⟨b2,off2+i*8+2,none⟩=some (.int .i64 y.1.n)∧w'.cell? ⟨b2,off2+i*8+3,none⟩=some (.slice xa2 y.1.args.length xc2))∧(w'.cell? ⟨b2,off2+i*8+4,none⟩=some (.int .i64 y.2.kind)∧w'.cell? ⟨b2,off2+i*8+5,none⟩=some (.string y.2.name)∧w'.cell? ⟨b2,off2+i*8+6,none⟩=some (.int .i64 y.2.n)∧w'.cell? ⟨b2,off2+i*8+7,none⟩=some (.slice ya2 y.2.args.length yc2)))
         (first|(with_reducible exact KD.out _ HX3.out)|(with_reducible exact KD.out _ HX2.out)|(with_reducible exact KD.out _ HX1.out)|(with_reducible exact KD.out _ HD.out))
         (first
          | (go_at_call 28;(with_reducible refine (CA1.out _ HD.out).mono ?_);rintro e x1 ⟨b1,d1,rfl,hA1,hb1⟩;have HX1:=hid (HD.out.trans (hb1.mono HD.out.size));have HA1:=hid hA1;clear hA1 hb1)
          | (go_at_call 28;(with_reducible refine (CA2.out _ HX1.out).mono ?_);rintro e x2 ⟨b2,d2,rfl,hA2,hb2⟩;have HX2:=hid (HX1.out.trans (hb2.mono HX1.out.size));have CS:=hid (r4_ (HA1.out.low hb2) hA2 T2.out.s1 T2.out.s2 ((fun (W:World) (h:Below wd.heap.size wd W)=>ah_ HT.out (BR2.out.trans (h.mono BR2.out.size))) x2 HX2.out));clear hA2 hb2)
          | (go_at_call 22;(with_reducible refine CS.out.mono ?_);rintro e x3 ⟨rfl,hb3⟩;have HX3:=hid (HX2.out.trans (hb3.mono HX2.out.size));clear hb3))
        all_goals
         go_wp2_with fail
         go_meet
         exact⟨congrArg Value.bool ((decide_eq_true T2.out.eq)),HX3.out⟩
       obtain⟨rfl,hBc⟩:=hcut
       have BE:=hid (BW.out.trans ((BC.out.trans (hBc.mono BC.out.size)).mono BW.out.size))
       clear hBc
       go_wp2
       go_roundw
       case measure=>simp[intOf];omega
       case rel=>exact⟨i+1,by go_num,by omega,BE.out⟩
      ·obtain rfl:i=es.length:=by omega
       have z5:decide ((es.length:Int)<(es.length:Int))=false:=decide_eq_false (by omega)
       clear hi hil i0
       go_wp2
       go_ret
       exact⟨rfl,BR.out⟩
end Go.Proofs.YtjecnionbjlncaaGreatDoor.Tp

namespace Go.Proofs.YtjecnionbjlncaaGreatDoor.unifyTurned
open Go.ChangeShapes Go.WideShapes Go.ChangeAt Go.WideMaps Go.WideElems Go.RowKit
open Go.ChangeMaps (open_string shut_string)
open Tp (Tab sp_ qa_ s2_ own laidOut)

/-! ### the row's step, as the kit's worked example (a law over laid variables) has it -/
set_option linter.unusedVariables false in
set_option maxRecDepth 100000 in
theorem lifted (os : Os) (started : os.Started) (H : Type) (enc : TypeId × Value → H) :
    ReturnsInHanded {} Tryz.checked os 11 .any (fun w args => (Rows.unifyTurnedSpec.pre enc Tryz.prog Tryz.f11 [] false w args ∧ laidMetH Tryz.prog sp_ w) ∧ sizedMet enc Tryz.prog Tryz.f11 (OpenSpec.ofChange Rows.unifyTurnedSpec) false w args)
      (Rows.unifyTurnedSpec.post enc Tryz.prog Tryz.f11 false true false false) := by
  refine returnsInHanded_of_change_and (C := Tryz.checked) (X := fun w _ => laidMetH Tryz.prog sp_ w) (fun _ _ _ hh h => h.of_heap hh) own started (by kernel_rfl) Tryz.func11
    (ChangeSpec.witness_shaped (enc := enc) (C := Tryz.checked) (os := os) (X := fun w _ => laidMetH Tryz.prog sp_ w) false (World.doorLaid Tryz.prog 400 os) #[.slice none 0 0] 8 rfl (World.shaped_of_RefB (by kernel_rfl) (by kernel_rfl)) (by kernel_rfl) (by kernel_rfl) (by kernel_rfl) (s2_ os _)) ?_
  intro W base args ds gs before hval0 hW _ _ hL _
  have hval : ∀ (j : Nat) t v, Tryz.f11.params[j]? = some t → args[j]? = some v → Value.okWide Tryz.prog W .any base t v := hval0
  have hW' := hW
  obtain ⟨p, q, hA0, hV, rfl, hfz, hnd⟩ := hW
  have hA : DataW.TrodAll enc Tryz.prog W 0 (fun _ => true) true Tryz.f11.params.toList args.toList ds p := hA0
  rw [Tryz.params11] at hA hval
  obtain ⟨v0, vs0, d0, ds0, p0, q0, hargs, rfl, rfl, h0, r0⟩ := trodAll_cons hA
  obtain ⟨rfl, rfl, rfl⟩ := trodAll_nil r0
  obtain rfl : args = #[v0] := by cases args; simp_all
  obtain ⟨rfl, rfl⟩ := trodVars_none hV
  have k0 := h0
  have lt0 : ∀ x ∈ p0, x.block < W.heap.size := by obtain ⟨m, hm⟩ := k0; exact DataW.trod_lt m _ _ _ hm
  obtain ⟨a0, w0⟩ := Tp.opnL (hval 0 22 v0 rfl rfl) h0
  clear hA0 hval0
  refine (Tp.unifyTurned_walk v0 a0 W w0 (qa_ hL)).mono fun e W' ⟨he, bel⟩ => ?_
  subst he
  exact ⟨_, rfl, _, _, _, [], _, [], hW', trodAll_mk1 (shut_bool Tryz.underlying4 _), (trodAll_cons_mk (Below.trod laidOut (by kernel_rfl) (of_decide_eq_true (by kernel_rfl)) k0 bel lt0) trodAll_mk0), rfl, bel.frame _, fun h => by cases h⟩

theorem row_holds : Rows.UnifyTurnedSaid :=
  OpenClaim.holds_of_wide 11 Tryz.f11 rfl rfl rfl rfl rfl rfl rfl ⟨rfl, rfl, rfl, rfl, rfl⟩ rfl rfl rfl rfl rfl (by kernel_rfl) Tryz.func11 (by kernel_rfl)
    (of_decide_eq_true (by kernel_rfl)) (by unfold Func.isWrapper; first | (rw [if_pos (by decide +kernel)]; kernel_rfl) | (rw [if_neg (by decide +kernel)]; exact ⟨rfl, rfl⟩))
    (fun os started H enc _ => lifted os started H enc)

/-- THE STATEMENT: the row, tied to the program's text. -/
theorem proved : Rows.UnifyTurnedCardSaid :=
  Claim7.holds_tied_plain_at .later [] [.data, .data, .data, .sentinel, .sentinel] true Rows.unifyTurnedCard.stood.harness true
    row_holds (fun _ h => by cases h) (by kernel_rfl) (fun _ h => by cases h) unifyTurned_row_tie rfl ⟨rfl, rfl⟩ (by kernel_rfl) rfl
    (fun f fn hf hfn => by
      obtain rfl : f = 11 := Option.some.inj ((show Tryz.prog.funcNamed "savant/savantlaw04.UnifyTurned" = some 11 by kernel_rfl).symm.trans hf) |>.symm
      obtain rfl : fn = Tryz.f11 := (Option.some.inj (Tryz.func11.symm.trans hfn)).symm
      exact ⟨by kernel_rfl, fun j t ht => by
        rw [Tryz.params11] at ht
        have hm : t ∈ [22] := by simpa using Array.mem_of_getElem? ht
        have hall : ([22].all fun u => !Tryz.prog.wantsStandIn u) = true := by kernel_rfl
        exact (show Tryz.prog.wantsStandIn t = false by simpa using List.all_eq_true.1 hall t hm)⟩)
    (by kernel_rfl)
#print axioms proved
end Go.Proofs.YtjecnionbjlncaaGreatDoor.unifyTurned

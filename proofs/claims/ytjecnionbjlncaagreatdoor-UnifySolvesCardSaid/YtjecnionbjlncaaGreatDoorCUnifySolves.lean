/-
  With what is told the equations hold, nothing that is told is in what is told, and no for all is told: for every list of at most eight lines of at most 120 bytes a side, with at most 24 variables and unknowns in all; at anything else the law tells what its examples tell.
-/
import Derived.Test.YtjecnionbjlncaaGreatDoorP51
import Derived.Test.YtjecnionbjlncaaGreatDoorCards
import Derived.Test.YtjecnionbjlncaaGreatDoorTie
import Derived.SevenTiedAt

namespace Go.Proofs.YtjecnionbjlncaaGreatDoor.Tp
open Go.RowKit Go.Sort
set_option maxRecDepth 100000 in
set_option maxHeartbeats 6400000 in
theorem unifySolves_walk (v0:Value)(ls:List Ln)(w:World)(hL:lG_ w v0 ls)(hT:Tab w):Calls Tryz.prog 9 #[v0] w fun e w'=>e=.returned (.bool true)∧Below w.heap.size w w':=by
 have HT:=hid hT
 have RL_0:=hid hL
 clear hT hL
 go_enter Tryz.func9,Tryz.ntmps9
 have C:=hid (rL_ _ HT.out)
 go_wp2_with fail
 refine C.out.mono ?_
 rintro e w1 ⟨rfl,hB⟩
 clear C
 have RL_1:=hid (RL_0.out.low hB)
 have B_1:=hid (hB)
 clear hB RL_0
 have C:=hid (mn_ _ v0 ls RL_1.out)
 go_wp2_with fail
 refine C.out.mono ?_
 rintro e w2 ⟨hB,hres⟩
 clear C
 cases hq:c6_ ls with
 | none =>
  rw[hq] at hres
  subst hres
  clear hq
  have RL_2:=hid (RL_1.out.low hB)
  have B_2:=hid (B_1.out.trans (hB.mono B_1.out.size))
  clear hB RL_1 B_1
  go_wp2
  go_ret
  exact⟨rfl,B_2.out⟩
 | some es =>
  rw[hq] at hres
  obtain⟨v,u,ps,qs,rfl,hE⟩:=hres
  obtain⟨va,vc,rfl⟩:=aB_ hE.a.own
  obtain⟨ua,uc,rfl⟩:=aB_ hE.b.own
  have Ees:=hid (es_of hq)
  have hEs:pZ_ w2 (.slice va es.length vc) es:=hE.a.es (by have:=Ees.out.ln;omega) fun b hb=>hb.2.1
  clear hq hE
  have RL_2:=hid (RL_1.out.low hB)
  have B_2:=hid (B_1.out.trans (hB.mono B_1.out.size))
  have RE_2:=hid hEs
  clear hB hEs RL_1 B_1
  clear RL_2
  obtain⟨j,res,hj,hu,_,hcase⟩:=uni_all Ees.out
  have C:=hid (RE_2.out.call (fun e he=>(Ees.out.ok e he).sm) (by have:=Ees.out.ln;omega) (ah_ HT.out B_2.out) hu (by omega))
  go_wp2_with fail
  refine C.out.mono ?_
  rintro e w3 hun
  obtain⟨ka,kc,kR,er,rfl,hK,hB,hk⟩:=jc_.form hun
  clear C hun
  have RE_3:=hid (RE_2.out.low hB)
  have B_3:=hid (B_2.out.trans (hB.mono B_2.out.size))
  have RK_3:=hid hK
  clear hB hK RE_2 B_2
  have HCS:Hid ((∃ er',rW_ res=.error er'∧40≤er'∧er'≤43)∨∃ K,rW_ res=.ok (gq_ K)∧Kd es K):=hid (by
   rcases hcase with ⟨e,rfl,h1,h2,_⟩|⟨K,rfl,h⟩
   ·exact .inl ⟨e,rfl,h1,h2⟩
   ·exact .inr ⟨K,rfl,h⟩)
  have hc:(kR=[]∧40≤er∧er≤43)∨∃ K,kR=gq_ K∧er=0∧Kd es K:=by
   rcases HCS.out with ⟨e,h,h1,h2⟩|⟨K,h,hd⟩
   ·rcases hk with ⟨h3,_⟩|⟨h3,h4⟩
    ·rw[h] at h3;cases h3
    ·rw[h] at h3;injection h3 with h3;subst h3;exact .inl ⟨h4,h1,h2⟩
   ·rcases hk with ⟨h3,h4⟩|⟨h3,_⟩
    ·rw[h] at h3;injection h3 with h3;exact .inr ⟨K,h3.symm,h4,hd⟩
    ·rw[h] at h3;cases h3
  clear hk hcase hu HCS
  rcases hc with ⟨rfl,h40,h43⟩|⟨K,rfl,rfl,hd⟩
  ·have z0:((er:Int) != 0)=true:=by rw[bne_iff_ne];omega
   have z1:decide ((40:Int)≤(er:Int))=true:=decide_eq_true (by omega)
   have z2:decide ((er:Int)≤(43:Int))=true:=decide_eq_true (by omega)
   clear h40 h43
   go_wp2
   go_ret
   exact⟨rfl,B_3.out⟩
  ·have D:=hid hd
   have HL:Hid (es.length≤16):=hid Ees.out.ln
   have HR:Hid ((gq_ K).length≤24):=hid (D.out.len Ees.out)
   clear hd
   go_wp2
   go_loopw [9] (fun iv wr=>∃ i:Nat,iv=.int .i64 i∧i≤es.length∧Below w3.heap.size w3 wr) (fun iv _=>es.length - (intOf iv).toNat)
   case atStart=>exact⟨0,rfl,Nat.zero_le _,Below.refl _ _⟩
   case round =>
    obtain⟨i,rfl,hil,hBr⟩:=hrel
    have i0:(0:Int)≤(i:Int):=by omega
    have BR:=hid (B_3.out.trans (hBr.mono B_3.out.size))
    have RE:=hid (RE_3.out.low hBr)
    have RK:=hid (RK_3.out.low hBr)
    have BW:=hid hBr
    clear hBr
    by_cases hi:i<es.length
    ·have i1:(i:Int)<(es.length:Int):=by omega
     have i2:(i:Int)<16:=by have:=HL.out;omega
     obtain⟨b,off,xa,xc,ya,yc,rfl,hb,hl4,hr4,hAl,hAr⟩:=RE.out.one hi
     have hmem:=List.getElem_mem hi
     have N1:=hid (es_ni Ees.out hmem 0)
     have A1:=hid (D.out.ap Ees.out ⟨0,by omega,N1.out.1.1⟩ N1.out.1.2 (D.out.szE _ hmem).1)
     have A2:=hid (D.out.ap Ees.out ⟨0,by omega,N1.out.2.1⟩ N1.out.2.2 (D.out.szE _ hmem).2)
     have EQ:=hid (decide_eq_true (D.out.same Ees.out hmem))
     have AL:=hid hAl
     have AR:=hid hAr
     have L4:=hid hl4
     have R4_:=hid hr4
     have HBL:=hid hb
     clear hl4 hr4 hAl hAr hmem hb
     generalize es[i]=x at *
     go_upto_region 11 with fail
     go_cut [10] from 51 to 65 (fun s wx=>s=.bool (true)∧Below wr.heap.size wr wx)
     case first =>
      have KD:Hid (∀ W:World,Below wr.heap.size wr W→(W.cell? ⟨b,off+i*8,none⟩=some (.int .i64 x.1.kind)∧W.cell? ⟨b,off+i*8+1,none⟩=some (.string x.1.name)∧W.cell? ⟨b,off+i*8+2,none⟩=some (.int .i64 x.1.n)∧W.cell? ⟨b,off+i*8+3,none⟩=some (.slice xa x.1.args.length xc))∧(W.cell? ⟨b,off+i*8+4,none⟩=some (.int .i64 x.2.kind)∧W.cell? ⟨b,off+i*8+5,none⟩=some (.string x.2.name)∧W.cell? ⟨b,off+i*8+6,none⟩=some (.int .i64 x.2.n)∧W.cell? ⟨b,off+i*8+7,none⟩=some (.slice ya x.2.args.length yc))):=hid (fun W h=>⟨⟨(World.cell?_of_block (h.block b HBL.out)).trans L4.out.1,(World.cell?_of_block (h.block b HBL.out)).trans L4.out.2.1,(World.cell?_of_block (h.block b HBL.out)).trans L4.out.2.2.1,(World.cell?_of_block (h.block b HBL.out)).trans L4.out.2.2.2⟩,(World.cell?_of_block (h.block b HBL.out)).trans R4_.out.1,(World.cell?_of_block (h.block b HBL.out)).trans R4_.out.2.1,(World.cell?_of_block (h.block b HBL.out)).trans R4_.out.2.2.1,(World.cell?_of_block (h.block b HBL.out)).trans R4_.out.2.2.2⟩)
      have HD:=hid ((Below.refl wr.heap.size wr).drew)
      have CA1:=hid (fun (W:World) (h:Below wr.heap.size wr W)=>apply_h (RK.out.low h) (AL.out.low h) A1.out.1 (ah_ HT.out (BR.out.trans (h.mono BR.out.size))))
      have CA2:=hid (fun (W:World) (h:Below wr.heap.size wr W)=>apply_h (RK.out.low h) (AR.out.low h) A2.out.1 (ah_ HT.out (BR.out.trans (h.mono BR.out.size))))
      have hkd:=KD.out _ HD.out
      try simp only[and_assoc] at hkd
      obtain⟨hk0,hk1,hk2,hk3,hk4,hk5,hk6,hk7⟩:=hkd
      go_region_held3 (fun w'=>(w'.cell? ⟨b,off+i*8,none⟩=some (.int .i64 x.1.kind)∧w'.cell? ⟨b,off+i*8+1,none⟩=some (.string x.1.name)∧w'.cell? ⟨b,off+i*8+2,none⟩=some (.int .i64 x.1.n)∧w'.cell? ⟨b,off+i*8+3,none⟩=some (.slice xa x.1.args.length xc))∧(w'.cell? ⟨b,off+i*8+4,none⟩=some (.int .i64 x.2.kind)∧w'.cell? ⟨b,off+i*8+5,none⟩=some (.string x.2.name)∧w'.cell? ⟨b,off+i*8+6,none⟩=some (.int .i64 x.2.n)∧w'.cell? ⟨b,off+i*8+7,none⟩=some (.slice ya x.2.args.length yc)))
       (first|(with_reducible exact KD.out _ HX3.out)|(with_reducible exact KD.out _ HX2.out)|(with_reducible exact KD.out _ HX1.out)|(with_reducible exact KD.out _ HD.out))
       (first
        | (go_at_call 28;(with_reducible refine (CA1.out _ HD.out).mono ?_);rintro e x1 ⟨b1,d1,rfl,hA1,hb1⟩;have HX1:=hid (HD.out.trans (hb1.mono HD.out.size));have HA1:=hid hA1;clear hA1 hb1)
        | (go_at_call 28;(with_reducible refine (CA2.out _ HX1.out).mono ?_);rintro e x2 ⟨b2,d2,rfl,hA2,hb2⟩;have HX2:=hid (HX1.out.trans (hb2.mono HX1.out.size));have CS:=hid (r4_ (HA1.out.low hb2) hA2 A1.out.2.1 A2.out.2.1 ((fun (W:World) (h:Below wr.heap.size wr W)=>ah_ HT.out (BR.out.trans (h.mono BR.out.size))) x2 HX2.out));clear hA2 hb2)
        | (go_at_call 22;(with_reducible refine CS.out.mono ?_);rintro e x3 ⟨rfl,hb3⟩;have HX3:=hid (HX2.out.trans (hb3.mono HX2.out.size));clear hb3))
      all_goals
       go_wp2_with fail
       go_meet
       exact⟨congrArg Value.bool (EQ.out),HX3.out⟩
     obtain⟨rfl,hBc⟩:=hcut
     have BC:=hid (BW.out.trans (hBc.mono BW.out.size))
     clear hBc
     go_wp2
     go_roundw
     case measure=>simp[intOf];omega
     case rel=>exact⟨i+1,by go_num,by omega,BC.out⟩
    ·obtain rfl:i=es.length:=by omega
     clear hi hil i0 RE
     obtain⟨wo,hwo⟩:∃ wo:World,wo=wr:=⟨_,rfl⟩
     subst hwo
     go_wp2
     go_loopw [11] (fun iv wr=>∃ i:Nat,iv=.int .i64 i∧i≤(gq_ K).length∧Below wo.heap.size wo wr) (fun iv _=>(gq_ K).length - (intOf iv).toNat)
     case atStart=>exact⟨0,rfl,Nat.zero_le _,Below.refl _ _⟩
     case round =>
      obtain⟨i,rfl,hil,hBr⟩:=hrel
      have i0:(0:Int)≤(i:Int):=by omega
      have BR2:=hid (BR.out.trans (hBr.mono BR.out.size))
      have RK2:=hid (RK.out.low hBr)
      have BW2:=hid hBr
      clear hBr
      by_cases hi:i<(gq_ K).length
      ·have i1:(i:Int)<((gq_ K).length:Int):=by omega
       have i2:(i:Int)<24:=by have:=HR.out;omega
       obtain⟨b,off,xa,xc,rfl,hb,hc5,hAx⟩:=RK2.out.at_ hi
       have hmem:=List.getElem_mem hi
       have A1:=hid (D.out.again Ees.out hmem)
       have SX:=hid ((D.out.ans Ees.out).2 _ hmem).1
       have EQ:=hid (decide_eq_true A1.out.2.2.1)
       have PREV:Hid (∀ q,i=q+1→∃ m:Int,wr.cell? ⟨b,off+q*5,none⟩=some (.int .i64 m)∧m<(gq_ K)[i].1):=hid fun q hq=>by
        have hq2:q<(gq_ K).length:=by omega
        obtain⟨b',off',xa',xc',e1,_,h5,_⟩:=RK2.out.at_ hq2
        injection e1 with e1
        injection e1 with e1 e2
        subst e1 e2
        exact⟨_,h5.1,List.pairwise_iff_getElem.1 D.out.sorted q i hq2 hi (by omega)⟩
       have AX:=hid hAx
       have C5:=hid hc5
       have HBL:=hid hb
       clear hc5 hAx hmem hb
       generalize (gq_ K)[i]=x at *
       go_upto_region 17 with fail
       go_cut [12] from 74 to 86 (fun s wx=>s=.bool (true)∧Below wr.heap.size wr wx)
       case first =>
        have KD:Hid (∀ W:World,Below wr.heap.size wr W→W.cell? ⟨b,off+i*5+1,none⟩=some (.int .i64 x.2.kind)∧W.cell? ⟨b,off+i*5+2,none⟩=some (.string x.2.name)∧W.cell? ⟨b,off+i*5+3,none⟩=some (.int .i64 x.2.n)∧W.cell? ⟨b,off+i*5+4,none⟩=some (.slice xa x.2.args.length xc)):=hid (fun W h=>⟨(World.cell?_of_block (h.block b HBL.out)).trans C5.out.2.1,(World.cell?_of_block (h.block b HBL.out)).trans C5.out.2.2.1,(World.cell?_of_block (h.block b HBL.out)).trans C5.out.2.2.2.1,(World.cell?_of_block (h.block b HBL.out)).trans C5.out.2.2.2.2⟩)
        have HD:=hid ((Below.refl wr.heap.size wr).drew)
        have CA1:=hid (fun (W:World) (h:Below wr.heap.size wr W)=>apply_h (RK2.out.low h) (AX.out.low h) A1.out.1 (ah_ HT.out (BR2.out.trans (h.mono BR2.out.size))))
        have hkd:=KD.out _ HD.out
        try simp only[and_assoc] at hkd
        obtain⟨hk0,hk1,hk2,hk3⟩:=hkd
        go_region_held3 (fun w'=>w'.cell? ⟨b,off+i*5+1,none⟩=some (.int .i64 x.2.kind)∧w'.cell? ⟨b,off+i*5+2,none⟩=some (.string x.2.name)∧w'.cell? ⟨b,off+i*5+3,none⟩=some (.int .i64 x.2.n)∧w'.cell? ⟨b,off+i*5+4,none⟩=some (.slice xa x.2.args.length xc))
         (first|(with_reducible exact KD.out _ HX3.out)|(with_reducible exact KD.out _ HX2.out)|(with_reducible exact KD.out _ HX1.out)|(with_reducible exact KD.out _ HD.out))
         (first
          | (go_at_call 28;(with_reducible refine (CA1.out _ HD.out).mono ?_);rintro e x1 ⟨b1,d1,rfl,hA1,hb1⟩;have HX1:=hid (HD.out.trans (hb1.mono HD.out.size));have HX2:=hid (HD.out.trans (hb1.mono HD.out.size));have CS:=hid (r4_ hA1 (AX.out.low HX1.out) A1.out.2.1 SX.out ((fun (W:World) (h:Below wr.heap.size wr W)=>ah_ HT.out (BR2.out.trans (h.mono BR2.out.size))) x1 HX1.out));clear hA1 hb1)
          | (go_at_call 22;(with_reducible refine CS.out.mono ?_);rintro e x3 ⟨rfl,hb3⟩;have HX3:=hid (HX2.out.trans (hb3.mono HX2.out.size));clear hb3))
        all_goals
         go_wp2_with fail
         go_meet
         exact⟨congrArg Value.bool (EQ.out),HX3.out⟩
       obtain⟨rfl,hBc⟩:=hcut
       have BC:=hid (BW2.out.trans (hBc.mono BW2.out.size))
       have CP:=hid (poly_h (AX.out.low hBc) SX.out)
       rw[A1.out.2.2.2] at CP
       have cc:∀ o,wc.cell? ⟨b,o,none⟩=wr.cell? ⟨b,o,none⟩:=fun o=>World.cell?_of_block (hBc.block b HBL.out)
       have c1:=(cc _).trans C5.out.2.1
       have c2:=(cc _).trans C5.out.2.2.1
       have c3:=(cc _).trans C5.out.2.2.2.1
       have c4:=(cc _).trans C5.out.2.2.2.2
       have PV:=hid (fun q hq=>by
        obtain⟨m,h1,h2⟩:=PREV.out q hq
        exact (⟨m,(cc _).trans h1,h2⟩:∃ m:Int,wc.cell? ⟨b,off+q*5,none⟩=some (.int .i64 m)∧m<x.1))
       have c0:=hid ((cc _).trans C5.out.1)
       clear hBc cc
       obtain⟨wd,hwd⟩:∃ wd:World,wd=wc:=⟨_,rfl⟩
       subst hwd
       go_wp2_with fail
       refine CP.out.mono ?_
       rintro e w9 ⟨rfl,hb9⟩
       have BE:=hid (BC.out.trans (hb9.mono BC.out.size))
       have HLT:Hid (b<wd.heap.size):=hid (World.block_lt_of_cell? wd _ c0.out)
       have d0:=(World.cell?_of_block (hb9.block b HLT.out)).trans c0.out
       have PV2:=hid (fun q hq=>by
        obtain⟨m,h1,h2⟩:=PV.out q hq
        exact (⟨m,(World.cell?_of_block (hb9.block b HLT.out)).trans h1,h2⟩:∃ m:Int,w9.cell? ⟨b,off+q*5,none⟩=some (.int .i64 m)∧m<x.1))
       clear hb9 c1 c2 c3 c4 c0 CP
       cases i with
       | zero =>
        have z3:decide ((0:Int)<((0:Nat):Int))=false:=rfl
        have y0:=am_ d0
        go_wp2
        refine bx_ (by kernel_rfl) (by kernel_rfl) ?_
        repeat (go_big_quiet_step (fail))
        refine wpQuiet_nil ?_
        intro _ hw'
        obtain⟨pq,hw''⟩:=hw'
        subst hw''
        go_wp2
        go_roundw
        case measure=>simp[intOf];omega
        case rel=>exact⟨1,by go_num,by omega,BE.out.trans ((aD_ _ _).mono BE.out.size)⟩
       | succ q =>
        obtain⟨m,hm,hlt⟩:=PV2.out q rfl
        have z3:decide ((0:Int)<((q+1:Nat):Int))=true:=decide_eq_true (by omega)
        have z4:decide (x.1≤m)=false:=decide_eq_false (by omega)
        have e1:((q+1:Nat):Int) - 1=(q:Int):=by omega
        have q0:(0:Int)≤(q:Int):=by omega
        have q1:(q:Int)<((gq_ K).length:Int):=by omega
        have y0:=am_ d0
        have y1:=am_ hm
        go_wp2
        refine bx_ (by kernel_rfl) (by kernel_rfl) ?_
        repeat (go_big_quiet_step (fail))
        refine wpQuiet_nil ?_
        intro _ hw'
        obtain⟨pq,hw''⟩:=hw'
        subst hw''
        go_wp2
        go_roundw
        case measure=>simp[intOf];omega
        case rel=>exact⟨q+1+1,by go_num,by omega,BE.out.trans ((aD_ _ _).mono BE.out.size)⟩
      ·obtain rfl:i=(gq_ K).length:=by omega
       clear hi hil i0
       go_wp2
       go_ret
       exact⟨rfl,BR2.out⟩
end Go.Proofs.YtjecnionbjlncaaGreatDoor.Tp

namespace Go.Proofs.YtjecnionbjlncaaGreatDoor.unifySolves
open Go.ChangeShapes Go.WideShapes Go.ChangeAt Go.WideMaps Go.WideElems Go.RowKit
open Go.ChangeMaps (open_string shut_string)
open Tp (Tab sp_ qa_ s2_ own laidOut)

/-! ### the row's step, as the kit's worked example (a law over laid variables) has it -/
set_option linter.unusedVariables false in
set_option maxRecDepth 100000 in
theorem lifted (os : Os) (started : os.Started) (H : Type) (enc : TypeId × Value → H) :
    ReturnsInHanded {} Tryz.checked os 9 .any (fun w args => (Rows.unifySolvesSpec.pre enc Tryz.prog Tryz.f9 [] false w args ∧ laidMetH Tryz.prog sp_ w) ∧ sizedMet enc Tryz.prog Tryz.f9 (OpenSpec.ofChange Rows.unifySolvesSpec) false w args)
      (Rows.unifySolvesSpec.post enc Tryz.prog Tryz.f9 false true false false) := by
  refine returnsInHanded_of_change_and (C := Tryz.checked) (X := fun w _ => laidMetH Tryz.prog sp_ w) (fun _ _ _ hh h => h.of_heap hh) own started (by kernel_rfl) Tryz.func9
    (ChangeSpec.witness_shaped (enc := enc) (C := Tryz.checked) (os := os) (X := fun w _ => laidMetH Tryz.prog sp_ w) false (World.doorLaid Tryz.prog 400 os) #[.slice none 0 0] 8 rfl (World.shaped_of_RefB (by kernel_rfl) (by kernel_rfl)) (by kernel_rfl) (by kernel_rfl) (by kernel_rfl) (s2_ os _)) ?_
  intro W base args ds gs before hval0 hW _ _ hL _
  have hval : ∀ (j : Nat) t v, Tryz.f9.params[j]? = some t → args[j]? = some v → Value.okWide Tryz.prog W .any base t v := hval0
  have hW' := hW
  obtain ⟨p, q, hA0, hV, rfl, hfz, hnd⟩ := hW
  have hA : DataW.TrodAll enc Tryz.prog W 0 (fun _ => true) true Tryz.f9.params.toList args.toList ds p := hA0
  rw [Tryz.params9] at hA hval
  obtain ⟨v0, vs0, d0, ds0, p0, q0, hargs, rfl, rfl, h0, r0⟩ := trodAll_cons hA
  obtain ⟨rfl, rfl, rfl⟩ := trodAll_nil r0
  obtain rfl : args = #[v0] := by cases args; simp_all
  obtain ⟨rfl, rfl⟩ := trodVars_none hV
  have k0 := h0
  have lt0 : ∀ x ∈ p0, x.block < W.heap.size := by obtain ⟨m, hm⟩ := k0; exact DataW.trod_lt m _ _ _ hm
  obtain ⟨a0, w0⟩ := Tp.opnL (hval 0 22 v0 rfl rfl) h0
  clear hA0 hval0
  refine (Tp.unifySolves_walk v0 a0 W w0 (qa_ hL)).mono fun e W' ⟨he, bel⟩ => ?_
  subst he
  exact ⟨_, rfl, _, _, _, [], _, [], hW', trodAll_mk1 (shut_bool Tryz.underlying4 _), (trodAll_cons_mk (Below.trod laidOut (by kernel_rfl) (of_decide_eq_true (by kernel_rfl)) k0 bel lt0) trodAll_mk0), rfl, bel.frame _, fun h => by cases h⟩

theorem row_holds : Rows.UnifySolvesSaid :=
  OpenClaim.holds_of_wide 9 Tryz.f9 rfl rfl rfl rfl rfl rfl rfl ⟨rfl, rfl, rfl, rfl, rfl⟩ rfl rfl rfl rfl rfl (by kernel_rfl) Tryz.func9 (by kernel_rfl)
    (of_decide_eq_true (by kernel_rfl)) (by unfold Func.isWrapper; first | (rw [if_pos (by decide +kernel)]; kernel_rfl) | (rw [if_neg (by decide +kernel)]; exact ⟨rfl, rfl⟩))
    (fun os started H enc _ => lifted os started H enc)

/-- THE STATEMENT: the row, tied to the program's text. -/
theorem proved : Rows.UnifySolvesCardSaid :=
  Claim7.holds_tied_plain_at .later [] [.data, .data, .data, .sentinel, .sentinel] true Rows.unifySolvesCard.stood.harness true
    row_holds (fun _ h => by cases h) (by kernel_rfl) (fun _ h => by cases h) unifySolves_row_tie rfl ⟨rfl, rfl⟩ (by kernel_rfl) rfl
    (fun f fn hf hfn => by
      obtain rfl : f = 9 := Option.some.inj ((show Tryz.prog.funcNamed "savant/savantlaw04.UnifySolves" = some 9 by kernel_rfl).symm.trans hf) |>.symm
      obtain rfl : fn = Tryz.f9 := (Option.some.inj (Tryz.func9.symm.trans hfn)).symm
      exact ⟨by kernel_rfl, fun j t ht => by
        rw [Tryz.params9] at ht
        have hm : t ∈ [22] := by simpa using Array.mem_of_getElem? ht
        have hall : ([22].all fun u => !Tryz.prog.wantsStandIn u) = true := by kernel_rfl
        exact (show Tryz.prog.wantsStandIn t = false by simpa using List.all_eq_true.1 hall t hm)⟩)
    (by kernel_rfl)
#print axioms proved
end Go.Proofs.YtjecnionbjlncaaGreatDoor.unifySolves

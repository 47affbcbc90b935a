/-
  Whether there are types by which one type is another one, and which, is as the document says: for every two texts that are types of at most 400 bytes without too large an unknown, and every list of at most twenty names; at anything else the law tells what its examples tell.
-/
import Derived.Test.YtofllmemmggapaaGreatDoorP37
import Derived.Test.YtofllmemmggapaaGreatDoorP49
import Derived.Test.YtofllmemmggapaaGreatDoorP50
import Derived.Test.YtofllmemmggapaaGreatDoorCards
import Derived.Test.YtofllmemmggapaaGreatDoorTie
import Derived.SevenTiedAt

namespace Go.Proofs.YtofllmemmggapaaGreatDoor.Tp
open Go.RowKit Go.Sort
set_option maxRecDepth 100000 in
set_option maxHeartbeats 1600000 in
theorem matchPlays_walk (a0:ByteArray)(z0:a0.size≤maxLen)(a1:ByteArray)(z1:a1.size≤maxLen)(v2:Value)(l2:List ByteArray){w:World}(hin:VarsIn w v2 l2)(hT:Tab w):Calls Tryz.prog 3 #[.string a0,.string a1,v2] w fun e w'=>e=.returned (.bool true)∧Below w.heap.size w w':=by
 obtain⟨va,vc,rfl,_⟩:=id hin
 have HT:=hid hT
 cases h0:rdT a0 with
 | none =>
  have HP0:=hid h0
  clear hT h0
  go_enter Tryz.func3,Tryz.ntmps3
  go_wp2_with fail
  refine (awake3_any _ HT.out).mono ?_
  rintro e w1 ⟨rfl,hB⟩
  have B_1:=hid (hB)
  clear hB
  go_wp2_with fail
  refine (rd_none _ a0 z0 HP0.out).mono ?_
  rintro e w2 ⟨pk,pn,ps,pa,pl,pc,pk2,pn2,ps2,pa2,pl2,pc2,rfl,hB⟩
  have B_2:=hid (B_1.out.trans (hB.mono B_1.out.size))
  clear hB B_1
  go_wp2_with fail
  refine (rd_any _ a1 z1).mono ?_
  rintro e w3 ⟨r1k,r1n,r1s,r1a,r1l,r1c,r1k2,r1n2,r1s2,r1a2,r1l2,r1c2,r1b,rfl,hB⟩
  have B_3:=hid (B_2.out.trans (hB.mono B_2.out.size))
  clear hB B_2
  go_wp2
  go_ret
  exact⟨rfl,B_3.out⟩
 | some x =>
  have HP0:=hid h0
  cases h1:rdT a1 with
  | none =>
   have HP1:=hid h1
   clear hT h0 h1
   go_enter Tryz.func3,Tryz.ntmps3
   go_wp2_with fail
   refine (awake3_any _ HT.out).mono ?_
   rintro e w1 ⟨rfl,hB⟩
   have B_1:=hid (hB)
   clear hB
   go_wp2_with fail
   refine (rd_some _ _ HP0.out).mono ?_
   rintro e w2 ⟨aX,cX,aXr,cXr,rfl,hR,hQ,hB⟩
   clear hQ
   have B_2:=hid (B_1.out.trans (hB.mono B_1.out.size))
   have RX_2:=hid hR
   clear hB hR B_1
   clear RX_2
   go_wp2_with fail
   refine (rd_none _ a1 z1 HP1.out).mono ?_
   rintro e w3 ⟨pk,pn,ps,pa,pl,pc,pk2,pn2,ps2,pa2,pl2,pc2,rfl,hB⟩
   have B_3:=hid (B_2.out.trans (hB.mono B_2.out.size))
   clear hB B_2
   go_wp2
   go_ret
   exact⟨rfl,B_3.out⟩
  | some y =>
   have HP1:=hid h1
   cases hv:decide ((20:Int)<(l2.length:Int)) with
   | true =>
    clear hT h0 h1
    go_enter Tryz.func3,Tryz.ntmps3
    go_wp2_with fail
    refine (awake3_any _ HT.out).mono ?_
    rintro e w1 ⟨rfl,hB⟩
    have B_1:=hid (hB)
    clear hB
    go_wp2_with fail
    refine (rd_some _ _ HP0.out).mono ?_
    rintro e w2 ⟨aX,cX,aXr,cXr,rfl,hR,hQ,hB⟩
    clear hQ
    have B_2:=hid (B_1.out.trans (hB.mono B_1.out.size))
    have RX_2:=hid hR
    clear hB hR B_1
    clear RX_2
    go_wp2_with fail
    refine (rd_some _ _ HP1.out).mono ?_
    rintro e w3 ⟨aY,cY,aYr,cYr,rfl,hR,hQ,hB⟩
    clear hQ
    have B_3:=hid (B_2.out.trans (hB.mono B_2.out.size))
    have RY_3:=hid hR
    clear hB hR B_2
    clear RY_3
    go_wp2
    go_ret
    exact⟨rfl,B_3.out⟩
   | false =>
    have hv20:l2.length≤20:=by have:=of_decide_eq_false hv;omega
    have hRM:RefM x y l2:=rd_refM h0 h1 (by omega)
    have SY:=hid (rd_small h1)
    have ZX:Hid (x.size≤4000):=hid (rd_made h0).2.2
    have HV:=hid (hin.strs (by omega))
    have RR:=hid hRM
    have ES:=hRM.same
    clear hT h0 h1 hin hRM hv20
    obtain⟨m,hm⟩:∃ m,MatchT x y l2=m:=⟨_,rfl⟩
    rw[hm] at ES
    have EM:=hid hm
    have ER:=hid ES
    clear hm ES
    cases m with
    | none =>
     go_enter Tryz.func3,Tryz.ntmps3
     go_wp2_with fail
     refine (awake3_any _ HT.out).mono ?_
     rintro e w1 ⟨rfl,hB⟩
     have B_1:=hid (hB)
     clear hB
     go_wp2_with fail
     refine (rd_some _ _ HP0.out).mono ?_
     rintro e w2 ⟨aX,cX,aXr,cXr,rfl,hR,hQ,hB⟩
     have B_2:=hid (B_1.out.trans (hB.mono B_1.out.size))
     have RX_2:=hid hR
     have QX_2:=hid hQ
     clear hB hR hQ B_1
     go_wp2_with fail
     refine (rd_some _ _ HP1.out).mono ?_
     rintro e w3 ⟨aY,cY,aYr,cYr,rfl,hR,hQ,hB⟩
     have RX_3:=hid (RX_2.out.low hB)
     have QX_3:=hid (QX_2.out.low hB)
     have B_3:=hid (B_2.out.trans (hB.mono B_2.out.size))
     have RY_3:=hid hR
     have QY_3:=hid hQ
     clear hB hR hQ RX_2 QX_2 B_2
     have k0:=RX_3.out.k.c0
     have k1:=RX_3.out.k.c1
     have k2:=RX_3.out.k.c2
     have k3:=RX_3.out.k.c3
     have l0:=RY_3.out.k.c0
     have l1:=RY_3.out.k.c1
     have l2:=RY_3.out.k.c2
     have l3:=RY_3.out.k.c3
     have C:=hid (match_none_h RX_3.out.at_ RY_3.out.at_ (StrsLow.low HV.out B_3.out) SY.out ZX.out (tab_below HT.out B_3.out) EM.out)
     go_wp2_with fail
     refine C.out.mono ?_
     rintro e w4 ⟨rfl,hB⟩
     clear C k0 k1 k2 k3 l0 l1 l2 l3
     have RX_4:=hid (RX_3.out.low hB)
     have RY_4:=hid (RY_3.out.low hB)
     have QX_4:=hid (QX_3.out.low hB)
     have QY_4:=hid (QY_3.out.low hB)
     have B_4:=hid (B_3.out.trans (hB.mono B_3.out.size))
     clear hB RX_3 RY_3 QX_3 QY_3 B_3
     have k0:=QX_4.out.k.c0
     have k1:=QX_4.out.k.c1
     have k2:=QX_4.out.k.c2
     have k3:=QX_4.out.k.c3
     have l0:=QY_4.out.k.c0
     have l1:=QY_4.out.k.c1
     have l2:=QY_4.out.k.c2
     have l3:=QY_4.out.k.c3
     have C:=hid (rmatch_none_h QX_4.out.at_ QY_4.out.at_ (StrsLow.low HV.out B_4.out) RR.out ER.out)
     go_wp2_with fail
     refine C.out.mono ?_
     rintro e w5 ⟨rfl,hB⟩
     clear C k0 k1 k2 k3 l0 l1 l2 l3
     have RX_5:=hid (RX_4.out.low hB)
     have RY_5:=hid (RY_4.out.low hB)
     have QX_5:=hid (QX_4.out.low hB)
     have QY_5:=hid (QY_4.out.low hB)
     have B_5:=hid (B_4.out.trans (hB.mono B_4.out.size))
     clear hB RX_4 RY_4 QX_4 QY_4 B_4
     clear RX_5
     clear QX_5
     clear RY_5
     clear QY_5
     go_wp2_with fail
     refine (told_no _ _).mono ?_
     rintro e w6 ⟨rfl,hB⟩
     have B_6:=hid (B_5.out.trans (hB.mono B_5.out.size))
     clear hB B_5
     have sq:((⟨#[110,111]⟩:ByteArray).toList==(⟨#[110,111]⟩:ByteArray).toList)=true:=by simp
     go_wp2
     go_ret
     exact⟨rfl,B_6.out⟩
    | some m =>
     have HTL:=tlen_ref RR.out ER.out
     have TL:=hid HTL.1
     have MM:=hid HTL.2
     have hmn:=TL.out.n
     clear HTL
     go_enter Tryz.func3,Tryz.ntmps3
     go_wp2_with fail
     refine (awake3_any _ HT.out).mono ?_
     rintro e w1 ⟨rfl,hB⟩
     have B_1:=hid (hB)
     clear hB
     go_wp2_with fail
     refine (rd_some _ _ HP0.out).mono ?_
     rintro e w2 ⟨aX,cX,aXr,cXr,rfl,hR,hQ,hB⟩
     have B_2:=hid (B_1.out.trans (hB.mono B_1.out.size))
     have RX_2:=hid hR
     have QX_2:=hid hQ
     clear hB hR hQ B_1
     go_wp2_with fail
     refine (rd_some _ _ HP1.out).mono ?_
     rintro e w3 ⟨aY,cY,aYr,cYr,rfl,hR,hQ,hB⟩
     have RX_3:=hid (RX_2.out.low hB)
     have QX_3:=hid (QX_2.out.low hB)
     have B_3:=hid (B_2.out.trans (hB.mono B_2.out.size))
     have RY_3:=hid hR
     have QY_3:=hid hQ
     clear hB hR hQ RX_2 QX_2 B_2
     have k0:=RX_3.out.k.c0
     have k1:=RX_3.out.k.c1
     have k2:=RX_3.out.k.c2
     have k3:=RX_3.out.k.c3
     have l0:=RY_3.out.k.c0
     have l1:=RY_3.out.k.c1
     have l2:=RY_3.out.k.c2
     have l3:=RY_3.out.k.c3
     have C:=hid (match_some_h RX_3.out.at_ RY_3.out.at_ (StrsLow.low HV.out B_3.out) SY.out ZX.out (tab_below HT.out B_3.out) EM.out)
     go_wp2_with fail
     refine C.out.mono ?_
     rintro e w4 ⟨la,lc,rfl,hO,hB⟩
     clear C k0 k1 k2 k3 l0 l1 l2 l3
     have RX_4:=hid (RX_3.out.low hB)
     have RY_4:=hid (RY_3.out.low hB)
     have QX_4:=hid (QX_3.out.low hB)
     have QY_4:=hid (QY_3.out.low hB)
     have B_4:=hid (B_3.out.trans (hB.mono B_3.out.size))
     have OL_4:=hid hO
     clear hB hO RX_3 RY_3 QX_3 QY_3 B_3
     have k0:=QX_4.out.k.c0
     have k1:=QX_4.out.k.c1
     have k2:=QX_4.out.k.c2
     have k3:=QX_4.out.k.c3
     have l0:=QY_4.out.k.c0
     have l1:=QY_4.out.k.c1
     have l2:=QY_4.out.k.c2
     have l3:=QY_4.out.k.c3
     have C:=hid (rmatch_some_h QX_4.out.at_ QY_4.out.at_ (StrsLow.low HV.out B_4.out) RR.out ER.out)
     go_wp2_with fail
     refine C.out.mono ?_
     rintro e w5 ⟨ra,rc,rfl,hO,hB⟩
     clear C k0 k1 k2 k3 l0 l1 l2 l3
     have RX_5:=hid (RX_4.out.low hB)
     have RY_5:=hid (RY_4.out.low hB)
     have QX_5:=hid (QX_4.out.low hB)
     have QY_5:=hid (QY_4.out.low hB)
     have OL_5:=hid (BndAt.low OL_4.out hB)
     have B_5:=hid (B_4.out.trans (hB.mono B_4.out.size))
     have OK_5:=hid hO
     clear hB hO RX_4 RY_4 QX_4 QY_4 OL_4 B_4
     clear RX_5
     clear QX_5
     clear RY_5
     clear QY_5
     have C:=hid (told_yes m _ _ OL_5.out TL.out (tab_below HT.out B_5.out))
     go_wp2_with fail
     refine C.out.mono ?_
     rintro e w6 ⟨rfl,hB⟩
     clear C
     have OL_6:=hid (BndAt.low OL_5.out hB)
     have OK_6:=hid (RowH.low OK_5.out hB)
     have B_6:=hid (B_5.out.trans (hB.mono B_5.out.size))
     clear hB OL_5 OK_5 B_5
     clear OL_6
     obtain⟨wo,hwo⟩:∃ wo:World,wo=w6:=⟨_,rfl⟩
     subst hwo
     go_wp2
     go_loopw [19,20] (fun sv iv wr=>∃ i:Nat,iv=.int .i64 i∧i≤m.length∧sv=.string (toldS (m.take i))∧Below wo.heap.size wo wr) (fun _ iv _=>m.length - (intOf iv).toNat)
     case atStart=>exact⟨0,rfl,Nat.zero_le _,rfl,.refl _ _⟩
     case round =>
      obtain⟨i,rfl,hil,rfl,hB⟩:=hrel
      have HB:=hid hB
      by_cases hi:i<m.length
      ·have z0:(0:Int)≤(i:Int):=by omega
       have z1:(i:Int)<(m.length:Int):=by omega
       obtain⟨n0,hrow,hn0⟩:=OK_6.out.low hB
       obtain⟨g0,a',c',rfl,hg,q0,⟨q1,q2,q3,q4⟩,hA⟩:=hrow.at_ hi
       have k0:=later_cell q0
       have k1:=later_cell q1
       have k2:=later_cell q2
       have k3:=later_cell q3
       have k4:=later_cell q4
       have hmm:=MM.out m[i] (List.getElem_mem hi)
       obtain⟨s1,s2,s3⟩:=TL.out.at_ m[i] (List.getElem_mem hi)
       have hat:AtW m[i].2 a' c' wr:=hA.mono fun b hb=>Nat.lt_of_lt_of_le hb hn0
       have DX:=hid (fun p=>later_of (rcanon_h (hat.low (later_below wr p)) (canonR_mk hmm.1 (by have:=hmm.2;omega))))
       have TS:=hid (toldS_take hi)
       have y1:(toldS (m.take i)).size≤9000000000:=by have:=toldS_len TL.out i hil;have:=TL.out.n;omega
       have y2:(bytes (canonS m[i].2)).size≤400000:=by have:=canonS_len s2;rw[bytes_size];omega
       clear hrow hn0 hg q0 q1 q2 q3 q4 hA hat hB s2 s3 hmm
       unfold StrPost at DX
       generalize toldS (m.take i)=sx at *
       generalize bytes (canonS m[i].2)=cx at *
       generalize m[i].2=u at *
       generalize m[i].1=nm at *
       go_wp2
       refine wp_region_later (by kernel_rfl) (by kernel_rfl) ?_
       repeat (go_big_quiet_step ((with_reducible exact DX.out _)))
       refine wpQuiet_nil ?_
       intro _ hw'
       obtain⟨pq,hw''⟩:=hw'
       subst hw''
       go_wp2
       go_roundw
       case rel=>exact⟨i+1,by go_num,by omega,by rw[TS.out],HB.out.trans ((later_below _ _).mono HB.out.size)⟩
       case measure=>simp[intOf];omega
      ·obtain rfl:i=m.length:=by omega
       rw[List.take_length]
       have sq:((toldS m).toList==(toldS m).toList)=true:=by simp
       clear hB
       generalize toldS m=sx at *
       go_wp2
       go_ret
       exact⟨rfl,B_6.out.trans (HB.out.mono B_6.out.size)⟩
end Go.Proofs.YtofllmemmggapaaGreatDoor.Tp

namespace Go.Proofs.YtofllmemmggapaaGreatDoor.matchPlays
open Go.ChangeShapes Go.WideShapes Go.ChangeAt Go.WideMaps Go.WideElems Go.RowKit
open Go.ChangeMaps (open_string shut_string)
open Tp (Tab laidL tab_of_laid door_met own laidOut)

/-! ### the row's step, as the kit's worked example (a law over laid variables) has it -/
set_option linter.unusedVariables false in
set_option maxRecDepth 100000 in
theorem lifted (os : Os) (started : os.Started) (H : Type) (enc : TypeId × Value → H) :
    ReturnsInHanded {} Tryz.checked os 3 .any (fun w args => (Rows.matchPlaysSpec.pre enc Tryz.prog Tryz.f3 [] false w args ∧ laidMetH Tryz.prog laidL w) ∧ sizedMet enc Tryz.prog Tryz.f3 (OpenSpec.ofChange Rows.matchPlaysSpec) false w args)
      (Rows.matchPlaysSpec.post enc Tryz.prog Tryz.f3 false true false false) := by
  refine returnsInHanded_of_change_and (C := Tryz.checked) (X := fun w _ => laidMetH Tryz.prog laidL w) (fun _ _ _ hh h => h.of_heap hh) own started (by kernel_rfl) Tryz.func3
    (ChangeSpec.witness_shaped (enc := enc) (C := Tryz.checked) (os := os) (X := fun w _ => laidMetH Tryz.prog laidL w) false (World.doorLaid Tryz.prog 400 os) #[.string ByteArray.empty, .string ByteArray.empty, .slice none 0 0] 8 rfl (World.shaped_of_RefB (by kernel_rfl) (by kernel_rfl)) (by kernel_rfl) (by kernel_rfl) (by kernel_rfl) (door_met os _)) ?_
  intro W base args ds gs before hval0 hW _ _ hL _
  have hval : ∀ (j : Nat) t v, Tryz.f3.params[j]? = some t → args[j]? = some v → Value.okWide Tryz.prog W .any base t v := hval0
  have hW' := hW
  obtain ⟨p, q, hA0, hV, rfl, hfz, hnd⟩ := hW
  have hA : DataW.TrodAll enc Tryz.prog W 0 (fun _ => true) true Tryz.f3.params.toList args.toList ds p := hA0
  rw [Tryz.params3] at hA hval
  obtain ⟨v0, vs0, d0, ds0, p0, q0, hargs, rfl, rfl, h0, r0⟩ := trodAll_cons hA
  obtain ⟨v1, vs1, d1, ds1, p1, q1, rfl, rfl, rfl, h1, r1⟩ := trodAll_cons r0
  obtain ⟨v2, vs2, d2, ds2, p2, q2, rfl, rfl, rfl, h2, r2⟩ := trodAll_cons r1
  obtain ⟨rfl, rfl, rfl⟩ := trodAll_nil r2
  obtain rfl : args = #[v0, v1, v2] := by cases args; simp_all
  obtain ⟨rfl, rfl⟩ := trodVars_none hV
  obtain ⟨a0, rfl, rfl, rfl, w0⟩ := open_string Tryz.underlying9 (hval 0 9 v0 rfl rfl) h0
  obtain ⟨a1, rfl, rfl, rfl, w1⟩ := open_string Tryz.underlying9 (hval 1 9 v1 rfl rfl) h1
  have k2 := h2
  have lt2 : ∀ x ∈ p2, x.block < W.heap.size := by obtain ⟨m, hm⟩ := k2; exact DataW.trod_lt m _ _ _ hm
  obtain ⟨a2, w2⟩ := Tp.opnS (hval 2 22 v2 rfl rfl) h2
  clear hA0 hval0
  refine (Tp.matchPlays_walk a0 w0 a1 w1 v2 a2 w2 (tab_of_laid hL)).mono fun e W' ⟨he, bel⟩ => ?_
  subst he
  exact ⟨_, rfl, _, _, _, [], _, [], hW', trodAll_mk1 (shut_bool Tryz.underlying4 _), (trodAll_cons_mk (shut_string Tryz.underlying9 w0) (trodAll_cons_mk (shut_string Tryz.underlying9 w1) (trodAll_cons_mk (Below.trod laidOut (by kernel_rfl) (of_decide_eq_true (by kernel_rfl)) k2 bel lt2) trodAll_mk0))), rfl, bel.frame _, fun h => by cases h⟩

theorem row_holds : Rows.MatchPlaysSaid :=
  OpenClaim.holds_of_wide 3 Tryz.f3 rfl rfl rfl rfl rfl rfl rfl ⟨rfl, rfl, rfl, rfl, rfl⟩ rfl rfl rfl rfl rfl (by kernel_rfl) Tryz.func3 (by kernel_rfl)
    (of_decide_eq_true (by kernel_rfl)) (by unfold Func.isWrapper; first | (rw [if_pos (by decide +kernel)]; kernel_rfl) | (rw [if_neg (by decide +kernel)]; exact ⟨rfl, rfl⟩))
    (fun os started H enc _ => lifted os started H enc)

/-- THE STATEMENT: the row, tied to the program's text. -/
theorem proved : Rows.MatchPlaysCardSaid :=
  Claim7.holds_tied_plain_at .later [] [.data, .data, .data, .sentinel, .sentinel] true Rows.matchPlaysCard.stood.harness true
    row_holds (fun _ h => by cases h) (by kernel_rfl) (fun _ h => by cases h) matchPlays_row_tie rfl ⟨rfl, rfl⟩ (by kernel_rfl) rfl
    (fun f fn hf hfn => by
      obtain rfl : f = 3 := Option.some.inj ((show Tryz.prog.funcNamed "savant/savantlaw03.MatchPlays" = some 3 by kernel_rfl).symm.trans hf) |>.symm
      obtain rfl : fn = Tryz.f3 := (Option.some.inj (Tryz.func3.symm.trans hfn)).symm
      exact ⟨by kernel_rfl, fun j t ht => by
        rw [Tryz.params3] at ht
        have hm : t ∈ [9, 9, 22] := by simpa using Array.mem_of_getElem? ht
        have hall : ([9, 9, 22].all fun u => !Tryz.prog.wantsStandIn u) = true := by kernel_rfl
        exact (show Tryz.prog.wantsStandIn t = false by simpa using List.all_eq_true.1 hall t hm)⟩)
    (by kernel_rfl)
#print axioms proved
end Go.Proofs.YtofllmemmggapaaGreatDoor.matchPlays

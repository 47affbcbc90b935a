/-
  EACH TYPE IS AN INSTANCE OF ITSELF, and, if it has no for all behind those at its begin, of that for all types: for every text that is a type of at most 400 bytes without too large an unknown; at any other text the law tells what its examples tell.
-/
import Derived.Test.YtofllmemmggapaaGreatDoorP50
import Derived.Test.YtofllmemmggapaaGreatDoorP51
import Derived.Test.YtofllmemmggapaaGreatDoorCards
import Derived.Test.YtofllmemmggapaaGreatDoorTie
import Derived.SevenTiedAt

/- The walk of MatchSelf. (Printed by gen_laws1.py.) -/
namespace Go.Proofs.YtofllmemmggapaaGreatDoor.Tp
open Go.RowKit Go.Sort

set_option maxRecDepth 100000 in
set_option maxHeartbeats 1600000 in
theorem matchSelf_gen (a0 : ByteArray) (z0 : a0.size ≤ maxLen) (w : World) (hT : Tab w) (t9 : Ty) (h9 : rdT ⟨#[102, 111, 114, 97, 108, 108, 32, 97, 46, 32, 97]⟩ = some t9) (hany : ∀ t, Few t9 t → InstT t9 t = !polyT (coreT t)) : Calls Tryz.prog 5 #[.string a0] w fun e w' => e = .returned (.bool true) ∧ Below w.heap.size w w' := by
  have HT := Lib.hid hT
  cases h0 : rdT a0 with
  | none =>
    clear hT h9 hany
    go_enter Tryz.func5, Tryz.ntmps5
    go_wp2_with fail
    refine (awake3_any _ HT.out).mono ?_
    rintro e w1 ⟨rfl, hB⟩
    have B_1 := Lib.hid (hB)
    clear hB
    go_wp2_with fail
    refine (rd_none _ a0 z0 h0).mono ?_
    rintro e w2 ⟨qk, qn, qs, qa, ql, qc, qk2, qn2, qs2, qa2, ql2, qc2, rfl, hB⟩
    have B_2 := Lib.hid (B_1.out.trans (hB.mono B_1.out.size))
    clear hB B_1
    go_wp2
    go_ret
    exact ⟨rfl, B_2.out⟩
  | some t =>
    have hm := rd_made h0
    have R := peel_own hm.1 hm.2.2 hm.2.1
    have HP := Lib.hid h0
    have H9 := Lib.hid h9
    have FT := Lib.hid (rd_few h0 h0)
    have FA := Lib.hid (rd_few h9 h0)
    have MT := Lib.hid hm
    have ES := Lib.hid (inst_self FT.out)
    obtain ⟨b, hb⟩ : ∃ b, polyT (coreT t) = b := ⟨_, rfl⟩
    have EA : Hid (InstT t9 t = !b) := Lib.hid (by rw [← hb]; exact hany t FA.out)
    have EP : Hid (polyT (PeelT pL (freeT t) t).2 = b) := Lib.hid (by rw [← hb]; exact poly_core hm.1 hm.2.2 hm.2.1 R)
    have SP : Hid (Small (PeelT pL (freeT t) t).2) := Lib.hid (few_small hm.2.2 R).1
    clear hT h0 h9 hany hm R hb
    go_enter Tryz.func5, Tryz.ntmps5
    go_wp2_with fail
    refine (awake3_any _ HT.out).mono ?_
    rintro e w1 ⟨rfl, hB⟩
    have B_1 := Lib.hid (hB)
    clear hB
    go_wp2_with fail
    refine (rd_some _ _ HP.out).mono ?_
    rintro e w2 ⟨aT, cT, aTr, cTr, rfl, hR, hQ, hB⟩
    clear hQ
    have B_2 := Lib.hid (B_1.out.trans (hB.mono B_1.out.size))
    have RT_2 := Lib.hid hR
    clear hB hR B_1
    have k0 := RT_2.out.k.c0
    have k1 := RT_2.out.k.c1
    have k2 := RT_2.out.k.c2
    have k3 := RT_2.out.k.c3
    have C := Lib.hid (inst_h RT_2.out.at_ RT_2.out.at_ FT.out (tab_below HT.out B_2.out))
    go_wp2_with fail
    refine C.out.mono ?_
    rintro e w3 ⟨rfl, hB⟩
    clear C k0 k1 k2 k3
    have RT_3 := Lib.hid (RT_2.out.low hB)
    have B_3 := Lib.hid (B_2.out.trans (hB.mono B_2.out.size))
    clear hB RT_2 B_2
    rw [ES.out]
    go_wp2_with fail
    refine (rd_some _ _ H9.out).mono ?_
    rintro e w4 ⟨aA, cA, aAr, cAr, rfl, hR, hQ, hB⟩
    clear hQ
    have RT_4 := Lib.hid (RT_3.out.low hB)
    have B_4 := Lib.hid (B_3.out.trans (hB.mono B_3.out.size))
    have RA_4 := Lib.hid hR
    clear hB hR RT_3 B_3
    have k0 := RA_4.out.k.c0
    have k1 := RA_4.out.k.c1
    have k2 := RA_4.out.k.c2
    have k3 := RA_4.out.k.c3
    have l0 := RT_4.out.k.c0
    have l1 := RT_4.out.k.c1
    have l2 := RT_4.out.k.c2
    have l3 := RT_4.out.k.c3
    have C := Lib.hid (inst_h RA_4.out.at_ RT_4.out.at_ FA.out (tab_below HT.out B_4.out))
    go_wp2_with fail
    refine C.out.mono ?_
    rintro e w5 ⟨rfl, hB⟩
    clear C k0 k1 k2 k3 l0 l1 l2 l3
    have RT_5 := Lib.hid (RT_4.out.low hB)
    have RA_5 := Lib.hid (RA_4.out.low hB)
    have B_5 := Lib.hid (B_4.out.trans (hB.mono B_4.out.size))
    clear hB RT_4 RA_4 B_4
    rw [EA.out]
    clear RA_5
    have k0 := RT_5.out.k.c0
    have k1 := RT_5.out.k.c1
    have k2 := RT_5.out.k.c2
    have k3 := RT_5.out.k.c3
    have C := Lib.hid (peel_h RT_5.out.at_ MT.out (tab_below HT.out B_5.out))
    go_wp2_with fail
    refine C.out.mono ?_
    rintro e w6 ⟨naP, ncP, aP, cP, rfl, hO, hR, hB⟩
    clear C k0 k1 k2 k3
    clear hO
    have RT_6 := Lib.hid (RT_5.out.low hB)
    have B_6 := Lib.hid (B_5.out.trans (hB.mono B_5.out.size))
    have RP_6 := Lib.hid hR
    clear hB hR RT_5 B_5
    generalize PeelT pL (freeT t) t = pr at *
    clear RT_6
    have k0 := RP_6.out.k.c0
    have k1 := RP_6.out.k.c1
    have k2 := RP_6.out.k.c2
    have k3 := RP_6.out.k.c3
    have C := Lib.hid (poly_h RP_6.out.at_ SP.out)
    go_wp2_with fail
    refine C.out.mono ?_
    rintro e w7 ⟨rfl, hB⟩
    clear C k0 k1 k2 k3
    have RP_7 := Lib.hid (RP_6.out.low hB)
    have B_7 := Lib.hid (B_6.out.trans (hB.mono B_6.out.size))
    clear hB RP_6 B_6
    rw [EP.out]
    cases b with
    | true =>
      go_wp2
      go_ret
      exact ⟨rfl, B_7.out⟩
    | false =>
      go_wp2
      go_ret
      exact ⟨rfl, B_7.out⟩

theorem matchSelf_walk (a0 : ByteArray) (z0 : a0.size ≤ maxLen) (w : World) (hT : Tab w) : Calls Tryz.prog 5 #[.string a0] w fun e w' => e = .returned (.bool true) ∧ Below w.heap.size w w' :=
  matchSelf_gen a0 z0 w hT my9 mp9 fun t F => inst_any F (by kernel_rfl)

end Go.Proofs.YtofllmemmggapaaGreatDoor.Tp

/-
  EACH TYPE IS AN INSTANCE OF ITSELF, and, if it has no for all behind those at its begin, of that for all types: for every text that is a type of at most 400 bytes without too large an unknown; at any other text the law tells what its examples tell.
-/
namespace Go.Proofs.YtofllmemmggapaaGreatDoor.matchSelf
open Go.ChangeShapes Go.WideShapes Go.ChangeAt Go.WideMaps Go.WideElems Go.RowKit
open Go.ChangeMaps (open_string shut_string)
open Tp (Tab laidL tab_of_laid door_met own laidOut)

/-! ### the row's step, as the kit's worked example (a law over laid variables) has it -/
set_option linter.unusedVariables false in
set_option maxRecDepth 100000 in
theorem lifted (os : Os) (started : os.Started) (H : Type) (enc : TypeId × Value → H) :
    ReturnsInHanded {} Tryz.checked os 5 .any (fun w args => (Rows.matchSelfSpec.pre enc Tryz.prog Tryz.f5 [] false w args ∧ laidMetH Tryz.prog laidL w) ∧ sizedMet enc Tryz.prog Tryz.f5 (OpenSpec.ofChange Rows.matchSelfSpec) false w args)
      (Rows.matchSelfSpec.post enc Tryz.prog Tryz.f5 false true false false) := by
  refine returnsInHanded_of_change_and (C := Tryz.checked) (X := fun w _ => laidMetH Tryz.prog laidL w) (fun _ _ _ hh h => h.of_heap hh) own started (by kernel_rfl) Tryz.func5
    (ChangeSpec.witness_shaped (enc := enc) (C := Tryz.checked) (os := os) (X := fun w _ => laidMetH Tryz.prog laidL w) false (World.doorLaid Tryz.prog 400 os) #[.string ByteArray.empty] 8 rfl (World.shaped_of_RefB (by kernel_rfl) (by kernel_rfl)) (by kernel_rfl) (by kernel_rfl) (by kernel_rfl) (door_met os _)) ?_
  intro W base args ds gs before hval0 hW _ _ hL _
  have hval : ∀ (j : Nat) t v, Tryz.f5.params[j]? = some t → args[j]? = some v → Value.okWide Tryz.prog W .any base t v := hval0
  have hW' := hW
  obtain ⟨p, q, hA0, hV, rfl, hfz, hnd⟩ := hW
  have hA : DataW.TrodAll enc Tryz.prog W 0 (fun _ => true) true Tryz.f5.params.toList args.toList ds p := hA0
  rw [Tryz.params5] at hA hval
  obtain ⟨v0, vs0, d0, ds0, p0, q0, hargs, rfl, rfl, h0, r0⟩ := trodAll_cons hA
  obtain ⟨rfl, rfl, rfl⟩ := trodAll_nil r0
  obtain rfl : args = #[v0] := by cases args; simp_all
  obtain ⟨rfl, rfl⟩ := trodVars_none hV
  obtain ⟨a0, rfl, rfl, rfl, w0⟩ := open_string Tryz.underlying9 (hval 0 9 v0 rfl rfl) h0
  clear hA0 hval0
  refine (Tp.matchSelf_walk a0 w0 W (tab_of_laid hL)).mono fun e W' ⟨he, bel⟩ => ?_
  subst he
  exact ⟨_, rfl, _, _, _, [], _, [], hW', trodAll_mk1 (shut_bool Tryz.underlying4 _), (trodAll_cons_mk (shut_string Tryz.underlying9 w0) trodAll_mk0), rfl, bel.frame _, fun h => by cases h⟩

theorem row_holds : Rows.MatchSelfSaid :=
  OpenClaim.holds_of_wide 5 Tryz.f5 rfl rfl rfl rfl rfl rfl rfl ⟨rfl, rfl, rfl, rfl, rfl⟩ rfl rfl rfl rfl rfl (by kernel_rfl) Tryz.func5 (by kernel_rfl)
    (of_decide_eq_true (by kernel_rfl)) (by unfold Func.isWrapper; first | (rw [if_pos (by decide +kernel)]; kernel_rfl) | (rw [if_neg (by decide +kernel)]; exact ⟨rfl, rfl⟩))
    (fun os started H enc _ => lifted os started H enc)

/-- THE STATEMENT: the row, tied to the program's text. -/
theorem proved : Rows.MatchSelfCardSaid :=
  Claim7.holds_tied_plain_at .later [] [.data, .data, .data, .sentinel, .sentinel] true Rows.matchSelfCard.stood.harness true
    row_holds (fun _ h => by cases h) (by kernel_rfl) (fun _ h => by cases h) matchSelf_row_tie rfl ⟨rfl, rfl⟩ (by kernel_rfl) rfl
    (fun f fn hf hfn => by
      obtain rfl : f = 5 := Option.some.inj ((show Tryz.prog.funcNamed "savant/savantlaw03.MatchSelf" = some 5 by kernel_rfl).symm.trans hf) |>.symm
      obtain rfl : fn = Tryz.f5 := (Option.some.inj (Tryz.func5.symm.trans hfn)).symm
      exact ⟨by kernel_rfl, fun j t ht => by
        rw [Tryz.params5] at ht
        have hm : t ∈ [9] := by simpa using Array.mem_of_getElem? ht
        have hall : ([9].all fun u => !Tryz.prog.wantsStandIn u) = true := by kernel_rfl
        exact (show Tryz.prog.wantsStandIn t = false by simpa using List.all_eq_true.1 hall t hm)⟩)
    (by kernel_rfl)
#print axioms proved
end Go.Proofs.YtofllmemmggapaaGreatDoor.matchSelf

/-
  WHAT IS AN INSTANCE OF AN INSTANCE IS ONE; and what are instances of one another have bodies of one depth: for every three texts that are types of at most 400 bytes without too large an unknown; at any others the law tells what its examples tell.
-/
import Derived.Test.YtofllmemmggapaaGreatDoorP50
import Derived.Test.YtofllmemmggapaaGreatDoorP51
import Derived.Test.YtofllmemmggapaaGreatDoorCards
import Derived.Test.YtofllmemmggapaaGreatDoorTie
import Derived.SevenTiedAt

/- The walk of MatchSteps. (Printed by gen_laws1.py.) -/
namespace Go.Proofs.YtofllmemmggapaaGreatDoor.Tp
open Go.RowKit Go.Sort

set_option maxRecDepth 100000 in
set_option maxHeartbeats 1600000 in
theorem matchSteps_walk (a0 : ByteArray) (z0 : a0.size ≤ maxLen) (a1 : ByteArray) (z1 : a1.size ≤ maxLen) (a2 : ByteArray) (z2 : a2.size ≤ maxLen) (w : World) (hT : Tab w) : Calls Tryz.prog 6 #[.string a0, .string a1, .string a2] w fun e w' => e = .returned (.bool true) ∧ Below w.heap.size w w' := by
  have HT := Lib.hid hT
  cases h0 : rdT a0 with
  | none =>
    have HP0 := Lib.hid h0
    clear hT h0
    go_enter Tryz.func6, Tryz.ntmps6
    go_wp2_with fail
    refine (awake3_any _ HT.out).mono ?_
    rintro e w1 ⟨rfl, hB⟩
    have B_1 := Lib.hid (hB)
    clear hB
    go_wp2_with fail
    refine (rd_none _ a0 z0 HP0.out).mono ?_
    rintro e w2 ⟨pk, pn, ps, pa, pl, pc, pk2, pn2, ps2, pa2, pl2, pc2, rfl, hB⟩
    have B_2 := Lib.hid (B_1.out.trans (hB.mono B_1.out.size))
    clear hB B_1
    go_wp2_with fail
    refine (rd_any _ a1 z1).mono ?_
    rintro e w3 ⟨r1k, r1n, r1s, r1a, r1l, r1c, r1k2, r1n2, r1s2, r1a2, r1l2, r1c2, r1b, rfl, hB⟩
    have B_3 := Lib.hid (B_2.out.trans (hB.mono B_2.out.size))
    clear hB B_2
    go_wp2_with fail
    refine (rd_any _ a2 z2).mono ?_
    rintro e w4 ⟨r2k, r2n, r2s, r2a, r2l, r2c, r2k2, r2n2, r2s2, r2a2, r2l2, r2c2, r2b, rfl, hB⟩
    have B_4 := Lib.hid (B_3.out.trans (hB.mono B_3.out.size))
    clear hB B_3
    go_wp2
    go_ret
    exact ⟨rfl, B_4.out⟩
  | some x =>
    have HP0 := Lib.hid h0
    cases h1 : rdT a1 with
    | none =>
      have HP1 := Lib.hid h1
      clear hT h1
      go_enter Tryz.func6, Tryz.ntmps6
      go_wp2_with fail
      refine (awake3_any _ HT.out).mono ?_
      rintro e w1 ⟨rfl, hB⟩
      have B_1 := Lib.hid (hB)
      clear hB
      go_wp2_with fail
      refine (rd_some _ _ HP0.out).mono ?_
      rintro e w2 ⟨aX, cX, aXr, cXr, rfl, hR, hQ, hB⟩
      clear hQ
      have B_2 := Lib.hid (B_1.out.trans (hB.mono B_1.out.size))
      have RX_2 := Lib.hid hR
      clear hB hR B_1
      clear RX_2
      go_wp2_with fail
      refine (rd_none _ a1 z1 HP1.out).mono ?_
      rintro e w3 ⟨pk, pn, ps, pa, pl, pc, pk2, pn2, ps2, pa2, pl2, pc2, rfl, hB⟩
      have B_3 := Lib.hid (B_2.out.trans (hB.mono B_2.out.size))
      clear hB B_2
      go_wp2_with fail
      refine (rd_any _ a2 z2).mono ?_
      rintro e w4 ⟨r2k, r2n, r2s, r2a, r2l, r2c, r2k2, r2n2, r2s2, r2a2, r2l2, r2c2, r2b, rfl, hB⟩
      have B_4 := Lib.hid (B_3.out.trans (hB.mono B_3.out.size))
      clear hB B_3
      go_wp2
      go_ret
      exact ⟨rfl, B_4.out⟩
    | some y =>
      have HP1 := Lib.hid h1
      cases h2 : rdT a2 with
      | none =>
        have HP2 := Lib.hid h2
        clear hT h2
        go_enter Tryz.func6, Tryz.ntmps6
        go_wp2_with fail
        refine (awake3_any _ HT.out).mono ?_
        rintro e w1 ⟨rfl, hB⟩
        have B_1 := Lib.hid (hB)
        clear hB
        go_wp2_with fail
        refine (rd_some _ _ HP0.out).mono ?_
        rintro e w2 ⟨aX, cX, aXr, cXr, rfl, hR, hQ, hB⟩
        clear hQ
        have B_2 := Lib.hid (B_1.out.trans (hB.mono B_1.out.size))
        have RX_2 := Lib.hid hR
        clear hB hR B_1
        clear RX_2
        go_wp2_with fail
        refine (rd_some _ _ HP1.out).mono ?_
        rintro e w3 ⟨aY, cY, aYr, cYr, rfl, hR, hQ, hB⟩
        clear hQ
        have B_3 := Lib.hid (B_2.out.trans (hB.mono B_2.out.size))
        have RY_3 := Lib.hid hR
        clear hB hR B_2
        clear RY_3
        go_wp2_with fail
        refine (rd_none _ a2 z2 HP2.out).mono ?_
        rintro e w4 ⟨pk, pn, ps, pa, pl, pc, pk2, pn2, ps2, pa2, pl2, pc2, rfl, hB⟩
        have B_4 := Lib.hid (B_3.out.trans (hB.mono B_3.out.size))
        clear hB B_3
        go_wp2
        go_ret
        exact ⟨rfl, B_4.out⟩
      | some z =>
        have HP2 := Lib.hid h2
        have hmx := rd_made h0
        have hmy := rd_made h1
        have FXY := Lib.hid (rd_few h0 h1)
        have FYZ := Lib.hid (rd_few h1 h2)
        have FXZ := Lib.hid (rd_few h0 h2)
        have FYX := Lib.hid (rd_few h1 h0)
        have MX := Lib.hid hmx
        have MY := Lib.hid hmy
        have RX := peel_own hmx.1 hmx.2.2 hmx.2.1
        have RY := peel_own hmy.1 hmy.2.2 hmy.2.1
        have H3 : Hid (InstT x y = true → InstT y z = true → InstT x z = true) := Lib.hid (fun p q => inst_steps FXY.out FYZ.out FXZ.out p q)
        have HD : Hid (InstT x y = true → InstT y x = true → (PeelT pL (freeT x) x).2.depth = (PeelT pL (freeT y) y).2.depth) := Lib.hid (fun p q => by rw [depth_core hmx.1 hmx.2.2 hmx.2.1 RX, depth_core hmy.1 hmy.2.2 hmy.2.1 RY]; exact inst_depth FXY.out FYX.out p q)
        have DX : Hid ((PeelT pL (freeT x) x).2.depth ≤ 100000) := Lib.hid (by have := RX.depth; omega)
        have DY : Hid ((PeelT pL (freeT y) y).2.depth ≤ 100000) := Lib.hid (by have := RY.depth; omega)
        clear hT h0 h1 h2 hmx hmy RX RY
        go_enter Tryz.func6, Tryz.ntmps6
        go_wp2_with fail
        refine (awake3_any _ HT.out).mono ?_
        rintro e w1 ⟨rfl, hB⟩
        have B_1 := Lib.hid (hB)
        clear hB
        go_wp2_with fail
        refine (rd_some _ _ HP0.out).mono ?_
        rintro e w2 ⟨aX, cX, aXr, cXr, rfl, hR, hQ, hB⟩
        clear hQ
        have B_2 := Lib.hid (B_1.out.trans (hB.mono B_1.out.size))
        have RX_2 := Lib.hid hR
        clear hB hR B_1
        go_wp2_with fail
        refine (rd_some _ _ HP1.out).mono ?_
        rintro e w3 ⟨aY, cY, aYr, cYr, rfl, hR, hQ, hB⟩
        clear hQ
        have RX_3 := Lib.hid (RX_2.out.low hB)
        have B_3 := Lib.hid (B_2.out.trans (hB.mono B_2.out.size))
        have RY_3 := Lib.hid hR
        clear hB hR RX_2 B_2
        go_wp2_with fail
        refine (rd_some _ _ HP2.out).mono ?_
        rintro e w4 ⟨aZ, cZ, aZr, cZr, rfl, hR, hQ, hB⟩
        clear hQ
        have RX_4 := Lib.hid (RX_3.out.low hB)
        have RY_4 := Lib.hid (RY_3.out.low hB)
        have B_4 := Lib.hid (B_3.out.trans (hB.mono B_3.out.size))
        have RZ_4 := Lib.hid hR
        clear hB hR RX_3 RY_3 B_3
        have k0 := RX_4.out.k.c0
        have k1 := RX_4.out.k.c1
        have k2 := RX_4.out.k.c2
        have k3 := RX_4.out.k.c3
        have l0 := RY_4.out.k.c0
        have l1 := RY_4.out.k.c1
        have l2 := RY_4.out.k.c2
        have l3 := RY_4.out.k.c3
        have C := Lib.hid (inst_h RX_4.out.at_ RY_4.out.at_ FXY.out (tab_below HT.out B_4.out))
        go_wp2_with fail
        refine C.out.mono ?_
        rintro e w5 ⟨rfl, hB⟩
        clear C k0 k1 k2 k3 l0 l1 l2 l3
        have RX_5 := Lib.hid (RX_4.out.low hB)
        have RY_5 := Lib.hid (RY_4.out.low hB)
        have RZ_5 := Lib.hid (RZ_4.out.low hB)
        have B_5 := Lib.hid (B_4.out.trans (hB.mono B_4.out.size))
        clear hB RX_4 RY_4 RZ_4 B_4
        have k0 := RY_5.out.k.c0
        have k1 := RY_5.out.k.c1
        have k2 := RY_5.out.k.c2
        have k3 := RY_5.out.k.c3
        have l0 := RZ_5.out.k.c0
        have l1 := RZ_5.out.k.c1
        have l2 := RZ_5.out.k.c2
        have l3 := RZ_5.out.k.c3
        have C := Lib.hid (inst_h RY_5.out.at_ RZ_5.out.at_ FYZ.out (tab_below HT.out B_5.out))
        go_wp2_with fail
        refine C.out.mono ?_
        rintro e w6 ⟨rfl, hB⟩
        clear C k0 k1 k2 k3 l0 l1 l2 l3
        have RX_6 := Lib.hid (RX_5.out.low hB)
        have RY_6 := Lib.hid (RY_5.out.low hB)
        have RZ_6 := Lib.hid (RZ_5.out.low hB)
        have B_6 := Lib.hid (B_5.out.trans (hB.mono B_5.out.size))
        clear hB RX_5 RY_5 RZ_5 B_5
        have k0 := RX_6.out.k.c0
        have k1 := RX_6.out.k.c1
        have k2 := RX_6.out.k.c2
        have k3 := RX_6.out.k.c3
        have l0 := RZ_6.out.k.c0
        have l1 := RZ_6.out.k.c1
        have l2 := RZ_6.out.k.c2
        have l3 := RZ_6.out.k.c3
        have C := Lib.hid (inst_h RX_6.out.at_ RZ_6.out.at_ FXZ.out (tab_below HT.out B_6.out))
        go_wp2_with fail
        refine C.out.mono ?_
        rintro e w7 ⟨rfl, hB⟩
        clear C k0 k1 k2 k3 l0 l1 l2 l3
        have RX_7 := Lib.hid (RX_6.out.low hB)
        have RY_7 := Lib.hid (RY_6.out.low hB)
        have RZ_7 := Lib.hid (RZ_6.out.low hB)
        have B_7 := Lib.hid (B_6.out.trans (hB.mono B_6.out.size))
        clear hB RX_6 RY_6 RZ_6 B_6
        have k0 := RY_7.out.k.c0
        have k1 := RY_7.out.k.c1
        have k2 := RY_7.out.k.c2
        have k3 := RY_7.out.k.c3
        have l0 := RX_7.out.k.c0
        have l1 := RX_7.out.k.c1
        have l2 := RX_7.out.k.c2
        have l3 := RX_7.out.k.c3
        have C := Lib.hid (inst_h RY_7.out.at_ RX_7.out.at_ FYX.out (tab_below HT.out B_7.out))
        go_wp2_with fail
        refine C.out.mono ?_
        rintro e w8 ⟨rfl, hB⟩
        clear C k0 k1 k2 k3 l0 l1 l2 l3
        have RX_8 := Lib.hid (RX_7.out.low hB)
        have RY_8 := Lib.hid (RY_7.out.low hB)
        have RZ_8 := Lib.hid (RZ_7.out.low hB)
        have B_8 := Lib.hid (B_7.out.trans (hB.mono B_7.out.size))
        clear hB RX_7 RY_7 RZ_7 B_7
        clear RZ_8
        have k0 := RX_8.out.k.c0
        have k1 := RX_8.out.k.c1
        have k2 := RX_8.out.k.c2
        have k3 := RX_8.out.k.c3
        have C := Lib.hid (peel_h RX_8.out.at_ MX.out (tab_below HT.out B_8.out))
        go_wp2_with fail
        refine C.out.mono ?_
        rintro e w9 ⟨naU, ncU, aU, cU, rfl, hO, hR, hB⟩
        clear C k0 k1 k2 k3
        clear hO
        have RX_9 := Lib.hid (RX_8.out.low hB)
        have RY_9 := Lib.hid (RY_8.out.low hB)
        have B_9 := Lib.hid (B_8.out.trans (hB.mono B_8.out.size))
        have RU_9 := Lib.hid hR
        clear hB hR RX_8 RY_8 B_8
        have k0 := RY_9.out.k.c0
        have k1 := RY_9.out.k.c1
        have k2 := RY_9.out.k.c2
        have k3 := RY_9.out.k.c3
        have C := Lib.hid (peel_h RY_9.out.at_ MY.out (tab_below HT.out B_9.out))
        go_wp2_with fail
        refine C.out.mono ?_
        rintro e w10 ⟨naW, ncW, aW, cW, rfl, hO, hR, hB⟩
        clear C k0 k1 k2 k3
        clear hO
        have RX_10 := Lib.hid (RX_9.out.low hB)
        have RY_10 := Lib.hid (RY_9.out.low hB)
        have RU_10 := Lib.hid (RU_9.out.low hB)
        have B_10 := Lib.hid (B_9.out.trans (hB.mono B_9.out.size))
        have RW_10 := Lib.hid hR
        clear hB hR RX_9 RY_9 RU_9 B_9
        clear RX_10
        clear RY_10
        generalize PeelT pL (freeT x) x = px at *
        generalize PeelT pL (freeT y) y = py at *
        have k0 := RU_10.out.k.c0
        have k1 := RU_10.out.k.c1
        have k2 := RU_10.out.k.c2
        have k3 := RU_10.out.k.c3
        have C := Lib.hid (depth_h RU_10.out.at_ DX.out)
        go_wp2_with fail
        refine C.out.mono ?_
        rintro e w11 ⟨rfl, hB⟩
        clear C k0 k1 k2 k3
        have RU_11 := Lib.hid (RU_10.out.low hB)
        have RW_11 := Lib.hid (RW_10.out.low hB)
        have B_11 := Lib.hid (B_10.out.trans (hB.mono B_10.out.size))
        clear hB RU_10 RW_10 B_10
        clear RU_11
        have k0 := RW_11.out.k.c0
        have k1 := RW_11.out.k.c1
        have k2 := RW_11.out.k.c2
        have k3 := RW_11.out.k.c3
        have C := Lib.hid (depth_h RW_11.out.at_ DY.out)
        go_wp2_with fail
        refine C.out.mono ?_
        rintro e w12 ⟨rfl, hB⟩
        clear C k0 k1 k2 k3
        have RW_12 := Lib.hid (RW_11.out.low hB)
        have B_12 := Lib.hid (B_11.out.trans (hB.mono B_11.out.size))
        clear hB RW_11 B_11
        clear RW_12
        generalize InstT x y = b1 at *
        generalize InstT y z = b2 at *
        generalize InstT x z = b3 at *
        generalize InstT y x = b4 at *
        cases b1 with
        | false =>
          go_wp2
          go_ret
          exact ⟨rfl, B_12.out⟩
        | true =>
          have HQ : Hid (b2 = false ∨ (b2 = true ∧ b3 = true)) := Lib.hid (by cases b2 with | false => exact .inl rfl | true => exact .inr ⟨rfl, H3.out rfl rfl⟩)
          cases b4 with
          | false =>
            rcases HQ.out with rfl | ⟨rfl, rfl⟩
            · go_wp2
              go_ret
              exact ⟨rfl, B_12.out⟩
            · go_wp2
              go_ret
              exact ⟨rfl, B_12.out⟩
          | true =>
            have hdd := HD.out rfl rfl
            rw [hdd]
            have hbe : ((py.2.depth : Int) == (py.2.depth : Int)) = true := by simp
            rcases HQ.out with rfl | ⟨rfl, rfl⟩
            · go_wp2
              go_ret
              exact ⟨rfl, B_12.out⟩
            · go_wp2
              go_ret
              exact ⟨rfl, B_12.out⟩

end Go.Proofs.YtofllmemmggapaaGreatDoor.Tp

/-
  WHAT IS AN INSTANCE OF AN INSTANCE IS ONE; and what are instances of one another have bodies of one depth: for every three texts that are types of at most 400 bytes without too large an unknown; at any others the law tells what its examples tell.
-/
namespace Go.Proofs.YtofllmemmggapaaGreatDoor.matchSteps
open Go.ChangeShapes Go.WideShapes Go.ChangeAt Go.WideMaps Go.WideElems Go.RowKit
open Go.ChangeMaps (open_string shut_string)
open Tp (Tab laidL tab_of_laid door_met own laidOut)

/-! ### the row's step, as the kit's worked example (a law over laid variables) has it -/
set_option linter.unusedVariables false in
set_option maxRecDepth 100000 in
theorem lifted (os : Os) (started : os.Started) (H : Type) (enc : TypeId × Value → H) :
    ReturnsInHanded {} Tryz.checked os 6 .any (fun w args => (Rows.matchStepsSpec.pre enc Tryz.prog Tryz.f6 [] false w args ∧ laidMetH Tryz.prog laidL w) ∧ sizedMet enc Tryz.prog Tryz.f6 (OpenSpec.ofChange Rows.matchStepsSpec) false w args)
      (Rows.matchStepsSpec.post enc Tryz.prog Tryz.f6 false true false false) := by
  refine returnsInHanded_of_change_and (C := Tryz.checked) (X := fun w _ => laidMetH Tryz.prog laidL w) (fun _ _ _ hh h => h.of_heap hh) own started (by kernel_rfl) Tryz.func6
    (ChangeSpec.witness_shaped (enc := enc) (C := Tryz.checked) (os := os) (X := fun w _ => laidMetH Tryz.prog laidL w) false (World.doorLaid Tryz.prog 400 os) #[.string ByteArray.empty, .string ByteArray.empty, .string ByteArray.empty] 8 rfl (World.shaped_of_RefB (by kernel_rfl) (by kernel_rfl)) (by kernel_rfl) (by kernel_rfl) (by kernel_rfl) (door_met os _)) ?_
  intro W base args ds gs before hval0 hW _ _ hL _
  have hval : ∀ (j : Nat) t v, Tryz.f6.params[j]? = some t → args[j]? = some v → Value.okWide Tryz.prog W .any base t v := hval0
  have hW' := hW
  obtain ⟨p, q, hA0, hV, rfl, hfz, hnd⟩ := hW
  have hA : DataW.TrodAll enc Tryz.prog W 0 (fun _ => true) true Tryz.f6.params.toList args.toList ds p := hA0
  rw [Tryz.params6] at hA hval
  obtain ⟨v0, vs0, d0, ds0, p0, q0, hargs, rfl, rfl, h0, r0⟩ := trodAll_cons hA
  obtain ⟨v1, vs1, d1, ds1, p1, q1, rfl, rfl, rfl, h1, r1⟩ := trodAll_cons r0
  obtain ⟨v2, vs2, d2, ds2, p2, q2, rfl, rfl, rfl, h2, r2⟩ := trodAll_cons r1
  obtain ⟨rfl, rfl, rfl⟩ := trodAll_nil r2
  obtain rfl : args = #[v0, v1, v2] := by cases args; simp_all
  obtain ⟨rfl, rfl⟩ := trodVars_none hV
  obtain ⟨a0, rfl, rfl, rfl, w0⟩ := open_string Tryz.underlying9 (hval 0 9 v0 rfl rfl) h0
  obtain ⟨a1, rfl, rfl, rfl, w1⟩ := open_string Tryz.underlying9 (hval 1 9 v1 rfl rfl) h1
  obtain ⟨a2, rfl, rfl, rfl, w2⟩ := open_string Tryz.underlying9 (hval 2 9 v2 rfl rfl) h2
  clear hA0 hval0
  refine (Tp.matchSteps_walk a0 w0 a1 w1 a2 w2 W (tab_of_laid hL)).mono fun e W' ⟨he, bel⟩ => ?_
  subst he
  exact ⟨_, rfl, _, _, _, [], _, [], hW', trodAll_mk1 (shut_bool Tryz.underlying4 _), (trodAll_cons_mk (shut_string Tryz.underlying9 w0) (trodAll_cons_mk (shut_string Tryz.underlying9 w1) (trodAll_cons_mk (shut_string Tryz.underlying9 w2) trodAll_mk0))), rfl, bel.frame _, fun h => by cases h⟩

theorem row_holds : Rows.MatchStepsSaid :=
  OpenClaim.holds_of_wide 6 Tryz.f6 rfl rfl rfl rfl rfl rfl rfl ⟨rfl, rfl, rfl, rfl, rfl⟩ rfl rfl rfl rfl rfl (by kernel_rfl) Tryz.func6 (by kernel_rfl)
    (of_decide_eq_true (by kernel_rfl)) (by unfold Func.isWrapper; first | (rw [if_pos (by decide +kernel)]; kernel_rfl) | (rw [if_neg (by decide +kernel)]; exact ⟨rfl, rfl⟩))
    (fun os started H enc _ => lifted os started H enc)

/-- THE STATEMENT: the row, tied to the program's text. -/
theorem proved : Rows.MatchStepsCardSaid :=
  Claim7.holds_tied_plain_at .later [] [.data, .data, .data, .sentinel, .sentinel] true Rows.matchStepsCard.stood.harness true
    row_holds (fun _ h => by cases h) (by kernel_rfl) (fun _ h => by cases h) matchSteps_row_tie rfl ⟨rfl, rfl⟩ (by kernel_rfl) rfl
    (fun f fn hf hfn => by
      obtain rfl : f = 6 := Option.some.inj ((show Tryz.prog.funcNamed "savant/savantlaw03.MatchSteps" = some 6 by kernel_rfl).symm.trans hf) |>.symm
      obtain rfl : fn = Tryz.f6 := (Option.some.inj (Tryz.func6.symm.trans hfn)).symm
      exact ⟨by kernel_rfl, fun j t ht => by
        rw [Tryz.params6] at ht
        have hm : t ∈ [9, 9, 9] := by simpa using Array.mem_of_getElem? ht
        have hall : ([9, 9, 9].all fun u => !Tryz.prog.wantsStandIn u) = true := by kernel_rfl
        exact (show Tryz.prog.wantsStandIn t = false by simpa using List.all_eq_true.1 hall t hm)⟩)
    (by kernel_rfl)
#print axioms proved
end Go.Proofs.YtofllmemmggapaaGreatDoor.matchSteps

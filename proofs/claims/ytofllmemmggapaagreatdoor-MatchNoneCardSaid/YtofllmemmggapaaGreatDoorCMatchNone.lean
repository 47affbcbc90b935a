/-
  Without names a type matches those alone that are the same; with them it matches itself: for every two texts that are types of at most 400 bytes without too large an unknown, and every list of at most twenty names; at anything else the law tells what its examples tell.
-/
import Derived.Test.YtofllmemmggapaaGreatDoorP50
import Derived.Test.YtofllmemmggapaaGreatDoorP51
import Derived.Test.YtofllmemmggapaaGreatDoorCards
import Derived.Test.YtofllmemmggapaaGreatDoorTie
import Derived.SevenTiedAt

/- The walk of MatchNone. (Printed by gen_manone.py.) -/
namespace Go.Proofs.YtofllmemmggapaaGreatDoor.Tp
open Go.RowKit Go.Sort

set_option maxRecDepth 100000 in
set_option maxHeartbeats 1600000 in
theorem matchNone_walk (a0 : ByteArray) (z0 : a0.size ≤ maxLen) (a1 : ByteArray) (z1 : a1.size ≤ maxLen) (v2 : Value) (l2 : List ByteArray) {w : World} (hin : VarsIn w v2 l2) (hT : Tab w) : Calls Tryz.prog 7 #[.string a0, .string a1, v2] w fun e w' => e = .returned (.bool true) ∧ Below w.heap.size w w' := by
  obtain ⟨va, vc, rfl, _⟩ := id hin
  have HT := Lib.hid hT
  cases h0 : rdT a0 with
  | none =>
    have HP0 := Lib.hid h0
    clear hT h0
    go_enter Tryz.func7, Tryz.ntmps7
    go_wp2_with fail
    refine (awake3_any _ HT.out).mono ?_
    rintro e w1 ⟨rfl, hB⟩
    have B_1 := Lib.hid (hB)
    clear hB
    go_wp2_with fail
    refine (rd_none _ a0 z0 HP0.out).mono ?_
    rintro e w2 ⟨pk, pn, ps, pa, pl, pc, pk2, pn2, ps2, pa2, pl2, pc2, rfl, hB⟩
    have B_2 := Lib.hid (B_1.out.trans (hB.mono B_1.out.size))
    clear hB B_1
    go_wp2_with fail
    refine (rd_any _ a1 z1).mono ?_
    rintro e w3 ⟨r1k, r1n, r1s, r1a, r1l, r1c, r1k2, r1n2, r1s2, r1a2, r1l2, r1c2, r1b, rfl, hB⟩
    have B_3 := Lib.hid (B_2.out.trans (hB.mono B_2.out.size))
    clear hB B_2
    go_wp2
    go_ret
    exact ⟨rfl, B_3.out⟩
  | some x =>
    have HP0 := Lib.hid h0
    cases h1 : rdT a1 with
    | none =>
      have HP1 := Lib.hid h1
      clear hT h0 h1
      go_enter Tryz.func7, Tryz.ntmps7
      go_wp2_with fail
      refine (awake3_any _ HT.out).mono ?_
      rintro e w1 ⟨rfl, hB⟩
      have B_1 := Lib.hid (hB)
      clear hB
      go_wp2_with fail
      refine (rd_some _ _ HP0.out).mono ?_
      rintro e w2 ⟨aX, cX, aXr, cXr, rfl, hR, hQ, hB⟩
      clear hQ
      have B_2 := Lib.hid (B_1.out.trans (hB.mono B_1.out.size))
      have RX_2 := Lib.hid hR
      clear hB hR B_1
      clear RX_2
      go_wp2_with fail
      refine (rd_none _ a1 z1 HP1.out).mono ?_
      rintro e w3 ⟨pk, pn, ps, pa, pl, pc, pk2, pn2, ps2, pa2, pl2, pc2, rfl, hB⟩
      have B_3 := Lib.hid (B_2.out.trans (hB.mono B_2.out.size))
      clear hB B_2
      go_wp2
      go_ret
      exact ⟨rfl, B_3.out⟩
    | some y =>
      have HP1 := Lib.hid h1
      cases hv : decide ((20 : Int) < (l2.length : Int)) with
      | true =>
        clear hT h0 h1
        go_enter Tryz.func7, Tryz.ntmps7
        go_wp2_with fail
        refine (awake3_any _ HT.out).mono ?_
        rintro e w1 ⟨rfl, hB⟩
        have B_1 := Lib.hid (hB)
        clear hB
        go_wp2_with fail
        refine (rd_some _ _ HP0.out).mono ?_
        rintro e w2 ⟨aX, cX, aXr, cXr, rfl, hR, hQ, hB⟩
        clear hQ
        have B_2 := Lib.hid (B_1.out.trans (hB.mono B_1.out.size))
        have RX_2 := Lib.hid hR
        clear hB hR B_1
        clear RX_2
        go_wp2_with fail
        refine (rd_some _ _ HP1.out).mono ?_
        rintro e w3 ⟨aY, cY, aYr, cYr, rfl, hR, hQ, hB⟩
        clear hQ
        have B_3 := Lib.hid (B_2.out.trans (hB.mono B_2.out.size))
        have RY_3 := Lib.hid hR
        clear hB hR B_2
        clear RY_3
        go_wp2
        go_ret
        exact ⟨rfl, B_3.out⟩
      | false =>
        have hv20 : l2.length ≤ 1099511627776 := by have := of_decide_eq_false hv; omega
        have hmx := rd_made h0
        have hmy := rd_made h1
        have SX := Lib.hid (rd_small h0)
        have SY := Lib.hid (rd_small h1)
        have ZX : Hid (x.size ≤ 4000) := Lib.hid hmx.2.2
        have HV := Lib.hid (hin.strs hv20)
        obtain ⟨m, hm1, hm2⟩ := match_own hmx.1 l2
        have EM := Lib.hid hm1
        have HM := Lib.hid hm2
        have EN := Lib.hid (match_nil hmx.1 hmy.1 hmx.2.2 hmy.2.2)
        clear hT h0 h1 hmx hmy hm1 hm2 hin
        by_cases hE : canonS x = canonS y
        · have HE := Lib.hid hE
          clear hE
          go_enter Tryz.func7, Tryz.ntmps7
          go_wp2_with fail
          refine (awake3_any _ HT.out).mono ?_
          rintro e w1 ⟨rfl, hB⟩
          have B_1 := Lib.hid (hB)
          clear hB
          go_wp2_with fail
          refine (rd_some _ _ HP0.out).mono ?_
          rintro e w2 ⟨aX, cX, aXr, cXr, rfl, hR, hQ, hB⟩
          clear hQ
          have B_2 := Lib.hid (B_1.out.trans (hB.mono B_1.out.size))
          have RX_2 := Lib.hid hR
          clear hB hR B_1
          go_wp2_with fail
          refine (rd_some _ _ HP1.out).mono ?_
          rintro e w3 ⟨aY, cY, aYr, cYr, rfl, hR, hQ, hB⟩
          clear hQ
          have RX_3 := Lib.hid (RX_2.out.low hB)
          have B_3 := Lib.hid (B_2.out.trans (hB.mono B_2.out.size))
          have RY_3 := Lib.hid hR
          clear hB hR RX_2 B_2
          have k0 := RX_3.out.k.c0
          have k1 := RX_3.out.k.c1
          have k2 := RX_3.out.k.c2
          have k3 := RX_3.out.k.c3
          have l0 := RY_3.out.k.c0
          have l1 := RY_3.out.k.c1
          have l2 := RY_3.out.k.c2
          have l3 := RY_3.out.k.c3
          have C := Lib.hid (match_h (vars := []) (vs := .slice none 0 0) RX_3.out.at_ RY_3.out.at_ (strsLow_nil _) SY.out ZX.out (tab_below HT.out B_3.out))
          rw [EN.out, if_pos HE.out] at C
          go_wp2_with fail
          refine C.out.mono ?_
          rintro e w4 ⟨hB, lv, rfl, hbn⟩
          obtain ⟨la, lc, rfl, _⟩ := hbn
          clear C k0 k1 k2 k3 l0 l1 l2 l3
          have RX_4 := Lib.hid (RX_3.out.low hB)
          have RY_4 := Lib.hid (RY_3.out.low hB)
          have B_4 := Lib.hid (B_3.out.trans (hB.mono B_3.out.size))
          clear hB RX_3 RY_3 B_3
          have k0 := RX_4.out.k.c0
          have k1 := RX_4.out.k.c1
          have k2 := RX_4.out.k.c2
          have k3 := RX_4.out.k.c3
          have l0 := RY_4.out.k.c0
          have l1 := RY_4.out.k.c1
          have l2 := RY_4.out.k.c2
          have l3 := RY_4.out.k.c3
          have C := Lib.hid (same_h RX_4.out.at_ RY_4.out.at_ SX.out SY.out (tab_below HT.out B_4.out))
          go_wp2_with fail
          rw [show decide (canonS x = canonS y) = true from decide_eq_true HE.out] at C
          refine C.out.mono ?_
          rintro e w5 ⟨rfl, hB⟩
          clear C k0 k1 k2 k3 l0 l1 l2 l3
          have RX_5 := Lib.hid (RX_4.out.low hB)
          have RY_5 := Lib.hid (RY_4.out.low hB)
          have B_5 := Lib.hid (B_4.out.trans (hB.mono B_4.out.size))
          clear hB RX_4 RY_4 B_4
          have k0 := RX_5.out.k.c0
          have k1 := RX_5.out.k.c1
          have k2 := RX_5.out.k.c2
          have k3 := RX_5.out.k.c3
          have C := Lib.hid (match_h RX_5.out.at_ RX_5.out.at_ (StrsLow.low HV.out B_5.out) SX.out ZX.out (tab_below HT.out B_5.out))
          go_wp2_with fail
          rw [EM.out] at C
          refine C.out.mono ?_
          rintro e w6 ⟨hB, mv, rfl, hbn⟩
          obtain ⟨ma, mc, rfl, hml, hmc⟩ := hbn
          have HMC := Lib.hid hmc
          clear hmc
          clear C k0 k1 k2 k3
          have RX_6 := Lib.hid (RX_5.out.low hB)
          have RY_6 := Lib.hid (RY_5.out.low hB)
          have B_6 := Lib.hid (B_5.out.trans (hB.mono B_5.out.size))
          clear hB RX_5 RY_5 B_5
          clear RX_6
          clear RY_6
          obtain ⟨wo, hwo⟩ : ∃ wo : World, wo = w6 := ⟨_, rfl⟩
          subst hwo
          go_wp2
          go_loopw [19] (fun iv wr => ∃ i : Nat, iv = .int .i64 i ∧ i ≤ m.length ∧ Below wo.heap.size wo wr) (fun iv _ => m.length - (intOf iv).toNat)
          case atStart => exact ⟨0, rfl, Nat.zero_le _, .refl _ _⟩
          case round =>
            obtain ⟨i, rfl, hil, hB⟩ := hrel
            have HB := Lib.hid hB
            by_cases hi : i < m.length
            · have z0 : (0 : Int) ≤ (i : Int) := by omega
              have z1 : (i : Int) < (m.length : Int) := by omega
              obtain ⟨b, off, rfl, hb, hcc⟩ := HMC.out.resolve_left (by intro e; rw [e] at hi; simp at hi)
              obtain ⟨q0, a', c', ⟨q1, q2, q3, q4⟩, _⟩ := hcc i hi
              have he := HM.out m[i] (List.getElem_mem hi)
              rw [he] at q1 q2
              have kb := hB.block b hb
              have f0 := later_cell ((World.cell?_of_block kb).trans q0)
              have f1 := later_cell ((World.cell?_of_block kb).trans q1)
              have f2 := later_cell ((World.cell?_of_block kb).trans q2)
              change ∀ p, (later wr p).cell? _ = some (.int .i64 1) at f1
              change ∀ p, (later wr p).cell? _ = some (.string m[i].1) at f2
              have ne1 : ((1 : Int) != 1) = false := rfl
              have ne2 : (m[i].1.toList != m[i].1.toList) = false := by simp
              clear hcc q0 q1 q2 q3 q4 he kb hB hb
              generalize m[i].1 = nm at *
              go_wp2
              refine wp_region_later (by kernel_rfl) (by kernel_rfl) ?_
              repeat (go_big_quiet_step (fail))
              refine wpQuiet_nil ?_
              intro _ hw'
              obtain ⟨pq, hw''⟩ := hw'
              subst hw''
              go_wp2
              go_roundw
              case rel => exact ⟨i + 1, by go_num, by omega, HB.out.trans ((later_below _ _).mono HB.out.size)⟩
              case measure => simp [intOf]; omega
            · obtain rfl : i = m.length := by omega
              clear hB
              go_wp2
              go_ret
              exact ⟨rfl, B_6.out.trans (HB.out.mono B_6.out.size)⟩
        · have HE := Lib.hid hE
          clear hE
          go_enter Tryz.func7, Tryz.ntmps7
          go_wp2_with fail
          refine (awake3_any _ HT.out).mono ?_
          rintro e w1 ⟨rfl, hB⟩
          have B_1 := Lib.hid (hB)
          clear hB
          go_wp2_with fail
          refine (rd_some _ _ HP0.out).mono ?_
          rintro e w2 ⟨aX, cX, aXr, cXr, rfl, hR, hQ, hB⟩
          clear hQ
          have B_2 := Lib.hid (B_1.out.trans (hB.mono B_1.out.size))
          have RX_2 := Lib.hid hR
          clear hB hR B_1
          go_wp2_with fail
          refine (rd_some _ _ HP1.out).mono ?_
          rintro e w3 ⟨aY, cY, aYr, cYr, rfl, hR, hQ, hB⟩
          clear hQ
          have RX_3 := Lib.hid (RX_2.out.low hB)
          have B_3 := Lib.hid (B_2.out.trans (hB.mono B_2.out.size))
          have RY_3 := Lib.hid hR
          clear hB hR RX_2 B_2
          have k0 := RX_3.out.k.c0
          have k1 := RX_3.out.k.c1
          have k2 := RX_3.out.k.c2
          have k3 := RX_3.out.k.c3
          have l0 := RY_3.out.k.c0
          have l1 := RY_3.out.k.c1
          have l2 := RY_3.out.k.c2
          have l3 := RY_3.out.k.c3
          have C := Lib.hid (match_h (vars := []) (vs := .slice none 0 0) RX_3.out.at_ RY_3.out.at_ (strsLow_nil _) SY.out ZX.out (tab_below HT.out B_3.out))
          rw [EN.out, if_neg HE.out] at C
          go_wp2_with fail
          refine C.out.mono ?_
          rintro e w4 ⟨hB, rfl⟩
          clear C k0 k1 k2 k3 l0 l1 l2 l3
          have RX_4 := Lib.hid (RX_3.out.low hB)
          have RY_4 := Lib.hid (RY_3.out.low hB)
          have B_4 := Lib.hid (B_3.out.trans (hB.mono B_3.out.size))
          clear hB RX_3 RY_3 B_3
          have k0 := RX_4.out.k.c0
          have k1 := RX_4.out.k.c1
          have k2 := RX_4.out.k.c2
          have k3 := RX_4.out.k.c3
          have l0 := RY_4.out.k.c0
          have l1 := RY_4.out.k.c1
          have l2 := RY_4.out.k.c2
          have l3 := RY_4.out.k.c3
          have C := Lib.hid (same_h RX_4.out.at_ RY_4.out.at_ SX.out SY.out (tab_below HT.out B_4.out))
          go_wp2_with fail
          rw [show decide (canonS x = canonS y) = false from decide_eq_false HE.out] at C
          refine C.out.mono ?_
          rintro e w5 ⟨rfl, hB⟩
          clear C k0 k1 k2 k3 l0 l1 l2 l3
          have RX_5 := Lib.hid (RX_4.out.low hB)
          have RY_5 := Lib.hid (RY_4.out.low hB)
          have B_5 := Lib.hid (B_4.out.trans (hB.mono B_4.out.size))
          clear hB RX_4 RY_4 B_4
          have k0 := RX_5.out.k.c0
          have k1 := RX_5.out.k.c1
          have k2 := RX_5.out.k.c2
          have k3 := RX_5.out.k.c3
          have C := Lib.hid (match_h RX_5.out.at_ RX_5.out.at_ (StrsLow.low HV.out B_5.out) SX.out ZX.out (tab_below HT.out B_5.out))
          go_wp2_with fail
          rw [EM.out] at C
          refine C.out.mono ?_
          rintro e w6 ⟨hB, mv, rfl, hbn⟩
          obtain ⟨ma, mc, rfl, hml, hmc⟩ := hbn
          have HMC := Lib.hid hmc
          clear hmc
          clear C k0 k1 k2 k3
          have RX_6 := Lib.hid (RX_5.out.low hB)
          have RY_6 := Lib.hid (RY_5.out.low hB)
          have B_6 := Lib.hid (B_5.out.trans (hB.mono B_5.out.size))
          clear hB RX_5 RY_5 B_5
          clear RX_6
          clear RY_6
          obtain ⟨wo, hwo⟩ : ∃ wo : World, wo = w6 := ⟨_, rfl⟩
          subst hwo
          go_wp2
          go_loopw [19] (fun iv wr => ∃ i : Nat, iv = .int .i64 i ∧ i ≤ m.length ∧ Below wo.heap.size wo wr) (fun iv _ => m.length - (intOf iv).toNat)
          case atStart => exact ⟨0, rfl, Nat.zero_le _, .refl _ _⟩
          case round =>
            obtain ⟨i, rfl, hil, hB⟩ := hrel
            have HB := Lib.hid hB
            by_cases hi : i < m.length
            · have z0 : (0 : Int) ≤ (i : Int) := by omega
              have z1 : (i : Int) < (m.length : Int) := by omega
              obtain ⟨b, off, rfl, hb, hcc⟩ := HMC.out.resolve_left (by intro e; rw [e] at hi; simp at hi)
              obtain ⟨q0, a', c', ⟨q1, q2, q3, q4⟩, _⟩ := hcc i hi
              have he := HM.out m[i] (List.getElem_mem hi)
              rw [he] at q1 q2
              have kb := hB.block b hb
              have f0 := later_cell ((World.cell?_of_block kb).trans q0)
              have f1 := later_cell ((World.cell?_of_block kb).trans q1)
              have f2 := later_cell ((World.cell?_of_block kb).trans q2)
              change ∀ p, (later wr p).cell? _ = some (.int .i64 1) at f1
              change ∀ p, (later wr p).cell? _ = some (.string m[i].1) at f2
              have ne1 : ((1 : Int) != 1) = false := rfl
              have ne2 : (m[i].1.toList != m[i].1.toList) = false := by simp
              clear hcc q0 q1 q2 q3 q4 he kb hB hb
              generalize m[i].1 = nm at *
              go_wp2
              refine wp_region_later (by kernel_rfl) (by kernel_rfl) ?_
              repeat (go_big_quiet_step (fail))
              refine wpQuiet_nil ?_
              intro _ hw'
              obtain ⟨pq, hw''⟩ := hw'
              subst hw''
              go_wp2
              go_roundw
              case rel => exact ⟨i + 1, by go_num, by omega, HB.out.trans ((later_below _ _).mono HB.out.size)⟩
              case measure => simp [intOf]; omega
            · obtain rfl : i = m.length := by omega
              clear hB
              go_wp2
              go_ret
              exact ⟨rfl, B_6.out.trans (HB.out.mono B_6.out.size)⟩

end Go.Proofs.YtofllmemmggapaaGreatDoor.Tp

/-
  Without names a type matches those alone that are the same; with them it matches itself: for every two texts that are types of at most 400 bytes without too large an unknown, and every list of at most twenty names; at anything else the law tells what its examples tell.
-/
namespace Go.Proofs.YtofllmemmggapaaGreatDoor.matchNone
open Go.ChangeShapes Go.WideShapes Go.ChangeAt Go.WideMaps Go.WideElems Go.RowKit
open Go.ChangeMaps (open_string shut_string)
open Tp (Tab laidL tab_of_laid door_met own laidOut)

/-! ### the row's step, as the kit's worked example (a law over laid variables) has it -/
set_option linter.unusedVariables false in
set_option maxRecDepth 100000 in
theorem lifted (os : Os) (started : os.Started) (H : Type) (enc : TypeId × Value → H) :
    ReturnsInHanded {} Tryz.checked os 7 .any (fun w args => (Rows.matchNoneSpec.pre enc Tryz.prog Tryz.f7 [] false w args ∧ laidMetH Tryz.prog laidL w) ∧ sizedMet enc Tryz.prog Tryz.f7 (OpenSpec.ofChange Rows.matchNoneSpec) false w args)
      (Rows.matchNoneSpec.post enc Tryz.prog Tryz.f7 false true false false) := by
  refine returnsInHanded_of_change_and (C := Tryz.checked) (X := fun w _ => laidMetH Tryz.prog laidL w) (fun _ _ _ hh h => h.of_heap hh) own started (by kernel_rfl) Tryz.func7
    (ChangeSpec.witness_shaped (enc := enc) (C := Tryz.checked) (os := os) (X := fun w _ => laidMetH Tryz.prog laidL w) false (World.doorLaid Tryz.prog 400 os) #[.string ByteArray.empty, .string ByteArray.empty, .slice none 0 0] 8 rfl (World.shaped_of_RefB (by kernel_rfl) (by kernel_rfl)) (by kernel_rfl) (by kernel_rfl) (by kernel_rfl) (door_met os _)) ?_
  intro W base args ds gs before hval0 hW _ _ hL _
  have hval : ∀ (j : Nat) t v, Tryz.f7.params[j]? = some t → args[j]? = some v → Value.okWide Tryz.prog W .any base t v := hval0
  have hW' := hW
  obtain ⟨p, q, hA0, hV, rfl, hfz, hnd⟩ := hW
  have hA : DataW.TrodAll enc Tryz.prog W 0 (fun _ => true) true Tryz.f7.params.toList args.toList ds p := hA0
  rw [Tryz.params7] at hA hval
  obtain ⟨v0, vs0, d0, ds0, p0, q0, hargs, rfl, rfl, h0, r0⟩ := trodAll_cons hA
  obtain ⟨v1, vs1, d1, ds1, p1, q1, rfl, rfl, rfl, h1, r1⟩ := trodAll_cons r0
  obtain ⟨v2, vs2, d2, ds2, p2, q2, rfl, rfl, rfl, h2, r2⟩ := trodAll_cons r1
  obtain ⟨rfl, rfl, rfl⟩ := trodAll_nil r2
  obtain rfl : args = #[v0, v1, v2] := by cases args; simp_all
  obtain ⟨rfl, rfl⟩ := trodVars_none hV
  obtain ⟨a0, rfl, rfl, rfl, w0⟩ := open_string Tryz.underlying9 (hval 0 9 v0 rfl rfl) h0
  obtain ⟨a1, rfl, rfl, rfl, w1⟩ := open_string Tryz.underlying9 (hval 1 9 v1 rfl rfl) h1
  have k2 := h2
  have lt2 : ∀ x ∈ p2, x.block < W.heap.size := by obtain ⟨m, hm⟩ := k2; exact DataW.trod_lt m _ _ _ hm
  obtain ⟨a2, w2⟩ := Tp.opnS (hval 2 22 v2 rfl rfl) h2
  clear hA0 hval0
  refine (Tp.matchNone_walk a0 w0 a1 w1 v2 a2 w2 (tab_of_laid hL)).mono fun e W' ⟨he, bel⟩ => ?_
  subst he
  exact ⟨_, rfl, _, _, _, [], _, [], hW', trodAll_mk1 (shut_bool Tryz.underlying4 _), (trodAll_cons_mk (shut_string Tryz.underlying9 w0) (trodAll_cons_mk (shut_string Tryz.underlying9 w1) (trodAll_cons_mk (Below.trod laidOut (by kernel_rfl) (of_decide_eq_true (by kernel_rfl)) k2 bel lt2) trodAll_mk0))), rfl, bel.frame _, fun h => by cases h⟩

theorem row_holds : Rows.MatchNoneSaid :=
  OpenClaim.holds_of_wide 7 Tryz.f7 rfl rfl rfl rfl rfl rfl rfl ⟨rfl, rfl, rfl, rfl, rfl⟩ rfl rfl rfl rfl rfl (by kernel_rfl) Tryz.func7 (by kernel_rfl)
    (of_decide_eq_true (by kernel_rfl)) (by unfold Func.isWrapper; first | (rw [if_pos (by decide +kernel)]; kernel_rfl) | (rw [if_neg (by decide +kernel)]; exact ⟨rfl, rfl⟩))
    (fun os started H enc _ => lifted os started H enc)

/-- THE STATEMENT: the row, tied to the program's text. -/
theorem proved : Rows.MatchNoneCardSaid :=
  Claim7.holds_tied_plain_at .later [] [.data, .data, .data, .sentinel, .sentinel] true Rows.matchNoneCard.stood.harness true
    row_holds (fun _ h => by cases h) (by kernel_rfl) (fun _ h => by cases h) matchNone_row_tie rfl ⟨rfl, rfl⟩ (by kernel_rfl) rfl
    (fun f fn hf hfn => by
      obtain rfl : f = 7 := Option.some.inj ((show Tryz.prog.funcNamed "savant/savantlaw03.MatchNone" = some 7 by kernel_rfl).symm.trans hf) |>.symm
      obtain rfl : fn = Tryz.f7 := (Option.some.inj (Tryz.func7.symm.trans hfn)).symm
      exact ⟨by kernel_rfl, fun j t ht => by
        rw [Tryz.params7] at ht
        have hm : t ∈ [9, 9, 22] := by simpa using Array.mem_of_getElem? ht
        have hall : ([9, 9, 22].all fun u => !Tryz.prog.wantsStandIn u) = true := by kernel_rfl
        exact (show Tryz.prog.wantsStandIn t = false by simpa using List.all_eq_true.1 hall t hm)⟩)
    (by kernel_rfl)
#print axioms proved
end Go.Proofs.YtofllmemmggapaaGreatDoor.matchNone

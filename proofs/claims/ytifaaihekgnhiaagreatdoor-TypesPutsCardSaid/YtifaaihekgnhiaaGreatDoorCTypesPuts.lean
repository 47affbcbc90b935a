/-
  The law TypesPuts: for every two texts, every name and every number it returns true; they read as before. No conditions; the card ties the library's tables to the program's text.
-/
import Derived.Test.YtifaaihekgnhiaaGreatDoorP45
import Derived.Test.YtifaaihekgnhiaaGreatDoorP46
import Derived.Test.YtifaaihekgnhiaaGreatDoorCards
import Derived.Test.YtifaaihekgnhiaaGreatDoorTie
import Derived.SevenTiedAt

/- The walk of TypesPuts. -/
namespace Go.Proofs.YtifaaihekgnhiaaGreatDoor.Tp
open Go.RowKit

theorem canonS_congr {x y : Ty} (h : canonT x = canonT y) : canonS x = canonS y := by unfold canonS; rw [h]

set_option maxHeartbeats 6400000 in
set_option maxRecDepth 100000 in
theorem typesPuts_walk (a0 : ByteArray) (z0 : a0.size ≤ maxLen) (a1 : ByteArray) (z1 : a1.size ≤ maxLen) (a2 : ByteArray) (_z2 : a2.size ≤ maxLen) (a3 : Int) (_z3 : (Lit.int .i64 a3).wf = true) (w : World) (hT : Tab w) :
    Calls Tryz.prog 5 #[.string a0, .string a1, .string a2, .int .i64 a3] w fun e w' => e = .returned (.bool true) ∧ Below w.heap.size w w' := by
  have HT := Lib.hid hT
  clear hT
  cases hp0 : parseT a0.data.toList with
  | error er =>
    have her : ((er : Int) != 0) = true := by have := parse_er hp0; rw [bne_iff_ne]; omega
    go_enter Tryz.func5, Tryz.ntmps5
    go_wp2_with fail
    refine (awake_any _ HT.out).mono ?_
    rintro e w1 ⟨rfl, hB⟩
    have B_1 := Lib.hid (hB)
    clear hB
    go_wp2_with fail
    refine (parse_bad _ a0 z0 hp0).mono ?_
    rintro e w2 ⟨rfl, hb, hB⟩
    clear hb
    have B_2 := Lib.hid (B_1.out.trans (hB.mono B_1.out.size))
    clear hB B_1
    go_wp2_with fail
    refine (parse_some _ a1 z1).mono ?_
    rintro e w3 ⟨ok, on, os, oa, ol, oc, oer, rfl, hB⟩
    have B_3 := Lib.hid (B_2.out.trans (hB.mono B_2.out.size))
    clear hB B_2
    go_wp2_with fail
    refine (rparse_bad _ a0 z0 hp0).mono ?_
    rintro e w4 ⟨rfl, hb, hB⟩
    clear hb
    have B_4 := Lib.hid (B_3.out.trans (hB.mono B_3.out.size))
    clear hB B_3
    go_wp2_with fail
    refine (rparse_some _ a1 z1).mono ?_
    rintro e w5 ⟨xk, xn, xs, xa, xl, xc, xer, rfl, hB⟩
    have B_5 := Lib.hid (B_4.out.trans (hB.mono B_4.out.size))
    clear hB B_4
    go_wp2
    go_ret
    exact ⟨rfl, B_5.out⟩
  | ok t =>
    cases hp1 : parseT a1.data.toList with
    | error er =>
      have her : ((er : Int) != 0) = true := by have := parse_er hp1; rw [bne_iff_ne]; omega
      go_enter Tryz.func5, Tryz.ntmps5
      go_wp2_with fail
      refine (awake_any _ HT.out).mono ?_
      rintro e w1 ⟨rfl, hB⟩
      have B_1 := Lib.hid (hB)
      clear hB
      go_wp2_with fail
      refine (parse_ok _ a0 z0 hp0).mono ?_
      rintro e w2 ⟨aT, cT, rfl, hb, hR, hB⟩
      clear hb
      have B_2 := Lib.hid (B_1.out.trans (hB.mono B_1.out.size))
      have RT_2 := Lib.hid hR
      clear hB hR B_1
      clear RT_2
      go_wp2_with fail
      refine (parse_bad _ a1 z1 hp1).mono ?_
      rintro e w3 ⟨rfl, hb, hB⟩
      clear hb
      have B_3 := Lib.hid (B_2.out.trans (hB.mono B_2.out.size))
      clear hB B_2
      go_wp2_with fail
      refine (rparse_ok _ a0 z0 hp0).mono ?_
      rintro e w4 ⟨aV, cV, rfl, hb, hR, hB⟩
      clear hb
      have B_4 := Lib.hid (B_3.out.trans (hB.mono B_3.out.size))
      have RV_4 := Lib.hid hR
      clear hB hR B_3
      clear RV_4
      go_wp2_with fail
      refine (rparse_bad _ a1 z1 hp1).mono ?_
      rintro e w5 ⟨rfl, hb, hB⟩
      clear hb
      have B_5 := Lib.hid (B_4.out.trans (hB.mono B_4.out.size))
      clear hB B_4
      go_wp2
      go_ret
      exact ⟨rfl, B_5.out⟩
    | ok u =>
      have HP0 := Lib.hid hp0
      have HP1 := Lib.hid hp1
      by_cases h0 : 400 < a0.size
      · have f0 : decide ((400 : Int) < (a0.size : Int)) = true := by rw [decide_eq_true_eq]; omega
        clear hp0 hp1
        go_enter Tryz.func5, Tryz.ntmps5
        go_wp2_with fail
        refine (awake_any _ HT.out).mono ?_
        rintro e w1 ⟨rfl, hB⟩
        have B_1 := Lib.hid (hB)
        clear hB
        go_wp2_with fail
        refine (parse_ok _ a0 z0 HP0.out).mono ?_
        rintro e w2 ⟨aT, cT, rfl, hb, hR, hB⟩
        clear hb
        have B_2 := Lib.hid (B_1.out.trans (hB.mono B_1.out.size))
        have RT_2 := Lib.hid hR
        clear hB hR B_1
        go_wp2_with fail
        refine (parse_ok _ a1 z1 HP1.out).mono ?_
        rintro e w3 ⟨aU, cU, rfl, hb, hR, hB⟩
        clear hb
        have RT_3 := Lib.hid (RT_2.out.low hB)
        have B_3 := Lib.hid (B_2.out.trans (hB.mono B_2.out.size))
        have RU_3 := Lib.hid hR
        clear hB hR RT_2 B_2
        go_wp2_with fail
        refine (rparse_ok _ a0 z0 HP0.out).mono ?_
        rintro e w4 ⟨aV, cV, rfl, hb, hR, hB⟩
        clear hb
        have RT_4 := Lib.hid (RT_3.out.low hB)
        have RU_4 := Lib.hid (RU_3.out.low hB)
        have B_4 := Lib.hid (B_3.out.trans (hB.mono B_3.out.size))
        have RV_4 := Lib.hid hR
        clear hB hR RT_3 RU_3 B_3
        go_wp2_with fail
        refine (rparse_ok _ a1 z1 HP1.out).mono ?_
        rintro e w5 ⟨aW, cW, rfl, hb, hR, hB⟩
        clear hb
        have RT_5 := Lib.hid (RT_4.out.low hB)
        have RU_5 := Lib.hid (RU_4.out.low hB)
        have RV_5 := Lib.hid (RV_4.out.low hB)
        have B_5 := Lib.hid (B_4.out.trans (hB.mono B_4.out.size))
        have RW_5 := Lib.hid hR
        clear hB hR RT_4 RU_4 RV_4 B_4
        clear RT_5
        clear RU_5
        clear RV_5
        clear RW_5
        go_wp2
        go_ret
        exact ⟨rfl, B_5.out⟩
      · have f0 : decide ((400 : Int) < (a0.size : Int)) = false := by rw [decide_eq_false_iff_not]; omega
        by_cases h1 : 400 < a1.size
        · have f1 : decide ((400 : Int) < (a1.size : Int)) = true := by rw [decide_eq_true_eq]; omega
          clear hp0 hp1
          go_enter Tryz.func5, Tryz.ntmps5
          go_wp2_with fail
          refine (awake_any _ HT.out).mono ?_
          rintro e w1 ⟨rfl, hB⟩
          have B_1 := Lib.hid (hB)
          clear hB
          go_wp2_with fail
          refine (parse_ok _ a0 z0 HP0.out).mono ?_
          rintro e w2 ⟨aT, cT, rfl, hb, hR, hB⟩
          clear hb
          have B_2 := Lib.hid (B_1.out.trans (hB.mono B_1.out.size))
          have RT_2 := Lib.hid hR
          clear hB hR B_1
          go_wp2_with fail
          refine (parse_ok _ a1 z1 HP1.out).mono ?_
          rintro e w3 ⟨aU, cU, rfl, hb, hR, hB⟩
          clear hb
          have RT_3 := Lib.hid (RT_2.out.low hB)
          have B_3 := Lib.hid (B_2.out.trans (hB.mono B_2.out.size))
          have RU_3 := Lib.hid hR
          clear hB hR RT_2 B_2
          go_wp2_with fail
          refine (rparse_ok _ a0 z0 HP0.out).mono ?_
          rintro e w4 ⟨aV, cV, rfl, hb, hR, hB⟩
          clear hb
          have RT_4 := Lib.hid (RT_3.out.low hB)
          have RU_4 := Lib.hid (RU_3.out.low hB)
          have B_4 := Lib.hid (B_3.out.trans (hB.mono B_3.out.size))
          have RV_4 := Lib.hid hR
          clear hB hR RT_3 RU_3 B_3
          go_wp2_with fail
          refine (rparse_ok _ a1 z1 HP1.out).mono ?_
          rintro e w5 ⟨aW, cW, rfl, hb, hR, hB⟩
          clear hb
          have RT_5 := Lib.hid (RT_4.out.low hB)
          have RU_5 := Lib.hid (RU_4.out.low hB)
          have RV_5 := Lib.hid (RV_4.out.low hB)
          have B_5 := Lib.hid (B_4.out.trans (hB.mono B_4.out.size))
          have RW_5 := Lib.hid hR
          clear hB hR RT_4 RU_4 RV_4 B_4
          clear RT_5
          clear RU_5
          clear RV_5
          clear RW_5
          go_wp2
          go_ret
          exact ⟨rfl, B_5.out⟩
        · have f1 : decide ((400 : Int) < (a1.size : Int)) = false := by rw [decide_eq_false_iff_not]; omega
          have SM := Lib.hid (small_parse hp0)
          have SU := Lib.hid (small_parse hp1)
          obtain ⟨hm, hd, hsl, hsz⟩ := parse_made hp0
          obtain ⟨um, ud, usl, usz⟩ := parse_made hp1
          have hmul : t.size * u.size ≤ 4000 * 4000 := Nat.mul_le_mul hsz usz
          have HM := Lib.hid hm
          have HU := Lib.hid um.1
          have ts : t.size ≤ 100000 := by omega
          have us : u.size ≤ 100000 := by omega
          have gt := mk_good t hm
          have gu := mk_good u um
          have ps := PutT_size a2 u t hm.1 um.1
          have fs := fillT_size a3 u t hm.1 um.1
          have SP : Hid (Small (PutT a2 u t)) := Lib.hid ⟨PutT_good _ _ _ gt gu (by omega) (by omega), by omega⟩
          have SF : Hid (Small (fillT a3 u t)) := Lib.hid ⟨fillT_good _ _ _ gt gu (by omega) (by omega), by omega⟩
          have qs := sb_size (isVar a2) u (apartT a2 u t)
          have rs := sb_size (isMeta a3) u (apartT emp u t)
          rw [apart_size _ u t hm ts us] at qs rs
          have e1 := rPut_canon a2 u t hm um.1 ts us
          have e2 := rFill_canon a3 u t hm um.1 ts us
          have CP := Lib.hid (canonR_of (rPut_std a2 u t hm um.1 ts us) SP.out.1 SP.out.2 e1 (by unfold rPutT; omega))
          have CF := Lib.hid (canonR_of (rFill_std a3 u t hm um.1 ts us) SF.out.1 SF.out.2 e2 (by unfold rFillT; omega))
          have E1 := Lib.hid (canonS_congr e1)
          have E2 := Lib.hid (canonS_congr e2)
          have TS := Lib.hid ts
          have US := Lib.hid us
          clear hp0 hp1 hm um hsl usl hsz usz hmul h0 h1 hd ud gt gu ps fs qs rs e1 e2 ts us
          go_enter Tryz.func5, Tryz.ntmps5
          go_wp2_with fail
          refine (awake_any _ HT.out).mono ?_
          rintro e w1 ⟨rfl, hB⟩
          have B_1 := Lib.hid (hB)
          clear hB
          go_wp2_with fail
          refine (parse_ok _ a0 z0 HP0.out).mono ?_
          rintro e w2 ⟨aT, cT, rfl, hb, hR, hB⟩
          clear hb
          have B_2 := Lib.hid (B_1.out.trans (hB.mono B_1.out.size))
          have RT_2 := Lib.hid hR
          clear hB hR B_1
          go_wp2_with fail
          refine (parse_ok _ a1 z1 HP1.out).mono ?_
          rintro e w3 ⟨aU, cU, rfl, hb, hR, hB⟩
          clear hb
          have RT_3 := Lib.hid (RT_2.out.low hB)
          have B_3 := Lib.hid (B_2.out.trans (hB.mono B_2.out.size))
          have RU_3 := Lib.hid hR
          clear hB hR RT_2 B_2
          go_wp2_with fail
          refine (rparse_ok _ a0 z0 HP0.out).mono ?_
          rintro e w4 ⟨aV, cV, rfl, hb, hR, hB⟩
          clear hb
          have RT_4 := Lib.hid (RT_3.out.low hB)
          have RU_4 := Lib.hid (RU_3.out.low hB)
          have B_4 := Lib.hid (B_3.out.trans (hB.mono B_3.out.size))
          have RV_4 := Lib.hid hR
          clear hB hR RT_3 RU_3 B_3
          go_wp2_with fail
          refine (rparse_ok _ a1 z1 HP1.out).mono ?_
          rintro e w5 ⟨aW, cW, rfl, hb, hR, hB⟩
          clear hb
          have RT_5 := Lib.hid (RT_4.out.low hB)
          have RU_5 := Lib.hid (RU_4.out.low hB)
          have RV_5 := Lib.hid (RV_4.out.low hB)
          have B_5 := Lib.hid (B_4.out.trans (hB.mono B_4.out.size))
          have RW_5 := Lib.hid hR
          clear hB hR RT_4 RU_4 RV_4 B_4
          have k0 := RT_5.out.k.c0
          have k1 := RT_5.out.k.c1
          have k2 := RT_5.out.k.c2
          have k3 := RT_5.out.k.c3
          have l0 := RU_5.out.k.c0
          have l1 := RU_5.out.k.c1
          have l2 := RU_5.out.k.c2
          have l3 := RU_5.out.k.c3
          have C := Lib.hid (put_h a2 RT_5.out.at_ RU_5.out.at_ SM.out SU.out (tab_below HT.out B_5.out))
          go_wp2_with fail
          refine C.out.mono ?_
          rintro e w6 ⟨a9, c9, rfl, hA, hB⟩
          have HA := Lib.hid hA
          clear C hA k0 k1 k2 k3 l0 l1 l2 l3
          have RT_6 := Lib.hid (RT_5.out.low hB)
          have RU_6 := Lib.hid (RU_5.out.low hB)
          have RV_6 := Lib.hid (RV_5.out.low hB)
          have RW_6 := Lib.hid (RW_5.out.low hB)
          have B_6 := Lib.hid (B_5.out.trans (hB.mono B_5.out.size))
          clear hB RT_5 RU_5 RV_5 RW_5 B_5
          have C := Lib.hid (canon_h HA.out SP.out (tab_below HT.out B_6.out))
          go_wp2_with fail
          refine C.out.mono ?_
          rintro e w7 ⟨rfl, hB⟩
          clear C HA
          have RT_7 := Lib.hid (RT_6.out.low hB)
          have RU_7 := Lib.hid (RU_6.out.low hB)
          have RV_7 := Lib.hid (RV_6.out.low hB)
          have RW_7 := Lib.hid (RW_6.out.low hB)
          have B_7 := Lib.hid (B_6.out.trans (hB.mono B_6.out.size))
          clear hB RT_6 RU_6 RV_6 RW_6 B_6
          have k0 := RT_7.out.k.c0
          have k1 := RT_7.out.k.c1
          have k2 := RT_7.out.k.c2
          have k3 := RT_7.out.k.c3
          have l0 := RU_7.out.k.c0
          have l1 := RU_7.out.k.c1
          have l2 := RU_7.out.k.c2
          have l3 := RU_7.out.k.c3
          have C := Lib.hid (fill_h a3 RT_7.out.at_ RU_7.out.at_ SM.out SU.out (tab_below HT.out B_7.out))
          go_wp2_with fail
          refine C.out.mono ?_
          rintro e w8 ⟨a9, c9, rfl, hA, hB⟩
          have HA := Lib.hid hA
          clear C hA k0 k1 k2 k3 l0 l1 l2 l3
          have RT_8 := Lib.hid (RT_7.out.low hB)
          have RU_8 := Lib.hid (RU_7.out.low hB)
          have RV_8 := Lib.hid (RV_7.out.low hB)
          have RW_8 := Lib.hid (RW_7.out.low hB)
          have B_8 := Lib.hid (B_7.out.trans (hB.mono B_7.out.size))
          clear hB RT_7 RU_7 RV_7 RW_7 B_7
          have C := Lib.hid (canon_h HA.out SF.out (tab_below HT.out B_8.out))
          go_wp2_with fail
          refine C.out.mono ?_
          rintro e w9 ⟨rfl, hB⟩
          clear C HA
          have RT_9 := Lib.hid (RT_8.out.low hB)
          have RU_9 := Lib.hid (RU_8.out.low hB)
          have RV_9 := Lib.hid (RV_8.out.low hB)
          have RW_9 := Lib.hid (RW_8.out.low hB)
          have B_9 := Lib.hid (B_8.out.trans (hB.mono B_8.out.size))
          clear hB RT_8 RU_8 RV_8 RW_8 B_8
          have k0 := RV_9.out.k.c0
          have k1 := RV_9.out.k.c1
          have k2 := RV_9.out.k.c2
          have k3 := RV_9.out.k.c3
          have l0 := RW_9.out.k.c0
          have l1 := RW_9.out.k.c1
          have l2 := RW_9.out.k.c2
          have l3 := RW_9.out.k.c3
          have C := Lib.hid (rPut_any a2 u t _ _ _ _ _ RV_9.out.at_ RW_9.out.at_ HM.out HU.out TS.out US.out)
          go_wp2_with fail
          refine C.out.mono ?_
          rintro e w10 ⟨a9, c9, rfl, hA, hB⟩
          have HA := Lib.hid hA
          clear C hA k0 k1 k2 k3 l0 l1 l2 l3
          have RT_10 := Lib.hid (RT_9.out.low hB)
          have RU_10 := Lib.hid (RU_9.out.low hB)
          have RV_10 := Lib.hid (RV_9.out.low hB)
          have RW_10 := Lib.hid (RW_9.out.low hB)
          have B_10 := Lib.hid (B_9.out.trans (hB.mono B_9.out.size))
          clear hB RT_9 RU_9 RV_9 RW_9 B_9
          have C := Lib.hid (rcanon_h HA.out CP.out)
          go_wp2_with fail
          refine C.out.mono ?_
          rintro e w11 ⟨rfl, hB⟩
          clear C HA
          rw [E1.out]
          have RT_11 := Lib.hid (RT_10.out.low hB)
          have RU_11 := Lib.hid (RU_10.out.low hB)
          have RV_11 := Lib.hid (RV_10.out.low hB)
          have RW_11 := Lib.hid (RW_10.out.low hB)
          have B_11 := Lib.hid (B_10.out.trans (hB.mono B_10.out.size))
          clear hB RT_10 RU_10 RV_10 RW_10 B_10
          generalize bytes (canonS (PutT a2 u t)) = p1 at *
          have k0 := RV_11.out.k.c0
          have k1 := RV_11.out.k.c1
          have k2 := RV_11.out.k.c2
          have k3 := RV_11.out.k.c3
          have l0 := RW_11.out.k.c0
          have l1 := RW_11.out.k.c1
          have l2 := RW_11.out.k.c2
          have l3 := RW_11.out.k.c3
          have C := Lib.hid (rFill_any a3 u t _ _ _ _ _ RV_11.out.at_ RW_11.out.at_ HM.out HU.out TS.out US.out)
          go_wp2_with fail
          refine C.out.mono ?_
          rintro e w12 ⟨a9, c9, rfl, hA, hB⟩
          have HA := Lib.hid hA
          clear C hA k0 k1 k2 k3 l0 l1 l2 l3
          have RT_12 := Lib.hid (RT_11.out.low hB)
          have RU_12 := Lib.hid (RU_11.out.low hB)
          have RV_12 := Lib.hid (RV_11.out.low hB)
          have RW_12 := Lib.hid (RW_11.out.low hB)
          have B_12 := Lib.hid (B_11.out.trans (hB.mono B_11.out.size))
          clear hB RT_11 RU_11 RV_11 RW_11 B_11
          have C := Lib.hid (rcanon_h HA.out CF.out)
          go_wp2_with fail
          refine C.out.mono ?_
          rintro e w13 ⟨rfl, hB⟩
          clear C HA
          rw [E2.out]
          have RT_13 := Lib.hid (RT_12.out.low hB)
          have RU_13 := Lib.hid (RU_12.out.low hB)
          have RV_13 := Lib.hid (RV_12.out.low hB)
          have RW_13 := Lib.hid (RW_12.out.low hB)
          have B_13 := Lib.hid (B_12.out.trans (hB.mono B_12.out.size))
          clear hB RT_12 RU_12 RV_12 RW_12 B_12
          generalize bytes (canonS (fillT a3 u t)) = p2 at *
          go_wp2
          go_ret
          exact ⟨rfl, B_13.out⟩

end Go.Proofs.YtifaaihekgnhiaaGreatDoor.Tp

/-
  The law TypesPuts: for every two texts, every name and every number it returns true; they read as before. No conditions; the card ties the library's tables to the program's text.
-/
namespace Go.Proofs.YtifaaihekgnhiaaGreatDoor.typesPuts
open Go.ChangeShapes Go.WideShapes Go.ChangeAt Go.WideMaps Go.WideElems Go.RowKit
open Go.ChangeMaps (open_string shut_string)
open Tp (Tab laidL tab_of_laid door_met own laidOut)

/-! ### the row's step, as the kit's worked example (a law over laid variables) has it -/
set_option linter.unusedVariables false in
set_option maxRecDepth 100000 in
theorem lifted (os : Os) (started : os.Started) (H : Type) (enc : TypeId × Value → H) :
    ReturnsInHanded {} Tryz.checked os 5 .any (fun w args => (Rows.typesPutsSpec.pre enc Tryz.prog Tryz.f5 [] false w args ∧ laidMetH Tryz.prog laidL w) ∧ sizedMet enc Tryz.prog Tryz.f5 (OpenSpec.ofChange Rows.typesPutsSpec) false w args)
      (Rows.typesPutsSpec.post enc Tryz.prog Tryz.f5 false true false false) := by
  refine returnsInHanded_of_change_and (C := Tryz.checked) (X := fun w _ => laidMetH Tryz.prog laidL w) (fun _ _ _ hh h => h.of_heap hh) own started (by kernel_rfl) Tryz.func5
    (ChangeSpec.witness_shaped (enc := enc) (C := Tryz.checked) (os := os) (X := fun w _ => laidMetH Tryz.prog laidL w) false (World.doorLaid Tryz.prog 400 os) #[.string ByteArray.empty, .string ByteArray.empty, .string ByteArray.empty, .int .i64 0] 8 rfl (World.shaped_of_RefB (by kernel_rfl) (by kernel_rfl)) (by kernel_rfl) (by kernel_rfl) (by kernel_rfl) (door_met os _)) ?_
  intro W base args ds gs before hval0 hW _ _ hL _
  have hval : ∀ (j : Nat) t v, Tryz.f5.params[j]? = some t → args[j]? = some v → Value.okWide Tryz.prog W .any base t v := hval0
  have hW' := hW
  obtain ⟨p, q, hA0, hV, rfl, hfz, hnd⟩ := hW
  have hA : DataW.TrodAll enc Tryz.prog W 0 (fun _ => true) true Tryz.f5.params.toList args.toList ds p := hA0
  rw [Tryz.params5] at hA hval
  obtain ⟨v0, vs0, d0, ds0, p0, q0, hargs, rfl, rfl, h0, r0⟩ := trodAll_cons hA
  obtain ⟨v1, vs1, d1, ds1, p1, q1, rfl, rfl, rfl, h1, r1⟩ := trodAll_cons r0
  obtain ⟨v2, vs2, d2, ds2, p2, q2, rfl, rfl, rfl, h2, r2⟩ := trodAll_cons r1
  obtain ⟨v3, vs3, d3, ds3, p3, q3, rfl, rfl, rfl, h3, r3⟩ := trodAll_cons r2
  obtain ⟨rfl, rfl, rfl⟩ := trodAll_nil r3
  obtain rfl : args = #[v0, v1, v2, v3] := by cases args; simp_all
  obtain ⟨rfl, rfl⟩ := trodVars_none hV
  obtain ⟨a0, rfl, rfl, rfl, w0⟩ := open_string Tryz.underlying9 (hval 0 9 v0 rfl rfl) h0
  obtain ⟨a1, rfl, rfl, rfl, w1⟩ := open_string Tryz.underlying9 (hval 1 9 v1 rfl rfl) h1
  obtain ⟨a2, rfl, rfl, rfl, w2⟩ := open_string Tryz.underlying9 (hval 2 9 v2 rfl rfl) h2
  obtain ⟨a3, rfl, rfl, rfl, w3⟩ := open_int Tryz.underlying3 (hval 3 3 v3 rfl rfl) h3
  clear hA0 hval0
  refine (Tp.typesPuts_walk a0 w0 a1 w1 a2 w2 a3 w3 W (tab_of_laid hL)).mono fun e W' ⟨he, bel⟩ => ?_
  subst he
  exact ⟨_, rfl, _, _, _, [], _, [], hW', trodAll_mk1 (shut_bool Tryz.underlying4 _), (trodAll_cons_mk (shut_string Tryz.underlying9 w0) (trodAll_cons_mk (shut_string Tryz.underlying9 w1) (trodAll_cons_mk (shut_string Tryz.underlying9 w2) (trodAll_cons_mk (shut_int Tryz.underlying3 w3) trodAll_mk0)))), rfl, bel.frame _, fun h => by cases h⟩

theorem row_holds : Rows.TypesPutsSaid :=
  OpenClaim.holds_of_wide 5 Tryz.f5 rfl rfl rfl rfl rfl rfl rfl ⟨rfl, rfl, rfl, rfl, rfl⟩ rfl rfl rfl rfl rfl (by kernel_rfl) Tryz.func5 (by kernel_rfl)
    (of_decide_eq_true (by kernel_rfl)) (by unfold Func.isWrapper; first | (rw [if_pos (by decide +kernel)]; kernel_rfl) | (rw [if_neg (by decide +kernel)]; exact ⟨rfl, rfl⟩))
    (fun os started H enc _ => lifted os started H enc)

/-- THE STATEMENT: the row, tied to the program's text. -/
theorem proved : Rows.TypesPutsCardSaid :=
  Claim7.holds_tied_plain_at .later [] [.data, .data, .data, .sentinel, .sentinel] true Rows.typesPutsCard.stood.harness true
    row_holds (fun _ h => by cases h) (by kernel_rfl) (fun _ h => by cases h) typesPuts_row_tie rfl ⟨rfl, rfl⟩ (by kernel_rfl) rfl
    (fun f fn hf hfn => by
      obtain rfl : f = 5 := Option.some.inj ((show Tryz.prog.funcNamed "savant/savantlaw02.TypesPuts" = some 5 by kernel_rfl).symm.trans hf) |>.symm
      obtain rfl : fn = Tryz.f5 := (Option.some.inj (Tryz.func5.symm.trans hfn)).symm
      exact ⟨by kernel_rfl, fun j t ht => by
        rw [Tryz.params5] at ht
        have hm : t ∈ [9, 9, 9, 3] := by simpa using Array.mem_of_getElem? ht
        have hall : ([9, 9, 9, 3].all fun u => !Tryz.prog.wantsStandIn u) = true := by kernel_rfl
        exact (show Tryz.prog.wantsStandIn t = false by simpa using List.all_eq_true.1 hall t hm)⟩)
    (by kernel_rfl)
#print axioms proved
end Go.Proofs.YtifaaihekgnhiaaGreatDoor.typesPuts

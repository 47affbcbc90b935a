/-
  The law TypesBack: for every text it returns true; the text reads as before. No conditions; the card ties the library's tables to the program's text.
-/
import Derived.Test.YtifaaihekgnhiaaDoorP46
import Derived.Test.YtifaaihekgnhiaaDoorP36
import Derived.Test.YtifaaihekgnhiaaDoorP13
import Derived.Test.YtifaaihekgnhiaaDoorCards
import Derived.Test.YtifaaihekgnhiaaDoorTie
import Derived.SevenTiedAt

/- The walk of TypesBack. -/
namespace Go.Proofs.YtifaaihekgnhiaaDoor.Tp
open Go.RowKit

set_option maxHeartbeats 6400000 in
set_option maxRecDepth 100000 in
theorem typesBack_walk (a0 : ByteArray) (w0 : a0.size ≤ maxLen) (w : World) (hT : Tab w) :
    Calls Tryd.prog 3 #[.string a0] w fun e w' => e = .returned (.bool true) ∧ Below w.heap.size w w' := by
  have HT := Lib.hid hT
  clear hT
  cases hp : parseT a0.data.toList with
  | error er =>
    have her : ((er : Int) != 0) = true := by have := parse_er hp; rw [bne_iff_ne]; omega
    go_enter Tryd.func3, Tryd.ntmps3
    go_wp2_with fail
    refine (awake_any _ HT.out).mono ?_
    rintro e w1 ⟨rfl, hB⟩
    have B_1 := Lib.hid (hB)
    clear hB
    go_wp2_with fail
    refine (parse_bad _ a0 w0 hp).mono ?_
    rintro e w2 ⟨rfl, hb, hB⟩
    clear hb
    have B_2 := Lib.hid (B_1.out.trans (hB.mono B_1.out.size))
    clear hB B_1
    go_wp2
    go_ret
    exact ⟨rfl, B_2.out⟩
  | ok t =>
    obtain ⟨hm, hd, _, hsz⟩ := parse_made hp
    have SM := Lib.hid (small_parse hp)
    have HP := Lib.hid hp
    have P1 := Lib.hid (parse_bytes (printT t))
    have P2 := Lib.hid (parse_bytes (canonS t))
    have L1 := Lib.hid (bytes_le (print_small hm hsz))
    have L2 := Lib.hid (bytes_le (canon_small hm hsz))
    have TW := Lib.hid (canonS_twice hm hsz)
    have HM := Lib.hid hm
    have HS := Lib.hid hsz
    have HD := Lib.hid hd
    have SC : Hid (Small (canonT t)) := Lib.hid (by
      obtain ⟨h1, _, h3⟩ := canon_mk t hm (by omega)
      exact small_of h1 (by omega))
    have Q1 : Hid (parseT (bytes (printT t)).data.toList = if (printT t).length ≤ 4000 then .ok t else .error 2) := Lib.hid (by
      rw [P1.out]
      split
      · next h => exact parse_print t hm hd h
      · next h => exact parse_long (by omega))
    have Q2 : Hid (parseT (bytes (canonS t)).data.toList = if (canonS t).length ≤ 4000 then .ok (canonT t) else .error 2) := Lib.hid (by
      rw [P2.out]
      split
      · next h => exact parse_canon hm hd hsz h
      · next h => exact parse_long (by omega))
    clear hp hm hd hsz P1 P2
    go_enter Tryd.func3, Tryd.ntmps3
    go_wp2_with fail
    refine (awake_any _ HT.out).mono ?_
    rintro e w1 ⟨rfl, hB⟩
    have B_1 := Lib.hid (hB)
    clear hB
    go_wp2_with fail
    refine (parse_ok _ a0 w0 HP.out).mono ?_
    rintro e w2 ⟨aT, cT, rfl, hb, hR, hB⟩
    clear hb
    have B_2 := Lib.hid (B_1.out.trans (hB.mono B_1.out.size))
    have RT_2 := Lib.hid hR
    clear hB hR B_1
    have k0 := RT_2.out.k.c0
    have k1 := RT_2.out.k.c1
    have k2 := RT_2.out.k.c2
    have k3 := RT_2.out.k.c3
    have C := Lib.hid (print_h RT_2.out.at_ SM.out (tab_below HT.out B_2.out))
    go_wp2_with fail
    refine C.out.mono ?_
    rintro e w3 ⟨rfl, hB⟩
    clear C k0 k1 k2 k3
    have RT_3 := Lib.hid (RT_2.out.low hB)
    have B_3 := Lib.hid (B_2.out.trans (hB.mono B_2.out.size))
    clear hB RT_2 B_2
    have k0 := RT_3.out.k.c0
    have k1 := RT_3.out.k.c1
    have k2 := RT_3.out.k.c2
    have k3 := RT_3.out.k.c3
    have C := Lib.hid (canon_h RT_3.out.at_ SM.out (tab_below HT.out B_3.out))
    go_wp2_with fail
    refine C.out.mono ?_
    rintro e w4 ⟨rfl, hB⟩
    clear C k0 k1 k2 k3
    have RT_4 := Lib.hid (RT_3.out.low hB)
    have B_4 := Lib.hid (B_3.out.trans (hB.mono B_3.out.size))
    clear hB RT_3 B_3
    by_cases h1 : (printT t).length ≤ 4000
    · by_cases h2 : (canonS t).length ≤ 4000
      · have K1 := Lib.hid (Q1.out.trans (if_pos h1))
        have K2 := Lib.hid (Q2.out.trans (if_pos h2))
        clear h1 h2 Q1 Q2
        go_wp2_with fail
        refine (parse_ok _ (bytes (printT t)) L1.out K1.out).mono ?_
        rintro e w5 ⟨aU, cU, rfl, hb, hR, hB⟩
        clear hb
        have RT_5 := Lib.hid (RT_4.out.low hB)
        have B_5 := Lib.hid (B_4.out.trans (hB.mono B_4.out.size))
        have RU_5 := Lib.hid hR
        clear hB hR RT_4 B_4
        go_wp2_with fail
        refine (parse_ok _ (bytes (canonS t)) L2.out K2.out).mono ?_
        rintro e w6 ⟨aV, cV, rfl, hb, hR, hB⟩
        clear hb
        have RT_6 := Lib.hid (RT_5.out.low hB)
        have RU_6 := Lib.hid (RU_5.out.low hB)
        have B_6 := Lib.hid (B_5.out.trans (hB.mono B_5.out.size))
        have RV_6 := Lib.hid hR
        clear hB hR RT_5 RU_5 B_5
        have k0 := RU_6.out.k.c0
        have k1 := RU_6.out.k.c1
        have k2 := RU_6.out.k.c2
        have k3 := RU_6.out.k.c3
        have C := Lib.hid (print_h RU_6.out.at_ SM.out (tab_below HT.out B_6.out))
        go_wp2_with fail
        refine C.out.mono ?_
        rintro e w7 ⟨rfl, hB⟩
        clear C k0 k1 k2 k3
        have RT_7 := Lib.hid (RT_6.out.low hB)
        have RU_7 := Lib.hid (RU_6.out.low hB)
        have RV_7 := Lib.hid (RV_6.out.low hB)
        have B_7 := Lib.hid (B_6.out.trans (hB.mono B_6.out.size))
        clear hB RT_6 RU_6 RV_6 B_6
        have k0 := RT_7.out.k.c0
        have k1 := RT_7.out.k.c1
        have k2 := RT_7.out.k.c2
        have k3 := RT_7.out.k.c3
        have l0 := RU_7.out.k.c0
        have l1 := RU_7.out.k.c1
        have l2 := RU_7.out.k.c2
        have l3 := RU_7.out.k.c3
        have C := Lib.hid (same_h RT_7.out.at_ RU_7.out.at_ SM.out SM.out (tab_below HT.out B_7.out))
        go_wp2_with fail
        refine C.out.mono ?_
        rintro e w8 ⟨rfl, hB⟩
        clear C k0 k1 k2 k3 l0 l1 l2 l3
        have RT_8 := Lib.hid (RT_7.out.low hB)
        have RU_8 := Lib.hid (RU_7.out.low hB)
        have RV_8 := Lib.hid (RV_7.out.low hB)
        have B_8 := Lib.hid (B_7.out.trans (hB.mono B_7.out.size))
        clear hB RT_7 RU_7 RV_7 B_7
        have k0 := RT_8.out.k.c0
        have k1 := RT_8.out.k.c1
        have k2 := RT_8.out.k.c2
        have k3 := RT_8.out.k.c3
        have l0 := RV_8.out.k.c0
        have l1 := RV_8.out.k.c1
        have l2 := RV_8.out.k.c2
        have l3 := RV_8.out.k.c3
        have C := Lib.hid (same_h RT_8.out.at_ RV_8.out.at_ SM.out SC.out (tab_below HT.out B_8.out))
        go_wp2_with fail
        refine C.out.mono ?_
        rintro e w9 ⟨rfl, hB⟩
        clear C k0 k1 k2 k3 l0 l1 l2 l3
        have RT_9 := Lib.hid (RT_8.out.low hB)
        have RU_9 := Lib.hid (RU_8.out.low hB)
        have RV_9 := Lib.hid (RV_8.out.low hB)
        have B_9 := Lib.hid (B_8.out.trans (hB.mono B_8.out.size))
        clear hB RT_8 RU_8 RV_8 B_8
        have k0 := RV_9.out.k.c0
        have k1 := RV_9.out.k.c1
        have k2 := RV_9.out.k.c2
        have k3 := RV_9.out.k.c3
        have C := Lib.hid (canon_h RV_9.out.at_ SC.out (tab_below HT.out B_9.out))
        go_wp2_with fail
        refine C.out.mono ?_
        rintro e w10 ⟨rfl, hB⟩
        clear C k0 k1 k2 k3
        have RT_10 := Lib.hid (RT_9.out.low hB)
        have RU_10 := Lib.hid (RU_9.out.low hB)
        have RV_10 := Lib.hid (RV_9.out.low hB)
        have B_10 := Lib.hid (B_9.out.trans (hB.mono B_9.out.size))
        clear hB RT_9 RU_9 RV_9 B_9
        rw [TW.out] at *
        go_wp2
        go_ret
        exact ⟨rfl, B_10.out⟩
      · have K1 := Lib.hid (Q1.out.trans (if_pos h1))
        have K2 := Lib.hid (Q2.out.trans (if_neg h2))
        clear h1 h2 Q1 Q2
        go_wp2_with fail
        refine (parse_ok _ (bytes (printT t)) L1.out K1.out).mono ?_
        rintro e w5 ⟨aU, cU, rfl, hb, hR, hB⟩
        clear hb
        have RT_5 := Lib.hid (RT_4.out.low hB)
        have B_5 := Lib.hid (B_4.out.trans (hB.mono B_4.out.size))
        have RU_5 := Lib.hid hR
        clear hB hR RT_4 B_4
        go_wp2_with fail
        refine (parse_bad _ (bytes (canonS t)) L2.out K2.out).mono ?_
        rintro e w6 ⟨rfl, hb, hB⟩
        clear hb
        have RT_6 := Lib.hid (RT_5.out.low hB)
        have RU_6 := Lib.hid (RU_5.out.low hB)
        have B_6 := Lib.hid (B_5.out.trans (hB.mono B_5.out.size))
        clear hB RT_5 RU_5 B_5
        go_wp2
        go_ret
        exact ⟨rfl, B_6.out⟩
    · by_cases h2 : (canonS t).length ≤ 4000
      · have K1 := Lib.hid (Q1.out.trans (if_neg h1))
        have K2 := Lib.hid (Q2.out.trans (if_pos h2))
        clear h1 h2 Q1 Q2
        go_wp2_with fail
        refine (parse_bad _ (bytes (printT t)) L1.out K1.out).mono ?_
        rintro e w5 ⟨rfl, hb, hB⟩
        clear hb
        have RT_5 := Lib.hid (RT_4.out.low hB)
        have B_5 := Lib.hid (B_4.out.trans (hB.mono B_4.out.size))
        clear hB RT_4 B_4
        go_wp2_with fail
        refine (parse_ok _ (bytes (canonS t)) L2.out K2.out).mono ?_
        rintro e w6 ⟨aV, cV, rfl, hb, hR, hB⟩
        clear hb
        have RT_6 := Lib.hid (RT_5.out.low hB)
        have B_6 := Lib.hid (B_5.out.trans (hB.mono B_5.out.size))
        have RV_6 := Lib.hid hR
        clear hB hR RT_5 B_5
        go_wp2
        go_ret
        exact ⟨rfl, B_6.out⟩
      · have K1 := Lib.hid (Q1.out.trans (if_neg h1))
        have K2 := Lib.hid (Q2.out.trans (if_neg h2))
        clear h1 h2 Q1 Q2
        go_wp2_with fail
        refine (parse_bad _ (bytes (printT t)) L1.out K1.out).mono ?_
        rintro e w5 ⟨rfl, hb, hB⟩
        clear hb
        have RT_5 := Lib.hid (RT_4.out.low hB)
        have B_5 := Lib.hid (B_4.out.trans (hB.mono B_4.out.size))
        clear hB RT_4 B_4
        go_wp2_with fail
        refine (parse_bad _ (bytes (canonS t)) L2.out K2.out).mono ?_
        rintro e w6 ⟨rfl, hb, hB⟩
        clear hb
        have RT_6 := Lib.hid (RT_5.out.low hB)
        have B_6 := Lib.hid (B_5.out.trans (hB.mono B_5.out.size))
        clear hB RT_5 B_5
        go_wp2
        go_ret
        exact ⟨rfl, B_6.out⟩

end Go.Proofs.YtifaaihekgnhiaaDoor.Tp

/-
  The law TypesBack: for every text it returns true; the text reads as before. No conditions; the card ties the library's tables to the program's text.
-/
namespace Go.Proofs.YtifaaihekgnhiaaDoor.typesBack
open Go.ChangeShapes Go.WideShapes Go.ChangeAt Go.WideMaps Go.WideElems Go.RowKit
open Go.ChangeMaps (open_string shut_string)
open Tp (Tab laidL tab_of_laid door_met own laidOut)

/-! ### the row's step, as the kit's worked example (a law over laid variables) has it -/
set_option linter.unusedVariables false in
set_option maxRecDepth 100000 in
theorem lifted (os : Os) (started : os.Started) (H : Type) (enc : TypeId × Value → H) :
    ReturnsInHanded {} Tryd.checked os 3 .any (fun w args => (Rows.typesBackSpec.pre enc Tryd.prog Tryd.f3 [] false w args ∧ laidMetH Tryd.prog laidL w) ∧ sizedMet enc Tryd.prog Tryd.f3 (OpenSpec.ofChange Rows.typesBackSpec) false w args)
      (Rows.typesBackSpec.post enc Tryd.prog Tryd.f3 false true false false) := by
  refine returnsInHanded_of_change_and (C := Tryd.checked) (X := fun w _ => laidMetH Tryd.prog laidL w) (fun _ _ _ hh h => h.of_heap hh) own started (by kernel_rfl) Tryd.func3
    (ChangeSpec.witness_shaped (enc := enc) (C := Tryd.checked) (os := os) (X := fun w _ => laidMetH Tryd.prog laidL w) false (World.doorLaid Tryd.prog 400 os) #[.string ByteArray.empty] 8 rfl (World.shaped_of_RefB (by kernel_rfl) (by kernel_rfl)) (by kernel_rfl) (by kernel_rfl) (by kernel_rfl) (door_met os _)) ?_
  intro W base args ds gs before hval0 hW _ _ hL _
  have hval : ∀ (j : Nat) t v, Tryd.f3.params[j]? = some t → args[j]? = some v → Value.okWide Tryd.prog W .any base t v := hval0
  have hW' := hW
  obtain ⟨p, q, hA0, hV, rfl, hfz, hnd⟩ := hW
  have hA : DataW.TrodAll enc Tryd.prog W 0 (fun _ => true) true Tryd.f3.params.toList args.toList ds p := hA0
  rw [Tryd.params3] at hA hval
  obtain ⟨v0, vs0, d0, ds0, p0, q0, hargs, rfl, rfl, h0, r0⟩ := trodAll_cons hA
  obtain ⟨rfl, rfl, rfl⟩ := trodAll_nil r0
  obtain rfl : args = #[v0] := by cases args; simp_all
  obtain ⟨rfl, rfl⟩ := trodVars_none hV
  obtain ⟨a0, rfl, rfl, rfl, w0⟩ := open_string Tryd.underlying9 (hval 0 9 v0 rfl rfl) h0
  clear hA0 hval0
  refine (Tp.typesBack_walk a0 w0 W (tab_of_laid hL)).mono fun e W' ⟨he, bel⟩ => ?_
  subst he
  exact ⟨_, rfl, _, _, _, [], _, [], hW', trodAll_mk1 (shut_bool Tryd.underlying4 _), (trodAll_cons_mk (shut_string Tryd.underlying9 w0) trodAll_mk0), rfl, bel.frame _, fun h => by cases h⟩

theorem row_holds : Rows.TypesBackSaid :=
  OpenClaim.holds_of_wide 3 Tryd.f3 rfl rfl rfl rfl rfl rfl rfl ⟨rfl, rfl, rfl, rfl, rfl⟩ rfl rfl rfl rfl rfl (by kernel_rfl) Tryd.func3 (by kernel_rfl)
    (of_decide_eq_true (by kernel_rfl)) (by unfold Func.isWrapper; first | (rw [if_pos (by decide +kernel)]; kernel_rfl) | (rw [if_neg (by decide +kernel)]; exact ⟨rfl, rfl⟩))
    (fun os started H enc _ => lifted os started H enc)

/-- THE STATEMENT: the row, tied to the program's text. -/
theorem proved : Rows.TypesBackCardSaid :=
  Claim7.holds_tied_plain_at .later [] [.data, .data, .data, .sentinel, .sentinel] true Rows.typesBackCard.stood.harness true
    row_holds (fun _ h => by cases h) (by kernel_rfl) (fun _ h => by cases h) typesBack_row_tie rfl ⟨rfl, rfl⟩ (by kernel_rfl) rfl
    (fun f fn hf hfn => by
      obtain rfl : f = 3 := Option.some.inj ((show Tryd.prog.funcNamed "savant/savantlaw02.TypesBack" = some 3 by kernel_rfl).symm.trans hf) |>.symm
      obtain rfl : fn = Tryd.f3 := (Option.some.inj (Tryd.func3.symm.trans hfn)).symm
      exact ⟨by kernel_rfl, fun j t ht => by
        rw [Tryd.params3] at ht
        have hm : t ∈ [9] := by simpa using Array.mem_of_getElem? ht
        have hall : ([9].all fun u => !Tryd.prog.wantsStandIn u) = true := by kernel_rfl
        exact (show Tryd.prog.wantsStandIn t = false by simpa using List.all_eq_true.1 hall t hm)⟩)
    (by kernel_rfl)
#print axioms proved
end Go.Proofs.YtifaaihekgnhiaaDoor.typesBack

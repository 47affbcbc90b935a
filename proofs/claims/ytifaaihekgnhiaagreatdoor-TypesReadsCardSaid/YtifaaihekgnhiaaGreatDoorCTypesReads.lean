/-
  The law TypesReads: for every text it returns true; the text reads as before. No conditions; the card ties the library's tables to the program's text.
-/
import Derived.Test.YtifaaihekgnhiaaGreatDoorP44
import Derived.Test.YtifaaihekgnhiaaGreatDoorP46
import Derived.Test.YtifaaihekgnhiaaGreatDoorCards
import Derived.Test.YtifaaihekgnhiaaGreatDoorTie
import Derived.SevenTiedAt

/- The walk of TypesReads. -/
namespace Go.Proofs.YtifaaihekgnhiaaGreatDoor.Tp
open Go.RowKit

set_option maxHeartbeats 6400000 in
set_option maxRecDepth 100000 in
theorem typesReads_walk (a0 : ByteArray) (w0 : a0.size ≤ maxLen) (w : World) (hT : Tab w) :
    Calls Tryz.prog 3 #[.string a0] w fun e w' => e = .returned (.bool true) ∧ Below w.heap.size w w' := by
  have HT := Lib.hid hT
  clear hT
  cases hp : parseT a0.data.toList with
  | error er =>
    have her : ((er : Int) != 0) = true := by have := parse_er hp; rw [bne_iff_ne]; omega
    have her2 : ((er : Int) != (er : Int)) = false := by simp
    go_enter Tryz.func3, Tryz.ntmps3
    go_wp2_with fail
    refine (awake_any _ HT.out).mono ?_
    rintro e w1 ⟨rfl, hB⟩
    have B_1 := Lib.hid (hB)
    clear hB
    go_wp2_with fail
    refine (parse_bad _ a0 w0 hp).mono ?_
    rintro e w2 ⟨rfl, hb, hB⟩
    clear hb
    have B_2 := Lib.hid (B_1.out.trans (hB.mono B_1.out.size))
    clear hB B_1
    go_wp2_with fail
    refine (rparse_bad _ a0 w0 hp).mono ?_
    rintro e w3 ⟨rfl, hb, hB⟩
    clear hb
    have B_3 := Lib.hid (B_2.out.trans (hB.mono B_2.out.size))
    clear hB B_2
    go_wp2
    go_ret
    exact ⟨rfl, B_3.out⟩
  | ok t =>
    obtain ⟨hm, hd, _, hsz⟩ := parse_made hp
    have SM := Lib.hid (small_parse hp)
    have HP := Lib.hid hp
    have CR := Lib.hid (canonR_ok hm hsz)
    clear hp hm hd hsz
    go_enter Tryz.func3, Tryz.ntmps3
    go_wp2_with fail
    refine (awake_any _ HT.out).mono ?_
    rintro e w1 ⟨rfl, hB⟩
    have B_1 := Lib.hid (hB)
    clear hB
    go_wp2_with fail
    refine (parse_ok _ a0 w0 HP.out).mono ?_
    rintro e w2 ⟨aT, cT, rfl, hb, hR, hB⟩
    clear hb
    have B_2 := Lib.hid (B_1.out.trans (hB.mono B_1.out.size))
    have RT_2 := Lib.hid hR
    clear hB hR B_1
    go_wp2_with fail
    refine (rparse_ok _ a0 w0 HP.out).mono ?_
    rintro e w3 ⟨aU, cU, rfl, hb, hR, hB⟩
    clear hb
    have RT_3 := Lib.hid (RT_2.out.low hB)
    have B_3 := Lib.hid (B_2.out.trans (hB.mono B_2.out.size))
    have RU_3 := Lib.hid hR
    clear hB hR RT_2 B_2
    have k0 := RT_3.out.k.c0
    have k1 := RT_3.out.k.c1
    have k2 := RT_3.out.k.c2
    have k3 := RT_3.out.k.c3
    have C := Lib.hid (print_h RT_3.out.at_ SM.out (tab_below HT.out B_3.out))
    go_wp2_with fail
    refine C.out.mono ?_
    rintro e w4 ⟨rfl, hB⟩
    clear C k0 k1 k2 k3
    have RT_4 := Lib.hid (RT_3.out.low hB)
    have RU_4 := Lib.hid (RU_3.out.low hB)
    have B_4 := Lib.hid (B_3.out.trans (hB.mono B_3.out.size))
    clear hB RT_3 RU_3 B_3
    have k0 := RT_4.out.k.c0
    have k1 := RT_4.out.k.c1
    have k2 := RT_4.out.k.c2
    have k3 := RT_4.out.k.c3
    have C := Lib.hid (canon_h RT_4.out.at_ SM.out (tab_below HT.out B_4.out))
    go_wp2_with fail
    refine C.out.mono ?_
    rintro e w5 ⟨rfl, hB⟩
    clear C k0 k1 k2 k3
    have RT_5 := Lib.hid (RT_4.out.low hB)
    have RU_5 := Lib.hid (RU_4.out.low hB)
    have B_5 := Lib.hid (B_4.out.trans (hB.mono B_4.out.size))
    clear hB RT_4 RU_4 B_4
    have k0 := RU_5.out.k.c0
    have k1 := RU_5.out.k.c1
    have k2 := RU_5.out.k.c2
    have k3 := RU_5.out.k.c3
    have C := Lib.hid (rprint_h RU_5.out.at_ SM.out)
    go_wp2_with fail
    refine C.out.mono ?_
    rintro e w6 ⟨rfl, hB⟩
    clear C k0 k1 k2 k3
    have RT_6 := Lib.hid (RT_5.out.low hB)
    have RU_6 := Lib.hid (RU_5.out.low hB)
    have B_6 := Lib.hid (B_5.out.trans (hB.mono B_5.out.size))
    clear hB RT_5 RU_5 B_5
    have k0 := RU_6.out.k.c0
    have k1 := RU_6.out.k.c1
    have k2 := RU_6.out.k.c2
    have k3 := RU_6.out.k.c3
    generalize bytes (printT t) = p1 at *
    have C := Lib.hid (rcanon_h RU_6.out.at_ CR.out)
    go_wp2_with fail
    refine C.out.mono ?_
    rintro e w7 ⟨rfl, hB⟩
    clear C k0 k1 k2 k3
    have RT_7 := Lib.hid (RT_6.out.low hB)
    have RU_7 := Lib.hid (RU_6.out.low hB)
    have B_7 := Lib.hid (B_6.out.trans (hB.mono B_6.out.size))
    clear hB RT_6 RU_6 B_6
    generalize bytes (canonS t) = p2 at *
    go_wp2
    go_ret
    exact ⟨rfl, B_7.out⟩

end Go.Proofs.YtifaaihekgnhiaaGreatDoor.Tp

/-
  The law TypesReads: for every text it returns true; the text reads as before. No conditions; the card ties the library's tables to the program's text.
-/
namespace Go.Proofs.YtifaaihekgnhiaaGreatDoor.typesReads
open Go.ChangeShapes Go.WideShapes Go.ChangeAt Go.WideMaps Go.WideElems Go.RowKit
open Go.ChangeMaps (open_string shut_string)
open Tp (Tab laidL tab_of_laid door_met own laidOut)

/-! ### the row's step, as the kit's worked example (a law over laid variables) has it -/
set_option linter.unusedVariables false in
set_option maxRecDepth 100000 in
theorem lifted (os : Os) (started : os.Started) (H : Type) (enc : TypeId × Value → H) :
    ReturnsInHanded {} Tryz.checked os 3 .any (fun w args => (Rows.typesReadsSpec.pre enc Tryz.prog Tryz.f3 [] false w args ∧ laidMetH Tryz.prog laidL w) ∧ sizedMet enc Tryz.prog Tryz.f3 (OpenSpec.ofChange Rows.typesReadsSpec) false w args)
      (Rows.typesReadsSpec.post enc Tryz.prog Tryz.f3 false true false false) := by
  refine returnsInHanded_of_change_and (C := Tryz.checked) (X := fun w _ => laidMetH Tryz.prog laidL w) (fun _ _ _ hh h => h.of_heap hh) own started (by kernel_rfl) Tryz.func3
    (ChangeSpec.witness_shaped (enc := enc) (C := Tryz.checked) (os := os) (X := fun w _ => laidMetH Tryz.prog laidL w) false (World.doorLaid Tryz.prog 400 os) #[.string ByteArray.empty] 8 rfl (World.shaped_of_RefB (by kernel_rfl) (by kernel_rfl)) (by kernel_rfl) (by kernel_rfl) (by kernel_rfl) (door_met os _)) ?_
  intro W base args ds gs before hval0 hW _ _ hL _
  have hval : ∀ (j : Nat) t v, Tryz.f3.params[j]? = some t → args[j]? = some v → Value.okWide Tryz.prog W .any base t v := hval0
  have hW' := hW
  obtain ⟨p, q, hA0, hV, rfl, hfz, hnd⟩ := hW
  have hA : DataW.TrodAll enc Tryz.prog W 0 (fun _ => true) true Tryz.f3.params.toList args.toList ds p := hA0
  rw [Tryz.params3] at hA hval
  obtain ⟨v0, vs0, d0, ds0, p0, q0, hargs, rfl, rfl, h0, r0⟩ := trodAll_cons hA
  obtain ⟨rfl, rfl, rfl⟩ := trodAll_nil r0
  obtain rfl : args = #[v0] := by cases args; simp_all
  obtain ⟨rfl, rfl⟩ := trodVars_none hV
  obtain ⟨a0, rfl, rfl, rfl, w0⟩ := open_string Tryz.underlying9 (hval 0 9 v0 rfl rfl) h0
  clear hA0 hval0
  refine (Tp.typesReads_walk a0 w0 W (tab_of_laid hL)).mono fun e W' ⟨he, bel⟩ => ?_
  subst he
  exact ⟨_, rfl, _, _, _, [], _, [], hW', trodAll_mk1 (shut_bool Tryz.underlying4 _), (trodAll_cons_mk (shut_string Tryz.underlying9 w0) trodAll_mk0), rfl, bel.frame _, fun h => by cases h⟩

theorem row_holds : Rows.TypesReadsSaid :=
  OpenClaim.holds_of_wide 3 Tryz.f3 rfl rfl rfl rfl rfl rfl rfl ⟨rfl, rfl, rfl, rfl, rfl⟩ rfl rfl rfl rfl rfl (by kernel_rfl) Tryz.func3 (by kernel_rfl)
    (of_decide_eq_true (by kernel_rfl)) (by unfold Func.isWrapper; first | (rw [if_pos (by decide +kernel)]; kernel_rfl) | (rw [if_neg (by decide +kernel)]; exact ⟨rfl, rfl⟩))
    (fun os started H enc _ => lifted os started H enc)

/-- THE STATEMENT: the row, tied to the program's text. -/
theorem proved : Rows.TypesReadsCardSaid :=
  Claim7.holds_tied_plain_at .later [] [.data, .data, .data, .sentinel, .sentinel] true Rows.typesReadsCard.stood.harness true
    row_holds (fun _ h => by cases h) (by kernel_rfl) (fun _ h => by cases h) typesReads_row_tie rfl ⟨rfl, rfl⟩ (by kernel_rfl) rfl
    (fun f fn hf hfn => by
      obtain rfl : f = 3 := Option.some.inj ((show Tryz.prog.funcNamed "savant/savantlaw02.TypesReads" = some 3 by kernel_rfl).symm.trans hf) |>.symm
      obtain rfl : fn = Tryz.f3 := (Option.some.inj (Tryz.func3.symm.trans hfn)).symm
      exact ⟨by kernel_rfl, fun j t ht => by
        rw [Tryz.params3] at ht
        have hm : t ∈ [9] := by simpa using Array.mem_of_getElem? ht
        have hall : ([9].all fun u => !Tryz.prog.wantsStandIn u) = true := by kernel_rfl
        exact (show Tryz.prog.wantsStandIn t = false by simpa using List.all_eq_true.1 hall t hm)⟩)
    (by kernel_rfl)
#print axioms proved
end Go.Proofs.YtifaaihekgnhiaaGreatDoor.typesReads

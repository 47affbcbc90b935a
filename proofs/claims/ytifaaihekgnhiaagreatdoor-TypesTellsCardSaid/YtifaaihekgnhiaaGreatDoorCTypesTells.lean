/-
  The law TypesTells: for every text it returns true; the text reads as before. No conditions; the card ties the library's tables to the program's text.
-/
import Derived.Test.YtifaaihekgnhiaaGreatDoorP41
import Derived.Test.YtifaaihekgnhiaaGreatDoorP46
import Derived.Test.YtifaaihekgnhiaaGreatDoorCards
import Derived.Test.YtifaaihekgnhiaaGreatDoorTie
import Derived.SevenTiedAt

/- The walk of TypesTells. -/
namespace Go.Proofs.YtifaaihekgnhiaaGreatDoor.Tp
open Go.RowKit

set_option maxHeartbeats 6400000 in
set_option maxRecDepth 100000 in
theorem typesTells_walk (a0 : ByteArray) (w0 : a0.size ≤ maxLen) (w : World) (hT : Tab w) :
    Calls Tryz.prog 6 #[.string a0] w fun e w' => e = .returned (.bool true) ∧ Below w.heap.size w w' := by
  have HT := Lib.hid hT
  clear hT
  cases hp : parseT a0.data.toList with
  | error er =>
    have her : ((er : Int) != 0) = true := by have := parse_er hp; rw [bne_iff_ne]; omega
    go_enter Tryz.func6, Tryz.ntmps6
    go_wp2_with fail
    refine (awake_any _ HT.out).mono ?_
    rintro e w1 ⟨rfl, hB⟩
    have B_1 := Lib.hid (hB)
    clear hB
    go_wp2_with fail
    refine (parse_bad _ a0 w0 hp).mono ?_
    rintro e w2 ⟨rfl, hb, hB⟩
    clear hb
    have B_2 := Lib.hid (B_1.out.trans (hB.mono B_1.out.size))
    clear hB B_1
    go_wp2_with fail
    refine (rparse_bad _ a0 w0 hp).mono ?_
    rintro e w3 ⟨rfl, hb, hB⟩
    clear hb
    have B_3 := Lib.hid (B_2.out.trans (hB.mono B_2.out.size))
    clear hB B_2
    go_wp2
    go_ret
    exact ⟨rfl, B_3.out⟩
  | ok t =>
    obtain ⟨hm, hd, _, hsz⟩ := parse_made hp
    have SM := Lib.hid (small_parse hp)
    have HP := Lib.hid hp
    have FLFT : Hid ((freeT t).length ≤ 1099511627776) := Lib.hid (by have := freeT_len t; omega)
    have FLMT : Hid ((metasT t).length ≤ 1099511627776) := Lib.hid (by have := metasT_len t; omega)
    have hdt : t.depth ≤ 100000 := by omega
    have S4 : Hid (sameN (freeT t) (freeT t) = true) := Lib.hid (sameN_true rfl)
    have HDT := Lib.hid hdt
    clear hp hm hd hsz hdt
    go_enter Tryz.func6, Tryz.ntmps6
    go_wp2_with fail
    refine (awake_any _ HT.out).mono ?_
    rintro e w1 ⟨rfl, hB⟩
    have B_1 := Lib.hid (hB)
    clear hB
    go_wp2_with fail
    refine (parse_ok _ a0 w0 HP.out).mono ?_
    rintro e w2 ⟨aT, cT, rfl, hb, hR, hB⟩
    clear hb
    have B_2 := Lib.hid (B_1.out.trans (hB.mono B_1.out.size))
    have RT_2 := Lib.hid hR
    clear hB hR B_1
    go_wp2_with fail
    refine (rparse_ok _ a0 w0 HP.out).mono ?_
    rintro e w3 ⟨aU, cU, rfl, hb, hR, hB⟩
    clear hb
    have RT_3 := Lib.hid (RT_2.out.low hB)
    have B_3 := Lib.hid (B_2.out.trans (hB.mono B_2.out.size))
    have RU_3 := Lib.hid hR
    clear hB hR RT_2 B_2
    go_upto_region 6 with fail
    go_cut [8] from 26 to 30 (fun s wx => s = .bool (sameN (freeT t) (freeT t)) ∧ Below (w3.alloc (.cells #[.int .i64 t.kind, .string t.name, .int .i64 t.n, .slice aU t.args.length cU] 31)).heap.size (w3.alloc (.cells #[.int .i64 t.kind, .string t.name, .int .i64 t.n, .slice aU t.args.length cU] 31)) wx)
    case first =>
      have k0 := RT_3.out.k.c0
      have k1 := RT_3.out.k.c1
      have k2 := RT_3.out.k.c2
      have k3 := RT_3.out.k.c3
      have l0 := RU_3.out.k.c0
      have l1 := RU_3.out.k.c1
      have l2 := RU_3.out.k.c2
      have l3 := RU_3.out.k.c3
      have HD := Lib.hid ((Below.refl (w3.alloc (.cells #[.int .i64 t.kind, .string t.name, .int .i64 t.n, .slice aU t.args.length cU] 31)).heap.size (w3.alloc (.cells #[.int .i64 t.kind, .string t.name, .int .i64 t.n, .slice aU t.args.length cU] 31))).drew)
      have CF1 := Lib.hid (fun (W : World) (h : Below (w3.alloc (.cells #[.int .i64 t.kind, .string t.name, .int .i64 t.n, .slice aU t.args.length cU] 31)).heap.size (w3.alloc (.cells #[.int .i64 t.kind, .string t.name, .int .i64 t.n, .slice aU t.args.length cU] 31)) W) => free_h (RT_3.out.low h).at_ SM.out)
      have CF2 := Lib.hid (fun (W : World) (h : Below (w3.alloc (.cells #[.int .i64 t.kind, .string t.name, .int .i64 t.n, .slice aU t.args.length cU] 31)).heap.size (w3.alloc (.cells #[.int .i64 t.kind, .string t.name, .int .i64 t.n, .slice aU t.args.length cU] 31)) W) => rfree_h (RU_3.out.low h).at_ SM.out)
      have KD : Hid (∀ W : World, Below (w3.alloc (.cells #[.int .i64 t.kind, .string t.name, .int .i64 t.n, .slice aU t.args.length cU] 31)).heap.size (w3.alloc (.cells #[.int .i64 t.kind, .string t.name, .int .i64 t.n, .slice aU t.args.length cU] 31)) W → (W.cell? ⟨w2.heap.size, 0, none⟩ = some (.int .i64 t.kind) ∧ W.cell? ⟨w2.heap.size, 1, none⟩ = some (.string t.name) ∧ W.cell? ⟨w2.heap.size, 2, none⟩ = some (.int .i64 t.n) ∧ W.cell? ⟨w2.heap.size, 3, none⟩ = some (.slice aT t.args.length cT) ∧ W.cell? ⟨w3.heap.size, 0, none⟩ = some (.int .i64 t.kind) ∧ W.cell? ⟨w3.heap.size, 1, none⟩ = some (.string t.name) ∧ W.cell? ⟨w3.heap.size, 2, none⟩ = some (.int .i64 t.n) ∧ W.cell? ⟨w3.heap.size, 3, none⟩ = some (.slice aU t.args.length cU))) := Lib.hid (fun W h => ⟨(RT_3.out.low h).k.c0, (RT_3.out.low h).k.c1, (RT_3.out.low h).k.c2, (RT_3.out.low h).k.c3, (RU_3.out.low h).k.c0, (RU_3.out.low h).k.c1, (RU_3.out.low h).k.c2, (RU_3.out.low h).k.c3⟩)
      go_region_held3 (fun w' => w'.cell? ⟨w2.heap.size, 0, none⟩ = some (.int .i64 t.kind) ∧ w'.cell? ⟨w2.heap.size, 1, none⟩ = some (.string t.name) ∧ w'.cell? ⟨w2.heap.size, 2, none⟩ = some (.int .i64 t.n) ∧ w'.cell? ⟨w2.heap.size, 3, none⟩ = some (.slice aT t.args.length cT) ∧ w'.cell? ⟨w3.heap.size, 0, none⟩ = some (.int .i64 t.kind) ∧ w'.cell? ⟨w3.heap.size, 1, none⟩ = some (.string t.name) ∧ w'.cell? ⟨w3.heap.size, 2, none⟩ = some (.int .i64 t.n) ∧ w'.cell? ⟨w3.heap.size, 3, none⟩ = some (.slice aU t.args.length cU))
        (first | (with_reducible exact KD.out _ HZ.out) | (with_reducible exact KD.out _ HY.out) | (with_reducible exact KD.out _ HX.out) | (with_reducible exact KD.out _ HXB.out) | (with_reducible exact KD.out _ HD.out))
        (first
          | (go_at_call 22; (with_reducible refine (CF1.out _ HD.out).mono ?_); rintro e wx ⟨v1, rfl, own1, len1, hb1⟩; obtain ⟨ya, yc, rfl⟩ := own_form own1; have HX := Lib.hid (HD.out.trans (hb1.mono HD.out.size)); have O1 := Lib.hid own1; clear hb1 own1 len1)
          | (go_at_call 23; (with_reducible refine (CF2.out _ HX.out).mono ?_); rintro e wy ⟨v2, rfl, h2, hb2⟩; have HY := Lib.hid (HX.out.trans (hb2.mono HX.out.size)); have CN := Lib.hid (names_any _ _ _ _ _ _ wy ((StrsAt.of_own O1.out FLFT.out).keep fun b hb => hb2.block b (O1.out.lt b hb).2) h2); clear hb2 h2)
          | (go_at_call 23; (with_reducible refine (CF2.out _ HD.out).mono ?_); rintro e wx ⟨v2, rfl, h2, hb2⟩; have HXB := Lib.hid (HD.out.trans (hb2.mono HD.out.size)); have S2 := Lib.hid h2; clear hb2 h2)
          | (go_at_call 22; (with_reducible refine (CF1.out _ HXB.out).mono ?_); rintro e wy ⟨v1, rfl, own1, len1, hb1⟩; obtain ⟨ya, yc, rfl⟩ := own_form own1; have HY := Lib.hid (HXB.out.trans (hb1.mono HXB.out.size)); have h2 := S2.out.low hb1; have CN := Lib.hid (names_any _ _ _ _ _ _ wy (StrsAt.of_own own1 FLFT.out) h2); clear hb1 own1 len1 h2)
          | (go_at_call 21; (with_reducible refine CN.out.mono ?_); rintro e wz ⟨rfl, nq, rfl⟩; have HZ := Lib.hid (drawn_below HY.out nq)))
      all_goals
        go_wp2_with fail
        go_meet
        exact ⟨rfl, HZ.out⟩
    obtain ⟨rfl, hB⟩ := hcut
    have RT_4 := Lib.hid (RT_3.out.low hB)
    have RU_4 := Lib.hid (RU_3.out.low hB)
    have B_4 := Lib.hid (B_3.out.trans (hB.mono B_3.out.size))
    clear hB RT_3 RU_3 B_3
    rw [S4.out]
    have hwF : ∃ wF : World, wF = wc := ⟨_, rfl⟩
    obtain ⟨wF, hwF⟩ := hwF
    subst hwF
    go_upto_region 7 with fail
    go_cut [9] from 31 to 35 (fun s wx => s = .bool (decide (metasT t = metasT t)) ∧ Below (wF).heap.size (wF) wx)
    case first =>
      have k0 := RT_4.out.k.c0
      have k1 := RT_4.out.k.c1
      have k2 := RT_4.out.k.c2
      have k3 := RT_4.out.k.c3
      have l0 := RU_4.out.k.c0
      have l1 := RU_4.out.k.c1
      have l2 := RU_4.out.k.c2
      have l3 := RU_4.out.k.c3
      have HD := Lib.hid ((Below.refl (wF).heap.size (wF)).drew)
      have CF1 := Lib.hid (fun (W : World) (h : Below (wF).heap.size (wF) W) => metas_h (RT_4.out.low h).at_ SM.out)
      have CF2 := Lib.hid (fun (W : World) (h : Below (wF).heap.size (wF) W) => rmetas_h (RU_4.out.low h).at_ SM.out)
      have KD : Hid (∀ W : World, Below (wF).heap.size (wF) W → (W.cell? ⟨w2.heap.size, 0, none⟩ = some (.int .i64 t.kind) ∧ W.cell? ⟨w2.heap.size, 1, none⟩ = some (.string t.name) ∧ W.cell? ⟨w2.heap.size, 2, none⟩ = some (.int .i64 t.n) ∧ W.cell? ⟨w2.heap.size, 3, none⟩ = some (.slice aT t.args.length cT) ∧ W.cell? ⟨w3.heap.size, 0, none⟩ = some (.int .i64 t.kind) ∧ W.cell? ⟨w3.heap.size, 1, none⟩ = some (.string t.name) ∧ W.cell? ⟨w3.heap.size, 2, none⟩ = some (.int .i64 t.n) ∧ W.cell? ⟨w3.heap.size, 3, none⟩ = some (.slice aU t.args.length cU))) := Lib.hid (fun W h => ⟨(RT_4.out.low h).k.c0, (RT_4.out.low h).k.c1, (RT_4.out.low h).k.c2, (RT_4.out.low h).k.c3, (RU_4.out.low h).k.c0, (RU_4.out.low h).k.c1, (RU_4.out.low h).k.c2, (RU_4.out.low h).k.c3⟩)
      go_region_held3 (fun w' => w'.cell? ⟨w2.heap.size, 0, none⟩ = some (.int .i64 t.kind) ∧ w'.cell? ⟨w2.heap.size, 1, none⟩ = some (.string t.name) ∧ w'.cell? ⟨w2.heap.size, 2, none⟩ = some (.int .i64 t.n) ∧ w'.cell? ⟨w2.heap.size, 3, none⟩ = some (.slice aT t.args.length cT) ∧ w'.cell? ⟨w3.heap.size, 0, none⟩ = some (.int .i64 t.kind) ∧ w'.cell? ⟨w3.heap.size, 1, none⟩ = some (.string t.name) ∧ w'.cell? ⟨w3.heap.size, 2, none⟩ = some (.int .i64 t.n) ∧ w'.cell? ⟨w3.heap.size, 3, none⟩ = some (.slice aU t.args.length cU))
        (first | (with_reducible exact KD.out _ HZ.out) | (with_reducible exact KD.out _ HY.out) | (with_reducible exact KD.out _ HX.out) | (with_reducible exact KD.out _ HXB.out) | (with_reducible exact KD.out _ HD.out))
        (first
          | (go_at_call 25; (with_reducible refine (CF1.out _ HD.out).mono ?_); rintro e wx ⟨v1, rfl, own1, len1, hb1⟩; obtain ⟨ya, yc, rfl⟩ := own_form own1; have HX := Lib.hid (HD.out.trans (hb1.mono HD.out.size)); have O1 := Lib.hid own1; clear hb1 own1 len1)
          | (go_at_call 26; (with_reducible refine (CF2.out _ HX.out).mono ?_); rintro e wy ⟨v2, rfl, h2, hb2⟩; have HY := Lib.hid (HX.out.trans (hb2.mono HX.out.size)); have CN := Lib.hid (numbers_any _ _ _ _ _ _ wy ((NumsAt.of_own O1.out FLMT.out).keep fun b hb => hb2.block b (O1.out.lt b hb).2) h2.1); clear hb2 h2)
          | (go_at_call 26; (with_reducible refine (CF2.out _ HD.out).mono ?_); rintro e wx ⟨v2, rfl, h2, hb2⟩; have HXB := Lib.hid (HD.out.trans (hb2.mono HD.out.size)); have S2 := Lib.hid h2; clear hb2 h2)
          | (go_at_call 25; (with_reducible refine (CF1.out _ HXB.out).mono ?_); rintro e wy ⟨v1, rfl, own1, len1, hb1⟩; obtain ⟨ya, yc, rfl⟩ := own_form own1; have HY := Lib.hid (HXB.out.trans (hb1.mono HXB.out.size)); have h2 := S2.out.low hb1; have CN := Lib.hid (numbers_any _ _ _ _ _ _ wy (NumsAt.of_own own1 FLMT.out) h2.1); clear hb1 own1 len1 h2)
          | (go_at_call 24; (with_reducible refine CN.out.mono ?_); rintro e wz ⟨rfl, nq, rfl⟩; have HZ := Lib.hid (drawn_below HY.out nq)))
      all_goals
        go_wp2_with fail
        go_meet
        exact ⟨rfl, HZ.out⟩
    obtain ⟨rfl, hB⟩ := hcut
    have RT_5 := Lib.hid (RT_4.out.low hB)
    have RU_5 := Lib.hid (RU_4.out.low hB)
    have B_5 := Lib.hid (B_4.out.trans (hB.mono B_4.out.size))
    clear hB RT_4 RU_4 B_4
    rw [show decide (metasT t = metasT t) = true from decide_eq_true rfl]
    have k0 := RT_5.out.k.c0
    have k1 := RT_5.out.k.c1
    have k2 := RT_5.out.k.c2
    have k3 := RT_5.out.k.c3
    have C := Lib.hid (depth_h RT_5.out.at_ HDT.out)
    go_wp2_with fail
    refine C.out.mono ?_
    rintro e w6 ⟨rfl, hB⟩
    clear C k0 k1 k2 k3
    have RT_6 := Lib.hid (RT_5.out.low hB)
    have RU_6 := Lib.hid (RU_5.out.low hB)
    have B_6 := Lib.hid (B_5.out.trans (hB.mono B_5.out.size))
    clear hB RT_5 RU_5 B_5
    have k0 := RT_6.out.k.c0
    have k1 := RT_6.out.k.c1
    have k2 := RT_6.out.k.c2
    have k3 := RT_6.out.k.c3
    have C := Lib.hid (poly_h RT_6.out.at_ SM.out)
    go_wp2_with fail
    refine C.out.mono ?_
    rintro e w7 ⟨rfl, hB⟩
    clear C k0 k1 k2 k3
    have RT_7 := Lib.hid (RT_6.out.low hB)
    have RU_7 := Lib.hid (RU_6.out.low hB)
    have B_7 := Lib.hid (B_6.out.trans (hB.mono B_6.out.size))
    clear hB RT_6 RU_6 B_6
    have k0 := RU_7.out.k.c0
    have k1 := RU_7.out.k.c1
    have k2 := RU_7.out.k.c2
    have k3 := RU_7.out.k.c3
    have C := Lib.hid (rdepth_h RU_7.out.at_ HDT.out)
    go_wp2_with fail
    refine C.out.mono ?_
    rintro e w8 ⟨rfl, hB⟩
    clear C k0 k1 k2 k3
    have RT_8 := Lib.hid (RT_7.out.low hB)
    have RU_8 := Lib.hid (RU_7.out.low hB)
    have B_8 := Lib.hid (B_7.out.trans (hB.mono B_7.out.size))
    clear hB RT_7 RU_7 B_7
    have k0 := RU_8.out.k.c0
    have k1 := RU_8.out.k.c1
    have k2 := RU_8.out.k.c2
    have k3 := RU_8.out.k.c3
    have C := Lib.hid (rpoly_h RU_8.out.at_)
    go_wp2_with fail
    refine C.out.mono ?_
    rintro e w9 ⟨rfl, hB⟩
    clear C k0 k1 k2 k3
    have RT_9 := Lib.hid (RT_8.out.low hB)
    have RU_9 := Lib.hid (RU_8.out.low hB)
    have B_9 := Lib.hid (B_8.out.trans (hB.mono B_8.out.size))
    clear hB RT_8 RU_8 B_8
    generalize polyT t = po at *
    go_wp2
    go_ret
    exact ⟨rfl, B_9.out⟩

end Go.Proofs.YtifaaihekgnhiaaGreatDoor.Tp

/-
  The law TypesTells: for every text it returns true; the text reads as before. No conditions; the card ties the library's tables to the program's text.
-/
namespace Go.Proofs.YtifaaihekgnhiaaGreatDoor.typesTells
open Go.ChangeShapes Go.WideShapes Go.ChangeAt Go.WideMaps Go.WideElems Go.RowKit
open Go.ChangeMaps (open_string shut_string)
open Tp (Tab laidL tab_of_laid door_met own laidOut)

/-! ### the row's step, as the kit's worked example (a law over laid variables) has it -/
set_option linter.unusedVariables false in
set_option maxRecDepth 100000 in
theorem lifted (os : Os) (started : os.Started) (H : Type) (enc : TypeId × Value → H) :
    ReturnsInHanded {} Tryz.checked os 6 .any (fun w args => (Rows.typesTellsSpec.pre enc Tryz.prog Tryz.f6 [] false w args ∧ laidMetH Tryz.prog laidL w) ∧ sizedMet enc Tryz.prog Tryz.f6 (OpenSpec.ofChange Rows.typesTellsSpec) false w args)
      (Rows.typesTellsSpec.post enc Tryz.prog Tryz.f6 false true false false) := by
  refine returnsInHanded_of_change_and (C := Tryz.checked) (X := fun w _ => laidMetH Tryz.prog laidL w) (fun _ _ _ hh h => h.of_heap hh) own started (by kernel_rfl) Tryz.func6
    (ChangeSpec.witness_shaped (enc := enc) (C := Tryz.checked) (os := os) (X := fun w _ => laidMetH Tryz.prog laidL w) false (World.doorLaid Tryz.prog 400 os) #[.string ByteArray.empty] 8 rfl (World.shaped_of_RefB (by kernel_rfl) (by kernel_rfl)) (by kernel_rfl) (by kernel_rfl) (by kernel_rfl) (door_met os _)) ?_
  intro W base args ds gs before hval0 hW _ _ hL _
  have hval : ∀ (j : Nat) t v, Tryz.f6.params[j]? = some t → args[j]? = some v → Value.okWide Tryz.prog W .any base t v := hval0
  have hW' := hW
  obtain ⟨p, q, hA0, hV, rfl, hfz, hnd⟩ := hW
  have hA : DataW.TrodAll enc Tryz.prog W 0 (fun _ => true) true Tryz.f6.params.toList args.toList ds p := hA0
  rw [Tryz.params6] at hA hval
  obtain ⟨v0, vs0, d0, ds0, p0, q0, hargs, rfl, rfl, h0, r0⟩ := trodAll_cons hA
  obtain ⟨rfl, rfl, rfl⟩ := trodAll_nil r0
  obtain rfl : args = #[v0] := by cases args; simp_all
  obtain ⟨rfl, rfl⟩ := trodVars_none hV
  obtain ⟨a0, rfl, rfl, rfl, w0⟩ := open_string Tryz.underlying9 (hval 0 9 v0 rfl rfl) h0
  clear hA0 hval0
  refine (Tp.typesTells_walk a0 w0 W (tab_of_laid hL)).mono fun e W' ⟨he, bel⟩ => ?_
  subst he
  exact ⟨_, rfl, _, _, _, [], _, [], hW', trodAll_mk1 (shut_bool Tryz.underlying4 _), (trodAll_cons_mk (shut_string Tryz.underlying9 w0) trodAll_mk0), rfl, bel.frame _, fun h => by cases h⟩

theorem row_holds : Rows.TypesTellsSaid :=
  OpenClaim.holds_of_wide 6 Tryz.f6 rfl rfl rfl rfl rfl rfl rfl ⟨rfl, rfl, rfl, rfl, rfl⟩ rfl rfl rfl rfl rfl (by kernel_rfl) Tryz.func6 (by kernel_rfl)
    (of_decide_eq_true (by kernel_rfl)) (by unfold Func.isWrapper; first | (rw [if_pos (by decide +kernel)]; kernel_rfl) | (rw [if_neg (by decide +kernel)]; exact ⟨rfl, rfl⟩))
    (fun os started H enc _ => lifted os started H enc)

/-- THE STATEMENT: the row, tied to the program's text. -/
theorem proved : Rows.TypesTellsCardSaid :=
  Claim7.holds_tied_plain_at .later [] [.data, .data, .data, .sentinel, .sentinel] true Rows.typesTellsCard.stood.harness true
    row_holds (fun _ h => by cases h) (by kernel_rfl) (fun _ h => by cases h) typesTells_row_tie rfl ⟨rfl, rfl⟩ (by kernel_rfl) rfl
    (fun f fn hf hfn => by
      obtain rfl : f = 6 := Option.some.inj ((show Tryz.prog.funcNamed "savant/savantlaw02.TypesTells" = some 6 by kernel_rfl).symm.trans hf) |>.symm
      obtain rfl : fn = Tryz.f6 := (Option.some.inj (Tryz.func6.symm.trans hfn)).symm
      exact ⟨by kernel_rfl, fun j t ht => by
        rw [Tryz.params6] at ht
        have hm : t ∈ [9] := by simpa using Array.mem_of_getElem? ht
        have hall : ([9].all fun u => !Tryz.prog.wantsStandIn u) = true := by kernel_rfl
        exact (show Tryz.prog.wantsStandIn t = false by simpa using List.all_eq_true.1 hall t hm)⟩)
    (by kernel_rfl)
#print axioms proved
end Go.Proofs.YtifaaihekgnhiaaGreatDoor.typesTells

/- The walk of TypesDeeper. -/
import Derived.Test.YtifaaihekgnhiaaDoorP46
import Derived.Test.YtifaaihekgnhiaaDoorP36
import Derived.Deep.RegionHeld3
import Derived.Deep.CutRange
import Derived.Test.YtifaaihekgnhiaaDoorP13
import Derived.Test.YtifaaihekgnhiaaDoorCards
import Derived.Test.YtifaaihekgnhiaaDoorTie
import Derived.SevenTiedAt

/- What the laws' walks want besides. -/
namespace Go.Proofs.YtifaaihekgnhiaaDoor.Tp
open Go.RowKit

theorem drawn_below {B : Nat} {a w : World} (h : Below B a w) (n : Nat) : Below B a (w.drewN n) := h.trans ⟨rfl, rfl, rfl, Nat.le_refl _, fun _ _ => rfl⟩
/-- whatever Parse tells -/
def SomePost (w : World) (e : Ending) (w' : World) : Prop :=
  ∃ (k n : Int) (s : ByteArray) (a : Option Addr) (l c er : Nat), e = .returned (.tuple #[.agg #[.int .i64 k, .string s, .int .i64 n, .slice a l c], .int .i64 er]) ∧ Below w.heap.size w (w'.alloc (.cells #[.int .i64 k, .string s, .int .i64 n, .slice a l c] 25))
theorem parse_some (w : World) (s : ByteArray) (hs : s.size ≤ maxLen) : Calls Tryd.prog 9 #[.string s] w (SomePost w) := by
  cases h : parseT s.data.toList with
  | error er =>
    refine (parse_bad w s hs h).mono ?_
    rintro e w' ⟨rfl, _, hB⟩
    exact ⟨0, 0, _, none, 0, 0, er, rfl, hB⟩
  | ok t =>
    refine (parse_ok w s hs h).mono ?_
    rintro e w' ⟨a, c, rfl, _, _, hB⟩
    exact ⟨_, _, _, a, _, c, 0, rfl, hB⟩

theorem metaAcc_len : ∀ (t : Ty) (out : List Int) (ns : List ByteArray), (walkF metaStep t out ns).length ≤ out.length + t.size := by
  intro t
  induction t using Ty.ind with
  | h t ih =>
    intro out ns
    rw [walkF_eq, t.size_eq]
    have h1 : (metaStep out t ns).length ≤ out.length + 1 := by unfold metaStep; split <;> simp
    have : ∀ (l : List Ty) (out : List Int) (ns : List ByteArray), (∀ a ∈ l, ∀ (out : List Int) (ns : List ByteArray), (walkF metaStep a out ns).length ≤ out.length + a.size) → (walkL metaStep l out ns).length ≤ out.length + sizeL l := by
      intro l
      induction l with
      | nil => intro out ns _; simp [walkL, sizeL]
      | cons a l ihl =>
        intro out ns h
        rw [walkL, sizeL]
        have := ihl (walkF metaStep a out ns) ns fun b hb => h b (by simp [hb])
        have := h a (by simp) out ns
        omega
    have := this t.args (metaStep out t ns) (if t.kind = 5 then t.name :: ns else ns) ih
    omega
theorem metasT_len (t : Ty) : (metasT t).length ≤ t.size := by have := metaAcc_len t [] []; simpa [metasT] using this


end Go.Proofs.YtifaaihekgnhiaaDoor.Tp

/- The walk of TypesDeeper. -/
namespace Go.Proofs.YtifaaihekgnhiaaDoor.Tp
open Go.RowKit

set_option maxHeartbeats 6400000 in
set_option maxRecDepth 100000 in
theorem typesDeeper_walk (a0 : ByteArray) (z0 : a0.size ≤ maxLen) (a1 : ByteArray) (z1 : a1.size ≤ maxLen) (a2 : ByteArray) (_z2 : a2.size ≤ maxLen) (w : World) (hT : Tab w) :
    Calls Tryd.prog 6 #[.string a0, .string a1, .string a2] w fun e w' => e = .returned (.bool true) ∧ Below w.heap.size w w' := by
  have HT := Lib.hid hT
  clear hT
  cases hp0 : parseT a0.data.toList with
  | error er =>
    have her : ((er : Int) != 0) = true := by have := parse_er hp0; rw [bne_iff_ne]; omega
    go_enter Tryd.func6, Tryd.ntmps6
    go_wp2_with fail
    refine (awake_any _ HT.out).mono ?_
    rintro e w1 ⟨rfl, hB⟩
    have B_1 := Lib.hid (hB)
    clear hB
    go_wp2_with fail
    refine (parse_bad _ a0 z0 hp0).mono ?_
    rintro e w2 ⟨rfl, hb, hB⟩
    clear hb
    have B_2 := Lib.hid (B_1.out.trans (hB.mono B_1.out.size))
    clear hB B_1
    go_wp2_with fail
    refine (parse_some _ a1 z1).mono ?_
    rintro e w3 ⟨ok, on, os, oa, ol, oc, oer, rfl, hB⟩
    have B_3 := Lib.hid (B_2.out.trans (hB.mono B_2.out.size))
    clear hB B_2
    go_wp2
    go_ret
    exact ⟨rfl, B_3.out⟩
  | ok t =>
    cases hp1 : parseT a1.data.toList with
    | error er =>
      have her : ((er : Int) != 0) = true := by have := parse_er hp1; rw [bne_iff_ne]; omega
      go_enter Tryd.func6, Tryd.ntmps6
      go_wp2_with fail
      refine (awake_any _ HT.out).mono ?_
      rintro e w1 ⟨rfl, hB⟩
      have B_1 := Lib.hid (hB)
      clear hB
      go_wp2_with fail
      refine (parse_ok _ a0 z0 hp0).mono ?_
      rintro e w2 ⟨aT, cT, rfl, hb, hR, hB⟩
      clear hb
      have B_2 := Lib.hid (B_1.out.trans (hB.mono B_1.out.size))
      have RT_2 := Lib.hid hR
      clear hB hR B_1
      clear RT_2
      go_wp2_with fail
      refine (parse_bad _ a1 z1 hp1).mono ?_
      rintro e w3 ⟨rfl, hb, hB⟩
      clear hb
      have B_3 := Lib.hid (B_2.out.trans (hB.mono B_2.out.size))
      clear hB B_2
      go_wp2
      go_ret
      exact ⟨rfl, B_3.out⟩
    | ok u =>
      have HP0 := Lib.hid hp0
      have HP1 := Lib.hid hp1
      by_cases h0 : 400 < a0.size
      · have f0 : decide ((400 : Int) < (a0.size : Int)) = true := by rw [decide_eq_true_eq]; omega
        go_enter Tryd.func6, Tryd.ntmps6
        go_wp2_with fail
        refine (awake_any _ HT.out).mono ?_
        rintro e w1 ⟨rfl, hB⟩
        have B_1 := Lib.hid (hB)
        clear hB
        go_wp2_with fail
        refine (parse_ok _ a0 z0 HP0.out).mono ?_
        rintro e w2 ⟨aT, cT, rfl, hb, hR, hB⟩
        clear hb
        have B_2 := Lib.hid (B_1.out.trans (hB.mono B_1.out.size))
        have RT_2 := Lib.hid hR
        clear hB hR B_1
        go_wp2_with fail
        refine (parse_ok _ a1 z1 HP1.out).mono ?_
        rintro e w3 ⟨aU, cU, rfl, hb, hR, hB⟩
        clear hb
        have RT_3 := Lib.hid (RT_2.out.low hB)
        have B_3 := Lib.hid (B_2.out.trans (hB.mono B_2.out.size))
        have RU_3 := Lib.hid hR
        clear hB hR RT_2 B_2
        clear RT_3
        clear RU_3
        go_wp2
        go_ret
        exact ⟨rfl, B_3.out⟩
      · have f0 : decide ((400 : Int) < (a0.size : Int)) = false := by rw [decide_eq_false_iff_not]; omega
        by_cases h1 : 400 < a1.size
        · have f1 : decide ((400 : Int) < (a1.size : Int)) = true := by rw [decide_eq_true_eq]; omega
          go_enter Tryd.func6, Tryd.ntmps6
          go_wp2_with fail
          refine (awake_any _ HT.out).mono ?_
          rintro e w1 ⟨rfl, hB⟩
          have B_1 := Lib.hid (hB)
          clear hB
          go_wp2_with fail
          refine (parse_ok _ a0 z0 HP0.out).mono ?_
          rintro e w2 ⟨aT, cT, rfl, hb, hR, hB⟩
          clear hb
          have B_2 := Lib.hid (B_1.out.trans (hB.mono B_1.out.size))
          have RT_2 := Lib.hid hR
          clear hB hR B_1
          go_wp2_with fail
          refine (parse_ok _ a1 z1 HP1.out).mono ?_
          rintro e w3 ⟨aU, cU, rfl, hb, hR, hB⟩
          clear hb
          have RT_3 := Lib.hid (RT_2.out.low hB)
          have B_3 := Lib.hid (B_2.out.trans (hB.mono B_2.out.size))
          have RU_3 := Lib.hid hR
          clear hB hR RT_2 B_2
          clear RT_3
          clear RU_3
          go_wp2
          go_ret
          exact ⟨rfl, B_3.out⟩
        · have f1 : decide ((400 : Int) < (a1.size : Int)) = false := by rw [decide_eq_false_iff_not]; omega
          have SM := Lib.hid (small_parse hp0)
          have SU := Lib.hid (small_parse hp1)
          obtain ⟨hm, hd, hsl, hsz⟩ := parse_made hp0
          obtain ⟨um, ud, usl, usz⟩ := parse_made hp1
          have hpd := PutT_depth a2 u t hm.1 um.1
          have hps := PutT_size a2 u t hm.1 um.1
          have hmul : t.size * u.size ≤ 4000 * 4000 := Nat.mul_le_mul hsz usz
          have HM := Lib.hid hm
          have hdt : t.depth ≤ 100000 := by omega
          have hdu : u.depth ≤ 100000 := by omega
          have hdp : (PutT a2 u t).depth ≤ 100000 := by omega
          have y0 : decide ((t.depth : Int) ≤ ((PutT a2 u t).depth : Int)) = true := by rw [decide_eq_true_eq]; omega
          have y1 : decide (((PutT a2 u t).depth : Int) < (t.depth : Int) + (u.depth : Int)) = true := by rw [decide_eq_true_eq]; omega
          have n0 : t.depth ≤ (PutT a2 u t).depth := hpd.1
          have n1 : (PutT a2 u t).depth < t.depth + u.depth := hpd.2
          have i0 : (t.depth : Int) ≤ ((PutT a2 u t).depth : Int) := by omega
          have i1 : ((PutT a2 u t).depth : Int) < (t.depth : Int) + (u.depth : Int) := by omega
          have CP : Hid (polyT t = false → canonS t = printT t) := Lib.hid fun h => by unfold canonS; rw [canon_plain t h]
          clear hp0 hp1 hm um hsl usl hsz usz hpd hps hmul h0 h1
          go_enter Tryd.func6, Tryd.ntmps6
          go_wp2_with fail
          refine (awake_any _ HT.out).mono ?_
          rintro e w1 ⟨rfl, hB⟩
          have B_1 := Lib.hid (hB)
          clear hB
          go_wp2_with fail
          refine (parse_ok _ a0 z0 HP0.out).mono ?_
          rintro e w2 ⟨aT, cT, rfl, hb, hR, hB⟩
          clear hb
          have B_2 := Lib.hid (B_1.out.trans (hB.mono B_1.out.size))
          have RT_2 := Lib.hid hR
          clear hB hR B_1
          go_wp2_with fail
          refine (parse_ok _ a1 z1 HP1.out).mono ?_
          rintro e w3 ⟨aU, cU, rfl, hb, hR, hB⟩
          clear hb
          have RT_3 := Lib.hid (RT_2.out.low hB)
          have B_3 := Lib.hid (B_2.out.trans (hB.mono B_2.out.size))
          have RU_3 := Lib.hid hR
          clear hB hR RT_2 B_2
          have k0 := RT_3.out.k.c0
          have k1 := RT_3.out.k.c1
          have k2 := RT_3.out.k.c2
          have k3 := RT_3.out.k.c3
          have C := Lib.hid (depth_h RT_3.out.at_ hdt)
          go_wp2_with fail
          refine C.out.mono ?_
          rintro e w4 ⟨rfl, hB⟩
          clear C k0 k1 k2 k3
          have RT_4 := Lib.hid (RT_3.out.low hB)
          have RU_4 := Lib.hid (RU_3.out.low hB)
          have B_4 := Lib.hid (B_3.out.trans (hB.mono B_3.out.size))
          clear hB RT_3 RU_3 B_3
          have k0 := RU_4.out.k.c0
          have k1 := RU_4.out.k.c1
          have k2 := RU_4.out.k.c2
          have k3 := RU_4.out.k.c3
          have C := Lib.hid (depth_h RU_4.out.at_ hdu)
          go_wp2_with fail
          refine C.out.mono ?_
          rintro e w5 ⟨rfl, hB⟩
          clear C k0 k1 k2 k3
          have RT_5 := Lib.hid (RT_4.out.low hB)
          have RU_5 := Lib.hid (RU_4.out.low hB)
          have B_5 := Lib.hid (B_4.out.trans (hB.mono B_4.out.size))
          clear hB RT_4 RU_4 B_4
          have k0 := RT_5.out.k.c0
          have k1 := RT_5.out.k.c1
          have k2 := RT_5.out.k.c2
          have k3 := RT_5.out.k.c3
          have l0 := RU_5.out.k.c0
          have l1 := RU_5.out.k.c1
          have l2 := RU_5.out.k.c2
          have l3 := RU_5.out.k.c3
          have C := Lib.hid (put_h a2 RT_5.out.at_ RU_5.out.at_ SM.out SU.out (tab_below HT.out B_5.out))
          go_wp2_with fail
          refine C.out.mono ?_
          rintro e w6 ⟨a9, c9, rfl, hA, hB⟩
          have HA := Lib.hid hA
          clear C hA k0 k1 k2 k3 l0 l1 l2 l3
          have RT_6 := Lib.hid (RT_5.out.low hB)
          have RU_6 := Lib.hid (RU_5.out.low hB)
          have B_6 := Lib.hid (B_5.out.trans (hB.mono B_5.out.size))
          clear hB RT_5 RU_5 B_5
          have C := Lib.hid (depth_h HA.out hdp)
          go_wp2_with fail
          refine C.out.mono ?_
          rintro e w7 ⟨rfl, hB⟩
          clear C HA
          generalize (PutT a2 u t).depth = pd at *
          have RT_7 := Lib.hid (RT_6.out.low hB)
          have RU_7 := Lib.hid (RU_6.out.low hB)
          have B_7 := Lib.hid (B_6.out.trans (hB.mono B_6.out.size))
          clear hB RT_6 RU_6 B_6
          have k0 := RT_7.out.k.c0
          have k1 := RT_7.out.k.c1
          have k2 := RT_7.out.k.c2
          have k3 := RT_7.out.k.c3
          have C := Lib.hid (poly_h RT_7.out.at_ SM.out)
          go_wp2_with fail
          refine C.out.mono ?_
          rintro e w8 ⟨rfl, hB⟩
          clear C k0 k1 k2 k3
          have RT_8 := Lib.hid (RT_7.out.low hB)
          have RU_8 := Lib.hid (RU_7.out.low hB)
          have B_8 := Lib.hid (B_7.out.trans (hB.mono B_7.out.size))
          clear hB RT_7 RU_7 B_7
          cases hpo : polyT t with
          | true =>
            clear hpo
            have k0 := RT_8.out.k.c0
            have k1 := RT_8.out.k.c1
            have k2 := RT_8.out.k.c2
            have k3 := RT_8.out.k.c3
            have C := Lib.hid (print_h RT_8.out.at_ SM.out (tab_below HT.out B_8.out))
            go_wp2_with fail
            refine C.out.mono ?_
            rintro e w9 ⟨rfl, hB⟩
            clear C k0 k1 k2 k3
            have RT_9 := Lib.hid (RT_8.out.low hB)
            have RU_9 := Lib.hid (RU_8.out.low hB)
            have B_9 := Lib.hid (B_8.out.trans (hB.mono B_8.out.size))
            clear hB RT_8 RU_8 B_8
            have k0 := RT_9.out.k.c0
            have k1 := RT_9.out.k.c1
            have k2 := RT_9.out.k.c2
            have k3 := RT_9.out.k.c3
            have C := Lib.hid (canon_h RT_9.out.at_ SM.out (tab_below HT.out B_9.out))
            go_wp2_with fail
            refine C.out.mono ?_
            rintro e w10 ⟨rfl, hB⟩
            clear C k0 k1 k2 k3
            have RT_10 := Lib.hid (RT_9.out.low hB)
            have RU_10 := Lib.hid (RU_9.out.low hB)
            have B_10 := Lib.hid (B_9.out.trans (hB.mono B_9.out.size))
            clear hB RT_9 RU_9 B_9
            go_wp2
            go_ret
            exact ⟨rfl, B_10.out⟩
          | false =>
            have E := Lib.hid (CP.out hpo)
            clear hpo
            have k0 := RT_8.out.k.c0
            have k1 := RT_8.out.k.c1
            have k2 := RT_8.out.k.c2
            have k3 := RT_8.out.k.c3
            have C := Lib.hid (print_h RT_8.out.at_ SM.out (tab_below HT.out B_8.out))
            go_wp2_with fail
            refine C.out.mono ?_
            rintro e w9 ⟨rfl, hB⟩
            clear C k0 k1 k2 k3
            have RT_9 := Lib.hid (RT_8.out.low hB)
            have RU_9 := Lib.hid (RU_8.out.low hB)
            have B_9 := Lib.hid (B_8.out.trans (hB.mono B_8.out.size))
            clear hB RT_8 RU_8 B_8
            have k0 := RT_9.out.k.c0
            have k1 := RT_9.out.k.c1
            have k2 := RT_9.out.k.c2
            have k3 := RT_9.out.k.c3
            have C := Lib.hid (canon_h RT_9.out.at_ SM.out (tab_below HT.out B_9.out))
            go_wp2_with fail
            refine C.out.mono ?_
            rintro e w10 ⟨rfl, hB⟩
            clear C k0 k1 k2 k3
            have RT_10 := Lib.hid (RT_9.out.low hB)
            have RU_10 := Lib.hid (RU_9.out.low hB)
            have B_10 := Lib.hid (B_9.out.trans (hB.mono B_9.out.size))
            clear hB RT_9 RU_9 B_9
            rw [E.out]
            go_wp2
            go_ret
            exact ⟨rfl, B_10.out⟩

end Go.Proofs.YtifaaihekgnhiaaDoor.Tp

/-
  The law TypesDeeper: for every two texts and every name it returns true; they read as before. No conditions; the card ties the library's tables to the program's text.
-/
namespace Go.Proofs.YtifaaihekgnhiaaDoor.typesDeeper
open Go.ChangeShapes Go.WideShapes Go.ChangeAt Go.WideMaps Go.WideElems Go.RowKit
open Go.ChangeMaps (open_string shut_string)
open Tp (Tab laidL tab_of_laid door_met own laidOut)

/-! ### the row's step, as the kit's worked example (a law over laid variables) has it -/
set_option linter.unusedVariables false in
set_option maxRecDepth 100000 in
theorem lifted (os : Os) (started : os.Started) (H : Type) (enc : TypeId × Value → H) :
    ReturnsInHanded {} Tryd.checked os 6 .any (fun w args => (Rows.typesDeeperSpec.pre enc Tryd.prog Tryd.f6 [] false w args ∧ laidMetH Tryd.prog laidL w) ∧ sizedMet enc Tryd.prog Tryd.f6 (OpenSpec.ofChange Rows.typesDeeperSpec) false w args)
      (Rows.typesDeeperSpec.post enc Tryd.prog Tryd.f6 false true false false) := by
  refine returnsInHanded_of_change_and (C := Tryd.checked) (X := fun w _ => laidMetH Tryd.prog laidL w) (fun _ _ _ hh h => h.of_heap hh) own started (by kernel_rfl) Tryd.func6
    (ChangeSpec.witness_shaped (enc := enc) (C := Tryd.checked) (os := os) (X := fun w _ => laidMetH Tryd.prog laidL w) false (World.doorLaid Tryd.prog 400 os) #[.string ByteArray.empty, .string ByteArray.empty, .string ByteArray.empty] 8 rfl (World.shaped_of_RefB (by kernel_rfl) (by kernel_rfl)) (by kernel_rfl) (by kernel_rfl) (by kernel_rfl) (door_met os _)) ?_
  intro W base args ds gs before hval0 hW _ _ hL _
  have hval : ∀ (j : Nat) t v, Tryd.f6.params[j]? = some t → args[j]? = some v → Value.okWide Tryd.prog W .any base t v := hval0
  have hW' := hW
  obtain ⟨p, q, hA0, hV, rfl, hfz, hnd⟩ := hW
  have hA : DataW.TrodAll enc Tryd.prog W 0 (fun _ => true) true Tryd.f6.params.toList args.toList ds p := hA0
  rw [Tryd.params6] at hA hval
  obtain ⟨v0, vs0, d0, ds0, p0, q0, hargs, rfl, rfl, h0, r0⟩ := trodAll_cons hA
  obtain ⟨v1, vs1, d1, ds1, p1, q1, rfl, rfl, rfl, h1, r1⟩ := trodAll_cons r0
  obtain ⟨v2, vs2, d2, ds2, p2, q2, rfl, rfl, rfl, h2, r2⟩ := trodAll_cons r1
  obtain ⟨rfl, rfl, rfl⟩ := trodAll_nil r2
  obtain rfl : args = #[v0, v1, v2] := by cases args; simp_all
  obtain ⟨rfl, rfl⟩ := trodVars_none hV
  obtain ⟨a0, rfl, rfl, rfl, w0⟩ := open_string Tryd.underlying9 (hval 0 9 v0 rfl rfl) h0
  obtain ⟨a1, rfl, rfl, rfl, w1⟩ := open_string Tryd.underlying9 (hval 1 9 v1 rfl rfl) h1
  obtain ⟨a2, rfl, rfl, rfl, w2⟩ := open_string Tryd.underlying9 (hval 2 9 v2 rfl rfl) h2
  clear hA0 hval0
  refine (Tp.typesDeeper_walk a0 w0 a1 w1 a2 w2 W (tab_of_laid hL)).mono fun e W' ⟨he, bel⟩ => ?_
  subst he
  exact ⟨_, rfl, _, _, _, [], _, [], hW', trodAll_mk1 (shut_bool Tryd.underlying4 _), (trodAll_cons_mk (shut_string Tryd.underlying9 w0) (trodAll_cons_mk (shut_string Tryd.underlying9 w1) (trodAll_cons_mk (shut_string Tryd.underlying9 w2) trodAll_mk0))), rfl, bel.frame _, fun h => by cases h⟩

theorem row_holds : Rows.TypesDeeperSaid :=
  OpenClaim.holds_of_wide 6 Tryd.f6 rfl rfl rfl rfl rfl rfl rfl ⟨rfl, rfl, rfl, rfl, rfl⟩ rfl rfl rfl rfl rfl (by kernel_rfl) Tryd.func6 (by kernel_rfl)
    (of_decide_eq_true (by kernel_rfl)) (by unfold Func.isWrapper; first | (rw [if_pos (by decide +kernel)]; kernel_rfl) | (rw [if_neg (by decide +kernel)]; exact ⟨rfl, rfl⟩))
    (fun os started H enc _ => lifted os started H enc)

/-- THE STATEMENT: the row, tied to the program's text. -/
theorem proved : Rows.TypesDeeperCardSaid :=
  Claim7.holds_tied_plain_at .later [] [.data, .data, .data, .sentinel, .sentinel] true Rows.typesDeeperCard.stood.harness true
    row_holds (fun _ h => by cases h) (by kernel_rfl) (fun _ h => by cases h) typesDeeper_row_tie rfl ⟨rfl, rfl⟩ (by kernel_rfl) rfl
    (fun f fn hf hfn => by
      obtain rfl : f = 6 := Option.some.inj ((show Tryd.prog.funcNamed "savant/savantlaw02.TypesDeeper" = some 6 by kernel_rfl).symm.trans hf) |>.symm
      obtain rfl : fn = Tryd.f6 := (Option.some.inj (Tryd.func6.symm.trans hfn)).symm
      exact ⟨by kernel_rfl, fun j t ht => by
        rw [Tryd.params6] at ht
        have hm : t ∈ [9, 9, 9] := by simpa using Array.mem_of_getElem? ht
        have hall : ([9, 9, 9].all fun u => !Tryd.prog.wantsStandIn u) = true := by kernel_rfl
        exact (show Tryd.prog.wantsStandIn t = false by simpa using List.all_eq_true.1 hall t hm)⟩)
    (by kernel_rfl)
#print axioms proved
end Go.Proofs.YtifaaihekgnhiaaDoor.typesDeeper

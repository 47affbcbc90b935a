/-
  The law OrderFirst: for every [][]int it returns true; the argument reads as before. No conditions.
-/
import Derived.Test.YtlffdipjddlceaaOrdOpen
import Derived.Test.YtlffdipjddlceaaOrdLaws
import Derived.ProofKit
import Derived.OpenShut
import Derived.ShutString
import Derived.ChangeOld
import Derived.Below
namespace Go.Proofs.Ytlffdipjddlceaa.orderFirst
open Go.ChangeShapes Go.WideShapes Go.ChangeAt Go.RowKit Go.Deep
open Od

set_option maxHeartbeats 3200000 in
set_option maxRecDepth 100000 in
theorem walk (W : World) (v0 : Value) (a0 : List (List Int)) (w0 : RowsAt W.heap.size W v0 a0) :
    Calls Try.prog 4 #[v0] W fun e w' => e = .returned (.bool true) ∧ Below W.heap.size W w' := by
  obtain ⟨va, vc, ev, _⟩ := id w0
  subst ev
  have H0 := Lib.hid w0
  clear w0
  go_enter Try.func4, Try.ntmps4
  go_wp2_with fail
  refine (awake_any _).mono ?_
  rintro e w1 ⟨rfl, B1⟩
  have R1 := Lib.hid (rows_later H0.out (Nat.le_refl _) B1)
  have BB1 := Lib.hid B1
  clear B1
  go_wp2_with fail
  refine (few_any _ _ a0 200 w1 R1.out).mono ?_
  rintro e w' ⟨he, rfl⟩
  by_cases hf : fewL a0 200 = true
  · rw [hf] at he
    subst he
    by_cases hb : Bad a0
    · have HB := Lib.hid hb
      clear hf hb
      go_wp2_with fail
      refine ((groups_any _ _ a0 w1 R1.out (Nat.le_refl _)).mono fun e w' h => post_bad HB.out h).mono ?_
      rintro e w2 ⟨rfl, B2⟩
      have BB2 := Lib.hid (BB1.out.trans (B2.mono BB1.out.size))
      clear B2
      go_wp2
      go_ret
      exact ⟨rfl, BB2.out⟩
    · obtain ⟨g, hg, hv, hl⟩ := good_of hb
      subst hg
      have HV := Lib.hid hv
      clear hf hb hv
      simp only [rowsOf_length]
      go_wp2_with fail
      have R1' := R1.out
      simp only [rowsOf_length] at R1'
      refine ((groups_any _ _ (rowsOf g) w1 R1' (Nat.le_refl _)).mono fun e w' h => post_good HV.out hl h).mono ?_
      clear R1'
      rintro e w2 ⟨a2, c2, rfl, G2, B2⟩
      have hS := told_sccs (groups_ok g HV.out) HV.out
      generalize toldL g (groupsL g) = ts at *
      have hfl := hS.flat
      have htl := hS.len
      have HS := Lib.hid hS
      have BB2 := Lib.hid (BB1.out.trans (B2.mono BB1.out.size))
      have GG2 := Lib.hid G2
      have R2 := Lib.hid (rows_later R1.out (Nat.le_refl _) B2)
      have FL := Lib.hid hfl
      clear B2 G2 hS hfl
      have hmk := run_make_row' (P := Try.prog) 30 3 (.int .i64 0) 8 Try.underlying30 infoInt rfl .i64 .i64 g.length (by omega) (by omega)
      rw [made_ints] at hmk
      go_wp2
      clear hmk
      go_loopw [8, 9] (fun nv iv wr => ∃ (i : Nat) (ats : List Nat), iv = .int .i64 i ∧ nv = .int .i64 (cnt ts i : Nat) ∧ i ≤ ts.length ∧ Ats g ts ats i 0 ∧ wr.heap[w2.heap.size]? = some (.cells (cellsOf ats).toArray 3 (0, 0)) ∧ Below w2.heap.size w2 wr) (fun _ iv _ => ts.length - (intOf iv).toNat)
      case atStart => exact ⟨0, _, rfl, rfl, Nat.zero_le _, Ats.start g ts, heap_alloc_new _ _, (Below.refl _ _).alloc (Nat.le_refl _) _⟩
      case round =>
        obtain ⟨i, ats, rfl, rfl, hil, hA, hat, hB⟩ := hrel
        have z0 : (0 : Int) ≤ (i : Int) := by omega
        by_cases hi : i < ts.length
        · have z1 : (i : Int) < (ts.length : Int) := by omega
          obtain ⟨b, off, cap, a, cap', eg, hb, hcell', hrow⟩ := rows_row GG2.out hi
          injection eg with eg1 eg2 eg3
          subst eg1 eg3
          have hcell := (hB.cell (p := ⟨b, off + i, none⟩) hb).trans hcell'
          have hne := (HS.out.gso _ (List.mem_of_getElem? (us_of hi))).1
          have hpos := List.length_pos_iff.2 hne
          have hz : (((us ts i).length : Int) == 0) = false := by rw [beq_eq_false_iff_ne]; omega
          have hcs := cnt_succ hi
          have hcl := cnt_le ts (i + 1)
          have hcl2 : cnt ts i + (us ts i).length ≤ 500 := by have := FL.out; omega
          have CS := Lib.hid hcs
          have HU := Lib.hid hrow
          have HC := Lib.hid hcell'
          have AH := Lib.hid hA
          have AT := Lib.hid hat
          have BH := Lib.hid hB
          have hsrt := (HS.out.gso _ (List.mem_of_getElem? (us_of hi))).2
          have SRT := Lib.hid hsrt
          clear hcell' hrow hA hat hB hne hcs hcl hsrt
          go_wp2
          clear hcell
          go_loopw [8, 10] (fun nv kv wr => ∃ (k : Nat) (ats : List Nat), kv = .int .i64 k ∧ nv = .int .i64 ((cnt ts i + k : Nat) : Int) ∧ k ≤ (us ts i).length ∧ Ats g ts ats i k ∧ wr.heap[w2.heap.size]? = some (.cells (cellsOf ats).toArray 3 (0, 0)) ∧ Below w2.heap.size w2 wr) (fun _ kv _ => (us ts i).length - (intOf kv).toNat)
          case atStart => exact ⟨0, ats, rfl, rfl, Nat.zero_le _, AH.out, AT.out, BH.out⟩
          case round =>
            clear AH AT BH
            obtain ⟨k, ats, rfl, rfl, hkl, hA, hat, hB⟩ := hrel
            have y0 : (0 : Int) ≤ (k : Int) := by omega
            have hcell := (hB.cell (p := ⟨b, off + i, none⟩) hb).trans HC.out
            by_cases hk : k < (us ts i).length
            · have y1 : (k : Int) < ((us ts i).length : Int) := by omega
              obtain ⟨b3, off3, rfl, hb3, hc3'⟩ := ints_get HU.out hk
              have hc3 := (hB.cell (p := ⟨b3, off3 + k, none⟩) hb3).trans hc3'
              have hxl : (us ts i)[k] < g.length := (HS.out.all _).2 ⟨_, List.mem_of_getElem? (us_of hi), List.getElem_mem hk⟩
              have hfree := hA.free HS.out hi hk
              have cx : wr.cell? ⟨w2.heap.size, (us ts i)[k], none⟩ = some (.int .i64 0) := by
                have := row_cell hat (i := (us ts i)[k]) (by rw [hA.len]; exact hxl)
                rw [hfree] at this; exact this
              have fx := free_row hat (us ts i)[k]
              have A2 := Lib.hid (hA.set HS.out hi hk)
              have AT2 : Hid ((wr.setCell ⟨w2.heap.size, (us ts i)[k], none⟩ (.int .i64 ((i + 1 : Nat) : Int))).heap[w2.heap.size]? = some (.cells (cellsOf (ats.set (us ts i)[k] (i + 1))).toArray 3 (0, 0))) := Lib.hid (by rw [set_row hat, cellsOf_set])
              have B2 := Lib.hid (hB.setCell (p := ⟨w2.heap.size, (us ts i)[k], none⟩) (Nat.le_refl _) (.int .i64 ((i + 1 : Nat) : Int)))
              have hlt0 : w2.heap.size < wr.heap.size := lt_of_get hat
              have ei : (((i + 1 : Nat) : Int)) = (i : Int) + 1 := by omega
              rw [ei] at AT2 B2
              by_cases hk0 : k = 0
              · have y4 : (k : Int) ≤ 0 := by omega
                clear hc3' hA hat hB hfree ei hk0
                generalize (us ts i)[k] = x at *
                have y2 : (0 : Int) ≤ (x : Int) := by omega
                have y3 : (x : Int) < (g.length : Int) := by omega
                go_wp2
                go_roundw
                case rel => exact ⟨k + 1, _, by go_num, by go_num, by omega, A2.out, AT2.out, B2.out⟩
                case measure => simp [intOf]; omega
              · have hpr : (us ts i)[k - 1] < (us ts i)[k] := List.pairwise_iff_getElem.1 SRT.out (k - 1) k (by omega) hk (by omega)
                obtain ⟨b4, off4, e4, _, hc4'⟩ := ints_get HU.out (j := k - 1) (by omega)
                injection e4 with e4
                injection e4 with e4 e5
                subst e4 e5
                have hc4 := (hB.cell (p := ⟨b3, off3 + (k - 1), none⟩) hb3).trans hc4'
                clear hc3' hc4' hA hat hB hfree ei
                generalize (us ts i)[k - 1] = xp at *
                generalize (us ts i)[k] = x at *
                have y2 : (0 : Int) ≤ (x : Int) := by omega
                have y3 : (x : Int) < (g.length : Int) := by omega
                have y4 : (0 : Int) < (k : Int) := by omega
                have y5 : (1 : Int) ≤ (k : Int) := by omega
                have y6 : (xp : Int) < (x : Int) := by omega
                go_wp2
                go_roundw
                case rel => exact ⟨k + 1, _, by go_num, by go_num, by omega, A2.out, AT2.out, B2.out⟩
                case measure => simp [intOf]; omega
            · obtain rfl : k = (us ts i).length := by omega
              have A2 := Lib.hid hA.next
              have AT2 := Lib.hid hat
              have B2 := Lib.hid hB
              clear hA hat hB
              go_wp2
              go_roundw
              case rel => exact ⟨i + 1, ats, by go_num, by rw [CS.out], by omega, A2.out, AT2.out, B2.out⟩
              case measure => simp [intOf]; omega
        · obtain rfl : i = ts.length := by omega
          have hcn : cnt ts ts.length = g.length := by unfold cnt; rw [List.take_length]; exact FL.out
          rw [hcn]
          have hdn := fun x hx => hA.done HS.out (i := x) hx
          have hal := hA.len
          have DN := Lib.hid hdn
          have AL := Lib.hid hal
          have AT := Lib.hid hat
          have BH := Lib.hid hB
          clear hcn hdn hal hA hat hB
          go_wp2
          go_loopw [12] (fun iv wr => ∃ (i : Nat), iv = .int .i64 i ∧ i ≤ g.length ∧ wr.heap[w2.heap.size]? = some (.cells (cellsOf ats).toArray 3 (0, 0)) ∧ Below w2.heap.size w2 wr) (fun iv _ => g.length - (intOf iv).toNat)
          case atStart => exact ⟨0, rfl, Nat.zero_le _, AT.out, BH.out⟩
          case round =>
            clear AT BH
            obtain ⟨i, rfl, hil, hat, hB⟩ := hrel
            have x0 : (0 : Int) ≤ (i : Int) := by omega
            by_cases hi : i < g.length
            · have x1 : (i : Int) < (g.length : Int) := by omega
              obtain ⟨b, off, cap, a, cap', eg, hb, hcell', hrow⟩ := rows_row R2.out hi
              injection eg with eg1 eg2 eg3
              subst eg1 eg3
              have HU := Lib.hid hrow
              have HC := Lib.hid hcell'
              have hcell := (hB.cell (p := ⟨b, off + i, none⟩) hb).trans hcell'
              have AT := Lib.hid hat
              have BH := Lib.hid hB
              have hrl : (us g i).length ≤ 9223372036854775807 := by obtain ⟨_, _, _, h, _⟩ := hrow; rwa [intsOf_length] at h
              clear hcell' hrow hat hB
              go_wp2
              clear hcell
              go_loopw [13] (fun kv wr => ∃ (k : Nat), kv = .int .i64 k ∧ k ≤ (us g i).length ∧ wr.heap[w2.heap.size]? = some (.cells (cellsOf ats).toArray 3 (0, 0)) ∧ Below w2.heap.size w2 wr) (fun kv _ => (us g i).length - (intOf kv).toNat)
              case atStart => exact ⟨0, rfl, Nat.zero_le _, AT.out, BH.out⟩
              case round =>
                clear AT BH
                obtain ⟨k, rfl, hkl, hat, hB⟩ := hrel
                have y0 : (0 : Int) ≤ (k : Int) := by omega
                have hcell := (hB.cell (p := ⟨b, off + i, none⟩) hb).trans HC.out
                by_cases hk : k < (us g i).length
                · have y1 : (k : Int) < ((us g i).length : Int) := by omega
                  obtain ⟨b3, off3, rfl, hb3, hc3'⟩ := ints_get HU.out hk
                  have hc3 := (hB.cell (p := ⟨b3, off3 + k, none⟩) hb3).trans hc3'
                  have hym := List.getElem_mem hk
                  have hyl := HV.out i _ hym
                  have hor := HS.out.order hi hym
                  have cy := row_cell hat (i := (us g i)[k]) (by rw [AL.out]; exact hyl)
                  have ci := row_cell hat (i := i) (by rw [AL.out]; exact hi)
                  rw [DN.out _ hyl] at cy
                  rw [DN.out _ hi] at ci
                  have AT := Lib.hid hat
                  have BH := Lib.hid hB
                  clear hc3' hym hat hB
                  generalize (us g i)[k] = y at *
                  generalize ofL ts y = oy at *
                  generalize ofL ts i = oi at *
                  have y2 : (0 : Int) ≤ (y : Int) := by omega
                  have y3 : (y : Int) < (g.length : Int) := by omega
                  have y4 : decide (((oi + 1 : Nat) : Int) < ((oy + 1 : Nat) : Int)) = false := by simp; omega
                  go_wp2
                  go_quiet (fail)
                  go_wp2
                  go_roundw
                  case rel => exact ⟨k + 1, by go_num, by omega, AT.out, BH.out.trans (Below.drewN_ _)⟩
                  case measure => simp [intOf]; omega
                · obtain rfl : k = (us g i).length := by omega
                  have AT := Lib.hid hat
                  have BH := Lib.hid hB
                  clear hat hB
                  go_wp2
                  go_roundw
                  case rel => exact ⟨i + 1, by go_num, by omega, AT.out, BH.out⟩
                  case measure => simp [intOf]; omega
            · obtain rfl : i = g.length := by omega
              have BH := Lib.hid hB
              clear hat hB
              go_wp2
              go_ret
              exact ⟨by simp, BB2.out.trans (BH.out.mono BB2.out.size)⟩
  · have hf' : fewL a0 200 = false := by simpa using hf
    rw [hf'] at he
    subst he
    clear hf hf'
    go_wp2
    go_ret
    exact ⟨rfl, BB1.out⟩

/-! ### the row's step, as the kit's program proof-skeleton.mjs writes it -/
theorem own : ownKnob Try.prog.godebug = none := by kernel_rfl
theorem laidOut : laidOutB Try.prog = true := by kernel_rfl

set_option linter.unusedVariables false in
set_option maxRecDepth 100000 in
theorem lifted (os : Os) (started : os.Started) (H : Type) (enc : TypeId × Value → H) :
    ReturnsInHanded {} Try.checked os 4 .any (Rows.orderFirstSpec.pre6 enc Try.prog Try.f4 Rows.orderFirstRow.domain false) (Rows.orderFirstSpec.post enc Try.prog Try.f4 false true false false) := by
  refine returnsInHanded_of_change (C := Try.checked) own started (by kernel_rfl) Try.func4
    (ChangeSpec.witness6 (enc := enc) (C := Try.checked) false ⟨#[], #[.slice none 0 0], []⟩ 8 (by kernel_rfl) (by kernel_rfl) (by kernel_rfl) (by kernel_rfl)) ?_
  intro W base args ds gs before hval0 hW hcnd _
  have hval : ∀ (j : Nat) t v, Try.f4.params[j]? = some t → args[j]? = some v → Value.okWide Try.prog W .any base t v := hval0
  have hW' := hW
  obtain ⟨p, q, hA0, hV, rfl, hfz, hnd⟩ := hW
  have hA : DataW.TrodAll enc Try.prog W 0 (fun _ => true) true Try.f4.params.toList args.toList ds p := hA0
  rw [Try.params4] at hA hval
  obtain ⟨v0, vs0, d0, ds0, p0, q0, hargs, rfl, rfl, h0, r0⟩ := trodAll_cons hA
  obtain ⟨rfl, rfl, rfl⟩ := trodAll_nil r0
  obtain rfl : args = #[v0] := by cases args; simp_all
  obtain ⟨rfl, rfl⟩ := trodVars_none hV
  have k0 := h0
  have lt0 : ∀ x ∈ p0, x.block < W.heap.size := by obtain ⟨m, hm⟩ := k0; exact DataW.trod_lt m _ _ _ hm
  obtain ⟨a0, w0⟩ := opn0 (hval 0 22 v0 rfl rfl) h0
  clear hA0 hval0
  refine (walk W v0 a0 w0).mono fun e W' ⟨he, bel⟩ => ?_
  subst he
  exact ⟨_, rfl, _, _, _, [], _, [], hW', trodAll_mk1 (shut_bool Try.underlying4 _), (trodAll_cons_mk (Below.trod laidOut (by kernel_rfl) (of_decide_eq_true (by kernel_rfl)) k0 bel lt0) trodAll_mk0), rfl, bel.frame _, fun h => by cases h⟩

theorem over : Rows.orderFirstRow.holds Try.pinned (OpenSpec.ofChange Rows.orderFirstSpec) :=
  OpenClaim.holds_of_wide 4 Try.f4 rfl rfl rfl rfl rfl rfl rfl ⟨rfl, rfl, rfl, rfl, rfl⟩ rfl rfl rfl rfl rfl (by kernel_rfl) Try.func4 (by kernel_rfl)
    (of_decide_eq_true (by kernel_rfl)) (by unfold Func.isWrapper; first | (rw [if_pos (by decide +kernel)]; kernel_rfl) | (rw [if_neg (by decide +kernel)]; exact ⟨rfl, rfl⟩))
    (fun os started H enc _ => lifted os started H enc)

/-- THE STATEMENT -/
theorem proved : Rows.OrderFirstSaid := over
#print axioms proved
end Go.Proofs.Ytlffdipjddlceaa.orderFirst

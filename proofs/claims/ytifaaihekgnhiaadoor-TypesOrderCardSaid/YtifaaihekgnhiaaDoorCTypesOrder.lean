/- The walk of TypesOrder. -/
import Derived.Test.YtifaaihekgnhiaaDoorP46
import Derived.Test.YtifaaihekgnhiaaDoorP36
import Derived.Deep.RegionHeld3
import Derived.Deep.CutRange
import Derived.Test.YtifaaihekgnhiaaDoorP13
import Derived.Test.YtifaaihekgnhiaaDoorCards
import Derived.Test.YtifaaihekgnhiaaDoorTie
import Derived.SevenTiedAt

/- What the laws' walks want besides. -/
namespace Go.Proofs.YtifaaihekgnhiaaDoor.Tp
open Go.RowKit

theorem drawn_below {B : Nat} {a w : World} (h : Below B a w) (n : Nat) : Below B a (w.drewN n) := h.trans ⟨rfl, rfl, rfl, Nat.le_refl _, fun _ _ => rfl⟩
/-- whatever Parse tells -/
def SomePost (w : World) (e : Ending) (w' : World) : Prop :=
  ∃ (k n : Int) (s : ByteArray) (a : Option Addr) (l c er : Nat), e = .returned (.tuple #[.agg #[.int .i64 k, .string s, .int .i64 n, .slice a l c], .int .i64 er]) ∧ Below w.heap.size w (w'.alloc (.cells #[.int .i64 k, .string s, .int .i64 n, .slice a l c] 25))
theorem parse_some (w : World) (s : ByteArray) (hs : s.size ≤ maxLen) : Calls Tryd.prog 9 #[.string s] w (SomePost w) := by
  cases h : parseT s.data.toList with
  | error er =>
    refine (parse_bad w s hs h).mono ?_
    rintro e w' ⟨rfl, _, hB⟩
    exact ⟨0, 0, _, none, 0, 0, er, rfl, hB⟩
  | ok t =>
    refine (parse_ok w s hs h).mono ?_
    rintro e w' ⟨a, c, rfl, _, _, hB⟩
    exact ⟨_, _, _, a, _, c, 0, rfl, hB⟩

theorem metaAcc_len : ∀ (t : Ty) (out : List Int) (ns : List ByteArray), (walkF metaStep t out ns).length ≤ out.length + t.size := by
  intro t
  induction t using Ty.ind with
  | h t ih =>
    intro out ns
    rw [walkF_eq, t.size_eq]
    have h1 : (metaStep out t ns).length ≤ out.length + 1 := by unfold metaStep; split <;> simp
    have : ∀ (l : List Ty) (out : List Int) (ns : List ByteArray), (∀ a ∈ l, ∀ (out : List Int) (ns : List ByteArray), (walkF metaStep a out ns).length ≤ out.length + a.size) → (walkL metaStep l out ns).length ≤ out.length + sizeL l := by
      intro l
      induction l with
      | nil => intro out ns _; simp [walkL, sizeL]
      | cons a l ihl =>
        intro out ns h
        rw [walkL, sizeL]
        have := ihl (walkF metaStep a out ns) ns fun b hb => h b (by simp [hb])
        have := h a (by simp) out ns
        omega
    have := this t.args (metaStep out t ns) (if t.kind = 5 then t.name :: ns else ns) ih
    omega
theorem metasT_len (t : Ty) : (metasT t).length ≤ t.size := by have := metaAcc_len t [] []; simpa [metasT] using this


end Go.Proofs.YtifaaihekgnhiaaDoor.Tp

/- The walk of TypesOrder. -/
namespace Go.Proofs.YtifaaihekgnhiaaDoor.Tp
open Go.RowKit

theorem small_Put (nm : ByteArray) {u t : Ty} {n : Nat} (ht : Mk t ∨ Std t ∧ Good t) (hu : Mk u) (hs : t.size ≤ n) (hus : u.size ≤ 300) (hn : n ≤ 90000) : (Std (PutT nm u t) ∧ Good (PutT nm u t)) ∧ (PutT nm u t).size ≤ n * 300 ∧ Small (PutT nm u t) := by
  have hst : Std t ∧ Good t := ht.elim (fun h => ⟨h.1, mk_good t h⟩) id
  have h1 := PutT_size nm u t hst.1 hu.1
  have h2 : t.size * u.size ≤ n * 300 := Nat.mul_le_mul hs hus
  have h3 := PutT_good nm u t hst.2 (mk_good u hu) (by omega) (by omega)
  exact ⟨⟨PutT_std nm u t hst.1 hu.1, h3⟩, by omega, h3, by omega⟩

set_option maxHeartbeats 6400000 in
set_option maxRecDepth 100000 in
theorem typesOrder_walk (a0 : ByteArray) (z0 : a0.size ≤ maxLen) (a1 : ByteArray) (z1 : a1.size ≤ maxLen) (a2 : ByteArray) (z2 : a2.size ≤ maxLen) (a3 : ByteArray) (_z3 : a3.size ≤ maxLen) (a4 : ByteArray) (_z4 : a4.size ≤ maxLen) (w : World) (hT : Tab w) :
    Calls Tryd.prog 5 #[.string a0, .string a1, .string a2, .string a3, .string a4] w fun e w' => e = .returned (.bool true) ∧ Below w.heap.size w w' := by
  have HT := Lib.hid hT
  clear hT
  cases hp0 : parseT a0.data.toList with
  | error er =>
    have her : ((er : Int) != 0) = true := by have := parse_er hp0; rw [bne_iff_ne]; omega
    go_enter Tryd.func5, Tryd.ntmps5
    go_wp2_with fail
    refine (awake_any _ HT.out).mono ?_
    rintro e w1 ⟨rfl, hB⟩
    have B_1 := Lib.hid (hB)
    clear hB
    go_wp2_with fail
    refine (parse_bad _ a0 z0 hp0).mono ?_
    rintro e w2 ⟨rfl, hb, hB⟩
    clear hb
    have B_2 := Lib.hid (B_1.out.trans (hB.mono B_1.out.size))
    clear hB B_1
    go_wp2_with fail
    refine (parse_some _ a1 z1).mono ?_
    rintro e w3 ⟨ok, on, os, oa, ol, oc, oer, rfl, hB⟩
    have B_3 := Lib.hid (B_2.out.trans (hB.mono B_2.out.size))
    clear hB B_2
    go_wp2_with fail
    refine (parse_some _ a2 z2).mono ?_
    rintro e w4 ⟨ok, on, os, oa, ol, oc, oer, rfl, hB⟩
    have B_4 := Lib.hid (B_3.out.trans (hB.mono B_3.out.size))
    clear hB B_3
    go_wp2
    go_ret
    exact ⟨rfl, B_4.out⟩
  | ok t =>
    cases hp1 : parseT a1.data.toList with
    | error er =>
      have her : ((er : Int) != 0) = true := by have := parse_er hp1; rw [bne_iff_ne]; omega
      go_enter Tryd.func5, Tryd.ntmps5
      go_wp2_with fail
      refine (awake_any _ HT.out).mono ?_
      rintro e w1 ⟨rfl, hB⟩
      have B_1 := Lib.hid (hB)
      clear hB
      go_wp2_with fail
      refine (parse_ok _ a0 z0 hp0).mono ?_
      rintro e w2 ⟨aT, cT, rfl, hb, hR, hB⟩
      clear hb
      have B_2 := Lib.hid (B_1.out.trans (hB.mono B_1.out.size))
      have RT_2 := Lib.hid hR
      clear hB hR B_1
      clear RT_2
      go_wp2_with fail
      refine (parse_bad _ a1 z1 hp1).mono ?_
      rintro e w3 ⟨rfl, hb, hB⟩
      clear hb
      have B_3 := Lib.hid (B_2.out.trans (hB.mono B_2.out.size))
      clear hB B_2
      go_wp2_with fail
      refine (parse_some _ a2 z2).mono ?_
      rintro e w4 ⟨ok, on, os, oa, ol, oc, oer, rfl, hB⟩
      have B_4 := Lib.hid (B_3.out.trans (hB.mono B_3.out.size))
      clear hB B_3
      go_wp2
      go_ret
      exact ⟨rfl, B_4.out⟩
    | ok u =>
      cases hp2 : parseT a2.data.toList with
      | error er =>
        have her : ((er : Int) != 0) = true := by have := parse_er hp2; rw [bne_iff_ne]; omega
        go_enter Tryd.func5, Tryd.ntmps5
        go_wp2_with fail
        refine (awake_any _ HT.out).mono ?_
        rintro e w1 ⟨rfl, hB⟩
        have B_1 := Lib.hid (hB)
        clear hB
        go_wp2_with fail
        refine (parse_ok _ a0 z0 hp0).mono ?_
        rintro e w2 ⟨aT, cT, rfl, hb, hR, hB⟩
        clear hb
        have B_2 := Lib.hid (B_1.out.trans (hB.mono B_1.out.size))
        have RT_2 := Lib.hid hR
        clear hB hR B_1
        clear RT_2
        go_wp2_with fail
        refine (parse_ok _ a1 z1 hp1).mono ?_
        rintro e w3 ⟨aU, cU, rfl, hb, hR, hB⟩
        clear hb
        have B_3 := Lib.hid (B_2.out.trans (hB.mono B_2.out.size))
        have RU_3 := Lib.hid hR
        clear hB hR B_2
        clear RU_3
        go_wp2_with fail
        refine (parse_bad _ a2 z2 hp2).mono ?_
        rintro e w4 ⟨rfl, hb, hB⟩
        clear hb
        have B_4 := Lib.hid (B_3.out.trans (hB.mono B_3.out.size))
        clear hB B_3
        go_wp2
        go_ret
        exact ⟨rfl, B_4.out⟩
      | ok v =>
        have HP0 := Lib.hid hp0
        have HP1 := Lib.hid hp1
        have HP2 := Lib.hid hp2
        by_cases hab : a3 = a4
        · have fab := beqN_true hab
          clear hab
          go_enter Tryd.func5, Tryd.ntmps5
          go_wp2_with fail
          refine (awake_any _ HT.out).mono ?_
          rintro e w1 ⟨rfl, hB⟩
          have B_1 := Lib.hid (hB)
          clear hB
          go_wp2_with fail
          refine (parse_ok _ a0 z0 HP0.out).mono ?_
          rintro e w2 ⟨aT, cT, rfl, hb, hR, hB⟩
          clear hb
          have B_2 := Lib.hid (B_1.out.trans (hB.mono B_1.out.size))
          have RT_2 := Lib.hid hR
          clear hB hR B_1
          go_wp2_with fail
          refine (parse_ok _ a1 z1 HP1.out).mono ?_
          rintro e w3 ⟨aU, cU, rfl, hb, hR, hB⟩
          clear hb
          have RT_3 := Lib.hid (RT_2.out.low hB)
          have B_3 := Lib.hid (B_2.out.trans (hB.mono B_2.out.size))
          have RU_3 := Lib.hid hR
          clear hB hR RT_2 B_2
          go_wp2_with fail
          refine (parse_ok _ a2 z2 HP2.out).mono ?_
          rintro e w4 ⟨aV, cV, rfl, hb, hR, hB⟩
          clear hb
          have RT_4 := Lib.hid (RT_3.out.low hB)
          have RU_4 := Lib.hid (RU_3.out.low hB)
          have B_4 := Lib.hid (B_3.out.trans (hB.mono B_3.out.size))
          have RV_4 := Lib.hid hR
          clear hB hR RT_3 RU_3 B_3
          clear RT_4
          clear RU_4
          clear RV_4
          go_wp2
          go_ret
          exact ⟨rfl, B_4.out⟩
        · have fab := beqN_false hab
          by_cases h0 : 300 < a0.size
          · have f0 : decide ((300 : Int) < (a0.size : Int)) = true := by rw [decide_eq_true_eq]; omega
            go_enter Tryd.func5, Tryd.ntmps5
            go_wp2_with fail
            refine (awake_any _ HT.out).mono ?_
            rintro e w1 ⟨rfl, hB⟩
            have B_1 := Lib.hid (hB)
            clear hB
            go_wp2_with fail
            refine (parse_ok _ a0 z0 HP0.out).mono ?_
            rintro e w2 ⟨aT, cT, rfl, hb, hR, hB⟩
            clear hb
            have B_2 := Lib.hid (B_1.out.trans (hB.mono B_1.out.size))
            have RT_2 := Lib.hid hR
            clear hB hR B_1
            go_wp2_with fail
            refine (parse_ok _ a1 z1 HP1.out).mono ?_
            rintro e w3 ⟨aU, cU, rfl, hb, hR, hB⟩
            clear hb
            have RT_3 := Lib.hid (RT_2.out.low hB)
            have B_3 := Lib.hid (B_2.out.trans (hB.mono B_2.out.size))
            have RU_3 := Lib.hid hR
            clear hB hR RT_2 B_2
            go_wp2_with fail
            refine (parse_ok _ a2 z2 HP2.out).mono ?_
            rintro e w4 ⟨aV, cV, rfl, hb, hR, hB⟩
            clear hb
            have RT_4 := Lib.hid (RT_3.out.low hB)
            have RU_4 := Lib.hid (RU_3.out.low hB)
            have B_4 := Lib.hid (B_3.out.trans (hB.mono B_3.out.size))
            have RV_4 := Lib.hid hR
            clear hB hR RT_3 RU_3 B_3
            clear RT_4
            clear RU_4
            clear RV_4
            go_wp2
            go_ret
            exact ⟨rfl, B_4.out⟩
          · have f0 : decide ((300 : Int) < (a0.size : Int)) = false := by rw [decide_eq_false_iff_not]; omega
            by_cases h1 : 300 < a1.size
            · have f1 : decide ((300 : Int) < (a1.size : Int)) = true := by rw [decide_eq_true_eq]; omega
              go_enter Tryd.func5, Tryd.ntmps5
              go_wp2_with fail
              refine (awake_any _ HT.out).mono ?_
              rintro e w1 ⟨rfl, hB⟩
              have B_1 := Lib.hid (hB)
              clear hB
              go_wp2_with fail
              refine (parse_ok _ a0 z0 HP0.out).mono ?_
              rintro e w2 ⟨aT, cT, rfl, hb, hR, hB⟩
              clear hb
              have B_2 := Lib.hid (B_1.out.trans (hB.mono B_1.out.size))
              have RT_2 := Lib.hid hR
              clear hB hR B_1
              go_wp2_with fail
              refine (parse_ok _ a1 z1 HP1.out).mono ?_
              rintro e w3 ⟨aU, cU, rfl, hb, hR, hB⟩
              clear hb
              have RT_3 := Lib.hid (RT_2.out.low hB)
              have B_3 := Lib.hid (B_2.out.trans (hB.mono B_2.out.size))
              have RU_3 := Lib.hid hR
              clear hB hR RT_2 B_2
              go_wp2_with fail
              refine (parse_ok _ a2 z2 HP2.out).mono ?_
              rintro e w4 ⟨aV, cV, rfl, hb, hR, hB⟩
              clear hb
              have RT_4 := Lib.hid (RT_3.out.low hB)
              have RU_4 := Lib.hid (RU_3.out.low hB)
              have B_4 := Lib.hid (B_3.out.trans (hB.mono B_3.out.size))
              have RV_4 := Lib.hid hR
              clear hB hR RT_3 RU_3 B_3
              clear RT_4
              clear RU_4
              clear RV_4
              go_wp2
              go_ret
              exact ⟨rfl, B_4.out⟩
            · have f1 : decide ((300 : Int) < (a1.size : Int)) = false := by rw [decide_eq_false_iff_not]; omega
              by_cases h2 : 300 < a2.size
              · have f2 : decide ((300 : Int) < (a2.size : Int)) = true := by rw [decide_eq_true_eq]; omega
                go_enter Tryd.func5, Tryd.ntmps5
                go_wp2_with fail
                refine (awake_any _ HT.out).mono ?_
                rintro e w1 ⟨rfl, hB⟩
                have B_1 := Lib.hid (hB)
                clear hB
                go_wp2_with fail
                refine (parse_ok _ a0 z0 HP0.out).mono ?_
                rintro e w2 ⟨aT, cT, rfl, hb, hR, hB⟩
                clear hb
                have B_2 := Lib.hid (B_1.out.trans (hB.mono B_1.out.size))
                have RT_2 := Lib.hid hR
                clear hB hR B_1
                go_wp2_with fail
                refine (parse_ok _ a1 z1 HP1.out).mono ?_
                rintro e w3 ⟨aU, cU, rfl, hb, hR, hB⟩
                clear hb
                have RT_3 := Lib.hid (RT_2.out.low hB)
                have B_3 := Lib.hid (B_2.out.trans (hB.mono B_2.out.size))
                have RU_3 := Lib.hid hR
                clear hB hR RT_2 B_2
                go_wp2_with fail
                refine (parse_ok _ a2 z2 HP2.out).mono ?_
                rintro e w4 ⟨aV, cV, rfl, hb, hR, hB⟩
                clear hb
                have RT_4 := Lib.hid (RT_3.out.low hB)
                have RU_4 := Lib.hid (RU_3.out.low hB)
                have B_4 := Lib.hid (B_3.out.trans (hB.mono B_3.out.size))
                have RV_4 := Lib.hid hR
                clear hB hR RT_3 RU_3 B_3
                clear RT_4
                clear RU_4
                clear RV_4
                go_wp2
                go_ret
                exact ⟨rfl, B_4.out⟩
              · have f2 : decide ((300 : Int) < (a2.size : Int)) = false := by rw [decide_eq_false_iff_not]; omega
                have ST := Lib.hid (small_parse hp0)
                have SU := Lib.hid (small_parse hp1)
                have SV := Lib.hid (small_parse hp2)
                obtain ⟨tm, _, tl, _⟩ := parse_made hp0
                obtain ⟨um, _, ul, _⟩ := parse_made hp1
                obtain ⟨vm, _, vl, _⟩ := parse_made hp2
                have e0 : a0.data.toList.length = a0.size := by rw [Array.length_toList]; rfl
                have e1 : a1.data.toList.length = a1.size := by rw [Array.length_toList]; rfl
                have e2 : a2.data.toList.length = a2.size := by rw [Array.length_toList]; rfl
                obtain ⟨p1, q1, r1⟩ := small_Put a3 (n := 300) (.inl tm) um (by omega) (by omega) (by omega)
                obtain ⟨p2, _, r2⟩ := small_Put a4 (n := 90000) (.inr p1) vm (by omega) (by omega) (by omega)
                obtain ⟨p3, q3, r3⟩ := small_Put a4 (n := 300) (.inl tm) vm (by omega) (by omega) (by omega)
                obtain ⟨p4, _, r4⟩ := small_Put a3 (n := 90000) (.inr p3) um (by omega) (by omega) (by omega)
                have SY1 := Lib.hid r1
                have SY2 := Lib.hid r2
                have SY3 := Lib.hid r3
                have SY4 := Lib.hid r4
                have EQ : Hid (hasN (freeT u) a4 = false → hasN (freeT v) a3 = false → decide (canonS (PutT a4 v (PutT a3 u t)) = canonS (PutT a3 u (PutT a4 v t))) = true) := Lib.hid (fun h k => by
                  rw [decide_eq_true_eq]
                  unfold canonS
                  rw [hasN_false, mem_free] at h k
                  rw [canon_congr p2.1 p4.1 (put_order a3 a4 t u v tm.1 um.1 vm.1 hab h k)])
                have FU : Hid ((freeT u).length ≤ 1099511627776) := Lib.hid (by have := freeT_len u; omega)
                have FV : Hid ((freeT v).length ≤ 1099511627776) := Lib.hid (by have := freeT_len v; omega)
                clear hp0 hp1 hp2 tm um vm tl ul vl e0 e1 e2 p1 p2 p3 p4 q1 q3 r1 r2 r3 r4 h0 h1 h2 hab
                
                go_enter Tryd.func5, Tryd.ntmps5
                go_wp2_with fail
                refine (awake_any _ HT.out).mono ?_
                rintro e w1 ⟨rfl, hB⟩
                have B_1 := Lib.hid (hB)
                clear hB
                go_wp2_with fail
                refine (parse_ok _ a0 z0 HP0.out).mono ?_
                rintro e w2 ⟨aT, cT, rfl, hb, hR, hB⟩
                clear hb
                have B_2 := Lib.hid (B_1.out.trans (hB.mono B_1.out.size))
                have RT_2 := Lib.hid hR
                clear hB hR B_1
                go_wp2_with fail
                refine (parse_ok _ a1 z1 HP1.out).mono ?_
                rintro e w3 ⟨aU, cU, rfl, hb, hR, hB⟩
                clear hb
                have RT_3 := Lib.hid (RT_2.out.low hB)
                have B_3 := Lib.hid (B_2.out.trans (hB.mono B_2.out.size))
                have RU_3 := Lib.hid hR
                clear hB hR RT_2 B_2
                go_wp2_with fail
                refine (parse_ok _ a2 z2 HP2.out).mono ?_
                rintro e w4 ⟨aV, cV, rfl, hb, hR, hB⟩
                clear hb
                have RT_4 := Lib.hid (RT_3.out.low hB)
                have RU_4 := Lib.hid (RU_3.out.low hB)
                have B_4 := Lib.hid (B_3.out.trans (hB.mono B_3.out.size))
                have RV_4 := Lib.hid hR
                clear hB hR RT_3 RU_3 B_3
                have k0 := RU_4.out.k.c0
                have k1 := RU_4.out.k.c1
                have k2 := RU_4.out.k.c2
                have k3 := RU_4.out.k.c3
                have C := Lib.hid (free_h RU_4.out.at_ SU.out)
                go_wp2_with fail
                refine C.out.mono ?_
                rintro e w5 ⟨v1, rfl, own1, _, hB⟩
                obtain ⟨va, vc, rfl⟩ := own_form own1
                have CH := Lib.hid (has_any _ _ _ a4 w5 (StrsAt.of_own own1 FU.out))
                clear C own1 k0 k1 k2 k3
                have RT_5 := Lib.hid (RT_4.out.low hB)
                have RU_5 := Lib.hid (RU_4.out.low hB)
                have RV_5 := Lib.hid (RV_4.out.low hB)
                have B_5 := Lib.hid (B_4.out.trans (hB.mono B_4.out.size))
                clear hB RT_4 RU_4 RV_4 B_4
                go_wp2_with fail
                refine CH.out.mono ?_
                rintro e w' ⟨rfl, rfl⟩
                clear CH
                obtain ⟨q1, hq1⟩ : ∃ b, hasN (freeT u) a4 = b := ⟨_, rfl⟩
                rw [hq1]
                have Hq1 := Lib.hid hq1
                clear hq1
                have k0 := RV_5.out.k.c0
                have k1 := RV_5.out.k.c1
                have k2 := RV_5.out.k.c2
                have k3 := RV_5.out.k.c3
                have C := Lib.hid (free_h RV_5.out.at_ SV.out)
                go_wp2_with fail
                refine C.out.mono ?_
                rintro e w6 ⟨v1, rfl, own1, _, hB⟩
                obtain ⟨va, vc, rfl⟩ := own_form own1
                have CH := Lib.hid (has_any _ _ _ a3 w6 (StrsAt.of_own own1 FV.out))
                clear C own1 k0 k1 k2 k3
                have RT_6 := Lib.hid (RT_5.out.low hB)
                have RU_6 := Lib.hid (RU_5.out.low hB)
                have RV_6 := Lib.hid (RV_5.out.low hB)
                have B_6 := Lib.hid (B_5.out.trans (hB.mono B_5.out.size))
                clear hB RT_5 RU_5 RV_5 B_5
                go_wp2_with fail
                refine CH.out.mono ?_
                rintro e w' ⟨rfl, rfl⟩
                clear CH
                obtain ⟨q2, hq2⟩ : ∃ b, hasN (freeT v) a3 = b := ⟨_, rfl⟩
                rw [hq2]
                have Hq2 := Lib.hid hq2
                clear hq2
                cases q1 with
                | true =>
                  go_wp2
                  go_ret
                  exact ⟨rfl, B_6.out⟩
                | false =>
                  cases q2 with
                  | true =>
                    go_wp2
                    go_ret
                    exact ⟨rfl, B_6.out⟩
                  | false =>
                    have EE := Lib.hid (EQ.out Hq1.out Hq2.out)
                    clear EQ Hq1 Hq2
                    go_upto_region 11 with fail
                    go_cut [20] from 81 to 95 (fun s wx => s = .bool (decide (canonS (PutT a4 v (PutT a3 u t)) = canonS (PutT a3 u (PutT a4 v t)))) ∧ Below (w6).heap.size (w6) wx)
                    case first =>
                      have k0 := RT_6.out.k.c0
                      have k1 := RT_6.out.k.c1
                      have k2 := RT_6.out.k.c2
                      have k3 := RT_6.out.k.c3
                      have l0 := RU_6.out.k.c0
                      have l1 := RU_6.out.k.c1
                      have l2 := RU_6.out.k.c2
                      have l3 := RU_6.out.k.c3
                      have m0 := RV_6.out.k.c0
                      have m1 := RV_6.out.k.c1
                      have m2 := RV_6.out.k.c2
                      have m3 := RV_6.out.k.c3
                      have HD := Lib.hid ((Below.refl (w6).heap.size (w6)).drew)
                      have CP1 := Lib.hid (fun (W : World) (h : Below (w6).heap.size (w6) W) => put_h a3 (RT_6.out.low h).at_ (RU_6.out.low h).at_ ST.out SU.out (tab_below HT.out (B_6.out.trans (h.mono B_6.out.size))))
                      have CP3 := Lib.hid (fun (W : World) (h : Below (w6).heap.size (w6) W) => put_h a4 (RT_6.out.low h).at_ (RV_6.out.low h).at_ ST.out SV.out (tab_below HT.out (B_6.out.trans (h.mono B_6.out.size))))
                      have KD : Hid (∀ W : World, Below (w6).heap.size (w6) W → (W.cell? ⟨w2.heap.size, 0, none⟩ = some (.int .i64 t.kind) ∧ W.cell? ⟨w2.heap.size, 1, none⟩ = some (.string t.name) ∧ W.cell? ⟨w2.heap.size, 2, none⟩ = some (.int .i64 t.n) ∧ W.cell? ⟨w2.heap.size, 3, none⟩ = some (.slice aT t.args.length cT) ∧ W.cell? ⟨w3.heap.size, 0, none⟩ = some (.int .i64 u.kind) ∧ W.cell? ⟨w3.heap.size, 1, none⟩ = some (.string u.name) ∧ W.cell? ⟨w3.heap.size, 2, none⟩ = some (.int .i64 u.n) ∧ W.cell? ⟨w3.heap.size, 3, none⟩ = some (.slice aU u.args.length cU) ∧ W.cell? ⟨w4.heap.size, 0, none⟩ = some (.int .i64 v.kind) ∧ W.cell? ⟨w4.heap.size, 1, none⟩ = some (.string v.name) ∧ W.cell? ⟨w4.heap.size, 2, none⟩ = some (.int .i64 v.n) ∧ W.cell? ⟨w4.heap.size, 3, none⟩ = some (.slice aV v.args.length cV))) := Lib.hid (fun W h => ⟨(RT_6.out.low h).k.c0, (RT_6.out.low h).k.c1, (RT_6.out.low h).k.c2, (RT_6.out.low h).k.c3, (RU_6.out.low h).k.c0, (RU_6.out.low h).k.c1, (RU_6.out.low h).k.c2, (RU_6.out.low h).k.c3, (RV_6.out.low h).k.c0, (RV_6.out.low h).k.c1, (RV_6.out.low h).k.c2, (RV_6.out.low h).k.c3⟩)
                      go_region_held3 (fun w' => w'.cell? ⟨w2.heap.size, 0, none⟩ = some (.int .i64 t.kind) ∧ w'.cell? ⟨w2.heap.size, 1, none⟩ = some (.string t.name) ∧ w'.cell? ⟨w2.heap.size, 2, none⟩ = some (.int .i64 t.n) ∧ w'.cell? ⟨w2.heap.size, 3, none⟩ = some (.slice aT t.args.length cT) ∧ w'.cell? ⟨w3.heap.size, 0, none⟩ = some (.int .i64 u.kind) ∧ w'.cell? ⟨w3.heap.size, 1, none⟩ = some (.string u.name) ∧ w'.cell? ⟨w3.heap.size, 2, none⟩ = some (.int .i64 u.n) ∧ w'.cell? ⟨w3.heap.size, 3, none⟩ = some (.slice aU u.args.length cU) ∧ w'.cell? ⟨w4.heap.size, 0, none⟩ = some (.int .i64 v.kind) ∧ w'.cell? ⟨w4.heap.size, 1, none⟩ = some (.string v.name) ∧ w'.cell? ⟨w4.heap.size, 2, none⟩ = some (.int .i64 v.n) ∧ w'.cell? ⟨w4.heap.size, 3, none⟩ = some (.slice aV v.args.length cV))
                        (first | (with_reducible exact KD.out _ HX5.out) | (with_reducible exact KD.out _ HX4.out) | (with_reducible exact KD.out _ HX3.out) | (with_reducible exact KD.out _ HX2.out) | (with_reducible exact KD.out _ HX1.out) | (with_reducible exact KD.out _ HD.out))
                        (first
                          | (go_at_call 19; (with_reducible refine (CP1.out _ HD.out).mono ?_); rintro e x1 ⟨b1, d1, rfl, hA1, hb1⟩; have HX1 := Lib.hid (HD.out.trans (hb1.mono HD.out.size)); have HA1 := Lib.hid hA1; have CP2 := Lib.hid (put_h a4 HA1.out (RV_6.out.low HX1.out).at_ SY1.out SV.out (tab_below HT.out (B_6.out.trans (HX1.out.mono B_6.out.size)))); clear hA1 hb1)
                          | (go_at_call 19; (with_reducible refine CP2.out.mono ?_); rintro e x2 ⟨b2, d2, rfl, hA2, hb2⟩; have HX2 := Lib.hid (HX1.out.trans (hb2.mono HX1.out.size)); have HA2 := Lib.hid hA2; clear hA2 hb2)
                          | (go_at_call 19; (with_reducible refine (CP3.out _ HX2.out).mono ?_); rintro e x3 ⟨b3, d3, rfl, hA3, hb3⟩; have HX3 := Lib.hid (HX2.out.trans (hb3.mono HX2.out.size)); have HA3 := Lib.hid hA3; have HA23 := Lib.hid (HA2.out.low hb3); have CP4 := Lib.hid (put_h a3 HA3.out (RU_6.out.low HX3.out).at_ SY3.out SU.out (tab_below HT.out (B_6.out.trans (HX3.out.mono B_6.out.size)))); clear hA3 hb3)
                          | (go_at_call 19; (with_reducible refine CP4.out.mono ?_); rintro e x4 ⟨b4, d4, rfl, hA4, hb4⟩; have HX4 := Lib.hid (HX3.out.trans (hb4.mono HX3.out.size)); have CS := Lib.hid (same_h (HA23.out.low hb4) hA4 SY2.out SY4.out (tab_below HT.out (B_6.out.trans (HX4.out.mono B_6.out.size)))); clear hA4 hb4)
                          | (go_at_call 12; (with_reducible refine CS.out.mono ?_); rintro e x5 ⟨rfl, hb5⟩; have HX5 := Lib.hid (HX4.out.trans (hb5.mono HX4.out.size)); clear hb5))
                      all_goals
                        go_wp2_with fail
                        go_meet
                        exact ⟨rfl, HX5.out⟩
                    obtain ⟨rfl, hB⟩ := hcut
                    rw [EE.out]
                    have RT_7 := Lib.hid (RT_6.out.low hB)
                    have RU_7 := Lib.hid (RU_6.out.low hB)
                    have RV_7 := Lib.hid (RV_6.out.low hB)
                    have B_7 := Lib.hid (B_6.out.trans (hB.mono B_6.out.size))
                    clear hB RT_6 RU_6 RV_6 B_6
                    go_wp2
                    go_ret
                    exact ⟨rfl, B_7.out⟩

end Go.Proofs.YtifaaihekgnhiaaDoor.Tp

/-
  The law TypesOrder: for every three texts and every two names it returns true; they read as before. No conditions; the card ties the library's tables to the program's text.
-/
namespace Go.Proofs.YtifaaihekgnhiaaDoor.typesOrder
open Go.ChangeShapes Go.WideShapes Go.ChangeAt Go.WideMaps Go.WideElems Go.RowKit
open Go.ChangeMaps (open_string shut_string)
open Tp (Tab laidL tab_of_laid door_met own laidOut)

/-! ### the row's step, as the kit's worked example (a law over laid variables) has it -/
set_option linter.unusedVariables false in
set_option maxRecDepth 100000 in
theorem lifted (os : Os) (started : os.Started) (H : Type) (enc : TypeId × Value → H) :
    ReturnsInHanded {} Tryd.checked os 5 .any (fun w args => (Rows.typesOrderSpec.pre enc Tryd.prog Tryd.f5 [] false w args ∧ laidMetH Tryd.prog laidL w) ∧ sizedMet enc Tryd.prog Tryd.f5 (OpenSpec.ofChange Rows.typesOrderSpec) false w args)
      (Rows.typesOrderSpec.post enc Tryd.prog Tryd.f5 false true false false) := by
  refine returnsInHanded_of_change_and (C := Tryd.checked) (X := fun w _ => laidMetH Tryd.prog laidL w) (fun _ _ _ hh h => h.of_heap hh) own started (by kernel_rfl) Tryd.func5
    (ChangeSpec.witness_shaped (enc := enc) (C := Tryd.checked) (os := os) (X := fun w _ => laidMetH Tryd.prog laidL w) false (World.doorLaid Tryd.prog 400 os) #[.string ByteArray.empty, .string ByteArray.empty, .string ByteArray.empty, .string ByteArray.empty, .string ByteArray.empty] 8 rfl (World.shaped_of_RefB (by kernel_rfl) (by kernel_rfl)) (by kernel_rfl) (by kernel_rfl) (by kernel_rfl) (door_met os _)) ?_
  intro W base args ds gs before hval0 hW _ _ hL _
  have hval : ∀ (j : Nat) t v, Tryd.f5.params[j]? = some t → args[j]? = some v → Value.okWide Tryd.prog W .any base t v := hval0
  have hW' := hW
  obtain ⟨p, q, hA0, hV, rfl, hfz, hnd⟩ := hW
  have hA : DataW.TrodAll enc Tryd.prog W 0 (fun _ => true) true Tryd.f5.params.toList args.toList ds p := hA0
  rw [Tryd.params5] at hA hval
  obtain ⟨v0, vs0, d0, ds0, p0, q0, hargs, rfl, rfl, h0, r0⟩ := trodAll_cons hA
  obtain ⟨v1, vs1, d1, ds1, p1, q1, rfl, rfl, rfl, h1, r1⟩ := trodAll_cons r0
  obtain ⟨v2, vs2, d2, ds2, p2, q2, rfl, rfl, rfl, h2, r2⟩ := trodAll_cons r1
  obtain ⟨v3, vs3, d3, ds3, p3, q3, rfl, rfl, rfl, h3, r3⟩ := trodAll_cons r2
  obtain ⟨v4, vs4, d4, ds4, p4, q4, rfl, rfl, rfl, h4, r4⟩ := trodAll_cons r3
  obtain ⟨rfl, rfl, rfl⟩ := trodAll_nil r4
  obtain rfl : args = #[v0, v1, v2, v3, v4] := by cases args; simp_all
  obtain ⟨rfl, rfl⟩ := trodVars_none hV
  obtain ⟨a0, rfl, rfl, rfl, w0⟩ := open_string Tryd.underlying9 (hval 0 9 v0 rfl rfl) h0
  obtain ⟨a1, rfl, rfl, rfl, w1⟩ := open_string Tryd.underlying9 (hval 1 9 v1 rfl rfl) h1
  obtain ⟨a2, rfl, rfl, rfl, w2⟩ := open_string Tryd.underlying9 (hval 2 9 v2 rfl rfl) h2
  obtain ⟨a3, rfl, rfl, rfl, w3⟩ := open_string Tryd.underlying9 (hval 3 9 v3 rfl rfl) h3
  obtain ⟨a4, rfl, rfl, rfl, w4⟩ := open_string Tryd.underlying9 (hval 4 9 v4 rfl rfl) h4
  clear hA0 hval0
  refine (Tp.typesOrder_walk a0 w0 a1 w1 a2 w2 a3 w3 a4 w4 W (tab_of_laid hL)).mono fun e W' ⟨he, bel⟩ => ?_
  subst he
  exact ⟨_, rfl, _, _, _, [], _, [], hW', trodAll_mk1 (shut_bool Tryd.underlying4 _), (trodAll_cons_mk (shut_string Tryd.underlying9 w0) (trodAll_cons_mk (shut_string Tryd.underlying9 w1) (trodAll_cons_mk (shut_string Tryd.underlying9 w2) (trodAll_cons_mk (shut_string Tryd.underlying9 w3) (trodAll_cons_mk (shut_string Tryd.underlying9 w4) trodAll_mk0))))), rfl, bel.frame _, fun h => by cases h⟩

theorem row_holds : Rows.TypesOrderSaid :=
  OpenClaim.holds_of_wide 5 Tryd.f5 rfl rfl rfl rfl rfl rfl rfl ⟨rfl, rfl, rfl, rfl, rfl⟩ rfl rfl rfl rfl rfl (by kernel_rfl) Tryd.func5 (by kernel_rfl)
    (of_decide_eq_true (by kernel_rfl)) (by unfold Func.isWrapper; first | (rw [if_pos (by decide +kernel)]; kernel_rfl) | (rw [if_neg (by decide +kernel)]; exact ⟨rfl, rfl⟩))
    (fun os started H enc _ => lifted os started H enc)

/-- THE STATEMENT: the row, tied to the program's text. -/
theorem proved : Rows.TypesOrderCardSaid :=
  Claim7.holds_tied_plain_at .later [] [.data, .data, .data, .sentinel, .sentinel] true Rows.typesOrderCard.stood.harness true
    row_holds (fun _ h => by cases h) (by kernel_rfl) (fun _ h => by cases h) typesOrder_row_tie rfl ⟨rfl, rfl⟩ (by kernel_rfl) rfl
    (fun f fn hf hfn => by
      obtain rfl : f = 5 := Option.some.inj ((show Tryd.prog.funcNamed "savant/savantlaw02.TypesOrder" = some 5 by kernel_rfl).symm.trans hf) |>.symm
      obtain rfl : fn = Tryd.f5 := (Option.some.inj (Tryd.func5.symm.trans hfn)).symm
      exact ⟨by kernel_rfl, fun j t ht => by
        rw [Tryd.params5] at ht
        have hm : t ∈ [9, 9, 9, 9, 9] := by simpa using Array.mem_of_getElem? ht
        have hall : ([9, 9, 9, 9, 9].all fun u => !Tryd.prog.wantsStandIn u) = true := by kernel_rfl
        exact (show Tryd.prog.wantsStandIn t = false by simpa using List.all_eq_true.1 hall t hm)⟩)
    (by kernel_rfl)
#print axioms proved
end Go.Proofs.YtifaaihekgnhiaaDoor.typesOrder

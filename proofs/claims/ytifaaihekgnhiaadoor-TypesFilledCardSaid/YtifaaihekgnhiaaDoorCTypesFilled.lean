/- The walk of TypesFilled. -/
import Derived.Test.YtifaaihekgnhiaaDoorP46
import Derived.Test.YtifaaihekgnhiaaDoorP36
import Derived.Deep.RegionHeld3
import Derived.Deep.CutRange
import Derived.Laws.AppendOwn
import Derived.Laws.AppendOwnNone
import Derived.Test.YtifaaihekgnhiaaDoorP13
import Derived.Test.YtifaaihekgnhiaaDoorCards
import Derived.Test.YtifaaihekgnhiaaDoorTie
import Derived.SevenTiedAt

/- What the laws' walks want besides. -/
namespace Go.Proofs.YtifaaihekgnhiaaDoor.Tp
open Go.RowKit

theorem drawn_below {B : Nat} {a w : World} (h : Below B a w) (n : Nat) : Below B a (w.drewN n) := h.trans ⟨rfl, rfl, rfl, Nat.le_refl _, fun _ _ => rfl⟩
/-- whatever Parse tells -/
def SomePost (w : World) (e : Ending) (w' : World) : Prop :=
  ∃ (k n : Int) (s : ByteArray) (a : Option Addr) (l c er : Nat), e = .returned (.tuple #[.agg #[.int .i64 k, .string s, .int .i64 n, .slice a l c], .int .i64 er]) ∧ Below w.heap.size w (w'.alloc (.cells #[.int .i64 k, .string s, .int .i64 n, .slice a l c] 25))
theorem parse_some (w : World) (s : ByteArray) (hs : s.size ≤ maxLen) : Calls Tryd.prog 9 #[.string s] w (SomePost w) := by
  cases h : parseT s.data.toList with
  | error er =>
    refine (parse_bad w s hs h).mono ?_
    rintro e w' ⟨rfl, _, hB⟩
    exact ⟨0, 0, _, none, 0, 0, er, rfl, hB⟩
  | ok t =>
    refine (parse_ok w s hs h).mono ?_
    rintro e w' ⟨a, c, rfl, _, _, hB⟩
    exact ⟨_, _, _, a, _, c, 0, rfl, hB⟩

theorem metaAcc_len : ∀ (t : Ty) (out : List Int) (ns : List ByteArray), (walkF metaStep t out ns).length ≤ out.length + t.size := by
  intro t
  induction t using Ty.ind with
  | h t ih =>
    intro out ns
    rw [walkF_eq, t.size_eq]
    have h1 : (metaStep out t ns).length ≤ out.length + 1 := by unfold metaStep; split <;> simp
    have : ∀ (l : List Ty) (out : List Int) (ns : List ByteArray), (∀ a ∈ l, ∀ (out : List Int) (ns : List ByteArray), (walkF metaStep a out ns).length ≤ out.length + a.size) → (walkL metaStep l out ns).length ≤ out.length + sizeL l := by
      intro l
      induction l with
      | nil => intro out ns _; simp [walkL, sizeL]
      | cons a l ihl =>
        intro out ns h
        rw [walkL, sizeL]
        have := ihl (walkF metaStep a out ns) ns fun b hb => h b (by simp [hb])
        have := h a (by simp) out ns
        omega
    have := this t.args (metaStep out t ns) (if t.kind = 5 then t.name :: ns else ns) ih
    omega
theorem metasT_len (t : Ty) : (metasT t).length ≤ t.size := by have := metaAcc_len t [] []; simpa [metasT] using this


end Go.Proofs.YtifaaihekgnhiaaDoor.Tp

/- The walk of TypesFilled. -/
namespace Go.Proofs.YtifaaihekgnhiaaDoor.Tp
open Go.RowKit

theorem small_Fill (m : Int) {u t : Ty} {n : Nat} (ht : Mk t ∨ Std t ∧ Good t) (hu : Mk u) (hs : t.size ≤ n) (hus : u.size ≤ 300) (hn : n ≤ 90000) : (Std (fillT m u t) ∧ Good (fillT m u t)) ∧ (fillT m u t).size ≤ n * 300 ∧ Small (fillT m u t) := by
  have hst : Std t ∧ Good t := ht.elim (fun h => ⟨h.1, mk_good t h⟩) id
  have h1 := fillT_size m u t hst.1 hu.1
  have h2 : t.size * u.size ≤ n * 300 := Nat.mul_le_mul hs hus
  have h3 := fillT_good m u t hst.2 (mk_good u hu) (by omega) (by omega)
  exact ⟨⟨fillT_std m u t hst.1 hu.1, h3⟩, by omega, h3, by omega⟩

/-- one row of numbers behind another one -/
theorem append_metas (ty : TypeId) {wi wy : World} {lo lo2 : Nat} {v1 v2 : Value} {l1 l2 : List Int} (o1 : wy.ownsRow lo 3 1 v1 l1.length (l1.map (Value.int .i64))) (o2 : wy.ownsRow lo2 3 1 v2 l2.length (l2.map (Value.int .i64)))
    (hb : Below wi.heap.size wi wy) (hlo : wi.heap.size ≤ lo) (hlo1 : lo ≤ wy.heap.size) (h1 : l1.length ≤ 1099511627776) (h2 : l2.length ≤ 1099511627776) {L : List Int} (hL : l1 ++ l2 = L) :
    ∃ v' w', (Builtin.append_ #[36, 36] ty #[v1, v2]).run Tryd.prog wy = .ok v' w' ∧ w'.ownsRow wi.heap.size 3 1 v' L.length (L.map (Value.int .i64)) ∧ Below wi.heap.size wi w' := by
  subst hL
  obtain ⟨i0, hi0, hz3, hz1, hz2⟩ := info_parts infoInt
  rcases o2.2 with ⟨rfl, h0⟩ | ⟨g, cap, cur, rfl, hg1, hg2, hg3⟩
  · have e0 : l2 = [] := List.eq_nil_of_length_eq_zero h0
    subst e0
    refine ⟨v1, wy, run_append_owned_none (P := Tryd.prog) (w := wy) lo 36 ty 3 i0 1 Tryd.underlying36 hi0 v1 l1.length (l1.map (Value.int .i64)) o1, by rw [List.append_nil]; exact own_mono o1 hlo, hb⟩
  · have hc := o2.cells (g := g) rfl
    obtain ⟨v', w', hr, ho, hgr, _⟩ := run_append_own (P := Tryd.prog) wy lo 36 ty 3 i0 (.int .i64 0) 1 8 Tryd.underlying36 hi0 hz3 hz1 hz2 rfl (by decide) v1 l1.length (l1.map (Value.int .i64)) o1 ⟨g, 0, none⟩ l2.length cap (l2.map (Value.int .i64)) (by simp) (fun j u hu => hc j u hu) (fun u hu => by obtain ⟨x, _, rfl⟩ := List.mem_map.1 hu; rfl) (by unfold maxLen; omega) (by omega) hlo1
    refine ⟨v', w', hr, ?_, hb.grown hgr (by have := hb.size; omega) fun k e => by have := (o1.lt k e).1; omega⟩
    rw [List.length_append, List.map_append]; exact own_mono ho hlo

/-- at a step of a region that draws its order -/
theorem step_append_run {P : Program} {ops : Array Oper} {o : Oper} {a : Act} {w : World} {K : Act → World → Prop} {Q : Exit → Act → World → Prop} {E : Prop} (hgd : o.guard = none) (s x : Operand) (t : TypeId)
    (ho : o.op = .call { callee := .builtin .append, args := #[s, x], argTypes := #[t, t] }) {v vx : Value} (hs : a.eval s = v) (hx : a.eval x = vx) {R : Value → World → Prop}
    (hrun : ∃ v' w', (Builtin.append_ #[t, t] o.type #[v, vx]).run P w = .ok v' w' ∧ R v' w') (h : ∀ v' w', R v' w' → K (a.put o.dst v') w') :
    if Region.wanted o (yielded ops a.tmps) = true then Oper.wp P o a w K Q else E := by
  have hw : Region.wanted o (yielded ops a.tmps) = true := by simp [Region.wanted, hgd]
  rw [if_pos hw]
  obtain ⟨v', w', hr, hR⟩ := hrun
  unfold Oper.wp execOp
  simp only [ho, resolve, invoke, builtin, Sem.run_bind, Sem.run_pure, Result.andThen_ok, List.map_toArray, List.map_cons, List.map_nil, hs, hx, hr]
  exact h v' w' hR

theorem fill_metas_small {l : List Int} {v : Value} {lo : Nat} {w : World} (h : w.ownsRow lo 3 1 v l.length (l.map (Value.int .i64))) (hl : l.length ≤ 1099511627776) {a : Option Addr} {c : Nat} (e : v = .slice a l.length c) : ∀ j (hj : j < l.length), ∃ b off, a = some ⟨b, off, none⟩ ∧ w.cell? ⟨b, off + j, none⟩ = some (.int .i64 l[j]) := by
  intro j hj
  obtain ⟨a', c', e', _, _, h3⟩ := NumsAt.of_own h hl
  rw [e] at e'
  injection e' with e1 e2 e3
  subst e1
  obtain ⟨b, off, rfl, _, hc⟩ := h3.resolve_left (by intro e; rw [e] at hj; simp at hj)
  exact ⟨b, off, rfl, hc j hj⟩
theorem take_all_step {p : Int → Prop} {l : List Int} {k : Nat} (hk : k < l.length) (h : ∀ x ∈ l.take k, p x) (hx : p l[k]) : ∀ x ∈ l.take (k + 1), p x := by
  intro x h'
  rw [List.take_add_one, List.getElem?_eq_getElem hk] at h'
  rcases List.mem_append.1 h' with h' | h'
  · exact h x h'
  · simp only [Option.toList_some, List.mem_singleton] at h'; rw [h']; exact hx

set_option maxHeartbeats 6400000 in
set_option maxRecDepth 100000 in
theorem typesFilled_walk (a0 : ByteArray) (z0 : a0.size ≤ maxLen) (a1 : ByteArray) (z1 : a1.size ≤ maxLen) (a2 : ByteArray) (z2 : a2.size ≤ maxLen) (a3 : Int) (_z3 : (Lit.int .i64 a3).wf = true) (a4 : Int) (_z4 : (Lit.int .i64 a4).wf = true) (w : World) (hT : Tab w) :
    Calls Tryd.prog 7 #[.string a0, .string a1, .string a2, .int .i64 a3, .int .i64 a4] w fun e w' => e = .returned (.bool true) ∧ Below w.heap.size w w' := by
  have HT := Lib.hid hT
  clear hT _z3 _z4
  cases hp0 : parseT a0.data.toList with
  | error er =>
    have her : ((er : Int) != 0) = true := by have := parse_er hp0; rw [bne_iff_ne]; omega
    go_enter Tryd.func7, Tryd.ntmps7
    go_wp2_with fail
    refine (awake_any _ HT.out).mono ?_
    rintro e w1 ⟨rfl, hB⟩
    have B_1 := Lib.hid (hB)
    clear hB
    go_wp2_with fail
    refine (parse_bad _ a0 z0 hp0).mono ?_
    rintro e w2 ⟨rfl, hb, hB⟩
    clear hb
    have B_2 := Lib.hid (B_1.out.trans (hB.mono B_1.out.size))
    clear hB B_1
    go_wp2_with fail
    refine (parse_some _ a1 z1).mono ?_
    rintro e w3 ⟨ok, on, os, oa, ol, oc, oer, rfl, hB⟩
    have B_3 := Lib.hid (B_2.out.trans (hB.mono B_2.out.size))
    clear hB B_2
    go_wp2_with fail
    refine (parse_some _ a2 z2).mono ?_
    rintro e w4 ⟨ok, on, os, oa, ol, oc, oer, rfl, hB⟩
    have B_4 := Lib.hid (B_3.out.trans (hB.mono B_3.out.size))
    clear hB B_3
    go_wp2
    go_ret
    exact ⟨rfl, B_4.out⟩
  | ok t =>
    cases hp1 : parseT a1.data.toList with
    | error er =>
      have her : ((er : Int) != 0) = true := by have := parse_er hp1; rw [bne_iff_ne]; omega
      go_enter Tryd.func7, Tryd.ntmps7
      go_wp2_with fail
      refine (awake_any _ HT.out).mono ?_
      rintro e w1 ⟨rfl, hB⟩
      have B_1 := Lib.hid (hB)
      clear hB
      go_wp2_with fail
      refine (parse_ok _ a0 z0 hp0).mono ?_
      rintro e w2 ⟨aT, cT, rfl, hb, hR, hB⟩
      clear hb
      have B_2 := Lib.hid (B_1.out.trans (hB.mono B_1.out.size))
      have RT_2 := Lib.hid hR
      clear hB hR B_1
      clear RT_2
      go_wp2_with fail
      refine (parse_bad _ a1 z1 hp1).mono ?_
      rintro e w3 ⟨rfl, hb, hB⟩
      clear hb
      have B_3 := Lib.hid (B_2.out.trans (hB.mono B_2.out.size))
      clear hB B_2
      go_wp2_with fail
      refine (parse_some _ a2 z2).mono ?_
      rintro e w4 ⟨ok, on, os, oa, ol, oc, oer, rfl, hB⟩
      have B_4 := Lib.hid (B_3.out.trans (hB.mono B_3.out.size))
      clear hB B_3
      go_wp2
      go_ret
      exact ⟨rfl, B_4.out⟩
    | ok u =>
      cases hp2 : parseT a2.data.toList with
      | error er =>
        have her : ((er : Int) != 0) = true := by have := parse_er hp2; rw [bne_iff_ne]; omega
        go_enter Tryd.func7, Tryd.ntmps7
        go_wp2_with fail
        refine (awake_any _ HT.out).mono ?_
        rintro e w1 ⟨rfl, hB⟩
        have B_1 := Lib.hid (hB)
        clear hB
        go_wp2_with fail
        refine (parse_ok _ a0 z0 hp0).mono ?_
        rintro e w2 ⟨aT, cT, rfl, hb, hR, hB⟩
        clear hb
        have B_2 := Lib.hid (B_1.out.trans (hB.mono B_1.out.size))
        have RT_2 := Lib.hid hR
        clear hB hR B_1
        clear RT_2
        go_wp2_with fail
        refine (parse_ok _ a1 z1 hp1).mono ?_
        rintro e w3 ⟨aU, cU, rfl, hb, hR, hB⟩
        clear hb
        have B_3 := Lib.hid (B_2.out.trans (hB.mono B_2.out.size))
        have RU_3 := Lib.hid hR
        clear hB hR B_2
        clear RU_3
        go_wp2_with fail
        refine (parse_bad _ a2 z2 hp2).mono ?_
        rintro e w4 ⟨rfl, hb, hB⟩
        clear hb
        have B_4 := Lib.hid (B_3.out.trans (hB.mono B_3.out.size))
        clear hB B_3
        go_wp2
        go_ret
        exact ⟨rfl, B_4.out⟩
      | ok v =>
        have HP0 := Lib.hid hp0
        have HP1 := Lib.hid hp1
        have HP2 := Lib.hid hp2
        by_cases hab : a3 = a4
        · have fab : (a3 == a4) = true := by rw [hab]; simp
          clear hab
          go_enter Tryd.func7, Tryd.ntmps7
          go_wp2_with fail
          refine (awake_any _ HT.out).mono ?_
          rintro e w1 ⟨rfl, hB⟩
          have B_1 := Lib.hid (hB)
          clear hB
          go_wp2_with fail
          refine (parse_ok _ a0 z0 HP0.out).mono ?_
          rintro e w2 ⟨aT, cT, rfl, hb, hR, hB⟩
          clear hb
          have B_2 := Lib.hid (B_1.out.trans (hB.mono B_1.out.size))
          have RT_2 := Lib.hid hR
          clear hB hR B_1
          go_wp2_with fail
          refine (parse_ok _ a1 z1 HP1.out).mono ?_
          rintro e w3 ⟨aU, cU, rfl, hb, hR, hB⟩
          clear hb
          have RT_3 := Lib.hid (RT_2.out.low hB)
          have B_3 := Lib.hid (B_2.out.trans (hB.mono B_2.out.size))
          have RU_3 := Lib.hid hR
          clear hB hR RT_2 B_2
          go_wp2_with fail
          refine (parse_ok _ a2 z2 HP2.out).mono ?_
          rintro e w4 ⟨aV, cV, rfl, hb, hR, hB⟩
          clear hb
          have RT_4 := Lib.hid (RT_3.out.low hB)
          have RU_4 := Lib.hid (RU_3.out.low hB)
          have B_4 := Lib.hid (B_3.out.trans (hB.mono B_3.out.size))
          have RV_4 := Lib.hid hR
          clear hB hR RT_3 RU_3 B_3
          clear RT_4
          clear RU_4
          clear RV_4
          go_wp2
          go_ret
          exact ⟨rfl, B_4.out⟩
        · have fab : (a3 == a4) = false := by rw [beq_eq_false_iff_ne]; exact hab
          by_cases h0 : 300 < a0.size
          · have f0 : decide ((300 : Int) < (a0.size : Int)) = true := by rw [decide_eq_true_eq]; omega
            go_enter Tryd.func7, Tryd.ntmps7
            go_wp2_with fail
            refine (awake_any _ HT.out).mono ?_
            rintro e w1 ⟨rfl, hB⟩
            have B_1 := Lib.hid (hB)
            clear hB
            go_wp2_with fail
            refine (parse_ok _ a0 z0 HP0.out).mono ?_
            rintro e w2 ⟨aT, cT, rfl, hb, hR, hB⟩
            clear hb
            have B_2 := Lib.hid (B_1.out.trans (hB.mono B_1.out.size))
            have RT_2 := Lib.hid hR
            clear hB hR B_1
            go_wp2_with fail
            refine (parse_ok _ a1 z1 HP1.out).mono ?_
            rintro e w3 ⟨aU, cU, rfl, hb, hR, hB⟩
            clear hb
            have RT_3 := Lib.hid (RT_2.out.low hB)
            have B_3 := Lib.hid (B_2.out.trans (hB.mono B_2.out.size))
            have RU_3 := Lib.hid hR
            clear hB hR RT_2 B_2
            go_wp2_with fail
            refine (parse_ok _ a2 z2 HP2.out).mono ?_
            rintro e w4 ⟨aV, cV, rfl, hb, hR, hB⟩
            clear hb
            have RT_4 := Lib.hid (RT_3.out.low hB)
            have RU_4 := Lib.hid (RU_3.out.low hB)
            have B_4 := Lib.hid (B_3.out.trans (hB.mono B_3.out.size))
            have RV_4 := Lib.hid hR
            clear hB hR RT_3 RU_3 B_3
            clear RT_4
            clear RU_4
            clear RV_4
            go_wp2
            go_ret
            exact ⟨rfl, B_4.out⟩
          · have f0 : decide ((300 : Int) < (a0.size : Int)) = false := by rw [decide_eq_false_iff_not]; omega
            by_cases h1 : 300 < a1.size
            · have f1 : decide ((300 : Int) < (a1.size : Int)) = true := by rw [decide_eq_true_eq]; omega
              go_enter Tryd.func7, Tryd.ntmps7
              go_wp2_with fail
              refine (awake_any _ HT.out).mono ?_
              rintro e w1 ⟨rfl, hB⟩
              have B_1 := Lib.hid (hB)
              clear hB
              go_wp2_with fail
              refine (parse_ok _ a0 z0 HP0.out).mono ?_
              rintro e w2 ⟨aT, cT, rfl, hb, hR, hB⟩
              clear hb
              have B_2 := Lib.hid (B_1.out.trans (hB.mono B_1.out.size))
              have RT_2 := Lib.hid hR
              clear hB hR B_1
              go_wp2_with fail
              refine (parse_ok _ a1 z1 HP1.out).mono ?_
              rintro e w3 ⟨aU, cU, rfl, hb, hR, hB⟩
              clear hb
              have RT_3 := Lib.hid (RT_2.out.low hB)
              have B_3 := Lib.hid (B_2.out.trans (hB.mono B_2.out.size))
              have RU_3 := Lib.hid hR
              clear hB hR RT_2 B_2
              go_wp2_with fail
              refine (parse_ok _ a2 z2 HP2.out).mono ?_
              rintro e w4 ⟨aV, cV, rfl, hb, hR, hB⟩
              clear hb
              have RT_4 := Lib.hid (RT_3.out.low hB)
              have RU_4 := Lib.hid (RU_3.out.low hB)
              have B_4 := Lib.hid (B_3.out.trans (hB.mono B_3.out.size))
              have RV_4 := Lib.hid hR
              clear hB hR RT_3 RU_3 B_3
              clear RT_4
              clear RU_4
              clear RV_4
              go_wp2
              go_ret
              exact ⟨rfl, B_4.out⟩
            · have f1 : decide ((300 : Int) < (a1.size : Int)) = false := by rw [decide_eq_false_iff_not]; omega
              by_cases h2 : 300 < a2.size
              · have f2 : decide ((300 : Int) < (a2.size : Int)) = true := by rw [decide_eq_true_eq]; omega
                go_enter Tryd.func7, Tryd.ntmps7
                go_wp2_with fail
                refine (awake_any _ HT.out).mono ?_
                rintro e w1 ⟨rfl, hB⟩
                have B_1 := Lib.hid (hB)
                clear hB
                go_wp2_with fail
                refine (parse_ok _ a0 z0 HP0.out).mono ?_
                rintro e w2 ⟨aT, cT, rfl, hb, hR, hB⟩
                clear hb
                have B_2 := Lib.hid (B_1.out.trans (hB.mono B_1.out.size))
                have RT_2 := Lib.hid hR
                clear hB hR B_1
                go_wp2_with fail
                refine (parse_ok _ a1 z1 HP1.out).mono ?_
                rintro e w3 ⟨aU, cU, rfl, hb, hR, hB⟩
                clear hb
                have RT_3 := Lib.hid (RT_2.out.low hB)
                have B_3 := Lib.hid (B_2.out.trans (hB.mono B_2.out.size))
                have RU_3 := Lib.hid hR
                clear hB hR RT_2 B_2
                go_wp2_with fail
                refine (parse_ok _ a2 z2 HP2.out).mono ?_
                rintro e w4 ⟨aV, cV, rfl, hb, hR, hB⟩
                clear hb
                have RT_4 := Lib.hid (RT_3.out.low hB)
                have RU_4 := Lib.hid (RU_3.out.low hB)
                have B_4 := Lib.hid (B_3.out.trans (hB.mono B_3.out.size))
                have RV_4 := Lib.hid hR
                clear hB hR RT_3 RU_3 B_3
                clear RT_4
                clear RU_4
                clear RV_4
                go_wp2
                go_ret
                exact ⟨rfl, B_4.out⟩
              · have f2 : decide ((300 : Int) < (a2.size : Int)) = false := by rw [decide_eq_false_iff_not]; omega
                have ST := Lib.hid (small_parse hp0)
                have SU := Lib.hid (small_parse hp1)
                have SV := Lib.hid (small_parse hp2)
                obtain ⟨tm, _, tl, _⟩ := parse_made hp0
                obtain ⟨um, _, ul, _⟩ := parse_made hp1
                obtain ⟨vm, _, vl, _⟩ := parse_made hp2
                have e0 : a0.data.toList.length = a0.size := by rw [Array.length_toList]; rfl
                have e1 : a1.data.toList.length = a1.size := by rw [Array.length_toList]; rfl
                have e2 : a2.data.toList.length = a2.size := by rw [Array.length_toList]; rfl
                obtain ⟨p1, q1, r1⟩ := small_Fill a3 (n := 300) (.inl tm) um (by omega) (by omega) (by omega)
                obtain ⟨p2, _, r2⟩ := small_Fill a4 (n := 90000) (.inr p1) vm (by omega) (by omega) (by omega)
                obtain ⟨p3, q3, r3⟩ := small_Fill a4 (n := 300) (.inl tm) vm (by omega) (by omega) (by omega)
                obtain ⟨p4, _, r4⟩ := small_Fill a3 (n := 90000) (.inr p3) um (by omega) (by omega) (by omega)
                have SY1 := Lib.hid r1
                have SY2 := Lib.hid r2
                have SY3 := Lib.hid r3
                have SY4 := Lib.hid r4
                have EQ : Hid (a4 ∉ metasT u → a3 ∉ metasT v → decide (canonS (fillT a4 v (fillT a3 u t)) = canonS (fillT a3 u (fillT a4 v t))) = true) := Lib.hid (fun h k => by
                  rw [decide_eq_true_eq]
                  unfold canonS
                  rw [canon_congr p2.1 p4.1 (fill_order a3 a4 t u v tm.1 um.1 vm.1 hab h k)])
                have EG : Hid (a3 ∉ metasT u → a3 ∉ metasT (fillT a3 u t)) := Lib.hid (fun h => fill_gone a3 t u tm.1 um.1 h)
                have FLMU : Hid ((metasT u).length ≤ 1099511627776) := Lib.hid (by have := metasT_len u; omega)
                have FLMV : Hid ((metasT v).length ≤ 1099511627776) := Lib.hid (by have := metasT_len v; omega)
                obtain ⟨L, hL⟩ : ∃ L : List Int, metasT u ++ metasT v = L := ⟨_, rfl⟩
                have FL4 : L.length ≤ 8000 := by have := metasT_len u; have := metasT_len v; rw [← hL, List.length_append]; omega
                have HL := Lib.hid hL
                have FL5 : (metasT (fillT a3 u t)).length ≤ 90000 := by have := metasT_len (fillT a3 u t); omega
                clear hp0 hp1 hp2 tm um vm tl ul vl e0 e1 e2 p1 p2 p3 p4 q1 q3 r1 r2 r3 r4 h0 h1 h2 hab hL
                
                go_enter Tryd.func7, Tryd.ntmps7
                go_wp2_with fail
                refine (awake_any _ HT.out).mono ?_
                rintro e w1 ⟨rfl, hB⟩
                have B_1 := Lib.hid (hB)
                clear hB
                go_wp2_with fail
                refine (parse_ok _ a0 z0 HP0.out).mono ?_
                rintro e w2 ⟨aT, cT, rfl, hb, hR, hB⟩
                clear hb
                have B_2 := Lib.hid (B_1.out.trans (hB.mono B_1.out.size))
                have RT_2 := Lib.hid hR
                clear hB hR B_1
                go_wp2_with fail
                refine (parse_ok _ a1 z1 HP1.out).mono ?_
                rintro e w3 ⟨aU, cU, rfl, hb, hR, hB⟩
                clear hb
                have RT_3 := Lib.hid (RT_2.out.low hB)
                have B_3 := Lib.hid (B_2.out.trans (hB.mono B_2.out.size))
                have RU_3 := Lib.hid hR
                clear hB hR RT_2 B_2
                go_wp2_with fail
                refine (parse_ok _ a2 z2 HP2.out).mono ?_
                rintro e w4 ⟨aV, cV, rfl, hb, hR, hB⟩
                clear hb
                have RT_4 := Lib.hid (RT_3.out.low hB)
                have RU_4 := Lib.hid (RU_3.out.low hB)
                have B_4 := Lib.hid (B_3.out.trans (hB.mono B_3.out.size))
                have RV_4 := Lib.hid hR
                clear hB hR RT_3 RU_3 B_3
                go_upto_region 7 with fail
                go_cut [18] from 70 to 74 (fun s wx => ∃ (a : Option Addr) (c : Nat), s = .slice a L.length c ∧ wx.ownsRow (w4.alloc (.cells #[.int .i64 v.kind, .string v.name, .int .i64 v.n, .slice aV v.args.length cV] 25)).heap.size 3 1 s L.length (L.map (Value.int .i64)) ∧ Below (w4.alloc (.cells #[.int .i64 v.kind, .string v.name, .int .i64 v.n, .slice aV v.args.length cV] 25)).heap.size (w4.alloc (.cells #[.int .i64 v.kind, .string v.name, .int .i64 v.n, .slice aV v.args.length cV] 25)) wx)
                case first =>
                  have l0 := RU_4.out.k.c0
                  have l1 := RU_4.out.k.c1
                  have l2 := RU_4.out.k.c2
                  have l3 := RU_4.out.k.c3
                  have m0 := RV_4.out.k.c0
                  have m1 := RV_4.out.k.c1
                  have m2 := RV_4.out.k.c2
                  have m3 := RV_4.out.k.c3
                  have HD := Lib.hid ((Below.refl (w4.alloc (.cells #[.int .i64 v.kind, .string v.name, .int .i64 v.n, .slice aV v.args.length cV] 25)).heap.size (w4.alloc (.cells #[.int .i64 v.kind, .string v.name, .int .i64 v.n, .slice aV v.args.length cV] 25))).drew)
                  have CF1 := Lib.hid (fun (W : World) (h : Below (w4.alloc (.cells #[.int .i64 v.kind, .string v.name, .int .i64 v.n, .slice aV v.args.length cV] 25)).heap.size (w4.alloc (.cells #[.int .i64 v.kind, .string v.name, .int .i64 v.n, .slice aV v.args.length cV] 25)) W) => metas_h (RU_4.out.low h).at_ SU.out)
                  have CF2 := Lib.hid (fun (W : World) (h : Below (w4.alloc (.cells #[.int .i64 v.kind, .string v.name, .int .i64 v.n, .slice aV v.args.length cV] 25)).heap.size (w4.alloc (.cells #[.int .i64 v.kind, .string v.name, .int .i64 v.n, .slice aV v.args.length cV] 25)) W) => metas_h (RV_4.out.low h).at_ SV.out)
                  have KD : Hid (∀ W : World, Below (w4.alloc (.cells #[.int .i64 v.kind, .string v.name, .int .i64 v.n, .slice aV v.args.length cV] 25)).heap.size (w4.alloc (.cells #[.int .i64 v.kind, .string v.name, .int .i64 v.n, .slice aV v.args.length cV] 25)) W → (W.cell? ⟨w3.heap.size, 0, none⟩ = some (.int .i64 u.kind) ∧ W.cell? ⟨w3.heap.size, 1, none⟩ = some (.string u.name) ∧ W.cell? ⟨w3.heap.size, 2, none⟩ = some (.int .i64 u.n) ∧ W.cell? ⟨w3.heap.size, 3, none⟩ = some (.slice aU u.args.length cU) ∧ W.cell? ⟨w4.heap.size, 0, none⟩ = some (.int .i64 v.kind) ∧ W.cell? ⟨w4.heap.size, 1, none⟩ = some (.string v.name) ∧ W.cell? ⟨w4.heap.size, 2, none⟩ = some (.int .i64 v.n) ∧ W.cell? ⟨w4.heap.size, 3, none⟩ = some (.slice aV v.args.length cV))) := Lib.hid (fun W h => ⟨(RU_4.out.low h).k.c0, (RU_4.out.low h).k.c1, (RU_4.out.low h).k.c2, (RU_4.out.low h).k.c3, (RV_4.out.low h).k.c0, (RV_4.out.low h).k.c1, (RV_4.out.low h).k.c2, (RV_4.out.low h).k.c3⟩)
                  go_region_held3 (fun w' => w'.cell? ⟨w3.heap.size, 0, none⟩ = some (.int .i64 u.kind) ∧ w'.cell? ⟨w3.heap.size, 1, none⟩ = some (.string u.name) ∧ w'.cell? ⟨w3.heap.size, 2, none⟩ = some (.int .i64 u.n) ∧ w'.cell? ⟨w3.heap.size, 3, none⟩ = some (.slice aU u.args.length cU) ∧ w'.cell? ⟨w4.heap.size, 0, none⟩ = some (.int .i64 v.kind) ∧ w'.cell? ⟨w4.heap.size, 1, none⟩ = some (.string v.name) ∧ w'.cell? ⟨w4.heap.size, 2, none⟩ = some (.int .i64 v.n) ∧ w'.cell? ⟨w4.heap.size, 3, none⟩ = some (.slice aV v.args.length cV))
                    (first | (with_reducible exact KD.out _ HX3.out) | (with_reducible exact KD.out _ HX2.out) | (with_reducible exact KD.out _ HX1.out) | (with_reducible exact KD.out _ HD.out))
                    (first
                      | (go_at_call 16; (with_reducible refine (CF1.out _ HD.out).mono ?_); rintro e x1 ⟨v1, rfl, own1, len1, hb1⟩; obtain ⟨ya, yc, rfl⟩ := own_form own1; have HX1 := Lib.hid (HD.out.trans (hb1.mono HD.out.size)); have O1 := Lib.hid own1; clear hb1 own1 len1)
                      | (go_at_call 16; (with_reducible refine (CF2.out _ HX1.out).mono ?_); rintro e x2 ⟨v2, rfl, own2, len2, hb2⟩; obtain ⟨za, zc, rfl⟩ := own_form own2; have HX2 := Lib.hid (HX1.out.trans (hb2.mono HX1.out.size)); have CA := Lib.hid (fun ty => append_metas ty (own_keep4 O1.out fun b hb => hb2.block b (O1.out.lt b hb).2) own2 (wi := (w4.alloc (.cells #[.int .i64 v.kind, .string v.name, .int .i64 v.n, .slice aV v.args.length cV] 25))) HX2.out (by simp) (by have := hb2.size; have := (HX1.out).size; simp at *; omega) FLMU.out FLMV.out HL.out); clear hb2 own2 len2)
                      | ((refine step_append_run (by rfl) _ _ _ (by rfl) (by rfl) (by rfl) (CA.out _) ?_); rintro v3 x3 ⟨own3, hb3⟩; obtain ⟨qa, qc, rfl⟩ := own_form own3; have HX3 := Lib.hid hb3; have O3 := Lib.hid own3; clear own3 hb3))
                  all_goals
                    go_wp2_with fail
                    go_meet
                    exact ⟨_, _, rfl, own_mono O3.out (by simp), HX3.out⟩
                obtain ⟨qa, qc, rfl, hO, hB⟩ := hcut
                have OL := Lib.hid (fill_metas_small hO (by omega) rfl)
                clear hO
                obtain ⟨wL, hwL⟩ : ∃ wL : World, wL = wc := ⟨_, rfl⟩
                subst hwL
                have RT_5 := Lib.hid (RT_4.out.low hB)
                have RU_5 := Lib.hid (RU_4.out.low hB)
                have RV_5 := Lib.hid (RV_4.out.low hB)
                have B_5 := Lib.hid (B_4.out.trans (hB.mono B_4.out.size))
                clear hB RT_4 RU_4 RV_4 B_4
                go_wp2
                go_loop [19] (fun x => ∃ k : Nat, x = .int .i64 k ∧ k ≤ L.length ∧ ∀ x ∈ L.take k, x ≠ a3 ∧ x ≠ a4) (fun x => L.length - (intOf x).toNat)
                case atStart => exact ⟨0, rfl, Nat.zero_le _, fun x h => by simp at h⟩
                case round =>
                  obtain ⟨k, rfl, hk, hall⟩ := hrel
                  have HA1 := Lib.hid hall
                  clear hall
                  by_cases hlt : k < L.length
                  · obtain ⟨b, off, rfl, hcell⟩ := OL.out k hlt
                    have z0 : (0 : Int) ≤ (k : Int) := by omega
                    have z1 : (k : Int) < (L.length : Int) := by omega
                    by_cases hx : L[k] = a3
                    · have y0 : (L[k] == a3) = true := by rw [hx]; simp
                      clear hx
                      go_wp2
                      go_ret
                      exact ⟨rfl, B_5.out⟩
                    · have y0 : (L[k] == a3) = false := by rw [beq_eq_false_iff_ne]; exact hx
                      by_cases hy : L[k] = a4
                      · have y1 : (L[k] == a4) = true := by rw [hy]; simp
                        clear hx hy
                        go_wp2
                        go_ret
                        exact ⟨rfl, B_5.out⟩
                      · have y1 : (L[k] == a4) = false := by rw [beq_eq_false_iff_ne]; exact hy
                        have st := Lib.hid (take_all_step hlt HA1.out ⟨hx, hy⟩)
                        clear hx hy
                        go_wp2
                        go_round
                        case rel => exact ⟨k + 1, by go_num, by omega, st.out⟩
                        case measure => simp [intOf]; omega
                  · obtain rfl : k = L.length := by omega
                    have hnot : ∀ x ∈ L, x ≠ a3 ∧ x ≠ a4 := by have := HA1.out; rwa [List.take_length] at this
                    rw [← HL.out] at hnot
                    have n1 : a4 ∉ metasT u := fun e => (hnot a4 (by simp [e])).2 rfl
                    have n2 : a3 ∉ metasT v := fun e => (hnot a3 (by simp [e])).1 rfl
                    have n3 : a3 ∉ metasT u := fun e => (hnot a3 (by simp [e])).1 rfl
                    have EE := Lib.hid (EQ.out n1 n2)
                    have NG := Lib.hid (EG.out n3)
                    clear EQ EG hnot n1 n2 n3 HA1
                    go_upto_region 13 with fail
                    go_cut [20] from 96 to 110 (fun s wx => s = .bool (decide (canonS (fillT a4 v (fillT a3 u t)) = canonS (fillT a3 u (fillT a4 v t)))) ∧ Below (wL).heap.size (wL) wx)
                    case first =>
                      have k0 := RT_5.out.k.c0
                      have k1 := RT_5.out.k.c1
                      have k2 := RT_5.out.k.c2
                      have k3 := RT_5.out.k.c3
                      have l0 := RU_5.out.k.c0
                      have l1 := RU_5.out.k.c1
                      have l2 := RU_5.out.k.c2
                      have l3 := RU_5.out.k.c3
                      have m0 := RV_5.out.k.c0
                      have m1 := RV_5.out.k.c1
                      have m2 := RV_5.out.k.c2
                      have m3 := RV_5.out.k.c3
                      have HD := Lib.hid ((Below.refl (wL).heap.size (wL)).drew)
                      have CP1 := Lib.hid (fun (W : World) (h : Below (wL).heap.size (wL) W) => fill_h a3 (RT_5.out.low h).at_ (RU_5.out.low h).at_ ST.out SU.out (tab_below HT.out (B_5.out.trans (h.mono B_5.out.size))))
                      have CP3 := Lib.hid (fun (W : World) (h : Below (wL).heap.size (wL) W) => fill_h a4 (RT_5.out.low h).at_ (RV_5.out.low h).at_ ST.out SV.out (tab_below HT.out (B_5.out.trans (h.mono B_5.out.size))))
                      have KD : Hid (∀ W : World, Below (wL).heap.size (wL) W → (W.cell? ⟨w2.heap.size, 0, none⟩ = some (.int .i64 t.kind) ∧ W.cell? ⟨w2.heap.size, 1, none⟩ = some (.string t.name) ∧ W.cell? ⟨w2.heap.size, 2, none⟩ = some (.int .i64 t.n) ∧ W.cell? ⟨w2.heap.size, 3, none⟩ = some (.slice aT t.args.length cT) ∧ W.cell? ⟨w3.heap.size, 0, none⟩ = some (.int .i64 u.kind) ∧ W.cell? ⟨w3.heap.size, 1, none⟩ = some (.string u.name) ∧ W.cell? ⟨w3.heap.size, 2, none⟩ = some (.int .i64 u.n) ∧ W.cell? ⟨w3.heap.size, 3, none⟩ = some (.slice aU u.args.length cU) ∧ W.cell? ⟨w4.heap.size, 0, none⟩ = some (.int .i64 v.kind) ∧ W.cell? ⟨w4.heap.size, 1, none⟩ = some (.string v.name) ∧ W.cell? ⟨w4.heap.size, 2, none⟩ = some (.int .i64 v.n) ∧ W.cell? ⟨w4.heap.size, 3, none⟩ = some (.slice aV v.args.length cV))) := Lib.hid (fun W h => ⟨(RT_5.out.low h).k.c0, (RT_5.out.low h).k.c1, (RT_5.out.low h).k.c2, (RT_5.out.low h).k.c3, (RU_5.out.low h).k.c0, (RU_5.out.low h).k.c1, (RU_5.out.low h).k.c2, (RU_5.out.low h).k.c3, (RV_5.out.low h).k.c0, (RV_5.out.low h).k.c1, (RV_5.out.low h).k.c2, (RV_5.out.low h).k.c3⟩)
                      go_region_held3 (fun w' => w'.cell? ⟨w2.heap.size, 0, none⟩ = some (.int .i64 t.kind) ∧ w'.cell? ⟨w2.heap.size, 1, none⟩ = some (.string t.name) ∧ w'.cell? ⟨w2.heap.size, 2, none⟩ = some (.int .i64 t.n) ∧ w'.cell? ⟨w2.heap.size, 3, none⟩ = some (.slice aT t.args.length cT) ∧ w'.cell? ⟨w3.heap.size, 0, none⟩ = some (.int .i64 u.kind) ∧ w'.cell? ⟨w3.heap.size, 1, none⟩ = some (.string u.name) ∧ w'.cell? ⟨w3.heap.size, 2, none⟩ = some (.int .i64 u.n) ∧ w'.cell? ⟨w3.heap.size, 3, none⟩ = some (.slice aU u.args.length cU) ∧ w'.cell? ⟨w4.heap.size, 0, none⟩ = some (.int .i64 v.kind) ∧ w'.cell? ⟨w4.heap.size, 1, none⟩ = some (.string v.name) ∧ w'.cell? ⟨w4.heap.size, 2, none⟩ = some (.int .i64 v.n) ∧ w'.cell? ⟨w4.heap.size, 3, none⟩ = some (.slice aV v.args.length cV))
                        (first | (with_reducible exact KD.out _ HX5.out) | (with_reducible exact KD.out _ HX4.out) | (with_reducible exact KD.out _ HX3.out) | (with_reducible exact KD.out _ HX2.out) | (with_reducible exact KD.out _ HX1.out) | (with_reducible exact KD.out _ HD.out))
                        (first
                          | (go_at_call 21; (with_reducible refine (CP1.out _ HD.out).mono ?_); rintro e x1 ⟨b1, d1, rfl, hA1, hb1⟩; have HX1 := Lib.hid (HD.out.trans (hb1.mono HD.out.size)); have HA1 := Lib.hid hA1; have CP2 := Lib.hid (fill_h a4 HA1.out (RV_5.out.low HX1.out).at_ SY1.out SV.out (tab_below HT.out (B_5.out.trans (HX1.out.mono B_5.out.size)))); clear hA1 hb1)
                          | (go_at_call 21; (with_reducible refine CP2.out.mono ?_); rintro e x2 ⟨b2, d2, rfl, hA2, hb2⟩; have HX2 := Lib.hid (HX1.out.trans (hb2.mono HX1.out.size)); have HA2 := Lib.hid hA2; clear hA2 hb2)
                          | (go_at_call 21; (with_reducible refine (CP3.out _ HX2.out).mono ?_); rintro e x3 ⟨b3, d3, rfl, hA3, hb3⟩; have HX3 := Lib.hid (HX2.out.trans (hb3.mono HX2.out.size)); have HA3 := Lib.hid hA3; have HA23 := Lib.hid (HA2.out.low hb3); have CP4 := Lib.hid (fill_h a3 HA3.out (RU_5.out.low HX3.out).at_ SY3.out SU.out (tab_below HT.out (B_5.out.trans (HX3.out.mono B_5.out.size)))); clear hA3 hb3)
                          | (go_at_call 21; (with_reducible refine CP4.out.mono ?_); rintro e x4 ⟨b4, d4, rfl, hA4, hb4⟩; have HX4 := Lib.hid (HX3.out.trans (hb4.mono HX3.out.size)); have CS := Lib.hid (same_h (HA23.out.low hb4) hA4 SY2.out SY4.out (tab_below HT.out (B_5.out.trans (HX4.out.mono B_5.out.size)))); clear hA4 hb4)
                          | (go_at_call 12; (with_reducible refine CS.out.mono ?_); rintro e x5 ⟨rfl, hb5⟩; have HX5 := Lib.hid (HX4.out.trans (hb5.mono HX4.out.size)); clear hb5))
                      all_goals
                        go_wp2_with fail
                        go_meet
                        exact ⟨rfl, HX5.out⟩
                    obtain ⟨rfl, hB⟩ := hcut
                    rw [EE.out]
                    have RT_6 := Lib.hid (RT_5.out.low hB)
                    have RU_6 := Lib.hid (RU_5.out.low hB)
                    have RV_6 := Lib.hid (RV_5.out.low hB)
                    have B_6 := Lib.hid (B_5.out.trans (hB.mono B_5.out.size))
                    clear hB RT_5 RU_5 RV_5 B_5
                    obtain ⟨wM, hwM⟩ : ∃ wM : World, wM = wc := ⟨_, rfl⟩
                    subst hwM
                    have k0 := RT_6.out.k.c0
                    have k1 := RT_6.out.k.c1
                    have k2 := RT_6.out.k.c2
                    have k3 := RT_6.out.k.c3
                    have l0 := RU_6.out.k.c0
                    have l1 := RU_6.out.k.c1
                    have l2 := RU_6.out.k.c2
                    have l3 := RU_6.out.k.c3
                    have C := Lib.hid (fill_h a3 RT_6.out.at_ RU_6.out.at_ ST.out SU.out (tab_below HT.out B_6.out))
                    go_wp2_with fail
                    refine C.out.mono ?_
                    rintro e w7 ⟨a9, c9, rfl, hA, hB⟩
                    have HA := Lib.hid hA
                    clear C hA k0 k1 k2 k3 l0 l1 l2 l3
                    have RT_7 := Lib.hid (RT_6.out.low hB)
                    have RU_7 := Lib.hid (RU_6.out.low hB)
                    have RV_7 := Lib.hid (RV_6.out.low hB)
                    have B_7 := Lib.hid (B_6.out.trans (hB.mono B_6.out.size))
                    clear hB RT_6 RU_6 RV_6 B_6
                    have C := Lib.hid (metas_h HA.out SY1.out)
                    go_wp2_with fail
                    refine C.out.mono ?_
                    rintro e w8 ⟨v3, rfl, own3, _, hB⟩
                    obtain ⟨va, vc, rfl⟩ := own_form own3
                    have OM := Lib.hid (fill_metas_small own3 (by omega) rfl)
                    clear C own3 HA
                    have RT_8 := Lib.hid (RT_7.out.low hB)
                    have RU_8 := Lib.hid (RU_7.out.low hB)
                    have RV_8 := Lib.hid (RV_7.out.low hB)
                    have B_8 := Lib.hid (B_7.out.trans (hB.mono B_7.out.size))
                    clear hB RT_7 RU_7 RV_7 B_7
                    generalize metasT (fillT a3 u t) = L2 at *
                    go_wp2
                    go_loop [22] (fun x => ∃ k : Nat, x = .int .i64 k ∧ k ≤ L2.length) (fun x => L2.length - (intOf x).toNat)
                    case atStart => exact ⟨0, rfl, Nat.zero_le _⟩
                    case round =>
                      obtain ⟨k, rfl, hk⟩ := hrel
                      by_cases hlt : k < L2.length
                      · obtain ⟨b, off, rfl, hcell⟩ := OM.out k hlt
                        have z0 : (0 : Int) ≤ (k : Int) := by omega
                        have z1 : (k : Int) < (L2.length : Int) := by omega
                        have y0 : (L2[k] == a3) = false := by rw [beq_eq_false_iff_ne]; exact fun e => NG.out (by rw [← e]; exact List.getElem_mem hlt)
                        go_wp2
                        go_round
                        case rel => exact ⟨k + 1, by go_num, by omega⟩
                        case measure => simp [intOf]; omega
                      · obtain rfl : k = L2.length := by omega
                        go_wp2
                        go_ret
                        exact ⟨rfl, B_8.out⟩

end Go.Proofs.YtifaaihekgnhiaaDoor.Tp

/-
  The law TypesFilled: for every three texts and every two numbers it returns true; they read as before. No conditions; the card ties the library's tables to the program's text.
-/
namespace Go.Proofs.YtifaaihekgnhiaaDoor.typesFilled
open Go.ChangeShapes Go.WideShapes Go.ChangeAt Go.WideMaps Go.WideElems Go.RowKit
open Go.ChangeMaps (open_string shut_string)
open Tp (Tab laidL tab_of_laid door_met own laidOut)

/-! ### the row's step, as the kit's worked example (a law over laid variables) has it -/
set_option linter.unusedVariables false in
set_option maxRecDepth 100000 in
theorem lifted (os : Os) (started : os.Started) (H : Type) (enc : TypeId × Value → H) :
    ReturnsInHanded {} Tryd.checked os 7 .any (fun w args => (Rows.typesFilledSpec.pre enc Tryd.prog Tryd.f7 [] false w args ∧ laidMetH Tryd.prog laidL w) ∧ sizedMet enc Tryd.prog Tryd.f7 (OpenSpec.ofChange Rows.typesFilledSpec) false w args)
      (Rows.typesFilledSpec.post enc Tryd.prog Tryd.f7 false true false false) := by
  refine returnsInHanded_of_change_and (C := Tryd.checked) (X := fun w _ => laidMetH Tryd.prog laidL w) (fun _ _ _ hh h => h.of_heap hh) own started (by kernel_rfl) Tryd.func7
    (ChangeSpec.witness_shaped (enc := enc) (C := Tryd.checked) (os := os) (X := fun w _ => laidMetH Tryd.prog laidL w) false (World.doorLaid Tryd.prog 400 os) #[.string ByteArray.empty, .string ByteArray.empty, .string ByteArray.empty, .int .i64 0, .int .i64 0] 8 rfl (World.shaped_of_RefB (by kernel_rfl) (by kernel_rfl)) (by kernel_rfl) (by kernel_rfl) (by kernel_rfl) (door_met os _)) ?_
  intro W base args ds gs before hval0 hW _ _ hL _
  have hval : ∀ (j : Nat) t v, Tryd.f7.params[j]? = some t → args[j]? = some v → Value.okWide Tryd.prog W .any base t v := hval0
  have hW' := hW
  obtain ⟨p, q, hA0, hV, rfl, hfz, hnd⟩ := hW
  have hA : DataW.TrodAll enc Tryd.prog W 0 (fun _ => true) true Tryd.f7.params.toList args.toList ds p := hA0
  rw [Tryd.params7] at hA hval
  obtain ⟨v0, vs0, d0, ds0, p0, q0, hargs, rfl, rfl, h0, r0⟩ := trodAll_cons hA
  obtain ⟨v1, vs1, d1, ds1, p1, q1, rfl, rfl, rfl, h1, r1⟩ := trodAll_cons r0
  obtain ⟨v2, vs2, d2, ds2, p2, q2, rfl, rfl, rfl, h2, r2⟩ := trodAll_cons r1
  obtain ⟨v3, vs3, d3, ds3, p3, q3, rfl, rfl, rfl, h3, r3⟩ := trodAll_cons r2
  obtain ⟨v4, vs4, d4, ds4, p4, q4, rfl, rfl, rfl, h4, r4⟩ := trodAll_cons r3
  obtain ⟨rfl, rfl, rfl⟩ := trodAll_nil r4
  obtain rfl : args = #[v0, v1, v2, v3, v4] := by cases args; simp_all
  obtain ⟨rfl, rfl⟩ := trodVars_none hV
  obtain ⟨a0, rfl, rfl, rfl, w0⟩ := open_string Tryd.underlying9 (hval 0 9 v0 rfl rfl) h0
  obtain ⟨a1, rfl, rfl, rfl, w1⟩ := open_string Tryd.underlying9 (hval 1 9 v1 rfl rfl) h1
  obtain ⟨a2, rfl, rfl, rfl, w2⟩ := open_string Tryd.underlying9 (hval 2 9 v2 rfl rfl) h2
  obtain ⟨a3, rfl, rfl, rfl, w3⟩ := open_int Tryd.underlying3 (hval 3 3 v3 rfl rfl) h3
  obtain ⟨a4, rfl, rfl, rfl, w4⟩ := open_int Tryd.underlying3 (hval 4 3 v4 rfl rfl) h4
  clear hA0 hval0
  refine (Tp.typesFilled_walk a0 w0 a1 w1 a2 w2 a3 w3 a4 w4 W (tab_of_laid hL)).mono fun e W' ⟨he, bel⟩ => ?_
  subst he
  exact ⟨_, rfl, _, _, _, [], _, [], hW', trodAll_mk1 (shut_bool Tryd.underlying4 _), (trodAll_cons_mk (shut_string Tryd.underlying9 w0) (trodAll_cons_mk (shut_string Tryd.underlying9 w1) (trodAll_cons_mk (shut_string Tryd.underlying9 w2) (trodAll_cons_mk (shut_int Tryd.underlying3 w3) (trodAll_cons_mk (shut_int Tryd.underlying3 w4) trodAll_mk0))))), rfl, bel.frame _, fun h => by cases h⟩

theorem row_holds : Rows.TypesFilledSaid :=
  OpenClaim.holds_of_wide 7 Tryd.f7 rfl rfl rfl rfl rfl rfl rfl ⟨rfl, rfl, rfl, rfl, rfl⟩ rfl rfl rfl rfl rfl (by kernel_rfl) Tryd.func7 (by kernel_rfl)
    (of_decide_eq_true (by kernel_rfl)) (by unfold Func.isWrapper; first | (rw [if_pos (by decide +kernel)]; kernel_rfl) | (rw [if_neg (by decide +kernel)]; exact ⟨rfl, rfl⟩))
    (fun os started H enc _ => lifted os started H enc)

/-- THE STATEMENT: the row, tied to the program's text. -/
theorem proved : Rows.TypesFilledCardSaid :=
  Claim7.holds_tied_plain_at .later [] [.data, .data, .data, .sentinel, .sentinel] true Rows.typesFilledCard.stood.harness true
    row_holds (fun _ h => by cases h) (by kernel_rfl) (fun _ h => by cases h) typesFilled_row_tie rfl ⟨rfl, rfl⟩ (by kernel_rfl) rfl
    (fun f fn hf hfn => by
      obtain rfl : f = 7 := Option.some.inj ((show Tryd.prog.funcNamed "savant/savantlaw02.TypesFilled" = some 7 by kernel_rfl).symm.trans hf) |>.symm
      obtain rfl : fn = Tryd.f7 := (Option.some.inj (Tryd.func7.symm.trans hfn)).symm
      exact ⟨by kernel_rfl, fun j t ht => by
        rw [Tryd.params7] at ht
        have hm : t ∈ [9, 9, 9, 3, 3] := by simpa using Array.mem_of_getElem? ht
        have hall : ([9, 9, 9, 3, 3].all fun u => !Tryd.prog.wantsStandIn u) = true := by kernel_rfl
        exact (show Tryd.prog.wantsStandIn t = false by simpa using List.all_eq_true.1 hall t hm)⟩)
    (by kernel_rfl)
#print axioms proved
end Go.Proofs.YtifaaihekgnhiaaDoor.typesFilled

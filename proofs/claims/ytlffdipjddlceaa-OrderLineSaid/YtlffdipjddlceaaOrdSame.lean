/- The contracts of few and same. -/
import Derived.Test.YtlffdipjddlceaaOrdMem
import Derived.BigQuiet
namespace Go.Proofs.Ytlffdipjddlceaa
open Go.RowKit

def fewL (zss : List (List Int)) (most : Int) : Bool := decide ((zss.length : Int) ≤ most) && zss.all fun zs => decide ((zs.length : Int) ≤ most)

theorem all_take_succ {α : Type} (l : List α) (p : α → Bool) (k : Nat) (h : k < l.length) : (l.take (k + 1)).all p = ((l.take k).all p && p l[k]) := by
  rw [List.take_add_one, List.getElem?_eq_getElem h, List.all_append]; simp only [Option.toList_some, List.all_cons, List.all_nil, Bool.and_true]

theorem all_of_take {α : Type} (l : List α) (p : α → Bool) (k : Nat) (h : (l.take k).all p = false) : l.all p = false := by
  rw [Bool.eq_false_iff] at h ⊢
  intro e
  apply h
  rw [List.all_eq_true] at e ⊢
  exact fun x hx => e x (List.mem_of_mem_take hx)

set_option maxHeartbeats 800000 in
theorem few_any (n₀ : Nat) (v : Value) (zss : List (List Int)) (x : Int) (w : World) (hI : RowsAt n₀ w v zss) :
    Calls Try.prog 8 #[v, .int .i64 x] w fun e w' => e = .returned (.bool (fewL zss x)) ∧ w = w' := by
  obtain ⟨a, cap, rfl, hlen, hc⟩ := hI
  go_enter Try.func8, Try.ntmps8
  by_cases h0 : (zss.length : Int) ≤ x
  · have f0 : decide ((zss.length : Int) > x) = false := by simpa using h0
    go_wp2
    go_loop [5] (fun i => ∃ k : Nat, k ≤ zss.length ∧ i = .int .i64 k ∧ (zss.take k).all (fun zs => decide ((zs.length : Int) ≤ x)) = true) (fun i => zss.length - (intOf i).toNat)
    case atStart => exact ⟨0, Nat.zero_le _, rfl, by simp⟩
    case round =>
      obtain ⟨k, hk, rfl, hb⟩ := hrel
      have H := Lib.hid hb; clear hb
      by_cases hlt : k < zss.length
      · obtain ⟨b, off, rfl, hb, hcc⟩ := hc (by omega)
        obtain ⟨rv, hcx, a1, cap1, rfl, hl1, _⟩ := hcc k hlt
        have st := all_take_succ zss (fun zs => decide ((zs.length : Int) ≤ x)) k hlt
        rw [H.out, Bool.true_and] at st
        clear hcc hc
        by_cases hx : (zss[k].length : Int) ≤ x
        · have f1 : decide ((zss[k].length : Int) > x) = false := by simpa using hx
          rw [decide_eq_true hx] at st
          have S := Lib.hid st; clear st
          go_wp2
          go_round
          case rel => exact ⟨k + 1, by omega, by go_num, S.out⟩
          case measure => simp [intOf]; omega
        · have f1 : decide ((zss[k].length : Int) > x) = true := by simpa using hx
          have hall : fewL zss x = false := by
            unfold fewL
            rw [decide_eq_false hx] at st
            rw [all_of_take _ _ _ st, Bool.and_false]
          have G := Lib.hid hall; clear hall st
          go_wp2
          go_ret
          exact ⟨ret_bool G.out.symm, rfl⟩
      · obtain rfl : k = zss.length := by omega
        have hall : fewL zss x = true := by
          have := H.out
          rw [List.take_length] at this
          unfold fewL
          rw [this, decide_eq_true h0, Bool.and_true]
        have G := Lib.hid hall; clear hall
        go_wp2
        go_ret
        exact ⟨ret_bool G.out.symm, rfl⟩
  · have f0 : decide ((zss.length : Int) > x) = true := by simpa using h0
    have hall : fewL zss x = false := by unfold fewL; rw [decide_eq_false h0, Bool.false_and]
    have G := Lib.hid hall; clear hall
    go_wp2
    go_ret
    exact ⟨ret_bool G.out.symm, rfl⟩

theorem take_eq_succ {α : Type} (l m : List α) (k : Nat) (h : k < l.length) (h' : k < m.length) (e : l.take k = m.take k) (e' : l[k] = m[k]) : l.take (k + 1) = m.take (k + 1) := by
  rw [List.take_add_one, List.take_add_one, List.getElem?_eq_getElem h, List.getElem?_eq_getElem h', e, e']

theorem take_all {α : Type} [BEq α] (l : List α) : l.take l.length = l := List.take_length

set_option maxHeartbeats 1600000 in
theorem same_any (n₀ : Nat) (va vb : Value) (xs ys : List (List Int)) (w : World) (hA : RowsAt n₀ w va xs) (hB : RowsAt n₀ w vb ys) :
    Calls Try.prog 11 #[va, vb] w fun e w' => e = .returned (.bool (decide (xs = ys))) ∧ ∃ n, w' = w.drewN n := by
  obtain ⟨a, cap, rfl, hlen, hc⟩ := hA
  obtain ⟨a', cap', rfl, hlen', hc'⟩ := hB
  go_enter Try.func11, Try.ntmps11
  by_cases h0 : xs.length = ys.length
  · have f0 : ((xs.length : Int) != ys.length) = false := by rw [h0]; simp
    go_wp2
    go_loopw [5] (fun i wr => ∃ k : Nat, k ≤ xs.length ∧ i = .int .i64 k ∧ xs.take k = ys.take k ∧ ∃ n, wr = w.drewN n) (fun i _ => xs.length - (intOf i).toNat)
    case atStart => exact ⟨0, Nat.zero_le _, rfl, by simp, 0, rfl⟩
    case round =>
      obtain ⟨k, hk, rfl, hb, n, rfl⟩ := hrel
      have H := Lib.hid hb; clear hb
      by_cases hlt : k < xs.length
      · obtain ⟨b, off, rfl, hb, hcc⟩ := hc (by omega)
        obtain ⟨rv, hcx, a1, cap1, rfl, hl1, hr1⟩ := hcc k hlt
        have hlt' : k < ys.length := by omega
        obtain ⟨b', off', rfl, hb', hcc'⟩ := hc' (by omega)
        obtain ⟨rv', hcx', a1', cap1', rfl, hl1', hr1'⟩ := hcc' k hlt'
        have z0 : (0 : Int) ≤ (k : Int) := by omega
        have z1 : (k : Int) < (xs.length : Int) := by omega
        have z2 : (k : Int) < (ys.length : Int) := by omega
        have R1 := Lib.hid hr1
        have R2 := Lib.hid hr1'
        clear hcc hc hcc' hc' hr1 hr1'
        by_cases hx : xs[k].length = ys[k].length
        · have f1 : ((xs[k].length : Int) != ys[k].length) = false := by rw [hx]; simp
          go_wp2
          go_quiet (fail)
          go_wp2
          go_loopw [6] (fun i wr => ∃ j : Nat, j ≤ xs[k].length ∧ i = .int .i64 j ∧ xs[k].take j = ys[k].take j ∧ ∃ n, wr = w.drewN n) (fun i _ => xs[k].length - (intOf i).toNat)
          case atStart => exact ⟨0, Nat.zero_le _, rfl, by simp, _, by first | rfl | exact World.drewN_drewN _ _ _⟩
          case round =>
            obtain ⟨j, hj, rfl, hbj, n, rfl⟩ := hrel
            have HJ := Lib.hid hbj; clear hbj
            by_cases hltj : j < xs[k].length
            · have hltj' : j < ys[k].length := by omega
              obtain ⟨c, offc, rfl, _, hcd⟩ := R1.out (by omega)
              obtain ⟨c', offc', rfl, _, hcd'⟩ := R2.out (by omega)
              have hcy := hcd j hltj
              have hcy' := hcd' j hltj'
              have y0 : (0 : Int) ≤ (j : Int) := by omega
              have y1 : (j : Int) < (xs[k].length : Int) := by omega
              have y2 : (j : Int) < (ys[k].length : Int) := by omega
              clear hcd hcd'
              by_cases hy : xs[k][j] = ys[k][j]
              · have f2 : (xs[k][j] != ys[k][j]) = false := by rw [hy]; simp
                have st := Lib.hid (take_eq_succ _ _ j hltj hltj' HJ.out hy)
                clear hy
                go_wp2
                go_quiet (fail)
                go_wp2
                go_roundw
                case rel => exact ⟨j + 1, by omega, by go_num, st.out, _, by first | rfl | exact World.drewN_drewN _ _ _⟩
                case measure => simp [intOf]; omega
              · have f2 : (xs[k][j] != ys[k][j]) = true := by simpa using hy
                have hall : decide (xs = ys) = false := by
                  apply decide_eq_false; intro e; subst e; exact hy rfl
                have G := Lib.hid hall; clear hall hy
                go_wp2
                go_quiet (fail)
                go_wp2
                go_ret
                exact ⟨ret_bool G.out.symm, _, by first | rfl | exact World.drewN_drewN _ _ _⟩
            · obtain rfl : j = xs[k].length := by omega
              have hrow : xs[k] = ys[k] := by
                have := HJ.out
                rwa [List.take_length, hx, List.take_length] at this
              have st := Lib.hid (take_eq_succ _ _ k hlt hlt' H.out hrow)
              clear hrow
              go_wp2
              go_roundw
              case rel => exact ⟨k + 1, by omega, by go_num, st.out, _, rfl⟩
              case measure => simp [intOf]; omega
        · have f1 : ((xs[k].length : Int) != ys[k].length) = true := by
            simp only [bne_iff_ne, ne_eq]; omega
          have hall : decide (xs = ys) = false := by
            apply decide_eq_false; intro e; subst e; exact hx rfl
          have G := Lib.hid hall; clear hall
          go_wp2
          go_quiet (fail)
          go_wp2
          go_ret
          exact ⟨ret_bool G.out.symm, _, by first | rfl | exact World.drewN_drewN _ _ _⟩
      · obtain rfl : k = xs.length := by omega
        have hall : decide (xs = ys) = true := by
          have := H.out
          rw [List.take_length, h0, List.take_length] at this
          exact decide_eq_true this
        have G := Lib.hid hall; clear hall
        go_wp2
        go_ret
        exact ⟨ret_bool G.out.symm, _, rfl⟩
  · have f0 : ((xs.length : Int) != ys.length) = true := by simp only [bne_iff_ne, ne_eq]; omega
    have hall : decide (xs = ys) = false := by apply decide_eq_false; intro e; subst e; exact h0 rfl
    have G := Lib.hid hall; clear hall
    go_wp2
    go_ret
    exact ⟨ret_bool G.out.symm, 0, rfl⟩

end Go.Proofs.Ytlffdipjddlceaa

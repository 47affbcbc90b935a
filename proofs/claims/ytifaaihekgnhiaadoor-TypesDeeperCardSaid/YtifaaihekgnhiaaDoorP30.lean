/- Texts laid together: TyGrow, TyConcat. -/
import Derived.Test.YtifaaihekgnhiaaDoorP19
import Derived.Test.YtifaaihekgnhiaaDoorP16
import Derived.Lib.AppendZerosOnto
import Derived.OwnWalk
import Derived.Laws.AppendOwnNone

/- The walk of slices.Grow over no names. -/
namespace Go.Proofs.YtifaaihekgnhiaaDoor.Tp
open Go.RowKit

def GrowPost (w : World) (e : Ending) (w' : World) : Prop := ∃ cap, e = .returned (.slice (some ⟨w.heap.size, 0, none⟩) 0 cap) ∧ w'.ownsRow w.heap.size 9 1 (.slice (some ⟨w.heap.size, 0, none⟩) 0 cap) 0 [] ∧ Below w.heap.size w w'

set_option maxRecDepth 100000 in
set_option maxHeartbeats 800000 in
theorem grow_any (n : Nat) (h0 : 0 < n) (hn : n ≤ 1099511627776) (w : World) : Calls Tryd.prog 55 #[.slice none 0 0, .int .i64 n] w (GrowPost w) := by
  obtain ⟨i0, hi0, hz0, hz1, hz3⟩ := info_parts infoStr
  have hrun := fun ty => Lib.run_append_grow_zeros (P := Tryd.prog) w 33 3 ty 9 i0 _ .i64 .i64 Tryd.underlying33 Tryd.underlying3 hi0 hz0 none 0 0 [] (run_firstCells_none w.drew i0.size 0 0 0) n h0 (by omega) (by omega) (by omega) (by rw [hz3]; omega) (by rw [Nat.zero_add]; exact growslice_fits h0 (by rw [hz3]; omega))
  simp only [Nat.zero_add] at hrun
  have hcap := grownCap_ge w n 0 9
  have hcm := grownCap_le_maxLen w n 0 9 (by unfold maxLen; omega)
  generalize grownCap w n 0 9 = cap at *
  have hz : (Builtin.zeroCells (Value.cells (.string ByteArray.empty)) n ++ Builtin.zeroCells (Value.cells (.string ByteArray.empty)) (cap - n)).size = cap * 1 := by simp [Builtin.zeroCells, Value.cells]; omega
  generalize Builtin.zeroCells (Value.cells (.string ByteArray.empty)) n = Z1 at *
  generalize Builtin.zeroCells (Value.cells (.string ByteArray.empty)) (cap - n) = Z2 at *
  have HP : Hid (GrowPost w (.returned (.slice (some ⟨w.heap.size, 0, none⟩) 0 cap)) (w.alloc (.cells (Z1 ++ Z2) 9)).drew) :=
    Lib.hid ⟨cap, rfl, (World.ownsRow_made w _ cap (Nat.le_refl _) hcm hz).drew, ((Below.refl w.heap.size w).alloc (Nat.le_refl _) _).drew⟩
  have hc63 : cap ≤ 9223372036854775807 := by unfold maxLen at hcm; exact hcm
  clear hz hcm
  go_enter Tryd.func55, Tryd.ntmps55
  go_wp2_with (at_builtin; refine Lib.wpList_append_run _ rfl _ _ _ _ rfl _ _ rfl rfl _ _ (hrun _) ?_)
  all_goals (go_ret; exact HP.out)

end Go.Proofs.YtifaaihekgnhiaaDoor.Tp

/- The walk of slices.Concat over rows of names. -/
namespace Go.Proofs.YtifaaihekgnhiaaDoor.Tp
open Go.RowKit

def ConcatPost (w : World) (l : List ByteArray) (e : Ending) (w' : World) : Prop := ∃ v, e = .returned v ∧ w'.ownsRow w.heap.size 9 1 v l.length (l.map Value.string) ∧ Below w.heap.size w w'

theorem flat_take (ls : List (List ByteArray)) (i : Nat) (h : i < ls.length) : (ls.take (i + 1)).flatten = (ls.take i).flatten ++ ls[i] := by
  rw [List.take_succ_eq_append_getElem h, List.flatten_append]; simp
theorem flat_take_le (ls : List (List ByteArray)) (i : Nat) : (ls.take i).flatten.length ≤ ls.flatten.length := by
  conv => rhs; rw [← List.take_append_drop i ls, List.flatten_append, List.length_append]
  omega

set_option maxRecDepth 100000 in
set_option maxHeartbeats 3200000 in
theorem concat_any (S : Nat → Prop) (B off k : Nat) (vs : List Value) (ls : List (List ByteArray)) (w : World) (hk : vs.length = k) (hk2 : ls.length = k) (hk3 : k ≤ 1099511627776) (hc : ∀ j (h : j < vs.length), w.cell? ⟨B, off + j, none⟩ = some vs[j]) (hB : B < w.heap.size)
    (hs : ∀ j (h : j < vs.length) (h' : j < ls.length), StrsAt S w vs[j] ls[j]) (hS : ∀ b, S b → b < w.heap.size) (h0 : 0 < ls.flatten.length) (hl : ls.flatten.length ≤ 1099511627776) :
    Calls Tryd.prog 36 #[.slice (some ⟨B, off, none⟩) k k] w (ConcatPost w ls.flatten) := by
  have HC := Lib.hid hc
  have HS := Lib.hid hs
  have HSS := Lib.hid hS
  have HK := Lib.hid hk
  have HK2 := Lib.hid hk2
  clear hc hs hS hk hk2
  go_enter Tryd.func36, Tryd.ntmps36
  go_wp2
  go_loopw [3, 11] (fun sv iv wr => ∃ i : Nat, iv = .int .i64 i ∧ i ≤ k ∧ sv = .int .i64 (ls.take i).flatten.length ∧ wr = w) (fun _ iv _ => k - (intOf iv).toNat)
  case atStart => exact ⟨0, rfl, Nat.zero_le _, by simp, rfl⟩
  case round =>
    obtain ⟨i, rfl, hi, rfl, rfl⟩ := hrel
    by_cases hlt : i < k
    · have z1 : (0 : Int) ≤ (i : Int) := by omega
      have z2 : (i : Int) < (k : Int) := by omega
      have ht := flat_take ls i (by rw [HK2.out]; exact hlt)
      have ht1 := flat_take_le ls (i + 1)
      rw [ht, List.length_append] at ht1
      have hcc := HC.out i (by rw [HK.out]; exact hlt)
      obtain ⟨a, c, hv, h1, h2, h3, h4⟩ := HS.out i (by rw [HK.out]; exact hlt) (by rw [HK2.out]; exact hlt)
      rw [hv] at hcc
      have E : Hid ((ls.take (i + 1)).flatten.length = (ls.take i).flatten.length + (ls[i]'(by rw [HK2.out]; exact hlt)).length) := Lib.hid (by rw [ht, List.length_append])
      clear hv h1 h2 h3 h4 ht
      generalize hq : (ls[i]'(by rw [HK2.out]; exact hlt)).length = q at *
      generalize (ls.take i).flatten.length = m at *
      have HQ := Lib.hid hq
      clear hq
      go_wp2
      go_roundw
      case rel => exact ⟨i + 1, by go_num, by omega, by rw [E.out]; go_num, trivial⟩
      case measure => simp [intOf]; omega
    · obtain rfl : i = k := by omega
      have E : (ls.take i).flatten = ls.flatten := by rw [List.take_of_length_le (by rw [HK2.out]; exact Nat.le_refl _)]
      rw [E]
      have CG := Lib.hid (grow_any ls.flatten.length h0 hl wr)
      have EH := Lib.hid E
      clear E
      generalize hfl : ls.flatten.length = n at *
      have HFL := Lib.hid hfl
      clear hfl
      go_wp2_with fail
      refine CG.out.mono ?_
      rintro e w1 ⟨cap, rfl, ho, hb⟩
      have HO := Lib.hid ho
      have HBB := Lib.hid hb
      clear ho hb CG
      obtain ⟨wo, hwo⟩ : ∃ wo : World, wo = wr := ⟨_, rfl⟩
      subst hwo
      have hs1 : wo.heap.size ≤ w1.heap.size := HBB.out.size
      obtain ⟨i0, hi0, hz0, hz1, hz3⟩ := info_parts infoStr
      go_wp2
      go_loopw [6, 27] (fun uv iv wr => ∃ j : Nat, iv = .int .i64 j ∧ j ≤ i ∧ wr.ownsRow wo.heap.size 9 1 uv (ls.take j).flatten.length ((ls.take j).flatten.map Value.string) ∧ Below wo.heap.size wo wr) (fun _ iv _ => i - (intOf iv).toNat)
      case atStart => exact ⟨0, rfl, Nat.zero_le _, by simpa using HO.out, HBB.out⟩
      case round =>
        clear HO HBB hs1
        obtain ⟨j, rfl, hj, hown, hB2⟩ := hrel
        have hsw := hB2.size
        by_cases hlt2 : j < i
        · have z1 : (0 : Int) ≤ (j : Int) := by omega
          have z2 : (j : Int) < (i : Int) := by omega
          have ht := flat_take ls j (by rw [HK2.out]; exact hlt2)
          have ht1 := flat_take_le ls (j + 1)
          rw [ht, List.length_append, HFL.out] at ht1
          have hcc := (hB2.cell (p := ⟨B, off + j, none⟩) hB).trans (HC.out j (by rw [HK.out]; exact hlt2))
          obtain ⟨a, c, hv, h1, h2, h3, h4⟩ := (HS.out j (by rw [HK.out]; exact hlt2) (by rw [HK2.out]; exact hlt2)).keep fun b hb => hB2.block b (HSS.out b hb)
          rw [hv] at hcc
          have E2 := Lib.hid ht
          have HO := Lib.hid hown
          have HB2 := Lib.hid hB2
          generalize hq : ls[j]'(by rw [HK2.out]; exact hlt2) = q at *
          clear hv ht hown hB2 hq
          cases a with
          | none =>
            obtain rfl := h3 rfl
            have hq0 : q = [] := List.eq_nil_of_length_eq_zero (by omega)
            rw [hq0, List.append_nil] at E2
            rw [show q.length = 0 from by rw [hq0]; rfl] at hcc
            clear h1 h2 h3 h4 hq0
            go_wp2_with (at_builtin; refine wpList_append_own_none rfl _ _ _ rfl wo.heap.size 9 i0 1 Tryd.underlying33 hi0 _ _ _ rfl HO.out rfl ?_)
            go_roundw
            case rel => exact ⟨j + 1, by go_num, by omega, by rw [E2.out]; exact HO.out, HB2.out⟩
            case measure => simp [intOf]; omega
          | some ad =>
            have hnews : ∀ (o : Nat) (u : Value), (q.map Value.string)[o]? = some u → wr.cell? (ad.add o) = some u := fun o u ho => by
              rw [List.getElem?_map] at ho
              cases hg : q[o]? with
              | none => rw [hg] at ho; cases ho
              | some y =>
                rw [hg] at ho
                simp only [Option.map_some, Option.some.injEq] at ho
                subst ho
                rcases h4 with h4 | ⟨b, off2, e, hb, hcl⟩
                · rw [h4] at hg; cases hg
                · injection e with e
                  subst e
                  obtain ⟨hlo, hgl⟩ := List.getElem?_eq_some_iff.1 hg
                  have hadd : ∀ j, (⟨b, off2, none⟩ : Addr).add j = ⟨b, off2 + j, none⟩ := fun j => by unfold Addr.add; split <;> simp_all
                  rw [hadd, hcl o hlo, hgl]
            have HN := Lib.hid hnews
            clear h1 h2 h3 h4 hnews
            go_wp2_with (at_builtin; refine wpList_append_own _ rfl _ _ _ rfl wo.heap.size 9 i0 _ 1 16 Tryd.underlying33 hi0 hz0 hz1 hz3 rfl (by decide) _ _ _ rfl HO.out ad q.length c (q.map Value.string) rfl (by simp) HN.out (by simp [Value.oneCell']) (by unfold maxLen; omega) (by omega) (by omega) ?_; intro v' w' hown' hgrow' _)
            have B3 := Lib.hid (HB2.out.grown hgrow' (by omega) fun b hb => (HO.out.lt b hb).1)
            have O3 := Lib.hid hown'
            clear hown' hgrow'
            go_roundw
            case rel => exact ⟨j + 1, by go_num, by omega, by rw [E2.out, List.length_append, List.map_append]; exact O3.out, B3.out⟩
            case measure => simp [intOf]; omega
        · obtain rfl : j = i := by omega
          rw [EH.out] at hown
          rw [HFL.out] at hown
          have HO := Lib.hid hown
          have HB2 := Lib.hid hB2
          clear hown hB2
          go_wp2
          go_ret
          exact ⟨_, rfl, by rw [HFL.out]; exact HO.out, HB2.out⟩

end Go.Proofs.YtifaaihekgnhiaaDoor.Tp

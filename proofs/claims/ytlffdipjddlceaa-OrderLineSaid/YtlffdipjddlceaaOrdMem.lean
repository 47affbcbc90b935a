/- Slices of ints and slices of those in memory; the contracts of has, few, same. -/
import Derived.Test.YtlffdipjddlceaaRows
import Derived.WalkKit
import Derived.WalkLawsBesides
import Derived.WalkSpells
import Derived.Lib.Hide
namespace Go.Proofs.Ytlffdipjddlceaa
open Go.RowKit

theorem ret_bool {a b : Bool} (h : a = b) : Ending.returned (.bool a) = .returned (.bool b) := by rw [h]
theorem ret_int {k : IntKind} {a b : Int} (h : a = b) : Ending.returned (.int k a) = .returned (.int k b) := by rw [h]

/-- A slice value that holds the ints zs, its cells below n₀. -/
def IntsAt (n₀ : Nat) (w : World) (v : Value) (zs : List Int) : Prop :=
  ∃ a cap, v = .slice a zs.length cap ∧ zs.length ≤ 9223372036854775807 ∧ (0 < zs.length → ∃ b off, a = some ⟨b, off, none⟩ ∧ b < n₀ ∧ ∀ j (h : j < zs.length), w.cell? ⟨b, off + j, none⟩ = some (.int .i64 zs[j]))

/-- A slice value that holds the rows zss. -/
def RowsAt (n₀ : Nat) (w : World) (v : Value) (zss : List (List Int)) : Prop :=
  ∃ a cap, v = .slice a zss.length cap ∧ zss.length ≤ 9223372036854775807 ∧ (0 < zss.length → ∃ b off, a = some ⟨b, off, none⟩ ∧ b < n₀ ∧ ∀ j (h : j < zss.length), ∃ rv, w.cell? ⟨b, off + j, none⟩ = some rv ∧ IntsAt n₀ w rv zss[j])

theorem IntsAt.below {n₀ : Nat} {A B : World} (h : Below n₀ A B) {v : Value} {zs : List Int} (hi : IntsAt n₀ A v zs) : IntsAt n₀ B v zs := by
  obtain ⟨a, cap, rfl, hl, hc⟩ := hi
  refine ⟨a, cap, rfl, hl, fun h0 => ?_⟩
  obtain ⟨b, off, rfl, hb, hcc⟩ := hc h0
  exact ⟨b, off, rfl, hb, fun j hj => (h.cell (p := ⟨b, off + j, none⟩) hb).trans (hcc j hj)⟩

theorem IntsAt.mono {n₀ n₁ : Nat} (hn : n₀ ≤ n₁) {A : World} {v : Value} {zs : List Int} (hi : IntsAt n₀ A v zs) : IntsAt n₁ A v zs := by
  obtain ⟨a, cap, rfl, hl, hc⟩ := hi
  refine ⟨a, cap, rfl, hl, fun h0 => ?_⟩
  obtain ⟨b, off, rfl, hb, hcc⟩ := hc h0
  exact ⟨b, off, rfl, by omega, hcc⟩

theorem RowsAt.below {n₀ : Nat} {A B : World} (h : Below n₀ A B) {v : Value} {zss : List (List Int)} (hi : RowsAt n₀ A v zss) : RowsAt n₀ B v zss := by
  obtain ⟨a, cap, rfl, hl, hc⟩ := hi
  refine ⟨a, cap, rfl, hl, fun h0 => ?_⟩
  obtain ⟨b, off, rfl, hb, hcc⟩ := hc h0
  refine ⟨b, off, rfl, hb, fun j hj => ?_⟩
  obtain ⟨rv, h1, h2⟩ := hcc j hj
  exact ⟨rv, (h.cell (p := ⟨b, off + j, none⟩) hb).trans h1, h2.below h⟩

theorem RowsAt.mono {n₀ n₁ : Nat} (hn : n₀ ≤ n₁) {A : World} {v : Value} {zss : List (List Int)} (hi : RowsAt n₀ A v zss) : RowsAt n₁ A v zss := by
  obtain ⟨a, cap, rfl, hl, hc⟩ := hi
  refine ⟨a, cap, rfl, hl, fun h0 => ?_⟩
  obtain ⟨b, off, rfl, hb, hcc⟩ := hc h0
  refine ⟨b, off, rfl, by omega, fun j hj => ?_⟩
  obtain ⟨rv, h1, h2⟩ := hcc j hj
  exact ⟨rv, h1, h2.mono hn⟩

theorem IntsAt.drew {n₀ : Nat} {A : World} {v : Value} {zs : List Int} (hi : IntsAt n₀ A v zs) (n : Nat) : IntsAt n₀ (A.drewN n) v zs := hi
theorem RowsAt.drew {n₀ : Nat} {A : World} {v : Value} {zss : List (List Int)} (hi : RowsAt n₀ A v zss) (n : Nat) : RowsAt n₀ (A.drewN n) v zss := hi

theorem contains_take_succ (zs : List Int) (k : Nat) (h : k < zs.length) (x : Int) : (zs.take (k + 1)).contains x = ((zs.take k).contains x || (zs[k] == x)) := by
  rw [List.take_add_one, List.getElem?_eq_getElem h]
  simp only [Option.toList_some, List.contains_append, List.contains_cons, List.contains_nil, Bool.or_false]
  congr 1
  rw [Bool.eq_iff_iff, beq_iff_eq, beq_iff_eq]; exact ⟨Eq.symm, Eq.symm⟩

set_option maxHeartbeats 800000 in
theorem has_any (n₀ : Nat) (v : Value) (zs : List Int) (x : Int) (w : World) (hI : IntsAt n₀ w v zs) :
    Calls Try.prog 17 #[v, .int .i64 x] w fun e w' => e = .returned (.bool (zs.contains x)) ∧ w = w' := by
  obtain ⟨a, cap, rfl, hlen, hc⟩ := hI
  go_enter Try.func17, Try.ntmps17
  go_wp2
  go_loop [5] (fun i => ∃ k : Nat, k ≤ zs.length ∧ i = .int .i64 k ∧ (zs.take k).contains x = false) (fun i => zs.length - (intOf i).toNat)
  case atStart => exact ⟨0, Nat.zero_le _, rfl, by simp⟩
  case round =>
    obtain ⟨k, hk, rfl, hb⟩ := hrel
    have H := Lib.hid hb; clear hb
    by_cases hlt : k < zs.length
    · obtain ⟨b, off, rfl, hb, hcc⟩ := hc (by omega)
      have hcx := hcc k hlt
      have st := contains_take_succ zs k hlt x
      rw [H.out, Bool.false_or] at st
      by_cases hx : zs[k] = x
      · have f1 : (zs[k] == x) = true := by simpa using hx
        rw [f1] at st
        have S := Lib.hid st; clear st hx hcc hc
        have hall : zs.contains x = true := by
          have := S.out
          rw [List.contains_iff_mem] at this ⊢
          exact List.mem_of_mem_take this
        have G := Lib.hid hall; clear hall
        go_wp2
        go_ret
        exact ⟨ret_bool (by simpa using G.out), rfl⟩
      · have f1 : (zs[k] == x) = false := by simpa using hx
        rw [f1] at st
        have S := Lib.hid st; clear st hx hcc
        go_wp2
        go_round
        case rel => exact ⟨k + 1, by omega, by go_num, S.out⟩
        case measure => simp [intOf]; omega
    · obtain rfl : k = zs.length := by omega
      have hall : zs.contains x = false := by simpa using H.out
      have G := Lib.hid hall; clear hall
      go_wp2
      go_ret
      exact ⟨ret_bool (by simpa using G.out), rfl⟩

end Go.Proofs.Ytlffdipjddlceaa

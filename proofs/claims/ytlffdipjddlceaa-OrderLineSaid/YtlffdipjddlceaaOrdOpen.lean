/- A [][]int that came in, as rows of numbers. -/
import Derived.Test.YtlffdipjddlceaaOrdAwake
import Derived.Deep.Matrix
import Derived.ProofKit
import Derived.OpenShut
import Derived.ChangeOld
namespace Go.Proofs.Ytlffdipjddlceaa.Od
open Go.RowKit Go.ChangeShapes Go.WideShapes Go.Deep

theorem spot_none {w : World} {a : Addr} {v : Value} (h : w.cell? a = some v) : ∃ b off, a = ⟨b, off, none⟩ := by
  obtain ⟨b, off, sp⟩ := a
  cases sp with
  | none => exact ⟨b, off, rfl⟩
  | some x =>
    exfalso
    unfold World.cell? at h
    split at h <;> simp at h

theorem add_lit (b off i : Nat) : (⟨b, off, none⟩ : Addr).add i = ⟨b, off + i, none⟩ := by
  unfold Addr.add; split <;> simp_all

theorem opn0 {H : Type} {enc : TypeId × Value → H} {W : World} {base : Nat} {v : Value} {d : DataW H} {p : List MemPlace} (hok : Value.okWide Try.prog W .any base 22 v)
    (h : DataW.Trod enc Try.prog W 0 (fun _ => true) true 22 v d p) : ∃ zss, RowsAt W.heap.size W v zss := by
  obtain ⟨a0, len, cap, rfl⟩ := okWide_slice Try.underlying22 hok
  obtain ⟨fuel, hf⟩ := h
  rcases open_int_rows Try.underlying22 Try.underlying30 Try.underlying3 (by kernel_rfl) (by kernel_rfl) hf with ⟨hcs, _⟩ | ⟨x, l, c, A, L, C, Z, hcs, _, hl, hm, _, hcell⟩
  · simp [Value.cells] at hcs
    obtain ⟨rfl, rfl, rfl⟩ := hcs
    exact ⟨[], none, 0, rfl, by simp, fun h => absurd h (by simp)⟩
  · simp [Value.cells] at hcs
    obtain ⟨rfl, rfl, rfl⟩ := hcs
    unfold maxLen at hm
    refine ⟨(List.range len).map fun r => (Z r).take (L r), some x, cap, by simp, by simp; omega, fun h0 => ?_⟩
    have hlen : 0 < len := by simpa using h0
    obtain ⟨b, off, rfl⟩ := spot_none (a := x) (by have := (hcell 0 (by omega)).1; simpa [Addr.add] using this)
    have hb : b < W.heap.size := World.block_lt_of_cell? W _ (by have := (hcell 0 (by omega)).1; simpa [Addr.add] using this)
    refine ⟨b, off, rfl, hb, fun j hj => ?_⟩
    have hjl : j < len := by simpa using hj
    obtain ⟨c1, c2, c3, c4, _, c5, c6⟩ := hcell j (by omega)
    unfold maxLen at c3
    rw [add_lit] at c1
    have hzl : ((Z j).take (L j)).length = L j := by rw [List.length_take]; omega
    refine ⟨_, c1, A j, C j, ?_, ?_, fun h1 => ?_⟩
    · simp only [List.getElem_map, List.getElem_range, hzl]
    · simp only [List.getElem_map, List.getElem_range, hzl]; omega
    · simp only [List.getElem_map, List.getElem_range, hzl] at h1 ⊢
      rcases ha : A j with _ | a'
      · have := c5 ha; omega
      · obtain ⟨_, c7⟩ := c6 a' ha
        obtain ⟨b', off', rfl⟩ := spot_none (a := a') (by have := c7 0 (by omega); simpa [Addr.add] using this)
        have hb' : b' < W.heap.size := World.block_lt_of_cell? W _ (by have := c7 0 (by omega); simpa [Addr.add] using this)
        refine ⟨b', off', rfl, hb', fun i hi => ?_⟩
        have hil : i < L j := by omega
        have := c7 i (by omega)
        rw [add_lit] at this
        rw [this]
        simp [List.getD_eq_getElem?_getD, List.getElem?_eq_getElem (show i < (Z j).length by omega)]

theorem rows_nil {w : World} : RowsAt 0 w (.slice none 0 0) [] := ⟨none, 0, rfl, by simp, fun h => absurd h (by simp)⟩

theorem good_of {zss : List (List Int)} (h : ¬ Bad zss) : ∃ g, zss = rowsOf g ∧ Valid g ∧ g.length ≤ 500 := by
  have h1 : ¬ 500 < zss.length := fun e => h (.inl e)
  have h2 : ∀ r ∈ zss, ∀ x ∈ r, 0 ≤ x ∧ x < zss.length := fun r hr x hx => by
    rcases Classical.em (x < 0 ∨ (zss.length : Int) ≤ x) with e | e
    · exact absurd (.inr ⟨r, hr, x, hx, e⟩) h
    · omega
  obtain ⟨g, hg, hv, hl⟩ := good_rows h2
  exact ⟨g, hg, hv, by omega⟩

end Go.Proofs.Ytlffdipjddlceaa.Od

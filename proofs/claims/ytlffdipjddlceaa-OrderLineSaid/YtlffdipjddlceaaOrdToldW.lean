/- The walk of told: the groups in the told order. -/
import Derived.Test.YtlffdipjddlceaaOrdReady
import Derived.Deep.OwnRows
namespace Go.Proofs.Ytlffdipjddlceaa.Od
open Go.RowKit Go.Shelf Go.Deep

theorem Sccs.len {g gs : List (List Nat)} (h : Sccs g gs) : gs.length ≤ g.length := by
  have h1 := len_flatten gs fun q hq => (h.gso q hq).1
  have h2 := pigeon gs.flatten (List.range g.length) h.gnd (fun x hx => by
    obtain ⟨q, hq, hxq⟩ := List.mem_flatten.1 hx
    exact List.mem_range.2 ((h.all x).2 ⟨q, hq, hxq⟩))
  rw [List.length_range] at h2
  omega

theorem us_of {gs : List (List Nat)} {j : Nat} (h : j < gs.length) : gs[j]? = some (us gs j) := by rw [us_get h]; exact List.getElem?_eq_getElem h

theorem made_ints (n : Nat) : madeCells #[.int .i64 0] n = (cellsOf (List.replicate n 0)).toArray := by
  apply Array.ext_getElem?
  intro j
  have hs := size_madeCells #[.int .i64 0] n
  conv => rhs; rw [List.getElem?_toArray, cellsOf_get, List.getElem?_replicate]
  by_cases hj : j < n
  · rw [if_pos hj, Array.getElem?_eq_getElem (by omega)]
    simp [madeCells, Nat.mod_one]
  · rw [if_neg hj, Array.getElem?_eq_none (by omega)]; rfl

def boolsOf (m : Nat) (D : List Nat) : List Value := (List.range m).map fun j => .bool (D.contains j)

theorem made_bools (n : Nat) : madeCells #[.bool false] n = (boolsOf n []).toArray := by
  apply Array.ext_getElem?
  intro j
  have hs := size_madeCells #[.bool false] n
  conv => rhs; rw [List.getElem?_toArray]; unfold boolsOf; rw [List.getElem?_map]
  by_cases hj : j < n
  · rw [List.getElem?_range hj, Array.getElem?_eq_getElem (by omega)]
    simp [madeCells, Nat.mod_one]
  · rw [List.getElem?_eq_none (by simp; omega), Array.getElem?_eq_none (by omega)]; rfl

theorem boolsOf_set (m : Nat) (D : List Nat) (j : Nat) : (boolsOf m D).toArray.setIfInBounds j (.bool true) = (boolsOf m (D ++ [j])).toArray := by
  simp only [List.setIfInBounds_toArray, boolsOf]
  congr 1
  apply List.ext_getElem?
  intro i
  rw [List.getElem?_set]
  simp only [List.getElem?_map, List.length_map, List.length_range]
  by_cases hi : i < m
  · rw [List.getElem?_range hi]
    by_cases e : j = i
    · subst e; simp [hi]
    · rw [if_neg e]
      have : ¬ i = j := fun h => e h.symm
      simp [this]
  · have : (List.range m)[i]? = none := List.getElem?_eq_none (by simp; omega)
    rw [this]
    by_cases e : j = i
    · subst e; simp [hi]
    · rw [if_neg e]; rfl

theorem boolsOf_get (m : Nat) (D : List Nat) (j : Nat) (h : j < m) : (boolsOf m D)[j]? = some (.bool (D.contains j)) := by
  unfold boolsOf
  rw [List.getElem?_map, List.getElem?_range h]; rfl

/-- which group each thing is in, told for the groups ahead of jj and the first kk of that -/
structure Filled (gs : List (List Nat)) (n : Nat) (ofs : List Nat) (jj kk : Nat) : Prop where
  len : ofs.length = n
  ah : ∀ t, t < jj → ∀ i ∈ us gs t, ofs.getD i 0 = ofL gs i
  now : ∀ i ∈ (us gs jj).take kk, ofs.getD i 0 = ofL gs i

theorem Filled.start (gs : List (List Nat)) (n : Nat) : Filled gs n (List.replicate n 0) 0 0 := ⟨by simp, fun t h => by omega, by simp⟩

theorem Filled.set {g gs : List (List Nat)} (hS : Sccs g gs) {ofs : List Nat} {jj kk : Nat} (h : Filled gs g.length ofs jj kk) (hj : jj < gs.length) (hk : kk < (us gs jj).length) : Filled gs g.length (ofs.set (us gs jj)[kk] jj) jj (kk + 1) := by
  have hm : (us gs jj)[kk] ∈ us gs jj := List.getElem_mem hk
  have htake : (us gs jj).take (kk + 1) = (us gs jj).take kk ++ [(us gs jj)[kk]] := by rw [List.take_add_one, List.getElem?_eq_getElem hk]; rfl
  generalize (us gs jj)[kk] = x at *
  have hx : x < g.length := (hS.all x).2 ⟨_, List.mem_of_getElem? (us_of hj), hm⟩
  have hof := ofL_eq hS (us_of hj) hm
  have gd : ∀ i, (ofs.set x jj).getD i 0 = if i = x then jj else ofs.getD i 0 := fun i => getD_set _ _ _ _ (by rw [h.len]; exact hx)
  refine ⟨by simpa using h.len, fun t ht i hi => ?_, fun i hi => ?_⟩
  · rw [gd]; split
    · next e => subst e; exact hof.symm
    · exact h.ah t ht i hi
  · rw [gd]; split
    · next e => subst e; exact hof.symm
    · next e =>
      rw [htake] at hi
      rcases List.mem_append.1 hi with hi | hi
      · exact h.now i hi
      · exact absurd (List.mem_singleton.1 hi) e

theorem Filled.next {gs : List (List Nat)} {n : Nat} {ofs : List Nat} {jj : Nat} (h : Filled gs n ofs jj (us gs jj).length) : Filled gs n ofs (jj + 1) 0 := by
  refine ⟨h.len, fun t ht i hi => ?_, by simp⟩
  by_cases e : t = jj
  · subst e; exact h.now i (by rw [List.take_length]; exact hi)
  · exact h.ah t (by omega) i hi

theorem Filled.done {g gs : List (List Nat)} (hS : Sccs g gs) {ofs : List Nat} (h : Filled gs g.length ofs gs.length 0) {i : Nat} (hi : i < g.length) : ofs.getD i 0 = ofL gs i := by
  obtain ⟨q, hq, hiq⟩ := (hS.all i).1 hi
  obtain ⟨t, ht⟩ := List.mem_iff_getElem?.1 hq
  have hl := (List.getElem?_eq_some_iff.1 ht).1
  exact h.ah t hl i (by rw [us_of hl] at ht; injection ht with ht; rw [ht]; exact hiq)

/-- memory while the groups' numbers are filled in -/
structure FW (w : World) (uv gv : Value) (n : Nat) (ofs : List Nat) (wr : World) : Prop where
  bu : wr.heap[w.heap.size]? = some (.cells #[uv] 22 (0, 0))
  bg : wr.heap[w.heap.size + 1]? = some (.cells #[gv] 22 (0, 0))
  bo : wr.heap[w.heap.size + 2]? = some (.cells (cellsOf ofs).toArray 3 (0, 0))
  bf : wr.heap[w.heap.size + 3]? = some (.cells #[.slice (some ⟨w.heap.size + 2, 0, none⟩) n n] 30 (0, 0))
  bel : Below w.heap.size w wr
  size : wr.heap.size = w.heap.size + 4

theorem FW.set {w : World} {uv gv : Value} {n : Nat} {ofs : List Nat} {wr : World} (h : FW w uv gv n ofs wr) (i v : Nat) : FW w uv gv n (ofs.set i v) (wr.setCell ⟨w.heap.size + 2, i, none⟩ (.int .i64 (v : Int))) := by
  refine ⟨?_, ?_, by rw [set_row h.bo, cellsOf_set], ?_, h.bel.setCell (by simp) _, by simpa using h.size⟩
  · rw [Below.heap_setCell _ _ _ _ (by simp)]; exact h.bu
  · rw [Below.heap_setCell _ _ _ _ (by simp)]; exact h.bg
  · rw [Below.heap_setCell _ _ _ _ (by simp)]; exact h.bf

/-- memory while the groups are told -/
structure MW (w : World) (uv gv : Value) (n m : Nat) (gs : List (List Nat)) (D : List Nat) (wr : World) : Prop where
  bu : wr.heap[w.heap.size]? = some (.cells #[uv] 22 (0, 0))
  bg : wr.heap[w.heap.size + 1]? = some (.cells #[gv] 22 (0, 0))
  bo : ∃ ofs : List Nat, wr.heap[w.heap.size + 2]? = some (.cells (cellsOf ofs).toArray 3 (0, 0)) ∧ ofs.length = n ∧ ∀ i, i < n → ofs.getD i 0 = ofL gs i
  bf : wr.heap[w.heap.size + 3]? = some (.cells #[.slice (some ⟨w.heap.size + 2, 0, none⟩) n n] 30 (0, 0))
  bd : wr.heap[w.heap.size + 4]? = some (.cells (boolsOf m D).toArray 4 (0, 0))
  bn : wr.heap[w.heap.size + 5]? = some (.cells #[.slice (some ⟨w.heap.size + 4, 0, none⟩) m m] 46 (0, 0))
  bel : Below w.heap.size w wr
  size : w.heap.size + 6 ≤ wr.heap.size

section
variable {w : World} {uv gv : Value} {n m : Nat} {gs : List (List Nat)} {D : List Nat} {wr w' : World}

theorem MW.keep (h : MW w uv gv n m gs D wr) (hk : ∀ b, b < w.heap.size + 6 → w'.heap[b]? = wr.heap[b]?) (hb : Below w.heap.size w w') (hs : w.heap.size + 6 ≤ w'.heap.size) : MW w uv gv n m gs D w' := by
  obtain ⟨ofs, o1, o2⟩ := h.bo
  exact ⟨(hk _ (by omega)).trans h.bu, (hk _ (by omega)).trans h.bg, ⟨ofs, (hk _ (by omega)).trans o1, o2⟩, (hk _ (by omega)).trans h.bf, (hk _ (by omega)).trans h.bd, (hk _ (by omega)).trans h.bn, hb, hs⟩

theorem MW.below (h : MW w uv gv n m gs D wr) (hb : Below wr.heap.size wr w') : MW w uv gv n m gs D w' :=
  h.keep (fun b hl => hb.block b (by have := h.size; omega)) (h.bel.trans (hb.mono (by have := h.size; omega))) (by have := h.size; have := hb.size; omega)

theorem MW.set (h : MW w uv gv n m gs D wr) (j : Nat) : MW w uv gv n m gs (D ++ [j]) (wr.setCell ⟨w.heap.size + 4, j, none⟩ (.bool true)) := by
  obtain ⟨ofs, o1, o2⟩ := h.bo
  refine ⟨?_, ?_, ⟨ofs, ?_, o2⟩, ?_, by rw [set_row h.bd, boolsOf_set], ?_, h.bel.setCell (by simp) _, by simpa using h.size⟩
  · rw [Below.heap_setCell _ _ _ _ (by simp)]; exact h.bu
  · rw [Below.heap_setCell _ _ _ _ (by simp)]; exact h.bg
  · rw [Below.heap_setCell _ _ _ _ (by simp)]; exact o1
  · rw [Below.heap_setCell _ _ _ _ (by simp)]; exact h.bf
  · rw [Below.heap_setCell _ _ _ _ (by simp)]; exact h.bn

theorem MW.tb (h : MW w uv gv n m gs D wr) : TB wr w.heap.size (w.heap.size + 1) (w.heap.size + 3) (w.heap.size + 5) (w.heap.size + 2) (w.heap.size + 4) n m uv gv (ofL gs) (fun j => D.contains j) := by
  obtain ⟨ofs, o1, o2, o3⟩ := h.bo
  refine ⟨cell_of_row _ _ 0 _ _ _ h.bu, cell_of_row _ _ 0 _ _ _ h.bg, cell_of_row _ _ 0 _ _ _ h.bf, cell_of_row _ _ 0 _ _ _ h.bn, fun j hj => ?_, fun j hj => ?_⟩
  · rw [← o3 j hj]; exact row_cell o1 (by omega)
  · rw [cell_of_row _ _ j _ _ _ h.bd, List.getElem?_toArray]; exact boolsOf_get m D j hj
end

theorem ready_eq (g gs : List (List Nat)) (D : List Nat) (j : Nat) : (!(D.contains j) && !((us gs j).any fun i => (us g i).any fun k => !(ofL gs k == j) && !(D.contains (ofL gs k)))) = ready g gs D j := by
  unfold ready us
  simp [List.not_any_eq_all_not]

/-- the next one, of the first k things -/
def nxt (g gs : List (List Nat)) (D : List Nat) (k : Nat) : Option Nat := ((List.range k).find? fun i => ready g gs D (ofL gs i)).map (ofL gs)
def nxtV : Option Nat → Value
  | none => .int .i64 (-1)
  | some j => .int .i64 (j : Int)

theorem nxt_succ (g gs : List (List Nat)) (D : List Nat) (k : Nat) : nxt g gs D (k + 1) = match nxt g gs D k with
    | some j => some j
    | none => if ready g gs D (ofL gs k) then some (ofL gs k) else none := by
  unfold nxt
  rw [List.range_succ, List.find?_append]
  cases h : (List.range k).find? fun i => ready g gs D (ofL gs i) with
  | some a => simp
  | none => 
    simp only [Option.none_or, Option.map_none, List.find?_cons, List.find?_nil]
    cases ready g gs D (ofL gs k) <;> rfl

end Go.Proofs.Ytlffdipjddlceaa.Od

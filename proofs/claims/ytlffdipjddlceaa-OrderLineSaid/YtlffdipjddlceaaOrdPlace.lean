/- Rows of a slice of slices that the call made, each rewritten in its place. -/
import Derived.Test.YtlffdipjddlceaaOrdOpen
import Derived.Test.YtlffdipjddlceaaOrdLine
namespace Go.Proofs.Ytlffdipjddlceaa.Od
open Go.RowKit

structure RowsW (base : Nat) (w : World) (B n : Nat) (Ls : List (List Nat)) (vs : List Value) : Prop where
  blk : w.heap[B]? = some (.cells vs.toArray 30 (0, 0))
  bB : base ≤ B
  len : Ls.length = n
  vl : vs.length = n
  own : ∀ (j : Nat) (q : List Nat) (v : Value), Ls[j]? = some q → vs[j]? = some v → w.ownsRow base 3 1 v q.length (cellsOf q)
  dis : ∀ (i j : Nat) (u v : Value), i ≠ j → vs[i]? = some u → vs[j]? = some v → ∀ b, u.ownBlock = some b → v.ownBlock ≠ some b

section
variable {base : Nat} {w w1 : World} {B n : Nat} {Ls : List (List Nat)} {vs : List Value}

theorem RowsW.ownAt (h : RowsW base w B n Ls vs) {j : Nat} {v : Value} (hv : vs[j]? = some v) : ∃ q, Ls[j]? = some q ∧ w.ownsRow base 3 1 v q.length (cellsOf q) := by
  have hj : j < Ls.length := by have := (List.getElem?_eq_some_iff.1 hv).1; rw [h.len, ← h.vl]; exact this
  exact ⟨Ls[j], List.getElem?_eq_getElem hj, h.own j _ v (List.getElem?_eq_getElem hj) hv⟩

theorem RowsW.keep (h : RowsW base w B n Ls vs) (hk : ∀ b, b < w.heap.size → w1.heap[b]? = w.heap[b]?) : RowsW base w1 B n Ls vs :=
  ⟨(hk B (lt_of_get h.blk)).trans h.blk, h.bB, h.len, h.vl, fun j q v h1 h2 => own_keep (h.own j q v h1 h2) fun b hb => hk b ((h.own j q v h1 h2).lt _ hb).2, h.dis⟩

/-- blocks other than its own may turn -/
theorem RowsW.other (h : RowsW base w B n Ls vs) {row : Option Nat} (hg : w.grownBy w1 row) (hB : row ≠ some B) (hr : ∀ v ∈ vs, ∀ b, v.ownBlock = some b → row ≠ some b) : RowsW base w1 B n Ls vs :=
  ⟨(hg.block B (lt_of_get h.blk) (Ne.symm hB)).trans h.blk, h.bB, h.len, h.vl, fun j q v h1 h2 => own_keep (h.own j q v h1 h2) fun b hb => hg.block b ((h.own j q v h1 h2).lt _ hb).2 (Ne.symm (hr v (List.mem_of_getElem? h2) b hb)), h.dis⟩

theorem RowsW.setOther (h : RowsW base w B n Ls vs) {a : Addr} (ha : a.block ≠ B) (hr : ∀ v ∈ vs, v.ownBlock ≠ some a.block) (u : Value) : RowsW base (w.setCell a u) B n Ls vs :=
  ⟨(Below.heap_setCell _ _ _ _ (Ne.symm ha)).trans h.blk, h.bB, h.len, h.vl, fun j q v h1 h2 => own_set (h.own j q v h1 h2) (hr v (List.mem_of_getElem? h2)) _, h.dis⟩

/-- a row turned in its place -/
theorem RowsW.put (h : RowsW base w B n Ls vs) {x : Nat} {u v' : Value} {q' : List Nat} (hu : vs[x]? = some u) (hg : w.grownBy w1 u.ownBlock) (ho : w1.ownsRow base 3 1 v' q'.length (cellsOf q'))
    (hat : ∀ b, v'.ownBlock = some b → u.ownBlock = some b ∨ w.heap.size ≤ b) : RowsW base (w1.setCell ⟨B, x, none⟩ v') B n (Ls.set x q') (vs.set x v') := by
  obtain ⟨qu, hqu, hou⟩ := h.ownAt hu
  have hxl : x < vs.length := (List.getElem?_eq_some_iff.1 hu).1
  have hBk : w1.heap[B]? = some (.cells vs.toArray 30 (0, 0)) := (hg.block B (lt_of_get h.blk) (fun e => own_ne hou h.blk (by decide) e.symm)).trans h.blk
  have oth : ∀ (j : Nat) (q : List Nat) (v : Value), j ≠ x → Ls[j]? = some q → vs[j]? = some v → w1.ownsRow base 3 1 v q.length (cellsOf q) := fun j q v hj h1 h2 =>
    own_keep (h.own j q v h1 h2) fun b hb => hg.block b ((h.own j q v h1 h2).lt _ hb).2 (fun e => h.dis j x v u hj h2 hu b hb e.symm)
  have nb : ∀ {v : Value} {q : List Nat}, w1.ownsRow base 3 1 v q.length (cellsOf q) → v.ownBlock ≠ some B := fun hv => own_ne hv hBk (by decide)
  refine ⟨by rw [set_row hBk]; simp, h.bB, by simpa using h.len, by simpa using h.vl, fun j q v h1 h2 => ?_, fun i j a b hij h1 h2 c hc hd => ?_⟩
  · rw [List.getElem?_set] at h1 h2
    by_cases e : x = j
    · subst e
      rw [if_pos rfl, if_pos (by rw [h.len, ← h.vl]; exact hxl)] at h1
      rw [if_pos rfl, if_pos hxl] at h2
      cases h1; cases h2
      exact own_set ho (nb ho) _
    · rw [if_neg e] at h1 h2
      have := oth j q v (Ne.symm e) h1 h2
      exact own_set this (nb this) _
  · have far : ∀ (k : Nat) (y : Value), k ≠ x → vs[k]? = some y → y.ownBlock = some c → v'.ownBlock = some c → False := fun k y hk hy e1 e2 => by
      rcases hat c e2 with e | e
      · exact h.dis k x y u hk hy hu c e1 e
      · obtain ⟨q, _, hq⟩ := h.ownAt hy
        have := (hq.lt c e1).2
        omega
    rw [List.getElem?_set] at h1 h2
    by_cases e1 : x = i
    · subst e1
      rw [if_pos rfl, if_pos hxl] at h1
      cases h1
      rw [if_neg hij] at h2
      exact far j b (Ne.symm hij) h2 hd hc
    · rw [if_neg e1] at h1
      by_cases e2 : x = j
      · subst e2
        rw [if_pos rfl, if_pos hxl] at h2
        cases h2
        exact far i a (Ne.symm e1) h1 hc hd
      · rw [if_neg e2] at h2
        exact h.dis i j a b hij h1 h2 c hc hd

theorem RowsW.rows (h : RowsW base w B n Ls vs) (hn : n ≤ 500) (hq : ∀ q ∈ Ls, q.length ≤ 500000) : RowsAt w.heap.size w (.slice (some ⟨B, 0, none⟩) n n) (rowsOf Ls) := by
  refine ⟨_, n, by rw [rowsOf_length, h.len], by rw [rowsOf_length, h.len]; omega, fun _ => ⟨B, 0, rfl, lt_of_get h.blk, fun j hj => ?_⟩⟩
  have hj' : j < Ls.length := by rw [rowsOf_length] at hj; exact hj
  have hjv : j < vs.length := by rw [h.vl, ← h.len]; exact hj'
  have hv : vs[j]? = some vs[j] := List.getElem?_eq_getElem hjv
  refine ⟨vs[j], by rw [Nat.zero_add, cell_of_row _ _ j _ _ _ h.blk, List.getElem?_toArray]; exact hv, ?_⟩
  have e : (rowsOf Ls)[j] = intsOf Ls[j] := by simp [rowsOf]
  rw [e]
  exact ints_of_owns (by have := hq Ls[j] (List.getElem_mem hj'); omega) (h.own j _ _ (List.getElem?_eq_getElem hj') hv)

theorem made_nils (n : Nat) : madeCells #[.slice none 0 0] n = (List.replicate n (Value.slice none 0 0)).toArray := by
  apply Array.ext_getElem?
  intro j
  have hs := size_madeCells #[.slice none 0 0] n
  conv => rhs; rw [List.getElem?_toArray, List.getElem?_replicate]
  by_cases hj : j < n
  · rw [if_pos hj, Array.getElem?_eq_getElem (by omega)]
    simp [madeCells, Nat.mod_one]
  · rw [if_neg hj, Array.getElem?_eq_none (by omega)]

theorem RowsW.start {w : World} {B n base : Nat} (h : w.heap[B]? = some (.cells (List.replicate n (Value.slice none 0 0)).toArray 30 (0, 0))) (hB : base ≤ B) : RowsW base w B n (List.replicate n []) (List.replicate n (Value.slice none 0 0)) := by
  refine ⟨h, hB, by simp, by simp, fun j q v h1 h2 => ?_, fun i j u v _ h1 _ b hb => ?_⟩
  · have e1 := List.eq_of_mem_replicate (List.mem_of_getElem? h1)
    have e2 := List.eq_of_mem_replicate (List.mem_of_getElem? h2)
    subst e1 e2
    exact World.ownsRow_nil _ _ _ _
  · have e1 := List.eq_of_mem_replicate (List.mem_of_getElem? h1)
    subst e1
    simp [Value.ownBlock] at hb
end

end Go.Proofs.Ytlffdipjddlceaa.Od

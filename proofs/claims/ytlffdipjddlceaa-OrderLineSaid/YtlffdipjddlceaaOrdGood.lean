/- Groups where all is well, and where not; the chapter's examples. -/
import Derived.Test.YtlffdipjddlceaaOrdRefW
namespace Go.Proofs.Ytlffdipjddlceaa.Od
open Go.RowKit

theorem map_inj {α β : Type} {f : α → β} (hf : ∀ x y, f x = f y → x = y) : ∀ {a b : List α}, a.map f = b.map f → a = b
  | [], [], _ => rfl
  | [], _ :: _, h => by simp at h
  | _ :: _, [], h => by simp at h
  | x :: a, y :: b, h => by
    simp only [List.map_cons, List.cons.injEq] at h
    rw [hf _ _ h.1, map_inj hf h.2]
theorem intsOf_inj {a b : List Nat} (h : intsOf a = intsOf b) : a = b := map_inj (fun x y e => by omega) h
theorem rowsOf_inj {a b : List (List Nat)} (h : rowsOf a = rowsOf b) : a = b := map_inj (fun _ _ e => intsOf_inj e) h

theorem not_bad {g : List (List Nat)} (hv : Valid g) (hl : g.length ≤ 500) : ¬ Bad (rowsOf g) := by
  rintro (h | ⟨r, hr, x, hx, h⟩)
  · rw [rowsOf_length] at h; omega
  · obtain ⟨q, hq, rfl⟩ := List.mem_map.1 hr
    obtain ⟨y, hy, rfl⟩ := List.mem_map.1 hx
    obtain ⟨j, hj⟩ := List.mem_iff_getElem?.1 hq
    have := hv j y (by unfold us; rw [getD_of hj]; exact hy)
    rw [rowsOf_length] at h
    omega

def GoodPost (w : World) (g : List (List Nat)) (e : Ending) (w' : World) : Prop := ∃ a c, e = .returned (.tuple #[.slice a (toldL g (groupsL g)).length c, .int .i64 0]) ∧ RowsAt w'.heap.size w' (.slice a (toldL g (groupsL g)).length c) (rowsOf (toldL g (groupsL g))) ∧ Below w.heap.size w w'
def BadPost (w : World) (e : Ending) (w' : World) : Prop := e = .returned (.tuple #[.slice none 0 0, .int .i64 1]) ∧ Below w.heap.size w w'

theorem post_good {w : World} {g : List (List Nat)} (hv : Valid g) (hl : g.length ≤ 500) {e : Ending} {w' : World} (h : GroupsPost w (rowsOf g) e w') : GoodPost w g e w' := by
  obtain ⟨v, er, rfl, hB, ⟨h, _⟩ | ⟨g', h1, _, _, rfl, h2⟩⟩ := h
  · exact absurd h (not_bad hv hl)
  · obtain rfl := rowsOf_inj h1
    obtain ⟨a, c, rfl, h3⟩ := id h2
    rw [rowsOf_length] at h2 ⊢
    exact ⟨a, c, rfl, h2, hB⟩

theorem post_bad {w : World} {zss : List (List Int)} (hb : Bad zss) {e : Ending} {w' : World} (h : GroupsPost w zss e w') : BadPost w e w' := by
  obtain ⟨v, er, rfl, hB, ⟨_, rfl, rfl⟩ | ⟨g', rfl, hv, hl, _⟩⟩ := h
  · exact ⟨rfl, hB⟩
  · exact absurd hb (not_bad hv hl)

/-! ### literals -/
theorem ints_lit {w : World} {b n : Nat} {l : List Nat} {t : TypeId} (h : w.heap[b]? = some (.cells (cellsOf l).toArray t (0, 0))) (hn : n = l.length) (hl : l.length ≤ 500) : IntsAt w.heap.size w (.slice (some ⟨b, 0, none⟩) n n) (intsOf l) := by
  subst hn
  refine ⟨_, l.length, by rw [intsOf_length], by rw [intsOf_length]; omega, fun _ => ⟨b, 0, rfl, lt_of_get h, fun j hj => ?_⟩⟩
  rw [intsOf_length] at hj
  rw [Nat.zero_add, cell_of_row w b j _ _ _ h, List.getElem?_toArray, cellsOf_get, List.getElem?_eq_getElem hj]
  simp [intsOf]

theorem ints_nil (n₀ : Nat) (w : World) : IntsAt n₀ w (.slice none 0 0) (intsOf []) := ⟨none, 0, rfl, by simp [intsOf], fun h => absurd h (by simp [intsOf])⟩

inductive LitRows (n₀ : Nat) (w : World) : List Value → List (List Nat) → Prop
  | nil : LitRows n₀ w [] []
  | cons {v : Value} {vs : List Value} {l : List Nat} {ls : List (List Nat)} : IntsAt n₀ w v (intsOf l) → LitRows n₀ w vs ls → LitRows n₀ w (v :: vs) (l :: ls)

theorem LitRows.len {n₀ : Nat} {w : World} {vs : List Value} {ls : List (List Nat)} (h : LitRows n₀ w vs ls) : vs.length = ls.length := by
  induction h with
  | nil => rfl
  | cons _ _ ih => simp [ih]

theorem LitRows.get {n₀ : Nat} {w : World} {vs : List Value} {ls : List (List Nat)} (h : LitRows n₀ w vs ls) : ∀ {j : Nat} {v : Value} {l : List Nat}, vs[j]? = some v → ls[j]? = some l → IntsAt n₀ w v (intsOf l) := by
  induction h with
  | nil => intro j v l h1; simp at h1
  | cons hv _ ih =>
    intro j v l h1 h2
    cases j with
    | zero => simp at h1 h2; subst h1 h2; exact hv
    | succ j => simp at h1 h2; exact ih h1 h2

theorem rows_lit {w : World} {b n : Nat} {vs : List Value} {ls : List (List Nat)} {t : TypeId} (h : w.heap[b]? = some (.cells vs.toArray t (0, 0))) (hn : n = ls.length) (hl : ls.length ≤ 500) (hr : LitRows w.heap.size w vs ls) : RowsAt w.heap.size w (.slice (some ⟨b, 0, none⟩) n n) (rowsOf ls) := by
  subst hn
  refine ⟨_, ls.length, by rw [rowsOf_length], by rw [rowsOf_length]; omega, fun _ => ⟨b, 0, rfl, lt_of_get h, fun j hj => ?_⟩⟩
  rw [rowsOf_length] at hj
  have hjv : j < vs.length := by rw [hr.len]; exact hj
  have hv : vs[j]? = some vs[j] := List.getElem?_eq_getElem hjv
  refine ⟨vs[j], ?_, ?_⟩
  · rw [Nat.zero_add, cell_of_row w b j _ _ _ h, List.getElem?_toArray]; exact hv
  · have e : (rowsOf ls)[j] = intsOf ls[j] := by simp [rowsOf]
    rw [e]
    exact hr.get hv (List.getElem?_eq_getElem hj)

theorem sorted_id {l : List Nat} (h : l.Pairwise (· ≤ ·)) : sorted l = l := by
  unfold sorted
  exact List.mergeSort_of_pairwise (h.imp fun {a b} hab => by simpa using hab)

theorem gs1 : groupsL [[1], [], [0, 1]] = [sorted [1], sorted [0], sorted [2]] := by rfl
theorem gs2 : groupsL [[1], [2], [0, 3], []] = [sorted [3], sorted [0, 1, 2]] := by rfl
theorem gs3 : groupsL [[0], []] = [sorted [0], sorted [1]] := by rfl
theorem ex1 : toldL [[1], [], [0, 1]] (groupsL [[1], [], [0, 1]]) = [[1], [0], [2]] := by
  rw [gs1, sorted_id (by simp), sorted_id (by simp), sorted_id (by simp)]; decide +kernel
theorem ex2 : toldL [[1], [2], [0, 3], []] (groupsL [[1], [2], [0, 3], []]) = [[3], [0, 1, 2]] := by
  rw [gs2, sorted_id (by simp), sorted_id (by simp)]; decide +kernel
theorem ex3 : toldL [[0], []] (groupsL [[0], []]) = [[0], [1]] := by
  rw [gs3, sorted_id (by simp), sorted_id (by simp)]; decide +kernel

end Go.Proofs.Ytlffdipjddlceaa.Od

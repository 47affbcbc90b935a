/- Lines, rings, chains and turned uses on plain lists. No program in sight. -/
import Derived.Test.YtlffdipjddlceaaOrdLaws
namespace Go.Proofs.Ytlffdipjddlceaa.Od

theorem us_map (n : Nat) (f : Nat → List Nat) (i : Nat) : us ((List.range n).map f) i = if i < n then f i else [] := by
  unfold us
  rw [List.getD_eq_getElem?_getD, List.getElem?_map]
  by_cases h : i < n
  · rw [List.getElem?_range h, if_pos h]; rfl
  · rw [List.getElem?_eq_none (by simp; omega), if_neg h]; rfl

def lineG (n : Nat) : List (List Nat) := (List.range n).map fun i => List.range i
def ringG (n : Nat) : List (List Nat) := (List.range n).map fun i => [(i + 1) % n]
def chainG (n : Nat) : List (List Nat) := (List.range n).map fun i => if i + 1 < n then [i + 1] else []

theorem line_len (n : Nat) : (lineG n).length = n := by simp [lineG]
theorem ring_len (n : Nat) : (ringG n).length = n := by simp [ringG]
theorem chain_len (n : Nat) : (chainG n).length = n := by simp [chainG]

theorem line_valid (n : Nat) : Valid (lineG n) := by
  intro i k hk
  unfold lineG at hk
  rw [us_map] at hk
  rw [line_len]
  split at hk
  · simp at hk; omega
  · simp at hk
theorem ring_valid (n : Nat) : Valid (ringG n) := by
  intro i k hk
  unfold ringG at hk
  rw [us_map] at hk
  rw [ring_len]
  split at hk
  · simp at hk; subst hk; exact Nat.mod_lt _ (by omega)
  · simp at hk
theorem chain_valid (n : Nat) : Valid (chainG n) := by
  intro i k hk
  unfold chainG at hk
  rw [us_map] at hk
  rw [chain_len]
  split at hk
  · split at hk
    · simp at hk; omega
    · simp at hk
  · simp at hk

theorem line_reach {n x y : Nat} (h : Reach (lineG n) x y) : y ≤ x := by
  induction h with
  | refl => exact Nat.le_refl _
  | step e _ ih =>
    unfold lineG at e
    rw [us_map] at e
    split at e
    · simp at e; omega
    · simp at e
theorem chain_reach {n x y : Nat} (h : Reach (chainG n) x y) : x ≤ y := by
  induction h with
  | refl => exact Nat.le_refl _
  | step e _ ih =>
    unfold chainG at e
    rw [us_map] at e
    split at e
    · split at e
      · simp at e; omega
      · simp at e
    · simp at e
theorem ring_up {n x : Nat} (hx : x < n) : ∀ k, Reach (ringG n) x ((x + k) % n) := by
  intro k
  induction k with
  | zero => rw [Nat.add_zero, Nat.mod_eq_of_lt hx]; exact .refl x
  | succ k ih =>
    refine ih.trans (Reach.edge ?_)
    unfold ringG
    rw [us_map, if_pos (Nat.mod_lt _ (by omega))]
    simp [Nat.add_assoc]
theorem ring_reach {n x y : Nat} (hx : x < n) (hy : y < n) : Reach (ringG n) x y := by
  have := ring_up hx (n - x + y)
  rw [show x + (n - x + y) = y + n by omega, Nat.add_mod_right, Nat.mod_eq_of_lt hy] at this
  exact this

/-- where none comes to another and back, each is alone -/
theorem singles {g ts : List (List Nat)} (h : Sccs g ts) (ha : ∀ x y, Reach g x y → Reach g y x → x = y) {x : Nat} (hx : x < g.length) : ts[ofL ts x]? = some [x] := by
  obtain ⟨q, hq, hxq⟩ := ofL_spec h hx
  have hqm := List.mem_of_getElem? hq
  have : q = [x] := by
    refine sorted_ext (h.gso q hqm).2 (by simp) fun y => ?_
    rw [List.mem_singleton, h.scc q hqm x hxq y]
    constructor
    · rintro ⟨r1, r2⟩; exact (ha x y r1 r2).symm
    · rintro rfl; exact ⟨.refl _, .refl _⟩
  rw [hq, this]

theorem singles_len {g ts : List (List Nat)} (h : Sccs g ts) (ha : ∀ x y, Reach g x y → Reach g y x → x = y) : ts.length = g.length := by
  have h1 : ts.length ≤ g.length := by
    have h2 := len_flatten' ts fun q hq => (h.gso q hq).1
    have := h.flat; omega
  have h2 := pigeon ((List.range g.length).map (ofL ts)) (List.range ts.length) (by
    rw [List.nodup_iff_pairwise_ne, List.pairwise_map]
    refine List.pairwise_lt_range.imp_of_mem fun {a b} ha' hb' hab e => ?_
    have ea := singles h ha (List.mem_range.1 ha')
    have eb := singles h ha (List.mem_range.1 hb')
    rw [e, eb] at ea
    simp at ea; omega) (fun x hx => by
    obtain ⟨y, hy, rfl⟩ := List.mem_map.1 hx
    exact List.mem_range.2 (List.getElem?_eq_some_iff.1 (singles h ha (List.mem_range.1 hy))).1)
  simp at h2
  omega

theorem mono_id {n : Nat} {f : Nat → Nat} (hl : ∀ x, x < n → f x < n) (hm : ∀ x, x + 1 < n → f x < f (x + 1)) : ∀ x, x < n → f x = x := by
  have h1 : ∀ x, x < n → x ≤ f x := by
    intro x
    induction x with
    | zero => intro _; omega
    | succ x ih => intro hx; have := ih (by omega); have := hm x hx; omega
  have h2 : ∀ k x, x + k + 1 = n → f x ≤ x := by
    intro k
    induction k with
    | zero => intro x hx; have := hl x (by omega); omega
    | succ k ih => intro x hx; have := ih (x + 1) (by omega); have := hm x (by omega); omega
  intro x hx
  have := h1 x hx
  have := h2 (n - 1 - x) x (by omega)
  omega

theorem mono_rev {n : Nat} {f : Nat → Nat} (hl : ∀ x, x < n → f x < n) (hm : ∀ x, x + 1 < n → f (x + 1) < f x) : ∀ x, x < n → f x = n - 1 - x := by
  have h := mono_id (n := n) (f := fun x => f (n - 1 - x)) (fun x hx => hl _ (by omega)) (fun x hx => by
    have := hm (n - 1 - (x + 1)) (by omega)
    rwa [show n - 1 - (x + 1) + 1 = n - 1 - x by omega] at this)
  intro x hx
  have := h (n - 1 - x) (by omega)
  rwa [show n - 1 - (n - 1 - x) = x by omega] at this

theorem line_told {n : Nat} {ts : List (List Nat)} (h : Sccs (lineG n) ts) : ts.length = n ∧ ∀ i, i < n → ts[i]? = some [i] := by
  have ha : ∀ x y, Reach (lineG n) x y → Reach (lineG n) y x → x = y := fun x y h1 h2 => by have := line_reach h1; have := line_reach h2; omega
  have hl := singles_len h ha
  rw [line_len] at hl
  have sg : ∀ x, x < n → ts[ofL ts x]? = some [x] := fun x hx => singles h ha (by rw [line_len]; exact hx)
  refine ⟨hl, fun i hi => ?_⟩
  have hid := mono_id (n := n) (f := ofL ts) (fun x hx => by have := (List.getElem?_eq_some_iff.1 (sg x hx)).1; omega) (fun x hx => by
    have h1 := h.order (x := x + 1) (y := x) (by rw [line_len]; exact hx) (by unfold lineG; rw [us_map, if_pos hx]; simp)
    have h2 : ofL ts x ≠ ofL ts (x + 1) := fun e => by
      have e1 := sg x (by omega)
      rw [e, sg (x + 1) hx] at e1
      simp at e1
    omega) i hi
  rw [← hid]
  rw [hid]
  have := sg i hi
  rwa [hid] at this

theorem chain_told {n : Nat} {ts : List (List Nat)} (h : Sccs (chainG n) ts) : ts.length = n ∧ ∀ i, i < n → ts[i]? = some [n - 1 - i] := by
  have ha : ∀ x y, Reach (chainG n) x y → Reach (chainG n) y x → x = y := fun x y h1 h2 => by have := chain_reach h1; have := chain_reach h2; omega
  have hl := singles_len h ha
  rw [chain_len] at hl
  have sg : ∀ x, x < n → ts[ofL ts x]? = some [x] := fun x hx => singles h ha (by rw [chain_len]; exact hx)
  refine ⟨hl, fun i hi => ?_⟩
  have hid := mono_rev (n := n) (f := ofL ts) (fun x hx => by have := (List.getElem?_eq_some_iff.1 (sg x hx)).1; omega) (fun x hx => by
    have h1 := h.order (x := x) (y := x + 1) (by rw [chain_len]; omega) (by unfold chainG; rw [us_map, if_pos (by omega), if_pos hx]; simp)
    have h2 : ofL ts x ≠ ofL ts (x + 1) := fun e => by
      have e1 := sg x (by omega)
      rw [e, sg (x + 1) hx] at e1
      simp at e1
    omega) (n - 1 - i) (by omega)
  have := sg (n - 1 - i) (by omega)
  rw [hid] at this
  rwa [show n - 1 - (n - 1 - i) = i by omega] at this

theorem ring_told {n : Nat} {ts : List (List Nat)} (hn : 0 < n) (h : Sccs (ringG n) ts) : ts = [List.range n] := by
  have hq : ∀ q ∈ ts, q = List.range n := by
    intro q hq
    obtain ⟨x, hx⟩ := List.exists_mem_of_ne_nil q (h.gso q hq).1
    have hxl : x < n := by have := (h.all x).2 ⟨q, hq, hx⟩; rwa [ring_len] at this
    refine sorted_ext (h.gso q hq).2 List.pairwise_lt_range fun y => ?_
    constructor
    · intro hy
      have := (h.all y).2 ⟨q, hq, hy⟩
      rw [ring_len] at this
      exact List.mem_range.2 this
    · intro hy
      have hyl := List.mem_range.1 hy
      exact (h.scc q hq x hx y).2 ⟨ring_reach hxl hyl, ring_reach hyl hxl⟩
  obtain ⟨q, hq1, _⟩ := (h.all 0).1 (by rw [ring_len]; exact hn)
  match ts, hq, hq1, h.gnd with
  | [a], hq, _, _ => rw [hq a (by simp)]
  | a :: b :: l, hq, _, hnd =>
    exfalso
    have ea := hq a (by simp)
    have eb := hq b (by simp)
    rw [ea, eb, List.flatten_cons, List.nodup_append] at hnd
    exact hnd.2.2 0 (List.mem_range.2 hn) 0 (by simp [hn]) rfl

/-! ### built in place -/
def lineP (n i k : Nat) : List (List Nat) := (List.range n).map fun j => if j < i then List.range j else if j = i then List.range k else []
def ringP (n i : Nat) : List (List Nat) := (List.range n).map fun j => if j < i then [(j + 1) % n] else []

theorem map_set {α : Type} (n : Nat) (f h : Nat → α) (i : Nat) (v : α) (hv : h i = v) (he : ∀ j, j ≠ i → f j = h j) : ((List.range n).map f).set i v = (List.range n).map h := by
  apply List.ext_getElem?
  intro j
  rw [List.getElem?_set]
  simp only [List.length_map, List.length_range, List.getElem?_map]
  by_cases hj : j < n
  · rw [List.getElem?_range hj]
    by_cases e : i = j
    · subst e; simp [hj, hv]
    · rw [if_neg e]; simp [he j (fun h => e h.symm)]
  · rw [List.getElem?_eq_none (by simp; omega)]
    by_cases e : i = j
    · subst e; simp [hj]
    · rw [if_neg e]; rfl

theorem lineP_set (n i k : Nat) : (lineP n i k).set i (List.range k ++ [k]) = lineP n i (k + 1) := by
  unfold lineP
  refine map_set _ _ _ _ _ ?_ fun j hj => ?_
  · simp [List.range_succ]
  · simp [hj]
theorem lineP_next (n i : Nat) : lineP n i i = lineP n (i + 1) 0 := by
  unfold lineP
  apply List.map_congr_left
  intro j _
  by_cases h1 : j < i
  · simp [h1, Nat.lt_succ_of_lt h1]
  · by_cases h2 : j = i
    · subst h2; simp
    · simp [h1, h2, show ¬ j < i + 1 by omega]
theorem lineP_at (n i k : Nat) (hi : i < n) : (lineP n i k)[i]? = some (List.range k) := by
  unfold lineP
  rw [List.getElem?_map, List.getElem?_range hi]; simp
theorem lineP_start (n : Nat) : lineP n 0 0 = List.replicate n [] := by
  unfold lineP
  apply List.ext_getElem?
  intro j
  rw [List.getElem?_map, List.getElem?_replicate]
  by_cases hj : j < n
  · rw [List.getElem?_range hj, if_pos hj]; simp
  · rw [List.getElem?_eq_none (by simp; omega), if_neg hj]; rfl
theorem lineP_all (n : Nat) : lineP n n 0 = lineG n := by
  unfold lineP lineG
  apply List.map_congr_left
  intro j hj
  rw [if_pos (List.mem_range.1 hj)]
theorem ringP_set (n i : Nat) : (ringP n i).set i [(i + 1) % n] = ringP n (i + 1) := by
  unfold ringP
  refine map_set _ _ _ _ _ (by simp) fun j hj => ?_
  by_cases h1 : j < i
  · simp [h1, Nat.lt_succ_of_lt h1]
  · simp [h1, show ¬ j < i + 1 by omega]
theorem ringP_start (n : Nat) : ringP n 0 = List.replicate n [] := by
  unfold ringP
  apply List.ext_getElem?
  intro j
  rw [List.getElem?_map, List.getElem?_replicate]
  by_cases hj : j < n
  · rw [List.getElem?_range hj, if_pos hj]; simp
  · rw [List.getElem?_eq_none (by simp; omega), if_neg hj]; rfl
theorem ringP_all (n : Nat) : ringP n n = ringG n := by
  unfold ringP ringG
  apply List.map_congr_left
  intro j hj
  rw [if_pos (List.mem_range.1 hj)]
theorem ring_chain (n : Nat) (_hn : 0 < n) : (ringG n).set (n - 1) [] = chainG n := by
  unfold ringG chainG
  apply List.ext_getElem?
  intro j
  rw [List.getElem?_set]
  simp only [List.length_map, List.length_range, List.getElem?_map]
  by_cases hj : j < n
  · rw [List.getElem?_range hj]
    by_cases e : n - 1 = j
    · rw [if_pos e, if_pos (by omega)]
      simp [show ¬ j + 1 < n by omega]
    · rw [if_neg e]
      have h1 : j + 1 < n := by omega
      simp [h1, Nat.mod_eq_of_lt h1]
  · rw [List.getElem?_eq_none (by simp; omega)]
    by_cases e : n - 1 = j
    · rw [if_pos e, if_neg (by omega)]; rfl
    · rw [if_neg e]; rfl

/-! ### turned -/
/-- the turned uses of all things ahead of i, and of the first k uses of i -/
structure Turn (g : List (List Nat)) (t : List (List Nat)) (i k : Nat) : Prop where
  len : t.length = g.length
  mem : ∀ x, x < g.length → ∀ y, y ∈ us t x ↔ (y < i ∧ x ∈ us g y) ∨ (y = i ∧ x ∈ (us g i).take k)

theorem Turn.start (g : List (List Nat)) : Turn g (List.replicate g.length []) 0 0 := by
  refine ⟨by simp, fun x hx y => ?_⟩
  unfold us
  rw [List.getD_eq_getElem?_getD, List.getElem?_replicate]
  split <;> simp

theorem us_set (t : List (List Nat)) (i : Nat) (q : List Nat) (x : Nat) (hi : i < t.length) : us (t.set i q) x = if x = i then q else us t x := by
  unfold us
  simp only [List.getD_eq_getElem?_getD, List.getElem?_set]
  by_cases h : i = x
  · subst h; simp [hi]
  · rw [if_neg h, if_neg (fun e => h e.symm)]

theorem Turn.set {g t : List (List Nat)} {i k : Nat} (h : Turn g t i k) (hk : k < (us g i).length) (hx : (us g i)[k] < g.length) : Turn g (t.set (us g i)[k] (us t (us g i)[k] ++ [i])) i (k + 1) := by
  have htake : (us g i).take (k + 1) = (us g i).take k ++ [(us g i)[k]] := by rw [List.take_add_one, List.getElem?_eq_getElem hk]; rfl
  generalize (us g i)[k] = z at *
  refine ⟨by simpa using h.len, fun x hxl y => ?_⟩
  rw [us_set _ _ _ _ (by rw [h.len]; exact hx), htake]
  by_cases e : x = z
  · subst e
    rw [if_pos rfl, List.mem_append, h.mem x hxl y, List.mem_singleton, List.mem_append, List.mem_singleton]
    constructor
    · rintro ((a | a) | a)
      · exact .inl a
      · exact .inr ⟨a.1, .inl a.2⟩
      · exact .inr ⟨a, .inr rfl⟩
    · rintro (a | ⟨a, b⟩)
      · exact .inl (.inl a)
      · rcases b with b | _
        · exact .inl (.inr ⟨a, b⟩)
        · exact .inr a
  · rw [if_neg e, h.mem x hxl y, List.mem_append, List.mem_singleton]
    constructor
    · rintro (a | a)
      · exact .inl a
      · exact .inr ⟨a.1, .inl a.2⟩
    · rintro (a | ⟨a, b⟩)
      · exact .inl a
      · rcases b with b | b
        · exact .inr ⟨a, b⟩
        · exact absurd b e

theorem Turn.next {g t : List (List Nat)} {i : Nat} (h : Turn g t i (us g i).length) : Turn g t (i + 1) 0 := by
  refine ⟨h.len, fun x hx y => ?_⟩
  rw [h.mem x hx y, List.take_length]
  constructor
  · rintro (⟨a, b⟩ | ⟨a, b⟩)
    · exact .inl ⟨by omega, b⟩
    · subst a; exact .inl ⟨by omega, b⟩
  · rintro (⟨a, b⟩ | ⟨_, b⟩)
    · by_cases e : y = i
      · subst e; exact .inr ⟨rfl, b⟩
      · exact .inl ⟨by omega, b⟩
    · simp at b

theorem Turn.edge {g t : List (List Nat)} (h : Turn g t g.length 0) {x y : Nat} (hx : x < g.length) : y ∈ us t x ↔ (y < g.length ∧ x ∈ us g y) := by
  rw [h.mem x hx y]; simp

theorem Turn.valid {g t : List (List Nat)} (h : Turn g t g.length 0) : Valid t := by
  intro x y hy
  rw [h.len]
  rcases Nat.lt_or_ge x g.length with hx | hx
  · exact ((h.edge hx).1 hy).1
  · unfold us at hy
    rw [List.getD_eq_getElem?_getD, List.getElem?_eq_none (by rw [h.len]; exact hx)] at hy
    simp at hy

theorem Turn.reach {g t : List (List Nat)} (h : Turn g t g.length 0) (hv : Valid g) {x y : Nat} (hx : x < g.length) (hy : y < g.length) : Reach t x y ↔ Reach g y x := by
  constructor
  · intro r
    induction r with
    | refl => exact .refl _
    | @step a c b e _ ih =>
      have := (h.edge hx).1 e
      exact (ih this.1 hy).trans (Reach.edge this.2)
  · intro r
    induction r with
    | refl => exact .refl _
    | @step a c b e _ ih =>
      have hc := hv a c e
      exact (ih hx hc).trans (Reach.edge ((h.edge hc).2 ⟨hy, e⟩))

theorem Turn.same {g t gs ts : List (List Nat)} (h : Turn g t g.length 0) (hv : Valid g) (hg : Sccs g gs) (ht : Sccs t ts) : gs.length = ts.length ∧ ∀ q, q ∈ ts → q ∈ gs := by
  have hr : ∀ x y, x < g.length → y < g.length → ((Reach g x y ∧ Reach g y x) ↔ (Reach t x y ∧ Reach t y x)) := fun x y hx hy => by
    rw [h.reach hv hx hy, h.reach hv hy hx]; exact And.comm
  have h1 := hg.same ht h.len.symm hr
  have h2 := ht.same hg h.len (fun x y hx hy => (hr x y (by rw [← h.len]; exact hx) (by rw [← h.len]; exact hy)).symm)
  have nd : ∀ {g' l : List (List Nat)}, Sccs g' l → l.Nodup := fun {g' l} s => by
    rw [List.nodup_iff_pairwise_ne, List.pairwise_iff_getElem]
    intro i j hi hj hij e
    obtain ⟨x, hx⟩ := List.exists_mem_of_ne_nil _ (s.gso _ (List.getElem_mem hi)).1
    have := flatten_nodup_get s.gnd (List.getElem?_eq_getElem hi) (List.getElem?_eq_getElem hj) hx (by rw [← e]; exact hx)
    omega
  refine ⟨?_, h2⟩
  have a := pigeonL gs ts (nd hg) h1
  have b := pigeonL ts gs (nd ht) h2
  omega

end Go.Proofs.Ytlffdipjddlceaa.Od

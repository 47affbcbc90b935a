/- The walker's state in memory; what stores and appends do to it; Contains and Index over its open row. -/
import Derived.Test.YtlffdipjddlceaaOrdComesW
import Derived.Test.YtlffdipjddlceaaOrdSeq
namespace Go.Proofs.Ytlffdipjddlceaa.Od
open Go.RowKit

def cellsOf (l : List Nat) : List Value := (intsOf l).map (Value.int .i64)
theorem cellsOf_length (l : List Nat) : (cellsOf l).length = l.length := by simp [cellsOf, intsOf]
theorem cellsOf_get (l : List Nat) (j : Nat) : (cellsOf l)[j]? = l[j]?.map fun x : Nat => .int .i64 (x : Int) := by
  simp [cellsOf, intsOf]; rfl
theorem cellsOf_append (l m : List Nat) : cellsOf (l ++ m) = cellsOf l ++ cellsOf m := by simp [cellsOf, intsOf]
theorem cellsOf_set (l : List Nat) (i v : Nat) : (cellsOf l).toArray.setIfInBounds i (.int .i64 (v : Int)) = (cellsOf (l.set i v)).toArray := by
  simp [cellsOf, intsOf, List.map_set]

/-- A group's row: of new memory, apart from the rows that are written. -/
structure GRow (base : Nat) (ov : Value) (Bm Bl : Nat) (w : World) (v : Value) (q : List Nat) : Prop where
  own : w.ownsRow base 3 1 v q.length (cellsOf q)
  ne : q ≠ []
  bm : v.ownBlock ≠ some Bm
  bl : v.ownBlock ≠ some Bl
  bo : ov.ownBlock ≠ v.ownBlock

structure Wk (base n : Nat) (uv : Value) (P Bm Bl : Nat) (w : World) (s : St) (ov gv : Value) (vs : List Value) : Prop where
  hP : w.heap[P]? = some (.cells #[uv, .slice (some ⟨Bm, 0, none⟩) n n, .slice (some ⟨Bl, 0, none⟩) n n, ov, gv] 35 (0, 0))
  hm : w.heap[Bm]? = some (.cells (cellsOf s.met).toArray 3 (0, 0))
  hl : w.heap[Bl]? = some (.cells (cellsOf s.least).toArray 3 (0, 0))
  ml : Bm ≠ Bl
  bP : base ≤ P
  bm : base ≤ Bm
  bl : base ≤ Bl
  lm : s.met.length = n
  ll : s.least.length = n
  ho : w.ownsRow base 3 1 ov s.opn.length (cellsOf s.opn)
  om : ov.ownBlock ≠ some Bm
  ol : ov.ownBlock ≠ some Bl
  hg : w.ownsRow base 30 1 gv s.grp.length vs
  gs : ∀ (j : Nat) (q : List Nat) (v : Value), s.grp[j]? = some q → vs[j]? = some v → GRow base ov Bm Bl w v q

theorem block_ne {w : World} {a b : Nat} {c d : Array Value} {t u : TypeId} {f g : Nat × Nat} (h : w.heap[a]? = some (.cells c t f)) (k : w.heap[b]? = some (.cells d u g)) (hne : t ≠ u) : a ≠ b := by
  rintro rfl
  rw [h] at k
  injection k with k
  injection k with _ k _
  exact hne k

theorem own_ne {w : World} {base : Nat} {e t : TypeId} {size n : Nat} {v : Value} {xs : List Value} {b : Nat} {c : Array Value} {f : Nat × Nat} (h : w.ownsRow base e size v n xs) (k : w.heap[b]? = some (.cells c t f)) (hne : e ≠ t) : v.ownBlock ≠ some b := by
  rcases h.2 with ⟨rfl, _⟩ | ⟨g, cap, cur, rfl, _, hh, _⟩
  · simp [Value.ownBlock]
  · intro he
    have : g = b := by simpa [Value.ownBlock] using he
    subst this
    exact block_ne hh k hne rfl

theorem own_own_ne {w : World} {base base' : Nat} {e t : TypeId} {size size' n n' : Nat} {v v' : Value} {xs xs' : List Value} (h : w.ownsRow base e size v n xs) (k : w.ownsRow base' t size' v' n' xs') (hne : e ≠ t) (b : Nat) (hb : v'.ownBlock = some b) : v.ownBlock ≠ some b := by
  rcases k.2 with ⟨rfl, _⟩ | ⟨g, cap, cur, rfl, _, hh, _⟩
  · simp [Value.ownBlock] at hb
  · have : g = b := by simpa [Value.ownBlock] using hb
    subst this
    exact own_ne h hh hne

theorem own_set {w : World} {base : Nat} {e : TypeId} {size n : Nat} {v : Value} {xs : List Value} (h : w.ownsRow base e size v n xs) {a : Addr} (ha : v.ownBlock ≠ some a.block) (u : Value) : (w.setCell a u).ownsRow base e size v n xs := by
  refine ⟨h.1, h.2.imp id ?_⟩
  rintro ⟨g, cap, cur, k1, k2, k3, k4⟩
  refine ⟨g, cap, cur, k1, k2, ?_, k4⟩
  rw [Below.heap_setCell _ _ _ _ (by rintro rfl; exact ha (by rw [k1]; rfl))]; exact k3

theorem own_base {w : World} {base base' : Nat} {e : TypeId} {size n : Nat} {v : Value} {xs : List Value} (h : w.ownsRow base e size v n xs) (hb : base' ≤ base) : w.ownsRow base' e size v n xs := by
  refine ⟨h.1, h.2.imp id ?_⟩
  rintro ⟨g, cap, cur, k1, k2, k3⟩
  exact ⟨g, cap, cur, k1, by omega, k3⟩

theorem own_keep {w w' : World} {base : Nat} {e : TypeId} {size n : Nat} {v : Value} {xs : List Value} (h : w.ownsRow base e size v n xs) (hk : ∀ b, v.ownBlock = some b → w'.heap[b]? = w.heap[b]?) : w'.ownsRow base e size v n xs := by
  refine ⟨h.1, h.2.imp id ?_⟩
  rintro ⟨g, cap, cur, k1, k2, k3, k4⟩
  exact ⟨g, cap, cur, k1, k2, (hk g (by rw [k1]; rfl)).trans k3, k4⟩

theorem lt_of_get {w : World} {b : Nat} {o : Obj} (h : w.heap[b]? = some o) : b < w.heap.size := (Array.getElem?_eq_some_iff.1 h).1

theorem set_row {w : World} {b i : Nat} {c : Array Value} {t : TypeId} {f : Nat × Nat} (h : w.heap[b]? = some (.cells c t f)) (u : Value) :
    (w.setCell ⟨b, i, none⟩ u).heap[b]? = some (.cells (c.setIfInBounds i u) t f) := by
  simp [World.setCell, Array.getElem?_modify, h]

section
variable {base n : Nat} {uv : Value} {P Bm Bl : Nat} {w w' : World} {s : St} {ov gv : Value} {vs : List Value}

theorem Wk.lt (h : Wk base n uv P Bm Bl w s ov gv vs) : P < w.heap.size ∧ Bm < w.heap.size ∧ Bl < w.heap.size := ⟨lt_of_get h.hP, lt_of_get h.hm, lt_of_get h.hl⟩
theorem Wk.pm (h : Wk base n uv P Bm Bl w s ov gv vs) : P ≠ Bm := block_ne h.hP h.hm (by decide)
theorem Wk.pl (h : Wk base n uv P Bm Bl w s ov gv vs) : P ≠ Bl := block_ne h.hP h.hl (by decide)
theorem Wk.op (h : Wk base n uv P Bm Bl w s ov gv vs) : ov.ownBlock ≠ some P := own_ne h.ho h.hP (by decide)
theorem Wk.gp (h : Wk base n uv P Bm Bl w s ov gv vs) : gv.ownBlock ≠ some P := own_ne h.hg h.hP (by decide)
theorem Wk.gm (h : Wk base n uv P Bm Bl w s ov gv vs) : gv.ownBlock ≠ some Bm := own_ne h.hg h.hm (by decide)
theorem Wk.gl (h : Wk base n uv P Bm Bl w s ov gv vs) : gv.ownBlock ≠ some Bl := own_ne h.hg h.hl (by decide)

/-- What leaves all blocks as they are leaves this. -/
theorem Wk.keep (h : Wk base n uv P Bm Bl w s ov gv vs) (hk : ∀ b, b < w.heap.size → w'.heap[b]? = w.heap[b]?) : Wk base n uv P Bm Bl w' s ov gv vs := by
  obtain ⟨l1, l2, l3⟩ := h.lt
  refine ⟨(hk _ l1).trans h.hP, (hk _ l2).trans h.hm, (hk _ l3).trans h.hl, h.ml, h.bP, h.bm, h.bl, h.lm, h.ll, own_keep h.ho fun b hb => hk _ (h.ho.lt _ hb).2, h.om, h.ol, own_keep h.hg fun b hb => hk _ (h.hg.lt _ hb).2, ?_⟩
  intro j q v h1 h2
  have g := h.gs j q v h1 h2
  exact ⟨own_keep g.own fun b hb => hk _ (g.own.lt _ hb).2, g.ne, g.bm, g.bl, g.bo⟩

theorem Wk.alloc (h : Wk base n uv P Bm Bl w s ov gv vs) (o : Obj) : Wk base n uv P Bm Bl (w.alloc o) s ov gv vs := h.keep fun b hb => Below.heap_alloc w o b hb
theorem Wk.below (h : Wk base n uv P Bm Bl w s ov gv vs) (hb : Below w.heap.size w w') : Wk base n uv P Bm Bl w' s ov gv vs := h.keep fun b hl => hb.block b hl

theorem Wk.setMet (h : Wk base n uv P Bm Bl w s ov gv vs) (i v : Nat) : Wk base n uv P Bm Bl (w.setCell ⟨Bm, i, none⟩ (.int .i64 (v : Int))) ⟨s.met.set i v, s.least, s.opn, s.grp⟩ ov gv vs := by
  refine ⟨?_, ?_, ?_, h.ml, h.bP, h.bm, h.bl, by simpa using h.lm, h.ll, own_set h.ho h.om _, h.om, h.ol, own_set h.hg h.gm _, ?_⟩
  · rw [Below.heap_setCell _ _ _ _ h.pm]; exact h.hP
  · rw [set_row h.hm, cellsOf_set]
  · rw [Below.heap_setCell _ _ _ _ h.ml.symm]; exact h.hl
  · intro j q x h1 h2
    have g := h.gs j q x h1 h2
    exact ⟨own_set g.own g.bm _, g.ne, g.bm, g.bl, g.bo⟩

theorem Wk.setLeast (h : Wk base n uv P Bm Bl w s ov gv vs) (i v : Nat) : Wk base n uv P Bm Bl (w.setCell ⟨Bl, i, none⟩ (.int .i64 (v : Int))) ⟨s.met, s.least.set i v, s.opn, s.grp⟩ ov gv vs := by
  refine ⟨?_, ?_, ?_, h.ml, h.bP, h.bm, h.bl, h.lm, by simpa using h.ll, own_set h.ho h.ol _, h.om, h.ol, own_set h.hg h.gl _, ?_⟩
  · rw [Below.heap_setCell _ _ _ _ h.pl]; exact h.hP
  · rw [Below.heap_setCell _ _ _ _ h.ml]; exact h.hm
  · rw [set_row h.hl, cellsOf_set]
  · intro j q x h1 h2
    have g := h.gs j q x h1 h2
    exact ⟨own_set g.own g.bl _, g.ne, g.bm, g.bl, g.bo⟩

/-- A new open row: what was appended, or a cut. -/
theorem Wk.setOpen (h : Wk base n uv P Bm Bl w s ov gv vs) {w1 : World} {ov' : Value} {o' : List Nat} (hgrow : w.grownBy w1 ov.ownBlock) (how : w1.ownsRow base 3 1 ov' o'.length (cellsOf o'))
    (hat : ov'.ownBlock = ov.ownBlock ∨ ∀ b, ov'.ownBlock = some b → w.heap.size ≤ b) :
    Wk base n uv P Bm Bl (w1.setCell ⟨P, 3, none⟩ ov') ⟨s.met, s.least, o', s.grp⟩ ov' gv vs := by
  obtain ⟨l1, l2, l3⟩ := h.lt
  have aw : ∀ b, b < w.heap.size → ov.ownBlock ≠ some b → ov'.ownBlock ≠ some b := fun b hb h1 h2 => by
    rcases hat with e | e
    · exact h1 (e ▸ h2)
    · have := e b h2; omega
  have kp : ∀ b, b < w.heap.size → ov.ownBlock ≠ some b → w1.heap[b]? = w.heap[b]? := fun b hb h1 => hgrow.block b hb (Ne.symm h1)
  have gk : ∀ (v : Value) (q : List Nat), GRow base ov Bm Bl w v q → GRow base ov' Bm Bl (w1.setCell ⟨P, 3, none⟩ ov') v q := by
    intro v q g
    refine ⟨own_set (own_keep g.own fun b hb => kp b (g.own.lt _ hb).2 (hb ▸ g.bo)) (own_ne g.own h.hP (by decide)) _, g.ne, g.bm, g.bl, ?_⟩
    rcases hb : v.ownBlock with _ | b
    · rcases g.own.2 with ⟨_, h0⟩ | ⟨gg, _, _, rfl, _⟩
      · exact absurd (List.eq_nil_of_length_eq_zero h0) g.ne
      · simp [Value.ownBlock] at hb
    · exact aw b (g.own.lt _ hb).2 (hb ▸ g.bo)
  refine ⟨?_, ?_, ?_, h.ml, h.bP, h.bm, h.bl, h.lm, h.ll, own_set how (aw P l1 h.op) _, aw _ l2 h.om, aw _ l3 h.ol, own_set (own_keep h.hg fun b hb => kp b (h.hg.lt _ hb).2 (own_own_ne h.ho h.hg (by decide) b hb)) h.gp _, fun j q v h1 h2 => gk v q (h.gs j q v h1 h2)⟩
  · rw [set_row ((kp P l1 h.op).trans h.hP)]; rfl
  · rw [Below.heap_setCell _ _ _ _ h.pm.symm]; exact (kp _ l2 h.om).trans h.hm
  · rw [Below.heap_setCell _ _ _ _ h.pl.symm]; exact (kp _ l3 h.ol).trans h.hl

/-- A group more. -/
theorem Wk.setGroups (h : Wk base n uv P Bm Bl w s ov gv vs) {w1 : World} {gv' v : Value} {q : List Nat} (hgrow : w.grownBy w1 gv.ownBlock) (how : w1.ownsRow base 30 1 gv' (s.grp ++ [q]).length (vs ++ [v]))
    (hv : w.ownsRow base 3 1 v q.length (cellsOf q)) (hq : q ≠ []) (vm : v.ownBlock ≠ some Bm) (vl : v.ownBlock ≠ some Bl) (vo : ov.ownBlock ≠ v.ownBlock) :
    Wk base n uv P Bm Bl (w1.setCell ⟨P, 4, none⟩ gv') ⟨s.met, s.least, s.opn, s.grp ++ [q]⟩ ov gv' (vs ++ [v]) := by
  obtain ⟨l1, l2, l3⟩ := h.lt
  have kp : ∀ b, b < w.heap.size → gv.ownBlock ≠ some b → w1.heap[b]? = w.heap[b]? := fun b hb h1 => hgrow.block b hb (Ne.symm h1)
  have gk : ∀ (v : Value) (q : List Nat), GRow base ov Bm Bl w v q → GRow base ov Bm Bl (w1.setCell ⟨P, 4, none⟩ gv') v q := by
    intro v q g
    exact ⟨own_set (own_keep g.own fun b hb => kp b (g.own.lt _ hb).2 (own_own_ne h.hg g.own (by decide) b hb)) (own_ne g.own h.hP (by decide)) _, g.ne, g.bm, g.bl, g.bo⟩
  have hP1 : w1.heap[P]? = some (.cells #[uv, .slice (some ⟨Bm, 0, none⟩) n n, .slice (some ⟨Bl, 0, none⟩) n n, ov, gv] 35 (0, 0)) := (kp P l1 h.gp).trans h.hP
  have vl' : vs.length = s.grp.length := by have := h.hg.1; simpa using this
  refine ⟨?_, ?_, ?_, h.ml, h.bP, h.bm, h.bl, h.lm, h.ll, own_set (own_keep h.ho fun b hb => kp b (h.ho.lt _ hb).2 (own_own_ne h.hg h.ho (by decide) b hb)) h.op _, h.om, h.ol, own_set how (own_ne how hP1 (by decide)) _, ?_⟩
  · rw [set_row hP1]; rfl
  · rw [Below.heap_setCell _ _ _ _ h.pm.symm]; exact (kp _ l2 h.gm).trans h.hm
  · rw [Below.heap_setCell _ _ _ _ h.pl.symm]; exact (kp _ l3 h.gl).trans h.hl
  · intro j q' v' h1 h2
    rcases Nat.lt_or_ge j s.grp.length with hlt | hge
    · rw [List.getElem?_append_left hlt] at h1
      rw [List.getElem?_append_left (by omega)] at h2
      exact gk v' q' (h.gs j q' v' h1 h2)
    · have hj : j = s.grp.length := by
        have := (List.getElem?_eq_some_iff.1 h1).1
        simp at this; omega
      subst hj
      rw [List.getElem?_append_right (Nat.le_refl _)] at h1
      rw [← vl', List.getElem?_append_right (Nat.le_refl _)] at h2
      simp at h1 h2
      subst h1 h2
      exact gk v q ⟨hv, hq, vm, vl, vo⟩

theorem cut_own {w : World} {base : Nat} {g len cap at' : Nat} {l : List Nat} (h : w.ownsRow base 3 1 (.slice (some ⟨g, 0, none⟩) len cap) l.length (cellsOf l)) (hat : at' ≤ l.length) :
    w.ownsRow base 3 1 (.slice (some ⟨g, 0, none⟩) at' cap) (l.take at').length (cellsOf (l.take at')) := by
  rcases h.2 with ⟨h0, _⟩ | ⟨g', cap', cur, hv, hb, hg, h1, h2, h3, h4⟩
  · cases h0
  · injection hv with e1 e2 e3
    injection e1 with e1
    injection e1 with e1
    subst e1 e3
    have hl : (l.take at').length = at' := by simp; omega
    refine ⟨by simp [cellsOf_length], .inr ⟨_, cap, cur, by rw [hl], hb, hg, by omega, h2, h3, ?_⟩⟩
    have : cur.toList.take at' = (cur.toList.take (l.length * 1)).take at' := by rw [List.take_take]; congr 1; omega
    rw [hl, Nat.mul_one, this, h4]
    simp [cellsOf, intsOf, List.map_take]
end

theorem own_at {w : World} {base : Nat} {g len cap : Nat} {l : List Nat} (h : w.ownsRow base 3 1 (.slice (some ⟨g, 0, none⟩) len cap) l.length (cellsOf l)) (j : Nat) (hj : j < l.length) : w.cell? ⟨g, 0 + j, none⟩ = some (.int .i64 ((intsOf l).getD j 0)) := by
  have h1 := h.cells (g := g) rfl j (.int .i64 ((intsOf l).getD j 0)) (by rw [cellsOf_get, List.getElem?_eq_getElem hj]; simp [intsOf, hj])
  have hadd : (⟨g, 0, none⟩ : Addr).add j = ⟨g, 0 + j, none⟩ := by unfold Addr.add; split <;> simp_all
  rwa [hadd] at h1

theorem own_len {w : World} {base : Nat} {g len cap : Nat} {l : List Nat} (h : w.ownsRow base 3 1 (.slice (some ⟨g, 0, none⟩) len cap) l.length (cellsOf l)) : len = l.length ∧ len ≤ cap ∧ cap ≤ maxLen := by
  rcases h.2 with ⟨h0, _⟩ | ⟨g', cap', cur, hv, hb, hg, h1, h2, h3, h4⟩
  · cases h0
  · injection hv with e1 e2 e3
    subst e2 e3
    exact ⟨rfl, h1, h2⟩

theorem contains_row (base g len cap : Nat) (l : List Nat) (x : Nat) (w : World) (h : w.ownsRow base 3 1 (.slice (some ⟨g, 0, none⟩) len cap) l.length (cellsOf l)) :
    Calls Try.prog 19 #[.slice (some ⟨g, 0, none⟩) len cap, .int .i64 (x : Int)] w fun e w' => e = .returned (.bool (l.contains x)) ∧ w = w' := by
  obtain ⟨rfl, h1, h2⟩ := own_len h
  unfold maxLen at h2
  refine (Try.slices_Contains_int g 0 l.length cap (intsOf l) x w (by rw [intsOf_length]; exact Nat.le_refl _) (by omega) (fun j hj => own_at h j (by rw [intsOf_length] at hj; exact hj))).mono ?_
  rintro e w' ⟨rfl, rfl⟩
  refine ⟨?_, rfl⟩
  rw [List.take_of_length_le (by rw [intsOf_length]; exact Nat.le_refl _), ints_contains, List.contains_eq_mem]

theorem index_row (base g len cap : Nat) (l : List Nat) (x : Nat) (w : World) (h : w.ownsRow base 3 1 (.slice (some ⟨g, 0, none⟩) len cap) l.length (cellsOf l)) (hx : x ∈ l) :
    Calls Try.prog 20 #[.slice (some ⟨g, 0, none⟩) len cap, .int .i64 (x : Int)] w fun e w' => e = .returned (.int .i64 (l.idxOf x : Nat)) ∧ w = w' := by
  obtain ⟨rfl, h1, h2⟩ := own_len h
  unfold maxLen at h2
  refine (Try.slices_Index_int g 0 l.length cap (intsOf l) x w (by rw [intsOf_length]; exact Nat.le_refl _) (by omega) (fun j hj => own_at h j (by rw [intsOf_length] at hj; exact hj))).mono ?_
  rintro e w' ⟨rfl, rfl⟩
  refine ⟨?_, rfl⟩
  have hk := List.idxOf_lt_length_of_mem hx
  have := Lib.idxOf_hit (intsOf l) l.length (l.idxOf x) x hk (by rw [intsOf_length]; exact Nat.le_refl _) ?_ ?_
  · rw [this]
  · have e : l[l.idxOf x]'hk = x := List.getElem_idxOf hk
    simp [intsOf, List.getD_eq_getElem?_getD, List.getElem?_eq_getElem hk, e]
  · intro j hj hne
    have hjl : j < l.length := by omega
    have hne' : l[j] = x := by
      simp [intsOf, List.getD_eq_getElem?_getD, List.getElem?_eq_getElem hjl] at hne
      omega
    have h3 := List.not_of_lt_findIdx (p := (· == x)) (xs := l) (i := j) hj
    rw [hne'] at h3
    simp at h3

end Go.Proofs.Ytlffdipjddlceaa.Od

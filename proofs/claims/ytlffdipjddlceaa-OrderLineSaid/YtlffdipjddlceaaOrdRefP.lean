/- The document's Groups on plain lists (one round), and its rows in memory. -/
import Derived.Test.YtlffdipjddlceaaOrdGroups
namespace Go.Proofs.Ytlffdipjddlceaa.Od
open Go.RowKit

/-- who comes to whom, by the lists of comes -/
def RL (Ls : List (List Nat)) (x y : Nat) : Bool := (us Ls x).contains y

theorem RL_ok {g Ls : List (List Nat)} (h : ∀ x, x < g.length → ComeSt g x (us Ls x).length (us Ls x)) : ∀ x y, x < g.length → y < g.length → (RL Ls x y = true ↔ Reach g x y) := by
  intro x y hx _
  unfold RL
  rw [List.contains_iff_mem, (h x hx).whole y]

structure RefSt (g gs D : List (List Nat)) (D' : List Nat) (T : List Nat) (O : List (List Nat)) : Prop where
  dn : Done g gs D'
  same : ∀ x, x < g.length → (x ∈ T ↔ ofL gs x ∈ D')
  nd : T.Nodup
  lt : ∀ x ∈ T, x < g.length
  out : O ++ toldGo g gs (gs.length - D'.length) D' = toldL g gs
  ol : O.length = D'.length
  emp : D = []

theorem RefSt.start (g gs : List (List Nat)) : RefSt g gs [] [] [] [] := ⟨⟨by simp, by simp, by simp⟩, by simp, by simp, by simp, by simp [toldL], rfl, rfl⟩

theorem RefSt.tl {g gs D : List (List Nat)} {D' T : List Nat} {O : List (List Nat)} (h : RefSt g gs D D' T O) : T.length ≤ g.length := by
  have := pigeon T (List.range g.length) h.nd (fun x hx => List.mem_range.2 (h.lt x hx))
  simpa using this

theorem RefSt.le {g gs D : List (List Nat)} {D' T : List Nat} {O : List (List Nat)} (h : RefSt g gs D D' T O) : D'.length ≤ gs.length := by
  have := pigeon D' (List.range gs.length) h.dn.nd (fun x hx => List.mem_range.2 (h.dn.lt x hx))
  simpa using this

theorem RefSt.more {g gs D : List (List Nat)} {D' T : List Nat} {O : List (List Nat)} (h : RefSt g gs D D' T O) (hS : Sccs g gs) (ht : T.length < g.length) : D'.length < gs.length := by
  rcases Nat.lt_or_ge D'.length gs.length with h1 | h1
  · exact h1
  · exfalso
    have h2 : ∀ j, j < gs.length → j ∈ D' := by
      intro j hj
      rcases Classical.em (j ∈ D') with e | e
      · exact e
      · have h3 : (j :: D').Nodup := List.nodup_cons.2 ⟨e, h.dn.nd⟩
        have := pigeon (j :: D') (List.range gs.length) h3 (fun x hx => by
          rcases List.mem_cons.1 hx with rfl | hx
          · exact List.mem_range.2 hj
          · exact List.mem_range.2 (h.dn.lt x hx))
        simp at this; omega
    have h4 : ∀ x ∈ List.range g.length, x ∈ T := by
      intro x hx
      have hx' := List.mem_range.1 hx
      obtain ⟨q, hq, _⟩ := ofL_spec hS hx'
      exact (h.same x hx').2 (h2 _ (List.getElem?_eq_some_iff.1 hq).1)
    have := pigeon _ _ List.nodup_range h4
    simp at this; omega

theorem RefSt.done {g gs D : List (List Nat)} {D' T : List Nat} {O : List (List Nat)} (h : RefSt g gs D D' T O) (hS : Sccs g gs) (ht : ¬ T.length < g.length) : toldL g gs = O := by
  have h4 : ∀ x, x < g.length → x ∈ T := by
    intro x hx
    rcases Classical.em (x ∈ T) with e | e
    · exact e
    · have h3 : (x :: T).Nodup := List.nodup_cons.2 ⟨e, h.nd⟩
      have := pigeon (x :: T) (List.range g.length) h3 (fun y hy => by
        rcases List.mem_cons.1 hy with rfl | hy
        · exact List.mem_range.2 hx
        · exact List.mem_range.2 (h.lt y hy))
      simp at this; omega
  have hn : D'.length = gs.length := by
    rcases Nat.lt_or_ge D'.length gs.length with h1 | h1
    · exfalso
      obtain ⟨j, q, h5, h6, h7⟩ := next_some hS h.dn h1
      obtain ⟨x, hx⟩ : ∃ x, x ∈ q := List.exists_mem_of_ne_nil _ (hS.gso _ (List.mem_of_getElem? h6)).1
      have hxl : x < g.length := (hS.all x).2 ⟨_, List.mem_of_getElem? h6, hx⟩
      have h8 := (h.same x hxl).1 (h4 x hxl)
      rw [ofL_eq hS h6 hx] at h8
      exact ((ready_iff h6).1 h7).1 h8
    · have := h.le; omega
  have := h.out
  rw [hn, Nat.sub_self] at this
  rw [← this]; simp [toldGo]

/-- none of the first i is ready -/
def NoneYet (R : Nat → Nat → Bool) (n : Nat) (T : List Nat) (i : Nat) : Prop := ∀ j, j < i → readyR R n T j = false

theorem RefSt.found {g gs D : List (List Nat)} {D' T : List Nat} {O : List (List Nat)} {R : Nat → Nat → Bool} (h : RefSt g gs D D' T O) (hS : Sccs g gs) (hv : Valid g) (hR : ∀ x y, x < g.length → y < g.length → (R x y = true ↔ Reach g x y))
    (ht : T.length < g.length) (hn : NoneYet R g.length T g.length) : False := by
  obtain ⟨j, q, h5, h6, h7⟩ := next_some hS h.dn (h.more hS ht)
  obtain ⟨x, hx⟩ : ∃ x, x ∈ q := List.exists_mem_of_ne_nil _ (hS.gso _ (List.mem_of_getElem? h6)).1
  have hxl : x < g.length := (hS.all x).2 ⟨_, List.mem_of_getElem? h6, hx⟩
  have h8 := ready_same hS hv h.dn hR h.same hxl
  rw [ofL_eq hS h6 hx, h7, hn x hxl] at h8
  cases h8

theorem RefSt.next {g gs D : List (List Nat)} {D' T : List Nat} {O : List (List Nat)} {R : Nat → Nat → Bool} (h : RefSt g gs D D' T O) (hS : Sccs g gs) (hv : Valid g) (hR : ∀ x y, x < g.length → y < g.length → (R x y = true ↔ Reach g x y))
    (ht : T.length < g.length) {i : Nat} (hi : i < g.length) (hn : NoneYet R g.length T i) (hr : readyR R g.length T i = true) : RefSt g gs [] (D' ++ [ofL gs i]) (T ++ groupOf R g.length i) (O ++ [groupOf R g.length i]) := by
  have hfi : (List.range g.length).find? (readyR R g.length T) = some i := by
    rw [List.find?_eq_some_iff_getElem]
    refine ⟨hr, i, by simpa using hi, by simp, fun j hj => by simp [hn j hj]⟩
  have hf : (List.range g.length).find? (fun i => ready g gs D' (ofL gs i)) = (List.range g.length).find? (readyR R g.length T) :=
    find_same _ fun x hx => ready_same hS hv h.dn hR h.same (by simpa using hx)
  obtain ⟨q, hq, hiq⟩ := ofL_spec hS hi
  have hri : ready g gs D' (ofL gs i) = true := by rw [ready_same hS hv h.dn hR h.same hi]; exact hr
  have hgq : groupOf R g.length i = q := by rw [group_same hS hR hi, getD_of hq]
  have hqm := List.mem_of_getElem? hq
  have hnx : nextL g gs D' = some (ofL gs i) := by unfold nextL; rw [hf, hfi]; rfl
  have hml := h.more hS ht
  rw [hgq]
  refine ⟨done_next h.dn hq hri, fun x hx => ?_, ?_, fun x hx => ?_, ?_, by simp [h.ol], rfl⟩
  · rw [List.mem_append, List.mem_append, h.same x hx, List.mem_singleton]
    constructor
    · rintro (e | e)
      · exact .inl e
      · exact .inr (ofL_eq hS hq e)
    · rintro (e | e)
      · exact .inl e
      · right
        obtain ⟨r, hr, hxr⟩ := ofL_spec hS hx
        rw [e, hq] at hr
        cases hr; exact hxr
  · rw [List.nodup_append]
    refine ⟨h.nd, (hS.gso q hqm).2.imp fun {a b} hab => by omega, fun a ha b hb e => ?_⟩
    subst e
    have := (h.same a (h.lt a ha)).1 ha
    rw [ofL_eq hS hq hb] at this
    exact ((ready_iff hq).1 hri).1 this
  · rcases List.mem_append.1 hx with hx | hx
    · exact h.lt x hx
    · exact (hS.all x).2 ⟨q, hqm, hx⟩
  · have h1 := h.out
    rw [show gs.length - D'.length = (gs.length - (D'.length + 1)) + 1 by omega, toldGo, hnx] at h1
    simp only at h1
    rw [getD_of hq] at h1
    rw [List.length_append, List.append_assoc]
    exact h1

/-- within a thing's round: the first k things looked at -/
def readyK (R : Nat → Nat → Bool) (T : List Nat) (i k : Nat) : Bool := (List.range k).all fun k => !(R i k) || R k i || T.contains k
def groupK (R : Nat → Nat → Bool) (i k : Nat) : List Nat := (List.range k).filter fun k => R i k && R k i

theorem readyK_succ (R : Nat → Nat → Bool) (T : List Nat) (i k : Nat) : readyK R T i (k + 1) = (readyK R T i k && (!(R i k) || R k i || T.contains k)) := by
  unfold readyK; rw [List.range_succ, List.all_append]; simp
theorem groupK_succ (R : Nat → Nat → Bool) (i k : Nat) : groupK R i (k + 1) = if R i k && R k i then groupK R i k ++ [k] else groupK R i k := by
  unfold groupK; rw [List.range_succ, List.filter_append]
  cases h : R i k && R k i <;> simp [h]
theorem groupK_len (R : Nat → Nat → Bool) (i k : Nat) : (groupK R i k).length ≤ k := by
  unfold groupK
  have := List.length_filter_le (fun k => R i k && R k i) (List.range k)
  simpa using this
theorem readyR_not (R : Nat → Nat → Bool) (n : Nat) (T : List Nat) (i : Nat) (h : T.contains i = false) : readyR R n T i = readyK R T i n := by
  unfold readyR readyK; rw [h]; simp
theorem readyR_told (R : Nat → Nat → Bool) (n : Nat) (T : List Nat) (i : Nat) (h : T.contains i = true) : readyR R n T i = false := by
  unfold readyR; rw [h]; rfl
theorem NoneYet.succ {R : Nat → Nat → Bool} {n : Nat} {T : List Nat} {i : Nat} (h : NoneYet R n T i) (hi : readyR R n T i = false) : NoneYet R n T (i + 1) := by
  intro j hj
  by_cases e : j = i
  · subst e; exact hi
  · exact h j (by omega)

/-! ### memory -/

/-- slices, each of an own row of numbers -/
structure Rows2 (base : Nat) (w : World) (v : Value) (Ls : List (List Nat)) (vs : List Value) : Prop where
  own : w.ownsRow base 30 1 v Ls.length vs
  at_ : ∀ (j : Nat) (q : List Nat) (x : Value), Ls[j]? = some q → vs[j]? = some x → w.ownsRow base 3 1 x q.length (cellsOf q)

theorem Rows2.nil (base : Nat) (w : World) : Rows2 base w (.slice none 0 0) [] [] := ⟨World.ownsRow_nil _ _ _ _, by simp⟩

theorem Rows2.keep {base : Nat} {w w' : World} {v : Value} {Ls : List (List Nat)} {vs : List Value} (h : Rows2 base w v Ls vs) (hk : ∀ b, b < w.heap.size → w'.heap[b]? = w.heap[b]?) : Rows2 base w' v Ls vs :=
  ⟨own_keep h.own fun b hb => hk b (h.own.lt _ hb).2, fun j q x h1 h2 => own_keep (h.at_ j q x h1 h2) fun b hb => hk b ((h.at_ j q x h1 h2).lt _ hb).2⟩

theorem Rows2.add {base : Nat} {w w' : World} {v v' x : Value} {Ls : List (List Nat)} {vs : List Value} {q : List Nat} (h : Rows2 base w v Ls vs) (hx : w.ownsRow base 3 1 x q.length (cellsOf q)) (hg : w.grownBy w' v.ownBlock)
    (ho : w'.ownsRow base 30 1 v' (Ls.length + 1) (vs ++ [x])) : Rows2 base w' v' (Ls ++ [q]) (vs ++ [x]) := by
  have hl : vs.length = Ls.length := by have := h.own.1; simpa using this
  have kp : ∀ (y : Value) (r : List Nat), w.ownsRow base 3 1 y r.length (cellsOf r) → w'.ownsRow base 3 1 y r.length (cellsOf r) := fun y r hy =>
    own_keep hy fun b hb => hg.block b (hy.lt _ hb).2 (Ne.symm (own_own_ne h.own hy (by decide) b hb))
  refine ⟨by rw [List.length_append]; exact ho, fun j q' x' h1 h2 => ?_⟩
  rcases Nat.lt_or_ge j Ls.length with hlt | hge
  · rw [List.getElem?_append_left hlt] at h1
    rw [List.getElem?_append_left (by omega)] at h2
    exact kp x' q' (h.at_ j q' x' h1 h2)
  · have hj : j = Ls.length := by
      have := (List.getElem?_eq_some_iff.1 h1).1
      simp at this; omega
    subst hj
    rw [List.getElem?_append_right (Nat.le_refl _)] at h1
    rw [← hl, List.getElem?_append_right (Nat.le_refl _)] at h2
    simp at h1 h2
    subst h1 h2
    exact kp x q hx

theorem Rows2.rows {base : Nat} {w : World} {v : Value} {Ls : List (List Nat)} {vs : List Value} (h : Rows2 base w v Ls vs) (hl : Ls.length ≤ 500) (hq : ∀ q ∈ Ls, q.length ≤ 500) : RowsAt w.heap.size w v (rowsOf Ls) := by
  have hvl : vs.length = Ls.length := by have := h.own.1; simpa using this
  rcases h.own.2 with ⟨rfl, h0⟩ | ⟨gg, cap, cur, rfl, _, hg, h1, h2, h3, h4⟩
  · have e0 : Ls = [] := List.eq_nil_of_length_eq_zero h0
    subst e0
    exact ⟨none, 0, rfl, by simp [rowsOf], fun h => absurd h (by simp [rowsOf])⟩
  · refine ⟨_, cap, by rw [rowsOf_length], by rw [rowsOf_length]; omega, fun _ => ⟨gg, 0, rfl, lt_of_get hg, fun j hj => ?_⟩⟩
    have hj' : j < Ls.length := by rw [rowsOf_length] at hj; exact hj
    have hv : vs[j]? = some vs[j] := List.getElem?_eq_getElem (by omega)
    refine ⟨vs[j], ?_, ?_⟩
    · have h5 : (cur.toList.take (Ls.length * 1))[j]? = some vs[j] := by rw [h4]; exact hv
      rw [List.getElem?_take, if_pos (by omega)] at h5
      simp only [World.cell?, hg, Nat.zero_add]
      simpa using h5
    · have e : (rowsOf Ls)[j] = intsOf Ls[j] := by simp [rowsOf]
      rw [e]
      exact ints_of_owns (by have := hq Ls[j] (List.getElem_mem hj'); omega) (h.at_ j _ _ (List.getElem?_eq_getElem hj') hv)

/-- what was told, and the groups -/
structure TO (base : Nat) (w : World) (tv ov : Value) (T : List Nat) (O : List (List Nat)) (vs : List Value) : Prop where
  t : w.ownsRow base 3 1 tv T.length (cellsOf T)
  o : Rows2 base w ov O vs
  ap : ∀ x ∈ vs, ∀ b, tv.ownBlock = some b → x.ownBlock ≠ some b

theorem TO.keep {base : Nat} {w w' : World} {tv ov : Value} {T : List Nat} {O : List (List Nat)} {vs : List Value} (h : TO base w tv ov T O vs) (hk : ∀ b, b < w.heap.size → w'.heap[b]? = w.heap[b]?) : TO base w' tv ov T O vs :=
  ⟨own_keep h.t fun b hb => hk b (h.t.lt _ hb).2, h.o.keep hk, h.ap⟩

theorem TO.addOut {base : Nat} {w w' : World} {tv ov ov' gv : Value} {T : List Nat} {O : List (List Nat)} {vs : List Value} {q : List Nat} (h : TO base w tv ov T O vs) (hg : w.ownsRow base 3 1 gv q.length (cellsOf q)) (hap : ∀ b, tv.ownBlock = some b → gv.ownBlock ≠ some b)
    (hgrow : w.grownBy w' ov.ownBlock) (ho : w'.ownsRow base 30 1 ov' (O.length + 1) (vs ++ [gv])) : TO base w' tv ov' T (O ++ [q]) (vs ++ [gv]) := by
  refine ⟨own_keep h.t fun b hb => hgrow.block b (h.t.lt _ hb).2 (Ne.symm (own_own_ne h.o.own h.t (by decide) b hb)), h.o.add hg hgrow ho, fun x hx => ?_⟩
  rcases List.mem_append.1 hx with hx | hx
  · exact h.ap x hx
  · rw [List.mem_singleton.1 hx]; exact hap

theorem TO.addTold {base : Nat} {w w' : World} {tv tv' ov : Value} {T T' : List Nat} {O : List (List Nat)} {vs : List Value} (h : TO base w tv ov T O vs) (hgrow : w.grownBy w' tv.ownBlock) (ho : w'.ownsRow base 3 1 tv' T'.length (cellsOf T'))
    (hat : ∀ b, tv'.ownBlock = some b → tv.ownBlock = some b ∨ w.heap.size ≤ b) : TO base w' tv' ov T' O vs := by
  have hvl : vs.length = O.length := by have := h.o.own.1; simpa using this
  refine ⟨ho, ⟨own_keep h.o.own fun b hb => hgrow.block b (h.o.own.lt _ hb).2 (Ne.symm (own_own_ne h.t h.o.own (by decide) b hb)), fun j q x h1 h2 => ?_⟩, fun x hx b hb hxb => ?_⟩
  · have hx := h.o.at_ j q x h1 h2
    exact own_keep hx fun b hb => hgrow.block b (hx.lt _ hb).2 (fun e => h.ap x (List.mem_of_getElem? h2) b e.symm hb)
  · rcases hat b hb with e | e
    · exact h.ap x hx b e hxb
    · obtain ⟨j, hj⟩ := List.mem_iff_getElem?.1 hx
      have hjl : j < O.length := by have := (List.getElem?_eq_some_iff.1 hj).1; omega
      have := ((h.o.at_ j _ x (List.getElem?_eq_getElem hjl) hj).lt _ hxb).2
      omega

end Go.Proofs.Ytlffdipjddlceaa.Od

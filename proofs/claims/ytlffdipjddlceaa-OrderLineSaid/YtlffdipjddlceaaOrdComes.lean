/- The contract of the document's comes: what a thing comes to. -/
import Derived.Test.YtlffdipjddlceaaOrdSame
import Derived.Test.YtlffdipjddlceaaOrdTold
import Derived.Deep.AppendLies
import Derived.Deep.RegionHeld3
import Derived.OwnWalk
import Derived.Maps.OwnRows
namespace Go.Proofs.Ytlffdipjddlceaa.Od
open Go.RowKit


def intsOf (l : List Nat) : List Int := l.map fun x : Nat => (x : Int)
def rowsOf (g : List (List Nat)) : List (List Int) := g.map intsOf

theorem intsOf_length (l : List Nat) : (intsOf l).length = l.length := by simp [intsOf]
theorem rowsOf_length (g : List (List Nat)) : (rowsOf g).length = g.length := by simp [rowsOf]

theorem infoInt : (Try.prog.info? 3).map (fun i => (i.zero, i.size, i.bytes)) = some (some (.int .i64 0), 1, 8) := by kernel_rfl

theorem us_get {g : List (List Nat)} {i : Nat} (h : i < g.length) : us g i = g[i] := by
  unfold us; rw [List.getD_eq_getElem?_getD, List.getElem?_eq_getElem h]; rfl

theorem rows_row {n₀ : Nat} {w : World} {v : Value} {g : List (List Nat)} (h : RowsAt n₀ w v (rowsOf g)) {i : Nat} (hi : i < g.length) :
    ∃ b off cap a cap', v = .slice (some ⟨b, off, none⟩) g.length cap ∧ b < n₀ ∧ w.cell? ⟨b, off + i, none⟩ = some (.slice a (us g i).length cap') ∧ IntsAt n₀ w (.slice a (us g i).length cap') (intsOf (us g i)) := by
  obtain ⟨a, cap, rfl, hl, hc⟩ := h
  have hi' : i < (rowsOf g).length := by rw [rowsOf_length]; exact hi
  obtain ⟨b, off, rfl, hb, hcc⟩ := hc (by omega)
  obtain ⟨rv, h1, h2⟩ := hcc i hi'
  rw [rowsOf_length]
  have e : (rowsOf g)[i] = intsOf (us g i) := by simp [rowsOf, us_get hi]
  rw [e] at h2
  obtain ⟨a', cap', rfl, h3, h4⟩ := h2
  rw [intsOf_length] at h1
  exact ⟨b, off, cap, a', cap', rfl, hb, h1, a', cap', by rw [intsOf_length], h3, h4⟩

theorem ints_get {n₀ : Nat} {w : World} {a : Option Addr} {len cap : Nat} {l : List Nat} (h : IntsAt n₀ w (.slice a len cap) (intsOf l)) {j : Nat} (hj : j < l.length) :
    ∃ b off, a = some ⟨b, off, none⟩ ∧ b < n₀ ∧ w.cell? ⟨b, off + j, none⟩ = some (.int .i64 (l[j] : Nat)) := by
  obtain ⟨a', cap', he, hl, hc⟩ := h
  injection he with e1 e2 e3
  subst e1
  have hj' : j < (intsOf l).length := by rw [intsOf_length]; exact hj
  obtain ⟨b, off, rfl, hb, hcc⟩ := hc (by omega)
  exact ⟨b, off, rfl, hb, by rw [hcc j hj']; simp [intsOf]⟩

theorem ints_of_owns {w : World} {base : Nat} {v : Value} {l : List Nat} {e : TypeId} (hb : l.length ≤ 9223372036854775807) (h : w.ownsRow base e 1 v l.length ((intsOf l).map (Value.int .i64))) : IntsAt w.heap.size w v (intsOf l) := by
  rcases h.2 with ⟨rfl, hz⟩ | ⟨g, cap, cur, rfl, _, hg, h1, h2, h3, h4⟩
  · obtain rfl : l = [] := List.eq_nil_of_length_eq_zero hz
    exact ⟨none, 0, rfl, by simp [intsOf], fun h => absurd h (by simp [intsOf])⟩
  · refine ⟨_, cap, by rw [intsOf_length], by rw [intsOf_length]; omega, fun _ => ⟨g, 0, rfl, (Array.getElem?_eq_some_iff.1 hg).1, fun j hj => ?_⟩⟩
    have hj' : j < l.length := by rw [intsOf_length] at hj; exact hj
    have h5 : (cur.toList.take (l.length * 1))[j]? = some (.int .i64 (intsOf l)[j]) := by rw [h4]; simp [hj]
    rw [List.getElem?_take] at h5
    rw [if_pos (by omega)] at h5
    simp only [World.cell?, hg, Nat.zero_add]
    simpa using h5

structure ComeSt (g : List (List Nat)) (i k : Nat) (L : List Nat) : Prop where
  nd : L.Nodup
  lt : ∀ x ∈ L, x < g.length
  re : ∀ x ∈ L, Reach g i x
  me : i ∈ L
  cl : ∀ x ∈ L.take k, ∀ y ∈ us g x, y ∈ L
  kl : k ≤ L.length

theorem ComeSt.start {g : List (List Nat)} {i : Nat} (hi : i < g.length) : ComeSt g i 0 [i] :=
  ⟨by simp, by simpa using hi, by simpa using Reach.refl i, by simp, by simp, by simp⟩

theorem ComeSt.len {g : List (List Nat)} {i k : Nat} {L : List Nat} (h : ComeSt g i k L) : L.length ≤ g.length := by
  have := pigeon L (List.range g.length) h.nd (fun x hx => List.mem_range.2 (h.lt x hx))
  simpa using this

theorem ComeSt.add {g : List (List Nat)} {i k : Nat} {L : List Nat} (h : ComeSt g i k L) (hv : Valid g) {x y : Nat} (hx : x ∈ L) (hy : y ∈ us g x) (hn : y ∉ L) : ComeSt g i k (L ++ [y]) := by
  refine ⟨?_, ?_, ?_, by simp [h.me], ?_, by have := h.kl; simp; omega⟩
  · rw [List.nodup_append]; exact ⟨h.nd, by simp, fun a ha b hb => by simp at hb; subst hb; intro e; subst e; exact hn ha⟩
  · intro z hz
    rcases List.mem_append.1 hz with hz | hz
    · exact h.lt z hz
    · simp at hz; subst hz; exact hv x z hy
  · intro z hz
    rcases List.mem_append.1 hz with hz | hz
    · exact h.re z hz
    · simp at hz; subst hz; exact (h.re x hx).trans (Reach.edge hy)
  · intro z hz u hu
    rw [List.take_append_of_le_length h.kl] at hz
    exact List.mem_append_left _ (h.cl z hz u hu)

theorem ComeSt.next {g : List (List Nat)} {i k : Nat} {L : List Nat} (h : ComeSt g i k L) (hk : k < L.length) (hc : ∀ y ∈ us g L[k], y ∈ L) : ComeSt g i (k + 1) L := by
  refine ⟨h.nd, h.lt, h.re, h.me, ?_, hk⟩
  intro x hx
  rw [List.take_add_one, List.getElem?_eq_getElem hk] at hx
  rcases List.mem_append.1 hx with hx | hx
  · exact h.cl x hx
  · simp at hx; subst hx; exact hc

theorem ComeSt.whole {g : List (List Nat)} {i : Nat} {L : List Nat} (h : ComeSt g i L.length L) (x : Nat) : x ∈ L ↔ Reach g i x := by
  refine ⟨h.re x, fun r => ?_⟩
  have hc : ∀ x ∈ L, ∀ y ∈ us g x, y ∈ L := by have := h.cl; rwa [List.take_length] at this
  have : ∀ a b, Reach g a b → a ∈ L → b ∈ L := by
    intro a b r
    induction r with
    | refl => exact id
    | step hab _ ih => exact fun ha => ih (hc _ ha _ hab)
  exact this i x r h.me

end Go.Proofs.Ytlffdipjddlceaa.Od

/- Texts laid together: TySet. -/
import Derived.MapKept
import Derived.WalkKit
import Derived.Below
import Derived.ChangeMaps4

/- A set of names, kept as a map: reading it, adding a name. -/
namespace Go.Proofs.YtifaaihekgnhiaaDoor.Tp
open Go.RowKit Go.MapKept

/-- Block b is a map that holds just the names ns, each with true. -/
def SetAt (w : World) (b : Nat) (ns : ByteArray → Prop) : Prop :=
  ∃ es clock, w.heap[b]? = some (.map es clock) ∧ (∀ x ∈ es.toList, ∃ s, x.key = .string s ∧ x.val = .bool true) ∧ ∀ s, ns s ↔ ∃ x ∈ es.toList, x.key = .string s

theorem SetAt.lt {w : World} {b : Nat} {ns : ByteArray → Prop} (h : SetAt w b ns) : b < w.heap.size := by
  obtain ⟨es, clock, hb, _⟩ := h
  exact (Array.getElem?_eq_some_iff.1 hb).1

theorem SetAt.keep {w w' : World} {b : Nat} {ns : ByteArray → Prop} (h : SetAt w b ns) (hb : w'.heap[b]? = w.heap[b]?) : SetAt w' b ns := by
  obtain ⟨es, clock, h1, h2⟩ := h
  exact ⟨es, clock, hb.trans h1, h2⟩

theorem SetAt.congr {w : World} {b : Nat} {ns ns' : ByteArray → Prop} (h : SetAt w b ns) (e : ∀ s, ns s ↔ ns' s) : SetAt w b ns' := by
  obtain ⟨es, clock, h1, h2, h3⟩ := h
  exact ⟨es, clock, h1, h2, fun s => (e s).symm.trans (h3 s)⟩

theorem SetAt.made (w : World) : SetAt (w.alloc (.map #[] 0)) w.heap.size (fun _ => False) :=
  ⟨#[], 0, (heap_alloc w _).1, by simp, by simp⟩

theorem SetAt.made_at {w : World} {n : Nat} (h : w.heap.size = n) : SetAt (w.alloc (.map #[] 0)) n (fun _ => False) := h ▸ SetAt.made w

theorem SetAt.lookup {P : Program} {w : World} {b : Nat} {ns : ByteArray → Prop} (h : SetAt w b ns) {t k e : TypeId} (ht : P.underlying t = some (.map k e)) (hk : P.underlying k = some .string)
    (hz : (zeroValue e).run P w = .ok (.bool false) w) (s : ByteArray) {c : Bool} (hc : c = true ↔ ns s) : (Instr.lookup t (.map (some b)) (.string s) false).run P w = .ok (.bool c) w := by
  obtain ⟨es, clock, hb, hv, hn⟩ := h
  have hks : ∀ x ∈ es.toList, IsKey .string x.key := fun x hx => by obtain ⟨s, hs, _⟩ := hv x hx; rw [hs]; simp [IsKey]
  rcases findNow_spec (d := .string) (k := .string s) (by simp [IsKey]) es.toList 0 hks with ⟨h1, h2⟩ | ⟨j, e0, h1, h2, h3⟩
  · have : c = false := by
      cases c with
      | false => rfl
      | true =>
        obtain ⟨x, hx, hx2⟩ := (hn s).1 (hc.1 rfl)
        exact absurd hx2 (h2 x hx)
    subst this
    simp [Instr.lookup, run_underlying ht, MapKept.run_getObj_map hb, run_checkKey hk (show IsKey .string (.string s) by simp [IsKey]), run_findKey hk h1, hz, Result.andThen]
  · have hm : e0 ∈ es.toList := List.mem_of_getElem? h2
    obtain ⟨s', _, hval⟩ := hv e0 hm
    have : c = true := hc.2 ((hn s).2 ⟨e0, hm, h3⟩)
    subst this
    simp [Instr.lookup, run_underlying ht, MapKept.run_getObj_map hb, run_checkKey hk (show IsKey .string (.string s) by simp [IsKey]), run_findKey hk h1, hval, Result.andThen]

theorem SetAt.update {P : Program} {w : World} {b : Nat} {ns : ByteArray → Prop} (h : SetAt w b ns) {t k e : TypeId} (ht : P.underlying t = some (.map k e)) (hk : P.underlying k = some .string) (s : ByteArray) :
    ∃ w', (Instr.mapUpdate t (.map (some b)) (.string s) (.bool true)).run P w = .ok () w' ∧ SetAt w' b (fun x => x = s ∨ ns x) ∧ w.grownBy w' (some b) := by
  obtain ⟨es, clock, hb, hv, hn⟩ := h
  have hks : ∀ x ∈ es.toList, IsKey .string x.key := fun x hx => by obtain ⟨s, hs, _⟩ := hv x hx; rw [hs]; simp [IsKey]
  have hs : IsKey .string (.string s) := by simp [IsKey]
  have grown : ∀ o : Obj, w.grownBy { w with heap := w.heap.setIfInBounds b o } (some b) := fun o => ⟨rfl, rfl, rfl, by simp, fun i _ hi => (heap_set hb).2 i (fun e => hi (by rw [e]))⟩
  rcases findNow_spec (d := .string) (k := .string s) hs es.toList 0 hks with ⟨h1, h2⟩ | ⟨j, e0, h1, h2, h3⟩
  · refine ⟨{ w with heap := w.heap.setIfInBounds b (.map (es.push { key := .string s, val := .bool true, born := clock }) (clock + 1)) },
      by simp [Instr.mapUpdate, run_underlying ht, MapKept.run_getObj_map hb, run_checkKey hk hs, run_findKey hk h1, run_setObj_map _ hb, Result.andThen], ⟨_, _, (heap_set hb).1, ?_, ?_⟩, grown _⟩
    · intro x hx
      simp only [Array.toList_push, List.mem_append, List.mem_singleton] at hx
      rcases hx with hx | rfl
      · exact hv x hx
      · exact ⟨s, rfl, rfl⟩
    · intro s'
      simp only [Array.toList_push, List.mem_append, List.mem_singleton, hn s']
      constructor
      · rintro (rfl | ⟨x, hx, hx2⟩)
        · exact ⟨_, .inr rfl, rfl⟩
        · exact ⟨x, .inl hx, hx2⟩
      · rintro ⟨x, hx | rfl, hx2⟩
        · exact .inr ⟨x, hx, hx2⟩
        · simp only [Value.string.injEq] at hx2; exact .inl hx2.symm
  · have hj : es[j]? = some e0 := by simpa using h2
    have hm : e0 ∈ es.toList := List.mem_of_getElem? h2
    have hval : e0.val = .bool true := by obtain ⟨_, _, h⟩ := hv e0 hm; exact h
    have hsame : es.modify j (fun e => { e with key := .string s, val := .bool true }) = es := by
      apply Array.ext_getElem?
      intro i
      rw [Array.getElem?_modify]
      split
      · next hij =>
        subst hij
        rw [hj, ← h3, ← hval]; rfl
      · rfl
    refine ⟨{ w with heap := w.heap.setIfInBounds b (.map (es.modify j (fun e => { e with key := .string s, val := .bool true })) clock) },
      by simp [Instr.mapUpdate, run_underlying ht, MapKept.run_getObj_map hb, run_checkKey hk hs, run_findKey hk h1, hj, h3, run_keyThatStays hs, run_setObj_map _ hb, Result.andThen], ⟨_, _, (heap_set hb).1, ?_, ?_⟩, grown _⟩
    · rw [hsame]; exact hv
    · rw [hsame]
      intro s'
      show (s' = s ∨ ns s') ↔ _
      rw [hn s']
      exact ⟨fun h => h.elim (fun e => by subst e; exact ⟨e0, hm, h3⟩) id, .inr⟩

end Go.Proofs.YtifaaihekgnhiaaDoor.Tp

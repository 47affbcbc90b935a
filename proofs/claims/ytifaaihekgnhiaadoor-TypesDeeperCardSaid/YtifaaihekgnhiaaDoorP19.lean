/- Texts laid together: TyKp, TyClone. -/
import Derived.Test.YtifaaihekgnhiaaDoorP18
import Derived.Test.YtifaaihekgnhiaaDoorP08
import Derived.Laws.OwnMore
import Derived.Shelf.SlMaps.Clone

/- What a call leaves as it was, but for some blocks; names in memory. -/
namespace Go.Proofs.YtifaaihekgnhiaaDoor.Tp
open Go.RowKit

/-- below block n, w is as a was, but for the blocks of T -/
structure Kp (n : Nat) (T : Nat → Prop) (a w : World) : Prop where
  os : w.os = a.os
  tape : w.tape = a.tape
  output : w.output = a.output
  size : a.heap.size ≤ w.heap.size
  block : ∀ k, k < n → ¬ T k → w.heap[k]? = a.heap[k]?

section
variable {n m : Nat} {T T' : Nat → Prop} {a w w' : World}
theorem Kp.refl (n : Nat) (T : Nat → Prop) (a : World) : Kp n T a a := ⟨rfl, rfl, rfl, Nat.le_refl _, fun _ _ _ => rfl⟩
theorem Kp.of_below (h : Below n a w) : Kp n T a w := ⟨h.os, h.tape, h.output, h.size, fun k hk _ => h.block k hk⟩
theorem Kp.trans (h : Kp n T a w) (h' : Kp m T' w w') (hn : n ≤ m) (hT : ∀ b, b < n → T' b → T b) : Kp n T a w' :=
  ⟨h'.os.trans h.os, h'.tape.trans h.tape, h'.output.trans h.output, Nat.le_trans h.size h'.size, fun k hk ht => (h'.block k (by omega) (fun e => ht (hT k hk e))).trans (h.block k hk ht)⟩
theorem Kp.mono (h : Kp m T a w) (hn : n ≤ m) (hT : ∀ b, b < n → T b → T' b) : Kp n T' a w := ⟨h.os, h.tape, h.output, h.size, fun k hk ht => h.block k (by omega) (fun e => ht (hT k hk e))⟩
theorem Kp.below (h : Kp n T a w) (h' : Below m w w') (hn : n ≤ m) : Kp n T a w' := h.trans (T' := fun _ => False) (.of_below h') hn (fun _ _ e => e.elim)
theorem Kp.alloc (h : Kp n T a w) (hn : n ≤ w.heap.size) (o : Obj) : Kp n T a (w.alloc o) := h.below ((Below.refl _ _).alloc (Nat.le_refl _) o) hn
theorem Kp.drew (h : Kp n T a w) : Kp n T a w.drew := ⟨h.os, h.tape, h.output, h.size, h.block⟩
theorem Kp.setCell (h : Kp n T a w) {p : Addr} (hp : n ≤ p.block ∨ T p.block) (u : Value) : Kp n T a (w.setCell p u) :=
  ⟨h.os, h.tape, h.output, by simpa using h.size, fun k hk ht => (Below.heap_setCell _ _ _ _ (fun e => hp.elim (by omega) (fun e2 => ht (by rw [e]; exact e2)))).trans (h.block k hk ht)⟩
theorem Kp.grown {r : Option Nat} (h : Kp n T a w) (hg : w.grownBy w' r) (hn : n ≤ w.heap.size) (hr : ∀ k, r = some k → n ≤ k ∨ T k) : Kp n T a w' :=
  ⟨hg.os.trans h.os, hg.tape.trans h.tape, hg.output.trans h.output, Nat.le_trans h.size hg.size, fun k hk ht => (hg.block k (by omega) (fun e => (hr k e.symm).elim (by omega) ht)).trans (h.block k hk ht)⟩
theorem Kp.to_below (h : Kp n (fun _ => False) a w) : Below n a w := ⟨h.os, h.tape, h.output, h.size, fun k hk => h.block k hk id⟩
end

theorem ArgsAt.kp {S T : Nat → Prop} {n : Nat} {w w' : World} {v : Value} {ts : List Ty} (h : ArgsAt S w v ts) (k : Kp n T w w') (hS : ∀ b, S b → b < n ∧ ¬ T b) : ArgsAt S w' v ts := h.keep fun b hb => k.block b (hS b hb).1 (hS b hb).2

/-- A slice value that holds the names l, in a block of S. -/
def StrsAt (S : Nat → Prop) (w : World) (v : Value) (l : List ByteArray) : Prop :=
  ∃ a c, v = .slice a l.length c ∧ l.length ≤ c ∧ l.length ≤ 1099511627776 ∧ (a = none → c = 0) ∧ (l = [] ∨ ∃ b off, a = some ⟨b, off, none⟩ ∧ S b ∧ ∀ j (h : j < l.length), w.cell? ⟨b, off + j, none⟩ = some (.string l[j]))

theorem StrsAt.keep {S : Nat → Prop} {A B : World} (h : ∀ b, S b → B.heap[b]? = A.heap[b]?) {v : Value} {l : List ByteArray} (hs : StrsAt S A v l) : StrsAt S B v l := by
  obtain ⟨a, c, e, h1, h2, hn, h3⟩ := hs
  refine ⟨a, c, e, h1, h2, hn, h3.imp id ?_⟩
  rintro ⟨b, off, e, hb, hc⟩
  exact ⟨b, off, e, hb, fun j hj => (World.cell?_of_block (h b hb)).trans (hc j hj)⟩
theorem StrsAt.mono {S S' : Nat → Prop} (h : ∀ b, S b → S' b) {A : World} {v : Value} {l : List ByteArray} (hs : StrsAt S A v l) : StrsAt S' A v l := by
  obtain ⟨a, c, e, h1, h2, hn, h3⟩ := hs
  exact ⟨a, c, e, h1, h2, hn, h3.imp id fun ⟨b, off, e, hb, hc⟩ => ⟨b, off, e, h b hb, hc⟩⟩
theorem StrsAt.kp {S T : Nat → Prop} {n : Nat} {w w' : World} {v : Value} {l : List ByteArray} (h : StrsAt S w v l) (k : Kp n T w w') (hS : ∀ b, S b → b < n ∧ ¬ T b) : StrsAt S w' v l := h.keep fun b hb => k.block b (hS b hb).1 (hS b hb).2
theorem StrsAt.nil (S : Nat → Prop) (w : World) : StrsAt S w (.slice none 0 0) [] := ⟨none, 0, rfl, Nat.zero_le _, by simp, fun _ => rfl, .inl rfl⟩

/-- a row that the call owns holds names -/
theorem StrsAt.of_own {w : World} {lo : Nat} {v : Value} {l : List ByteArray} (h : w.ownsRow lo 9 1 v l.length (l.map Value.string)) (hl : l.length ≤ 1099511627776) : StrsAt (fun b => v.ownBlock = some b) w v l := by
  rcases h.2 with ⟨rfl, h0⟩ | ⟨g, cap, cur, rfl, hb, hg, h1, h2, h3, h4⟩
  · have : l = [] := List.eq_nil_of_length_eq_zero h0
    subst this
    exact .nil _ _
  · refine ⟨_, cap, rfl, h1, hl, by simp, .inr ⟨g, 0, rfl, rfl, fun j hj => ?_⟩⟩
    have hc := h.cells (g := g) rfl j (.string l[j]) (by rw [List.getElem?_map, List.getElem?_eq_getElem hj]; rfl)
    have hadd : ∀ j, (⟨g, 0, none⟩ : Addr).add j = ⟨g, j, none⟩ := fun j => by unfold Addr.add; split <;> simp_all
    rw [hadd] at hc
    rw [Nat.zero_add]
    exact hc

theorem contains_iff (l : List ByteArray) (x : ByteArray) : Lib.containsS l x = true ↔ x ∈ l := Lib.containsS_iff l x

/-- slices.Contains over names -/
theorem contains_any {S : Nat → Prop} {w : World} {v : Value} {l : List ByteArray} (h : StrsAt S w v l) (x : ByteArray) :
    Calls Tryd.prog 32 #[v, .string x] w fun e w' => e = .returned (.bool (Lib.containsS l x)) ∧ w = w' := by
  obtain ⟨a, c, rfl, hc, hl, _, h3⟩ := h
  by_cases h0 : l = []
  · subst h0
    exact (Tryd.slices_Contains_string_empty a c x w).mono fun e w' ⟨he, hw⟩ => ⟨he, hw.symm⟩
  · rcases h3 with h3 | ⟨b, off, rfl, hb, hcells⟩
    · exact absurd h3 h0
    · have := Tryd.slices_Contains_string b off l.length c l x w (Nat.le_refl _) (by omega) (fun j hj => by rw [hcells j hj, List.getD_eq_getElem?_getD, List.getElem?_eq_getElem hj]; rfl)
      rw [List.take_length] at this
      exact this.mono fun e w' ⟨he, hw⟩ => ⟨he, hw.symm⟩

end Go.Proofs.YtifaaihekgnhiaaDoor.Tp

/- A set of names copied. -/
namespace Go.Proofs.YtifaaihekgnhiaaDoor.Tp
open Go.RowKit

def ClonePost (w : World) (ns : ByteArray → Prop) (e : Ending) (w' : World) : Prop :=
  e = .returned (.map (some w.heap.size)) ∧ Below w.heap.size w w' ∧ SetAt w' w.heap.size ns ∧ w'.heap.size = w.heap.size + 1

set_option maxRecDepth 100000 in
set_option maxHeartbeats 800000 in
theorem clone_any (b : Nat) (ns : ByteArray → Prop) (w : World) (h : SetAt w b ns) : Calls Tryd.prog 52 #[.map (some b)] w (ClonePost w ns) := by
  obtain ⟨es, clock, hb, h1, h2⟩ := h
  have hp : ClonePost w ns (.returned (.map (some w.heap.size))) (w.alloc (.map es clock)) :=
    ⟨rfl, (Below.refl _ _).alloc (Nat.le_refl _) _, ⟨es, clock, (MapKept.heap_alloc w _).1, h1, h2⟩, by simp⟩
  have HP := Lib.hid hp
  have hq := fun w => run_eql_map_nil_sl (P := Tryd.prog) w 58 _ _ (some b) Tryd.underlying58
  have hc := Lib.hid (run_maps_clone_sl (P := Tryd.prog) w 58 hb)
  have HB := Lib.hid hb
  clear h1 h2 hp hb
  go_enter Tryd.func52, Tryd.ntmps52
  go_wp2_with fail
  rw [run_callFunc_extern Tryd.func74 (by kernel_rfl) (by kernel_rfl) (by kernel_rfl) (e := Extern.MapsClone.clone) (by kernel_rfl), hc.out]
  simp only [Result.andThen]
  rw [Oper.upon_value]
  go_wp2_with fail
  rw [run_typeAssert_map_sl _ 58 20 _ _ _ Tryd.underlying58]
  simp only [Result.andThen]
  rw [Oper.upon_value]
  go_wp2_with fail
  go_ret
  exact HP.out

end Go.Proofs.YtifaaihekgnhiaaDoor.Tp

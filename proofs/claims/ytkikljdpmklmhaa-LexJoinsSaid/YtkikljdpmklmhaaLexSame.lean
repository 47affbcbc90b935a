/- A slice of tokens as a reader meets it; the contract of the statements' own same. -/
import Derived.Test.YtkikljdpmklmhaaLexScan
import Derived.Laws.StructEq
import Derived.Deep.QuietTactic
import Derived.BigQuiet
namespace Go.Proofs.Ytkikljdpmklmhaa
open Go.RowKit
open Lx

def tokVal (t : Tok) : Value := .agg #[.int .i64 t.kind, .string ⟨t.text.toArray⟩, .int .i64 t.pos]

/-- v is a slice whose elements, in w, are these tokens -/
def ToksAt (w : World) (v : Value) (ts : List Tok) : Prop :=
  ∃ a cap, v = .slice a ts.length cap ∧ ts.length ≤ cap ∧ (ts = [] ∨ ∃ b off, a = some ⟨b, off, none⟩ ∧ ∀ i (h : i < ts.length),
    w.cell? ⟨b, off + i * 3, none⟩ = some (.int .i64 ts[i].kind) ∧ w.cell? ⟨b, off + i * 3 + 1, none⟩ = some (.string ⟨ts[i].text.toArray⟩) ∧ w.cell? ⟨b, off + i * 3 + 2, none⟩ = some (.int .i64 ts[i].pos))

theorem toksCells_length (ts : List Tok) : (toksCells ts).length = ts.length * 3 := by
  induction ts with
  | nil => rfl
  | cons t ts ih =>
    rw [toksCells, List.flatMap_cons, List.length_append] at *
    rw [ih]; simp [tokCells]; omega

theorem toksCells_at (ts : List Tok) (i : Nat) (h : i < ts.length) :
    (toksCells ts)[i * 3]? = some (.int .i64 ts[i].kind) ∧ (toksCells ts)[i * 3 + 1]? = some (.string ⟨ts[i].text.toArray⟩) ∧ (toksCells ts)[i * 3 + 2]? = some (.int .i64 ts[i].pos) := by
  induction ts generalizing i with
  | nil => simp at h
  | cons t ts ih =>
    have e : toksCells (t :: ts) = .int .i64 t.kind :: .string ⟨t.text.toArray⟩ :: .int .i64 t.pos :: toksCells ts := rfl
    rw [e]
    cases i with
    | zero => exact ⟨rfl, rfl, rfl⟩
    | succ i =>
      have := ih i (by simpa using h)
      rw [show (i + 1) * 3 = i * 3 + 1 + 1 + 1 by omega, show i * 3 + 1 + 1 + 1 + 1 = i * 3 + 1 + 1 + 1 + 1 from rfl, show i * 3 + 1 + 1 + 1 + 2 = i * 3 + 2 + 1 + 1 + 1 by omega]
      simp only [List.getElem?_cons_succ, List.getElem_cons_succ]
      exact this

theorem toksAt_of_owns {w : World} {base : Nat} {v : Value} {ts : List Tok} (h : w.ownsRow base 30 3 v ts.length (toksCells ts)) : ToksAt w v ts := by
  rcases h.2 with ⟨rfl, h0⟩ | ⟨g, cap, cur, rfl, hb, hg, hn, hm, hs, ht⟩
  · have : ts = [] := List.length_eq_zero_iff.1 h0
    subst this
    exact ⟨none, 0, rfl, Nat.zero_le _, .inl rfl⟩
  · refine ⟨_, cap, rfl, hn, .inr ⟨g, 0, rfl, fun i hi => ?_⟩⟩
    have hc := h.cells (g := g) rfl
    have hadd : ∀ j, (⟨g, 0, none⟩ : Addr).add j = ⟨g, j, none⟩ := fun j => by unfold Addr.add; split <;> simp_all
    obtain ⟨a1, a2, a3⟩ := toksCells_at ts i hi
    have b1 := hc _ _ a1
    have b2 := hc _ _ a2
    have b3 := hc _ _ a3
    rw [hadd] at b1 b2 b3
    simp only [Nat.zero_add]
    exact ⟨b1, b2, b3⟩

theorem toksAt_below {w w' : World} {v : Value} {ts : List Tok} (h : ToksAt w v ts) {B : Nat} (hb : Below B w w') (hB : w.heap.size ≤ B) : ToksAt w' v ts := by
  obtain ⟨a, cap, hv, hc, h⟩ := h
  refine ⟨a, cap, hv, hc, h.imp id ?_⟩
  rintro ⟨b, off, rfl, h'⟩
  refine ⟨b, off, rfl, fun i hi => ?_⟩
  obtain ⟨h1, h2, h3⟩ := h' i hi
  have hlt := World.block_lt_of_cell? w _ h1
  refine ⟨(hb.cell (by simp at hlt ⊢; omega)).trans h1, (hb.cell (by simp at hlt ⊢; omega)).trans h2, (hb.cell (by simp at hlt ⊢; omega)).trans h3⟩

theorem tok_neq (a b : Tok) (w : World) : (binOp .neq 30 (tokVal a) (tokVal b)).run Try.prog w = .ok (.bool (decide (a ≠ b))) w := by
  simp only [tokVal]
  simp [go_sem]
  rcases a with ⟨ak, at', ap⟩
  rcases b with ⟨bk, bt, bp⟩
  simp only [Tok.mk.injEq]
  by_cases h1 : ak = bk
  · by_cases h2 : at' = bt
    · by_cases h3 : ap = bp
      · simp [h1, h2, h3]
      · simp [h1, h2, h3]; omega
    · simp [h1, h2]
  · have : ¬ (ak : Int) = (bk : Int) := by omega
    simp [h1, this]

theorem drop_one (l : List Tok) (k : Nat) (h : k < l.length) : l.drop k = l[k] :: l.drop (k + 1) := List.drop_eq_getElem_cons h

set_option maxHeartbeats 1600000 in
theorem same_any (va vb : Value) (xs ys : List Tok) (w : World) (ha : ToksAt w va xs) (hb : ToksAt w vb ys) (hm : xs.length ≤ maxLen) (_hm' : ys.length ≤ maxLen) :
    Calls Try.prog 13 #[va, vb] w fun e w' => e = .returned (.bool (decide (xs = ys))) ∧ ∃ n, w' = w.drewN n := by
  unfold maxLen at hm
  obtain ⟨a, capa, rfl, hca, ha⟩ := ha
  obtain ⟨b, capb, rfl, hcb, hb⟩ := hb
  have HA := Lib.hid ha
  have HB := Lib.hid hb
  clear ha hb
  by_cases hl : xs.length = ys.length
  · have hne : ((xs.length : Int) != (ys.length : Int)) = false := by simp [hl]
    have HL := Lib.hid hl
    clear hl
    go_enter Try.func13, Try.ntmps13
    go_wp2
    go_loopw [5] (fun i wr => ∃ k : Nat, k ≤ xs.length ∧ i = .int .i64 k ∧ xs.take k = ys.take k ∧ ∃ n, wr = w.drewN n) (fun i _ => xs.length - (intOf i).toNat)
    case atStart => exact ⟨0, Nat.zero_le _, rfl, by simp, 0, rfl⟩
    case round =>
      obtain ⟨k, hk, rfl, htk, n, rfl⟩ := hrel
      have HT := Lib.hid htk
      clear htk
      by_cases hlt : k < xs.length
      · have hlt' : k < ys.length := by have := HL.out; omega
        obtain ⟨ba, offa, rfl, hA⟩ := HA.out.resolve_left (by intro h; rw [h] at hlt; simp at hlt)
        obtain ⟨bb, offb, rfl, hB⟩ := HB.out.resolve_left (by intro h; rw [h] at hlt'; simp at hlt')
        obtain ⟨a1, a2, a3⟩ := hA k hlt
        obtain ⟨b1, b2, b3⟩ := hB k hlt'
        have z0 : (0 : Int) ≤ (k : Int) := by omega
        have z1 : (k : Int) < (xs.length : Int) := by omega
        have z2 : (k : Int) < (ys.length : Int) := by omega
        have ne := tok_neq xs[k] ys[k]
        have n1 := Lib.hid (List.take_succ_eq_append_getElem hlt)
        have n2 := Lib.hid (List.take_succ_eq_append_getElem hlt')
        generalize xs[k] = x at *
        generalize ys[k] = y at *
        simp only [tokVal] at ne
        clear hA hB HA HB
        by_cases hxy : x = y
        · rw [show decide (x ≠ y) = false by simp [hxy]] at ne
          have HX := Lib.hid hxy
          clear hxy
          go_wp2
          go_quiet (fail)
          go_wp2
          go_roundw
          case rel => exact ⟨k + 1, by omega, by go_num, by rw [n1.out, n2.out, HT.out, HX.out], _, rfl⟩
          case measure => simp [intOf]; omega
        · rw [show decide (x ≠ y) = true by simp [hxy]] at ne
          have HX := Lib.hid hxy
          clear hxy
          go_wp2
          go_quiet (fail)
          go_wp2
          go_ret
          refine ⟨ret_bool ?_, _, World.drewN_drewN w n nq⟩
          symm
          rw [decide_eq_false_iff_not]
          intro h
          have h1 := n1.out
          rw [h, n2.out, ← h, HT.out] at h1
          exact HX.out (by simpa using h1.symm)
      · go_wp2
        go_ret
        refine ⟨ret_bool ?_, n, rfl⟩
        have h1 := HT.out
        rw [List.take_of_length_le (by omega), List.take_of_length_le (by have := HL.out; omega)] at h1
        simp [h1]
  · have hne : ((xs.length : Int) != (ys.length : Int)) = true := by simp; omega
    have hd : decide (xs = ys) = false := by simp; intro h; rw [h] at hl; exact hl rfl
    have HD := Lib.hid hd
    clear hd hl
    go_enter Try.func13, Try.ntmps13
    go_wp2
    go_ret
    exact ⟨ret_bool (by rw [HD.out]), 0, rfl⟩

end Go.Proofs.Ytkikljdpmklmhaa

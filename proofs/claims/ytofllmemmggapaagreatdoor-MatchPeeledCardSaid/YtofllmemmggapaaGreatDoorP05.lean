/- Texts laid together: TyToks, TyReader, LexRef. -/
import Derived.Test.YtofllmemmggapaaGreatDoorP04
import Derived.Laws.StructEq
import Derived.Deep.QuietTactic
import Derived.BigQuiet
import Derived.Test.YtofllmemmggapaaGreatDoorP02
import Derived.Lib.Hide
import Derived.Test.YtofllmemmggapaaGreatDoorP01

/- A slice of tokens as a reader meets it; what Scan leaves. (Lines of the chapter 01 texts, without that chapter's own functions.) -/
namespace Go.Proofs.YtofllmemmggapaaGreatDoor
open Go.RowKit
open Lx

def tokVal (t : Tok) : Value := .agg #[.int .i64 t.kind, .string ⟨t.text.toArray⟩, .int .i64 t.pos]

/-- v is a slice whose elements, in w, are these tokens -/
def ToksAt (w : World) (v : Value) (ts : List Tok) : Prop :=
  ∃ a cap, v = .slice a ts.length cap ∧ ts.length ≤ cap ∧ (ts = [] ∨ ∃ b off, a = some ⟨b, off, none⟩ ∧ ∀ i (h : i < ts.length),
    w.cell? ⟨b, off + i * 3, none⟩ = some (.int .i64 ts[i].kind) ∧ w.cell? ⟨b, off + i * 3 + 1, none⟩ = some (.string ⟨ts[i].text.toArray⟩) ∧ w.cell? ⟨b, off + i * 3 + 2, none⟩ = some (.int .i64 ts[i].pos))

theorem toksCells_length (ts : List Tok) : (toksCells ts).length = ts.length * 3 := by
  induction ts with
  | nil => rfl
  | cons t ts ih =>
    rw [toksCells, List.flatMap_cons, List.length_append] at *
    rw [ih]; simp [tokCells]; omega

theorem toksCells_at (ts : List Tok) (i : Nat) (h : i < ts.length) :
    (toksCells ts)[i * 3]? = some (.int .i64 ts[i].kind) ∧ (toksCells ts)[i * 3 + 1]? = some (.string ⟨ts[i].text.toArray⟩) ∧ (toksCells ts)[i * 3 + 2]? = some (.int .i64 ts[i].pos) := by
  induction ts generalizing i with
  | nil => simp at h
  | cons t ts ih =>
    have e : toksCells (t :: ts) = .int .i64 t.kind :: .string ⟨t.text.toArray⟩ :: .int .i64 t.pos :: toksCells ts := rfl
    rw [e]
    cases i with
    | zero => exact ⟨rfl, rfl, rfl⟩
    | succ i =>
      have := ih i (by simpa using h)
      rw [show (i + 1) * 3 = i * 3 + 1 + 1 + 1 by omega, show i * 3 + 1 + 1 + 1 + 1 = i * 3 + 1 + 1 + 1 + 1 from rfl, show i * 3 + 1 + 1 + 1 + 2 = i * 3 + 2 + 1 + 1 + 1 by omega]
      simp only [List.getElem?_cons_succ, List.getElem_cons_succ]
      exact this

theorem toksAt_of_owns {w : World} {base : Nat} {v : Value} {ts : List Tok} (h : w.ownsRow base 127 3 v ts.length (toksCells ts)) : ToksAt w v ts := by
  rcases h.2 with ⟨rfl, h0⟩ | ⟨g, cap, cur, rfl, hb, hg, hn, hm, hs, ht⟩
  · have : ts = [] := List.length_eq_zero_iff.1 h0
    subst this
    exact ⟨none, 0, rfl, Nat.zero_le _, .inl rfl⟩
  · refine ⟨_, cap, rfl, hn, .inr ⟨g, 0, rfl, fun i hi => ?_⟩⟩
    have hc := h.cells (g := g) rfl
    have hadd : ∀ j, (⟨g, 0, none⟩ : Addr).add j = ⟨g, j, none⟩ := fun j => by unfold Addr.add; split <;> simp_all
    obtain ⟨a1, a2, a3⟩ := toksCells_at ts i hi
    have b1 := hc _ _ a1
    have b2 := hc _ _ a2
    have b3 := hc _ _ a3
    rw [hadd] at b1 b2 b3
    simp only [Nat.zero_add]
    exact ⟨b1, b2, b3⟩

/-- what Scan leaves, for a reader -/
def ScanRes (ts : List Tok) (p er : Nat) (w : World) (e : Ending) (w' : World) : Prop :=
  ∃ a cap, e = .returned (.tuple #[.slice a ts.length cap, .int .i64 p, .int .i64 er]) ∧ Below w.heap.size w w' ∧ ToksAt w' (.slice a ts.length cap) ts

theorem scan_res (s : ByteArray) (w : World) (hs : s.size ≤ maxLen) {ts : List Tok} {p er : Nat} (h : scanR s.data.toList = (ts, p, er)) :
    Calls Tryz.prog 51 #[.string s] w (ScanRes ts p er w) := by
  refine (scan_any s w hs).mono fun e w' hp => ?_
  obtain ⟨v, he, hb, ho⟩ := hp
  rw [h] at he ho
  have ht := toksAt_of_owns ho
  obtain ⟨a, cap, rfl, h2, h3⟩ := ht
  exact ⟨a, cap, he, hb, ⟨a, cap, rfl, h2, h3⟩⟩

theorem toksAt_block {w : World} {g cap : Nat} {cs : Array Value} {t : TypeId} {f : Nat × Nat} (ts : List Tok) (hg : w.heap[g]? = some (.cells cs t f)) (hc : cs = (toksCells ts).toArray) (hcap : ts.length ≤ cap) : ToksAt w (.slice (some ⟨g, 0, none⟩) ts.length cap) ts := by
  subst hc
  refine ⟨_, cap, rfl, hcap, .inr ⟨g, 0, rfl, fun i hi => ?_⟩⟩
  obtain ⟨a1, a2, a3⟩ := toksCells_at ts i hi
  rw [cell_of_row w g _ _ t f hg, cell_of_row w g _ _ t f hg, cell_of_row w g _ _ t f hg]
  simpa using ⟨a1, a2, a3⟩

end Go.Proofs.YtofllmemmggapaaGreatDoor

/- The reader over tokens: sees, takes. -/
namespace Go.Proofs.YtofllmemmggapaaGreatDoor.Tp
open Go.RowKit
open Lx

/-- The reader in block B holds the tokens l, which lie below block N. -/
def Rd (N B : Nat) (w : World) (l : List Tok) : Prop := ∃ a cap, w.heap[B]? = some (.cells #[.slice a l.length cap] 130 (0, 0)) ∧ ToksAt w (.slice a l.length cap) l ∧ l.length ≤ 9223372036854775807 ∧ ∀ b o, a = some ⟨b, o, none⟩ → b < N

def seesB (l : List Tok) (k : Nat) (s : List UInt8) : Bool := match l with
  | [] => false
  | t :: _ => t.kind == k && (s.isEmpty || t.text == s)

theorem sees_sk (l : List Tok) (k : Nat) : seesB l k [] = sk l k := by cases l <;> simp [seesB, sk]
theorem sees_st (l : List Tok) (k : Nat) (s : List UInt8) (h : s ≠ []) : seesB l k s = st l k s := by
  cases l with
  | nil => rfl
  | cons t l => cases s with
    | nil => exact absurd rfl h
    | cons c s => simp [seesB, st]

theorem ret_bool {a b : Bool} (h : a = b) : Ending.returned (.bool a) = .returned (.bool b) := by rw [h]

theorem toks_head {w : World} {a : Option Addr} {n cap : Nat} {t : Tok} {l : List Tok} (h : ToksAt w (.slice a n cap) (t :: l)) :
    ∃ b off, a = some ⟨b, off, none⟩ ∧ w.cell? ⟨b, off, none⟩ = some (.int .i64 t.kind) ∧ w.cell? ⟨b, off + 1, none⟩ = some (.string ⟨t.text.toArray⟩) := by
  obtain ⟨a', cap', he, hl, h0 | ⟨b, off, rfl, hc⟩⟩ := h
  · cases h0
  · injection he with e1 e2 e3
    subst e1
    obtain ⟨c1, c2, _⟩ := hc 0 (by simp)
    exact ⟨b, off, rfl, by simpa using c1, by simpa using c2⟩

set_option maxHeartbeats 800000 in
theorem sees_any (k : Nat) (s : List UInt8) (N B : Nat) (w : World) (l : List Tok) (h : Rd N B w l) :
    Calls Tryz.prog 120 #[.pointer (some ⟨B, 0, none⟩), .int .i64 (k : Int), .string ⟨s.toArray⟩] w fun e w' => e = .returned (.bool (seesB l k s)) ∧ w = w' := by
  obtain ⟨a, cap, hb, ht, hl, _⟩ := h
  have cB : w.cell? ⟨B, 0, none⟩ = some (.slice a l.length cap) := cell_of_row w B 0 _ _ _ hb
  cases l with
  | nil =>
    clear ht hb
    go_enter Tryz.func120, Tryz.ntmps120
    go_wp2
    go_ret
    exact ⟨rfl, rfl⟩
  | cons t l =>
    obtain ⟨b, off, rfl, c0, c1⟩ := toks_head ht
    have hk : seesB (t :: l) k s = (t.kind == k && (s.isEmpty || t.text == s)) := rfl
    have HK := Lib.hid hk
    have hl0 : (0 : Int) < ((t :: l).length : Int) := by simp
    generalize (t :: l).length = n at *
    clear hk hb ht
    by_cases h1 : t.kind = k
    · have e1 : ((t.kind : Int) == (k : Int)) = true := by rw [h1]; simp
      have H1 := Lib.hid h1
      clear h1
      by_cases h2 : s = []
      · subst h2
        go_enter Tryz.func120, Tryz.ntmps120
        go_wp2
        go_ret
        exact ⟨ret_bool (by rw [HK.out, H1.out]; simp), rfl⟩
      · have h3 : s.isEmpty = false := by simpa using h2
        have H3 := Lib.hid h3
        clear h2
        go_enter Tryz.func120, Tryz.ntmps120
        go_wp2
        go_ret
        exact ⟨ret_bool (by rw [HK.out, H1.out, H3.out]; simp), rfl⟩
    · have e1 : ((t.kind : Int) == (k : Int)) = false := by rw [beq_eq_false_iff_ne]; omega
      have H1 : Hid ((t.kind == k) = false) := Lib.hid (by rw [beq_eq_false_iff_ne]; exact h1)
      clear h1
      go_enter Tryz.func120, Tryz.ntmps120
      go_wp2
      go_ret
      exact ⟨ret_bool (by rw [HK.out, H1.out]; rfl), rfl⟩

/-- what takes tells: the token's text and what is left, if the next token is so -/
def TakesPost (N B : Nat) (w : World) (l : List Tok) (ok : Bool) (e : Ending) (w' : World) : Prop :=
  if ok then e = .returned (.tuple #[.string (bytes (headText l)), .bool true]) ∧ Rd N B w' l.tail ∧ w.grownBy w' (some B)
  else e = .returned (.tuple #[.string ByteArray.empty, .bool false]) ∧ w = w'

theorem toks_tail {w : World} {b off n cap cap' : Nat} {t : Tok} {l : List Tok} (h : ToksAt w (.slice (some ⟨b, off, none⟩) n cap) (t :: l)) (hc : l.length ≤ cap') : ToksAt w (.slice (some ⟨b, off + 3, none⟩) l.length cap') l := by
  obtain ⟨a', cap1, he, hl, h0 | ⟨b', off', e, hcc⟩⟩ := h
  · cases h0
  · injection he with e1 e2 e3
    rw [e] at e1
    injection e1 with e1
    injection e1 with e1 e4
    subst e1 e4
    refine ⟨_, cap', rfl, hc, .inr ⟨b, off + 3, rfl, fun i hi => ?_⟩⟩
    have := hcc (i + 1) (by simp; omega)
    simp only [List.getElem_cons_succ] at this
    rw [show off + 3 + i * 3 = off + (i + 1) * 3 by omega]
    exact this

theorem set_row0 {w : World} {b i : Nat} {c : Array Value} {t : TypeId} {f : Nat × Nat} (h : w.heap[b]? = some (.cells c t f)) (u : Value) :
    (w.setCell ⟨b, i, none⟩ u).heap[b]? = some (.cells (c.setIfInBounds i u) t f) := by
  simp [World.setCell, Array.getElem?_modify, h]

theorem grown_set (w : World) (a : Addr) (u : Value) : w.grownBy (w.setCell a u) (some a.block) :=
  ⟨rfl, rfl, rfl, by simp, fun k _ hk => Below.heap_setCell w a u k (fun e => hk (by rw [e]))⟩

/-- tokens lie in a block of another type than the reader's -/
theorem toks_block_ne {w : World} {b off cap B : Nat} {l : List Tok} {cs : Array Value} {f : Nat × Nat} (h : ToksAt w (.slice (some ⟨b, off, none⟩) l.length cap) l) (hl : l ≠ []) (hB : w.heap[B]? = some (.cells cs 130 f)) (hc : cs.size = 1) : b ≠ B := by
  rintro rfl
  obtain ⟨a', cap1, he, _, h0 | ⟨b', off', e, hcc⟩⟩ := h
  · exact hl h0
  · injection he with e1 e2 e3
    rw [e] at e1
    injection e1 with e1
    injection e1 with e1 e4
    subst e1 e4
    have h1 := (hcc 0 (List.length_pos_iff.2 hl)).2.1
    rw [cell_of_row _ _ _ _ _ _ hB, Array.getElem?_eq_none (by omega)] at h1
    cases h1

theorem toks_keep {w w' : World} {b off n cap : Nat} {l : List Tok} (h : ToksAt w (.slice (some ⟨b, off, none⟩) n cap) l) (hk : ∀ o, w'.cell? ⟨b, o, none⟩ = w.cell? ⟨b, o, none⟩) : ToksAt w' (.slice (some ⟨b, off, none⟩) n cap) l := by
  obtain ⟨a', cap1, he, hl, h0 | ⟨b', off', e, hcc⟩⟩ := h
  · exact ⟨a', cap1, he, hl, .inl h0⟩
  · refine ⟨a', cap1, he, hl, .inr ⟨b', off', e, fun i hi => ?_⟩⟩
    injection he with e1 e2 e3
    rw [e] at e1
    injection e1 with e1
    injection e1 with e1 e4
    subst e1
    rw [hk, hk, hk]
    exact hcc i hi

set_option maxHeartbeats 800000 in
theorem takes_any (k : Nat) (s : List UInt8) (N B : Nat) (w : World) (l : List Tok) (h : Rd N B w l) :
    Calls Tryz.prog 101 #[.pointer (some ⟨B, 0, none⟩), .int .i64 (k : Int), .string ⟨s.toArray⟩] w (TakesPost N B w l (seesB l k s)) := by
  have C := Lib.hid (sees_any k s N B w l h)
  cases hs : seesB l k s
  · have HS := Lib.hid hs
    clear hs h
    go_enter Tryz.func101, Tryz.ntmps101
    go_wp2_with fail
    refine C.out.mono ?_
    rintro e w' ⟨he, rfl⟩
    rw [HS.out] at he
    subst he
    go_wp2
    go_ret2
    exact ⟨rfl, rfl⟩
  · cases l with
    | nil => cases hs
    | cons t l =>
      obtain ⟨a, cap, hb, ht, hl, hN⟩ := h
      have cB : w.cell? ⟨B, 0, none⟩ = some (.slice a (t :: l).length cap) := cell_of_row w B 0 _ _ _ hb
      have fB : w.frozen? ⟨B, 0, none⟩ = false := by simp [World.frozen?, hb]
      obtain ⟨b, off, rfl, c0, c1⟩ := toks_head ht
      have hcap : (t :: l).length ≤ cap := by obtain ⟨_, _, e, h, _⟩ := ht; injection e with _ _ e; rw [e]; exact h
      have hcl : l.length + 1 ≤ cap := by simpa using hcap
      have hnn : (t :: l).length = l.length + 1 := by simp
      rw [hnn] at cB hl
      have NN := Lib.hid (hN b off rfl)
      have HS := Lib.hid hs
      have HB := Lib.hid hb
      have HT := Lib.hid ht
      clear hs hb ht hnn hcap hN
      by_cases h1 : cap = 1
      · obtain rfl : l = [] := List.eq_nil_of_length_eq_zero (by omega)
        subst h1
        go_enter Tryz.func101, Tryz.ntmps101
        go_wp2_with fail
        refine C.out.mono ?_
        rintro e w' ⟨he, rfl⟩
        rw [HS.out] at he
        subst he
        go_wp2
        go_ret2
        refine ⟨rfl, ⟨_, 0, ?_, ⟨some ⟨b, off, none⟩, 0, rfl, by simp, .inl rfl⟩, by simp, fun b' o' e => by injection e with e; injection e with e; rw [← e]; exact NN.out⟩, ?_⟩
        · exact (set_row0 HB.out _)
        · exact grown_set w _ _
      · have h2 : ¬ cap = 1 := h1
        go_enter Tryz.func101, Tryz.ntmps101
        go_wp2_with fail
        refine C.out.mono ?_
        rintro e w' ⟨he, rfl⟩
        rw [HS.out] at he
        subst he
        go_wp2
        go_ret2
        refine ⟨rfl, ⟨_, cap - 1, set_row0 HB.out _, ?_, by show l.length ≤ _; omega, fun b' o' e => by injection e with e; injection e with e; rw [← e]; exact NN.out⟩, grown_set w _ _⟩
        have hne := toks_block_ne (l := t :: l) (B := B) HT.out (by simp) HB.out rfl
        exact toks_keep (toks_tail (l := l) HT.out (by omega)) (fun o => World.cell?_setCell_other _ _ _ _ (fun e => by injection e with e; exact hne e.symm))

end Go.Proofs.YtofllmemmggapaaGreatDoor.Tp

/- Contracts of the document's scanner (savantref01). -/
namespace Go.Proofs.YtofllmemmggapaaGreatDoor
open Go.RowKit
open Lx

def letterB (c : UInt8) : Bool := lowerB c || upperB c

theorem rletter_any (c : UInt8) (w : World) : Calls Tryz.prog 104 #[.int .u8 c.toNat] w fun e w' => e = .returned (.bool (letterB c)) ∧ w = w' := by
  go_enter Tryz.func104, Tryz.ntmps104
  go_wp2
  all_goals
    go_ret
    exact ⟨ret_bool (by
      unfold letterB lowerB upperB
      rw [Bool.eq_iff_iff]
      simp only [Bool.or_eq_true, decide_eq_true_eq, Bool.false_eq_true, true_iff, false_iff]
      omega), rfl⟩

theorem rdigit_any (c : UInt8) (w : World) : Calls Tryz.prog 105 #[.int .u8 c.toNat] w fun e w' => e = .returned (.bool (digitB c)) ∧ w = w' := by
  go_enter Tryz.func105, Tryz.ntmps105
  go_wp2
  all_goals
    go_ret
    exact ⟨ret_bool (by unfold digitB; first | (rw [decide_eq_decide]; omega) | (symm; rw [decide_eq_false_iff_not]; omega)), rfl⟩

theorem drop_at (s : ByteArray) (i : Nat) (h : i < s.size) : s.data.toList.drop i = s[i] :: s.data.toList.drop (i + 1) := by
  rw [List.drop_eq_getElem_cons (by simpa using h)]; rfl

/-- between i and k all are such -/
def Run (p : UInt8 → Bool) (s : ByteArray) (i k : Nat) : Prop := ∀ j (h : j < s.size), i ≤ j → j < k → p s[j] = true

theorem Run.step {p : UInt8 → Bool} {s : ByteArray} {i k : Nat} (h : Run p s i k) (hk : k < s.size) (hp : p s[k] = true) : Run p s i (k + 1) := by
  intro j hj h1 h2
  by_cases e : j = k
  · subst e; exact hp
  · exact h j hj h1 (by omega)

theorem Run.take {p : UInt8 → Bool} {s : ByteArray} {i k : Nat} (h : Run p s i k) (hk : k ≤ s.size) : ((s.data.toList.drop i).take (k - i)).all p = true := by
  rw [List.all_eq_true]
  intro c hc
  obtain ⟨j, hj, rfl⟩ := List.mem_iff_getElem.1 hc
  simp only [List.length_take, List.length_drop, Array.length_toList] at hj
  have hs : s.data.size = s.size := rfl
  simp only [List.getElem_take, List.getElem_drop]
  exact h (i + j) (by omega) (by omega) (by omega)

theorem Run.stop {p : UInt8 → Bool} {s : ByteArray} {i k : Nat} (h : Run p s i k) (hi : i ≤ k) (hk : k < s.size) (hp : p s[k] = false) : spanL p (s.data.toList.drop i) = k - i := by
  refine spanL_stop _ _ _ (h.take (by omega)) (by simp; have : s.data.size = s.size := rfl; omega) ?_
  simp only [List.getElem_drop]
  have : i + (k - i) = k := by omega
  simp only [this]
  exact hp

theorem Run.full {p : UInt8 → Bool} {s : ByteArray} {i k : Nat} (h : Run p s i k) (hi : i ≤ k) (hk : k = s.size) : spanL p (s.data.toList.drop i) = k - i := by
  have h1 := h.take (by omega)
  have hs : s.data.size = s.size := rfl
  rw [List.take_of_length_le (by simp; omega)] at h1
  rw [spanL_all _ _ h1]; simp; omega

theorem number_end (s : ByteArray) (i j : Nat) (sp : spanL digitB (s.data.toList.drop i) = j - i) (hij : i ≤ j) :
    i + numberL (s.data.toList.drop i) = if 6 < j - i ∨ 1 < j - i ∧ (s.data.toList.drop i).headD 0 = 48 then i else j := by
  rw [numberL, sp]; split <;> omega

set_option maxHeartbeats 1600000 in
theorem rnumber_any (s : ByteArray) (i : Nat) (w : World) (hs : s.size ≤ maxLen) (hi : i ≤ s.size) :
    Calls Tryz.prog 106 #[.string s, .int .i64 i] w fun e w' => e = .returned (.int .i64 ((i + numberL (s.data.toList.drop i) : Nat) : Int)) ∧ w = w' := by
  unfold maxLen at hs
  go_enter Tryz.func106, Tryz.ntmps106
  go_wp2
  go_loop [5] (fun k => ∃ j : Nat, i ≤ j ∧ j ≤ s.size ∧ k = .int .i64 j ∧ Run digitB s i j) (fun k => s.size - (intOf k).toNat)
  case atStart => exact ⟨i, Nat.le_refl _, hi, rfl, fun _ _ _ _ => by omega⟩
  case round =>
    obtain ⟨j, hij, hj, rfl, hrun⟩ := hrel
    have R := Lib.hid hrun
    clear hrun
    by_cases hlt : j < s.size
    · cases hd : digitB s[j]
      · have sp := R.out.stop hij hlt hd
        have fin := number_end s i j sp hij
        by_cases c1 : 6 < j - i
        · rw [if_pos (Or.inl c1)] at fin
          have F := Lib.hid fin
          clear fin
          go_wp2_with (go_at_call 105; refine (rdigit_any _ _).mono ?_; rw [hd]; rintro e w' ⟨rfl, rfl⟩)
          go_ret
          exact ⟨ret_int (by have := F.out; omega), rfl⟩
        by_cases c2 : 1 < j - i
        · rw [drop_at s i (by omega), List.headD_cons, ← drop_at s i (by omega)] at fin
          by_cases c3 : s[i] = 48
          · rw [if_pos (Or.inr ⟨c2, c3⟩)] at fin
            have F := Lib.hid fin
            have f3 := byte_eqT 48 48 c3 rfl
            clear c3
            go_wp2_with (go_at_call 105; refine (rdigit_any _ _).mono ?_; rw [hd]; rintro e w' ⟨rfl, rfl⟩)
            go_ret
            exact ⟨ret_int (by have := F.out; omega), rfl⟩
          · rw [if_neg (by rintro (h | h); exact c1 h; exact c3 h.2)] at fin
            have F := Lib.hid fin
            have f3 := byte_eqF 48 48 c3 rfl
            clear c3
            go_wp2_with (go_at_call 105; refine (rdigit_any _ _).mono ?_; rw [hd]; rintro e w' ⟨rfl, rfl⟩)
            go_ret
            exact ⟨ret_int (by have := F.out; omega), rfl⟩
        rw [if_neg (by rintro (h | h); exact c1 h; exact c2 h.1)] at fin
        have F := Lib.hid fin
        clear fin
        go_wp2_with (go_at_call 105; refine (rdigit_any _ _).mono ?_; rw [hd]; rintro e w' ⟨rfl, rfl⟩)
        go_ret
        exact ⟨ret_int (by have := F.out; omega), rfl⟩
      · have RN := Lib.hid (R.out.step hlt hd)
        go_wp2_with (go_at_call 105; refine (rdigit_any _ _).mono ?_; rw [hd]; rintro e w' ⟨rfl, rfl⟩)
        go_round
        case rel => exact ⟨j + 1, by omega, by omega, by go_num, RN.out⟩
        case measure => simp [intOf]; omega
    · have sp := R.out.full hij (by omega)
      have fin := number_end s i j sp hij
      by_cases c1 : 6 < j - i
      · rw [if_pos (Or.inl c1)] at fin
        have F := Lib.hid fin
        clear fin
        go_wp2
        go_ret
        exact ⟨ret_int (by have := F.out; omega), rfl⟩
      by_cases c2 : 1 < j - i
      · rw [drop_at s i (by omega), List.headD_cons, ← drop_at s i (by omega)] at fin
        by_cases c3 : s[i] = 48
        · rw [if_pos (Or.inr ⟨c2, c3⟩)] at fin
          have F := Lib.hid fin
          have f3 := byte_eqT 48 48 c3 rfl
          clear c3
          go_wp2
          go_ret
          exact ⟨ret_int (by have := F.out; omega), rfl⟩
        · rw [if_neg (by rintro (h | h); exact c1 h; exact c3 h.2)] at fin
          have F := Lib.hid fin
          have f3 := byte_eqF 48 48 c3 rfl
          clear c3
          go_wp2
          go_ret
          exact ⟨ret_int (by have := F.out; omega), rfl⟩
      rw [if_neg (by rintro (h | h); exact c1 h; exact c2 h.1)] at fin
      have F := Lib.hid fin
      clear fin
      go_wp2
      go_ret
      exact ⟨ret_int (by have := F.out; omega), rfl⟩

end Go.Proofs.YtofllmemmggapaaGreatDoor

/- Texts laid together: TyMem, TyReader, TyAtom, TyDepth. -/
import Derived.Test.YtofllmemmggapaaGreatDoorRows
import Derived.Test.YtofllmemmggapaaGreatDoorP02
import Derived.WalkKit
import Derived.WalkLawsBesides
import Derived.WalkSpells
import Derived.Lib.Hide
import Derived.Test.YtofllmemmggapaaGreatDoorP03
import Derived.Test.YtofllmemmggapaaGreatDoorPS

/- Types as trees, and how they lie in memory. -/
namespace Go.Proofs.YtofllmemmggapaaGreatDoor.Tp
open Go.RowKit

/-- The four cells of a type's struct from an address on. -/
def Four (w : World) (b o : Nat) (c0 c1 c2 c3 : Value) : Prop :=
  w.cell? ⟨b, o, none⟩ = some c0 ∧ w.cell? ⟨b, o + 1, none⟩ = some c1 ∧ w.cell? ⟨b, o + 2, none⟩ = some c2 ∧ w.cell? ⟨b, o + 3, none⟩ = some c3

/-- A slice value that holds the arguments ts, all cells in blocks of S. -/
inductive ArgsAt (S : Nat → Prop) (w : World) : Value → List Ty → Prop
  | nil (a : Option Addr) (cap : Nat) : ArgsAt S w (.slice a 0 cap) []
  | mk (b off cap : Nat) (ts : List Ty) (sv : Nat → Value) (hb : S b) (hl : ts.length ≤ 9223372036854775807)
      (hc : ∀ i (h : i < ts.length), Four w b (off + i * 4) (.int .i64 ts[i].kind) (.string ts[i].name) (.int .i64 ts[i].n) (sv i))
      (ha : ∀ i (h : i < ts.length), ArgsAt S w (sv i) ts[i].args) : ArgsAt S w (.slice (some ⟨b, off, none⟩) ts.length cap) ts

/-- A struct value that holds the type t. -/
def TyAt (S : Nat → Prop) (w : World) (v : Value) (t : Ty) : Prop := ∃ sv, v = .agg #[.int .i64 t.kind, .string t.name, .int .i64 t.n, sv] ∧ ArgsAt S w sv t.args

/-- blocks below n; blocks from m on below n -/
def Lt (n : Nat) (b : Nat) : Prop := b < n
def In (m n : Nat) (b : Nat) : Prop := m ≤ b ∧ b < n

theorem Four.keep {A B : World} {b o : Nat} (hb : B.heap[b]? = A.heap[b]?) {c0 c1 c2 c3 : Value} (f : Four A b o c0 c1 c2 c3) : Four B b o c0 c1 c2 c3 := by
  have k : ∀ o, B.cell? ⟨b, o, none⟩ = A.cell? ⟨b, o, none⟩ := fun o => World.cell?_of_block hb
  exact ⟨(k _).trans f.1, (k _).trans f.2.1, (k _).trans f.2.2.1, (k _).trans f.2.2.2⟩

theorem ArgsAt.keep {S : Nat → Prop} {A B : World} (h : ∀ b, S b → B.heap[b]? = A.heap[b]?) {v : Value} {ts : List Ty} (ha : ArgsAt S A v ts) : ArgsAt S B v ts := by
  induction ha with
  | nil a cap => exact .nil a cap
  | mk b off cap ts sv hb hl hc _ ih => exact .mk b off cap ts sv hb hl (fun i hi => (hc i hi).keep (h b hb)) ih

theorem ArgsAt.mono {S S' : Nat → Prop} (hS : ∀ b, S b → S' b) {A : World} {v : Value} {ts : List Ty} (ha : ArgsAt S A v ts) : ArgsAt S' A v ts := by
  induction ha with
  | nil a cap => exact .nil a cap
  | mk b off cap ts sv hb hl hc _ ih => exact .mk b off cap ts sv (hS b hb) hl hc ih

theorem TyAt.keep {S : Nat → Prop} {A B : World} (h : ∀ b, S b → B.heap[b]? = A.heap[b]?) {v : Value} {t : Ty} (ha : TyAt S A v t) : TyAt S B v t := by
  obtain ⟨sv, rfl, h1⟩ := ha; exact ⟨sv, rfl, h1.keep h⟩
theorem TyAt.mono {S S' : Nat → Prop} (hS : ∀ b, S b → S' b) {A : World} {v : Value} {t : Ty} (ha : TyAt S A v t) : TyAt S' A v t := by
  obtain ⟨sv, rfl, h1⟩ := ha; exact ⟨sv, rfl, h1.mono hS⟩

theorem ArgsAt.form {S : Nat → Prop} {w : World} {v : Value} {ts : List Ty} (h : ArgsAt S w v ts) : ∃ a cap, v = .slice a ts.length cap ∧ ts.length ≤ 9223372036854775807 := by
  cases h with
  | nil a cap => exact ⟨a, cap, rfl, by simp⟩
  | mk b off cap ts sv hb hl hc ha => exact ⟨_, cap, rfl, hl⟩

/-- The i-th argument. -/
theorem ArgsAt.at_ {S : Nat → Prop} {w : World} {a : Option Addr} {len cap : Nat} {ts : List Ty} (h : ArgsAt S w (.slice a len cap) ts) {i : Nat} (hi : i < ts.length) :
    ∃ b off a' cap', a = some ⟨b, off, none⟩ ∧ S b ∧ Four w b (off + i * 4) (.int .i64 ts[i].kind) (.string ts[i].name) (.int .i64 ts[i].n) (.slice a' ts[i].args.length cap') ∧ ArgsAt S w (.slice a' ts[i].args.length cap') ts[i].args := by
  cases h with
  | nil a cap => simp at hi
  | mk b off cap ts sv hb hl hc ha =>
    obtain ⟨a', cap', e, _⟩ := (ha i hi).form
    have h1 := hc i hi
    have h2 := ha i hi
    rw [e] at h1 h2
    exact ⟨b, off, a', cap', rfl, hb, h1, h2⟩

end Go.Proofs.YtofllmemmggapaaGreatDoor.Tp

/- The reader over tokens: sees, takes. -/
namespace Go.Proofs.YtofllmemmggapaaGreatDoor.Tp
open Go.RowKit
open Lx

/-- The reader in block B holds the tokens l, which lie below block N. -/
def Rd (N B : Nat) (w : World) (l : List Tok) : Prop := ∃ a cap, w.heap[B]? = some (.cells #[.slice a l.length cap] 130 (0, 0)) ∧ ToksAt w (.slice a l.length cap) l ∧ l.length ≤ 9223372036854775807 ∧ ∀ b o, a = some ⟨b, o, none⟩ → b < N

def seesB (l : List Tok) (k : Nat) (s : List UInt8) : Bool := match l with
  | [] => false
  | t :: _ => t.kind == k && (s.isEmpty || t.text == s)

theorem sees_sk (l : List Tok) (k : Nat) : seesB l k [] = sk l k := by cases l <;> simp [seesB, sk]
theorem sees_st (l : List Tok) (k : Nat) (s : List UInt8) (h : s ≠ []) : seesB l k s = st l k s := by
  cases l with
  | nil => rfl
  | cons t l => cases s with
    | nil => exact absurd rfl h
    | cons c s => simp [seesB, st]

theorem ret_bool {a b : Bool} (h : a = b) : Ending.returned (.bool a) = .returned (.bool b) := by rw [h]

theorem toks_head {w : World} {a : Option Addr} {n cap : Nat} {t : Tok} {l : List Tok} (h : ToksAt w (.slice a n cap) (t :: l)) :
    ∃ b off, a = some ⟨b, off, none⟩ ∧ w.cell? ⟨b, off, none⟩ = some (.int .i64 t.kind) ∧ w.cell? ⟨b, off + 1, none⟩ = some (.string ⟨t.text.toArray⟩) := by
  obtain ⟨a', cap', he, hl, h0 | ⟨b, off, rfl, hc⟩⟩ := h
  · cases h0
  · injection he with e1 e2 e3
    subst e1
    obtain ⟨c1, c2, _⟩ := hc 0 (by simp)
    exact ⟨b, off, rfl, by simpa using c1, by simpa using c2⟩

set_option maxHeartbeats 800000 in
theorem sees_any (k : Nat) (s : List UInt8) (N B : Nat) (w : World) (l : List Tok) (h : Rd N B w l) :
    Calls Tryz.prog 120 #[.pointer (some ⟨B, 0, none⟩), .int .i64 (k : Int), .string ⟨s.toArray⟩] w fun e w' => e = .returned (.bool (seesB l k s)) ∧ w = w' := by
  obtain ⟨a, cap, hb, ht, hl, _⟩ := h
  have cB : w.cell? ⟨B, 0, none⟩ = some (.slice a l.length cap) := cell_of_row w B 0 _ _ _ hb
  cases l with
  | nil =>
    clear ht hb
    go_enter Tryz.func120, Tryz.ntmps120
    go_wp2
    go_ret
    exact ⟨rfl, rfl⟩
  | cons t l =>
    obtain ⟨b, off, rfl, c0, c1⟩ := toks_head ht
    have hk : seesB (t :: l) k s = (t.kind == k && (s.isEmpty || t.text == s)) := rfl
    have HK := Lib.hid hk
    have hl0 : (0 : Int) < ((t :: l).length : Int) := by simp
    generalize (t :: l).length = n at *
    clear hk hb ht
    by_cases h1 : t.kind = k
    · have e1 : ((t.kind : Int) == (k : Int)) = true := by rw [h1]; simp
      have H1 := Lib.hid h1
      clear h1
      by_cases h2 : s = []
      · subst h2
        go_enter Tryz.func120, Tryz.ntmps120
        go_wp2
        go_ret
        exact ⟨ret_bool (by rw [HK.out, H1.out]; simp), rfl⟩
      · have h3 : s.isEmpty = false := by simpa using h2
        have H3 := Lib.hid h3
        clear h2
        go_enter Tryz.func120, Tryz.ntmps120
        go_wp2
        go_ret
        exact ⟨ret_bool (by rw [HK.out, H1.out, H3.out]; simp), rfl⟩
    · have e1 : ((t.kind : Int) == (k : Int)) = false := by rw [beq_eq_false_iff_ne]; omega
      have H1 : Hid ((t.kind == k) = false) := Lib.hid (by rw [beq_eq_false_iff_ne]; exact h1)
      clear h1
      go_enter Tryz.func120, Tryz.ntmps120
      go_wp2
      go_ret
      exact ⟨ret_bool (by rw [HK.out, H1.out]; rfl), rfl⟩

/-- what takes tells: the token's text and what is left, if the next token is so -/
def TakesPost (N B : Nat) (w : World) (l : List Tok) (ok : Bool) (e : Ending) (w' : World) : Prop :=
  if ok then e = .returned (.tuple #[.string (bytes (headText l)), .bool true]) ∧ Rd N B w' l.tail ∧ w.grownBy w' (some B)
  else e = .returned (.tuple #[.string ByteArray.empty, .bool false]) ∧ w = w'

theorem toks_tail {w : World} {b off n cap cap' : Nat} {t : Tok} {l : List Tok} (h : ToksAt w (.slice (some ⟨b, off, none⟩) n cap) (t :: l)) (hc : l.length ≤ cap') : ToksAt w (.slice (some ⟨b, off + 3, none⟩) l.length cap') l := by
  obtain ⟨a', cap1, he, hl, h0 | ⟨b', off', e, hcc⟩⟩ := h
  · cases h0
  · injection he with e1 e2 e3
    rw [e] at e1
    injection e1 with e1
    injection e1 with e1 e4
    subst e1 e4
    refine ⟨_, cap', rfl, hc, .inr ⟨b, off + 3, rfl, fun i hi => ?_⟩⟩
    have := hcc (i + 1) (by simp; omega)
    simp only [List.getElem_cons_succ] at this
    rw [show off + 3 + i * 3 = off + (i + 1) * 3 by omega]
    exact this

theorem set_row0 {w : World} {b i : Nat} {c : Array Value} {t : TypeId} {f : Nat × Nat} (h : w.heap[b]? = some (.cells c t f)) (u : Value) :
    (w.setCell ⟨b, i, none⟩ u).heap[b]? = some (.cells (c.setIfInBounds i u) t f) := by
  simp [World.setCell, Array.getElem?_modify, h]

theorem grown_set (w : World) (a : Addr) (u : Value) : w.grownBy (w.setCell a u) (some a.block) :=
  ⟨rfl, rfl, rfl, by simp, fun k _ hk => Below.heap_setCell w a u k (fun e => hk (by rw [e]))⟩

/-- tokens lie in a block of another type than the reader's -/
theorem toks_block_ne {w : World} {b off cap B : Nat} {l : List Tok} {cs : Array Value} {f : Nat × Nat} (h : ToksAt w (.slice (some ⟨b, off, none⟩) l.length cap) l) (hl : l ≠ []) (hB : w.heap[B]? = some (.cells cs 130 f)) (hc : cs.size = 1) : b ≠ B := by
  rintro rfl
  obtain ⟨a', cap1, he, _, h0 | ⟨b', off', e, hcc⟩⟩ := h
  · exact hl h0
  · injection he with e1 e2 e3
    rw [e] at e1
    injection e1 with e1
    injection e1 with e1 e4
    subst e1 e4
    have h1 := (hcc 0 (List.length_pos_iff.2 hl)).2.1
    rw [cell_of_row _ _ _ _ _ _ hB, Array.getElem?_eq_none (by omega)] at h1
    cases h1

theorem toks_keep {w w' : World} {b off n cap : Nat} {l : List Tok} (h : ToksAt w (.slice (some ⟨b, off, none⟩) n cap) l) (hk : ∀ o, w'.cell? ⟨b, o, none⟩ = w.cell? ⟨b, o, none⟩) : ToksAt w' (.slice (some ⟨b, off, none⟩) n cap) l := by
  obtain ⟨a', cap1, he, hl, h0 | ⟨b', off', e, hcc⟩⟩ := h
  · exact ⟨a', cap1, he, hl, .inl h0⟩
  · refine ⟨a', cap1, he, hl, .inr ⟨b', off', e, fun i hi => ?_⟩⟩
    injection he with e1 e2 e3
    rw [e] at e1
    injection e1 with e1
    injection e1 with e1 e4
    subst e1
    rw [hk, hk, hk]
    exact hcc i hi

set_option maxHeartbeats 800000 in
theorem takes_any (k : Nat) (s : List UInt8) (N B : Nat) (w : World) (l : List Tok) (h : Rd N B w l) :
    Calls Tryz.prog 101 #[.pointer (some ⟨B, 0, none⟩), .int .i64 (k : Int), .string ⟨s.toArray⟩] w (TakesPost N B w l (seesB l k s)) := by
  have C := Lib.hid (sees_any k s N B w l h)
  cases hs : seesB l k s
  · have HS := Lib.hid hs
    clear hs h
    go_enter Tryz.func101, Tryz.ntmps101
    go_wp2_with fail
    refine C.out.mono ?_
    rintro e w' ⟨he, rfl⟩
    rw [HS.out] at he
    subst he
    go_wp2
    go_ret2
    exact ⟨rfl, rfl⟩
  · cases l with
    | nil => cases hs
    | cons t l =>
      obtain ⟨a, cap, hb, ht, hl, hN⟩ := h
      have cB : w.cell? ⟨B, 0, none⟩ = some (.slice a (t :: l).length cap) := cell_of_row w B 0 _ _ _ hb
      have fB : w.frozen? ⟨B, 0, none⟩ = false := by simp [World.frozen?, hb]
      obtain ⟨b, off, rfl, c0, c1⟩ := toks_head ht
      have hcap : (t :: l).length ≤ cap := by obtain ⟨_, _, e, h, _⟩ := ht; injection e with _ _ e; rw [e]; exact h
      have hcl : l.length + 1 ≤ cap := by simpa using hcap
      have hnn : (t :: l).length = l.length + 1 := by simp
      rw [hnn] at cB hl
      have NN := Lib.hid (hN b off rfl)
      have HS := Lib.hid hs
      have HB := Lib.hid hb
      have HT := Lib.hid ht
      clear hs hb ht hnn hcap hN
      by_cases h1 : cap = 1
      · obtain rfl : l = [] := List.eq_nil_of_length_eq_zero (by omega)
        subst h1
        go_enter Tryz.func101, Tryz.ntmps101
        go_wp2_with fail
        refine C.out.mono ?_
        rintro e w' ⟨he, rfl⟩
        rw [HS.out] at he
        subst he
        go_wp2
        go_ret2
        refine ⟨rfl, ⟨_, 0, ?_, ⟨some ⟨b, off, none⟩, 0, rfl, by simp, .inl rfl⟩, by simp, fun b' o' e => by injection e with e; injection e with e; rw [← e]; exact NN.out⟩, ?_⟩
        · exact (set_row0 HB.out _)
        · exact grown_set w _ _
      · have h2 : ¬ cap = 1 := h1
        go_enter Tryz.func101, Tryz.ntmps101
        go_wp2_with fail
        refine C.out.mono ?_
        rintro e w' ⟨he, rfl⟩
        rw [HS.out] at he
        subst he
        go_wp2
        go_ret2
        refine ⟨rfl, ⟨_, cap - 1, set_row0 HB.out _, ?_, by show l.length ≤ _; omega, fun b' o' e => by injection e with e; injection e with e; rw [← e]; exact NN.out⟩, grown_set w _ _⟩
        have hne := toks_block_ne (l := t :: l) (B := B) HT.out (by simp) HB.out rfl
        exact toks_keep (toks_tail (l := l) HT.out (by omega)) (fun o => World.cell?_setCell_other _ _ _ _ (fun e => by injection e with e; exact hne e.symm))

end Go.Proofs.YtofllmemmggapaaGreatDoor.Tp

/- What the reader's functions tell; the walk of atom. -/
namespace Go.Proofs.YtofllmemmggapaaGreatDoor.Tp
open Go.RowKit
open Lx

theorem grown_trans {a b c : World} {r : Option Nat} (h : a.grownBy b r) (k : b.grownBy c r) : a.grownBy c r :=
  ⟨k.os.trans h.os, k.tape.trans h.tape, k.output.trans h.output, Nat.le_trans h.size k.size, fun j hj hr => (k.block j (Nat.lt_of_lt_of_le hj h.size) hr).trans (h.block j hj hr)⟩
theorem grown_below {a b : World} {r : Option Nat} (h : Below a.heap.size a b) : a.grownBy b r := ⟨h.os, h.tape, h.output, h.size, fun k hk _ => h.block k hk⟩

theorem Rd.low {N B : Nat} {w w' : World} {l : List Tok} (h : Rd N B w l) (hb : Below w.heap.size w w') : Rd N B w' l := by
  obtain ⟨a, cap, h1, h2, h3, h9⟩ := h
  refine ⟨a, cap, (hb.block B (Array.getElem?_eq_some_iff.1 h1).1).trans h1, ?_, h3, h9⟩
  obtain ⟨a', c', e, h4, h5 | ⟨b, off, h6, h7⟩⟩ := h2
  · exact ⟨a', c', e, h4, .inl h5⟩
  · refine ⟨a', c', e, h4, .inr ⟨b, off, h6, fun i hi => ?_⟩⟩
    obtain ⟨c0, c1, c2⟩ := h7 i hi
    have hbl := World.block_lt_of_cell? w _ c0
    exact ⟨(hb.cell hbl).trans c0, (hb.cell (p := ⟨b, off + i * 3 + 1, none⟩) hbl).trans c1, (hb.cell (p := ⟨b, off + i * 3 + 2, none⟩) hbl).trans c2⟩

theorem Rd.blk {N B : Nat} {w : World} {l : List Tok} (h : Rd N B w l) : ∃ v, w.heap[B]? = some (.cells #[v] 130 (0, 0)) := by
  obtain ⟨a, cap, h1, _⟩ := h; exact ⟨_, h1⟩

theorem Rd.set {N B : Nat} {w : World} {l : List Tok} (h : Rd N B w l) {p : Addr} (hB : B ≠ p.block) (hN : N ≤ p.block) (u : Value) : Rd N B (w.setCell p u) l := by
  obtain ⟨a, cap, h1, h2, h3, h9⟩ := h
  refine ⟨a, cap, (Below.heap_setCell _ _ _ _ hB).trans h1, ?_, h3, h9⟩
  cases ha : a with
  | none =>
    subst ha
    obtain ⟨a', c', e, h4, h5 | ⟨b, off, h6, h7⟩⟩ := h2
    · exact ⟨a', c', e, h4, .inl h5⟩
    · injection e with e; rw [h6] at e; cases e
  | some x =>
    subst ha
    obtain ⟨a', c', e, h4, h5 | ⟨b, off, h6, h7⟩⟩ := h2
    · exact ⟨a', c', e, h4, .inl h5⟩
    · refine ⟨a', c', e, h4, .inr ⟨b, off, h6, fun i hi => ?_⟩⟩
      injection e with e
      have hb := h9 b off (by rw [e, h6])
      have k : ∀ o, (w.setCell p u).cell? ⟨b, o, none⟩ = w.cell? ⟨b, o, none⟩ := fun o => World.cell?_of_block (Below.heap_setCell w p u b (by omega))
      rw [k, k, k]; exact h7 i hi

/-- four cells of a type's struct, a block of their own -/
def B4 (w : World) (b : Nat) (c0 c1 c2 c3 : Value) : Prop := w.heap[b]? = some (.cells #[c0, c1, c2, c3] 26 (0, 0))

section
variable {w w' : World} {b : Nat} {u0 u1 u2 u3 : Value}
theorem B4.c0 (h : B4 w b u0 u1 u2 u3) : w.cell? ⟨b, 0, none⟩ = some u0 := cell_of_row w b 0 _ _ _ h
theorem B4.c1 (h : B4 w b u0 u1 u2 u3) : w.cell? ⟨b, 1, none⟩ = some u1 := cell_of_row w b 1 _ _ _ h
theorem B4.c2 (h : B4 w b u0 u1 u2 u3) : w.cell? ⟨b, 2, none⟩ = some u2 := cell_of_row w b 2 _ _ _ h
theorem B4.c3 (h : B4 w b u0 u1 u2 u3) : w.cell? ⟨b, 3, none⟩ = some u3 := cell_of_row w b 3 _ _ _ h
theorem B4.fr (h : B4 w b u0 u1 u2 u3) (i : Nat) : w.frozen? ⟨b, i, none⟩ = false := by unfold B4 at h; simp [World.frozen?, h]
theorem B4.lt (h : B4 w b u0 u1 u2 u3) : b < w.heap.size := (Array.getElem?_eq_some_iff.1 h).1
theorem B4.new (w : World) (u0 u1 u2 u3 : Value) : B4 (w.alloc (.cells #[u0, u1, u2, u3] 26)) w.heap.size u0 u1 u2 u3 := heap_alloc_new w _
theorem B4.grown {r : Option Nat} (h : B4 w b u0 u1 u2 u3) (hg : w.grownBy w' r) (hr : r ≠ some b) : B4 w' b u0 u1 u2 u3 := (hg.block b h.lt (Ne.symm hr)).trans h
theorem B4.low (h : B4 w b u0 u1 u2 u3) (hb : Below w.heap.size w w') : B4 w' b u0 u1 u2 u3 := (hb.block b h.lt).trans h
theorem B4.ne_rd {N B : Nat} {l : List Tok} (h : B4 w b u0 u1 u2 u3) (k : Rd N B w l) : b ≠ B := by
  rintro rfl
  obtain ⟨v, hv⟩ := k.blk
  unfold B4 at h
  rw [hv] at h
  injection h with h
  injection h with _ ht
  exact absurd ht (by decide)
end

theorem B4.set4 {w : World} {b : Nat} {u0 u1 u2 u3 : Value} (h : B4 w b u0 u1 u2 u3) (v0 v1 v2 v3 : Value) :
    B4 ((((w.setCell ⟨b, 0, none⟩ v0).setCell ⟨b, 1, none⟩ v1).setCell ⟨b, 2, none⟩ v2).setCell ⟨b, 3, none⟩ v3) b v0 v1 v2 v3 := by
  unfold B4 at *
  rw [set_row0 (set_row0 (set_row0 (set_row0 h v0) v1) v2) v3]
  rfl

theorem grown_set4 {w w1 : World} {r : Option Nat} {b : Nat} (h : w.grownBy w1 r) (hb : w.heap.size ≤ b) (v0 v1 v2 v3 : Value) :
    w.grownBy ((((w1.setCell ⟨b, 0, none⟩ v0).setCell ⟨b, 1, none⟩ v1).setCell ⟨b, 2, none⟩ v2).setCell ⟨b, 3, none⟩ v3) r := by
  refine ⟨h.os, h.tape, h.output, by simpa using h.size, fun k hk hr => ?_⟩
  rw [Below.heap_setCell _ _ _ _ (by simp; omega), Below.heap_setCell _ _ _ _ (by simp; omega), Below.heap_setCell _ _ _ _ (by simp; omega), Below.heap_setCell _ _ _ _ (by simp; omega)]
  exact h.block k hk hr

theorem Rd.set4 {N B : Nat} {w : World} {l : List Tok} (h : Rd N B w l) {b : Nat} (hB : B ≠ b) (hN : N ≤ b) (v0 v1 v2 v3 : Value) :
    Rd N B ((((w.setCell ⟨b, 0, none⟩ v0).setCell ⟨b, 1, none⟩ v1).setCell ⟨b, 2, none⟩ v2).setCell ⟨b, 3, none⟩ v3) l :=
  (((h.set (p := ⟨b, 0, none⟩) hB hN v0).set (p := ⟨b, 1, none⟩) hB hN v1).set (p := ⟨b, 2, none⟩) hB hN v2).set (p := ⟨b, 3, none⟩) hB hN v3

/-- the value of a type's struct -/
def tv (t : Ty) (a : Option Addr) (c : Nat) : Value := .agg #[.int .i64 t.kind, .string t.name, .int .i64 t.n, .slice a t.args.length c]

/-- WHAT A READER's FUNCTION TELLS -/
def RdPost (N B : Nat) (w : World) (res : Option (Ty × List Tok)) (e : Ending) (w' : World) : Prop :=
  w.grownBy w' (some B) ∧ match res with
  | none => ∃ (k : Int) (s : ByteArray) (n : Int) (a : Option Addr) (c m : Nat), e = .returned (.tuple #[.agg #[.int .i64 k, .string s, .int .i64 n, .slice a c m], .bool false])
  | some (t, r) => ∃ a c, e = .returned (.tuple #[tv t a c, .bool true]) ∧ ArgsAt (In w.heap.size w'.heap.size) w' (.slice a t.args.length c) t.args ∧ Rd N B w' r

/-- tokens as the scanner makes them -/
def TokOk (l : List Tok) : Prop := ∀ t ∈ l, t.kind = 5 → t.text.length ≤ 19 ∧ Lib.atoi t.text.tail = some (numL t.text.tail : Int)

theorem TokOk.tail {l : List Tok} (h : TokOk l) : TokOk l.tail := fun t ht => h t (List.mem_of_mem_tail ht)

/-- what is told of the four, up to a fuel -/
structure Said (n : Nat) : Prop where
  typ : ∀ (N B : Nat) (w : World) (l : List Tok), Rd N B w l → N ≤ w.heap.size → TokOk l → l.length ≤ 4000 → 4 * l.length + 4 ≤ n → Calls Tryz.prog 76 #[.pointer (some ⟨B, 0, none⟩)] w (RdPost N B w (typF n l))
  all : ∀ (N B : Nat) (w : World) (l : List Tok), Rd N B w l → N ≤ w.heap.size → TokOk l → l.length ≤ 4000 → 4 * l.length + 1 ≤ n → Calls Tryz.prog 102 #[.pointer (some ⟨B, 0, none⟩)] w (RdPost N B w (allF n l))
  app : ∀ (N B : Nat) (w : World) (l : List Tok), Rd N B w l → N ≤ w.heap.size → TokOk l → l.length ≤ 4000 → 4 * l.length + 3 ≤ n → Calls Tryz.prog 103 #[.pointer (some ⟨B, 0, none⟩)] w (RdPost N B w (appF n l))
  atom : ∀ (N B : Nat) (w : World) (l : List Tok), Rd N B w l → N ≤ w.heap.size → TokOk l → l.length ≤ 4000 → 4 * l.length + 2 ≤ n → Calls Tryz.prog 121 #[.pointer (some ⟨B, 0, none⟩)] w (RdPost N B w (atomF n l))

theorem takes_yes {k : Nat} {s : List UInt8} {N B : Nat} {w : World} {l : List Tok} (h : Rd N B w l) (hs : seesB l k s = true) :
    Calls Tryz.prog 101 #[.pointer (some ⟨B, 0, none⟩), .int .i64 (k : Int), .string ⟨s.toArray⟩] w fun e w' => e = .returned (.tuple #[.string (bytes (headText l)), .bool true]) ∧ Rd N B w' l.tail ∧ w.grownBy w' (some B) := by
  have := takes_any k s N B w l h
  rw [hs] at this
  exact this
theorem takes_no {k : Nat} {s : List UInt8} {N B : Nat} {w : World} {l : List Tok} (h : Rd N B w l) (hs : seesB l k s = false) :
    Calls Tryz.prog 101 #[.pointer (some ⟨B, 0, none⟩), .int .i64 (k : Int), .string ⟨s.toArray⟩] w fun e w' => e = .returned (.tuple #[.string ByteArray.empty, .bool false]) ∧ w = w' := by
  have := takes_any k s N B w l h
  rw [hs] at this
  exact this

set_option maxHeartbeats 1600000 in
theorem atom_var (n N B : Nat) (w : World) (l : List Tok) (h : Rd N B w l) (hN : N ≤ w.heap.size) (h1 : sk l 1 = true) : Calls Tryz.prog 121 #[.pointer (some ⟨B, 0, none⟩)] w (RdPost N B w (atomF (n + 1) l)) := by
  have hr := h.low ((Below.refl w.heap.size w).alloc (Nat.le_refl _) (.cells #[.int .i64 0, .string ByteArray.empty, .int .i64 0, .slice none 0 0] 26))
  have C := Lib.hid (takes_yes hr (k := 1) (s := []) (by rw [sees_sk]; exact h1))
  have b4 := Lib.hid (B4.new w (.int .i64 0) (.string ByteArray.empty) (.int .i64 0) (.slice none 0 0))
  have HR := Lib.hid hr
  have H1 := Lib.hid h1
  clear h hr h1
  go_enter Tryz.func121, Tryz.ntmps121
  go_wp2_with fail
  refine C.out.mono ?_
  rintro e w1 ⟨rfl, hrd, hg⟩
  have k4 := b4.out.grown hg (fun e => b4.out.ne_rd HR.out (by injection e with e; exact e.symm))
  have c0 := k4.c0
  have c1 := k4.c1
  have c2 := k4.c2
  have c3 := k4.c3
  have f0 := k4.fr 0
  have f1 := k4.fr 1
  have f2 := k4.fr 2
  have f3 := k4.fr 3
  have K4 := Lib.hid k4
  have RD := Lib.hid hrd
  have G := Lib.hid hg
  clear k4 hrd hg
  have hne := K4.out.ne_rd RD.out
  go_wp2
  have q4 := K4.out.set4 (.int .i64 1) (.string (bytes (headText l))) (.int .i64 0) (.slice none 0 0)
  have g4 := grown_set4 (grown_trans (grown_below ((Below.refl w.heap.size w).alloc (Nat.le_refl _) _)) G.out) (Nat.le_refl _) (.int .i64 1) (.string (bytes (headText l))) (.int .i64 0) (.slice none 0 0)
  have r4 := RD.out.set4 (Ne.symm hne) hN (.int .i64 1) (.string (bytes (headText l))) (.int .i64 0) (.slice none 0 0)
  refine bodyPost_ret (v := .tuple #[tv (tVar (headText l)) none 0, .bool true]) (by simp [results, Tryz.results121, go_sem, q4.c0, q4.c1, q4.c2, q4.c3]; rfl) rfl ?_
  have e : atomF (n + 1) l = some (tVar (headText l), l.tail) := by rw [atomF, if_pos H1.out]
  rw [e]
  exact ⟨g4, none, 0, rfl, .nil _ _, r4⟩

end Go.Proofs.YtofllmemmggapaaGreatDoor.Tp

/- Depth, walked. -/
namespace Go.Proofs.YtofllmemmggapaaGreatDoor.Tp
open Go.RowKit

def IntPost (w : World) (x : Int) (e : Ending) (w' : World) : Prop := e = .returned (.int .i64 x) ∧ Below w.heap.size w w'

theorem ret_int {k : IntKind} {a b : Int} (h : a = b) : Ending.returned (.int k a) = .returned (.int k b) := by rw [h]

set_option maxHeartbeats 800000 in
theorem depth_any : ∀ (t : Ty) (S : Nat → Prop) (v : Value) (w : World), TyAt S w v t → (∀ b, S b → b < w.heap.size) → t.depth ≤ 100000 →
    Calls Tryz.prog 22 #[v] w (IntPost w t.depth) := by
  intro t
  induction t using Ty.ind with
  | h t ih =>
    intro S v w hT hn hd
    obtain ⟨sv, rfl, hA⟩ := hT
    obtain ⟨a, cap, rfl, hl⟩ := hA.form
    have hde := t.depth_eq
    have IH := Lib.hid ih
    have AH := Lib.hid hA
    have HN := Lib.hid hn
    have DE := Lib.hid hde
    clear ih hA hde hn
    go_enter Tryz.func22, Tryz.ntmps22
    go_wp2
    go_loopw [3, 9] (fun mv iv wr => ∃ i : Nat, iv = .int .i64 i ∧ i ≤ t.args.length ∧ mv = .int .i64 (depthL (t.args.take i) : Nat) ∧ Below w.heap.size w wr) (fun _ iv _ => t.args.length - (intOf iv).toNat)
    case atStart => exact ⟨0, rfl, Nat.zero_le _, by simp [depthL], (Below.refl _ _).alloc (Nat.le_refl _) _⟩
    case round =>
      obtain ⟨i, rfl, hil, rfl, hB⟩ := hrel
      have z0 : (0 : Int) ≤ (i : Int) := by omega
      have BH := Lib.hid hB
      by_cases hi : i < t.args.length
      · have z1 : (i : Int) < (t.args.length : Int) := by omega
        obtain ⟨b, off, a', cap', rfl, hb, hf, hs⟩ := AH.out.at_ hi
        have hn := HN.out
        have hbl := hn b hb
        obtain ⟨f0, f1, f2, f3⟩ := hf.keep (hB.block b hbl)
        have hm := List.getElem_mem hi
        have hdi := depth_arg _ hm
        have hdt := depthL_take _ _ hi
        have C := fun (W : World) (hb : Below w.heap.size w W) => IH.out _ hm S (.agg #[.int .i64 t.args[i].kind, .string t.args[i].name, .int .i64 t.args[i].n, .slice a' t.args[i].args.length cap']) W ⟨_, rfl, hs.keep fun b hS => hb.block b (hn b hS)⟩ (fun b hS => Nat.lt_of_lt_of_le (hn b hS) hb.size) (by have := DE.out; omega)
        have CH := Lib.hid C
        have DT := Lib.hid hdt
        have hdd : t.args[i].depth ≤ 100000 := by have := DE.out; omega
        have hdl : depthL (t.args.take i) ≤ depthL t.args := by
          conv => rhs; rw [← List.take_append_drop i t.args, depthL_append]
          omega
        have hdl2 : depthL (t.args.take i) ≤ 100000 := by have := DE.out; omega
        have hsz := hB.size
        clear hf hs hB C hm hdi hdt hdl hn hb
        generalize t.args[i] = x at *
        generalize depthL (t.args.take i) = m at *
        go_wp2_with fail
        refine (CH.out _ (BH.out.alloc (by omega) _)).mono ?_
        rintro e w4 ⟨rfl, B4⟩
        have B5 := Lib.hid ((BH.out.alloc (by omega) (.cells #[.int .i64 x.kind, .string x.name, .int .i64 x.n, .slice a' x.args.length cap'] 26)).trans (B4.mono (by simp; omega)))
        have em : (if m < x.depth then (x.depth : Int) else (m : Int)) = ((max m x.depth : Nat) : Int) := by split <;> omega
        clear B4
        go_wp2
        go_roundw
        case rel => exact ⟨i + 1, by go_num, by omega, by rw [DT.out], B5.out⟩
        case measure => simp [intOf]; omega
      · obtain rfl : i = t.args.length := by omega
        have hdl2 : depthL t.args ≤ 100000 := by have := DE.out; omega
        clear hB
        go_wp2
        go_ret
        exact ⟨ret_int (by rw [DE.out]; omega), BH.out⟩

end Go.Proofs.YtofllmemmggapaaGreatDoor.Tp

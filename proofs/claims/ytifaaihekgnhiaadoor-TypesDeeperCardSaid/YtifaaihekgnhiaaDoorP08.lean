/- Texts laid together: TyAtom, TyAtomB. -/
import Derived.Test.YtifaaihekgnhiaaDoorP07
import Derived.Test.YtifaaihekgnhiaaDoorPS
import Derived.Lib.AtoiErrMem

/- What the reader's functions tell; the walk of atom. -/
namespace Go.Proofs.YtifaaihekgnhiaaDoor.Tp
open Go.RowKit
open Lx

theorem grown_trans {a b c : World} {r : Option Nat} (h : a.grownBy b r) (k : b.grownBy c r) : a.grownBy c r :=
  ⟨k.os.trans h.os, k.tape.trans h.tape, k.output.trans h.output, Nat.le_trans h.size k.size, fun j hj hr => (k.block j (Nat.lt_of_lt_of_le hj h.size) hr).trans (h.block j hj hr)⟩
theorem grown_below {a b : World} {r : Option Nat} (h : Below a.heap.size a b) : a.grownBy b r := ⟨h.os, h.tape, h.output, h.size, fun k hk _ => h.block k hk⟩

theorem Rd.low {N B : Nat} {w w' : World} {l : List Tok} (h : Rd N B w l) (hb : Below w.heap.size w w') : Rd N B w' l := by
  obtain ⟨a, cap, h1, h2, h3, h9⟩ := h
  refine ⟨a, cap, (hb.block B (Array.getElem?_eq_some_iff.1 h1).1).trans h1, ?_, h3, h9⟩
  obtain ⟨a', c', e, h4, h5 | ⟨b, off, h6, h7⟩⟩ := h2
  · exact ⟨a', c', e, h4, .inl h5⟩
  · refine ⟨a', c', e, h4, .inr ⟨b, off, h6, fun i hi => ?_⟩⟩
    obtain ⟨c0, c1, c2⟩ := h7 i hi
    have hbl := World.block_lt_of_cell? w _ c0
    exact ⟨(hb.cell hbl).trans c0, (hb.cell (p := ⟨b, off + i * 3 + 1, none⟩) hbl).trans c1, (hb.cell (p := ⟨b, off + i * 3 + 2, none⟩) hbl).trans c2⟩

theorem Rd.blk {N B : Nat} {w : World} {l : List Tok} (h : Rd N B w l) : ∃ v, w.heap[B]? = some (.cells #[v] 76 (0, 0)) := by
  obtain ⟨a, cap, h1, _⟩ := h; exact ⟨_, h1⟩

theorem Rd.set {N B : Nat} {w : World} {l : List Tok} (h : Rd N B w l) {p : Addr} (hB : B ≠ p.block) (hN : N ≤ p.block) (u : Value) : Rd N B (w.setCell p u) l := by
  obtain ⟨a, cap, h1, h2, h3, h9⟩ := h
  refine ⟨a, cap, (Below.heap_setCell _ _ _ _ hB).trans h1, ?_, h3, h9⟩
  cases ha : a with
  | none =>
    subst ha
    obtain ⟨a', c', e, h4, h5 | ⟨b, off, h6, h7⟩⟩ := h2
    · exact ⟨a', c', e, h4, .inl h5⟩
    · injection e with e; rw [h6] at e; cases e
  | some x =>
    subst ha
    obtain ⟨a', c', e, h4, h5 | ⟨b, off, h6, h7⟩⟩ := h2
    · exact ⟨a', c', e, h4, .inl h5⟩
    · refine ⟨a', c', e, h4, .inr ⟨b, off, h6, fun i hi => ?_⟩⟩
      injection e with e
      have hb := h9 b off (by rw [e, h6])
      have k : ∀ o, (w.setCell p u).cell? ⟨b, o, none⟩ = w.cell? ⟨b, o, none⟩ := fun o => World.cell?_of_block (Below.heap_setCell w p u b (by omega))
      rw [k, k, k]; exact h7 i hi

/-- four cells of a type's struct, a block of their own -/
def B4 (w : World) (b : Nat) (c0 c1 c2 c3 : Value) : Prop := w.heap[b]? = some (.cells #[c0, c1, c2, c3] 25 (0, 0))

section
variable {w w' : World} {b : Nat} {u0 u1 u2 u3 : Value}
theorem B4.c0 (h : B4 w b u0 u1 u2 u3) : w.cell? ⟨b, 0, none⟩ = some u0 := cell_of_row w b 0 _ _ _ h
theorem B4.c1 (h : B4 w b u0 u1 u2 u3) : w.cell? ⟨b, 1, none⟩ = some u1 := cell_of_row w b 1 _ _ _ h
theorem B4.c2 (h : B4 w b u0 u1 u2 u3) : w.cell? ⟨b, 2, none⟩ = some u2 := cell_of_row w b 2 _ _ _ h
theorem B4.c3 (h : B4 w b u0 u1 u2 u3) : w.cell? ⟨b, 3, none⟩ = some u3 := cell_of_row w b 3 _ _ _ h
theorem B4.fr (h : B4 w b u0 u1 u2 u3) (i : Nat) : w.frozen? ⟨b, i, none⟩ = false := by unfold B4 at h; simp [World.frozen?, h]
theorem B4.lt (h : B4 w b u0 u1 u2 u3) : b < w.heap.size := (Array.getElem?_eq_some_iff.1 h).1
theorem B4.new (w : World) (u0 u1 u2 u3 : Value) : B4 (w.alloc (.cells #[u0, u1, u2, u3] 25)) w.heap.size u0 u1 u2 u3 := heap_alloc_new w _
theorem B4.grown {r : Option Nat} (h : B4 w b u0 u1 u2 u3) (hg : w.grownBy w' r) (hr : r ≠ some b) : B4 w' b u0 u1 u2 u3 := (hg.block b h.lt (Ne.symm hr)).trans h
theorem B4.low (h : B4 w b u0 u1 u2 u3) (hb : Below w.heap.size w w') : B4 w' b u0 u1 u2 u3 := (hb.block b h.lt).trans h
theorem B4.ne_rd {N B : Nat} {l : List Tok} (h : B4 w b u0 u1 u2 u3) (k : Rd N B w l) : b ≠ B := by
  rintro rfl
  obtain ⟨v, hv⟩ := k.blk
  unfold B4 at h
  rw [hv] at h
  injection h with h
  injection h with _ ht
  exact absurd ht (by decide)
end

theorem B4.set4 {w : World} {b : Nat} {u0 u1 u2 u3 : Value} (h : B4 w b u0 u1 u2 u3) (v0 v1 v2 v3 : Value) :
    B4 ((((w.setCell ⟨b, 0, none⟩ v0).setCell ⟨b, 1, none⟩ v1).setCell ⟨b, 2, none⟩ v2).setCell ⟨b, 3, none⟩ v3) b v0 v1 v2 v3 := by
  unfold B4 at *
  rw [set_row0 (set_row0 (set_row0 (set_row0 h v0) v1) v2) v3]
  rfl

theorem grown_set4 {w w1 : World} {r : Option Nat} {b : Nat} (h : w.grownBy w1 r) (hb : w.heap.size ≤ b) (v0 v1 v2 v3 : Value) :
    w.grownBy ((((w1.setCell ⟨b, 0, none⟩ v0).setCell ⟨b, 1, none⟩ v1).setCell ⟨b, 2, none⟩ v2).setCell ⟨b, 3, none⟩ v3) r := by
  refine ⟨h.os, h.tape, h.output, by simpa using h.size, fun k hk hr => ?_⟩
  rw [Below.heap_setCell _ _ _ _ (by simp; omega), Below.heap_setCell _ _ _ _ (by simp; omega), Below.heap_setCell _ _ _ _ (by simp; omega), Below.heap_setCell _ _ _ _ (by simp; omega)]
  exact h.block k hk hr

theorem Rd.set4 {N B : Nat} {w : World} {l : List Tok} (h : Rd N B w l) {b : Nat} (hB : B ≠ b) (hN : N ≤ b) (v0 v1 v2 v3 : Value) :
    Rd N B ((((w.setCell ⟨b, 0, none⟩ v0).setCell ⟨b, 1, none⟩ v1).setCell ⟨b, 2, none⟩ v2).setCell ⟨b, 3, none⟩ v3) l :=
  (((h.set (p := ⟨b, 0, none⟩) hB hN v0).set (p := ⟨b, 1, none⟩) hB hN v1).set (p := ⟨b, 2, none⟩) hB hN v2).set (p := ⟨b, 3, none⟩) hB hN v3

/-- the value of a type's struct -/
def tv (t : Ty) (a : Option Addr) (c : Nat) : Value := .agg #[.int .i64 t.kind, .string t.name, .int .i64 t.n, .slice a t.args.length c]

/-- WHAT A READER's FUNCTION TELLS -/
def RdPost (N B : Nat) (w : World) (res : Option (Ty × List Tok)) (e : Ending) (w' : World) : Prop :=
  w.grownBy w' (some B) ∧ match res with
  | none => ∃ (k : Int) (s : ByteArray) (n : Int) (a : Option Addr) (c m : Nat), e = .returned (.tuple #[.agg #[.int .i64 k, .string s, .int .i64 n, .slice a c m], .bool false])
  | some (t, r) => ∃ a c, e = .returned (.tuple #[tv t a c, .bool true]) ∧ ArgsAt (In w.heap.size w'.heap.size) w' (.slice a t.args.length c) t.args ∧ Rd N B w' r

/-- tokens as the scanner makes them -/
def TokOk (l : List Tok) : Prop := ∀ t ∈ l, t.kind = 5 → t.text.length ≤ 19 ∧ Lib.atoi t.text.tail = some (numL t.text.tail : Int)

theorem TokOk.tail {l : List Tok} (h : TokOk l) : TokOk l.tail := fun t ht => h t (List.mem_of_mem_tail ht)

/-- what is told of the four, up to a fuel -/
structure Said (n : Nat) : Prop where
  typ : ∀ (N B : Nat) (w : World) (l : List Tok), Rd N B w l → N ≤ w.heap.size → TokOk l → l.length ≤ 4000 → 4 * l.length + 4 ≤ n → Calls Tryd.prog 46 #[.pointer (some ⟨B, 0, none⟩)] w (RdPost N B w (typF n l))
  all : ∀ (N B : Nat) (w : World) (l : List Tok), Rd N B w l → N ≤ w.heap.size → TokOk l → l.length ≤ 4000 → 4 * l.length + 1 ≤ n → Calls Tryd.prog 69 #[.pointer (some ⟨B, 0, none⟩)] w (RdPost N B w (allF n l))
  app : ∀ (N B : Nat) (w : World) (l : List Tok), Rd N B w l → N ≤ w.heap.size → TokOk l → l.length ≤ 4000 → 4 * l.length + 3 ≤ n → Calls Tryd.prog 70 #[.pointer (some ⟨B, 0, none⟩)] w (RdPost N B w (appF n l))
  atom : ∀ (N B : Nat) (w : World) (l : List Tok), Rd N B w l → N ≤ w.heap.size → TokOk l → l.length ≤ 4000 → 4 * l.length + 2 ≤ n → Calls Tryd.prog 78 #[.pointer (some ⟨B, 0, none⟩)] w (RdPost N B w (atomF n l))

theorem takes_yes {k : Nat} {s : List UInt8} {N B : Nat} {w : World} {l : List Tok} (h : Rd N B w l) (hs : seesB l k s = true) :
    Calls Tryd.prog 68 #[.pointer (some ⟨B, 0, none⟩), .int .i64 (k : Int), .string ⟨s.toArray⟩] w fun e w' => e = .returned (.tuple #[.string (bytes (headText l)), .bool true]) ∧ Rd N B w' l.tail ∧ w.grownBy w' (some B) := by
  have := takes_any k s N B w l h
  rw [hs] at this
  exact this
theorem takes_no {k : Nat} {s : List UInt8} {N B : Nat} {w : World} {l : List Tok} (h : Rd N B w l) (hs : seesB l k s = false) :
    Calls Tryd.prog 68 #[.pointer (some ⟨B, 0, none⟩), .int .i64 (k : Int), .string ⟨s.toArray⟩] w fun e w' => e = .returned (.tuple #[.string ByteArray.empty, .bool false]) ∧ w = w' := by
  have := takes_any k s N B w l h
  rw [hs] at this
  exact this

set_option maxHeartbeats 1600000 in
theorem atom_var (n N B : Nat) (w : World) (l : List Tok) (h : Rd N B w l) (hN : N ≤ w.heap.size) (h1 : sk l 1 = true) : Calls Tryd.prog 78 #[.pointer (some ⟨B, 0, none⟩)] w (RdPost N B w (atomF (n + 1) l)) := by
  have hr := h.low ((Below.refl w.heap.size w).alloc (Nat.le_refl _) (.cells #[.int .i64 0, .string ByteArray.empty, .int .i64 0, .slice none 0 0] 25))
  have C := Lib.hid (takes_yes hr (k := 1) (s := []) (by rw [sees_sk]; exact h1))
  have b4 := Lib.hid (B4.new w (.int .i64 0) (.string ByteArray.empty) (.int .i64 0) (.slice none 0 0))
  have HR := Lib.hid hr
  have H1 := Lib.hid h1
  clear h hr h1
  go_enter Tryd.func78, Tryd.ntmps78
  go_wp2_with fail
  refine C.out.mono ?_
  rintro e w1 ⟨rfl, hrd, hg⟩
  have k4 := b4.out.grown hg (fun e => b4.out.ne_rd HR.out (by injection e with e; exact e.symm))
  have c0 := k4.c0
  have c1 := k4.c1
  have c2 := k4.c2
  have c3 := k4.c3
  have f0 := k4.fr 0
  have f1 := k4.fr 1
  have f2 := k4.fr 2
  have f3 := k4.fr 3
  have K4 := Lib.hid k4
  have RD := Lib.hid hrd
  have G := Lib.hid hg
  clear k4 hrd hg
  have hne := K4.out.ne_rd RD.out
  go_wp2
  have q4 := K4.out.set4 (.int .i64 1) (.string (bytes (headText l))) (.int .i64 0) (.slice none 0 0)
  have g4 := grown_set4 (grown_trans (grown_below ((Below.refl w.heap.size w).alloc (Nat.le_refl _) _)) G.out) (Nat.le_refl _) (.int .i64 1) (.string (bytes (headText l))) (.int .i64 0) (.slice none 0 0)
  have r4 := RD.out.set4 (Ne.symm hne) hN (.int .i64 1) (.string (bytes (headText l))) (.int .i64 0) (.slice none 0 0)
  refine bodyPost_ret (v := .tuple #[tv (tVar (headText l)) none 0, .bool true]) (by simp [results, Tryd.results78, go_sem, q4.c0, q4.c1, q4.c2, q4.c3]; rfl) rfl ?_
  have e : atomF (n + 1) l = some (tVar (headText l), l.tail) := by rw [atomF, if_pos H1.out]
  rw [e]
  exact ⟨g4, none, 0, rfl, .nil _ _, r4⟩

end Go.Proofs.YtifaaihekgnhiaaDoor.Tp

/- The walk of atom: the other cases; the whole. -/
namespace Go.Proofs.YtifaaihekgnhiaaDoor.Tp
open Go.RowKit
open Lx

theorem sees0 {l : List Tok} {k : Nat} {b : Bool} (h : sk l k = b) : seesB l k [] = b := by rw [sees_sk]; exact h
theorem sees1 {l : List Tok} {k : Nat} {s : List UInt8} {b : Bool} (hs : s ≠ []) (h : st l k s = b) : seesB l k s = b := by rw [sees_st _ _ _ hs]; exact h

theorem size_bytes (l : List UInt8) : (bytes l).size = l.length := by simp [bytes, ByteArray.size]

set_option maxHeartbeats 1600000 in
theorem atom_con (n N B : Nat) (w : World) (l : List Tok) (h : Rd N B w l) (hN : N ≤ w.heap.size) (h1 : sk l 1 = false) (h2 : sk l 2 = true) : Calls Tryd.prog 78 #[.pointer (some ⟨B, 0, none⟩)] w (RdPost N B w (atomF (n + 1) l)) := by
  have hr := h.low ((Below.refl w.heap.size w).alloc (Nat.le_refl _) (.cells #[.int .i64 0, .string ByteArray.empty, .int .i64 0, .slice none 0 0] 25))
  have C1 := Lib.hid (takes_no hr (k := 1) (s := []) (sees0 h1))
  have C2 := Lib.hid (takes_yes hr (k := 2) (s := []) (sees0 h2))
  have b4 := Lib.hid (B4.new w (.int .i64 0) (.string ByteArray.empty) (.int .i64 0) (.slice none 0 0))
  have HR := Lib.hid hr
  have e : atomF (n + 1) l = some (tCon (headText l) [], l.tail) := by rw [atomF, h1, if_neg (by simp), if_pos h2]
  have E := Lib.hid e
  clear h hr h1 h2 e
  go_enter Tryd.func78, Tryd.ntmps78
  go_wp2_with fail
  refine C1.out.mono ?_
  rintro e w1 ⟨rfl, rfl⟩
  go_wp2_with fail
  refine C2.out.mono ?_
  rintro e w1 ⟨rfl, hrd, hg⟩
  have k4 := b4.out.grown hg (fun e => b4.out.ne_rd HR.out (by injection e with e; exact e.symm))
  have c0 := k4.c0
  have c1 := k4.c1
  have c2 := k4.c2
  have c3 := k4.c3
  have f0 := k4.fr 0
  have f1 := k4.fr 1
  have f2 := k4.fr 2
  have f3 := k4.fr 3
  have K4 := Lib.hid k4
  have RD := Lib.hid hrd
  have G := Lib.hid hg
  clear k4 hrd hg
  have hne := K4.out.ne_rd RD.out
  go_wp2
  have q4 := K4.out.set4 (.int .i64 3) (.string (bytes (headText l))) (.int .i64 0) (.slice none 0 0)
  have g4 := grown_set4 (grown_trans (grown_below ((Below.refl w.heap.size w).alloc (Nat.le_refl _) _)) G.out) (Nat.le_refl _) (.int .i64 3) (.string (bytes (headText l))) (.int .i64 0) (.slice none 0 0)
  have r4 := RD.out.set4 (Ne.symm hne) hN (.int .i64 3) (.string (bytes (headText l))) (.int .i64 0) (.slice none 0 0)
  refine bodyPost_ret (v := .tuple #[tv (tCon (headText l) []) none 0, .bool true]) (by simp [results, Tryd.results78, go_sem, q4.c0, q4.c1, q4.c2, q4.c3]; rfl) rfl ?_
  rw [E.out]
  exact ⟨g4, none, 0, rfl, .nil _ _, r4⟩

set_option maxHeartbeats 1600000 in
theorem atom_meta (n N B : Nat) (w : World) (l : List Tok) (h : Rd N B w l) (hN : N ≤ w.heap.size) (hok : TokOk l) (h1 : sk l 1 = false) (h2 : sk l 2 = false) (h3 : sk l 5 = true) : Calls Tryd.prog 78 #[.pointer (some ⟨B, 0, none⟩)] w (RdPost N B w (atomF (n + 1) l)) := by
  have hr := h.low ((Below.refl w.heap.size w).alloc (Nat.le_refl _) (.cells #[.int .i64 0, .string ByteArray.empty, .int .i64 0, .slice none 0 0] 25))
  have C1 := Lib.hid (takes_no hr (k := 1) (s := []) (sees0 h1))
  have C2 := Lib.hid (takes_no hr (k := 2) (s := []) (sees0 h2))
  have C3 := Lib.hid (takes_yes hr (k := 5) (s := []) (sees0 h3))
  have b4 := Lib.hid (B4.new w (.int .i64 0) (.string ByteArray.empty) (.int .i64 0) (.slice none 0 0))
  have HR := Lib.hid hr
  have e : atomF (n + 1) l = some (tMeta (headText l), l.tail) := by rw [atomF, h1, if_neg (by simp), h2, if_neg (by simp), if_pos h3]
  have E := Lib.hid e
  obtain ⟨hlen, hat⟩ : (headText l).length ≤ 19 ∧ Lib.atoi (headText l).tail = some (numL (headText l).tail : Int) := by
    cases l with
    | nil => cases h3
    | cons t l => exact hok t (by simp) (by simpa [sk] using h3)
  have hpos : 1 ≤ (headText l).length := by
    rcases Nat.eq_zero_or_pos (headText l).length with h0 | h0
    · rw [List.eq_nil_of_length_eq_zero h0] at hat; cases hat
    · exact h0
  have hsz := size_bytes (headText l)
  have hx : (bytes (headText l)).extract 1 (bytes (headText l)).size = bytes (headText l).tail := by
    apply ByteArray.ext
    apply Array.toList_inj.1
    rw [extract_rest]
    simp [bytes]
  have AT := fun W => Tryd.strconv_Atoi (bytes (headText l).tail) (numL (headText l).tail : Int) (by rw [size_bytes]; simp; omega) (by simpa [bytes] using hat) W
  have HX := Lib.hid hx
  have HA := Lib.hid AT
  have hs1 : 1 ≤ (bytes (headText l)).size := by omega
  clear h hr h1 h2 h3 e hok hat hx hsz AT
  go_enter Tryd.func78, Tryd.ntmps78
  go_wp2_with fail
  refine C1.out.mono ?_
  rintro e w1 ⟨rfl, rfl⟩
  go_wp2_with fail
  refine C2.out.mono ?_
  rintro e w1 ⟨rfl, rfl⟩
  go_wp2_with fail
  refine C3.out.mono ?_
  rintro e w1 ⟨rfl, hrd, hg⟩
  have k4 := b4.out.grown hg (fun e => b4.out.ne_rd HR.out (by injection e with e; exact e.symm))
  have K4 := Lib.hid k4
  have RD := Lib.hid hrd
  have G := Lib.hid hg
  clear k4 hrd hg
  go_wp2_with fail
  rw [HX.out]
  refine (HA.out _).mono ?_
  rintro e w2 ⟨rfl, tt, rfl⟩
  have hbw := Lib.bytesWorld_below w1 5 tt
  generalize Lib.bytesWorld w1 5 tt = w2 at *
  have k5 := K4.out.low hbw
  have r5 := RD.out.low hbw
  have c0 := k5.c0
  have c1 := k5.c1
  have c2 := k5.c2
  have c3 := k5.c3
  have f0 := k5.fr 0
  have f1 := k5.fr 1
  have f2 := k5.fr 2
  have f3 := k5.fr 3
  have hne := k5.ne_rd r5
  have K5 := Lib.hid k5
  have R5 := Lib.hid r5
  have G5 := Lib.hid (grown_trans G.out (grown_below (r := some B) hbw))
  clear k5 r5 hbw
  go_wp2
  have q4 := K5.out.set4 (.int .i64 2) (.string ⟨#[]⟩) (.int .i64 (numL (headText l).tail : Int)) (.slice none 0 0)
  have g4 := grown_set4 (grown_trans (grown_below ((Below.refl w.heap.size w).alloc (Nat.le_refl _) _)) G5.out) (Nat.le_refl _) (.int .i64 2) (.string ⟨#[]⟩) (.int .i64 (numL (headText l).tail : Int)) (.slice none 0 0)
  have r4 := R5.out.set4 (Ne.symm hne) hN (.int .i64 2) (.string ⟨#[]⟩) (.int .i64 (numL (headText l).tail : Int)) (.slice none 0 0)
  refine bodyPost_ret (v := .tuple #[tv (tMeta (headText l)) none 0, .bool true]) (by simp [results, Tryd.results78, go_sem, q4.c0, q4.c1, q4.c2, q4.c3]; rfl) rfl ?_
  rw [E.out]
  exact ⟨g4, none, 0, rfl, .nil _ _, r4⟩

end Go.Proofs.YtifaaihekgnhiaaDoor.Tp

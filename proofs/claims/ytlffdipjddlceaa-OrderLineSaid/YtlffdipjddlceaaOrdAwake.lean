/- awake of savantlaw10: the chapter's examples hold. (Printed by gen_awake.py.) -/
import Derived.Test.YtlffdipjddlceaaOrdGood
namespace Go.Proofs.Ytlffdipjddlceaa.Od
open Go.RowKit

theorem valid_of {g : List (List Nat)} (h : ∀ q ∈ g, ∀ k ∈ q, k < g.length) : Valid g := by
  intro i k hk
  unfold us at hk
  rw [List.getD_eq_getElem?_getD] at hk
  rcases hx : g[i]? with _ | r
  · rw [hx] at hk; simp at hk
  · rw [hx] at hk; exact h r (List.mem_of_getElem? hx) k hk

def LitPost (w : World) (out : List (List Nat)) (n : Nat) (e : Ending) (w' : World) : Prop := ∃ a c, e = .returned (.tuple #[.slice a n c, .int .i64 0]) ∧ RowsAt w'.heap.size w' (.slice a n c) (rowsOf out) ∧ Below w.heap.size w w'
theorem post_lit {w : World} {g out : List (List Nat)} {n : Nat} (hv : Valid g) (hl : g.length ≤ 500) (ho : toldL g (groupsL g) = out) (hn : out.length = n) {e : Ending} {w' : World} (h : GroupsPost w (rowsOf g) e w') : LitPost w out n e w' := by
  have := post_good hv hl h
  unfold GoodPost at this
  rw [ho, hn] at this
  exact this
theorem quiet_same {w : World} {b : Bool} {e : Ending} {w' : World} (h : e = .returned (.bool b) ∧ ∃ n, w' = w.drewN n) : e = .returned (.bool b) ∧ Below w.heap.size w w' := by
  obtain ⟨h1, n, rfl⟩ := h
  exact ⟨h1, Below.drewN_ n⟩
theorem rows_later {n₀ : Nat} {w w' : World} {v : Value} {zss : List (List Int)} (h : RowsAt n₀ w v zss) (hn : n₀ ≤ w.heap.size) (hb : Below w.heap.size w w') : RowsAt w'.heap.size w' v zss := ((h.mono hn).below hb).mono hb.size

set_option maxHeartbeats 3200000 in
set_option maxRecDepth 100000 in
theorem awake_any (w : World) : Calls Try.prog 7 #[] w fun e w' => e = .returned (.bool true) ∧ Below w.heap.size w w' := by
  go_enter Try.func7, Try.ntmps7
  have bw := Lib.hid (Below.refl w.heap.size w)
  have C1 := Lib.hid ((groups_any _ (.slice (some ⟨w.heap.size + 1 + 1, 0, none⟩) 3 3) (rowsOf [[1], [], [0, 1]]) (((w.alloc (.cells #[.int .i64 1] 3)).alloc (.cells #[.int .i64 0, .int .i64 1] 3)).alloc (.cells #[.slice (some ⟨w.heap.size, 0, none⟩) 1 1, .slice none 0 0, .slice (some ⟨w.heap.size + 1, 0, none⟩) 2 2] 30)) (rows_lit (b := w.heap.size + 1 + 1) (vs := [.slice (some ⟨w.heap.size, 0, none⟩) 1 1, .slice none 0 0, .slice (some ⟨w.heap.size + 1, 0, none⟩) 2 2]) (ls := [[1], [], [0, 1]]) (t := 30) (alloc_new (by simp)) rfl (by decide) (LitRows.cons (ints_lit (l := [1]) (t := 3) (alloc_old (alloc_old (alloc_new (by simp)))) rfl (by decide)) (LitRows.cons (ints_nil _ _) (LitRows.cons (ints_lit (l := [0, 1]) (t := 3) (alloc_old (alloc_new (by simp))) rfl (by decide)) LitRows.nil)))) (Nat.le_refl _)).mono fun e w' h => post_lit (valid_of (by decide)) (by decide) ex1 rfl h)
  have N1 : Below w.heap.size w (((w.alloc (.cells #[.int .i64 1] 3)).alloc (.cells #[.int .i64 0, .int .i64 1] 3)).alloc (.cells #[.slice (some ⟨w.heap.size, 0, none⟩) 1 1, .slice none 0 0, .slice (some ⟨w.heap.size + 1, 0, none⟩) 2 2] 30)) := ((((Below.refl w.heap.size w).alloc (by simp <;> omega) _).alloc (by simp <;> omega) _).alloc (by simp <;> omega) _)
  have M1 := Lib.hid N1
  clear N1
  go_wp2_with fail
  refine C1.out.mono ?_
  rintro e w1 ⟨a1, c1, rfl, R1, B1⟩
  have D1 : Below w.heap.size w w1 := M1.out.trans (B1.mono M1.out.size)
  have bn := Lib.hid (bw.out.trans (D1.mono bw.out.size))
  clear bw C1 M1 B1
  have bw := bn
  clear bn
  have R1h := Lib.hid R1
  clear R1
  clear D1
  have C2 := Lib.hid ((groups_any _ (.slice (some ⟨w1.heap.size + 1 + 1 + 1, 0, none⟩) 4 4) (rowsOf [[1], [2], [0, 3], []]) ((((w1.alloc (.cells #[.int .i64 1] 3)).alloc (.cells #[.int .i64 2] 3)).alloc (.cells #[.int .i64 0, .int .i64 3] 3)).alloc (.cells #[.slice (some ⟨w1.heap.size, 0, none⟩) 1 1, .slice (some ⟨w1.heap.size + 1, 0, none⟩) 1 1, .slice (some ⟨w1.heap.size + 1 + 1, 0, none⟩) 2 2, .slice none 0 0] 30)) (rows_lit (b := w1.heap.size + 1 + 1 + 1) (vs := [.slice (some ⟨w1.heap.size, 0, none⟩) 1 1, .slice (some ⟨w1.heap.size + 1, 0, none⟩) 1 1, .slice (some ⟨w1.heap.size + 1 + 1, 0, none⟩) 2 2, .slice none 0 0]) (ls := [[1], [2], [0, 3], []]) (t := 30) (alloc_new (by simp)) rfl (by decide) (LitRows.cons (ints_lit (l := [1]) (t := 3) (alloc_old (alloc_old (alloc_old (alloc_new (by simp))))) rfl (by decide)) (LitRows.cons (ints_lit (l := [2]) (t := 3) (alloc_old (alloc_old (alloc_new (by simp)))) rfl (by decide)) (LitRows.cons (ints_lit (l := [0, 3]) (t := 3) (alloc_old (alloc_new (by simp))) rfl (by decide)) (LitRows.cons (ints_nil _ _) LitRows.nil))))) (Nat.le_refl _)).mono fun e w' h => post_lit (valid_of (by decide)) (by decide) ex2 rfl h)
  have N2 : Below w1.heap.size w1 ((((w1.alloc (.cells #[.int .i64 1] 3)).alloc (.cells #[.int .i64 2] 3)).alloc (.cells #[.int .i64 0, .int .i64 3] 3)).alloc (.cells #[.slice (some ⟨w1.heap.size, 0, none⟩) 1 1, .slice (some ⟨w1.heap.size + 1, 0, none⟩) 1 1, .slice (some ⟨w1.heap.size + 1 + 1, 0, none⟩) 2 2, .slice none 0 0] 30)) := (((((Below.refl w1.heap.size w1).alloc (by simp <;> omega) _).alloc (by simp <;> omega) _).alloc (by simp <;> omega) _).alloc (by simp <;> omega) _)
  have M2 := Lib.hid N2
  clear N2
  go_wp2_with fail
  refine C2.out.mono ?_
  rintro e w2 ⟨a2, c2, rfl, R2, B2⟩
  have D2 : Below w1.heap.size w1 w2 := M2.out.trans (B2.mono M2.out.size)
  have bn := Lib.hid (bw.out.trans (D2.mono bw.out.size))
  clear bw C2 M2 B2
  have bw := bn
  clear bn
  have R2h := Lib.hid R2
  clear R2
  have R1n := Lib.hid (rows_later R1h.out (Nat.le_refl _) D2)
  clear R1h
  have R1h := R1n
  clear R1n
  clear D2
  have C3 := Lib.hid ((groups_any _ (.slice (some ⟨w2.heap.size + 1, 0, none⟩) 2 2) (rowsOf [[0], []]) ((w2.alloc (.cells #[.int .i64 0] 3)).alloc (.cells #[.slice (some ⟨w2.heap.size, 0, none⟩) 1 1, .slice none 0 0] 30)) (rows_lit (b := w2.heap.size + 1) (vs := [.slice (some ⟨w2.heap.size, 0, none⟩) 1 1, .slice none 0 0]) (ls := [[0], []]) (t := 30) (alloc_new (by simp)) rfl (by decide) (LitRows.cons (ints_lit (l := [0]) (t := 3) (alloc_old (alloc_new (by simp))) rfl (by decide)) (LitRows.cons (ints_nil _ _) LitRows.nil))) (Nat.le_refl _)).mono fun e w' h => post_lit (valid_of (by decide)) (by decide) ex3 rfl h)
  have N3 : Below w2.heap.size w2 ((w2.alloc (.cells #[.int .i64 0] 3)).alloc (.cells #[.slice (some ⟨w2.heap.size, 0, none⟩) 1 1, .slice none 0 0] 30)) := (((Below.refl w2.heap.size w2).alloc (by simp <;> omega) _).alloc (by simp <;> omega) _)
  have M3 := Lib.hid N3
  clear N3
  go_wp2_with fail
  refine C3.out.mono ?_
  rintro e w3 ⟨a3, c3, rfl, R3, B3⟩
  have D3 : Below w2.heap.size w2 w3 := M3.out.trans (B3.mono M3.out.size)
  have bn := Lib.hid (bw.out.trans (D3.mono bw.out.size))
  clear bw C3 M3 B3
  have bw := bn
  clear bn
  have R3h := Lib.hid R3
  clear R3
  have R1n := Lib.hid (rows_later R1h.out (Nat.le_refl _) D3)
  clear R1h
  have R1h := R1n
  clear R1n
  have R2n := Lib.hid (rows_later R2h.out (Nat.le_refl _) D3)
  clear R2h
  have R2h := R2n
  clear R2n
  clear D3
  have C4 := Lib.hid ((groups_any _ (.slice (some ⟨w3.heap.size + 1, 0, none⟩) 1 1) (rowsOf [[5]]) ((w3.alloc (.cells #[.int .i64 5] 3)).alloc (.cells #[.slice (some ⟨w3.heap.size, 0, none⟩) 1 1] 30)) (rows_lit (b := w3.heap.size + 1) (vs := [.slice (some ⟨w3.heap.size, 0, none⟩) 1 1]) (ls := [[5]]) (t := 30) (alloc_new (by simp)) rfl (by decide) (LitRows.cons (ints_lit (l := [5]) (t := 3) (alloc_old (alloc_new (by simp))) rfl (by decide)) LitRows.nil)) (Nat.le_refl _)).mono fun e w' h => post_bad (.inr ⟨[5], by decide, 5, by decide, .inr (by decide)⟩) h)
  have M4 := Lib.hid (show Below w3.heap.size w3 ((w3.alloc (.cells #[.int .i64 5] 3)).alloc (.cells #[.slice (some ⟨w3.heap.size, 0, none⟩) 1 1] 30)) from (((Below.refl w3.heap.size w3).alloc (by simp <;> omega) _).alloc (by simp <;> omega) _))
  go_wp2_with fail
  refine C4.out.mono ?_
  rintro e w4 ⟨rfl, B4⟩
  have D4 : Below w3.heap.size w3 w4 := M4.out.trans (B4.mono M4.out.size)
  have bn := Lib.hid (bw.out.trans (D4.mono bw.out.size))
  clear bw C4 M4 B4
  have bw := bn
  clear bn
  have R1n := Lib.hid (rows_later R1h.out (Nat.le_refl _) D4)
  clear R1h
  have R1h := R1n
  clear R1n
  have R2n := Lib.hid (rows_later R2h.out (Nat.le_refl _) D4)
  clear R2h
  have R2h := R2n
  clear R2n
  have R3n := Lib.hid (rows_later R3h.out (Nat.le_refl _) D4)
  clear R3h
  have R3h := R3n
  clear R3n
  clear D4
  have M := Lib.hid (show Below w4.heap.size w4 ((((w4.alloc (.cells #[.int .i64 1] 3)).alloc (.cells #[.int .i64 0] 3)).alloc (.cells #[.int .i64 2] 3)).alloc (.cells #[.slice (some ⟨w4.heap.size, 0, none⟩) 1 1, .slice (some ⟨w4.heap.size + 1, 0, none⟩) 1 1, .slice (some ⟨w4.heap.size + 1 + 1, 0, none⟩) 1 1] 30)) from (((((Below.refl w4.heap.size w4).alloc (by simp <;> omega) _).alloc (by simp <;> omega) _).alloc (by simp <;> omega) _).alloc (by simp <;> omega) _))
  have C := Lib.hid ((same_any _ (.slice a1 3 c1) (.slice (some ⟨w4.heap.size + 1 + 1 + 1, 0, none⟩) 3 3) (rowsOf [[1], [0], [2]]) (rowsOf [[1], [0], [2]]) ((((w4.alloc (.cells #[.int .i64 1] 3)).alloc (.cells #[.int .i64 0] 3)).alloc (.cells #[.int .i64 2] 3)).alloc (.cells #[.slice (some ⟨w4.heap.size, 0, none⟩) 1 1, .slice (some ⟨w4.heap.size + 1, 0, none⟩) 1 1, .slice (some ⟨w4.heap.size + 1 + 1, 0, none⟩) 1 1] 30)) (rows_later R1h.out (Nat.le_refl _) M.out) (rows_lit (b := w4.heap.size + 1 + 1 + 1) (vs := [.slice (some ⟨w4.heap.size, 0, none⟩) 1 1, .slice (some ⟨w4.heap.size + 1, 0, none⟩) 1 1, .slice (some ⟨w4.heap.size + 1 + 1, 0, none⟩) 1 1]) (ls := [[1], [0], [2]]) (t := 30) (alloc_new (by simp)) rfl (by decide) (LitRows.cons (ints_lit (l := [1]) (t := 3) (alloc_old (alloc_old (alloc_old (alloc_new (by simp))))) rfl (by decide)) (LitRows.cons (ints_lit (l := [0]) (t := 3) (alloc_old (alloc_old (alloc_new (by simp)))) rfl (by decide)) (LitRows.cons (ints_lit (l := [2]) (t := 3) (alloc_old (alloc_new (by simp))) rfl (by decide)) LitRows.nil))))).mono fun e w' h => quiet_same h)
  go_wp2_with fail
  refine C.out.mono ?_
  rintro e w5 ⟨he, B⟩
  obtain rfl : e = .returned (.bool true) := by simpa using he
  clear he
  have D : Below w4.heap.size w4 w5 := M.out.trans (B.mono M.out.size)
  have bn := Lib.hid (bw.out.trans (D.mono bw.out.size))
  clear bw C M B
  have bw := bn
  clear bn
  have R2n := Lib.hid (rows_later R2h.out (Nat.le_refl _) D)
  clear R2h
  have R2h := R2n
  clear R2n
  have R3n := Lib.hid (rows_later R3h.out (Nat.le_refl _) D)
  clear R3h
  have R3h := R3n
  clear R3n
  clear D
  have M := Lib.hid (show Below w5.heap.size w5 (((w5.alloc (.cells #[.int .i64 3] 3)).alloc (.cells #[.int .i64 0, .int .i64 1, .int .i64 2] 3)).alloc (.cells #[.slice (some ⟨w5.heap.size, 0, none⟩) 1 1, .slice (some ⟨w5.heap.size + 1, 0, none⟩) 3 3] 30)) from ((((Below.refl w5.heap.size w5).alloc (by simp <;> omega) _).alloc (by simp <;> omega) _).alloc (by simp <;> omega) _))
  have C := Lib.hid ((same_any _ (.slice a2 2 c2) (.slice (some ⟨w5.heap.size + 1 + 1, 0, none⟩) 2 2) (rowsOf [[3], [0, 1, 2]]) (rowsOf [[3], [0, 1, 2]]) (((w5.alloc (.cells #[.int .i64 3] 3)).alloc (.cells #[.int .i64 0, .int .i64 1, .int .i64 2] 3)).alloc (.cells #[.slice (some ⟨w5.heap.size, 0, none⟩) 1 1, .slice (some ⟨w5.heap.size + 1, 0, none⟩) 3 3] 30)) (rows_later R2h.out (Nat.le_refl _) M.out) (rows_lit (b := w5.heap.size + 1 + 1) (vs := [.slice (some ⟨w5.heap.size, 0, none⟩) 1 1, .slice (some ⟨w5.heap.size + 1, 0, none⟩) 3 3]) (ls := [[3], [0, 1, 2]]) (t := 30) (alloc_new (by simp)) rfl (by decide) (LitRows.cons (ints_lit (l := [3]) (t := 3) (alloc_old (alloc_old (alloc_new (by simp)))) rfl (by decide)) (LitRows.cons (ints_lit (l := [0, 1, 2]) (t := 3) (alloc_old (alloc_new (by simp))) rfl (by decide)) LitRows.nil)))).mono fun e w' h => quiet_same h)
  go_wp2_with fail
  refine C.out.mono ?_
  rintro e w6 ⟨he, B⟩
  obtain rfl : e = .returned (.bool true) := by simpa using he
  clear he
  have D : Below w5.heap.size w5 w6 := M.out.trans (B.mono M.out.size)
  have bn := Lib.hid (bw.out.trans (D.mono bw.out.size))
  clear bw C M B
  have bw := bn
  clear bn
  have R3n := Lib.hid (rows_later R3h.out (Nat.le_refl _) D)
  clear R3h
  have R3h := R3n
  clear R3n
  clear D
  have M := Lib.hid (show Below w6.heap.size w6 (((w6.alloc (.cells #[.int .i64 0] 3)).alloc (.cells #[.int .i64 1] 3)).alloc (.cells #[.slice (some ⟨w6.heap.size, 0, none⟩) 1 1, .slice (some ⟨w6.heap.size + 1, 0, none⟩) 1 1] 30)) from ((((Below.refl w6.heap.size w6).alloc (by simp <;> omega) _).alloc (by simp <;> omega) _).alloc (by simp <;> omega) _))
  have C := Lib.hid ((same_any _ (.slice a3 2 c3) (.slice (some ⟨w6.heap.size + 1 + 1, 0, none⟩) 2 2) (rowsOf [[0], [1]]) (rowsOf [[0], [1]]) (((w6.alloc (.cells #[.int .i64 0] 3)).alloc (.cells #[.int .i64 1] 3)).alloc (.cells #[.slice (some ⟨w6.heap.size, 0, none⟩) 1 1, .slice (some ⟨w6.heap.size + 1, 0, none⟩) 1 1] 30)) (rows_later R3h.out (Nat.le_refl _) M.out) (rows_lit (b := w6.heap.size + 1 + 1) (vs := [.slice (some ⟨w6.heap.size, 0, none⟩) 1 1, .slice (some ⟨w6.heap.size + 1, 0, none⟩) 1 1]) (ls := [[0], [1]]) (t := 30) (alloc_new (by simp)) rfl (by decide) (LitRows.cons (ints_lit (l := [0]) (t := 3) (alloc_old (alloc_old (alloc_new (by simp)))) rfl (by decide)) (LitRows.cons (ints_lit (l := [1]) (t := 3) (alloc_old (alloc_new (by simp))) rfl (by decide)) LitRows.nil)))).mono fun e w' h => quiet_same h)
  go_wp2_with fail
  refine C.out.mono ?_
  rintro e w7 ⟨he, B⟩
  obtain rfl : e = .returned (.bool true) := by simpa using he
  clear he
  have D : Below w6.heap.size w6 w7 := M.out.trans (B.mono M.out.size)
  have bn := Lib.hid (bw.out.trans (D.mono bw.out.size))
  clear bw C M B
  have bw := bn
  clear bn
  clear D
  go_wp2
  go_ret
  exact ⟨rfl, bw.out⟩

end Go.Proofs.Ytlffdipjddlceaa.Od

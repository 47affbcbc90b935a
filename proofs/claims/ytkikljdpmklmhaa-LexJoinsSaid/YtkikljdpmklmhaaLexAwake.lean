/- The contract of the statements' own awake: the chapter's examples hold. -/
import Derived.Test.YtkikljdpmklmhaaLexSame
namespace Go.Proofs.Ytkikljdpmklmhaa
open Go.RowKit
open Lx

/-- what Scan leaves, for a reader -/
def ScanRes (ts : List Tok) (p er : Nat) (w : World) (e : Ending) (w' : World) : Prop :=
  ∃ a cap, e = .returned (.tuple #[.slice a ts.length cap, .int .i64 p, .int .i64 er]) ∧ Below w.heap.size w w' ∧ ToksAt w' (.slice a ts.length cap) ts

theorem scan_res (s : ByteArray) (w : World) (hs : s.size ≤ maxLen) {ts : List Tok} {p er : Nat} (h : scanR s.data.toList = (ts, p, er)) :
    Calls Try.prog 11 #[.string s] w (ScanRes ts p er w) := by
  refine (scan_any s w hs).mono fun e w' hp => ?_
  obtain ⟨v, he, hb, ho⟩ := hp
  rw [h] at he ho
  have ht := toksAt_of_owns ho
  obtain ⟨a, cap, rfl, h2, h3⟩ := ht
  exact ⟨a, cap, he, hb, ⟨a, cap, rfl, h2, h3⟩⟩

theorem toksAt_block {w : World} {g cap : Nat} {cs : Array Value} {t : TypeId} {f : Nat × Nat} (ts : List Tok) (hg : w.heap[g]? = some (.cells cs t f)) (hc : cs = (toksCells ts).toArray) (hcap : ts.length ≤ cap) : ToksAt w (.slice (some ⟨g, 0, none⟩) ts.length cap) ts := by
  subst hc
  refine ⟨_, cap, rfl, hcap, .inr ⟨g, 0, rfl, fun i hi => ?_⟩⟩
  obtain ⟨a1, a2, a3⟩ := toksCells_at ts i hi
  rw [cell_of_row w g _ _ t f hg, cell_of_row w g _ _ t f hg, cell_of_row w g _ _ t f hg]
  simpa using ⟨a1, a2, a3⟩

def aw1 : List Tok := [⟨1, [102], 0⟩, ⟨6, [61], 2⟩, ⟨6, [92], 4⟩, ⟨1, [120], 5⟩, ⟨6, [45, 62], 6⟩, ⟨1, [120], 8⟩]
def aw2 : List Tok := [⟨3, [102, 111, 114, 97, 108, 108], 0⟩, ⟨1, [97, 95, 49], 7⟩, ⟨6, [46], 10⟩, ⟨5, [63, 49, 50], 11⟩]

set_option maxRecDepth 100000 in
set_option maxHeartbeats 1600000 in
theorem awake_any (w : World) : Calls Try.prog 10 #[] w fun e w' => e = .returned (.bool true) ∧ Below w.heap.size w w' := by
  have s1 : scanR [102, 32, 61, 32, 92, 120, 45, 62, 120] = (aw1, 0, 0) := by decide +kernel
  have s2 : scanR [102, 111, 114, 97, 108, 108, 32, 97, 95, 49, 46, 63, 49, 50] = (aw2, 0, 0) := by decide +kernel
  have s3 : scanR [97, 98, 32, 35, 32, 99] = ([⟨1, [97, 98], 0⟩], 0, 0) := by decide +kernel
  have s4 : scanR [97, 32, 45, 32, 98] = ([], 2, 10) := by decide +kernel
  have s5 : scanR [97, 98, 99, 100, 101, 102, 103, 104, 105, 106, 107, 108, 109, 110, 111, 112, 113] = ([], 0, 10) := by decide +kernel
  have S1 := Lib.hid s1
  have S2 := Lib.hid s2
  have S3 := Lib.hid s3
  have S4 := Lib.hid s4
  have S5 := Lib.hid s5
  clear s1 s2 s3 s4 s5
  go_enter Try.func10, Try.ntmps10
  go_wp2_with fail
  refine (scan_res _ _ (by decide) S1.out).mono ?_
  rintro e w1 ⟨a1, cap1, rfl, hb1, ht1⟩
  have B1 := Lib.hid hb1
  have T1 := Lib.hid ht1
  clear hb1 ht1
  go_wp2_with fail
  refine (scan_res _ _ (by decide) S2.out).mono ?_
  rintro e w2 ⟨a2, cap2, rfl, hb2, ht2⟩
  have B2 := Lib.hid hb2
  have T2 := Lib.hid ht2
  clear hb2 ht2
  go_wp2_with fail
  refine (scan_res _ _ (by decide) S3.out).mono ?_
  rintro e w3 ⟨a3, cap3, rfl, hb3, ht3⟩
  have B3 := Lib.hid hb3
  clear hb3 ht3
  go_wp2_with fail
  refine (scan_res _ _ (by decide) S4.out).mono ?_
  rintro e w4 ⟨a4, cap4, rfl, hb4, ht4⟩
  have B4 := Lib.hid hb4
  clear hb4 ht4
  go_wp2_with fail
  refine (scan_res _ _ (by decide) S5.out).mono ?_
  rintro e w5 ⟨a5, cap5, rfl, hb5, ht5⟩
  have B5 := Lib.hid hb5
  clear hb5 ht5
  go_wp2_with fail
  have t1 := toksAt_below (toksAt_below (toksAt_below (toksAt_below T1.out B2.out (Nat.le_refl _)) B3.out (Nat.le_refl _)) B4.out (Nat.le_refl _)) B5.out (Nat.le_refl _)
  refine (same_any _ _ aw1 aw1 _ (toksAt_below t1 ((Below.refl _ _).alloc (Nat.le_refl _) _) (Nat.le_refl _)) (toksAt_block aw1 (heap_alloc_new _ _) rfl (Nat.le_refl _)) (by decide) (by decide)).mono ?_
  rintro e w6 ⟨rfl, n1, rfl⟩
  rw [show decide (aw1 = aw1) = true from rfl]
  clear t1
  go_wp2_with fail
  have t2 := toksAt_below (toksAt_below (toksAt_below T2.out B3.out (Nat.le_refl _)) B4.out (Nat.le_refl _)) B5.out (Nat.le_refl _)
  have t3 : ToksAt ((w5.alloc (Obj.cells (toksCells aw1).toArray 30)).drewN n1) (.slice a2 aw2.length cap2) aw2 := toksAt_below t2 (below_drewN ((Below.refl _ _).alloc (Nat.le_refl _) _) n1) (Nat.le_refl _)
  refine (same_any _ _ aw2 aw2 _ (toksAt_below t3 ((Below.refl _ _).alloc (Nat.le_refl _) _) (Nat.le_refl _)) (toksAt_block aw2 (t := 30) (f := (0, 0)) (by have h9 := heap_alloc_new (World.drewN (w5.alloc (Obj.cells (toksCells aw1).toArray 30)) n1) (.cells (toksCells aw2).toArray 30); rw [show (World.drewN (w5.alloc (Obj.cells (toksCells aw1).toArray 30)) n1).heap.size = w5.heap.size + 1 from by simp] at h9; exact h9) rfl (Nat.le_refl _)) (by decide) (by decide)).mono ?_
  rintro e w6 ⟨rfl, n2, rfl⟩
  rw [show decide (aw2 = aw2) = true from rfl]
  clear t2 t3
  go_wp2
  go_ret
  refine ⟨rfl, ?_⟩
  have C2 := B1.out.trans (B2.out.mono B1.out.size)
  have C3 := C2.trans (B3.out.mono C2.size)
  have C4 := C3.trans (B4.out.mono C3.size)
  have C5 := C4.trans (B5.out.mono C4.size)
  exact below_drewN ((below_drewN (C5.alloc C5.size _) n1).alloc (by have := C5.size; simp; omega) _) n2

end Go.Proofs.Ytkikljdpmklmhaa

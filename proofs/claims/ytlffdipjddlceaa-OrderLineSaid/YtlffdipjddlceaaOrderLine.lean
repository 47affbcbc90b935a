/-
  The law OrderLine: for every int it returns true. No conditions.
-/
import Derived.Test.YtlffdipjddlceaaOrdPlace
import Derived.ProofKit
import Derived.OpenShut
import Derived.ShutString
import Derived.ChangeOld
import Derived.Below
namespace Go.Proofs.Ytlffdipjddlceaa.orderLine
open Go.ChangeShapes Go.WideShapes Go.ChangeAt Go.RowKit Go.Deep
open Od

/-- rows of two slices do not lie in one another -/
def Cross (xs ys : List Value) : Prop := ∀ u ∈ xs, ∀ v ∈ ys, ∀ b, u.ownBlock = some b → v.ownBlock ≠ some b

/-- the two slices while they are filled -/
structure LR (w0 : World) (n : Nat) (A B : List (List Nat)) (va vb : List Value) (wr : World) : Prop where
  a : RowsW w0.heap.size wr w0.heap.size n A va
  b : RowsW w0.heap.size wr (w0.heap.size + 1) n B vb
  x : Cross va vb
  bel : Below w0.heap.size w0 wr

theorem mem_set {l : List Value} {i : Nat} {v x : Value} (h : x ∈ l.set i v) : x ∈ l ∨ x = v := List.mem_or_eq_of_mem_set h

theorem LR.below {w0 : World} {n : Nat} {A B : List (List Nat)} {va vb : List Value} {wr w1 : World} (h : LR w0 n A B va vb wr) (hb : Below wr.heap.size wr w1) : LR w0 n A B va vb w1 :=
  ⟨h.a.keep fun b hl => hb.block b hl, h.b.keep fun b hl => hb.block b hl, h.x, h.bel.trans (hb.mono h.bel.size)⟩

theorem lt_of_mem {base : Nat} {w : World} {B n : Nat} {Ls : List (List Nat)} {vs : List Value} (h : RowsW base w B n Ls vs) {v : Value} (hv : v ∈ vs) {b : Nat} (hb : v.ownBlock = some b) : base ≤ b ∧ b < w.heap.size := by
  obtain ⟨j, hj⟩ := List.mem_iff_getElem?.1 hv
  obtain ⟨q, _, hq⟩ := h.ownAt hj
  exact hq.lt b hb

theorem ne_of_mem {base : Nat} {w : World} {B n : Nat} {Ls : List (List Nat)} {vs : List Value} (h : RowsW base w B n Ls vs) {v : Value} (hv : v ∈ vs) {c : Nat} {cs : Array Value} {f : Nat × Nat} (hc : w.heap[c]? = some (.cells cs 30 f)) : v.ownBlock ≠ some c := by
  obtain ⟨j, hj⟩ := List.mem_iff_getElem?.1 hv
  obtain ⟨q, _, hq⟩ := h.ownAt hj
  exact own_ne hq hc (by decide)

/-- a row of the first turned -/
theorem LR.putA {w0 : World} {n : Nat} {A B : List (List Nat)} {va vb : List Value} {wr w1 : World} (h : LR w0 n A B va vb wr) {x : Nat} {u v' : Value} {q' : List Nat} (hu : va[x]? = some u) (hg : wr.grownBy w1 u.ownBlock) (ho : w1.ownsRow w0.heap.size 3 1 v' q'.length (cellsOf q'))
    (hat : ∀ b, v'.ownBlock = some b → u.ownBlock = some b ∨ wr.heap.size ≤ b) : LR w0 n (A.set x q') B (va.set x v') vb (w1.setCell ⟨w0.heap.size, x, none⟩ v') := by
  have hum := List.mem_of_getElem? hu
  have hb1 : RowsW w0.heap.size w1 (w0.heap.size + 1) n B vb := h.b.other hg (ne_of_mem h.a hum h.b.blk) (fun v hv b hb e => h.x u hum v hv b e hb)
  refine ⟨h.a.put hu hg ho hat, hb1.setOther (by simp) (fun v hv => ?_) _, ?_, ?_⟩
  · have := ne_of_mem h.b hv h.a.blk
    exact this
  · intro y hy v hv b hb hvb
    rcases mem_set hy with hy | rfl
    · exact h.x y hy v hv b hb hvb
    · rcases hat b hb with e | e
      · exact h.x u hum v hv b e hvb
      · have := (lt_of_mem h.b hv hvb).2; omega
  · exact (h.bel.grown hg h.bel.size (fun k hk => (lt_of_mem h.a hum hk).1)).setCell (Nat.le_refl _) _

/-- a row of the second turned -/
theorem LR.putB {w0 : World} {n : Nat} {A B : List (List Nat)} {va vb : List Value} {wr w1 : World} (h : LR w0 n A B va vb wr) {x : Nat} {u v' : Value} {q' : List Nat} (hu : vb[x]? = some u) (hg : wr.grownBy w1 u.ownBlock) (ho : w1.ownsRow w0.heap.size 3 1 v' q'.length (cellsOf q'))
    (hat : ∀ b, v'.ownBlock = some b → u.ownBlock = some b ∨ wr.heap.size ≤ b) : LR w0 n A (B.set x q') va (vb.set x v') (w1.setCell ⟨w0.heap.size + 1, x, none⟩ v') := by
  have hum := List.mem_of_getElem? hu
  have ha1 : RowsW w0.heap.size w1 w0.heap.size n A va := h.a.other hg (ne_of_mem h.b hum h.a.blk) (fun v hv b hb e => h.x v hv u hum b hb e)
  refine ⟨ha1.setOther (by simp) (fun v hv => ne_of_mem h.a hv h.b.blk) _, h.b.put hu hg ho hat, ?_, ?_⟩
  · intro y hy v hv b hb hvb
    rcases mem_set hv with hv | rfl
    · exact h.x y hy v hv b hb hvb
    · rcases hat b hvb with e | e
      · exact h.x y hy u hum b hb e
      · have := (lt_of_mem h.a hy hb).2; omega
  · exact (h.bel.grown hg h.bel.size (fun k hk => (lt_of_mem h.b hum hk).1)).setCell (by simp) _

theorem LR.start (w0 : World) (n : Nat) : LR w0 n (lineP n 0 0) (ringP n 0) (List.replicate n (Value.slice none 0 0)) (List.replicate n (Value.slice none 0 0))
    ((w0.alloc (.cells (List.replicate n (Value.slice none 0 0)).toArray 30)).alloc (.cells (List.replicate n (Value.slice none 0 0)).toArray 30)) := by
  rw [lineP_start, ringP_start]
  refine ⟨RowsW.start (alloc_old (alloc_new rfl)) (Nat.le_refl _), RowsW.start (alloc_new (by simp)) (by omega), fun u hu v _ b hb => ?_, ((Below.refl _ _).alloc (Nat.le_refl _) _).alloc (by simp) _⟩
  rw [List.eq_of_mem_replicate hu] at hb
  simp [Value.ownBlock] at hb

theorem own_one' (w : World) (base : Nat) (hb : base ≤ w.heap.size) (x : Nat) : (w.alloc (.cells #[.int .i64 (x : Int)] 3)).ownsRow base 3 1 (.slice (some ⟨w.heap.size, 0, none⟩) 1 1) [x].length (cellsOf [x]) :=
  ⟨by simp [cellsOf, intsOf], .inr ⟨w.heap.size, 1, #[.int .i64 x], rfl, hb, heap_alloc_new _ _, Nat.le_refl _, by unfold maxLen; omega, rfl, by simp [cellsOf, intsOf]⟩⟩

set_option maxHeartbeats 3200000 in
set_option maxRecDepth 100000 in
theorem walk (a0 : Int) (_w0 : (Lit.int .i64 a0).wf = true) (W : World) :
    Calls Try.prog 5 #[.int .i64 a0] W fun e w' => e = .returned (.bool true) ∧ Below W.heap.size W w' := by
  by_cases h1 : a0 < 1
  · go_enter Try.func5, Try.ntmps5
    go_wp2_with fail
    refine (awake_any _).mono ?_
    rintro e w1 ⟨rfl, B1⟩
    go_wp2
    go_ret
    exact ⟨rfl, B1⟩
  · by_cases h2 : 200 < a0
    · go_enter Try.func5, Try.ntmps5
      go_wp2_with fail
      refine (awake_any _).mono ?_
      rintro e w1 ⟨rfl, B1⟩
      go_wp2
      go_ret
      exact ⟨rfl, B1⟩
    · obtain ⟨n, rfl⟩ : ∃ n : Nat, a0 = n := ⟨a0.toNat, by omega⟩
      have hn : 0 < n := by omega
      have hn2 : n ≤ 200 := by omega
      have hmk := run_make_row' (P := Try.prog) 22 30 (.slice none 0 0) 24 Try.underlying22 infoSl rfl .i64 .i64 n (by omega) (by omega)
      rw [made_nils] at hmk
      obtain ⟨i0, hi0, hz0, hz1, hz2⟩ := info_parts infoInt
      go_enter Try.func5, Try.ntmps5
      go_wp2_with fail
      refine (awake_any _).mono ?_
      rintro e w1 ⟨rfl, B1⟩
      have BB1 := Lib.hid B1
      clear B1
      go_wp2
      clear hmk
      go_loopw [6] (fun iv wr => ∃ (i : Nat) (va vb : List Value), iv = .int .i64 i ∧ i ≤ n ∧ LR w1 n (lineP n i 0) (ringP n i) va vb wr) (fun iv _ => n - (intOf iv).toNat)
      case atStart => exact ⟨0, _, _, rfl, Nat.zero_le _, LR.start w1 n⟩
      case round =>
        obtain ⟨i, va, vb, rfl, hil, hL⟩ := hrel
        have z0 : (0 : Int) ≤ (i : Int) := by omega
        by_cases hi : i < n
        · have z1 : (i : Int) < (n : Int) := by omega
          have LH := Lib.hid hL
          clear hL
          go_wp2
          go_loopw [7] (fun kv wr => ∃ (k : Nat) (va vb : List Value), kv = .int .i64 k ∧ k ≤ i ∧ LR w1 n (lineP n i k) (ringP n i) va vb wr) (fun kv _ => i - (intOf kv).toNat)
          case atStart => exact ⟨0, va, vb, rfl, Nat.zero_le _, LH.out⟩
          case round =>
            clear LH
            obtain ⟨k, va, vb, rfl, hkl, hL⟩ := hrel
            have y0 : (0 : Int) ≤ (k : Int) := by omega
            have hsz := hL.bel.size
            by_cases hk : k < i
            · have hxv : i < va.length := by rw [hL.a.vl]; exact hi
              have hvx : va[i]? = some va[i] := List.getElem?_eq_getElem hxv
              have hox := hL.a.own i _ _ (lineP_at n i k hi) hvx
              have cx : wr.cell? ⟨w1.heap.size, i, none⟩ = some va[i] := by rw [cell_of_row _ _ i _ _ _ hL.a.blk, List.getElem?_toArray]; exact hvx
              have hne := own_ne hox hL.a.blk (by decide)
              have lB := lt_of_get hL.a.blk
              have fx := free_row hL.a.blk i
              generalize va[i] = u at *
              have hrl : (List.range k).length = k := by simp
              rw [hrl] at hox
              have VX := Lib.hid hvx
              have OX := Lib.hid hox
              have NE := Lib.hid hne
              have LH := Lib.hid hL
              clear hvx hox hL hne hxv hrl
              go_wp2_with (at_builtin; refine wpList_append_lies _ rfl _ _ _ rfl w1.heap.size 3 i0 _ 1 8 Try.underlying30 hi0 hz0 hz1 hz2 rfl (by omega) u k (cellsOf (List.range k)) rfl (OX.out.alloc _) ⟨wr.heap.size, 0, none⟩ 1 1 [.int .i64 (k : Int)] rfl rfl (World.news_of_block (cs := #[.int .i64 (k : Int)]) (t := 3) (fr := (0, 0)) (heap_alloc_new _ _)) (by simp [Value.oneCell']) (by omega) (by unfold maxLen; omega) (by omega) (by simp; omega) (wr.heap.size + 1) (by simp) ?_; intro gg cap3 w7 hown7 hgrow7 hat7 hlt7; have hB7 := (hgrow7.block w1.heap.size (by simp; omega) (Ne.symm NE.out)).trans ((Below.heap_alloc _ _ _ lB).trans LH.out.a.blk); have c7 : w7.cell? ⟨w1.heap.size, i, none⟩ = some u := (by rw [cell_of_row _ _ i _ _ _ hB7, List.getElem?_toArray]; exact VX.out); have f7 := free_row hB7 i; clear hB7)
              have L7 := (LH.out.below ((Below.refl _ _).alloc (Nat.le_refl _) (.cells #[.int .i64 (k : Int)] 3))).putA (q' := List.range k ++ [k]) (v' := .slice (some ⟨gg, 0, none⟩) (k + 1) cap3) VX.out hgrow7 (by rw [cellsOf_append, List.length_append, List.length_range]; exact hown7) (fun b hb => by
                simp only [Value.ownBlock, Option.some.injEq] at hb
                subst hb
                rcases hat7 with e | e
                · exact .inl e
                · right; subst e; simp)
              rw [lineP_set] at L7
              have L7H := Lib.hid L7
              clear hown7 hgrow7 hat7 hlt7 c7 f7 L7
              go_wp2
              go_roundw
              case rel => exact ⟨k + 1, _, _, by go_num, by omega, L7H.out⟩
              case measure => simp [intOf]; omega
            · obtain rfl : k = i := by omega
              rw [lineP_next] at hL
              have hxv : k < vb.length := by rw [hL.b.vl]; exact hi
              have hvx : vb[k]? = some vb[k] := List.getElem?_eq_getElem hxv
              have cx : wr.cell? ⟨w1.heap.size + 1, k, none⟩ = some vb[k] := by rw [cell_of_row _ _ k _ _ _ hL.b.blk, List.getElem?_toArray]; exact hvx
              have fx := free_row hL.b.blk k
              have lB := lt_of_get hL.b.blk
              have L2 := hL.putB (w1 := wr.alloc (.cells #[.int .i64 (((k + 1) % n : Nat) : Int)] 3)) (q' := [(k + 1) % n]) (v' := .slice (some ⟨wr.heap.size, 0, none⟩) 1 1) hvx (World.grownBy_alloc _ _ _) (own_one' _ _ hsz _) (fun b hb => by
                simp only [Value.ownBlock, Option.some.injEq] at hb
                subst hb
                exact .inr (Nat.le_refl _))
              have eW : (wr.alloc (.cells #[.int .i64 (((k + 1) % n : Nat) : Int)] 3)).setCell ⟨w1.heap.size + 1, k, none⟩ (.slice (some ⟨wr.heap.size, 0, none⟩) 1 1) = (wr.setCell ⟨w1.heap.size + 1, k, none⟩ (.slice (some ⟨wr.heap.size, 0, none⟩) 1 1)).alloc (.cells #[.int .i64 (((k + 1) % n : Nat) : Int)] 3) := World.setCell_alloc_past _ _ _ _ lB
              rw [eW] at L2
              rw [ringP_set] at L2
              have em : (((k + 1) % n : Nat) : Int) = ((k : Int) + 1) % (n : Int) := by simp
              rw [em] at L2
              have L2H := Lib.hid L2
              generalize vb[k] = u at *
              clear hvx hL hxv L2 em eW
              go_wp2
              go_roundw
              case rel => exact ⟨k + 1, _, _, by go_num, by omega, L2H.out⟩
              case measure => simp [intOf]; omega
        · obtain rfl : i = n := by omega
          rw [lineP_all, ringP_all] at hL
          have hra := hL.a.rows (by omega) (fun q hq => by
            obtain ⟨j, hj, rfl⟩ := List.mem_map.1 hq
            have := List.mem_range.1 hj
            simp; omega)
          have RA := Lib.hid hra
          have LH := Lib.hid hL
          clear hra hL
          go_wp2_with fail
          refine ((groups_any _ _ (rowsOf (lineG i)) wr RA.out (Nat.le_refl _)).mono fun e w' h => post_good (line_valid i) (by rw [line_len]; omega) h).mono ?_
          rintro e w3 ⟨a3, c3, rfl, G3, B3⟩
          have hS3 := line_told (told_sccs (groups_ok (lineG i) (line_valid i)) (line_valid i))
          generalize toldL (lineG i) (groupsL (lineG i)) = ts at *
          obtain ⟨htl, hti⟩ := hS3
          have L3 := LH.out.below B3
          have hrb := L3.b.rows (by omega) (fun q hq => by
            obtain ⟨j, hj, rfl⟩ := List.mem_map.1 hq
            simp)
          have RB := Lib.hid hrb
          have LH3 := Lib.hid L3
          have TI := Lib.hid hti
          rw [htl] at G3 ⊢
          have GG3 := Lib.hid G3
          have TL := Lib.hid htl
          clear B3 G3 hti L3 hrb htl
          go_wp2_with fail
          refine ((groups_any _ _ (rowsOf (ringG i)) w3 RB.out (Nat.le_refl _)).mono fun e w' h => post_good (ring_valid i) (by rw [ring_len]; omega) h).mono ?_
          rintro e w4 ⟨a4, c4, rfl, G4, B4⟩
          have hS4 := ring_told hn (told_sccs (groups_ok (ringG i) (ring_valid i)) (ring_valid i))
          rw [hS4] at G4 ⊢
          have GG4 := Lib.hid G4
          have GG3' := Lib.hid (rows_later GG3.out (Nat.le_refl _) B4)
          have LH4 := Lib.hid (LH3.out.below B4)
          clear G4 B4 hS4
          obtain ⟨b0, o0, cp0, ar, cr, eg, _, hc0, hr0⟩ := rows_row GG4.out (i := 0) (by simp)
          injection eg with eg1 eg2 eg3
          subst eg1 eg3
          have hu0 : us [List.range i] 0 = List.range i := rfl
          rw [hu0] at hc0 hr0
          rw [List.length_range] at hc0
          rw [Nat.add_zero] at hc0
          have HR0 := Lib.hid hr0
          have t1 : ((i : Int) != (i : Int)) = false := by simp
          clear hr0 hu0
          go_wp2
          go_loop [12] (fun jv => ∃ j : Nat, jv = .int .i64 j ∧ j ≤ i) (fun jv => i - (intOf jv).toNat)
          case atStart => exact ⟨0, rfl, Nat.zero_le _⟩
          case round =>
            obtain ⟨j, rfl, hji⟩ := hrel
            have y0 : (0 : Int) ≤ (j : Int) := by omega
            by_cases hj : j < i
            · have y1 : (j : Int) < (i : Int) := by omega
              have htu : us ts j = [j] := by
                have := TI.out j hj
                rw [us_of (by rw [TL.out]; exact hj)] at this
                injection this
              have GX := GG3'.out
              obtain ⟨b5, o5, cp5, ar5, cr5, eg, _, hc5, hr5⟩ := rows_row GX (i := j) (by rw [TL.out]; exact hj)
              injection eg with eg1 eg2 eg3
              subst eg1 eg3
              rw [htu] at hc5 hr5
              obtain ⟨b6, o6, rfl, _, hc6⟩ := ints_get hr5 (j := 0) (by simp)
              obtain ⟨b7, o7, rfl, _, hc7⟩ := ints_get HR0.out (j := j) (by simpa using hj)
              simp only [List.getElem_cons_zero, List.getElem_range] at hc6 hc7
              rw [Nat.add_zero] at hc6
              have hc5' : w4.cell? ⟨b5, o5 + j, none⟩ = some (.slice (some ⟨b6, o6, none⟩) 1 cr5) := hc5
              have t2 : ((j : Int) != (j : Int)) = false := by simp
              clear hr5 htu GX hc5 eg2
              go_wp2
              go_round
              case rel => exact ⟨j + 1, by go_num, by omega⟩
              case measure => simp [intOf]; omega
            · obtain rfl : j = i := by omega
              have hL := LH4.out
              have hxl : j - 1 < vb.length := by rw [hL.b.vl]; omega
              have hvx : vb[j - 1]? = some vb[j - 1] := List.getElem?_eq_getElem hxl
              have cx : w4.cell? ⟨w1.heap.size + 1, j - 1, none⟩ = some vb[j - 1] := by rw [cell_of_row _ _ _ _ _ _ hL.b.blk, List.getElem?_toArray]; exact hvx
              have fx := free_row hL.b.blk (j - 1)
              have L5 := hL.putB (w1 := w4) (x := j - 1) (q' := []) (v' := .slice none 0 0) hvx ⟨rfl, rfl, rfl, Nat.le_refl _, fun _ _ _ => rfl⟩ (World.ownsRow_nil _ _ _ _) (fun b hb => by simp [Value.ownBlock] at hb)
              rw [ring_chain j hn] at L5
              have hrc := L5.b.rows (by omega) (fun q hq => by
                obtain ⟨m, hm, rfl⟩ := List.mem_map.1 hq
                split <;> simp)
              have RC := Lib.hid hrc
              have B5 := Lib.hid L5.bel
              generalize vb[j - 1] = u at *
              clear hvx hxl hL L5 hrc
              go_wp2_with fail
              refine ((groups_any _ _ (rowsOf (chainG j)) _ RC.out (Nat.le_refl _)).mono fun e w' h => post_good (chain_valid j) (by rw [chain_len]; omega) h).mono ?_
              rintro e w6 ⟨a6, c6, rfl, G6, B6⟩
              have hS6 := chain_told (told_sccs (groups_ok (chainG j) (chain_valid j)) (chain_valid j))
              generalize toldL (chainG j) (groupsL (chainG j)) = cs at *
              obtain ⟨hcl, hci⟩ := hS6
              rw [hcl] at G6 ⊢
              have GG6 := Lib.hid G6
              have CI := Lib.hid hci
              have CL := Lib.hid hcl
              have BB6 := Lib.hid ((BB1.out.trans (B5.out.mono BB1.out.size)).trans (B6.mono (Nat.le_trans BB1.out.size B5.out.size)))
              clear G6 hci B6 hcl cx fx
              go_wp2
              go_loop [15] (fun mv => ∃ m : Nat, mv = .int .i64 m ∧ m ≤ j) (fun mv => j - (intOf mv).toNat)
              case atStart => exact ⟨0, rfl, Nat.zero_le _⟩
              case round =>
                obtain ⟨m, rfl, hmj⟩ := hrel
                have y0 : (0 : Int) ≤ (m : Int) := by omega
                by_cases hm : m < j
                · have y1 : (m : Int) < (j : Int) := by omega
                  have hcu : us cs m = [j - 1 - m] := by
                    have := CI.out m hm
                    rw [us_of (by rw [CL.out]; exact hm)] at this
                    injection this
                  obtain ⟨b5, o5, cp5, ar5, cr5, eg, _, hc5, hr5⟩ := rows_row GG6.out (i := m) (by rw [CL.out]; exact hm)
                  injection eg with eg1 eg2 eg3
                  subst eg1 eg3
                  rw [hcu] at hc5 hr5
                  obtain ⟨b6, o6, rfl, _, hc6⟩ := ints_get hr5 (j := 0) (by simp)
                  simp only [List.getElem_cons_zero] at hc6
                  rw [Nat.add_zero] at hc6
                  have hc5' : w6.cell? ⟨b5, o5 + m, none⟩ = some (.slice (some ⟨b6, o6, none⟩) 1 cr5) := hc5
                  have t2 : (((j - 1 - m : Nat) : Int) != (j : Int) - 1 - (m : Int)) = false := by
                    rw [show (((j - 1 - m : Nat) : Int)) = (j : Int) - 1 - (m : Int) by omega]; simp
                  clear hr5 hcu hc5 eg2
                  go_wp2
                  go_round
                  case rel => exact ⟨m + 1, by go_num, by omega⟩
                  case measure => simp [intOf]; omega
                · obtain rfl : m = j := by omega
                  go_wp2
                  go_ret
                  exact ⟨rfl, BB6.out⟩

/-! ### the row's step, as the kit's program proof-skeleton.mjs writes it -/
theorem own : ownKnob Try.prog.godebug = none := by kernel_rfl
theorem laidOut : laidOutB Try.prog = true := by kernel_rfl

set_option linter.unusedVariables false in
set_option maxRecDepth 100000 in
theorem lifted (os : Os) (started : os.Started) (H : Type) (enc : TypeId × Value → H) :
    ReturnsInHanded {} Try.checked os 5 .any (Rows.orderLineSpec.pre6 enc Try.prog Try.f5 Rows.orderLineRow.domain false) (Rows.orderLineSpec.post enc Try.prog Try.f5 false true false false) := by
  refine returnsInHanded_of_change (C := Try.checked) own started (by kernel_rfl) Try.func5
    (ChangeSpec.witness6 (enc := enc) (C := Try.checked) false ⟨#[], #[.int .i64 0], []⟩ 8 (by kernel_rfl) (by kernel_rfl) (by kernel_rfl) (by kernel_rfl)) ?_
  intro W base args ds gs before hval0 hW hcnd _
  have hval : ∀ (j : Nat) t v, Try.f5.params[j]? = some t → args[j]? = some v → Value.okWide Try.prog W .any base t v := hval0
  have hW' := hW
  obtain ⟨p, q, hA0, hV, rfl, hfz, hnd⟩ := hW
  have hA : DataW.TrodAll enc Try.prog W 0 (fun _ => true) true Try.f5.params.toList args.toList ds p := hA0
  rw [Try.params5] at hA hval
  obtain ⟨v0, vs0, d0, ds0, p0, q0, hargs, rfl, rfl, h0, r0⟩ := trodAll_cons hA
  obtain ⟨rfl, rfl, rfl⟩ := trodAll_nil r0
  obtain rfl : args = #[v0] := by cases args; simp_all
  obtain ⟨rfl, rfl⟩ := trodVars_none hV
  obtain ⟨a0, rfl, rfl, rfl, w0⟩ := open_int Try.underlying3 (hval 0 3 v0 rfl rfl) h0
  clear hA0 hval0
  refine (walk a0 w0 W).mono fun e W' ⟨he, bel⟩ => ?_
  subst he
  exact ⟨_, rfl, _, _, _, [], _, [], hW', trodAll_mk1 (shut_bool Try.underlying4 _), (trodAll_cons_mk (shut_int Try.underlying3 w0) trodAll_mk0), rfl, bel.frame _, fun h => by cases h⟩

theorem over : Rows.orderLineRow.holds Try.pinned (OpenSpec.ofChange Rows.orderLineSpec) :=
  OpenClaim.holds_of_wide 5 Try.f5 rfl rfl rfl rfl rfl rfl rfl ⟨rfl, rfl, rfl, rfl, rfl⟩ rfl rfl rfl rfl rfl (by kernel_rfl) Try.func5 (by kernel_rfl)
    (of_decide_eq_true (by kernel_rfl)) (by unfold Func.isWrapper; first | (rw [if_pos (by decide +kernel)]; kernel_rfl) | (rw [if_neg (by decide +kernel)]; exact ⟨rfl, rfl⟩))
    (fun os started H enc _ => lifted os started H enc)

/-- THE STATEMENT -/
theorem proved : Rows.OrderLineSaid := over
#print axioms proved
end Go.Proofs.Ytlffdipjddlceaa.orderLine

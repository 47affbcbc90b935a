/-
  The law OrderTurned: for every [][]int it returns true; the argument reads as before. No conditions.
-/
import Derived.Test.YtlffdipjddlceaaOrdPlace
import Derived.ProofKit
import Derived.OpenShut
import Derived.ShutString
import Derived.ChangeOld
import Derived.Below
namespace Go.Proofs.Ytlffdipjddlceaa.orderTurned
open Go.ChangeShapes Go.WideShapes Go.ChangeAt Go.RowKit Go.Deep
open Od

/-- each thing's group's first, told for the groups ahead of jj and the first kk of that -/
structure FillF (g gs : List (List Nat)) (ofs : List Nat) (jj kk : Nat) : Prop where
  len : ofs.length = g.length
  ah : ∀ t, t < jj → ∀ i ∈ us gs t, ofs.getD i 0 = (us gs t).headD 0
  now : ∀ i ∈ (us gs jj).take kk, ofs.getD i 0 = (us gs jj).headD 0

theorem FillF.start (g gs : List (List Nat)) : FillF g gs (List.replicate g.length 0) 0 0 := ⟨by simp, fun t h => by omega, by simp⟩

theorem FillF.set {g gs : List (List Nat)} (hS : Sccs g gs) {ofs : List Nat} {jj kk : Nat} (h : FillF g gs ofs jj kk) (hj : jj < gs.length) (hk : kk < (us gs jj).length) : FillF g gs (ofs.set (us gs jj)[kk] ((us gs jj).headD 0)) jj (kk + 1) := by
  have hm : (us gs jj)[kk] ∈ us gs jj := List.getElem_mem hk
  have htake : (us gs jj).take (kk + 1) = (us gs jj).take kk ++ [(us gs jj)[kk]] := by rw [List.take_add_one, List.getElem?_eq_getElem hk]; rfl
  generalize (us gs jj)[kk] = x at *
  have hx : x < g.length := (hS.all x).2 ⟨_, List.mem_of_getElem? (us_of hj), hm⟩
  have gd : ∀ i, (ofs.set x ((us gs jj).headD 0)).getD i 0 = if i = x then (us gs jj).headD 0 else ofs.getD i 0 := fun i => getD_set _ _ _ _ (by rw [h.len]; exact hx)
  refine ⟨by simpa using h.len, fun t ht i hi => ?_, fun i hi => ?_⟩
  · rw [gd]; split
    · next e =>
      subst e
      have := flatten_nodup_get hS.gnd (us_of (show t < gs.length by omega)) (us_of hj) hi hm
      omega
    · exact h.ah t ht i hi
  · rw [gd]; split
    · rfl
    · next e =>
      rw [htake] at hi
      rcases List.mem_append.1 hi with hi | hi
      · exact h.now i hi
      · exact absurd (List.mem_singleton.1 hi) e

theorem FillF.next {g gs : List (List Nat)} {ofs : List Nat} {jj : Nat} (h : FillF g gs ofs jj (us gs jj).length) : FillF g gs ofs (jj + 1) 0 := by
  refine ⟨h.len, fun t ht i hi => ?_, by simp⟩
  by_cases e : t = jj
  · subst e; exact h.now i (by rw [List.take_length]; exact hi)
  · exact h.ah t (by omega) i hi

theorem FillF.done {g gs : List (List Nat)} {ofs : List Nat} (h : FillF g gs ofs gs.length 0) {q : List Nat} (hq : q ∈ gs) {x : Nat} (hx : x ∈ q) : ofs.getD x 0 = q.headD 0 := by
  obtain ⟨t, ht⟩ := List.mem_iff_getElem?.1 hq
  have hl := (List.getElem?_eq_some_iff.1 ht).1
  have e : us gs t = q := by rw [us_of hl] at ht; injection ht
  have := h.ah t hl x (by rw [e]; exact hx)
  rwa [e] at this

theorem few_of {g : List (List Nat)} {n : Nat} (h : fewL (rowsOf g) n = true) : g.length ≤ n ∧ ∀ i, (us g i).length ≤ n := by
  unfold fewL at h
  simp only [Bool.and_eq_true, decide_eq_true_eq, List.all_eq_true] at h
  obtain ⟨h1, h2⟩ := h
  rw [rowsOf_length] at h1
  refine ⟨by omega, fun i => ?_⟩
  unfold us
  rw [List.getD_eq_getElem?_getD]
  rcases hx : g[i]? with _ | q
  · simp
  · have := h2 (intsOf q) (List.mem_map.2 ⟨q, List.mem_of_getElem? hx, rfl⟩)
    rw [intsOf_length] at this
    simp only [Option.getD_some]; omega

set_option maxHeartbeats 3200000 in
set_option maxRecDepth 100000 in
theorem walk (W : World) (v0 : Value) (a0 : List (List Int)) (w0 : RowsAt W.heap.size W v0 a0) :
    Calls Try.prog 6 #[v0] W fun e w' => e = .returned (.bool true) ∧ Below W.heap.size W w' := by
  obtain ⟨va, vc, ev, _⟩ := id w0
  subst ev
  have H0 := Lib.hid w0
  clear w0
  go_enter Try.func6, Try.ntmps6
  go_wp2_with fail
  refine (awake_any _).mono ?_
  rintro e w1 ⟨rfl, B1⟩
  have R1 := Lib.hid (rows_later H0.out (Nat.le_refl _) B1)
  have BB1 := Lib.hid B1
  clear B1
  go_wp2_with fail
  refine (few_any _ _ a0 100 w1 R1.out).mono ?_
  rintro e w' ⟨he, rfl⟩
  by_cases hf : fewL a0 100 = true
  · rw [hf] at he
    subst he
    by_cases hb : Bad a0
    · have HB := Lib.hid hb
      clear hf hb
      go_wp2_with fail
      refine ((groups_any _ _ a0 w1 R1.out (Nat.le_refl _)).mono fun e w' h => post_bad HB.out h).mono ?_
      rintro e w2 ⟨rfl, B2⟩
      have BB2 := Lib.hid (BB1.out.trans (B2.mono BB1.out.size))
      clear B2
      go_wp2
      go_ret
      exact ⟨rfl, BB2.out⟩
    · obtain ⟨g, hg, hv, hl5⟩ := good_of hb
      subst hg
      obtain ⟨hl, hlr⟩ := few_of hf
      have HV := Lib.hid hv
      have HLR := Lib.hid hlr
      clear hf hb hv hlr
      simp only [rowsOf_length]
      have R1' := Lib.hid R1.out
      clear R1
      have e0 := R1'.out
      simp only [rowsOf_length] at e0
      have R1 := Lib.hid e0
      clear e0 R1'
      go_wp2_with fail
      refine ((groups_any _ _ (rowsOf g) w1 R1.out (Nat.le_refl _)).mono fun e w' h => post_good HV.out hl5 h).mono ?_
      rintro e w2 ⟨a2, c2, rfl, G2, B2⟩
      have hS := told_sccs (groups_ok g HV.out) HV.out
      generalize toldL g (groupsL g) = ts at *
      have htl := hS.len
      have HS := Lib.hid hS
      have BB2 := Lib.hid (BB1.out.trans (B2.mono BB1.out.size))
      have GG2 := Lib.hid G2
      have R2 := Lib.hid (rows_later R1.out (Nat.le_refl _) B2)
      clear B2 G2 hS
      have hmk := run_make_row' (P := Try.prog) 22 30 (.slice none 0 0) 24 Try.underlying22 infoSl rfl .i64 .i64 g.length (by omega) (by omega)
      rw [made_nils] at hmk
      obtain ⟨i0, hi0, hz0, hz1, hz2⟩ := info_parts infoInt
      go_wp2
      clear hmk
      go_loopw [8] (fun iv wr => ∃ (i : Nat) (t : List (List Nat)) (vs : List Value), iv = .int .i64 i ∧ i ≤ g.length ∧ Turn g t i 0 ∧ (∀ q ∈ t, q.length ≤ 100 * i) ∧ RowsW w2.heap.size wr w2.heap.size g.length t vs ∧ Below w2.heap.size w2 wr) (fun iv _ => g.length - (intOf iv).toNat)
      case atStart => exact ⟨0, _, _, rfl, Nat.zero_le _, Turn.start g, fun q hq => by rw [List.eq_of_mem_replicate hq]; simp, RowsW.start (heap_alloc_new _ _) (Nat.le_refl _), (Below.refl _ _).alloc (Nat.le_refl _) _⟩
      case round =>
        obtain ⟨i, t, vs, rfl, hil, hT, hq, hW, hB⟩ := hrel
        have z0 : (0 : Int) ≤ (i : Int) := by omega
        by_cases hi : i < g.length
        · have z1 : (i : Int) < (g.length : Int) := by omega
          obtain ⟨b, off, cap, a, cap', eg, hb, hcell', hrow⟩ := rows_row R2.out hi
          injection eg with eg1 eg2 eg3
          subst eg1 eg3
          have HU := Lib.hid hrow
          have HC := Lib.hid hcell'
          have hlen := HLR.out i
          have TH := Lib.hid hT
          have QH := Lib.hid hq
          have WH := Lib.hid hW
          have BH := Lib.hid hB
          clear hcell' hrow hT hq hW hB
          go_wp2
          go_loopw [9] (fun kv wr => ∃ (k : Nat) (t : List (List Nat)) (vs : List Value), kv = .int .i64 k ∧ k ≤ (us g i).length ∧ Turn g t i k ∧ (∀ q ∈ t, q.length ≤ 100 * i + k) ∧ RowsW w2.heap.size wr w2.heap.size g.length t vs ∧ Below w2.heap.size w2 wr) (fun kv _ => (us g i).length - (intOf kv).toNat)
          case atStart => exact ⟨0, t, vs, rfl, Nat.zero_le _, TH.out, QH.out, WH.out, BH.out⟩
          case round =>
            clear TH QH WH BH
            obtain ⟨k, t, vs, rfl, hkl, hT, hq, hW, hB⟩ := hrel
            have y0 : (0 : Int) ≤ (k : Int) := by omega
            have hcell := (hB.cell (p := ⟨b, off + i, none⟩) hb).trans HC.out
            by_cases hk : k < (us g i).length
            · have y1 : (k : Int) < ((us g i).length : Int) := by omega
              obtain ⟨b3, off3, rfl, hb3, hc3'⟩ := ints_get HU.out hk
              have hc3 := (hB.cell (p := ⟨b3, off3 + k, none⟩) hb3).trans hc3'
              have hxl := HV.out i _ (List.getElem_mem hk)
              have T2 := Lib.hid (hT.set hk hxl)
              generalize (us g i)[k] = x at *
              have hxv : x < vs.length := by rw [hW.vl]; exact hxl
              have hvx : vs[x]? = some vs[x] := List.getElem?_eq_getElem hxv
              have htx : t[x]? = some (us t x) := us_of (by rw [hT.len]; exact hxl)
              have hox := hW.own x _ _ htx hvx
              have hqx := hq _ (List.mem_of_getElem? htx)
              have cx : wr.cell? ⟨w2.heap.size, x, none⟩ = some vs[x] := by rw [cell_of_row _ _ x _ _ _ hW.blk, List.getElem?_toArray]; exact hvx
              have hne := own_ne hox hW.blk (by decide)
              have fx := free_row hW.blk x
              have lB := lt_of_get hW.blk
              have hsz := hB.size
              generalize vs[x] = u at *
              have VX := Lib.hid hvx
              have TX := Lib.hid htx
              have OX := Lib.hid hox
              have QH := Lib.hid hq
              have WH := Lib.hid hW
              have BH := Lib.hid hB
              have NE := Lib.hid hne
              clear hc3' hT hq hW hB hvx htx hox hne hxv
              have y2 : (0 : Int) ≤ (x : Int) := by omega
              have y3 : (x : Int) < (g.length : Int) := by omega
              go_wp2_with (at_builtin; refine wpList_append_lies _ rfl _ _ _ rfl w2.heap.size 3 i0 _ 1 8 Try.underlying30 hi0 hz0 hz1 hz2 rfl (by omega) u (us t x).length (cellsOf (us t x)) rfl (OX.out.alloc _) ⟨wr.heap.size, 0, none⟩ 1 1 [.int .i64 (i : Int)] rfl rfl (World.news_of_block (cs := #[.int .i64 (i : Int)]) (t := 3) (fr := (0, 0)) (heap_alloc_new _ _)) (by simp [Value.oneCell']) (by omega) (by unfold maxLen; omega) (by omega) (by simp; omega) (wr.heap.size + 1) (by simp) ?_; intro gg cap3 w7 hown7 hgrow7 hat7 hlt7; have hB7 := (hgrow7.block w2.heap.size (by simp; omega) (Ne.symm NE.out)).trans ((Below.heap_alloc _ _ _ lB).trans WH.out.blk); have c7 : w7.cell? ⟨w2.heap.size, x, none⟩ = some u := (by rw [cell_of_row _ _ x _ _ _ hB7, List.getElem?_toArray]; exact VX.out); have f7 := free_row hB7 x; clear hB7)
              have W7 := Lib.hid (RowsW.put (WH.out.keep (w1 := wr.alloc (.cells #[.int .i64 (i : Int)] 3)) (fun b hb => Below.heap_alloc _ _ _ hb)) (q' := us t x ++ [i]) (v' := .slice (some ⟨gg, 0, none⟩) ((us t x).length + 1) cap3) VX.out hgrow7 (by rw [cellsOf_append, List.length_append]; exact hown7) (fun b hb => by
                simp only [Value.ownBlock, Option.some.injEq] at hb
                subst hb
                rcases hat7 with e | e
                · exact .inl e
                · right; subst e; simp))
              have B7 := Lib.hid (((BH.out.alloc hsz (.cells #[.int .i64 (i : Int)] 3)).grown hgrow7 (by simp; omega) (fun b hb => (OX.out.lt _ hb).1)).setCell (p := ⟨w2.heap.size, x, none⟩) (Nat.le_refl _) (.slice (some ⟨gg, 0, none⟩) ((us t x).length + 1) cap3))
              clear hown7 hgrow7 hat7 hlt7 c7 f7
              go_wp2
              go_roundw
              case rel =>
                refine ⟨k + 1, _, _, by go_num, by omega, T2.out, fun q hq2 => ?_, W7.out, B7.out⟩
                rcases List.mem_or_eq_of_mem_set hq2 with h | h
                · have := QH.out q h; omega
                · subst h; simp; omega
              case measure => simp [intOf]; omega
            · obtain rfl : k = (us g i).length := by omega
              have T2 := Lib.hid hT.next
              have Q2 : Hid (∀ q ∈ t, q.length ≤ 100 * (i + 1)) := Lib.hid (fun q hq2 => by have := hq q hq2; omega)
              have W2 := Lib.hid hW
              have B2 := Lib.hid hB
              clear hT hq hW hB
              go_wp2
              go_roundw
              case rel => exact ⟨i + 1, t, vs, by go_num, by omega, T2.out, Q2.out, W2.out, B2.out⟩
              case measure => simp [intOf]; omega
        · obtain rfl : i = g.length := by omega
          have hrt := hW.rows (by omega) (fun q hq2 => by have := hq q hq2; omega)
          have htv := hT.valid
          have htl2 := hT.len
          have TH := Lib.hid hT
          have TV := Lib.hid htv
          have RT := Lib.hid hrt
          have BH := Lib.hid hB
          have TL := Lib.hid htl2
          have htl3 : t.length ≤ 500 := by omega
          clear hT hq hW hB hrt htv htl2
          go_wp2_with fail
          refine ((groups_any _ _ (rowsOf t) wr RT.out (Nat.le_refl _)).mono fun e w' h => post_good TV.out htl3 h).mono ?_
          rintro e w3 ⟨a3, c3, rfl, G3, B3⟩
          have hS3 := told_sccs (groups_ok t TV.out) TV.out
          generalize toldL t (groupsL t) = tt at *
          obtain ⟨hsl, hsm⟩ := TH.out.same HV.out HS.out hS3
          have htl4 := hS3.len
          have HS3 := Lib.hid hS3
          have SL := Lib.hid hsl
          have SM := Lib.hid hsm
          have GG3 := Lib.hid G3
          have B3' := BH.out.trans (B3.mono BH.out.size)
          have BB3 := Lib.hid (BB2.out.trans (B3'.mono BB2.out.size))
          have GA := Lib.hid (rows_later GG2.out (Nat.le_refl _) B3')
          have hll : ((ts.length : Int) != (tt.length : Int)) = false := by rw [hsl]; simp
          clear G3 B3 B3' hS3 hsl hsm
          have hmk := run_make_row' (P := Try.prog) 30 3 (.int .i64 0) 8 Try.underlying30 infoInt rfl .i64 .i64 g.length (by omega) (by omega)
          rw [made_ints] at hmk
          go_wp2
          clear hmk
          go_loopw [14] (fun iv wr => ∃ (i : Nat) (ofs : List Nat), iv = .int .i64 i ∧ i ≤ ts.length ∧ FillF g ts ofs i 0 ∧ wr.heap[w3.heap.size]? = some (.cells (cellsOf ofs).toArray 3 (0, 0)) ∧ Below w3.heap.size w3 wr) (fun iv _ => ts.length - (intOf iv).toNat)
          case atStart => exact ⟨0, _, rfl, Nat.zero_le _, FillF.start g ts, heap_alloc_new _ _, (Below.refl _ _).alloc (Nat.le_refl _) _⟩
          case round =>
            obtain ⟨i, ofs, rfl, hil, hF, hat, hB⟩ := hrel
            have z0 : (0 : Int) ≤ (i : Int) := by omega
            by_cases hi : i < ts.length
            · have z1 : (i : Int) < (ts.length : Int) := by omega
              obtain ⟨b, off, cap, a, cap', eg, hb, hcell', hrow⟩ := rows_row GA.out hi
              injection eg with eg1 eg2 eg3
              subst eg1 eg3
              have hcell := (hB.cell (p := ⟨b, off + i, none⟩) hb).trans hcell'
              have hrl : (us ts i).length ≤ 9223372036854775807 := by obtain ⟨_, _, _, h, _⟩ := hrow; rwa [intsOf_length] at h
              have HU := Lib.hid hrow
              have HC := Lib.hid hcell'
              have FH := Lib.hid hF
              have AT := Lib.hid hat
              have BH3 := Lib.hid hB
              clear hcell' hrow hF hat hB
              go_wp2
              clear hcell
              go_loopw [15] (fun kv wr => ∃ (k : Nat) (ofs : List Nat), kv = .int .i64 k ∧ k ≤ (us ts i).length ∧ FillF g ts ofs i k ∧ wr.heap[w3.heap.size]? = some (.cells (cellsOf ofs).toArray 3 (0, 0)) ∧ Below w3.heap.size w3 wr) (fun kv _ => (us ts i).length - (intOf kv).toNat)
              case atStart => exact ⟨0, ofs, rfl, Nat.zero_le _, FH.out, AT.out, BH3.out⟩
              case round =>
                clear FH AT BH3
                obtain ⟨k, ofs, rfl, hkl, hF, hat, hB⟩ := hrel
                have y0 : (0 : Int) ≤ (k : Int) := by omega
                have hcell := (hB.cell (p := ⟨b, off + i, none⟩) hb).trans HC.out
                by_cases hk : k < (us ts i).length
                · have y1 : (k : Int) < ((us ts i).length : Int) := by omega
                  obtain ⟨b3, off3, rfl, hb3, hc3'⟩ := ints_get HU.out hk
                  have hc3 := (hB.cell (p := ⟨b3, off3 + k, none⟩) hb3).trans hc3'
                  obtain ⟨b4, off4, e4, _, hc4'⟩ := ints_get HU.out (j := 0) (by omega)
                  injection e4 with e4
                  injection e4 with e4 e5
                  subst e4 e5
                  have hc4 := (hB.cell (p := ⟨b3, off3 + 0, none⟩) hb3).trans hc4'
                  rw [Nat.add_zero] at hc4
                  have hhd : (us ts i)[0] = (us ts i).headD 0 := by
                    have : (us ts i)[0]? = some (us ts i)[0] := List.getElem?_eq_getElem (by omega)
                    rw [← List.head?_eq_getElem?] at this
                    rw [List.headD_eq_head?_getD, this]; rfl
                  rw [hhd] at hc4
                  have hxl : (us ts i)[k] < g.length := (HS.out.all _).2 ⟨_, List.mem_of_getElem? (us_of hi), List.getElem_mem hk⟩
                  have F2 := Lib.hid (hF.set HS.out hi hk)
                  have AT2 : Hid ((wr.setCell ⟨w3.heap.size, (us ts i)[k], none⟩ (.int .i64 (((us ts i).headD 0 : Nat) : Int))).heap[w3.heap.size]? = some (.cells (cellsOf (ofs.set (us ts i)[k] ((us ts i).headD 0))).toArray 3 (0, 0))) := Lib.hid (by rw [set_row hat, cellsOf_set])
                  have B2 := Lib.hid (hB.setCell (p := ⟨w3.heap.size, (us ts i)[k], none⟩) (Nat.le_refl _) (.int .i64 (((us ts i).headD 0 : Nat) : Int)))
                  have co := row_cell hat (i := (us ts i)[k]) (by rw [hF.len]; exact hxl)
                  have fo := free_row hat (us ts i)[k]
                  have ne1 : b ≠ w3.heap.size := by omega
                  have ne2 : b3 ≠ w3.heap.size := by omega
                  clear hc3' hc4' hF hat hB hhd
                  generalize (us ts i)[k] = x at *
                  generalize (us ts i).headD 0 = hd at *
                  have y2 : (0 : Int) ≤ (x : Int) := by omega
                  have y3 : (x : Int) < (g.length : Int) := by omega
                  have y4 : (0 : Int) < ((us ts i).length : Int) := by omega
                  go_wp2
                  go_region
                  go_wp2
                  go_roundw
                  case rel => exact ⟨k + 1, _, by go_num, by omega, F2.out, AT2.out, B2.out.drew⟩
                  case measure => simp [intOf]; omega
                · obtain rfl : k = (us ts i).length := by omega
                  have F2 := Lib.hid hF.next
                  have AT2 := Lib.hid hat
                  have B2 := Lib.hid hB
                  clear hF hat hB
                  go_wp2
                  go_roundw
                  case rel => exact ⟨i + 1, ofs, by go_num, by omega, F2.out, AT2.out, B2.out⟩
                  case measure => simp [intOf]; omega
            · obtain rfl : i = ts.length := by omega
              have FH := Lib.hid hF
              have AT := Lib.hid hat
              have BH3 := Lib.hid hB
              clear hF hat hB
              go_wp2
              go_loopw [16] (fun iv wr => ∃ (i : Nat), iv = .int .i64 i ∧ i ≤ tt.length ∧ wr.heap[w3.heap.size]? = some (.cells (cellsOf ofs).toArray 3 (0, 0)) ∧ Below w3.heap.size w3 wr) (fun iv _ => tt.length - (intOf iv).toNat)
              case atStart => exact ⟨0, rfl, Nat.zero_le _, AT.out, BH3.out⟩
              case round =>
                clear AT BH3
                obtain ⟨i, rfl, hil2, hat, hB⟩ := hrel
                have x0 : (0 : Int) ≤ (i : Int) := by omega
                by_cases hi2 : i < tt.length
                · have x1 : (i : Int) < (tt.length : Int) := by omega
                  obtain ⟨b, off, cap, a, cap', eg, hb, hcell', hrow⟩ := rows_row GG3.out hi2
                  injection eg with eg1 eg2 eg3
                  subst eg1 eg3
                  have hcell := (hB.cell (p := ⟨b, off + i, none⟩) hb).trans hcell'
                  have hrl : (us tt i).length ≤ 9223372036854775807 := by obtain ⟨_, _, _, h, _⟩ := hrow; rwa [intsOf_length] at h
                  have HU := Lib.hid hrow
                  have HC := Lib.hid hcell'
                  have AT := Lib.hid hat
                  have BH3 := Lib.hid hB
                  have hqm := List.mem_of_getElem? (us_of hi2)
                  have QM := Lib.hid hqm
                  clear hcell' hrow hat hB hqm
                  go_wp2
                  clear hcell
                  go_loopw [17] (fun kv wr => ∃ (k : Nat), kv = .int .i64 k ∧ k ≤ (us tt i).length ∧ wr.heap[w3.heap.size]? = some (.cells (cellsOf ofs).toArray 3 (0, 0)) ∧ Below w3.heap.size w3 wr) (fun kv _ => (us tt i).length - (intOf kv).toNat)
                  case atStart => exact ⟨0, rfl, Nat.zero_le _, AT.out, BH3.out⟩
                  case round =>
                    clear AT BH3
                    obtain ⟨k, rfl, hkl, hat, hB⟩ := hrel
                    have y0 : (0 : Int) ≤ (k : Int) := by omega
                    have hcell := (hB.cell (p := ⟨b, off + i, none⟩) hb).trans HC.out
                    by_cases hk : k < (us tt i).length
                    · have y1 : (k : Int) < ((us tt i).length : Int) := by omega
                      obtain ⟨b3, off3, rfl, hb3, hc3'⟩ := ints_get HU.out hk
                      have hc3 := (hB.cell (p := ⟨b3, off3 + k, none⟩) hb3).trans hc3'
                      obtain ⟨b4, off4, e4, _, hc4'⟩ := ints_get HU.out (j := 0) (by omega)
                      injection e4 with e4
                      injection e4 with e4 e5
                      subst e4 e5
                      have hc4 := (hB.cell (p := ⟨b3, off3 + 0, none⟩) hb3).trans hc4'
                      rw [Nat.add_zero] at hc4
                      have hhd : (us tt i)[0] = (us tt i).headD 0 := by
                        have : (us tt i)[0]? = some (us tt i)[0] := List.getElem?_eq_getElem (by omega)
                        rw [← List.head?_eq_getElem?] at this
                        rw [List.headD_eq_head?_getD, this]; rfl
                      rw [hhd] at hc4
                      have hgm := SM.out _ QM.out
                      have hxl : (us tt i)[k] < g.length := (HS.out.all _).2 ⟨_, hgm, List.getElem_mem hk⟩
                      have co := row_cell hat (i := (us tt i)[k]) (by rw [FH.out.len]; exact hxl)
                      rw [FH.out.done hgm (List.getElem_mem hk)] at co
                      have AT := Lib.hid hat
                      have BH3 := Lib.hid hB
                      clear hc3' hc4' hat hB hhd hgm
                      generalize (us tt i)[k] = x at *
                      generalize (us tt i).headD 0 = hd at *
                      have y2 : (0 : Int) ≤ (x : Int) := by omega
                      have y3 : (x : Int) < (g.length : Int) := by omega
                      have y4 : (0 : Int) < ((us tt i).length : Int) := by omega
                      have y5 : ((hd : Int) != (hd : Int)) = false := by simp
                      go_wp2
                      go_quiet (fail)
                      go_wp2
                      go_roundw
                      case rel => exact ⟨k + 1, by go_num, by omega, AT.out, BH3.out.trans (Below.drewN_ _)⟩
                      case measure => simp [intOf]; omega
                    · obtain rfl : k = (us tt i).length := by omega
                      have AT := Lib.hid hat
                      have BH3 := Lib.hid hB
                      clear hat hB
                      go_wp2
                      go_roundw
                      case rel => exact ⟨i + 1, by go_num, by omega, AT.out, BH3.out⟩
                      case measure => simp [intOf]; omega
                · obtain rfl : i = tt.length := by omega
                  have BH3 := Lib.hid hB
                  clear hat hB
                  go_wp2
                  go_ret
                  exact ⟨rfl, BB3.out.trans (BH3.out.mono BB3.out.size)⟩
  · have hf' : fewL a0 100 = false := by simpa using hf
    rw [hf'] at he
    subst he
    clear hf hf'
    go_wp2
    go_ret
    exact ⟨rfl, BB1.out⟩

/-! ### the row's step, as the kit's program proof-skeleton.mjs writes it -/
theorem own : ownKnob Try.prog.godebug = none := by kernel_rfl
theorem laidOut : laidOutB Try.prog = true := by kernel_rfl

set_option linter.unusedVariables false in
set_option maxRecDepth 100000 in
theorem lifted (os : Os) (started : os.Started) (H : Type) (enc : TypeId × Value → H) :
    ReturnsInHanded {} Try.checked os 6 .any (Rows.orderTurnedSpec.pre6 enc Try.prog Try.f6 Rows.orderTurnedRow.domain false) (Rows.orderTurnedSpec.post enc Try.prog Try.f6 false true false false) := by
  refine returnsInHanded_of_change (C := Try.checked) own started (by kernel_rfl) Try.func6
    (ChangeSpec.witness6 (enc := enc) (C := Try.checked) false ⟨#[], #[.slice none 0 0], []⟩ 8 (by kernel_rfl) (by kernel_rfl) (by kernel_rfl) (by kernel_rfl)) ?_
  intro W base args ds gs before hval0 hW hcnd _
  have hval : ∀ (j : Nat) t v, Try.f6.params[j]? = some t → args[j]? = some v → Value.okWide Try.prog W .any base t v := hval0
  have hW' := hW
  obtain ⟨p, q, hA0, hV, rfl, hfz, hnd⟩ := hW
  have hA : DataW.TrodAll enc Try.prog W 0 (fun _ => true) true Try.f6.params.toList args.toList ds p := hA0
  rw [Try.params6] at hA hval
  obtain ⟨v0, vs0, d0, ds0, p0, q0, hargs, rfl, rfl, h0, r0⟩ := trodAll_cons hA
  obtain ⟨rfl, rfl, rfl⟩ := trodAll_nil r0
  obtain rfl : args = #[v0] := by cases args; simp_all
  obtain ⟨rfl, rfl⟩ := trodVars_none hV
  have k0 := h0
  have lt0 : ∀ x ∈ p0, x.block < W.heap.size := by obtain ⟨m, hm⟩ := k0; exact DataW.trod_lt m _ _ _ hm
  obtain ⟨a0, w0⟩ := opn0 (hval 0 22 v0 rfl rfl) h0
  clear hA0 hval0
  refine (walk W v0 a0 w0).mono fun e W' ⟨he, bel⟩ => ?_
  subst he
  exact ⟨_, rfl, _, _, _, [], _, [], hW', trodAll_mk1 (shut_bool Try.underlying4 _), (trodAll_cons_mk (Below.trod laidOut (by kernel_rfl) (of_decide_eq_true (by kernel_rfl)) k0 bel lt0) trodAll_mk0), rfl, bel.frame _, fun h => by cases h⟩

theorem over : Rows.orderTurnedRow.holds Try.pinned (OpenSpec.ofChange Rows.orderTurnedSpec) :=
  OpenClaim.holds_of_wide 6 Try.f6 rfl rfl rfl rfl rfl rfl rfl ⟨rfl, rfl, rfl, rfl, rfl⟩ rfl rfl rfl rfl rfl (by kernel_rfl) Try.func6 (by kernel_rfl)
    (of_decide_eq_true (by kernel_rfl)) (by unfold Func.isWrapper; first | (rw [if_pos (by decide +kernel)]; kernel_rfl) | (rw [if_neg (by decide +kernel)]; exact ⟨rfl, rfl⟩))
    (fun os started H enc _ => lifted os started H enc)

/-- THE STATEMENT -/
theorem proved : Rows.OrderTurnedSaid := over
#print axioms proved
end Go.Proofs.Ytlffdipjddlceaa.orderTurned

/- The walk of told, itself. -/
import Derived.Test.YtlffdipjddlceaaOrdToldW
namespace Go.Proofs.Ytlffdipjddlceaa.Od
open Go.RowKit Go.Shelf Go.Deep

def ToldPost (w : World) (g gs : List (List Nat)) (e : Ending) (w' : World) : Prop := ∃ v, e = .returned v ∧ RowsAt w'.heap.size w' v (rowsOf (toldL g gs)) ∧ Below w.heap.size w w'

theorem alloc_new {w : World} {o : Obj} {k : Nat} (h : k = w.heap.size) : (w.alloc o).heap[k]? = some o := by subst h; exact heap_alloc_new w o
theorem alloc_old {w : World} {o x : Obj} {k : Nat} (h : w.heap[k]? = some x) : (w.alloc o).heap[k]? = some x := (Below.heap_alloc w o k (lt_of_get h)).trans h

theorem FW.start (w : World) (uv gv : Value) (n : Nat) : FW w uv gv n (List.replicate n 0) ((((w.alloc (.cells #[uv] 22)).alloc (.cells #[gv] 22)).alloc (.cells (cellsOf (List.replicate n 0)).toArray 3)).alloc (.cells #[.slice (some ⟨w.heap.size + 1 + 1, 0, none⟩) n n] 30)) := by
  exact ⟨alloc_old (alloc_old (alloc_old (alloc_new rfl))), alloc_old (alloc_old (alloc_new (by simp))), alloc_old (alloc_new (by simp)), alloc_new (by simp), ((((Below.refl _ _).alloc (by simp) _).alloc (by simp) _).alloc (by simp; omega) _).alloc (by simp; omega) _, by simp⟩

theorem MW.start {w wr : World} {uv gv : Value} {n m : Nat} {gs : List (List Nat)} {ofs : List Nat} (h : FW w uv gv n ofs wr) (hl : ofs.length = n) (hf : ∀ i, i < n → ofs.getD i 0 = ofL gs i) :
    MW w uv gv n m gs [] ((wr.alloc (.cells (boolsOf m []).toArray 4)).alloc (.cells #[.slice (some ⟨w.heap.size + 4, 0, none⟩) m m] 46)) := by
  have hs := h.size
  exact ⟨alloc_old (alloc_old h.bu), alloc_old (alloc_old h.bg), ⟨ofs, alloc_old (alloc_old h.bo), hl, hf⟩, alloc_old (alloc_old h.bf), alloc_old (alloc_new (by omega)), alloc_new (by simp; omega), (h.bel.alloc (by omega) _).alloc (by simp; omega) _, by simp; omega⟩

/-- what was told so far, in memory -/
structure OutRow (w : World) (n₁ : Nat) (wr : World) (v : Value) (O : List (List Nat)) (vs : List Value) : Prop where
  own : wr.ownsRow (w.heap.size + 6) 30 1 v O.length vs
  at_ : ∀ (j : Nat) (q : List Nat) (x : Value), O[j]? = some q → vs[j]? = some x → IntsAt n₁ w x (intsOf q)

theorem OutRow.rows {w : World} {n₁ : Nat} {wr : World} {v : Value} {O : List (List Nat)} {vs : List Value} (h : OutRow w n₁ wr v O vs) (hn : n₁ ≤ w.heap.size) (hb : Below w.heap.size w wr) (hO : O.length ≤ 500) : RowsAt wr.heap.size wr v (rowsOf O) := by
  have hl : vs.length = O.length := by have := h.own.1; simpa using this
  rcases h.own.2 with ⟨rfl, h0⟩ | ⟨gg, cap, cur, rfl, _, hg, h1, h2, h3, h4⟩
  · have : O = [] := List.eq_nil_of_length_eq_zero h0
    subst this
    exact ⟨none, 0, rfl, by simp [rowsOf], fun h => absurd h (by simp [rowsOf])⟩
  · refine ⟨_, cap, by rw [rowsOf_length], by rw [rowsOf_length]; omega, fun _ => ⟨gg, 0, rfl, lt_of_get hg, fun j hj => ?_⟩⟩
    have hj' : j < O.length := by rw [rowsOf_length] at hj; exact hj
    have hv : vs[j]? = some vs[j] := List.getElem?_eq_getElem (by omega)
    refine ⟨vs[j], ?_, ?_⟩
    · have h5 : (cur.toList.take (O.length * 1))[j]? = some vs[j] := by rw [h4]; exact hv
      rw [List.getElem?_take, if_pos (by omega)] at h5
      simp only [World.cell?, hg, Nat.zero_add]
      simpa using h5
    · have := (h.at_ j O[j] vs[j] (List.getElem?_eq_getElem hj') hv)
      have e : (rowsOf O)[j] = intsOf O[j] := by simp [rowsOf]
      rw [e]
      exact ((this.mono hn).below hb).mono hb.size

theorem OutRow.add {w : World} {n₁ : Nat} {wr w' : World} {v v' : Value} {O : List (List Nat)} {vs : List Value} {q : List Nat} {x : Value} (h : OutRow w n₁ wr v O vs) (hx : IntsAt n₁ w x (intsOf q)) (ho : w'.ownsRow (w.heap.size + 6) 30 1 v' (O.length + 1) (vs ++ [x])) : OutRow w n₁ w' v' (O ++ [q]) (vs ++ [x]) := by
  have hl : vs.length = O.length := by have := h.own.1; simpa using this
  refine ⟨by rw [List.length_append]; exact ho, fun j q' x' h1 h2 => ?_⟩
  rcases Nat.lt_or_ge j O.length with hlt | hge
  · rw [List.getElem?_append_left hlt] at h1
    rw [List.getElem?_append_left (by omega)] at h2
    exact h.at_ j q' x' h1 h2
  · have hj : j = O.length := by
      have := (List.getElem?_eq_some_iff.1 h1).1
      simp at this; omega
    subst hj
    rw [List.getElem?_append_right (Nat.le_refl _)] at h1
    rw [← hl, List.getElem?_append_right (Nat.le_refl _)] at h2
    simp at h1 h2
    subst h1 h2
    exact hx

theorem infoBool : (Try.prog.info? 4).map (fun i => (i.zero, i.size, i.bytes)) = some (some (.bool false), 1, 1) := by kernel_rfl

set_option maxHeartbeats 1600000 in
theorem told_any (n₀ n₁ : Nat) (uv gv : Value) (g gs : List (List Nat)) (w : World) (hS : Sccs g gs) (hv : Valid g) (hn : g.length ≤ 500) (hR : RowsAt n₀ w uv (rowsOf g)) (hG : RowsAt n₁ w gv (rowsOf gs)) (hn0 : n₀ ≤ w.heap.size) (hn1 : n₁ ≤ w.heap.size) :
    Calls Try.prog 15 #[uv, gv] w (ToldPost w g gs) := by
  have hgl := hS.len
  obtain ⟨ua, uc, euv, _⟩ := id hR
  obtain ⟨ga, gc, egv, _⟩ := id hG
  rw [rowsOf_length] at euv egv
  have hmk := run_make_row' (P := Try.prog) 30 3 (.int .i64 0) 8 Try.underlying30 infoInt rfl .i64 .i64 g.length (by omega) (by omega)
  have hmb := run_make_row' (P := Try.prog) 46 4 (.bool false) 1 Try.underlying46 infoBool rfl .i64 .i64 gs.length (by omega) (by omega)
  rw [made_ints] at hmk
  rw [made_bools] at hmb
  subst euv egv
  have HS := Lib.hid hS
  have HR := Lib.hid hR
  have HG := Lib.hid hG
  clear hS hR hG
  go_enter Try.func15, Try.ntmps15
  go_wp2
  go_loopw [20] (fun i wr => ∃ (jj : Nat) (ofs : List Nat), i = .int .i64 jj ∧ jj ≤ gs.length ∧ Filled gs g.length ofs jj 0 ∧ FW w (.slice ua g.length uc) (.slice ga gs.length gc) g.length ofs wr) (fun i _ => gs.length - (intOf i).toNat)
  case atStart => exact ⟨0, _, rfl, Nat.zero_le _, Filled.start _ _, FW.start _ _ _ _⟩
  case round =>
    obtain ⟨jj, ofs, rfl, hjl, hF, hW⟩ := hrel
    have cg := cell_of_row wr _ 0 _ _ _ hW.bg
    have cf : wr.cell? ⟨w.heap.size + 3, 0, none⟩ = some (.slice (some ⟨w.heap.size + 2, 0, none⟩) g.length g.length) := cell_of_row wr _ 0 _ _ _ hW.bf
    by_cases hj : jj < gs.length
    · obtain ⟨b, off, cap, a, cap', eg, hb, hcell', hrow⟩ := rows_row HG.out hj
      injection eg with eg1 eg2 eg3
      subst eg1 eg3
      have hcell := (hW.bel.cell (p := ⟨b, off + jj, none⟩) (Nat.lt_of_lt_of_le hb hn1)).trans hcell'
      have hrl : (us gs jj).length ≤ 9223372036854775807 := by obtain ⟨_, _, _, h, _⟩ := hrow; rwa [intsOf_length] at h
      have HU := Lib.hid hrow
      have WH := Lib.hid hW
      have FH := Lib.hid hF
      clear hcell' hrow hW hF
      have z0 : (0 : Int) ≤ (jj : Int) := by omega
      have z1 : (jj : Int) < (gs.length : Int) := by omega
      go_wp2
      go_loopw [27] (fun i wr => ∃ (kk : Nat) (ofs : List Nat), i = .int .i64 kk ∧ kk ≤ (us gs jj).length ∧ Filled gs g.length ofs jj kk ∧ FW w (.slice ua g.length uc) (.slice (some ⟨b, off, none⟩) gs.length gc) g.length ofs wr) (fun i _ => (us gs jj).length - (intOf i).toNat)
      case atStart => exact ⟨0, ofs, rfl, Nat.zero_le _, FH.out, WH.out⟩
      case round =>
        clear WH FH
        obtain ⟨kk, ofs, rfl, hkl, hF, hW⟩ := hrel
        have cf : wr.cell? ⟨w.heap.size + 3, 0, none⟩ = some (.slice (some ⟨w.heap.size + 2, 0, none⟩) g.length g.length) := cell_of_row wr _ 0 _ _ _ hW.bf
        by_cases hk : kk < (us gs jj).length
        · obtain ⟨b3, off3, rfl, hb3, hcell3'⟩ := ints_get HU.out hk
          have hcell3 := (hW.bel.cell (p := ⟨b3, off3 + kk, none⟩) (Nat.lt_of_lt_of_le hb3 hn1)).trans hcell3'
          have hxl : (us gs jj)[kk] < g.length := (HS.out.all _).2 ⟨_, List.mem_of_getElem? (us_of hj), List.getElem_mem hk⟩
          have F2 := Lib.hid (hF.set HS.out hj hk)
          have W2 := Lib.hid (hW.set (us gs jj)[kk] jj)
          have co : (wr.cell? ⟨w.heap.size + 2, (us gs jj)[kk], none⟩) = some (.int .i64 ((ofs.getD (us gs jj)[kk] 0 : Nat) : Int)) := row_cell hW.bo (by rw [hF.len]; exact hxl)
          have fo := free_row hW.bo (us gs jj)[kk]
          clear hcell3' hF hW
          generalize (us gs jj)[kk] = x at *
          have y0 : (0 : Int) ≤ (kk : Int) := by omega
          have y1 : (kk : Int) < ((us gs jj).length : Int) := by omega
          have y2 : (0 : Int) ≤ (x : Int) := by omega
          have y3 : (x : Int) < (g.length : Int) := by omega
          go_wp2
          go_roundw
          case rel => exact ⟨kk + 1, _, by go_num, by omega, F2.out, W2.out⟩
          case measure => simp [intOf]; omega
        · obtain rfl : kk = (us gs jj).length := by omega
          have F2 := Lib.hid hF.next
          have W2 := Lib.hid hW
          clear hF hW
          go_wp2
          go_roundw
          case rel => exact ⟨jj + 1, _, by go_num, by omega, F2.out, W2.out⟩
          case measure => simp [intOf]; omega
    · obtain rfl : jj = gs.length := by omega
      have hsz := hW.size
      have M0 := Lib.hid (MW.start (m := gs.length) (gs := gs) hW hF.len (fun i hi => hF.done HS.out hi))
      clear cf hF hW
      have hgs : ∀ q ∈ gs, ∀ x ∈ q, x < g.length := fun q hq x hx => (HS.out.all x).2 ⟨q, hq, hx⟩
      have HGS := Lib.hid hgs
      clear hgs
      go_wp2
      clear hsz hmk hmb
      go_loopw [12, 43] (fun v i wr => ∃ (t : Nat) (D : List Nat) (O : List (List Nat)) (vs : List Value), i = .int .i64 t ∧ t ≤ gs.length ∧ D.length = t ∧ Done g gs D ∧ O ++ toldGo g gs (gs.length - t) D = toldL g gs ∧ O.length = t ∧
        MW w (.slice ua g.length uc) (.slice ga gs.length gc) g.length gs.length gs D wr ∧ OutRow w n₁ wr v O vs) (fun _ i _ => gs.length - (intOf i).toNat)
      case atStart => exact ⟨0, [], [], [], rfl, Nat.zero_le _, rfl, ⟨by simp, by simp, by simp⟩, by simp [toldL], rfl, M0.out, World.ownsRow_nil _ _ _ _, by simp⟩
      case round =>
        clear M0
        obtain ⟨t, D, O, vs, rfl, htl, hDl, hD, htold, hOl, hM, hO⟩ := hrel
        have T := hM.tb
        have c1 := T.u
        have c2 := T.g
        have OH := Lib.hid hO
        have MH := Lib.hid hM
        have DH := Lib.hid hD
        have DL := Lib.hid hDl
        have TH := Lib.hid htold
        have OL := Lib.hid hOl
        have hOt : O.length ≤ t := by omega
        clear hD hDl htold hOl hM hO T
        have y0 : (0 : Int) ≤ (t : Int) := by omega
        by_cases ht : t < gs.length
        · have y1 : (t : Int) < (gs.length : Int) := by omega
          go_wp2
          go_loopw [13, 47] (fun nv i wr => ∃ (k : Nat), i = .int .i64 k ∧ k ≤ g.length ∧ nv = nxtV (nxt g gs D k) ∧
            MW w (.slice ua g.length uc) (.slice ga gs.length gc) g.length gs.length gs D wr ∧ OutRow w n₁ wr u12 O vs) (fun _ i _ => g.length - (intOf i).toNat)
          case atStart => exact ⟨0, rfl, Nat.zero_le _, rfl, MH.out, OH.out⟩
          case round =>
            clear c1 c2 MH OH
            obtain ⟨k, rfl, hkl, hnv, hM, hO⟩ := hrel
            have y2 : (0 : Int) ≤ (k : Int) := by omega
            by_cases hk : k < g.length
            · have y3 : (k : Int) < (g.length : Int) := by omega
              rcases hN : nxt g gs D k with _ | j
              · rw [hN] at hnv
                change u13 = .int .i64 (-1) at hnv
                subst hnv
                have hsu := nxt_succ g gs D k
                rw [hN] at hsu
                have hsu' : nxt g gs D (k + 1) = if ready g gs D (ofL gs k) then some (ofL gs k) else none := hsu
                obtain ⟨q, hq, _⟩ := ofL_spec HS.out hk
                have hol : ofL gs k < gs.length := (List.getElem?_eq_some_iff.1 hq).1
                have T := hM.tb
                have c3 : wr.cell? ⟨w.heap.size + 3, 0, none⟩ = some (.slice (some ⟨w.heap.size + 2, 0, none⟩) g.length g.length) := T.o
                have c4 : wr.cell? ⟨w.heap.size + 2, k, none⟩ = some (.int .i64 (ofL gs k : Nat)) := T.os k hk
                have C := c23_any n₀ n₁ wr _ _ _ _ _ _ (ofL gs k) g gs _ _ (ofL gs) (fun j => D.contains j) T (HR.out.below (hM.bel.mono hn0)) (HG.out.below (hM.bel.mono hn1)) (by have := hM.size; omega) (by have := hM.size; omega) hv hol HGS.out (fun x hx => by
                  obtain ⟨q, hq, _⟩ := ofL_spec HS.out hx
                  exact (List.getElem?_eq_some_iff.1 hq).1) hn (by omega)
                rw [ready_eq] at C
                have CH := Lib.hid C
                have SU := Lib.hid hsu'
                have MH := Lib.hid hM
                have OH := Lib.hid hO
                clear C hsu hsu' T hM hO hN hq
                generalize ofL gs k = x at *
                by_cases hr : ready g gs D x = true
                · have RH := Lib.hid hr
                  clear hr
                  go_wp2_with fail
                  refine CH.out.mono ?_
                  rintro e w' ⟨he, hB⟩
                  rw [RH.out] at he
                  subst he
                  have hM2 := MH.out.below hB
                  have T2 := hM2.tb
                  have c5 : w'.cell? ⟨w.heap.size + 3, 0, none⟩ = some (.slice (some ⟨w.heap.size + 2, 0, none⟩) g.length g.length) := T2.o
                  have c6 : w'.cell? ⟨w.heap.size + 2, k, none⟩ = some (.int .i64 (x : Nat)) := (hB.cell (World.block_lt_of_cell? wr _ c4)).trans c4
                  have M2 := Lib.hid hM2
                  have O2 : Hid (OutRow w n₁ w' u12 O vs) := Lib.hid ⟨own_keep OH.out.own fun b hb => hB.block b (OH.out.own.lt _ hb).2, OH.out.at_⟩
                  clear c3 c4 T2 hM2 hB
                  go_wp2
                  go_roundw
                  case rel => exact ⟨k + 1, by go_num, by omega, by rw [SU.out, RH.out]; rfl, M2.out, O2.out⟩
                  case measure => simp [intOf]; omega
                · have hr' : ready g gs D x = false := by simpa using hr
                  have RH := Lib.hid hr'
                  clear hr hr'
                  go_wp2_with fail
                  refine CH.out.mono ?_
                  rintro e w' ⟨he, hB⟩
                  rw [RH.out] at he
                  subst he
                  have M2 := Lib.hid (MH.out.below hB)
                  have O2 : Hid (OutRow w n₁ w' u12 O vs) := Lib.hid ⟨own_keep OH.out.own fun b hb => hB.block b (OH.out.own.lt _ hb).2, OH.out.at_⟩
                  clear c3 c4 hB
                  go_wp2
                  go_roundw
                  case rel => exact ⟨k + 1, by go_num, by omega, by rw [SU.out, RH.out]; rfl, M2.out, O2.out⟩
                  case measure => simp [intOf]; omega
              · rw [hN] at hnv
                change u13 = .int .i64 (j : Int) at hnv
                subst hnv
                have hsu := nxt_succ g gs D k
                rw [hN] at hsu
                have SU := Lib.hid hsu
                have MH := Lib.hid hM
                have OH := Lib.hid hO
                clear hsu hM hO hN
                have y4 : decide ((j : Int) < 0) = false := by simp
                go_wp2
                go_roundw
                case rel => exact ⟨k + 1, by go_num, by omega, by rw [SU.out]; rfl, MH.out, OH.out⟩
                case measure => simp [intOf]; omega
            · obtain rfl : k = g.length := by omega
              obtain ⟨j, q, hj1, hj2, hj3⟩ := next_some HS.out DH.out (by have := DL.out; omega)
              have hN : nxt g gs D g.length = some j := hj1
              rw [hN] at hnv
              change u13 = .int .i64 (j : Int) at hnv
              subst hnv
              have hjl : j < gs.length := (List.getElem?_eq_some_iff.1 hj2).1
              have hqu : us gs j = q := by
                have := us_of hjl
                rw [hj2] at this; injection this with this; exact this.symm
              have T := hM.tb
              have c3 : wr.cell? ⟨w.heap.size + 5, 0, none⟩ = some (.slice (some ⟨w.heap.size + 4, 0, none⟩) gs.length gs.length) := T.dn
              have c4 : wr.cell? ⟨w.heap.size + 4, j, none⟩ = some (.bool (D.contains j)) := T.ds j hjl
              have f4 := free_row hM.bd j
              have M2 := hM.set j
              have c5 : (wr.setCell ⟨w.heap.size + 4, j, none⟩ (.bool true)).cell? ⟨w.heap.size + 1, 0, none⟩ = some (.slice ga gs.length gc) := M2.tb.g
              obtain ⟨b, off, cap, a, cap', eg, hb, hcell', hrow⟩ := rows_row HG.out hjl
              injection eg with eg1 eg2 eg3
              subst eg1 eg3
              have c6 := (M2.bel.cell (p := ⟨b, off + j, none⟩) (Nat.lt_of_lt_of_le hb hn1)).trans hcell'
              have O1 := own_set hO.own (a := ⟨w.heap.size + 4, j, none⟩) (fun h => by have := (hO.own.lt _ h).1; simp at this) (.bool true)
              have hsz : w.heap.size + 6 ≤ wr.heap.size := hM.size
              have OT := Lib.hid hO.at_
              have O1H := Lib.hid O1
              have O0 := Lib.hid hO.own
              have M2H := Lib.hid M2
              have J2 := Lib.hid hj2
              have J3 := Lib.hid hj3
              have ND := Lib.hid (done_next DH.out hj2 hj3)
              have HRW := Lib.hid hrow
              have QU := Lib.hid hqu
              have TT := Lib.hid (show toldGo g gs (gs.length - t) D = q :: toldGo g gs (gs.length - (t + 1)) (D ++ [j]) by
                rw [show gs.length - t = (gs.length - (t + 1)) + 1 by omega, toldGo, show nextL g gs D = some j from hj1]
                simp only
                rw [getD_of hj2])
              clear T M2 hM hO O1 hcell' hj1 hj2 hj3 hN hrow hqu
              obtain ⟨j0, hj0, hy0, hy1, hy2⟩ := info_parts infoSl
              have y4 : (0 : Int) ≤ (j : Int) := by omega
              have y5 : (j : Int) < (gs.length : Int) := by omega
              go_wp2_with (at_builtin; refine wpList_append_lies _ rfl _ _ _ rfl (w.heap.size + 6) 30 j0 _ 1 24 Try.underlying22 hj0 hy0 hy1 hy2 rfl (by omega) u12 O.length vs rfl (O1H.out.alloc _) ⟨wr.heap.size, 0, none⟩ 1 1 [.slice a (us gs j).length cap'] rfl rfl (World.news_of_block (cs := #[.slice a (us gs j).length cap']) (t := 30) (fr := (0, 0)) (by have := heap_alloc_new (wr.setCell ⟨w.heap.size + 4, j, none⟩ (.bool true)) (.cells #[.slice a (us gs j).length cap'] 30); simpa using this)) (by simp [Value.oneCell']) (by omega) (by unfold maxLen; omega) (by omega) (by simp; omega) (wr.heap.size + 1) (by simp) ?_; intro gg cap3 w7 hown7 hgrow7 hat7 hlt7)
              have M7 : MW w (.slice ua g.length uc) (.slice (some ⟨b, off, none⟩) gs.length gc) g.length gs.length gs (D ++ [j]) w7 := by
                have ge : ∀ bb, u12.ownBlock = some bb → w.heap.size + 6 ≤ bb := fun bb hbb => (O1H.out.lt _ hbb).1
                have hsz2 : w.heap.size + 6 ≤ (wr.setCell ⟨w.heap.size + 4, j, none⟩ (.bool true)).heap.size := M2H.out.size
                refine M2H.out.keep (fun bb hbb => ?_) ?_ ?_
                · rw [hgrow7.block bb (by simp; omega) (fun e => by have := ge bb e.symm; omega)]
                  exact Below.heap_alloc _ _ _ (by omega)
                · exact ((M2H.out.bel.alloc (by omega) _).grown hgrow7 (by simp; omega) (fun bb e => by have := ge bb e; omega))
                · have := hgrow7.size; simp at this; omega
              have O7 : OutRow w n₁ w7 (.slice (some ⟨gg, 0, none⟩) (O.length + 1) cap3) (O ++ [q]) (vs ++ [.slice a (us gs j).length cap']) := by
                refine OutRow.add (wr := wr) (v := u12) ⟨?_, OT.out⟩ ?_ hown7
                · exact O0.out
                · rw [← QU.out]; exact HRW.out
              have M7H := Lib.hid M7
              have O7H := Lib.hid O7
              clear M7 O7 c3 c4 c5 c6 f4 hown7 hgrow7 hat7 hlt7 hsz
              go_wp2
              go_roundw
              case rel => exact ⟨t + 1, D ++ [j], O ++ [q], _, by go_num, by omega, by simp [DL.out], ND.out, by rw [List.append_assoc, ← TH.out, TT.out]; rfl, by simp [OL.out], M7H.out, O7H.out⟩
              case measure => simp [intOf]; omega
        · obtain rfl : t = gs.length := by omega
          have htold : toldL g gs = O := by
            have := TH.out
            rw [Nat.sub_self] at this
            rw [← this]; simp [toldGo]
          have HT := Lib.hid htold
          clear htold
          go_wp2
          go_ret
          refine ⟨_, rfl, ?_, MH.out.bel⟩
          rw [HT.out]
          exact OH.out.rows hn1 MH.out.bel (by omega)

end Go.Proofs.Ytlffdipjddlceaa.Od

/- The walk of order.Groups. -/
import Derived.Test.YtlffdipjddlceaaOrdToldX
namespace Go.Proofs.Ytlffdipjddlceaa.Od
open Go.RowKit Go.Shelf Go.Deep

def Bad (zss : List (List Int)) : Prop := 500 < zss.length ∨ ∃ r ∈ zss, ∃ x ∈ r, x < 0 ∨ (zss.length : Int) ≤ x

def GroupsPost (w : World) (zss : List (List Int)) (e : Ending) (w' : World) : Prop :=
  ∃ (v : Value) (er : Int), e = .returned (.tuple #[v, .int .i64 er]) ∧ Below w.heap.size w w' ∧
    ((Bad zss ∧ v = .slice none 0 0 ∧ er = 1) ∨ ∃ g, zss = rowsOf g ∧ Valid g ∧ g.length ≤ 500 ∧ er = 0 ∧ RowsAt w'.heap.size w' v (rowsOf (toldL g (groupsL g))))

theorem good_rows {zss : List (List Int)} (h : ∀ r ∈ zss, ∀ x ∈ r, 0 ≤ x ∧ x < zss.length) : ∃ g, zss = rowsOf g ∧ Valid g ∧ g.length = zss.length := by
  refine ⟨zss.map fun r => r.map Int.toNat, ?_, ?_, by simp⟩
  · unfold rowsOf
    rw [List.map_map]
    conv => lhs; rw [← List.map_id zss]
    apply List.map_congr_left
    intro r hr
    simp only [Function.comp, intsOf, List.map_map, id]
    conv => lhs; rw [← List.map_id r]
    apply List.map_congr_left
    intro x hx
    have := h r hr x hx
    simp only [Function.comp, id]; omega
  · intro i k hk
    unfold us at hk
    rw [List.getD_eq_getElem?_getD, List.getElem?_map] at hk
    rcases hz : zss[i]? with _ | r
    · rw [hz] at hk; simp at hk
    · rw [hz] at hk
      simp at hk
      obtain ⟨x, hx, rfl⟩ := hk
      have := h r (List.mem_of_getElem? hz) x hx
      simp; omega

theorem Wk.rows {base n : Nat} {uv : Value} {P Bm Bl : Nat} {w : World} {s : St} {ov gv : Value} {vs : List Value} (h : Wk base n uv P Bm Bl w s ov gv vs) (hl : s.grp.length ≤ 500) (hq : ∀ q ∈ s.grp, q.length ≤ 500) : RowsAt w.heap.size w gv (rowsOf s.grp) := by
  have hvl : vs.length = s.grp.length := by have := h.hg.1; simpa using this
  rcases h.hg.2 with ⟨rfl, h0⟩ | ⟨gg, cap, cur, rfl, _, hg, h1, h2, h3, h4⟩
  · have e0 : s.grp = [] := List.eq_nil_of_length_eq_zero h0
    rw [e0]
    exact ⟨none, 0, rfl, by simp [rowsOf], fun h => absurd h (by simp [rowsOf])⟩
  · refine ⟨_, cap, by rw [rowsOf_length], by rw [rowsOf_length]; omega, fun _ => ⟨gg, 0, rfl, lt_of_get hg, fun j hj => ?_⟩⟩
    have hj' : j < s.grp.length := by rw [rowsOf_length] at hj; exact hj
    have hv : vs[j]? = some vs[j] := List.getElem?_eq_getElem (by omega)
    refine ⟨vs[j], ?_, ?_⟩
    · have h5 : (cur.toList.take (s.grp.length * 1))[j]? = some vs[j] := by rw [h4]; exact hv
      rw [List.getElem?_take, if_pos (by omega)] at h5
      simp only [World.cell?, hg, Nat.zero_add]
      simpa using h5
    · have e : (rowsOf s.grp)[j] = intsOf s.grp[j] := by simp [rowsOf]
      rw [e]
      exact ints_of_owns (by have := hq s.grp[j] (List.getElem_mem hj'); omega) (h.gs j _ _ (List.getElem?_eq_getElem hj') hv).own

theorem Inv.qlen {g : List (List Nat)} {gray : List Nat} {now : Nat} {s : St} (h : Inv g gray now s) : ∀ q ∈ s.grp, q.length ≤ g.length := by
  intro q hq
  have h1 := (h.gso q hq).2
  have h2 : q.Nodup := h1.imp fun {a b} hab => by omega
  have := pigeon q (List.range g.length) h2 (fun x hx => List.mem_range.2 (h.lt ((h.part x).2 (.inr ⟨q, hq, hx⟩))))
  simpa using this

/-- the main loop's state -/
structure Main (g : List (List Nat)) (i : Nat) (c : Nat × St) : Prop where
  inv : Inv g [] c.1 c.2
  nw : c.1 + white g c.2 ≤ g.length + 1
  fold : c = (List.range i).foldl (mainStep g) (1, start g.length)

theorem Main.begin (g : List (List Nat)) : Main g 0 (1, start g.length) := ⟨inv_start g, by have := white_le g (start g.length); simp only; omega, rfl⟩

theorem Main.next {g : List (List Nat)} (hv : Valid g) {i : Nat} {c : Nat × St} (h : Main g i c) (hi : i < g.length) (hn : c.2.m i = 0 → (visit g g.length i c.1 c.2).1 + white g (visit g g.length i c.1 c.2).2 ≤ g.length + 1) : Main g (i + 1) (mainStep g c i) := by
  refine ⟨?_, ?_, by rw [List.range_succ, List.foldl_append, ← h.fold]; rfl⟩
  · unfold mainStep
    by_cases hz : c.2.m i = 0
    · rw [if_pos hz]; exact (visit_ok g hv g.length [] i c.1 c.2 h.inv hi hz (by simp) (white_le g _)).2
    · rw [if_neg hz]; exact h.inv
  · unfold mainStep
    by_cases hz : c.2.m i = 0
    · rw [if_pos hz]; exact hn hz
    · rw [if_neg hz]; exact h.nw

theorem Wk.begin {w : World} {uv : Value} {n P Bm Bl base : Nat} (hP : w.heap[P]? = some (.cells #[uv, .slice (some ⟨Bm, 0, none⟩) n n, .slice (some ⟨Bl, 0, none⟩) n n, .slice none 0 0, .slice none 0 0] 35 (0, 0)))
    (hm : w.heap[Bm]? = some (.cells (cellsOf (List.replicate n 0)).toArray 3 (0, 0))) (hl : w.heap[Bl]? = some (.cells (cellsOf (List.replicate n 0)).toArray 3 (0, 0))) (ml : Bm ≠ Bl) (bP : base ≤ P) (bm : base ≤ Bm) (bl : base ≤ Bl) :
    Wk base n uv P Bm Bl w (start n) (.slice none 0 0) (.slice none 0 0) [] :=
  ⟨hP, hm, hl, ml, bP, bm, bl, by simp [start], by simp [start], World.ownsRow_nil _ _ _ _, by simp [Value.ownBlock], by simp [Value.ownBlock], World.ownsRow_nil _ _ _ _, by simp [start]⟩

set_option maxHeartbeats 1600000 in
theorem groups_any (n₀ : Nat) (uv : Value) (zss : List (List Int)) (w : World) (hR : RowsAt n₀ w uv zss) (hn0 : n₀ ≤ w.heap.size) :
    Calls Try.prog 9 #[uv] w (GroupsPost w zss) := by
  obtain ⟨ua, uc, euv, hreach, hrows⟩ := id hR
  by_cases hlong : 500 < zss.length
  · have h1 : decide ((500 : Int) < (zss.length : Int)) = true := by simp; omega
    subst euv
    have HB := Lib.hid hlong
    clear hR hrows hlong
    go_enter Try.func9, Try.ntmps9
    go_wp2
    go_ret2
    exact ⟨_, _, rfl, (Below.refl _ _).alloc (Nat.le_refl _) _, .inl ⟨.inl HB.out, rfl, rfl⟩⟩
  · have h1 : decide ((500 : Int) < (zss.length : Int)) = false := by simp; omega
    subst euv
    have hl5 : zss.length ≤ 500 := by omega
    have HR := Lib.hid hR
    have HC := Lib.hid hrows
    clear hR hrows hlong
    go_enter Try.func9, Try.ntmps9
    go_wp2
    go_loopw [14] (fun i wr => ∃ (k : Nat), i = .int .i64 k ∧ k ≤ zss.length ∧ (∀ r ∈ zss.take k, ∀ x ∈ r, 0 ≤ x ∧ x < (zss.length : Int)) ∧ wr.heap[w.heap.size]? = some (.cells #[.slice ua zss.length uc] 22 (0, 0)) ∧ Below w.heap.size w wr) (fun i _ => zss.length - (intOf i).toNat)
    case atStart => exact ⟨0, rfl, Nat.zero_le _, by simp, heap_alloc_new w _, (Below.refl _ _).alloc (Nat.le_refl _) _⟩
    case round =>
      obtain ⟨k, rfl, hkl, hok, hbox, hB⟩ := hrel
      have cb : wr.cell? ⟨w.heap.size, 0, none⟩ = some (.slice ua zss.length uc) := cell_of_row wr _ 0 _ _ _ hbox
      have z0 : (0 : Int) ≤ (k : Int) := by omega
      have BX := Lib.hid hbox
      have BB := Lib.hid hB
      have OK := Lib.hid hok
      by_cases hk : k < zss.length
      · have z1 : (k : Int) < (zss.length : Int) := by omega
        obtain ⟨b, off, rfl, hb, hcc⟩ := HC.out (by omega)
        obtain ⟨rv, hc1', hrow⟩ := hcc k hk
        have hc1 := (hB.cell (p := ⟨b, off + k, none⟩) (Nat.lt_of_lt_of_le hb hn0)).trans hc1'
        have CF := containsFunc_any n₀ 13 #[.pointer (some ⟨w.heap.size, 0, none⟩)] rv zss[k] (fun x => decide (x < 0) || decide ((zss.length : Int) ≤ x)) wr (hrow.below (hB.mono hn0)) (enters_of Try.func13 (by kernel_rfl) rfl) (by
          intro x _ mm
          exact c13_any (wr.drewN mm) w.heap.size _ zss.length uc x cb)
        obtain ⟨ra, rc, rfl, hrl, _⟩ := hrow
        have CH := Lib.hid CF
        have HM := Lib.hid (List.getElem_mem hk)
        have htake : zss.take (k + 1) = zss.take k ++ [zss[k]] := by rw [List.take_add_one, List.getElem?_eq_getElem hk]; rfl
        have TK := Lib.hid htake
        clear CF hcc hc1' htake hbox hB hok
        generalize zss[k] = r at *
        by_cases hany : (r.any fun x => decide (x < 0) || decide ((zss.length : Int) ≤ x)) = true
        · have AH := Lib.hid hany
          clear hany
          go_wp2_with fail
          refine CH.out.mono ?_
          rintro e w' ⟨he, nn, rfl⟩
          rw [AH.out] at he
          subst he
          go_wp2
          go_ret2
          refine ⟨_, _, rfl, BB.out.trans (Below.drewN_ nn), .inl ⟨.inr ⟨r, HM.out, ?_⟩, rfl, rfl⟩⟩
          obtain ⟨x, hx, h⟩ := List.any_eq_true.1 AH.out
          exact ⟨x, hx, by simpa using h⟩
        · have hany' : (r.any fun x => decide (x < 0) || decide ((zss.length : Int) ≤ x)) = false := by simpa using hany
          have AH := Lib.hid hany'
          clear hany hany'
          go_wp2_with fail
          refine CH.out.mono ?_
          rintro e w' ⟨he, nn, rfl⟩
          rw [AH.out] at he
          subst he
          go_wp2
          go_roundw
          case rel =>
            refine ⟨k + 1, by go_num, by omega, ?_, BX.out, BB.out.trans (Below.drewN_ nn)⟩
            intro r' hr' x hx
            rw [TK.out] at hr'
            rcases List.mem_append.1 hr' with hr' | hr'
            · exact OK.out r' hr' x hx
            · rw [List.mem_singleton.1 hr'] at hx
              have := List.any_eq_false.1 AH.out x hx
              simp at this
              omega
          case measure => simp [intOf]; omega
      · obtain rfl : k = zss.length := by omega
        obtain ⟨wo, hwo⟩ : ∃ wo : World, wo = wr := ⟨_, rfl⟩
        subst hwo
        obtain ⟨g, hg1, hg2, hg3⟩ := good_rows (zss := zss) (by have := hok; rwa [List.take_length] at this)
        have hsz : w.heap.size < wo.heap.size := lt_of_get hbox
        have hR1 := Lib.hid (HR.out.below (hB.mono hn0))
        have GE := Lib.hid hg1
        clear hg1 hbox hB hok HC
        generalize hlz : zss.length = n at *
        subst hg3
        have hmk := run_make_row' (P := Try.prog) 30 3 (.int .i64 0) 8 Try.underlying30 infoInt rfl .i64 .i64 g.length (by omega) (by omega)
        rw [made_ints] at hmk
        clear hlz
        go_wp2
        go_region
        all_goals
          first
            | (refine (show Exit.then _ _ _ _ ((((wo.alloc (.cells (cellsOf (List.replicate g.length 0)).toArray 3)).alloc (.cells (cellsOf (List.replicate g.length 0)).toArray 3)).alloc (.cells #[.slice ua g.length uc, .slice (some ⟨wo.heap.size, 0, none⟩) g.length g.length, .slice (some ⟨wo.heap.size + 1, 0, none⟩) g.length g.length, .slice none 0 0, .slice none 0 0] 35)).drew) from ?_); have W0 := Wk.begin (w := (((wo.alloc (.cells (cellsOf (List.replicate g.length 0)).toArray 3)).alloc (.cells (cellsOf (List.replicate g.length 0)).toArray 3)).alloc (.cells #[.slice ua g.length uc, .slice (some ⟨wo.heap.size, 0, none⟩) g.length g.length, .slice (some ⟨wo.heap.size + 1, 0, none⟩) g.length g.length, .slice none 0 0, .slice none 0 0] 35)).drew) (uv := .slice ua g.length uc) (base := w.heap.size + 1) (P := wo.heap.size + 1 + 1) (Bm := wo.heap.size) (Bl := wo.heap.size + 1) (n := g.length) (alloc_new (by simp)) (alloc_old (alloc_old (alloc_new rfl))) (alloc_old (alloc_new (by simp))) (by omega) (by omega) (by omega) (by omega); have B0 : Below (w.heap.size + 1) wo ((((wo.alloc (.cells (cellsOf (List.replicate g.length 0)).toArray 3)).alloc (.cells (cellsOf (List.replicate g.length 0)).toArray 3)).alloc (.cells #[.slice ua g.length uc, .slice (some ⟨wo.heap.size, 0, none⟩) g.length g.length, .slice (some ⟨wo.heap.size + 1, 0, none⟩) g.length g.length, .slice none 0 0, .slice none 0 0] 35)).drew) := (((((Below.refl (w.heap.size + 1) wo).alloc (by omega) _).alloc (by simp; omega) _).alloc (by simp; omega) _)).drew; generalize (((wo.alloc (.cells (cellsOf (List.replicate g.length 0)).toArray 3)).alloc (.cells (cellsOf (List.replicate g.length 0)).toArray 3)).alloc (.cells #[.slice ua g.length uc, .slice (some ⟨wo.heap.size, 0, none⟩) g.length g.length, .slice (some ⟨wo.heap.size + 1, 0, none⟩) g.length g.length, .slice none 0 0, .slice none 0 0] 35)).drew = w2 at W0 B0 ⊢)
            | (refine (show Exit.then _ _ _ _ ((((wo.alloc (.cells (cellsOf (List.replicate g.length 0)).toArray 3)).alloc (.cells (cellsOf (List.replicate g.length 0)).toArray 3)).alloc (.cells #[.slice ua g.length uc, .slice (some ⟨wo.heap.size + 1, 0, none⟩) g.length g.length, .slice (some ⟨wo.heap.size, 0, none⟩) g.length g.length, .slice none 0 0, .slice none 0 0] 35)).drew) from ?_); have W0 := Wk.begin (w := (((wo.alloc (.cells (cellsOf (List.replicate g.length 0)).toArray 3)).alloc (.cells (cellsOf (List.replicate g.length 0)).toArray 3)).alloc (.cells #[.slice ua g.length uc, .slice (some ⟨wo.heap.size + 1, 0, none⟩) g.length g.length, .slice (some ⟨wo.heap.size, 0, none⟩) g.length g.length, .slice none 0 0, .slice none 0 0] 35)).drew) (uv := .slice ua g.length uc) (base := w.heap.size + 1) (P := wo.heap.size + 1 + 1) (Bm := wo.heap.size + 1) (Bl := wo.heap.size) (n := g.length) (alloc_new (by simp)) (alloc_old (alloc_new (by simp))) (alloc_old (alloc_old (alloc_new rfl))) (by omega) (by omega) (by omega) (by omega); have B0 : Below (w.heap.size + 1) wo ((((wo.alloc (.cells (cellsOf (List.replicate g.length 0)).toArray 3)).alloc (.cells (cellsOf (List.replicate g.length 0)).toArray 3)).alloc (.cells #[.slice ua g.length uc, .slice (some ⟨wo.heap.size + 1, 0, none⟩) g.length g.length, .slice (some ⟨wo.heap.size, 0, none⟩) g.length g.length, .slice none 0 0, .slice none 0 0] 35)).drew) := (((((Below.refl (w.heap.size + 1) wo).alloc (by omega) _).alloc (by simp; omega) _).alloc (by simp; omega) _)).drew; generalize (((wo.alloc (.cells (cellsOf (List.replicate g.length 0)).toArray 3)).alloc (.cells (cellsOf (List.replicate g.length 0)).toArray 3)).alloc (.cells #[.slice ua g.length uc, .slice (some ⟨wo.heap.size + 1, 0, none⟩) g.length g.length, .slice (some ⟨wo.heap.size, 0, none⟩) g.length g.length, .slice none 0 0, .slice none 0 0] 35)).drew = w2 at W0 B0 ⊢)
          obtain ⟨Bm, Bl, W0⟩ : ∃ Bm Bl, Wk (w.heap.size + 1) g.length (.slice ua g.length uc) (wo.heap.size + 1 + 1) Bm Bl w2 (start g.length) (.slice none 0 0) (.slice none 0 0) [] := ⟨_, _, W0⟩
          have W0H := Lib.hid W0
          have B0H := Lib.hid B0
          have cb2 : w2.cell? ⟨w.heap.size, 0, none⟩ = some (.slice ua g.length uc) := (B0.cell (p := ⟨w.heap.size, 0, none⟩) (by simp)).trans cb
          obtain ⟨P, hP⟩ : ∃ P, P = wo.heap.size + 1 + 1 := ⟨_, rfl⟩
          rw [← hP]
          rw [← hP] at W0H
          have CB := Lib.hid cb
          clear W0 B0 hP cb
          go_wp2
          clear cb2
          go_loopw [7, 33] (fun nv i wr2 => ∃ (k : Nat) (c : Nat × St) (ov gv : Value) (vs : List Value), i = .int .i64 k ∧ k ≤ g.length ∧ nv = .int .i64 (c.1 : Nat) ∧ Main g k c ∧ Wk (w.heap.size + 1) g.length (.slice ua g.length uc) P Bm Bl wr2 c.2 ov gv vs ∧ Below (w.heap.size + 1) wo wr2) (fun _ i _ => g.length - (intOf i).toNat)
          case atStart => exact ⟨0, (1, start g.length), _, _, _, rfl, Nat.zero_le _, rfl, Main.begin g, W0H.out, B0H.out⟩
          case round =>
            clear W0H B0H
            obtain ⟨k, c, ov, gv, vs, rfl, hkl, rfl, hM, hW, hB⟩ := hrel
            have y0 : (0 : Int) ≤ (k : Int) := by omega
            have MH := Lib.hid hM
            have WH := Lib.hid hW
            have BH := Lib.hid hB
            have cP1 := hW.c1
            by_cases hk : k < g.length
            · have y1 : (k : Int) < (g.length : Int) := by omega
              have cm : wr.cell? ⟨Bm, k, none⟩ = some (.int .i64 ((c.2.m k : Nat) : Int)) := row_cell hW.hm (by rw [hW.lm]; exact hk)
              have NX := Lib.hid (fun h => hM.next hg2 hk h)
              have hinv := hM.inv
              have hnw := hM.nw
              clear hM hW hB
              by_cases hz : c.2.m k = 0
              · have t1 : (((c.2.m k : Nat) : Int) == 0) = true := by rw [hz]; rfl
                have HZ := Lib.hid hz
                have SW : mainStep g c k = visit g g.length k c.1 c.2 := by unfold mainStep; rw [if_pos hz]
                have SWH := Lib.hid SW
                have HI := Lib.hid hinv
                clear hz SW hinv
                go_wp2_with fail
                refine (visit_any n₀ (w.heap.size + 1) (.slice ua g.length uc) g P Bm Bl hg2 hl5 (by omega) g.length [] k c.1 c.2 _ ov gv vs HI.out hk HZ.out (by simp) (white_le g _) hnw WH.out (by
                  have := hR1.out.below (BH.out.mono (by omega))
                  rwa [GE.out] at this)).mono ?_
                rintro e w4 ⟨rfl, nw4, ov4, gv4, vs4, W4, B4⟩
                have M4 := NX.out (fun _ => nw4)
                rw [SWH.out] at M4
                have M4H := Lib.hid M4
                have W4H := Lib.hid W4
                have B4H := Lib.hid (BH.out.trans B4)
                clear M4 W4 B4 cP1 cm nw4
                generalize visit g g.length k c.1 c.2 = r at *
                go_wp2
                go_roundw
                case rel => exact ⟨k + 1, r, ov4, gv4, vs4, by go_num, by omega, rfl, M4H.out, W4H.out, B4H.out⟩
                case measure => simp [intOf]; omega
              · have t1 : (((c.2.m k : Nat) : Int) == 0) = false := by rw [beq_eq_false_iff_ne]; omega
                have HZ := Lib.hid hz
                have SW : mainStep g c k = c := by unfold mainStep; rw [if_neg hz]
                have M4 := NX.out (fun h => absurd h hz)
                rw [SW] at M4
                have M4H := Lib.hid M4
                clear hz SW M4
                go_wp2
                go_roundw
                case rel => exact ⟨k + 1, c, ov, gv, vs, by go_num, by omega, rfl, M4H.out, WH.out, BH.out⟩
                case measure => simp [intOf]; omega
            · obtain rfl : k = g.length := by omega
              have hinv := hM.inv
              have glen := hinv.glen
              have hgr : c.2.grp = groupsL g := by unfold groupsL; rw [← hM.fold]
              have hro := hW.rows (by omega) (fun q hq => by have := hinv.qlen q hq; omega)
              rw [hgr] at hro
              have lP := hW.lt.1
              have cP4 := hW.c4
              have cb3 : wr.cell? ⟨w.heap.size, 0, none⟩ = some (.slice ua g.length uc) := (hB.cell (p := ⟨w.heap.size, 0, none⟩) (by simp)).trans CB.out
              have hR4 := hR1.out.below (hB.mono (by omega))
              rw [GE.out] at hR4
              have hsz4 := hB.size
              have CT := Lib.hid (told_any n₀ wr.heap.size (.slice ua g.length uc) gv g (groupsL g) wr.drew (groups_ok g hg2) hg2 hl5 (hR4.drew 1) (hro.drew 1) (by simp; omega) (by simp))
              clear hinv hro hR4 hM hW hB
              go_wp2
              go_region_held3 (fun w' => w'.cell? ⟨P, 4, none⟩ = some gv ∧ w'.cell? ⟨w.heap.size, 0, none⟩ = some (.slice ua g.length uc)) (first | go_keep | exact ⟨k4, k0⟩) ((go_at_call 15; refine CT.out.mono ?_; rintro e w5 ⟨v, rfl, hv5, hB5⟩; have k4 := (hB5.cell (p := ⟨P, 4, none⟩) (by simpa using lP)).trans cP4; have k0 := (hB5.cell (p := ⟨w.heap.size, 0, none⟩) (by simp; omega)).trans cb3))
              go_wp2
              go_ret2
              exact ⟨_, _, rfl, ((BB.out.trans (BH.out.mono (by omega))).drew).trans (hB5.mono (show w.heap.size ≤ wr.drew.heap.size by simp; omega)), .inr ⟨g, GE.out, hg2, hl5, rfl, hv5⟩⟩

end Go.Proofs.Ytlffdipjddlceaa.Od

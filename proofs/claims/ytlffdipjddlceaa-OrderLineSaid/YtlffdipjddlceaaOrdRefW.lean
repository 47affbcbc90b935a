/- The walk of the document's Groups. -/
import Derived.Test.YtlffdipjddlceaaOrdRefP
namespace Go.Proofs.Ytlffdipjddlceaa.Od
open Go.RowKit

/-- a row's numbers are of things -/
def Fine (n : Nat) (r : List Int) : Prop := ∀ x ∈ r, 0 ≤ x ∧ x < (n : Int)

theorem Fine.succ {n : Nat} {r : List Int} {k : Nat} (h : Fine n (r.take k)) (hk : k < r.length) (h0 : 0 ≤ r[k]) (h1 : r[k] < (n : Int)) : Fine n (r.take (k + 1)) := by
  intro x hx
  rw [List.take_add_one, List.getElem?_eq_getElem hk] at hx
  rcases List.mem_append.1 hx with hx | hx
  · exact h x hx
  · simp at hx; subst hx; exact ⟨h0, h1⟩

theorem fine_all {n : Nat} {zss : List (List Int)} {k : Nat} (h : ∀ r ∈ zss.take k, Fine n r) (hk : k < zss.length) (hr : Fine n zss[k]) : ∀ r ∈ zss.take (k + 1), Fine n r := by
  intro r hx
  rw [List.take_add_one, List.getElem?_eq_getElem hk] at hx
  rcases List.mem_append.1 hx with hx | hx
  · exact h r hx
  · simp at hx; subst hx; exact hr

theorem ints_cell {n₀ : Nat} {w : World} {a : Option Addr} {len cap : Nat} {zs : List Int} (h : IntsAt n₀ w (.slice a len cap) zs) {j : Nat} (hj : j < zs.length) : ∃ b off, a = some ⟨b, off, none⟩ ∧ b < n₀ ∧ w.cell? ⟨b, off + j, none⟩ = some (.int .i64 zs[j]) := by
  obtain ⟨a', cap', he, hl, hc⟩ := h
  injection he with e1 e2 e3
  subst e1
  obtain ⟨b, off, rfl, hb, hcc⟩ := hc (by omega)
  exact ⟨b, off, rfl, hb, hcc j hj⟩

theorem has_row (n₀ : Nat) (v : Value) (l : List Nat) (k : Nat) (w : World) (h : IntsAt n₀ w v (intsOf l)) :
    Calls Try.prog 17 #[v, .int .i64 (k : Int)] w fun e w' => e = .returned (.bool (l.contains k)) ∧ w = w' := by
  have := has_any n₀ v (intsOf l) k w h
  rw [ints_contains] at this
  rw [List.contains_eq_mem]
  exact this

theorem own_slice {w : World} {base : Nat} {e : TypeId} {v : Value} {n : Nat} {xs : List Value} (h : w.ownsRow base e 1 v n xs) (hn : 0 < n) : ∃ g cap, v = .slice (some ⟨g, 0, none⟩) n cap := by
  rcases h.2 with ⟨_, h0⟩ | ⟨g, cap, cur, rfl, _⟩
  · omega
  · exact ⟨g, cap, rfl⟩

theorem own_form {w : World} {base : Nat} {e : TypeId} {v : Value} {n : Nat} {xs : List Value} (h : w.ownsRow base e 1 v n xs) : ∃ a cap, v = .slice a n cap := by
  rcases h.2 with ⟨rfl, rfl⟩ | ⟨g, cap, cur, rfl, _⟩
  · exact ⟨_, _, rfl⟩
  · exact ⟨_, _, rfl⟩

theorem told_len {g gs : List (List Nat)} (hS : Sccs g gs) (q : List Nat) (h : q ∈ toldL g gs) (hn : g.length ≤ 500) : q.length ≤ 500 := by
  have hm : ∀ (f : Nat) (D : List Nat), ∀ q ∈ toldGo g gs f D, q ∈ gs ∨ q = [] := by
    intro f
    induction f with
    | zero => intro D q hq; cases hq
    | succ f ih =>
      intro D q hq
      unfold toldGo at hq
      split at hq
      · cases hq
      · next j hj =>
        rcases List.mem_cons.1 hq with rfl | hq
        · rw [List.getD_eq_getElem?_getD]
          rcases hx : gs[j]? with _ | r
          · right; rfl
          · left; exact List.mem_of_getElem? hx
        · exact ih _ q hq
  rcases hm _ _ q h with h | rfl
  · have h1 := (hS.gso q h).2
    have h2 : q.Nodup := h1.imp fun {a b} hab => by omega
    have := pigeon q (List.range g.length) h2 (fun x hx => List.mem_range.2 ((hS.all x).2 ⟨q, h, hx⟩))
    simp at this; omega
  · simp

set_option maxHeartbeats 3200000 in
set_option maxRecDepth 100000 in
theorem ref_any (n₀ : Nat) (uv : Value) (zss : List (List Int)) (w : World) (hR : RowsAt n₀ w uv zss) (hn0 : n₀ ≤ w.heap.size) :
    Calls Try.prog 10 #[uv] w (GroupsPost w zss) := by
  obtain ⟨ua, uc, euv, hreach, hrows⟩ := id hR
  subst euv
  by_cases hlong : 500 < zss.length
  · have h1 : decide ((500 : Int) < (zss.length : Int)) = true := by simp; omega
    have HB := Lib.hid hlong
    clear hR hrows hlong
    go_enter Try.func10, Try.ntmps10
    go_wp2
    go_ret2
    exact ⟨_, _, rfl, Below.refl _ _, .inl ⟨.inl HB.out, rfl, rfl⟩⟩
  · have h1 : decide ((500 : Int) < (zss.length : Int)) = false := by simp; omega
    have hl5 : zss.length ≤ 500 := by omega
    have HR := Lib.hid hR
    have HC := Lib.hid hrows
    clear hR hrows hlong
    go_enter Try.func10, Try.ntmps10
    go_wp2
    go_loop [5, 6] (fun i _ => ∃ (k : Nat), i = .int .i64 k ∧ k ≤ zss.length ∧ ∀ r ∈ zss.take k, Fine zss.length r) (fun i _ => zss.length - (intOf i).toNat)
    case atStart => exact ⟨0, rfl, Nat.zero_le _, by simp⟩
    case round =>
      obtain ⟨k, rfl, hkl, hok⟩ := hrel
      have z0 : (0 : Int) ≤ (k : Int) := by omega
      by_cases hk : k < zss.length
      · have z1 : (k : Int) < (zss.length : Int) := by omega
        obtain ⟨b, off, rfl, hb, hcc⟩ := HC.out (by omega)
        obtain ⟨rv, hc1, hrow⟩ := hcc k hk
        have FA := Lib.hid (fun h => fine_all hok hk h)
        have MM := Lib.hid (List.getElem_mem hk)
        generalize zss[k] = r at *
        obtain ⟨ra, rc, rfl, hrl, hrr⟩ := id hrow
        have HRW := Lib.hid hrow
        clear hcc hok hrow hrr
        go_wp2
        go_loop [6] (fun i => ∃ (j : Nat), i = .int .i64 j ∧ j ≤ r.length ∧ Fine zss.length (r.take j)) (fun i => r.length - (intOf i).toNat)
        case atStart => exact ⟨0, rfl, Nat.zero_le _, by simp [Fine]⟩
        case round =>
          obtain ⟨j, rfl, hjl, hf⟩ := hrel
          have y0 : (0 : Int) ≤ (j : Int) := by omega
          by_cases hj : j < r.length
          · have y1 : (j : Int) < (r.length : Int) := by omega
            obtain ⟨b3, off3, rfl, hb3, hc3⟩ := ints_cell HRW.out hj
            have XM := Lib.hid (List.getElem_mem hj)
            have FS := Lib.hid (fun h0 h1 => hf.succ hj h0 h1)
            clear hf
            generalize r[j] = x at *
            by_cases hx0 : x < 0
            · go_wp2
              go_ret2
              exact ⟨_, _, rfl, Below.refl _ _, .inl ⟨.inr ⟨r, MM.out, x, XM.out, .inl hx0⟩, rfl, rfl⟩⟩
            · by_cases hx1 : (zss.length : Int) ≤ x
              · go_wp2
                go_ret2
                exact ⟨_, _, rfl, Below.refl _ _, .inl ⟨.inr ⟨r, MM.out, x, XM.out, .inr hx1⟩, rfl, rfl⟩⟩
              · have F2 := Lib.hid (FS.out (by omega) (by omega))
                go_wp2
                go_round
                case rel => exact ⟨j + 1, by go_num, by omega, F2.out⟩
                case measure => simp [intOf]; omega
          · obtain rfl : j = r.length := by omega
            have hf' : Fine zss.length r := by rwa [List.take_length] at hf
            have F2 := Lib.hid (FA.out hf')
            clear hf hf'
            go_wp2
            go_round
            case rel => exact ⟨k + 1, by go_num, by omega, F2.out⟩
            case measure => simp [intOf]; omega
      · obtain rfl : k = zss.length := by omega
        obtain ⟨g, hg1, hg2, hg3⟩ := good_rows (zss := zss) (by have := hok; rwa [List.take_length] at this)
        have GE := Lib.hid hg1
        clear hg1 hok HC
        generalize hlz : zss.length = n at *
        subst hg3
        clear hlz
        obtain ⟨i0, hi0, hz0, hz1, hz2⟩ := info_parts infoInt
        obtain ⟨j0, hj0, hy0, hy1, hy2⟩ := info_parts infoSl
        go_wp2
        go_loopw [7, 8] (fun v i wr => ∃ (k : Nat) (Ls : List (List Nat)) (vs : List Value), i = .int .i64 k ∧ k ≤ g.length ∧ Ls.length = k ∧ Rows2 w.heap.size wr v Ls vs ∧ (∀ x, x < k → ComeSt g x (us Ls x).length (us Ls x)) ∧ Below w.heap.size w wr) (fun _ i _ => g.length - (intOf i).toNat)
        case atStart => exact ⟨0, [], [], rfl, Nat.zero_le _, rfl, Rows2.nil _ _, by simp, Below.refl _ _⟩
        case round =>
          obtain ⟨k, Ls, vs, rfl, hkl, hLl, hRo, hCo, hB⟩ := hrel
          have z0 : (0 : Int) ≤ (k : Int) := by omega
          by_cases hk : k < g.length
          · have z1 : (k : Int) < (g.length : Int) := by omega
            have hR1 := HR.out.below (hB.mono hn0)
            rw [GE.out] at hR1
            have CC := Lib.hid (comes_any n₀ _ g k wr hR1 (by have := hB.size; omega) hg2 hk hl5)
            have hLle : Ls.length ≤ k := by omega
            have LL := Lib.hid hLl
            have RO := Lib.hid hRo
            have CO := Lib.hid hCo
            have BB := Lib.hid hB
            have hsz := hB.size
            clear hR1 hLl hRo hCo hB
            go_wp2_with fail
            refine CC.out.mono ?_
            rintro e w4 ⟨v4, L, rfl, hO, hS⟩
            obtain ⟨gb, cp, rfl⟩ := own_slice hO.1 (List.length_pos_of_mem hS.me)
            have R4 := Lib.hid (RO.out.keep (fun b hb => hO.2.block b hb))
            have L4 := Lib.hid (own_base hO.1 hsz)
            have B4 := Lib.hid (BB.out.trans (hO.2.mono hsz))
            have S4 := Lib.hid hS
            have hsz4 := hO.2.size
            clear hO hS
            go_wp2_with (at_builtin; refine wpList_append_lies _ rfl _ _ _ rfl w.heap.size 30 j0 _ 1 24 Try.underlying22 hj0 hy0 hy1 hy2 rfl (by omega) u7 Ls.length vs rfl (R4.out.own.alloc _) ⟨w4.heap.size, 0, none⟩ 1 1 [.slice (some ⟨gb, 0, none⟩) L.length cp] rfl rfl (World.news_of_block (cs := #[.slice (some ⟨gb, 0, none⟩) L.length cp]) (t := 30) (fr := (0, 0)) (heap_alloc_new _ _)) (by simp [Value.oneCell']) (by omega) (by unfold maxLen; omega) (by omega) (by simp; omega) (w4.heap.size + 1) (by simp) ?_; intro gg cap w7 hown7 hgrow7 hat7 hlt7)
            have R7 := Lib.hid ((R4.out.keep (w' := w4.alloc (.cells #[.slice (some ⟨gb, 0, none⟩) L.length cp] 30)) (fun b hb => Below.heap_alloc _ _ _ hb)).add (L4.out.alloc _) hgrow7 hown7)
            have B7 := Lib.hid ((B4.out.alloc (by omega) _).grown hgrow7 (by simp; omega) (fun b hb => (R4.out.own.lt _ hb).1))
            clear hown7 hgrow7 hat7 hlt7
            go_wp2
            go_roundw
            case rel =>
              refine ⟨k + 1, Ls ++ [L], _, by go_num, by omega, by simp [LL.out], R7.out, ?_, B7.out⟩
              intro x hx
              unfold us
              rw [List.getD_eq_getElem?_getD]
              by_cases e : x = k
              · subst e
                rw [List.getElem?_append_right (by have := LL.out; omega), LL.out, Nat.sub_self]
                exact S4.out
              · have hlt : x < k := by omega
                rw [List.getElem?_append_left (by have := LL.out; omega), ← List.getD_eq_getElem?_getD]
                exact CO.out x hlt
            case measure => simp [intOf]; omega
          · obtain rfl : k = g.length := by omega
            have hrw := hRo.rows (by omega) (fun q hq => by
              obtain ⟨x, hx⟩ := List.mem_iff_getElem?.1 hq
              have hxl := (List.getElem?_eq_some_iff.1 hx).1
              have := (hCo x (by omega)).len
              rw [us_of (by omega)] at hx
              injection hx with hx
              rw [← hx]; omega)
            obtain ⟨wo, hwo⟩ : ∃ wo : World, wo = wr := ⟨_, rfl⟩
            subst hwo
            have hRL := RL_ok hCo
            have hS := groups_ok g hg2
            generalize hgs : groupsL g = gs at *
            obtain ⟨aa, ac, eav, _⟩ := id hrw
            rw [rowsOf_length, hLl] at eav
            subst eav
            have HLL := Lib.hid hLl
            have HGS := Lib.hid hgs
            have RW := Lib.hid hrw
            have BO := Lib.hid hB
            have HRL := Lib.hid hRL
            have HS := Lib.hid hS
            clear hLl hgs hrw hB hRL hS hRo hCo
            generalize hRR : RL Ls = R at *
            have HRR := Lib.hid hRR
            clear hRR
            go_wp2
            go_loopg [9, 10] g.length (fun gk tv ov wr => ∃ (D : List Nat) (T : List Nat) (O : List (List Nat)) (vs : List Value), gk = g.length - T.length ∧ RefSt g gs [] D T O ∧ TO wo.heap.size wr tv ov T O vs ∧ Below wo.heap.size wo wr)
            case atStart => exact ⟨[], [], [], [], by simp, RefSt.start g gs, ⟨World.ownsRow_nil _ _ _ _, Rows2.nil _ _, by simp⟩, Below.refl _ _⟩
            case round =>
              obtain ⟨D, T, O, vs, rfl, hSt, hTO, hB⟩ := hrel
              obtain ⟨ta, tc, rfl⟩ := own_form hTO.t
              have htl := hSt.tl
              have hOl := hSt.ol
              have hDl := hSt.le
              have hgl := HS.out.len
              have hOle : O.length ≤ 500 := by omega
              clear hOl hDl hgl
              by_cases hlt : T.length < g.length
              · have ST := Lib.hid hSt
                have TT := Lib.hid hTO
                have BT := Lib.hid hB
                clear hSt hTO hB
                go_wp2
                go_loopw [9, 10, 11] (fun tv2 ov2 i wr => ∃ (k : Nat), i = .int .i64 k ∧ k ≤ g.length ∧ tv2 = .slice ta T.length tc ∧ ov2 = u10 ∧ NoneYet R g.length T k ∧ TO wo.heap.size wr (.slice ta T.length tc) u10 T O vs ∧ Below wo.heap.size wo wr) (fun _ _ i _ => g.length - (intOf i).toNat)
                case atStart => exact ⟨0, rfl, Nat.zero_le _, rfl, rfl, fun j hj => by omega, TT.out, BT.out⟩
                case round =>
                  clear TT BT
                  obtain ⟨i, rfl, hil, rfl, rfl, hN, hTO, hB⟩ := hrel
                  have z0 : (0 : Int) ≤ (i : Int) := by omega
                  by_cases hi : i < g.length
                  · have z1 : (i : Int) < (g.length : Int) := by omega
                    have hsz := hB.size
                    have CT := Lib.hid (has_row wr.heap.size _ T i wr (ints_of_owns (by omega) hTO.t))
                    have NY := Lib.hid hN
                    have TT := Lib.hid hTO
                    have BT := Lib.hid hB
                    clear hN hTO hB
                    by_cases hin : T.contains i = true
                    · have HI := Lib.hid hin
                      clear hin
                      go_wp2_with fail
                      refine CT.out.mono ?_
                      rintro e w' ⟨he, rfl⟩
                      rw [HI.out] at he
                      subst he
                      go_wp2
                      go_roundw
                      case rel => exact ⟨i + 1, by go_num, by omega, rfl, rfl, NY.out.succ (readyR_told _ _ _ _ HI.out), TT.out, BT.out⟩
                      case measure => simp [intOf]; omega
                    · have hin' : T.contains i = false := by simpa using hin
                      have HI := Lib.hid hin'
                      clear hin hin'
                      go_wp2_with fail
                      refine CT.out.mono ?_
                      rintro e w' ⟨he, rfl⟩
                      rw [HI.out] at he
                      subst he
                      go_wp2
                      obtain ⟨w2, hw2⟩ : ∃ w2 : World, w2 = wr := ⟨_, rfl⟩
                      subst hw2
                      go_loopw [13, 14, 15] (fun rv gv c wr => ∃ (k : Nat), c = .int .i64 k ∧ k ≤ g.length ∧ rv = .bool (readyK R T i k) ∧ wr.ownsRow w2.heap.size 3 1 gv (groupK R i k).length (cellsOf (groupK R i k)) ∧ Below w2.heap.size w2 wr) (fun _ _ c _ => g.length - (intOf c).toNat)
                      case atStart => exact ⟨0, rfl, Nat.zero_le _, rfl, World.ownsRow_nil _ _ _ _, Below.refl _ _⟩
                      case round =>
                        obtain ⟨k, rfl, hkl, rfl, hg, hB2⟩ := hrel
                        have y0 : (0 : Int) ≤ (k : Int) := by omega
                        by_cases hk : k < g.length
                        · have y1 : (k : Int) < (g.length : Int) := by omega
                          have RWW := RW.out.below (BT.out.trans (hB2.mono hsz))
                          obtain ⟨b1, o1, c1, a1, p1, e1, _, hc1, hr1⟩ := rows_row RWW (i := i) (by have := HLL.out; omega)
                          obtain ⟨b2, o2, c2, a2, p2, e2, _, hc2, hr2⟩ := rows_row RWW (i := k) (by have := HLL.out; omega)
                          have hll := HLL.out
                          injection e1 with e1 e1l e1c
                          subst e1 e1c
                          injection e2 with e2 e2l e2c
                          injection e2 with e2
                          injection e2 with e2 e2o
                          subst e2 e2o
                          clear hll e1l e2l e2c RWW
                          have hTb := TT.out.keep (w' := wr) (fun b hb => hB2.block b hb)
                          have E1 : us Ls i = us Ls i := rfl
                          have C1 := has_row _ _ _ k wr hr1
                          have C2 := has_row _ _ _ i wr hr2
                          have C3 := has_row wr.heap.size _ T k wr (ints_of_owns (by omega) hTb.t)
                          have eR1 : (us Ls i).contains k = R i k := by rw [← HRR.out]; rfl
                          have eR2 : (us Ls k).contains i = R k i := by rw [← HRR.out]; rfl
                          rw [eR1] at C1
                          rw [eR2] at C2
                          have rs := readyK_succ R T i k
                          have gsu := groupK_succ R i k
                          have gkl := groupK_len R i k
                          generalize hx1 : R i k = x1 at *
                          generalize hx2 : R k i = x2 at *
                          generalize hx3 : T.contains k = x3 at *
                          have H1 := Lib.hid C1
                          have H2 := Lib.hid C2
                          have H3 := Lib.hid C3
                          have RS := Lib.hid rs
                          have GS := Lib.hid gsu
                          have GG := Lib.hid hg
                          have B2 := Lib.hid hB2
                          have hsz2 := hB2.size
                          clear C1 C2 C3 eR1 eR2 rs gsu hg hB2 hTb E1 hr1 hr2 hx1 hx2 hx3
                          cases x1 <;> cases x2 <;> cases x3
                          all_goals
                            go_wp2_with fail
                            refine H1.out.mono ?_
                            rintro e w' ⟨rfl, rfl⟩
                            go_wp2_with fail
                            refine H2.out.mono ?_
                            rintro e w' ⟨rfl, rfl⟩
                            go_wp2_with fail
                            refine H3.out.mono ?_
                            rintro e w' ⟨rfl, rfl⟩
                            first
                            | (have hrd : readyK R T i (k + 1) = readyK R T i k := by rw [RS.out]; simp
                               have hgr : groupK R i (k + 1) = groupK R i k := by rw [GS.out]; simp
                               have HRD := Lib.hid hrd
                               have HGR := Lib.hid hgr
                               clear hrd hgr
                               go_wp2
                               go_roundw
                               case rel => exact ⟨k + 1, by go_num, by omega, by rw [HRD.out], by rw [HGR.out]; exact GG.out, B2.out⟩
                               case measure => simp [intOf]; omega)
                            | (have hrd : readyK R T i (k + 1) = false := by rw [RS.out]; simp
                               have hgr : groupK R i (k + 1) = groupK R i k := by rw [GS.out]; simp
                               have HRD := Lib.hid hrd
                               have HGR := Lib.hid hgr
                               clear hrd hgr
                               go_wp2
                               go_roundw
                               case rel => exact ⟨k + 1, by go_num, by omega, by rw [HRD.out], by rw [HGR.out]; exact GG.out, B2.out⟩
                               case measure => simp [intOf]; omega)
                            | (have hrd : readyK R T i (k + 1) = readyK R T i k := by rw [RS.out]; simp
                               have hgr : groupK R i (k + 1) = groupK R i k ++ [k] := by rw [GS.out]; simp
                               have HRD := Lib.hid hrd
                               have HGR := Lib.hid hgr
                               clear hrd hgr
                               go_wp2_with (at_builtin; refine wpList_append_lies _ rfl _ _ _ rfl w2.heap.size 3 i0 _ 1 8 Try.underlying30 hi0 hz0 hz1 hz2 rfl (by omega) u14 (groupK R i k).length (cellsOf (groupK R i k)) rfl (GG.out.alloc _) ⟨wr.heap.size, 0, none⟩ 1 1 [.int .i64 (k : Int)] rfl rfl (World.news_of_block (cs := #[.int .i64 (k : Int)]) (t := 3) (fr := (0, 0)) (heap_alloc_new _ _)) (by simp [Value.oneCell']) (by omega) (by unfold maxLen; omega) (by omega) (by simp; omega) (wr.heap.size + 1) (by simp) ?_; intro gg cap w7 hown7 hgrow7 hat7 hlt7)
                               have B7 := Lib.hid ((B2.out.alloc hsz2 (.cells #[.int .i64 (k : Int)] 3)).grown hgrow7 (by simp; omega) (fun b hb => (GG.out.lt _ hb).1))
                               have G7 : Hid (w7.ownsRow w2.heap.size 3 1 (.slice (some ⟨gg, 0, none⟩) ((groupK R i k).length + 1) cap) (groupK R i k ++ [k]).length (cellsOf (groupK R i k ++ [k]))) := Lib.hid (by rw [cellsOf_append, List.length_append]; exact hown7)
                               clear hown7 hgrow7 hat7 hlt7
                               go_wp2
                               go_roundw
                               case rel => exact ⟨k + 1, by go_num, by omega, by rw [HRD.out], by rw [HGR.out]; exact G7.out, B7.out⟩
                               case measure => simp [intOf]; omega)
                        · obtain rfl : k = g.length := by omega
                          have hrr := readyR_not R g.length T i HI.out
                          have RRH := Lib.hid hrr
                          have GG := Lib.hid hg
                          have B2 := Lib.hid hB2
                          have hsz2 := hB2.size
                          clear hrr hg hB2
                          by_cases hrd : readyK R T i g.length = true
                          · have HRD := Lib.hid hrd
                            rw [hrd]
                            clear hrd
                            have hgl : 0 < (groupK R i g.length).length := by
                              refine List.length_pos_of_mem (a := i) ?_
                              unfold groupK
                              rw [List.mem_filter]
                              have := (HRL.out i i hi hi).2 (.refl i)
                              exact ⟨List.mem_range.2 hi, by rw [this]; rfl⟩
                            have gkl := groupK_len R i g.length
                            obtain ⟨gb, gcap, rfl⟩ := own_slice GG.out hgl
                            have glt := (GG.out.lt gb rfl).1
                            have NX := Lib.hid (ST.out.next HS.out hg2 HRL.out hlt hi NY.out (by rw [RRH.out]; exact HRD.out))
                            have hgk : groupOf R g.length i = groupK R i g.length := rfl
                            have HGK := Lib.hid hgk
                            have T2 := Lib.hid (TT.out.keep (w' := wr) (fun b hb => B2.out.block b hb))
                            have BT2 := Lib.hid (BT.out.trans (B2.out.mono hsz))
                            have tlt := fun b hb => (TT.out.t.lt b hb).2
                            have TLT := Lib.hid tlt
                            have G2 := Lib.hid (own_base GG.out hsz)
                            have nx2 := NX.out.tl
                            rw [List.length_append, hgk] at nx2
                            clear hgk tlt
                            generalize groupK R i g.length = Gr at *
                            go_wp2_with (first | (at_builtin; refine wpList_append_lies _ rfl (.tmp 114) (.tmp 116) _ rfl wo.heap.size 30 j0 _ 1 24 Try.underlying22 hj0 hy0 hy1 hy2 rfl (by omega) u10 O.length vs rfl (T2.out.o.own.alloc _) ⟨wr.heap.size, 0, none⟩ 1 1 [.slice (some ⟨gb, 0, none⟩) Gr.length gcap] rfl rfl (World.news_of_block (cs := #[.slice (some ⟨gb, 0, none⟩) Gr.length gcap]) (t := 30) (fr := (0, 0)) (heap_alloc_new _ _)) (by simp [Value.oneCell']) (by omega) (by unfold maxLen; omega) (by omega) (by simp; omega) (wr.heap.size + 1) (by simp) ?_; intro gg cap w7 hown7 hgrow7 hat7 hlt7; have T7 := Lib.hid ((T2.out.keep (w' := wr.alloc (.cells #[.slice (some ⟨gb, 0, none⟩) Gr.length gcap] 30)) (fun b hb => Below.heap_alloc _ _ _ hb)).addOut (q := Gr) (G2.out.alloc _) (fun b hb e => by have := TLT.out b hb; simp [Value.ownBlock] at e; omega) hgrow7 hown7); have G7 := Lib.hid (own_keep (G2.out.alloc (.cells #[.slice (some ⟨gb, 0, none⟩) Gr.length gcap] 30)) (fun b hb => hgrow7.block b (by have := (G2.out.lt b hb).2; simp; omega) (Ne.symm (own_own_ne T2.out.o.own G2.out (by decide) b hb)))); have B7 := Lib.hid ((BT2.out.alloc (by omega) (.cells #[.slice (some ⟨gb, 0, none⟩) Gr.length gcap] 30)).grown hgrow7 (by simp; omega) (fun b hb => (T2.out.o.own.lt _ hb).1)); have hsz7 := hgrow7.size; clear hown7 hgrow7 hat7 hlt7) | (at_builtin; refine wpList_append_lies _ rfl (.tmp 118) (.tmp 119) _ rfl wo.heap.size 3 i0 _ 1 8 Try.underlying30 hi0 hz0 hz1 hz2 rfl (by omega) (.slice ta T.length tc) T.length (cellsOf T) rfl T7.out.t ⟨gb, 0, none⟩ Gr.length gcap (cellsOf Gr) rfl (by rw [cellsOf_length]; omega) (G7.out.cells rfl) (by intro u hu; obtain ⟨x, _, rfl⟩ := List.mem_map.1 hu; rfl) (by omega) (by unfold maxLen; omega) (by omega) (by simp at hsz7; omega) (w7.heap.size) rfl ?_; intro gg2 cap2 w8 hown8 hgrow8 hat8 hlt8))
                            have T8 := Lib.hid (T7.out.addTold (tv' := .slice (some ⟨gg2, 0, none⟩) (T.length + Gr.length) cap2) (T' := T ++ Gr) hgrow8 (by rw [cellsOf_append, List.length_append]; exact hown8) (fun b hb => by
                              rcases hat8 with e | e
                              · simp only [Value.ownBlock, Option.some.injEq] at hb
                                subst hb; exact .inl e
                              · simp only [Value.ownBlock, Option.some.injEq] at hb
                                subst hb; right; omega))
                            have B8 := Lib.hid (B7.out.grown hgrow8 (by simp at hsz7; omega) (fun b hb => (T7.out.t.lt _ hb).1))
                            clear hown8 hgrow8 hat8 hlt8
                            go_wp2
                            go_roundg (g.length - (T ++ Gr).length)
                            case measure => rw [List.length_append]; omega
                            case rel => exact ⟨_, _, _, _, rfl, by have := NX.out; rw [HGK.out] at this; exact this, T8.out, B8.out⟩
                          · have hrd' : readyK R T i g.length = false := by simpa using hrd
                            rw [hrd']
                            have HRD := Lib.hid hrd'
                            clear hrd hrd'
                            have T2 := Lib.hid (TT.out.keep (w' := wr) (fun b hb => B2.out.block b hb))
                            have BT2 := Lib.hid (BT.out.trans (B2.out.mono hsz))
                            go_wp2
                            go_roundw
                            case rel => exact ⟨i + 1, by go_num, by omega, rfl, rfl, NY.out.succ (by rw [RRH.out]; exact HRD.out), T2.out, BT2.out⟩
                            case measure => simp [intOf]; omega
                  · exfalso
                    obtain rfl : i = g.length := by omega
                    exact ST.out.found HS.out hg2 HRL.out hlt hN
              · have hdn := hSt.done HS.out hlt
                have HD := Lib.hid hdn
                have hrows2 := hTO.o.rows (by omega) (fun q hq => by
                  have : q ∈ toldL g gs := by rw [hdn]; exact hq
                  exact told_len HS.out q this hl5)
                have HR2 := Lib.hid hrows2
                have BT := Lib.hid hB
                clear hdn hrows2 hSt hTO hB
                go_wp2
                go_ret2
                refine ⟨_, _, rfl, BO.out.trans (BT.out.mono BO.out.size), .inr ⟨g, GE.out, hg2, hl5, rfl, ?_⟩⟩
                rw [HGS.out, HD.out]
                exact HR2.out

end Go.Proofs.Ytlffdipjddlceaa.Od

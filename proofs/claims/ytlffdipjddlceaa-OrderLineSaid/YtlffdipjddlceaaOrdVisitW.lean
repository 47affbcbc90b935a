/- The walk of visit: it is Tarjan's visit on plain lists. -/
import Derived.Test.YtlffdipjddlceaaOrdWalker
import Derived.Test.YtlffdipjddlceaaOrdLoop
import Derived.BigRegion
import Derived.BigQuiet
import Derived.Deep.QuietTactic
import Derived.Deep.RegionLaw
import Derived.StillTailTactics
import Derived.Deep.RegionHeld3
namespace Go.Proofs.Ytlffdipjddlceaa.Od
open Go.RowKit

theorem Below.drewN_ {B : Nat} {w : World} (n : Nat) : Below B w (w.drewN n) := ⟨rfl, rfl, rfl, Nat.le_refl _, fun _ _ => rfl⟩

def VisitPost (base : Nat) (g : List (List Nat)) (uv : Value) (P Bm Bl : Nat) (w : World) (r : Nat × St) (e : Ending) (w' : World) : Prop :=
  e = .returned (.int .i64 (r.1 : Nat)) ∧ r.1 + white g r.2 ≤ g.length + 1 ∧ ∃ ov gv vs, Wk base g.length uv P Bm Bl w' r.2 ov gv vs ∧ Below base w w'

theorem Wk.drewN {base n : Nat} {uv : Value} {P Bm Bl : Nat} {w : World} {s : St} {ov gv : Value} {vs : List Value} (h : Wk base n uv P Bm Bl w s ov gv vs) (k : Nat) : Wk base n uv P Bm Bl (w.drewN k) s ov gv vs := h.keep fun _ _ => rfl
theorem Wk.drew {base n : Nat} {uv : Value} {P Bm Bl : Nat} {w : World} {s : St} {ov gv : Value} {vs : List Value} (h : Wk base n uv P Bm Bl w s ov gv vs) : Wk base n uv P Bm Bl w.drew s ov gv vs := h.keep fun _ _ => rfl

section
variable {base n : Nat} {uv : Value} {P Bm Bl : Nat} {w : World} {s : St} {ov gv : Value} {vs : List Value}
theorem Wk.c0 (h : Wk base n uv P Bm Bl w s ov gv vs) : w.cell? ⟨P, 0, none⟩ = some uv := cell_of_row w P 0 _ _ _ h.hP
theorem Wk.c1 (h : Wk base n uv P Bm Bl w s ov gv vs) : w.cell? ⟨P, 1, none⟩ = some (.slice (some ⟨Bm, 0, none⟩) n n) := cell_of_row w P 1 _ _ _ h.hP
theorem Wk.c2 (h : Wk base n uv P Bm Bl w s ov gv vs) : w.cell? ⟨P, 2, none⟩ = some (.slice (some ⟨Bl, 0, none⟩) n n) := cell_of_row w P 2 _ _ _ h.hP
theorem Wk.c3 (h : Wk base n uv P Bm Bl w s ov gv vs) : w.cell? ⟨P, 3, none⟩ = some ov := cell_of_row w P 3 _ _ _ h.hP
theorem Wk.c4 (h : Wk base n uv P Bm Bl w s ov gv vs) : w.cell? ⟨P, 4, none⟩ = some gv := cell_of_row w P 4 _ _ _ h.hP
end

theorem free_row {w : World} {b : Nat} {c : Array Value} {t : TypeId} (h : w.heap[b]? = some (.cells c t (0, 0))) (i : Nat) : w.frozen? ⟨b, i, none⟩ = false := by simp [World.frozen?, h]

theorem row_cell {w : World} {b : Nat} {l : List Nat} {t : TypeId} (h : w.heap[b]? = some (.cells (cellsOf l).toArray t (0, 0))) {i : Nat} (hi : i < l.length) : w.cell? ⟨b, i, none⟩ = some (.int .i64 ((l.getD i 0 : Nat) : Int)) := by
  rw [cell_of_row w b i _ _ _ h, List.getElem?_toArray, cellsOf_get, List.getElem?_eq_getElem hi, List.getD_eq_getElem?_getD, List.getElem?_eq_getElem hi]; rfl

theorem sort_ints (l : List Nat) : ((intsOf l).mergeSort fun x y => decide (x ≤ y)) = intsOf (sorted l) := by
  unfold sorted intsOf
  rw [List.map_mergeSort]
  intro a _ b _
  simp

def SortedPost (w : World) (l : List Nat) (e : Ending) (w' : World) : Prop :=
  ∃ g cp, e = .returned (.slice (some ⟨g, 0, none⟩) (sorted l).length cp) ∧ w'.ownsRow w.heap.size 3 1 (.slice (some ⟨g, 0, none⟩) (sorted l).length cp) (sorted l).length (cellsOf (sorted l)) ∧ Below w.heap.size w w'

theorem sorted_row (base og at' len cap Bv : Nat) (l : List Nat) (w : World) (h : w.ownsRow base 3 1 (.slice (some ⟨og, 0, none⟩) len cap) l.length (cellsOf l)) (hat : at' < l.length) (hl : l.length ≤ 500)
    (hBv : Bv < w.heap.size) (hcv : w.cell? ⟨Bv, 0, none⟩ = some (.slice (some ⟨og, at', none⟩) (len - at') (cap - at'))) :
    Calls Try.prog 21 #[.func (.func 28) #[] #[.pointer (some ⟨Bv, 0, none⟩)]] w (SortedPost w (l.drop at')) := by
  obtain ⟨rfl, h1, h2⟩ := own_len h
  have e1 : (intsOf (l.drop at')).length = l.length - at' := by rw [intsOf_length, List.length_drop]
  have e2 : (sorted (l.drop at')).length = l.length - at' := by rw [(sorted_perm _).length_eq, List.length_drop]
  have hI : Ints w.heap.size w (.slice (some ⟨og, at', none⟩) (l.length - at') (cap - at')) (intsOf (l.drop at')) := by
    refine .inr ⟨og, at', cap - at', by rw [e1], (h.lt og rfl).2, fun j hj => ?_⟩
    have := own_at h (at' + j) (by omega)
    rw [Nat.zero_add] at this
    rw [this]
    simp [intsOf, List.getD_eq_getElem?_getD]
  refine (sorted_any Bv w.heap.size _ (intsOf (l.drop at')) (by omega) (by unfold maxLen; omega) w hBv (Nat.le_refl _) hcv hI).mono ?_
  rintro e w' ⟨v, rfl, hrow, hnil, hB⟩
  rw [sort_ints, e1] at hrow
  rcases hrow.2 with ⟨_, h0⟩ | ⟨gg, cp, cur, rfl, k⟩
  · omega
  · exact ⟨gg, cp, by rw [e2], by rw [e2]; exact hrow, hB⟩

theorem infoSl : (Try.prog.info? 30).map (fun i => (i.zero, i.size, i.bytes)) = some (some (.slice none 0 0), 1, 24) := by kernel_rfl

set_option maxHeartbeats 1600000 in
set_option maxRecDepth 100000 in
theorem visit_any (n₀ base : Nat) (uv : Value) (g : List (List Nat)) (P Bm Bl : Nat) (hv : Valid g) (hgl : g.length ≤ 500) (hn0 : n₀ ≤ base) : ∀ (f : Nat) (gray : List Nat) (i now : Nat) (s : St) (w : World) (ov gv : Value) (vs : List Value),
    Inv g gray now s → i < g.length → s.m i = 0 → (∀ x ∈ gray, Reach g x i) → white g s ≤ f → now + white g s ≤ g.length + 1 →
    Wk base g.length uv P Bm Bl w s ov gv vs → RowsAt n₀ w uv (rowsOf g) →
    Calls Try.prog 14 #[.pointer (some ⟨P, 0, none⟩), .int .i64 (i : Int), .int .i64 (now : Int)] w (VisitPost base g uv P Bm Bl w (visit g f i now s)) := by
  intro f
  induction f with
  | zero =>
    intro gray i now s w ov gv vs h hi hw hg hf
    exfalso
    have := white_push h.lm hi hw h.now1
    omega
  | succ f ih =>
    intro gray i now s w ov gv vs h hi hw hg hf hnw hW hR
    have IH := Lib.hid ih
    clear ih
    have olen := h.olen
    have now1 := h.now1
    have L0 := Lib.hid (Loop.start h hi hw hg hf hnw)
    have cP1 := hW.c1
    have cP2 := hW.c2
    have cP3 := hW.c3
    have cm := row_cell hW.hm (i := i) (by rw [hW.lm]; exact hi)
    have cl := row_cell hW.hl (i := i) (by rw [hW.ll]; exact hi)
    have fP := free_row hW.hP 3
    have fm := free_row hW.hm i
    have fl := free_row hW.hl i
    have ne1 := hW.pm
    have ne2 := hW.pl
    have ne3 := hW.ml
    obtain ⟨b, off, cap2, a2, cp2, euv, hb2, hcell0, hrow⟩ := rows_row hR hi
    subst euv
    have hrl : (us g i).length ≤ 9223372036854775807 := by obtain ⟨_, _, _, h, _⟩ := hrow; rwa [intsOf_length] at h
    have HU := Lib.hid hrow
    have C0 := Lib.hid hcell0
    have W0 := Lib.hid hW
    have HI := Lib.hid h
    have HW := Lib.hid hw
    have HG := Lib.hid hg
    have HR := Lib.hid hR
    clear hW h hw hg hR hf hrow hcell0
    have z0 : (0 : Int) ≤ (i : Int) := by omega
    have z1 : (i : Int) < (g.length : Int) := by omega
    have z2 : (1 : Int) ≤ (now : Int) := by omega
    have z3 : (now : Int) ≤ 501 := by omega
    go_enter Try.func14, Try.ntmps14
    go_wp2
    go_region
    have W1 := ((W0.out.setMet i now).setLeast i now).drew
    have B1 : Below base w ((w.setCell ⟨Bm, i, none⟩ (.int .i64 (now : Int))).setCell ⟨Bl, i, none⟩ (.int .i64 (now : Int))).drew := (((Below.refl _ _).setCell W0.out.bm _).setCell W0.out.bl _).drew
    clear cP1 cP2 cP3 cm cl fP fm fl
    generalize ((w.setCell ⟨Bm, i, none⟩ (.int .i64 (now : Int))).setCell ⟨Bl, i, none⟩ (.int .i64 (now : Int))).drew = w1 at *
    have cP3 := W1.c3
    have fP := free_row W1.hP 3
    have l1 := W1.lt.1
    have V1 := Lib.hid W1
    have BB1 := Lib.hid B1
    clear W1 B1
    obtain ⟨i0, hi0, hz0, hz1, hz2⟩ := info_parts infoInt
    go_wp2_with (at_builtin; refine wpList_append_lies _ rfl _ _ _ rfl base 3 i0 _ 1 8 Try.underlying30 hi0 hz0 hz1 hz2 rfl (by omega) ov s.opn.length (cellsOf s.opn) rfl (V1.out.ho.alloc _) ⟨w1.heap.size, 0, none⟩ 1 1 [.int .i64 (i : Int)] rfl rfl (World.news_of_block (cs := #[.int .i64 (i : Int)]) (t := 3) (fr := (0, 0)) (heap_alloc_new _ _)) (by simp [Value.oneCell']) (by omega) (by unfold maxLen; omega) (by omega) (by have := V1.out.bP; simp; omega) (w1.heap.size + 1) (by simp) ?_; intro gg cap w2 hown2 hgrow2 hat2 hlt2; have hP2 := (hgrow2.block P (by simp; omega) (Ne.symm V1.out.op)).trans ((Below.heap_alloc _ _ _ l1).trans V1.out.hP); have c2 : w2.cell? ⟨P, 3, none⟩ = some ov := cell_of_row w2 P 3 _ _ _ hP2; have f2 := free_row hP2 3; have cP0 : w2.cell? ⟨P, 0, none⟩ = some (.slice (some ⟨b, off, none⟩) g.length cap2) := cell_of_row w2 P 0 _ _ _ hP2; have B2 : Below base w w2 := (BB1.out.alloc (by have := V1.out.bP; omega) _).grown hgrow2 (by have := V1.out.bP; simp; omega) (fun k hk => (V1.out.ho.lt _ hk).1); have cU := (B2.cell (p := ⟨b, off + i, none⟩) (by show b < base; omega)).trans C0.out; have D2 := Lib.hid B2; have bne : b ≠ P := (by have := V1.out.bP; omega); clear hP2 B2)
    have el : (s.opn ++ [i]).length = s.opn.length + 1 := by simp
    have ec : cellsOf (s.opn ++ [i]) = cellsOf s.opn ++ [.int .i64 (i : Int)] := by simp [cellsOf, intsOf]
    have W2 := (V1.out.alloc (.cells #[.int .i64 (i : Int)] 3)).setOpen (o' := s.opn ++ [i]) (ov' := .slice (some ⟨gg, 0, none⟩) (s.opn.length + 1) cap) hgrow2 (by rw [ec, el]; exact hown2) (by
      rcases hat2 with e | e
      · exact .inl e.symm
      · refine .inr fun b hb => ?_
        simp only [Value.ownBlock, Option.some.injEq] at hb
        subst hb; subst e; simp)
    have B2 : Below base w (w2.setCell ⟨P, 3, none⟩ (.slice (some ⟨gg, 0, none⟩) (s.opn.length + 1) cap)) := D2.out.setCell V1.out.bP _
    clear c2 f2 cP0 cU bne D2 cP3 fP hown2 hgrow2 hat2 hlt2 el ec
    generalize w2.setCell ⟨P, 3, none⟩ (.slice (some ⟨gg, 0, none⟩) (s.opn.length + 1) cap) = w3 at *
    have V3 := Lib.hid W2
    have B3 := Lib.hid B2
    clear W2 B2 BB1 V1 l1
    go_loopw [2, 44] (fun nv jv wr => ∃ (jj : Nat) (c : Nat × St) (ov gv : Value) (vs : List Value), nv = .int .i64 (c.1 : Nat) ∧ jv = .int .i64 jj ∧ jj ≤ (us g i).length ∧ Loop g gray i now f s jj c ∧ Wk base g.length (.slice (some ⟨b, off, none⟩) g.length cap2) P Bm Bl wr c.2 ov gv vs ∧ Below base w wr) (fun _ jv _ => (us g i).length - (intOf jv).toNat)
    case atStart => exact ⟨0, (now + 1, s.push i now), _, _, _, by simp, rfl, Nat.zero_le _, L0.out, V3.out, B3.out⟩
    case round =>
      clear V3 B3
      obtain ⟨jj, c, ov, gv, vs, rfl, rfl, hjl, hL, hW, hB⟩ := hrel
      by_cases hj : jj < (us g i).length
      · obtain ⟨b3, off3, rfl, hb3, hcell3'⟩ := ints_get HU.out hj
        have hcell3 := (hB.cell (p := ⟨b3, off3 + jj, none⟩) (Nat.lt_of_lt_of_le hb3 hn0)).trans hcell3'
        have hkm : (us g i)[jj] ∈ us g i := List.getElem_mem hj
        have hkl := hv i _ hkm
        have NX := Lib.hid (hL.next HI.out hv hi HW.out HG.out hj)
        have LL := Lib.hid hL
        have cP1 := hW.c1
        have cm : wr.cell? ⟨Bm, (us g i)[jj], none⟩ = some (.int .i64 ((c.2.m (us g i)[jj] : Nat) : Int)) := row_cell hW.hm (by rw [hW.lm]; exact hkl)
        have ne1 := hW.pm
        have V := Lib.hid hW
        have BB := Lib.hid hB
        have nwb := hL.nw
        have c1b := hL.going.inv.now1
        have HK := Lib.hid hkm
        clear hcell3' hL hW hB hkm
        generalize (us g i)[jj] = k at *
        have y0 : (0 : Int) ≤ (jj : Int) := by omega
        have y1 : (jj : Int) < ((us g i).length : Int) := by omega
        have y2 : (0 : Int) ≤ (k : Int) := by omega
        have y3 : (k : Int) < (g.length : Int) := by omega
        by_cases hz : c.2.m k = 0
        · have t1 : (((c.2.m k : Nat) : Int) == 0) = true := by rw [hz]; rfl
          have HZ := Lib.hid hz
          clear hz
          go_wp2_with fail
          refine (IH.out (i :: gray) k c.1 c.2 _ ov gv vs LL.out.going.inv hkl HZ.out (fun x hx => by
            rcases List.mem_cons.1 hx with rfl | hx
            · exact .edge HK.out
            · exact (HG.out x hx).trans (.edge HK.out)) LL.out.wh LL.out.nw V.out (HR.out.below (BB.out.mono hn0))).mono ?_
          rintro e w4 ⟨rfl, nw4, ov4, gv4, vs4, W4, B4⟩
          have VD := Lib.hid (visit_ok g hv f (i :: gray) k c.1 c.2 LL.out.going.inv hkl HZ.out (fun x hx => by
            rcases List.mem_cons.1 hx with rfl | hx
            · exact .edge HK.out
            · exact (HG.out x hx).trans (.edge HK.out)) LL.out.wh)
          have SW : stepWith (visit g f) i c k = ((visit g f k c.1 c.2).1, (visit g f k c.1 c.2).2.low i ((visit g f k c.1 c.2).2.l k)) := by unfold stepWith; rw [if_pos HZ.out]
          have SWH := Lib.hid SW
          have N4 := Lib.hid (NX.out (fun _ => nw4))
          clear cP1 cm SW nw4
          generalize visit g f k c.1 c.2 = r at *
          have cP2 := W4.c2
          have cl : w4.cell? ⟨Bl, i, none⟩ = some (.int .i64 ((r.2.l i : Nat) : Int)) := row_cell W4.hl (by rw [W4.ll]; exact hi)
          have ck : w4.cell? ⟨Bl, k, none⟩ = some (.int .i64 ((r.2.l k : Nat) : Int)) := row_cell W4.hl (by rw [W4.ll]; exact hkl)
          have fl := free_row W4.hl i
          have V4 := Lib.hid W4
          have BB4 := Lib.hid (BB.out.trans B4)
          clear W4 B4
          go_wp2
          go_region
          go_wp2
          have em : min ((r.2.l i : Nat) : Int) ((r.2.l k : Nat) : Int) = ((min (r.2.l i) (r.2.l k) : Nat) : Int) := by omega
          go_roundw
          case rel => exact ⟨jj + 1, (r.1, r.2.low i (r.2.l k)), ov4, gv4, vs4, rfl, by go_num, by omega, by rw [← SWH.out]; exact N4.out, by rw [em]; exact (V4.out.setLeast i _).drew, (BB4.out.setCell V4.out.bl _).drew⟩
          case measure => simp [intOf]; omega
        · have t1 : (((c.2.m k : Nat) : Int) == 0) = false := by rw [beq_eq_false_iff_ne]; omega
          have HZ := Lib.hid hz
          have hop : c.2.opn ≠ [] := by obtain ⟨nw, ho, _⟩ := LL.out.going.opn; rw [ho]; simp
          have hop' := List.length_pos_iff.2 hop
          rcases V.out.ho.2 with ⟨_, h0⟩ | ⟨og, ocap, _, rfl, _⟩
          · omega
          have cP3 := V.out.c3
          clear hz hop
          by_cases hin : c.2.opn.contains k = true
          · have SW : stepWith (visit g f) i c k = (c.1, c.2.low i (c.2.m k)) := by unfold stepWith; rw [if_neg HZ.out, if_pos hin]
            have SWH := Lib.hid SW
            have N4 := Lib.hid (NX.out (fun h => absurd h HZ.out))
            have HIN := Lib.hid hin
            have cP2 := V.out.c2
            have cl : wr.cell? ⟨Bl, i, none⟩ = some (.int .i64 ((c.2.l i : Nat) : Int)) := row_cell V.out.hl (by rw [V.out.ll]; exact hi)
            have fl := free_row V.out.hl i
            have ne3 := V.out.ml
            have ne2 := V.out.pl
            clear SW hin
            go_wp2_with fail
            refine (contains_row _ _ _ _ c.2.opn k _ V.out.ho).mono ?_
            rintro e w' ⟨he, rfl⟩
            rw [HIN.out] at he
            subst he
            go_wp2
            go_region
            go_wp2
            have em : min ((c.2.l i : Nat) : Int) ((c.2.m k : Nat) : Int) = ((min (c.2.l i) (c.2.m k) : Nat) : Int) := by omega
            go_roundw
            case rel => exact ⟨jj + 1, (c.1, c.2.low i (c.2.m k)), _, gv, vs, rfl, by go_num, by omega, by rw [← SWH.out]; exact N4.out, by rw [em]; exact (V.out.setLeast i _).drew, (BB.out.setCell V.out.bl _).drew⟩
            case measure => simp [intOf]; omega
          · have hin' : c.2.opn.contains k = false := by simpa using hin
            have SW : stepWith (visit g f) i c k = c := by unfold stepWith; rw [if_neg HZ.out, if_neg hin]
            have SWH := Lib.hid SW
            have N4 := Lib.hid (NX.out (fun h => absurd h HZ.out))
            have HIN := Lib.hid hin'
            clear SW hin hin'
            go_wp2_with fail
            refine (contains_row _ _ _ _ c.2.opn k _ V.out.ho).mono ?_
            rintro e w' ⟨he, rfl⟩
            rw [HIN.out] at he
            subst he
            go_wp2
            go_roundw
            case rel => exact ⟨jj + 1, c, _, gv, vs, rfl, by go_num, by omega, by have := N4.out; rw [SWH.out] at this; exact this, V.out, BB.out⟩
            case measure => simp [intOf]; omega
      · obtain rfl : jj = (us g i).length := by omega
        have hL2 := hL
        rw [show Loop g gray i now f s (us g i).length c = Loop g gray i now f s (us g i).length c from rfl] at hL2
        have ec : visit g (f + 1) i now s = (c.1, c.2.close i) := by
          have := hL.fold
          rw [List.take_length] at this
          rw [this]; rfl
        have EC := Lib.hid ec
        obtain ⟨nw, ho, _⟩ := hL.going.opn
        have him : i ∈ c.2.opn := by rw [ho]; simp
        have hix := List.idxOf_lt_length_of_mem him
        have olen2 := hL.going.inv.olen
        have glen2 := hL.going.inv.glen
        have HIM := Lib.hid him
        have LL := Lib.hid hL
        have cP1 := hW.c1
        have cP2 := hW.c2
        have cm : wr.cell? ⟨Bm, i, none⟩ = some (.int .i64 ((c.2.m i : Nat) : Int)) := row_cell hW.hm (by rw [hW.lm]; exact hi)
        have cl : wr.cell? ⟨Bl, i, none⟩ = some (.int .i64 ((c.2.l i : Nat) : Int)) := row_cell hW.hl (by rw [hW.ll]; exact hi)
        rcases hW.ho.2 with ⟨_, h0⟩ | ⟨og, ocap, _, rfl, _⟩
        · omega
        obtain ⟨_, ocl, ocm⟩ := own_len hW.ho
        have V := Lib.hid hW
        have BB := Lib.hid hB
        have nwb := hL.nw
        clear hL hL2 ec ho him hW hB
        by_cases hz : c.2.l i = c.2.m i
        · have t1 : (((c.2.l i : Nat) : Int) == ((c.2.m i : Nat) : Int)) = true := by rw [hz]; simp
          have HZ := Lib.hid hz
          clear hz
          go_wp2
          go_quiet (fail)
          have V2 := V.out.drewN nq
          have BB2 : Below base w (wr.drewN nq) := BB.out.trans (Below.drewN_ nq)
          clear cP1 cP2 cm cl
          generalize wr.drewN nq = wq at *
          have cP3 := V2.c3
          have W5 := Lib.hid V2
          have B5 := Lib.hid BB2
          clear V V2 BB2 BB
          go_wp2_with fail
          refine (index_row _ _ _ _ c.2.opn i _ W5.out.ho HIM.out).mono ?_
          rintro e w' ⟨rfl, rfl⟩
          go_wp2_with fail
          have cP4 := W5.out.c4
          have fP4 := free_row W5.out.hP 4
          have lP := W5.out.lt.1
          have a0 : (0 : Int) ≤ (c.2.opn.idxOf i : Int) := by omega
          have a1 : (c.2.opn.idxOf i : Int) ≤ (c.2.opn.length : Int) := by omega
          have a2 : ¬ (ocap = c.2.opn.idxOf i) := by omega
          have a3 : c.2.opn.idxOf i ≤ c.2.opn.length := by omega
          obtain ⟨j0, hj0, hy0, hy1, hy2⟩ := info_parts infoSl
          have CS := Lib.hid (sorted_row base og (c.2.opn.idxOf i) _ _ wq.heap.size c.2.opn (wq.alloc (.cells #[.slice (some ⟨og, c.2.opn.idxOf i, none⟩) (c.2.opn.length - c.2.opn.idxOf i) (ocap - c.2.opn.idxOf i)] 30)).drew ((W5.out.ho.alloc _).drew) hix (by omega) (by simp) (cell_of_row _ _ 0 _ _ _ (heap_alloc_new wq _)))
          have ka := (W5.out.alloc (.cells #[.slice (some ⟨og, c.2.opn.idxOf i, none⟩) (c.2.opn.length - c.2.opn.idxOf i) (ocap - c.2.opn.idxOf i)] 30)).c4
          clear t1 z0 z1 z2 z3
          go_region_law (first | (refine step_append_lies _ (by rfl) _ _ _ (by rfl) base 30 j0 _ 1 24 Try.underlying22 hj0 hy0 hy1 hy2 rfl (by omega) gv c.2.grp.length vs (by rfl) (W6.out.hg.alloc _) ⟨w6.heap.size, 0, none⟩ 1 1 [.slice (some ⟨gs, 0, none⟩) (sorted (c.2.opn.drop (c.2.opn.idxOf i))).length cps] (by rfl) (by rfl) (World.news_of_block (cs := #[.slice (some ⟨gs, 0, none⟩) (sorted (c.2.opn.drop (c.2.opn.idxOf i))).length cps]) (t := 30) (fr := (0, 0)) (heap_alloc_new w6 _)) (by simp [Value.oneCell']) (by omega) (by unfold maxLen; omega) (by omega) (by have := W6.out.bP; have := W6.out.lt.1; simp; omega) (w6.heap.size + 1) (by simp) ?_; intro gg2 cap3 w7 hown7 hgrow7 hat7 hlt7; have hP7 := (hgrow7.block P (by have := W6.out.lt.1; simp; omega) (Ne.symm W6.out.gp)).trans ((Below.heap_alloc _ _ _ W6.out.lt.1).trans W6.out.hP); have k3 : w7.cell? ⟨P, 3, none⟩ = some (.slice (some ⟨og, 0, none⟩) c.2.opn.length ocap) := cell_of_row w7 P 3 _ _ _ hP7; have k4 : w7.cell? ⟨P, 4, none⟩ = some gv := cell_of_row w7 P 4 _ _ _ hP7; have f4 := free_row hP7 4; clear hP7) | (go_simp; first | (go_at_call 22; refine (values_any _ _ _ _).mono ?_; rintro e w' ⟨rfl, rfl⟩) | (go_at_call 21; refine CS.out.mono ?_; rintro e w6 ⟨gs, cps, rfl, hrow6, hB6⟩; have W6 := Lib.hid (((W5.out.alloc _).drew).below hB6); have k3 := W6.out.c3; have k4 := W6.out.c4; have k5 := (W6.out.alloc (.cells #[.slice (some ⟨gs, 0, none⟩) (sorted (c.2.opn.drop (c.2.opn.idxOf i))).length cps] 30)).c4; have HB6 := Lib.hid hB6; have HR6 := Lib.hid hrow6; clear hB6 hrow6)))
          all_goals
            have gs1 : wq.heap.size + 1 ≤ gs := by have := (HR6.out.lt gs rfl).1; simpa using this
            have lt5 := W5.out.lt
            have ltO := (W5.out.ho.lt og rfl).2
            have el : (c.2.grp ++ [sorted (c.2.opn.drop (c.2.opn.idxOf i))]).length = c.2.grp.length + 1 := by simp
            have W8 := (W6.out.alloc (.cells #[.slice (some ⟨gs, 0, none⟩) (sorted (c.2.opn.drop (c.2.opn.idxOf i))).length cps] 30)).setGroups (v := .slice (some ⟨gs, 0, none⟩) (sorted (c.2.opn.drop (c.2.opn.idxOf i))).length cps) (q := sorted (c.2.opn.drop (c.2.opn.idxOf i))) (gv' := .slice (some ⟨gg2, 0, none⟩) (c.2.grp.length + 1) cap3) hgrow7 (by rw [el]; exact hown7) ((own_base HR6.out (by have := W5.out.bP; simp; omega)).alloc _) (by
                intro e
                have e2 := (sorted_perm (c.2.opn.drop (c.2.opn.idxOf i))).length_eq
                rw [e, List.length_drop] at e2
                simp at e2; omega) (by simp [Value.ownBlock]; omega) (by simp [Value.ownBlock]; omega) (by simp [Value.ownBlock]; omega)
            have BB8 : Below base w (w7.setCell ⟨P, 4, none⟩ (.slice (some ⟨gg2, 0, none⟩) (c.2.grp.length + 1) cap3)) := ((((((B5.out.alloc (by have := W5.out.bP; omega) _).drew).trans (HB6.out.mono (by have := W5.out.bP; simp; omega))).alloc (by have := W6.out.bP; have := W6.out.lt; omega) _)).grown hgrow7 (by have := W6.out.bP; have := W6.out.lt; simp; omega) (fun k hk => (W6.out.hg.lt _ hk).1)).setCell W6.out.bP _
            clear k3 k4 k5 ka cP3 cP4 fP4 f4 hown7 hgrow7 hat7 hlt7 HB6 HR6
            generalize w7.setCell ⟨P, 4, none⟩ (.slice (some ⟨gg2, 0, none⟩) (c.2.grp.length + 1) cap3) = w8 at *
            have c3 := W8.c3
            have f3 := free_row W8.hP 3
            have W9 := Lib.hid (W8.setOpen (w1 := w8) (ov' := .slice (some ⟨og, 0, none⟩) (c.2.opn.idxOf i) ocap) (o' := c.2.opn.take (c.2.opn.idxOf i)) ⟨rfl, rfl, rfl, Nat.le_refl _, fun _ _ _ => rfl⟩ (cut_own W8.ho (by omega)) (.inl rfl))
            have B9 := Lib.hid (BB8.setCell (p := ⟨P, 3, none⟩) W8.bP (.slice (some ⟨og, 0, none⟩) (c.2.opn.idxOf i) ocap))
            have b1 : (c.2.opn.idxOf i : Int) ≤ (ocap : Int) := by omega
            clear W8 BB8 el
            go_wp2
            go_ret
            have ec : c.2.close i = ⟨c.2.met, c.2.least, c.2.opn.take (c.2.opn.idxOf i), c.2.grp ++ [sorted (c.2.opn.drop (c.2.opn.idxOf i))]⟩ := by unfold St.close; rw [if_pos HZ.out]
            rw [EC.out, ec]
            exact ⟨rfl, nwb, _, _, _, W9.out, B9.out⟩
        · have t1 : (((c.2.l i : Nat) : Int) == ((c.2.m i : Nat) : Int)) = false := by rw [beq_eq_false_iff_ne]; omega
          have HZ := Lib.hid hz
          clear hz
          go_wp2
          go_quiet (fail)
          have V2 := Lib.hid (V.out.drewN nq)
          have BB2 : Below base w (wr.drewN nq) := BB.out.trans (Below.drewN_ nq)
          have B2 := Lib.hid BB2
          clear cP1 cP2 cm cl BB2
          generalize wr.drewN nq = wq at *
          go_wp2
          go_ret
          have ec : c.2.close i = c.2 := by unfold St.close; rw [if_neg HZ.out]
          rw [EC.out, ec]
          exact ⟨rfl, nwb, _, _, _, V2.out, B2.out⟩

end Go.Proofs.Ytlffdipjddlceaa.Od

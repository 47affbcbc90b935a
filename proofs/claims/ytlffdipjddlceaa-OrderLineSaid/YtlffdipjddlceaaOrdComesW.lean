/- The walk of the document's comes. -/
import Derived.Test.YtlffdipjddlceaaOrdComes
namespace Go.Proofs.Ytlffdipjddlceaa.Od
open Go.RowKit

/-- A row of new memory that holds the numbers l. -/
def Own (w0 w : World) (v : Value) (l : List Nat) : Prop := w.ownsRow w0.heap.size 3 1 v l.length ((intsOf l).map (Value.int .i64)) ∧ Below w0.heap.size w0 w

theorem Own.ints {w0 w : World} {v : Value} {l : List Nat} (h : Own w0 w v l) (hb : l.length ≤ 9223372036854775807) : IntsAt w.heap.size w v (intsOf l) := ints_of_owns hb h.1

theorem own_one (w0 w : World) (hB : Below w0.heap.size w0 w) (i : Nat) : Own w0 (w.alloc (.cells #[.int .i64 i] 3)) (.slice (some ⟨w.heap.size, 0, none⟩) 1 1) [i] := by
  refine ⟨⟨by simp [intsOf], .inr ⟨w.heap.size, 1, #[.int .i64 i], rfl, hB.size, heap_alloc_new _ _, Nat.le_refl _, by unfold maxLen; omega, rfl, by simp [intsOf]⟩⟩, hB.alloc hB.size _⟩

theorem ints_contains (l : List Nat) (y : Nat) : (intsOf l).contains (y : Int) = decide (y ∈ l) := by
  rw [Bool.eq_iff_iff, List.contains_iff_mem, decide_eq_true_iff]
  unfold intsOf
  rw [List.mem_map]
  constructor
  · rintro ⟨a, ha, e⟩; have : a = y := by omega
    subst this; exact ha
  · exact fun h => ⟨y, h, rfl⟩

def ComesPost (w : World) (g : List (List Nat)) (i : Nat) (e : Ending) (w' : World) : Prop :=
  ∃ v L, e = .returned v ∧ Own w w' v L ∧ ComeSt g i L.length L

set_option maxHeartbeats 1600000 in
theorem comes_any (n₀ : Nat) (v : Value) (g : List (List Nat)) (i : Nat) (w : World) (hI : RowsAt n₀ w v (rowsOf g)) (hn0 : n₀ ≤ w.heap.size) (hv : Valid g) (hi : i < g.length) (hg : g.length ≤ 500) :
    Calls Try.prog 16 #[v, .int .i64 i] w (ComesPost w g i) := by
  obtain ⟨b, off, cap, _, _, rfl, hb0, _⟩ := rows_row hI hi
  obtain ⟨i0, hi0, hz0, hz1, hz2⟩ := info_parts infoInt
  go_enter Try.func16, Try.ntmps16
  have O0 := Lib.hid (own_one w w (Below.refl _ w) i)
  go_wp2
  go_loopw [5, 6] (fun l k wr => ∃ (L : List Nat) (kk : Nat), k = .int .i64 kk ∧ Own w wr l L ∧ ComeSt g i kk L) (fun _ k _ => g.length - (intOf k).toNat)
  case atStart => exact ⟨[i], 0, rfl, O0.out, ComeSt.start hi⟩
  case round =>
    obtain ⟨L, kk, rfl, ho, hc⟩ := hrel
    have hlg := hc.len
    have hne : 0 < L.length := List.length_pos_of_mem hc.me
    rcases ho.1.2 with ⟨_, h0⟩ | ⟨gb, cp, cur, rfl, hbase, hgb, hcp, _, _, _⟩
    · omega
    by_cases hk : kk < L.length
    · obtain ⟨b1, off1, e1, _, hcell1⟩ := ints_get (ho.ints (by omega)) hk
      injection e1 with e1; injection e1 with e1 e2; subst e1 e2; rw [Nat.zero_add] at hcell1
      have hx := hc.lt L[kk] (List.getElem_mem hk)
      obtain ⟨b2, off2, cap2, a2, cp2, e2, hb2, hcell2', hrow⟩ := rows_row hI hx
      have hcell2 := (ho.2.cell (p := ⟨b2, off2 + L[kk], none⟩) (Nat.lt_of_lt_of_le hb2 hn0)).trans hcell2'
      clear hcell2'
      injection e2 with e2 e3 e4; injection e2 with e2; injection e2 with e2 e5; subst e2 e5 e4
      have HX := Lib.hid (List.getElem_mem hk)
      have hxk : L[kk]? = some L[kk] := List.getElem?_eq_getElem hk
      have XK := Lib.hid hxk
      have hrl : (us g L[kk]).length ≤ 9223372036854775807 := by obtain ⟨_, _, _, h, _⟩ := hrow; rwa [intsOf_length] at h
      clear hxk
      generalize hxx : L[kk] = x at *
      have HO := Lib.hid ho
      have HC := Lib.hid hc
      have HR := Lib.hid hrow
      clear ho hc hrow hgb
      have z0 : (0 : Int) ≤ (kk : Int) := by omega
      have z1 : (kk : Int) < (L.length : Int) := by omega
      have z2 : (0 : Int) ≤ (x : Int) := by omega
      have z3 : (x : Int) < (g.length : Int) := by omega
      go_wp2
      go_loopw [5, 8] (fun l j wr => ∃ (L' : List Nat) (jj : Nat), j = .int .i64 jj ∧ jj ≤ (us g x).length ∧ Own w wr l L' ∧ ComeSt g i kk L' ∧ L'[kk]? = some x ∧ ∀ y ∈ (us g x).take jj, y ∈ L') (fun _ j _ => (us g x).length - (intOf j).toNat)
      case atStart => exact ⟨L, 0, rfl, Nat.zero_le _, HO.out, HC.out, XK.out, by simp⟩
      case round =>
        obtain ⟨L', jj, rfl, hjl, ho, hc, hxk, hdone⟩ := hrel
        have hlg' := hc.len
        have hxm : x ∈ L' := List.mem_of_getElem? hxk
        have hne' : 0 < L'.length := List.length_pos_of_mem hxm
        rcases ho.1.2 with ⟨_, h0⟩ | ⟨gb', cp', cur', rfl, hbase', hgb', hcp', _, _, _⟩
        · omega
        by_cases hj : jj < (us g x).length
        · obtain ⟨b3, off3, rfl, hb3, hcell3'⟩ := ints_get HR.out hj
          have hcell3 := (ho.2.cell (p := ⟨b3, off3 + jj, none⟩) (Nat.lt_of_lt_of_le hb3 hn0)).trans hcell3'
          have hym : (us g x)[jj] ∈ us g x := List.getElem_mem hj
          have htake : (us g x).take (jj + 1) = (us g x).take jj ++ [(us g x)[jj]] := by rw [List.take_add_one, List.getElem?_eq_getElem hj]; rfl
          have hyl := hv x _ hym
          have hcon := ints_contains L' (us g x)[jj]
          have HA := Lib.hid (fun hn => hc.add hv hxm hym hn)
          have HI := Lib.hid (ho.ints (by omega))
          have BL := Lib.hid ho.2
          have OW := Lib.hid ho.1
          have HO := Lib.hid ho
          have HC := Lib.hid hc
          clear hcell3' hgb' ho hc hxm
          generalize (us g x)[jj] = y at *
          have y0 : (0 : Int) ≤ (jj : Int) := by omega
          have y1 : (jj : Int) < ((us g x).length : Int) := by omega
          have y2 : (0 : Int) ≤ (y : Int) := by omega
          have y3 : (y : Int) < (g.length : Int) := by omega
          by_cases hin : y ∈ L'
          · rw [decide_eq_true hin] at hcon
            have HD := Lib.hid (show ∀ z ∈ (us g x).take (jj + 1), z ∈ L' by
              intro z hz; rw [htake] at hz
              rcases List.mem_append.1 hz with hz | hz
              · exact hdone z hz
              · simp at hz; subst hz; exact hin)
            have HH := Lib.hid hcon
            have HX := Lib.hid hxk
            clear hcon hdone htake hin hym hxk
            go_wp2_with (go_at_call 17; refine (has_any _ _ (intsOf L') _ _ HI.out).mono ?_; rintro e w' ⟨he, rfl⟩; rw [HH.out] at he; subst he)
            go_roundw
            case rel => exact ⟨L', jj + 1, by go_num, by omega, HO.out, HC.out, HX.out, HD.out⟩
            case measure => simp [intOf]; omega
          · rw [decide_eq_false hin] at hcon
            have HD := Lib.hid (show ∀ z ∈ (us g x).take (jj + 1), z ∈ L' ++ [y] by
              intro z hz; rw [htake] at hz
              rcases List.mem_append.1 hz with hz | hz
              · exact List.mem_append_left _ (hdone z hz)
              · exact List.mem_append_right _ hz)
            have HC1 := Lib.hid (HA.out hin)
            have HX := Lib.hid (show (L' ++ [y])[kk]? = some x by
              have hl := (List.getElem?_eq_some_iff.1 hxk).1
              rw [List.getElem?_append_left hl]; exact hxk)
            have HH := Lib.hid hcon
            clear hcon hdone htake hin hym hxk
            go_wp2_with (first | (go_at_call 17; refine (has_any _ _ (intsOf L') _ _ HI.out).mono ?_; rintro e w' ⟨he, rfl⟩; rw [HH.out] at he; subst he) | (at_builtin; refine wpList_append_lies _ rfl _ _ _ rfl w.heap.size 3 i0 _ 1 8 Try.underlying30 hi0 hz0 hz1 hz2 rfl (by omega) (.slice (some ⟨gb', 0, none⟩) L'.length cp') L'.length ((intsOf L').map (Value.int .i64)) rfl (OW.out.alloc _) ⟨wr.heap.size, 0, none⟩ 1 1 [.int .i64 y] rfl rfl (World.news_of_block (cs := #[.int .i64 y]) (t := 3) (fr := (0, 0)) (heap_alloc_new _ _)) (by simp [Value.oneCell']) (by omega) (by unfold maxLen; omega) (by omega) (by have := BL.out.size; simp; omega) (wr.heap.size + 1) (by simp) ?_; intro gg cap w1 hown1 hgrow hat hlt1))
            have e1 : (intsOf (L' ++ [y])).map (Value.int .i64) = (intsOf L').map (Value.int .i64) ++ [.int .i64 y] := by simp [intsOf]
            have BL1 := Lib.hid (((BL.out.alloc (by have := BL.out.size; simp; omega) _)).grown hgrow (by have := BL.out.size; simp; omega) (fun k hk => by have := OW.out.lt _ hk; omega))
            have OW1 := Lib.hid hown1
            clear hgrow hat hlt1 hown1
            go_roundw
            case rel => exact ⟨L' ++ [y], jj + 1, by go_num, by omega, ⟨by rw [e1, List.length_append]; exact OW1.out, BL1.out⟩, HC1.out, HX.out, HD.out⟩
            case measure => simp [intOf]; omega
        · obtain rfl : jj = (us g x).length := by omega
          have HO := Lib.hid ho
          have hl := (List.getElem?_eq_some_iff.1 hxk)
          have HN := Lib.hid (hc.next hl.1 (by rw [hl.2]; rwa [List.take_length] at hdone))
          clear hdone hgb' ho hc
          go_wp2
          go_roundw
          case rel => exact ⟨L', kk + 1, by go_num, HO.out, HN.out⟩
          case measure => simp [intOf]; have := HN.out.kl; omega
    · obtain rfl : kk = L.length := by have := hc.kl; omega
      have HO := Lib.hid ho
      have HC := Lib.hid hc
      clear ho hc hgb
      go_wp2
      go_ret
      exact ⟨_, L, rfl, HO.out, HC.out⟩

end Go.Proofs.Ytlffdipjddlceaa.Od

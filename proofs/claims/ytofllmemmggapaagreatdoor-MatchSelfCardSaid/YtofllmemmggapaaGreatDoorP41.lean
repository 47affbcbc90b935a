/- Texts laid together: RfPrintB. -/
import Derived.Test.YtofllmemmggapaaGreatDoorP40
import Derived.Test.YtofllmemmggapaaGreatDoorP15

/- The walk of the document's Print: words with arguments; whatever the type. (Printed by gen_rfprintb.py.) -/
namespace Go.Proofs.YtofllmemmggapaaGreatDoor.Tp
open Go.RowKit

/-- the text with i arguments -/
def conS (t : Ty) (i : Nat) : List UInt8 := t.name.data.toList ++ ((t.args.take i).map clT).flatMap (fun x => 32 :: x)
theorem conS_add (t : Ty) (i : Nat) (h : i < t.args.length) : conS t (i + 1) = conS t i ++ (32 :: clT t.args[i]) := by
  unfold conS
  rw [List.take_succ_eq_append_getElem h, List.map_append, List.flatMap_append, List.append_assoc]; simp
theorem conS_full (t : Ty) (hk : t.kind = 3) : conS t t.args.length = printT t := by rw [print_k3 t hk]; unfold conS; rw [List.take_length]
theorem conS_le (t : Ty) (hk : t.kind = 3) (i : Nat) : (conS t i).length ≤ (printT t).length := by
  rw [print_k3 t hk]
  conv => rhs; rw [← List.take_append_drop i t.args, List.map_append, List.flatMap_append]
  unfold conS
  simp
theorem bare_cases {x : Ty} (hw : Wf x) (h : x.atomic = true) : (x.kind == 4) = false ∧ (x.kind == 5) = false ∧ ((x.kind == 3) = false ∨ ((x.kind == 3) = true ∧ x.args.length = 0)) := by
  unfold Ty.atomic at h
  have := ((wf_iff x).1 hw).1
  simp only [Bool.or_eq_true, Bool.and_eq_true, beq_iff_eq, List.isEmpty_iff] at h
  simp only [beq_eq_false_iff_ne, beq_iff_eq]
  rcases h with (h | h) | h
  · exact ⟨by omega, by omega, .inl (by omega)⟩
  · exact ⟨by omega, by omega, .inl (by omega)⟩
  · exact ⟨by omega, by omega, .inr ⟨h.1, by rw [h.2]; rfl⟩⟩
theorem par_cases {x : Ty} (hw : Wf x) (h : x.atomic = false) : (x.kind == 4) = true ∨ ((x.kind == 4) = false ∧ (x.kind == 5) = true) ∨ ((x.kind == 4) = false ∧ (x.kind == 5) = false ∧ (x.kind == 3) = true ∧ 0 < x.args.length) := by
  unfold Ty.atomic at h
  have h0 := ((wf_iff x).1 hw).1
  simp only [Bool.or_eq_false_iff, Bool.and_eq_false_iff, beq_eq_false_iff_ne, List.isEmpty_eq_false_iff] at h
  simp only [beq_eq_false_iff_ne, beq_iff_eq]
  rcases h0 with h0 | h0 | h0 | h0 | h0
  · omega
  · omega
  · exact .inr (.inr ⟨by omega, by omega, h0, by rcases h.2 with h | h; exact absurd h0 h; exact List.length_pos_iff.2 h⟩)
  · exact .inl h0.1
  · exact .inr (.inl ⟨by omega, h0.1⟩)

set_option maxRecDepth 100000 in
set_option maxHeartbeats 3200000 in
theorem rprint_con (t : Ty) (hk : t.kind = 3) (ih : ∀ u ∈ t.args, RPrintSaid u) : RPrintSaid t := by
  intro S a c w hA hS hw hl
  have hwf := (wf_iff t).1 hw
  have hz := (Below.refl w.heap.size w).alloc (Nat.le_refl _) (.cells #[.int .i64 t.kind, .string t.name, .int .i64 t.n, .slice a t.args.length c] 29)
  have b4 := R4.new w (.int .i64 t.kind) (.string t.name) (.int .i64 t.n) (.slice a t.args.length c)
  have hla : t.args.length ≤ 1099511627776 := by have := args_le t hk; omega
  have CC := Lib.hid (fun (i : Nat) (hi : i < t.args.length) (a' : Option Addr) (c' : Nat) (W : World) (hA' : ArgsAt S W (.slice a' t.args[i].args.length c') t.args[i].args) (h : Below w.heap.size w W) =>
    ih _ (List.getElem_mem hi) S a' c' W hA' (fun b hb => Nat.lt_of_lt_of_le (hS b hb) h.size) (hwf.2 _ (List.getElem_mem hi)) (by have h1 := clT_le t hk i hi; have h2 : (printT t.args[i]).length ≤ (clT t.args[i]).length := (by unfold clT paren; split <;> simp; omega); omega))
  have HA := Lib.hid hA
  have HS := Lib.hid hS
  have HL := Lib.hid hl
  have HK := Lib.hid hk
  have HW := Lib.hid hwf.2
  have HZ := Lib.hid hz
  have K4 := Lib.hid b4
  have c0 := b4.c0
  have c1 := b4.c1
  unfold tv
  rw [hk] at c0 c1 HZ K4 ⊢
  clear hA hS hw hl hwf hz b4 ih hk
  go_enter Tryz.func37, Tryz.ntmps37
  go_wp2
  go_loopw [3, 4] (fun sv iv wr => ∃ i : Nat, iv = .int .i64 i ∧ i ≤ t.args.length ∧ sv = .string (bytes (conS t i)) ∧ Below (w.alloc (.cells #[.int .i64 3, .string t.name, .int .i64 t.n, .slice a t.args.length c] 29)).heap.size (w.alloc (.cells #[.int .i64 3, .string t.name, .int .i64 t.n, .slice a t.args.length c] 29)) wr) (fun _ iv _ => t.args.length - (intOf iv).toNat)
  case atStart => exact ⟨0, rfl, Nat.zero_le _, by simp [conS, bytes], Below.refl _ _⟩
  case round =>
    clear c0 c1
    obtain ⟨i, rfl, hil, rfl, hB⟩ := hrel
    have z0 : (0 : Int) ≤ (i : Int) := by omega
    have hBw := HZ.out.trans (hB.mono HZ.out.size)
    have k3 := (K4.out.low hB).c3
    have BW := Lib.hid hBw
    have BH := Lib.hid hB
    have hcl := conS_le t HK.out i
    by_cases hi : i < t.args.length
    · have z1 : (i : Int) < (t.args.length : Int) := by omega
      obtain ⟨b, off, a', cap', rfl, hb, hf, hs⟩ := HA.out.at_ hi
      obtain ⟨f0, f1, f2, f3⟩ := hf.keep (hBw.block b (HS.out b hb))
      have hzr := (Below.refl wr.heap.size wr).alloc (Nat.le_refl _) (.cells #[.int .i64 t.args[i].kind, .string t.args[i].name, .int .i64 t.args[i].n, .slice a' t.args[i].args.length cap'] 29)
      have kx := R4.new wr (.int .i64 t.args[i].kind) (.string t.args[i].name) (.int .i64 t.args[i].n) (.slice a' t.args[i].args.length cap')
      have x0 := kx.c0
      have x1 := kx.c1
      have x2 := kx.c2
      have x3 := kx.c3
      have hBz := hBw.trans (hzr.mono hBw.size)
      have CH := Lib.hid (CC.out i hi a' cap' (wr.alloc (.cells #[.int .i64 t.args[i].kind, .string t.args[i].name, .int .i64 t.args[i].n, .slice a' t.args[i].args.length cap'] 29)) (hs.keep fun b hS => hBz.block b (HS.out b hS)) hBz)
      have ZR := Lib.hid (hB.trans (hzr.mono hB.size))
      have CA := Lib.hid (conS_add t i hi)
      have hlc := clT_le t HK.out i hi
      have hca : (conS t (i + 1)).length ≤ (printT t).length := conS_le t HK.out (i + 1)
      rw [conS_add t i hi, List.length_append, List.length_cons] at hca
      have hwx := HW.out _ (List.getElem_mem hi)
      cases hq : t.args[i].atomic with
      | true =>
        obtain ⟨e4, e5, e3⟩ := bare_cases hwx hq
        have CE : Hid (bytes (conS t i) ++ ⟨#[32]⟩ ++ bytes (printT t.args[i]) = bytes (conS t (i + 1))) := Lib.hid (by
          rw [CA.out]; unfold clT paren; rw [hq, if_pos rfl]
          show bytes _ ++ bytes [32] ++ bytes _ = _; rw [bytes_app, bytes_app]; simp)
        have hsz : (bytes (conS t i)).size + (bytes (printT t.args[i])).size + 1 ≤ 1099511627776 := by
          rw [bytes_size, bytes_size]; unfold clT paren at hca; rw [hq, if_pos rfl] at hca; have := HL.out; omega
        clear hf hs hB hBw hb hzr kx hBz hlc hca hwx hcl hq CC
        generalize t.args[i] = x at *
        generalize bytes (conS t i) = s0 at *
        rcases e3 with e3 | ⟨e3, el⟩
        all_goals
          (try (have el1 : decide ((0 : Int) < (x.args.length : Int)) = false := by rw [el]; rfl))
          (try (have el2 : ¬ (0 : Int) < (x.args.length : Int) := by omega))
          (try clear el)
          unfold tv at CH
          go_wp2_with fail
          refine CH.out.mono ?_
          rintro e w4 ⟨rfl, B4⟩
          have B5 := Lib.hid (ZR.out.trans (B4.mono ZR.out.size))
          clear B4 CH x0 x1 x2 x3 f0 f1 f2 f3 k3
          generalize bytes (printT x) = px at *
          go_wp2
          go_roundw
          case rel => exact ⟨i + 1, by go_num, by omega, by rw [← CE.out], B5.out⟩
          case measure => simp [intOf]; omega
      | false =>
        have CE : Hid (bytes (conS t i) ++ ⟨#[32, 40]⟩ ++ bytes (printT t.args[i]) ++ ⟨#[41]⟩ = bytes (conS t (i + 1))) := Lib.hid (by
          rw [CA.out]; unfold clT paren; rw [hq, if_neg (by decide)]
          show bytes _ ++ bytes [32, 40] ++ bytes _ ++ bytes [41] = _; rw [bytes_app, bytes_app, bytes_app]; simp)
        have hsz : (bytes (conS t i)).size + (bytes (printT t.args[i])).size + 3 ≤ 1099511627776 := by
          rw [bytes_size, bytes_size]; unfold clT paren at hca; rw [hq, if_neg (by decide)] at hca; simp at hca; have := HL.out; omega
        have e3 := par_cases hwx hq
        clear hf hs hB hBw hb hzr kx hBz hlc hca hwx hcl hq CC
        generalize t.args[i] = x at *
        generalize bytes (conS t i) = s0 at *
        rcases e3 with e4 | ⟨e4, e5⟩ | ⟨e4, e5, e3, el⟩
        all_goals
          (try (have el1 : decide ((0 : Int) < (x.args.length : Int)) = true := by rw [decide_eq_true_eq]; omega))
          (try (have el2 : (0 : Int) < (x.args.length : Int) := by omega))
          unfold tv at CH
          go_wp2_with fail
          refine CH.out.mono ?_
          rintro e w4 ⟨rfl, B4⟩
          have B5 := Lib.hid (ZR.out.trans (B4.mono ZR.out.size))
          clear B4 CH x0 x1 x2 x3 f0 f1 f2 f3 k3
          generalize bytes (printT x) = px at *
          go_wp2
          go_roundw
          case rel => exact ⟨i + 1, by go_num, by omega, by rw [← CE.out], B5.out⟩
          case measure => simp [intOf]; omega
    · obtain rfl : i = t.args.length := by omega
      have E : Hid (conS t t.args.length = printT t) := Lib.hid (conS_full t HK.out)
      clear hB hBw hcl CC
      go_wp2
      go_ret
      exact ⟨by rw [E.out]; rfl, BW.out⟩

theorem rprint_below (n : Nat) : ∀ t : Ty, t.depth ≤ n → RPrintSaid t := by
  induction n with
  | zero => intro t h; rw [t.depth_eq] at h; omega
  | succ n ih =>
    intro t hn
    have lower : ∀ u ∈ t.args, u.depth ≤ n := fun u hu => by have := depth_arg _ hu; rw [t.depth_eq] at hn; omega
    intro S a c w hA hS hw hl
    rcases ((wf_iff t).1 hw).1 with h | h | h | h | h
    · exact rprint_var t h.1 a c w
    · exact rprint_meta t h.1 h.2.2.1 h.2.2.2 a c w
    · exact rprint_con t h (fun u hu => ih u (lower u hu)) S a c w hA hS hw hl
    · obtain ⟨x, y, hxy⟩ : ∃ x y, t.args = [x, y] := by
        match hl : t.args, h.2 with
        | [x, y], _ => exact ⟨x, y, rfl⟩
      have lx := ih x (lower x (by rw [hxy]; simp))
      have ly := ih y (lower y (by rw [hxy]; simp))
      have hwx : Wf x := ((wf_iff t).1 hw).2 x (by rw [hxy]; simp)
      by_cases h4 : x.kind = 4
      · exact rprint_fun4 t h.1 x y hxy h4 lx ly S a c w hA hS hw hl
      · by_cases h5 : x.kind = 5
        · exact rprint_fun5 t h.1 x y hxy h5 lx ly S a c w hA hS hw hl
        · exact rprint_fun0 t h.1 x y hxy (by rcases ((wf_iff x).1 hwx).1 with g | g | g | g | g <;> omega) lx ly S a c w hA hS hw hl
    · obtain ⟨x, hx⟩ := one_arg h.2
      exact rprint_all t h.1 x hx (fun u hu => ih u (by omega)) S a c w hA hS hw hl

/-- the document's Print tells a type's text -/
theorem rprint_any (t : Ty) : RPrintSaid t := rprint_below t.depth t (Nat.le_refl _)

end Go.Proofs.YtofllmemmggapaaGreatDoor.Tp

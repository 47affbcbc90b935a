/- Texts laid together: RfDec. -/
import Derived.Test.YtofllmemmggapaaGreatDoorP08
import Derived.Test.YtofllmemmggapaaGreatDoorP06
import Derived.Test.YtofllmemmggapaaGreatDoorP24
import Derived.Deep.RegionHeld3
import Derived.Laws.IdiomStrings

/- The walk of the document's Decimal. -/
namespace Go.Proofs.YtofllmemmggapaaGreatDoor.Tp
open Go.RowKit

/-- one byte, as a text -/
theorem conv_one (W : World) (b r : Nat) (hr : r < 10) (h : W.cell? ⟨b, 0, none⟩ = some (.int .u8 (48 + (r : Int)))) :
    (convert 105 9 (.slice (some ⟨b, 0, none⟩) 1 1)).run Tryz.prog W = .ok (.string ⟨#[UInt8.ofNat (48 + r)]⟩) W := by
  refine run_convert_bytes_back W 105 9 5 ⟨b, 0, none⟩ 1 [UInt8.ofNat (48 + r)] Tryz.underlying105 Tryz.underlying5 Tryz.underlying9 (fun j hj => ?_)
  have hj0 : j = 0 := by simp at hj; omega
  subst hj0
  show W.cell? ((⟨b, 0, none⟩ : Addr).add 0) = _
  rw [show (⟨b, 0, none⟩ : Addr).add 0 = ⟨b, 0, none⟩ from rfl, h]
  congr 2
  show (48 + (r : Int)) = ((UInt8.ofNat (48 + r)).toNat : Int)
  rw [UInt8.toNat_ofNat']; omega

theorem cell_one (w : World) (v : Value) (t : TypeId) : (w.alloc (.cells #[v] t)).cell? ⟨w.heap.size, 0, none⟩ = some v := cell_of_row _ _ 0 _ _ _ (heap_alloc_new w _)

set_option maxRecDepth 100000 in
set_option maxHeartbeats 1600000 in
theorem decimal_small (n : Nat) (h : n < 10) (w : World) : Calls Tryz.prog 39 #[.int .i64 n] w (StrPost w (Lib.decDigits n)) := by
  have h1 : (n : Int) < 10 := by omega
  have h0 : (0 : Int) ≤ (n : Int) := by omega
  have hc := conv_one _ _ n h (cell_one w (.int .u8 (48 + (n : Int))) 5)
  have E : Hid (Lib.decDigits n = [UInt8.ofNat (48 + n)]) := Lib.hid (by rw [Lib.decDigits, dif_pos h])
  have HZ := Lib.hid ((Below.refl w.heap.size w).alloc (Nat.le_refl _) (.cells #[.int .u8 (48 + (n : Int))] 5))
  clear h
  generalize UInt8.ofNat (48 + n) = x at *
  go_enter Tryz.func39, Tryz.ntmps39
  go_wp2
  go_ret
  exact ⟨by rw [E.out]; rfl, HZ.out⟩

set_option maxRecDepth 100000 in
set_option maxHeartbeats 1600000 in
theorem decimal_big (N : Int) (q r : Nat) (h10 : ¬ N < 10) (hq : N.tdiv 10 = (q : Int)) (hr : N.tmod 10 = (r : Int)) (hr10 : r < 10) (hqb : q ≤ 1000000000000000000) (w : World) (ih : ∀ w, Calls Tryz.prog 39 #[.int .i64 (q : Int)] w (StrPost w (Lib.decDigits q))) (hl : (Lib.decDigits q).length ≤ 100) :
    Calls Tryz.prog 39 #[.int .i64 N] w (StrPost w (Lib.decDigits q ++ [UInt8.ofNat (48 + r)])) := by
  have hrI : (r : Int) < 10 := by omega
  have hrJ : (0 : Int) ≤ (r : Int) := by omega
  have hw1 : IntKind.i64.wrap (q : Int) = (q : Int) := by rw [IntKind.wrap_i64]; omega
  have hw2 : IntKind.i64.wrap (48 + (r : Int)) = 48 + (r : Int) := by rw [IntKind.wrap_i64]; omega
  have hw3 : IntKind.u8.wrap (48 + (r : Int)) = 48 + (r : Int) := by rw [IntKind.wrap_u8]; omega
  have hsz : (bytes (Lib.decDigits q)).size ≤ 100 := by rw [bytes_size]; exact hl
  have hc := conv_one ((w.alloc (.cells #[.int .u8 (48 + (r : Int))] 5)).drew) w.heap.size r hr10 (cell_one w (.int .u8 (48 + (r : Int))) 5)
  have F : Hid (bytes (Lib.decDigits q) ++ ⟨#[UInt8.ofNat (48 + r)]⟩ = bytes (Lib.decDigits q ++ [UInt8.ofNat (48 + r)])) := Lib.hid (bytes_app _ _)
  have HD := Lib.hid ((Below.refl w.heap.size w).drew)
  have HDA := Lib.hid (((Below.refl w.heap.size w).alloc (Nat.le_refl _) (.cells #[.int .u8 (48 + (r : Int))] 5)).drew)
  have IHA := Lib.hid (ih ((w.alloc (.cells #[.int .u8 (48 + (r : Int))] 5)).drew))
  have IHB := Lib.hid (ih w.drew)
  have HX1 := Lib.hid (fun (W : World) => conv_one _ _ r hr10 (cell_one W (.int .u8 (48 + (r : Int))) 5))
  have HX2 := Lib.hid (fun (W : World) (hb : Below ((w.alloc (.cells #[.int .u8 (48 + (r : Int))] 5)).drew).heap.size ((w.alloc (.cells #[.int .u8 (48 + (r : Int))] 5)).drew) W) => conv_one W w.heap.size r hr10 ((hb.cell (p := ⟨w.heap.size, 0, none⟩) (by simp)).trans (cell_one w (.int .u8 (48 + (r : Int))) 5)))
  clear ih hr10 hl
  unfold StrPost at IHA IHB
  generalize UInt8.ofNat (48 + r) = x at *
  generalize bytes (Lib.decDigits q) = sq at *
  go_enter Tryz.func39, Tryz.ntmps39
  go_wp2_with fail
  go_region_with
    (first
      | (go_at_call 39; (try simp only [hw1, hw2, hw3]); (with_reducible refine IHA.out.mono ?_); rintro e w1 ⟨rfl, hb1⟩; have hA2 := HX2.out w1 hb1; have HB := Lib.hid (HDA.out.trans (hb1.mono HDA.out.size)))
      | (go_at_call 39; (try simp only [hw1, hw2, hw3]); (with_reducible refine IHB.out.mono ?_); rintro e w1 ⟨rfl, hb1⟩; have hA1 := HX1.out w1; have HB := Lib.hid (HD.out.trans (hb1.mono HD.out.size))))
  all_goals
    go_wp2
    go_ret
    refine ⟨by rw [← F.out]; rfl, ?_⟩
    first
      | exact HB.out
      | exact HB.out.alloc HB.out.size _

theorem decimal_any : ∀ (n : Nat), n < 1000000000000000000 → ∀ w : World, Calls Tryz.prog 39 #[.int .i64 n] w (StrPost w (Lib.decDigits n)) := by
  intro n
  induction n using Nat.strongRecOn with
  | _ n ih =>
    intro hn w
    by_cases h : n < 10
    · exact decimal_small n h w
    · have e : Lib.decDigits n = Lib.decDigits (n / 10) ++ [UInt8.ofNat (48 + n % 10)] := by rw [Lib.decDigits, dif_neg h]
      rw [e]
      refine decimal_big n (n / 10) (n % 10) (by omega) ?_ ?_ (by omega) (by omega) w (ih (n / 10) (by omega) (by omega)) ?_
      · rw [Int.tdiv_eq_ediv_of_nonneg (by omega)]; omega
      · rw [Int.tmod_eq_emod_of_nonneg (by omega)]; omega
      · have := (dec_digits (n / 10)).2.2.2 18 (by omega) (show n / 10 < 10 ^ 18 by omega)
        omega

end Go.Proofs.YtofllmemmggapaaGreatDoor.Tp

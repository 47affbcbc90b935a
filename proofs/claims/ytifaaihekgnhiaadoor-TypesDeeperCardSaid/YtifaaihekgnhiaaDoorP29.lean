/- Texts laid together: TyPrintE, TyFresh. -/
import Derived.Test.YtifaaihekgnhiaaDoorP17
import Derived.Test.YtifaaihekgnhiaaDoorP11
import Derived.Test.YtifaaihekgnhiaaDoorP28

/- Print, whatever the type. -/
namespace Go.Proofs.YtifaaihekgnhiaaDoor.Tp
open Go.RowKit

theorem print_below (n : Nat) : ∀ t : Ty, t.depth ≤ n → PrintSaid t := by
  induction n with
  | zero => intro t h; rw [t.depth_eq] at h; omega
  | succ n ih =>
    intro t hn
    have lower : ∀ u ∈ t.args, u.depth ≤ n := fun u hu => by have := depth_arg _ hu; rw [t.depth_eq] at hn; omega
    intro S a c w hA hS hw hl ht
    rcases ((wf_iff t).1 hw).1 with h | h | h | h | h
    · exact print_var t h.1 a c w
    · exact print_meta t h.1 h.2.2.1 h.2.2.2 a c w ht
    · exact print_con t h (fun u hu => ih u (lower u hu)) S a c w hA hS hw hl ht
    · obtain ⟨x, y, hxy⟩ : ∃ x y, t.args = [x, y] := by
        match hl : t.args, h.2 with
        | [x, y], _ => exact ⟨x, y, rfl⟩
      exact print_fun t h.1 x y hxy (ih x (lower x (by rw [hxy]; simp))) (ih y (lower y (by rw [hxy]; simp))) S a c w hA hS hw hl ht
    · obtain ⟨x, hx⟩ := one_arg h.2
      exact print_all t h.1 x hx (fun u hu => ih u (by omega)) S a c w hA hS hw hl ht

/-- Print tells a type's text. -/
theorem print_any (t : Ty) : PrintSaid t := print_below t.depth t (Nat.le_refl _)

end Go.Proofs.YtifaaihekgnhiaaDoor.Tp

/- The walk of fresh. -/
namespace Go.Proofs.YtifaaihekgnhiaaDoor.Tp
open Go.RowKit Go.Sort

theorem itoa_any (n : Int) (h0 : -9223372036854775808 ≤ n) (h1 : n ≤ 9223372036854775807) (w : World) (ht : Tab w) :
    Calls Tryd.prog 25 #[.int .i64 n] w fun e w' => e = .returned (.string (bytes (Lib.itoa n))) ∧ Below w.heap.size w w' :=
  (Tryd.strconv_Itoa n h0 h1 w ht).mono fun e w' ⟨he, k, os, hw⟩ => ⟨he, by subst hw; exact Lib.below_grow _ _ (Nat.le_refl _) k os⟩

theorem fname_size (nm : ByteArray) (i : Nat) (hi : i ≤ 9223372036854775807) : (fname nm i).size ≤ 24 := by
  unfold fname
  rw [ByteArray.size_append, ByteArray.size_append, bytes_size]
  have h1 := Lib.itoa_length_le (i : Int) (by omega) (by omega)
  have h2 : (nm.extract 0 1).size ≤ 1 := by rw [ByteArray.size_extract]; omega
  have h3 : (⟨#[95]⟩ : ByteArray).size = 1 := rfl
  omega

set_option maxHeartbeats 1600000 in
theorem fresh_any (nm : ByteArray) (h1 : 1 ≤ nm.size) (S : Nat → Prop) (v : Value) (but : List ByteArray) (w : World) (hs : StrsAt S w v but) (hS : ∀ b, S b → b < w.heap.size) (ht : Tab w) :
    Calls Tryd.prog 35 #[.string nm, v] w fun e w' => e = .returned (.string (freshT nm but)) ∧ Below w.heap.size w w' := by
  have hl : but.length ≤ 1099511627776 := by obtain ⟨_, _, _, _, h, _⟩ := hs; exact h
  have HS := Lib.hid hs
  have HT := Lib.hid ht
  have HSS := Lib.hid hS
  have z1 : (1 : Int) ≤ (nm.size : Int) := by omega
  clear hs ht hS
  go_enter Tryd.func35, Tryd.ntmps35
  go_wp2
  go_loopw [5] (fun iv wr => ∃ i : Nat, iv = .int .i64 i ∧ i ≤ but.length ∧ (∀ j, j < i → hasN but (fname nm j) = true) ∧ Below w.heap.size w wr) (fun iv _ => but.length + 1 - (intOf iv).toNat)
  case atStart => exact ⟨0, rfl, Nat.zero_le _, fun j hj => by omega, Below.refl _ _⟩
  case round =>
    obtain ⟨i, rfl, hi, hall, hB⟩ := hrel
    have DI := Lib.hid (fun p => later_of (w := wr) (p := p) (itoa_any (i : Int) (by omega) (by omega) _ (tab_below HT.out (hB.trans ((later_below wr p).mono hB.size)))))
    have CC := Lib.hid (fun p => contains_any (HS.out.keep fun b hb => (hB.trans ((later_below wr p).mono hB.size)).block b (HSS.out b hb)) (fname nm i))
    have HB := Lib.hid hB
    have HA := Lib.hid hall
    have F : Hid (nm.extract 0 1 ++ ⟨#[95]⟩ ++ bytes (Lib.itoa (i : Int)) = fname nm i) := Lib.hid rfl
    have hil := Lib.itoa_length_le (i : Int) (by omega) (by omega)
    have hs1 : (bytes (Lib.itoa (i : Int))).size ≤ 21 := by rw [bytes_size]; exact hil
    have hs2 : (nm.extract 0 1).size ≤ 1 := by rw [ByteArray.size_extract]; omega
    clear hall hB hil
    go_wp2_with fail
    refine wp_region_later (by kernel_rfl) (by kernel_rfl) ?_
    repeat (go_big_quiet_step (exact DI.out _))
    refine wpQuiet_nil ?_
    intro _ hw'
    obtain ⟨pq, hw''⟩ := hw'
    subst hw''
    rw [F.out]
    have B1 := Lib.hid (HB.out.trans ((later_below wr pq).mono HB.out.size))
    have C1 := Lib.hid (CC.out pq)
    have hfs := fname_size nm i (by omega)
    cases hn : hasN but (fname nm i) with
    | true =>
      have HA2 := Lib.hid (show ∀ j, j < i + 1 → hasN but (fname nm j) = true from fun j hj => by
        rcases Nat.lt_or_ge j i with h | h
        · exact HA.out j h
        · rw [show j = i by omega]; exact hn)
      have hpg : i + 1 ≤ but.length := pigeon (fname nm) (fun _ _ => fname_inj) (i + 1) but 0 fun j hj => by
        rw [Nat.zero_add]
        refine (hasN_iff _ _).1 ?_
        rcases Nat.lt_or_ge j i with h | h
        · exact HA.out j h
        · rw [show j = i by omega]; exact hn
      rw [contains_hasN, hn] at C1
      generalize later wr pq = w1 at *
      clear hn F DI CC HA
      generalize fname nm i = fn at *
      go_wp2_with fail
      refine C1.out.mono ?_
      rintro e w' ⟨rfl, rfl⟩
      go_wp2
      go_roundw
      case rel => exact ⟨i + 1, by go_num, by omega, HA2.out, B1.out⟩
      case measure => simp [intOf]; omega
    | false =>
      have E : Hid (freshT nm but = fname nm i) := Lib.hid (by
        unfold freshT
        rw [firstN_eq (fname nm) but (but.length + 1) 0 i (by omega) (by omega) (fun j _ hj => HA.out j hj) hn])
      rw [contains_hasN, hn] at C1
      generalize later wr pq = w1 at *
      clear hn F DI CC HA
      generalize fname nm i = fn at *
      go_wp2_with fail
      refine C1.out.mono ?_
      rintro e w' ⟨rfl, rfl⟩
      go_wp2
      go_ret
      exact ⟨by rw [E.out]; rfl, B1.out⟩

end Go.Proofs.YtifaaihekgnhiaaDoor.Tp

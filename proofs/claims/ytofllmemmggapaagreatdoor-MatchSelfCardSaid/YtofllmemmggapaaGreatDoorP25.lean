/- Texts laid together: TyPoly, RfDepth. -/
import Derived.Test.YtofllmemmggapaaGreatDoorP14
import Derived.Test.YtofllmemmggapaaGreatDoorP24
import Derived.Test.YtofllmemmggapaaGreatDoorP08

/- The walk of Poly. -/
namespace Go.Proofs.YtofllmemmggapaaGreatDoor.Tp
open Go.RowKit

def BoolPost (w : World) (b : Bool) (e : Ending) (w' : World) : Prop := e = .returned (.bool b) ∧ Below w.heap.size w w'
def IdxPost (w : World) (b : Bool) (e : Ending) (w' : World) : Prop := ∃ k : Int, e = .returned (.int .i64 k) ∧ decide (0 ≤ k) = b ∧ Below w.heap.size w w'

theorem any_take_succ (l : List Ty) (p : Ty → Bool) (k : Nat) (h : k < l.length) : (l.take (k + 1)).any p = ((l.take k).any p || p l[k]) := by
  rw [List.take_add_one, List.getElem?_eq_getElem h, List.any_append]; simp only [Option.toList_some, List.any_cons, List.any_nil, Bool.or_false]

set_option maxHeartbeats 1600000 in
theorem index_any (f : FuncId) (hf : ∀ args w, (callFunc f args).run Tryz.prog w = .ok (.enter f args) w) (p : Ty → Bool) (ts : List Ty) (S : Nat → Prop) (a : Option Addr) (c : Nat) (w : World) (hA : ArgsAt S w (.slice a ts.length c) ts) (hS : ∀ b, S b → b < w.heap.size) (hl : ts.length ≤ 1099511627776)
    (hat : ∀ (i : Nat) (hi : i < ts.length) (a : Option Addr) (c : Nat) (W : World), Below w.heap.size w W → ArgsAt S W (.slice a ts[i].args.length c) ts[i].args → Calls Tryz.prog f (#[tv ts[i] a c] ++ #[]) W (BoolPost W (p ts[i]))) :
    Calls Tryz.prog 66 #[.slice a ts.length c, .func (.func f) #[] #[]] w (IdxPost w (ts.any p)) := by
  have HA := Lib.hid hA
  have HS := Lib.hid hS
  have HAT := Lib.hid hat
  clear hA hS hat
  go_enter Tryz.func66, Tryz.ntmps66
  go_wp2
  go_loopw [8] (fun iv wr => ∃ i : Nat, iv = .int .i64 i ∧ i ≤ ts.length ∧ (ts.take i).any p = false ∧ Below w.heap.size w wr) (fun iv _ => ts.length - (intOf iv).toNat)
  case atStart => exact ⟨0, rfl, Nat.zero_le _, rfl, Below.refl _ _⟩
  case round =>
    obtain ⟨i, rfl, hil, hno, hB⟩ := hrel
    have NO := Lib.hid hno
    have HB := Lib.hid hB
    clear hno
    by_cases hi : i < ts.length
    · have z0 : (0 : Int) ≤ (i : Int) := by omega
      have z1 : (i : Int) < (ts.length : Int) := by omega
      obtain ⟨b, off, a', c', rfl, hb, hf4, hs⟩ := HA.out.at_ hi
      obtain ⟨f0, f1, f2, f3⟩ := hf4.keep (hB.block b (HS.out b hb))
      have CF := Lib.hid (HAT.out i hi a' c' wr hB (hs.keep fun b hb => hB.block b (HS.out b hb)))
      have AT := Lib.hid (any_take_succ ts p i hi)
      unfold tv at *
      clear hB hf4 hs
      go_wp2_with fail
      refine CF.out.mono ?_
      rintro e W4 ⟨rfl, hb4⟩
      have B4' := Lib.hid (HB.out.trans (hb4.mono HB.out.size))
      clear hb4
      cases hp : p ts[i] with
      | true =>
        have hany : Hid (ts.any p = true) := Lib.hid (List.any_eq_true.2 ⟨_, List.getElem_mem hi, hp⟩)
        clear hp
        go_wp2
        go_ret
        exact ⟨i, rfl, by rw [hany.out]; exact decide_eq_true z0, B4'.out⟩
      | false =>
        have st : Hid ((ts.take (i + 1)).any p = false) := Lib.hid (by rw [AT.out, NO.out, hp]; rfl)
        clear hp
        go_wp2
        go_roundw
        case rel => exact ⟨i + 1, by go_num, by omega, st.out, B4'.out⟩
        case measure => simp [intOf]; omega
    · obtain rfl : i = ts.length := by omega
      clear hB
      go_wp2
      go_ret
      refine ⟨-1, rfl, ?_, HB.out⟩
      have := NO.out
      rw [List.take_length] at this
      rw [this]; rfl

set_option maxHeartbeats 1600000 in
theorem containsF_any (f : FuncId) (hf : ∀ args w, (callFunc f args).run Tryz.prog w = .ok (.enter f args) w) (p : Ty → Bool) (ts : List Ty) (S : Nat → Prop) (a : Option Addr) (c : Nat) (w : World) (hA : ArgsAt S w (.slice a ts.length c) ts) (hS : ∀ b, S b → b < w.heap.size) (hl : ts.length ≤ 1099511627776)
    (hat : ∀ (i : Nat) (hi : i < ts.length) (a : Option Addr) (c : Nat) (W : World), Below w.heap.size w W → ArgsAt S W (.slice a ts[i].args.length c) ts[i].args → Calls Tryz.prog f (#[tv ts[i] a c] ++ #[]) W (BoolPost W (p ts[i]))) :
    Calls Tryz.prog 43 #[.slice a ts.length c, .func (.func f) #[] #[]] w (BoolPost w (ts.any p)) := by
  have CI := Lib.hid (index_any f hf p ts S a c w hA hS hl hat)
  clear hA hS hat hf
  go_enter Tryz.func43, Tryz.ntmps43
  go_wp2_with fail
  refine CI.out.mono ?_
  rintro e w4 ⟨k, rfl, hk, hb4⟩
  have B4' := Lib.hid hb4
  have HK := Lib.hid hk
  clear hb4 hk
  go_wp2
  go_ret
  exact ⟨ret_bool HK.out, B4'.out⟩

theorem PolyEnters (args : Array Value) (w : World) : (callFunc 21 args).run Tryz.prog w = .ok (.enter 21 args) w :=
  enters_of Tryz.func21 (by kernel_rfl) rfl args w

set_option maxHeartbeats 1600000 in
theorem poly_any : ∀ (t : Ty) (S : Nat → Prop) (a : Option Addr) (c : Nat) (w : World), ArgsAt S w (.slice a t.args.length c) t.args → (∀ b, S b → b < w.heap.size) → t.size ≤ 1099511627776 →
    Calls Tryz.prog 21 #[tv t a c] w (BoolPost w (polyT t)) := by
  intro t
  induction t using Ty.ind with
  | h t ih =>
    intro S a c w hA hS hs
    have hz := (Below.refl w.heap.size w).alloc (Nat.le_refl _) (.cells #[.int .i64 t.kind, .string t.name, .int .i64 t.n, .slice a t.args.length c] 26)
    have b4 := B4.new w (.int .i64 t.kind) (.string t.name) (.int .i64 t.n) (.slice a t.args.length c)
    have c0 := b4.c0
    have c3 := b4.c3
    have hsz : ∀ x ∈ t.args, x.size ≤ 1099511627776 := fun x hx => by have := size_arg _ hx; rw [t.size_eq] at hs; omega
    have hll : t.args.length ≤ 1099511627776 := by have := length_le_sizeL t.args; rw [t.size_eq] at hs; omega
    have hpe := polyT_eq t
    cases h5 : (t.kind == 5) with
    | true =>
      rw [h5, Bool.true_or] at hpe
      have PE := Lib.hid hpe
      have HZ := Lib.hid hz
      unfold tv at *
      clear hz b4 hA hS ih hpe hsz
      go_enter Tryz.func21, Tryz.ntmps21
      go_wp2
      go_ret
      exact ⟨ret_bool PE.out.symm, HZ.out⟩
    | false =>
      rw [h5, Bool.false_or] at hpe
      have PE := Lib.hid hpe
      have HZ := Lib.hid hz
      have CI := Lib.hid (containsF_any 21 PolyEnters polyT t.args S a c _ (hA.keep fun b hb => hz.block b (hS b hb)) (fun b hb => Nat.lt_of_lt_of_le (hS b hb) hz.size) hll
        fun i hi a' c' W hW hA' => ih _ (List.getElem_mem hi) S a' c' W hA' (fun b hb => Nat.lt_of_lt_of_le (Nat.lt_of_lt_of_le (hS b hb) hz.size) hW.size) (hsz _ (List.getElem_mem hi)))
      unfold tv at *
      clear hz b4 hA hS ih hpe hsz
      go_enter Tryz.func21, Tryz.ntmps21
      go_wp2_with fail
      refine CI.out.mono ?_
      rintro e w4 ⟨rfl, hb4⟩
      have B4' := Lib.hid (HZ.out.trans (hb4.mono HZ.out.size))
      clear hb4
      go_wp2
      go_ret
      exact ⟨ret_bool PE.out.symm, B4'.out⟩

end Go.Proofs.YtofllmemmggapaaGreatDoor.Tp

/- The walks of the document's Depth and Poly. -/
namespace Go.Proofs.YtofllmemmggapaaGreatDoor.Tp
open Go.RowKit

set_option maxHeartbeats 1600000 in
theorem rdepth_any : ∀ (t : Ty) (S : Nat → Prop) (a : Option Addr) (c : Nat) (w : World), ArgsAt S w (.slice a t.args.length c) t.args → (∀ b, S b → b < w.heap.size) → t.depth ≤ 100000 →
    Calls Tryz.prog 55 #[tv t a c] w (IntPost w t.depth) := by
  intro t
  induction t using Ty.ind with
  | h t ih =>
    intro S a c w hA hS hd
    have hl : t.args.length ≤ 9223372036854775807 := by
      obtain ⟨_, _, _, h⟩ := hA.form
      exact h
    have hz := (Below.refl w.heap.size w).alloc (Nat.le_refl _) (.cells #[.int .i64 t.kind, .string t.name, .int .i64 t.n, .slice a t.args.length c] 29)
    have K4 := Lib.hid (R4.new w (.int .i64 t.kind) (.string t.name) (.int .i64 t.n) (.slice a t.args.length c))
    have HZ := Lib.hid hz
    have IH := Lib.hid ih
    have AH := Lib.hid hA
    have HN := Lib.hid hS
    have DE := Lib.hid t.depth_eq
    unfold tv
    clear ih hA hS hz
    go_enter Tryz.func55, Tryz.ntmps55
    go_wp2
    go_loopw [3, 4] (fun mv iv wr => ∃ i : Nat, iv = .int .i64 i ∧ i ≤ t.args.length ∧ mv = .int .i64 (depthL (t.args.take i) : Nat) ∧ Below (w.alloc (.cells #[.int .i64 t.kind, .string t.name, .int .i64 t.n, .slice a t.args.length c] 29)).heap.size (w.alloc (.cells #[.int .i64 t.kind, .string t.name, .int .i64 t.n, .slice a t.args.length c] 29)) wr) (fun _ iv _ => t.args.length - (intOf iv).toNat)
    case atStart => exact ⟨0, rfl, Nat.zero_le _, by simp [depthL], Below.refl _ _⟩
    case round =>
      obtain ⟨i, rfl, hil, rfl, hB⟩ := hrel
      have z0 : (0 : Int) ≤ (i : Int) := by omega
      have hBw := HZ.out.trans (hB.mono HZ.out.size)
      have k3 := (K4.out.low hB).c3
      have BW := Lib.hid hBw
      have BH := Lib.hid hB
      by_cases hi : i < t.args.length
      · have z1 : (i : Int) < (t.args.length : Int) := by omega
        obtain ⟨b, off, a', cap', rfl, hb, hf, hs⟩ := AH.out.at_ hi
        obtain ⟨f0, f1, f2, f3⟩ := hf.keep (hBw.block b (HN.out b hb))
        have hm := List.getElem_mem hi
        have hdi := depth_arg _ hm
        have hdt := depthL_take _ _ hi
        have CH := Lib.hid (IH.out _ hm S a' cap' wr (hs.keep fun b hS => hBw.block b (HN.out b hS)) (fun b hS => Nat.lt_of_lt_of_le (HN.out b hS) hBw.size) (by have := DE.out; omega))
        have DT := Lib.hid hdt
        have hdd : t.args[i].depth ≤ 100000 := by have := DE.out; omega
        have hdl : depthL (t.args.take i) ≤ depthL t.args := by
          conv => rhs; rw [← List.take_append_drop i t.args, depthL_append]
          omega
        have hdl2 : depthL (t.args.take i) ≤ 100000 := by have := DE.out; omega
        unfold tv at CH
        clear hf hs hB hBw hm hdi hdt hdl hb
        generalize t.args[i] = x at *
        generalize depthL (t.args.take i) = m at *
        go_wp2_with fail
        refine CH.out.mono ?_
        rintro e w4 ⟨rfl, B4⟩
        have B5 := Lib.hid (BH.out.trans (B4.mono BH.out.size))
        have em : (if m < x.depth then (x.depth : Int) else (m : Int)) = ((max m x.depth : Nat) : Int) := by split <;> omega
        clear B4
        go_wp2
        go_roundw
        case rel => exact ⟨i + 1, by go_num, by omega, by rw [DT.out]; congr 1; omega, B5.out⟩
        case measure => simp [intOf]; omega
      · obtain rfl : i = t.args.length := by omega
        have hdl2 : depthL t.args ≤ 100000 := by have := DE.out; omega
        clear hB hBw
        go_wp2
        go_ret
        exact ⟨ret_int (by rw [DE.out]; omega), BW.out⟩

set_option maxHeartbeats 1600000 in
theorem rpoly_any : ∀ (t : Ty) (S : Nat → Prop) (a : Option Addr) (c : Nat) (w : World), ArgsAt S w (.slice a t.args.length c) t.args → (∀ b, S b → b < w.heap.size) →
    Calls Tryz.prog 33 #[tv t a c] w (BoolPost w (polyT t)) := by
  intro t
  induction t using Ty.ind with
  | h t ih =>
    intro S a c w hA hS
    have hl : t.args.length ≤ 9223372036854775807 := by
      obtain ⟨_, _, _, h⟩ := hA.form
      exact h
    have hz := (Below.refl w.heap.size w).alloc (Nat.le_refl _) (.cells #[.int .i64 t.kind, .string t.name, .int .i64 t.n, .slice a t.args.length c] 29)
    have k4 := R4.new w (.int .i64 t.kind) (.string t.name) (.int .i64 t.n) (.slice a t.args.length c)
    have c0 := k4.c0
    have c3 := k4.c3
    have K4 := Lib.hid k4
    have HZ := Lib.hid hz
    have IH := Lib.hid ih
    have AH := Lib.hid hA
    have HN := Lib.hid hS
    have hpe := polyT_eq t
    unfold tv
    clear ih hA hS hz k4
    cases h5 : (t.kind == 5) with
    | true =>
      rw [h5, Bool.true_or] at hpe
      have PE := Lib.hid hpe
      clear hpe
      go_enter Tryz.func33, Tryz.ntmps33
      go_wp2
      go_ret
      exact ⟨ret_bool PE.out.symm, HZ.out⟩
    | false =>
      rw [h5, Bool.false_or] at hpe
      have PE := Lib.hid hpe
      clear hpe
      go_enter Tryz.func33, Tryz.ntmps33
      go_wp2
      clear c0 c3
      go_loopw [3] (fun iv wr => ∃ i : Nat, iv = .int .i64 i ∧ i ≤ t.args.length ∧ (t.args.take i).any polyT = false ∧ Below (w.alloc (.cells #[.int .i64 t.kind, .string t.name, .int .i64 t.n, .slice a t.args.length c] 29)).heap.size (w.alloc (.cells #[.int .i64 t.kind, .string t.name, .int .i64 t.n, .slice a t.args.length c] 29)) wr) (fun iv _ => t.args.length - (intOf iv).toNat)
      case atStart => exact ⟨0, rfl, Nat.zero_le _, rfl, Below.refl _ _⟩
      case round =>
        obtain ⟨i, rfl, hil, hno, hB⟩ := hrel
        have NO := Lib.hid hno
        have z0 : (0 : Int) ≤ (i : Int) := by omega
        have hBw := HZ.out.trans (hB.mono HZ.out.size)
        have k3 := (K4.out.low hB).c3
        have BW := Lib.hid hBw
        have BH := Lib.hid hB
        clear hno
        by_cases hi : i < t.args.length
        · have z1 : (i : Int) < (t.args.length : Int) := by omega
          obtain ⟨b, off, a', cap', rfl, hb, hf, hs⟩ := AH.out.at_ hi
          obtain ⟨f0, f1, f2, f3⟩ := hf.keep (hBw.block b (HN.out b hb))
          have CH := Lib.hid (IH.out _ (List.getElem_mem hi) S a' cap' wr (hs.keep fun b hS => hBw.block b (HN.out b hS)) (fun b hS => Nat.lt_of_lt_of_le (HN.out b hS) hBw.size))
          have AT := Lib.hid (any_take_succ t.args polyT i hi)
          unfold tv at CH
          clear hf hs hB hBw hb
          go_wp2_with fail
          refine CH.out.mono ?_
          rintro e w4 ⟨rfl, B4⟩
          have B5 := Lib.hid (BH.out.trans (B4.mono BH.out.size))
          clear B4
          cases hp : polyT t.args[i] with
          | true =>
            have hany : Hid (t.args.any polyT = true) := Lib.hid (List.any_eq_true.2 ⟨_, List.getElem_mem hi, hp⟩)
            clear hp
            go_wp2
            go_ret
            exact ⟨ret_bool (by rw [PE.out, hany.out]), HZ.out.trans (B5.out.mono HZ.out.size)⟩
          | false =>
            have st : Hid ((t.args.take (i + 1)).any polyT = false) := Lib.hid (by rw [AT.out, NO.out, hp]; rfl)
            clear hp
            go_wp2
            go_roundw
            case rel => exact ⟨i + 1, by go_num, by omega, st.out, B5.out⟩
            case measure => simp [intOf]; omega
        · obtain rfl : i = t.args.length := by omega
          have NP : Hid (t.args.any polyT = false) := Lib.hid (by have := NO.out; rwa [List.take_length] at this)
          clear hB hBw
          go_wp2
          go_ret
          exact ⟨ret_bool (by rw [PE.out, NP.out]), BW.out⟩

end Go.Proofs.YtofllmemmggapaaGreatDoor.Tp

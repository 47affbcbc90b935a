/- Texts laid together: RfDepth, RfParse. -/
import Derived.Test.YtofllmemmggapaaGreatDoorP21
import Derived.Test.YtofllmemmggapaaGreatDoorP28
import Derived.Test.YtofllmemmggapaaGreatDoorP27
import Derived.Test.YtofllmemmggapaaGreatDoorP34
import Derived.Test.YtofllmemmggapaaGreatDoorP35

/- The walks of the document's Depth and Poly. -/
namespace Go.Proofs.YtofllmemmggapaaGreatDoor.Tp
open Go.RowKit

set_option maxHeartbeats 1600000 in
theorem rdepth_any : ∀ (t : Ty) (S : Nat → Prop) (a : Option Addr) (c : Nat) (w : World), ArgsAt S w (.slice a t.args.length c) t.args → (∀ b, S b → b < w.heap.size) → t.depth ≤ 100000 →
    Calls Tryz.prog 55 #[tv t a c] w (IntPost w t.depth) := by
  intro t
  induction t using Ty.ind with
  | h t ih =>
    intro S a c w hA hS hd
    have hl : t.args.length ≤ 9223372036854775807 := by
      obtain ⟨_, _, _, h⟩ := hA.form
      exact h
    have hz := (Below.refl w.heap.size w).alloc (Nat.le_refl _) (.cells #[.int .i64 t.kind, .string t.name, .int .i64 t.n, .slice a t.args.length c] 29)
    have K4 := Lib.hid (R4.new w (.int .i64 t.kind) (.string t.name) (.int .i64 t.n) (.slice a t.args.length c))
    have HZ := Lib.hid hz
    have IH := Lib.hid ih
    have AH := Lib.hid hA
    have HN := Lib.hid hS
    have DE := Lib.hid t.depth_eq
    unfold tv
    clear ih hA hS hz
    go_enter Tryz.func55, Tryz.ntmps55
    go_wp2
    go_loopw [3, 4] (fun mv iv wr => ∃ i : Nat, iv = .int .i64 i ∧ i ≤ t.args.length ∧ mv = .int .i64 (depthL (t.args.take i) : Nat) ∧ Below (w.alloc (.cells #[.int .i64 t.kind, .string t.name, .int .i64 t.n, .slice a t.args.length c] 29)).heap.size (w.alloc (.cells #[.int .i64 t.kind, .string t.name, .int .i64 t.n, .slice a t.args.length c] 29)) wr) (fun _ iv _ => t.args.length - (intOf iv).toNat)
    case atStart => exact ⟨0, rfl, Nat.zero_le _, by simp [depthL], Below.refl _ _⟩
    case round =>
      obtain ⟨i, rfl, hil, rfl, hB⟩ := hrel
      have z0 : (0 : Int) ≤ (i : Int) := by omega
      have hBw := HZ.out.trans (hB.mono HZ.out.size)
      have k3 := (K4.out.low hB).c3
      have BW := Lib.hid hBw
      have BH := Lib.hid hB
      by_cases hi : i < t.args.length
      · have z1 : (i : Int) < (t.args.length : Int) := by omega
        obtain ⟨b, off, a', cap', rfl, hb, hf, hs⟩ := AH.out.at_ hi
        obtain ⟨f0, f1, f2, f3⟩ := hf.keep (hBw.block b (HN.out b hb))
        have hm := List.getElem_mem hi
        have hdi := depth_arg _ hm
        have hdt := depthL_take _ _ hi
        have CH := Lib.hid (IH.out _ hm S a' cap' wr (hs.keep fun b hS => hBw.block b (HN.out b hS)) (fun b hS => Nat.lt_of_lt_of_le (HN.out b hS) hBw.size) (by have := DE.out; omega))
        have DT := Lib.hid hdt
        have hdd : t.args[i].depth ≤ 100000 := by have := DE.out; omega
        have hdl : depthL (t.args.take i) ≤ depthL t.args := by
          conv => rhs; rw [← List.take_append_drop i t.args, depthL_append]
          omega
        have hdl2 : depthL (t.args.take i) ≤ 100000 := by have := DE.out; omega
        unfold tv at CH
        clear hf hs hB hBw hm hdi hdt hdl hb
        generalize t.args[i] = x at *
        generalize depthL (t.args.take i) = m at *
        go_wp2_with fail
        refine CH.out.mono ?_
        rintro e w4 ⟨rfl, B4⟩
        have B5 := Lib.hid (BH.out.trans (B4.mono BH.out.size))
        have em : (if m < x.depth then (x.depth : Int) else (m : Int)) = ((max m x.depth : Nat) : Int) := by split <;> omega
        clear B4
        go_wp2
        go_roundw
        case rel => exact ⟨i + 1, by go_num, by omega, by rw [DT.out]; congr 1; omega, B5.out⟩
        case measure => simp [intOf]; omega
      · obtain rfl : i = t.args.length := by omega
        have hdl2 : depthL t.args ≤ 100000 := by have := DE.out; omega
        clear hB hBw
        go_wp2
        go_ret
        exact ⟨ret_int (by rw [DE.out]; omega), BW.out⟩

set_option maxHeartbeats 1600000 in
theorem rpoly_any : ∀ (t : Ty) (S : Nat → Prop) (a : Option Addr) (c : Nat) (w : World), ArgsAt S w (.slice a t.args.length c) t.args → (∀ b, S b → b < w.heap.size) →
    Calls Tryz.prog 33 #[tv t a c] w (BoolPost w (polyT t)) := by
  intro t
  induction t using Ty.ind with
  | h t ih =>
    intro S a c w hA hS
    have hl : t.args.length ≤ 9223372036854775807 := by
      obtain ⟨_, _, _, h⟩ := hA.form
      exact h
    have hz := (Below.refl w.heap.size w).alloc (Nat.le_refl _) (.cells #[.int .i64 t.kind, .string t.name, .int .i64 t.n, .slice a t.args.length c] 29)
    have k4 := R4.new w (.int .i64 t.kind) (.string t.name) (.int .i64 t.n) (.slice a t.args.length c)
    have c0 := k4.c0
    have c3 := k4.c3
    have K4 := Lib.hid k4
    have HZ := Lib.hid hz
    have IH := Lib.hid ih
    have AH := Lib.hid hA
    have HN := Lib.hid hS
    have hpe := polyT_eq t
    unfold tv
    clear ih hA hS hz k4
    cases h5 : (t.kind == 5) with
    | true =>
      rw [h5, Bool.true_or] at hpe
      have PE := Lib.hid hpe
      clear hpe
      go_enter Tryz.func33, Tryz.ntmps33
      go_wp2
      go_ret
      exact ⟨ret_bool PE.out.symm, HZ.out⟩
    | false =>
      rw [h5, Bool.false_or] at hpe
      have PE := Lib.hid hpe
      clear hpe
      go_enter Tryz.func33, Tryz.ntmps33
      go_wp2
      clear c0 c3
      go_loopw [3] (fun iv wr => ∃ i : Nat, iv = .int .i64 i ∧ i ≤ t.args.length ∧ (t.args.take i).any polyT = false ∧ Below (w.alloc (.cells #[.int .i64 t.kind, .string t.name, .int .i64 t.n, .slice a t.args.length c] 29)).heap.size (w.alloc (.cells #[.int .i64 t.kind, .string t.name, .int .i64 t.n, .slice a t.args.length c] 29)) wr) (fun iv _ => t.args.length - (intOf iv).toNat)
      case atStart => exact ⟨0, rfl, Nat.zero_le _, rfl, Below.refl _ _⟩
      case round =>
        obtain ⟨i, rfl, hil, hno, hB⟩ := hrel
        have NO := Lib.hid hno
        have z0 : (0 : Int) ≤ (i : Int) := by omega
        have hBw := HZ.out.trans (hB.mono HZ.out.size)
        have k3 := (K4.out.low hB).c3
        have BW := Lib.hid hBw
        have BH := Lib.hid hB
        clear hno
        by_cases hi : i < t.args.length
        · have z1 : (i : Int) < (t.args.length : Int) := by omega
          obtain ⟨b, off, a', cap', rfl, hb, hf, hs⟩ := AH.out.at_ hi
          obtain ⟨f0, f1, f2, f3⟩ := hf.keep (hBw.block b (HN.out b hb))
          have CH := Lib.hid (IH.out _ (List.getElem_mem hi) S a' cap' wr (hs.keep fun b hS => hBw.block b (HN.out b hS)) (fun b hS => Nat.lt_of_lt_of_le (HN.out b hS) hBw.size))
          have AT := Lib.hid (any_take_succ t.args polyT i hi)
          unfold tv at CH
          clear hf hs hB hBw hb
          go_wp2_with fail
          refine CH.out.mono ?_
          rintro e w4 ⟨rfl, B4⟩
          have B5 := Lib.hid (BH.out.trans (B4.mono BH.out.size))
          clear B4
          cases hp : polyT t.args[i] with
          | true =>
            have hany : Hid (t.args.any polyT = true) := Lib.hid (List.any_eq_true.2 ⟨_, List.getElem_mem hi, hp⟩)
            clear hp
            go_wp2
            go_ret
            exact ⟨ret_bool (by rw [PE.out, hany.out]), HZ.out.trans (B5.out.mono HZ.out.size)⟩
          | false =>
            have st : Hid ((t.args.take (i + 1)).any polyT = false) := Lib.hid (by rw [AT.out, NO.out, hp]; rfl)
            clear hp
            go_wp2
            go_roundw
            case rel => exact ⟨i + 1, by go_num, by omega, st.out, B5.out⟩
            case measure => simp [intOf]; omega
        · obtain rfl : i = t.args.length := by omega
          have NP : Hid (t.args.any polyT = false) := Lib.hid (by have := NO.out; rwa [List.take_length] at this)
          clear hB hBw
          go_wp2
          go_ret
          exact ⟨ret_bool (by rw [PE.out, NP.out]), BW.out⟩

end Go.Proofs.YtofllmemmggapaaGreatDoor.Tp

/- The walk of the document's Parse. (Printed by gen_rfparse.py.) -/
namespace Go.Proofs.YtofllmemmggapaaGreatDoor.Tp
open Go.RowKit
open Lx

theorem tokR_scan (l : List UInt8) : TokR (scanR l).1 := by
  constructor
  · intro t ht h5
    cases tokK t (scanR_all l t ht) with
    | unk _ ds e n =>
      rw [e, List.tail_cons]
      exact ⟨n.len.2, by simp, n.digits⟩
    | var h _ _ _ | con h _ _ | key h _ | num h _ | sign2 h _ | sign h _ _ _ => omega
  · intro t ht hp
    cases tokK t (scanR_all l t ht) with
    | sign2 h _ | sign h _ _ _ => exact h
    | unk _ ds e n => rw [hp] at e; exact absurd (List.cons.inj e).1 (by decide)
    | var h n c k => rw [hp] at c; exact absurd c (by decide)
    | con h n c => rw [hp] at c; exact absurd c (by decide)
    | key h k => rw [hp] at k; exact absurd k (by decide)
    | num h n => have := n.digits 40 (by rw [hp]; decide); exact absurd this (by decide)

theorem rread_any (w : World) (a : Option Addr) (c : Nat) (l : List Tok) (ht : ToksAt w (.slice a l.length c) l) (hb : ∀ b o, a = some ⟨b, o, none⟩ → b < w.heap.size) (hr : TokR l) (hl : l.length ≤ 4000) :
    Calls Tryz.prog 54 #[.slice a l.length c, .int .i64 0] w (RrPost w l.length (readT l)) := by
  have := (rsaid (4 * l.length + 4)).typ w a c l 0 ht hb hr hl (Nat.zero_le _) (by omega)
  rwa [List.drop_zero] at this

set_option maxHeartbeats 3200000 in
theorem rparse_any (w : World) (s : ByteArray) (hs : s.size ≤ maxLen) : Calls Tryz.prog 28 #[.string s] w (ParsePost w (parseT s.data.toList)) := by
  have C := Lib.hid (rscan_any s (w.alloc (.cells #[.int .i64 0, .string ByteArray.empty, .int .i64 0, .slice none 0 0] 29)) hs)
  have b4 := Lib.hid (R4.new w (.int .i64 0) (.string ByteArray.empty) (.int .i64 0) (.slice none 0 0))
  have HZ := Lib.hid ((Below.refl w.heap.size w).alloc (Nat.le_refl _) (.cells #[.int .i64 0, .string ByteArray.empty, .int .i64 0, .slice none 0 0] 29))
  have hok := Lib.hid (tokR_scan s.data.toList)
  have hlen := scanR_length s.data.toList
  rcases hsc : scanR s.data.toList with ⟨ts, p, er⟩
  have hP := parse_eq hsc
  rw [hsc] at hok hlen
  have HSC := Lib.hid hsc
  have HP := Lib.hid hP
  clear hsc hP
  go_enter Tryz.func28, Tryz.ntmps28
  go_wp2_with fail
  refine C.out.mono ?_
  rintro e w1 ⟨v, rfl, hb, ho⟩
  rw [HSC.out] at ho ⊢
  have k4 := b4.out.low hb
  have c0 := k4.c0
  have c1 := k4.c1
  have c2 := k4.c2
  have c3 := k4.c3
  have f0 := k4.fr 0
  have f1 := k4.fr 1
  have f2 := k4.fr 2
  have f3 := k4.fr 3
  have K4 := Lib.hid k4
  have hb1 := HZ.out.trans (hb.mono (by simp))
  have B1 := Lib.hid hb1
  obtain ⟨va, vc, rfl⟩ := own_form ho
  have OW := Lib.hid ho
  have hw01 : Hid (w.heap.size + 1 ≤ w1.heap.size) := Lib.hid (by have := hb.size; simpa using this)
  clear k4 hb ho hb1
  by_cases her : er = 0
  · subst her
    have HP1 := HP.out
    rw [if_neg (by simp)] at HP1
    have RC := Lib.hid (rread_any w1 va vc ts (toksAt_of_owns OW.out) (fun b o e => (OW.out.lt b (by rw [e]; rfl)).2) hok.out hlen)
    have HP2 := Lib.hid HP1
    clear HP1
    go_wp2_with fail
    refine RC.out.mono ?_
    rintro e w2 ⟨hb2, hres⟩
    have k5 := K4.out.low hb2
    have K5 := Lib.hid k5
    have B2 := Lib.hid hb2
    cases hT : readT ts with
    | none =>
      rw [hT] at hres
      obtain ⟨jk, js, jn, ja, jc, jm, rfl⟩ := hres
      have zt : ((-1 : Int) != (ts.length : Int)) = true := by rw [bne_iff_ne]; omega
      have E : Hid (parseT s.data.toList = .error 20) := Lib.hid (by rw [HP2.out, hT])
      have hz := (Below.refl w2.heap.size w2).alloc (Nat.le_refl _) (.cells #[.int .i64 jk, .string js, .int .i64 jn, .slice ja jc jm] 29)
      have k6 := k5.low hz
      have K6 := Lib.hid k6
      have G6 := Lib.hid (B1.out.trans ((hb2.trans (hz.mono hb2.size)).mono B1.out.size))
      have d0 := k6.c0
      have d1 := k6.c1
      have d2 := k6.c2
      have d3 := k6.c3
      have h0 := k6.fr 0
      have h1 := k6.fr 1
      have h2 := k6.fr 2
      have h3 := k6.fr 3
      clear hT k5 hb2 hz k6
      go_wp2
      have q4 := K6.out.set4 (.int .i64 0) (.string ⟨#[]⟩) (.int .i64 0) (.slice none 0 0)
      have g4 := ((((G6.out.setCell (p := ⟨w.heap.size, 0, none⟩) (by simp) (.int .i64 0)).setCell (p := ⟨w.heap.size, 1, none⟩) (by simp) (.string ⟨#[]⟩)).setCell (p := ⟨w.heap.size, 2, none⟩) (by simp) (.int .i64 0)).setCell (p := ⟨w.heap.size, 3, none⟩) (by simp) (.slice none 0 0))
      refine bodyPost_ret (v := .tuple #[zv, .int .i64 20]) (by simp [results, Tryz.results28, go_sem, zv, q4.c0, q4.c1, q4.c2, q4.c3]) rfl ?_
      rw [E.out]
      exact ⟨g4, rfl⟩
    | some x =>
      obtain ⟨t, r⟩ := x
      rw [hT] at hres
      obtain ⟨a1, c, rfl, hA⟩ := hres
      have hsuf := (sufs (4 * ts.length + 4)).1 _ _ _ hT
      have hrl := hsuf.length_le
      have hz := (Below.refl w2.heap.size w2).alloc (Nat.le_refl _) (.cells #[.int .i64 t.kind, .string t.name, .int .i64 t.n, .slice a1 t.args.length c] 29)
      have k6 := k5.low hz
      have kt := R4.new w2 (.int .i64 t.kind) (.string t.name) (.int .i64 t.n) (.slice a1 t.args.length c)
      have K6 := Lib.hid k6
      have G6 := Lib.hid (B1.out.trans ((hb2.trans (hz.mono hb2.size)).mono B1.out.size))
      have A6 := Lib.hid (hA.keep (fun b hb => hz.block b hb.2))
      have hdp : t.depth ≤ 4000 := by have := (deep _).1 _ _ _ hT; omega
      have hE2 : parseT s.data.toList = if r ≠ [] then .error 20 else if 50 < t.depth then .error 3 else .ok t := by rw [HP2.out, hT]
      have d0 := k6.c0
      have d1 := k6.c1
      have d2 := k6.c2
      have d3 := k6.c3
      have h0 := k6.fr 0
      have h1 := k6.fr 1
      have h2 := k6.fr 2
      have h3 := k6.fr 3
      have t0 := kt.c0
      have t1 := kt.c1
      have t2 := kt.c2
      have t3 := kt.c3
      clear hT k5 hb2 hz k6 kt hA hsuf
      unfold tv
      by_cases hr : r = []
      · subst hr
        have zt : (((ts.length - ([] : List Tok).length : Nat) : Int) != (ts.length : Int)) = false := by simp
        have hE3 : parseT s.data.toList = if 50 < t.depth then .error 3 else .ok t := by rw [hE2, if_neg (by simp)]
        have CD := Lib.hid (rdepth_any t _ a1 c _ A6.out (fun b hb => by have := hb.2; simp; omega) (by omega))
        clear hE2
        unfold tv at CD
        by_cases hd : 50 < t.depth
        · have E : Hid (parseT s.data.toList = .error 3) := Lib.hid (by rw [hE3, if_pos hd])
          have hz0 : decide ((50 : Int) < (t.depth : Int)) = true := by simp; omega
          clear hE3
          go_wp2_with fail
          refine CD.out.mono ?_
          rintro e w4 ⟨rfl, hb4⟩
          have k7 := K6.out.low hb4
          have x0 := k7.c0
          have x1 := k7.c1
          have x2 := k7.c2
          have x3 := k7.c3
          have y0 := k7.fr 0
          have y1 := k7.fr 1
          have y2 := k7.fr 2
          have y3 := k7.fr 3
          have K7 := Lib.hid k7
          have G7 := Lib.hid (G6.out.trans (hb4.mono G6.out.size))
          clear k7
          go_wp2
          have q4 := K7.out.set4 (.int .i64 0) (.string ⟨#[]⟩) (.int .i64 0) (.slice none 0 0)
          have g4 := ((((G7.out.setCell (p := ⟨w.heap.size, 0, none⟩) (by simp) (.int .i64 0)).setCell (p := ⟨w.heap.size, 1, none⟩) (by simp) (.string ⟨#[]⟩)).setCell (p := ⟨w.heap.size, 2, none⟩) (by simp) (.int .i64 0)).setCell (p := ⟨w.heap.size, 3, none⟩) (by simp) (.slice none 0 0))
          refine bodyPost_ret (v := .tuple #[zv, .int .i64 3]) (by simp [results, Tryz.results28, go_sem, zv, q4.c0, q4.c1, q4.c2, q4.c3]) rfl ?_
          rw [E.out]
          exact ⟨g4, rfl⟩
        · have E : Hid (parseT s.data.toList = .ok t) := Lib.hid (by rw [hE3, if_neg hd])
          have hz0 : decide ((50 : Int) < (t.depth : Int)) = false := by simp; omega
          have KT6 := Lib.hid (R4.new w2 (.int .i64 t.kind) (.string t.name) (.int .i64 t.n) (.slice a1 t.args.length c))
          clear hE3
          go_wp2_with fail
          refine CD.out.mono ?_
          rintro e w4 ⟨rfl, hb4⟩
          have k7 := K6.out.low hb4
          have t7 := KT6.out.low hb4
          have x0 := k7.c0
          have x1 := k7.c1
          have x2 := k7.c2
          have x3 := k7.c3
          have y0 := k7.fr 0
          have y1 := k7.fr 1
          have y2 := k7.fr 2
          have y3 := k7.fr 3
          have z0 := t7.c0
          have z1 := t7.c1
          have z2 := t7.c2
          have z3 := t7.c3
          have K7 := Lib.hid k7
          have G7 := Lib.hid (G6.out.trans (hb4.mono G6.out.size))
          have A7 := Lib.hid (A6.out.keep (fun b hb => hb4.block b (by have := hb.2; simp; omega)))
          have H4 := Lib.hid hb4
          clear k7 t7 hb4
          go_wp2
          have q4 := K7.out.set4 (.int .i64 t.kind) (.string t.name) (.int .i64 t.n) (.slice a1 t.args.length c)
          have g4 := ((((G7.out.setCell (p := ⟨w.heap.size, 0, none⟩) (by simp) (.int .i64 t.kind)).setCell (p := ⟨w.heap.size, 1, none⟩) (by simp) (.string t.name)).setCell (p := ⟨w.heap.size, 2, none⟩) (by simp) (.int .i64 t.n)).setCell (p := ⟨w.heap.size, 3, none⟩) (by simp) (.slice a1 t.args.length c))
          refine bodyPost_ret (v := .tuple #[tv t a1 c, .int .i64 0]) (by simp [results, Tryz.results28, go_sem, tv, q4.c0, q4.c1, q4.c2, q4.c3]) rfl ?_
          rw [E.out]
          refine ⟨g4, a1, c, rfl, ?_⟩
          refine (A7.out.keep (B := (((w4.setCell ⟨w.heap.size, 0, none⟩ (.int .i64 t.kind)).setCell ⟨w.heap.size, 1, none⟩ (.string t.name)).setCell ⟨w.heap.size, 2, none⟩ (.int .i64 t.n)).setCell ⟨w.heap.size, 3, none⟩ (.slice a1 t.args.length c)) (fun b hb => ?_)).mono (fun b hb => ?_)
          · obtain ⟨b1, b2⟩ := hb
            have := hw01.out
            rw [Below.heap_setCell _ _ _ _ (by simp; omega), Below.heap_setCell _ _ _ _ (by simp; omega), Below.heap_setCell _ _ _ _ (by simp; omega), Below.heap_setCell _ _ _ _ (by simp; omega)]
          · obtain ⟨b1, b2⟩ := hb
            have h1 := hw01.out
            have h2 := H4.out.size
            simp at h2
            exact ⟨by omega, by simp; omega⟩
      · have E : Hid (parseT s.data.toList = .error 20) := Lib.hid (by rw [hE2, if_pos hr])
        have zt : (((ts.length - r.length : Nat) : Int) != (ts.length : Int)) = true := by
          rw [bne_iff_ne]
          have := List.length_pos_iff.2 hr
          omega
        clear hE2 hr
        generalize ts.length - r.length = rl at *
        go_wp2
        have q4 := K6.out.set4 (.int .i64 0) (.string ⟨#[]⟩) (.int .i64 0) (.slice none 0 0)
        have g4 := ((((G6.out.setCell (p := ⟨w.heap.size, 0, none⟩) (by simp) (.int .i64 0)).setCell (p := ⟨w.heap.size, 1, none⟩) (by simp) (.string ⟨#[]⟩)).setCell (p := ⟨w.heap.size, 2, none⟩) (by simp) (.int .i64 0)).setCell (p := ⟨w.heap.size, 3, none⟩) (by simp) (.slice none 0 0))
        refine bodyPost_ret (v := .tuple #[zv, .int .i64 20]) (by simp [results, Tryz.results28, go_sem, zv, q4.c0, q4.c1, q4.c2, q4.c3]) rfl ?_
        rw [E.out]
        exact ⟨g4, rfl⟩
  · have E : Hid (parseT s.data.toList = .error er) := Lib.hid (by rw [HP.out, if_pos her])
    have hz0 : ((er : Int) != 0) = true := by rw [bne_iff_ne]; omega
    go_wp2
    have q4 := K4.out.set4 (.int .i64 0) (.string ⟨#[]⟩) (.int .i64 0) (.slice none 0 0)
    have g4 := ((((B1.out.setCell (p := ⟨w.heap.size, 0, none⟩) (by simp) (.int .i64 0)).setCell (p := ⟨w.heap.size, 1, none⟩) (by simp) (.string ⟨#[]⟩)).setCell (p := ⟨w.heap.size, 2, none⟩) (by simp) (.int .i64 0)).setCell (p := ⟨w.heap.size, 3, none⟩) (by simp) (.slice none 0 0))
    refine bodyPost_ret (v := .tuple #[zv, .int .i64 er]) (by simp [results, Tryz.results28, go_sem, zv, q4.c0, q4.c1, q4.c2, q4.c3]) rfl ?_
    rw [E.out]
    exact ⟨g4, rfl⟩

end Go.Proofs.YtofllmemmggapaaGreatDoor.Tp

/-
  The law LexNumbers: for every number it returns true. No conditions.
-/
import Derived.Test.YtkikljdpmklmhaaLexAwake
import Derived.Test.YtkikljdpmklmhaaLexNum
import Derived.ProofKit
import Derived.OpenShut
import Derived.ShutString
import Derived.ChangeOld
import Derived.Below
namespace Go.Proofs.Ytkikljdpmklmhaa.lexNumbers
open Go.ChangeShapes Go.WideShapes Go.ChangeAt Go.RowKit
open Go.ChangeMaps (open_string shut_string)
open Lx

theorem bound_int (a : Int) (w : (Lit.int .i64 a).wf = true) : -9223372036854775808 ≤ a ∧ a ≤ 9223372036854775807 := by
  have hmin : IntKind.i64.min = -9223372036854775808 := rfl
  have hmax : IntKind.i64.max = 9223372036854775807 := rfl
  simp only [Lit.wf, Bool.and_eq_true, decide_eq_true_eq] at w
  omega

def dg (d : Nat) : UInt8 := UInt8.ofNat (48 + d)
theorem dg_nat (d : Nat) (h : d ≤ 9) : ((dg d).toNat : Int) = 48 + (d : Int) := by
  unfold dg
  have e : (UInt8.ofNat (48 + d)).toNat = 48 + d := by rw [UInt8.toNat_ofNat']; omega
  rw [e]; omega
theorem dg_digit (d : Nat) (h : d ≤ 9) : digitB (dg d) = true := by
  have := dg_nat d h
  simp only [digitB, decide_eq_true_eq]; omega
theorem dg_zero (d : Nat) (h : d ≤ 9) (h0 : 1 ≤ d) : dg d ≠ 48 := by
  intro e
  have h1 := dg_nat d h
  rw [e] at h1
  have h2 : ((48 : UInt8).toNat : Int) = 48 := rfl
  omega

theorem conv_digit (w : World) (x : Int) (d : Nat) (hd : d ≤ 9) (hx : x = 48 + (d : Int)) :
    (convert 34 9 (.slice (some ⟨w.heap.size, 0, none⟩) 1 1)).run Try.prog (w.alloc (.cells #[.int .u8 x] 5)) = .ok (.string ⟨#[dg d]⟩) (w.alloc (.cells #[.int .u8 x] 5)) := by
  refine run_convert_bytes_back (w.alloc (.cells #[.int .u8 x] 5)) 34 9 5 ⟨w.heap.size, 0, none⟩ 1 [dg d] Try.underlying34 Try.underlying5 Try.underlying9 ?_
  intro j hj
  obtain rfl : j = 0 := by simpa using hj
  rw [hx, ← dg_nat d hd]
  exact World.cell?_alloc_at _ _ _ _ rfl

theorem app_cons (a : UInt8) (l : List UInt8) : ((⟨#[a]⟩ : ByteArray) ++ (⟨l.toArray⟩ : ByteArray)) = ⟨(a :: l).toArray⟩ := by
  apply ByteArray.ext
  rw [ByteArray.data_append]
  simp

theorem pow_step (m len n : Nat) (h : m * 10 ^ len ≤ n) : m / 10 * 10 ^ (len + 1) ≤ n := by
  refine Nat.le_trans ?_ h
  rw [Nat.pow_succ, Nat.mul_comm (10 ^ len) 10, ← Nat.mul_assoc]
  exact Nat.mul_le_mul_right _ (Nat.div_mul_le_self m 10)

theorem pow_small (m len n : Nat) (h : m * 10 ^ len ≤ n) (hm : 1 ≤ m) (hn : n ≤ 9223372036854775807) : len ≤ 18 := by
  rcases Nat.lt_or_ge len 19 with h1 | h1
  · omega
  · exfalso
    have h2 : 10 ^ 19 ≤ 10 ^ len := Nat.pow_le_pow_right (by omega) h1
    have h3 : 1 * 10 ^ len ≤ m * 10 ^ len := Nat.mul_le_mul_right _ hm
    have h4 : (10 : Nat) ^ 19 = 10000000000000000000 := by decide
    omega

set_option maxHeartbeats 1600000 in
set_option maxRecDepth 100000 in
theorem walk (a0 : Int) (w0 : (Lit.int .i64 a0).wf = true) (w : World) :
    Calls Try.prog 7 #[.int .i64 a0] w fun e w' => e = .returned (.bool true) ∧ Below w.heap.size w w' := by
  obtain ⟨bl, bu⟩ := bound_int a0 w0
  by_cases hn : a0 < 0
  · go_enter Try.func7, Try.ntmps7
    go_wp2_with fail
    refine (awake_any _).mono ?_
    rintro e w1 ⟨rfl, hb1⟩
    have B1 := Lib.hid hb1
    clear hb1
    go_wp2
    go_ret
    exact ⟨rfl, B1.out⟩
  · obtain ⟨n, rfl⟩ := Int.eq_ofNat_of_zero_le (show 0 ≤ a0 by omega)
    go_enter Try.func7, Try.ntmps7
    go_wp2_with fail
    refine (awake_any _).mono ?_
    rintro e w1 ⟨rfl, hb1⟩
    have B1 := Lib.hid hb1
    clear hb1
    go_wp2
    go_loopw [4, 5] (fun s k wr => ∃ (l : List UInt8) (m : Nat), s = .string ⟨l.toArray⟩ ∧ k = .int .i64 m ∧ m ≤ n ∧ (∀ c ∈ l, digitB c = true) ∧ (l ≠ [] → 1 ≤ m) ∧ l.length ≤ 18 ∧ m * 10 ^ l.length ≤ n ∧ Below w.heap.size w wr) (fun _ k _ => (intOf k).toNat)
    case atStart => exact ⟨[], n, rfl, rfl, Nat.le_refl _, by simp, fun h => absurd rfl h, by simp, by simp, B1.out⟩
    case round =>
      obtain ⟨l, m, rfl, rfl, hm, hd, hl1, hl18, hpow, hbel⟩ := hrel
      have BL := Lib.hid hbel
      have HD := Lib.hid hd
      have HL := Lib.hid hl1
      have HP := Lib.hid hpow
      clear hbel hd hl1 hpow
      have hsz : (⟨l.toArray⟩ : ByteArray).size = l.length := rfl
      have HS := Lib.hid hsz
      clear hsz
      by_cases h9 : 9 < m
      · have kc := conv_digit wr (48 + (m : Int) % 10) (m % 10) (by omega) (by omega)
        go_wp2
        go_roundw
        case rel =>
          refine ⟨dg (m % 10) :: l, m / 10, by rw [app_cons], by go_num, by omega, ?_, fun _ => by omega, ?_, by rw [List.length_cons]; exact pow_step _ _ _ HP.out, BL.out.alloc BL.out.size _⟩
          · intro c hc
            rcases List.mem_cons.1 hc with rfl | hc
            · exact dg_digit _ (by omega)
            · exact HD.out c hc
          · have h1 := pow_small (m / 10) (l.length + 1) n (pow_step _ _ _ HP.out) (by omega) (by omega)
            simpa using h1
        case measure => simp [intOf]; omega
      · have kc := conv_digit wr (48 + (m : Int)) m (by omega) rfl
        have hd2 : ∀ c ∈ dg m :: l, digitB c = true := by
          intro c hc
          rcases List.mem_cons.1 hc with rfl | hc
          · exact dg_digit _ (by omega)
          · exact HD.out c hc
        have h02 : 1 < (dg m :: l).length → (dg m :: l).headD 0 ≠ 48 := by
          intro h
          refine dg_zero m (by omega) (HL.out ?_)
          intro e; rw [e] at h; simp at h
        have s1 := scanR_number (dg m :: l) (by simp; omega) (by simp) hd2 h02
        have s2 := scanR_meta (dg m :: l) (by simp; omega) (by simp) hd2 h02
        have S1 := Lib.hid s1
        have S2 := Lib.hid s2
        clear s1 s2 hd2 h02 HD HL HP
        go_wp2_with fail
        rw [app_cons]
        obtain ⟨sd, hsd⟩ : ∃ sd : ByteArray, sd = ⟨(dg m :: l).toArray⟩ := ⟨_, rfl⟩
        have q1 : scanR sd.data.toList = if 6 < sd.size then ([], 0, 10) else ([⟨4, sd.data.toList, 0⟩], 0, 0) := by rw [hsd]; exact S1.out
        have q2 : scanR ((⟨#[63]⟩ : ByteArray) ++ sd).data.toList = if 6 < sd.size then ([], 0, 10) else ([⟨5, ((⟨#[63]⟩ : ByteArray) ++ sd).data.toList, 0⟩], 0, 0) := by
          rw [hsd, app_cons]; exact S2.out
        have g1 : sd.size ≤ 4000 := by rw [hsd]; show (dg m :: l).length ≤ 4000; simp; omega
        rw [← hsd]
        clear hsd S1 S2 kc
        have z1 : sd.size ≤ maxLen := by unfold maxLen; omega
        have z2 : ((⟨#[63]⟩ : ByteArray) ++ sd).size ≤ maxLen := by rw [ByteArray.size_append]; unfold maxLen; show 1 + sd.size ≤ _; omega
        have Z1 := Lib.hid z1
        have Z2 := Lib.hid z2
        clear z1 z2
        by_cases h6 : 6 < sd.size
        · rw [if_pos h6] at q1 q2
          have Q1 := Lib.hid q1
          have Q2 := Lib.hid q2
          clear q1 q2
          refine (scan_res _ _ Z1.out Q1.out).mono ?_
          rintro e w2 ⟨a2, cap2, rfl, hb2, ht2⟩
          have B2 := Lib.hid hb2
          clear hb2 ht2
          go_wp2_with fail
          refine (scan_res _ _ Z2.out Q2.out).mono ?_
          rintro e w3 ⟨a3, cap3, rfl, hb3, ht3⟩
          have B3 := Lib.hid hb3
          clear hb3 ht3
          go_wp2
          go_ret
          have C1 := BL.out.alloc BL.out.size (.cells #[.int .u8 (48 + (m : Int))] 5)
          have C2 := C1.trans (B2.out.mono C1.size)
          exact ⟨rfl, C2.trans (B3.out.mono C2.size)⟩
        · rw [if_neg h6] at q1 q2
          have Q1 := Lib.hid q1
          have Q2 := Lib.hid q2
          clear q1 q2
          refine (scan_res _ _ Z1.out Q1.out).mono ?_
          rintro e w2 ⟨a2, cap2, rfl, hb2, ht2⟩
          have B2 := Lib.hid hb2
          have T2 := Lib.hid ht2
          clear hb2 ht2
          go_wp2_with fail
          refine (scan_res _ _ Z2.out Q2.out).mono ?_
          rintro e w3 ⟨a3, cap3, rfl, hb3, ht3⟩
          have B3 := Lib.hid hb3
          obtain ⟨x3, y3, he3, hc3, ht3⟩ := ht3
          rcases ht3 with ht3 | ⟨b3, off3, rfl, ht3⟩
          · simp at ht3
          injection he3 with he31 he32 he33
          subst he31
          obtain ⟨t1, t2, t3⟩ := ht3 0 (by simp)
          obtain ⟨x2, y2, he2, hc2, ht2⟩ := toksAt_below T2.out B3.out (Nat.le_refl _)
          rcases ht2 with ht2 | ⟨b2, off2, rfl, ht2⟩
          · simp at ht2
          injection he2 with he21 he22 he23
          subst he21
          obtain ⟨r1, r2, r3⟩ := ht2 0 (by simp)
          simp only [List.getElem_cons_zero, Nat.zero_mul, Nat.add_zero] at t1 t2 t3 r1 r2 r3
          have et : (⟨sd.data.toList.toArray⟩ : ByteArray) = sd := by simp
          have eu : (⟨((⟨#[63]⟩ : ByteArray) ++ sd).data.toList.toArray⟩ : ByteArray) = (⟨#[63]⟩ : ByteArray) ++ sd := by
            generalize (⟨#[63]⟩ : ByteArray) ++ sd = x; simp
          rw [et] at r2
          rw [eu] at t2
          clear hb3 ht3 ht2 et eu he22 he23 he32 he33 hc2 hc3 T2 Q1 Q2
          go_wp2
          go_ret
          have C1 := BL.out.alloc BL.out.size (.cells #[.int .u8 (48 + (m : Int))] 5)
          have C2 := C1.trans (B2.out.mono C1.size)
          exact ⟨rfl, C2.trans (B3.out.mono C2.size)⟩

/-! ### the row's step, as the kit's program proof-skeleton.mjs writes it -/
theorem own : ownKnob Try.prog.godebug = none := by kernel_rfl
theorem laidOut : laidOutB Try.prog = true := by kernel_rfl

set_option linter.unusedVariables false in
set_option maxRecDepth 100000 in
theorem lifted (os : Os) (started : os.Started) (H : Type) (enc : TypeId × Value → H) :
    ReturnsInHanded {} Try.checked os 7 .any (Rows.lexNumbersSpec.pre6 enc Try.prog Try.f7 Rows.lexNumbersRow.domain false) (Rows.lexNumbersSpec.post enc Try.prog Try.f7 false true false false) := by
  refine returnsInHanded_of_change (C := Try.checked) own started (by kernel_rfl) Try.func7
    (ChangeSpec.witness6 (enc := enc) (C := Try.checked) false ⟨#[], #[.int .i64 0], []⟩ 8 (by kernel_rfl) (by kernel_rfl) (by kernel_rfl) (by kernel_rfl)) ?_
  intro W base args ds gs before hval0 hW hcnd _
  have hval : ∀ (j : Nat) t v, Try.f7.params[j]? = some t → args[j]? = some v → Value.okWide Try.prog W .any base t v := hval0
  have hW' := hW
  obtain ⟨p, q, hA0, hV, rfl, hfz, hnd⟩ := hW
  have hA : DataW.TrodAll enc Try.prog W 0 (fun _ => true) true Try.f7.params.toList args.toList ds p := hA0
  rw [Try.params7] at hA hval
  obtain ⟨v0, vs0, d0, ds0, p0, q0, hargs, rfl, rfl, h0, r0⟩ := trodAll_cons hA
  obtain ⟨rfl, rfl, rfl⟩ := trodAll_nil r0
  obtain rfl : args = #[v0] := by cases args; simp_all
  obtain ⟨rfl, rfl⟩ := trodVars_none hV
  obtain ⟨a0, rfl, rfl, rfl, w0⟩ := open_int Try.underlying3 (hval 0 3 v0 rfl rfl) h0
  clear hA0 hval0
  refine (walk a0 w0 W).mono fun e W' ⟨he, bel⟩ => ?_
  subst he
  exact ⟨_, rfl, _, _, _, [], _, [], hW', trodAll_mk1 (shut_bool Try.underlying4 _), (trodAll_cons_mk (shut_int Try.underlying3 w0) trodAll_mk0), rfl, bel.frame _, fun h => by cases h⟩

theorem over : Rows.lexNumbersRow.holds Try.pinned (OpenSpec.ofChange Rows.lexNumbersSpec) :=
  OpenClaim.holds_of_wide 7 Try.f7 rfl rfl rfl rfl rfl rfl rfl ⟨rfl, rfl, rfl, rfl, rfl⟩ rfl rfl rfl rfl rfl (by kernel_rfl) Try.func7 (by kernel_rfl)
    (of_decide_eq_true (by kernel_rfl)) (by unfold Func.isWrapper; first | (rw [if_pos (by decide +kernel)]; kernel_rfl) | (rw [if_neg (by decide +kernel)]; exact ⟨rfl, rfl⟩))
    (fun os started H enc _ => lifted os started H enc)

/-- THE STATEMENT -/
theorem proved : Rows.LexNumbersSaid := over
#print axioms proved
end Go.Proofs.Ytkikljdpmklmhaa.lexNumbers

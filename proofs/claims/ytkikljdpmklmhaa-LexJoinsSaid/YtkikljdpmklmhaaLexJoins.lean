/-
  The law LexJoins: for every text and list of bools it returns true; both read as before. No conditions.
-/
import Derived.Test.YtkikljdpmklmhaaLexAwake
import Derived.Test.YtkikljdpmklmhaaLexJoin
import Derived.Deep.LoopGhost
import Derived.Deep.QuietTactic
import Derived.Deep.Grids
import Derived.BigQuiet
import Derived.ProofKit
import Derived.OpenShut
import Derived.ShutString
import Derived.ChangeOld
import Derived.Below
namespace Go.Proofs.Ytkikljdpmklmhaa.lexJoins
open Go.ChangeShapes Go.WideShapes Go.ChangeAt Go.RowKit Go.Deep
open Go.ChangeMaps (open_string shut_string)
open Lx

/-- v is a slice of bools, nil or not -/
def BoolsAt (w : World) (v : Value) (f : Nat → Bool) : Prop :=
  v = .slice none 0 0 ∨ ∃ x len cap, v = .slice (some x) len cap ∧ len ≤ cap ∧ cap ≤ maxLen ∧ ∀ i, i < cap → w.cell? (x.add i) = some (.bool (f i))

theorem opn1 {H : Type} {enc : TypeId × Value → H} {W : World} {base : Nat} {v : Value} {d : DataW H} {p : List MemPlace} (hok : Value.okWide Try.prog W .any base 31 v)
    (h : DataW.Trod enc Try.prog W 0 (fun _ => true) true 31 v d p) : ∃ f, BoolsAt W v f := by
  obtain ⟨a0, len, cap, rfl⟩ := okWide_slice Try.underlying31 hok
  obtain ⟨fuel, hf⟩ := h
  rcases open_bools Try.underlying31 Try.underlying4 (by kernel_rfl) hf with ⟨hcs, _⟩ | ⟨x, l, c, B, hcs, _, hl, hm, _, hcell⟩
  · simp [Value.cells] at hcs
    obtain ⟨rfl, rfl, rfl⟩ := hcs
    exact ⟨fun _ => false, .inl rfl⟩
  · simp [Value.cells] at hcs
    obtain ⟨rfl, rfl, rfl⟩ := hcs
    exact ⟨B, .inr ⟨x, _, _, rfl, hl, hm, hcell⟩⟩

theorem boolsAt_below {w w' : World} {v : Value} {f : Nat → Bool} (h : BoolsAt w v f) {B : Nat} (hb : Below B w w') (hB : w.heap.size ≤ B) : BoolsAt w' v f := by
  rcases h with h | ⟨x, len, cap, h1, h2, h3, h4⟩
  · exact .inl h
  · refine .inr ⟨x, len, cap, h1, h2, h3, fun i hi => ?_⟩
    have hc := h4 i hi
    have hlt := World.block_lt_of_cell? w _ hc
    exact (hb.cell (by omega)).trans hc

def lenOf : Value → Nat
  | .slice _ n _ => n
  | _ => 0

theorem app3 (a : List UInt8) (x : ByteArray) (s : List UInt8) : ((⟨a.toArray⟩ : ByteArray) ++ x ++ (⟨s.toArray⟩ : ByteArray)) = ⟨(a ++ x.data.toList ++ s).toArray⟩ := by
  apply ByteArray.ext
  rw [ByteArray.data_append, ByteArray.data_append]
  simp

theorem joinTo_step (f : Nat → Bool) (ts : List Tok) (k : Nat) (hk : k < ts.length) (b : Bool) (hb : f k = b) :
    ((⟨(joinTo f ts k).toArray⟩ : ByteArray) ++ (⟨ts[k].text.toArray⟩ : ByteArray) ++ (⟨(sepL b).toArray⟩ : ByteArray)) = ⟨(joinTo f ts (k + 1)).toArray⟩ := by
  rw [app3, joinTo, List.getElem?_eq_getElem hk, hb]; simp

set_option maxRecDepth 100000 in
set_option maxHeartbeats 12800000 in
theorem walk (w : World) (a0 : ByteArray) (w0 : a0.size ≤ maxLen) (v1 : Value) (a1 : Nat → Bool) (w1' : BoolsAt w v1 a1) :
    Calls Try.prog 5 #[.string a0, v1] w fun e w' => e = .returned (.bool true) ∧ Below w.heap.size w w' := by
  obtain ⟨an, len, cap, rfl⟩ : ∃ an len cap, v1 = .slice an len cap := by
    rcases w1' with rfl | ⟨x, len, cap, rfl, _⟩
    · exact ⟨_, _, _, rfl⟩
    · exact ⟨_, _, _, rfl⟩
  obtain ⟨ts, q, er, hr⟩ : ∃ ts q er, scanR a0.data.toList = (ts, q, er) := ⟨_, _, _, rfl⟩
  have hlen := scanR_length a0.data.toList
  rw [hr] at hlen
  simp only at hlen
  have R := Lib.hid hr
  clear hr
  by_cases her : er = 0
  · subst her
    have h4 : a0.size ≤ 4000 := by
      rcases Nat.lt_or_ge 4000 a0.size with h | h
      · have := R.out; rw [scanR_long _ (by simpa using h)] at this; simp at this
      · exact h
    have hcut : ∃ p, Cut a0.data.toList p ts := by
      have h1 := R.out
      rw [scanR_S _ (by simpa using h4)] at h1
      obtain ⟨ts', e1, hc⟩ := cut_of_scanS _ a0.data.toList 0 [] (Nat.le_refl _) (by rw [h1])
      rw [h1] at e1
      simp at e1
      rw [e1.1]
      exact ⟨0, hc⟩
    have hql := hcut.elim fun p hc => cut_text_le ts _ p hc
    have CT := Lib.hid hcut
    have QL := Lib.hid hql
    have BA := Lib.hid w1'
    clear hcut hql w1'
    obtain ⟨f, hf⟩ : ∃ f : Nat → Bool, f = fun i => decide (i < len) && a1 i := ⟨_, rfl⟩
    have HF := Lib.hid hf
    clear hf
    go_enter Try.func5, Try.ntmps5
    go_wp2_with fail
    refine (awake_any _).mono ?_
    rintro e w1 ⟨rfl, hb1⟩
    have B1 := Lib.hid hb1
    clear hb1
    go_wp2_with fail
    refine (scan_res _ _ w0 R.out).mono ?_
    rintro e w2 ⟨a2, cap2, rfl, hb2, ht2⟩
    have B2 := Lib.hid (B1.out.trans (hb2.mono B1.out.size))
    have T2 := Lib.hid ht2
    clear hb2 ht2
    go_wp2
    go_loop [9, 10] (fun s i => ∃ k : Nat, k ≤ ts.length ∧ i = .int .i64 k ∧ s = .string ⟨(joinTo f ts k).toArray⟩) (fun _ i => ts.length - (intOf i).toNat)
    case atStart => exact ⟨0, Nat.zero_le _, rfl, rfl⟩
    case round =>
      obtain ⟨k, hk, rfl, rfl⟩ := hrel
      have hjl : (⟨(joinTo f ts k).toArray⟩ : ByteArray).size ≤ 20000000 := by
        have h1 := joinTo_le f ts 4000 (fun t ht => by have := QL.out t ht; simp at this; omega) k
        have h2 : (⟨(joinTo f ts k).toArray⟩ : ByteArray).size = (joinTo f ts k).length := rfl
        have h3 : k * (4000 + 8) ≤ 4000 * 4008 := Nat.mul_le_mul (by omega) (by omega)
        omega
      by_cases hlt : k < ts.length
      · obtain ⟨x2, y2, he2, hc2, ht2⟩ := T2.out
        injection he2 with he21 he22 he23
        subst he21 he23
        rcases ht2 with ht2 | ⟨b2, off2, rfl, ht2⟩
        · rw [ht2] at hlt; exact absurd hlt (by simp)
        obtain ⟨d1, d2, d3⟩ := ht2 k hlt
        have hxl : (⟨ts[k].text.toArray⟩ : ByteArray).size ≤ 4000 := by
          have h1 := QL.out ts[k] (List.getElem_mem hlt)
          have h2 : (⟨ts[k].text.toArray⟩ : ByteArray).size = ts[k].text.length := rfl
          simp at h1; omega
        have st := joinTo_step f ts k hlt
        have ST := Lib.hid st
        clear st ht2 he22
        obtain ⟨J, hJ⟩ : ∃ J : ByteArray, J = ⟨(joinTo f ts k).toArray⟩ := ⟨_, rfl⟩
        rw [← hJ] at hjl ⊢
        have HJ := Lib.hid hJ
        clear hJ
        generalize hx : (⟨ts[k].text.toArray⟩ : ByteArray) = x at *
        rw [← HJ.out] at ST
        have HX := Lib.hid hx
        clear hx
        have z0 : (0 : Int) ≤ (k : Int) := by omega
        have z1 : (k : Int) < (ts.length : Int) := by omega
        by_cases hkl : k < len
        · rcases boolsAt_below BA.out B2.out (Nat.le_refl _) with hn | ⟨x1, len', cap', he1, hlc, hcm, hcell⟩
          · injection hn with _ hn2 _; omega
          injection he1 with he11 he12 he13
          subst he11 he12 he13
          have hck := hcell k (by omega)
          have z2 : (k : Int) < (len : Int) := by omega
          have z3 : decide (k < len) = true := decide_eq_true hkl
          have hfk : f k = a1 k := by rw [HF.out]; simp [hkl]
          clear hcell
          cases hb : a1 k
          · rw [hb] at hck hfk
            have S1 := Lib.hid (ST.out false hfk)
            clear hfk
            go_wp2
            go_round
            case rel => exact ⟨k + 1, by omega, by go_num, congrArg Value.string S1.out⟩
            case measure => simp [intOf]; omega
          · rw [hb] at hck hfk
            have S1 := Lib.hid (ST.out true hfk)
            clear hfk
            go_wp2
            go_round
            case rel => exact ⟨k + 1, by omega, by go_num, congrArg Value.string S1.out⟩
            case measure => simp [intOf]; omega
        · have z3 : decide (k < len) = false := decide_eq_false hkl
          have hfk : f k = false := by rw [HF.out]; simp [hkl]
          have S1 := Lib.hid (ST.out false hfk)
          clear hfk
          go_wp2
          go_round
          case rel => exact ⟨k + 1, by omega, by go_num, congrArg Value.string S1.out⟩
          case measure => simp [intOf]; omega
      · obtain rfl : k = ts.length := by omega
        rw [joinTo_all] at hjl ⊢
        obtain ⟨J, hJ⟩ : ∃ J : ByteArray, J = ⟨(joinFrom f 0 ts).toArray⟩ := ⟨_, rfl⟩
        rw [← hJ] at hjl ⊢
        have hjd : J.data.toList = joinFrom f 0 ts := by rw [hJ]
        have hjs : J.size = (joinFrom f 0 ts).length := by rw [hJ]; rfl
        clear hJ
        by_cases h4k : 4000 < J.size
        · clear hjd hjs
          go_wp2
          go_ret
          exact ⟨rfl, B2.out⟩
        · obtain ⟨p, hc⟩ := CT.out
          obtain ⟨us, hu, hal⟩ := join_scan f ts _ p hc (by omega)
          rw [← hjd] at hu
          have RU := Lib.hid hu
          have AL := Lib.hid hal
          have hll := hal.length
          have LL := Lib.hid hll
          have zn : ((us.length : Int) != (ts.length : Int)) = false := by rw [hll]; simp
          clear hjd hjs hc hu hal hll
          go_wp2_with fail
          refine (scan_res _ _ (by unfold maxLen; omega) RU.out).mono ?_
          rintro e w3 ⟨a3, cap3, rfl, hb3, ht3⟩
          have B3 := Lib.hid (B2.out.trans (hb3.mono B2.out.size))
          have T3 := Lib.hid ht3
          have T2c := Lib.hid (toksAt_below T2.out hb3 (Nat.le_refl _))
          clear hb3 ht3
          go_wp2
          go_loopw [14] (fun i wr => ∃ k : Nat, k ≤ ts.length ∧ i = .int .i64 k ∧ ∃ n, wr = w3.drewN n) (fun i _ => ts.length - (intOf i).toNat)
          case atStart => exact ⟨0, Nat.zero_le _, rfl, 0, rfl⟩
          case round =>
            obtain ⟨k, hk, rfl, n, rfl⟩ := hrel
            by_cases hlt : k < ts.length
            · have hlu : k < us.length := by have := LL.out; omega
              obtain ⟨x2, y2, he2, hc2, ht2⟩ := T2c.out
              injection he2 with he21 he22 he23
              subst he21 he23
              rcases ht2 with ht2 | ⟨b2, off2, rfl, ht2⟩
              · rw [ht2] at hlt; exact absurd hlt (by simp)
              obtain ⟨d1, d2, d3⟩ := ht2 k hlt
              obtain ⟨x3, y3, he3, hc3, ht3⟩ := T3.out
              injection he3 with he31 he32 he33
              subst he31 he33
              rcases ht3 with ht3 | ⟨b3, off3, rfl, ht3⟩
              · rw [ht3] at hlu; exact absurd hlu (by simp)
              obtain ⟨c1, c2, c3⟩ := ht3 k hlu
              obtain ⟨l1, l2⟩ := AL.out.at k hlu hlt
              rw [l1] at c1
              rw [l2] at c2
              have z0 : (0 : Int) ≤ (k : Int) := by omega
              have z1 : (k : Int) < (ts.length : Int) := by omega
              have z2 : (k : Int) < (us.length : Int) := by omega
              clear ht2 ht3 l1 l2 he22 he32
              generalize ts[k] = tk at *
              go_wp2
              go_quiet (fail)
              go_wp2
              go_roundw
              case rel => exact ⟨k + 1, by omega, by go_num, _, rfl⟩
              case measure => simp [intOf]; omega
            · go_wp2
              go_ret
              exact ⟨rfl, below_drewN B3.out n⟩
  · go_enter Try.func5, Try.ntmps5
    have hez : ((er : Int) != 0) = true := by simpa using her
    go_wp2_with fail
    refine (awake_any _).mono ?_
    rintro e w1 ⟨rfl, hb1⟩
    have B1 := Lib.hid hb1
    clear hb1
    go_wp2_with fail
    refine (scan_res _ _ w0 R.out).mono ?_
    rintro e w2 ⟨a2, cap2, rfl, hb2, ht2⟩
    have B2 := Lib.hid (B1.out.trans (hb2.mono B1.out.size))
    clear hb2 ht2
    go_wp2
    go_ret
    exact ⟨rfl, B2.out⟩

/-! ### the row's step, as the kit's program proof-skeleton.mjs writes it -/
theorem own : ownKnob Try.prog.godebug = none := by kernel_rfl
theorem laidOut : laidOutB Try.prog = true := by kernel_rfl

set_option linter.unusedVariables false in
set_option maxRecDepth 100000 in
theorem lifted (os : Os) (started : os.Started) (H : Type) (enc : TypeId × Value → H) :
    ReturnsInHanded {} Try.checked os 5 .any (Rows.lexJoinsSpec.pre6 enc Try.prog Try.f5 Rows.lexJoinsRow.domain false) (Rows.lexJoinsSpec.post enc Try.prog Try.f5 false true false false) := by
  refine returnsInHanded_of_change (C := Try.checked) own started (by kernel_rfl) Try.func5
    (ChangeSpec.witness6 (enc := enc) (C := Try.checked) false ⟨#[], #[.string ByteArray.empty, .slice none 0 0], []⟩ 8 (by kernel_rfl) (by kernel_rfl) (by kernel_rfl) (by kernel_rfl)) ?_
  intro W base args ds gs before hval0 hW hcnd _
  have hval : ∀ (j : Nat) t v, Try.f5.params[j]? = some t → args[j]? = some v → Value.okWide Try.prog W .any base t v := hval0
  have hW' := hW
  obtain ⟨p, q, hA0, hV, rfl, hfz, hnd⟩ := hW
  have hA : DataW.TrodAll enc Try.prog W 0 (fun _ => true) true Try.f5.params.toList args.toList ds p := hA0
  rw [Try.params5] at hA hval
  obtain ⟨v0, vs0, d0, ds0, p0, q0, hargs, rfl, rfl, h0, r0⟩ := trodAll_cons hA
  obtain ⟨v1, vs1, d1, ds1, p1, q1, rfl, rfl, rfl, h1, r1⟩ := trodAll_cons r0
  obtain ⟨rfl, rfl, rfl⟩ := trodAll_nil r1
  obtain rfl : args = #[v0, v1] := by cases args; simp_all
  obtain ⟨rfl, rfl⟩ := trodVars_none hV
  obtain ⟨a0, rfl, rfl, rfl, w0⟩ := open_string Try.underlying9 (hval 0 9 v0 rfl rfl) h0
  have k1 := h1
  have lt1 : ∀ x ∈ p1, x.block < W.heap.size := by obtain ⟨m, hm⟩ := k1; exact DataW.trod_lt m _ _ _ hm
  obtain ⟨a1, w1⟩ := opn1 (hval 1 31 v1 rfl rfl) h1
  clear hA0 hval0
  refine (walk W a0 w0 v1 a1 w1).mono fun e W' ⟨he, bel⟩ => ?_
  subst he
  exact ⟨_, rfl, _, _, _, [], _, [], hW', trodAll_mk1 (shut_bool Try.underlying4 _), (trodAll_cons_mk (shut_string Try.underlying9 w0) (trodAll_cons_mk (Below.trod laidOut (by kernel_rfl) (of_decide_eq_true (by kernel_rfl)) k1 bel lt1) trodAll_mk0)), rfl, bel.frame _, fun h => by cases h⟩

theorem over : Rows.lexJoinsRow.holds Try.pinned (OpenSpec.ofChange Rows.lexJoinsSpec) :=
  OpenClaim.holds_of_wide 5 Try.f5 rfl rfl rfl rfl rfl rfl rfl ⟨rfl, rfl, rfl, rfl, rfl⟩ rfl rfl rfl rfl rfl (by kernel_rfl) Try.func5 (by kernel_rfl)
    (of_decide_eq_true (by kernel_rfl)) (by unfold Func.isWrapper; first | (rw [if_pos (by decide +kernel)]; kernel_rfl) | (rw [if_neg (by decide +kernel)]; exact ⟨rfl, rfl⟩))
    (fun os started H enc _ => lifted os started H enc)

/-- THE STATEMENT -/
theorem proved : Rows.LexJoinsSaid := over
#print axioms proved
end Go.Proofs.Ytkikljdpmklmhaa.lexJoins

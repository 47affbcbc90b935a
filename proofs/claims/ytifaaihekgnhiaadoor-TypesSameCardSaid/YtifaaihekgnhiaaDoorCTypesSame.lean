/- The walk of TypesSame. -/
import Derived.Test.YtifaaihekgnhiaaDoorP46
import Derived.Test.YtifaaihekgnhiaaDoorP36
import Derived.Deep.RegionHeld3
import Derived.Deep.CutRange
import Derived.Test.YtifaaihekgnhiaaDoorP13
import Derived.Test.YtifaaihekgnhiaaDoorCards
import Derived.Test.YtifaaihekgnhiaaDoorTie
import Derived.SevenTiedAt

/- What the laws' walks want besides. -/
namespace Go.Proofs.YtifaaihekgnhiaaDoor.Tp
open Go.RowKit

theorem drawn_below {B : Nat} {a w : World} (h : Below B a w) (n : Nat) : Below B a (w.drewN n) := h.trans ⟨rfl, rfl, rfl, Nat.le_refl _, fun _ _ => rfl⟩
/-- whatever Parse tells -/
def SomePost (w : World) (e : Ending) (w' : World) : Prop :=
  ∃ (k n : Int) (s : ByteArray) (a : Option Addr) (l c er : Nat), e = .returned (.tuple #[.agg #[.int .i64 k, .string s, .int .i64 n, .slice a l c], .int .i64 er]) ∧ Below w.heap.size w (w'.alloc (.cells #[.int .i64 k, .string s, .int .i64 n, .slice a l c] 25))
theorem parse_some (w : World) (s : ByteArray) (hs : s.size ≤ maxLen) : Calls Tryd.prog 9 #[.string s] w (SomePost w) := by
  cases h : parseT s.data.toList with
  | error er =>
    refine (parse_bad w s hs h).mono ?_
    rintro e w' ⟨rfl, _, hB⟩
    exact ⟨0, 0, _, none, 0, 0, er, rfl, hB⟩
  | ok t =>
    refine (parse_ok w s hs h).mono ?_
    rintro e w' ⟨a, c, rfl, _, _, hB⟩
    exact ⟨_, _, _, a, _, c, 0, rfl, hB⟩

theorem metaAcc_len : ∀ (t : Ty) (out : List Int) (ns : List ByteArray), (walkF metaStep t out ns).length ≤ out.length + t.size := by
  intro t
  induction t using Ty.ind with
  | h t ih =>
    intro out ns
    rw [walkF_eq, t.size_eq]
    have h1 : (metaStep out t ns).length ≤ out.length + 1 := by unfold metaStep; split <;> simp
    have : ∀ (l : List Ty) (out : List Int) (ns : List ByteArray), (∀ a ∈ l, ∀ (out : List Int) (ns : List ByteArray), (walkF metaStep a out ns).length ≤ out.length + a.size) → (walkL metaStep l out ns).length ≤ out.length + sizeL l := by
      intro l
      induction l with
      | nil => intro out ns _; simp [walkL, sizeL]
      | cons a l ihl =>
        intro out ns h
        rw [walkL, sizeL]
        have := ihl (walkF metaStep a out ns) ns fun b hb => h b (by simp [hb])
        have := h a (by simp) out ns
        omega
    have := this t.args (metaStep out t ns) (if t.kind = 5 then t.name :: ns else ns) ih
    omega
theorem metasT_len (t : Ty) : (metasT t).length ≤ t.size := by have := metaAcc_len t [] []; simpa [metasT] using this


end Go.Proofs.YtifaaihekgnhiaaDoor.Tp

/- The walk of TypesSame. -/
namespace Go.Proofs.YtifaaihekgnhiaaDoor.Tp
open Go.RowKit

set_option maxHeartbeats 6400000 in
set_option maxRecDepth 100000 in
theorem typesSame_walk (a0 : ByteArray) (w0 : a0.size ≤ maxLen) (a1 : ByteArray) (w1' : a1.size ≤ maxLen) (w : World) (hT : Tab w) :
    Calls Tryd.prog 4 #[.string a0, .string a1] w fun e w' => e = .returned (.bool true) ∧ Below w.heap.size w w' := by
  have HT := Lib.hid hT
  clear hT
  cases hp : parseT a0.data.toList with
  | error er =>
    have her : ((er : Int) != 0) = true := by have := parse_er hp; rw [bne_iff_ne]; omega
    cases hq : parseT a1.data.toList with
    | error er2 =>
      have her2 : ((er2 : Int) != 0) = true := by have := parse_er hq; rw [bne_iff_ne]; omega
      go_enter Tryd.func4, Tryd.ntmps4
      go_wp2_with fail
      refine (awake_any _ HT.out).mono ?_
      rintro e w1 ⟨rfl, hB⟩
      have B_1 := Lib.hid (hB)
      clear hB
      go_wp2_with fail
      refine (parse_bad _ a0 w0 hp).mono ?_
      rintro e w2 ⟨rfl, hb, hB⟩
      clear hb
      have B_2 := Lib.hid (B_1.out.trans (hB.mono B_1.out.size))
      clear hB B_1
      go_wp2_with fail
      refine (parse_bad _ a1 w1' hq).mono ?_
      rintro e w3 ⟨rfl, hb, hB⟩
      clear hb
      have B_3 := Lib.hid (B_2.out.trans (hB.mono B_2.out.size))
      clear hB B_2
      go_wp2
      go_ret
      exact ⟨rfl, B_3.out⟩
    | ok u =>
      go_enter Tryd.func4, Tryd.ntmps4
      go_wp2_with fail
      refine (awake_any _ HT.out).mono ?_
      rintro e w1 ⟨rfl, hB⟩
      have B_1 := Lib.hid (hB)
      clear hB
      go_wp2_with fail
      refine (parse_bad _ a0 w0 hp).mono ?_
      rintro e w2 ⟨rfl, hb, hB⟩
      clear hb
      have B_2 := Lib.hid (B_1.out.trans (hB.mono B_1.out.size))
      clear hB B_1
      go_wp2_with fail
      refine (parse_ok _ a1 w1' hq).mono ?_
      rintro e w3 ⟨aU, cU, rfl, hb, hR, hB⟩
      clear hb
      have B_3 := Lib.hid (B_2.out.trans (hB.mono B_2.out.size))
      have RU_3 := Lib.hid hR
      clear hB hR B_2
      go_wp2
      go_ret
      exact ⟨rfl, B_3.out⟩
  | ok t =>
    cases hq : parseT a1.data.toList with
    | error er2 =>
      have her2 : ((er2 : Int) != 0) = true := by have := parse_er hq; rw [bne_iff_ne]; omega
      go_enter Tryd.func4, Tryd.ntmps4
      go_wp2_with fail
      refine (awake_any _ HT.out).mono ?_
      rintro e w1 ⟨rfl, hB⟩
      have B_1 := Lib.hid (hB)
      clear hB
      go_wp2_with fail
      refine (parse_ok _ a0 w0 hp).mono ?_
      rintro e w2 ⟨aT, cT, rfl, hb, hR, hB⟩
      clear hb
      have B_2 := Lib.hid (B_1.out.trans (hB.mono B_1.out.size))
      have RT_2 := Lib.hid hR
      clear hB hR B_1
      go_wp2_with fail
      refine (parse_bad _ a1 w1' hq).mono ?_
      rintro e w3 ⟨rfl, hb, hB⟩
      clear hb
      have RT_3 := Lib.hid (RT_2.out.low hB)
      have B_3 := Lib.hid (B_2.out.trans (hB.mono B_2.out.size))
      clear hB RT_2 B_2
      go_wp2
      go_ret
      exact ⟨rfl, B_3.out⟩
    | ok u =>
      have SM := Lib.hid (small_parse hp)
      have SU := Lib.hid (small_parse hq)
      obtain ⟨hm, hd, _, hsz⟩ := parse_made hp
      obtain ⟨um, ud, _, usz⟩ := parse_made hq
      have HP := Lib.hid hp
      have HQ := Lib.hid hq
      have FLFT : Hid ((freeT t).length ≤ 1099511627776) := Lib.hid (by have := freeT_len t; omega)
      have FLFU : Hid ((freeT u).length ≤ 1099511627776) := Lib.hid (by have := freeT_len u; omega)
      have FLMT : Hid ((metasT t).length ≤ 1099511627776) := Lib.hid (by have := metasT_len t; omega)
      have FLMU : Hid ((metasT u).length ≤ 1099511627776) := Lib.hid (by have := metasT_len u; omega)
      have hdt : t.depth ≤ 100000 := by omega
      have hdu : u.depth ≤ 100000 := by omega
      have S3 : Hid (decide (canonS t = canonS t) = true) := Lib.hid (decide_eq_true rfl)
      by_cases hc : canonS t = canonS u
      · have hdb := db_same hm.1 um.1 (canon_inj hm um (by omega) (by omega) hc)
        have S1 : Hid (decide (canonS t = canonS u) = true) := Lib.hid (decide_eq_true hc)
        have S2 : Hid (decide (canonS u = canonS t) = true) := Lib.hid (decide_eq_true hc.symm)
        have S4 : Hid (sameN (freeT t) (freeT u) = true) := Lib.hid (sameN_true hdb.1)
        have S5 : Hid (decide (metasT t = metasT u) = true) := Lib.hid (decide_eq_true hdb.2.1)
        have S6 : ((t.depth : Int) == (u.depth : Int)) = true := by rw [hdb.2.2]; simp
        have S7 := beqN_true (congrArg bytes hc)
        clear hp hq hm hd um ud hsz usz hc hdb
        go_enter Tryd.func4, Tryd.ntmps4
        go_wp2_with fail
        refine (awake_any _ HT.out).mono ?_
        rintro e w1 ⟨rfl, hB⟩
        have B_1 := Lib.hid (hB)
        clear hB
        go_wp2_with fail
        refine (parse_ok _ a0 w0 HP.out).mono ?_
        rintro e w2 ⟨aT, cT, rfl, hb, hR, hB⟩
        clear hb
        have B_2 := Lib.hid (B_1.out.trans (hB.mono B_1.out.size))
        have RT_2 := Lib.hid hR
        clear hB hR B_1
        go_wp2_with fail
        refine (parse_ok _ a1 w1' HQ.out).mono ?_
        rintro e w3 ⟨aU, cU, rfl, hb, hR, hB⟩
        clear hb
        have RT_3 := Lib.hid (RT_2.out.low hB)
        have B_3 := Lib.hid (B_2.out.trans (hB.mono B_2.out.size))
        have RU_3 := Lib.hid hR
        clear hB hR RT_2 B_2
        have k0 := RT_3.out.k.c0
        have k1 := RT_3.out.k.c1
        have k2 := RT_3.out.k.c2
        have k3 := RT_3.out.k.c3
        have l0 := RU_3.out.k.c0
        have l1 := RU_3.out.k.c1
        have l2 := RU_3.out.k.c2
        have l3 := RU_3.out.k.c3
        have C := Lib.hid (same_h RT_3.out.at_ RU_3.out.at_ SM.out SU.out (tab_below HT.out B_3.out))
        go_wp2_with fail
        refine C.out.mono ?_
        rintro e w4 ⟨rfl, hB⟩
        clear C k0 k1 k2 k3 l0 l1 l2 l3
        have RT_4 := Lib.hid (RT_3.out.low hB)
        have RU_4 := Lib.hid (RU_3.out.low hB)
        have B_4 := Lib.hid (B_3.out.trans (hB.mono B_3.out.size))
        clear hB RT_3 RU_3 B_3
        rw [S1.out]
        have k0 := RU_4.out.k.c0
        have k1 := RU_4.out.k.c1
        have k2 := RU_4.out.k.c2
        have k3 := RU_4.out.k.c3
        have l0 := RT_4.out.k.c0
        have l1 := RT_4.out.k.c1
        have l2 := RT_4.out.k.c2
        have l3 := RT_4.out.k.c3
        have C := Lib.hid (same_h RU_4.out.at_ RT_4.out.at_ SU.out SM.out (tab_below HT.out B_4.out))
        go_wp2_with fail
        refine C.out.mono ?_
        rintro e w5 ⟨rfl, hB⟩
        clear C k0 k1 k2 k3 l0 l1 l2 l3
        have RT_5 := Lib.hid (RT_4.out.low hB)
        have RU_5 := Lib.hid (RU_4.out.low hB)
        have B_5 := Lib.hid (B_4.out.trans (hB.mono B_4.out.size))
        clear hB RT_4 RU_4 B_4
        rw [S2.out]
        have k0 := RT_5.out.k.c0
        have k1 := RT_5.out.k.c1
        have k2 := RT_5.out.k.c2
        have k3 := RT_5.out.k.c3
        have C := Lib.hid (same_h RT_5.out.at_ RT_5.out.at_ SM.out SM.out (tab_below HT.out B_5.out))
        go_wp2_with fail
        refine C.out.mono ?_
        rintro e w6 ⟨rfl, hB⟩
        clear C k0 k1 k2 k3
        have RT_6 := Lib.hid (RT_5.out.low hB)
        have RU_6 := Lib.hid (RU_5.out.low hB)
        have B_6 := Lib.hid (B_5.out.trans (hB.mono B_5.out.size))
        clear hB RT_5 RU_5 B_5
        rw [S3.out]
        go_upto_region 9 with fail
        go_cut [13] from 46 to 50 (fun s wx => s = .bool (sameN (freeT t) (freeT u)) ∧ Below (w6).heap.size (w6) wx)
        case first =>
          have k0 := RT_6.out.k.c0
          have k1 := RT_6.out.k.c1
          have k2 := RT_6.out.k.c2
          have k3 := RT_6.out.k.c3
          have l0 := RU_6.out.k.c0
          have l1 := RU_6.out.k.c1
          have l2 := RU_6.out.k.c2
          have l3 := RU_6.out.k.c3
          have HD := Lib.hid ((Below.refl (w6).heap.size (w6)).drew)
          have CF1 := Lib.hid (fun (W : World) (h : Below (w6).heap.size (w6) W) => free_h (RT_6.out.low h).at_ SM.out)
          have CF2 := Lib.hid (fun (W : World) (h : Below (w6).heap.size (w6) W) => free_h (RU_6.out.low h).at_ SU.out)
          have KD : Hid (∀ W : World, Below (w6).heap.size (w6) W → (W.cell? ⟨w2.heap.size, 0, none⟩ = some (.int .i64 t.kind) ∧ W.cell? ⟨w2.heap.size, 1, none⟩ = some (.string t.name) ∧ W.cell? ⟨w2.heap.size, 2, none⟩ = some (.int .i64 t.n) ∧ W.cell? ⟨w2.heap.size, 3, none⟩ = some (.slice aT t.args.length cT) ∧ W.cell? ⟨w3.heap.size, 0, none⟩ = some (.int .i64 u.kind) ∧ W.cell? ⟨w3.heap.size, 1, none⟩ = some (.string u.name) ∧ W.cell? ⟨w3.heap.size, 2, none⟩ = some (.int .i64 u.n) ∧ W.cell? ⟨w3.heap.size, 3, none⟩ = some (.slice aU u.args.length cU))) := Lib.hid (fun W h => ⟨(RT_6.out.low h).k.c0, (RT_6.out.low h).k.c1, (RT_6.out.low h).k.c2, (RT_6.out.low h).k.c3, (RU_6.out.low h).k.c0, (RU_6.out.low h).k.c1, (RU_6.out.low h).k.c2, (RU_6.out.low h).k.c3⟩)
          go_region_held3 (fun w' => w'.cell? ⟨w2.heap.size, 0, none⟩ = some (.int .i64 t.kind) ∧ w'.cell? ⟨w2.heap.size, 1, none⟩ = some (.string t.name) ∧ w'.cell? ⟨w2.heap.size, 2, none⟩ = some (.int .i64 t.n) ∧ w'.cell? ⟨w2.heap.size, 3, none⟩ = some (.slice aT t.args.length cT) ∧ w'.cell? ⟨w3.heap.size, 0, none⟩ = some (.int .i64 u.kind) ∧ w'.cell? ⟨w3.heap.size, 1, none⟩ = some (.string u.name) ∧ w'.cell? ⟨w3.heap.size, 2, none⟩ = some (.int .i64 u.n) ∧ w'.cell? ⟨w3.heap.size, 3, none⟩ = some (.slice aU u.args.length cU))
            (first | (with_reducible exact KD.out _ HZ.out) | (with_reducible exact KD.out _ HY.out) | (with_reducible exact KD.out _ HX.out) | (with_reducible exact KD.out _ HD.out))
            (first
              | (go_at_call 14; (with_reducible refine (CF1.out _ HD.out).mono ?_); rintro e wx ⟨v1, rfl, own1, len1, hb1⟩; obtain ⟨ya, yc, rfl⟩ := own_form own1; have HX := Lib.hid (HD.out.trans (hb1.mono HD.out.size)); have O1 := Lib.hid own1; clear hb1 own1 len1)
              | (go_at_call 14; (with_reducible refine (CF2.out _ HX.out).mono ?_); rintro e wy ⟨v2, rfl, own2, len2, hb2⟩; obtain ⟨za, zc, rfl⟩ := own_form own2; have HY := Lib.hid (HX.out.trans (hb2.mono HX.out.size)); have CN := Lib.hid (names_any _ _ _ _ _ _ wy ((StrsAt.of_own O1.out FLFT.out).keep fun b hb => hb2.block b (O1.out.lt b hb).2) (StrsAt.of_own own2 FLFU.out)); clear hb2 own2 len2)
              | (go_at_call 13; (with_reducible refine CN.out.mono ?_); rintro e wz ⟨rfl, nq, rfl⟩; have HZ := Lib.hid (drawn_below HY.out nq)))
          all_goals
            go_wp2_with fail
            go_meet
            exact ⟨rfl, HZ.out⟩
        obtain ⟨rfl, hB⟩ := hcut
        have RT_7 := Lib.hid (RT_6.out.low hB)
        have RU_7 := Lib.hid (RU_6.out.low hB)
        have B_7 := Lib.hid (B_6.out.trans (hB.mono B_6.out.size))
        clear hB RT_6 RU_6 B_6
        have hwF : ∃ wF : World, wF = wc := ⟨_, rfl⟩
        obtain ⟨wF, hwF⟩ := hwF
        subst hwF
        rw [S4.out]
        go_upto_region 10 with fail
        go_cut [14] from 51 to 55 (fun s wx => s = .bool (decide (metasT t = metasT u)) ∧ Below (wF).heap.size (wF) wx)
        case first =>
          have k0 := RT_7.out.k.c0
          have k1 := RT_7.out.k.c1
          have k2 := RT_7.out.k.c2
          have k3 := RT_7.out.k.c3
          have l0 := RU_7.out.k.c0
          have l1 := RU_7.out.k.c1
          have l2 := RU_7.out.k.c2
          have l3 := RU_7.out.k.c3
          have HD := Lib.hid ((Below.refl (wF).heap.size (wF)).drew)
          have CF1 := Lib.hid (fun (W : World) (h : Below (wF).heap.size (wF) W) => metas_h (RT_7.out.low h).at_ SM.out)
          have CF2 := Lib.hid (fun (W : World) (h : Below (wF).heap.size (wF) W) => metas_h (RU_7.out.low h).at_ SU.out)
          have KD : Hid (∀ W : World, Below (wF).heap.size (wF) W → (W.cell? ⟨w2.heap.size, 0, none⟩ = some (.int .i64 t.kind) ∧ W.cell? ⟨w2.heap.size, 1, none⟩ = some (.string t.name) ∧ W.cell? ⟨w2.heap.size, 2, none⟩ = some (.int .i64 t.n) ∧ W.cell? ⟨w2.heap.size, 3, none⟩ = some (.slice aT t.args.length cT) ∧ W.cell? ⟨w3.heap.size, 0, none⟩ = some (.int .i64 u.kind) ∧ W.cell? ⟨w3.heap.size, 1, none⟩ = some (.string u.name) ∧ W.cell? ⟨w3.heap.size, 2, none⟩ = some (.int .i64 u.n) ∧ W.cell? ⟨w3.heap.size, 3, none⟩ = some (.slice aU u.args.length cU))) := Lib.hid (fun W h => ⟨(RT_7.out.low h).k.c0, (RT_7.out.low h).k.c1, (RT_7.out.low h).k.c2, (RT_7.out.low h).k.c3, (RU_7.out.low h).k.c0, (RU_7.out.low h).k.c1, (RU_7.out.low h).k.c2, (RU_7.out.low h).k.c3⟩)
          go_region_held3 (fun w' => w'.cell? ⟨w2.heap.size, 0, none⟩ = some (.int .i64 t.kind) ∧ w'.cell? ⟨w2.heap.size, 1, none⟩ = some (.string t.name) ∧ w'.cell? ⟨w2.heap.size, 2, none⟩ = some (.int .i64 t.n) ∧ w'.cell? ⟨w2.heap.size, 3, none⟩ = some (.slice aT t.args.length cT) ∧ w'.cell? ⟨w3.heap.size, 0, none⟩ = some (.int .i64 u.kind) ∧ w'.cell? ⟨w3.heap.size, 1, none⟩ = some (.string u.name) ∧ w'.cell? ⟨w3.heap.size, 2, none⟩ = some (.int .i64 u.n) ∧ w'.cell? ⟨w3.heap.size, 3, none⟩ = some (.slice aU u.args.length cU))
            (first | (with_reducible exact KD.out _ HZ.out) | (with_reducible exact KD.out _ HY.out) | (with_reducible exact KD.out _ HX.out) | (with_reducible exact KD.out _ HD.out))
            (first
              | (go_at_call 16; (with_reducible refine (CF1.out _ HD.out).mono ?_); rintro e wx ⟨v1, rfl, own1, len1, hb1⟩; obtain ⟨ya, yc, rfl⟩ := own_form own1; have HX := Lib.hid (HD.out.trans (hb1.mono HD.out.size)); have O1 := Lib.hid own1; clear hb1 own1 len1)
              | (go_at_call 16; (with_reducible refine (CF2.out _ HX.out).mono ?_); rintro e wy ⟨v2, rfl, own2, len2, hb2⟩; obtain ⟨za, zc, rfl⟩ := own_form own2; have HY := Lib.hid (HX.out.trans (hb2.mono HX.out.size)); have CN := Lib.hid (numbers_any _ _ _ _ _ _ wy ((NumsAt.of_own O1.out FLMT.out).keep fun b hb => hb2.block b (O1.out.lt b hb).2) (NumsAt.of_own own2 FLMU.out)); clear hb2 own2 len2)
              | (go_at_call 15; (with_reducible refine CN.out.mono ?_); rintro e wz ⟨rfl, nq, rfl⟩; have HZ := Lib.hid (drawn_below HY.out nq)))
          all_goals
            go_wp2_with fail
            go_meet
            exact ⟨rfl, HZ.out⟩
        obtain ⟨rfl, hB⟩ := hcut
        have RT_8 := Lib.hid (RT_7.out.low hB)
        have RU_8 := Lib.hid (RU_7.out.low hB)
        have B_8 := Lib.hid (B_7.out.trans (hB.mono B_7.out.size))
        clear hB RT_7 RU_7 B_7
        rw [S5.out]
        have k0 := RT_8.out.k.c0
        have k1 := RT_8.out.k.c1
        have k2 := RT_8.out.k.c2
        have k3 := RT_8.out.k.c3
        have C := Lib.hid (depth_h RT_8.out.at_ hdt)
        go_wp2_with fail
        refine C.out.mono ?_
        rintro e w9 ⟨rfl, hB⟩
        clear C k0 k1 k2 k3
        have RT_9 := Lib.hid (RT_8.out.low hB)
        have RU_9 := Lib.hid (RU_8.out.low hB)
        have B_9 := Lib.hid (B_8.out.trans (hB.mono B_8.out.size))
        clear hB RT_8 RU_8 B_8
        have k0 := RU_9.out.k.c0
        have k1 := RU_9.out.k.c1
        have k2 := RU_9.out.k.c2
        have k3 := RU_9.out.k.c3
        have C := Lib.hid (depth_h RU_9.out.at_ hdu)
        go_wp2_with fail
        refine C.out.mono ?_
        rintro e w10 ⟨rfl, hB⟩
        clear C k0 k1 k2 k3
        have RT_10 := Lib.hid (RT_9.out.low hB)
        have RU_10 := Lib.hid (RU_9.out.low hB)
        have B_10 := Lib.hid (B_9.out.trans (hB.mono B_9.out.size))
        clear hB RT_9 RU_9 B_9
        have k0 := RT_10.out.k.c0
        have k1 := RT_10.out.k.c1
        have k2 := RT_10.out.k.c2
        have k3 := RT_10.out.k.c3
        have C := Lib.hid (canon_h RT_10.out.at_ SM.out (tab_below HT.out B_10.out))
        go_wp2_with fail
        refine C.out.mono ?_
        rintro e w11 ⟨rfl, hB⟩
        clear C k0 k1 k2 k3
        have RT_11 := Lib.hid (RT_10.out.low hB)
        have RU_11 := Lib.hid (RU_10.out.low hB)
        have B_11 := Lib.hid (B_10.out.trans (hB.mono B_10.out.size))
        clear hB RT_10 RU_10 B_10
        generalize bytes (canonS t) = q1 at *
        have k0 := RU_11.out.k.c0
        have k1 := RU_11.out.k.c1
        have k2 := RU_11.out.k.c2
        have k3 := RU_11.out.k.c3
        have C := Lib.hid (canon_h RU_11.out.at_ SU.out (tab_below HT.out B_11.out))
        go_wp2_with fail
        refine C.out.mono ?_
        rintro e w12 ⟨rfl, hB⟩
        clear C k0 k1 k2 k3
        have RT_12 := Lib.hid (RT_11.out.low hB)
        have RU_12 := Lib.hid (RU_11.out.low hB)
        have B_12 := Lib.hid (B_11.out.trans (hB.mono B_11.out.size))
        clear hB RT_11 RU_11 B_11
        generalize bytes (canonS u) = q2 at *
        go_wp2
        go_ret
        exact ⟨rfl, B_12.out⟩
      · have S1 : Hid (decide (canonS t = canonS u) = false) := Lib.hid (decide_eq_false hc)
        have S2 : Hid (decide (canonS u = canonS t) = false) := Lib.hid (decide_eq_false fun e => hc e.symm)
        have S7 := beqN_false (bytes_ne hc)
        clear hp hq hm hd um ud hsz usz hc
        go_enter Tryd.func4, Tryd.ntmps4
        go_wp2_with fail
        refine (awake_any _ HT.out).mono ?_
        rintro e w1 ⟨rfl, hB⟩
        have B_1 := Lib.hid (hB)
        clear hB
        go_wp2_with fail
        refine (parse_ok _ a0 w0 HP.out).mono ?_
        rintro e w2 ⟨aT, cT, rfl, hb, hR, hB⟩
        clear hb
        have B_2 := Lib.hid (B_1.out.trans (hB.mono B_1.out.size))
        have RT_2 := Lib.hid hR
        clear hB hR B_1
        go_wp2_with fail
        refine (parse_ok _ a1 w1' HQ.out).mono ?_
        rintro e w3 ⟨aU, cU, rfl, hb, hR, hB⟩
        clear hb
        have RT_3 := Lib.hid (RT_2.out.low hB)
        have B_3 := Lib.hid (B_2.out.trans (hB.mono B_2.out.size))
        have RU_3 := Lib.hid hR
        clear hB hR RT_2 B_2
        have k0 := RT_3.out.k.c0
        have k1 := RT_3.out.k.c1
        have k2 := RT_3.out.k.c2
        have k3 := RT_3.out.k.c3
        have l0 := RU_3.out.k.c0
        have l1 := RU_3.out.k.c1
        have l2 := RU_3.out.k.c2
        have l3 := RU_3.out.k.c3
        have C := Lib.hid (same_h RT_3.out.at_ RU_3.out.at_ SM.out SU.out (tab_below HT.out B_3.out))
        go_wp2_with fail
        refine C.out.mono ?_
        rintro e w4 ⟨rfl, hB⟩
        clear C k0 k1 k2 k3 l0 l1 l2 l3
        have RT_4 := Lib.hid (RT_3.out.low hB)
        have RU_4 := Lib.hid (RU_3.out.low hB)
        have B_4 := Lib.hid (B_3.out.trans (hB.mono B_3.out.size))
        clear hB RT_3 RU_3 B_3
        rw [S1.out]
        have k0 := RU_4.out.k.c0
        have k1 := RU_4.out.k.c1
        have k2 := RU_4.out.k.c2
        have k3 := RU_4.out.k.c3
        have l0 := RT_4.out.k.c0
        have l1 := RT_4.out.k.c1
        have l2 := RT_4.out.k.c2
        have l3 := RT_4.out.k.c3
        have C := Lib.hid (same_h RU_4.out.at_ RT_4.out.at_ SU.out SM.out (tab_below HT.out B_4.out))
        go_wp2_with fail
        refine C.out.mono ?_
        rintro e w5 ⟨rfl, hB⟩
        clear C k0 k1 k2 k3 l0 l1 l2 l3
        have RT_5 := Lib.hid (RT_4.out.low hB)
        have RU_5 := Lib.hid (RU_4.out.low hB)
        have B_5 := Lib.hid (B_4.out.trans (hB.mono B_4.out.size))
        clear hB RT_4 RU_4 B_4
        rw [S2.out]
        have k0 := RT_5.out.k.c0
        have k1 := RT_5.out.k.c1
        have k2 := RT_5.out.k.c2
        have k3 := RT_5.out.k.c3
        have C := Lib.hid (same_h RT_5.out.at_ RT_5.out.at_ SM.out SM.out (tab_below HT.out B_5.out))
        go_wp2_with fail
        refine C.out.mono ?_
        rintro e w6 ⟨rfl, hB⟩
        clear C k0 k1 k2 k3
        have RT_6 := Lib.hid (RT_5.out.low hB)
        have RU_6 := Lib.hid (RU_5.out.low hB)
        have B_6 := Lib.hid (B_5.out.trans (hB.mono B_5.out.size))
        clear hB RT_5 RU_5 B_5
        rw [S3.out]
        go_upto_region 9 with fail
        go_cut [13] from 46 to 50 (fun s wx => s = .bool (sameN (freeT t) (freeT u)) ∧ Below (w6).heap.size (w6) wx)
        case first =>
          have k0 := RT_6.out.k.c0
          have k1 := RT_6.out.k.c1
          have k2 := RT_6.out.k.c2
          have k3 := RT_6.out.k.c3
          have l0 := RU_6.out.k.c0
          have l1 := RU_6.out.k.c1
          have l2 := RU_6.out.k.c2
          have l3 := RU_6.out.k.c3
          have HD := Lib.hid ((Below.refl (w6).heap.size (w6)).drew)
          have CF1 := Lib.hid (fun (W : World) (h : Below (w6).heap.size (w6) W) => free_h (RT_6.out.low h).at_ SM.out)
          have CF2 := Lib.hid (fun (W : World) (h : Below (w6).heap.size (w6) W) => free_h (RU_6.out.low h).at_ SU.out)
          have KD : Hid (∀ W : World, Below (w6).heap.size (w6) W → (W.cell? ⟨w2.heap.size, 0, none⟩ = some (.int .i64 t.kind) ∧ W.cell? ⟨w2.heap.size, 1, none⟩ = some (.string t.name) ∧ W.cell? ⟨w2.heap.size, 2, none⟩ = some (.int .i64 t.n) ∧ W.cell? ⟨w2.heap.size, 3, none⟩ = some (.slice aT t.args.length cT) ∧ W.cell? ⟨w3.heap.size, 0, none⟩ = some (.int .i64 u.kind) ∧ W.cell? ⟨w3.heap.size, 1, none⟩ = some (.string u.name) ∧ W.cell? ⟨w3.heap.size, 2, none⟩ = some (.int .i64 u.n) ∧ W.cell? ⟨w3.heap.size, 3, none⟩ = some (.slice aU u.args.length cU))) := Lib.hid (fun W h => ⟨(RT_6.out.low h).k.c0, (RT_6.out.low h).k.c1, (RT_6.out.low h).k.c2, (RT_6.out.low h).k.c3, (RU_6.out.low h).k.c0, (RU_6.out.low h).k.c1, (RU_6.out.low h).k.c2, (RU_6.out.low h).k.c3⟩)
          go_region_held3 (fun w' => w'.cell? ⟨w2.heap.size, 0, none⟩ = some (.int .i64 t.kind) ∧ w'.cell? ⟨w2.heap.size, 1, none⟩ = some (.string t.name) ∧ w'.cell? ⟨w2.heap.size, 2, none⟩ = some (.int .i64 t.n) ∧ w'.cell? ⟨w2.heap.size, 3, none⟩ = some (.slice aT t.args.length cT) ∧ w'.cell? ⟨w3.heap.size, 0, none⟩ = some (.int .i64 u.kind) ∧ w'.cell? ⟨w3.heap.size, 1, none⟩ = some (.string u.name) ∧ w'.cell? ⟨w3.heap.size, 2, none⟩ = some (.int .i64 u.n) ∧ w'.cell? ⟨w3.heap.size, 3, none⟩ = some (.slice aU u.args.length cU))
            (first | (with_reducible exact KD.out _ HZ.out) | (with_reducible exact KD.out _ HY.out) | (with_reducible exact KD.out _ HX.out) | (with_reducible exact KD.out _ HD.out))
            (first
              | (go_at_call 14; (with_reducible refine (CF1.out _ HD.out).mono ?_); rintro e wx ⟨v1, rfl, own1, len1, hb1⟩; obtain ⟨ya, yc, rfl⟩ := own_form own1; have HX := Lib.hid (HD.out.trans (hb1.mono HD.out.size)); have O1 := Lib.hid own1; clear hb1 own1 len1)
              | (go_at_call 14; (with_reducible refine (CF2.out _ HX.out).mono ?_); rintro e wy ⟨v2, rfl, own2, len2, hb2⟩; obtain ⟨za, zc, rfl⟩ := own_form own2; have HY := Lib.hid (HX.out.trans (hb2.mono HX.out.size)); have CN := Lib.hid (names_any _ _ _ _ _ _ wy ((StrsAt.of_own O1.out FLFT.out).keep fun b hb => hb2.block b (O1.out.lt b hb).2) (StrsAt.of_own own2 FLFU.out)); clear hb2 own2 len2)
              | (go_at_call 13; (with_reducible refine CN.out.mono ?_); rintro e wz ⟨rfl, nq, rfl⟩; have HZ := Lib.hid (drawn_below HY.out nq)))
          all_goals
            go_wp2_with fail
            go_meet
            exact ⟨rfl, HZ.out⟩
        obtain ⟨rfl, hB⟩ := hcut
        have RT_7 := Lib.hid (RT_6.out.low hB)
        have RU_7 := Lib.hid (RU_6.out.low hB)
        have B_7 := Lib.hid (B_6.out.trans (hB.mono B_6.out.size))
        clear hB RT_6 RU_6 B_6
        have hwF : ∃ wF : World, wF = wc := ⟨_, rfl⟩
        obtain ⟨wF, hwF⟩ := hwF
        subst hwF
        go_upto_region 10 with fail
        go_cut [14] from 51 to 55 (fun s wx => s = .bool (decide (metasT t = metasT u)) ∧ Below (wF).heap.size (wF) wx)
        case first =>
          have k0 := RT_7.out.k.c0
          have k1 := RT_7.out.k.c1
          have k2 := RT_7.out.k.c2
          have k3 := RT_7.out.k.c3
          have l0 := RU_7.out.k.c0
          have l1 := RU_7.out.k.c1
          have l2 := RU_7.out.k.c2
          have l3 := RU_7.out.k.c3
          have HD := Lib.hid ((Below.refl (wF).heap.size (wF)).drew)
          have CF1 := Lib.hid (fun (W : World) (h : Below (wF).heap.size (wF) W) => metas_h (RT_7.out.low h).at_ SM.out)
          have CF2 := Lib.hid (fun (W : World) (h : Below (wF).heap.size (wF) W) => metas_h (RU_7.out.low h).at_ SU.out)
          have KD : Hid (∀ W : World, Below (wF).heap.size (wF) W → (W.cell? ⟨w2.heap.size, 0, none⟩ = some (.int .i64 t.kind) ∧ W.cell? ⟨w2.heap.size, 1, none⟩ = some (.string t.name) ∧ W.cell? ⟨w2.heap.size, 2, none⟩ = some (.int .i64 t.n) ∧ W.cell? ⟨w2.heap.size, 3, none⟩ = some (.slice aT t.args.length cT) ∧ W.cell? ⟨w3.heap.size, 0, none⟩ = some (.int .i64 u.kind) ∧ W.cell? ⟨w3.heap.size, 1, none⟩ = some (.string u.name) ∧ W.cell? ⟨w3.heap.size, 2, none⟩ = some (.int .i64 u.n) ∧ W.cell? ⟨w3.heap.size, 3, none⟩ = some (.slice aU u.args.length cU))) := Lib.hid (fun W h => ⟨(RT_7.out.low h).k.c0, (RT_7.out.low h).k.c1, (RT_7.out.low h).k.c2, (RT_7.out.low h).k.c3, (RU_7.out.low h).k.c0, (RU_7.out.low h).k.c1, (RU_7.out.low h).k.c2, (RU_7.out.low h).k.c3⟩)
          go_region_held3 (fun w' => w'.cell? ⟨w2.heap.size, 0, none⟩ = some (.int .i64 t.kind) ∧ w'.cell? ⟨w2.heap.size, 1, none⟩ = some (.string t.name) ∧ w'.cell? ⟨w2.heap.size, 2, none⟩ = some (.int .i64 t.n) ∧ w'.cell? ⟨w2.heap.size, 3, none⟩ = some (.slice aT t.args.length cT) ∧ w'.cell? ⟨w3.heap.size, 0, none⟩ = some (.int .i64 u.kind) ∧ w'.cell? ⟨w3.heap.size, 1, none⟩ = some (.string u.name) ∧ w'.cell? ⟨w3.heap.size, 2, none⟩ = some (.int .i64 u.n) ∧ w'.cell? ⟨w3.heap.size, 3, none⟩ = some (.slice aU u.args.length cU))
            (first | (with_reducible exact KD.out _ HZ.out) | (with_reducible exact KD.out _ HY.out) | (with_reducible exact KD.out _ HX.out) | (with_reducible exact KD.out _ HD.out))
            (first
              | (go_at_call 16; (with_reducible refine (CF1.out _ HD.out).mono ?_); rintro e wx ⟨v1, rfl, own1, len1, hb1⟩; obtain ⟨ya, yc, rfl⟩ := own_form own1; have HX := Lib.hid (HD.out.trans (hb1.mono HD.out.size)); have O1 := Lib.hid own1; clear hb1 own1 len1)
              | (go_at_call 16; (with_reducible refine (CF2.out _ HX.out).mono ?_); rintro e wy ⟨v2, rfl, own2, len2, hb2⟩; obtain ⟨za, zc, rfl⟩ := own_form own2; have HY := Lib.hid (HX.out.trans (hb2.mono HX.out.size)); have CN := Lib.hid (numbers_any _ _ _ _ _ _ wy ((NumsAt.of_own O1.out FLMT.out).keep fun b hb => hb2.block b (O1.out.lt b hb).2) (NumsAt.of_own own2 FLMU.out)); clear hb2 own2 len2)
              | (go_at_call 15; (with_reducible refine CN.out.mono ?_); rintro e wz ⟨rfl, nq, rfl⟩; have HZ := Lib.hid (drawn_below HY.out nq)))
          all_goals
            go_wp2_with fail
            go_meet
            exact ⟨rfl, HZ.out⟩
        obtain ⟨rfl, hB⟩ := hcut
        have RT_8 := Lib.hid (RT_7.out.low hB)
        have RU_8 := Lib.hid (RU_7.out.low hB)
        have B_8 := Lib.hid (B_7.out.trans (hB.mono B_7.out.size))
        clear hB RT_7 RU_7 B_7
        have k0 := RT_8.out.k.c0
        have k1 := RT_8.out.k.c1
        have k2 := RT_8.out.k.c2
        have k3 := RT_8.out.k.c3
        have C := Lib.hid (depth_h RT_8.out.at_ hdt)
        go_wp2_with fail
        refine C.out.mono ?_
        rintro e w9 ⟨rfl, hB⟩
        clear C k0 k1 k2 k3
        have RT_9 := Lib.hid (RT_8.out.low hB)
        have RU_9 := Lib.hid (RU_8.out.low hB)
        have B_9 := Lib.hid (B_8.out.trans (hB.mono B_8.out.size))
        clear hB RT_8 RU_8 B_8
        have k0 := RU_9.out.k.c0
        have k1 := RU_9.out.k.c1
        have k2 := RU_9.out.k.c2
        have k3 := RU_9.out.k.c3
        have C := Lib.hid (depth_h RU_9.out.at_ hdu)
        go_wp2_with fail
        refine C.out.mono ?_
        rintro e w10 ⟨rfl, hB⟩
        clear C k0 k1 k2 k3
        have RT_10 := Lib.hid (RT_9.out.low hB)
        have RU_10 := Lib.hid (RU_9.out.low hB)
        have B_10 := Lib.hid (B_9.out.trans (hB.mono B_9.out.size))
        clear hB RT_9 RU_9 B_9
        have k0 := RT_10.out.k.c0
        have k1 := RT_10.out.k.c1
        have k2 := RT_10.out.k.c2
        have k3 := RT_10.out.k.c3
        have C := Lib.hid (canon_h RT_10.out.at_ SM.out (tab_below HT.out B_10.out))
        go_wp2_with fail
        refine C.out.mono ?_
        rintro e w11 ⟨rfl, hB⟩
        clear C k0 k1 k2 k3
        have RT_11 := Lib.hid (RT_10.out.low hB)
        have RU_11 := Lib.hid (RU_10.out.low hB)
        have B_11 := Lib.hid (B_10.out.trans (hB.mono B_10.out.size))
        clear hB RT_10 RU_10 B_10
        generalize bytes (canonS t) = q1 at *
        have k0 := RU_11.out.k.c0
        have k1 := RU_11.out.k.c1
        have k2 := RU_11.out.k.c2
        have k3 := RU_11.out.k.c3
        have C := Lib.hid (canon_h RU_11.out.at_ SU.out (tab_below HT.out B_11.out))
        go_wp2_with fail
        refine C.out.mono ?_
        rintro e w12 ⟨rfl, hB⟩
        clear C k0 k1 k2 k3
        have RT_12 := Lib.hid (RT_11.out.low hB)
        have RU_12 := Lib.hid (RU_11.out.low hB)
        have B_12 := Lib.hid (B_11.out.trans (hB.mono B_11.out.size))
        clear hB RT_11 RU_11 B_11
        generalize bytes (canonS u) = q2 at *
        go_wp2
        go_ret
        exact ⟨rfl, B_12.out⟩

end Go.Proofs.YtifaaihekgnhiaaDoor.Tp

/-
  The law TypesSame: for every two texts it returns true; the texts read as before. No conditions; the card ties the library's tables to the program's text.
-/
namespace Go.Proofs.YtifaaihekgnhiaaDoor.typesSame
open Go.ChangeShapes Go.WideShapes Go.ChangeAt Go.WideMaps Go.WideElems Go.RowKit
open Go.ChangeMaps (open_string shut_string)
open Tp (Tab laidL tab_of_laid door_met own laidOut)

/-! ### the row's step, as the kit's worked example (a law over laid variables) has it -/
set_option linter.unusedVariables false in
set_option maxRecDepth 100000 in
theorem lifted (os : Os) (started : os.Started) (H : Type) (enc : TypeId × Value → H) :
    ReturnsInHanded {} Tryd.checked os 4 .any (fun w args => (Rows.typesSameSpec.pre enc Tryd.prog Tryd.f4 [] false w args ∧ laidMetH Tryd.prog laidL w) ∧ sizedMet enc Tryd.prog Tryd.f4 (OpenSpec.ofChange Rows.typesSameSpec) false w args)
      (Rows.typesSameSpec.post enc Tryd.prog Tryd.f4 false true false false) := by
  refine returnsInHanded_of_change_and (C := Tryd.checked) (X := fun w _ => laidMetH Tryd.prog laidL w) (fun _ _ _ hh h => h.of_heap hh) own started (by kernel_rfl) Tryd.func4
    (ChangeSpec.witness_shaped (enc := enc) (C := Tryd.checked) (os := os) (X := fun w _ => laidMetH Tryd.prog laidL w) false (World.doorLaid Tryd.prog 400 os) #[.string ByteArray.empty, .string ByteArray.empty] 8 rfl (World.shaped_of_RefB (by kernel_rfl) (by kernel_rfl)) (by kernel_rfl) (by kernel_rfl) (by kernel_rfl) (door_met os _)) ?_
  intro W base args ds gs before hval0 hW _ _ hL _
  have hval : ∀ (j : Nat) t v, Tryd.f4.params[j]? = some t → args[j]? = some v → Value.okWide Tryd.prog W .any base t v := hval0
  have hW' := hW
  obtain ⟨p, q, hA0, hV, rfl, hfz, hnd⟩ := hW
  have hA : DataW.TrodAll enc Tryd.prog W 0 (fun _ => true) true Tryd.f4.params.toList args.toList ds p := hA0
  rw [Tryd.params4] at hA hval
  obtain ⟨v0, vs0, d0, ds0, p0, q0, hargs, rfl, rfl, h0, r0⟩ := trodAll_cons hA
  obtain ⟨v1, vs1, d1, ds1, p1, q1, rfl, rfl, rfl, h1, r1⟩ := trodAll_cons r0
  obtain ⟨rfl, rfl, rfl⟩ := trodAll_nil r1
  obtain rfl : args = #[v0, v1] := by cases args; simp_all
  obtain ⟨rfl, rfl⟩ := trodVars_none hV
  obtain ⟨a0, rfl, rfl, rfl, w0⟩ := open_string Tryd.underlying9 (hval 0 9 v0 rfl rfl) h0
  obtain ⟨a1, rfl, rfl, rfl, w1⟩ := open_string Tryd.underlying9 (hval 1 9 v1 rfl rfl) h1
  clear hA0 hval0
  refine (Tp.typesSame_walk a0 w0 a1 w1 W (tab_of_laid hL)).mono fun e W' ⟨he, bel⟩ => ?_
  subst he
  exact ⟨_, rfl, _, _, _, [], _, [], hW', trodAll_mk1 (shut_bool Tryd.underlying4 _), (trodAll_cons_mk (shut_string Tryd.underlying9 w0) (trodAll_cons_mk (shut_string Tryd.underlying9 w1) trodAll_mk0)), rfl, bel.frame _, fun h => by cases h⟩

theorem row_holds : Rows.TypesSameSaid :=
  OpenClaim.holds_of_wide 4 Tryd.f4 rfl rfl rfl rfl rfl rfl rfl ⟨rfl, rfl, rfl, rfl, rfl⟩ rfl rfl rfl rfl rfl (by kernel_rfl) Tryd.func4 (by kernel_rfl)
    (of_decide_eq_true (by kernel_rfl)) (by unfold Func.isWrapper; first | (rw [if_pos (by decide +kernel)]; kernel_rfl) | (rw [if_neg (by decide +kernel)]; exact ⟨rfl, rfl⟩))
    (fun os started H enc _ => lifted os started H enc)

/-- THE STATEMENT: the row, tied to the program's text. -/
theorem proved : Rows.TypesSameCardSaid :=
  Claim7.holds_tied_plain_at .later [] [.data, .data, .data, .sentinel, .sentinel] true Rows.typesSameCard.stood.harness true
    row_holds (fun _ h => by cases h) (by kernel_rfl) (fun _ h => by cases h) typesSame_row_tie rfl ⟨rfl, rfl⟩ (by kernel_rfl) rfl
    (fun f fn hf hfn => by
      obtain rfl : f = 4 := Option.some.inj ((show Tryd.prog.funcNamed "savant/savantlaw02.TypesSame" = some 4 by kernel_rfl).symm.trans hf) |>.symm
      obtain rfl : fn = Tryd.f4 := (Option.some.inj (Tryd.func4.symm.trans hfn)).symm
      exact ⟨by kernel_rfl, fun j t ht => by
        rw [Tryd.params4] at ht
        have hm : t ∈ [9, 9] := by simpa using Array.mem_of_getElem? ht
        have hall : ([9, 9].all fun u => !Tryd.prog.wantsStandIn u) = true := by kernel_rfl
        exact (show Tryd.prog.wantsStandIn t = false by simpa using List.all_eq_true.1 hall t hm)⟩)
    (by kernel_rfl)
#print axioms proved
end Go.Proofs.YtifaaihekgnhiaaDoor.typesSame

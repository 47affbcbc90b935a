/-
  What was peeled, with its for alls around it again, is the type; what is behind them begins with none; the names are new and apart: for every text that is a type of at most 400 bytes without too large an unknown; at any other text the law tells what its examples tell.
-/
import Derived.Test.YtofllmemmggapaaGreatDoorP50
import Derived.Deep.CutRange
import Derived.Deep.RegionLaw
import Derived.Test.YtofllmemmggapaaGreatDoorP51
import Derived.Test.YtofllmemmggapaaGreatDoorCards
import Derived.Test.YtofllmemmggapaaGreatDoorTie
import Derived.SevenTiedAt

/- The walk of MatchPeeled. (Printed by gen_mapeeled.py.) -/
namespace Go.Proofs.YtofllmemmggapaaGreatDoor.Tp
open Go.RowKit Go.Sort

theorem nodup_take {l : List ByteArray} (h : l.Nodup) {k : Nat} (hk : k < l.length) : l[k] ∉ l.take k := by
  intro hm
  obtain ⟨j, hj, e⟩ := List.getElem_of_mem hm
  rw [List.length_take] at hj
  rw [List.getElem_take] at e
  exact absurd e (List.pairwise_iff_getElem.1 h j k (by omega) hk (by omega))
theorem strs_take {w : World} {a : Option Addr} {c k : Nat} {l : List ByteArray} (h : StrsLow w (.slice a l.length c) l) (hk : k ≤ l.length) : StrsLow w (.slice a k c) (l.take k) := by
  obtain ⟨a', c', e, h1, h2, h3, h4⟩ := h
  injection e with e1 _ e3
  subst e1 e3
  have hl : (l.take k).length = k := by rw [List.length_take]; omega
  refine ⟨a, c, by rw [hl], by omega, by omega, h3, ?_⟩
  rcases h4 with h4 | ⟨b, off, e, hb, hc⟩
  · left; rw [h4]; simp
  · refine .inr ⟨b, off, e, hb, fun j hj => ?_⟩
    rw [hc j (by omega), List.getElem_take]
/-- the names' numbers -/
theorem peelF_bd (L : ByteArray) (but : List ByteArray) : ∀ (d n : Nat) (t : Ty) (x : ByteArray), x ∈ (peelF L but d n t).1 → ∃ j, j < n + d * (but.length + 1) ∧ x = lname L j := by
  intro d
  induction d with
  | zero => intro n t x h; simp [peelF] at h
  | succ d ih =>
    intro n t x h
    by_cases h5 : t.kind = 5
    · have hsp := firstN_spec (lname L) (fun _ _ => lname_inj) but n
      rw [show firstN (lname L) but (but.length + 1) n = nx (lname L) but n from rfl] at hsp
      rw [peelF, if_pos h5] at h
      rw [Nat.add_mul]
      rcases List.mem_cons.1 h with rfl | h
      · exact ⟨_, by have := hsp.2.1; omega, rfl⟩
      · obtain ⟨j, hj, e⟩ := ih _ _ _ h
        exact ⟨j, by have := hsp.2.1; omega, e⟩
    · rw [peelF, if_neg h5] at h
      simp at h
theorem mk_fold {B : Ty} (hB : Mk B) : ∀ l : List ByteArray, (∀ x ∈ l, LexN x) → Mk (l.foldr tAllB B) ∧ (l.foldr tAllB B).size = B.size + l.length
  | [], _ => ⟨hB, rfl⟩
  | x :: l, h => by
    obtain ⟨h1, h2⟩ := mk_fold hB l fun y hy => h y (by simp [hy])
    refine ⟨⟨std_all x h1.1, lex_all (h x (by simp)) h1.2⟩, ?_⟩
    rw [List.foldr_cons, Ty.size_eq]
    show sizeL [l.foldr tAllB B] + 1 = _
    simp [sizeL, h2]; omega
theorem peel_fold {t : Ty} (hm : Mk t) (hz : t.size ≤ 4000) (hd : t.depth ≤ 4000) (R : PeelOk pL (freeT t) 0 t (PeelT pL (freeT t) t)) :
    Small ((PeelT pL (freeT t) t).1.foldr tAllB (PeelT pL (freeT t) t).2) ∧ canonS ((PeelT pL (freeT t) t).1.foldr tAllB (PeelT pL (freeT t) t).2) = canonS t := by
  have hfl := freeT_len t
  have hlex : ∀ x ∈ (PeelT pL (freeT t) t).1, LexN x := fun x hx => by
    obtain ⟨j, hj, rfl⟩ := peelF_bd pL (freeT t) t.depth 0 t x hx
    have : t.depth * ((freeT t).length + 1) ≤ 4000 * 4001 := Nat.mul_le_mul hd (by omega)
    exact lname_lex 112 (by decide) j (by omega)
  obtain ⟨h1, h2⟩ := mk_fold R.good _ hlex
  have hs := R.size
  have hl := R.len
  refine ⟨⟨mk_good _ h1, by omega⟩, ?_⟩
  unfold canonS
  rw [canon_congr h1.1 hm.1 R.again]

theorem wrap_step {W2 : World} {b9 n m : Nat} {u : Ty} {ua : Option Addr} {uc : Nat} (nm : ByteArray) (hq : B4 W2 b9 (.int .i64 u.kind) (.string u.name) (.int .i64 u.n) (.slice ua u.args.length uc)) (hn : n ≤ b9) (hm : m ≤ W2.heap.size) (hA : ArgsAt (fun b => b < m ∧ b ≠ b9) W2 (.slice ua u.args.length uc) u.args) :
    let W' := (((((W2.alloc (.cells #[.int .i64 u.kind, .string u.name, .int .i64 u.n, .slice ua u.args.length uc] 26)).setCell ⟨b9, 0, none⟩ (.int .i64 5)).setCell ⟨b9, 1, none⟩ (.string nm)).setCell ⟨b9, 2, none⟩ (.int .i64 0)).setCell ⟨b9, 3, none⟩ (.slice (some ⟨W2.heap.size, 0, none⟩) 1 1)).drew
    B4 W' b9 (.int .i64 5) (.string nm) (.int .i64 0) (.slice (some ⟨W2.heap.size, 0, none⟩) 1 1) ∧ ArgsAt (fun b => b < W'.heap.size ∧ b ≠ b9) W' (.slice (some ⟨W2.heap.size, 0, none⟩) 1 1) [u] ∧ Below n W2 W' := by
  have ha := (Below.refl W2.heap.size W2).alloc (Nat.le_refl _) (.cells #[.int .i64 u.kind, .string u.name, .int .i64 u.n, .slice ua u.args.length uc] 26)
  have hlt := hq.lt
  have hs := same_set4 (W2.alloc (.cells #[.int .i64 u.kind, .string u.name, .int .i64 u.n, .slice ua u.args.length uc] 26)) b9 (.int .i64 5) (.string nm) (.int .i64 0) (.slice (some ⟨W2.heap.size, 0, none⟩) 1 1)
  have h4 := B4.set4 (hq.low ha) (.int .i64 5) (.string nm) (.int .i64 0) (.slice (some ⟨W2.heap.size, 0, none⟩) 1 1)
  have hnew := heap_alloc_new W2 (.cells #[.int .i64 u.kind, .string u.name, .int .i64 u.n, .slice ua u.args.length uc] 26)
  have hold : ∀ b, b < W2.heap.size → (W2.alloc (.cells #[.int .i64 u.kind, .string u.name, .int .i64 u.n, .slice ua u.args.length uc] 26)).heap[b]? = W2.heap[b]? := fun b h => heap_alloc_old W2 _ h
  have hsa : (W2.alloc (.cells #[.int .i64 u.kind, .string u.name, .int .i64 u.n, .slice ua u.args.length uc] 26)).heap.size = W2.heap.size + 1 := by simp
  have ho := hs.os
  have htp := hs.tape
  have hout := hs.output
  have hsize := hs.size
  have hoff := hs.off
  generalize ((((W2.alloc (.cells #[.int .i64 u.kind, .string u.name, .int .i64 u.n, .slice ua u.args.length uc] 26)).setCell ⟨b9, 0, none⟩ (.int .i64 5)).setCell ⟨b9, 1, none⟩ (.string nm)).setCell ⟨b9, 2, none⟩ (.int .i64 0)).setCell ⟨b9, 3, none⟩ (.slice (some ⟨W2.heap.size, 0, none⟩) 1 1) = X at *
  rw [hsa] at hsize
  have off : ∀ b, b < W2.heap.size → b ≠ b9 → X.heap[b]? = W2.heap[b]? := fun b h1 h2 => (hoff b h2).trans (hold b h1)
  have hargs : ArgsAt (fun b => b < X.heap.size ∧ b ≠ b9) X (.slice (some ⟨W2.heap.size, 0, none⟩) 1 1) [u] := args_one (g := W2.heap.size) ((hoff _ (by omega)).trans hnew) rfl rfl rfl ⟨by rw [hsize]; omega, by omega⟩ ((hA.keep fun b hb => off b (by omega) hb.2).mono fun b hb => ⟨by rw [hsize]; omega, hb.2⟩)
  have hos : X.os = W2.os := ho.trans ha.os
  have htape : X.tape = W2.tape := htp.trans ha.tape
  have houtput : X.output = W2.output := hout.trans ha.output
  have hbel : Below n W2 X := ⟨hos, htape, houtput, by rw [hsize]; omega, fun b hb => off b (by omega) (by omega)⟩
  exact ⟨h4, hargs.keep (A := X) (B := X.drew) fun _ _ => rfl, hbel.drew⟩

set_option maxRecDepth 100000 in
set_option maxHeartbeats 1600000 in
theorem matchPeeled_walk (a0 : ByteArray) (z0 : a0.size ≤ maxLen) (w : World) (hT : Tab w) : Calls Tryz.prog 8 #[.string a0] w fun e w' => e = .returned (.bool true) ∧ Below w.heap.size w w' := by
  have HT := Lib.hid hT
  cases h0 : rdT a0 with
  | none =>
    clear hT
    go_enter Tryz.func8, Tryz.ntmps8
    go_wp2_with fail
    refine (awake3_any _ HT.out).mono ?_
    rintro e w1 ⟨rfl, hB⟩
    have B_1 := Lib.hid (hB)
    clear hB
    go_wp2_with fail
    refine (rd_none _ a0 z0 h0).mono ?_
    rintro e w2 ⟨qk, qn, qs, qa, ql, qc, qk2, qn2, qs2, qa2, ql2, qc2, rfl, hB⟩
    have B_2 := Lib.hid (B_1.out.trans (hB.mono B_1.out.size))
    clear hB B_1
    go_wp2
    go_ret
    exact ⟨rfl, B_2.out⟩
  | some t =>
    have hm := rd_made h0
    have R := peel_own hm.1 hm.2.2 hm.2.1
    have HP := Lib.hid h0
    have MT := Lib.hid hm
    have ST := Lib.hid (rd_small h0)
    have FLn : (freeT t).length ≤ 4000 := by have := freeT_len t; omega
    have PF := Lib.hid (peel_fold hm.1 hm.2.2 hm.2.1 R)
    have K5 : Hid ((PeelT pL (freeT t) t).2.kind ≠ 5) := Lib.hid R.k5
    have NF : Hid (∀ k (h : k < (PeelT pL (freeT t) t).1.length), hasN (freeT t) (PeelT pL (freeT t) t).1[k] = false) := Lib.hid (fun k h => hasN_not (R.names _ (List.getElem_mem h)).1)
    have ND : Hid (∀ k (h : k < (PeelT pL (freeT t) t).1.length), hasN ((PeelT pL (freeT t) t).1.take k) (PeelT pL (freeT t) t).1[k] = false) := Lib.hid (fun k h => hasN_not (nodup_take R.nodup h))
    have NL : Hid ((PeelT pL (freeT t) t).1.length ≤ 4000) := Lib.hid (Nat.le_trans R.len hm.2.1)
    have FLH := Lib.hid FLn
    clear hT h0 hm R FLn
    go_enter Tryz.func8, Tryz.ntmps8
    go_wp2_with fail
    refine (awake3_any _ HT.out).mono ?_
    rintro e w1 ⟨rfl, hB⟩
    have B_1 := Lib.hid (hB)
    clear hB
    go_wp2_with fail
    refine (rd_some _ _ HP.out).mono ?_
    rintro e w2 ⟨aT, cT, aTr, cTr, rfl, hR, hQ, hB⟩
    clear hQ
    have B_2 := Lib.hid (B_1.out.trans (hB.mono B_1.out.size))
    have RT_2 := Lib.hid hR
    clear hB hR B_1
    have k0 := RT_2.out.k.c0
    have k1 := RT_2.out.k.c1
    have k2 := RT_2.out.k.c2
    have k3 := RT_2.out.k.c3
    have C := Lib.hid (peel_h RT_2.out.at_ MT.out (tab_below HT.out B_2.out))
    go_wp2_with fail
    refine C.out.mono ?_
    rintro e w3 ⟨naP, ncP, aP, cP, rfl, hO, hR, hB⟩
    clear C k0 k1 k2 k3
    have RT_3 := Lib.hid (RT_2.out.low hB)
    have B_3 := Lib.hid (B_2.out.trans (hB.mono B_2.out.size))
    have RP_3 := Lib.hid hR
    have ON_3 := Lib.hid hO
    clear hB hR hO RT_2 B_2
    generalize PeelT pL (freeT t) t = r at *
    obtain ⟨ns, bo⟩ := r
    simp only at *
    have hnsl : ns.length ≤ 4000 := NL.out
    have k0 := RP_3.out.k.c0
    have k1 := RP_3.out.k.c1
    have k2 := RP_3.out.k.c2
    have k3 := RP_3.out.k.c3
    have hB9 := Below.refl (w3.alloc (.cells #[.int .i64 bo.kind, .string bo.name, .int .i64 bo.n, .slice aP bo.args.length cP] 26)).heap.size (w3.alloc (.cells #[.int .i64 bo.kind, .string bo.name, .int .i64 bo.n, .slice aP bo.args.length cP] 26))
    have HS8 : Hid ((w3.alloc (.cells #[.int .i64 bo.kind, .string bo.name, .int .i64 bo.n, .slice aP bo.args.length cP] 26)).heap.size = w3.heap.size + 1) := Lib.hid (by simp)
    have q9 := B4.new (w3.alloc (.cells #[.int .i64 bo.kind, .string bo.name, .int .i64 bo.n, .slice aP bo.args.length cP] 26)) (.int .i64 bo.kind) (.string bo.name) (.int .i64 bo.n) (.slice aP bo.args.length cP)
    rw [HS8.out] at q9
    have hA9 := hB9.alloc (Nat.le_refl _) (.cells #[.int .i64 bo.kind, .string bo.name, .int .i64 bo.n, .slice aP bo.args.length cP] 26)
    have AT9 : ArgsAt (fun b => b < ((w3.alloc (.cells #[.int .i64 bo.kind, .string bo.name, .int .i64 bo.n, .slice aP bo.args.length cP] 26)).alloc (.cells #[.int .i64 bo.kind, .string bo.name, .int .i64 bo.n, .slice aP bo.args.length cP] 26)).heap.size ∧ b ≠ w3.heap.size + 1) ((w3.alloc (.cells #[.int .i64 bo.kind, .string bo.name, .int .i64 bo.n, .slice aP bo.args.length cP] 26)).alloc (.cells #[.int .i64 bo.kind, .string bo.name, .int .i64 bo.n, .slice aP bo.args.length cP] 26)) (.slice aP bo.args.length cP) bo.args := (RP_3.out.at_.keep fun b hb => hA9.block b hb).mono fun b hb => ⟨Nat.lt_of_lt_of_le hb hA9.size, by have := HS8.out; have : b < (w3.alloc (.cells #[.int .i64 bo.kind, .string bo.name, .int .i64 bo.n, .slice aP bo.args.length cP] 26)).heap.size := hb; omega⟩
    have Q9 := Lib.hid q9
    have A9 := Lib.hid AT9
    have HB9 := Lib.hid hA9
    clear hB9 q9 hA9 AT9
    go_wp2
    go_loopw [10] (fun iv wr => ∃ (k : Nat) (ua : Option Addr) (uc : Nat), iv = .int .i64 ((k : Int) - 1) ∧ k ≤ ns.length ∧ Below (w3.alloc (.cells #[.int .i64 bo.kind, .string bo.name, .int .i64 bo.n, .slice aP bo.args.length cP] 26)).heap.size (w3.alloc (.cells #[.int .i64 bo.kind, .string bo.name, .int .i64 bo.n, .slice aP bo.args.length cP] 26)) wr ∧ B4 wr (w3.heap.size + 1) (.int .i64 ((ns.drop k).foldr tAllB bo).kind) (.string ((ns.drop k).foldr tAllB bo).name) (.int .i64 ((ns.drop k).foldr tAllB bo).n) (.slice ua ((ns.drop k).foldr tAllB bo).args.length uc) ∧ ArgsAt (fun b => b < wr.heap.size ∧ b ≠ w3.heap.size + 1) wr (.slice ua ((ns.drop k).foldr tAllB bo).args.length uc) ((ns.drop k).foldr tAllB bo).args) (fun iv _ => (intOf iv + 1).toNat)
    case atStart => exact ⟨ns.length, aP, cP, by go_num, Nat.le_refl _, HB9.out, by rw [List.drop_length]; exact Q9.out, by rw [List.drop_length]; exact A9.out⟩
    case round =>
      clear Q9 A9 HB9 k0 k1 k2 k3
      obtain ⟨k, ua, uc, rfl, hk, hB, hq, hA⟩ := hrel
      have HB := Lib.hid hB
      have HQ := Lib.hid hq
      have HA := Lib.hid hA
      rcases k with _ | k
      · have hu : (ns.drop 0).foldr tAllB bo = ns.foldr tAllB bo := rfl
        rw [hu] at HQ HA
        have k0 := HQ.out.c0
        have k1 := HQ.out.c1
        have k2 := HQ.out.c2
        have k3 := HQ.out.c3
        have RTr := RT_3.out.low HB.out
        have l0 := RTr.k.c0
        have l1 := RTr.k.c1
        have l2 := RTr.k.c2
        have l3 := RTr.k.c3
        have KP := Lib.hid ((RP_3.out.low HB.out).k)
        have p0 := KP.out.c0
        have BW := Lib.hid (B_3.out.trans (HB.out.mono B_3.out.size))
        have C := Lib.hid (same_h (HA.out.mono fun b hb => hb.1) RTr.at_ PF.out.1 ST.out (tab_below HT.out BW.out))
        rw [show decide (canonS (ns.foldr tAllB bo) = canonS t) = true from decide_eq_true PF.out.2] at C
        have k5 : (bo.kind != 5) = true := by have := K5.out; simpa using this
        clear hB hq hA RTr hu
        generalize ns.foldr tAllB bo = u at *
        go_wp2_with fail
        refine C.out.mono ?_
        rintro e w4 ⟨rfl, hb4⟩
        have p0 := (KP.out.low hb4).c0
        have B4' := Lib.hid (BW.out.trans (hb4.mono BW.out.size))
        clear hb4
        go_wp2
        go_ret
        exact ⟨rfl, B4'.out⟩
      · have z0 : (0 : Int) ≤ (k : Int) := by omega
        have z1 : (k : Int) < (ns.length : Int) := by omega
        have e1 : ((k + 1 : Nat) : Int) - 1 = (k : Int) := by omega
        have hnsl : ns.length ≤ 4000 := NL.out
        have ON := ON_3.out.low HB.out
        have hcap : ns.length ≤ ncP := by obtain ⟨_, _, e, h1, _⟩ := ON; injection e with _ _ e3; omega
        have z3 : (k : Int) ≤ (ncP : Int) := by omega
        have z4 : k ≤ ncP := by omega
        obtain ⟨nb, noff, rfl, hnb, hnc⟩ := (by obtain ⟨_, _, e, _, _, _, h⟩ := ON; injection e with e1 _ e3; subst e1; exact h.resolve_left (by intro e; rw [e] at hk; simp at hk) : ∃ b off, naP = some ⟨b, off, none⟩ ∧ b < wr.heap.size ∧ ∀ j (h : j < ns.length), wr.cell? ⟨b, off + j, none⟩ = some (.string ns[j]))
        have hnm := hnc k hk
        have HNM : Hid (wr.cell? ⟨nb, noff + k, none⟩ = some (.string ns[k])) := Lib.hid hnm
        have NBL : Hid (nb < (w3.alloc (.cells #[.int .i64 bo.kind, .string bo.name, .int .i64 bo.n, .slice aP bo.args.length cP] 26)).heap.size) := Lib.hid (by obtain ⟨_, _, e, _, _, _, h⟩ := ON_3.out; injection e with e1 _ e3; rcases h with h | ⟨b, off, e, hb, _⟩; rw [h] at hk; simp at hk; rw [← e1] at e; injection e with e; injection e with e _ _; rw [e]; exact hb)
        have NFk := Lib.hid (NF.out k hk)
        have NDk := Lib.hid (ND.out k hk)
        have UE : Hid ((ns.drop k).foldr tAllB bo = tAllB ns[k] ((ns.drop (k + 1)).foldr tAllB bo)) := Lib.hid (by rw [List.drop_eq_getElem_cons hk]; rfl)
        have RTr := RT_3.out.low HB.out
        have l0 := RTr.k.c0
        have l1 := RTr.k.c1
        have l2 := RTr.k.c2
        have l3 := RTr.k.c3
        have HD := Lib.hid (Below.refl wr.heap.size wr).drew
        have CF := Lib.hid (free_h (RTr.low HD.out).at_ ST.out)
        have HLT : Hid (nb < wr.heap.size) := Lib.hid hnb
        have OT : Hid (StrsLow wr (.slice (some ⟨nb, noff, none⟩) k ncP) (ns.take k)) := Lib.hid (strs_take ON (by omega))
        rw [e1]
        clear hB hq hA RTr hnb hnc ON
        generalize (ns.drop (k + 1)).foldr tAllB bo = u at *
        generalize ns[k] = nm at *
        go_upto_region 10 with fail
        go_cut [11] from 37 to 44 (fun x wx => x = .bool false ∧ Below wr.heap.size wr wx)
        case first =>
          go_region_law (first
            | (go_simp; go_at_call 25; (with_reducible refine CF.out.mono ?_); rintro e w1 ⟨fv, rfl, ho1, hl1, hb1⟩; have HX1 := Lib.hid (HD.out.trans (hb1.mono HD.out.size)); have hn1 := (HX1.out.cell (p := ⟨nb, noff + k, none⟩) HLT.out).trans HNM.out; have CH := Lib.hid (has_any _ fv (freeT t) nm w1 (StrsAt.of_own ho1 (Nat.le_trans FLH.out (by decide)))); rw [NFk.out] at CH; clear ho1 hl1 hb1)
            | (go_simp; go_at_call 24; (with_reducible refine CH.out.mono ?_); rintro e w2 ⟨rfl, rfl⟩))
          all_goals
            go_wp2_with fail
            go_meet
            exact ⟨rfl, HX1.out⟩
        obtain ⟨rfl, hbc⟩ := hcut
        have HBC := Lib.hid hbc
        have n1 := later_cell ((hbc.cell (p := ⟨nb, noff + k, none⟩) HLT.out).trans HNM.out)
        have CH2 := Lib.hid (fun q => later_same (has_any _ _ (ns.take k) nm (later wc q) ((OT.out.low hbc).low (later_below wc q))))
        rw [NDk.out] at CH2
        clear hbc hnm l0 l1 l2 l3
        go_upto_region 11 with fail
        refine wp_region_later (by kernel_rfl) (by kernel_rfl) ?_
        repeat (go_big_quiet_step ((with_reducible exact CH2.out _)))
        refine wpQuiet_nil ?_
        intro _ hw'
        obtain ⟨pq, hw''⟩ := hw'
        subst hw''
        have HBL := Lib.hid (HBC.out.trans ((later_below wc pq).mono HBC.out.size))
        have hq := HQ.out.low HBL.out
        have c0 := hq.c0
        have c1 := hq.c1
        have c2 := hq.c2
        have c3 := hq.c3
        have f0 := hq.fr 0
        have f1 := hq.fr 1
        have f2 := hq.fr 2
        have f3 := hq.fr 3
        have m0 := (HBL.out.cell (p := ⟨nb, noff + k, none⟩) HLT.out).trans HNM.out
        have AL := Lib.hid (HA.out.keep fun b hb => HBL.out.block b hb.1)
        have QL := Lib.hid hq
        have BL := Lib.hid (HB.out.trans (HBL.out.mono HB.out.size))
        clear hq n1
        generalize later wc pq = W2 at *
        have ne9 : ¬ (nb = w3.heap.size + 1) := by have := NBL.out; have := HS8.out; omega
        have ha2 : Below W2.heap.size W2 (W2.alloc (.cells #[.int .i64 u.kind, .string u.name, .int .i64 u.n, .slice ua u.args.length uc] 26)) := (Below.refl _ _).alloc (Nat.le_refl _) _
        have qa := QL.out.low ha2
        have d0 := qa.c0
        have d1 := qa.c1
        have d2 := qa.c2
        have d3 := qa.c3
        have g0 := qa.fr 0
        have g1 := qa.fr 1
        have g2 := qa.fr 2
        have g3 := qa.fr 3
        have m1 := (ha2.cell (p := ⟨nb, noff + k, none⟩) (Nat.lt_of_lt_of_le HLT.out HBL.out.size)).trans m0
        have QA := Lib.hid qa
        have HA2 := Lib.hid ha2
        clear qa ha2
        go_wp2
        go_region
        all_goals
          obtain ⟨hx1, hx2, hx3⟩ := wrap_step (n := (w3.alloc (.cells #[.int .i64 bo.kind, .string bo.name, .int .i64 bo.n, .slice aP bo.args.length cP] 26)).heap.size) nm QL.out (by have := HS8.out; omega) HBL.out.size AL.out
          have X1 := Lib.hid hx1
          have X2 := Lib.hid hx2
          have X3 := Lib.hid (BL.out.trans hx3)
          clear hx1 hx2 hx3
          go_wp2
          go_roundw
          case rel => exact ⟨k, some ⟨W2.heap.size, 0, none⟩, 1, by go_num, by omega, X3.out, by rw [UE.out]; exact X1.out, by rw [UE.out]; exact X2.out⟩
          case measure => simp [intOf]

end Go.Proofs.YtofllmemmggapaaGreatDoor.Tp

/-
  What was peeled, with its for alls around it again, is the type; what is behind them begins with none; the names are new and apart: for every text that is a type of at most 400 bytes without too large an unknown; at any other text the law tells what its examples tell.
-/
namespace Go.Proofs.YtofllmemmggapaaGreatDoor.matchPeeled
open Go.ChangeShapes Go.WideShapes Go.ChangeAt Go.WideMaps Go.WideElems Go.RowKit
open Go.ChangeMaps (open_string shut_string)
open Tp (Tab laidL tab_of_laid door_met own laidOut)

/-! ### the row's step, as the kit's worked example (a law over laid variables) has it -/
set_option linter.unusedVariables false in
set_option maxRecDepth 100000 in
theorem lifted (os : Os) (started : os.Started) (H : Type) (enc : TypeId × Value → H) :
    ReturnsInHanded {} Tryz.checked os 8 .any (fun w args => (Rows.matchPeeledSpec.pre enc Tryz.prog Tryz.f8 [] false w args ∧ laidMetH Tryz.prog laidL w) ∧ sizedMet enc Tryz.prog Tryz.f8 (OpenSpec.ofChange Rows.matchPeeledSpec) false w args)
      (Rows.matchPeeledSpec.post enc Tryz.prog Tryz.f8 false true false false) := by
  refine returnsInHanded_of_change_and (C := Tryz.checked) (X := fun w _ => laidMetH Tryz.prog laidL w) (fun _ _ _ hh h => h.of_heap hh) own started (by kernel_rfl) Tryz.func8
    (ChangeSpec.witness_shaped (enc := enc) (C := Tryz.checked) (os := os) (X := fun w _ => laidMetH Tryz.prog laidL w) false (World.doorLaid Tryz.prog 400 os) #[.string ByteArray.empty] 8 rfl (World.shaped_of_RefB (by kernel_rfl) (by kernel_rfl)) (by kernel_rfl) (by kernel_rfl) (by kernel_rfl) (door_met os _)) ?_
  intro W base args ds gs before hval0 hW _ _ hL _
  have hval : ∀ (j : Nat) t v, Tryz.f8.params[j]? = some t → args[j]? = some v → Value.okWide Tryz.prog W .any base t v := hval0
  have hW' := hW
  obtain ⟨p, q, hA0, hV, rfl, hfz, hnd⟩ := hW
  have hA : DataW.TrodAll enc Tryz.prog W 0 (fun _ => true) true Tryz.f8.params.toList args.toList ds p := hA0
  rw [Tryz.params8] at hA hval
  obtain ⟨v0, vs0, d0, ds0, p0, q0, hargs, rfl, rfl, h0, r0⟩ := trodAll_cons hA
  obtain ⟨rfl, rfl, rfl⟩ := trodAll_nil r0
  obtain rfl : args = #[v0] := by cases args; simp_all
  obtain ⟨rfl, rfl⟩ := trodVars_none hV
  obtain ⟨a0, rfl, rfl, rfl, w0⟩ := open_string Tryz.underlying9 (hval 0 9 v0 rfl rfl) h0
  clear hA0 hval0
  refine (Tp.matchPeeled_walk a0 w0 W (tab_of_laid hL)).mono fun e W' ⟨he, bel⟩ => ?_
  subst he
  exact ⟨_, rfl, _, _, _, [], _, [], hW', trodAll_mk1 (shut_bool Tryz.underlying4 _), (trodAll_cons_mk (shut_string Tryz.underlying9 w0) trodAll_mk0), rfl, bel.frame _, fun h => by cases h⟩

theorem row_holds : Rows.MatchPeeledSaid :=
  OpenClaim.holds_of_wide 8 Tryz.f8 rfl rfl rfl rfl rfl rfl rfl ⟨rfl, rfl, rfl, rfl, rfl⟩ rfl rfl rfl rfl rfl (by kernel_rfl) Tryz.func8 (by kernel_rfl)
    (of_decide_eq_true (by kernel_rfl)) (by unfold Func.isWrapper; first | (rw [if_pos (by decide +kernel)]; kernel_rfl) | (rw [if_neg (by decide +kernel)]; exact ⟨rfl, rfl⟩))
    (fun os started H enc _ => lifted os started H enc)

/-- THE STATEMENT: the row, tied to the program's text. -/
theorem proved : Rows.MatchPeeledCardSaid :=
  Claim7.holds_tied_plain_at .later [] [.data, .data, .data, .sentinel, .sentinel] true Rows.matchPeeledCard.stood.harness true
    row_holds (fun _ h => by cases h) (by kernel_rfl) (fun _ h => by cases h) matchPeeled_row_tie rfl ⟨rfl, rfl⟩ (by kernel_rfl) rfl
    (fun f fn hf hfn => by
      obtain rfl : f = 8 := Option.some.inj ((show Tryz.prog.funcNamed "savant/savantlaw03.MatchPeeled" = some 8 by kernel_rfl).symm.trans hf) |>.symm
      obtain rfl : fn = Tryz.f8 := (Option.some.inj (Tryz.func8.symm.trans hfn)).symm
      exact ⟨by kernel_rfl, fun j t ht => by
        rw [Tryz.params8] at ht
        have hm : t ∈ [9] := by simpa using Array.mem_of_getElem? ht
        have hall : ([9].all fun u => !Tryz.prog.wantsStandIn u) = true := by kernel_rfl
        exact (show Tryz.prog.wantsStandIn t = false by simpa using List.all_eq_true.1 hall t hm)⟩)
    (by kernel_rfl)
#print axioms proved
end Go.Proofs.YtofllmemmggapaaGreatDoor.matchPeeled

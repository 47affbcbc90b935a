/- Texts laid together: TyPutC. -/
import Derived.Test.YtofllmemmggapaaGreatDoorP32
import Derived.Deep.RegionHeld3
import Derived.Deep.RegionWith

/- The walk of Put: a name that is taken. -/
namespace Go.Proofs.YtofllmemmggapaaGreatDoor.Tp
open Go.RowKit

set_option maxRecDepth 100000 in
set_option maxHeartbeats 6400000 in
theorem put_cap (d : Nat) (nm : ByteArray) (u t : Ty) (S : Nat → Prop) (a ua : Option Addr) (c uc : Nat) (w : World) (ih : PutSaid d) (hk : t.kind = 5) (hne : t.name ≠ nm) (hnf : hasN (freeT u) t.name = true) (hg : Good t) (hgu : Good u) (hd : t.depth ≤ d + 1) (hs : t.size ≤ 1073741824) (hsu : u.size ≤ 1073741824)
    (hA : ArgsAt S w (.slice a t.args.length c) t.args) (hU : ArgsAt S w (.slice ua u.args.length uc) u.args) (hS : ∀ b, S b → b < w.heap.size) (hT : Tab w) : Calls Tryz.prog 60 #[tv t a c, .string nm, tv u ua uc] w (TP S (PutF (d + 1) nm u t) w) := by
  obtain ⟨x, hx, hx0⟩ := wf_k5 hg.1 hk
  obtain ⟨b, off, a0, p0, rfl, hbS, hf4, hs0⟩ := arg0 hA hx
  have hln : t.args.length = 1 := by rw [hx]; rfl
  have hx1 : x ∈ t.args := by rw [hx]; simp
  have hgx := good_args hg x hx1
  have hdx : x.depth ≤ d := by have := depth_arg _ hx1; rw [t.depth_eq] at hd; omega
  have hsx : x.size ≤ 1073741824 := by have := size_arg _ hx1; rw [t.size_eq] at hs; omega
  have hns := ((nm_iff t).1 hg.2).1
  have htn1 : 1 ≤ t.name.size := hns.1 hk
  have htn2 : t.name.size ≤ 64 := hns.2
  have R := putMem 5 t.name t.n (.slice (some ⟨b, off, none⟩) 1 c) nm u ua uc w
  have hfx := freeT_len x
  have hfu := freeT_len u
  have hfs := freshT_size t.name (freeT u ++ freeT x ++ [t.name, nm]) (by simp; omega) htn1
  have E := Lib.hid (PutF_cap d nm u t x hk hne hnf hx0)
  have z2 := beqN_false hne
  have e0 := cell_of_row _ _ 0 _ _ _ R.hn
  have c0 := R.k4.c0
  have c1 := R.k4.c1
  have c2 := R.k4.c2
  have c3 := R.k4.c3
  have d0 := R.hu.c0
  have d1 := R.hu.c1
  have d2 := R.hu.c2
  have d3 := R.hu.c3
  have hbl := hS b hbS
  have CFu := Lib.hid (fun (W : World) (h : Below w.heap.size w W) => free_any u S ua uc W (hU.keep fun b hb => h.block b (hS b hb)) (fun b hb => Nat.lt_of_lt_of_le (hS b hb) h.size) (by omega))
  have CFx := Lib.hid (fun (W : World) (h : Below w.heap.size w W) => free_any x S a0 p0 W (hs0.keep fun b hb => h.block b (hS b hb)) (fun b hb => Nat.lt_of_lt_of_le (hS b hb) h.size) (by omega))
  have SK := Lib.hid (fun (W : World) (h : Below ((((w.alloc (.cells #[.int .i64 5, .string t.name, .int .i64 t.n, .slice (some ⟨b, off, none⟩) 1 c] 26)).alloc (.cells #[.string nm] 9)).alloc (.cells #[.int .i64 u.kind, .string u.name, .int .i64 u.n, .slice ua u.args.length uc] 26)).alloc (.cells #[.int .i64 0, .string ⟨#[]⟩, .int .i64 0, .slice none 0 0] 26)).heap.size ((((w.alloc (.cells #[.int .i64 5, .string t.name, .int .i64 t.n, .slice (some ⟨b, off, none⟩) 1 c] 26)).alloc (.cells #[.string nm] 9)).alloc (.cells #[.int .i64 u.kind, .string u.name, .int .i64 u.n, .slice ua u.args.length uc] 26)).alloc (.cells #[.int .i64 0, .string ⟨#[]⟩, .int .i64 0, .slice none 0 0] 26)) W) => And.intro (R.k4.low h).c0 (And.intro (R.k4.low h).c1 (And.intro (R.hu.low h).c0 (And.intro (R.hu.low h).c1 (And.intro (R.hu.low h).c2 (R.hu.low h).c3)))))
  have SK2 := Lib.hid (fun (W : World) (h : Below ((((w.alloc (.cells #[.int .i64 5, .string t.name, .int .i64 t.n, .slice (some ⟨b, off, none⟩) 1 c] 26)).alloc (.cells #[.string nm] 9)).alloc (.cells #[.int .i64 u.kind, .string u.name, .int .i64 u.n, .slice ua u.args.length uc] 26)).alloc (.cells #[.int .i64 0, .string ⟨#[]⟩, .int .i64 0, .slice none 0 0] 26)).heap.size ((((w.alloc (.cells #[.int .i64 5, .string t.name, .int .i64 t.n, .slice (some ⟨b, off, none⟩) 1 c] 26)).alloc (.cells #[.string nm] 9)).alloc (.cells #[.int .i64 u.kind, .string u.name, .int .i64 u.n, .slice ua u.args.length uc] 26)).alloc (.cells #[.int .i64 0, .string ⟨#[]⟩, .int .i64 0, .slice none 0 0] 26)) W) => And.intro (R.k4.low h).c1 (And.intro (R.k4.low h).c3 (And.intro (R.hu.low h).c0 (And.intro (R.hu.low h).c1 (And.intro (R.hu.low h).c2 (And.intro (R.hu.low h).c3 (And.intro ((h.cell (p := ⟨w.heap.size + 1, 0, none⟩) (by simp <;> omega)).trans e0)
    (And.intro (((R.low h).hz.cell (p := ⟨b, off, none⟩) hbl).trans hf4.1) (And.intro (((R.low h).hz.cell (p := ⟨b, off + 1, none⟩) hbl).trans hf4.2.1) (And.intro (((R.low h).hz.cell (p := ⟨b, off + 2, none⟩) hbl).trans hf4.2.2.1) (((R.low h).hz.cell (p := ⟨b, off + 3, none⟩) hbl).trans hf4.2.2.2)))))))))))
  have RD := Lib.hid ((Below.refl ((((w.alloc (.cells #[.int .i64 5, .string t.name, .int .i64 t.n, .slice (some ⟨b, off, none⟩) 1 c] 26)).alloc (.cells #[.string nm] 9)).alloc (.cells #[.int .i64 u.kind, .string u.name, .int .i64 u.n, .slice ua u.args.length uc] 26)).alloc (.cells #[.int .i64 0, .string ⟨#[]⟩, .int .i64 0, .slice none 0 0] 26)).heap.size ((((w.alloc (.cells #[.int .i64 5, .string t.name, .int .i64 t.n, .slice (some ⟨b, off, none⟩) 1 c] 26)).alloc (.cells #[.string nm] 9)).alloc (.cells #[.int .i64 u.kind, .string u.name, .int .i64 u.n, .slice ua u.args.length uc] 26)).alloc (.cells #[.int .i64 0, .string ⟨#[]⟩, .int .i64 0, .slice none 0 0] 26))).drew)
  have hLl : (freeT u ++ freeT x ++ [t.name, nm]).length ≤ 1099511627776 := by simp; omega
  generalize hL : freeT u ++ freeT x ++ [t.name, nm] = L at *
  have HL := Lib.hid hL
  clear hL
  have RH := Lib.hid R
  have HT := Lib.hid hT
  have HS := Lib.hid hS
  have HU := Lib.hid hU
  have HNF := Lib.hid hnf
  have HF4 := Lib.hid hf4
  unfold tv at *
  rw [hln, hk]
  clear hg hd hs hA hS hT hx hx0 hln hx1 hf4 R hk hne hnf hns hU
  go_enter Tryz.func60, Tryz.ntmps60
  go_wp2
  go_region_held3 (fun w' => w'.cell? ⟨w.heap.size, 0, none⟩ = some (.int .i64 5) ∧ w'.cell? ⟨w.heap.size, 1, none⟩ = some (.string t.name) ∧ w'.cell? ⟨w.heap.size + 1 + 1, 0, none⟩ = some (.int .i64 u.kind) ∧ w'.cell? ⟨w.heap.size + 1 + 1, 1, none⟩ = some (.string u.name) ∧ w'.cell? ⟨w.heap.size + 1 + 1, 2, none⟩ = some (.int .i64 u.n) ∧ w'.cell? ⟨w.heap.size + 1 + 1, 3, none⟩ = some (.slice ua u.args.length uc))
    (first | exact SK.out _ hB1 | exact SK.out _ RD.out)
    (first
      | (go_at_call 25; refine (CFu.out _ RH.out.hz.drew).mono ?_; rintro e w1 ⟨v1, rfl, own1, len1, hb1⟩; have hB1 := RD.out.trans (hb1.mono (by simp)); have cc := Lib.hid (contains_any (StrsAt.of_own own1 (by omega)) t.name))
      | (go_at_call 46; refine cc.out.mono ?_; rintro e w2 ⟨rfl, rfl⟩))
  rw [contains_hasN, HNF.out]
  obtain ⟨wa, hwa⟩ : ∃ wa : World, wa = w1 := ⟨_, rfl⟩
  subst hwa
  have BA := Lib.hid hB1
  have sk := SK2.out _ hB1
  obtain ⟨s0, s1, s2, s3, s4, s5, s6, s7, s8, s9, s10⟩ := sk
  clear hb1 own1 len1 hB1 cc c0 c1 c2 c3 d0 d1 d2 d3 e0
  go_wp2
  have BD := Lib.hid ((Below.refl wa.heap.size wa).drew)
  have BD2 := Lib.hid (((Below.refl wa.heap.size wa).alloc (Nat.le_refl _) (.cells #[.string t.name, .string nm] 9)).drew)
  have KK := Lib.hid (fun (W : World) (h : Below wa.heap.size wa W) => SK2.out W (BA.out.trans (h.mono BA.out.size)))
  have BW := Lib.hid (fun (W : World) (h : Below wa.heap.size wa W) => RH.out.hz.trans ((BA.out.trans (h.mono BA.out.size)).mono RH.out.hz.size))
  go_region_held3 (fun w' => w'.cell? ⟨w.heap.size, 1, none⟩ = some (.string t.name) ∧ w'.cell? ⟨w.heap.size, 3, none⟩ = some (.slice (some ⟨b, off, none⟩) 1 c) ∧ w'.cell? ⟨w.heap.size + 1 + 1, 0, none⟩ = some (.int .i64 u.kind) ∧ w'.cell? ⟨w.heap.size + 1 + 1, 1, none⟩ = some (.string u.name) ∧ w'.cell? ⟨w.heap.size + 1 + 1, 2, none⟩ = some (.int .i64 u.n) ∧ w'.cell? ⟨w.heap.size + 1 + 1, 3, none⟩ = some (.slice ua u.args.length uc) ∧ w'.cell? ⟨w.heap.size + 1, 0, none⟩ = some (.string nm) ∧
      w'.cell? ⟨b, off, none⟩ = some (.int .i64 x.kind) ∧ w'.cell? ⟨b, off + 1, none⟩ = some (.string x.name) ∧ w'.cell? ⟨b, off + 2, none⟩ = some (.int .i64 x.n) ∧ w'.cell? ⟨b, off + 3, none⟩ = some (.slice a0 x.args.length p0))
    (first | exact KK.out _ hB4 | exact KK.out _ hB3 | exact KK.out _ ((hB2.alloc hB2.size _).alloc (hB2.alloc hB2.size _).size _) | exact KK.out _ (hB2.alloc hB2.size _) | exact KK.out _ hB2 | exact KK.out _ (hB1.alloc hB1.size _) | exact KK.out _ hB1 | exact KK.out _ BD2.out | exact KK.out _ BD.out)
    (first
      | (go_at_call 25; have _t := own1; (with_reducible refine (CFx.out _ (BW.out _ hB1)).mono ?_); rintro e w2 ⟨v2, rfl, own2, len2, hb2⟩; obtain ⟨ya2, yc2, rfl⟩ := own_form own2; have hB2 := hB1.trans (hb2.mono hB1.size); first | (have _u := tkF; skip) | (have tkL := True.intro; skip))
      | (go_at_call 25; have _t := own1; (with_reducible refine (CFx.out _ (BW.out _ (hB1.alloc hB1.size (.cells #[.string t.name, .string nm] 9)))).mono ?_); rintro e w2 ⟨v2, rfl, own2, len2, hb2⟩; obtain ⟨ya2, yc2, rfl⟩ := own_form own2; have hB2 := (hB1.alloc hB1.size (.cells #[.string t.name, .string nm] 9)).trans (hb2.mono (hB1.alloc hB1.size (.cells #[.string t.name, .string nm] 9)).size); have tkM := True.intro)
      | (go_at_call 25; (with_reducible refine (CFu.out _ (BW.out _ BD.out)).mono ?_); rintro e w1 ⟨v1, rfl, own1, len1, hb1⟩; obtain ⟨ya1, yc1, rfl⟩ := own_form own1; have hB1 := BD.out.trans (hb1.mono BD.out.size))
      | (go_at_call 25; (with_reducible refine (CFu.out _ (BW.out _ BD2.out)).mono ?_); rintro e w1 ⟨v1, rfl, own1, len1, hb1⟩; obtain ⟨ya1, yc1, rfl⟩ := own_form own1; have hB1 := BD2.out.trans (hb1.mono BD2.out.size); have tkF := True.intro)
      | (go_at_call 85; have _t := tkF; refine (concat_three HL.out (b3 := wa.heap.size) (N := w2.heap.size) (p := t.name) (q := nm) rfl own1 hb2 own2 (Below.refl _ _) ((hb2.block _ (Nat.lt_of_lt_of_le (by simp) hb1.size)).trans ((hb1.block _ (by simp)).trans (alloc_new (by simp)))) (by omega)).mono ?_; rintro e w3 ⟨v3, rfl, own3, hb3⟩; obtain ⟨ya3, yc3, rfl⟩ := own_form own3; have hB3 := (hB2.alloc hB2.size _).trans (hb3.mono (hB2.alloc hB2.size _).size))
      | (go_at_call 85; have _t := tkM; refine (concat_three HL.out (b3 := w1.heap.size) (N := w2.heap.size) (p := t.name) (q := nm) rfl own1 (((Below.refl w1.heap.size w1).alloc (Nat.le_refl _) _).trans (hb2.mono (by simp))) own2 (Below.refl _ _) ((hb2.block _ (by simp)).trans (heap_alloc_new w1 _)) (by omega)).mono ?_; rintro e w3 ⟨v3, rfl, own3, hb3⟩; obtain ⟨ya3, yc3, rfl⟩ := own_form own3; have hB3 := (hB2.alloc hB2.size _).trans (hb3.mono (hB2.alloc hB2.size _).size))
      | (go_at_call 85; have _t := tkL; refine (concat_three HL.out (b3 := w2.heap.size) (N := w2.heap.size + 1) (p := t.name) (q := nm) (by simp) own1 (hb2.alloc hb2.size _) own2 ((Below.refl w2.heap.size w2).alloc (Nat.le_refl _) _) (heap_alloc_new w2 _) (by omega)).mono ?_; rintro e w3 ⟨v3, rfl, own3, hb3⟩; obtain ⟨ya3, yc3, rfl⟩ := own_form own3; have hB3 := ((hB2.alloc hB2.size _).alloc (hB2.alloc hB2.size _).size _).trans (hb3.mono ((hB2.alloc hB2.size _).alloc (hB2.alloc hB2.size _).size _).size))
      | (go_at_call 84; refine (fresh_any t.name htn1 _ _ L _ (StrsAt.of_own own3 hLl) (fun b hb => (own3.lt b hb).2) (tab_below HT.out (BW.out _ hB3))).mono ?_; rintro e w4 ⟨rfl, hb4⟩; have hB4 := hB3.trans (hb4.mono hB3.size)))
  all_goals
    have R4 := Lib.hid (RH.out.low ((BA.out.trans (hB4.mono BA.out.size))))
    clear hb1 hb2 hb3 hb4 hB1 hB2 hB3 hB4 own1 own2 own3 len1 len2 s0 s1 s2 s3 s4 s5 s6 s7 s8 s9 s10 KK BD BD2 BW BA
    generalize hfn : freshT t.name L = fn at *
    clear hfn
    have RD4 := Lib.hid (R4.out.low (Below.refl w4.heap.size w4).drew)
    have KP := Lib.hid (renT_keeps t.name fn x hgx hfs.2 (by omega))
    have CR := Lib.hid (fun (W : World) (h : Below w.heap.size w W) => ren_any t.name fn x S a0 p0 W hgx (by omega) htn2 hfs.2 (hs0.keep fun b hb => h.block b (HS.out b hb)) (fun b hb => Nat.lt_of_lt_of_le (HS.out b hb) h.size) (tab_below HT.out h))
    have CT := Lib.hid (fun (W9 : World) (a9 : Option Addr) (c9 : Nat) (R9 : PutMem 5 t.name t.n (.slice (some ⟨b, off, none⟩) 1 c) nm u ua uc w W9) (hA9 : ArgsAt (fun b => S b ∨ w.heap.size + 4 ≤ b ∧ b < W9.heap.size) W9 (.slice a9 (renT t.name fn x).args.length c9) (renT t.name fn x).args) =>
      put_tail d ih nm fn u (renT t.name fn x) S ua a9 uc c9 _ _ _ _ w W9 R9 KP.out.2.2.1 hgu hfs.1 hfs.2 (by rw [KP.out.1]; exact hdx) (by rw [KP.out.2.1]; exact hsx) hsu hA9 HU.out HS.out HT.out)
    obtain ⟨f0, f1, f2, f3⟩ := HF4.out.keep (RD4.out.hz.block b hbl)
    have d1 := RD4.out.k4.c1
    have d3 := RD4.out.k4.c3
    go_wp2
    go_region_with ((go_at_call 63; refine (CR.out _ RD4.out.hz).mono ?_; rintro e w9 ⟨a9, c9, rfl, hA9, hb9⟩; have R9 := Lib.hid (RD4.out.low hb9); have k9 := R9.out.k4; have g0 := k9.c0; have g1 := k9.c1; have g2 := k9.c2; have g3 := k9.c3; have n0 := k9.fr 0; have n1 := k9.fr 1; have n2 := k9.fr 2; have n3 := k9.fr 3; have k10 := k9.low ((Below.refl _ _).alloc (Nat.le_refl _) (.cells #[.int .i64 (renT t.name fn x).kind, .string (renT t.name fn x).name, .int .i64 (renT t.name fn x).n, .slice a9 (renT t.name fn x).args.length c9] 26)); have h0 := k10.c0; have h1 := k10.c1; have h2 := k10.c2; have h3 := k10.c3; have m0 := k10.fr 0; have m1 := k10.fr 1; have m2 := k10.fr 2; have m3 := k10.fr 3; have HA9 := Lib.hid (hA9.mono fun b h => h.imp id fun h => And.intro (Nat.le_trans RD4.out.size h.1) h.2); clear k9 k10 hA9 hb9; unfold tv))
    all_goals
      go_wp2_with fail
      refine (CT.out _ _ _ R9.out HA9.out).mono ?_
      rintro e W2 ⟨a2, c2, rfl, hA2, hb2, q2⟩
      have r0 := q2.c0
      have r1 := q2.c1
      have r2 := q2.c2
      have r3 := q2.c3
      have v0 := q2.fr 0
      have v1 := q2.fr 1
      have v2 := q2.fr 2
      have v3 := q2.fr 3
      have HA2 := Lib.hid hA2
      have HB2 := Lib.hid hb2
      clear hA2 hb2 g0 g1 g2 g3 h0 h1 h2 h3 n0 n1 n2 n3 m0 m1 m2 m3 f0 f1 f2 f3 d1 d3
      generalize withT (tAllB fn (renT t.name fn x)) [PutF d nm u (renT t.name fn x)] = y at *
      unfold tv
      go_wp2
      have q5 := B4.set4 q2 (.int .i64 y.kind) (.string y.name) (.int .i64 y.n) (.slice a2 y.args.length c2)
      exact bodyPost_ret (v := tv y a2 c2) (by simp [results, Tryz.results60, go_sem, tv, q5.c0, q5.c1, q5.c2, q5.c3]) rfl (by rw [E.out]; exact cap_end HS.out HA2.out HB2.out)

end Go.Proofs.YtofllmemmggapaaGreatDoor.Tp

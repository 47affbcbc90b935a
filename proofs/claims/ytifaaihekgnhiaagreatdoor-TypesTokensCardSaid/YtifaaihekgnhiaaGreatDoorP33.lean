/- Texts laid together: TyFillC. -/
import Derived.Test.YtifaaihekgnhiaaGreatDoorP32
import Derived.Deep.RegionHeld3
import Derived.Deep.RegionWith

/- The walk of put: a name that is taken. -/
namespace Go.Proofs.YtifaaihekgnhiaaGreatDoor.Tp
open Go.RowKit

set_option maxRecDepth 100000 in
set_option maxHeartbeats 6400000 in
theorem fill_cap (d : Nat) (u t : Ty) (free : List ByteArray) (is : Ty → Bool) (fv isv : Value) (S Sf : Nat → Prop) (a ua : Option Addr) (c uc : Nat) (w : World) (ih : FillSaid d) (his : is t = false) (hk : t.kind = 5) (hnf : hasN free t.name = true) (hg : Good t) (hgu : Good u) (hd : t.depth ≤ d + 1) (hs : t.size ≤ 1073741824) (hsu : u.size ≤ 1073741824) (hsf : free.length ≤ 1073741824)
    (hA : ArgsAt S w (.slice a t.args.length c) t.args) (hU : ArgsAt S w (.slice ua u.args.length uc) u.args) (hF : StrsAt Sf w fv free) (hI : IsSaid isv is w) (hS : ∀ b, S b → b < w.heap.size) (hSf : ∀ b, Sf b → b < w.heap.size) (hT : Tab w) : Calls Tryz.prog 52 #[tv t a c, tv u ua uc, fv, isv] w (TP S (putF (d + 1) u free is t) w) := by
  obtain ⟨x, hx, hx0⟩ := wf_k5 hg.1 hk
  obtain ⟨b, off, a0, p0, rfl, hbS, hf4, hs0⟩ := arg0 hA hx
  obtain ⟨af, cf, rfl, hF'⟩ := id hF
  obtain ⟨f, caps, rfl, he, hc⟩ := id hI
  have hln : t.args.length = 1 := by rw [hx]; rfl
  have hx1 : x ∈ t.args := by rw [hx]; simp
  have hgx := good_args hg x hx1
  have hdx : x.depth ≤ d := by have := depth_arg _ hx1; rw [t.depth_eq] at hd; omega
  have hsx : x.size ≤ 1073741824 := by have := size_arg _ hx1; rw [t.size_eq] at hs; omega
  have hns := ((nm_iff t).1 hg.2).1
  have htn1 : 1 ≤ t.name.size := hns.1 hk
  have htn2 : t.name.size ≤ 64 := hns.2
  have R := fillMem 5 t.name t.n (.slice (some ⟨b, off, none⟩) 1 c) (.slice af free.length cf) (.func (.func f) #[] caps) u ua uc w
  have hfx := freeT_len x
  have hfs := freshT_size t.name (free ++ freeT x ++ [t.name]) (by simp; omega) htn1
  have E := Lib.hid (putF_cap d u free is t x his hk hnf hx0)
  have e0 := cell_of_row _ _ 0 _ _ _ R.hi
  have c0 := R.k4.c0
  have c1 := R.k4.c1
  have c2 := R.k4.c2
  have c3 := R.k4.c3
  have hbl := hS b hbS
  have CI := hc t (some ⟨b, off, none⟩) c _ R.hz
  unfold tv at CI
  rw [hln, hk] at CI
  have CI := Lib.hid CI
  have CC := Lib.hid (fun (W : World) (h : Below w.heap.size w W) => contains_any (hF.keep fun b hb => h.block b (hSf b hb)) t.name)
  have CFx := Lib.hid (fun (W : World) (h : Below w.heap.size w W) => free_any x S a0 p0 W (hs0.keep fun b hb => h.block b (hS b hb)) (fun b hb => Nat.lt_of_lt_of_le (hS b hb) h.size) (by omega))
  have SK2 := Lib.hid (fun (W : World) (h : Below (((((w.alloc (.cells #[.int .i64 5, .string t.name, .int .i64 t.n, .slice (some ⟨b, off, none⟩) 1 c] 25)).alloc (.cells #[.int .i64 u.kind, .string u.name, .int .i64 u.n, .slice ua u.args.length uc] 25)).alloc (.cells #[.slice af free.length cf] 49)).alloc (.cells #[.func (.func f) #[] caps] 83)).alloc (.cells #[.int .i64 0, .string ⟨#[]⟩, .int .i64 0, .slice none 0 0] 25)).heap.size (((((w.alloc (.cells #[.int .i64 5, .string t.name, .int .i64 t.n, .slice (some ⟨b, off, none⟩) 1 c] 25)).alloc (.cells #[.int .i64 u.kind, .string u.name, .int .i64 u.n, .slice ua u.args.length uc] 25)).alloc (.cells #[.slice af free.length cf] 49)).alloc (.cells #[.func (.func f) #[] caps] 83)).alloc (.cells #[.int .i64 0, .string ⟨#[]⟩, .int .i64 0, .slice none 0 0] 25)) W) => And.intro (R.k4.low h).c1 (And.intro (R.k4.low h).c3 (And.intro (cell_of_row _ _ 0 _ _ _ (R.low h).hf)
    (And.intro (((R.low h).hz.cell (p := ⟨b, off, none⟩) hbl).trans hf4.1) (And.intro (((R.low h).hz.cell (p := ⟨b, off + 1, none⟩) hbl).trans hf4.2.1) (And.intro (((R.low h).hz.cell (p := ⟨b, off + 2, none⟩) hbl).trans hf4.2.2.1) (((R.low h).hz.cell (p := ⟨b, off + 3, none⟩) hbl).trans hf4.2.2.2)))))))
  have hLl : (free ++ freeT x ++ [t.name]).length ≤ 1099511627776 := by simp; omega
  generalize hL : free ++ freeT x ++ [t.name] = L at *
  have HL := Lib.hid hL
  have HIS := Lib.hid his
  have RH := Lib.hid R
  have HT := Lib.hid hT
  have HS := Lib.hid hS
  have HSf := Lib.hid hSf
  have HU := Lib.hid hU
  have HF := Lib.hid hF
  have HI := Lib.hid hI
  have HNF := Lib.hid hnf
  have HF4 := Lib.hid hf4
  have hcl : free.length + (freeT x).length + 1 ≤ 1099511627776 := by omega
  unfold tv at *
  rw [hln, hk]
  clear hL hg hd hs hA hS hT hx hx0 hln hx1 hf4 R hk hnf hns hU his hF hF' hI hc hSf
  go_enter Tryz.func52, Tryz.ntmps52
  go_wp2_with fail
  refine CI.out.mono ?_
  rintro e w1 ⟨rfl, hb1⟩
  rw [HIS.out]
  have BA : Hid (Below (((((w.alloc (.cells #[.int .i64 5, .string t.name, .int .i64 t.n, .slice (some ⟨b, off, none⟩) 1 c] 25)).alloc (.cells #[.int .i64 u.kind, .string u.name, .int .i64 u.n, .slice ua u.args.length uc] 25)).alloc (.cells #[.slice af free.length cf] 49)).alloc (.cells #[.func (.func f) #[] caps] 83)).alloc (.cells #[.int .i64 0, .string ⟨#[]⟩, .int .i64 0, .slice none 0 0] 25)).heap.size (((((w.alloc (.cells #[.int .i64 5, .string t.name, .int .i64 t.n, .slice (some ⟨b, off, none⟩) 1 c] 25)).alloc (.cells #[.int .i64 u.kind, .string u.name, .int .i64 u.n, .slice ua u.args.length uc] 25)).alloc (.cells #[.slice af free.length cf] 49)).alloc (.cells #[.func (.func f) #[] caps] 83)).alloc (.cells #[.int .i64 0, .string ⟨#[]⟩, .int .i64 0, .slice none 0 0] 25)) w1) := Lib.hid hb1
  have R1 := Lib.hid (RH.out.low hb1)
  have l0 := R1.out.k4.c0
  obtain ⟨s0, s1, s2, s3, s4, s5, s6⟩ := SK2.out _ hb1
  clear hb1 c0 c1 c2 c3 e0
  have cc := CC.out w1 R1.out.hz
  rw [contains_hasN, HNF.out] at cc
  have CC1 := Lib.hid cc
  clear cc CC
  go_wp2_with fail
  refine CC1.out.mono ?_
  rintro e w' ⟨rfl, rfl⟩
  obtain ⟨wa, hwa⟩ : ∃ wa : World, wa = w1 := ⟨_, rfl⟩
  subst hwa
  go_wp2
  have BD := Lib.hid ((Below.refl wa.heap.size wa).drew)
  have BD2 := Lib.hid (((Below.refl wa.heap.size wa).alloc (Nat.le_refl _) (.cells #[.string t.name] 9)).drew)
  have KK := Lib.hid (fun (W : World) (h : Below wa.heap.size wa W) => SK2.out W (BA.out.trans (h.mono BA.out.size)))
  have BW := Lib.hid (fun (W : World) (h : Below wa.heap.size wa W) => RH.out.hz.trans ((BA.out.trans (h.mono BA.out.size)).mono RH.out.hz.size))
  go_region_held3 (fun w' => w'.cell? ⟨w.heap.size, 1, none⟩ = some (.string t.name) ∧ w'.cell? ⟨w.heap.size, 3, none⟩ = some (.slice (some ⟨b, off, none⟩) 1 c) ∧ w'.cell? ⟨w.heap.size + 1 + 1, 0, none⟩ = some (.slice af free.length cf) ∧
      w'.cell? ⟨b, off, none⟩ = some (.int .i64 x.kind) ∧ w'.cell? ⟨b, off + 1, none⟩ = some (.string x.name) ∧ w'.cell? ⟨b, off + 2, none⟩ = some (.int .i64 x.n) ∧ w'.cell? ⟨b, off + 3, none⟩ = some (.slice a0 x.args.length p0))
    (first | exact KK.out _ hB4 | exact KK.out _ hB3 | exact KK.out _ ((hB2.alloc hB2.size _).alloc (hB2.alloc hB2.size _).size _) | exact KK.out _ (hB2.alloc hB2.size _) | exact KK.out _ hB2 | exact KK.out _ BD2.out | exact KK.out _ BD.out)
    (first
      | (go_at_call 22; (with_reducible refine (CFx.out _ (BW.out _ BD.out)).mono ?_); rintro e w2 ⟨v2, rfl, own2, len2, hb2⟩; obtain ⟨ya2, yc2, rfl⟩ := own_form own2; have hB2 := BD.out.trans (hb2.mono BD.out.size); have tkL := True.intro)
      | (go_at_call 22; (with_reducible refine (CFx.out _ (BW.out _ BD2.out)).mono ?_); rintro e w2 ⟨v2, rfl, own2, len2, hb2⟩; obtain ⟨ya2, yc2, rfl⟩ := own_form own2; have hB2 := BD2.out.trans (hb2.mono BD2.out.size); have tkF := True.intro)
      | (go_at_call 48; have _t := tkF; refine (concat_mix HL.out (b3 := wa.heap.size) (N := w2.heap.size) (p := t.name) rfl HF.out HSf.out (BW.out _ hB2) own2 (Below.refl _ _) ((hb2.block _ (by simp)).trans (alloc_new (by simp))) hcl).mono ?_; rintro e w3 ⟨v3, rfl, own3, hb3⟩; obtain ⟨ya3, yc3, rfl⟩ := own_form own3; have hB3 := (hB2.alloc hB2.size _).trans (hb3.mono (hB2.alloc hB2.size _).size))
      | (go_at_call 48; have _t := tkL; refine (concat_mix HL.out (b3 := w2.heap.size) (N := w2.heap.size + 1) (p := t.name) (by simp) HF.out HSf.out (BW.out _ (hB2.alloc hB2.size _)) own2 ((Below.refl w2.heap.size w2).alloc (Nat.le_refl _) _) (heap_alloc_new w2 _) hcl).mono ?_; rintro e w3 ⟨v3, rfl, own3, hb3⟩; obtain ⟨ya3, yc3, rfl⟩ := own_form own3; have hB3 := ((hB2.alloc hB2.size _).alloc (hB2.alloc hB2.size _).size _).trans (hb3.mono ((hB2.alloc hB2.size _).alloc (hB2.alloc hB2.size _).size _).size))
      | (go_at_call 47; refine (fresh_any t.name htn1 _ _ L _ (StrsAt.of_own own3 hLl) (fun b hb => (own3.lt b hb).2) (tab_below HT.out (BW.out _ hB3))).mono ?_; rintro e w4 ⟨rfl, hb4⟩; have hB4 := hB3.trans (hb4.mono hB3.size)))
  all_goals
    have R4 := Lib.hid (RH.out.low ((BA.out.trans (hB4.mono BA.out.size))))
    clear hb2 hb3 hb4 hB2 hB3 hB4 own2 own3 len2 s0 s1 s2 s3 s4 s5 s6 l0 KK BD BD2 BW BA R1
    generalize hfn : freshT t.name L = fn at *
    clear hfn
    have RD4 := Lib.hid (R4.out.low (Below.refl w4.heap.size w4).drew)
    have KP := Lib.hid (renT_keeps t.name fn x hgx hfs.2 (by omega))
    have CR := Lib.hid (fun (W : World) (h : Below w.heap.size w W) => ren_any t.name fn x S a0 p0 W hgx (by omega) htn2 hfs.2 (hs0.keep fun b hb => h.block b (HS.out b hb)) (fun b hb => Nat.lt_of_lt_of_le (HS.out b hb) h.size) (tab_below HT.out h))
    have CT := Lib.hid (fun (W9 : World) (a9 : Option Addr) (c9 : Nat) (R9 : FillMem 5 t.name t.n (.slice (some ⟨b, off, none⟩) 1 c) (.slice af free.length cf) (.func (.func f) #[] caps) u ua uc w W9) (hA9 : ArgsAt (fun b => S b ∨ w.heap.size + 5 ≤ b ∧ b < W9.heap.size) W9 (.slice a9 (renT t.name fn x).args.length c9) (renT t.name fn x).args) =>
      fill_tail d ih fn u (renT t.name fn x) free is _ _ S Sf ua a9 uc c9 _ _ _ _ w W9 R9 KP.out.2.2.1 hgu hfs.1 hfs.2 (by rw [KP.out.1]; exact hdx) (by rw [KP.out.2.1]; exact hsx) hsu hsf hA9 HU.out HF.out HI.out HS.out HSf.out HT.out)
    obtain ⟨f0, f1, f2, f3⟩ := HF4.out.keep (RD4.out.hz.block b hbl)
    have d1 := RD4.out.k4.c1
    have d3 := RD4.out.k4.c3
    go_wp2
    go_region_with ((go_at_call 49; refine (CR.out _ RD4.out.hz).mono ?_; rintro e w9 ⟨a9, c9, rfl, hA9, hb9⟩; have R9 := Lib.hid (RD4.out.low hb9); have k9 := R9.out.k4; have g0 := k9.c0; have g1 := k9.c1; have g2 := k9.c2; have g3 := k9.c3; have n0 := k9.fr 0; have n1 := k9.fr 1; have n2 := k9.fr 2; have n3 := k9.fr 3; have k10 := k9.low ((Below.refl _ _).alloc (Nat.le_refl _) (.cells #[.int .i64 (renT t.name fn x).kind, .string (renT t.name fn x).name, .int .i64 (renT t.name fn x).n, .slice a9 (renT t.name fn x).args.length c9] 25)); have h0 := k10.c0; have h1 := k10.c1; have h2 := k10.c2; have h3 := k10.c3; have m0 := k10.fr 0; have m1 := k10.fr 1; have m2 := k10.fr 2; have m3 := k10.fr 3; have HA9 := Lib.hid (hA9.mono fun b h => h.imp id fun h => And.intro (Nat.le_trans RD4.out.size h.1) h.2); clear k9 k10 hA9 hb9; unfold tv))
    all_goals
      go_wp2_with fail
      refine (CT.out _ _ _ R9.out HA9.out).mono ?_
      rintro e W2 ⟨a2, c2, rfl, hA2, hb2, q2⟩
      have r0 := q2.c0
      have r1 := q2.c1
      have r2 := q2.c2
      have r3 := q2.c3
      have v0 := q2.fr 0
      have v1 := q2.fr 1
      have v2 := q2.fr 2
      have v3 := q2.fr 3
      have HA2 := Lib.hid hA2
      have HB2 := Lib.hid hb2
      clear hA2 hb2 g0 g1 g2 g3 h0 h1 h2 h3 n0 n1 n2 n3 m0 m1 m2 m3 f0 f1 f2 f3 d1 d3
      generalize withT (tAllB fn (renT t.name fn x)) [putF d u free is (renT t.name fn x)] = y at *
      unfold tv
      go_wp2
      have q5 := B4.set4 q2 (.int .i64 y.kind) (.string y.name) (.int .i64 y.n) (.slice a2 y.args.length c2)
      exact bodyPost_ret (v := tv y a2 c2) (by simp [results, Tryz.results52, go_sem, tv, q5.c0, q5.c1, q5.c2, q5.c3]) rfl (by rw [E.out]; exact fill_end HS.out HA2.out HB2.out)

end Go.Proofs.YtifaaihekgnhiaaGreatDoor.Tp

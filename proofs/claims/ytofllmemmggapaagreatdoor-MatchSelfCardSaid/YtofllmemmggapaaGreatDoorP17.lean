/- Texts laid together: TyRenB, TyRenT. -/
import Derived.Test.YtofllmemmggapaaGreatDoorP16

/- The walk of renamed, but for a name that is taken. -/
namespace Go.Proofs.YtofllmemmggapaaGreatDoor.Tp
open Go.RowKit

/-- memory behind the begin of renamed -/
structure RenMem (k : Int) (s : ByteArray) (m : Int) (sl : Value) (fr to : ByteArray) (w W0 : World) : Prop where
  hz : Below w.heap.size w W0
  k4 : B4 W0 w.heap.size (.int .i64 k) (.string s) (.int .i64 m) sl
  hf : W0.heap[w.heap.size + 1]? = some (.cells #[.string fr] 9 (0, 0))
  ht : W0.heap[w.heap.size + 2]? = some (.cells #[.string to] 9 (0, 0))
  q4 : B4 W0 (w.heap.size + 3) (.int .i64 0) (.string ⟨#[]⟩) (.int .i64 0) (.slice none 0 0)
  size : W0.heap.size = w.heap.size + 4

theorem renMem (k : Int) (s : ByteArray) (m : Int) (sl : Value) (fr to : ByteArray) (w : World) : RenMem k s m sl fr to w ((((w.alloc (.cells #[.int .i64 k, .string s, .int .i64 m, sl] 26)).alloc (.cells #[.string fr] 9)).alloc (.cells #[.string to] 9)).alloc (.cells #[.int .i64 0, .string ⟨#[]⟩, .int .i64 0, .slice none 0 0] 26)) := by
  have hz := (Below.refl w.heap.size w).alloc (Nat.le_refl _) (.cells #[.int .i64 k, .string s, .int .i64 m, sl] 26)
  have hz2 := hz.alloc hz.size (.cells #[.string fr] 9)
  have hz3 := hz2.alloc hz2.size (.cells #[.string to] 9)
  have hz4 := hz3.alloc hz3.size (.cells #[.int .i64 0, .string ⟨#[]⟩, .int .i64 0, .slice none 0 0] 26)
  refine ⟨hz4, ?_, ?_, ?_, alloc_new (by simp), by simp⟩
  · exact (((B4.new w _ _ _ _).low ((Below.refl _ _).alloc (Nat.le_refl _) _)).low ((Below.refl _ _).alloc (Nat.le_refl _) _)).low ((Below.refl _ _).alloc (Nat.le_refl _) _)
  · rw [heap_alloc_old _ _ (by simp), heap_alloc_old _ _ (by simp)]
    exact alloc_new (by simp)
  · rw [heap_alloc_old _ _ (by simp)]
    exact alloc_new (by simp)

theorem four_allocs (w : World) (o1 o2 o3 o4 : Obj) : Below w.heap.size w ((((w.alloc o1).alloc o2).alloc o3).alloc o4) := by
  have h1 := (Below.refl w.heap.size w).alloc (Nat.le_refl _) o1
  have h2 := h1.alloc h1.size o2
  have h3 := h2.alloc h2.size o3
  exact h3.alloc h3.size o4

theorem renF_var (d : Nat) (fr to : ByteArray) (t : Ty) (hk : t.kind = 1) (hn : t.name = fr) : renF (d + 1) fr to t = .mk t.kind to t.n t.args := by
  rw [renF, if_pos (by rw [hk, hn, (eqN_iff _ _).2 rfl]; rfl)]
theorem renF_same (d : Nat) (fr to : ByteArray) (t : Ty) (hk : t.kind = 5) (hn : t.name = fr) : renF (d + 1) fr to t = t := by
  rw [renF, if_neg (by rw [hk]; simp), if_pos (by rw [hk, hn, (eqN_iff _ _).2 rfl]; rfl)]
theorem renF_with (d : Nat) (fr to : ByteArray) (t : Ty) (h1 : t.kind = 1 → t.name ≠ fr) (h5 : t.kind = 5 → t.name ≠ fr ∧ t.name ≠ to) : renF (d + 1) fr to t = withA t (t.args.map (renF d fr to)) := by
  rw [renF, if_neg, if_neg, if_neg]
  · intro h; simp only [Bool.and_eq_true, beq_iff_eq] at h; exact (h5 h.1).2 ((eqN_iff _ _).1 h.2)
  · intro h; simp only [Bool.and_eq_true, beq_iff_eq] at h; exact (h5 h.1).1 ((eqN_iff _ _).1 h.2)
  · intro h; simp only [Bool.and_eq_true, beq_iff_eq] at h; exact h1 h.1 ((eqN_iff _ _).1 h.2)

theorem beqN_true {a b : ByteArray} (h : a = b) : (a.toList == b.toList) = true := by rw [h]; simp
theorem beqN_false {a b : ByteArray} (h : a ≠ b) : (a.toList == b.toList) = false := by
  rw [beq_eq_false_iff_ne]
  intro e
  rw [ByteArray.toList_eq, ByteArray.toList_eq] at e
  exact h (ByteArray.ext (Array.toList_inj.1 e))

set_option maxRecDepth 100000 in
set_option maxHeartbeats 1600000 in
theorem ren_var (d : Nat) (fr to : ByteArray) (t : Ty) (S : Nat → Prop) (a : Option Addr) (c : Nat) (w : World) (hk : t.kind = 1) (hn : t.name = fr) (hA : ArgsAt S w (.slice a t.args.length c) t.args) (hS : ∀ b, S b → b < w.heap.size) :
    Calls Tryz.prog 63 #[tv t a c, .string fr, .string to] w (TP S (renF (d + 1) fr to t) w) := by
  have R := renMem t.kind t.name t.n (.slice a t.args.length c) fr to w
  have e0 := cell_of_row _ _ 0 _ _ _ R.hf
  have e1 := cell_of_row _ _ 0 _ _ _ R.ht
  have c0 := R.k4.c0
  have c1 := R.k4.c1
  have c2 := R.k4.c2
  have c3 := R.k4.c3
  have s1 := R.k4.fr 1
  have z1 : (t.kind == 1) = true := by rw [beq_iff_eq]; exact hk
  have z2 := beqN_true hn
  have E := Lib.hid (renF_var d fr to t hk hn)
  have HA := Lib.hid hA
  have HS := Lib.hid hS
  unfold tv
  clear R hk hn hA hS
  go_enter Tryz.func63, Tryz.ntmps63
  go_wp2
  have q5 : B4 ((((w.alloc (.cells #[.int .i64 t.kind, .string to, .int .i64 t.n, .slice a t.args.length c] 26)).alloc (.cells #[.string fr] 9)).alloc (.cells #[.string to] 9)).alloc (.cells #[.int .i64 t.kind, .string to, .int .i64 t.n, .slice a t.args.length c] 26)) (w.heap.size + 3) (.int .i64 t.kind) (.string to) (.int .i64 t.n) (.slice a t.args.length c) := alloc_new (by simp)
  refine bodyPost_ret (v := .agg #[.int .i64 t.kind, .string to, .int .i64 t.n, .slice a t.args.length c]) (by simp [results, Tryz.results63, go_sem, q5.c0, q5.c1, q5.c2, q5.c3]) rfl ?_
  have hb := four_allocs w (.cells #[.int .i64 t.kind, .string to, .int .i64 t.n, .slice a t.args.length c] 26) (.cells #[.string fr] 9) (.cells #[.string to] 9) (.cells #[.int .i64 t.kind, .string to, .int .i64 t.n, .slice a t.args.length c] 26)
  rw [E.out]
  exact ⟨a, c, rfl, (HA.out.keep fun b h => hb.block b (HS.out b h)).mono fun b h => .inl h, hb⟩

set_option maxRecDepth 100000 in
set_option maxHeartbeats 1600000 in
theorem ren_same (d : Nat) (fr to : ByteArray) (t : Ty) (S : Nat → Prop) (a : Option Addr) (c : Nat) (w : World) (hk : t.kind = 5) (hn : t.name = fr) (hA : ArgsAt S w (.slice a t.args.length c) t.args) (hS : ∀ b, S b → b < w.heap.size) :
    Calls Tryz.prog 63 #[tv t a c, .string fr, .string to] w (TP S (renF (d + 1) fr to t) w) := by
  have R := renMem t.kind t.name t.n (.slice a t.args.length c) fr to w
  have e0 := cell_of_row _ _ 0 _ _ _ R.hf
  have e1 := cell_of_row _ _ 0 _ _ _ R.ht
  have c0 := R.k4.c0
  have c1 := R.k4.c1
  have c2 := R.k4.c2
  have c3 := R.k4.c3
  have s1 := R.k4.fr 1
  have z1 : (t.kind == 1) = false := by rw [beq_eq_false_iff_ne]; omega
  have z3 : (t.kind == 5) = true := by rw [beq_iff_eq]; exact hk
  have z2 := beqN_true hn
  have E := Lib.hid (renF_same d fr to t hk hn)
  have HA := Lib.hid hA
  have HS := Lib.hid hS
  unfold tv
  clear R hk hn hA hS
  go_enter Tryz.func63, Tryz.ntmps63
  go_wp2
  have q5 : B4 ((((w.alloc (.cells #[.int .i64 t.kind, .string t.name, .int .i64 t.n, .slice a t.args.length c] 26)).alloc (.cells #[.string fr] 9)).alloc (.cells #[.string to] 9)).alloc (.cells #[.int .i64 t.kind, .string t.name, .int .i64 t.n, .slice a t.args.length c] 26)) (w.heap.size + 3) (.int .i64 t.kind) (.string t.name) (.int .i64 t.n) (.slice a t.args.length c) := alloc_new (by simp)
  refine bodyPost_ret (v := .agg #[.int .i64 t.kind, .string t.name, .int .i64 t.n, .slice a t.args.length c]) (by simp [results, Tryz.results63, go_sem, q5.c0, q5.c1, q5.c2, q5.c3]) rfl ?_
  have hb := four_allocs w (.cells #[.int .i64 t.kind, .string t.name, .int .i64 t.n, .slice a t.args.length c] 26) (.cells #[.string fr] 9) (.cells #[.string to] 9) (.cells #[.int .i64 t.kind, .string t.name, .int .i64 t.n, .slice a t.args.length c] 26)
  rw [E.out]
  exact ⟨a, c, rfl, (HA.out.keep fun b h => hb.block b (HS.out b h)).mono fun b h => .inl h, hb⟩

set_option maxRecDepth 100000 in
set_option maxHeartbeats 3200000 in
theorem ren_with (d : Nat) (ih : RenSaid d) (fr to : ByteArray) (t : Ty) (S : Nat → Prop) (a : Option Addr) (c : Nat) (w : World) (h1 : t.kind = 1 → t.name ≠ fr) (h5 : t.kind = 5 → t.name ≠ fr ∧ t.name ≠ to) (hg : Good t) (hd : t.depth ≤ d + 1) (hs : t.size ≤ 1099511627000) (hfr : fr.size ≤ 64) (hto : to.size ≤ 64)
    (hA : ArgsAt S w (.slice a t.args.length c) t.args) (hS : ∀ b, S b → b < w.heap.size) (hT : Tab w) :
    Calls Tryz.prog 63 #[tv t a c, .string fr, .string to] w (TP S (renF (d + 1) fr to t) w) := by
  have R := renMem t.kind t.name t.n (.slice a t.args.length c) fr to w
  have e0 := cell_of_row _ _ 0 _ _ _ R.hf
  have e1 := cell_of_row _ _ 0 _ _ _ R.ht
  have c0 := R.k4.c0
  have c1 := R.k4.c1
  have c2 := R.k4.c2
  have c3 := R.k4.c3
  have s1 := R.k4.fr 1
  have hwf := (wf_iff t).1 hg.1
  have hnm := (nm_iff t).1 hg.2
  have hsz := t.size_eq
  have hdp := t.depth_eq
  have hal := length_le_sizeL t.args
  have CW := with_any 87 #[.pointer (some ⟨w.heap.size + 1, 0, none⟩), .pointer (some ⟨w.heap.size + 2, 0, none⟩)] ren1Enters noT noI (fun (_ : Unit) x => (renF d fr to x, ())) t () S a c ((((w.alloc (.cells #[.int .i64 t.kind, .string t.name, .int .i64 t.n, .slice a t.args.length c] 26)).alloc (.cells #[.string fr] 9)).alloc (.cells #[.string to] 9)).alloc (.cells #[.int .i64 0, .string ⟨#[]⟩, .int .i64 0, .slice none 0 0] 26)) trivial (fun _ _ _ _ _ => trivial) (hA.keep fun b hb => R.hz.block b (hS b hb)) (fun b hb => ⟨Nat.lt_of_lt_of_le (hS b hb) R.hz.size, id⟩) (fun b hb => hb.elim) (by omega)
    (fun i hi a' c' W _ hK hA' => (ren1_any d ih fr to (w.heap.size + 1) (w.heap.size + 2) t.args[i] S a' c' W (((hK.to_below).cell (p := ⟨w.heap.size + 1, 0, none⟩) (by have := R.size; simp only at *; omega)).trans e0) (((hK.to_below).cell (p := ⟨w.heap.size + 2, 0, none⟩) (by have := R.size; simp only at *; omega)).trans e1)
      ⟨hwf.2 _ (List.getElem_mem hi), hnm.2 _ (List.getElem_mem hi)⟩ (by have := depth_arg _ (List.getElem_mem hi); omega) (by have := size_arg _ (List.getElem_mem hi); omega) hfr hto hA' (fun b hb => Nat.lt_of_lt_of_le (hS b hb) (Nat.le_trans R.hz.size hK.size)) (tab_below hT (R.hz.trans (hK.to_below.mono R.hz.size)))).mono fun e W' h => h.post)
  rw [mapAcc_unit] at CW
  have E := Lib.hid (renF_with d fr to t h1 h5)
  have CW := Lib.hid CW
  have HS := Lib.hid hS
  have RH := Lib.hid R
  have q : (t.kind == 1) = true ∧ (t.name.toList == fr.toList) = false ∧ (t.kind == 5) = false ∨ (t.kind == 1) = false ∧ (t.kind == 5) = true ∧ (t.name.toList == fr.toList) = false ∧ (t.name.toList == to.toList) = false ∨ (t.kind == 1) = false ∧ (t.kind == 5) = false := by
    simp only [beq_eq_false_iff_ne, beq_iff_eq]
    by_cases hk1 : t.kind = 1
    · exact .inl ⟨hk1, by rw [← beq_eq_false_iff_ne]; exact beqN_false (h1 hk1), by omega⟩
    · by_cases hk5 : t.kind = 5
      · exact .inr (.inl ⟨by omega, hk5, by rw [← beq_eq_false_iff_ne]; exact beqN_false (h5 hk5).1, by rw [← beq_eq_false_iff_ne]; exact beqN_false (h5 hk5).2⟩)
      · exact .inr (.inr ⟨hk1, hk5⟩)
  unfold tv at *
  clear R h1 h5 hg hd hs hfr hto hA hS hT hwf hnm hsz hdp hal ih
  rcases q with ⟨z1, z2, z3⟩ | ⟨z1, z2, z3, z4⟩ | ⟨z1, z2⟩
  all_goals
    go_enter Tryz.func63, Tryz.ntmps63
    go_wp2_with fail
    refine CW.out.mono ?_
    rintro e W2 ⟨a2, c2, rfl, hA2, _, hk2⟩
    have q4 := RH.out.q4.low hk2.to_below
    have r0 := q4.c0
    have r1 := q4.c1
    have r2 := q4.c2
    have r3 := q4.c3
    have u0 := q4.fr 0
    have u1 := q4.fr 1
    have u2 := q4.fr 2
    have u3 := q4.fr 3
    have HA2 := Lib.hid hA2
    have HB2 := Lib.hid hk2.to_below
    clear hA2 hk2
    have EY : Hid (renF (d + 1) fr to t = withT t (t.args.map (renF d fr to))) := E
    clear E
    generalize withT t (t.args.map (renF d fr to)) = y at *
    unfold tv
    go_wp2
    have q5 := B4.set4 q4 (.int .i64 y.kind) (.string y.name) (.int .i64 y.n) (.slice a2 y.args.length c2)
    exact bodyPost_ret (v := tv y a2 c2) (by simp [results, Tryz.results63, go_sem, tv, q5.c0, q5.c1, q5.c2, q5.c3]) rfl (by rw [EY.out]; exact TP.stored (R := w.heap.size + 3) HS.out RH.out.hz HA2.out HB2.out (by omega) (by rw [RH.out.size]; omega))

end Go.Proofs.YtofllmemmggapaaGreatDoor.Tp

/- The walk of renamed: what stands behind a name that is taken. -/
namespace Go.Proofs.YtofllmemmggapaaGreatDoor.Tp
open Go.RowKit

theorem renF_cap (d : Nat) (fr to : ByteArray) (t x : Ty) (hk : t.kind = 5) (hn : t.name = to) (hne : t.name ≠ fr) (hx : arg0T t = x) :
    renF (d + 1) fr to t = withT (tAllB (freshT to (freeT x ++ [fr, to])) (renF d to (freshT to (freeT x ++ [fr, to])) x)) [renF d fr to (renF d to (freshT to (freeT x ++ [fr, to])) x)] := by
  rw [renF, if_neg (by rw [hk]; simp), if_neg, if_pos (by rw [hk, hn, (eqN_iff _ _).2 rfl]; rfl), hx]
  · rfl
  · intro h; simp only [Bool.and_eq_true] at h; exact hne ((eqN_iff _ _).1 h.2)

/-- what stands behind the call of with -/
def CapPost (S : Nat → Prop) (y : Ty) (w : World) (e : Ending) (W2 : World) : Prop :=
  ∃ a c, e = .returned (tv y a c) ∧ ArgsAt (fun b => S b ∨ w.heap.size + 4 ≤ b ∧ b < W2.heap.size) W2 (.slice a y.args.length c) y.args ∧ Below w.heap.size w W2 ∧ B4 W2 (w.heap.size + 3) (.int .i64 0) (.string ⟨#[]⟩) (.int .i64 0) (.slice none 0 0)

theorem cap_end {S : Nat → Prop} {y : Ty} {w W2 : World} {a : Option Addr} {c : Nat} (hS : ∀ b, S b → b < w.heap.size) (hA : ArgsAt (fun b => S b ∨ w.heap.size + 4 ≤ b ∧ b < W2.heap.size) W2 (.slice a y.args.length c) y.args) (hb : Below w.heap.size w W2) :
    TP S y w (.returned (tv y a c)) ((((W2.setCell ⟨w.heap.size + 3, 0, none⟩ (.int .i64 y.kind)).setCell ⟨w.heap.size + 3, 1, none⟩ (.string y.name)).setCell ⟨w.heap.size + 3, 2, none⟩ (.int .i64 y.n)).setCell ⟨w.heap.size + 3, 3, none⟩ (.slice a y.args.length c)) := by
  have hs : ∀ b, b ≠ w.heap.size + 3 → ((((W2.setCell ⟨w.heap.size + 3, 0, none⟩ (.int .i64 y.kind)).setCell ⟨w.heap.size + 3, 1, none⟩ (.string y.name)).setCell ⟨w.heap.size + 3, 2, none⟩ (.int .i64 y.n)).setCell ⟨w.heap.size + 3, 3, none⟩ (.slice a y.args.length c)).heap[b]? = W2.heap[b]? := fun b hb => by
    rw [Below.heap_setCell _ _ _ _ hb, Below.heap_setCell _ _ _ _ hb, Below.heap_setCell _ _ _ _ hb, Below.heap_setCell _ _ _ _ hb]
  refine ⟨a, c, rfl, (hA.keep fun b h => hs b ?_).mono fun b h => h.imp id fun h => ⟨by omega, by simpa using h.2⟩, hb.set4 (by omega) _ _ _ _⟩
  rcases h with h | h
  · have := hS b h; omega
  · omega

theorem cap_tail (d : Nat) (ih : RenSaid d) (fr to fn : ByteArray) (y : Ty) (S : Nat → Prop) (w w9 : World) (a9 : Option Addr) (c9 : Nat) (hg : Good y) (hd : y.depth ≤ d) (hs : y.size ≤ 1099511627000) (hfr : fr.size ≤ 64) (hto : to.size ≤ 64) (hS : ∀ b, S b → b < w.heap.size) (hT : Tab w)
    (hb : Below w.heap.size w w9) (hf : w9.heap[w.heap.size + 1]? = some (.cells #[.string fr] 9 (0, 0))) (ht : w9.heap[w.heap.size + 2]? = some (.cells #[.string to] 9 (0, 0))) (q4 : B4 w9 (w.heap.size + 3) (.int .i64 0) (.string ⟨#[]⟩) (.int .i64 0) (.slice none 0 0))
    (hA : ArgsAt (fun b => S b ∨ w.heap.size + 4 ≤ b ∧ b < w9.heap.size) w9 (.slice a9 y.args.length c9) y.args) (hsz : w.heap.size + 4 ≤ w9.heap.size) :
    Calls Tryz.prog 64 #[.agg #[.int .i64 5, .string fn, .int .i64 0, .slice (some ⟨w9.heap.size, 0, none⟩) 1 1], .func (.func 87) #[] #[.pointer (some ⟨w.heap.size + 1, 0, none⟩), .pointer (some ⟨w.heap.size + 1 + 1, 0, none⟩)]]
      (((((w9.alloc (.cells #[.int .i64 y.kind, .string y.name, .int .i64 y.n, .slice a9 y.args.length c9] 26)).setCell ⟨w.heap.size, 0, none⟩ (.int .i64 5)).setCell ⟨w.heap.size, 1, none⟩ (.string fn)).setCell ⟨w.heap.size, 2, none⟩ (.int .i64 0)).setCell ⟨w.heap.size, 3, none⟩ (.slice (some ⟨w9.heap.size, 0, none⟩) 1 1))
      (CapPost S (withT (tAllB fn y) [renF d fr to y]) w) := by
  have hs10 : ∀ b, b ≠ w.heap.size → (((((w9.alloc (.cells #[.int .i64 y.kind, .string y.name, .int .i64 y.n, .slice a9 y.args.length c9] 26)).setCell ⟨w.heap.size, 0, none⟩ (.int .i64 5)).setCell ⟨w.heap.size, 1, none⟩ (.string fn)).setCell ⟨w.heap.size, 2, none⟩ (.int .i64 0)).setCell ⟨w.heap.size, 3, none⟩ (.slice (some ⟨w9.heap.size, 0, none⟩) 1 1)).heap[b]? = (w9.alloc (.cells #[.int .i64 y.kind, .string y.name, .int .i64 y.n, .slice a9 y.args.length c9] 26)).heap[b]? := fun b hb => by
    rw [Below.heap_setCell _ _ _ _ hb, Below.heap_setCell _ _ _ _ hb, Below.heap_setCell _ _ _ _ hb, Below.heap_setCell _ _ _ _ hb]
  have hb10 := (hb.alloc hb.size (.cells #[.int .i64 y.kind, .string y.name, .int .i64 y.n, .slice a9 y.args.length c9] 26)).set4 (Nat.le_refl w.heap.size) (.int .i64 5) (.string fn) (.int .i64 0) (.slice (some ⟨w9.heap.size, 0, none⟩) 1 1)
  have hz10 : (((((w9.alloc (.cells #[.int .i64 y.kind, .string y.name, .int .i64 y.n, .slice a9 y.args.length c9] 26)).setCell ⟨w.heap.size, 0, none⟩ (.int .i64 5)).setCell ⟨w.heap.size, 1, none⟩ (.string fn)).setCell ⟨w.heap.size, 2, none⟩ (.int .i64 0)).setCell ⟨w.heap.size, 3, none⟩ (.slice (some ⟨w9.heap.size, 0, none⟩) 1 1)).heap.size = w9.heap.size + 1 := by simp
  have hA10 : ArgsAt (fun b => S b ∨ w.heap.size + 4 ≤ b ∧ b < w9.heap.size + 1) (((((w9.alloc (.cells #[.int .i64 y.kind, .string y.name, .int .i64 y.n, .slice a9 y.args.length c9] 26)).setCell ⟨w.heap.size, 0, none⟩ (.int .i64 5)).setCell ⟨w.heap.size, 1, none⟩ (.string fn)).setCell ⟨w.heap.size, 2, none⟩ (.int .i64 0)).setCell ⟨w.heap.size, 3, none⟩ (.slice (some ⟨w9.heap.size, 0, none⟩) 1 1)) (.slice (some ⟨w9.heap.size, 0, none⟩) 1 1) [y] := by
    refine args_one (g := w9.heap.size) ((hs10 _ (by omega)).trans (heap_alloc_new w9 _)) rfl rfl rfl (.inr ⟨by omega, by omega⟩) ((hA.keep fun b hb2 => ?_).mono fun b hb2 => hb2.imp id fun h => ⟨h.1, by omega⟩)
    have hlt : b < w9.heap.size ∧ b ≠ w.heap.size := by
      rcases hb2 with h | h
      · have := hS b h; have := hb.size; omega
      · omega
    exact (hs10 b hlt.2).trans (heap_alloc_old w9 _ hlt.1)
  have qq := (hs10 (w.heap.size + 3) (by omega)).trans ((heap_alloc_old w9 _ (by omega)).trans q4)
  have hff := cell_of_row _ _ 0 _ _ _ ((hs10 (w.heap.size + 1) (by omega)).trans ((heap_alloc_old w9 _ (by omega)).trans hf))
  have htt := cell_of_row _ _ 0 _ _ _ ((hs10 (w.heap.size + 2) (by omega)).trans ((heap_alloc_old w9 _ (by omega)).trans ht))
  generalize (((((w9.alloc (.cells #[.int .i64 y.kind, .string y.name, .int .i64 y.n, .slice a9 y.args.length c9] 26)).setCell ⟨w.heap.size, 0, none⟩ (.int .i64 5)).setCell ⟨w.heap.size, 1, none⟩ (.string fn)).setCell ⟨w.heap.size, 2, none⟩ (.int .i64 0)).setCell ⟨w.heap.size, 3, none⟩ (.slice (some ⟨w9.heap.size, 0, none⟩) 1 1)) = W10 at *
  have hSS : ∀ b, (S b ∨ w.heap.size + 4 ≤ b ∧ b < w9.heap.size + 1) → b < W10.heap.size := fun b h => by
    rcases h with h | h
    · have := hS b h; have := hb.size; omega
    · omega
  have CW := with_any 87 #[.pointer (some ⟨w.heap.size + 1, 0, none⟩), .pointer (some ⟨w.heap.size + 2, 0, none⟩)] ren1Enters noT noI (fun (_ : Unit) x => (renF d fr to x, ())) (tAllB fn y) () (fun b => S b ∨ w.heap.size + 4 ≤ b ∧ b < w9.heap.size + 1) (some ⟨w9.heap.size, 0, none⟩) 1 W10 trivial (fun _ _ _ _ _ => trivial) hA10 (fun b h => ⟨hSS b h, id⟩) (fun b hb => hb.elim) (by simp [tAllB, Ty.args])
    (fun i hi a' c' W _ hK hA' => by
      have hi0 : i = 0 := by simp [tAllB, Ty.args] at hi; exact hi
      subst hi0
      exact (ren1_any d ih fr to (w.heap.size + 1) (w.heap.size + 2) y _ a' c' W (((hK.to_below).cell (p := ⟨w.heap.size + 1, 0, none⟩) (by simp only; omega)).trans hff) (((hK.to_below).cell (p := ⟨w.heap.size + 2, 0, none⟩) (by simp only; omega)).trans htt)
        hg hd hs hfr hto hA' (fun b h => Nat.lt_of_lt_of_le (hSS b h) hK.size) (tab_below hT (hb10.trans (hK.to_below.mono hb10.size)))).mono fun e W' h => h.post)
  rw [mapAcc_unit] at CW
  refine CW.mono fun e W2 ⟨a2, c2, he, hA2, _, hk2⟩ => ⟨a2, c2, he, hA2.mono fun b h => ?_, hb10.trans (hk2.to_below.mono hb10.size), B4.low qq hk2.to_below⟩
  have := hk2.size
  rcases h with (h | h) | h
  · exact .inl h
  · exact .inr ⟨h.1, by omega⟩
  · exact .inr ⟨by omega, h.2⟩

end Go.Proofs.YtofllmemmggapaaGreatDoor.Tp

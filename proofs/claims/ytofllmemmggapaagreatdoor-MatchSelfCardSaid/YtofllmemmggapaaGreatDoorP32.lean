/- Texts laid together: RfRead. -/
import Derived.Test.YtofllmemmggapaaGreatDoorP31

/- The walk of the document's Read: a type that begins with an app. (Printed by gen_rfread.py.) -/
namespace Go.Proofs.YtofllmemmggapaaGreatDoor.Tp
open Go.RowKit
open Lx

theorem rargs_two {w : World} {g : Nat} {ty : TypeId} {a b : Ty} {sa sb : Value} {S : Nat → Prop} (h : w.heap[g]? = some (.cells #[.int .i64 a.kind, .string a.name, .int .i64 a.n, sa, .int .i64 b.kind, .string b.name, .int .i64 b.n, sb] ty (0, 0))) (hg : S g) (ha : ArgsAt S w sa a.args) (hb : ArgsAt S w sb b.args) :
    ArgsAt S w (.slice (some ⟨g, 0, none⟩) 2 2) [a, b] := by
  refine .mk g 0 2 [a, b] (fun i => if i = 0 then sa else sb) hg (by simp) (fun i hi => ?_) (fun i hi => ?_)
  · have hi2 : i = 0 ∨ i = 1 := by simp at hi; omega
    rcases hi2 with rfl | rfl
    · exact ⟨cell_of_row w g 0 _ _ _ h, cell_of_row w g 1 _ _ _ h, cell_of_row w g 2 _ _ _ h, cell_of_row w g 3 _ _ _ h⟩
    · exact ⟨cell_of_row w g 4 _ _ _ h, cell_of_row w g 5 _ _ _ h, cell_of_row w g 6 _ _ _ h, cell_of_row w g 7 _ _ _ h⟩
  · have hi2 : i = 0 ∨ i = 1 := by simp at hi; omega
    rcases hi2 with rfl | rfl
    · exact ha
    · exact hb
theorem rargs_one {w : World} {g : Nat} {ty : TypeId} {a : Ty} {sa : Value} {S : Nat → Prop} (h : w.heap[g]? = some (.cells #[.int .i64 a.kind, .string a.name, .int .i64 a.n, sa] ty (0, 0))) (hg : S g) (ha : ArgsAt S w sa a.args) :
    ArgsAt S w (.slice (some ⟨g, 0, none⟩) 1 1) [a] := by
  refine .mk g 0 1 [a] (fun _ => sa) hg (by simp) (fun i hi => ?_) (fun i hi => ?_)
  · have hi2 : i = 0 := by simp at hi; omega
    subst hi2
    exact ⟨cell_of_row w g 0 _ _ _ h, cell_of_row w g 1 _ _ _ h, cell_of_row w g 2 _ _ _ h, cell_of_row w g 3 _ _ _ h⟩
  · have hi2 : i = 0 := by simp at hi; omega
    subst hi2
    exact ha

set_option maxRecDepth 100000 in
set_option maxHeartbeats 6400000 in
theorem rtyp_app (n : Nat) (w : World) (a : Option Addr) (c : Nat) (l : List Tok) (i : Nat) (ih : RSaid n) (ht : ToksAt w (.slice a l.length c) l) (hb : ∀ b o, a = some ⟨b, o, none⟩ → b < w.heap.size) (hr : TokR l) (hl : l.length ≤ 4000) (hi : i ≤ l.length) (hn : 4 * (l.length - i) + 4 ≤ n + 1) (h3 : st (l.drop i) 3 fa = false) : Calls Tryz.prog 54 #[.slice a l.length c, .int .i64 i] w (RrPost w l.length (typF (n + 1) (l.drop i))) := by
  have hz := (Below.refl w.heap.size w).alloc (Nat.le_refl _) (.cells #[.int .i64 0, .string ⟨#[]⟩, .int .i64 0, .slice none 0 0] 29)
  have CI := Lib.hid (is_any 3 fa _ a c l i (toks_low ht hz) hi)
  have SQ : Hid (seesB (l.drop i) 3 fa = false) := Lib.hid (by rw [st_sees (by decide)]; exact h3)
  have CA := Lib.hid (ih.app _ a c l i (toks_low ht hz) (fun b o e => by have := hb b o e; simp; omega) hr hl hi (by omega))
  have CJ := Lib.hid (fun (W : World) (h : Below w.heap.size w W) (j : Nat) (hj : j ≤ l.length) => is_any 6 arrow W a c l j (toks_low ht h) hj)
  have CR := Lib.hid (fun (W : World) (h : Below w.heap.size w W) (j : Nat) (hj : j ≤ l.length) (hf : 4 * (l.length - j) + 4 ≤ n) => ih.typ W a c l j (toks_low ht h) (fun b o e => Nat.lt_of_lt_of_le (hb b o e) h.size) hr hl hj hf)
  have E : Hid (typF (n + 1) (l.drop i) = match appF n (l.drop i) with | none => none | some (a, r) => if st r 6 arrow then (match typF n r.tail with | none => none | some (b, r') => some (tFun a b, r')) else some (a, r)) := Lib.hid (by rw [typF, h3]; rfl)
  have b4 := Lib.hid (R4.new w (.int .i64 0) (.string ⟨#[]⟩) (.int .i64 0) (.slice none 0 0))
  have HZ := Lib.hid hz
  have hfu : 4 * (l.length - i) + 3 ≤ n := by omega
  clear ht hb hr ih hz h3 hn
  go_enter Tryz.func54, Tryz.ntmps54
  go_wp2_with fail
  refine CI.out.mono ?_
  rintro e w1 ⟨he, rfl⟩
  rw [SQ.out] at he
  subst he
  go_wp2_with fail
  refine CA.out.mono ?_
  rintro e w2 ⟨hb2, hres⟩
  have K2 := Lib.hid (b4.out.low hb2)
  have G2 := Lib.hid (HZ.out.trans (hb2.mono HZ.out.size))
  have HS2 : Hid (w.heap.size + 1 ≤ w2.heap.size) := Lib.hid (by have := hb2.size; simpa using this)
  clear hb2
  cases hT : appF n (l.drop i) with
  | none =>
    rw [hT] at hres
    obtain ⟨k, s, m, a', c', c'', rfl⟩ := hres
    have E2 : Hid (typF (n + 1) (l.drop i) = none) := Lib.hid (by rw [E.out, hT])
    have hz1 := (Below.refl w2.heap.size w2).alloc (Nat.le_refl _) (.cells #[.int .i64 k, .string s, .int .i64 m, .slice a' c' c''] 29)
    have k6 := K2.out.low hz1
    have d0 := k6.c0
    have d1 := k6.c1
    have d2 := k6.c2
    have d3 := k6.c3
    have f0 := k6.fr 0
    have f1 := k6.fr 1
    have f2 := k6.fr 2
    have f3 := k6.fr 3
    have K6 := Lib.hid k6
    have G3 := Lib.hid (G2.out.trans (hz1.mono G2.out.size))
    clear hT hz1 k6
    go_wp2
    have q4 := K6.out.set4 (.int .i64 0) (.string ⟨#[]⟩) (.int .i64 0) (.slice none 0 0)
    refine bodyPost_ret (v := (.tuple #[.agg #[.int .i64 0, .string ⟨#[]⟩, .int .i64 0, .slice none 0 0], .int .i64 (-1)])) (by simp [results, Tryz.results54, go_sem, q4.c0, q4.c1, q4.c2, q4.c3]) rfl ?_
    rw [E2.out]
    exact rz_none (G3.out.set4 (Nat.le_refl _) _ _ _ _)
  | some x =>
    obtain ⟨x, r⟩ := x
    rw [hT] at hres
    obtain ⟨a', c', rfl, hA⟩ := hres
    have hsuf := suf_at ((sufs n).2.2.1 _ _ _ hT)
    have hsh := (shorter n).2.2.1 _ _ _ hT
    rw [List.length_drop] at hsh
    have hrl : r.length ≤ l.length := hsuf.length_le
    have hz1 := (Below.refl w2.heap.size w2).alloc (Nat.le_refl _) (.cells #[.int .i64 x.kind, .string x.name, .int .i64 x.n, .slice a' x.args.length c'] 29)
    have k6 := K2.out.low hz1
    have kx := R4.new w2 (.int .i64 x.kind) (.string x.name) (.int .i64 x.n) (.slice a' x.args.length c')
    have KX := Lib.hid kx
    have d0 := k6.c0
    have d1 := k6.c1
    have d2 := k6.c2
    have d3 := k6.c3
    have f0 := k6.fr 0
    have f1 := k6.fr 1
    have f2 := k6.fr 2
    have f3 := k6.fr 3
    have t0 := kx.c0
    have t1 := kx.c1
    have t2 := kx.c2
    have t3 := kx.c3
    have K6 := Lib.hid k6
    have G3 := Lib.hid (G2.out.trans (hz1.mono G2.out.size))
    have HA := Lib.hid (hA.keep fun b hb => hz1.block b hb.2)
    have C2 := Lib.hid (CJ.out _ G3.out (l.length - r.length) (by omega))
    have DS := Lib.hid (drop_suf hsuf)
    have zj : ¬ (((l.length - r.length : Nat) : Int) < 0) := by omega
    have hjl : l.length - r.length ≤ 4000 := by omega
    cases hq : st r 6 arrow with
    | false =>
      have E2 : Hid (typF (n + 1) (l.drop i) = some (x, r)) := Lib.hid (by rw [E.out, hT]; simp only; rw [hq]; rfl)
      have SR : Hid (seesB (l.drop (l.length - r.length)) 6 arrow = false) := Lib.hid (by rw [DS.out, st_sees (by decide)]; exact hq)
      clear hT hz1 k6 kx hA hsuf hq
      generalize hj : l.length - r.length = j at *
      have JJ := Lib.hid hj
      clear hj
      unfold tv
      go_wp2_with fail
      refine C2.out.mono ?_
      rintro e w4 ⟨he, rfl⟩
      rw [SR.out] at he
      subst he
      go_wp2
      have q4 := K6.out.set4 (.int .i64 x.kind) (.string x.name) (.int .i64 x.n) (.slice a' x.args.length c')
      refine bodyPost_ret (v := (.tuple #[tv x a' c', .int .i64 (j : Int)])) (by simp [results, Tryz.results54, go_sem, tv, q4.c0, q4.c1, q4.c2, q4.c3]) rfl ?_
      rw [E2.out]
      refine ⟨G3.out.set4 (Nat.le_refl _) _ _ _ _, a', c', ret_pair (by rw [JJ.out]), in_stored _ _ _ _ (by simp; have := HS2.out; omega) (HA.out.mono fun b hb => ⟨by have := hb.1; simpa using this, by have := hb.2; simp; omega⟩)⟩
    | true =>
      have hr1 := st_ne hq
      have SR : Hid (seesB (l.drop (l.length - r.length)) 6 arrow = true) := Lib.hid (by rw [DS.out, st_sees (by decide)]; exact hq)
      have DT : Hid (l.drop (l.length - r.length + 1) = r.tail) := Lib.hid (by rw [← List.tail_drop, DS.out])
      have cr := CR.out _ G3.out (l.length - r.length + 1) (by omega) (by omega)
      rw [DT.out, show ((l.length - r.length + 1 : Nat) : Int) = ((l.length - r.length : Nat) : Int) + 1 from by omega] at cr
      have C3 := Lib.hid cr
      have E3 : Hid (typF (n + 1) (l.drop i) = match typF n r.tail with | none => none | some (b, r') => some (tFun x b, r')) := Lib.hid (by rw [E.out, hT]; simp only; rw [hq]; rfl)
      have HS3 : Hid (w.heap.size + 2 ≤ (w2.alloc (.cells #[.int .i64 x.kind, .string x.name, .int .i64 x.n, .slice a' x.args.length c'] 29)).heap.size) := Lib.hid (by simp; have := HS2.out; omega)
      clear hT hz1 k6 kx hA hsuf hq cr d0 d1 d2 d3 f0 f1 f2 f3 t0 t1 t2 t3
      generalize l.length - r.length = j at *
      unfold tv
      go_wp2_with fail
      refine C2.out.mono ?_
      rintro e w4 ⟨he, rfl⟩
      rw [SR.out] at he
      subst he
      go_wp2_with fail
      refine C3.out.mono ?_
      rintro e w5 ⟨hb5, hres5⟩
      have K7 := Lib.hid (K6.out.low hb5)
      have KX7 := Lib.hid (KX.out.low hb5)
      have G5 := Lib.hid (G3.out.trans (hb5.mono G3.out.size))
      have HB5 := Lib.hid hb5
      have HS5 : Hid (w2.heap.size + 1 ≤ w5.heap.size) := Lib.hid (by have := hb5.size; simpa using this)
      clear hb5
      cases hT5 : typF n r.tail with
      | none =>
        rw [hT5] at hres5
        obtain ⟨kk, ss, mm, a5, c5, c6, rfl⟩ := hres5
        have E4 : Hid (typF (n + 1) (l.drop i) = none) := Lib.hid (by rw [E3.out, hT5])
        have hz6 := (Below.refl w5.heap.size w5).alloc (Nat.le_refl _) (.cells #[.int .i64 kk, .string ss, .int .i64 mm, .slice a5 c5 c6] 29)
        have hz7 := hz6.alloc (by simp) (.cells #[.int .i64 x.kind, .string x.name, .int .i64 x.n, .slice a' x.args.length c', .int .i64 kk, .string ss, .int .i64 mm, .slice a5 c5 c6] 29)
        have kt8 := KX7.out.low hz6
        have kb8 := R4.new w5 (.int .i64 kk) (.string ss) (.int .i64 mm) (.slice a5 c5 c6)
        have k8 := K7.out.low hz7
        have t0 := kt8.c0
        have t1 := kt8.c1
        have t2 := kt8.c2
        have t3 := kt8.c3
        have u0 := kb8.c0
        have u1 := kb8.c1
        have u2 := kb8.c2
        have u3 := kb8.c3
        have d0 := k8.c0
        have d1 := k8.c1
        have d2 := k8.c2
        have d3 := k8.c3
        have f0 := k8.fr 0
        have f1 := k8.fr 1
        have f2 := k8.fr 2
        have f3 := k8.fr 3
        have K8 := Lib.hid k8
        have G8 := Lib.hid (G5.out.trans (hz7.mono G5.out.size))
        clear kt8 kb8 k8 hz6 hz7 hT5
        go_wp2
        have q4 := K8.out.set4 (.int .i64 4) (.string ⟨#[]⟩) (.int .i64 0) (.slice (some ⟨w5.heap.size + 1, 0, none⟩) 2 2)
        refine bodyPost_ret (v := (.tuple #[.agg #[.int .i64 4, .string ⟨#[]⟩, .int .i64 0, .slice (some ⟨w5.heap.size + 1, 0, none⟩) 2 2], .int .i64 (-1)])) (by simp [results, Tryz.results54, go_sem, q4.c0, q4.c1, q4.c2, q4.c3]) rfl ?_
        rw [E4.out]
        exact ⟨G8.out.set4 (Nat.le_refl _) _ _ _ _, _, _, _, _, _, _, rfl⟩
      | some y =>
        obtain ⟨y, r'⟩ := y
        rw [hT5] at hres5
        obtain ⟨a5, c5, rfl, hA5⟩ := hres5
        have E4 : Hid (typF (n + 1) (l.drop i) = some (tFun x y, r')) := Lib.hid (by rw [E3.out, hT5])
        have hz6 := (Below.refl w5.heap.size w5).alloc (Nat.le_refl _) (.cells #[.int .i64 y.kind, .string y.name, .int .i64 y.n, .slice a5 y.args.length c5] 29)
        have hz7 := hz6.alloc (by simp) (.cells #[.int .i64 x.kind, .string x.name, .int .i64 x.n, .slice a' x.args.length c', .int .i64 y.kind, .string y.name, .int .i64 y.n, .slice a5 y.args.length c5] 29)
        have kt8 := KX7.out.low hz6
        have kb8 := R4.new w5 (.int .i64 y.kind) (.string y.name) (.int .i64 y.n) (.slice a5 y.args.length c5)
        have k8 := K7.out.low hz7
        have t0 := kt8.c0
        have t1 := kt8.c1
        have t2 := kt8.c2
        have t3 := kt8.c3
        have u0 := kb8.c0
        have u1 := kb8.c1
        have u2 := kb8.c2
        have u3 := kb8.c3
        have d0 := k8.c0
        have d1 := k8.c1
        have d2 := k8.c2
        have d3 := k8.c3
        have f0 := k8.fr 0
        have f1 := k8.fr 1
        have f2 := k8.fr 2
        have f3 := k8.fr 3
        have K8 := Lib.hid k8
        have G8 := Lib.hid (G5.out.trans (hz7.mono G5.out.size))
        have HA5 := Lib.hid hA5
        have HZ7 := Lib.hid hz7
        clear kt8 kb8 k8 hz6 hz7 hT5 hA5
        unfold tv
        go_wp2
        have q4 := K8.out.set4 (.int .i64 4) (.string ⟨#[]⟩) (.int .i64 0) (.slice (some ⟨w5.heap.size + 1, 0, none⟩) 2 2)
        refine bodyPost_ret (v := .tuple #[tv (tFun x y) (some ⟨w5.heap.size + 1, 0, none⟩) 2, .int .i64 ((l.length - r'.length : Nat) : Int)]) (by simp [results, Tryz.results54, go_sem, q4.c0, q4.c1, q4.c2, q4.c3]; rfl) rfl ?_
        rw [E4.out]
        refine ⟨G8.out.set4 (Nat.le_refl _) _ _ _ _, _, _, rfl, in_stored _ _ _ _ (by simp; have := HS2.out; have := HS5.out; omega) ?_⟩
        have s2 := HS2.out
        have s5 := HS5.out
        refine rargs_two (ty := 29) (alloc_new (by simp)) ⟨by omega, by simp⟩ ?_ ?_
        · exact ((HA.out.keep fun b hb => HB5.out.block b (by have := hb.2; simp; omega)).keep fun b hb => HZ7.out.block b (by have := hb.2; omega)).mono fun b hb => ⟨by have := hb.1; simpa using this, by have := hb.2; simp; omega⟩
        · exact (HA5.out.keep fun b hb => HZ7.out.block b hb.2).mono fun b hb => ⟨by have := hb.1; simp at this; omega, by have := hb.2; simp; omega⟩

end Go.Proofs.YtofllmemmggapaaGreatDoor.Tp

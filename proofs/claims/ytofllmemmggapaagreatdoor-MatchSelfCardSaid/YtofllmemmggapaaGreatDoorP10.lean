/- Texts laid together: TyTyp. -/
import Derived.Test.YtofllmemmggapaaGreatDoorP09

/- The walk of the reader's typ. (Printed by gen_typ.py.) -/
namespace Go.Proofs.YtofllmemmggapaaGreatDoor.Tp
open Go.RowKit
open Lx

/-- a type behind a forall -/
theorem typ_all (n N B : Nat) (w : World) (l : List Tok) (ih : Said n) (h : Rd N B w l) (hN : N ≤ w.heap.size) (hok : TokOk l) (hl : l.length ≤ 4000) (hn : 4 * l.length + 4 ≤ n + 1) (h1 : st l 3 fa = true) : Calls Tryz.prog 76 #[.pointer (some ⟨B, 0, none⟩)] w (RdPost N B w (typF (n + 1) l)) := by
  have hz := (Below.refl w.heap.size w).alloc (Nat.le_refl _) (.cells #[.int .i64 0, .string ByteArray.empty, .int .i64 0, .slice none 0 0] 26)
  have hr := h.low hz
  have C1 := Lib.hid (takes_yes hr (k := 3) (s := fa) (sees1 (by decide) h1))
  have b4 := Lib.hid (B4.new w (.int .i64 0) (.string ByteArray.empty) (.int .i64 0) (.slice none 0 0))
  have HR := Lib.hid hr
  have htl : l.tail.length + 1 = l.length := by have := st_ne h1; rw [List.length_tail]; omega
  have CA := Lib.hid (fun w1 (hr1 : Rd N B w1 l.tail) (hN1 : N ≤ w1.heap.size) => ih.all N B w1 l.tail hr1 hN1 hok.tail (by omega) (by omega))
  have e : typF (n + 1) l = allF n l.tail := by rw [typF, if_pos h1]
  have E := Lib.hid e
  clear h hr h1 e hok ih hz
  go_enter Tryz.func76, Tryz.ntmps76
  go_wp2_with fail
  refine C1.out.mono ?_
  rintro e w1 ⟨rfl, hrd, hg1⟩
  have k3 := b4.out.grown hg1 (fun e => b4.out.ne_rd HR.out (by injection e with e; exact e.symm))
  have K3 := Lib.hid k3
  have RD := Lib.hid hrd
  have hs1 : w.heap.size < w1.heap.size := by have := hg1.size; simp at this; omega
  have G1 := Lib.hid (grown_trans (grown_below ((Below.refl w.heap.size w).alloc (Nat.le_refl _) (.cells #[.int .i64 0, .string ByteArray.empty, .int .i64 0, .slice none 0 0] 26))) hg1)
  clear k3 hrd hg1
  go_wp2_with fail
  refine (CA.out w1 RD.out (by omega)).mono ?_
  rintro e w2 ⟨hg, hres⟩
  have k4 := K3.out.grown hg (fun e => K3.out.ne_rd RD.out (by injection e with e; exact e.symm))
  have c0 := k4.c0
  have c1 := k4.c1
  have c2 := k4.c2
  have c3 := k4.c3
  have f0 := k4.fr 0
  have f1 := k4.fr 1
  have f2 := k4.fr 2
  have f3 := k4.fr 3
  have K4 := Lib.hid k4
  have G := Lib.hid (grown_trans G1.out hg)
  have hsz := hg.size
  have hBlt := RD.out.lt
  clear k4 hg
  cases hT : allF n l.tail with
  | none =>
    rw [hT] at hres
    obtain ⟨k, s, m, a, c, c', rfl⟩ := hres
    have E2 : Hid (typF (n + 1) l = none) := Lib.hid (E.out.trans hT)
    clear hT
    go_wp2
    have q4 := K4.out.set4 (.int .i64 k) (.string s) (.int .i64 m) (.slice a c c')
    have g4 := grown_set4 G.out (Nat.le_refl _) (.int .i64 k) (.string s) (.int .i64 m) (.slice a c c')
    refine bodyPost_ret (v := .tuple #[.agg #[.int .i64 k, .string s, .int .i64 m, .slice a c c'], .bool false]) (by simp [results, Tryz.results76, go_sem, q4.c0, q4.c1, q4.c2, q4.c3]) rfl ?_
    rw [E2.out]
    exact ⟨g4, _, _, _, _, _, _, rfl⟩
  | some x =>
    obtain ⟨t, r⟩ := x
    rw [hT] at hres
    obtain ⟨a, c, rfl, hA, hR⟩ := hres
    have E2 : Hid (typF (n + 1) l = some (t, r)) := Lib.hid (E.out.trans hT)
    have HA := Lib.hid hA
    have RR := Lib.hid hR
    have hne := K4.out.ne_rd hR
    clear hT hA hR
    unfold tv
    go_wp2
    have q4 := K4.out.set4 (.int .i64 t.kind) (.string t.name) (.int .i64 t.n) (.slice a t.args.length c)
    have g4 := grown_set4 G.out (Nat.le_refl _) (.int .i64 t.kind) (.string t.name) (.int .i64 t.n) (.slice a t.args.length c)
    have r4 := RR.out.set4 (Ne.symm hne) hN (.int .i64 t.kind) (.string t.name) (.int .i64 t.n) (.slice a t.args.length c)
    have ha4 := HA.out.keep (B := (((w2.setCell ⟨w.heap.size, 0, none⟩ (.int .i64 t.kind)).setCell ⟨w.heap.size, 1, none⟩ (.string t.name)).setCell ⟨w.heap.size, 2, none⟩ (.int .i64 t.n)).setCell ⟨w.heap.size, 3, none⟩ (.slice a t.args.length c)) (fun b hb => by
      obtain ⟨b1, b2⟩ := hb
      rw [Below.heap_setCell _ _ _ _ (by simp; omega), Below.heap_setCell _ _ _ _ (by simp; omega), Below.heap_setCell _ _ _ _ (by simp; omega), Below.heap_setCell _ _ _ _ (by simp; omega)])
    refine bodyPost_ret (v := .tuple #[tv t a c, .bool true]) (by simp [results, Tryz.results76, go_sem, tv, q4.c0, q4.c1, q4.c2, q4.c3]) rfl ?_
    rw [E2.out]
    exact ⟨g4, a, c, rfl, ha4.mono (fun b hb => by obtain ⟨b1, b2⟩ := hb; exact ⟨by omega, by simpa using b2⟩), r4⟩

/-- two arguments in a new row -/
theorem args_two {w : World} {g : Nat} {a b : Ty} {sa sb : Value} {S : Nat → Prop} (h : w.heap[g]? = some (.cells #[.int .i64 a.kind, .string a.name, .int .i64 a.n, sa, .int .i64 b.kind, .string b.name, .int .i64 b.n, sb] 26 (0, 0))) (hg : S g) (ha : ArgsAt S w sa a.args) (hb : ArgsAt S w sb b.args) :
    ArgsAt S w (.slice (some ⟨g, 0, none⟩) 2 2) [a, b] := by
  refine .mk g 0 2 [a, b] (fun i => if i = 0 then sa else sb) hg (by simp) (fun i hi => ?_) (fun i hi => ?_)
  · have hi2 : i = 0 ∨ i = 1 := by simp at hi; omega
    rcases hi2 with rfl | rfl
    · exact ⟨cell_of_row w g 0 _ _ _ h, cell_of_row w g 1 _ _ _ h, cell_of_row w g 2 _ _ _ h, cell_of_row w g 3 _ _ _ h⟩
    · exact ⟨cell_of_row w g 4 _ _ _ h, cell_of_row w g 5 _ _ _ h, cell_of_row w g 6 _ _ _ h, cell_of_row w g 7 _ _ _ h⟩
  · have hi2 : i = 0 ∨ i = 1 := by simp at hi; omega
    rcases hi2 with rfl | rfl
    · exact ha
    · exact hb

set_option maxHeartbeats 3200000 in
/-- a type that begins with an app -/
theorem typ_app (n N B : Nat) (w : World) (l : List Tok) (ih : Said n) (h : Rd N B w l) (hN : N ≤ w.heap.size) (hok : TokOk l) (hl : l.length ≤ 4000) (hn : 4 * l.length + 4 ≤ n + 1) (h1 : st l 3 fa = false) : Calls Tryz.prog 76 #[.pointer (some ⟨B, 0, none⟩)] w (RdPost N B w (typF (n + 1) l)) := by
  have hz := (Below.refl w.heap.size w).alloc (Nat.le_refl _) (.cells #[.int .i64 0, .string ByteArray.empty, .int .i64 0, .slice none 0 0] 26)
  have hr := h.low hz
  have C1 := Lib.hid (takes_no hr (k := 3) (s := fa) (sees1 (by decide) h1))
  have b4 := Lib.hid (B4.new w (.int .i64 0) (.string ByteArray.empty) (.int .i64 0) (.slice none 0 0))
  have HR := Lib.hid hr
  have CA := Lib.hid (ih.app N B _ l hr (by simp; omega) hok hl (by omega))
  have e : typF (n + 1) l = (match appF n l with | none => none | some (a, r) => if st r 6 arrow then (match typF n r.tail with | none => none | some (b, r') => some (tFun a b, r')) else some (a, r)) := by rw [typF, h1, if_neg (by simp)]; rfl
  have E := Lib.hid e
  have IH := Lib.hid ih
  have OK := Lib.hid hok
  have hBw := h.lt
  clear h hr h1 e hok ih hz
  go_enter Tryz.func76, Tryz.ntmps76
  go_wp2_with fail
  refine C1.out.mono ?_
  rintro e w1 ⟨rfl, rfl⟩
  go_wp2_with fail
  refine CA.out.mono ?_
  rintro e w2 ⟨hg, hres⟩
  have k4 := b4.out.grown hg (fun e => b4.out.ne_rd HR.out (by injection e with e; exact e.symm))
  have K4 := Lib.hid k4
  have G := Lib.hid (grown_trans (grown_below ((Below.refl w.heap.size w).alloc (Nat.le_refl _) (.cells #[.int .i64 0, .string ByteArray.empty, .int .i64 0, .slice none 0 0] 26))) hg)
  have hsz : w.heap.size < w2.heap.size := by have := hg.size; simp at this; omega
  have hBne : B ≠ w.heap.size := by omega
  have HS := Lib.hid hsz
  clear k4 hg hsz
  cases hT : appF n l with
  | none =>
    rw [hT] at hres
    obtain ⟨k, s, m, a, c, c', rfl⟩ := hres
    have E2 : Hid (typF (n + 1) l = none) := Lib.hid (by rw [E.out, hT])
    have hz := (Below.refl w2.heap.size w2).alloc (Nat.le_refl _) (.cells #[.int .i64 k, .string s, .int .i64 m, .slice a c c'] 26)
    have k5 := K4.out.low hz
    have c0 := k5.c0
    have c1 := k5.c1
    have c2 := k5.c2
    have c3 := k5.c3
    have f0 := k5.fr 0
    have f1 := k5.fr 1
    have f2 := k5.fr 2
    have f3 := k5.fr 3
    have K5 := Lib.hid k5
    have G5 := Lib.hid (grown_trans G.out (grown_below hz))
    clear hT k5 hz
    go_wp2
    have hsz := HS.out
    have q4 := K5.out.set4 (.int .i64 0) (.string ⟨#[]⟩) (.int .i64 0) (.slice none 0 0)
    have g4 := grown_set4 G5.out (Nat.le_refl _) (.int .i64 0) (.string ⟨#[]⟩) (.int .i64 0) (.slice none 0 0)
    refine bodyPost_ret (v := .tuple #[zv, .bool false]) (by simp [results, Tryz.results76, go_sem, zv, q4.c0, q4.c1, q4.c2, q4.c3]) rfl ?_
    rw [E2.out]
    exact ⟨g4, _, _, _, _, _, _, rfl⟩
  | some x =>
    obtain ⟨t, r⟩ := x
    rw [hT] at hres
    obtain ⟨a, c, rfl, hA, hR⟩ := hres
    have hsh := (shorter n).2.2.1 _ _ _ hT
    have hrok : TokOk r := fun t ht => OK.out t ((tok_of_typ n).2.2.1 _ _ _ hT t ht)
    have hz := (Below.refl w2.heap.size w2).alloc (Nat.le_refl _) (.cells #[.int .i64 t.kind, .string t.name, .int .i64 t.n, .slice a t.args.length c] 26)
    have k5 := K4.out.low hz
    have kt := B4.new w2 (.int .i64 t.kind) (.string t.name) (.int .i64 t.n) (.slice a t.args.length c)
    have hR3 := hR.low hz
    have G5 := Lib.hid (grown_trans G.out (grown_below hz))
    have HA := Lib.hid hA
    have HT := Lib.hid hT
    have ROK := Lib.hid hrok
    have R3 := Lib.hid hR3
    have K5 := Lib.hid k5
    have KT := Lib.hid kt
    have HZ := Lib.hid hz
    clear hA hT hR hz hrok
    unfold tv
    cases hp : st r 6 arrow
    · have E2 : Hid (typF (n + 1) l = some (t, r)) := Lib.hid (by rw [E.out, HT.out]; simp [hp])
      have C5 := Lib.hid (takes_no hR3 (k := 6) (s := arrow) (sees1 (by decide) hp))
      have c0 := k5.c0
      have c1 := k5.c1
      have c2 := k5.c2
      have c3 := k5.c3
      have f0 := k5.fr 0
      have f1 := k5.fr 1
      have f2 := k5.fr 2
      have f3 := k5.fr 3
      have t0 := kt.c0
      have t1 := kt.c1
      have t2 := kt.c2
      have t3 := kt.c3
      have hne := k5.ne_rd hR3
      clear k5 kt hR3 hp
      go_wp2_with fail
      refine C5.out.mono ?_
      rintro e w4 ⟨rfl, rfl⟩
      go_wp2
      have hsz := HS.out
      have q4 := K5.out.set4 (.int .i64 t.kind) (.string t.name) (.int .i64 t.n) (.slice a t.args.length c)
      have g4 := grown_set4 G5.out (Nat.le_refl _) (.int .i64 t.kind) (.string t.name) (.int .i64 t.n) (.slice a t.args.length c)
      have r4 := R3.out.set4 (Ne.symm hne) hN (.int .i64 t.kind) (.string t.name) (.int .i64 t.n) (.slice a t.args.length c)
      have ha4 := HA.out.keep (B := ((((w2.alloc (.cells #[.int .i64 t.kind, .string t.name, .int .i64 t.n, .slice a t.args.length c] 26)).setCell ⟨w.heap.size, 0, none⟩ (.int .i64 t.kind)).setCell ⟨w.heap.size, 1, none⟩ (.string t.name)).setCell ⟨w.heap.size, 2, none⟩ (.int .i64 t.n)).setCell ⟨w.heap.size, 3, none⟩ (.slice a t.args.length c)) (fun b hb => by
        obtain ⟨b1, b2⟩ := hb
        simp at b1
        rw [Below.heap_setCell _ _ _ _ (by simp; omega), Below.heap_setCell _ _ _ _ (by simp; omega), Below.heap_setCell _ _ _ _ (by simp; omega), Below.heap_setCell _ _ _ _ (by simp; omega)]
        exact HZ.out.block b b2)
      refine bodyPost_ret (v := .tuple #[tv t a c, .bool true]) (by simp [results, Tryz.results76, go_sem, tv, q4.c0, q4.c1, q4.c2, q4.c3]) rfl ?_
      rw [E2.out]
      exact ⟨g4, a, c, rfl, ha4.mono (fun b hb => by obtain ⟨b1, b2⟩ := hb; simp at b1; exact ⟨by omega, by simp; omega⟩), r4⟩
    · have C5 := Lib.hid (takes_yes hR3 (k := 6) (s := arrow) (sees1 (by decide) hp))
      have hrt : r.tail.length + 1 = r.length := by have := st_ne hp; rw [List.length_tail]; omega
      have E3 : Hid (typF (n + 1) l = (match typF n r.tail with | none => none | some (b, r') => some (tFun t b, r'))) := Lib.hid (by rw [E.out, HT.out]; simp only [hp, if_true])
      clear k5 kt hR3 hp
      go_wp2_with fail
      refine C5.out.mono ?_
      rintro e w4 ⟨rfl, hR4, hg4⟩
      have k6 := K5.out.grown hg4 (fun e => hBne (by injection e))
      have kt6 := KT.out.grown hg4 (fun e => by have := HS.out; injection e; omega)
      have G6 := Lib.hid (grown_trans G5.out hg4)
      have hs4 : w2.heap.size < w4.heap.size := by have := hg4.size; simp at this; omega
      have K6 := Lib.hid k6
      have KT6 := Lib.hid kt6
      have R4 := Lib.hid hR4
      have H4 := Lib.hid hg4
      clear k6 kt6 hR4 hg4
      go_wp2_with fail
      refine (IH.out.typ N B w4 r.tail R4.out (by have := HS.out; omega) ROK.out.tail (by omega) (by omega)).mono ?_
      rintro e w5 ⟨hg5, hres5⟩
      have k7 := K6.out.grown hg5 (fun e => hBne (by injection e))
      have kt7 := KT6.out.grown hg5 (fun e => by have := HS.out; injection e; omega)
      have G7 := Lib.hid (grown_trans G6.out hg5)
      have hs5 := hg5.size
      have K7 := Lib.hid k7
      have KT7 := Lib.hid kt7
      have H5 := Lib.hid hg5
      clear k7 kt7 hg5
      cases hT5 : typF n r.tail with
      | none =>
        rw [hT5] at hres5
        obtain ⟨k5, s5, m5, a5, c5, c5', rfl⟩ := hres5
        have E4 : Hid (typF (n + 1) l = none) := Lib.hid (by rw [E3.out, hT5])
        clear hT5
        have hz6 := (Below.refl w5.heap.size w5).alloc (Nat.le_refl _) (.cells #[.int .i64 k5, .string s5, .int .i64 m5, .slice a5 c5 c5'] 26)
        have hz7 := hz6.alloc (by simp) (.cells #[.int .i64 t.kind, .string t.name, .int .i64 t.n, .slice a t.args.length c, .int .i64 k5, .string s5, .int .i64 m5, .slice a5 c5 c5'] 26)
        have kt8 := KT7.out.low hz6
        have kb8 := B4.new w5 (.int .i64 k5) (.string s5) (.int .i64 m5) (.slice a5 c5 c5')
        have k8 := K7.out.low hz7
        have t0 := kt8.c0
        have t1 := kt8.c1
        have t2 := kt8.c2
        have t3 := kt8.c3
        have b0 := kb8.c0
        have b1 := kb8.c1
        have b2 := kb8.c2
        have b3 := kb8.c3
        have c0 := k8.c0
        have c1 := k8.c1
        have c2 := k8.c2
        have c3 := k8.c3
        have f0 := k8.fr 0
        have f1 := k8.fr 1
        have f2 := k8.fr 2
        have f3 := k8.fr 3
        have K8 := Lib.hid k8
        have G8 := Lib.hid (grown_trans G7.out (grown_below hz7))
        have HZ7 := Lib.hid hz7
        clear kt8 kb8 k8 hz6 hz7
        go_wp2
        have hsz := HS.out
        have q4 := K8.out.set4 (.int .i64 4) (.string ⟨#[]⟩) (.int .i64 0) (.slice (some ⟨w5.heap.size + 1, 0, none⟩) 2 2)
        have g4 := grown_set4 G8.out (Nat.le_refl _) (.int .i64 4) (.string ⟨#[]⟩) (.int .i64 0) (.slice (some ⟨w5.heap.size + 1, 0, none⟩) 2 2)
        refine bodyPost_ret (v := .tuple #[.agg #[.int .i64 4, .string ⟨#[]⟩, .int .i64 0, .slice (some ⟨w5.heap.size + 1, 0, none⟩) 2 2], .bool false]) (by simp [results, Tryz.results76, go_sem, q4.c0, q4.c1, q4.c2, q4.c3]) rfl ?_
        rw [E4.out]
        exact ⟨g4, _, _, _, _, _, _, rfl⟩
      | some x =>
        obtain ⟨b, r'⟩ := x
        rw [hT5] at hres5
        obtain ⟨a5, c5, rfl, hB5, hR5⟩ := hres5
        have E4 : Hid (typF (n + 1) l = some (tFun t b, r')) := Lib.hid (by rw [E3.out, hT5])
        have HB5 := Lib.hid hB5
        have RR5 := Lib.hid hR5
        clear hT5 hB5 hR5
        unfold tv
        have hz6 := (Below.refl w5.heap.size w5).alloc (Nat.le_refl _) (.cells #[.int .i64 b.kind, .string b.name, .int .i64 b.n, .slice a5 b.args.length c5] 26)
        have hz7 := hz6.alloc (by simp) (.cells #[.int .i64 t.kind, .string t.name, .int .i64 t.n, .slice a t.args.length c, .int .i64 b.kind, .string b.name, .int .i64 b.n, .slice a5 b.args.length c5] 26)
        have kt8 := KT7.out.low hz6
        have kb8 := B4.new w5 (.int .i64 b.kind) (.string b.name) (.int .i64 b.n) (.slice a5 b.args.length c5)
        have k8 := K7.out.low hz7
        have t0 := kt8.c0
        have t1 := kt8.c1
        have t2 := kt8.c2
        have t3 := kt8.c3
        have b0 := kb8.c0
        have b1 := kb8.c1
        have b2 := kb8.c2
        have b3 := kb8.c3
        have c0 := k8.c0
        have c1 := k8.c1
        have c2 := k8.c2
        have c3 := k8.c3
        have f0 := k8.fr 0
        have f1 := k8.fr 1
        have f2 := k8.fr 2
        have f3 := k8.fr 3
        have K8 := Lib.hid k8
        have G8 := Lib.hid (grown_trans G7.out (grown_below hz7))
        have R8 := Lib.hid (RR5.out.low hz7)
        have hne := K8.out.ne_rd R8.out
        have HZ7 := Lib.hid hz7
        clear kt8 kb8 k8 hz6 hz7
        go_wp2
        have hsz := HS.out
        have q4 := K8.out.set4 (.int .i64 4) (.string ⟨#[]⟩) (.int .i64 0) (.slice (some ⟨w5.heap.size + 1, 0, none⟩) 2 2)
        have g4 := grown_set4 G8.out (Nat.le_refl _) (.int .i64 4) (.string ⟨#[]⟩) (.int .i64 0) (.slice (some ⟨w5.heap.size + 1, 0, none⟩) 2 2)
        have r4 := R8.out.set4 (Ne.symm hne) hN (.int .i64 4) (.string ⟨#[]⟩) (.int .i64 0) (.slice (some ⟨w5.heap.size + 1, 0, none⟩) 2 2)
        have hfin : ∀ q, w.heap.size < q → q < w5.heap.size → ((((((w5.alloc (.cells #[.int .i64 b.kind, .string b.name, .int .i64 b.n, .slice a5 b.args.length c5] 26)).alloc (.cells #[.int .i64 t.kind, .string t.name, .int .i64 t.n, .slice a t.args.length c, .int .i64 b.kind, .string b.name, .int .i64 b.n, .slice a5 b.args.length c5] 26)).setCell ⟨w.heap.size, 0, none⟩ (.int .i64 4)).setCell ⟨w.heap.size, 1, none⟩ (.string ⟨#[]⟩)).setCell ⟨w.heap.size, 2, none⟩ (.int .i64 0)).setCell ⟨w.heap.size, 3, none⟩ (.slice (some ⟨w5.heap.size + 1, 0, none⟩) 2 2)).heap[q]? = w5.heap[q]? := fun q b1 b2 => by
          rw [Below.heap_setCell _ _ _ _ (by simp; omega), Below.heap_setCell _ _ _ _ (by simp; omega), Below.heap_setCell _ _ _ _ (by simp; omega), Below.heap_setCell _ _ _ _ (by simp; omega)]
          exact HZ7.out.block q b2
        have hnew : ((((((w5.alloc (.cells #[.int .i64 b.kind, .string b.name, .int .i64 b.n, .slice a5 b.args.length c5] 26)).alloc (.cells #[.int .i64 t.kind, .string t.name, .int .i64 t.n, .slice a t.args.length c, .int .i64 b.kind, .string b.name, .int .i64 b.n, .slice a5 b.args.length c5] 26)).setCell ⟨w.heap.size, 0, none⟩ (.int .i64 4)).setCell ⟨w.heap.size, 1, none⟩ (.string ⟨#[]⟩)).setCell ⟨w.heap.size, 2, none⟩ (.int .i64 0)).setCell ⟨w.heap.size, 3, none⟩ (.slice (some ⟨w5.heap.size + 1, 0, none⟩) 2 2)).heap[w5.heap.size + 1]? = some (.cells #[.int .i64 t.kind, .string t.name, .int .i64 t.n, .slice a t.args.length c, .int .i64 b.kind, .string b.name, .int .i64 b.n, .slice a5 b.args.length c5] 26 (0, 0)) := by
          rw [Below.heap_setCell _ _ _ _ (by simp; omega), Below.heap_setCell _ _ _ _ (by simp; omega), Below.heap_setCell _ _ _ _ (by simp; omega), Below.heap_setCell _ _ _ _ (by simp; omega)]
          exact alloc_new (by simp)
        have ha4 := HA.out.keep (B := (((((w5.alloc (.cells #[.int .i64 b.kind, .string b.name, .int .i64 b.n, .slice a5 b.args.length c5] 26)).alloc (.cells #[.int .i64 t.kind, .string t.name, .int .i64 t.n, .slice a t.args.length c, .int .i64 b.kind, .string b.name, .int .i64 b.n, .slice a5 b.args.length c5] 26)).setCell ⟨w.heap.size, 0, none⟩ (.int .i64 4)).setCell ⟨w.heap.size, 1, none⟩ (.string ⟨#[]⟩)).setCell ⟨w.heap.size, 2, none⟩ (.int .i64 0)).setCell ⟨w.heap.size, 3, none⟩ (.slice (some ⟨w5.heap.size + 1, 0, none⟩) 2 2)) (fun b hb => by
          obtain ⟨b1, b2⟩ := hb
          simp at b1
          rw [hfin b (by omega) (by omega), H5.out.block b (by omega) (fun e => by injection e; omega), H4.out.block b (by simp; omega) (fun e => by injection e; omega)]
          exact HZ.out.block b b2)
        have hb4 := HB5.out.keep (B := (((((w5.alloc (.cells #[.int .i64 b.kind, .string b.name, .int .i64 b.n, .slice a5 b.args.length c5] 26)).alloc (.cells #[.int .i64 t.kind, .string t.name, .int .i64 t.n, .slice a t.args.length c, .int .i64 b.kind, .string b.name, .int .i64 b.n, .slice a5 b.args.length c5] 26)).setCell ⟨w.heap.size, 0, none⟩ (.int .i64 4)).setCell ⟨w.heap.size, 1, none⟩ (.string ⟨#[]⟩)).setCell ⟨w.heap.size, 2, none⟩ (.int .i64 0)).setCell ⟨w.heap.size, 3, none⟩ (.slice (some ⟨w5.heap.size + 1, 0, none⟩) 2 2)) (fun b hb => by
          obtain ⟨b1, b2⟩ := hb
          exact hfin b (by omega) b2)
        have hfs : ((((((w5.alloc (.cells #[.int .i64 b.kind, .string b.name, .int .i64 b.n, .slice a5 b.args.length c5] 26)).alloc (.cells #[.int .i64 t.kind, .string t.name, .int .i64 t.n, .slice a t.args.length c, .int .i64 b.kind, .string b.name, .int .i64 b.n, .slice a5 b.args.length c5] 26)).setCell ⟨w.heap.size, 0, none⟩ (.int .i64 4)).setCell ⟨w.heap.size, 1, none⟩ (.string ⟨#[]⟩)).setCell ⟨w.heap.size, 2, none⟩ (.int .i64 0)).setCell ⟨w.heap.size, 3, none⟩ (.slice (some ⟨w5.heap.size + 1, 0, none⟩) 2 2)).heap.size = w5.heap.size + 1 + 1 := by simp
        refine bodyPost_ret (v := .tuple #[tv (tFun t b) (some ⟨w5.heap.size + 1, 0, none⟩) 2, .bool true]) (by simp [results, Tryz.results76, go_sem, q4.c0, q4.c1, q4.c2, q4.c3]; rfl) rfl ?_
        rw [E4.out]
        refine ⟨g4, _, _, rfl, ?_, r4⟩
        rw [hfs]
        refine args_two hnew ⟨by omega, by omega⟩ (ha4.mono (fun b hb => ?_)) (hb4.mono (fun b hb => ?_))
        · obtain ⟨b1, b2⟩ := hb
          simp at b1
          exact ⟨by omega, by omega⟩
        · obtain ⟨b1, b2⟩ := hb
          exact ⟨by omega, by omega⟩

theorem typ_any (n N B : Nat) (w : World) (l : List Tok) (ih : Said n) (h : Rd N B w l) (hN : N ≤ w.heap.size) (hok : TokOk l) (hl : l.length ≤ 4000) (hn : 4 * l.length + 4 ≤ n + 1) : Calls Tryz.prog 76 #[.pointer (some ⟨B, 0, none⟩)] w (RdPost N B w (typF (n + 1) l)) := by
  cases h1 : st l 3 fa
  · exact typ_app n N B w l ih h hN hok hl hn h1
  · exact typ_all n N B w l ih h hN hok hl hn h1

end Go.Proofs.YtofllmemmggapaaGreatDoor.Tp

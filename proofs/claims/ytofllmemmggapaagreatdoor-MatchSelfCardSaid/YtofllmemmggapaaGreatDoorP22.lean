/- Texts laid together: TyRead. -/
import Derived.Test.YtofllmemmggapaaGreatDoorP21
import Derived.Test.YtofllmemmggapaaGreatDoorP20

/- Read. (Printed by gen_parse.py.) -/
namespace Go.Proofs.YtofllmemmggapaaGreatDoor.Tp
open Go.RowKit
open Lx

/-- a type is no deeper than its tokens are many -/
theorem deep : ∀ n : Nat,
    (∀ l x r, typF n l = some (x, r) → x.depth + r.length ≤ l.length) ∧ (∀ l x r, allF n l = some (x, r) → x.depth + r.length ≤ l.length) ∧
    (∀ l x r, appF n l = some (x, r) → x.depth + r.length ≤ l.length) ∧ (∀ s acc l x r, argsF n s acc l = some (x, r) → x.depth ≤ max (depthL acc) (l.length - r.length) + 1 ∧ r.length ≤ l.length) ∧
    (∀ l x r, atomF n l = some (x, r) → x.depth + r.length ≤ l.length) := by
  have hall : ∀ (vs : List Tok) (t : Ty), (vs.foldr (fun v t => tAll v.text t) t).depth = t.depth + vs.length := by
    intro vs t
    induction vs with
    | nil => rfl
    | cons v vs ih =>
      rw [List.foldr_cons, Ty.depth_eq]
      show max (vs.foldr (fun v t => tAll v.text t) t).depth 0 + 1 = _
      rw [ih, List.length_cons]; omega
  have hvr : ∀ l : List Tok, (varsL l).length + (restL l).length = l.length := fun l => by
    have := congrArg List.length (List.takeWhile_append_dropWhile (p := fun t : Tok => t.kind == 1) (l := l))
    rw [List.length_append] at this
    exact this
  intro n
  induction n with
  | zero => exact ⟨fun _ _ _ h => by simp [typF] at h, fun _ _ _ h => by simp [allF] at h, fun _ _ _ h => by simp [appF] at h, fun _ _ _ _ _ h => by simp [argsF] at h, fun _ _ _ h => by simp [atomF] at h⟩
  | succ n ih =>
    obtain ⟨i1, i2, i3, i4, i5⟩ := ih
    refine ⟨fun l x r h => ?_, fun l x r h => ?_, fun l x r h => ?_, fun s acc l x r h => ?_, fun l x r h => ?_⟩
    · rw [typF] at h
      split at h
      · next h1 => have := i2 _ _ _ h; have := st_ne h1; simp at *; omega
      · split at h
        · cases h
        · next a r' h2 =>
          have e2 := i3 _ _ _ h2
          split at h
          · next h3 =>
            split at h
            · cases h
            · next b r'' h4 =>
              have e4 := i1 _ _ _ h4
              have := st_ne h3
              simp only [Option.some.injEq, Prod.mk.injEq] at h
              obtain ⟨rfl, rfl⟩ := h
              rw [Ty.depth_eq]
              simp only [tFun, Ty.args, depthL]
              simp only [List.length_tail] at e4
              omega
          · simp only [Option.some.injEq, Prod.mk.injEq] at h
            obtain ⟨rfl, rfl⟩ := h
            exact e2
    · rw [allF] at h
      split at h
      · cases h
      · next h1 =>
        split at h
        · cases h
        · next t r' h2 =>
          have e2 := i1 _ _ _ h2
          simp only [Option.some.injEq, Prod.mk.injEq] at h
          obtain ⟨rfl, rfl⟩ := h
          rw [hall]
          have := hvr l
          simp only [List.length_tail] at e2
          have hne : st (restL l) 6 dot = true := by cases hh : st (restL l) 6 dot <;> simp [hh] at h1 ⊢
          have := st_ne hne
          omega
    · rw [appF] at h
      split at h
      · next h1 =>
        obtain ⟨e, e'⟩ := i4 _ _ _ _ _ h
        have := sk_ne h1
        simp only [List.length_tail, depthL] at e e'
        omega
      · exact i5 _ _ _ h
    · rw [argsF] at h
      split at h
      · split at h
        · cases h
        · next x' r' h2 =>
          have a := i5 _ _ _ h2
          obtain ⟨b, b'⟩ := i4 _ _ _ _ _ h
          rw [depthL_append] at b
          simp only [depthL] at b
          exact ⟨by omega, by omega⟩
      · simp only [Option.some.injEq, Prod.mk.injEq] at h
        obtain ⟨rfl, rfl⟩ := h
        rw [Ty.depth_eq]
        simp only [tCon, Ty.args]
        exact ⟨by omega, Nat.le_refl _⟩
    · rw [atomF] at h
      split at h
      · next h1 =>
        have := sk_ne h1
        simp only [Option.some.injEq, Prod.mk.injEq] at h
        obtain ⟨rfl, rfl⟩ := h
        simp [tVar, Ty.depth, depthL]; omega
      · split at h
        · next h1 =>
          have := sk_ne h1
          simp only [Option.some.injEq, Prod.mk.injEq] at h
          obtain ⟨rfl, rfl⟩ := h
          simp [tCon, Ty.depth, depthL]; omega
        · split at h
          · next h1 =>
            have := sk_ne h1
            simp only [Option.some.injEq, Prod.mk.injEq] at h
            obtain ⟨rfl, rfl⟩ := h
            simp [tMeta, Ty.depth, depthL]; omega
          · split at h
            · next h1 =>
              have := st_ne h1
              split at h
              · cases h
              · next t r' h2 =>
                have e2 := i1 _ _ _ h2
                split at h
                · simp only [Option.some.injEq, Prod.mk.injEq] at h
                  obtain ⟨rfl, rfl⟩ := h
                  simp only [List.length_tail] at *; omega
                · cases h
            · cases h

/-- what Read reads -/
def readT (l : List Tok) : Option (Ty × List Tok) := typF (4 * l.length + 4) l

/-- what Parse tells -/
def parseT (s : List UInt8) : Except Nat Ty :=
  if (scanR s).2.2 ≠ 0 then .error (scanR s).2.2
  else match readT (scanR s).1 with
    | none => .error 20
    | some (t, r) => if r ≠ [] then .error 20 else if 50 < t.depth then .error 3 else .ok t

theorem toks_low {w w' : World} {v : Value} {l : List Tok} (h : ToksAt w v l) (hb : Below w.heap.size w w') : ToksAt w' v l := by
  obtain ⟨a', c', e, h4, h5 | ⟨b, off, h6, h7⟩⟩ := h
  · exact ⟨a', c', e, h4, .inl h5⟩
  · refine ⟨a', c', e, h4, .inr ⟨b, off, h6, fun i hi => ?_⟩⟩
    obtain ⟨c0, c1, c2⟩ := h7 i hi
    have hbl := World.block_lt_of_cell? w _ c0
    exact ⟨(hb.cell hbl).trans c0, (hb.cell (p := ⟨b, off + i * 3 + 1, none⟩) hbl).trans c1, (hb.cell (p := ⟨b, off + i * 3 + 2, none⟩) hbl).trans c2⟩

theorem grown_low {w w' : World} {B : Nat} (h : w.grownBy w' (some B)) (hB : w.heap.size ≤ B) : Below w.heap.size w w' :=
  (Below.refl _ _).grown h (Nat.le_refl _) (fun k hk => by injection hk; omega)

def ReadPost (w : World) (res : Option (Ty × List Tok)) (e : Ending) (w' : World) : Prop :=
  Below w.heap.size w w' ∧ match res with
  | none => e = .returned (.tuple #[zv, .slice none 0 0, .bool false])
  | some (t, r) => ∃ a c a2 c2, e = .returned (.tuple #[tv t a c, .slice a2 r.length c2, .bool true]) ∧ ArgsAt (In w.heap.size w'.heap.size) w' (.slice a t.args.length c) t.args ∧ ToksAt w' (.slice a2 r.length c2) r

set_option maxHeartbeats 1600000 in
theorem read_any (w : World) (a : Option Addr) (cap : Nat) (l : List Tok) (ht : ToksAt w (.slice a l.length cap) l) (hb : ∀ b o, a = some ⟨b, o, none⟩ → b < w.heap.size) (hok : TokOk l) (hl : l.length ≤ 4000) :
    Calls Tryz.prog 52 #[.slice a l.length cap] w (ReadPost w (readT l)) := by
  have hz := (Below.refl w.heap.size w).alloc (Nat.le_refl _) (.cells #[.int .i64 0, .string ByteArray.empty, .int .i64 0, .slice none 0 0] 26)
  have hz2 := hz.alloc (by simp) (.cells #[.slice a l.length cap] 130)
  have hr : Rd w.heap.size (w.heap.size + 1) ((w.alloc (.cells #[.int .i64 0, .string ByteArray.empty, .int .i64 0, .slice none 0 0] 26)).alloc (.cells #[.slice a l.length cap] 130)) l :=
    ⟨a, cap, alloc_new (by simp), toks_low ht hz2, by omega, hb⟩
  have C := Lib.hid ((said (4 * l.length + 4)).typ _ _ _ _ hr (by simp; omega) hok hl (Nat.le_refl _))
  have b4 := Lib.hid ((B4.new w (.int .i64 0) (.string ByteArray.empty) (.int .i64 0) (.slice none 0 0)).low ((Below.refl _ _).alloc (Nat.le_refl _) (.cells #[.slice a l.length cap] 130)))
  have HR := Lib.hid hr
  have HZ := Lib.hid hz2
  clear ht hb hok hz hr hz2
  go_enter Tryz.func52, Tryz.ntmps52
  go_wp2_with fail
  refine C.out.mono ?_
  rintro e w1 ⟨hg, hres⟩
  have k4 := b4.out.grown hg (fun e => by injection e; omega)
  have c0 := k4.c0
  have c1 := k4.c1
  have c2 := k4.c2
  have c3 := k4.c3
  have f0 := k4.fr 0
  have f1 := k4.fr 1
  have f2 := k4.fr 2
  have f3 := k4.fr 3
  have K4 := Lib.hid k4
  have G1 := Lib.hid (grown_trans (grown_below HZ.out) hg)
  have hsz := Lib.hid hg.size
  clear k4 hg
  cases hT : typF (4 * l.length + 4) l with
  | none =>
    rw [hT] at hres
    obtain ⟨k, s, m, a1, c, c', rfl⟩ := hres
    have E : Hid (readT l = none) := Lib.hid hT
    clear hT
    go_wp2
    have q0 := K4.out.set4 (.int .i64 k) (.string s) (.int .i64 m) (.slice a1 c c')
    have q4 := q0.set4 (.int .i64 0) (.string ⟨#[]⟩) (.int .i64 0) (.slice none 0 0)
    have g4 := grown_set4 (grown_set4 G1.out (b := w.heap.size) (Nat.le_refl _) (.int .i64 k) (.string s) (.int .i64 m) (.slice a1 c c')) (b := w.heap.size) (Nat.le_refl _) (.int .i64 0) (.string ⟨#[]⟩) (.int .i64 0) (.slice none 0 0)
    refine bodyPost_ret (v := .tuple #[zv, .slice none 0 0, .bool false]) (by simp [results, Tryz.results52, go_sem, zv, q4.c0, q4.c1, q4.c2, q4.c3]) rfl ?_
    rw [E.out]
    exact ⟨grown_low g4 (by omega), rfl⟩
  | some x =>
    obtain ⟨t, r⟩ := x
    rw [hT] at hres
    obtain ⟨a1, c, rfl, hA, hR⟩ := hres
    have E : Hid (readT l = some (t, r)) := Lib.hid hT
    obtain ⟨a2, c2, hB, hT2, _⟩ := id hR
    have RR := Lib.hid hR
    have HA := Lib.hid hA
    have cB : w1.cell? ⟨w.heap.size + 1, 0, none⟩ = some (.slice a2 r.length c2) := cell_of_row w1 _ 0 _ _ _ hB
    clear hT hA hR hB hT2
    unfold tv
    go_wp2
    have q0 := K4.out.set4 (.int .i64 t.kind) (.string t.name) (.int .i64 t.n) (.slice a1 t.args.length c)
    have hne := K4.out.ne_rd RR.out
    have g0 := grown_set4 G1.out (b := w.heap.size) (Nat.le_refl _) (.int .i64 t.kind) (.string t.name) (.int .i64 t.n) (.slice a1 t.args.length c)
    have hs1 : w.heap.size + 1 + 1 ≤ w1.heap.size := by have := hsz.out; simpa using this
    have r0 := RR.out.set4 (b := w.heap.size) (by omega) (Nat.le_refl _) (.int .i64 t.kind) (.string t.name) (.int .i64 t.n) (.slice a1 t.args.length c)
    have a0 := HA.out.keep (B := (((w1.setCell ⟨w.heap.size, 0, none⟩ (.int .i64 t.kind)).setCell ⟨w.heap.size, 1, none⟩ (.string t.name)).setCell ⟨w.heap.size, 2, none⟩ (.int .i64 t.n)).setCell ⟨w.heap.size, 3, none⟩ (.slice a1 t.args.length c)) (fun b hb => by
      obtain ⟨b1, b2⟩ := hb
      simp at b1
      rw [Below.heap_setCell _ _ _ _ (by simp; omega), Below.heap_setCell _ _ _ _ (by simp; omega), Below.heap_setCell _ _ _ _ (by simp; omega), Below.heap_setCell _ _ _ _ (by simp; omega)])
    have hfs : ((((w1.setCell ⟨w.heap.size, 0, none⟩ (.int .i64 t.kind)).setCell ⟨w.heap.size, 1, none⟩ (.string t.name)).setCell ⟨w.heap.size, 2, none⟩ (.int .i64 t.n)).setCell ⟨w.heap.size, 3, none⟩ (.slice a1 t.args.length c)).heap.size = w1.heap.size := by simp
    have a1' := a0.mono (S' := In (w.heap.size + 1 + 1) w1.heap.size) (fun b hb => by obtain ⟨b1, b2⟩ := hb; simp at b1; exact ⟨by omega, b2⟩)
    rw [← hfs] at a1'
    generalize (((w1.setCell ⟨w.heap.size, 0, none⟩ (.int .i64 t.kind)).setCell ⟨w.heap.size, 1, none⟩ (.string t.name)).setCell ⟨w.heap.size, 2, none⟩ (.int .i64 t.n)).setCell ⟨w.heap.size, 3, none⟩ (.slice a1 t.args.length c) = w2 at *
    have d0 := q0.c0
    have d1 := q0.c1
    have d2 := q0.c2
    have d3 := q0.c3
    have h0 := q0.fr 0
    have h1 := q0.fr 1
    have h2 := q0.fr 2
    have h3 := q0.fr 3
    obtain ⟨a3, c3', hB3, hT3, _⟩ := id r0
    have cB3 : w2.cell? ⟨w.heap.size + 1, 0, none⟩ = some (.slice a3 r.length c3') := cell_of_row w2 _ 0 _ _ _ hB3
    have Q0 := Lib.hid q0
    have GG := Lib.hid g0
    have AA := Lib.hid a1'
    have TT := Lib.hid hT3
    have R2 := Lib.hid r0
    have HB3 := Lib.hid hB3
    clear q0 g0 r0 a0 a1' hB3 hT3 cB hs1 hfs c0 c1 c2 c3 f0 f1 f2 f3
    go_region
    go_wp2
    have q4 : B4 ((((w2.setCell ⟨w.heap.size, 0, none⟩ (.int .i64 t.kind)).setCell ⟨w.heap.size, 1, none⟩ (.string t.name)).setCell ⟨w.heap.size, 2, none⟩ (.int .i64 t.n)).setCell ⟨w.heap.size, 3, none⟩ (.slice a1 t.args.length c)).drew w.heap.size (.int .i64 t.kind) (.string t.name) (.int .i64 t.n) (.slice a1 t.args.length c) := Q0.out.set4 (.int .i64 t.kind) (.string t.name) (.int .i64 t.n) (.slice a1 t.args.length c)
    have g4 := grown_trans (grown_set4 GG.out (b := w.heap.size) (Nat.le_refl _) (.int .i64 t.kind) (.string t.name) (.int .i64 t.n) (.slice a1 t.args.length c)) (grown_below (r := some (w.heap.size + 1)) ((Below.refl _ _).drew))
    have a4 := AA.out.keep (B := ((((w2.setCell ⟨w.heap.size, 0, none⟩ (.int .i64 t.kind)).setCell ⟨w.heap.size, 1, none⟩ (.string t.name)).setCell ⟨w.heap.size, 2, none⟩ (.int .i64 t.n)).setCell ⟨w.heap.size, 3, none⟩ (.slice a1 t.args.length c)).drew) (fun b hb => by
      obtain ⟨b1, b2⟩ := hb
      show ((((w2.setCell ⟨w.heap.size, 0, none⟩ (.int .i64 t.kind)).setCell ⟨w.heap.size, 1, none⟩ (.string t.name)).setCell ⟨w.heap.size, 2, none⟩ (.int .i64 t.n)).setCell ⟨w.heap.size, 3, none⟩ (.slice a1 t.args.length c)).heap[b]? = _
      rw [Below.heap_setCell _ _ _ _ (by simp; omega), Below.heap_setCell _ _ _ _ (by simp; omega), Below.heap_setCell _ _ _ _ (by simp; omega), Below.heap_setCell _ _ _ _ (by simp; omega)])
    have t4 : ToksAt ((((w2.setCell ⟨w.heap.size, 0, none⟩ (.int .i64 t.kind)).setCell ⟨w.heap.size, 1, none⟩ (.string t.name)).setCell ⟨w.heap.size, 2, none⟩ (.int .i64 t.n)).setCell ⟨w.heap.size, 3, none⟩ (.slice a1 t.args.length c)).drew (.slice a3 r.length c3') r := by
      obtain ⟨a5, c5, hh, hT5, _⟩ := (R2.out.set4 (b := w.heap.size) (by omega) (Nat.le_refl _) (.int .i64 t.kind) (.string t.name) (.int .i64 t.n) (.slice a1 t.args.length c)).low ((Below.refl _ _).drew)
      have h5 : ((((w2.setCell ⟨w.heap.size, 0, none⟩ (.int .i64 t.kind)).setCell ⟨w.heap.size, 1, none⟩ (.string t.name)).setCell ⟨w.heap.size, 2, none⟩ (.int .i64 t.n)).setCell ⟨w.heap.size, 3, none⟩ (.slice a1 t.args.length c)).drew.heap[w.heap.size + 1]? = w2.heap[w.heap.size + 1]? := by
        show ((((w2.setCell ⟨w.heap.size, 0, none⟩ (.int .i64 t.kind)).setCell ⟨w.heap.size, 1, none⟩ (.string t.name)).setCell ⟨w.heap.size, 2, none⟩ (.int .i64 t.n)).setCell ⟨w.heap.size, 3, none⟩ (.slice a1 t.args.length c)).heap[w.heap.size + 1]? = _
        rw [Below.heap_setCell _ _ _ _ (by simp), Below.heap_setCell _ _ _ _ (by simp), Below.heap_setCell _ _ _ _ (by simp), Below.heap_setCell _ _ _ _ (by simp)]
      rw [h5, HB3.out] at hh
      injection hh with hh
      injection hh with hh
      injection hh with hh
      injection hh with hh
      rw [hh]
      exact hT5
    refine bodyPost_ret (v := .tuple #[tv t a1 c, .slice a3 r.length c3', .bool true]) (by simp [results, Tryz.results52, go_sem, tv, q4.c0, q4.c1, q4.c2, q4.c3]) rfl ?_
    rw [E.out]
    exact ⟨grown_low g4 (by omega), a1, c, a3, c3', rfl, a4.mono (fun b hb => by obtain ⟨b1, b2⟩ := hb; exact ⟨by omega, by simpa using b2⟩), t4⟩

end Go.Proofs.YtofllmemmggapaaGreatDoor.Tp

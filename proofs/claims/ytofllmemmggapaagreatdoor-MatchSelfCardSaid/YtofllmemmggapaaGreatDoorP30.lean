/- Texts laid together: RfSuf, RfAtom, RfAtomB. -/
import Derived.Test.YtofllmemmggapaaGreatDoorP02
import Derived.Test.YtofllmemmggapaaGreatDoorP08
import Derived.Test.YtofllmemmggapaaGreatDoorP19
import Derived.Test.YtofllmemmggapaaGreatDoorP24
import Derived.Test.YtofllmemmggapaaGreatDoorP05
import Derived.Test.YtofllmemmggapaaGreatDoorP22

/- What is left is the end of what was there. No program in sight. -/
namespace Go.Proofs.YtofllmemmggapaaGreatDoor.Tp
open Lx

theorem tail_suf (l : List Tok) : l.tail <:+ l := List.tail_suffix l
theorem rest_suf (l : List Tok) : restL l <:+ l := List.dropWhile_suffix _

theorem sufs : ∀ n : Nat,
    (∀ l x r, typF n l = some (x, r) → r <:+ l) ∧ (∀ l x r, allF n l = some (x, r) → r <:+ l) ∧
    (∀ l x r, appF n l = some (x, r) → r <:+ l) ∧ (∀ s acc l x r, argsF n s acc l = some (x, r) → r <:+ l) ∧
    (∀ l x r, atomF n l = some (x, r) → r <:+ l) := by
  intro n
  induction n with
  | zero => exact ⟨fun _ _ _ h => by simp [typF] at h, fun _ _ _ h => by simp [allF] at h, fun _ _ _ h => by simp [appF] at h, fun _ _ _ _ _ h => by simp [argsF] at h, fun _ _ _ h => by simp [atomF] at h⟩
  | succ n ih =>
    obtain ⟨i1, i2, i3, i4, i5⟩ := ih
    refine ⟨fun l x r h => ?_, fun l x r h => ?_, fun l x r h => ?_, fun s acc l x r h => ?_, fun l x r h => ?_⟩
    · rw [typF] at h
      split at h
      · exact (i2 _ _ _ h).trans (tail_suf l)
      · split at h
        · cases h
        · next a r' h2 =>
          have e2 := i3 _ _ _ h2
          split at h
          · split at h
            · cases h
            · next b r'' h4 =>
              have e4 := i1 _ _ _ h4
              simp only [Option.some.injEq, Prod.mk.injEq] at h
              obtain ⟨_, rfl⟩ := h
              exact (e4.trans (tail_suf _)).trans e2
          · simp only [Option.some.injEq, Prod.mk.injEq] at h
            obtain ⟨_, rfl⟩ := h
            exact e2
    · rw [allF] at h
      split at h
      · cases h
      · split at h
        · cases h
        · next t r' h2 =>
          have e2 := i1 _ _ _ h2
          simp only [Option.some.injEq, Prod.mk.injEq] at h
          obtain ⟨_, rfl⟩ := h
          exact (e2.trans (tail_suf _)).trans (rest_suf l)
    · rw [appF] at h
      split at h
      · exact (i4 _ _ _ _ _ h).trans (tail_suf l)
      · exact i5 _ _ _ h
    · rw [argsF] at h
      split at h
      · split at h
        · cases h
        · next x' r' h2 => exact (i4 _ _ _ _ _ h).trans (i5 _ _ _ h2)
      · simp only [Option.some.injEq, Prod.mk.injEq] at h
        obtain ⟨_, rfl⟩ := h
        exact List.suffix_refl _
    · rw [atomF] at h
      split at h
      · simp only [Option.some.injEq, Prod.mk.injEq] at h
        obtain ⟨_, rfl⟩ := h
        exact tail_suf l
      · split at h
        · simp only [Option.some.injEq, Prod.mk.injEq] at h
          obtain ⟨_, rfl⟩ := h
          exact tail_suf l
        · split at h
          · simp only [Option.some.injEq, Prod.mk.injEq] at h
            obtain ⟨_, rfl⟩ := h
            exact tail_suf l
          · split at h
            · split at h
              · cases h
              · next t r' h2 =>
                have e2 := i1 _ _ _ h2
                split at h
                · simp only [Option.some.injEq, Prod.mk.injEq] at h
                  obtain ⟨_, rfl⟩ := h
                  exact ((tail_suf _).trans e2).trans (tail_suf l)
                · cases h
            · cases h

/-- the end of a list, by its length -/
theorem drop_suf {l r : List Tok} (h : r <:+ l) : l.drop (l.length - r.length) = r := by
  obtain ⟨p, rfl⟩ := h
  rw [List.length_append, Nat.add_sub_cancel, List.drop_left]
theorem suf_at {l r : List Tok} {i : Nat} (h : r <:+ l.drop i) : r <:+ l := h.trans (List.drop_suffix i l)

end Go.Proofs.YtofllmemmggapaaGreatDoor.Tp

/- The walk of the document's atom. -/
namespace Go.Proofs.YtofllmemmggapaaGreatDoor.Tp
open Go.RowKit
open Lx

theorem st_sees {l : List Tok} {k : Nat} {s : List UInt8} (h : s ≠ []) : seesB l k s = st l k s := sees_st l k s h

/-- types in memory made behind a block, and that block written -/
theorem in_stored {w wx : World} {v : Value} {ts : List Ty} (p0 p1 p2 p3 : Value) (_hs : w.heap.size + 1 ≤ wx.heap.size) (h : ArgsAt (In (w.heap.size + 1) wx.heap.size) wx v ts) :
    ArgsAt (In w.heap.size ((((wx.setCell ⟨w.heap.size, 0, none⟩ p0).setCell ⟨w.heap.size, 1, none⟩ p1).setCell ⟨w.heap.size, 2, none⟩ p2).setCell ⟨w.heap.size, 3, none⟩ p3).heap.size) ((((wx.setCell ⟨w.heap.size, 0, none⟩ p0).setCell ⟨w.heap.size, 1, none⟩ p1).setCell ⟨w.heap.size, 2, none⟩ p2).setCell ⟨w.heap.size, 3, none⟩ p3) v ts := by
  have k := same_set4 wx w.heap.size p0 p1 p2 p3
  refine (h.keep fun b hb => k.off b (by have := hb.1; omega)).mono fun b hb => ⟨by have := hb.1; omega, by rw [k.size]; exact hb.2⟩

theorem ret_pair {v : Value} {a b : Int} (h : a = b) : Ending.returned (.tuple #[v, .int .i64 a]) = .returned (.tuple #[v, .int .i64 b]) := by rw [h]

/-- an atom that is one token -/
theorem ratom_leaf (n : Nat) (w : World) (a : Option Addr) (c : Nat) (l : List Tok) (i : Nat) (ht : ToksAt w (.slice a l.length c) l) (hb : ∀ b o, a = some ⟨b, o, none⟩ → b < w.heap.size) (hl : l.length ≤ 4000) (hi : i < l.length)
    (k : Nat) (hk : l[i].kind = k) (hk2 : k = 1 ∨ k = 2) : Calls Tryz.prog 107 #[.slice a l.length c, .int .i64 i] w (RrPost w l.length (atomF (n + 1) (l.drop i))) := by
  obtain ⟨b, off, rfl, c0', c1'⟩ := toks_ix ht hi
  have hbl := hb b off rfl
  have hz := (Below.refl w.heap.size w).alloc (Nat.le_refl _) (.cells #[.int .i64 0, .string ⟨#[]⟩, .int .i64 0, .slice none 0 0] 29)
  have c0 := (hz.cell (p := ⟨b, off + i * 3, none⟩) hbl).trans c0'
  have c1 := (hz.cell (p := ⟨b, off + i * 3 + 1, none⟩) hbl).trans c1'
  have z0 : (0 : Int) ≤ (i : Int) := by omega
  have z1 : (i : Int) < (l.length : Int) := by omega
  have hrest : (l.drop (i + 1)).length = l.length - (i + 1) := List.length_drop
  have E : Hid (atomF (n + 1) (l.drop i) = some (if k = 1 then tVar l[i].text else tCon l[i].text [], l.drop (i + 1))) := Lib.hid (by
    rw [drop_ix hi, atomF]
    rcases hk2 with rfl | rfl
    · rw [if_pos (sk_cons _ _ 1 hk)]; rfl
    · rw [sk_cons_ne _ _ 1 (by omega), sk_cons _ _ 2 hk]; rfl)
  have HR := Lib.hid hrest
  clear ht hb c0' c1' hrest hz
  rw [hk] at c0
  generalize l[i] = t at *
  clear hk
  rcases hk2 with rfl | rfl
  · go_enter Tryz.func107, Tryz.ntmps107
    go_wp2
    have q4 := R4.new w (.int .i64 1) (.string ⟨t.text.toArray⟩) (.int .i64 0) (.slice none 0 0)
    refine bodyPost_ret (v := .tuple #[tv (tVar t.text) none 0, .int .i64 ((i : Int) + 1)]) (by simp [results, Tryz.results107, go_sem, q4.c0, q4.c1, q4.c2, q4.c3]; rfl) rfl ?_
    rw [E.out]
    exact ⟨(Below.refl w.heap.size w).alloc (Nat.le_refl _) _, none, 0, ret_pair (by rw [HR.out]; omega), .nil _ _⟩
  · go_enter Tryz.func107, Tryz.ntmps107
    go_wp2
    have q4 := R4.new w (.int .i64 3) (.string ⟨t.text.toArray⟩) (.int .i64 0) (.slice none 0 0)
    refine bodyPost_ret (v := .tuple #[tv (tCon t.text []) none 0, .int .i64 ((i : Int) + 1)]) (by simp [results, Tryz.results107, go_sem, q4.c0, q4.c1, q4.c2, q4.c3]; rfl) rfl ?_
    rw [E.out]
    exact ⟨(Below.refl w.heap.size w).alloc (Nat.le_refl _) _, none, 0, ret_pair (by rw [HR.out]; omega), .nil _ _⟩

end Go.Proofs.YtofllmemmggapaaGreatDoor.Tp

/- The walk of the document's atom: the other cases; the whole. -/
namespace Go.Proofs.YtofllmemmggapaaGreatDoor.Tp
open Go.RowKit
open Lx

theorem extract_tail (s : List UInt8) : (bytes s).extract 1 (bytes s).size = bytes s.tail := by
  apply ByteArray.ext
  apply Array.toList_inj.1
  rw [extract_rest]
  simp [bytes]

set_option maxHeartbeats 1600000 in
theorem ratom_meta (n : Nat) (w : World) (a : Option Addr) (c : Nat) (l : List Tok) (i : Nat) (ht : ToksAt w (.slice a l.length c) l) (hb : ∀ b o, a = some ⟨b, o, none⟩ → b < w.heap.size) (hr : TokR l) (hl : l.length ≤ 4000) (hi : i < l.length)
    (hk : l[i].kind = 5) : Calls Tryz.prog 107 #[.slice a l.length c, .int .i64 i] w (RrPost w l.length (atomF (n + 1) (l.drop i))) := by
  obtain ⟨b, off, rfl, c0', c1'⟩ := toks_ix ht hi
  have hbl := hb b off rfl
  have hz := (Below.refl w.heap.size w).alloc (Nat.le_refl _) (.cells #[.int .i64 0, .string ⟨#[]⟩, .int .i64 0, .slice none 0 0] 29)
  have c0 := (hz.cell (p := ⟨b, off + i * 3, none⟩) hbl).trans c0'
  have c1 := (hz.cell (p := ⟨b, off + i * 3 + 1, none⟩) hbl).trans c1'
  have z0 : (0 : Int) ≤ (i : Int) := by omega
  have z1 : (i : Int) < (l.length : Int) := by omega
  have hrest : (l.drop (i + 1)).length = l.length - (i + 1) := List.length_drop
  obtain ⟨hlen, hne, hdg⟩ := hr.num _ (List.getElem_mem hi) hk
  have E : Hid (atomF (n + 1) (l.drop i) = some (tMeta l[i].text, l.drop (i + 1))) := Lib.hid (by
    rw [drop_ix hi, atomF, sk_cons_ne _ _ 1 (by omega), sk_cons_ne _ _ 2 (by omega), sk_cons _ _ 5 hk]; rfl)
  have HR := Lib.hid hrest
  have hpos : 1 ≤ l[i].text.length := List.length_pos_iff.2 hne
  have HX := Lib.hid (extract_tail l[i].text)
  have CN := Lib.hid (fun W => rfnum_any (bytes l[i].text.tail) W (by rw [size_bytes]; exact hlen) (by rw [show (bytes l[i].text.tail).data.toList = l[i].text.tail from by simp [bytes]]; exact hdg))
  have NL := Lib.hid (show numL (bytes l[i].text.tail).data.toList = numL l[i].text.tail by simp [bytes])
  have hsz := size_bytes l[i].text
  have hs1 : 1 ≤ (bytes l[i].text).size := by omega
  have hbe : (⟨l[i].text.toArray⟩ : ByteArray) = bytes l[i].text := rfl
  rw [hbe] at c1
  clear ht hb c0' c1' hrest hz hne hdg hlen hr hsz hbe
  rw [hk] at c0
  generalize l[i] = t at *
  clear hk
  go_enter Tryz.func107, Tryz.ntmps107
  go_wp2_with fail
  rw [HX.out]
  refine (CN.out _).mono ?_
  rintro e w2 ⟨rfl, rfl⟩
  rw [NL.out]
  go_wp2
  have q4 := R4.new w (.int .i64 2) (.string ⟨#[]⟩) (.int .i64 (numL t.text.tail : Int)) (.slice none 0 0)
  refine bodyPost_ret (v := .tuple #[tv (tMeta t.text) none 0, .int .i64 ((i : Int) + 1)]) (by simp [results, Tryz.results107, go_sem, q4.c0, q4.c1, q4.c2, q4.c3]; rfl) rfl ?_
  rw [E.out]
  exact ⟨(Below.refl w.heap.size w).alloc (Nat.le_refl _) _, none, 0, ret_pair (by rw [HR.out]; omega), .nil _ _⟩

/-- the document's zero type, and no place -/
theorem rz_none {w w' : World} {n : Nat} (h : Below w.heap.size w w') : RrPost w n none (.returned (.tuple #[.agg #[.int .i64 0, .string ⟨#[]⟩, .int .i64 0, .slice none 0 0], .int .i64 (-1)])) w' := ⟨h, _, _, _, _, _, _, rfl⟩

set_option maxHeartbeats 1600000 in
theorem ratom_end (n : Nat) (w : World) (a : Option Addr) (c : Nat) (l : List Tok) (i : Nat) (hi : i = l.length) : Calls Tryz.prog 107 #[.slice a l.length c, .int .i64 i] w (RrPost w l.length (atomF (n + 1) (l.drop i))) := by
  have E : Hid (atomF (n + 1) (l.drop i) = none) := Lib.hid (by rw [hi, List.drop_length, atomF]; rfl)
  subst hi
  generalize l.length = m at *
  go_enter Tryz.func107, Tryz.ntmps107
  go_wp2
  have q4 := R4.new w (.int .i64 0) (.string ⟨#[]⟩) (.int .i64 0) (.slice none 0 0)
  refine bodyPost_ret (v := .tuple #[.agg #[.int .i64 0, .string ⟨#[]⟩, .int .i64 0, .slice none 0 0], .int .i64 (-1)]) (by simp [results, Tryz.results107, go_sem, q4.c0, q4.c1, q4.c2, q4.c3]) rfl ?_
  rw [E.out]
  exact rz_none ((Below.refl w.heap.size w).alloc (Nat.le_refl _) _)

set_option maxHeartbeats 1600000 in
theorem ratom_bad (n : Nat) (w : World) (a : Option Addr) (c : Nat) (l : List Tok) (i : Nat) (ht : ToksAt w (.slice a l.length c) l) (hb : ∀ b o, a = some ⟨b, o, none⟩ → b < w.heap.size) (_hl : l.length ≤ 4000) (hi : i < l.length)
    (h1 : l[i].kind ≠ 1) (h2 : l[i].kind ≠ 2) (h5 : l[i].kind ≠ 5) (hp : l[i].text ≠ lpar) : Calls Tryz.prog 107 #[.slice a l.length c, .int .i64 i] w (RrPost w l.length (atomF (n + 1) (l.drop i))) := by
  obtain ⟨b, off, rfl, c0', c1'⟩ := toks_ix ht hi
  have hbl := hb b off rfl
  have hz := (Below.refl w.heap.size w).alloc (Nat.le_refl _) (.cells #[.int .i64 0, .string ⟨#[]⟩, .int .i64 0, .slice none 0 0] 29)
  have c0 := (hz.cell (p := ⟨b, off + i * 3, none⟩) hbl).trans c0'
  have c1 := (hz.cell (p := ⟨b, off + i * 3 + 1, none⟩) hbl).trans c1'
  have z0 : (0 : Int) ≤ (i : Int) := by omega
  have z1 : (i : Int) < (l.length : Int) := by omega
  have E : Hid (atomF (n + 1) (l.drop i) = none) := Lib.hid (by
    rw [drop_ix hi, atomF, sk_cons_ne _ _ 1 h1, sk_cons_ne _ _ 2 h2, sk_cons_ne _ _ 5 h5, st_eq, beq_eq_false_iff_ne.2 hp, Bool.and_false]; rfl)
  have q1 : ((l[i].kind : Int) == 1) = false := by rw [beq_eq_false_iff_ne]; omega
  have q2 : ((l[i].kind : Int) == 2) = false := by rw [beq_eq_false_iff_ne]; omega
  have q5 : ((l[i].kind : Int) == 5) = false := by rw [beq_eq_false_iff_ne]; omega
  have qp : ¬ (⟨l[i].text.toArray⟩ : ByteArray).toList = [40] := by rw [ByteArray.toList_eq]; exact hp
  have qb : ((⟨l[i].text.toArray⟩ : ByteArray).toList == [40]) = false := beq_eq_false_iff_ne.2 qp
  clear ht hb c0' c1' hz h1 h2 h5 hp
  generalize l[i].kind = k at *
  generalize (⟨l[i].text.toArray⟩ : ByteArray) = tx at *
  have hz' := Lib.hid ((Below.refl w.heap.size w).alloc (Nat.le_refl _) (.cells #[.int .i64 0, .string ⟨#[]⟩, .int .i64 0, .slice none 0 0] 29))
  go_enter Tryz.func107, Tryz.ntmps107
  go_wp2
  have q4 := R4.new w (.int .i64 0) (.string ⟨#[]⟩) (.int .i64 0) (.slice none 0 0)
  refine bodyPost_ret (v := .tuple #[.agg #[.int .i64 0, .string ⟨#[]⟩, .int .i64 0, .slice none 0 0], .int .i64 (-1)]) (by simp [results, Tryz.results107, go_sem, q4.c0, q4.c1, q4.c2, q4.c3]) rfl ?_
  rw [E.out]
  exact rz_none hz'.out

set_option maxHeartbeats 3200000 in
theorem ratom_par (n : Nat) (w : World) (a : Option Addr) (c : Nat) (l : List Tok) (i : Nat) (ih : RSaid n) (ht : ToksAt w (.slice a l.length c) l) (hb : ∀ b o, a = some ⟨b, o, none⟩ → b < w.heap.size) (hr : TokR l) (hl : l.length ≤ 4000) (hi : i < l.length)
    (hn : 4 * (l.length - i) + 2 ≤ n + 1) (hp : l[i].text = lpar) : Calls Tryz.prog 107 #[.slice a l.length c, .int .i64 i] w (RrPost w l.length (atomF (n + 1) (l.drop i))) := by
  have hk := hr.par _ (List.getElem_mem hi) hp
  obtain ⟨b, off, rfl, c0', c1'⟩ := toks_ix ht hi
  have hbl := hb b off rfl
  have hz := (Below.refl w.heap.size w).alloc (Nat.le_refl _) (.cells #[.int .i64 0, .string ⟨#[]⟩, .int .i64 0, .slice none 0 0] 29)
  have c0 := (hz.cell (p := ⟨b, off + i * 3, none⟩) hbl).trans c0'
  have c1 := (hz.cell (p := ⟨b, off + i * 3 + 1, none⟩) hbl).trans c1'
  rw [hk] at c0
  rw [hp] at c1
  have z0 : (0 : Int) ≤ (i : Int) := by omega
  have z1 : (i : Int) < (l.length : Int) := by omega
  have E : Hid (atomF (n + 1) (l.drop i) = match typF n (l.drop (i + 1)) with | none => none | some (t, r) => if st r 6 rpar then some (t, r.tail) else none) := Lib.hid (by
    rw [drop_ix hi, atomF, sk_cons_ne _ _ 1 (by omega), sk_cons_ne _ _ 2 (by omega), sk_cons_ne _ _ 5 (by omega), st_cons _ _ 6 lpar hk hp]; rfl)
  have cr := (ih.typ (w.alloc (.cells #[.int .i64 0, .string ⟨#[]⟩, .int .i64 0, .slice none 0 0] 29)) (some ⟨b, off, none⟩) c l (i + 1) (toks_low ht hz) (fun b' o' e => by injection e with e; injection e with e1 e2; rw [← e1]; simp; omega) hr hl (by omega) (by omega))
  rw [show ((i + 1 : Nat) : Int) = (i : Int) + 1 from by omega] at cr
  have CR := Lib.hid cr
  clear cr
  have CI := Lib.hid (fun (W : World) (h : Below w.heap.size w W) (j : Nat) (hj : j ≤ l.length) => is_any 6 rpar W (some ⟨b, off, none⟩) c l j (toks_low ht h) hj)
  have HZ := Lib.hid hz
  have b4 := Lib.hid (R4.new w (.int .i64 0) (.string ⟨#[]⟩) (.int .i64 0) (.slice none 0 0))
  have hll := hl
  clear ht hb c0' c1' hz hk hp hr ih hn
  go_enter Tryz.func107, Tryz.ntmps107
  go_wp2_with fail
  refine CR.out.mono ?_
  rintro e w1 ⟨hb1, hres⟩
  have G1 := Lib.hid (HZ.out.trans (hb1.mono HZ.out.size))
  have hs1 : w.heap.size + 1 ≤ w1.heap.size := by have := hb1.size; simpa using this
  have HS1 := Lib.hid hs1
  cases hT : typF n (l.drop (i + 1)) with
  | none =>
    rw [hT] at hres
    obtain ⟨k, s, m, a', c', c'', rfl⟩ := hres
    have E2 : Hid (atomF (n + 1) (l.drop i) = none) := Lib.hid (by rw [E.out, hT])
    have hz1 := (Below.refl w1.heap.size w1).alloc (Nat.le_refl _) (.cells #[.int .i64 k, .string s, .int .i64 m, .slice a' c' c''] 29)
    have k6 := (b4.out.low hb1).low hz1
    have f0 := k6.fr 0
    have f1 := k6.fr 1
    have f2 := k6.fr 2
    have f3 := k6.fr 3
    have d0 := k6.c0
    have d1 := k6.c1
    have d2 := k6.c2
    have d3 := k6.c3
    have K6 := Lib.hid k6
    have G2 := Lib.hid (G1.out.trans (hz1.mono G1.out.size))
    clear hT hb1 hz1 k6 hs1
    go_wp2
    have q4 := K6.out.set4 (.int .i64 0) (.string ⟨#[]⟩) (.int .i64 0) (.slice none 0 0)
    refine bodyPost_ret (v := .tuple #[.agg #[.int .i64 0, .string ⟨#[]⟩, .int .i64 0, .slice none 0 0], .int .i64 (-1)]) (by simp [results, Tryz.results107, go_sem, q4.c0, q4.c1, q4.c2, q4.c3]) rfl ?_
    rw [E2.out]
    exact rz_none (G2.out.set4 (Nat.le_refl _) _ _ _ _)
  | some x =>
    obtain ⟨t, r⟩ := x
    rw [hT] at hres
    obtain ⟨a', c', rfl, hA⟩ := hres
    have hsuf := suf_at ((sufs n).1 _ _ _ hT)
    have hrl : r.length ≤ l.length := hsuf.length_le
    have hz1 := (Below.refl w1.heap.size w1).alloc (Nat.le_refl _) (.cells #[.int .i64 t.kind, .string t.name, .int .i64 t.n, .slice a' t.args.length c'] 29)
    have k6 := (b4.out.low hb1).low hz1
    have kt := R4.new w1 (.int .i64 t.kind) (.string t.name) (.int .i64 t.n) (.slice a' t.args.length c')
    have f0 := k6.fr 0
    have f1 := k6.fr 1
    have f2 := k6.fr 2
    have f3 := k6.fr 3
    have d0 := k6.c0
    have d1 := k6.c1
    have d2 := k6.c2
    have d3 := k6.c3
    have t0 := kt.c0
    have t1 := kt.c1
    have t2 := kt.c2
    have t3 := kt.c3
    have K6 := Lib.hid k6
    have G2 := Lib.hid (G1.out.trans (hz1.mono G1.out.size))
    have HA := Lib.hid (hA.keep fun b hb => hz1.block b hb.2)
    have C2 := Lib.hid (CI.out _ G2.out (l.length - r.length) (by omega))
    have DS := Lib.hid (drop_suf hsuf)
    have zj : ¬ (((l.length - r.length : Nat) : Int) < 0) := by omega
    have hrl2 : r.length ≤ 4000 := by omega
    cases hq : st r 6 rpar with
    | false =>
      have E2 : Hid (atomF (n + 1) (l.drop i) = none) := Lib.hid (by rw [E.out, hT]; simp only; rw [hq]; rfl)
      have SQ : Hid (seesB (l.drop (l.length - r.length)) 6 rpar = false) := Lib.hid (by rw [DS.out, st_sees (by decide)]; exact hq)
      clear hT hb1 hz1 k6 kt hs1 hA hsuf hq
      generalize l.length - r.length = j at *
      unfold tv
      go_wp2_with fail
      refine C2.out.mono ?_
      rintro e w4 ⟨he, rfl⟩
      rw [SQ.out] at he
      subst he
      go_wp2
      have q4 := K6.out.set4 (.int .i64 0) (.string ⟨#[]⟩) (.int .i64 0) (.slice none 0 0)
      refine bodyPost_ret (v := .tuple #[.agg #[.int .i64 0, .string ⟨#[]⟩, .int .i64 0, .slice none 0 0], .int .i64 (-1)]) (by simp [results, Tryz.results107, go_sem, q4.c0, q4.c1, q4.c2, q4.c3]) rfl ?_
      rw [E2.out]
      exact rz_none (G2.out.set4 (Nat.le_refl _) _ _ _ _)
    | true =>
      have E2 : Hid (atomF (n + 1) (l.drop i) = some (t, r.tail)) := Lib.hid (by rw [E.out, hT]; simp only; rw [hq]; rfl)
      have SQ : Hid (seesB (l.drop (l.length - r.length)) 6 rpar = true) := Lib.hid (by rw [DS.out, st_sees (by decide)]; exact hq)
      have hr1 := st_ne hq
      have HJ : Hid (((l.length - r.length : Nat) : Int) + 1 = ((l.length - r.tail.length : Nat) : Int)) := Lib.hid (by rw [List.length_tail]; omega)
      clear hT hb1 hz1 k6 kt hs1 hA hsuf hq
      have hjl : l.length - r.length ≤ 4000 := by omega
      generalize l.length - r.length = j at *
      unfold tv
      go_wp2_with fail
      refine C2.out.mono ?_
      rintro e w4 ⟨he, rfl⟩
      rw [SQ.out] at he
      subst he
      go_wp2
      have q4 := K6.out.set4 (.int .i64 t.kind) (.string t.name) (.int .i64 t.n) (.slice a' t.args.length c')
      refine bodyPost_ret (v := .tuple #[tv t a' c', .int .i64 ((j : Int) + 1)]) (by simp [results, Tryz.results107, go_sem, tv, q4.c0, q4.c1, q4.c2, q4.c3]) rfl ?_
      rw [E2.out]
      refine ⟨G2.out.set4 (Nat.le_refl _) _ _ _ _, a', c', ret_pair HJ.out, in_stored _ _ _ _ (by simp; have := HS1.out; omega) ?_⟩
      refine HA.out.mono fun b hb => ⟨by have := hb.1; simpa using this, by have := hb.2; simp; omega⟩

theorem ratom_any (n : Nat) (ih : RSaid n) (w : World) (a : Option Addr) (c : Nat) (l : List Tok) (i : Nat) (ht : ToksAt w (.slice a l.length c) l) (hb : ∀ b o, a = some ⟨b, o, none⟩ → b < w.heap.size) (hr : TokR l) (hl : l.length ≤ 4000) (hi : i ≤ l.length)
    (hn : 4 * (l.length - i) + 2 ≤ n + 1) : Calls Tryz.prog 107 #[.slice a l.length c, .int .i64 i] w (RrPost w l.length (atomF (n + 1) (l.drop i))) := by
  by_cases h : i < l.length
  · by_cases h1 : l[i].kind = 1
    · exact ratom_leaf n w a c l i ht hb hl h 1 h1 (.inl rfl)
    · by_cases h2 : l[i].kind = 2
      · exact ratom_leaf n w a c l i ht hb hl h 2 h2 (.inr rfl)
      · by_cases h5 : l[i].kind = 5
        · exact ratom_meta n w a c l i ht hb hr hl h h5
        · by_cases hp : l[i].text = lpar
          · exact ratom_par n w a c l i ih ht hb hr hl h hn hp
          · exact ratom_bad n w a c l i ht hb hl h h1 h2 h5 hp
  · exact ratom_end n w a c l i (by omega)

end Go.Proofs.YtofllmemmggapaaGreatDoor.Tp

/- Texts laid together: TyAtomC, TyAcc. -/
import Derived.Test.YtifaaihekgnhiaaDoorP08
import Derived.Deep.AppendLies
import Derived.OwnWalk
import Derived.Maps.OwnRows
import Derived.Deep.LoopGhost

/- The walk of atom: parentheses, and none. -/
namespace Go.Proofs.YtifaaihekgnhiaaDoor.Tp
open Go.RowKit
open Lx

/-- zero of a type's struct -/
def zv : Value := .agg #[.int .i64 0, .string ⟨#[]⟩, .int .i64 0, .slice none 0 0]

set_option maxHeartbeats 1600000 in
theorem atom_none (n N B : Nat) (w : World) (l : List Tok) (h : Rd N B w l) (h1 : sk l 1 = false) (h2 : sk l 2 = false) (h3 : sk l 5 = false) (h4 : st l 6 lpar = false) : Calls Tryd.prog 78 #[.pointer (some ⟨B, 0, none⟩)] w (RdPost N B w (atomF (n + 1) l)) := by
  have hr := h.low ((Below.refl w.heap.size w).alloc (Nat.le_refl _) (.cells #[.int .i64 0, .string ByteArray.empty, .int .i64 0, .slice none 0 0] 25))
  have C1 := Lib.hid (takes_no hr (k := 1) (s := []) (sees0 h1))
  have C2 := Lib.hid (takes_no hr (k := 2) (s := []) (sees0 h2))
  have C3 := Lib.hid (takes_no hr (k := 5) (s := []) (sees0 h3))
  have C4 := Lib.hid (takes_no hr (k := 6) (s := lpar) (sees1 (by decide) h4))
  have k4 := B4.new w (.int .i64 0) (.string ByteArray.empty) (.int .i64 0) (.slice none 0 0)
  have e : atomF (n + 1) l = none := by rw [atomF, h1, if_neg (by simp), h2, if_neg (by simp), h3, if_neg (by simp), h4, if_neg (by simp)]
  have E := Lib.hid e
  have K4 := Lib.hid k4
  clear h hr h1 h2 h3 h4 e k4
  go_enter Tryd.func78, Tryd.ntmps78
  go_wp2_with fail
  refine C1.out.mono ?_
  rintro e w1 ⟨rfl, rfl⟩
  go_wp2_with fail
  refine C2.out.mono ?_
  rintro e w1 ⟨rfl, rfl⟩
  go_wp2_with fail
  refine C3.out.mono ?_
  rintro e w1 ⟨rfl, rfl⟩
  go_wp2_with fail
  refine C4.out.mono ?_
  rintro e w1 ⟨rfl, rfl⟩
  go_wp2
  refine bodyPost_ret (v := .tuple #[zv, .bool false]) (by simp [results, Tryd.results78, go_sem, zv]) rfl ?_
  rw [E.out]
  exact ⟨grown_below ((Below.refl w.heap.size w).alloc (Nat.le_refl _) _), _, _, _, _, _, _, rfl⟩

set_option maxHeartbeats 3200000 in
theorem atom_par (n N B : Nat) (w : World) (l : List Tok) (ih : Said n) (h : Rd N B w l) (hN : N ≤ w.heap.size) (hok : TokOk l) (hl : l.length ≤ 4000) (hn : 4 * l.length + 2 ≤ n + 1) (h1 : sk l 1 = false) (h2 : sk l 2 = false) (h3 : sk l 5 = false) (h4 : st l 6 lpar = true) : Calls Tryd.prog 78 #[.pointer (some ⟨B, 0, none⟩)] w (RdPost N B w (atomF (n + 1) l)) := by
  have hr := h.low ((Below.refl w.heap.size w).alloc (Nat.le_refl _) (.cells #[.int .i64 0, .string ByteArray.empty, .int .i64 0, .slice none 0 0] 25))
  have C1 := Lib.hid (takes_no hr (k := 1) (s := []) (sees0 h1))
  have C2 := Lib.hid (takes_no hr (k := 2) (s := []) (sees0 h2))
  have C3 := Lib.hid (takes_no hr (k := 5) (s := []) (sees0 h3))
  have C4 := Lib.hid (takes_yes hr (k := 6) (s := lpar) (sees1 (by decide) h4))
  have b4 := Lib.hid (B4.new w (.int .i64 0) (.string ByteArray.empty) (.int .i64 0) (.slice none 0 0))
  have HR := Lib.hid hr
  have htl : l.tail.length + 1 = l.length := by have := st_ne h4; rw [List.length_tail]; omega
  have e : atomF (n + 1) l = (match typF n l.tail with | none => none | some (t, r) => if st r 6 rpar then some (t, r.tail) else none) := by
    rw [atomF, h1, if_neg (by simp), h2, if_neg (by simp), h3, if_neg (by simp), if_pos h4]; rfl
  have IH := Lib.hid (fun w1 (hr1 : Rd N B w1 l.tail) (hN1 : N ≤ w1.heap.size) => ih.typ N B w1 l.tail hr1 hN1 hok.tail (by omega) (by omega))
  have E := Lib.hid e
  clear h hr h1 h2 h3 h4 e ih hok
  go_enter Tryd.func78, Tryd.ntmps78
  go_wp2_with fail
  refine C1.out.mono ?_
  rintro e w1 ⟨rfl, rfl⟩
  go_wp2_with fail
  refine C2.out.mono ?_
  rintro e w1 ⟨rfl, rfl⟩
  go_wp2_with fail
  refine C3.out.mono ?_
  rintro e w1 ⟨rfl, rfl⟩
  go_wp2_with fail
  refine C4.out.mono ?_
  rintro e w1 ⟨rfl, hrd, hg⟩
  have k4 := b4.out.grown hg (fun e => b4.out.ne_rd HR.out (by injection e with e; exact e.symm))
  have hs1 := hg.size
  have K4 := Lib.hid k4
  have RD := Lib.hid hrd
  have G := Lib.hid (grown_trans (grown_below ((Below.refl w.heap.size w).alloc (Nat.le_refl _) _)) hg)
  have hs1 : w.heap.size < w1.heap.size := by have := hg.size; simp at this; omega
  clear k4 hrd hg
  go_wp2_with fail
  refine (IH.out w1 RD.out (by omega)).mono ?_
  rintro e w2 ⟨hg2, hres⟩
  have k5 := K4.out.grown hg2 (fun e => K4.out.ne_rd RD.out (by injection e with e; exact e.symm))
  have hs2 := hg2.size
  have K5 := Lib.hid k5
  have G2 := Lib.hid (grown_trans G.out hg2)
  clear k5
  cases hT : typF n l.tail with
  | none =>
    rw [hT] at hres
    obtain ⟨k, s, m, a, c, c', rfl⟩ := hres
    have e2 : atomF (n + 1) l = none := by rw [E.out, hT]
    have E2 := Lib.hid e2
    have k6 := K5.out.low ((Below.refl w2.heap.size w2).alloc (Nat.le_refl _) (.cells #[.int .i64 k, .string s, .int .i64 m, .slice a c c'] 25))
    have c0 := k6.c0
    have c1 := k6.c1
    have c2 := k6.c2
    have c3 := k6.c3
    have f0 := k6.fr 0
    have f1 := k6.fr 1
    have f2 := k6.fr 2
    have f3 := k6.fr 3
    have K6 := Lib.hid k6
    clear e2 hT hg2 k6
    go_wp2
    have q4 := K6.out.set4 (.int .i64 0) (.string ⟨#[]⟩) (.int .i64 0) (.slice none 0 0)
    have g4 := grown_set4 (grown_trans G2.out (grown_below ((Below.refl w2.heap.size w2).alloc (Nat.le_refl _) (.cells #[.int .i64 k, .string s, .int .i64 m, .slice a c c'] 25)))) (Nat.le_refl _) (.int .i64 0) (.string ⟨#[]⟩) (.int .i64 0) (.slice none 0 0)
    refine bodyPost_ret (v := .tuple #[zv, .bool false]) (by simp [results, Tryd.results78, go_sem, zv, q4.c0, q4.c1, q4.c2, q4.c3]) rfl ?_
    rw [E2.out]
    exact ⟨g4, _, _, _, _, _, _, rfl⟩
  | some x =>
    obtain ⟨t, r⟩ := x
    rw [hT] at hres
    obtain ⟨a, c, rfl, hA, hR⟩ := hres
    have hb3 := (Below.refl w2.heap.size w2).alloc (Nat.le_refl _) (.cells #[.int .i64 t.kind, .string t.name, .int .i64 t.n, .slice a t.args.length c] 25)
    have hR3 := hR.low hb3
    have k6 := K5.out.low hb3
    have kt := B4.new w2 (.int .i64 t.kind) (.string t.name) (.int .i64 t.n) (.slice a t.args.length c)
    have hBlt : B < w.heap.size + 1 := by
      obtain ⟨v, hv⟩ := HR.out.blk
      have := (Array.getElem?_eq_some_iff.1 hv).1
      simpa using this
    have hBne := K4.out.ne_rd RD.out
    have hBl : B < w.heap.size := by omega
    cases hp : st r 6 rpar
    · have e2 : atomF (n + 1) l = none := by rw [E.out, hT]; simp [hp]
      have E2 := Lib.hid e2
      have C5 := Lib.hid (takes_no hR3 (k := 6) (s := rpar) (sees1 (by decide) hp))
      have c0 := k6.c0
      have c1 := k6.c1
      have c2 := k6.c2
      have c3 := k6.c3
      have f0 := k6.fr 0
      have f1 := k6.fr 1
      have f2 := k6.fr 2
      have f3 := k6.fr 3
      have t0 := kt.c0
      have t1 := kt.c1
      have t2 := kt.c2
      have t3 := kt.c3
      have K6 := Lib.hid k6
      have G3 := Lib.hid (grown_trans G2.out (grown_below hb3))
      clear e2 hT hg2 k6 kt hb3 hR3 hR hA hp
      unfold tv
      go_wp2_with fail
      refine C5.out.mono ?_
      rintro e w4 ⟨rfl, rfl⟩
      go_wp2
      have q4 := K6.out.set4 (.int .i64 t.kind) (.string t.name) (.int .i64 t.n) (.slice a t.args.length c)
      have g4 := grown_set4 G3.out (Nat.le_refl _) (.int .i64 t.kind) (.string t.name) (.int .i64 t.n) (.slice a t.args.length c)
      refine bodyPost_ret (v := .tuple #[tv t a c, .bool false]) (by simp [results, Tryd.results78, go_sem, tv, q4.c0, q4.c1, q4.c2, q4.c3]) rfl ?_
      rw [E2.out]
      exact ⟨g4, _, _, _, _, _, _, rfl⟩
    · have e2 : atomF (n + 1) l = some (t, r.tail) := by rw [E.out, hT]; simp [hp]
      have E2 := Lib.hid e2
      have C5 := Lib.hid (takes_yes hR3 (k := 6) (s := rpar) (sees1 (by decide) hp))
      have K6 := Lib.hid k6
      have KT := Lib.hid kt
      have R3 := Lib.hid hR3
      have HA := Lib.hid hA
      have G3 := Lib.hid (grown_trans G2.out (grown_below hb3))
      clear e2 hT hg2 k6 kt hb3 hR3 hR hA hp
      unfold tv
      go_wp2_with fail
      refine C5.out.mono ?_
      rintro e w4 ⟨rfl, hR4, hg4⟩
      have k7 := K6.out.grown hg4 (fun e => K6.out.ne_rd R3.out (by injection e with e; exact e.symm))
      have kt7 := KT.out.grown hg4 (fun e => KT.out.ne_rd R3.out (by injection e with e; exact e.symm))
      have c0 := k7.c0
      have c1 := k7.c1
      have c2 := k7.c2
      have c3 := k7.c3
      have f0 := k7.fr 0
      have f1 := k7.fr 1
      have f2 := k7.fr 2
      have f3 := k7.fr 3
      have t0 := kt7.c0
      have t1 := kt7.c1
      have t2 := kt7.c2
      have t3 := kt7.c3
      have hne := k7.ne_rd hR4
      have K7 := Lib.hid k7
      have G7 := Lib.hid (grown_trans G3.out hg4)
      have R4 := Lib.hid hR4
      have H4 := Lib.hid hg4
      clear k7 kt7 hR4 hg4
      go_wp2
      have q4 := K7.out.set4 (.int .i64 t.kind) (.string t.name) (.int .i64 t.n) (.slice a t.args.length c)
      have g4 := grown_set4 G7.out (Nat.le_refl _) (.int .i64 t.kind) (.string t.name) (.int .i64 t.n) (.slice a t.args.length c)
      have r4 := R4.out.set4 (Ne.symm hne) hN (.int .i64 t.kind) (.string t.name) (.int .i64 t.n) (.slice a t.args.length c)
      have hz4 := H4.out.size
      have ha4 := HA.out.keep (B := (((w4.setCell ⟨w.heap.size, 0, none⟩ (.int .i64 t.kind)).setCell ⟨w.heap.size, 1, none⟩ (.string t.name)).setCell ⟨w.heap.size, 2, none⟩ (.int .i64 t.n)).setCell ⟨w.heap.size, 3, none⟩ (.slice a t.args.length c)) (fun b hb => by
        obtain ⟨b1, b2⟩ := hb
        rw [Below.heap_setCell _ _ _ _ (by simp; omega), Below.heap_setCell _ _ _ _ (by simp; omega), Below.heap_setCell _ _ _ _ (by simp; omega), Below.heap_setCell _ _ _ _ (by simp; omega)]
        rw [H4.out.block b (by simp; omega) (fun e => by injection e; omega)]
        exact Below.heap_alloc _ _ _ b2)
      refine bodyPost_ret (v := .tuple #[tv t a c, .bool true]) (by simp [results, Tryd.results78, go_sem, tv, q4.c0, q4.c1, q4.c2, q4.c3]) rfl ?_
      rw [E2.out]
      refine ⟨g4, a, c, rfl, ha4.mono (fun b hb => ⟨by have := hb.1; omega, ?_⟩), r4⟩
      have := hb.2
      simp at hz4 ⊢
      omega

theorem atom_any (n N B : Nat) (w : World) (l : List Tok) (ih : Said n) (h : Rd N B w l) (hN : N ≤ w.heap.size) (hok : TokOk l) (hl : l.length ≤ 4000) (hn : 4 * l.length + 2 ≤ n + 1) : Calls Tryd.prog 78 #[.pointer (some ⟨B, 0, none⟩)] w (RdPost N B w (atomF (n + 1) l)) := by
  cases h1 : sk l 1
  · cases h2 : sk l 2
    · cases h3 : sk l 5
      · cases h4 : st l 6 lpar
        · exact atom_none n N B w l h h1 h2 h3 h4
        · exact atom_par n N B w l ih h hN hok hl hn h1 h2 h3 h4
      · exact atom_meta n N B w l h hN hok h1 h2 h3
    · exact atom_con n N B w l h hN h1 h2
  · exact atom_var n N B w l h hN h1

end Go.Proofs.YtifaaihekgnhiaaDoor.Tp

/- A row of types that the call appends to. -/
namespace Go.Proofs.YtifaaihekgnhiaaDoor.Tp
open Go.RowKit
open Lx

def cell4 (t : Ty) (sv : Value) : List Value := [.int .i64 t.kind, .string t.name, .int .i64 t.n, sv]
def cellsT (ts : List Ty) (svs : List Value) : List Value := (ts.zip svs).flatMap fun p => cell4 p.1 p.2

theorem cellsT_len : ∀ (ts : List Ty) (svs : List Value), svs.length = ts.length → (cellsT ts svs).length = ts.length * 4
  | [], _, _ => by simp [cellsT]
  | t :: ts, [], h => by simp at h
  | t :: ts, v :: svs, h => by
    have ih := cellsT_len ts svs (by simpa using h)
    have e : cellsT (t :: ts) (v :: svs) = cell4 t v ++ cellsT ts svs := rfl
    rw [e, List.length_append, ih, List.length_cons]
    simp only [cell4, List.length_cons, List.length_nil]
    omega

theorem cellsT_snoc : ∀ (ts : List Ty) (svs : List Value) (t : Ty) (v : Value), svs.length = ts.length → cellsT (ts ++ [t]) (svs ++ [v]) = cellsT ts svs ++ cell4 t v := by
  intro ts svs t v h
  unfold cellsT
  rw [List.zip_append h.symm, List.flatMap_append]
  simp

theorem cellsT_at : ∀ (ts : List Ty) (svs : List Value), svs.length = ts.length → ∀ (i : Nat) (h : i < ts.length) (h' : i < svs.length),
    (cellsT ts svs)[i * 4]? = some (.int .i64 ts[i].kind) ∧ (cellsT ts svs)[i * 4 + 1]? = some (.string ts[i].name) ∧ (cellsT ts svs)[i * 4 + 2]? = some (.int .i64 ts[i].n) ∧ (cellsT ts svs)[i * 4 + 3]? = some svs[i]
  | [], _, _, i, h, _ => by simp at h
  | t :: ts, [], hh, _, _, _ => by simp at hh
  | t :: ts, v :: svs, hh, i, h, h' => by
    have e : cellsT (t :: ts) (v :: svs) = .int .i64 t.kind :: .string t.name :: .int .i64 t.n :: v :: cellsT ts svs := rfl
    rw [e]
    cases i with
    | zero => exact ⟨rfl, rfl, rfl, rfl⟩
    | succ i =>
      have := cellsT_at ts svs (by simpa using hh) i (by simpa using h) (by simpa using h')
      rw [show (i + 1) * 4 = i * 4 + 1 + 1 + 1 + 1 by omega, show i * 4 + 1 + 1 + 1 + 1 + 1 = i * 4 + 1 + 1 + 1 + 1 + 1 from rfl, show i * 4 + 1 + 1 + 1 + 1 + 2 = i * 4 + 2 + 1 + 1 + 1 + 1 by omega, show i * 4 + 1 + 1 + 1 + 1 + 3 = i * 4 + 3 + 1 + 1 + 1 + 1 by omega]
      simp only [List.getElem?_cons_succ, List.getElem_cons_succ]
      exact this

/-- the row v, of memory from lo on, holds the types acc -/
structure Acc (lo : Nat) (w : World) (v : Value) (acc : List Ty) (svs : List Value) : Prop where
  own : w.ownsRow lo 25 4 v acc.length (cellsT acc svs)
  len : svs.length = acc.length
  at_ : ∀ (j : Nat) (t : Ty) (sv : Value), acc[j]? = some t → svs[j]? = some sv → ArgsAt (fun b => lo ≤ b ∧ b < w.heap.size ∧ v.ownBlock ≠ some b) w sv t.args

theorem Acc.nil (lo : Nat) (w : World) : Acc lo w (.slice none 0 0) [] [] := ⟨World.ownsRow_nil _ _ _ _, rfl, by simp⟩

theorem own_keep4 {w w' : World} {base : Nat} {e : TypeId} {size n : Nat} {v : Value} {xs : List Value} (h : w.ownsRow base e size v n xs) (hk : ∀ b, v.ownBlock = some b → w'.heap[b]? = w.heap[b]?) : w'.ownsRow base e size v n xs := by
  refine ⟨h.1, h.2.imp id ?_⟩
  rintro ⟨g, cap, cur, k1, k2, k3, k4⟩
  exact ⟨g, cap, cur, k1, k2, (hk g (by rw [k1]; rfl)).trans k3, k4⟩

/-- what leaves the blocks from lo on as they were -/
theorem Acc.keep {lo : Nat} {w w' : World} {v : Value} {acc : List Ty} {svs : List Value} (h : Acc lo w v acc svs) (hs : w.heap.size ≤ w'.heap.size) (hk : ∀ b, lo ≤ b → b < w.heap.size → w'.heap[b]? = w.heap[b]?) : Acc lo w' v acc svs :=
  ⟨own_keep4 h.own fun b hb => hk b (h.own.lt b hb).1 (h.own.lt b hb).2, h.len, fun j t sv h1 h2 => ((h.at_ j t sv h1 h2).keep fun b hb => hk b hb.1 hb.2.1).mono fun b hb => ⟨hb.1, by have := hb.2.1; omega, hb.2.2⟩⟩

/-- one more -/
theorem Acc.add {lo : Nat} {w w' : World} {v v' sv : Value} {acc : List Ty} {svs : List Value} {t : Ty} {S : Nat → Prop} (h : Acc lo w v acc svs) (hx : ArgsAt S w sv t.args) (hS : ∀ b, S b → lo ≤ b ∧ b < w.heap.size ∧ v.ownBlock ≠ some b)
    (hg : w.grownBy w' v.ownBlock) (ho : w'.ownsRow lo 25 4 v' (acc.length + 1) (cellsT acc svs ++ cell4 t sv)) (hat : ∀ b, v'.ownBlock = some b → v.ownBlock = some b ∨ w.heap.size ≤ b) : Acc lo w' v' (acc ++ [t]) (svs ++ [sv]) := by
  have kp : ∀ {S : Nat → Prop} {y : Value} {ts : List Ty}, (∀ b, S b → lo ≤ b ∧ b < w.heap.size ∧ v.ownBlock ≠ some b) → ArgsAt S w y ts → ArgsAt (fun b => lo ≤ b ∧ b < w'.heap.size ∧ v'.ownBlock ≠ some b) w' y ts := fun {S y ts} hS hy =>
    (hy.keep fun b hb => hg.block b (hS b hb).2.1 (Ne.symm (hS b hb).2.2)).mono fun b hb => ⟨(hS b hb).1, Nat.lt_of_lt_of_le (hS b hb).2.1 hg.size, fun e => by
      rcases hat b e with e | e
      · exact (hS b hb).2.2 e
      · have := (hS b hb).2.1; omega⟩
  refine ⟨by rw [cellsT_snoc _ _ _ _ h.len, List.length_append]; exact ho, by simp [h.len], fun j u y h1 h2 => ?_⟩
  rcases Nat.lt_or_ge j acc.length with hlt | hge
  · rw [List.getElem?_append_left hlt] at h1
    rw [List.getElem?_append_left (by rw [h.len]; exact hlt)] at h2
    exact kp (fun b hb => hb) (h.at_ j u y h1 h2)
  · have hj : j = acc.length := by
      have := (List.getElem?_eq_some_iff.1 h1).1
      simp at this; omega
    subst hj
    rw [List.getElem?_append_right (Nat.le_refl _)] at h1
    rw [← h.len, List.getElem?_append_right (Nat.le_refl _)] at h2
    simp at h1 h2
    subst h1 h2
    exact kp hS hx

theorem Acc.args {lo : Nat} {w : World} {v : Value} {acc : List Ty} {svs : List Value} (h : Acc lo w v acc svs) (hl : acc.length ≤ 4000) : ArgsAt (In lo w.heap.size) w v acc := by
  rcases h.own.2 with ⟨rfl, h0⟩ | ⟨g, cap, cur, rfl, hb, hg, h1, h2, h3, h4⟩
  · have : acc = [] := List.eq_nil_of_length_eq_zero h0
    subst this
    exact .nil _ _
  · refine .mk g 0 cap acc (fun i => svs.getD i (.slice none 0 0)) ⟨hb, (Array.getElem?_eq_some_iff.1 hg).1⟩ (by omega) (fun i hi => ?_) (fun i hi => ?_)
    · have hi' : i < svs.length := by rw [h.len]; exact hi
      obtain ⟨a0, a1, a2, a3⟩ := cellsT_at acc svs h.len i hi hi'
      have hc := h.own.cells (g := g) rfl
      have hadd : ∀ j, (⟨g, 0, none⟩ : Addr).add j = ⟨g, j, none⟩ := fun j => by unfold Addr.add; split <;> simp_all
      have b0 := hc _ _ a0
      have b1 := hc _ _ a1
      have b2 := hc _ _ a2
      have b3 := hc _ _ a3
      rw [hadd] at b0 b1 b2 b3
      simp only [Nat.zero_add]
      rw [List.getD_eq_getElem?_getD, List.getElem?_eq_getElem hi']
      exact ⟨b0, b1, b2, b3⟩
    · have hi' : i < svs.length := by rw [h.len]; exact hi
      simp only [List.getD_eq_getElem?_getD, List.getElem?_eq_getElem hi', Option.getD_some]
      exact (h.at_ i _ _ (List.getElem?_eq_getElem hi) (List.getElem?_eq_getElem hi')).mono fun b hb => ⟨hb.1, hb.2.1⟩

theorem infoTy : (Tryd.prog.info? 25).map (fun i => (i.zero, i.size, i.bytes)) = some (some (.agg #[.int .i64 0, .string ByteArray.empty, .int .i64 0, .slice none 0 0]), 4, 56) := by kernel_rfl

theorem own_form {w : World} {base size : Nat} {e : TypeId} {v : Value} {n : Nat} {xs : List Value} (h : w.ownsRow base e size v n xs) : ∃ a cap, v = .slice a n cap := by
  rcases h.2 with ⟨rfl, rfl⟩ | ⟨g, cap, cur, rfl, _⟩
  · exact ⟨_, _, rfl⟩
  · exact ⟨_, _, rfl⟩

end Go.Proofs.YtifaaihekgnhiaaDoor.Tp

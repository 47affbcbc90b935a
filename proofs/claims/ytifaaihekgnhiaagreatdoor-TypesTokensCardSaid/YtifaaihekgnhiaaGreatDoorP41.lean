/- Texts laid together: RfHold, RfMem2. -/
import Derived.Test.YtifaaihekgnhiaaGreatDoorP37
import Derived.Test.YtifaaihekgnhiaaGreatDoorP40
import Derived.Test.YtifaaihekgnhiaaGreatDoorP39

/- A type of the document's, held in a block, and what the functions tell of it. -/
namespace Go.Proofs.YtifaaihekgnhiaaGreatDoor.Tp
open Go.RowKit

/-- block b holds the type t, as the document has it, whose arguments lie below block n -/
structure HoldR (n b : Nat) (t : Ty) (a : Option Addr) (c : Nat) (W : World) : Prop where
  k : R4 W b (.int .i64 t.kind) (.string t.name) (.int .i64 t.n) (.slice a t.args.length c)
  h : ArgsAt (Lt n) W (.slice a t.args.length c) t.args
  lt : b < W.heap.size
  le : n ≤ W.heap.size
theorem HoldR.low {n b : Nat} {t : Ty} {a : Option Addr} {c : Nat} {W W' : World} (R : HoldR n b t a c W) (h : Below W.heap.size W W') : HoldR n b t a c W' :=
  ⟨R.k.low h, R.h.keep fun j hj => h.block j (Nat.lt_of_lt_of_le hj R.le), Nat.lt_of_lt_of_le R.lt h.size, Nat.le_trans R.le h.size⟩
theorem HoldR.of_parse {w W : World} {t : Ty} {a : Option Addr} {c : Nat} (h : ArgsAt (In w.heap.size W.heap.size) W (.slice a t.args.length c) t.args) :
    HoldR W.heap.size W.heap.size t a c (W.alloc (.cells #[.int .i64 t.kind, .string t.name, .int .i64 t.n, .slice a t.args.length c] 31)) :=
  ⟨R4.new W _ _ _ _, (h.mono fun b hb => hb.2).keep fun b hb => heap_alloc_old W _ hb, by simp, by simp⟩
theorem HoldR.of_at {W : World} {t : Ty} {a : Option Addr} {c : Nat} (h : AtW t a c W) :
    HoldR W.heap.size W.heap.size t a c (W.alloc (.cells #[.int .i64 t.kind, .string t.name, .int .i64 t.n, .slice a t.args.length c] 31)) :=
  ⟨R4.new W _ _ _ _, h.keep fun b hb => heap_alloc_old W _ hb, by simp, by simp⟩
theorem HoldR.at_ {n b : Nat} {t : Ty} {a : Option Addr} {c : Nat} {W : World} (R : HoldR n b t a c W) : AtW t a c W := R.h.mono fun _ hj => Nat.lt_of_lt_of_le hj R.le

def OkPostR (w : World) (t : Ty) (e : Ending) (w' : World) : Prop :=
  ∃ a c, e = .returned (.tuple #[.agg #[.int .i64 t.kind, .string t.name, .int .i64 t.n, .slice a t.args.length c], .int .i64 0]) ∧ Below w.heap.size w w' ∧
    HoldR w'.heap.size w'.heap.size t a c (w'.alloc (.cells #[.int .i64 t.kind, .string t.name, .int .i64 t.n, .slice a t.args.length c] 31)) ∧ Below w.heap.size w (w'.alloc (.cells #[.int .i64 t.kind, .string t.name, .int .i64 t.n, .slice a t.args.length c] 31))
def BadPostR (w : World) (er : Nat) (e : Ending) (w' : World) : Prop :=
  e = .returned (.tuple #[.agg #[.int .i64 0, .string ⟨#[]⟩, .int .i64 0, .slice none 0 0], .int .i64 er]) ∧ Below w.heap.size w w' ∧ Below w.heap.size w (w'.alloc (.cells #[.int .i64 0, .string ⟨#[]⟩, .int .i64 0, .slice none 0 0] 31))

theorem rparse_ok (w : World) (s : ByteArray) (hs : s.size ≤ maxLen) {t : Ty} (h : parseT s.data.toList = .ok t) : Calls Tryz.prog 9 #[.string s] w (OkPostR w t) := by
  have C := rparse_any w s hs
  rw [h] at C
  refine C.mono ?_
  rintro e w' ⟨hb, a, c, rfl, hA⟩
  exact ⟨a, c, rfl, hb, .of_parse hA, hb.trans (((Below.refl _ _).alloc (Nat.le_refl _) _).mono hb.size)⟩
theorem rparse_bad (w : World) (s : ByteArray) (hs : s.size ≤ maxLen) {er : Nat} (h : parseT s.data.toList = .error er) : Calls Tryz.prog 9 #[.string s] w (BadPostR w er) := by
  have C := rparse_any w s hs
  rw [h] at C
  refine C.mono ?_
  rintro e w' ⟨hb, rfl⟩
  exact ⟨rfl, hb, hb.trans (((Below.refl _ _).alloc (Nat.le_refl _) _).mono hb.size)⟩
/-- whatever the document's Parse tells -/
def SomePostR (w : World) (e : Ending) (w' : World) : Prop :=
  ∃ (k n : Int) (s : ByteArray) (a : Option Addr) (l c er : Nat), e = .returned (.tuple #[.agg #[.int .i64 k, .string s, .int .i64 n, .slice a l c], .int .i64 er]) ∧ Below w.heap.size w (w'.alloc (.cells #[.int .i64 k, .string s, .int .i64 n, .slice a l c] 31))
theorem rparse_some (w : World) (s : ByteArray) (hs : s.size ≤ maxLen) : Calls Tryz.prog 9 #[.string s] w (SomePostR w) := by
  cases h : parseT s.data.toList with
  | error er =>
    refine (rparse_bad w s hs h).mono ?_
    rintro e w' ⟨rfl, _, hB⟩
    exact ⟨0, 0, _, none, 0, 0, er, rfl, hB⟩
  | ok t =>
    refine (rparse_ok w s hs h).mono ?_
    rintro e w' ⟨a, c, rfl, _, _, hB⟩
    exact ⟨_, _, _, a, _, c, 0, rfl, hB⟩

theorem rprint_h {t : Ty} {a : Option Addr} {c : Nat} {W : World} (R : AtW t a c W) (hs : Small t) :
    Calls Tryz.prog 12 #[.agg #[.int .i64 t.kind, .string t.name, .int .i64 t.n, .slice a t.args.length c]] W (StrPost W (printT t)) :=
  rprint_any t _ a c W R (fun _ h => h) hs.1.1 (by have := printT_len t hs.1; have := hs.2; omega)
theorem rdepth_h {t : Ty} {a : Option Addr} {c : Nat} {W : World} (R : AtW t a c W) (hd : t.depth ≤ 100000) :
    Calls Tryz.prog 29 #[.agg #[.int .i64 t.kind, .string t.name, .int .i64 t.n, .slice a t.args.length c]] W (IntPost W t.depth) :=
  rdepth_any t _ a c W R (fun _ h => h) hd
theorem rpoly_h {t : Ty} {a : Option Addr} {c : Nat} {W : World} (R : AtW t a c W) :
    Calls Tryz.prog 30 #[.agg #[.int .i64 t.kind, .string t.name, .int .i64 t.n, .slice a t.args.length c]] W (BoolPost W (polyT t)) :=
  rpoly_any t _ a c W R (fun _ h => h)
theorem rfree_h {t : Ty} {a : Option Addr} {c : Nat} {W : World} (R : AtW t a c W) (hs : Small t) :
    Calls Tryz.prog 23 #[.agg #[.int .i64 t.kind, .string t.name, .int .i64 t.n, .slice a t.args.length c]] W (FreePostR W (freeT t)) :=
  rFree_any t _ a c W R (fun _ h => h) hs.1.1 (by have := hs.2; omega)
theorem rmetas_h {t : Ty} {a : Option Addr} {c : Nat} {W : World} (R : AtW t a c W) (hs : Small t) :
    Calls Tryz.prog 26 #[.agg #[.int .i64 t.kind, .string t.name, .int .i64 t.n, .slice a t.args.length c]] W (MetasPostR W (metasT t)) :=
  rMetas_any t _ a c W R (fun _ h => h) hs.1.1 (by have := hs.2; omega)

end Go.Proofs.YtifaaihekgnhiaaGreatDoor.Tp

/- Memory of the document's numbered and put. -/
namespace Go.Proofs.YtifaaihekgnhiaaGreatDoor.Tp
open Go.RowKit

/-- two cells, a block of their own -/
def R2 (w : World) (b : Nat) (c0 c1 : Value) : Prop := w.heap[b]? = some (.cells #[c0, c1] 63 (0, 0))
section
variable {w w' : World} {b : Nat} {u0 u1 : Value}
theorem R2.c0 (h : R2 w b u0 u1) : w.cell? ⟨b, 0, none⟩ = some u0 := cell_of_row w b 0 _ _ _ h
theorem R2.c1 (h : R2 w b u0 u1) : w.cell? ⟨b, 1, none⟩ = some u1 := cell_of_row w b 1 _ _ _ h
theorem R2.fr (h : R2 w b u0 u1) (i : Nat) : w.frozen? ⟨b, i, none⟩ = false := by unfold R2 at h; simp [World.frozen?, h]
theorem R2.lt (h : R2 w b u0 u1) : b < w.heap.size := (Array.getElem?_eq_some_iff.1 h).1
theorem R2.new (w : World) (u0 u1 : Value) : R2 (w.alloc (.cells #[u0, u1] 63)) w.heap.size u0 u1 := heap_alloc_new w _
theorem R2.low (h : R2 w b u0 u1) (hb : Below w.heap.size w w') : R2 w' b u0 u1 := (hb.block b h.lt).trans h
theorem R2.set0 (h : R2 w b u0 u1) (v : Value) : R2 (w.setCell ⟨b, 0, none⟩ v) b v u1 := set_row0 h v
theorem R2.set1 (h : R2 w b u0 u1) (v : Value) : R2 (w.setCell ⟨b, 1, none⟩ v) b u0 v := set_row0 h v
end
theorem R4.set1 {w : World} {b : Nat} {u0 u1 u2 u3 : Value} (h : R4 w b u0 u1 u2 u3) (v : Value) : R4 (w.setCell ⟨b, 1, none⟩ v) b u0 v u2 u3 := set_row0 h v
theorem R4.set3 {w : World} {b : Nat} {u0 u1 u2 u3 : Value} (h : R4 w b u0 u1 u2 u3) (v : Value) : R4 (w.setCell ⟨b, 3, none⟩ v) b u0 u1 u2 v := set_row0 h v

/-- the row v, of memory from lo on, holds the types acc; their arguments lie in blocks of S, or from lo on, but not in it -/
structure RAny (S : Nat → Prop) (lo : Nat) (w : World) (v : Value) (acc : List Ty) (svs : List Value) : Prop where
  own : w.ownsRow lo 31 4 v acc.length (cellsT acc svs)
  len : svs.length = acc.length
  at_ : ∀ (j : Nat) (t : Ty) (sv : Value), acc[j]? = some t → svs[j]? = some sv → ArgsAt (fun b => (S b ∨ lo ≤ b) ∧ b < w.heap.size ∧ v.ownBlock ≠ some b) w sv t.args

section
variable {S : Nat → Prop} {lo : Nat} {w w' : World} {v : Value} {acc : List Ty} {svs : List Value}
theorem RAny.nil (S : Nat → Prop) (lo : Nat) (w : World) : RAny S lo w (.slice none 0 0) [] [] := ⟨World.ownsRow_nil _ _ _ _, rfl, by simp⟩
theorem RAny.low (h : RAny S lo w v acc svs) (hb : Below w.heap.size w w') : RAny S lo w' v acc svs :=
  ⟨own_keep4 h.own fun b hq => hb.block b (h.own.lt b hq).2, h.len, fun j t sv h1 h2 => ((h.at_ j t sv h1 h2).keep fun b hq => hb.block b hq.2.1).mono fun _ hq => ⟨hq.1, Nat.lt_of_lt_of_le hq.2.1 hb.size, hq.2.2⟩⟩
/-- a cell of another block is written -/
theorem RAny.off (h : RAny S lo w v acc svs) {O : Nat} (hO : O < lo) (hS : ∀ b, S b → b < O) (i : Nat) (u : Value) : RAny S lo (w.setCell ⟨O, i, none⟩ u) v acc svs := by
  have hk : ∀ b, b ≠ O → (w.setCell ⟨O, i, none⟩ u).heap[b]? = w.heap[b]? := fun b hb => Below.heap_setCell w _ u b (fun e => hb e)
  refine ⟨own_keep4 h.own fun b hq => hk b (by have := (h.own.lt b hq).1; omega), h.len, fun j t sv h1 h2 => ((h.at_ j t sv h1 h2).keep fun b hq => hk b ?_).mono fun b hq => ⟨hq.1, by simpa using hq.2.1, hq.2.2⟩⟩
  rcases hq.1 with hq | hq
  · have := hS b hq; omega
  · omega
/-- one more -/
theorem RAny.push (h : RAny S lo w v acc svs) (hlo : lo ≤ w.heap.size) (hl : acc.length ≤ 1000000000000) {t : Ty} {a : Option Addr} {c : Nat} (hx : ArgsAt (fun b => (S b ∨ lo ≤ b) ∧ b < w.heap.size ∧ v.ownBlock ≠ some b) w (.slice a t.args.length c) t.args) :
    ∃ v' w', (Builtin.append_ #[29, 29] 29 #[v, .slice (some ⟨w.heap.size, 0, none⟩) 1 1]).run Tryz.prog (w.alloc (.cells #[.int .i64 t.kind, .string t.name, .int .i64 t.n, .slice a t.args.length c] 31)) = .ok v' w' ∧
      RAny S lo w' v' (acc ++ [t]) (svs ++ [.slice a t.args.length c]) ∧ w.grownBy w' v.ownBlock ∧ w.heap.size < w'.heap.size := by
  obtain ⟨i0, hi0, hz0, hz1, hz3⟩ := info_parts infoRf
  have hg0 : w.grownBy (w.alloc (.cells #[.int .i64 t.kind, .string t.name, .int .i64 t.n, .slice a t.args.length c] 31)) v.ownBlock := ⟨rfl, rfl, rfl, by simp, fun k hk _ => heap_alloc_old w _ hk⟩
  obtain ⟨g, cap, w', hr, ho, hg, hat, hlt⟩ := run_append_lies (P := Tryz.prog) (w := w.alloc (.cells #[.int .i64 t.kind, .string t.name, .int .i64 t.n, .slice a t.args.length c] 31)) 29 29 lo 31 i0 _ 4 56 Tryz.underlying29 hi0 hz0 hz1 hz3 rfl (by omega) v acc.length (cellsT acc svs) (h.own.alloc _) ⟨w.heap.size, 0, none⟩ 1 1
    (cell4 t (.slice a t.args.length c)) rfl (World.news_of_block (cs := #[.int .i64 t.kind, .string t.name, .int .i64 t.n, .slice a t.args.length c]) (t := 31) (fr := (0, 0)) (heap_alloc_new w _)) (by simp [cell4, Value.oneCell']) (by omega) (by unfold maxLen; omega) (by omega) (by simp; omega) (w.heap.size + 1) (by simp)
  have hgg : w.grownBy w' v.ownBlock := ⟨hg.os.trans hg0.os, hg.tape.trans hg0.tape, hg.output.trans hg0.output, Nat.le_trans hg0.size hg.size, fun k hk hne => (hg.block k (by simp; omega) hne).trans (hg0.block k hk hne)⟩
  have hsz := hg.size
  simp only [World.size_alloc] at hsz
  have kp : ∀ {y : Value} {ts : List Ty}, ArgsAt (fun b => (S b ∨ lo ≤ b) ∧ b < w.heap.size ∧ v.ownBlock ≠ some b) w y ts → ArgsAt (fun b => (S b ∨ lo ≤ b) ∧ b < w'.heap.size ∧ (Value.slice (some ⟨g, 0, none⟩) (acc.length + 1) cap).ownBlock ≠ some b) w' y ts := fun hy =>
    (hy.keep fun b hb => hgg.block b hb.2.1 (Ne.symm hb.2.2)).mono fun b hb => ⟨hb.1, by omega, fun e => by
      have e2 : g = b := by simpa [Value.ownBlock] using e
      rcases hat with e3 | e3
      · exact hb.2.2 (by rw [e3, e2])
      · have := hb.2.1; omega⟩
  refine ⟨_, w', hr, ⟨by rw [cellsT_snoc _ _ _ _ h.len, List.length_append]; exact ho, by simp [h.len], fun j u y h1 h2 => ?_⟩, hgg, by omega⟩
  rcases Nat.lt_or_ge j acc.length with hj | hge
  · rw [List.getElem?_append_left hj] at h1
    rw [List.getElem?_append_left (by rw [h.len]; exact hj)] at h2
    exact kp (h.at_ j u y h1 h2)
  · have hj : j = acc.length := by
      have := (List.getElem?_eq_some_iff.1 h1).1
      simp at this; omega
    subst hj
    rw [List.getElem?_append_right (Nat.le_refl _)] at h1
    rw [← h.len, List.getElem?_append_right (Nat.le_refl _)] at h2
    simp at h1 h2
    subst h1 h2
    exact kp hx
theorem RAny.args (h : RAny S lo w v acc svs) : ArgsAt (fun b => (S b ∨ lo ≤ b) ∧ b < w.heap.size) w v acc := by
  rcases h.own.2 with ⟨rfl, h0⟩ | ⟨g, cap, cur, rfl, hb, hg, h1, h2, h3, h4⟩
  · have : acc = [] := List.eq_nil_of_length_eq_zero h0
    subst this
    exact .nil _ _
  · refine .mk g 0 cap acc (fun i => svs.getD i (.slice none 0 0)) ⟨.inr hb, (Array.getElem?_eq_some_iff.1 hg).1⟩ (by unfold maxLen at h2; omega) (fun i hi => ?_) (fun i hi => ?_)
    · have hi' : i < svs.length := by rw [h.len]; exact hi
      obtain ⟨a0, a1, a2, a3⟩ := cellsT_at acc svs h.len i hi hi'
      have hc := h.own.cells (g := g) rfl
      have b0 := hc _ _ a0
      have b1 := hc _ _ a1
      have b2 := hc _ _ a2
      have b3 := hc _ _ a3
      rw [addr_add0] at b0 b1 b2 b3
      simp only [Nat.zero_add] at b0 b1 b2 b3 ⊢
      rw [List.getD_eq_getElem?_getD, List.getElem?_eq_getElem hi']
      exact ⟨b0, b1, b2, b3⟩
    · have hi' : i < svs.length := by rw [h.len]; exact hi
      simp only [List.getD_eq_getElem?_getD, List.getElem?_eq_getElem hi', Option.getD_some]
      exact (h.at_ i _ _ (List.getElem?_eq_getElem hi) (List.getElem?_eq_getElem hi')).mono fun b hb => ⟨hb.1, hb.2.1⟩
theorem RAny.form (h : RAny S lo w v acc svs) : ∃ a c, v = .slice a acc.length c := own_form h.own
end

end Go.Proofs.YtifaaihekgnhiaaGreatDoor.Tp

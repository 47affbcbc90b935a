/- Texts laid together: TyAcc, TyFreshP, RfMem, RfIs. -/
import Derived.Test.YtofllmemmggapaaGreatDoorP05
import Derived.Deep.AppendLies
import Derived.OwnWalk
import Derived.Maps.OwnRows
import Derived.Deep.LoopGhost
import Derived.Test.YtofllmemmggapaaGreatDoorP02
import Derived.Test.YtofllmemmggapaaGreatDoorP07

/- A row of types that the call appends to. -/
namespace Go.Proofs.YtofllmemmggapaaGreatDoor.Tp
open Go.RowKit
open Lx

def cell4 (t : Ty) (sv : Value) : List Value := [.int .i64 t.kind, .string t.name, .int .i64 t.n, sv]
def cellsT (ts : List Ty) (svs : List Value) : List Value := (ts.zip svs).flatMap fun p => cell4 p.1 p.2

theorem cellsT_len : ∀ (ts : List Ty) (svs : List Value), svs.length = ts.length → (cellsT ts svs).length = ts.length * 4
  | [], _, _ => by simp [cellsT]
  | t :: ts, [], h => by simp at h
  | t :: ts, v :: svs, h => by
    have ih := cellsT_len ts svs (by simpa using h)
    have e : cellsT (t :: ts) (v :: svs) = cell4 t v ++ cellsT ts svs := rfl
    rw [e, List.length_append, ih, List.length_cons]
    simp only [cell4, List.length_cons, List.length_nil]
    omega

theorem cellsT_snoc : ∀ (ts : List Ty) (svs : List Value) (t : Ty) (v : Value), svs.length = ts.length → cellsT (ts ++ [t]) (svs ++ [v]) = cellsT ts svs ++ cell4 t v := by
  intro ts svs t v h
  unfold cellsT
  rw [List.zip_append h.symm, List.flatMap_append]
  simp

theorem cellsT_at : ∀ (ts : List Ty) (svs : List Value), svs.length = ts.length → ∀ (i : Nat) (h : i < ts.length) (h' : i < svs.length),
    (cellsT ts svs)[i * 4]? = some (.int .i64 ts[i].kind) ∧ (cellsT ts svs)[i * 4 + 1]? = some (.string ts[i].name) ∧ (cellsT ts svs)[i * 4 + 2]? = some (.int .i64 ts[i].n) ∧ (cellsT ts svs)[i * 4 + 3]? = some svs[i]
  | [], _, _, i, h, _ => by simp at h
  | t :: ts, [], hh, _, _, _ => by simp at hh
  | t :: ts, v :: svs, hh, i, h, h' => by
    have e : cellsT (t :: ts) (v :: svs) = .int .i64 t.kind :: .string t.name :: .int .i64 t.n :: v :: cellsT ts svs := rfl
    rw [e]
    cases i with
    | zero => exact ⟨rfl, rfl, rfl, rfl⟩
    | succ i =>
      have := cellsT_at ts svs (by simpa using hh) i (by simpa using h) (by simpa using h')
      rw [show (i + 1) * 4 = i * 4 + 1 + 1 + 1 + 1 by omega, show i * 4 + 1 + 1 + 1 + 1 + 1 = i * 4 + 1 + 1 + 1 + 1 + 1 from rfl, show i * 4 + 1 + 1 + 1 + 1 + 2 = i * 4 + 2 + 1 + 1 + 1 + 1 by omega, show i * 4 + 1 + 1 + 1 + 1 + 3 = i * 4 + 3 + 1 + 1 + 1 + 1 by omega]
      simp only [List.getElem?_cons_succ, List.getElem_cons_succ]
      exact this

/-- the row v, of memory from lo on, holds the types acc -/
structure Acc (lo : Nat) (w : World) (v : Value) (acc : List Ty) (svs : List Value) : Prop where
  own : w.ownsRow lo 26 4 v acc.length (cellsT acc svs)
  len : svs.length = acc.length
  at_ : ∀ (j : Nat) (t : Ty) (sv : Value), acc[j]? = some t → svs[j]? = some sv → ArgsAt (fun b => lo ≤ b ∧ b < w.heap.size ∧ v.ownBlock ≠ some b) w sv t.args

theorem Acc.nil (lo : Nat) (w : World) : Acc lo w (.slice none 0 0) [] [] := ⟨World.ownsRow_nil _ _ _ _, rfl, by simp⟩

theorem own_keep4 {w w' : World} {base : Nat} {e : TypeId} {size n : Nat} {v : Value} {xs : List Value} (h : w.ownsRow base e size v n xs) (hk : ∀ b, v.ownBlock = some b → w'.heap[b]? = w.heap[b]?) : w'.ownsRow base e size v n xs := by
  refine ⟨h.1, h.2.imp id ?_⟩
  rintro ⟨g, cap, cur, k1, k2, k3, k4⟩
  exact ⟨g, cap, cur, k1, k2, (hk g (by rw [k1]; rfl)).trans k3, k4⟩

/-- what leaves the blocks from lo on as they were -/
theorem Acc.keep {lo : Nat} {w w' : World} {v : Value} {acc : List Ty} {svs : List Value} (h : Acc lo w v acc svs) (hs : w.heap.size ≤ w'.heap.size) (hk : ∀ b, lo ≤ b → b < w.heap.size → w'.heap[b]? = w.heap[b]?) : Acc lo w' v acc svs :=
  ⟨own_keep4 h.own fun b hb => hk b (h.own.lt b hb).1 (h.own.lt b hb).2, h.len, fun j t sv h1 h2 => ((h.at_ j t sv h1 h2).keep fun b hb => hk b hb.1 hb.2.1).mono fun b hb => ⟨hb.1, by have := hb.2.1; omega, hb.2.2⟩⟩

/-- one more -/
theorem Acc.add {lo : Nat} {w w' : World} {v v' sv : Value} {acc : List Ty} {svs : List Value} {t : Ty} {S : Nat → Prop} (h : Acc lo w v acc svs) (hx : ArgsAt S w sv t.args) (hS : ∀ b, S b → lo ≤ b ∧ b < w.heap.size ∧ v.ownBlock ≠ some b)
    (hg : w.grownBy w' v.ownBlock) (ho : w'.ownsRow lo 26 4 v' (acc.length + 1) (cellsT acc svs ++ cell4 t sv)) (hat : ∀ b, v'.ownBlock = some b → v.ownBlock = some b ∨ w.heap.size ≤ b) : Acc lo w' v' (acc ++ [t]) (svs ++ [sv]) := by
  have kp : ∀ {S : Nat → Prop} {y : Value} {ts : List Ty}, (∀ b, S b → lo ≤ b ∧ b < w.heap.size ∧ v.ownBlock ≠ some b) → ArgsAt S w y ts → ArgsAt (fun b => lo ≤ b ∧ b < w'.heap.size ∧ v'.ownBlock ≠ some b) w' y ts := fun {S y ts} hS hy =>
    (hy.keep fun b hb => hg.block b (hS b hb).2.1 (Ne.symm (hS b hb).2.2)).mono fun b hb => ⟨(hS b hb).1, Nat.lt_of_lt_of_le (hS b hb).2.1 hg.size, fun e => by
      rcases hat b e with e | e
      · exact (hS b hb).2.2 e
      · have := (hS b hb).2.1; omega⟩
  refine ⟨by rw [cellsT_snoc _ _ _ _ h.len, List.length_append]; exact ho, by simp [h.len], fun j u y h1 h2 => ?_⟩
  rcases Nat.lt_or_ge j acc.length with hlt | hge
  · rw [List.getElem?_append_left hlt] at h1
    rw [List.getElem?_append_left (by rw [h.len]; exact hlt)] at h2
    exact kp (fun b hb => hb) (h.at_ j u y h1 h2)
  · have hj : j = acc.length := by
      have := (List.getElem?_eq_some_iff.1 h1).1
      simp at this; omega
    subst hj
    rw [List.getElem?_append_right (Nat.le_refl _)] at h1
    rw [← h.len, List.getElem?_append_right (Nat.le_refl _)] at h2
    simp at h1 h2
    subst h1 h2
    exact kp hS hx

theorem Acc.args {lo : Nat} {w : World} {v : Value} {acc : List Ty} {svs : List Value} (h : Acc lo w v acc svs) (hl : acc.length ≤ 4000) : ArgsAt (In lo w.heap.size) w v acc := by
  rcases h.own.2 with ⟨rfl, h0⟩ | ⟨g, cap, cur, rfl, hb, hg, h1, h2, h3, h4⟩
  · have : acc = [] := List.eq_nil_of_length_eq_zero h0
    subst this
    exact .nil _ _
  · refine .mk g 0 cap acc (fun i => svs.getD i (.slice none 0 0)) ⟨hb, (Array.getElem?_eq_some_iff.1 hg).1⟩ (by omega) (fun i hi => ?_) (fun i hi => ?_)
    · have hi' : i < svs.length := by rw [h.len]; exact hi
      obtain ⟨a0, a1, a2, a3⟩ := cellsT_at acc svs h.len i hi hi'
      have hc := h.own.cells (g := g) rfl
      have hadd : ∀ j, (⟨g, 0, none⟩ : Addr).add j = ⟨g, j, none⟩ := fun j => by unfold Addr.add; split <;> simp_all
      have b0 := hc _ _ a0
      have b1 := hc _ _ a1
      have b2 := hc _ _ a2
      have b3 := hc _ _ a3
      rw [hadd] at b0 b1 b2 b3
      simp only [Nat.zero_add]
      rw [List.getD_eq_getElem?_getD, List.getElem?_eq_getElem hi']
      exact ⟨b0, b1, b2, b3⟩
    · have hi' : i < svs.length := by rw [h.len]; exact hi
      simp only [List.getD_eq_getElem?_getD, List.getElem?_eq_getElem hi', Option.getD_some]
      exact (h.at_ i _ _ (List.getElem?_eq_getElem hi) (List.getElem?_eq_getElem hi')).mono fun b hb => ⟨hb.1, hb.2.1⟩

theorem infoTy : (Tryz.prog.info? 26).map (fun i => (i.zero, i.size, i.bytes)) = some (some (.agg #[.int .i64 0, .string ByteArray.empty, .int .i64 0, .slice none 0 0]), 4, 56) := by kernel_rfl

theorem own_form {w : World} {base size : Nat} {e : TypeId} {v : Value} {n : Nat} {xs : List Value} (h : w.ownsRow base e size v n xs) : ∃ a cap, v = .slice a n cap := by
  rcases h.2 with ⟨rfl, rfl⟩ | ⟨g, cap, cur, rfl, _⟩
  · exact ⟨_, _, rfl⟩
  · exact ⟨_, _, rfl⟩

end Go.Proofs.YtofllmemmggapaaGreatDoor.Tp

/- Names that are not yet there. No program in sight. -/
namespace Go.Proofs.YtofllmemmggapaaGreatDoor.Tp

theorem numL_snoc (l : List UInt8) (c : UInt8) : numL (l ++ [c]) = 10 * numL l + (c.toNat - 48) := by simp [numL, List.foldl_append]
theorem numL_dec (u : Nat) : numL (Lib.decDigits u) = u := by
  induction u using Nat.strongRecOn with
  | _ u ih =>
    rw [Lib.decDigits]
    have dig : ∀ d, d < 10 → (UInt8.ofNat (48 + d)).toNat - 48 = d := fun d hd => by
      rw [UInt8.toNat_ofNat']; omega
    split
    · next h => simp only [numL, List.foldl_cons, List.foldl_nil]; rw [dig u h]; omega
    · next h => rw [numL_snoc, ih (u / 10) (by omega), dig (u % 10) (by omega)]; omega
theorem itoa_inj {a b : Nat} (h : Lib.itoa (a : Int) = Lib.itoa (b : Int)) : a = b := by
  rw [Lib.itoa_nonneg, Lib.itoa_nonneg] at h
  rw [← numL_dec a, h, numL_dec]

/-- a canonical name -/
def xname (n : Nat) : ByteArray := ⟨#[120]⟩ ++ bytes (Lib.itoa (n : Int))
/-- a fresh name -/
def fname (nm : ByteArray) (i : Nat) : ByteArray := nm.extract 0 1 ++ ⟨#[95]⟩ ++ bytes (Lib.itoa (i : Int))

theorem bytes_inj {a b : List UInt8} (h : bytes a = bytes b) : a = b := by
  have := congrArg (fun x => x.data.toList) h
  exact this
theorem app_inj {p a b : ByteArray} (h : p ++ a = p ++ b) : a = b := by
  have := congrArg (fun x => x.data.toList) h
  simp at this
  exact ByteArray.ext this
theorem xname_inj {a b : Nat} (h : xname a = xname b) : a = b := itoa_inj (bytes_inj (app_inj h))
theorem fname_inj {nm : ByteArray} {a b : Nat} (h : fname nm a = fname nm b) : a = b := itoa_inj (bytes_inj (app_inj h))

theorem hasN_false (l : List ByteArray) (x : ByteArray) : hasN l x = false ↔ x ∉ l := by
  rw [← Bool.not_eq_true, hasN_iff]

/-- the first number from i on whose name is not there -/
def firstN (f : Nat → ByteArray) (but : List ByteArray) : Nat → Nat → Nat
  | 0, i => i
  | k + 1, i => if hasN but (f i) then firstN f but k (i + 1) else i

/-- as many names that differ are not in a shorter list -/
theorem pigeon (f : Nat → ByteArray) (hf : ∀ a b, f a = f b → a = b) : ∀ (k : Nat) (but : List ByteArray) (i : Nat), (∀ j, j < k → f (i + j) ∈ but) → k ≤ but.length := by
  intro k
  induction k with
  | zero => intro but i _; omega
  | succ k ih =>
    intro but i h
    have h1 := ih (but.filter fun y => decide (y.data ≠ (f i).data)) (i + 1) fun j hj => by
      refine List.mem_filter.2 ⟨by have := h (j + 1) (by omega); rwa [show i + (j + 1) = i + 1 + j by omega] at this, ?_⟩
      simp only [decide_eq_true_eq]
      intro e
      have := hf _ _ (ByteArray.ext e)
      omega
    have h2 : (but.filter fun y => decide (y.data ≠ (f i).data)).length < but.length :=
      List.length_filter_lt_length_iff_exists.2 ⟨f i, by simpa using h 0 (by omega), by simp⟩
    omega

theorem firstN_eq (f : Nat → ByteArray) (but : List ByteArray) : ∀ (k i r : Nat), i ≤ r → r < i + k → (∀ j, i ≤ j → j < r → hasN but (f j) = true) → hasN but (f r) = false → firstN f but k i = r := by
  intro k
  induction k with
  | zero => intro i r h1 h2; omega
  | succ k ih =>
    intro i r h1 h2 h3 h4
    rw [firstN]
    by_cases e : i = r
    · subst e; rw [h4]; rfl
    · rw [if_pos (h3 i (Nat.le_refl _) (by omega))]
      exact ih (i + 1) r (by omega) (by omega) (fun j hj hj' => h3 j (by omega) hj') h4

/-- there is one -/
theorem firstN_ex (f : Nat → ByteArray) (hf : ∀ a b, f a = f b → a = b) (but : List ByteArray) (i : Nat) : ∃ r, i ≤ r ∧ r ≤ i + but.length ∧ (∀ j, i ≤ j → j < r → hasN but (f j) = true) ∧ hasN but (f r) = false := by
  have key : ∀ n, (∃ r, i ≤ r ∧ r < i + n ∧ (∀ j, i ≤ j → j < r → hasN but (f j) = true) ∧ hasN but (f r) = false) ∨ ∀ j, j < n → hasN but (f (i + j)) = true := by
    intro n
    induction n with
    | zero => exact .inr fun j hj => by omega
    | succ n ih =>
      rcases ih with ⟨r, h1, h2, h3⟩ | h
      · exact .inl ⟨r, h1, by omega, h3⟩
      · cases hb : hasN but (f (i + n)) with
        | false =>
          refine .inl ⟨i + n, by omega, by omega, fun j hj hj' => ?_, hb⟩
          have := h (j - i) (by omega)
          rwa [show i + (j - i) = j by omega] at this
        | true =>
          refine .inr fun j hj => ?_
          by_cases e : j = n
          · subst e; exact hb
          · exact h j (by omega)
  rcases key (but.length + 1) with ⟨r, h1, h2, h3, h4⟩ | h
  · exact ⟨r, h1, by omega, h3, h4⟩
  · have := pigeon f hf (but.length + 1) but i fun j hj => (hasN_iff _ _).1 (h j hj)
    omega

theorem firstN_spec (f : Nat → ByteArray) (hf : ∀ a b, f a = f b → a = b) (but : List ByteArray) (i : Nat) :
    i ≤ firstN f but (but.length + 1) i ∧ firstN f but (but.length + 1) i ≤ i + but.length ∧ (∀ j, i ≤ j → j < firstN f but (but.length + 1) i → hasN but (f j) = true) ∧ hasN but (f (firstN f but (but.length + 1) i)) = false := by
  obtain ⟨r, h1, h2, h3, h4⟩ := firstN_ex f hf but i
  rw [firstN_eq f but (but.length + 1) i r h1 (by omega) h3 h4]
  exact ⟨h1, h2, h3, h4⟩

/-- a name that none of these is -/
def freshT (nm : ByteArray) (but : List ByteArray) : ByteArray := fname nm (firstN (fname nm) but (but.length + 1) 0)
/-- the next number of a canonical name -/
def nextN (free : List ByteArray) (n : Nat) : Nat := firstN xname free (free.length + 1) n

theorem freshT_not (nm : ByteArray) (but : List ByteArray) : freshT nm but ∉ but := (hasN_false _ _).1 (firstN_spec (fname nm) (fun _ _ => fname_inj) but 0).2.2.2
theorem nextN_not (free : List ByteArray) (n : Nat) : xname (nextN free n) ∉ free := (hasN_false _ _).1 (firstN_spec xname (fun _ _ => xname_inj) free n).2.2.2

end Go.Proofs.YtofllmemmggapaaGreatDoor.Tp

/- Memory of the document's types: blocks, rows. (Lines of TyAtom, TyAcc, for the other type.) -/
namespace Go.Proofs.YtofllmemmggapaaGreatDoor.Tp
open Go.RowKit
open Lx

/-- four cells of a type's struct, a block of their own -/
def R4 (w : World) (b : Nat) (c0 c1 c2 c3 : Value) : Prop := w.heap[b]? = some (.cells #[c0, c1, c2, c3] 29 (0, 0))

section
variable {w w' : World} {b : Nat} {u0 u1 u2 u3 : Value}
theorem R4.c0 (h : R4 w b u0 u1 u2 u3) : w.cell? ⟨b, 0, none⟩ = some u0 := cell_of_row w b 0 _ _ _ h
theorem R4.c1 (h : R4 w b u0 u1 u2 u3) : w.cell? ⟨b, 1, none⟩ = some u1 := cell_of_row w b 1 _ _ _ h
theorem R4.c2 (h : R4 w b u0 u1 u2 u3) : w.cell? ⟨b, 2, none⟩ = some u2 := cell_of_row w b 2 _ _ _ h
theorem R4.c3 (h : R4 w b u0 u1 u2 u3) : w.cell? ⟨b, 3, none⟩ = some u3 := cell_of_row w b 3 _ _ _ h
theorem R4.fr (h : R4 w b u0 u1 u2 u3) (i : Nat) : w.frozen? ⟨b, i, none⟩ = false := by unfold R4 at h; simp [World.frozen?, h]
theorem R4.lt (h : R4 w b u0 u1 u2 u3) : b < w.heap.size := (Array.getElem?_eq_some_iff.1 h).1
theorem R4.new (w : World) (u0 u1 u2 u3 : Value) : R4 (w.alloc (.cells #[u0, u1, u2, u3] 29)) w.heap.size u0 u1 u2 u3 := heap_alloc_new w _
theorem R4.grown {r : Option Nat} (h : R4 w b u0 u1 u2 u3) (hg : w.grownBy w' r) (hr : r ≠ some b) : R4 w' b u0 u1 u2 u3 := (hg.block b h.lt (Ne.symm hr)).trans h
theorem R4.low (h : R4 w b u0 u1 u2 u3) (hb : Below w.heap.size w w') : R4 w' b u0 u1 u2 u3 := (hb.block b h.lt).trans h
end

theorem R4.set4 {w : World} {b : Nat} {u0 u1 u2 u3 : Value} (h : R4 w b u0 u1 u2 u3) (v0 v1 v2 v3 : Value) :
    R4 ((((w.setCell ⟨b, 0, none⟩ v0).setCell ⟨b, 1, none⟩ v1).setCell ⟨b, 2, none⟩ v2).setCell ⟨b, 3, none⟩ v3) b v0 v1 v2 v3 := by
  unfold R4 at *
  rw [set_row0 (set_row0 (set_row0 (set_row0 h v0) v1) v2) v3]
  rfl

/-- the row v, of memory from lo on, holds the types acc -/
structure RAcc (lo : Nat) (w : World) (v : Value) (acc : List Ty) (svs : List Value) : Prop where
  own : w.ownsRow lo 29 4 v acc.length (cellsT acc svs)
  len : svs.length = acc.length
  at_ : ∀ (j : Nat) (t : Ty) (sv : Value), acc[j]? = some t → svs[j]? = some sv → ArgsAt (fun b => lo ≤ b ∧ b < w.heap.size ∧ v.ownBlock ≠ some b) w sv t.args

theorem RAcc.nil (lo : Nat) (w : World) : RAcc lo w (.slice none 0 0) [] [] := ⟨World.ownsRow_nil _ _ _ _, rfl, by simp⟩

/-- what leaves the blocks from lo on as they were -/
theorem RAcc.keep {lo : Nat} {w w' : World} {v : Value} {acc : List Ty} {svs : List Value} (h : RAcc lo w v acc svs) (hs : w.heap.size ≤ w'.heap.size) (hk : ∀ b, lo ≤ b → b < w.heap.size → w'.heap[b]? = w.heap[b]?) : RAcc lo w' v acc svs :=
  ⟨own_keep4 h.own fun b hb => hk b (h.own.lt b hb).1 (h.own.lt b hb).2, h.len, fun j t sv h1 h2 => ((h.at_ j t sv h1 h2).keep fun b hb => hk b hb.1 hb.2.1).mono fun b hb => ⟨hb.1, by have := hb.2.1; omega, hb.2.2⟩⟩

/-- one more -/
theorem RAcc.add {lo : Nat} {w w' : World} {v v' sv : Value} {acc : List Ty} {svs : List Value} {t : Ty} {S : Nat → Prop} (h : RAcc lo w v acc svs) (hx : ArgsAt S w sv t.args) (hS : ∀ b, S b → lo ≤ b ∧ b < w.heap.size ∧ v.ownBlock ≠ some b)
    (hg : w.grownBy w' v.ownBlock) (ho : w'.ownsRow lo 29 4 v' (acc.length + 1) (cellsT acc svs ++ cell4 t sv)) (hat : ∀ b, v'.ownBlock = some b → v.ownBlock = some b ∨ w.heap.size ≤ b) : RAcc lo w' v' (acc ++ [t]) (svs ++ [sv]) := by
  have kp : ∀ {S : Nat → Prop} {y : Value} {ts : List Ty}, (∀ b, S b → lo ≤ b ∧ b < w.heap.size ∧ v.ownBlock ≠ some b) → ArgsAt S w y ts → ArgsAt (fun b => lo ≤ b ∧ b < w'.heap.size ∧ v'.ownBlock ≠ some b) w' y ts := fun {S y ts} hS hy =>
    (hy.keep fun b hb => hg.block b (hS b hb).2.1 (Ne.symm (hS b hb).2.2)).mono fun b hb => ⟨(hS b hb).1, Nat.lt_of_lt_of_le (hS b hb).2.1 hg.size, fun e => by
      rcases hat b e with e | e
      · exact (hS b hb).2.2 e
      · have := (hS b hb).2.1; omega⟩
  refine ⟨by rw [cellsT_snoc _ _ _ _ h.len, List.length_append]; exact ho, by simp [h.len], fun j u y h1 h2 => ?_⟩
  rcases Nat.lt_or_ge j acc.length with hlt | hge
  · rw [List.getElem?_append_left hlt] at h1
    rw [List.getElem?_append_left (by rw [h.len]; exact hlt)] at h2
    exact kp (fun b hb => hb) (h.at_ j u y h1 h2)
  · have hj : j = acc.length := by
      have := (List.getElem?_eq_some_iff.1 h1).1
      simp at this; omega
    subst hj
    rw [List.getElem?_append_right (Nat.le_refl _)] at h1
    rw [← h.len, List.getElem?_append_right (Nat.le_refl _)] at h2
    simp at h1 h2
    subst h1 h2
    exact kp hS hx

theorem RAcc.args {lo : Nat} {w : World} {v : Value} {acc : List Ty} {svs : List Value} (h : RAcc lo w v acc svs) (hl : acc.length ≤ 4000) : ArgsAt (In lo w.heap.size) w v acc := by
  rcases h.own.2 with ⟨rfl, h0⟩ | ⟨g, cap, cur, rfl, hb, hg, h1, h2, h3, h4⟩
  · have : acc = [] := List.eq_nil_of_length_eq_zero h0
    subst this
    exact .nil _ _
  · refine .mk g 0 cap acc (fun i => svs.getD i (.slice none 0 0)) ⟨hb, (Array.getElem?_eq_some_iff.1 hg).1⟩ (by omega) (fun i hi => ?_) (fun i hi => ?_)
    · have hi' : i < svs.length := by rw [h.len]; exact hi
      obtain ⟨a0, a1, a2, a3⟩ := cellsT_at acc svs h.len i hi hi'
      have hc := h.own.cells (g := g) rfl
      have hadd : ∀ j, (⟨g, 0, none⟩ : Addr).add j = ⟨g, j, none⟩ := fun j => by unfold Addr.add; split <;> simp_all
      have b0 := hc _ _ a0
      have b1 := hc _ _ a1
      have b2 := hc _ _ a2
      have b3 := hc _ _ a3
      rw [hadd] at b0 b1 b2 b3
      simp only [Nat.zero_add]
      rw [List.getD_eq_getElem?_getD, List.getElem?_eq_getElem hi']
      exact ⟨b0, b1, b2, b3⟩
    · have hi' : i < svs.length := by rw [h.len]; exact hi
      simp only [List.getD_eq_getElem?_getD, List.getElem?_eq_getElem hi', Option.getD_some]
      exact (h.at_ i _ _ (List.getElem?_eq_getElem hi) (List.getElem?_eq_getElem hi')).mono fun b hb => ⟨hb.1, hb.2.1⟩

theorem infoRf : (Tryz.prog.info? 29).map (fun i => (i.zero, i.size, i.bytes)) = some (some (.agg #[.int .i64 0, .string ByteArray.empty, .int .i64 0, .slice none 0 0]), 4, 56) := by kernel_rfl


/-- what the document's readers tell: a type and the place behind it -/
def RrPost (w : World) (n : Nat) (res : Option (Ty × List Tok)) (e : Ending) (w' : World) : Prop :=
  Below w.heap.size w w' ∧ match res with
  | none => ∃ (k : Int) (s : ByteArray) (n : Int) (a : Option Addr) (c m : Nat), e = .returned (.tuple #[.agg #[.int .i64 k, .string s, .int .i64 n, .slice a c m], .int .i64 (-1)])
  | some (t, r) => ∃ a c, e = .returned (.tuple #[tv t a c, .int .i64 ((n - r.length : Nat) : Int)]) ∧ ArgsAt (In w.heap.size w'.heap.size) w' (.slice a t.args.length c) t.args

/-- tokens as the scanner makes them, for the document's readers -/
structure TokR (l : List Tok) : Prop where
  num : ∀ t ∈ l, t.kind = 5 → t.text.tail.length ≤ 6 ∧ t.text ≠ [] ∧ ∀ c ∈ t.text.tail, digitB c = true
  par : ∀ t ∈ l, t.text = lpar → t.kind = 6

/-- what is told of the three, up to a fuel; l: all tokens, i: the place -/
structure RSaid (n : Nat) : Prop where
  typ : ∀ (w : World) (a : Option Addr) (c : Nat) (l : List Tok) (i : Nat), ToksAt w (.slice a l.length c) l → (∀ b o, a = some ⟨b, o, none⟩ → b < w.heap.size) → TokR l → l.length ≤ 4000 → i ≤ l.length → 4 * (l.length - i) + 4 ≤ n → Calls Tryz.prog 54 #[.slice a l.length c, .int .i64 i] w (RrPost w l.length (typF n (l.drop i)))
  app : ∀ (w : World) (a : Option Addr) (c : Nat) (l : List Tok) (i : Nat), ToksAt w (.slice a l.length c) l → (∀ b o, a = some ⟨b, o, none⟩ → b < w.heap.size) → TokR l → l.length ≤ 4000 → i ≤ l.length → 4 * (l.length - i) + 3 ≤ n → Calls Tryz.prog 79 #[.slice a l.length c, .int .i64 i] w (RrPost w l.length (appF n (l.drop i)))
  atom : ∀ (w : World) (a : Option Addr) (c : Nat) (l : List Tok) (i : Nat), ToksAt w (.slice a l.length c) l → (∀ b o, a = some ⟨b, o, none⟩ → b < w.heap.size) → TokR l → l.length ≤ 4000 → i ≤ l.length → 4 * (l.length - i) + 2 ≤ n → Calls Tryz.prog 107 #[.slice a l.length c, .int .i64 i] w (RrPost w l.length (atomF n (l.drop i)))

end Go.Proofs.YtofllmemmggapaaGreatDoor.Tp

/- The walks of the document's Is, number and Decimal. -/
namespace Go.Proofs.YtofllmemmggapaaGreatDoor.Tp
open Go.RowKit
open Lx

theorem toks_ix {w : World} {a : Option Addr} {c : Nat} {l : List Tok} (ht : ToksAt w (.slice a l.length c) l) {i : Nat} (hi : i < l.length) :
    ∃ b off, a = some ⟨b, off, none⟩ ∧ w.cell? ⟨b, off + i * 3, none⟩ = some (.int .i64 l[i].kind) ∧ w.cell? ⟨b, off + i * 3 + 1, none⟩ = some (.string ⟨l[i].text.toArray⟩) := by
  obtain ⟨a', c', e, hl, h0 | ⟨b, off, rfl, hc⟩⟩ := ht
  · rw [h0] at hi; simp at hi
  · injection e with e1 e2 e3
    obtain ⟨h1, h2, _⟩ := hc i hi
    exact ⟨b, off, e1, h1, h2⟩
theorem drop_ix {l : List Tok} {i : Nat} (hi : i < l.length) : l.drop i = l[i] :: l.drop (i + 1) := List.drop_eq_getElem_cons hi

set_option maxHeartbeats 1600000 in
theorem is_any (k : Nat) (s : List UInt8) (w : World) (a : Option Addr) (c : Nat) (l : List Tok) (i : Nat) (ht : ToksAt w (.slice a l.length c) l) (hi : i ≤ l.length) :
    Calls Tryz.prog 78 #[.slice a l.length c, .int .i64 i, .int .i64 (k : Int), .string ⟨s.toArray⟩] w fun e w' => e = .returned (.bool (seesB (l.drop i) k s)) ∧ w = w' := by
  by_cases hlt : i < l.length
  · obtain ⟨b, off, rfl, c0, c1⟩ := toks_ix ht hlt
    have HK := Lib.hid (show seesB (l.drop i) k s = (l[i].kind == k && (s.isEmpty || l[i].text == s)) by rw [drop_ix hlt]; rfl)
    have z0 : (0 : Int) ≤ (i : Int) := by omega
    have z1 : (i : Int) < (l.length : Int) := by omega
    clear ht
    generalize l[i] = t at *
    by_cases h1 : t.kind = k
    · have e1 : ((t.kind : Int) == (k : Int)) = true := by rw [h1]; simp
      have H1 := Lib.hid h1
      clear h1
      by_cases h2 : s = []
      · subst h2
        go_enter Tryz.func78, Tryz.ntmps78
        go_wp2
        go_ret
        exact ⟨ret_bool (by rw [HK.out, H1.out]; simp), rfl⟩
      · have h3 : s.isEmpty = false := by simpa using h2
        have H3 := Lib.hid h3
        clear h2
        go_enter Tryz.func78, Tryz.ntmps78
        go_wp2
        go_ret
        exact ⟨ret_bool (by rw [HK.out, H1.out, H3.out]; simp), rfl⟩
    · have e1 : ((t.kind : Int) == (k : Int)) = false := by rw [beq_eq_false_iff_ne]; omega
      have H1 : Hid ((t.kind == k) = false) := Lib.hid (by rw [beq_eq_false_iff_ne]; exact h1)
      clear h1
      go_enter Tryz.func78, Tryz.ntmps78
      go_wp2
      go_ret
      exact ⟨ret_bool (by rw [HK.out, H1.out]; rfl), rfl⟩
  · obtain rfl : i = l.length := by omega
    have HK := Lib.hid (show seesB (l.drop l.length) k s = false by rw [List.drop_length]; rfl)
    have z1 : ¬ (l.length : Int) < (l.length : Int) := by omega
    clear ht hlt
    generalize l.length = n at *
    go_enter Tryz.func78, Tryz.ntmps78
    go_wp2
    go_ret
    exact ⟨ret_bool HK.out.symm, rfl⟩

theorem numL_take (l : List UInt8) (k : Nat) (h : k < l.length) : numL (l.take (k + 1)) = 10 * numL (l.take k) + (l[k].toNat - 48) := by
  rw [List.take_add_one, List.getElem?_eq_getElem h]
  exact numL_snoc _ _

theorem rnumL_lt (l : List UInt8) (h : ∀ c ∈ l, digitB c = true) : numL l < 10 ^ l.length := by
  have : ∀ (l : List UInt8) (n : Nat), (∀ c ∈ l, digitB c = true) → l.foldl (fun n c => 10 * n + (c.toNat - 48)) n < (n + 1) * 10 ^ l.length := by
    intro l
    induction l with
    | nil => intro n _; simp
    | cons c l ih =>
      intro n h
      rw [List.foldl_cons, List.length_cons]
      refine Nat.lt_of_lt_of_le (ih _ fun d hd => h d (by simp [hd])) ?_
      have hc := h c (by simp)
      unfold digitB at hc
      simp only [decide_eq_true_eq] at hc
      rw [Nat.pow_succ, Nat.mul_comm (10 ^ l.length) 10, ← Nat.mul_assoc]
      refine Nat.mul_le_mul_right _ ?_
      omega
  have := this l 0 h
  unfold numL
  omega

set_option maxHeartbeats 1600000 in
theorem rfnum_any (s : ByteArray) (w : World) (hs : s.size ≤ 6) (hd : ∀ c ∈ s.data.toList, digitB c = true) :
    Calls Tryz.prog 122 #[.string s] w fun e w' => e = .returned (.int .i64 (numL s.data.toList : Int)) ∧ w = w' := by
  have hlen : s.data.toList.length = s.size := by rw [Array.length_toList]; rfl
  have HL := Lib.hid hlen
  have HD := Lib.hid hd
  clear hlen hd
  go_enter Tryz.func122, Tryz.ntmps122
  go_wp2
  go_loop [3, 4] (fun x i => ∃ k : Nat, i = .int .i64 k ∧ k ≤ s.size ∧ x = .int .i64 (numL (s.data.toList.take k) : Int)) (fun _ i => s.size - (intOf i).toNat)
  case atStart => exact ⟨0, rfl, Nat.zero_le _, rfl⟩
  case round =>
    obtain ⟨k, rfl, hk, rfl⟩ := hrel
    by_cases hlt : k < s.size
    · have z0 : (0 : Int) ≤ (k : Int) := by omega
      have z1 : (k : Int) < (s.size : Int) := by omega
      have hkl : k < s.data.toList.length := by rw [HL.out]; exact hlt
      have st := Lib.hid (numL_take s.data.toList k hkl)
      have hb := rnumL_lt (s.data.toList.take k) (fun c hc => HD.out c (List.mem_of_mem_take hc))
      have hp : 10 ^ (s.data.toList.take k).length ≤ 10 ^ 6 := Nat.pow_le_pow_right (by omega) (by rw [List.length_take]; omega)
      have hdc := HD.out _ (List.getElem_mem hkl)
      have eg : s.data.toList[k] = s[k]'hlt := rfl
      rw [eg] at st hdc
      unfold digitB at hdc
      simp only [decide_eq_true_eq] at hdc
      obtain ⟨d1, d2⟩ := hdc
      have b1 : numL (s.data.toList.take k) < 1000000 := by omega
      have ST := Lib.hid st.out
      clear st hb hp eg hkl
      generalize numL (s.data.toList.take k) = x at *
      go_wp2
      go_round
      case rel => exact ⟨k + 1, by go_num, by omega, by rw [ST.out]; congr 1; omega⟩
      case measure => simp [intOf]; omega
    · obtain rfl : k = s.size := by omega
      have E : Hid (s.data.toList.take s.size = s.data.toList) := Lib.hid (by rw [← HL.out, List.take_length])
      go_wp2
      go_ret
      exact ⟨ret_int (by rw [E.out]), rfl⟩

end Go.Proofs.YtofllmemmggapaaGreatDoor.Tp

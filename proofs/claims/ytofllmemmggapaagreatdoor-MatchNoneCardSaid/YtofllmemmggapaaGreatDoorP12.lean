/- Texts laid together: TyWalkP, TyFreshP, TyWalk. -/
import Derived.Test.YtofllmemmggapaaGreatDoorP08
import Derived.Test.YtofllmemmggapaaGreatDoorP11
import Derived.Test.YtofllmemmggapaaGreatDoorP02

/- Going through a type, in the order in which it is written. No program in sight. -/
namespace Go.Proofs.YtofllmemmggapaaGreatDoor.Tp

mutual
/-- how many nodes it has -/
def Ty.size : Ty → Nat
  | .mk _ _ _ args => sizeL args + 1
def sizeL : List Ty → Nat
  | [] => 0
  | t :: ts => t.size + sizeL ts
end

theorem Ty.size_eq (t : Ty) : t.size = sizeL t.args + 1 := by cases t; simp [Ty.size, Ty.args]
theorem sizeL_append (a b : List Ty) : sizeL (a ++ b) = sizeL a + sizeL b := by
  induction a with
  | nil => simp [sizeL]
  | cons t ts ih => simp only [List.cons_append, sizeL, ih]; omega
theorem sizeL_take (ts : List Ty) (i : Nat) (h : i < ts.length) : sizeL (ts.take (i + 1)) = sizeL (ts.take i) + ts[i].size := by
  rw [List.take_add_one, List.getElem?_eq_getElem h, sizeL_append]; simp [sizeL]
theorem size_arg (ts : List Ty) {a : Ty} (h : a ∈ ts) : a.size ≤ sizeL ts := by
  induction ts with
  | nil => cases h
  | cons t ts ih =>
    rw [sizeL]
    rcases List.mem_cons.1 h with rfl | h
    · omega
    · have := ih h; omega
theorem sizeL_take_le (ts : List Ty) (i : Nat) : sizeL (ts.take i) ≤ sizeL ts := by
  conv => rhs; rw [← List.take_append_drop i ts, sizeL_append]
  omega
theorem length_le_sizeL (ts : List Ty) : ts.length ≤ sizeL ts := by
  induction ts with
  | nil => simp
  | cons t ts ih => rw [sizeL, List.length_cons, t.size_eq]; omega

section
variable {G : Type} (step : G → Ty → List ByteArray → G)
mutual
def walkF : Ty → G → List ByteArray → G
  | .mk k s n args, g, ns => walkL args (step g (.mk k s n args) ns) (if k = 5 then s :: ns else ns)
def walkL : List Ty → G → List ByteArray → G
  | [], g, _ => g
  | t :: ts, g, ns => walkL ts (walkF t g ns) ns
end
end

theorem walkF_eq {G : Type} (step : G → Ty → List ByteArray → G) (t : Ty) (g : G) (ns : List ByteArray) : walkF step t g ns = walkL step t.args (step g t ns) (if t.kind = 5 then t.name :: ns else ns) := by
  cases t with
  | mk k s n args => rw [walkF]; rfl
theorem walkL_append {G : Type} (step : G → Ty → List ByteArray → G) (a b : List Ty) (g : G) (ns : List ByteArray) : walkL step (a ++ b) g ns = walkL step b (walkL step a g ns) ns := by
  induction a generalizing g with
  | nil => rfl
  | cons t ts ih => rw [List.cons_append, walkL, walkL, ih]
theorem walkL_take {G : Type} (step : G → Ty → List ByteArray → G) (ts : List Ty) (i : Nat) (h : i < ts.length) (g : G) (ns : List ByteArray) : walkL step (ts.take (i + 1)) g ns = walkF step ts[i] (walkL step (ts.take i) g ns) ns := by
  rw [List.take_add_one, List.getElem?_eq_getElem h, walkL_append]; rfl

/-- is a name among names? -/
def hasN (l : List ByteArray) (x : ByteArray) : Bool := l.any fun y => decide (y.data = x.data)
theorem hasN_iff (l : List ByteArray) (x : ByteArray) : hasN l x = true ↔ x ∈ l := by
  unfold hasN
  rw [List.any_eq_true]
  constructor
  · rintro ⟨y, hy, h⟩
    have : y = x := ByteArray.ext (by simpa using h)
    exact this ▸ hy
  · intro h
    exact ⟨x, h, by simp⟩

/-- one name more, if it is free and not yet there -/
def freeStep (out : List ByteArray) (x : Ty) (ns : List ByteArray) : List ByteArray := if x.kind == 1 && !hasN ns x.name && !hasN out x.name then out ++ [x.name] else out
/-- one number more -/
def metaStep (out : List Int) (x : Ty) (_ : List ByteArray) : List Int := if x.kind == 2 && !out.contains x.n then out ++ [x.n] else out

def freeT (t : Ty) : List ByteArray := walkF freeStep t [] []
def metasT (t : Ty) : List Int := walkF metaStep t [] []

end Go.Proofs.YtofllmemmggapaaGreatDoor.Tp

/- Names that are not yet there. No program in sight. -/
namespace Go.Proofs.YtofllmemmggapaaGreatDoor.Tp

theorem numL_snoc (l : List UInt8) (c : UInt8) : numL (l ++ [c]) = 10 * numL l + (c.toNat - 48) := by simp [numL, List.foldl_append]
theorem numL_dec (u : Nat) : numL (Lib.decDigits u) = u := by
  induction u using Nat.strongRecOn with
  | _ u ih =>
    rw [Lib.decDigits]
    have dig : ∀ d, d < 10 → (UInt8.ofNat (48 + d)).toNat - 48 = d := fun d hd => by
      rw [UInt8.toNat_ofNat']; omega
    split
    · next h => simp only [numL, List.foldl_cons, List.foldl_nil]; rw [dig u h]; omega
    · next h => rw [numL_snoc, ih (u / 10) (by omega), dig (u % 10) (by omega)]; omega
theorem itoa_inj {a b : Nat} (h : Lib.itoa (a : Int) = Lib.itoa (b : Int)) : a = b := by
  rw [Lib.itoa_nonneg, Lib.itoa_nonneg] at h
  rw [← numL_dec a, h, numL_dec]

/-- a canonical name -/
def xname (n : Nat) : ByteArray := ⟨#[120]⟩ ++ bytes (Lib.itoa (n : Int))
/-- a fresh name -/
def fname (nm : ByteArray) (i : Nat) : ByteArray := nm.extract 0 1 ++ ⟨#[95]⟩ ++ bytes (Lib.itoa (i : Int))

theorem bytes_inj {a b : List UInt8} (h : bytes a = bytes b) : a = b := by
  have := congrArg (fun x => x.data.toList) h
  exact this
theorem app_inj {p a b : ByteArray} (h : p ++ a = p ++ b) : a = b := by
  have := congrArg (fun x => x.data.toList) h
  simp at this
  exact ByteArray.ext this
theorem xname_inj {a b : Nat} (h : xname a = xname b) : a = b := itoa_inj (bytes_inj (app_inj h))
theorem fname_inj {nm : ByteArray} {a b : Nat} (h : fname nm a = fname nm b) : a = b := itoa_inj (bytes_inj (app_inj h))

theorem hasN_false (l : List ByteArray) (x : ByteArray) : hasN l x = false ↔ x ∉ l := by
  rw [← Bool.not_eq_true, hasN_iff]

/-- the first number from i on whose name is not there -/
def firstN (f : Nat → ByteArray) (but : List ByteArray) : Nat → Nat → Nat
  | 0, i => i
  | k + 1, i => if hasN but (f i) then firstN f but k (i + 1) else i

/-- as many names that differ are not in a shorter list -/
theorem pigeon (f : Nat → ByteArray) (hf : ∀ a b, f a = f b → a = b) : ∀ (k : Nat) (but : List ByteArray) (i : Nat), (∀ j, j < k → f (i + j) ∈ but) → k ≤ but.length := by
  intro k
  induction k with
  | zero => intro but i _; omega
  | succ k ih =>
    intro but i h
    have h1 := ih (but.filter fun y => decide (y.data ≠ (f i).data)) (i + 1) fun j hj => by
      refine List.mem_filter.2 ⟨by have := h (j + 1) (by omega); rwa [show i + (j + 1) = i + 1 + j by omega] at this, ?_⟩
      simp only [decide_eq_true_eq]
      intro e
      have := hf _ _ (ByteArray.ext e)
      omega
    have h2 : (but.filter fun y => decide (y.data ≠ (f i).data)).length < but.length :=
      List.length_filter_lt_length_iff_exists.2 ⟨f i, by simpa using h 0 (by omega), by simp⟩
    omega

theorem firstN_eq (f : Nat → ByteArray) (but : List ByteArray) : ∀ (k i r : Nat), i ≤ r → r < i + k → (∀ j, i ≤ j → j < r → hasN but (f j) = true) → hasN but (f r) = false → firstN f but k i = r := by
  intro k
  induction k with
  | zero => intro i r h1 h2; omega
  | succ k ih =>
    intro i r h1 h2 h3 h4
    rw [firstN]
    by_cases e : i = r
    · subst e; rw [h4]; rfl
    · rw [if_pos (h3 i (Nat.le_refl _) (by omega))]
      exact ih (i + 1) r (by omega) (by omega) (fun j hj hj' => h3 j (by omega) hj') h4

/-- there is one -/
theorem firstN_ex (f : Nat → ByteArray) (hf : ∀ a b, f a = f b → a = b) (but : List ByteArray) (i : Nat) : ∃ r, i ≤ r ∧ r ≤ i + but.length ∧ (∀ j, i ≤ j → j < r → hasN but (f j) = true) ∧ hasN but (f r) = false := by
  have key : ∀ n, (∃ r, i ≤ r ∧ r < i + n ∧ (∀ j, i ≤ j → j < r → hasN but (f j) = true) ∧ hasN but (f r) = false) ∨ ∀ j, j < n → hasN but (f (i + j)) = true := by
    intro n
    induction n with
    | zero => exact .inr fun j hj => by omega
    | succ n ih =>
      rcases ih with ⟨r, h1, h2, h3⟩ | h
      · exact .inl ⟨r, h1, by omega, h3⟩
      · cases hb : hasN but (f (i + n)) with
        | false =>
          refine .inl ⟨i + n, by omega, by omega, fun j hj hj' => ?_, hb⟩
          have := h (j - i) (by omega)
          rwa [show i + (j - i) = j by omega] at this
        | true =>
          refine .inr fun j hj => ?_
          by_cases e : j = n
          · subst e; exact hb
          · exact h j (by omega)
  rcases key (but.length + 1) with ⟨r, h1, h2, h3, h4⟩ | h
  · exact ⟨r, h1, by omega, h3, h4⟩
  · have := pigeon f hf (but.length + 1) but i fun j hj => (hasN_iff _ _).1 (h j hj)
    omega

theorem firstN_spec (f : Nat → ByteArray) (hf : ∀ a b, f a = f b → a = b) (but : List ByteArray) (i : Nat) :
    i ≤ firstN f but (but.length + 1) i ∧ firstN f but (but.length + 1) i ≤ i + but.length ∧ (∀ j, i ≤ j → j < firstN f but (but.length + 1) i → hasN but (f j) = true) ∧ hasN but (f (firstN f but (but.length + 1) i)) = false := by
  obtain ⟨r, h1, h2, h3, h4⟩ := firstN_ex f hf but i
  rw [firstN_eq f but (but.length + 1) i r h1 (by omega) h3 h4]
  exact ⟨h1, h2, h3, h4⟩

/-- a name that none of these is -/
def freshT (nm : ByteArray) (but : List ByteArray) : ByteArray := fname nm (firstN (fname nm) but (but.length + 1) 0)
/-- the next number of a canonical name -/
def nextN (free : List ByteArray) (n : Nat) : Nat := firstN xname free (free.length + 1) n

theorem freshT_not (nm : ByteArray) (but : List ByteArray) : freshT nm but ∉ but := (hasN_false _ _).1 (firstN_spec (fname nm) (fun _ _ => fname_inj) but 0).2.2.2
theorem nextN_not (free : List ByteArray) (n : Nat) : xname (nextN free n) ∉ free := (hasN_false _ _).1 (firstN_spec xname (fun _ _ => xname_inj) free n).2.2.2

end Go.Proofs.YtofllmemmggapaaGreatDoor.Tp

/- The walk of walk: a closure is called at each part of a type. -/
namespace Go.Proofs.YtofllmemmggapaaGreatDoor.Tp
open Go.RowKit

/-- What a closure that keeps a slice in block bo, with its row r, does to memory. -/
structure Tr (bo : Nat) (r : Option Nat) (W : World) (r' : Option Nat) (W' : World) : Prop where
  kp : Kp W.heap.size (fun b => b = bo ∨ some b = r) W W'
  row : r' = r ∨ ∃ g, r' = some g ∧ W.heap.size ≤ g

theorem Tr.refl (bo : Nat) (r : Option Nat) (W : World) : Tr bo r W r W := ⟨.refl _ _ _, .inl rfl⟩
theorem Tr.of_below {bo : Nat} {r : Option Nat} {W W' : World} (h : Below W.heap.size W W') : Tr bo r W r W' := ⟨.of_below h, .inl rfl⟩
theorem Tr.trans {bo : Nat} {r r1 r2 : Option Nat} {W W1 W2 : World} (h : Tr bo r W r1 W1) (h' : Tr bo r1 W1 r2 W2) : Tr bo r W r2 W2 := by
  refine ⟨h.kp.trans h'.kp h.kp.size fun b hb e => ?_, ?_⟩
  · rcases e with e | e
    · exact .inl e
    · rcases h.row with e2 | ⟨g, e2, hg⟩
      · exact .inr (e.trans e2)
      · rw [e2] at e; injection e with e; omega
  · have := h.kp.size
    rcases h'.row with e | ⟨g, e, hg⟩
    · rcases h.row with e2 | ⟨g, e2, hg⟩
      · exact .inl (e.trans e2)
      · exact .inr ⟨g, e.trans e2, hg⟩
    · exact .inr ⟨g, e, by omega⟩
theorem Tr.safe {bo : Nat} {r r' : Option Nat} {W W' : World} (h : Tr bo r W r' W') {b : Nat} (hb : b < W.heap.size) (h1 : b ≠ bo) (h2 : some b ≠ r) : W'.heap[b]? = W.heap[b]? ∧ b < W'.heap.size ∧ some b ≠ r' := by
  refine ⟨h.kp.block b hb (fun e => e.elim h1 h2), by have := h.kp.size; omega, fun e => ?_⟩
  rcases h.row with e2 | ⟨g, e2, hg⟩
  · exact h2 (e.trans e2)
  · rw [e2] at e; injection e with e; omega

section
variable {G : Type} (f : FuncId) (caps : Array Value) (bo : Nat) (step : G → Ty → List ByteArray → G) (Inv : Nat → G → Option Nat → World → Prop)

def AtPost (k : Nat) (g : G) (r : Option Nat) (W : World) (e : Ending) (W' : World) : Prop := (∃ v, e = .returned v) ∧ ∃ r', Inv k g r' W' ∧ Tr bo r W r' W'

/-- blocks that the closure leaves alone -/
def Off (bo : Nat) (r : Option Nat) (W : World) (b : Nat) : Prop := b < W.heap.size ∧ b ≠ bo ∧ some b ≠ r

/-- what the closure tells, called at a part of a type -/
def AtSaid : Prop := ∀ (k : Nat) (g : G) (x : Ty) (ns : List ByteArray) (S : Nat → Prop) (a : Option Addr) (c m : Nat) (r : Option Nat) (W : World), Inv k g r W → k < 1099511627776 → ArgsAt S W (.slice a x.args.length c) x.args →
  (∀ b, S b → Off bo r W b) → SetAt W m (· ∈ ns) → Off bo r W m → Calls Tryz.prog f (#[tv x a c, .map (some m)] ++ caps) W (AtPost bo Inv (k + 1) (step g x ns) r W)

/-- the closure's memory -/
structure InvOk : Prop where
  low : ∀ k g r W W', Inv k g r W → Below W.heap.size W W' → Inv k g r W'
  bo : ∀ k g r W, Inv k g r W → bo < W.heap.size
  row : ∀ k g r W b, Inv k g r W → r = some b → b < W.heap.size
end

theorem Off.tr {bo : Nat} {r r' : Option Nat} {W W' : World} {b : Nat} (h : Off bo r W b) (k : Tr bo r W r' W') : Off bo r' W' b := ⟨(k.safe h.1 h.2.1 h.2.2).2.1, h.2.1, (k.safe h.1 h.2.1 h.2.2).2.2⟩

set_option maxRecDepth 100000 in
set_option maxHeartbeats 3200000 in
theorem walk_any {G : Type} (f : FuncId) (caps : Array Value) (bo : Nat) (step : G → Ty → List ByteArray → G) (Inv : Nat → G → Option Nat → World → Prop) (hf : ∀ args w, (callFunc f args).run Tryz.prog w = .ok (.enter f args) w) (hat : AtSaid f caps bo step Inv) (hok : InvOk bo Inv) :
    ∀ (t : Ty) (k : Nat) (g : G) (ns : List ByteArray) (S : Nat → Prop) (a : Option Addr) (c m : Nat) (r : Option Nat) (W : World), Inv k g r W → k + t.size ≤ 1099511627776 → ArgsAt S W (.slice a t.args.length c) t.args →
      (∀ b, S b → Off bo r W b) → SetAt W m (· ∈ ns) → Off bo r W m → Calls Tryz.prog 44 #[tv t a c, .map (some m), .func (.func f) #[] caps] W (AtPost bo Inv (k + t.size) (walkF step t g ns) r W) := by
  intro t
  induction t using Ty.ind with
  | h t ih =>
    intro k g ns S a c m r W hI hk hA hS hM hOm
    have hz := (Below.refl W.heap.size W).alloc (Nat.le_refl _) (.cells #[.int .i64 t.kind, .string t.name, .int .i64 t.n, .slice a t.args.length c] 26)
    have b4 := B4.new W (.int .i64 t.kind) (.string t.name) (.int .i64 t.n) (.slice a t.args.length c)
    have hs1 : (W.alloc (.cells #[.int .i64 t.kind, .string t.name, .int .i64 t.n, .slice a t.args.length c] 26)).heap.size = W.heap.size + 1 := by simp
    have T0 : Tr bo r W r (W.alloc (.cells #[.int .i64 t.kind, .string t.name, .int .i64 t.n, .slice a t.args.length c] 26)) := .of_below hz
    have hB : Off bo r (W.alloc (.cells #[.int .i64 t.kind, .string t.name, .int .i64 t.n, .slice a t.args.length c] 26)) W.heap.size := by
      refine ⟨by simp, fun e => ?_, fun e => ?_⟩
      · have := hok.bo _ _ _ _ hI; omega
      · have := hok.row _ _ _ _ _ hI e.symm; omega
    have htl := length_le_sizeL t.args
    have hsz := t.size_eq
    have hal : t.args.length ≤ 1099511627776 := by omega
    have CA := Lib.hid (hat k g t ns S a c m r _ (hok.low _ _ _ _ _ hI hz) (by omega) (hA.keep (fun b hb => hz.block b (hS b hb).1)) (fun b hb => (hS b hb).tr T0) (hM.keep (hz.block m hOm.1)) (hOm.tr T0))
    have c0 := b4.c0
    have c1 := b4.c1
    have c2 := b4.c2
    have c3 := b4.c3
    have T0H := Lib.hid T0
    have HB := Lib.hid hB
    have B4H := Lib.hid b4
    have HA := Lib.hid hA
    have HS := Lib.hid hS
    have HM := Lib.hid hM
    have HOM := Lib.hid hOm
    have IH := Lib.hid ih
    have HAT := Lib.hid hat
    have HOK := Lib.hid hok
    have HSZ := Lib.hid hsz
    have HK := Lib.hid hk
    unfold tv at *
    clear hI hA hS hM hOm hz b4 T0 hB ih hat hok hsz hk hs1
    by_cases h5 : t.kind = 5
    · have z5 : (t.kind == 5) = true := by rw [beq_iff_eq]; exact h5
      have E : Hid (walkF step t g ns = walkL step t.args (step g t ns) (t.name :: ns)) := Lib.hid (by rw [walkF_eq, if_pos h5])
      clear h5
      go_enter Tryz.func44, Tryz.ntmps44
      go_wp2_with fail
      refine CA.out.mono ?_
      rintro e W1 ⟨⟨v, rfl⟩, r1, hI1, hT1⟩
      have q4 : B4 W1 W.heap.size (.int .i64 t.kind) (.string t.name) (.int .i64 t.n) (.slice a t.args.length c) := (hT1.safe HB.out.1 HB.out.2.1 HB.out.2.2).1.trans B4H.out
      have hm1 := hT1.safe (HOM.out.tr T0H.out).1 HOM.out.2.1 HOM.out.2.2
      have T1 := T0H.out.trans hT1
      have C2 := Lib.hid (clone_any m (· ∈ ns) W1 ((HM.out.keep (T0H.out.safe HOM.out.1 HOM.out.2.1 HOM.out.2.2).1).keep hm1.1))
      have Q4 := Lib.hid q4
      have HI1 := Lib.hid hI1
      have HT1 := Lib.hid T1
      have c0 := q4.c0
      have c1 := q4.c1
      have c3 := q4.c3
      clear hT1 hm1 T1 q4 hI1
      go_wp2_with fail
      refine C2.out.mono ?_
      rintro e W2 ⟨rfl, hb2, hs2, hz2⟩
      obtain ⟨W3, hrun, hs3, hg3⟩ := hs2.update Tryz.underlying87 Tryz.underlying9 t.name
      have q4 := (Q4.out.low hb2).grown hg3 (fun e => by injection e with e; have := Q4.out.lt; omega)
      have c12 := (Q4.out.low hb2).c1
      have c0 := q4.c0
      have c1 := q4.c1
      have c3 := q4.c3
      have TG : Tr bo r1 W1 r1 W3 := .of_below ⟨hg3.os.trans hb2.os, hg3.tape.trans hb2.tape, hg3.output.trans hb2.output, by have := hg3.size; omega, fun b hb => (hg3.block b (by omega) (fun e => by injection e with e; omega)).trans (hb2.block b hb)⟩
      have HI3 := Lib.hid (HOK.out.low _ _ _ _ W3 HI1.out ⟨TG.kp.os, TG.kp.tape, TG.kp.output, TG.kp.size, fun b hb => (hg3.block b (by omega) (fun e => by injection e with e; omega)).trans (hb2.block b hb)⟩)
      have HT3 := Lib.hid (HT1.out.trans TG)
      have HM3 := Lib.hid (show SetAt W3 W1.heap.size (· ∈ t.name :: ns) from hs3.congr fun s => List.mem_cons.symm)
      have HO3 : Hid (Off bo r1 W3 W1.heap.size) := Lib.hid ⟨by have := hg3.size; omega, fun e => by have := HOK.out.bo _ _ _ _ HI1.out; omega, fun e => by have := HOK.out.row _ _ _ _ _ HI1.out e.symm; omega⟩
      clear hb2 hs2 hz2 hs3 hg3 q4 TG
      go_wp2
      go_loopw [23] (fun iv wr => ∃ (i : Nat) (g' : G) (r' : Option Nat), iv = .int .i64 i ∧ i ≤ t.args.length ∧ g' = walkL step (t.args.take i) (step g t ns) (t.name :: ns) ∧ Inv (k + 1 + sizeL (t.args.take i)) g' r' wr ∧ Tr bo r W r' wr ∧ SetAt wr W1.heap.size (· ∈ (t.name :: ns)) ∧ Off bo r' wr W1.heap.size) (fun iv _ => t.args.length - (intOf iv).toNat)
      case atStart => exact ⟨0, _, r1, rfl, Nat.zero_le _, rfl, by simpa [sizeL, walkL] using HI3.out, HT3.out, HM3.out, HO3.out⟩
      case round =>
        clear HI3 HT3 HM3 HO3
        obtain ⟨i, g', r', rfl, hil, hg', hI, hT, hM, hO⟩ := hrel
        have GE := Lib.hid hg'
        have TE := Lib.hid hT
        by_cases hi : i < t.args.length
        · have z0 : (0 : Int) ≤ (i : Int) := by omega
          have z1 : (i : Int) < (t.args.length : Int) := by omega
          obtain ⟨b, off, a', c', rfl, hb, hf4, hs⟩ := HA.out.at_ hi
          obtain ⟨f0, f1, f2, f3⟩ := hf4.keep (hT.safe (HS.out b hb).1 (HS.out b hb).2.1 (HS.out b hb).2.2).1
          have hz := (Below.refl wr.heap.size wr).alloc (Nat.le_refl _) (.cells #[.int .i64 t.args[i].kind, .string t.args[i].name, .int .i64 t.args[i].n, .slice a' t.args[i].args.length c'] 26)
          have b4 := B4.new wr (.int .i64 t.args[i].kind) (.string t.args[i].name) (.int .i64 t.args[i].n) (.slice a' t.args[i].args.length c')
          have c0 := b4.c0
          have c1 := b4.c1
          have c2 := b4.c2
          have c3 := b4.c3
          have TN : Tr bo r' wr r' _ := .of_below hz
          have hst := sizeL_take t.args i hi
          have hsl := sizeL_take_le t.args (i + 1)
          have hk2 := HK.out
          have hz2 := HSZ.out
          have CW := Lib.hid (IH.out t.args[i] (List.getElem_mem hi) (k + 1 + sizeL (t.args.take i)) g' (t.name :: ns) S a' c' W1.heap.size r' _ (HOK.out.low _ _ _ _ _ hI hz) (by omega) (hs.keep (fun b hb => (hz.block b ((HS.out b hb).tr hT).1).trans (hT.safe (HS.out b hb).1 (HS.out b hb).2.1 (HS.out b hb).2.2).1)) (fun b hb => ((HS.out b hb).tr hT).tr TN) (hM.keep (hz.block W1.heap.size hO.1)) (hO.tr TN))
          have HST := Lib.hid hst
          have WT := Lib.hid (walkL_take step t.args i hi (step g t ns) (t.name :: ns))
          have HMR := Lib.hid hM
          have HOR := Lib.hid hO
          have TNH := Lib.hid TN
          unfold tv at *
          clear hg' hI hT hM hO hf4 hs hz b4 TN hst hsl hk2 hz2
          go_wp2_with fail
          refine CW.out.mono ?_
          rintro e W4 ⟨⟨v4, rfl⟩, r4, hI4, hT4⟩
          have TF := TNH.out.trans hT4
          have HI4 := Lib.hid hI4
          have HT4 := Lib.hid (TE.out.trans TF)
          have HM4 := Lib.hid (HMR.out.keep (TF.safe HOR.out.1 HOR.out.2.1 HOR.out.2.2).1)
          have HO4 := Lib.hid (HOR.out.tr TF)
          clear hI4 hT4 TF
          go_wp2
          go_roundw
          case rel => exact ⟨i + 1, _, r4, by go_num, by omega, rfl, by rw [WT.out, ← GE.out, HST.out, ← Nat.add_assoc]; exact HI4.out, HT4.out, HM4.out, HO4.out⟩
          case measure => simp [intOf]; omega
        · obtain rfl : i = t.args.length := by omega
          have HI := Lib.hid hI
          clear hg' hI hT hM hO
          go_wp2
          go_end0
          have e1 : k + 1 + sizeL (t.args.take t.args.length) = k + t.size := by rw [List.take_length, HSZ.out]; omega
          have e2 : g' = walkF step t g ns := by rw [GE.out, E.out, List.take_length]
          rw [e1, e2] at HI
          exact ⟨⟨_, rfl⟩, r', HI.out, TE.out⟩
    · have z5 : (t.kind == 5) = false := by rw [beq_eq_false_iff_ne]; exact h5
      have E : Hid (walkF step t g ns = walkL step t.args (step g t ns) ns) := Lib.hid (by rw [walkF_eq, if_neg h5])
      clear h5
      go_enter Tryz.func44, Tryz.ntmps44
      go_wp2_with fail
      refine CA.out.mono ?_
      rintro e W1 ⟨⟨v, rfl⟩, r1, hI1, hT1⟩
      have q4 : B4 W1 W.heap.size (.int .i64 t.kind) (.string t.name) (.int .i64 t.n) (.slice a t.args.length c) := (hT1.safe HB.out.1 HB.out.2.1 HB.out.2.2).1.trans B4H.out
      have c0 := q4.c0
      have c3 := q4.c3
      have T1 := T0H.out.trans hT1
      have HI3 := Lib.hid hI1
      have HT3 := Lib.hid T1
      have HM3 := Lib.hid (HM.out.keep (T1.safe HOM.out.1 HOM.out.2.1 HOM.out.2.2).1)
      have HO3 := Lib.hid (HOM.out.tr T1)
      clear hI1 hT1 T1 q4
      go_wp2
      go_loopw [23] (fun iv wr => ∃ (i : Nat) (g' : G) (r' : Option Nat), iv = .int .i64 i ∧ i ≤ t.args.length ∧ g' = walkL step (t.args.take i) (step g t ns) ns ∧ Inv (k + 1 + sizeL (t.args.take i)) g' r' wr ∧ Tr bo r W r' wr ∧ SetAt wr m (· ∈ ns) ∧ Off bo r' wr m) (fun iv _ => t.args.length - (intOf iv).toNat)
      case atStart => exact ⟨0, _, r1, rfl, Nat.zero_le _, rfl, by simpa [sizeL, walkL] using HI3.out, HT3.out, HM3.out, HO3.out⟩
      case round =>
        clear HI3 HT3 HM3 HO3
        obtain ⟨i, g', r', rfl, hil, hg', hI, hT, hM, hO⟩ := hrel
        have GE := Lib.hid hg'
        have TE := Lib.hid hT
        by_cases hi : i < t.args.length
        · have z0 : (0 : Int) ≤ (i : Int) := by omega
          have z1 : (i : Int) < (t.args.length : Int) := by omega
          obtain ⟨b, off, a', c', rfl, hb, hf4, hs⟩ := HA.out.at_ hi
          obtain ⟨f0, f1, f2, f3⟩ := hf4.keep (hT.safe (HS.out b hb).1 (HS.out b hb).2.1 (HS.out b hb).2.2).1
          have hz := (Below.refl wr.heap.size wr).alloc (Nat.le_refl _) (.cells #[.int .i64 t.args[i].kind, .string t.args[i].name, .int .i64 t.args[i].n, .slice a' t.args[i].args.length c'] 26)
          have b4 := B4.new wr (.int .i64 t.args[i].kind) (.string t.args[i].name) (.int .i64 t.args[i].n) (.slice a' t.args[i].args.length c')
          have c0 := b4.c0
          have c1 := b4.c1
          have c2 := b4.c2
          have c3 := b4.c3
          have TN : Tr bo r' wr r' _ := .of_below hz
          have hst := sizeL_take t.args i hi
          have hsl := sizeL_take_le t.args (i + 1)
          have hk2 := HK.out
          have hz2 := HSZ.out
          have CW := Lib.hid (IH.out t.args[i] (List.getElem_mem hi) (k + 1 + sizeL (t.args.take i)) g' ns S a' c' m r' _ (HOK.out.low _ _ _ _ _ hI hz) (by omega) (hs.keep (fun b hb => (hz.block b ((HS.out b hb).tr hT).1).trans (hT.safe (HS.out b hb).1 (HS.out b hb).2.1 (HS.out b hb).2.2).1)) (fun b hb => ((HS.out b hb).tr hT).tr TN) (hM.keep (hz.block m hO.1)) (hO.tr TN))
          have HST := Lib.hid hst
          have WT := Lib.hid (walkL_take step t.args i hi (step g t ns) ns)
          have HMR := Lib.hid hM
          have HOR := Lib.hid hO
          have TNH := Lib.hid TN
          unfold tv at *
          clear hg' hI hT hM hO hf4 hs hz b4 TN hst hsl hk2 hz2
          go_wp2_with fail
          refine CW.out.mono ?_
          rintro e W4 ⟨⟨v4, rfl⟩, r4, hI4, hT4⟩
          have TF := TNH.out.trans hT4
          have HI4 := Lib.hid hI4
          have HT4 := Lib.hid (TE.out.trans TF)
          have HM4 := Lib.hid (HMR.out.keep (TF.safe HOR.out.1 HOR.out.2.1 HOR.out.2.2).1)
          have HO4 := Lib.hid (HOR.out.tr TF)
          clear hI4 hT4 TF
          go_wp2
          go_roundw
          case rel => exact ⟨i + 1, _, r4, by go_num, by omega, rfl, by rw [WT.out, ← GE.out, HST.out, ← Nat.add_assoc]; exact HI4.out, HT4.out, HM4.out, HO4.out⟩
          case measure => simp [intOf]; omega
        · obtain rfl : i = t.args.length := by omega
          have HI := Lib.hid hI
          clear hg' hI hT hM hO
          go_wp2
          go_end0
          have e1 : k + 1 + sizeL (t.args.take t.args.length) = k + t.size := by rw [List.take_length, HSZ.out]; omega
          have e2 : g' = walkF step t g ns := by rw [GE.out, E.out, List.take_length]
          rw [e1, e2] at HI
          exact ⟨⟨_, rfl⟩, r', HI.out, TE.out⟩

end Go.Proofs.YtofllmemmggapaaGreatDoor.Tp

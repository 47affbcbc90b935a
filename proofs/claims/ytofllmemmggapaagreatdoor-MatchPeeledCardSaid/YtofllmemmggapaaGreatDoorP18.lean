/- Texts laid together: TyRen, TyNumP, TyPutP, TyPutA. -/
import Derived.Test.YtofllmemmggapaaGreatDoorP17
import Derived.Test.YtofllmemmggapaaGreatDoorP13
import Derived.Test.YtofllmemmggapaaGreatDoorP14

/- renamed, whatever the type. -/
namespace Go.Proofs.YtofllmemmggapaaGreatDoor.Tp
open Go.RowKit

theorem ren_said : ∀ d : Nat, RenSaid d := by
  intro d
  induction d with
  | zero => intro fr to t S a c W hg h; rw [t.depth_eq] at h; omega
  | succ d ih =>
    intro fr to t S a c W hg hd hs hfr hto hA hS hT
    by_cases hn : t.name = fr
    · by_cases h1 : t.kind = 1
      · exact ren_var d fr to t S a c W h1 hn hA hS
      · by_cases h5 : t.kind = 5
        · exact ren_same d fr to t S a c W h5 hn hA hS
        · exact ren_with d ih fr to t S a c W (fun h => absurd h h1) (fun h => absurd h h5) hg hd hs hfr hto hA hS hT
    · by_cases h5 : t.kind = 5 ∧ t.name = to
      · exact ren_cap d ih fr to t S a c W h5.1 h5.2 hn hg hd hs hfr hto hA hS hT
      · exact ren_with d ih fr to t S a c W (fun _ => hn) (fun h => ⟨hn, fun e => h5 ⟨h, e⟩⟩) hg hd hs hfr hto hA hS hT

/-- renamed gives a free variable another name. -/
theorem ren_any (fr to : ByteArray) (t : Ty) (S : Nat → Prop) (a : Option Addr) (c : Nat) (W : World) (hg : Good t) (hs : t.size ≤ 1099511627000) (hfr : fr.size ≤ 64) (hto : to.size ≤ 64) (hA : ArgsAt S W (.slice a t.args.length c) t.args) (hS : ∀ b, S b → b < W.heap.size) (hT : Tab W) :
    Calls Tryz.prog 63 #[tv t a c, .string fr, .string to] W (TP S (renT fr to t) W) := ren_said t.depth fr to t S a c W hg (Nat.le_refl _) hs hfr hto hA hS hT

end Go.Proofs.YtofllmemmggapaaGreatDoor.Tp

/- Canonical names. No program in sight. -/
namespace Go.Proofs.YtofllmemmggapaaGreatDoor.Tp

/-- with canonical names, to a depth: the type, the next number -/
def numF : Nat → List ByteArray → Nat → Ty → Ty × Nat
  | 0, _, n, t => (t, n)
  | d + 1, free, n, t =>
    if t.kind = 5 then (withT (tAllB (xname (nextN free n)) (renT t.name (xname (nextN free n)) (arg0T t))) (mapAcc (numF d free) (nextN free n + 1) [renT t.name (xname (nextN free n)) (arg0T t)]).1,
      (mapAcc (numF d free) (nextN free n + 1) [renT t.name (xname (nextN free n)) (arg0T t)]).2)
    else (withT t (mapAcc (numF d free) n t.args).1, (mapAcc (numF d free) n t.args).2)

/-- with canonical names, but those that may not be -/
def canonT (t : Ty) : Ty := (numF t.depth (freeT t) 0 t).1

theorem xname_size (n : Nat) (h : n ≤ 9223372036854775807) : (xname n).size ≤ 64 ∧ 1 ≤ (xname n).size := by
  unfold xname
  rw [ByteArray.size_append]
  have h1 := Lib.itoa_length_le (n : Int) (by omega) (by omega)
  have h3 : (⟨#[120]⟩ : ByteArray).size = 1 := rfl
  have h4 : (bytes (Lib.itoa (n : Int))).size = (Lib.itoa (n : Int)).length := by simp [bytes, ByteArray.size]
  omega

theorem nextN_bd (free : List ByteArray) (n : Nat) : n ≤ nextN free n ∧ nextN free n ≤ n + free.length :=
  ⟨(firstN_spec xname (fun _ _ => xname_inj) free n).1, (firstN_spec xname (fun _ _ => xname_inj) free n).2.1⟩

theorem mul_add3 {a b c q n m : Nat} (h : n + (a + b) * q ≤ c) (hm : m ≤ n + a * q) : m + b * q ≤ c := by
  rw [Nat.add_mul] at h; omega

/-- what the numbering keeps, along a list -/
theorem numL_keeps (d : Nat) (free : List ByteArray) (q : Nat) (ih : ∀ (t : Ty) (n : Nat), t.depth ≤ d → Good t → t.size ≤ 1099511627000 → n + t.size * q ≤ 4611686018427387904 →
      n ≤ (numF d free n t).2 ∧ (numF d free n t).2 ≤ n + t.size * q ∧ (numF d free n t).1.depth = t.depth ∧ (numF d free n t).1.size = t.size ∧ Good (numF d free n t).1 ∧ (numF d free n t).1.kind = t.kind) :
    ∀ (l : List Ty) (n : Nat), (∀ t ∈ l, t.depth ≤ d ∧ Good t ∧ t.size ≤ 1099511627000) → n + sizeL l * q ≤ 4611686018427387904 →
      n ≤ (mapAcc (numF d free) n l).2 ∧ (mapAcc (numF d free) n l).2 ≤ n + sizeL l * q ∧ depthL (mapAcc (numF d free) n l).1 = depthL l ∧ sizeL (mapAcc (numF d free) n l).1 = sizeL l ∧ ∀ t ∈ (mapAcc (numF d free) n l).1, Good t := by
  intro l
  induction l with
  | nil => intro n _ _; exact ⟨Nat.le_refl _, by simp [mapAcc], rfl, rfl, fun t ht => by cases ht⟩
  | cons t l ihl =>
    intro n h hb
    rw [sizeL] at hb
    obtain ⟨a1, a2, a3⟩ := h t (by simp)
    have hb1 : n + t.size * q ≤ 4611686018427387904 := by rw [Nat.add_mul] at hb; omega
    obtain ⟨c1, c2, c3, c4, c5, _⟩ := ih t n a1 a2 a3 hb1
    obtain ⟨e1, e2, e3, e4, e5⟩ := ihl (numF d free n t).2 (fun u hu => h u (by simp [hu])) (mul_add3 hb c2)
    simp only [mapAcc]
    refine ⟨by omega, ?_, by rw [depthL, depthL, c3, e3], by rw [sizeL, sizeL, c4, e4], ?_⟩
    · rw [sizeL, Nat.add_mul]; omega
    · intro u hu
      rcases List.mem_cons.1 hu with rfl | hu
      · exact c5
      · exact e5 u hu

theorem renT_keeps (fr to : ByteArray) (t : Ty) (hg : Good t) (hto : to.size ≤ 64) (hs : t.size ≤ 1099511627000) :
    (renT fr to t).depth = t.depth ∧ (renT fr to t).size = t.size ∧ Good (renT fr to t) ∧ (renT fr to t).kind = t.kind := ren_keeps t.depth fr to t (Nat.le_refl _) hg hto hs

theorem good_args {t : Ty} (h : Good t) : ∀ a ∈ t.args, Good a := fun a ha => ⟨((wf_iff t).1 h.1).2 a ha, ((nm_iff t).1 h.2).2 a ha⟩

theorem good_with {t : Ty} (h : Good t) (l : List Ty) (hl : l.length = t.args.length) (hg : ∀ a ∈ l, Good a) : Good (withT t l) := by
  refine ⟨(wf_iff _).2 ⟨?_, fun a ha => (hg a ha).1⟩, (nm_iff _).2 ⟨((nm_iff t).1 h.2).1, fun a ha => (hg a ha).2⟩⟩
  have := ((wf_iff t).1 h.1).1
  show (t.kind = 1 ∧ l = [] ∨ t.kind = 2 ∧ l = [] ∧ _ ∨ t.kind = 3 ∨ t.kind = 4 ∧ l.length = 2 ∨ t.kind = 5 ∧ l.length = 1)
  rw [hl]
  have hn : t.args = [] → l = [] := fun e => List.eq_nil_of_length_eq_zero (by rw [hl, e]; rfl)
  rcases this with h | h | h | h | h
  · exact .inl ⟨h.1, hn h.2⟩
  · exact .inr (.inl ⟨h.1, hn h.2.1, h.2.2⟩)
  · exact .inr (.inr (.inl h))
  · exact .inr (.inr (.inr (.inl h)))
  · exact .inr (.inr (.inr (.inr h)))

theorem good_all {s : ByteArray} (h1 : 1 ≤ s.size) (h2 : s.size ≤ 64) {x : Ty} (hx : Good x) : Good (tAllB s x) :=
  ⟨(wf_iff _).2 ⟨.inr (.inr (.inr (.inr ⟨rfl, rfl⟩))), fun a ha => by obtain rfl := List.mem_singleton.1 ha; exact hx.1⟩, (nm_iff _).2 ⟨⟨fun _ => h1, h2⟩, fun a ha => by obtain rfl := List.mem_singleton.1 ha; exact hx.2⟩⟩

theorem num_keeps : ∀ (d : Nat) (free : List ByteArray) (t : Ty) (n : Nat), t.depth ≤ d → Good t → t.size ≤ 1099511627000 → n + t.size * (free.length + 1) ≤ 4611686018427387904 →
    n ≤ (numF d free n t).2 ∧ (numF d free n t).2 ≤ n + t.size * (free.length + 1) ∧ (numF d free n t).1.depth = t.depth ∧ (numF d free n t).1.size = t.size ∧ Good (numF d free n t).1 ∧ (numF d free n t).1.kind = t.kind := by
  intro d free
  induction d with
  | zero => intro t n h; rw [t.depth_eq] at h; omega
  | succ d ih =>
    intro t n h hg hs hb
    have hL := numL_keeps d free (free.length + 1) ih
    have hds : ∀ a ∈ t.args, a.depth ≤ d ∧ a.size ≤ 1099511627000 := fun a ha => by
      have := depth_arg _ ha; have := size_arg _ ha; rw [t.depth_eq] at h; rw [t.size_eq] at hs; omega
    rw [t.size_eq, Nat.add_mul, Nat.one_mul] at hb
    rw [numF]
    split
    · next hk =>
      obtain ⟨x, hx, hx0⟩ := wf_k5 hg.1 hk
      have hx1 : x ∈ t.args := by rw [hx]; simp
      have hnb := nextN_bd free n
      have hxs := xname_size (nextN free n) (by omega)
      rw [hx0]
      obtain ⟨a1, a2, a3, a4⟩ := renT_keeps t.name (xname (nextN free n)) x (good_args hg x hx1) hxs.1 (hds x hx1).2
      have hsz : sizeL t.args = x.size := by rw [hx]; simp [sizeL]
      have hb2 : nextN free n + 1 + sizeL [renT t.name (xname (nextN free n)) x] * (free.length + 1) ≤ 4611686018427387904 := by
        have hz : sizeL [renT t.name (xname (nextN free n)) x] = sizeL t.args := by rw [sizeL, sizeL, a2, hsz]; rfl
        rw [hz]; omega
      obtain ⟨e1, e2, e3, e4, e5⟩ := hL [renT t.name (xname (nextN free n)) x] (nextN free n + 1) (fun u hu => by obtain rfl := List.mem_singleton.1 hu; exact ⟨by rw [a1]; exact (hds x hx1).1, a3, by rw [a2]; exact (hds x hx1).2⟩) hb2
      have e2' : (mapAcc (numF d free) (nextN free n + 1) [renT t.name (xname (nextN free n)) x]).2 ≤ nextN free n + 1 + x.size * (free.length + 1) := by
        have : sizeL [renT t.name (xname (nextN free n)) x] = x.size := by rw [sizeL, sizeL, a2]; rfl
        rw [this] at e2; exact e2
      refine ⟨by omega, ?_, ?_, ?_, ?_, hk.symm⟩
      · rw [t.size_eq, hsz, Nat.add_mul, Nat.one_mul]; omega
      · rw [Ty.depth_eq, t.depth_eq, hx]; show depthL (mapAcc _ _ _).1 + 1 = _; rw [e3, depthL, depthL, depthL, depthL, a1]
      · rw [Ty.size_eq, t.size_eq, hx]; show sizeL (mapAcc _ _ _).1 + 1 = _; rw [e4, sizeL, sizeL, sizeL, sizeL, a2]
      · exact good_with (good_all hxs.2 hxs.1 a3) _ (by rw [mapAcc_len]; rfl) e5
    · obtain ⟨e1, e2, e3, e4, e5⟩ := hL t.args n (fun u hu => ⟨(hds u hu).1, good_args hg u hu, (hds u hu).2⟩) (by omega)
      refine ⟨e1, ?_, ?_, ?_, ?_, rfl⟩
      · rw [t.size_eq, Nat.add_mul, Nat.one_mul]; omega
      · rw [Ty.depth_eq, t.depth_eq]; show depthL (mapAcc _ _ _).1 + 1 = _; rw [e3]
      · rw [Ty.size_eq, t.size_eq]; show sizeL (mapAcc _ _ _).1 + 1 = _; rw [e4]
      · exact good_with hg _ (mapAcc_len _ _ _) e5

end Go.Proofs.YtofllmemmggapaaGreatDoor.Tp

/- Putting a type in the place of a variable, or of what is so. No program in sight. -/
namespace Go.Proofs.YtofllmemmggapaaGreatDoor.Tp

/-- a for all whose name is another one -/
def renAll (nm : ByteArray) (t : Ty) : Ty := tAllB nm (renT t.name nm (arg0T t))

/-- Put, to a depth -/
def PutF : Nat → ByteArray → Ty → Ty → Ty
  | 0, _, _, t => t
  | d + 1, nm, u, t =>
    if t.kind == 5 && eqN t.name nm then t
    else if t.kind == 1 && eqN t.name nm then u
    else if t.kind == 5 && hasN (freeT u) t.name then
      withT (renAll (freshT t.name (freeT u ++ freeT (arg0T t) ++ [t.name, nm])) t) ((renAll (freshT t.name (freeT u ++ freeT (arg0T t) ++ [t.name, nm])) t).args.map (PutF d nm u))
    else withT t (t.args.map (PutF d nm u))

/-- put, to a depth -/
def putF : Nat → Ty → List ByteArray → (Ty → Bool) → Ty → Ty
  | 0, _, _, _, t => t
  | d + 1, u, free, is, t =>
    if is t then u
    else if t.kind == 5 && hasN free t.name then
      withT (renAll (freshT t.name (free ++ freeT (arg0T t) ++ [t.name])) t) ((renAll (freshT t.name (free ++ freeT (arg0T t) ++ [t.name])) t).args.map (putF d u free is))
    else withT t (t.args.map (putF d u free is))

def isMeta (n : Int) (x : Ty) : Bool := x.kind == 2 && x.n == n
def PutT (nm : ByteArray) (u t : Ty) : Ty := PutF t.depth nm u t
def fillT (n : Int) (u t : Ty) : Ty := putF t.depth u (freeT u) (isMeta n) t

theorem PutF_same (d : Nat) (nm : ByteArray) (u t : Ty) (hk : t.kind = 5) (hn : t.name = nm) : PutF (d + 1) nm u t = t := by
  rw [PutF, if_pos (by rw [hk, hn, (eqN_iff _ _).2 rfl]; rfl)]
theorem PutF_var (d : Nat) (nm : ByteArray) (u t : Ty) (hk : t.kind = 1) (hn : t.name = nm) : PutF (d + 1) nm u t = u := by
  rw [PutF, if_neg (by rw [hk]; simp), if_pos (by rw [hk, hn, (eqN_iff _ _).2 rfl]; rfl)]
theorem PutF_with (d : Nat) (nm : ByteArray) (u t : Ty) (h1 : t.kind = 1 → t.name ≠ nm) (h5 : t.kind = 5 → t.name ≠ nm ∧ hasN (freeT u) t.name = false) : PutF (d + 1) nm u t = withT t (t.args.map (PutF d nm u)) := by
  rw [PutF, if_neg, if_neg, if_neg]
  · intro h; simp only [Bool.and_eq_true, beq_iff_eq] at h; rw [(h5 h.1).2] at h; exact absurd h.2 (by simp)
  · intro h; simp only [Bool.and_eq_true, beq_iff_eq] at h; exact h1 h.1 ((eqN_iff _ _).1 h.2)
  · intro h; simp only [Bool.and_eq_true, beq_iff_eq] at h; exact (h5 h.1).1 ((eqN_iff _ _).1 h.2)
theorem PutF_cap (d : Nat) (nm : ByteArray) (u t x : Ty) (hk : t.kind = 5) (hne : t.name ≠ nm) (hf : hasN (freeT u) t.name = true) (hx : arg0T t = x) :
    PutF (d + 1) nm u t = withT (tAllB (freshT t.name (freeT u ++ freeT x ++ [t.name, nm])) (renT t.name (freshT t.name (freeT u ++ freeT x ++ [t.name, nm])) x)) [PutF d nm u (renT t.name (freshT t.name (freeT u ++ freeT x ++ [t.name, nm])) x)] := by
  rw [PutF, if_neg, if_neg (by rw [hk]; simp), if_pos (by rw [hk, hf]; rfl)]
  · unfold renAll; rw [hx]; rfl
  · intro h; simp only [Bool.and_eq_true] at h; exact hne ((eqN_iff _ _).1 h.2)

theorem putF_is (d : Nat) (u : Ty) (free : List ByteArray) (is : Ty → Bool) (t : Ty) (h : is t = true) : putF (d + 1) u free is t = u := by rw [putF, if_pos h]
theorem putF_with (d : Nat) (u : Ty) (free : List ByteArray) (is : Ty → Bool) (t : Ty) (h : is t = false) (h5 : t.kind = 5 → hasN free t.name = false) : putF (d + 1) u free is t = withT t (t.args.map (putF d u free is)) := by
  rw [putF, if_neg (by rw [h]; simp), if_neg]
  intro h; simp only [Bool.and_eq_true, beq_iff_eq] at h; rw [h5 h.1] at h; exact absurd h.2 (by simp)
theorem putF_cap (d : Nat) (u : Ty) (free : List ByteArray) (is : Ty → Bool) (t x : Ty) (h : is t = false) (hk : t.kind = 5) (hf : hasN free t.name = true) (hx : arg0T t = x) :
    putF (d + 1) u free is t = withT (tAllB (freshT t.name (free ++ freeT x ++ [t.name])) (renT t.name (freshT t.name (free ++ freeT x ++ [t.name])) x)) [putF d u free is (renT t.name (freshT t.name (free ++ freeT x ++ [t.name])) x)] := by
  rw [putF, if_neg (by rw [h]; simp), if_pos (by rw [hk, hf]; rfl)]
  unfold renAll; rw [hx]; rfl

end Go.Proofs.YtofllmemmggapaaGreatDoor.Tp

/- The walk of Put's closure; what Put tells. -/
namespace Go.Proofs.YtofllmemmggapaaGreatDoor.Tp
open Go.RowKit

def PutSaid (d : Nat) : Prop := ∀ (nm : ByteArray) (u t : Ty) (S : Nat → Prop) (a ua : Option Addr) (c uc : Nat) (W : World), Good t → Good u → t.depth ≤ d → t.size ≤ 1073741824 → u.size ≤ 1073741824 →
  ArgsAt S W (.slice a t.args.length c) t.args → ArgsAt S W (.slice ua u.args.length uc) u.args → (∀ b, S b → b < W.heap.size) → Tab W → Calls Tryz.prog 60 #[tv t a c, .string nm, tv u ua uc] W (TP S (PutF d nm u t) W)

theorem Put1Enters (args : Array Value) (w : World) : (callFunc 86 args).run Tryz.prog w = .ok (.enter 86 args) w :=
  enters_of Tryz.func86 (by kernel_rfl) rfl args w

set_option maxHeartbeats 1600000 in
theorem Put1_any (d : Nat) (ih : PutSaid d) (nm : ByteArray) (u : Ty) (bf bu : Nat) (t : Ty) (S : Nat → Prop) (a ua : Option Addr) (c uc : Nat) (W : World) (hf : W.heap[bf]? = some (.cells #[.string nm] 9 (0, 0))) (hu : B4 W bu (.int .i64 u.kind) (.string u.name) (.int .i64 u.n) (.slice ua u.args.length uc)) (hg : Good t) (hgu : Good u) (hd : t.depth ≤ d) (hs : t.size ≤ 1073741824) (hsu : u.size ≤ 1073741824)
    (hA : ArgsAt S W (.slice a t.args.length c) t.args) (hU : ArgsAt S W (.slice ua u.args.length uc) u.args) (hS : ∀ b, S b → b < W.heap.size) (hT : Tab W) : Calls Tryz.prog 86 #[tv t a c, .pointer (some ⟨bf, 0, none⟩), .pointer (some ⟨bu, 0, none⟩)] W (TP S (PutF d nm u t) W) := by
  have hz := (Below.refl W.heap.size W).alloc (Nat.le_refl _) (.cells #[.int .i64 t.kind, .string t.name, .int .i64 t.n, .slice a t.args.length c] 26)
  have hz2 := hz.alloc hz.size (.cells #[.int .i64 0, .string ⟨#[]⟩, .int .i64 0, .slice none 0 0] 26)
  have k4 := (B4.new W (.int .i64 t.kind) (.string t.name) (.int .i64 t.n) (.slice a t.args.length c)).low ((Below.refl _ _).alloc (Nat.le_refl _) (.cells #[.int .i64 0, .string ⟨#[]⟩, .int .i64 0, .slice none 0 0] 26))
  have q4 : B4 ((W.alloc (.cells #[.int .i64 t.kind, .string t.name, .int .i64 t.n, .slice a t.args.length c] 26)).alloc (.cells #[.int .i64 0, .string ⟨#[]⟩, .int .i64 0, .slice none 0 0] 26)) (W.heap.size + 1) (.int .i64 0) (.string ⟨#[]⟩) (.int .i64 0) (.slice none 0 0) := alloc_new (by simp)
  have c0 := k4.c0
  have c1 := k4.c1
  have c2 := k4.c2
  have c3 := k4.c3
  have e0 := (hz2.cell (p := ⟨bf, 0, none⟩) (Array.getElem?_eq_some_iff.1 hf).1).trans (cell_of_row _ _ 0 _ _ _ hf)
  have hu4 := hu.low hz2
  have e1 := hu4.c0
  have e2 := hu4.c1
  have e3 := hu4.c2
  have e4 := hu4.c3
  have C := Lib.hid (ih nm u t S a ua c uc _ hg hgu hd hs hsu (hA.keep fun b hb => hz2.block b (hS b hb)) (hU.keep fun b hb => hz2.block b (hS b hb)) (fun b hb => Nat.lt_of_lt_of_le (hS b hb) hz2.size) (tab_below hT hz2))
  have HZ2 := Lib.hid hz2
  have HS := Lib.hid hS
  have Q4 := Lib.hid q4
  unfold tv at *
  clear hz hz2 k4 q4 hf hu hu4 hA hU hS hT hg hgu hd hs hsu
  go_enter Tryz.func86, Tryz.ntmps86
  go_wp2_with fail
  refine C.out.mono ?_
  rintro e W2 ⟨a2, c2, rfl, hA2, hb2⟩
  have q4 := Q4.out.low hb2
  have r0 := q4.c0
  have r1 := q4.c1
  have r2 := q4.c2
  have r3 := q4.c3
  have s0 := q4.fr 0
  have s1 := q4.fr 1
  have s2 := q4.fr 2
  have s3 := q4.fr 3
  have HA2 := Lib.hid hA2
  have HB2 := Lib.hid hb2
  clear hA2 hb2
  unfold tv
  generalize PutF d nm u t = y at *
  go_wp2
  have q5 := B4.set4 q4 (.int .i64 y.kind) (.string y.name) (.int .i64 y.n) (.slice a2 y.args.length c2)
  exact bodyPost_ret (v := tv y a2 c2) (by simp [results, Tryz.results86, go_sem, tv, q5.c0, q5.c1, q5.c2, q5.c3]) rfl (TP.stored HS.out HZ2.out HA2.out HB2.out (by omega) (by simp))

end Go.Proofs.YtofllmemmggapaaGreatDoor.Tp

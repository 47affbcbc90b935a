/- Texts laid together: TyRenP, TyLen, TyPrintE, TyFresh, TyRenA. -/
import Derived.Test.YtofllmemmggapaaGreatDoorP08
import Derived.Lib.ItoaLen
import Derived.Test.YtofllmemmggapaaGreatDoorP15
import Derived.Test.YtofllmemmggapaaGreatDoorP14
import Derived.Test.YtofllmemmggapaaGreatDoorP12

/- Giving a free variable another name. No program in sight. -/
namespace Go.Proofs.YtofllmemmggapaaGreatDoor.Tp

def eqN (a b : ByteArray) : Bool := decide (a.data = b.data)
theorem eqN_iff (a b : ByteArray) : eqN a b = true ↔ a = b := by
  unfold eqN; rw [decide_eq_true_eq]; exact ⟨ByteArray.ext, fun h => by rw [h]⟩
theorem eqN_false (a b : ByteArray) : eqN a b = false ↔ a ≠ b := by rw [← Bool.not_eq_true, eqN_iff]

def withA (t : Ty) (args : List Ty) : Ty := .mk t.kind t.name t.n args
def arg0T (t : Ty) : Ty := match t.args with | a :: _ => a | [] => t
def tAllB (s : ByteArray) (x : Ty) : Ty := .mk 5 s 0 [x]

/-- renamed, to a depth -/
def renF : Nat → ByteArray → ByteArray → Ty → Ty
  | 0, _, _, t => t
  | d + 1, fr, to, t =>
    if t.kind == 1 && eqN t.name fr then .mk t.kind to t.n t.args
    else if t.kind == 5 && eqN t.name fr then t
    else if t.kind == 5 && eqN t.name to then tAllB (freshT to (freeT (arg0T t) ++ [fr, to])) (renF d fr to (renF d to (freshT to (freeT (arg0T t) ++ [fr, to])) (arg0T t)))
    else withA t (t.args.map (renF d fr to))

def renT (fr to : ByteArray) (t : Ty) : Ty := renF t.depth fr to t

/-- its names: a for all's is not empty; none is long -/
def NmT (t : Ty) : Prop := (t.kind = 5 → 1 ≤ t.name.size) ∧ t.name.size ≤ 64
mutual
def Nm : Ty → Prop
  | .mk k s _ args => ((k = 5 → 1 ≤ s.size) ∧ s.size ≤ 64) ∧ NmL args
def NmL : List Ty → Prop
  | [] => True
  | t :: ts => Nm t ∧ NmL ts
end
theorem NmL_iff (ts : List Ty) : NmL ts ↔ ∀ t ∈ ts, Nm t := by
  induction ts with
  | nil => simp [NmL]
  | cons t ts ih => rw [NmL, ih]; simp
theorem nm_iff (t : Ty) : Nm t ↔ ((t.kind = 5 → 1 ≤ t.name.size) ∧ t.name.size ≤ 64) ∧ ∀ a ∈ t.args, Nm a := by
  cases t with
  | mk k s n args => rw [Nm, NmL_iff]; rfl

/-- well made, with names -/
def Good (t : Ty) : Prop := Wf t ∧ Nm t

theorem depthL_le (ts : List Ty) (d : Nat) : depthL ts ≤ d ↔ ∀ t ∈ ts, t.depth ≤ d := by
  induction ts with
  | nil => simp [depthL]
  | cons t ts ih => rw [depthL, Nat.max_le, ih]; simp
theorem depthL_map (f : Ty → Ty) (ts : List Ty) (h : ∀ t ∈ ts, (f t).depth = t.depth) : depthL (ts.map f) = depthL ts := by
  induction ts with
  | nil => rfl
  | cons t ts ih => rw [List.map_cons, depthL, depthL, h t (by simp), ih fun u hu => h u (by simp [hu])]
theorem sizeL_map (f : Ty → Ty) (ts : List Ty) (h : ∀ t ∈ ts, (f t).size = t.size) : sizeL (ts.map f) = sizeL ts := by
  induction ts with
  | nil => rfl
  | cons t ts ih => rw [List.map_cons, sizeL, sizeL, h t (by simp), ih fun u hu => h u (by simp [hu])]

theorem wf_k5 {t : Ty} (h : Wf t) (hk : t.kind = 5) : ∃ x, t.args = [x] ∧ arg0T t = x := by
  have : t.args.length = 1 := by rcases ((wf_iff t).1 h).1 with h | h | h | h | h <;> first | omega | exact h.2
  match hl : t.args, this with
  | [x], _ => exact ⟨x, rfl, by unfold arg0T; rw [hl]⟩

theorem freshT_size (nm : ByteArray) (but : List ByteArray) (hb : but.length ≤ 1099511627776) (h : 1 ≤ nm.size) : 1 ≤ (freshT nm but).size ∧ (freshT nm but).size ≤ 64 := by
  have hf := firstN_spec (fname nm) (fun _ _ => fname_inj) but 0
  unfold freshT
  generalize firstN (fname nm) but (but.length + 1) 0 = k at *
  have h2 := Lib.itoa_length_le (k : Int) (by omega) (by omega)
  unfold fname
  rw [ByteArray.size_append, ByteArray.size_append, ByteArray.size_extract]
  have h3 : (⟨#[95]⟩ : ByteArray).size = 1 := rfl
  have h4 : (bytes (Lib.itoa (k : Int))).size = (Lib.itoa (k : Int)).length := by simp [bytes, ByteArray.size]
  omega

theorem freeAcc_len : ∀ (t : Ty) (out ns : List ByteArray), (walkF freeStep t out ns).length ≤ out.length + t.size := by
  intro t
  induction t using Ty.ind with
  | h t ih =>
    intro out ns
    rw [walkF_eq, t.size_eq]
    have h1 : (freeStep out t ns).length ≤ out.length + 1 := by unfold freeStep; split <;> simp
    have : ∀ (l : List Ty) (out ns), (∀ a ∈ l, ∀ (out ns : List ByteArray), (walkF freeStep a out ns).length ≤ out.length + a.size) → (walkL freeStep l out ns).length ≤ out.length + sizeL l := by
      intro l
      induction l with
      | nil => intro out ns _; simp [walkL, sizeL]
      | cons a l ihl =>
        intro out ns h
        rw [walkL, sizeL]
        have := ihl (walkF freeStep a out ns) ns fun b hb => h b (by simp [hb])
        have := h a (by simp) out ns
        omega
    have := this t.args (freeStep out t ns) (if t.kind = 5 then t.name :: ns else ns) ih
    omega
theorem freeT_len (t : Ty) : (freeT t).length ≤ t.size := by have := freeAcc_len t [] []; simpa [freeT] using this

/-- renaming keeps what a type is made of -/
theorem ren_keeps : ∀ (d : Nat) (fr to : ByteArray) (t : Ty), t.depth ≤ d → Good t → to.size ≤ 64 → t.size ≤ 1099511627000 →
    (renF d fr to t).depth = t.depth ∧ (renF d fr to t).size = t.size ∧ Good (renF d fr to t) ∧ (renF d fr to t).kind = t.kind := by
  intro d
  induction d with
  | zero => intro fr to t h; rw [t.depth_eq] at h; omega
  | succ d ih =>
    intro fr to t h hg hto hs
    have hwf := (wf_iff t).1 hg.1
    have hnm := (nm_iff t).1 hg.2
    have hd : ∀ a ∈ t.args, a.depth ≤ d := fun a ha => by have := depth_arg _ ha; rw [t.depth_eq] at h; omega
    have hsz : ∀ a ∈ t.args, a.size ≤ 1099511627000 := fun a ha => by have := size_arg _ ha; rw [t.size_eq] at hs; omega
    rw [renF]
    split
    · next hc =>
      have hk : t.kind = 1 := by simp at hc; exact hc.1
      refine ⟨by rw [Ty.depth_eq, Ty.depth_eq]; rfl, by rw [Ty.size_eq, Ty.size_eq]; rfl, ⟨?_, ?_⟩, rfl⟩
      · exact (wf_iff _).2 hwf
      · exact (nm_iff _).2 ⟨⟨fun e => by have : t.kind = 5 := e; omega, hto⟩, hnm.2⟩
    · split
      · exact ⟨rfl, rfl, hg, rfl⟩
      · split
        · next hc =>
          have hk : t.kind = 5 := by simp at hc; exact hc.1
          have hn : t.name = to := by simp only [Bool.and_eq_true] at hc; exact (eqN_iff _ _).1 hc.2
          obtain ⟨x, hx, hx0⟩ := wf_k5 hg.1 hk
          rw [hx0]
          have hx1 : x ∈ t.args := by rw [hx]; simp
          have hfl := freeT_len x
          have hfs := freshT_size to (freeT x ++ [fr, to]) (by have := hsz x hx1; simp; omega) (by rw [← hn]; exact hnm.1.1 hk)
          obtain ⟨a1, a2, a3, a4⟩ := ih to (freshT to (freeT x ++ [fr, to])) x (hd x hx1) ⟨hwf.2 x hx1, hnm.2 x hx1⟩ hfs.2 (hsz x hx1)
          obtain ⟨b1, b2, b3, b4⟩ := ih fr to (renF d to (freshT to (freeT x ++ [fr, to])) x) (by rw [a1]; exact hd x hx1) a3 hto (by rw [a2]; exact hsz x hx1)
          refine ⟨?_, ?_, ⟨?_, ?_⟩, hk.symm⟩
          · rw [Ty.depth_eq, t.depth_eq, hx]; show depthL [_] + 1 = _; rw [depthL, depthL, depthL, depthL, b1, a1]
          · rw [Ty.size_eq, t.size_eq, hx]; show sizeL [_] + 1 = _; rw [sizeL, sizeL, sizeL, sizeL, b2, a2]
          · exact (wf_iff _).2 ⟨.inr (.inr (.inr (.inr ⟨rfl, rfl⟩))), fun a ha => by obtain rfl := List.mem_singleton.1 ha; exact b3.1⟩
          · exact (nm_iff _).2 ⟨⟨fun _ => hfs.1, hfs.2⟩, fun a ha => by obtain rfl := List.mem_singleton.1 ha; exact b3.2⟩
        · have hi := fun a (ha : a ∈ t.args) => ih fr to a (hd a ha) ⟨hwf.2 a ha, hnm.2 a ha⟩ hto (hsz a ha)
          refine ⟨?_, ?_, ⟨?_, ?_⟩, rfl⟩
          · rw [Ty.depth_eq, t.depth_eq]; show depthL (t.args.map _) + 1 = _; rw [depthL_map _ _ fun a ha => (hi a ha).1]
          · rw [Ty.size_eq, t.size_eq]; show sizeL (t.args.map _) + 1 = _; rw [sizeL_map _ _ fun a ha => (hi a ha).2.1]
          · refine (wf_iff _).2 ⟨?_, fun a ha => ?_⟩
            · show (t.kind = 1 ∧ t.args.map _ = [] ∨ t.kind = 2 ∧ t.args.map _ = [] ∧ _ ∨ t.kind = 3 ∨ t.kind = 4 ∧ (t.args.map _).length = 2 ∨ t.kind = 5 ∧ (t.args.map _).length = 1)
              rw [List.map_eq_nil_iff, List.length_map]
              exact hwf.1
            · obtain ⟨b, hb, rfl⟩ := List.mem_map.1 ha
              exact (hi b hb).2.2.1.1
          · refine (nm_iff _).2 ⟨hnm.1, fun a ha => ?_⟩
            obtain ⟨b, hb, rfl⟩ := List.mem_map.1 ha
            exact (hi b hb).2.2.1.2

end Go.Proofs.YtofllmemmggapaaGreatDoor.Tp

/- How long a type's text is. No program in sight. -/
namespace Go.Proofs.YtofllmemmggapaaGreatDoor.Tp

theorem paren_len (b : Bool) (p : List UInt8) : (paren b p).length ≤ p.length + 2 := by
  unfold paren; split <;> simp

theorem flat_len (l : List Ty) (h : ∀ a ∈ l, (printT a).length + 4 ≤ 80 * a.size) : ((l.zip (l.map printT)).flatMap fun x => 32 :: paren x.1.atomic x.2).length ≤ 80 * sizeL l := by
  induction l with
  | nil => simp [sizeL]
  | cons a l ih =>
    simp only [List.map_cons, List.zip_cons_cons, List.flatMap_cons, List.length_append, List.length_cons, sizeL]
    have := ih fun b hb => h b (by simp [hb])
    have := h a (by simp)
    have := paren_len a.atomic (printT a)
    omega

theorem printT_len : ∀ t : Ty, Good t → (printT t).length + 4 ≤ 80 * t.size := by
  intro t
  induction t using Ty.ind with
  | h t ih =>
    intro hg
    have hwf := (wf_iff t).1 hg.1
    have hnm := (nm_iff t).1 hg.2
    have hi := fun a ha => ih a ha ⟨hwf.2 a ha, hnm.2 a ha⟩
    have hn : t.name.data.toList.length ≤ 64 := hnm.1.2
    rw [printT_eq, t.size_eq]
    unfold render
    rcases hwf.1 with h | h | h | h | h
    · rw [if_neg (by omega), if_neg (by omega), if_neg (by omega), if_neg (by omega)]; omega
    · rw [if_pos h.1]
      have := Lib.itoa_length_le t.n (by omega) (by omega)
      simp only [List.length_cons]; omega
    · rw [if_neg (by omega), if_pos h, List.length_append]
      have := flat_len t.args hi
      omega
    · rw [if_neg (by omega), if_neg (by omega), if_pos h.1]
      match hl : t.args, h.2 with
      | [x, y], _ =>
        have h1 := hi x (by rw [hl]; simp)
        have h2 := hi y (by rw [hl]; simp)
        have := paren_len (decide (x.kind < 4)) (printT x)
        simp only [List.map_cons, List.map_nil, List.length_append, sizeL, List.length_cons, List.length_nil]
        omega
    · rw [if_neg (by omega), if_neg (by omega), if_neg (by omega), if_pos h.1]
      match hl : t.args, h.2 with
      | [x], _ =>
        have h1 := hi x (by rw [hl]; simp)
        simp only [List.map_cons, List.map_nil, List.length_append, sizeL]
        have h7 : forallT.length = 7 := rfl
        split
        · simp only [List.length_cons, List.length_drop]; omega
        · simp only [List.length_append, List.length_cons, List.length_nil]; omega

end Go.Proofs.YtofllmemmggapaaGreatDoor.Tp

/- Print, whatever the type. -/
namespace Go.Proofs.YtofllmemmggapaaGreatDoor.Tp
open Go.RowKit

theorem print_below (n : Nat) : ∀ t : Ty, t.depth ≤ n → PrintSaid t := by
  induction n with
  | zero => intro t h; rw [t.depth_eq] at h; omega
  | succ n ih =>
    intro t hn
    have lower : ∀ u ∈ t.args, u.depth ≤ n := fun u hu => by have := depth_arg _ hu; rw [t.depth_eq] at hn; omega
    intro S a c w hA hS hw hl ht
    rcases ((wf_iff t).1 hw).1 with h | h | h | h | h
    · exact print_var t h.1 a c w
    · exact print_meta t h.1 h.2.2.1 h.2.2.2 a c w ht
    · exact print_con t h (fun u hu => ih u (lower u hu)) S a c w hA hS hw hl ht
    · obtain ⟨x, y, hxy⟩ : ∃ x y, t.args = [x, y] := by
        match hl : t.args, h.2 with
        | [x, y], _ => exact ⟨x, y, rfl⟩
      exact print_fun t h.1 x y hxy (ih x (lower x (by rw [hxy]; simp))) (ih y (lower y (by rw [hxy]; simp))) S a c w hA hS hw hl ht
    · obtain ⟨x, hx⟩ := one_arg h.2
      exact print_all t h.1 x hx (fun u hu => ih u (by omega)) S a c w hA hS hw hl ht

/-- Print tells a type's text. -/
theorem print_any (t : Ty) : PrintSaid t := print_below t.depth t (Nat.le_refl _)

end Go.Proofs.YtofllmemmggapaaGreatDoor.Tp

/- The walk of fresh. -/
namespace Go.Proofs.YtofllmemmggapaaGreatDoor.Tp
open Go.RowKit Go.Sort

theorem itoa_any (n : Int) (h0 : -9223372036854775808 ≤ n) (h1 : n ≤ 9223372036854775807) (w : World) (ht : Tab w) :
    Calls Tryz.prog 47 #[.int .i64 n] w fun e w' => e = .returned (.string (bytes (Lib.itoa n))) ∧ Below w.heap.size w w' :=
  (Tryz.strconv_Itoa n h0 h1 w ht).mono fun e w' ⟨he, k, os, hw⟩ => ⟨he, by subst hw; exact Lib.below_grow _ _ (Nat.le_refl _) k os⟩

theorem fname_size (nm : ByteArray) (i : Nat) (hi : i ≤ 9223372036854775807) : (fname nm i).size ≤ 24 := by
  unfold fname
  rw [ByteArray.size_append, ByteArray.size_append, bytes_size]
  have h1 := Lib.itoa_length_le (i : Int) (by omega) (by omega)
  have h2 : (nm.extract 0 1).size ≤ 1 := by rw [ByteArray.size_extract]; omega
  have h3 : (⟨#[95]⟩ : ByteArray).size = 1 := rfl
  omega

set_option maxHeartbeats 1600000 in
theorem fresh_any (nm : ByteArray) (h1 : 1 ≤ nm.size) (S : Nat → Prop) (v : Value) (but : List ByteArray) (w : World) (hs : StrsAt S w v but) (hS : ∀ b, S b → b < w.heap.size) (ht : Tab w) :
    Calls Tryz.prog 84 #[.string nm, v] w fun e w' => e = .returned (.string (freshT nm but)) ∧ Below w.heap.size w w' := by
  have hl : but.length ≤ 1099511627776 := by obtain ⟨_, _, _, _, h, _⟩ := hs; exact h
  have HS := Lib.hid hs
  have HT := Lib.hid ht
  have HSS := Lib.hid hS
  have z1 : (1 : Int) ≤ (nm.size : Int) := by omega
  clear hs ht hS
  go_enter Tryz.func84, Tryz.ntmps84
  go_wp2
  go_loopw [5] (fun iv wr => ∃ i : Nat, iv = .int .i64 i ∧ i ≤ but.length ∧ (∀ j, j < i → hasN but (fname nm j) = true) ∧ Below w.heap.size w wr) (fun iv _ => but.length + 1 - (intOf iv).toNat)
  case atStart => exact ⟨0, rfl, Nat.zero_le _, fun j hj => by omega, Below.refl _ _⟩
  case round =>
    obtain ⟨i, rfl, hi, hall, hB⟩ := hrel
    have DI := Lib.hid (fun p => later_of (w := wr) (p := p) (itoa_any (i : Int) (by omega) (by omega) _ (tab_below HT.out (hB.trans ((later_below wr p).mono hB.size)))))
    have CC := Lib.hid (fun p => contains_any (HS.out.keep fun b hb => (hB.trans ((later_below wr p).mono hB.size)).block b (HSS.out b hb)) (fname nm i))
    have HB := Lib.hid hB
    have HA := Lib.hid hall
    have F : Hid (nm.extract 0 1 ++ ⟨#[95]⟩ ++ bytes (Lib.itoa (i : Int)) = fname nm i) := Lib.hid rfl
    have hil := Lib.itoa_length_le (i : Int) (by omega) (by omega)
    have hs1 : (bytes (Lib.itoa (i : Int))).size ≤ 21 := by rw [bytes_size]; exact hil
    have hs2 : (nm.extract 0 1).size ≤ 1 := by rw [ByteArray.size_extract]; omega
    clear hall hB hil
    go_wp2_with fail
    refine wp_region_later (by kernel_rfl) (by kernel_rfl) ?_
    repeat (go_big_quiet_step (exact DI.out _))
    refine wpQuiet_nil ?_
    intro _ hw'
    obtain ⟨pq, hw''⟩ := hw'
    subst hw''
    rw [F.out]
    have B1 := Lib.hid (HB.out.trans ((later_below wr pq).mono HB.out.size))
    have C1 := Lib.hid (CC.out pq)
    have hfs := fname_size nm i (by omega)
    cases hn : hasN but (fname nm i) with
    | true =>
      have HA2 := Lib.hid (show ∀ j, j < i + 1 → hasN but (fname nm j) = true from fun j hj => by
        rcases Nat.lt_or_ge j i with h | h
        · exact HA.out j h
        · rw [show j = i by omega]; exact hn)
      have hpg : i + 1 ≤ but.length := pigeon (fname nm) (fun _ _ => fname_inj) (i + 1) but 0 fun j hj => by
        rw [Nat.zero_add]
        refine (hasN_iff _ _).1 ?_
        rcases Nat.lt_or_ge j i with h | h
        · exact HA.out j h
        · rw [show j = i by omega]; exact hn
      rw [contains_hasN, hn] at C1
      generalize later wr pq = w1 at *
      clear hn F DI CC HA
      generalize fname nm i = fn at *
      go_wp2_with fail
      refine C1.out.mono ?_
      rintro e w' ⟨rfl, rfl⟩
      go_wp2
      go_roundw
      case rel => exact ⟨i + 1, by go_num, by omega, HA2.out, B1.out⟩
      case measure => simp [intOf]; omega
    | false =>
      have E : Hid (freshT nm but = fname nm i) := Lib.hid (by
        unfold freshT
        rw [firstN_eq (fname nm) but (but.length + 1) 0 i (by omega) (by omega) (fun j _ hj => HA.out j hj) hn])
      rw [contains_hasN, hn] at C1
      generalize later wr pq = w1 at *
      clear hn F DI CC HA
      generalize fname nm i = fn at *
      go_wp2_with fail
      refine C1.out.mono ?_
      rintro e w' ⟨rfl, rfl⟩
      go_wp2
      go_ret
      exact ⟨by rw [E.out]; rfl, B1.out⟩

end Go.Proofs.YtofllmemmggapaaGreatDoor.Tp

/- The walk of renamed's closure; what renamed tells. -/
namespace Go.Proofs.YtofllmemmggapaaGreatDoor.Tp
open Go.RowKit

/-- what a function that makes a type tells, where nothing that was there changes -/
def TP (S : Nat → Prop) (y : Ty) (W : World) (e : Ending) (W' : World) : Prop :=
  ∃ a c, e = .returned (tv y a c) ∧ ArgsAt (New S W W') W' (.slice a y.args.length c) y.args ∧ Below W.heap.size W W'

def noT (_ : Nat) : Prop := False
def noI (_ : Unit) (_ : World) : Prop := True
theorem TP.post {S : Nat → Prop} {y : Ty} {W : World} {e : Ending} {W' : World} (h : TP S y W e W') : TyPost S noT noI y () W e W' := by
  obtain ⟨a, c, he, hA, hb⟩ := h
  exact ⟨a, c, he, hA, trivial, .of_below hb⟩
theorem TP.of {S : Nat → Prop} {y : Ty} {g : Unit} {W : World} {e : Ending} {W' : World} (h : TyPost S noT noI y g W e W') : TP S y W e W' := by
  obtain ⟨a, c, he, hA, _, hk⟩ := h
  exact ⟨a, c, he, hA, hk.to_below⟩
theorem mapAcc_unit (f : Ty → Ty) (l : List Ty) : (mapAcc (fun (_ : Unit) x => (f x, ())) () l).1 = l.map f := by
  induction l with
  | nil => rfl
  | cons t l ih => simp only [mapAcc, List.map_cons, ih]

/-- later on -/
theorem TP.later {S : Nat → Prop} {y : Ty} {W W1 : World} {e : Ending} {W' : World} (hb : Below W.heap.size W W1) (h : TP S y W1 e W') : TP S y W e W' := by
  obtain ⟨a, c, he, hA, hb'⟩ := h
  exact ⟨a, c, he, hA.mono fun b hb2 => hb2.imp id fun h => ⟨Nat.le_trans hb.size h.1, h.2⟩, hb.trans (hb'.mono hb.size)⟩

/-- a closure that calls a function, keeps the type that it makes in a cell of its own, and hands it back -/
theorem TP.stored {S : Nat → Prop} {y : Ty} {W W1 W2 : World} {a : Option Addr} {c R : Nat} (hS : ∀ b, S b → b < W.heap.size) (hb : Below W.heap.size W W1) (hA : ArgsAt (New S W1 W2) W2 (.slice a y.args.length c) y.args) (hb2 : Below W1.heap.size W1 W2) (hR : W.heap.size ≤ R) (hR1 : R < W1.heap.size) :
    TP S y W (.returned (tv y a c)) ((((W2.setCell ⟨R, 0, none⟩ (.int .i64 y.kind)).setCell ⟨R, 1, none⟩ (.string y.name)).setCell ⟨R, 2, none⟩ (.int .i64 y.n)).setCell ⟨R, 3, none⟩ (.slice a y.args.length c)) := by
  have hs : ∀ b, b ≠ R → ((((W2.setCell ⟨R, 0, none⟩ (.int .i64 y.kind)).setCell ⟨R, 1, none⟩ (.string y.name)).setCell ⟨R, 2, none⟩ (.int .i64 y.n)).setCell ⟨R, 3, none⟩ (.slice a y.args.length c)).heap[b]? = W2.heap[b]? := fun b hb => by
    rw [Below.heap_setCell _ _ _ _ hb, Below.heap_setCell _ _ _ _ hb, Below.heap_setCell _ _ _ _ hb, Below.heap_setCell _ _ _ _ hb]
  refine ⟨a, c, rfl, (hA.keep fun b h => hs b ?_).mono fun b h => h.imp id fun h => ⟨Nat.le_trans hb.size h.1, by simpa using h.2⟩, (hb.trans (hb2.mono hb.size)).set4 hR _ _ _ _⟩
  rcases h with h | h
  · have := hS b h; omega
  · omega

def RenSaid (d : Nat) : Prop := ∀ (fr to : ByteArray) (t : Ty) (S : Nat → Prop) (a : Option Addr) (c : Nat) (W : World), Good t → t.depth ≤ d → t.size ≤ 1099511627000 → fr.size ≤ 64 → to.size ≤ 64 →
  ArgsAt S W (.slice a t.args.length c) t.args → (∀ b, S b → b < W.heap.size) → Tab W → Calls Tryz.prog 63 #[tv t a c, .string fr, .string to] W (TP S (renF d fr to t) W)

theorem ren1Enters (args : Array Value) (w : World) : (callFunc 87 args).run Tryz.prog w = .ok (.enter 87 args) w :=
  enters_of Tryz.func87 (by kernel_rfl) rfl args w

set_option maxHeartbeats 1600000 in
theorem ren1_any (d : Nat) (ih : RenSaid d) (fr to : ByteArray) (bf bt : Nat) (t : Ty) (S : Nat → Prop) (a : Option Addr) (c : Nat) (W : World) (hf : W.cell? ⟨bf, 0, none⟩ = some (.string fr)) (ht : W.cell? ⟨bt, 0, none⟩ = some (.string to)) (hg : Good t) (hd : t.depth ≤ d) (hs : t.size ≤ 1099511627000) (hfr : fr.size ≤ 64) (hto : to.size ≤ 64)
    (hA : ArgsAt S W (.slice a t.args.length c) t.args) (hS : ∀ b, S b → b < W.heap.size) (hT : Tab W) : Calls Tryz.prog 87 #[tv t a c, .pointer (some ⟨bf, 0, none⟩), .pointer (some ⟨bt, 0, none⟩)] W (TP S (renF d fr to t) W) := by
  have hz := (Below.refl W.heap.size W).alloc (Nat.le_refl _) (.cells #[.int .i64 t.kind, .string t.name, .int .i64 t.n, .slice a t.args.length c] 26)
  have hz2 := hz.alloc hz.size (.cells #[.int .i64 0, .string ⟨#[]⟩, .int .i64 0, .slice none 0 0] 26)
  have k4 := (B4.new W (.int .i64 t.kind) (.string t.name) (.int .i64 t.n) (.slice a t.args.length c)).low ((Below.refl _ _).alloc (Nat.le_refl _) (.cells #[.int .i64 0, .string ⟨#[]⟩, .int .i64 0, .slice none 0 0] 26))
  have q4 : B4 ((W.alloc (.cells #[.int .i64 t.kind, .string t.name, .int .i64 t.n, .slice a t.args.length c] 26)).alloc (.cells #[.int .i64 0, .string ⟨#[]⟩, .int .i64 0, .slice none 0 0] 26)) (W.heap.size + 1) (.int .i64 0) (.string ⟨#[]⟩) (.int .i64 0) (.slice none 0 0) := alloc_new (by simp)
  have c0 := k4.c0
  have c1 := k4.c1
  have c2 := k4.c2
  have c3 := k4.c3
  have e0 := (hz2.cell (p := ⟨bf, 0, none⟩) (World.block_lt_of_cell? W _ hf)).trans hf
  have e1 := (hz2.cell (p := ⟨bt, 0, none⟩) (World.block_lt_of_cell? W _ ht)).trans ht
  have C := Lib.hid (ih fr to t S a c _ hg hd hs hfr hto (hA.keep fun b hb => hz2.block b (hS b hb)) (fun b hb => Nat.lt_of_lt_of_le (hS b hb) hz2.size) (tab_below hT hz2))
  have HZ2 := Lib.hid hz2
  have HS := Lib.hid hS
  have Q4 := Lib.hid q4
  unfold tv at *
  clear hz hz2 k4 q4 hf ht hA hS hT hg hd hs hfr hto
  go_enter Tryz.func87, Tryz.ntmps87
  go_wp2_with fail
  refine C.out.mono ?_
  rintro e W2 ⟨a2, c2, rfl, hA2, hb2⟩
  have q4 := Q4.out.low hb2
  have r0 := q4.c0
  have r1 := q4.c1
  have r2 := q4.c2
  have r3 := q4.c3
  have s0 := q4.fr 0
  have s1 := q4.fr 1
  have s2 := q4.fr 2
  have s3 := q4.fr 3
  have HA2 := Lib.hid hA2
  have HB2 := Lib.hid hb2
  clear hA2 hb2
  unfold tv
  generalize renF d fr to t = y at *
  go_wp2
  have q5 := B4.set4 q4 (.int .i64 y.kind) (.string y.name) (.int .i64 y.n) (.slice a2 y.args.length c2)
  exact bodyPost_ret (v := tv y a2 c2) (by simp [results, Tryz.results87, go_sem, tv, q5.c0, q5.c1, q5.c2, q5.c3]) rfl (TP.stored HS.out HZ2.out HA2.out HB2.out (by omega) (by simp))

end Go.Proofs.YtofllmemmggapaaGreatDoor.Tp

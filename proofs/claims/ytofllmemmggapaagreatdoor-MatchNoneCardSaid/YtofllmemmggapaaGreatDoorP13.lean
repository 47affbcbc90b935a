/- Texts laid together: TyRenP, TyLen. -/
import Derived.Test.YtofllmemmggapaaGreatDoorP12
import Derived.Lib.ItoaLen

/- Giving a free variable another name. No program in sight. -/
namespace Go.Proofs.YtofllmemmggapaaGreatDoor.Tp

def eqN (a b : ByteArray) : Bool := decide (a.data = b.data)
theorem eqN_iff (a b : ByteArray) : eqN a b = true ↔ a = b := by
  unfold eqN; rw [decide_eq_true_eq]; exact ⟨ByteArray.ext, fun h => by rw [h]⟩
theorem eqN_false (a b : ByteArray) : eqN a b = false ↔ a ≠ b := by rw [← Bool.not_eq_true, eqN_iff]

def withA (t : Ty) (args : List Ty) : Ty := .mk t.kind t.name t.n args
def arg0T (t : Ty) : Ty := match t.args with | a :: _ => a | [] => t
def tAllB (s : ByteArray) (x : Ty) : Ty := .mk 5 s 0 [x]

/-- renamed, to a depth -/
def renF : Nat → ByteArray → ByteArray → Ty → Ty
  | 0, _, _, t => t
  | d + 1, fr, to, t =>
    if t.kind == 1 && eqN t.name fr then .mk t.kind to t.n t.args
    else if t.kind == 5 && eqN t.name fr then t
    else if t.kind == 5 && eqN t.name to then tAllB (freshT to (freeT (arg0T t) ++ [fr, to])) (renF d fr to (renF d to (freshT to (freeT (arg0T t) ++ [fr, to])) (arg0T t)))
    else withA t (t.args.map (renF d fr to))

def renT (fr to : ByteArray) (t : Ty) : Ty := renF t.depth fr to t

/-- its names: a for all's is not empty; none is long -/
def NmT (t : Ty) : Prop := (t.kind = 5 → 1 ≤ t.name.size) ∧ t.name.size ≤ 64
mutual
def Nm : Ty → Prop
  | .mk k s _ args => ((k = 5 → 1 ≤ s.size) ∧ s.size ≤ 64) ∧ NmL args
def NmL : List Ty → Prop
  | [] => True
  | t :: ts => Nm t ∧ NmL ts
end
theorem NmL_iff (ts : List Ty) : NmL ts ↔ ∀ t ∈ ts, Nm t := by
  induction ts with
  | nil => simp [NmL]
  | cons t ts ih => rw [NmL, ih]; simp
theorem nm_iff (t : Ty) : Nm t ↔ ((t.kind = 5 → 1 ≤ t.name.size) ∧ t.name.size ≤ 64) ∧ ∀ a ∈ t.args, Nm a := by
  cases t with
  | mk k s n args => rw [Nm, NmL_iff]; rfl

/-- well made, with names -/
def Good (t : Ty) : Prop := Wf t ∧ Nm t

theorem depthL_le (ts : List Ty) (d : Nat) : depthL ts ≤ d ↔ ∀ t ∈ ts, t.depth ≤ d := by
  induction ts with
  | nil => simp [depthL]
  | cons t ts ih => rw [depthL, Nat.max_le, ih]; simp
theorem depthL_map (f : Ty → Ty) (ts : List Ty) (h : ∀ t ∈ ts, (f t).depth = t.depth) : depthL (ts.map f) = depthL ts := by
  induction ts with
  | nil => rfl
  | cons t ts ih => rw [List.map_cons, depthL, depthL, h t (by simp), ih fun u hu => h u (by simp [hu])]
theorem sizeL_map (f : Ty → Ty) (ts : List Ty) (h : ∀ t ∈ ts, (f t).size = t.size) : sizeL (ts.map f) = sizeL ts := by
  induction ts with
  | nil => rfl
  | cons t ts ih => rw [List.map_cons, sizeL, sizeL, h t (by simp), ih fun u hu => h u (by simp [hu])]

theorem wf_k5 {t : Ty} (h : Wf t) (hk : t.kind = 5) : ∃ x, t.args = [x] ∧ arg0T t = x := by
  have : t.args.length = 1 := by rcases ((wf_iff t).1 h).1 with h | h | h | h | h <;> first | omega | exact h.2
  match hl : t.args, this with
  | [x], _ => exact ⟨x, rfl, by unfold arg0T; rw [hl]⟩

theorem freshT_size (nm : ByteArray) (but : List ByteArray) (hb : but.length ≤ 1099511627776) (h : 1 ≤ nm.size) : 1 ≤ (freshT nm but).size ∧ (freshT nm but).size ≤ 64 := by
  have hf := firstN_spec (fname nm) (fun _ _ => fname_inj) but 0
  unfold freshT
  generalize firstN (fname nm) but (but.length + 1) 0 = k at *
  have h2 := Lib.itoa_length_le (k : Int) (by omega) (by omega)
  unfold fname
  rw [ByteArray.size_append, ByteArray.size_append, ByteArray.size_extract]
  have h3 : (⟨#[95]⟩ : ByteArray).size = 1 := rfl
  have h4 : (bytes (Lib.itoa (k : Int))).size = (Lib.itoa (k : Int)).length := by simp [bytes, ByteArray.size]
  omega

theorem freeAcc_len : ∀ (t : Ty) (out ns : List ByteArray), (walkF freeStep t out ns).length ≤ out.length + t.size := by
  intro t
  induction t using Ty.ind with
  | h t ih =>
    intro out ns
    rw [walkF_eq, t.size_eq]
    have h1 : (freeStep out t ns).length ≤ out.length + 1 := by unfold freeStep; split <;> simp
    have : ∀ (l : List Ty) (out ns), (∀ a ∈ l, ∀ (out ns : List ByteArray), (walkF freeStep a out ns).length ≤ out.length + a.size) → (walkL freeStep l out ns).length ≤ out.length + sizeL l := by
      intro l
      induction l with
      | nil => intro out ns _; simp [walkL, sizeL]
      | cons a l ihl =>
        intro out ns h
        rw [walkL, sizeL]
        have := ihl (walkF freeStep a out ns) ns fun b hb => h b (by simp [hb])
        have := h a (by simp) out ns
        omega
    have := this t.args (freeStep out t ns) (if t.kind = 5 then t.name :: ns else ns) ih
    omega
theorem freeT_len (t : Ty) : (freeT t).length ≤ t.size := by have := freeAcc_len t [] []; simpa [freeT] using this

/-- renaming keeps what a type is made of -/
theorem ren_keeps : ∀ (d : Nat) (fr to : ByteArray) (t : Ty), t.depth ≤ d → Good t → to.size ≤ 64 → t.size ≤ 1099511627000 →
    (renF d fr to t).depth = t.depth ∧ (renF d fr to t).size = t.size ∧ Good (renF d fr to t) ∧ (renF d fr to t).kind = t.kind := by
  intro d
  induction d with
  | zero => intro fr to t h; rw [t.depth_eq] at h; omega
  | succ d ih =>
    intro fr to t h hg hto hs
    have hwf := (wf_iff t).1 hg.1
    have hnm := (nm_iff t).1 hg.2
    have hd : ∀ a ∈ t.args, a.depth ≤ d := fun a ha => by have := depth_arg _ ha; rw [t.depth_eq] at h; omega
    have hsz : ∀ a ∈ t.args, a.size ≤ 1099511627000 := fun a ha => by have := size_arg _ ha; rw [t.size_eq] at hs; omega
    rw [renF]
    split
    · next hc =>
      have hk : t.kind = 1 := by simp at hc; exact hc.1
      refine ⟨by rw [Ty.depth_eq, Ty.depth_eq]; rfl, by rw [Ty.size_eq, Ty.size_eq]; rfl, ⟨?_, ?_⟩, rfl⟩
      · exact (wf_iff _).2 hwf
      · exact (nm_iff _).2 ⟨⟨fun e => by have : t.kind = 5 := e; omega, hto⟩, hnm.2⟩
    · split
      · exact ⟨rfl, rfl, hg, rfl⟩
      · split
        · next hc =>
          have hk : t.kind = 5 := by simp at hc; exact hc.1
          have hn : t.name = to := by simp only [Bool.and_eq_true] at hc; exact (eqN_iff _ _).1 hc.2
          obtain ⟨x, hx, hx0⟩ := wf_k5 hg.1 hk
          rw [hx0]
          have hx1 : x ∈ t.args := by rw [hx]; simp
          have hfl := freeT_len x
          have hfs := freshT_size to (freeT x ++ [fr, to]) (by have := hsz x hx1; simp; omega) (by rw [← hn]; exact hnm.1.1 hk)
          obtain ⟨a1, a2, a3, a4⟩ := ih to (freshT to (freeT x ++ [fr, to])) x (hd x hx1) ⟨hwf.2 x hx1, hnm.2 x hx1⟩ hfs.2 (hsz x hx1)
          obtain ⟨b1, b2, b3, b4⟩ := ih fr to (renF d to (freshT to (freeT x ++ [fr, to])) x) (by rw [a1]; exact hd x hx1) a3 hto (by rw [a2]; exact hsz x hx1)
          refine ⟨?_, ?_, ⟨?_, ?_⟩, hk.symm⟩
          · rw [Ty.depth_eq, t.depth_eq, hx]; show depthL [_] + 1 = _; rw [depthL, depthL, depthL, depthL, b1, a1]
          · rw [Ty.size_eq, t.size_eq, hx]; show sizeL [_] + 1 = _; rw [sizeL, sizeL, sizeL, sizeL, b2, a2]
          · exact (wf_iff _).2 ⟨.inr (.inr (.inr (.inr ⟨rfl, rfl⟩))), fun a ha => by obtain rfl := List.mem_singleton.1 ha; exact b3.1⟩
          · exact (nm_iff _).2 ⟨⟨fun _ => hfs.1, hfs.2⟩, fun a ha => by obtain rfl := List.mem_singleton.1 ha; exact b3.2⟩
        · have hi := fun a (ha : a ∈ t.args) => ih fr to a (hd a ha) ⟨hwf.2 a ha, hnm.2 a ha⟩ hto (hsz a ha)
          refine ⟨?_, ?_, ⟨?_, ?_⟩, rfl⟩
          · rw [Ty.depth_eq, t.depth_eq]; show depthL (t.args.map _) + 1 = _; rw [depthL_map _ _ fun a ha => (hi a ha).1]
          · rw [Ty.size_eq, t.size_eq]; show sizeL (t.args.map _) + 1 = _; rw [sizeL_map _ _ fun a ha => (hi a ha).2.1]
          · refine (wf_iff _).2 ⟨?_, fun a ha => ?_⟩
            · show (t.kind = 1 ∧ t.args.map _ = [] ∨ t.kind = 2 ∧ t.args.map _ = [] ∧ _ ∨ t.kind = 3 ∨ t.kind = 4 ∧ (t.args.map _).length = 2 ∨ t.kind = 5 ∧ (t.args.map _).length = 1)
              rw [List.map_eq_nil_iff, List.length_map]
              exact hwf.1
            · obtain ⟨b, hb, rfl⟩ := List.mem_map.1 ha
              exact (hi b hb).2.2.1.1
          · refine (nm_iff _).2 ⟨hnm.1, fun a ha => ?_⟩
            obtain ⟨b, hb, rfl⟩ := List.mem_map.1 ha
            exact (hi b hb).2.2.1.2

end Go.Proofs.YtofllmemmggapaaGreatDoor.Tp

/- How long a type's text is. No program in sight. -/
namespace Go.Proofs.YtofllmemmggapaaGreatDoor.Tp

theorem paren_len (b : Bool) (p : List UInt8) : (paren b p).length ≤ p.length + 2 := by
  unfold paren; split <;> simp

theorem flat_len (l : List Ty) (h : ∀ a ∈ l, (printT a).length + 4 ≤ 80 * a.size) : ((l.zip (l.map printT)).flatMap fun x => 32 :: paren x.1.atomic x.2).length ≤ 80 * sizeL l := by
  induction l with
  | nil => simp [sizeL]
  | cons a l ih =>
    simp only [List.map_cons, List.zip_cons_cons, List.flatMap_cons, List.length_append, List.length_cons, sizeL]
    have := ih fun b hb => h b (by simp [hb])
    have := h a (by simp)
    have := paren_len a.atomic (printT a)
    omega

theorem printT_len : ∀ t : Ty, Good t → (printT t).length + 4 ≤ 80 * t.size := by
  intro t
  induction t using Ty.ind with
  | h t ih =>
    intro hg
    have hwf := (wf_iff t).1 hg.1
    have hnm := (nm_iff t).1 hg.2
    have hi := fun a ha => ih a ha ⟨hwf.2 a ha, hnm.2 a ha⟩
    have hn : t.name.data.toList.length ≤ 64 := hnm.1.2
    rw [printT_eq, t.size_eq]
    unfold render
    rcases hwf.1 with h | h | h | h | h
    · rw [if_neg (by omega), if_neg (by omega), if_neg (by omega), if_neg (by omega)]; omega
    · rw [if_pos h.1]
      have := Lib.itoa_length_le t.n (by omega) (by omega)
      simp only [List.length_cons]; omega
    · rw [if_neg (by omega), if_pos h, List.length_append]
      have := flat_len t.args hi
      omega
    · rw [if_neg (by omega), if_neg (by omega), if_pos h.1]
      match hl : t.args, h.2 with
      | [x, y], _ =>
        have h1 := hi x (by rw [hl]; simp)
        have h2 := hi y (by rw [hl]; simp)
        have := paren_len (decide (x.kind < 4)) (printT x)
        simp only [List.map_cons, List.map_nil, List.length_append, sizeL, List.length_cons, List.length_nil]
        omega
    · rw [if_neg (by omega), if_neg (by omega), if_neg (by omega), if_pos h.1]
      match hl : t.args, h.2 with
      | [x], _ =>
        have h1 := hi x (by rw [hl]; simp)
        simp only [List.map_cons, List.map_nil, List.length_append, sizeL]
        have h7 : forallT.length = 7 := rfl
        split
        · simp only [List.length_cons, List.length_drop]; omega
        · simp only [List.length_append, List.length_cons, List.length_nil]; omega

end Go.Proofs.YtofllmemmggapaaGreatDoor.Tp

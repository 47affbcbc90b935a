/- The visit's loop on plain lists: what holds at each round. No program in sight. -/
import Derived.Test.YtlffdipjddlceaaOrdTold
namespace Go.Proofs.Ytlffdipjddlceaa.Od

structure Loop (g : List (List Nat)) (gray : List Nat) (i now f : Nat) (s : St) (jj : Nat) (c : Nat × St) : Prop where
  going : Going g gray i now s ((us g i).take jj) c
  wh : white g c.2 ≤ f
  nw : c.1 + white g c.2 ≤ g.length + 1
  fold : c = ((us g i).take jj).foldl (stepWith (visit g f) i) (now + 1, s.push i now)

theorem Inv.olen {g : List (List Nat)} {gray : List Nat} {now : Nat} {s : St} (h : Inv g gray now s) : s.opn.length ≤ g.length := by
  have := pigeon s.opn (List.range g.length) h.ond (fun x hx => List.mem_range.2 (h.lt (h.omet hx)))
  simpa using this

theorem len_flatten (l : List (List Nat)) (h : ∀ q ∈ l, q ≠ []) : l.length ≤ l.flatten.length := by
  induction l with
  | nil => simp
  | cons a l ih =>
    have h1 := ih fun q hq => h q (List.mem_cons_of_mem _ hq)
    have h2 := List.length_pos_iff.2 (h a (by simp))
    simp only [List.length_cons, List.flatten_cons, List.length_append]; omega

theorem Inv.glen {g : List (List Nat)} {gray : List Nat} {now : Nat} {s : St} (h : Inv g gray now s) : s.grp.length ≤ g.length := by
  have h1 := len_flatten s.grp fun q hq => (h.gso q hq).1
  have h2 := pigeon s.grp.flatten (List.range g.length) h.gnd (fun x hx => by
    obtain ⟨q, hq, hxq⟩ := List.mem_flatten.1 hx
    exact List.mem_range.2 (h.lt ((h.part x).2 (.inr ⟨q, hq, hxq⟩))))
  rw [List.length_range] at h2
  omega

theorem Loop.start {g : List (List Nat)} {gray : List Nat} {now f : Nat} {s : St} (h : Inv g gray now s) {i : Nat} (hi : i < g.length) (hw : s.m i = 0) (hg : ∀ x ∈ gray, Reach g x i) (hf : white g s ≤ f + 1) (hn : now + white g s ≤ g.length + 1) :
    Loop g gray i now f s 0 (now + 1, s.push i now) := by
  have hwp := white_push h.lm hi hw h.now1
  exact ⟨going_start h hi hw hg, by simp only; omega, by simp only; omega, rfl⟩

theorem Loop.next {g : List (List Nat)} {gray : List Nat} {now f : Nat} {s : St} (h0 : Inv g gray now s) (hv : Valid g) {i : Nat} (hi : i < g.length) (hw : s.m i = 0) (hg : ∀ x ∈ gray, Reach g x i)
    {jj : Nat} {c : Nat × St} (h : Loop g gray i now f s jj c) (hj : jj < (us g i).length)
    (hn : c.2.m (us g i)[jj] = 0 → (visit g f (us g i)[jj] c.1 c.2).1 + white g (visit g f (us g i)[jj] c.1 c.2).2 ≤ g.length + 1) : Loop g gray i now f s (jj + 1) (stepWith (visit g f) i c (us g i)[jj]) := by
  have htake : (us g i).take (jj + 1) = (us g i).take jj ++ [(us g i)[jj]] := by rw [List.take_add_one, List.getElem?_eq_getElem hj]; rfl
  have hki : (us g i)[jj] ∈ us g i := List.getElem_mem hj
  generalize (us g i)[jj] = k at *
  have hr : ∀ x ∈ i :: gray, Reach g x k := fun x hx => by
    rcases List.mem_cons.1 hx with rfl | hx
    · exact .edge hki
    · exact (hg x hx).trans (.edge hki)
  have V := fun hz => visit_ok g hv f (i :: gray) k c.1 c.2 h.going.inv (hv i k hki) hz hr h.wh
  have st := going_step (v := visit g f) h.going h0 hi hw hki V
  have hm : ∀ x, c.2.m x ≠ 0 → (stepWith (visit g f) i c k).2.m x ≠ 0 := by
    intro x hx
    unfold stepWith
    by_cases hz : c.2.m k = 0
    · rw [if_pos hz]
      show (visit g f k c.1 c.2).2.m x ≠ 0
      rw [(V hz).1.ext.m x hx]; exact hx
    · rw [if_neg hz]; split <;> exact hx
  have wl := white_mono g _ _ hm
  refine ⟨by rw [htake]; exact st, Nat.le_trans wl h.wh, ?_, by rw [htake, List.foldl_append, ← h.fold]; rfl⟩
  have h3 := h.nw
  unfold stepWith
  by_cases hz : c.2.m k = 0
  · rw [if_pos hz]; exact hn hz
  · rw [if_neg hz]; split
    · exact h.nw
    · exact h.nw

end Go.Proofs.Ytlffdipjddlceaa.Od

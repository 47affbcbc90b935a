/- Texts laid together: TyNames. -/
import Derived.Test.YtifaaihekgnhiaaDoorP31
import Derived.BigQuiet

/- The walks of names, numbers and Has. -/
namespace Go.Proofs.YtifaaihekgnhiaaDoor.Tp
open Go.RowKit

/-- A slice value that holds the numbers l, in a block of S. -/
def NumsAt (S : Nat → Prop) (w : World) (v : Value) (l : List Int) : Prop :=
  ∃ a c, v = .slice a l.length c ∧ l.length ≤ c ∧ l.length ≤ 1099511627776 ∧ (l = [] ∨ ∃ b off, a = some ⟨b, off, none⟩ ∧ S b ∧ ∀ j (h : j < l.length), w.cell? ⟨b, off + j, none⟩ = some (.int .i64 l[j]))
theorem NumsAt.keep {S : Nat → Prop} {A B : World} (h : ∀ b, S b → B.heap[b]? = A.heap[b]?) {v : Value} {l : List Int} (hs : NumsAt S A v l) : NumsAt S B v l := by
  obtain ⟨a, c, e, h1, h2, h3⟩ := hs
  refine ⟨a, c, e, h1, h2, h3.imp id ?_⟩
  rintro ⟨b, off, e, hb, hc⟩
  exact ⟨b, off, e, hb, fun j hj => (World.cell?_of_block (h b hb)).trans (hc j hj)⟩
/-- a row that the call owns holds numbers -/
theorem NumsAt.of_own {w : World} {lo : Nat} {v : Value} {l : List Int} (h : w.ownsRow lo 3 1 v l.length (l.map (Value.int .i64))) (hl : l.length ≤ 1099511627776) : NumsAt (fun b => v.ownBlock = some b) w v l := by
  rcases h.2 with ⟨rfl, h0⟩ | ⟨g, cap, cur, rfl, hb, hg, h1, h2, h3, h4⟩
  · have : l = [] := List.eq_nil_of_length_eq_zero h0
    subst this
    exact ⟨none, 0, rfl, Nat.zero_le _, by simp, .inl rfl⟩
  · refine ⟨_, cap, rfl, h1, hl, .inr ⟨g, 0, rfl, rfl, fun j hj => ?_⟩⟩
    have hc := h.cells (g := g) rfl j (.int .i64 l[j]) (by rw [List.getElem?_map, List.getElem?_eq_getElem hj]; rfl)
    have hadd : ∀ j, (⟨g, 0, none⟩ : Addr).add j = ⟨g, j, none⟩ := fun j => by unfold Addr.add; split <;> simp_all
    rw [hadd] at hc
    rw [Nat.zero_add]
    exact hc

theorem bneN_true {a b : ByteArray} (h : a ≠ b) : (a.toList != b.toList) = true := by
  have := beqN_false h
  unfold bne; rw [this]; rfl
theorem bneN_false {a b : ByteArray} (h : a = b) : (a.toList != b.toList) = false := by
  have := beqN_true h
  unfold bne; rw [this]; rfl
theorem take_eq_succ {α : Type} (l m : List α) (k : Nat) (h : k < l.length) (h' : k < m.length) (e : l.take k = m.take k) (e' : l[k] = m[k]) : l.take (k + 1) = m.take (k + 1) := by
  rw [List.take_add_one, List.take_add_one, List.getElem?_eq_getElem h, List.getElem?_eq_getElem h', e, e']

/-- are two lists of names one? -/
def sameN (xs ys : List ByteArray) : Bool := decide (xs.map ByteArray.data = ys.map ByteArray.data)
theorem map_data_inj {xs ys : List ByteArray} (h : xs.map ByteArray.data = ys.map ByteArray.data) : xs = ys := by
  have := congrArg (List.map ByteArray.mk) h
  rw [List.map_map, List.map_map] at this
  have e : ∀ l : List ByteArray, l.map (ByteArray.mk ∘ ByteArray.data) = l := fun l => by
    conv => rhs; rw [← List.map_id l]
    exact List.map_congr_left fun x _ => rfl
  rwa [e, e] at this
theorem sameN_true {xs ys : List ByteArray} (h : xs = ys) : sameN xs ys = true := by unfold sameN; rw [h]; simp
theorem sameN_false {xs ys : List ByteArray} (h : xs ≠ ys) : sameN xs ys = false := by
  unfold sameN; rw [decide_eq_false_iff_not]; exact fun e => h (map_data_inj e)

set_option maxHeartbeats 1600000 in
theorem names_any (S T : Nat → Prop) (va vb : Value) (xs ys : List ByteArray) (w : World) (hA : StrsAt S w va xs) (hB : StrsAt T w vb ys) :
    Calls Tryd.prog 13 #[va, vb] w fun e w' => e = .returned (.bool (sameN xs ys)) ∧ ∃ n, w' = w.drewN n := by
  obtain ⟨a, cap, rfl, hlen, hl1, _, hc⟩ := hA
  obtain ⟨a', cap', rfl, hlen', hl2, _, hc'⟩ := hB
  go_enter Tryd.func13, Tryd.ntmps13
  by_cases h0 : xs.length = ys.length
  · have f0 : ((xs.length : Int) != ys.length) = false := by rw [h0]; simp
    go_wp2
    go_loopw [5] (fun i wr => ∃ k : Nat, k ≤ xs.length ∧ i = .int .i64 k ∧ xs.take k = ys.take k ∧ ∃ n, wr = w.drewN n) (fun i _ => xs.length - (intOf i).toNat)
    case atStart => exact ⟨0, Nat.zero_le _, rfl, by simp, 0, rfl⟩
    case round =>
      obtain ⟨k, hk, rfl, hb, n, rfl⟩ := hrel
      have H := Lib.hid hb; clear hb
      by_cases hlt : k < xs.length
      · obtain ⟨b, off, rfl, _, hcc⟩ := hc.resolve_left (by intro e; rw [e] at hlt; simp at hlt)
        have hlt' : k < ys.length := by omega
        obtain ⟨b', off', rfl, _, hcc'⟩ := hc'.resolve_left (by intro e; rw [e] at hlt'; simp at hlt')
        have hcy := hcc k hlt
        have hcy' := hcc' k hlt'
        have z0 : (0 : Int) ≤ (k : Int) := by omega
        have z1 : (k : Int) < (xs.length : Int) := by omega
        have z2 : (k : Int) < (ys.length : Int) := by omega
        clear hcc hc hcc' hc'
        by_cases hx : xs[k] = ys[k]
        · have f1 := beqN_true hx
          have st := Lib.hid (take_eq_succ _ _ k hlt hlt' H.out hx)
          clear hx
          go_wp2
          go_quiet (fail)
          go_wp2
          exact ⟨⟨k + 1, by omega, by simp, st.out, _, rfl⟩, by simp [intOf]; omega⟩
        · have f1 := beqN_false hx
          have G : Hid (sameN xs ys = false) := Lib.hid (sameN_false (by intro e; subst e; exact hx rfl))
          clear hx
          go_wp2
          go_quiet (fail)
          go_wp2
          go_ret
          exact ⟨ret_bool G.out.symm, _, by first | rfl | exact World.drewN_drewN _ _ _⟩
      · obtain rfl : k = xs.length := by omega
        have G : Hid (sameN xs ys = true) := Lib.hid (sameN_true (by
          have := H.out
          rwa [List.take_length, h0, List.take_length] at this))
        go_wp2
        go_ret
        exact ⟨ret_bool G.out.symm, _, rfl⟩
  · have f0 : ((xs.length : Int) != ys.length) = true := by simp only [bne_iff_ne, ne_eq]; omega
    have G : Hid (sameN xs ys = false) := Lib.hid (sameN_false (by intro e; subst e; exact h0 rfl))
    go_wp2
    go_ret
    exact ⟨ret_bool G.out.symm, 0, rfl⟩

set_option maxHeartbeats 1600000 in
theorem numbers_any (S T : Nat → Prop) (va vb : Value) (xs ys : List Int) (w : World) (hA : NumsAt S w va xs) (hB : NumsAt T w vb ys) :
    Calls Tryd.prog 15 #[va, vb] w fun e w' => e = .returned (.bool (decide (xs = ys))) ∧ ∃ n, w' = w.drewN n := by
  obtain ⟨a, cap, rfl, hlen, hl1, hc⟩ := hA
  obtain ⟨a', cap', rfl, hlen', hl2, hc'⟩ := hB
  go_enter Tryd.func15, Tryd.ntmps15
  by_cases h0 : xs.length = ys.length
  · have f0 : ((xs.length : Int) != ys.length) = false := by rw [h0]; simp
    go_wp2
    go_loopw [5] (fun i wr => ∃ k : Nat, k ≤ xs.length ∧ i = .int .i64 k ∧ xs.take k = ys.take k ∧ ∃ n, wr = w.drewN n) (fun i _ => xs.length - (intOf i).toNat)
    case atStart => exact ⟨0, Nat.zero_le _, rfl, by simp, 0, rfl⟩
    case round =>
      obtain ⟨k, hk, rfl, hb, n, rfl⟩ := hrel
      have H := Lib.hid hb; clear hb
      by_cases hlt : k < xs.length
      · obtain ⟨b, off, rfl, _, hcc⟩ := hc.resolve_left (by intro e; rw [e] at hlt; simp at hlt)
        have hlt' : k < ys.length := by omega
        obtain ⟨b', off', rfl, _, hcc'⟩ := hc'.resolve_left (by intro e; rw [e] at hlt'; simp at hlt')
        have hcy := hcc k hlt
        have hcy' := hcc' k hlt'
        have z0 : (0 : Int) ≤ (k : Int) := by omega
        have z1 : (k : Int) < (xs.length : Int) := by omega
        have z2 : (k : Int) < (ys.length : Int) := by omega
        clear hcc hc hcc' hc'
        by_cases hx : xs[k] = ys[k]
        · have f1 : (xs[k] != ys[k]) = false := by rw [hx]; simp
          have st := Lib.hid (take_eq_succ _ _ k hlt hlt' H.out hx)
          clear hx
          go_wp2
          go_quiet (fail)
          go_wp2
          exact ⟨⟨k + 1, by omega, by simp, st.out, _, rfl⟩, by simp [intOf]; omega⟩
        · have f1 : (xs[k] != ys[k]) = true := by simpa using hx
          have G : Hid (decide (xs = ys) = false) := Lib.hid (decide_eq_false (by intro e; subst e; exact hx rfl))
          clear hx
          go_wp2
          go_quiet (fail)
          go_wp2
          go_ret
          exact ⟨ret_bool G.out.symm, _, by first | rfl | exact World.drewN_drewN _ _ _⟩
      · obtain rfl : k = xs.length := by omega
        have G : Hid (decide (xs = ys) = true) := Lib.hid (decide_eq_true (by
          have := H.out
          rwa [List.take_length, h0, List.take_length] at this))
        go_wp2
        go_ret
        exact ⟨ret_bool G.out.symm, _, rfl⟩
  · have f0 : ((xs.length : Int) != ys.length) = true := by simp only [bne_iff_ne, ne_eq]; omega
    have G : Hid (decide (xs = ys) = false) := Lib.hid (decide_eq_false (by intro e; subst e; exact h0 rfl))
    go_wp2
    go_ret
    exact ⟨ret_bool G.out.symm, 0, rfl⟩

set_option maxHeartbeats 1600000 in
theorem has_any (S : Nat → Prop) (va : Value) (xs : List ByteArray) (x : ByteArray) (w : World) (hA : StrsAt S w va xs) :
    Calls Tryd.prog 18 #[va, .string x] w fun e w' => e = .returned (.bool (hasN xs x)) ∧ w = w' := by
  obtain ⟨a, cap, rfl, hlen, hl1, _, hc⟩ := hA
  go_enter Tryd.func18, Tryd.ntmps18
  go_wp2
  go_loop [5] (fun i => ∃ k : Nat, k ≤ xs.length ∧ i = .int .i64 k ∧ x ∉ xs.take k) (fun i => xs.length - (intOf i).toNat)
  case atStart => exact ⟨0, Nat.zero_le _, rfl, by simp⟩
  case round =>
    obtain ⟨k, hk, rfl, hb⟩ := hrel
    have H := Lib.hid hb; clear hb
    by_cases hlt : k < xs.length
    · obtain ⟨b, off, rfl, _, hcc⟩ := hc.resolve_left (by intro e; rw [e] at hlt; simp at hlt)
      have hcy := hcc k hlt
      have z0 : (0 : Int) ≤ (k : Int) := by omega
      have z1 : (k : Int) < (xs.length : Int) := by omega
      clear hcc hc
      by_cases hx : xs[k] = x
      · have f1 := beqN_true hx
        have G : Hid (hasN xs x = true) := Lib.hid ((hasN_iff _ _).2 (by rw [← hx]; exact List.getElem_mem hlt))
        clear hx
        go_wp2
        go_ret
        exact ⟨ret_bool G.out.symm, rfl⟩
      · have f1 := beqN_false hx
        have st : Hid (x ∉ xs.take (k + 1)) := Lib.hid (by
          rw [List.take_add_one, List.getElem?_eq_getElem hlt]
          intro h
          rcases List.mem_append.1 h with h | h
          · exact H.out h
          · simp only [Option.toList_some, List.mem_singleton] at h; exact hx h.symm)
        clear hx
        go_wp2
        go_round
        case rel => exact ⟨k + 1, by omega, by go_num, st.out⟩
        case measure => simp [intOf]; omega
    · obtain rfl : k = xs.length := by omega
      have G : Hid (hasN xs x = false) := Lib.hid ((hasN_false _ _).2 (by
        have := H.out
        rwa [List.take_length] at this))
      go_wp2
      go_ret
      exact ⟨ret_bool G.out.symm, rfl⟩

end Go.Proofs.YtifaaihekgnhiaaDoor.Tp

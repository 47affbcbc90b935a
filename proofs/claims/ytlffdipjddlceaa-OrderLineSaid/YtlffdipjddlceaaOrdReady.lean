/- told's closures, and Groups' one: what they tell. -/
import Derived.Test.YtlffdipjddlceaaOrdFuncs
namespace Go.Proofs.Ytlffdipjddlceaa.Od
open Go.RowKit Go.Shelf

/-- what told's closures capture, in memory -/
structure TB (w : World) (Bu Bg Bof Bdn Bo Bd n m : Nat) (uv gv : Value) (of : Nat → Nat) (d : Nat → Bool) : Prop where
  u : w.cell? ⟨Bu, 0, none⟩ = some uv
  g : w.cell? ⟨Bg, 0, none⟩ = some gv
  o : w.cell? ⟨Bof, 0, none⟩ = some (.slice (some ⟨Bo, 0, none⟩) n n)
  dn : w.cell? ⟨Bdn, 0, none⟩ = some (.slice (some ⟨Bd, 0, none⟩) m m)
  os : ∀ j, j < n → w.cell? ⟨Bo, j, none⟩ = some (.int .i64 (of j : Nat))
  ds : ∀ j, j < m → w.cell? ⟨Bd, j, none⟩ = some (.bool (d j))

theorem TB.below {w w' : World} {Bu Bg Bof Bdn Bo Bd n m : Nat} {uv gv : Value} {of : Nat → Nat} {d : Nat → Bool} (h : TB w Bu Bg Bof Bdn Bo Bd n m uv gv of d) (hb : Below w.heap.size w w') : TB w' Bu Bg Bof Bdn Bo Bd n m uv gv of d := by
  have k : ∀ {a : Addr} {v : Value}, w.cell? a = some v → w'.cell? a = some v := fun {a v} e => (hb.cell (World.block_lt_of_cell? w a e)).trans e
  exact ⟨k h.u, k h.g, k h.o, k h.dn, fun j hj => k (h.os j hj), fun j hj => k (h.ds j hj)⟩

set_option maxHeartbeats 800000 in
theorem c25_any (w : World) (Bu Bg Bof Bgb Bdn Bo Bd n m k G : Nat) (uv gv : Value) (of : Nat → Nat) (d : Nat → Bool) (T : TB w Bu Bg Bof Bdn Bo Bd n m uv gv of d) (hG : w.cell? ⟨Bgb, 0, none⟩ = some (.int .i64 (G : Int)))
    (hk : k < n) (hok : of k < m) (_hn : n ≤ 500) (_hm : m ≤ 500) :
    Calls Try.prog 25 #[.int .i64 (k : Int), .pointer (some ⟨Bof, 0, none⟩), .pointer (some ⟨Bgb, 0, none⟩), .pointer (some ⟨Bdn, 0, none⟩)] w (Quiet w (!(of k == G) && !(d (of k)))) := by
  have h1 := T.o
  have h2 := T.dn
  have h3 := T.os k hk
  have h4 := T.ds (of k) hok
  clear T
  generalize of k = x at *
  generalize hdx : d x = dx at *
  have HD := Lib.hid hdx
  clear hdx
  have z0 : (0 : Int) ≤ (k : Int) := by omega
  have z1 : (k : Int) < (n : Int) := by omega
  have z2 : (0 : Int) ≤ (x : Int) := by omega
  have z3 : (x : Int) < (m : Int) := by omega
  by_cases hx : x = G
  · have t1 : ((x : Int) != (G : Int)) = false := by simp [hx]
    have e1 : (x == G) = true := by simpa using hx
    have E := Lib.hid e1
    clear hx e1
    go_enter Try.func25, Try.ntmps25
    go_wp2
    go_quiet (fail)
    go_wp2
    go_ret
    exact ⟨ret_bool (by rw [E.out]; rfl), nq, rfl⟩
  · have t1 : ((x : Int) != (G : Int)) = true := by rw [bne_iff_ne]; omega
    have e1 : (x == G) = false := by simpa using hx
    have E := Lib.hid e1
    clear hx e1
    go_enter Try.func25, Try.ntmps25
    go_wp2
    go_quiet (fail)
    go_wp2
    go_ret
    exact ⟨ret_bool (by rw [E.out]; rfl), nq, rfl⟩

set_option maxHeartbeats 800000 in
theorem c24_any (n₀ : Nat) (w : World) (Bu Bg Bof Bgb Bdn Bo Bd m i G : Nat) (g : List (List Nat)) (uv gv : Value) (of : Nat → Nat) (d : Nat → Bool) (T : TB w Bu Bg Bof Bdn Bo Bd g.length m uv gv of d) (hG : w.cell? ⟨Bgb, 0, none⟩ = some (.int .i64 (G : Int)))
    (hR : RowsAt n₀ w uv (rowsOf g)) (hv : Valid g) (hi : i < g.length) (hof : ∀ k, k < g.length → of k < m) (hn : g.length ≤ 500) (hm : m ≤ 500) :
    Calls Try.prog 24 #[.int .i64 (i : Int), .pointer (some ⟨Bu, 0, none⟩), .pointer (some ⟨Bof, 0, none⟩), .pointer (some ⟨Bgb, 0, none⟩), .pointer (some ⟨Bdn, 0, none⟩)] w
      (Quiet w ((us g i).any fun k => !(of k == G) && !(d (of k)))) := by
  have C := fun (mm : Nat) => containsFunc_any n₀ 25 #[.pointer (some ⟨Bof, 0, none⟩), .pointer (some ⟨Bgb, 0, none⟩), .pointer (some ⟨Bdn, 0, none⟩)]
  obtain ⟨b, off, cap, a, cap', rfl, hb, hcell, hrow⟩ := rows_row hR hi
  have CC := containsFunc_any n₀ 25 #[.pointer (some ⟨Bof, 0, none⟩), .pointer (some ⟨Bgb, 0, none⟩), .pointer (some ⟨Bdn, 0, none⟩)] (.slice a (us g i).length cap') (intsOf (us g i)) (fun x => !(of x.toNat == G) && !(d (of x.toNat))) w hrow (enters_of Try.func25 (by kernel_rfl) rfl) (by
    intro x hx mm
    obtain ⟨k, hk, rfl⟩ := List.mem_map.1 hx
    have := c25_any (w.drewN mm) Bu Bg Bof Bgb Bdn Bo Bd g.length m k G _ gv of d ⟨T.u, T.g, T.o, T.dn, T.os, T.ds⟩ hG (hv i k hk) (hof k (hv i k hk)) hn hm
    simpa using this)
  have e : ((intsOf (us g i)).any fun x => !(of x.toNat == G) && !(d (of x.toNat))) = (us g i).any fun k => !(of k == G) && !(d (of k)) := by
    unfold intsOf; rw [List.any_map]; rfl
  rw [e] at CC
  have H := Lib.hid CC
  have h1 := T.u
  clear C CC e T hrow hR
  have z0 : (0 : Int) ≤ (i : Int) := by omega
  have z1 : (i : Int) < (g.length : Int) := by omega
  go_enter Try.func24, Try.ntmps24
  go_wp2_with fail
  refine H.out.mono ?_
  rintro e w' ⟨rfl, nn, rfl⟩
  go_wp2
  go_ret
  exact ⟨rfl, nn, rfl⟩

/-- 'ready(G)' -/
def ReadyPost (w : World) (b : Bool) (e : Ending) (w' : World) : Prop := e = .returned (.bool b) ∧ Below w.heap.size w w'

set_option maxHeartbeats 800000 in
theorem c23_any (n₀ n₁ : Nat) (w : World) (Bu Bg Bof Bdn Bo Bd G : Nat) (g gs : List (List Nat)) (uv gv : Value) (of : Nat → Nat) (d : Nat → Bool) (T : TB w Bu Bg Bof Bdn Bo Bd g.length gs.length uv gv of d)
    (hR : RowsAt n₀ w uv (rowsOf g)) (hS : RowsAt n₁ w gv (rowsOf gs)) (hn0 : n₀ ≤ w.heap.size) (hn1 : n₁ ≤ w.heap.size) (hv : Valid g) (hG : G < gs.length) (hgs : ∀ q ∈ gs, ∀ x ∈ q, x < g.length) (hof : ∀ k, k < g.length → of k < gs.length) (hn : g.length ≤ 500) (hm : gs.length ≤ 500) :
    Calls Try.prog 23 #[.int .i64 (G : Int), .pointer (some ⟨Bdn, 0, none⟩), .pointer (some ⟨Bg, 0, none⟩), .pointer (some ⟨Bu, 0, none⟩), .pointer (some ⟨Bof, 0, none⟩)] w
      (ReadyPost w (!(d G) && !((us gs G).any fun i => (us g i).any fun k => !(of k == G) && !(d (of k))))) := by
  have hB := (Below.refl w.heap.size w).alloc (Nat.le_refl _) (.cells #[.int .i64 (G : Int)] 3)
  have T1 := T.below hB
  obtain ⟨b, off, cap, a, cap', rfl, hb, hcell, hrow⟩ := rows_row (hS.below (hB.mono hn1)) hG
  have hmem : ∀ x ∈ us gs G, x < g.length := hgs _ (by rw [us_get hG]; exact List.getElem_mem hG)
  have cG : (w.alloc (.cells #[.int .i64 (G : Int)] 3)).cell? ⟨w.heap.size, 0, none⟩ = some (.int .i64 (G : Int)) := cell_of_row _ _ 0 _ _ _ (heap_alloc_new w _)
  have CC := containsFunc_any n₁ 24 #[.pointer (some ⟨Bu, 0, none⟩), .pointer (some ⟨Bof, 0, none⟩), .pointer (some ⟨w.heap.size, 0, none⟩), .pointer (some ⟨Bdn, 0, none⟩)] (.slice a (us gs G).length cap') (intsOf (us gs G))
    (fun x => (us g x.toNat).any fun k => !(of k == G) && !(d (of k))) _ hrow (enters_of Try.func24 (by kernel_rfl) rfl) (by
    intro x hx mm
    obtain ⟨k, hk, rfl⟩ := List.mem_map.1 hx
    have := c24_any n₀ ((w.alloc (.cells #[.int .i64 (G : Int)] 3)).drewN mm) Bu Bg Bof w.heap.size Bdn Bo Bd gs.length k G g uv _ of d ⟨T1.u, T1.g, T1.o, T1.dn, T1.os, T1.ds⟩ cG ((hR.below (hB.mono hn0)).drew mm) hv (hmem k hk) hof hn hm
    simpa using this)
  have e : ((intsOf (us gs G)).any fun x => (us g x.toNat).any fun k => !(of k == G) && !(d (of k))) = (us gs G).any fun i => (us g i).any fun k => !(of k == G) && !(d (of k)) := by
    unfold intsOf; rw [List.any_map]; rfl
  rw [e] at CC
  have H := Lib.hid CC
  have h1 := T1.g
  have h2 := T1.dn
  have h3 := T1.ds G hG
  generalize hdG : d G = dG at *
  have HD := Lib.hid hdG
  clear CC e T T1 hrow hR hS hdG
  have z0 : (0 : Int) ≤ (G : Int) := by omega
  have z1 : (G : Int) < (gs.length : Int) := by omega
  cases dG
  · go_enter Try.func23, Try.ntmps23
    go_wp2_with fail
    refine H.out.mono ?_
    rintro e w' ⟨rfl, nn, rfl⟩
    go_wp2
    go_ret
    exact ⟨ret_bool (by rfl), hB.trans (Below.drewN_ nn)⟩
  · go_enter Try.func23, Try.ntmps23
    go_wp2
    go_ret
    exact ⟨ret_bool (by rfl), hB⟩

set_option maxHeartbeats 800000 in
/-- Groups' closure: is a number none of a thing? -/
theorem c13_any (w : World) (B : Nat) (b : Option Addr) (n cap : Nat) (k : Int) (h : w.cell? ⟨B, 0, none⟩ = some (.slice b n cap)) :
    Calls Try.prog 13 #[.int .i64 k, .pointer (some ⟨B, 0, none⟩)] w (Quiet w (decide (k < 0) || decide ((n : Int) ≤ k))) := by
  by_cases hk : k < 0
  · have e1 : decide (k < 0) = true := by simpa using hk
    have E := Lib.hid e1
    clear e1
    go_enter Try.func13, Try.ntmps13
    go_wp2
    go_ret
    exact ⟨ret_bool (by rw [E.out]; rfl), 0, rfl⟩
  · have e1 : decide (k < 0) = false := by simpa using hk
    have E := Lib.hid e1
    go_enter Try.func13, Try.ntmps13
    go_wp2
    go_ret
    exact ⟨rfl, 0, rfl⟩

end Go.Proofs.Ytlffdipjddlceaa.Od

/- ContainsFunc over ints, at a function value that only reads. -/
import Derived.Test.YtlffdipjddlceaaOrdVisitW
namespace Go.Proofs.Ytlffdipjddlceaa.Od
open Go.RowKit Go.Shelf

def Quiet (w : World) (b : Bool) (e : Ending) (w' : World) : Prop := e = .returned (.bool b) ∧ ∃ n, w' = w.drewN n

/-- the function value at x tells p x, in whatever world that is w but for draws -/
def Tells (F : Nat) (caps : Array Value) (w : World) (zs : List Int) (p : Int → Bool) : Prop :=
  ∀ x ∈ zs, ∀ m, Calls Try.prog F (#[.int .i64 x] ++ caps) (w.drewN m) (Quiet (w.drewN m) (p x))

def IdxPost (w : World) (zs : List Int) (p : Int → Bool) (e : Ending) (w' : World) : Prop := (∃ i : Int, e = .returned (.int .i64 i) ∧ (decide (0 ≤ i) = zs.any p) ∧ i ≤ zs.length ∧ -1 ≤ i) ∧ ∃ n, w' = w.drewN n

theorem any_take_succ {α : Type} (l : List α) (p : α → Bool) (k : Nat) (h : k < l.length) : (l.take (k + 1)).any p = ((l.take k).any p || p l[k]) := by
  rw [List.take_add_one, List.getElem?_eq_getElem h, List.any_append]; simp only [Option.toList_some, List.any_cons, List.any_nil, Bool.or_false]

set_option maxHeartbeats 800000 in
theorem indexFunc_any (n₀ F : Nat) (caps : Array Value) (v : Value) (zs : List Int) (p : Int → Bool) (w : World) (hI : IntsAt n₀ w v zs) (he : Enters Try.prog F) (hF : Tells F caps w zs p) :
    Calls Try.prog 18 #[v, .func (.func F) #[] caps] w (IdxPost w zs p) := by
  obtain ⟨a, cap, rfl, hlen, hc⟩ := hI
  have HF := Lib.hid hF
  have he' : ∀ (args : Array Value) (w : World), (callFunc F args).run Try.prog w = .ok (.enter F args) w := he
  clear hF he
  go_enter Try.func18, Try.ntmps18
  go_wp2
  go_loopw [8] (fun i wr => ∃ k : Nat, k ≤ zs.length ∧ i = .int .i64 k ∧ (zs.take k).any p = false ∧ ∃ m, wr = w.drewN m) (fun i _ => zs.length - (intOf i).toNat)
  case atStart => exact ⟨0, Nat.zero_le _, rfl, by simp, 0, rfl⟩
  case round =>
    obtain ⟨k, hk, rfl, hb, m, rfl⟩ := hrel
    have H := Lib.hid hb
    clear hb
    by_cases hlt : k < zs.length
    · obtain ⟨b, off, rfl, hbn, hcc⟩ := hc (by omega)
      have hcx : (w.drewN m).cell? ⟨b, off + k, none⟩ = some (.int .i64 zs[k]) := hcc k hlt
      have st := any_take_succ zs p k hlt
      rw [H.out, Bool.false_or] at st
      have CF := Lib.hid (HF.out zs[k] (List.getElem_mem hlt) m)
      have ST := Lib.hid st
      clear st hcc hc
      by_cases hp : p zs[k] = true
      · have HP := Lib.hid hp
        have hall : zs.any p = true := List.any_eq_true.2 ⟨zs[k], List.getElem_mem hlt, hp⟩
        have HA := Lib.hid hall
        clear hp hall
        go_wp2_with fail
        refine CF.out.mono ?_
        rintro e w' ⟨he, nn, rfl⟩
        rw [HP.out] at he
        subst he
        go_wp2
        go_ret
        exact ⟨⟨k, rfl, by rw [HA.out]; simp, by omega, by omega⟩, _, rfl⟩
      · have hp' : p zs[k] = false := by simpa using hp
        have HP := Lib.hid hp'
        clear hp hp'
        go_wp2_with fail
        refine CF.out.mono ?_
        rintro e w' ⟨he, nn, rfl⟩
        rw [HP.out] at he
        subst he
        go_wp2
        go_roundw
        case rel => exact ⟨k + 1, by omega, by go_num, by rw [ST.out, HP.out], m + nn, rfl⟩
        case measure => simp [intOf]; omega
    · obtain rfl : k = zs.length := by omega
      have hall : zs.any p = false := by have := H.out; rwa [List.take_length] at this
      have HA := Lib.hid hall
      clear hall
      go_wp2
      go_ret
      exact ⟨⟨-1, rfl, by rw [HA.out]; simp, by omega, by omega⟩, m, rfl⟩

theorem containsFunc_any (n₀ F : Nat) (caps : Array Value) (v : Value) (zs : List Int) (p : Int → Bool) (w : World) (hI : IntsAt n₀ w v zs) (he : Enters Try.prog F) (hF : Tells F caps w zs p) :
    Calls Try.prog 12 #[v, .func (.func F) #[] caps] w (Quiet w (zs.any p)) := by
  have C := Lib.hid (indexFunc_any n₀ F caps v zs p w hI he hF)
  clear hI he hF
  go_enter Try.func12, Try.ntmps12
  go_wp2_with fail
  refine C.out.mono ?_
  rintro e w' ⟨⟨i, rfl, hd, hi1, hi2⟩, n, rfl⟩
  have D := Lib.hid hd
  clear hd
  go_wp2
  go_ret
  exact ⟨ret_bool D.out, n, rfl⟩

end Go.Proofs.Ytlffdipjddlceaa.Od

/- Texts laid together: TySaid. -/
import Derived.Test.YtofllmemmggapaaGreatDoorP11

/- What the reader's functions tell, for every fuel. -/
namespace Go.Proofs.YtofllmemmggapaaGreatDoor.Tp
open Go.RowKit
open Lx

theorem said_upto : ∀ n : Nat, ∀ m, m ≤ n → Said m := by
  intro n
  induction n with
  | zero =>
    intro m hm
    obtain rfl : m = 0 := by omega
    exact ⟨fun _ _ _ _ _ _ _ _ h => by omega, fun _ _ _ _ _ _ _ _ h => by omega, fun _ _ _ _ _ _ _ _ h => by omega, fun _ _ _ _ _ _ _ _ h => by omega⟩
  | succ n ih =>
    intro m hm
    rcases Nat.lt_or_ge m (n + 1) with h | h
    · exact ih m (by omega)
    · obtain rfl : m = n + 1 := by omega
      have i := ih n (Nat.le_refl _)
      refine ⟨fun N B w l a b c d e => typ_any n N B w l i a b c d e, fun N B w l a b c d e => all_any n N B w l i a b c d e, fun N B w l a b c d e => ?_, fun N B w l a b c d e => atom_any n N B w l i a b c d e⟩
      cases h1 : sk l 2
      · exact app_atom n N B w l i a b c d e h1
      · exact app_con n N B w l ih a b c d e h1

theorem said (n : Nat) : Said n := said_upto n n (Nat.le_refl n)

end Go.Proofs.YtofllmemmggapaaGreatDoor.Tp

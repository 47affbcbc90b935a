/- Texts laid together: TyPut, TyFill. -/
import Derived.Test.YtifaaihekgnhiaaDoorP41
import Derived.Test.YtifaaihekgnhiaaDoorP40

/- Put, whatever the type. -/
namespace Go.Proofs.YtifaaihekgnhiaaDoor.Tp
open Go.RowKit

theorem put_said : ∀ d : Nat, PutSaid d := by
  intro d
  induction d with
  | zero => intro nm u t S a ua c uc W hg hgu h; rw [t.depth_eq] at h; omega
  | succ d ih =>
    intro nm u t S a ua c uc W hg hgu hd hs hsu hA hU hS hT
    by_cases h5 : t.kind = 5
    · by_cases hn : t.name = nm
      · exact put_same d nm u t S a ua c uc W h5 hn hA hS
      · cases hf : hasN (freeT u) t.name with
        | false => exact put_free d nm u t S a ua c uc W ih h5 hn hf hg hgu hd hs hsu hA hU hS hT
        | true => exact put_cap d nm u t S a ua c uc W ih h5 hn hf hg hgu hd hs hsu hA hU hS hT
    · by_cases h1 : t.kind = 1 ∧ t.name = nm
      · exact put_var d nm u t S a ua c uc W h1.1 h1.2 hU hS
      · exact put_plain d nm u t S a ua c uc W ih h5 (fun h e => h1 ⟨h, e⟩) hg hgu hd hs hsu hA hU hS hT

end Go.Proofs.YtifaaihekgnhiaaDoor.Tp

/- put whatever the type, Put and Fill. -/
namespace Go.Proofs.YtifaaihekgnhiaaDoor.Tp
open Go.RowKit

theorem fill_said : ∀ d : Nat, FillSaid d := by
  intro d
  induction d with
  | zero => intro u t free is fv isv S Sf a ua c uc W hg hgu h; rw [t.depth_eq] at h; omega
  | succ d ih =>
    intro u t free is fv isv S Sf a ua c uc W hg hgu hd hs hsu hsf hA hU hF hI hS hSf hT
    cases his : is t with
    | true => exact fill_is d u t free is fv isv S Sf a ua c uc W his hU hF hI hS
    | false =>
      by_cases h5 : t.kind = 5
      · cases hf : hasN free t.name with
        | false => exact fill_plain d u t free is fv isv S Sf a ua c uc W ih his (fun _ => hf) hg hgu hd hs hsu hsf hA hU hF hI hS hSf hT
        | true => exact fill_cap d u t free is fv isv S Sf a ua c uc W ih his h5 hf hg hgu hd hs hsu hsf hA hU hF hI hS hSf hT
      · exact fill_plain d u t free is fv isv S Sf a ua c uc W ih his (fun h => absurd h h5) hg hgu hd hs hsu hsf hA hU hF hI hS hSf hT

/-- Put at the plain one -/
theorem put_any (nm : ByteArray) (u t : Ty) (S : Nat → Prop) (a ua : Option Addr) (c uc : Nat) (W : World) (hg : Good t) (hgu : Good u) (hs : t.size ≤ 1073741824) (hsu : u.size ≤ 1073741824)
    (hA : ArgsAt S W (.slice a t.args.length c) t.args) (hU : ArgsAt S W (.slice ua u.args.length uc) u.args) (hS : ∀ b, S b → b < W.heap.size) (hT : Tab W) : Calls Tryd.prog 19 #[tv t a c, .string nm, tv u ua uc] W (TP S (PutT nm u t) W) :=
  put_said t.depth nm u t S a ua c uc W hg hgu (Nat.le_refl _) hs hsu hA hU hS hT

theorem Fill1Enters (args : Array Value) (w : World) : (callFunc 42 args).run Tryd.prog w = .ok (.enter 42 args) w :=
  enters_of Tryd.func42 (by kernel_rfl) rfl args w

theorem isMeta_eq (n : Int) (x : Ty) : isMeta n x = ((x.kind == 2) && (x.n == n)) := rfl

set_option maxHeartbeats 1600000 in
theorem fill1_any (n : Int) (bn : Nat) (x : Ty) (a : Option Addr) (c : Nat) (W : World) (hn : W.heap[bn]? = some (.cells #[.int .i64 n] 3 (0, 0))) : Calls Tryd.prog 42 #[tv x a c, .pointer (some ⟨bn, 0, none⟩)] W fun e W' => e = .returned (.bool (isMeta n x)) ∧ Below W.heap.size W W' := by
  have hz := (Below.refl W.heap.size W).alloc (Nat.le_refl _) (.cells #[.int .i64 x.kind, .string x.name, .int .i64 x.n, .slice a x.args.length c] 25)
  have k4 := B4.new W (.int .i64 x.kind) (.string x.name) (.int .i64 x.n) (.slice a x.args.length c)
  have c0 := k4.c0
  have c1 := k4.c1
  have c2 := k4.c2
  have c3 := k4.c3
  have e0 := (hz.cell (p := ⟨bn, 0, none⟩) (Array.getElem?_eq_some_iff.1 hn).1).trans (cell_of_row _ _ 0 _ _ _ hn)
  have HZ := Lib.hid hz
  rw [isMeta_eq]
  unfold tv at *
  clear hz k4 hn
  cases z : (x.kind == 2) with
  | true =>
    go_enter Tryd.func42, Tryd.ntmps42
    go_wp2
    go_ret
    exact ⟨by simp, HZ.out⟩
  | false =>
    go_enter Tryd.func42, Tryd.ntmps42
    go_wp2
    go_ret
    exact ⟨by simp, HZ.out⟩

end Go.Proofs.YtifaaihekgnhiaaDoor.Tp

/- Texts laid together: TyRen, TyPutA. -/
import Derived.Test.YtifaaihekgnhiaaDoorP32
import Derived.Test.YtifaaihekgnhiaaDoorP23

/- renamed, whatever the type. -/
namespace Go.Proofs.YtifaaihekgnhiaaDoor.Tp
open Go.RowKit

theorem ren_said : ∀ d : Nat, RenSaid d := by
  intro d
  induction d with
  | zero => intro fr to t S a c W hg h; rw [t.depth_eq] at h; omega
  | succ d ih =>
    intro fr to t S a c W hg hd hs hfr hto hA hS hT
    by_cases hn : t.name = fr
    · by_cases h1 : t.kind = 1
      · exact ren_var d fr to t S a c W h1 hn hA hS
      · by_cases h5 : t.kind = 5
        · exact ren_same d fr to t S a c W h5 hn hA hS
        · exact ren_with d ih fr to t S a c W (fun h => absurd h h1) (fun h => absurd h h5) hg hd hs hfr hto hA hS hT
    · by_cases h5 : t.kind = 5 ∧ t.name = to
      · exact ren_cap d ih fr to t S a c W h5.1 h5.2 hn hg hd hs hfr hto hA hS hT
      · exact ren_with d ih fr to t S a c W (fun _ => hn) (fun h => ⟨hn, fun e => h5 ⟨h, e⟩⟩) hg hd hs hfr hto hA hS hT

/-- renamed gives a free variable another name. -/
theorem ren_any (fr to : ByteArray) (t : Ty) (S : Nat → Prop) (a : Option Addr) (c : Nat) (W : World) (hg : Good t) (hs : t.size ≤ 1099511627000) (hfr : fr.size ≤ 64) (hto : to.size ≤ 64) (hA : ArgsAt S W (.slice a t.args.length c) t.args) (hS : ∀ b, S b → b < W.heap.size) (hT : Tab W) :
    Calls Tryd.prog 37 #[tv t a c, .string fr, .string to] W (TP S (renT fr to t) W) := ren_said t.depth fr to t S a c W hg (Nat.le_refl _) hs hfr hto hA hS hT

end Go.Proofs.YtifaaihekgnhiaaDoor.Tp

/- The walk of Put's closure; what Put tells. -/
namespace Go.Proofs.YtifaaihekgnhiaaDoor.Tp
open Go.RowKit

def PutSaid (d : Nat) : Prop := ∀ (nm : ByteArray) (u t : Ty) (S : Nat → Prop) (a ua : Option Addr) (c uc : Nat) (W : World), Good t → Good u → t.depth ≤ d → t.size ≤ 1073741824 → u.size ≤ 1073741824 →
  ArgsAt S W (.slice a t.args.length c) t.args → ArgsAt S W (.slice ua u.args.length uc) u.args → (∀ b, S b → b < W.heap.size) → Tab W → Calls Tryd.prog 19 #[tv t a c, .string nm, tv u ua uc] W (TP S (PutF d nm u t) W)

theorem Put1Enters (args : Array Value) (w : World) : (callFunc 39 args).run Tryd.prog w = .ok (.enter 39 args) w :=
  enters_of Tryd.func39 (by kernel_rfl) rfl args w

set_option maxHeartbeats 1600000 in
theorem Put1_any (d : Nat) (ih : PutSaid d) (nm : ByteArray) (u : Ty) (bf bu : Nat) (t : Ty) (S : Nat → Prop) (a ua : Option Addr) (c uc : Nat) (W : World) (hf : W.heap[bf]? = some (.cells #[.string nm] 9 (0, 0))) (hu : B4 W bu (.int .i64 u.kind) (.string u.name) (.int .i64 u.n) (.slice ua u.args.length uc)) (hg : Good t) (hgu : Good u) (hd : t.depth ≤ d) (hs : t.size ≤ 1073741824) (hsu : u.size ≤ 1073741824)
    (hA : ArgsAt S W (.slice a t.args.length c) t.args) (hU : ArgsAt S W (.slice ua u.args.length uc) u.args) (hS : ∀ b, S b → b < W.heap.size) (hT : Tab W) : Calls Tryd.prog 39 #[tv t a c, .pointer (some ⟨bf, 0, none⟩), .pointer (some ⟨bu, 0, none⟩)] W (TP S (PutF d nm u t) W) := by
  have hz := (Below.refl W.heap.size W).alloc (Nat.le_refl _) (.cells #[.int .i64 t.kind, .string t.name, .int .i64 t.n, .slice a t.args.length c] 25)
  have hz2 := hz.alloc hz.size (.cells #[.int .i64 0, .string ⟨#[]⟩, .int .i64 0, .slice none 0 0] 25)
  have k4 := (B4.new W (.int .i64 t.kind) (.string t.name) (.int .i64 t.n) (.slice a t.args.length c)).low ((Below.refl _ _).alloc (Nat.le_refl _) (.cells #[.int .i64 0, .string ⟨#[]⟩, .int .i64 0, .slice none 0 0] 25))
  have q4 : B4 ((W.alloc (.cells #[.int .i64 t.kind, .string t.name, .int .i64 t.n, .slice a t.args.length c] 25)).alloc (.cells #[.int .i64 0, .string ⟨#[]⟩, .int .i64 0, .slice none 0 0] 25)) (W.heap.size + 1) (.int .i64 0) (.string ⟨#[]⟩) (.int .i64 0) (.slice none 0 0) := alloc_new (by simp)
  have c0 := k4.c0
  have c1 := k4.c1
  have c2 := k4.c2
  have c3 := k4.c3
  have e0 := (hz2.cell (p := ⟨bf, 0, none⟩) (Array.getElem?_eq_some_iff.1 hf).1).trans (cell_of_row _ _ 0 _ _ _ hf)
  have hu4 := hu.low hz2
  have e1 := hu4.c0
  have e2 := hu4.c1
  have e3 := hu4.c2
  have e4 := hu4.c3
  have C := Lib.hid (ih nm u t S a ua c uc _ hg hgu hd hs hsu (hA.keep fun b hb => hz2.block b (hS b hb)) (hU.keep fun b hb => hz2.block b (hS b hb)) (fun b hb => Nat.lt_of_lt_of_le (hS b hb) hz2.size) (tab_below hT hz2))
  have HZ2 := Lib.hid hz2
  have HS := Lib.hid hS
  have Q4 := Lib.hid q4
  unfold tv at *
  clear hz hz2 k4 q4 hf hu hu4 hA hU hS hT hg hgu hd hs hsu
  go_enter Tryd.func39, Tryd.ntmps39
  go_wp2_with fail
  refine C.out.mono ?_
  rintro e W2 ⟨a2, c2, rfl, hA2, hb2⟩
  have q4 := Q4.out.low hb2
  have r0 := q4.c0
  have r1 := q4.c1
  have r2 := q4.c2
  have r3 := q4.c3
  have s0 := q4.fr 0
  have s1 := q4.fr 1
  have s2 := q4.fr 2
  have s3 := q4.fr 3
  have HA2 := Lib.hid hA2
  have HB2 := Lib.hid hb2
  clear hA2 hb2
  unfold tv
  generalize PutF d nm u t = y at *
  go_wp2
  have q5 := B4.set4 q4 (.int .i64 y.kind) (.string y.name) (.int .i64 y.n) (.slice a2 y.args.length c2)
  exact bodyPost_ret (v := tv y a2 c2) (by simp [results, Tryd.results39, go_sem, tv, q5.c0, q5.c1, q5.c2, q5.c3]) rfl (TP.stored HS.out HZ2.out HA2.out HB2.out (by omega) (by simp))

end Go.Proofs.YtifaaihekgnhiaaDoor.Tp

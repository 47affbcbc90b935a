/- Texts laid together: RfHold. -/
import Derived.Test.YtofllmemmggapaaGreatDoorP36
import Derived.Test.YtofllmemmggapaaGreatDoorP39
import Derived.Test.YtofllmemmggapaaGreatDoorP38

/- A type of the document's, held in a block, and what the functions tell of it. -/
namespace Go.Proofs.YtofllmemmggapaaGreatDoor.Tp
open Go.RowKit

/-- block b holds the type t, as the document has it, whose arguments lie below block n -/
structure HoldR (n b : Nat) (t : Ty) (a : Option Addr) (c : Nat) (W : World) : Prop where
  k : R4 W b (.int .i64 t.kind) (.string t.name) (.int .i64 t.n) (.slice a t.args.length c)
  h : ArgsAt (Lt n) W (.slice a t.args.length c) t.args
  lt : b < W.heap.size
  le : n ≤ W.heap.size
theorem HoldR.low {n b : Nat} {t : Ty} {a : Option Addr} {c : Nat} {W W' : World} (R : HoldR n b t a c W) (h : Below W.heap.size W W') : HoldR n b t a c W' :=
  ⟨R.k.low h, R.h.keep fun j hj => h.block j (Nat.lt_of_lt_of_le hj R.le), Nat.lt_of_lt_of_le R.lt h.size, Nat.le_trans R.le h.size⟩
theorem HoldR.of_parse {w W : World} {t : Ty} {a : Option Addr} {c : Nat} (h : ArgsAt (In w.heap.size W.heap.size) W (.slice a t.args.length c) t.args) :
    HoldR W.heap.size W.heap.size t a c (W.alloc (.cells #[.int .i64 t.kind, .string t.name, .int .i64 t.n, .slice a t.args.length c] 29)) :=
  ⟨R4.new W _ _ _ _, (h.mono fun b hb => hb.2).keep fun b hb => heap_alloc_old W _ hb, by simp, by simp⟩
theorem HoldR.of_at {W : World} {t : Ty} {a : Option Addr} {c : Nat} (h : AtW t a c W) :
    HoldR W.heap.size W.heap.size t a c (W.alloc (.cells #[.int .i64 t.kind, .string t.name, .int .i64 t.n, .slice a t.args.length c] 29)) :=
  ⟨R4.new W _ _ _ _, h.keep fun b hb => heap_alloc_old W _ hb, by simp, by simp⟩
theorem HoldR.at_ {n b : Nat} {t : Ty} {a : Option Addr} {c : Nat} {W : World} (R : HoldR n b t a c W) : AtW t a c W := R.h.mono fun _ hj => Nat.lt_of_lt_of_le hj R.le

def OkPostR (w : World) (t : Ty) (e : Ending) (w' : World) : Prop :=
  ∃ a c, e = .returned (.tuple #[.agg #[.int .i64 t.kind, .string t.name, .int .i64 t.n, .slice a t.args.length c], .int .i64 0]) ∧ Below w.heap.size w w' ∧
    HoldR w'.heap.size w'.heap.size t a c (w'.alloc (.cells #[.int .i64 t.kind, .string t.name, .int .i64 t.n, .slice a t.args.length c] 29)) ∧ Below w.heap.size w (w'.alloc (.cells #[.int .i64 t.kind, .string t.name, .int .i64 t.n, .slice a t.args.length c] 29))
def BadPostR (w : World) (er : Nat) (e : Ending) (w' : World) : Prop :=
  e = .returned (.tuple #[.agg #[.int .i64 0, .string ⟨#[]⟩, .int .i64 0, .slice none 0 0], .int .i64 er]) ∧ Below w.heap.size w w' ∧ Below w.heap.size w (w'.alloc (.cells #[.int .i64 0, .string ⟨#[]⟩, .int .i64 0, .slice none 0 0] 29))

theorem rparse_ok (w : World) (s : ByteArray) (hs : s.size ≤ maxLen) {t : Ty} (h : parseT s.data.toList = .ok t) : Calls Tryz.prog 28 #[.string s] w (OkPostR w t) := by
  have C := rparse_any w s hs
  rw [h] at C
  refine C.mono ?_
  rintro e w' ⟨hb, a, c, rfl, hA⟩
  exact ⟨a, c, rfl, hb, .of_parse hA, hb.trans (((Below.refl _ _).alloc (Nat.le_refl _) _).mono hb.size)⟩
theorem rparse_bad (w : World) (s : ByteArray) (hs : s.size ≤ maxLen) {er : Nat} (h : parseT s.data.toList = .error er) : Calls Tryz.prog 28 #[.string s] w (BadPostR w er) := by
  have C := rparse_any w s hs
  rw [h] at C
  refine C.mono ?_
  rintro e w' ⟨hb, rfl⟩
  exact ⟨rfl, hb, hb.trans (((Below.refl _ _).alloc (Nat.le_refl _) _).mono hb.size)⟩
/-- whatever the document's Parse tells -/
def SomePostR (w : World) (e : Ending) (w' : World) : Prop :=
  ∃ (k n : Int) (s : ByteArray) (a : Option Addr) (l c er : Nat), e = .returned (.tuple #[.agg #[.int .i64 k, .string s, .int .i64 n, .slice a l c], .int .i64 er]) ∧ Below w.heap.size w (w'.alloc (.cells #[.int .i64 k, .string s, .int .i64 n, .slice a l c] 29))
theorem rparse_some (w : World) (s : ByteArray) (hs : s.size ≤ maxLen) : Calls Tryz.prog 28 #[.string s] w (SomePostR w) := by
  cases h : parseT s.data.toList with
  | error er =>
    refine (rparse_bad w s hs h).mono ?_
    rintro e w' ⟨rfl, _, hB⟩
    exact ⟨0, 0, _, none, 0, 0, er, rfl, hB⟩
  | ok t =>
    refine (rparse_ok w s hs h).mono ?_
    rintro e w' ⟨a, c, rfl, _, _, hB⟩
    exact ⟨_, _, _, a, _, c, 0, rfl, hB⟩

theorem rprint_h {t : Ty} {a : Option Addr} {c : Nat} {W : World} (R : AtW t a c W) (hs : Small t) :
    Calls Tryz.prog 37 #[.agg #[.int .i64 t.kind, .string t.name, .int .i64 t.n, .slice a t.args.length c]] W (StrPost W (printT t)) :=
  rprint_any t _ a c W R (fun _ h => h) hs.1.1 (by have := printT_len t hs.1; have := hs.2; omega)
theorem rdepth_h {t : Ty} {a : Option Addr} {c : Nat} {W : World} (R : AtW t a c W) (hd : t.depth ≤ 100000) :
    Calls Tryz.prog 55 #[.agg #[.int .i64 t.kind, .string t.name, .int .i64 t.n, .slice a t.args.length c]] W (IntPost W t.depth) :=
  rdepth_any t _ a c W R (fun _ h => h) hd
theorem rpoly_h {t : Ty} {a : Option Addr} {c : Nat} {W : World} (R : AtW t a c W) :
    Calls Tryz.prog 33 #[.agg #[.int .i64 t.kind, .string t.name, .int .i64 t.n, .slice a t.args.length c]] W (BoolPost W (polyT t)) :=
  rpoly_any t _ a c W R (fun _ h => h)
theorem rfree_h {t : Ty} {a : Option Addr} {c : Nat} {W : World} (R : AtW t a c W) (hs : Small t) :
    Calls Tryz.prog 18 #[.agg #[.int .i64 t.kind, .string t.name, .int .i64 t.n, .slice a t.args.length c]] W (FreePostR W (freeT t)) :=
  rFree_any t _ a c W R (fun _ h => h) hs.1.1 (by have := hs.2; omega)
theorem rmetas_h {t : Ty} {a : Option Addr} {c : Nat} {W : World} (R : AtW t a c W) (hs : Small t) :
    Calls Tryz.prog 29 #[.agg #[.int .i64 t.kind, .string t.name, .int .i64 t.n, .slice a t.args.length c]] W (MetasPostR W (metasT t)) :=
  rMetas_any t _ a c W R (fun _ h => h) hs.1.1 (by have := hs.2; omega)

end Go.Proofs.YtofllmemmggapaaGreatDoor.Tp

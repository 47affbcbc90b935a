/- Texts laid together: RfMem, RfDec. -/
import Derived.Test.YtofllmemmggapaaGreatDoorP07
import Derived.Test.YtofllmemmggapaaGreatDoorP10
import Derived.Test.YtofllmemmggapaaGreatDoorP08
import Derived.Test.YtofllmemmggapaaGreatDoorP20
import Derived.Deep.RegionHeld3
import Derived.Laws.IdiomStrings

/- Memory of the document's types: blocks, rows. (Lines of TyAtom, TyAcc, for the other type.) -/
namespace Go.Proofs.YtofllmemmggapaaGreatDoor.Tp
open Go.RowKit
open Lx

/-- four cells of a type's struct, a block of their own -/
def R4 (w : World) (b : Nat) (c0 c1 c2 c3 : Value) : Prop := w.heap[b]? = some (.cells #[c0, c1, c2, c3] 29 (0, 0))

section
variable {w w' : World} {b : Nat} {u0 u1 u2 u3 : Value}
theorem R4.c0 (h : R4 w b u0 u1 u2 u3) : w.cell? ⟨b, 0, none⟩ = some u0 := cell_of_row w b 0 _ _ _ h
theorem R4.c1 (h : R4 w b u0 u1 u2 u3) : w.cell? ⟨b, 1, none⟩ = some u1 := cell_of_row w b 1 _ _ _ h
theorem R4.c2 (h : R4 w b u0 u1 u2 u3) : w.cell? ⟨b, 2, none⟩ = some u2 := cell_of_row w b 2 _ _ _ h
theorem R4.c3 (h : R4 w b u0 u1 u2 u3) : w.cell? ⟨b, 3, none⟩ = some u3 := cell_of_row w b 3 _ _ _ h
theorem R4.fr (h : R4 w b u0 u1 u2 u3) (i : Nat) : w.frozen? ⟨b, i, none⟩ = false := by unfold R4 at h; simp [World.frozen?, h]
theorem R4.lt (h : R4 w b u0 u1 u2 u3) : b < w.heap.size := (Array.getElem?_eq_some_iff.1 h).1
theorem R4.new (w : World) (u0 u1 u2 u3 : Value) : R4 (w.alloc (.cells #[u0, u1, u2, u3] 29)) w.heap.size u0 u1 u2 u3 := heap_alloc_new w _
theorem R4.grown {r : Option Nat} (h : R4 w b u0 u1 u2 u3) (hg : w.grownBy w' r) (hr : r ≠ some b) : R4 w' b u0 u1 u2 u3 := (hg.block b h.lt (Ne.symm hr)).trans h
theorem R4.low (h : R4 w b u0 u1 u2 u3) (hb : Below w.heap.size w w') : R4 w' b u0 u1 u2 u3 := (hb.block b h.lt).trans h
end

theorem R4.set4 {w : World} {b : Nat} {u0 u1 u2 u3 : Value} (h : R4 w b u0 u1 u2 u3) (v0 v1 v2 v3 : Value) :
    R4 ((((w.setCell ⟨b, 0, none⟩ v0).setCell ⟨b, 1, none⟩ v1).setCell ⟨b, 2, none⟩ v2).setCell ⟨b, 3, none⟩ v3) b v0 v1 v2 v3 := by
  unfold R4 at *
  rw [set_row0 (set_row0 (set_row0 (set_row0 h v0) v1) v2) v3]
  rfl

/-- the row v, of memory from lo on, holds the types acc -/
structure RAcc (lo : Nat) (w : World) (v : Value) (acc : List Ty) (svs : List Value) : Prop where
  own : w.ownsRow lo 29 4 v acc.length (cellsT acc svs)
  len : svs.length = acc.length
  at_ : ∀ (j : Nat) (t : Ty) (sv : Value), acc[j]? = some t → svs[j]? = some sv → ArgsAt (fun b => lo ≤ b ∧ b < w.heap.size ∧ v.ownBlock ≠ some b) w sv t.args

theorem RAcc.nil (lo : Nat) (w : World) : RAcc lo w (.slice none 0 0) [] [] := ⟨World.ownsRow_nil _ _ _ _, rfl, by simp⟩

/-- what leaves the blocks from lo on as they were -/
theorem RAcc.keep {lo : Nat} {w w' : World} {v : Value} {acc : List Ty} {svs : List Value} (h : RAcc lo w v acc svs) (hs : w.heap.size ≤ w'.heap.size) (hk : ∀ b, lo ≤ b → b < w.heap.size → w'.heap[b]? = w.heap[b]?) : RAcc lo w' v acc svs :=
  ⟨own_keep4 h.own fun b hb => hk b (h.own.lt b hb).1 (h.own.lt b hb).2, h.len, fun j t sv h1 h2 => ((h.at_ j t sv h1 h2).keep fun b hb => hk b hb.1 hb.2.1).mono fun b hb => ⟨hb.1, by have := hb.2.1; omega, hb.2.2⟩⟩

/-- one more -/
theorem RAcc.add {lo : Nat} {w w' : World} {v v' sv : Value} {acc : List Ty} {svs : List Value} {t : Ty} {S : Nat → Prop} (h : RAcc lo w v acc svs) (hx : ArgsAt S w sv t.args) (hS : ∀ b, S b → lo ≤ b ∧ b < w.heap.size ∧ v.ownBlock ≠ some b)
    (hg : w.grownBy w' v.ownBlock) (ho : w'.ownsRow lo 29 4 v' (acc.length + 1) (cellsT acc svs ++ cell4 t sv)) (hat : ∀ b, v'.ownBlock = some b → v.ownBlock = some b ∨ w.heap.size ≤ b) : RAcc lo w' v' (acc ++ [t]) (svs ++ [sv]) := by
  have kp : ∀ {S : Nat → Prop} {y : Value} {ts : List Ty}, (∀ b, S b → lo ≤ b ∧ b < w.heap.size ∧ v.ownBlock ≠ some b) → ArgsAt S w y ts → ArgsAt (fun b => lo ≤ b ∧ b < w'.heap.size ∧ v'.ownBlock ≠ some b) w' y ts := fun {S y ts} hS hy =>
    (hy.keep fun b hb => hg.block b (hS b hb).2.1 (Ne.symm (hS b hb).2.2)).mono fun b hb => ⟨(hS b hb).1, Nat.lt_of_lt_of_le (hS b hb).2.1 hg.size, fun e => by
      rcases hat b e with e | e
      · exact (hS b hb).2.2 e
      · have := (hS b hb).2.1; omega⟩
  refine ⟨by rw [cellsT_snoc _ _ _ _ h.len, List.length_append]; exact ho, by simp [h.len], fun j u y h1 h2 => ?_⟩
  rcases Nat.lt_or_ge j acc.length with hlt | hge
  · rw [List.getElem?_append_left hlt] at h1
    rw [List.getElem?_append_left (by rw [h.len]; exact hlt)] at h2
    exact kp (fun b hb => hb) (h.at_ j u y h1 h2)
  · have hj : j = acc.length := by
      have := (List.getElem?_eq_some_iff.1 h1).1
      simp at this; omega
    subst hj
    rw [List.getElem?_append_right (Nat.le_refl _)] at h1
    rw [← h.len, List.getElem?_append_right (Nat.le_refl _)] at h2
    simp at h1 h2
    subst h1 h2
    exact kp hS hx

theorem RAcc.args {lo : Nat} {w : World} {v : Value} {acc : List Ty} {svs : List Value} (h : RAcc lo w v acc svs) (hl : acc.length ≤ 4000) : ArgsAt (In lo w.heap.size) w v acc := by
  rcases h.own.2 with ⟨rfl, h0⟩ | ⟨g, cap, cur, rfl, hb, hg, h1, h2, h3, h4⟩
  · have : acc = [] := List.eq_nil_of_length_eq_zero h0
    subst this
    exact .nil _ _
  · refine .mk g 0 cap acc (fun i => svs.getD i (.slice none 0 0)) ⟨hb, (Array.getElem?_eq_some_iff.1 hg).1⟩ (by omega) (fun i hi => ?_) (fun i hi => ?_)
    · have hi' : i < svs.length := by rw [h.len]; exact hi
      obtain ⟨a0, a1, a2, a3⟩ := cellsT_at acc svs h.len i hi hi'
      have hc := h.own.cells (g := g) rfl
      have hadd : ∀ j, (⟨g, 0, none⟩ : Addr).add j = ⟨g, j, none⟩ := fun j => by unfold Addr.add; split <;> simp_all
      have b0 := hc _ _ a0
      have b1 := hc _ _ a1
      have b2 := hc _ _ a2
      have b3 := hc _ _ a3
      rw [hadd] at b0 b1 b2 b3
      simp only [Nat.zero_add]
      rw [List.getD_eq_getElem?_getD, List.getElem?_eq_getElem hi']
      exact ⟨b0, b1, b2, b3⟩
    · have hi' : i < svs.length := by rw [h.len]; exact hi
      simp only [List.getD_eq_getElem?_getD, List.getElem?_eq_getElem hi', Option.getD_some]
      exact (h.at_ i _ _ (List.getElem?_eq_getElem hi) (List.getElem?_eq_getElem hi')).mono fun b hb => ⟨hb.1, hb.2.1⟩

theorem infoRf : (Tryz.prog.info? 29).map (fun i => (i.zero, i.size, i.bytes)) = some (some (.agg #[.int .i64 0, .string ByteArray.empty, .int .i64 0, .slice none 0 0]), 4, 56) := by kernel_rfl


/-- what the document's readers tell: a type and the place behind it -/
def RrPost (w : World) (n : Nat) (res : Option (Ty × List Tok)) (e : Ending) (w' : World) : Prop :=
  Below w.heap.size w w' ∧ match res with
  | none => ∃ (k : Int) (s : ByteArray) (n : Int) (a : Option Addr) (c m : Nat), e = .returned (.tuple #[.agg #[.int .i64 k, .string s, .int .i64 n, .slice a c m], .int .i64 (-1)])
  | some (t, r) => ∃ a c, e = .returned (.tuple #[tv t a c, .int .i64 ((n - r.length : Nat) : Int)]) ∧ ArgsAt (In w.heap.size w'.heap.size) w' (.slice a t.args.length c) t.args

/-- tokens as the scanner makes them, for the document's readers -/
structure TokR (l : List Tok) : Prop where
  num : ∀ t ∈ l, t.kind = 5 → t.text.tail.length ≤ 6 ∧ t.text ≠ [] ∧ ∀ c ∈ t.text.tail, digitB c = true
  par : ∀ t ∈ l, t.text = lpar → t.kind = 6

/-- what is told of the three, up to a fuel; l: all tokens, i: the place -/
structure RSaid (n : Nat) : Prop where
  typ : ∀ (w : World) (a : Option Addr) (c : Nat) (l : List Tok) (i : Nat), ToksAt w (.slice a l.length c) l → (∀ b o, a = some ⟨b, o, none⟩ → b < w.heap.size) → TokR l → l.length ≤ 4000 → i ≤ l.length → 4 * (l.length - i) + 4 ≤ n → Calls Tryz.prog 54 #[.slice a l.length c, .int .i64 i] w (RrPost w l.length (typF n (l.drop i)))
  app : ∀ (w : World) (a : Option Addr) (c : Nat) (l : List Tok) (i : Nat), ToksAt w (.slice a l.length c) l → (∀ b o, a = some ⟨b, o, none⟩ → b < w.heap.size) → TokR l → l.length ≤ 4000 → i ≤ l.length → 4 * (l.length - i) + 3 ≤ n → Calls Tryz.prog 79 #[.slice a l.length c, .int .i64 i] w (RrPost w l.length (appF n (l.drop i)))
  atom : ∀ (w : World) (a : Option Addr) (c : Nat) (l : List Tok) (i : Nat), ToksAt w (.slice a l.length c) l → (∀ b o, a = some ⟨b, o, none⟩ → b < w.heap.size) → TokR l → l.length ≤ 4000 → i ≤ l.length → 4 * (l.length - i) + 2 ≤ n → Calls Tryz.prog 107 #[.slice a l.length c, .int .i64 i] w (RrPost w l.length (atomF n (l.drop i)))

end Go.Proofs.YtofllmemmggapaaGreatDoor.Tp

/- The walk of the document's Decimal. -/
namespace Go.Proofs.YtofllmemmggapaaGreatDoor.Tp
open Go.RowKit

/-- one byte, as a text -/
theorem conv_one (W : World) (b r : Nat) (hr : r < 10) (h : W.cell? ⟨b, 0, none⟩ = some (.int .u8 (48 + (r : Int)))) :
    (convert 105 9 (.slice (some ⟨b, 0, none⟩) 1 1)).run Tryz.prog W = .ok (.string ⟨#[UInt8.ofNat (48 + r)]⟩) W := by
  refine run_convert_bytes_back W 105 9 5 ⟨b, 0, none⟩ 1 [UInt8.ofNat (48 + r)] Tryz.underlying105 Tryz.underlying5 Tryz.underlying9 (fun j hj => ?_)
  have hj0 : j = 0 := by simp at hj; omega
  subst hj0
  show W.cell? ((⟨b, 0, none⟩ : Addr).add 0) = _
  rw [show (⟨b, 0, none⟩ : Addr).add 0 = ⟨b, 0, none⟩ from rfl, h]
  congr 2
  show (48 + (r : Int)) = ((UInt8.ofNat (48 + r)).toNat : Int)
  rw [UInt8.toNat_ofNat']; omega

theorem cell_one (w : World) (v : Value) (t : TypeId) : (w.alloc (.cells #[v] t)).cell? ⟨w.heap.size, 0, none⟩ = some v := cell_of_row _ _ 0 _ _ _ (heap_alloc_new w _)

set_option maxRecDepth 100000 in
set_option maxHeartbeats 1600000 in
theorem decimal_small (n : Nat) (h : n < 10) (w : World) : Calls Tryz.prog 39 #[.int .i64 n] w (StrPost w (Lib.decDigits n)) := by
  have h1 : (n : Int) < 10 := by omega
  have h0 : (0 : Int) ≤ (n : Int) := by omega
  have hc := conv_one _ _ n h (cell_one w (.int .u8 (48 + (n : Int))) 5)
  have E : Hid (Lib.decDigits n = [UInt8.ofNat (48 + n)]) := Lib.hid (by rw [Lib.decDigits, dif_pos h])
  have HZ := Lib.hid ((Below.refl w.heap.size w).alloc (Nat.le_refl _) (.cells #[.int .u8 (48 + (n : Int))] 5))
  clear h
  generalize UInt8.ofNat (48 + n) = x at *
  go_enter Tryz.func39, Tryz.ntmps39
  go_wp2
  go_ret
  exact ⟨by rw [E.out]; rfl, HZ.out⟩

set_option maxRecDepth 100000 in
set_option maxHeartbeats 1600000 in
theorem decimal_big (N : Int) (q r : Nat) (h10 : ¬ N < 10) (hq : N.tdiv 10 = (q : Int)) (hr : N.tmod 10 = (r : Int)) (hr10 : r < 10) (hqb : q ≤ 1000000000000000000) (w : World) (ih : ∀ w, Calls Tryz.prog 39 #[.int .i64 (q : Int)] w (StrPost w (Lib.decDigits q))) (hl : (Lib.decDigits q).length ≤ 100) :
    Calls Tryz.prog 39 #[.int .i64 N] w (StrPost w (Lib.decDigits q ++ [UInt8.ofNat (48 + r)])) := by
  have hrI : (r : Int) < 10 := by omega
  have hrJ : (0 : Int) ≤ (r : Int) := by omega
  have hw1 : IntKind.i64.wrap (q : Int) = (q : Int) := by rw [IntKind.wrap_i64]; omega
  have hw2 : IntKind.i64.wrap (48 + (r : Int)) = 48 + (r : Int) := by rw [IntKind.wrap_i64]; omega
  have hw3 : IntKind.u8.wrap (48 + (r : Int)) = 48 + (r : Int) := by rw [IntKind.wrap_u8]; omega
  have hsz : (bytes (Lib.decDigits q)).size ≤ 100 := by rw [bytes_size]; exact hl
  have hc := conv_one ((w.alloc (.cells #[.int .u8 (48 + (r : Int))] 5)).drew) w.heap.size r hr10 (cell_one w (.int .u8 (48 + (r : Int))) 5)
  have F : Hid (bytes (Lib.decDigits q) ++ ⟨#[UInt8.ofNat (48 + r)]⟩ = bytes (Lib.decDigits q ++ [UInt8.ofNat (48 + r)])) := Lib.hid (bytes_app _ _)
  have HD := Lib.hid ((Below.refl w.heap.size w).drew)
  have HDA := Lib.hid (((Below.refl w.heap.size w).alloc (Nat.le_refl _) (.cells #[.int .u8 (48 + (r : Int))] 5)).drew)
  have IHA := Lib.hid (ih ((w.alloc (.cells #[.int .u8 (48 + (r : Int))] 5)).drew))
  have IHB := Lib.hid (ih w.drew)
  have HX1 := Lib.hid (fun (W : World) => conv_one _ _ r hr10 (cell_one W (.int .u8 (48 + (r : Int))) 5))
  have HX2 := Lib.hid (fun (W : World) (hb : Below ((w.alloc (.cells #[.int .u8 (48 + (r : Int))] 5)).drew).heap.size ((w.alloc (.cells #[.int .u8 (48 + (r : Int))] 5)).drew) W) => conv_one W w.heap.size r hr10 ((hb.cell (p := ⟨w.heap.size, 0, none⟩) (by simp)).trans (cell_one w (.int .u8 (48 + (r : Int))) 5)))
  clear ih hr10 hl
  unfold StrPost at IHA IHB
  generalize UInt8.ofNat (48 + r) = x at *
  generalize bytes (Lib.decDigits q) = sq at *
  go_enter Tryz.func39, Tryz.ntmps39
  go_wp2_with fail
  go_region_with
    (first
      | (go_at_call 39; (try simp only [hw1, hw2, hw3]); (with_reducible refine IHA.out.mono ?_); rintro e w1 ⟨rfl, hb1⟩; have hA2 := HX2.out w1 hb1; have HB := Lib.hid (HDA.out.trans (hb1.mono HDA.out.size)))
      | (go_at_call 39; (try simp only [hw1, hw2, hw3]); (with_reducible refine IHB.out.mono ?_); rintro e w1 ⟨rfl, hb1⟩; have hA1 := HX1.out w1; have HB := Lib.hid (HD.out.trans (hb1.mono HD.out.size))))
  all_goals
    go_wp2
    go_ret
    refine ⟨by rw [← F.out]; rfl, ?_⟩
    first
      | exact HB.out
      | exact HB.out.alloc HB.out.size _

theorem decimal_any : ∀ (n : Nat), n < 1000000000000000000 → ∀ w : World, Calls Tryz.prog 39 #[.int .i64 n] w (StrPost w (Lib.decDigits n)) := by
  intro n
  induction n using Nat.strongRecOn with
  | _ n ih =>
    intro hn w
    by_cases h : n < 10
    · exact decimal_small n h w
    · have e : Lib.decDigits n = Lib.decDigits (n / 10) ++ [UInt8.ofNat (48 + n % 10)] := by rw [Lib.decDigits, dif_neg h]
      rw [e]
      refine decimal_big n (n / 10) (n % 10) (by omega) ?_ ?_ (by omega) (by omega) w (ih (n / 10) (by omega) (by omega)) ?_
      · rw [Int.tdiv_eq_ediv_of_nonneg (by omega)]; omega
      · rw [Int.tmod_eq_emod_of_nonneg (by omega)]; omega
      · have := (dec_digits (n / 10)).2.2.2 18 (by omega) (show n / 10 < 10 ^ 18 by omega)
        omega

end Go.Proofs.YtofllmemmggapaaGreatDoor.Tp

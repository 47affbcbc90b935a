/- Texts laid together: TyPut, TyNames, TyHold, TySame, RfRow, RfPush, TyAwake, TyLawW. -/
import Derived.Test.YtofllmemmggapaaGreatDoorP29
import Derived.Test.YtofllmemmggapaaGreatDoorP17
import Derived.BigQuiet
import Derived.Test.YtofllmemmggapaaGreatDoorP14
import Derived.Test.YtofllmemmggapaaGreatDoorP27
import Derived.Test.YtofllmemmggapaaGreatDoorP25
import Derived.Test.YtofllmemmggapaaGreatDoorP35
import Derived.Test.YtofllmemmggapaaGreatDoorP07
import Derived.Test.YtofllmemmggapaaGreatDoorP08
import Derived.Laws.AppendOwn
import Derived.Laws.AppendOwnNone
import Derived.Laws.OwnMore
import Derived.Test.YtofllmemmggapaaGreatDoorP24
import Derived.Deep.RegionHeld3
import Derived.Deep.CutRange

/- Put, whatever the type. -/
namespace Go.Proofs.YtofllmemmggapaaGreatDoor.Tp
open Go.RowKit

theorem put_said : ∀ d : Nat, PutSaid d := by
  intro d
  induction d with
  | zero => intro nm u t S a ua c uc W hg hgu h; rw [t.depth_eq] at h; omega
  | succ d ih =>
    intro nm u t S a ua c uc W hg hgu hd hs hsu hA hU hS hT
    by_cases h5 : t.kind = 5
    · by_cases hn : t.name = nm
      · exact put_same d nm u t S a ua c uc W h5 hn hA hS
      · cases hf : hasN (freeT u) t.name with
        | false => exact put_free d nm u t S a ua c uc W ih h5 hn hf hg hgu hd hs hsu hA hU hS hT
        | true => exact put_cap d nm u t S a ua c uc W ih h5 hn hf hg hgu hd hs hsu hA hU hS hT
    · by_cases h1 : t.kind = 1 ∧ t.name = nm
      · exact put_var d nm u t S a ua c uc W h1.1 h1.2 hU hS
      · exact put_plain d nm u t S a ua c uc W ih h5 (fun h e => h1 ⟨h, e⟩) hg hgu hd hs hsu hA hU hS hT

/-- Put at the plain one -/
theorem put_any (nm : ByteArray) (u t : Ty) (S : Nat → Prop) (a ua : Option Addr) (c uc : Nat) (W : World) (hg : Good t) (hgu : Good u) (hs : t.size ≤ 1073741824) (hsu : u.size ≤ 1073741824)
    (hA : ArgsAt S W (.slice a t.args.length c) t.args) (hU : ArgsAt S W (.slice ua u.args.length uc) u.args) (hS : ∀ b, S b → b < W.heap.size) (hT : Tab W) : Calls Tryz.prog 60 #[tv t a c, .string nm, tv u ua uc] W (TP S (PutT nm u t) W) :=
  put_said t.depth nm u t S a ua c uc W hg hgu (Nat.le_refl _) hs hsu hA hU hS hT

end Go.Proofs.YtofllmemmggapaaGreatDoor.Tp

/- The walks of names, numbers and Has. -/
namespace Go.Proofs.YtofllmemmggapaaGreatDoor.Tp
open Go.RowKit

/-- A slice value that holds the numbers l, in a block of S. -/
def NumsAt (S : Nat → Prop) (w : World) (v : Value) (l : List Int) : Prop :=
  ∃ a c, v = .slice a l.length c ∧ l.length ≤ c ∧ l.length ≤ 1099511627776 ∧ (l = [] ∨ ∃ b off, a = some ⟨b, off, none⟩ ∧ S b ∧ ∀ j (h : j < l.length), w.cell? ⟨b, off + j, none⟩ = some (.int .i64 l[j]))
theorem NumsAt.keep {S : Nat → Prop} {A B : World} (h : ∀ b, S b → B.heap[b]? = A.heap[b]?) {v : Value} {l : List Int} (hs : NumsAt S A v l) : NumsAt S B v l := by
  obtain ⟨a, c, e, h1, h2, h3⟩ := hs
  refine ⟨a, c, e, h1, h2, h3.imp id ?_⟩
  rintro ⟨b, off, e, hb, hc⟩
  exact ⟨b, off, e, hb, fun j hj => (World.cell?_of_block (h b hb)).trans (hc j hj)⟩
/-- a row that the call owns holds numbers -/
theorem NumsAt.of_own {w : World} {lo : Nat} {v : Value} {l : List Int} (h : w.ownsRow lo 3 1 v l.length (l.map (Value.int .i64))) (hl : l.length ≤ 1099511627776) : NumsAt (fun b => v.ownBlock = some b) w v l := by
  rcases h.2 with ⟨rfl, h0⟩ | ⟨g, cap, cur, rfl, hb, hg, h1, h2, h3, h4⟩
  · have : l = [] := List.eq_nil_of_length_eq_zero h0
    subst this
    exact ⟨none, 0, rfl, Nat.zero_le _, by simp, .inl rfl⟩
  · refine ⟨_, cap, rfl, h1, hl, .inr ⟨g, 0, rfl, rfl, fun j hj => ?_⟩⟩
    have hc := h.cells (g := g) rfl j (.int .i64 l[j]) (by rw [List.getElem?_map, List.getElem?_eq_getElem hj]; rfl)
    have hadd : ∀ j, (⟨g, 0, none⟩ : Addr).add j = ⟨g, j, none⟩ := fun j => by unfold Addr.add; split <;> simp_all
    rw [hadd] at hc
    rw [Nat.zero_add]
    exact hc

theorem bneN_true {a b : ByteArray} (h : a ≠ b) : (a.toList != b.toList) = true := by
  have := beqN_false h
  unfold bne; rw [this]; rfl
theorem bneN_false {a b : ByteArray} (h : a = b) : (a.toList != b.toList) = false := by
  have := beqN_true h
  unfold bne; rw [this]; rfl
theorem take_eq_succ {α : Type} (l m : List α) (k : Nat) (h : k < l.length) (h' : k < m.length) (e : l.take k = m.take k) (e' : l[k] = m[k]) : l.take (k + 1) = m.take (k + 1) := by
  rw [List.take_add_one, List.take_add_one, List.getElem?_eq_getElem h, List.getElem?_eq_getElem h', e, e']

/-- are two lists of names one? -/
def sameN (xs ys : List ByteArray) : Bool := decide (xs.map ByteArray.data = ys.map ByteArray.data)
theorem map_data_inj {xs ys : List ByteArray} (h : xs.map ByteArray.data = ys.map ByteArray.data) : xs = ys := by
  have := congrArg (List.map ByteArray.mk) h
  rw [List.map_map, List.map_map] at this
  have e : ∀ l : List ByteArray, l.map (ByteArray.mk ∘ ByteArray.data) = l := fun l => by
    conv => rhs; rw [← List.map_id l]
    exact List.map_congr_left fun x _ => rfl
  rwa [e, e] at this
theorem sameN_true {xs ys : List ByteArray} (h : xs = ys) : sameN xs ys = true := by unfold sameN; rw [h]; simp
theorem sameN_false {xs ys : List ByteArray} (h : xs ≠ ys) : sameN xs ys = false := by
  unfold sameN; rw [decide_eq_false_iff_not]; exact fun e => h (map_data_inj e)



set_option maxHeartbeats 1600000 in
theorem has_any (S : Nat → Prop) (va : Value) (xs : List ByteArray) (x : ByteArray) (w : World) (hA : StrsAt S w va xs) :
    Calls Tryz.prog 24 #[va, .string x] w fun e w' => e = .returned (.bool (hasN xs x)) ∧ w = w' := by
  obtain ⟨a, cap, rfl, hlen, hl1, _, hc⟩ := hA
  go_enter Tryz.func24, Tryz.ntmps24
  go_wp2
  go_loop [5] (fun i => ∃ k : Nat, k ≤ xs.length ∧ i = .int .i64 k ∧ x ∉ xs.take k) (fun i => xs.length - (intOf i).toNat)
  case atStart => exact ⟨0, Nat.zero_le _, rfl, by simp⟩
  case round =>
    obtain ⟨k, hk, rfl, hb⟩ := hrel
    have H := Lib.hid hb; clear hb
    by_cases hlt : k < xs.length
    · obtain ⟨b, off, rfl, _, hcc⟩ := hc.resolve_left (by intro e; rw [e] at hlt; simp at hlt)
      have hcy := hcc k hlt
      have z0 : (0 : Int) ≤ (k : Int) := by omega
      have z1 : (k : Int) < (xs.length : Int) := by omega
      clear hcc hc
      by_cases hx : xs[k] = x
      · have f1 := beqN_true hx
        have G : Hid (hasN xs x = true) := Lib.hid ((hasN_iff _ _).2 (by rw [← hx]; exact List.getElem_mem hlt))
        clear hx
        go_wp2
        go_ret
        exact ⟨ret_bool G.out.symm, rfl⟩
      · have f1 := beqN_false hx
        have st : Hid (x ∉ xs.take (k + 1)) := Lib.hid (by
          rw [List.take_add_one, List.getElem?_eq_getElem hlt]
          intro h
          rcases List.mem_append.1 h with h | h
          · exact H.out h
          · simp only [Option.toList_some, List.mem_singleton] at h; exact hx h.symm)
        clear hx
        go_wp2
        go_round
        case rel => exact ⟨k + 1, by omega, by go_num, st.out⟩
        case measure => simp [intOf]; omega
    · obtain rfl : k = xs.length := by omega
      have G : Hid (hasN xs x = false) := Lib.hid ((hasN_false _ _).2 (by
        have := H.out
        rwa [List.take_length] at this))
      go_wp2
      go_ret
      exact ⟨ret_bool G.out.symm, rfl⟩

end Go.Proofs.YtofllmemmggapaaGreatDoor.Tp

/- A type held in a block, and what the functions tell of it. -/
namespace Go.Proofs.YtofllmemmggapaaGreatDoor.Tp
open Go.RowKit

/-- good, and not too large -/
def Small (t : Ty) : Prop := Good t ∧ t.size ≤ 1073741824

/-- block b holds the type t, whose arguments lie below block n -/
structure Hold (n b : Nat) (t : Ty) (a : Option Addr) (c : Nat) (W : World) : Prop where
  k : B4 W b (.int .i64 t.kind) (.string t.name) (.int .i64 t.n) (.slice a t.args.length c)
  h : ArgsAt (Lt n) W (.slice a t.args.length c) t.args
  lt : b < W.heap.size
  le : n ≤ W.heap.size
theorem Hold.low {n b : Nat} {t : Ty} {a : Option Addr} {c : Nat} {W W' : World} (R : Hold n b t a c W) (h : Below W.heap.size W W') : Hold n b t a c W' :=
  ⟨R.k.low h, R.h.keep fun j hj => h.block j (Nat.lt_of_lt_of_le hj R.le), Nat.lt_of_lt_of_le R.lt h.size, Nat.le_trans R.le h.size⟩
theorem Hold.of_parse {w W : World} {t : Ty} {a : Option Addr} {c : Nat} (h : ArgsAt (In w.heap.size W.heap.size) W (.slice a t.args.length c) t.args) :
    Hold W.heap.size W.heap.size t a c (W.alloc (.cells #[.int .i64 t.kind, .string t.name, .int .i64 t.n, .slice a t.args.length c] 26)) :=
  ⟨B4.new W _ _ _ _, (h.mono fun b hb => hb.2).keep fun b hb => heap_alloc_old W _ hb, by simp, by simp⟩
/-- what Put and Fill tell -/
def AtW (y : Ty) (a : Option Addr) (c : Nat) (W : World) : Prop := ArgsAt (Lt W.heap.size) W (.slice a y.args.length c) y.args
theorem AtW.low {y : Ty} {a : Option Addr} {c : Nat} {W W' : World} (R : AtW y a c W) (h : Below W.heap.size W W') : AtW y a c W' :=
  (R.keep fun j hj => h.block j hj).mono fun _ hj => Nat.lt_of_lt_of_le hj h.size
theorem Hold.at_ {n b : Nat} {t : Ty} {a : Option Addr} {c : Nat} {W : World} (R : Hold n b t a c W) : AtW t a c W := R.h.mono fun _ hj => Nat.lt_of_lt_of_le hj R.le

def NewPost (y : Ty) (W : World) (e : Ending) (W' : World) : Prop := ∃ a c, e = .returned (.agg #[.int .i64 y.kind, .string y.name, .int .i64 y.n, .slice a y.args.length c]) ∧ AtW y a c W' ∧ Below W.heap.size W W'
theorem NewPost.of {y : Ty} {W : World} {e : Ending} {W' : World} (h : TP (Lt W.heap.size) y W e W') : NewPost y W e W' := by
  obtain ⟨a, c, he, hA, hb⟩ := h
  refine ⟨a, c, he, hA.mono fun j hj => ?_, hb⟩
  rcases hj with hj | hj
  · exact Nat.lt_of_lt_of_le hj hb.size
  · exact hj.2

theorem print_h {t : Ty} {a : Option Addr} {c : Nat} {W : World} (R : AtW t a c W) (hs : Small t) (hT : Tab W) :
    Calls Tryz.prog 26 #[.agg #[.int .i64 t.kind, .string t.name, .int .i64 t.n, .slice a t.args.length c]] W (StrPost W (printT t)) :=
  print_any t _ a c W R (fun _ h => h) hs.1.1 (by have := printT_len t hs.1; have := hs.2; omega) hT
theorem canon_h {t : Ty} {a : Option Addr} {c : Nat} {W : World} (R : AtW t a c W) (hs : Small t) (hT : Tab W) :
    Calls Tryz.prog 19 #[.agg #[.int .i64 t.kind, .string t.name, .int .i64 t.n, .slice a t.args.length c]] W (StrPost W (canonS t)) :=
  canon_any t _ a c W R (fun _ h => h) hs.1 hs.2 hT
theorem depth_h {t : Ty} {a : Option Addr} {c : Nat} {W : World} (R : AtW t a c W) (hd : t.depth ≤ 100000) :
    Calls Tryz.prog 22 #[.agg #[.int .i64 t.kind, .string t.name, .int .i64 t.n, .slice a t.args.length c]] W (IntPost W t.depth) :=
  depth_any t _ _ W ⟨_, rfl, R⟩ (fun _ h => h) hd
theorem poly_h {t : Ty} {a : Option Addr} {c : Nat} {W : World} (R : AtW t a c W) (hs : Small t) :
    Calls Tryz.prog 21 #[.agg #[.int .i64 t.kind, .string t.name, .int .i64 t.n, .slice a t.args.length c]] W (BoolPost W (polyT t)) :=
  poly_any t _ a c W R (fun _ h => h) (by have := hs.2; omega)
theorem free_h {t : Ty} {a : Option Addr} {c : Nat} {W : World} (R : AtW t a c W) (hs : Small t) :
    Calls Tryz.prog 25 #[.agg #[.int .i64 t.kind, .string t.name, .int .i64 t.n, .slice a t.args.length c]] W (FreePost W t) :=
  free_any t _ a c W R (fun _ h => h) (by have := hs.2; omega)
theorem put_h (nm : ByteArray) {u t : Ty} {a ua : Option Addr} {c uc : Nat} {W : World} (R : AtW t a c W) (U : AtW u ua uc W) (hs : Small t) (hu : Small u) (hT : Tab W) :
    Calls Tryz.prog 60 #[.agg #[.int .i64 t.kind, .string t.name, .int .i64 t.n, .slice a t.args.length c], .string nm, .agg #[.int .i64 u.kind, .string u.name, .int .i64 u.n, .slice ua u.args.length uc]] W (NewPost (PutT nm u t) W) :=
  (put_any nm u t _ a ua c uc W hs.1 hu.1 hs.2 hu.2 R U (fun _ h => h) hT).mono fun _ _ h => .of h

end Go.Proofs.YtofllmemmggapaaGreatDoor.Tp

/- The walks of Same and canon. -/
namespace Go.Proofs.YtofllmemmggapaaGreatDoor.Tp
open Go.RowKit Go.Sort

theorem bytes_ne {a b : List UInt8} (h : a ≠ b) : bytes a ≠ bytes b := fun e => h (bytes_inj e)

set_option maxRecDepth 100000 in
set_option maxHeartbeats 1600000 in
theorem same_h {t u : Ty} {a ua : Option Addr} {c uc : Nat} {w : World} (R : AtW t a c w) (U : AtW u ua uc w) (hs : Small t) (hu : Small u) (hT : Tab w) :
    Calls Tryz.prog 23 #[.agg #[.int .i64 t.kind, .string t.name, .int .i64 t.n, .slice a t.args.length c], .agg #[.int .i64 u.kind, .string u.name, .int .i64 u.n, .slice ua u.args.length uc]] w (BoolPost w (decide (canonS t = canonS u))) := by
  have hz := (Below.refl w.heap.size w).alloc (Nat.le_refl _) (.cells #[.int .i64 t.kind, .string t.name, .int .i64 t.n, .slice a t.args.length c] 26)
  have hz2 := hz.alloc hz.size (.cells #[.int .i64 u.kind, .string u.name, .int .i64 u.n, .slice ua u.args.length uc] 26)
  have b4 := (B4.new w (.int .i64 t.kind) (.string t.name) (.int .i64 t.n) (.slice a t.args.length c)).low ((Below.refl _ _).alloc (Nat.le_refl _) (.cells #[.int .i64 u.kind, .string u.name, .int .i64 u.n, .slice ua u.args.length uc] 26))
  have u4 := B4.new (w.alloc (.cells #[.int .i64 t.kind, .string t.name, .int .i64 t.n, .slice a t.args.length c] 26)) (.int .i64 u.kind) (.string u.name) (.int .i64 u.n) (.slice ua u.args.length uc)
  rw [show (w.alloc (.cells #[.int .i64 t.kind, .string t.name, .int .i64 t.n, .slice a t.args.length c] 26)).heap.size = w.heap.size + 1 from by simp] at u4
  have HZ := Lib.hid hz2
  have DX := Lib.hid (fun p => later_of (canon_h (R.low (HZ.out.trans ((later_below _ p).mono HZ.out.size))) hs (tab_below hT (HZ.out.trans ((later_below _ p).mono HZ.out.size)))))
  have DY := Lib.hid (fun p => later_of (canon_h (U.low (HZ.out.trans ((later_below _ p).mono HZ.out.size))) hu (tab_below hT (HZ.out.trans ((later_below _ p).mono HZ.out.size)))))
  have k0 := later_cell b4.c0
  have k1 := later_cell b4.c1
  have k2 := later_cell b4.c2
  have k3 := later_cell b4.c3
  have l0 := later_cell u4.c0
  have l1 := later_cell u4.c1
  have l2 := later_cell u4.c2
  have l3 := later_cell u4.c3
  have hb : ∃ b, ((bytes (canonS t)).toList == (bytes (canonS u)).toList) = b ∧ b = decide (canonS t = canonS u) := by
    by_cases e : canonS t = canonS u
    · exact ⟨true, beqN_true (by rw [e]), (decide_eq_true e).symm⟩
    · exact ⟨false, beqN_false (bytes_ne e), (decide_eq_false e).symm⟩
  obtain ⟨bb, hbb, hbe⟩ := hb
  rw [← hbe]
  clear R U hs hu hT hz hz2 b4 u4 hbe
  unfold StrPost at *
  generalize bytes (canonS t) = s1 at *
  generalize bytes (canonS u) = s2 at *
  go_enter Tryz.func23, Tryz.ntmps23
  go_wp2
  refine wp_region_later (by kernel_rfl) (by kernel_rfl) ?_
  repeat (go_big_quiet_step ((first | (with_reducible exact DX.out _) | (with_reducible exact DY.out _))))
  refine wpQuiet_nil ?_
  intro _ hw'
  obtain ⟨pq, hw''⟩ := hw'
  subst hw''
  go_wp2
  go_ret
  exact ⟨ret_bool rfl, HZ.out.trans ((later_below _ _).mono HZ.out.size)⟩


end Go.Proofs.YtofllmemmggapaaGreatDoor.Tp

/- Rows of names and numbers, one behind another. -/
namespace Go.Proofs.YtofllmemmggapaaGreatDoor.Tp
open Go.RowKit

theorem addr_add0 (b off j : Nat) : (⟨b, off, none⟩ : Addr).add j = ⟨b, off + j, none⟩ := by unfold Addr.add; split <;> simp_all

theorem own_base {w : World} {base base' size n : Nat} {e : TypeId} {v : Value} {xs : List Value} (h : w.ownsRow base e size v n xs) (hb : base' ≤ base) : w.ownsRow base' e size v n xs := by
  refine ⟨h.1, h.2.imp id ?_⟩
  rintro ⟨g, cap, cur, k1, k2, k3⟩
  exact ⟨g, cap, cur, k1, Nat.le_trans hb k2, k3⟩

/-- one row of names behind another one -/
theorem append_strs_g (ty : TypeId) {wi wy : World} {lo : Nat} {S : Nat → Prop} {v1 v2 : Value} {l1 l2 : List ByteArray} (o1 : wy.ownsRow lo 9 1 v1 l1.length (l1.map Value.string)) (h2 : StrsAt S wy v2 l2)
    (hb : Below wi.heap.size wi wy) (hlo : wi.heap.size ≤ lo) (hlo1 : lo ≤ wy.heap.size) (hl1 : l1.length ≤ 1099511627776) {L : List ByteArray} (hL : l1 ++ l2 = L) :
    ∃ v' w', (Builtin.append_ #[22, 22] ty #[v1, v2]).run Tryz.prog wy = .ok v' w' ∧ w'.ownsRow wi.heap.size 9 1 v' L.length (L.map Value.string) ∧ Below wi.heap.size wi w' ∧ wy.grownBy w' v1.ownBlock := by
  subst hL
  obtain ⟨i0, hi0, hz3, hz1, hz2⟩ := info_parts infoStr
  obtain ⟨a, c, rfl, hc1, hl2, hn, hc⟩ := h2
  cases a with
  | none =>
    have hc0 := hn rfl
    subst hc0
    have e0 : l2 = [] := List.eq_nil_of_length_eq_zero (by omega)
    subst e0
    refine ⟨v1, wy, run_append_owned_none (P := Tryz.prog) (w := wy) lo 22 ty 9 i0 1 Tryz.underlying22 hi0 v1 l1.length (l1.map Value.string) o1, by rw [List.append_nil]; exact own_base o1 hlo, hb, .refl _ _⟩
  | some p =>
    obtain ⟨v', w', hr, ho, hgr, _⟩ := run_append_own (P := Tryz.prog) wy lo 22 ty 9 i0 (.string ByteArray.empty) 1 16 Tryz.underlying22 hi0 hz3 hz1 hz2 rfl (by decide) v1 l1.length (l1.map Value.string) o1 p l2.length c (l2.map Value.string) (by simp) (fun j u hu => by
      rw [List.getElem?_map] at hu
      cases hx : l2[j]? with
      | none => rw [hx] at hu; cases hu
      | some x =>
        rw [hx] at hu
        simp only [Option.map_some, Option.some.injEq] at hu
        subst hu
        obtain ⟨hj, hx⟩ := List.getElem?_eq_some_iff.1 hx
        obtain ⟨b, off, e, _, hcc⟩ := hc.resolve_left (by intro e; rw [e] at hj; simp at hj)
        obtain rfl := Option.some.inj e
        rw [addr_add0, hcc j hj, hx]) (fun u hu => by obtain ⟨x, _, rfl⟩ := List.mem_map.1 hu; rfl) (by unfold maxLen; omega) (by omega) hlo1
    refine ⟨v', w', hr, ?_, hb.grown hgr (by have := hb.size; omega) (fun k e => by have := (o1.lt k e).1; omega), hgr⟩
    rw [List.length_append, List.map_append]; exact own_base ho hlo
theorem append_strs (ty : TypeId) {wi wy : World} {lo : Nat} {S : Nat → Prop} {v1 v2 : Value} {l1 l2 : List ByteArray} (o1 : wy.ownsRow lo 9 1 v1 l1.length (l1.map Value.string)) (h2 : StrsAt S wy v2 l2)
    (hb : Below wi.heap.size wi wy) (hlo : wi.heap.size ≤ lo) (hlo1 : lo ≤ wy.heap.size) (hl1 : l1.length ≤ 1099511627776) {L : List ByteArray} (hL : l1 ++ l2 = L) :
    ∃ v' w', (Builtin.append_ #[22, 22] ty #[v1, v2]).run Tryz.prog wy = .ok v' w' ∧ w'.ownsRow wi.heap.size 9 1 v' L.length (L.map Value.string) ∧ Below wi.heap.size wi w' :=
  let ⟨v', w', h1, h2, h3, _⟩ := append_strs_g ty o1 h2 hb hlo hlo1 hl1 hL; ⟨v', w', h1, h2, h3⟩

/-- one row of numbers behind another one -/
theorem append_nums_g (ty : TypeId) {wi wy : World} {lo : Nat} {S : Nat → Prop} {v1 v2 : Value} {l1 l2 : List Int} (o1 : wy.ownsRow lo 3 1 v1 l1.length (l1.map (Value.int .i64))) (h2 : NumsAt S wy v2 l2) (hn : ∀ c, v2 = .slice none l2.length c → c = 0)
    (hb : Below wi.heap.size wi wy) (hlo : wi.heap.size ≤ lo) (hlo1 : lo ≤ wy.heap.size) (hl1 : l1.length ≤ 1099511627776) {L : List Int} (hL : l1 ++ l2 = L) :
    ∃ v' w', (Builtin.append_ #[63, 63] ty #[v1, v2]).run Tryz.prog wy = .ok v' w' ∧ w'.ownsRow wi.heap.size 3 1 v' L.length (L.map (Value.int .i64)) ∧ Below wi.heap.size wi w' ∧ wy.grownBy w' v1.ownBlock := by
  subst hL
  obtain ⟨i0, hi0, hz3, hz1, hz2⟩ := info_parts infoInt
  obtain ⟨a, c, rfl, hc1, hl2, hc⟩ := h2
  cases a with
  | none =>
    have hc0 := hn c rfl
    subst hc0
    have e0 : l2 = [] := List.eq_nil_of_length_eq_zero (by omega)
    subst e0
    refine ⟨v1, wy, run_append_owned_none (P := Tryz.prog) (w := wy) lo 63 ty 3 i0 1 Tryz.underlying63 hi0 v1 l1.length (l1.map (Value.int .i64)) o1, by rw [List.append_nil]; exact own_base o1 hlo, hb, .refl _ _⟩
  | some p =>
    obtain ⟨v', w', hr, ho, hgr, _⟩ := run_append_own (P := Tryz.prog) wy lo 63 ty 3 i0 (.int .i64 0) 1 8 Tryz.underlying63 hi0 hz3 hz1 hz2 rfl (by decide) v1 l1.length (l1.map (Value.int .i64)) o1 p l2.length c (l2.map (Value.int .i64)) (by simp) (fun j u hu => by
      rw [List.getElem?_map] at hu
      cases hx : l2[j]? with
      | none => rw [hx] at hu; cases hu
      | some x =>
        rw [hx] at hu
        simp only [Option.map_some, Option.some.injEq] at hu
        subst hu
        obtain ⟨hj, hx⟩ := List.getElem?_eq_some_iff.1 hx
        obtain ⟨b, off, e, _, hcc⟩ := hc.resolve_left (by intro e; rw [e] at hj; simp at hj)
        obtain rfl := Option.some.inj e
        rw [addr_add0, hcc j hj, hx]) (fun u hu => by obtain ⟨x, _, rfl⟩ := List.mem_map.1 hu; rfl) (by unfold maxLen; omega) (by omega) hlo1
    refine ⟨v', w', hr, ?_, hb.grown hgr (by have := hb.size; omega) (fun k e => by have := (o1.lt k e).1; omega), hgr⟩
    rw [List.length_append, List.map_append]; exact own_base ho hlo
theorem append_nums (ty : TypeId) {wi wy : World} {lo : Nat} {S : Nat → Prop} {v1 v2 : Value} {l1 l2 : List Int} (o1 : wy.ownsRow lo 3 1 v1 l1.length (l1.map (Value.int .i64))) (h2 : NumsAt S wy v2 l2) (hn : ∀ c, v2 = .slice none l2.length c → c = 0)
    (hb : Below wi.heap.size wi wy) (hlo : wi.heap.size ≤ lo) (hlo1 : lo ≤ wy.heap.size) (hl1 : l1.length ≤ 1099511627776) {L : List Int} (hL : l1 ++ l2 = L) :
    ∃ v' w', (Builtin.append_ #[63, 63] ty #[v1, v2]).run Tryz.prog wy = .ok v' w' ∧ w'.ownsRow wi.heap.size 3 1 v' L.length (L.map (Value.int .i64)) ∧ Below wi.heap.size wi w' :=
  let ⟨v', w', h1, h2, h3, _⟩ := append_nums_g ty o1 h2 hn hb hlo hlo1 hl1 hL; ⟨v', w', h1, h2, h3⟩

/-- a step of a region that draws its order: append -/
theorem step_append_ok {P : Program} {ops : Array Oper} {o : Oper} {a : Act} {w : World} {K : Act → World → Prop} {Q : Exit → Act → World → Prop} {E : Prop} (hgd : o.guard = none) (s x : Operand) (t : TypeId)
    (ho : o.op = .call { callee := .builtin .append, args := #[s, x], argTypes := #[t, t] }) {v vx : Value} (hs : a.eval s = v) (hx : a.eval x = vx) {R : Value → World → Prop}
    (hrun : ∃ v' w', (Builtin.append_ #[t, t] o.type #[v, vx]).run P w = .ok v' w' ∧ R v' w') (h : ∀ v' w', R v' w' → K (a.put o.dst v') w') :
    if Region.wanted o (yielded ops a.tmps) = true then Oper.wp P o a w K Q else E := by
  have hw : Region.wanted o (yielded ops a.tmps) = true := by simp [Region.wanted, hgd]
  rw [if_pos hw]
  obtain ⟨v', w', hr, hR⟩ := hrun
  unfold Oper.wp execOp
  simp only [ho, resolve, invoke, builtin, Sem.run_bind, Sem.run_pure, Result.andThen_ok, List.map_toArray, List.map_cons, List.map_nil, hs, hx, hr]
  exact h v' w' hR

/-- one name in a block of its own -/
theorem strs_one {w : World} {b : Nat} {x : ByteArray} {t : TypeId} {S : Nat → Prop} (h : w.heap[b]? = some (.cells #[.string x] t (0, 0))) (hS : S b) : StrsAt S w (.slice (some ⟨b, 0, none⟩) 1 1) [x] :=
  ⟨_, 1, rfl, by simp, by simp, (fun e => by cases e), .inr ⟨b, 0, rfl, hS, fun j hj => by
    have : j = 0 := by simp at hj; omega
    subst this
    exact cell_of_row w b 0 _ _ _ h⟩⟩
theorem nums_one {w : World} {b : Nat} {x : Int} {t : TypeId} {S : Nat → Prop} (h : w.heap[b]? = some (.cells #[.int .i64 x] t (0, 0))) (hS : S b) : NumsAt S w (.slice (some ⟨b, 0, none⟩) 1 1) [x] :=
  ⟨_, 1, rfl, by simp, by simp, .inr ⟨b, 0, rfl, hS, fun j hj => by
    have : j = 0 := by simp at hj; omega
    subst this
    exact cell_of_row w b 0 _ _ _ h⟩⟩
/-- no names, in a block of its own -/
theorem own_none {w : World} {b : Nat} {t : TypeId} {lo : Nat} (h : w.heap[b]? = some (.cells #[] t (0, 0))) (hb : lo ≤ b) : w.ownsRow lo t 1 (.slice (some ⟨b, 0, none⟩) 0 0) 0 [] :=
  ⟨by simp, .inr ⟨b, 0, #[], rfl, hb, h, Nat.le_refl _, by unfold maxLen; omega, by simp, by simp⟩⟩

/-- names that lie below a place -/
def StrsLow (w : World) (v : Value) (l : List ByteArray) : Prop := StrsAt (fun b => b < w.heap.size) w v l
theorem StrsLow.low {w w' : World} {v : Value} {l : List ByteArray} (h : StrsLow w v l) (hb : Below w.heap.size w w') : StrsLow w' v l :=
  (StrsAt.keep (fun b hS => hb.block b hS) h).mono fun _ hS => Nat.lt_of_lt_of_le hS hb.size
theorem StrsLow.own {w : World} {lo : Nat} {v : Value} {l : List ByteArray} (h : w.ownsRow lo 9 1 v l.length (l.map Value.string)) (hl : l.length ≤ 1099511627776) : StrsLow w v l :=
  (StrsAt.of_own h hl).mono fun b hb => (h.lt b hb).2
def NumsLow (w : World) (v : Value) (l : List Int) : Prop := NumsAt (fun b => b < w.heap.size) w v l ∧ ∀ c, v = .slice none l.length c → c = 0
theorem NumsLow.low {w w' : World} {v : Value} {l : List Int} (h : NumsLow w v l) (hb : Below w.heap.size w w') : NumsLow w' v l := by
  refine ⟨?_, h.2⟩
  obtain ⟨a, c, e, h1, h2, h3⟩ := NumsAt.keep (fun b hS => hb.block b hS) h.1
  exact ⟨a, c, e, h1, h2, h3.imp id fun ⟨b, off, e, hS, hc⟩ => ⟨b, off, e, Nat.lt_of_lt_of_le hS hb.size, hc⟩⟩
theorem NumsLow.own {w : World} {lo : Nat} {v : Value} {l : List Int} (h : w.ownsRow lo 3 1 v l.length (l.map (Value.int .i64))) (hl : l.length ≤ 1099511627776) : NumsLow w v l := by
  constructor
  · obtain ⟨a, c, e, h1, h2, h3⟩ := NumsAt.of_own h hl
    exact ⟨a, c, e, h1, h2, h3.imp id fun ⟨b, off, e, hS, hc⟩ => ⟨b, off, e, (h.lt b hS).2, hc⟩⟩
  · intro c e
    rcases h.2 with ⟨rfl, h0⟩ | ⟨g, cap, cur, rfl, _⟩
    · injection e with _ _ e; exact e.symm
    · simp at e
theorem ArgsAt.low {w w' : World} {v : Value} {l : List Ty} (h : ArgsAt (fun b => b < w.heap.size) w v l) (hb : Below w.heap.size w w') : ArgsAt (fun b => b < w'.heap.size) w' v l :=
  (ArgsAt.keep (fun b hS => hb.block b hS) h).mono fun _ hS => Nat.lt_of_lt_of_le hS hb.size

end Go.Proofs.YtofllmemmggapaaGreatDoor.Tp

/- Rows of names and numbers with one more, made anew. (Printed by gen_rffree.py.) -/
namespace Go.Proofs.YtofllmemmggapaaGreatDoor.Tp
open Go.RowKit

def Pusheds (W : World) (l : List ByteArray) (v : Value) (w' : World) : Prop := w'.ownsRow W.heap.size 9 1 v l.length (l.map (Value.string)) ∧ Below W.heap.size W w'
theorem pushed_s (ty : TypeId) {W w1 : World} {v1 : Value} {l : List ByteArray} {b : Nat} (x : ByteArray) (o1 : w1.ownsRow W.heap.size 9 1 v1 l.length (l.map (Value.string))) (hB : Below W.heap.size W w1) (h2 : w1.heap[b]? = some (.cells #[Value.string x] 9 (0, 0))) (hl : l.length ≤ 1099511627776) :
    ∃ v2 w2, (Builtin.append_ #[22, 22] ty #[v1, .slice (some ⟨b, 0, none⟩) 1 1]).run Tryz.prog w1 = .ok v2 w2 ∧ Pusheds W (l ++ [x]) v2 w2 :=
  append_strs (wi := W) (wy := w1) (lo := W.heap.size) (S := fun _ => True) ty o1 (strs_one h2 True.intro) hB (Nat.le_refl _) hB.size hl rfl
theorem push_sa (ty1 ty2 : TypeId) (W : World) {v : Value} {l : List ByteArray} (h : StrsLow W v l) (hl : l.length ≤ 1099511627776) (x : ByteArray) :
    ∃ v1 w1, (Builtin.append_ #[22, 22] ty1 #[.slice (some ⟨W.heap.size, 0, none⟩) 0 0, v]).run Tryz.prog (W.alloc (.cells #[] 9)).drew = .ok v1 w1 ∧ Below W.heap.size W w1 ∧
      ∃ v2 w2, (Builtin.append_ #[22, 22] ty2 #[v1, .slice (some ⟨w1.heap.size, 0, none⟩) 1 1]).run Tryz.prog (w1.alloc (.cells #[Value.string x] 9)) = .ok v2 w2 ∧ Pusheds W (l ++ [x]) v2 w2 := by
  have hb : Below W.heap.size W (W.alloc (.cells #[] 9)).drew := ((Below.refl _ _).alloc (Nat.le_refl _) _).drew
  have h2 := h.low hb
  obtain ⟨v1, w1, hr, o1, hB1⟩ := append_strs (wi := W) (wy := (W.alloc (.cells #[] 9)).drew) (lo := W.heap.size) (l1 := []) ty1 (own_none (heap_alloc_new W (.cells #[] 9)) (Nat.le_refl _)) h2 hb (Nat.le_refl _) hb.size (by simp) (List.nil_append l)
  exact ⟨v1, w1, hr, hB1, pushed_s ty2 x (o1.alloc _) (hB1.alloc hB1.size _) (heap_alloc_new w1 _) hl⟩
theorem push_sb (ty1 ty2 : TypeId) (W : World) {v : Value} {l : List ByteArray} (h : StrsLow W v l) (hl : l.length ≤ 1099511627776) (x : ByteArray) :
    ∃ v1 w1, (Builtin.append_ #[22, 22] ty1 #[.slice (some ⟨W.heap.size, 0, none⟩) 0 0, v]).run Tryz.prog ((W.alloc (.cells #[] 9)).alloc (.cells #[Value.string x] 9)).drew = .ok v1 w1 ∧ Below W.heap.size W w1 ∧
      ∃ v2 w2, (Builtin.append_ #[22, 22] ty2 #[v1, .slice (some ⟨W.heap.size + 1, 0, none⟩) 1 1]).run Tryz.prog w1 = .ok v2 w2 ∧ Pusheds W (l ++ [x]) v2 w2 := by
  have hb0 : Below W.heap.size W (W.alloc (.cells #[] 9)) := (Below.refl _ _).alloc (Nat.le_refl _) _
  have hb : Below W.heap.size W ((W.alloc (.cells #[] 9)).alloc (.cells #[Value.string x] 9)).drew := (hb0.alloc hb0.size _).drew
  have h2 := h.low hb
  have hn : ((W.alloc (.cells #[] 9)).alloc (.cells #[Value.string x] 9)).heap[W.heap.size + 1]? = some (.cells #[Value.string x] 9 (0, 0)) := by
    have := heap_alloc_new (W.alloc (.cells #[] 9)) (.cells #[Value.string x] 9); simpa using this
  obtain ⟨v1, w1, hr, o1, hB1, hg⟩ := append_strs_g (wi := W) (wy := ((W.alloc (.cells #[] 9)).alloc (.cells #[Value.string x] 9)).drew) (lo := W.heap.size) (l1 := []) ty1 (own_none ((heap_alloc_old (W.alloc (.cells #[] 9)) (.cells #[Value.string x] 9) (by simp)).trans (heap_alloc_new W (.cells #[] 9))) (Nat.le_refl _)) h2 hb (Nat.le_refl _) hb.size (by simp) (List.nil_append l)
  exact ⟨v1, w1, hr, hB1, pushed_s ty2 x o1 hB1 ((hg.block (W.heap.size + 1) (by simp) (by simp [Value.ownBlock])).trans hn) hl⟩
theorem push_sc (ty1 ty2 : TypeId) (W : World) {v : Value} {l : List ByteArray} (h : StrsLow W v l) (hl : l.length ≤ 1099511627776) (x : ByteArray) :
    ∃ v1 w1, (Builtin.append_ #[22, 22] ty1 #[.slice (some ⟨W.heap.size + 1, 0, none⟩) 0 0, v]).run Tryz.prog ((W.alloc (.cells #[Value.string x] 9)).alloc (.cells #[] 9)).drew = .ok v1 w1 ∧ Below W.heap.size W w1 ∧
      ∃ v2 w2, (Builtin.append_ #[22, 22] ty2 #[v1, .slice (some ⟨W.heap.size, 0, none⟩) 1 1]).run Tryz.prog w1 = .ok v2 w2 ∧ Pusheds W (l ++ [x]) v2 w2 := by
  have hb0 : Below W.heap.size W (W.alloc (.cells #[Value.string x] 9)) := (Below.refl _ _).alloc (Nat.le_refl _) _
  have hb : Below W.heap.size W ((W.alloc (.cells #[Value.string x] 9)).alloc (.cells #[] 9)).drew := (hb0.alloc hb0.size _).drew
  have h2 := h.low hb
  have hn : ((W.alloc (.cells #[Value.string x] 9)).alloc (.cells #[] 9)).heap[W.heap.size]? = some (.cells #[Value.string x] 9 (0, 0)) :=
    (heap_alloc_old (W.alloc (.cells #[Value.string x] 9)) (.cells #[] 9) (by simp)).trans (heap_alloc_new W (.cells #[Value.string x] 9))
  have hm : ((W.alloc (.cells #[Value.string x] 9)).alloc (.cells #[] 9)).heap[W.heap.size + 1]? = some (.cells #[] 9 (0, 0)) := by
    have := heap_alloc_new (W.alloc (.cells #[Value.string x] 9)) (.cells #[] 9); simpa using this
  obtain ⟨v1, w1, hr, o1, hB1, hg⟩ := append_strs_g (wi := W) (wy := ((W.alloc (.cells #[Value.string x] 9)).alloc (.cells #[] 9)).drew) (lo := W.heap.size) (l1 := []) ty1 (own_none (b := W.heap.size + 1) hm (by omega)) h2 hb (Nat.le_refl _) hb.size (by simp) (List.nil_append l)
  exact ⟨v1, w1, hr, hB1, pushed_s ty2 x o1 hB1 ((hg.block W.heap.size (by simp; omega) (by simp [Value.ownBlock])).trans hn) hl⟩

def Pushedn (W : World) (l : List Int) (v : Value) (w' : World) : Prop := w'.ownsRow W.heap.size 3 1 v l.length (l.map (Value.int .i64)) ∧ Below W.heap.size W w'
theorem pushed_n (ty : TypeId) {W w1 : World} {v1 : Value} {l : List Int} {b : Nat} (x : Int) (o1 : w1.ownsRow W.heap.size 3 1 v1 l.length (l.map (Value.int .i64))) (hB : Below W.heap.size W w1) (h2 : w1.heap[b]? = some (.cells #[Value.int .i64 x] 3 (0, 0))) (hl : l.length ≤ 1099511627776) :
    ∃ v2 w2, (Builtin.append_ #[63, 63] ty #[v1, .slice (some ⟨b, 0, none⟩) 1 1]).run Tryz.prog w1 = .ok v2 w2 ∧ Pushedn W (l ++ [x]) v2 w2 :=
  append_nums (wi := W) (wy := w1) (lo := W.heap.size) (S := fun _ => True) ty o1 (nums_one h2 True.intro) (fun c e => by simp at e) hB (Nat.le_refl _) hB.size hl rfl
theorem push_na (ty1 ty2 : TypeId) (W : World) {v : Value} {l : List Int} (h : NumsLow W v l) (hl : l.length ≤ 1099511627776) (x : Int) :
    ∃ v1 w1, (Builtin.append_ #[63, 63] ty1 #[.slice (some ⟨W.heap.size, 0, none⟩) 0 0, v]).run Tryz.prog (W.alloc (.cells #[] 3)).drew = .ok v1 w1 ∧ Below W.heap.size W w1 ∧
      ∃ v2 w2, (Builtin.append_ #[63, 63] ty2 #[v1, .slice (some ⟨w1.heap.size, 0, none⟩) 1 1]).run Tryz.prog (w1.alloc (.cells #[Value.int .i64 x] 3)) = .ok v2 w2 ∧ Pushedn W (l ++ [x]) v2 w2 := by
  have hb : Below W.heap.size W (W.alloc (.cells #[] 3)).drew := ((Below.refl _ _).alloc (Nat.le_refl _) _).drew
  have h2 := h.low hb
  obtain ⟨v1, w1, hr, o1, hB1⟩ := append_nums (wi := W) (wy := (W.alloc (.cells #[] 3)).drew) (lo := W.heap.size) (l1 := []) ty1 (own_none (heap_alloc_new W (.cells #[] 3)) (Nat.le_refl _)) h2.1 h2.2 hb (Nat.le_refl _) hb.size (by simp) (List.nil_append l)
  exact ⟨v1, w1, hr, hB1, pushed_n ty2 x (o1.alloc _) (hB1.alloc hB1.size _) (heap_alloc_new w1 _) hl⟩
theorem push_nb (ty1 ty2 : TypeId) (W : World) {v : Value} {l : List Int} (h : NumsLow W v l) (hl : l.length ≤ 1099511627776) (x : Int) :
    ∃ v1 w1, (Builtin.append_ #[63, 63] ty1 #[.slice (some ⟨W.heap.size, 0, none⟩) 0 0, v]).run Tryz.prog ((W.alloc (.cells #[] 3)).alloc (.cells #[Value.int .i64 x] 3)).drew = .ok v1 w1 ∧ Below W.heap.size W w1 ∧
      ∃ v2 w2, (Builtin.append_ #[63, 63] ty2 #[v1, .slice (some ⟨W.heap.size + 1, 0, none⟩) 1 1]).run Tryz.prog w1 = .ok v2 w2 ∧ Pushedn W (l ++ [x]) v2 w2 := by
  have hb0 : Below W.heap.size W (W.alloc (.cells #[] 3)) := (Below.refl _ _).alloc (Nat.le_refl _) _
  have hb : Below W.heap.size W ((W.alloc (.cells #[] 3)).alloc (.cells #[Value.int .i64 x] 3)).drew := (hb0.alloc hb0.size _).drew
  have h2 := h.low hb
  have hn : ((W.alloc (.cells #[] 3)).alloc (.cells #[Value.int .i64 x] 3)).heap[W.heap.size + 1]? = some (.cells #[Value.int .i64 x] 3 (0, 0)) := by
    have := heap_alloc_new (W.alloc (.cells #[] 3)) (.cells #[Value.int .i64 x] 3); simpa using this
  obtain ⟨v1, w1, hr, o1, hB1, hg⟩ := append_nums_g (wi := W) (wy := ((W.alloc (.cells #[] 3)).alloc (.cells #[Value.int .i64 x] 3)).drew) (lo := W.heap.size) (l1 := []) ty1 (own_none ((heap_alloc_old (W.alloc (.cells #[] 3)) (.cells #[Value.int .i64 x] 3) (by simp)).trans (heap_alloc_new W (.cells #[] 3))) (Nat.le_refl _)) h2.1 h2.2 hb (Nat.le_refl _) hb.size (by simp) (List.nil_append l)
  exact ⟨v1, w1, hr, hB1, pushed_n ty2 x o1 hB1 ((hg.block (W.heap.size + 1) (by simp) (by simp [Value.ownBlock])).trans hn) hl⟩
theorem push_nc (ty1 ty2 : TypeId) (W : World) {v : Value} {l : List Int} (h : NumsLow W v l) (hl : l.length ≤ 1099511627776) (x : Int) :
    ∃ v1 w1, (Builtin.append_ #[63, 63] ty1 #[.slice (some ⟨W.heap.size + 1, 0, none⟩) 0 0, v]).run Tryz.prog ((W.alloc (.cells #[Value.int .i64 x] 3)).alloc (.cells #[] 3)).drew = .ok v1 w1 ∧ Below W.heap.size W w1 ∧
      ∃ v2 w2, (Builtin.append_ #[63, 63] ty2 #[v1, .slice (some ⟨W.heap.size, 0, none⟩) 1 1]).run Tryz.prog w1 = .ok v2 w2 ∧ Pushedn W (l ++ [x]) v2 w2 := by
  have hb0 : Below W.heap.size W (W.alloc (.cells #[Value.int .i64 x] 3)) := (Below.refl _ _).alloc (Nat.le_refl _) _
  have hb : Below W.heap.size W ((W.alloc (.cells #[Value.int .i64 x] 3)).alloc (.cells #[] 3)).drew := (hb0.alloc hb0.size _).drew
  have h2 := h.low hb
  have hn : ((W.alloc (.cells #[Value.int .i64 x] 3)).alloc (.cells #[] 3)).heap[W.heap.size]? = some (.cells #[Value.int .i64 x] 3 (0, 0)) :=
    (heap_alloc_old (W.alloc (.cells #[Value.int .i64 x] 3)) (.cells #[] 3) (by simp)).trans (heap_alloc_new W (.cells #[Value.int .i64 x] 3))
  have hm : ((W.alloc (.cells #[Value.int .i64 x] 3)).alloc (.cells #[] 3)).heap[W.heap.size + 1]? = some (.cells #[] 3 (0, 0)) := by
    have := heap_alloc_new (W.alloc (.cells #[Value.int .i64 x] 3)) (.cells #[] 3); simpa using this
  obtain ⟨v1, w1, hr, o1, hB1, hg⟩ := append_nums_g (wi := W) (wy := ((W.alloc (.cells #[Value.int .i64 x] 3)).alloc (.cells #[] 3)).drew) (lo := W.heap.size) (l1 := []) ty1 (own_none (b := W.heap.size + 1) hm (by omega)) h2.1 h2.2 hb (Nat.le_refl _) hb.size (by simp) (List.nil_append l)
  exact ⟨v1, w1, hr, hB1, pushed_n ty2 x o1 hB1 ((hg.block W.heap.size (by simp; omega) (by simp [Value.ownBlock])).trans hn) hl⟩

end Go.Proofs.YtofllmemmggapaaGreatDoor.Tp

/- awake of savantlaw02: the chapter's examples hold. -/
namespace Go.Proofs.YtofllmemmggapaaGreatDoor.Tp
open Go.RowKit

def OkPost (w : World) (t : Ty) (e : Ending) (w' : World) : Prop :=
  ∃ a c, e = .returned (.tuple #[.agg #[.int .i64 t.kind, .string t.name, .int .i64 t.n, .slice a t.args.length c], .int .i64 0]) ∧ Below w.heap.size w w' ∧
    Hold w'.heap.size w'.heap.size t a c (w'.alloc (.cells #[.int .i64 t.kind, .string t.name, .int .i64 t.n, .slice a t.args.length c] 26)) ∧ Below w.heap.size w (w'.alloc (.cells #[.int .i64 t.kind, .string t.name, .int .i64 t.n, .slice a t.args.length c] 26))
def BadPost (w : World) (er : Nat) (e : Ending) (w' : World) : Prop :=
  e = .returned (.tuple #[.agg #[.int .i64 0, .string ⟨#[]⟩, .int .i64 0, .slice none 0 0], .int .i64 er]) ∧ Below w.heap.size w w' ∧ Below w.heap.size w (w'.alloc (.cells #[.int .i64 0, .string ⟨#[]⟩, .int .i64 0, .slice none 0 0] 26))

theorem parse_ok (w : World) (s : ByteArray) (hs : s.size ≤ maxLen) {t : Ty} (h : parseT s.data.toList = .ok t) : Calls Tryz.prog 27 #[.string s] w (OkPost w t) := by
  have C := parse_any w s hs
  rw [h] at C
  refine C.mono ?_
  rintro e w' ⟨hb, a, c, rfl, hA⟩
  exact ⟨a, c, rfl, hb, .of_parse hA, hb.trans (((Below.refl _ _).alloc (Nat.le_refl _) _).mono hb.size)⟩
theorem parse_bad (w : World) (s : ByteArray) (hs : s.size ≤ maxLen) {er : Nat} (h : parseT s.data.toList = .error er) : Calls Tryz.prog 27 #[.string s] w (BadPost w er) := by
  have C := parse_any w s hs
  rw [h] at C
  refine C.mono ?_
  rintro e w' ⟨hb, rfl⟩
  exact ⟨rfl, hb, hb.trans (((Below.refl _ _).alloc (Nat.le_refl _) _).mono hb.size)⟩

theorem small_of {t : Ty} (h : Mk t) (hs : t.size ≤ 1073741824) : Small t := ⟨mk_good t h, hs⟩
theorem small_parse {s : List UInt8} {t : Ty} (h : parseT s = .ok t) : Small t := by
  have := parse_made h
  exact small_of this.1 (by omega)
theorem Below.hid {w w' : World} {n : Nat} (h : Below n w w') : Hid (Below n w w') := Lib.hid h

theorem bytes_toList (l : List UInt8) : (bytes l).toList = l := by rw [ByteArray.toList_eq]; simp [bytes]



end Go.Proofs.YtofllmemmggapaaGreatDoor.Tp

/- What the laws' walks want besides. -/
namespace Go.Proofs.YtofllmemmggapaaGreatDoor.Tp
open Go.RowKit

theorem drawn_below {B : Nat} {a w : World} (h : Below B a w) (n : Nat) : Below B a (w.drewN n) := h.trans ⟨rfl, rfl, rfl, Nat.le_refl _, fun _ _ => rfl⟩
/-- whatever Parse tells -/
def SomePost (w : World) (e : Ending) (w' : World) : Prop :=
  ∃ (k n : Int) (s : ByteArray) (a : Option Addr) (l c er : Nat), e = .returned (.tuple #[.agg #[.int .i64 k, .string s, .int .i64 n, .slice a l c], .int .i64 er]) ∧ Below w.heap.size w (w'.alloc (.cells #[.int .i64 k, .string s, .int .i64 n, .slice a l c] 26))
theorem parse_some (w : World) (s : ByteArray) (hs : s.size ≤ maxLen) : Calls Tryz.prog 27 #[.string s] w (SomePost w) := by
  cases h : parseT s.data.toList with
  | error er =>
    refine (parse_bad w s hs h).mono ?_
    rintro e w' ⟨rfl, _, hB⟩
    exact ⟨0, 0, _, none, 0, 0, er, rfl, hB⟩
  | ok t =>
    refine (parse_ok w s hs h).mono ?_
    rintro e w' ⟨a, c, rfl, _, _, hB⟩
    exact ⟨_, _, _, a, _, c, 0, rfl, hB⟩

theorem metaAcc_len : ∀ (t : Ty) (out : List Int) (ns : List ByteArray), (walkF metaStep t out ns).length ≤ out.length + t.size := by
  intro t
  induction t using Ty.ind with
  | h t ih =>
    intro out ns
    rw [walkF_eq, t.size_eq]
    have h1 : (metaStep out t ns).length ≤ out.length + 1 := by unfold metaStep; split <;> simp
    have : ∀ (l : List Ty) (out : List Int) (ns : List ByteArray), (∀ a ∈ l, ∀ (out : List Int) (ns : List ByteArray), (walkF metaStep a out ns).length ≤ out.length + a.size) → (walkL metaStep l out ns).length ≤ out.length + sizeL l := by
      intro l
      induction l with
      | nil => intro out ns _; simp [walkL, sizeL]
      | cons a l ihl =>
        intro out ns h
        rw [walkL, sizeL]
        have := ihl (walkF metaStep a out ns) ns fun b hb => h b (by simp [hb])
        have := h a (by simp) out ns
        omega
    have := this t.args (metaStep out t ns) (if t.kind = 5 then t.name :: ns else ns) ih
    omega
theorem metasT_len (t : Ty) : (metasT t).length ≤ t.size := by have := metaAcc_len t [] []; simpa [metasT] using this


end Go.Proofs.YtofllmemmggapaaGreatDoor.Tp

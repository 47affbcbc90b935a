/- Texts laid together: TyFreeC, TyMetaC, TyFree, TyWithP, TyWith. -/
import Derived.Test.YtofllmemmggapaaGreatDoorP13
import Derived.Test.YtofllmemmggapaaGreatDoorP11
import Derived.Carry

/- The walk of Free's closure. -/
namespace Go.Proofs.YtofllmemmggapaaGreatDoor.Tp
open Go.RowKit

/-- the closure's memory: the names so far -/
def FreeInv (bo : Nat) (k : Nat) (out : List ByteArray) (r : Option Nat) (W : World) : Prop :=
  ∃ v, W.heap[bo]? = some (.cells #[v] 22 (0, 0)) ∧ W.ownsRow (bo + 1) 9 1 v out.length (out.map Value.string) ∧ r = v.ownBlock ∧ out.length ≤ k

theorem freeInv_ok (bo : Nat) : InvOk bo (FreeInv bo) where
  low := by
    rintro k g r W W' ⟨v, h1, h2, h3, h4⟩ hb
    exact ⟨v, (hb.block bo (Array.getElem?_eq_some_iff.1 h1).1).trans h1, own_keep4 h2 fun b e => hb.block b (h2.lt b e).2, h3, h4⟩
  bo := by
    rintro k g r W ⟨v, h1, _⟩
    exact (Array.getElem?_eq_some_iff.1 h1).1
  row := by
    rintro k g r W b ⟨v, h1, h2, h3, h4⟩ e
    exact (h2.lt b (h3.symm.trans e)).2

theorem zeroBool (w : World) : (zeroValue 4).run Tryz.prog w = .ok (.bool false) w := by kernel_rfl

theorem hasN_not {l : List ByteArray} {x : ByteArray} (h : x ∉ l) : hasN l x = false := by
  cases e : hasN l x with
  | false => rfl
  | true => exact absurd ((hasN_iff l x).1 e) h
theorem contains_hasN (l : List ByteArray) (x : ByteArray) : Lib.containsS l x = hasN l x := by
  rw [Bool.eq_iff_iff, contains_iff, hasN_iff]

set_option maxRecDepth 100000 in
set_option maxHeartbeats 3200000 in
theorem free_at (bo : Nat) : AtSaid 45 #[.pointer (some ⟨bo, 0, none⟩)] bo freeStep (FreeInv bo) := by
  intro k out x ns S a c m r W hI hk hA hS hM hOm
  obtain ⟨v, hv, hO, hr, hl⟩ := hI
  have hbo := (Array.getElem?_eq_some_iff.1 hv).1
  have hz := (Below.refl W.heap.size W).alloc (Nat.le_refl _) (.cells #[.int .i64 x.kind, .string x.name, .int .i64 x.n, .slice a x.args.length c] 26)
  have b4 := B4.new W (.int .i64 x.kind) (.string x.name) (.int .i64 x.n) (.slice a x.args.length c)
  have c0 := b4.c0
  have c1 := b4.c1
  have cv : (W.alloc (.cells #[.int .i64 x.kind, .string x.name, .int .i64 x.n, .slice a x.args.length c] 26)).cell? ⟨bo, 0, none⟩ = some v := (hz.cell (p := ⟨bo, 0, none⟩) hbo).trans (cell_of_row W bo 0 _ _ _ hv)
  have same : ∀ (e : freeStep out x ns = out), AtPost bo (FreeInv bo) (k + 1) (freeStep out x ns) r W (.returned (.tuple #[])) (W.alloc (.cells #[.int .i64 x.kind, .string x.name, .int .i64 x.n, .slice a x.args.length c] 26)) := fun e => by
    rw [e]
    obtain ⟨v', h1, h2, h3, h4⟩ := (freeInv_ok bo).low k out r W _ ⟨v, hv, hO, hr, hl⟩ hz
    exact ⟨⟨_, rfl⟩, r, ⟨v', h1, h2, h3, by omega⟩, .of_below hz⟩
  have SM := Lib.hid same
  unfold tv
  clear b4 same
  by_cases h1 : x.kind = 1
  · have z1 : (x.kind == 1) = true := by rw [beq_iff_eq]; exact h1
    by_cases h2 : x.name ∈ ns
    · have E : Hid (freeStep out x ns = out) := Lib.hid (by unfold freeStep; rw [(hasN_iff ns x.name).2 h2]; simp)
      have hlk := (hM.keep (hz.block m hOm.1)).lookup Tryz.underlying87 Tryz.underlying9 (zeroBool _) x.name (c := true) (by simpa using h2)
      clear h1 h2 hv hO hr hl hbo hz hA hS hM hOm hk
      go_enter Tryz.func45, Tryz.ntmps45
      go_wp2
      go_end0
      exact SM.out E.out
    · have hlk := (hM.keep (hz.block m hOm.1)).lookup Tryz.underlying87 Tryz.underlying9 (zeroBool _) x.name (c := false) (by simpa using h2)
      have hso : StrsAt (fun b => v.ownBlock = some b) (W.alloc (.cells #[.int .i64 x.kind, .string x.name, .int .i64 x.n, .slice a x.args.length c] 26)) v out := StrsAt.of_own (own_keep4 hO fun b e => hz.block b (hO.lt b e).2) (by omega)
      have CC := contains_any hso x.name
      rw [contains_hasN] at CC
      by_cases h3 : x.name ∈ out
      · have E : Hid (freeStep out x ns = out) := Lib.hid (by unfold freeStep; rw [(hasN_iff out x.name).2 h3]; simp)
        rw [(hasN_iff out x.name).2 h3] at CC
        have CC := Lib.hid CC
        clear h1 h2 h3 hv hO hr hl hbo hz hA hS hM hOm hk hso
        go_enter Tryz.func45, Tryz.ntmps45
        go_wp2_with fail
        refine CC.out.mono ?_
        rintro e w' ⟨rfl, rfl⟩
        go_wp2
        go_end0
        exact SM.out E.out
      · have E : Hid (freeStep out x ns = out ++ [x.name]) := Lib.hid (by unfold freeStep; rw [hasN_not h2, hasN_not h3, z1]; rfl)
        rw [hasN_not h3] at CC
        have CC := Lib.hid CC
        have hz2 := hz.alloc hz.size (.cells #[.string x.name] 9)
        have OW := Lib.hid (own_keep4 hO fun b e => hz2.block b (hO.lt b e).2)
        have HV := Lib.hid hv
        have HO := Lib.hid hO
        have HR := Lib.hid hr
        have HZ2 := Lib.hid hz2
        have NB : Hid (v.ownBlock ≠ some bo) := Lib.hid (fun e => by have := (hO.lt _ e).1; omega)
        have HB7 := Lib.hid ((hz2.block bo hbo).trans hv)
        obtain ⟨i0, hi0, hzz0, hz1, hz3⟩ := info_parts infoStr
        clear h1 h2 h3 hv hO hr hA hS hM hOm hso hz hz2
        go_enter Tryz.func45, Tryz.ntmps45
        go_wp2_with fail
        refine CC.out.mono ?_
        rintro e w' ⟨rfl, rfl⟩
        have cb : ((W.alloc (.cells #[.int .i64 x.kind, .string x.name, .int .i64 x.n, .slice a x.args.length c] 26)).alloc (.cells #[.string x.name] 9)).cell? ⟨bo, 0, none⟩ = some v := (HZ2.out.cell (p := ⟨bo, 0, none⟩) hbo).trans (cell_of_row W bo 0 _ _ _ HV.out)
        go_wp2_with (at_builtin; go_loud (refine wpList_append_lies _ rfl _ _ _ rfl (bo + 1) 9 i0 _ 1 16 Tryz.underlying22 hi0 hzz0 hz1 hz3 rfl (by omega) v out.length (out.map Value.string) rfl OW.out ⟨W.heap.size + 1, 0, none⟩ 1 1 [.string x.name] rfl rfl (World.news_of_block (cs := #[.string x.name]) (t := 9) (fr := (0, 0)) (alloc_new (by simp))) (by simp [Value.oneCell']) (by omega) (by unfold maxLen; omega) (by omega) (by simp; omega) (W.heap.size + 1 + 1) (by simp) ?_; intro gg cap w7 hown7 hgrow7 hat7 hlt7; have hb7 := (hgrow7.block bo (by first | (simp; done) | (simp; omega)) (fun e => NB.out e.symm)).trans (HB7.out); have c7 := cell_of_row w7 bo 0 _ _ _ hb7; have fr7 : w7.frozen? ⟨bo, 0, none⟩ = false := (by simp [World.frozen?, hb7]); have HB8 := Lib.hid hb7; clear hb7))
        go_end0
        have hne : gg ≠ bo := by
          rcases hat7 with e | e
          · intro h; rw [h] at e; exact NB.out e
          · omega
        refine ⟨⟨_, rfl⟩, (some gg : Option Nat), ⟨.slice (some ⟨gg, 0, none⟩) (out.length + 1) cap, set_row0 HB8.out _, ?_, rfl, by rw [E.out, List.length_append]; simp; omega⟩, ⟨?_, ?_⟩⟩
        · rw [E.out, List.length_append, List.map_append]
          exact own_keep4 hown7 fun b e => Below.heap_setCell _ _ _ _ (by injection e with e; subst e; exact hne)
        · refine ((Kp.of_below HZ2.out).grown hgrow7 (by simp; omega) (fun b e => .inr (.inr ?_))).setCell (.inr (.inl rfl)) _
          rw [HR.out, e]
        · rcases hat7 with e | e
          · exact .inl (by rw [HR.out, e])
          · exact .inr ⟨gg, rfl, by omega⟩
  · have z1 : (x.kind == 1) = false := by rw [beq_eq_false_iff_ne]; exact h1
    have E : Hid (freeStep out x ns = out) := Lib.hid (by unfold freeStep; rw [z1]; simp)
    clear h1 hv hO hr hl hbo hz hA hS hM hOm hk
    go_enter Tryz.func45, Tryz.ntmps45
    go_wp2
    go_end0
    exact SM.out E.out

end Go.Proofs.YtofllmemmggapaaGreatDoor.Tp

/- The walk of Metas's closure; of Free and Metas. -/
namespace Go.Proofs.YtofllmemmggapaaGreatDoor.Tp
open Go.RowKit

/-- the closure's memory: the numbers so far -/
def MetaInv (bo : Nat) (k : Nat) (out : List Int) (r : Option Nat) (W : World) : Prop :=
  ∃ v, W.heap[bo]? = some (.cells #[v] 63 (0, 0)) ∧ W.ownsRow (bo + 1) 3 1 v out.length (out.map (Value.int .i64)) ∧ r = v.ownBlock ∧ out.length ≤ k

theorem metaInv_ok (bo : Nat) : InvOk bo (MetaInv bo) where
  low := by
    rintro k g r W W' ⟨v, h1, h2, h3, h4⟩ hb
    exact ⟨v, (hb.block bo (Array.getElem?_eq_some_iff.1 h1).1).trans h1, own_keep4 h2 fun b e => hb.block b (h2.lt b e).2, h3, h4⟩
  bo := by
    rintro k g r W ⟨v, h1, _⟩
    exact (Array.getElem?_eq_some_iff.1 h1).1
  row := by
    rintro k g r W b ⟨v, h1, h2, h3, h4⟩ e
    exact (h2.lt b (h3.symm.trans e)).2

theorem infoInt : (Tryz.prog.info? 3).map (fun i => (i.zero, i.size, i.bytes)) = some (some (.int .i64 0), 1, 8) := by kernel_rfl



end Go.Proofs.YtofllmemmggapaaGreatDoor.Tp

/- The walks of Free and Metas. -/
namespace Go.Proofs.YtofllmemmggapaaGreatDoor.Tp
open Go.RowKit

/-- what Free tells: a row of its own that holds the names -/
def FreePost (w : World) (t : Ty) (e : Ending) (w' : World) : Prop :=
  ∃ v, e = .returned v ∧ w'.ownsRow w.heap.size 9 1 v (freeT t).length ((freeT t).map Value.string) ∧ (freeT t).length ≤ t.size ∧ Below w.heap.size w w'
def MetasPost (w : World) (t : Ty) (e : Ending) (w' : World) : Prop :=
  ∃ v, e = .returned v ∧ w'.ownsRow w.heap.size 3 1 v (metasT t).length ((metasT t).map (Value.int .i64)) ∧ (metasT t).length ≤ t.size ∧ Below w.heap.size w w'

theorem own_mono {w : World} {base base' size n : Nat} {e : TypeId} {v : Value} {xs : List Value} (h : w.ownsRow base e size v n xs) (hb : base' ≤ base) : w.ownsRow base' e size v n xs := by
  refine ⟨h.1, h.2.imp id ?_⟩
  rintro ⟨g, cap, cur, k1, k2, k3⟩
  exact ⟨g, cap, cur, k1, Nat.le_trans hb k2, k3⟩

theorem freeEnters (args : Array Value) (w : World) : (callFunc 45 args).run Tryz.prog w = .ok (.enter 45 args) w :=
  enters_of Tryz.func45 (by kernel_rfl) rfl args w

set_option maxHeartbeats 1600000 in
theorem free_any (t : Ty) (S : Nat → Prop) (a : Option Addr) (c : Nat) (w : World) (hA : ArgsAt S w (.slice a t.args.length c) t.args) (hS : ∀ b, S b → b < w.heap.size) (hk : t.size ≤ 1099511627776) :
    Calls Tryz.prog 25 #[tv t a c] w (FreePost w t) := by
  have hz := (Below.refl w.heap.size w).alloc (Nat.le_refl _) (.cells #[.int .i64 t.kind, .string t.name, .int .i64 t.n, .slice a t.args.length c] 26)
  have b4 := B4.new w (.int .i64 t.kind) (.string t.name) (.int .i64 t.n) (.slice a t.args.length c)
  have hz2 := hz.alloc hz.size (.cells #[.slice none 0 0] 22)
  have hz3 := hz2.alloc hz2.size (.map #[] 0)
  have k4 := b4.low ((Below.refl _ _).alloc (Nat.le_refl _) (.cells #[.slice none 0 0] 22))
  have c0 := k4.c0
  have c1 := k4.c1
  have c2 := k4.c2
  have c3 := k4.c3
  have hb1 : (((w.alloc (.cells #[.int .i64 t.kind, .string t.name, .int .i64 t.n, .slice a t.args.length c] 26)).alloc (.cells #[.slice none 0 0] 22)).alloc (.map #[] 0)).heap[w.heap.size + 1]? = some (.cells #[.slice none 0 0] 22 (0, 0)) := by
    rw [heap_alloc_old _ _ (by simp)]
    exact alloc_new (by simp)
  have I0 : FreeInv (w.heap.size + 1) 0 [] none (((w.alloc (.cells #[.int .i64 t.kind, .string t.name, .int .i64 t.n, .slice a t.args.length c] 26)).alloc (.cells #[.slice none 0 0] 22)).alloc (.map #[] 0)) :=
    ⟨_, hb1, World.ownsRow_nil _ _ _ _, rfl, Nat.le_refl _⟩
  have CW := walk_any _ #[.pointer (some ⟨w.heap.size + 1, 0, none⟩)] (w.heap.size + 1) freeStep (FreeInv (w.heap.size + 1)) freeEnters (free_at _) (freeInv_ok _) t 0 [] [] S a c (w.heap.size + 1 + 1) none _ I0 (by omega)
    (hA.keep fun b hb => hz3.block b (hS b hb)) (fun b hb => ⟨Nat.lt_of_lt_of_le (hS b hb) hz3.size, by have := hS b hb; omega, by simp⟩) (SetAt.congr (ns := fun _ => False) (ns' := (· ∈ ([] : List ByteArray))) (SetAt.made_at (by simp)) (by simp)) ⟨by simp, by omega, by simp⟩
  rw [Nat.zero_add] at CW
  have CW := Lib.hid CW
  have HZ3 := Lib.hid hz3
  have hmm := @run_makeMap Tryz.prog
  unfold tv at *
  clear hA hS hz b4 hz2 hz3 k4 hb1 I0
  go_enter Tryz.func25, Tryz.ntmps25
  go_wp2_with fail
  refine CW.out.mono ?_
  rintro e W1 ⟨⟨v, rfl⟩, r1, ⟨u, hu, ho, _, hl⟩, hT⟩
  have cu : W1.cell? ⟨w.heap.size + 1, 0, none⟩ = some u := cell_of_row W1 _ 0 _ _ _ hu
  have O1 := Lib.hid (own_mono ho (base' := w.heap.size) (by omega))
  have B1 := Lib.hid ((Kp.of_below (T := fun b => b = w.heap.size + 1 ∨ some b = (none : Option Nat)) HZ3.out).trans hT.kp HZ3.out.size (fun b _ h => h))
  have HL := Lib.hid hl
  clear hu ho hT hl
  go_wp2
  go_ret
  exact ⟨u, rfl, O1.out, HL.out, ⟨B1.out.os, B1.out.tape, B1.out.output, B1.out.size, fun k hk => B1.out.block k hk (by rintro (h | h) <;> first | omega | cases h)⟩⟩


end Go.Proofs.YtofllmemmggapaaGreatDoor.Tp

/- Types with other arguments; a row of types that is filled. -/
namespace Go.Proofs.YtofllmemmggapaaGreatDoor.Tp
open Go.RowKit

def withT (t : Ty) (args : List Ty) : Ty := .mk t.kind t.name t.n args

section
variable {G : Type} (F : G → Ty → Ty × G)
def mapAcc : G → List Ty → List Ty × G
  | g, [] => ([], g)
  | g, t :: ts => ((F g t).1 :: (mapAcc (F g t).2 ts).1, (mapAcc (F g t).2 ts).2)
end

theorem mapAcc_append {G : Type} (F : G → Ty → Ty × G) (a b : List Ty) (g : G) : mapAcc F g (a ++ b) = ((mapAcc F g a).1 ++ (mapAcc F (mapAcc F g a).2 b).1, (mapAcc F (mapAcc F g a).2 b).2) := by
  induction a generalizing g with
  | nil => rfl
  | cons t ts ih => simp only [List.cons_append, mapAcc, ih]
theorem mapAcc_take {G : Type} (F : G → Ty → Ty × G) (ts : List Ty) (i : Nat) (h : i < ts.length) (g : G) :
    mapAcc F g (ts.take (i + 1)) = ((mapAcc F g (ts.take i)).1 ++ [(F (mapAcc F g (ts.take i)).2 ts[i]).1], (F (mapAcc F g (ts.take i)).2 ts[i]).2) := by
  rw [List.take_add_one, List.getElem?_eq_getElem h, mapAcc_append]; rfl
theorem mapAcc_len {G : Type} (F : G → Ty → Ty × G) (ts : List Ty) (g : G) : (mapAcc F g ts).1.length = ts.length := by
  induction ts generalizing g with
  | nil => rfl
  | cons t ts ih => simp only [mapAcc, List.length_cons, ih]

/-- block R has room for n types; the first ones are ys -/
def RowAt (W : World) (R n : Nat) (ys : List Ty) (svs : List Value) : Prop :=
  svs.length = ys.length ∧ ∃ cur, W.heap[R]? = some (.cells cur 26 (0, 0)) ∧ cur.size = n * 4 ∧ cur.toList.take (ys.length * 4) = cellsT ys svs

theorem RowAt.lt {W : World} {R n : Nat} {ys : List Ty} {svs : List Value} (h : RowAt W R n ys svs) : R < W.heap.size := by
  obtain ⟨_, cur, h1, _⟩ := h; exact (Array.getElem?_eq_some_iff.1 h1).1
theorem RowAt.keep {W W' : World} {R n : Nat} {ys : List Ty} {svs : List Value} (h : RowAt W R n ys svs) (hb : W'.heap[R]? = W.heap[R]?) : RowAt W' R n ys svs := by
  obtain ⟨h0, cur, h1, h2⟩ := h; exact ⟨h0, cur, hb.trans h1, h2⟩
theorem RowAt.cell {W : World} {R n : Nat} {ys : List Ty} {svs : List Value} (h : RowAt W R n ys svs) (o : Nat) (ho : o < n * 4) : ∃ v, W.cell? ⟨R, o, none⟩ = some v := by
  obtain ⟨_, cur, h1, h2, _⟩ := h
  exact ⟨cur[o], by rw [cell_of_row W R o cur _ (0, 0) h1]; exact Array.getElem?_eq_getElem (by omega)⟩
theorem RowAt.fr {W : World} {R n : Nat} {ys : List Ty} {svs : List Value} (h : RowAt W R n ys svs) (o : Nat) : W.frozen? ⟨R, o, none⟩ = false := by
  obtain ⟨_, cur, h1, _⟩ := h; simp [World.frozen?, h1]

theorem take4 (l : List Value) (k : Nat) (h : k * 4 + 4 ≤ l.length) (a b c d : Value) :
    ((((l.set (k * 4) a).set (k * 4 + 1) b).set (k * 4 + 2) c).set (k * 4 + 3) d).take ((k + 1) * 4) = l.take (k * 4) ++ [a, b, c, d] := by
  apply List.ext_getElem?
  intro i
  rw [List.getElem?_take, List.getElem?_append, List.getElem?_take]
  have hl : (l.take (k * 4)).length = k * 4 := by rw [List.length_take]; omega
  rw [hl]
  by_cases h1 : i < k * 4
  · rw [if_pos (by omega), if_pos h1, if_pos h1, List.getElem?_set_ne (by omega), List.getElem?_set_ne (by omega), List.getElem?_set_ne (by omega), List.getElem?_set_ne (by omega)]
  · rw [if_neg h1]
    by_cases h2 : i < (k + 1) * 4
    · rw [if_pos h2]
      obtain ⟨j, rfl⟩ : ∃ j, i = k * 4 + j := ⟨i - k * 4, by omega⟩
      have hj : j < 4 := by omega
      rw [Nat.add_sub_cancel_left]
      match j, hj with
      | 0, _ => simp [show k * 4 < l.length by omega]
      | 1, _ => simp [show k * 4 + 1 < l.length by omega]
      | 2, _ => simp [show k * 4 + 2 < l.length by omega]
      | 3, _ => simp [show k * 4 + 3 < l.length by omega]
    · rw [if_neg h2, List.getElem?_eq_none (by simp; omega)]

/-- one more is stored -/
theorem RowAt.put {W : World} {R n : Nat} {ys : List Ty} {svs : List Value} (h : RowAt W R n ys svs) (hn : ys.length < n) (y : Ty) (sv : Value) :
    RowAt ((((W.setCell ⟨R, ys.length * 4, none⟩ (.int .i64 y.kind)).setCell ⟨R, ys.length * 4 + 1, none⟩ (.string y.name)).setCell ⟨R, ys.length * 4 + 2, none⟩ (.int .i64 y.n)).setCell ⟨R, ys.length * 4 + 3, none⟩ sv) R n (ys ++ [y]) (svs ++ [sv]) := by
  obtain ⟨h0, cur, h1, h2, h3⟩ := h
  refine ⟨by simp [h0], _, set_row0 (set_row0 (set_row0 (set_row0 h1 _) _) _) _, by simpa using h2, ?_⟩
  rw [List.length_append, List.length_singleton, cellsT_snoc _ _ _ _ h0, ← h3]
  simp only [Array.toList_setIfInBounds]
  exact take4 _ _ (by rw [Array.length_toList]; show ys.length * 4 + 4 ≤ cur.size; omega) _ _ _ _

theorem RowAt.args {S : Nat → Prop} {W : World} {R n : Nat} {ys : List Ty} {svs : List Value} (h : RowAt W R n ys svs) (hn : ys.length = n) (hl : n ≤ 9223372036854775807) (hR : S R) (ha : ∀ (j : Nat) (t : Ty) (sv : Value), ys[j]? = some t → svs[j]? = some sv → ArgsAt S W sv t.args) :
    ArgsAt S W (.slice (some ⟨R, 0, none⟩) ys.length n) ys := by
  obtain ⟨h0, cur, h1, h2, h3⟩ := h
  refine .mk R 0 n ys (fun i => svs.getD i (.slice none 0 0)) hR (by omega) (fun i hi => ?_) (fun i hi => ?_)
  · have hi' : i < svs.length := by rw [h0]; exact hi
    obtain ⟨a0, a1, a2, a3⟩ := cellsT_at ys svs h0 i hi hi'
    rw [← h3] at a0 a1 a2 a3
    have get : ∀ o v, (cur.toList.take (ys.length * 4))[o]? = some v → W.cell? ⟨R, o, none⟩ = some v := fun o v hv => by
      rw [cell_of_row W R o cur _ (0, 0) h1]
      rw [List.getElem?_take] at hv
      split at hv
      · simpa using hv
      · cases hv
    simp only [Nat.zero_add]
    rw [List.getD_eq_getElem?_getD, List.getElem?_eq_getElem hi']
    exact ⟨get _ _ a0, get _ _ a1, get _ _ a2, get _ _ a3⟩
  · have hi' : i < svs.length := by rw [h0]; exact hi
    simp only [List.getD_eq_getElem?_getD, List.getElem?_eq_getElem hi', Option.getD_some]
    exact ha i _ _ (List.getElem?_eq_getElem hi) (List.getElem?_eq_getElem hi')

/-- a new row -/
theorem make_row (n : Nat) (hn : n ≤ 1099511627776) : ∃ M : Array Value, M.size = n * 4 ∧ ∀ W : World, (Instr.makeSlice 24 (.int .i64 (n : Int)) (.int .i64 (n : Int))).run Tryz.prog W = .ok (.slice (some ⟨W.heap.size, 0, none⟩) n n) (W.alloc (.cells M 26)) := by
  obtain ⟨i0, hi0, hz0, hz1, hz3⟩ := info_parts infoTy
  refine ⟨madeCells (Value.cells (.agg #[.int .i64 0, .string ByteArray.empty, .int .i64 0, .slice none 0 0])) (n * 4), size_madeCells _ _, fun W => ?_⟩
  have := run_make (P := Tryz.prog) W 24 26 i0 _ Tryz.underlying24 hi0 hz0 .i64 .i64 (n : Int) (n : Int) (by omega) (Int.le_refl _) (by rw [hz3]; omega) (by omega)
  rw [hz1] at this
  simpa using this

theorem RowAt.new {W : World} {M : Array Value} {n R : Nat} (hM : M.size = n * 4) (hR : W.heap.size = R) : RowAt (W.alloc (.cells M 26)) R n [] [] :=
  ⟨rfl, M, by subst hR; exact heap_alloc_new W _, hM, by simp [cellsT]⟩

end Go.Proofs.YtofllmemmggapaaGreatDoor.Tp

/- The walk of with: a closure makes each argument anew. -/
namespace Go.Proofs.YtofllmemmggapaaGreatDoor.Tp
open Go.RowKit

/-- blocks of S, or made between two worlds -/
def New (S : Nat → Prop) (w w' : World) (b : Nat) : Prop := S b ∨ w.heap.size ≤ b ∧ b < w'.heap.size

section
variable {G : Type} (S T : Nat → Prop) (Inv : G → World → Prop)
/-- what a function that makes a type tells -/
def TyPost (y : Ty) (g : G) (W : World) (e : Ending) (W' : World) : Prop :=
  ∃ a c, e = .returned (tv y a c) ∧ ArgsAt (New S W W') W' (.slice a y.args.length c) y.args ∧ Inv g W' ∧ Kp W.heap.size T W W'
end

theorem with_nil {G : Type} (F : G → Ty → Ty × G) (t : Ty) (g : G) (h : t.args.length = 0) : withT t (mapAcc F g t.args).1 = t ∧ (mapAcc F g t.args).2 = g := by
  have : t.args = [] := List.eq_nil_of_length_eq_zero h
  cases t with
  | mk k s n args => simp only [Ty.args] at this; subst this; exact ⟨rfl, rfl⟩

set_option maxHeartbeats 3200000 in
theorem with_any {G : Type} (f : FuncId) (caps : Array Value) (hf : ∀ args w, (callFunc f args).run Tryz.prog w = .ok (.enter f args) w) (T : Nat → Prop) (Inv : G → World → Prop) (F : G → Ty → Ty × G) (t : Ty) (g0 : G) (S : Nat → Prop) (a : Option Addr) (c : Nat) (w : World)
    (hI : Inv g0 w) (hIk : ∀ g W W', Inv g W → (∀ b, T b → W'.heap[b]? = W.heap[b]?) → Inv g W') (hA : ArgsAt S w (.slice a t.args.length c) t.args) (hS : ∀ b, S b → b < w.heap.size ∧ ¬ T b) (hT : ∀ b, T b → b < w.heap.size) (hl : t.args.length ≤ 1099511627776)
    (hat : ∀ (i : Nat) (hi : i < t.args.length) (a : Option Addr) (c : Nat) (W : World), Inv (mapAcc F g0 (t.args.take i)).2 W → Kp w.heap.size T w W → ArgsAt S W (.slice a t.args[i].args.length c) t.args[i].args →
      Calls Tryz.prog f (#[tv t.args[i] a c] ++ caps) W (TyPost S T Inv (F (mapAcc F g0 (t.args.take i)).2 t.args[i]).1 (F (mapAcc F g0 (t.args.take i)).2 t.args[i]).2 W)) :
    Calls Tryz.prog 64 #[tv t a c, .func (.func f) #[] caps] w (TyPost S T Inv (withT t (mapAcc F g0 t.args).1) (mapAcc F g0 t.args).2 w) := by
  have hz := (Below.refl w.heap.size w).alloc (Nat.le_refl _) (.cells #[.int .i64 t.kind, .string t.name, .int .i64 t.n, .slice a t.args.length c] 26)
  have b4 := B4.new w (.int .i64 t.kind) (.string t.name) (.int .i64 t.n) (.slice a t.args.length c)
  have hz2 := hz.alloc hz.size (.cells #[.int .i64 0, .string ByteArray.empty, .int .i64 0, .slice none 0 0] 26)
  have k4 := b4.low ((Below.refl _ _).alloc (Nat.le_refl _) (.cells #[.int .i64 0, .string ByteArray.empty, .int .i64 0, .slice none 0 0] 26))
  have q4 := B4.new (w.alloc (.cells #[.int .i64 t.kind, .string t.name, .int .i64 t.n, .slice a t.args.length c] 26)) (.int .i64 0) (.string ByteArray.empty) (.int .i64 0) (.slice none 0 0)
  rw [show (w.alloc (.cells #[.int .i64 t.kind, .string t.name, .int .i64 t.n, .slice a t.args.length c] 26)).heap.size = w.heap.size + 1 from by simp] at q4
  have HZ2 := Lib.hid hz2
  have K4 := Lib.hid k4
  have Q4 := Lib.hid q4
  have c0 := k4.c0
  have c1 := k4.c1
  have c2 := k4.c2
  have c3 := k4.c3
  have r0 := q4.c0
  have r1 := q4.c1
  have r2 := q4.c2
  have r3 := q4.c3
  have s0 := q4.fr 0
  have s1 := q4.fr 1
  have s2 := q4.fr 2
  have s3 := q4.fr 3
  unfold tv
  by_cases h0 : t.args.length = 0
  · have z0 : ((t.args.length : Int) == 0) = true := by rw [beq_iff_eq]; omega
    have hfin : TyPost S T Inv (withT t (mapAcc F g0 t.args).1) (mapAcc F g0 t.args).2 w (.returned (tv t a c)) (((((w.alloc (.cells #[.int .i64 t.kind, .string t.name, .int .i64 t.n, .slice a t.args.length c] 26)).alloc (.cells #[.int .i64 t.kind, .string t.name, .int .i64 t.n, .slice a t.args.length c] 26))))) := by
      rw [(with_nil F t g0 h0).1, (with_nil F t g0 h0).2]
      have hz3 := hz.alloc hz.size (.cells #[.int .i64 t.kind, .string t.name, .int .i64 t.n, .slice a t.args.length c] 26)
      exact ⟨a, c, rfl, (hA.keep fun b hb => hz3.block b (hS b hb).1).mono fun b hb => .inl hb, hIk _ _ _ hI fun b hb => hz3.block b (hT b hb), .of_below hz3⟩
    have HF := Lib.hid hfin
    clear h0 hfin hI hIk hA hS hT hat hz hz2 b4 k4 q4
    go_enter Tryz.func64, Tryz.ntmps64
    go_wp2
    have q5 := B4.new (w.alloc (.cells #[.int .i64 t.kind, .string t.name, .int .i64 t.n, .slice a t.args.length c] 26)) (.int .i64 t.kind) (.string t.name) (.int .i64 t.n) (.slice a t.args.length c)
    rw [show (w.alloc (.cells #[.int .i64 t.kind, .string t.name, .int .i64 t.n, .slice a t.args.length c] 26)).heap.size = w.heap.size + 1 from by simp] at q5
    exact bodyPost_ret (v := tv t a c) (by simp [results, Tryz.results64, go_sem, tv, q5.c0, q5.c1, q5.c2, q5.c3]) rfl HF.out
  · have z0 : ((t.args.length : Int) == 0) = false := by rw [beq_eq_false_iff_ne]; omega
    obtain ⟨M, hM, hmk⟩ := make_row t.args.length hl
    have hz3 := hz2.alloc hz2.size (.cells M 26)
    have H0 : Hid (Inv g0 (((w.alloc (.cells #[.int .i64 t.kind, .string t.name, .int .i64 t.n, .slice a t.args.length c] 26)).alloc (.cells #[.int .i64 0, .string ByteArray.empty, .int .i64 0, .slice none 0 0] 26)).alloc (.cells M 26))) := Lib.hid (hIk _ _ _ hI fun b hb => hz3.block b (hT b hb))
    have R0 : Hid (RowAt (((w.alloc (.cells #[.int .i64 t.kind, .string t.name, .int .i64 t.n, .slice a t.args.length c] 26)).alloc (.cells #[.int .i64 0, .string ByteArray.empty, .int .i64 0, .slice none 0 0] 26)).alloc (.cells M 26)) (w.heap.size + 2) t.args.length [] []) := Lib.hid (RowAt.new hM (by simp))
    have HZ3 := Lib.hid hz3
    have K5 := Lib.hid (k4.low ((Below.refl _ _).alloc (Nat.le_refl _) (.cells M 26)))
    have Q5 := Lib.hid (q4.low ((Below.refl _ _).alloc (Nat.le_refl _) (.cells M 26)))
    have HIK := Lib.hid hIk
    have HA := Lib.hid hA
    have HS := Lib.hid hS
    have HT := Lib.hid hT
    have HAT := Lib.hid hat
    have c3' := K5.out.c3
    clear h0 hI hIk hA hS hT hat hz hz2 hz3 b4 k4 q4 hM
    go_enter Tryz.func64, Tryz.ntmps64
    go_wp2
    go_loopw [20] (fun iv wr => ∃ (i : Nat) (svs : List Value), iv = .int .i64 i ∧ i ≤ t.args.length ∧ RowAt wr (w.heap.size + 2) t.args.length (mapAcc F g0 (t.args.take i)).1 svs ∧ Inv (mapAcc F g0 (t.args.take i)).2 wr ∧ Kp w.heap.size T w wr ∧ B4 wr w.heap.size (.int .i64 t.kind) (.string t.name) (.int .i64 t.n) (.slice a t.args.length c) ∧
      B4 wr (w.heap.size + 1) (.int .i64 0) (.string ByteArray.empty) (.int .i64 0) (.slice none 0 0) ∧ w.heap.size + 3 ≤ wr.heap.size ∧ ∀ (j : Nat) (y : Ty) (sv : Value), (mapAcc F g0 (t.args.take i)).1[j]? = some y → svs[j]? = some sv → ArgsAt (fun b => S b ∨ w.heap.size + 3 ≤ b ∧ b < wr.heap.size) wr sv y.args) (fun iv _ => t.args.length - (intOf iv).toNat)
    case atStart => exact ⟨0, [], rfl, Nat.zero_le _, R0.out, H0.out, .of_below HZ3.out, K5.out, Q5.out, by simp, fun j y sv h => by simp [mapAcc] at h⟩
    case round =>
      clear H0 R0 HZ3 K5 Q5 HZ2 K4 Q4 c0 c1 c2 c3 c3' r0 r1 r2 r3 s0 s1 s2 s3
      obtain ⟨i, svs, rfl, hil, hR, hI, hK, hk4, hq4, hsz, hat⟩ := hrel
      by_cases hi : i < t.args.length
      · have z1 : (0 : Int) ≤ (i : Int) := by omega
        have z2 : (i : Int) < (t.args.length : Int) := by omega
        obtain ⟨b, off, a', c', rfl, hb, hf4, hs⟩ := HA.out.at_ hi
        obtain ⟨f0, f1, f2, f3⟩ := hf4.keep (hK.block b (HS.out b hb).1 (HS.out b hb).2)
        have hzr := (Below.refl wr.heap.size wr).alloc (Nat.le_refl _) (.cells #[.int .i64 t.args[i].kind, .string t.args[i].name, .int .i64 t.args[i].n, .slice a' t.args[i].args.length c'] 26)
        have b4 := B4.new wr (.int .i64 t.args[i].kind) (.string t.args[i].name) (.int .i64 t.args[i].n) (.slice a' t.args[i].args.length c')
        have d0 := b4.c0
        have d1 := b4.c1
        have d2 := b4.c2
        have d3 := b4.c3
        have hKr : Kp w.heap.size T w (wr.alloc (.cells #[.int .i64 t.args[i].kind, .string t.args[i].name, .int .i64 t.args[i].n, .slice a' t.args[i].args.length c'] 26)) := hK.alloc (by omega) _
        have CF := Lib.hid (HAT.out i hi a' c' _ (HIK.out _ _ _ hI fun b hb => hzr.block b (by have := HT.out b hb; omega)) hKr (hs.kp hKr HS.out))
        have hyl : (mapAcc F g0 (t.args.take i)).1.length = i := by rw [mapAcc_len, List.length_take]; omega
        have MT := Lib.hid (mapAcc_take F t.args i hi g0)
        have HYL := Lib.hid hyl
        have HR := Lib.hid (hR.keep (hzr.block _ hR.lt))
        have HK := Lib.hid hKr
        have HK4 := Lib.hid (hk4.low hzr)
        have HQ4 := Lib.hid (hq4.low hzr)
        have HATS := Lib.hid hat
        have HZR := Lib.hid hzr
        unfold tv at *
        clear hR hI hK hk4 hq4 hat hf4 hs hzr b4 hKr hyl
        go_wp2_with fail
        refine CF.out.mono ?_
        rintro e W4 ⟨a4, c4, rfl, hA4, hI4, hK4⟩
        have hszW : (wr.alloc (.cells #[.int .i64 t.args[i].kind, .string t.args[i].name, .int .i64 t.args[i].n, .slice a' t.args[i].args.length c'] 26)).heap.size = wr.heap.size + 1 := by simp
        have hs4 := hK4.size
        have hnT : ∀ b, w.heap.size ≤ b → ¬ T b := fun b hb e => by have := HT.out b e; omega
        have hR4 := HR.out.keep (hK4.block _ (by omega) (hnT _ (by omega)))
        have hk44 := (hK4.block _ (by omega) (hnT _ (by omega))).trans HK4.out
        have hq44 := (hK4.block _ (by omega) (hnT _ (by omega))).trans HQ4.out
        have HNT := Lib.hid hnT
        have HR4 := Lib.hid hR4
        have HK44 := Lib.hid hk44
        have HQ44 := Lib.hid hq44
        have HA4 := Lib.hid hA4
        have HI4 := Lib.hid hI4
        have HKK := Lib.hid hK4
        obtain ⟨v0, g0'⟩ := hR4.cell (i * 4) (by omega)
        obtain ⟨v1, g1'⟩ := hR4.cell (i * 4 + 1) (by omega)
        obtain ⟨v2, g2'⟩ := hR4.cell (i * 4 + 2) (by omega)
        obtain ⟨v3, g3'⟩ := hR4.cell (i * 4 + 3) (by omega)
        have l0 := hR4.fr (i * 4)
        have l1 := hR4.fr (i * 4 + 1)
        have l2 := hR4.fr (i * 4 + 2)
        have l3 := hR4.fr (i * 4 + 3)
        have HS4 := Lib.hid hs4
        clear hA4 hI4 hK4 hszW hs4 hnT hR4 hk44 hq44
        unfold tv
        go_wp2
        go_roundw
        case measure => simp [intOf]; omega
        case rel =>
          have hset : ∀ b, b ≠ w.heap.size + 2 → ((((W4.setCell ⟨w.heap.size + 1 + 1, i * 4, none⟩ (.int .i64 (F (mapAcc F g0 (t.args.take i)).2 t.args[i]).1.kind)).setCell ⟨w.heap.size + 1 + 1, i * 4 + 1, none⟩ (.string (F (mapAcc F g0 (t.args.take i)).2 t.args[i]).1.name)).setCell ⟨w.heap.size + 1 + 1, i * 4 + 2, none⟩ (.int .i64 (F (mapAcc F g0 (t.args.take i)).2 t.args[i]).1.n)).setCell ⟨w.heap.size + 1 + 1, i * 4 + 3, none⟩ (.slice a4 (F (mapAcc F g0 (t.args.take i)).2 t.args[i]).1.args.length c4)).heap[b]? = W4.heap[b]? := fun b hb => by
            rw [Below.heap_setCell _ _ _ _ (by simpa using hb), Below.heap_setCell _ _ _ _ (by simpa using hb), Below.heap_setCell _ _ _ _ (by simpa using hb), Below.heap_setCell _ _ _ _ (by simpa using hb)]
          have hrow := HR4.out.put (by rw [HYL.out]; exact hi) (F (mapAcc F g0 (t.args.take i)).2 t.args[i]).1 (.slice a4 (F (mapAcc F g0 (t.args.take i)).2 t.args[i]).1.args.length c4)
          rw [HYL.out] at hrow
          have hs4 := HS4.out
          have hss : (wr.alloc (.cells #[.int .i64 t.args[i].kind, .string t.args[i].name, .int .i64 t.args[i].n, .slice a' t.args[i].args.length c'] 26)).heap.size = wr.heap.size + 1 := by simp
          have hsz5 : ((((W4.setCell ⟨w.heap.size + 1 + 1, i * 4, none⟩ (.int .i64 (F (mapAcc F g0 (t.args.take i)).2 t.args[i]).1.kind)).setCell ⟨w.heap.size + 1 + 1, i * 4 + 1, none⟩ (.string (F (mapAcc F g0 (t.args.take i)).2 t.args[i]).1.name)).setCell ⟨w.heap.size + 1 + 1, i * 4 + 2, none⟩ (.int .i64 (F (mapAcc F g0 (t.args.take i)).2 t.args[i]).1.n)).setCell ⟨w.heap.size + 1 + 1, i * 4 + 3, none⟩ (.slice a4 (F (mapAcc F g0 (t.args.take i)).2 t.args[i]).1.args.length c4)).heap.size = W4.heap.size := by simp
          have kpw := HK.out.trans HKK.out (by omega) (fun b _ h => h)
          refine ⟨i + 1, svs ++ [.slice a4 (F (mapAcc F g0 (t.args.take i)).2 t.args[i]).1.args.length c4], by go_num, by omega, by rw [MT.out]; exact hrow, by rw [MT.out]; exact HIK.out _ _ _ HI4.out (fun b hb => hset b (by have := HT.out b hb; omega)), ?_, (hset _ (by omega)).trans HK44.out, (hset _ (by omega)).trans HQ44.out, by rw [hsz5]; omega, ?_⟩
          · exact (((kpw.setCell (p := ⟨w.heap.size + 1 + 1, i * 4, none⟩) (.inl (by simp; omega)) _).setCell (p := ⟨w.heap.size + 1 + 1, i * 4 + 1, none⟩) (.inl (by simp; omega)) _).setCell (p := ⟨w.heap.size + 1 + 1, i * 4 + 2, none⟩) (.inl (by simp; omega)) _).setCell (p := ⟨w.heap.size + 1 + 1, i * 4 + 3, none⟩) (.inl (by simp; omega)) _
          · intro j y sv h1 h2
            rw [MT.out] at h1
            rw [hsz5]
            have hsl := HR4.out.1
            rw [HYL.out] at hsl
            rcases Nat.lt_or_ge j i with hj | hj
            · rw [List.getElem?_append_left (by rw [HYL.out]; exact hj)] at h1
              rw [List.getElem?_append_left (by omega)] at h2
              refine ((HATS.out j y sv h1 h2).keep fun b hb => ?_).mono fun b hb => hb.imp id fun h => ⟨h.1, by omega⟩
              have hbw : b < wr.heap.size ∧ b ≠ w.heap.size + 2 ∧ ¬ T b := by
                rcases hb with hb | ⟨hb, hb'⟩
                · have := HS.out b hb; exact ⟨by omega, by omega, this.2⟩
                · exact ⟨hb', by omega, HNT.out b (by omega)⟩
              rw [hset b hbw.2.1, HKK.out.block b (by omega) hbw.2.2]
              exact HZR.out.block b hbw.1
            · have hj2 : j = i := by
                have := (List.getElem?_eq_some_iff.1 h1).1
                rw [List.length_append, HYL.out] at this
                simp at this; omega
              subst hj2
              rw [List.getElem?_append_right (by rw [HYL.out]; exact Nat.le_refl _), HYL.out, Nat.sub_self] at h1
              rw [List.getElem?_append_right (by omega), hsl, Nat.sub_self] at h2
              simp only [List.getElem?_cons_zero, Option.some.injEq] at h1 h2
              subst h1 h2
              refine (HA4.out.keep fun b hb => hset b ?_).mono fun b hb => hb.imp id fun h => ⟨by omega, by omega⟩
              rcases hb with hb | ⟨hb, hb'⟩
              · have := HS.out b hb; omega
              · omega
      · obtain rfl : i = t.args.length := by omega
        rw [List.take_length] at hR hI hat
        have hyl : (mapAcc F g0 t.args).1.length = t.args.length := mapAcc_len _ _ _
        have k0 := hk4.c0
        have k1 := hk4.c1
        have k2 := hk4.c2
        have k3 := hk4.c3
        have n3 := hk4.fr 3
        have o0 := hq4.c0
        have o1 := hq4.c1
        have o2 := hq4.c2
        have o3 := hq4.c3
        have p0 := hq4.fr 0
        have p1 := hq4.fr 1
        have p2 := hq4.fr 2
        have p3 := hq4.fr 3
        have HR := Lib.hid hR
        have HI := Lib.hid hI
        have HK := Lib.hid hK
        have HQ4 := Lib.hid hq4
        have HATS := Lib.hid hat
        have HYL := Lib.hid hyl
        clear hR hI hK hk4 hq4 hat hyl
        go_wp2
        have hset : ∀ b, b ≠ w.heap.size → b ≠ w.heap.size + 1 → (((((wr.setCell ⟨w.heap.size, 3, none⟩ (.slice (some ⟨w.heap.size + 1 + 1, 0, none⟩) t.args.length t.args.length)).setCell ⟨w.heap.size + 1, 0, none⟩ (.int .i64 t.kind)).setCell ⟨w.heap.size + 1, 1, none⟩ (.string t.name)).setCell ⟨w.heap.size + 1, 2, none⟩ (.int .i64 t.n)).setCell ⟨w.heap.size + 1, 3, none⟩ (.slice (some ⟨w.heap.size + 1 + 1, 0, none⟩) t.args.length t.args.length)).heap[b]? = wr.heap[b]? := fun b hb hb' => by
          rw [Below.heap_setCell _ _ _ _ (by simpa using hb'), Below.heap_setCell _ _ _ _ (by simpa using hb'), Below.heap_setCell _ _ _ _ (by simpa using hb'), Below.heap_setCell _ _ _ _ (by simpa using hb'), Below.heap_setCell _ _ _ _ (by simpa using hb)]
        have q6 := B4.set4 (w := wr.setCell ⟨w.heap.size, 3, none⟩ (.slice (some ⟨w.heap.size + 1 + 1, 0, none⟩) t.args.length t.args.length)) (b := w.heap.size + 1) ((Below.heap_setCell _ _ _ _ (by simp)).trans HQ4.out) (.int .i64 t.kind) (.string t.name) (.int .i64 t.n) (.slice (some ⟨w.heap.size + 1 + 1, 0, none⟩) t.args.length t.args.length)
        refine bodyPost_ret (v := .agg #[.int .i64 t.kind, .string t.name, .int .i64 t.n, .slice (some ⟨w.heap.size + 1 + 1, 0, none⟩) t.args.length t.args.length]) (by simp [results, Tryz.results64, go_sem, q6.c0, q6.c1, q6.c2, q6.c3]) rfl ?_
        have hr := HR.out
        refine ⟨some ⟨w.heap.size + 1 + 1, 0, none⟩, t.args.length, by unfold tv; rw [show (withT t (mapAcc F g0 t.args).1).args.length = t.args.length from HYL.out]; rfl, ?_, HIK.out _ _ _ HI.out (fun b hb => hset b (by have := HT.out b hb; omega) (by have := HT.out b hb; omega)), ?_⟩
        · refine RowAt.args (hr.keep (hset _ (by omega) (by omega))) HYL.out (by omega) (.inr ⟨by omega, by simp; omega⟩) (fun j y sv h1 h2 => ?_)
          refine ((HATS.out j y sv h1 h2).keep fun b hb => ?_).mono fun b hb => hb.imp id fun h => ⟨by omega, by simp; omega⟩
          exact hset b (by rcases hb with hb | hb <;> first | (have := HS.out b hb; omega) | omega) (by rcases hb with hb | hb <;> first | (have := HS.out b hb; omega) | omega)
        · exact ((((HK.out.setCell (p := ⟨w.heap.size, 3, none⟩) (.inl (Nat.le_refl _)) _).setCell (p := ⟨w.heap.size + 1, 0, none⟩) (.inl (by simp)) _).setCell (p := ⟨w.heap.size + 1, 1, none⟩) (.inl (by simp)) _).setCell (p := ⟨w.heap.size + 1, 2, none⟩) (.inl (by simp)) _).setCell (p := ⟨w.heap.size + 1, 3, none⟩) (.inl (by simp)) _

end Go.Proofs.YtofllmemmggapaaGreatDoor.Tp

/- Texts laid together: TyFreeC, TyMetaC, TyFree, TyWithP. -/
import Derived.Test.YtofllmemmggapaaGreatDoorP12
import Derived.Test.YtofllmemmggapaaGreatDoorP09
import Derived.Carry

/- The walk of Free's closure. -/
namespace Go.Proofs.YtofllmemmggapaaGreatDoor.Tp
open Go.RowKit

/-- the closure's memory: the names so far -/
def FreeInv (bo : Nat) (k : Nat) (out : List ByteArray) (r : Option Nat) (W : World) : Prop :=
  ∃ v, W.heap[bo]? = some (.cells #[v] 22 (0, 0)) ∧ W.ownsRow (bo + 1) 9 1 v out.length (out.map Value.string) ∧ r = v.ownBlock ∧ out.length ≤ k

theorem freeInv_ok (bo : Nat) : InvOk bo (FreeInv bo) where
  low := by
    rintro k g r W W' ⟨v, h1, h2, h3, h4⟩ hb
    exact ⟨v, (hb.block bo (Array.getElem?_eq_some_iff.1 h1).1).trans h1, own_keep4 h2 fun b e => hb.block b (h2.lt b e).2, h3, h4⟩
  bo := by
    rintro k g r W ⟨v, h1, _⟩
    exact (Array.getElem?_eq_some_iff.1 h1).1
  row := by
    rintro k g r W b ⟨v, h1, h2, h3, h4⟩ e
    exact (h2.lt b (h3.symm.trans e)).2

theorem zeroBool (w : World) : (zeroValue 4).run Tryz.prog w = .ok (.bool false) w := by kernel_rfl

theorem hasN_not {l : List ByteArray} {x : ByteArray} (h : x ∉ l) : hasN l x = false := by
  cases e : hasN l x with
  | false => rfl
  | true => exact absurd ((hasN_iff l x).1 e) h
theorem contains_hasN (l : List ByteArray) (x : ByteArray) : Lib.containsS l x = hasN l x := by
  rw [Bool.eq_iff_iff, contains_iff, hasN_iff]

set_option maxRecDepth 100000 in
set_option maxHeartbeats 3200000 in
theorem free_at (bo : Nat) : AtSaid 45 #[.pointer (some ⟨bo, 0, none⟩)] bo freeStep (FreeInv bo) := by
  intro k out x ns S a c m r W hI hk hA hS hM hOm
  obtain ⟨v, hv, hO, hr, hl⟩ := hI
  have hbo := (Array.getElem?_eq_some_iff.1 hv).1
  have hz := (Below.refl W.heap.size W).alloc (Nat.le_refl _) (.cells #[.int .i64 x.kind, .string x.name, .int .i64 x.n, .slice a x.args.length c] 26)
  have b4 := B4.new W (.int .i64 x.kind) (.string x.name) (.int .i64 x.n) (.slice a x.args.length c)
  have c0 := b4.c0
  have c1 := b4.c1
  have cv : (W.alloc (.cells #[.int .i64 x.kind, .string x.name, .int .i64 x.n, .slice a x.args.length c] 26)).cell? ⟨bo, 0, none⟩ = some v := (hz.cell (p := ⟨bo, 0, none⟩) hbo).trans (cell_of_row W bo 0 _ _ _ hv)
  have same : ∀ (e : freeStep out x ns = out), AtPost bo (FreeInv bo) (k + 1) (freeStep out x ns) r W (.returned (.tuple #[])) (W.alloc (.cells #[.int .i64 x.kind, .string x.name, .int .i64 x.n, .slice a x.args.length c] 26)) := fun e => by
    rw [e]
    obtain ⟨v', h1, h2, h3, h4⟩ := (freeInv_ok bo).low k out r W _ ⟨v, hv, hO, hr, hl⟩ hz
    exact ⟨⟨_, rfl⟩, r, ⟨v', h1, h2, h3, by omega⟩, .of_below hz⟩
  have SM := Lib.hid same
  unfold tv
  clear b4 same
  by_cases h1 : x.kind = 1
  · have z1 : (x.kind == 1) = true := by rw [beq_iff_eq]; exact h1
    by_cases h2 : x.name ∈ ns
    · have E : Hid (freeStep out x ns = out) := Lib.hid (by unfold freeStep; rw [(hasN_iff ns x.name).2 h2]; simp)
      have hlk := (hM.keep (hz.block m hOm.1)).lookup Tryz.underlying87 Tryz.underlying9 (zeroBool _) x.name (c := true) (by simpa using h2)
      clear h1 h2 hv hO hr hl hbo hz hA hS hM hOm hk
      go_enter Tryz.func45, Tryz.ntmps45
      go_wp2
      go_end0
      exact SM.out E.out
    · have hlk := (hM.keep (hz.block m hOm.1)).lookup Tryz.underlying87 Tryz.underlying9 (zeroBool _) x.name (c := false) (by simpa using h2)
      have hso : StrsAt (fun b => v.ownBlock = some b) (W.alloc (.cells #[.int .i64 x.kind, .string x.name, .int .i64 x.n, .slice a x.args.length c] 26)) v out := StrsAt.of_own (own_keep4 hO fun b e => hz.block b (hO.lt b e).2) (by omega)
      have CC := contains_any hso x.name
      rw [contains_hasN] at CC
      by_cases h3 : x.name ∈ out
      · have E : Hid (freeStep out x ns = out) := Lib.hid (by unfold freeStep; rw [(hasN_iff out x.name).2 h3]; simp)
        rw [(hasN_iff out x.name).2 h3] at CC
        have CC := Lib.hid CC
        clear h1 h2 h3 hv hO hr hl hbo hz hA hS hM hOm hk hso
        go_enter Tryz.func45, Tryz.ntmps45
        go_wp2_with fail
        refine CC.out.mono ?_
        rintro e w' ⟨rfl, rfl⟩
        go_wp2
        go_end0
        exact SM.out E.out
      · have E : Hid (freeStep out x ns = out ++ [x.name]) := Lib.hid (by unfold freeStep; rw [hasN_not h2, hasN_not h3, z1]; rfl)
        rw [hasN_not h3] at CC
        have CC := Lib.hid CC
        have hz2 := hz.alloc hz.size (.cells #[.string x.name] 9)
        have OW := Lib.hid (own_keep4 hO fun b e => hz2.block b (hO.lt b e).2)
        have HV := Lib.hid hv
        have HO := Lib.hid hO
        have HR := Lib.hid hr
        have HZ2 := Lib.hid hz2
        have NB : Hid (v.ownBlock ≠ some bo) := Lib.hid (fun e => by have := (hO.lt _ e).1; omega)
        have HB7 := Lib.hid ((hz2.block bo hbo).trans hv)
        obtain ⟨i0, hi0, hzz0, hz1, hz3⟩ := info_parts infoStr
        clear h1 h2 h3 hv hO hr hA hS hM hOm hso hz hz2
        go_enter Tryz.func45, Tryz.ntmps45
        go_wp2_with fail
        refine CC.out.mono ?_
        rintro e w' ⟨rfl, rfl⟩
        have cb : ((W.alloc (.cells #[.int .i64 x.kind, .string x.name, .int .i64 x.n, .slice a x.args.length c] 26)).alloc (.cells #[.string x.name] 9)).cell? ⟨bo, 0, none⟩ = some v := (HZ2.out.cell (p := ⟨bo, 0, none⟩) hbo).trans (cell_of_row W bo 0 _ _ _ HV.out)
        go_wp2_with (at_builtin; go_loud (refine wpList_append_lies _ rfl _ _ _ rfl (bo + 1) 9 i0 _ 1 16 Tryz.underlying22 hi0 hzz0 hz1 hz3 rfl (by omega) v out.length (out.map Value.string) rfl OW.out ⟨W.heap.size + 1, 0, none⟩ 1 1 [.string x.name] rfl rfl (World.news_of_block (cs := #[.string x.name]) (t := 9) (fr := (0, 0)) (alloc_new (by simp))) (by simp [Value.oneCell']) (by omega) (by unfold maxLen; omega) (by omega) (by simp; omega) (W.heap.size + 1 + 1) (by simp) ?_; intro gg cap w7 hown7 hgrow7 hat7 hlt7; have hb7 := (hgrow7.block bo (by first | (simp; done) | (simp; omega)) (fun e => NB.out e.symm)).trans (HB7.out); have c7 := cell_of_row w7 bo 0 _ _ _ hb7; have fr7 : w7.frozen? ⟨bo, 0, none⟩ = false := (by simp [World.frozen?, hb7]); have HB8 := Lib.hid hb7; clear hb7))
        go_end0
        have hne : gg ≠ bo := by
          rcases hat7 with e | e
          · intro h; rw [h] at e; exact NB.out e
          · omega
        refine ⟨⟨_, rfl⟩, (some gg : Option Nat), ⟨.slice (some ⟨gg, 0, none⟩) (out.length + 1) cap, set_row0 HB8.out _, ?_, rfl, by rw [E.out, List.length_append]; simp; omega⟩, ⟨?_, ?_⟩⟩
        · rw [E.out, List.length_append, List.map_append]
          exact own_keep4 hown7 fun b e => Below.heap_setCell _ _ _ _ (by injection e with e; subst e; exact hne)
        · refine ((Kp.of_below HZ2.out).grown hgrow7 (by simp; omega) (fun b e => .inr (.inr ?_))).setCell (.inr (.inl rfl)) _
          rw [HR.out, e]
        · rcases hat7 with e | e
          · exact .inl (by rw [HR.out, e])
          · exact .inr ⟨gg, rfl, by omega⟩
  · have z1 : (x.kind == 1) = false := by rw [beq_eq_false_iff_ne]; exact h1
    have E : Hid (freeStep out x ns = out) := Lib.hid (by unfold freeStep; rw [z1]; simp)
    clear h1 hv hO hr hl hbo hz hA hS hM hOm hk
    go_enter Tryz.func45, Tryz.ntmps45
    go_wp2
    go_end0
    exact SM.out E.out

end Go.Proofs.YtofllmemmggapaaGreatDoor.Tp

/- The walk of Metas's closure; of Free and Metas. -/
namespace Go.Proofs.YtofllmemmggapaaGreatDoor.Tp
open Go.RowKit

/-- the closure's memory: the numbers so far -/
def MetaInv (bo : Nat) (k : Nat) (out : List Int) (r : Option Nat) (W : World) : Prop :=
  ∃ v, W.heap[bo]? = some (.cells #[v] 63 (0, 0)) ∧ W.ownsRow (bo + 1) 3 1 v out.length (out.map (Value.int .i64)) ∧ r = v.ownBlock ∧ out.length ≤ k

theorem metaInv_ok (bo : Nat) : InvOk bo (MetaInv bo) where
  low := by
    rintro k g r W W' ⟨v, h1, h2, h3, h4⟩ hb
    exact ⟨v, (hb.block bo (Array.getElem?_eq_some_iff.1 h1).1).trans h1, own_keep4 h2 fun b e => hb.block b (h2.lt b e).2, h3, h4⟩
  bo := by
    rintro k g r W ⟨v, h1, _⟩
    exact (Array.getElem?_eq_some_iff.1 h1).1
  row := by
    rintro k g r W b ⟨v, h1, h2, h3, h4⟩ e
    exact (h2.lt b (h3.symm.trans e)).2

theorem infoInt : (Tryz.prog.info? 3).map (fun i => (i.zero, i.size, i.bytes)) = some (some (.int .i64 0), 1, 8) := by kernel_rfl



end Go.Proofs.YtofllmemmggapaaGreatDoor.Tp

/- The walks of Free and Metas. -/
namespace Go.Proofs.YtofllmemmggapaaGreatDoor.Tp
open Go.RowKit

/-- what Free tells: a row of its own that holds the names -/
def FreePost (w : World) (t : Ty) (e : Ending) (w' : World) : Prop :=
  ∃ v, e = .returned v ∧ w'.ownsRow w.heap.size 9 1 v (freeT t).length ((freeT t).map Value.string) ∧ (freeT t).length ≤ t.size ∧ Below w.heap.size w w'
def MetasPost (w : World) (t : Ty) (e : Ending) (w' : World) : Prop :=
  ∃ v, e = .returned v ∧ w'.ownsRow w.heap.size 3 1 v (metasT t).length ((metasT t).map (Value.int .i64)) ∧ (metasT t).length ≤ t.size ∧ Below w.heap.size w w'

theorem own_mono {w : World} {base base' size n : Nat} {e : TypeId} {v : Value} {xs : List Value} (h : w.ownsRow base e size v n xs) (hb : base' ≤ base) : w.ownsRow base' e size v n xs := by
  refine ⟨h.1, h.2.imp id ?_⟩
  rintro ⟨g, cap, cur, k1, k2, k3⟩
  exact ⟨g, cap, cur, k1, Nat.le_trans hb k2, k3⟩

theorem freeEnters (args : Array Value) (w : World) : (callFunc 45 args).run Tryz.prog w = .ok (.enter 45 args) w :=
  enters_of Tryz.func45 (by kernel_rfl) rfl args w

set_option maxHeartbeats 1600000 in
theorem free_any (t : Ty) (S : Nat → Prop) (a : Option Addr) (c : Nat) (w : World) (hA : ArgsAt S w (.slice a t.args.length c) t.args) (hS : ∀ b, S b → b < w.heap.size) (hk : t.size ≤ 1099511627776) :
    Calls Tryz.prog 25 #[tv t a c] w (FreePost w t) := by
  have hz := (Below.refl w.heap.size w).alloc (Nat.le_refl _) (.cells #[.int .i64 t.kind, .string t.name, .int .i64 t.n, .slice a t.args.length c] 26)
  have b4 := B4.new w (.int .i64 t.kind) (.string t.name) (.int .i64 t.n) (.slice a t.args.length c)
  have hz2 := hz.alloc hz.size (.cells #[.slice none 0 0] 22)
  have hz3 := hz2.alloc hz2.size (.map #[] 0)
  have k4 := b4.low ((Below.refl _ _).alloc (Nat.le_refl _) (.cells #[.slice none 0 0] 22))
  have c0 := k4.c0
  have c1 := k4.c1
  have c2 := k4.c2
  have c3 := k4.c3
  have hb1 : (((w.alloc (.cells #[.int .i64 t.kind, .string t.name, .int .i64 t.n, .slice a t.args.length c] 26)).alloc (.cells #[.slice none 0 0] 22)).alloc (.map #[] 0)).heap[w.heap.size + 1]? = some (.cells #[.slice none 0 0] 22 (0, 0)) := by
    rw [heap_alloc_old _ _ (by simp)]
    exact alloc_new (by simp)
  have I0 : FreeInv (w.heap.size + 1) 0 [] none (((w.alloc (.cells #[.int .i64 t.kind, .string t.name, .int .i64 t.n, .slice a t.args.length c] 26)).alloc (.cells #[.slice none 0 0] 22)).alloc (.map #[] 0)) :=
    ⟨_, hb1, World.ownsRow_nil _ _ _ _, rfl, Nat.le_refl _⟩
  have CW := walk_any _ #[.pointer (some ⟨w.heap.size + 1, 0, none⟩)] (w.heap.size + 1) freeStep (FreeInv (w.heap.size + 1)) freeEnters (free_at _) (freeInv_ok _) t 0 [] [] S a c (w.heap.size + 1 + 1) none _ I0 (by omega)
    (hA.keep fun b hb => hz3.block b (hS b hb)) (fun b hb => ⟨Nat.lt_of_lt_of_le (hS b hb) hz3.size, by have := hS b hb; omega, by simp⟩) (SetAt.congr (ns := fun _ => False) (ns' := (· ∈ ([] : List ByteArray))) (SetAt.made_at (by simp)) (by simp)) ⟨by simp, by omega, by simp⟩
  rw [Nat.zero_add] at CW
  have CW := Lib.hid CW
  have HZ3 := Lib.hid hz3
  have hmm := @run_makeMap Tryz.prog
  unfold tv at *
  clear hA hS hz b4 hz2 hz3 k4 hb1 I0
  go_enter Tryz.func25, Tryz.ntmps25
  go_wp2_with fail
  refine CW.out.mono ?_
  rintro e W1 ⟨⟨v, rfl⟩, r1, ⟨u, hu, ho, _, hl⟩, hT⟩
  have cu : W1.cell? ⟨w.heap.size + 1, 0, none⟩ = some u := cell_of_row W1 _ 0 _ _ _ hu
  have O1 := Lib.hid (own_mono ho (base' := w.heap.size) (by omega))
  have B1 := Lib.hid ((Kp.of_below (T := fun b => b = w.heap.size + 1 ∨ some b = (none : Option Nat)) HZ3.out).trans hT.kp HZ3.out.size (fun b _ h => h))
  have HL := Lib.hid hl
  clear hu ho hT hl
  go_wp2
  go_ret
  exact ⟨u, rfl, O1.out, HL.out, ⟨B1.out.os, B1.out.tape, B1.out.output, B1.out.size, fun k hk => B1.out.block k hk (by rintro (h | h) <;> first | omega | cases h)⟩⟩


end Go.Proofs.YtofllmemmggapaaGreatDoor.Tp

/- Types with other arguments; a row of types that is filled. -/
namespace Go.Proofs.YtofllmemmggapaaGreatDoor.Tp
open Go.RowKit

def withT (t : Ty) (args : List Ty) : Ty := .mk t.kind t.name t.n args

section
variable {G : Type} (F : G → Ty → Ty × G)
def mapAcc : G → List Ty → List Ty × G
  | g, [] => ([], g)
  | g, t :: ts => ((F g t).1 :: (mapAcc (F g t).2 ts).1, (mapAcc (F g t).2 ts).2)
end

theorem mapAcc_append {G : Type} (F : G → Ty → Ty × G) (a b : List Ty) (g : G) : mapAcc F g (a ++ b) = ((mapAcc F g a).1 ++ (mapAcc F (mapAcc F g a).2 b).1, (mapAcc F (mapAcc F g a).2 b).2) := by
  induction a generalizing g with
  | nil => rfl
  | cons t ts ih => simp only [List.cons_append, mapAcc, ih]
theorem mapAcc_take {G : Type} (F : G → Ty → Ty × G) (ts : List Ty) (i : Nat) (h : i < ts.length) (g : G) :
    mapAcc F g (ts.take (i + 1)) = ((mapAcc F g (ts.take i)).1 ++ [(F (mapAcc F g (ts.take i)).2 ts[i]).1], (F (mapAcc F g (ts.take i)).2 ts[i]).2) := by
  rw [List.take_add_one, List.getElem?_eq_getElem h, mapAcc_append]; rfl
theorem mapAcc_len {G : Type} (F : G → Ty → Ty × G) (ts : List Ty) (g : G) : (mapAcc F g ts).1.length = ts.length := by
  induction ts generalizing g with
  | nil => rfl
  | cons t ts ih => simp only [mapAcc, List.length_cons, ih]

/-- block R has room for n types; the first ones are ys -/
def RowAt (W : World) (R n : Nat) (ys : List Ty) (svs : List Value) : Prop :=
  svs.length = ys.length ∧ ∃ cur, W.heap[R]? = some (.cells cur 26 (0, 0)) ∧ cur.size = n * 4 ∧ cur.toList.take (ys.length * 4) = cellsT ys svs

theorem RowAt.lt {W : World} {R n : Nat} {ys : List Ty} {svs : List Value} (h : RowAt W R n ys svs) : R < W.heap.size := by
  obtain ⟨_, cur, h1, _⟩ := h; exact (Array.getElem?_eq_some_iff.1 h1).1
theorem RowAt.keep {W W' : World} {R n : Nat} {ys : List Ty} {svs : List Value} (h : RowAt W R n ys svs) (hb : W'.heap[R]? = W.heap[R]?) : RowAt W' R n ys svs := by
  obtain ⟨h0, cur, h1, h2⟩ := h; exact ⟨h0, cur, hb.trans h1, h2⟩
theorem RowAt.cell {W : World} {R n : Nat} {ys : List Ty} {svs : List Value} (h : RowAt W R n ys svs) (o : Nat) (ho : o < n * 4) : ∃ v, W.cell? ⟨R, o, none⟩ = some v := by
  obtain ⟨_, cur, h1, h2, _⟩ := h
  exact ⟨cur[o], by rw [cell_of_row W R o cur _ (0, 0) h1]; exact Array.getElem?_eq_getElem (by omega)⟩
theorem RowAt.fr {W : World} {R n : Nat} {ys : List Ty} {svs : List Value} (h : RowAt W R n ys svs) (o : Nat) : W.frozen? ⟨R, o, none⟩ = false := by
  obtain ⟨_, cur, h1, _⟩ := h; simp [World.frozen?, h1]

theorem take4 (l : List Value) (k : Nat) (h : k * 4 + 4 ≤ l.length) (a b c d : Value) :
    ((((l.set (k * 4) a).set (k * 4 + 1) b).set (k * 4 + 2) c).set (k * 4 + 3) d).take ((k + 1) * 4) = l.take (k * 4) ++ [a, b, c, d] := by
  apply List.ext_getElem?
  intro i
  rw [List.getElem?_take, List.getElem?_append, List.getElem?_take]
  have hl : (l.take (k * 4)).length = k * 4 := by rw [List.length_take]; omega
  rw [hl]
  by_cases h1 : i < k * 4
  · rw [if_pos (by omega), if_pos h1, if_pos h1, List.getElem?_set_ne (by omega), List.getElem?_set_ne (by omega), List.getElem?_set_ne (by omega), List.getElem?_set_ne (by omega)]
  · rw [if_neg h1]
    by_cases h2 : i < (k + 1) * 4
    · rw [if_pos h2]
      obtain ⟨j, rfl⟩ : ∃ j, i = k * 4 + j := ⟨i - k * 4, by omega⟩
      have hj : j < 4 := by omega
      rw [Nat.add_sub_cancel_left]
      match j, hj with
      | 0, _ => simp [show k * 4 < l.length by omega]
      | 1, _ => simp [show k * 4 + 1 < l.length by omega]
      | 2, _ => simp [show k * 4 + 2 < l.length by omega]
      | 3, _ => simp [show k * 4 + 3 < l.length by omega]
    · rw [if_neg h2, List.getElem?_eq_none (by simp; omega)]

/-- one more is stored -/
theorem RowAt.put {W : World} {R n : Nat} {ys : List Ty} {svs : List Value} (h : RowAt W R n ys svs) (hn : ys.length < n) (y : Ty) (sv : Value) :
    RowAt ((((W.setCell ⟨R, ys.length * 4, none⟩ (.int .i64 y.kind)).setCell ⟨R, ys.length * 4 + 1, none⟩ (.string y.name)).setCell ⟨R, ys.length * 4 + 2, none⟩ (.int .i64 y.n)).setCell ⟨R, ys.length * 4 + 3, none⟩ sv) R n (ys ++ [y]) (svs ++ [sv]) := by
  obtain ⟨h0, cur, h1, h2, h3⟩ := h
  refine ⟨by simp [h0], _, set_row0 (set_row0 (set_row0 (set_row0 h1 _) _) _) _, by simpa using h2, ?_⟩
  rw [List.length_append, List.length_singleton, cellsT_snoc _ _ _ _ h0, ← h3]
  simp only [Array.toList_setIfInBounds]
  exact take4 _ _ (by rw [Array.length_toList]; show ys.length * 4 + 4 ≤ cur.size; omega) _ _ _ _

theorem RowAt.args {S : Nat → Prop} {W : World} {R n : Nat} {ys : List Ty} {svs : List Value} (h : RowAt W R n ys svs) (hn : ys.length = n) (hl : n ≤ 9223372036854775807) (hR : S R) (ha : ∀ (j : Nat) (t : Ty) (sv : Value), ys[j]? = some t → svs[j]? = some sv → ArgsAt S W sv t.args) :
    ArgsAt S W (.slice (some ⟨R, 0, none⟩) ys.length n) ys := by
  obtain ⟨h0, cur, h1, h2, h3⟩ := h
  refine .mk R 0 n ys (fun i => svs.getD i (.slice none 0 0)) hR (by omega) (fun i hi => ?_) (fun i hi => ?_)
  · have hi' : i < svs.length := by rw [h0]; exact hi
    obtain ⟨a0, a1, a2, a3⟩ := cellsT_at ys svs h0 i hi hi'
    rw [← h3] at a0 a1 a2 a3
    have get : ∀ o v, (cur.toList.take (ys.length * 4))[o]? = some v → W.cell? ⟨R, o, none⟩ = some v := fun o v hv => by
      rw [cell_of_row W R o cur _ (0, 0) h1]
      rw [List.getElem?_take] at hv
      split at hv
      · simpa using hv
      · cases hv
    simp only [Nat.zero_add]
    rw [List.getD_eq_getElem?_getD, List.getElem?_eq_getElem hi']
    exact ⟨get _ _ a0, get _ _ a1, get _ _ a2, get _ _ a3⟩
  · have hi' : i < svs.length := by rw [h0]; exact hi
    simp only [List.getD_eq_getElem?_getD, List.getElem?_eq_getElem hi', Option.getD_some]
    exact ha i _ _ (List.getElem?_eq_getElem hi) (List.getElem?_eq_getElem hi')

/-- a new row -/
theorem make_row (n : Nat) (hn : n ≤ 1099511627776) : ∃ M : Array Value, M.size = n * 4 ∧ ∀ W : World, (Instr.makeSlice 24 (.int .i64 (n : Int)) (.int .i64 (n : Int))).run Tryz.prog W = .ok (.slice (some ⟨W.heap.size, 0, none⟩) n n) (W.alloc (.cells M 26)) := by
  obtain ⟨i0, hi0, hz0, hz1, hz3⟩ := info_parts infoTy
  refine ⟨madeCells (Value.cells (.agg #[.int .i64 0, .string ByteArray.empty, .int .i64 0, .slice none 0 0])) (n * 4), size_madeCells _ _, fun W => ?_⟩
  have := run_make (P := Tryz.prog) W 24 26 i0 _ Tryz.underlying24 hi0 hz0 .i64 .i64 (n : Int) (n : Int) (by omega) (Int.le_refl _) (by rw [hz3]; omega) (by omega)
  rw [hz1] at this
  simpa using this

theorem RowAt.new {W : World} {M : Array Value} {n R : Nat} (hM : M.size = n * 4) (hR : W.heap.size = R) : RowAt (W.alloc (.cells M 26)) R n [] [] :=
  ⟨rfl, M, by subst hR; exact heap_alloc_new W _, hM, by simp [cellsT]⟩

end Go.Proofs.YtofllmemmggapaaGreatDoor.Tp

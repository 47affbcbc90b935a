/- Texts laid together: TyFreeC, TyMetaC. -/
import Derived.Test.YtifaaihekgnhiaaDoorP20
import Derived.Test.YtifaaihekgnhiaaDoorP16

/- The walk of Free's closure. -/
namespace Go.Proofs.YtifaaihekgnhiaaDoor.Tp
open Go.RowKit

/-- the closure's memory: the names so far -/
def FreeInv (bo : Nat) (k : Nat) (out : List ByteArray) (r : Option Nat) (W : World) : Prop :=
  ∃ v, W.heap[bo]? = some (.cells #[v] 33 (0, 0)) ∧ W.ownsRow (bo + 1) 9 1 v out.length (out.map Value.string) ∧ r = v.ownBlock ∧ out.length ≤ k

theorem freeInv_ok (bo : Nat) : InvOk bo (FreeInv bo) where
  low := by
    rintro k g r W W' ⟨v, h1, h2, h3, h4⟩ hb
    exact ⟨v, (hb.block bo (Array.getElem?_eq_some_iff.1 h1).1).trans h1, own_keep4 h2 fun b e => hb.block b (h2.lt b e).2, h3, h4⟩
  bo := by
    rintro k g r W ⟨v, h1, _⟩
    exact (Array.getElem?_eq_some_iff.1 h1).1
  row := by
    rintro k g r W b ⟨v, h1, h2, h3, h4⟩ e
    exact (h2.lt b (h3.symm.trans e)).2

theorem zeroBool (w : World) : (zeroValue 4).run Tryd.prog w = .ok (.bool false) w := by kernel_rfl

theorem hasN_not {l : List ByteArray} {x : ByteArray} (h : x ∉ l) : hasN l x = false := by
  cases e : hasN l x with
  | false => rfl
  | true => exact absurd ((hasN_iff l x).1 e) h
theorem contains_hasN (l : List ByteArray) (x : ByteArray) : Lib.containsS l x = hasN l x := by
  rw [Bool.eq_iff_iff, contains_iff, hasN_iff]

set_option maxRecDepth 100000 in
set_option maxHeartbeats 3200000 in
theorem free_at (bo : Nat) : AtSaid 31 #[.pointer (some ⟨bo, 0, none⟩)] bo freeStep (FreeInv bo) := by
  intro k out x ns S a c m r W hI hk hA hS hM hOm
  obtain ⟨v, hv, hO, hr, hl⟩ := hI
  have hbo := (Array.getElem?_eq_some_iff.1 hv).1
  have hz := (Below.refl W.heap.size W).alloc (Nat.le_refl _) (.cells #[.int .i64 x.kind, .string x.name, .int .i64 x.n, .slice a x.args.length c] 25)
  have b4 := B4.new W (.int .i64 x.kind) (.string x.name) (.int .i64 x.n) (.slice a x.args.length c)
  have c0 := b4.c0
  have c1 := b4.c1
  have cv : (W.alloc (.cells #[.int .i64 x.kind, .string x.name, .int .i64 x.n, .slice a x.args.length c] 25)).cell? ⟨bo, 0, none⟩ = some v := (hz.cell (p := ⟨bo, 0, none⟩) hbo).trans (cell_of_row W bo 0 _ _ _ hv)
  have same : ∀ (e : freeStep out x ns = out), AtPost bo (FreeInv bo) (k + 1) (freeStep out x ns) r W (.returned (.tuple #[])) (W.alloc (.cells #[.int .i64 x.kind, .string x.name, .int .i64 x.n, .slice a x.args.length c] 25)) := fun e => by
    rw [e]
    obtain ⟨v', h1, h2, h3, h4⟩ := (freeInv_ok bo).low k out r W _ ⟨v, hv, hO, hr, hl⟩ hz
    exact ⟨⟨_, rfl⟩, r, ⟨v', h1, h2, h3, by omega⟩, .of_below hz⟩
  have SM := Lib.hid same
  unfold tv
  clear b4 same
  by_cases h1 : x.kind = 1
  · have z1 : (x.kind == 1) = true := by rw [beq_iff_eq]; exact h1
    by_cases h2 : x.name ∈ ns
    · have E : Hid (freeStep out x ns = out) := Lib.hid (by unfold freeStep; rw [(hasN_iff ns x.name).2 h2]; simp)
      have hlk := (hM.keep (hz.block m hOm.1)).lookup Tryd.underlying58 Tryd.underlying9 (zeroBool _) x.name (c := true) (by simpa using h2)
      clear h1 h2 hv hO hr hl hbo hz hA hS hM hOm hk
      go_enter Tryd.func31, Tryd.ntmps31
      go_wp2
      go_end0
      exact SM.out E.out
    · have hlk := (hM.keep (hz.block m hOm.1)).lookup Tryd.underlying58 Tryd.underlying9 (zeroBool _) x.name (c := false) (by simpa using h2)
      have hso : StrsAt (fun b => v.ownBlock = some b) (W.alloc (.cells #[.int .i64 x.kind, .string x.name, .int .i64 x.n, .slice a x.args.length c] 25)) v out := StrsAt.of_own (own_keep4 hO fun b e => hz.block b (hO.lt b e).2) (by omega)
      have CC := contains_any hso x.name
      rw [contains_hasN] at CC
      by_cases h3 : x.name ∈ out
      · have E : Hid (freeStep out x ns = out) := Lib.hid (by unfold freeStep; rw [(hasN_iff out x.name).2 h3]; simp)
        rw [(hasN_iff out x.name).2 h3] at CC
        have CC := Lib.hid CC
        clear h1 h2 h3 hv hO hr hl hbo hz hA hS hM hOm hk hso
        go_enter Tryd.func31, Tryd.ntmps31
        go_wp2_with fail
        refine CC.out.mono ?_
        rintro e w' ⟨rfl, rfl⟩
        go_wp2
        go_end0
        exact SM.out E.out
      · have E : Hid (freeStep out x ns = out ++ [x.name]) := Lib.hid (by unfold freeStep; rw [hasN_not h2, hasN_not h3, z1]; rfl)
        rw [hasN_not h3] at CC
        have CC := Lib.hid CC
        have hz2 := hz.alloc hz.size (.cells #[.string x.name] 9)
        have OW := Lib.hid (own_keep4 hO fun b e => hz2.block b (hO.lt b e).2)
        have HV := Lib.hid hv
        have HO := Lib.hid hO
        have HR := Lib.hid hr
        have HZ2 := Lib.hid hz2
        have NB : Hid (v.ownBlock ≠ some bo) := Lib.hid (fun e => by have := (hO.lt _ e).1; omega)
        have HB7 := Lib.hid ((hz2.block bo hbo).trans hv)
        obtain ⟨i0, hi0, hzz0, hz1, hz3⟩ := info_parts infoStr
        clear h1 h2 h3 hv hO hr hA hS hM hOm hso hz hz2
        go_enter Tryd.func31, Tryd.ntmps31
        go_wp2_with fail
        refine CC.out.mono ?_
        rintro e w' ⟨rfl, rfl⟩
        have cb : ((W.alloc (.cells #[.int .i64 x.kind, .string x.name, .int .i64 x.n, .slice a x.args.length c] 25)).alloc (.cells #[.string x.name] 9)).cell? ⟨bo, 0, none⟩ = some v := (HZ2.out.cell (p := ⟨bo, 0, none⟩) hbo).trans (cell_of_row W bo 0 _ _ _ HV.out)
        go_wp2_with (at_builtin; go_loud (refine wpList_append_lies _ rfl _ _ _ rfl (bo + 1) 9 i0 _ 1 16 Tryd.underlying33 hi0 hzz0 hz1 hz3 rfl (by omega) v out.length (out.map Value.string) rfl OW.out ⟨W.heap.size + 1, 0, none⟩ 1 1 [.string x.name] rfl rfl (World.news_of_block (cs := #[.string x.name]) (t := 9) (fr := (0, 0)) (alloc_new (by simp))) (by simp [Value.oneCell']) (by omega) (by unfold maxLen; omega) (by omega) (by simp; omega) (W.heap.size + 1 + 1) (by simp) ?_; intro gg cap w7 hown7 hgrow7 hat7 hlt7; have hb7 := (hgrow7.block bo (by first | (simp; done) | (simp; omega)) (fun e => NB.out e.symm)).trans (HB7.out); have c7 := cell_of_row w7 bo 0 _ _ _ hb7; have fr7 : w7.frozen? ⟨bo, 0, none⟩ = false := (by simp [World.frozen?, hb7]); have HB8 := Lib.hid hb7; clear hb7))
        go_end0
        have hne : gg ≠ bo := by
          rcases hat7 with e | e
          · intro h; rw [h] at e; exact NB.out e
          · omega
        refine ⟨⟨_, rfl⟩, (some gg : Option Nat), ⟨.slice (some ⟨gg, 0, none⟩) (out.length + 1) cap, set_row0 HB8.out _, ?_, rfl, by rw [E.out, List.length_append]; simp; omega⟩, ⟨?_, ?_⟩⟩
        · rw [E.out, List.length_append, List.map_append]
          exact own_keep4 hown7 fun b e => Below.heap_setCell _ _ _ _ (by injection e with e; subst e; exact hne)
        · refine ((Kp.of_below HZ2.out).grown hgrow7 (by simp; omega) (fun b e => .inr (.inr ?_))).setCell (.inr (.inl rfl)) _
          rw [HR.out, e]
        · rcases hat7 with e | e
          · exact .inl (by rw [HR.out, e])
          · exact .inr ⟨gg, rfl, by omega⟩
  · have z1 : (x.kind == 1) = false := by rw [beq_eq_false_iff_ne]; exact h1
    have E : Hid (freeStep out x ns = out) := Lib.hid (by unfold freeStep; rw [z1]; simp)
    clear h1 hv hO hr hl hbo hz hA hS hM hOm hk
    go_enter Tryd.func31, Tryd.ntmps31
    go_wp2
    go_end0
    exact SM.out E.out

end Go.Proofs.YtifaaihekgnhiaaDoor.Tp

/- The walk of Metas's closure; of Free and Metas. -/
namespace Go.Proofs.YtifaaihekgnhiaaDoor.Tp
open Go.RowKit

/-- the closure's memory: the numbers so far -/
def MetaInv (bo : Nat) (k : Nat) (out : List Int) (r : Option Nat) (W : World) : Prop :=
  ∃ v, W.heap[bo]? = some (.cells #[v] 36 (0, 0)) ∧ W.ownsRow (bo + 1) 3 1 v out.length (out.map (Value.int .i64)) ∧ r = v.ownBlock ∧ out.length ≤ k

theorem metaInv_ok (bo : Nat) : InvOk bo (MetaInv bo) where
  low := by
    rintro k g r W W' ⟨v, h1, h2, h3, h4⟩ hb
    exact ⟨v, (hb.block bo (Array.getElem?_eq_some_iff.1 h1).1).trans h1, own_keep4 h2 fun b e => hb.block b (h2.lt b e).2, h3, h4⟩
  bo := by
    rintro k g r W ⟨v, h1, _⟩
    exact (Array.getElem?_eq_some_iff.1 h1).1
  row := by
    rintro k g r W b ⟨v, h1, h2, h3, h4⟩ e
    exact (h2.lt b (h3.symm.trans e)).2

theorem infoInt : (Tryd.prog.info? 3).map (fun i => (i.zero, i.size, i.bytes)) = some (some (.int .i64 0), 1, 8) := by kernel_rfl

/-- slices.Contains over numbers that the call owns -/
theorem contains_own {w : World} {lo : Nat} {v : Value} {l : List Int} (h : w.ownsRow lo 3 1 v l.length (l.map (Value.int .i64))) (hl : l.length ≤ 1099511627776) (x : Int) :
    Calls Tryd.prog 34 #[v, .int .i64 x] w fun e w' => e = .returned (.bool (l.contains x)) ∧ w = w' := by
  rcases h.2 with ⟨rfl, h0⟩ | ⟨g, cap, cur, rfl, hb, hg, h1, h2, h3, h4⟩
  · have : l = [] := List.eq_nil_of_length_eq_zero h0
    subst this
    exact (Tryd.slices_Contains_int_empty none 0 x w).mono fun e w' ⟨he, hw⟩ => ⟨he, hw.symm⟩
  · have := Tryd.slices_Contains_int g 0 l.length cap l x w (Nat.le_refl _) (by omega) (fun j hj => by
      have hc := h.cells (g := g) rfl j (.int .i64 l[j]) (by rw [List.getElem?_map, List.getElem?_eq_getElem hj]; rfl)
      have hadd : ∀ j, (⟨g, 0, none⟩ : Addr).add j = ⟨g, j, none⟩ := fun j => by unfold Addr.add; split <;> simp_all
      rw [hadd] at hc
      rw [Nat.zero_add, hc, List.getD_eq_getElem?_getD, List.getElem?_eq_getElem hj]; rfl)
    rw [List.take_length] at this
    exact this.mono fun e w' ⟨he, hw⟩ => ⟨he, hw.symm⟩

set_option maxRecDepth 100000 in
set_option maxHeartbeats 3200000 in
theorem meta_at (bo : Nat) : AtSaid 33 #[.pointer (some ⟨bo, 0, none⟩)] bo metaStep (MetaInv bo) := by
  intro k out x ns S a c m r W hI hk hA hS hM hOm
  obtain ⟨v, hv, hO, hr, hl⟩ := hI
  have hbo := (Array.getElem?_eq_some_iff.1 hv).1
  have hz := (Below.refl W.heap.size W).alloc (Nat.le_refl _) (.cells #[.int .i64 x.kind, .string x.name, .int .i64 x.n, .slice a x.args.length c] 25)
  have b4 := B4.new W (.int .i64 x.kind) (.string x.name) (.int .i64 x.n) (.slice a x.args.length c)
  have c0 := b4.c0
  have c2 := b4.c2
  have cv : (W.alloc (.cells #[.int .i64 x.kind, .string x.name, .int .i64 x.n, .slice a x.args.length c] 25)).cell? ⟨bo, 0, none⟩ = some v := (hz.cell (p := ⟨bo, 0, none⟩) hbo).trans (cell_of_row W bo 0 _ _ _ hv)
  have same : ∀ (e : metaStep out x ns = out), AtPost bo (MetaInv bo) (k + 1) (metaStep out x ns) r W (.returned (.tuple #[])) (W.alloc (.cells #[.int .i64 x.kind, .string x.name, .int .i64 x.n, .slice a x.args.length c] 25)) := fun e => by
    rw [e]
    obtain ⟨v', h1, h2, h3, h4⟩ := (metaInv_ok bo).low k out r W _ ⟨v, hv, hO, hr, hl⟩ hz
    exact ⟨⟨_, rfl⟩, r, ⟨v', h1, h2, h3, by omega⟩, .of_below hz⟩
  have SM := Lib.hid same
  unfold tv
  clear b4 same
  by_cases h1 : x.kind = 2
  · have z1 : (x.kind == 2) = true := by rw [beq_iff_eq]; exact h1
    have CC := contains_own (own_keep4 hO (w' := (W.alloc (.cells #[.int .i64 x.kind, .string x.name, .int .i64 x.n, .slice a x.args.length c] 25))) fun b e => hz.block b (hO.lt b e).2) (by omega) x.n
    by_cases h3 : out.contains x.n = true
    · have E : Hid (metaStep out x ns = out) := Lib.hid (by unfold metaStep; rw [h3]; simp)
      rw [h3] at CC
      have CC := Lib.hid CC
      clear h1 h3 hv hO hr hl hbo hz hA hS hM hOm hk
      go_enter Tryd.func33, Tryd.ntmps33
      go_wp2_with fail
      refine CC.out.mono ?_
      rintro e w' ⟨rfl, rfl⟩
      go_wp2
      go_end0
      exact SM.out E.out
    · have h3f : out.contains x.n = false := by simpa using h3
      have E : Hid (metaStep out x ns = out ++ [x.n]) := Lib.hid (by unfold metaStep; rw [h3f, z1]; rfl)
      rw [h3f] at CC
      have CC := Lib.hid CC
      have hz2 := hz.alloc hz.size (.cells #[.int .i64 x.n] 3)
      have OW := Lib.hid (own_keep4 hO fun b e => hz2.block b (hO.lt b e).2)
      have HV := Lib.hid hv
      have HO := Lib.hid hO
      have HR := Lib.hid hr
      have HZ2 := Lib.hid hz2
      have NB : Hid (v.ownBlock ≠ some bo) := Lib.hid (fun e => by have := (hO.lt _ e).1; omega)
      have HB7 := Lib.hid ((hz2.block bo hbo).trans hv)
      obtain ⟨i0, hi0, hzz0, hz1, hz3⟩ := info_parts infoInt
      clear h1 h3 h3f hv hO hr hA hS hM hOm hz hz2
      go_enter Tryd.func33, Tryd.ntmps33
      go_wp2_with fail
      refine CC.out.mono ?_
      rintro e w' ⟨rfl, rfl⟩
      have cb : ((W.alloc (.cells #[.int .i64 x.kind, .string x.name, .int .i64 x.n, .slice a x.args.length c] 25)).alloc (.cells #[.int .i64 x.n] 3)).cell? ⟨bo, 0, none⟩ = some v := (HZ2.out.cell (p := ⟨bo, 0, none⟩) hbo).trans (cell_of_row W bo 0 _ _ _ HV.out)
      go_wp2_with (at_builtin; go_loud (refine wpList_append_lies _ rfl _ _ _ rfl (bo + 1) 3 i0 _ 1 8 Tryd.underlying36 hi0 hzz0 hz1 hz3 rfl (by omega) v out.length (out.map (Value.int .i64)) rfl OW.out ⟨W.heap.size + 1, 0, none⟩ 1 1 [.int .i64 x.n] rfl rfl (World.news_of_block (cs := #[.int .i64 x.n]) (t := 3) (fr := (0, 0)) (alloc_new (by simp))) (by simp [Value.oneCell']) (by omega) (by unfold maxLen; omega) (by omega) (by simp; omega) (W.heap.size + 1 + 1) (by simp) ?_; intro gg cap w7 hown7 hgrow7 hat7 hlt7; have hb7 := (hgrow7.block bo (by first | (simp; done) | (simp; omega)) (fun e => NB.out e.symm)).trans (HB7.out); have c7 := cell_of_row w7 bo 0 _ _ _ hb7; have fr7 : w7.frozen? ⟨bo, 0, none⟩ = false := (by simp [World.frozen?, hb7]); have HB8 := Lib.hid hb7; clear hb7))
      go_end0
      have hne : gg ≠ bo := by
        rcases hat7 with e | e
        · intro h; rw [h] at e; exact NB.out e
        · omega
      refine ⟨⟨_, rfl⟩, (some gg : Option Nat), ⟨.slice (some ⟨gg, 0, none⟩) (out.length + 1) cap, set_row0 HB8.out _, ?_, rfl, by rw [E.out, List.length_append]; simp; omega⟩, ⟨?_, ?_⟩⟩
      · rw [E.out, List.length_append, List.map_append]
        exact own_keep4 hown7 fun b e => Below.heap_setCell _ _ _ _ (by injection e with e; subst e; exact hne)
      · refine ((Kp.of_below HZ2.out).grown hgrow7 (by simp; omega) (fun b e => .inr (.inr ?_))).setCell (.inr (.inl rfl)) _
        rw [HR.out, e]
      · rcases hat7 with e | e
        · exact .inl (by rw [HR.out, e])
        · exact .inr ⟨gg, rfl, by omega⟩
  · have z1 : (x.kind == 2) = false := by rw [beq_eq_false_iff_ne]; exact h1
    have E : Hid (metaStep out x ns = out) := Lib.hid (by unfold metaStep; rw [z1]; simp)
    clear h1 hv hO hr hl hbo hz hA hS hM hOm hk
    go_enter Tryd.func33, Tryd.ntmps33
    go_wp2
    go_end0
    exact SM.out E.out

end Go.Proofs.YtifaaihekgnhiaaDoor.Tp

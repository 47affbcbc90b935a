/- Texts laid together: MaBnd, MaTop, MaPeelW, MaTold. -/
import Derived.Test.YtofllmemmggapaaGreatDoorP38
import Derived.Test.YtofllmemmggapaaGreatDoorP08
import Derived.Test.YtofllmemmggapaaGreatDoorP43
import Derived.Test.YtofllmemmggapaaGreatDoorP36
import Derived.Deep.LoopGhost
import Derived.Test.YtofllmemmggapaaGreatDoorP07

/- Rows of bindings in memory. -/
namespace Go.Proofs.YtofllmemmggapaaGreatDoor.Tp
open Go.RowKit

def cell5 (e : ByteArray × Ty) (sv : Value) : List Value := .string e.1 :: cell4 e.2 sv
def cellsB (l : Fnd) (svs : List Value) : List Value := (l.zip svs).flatMap fun p => cell5 p.1 p.2
theorem cellsB_cons (e : ByteArray × Ty) (l : Fnd) (v : Value) (svs : List Value) : cellsB (e :: l) (v :: svs) = .string e.1 :: .int .i64 e.2.kind :: .string e.2.name :: .int .i64 e.2.n :: v :: cellsB l svs := rfl
theorem cellsB_snoc (l : Fnd) (svs : List Value) (e : ByteArray × Ty) (v : Value) (h : svs.length = l.length) : cellsB (l ++ [e]) (svs ++ [v]) = cellsB l svs ++ cell5 e v := by
  unfold cellsB
  rw [List.zip_append h.symm, List.flatMap_append]
  simp
theorem cellsB_at : ∀ (l : Fnd) (svs : List Value), svs.length = l.length → ∀ (i : Nat) (h : i < l.length) (h' : i < svs.length),
    (cellsB l svs)[i * 5]? = some (.string l[i].1) ∧ (cellsB l svs)[i * 5 + 1]? = some (.int .i64 l[i].2.kind) ∧ (cellsB l svs)[i * 5 + 2]? = some (.string l[i].2.name) ∧ (cellsB l svs)[i * 5 + 3]? = some (.int .i64 l[i].2.n) ∧ (cellsB l svs)[i * 5 + 4]? = some svs[i]
  | [], _, _, i, h, _ => by simp at h
  | t :: ts, [], hh, _, _, _ => by simp at hh
  | t :: ts, v :: svs, hh, i, h, h' => by
    rw [cellsB_cons]
    cases i with
    | zero => exact ⟨rfl, rfl, rfl, rfl, rfl⟩
    | succ i =>
      have := cellsB_at ts svs (by simpa using hh) i (by simpa using h) (by simpa using h')
      rw [show (i + 1) * 5 = i * 5 + 1 + 1 + 1 + 1 + 1 by omega, show i * 5 + 1 + 1 + 1 + 1 + 1 + 2 = i * 5 + 2 + 1 + 1 + 1 + 1 + 1 by omega, show i * 5 + 1 + 1 + 1 + 1 + 1 + 3 = i * 5 + 3 + 1 + 1 + 1 + 1 + 1 by omega, show i * 5 + 1 + 1 + 1 + 1 + 1 + 4 = i * 5 + 4 + 1 + 1 + 1 + 1 + 1 by omega]
      simp only [List.getElem?_cons_succ, List.getElem_cons_succ]
      exact this

/-- a row of bindings: the types' arguments in blocks of S -/
def BndAt (S : Nat → Prop) (w : World) (v : Value) (l : Fnd) : Prop :=
  ∃ a cap, v = .slice a l.length cap ∧ l.length ≤ 1099511627776 ∧ (l = [] ∨ ∃ b off, a = some ⟨b, off, none⟩ ∧ S b ∧
    ∀ i (h : i < l.length), w.cell? ⟨b, off + i * 5, none⟩ = some (.string l[i].1) ∧ ∃ a' c', Four w b (off + i * 5 + 1) (.int .i64 l[i].2.kind) (.string l[i].2.name) (.int .i64 l[i].2.n) (.slice a' l[i].2.args.length c') ∧ ArgsAt S w (.slice a' l[i].2.args.length c') l[i].2.args)
theorem BndAt.keep {S : Nat → Prop} {A B : World} (h : ∀ b, S b → B.heap[b]? = A.heap[b]?) {v : Value} {l : Fnd} (H : BndAt S A v l) : BndAt S B v l := by
  obtain ⟨a, cap, e, hl, hc⟩ := H
  refine ⟨a, cap, e, hl, hc.imp id ?_⟩
  rintro ⟨b, off, e, hb, hc⟩
  refine ⟨b, off, e, hb, fun i hi => ?_⟩
  obtain ⟨h0, a', c', h4, hA⟩ := hc i hi
  exact ⟨(World.cell?_of_block (h b hb)).trans h0, a', c', h4.keep (h b hb), hA.keep h⟩
theorem BndAt.mono {S S' : Nat → Prop} (hS : ∀ b, S b → S' b) {A : World} {v : Value} {l : Fnd} (H : BndAt S A v l) : BndAt S' A v l := by
  obtain ⟨a, cap, e, hl, hc⟩ := H
  refine ⟨a, cap, e, hl, hc.imp id ?_⟩
  rintro ⟨b, off, e, hb, hc⟩
  refine ⟨b, off, e, hS b hb, fun i hi => ?_⟩
  obtain ⟨h0, a', c', h4, hA⟩ := hc i hi
  exact ⟨h0, a', c', h4, hA.mono hS⟩

/-- such a row under way -/
structure Bacc (S : Nat → Prop) (lo : Nat) (w : World) (v : Value) (acc : Fnd) (svs : List Value) : Prop where
  own : w.ownsRow lo 56 5 v acc.length (cellsB acc svs)
  len : svs.length = acc.length
  at_ : ∀ (j : Nat) (h : j < acc.length) (h' : j < svs.length), ∃ a c, svs[j] = .slice a acc[j].2.args.length c ∧ ArgsAt S w (.slice a acc[j].2.args.length c) acc[j].2.args
theorem Bacc.nil (S : Nat → Prop) (lo : Nat) (w : World) : Bacc S lo w (.slice none 0 0) [] [] := ⟨World.ownsRow_nil _ _ _ _, rfl, by simp⟩
theorem Bacc.low {S : Nat → Prop} {lo : Nat} {w w' : World} {v : Value} {acc : Fnd} {svs : List Value} (h : Bacc S lo w v acc svs) (hS : ∀ b, S b → b < w.heap.size) (hb : Below w.heap.size w w') : Bacc S lo w' v acc svs :=
  ⟨own_keep4 h.own fun b e => hb.block b (h.own.lt b e).2, h.len, fun j h1 h2 => by
    obtain ⟨a, c, e, hA⟩ := h.at_ j h1 h2
    exact ⟨a, c, e, hA.keep fun b hb' => hb.block b (hS b hb')⟩⟩
theorem Bacc.bnd {S : Nat → Prop} {lo : Nat} {w : World} {v : Value} {acc : Fnd} {svs : List Value} (h : Bacc S lo w v acc svs) (hS : ∀ b, S b → b < w.heap.size) (hl : acc.length ≤ 1099511627776) : BndAt (fun b => b < w.heap.size) w v acc := by
  have ho := h.own
  rcases h.own.2 with ⟨rfl, h0⟩ | ⟨g, cap, cur, rfl, hb, hg, h1, h2, h3, h4⟩
  · have : acc = [] := List.eq_nil_of_length_eq_zero h0
    subst this
    exact ⟨_, _, rfl, hl, .inl rfl⟩
  · refine ⟨_, cap, rfl, hl, .inr ⟨g, 0, rfl, (ho.lt g rfl).2, fun j hj => ?_⟩⟩
    have hj' : j < svs.length := by rw [h.len]; exact hj
    obtain ⟨q0, q1, q2, q3, q4⟩ := cellsB_at acc svs h.len j hj hj'
    obtain ⟨a, c, e, hA⟩ := h.at_ j hj hj'
    have hc0 := ho.cells (g := g) rfl (j * 5) _ q0
    have hc1 := ho.cells (g := g) rfl (j * 5 + 1) _ q1
    have hc2 := ho.cells (g := g) rfl (j * 5 + 2) _ q2
    have hc3 := ho.cells (g := g) rfl (j * 5 + 3) _ q3
    have hc4 := ho.cells (g := g) rfl (j * 5 + 4) _ q4
    rw [addr_add0] at hc0 hc1 hc2 hc3 hc4
    rw [e] at hc4
    exact ⟨hc0, a, c, ⟨hc1, hc2, hc3, hc4⟩, hA.mono hS⟩

theorem infoB : (Tryz.prog.info? 56).map (fun i => (i.zero, i.size, i.bytes)) = some (some (.agg #[.string ByteArray.empty, .int .i64 0, .string ByteArray.empty, .int .i64 0, .slice none 0 0]), 5, 72) := by kernel_rfl

/-- one more binding -/
theorem bnd_append (ty : TypeId) {S : Nat → Prop} {lo b : Nat} {w : World} {v : Value} {acc : Fnd} {svs : List Value} {e : ByteArray × Ty} {a : Option Addr} {c : Nat} (A : Bacc S lo w v acc svs) (hS : ∀ b, S b → b < lo) (hlo : lo ≤ w.heap.size)
    (hb : w.heap[b]? = some (.cells #[.string e.1, .int .i64 e.2.kind, .string e.2.name, .int .i64 e.2.n, .slice a e.2.args.length c] 56 (0, 0))) (hA : ArgsAt S w (.slice a e.2.args.length c) e.2.args) (hl : acc.length ≤ 1099511627776) :
    ∃ v' w', (Builtin.append_ #[32, 32] ty #[v, .slice (some ⟨b, 0, none⟩) 1 1]).run Tryz.prog w = .ok v' w' ∧ Bacc S lo w' v' (acc ++ [e]) (svs ++ [.slice a e.2.args.length c]) ∧ w.grownBy w' v.ownBlock := by
  obtain ⟨i0, hi0, hz3, hz1, hz2⟩ := info_parts infoB
  obtain ⟨v', w', hr, ho, hgr, _⟩ := run_append_own (P := Tryz.prog) w lo 32 ty 56 i0 _ 5 72 Tryz.underlying32 hi0 hz3 hz1 hz2 rfl (by decide) v acc.length (cellsB acc svs) A.own ⟨b, 0, none⟩ 1 1 (cell5 e (.slice a e.2.args.length c)) rfl
    (World.news_of_block (cs := #[.string e.1, .int .i64 e.2.kind, .string e.2.name, .int .i64 e.2.n, .slice a e.2.args.length c]) (t := 56) (fr := (0, 0)) hb) (by simp [cell5, cell4, Value.oneCell']) (by unfold maxLen; omega) (by omega) hlo
  have kp : ∀ {y : Value} {ts : List Ty}, ArgsAt S w y ts → ArgsAt S w' y ts := fun hy => hy.keep fun b hb => hgr.block b (Nat.lt_of_lt_of_le (hS b hb) hlo) (fun e => by have := (A.own.lt b e.symm).1; have := hS b hb; omega)
  refine ⟨v', w', hr, ⟨by rw [cellsB_snoc _ _ _ _ A.len, List.length_append]; exact ho, by simp [A.len], fun j h1 h2 => ?_⟩, hgr⟩
  rcases Nat.lt_or_ge j acc.length with hlt | hge
  · have hlt' : j < svs.length := by rw [A.len]; exact hlt
    obtain ⟨a', c', e', hA'⟩ := A.at_ j hlt hlt'
    rw [List.getElem_append_left hlt', List.getElem_append_left hlt]
    exact ⟨a', c', e', kp hA'⟩
  · have hj : j = acc.length := by simp at h1; omega
    subst hj
    rw [List.getElem_append_right (Nat.le_refl _), List.getElem_append_right (by rw [A.len]; exact Nat.le_refl _)]
    simp only [A.len, Nat.sub_self, List.getElem_cons_zero]
    exact ⟨a, c, rfl, kp hA⟩

end Go.Proofs.YtofllmemmggapaaGreatDoor.Tp

/- The walk of Match. -/
namespace Go.Proofs.YtofllmemmggapaaGreatDoor.Tp
open Go.RowKit Go.Sort

def LookPost (w : World) (o : Option Fnd) (e : Ending) (w' : World) : Prop :=
  Below w.heap.size w w' ∧ match o with
  | none => e = .returned (.tuple #[.slice none 0 0, .bool false])
  | some l => ∃ v, e = .returned (.tuple #[v, .bool true]) ∧ BndAt (fun b => b < w'.heap.size) w' v l

/-- of the first names -/
def pairsF (F : Fnd) (ns : List ByteArray) : Fnd := ns.filterMap fun n => (lkF F n).map fun u => (n, u)
theorem pairsF_some {F : Fnd} {ns : List ByteArray} {i : Nat} (h : i < ns.length) {u : Ty} (hl : lkF F ns[i] = some u) : pairsF F (ns.take (i + 1)) = pairsF F (ns.take i) ++ [(ns[i], u)] := by
  unfold pairsF
  rw [List.take_add_one, List.getElem?_eq_getElem h, List.filterMap_append]
  simp [hl]
theorem pairsF_none {F : Fnd} {ns : List ByteArray} {i : Nat} (h : i < ns.length) (hl : lkF F ns[i] = none) : pairsF F (ns.take (i + 1)) = pairsF F (ns.take i) := by
  unfold pairsF
  rw [List.take_add_one, List.getElem?_eq_getElem h, List.filterMap_append]
  simp [hl]
theorem pairsF_len (F : Fnd) (ns : List ByteArray) : (pairsF F ns).length ≤ ns.length := List.length_filterMap_le _ _

theorem depth_le_size : ∀ t : Ty, t.depth ≤ t.size := by
  intro t
  induction t using Ty.ind with
  | h t ih =>
    rw [t.depth_eq, t.size_eq]
    have : ∀ l : List Ty, (∀ a ∈ l, a.depth ≤ a.size) → depthL l ≤ sizeL l := by
      intro l
      induction l with
      | nil => intro _; simp [depthL]
      | cons a l ihl =>
        intro h
        have h1 := h a (by simp)
        have h2 := ihl fun b hb => h b (by simp [hb])
        simp only [depthL, sizeL]
        omega
    have := this t.args ih
    omega

set_option maxRecDepth 100000 in
set_option maxHeartbeats 6400000 in
theorem Match_any (p t : Ty) (vars : List ByteArray) (pa ta : Option Addr) (pc tc : Nat) (vs : Value) (w : World) (hp : AtW p pa pc w) (ht : AtW t ta tc w) (hv : StrsLow w vs vars) (hs : Small t) (hz : Szs p) (hT : Tab w) :
    Calls Tryz.prog 11 #[tv p pa pc, tv t ta tc, vs] w (LookPost w (MatchT p t vars)) := by
  obtain ⟨va, vc, rfl, hvl⟩ := id hv
  obtain ⟨W1, hW1⟩ : ∃ W1 : World, W1 = (((w.alloc (.cells #[.int .i64 p.kind, .string p.name, .int .i64 p.n, .slice pa p.args.length pc] 26)).alloc (.cells #[.int .i64 t.kind, .string t.name, .int .i64 t.n, .slice ta t.args.length tc] 26)).alloc (.map #[] 0)).alloc (.cells #[.slice va vars.length vc, .map (some (w.heap.size + 1 + 1))] 68) := ⟨_, rfl⟩
  have hz1 := (Below.refl w.heap.size w).alloc (Nat.le_refl _) (.cells #[.int .i64 p.kind, .string p.name, .int .i64 p.n, .slice pa p.args.length pc] 26)
  have hz2 := hz1.alloc hz1.size (.cells #[.int .i64 t.kind, .string t.name, .int .i64 t.n, .slice ta t.args.length tc] 26)
  have hz3 := hz2.alloc hz2.size (.map #[] 0)
  have hz4 := hz3.alloc hz3.size (.cells #[.slice va vars.length vc, .map (some (w.heap.size + 1 + 1))] 68)
  have kp := ((B4.new w (.int .i64 p.kind) (.string p.name) (.int .i64 p.n) (.slice pa p.args.length pc)).low ((Below.refl _ _).alloc (Nat.le_refl _) (.cells #[.int .i64 t.kind, .string t.name, .int .i64 t.n, .slice ta t.args.length tc] 26))).low (((Below.refl _ _).alloc (Nat.le_refl _) (.map #[] 0)).alloc (by simp) (.cells #[.slice va vars.length vc, .map (some (w.heap.size + 1 + 1))] 68))
  have kt := (B4.new (w.alloc (.cells #[.int .i64 p.kind, .string p.name, .int .i64 p.n, .slice pa p.args.length pc] 26)) (.int .i64 t.kind) (.string t.name) (.int .i64 t.n) (.slice ta t.args.length tc)).low (((Below.refl _ _).alloc (Nat.le_refl _) (.map #[] 0)).alloc (by simp) (.cells #[.slice va vars.length vc, .map (some (w.heap.size + 1 + 1))] 68))
  rw [show (w.alloc (.cells #[.int .i64 p.kind, .string p.name, .int .i64 p.n, .slice pa p.args.length pc] 26)).heap.size = w.heap.size + 1 from by simp] at kt
  have km := heap_alloc_new (((w.alloc (.cells #[.int .i64 p.kind, .string p.name, .int .i64 p.n, .slice pa p.args.length pc] 26)).alloc (.cells #[.int .i64 t.kind, .string t.name, .int .i64 t.n, .slice ta t.args.length tc] 26)).alloc (.map #[] 0)) (.cells #[.slice va vars.length vc, .map (some (w.heap.size + 1 + 1))] 68)
  rw [show (((w.alloc (.cells #[.int .i64 p.kind, .string p.name, .int .i64 p.n, .slice pa p.args.length pc] 26)).alloc (.cells #[.int .i64 t.kind, .string t.name, .int .i64 t.n, .slice ta t.args.length tc] 26)).alloc (.map #[] 0)).heap.size = w.heap.size + 1 + 1 + 1 from by simp] at km
  have kf : FndAt (fun b => b < w.heap.size) (((w.alloc (.cells #[.int .i64 p.kind, .string p.name, .int .i64 p.n, .slice pa p.args.length pc] 26)).alloc (.cells #[.int .i64 t.kind, .string t.name, .int .i64 t.n, .slice ta t.args.length tc] 26)).alloc (.map #[] 0)) (w.heap.size + 1 + 1) [] := FndAt.made _ _ (by simp)
  have kf4 := kf.keep (heap_alloc_old _ (.cells #[.slice va vars.length vc, .map (some (w.heap.size + 1 + 1))] 68) (by simp)) (fun b hb => heap_alloc_old _ _ (by simp; omega))
  have hsz : W1.heap.size = w.heap.size + 1 + 1 + 1 + 1 := by rw [hW1]; simp
  have htl := (tab_kept (w' := w) hT).1
  rw [← hW1] at hz4 kp kt km kf4
  have hM : MtAt (fun b => b < w.heap.size) W1 (w.heap.size + 1 + 1 + 1) (w.heap.size + 1 + 1) vars [] := ⟨⟨_, km, hv.keep fun b hb => hz4.block b hb⟩, kf4, by omega, fun b hb => ⟨by omega, by omega⟩, (fun x u e => by rw [lk_nil] at e; cases e), tab_below hT hz4, by omega⟩
  have CM := Lib.hid (match_any p t [] (fun b => b < w.heap.size) (fun _ => False) pa ta pc tc (.slice none 0 0) (w.heap.size + 1 + 1 + 1) (w.heap.size + 1 + 1) vars [] W1 hM (hp.keep fun b hb => hz4.block b hb) (ht.keep fun b hb => hz4.block b hb) (.nil _ _ _ _) (fun b hb => hb.elim) hs hz
    (by have := depth_le_size p; unfold Szs at hz; unfold Dps; simp; omega))
  have ME : Hid (MatchT p t vars = if (mT vars p t (epS []) (etS []) []).1 then some (pairsF (mT vars p t (epS []) (etS []) []).2 (freeT p)) else none) := Lib.hid rfl
  have PZ : Hid (p.size ≤ 1099511627776) := Lib.hid (Nat.le_trans hz (by decide))
  have FL : Hid ((freeT p).length ≤ p.size) := Lib.hid (freeT_len p)
  have HP := Lib.hid hp
  have H1 := Lib.hid hz4
  have KP1 := Lib.hid kp
  have HSZ := Lib.hid hsz
  have c0 := kp.c0
  have c1 := kp.c1
  have c2 := kp.c2
  have c3 := kp.c3
  have d0 := kt.c0
  have d1 := kt.c1
  have d2 := kt.c2
  have d3 := kt.c3
  have hmm := @run_makeMap Tryz.prog
  generalize hmr : mT vars p t (epS []) (etS []) [] = r at *
  unfold tv at *
  clear hvl hp ht hv hs hz hT hz1 hz2 hz3 hz4 kp kt km kf kf4 hsz htl hM hmr
  subst hW1
  go_enter Tryz.func11, Tryz.ntmps11
  go_wp2_with fail
  refine CM.out.mono ?_
  rintro e w2 ⟨rfl, hM2, hK2⟩
  have hB2 : Below w.heap.size w w2 := ⟨hK2.os.trans H1.out.os, hK2.tape.trans H1.out.tape, hK2.output.trans H1.out.output, Nat.le_trans H1.out.size hK2.size, fun k hk => (hK2.block k (Nat.lt_of_lt_of_le hk H1.out.size) (by omega)).trans (H1.out.block k hk)⟩
  have q4 : B4 w2 w.heap.size (.int .i64 p.kind) (.string p.name) (.int .i64 p.n) (.slice pa p.args.length pc) := (hK2.block _ KP1.out.lt (by omega)).trans KP1.out
  have HM2 := Lib.hid hM2
  have HB2 := Lib.hid hB2
  have Q4 := Lib.hid q4
  cases hr : r.1 with
  | false =>
    have E : Hid (MatchT p t vars = none) := Lib.hid (by rw [ME.out, hr]; rfl)
    clear hr q4 hM2 hK2 hB2
    go_wp2
    refine bodyPost_ret (v := .tuple #[.slice none 0 0, .bool false]) (by simp [results, Tryz.results11, go_sem]) rfl ?_
    rw [E.out]
    exact ⟨HB2.out, rfl⟩
  | true =>
    have E : Hid (MatchT p t vars = some (pairsF r.2 (freeT p))) := Lib.hid (by rw [ME.out, hr]; rfl)
    have CF := Lib.hid (free_any p (fun b => b < w.heap.size) pa pc w2 (HP.out.keep fun b hb => hB2.block b hb) (fun b hb => Nat.lt_of_lt_of_le hb hB2.size) PZ.out)
    have c0 := q4.c0
    have c1 := q4.c1
    have c2 := q4.c2
    have c3 := q4.c3
    unfold tv at CF
    clear hr q4 hM2 hK2 hB2
    go_wp2_with fail
    refine CF.out.mono ?_
    rintro e w3 ⟨fv, rfl, ho3, hl3, hb3⟩
    have hM3 := HM2.out.low hb3
    have HB3 := Lib.hid (HB2.out.trans (hb3.mono HB2.out.size))
    obtain ⟨fa, fc, rfl, _, _, _, hcs⟩ := StrsAt.of_own ho3 (Nat.le_trans hl3 PZ.out)
    have hfl : (freeT p).length ≤ 1099511627776 := Nat.le_trans hl3 PZ.out
    have HM3 := Lib.hid hM3
    have HO3 := Lib.hid ho3
    have HCS := Lib.hid hcs
    generalize hns : freeT p = ns at *
    have LT3 : Hid (w.heap.size ≤ w3.heap.size) := Lib.hid HB3.out.size
    clear hb3 hM3 ho3 hl3 hcs hns HM2 HB2 Q4 FL
    obtain ⟨wo, hwo⟩ : ∃ wo : World, wo = w3 := ⟨_, rfl⟩
    subst hwo
    go_wp2
    go_loopw [9, 26] (fun ov iv wr => ∃ (i : Nat) (svs : List Value), iv = .int .i64 i ∧ i ≤ ns.length ∧ Bacc (fun b => b < w.heap.size) wo.heap.size wr ov (pairsF r.2 (ns.take i)) svs ∧ Below wo.heap.size wo wr) (fun _ iv _ => ns.length - (intOf iv).toNat)
    case atStart => exact ⟨0, [], rfl, Nat.zero_le _, Bacc.nil _ _ _, .refl _ _⟩
    case round =>
      obtain ⟨i, svs, rfl, hil, hA, hB⟩ := hrel
      have HA := Lib.hid hA
      have HB := Lib.hid hB
      by_cases hi : i < ns.length
      · have z0 : (0 : Int) ≤ (i : Int) := by omega
        have z1 : (i : Int) < (ns.length : Int) := by omega
        obtain ⟨b, off, rfl, hb, hcc⟩ := HCS.out.resolve_left (by intro e; rw [e] at hi; simp at hi)
        have f0 := (World.cell?_of_block (hB.block b (HO3.out.lt b hb).2)).trans (hcc i hi)
        have hMr := HM3.out.low hB
        obtain ⟨vv, hmm2, _⟩ := hMr.m
        have m1 := cell_of_row wr (w.heap.size + 1 + 1 + 1) 1 _ _ _ hmm2
        have PL := Lib.hid (pairsF_len r.2 (ns.take i))
        have HMR := Lib.hid hMr
        cases hl : lkF r.2 ns[i] with
        | none =>
          have hlk := hMr.fnd.look_none Tryz.underlying66 Tryz.underlying9 hl (fun w => zeroType w) wr rfl
          have PE := Lib.hid (pairsF_none hi hl)
          have HX := Lib.hid (HB.out.alloc HB.out.size (.cells #[.int .i64 0, .string ⟨#[]⟩, .int .i64 0, .slice none 0 0] 26))
          have HA5 := Lib.hid (hA.low (fun b hb => Nat.lt_of_lt_of_le hb (Nat.le_trans LT3.out hB.size)) ((Below.refl _ _).alloc (Nat.le_refl _) (.cells #[.int .i64 0, .string ⟨#[]⟩, .int .i64 0, .slice none 0 0] 26)))
          clear hA hB hb hcc hMr hmm2 hl
          go_wp2
          go_roundw
          case rel => exact ⟨i + 1, svs, by go_num, by omega, by rw [PE.out]; exact HA5.out, HX.out⟩
          case measure => simp [intOf]; omega
        | some u =>
          obtain ⟨ua, uc, hlk0, hua⟩ := hMr.fnd.look_some Tryz.underlying66 Tryz.underlying9 hl
          have hlk := hlk0 wr rfl
          unfold tv at hlk
          clear hlk0
          have PE := Lib.hid (pairsF_some hi hl)
          have hx : Below wr.heap.size wr (wr.alloc (.cells #[.int .i64 u.kind, .string u.name, .int .i64 u.n, .slice ua u.args.length uc] 26)) := (Below.refl _ _).alloc (Nat.le_refl _) _
          have u4 := B4.new wr (.int .i64 u.kind) (.string u.name) (.int .i64 u.n) (.slice ua u.args.length uc)
          have u0 := u4.c0
          have u1 := u4.c1
          have u2 := u4.c2
          have u3 := u4.c3
          have hsw : wo.heap.size ≤ wr.heap.size := hB.size
          have hSl : ∀ b, b < w.heap.size → b < wr.heap.size := fun b hb => Nat.lt_of_lt_of_le hb (Nat.le_trans LT3.out hB.size)
          have hx2 := hx.alloc hx.size (.cells #[.string ns[i], .int .i64 u.kind, .string u.name, .int .i64 u.n, .slice ua u.args.length uc] 56)
          have hA2 := hA.low hSl hx2
          have AP := Lib.hid (fun ty => bnd_append ty (e := (ns[i], u)) (b := wr.heap.size + 1) hA2 (fun b hb => Nat.lt_of_lt_of_le hb LT3.out) (by simp; omega) (alloc_new (by simp)) (hua.keep fun b hb => hx2.block b (hSl b hb)) (by have := PL.out; rw [List.length_take] at this; omega))
          have HX2 := Lib.hid (HB.out.trans (hx2.mono HB.out.size))
          have OL : Hid (∀ b, u9.ownBlock = some b → wo.heap.size ≤ b) := Lib.hid (fun b e => (hA.own.lt b e).1)
          generalize ns[i] = nm at *
          obtain ⟨v', w', hrun, hA', hg'⟩ := AP.out 32
          have HA' := Lib.hid hA'
          have HG' := Lib.hid hg'
          have HSW := Lib.hid hsw
          clear hA hB hb hcc hMr hmm2 hl u4 hx hx2 hA2 hSl hA' hg' hsw
          go_wp2_with (at_builtin; refine Lib.wpList_append_run _ rfl _ _ _ _ rfl _ _ rfl rfl _ _ hrun ?_)
          go_roundw
          case rel => exact ⟨i + 1, _, by go_num, by omega, by rw [PE.out]; exact HA'.out, HX2.out.grown HG'.out HX2.out.size (fun k e => OL.out k e)⟩
          case measure => simp [intOf]; omega
      · obtain rfl : i = ns.length := by omega
        rw [List.take_length] at HA
        clear hA hB
        go_wp2
        refine bodyPost_ret (v := .tuple #[u9, .bool true]) (by simp [results, Tryz.results11, go_sem]) rfl ?_
        rw [E.out]
        exact ⟨HB3.out.trans (HB.out.mono LT3.out), _, rfl, HA.out.bnd (fun b hb => Nat.lt_of_lt_of_le hb (Nat.le_trans LT3.out HB.out.size)) (Nat.le_trans (pairsF_len _ _) hfl)⟩

end Go.Proofs.YtofllmemmggapaaGreatDoor.Tp

/- The walk of peeled. (Printed by gen_mapeel.py.) -/
namespace Go.Proofs.YtofllmemmggapaaGreatDoor.Tp
open Go.RowKit Go.Sort

/-- sizes, under way -/
structure Pst (L : ByteArray) (but : List ByteArray) (d n : Nat) (t : Ty) : Prop where
  dd : t.depth ≤ d
  mm : Mk t
  z : t.size ≤ 1073741824
  b : n + d * (but.length + 1) ≤ 100000000000
theorem Pst.step {c : UInt8} (hc : Lx.lowerB c = true) {but : List ByteArray} {d n : Nat} {t : Ty} (h : Pst ⟨#[c]⟩ but d n t) (h5 : t.kind = 5) :
    ∃ d' b, d = d' + 1 ∧ t.args = [b] ∧ arg0T t = b ∧ Small b ∧ Small (.mk 1 (lname ⟨#[c]⟩ (nx (lname ⟨#[c]⟩) but n)) 0 []) ∧ nx (lname ⟨#[c]⟩) but n ≤ n + but.length ∧ n ≤ nx (lname ⟨#[c]⟩) but n ∧
      Pst ⟨#[c]⟩ but d' (nx (lname ⟨#[c]⟩) but n + 1) (PutT t.name (.mk 1 (lname ⟨#[c]⟩ (nx (lname ⟨#[c]⟩) but n)) 0 []) b) := by
  obtain ⟨b, hb, hb0⟩ := std_k5 h.mm.1 h5
  have hbm : b ∈ t.args := by rw [hb]; simp
  have hmb := mk_args h.mm b hbm
  have hsp := firstN_spec (lname ⟨#[c]⟩) (fun _ _ => lname_inj) but n
  obtain ⟨m, hm0⟩ : ∃ m, nx (lname ⟨#[c]⟩) but n = m := ⟨_, rfl⟩
  rw [show firstN (lname ⟨#[c]⟩) but (but.length + 1) n = m from hm0] at hsp
  obtain ⟨hd, hm, hz, hn⟩ := h
  have hdb := depth_arg _ hbm
  have hsb := size_arg _ hbm
  rw [t.depth_eq] at hd
  rw [t.size_eq] at hz
  obtain ⟨d', rfl⟩ : ∃ d', d = d' + 1 := ⟨d - 1, by omega⟩
  rw [Nat.add_mul] at hn
  have hx : LexN (lname ⟨#[c]⟩ m) := lname_lex c hc m (by omega)
  have hmv : Mk (.mk 1 (lname ⟨#[c]⟩ m) 0 []) := ⟨std_var _, lex_var hx⟩
  have hps := PutT_size t.name (.mk 1 (lname ⟨#[c]⟩ m) 0 []) b hmb.1 (std_var _)
  have hpd := PutT_depth t.name (.mk 1 (lname ⟨#[c]⟩ m) 0 []) b hmb.1 (std_var _)
  have e1 : (Ty.mk 1 (lname ⟨#[c]⟩ m) 0 []).size = 1 := rfl
  have e2 : (Ty.mk 1 (lname ⟨#[c]⟩ m) 0 []).depth = 1 := rfl
  rw [e1, Nat.mul_one] at hps
  rw [e2] at hpd
  have hmk := PutT_mk t.name (.mk 1 (lname ⟨#[c]⟩ m) 0 []) b hmb hmv (by omega) (by rw [e1]; omega)
  rw [hm0]
  exact ⟨d', b, rfl, hb, hb0, ⟨mk_good _ hmb, by omega⟩, ⟨mk_good _ hmv, by rw [e1]; omega⟩, hsp.2.1, hsp.1, by omega, hmk, by omega, by omega⟩
theorem peelF_step (L : ByteArray) (but : List ByteArray) (d n m : Nat) (t b : Ty) (h5 : t.kind = 5) (hb : arg0T t = b) (hm : nx (lname L) but n = m) :
    peelF L but (d + 1) n t = (lname L m :: (peelF L but d (m + 1) (PutT t.name (.mk 1 (lname L m) 0 []) b)).1, (peelF L but d (m + 1) (PutT t.name (.mk 1 (lname L m) 0 []) b)).2) := by
  rw [peelF, if_pos h5, hm, hb]
theorem peelF_end (L : ByteArray) (but : List ByteArray) (d n : Nat) (t : Ty) (h5 : t.kind ≠ 5) : peelF L but d n t = ([], t) := by
  cases d with
  | zero => rfl
  | succ d => rw [peelF, if_neg h5]

theorem lname_spell (L : ByteArray) (m : Nat) : L ++ bytes (Lib.itoa (m : Int)) = lname L m := by unfold lname; rw [itoa_dec]
theorem lname_size (m : Nat) (h : m ≤ 9223372036854775807) : (bytes (Lib.itoa (m : Int))).size ≤ 64 := by
  have := (xname_size m h).1
  unfold xname at this
  rw [ByteArray.size_append] at this
  omega

def Pb (S : Nat → Prop) (w wr : World) (v : Value) (b : Nat) : Prop := (S b ∨ w.heap.size + 2 ≤ b) ∧ b < wr.heap.size ∧ v.ownBlock ≠ some b
/-- the memory of peeled -/
structure PM (S : Nat → Prop) (w wr : World) (v : Value) (names : List ByteArray) (t : Ty) (a : Option Addr) (c : Nat) : Prop where
  hz : Below w.heap.size w wr
  size : w.heap.size + 2 ≤ wr.heap.size
  k4 : B4 wr w.heap.size (.int .i64 t.kind) (.string t.name) (.int .i64 t.n) (.slice a t.args.length c)
  q4 : B4 wr (w.heap.size + 1) (.int .i64 0) (.string ⟨#[]⟩) (.int .i64 0) (.slice none 0 0)
  row : wr.ownsRow (w.heap.size + 2) 9 1 v names.length (names.map Value.string)
  args : ArgsAt (Pb S w wr v) wr (.slice a t.args.length c) t.args
  hS : ∀ b, S b → b < w.heap.size
theorem PM.low {S : Nat → Prop} {w wr wr' : World} {v : Value} {names : List ByteArray} {t : Ty} {a : Option Addr} {c : Nat} (h : PM S w wr v names t a c) (hb : Below wr.heap.size wr wr') : PM S w wr' v names t a c :=
  ⟨h.hz.trans (hb.mono h.hz.size), Nat.le_trans h.size hb.size, h.k4.low hb, h.q4.low hb, own_keep4 h.row fun b e => hb.block b (h.row.lt b e).2, (h.args.keep fun b hb' => hb.block b hb'.2.1).mono fun _ hb' => ⟨hb'.1, Nat.lt_of_lt_of_le hb'.2.1 hb.size, hb'.2.2⟩, h.hS⟩
theorem PM.add {S : Nat → Prop} {w wr wr' : World} {v v' : Value} {names : List ByteArray} {t : Ty} {a : Option Addr} {c : Nat} (h : PM S w wr v names t a c) (nm : ByteArray) (ho : wr'.ownsRow (w.heap.size + 2) 9 1 v' (names.length + 1) (names.map Value.string ++ [.string nm])) (hg : wr.grownBy wr' v.ownBlock) (hat : ∀ b, v'.ownBlock = some b → v.ownBlock = some b ∨ wr.heap.size ≤ b) : PM S w wr' v' (names ++ [nm]) t a c := by
  have hs := h.size
  refine ⟨⟨hg.os.trans h.hz.os, hg.tape.trans h.hz.tape, hg.output.trans h.hz.output, Nat.le_trans h.hz.size hg.size, fun k hk => (hg.block k (by omega) (fun e => by have := (h.row.lt k e.symm).1; omega)).trans (h.hz.block k hk)⟩, Nat.le_trans hs hg.size, h.k4.grown hg (fun e => by have := (h.row.lt _ e).1; omega), h.q4.grown hg (fun e => by have := (h.row.lt _ e).1; omega), ?_, ?_, h.hS⟩
  · rw [List.length_append, List.map_append]; exact ho
  · refine (h.args.keep fun b hb' => hg.block b hb'.2.1 (fun e => hb'.2.2 e.symm)).mono fun b hb' => ⟨hb'.1, Nat.lt_of_lt_of_le hb'.2.1 hg.size, fun e => ?_⟩
    rcases hat b e with e2 | e2
    · exact hb'.2.2 e2
    · have := hb'.2.1; omega
theorem PM.put {S : Nat → Prop} {w wr wr' : World} {v : Value} {names : List ByteArray} {t y : Ty} {a a' : Option Addr} {c c' : Nat} (h : PM S w wr v names t a c) (hb : Below wr.heap.size wr wr') (hy : ArgsAt (New (Pb S w wr v) wr wr') wr' (.slice a' y.args.length c') y.args) :
    PM S w ((((wr'.setCell ⟨w.heap.size, 0, none⟩ (.int .i64 y.kind)).setCell ⟨w.heap.size, 1, none⟩ (.string y.name)).setCell ⟨w.heap.size, 2, none⟩ (.int .i64 y.n)).setCell ⟨w.heap.size, 3, none⟩ (.slice a' y.args.length c')) v names y a' c' := by
  have h2 := h.low hb
  have hs := h.size
  have off : ∀ b, b ≠ w.heap.size → ((((wr'.setCell ⟨w.heap.size, 0, none⟩ (.int .i64 y.kind)).setCell ⟨w.heap.size, 1, none⟩ (.string y.name)).setCell ⟨w.heap.size, 2, none⟩ (.int .i64 y.n)).setCell ⟨w.heap.size, 3, none⟩ (.slice a' y.args.length c')).heap[b]? = wr'.heap[b]? := fun b hb => by
    rw [Below.heap_setCell _ _ _ _ hb, Below.heap_setCell _ _ _ _ hb, Below.heap_setCell _ _ _ _ hb, Below.heap_setCell _ _ _ _ hb]
  have hsz : ((((wr'.setCell ⟨w.heap.size, 0, none⟩ (.int .i64 y.kind)).setCell ⟨w.heap.size, 1, none⟩ (.string y.name)).setCell ⟨w.heap.size, 2, none⟩ (.int .i64 y.n)).setCell ⟨w.heap.size, 3, none⟩ (.slice a' y.args.length c')).heap.size = wr'.heap.size := by simp
  refine ⟨h2.hz.set4 (Nat.le_refl _) _ _ _ _, by rw [hsz]; exact h2.size, B4.set4 h2.k4 _ _ _ _, (off _ (by omega)).trans h2.q4, own_keep4 h2.row fun b e => off b (by have := (h2.row.lt b e).1; omega), (hy.keep fun b hb' => off b ?_).mono fun b hb' => ⟨?_, ?_, ?_⟩, h.hS⟩
  · rcases hb' with hb' | hb'
    · rcases hb'.1 with hb1 | hb1
      · have := h.hS b hb1; omega
      · omega
    · have := hb'.1; omega
  · rcases hb' with hb' | hb'
    · exact hb'.1
    · have := hb'.1; exact .inr (by omega)
  · rw [hsz]
    rcases hb' with hb' | hb'
    · exact Nat.lt_of_lt_of_le hb'.2.1 hb.size
    · exact hb'.2
  · rcases hb' with hb' | hb'
    · exact hb'.2.2
    · intro e; have := (h.row.lt b e).2; have := hb'.1; omega

def PeelPost (S : Nat → Prop) (w : World) (r : List ByteArray × Ty) (e : Ending) (w' : World) : Prop :=
  Below w.heap.size w w' ∧ ∃ v a c, e = .returned (.tuple #[v, tv r.2 a c]) ∧ StrsAt (In w.heap.size w'.heap.size) w' v r.1 ∧ ArgsAt (New S w w') w' (.slice a r.2.args.length c) r.2.args
theorem PeelPost.drew {S : Nat → Prop} {w : World} {r : List ByteArray × Ty} {e : Ending} {w' : World} (h : PeelPost S w r e w') : PeelPost S w r e w'.drew := by
  obtain ⟨hb, v, a, c, he, h1, h2⟩ := h
  exact ⟨hb.drew, v, a, c, he, h1.keep (A := w') (B := w'.drew) fun _ _ => rfl, ArgsAt.keep (A := w') (B := w'.drew) (fun _ _ => rfl) h2⟩
theorem peel_fin {S : Nat → Prop} {w wr : World} {v : Value} {names : List ByteArray} {t : Ty} {a : Option Addr} {c : Nat} (h : PM S w wr v names t a c) (hn : names.length ≤ 1099511627776) :
    let W := ((((wr.setCell ⟨(w.heap.size + 1), 0, none⟩ (.int .i64 t.kind)).setCell ⟨(w.heap.size + 1), 1, none⟩ (.string t.name)).setCell ⟨(w.heap.size + 1), 2, none⟩ (.int .i64 t.n)).setCell ⟨(w.heap.size + 1), 3, none⟩ (.slice a t.args.length c))
    B4 W (w.heap.size + 1) (.int .i64 t.kind) (.string t.name) (.int .i64 t.n) (.slice a t.args.length c) ∧ PeelPost S w (names, t) (.returned (.tuple #[v, tv t a c])) W := by
  intro W
  have off : ∀ b, b ≠ w.heap.size + 1 → W.heap[b]? = wr.heap[b]? := fun b hb => by
    show ((((wr.setCell ⟨(w.heap.size + 1), 0, none⟩ (.int .i64 t.kind)).setCell ⟨(w.heap.size + 1), 1, none⟩ (.string t.name)).setCell ⟨(w.heap.size + 1), 2, none⟩ (.int .i64 t.n)).setCell ⟨(w.heap.size + 1), 3, none⟩ (.slice a t.args.length c)).heap[b]? = _
    rw [Below.heap_setCell _ _ _ _ hb, Below.heap_setCell _ _ _ _ hb, Below.heap_setCell _ _ _ _ hb, Below.heap_setCell _ _ _ _ hb]
  have hsz : W.heap.size = wr.heap.size := by
    show ((((wr.setCell ⟨(w.heap.size + 1), 0, none⟩ (.int .i64 t.kind)).setCell ⟨(w.heap.size + 1), 1, none⟩ (.string t.name)).setCell ⟨(w.heap.size + 1), 2, none⟩ (.int .i64 t.n)).setCell ⟨(w.heap.size + 1), 3, none⟩ (.slice a t.args.length c)).heap.size = _
    simp
  have ho : W.ownsRow (w.heap.size + 2) 9 1 v names.length (names.map Value.string) := own_keep4 h.row fun b e => off b (by have := (h.row.lt b e).1; omega)
  refine ⟨B4.set4 h.q4 _ _ _ _, h.hz.set4 (by omega) _ _ _ _, v, a, c, rfl, (StrsAt.of_own ho hn).mono fun b e => ⟨by have := (ho.lt b e).1; omega, (ho.lt b e).2⟩, (h.args.keep fun b hb => off b ?_).mono fun b hb => ?_⟩
  · rcases hb.1 with hb1 | hb1
    · have := h.hS b hb1; omega
    · omega
  · rcases hb.1 with hb1 | hb1
    · exact .inl hb1
    · exact .inr ⟨by omega, by rw [hsz]; exact hb.2.1⟩

set_option maxRecDepth 100000 in
set_option maxHeartbeats 6400000 in
theorem peeled_any (c : UInt8) (hc : Lx.lowerB c = true) (but : List ByteArray) (t : Ty) (S : Nat → Prop) (a : Option Addr) (cc : Nat) (bv : Value) (w : World) (hA : ArgsAt S w (.slice a t.args.length cc) t.args) (hS : ∀ b, S b → b < w.heap.size) (hbv : StrsLow w bv but) (hP : Pst ⟨#[c]⟩ but t.depth 0 t) (hT : Tab w) :
    Calls Tryz.prog 38 #[tv t a cc, .string ⟨#[c]⟩, bv] w (PeelPost S w (PeelT ⟨#[c]⟩ but t)) := by
  have hz1 := (Below.refl w.heap.size w).alloc (Nat.le_refl _) (.cells #[.int .i64 t.kind, .string t.name, .int .i64 t.n, .slice a t.args.length cc] 26)
  have hz2 := hz1.alloc hz1.size (.cells #[.int .i64 0, .string ⟨#[]⟩, .int .i64 0, .slice none 0 0] 26)
  have k4 := (B4.new w (.int .i64 t.kind) (.string t.name) (.int .i64 t.n) (.slice a t.args.length cc)).low ((Below.refl _ _).alloc (Nat.le_refl _) (.cells #[.int .i64 0, .string ⟨#[]⟩, .int .i64 0, .slice none 0 0] 26))
  have q4 := B4.new (w.alloc (.cells #[.int .i64 t.kind, .string t.name, .int .i64 t.n, .slice a t.args.length cc] 26)) (.int .i64 0) (.string ⟨#[]⟩) (.int .i64 0) (.slice none 0 0)
  rw [show (w.alloc (.cells #[.int .i64 t.kind, .string t.name, .int .i64 t.n, .slice a t.args.length cc] 26)).heap.size = w.heap.size + 1 from by simp] at q4
  have M0 : Hid (PM S w ((w.alloc (.cells #[.int .i64 t.kind, .string t.name, .int .i64 t.n, .slice a t.args.length cc] 26)).alloc (.cells #[.int .i64 0, .string ⟨#[]⟩, .int .i64 0, .slice none 0 0] 26)) (.slice none 0 0) [] t a cc) := Lib.hid ⟨hz2, by simp, k4, q4, World.ownsRow_nil _ _ _ _, (hA.keep fun b hb => hz2.block b (hS b hb)).mono fun b hb => ⟨.inl hb, by have := hS b hb; simp; omega, by simp [Value.ownBlock]⟩, hS⟩
  have HP := Lib.hid hP
  have CI := Lib.hid (fun (k : Nat) (hk : k ≤ 4611686018427387904) (W : World) (h : Below w.heap.size w W) => itoa_any (k : Int) (by omega) (by omega) W (tab_below hT h))
  have CC := Lib.hid (fun (k : Nat) (W : World) (h : Below w.heap.size w W) => contains_any (hbv.keep fun b hb => h.block b hb) (lname ⟨#[c]⟩ k))
  have CPUT := Lib.hid (fun (W : World) (h : Below w.heap.size w W) (nm : ByteArray) (u y : Ty) (S' : Nat → Prop) (a' ua : Option Addr) (c' uc : Nat) (hs : Small y) (hu : Small u) (R : ArgsAt S' W (.slice a' y.args.length c') y.args) (U : ArgsAt S' W (.slice ua u.args.length uc) u.args) (hS : ∀ b, S' b → b < W.heap.size) => put_any nm u y S' a' ua c' uc W hs.1 hu.1 hs.2 hu.2 R U hS (tab_below hT h))
  have BL : Hid (but.length ≤ 100000000000 ∧ t.depth ≤ 100000000000) := Lib.hid (by have hbd := hP.b; rw [Nat.zero_add] at hbd; have h1 : 1 ≤ t.depth := depth_pos t; constructor; exact Nat.le_trans (Nat.le_trans (Nat.le_succ _) (Nat.le_mul_of_pos_left _ h1)) hbd; exact Nat.le_trans (Nat.le_mul_of_pos_right _ (Nat.succ_pos _)) hbd)
  obtain ⟨ba, bc, rfl, _⟩ := id hbv
  obtain ⟨i0, hi0, hzz0, hzz1, hzz3⟩ := info_parts infoStr
  unfold tv
  clear hA hS hbv hP hT hz1 hz2 k4 q4
  have c0 := M0.out.k4.c0
  go_enter Tryz.func38, Tryz.ntmps38
  go_wp2
  go_loopg [6, 8] t.depth (fun d nv iv wr => ∃ (n : Nat) (names : List ByteArray) (x : Ty) (xa : Option Addr) (xc : Nat), iv = .int .i64 n ∧ PeelT ⟨#[c]⟩ but t = (names ++ (peelF ⟨#[c]⟩ but d n x).1, (peelF ⟨#[c]⟩ but d n x).2) ∧ Pst ⟨#[c]⟩ but d n x ∧ names.length + d ≤ t.depth ∧ PM S w wr nv names x xa xc)
  case atStart => exact ⟨0, [], t, a, cc, rfl, rfl, HP.out, by simp, M0.out⟩
  case round =>
    clear M0 HP c0
    obtain ⟨n, names, x, xa, xc, rfl, hE, hP, hln, hM⟩ := hrel
    have HE := Lib.hid hE
    have HPS := Lib.hid hP
    have HM := Lib.hid hM
    have HLN := Lib.hid hln
    have c0 := hM.k4.c0
    have c1 := hM.k4.c1
    have c2 := hM.k4.c2
    have c3 := hM.k4.c3
    obtain ⟨va, vcap, hvv⟩ := own_form hM.row
    subst hvv
    cases h5 : (x.kind == 5) with
    | false =>
      have E := Lib.hid (hE.trans (by rw [peelF_end _ _ _ _ _ (show x.kind ≠ 5 by simpa using h5), List.append_nil]))
      have q0 := hM.q4.fr 0
      have q1 := hM.q4.fr 1
      have q2 := hM.q4.fr 2
      have q3 := hM.q4.fr 3
      have z0 := hM.q4.c0
      have z1 := hM.q4.c1
      have z2 := hM.q4.c2
      have z3 := hM.q4.c3
      clear hE hP hln hM
      go_wp2
      go_region
      all_goals
        go_wp2
        obtain ⟨q5, hF⟩ := peel_fin HM.out (by have := HLN.out; have := BL.out.2; omega)
        refine bodyPost_ret (v := .tuple #[.slice va names.length vcap, tv x xa xc]) (by simp [results, Tryz.results38, go_sem, tv, q5.c0, q5.c1, q5.c2, q5.c3]) rfl ?_
        rw [E.out]
        exact hF.drew
    | true =>
      obtain ⟨d', b0, rfl, hb1, hb0, hsb, hsv, hmle, hnm, hP'⟩ := hP.step hc (show x.kind = 5 by simpa using h5)
      have E := Lib.hid (fun (m : Nat) (hm : nx (lname ⟨#[c]⟩) but n = m) => peelF_step ⟨#[c]⟩ but d' n m x b0 (show x.kind = 5 by simpa using h5) hb0 hm)
      have SB := Lib.hid hsb
      have SV := Lib.hid hsv
      have HB1 := Lib.hid hb1
      have HP2 := Lib.hid hP'
      have HNL : Hid (n + but.length ≤ 200000000000) := Lib.hid (by have := HPS.out.b; have := BL.out.1; have h2 : n ≤ n + (d' + 1) * (but.length + 1) := Nat.le_add_right _ _; omega)
      have hn1 : n ≤ 200000000000 := by have := HNL.out; omega
      have C1 := Lib.hid (CI.out n (by omega) wr hM.hz)
      have XS := Lib.hid (lname_spell ⟨#[c]⟩ n)
      have hil := lname_size n (by omega)
      clear hE hP hln hM hb1 hb0 hsb hsv hmle hnm hP'
      go_wp2_with fail
      refine C1.out.mono ?_
      rintro e w1 ⟨rfl, hb1⟩
      have M1 := Lib.hid (HM.out.low hb1)
      clear hb1 c0 c1 c2 c3
      obtain ⟨wo, hwo⟩ : ∃ wo : World, wo = w1 := ⟨_, rfl⟩
      subst hwo
      go_wp2
      rw [XS.out]
      go_loopg [8, 9] (but.length + 1) (fun gk iv sv wr => ∃ m : Nat, n ≤ m ∧ m ≤ n + but.length ∧ gk = n + but.length + 1 - m ∧ iv = .int .i64 ((m : Int) + 1) ∧ sv = .string (lname ⟨#[c]⟩ m) ∧ (∀ j, n ≤ j → j < m → hasN but (lname ⟨#[c]⟩ j) = true) ∧ PM S w wr (.slice va names.length vcap) names x xa xc)
      case atStart => exact ⟨n, Nat.le_refl _, by omega, by omega, rfl, rfl, fun j hj hj' => by omega, M1.out⟩
      case round =>
        clear M1 XS hil
        obtain ⟨m, hm1, hm2, rfl, rfl, rfl, hall, hM⟩ := hrel
        have CC1 := CC.out m wr hM.hz
        rw [contains_hasN] at CC1
        have HM := Lib.hid hM
        have hml : m ≤ 200000000000 := by have := HNL.out; omega
        cases hn : hasN but (lname ⟨#[c]⟩ m) with
        | true =>
          rw [hn] at CC1
          have hpg : m - n + 1 ≤ but.length := pigeon (lname ⟨#[c]⟩) (fun _ _ => lname_inj) (m - n + 1) but n fun j hj => by
            refine (hasN_iff _ _).1 ?_
            rcases Nat.lt_or_ge (n + j) m with h | h
            · exact hall (n + j) (by omega) h
            · rw [show n + j = m by omega]; exact hn
          have HA2 := Lib.hid (show ∀ j, n ≤ j → j < m + 1 → hasN but (lname ⟨#[c]⟩ j) = true from fun j h1 h2 => by
            rcases Nat.lt_or_ge j m with h | h
            · exact hall j h1 h
            · rw [show j = m by omega]; exact hn)
          have C1H := Lib.hid CC1
          have CI2 : Hid (Calls Tryz.prog 47 #[.int .i64 ((m : Int) + 1)] wr _) := Lib.hid (CI.out (m + 1) (by omega) _ hM.hz)
          have XS2 : Hid ((⟨#[c]⟩ : ByteArray) ++ bytes (Lib.itoa ((m : Int) + 1)) = lname ⟨#[c]⟩ (m + 1)) := Lib.hid (lname_spell ⟨#[c]⟩ (m + 1))
          have hil : (bytes (Lib.itoa ((m : Int) + 1))).size ≤ 64 := lname_size (m + 1) (by omega)
          clear hn hall hM CC1
          generalize lname ⟨#[c]⟩ m = xm at *
          go_wp2_with fail
          refine C1H.out.mono ?_
          rintro e w' ⟨rfl, rfl⟩
          go_wp2_with fail
          refine CI2.out.mono ?_
          rintro e W4 ⟨rfl, hb4⟩
          have M4 := Lib.hid (HM.out.low hb4)
          clear hb4
          go_wp2
          go_roundg (n + but.length + 1 - (m + 1))
          case measure => omega
          case rel => exact ⟨m + 1, by omega, by omega, rfl, by go_num, by rw [← XS2.out], HA2.out, M4.out⟩
        | false =>
          rw [hn] at CC1
          have EN : Hid (nx (lname ⟨#[c]⟩) but n = m) := Lib.hid (firstN_eq (lname ⟨#[c]⟩) but (but.length + 1) n m hm1 (by omega) hall hn)
          have E2 := Lib.hid (E.out m EN.out)
          rw [EN.out] at SV HP2
          have C1H := Lib.hid CC1
          have hnl : names.length ≤ 100000000000 := by have := HLN.out; have := BL.out.2; omega
          have MA := HM.out.low ((Below.refl wr.heap.size wr).alloc (Nat.le_refl _) (.cells #[.string (lname ⟨#[c]⟩ m)] 9))
          have HMA := Lib.hid MA
          have OW := Lib.hid MA.row
          have SZ := Lib.hid HM.out.size
          clear hn hall hM CC1 MA EN E
          generalize hxm : lname ⟨#[c]⟩ m = xm at *
          clear hxm
          go_wp2_with fail
          refine C1H.out.mono ?_
          rintro e w' ⟨rfl, rfl⟩
          go_wp2_with (at_builtin; go_loud (refine wpList_append_lies _ rfl _ _ _ rfl (w.heap.size + 2) 9 i0 _ 1 16 Tryz.underlying22 hi0 hzz0 hzz1 hzz3 rfl (by omega) (.slice va names.length vcap) names.length (names.map Value.string) rfl OW.out ⟨wr.heap.size, 0, none⟩ 1 1 [.string xm] rfl rfl (World.news_of_block (cs := #[.string xm]) (t := 9) (fr := (0, 0)) (heap_alloc_new wr _)) (by simp [Value.oneCell']) (by omega) (by unfold maxLen; omega) (by omega) (by have := SZ.out; simp; omega) (wr.heap.size + 1) (by simp) ?_; intro gg cap w7 hown7 hgrow7 hat7 hlt7))
          have M7 := Lib.hid (HMA.out.add (v' := .slice (some ⟨gg, 0, none⟩) (names.length + 1) cap) xm hown7 hgrow7 (fun b e => by
            simp only [Value.ownBlock, Option.some.injEq] at e
            subst e
            rcases hat7 with e | e
            · exact .inl e
            · right; subst e; simp))
          have M7d := M7.out.low (Below.refl w7.heap.size w7).drew
          have M7H := Lib.hid M7d
          obtain ⟨bb, off, ax, cx, rfl, hbS, hf4, hs0⟩ := arg0 M7d.args HB1.out
          obtain ⟨f0, f1, f2, f3⟩ := hf4
          have c1 := M7d.k4.c1
          have c3 := M7d.k4.c3
          rw [show x.args.length = 1 by rw [HB1.out]; rfl] at c3
          have CP : Hid (Calls Tryz.prog 60 #[.agg #[.int .i64 b0.kind, .string b0.name, .int .i64 b0.n, .slice ax b0.args.length cx], .string x.name, .agg #[.int .i64 1, .string xm, .int .i64 0, .slice none 0 0]] w7.drew (TP (Pb S w w7.drew (.slice (some ⟨gg, 0, none⟩) (names.length + 1) cap)) (PutT x.name (.mk 1 xm 0 []) b0) w7.drew)) := Lib.hid (CPUT.out w7.drew M7d.hz x.name (.mk 1 xm 0 []) b0 _ ax none cx 0 SB.out SV.out hs0 (.nil _ _) (fun b hb => hb.2.1))
          have HY := Lib.hid (rfl : PutT x.name (.mk 1 xm 0 []) b0 = PutT x.name (.mk 1 xm 0 []) b0)
          have LE : Hid (w.heap.size + 2 ≤ w7.heap.size) := Lib.hid M7.out.size
          clear hown7 hgrow7 hat7 hlt7 M7d hbS hs0
          generalize hy : PutT x.name (.mk 1 xm 0 []) b0 = y at *
          clear hy
          go_upto_region 9 with fail
          go_region_law (go_simp; go_at_call 60; (with_reducible refine CP.out.mono ?_); rintro e w8 ⟨a8, c8, rfl, hA8, hb8⟩; have k8 := (M7H.out.low hb8).k4; have g0 := k8.c0; have g1 := k8.c1; have g2 := k8.c2; have g3 := k8.c3; have r0 := k8.fr 0; have r1 := k8.fr 1; have r2 := k8.fr 2; have r3 := k8.fr 3; have HA8 := Lib.hid hA8; have HB8 := Lib.hid hb8; clear hA8 hb8 k8; unfold tv)
          all_goals
            have M8 := Lib.hid (M7H.out.put HB8.out HA8.out)
            go_wp2
            go_roundg d'
            case measure => omega
            case rel => exact ⟨m + 1, names ++ [xm], y, a8, c8, by go_num, by rw [HE.out, E2.out]; simp, HP2.out, by have := HLN.out; simp; omega, by simpa using M8.out⟩

end Go.Proofs.YtofllmemmggapaaGreatDoor.Tp

/- The walk of law 03's told. -/
namespace Go.Proofs.YtofllmemmggapaaGreatDoor.Tp
open Go.RowKit Go.Sort

theorem canonS_len {t : Ty} (h : Small t) : (canonS t).length ≤ 80 * t.size := by
  have hs := h.2
  have KP := num_keeps t.depth (freeT t) t 0 (Nat.le_refl _) h.1 (by have := freeT_len t; omega) (by have := canon_size t hs; omega)
  have hpl := printT_len (canonT t) KP.2.2.2.2.1
  have hps : (canonT t).size = t.size := KP.2.2.2.1
  unfold canonS
  omega

/-- bindings as a text -/
def toldS (l : Fnd) : ByteArray := l.foldl (fun s e => s ++ ⟨#[59]⟩ ++ e.1 ++ ⟨#[61]⟩ ++ bytes (canonS e.2)) ⟨#[121, 101, 115]⟩
def toldO : Option Fnd → ByteArray
  | none => ⟨#[110, 111]⟩
  | some l => toldS l
/-- what is told is no long text -/
structure TLen (l : Fnd) : Prop where
  n : l.length ≤ 4000
  at_ : ∀ e ∈ l, e.1.size ≤ 1000 ∧ Small e.2 ∧ e.2.size ≤ 4000
theorem toldS_take {l : Fnd} {i : Nat} (h : i < l.length) : toldS (l.take (i + 1)) = toldS (l.take i) ++ ⟨#[59]⟩ ++ l[i].1 ++ ⟨#[61]⟩ ++ bytes (canonS l[i].2) := by
  unfold toldS
  rw [List.take_add_one, List.getElem?_eq_getElem h, List.foldl_append]; rfl
theorem toldS_len {l : Fnd} (h : TLen l) : ∀ i, i ≤ l.length → (toldS (l.take i)).size ≤ 3 + i * 400000 := by
  intro i
  induction i with
  | zero => intro _; simp [toldS]; decide
  | succ i ih =>
    intro hi
    have h1 := ih (by omega)
    obtain ⟨h2, h3, h4⟩ := h.at_ l[i] (List.getElem_mem hi)
    have h5 := canonS_len h3
    rw [toldS_take hi]
    simp only [ByteArray.size_append]
    rw [bytes_size]
    have e1 : (⟨#[59]⟩ : ByteArray).size = 1 := rfl
    have e2 : (⟨#[61]⟩ : ByteArray).size = 1 := rfl
    omega

set_option maxRecDepth 100000 in
set_option maxHeartbeats 3200000 in
theorem told_no (v : Value) (w : World) : Calls Tryz.prog 13 #[v, .bool false] w fun e w' => e = .returned (.string ⟨#[110, 111]⟩) ∧ Below w.heap.size w w' := by
  go_enter Tryz.func13, Tryz.ntmps13
  go_wp2
  go_ret
  exact ⟨rfl, .refl _ _⟩

set_option maxRecDepth 100000 in
set_option maxHeartbeats 3200000 in
theorem told_yes (l : Fnd) (v : Value) (w : World) (hB : BndAt (fun b => b < w.heap.size) w v l) (hl : TLen l) (hT : Tab w) : Calls Tryz.prog 13 #[v, .bool true] w fun e w' => e = .returned (.string (toldS l)) ∧ Below w.heap.size w w' := by
  obtain ⟨a, cap, rfl, _, hc⟩ := hB
  have HC := Lib.hid hc
  have HL := Lib.hid hl
  have HT := Lib.hid hT
  have hln := hl.n
  clear hc hl hT
  go_enter Tryz.func13, Tryz.ntmps13
  go_wp2
  go_loopw [5, 6] (fun sv iv wr => ∃ i : Nat, iv = .int .i64 i ∧ i ≤ l.length ∧ sv = .string (toldS (l.take i)) ∧ Below w.heap.size w wr) (fun _ iv _ => l.length - (intOf iv).toNat)
  case atStart => exact ⟨0, rfl, Nat.zero_le _, rfl, .refl _ _⟩
  case round =>
    obtain ⟨i, rfl, hil, rfl, hB⟩ := hrel
    have HB := Lib.hid hB
    by_cases hi : i < l.length
    · have z0 : (0 : Int) ≤ (i : Int) := by omega
      have z1 : (i : Int) < (l.length : Int) := by omega
      obtain ⟨b, off, rfl, hb, hcc⟩ := HC.out.resolve_left (by intro e; rw [e] at hi; simp at hi)
      obtain ⟨h0, a', c', ⟨h1, h2, h3, h4⟩, hA⟩ := hcc i hi
      have kb := hB.block b hb
      have k0 := later_cell ((World.cell?_of_block kb).trans h0)
      have k1 := later_cell ((World.cell?_of_block kb).trans h1)
      have k2 := later_cell ((World.cell?_of_block kb).trans h2)
      have k3 := later_cell ((World.cell?_of_block kb).trans h3)
      have k4 := later_cell ((World.cell?_of_block kb).trans h4)
      obtain ⟨s1, s2, s3⟩ := HL.out.at_ l[i] (List.getElem_mem hi)
      have hat : AtW l[i].2 a' c' wr := (hA.keep fun b hb => hB.block b hb).mono fun b hb => Nat.lt_of_lt_of_le hb hB.size
      have DX := Lib.hid (fun p => later_of (canon_h (hat.low (later_below wr p)) s2 (tab_below HT.out (HB.out.trans ((later_below wr p).mono HB.out.size)))))
      have TS := Lib.hid (toldS_take hi)
      have y1 : (toldS (l.take i)).size ≤ 9000000000 := by have := toldS_len HL.out i hil; have := HL.out.n; omega
      have y2 : (bytes (canonS l[i].2)).size ≤ 400000 := by have := canonS_len s2; rw [bytes_size]; omega
      clear hcc h0 h1 h2 h3 h4 kb hA hat hB s2 s3 hb
      unfold StrPost at DX
      generalize toldS (l.take i) = sx at *
      generalize bytes (canonS l[i].2) = cx at *
      generalize l[i].2 = x at *
      generalize l[i].1 = nm at *
      go_wp2
      refine wp_region_later (by kernel_rfl) (by kernel_rfl) ?_
      repeat (go_big_quiet_step ((with_reducible exact DX.out _)))
      refine wpQuiet_nil ?_
      intro _ hw'
      obtain ⟨pq, hw''⟩ := hw'
      subst hw''
      go_wp2
      go_roundw
      case rel => exact ⟨i + 1, by go_num, by omega, by rw [TS.out], HB.out.trans ((later_below _ _).mono HB.out.size)⟩
      case measure => simp [intOf]; omega
    · obtain rfl : i = l.length := by omega
      have E : Hid (toldS (l.take l.length) = toldS l) := Lib.hid (by rw [List.take_length])
      clear hB
      go_wp2
      go_ret
      exact ⟨by rw [← E.out]; rfl, HB.out⟩

end Go.Proofs.YtofllmemmggapaaGreatDoor.Tp

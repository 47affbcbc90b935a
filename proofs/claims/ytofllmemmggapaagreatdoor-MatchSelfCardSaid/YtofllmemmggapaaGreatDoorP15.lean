/- Texts laid together: TyPrintD. -/
import Derived.Test.YtofllmemmggapaaGreatDoorP07
import Derived.Test.YtofllmemmggapaaGreatDoorP11
import Derived.Deep.RegionHeld3
import Derived.Laws.OwnMore

/- The walk of Print: words with arguments. -/
namespace Go.Proofs.YtofllmemmggapaaGreatDoor.Tp
open Go.RowKit Go.Sort

/-- an argument's text -/
def clT (x : Ty) : List UInt8 := paren x.atomic (printT x)
/-- the words, with i arguments -/
def wordsT (t : Ty) (i : Nat) : List (List UInt8) := t.name.data.toList :: (t.args.take i).map clT

theorem print_k3 (t : Ty) (hk : t.kind = 3) : printT t = t.name.data.toList ++ (t.args.map clT).flatMap (fun x => 32 :: x) := by
  rw [printT_eq, hk]
  show t.name.data.toList ++ (t.args.zip (t.args.map printT)).flatMap (fun x => 32 :: paren x.1.atomic x.2) = _
  congr 1
  induction t.args with
  | nil => rfl
  | cons a l ih => simp only [List.map_cons, List.zip_cons_cons, List.flatMap_cons]; rw [ih]; rfl

theorem join_words (t : Ty) (hk : t.kind = 3) : Lib.join (wordsT t t.args.length) [32] = printT t := by
  unfold wordsT
  rw [List.take_length, Lib.join_cons, print_k3 t hk, Lib.joinTail, List.flatMap_def]
  rfl

theorem wordsT_len (t : Ty) (i : Nat) (h : i ≤ t.args.length) : (wordsT t i).length = i + 1 := by simp [wordsT, Nat.min_eq_left h]
theorem wordsT_add (t : Ty) (i : Nat) (h : i < t.args.length) : wordsT t (i + 1) = wordsT t i ++ [clT t.args[i]] := by
  unfold wordsT
  rw [List.take_succ_eq_append_getElem h, List.map_append]; rfl
theorem clT_le (t : Ty) (hk : t.kind = 3) (i : Nat) (h : i < t.args.length) : (clT t.args[i]).length + 1 + t.args.length ≤ (printT t).length + 1 := by
  rw [print_k3 t hk, List.length_append]
  generalize t.args = l at *
  have : (clT l[i]).length + l.length ≤ ((l.map clT).flatMap (fun x => 32 :: x)).length := by
    induction l generalizing i with
    | nil => simp at h
    | cons a l ih =>
      simp only [List.map_cons, List.flatMap_cons, List.length_append, List.length_cons]
      cases i with
      | zero =>
        have : l.length ≤ ((l.map clT).flatMap (fun x => 32 :: x)).length := by
          clear ih
          induction l with
          | nil => simp
          | cons b l ih => simp only [List.map_cons, List.flatMap_cons, List.length_append, List.length_cons]; have := ih (by simp); omega
        simp only [List.getElem_cons_zero]; omega
      | succ i => have := ih i (by simpa using h); simp only [List.getElem_cons_succ]; omega
  omega
theorem args_le (t : Ty) (hk : t.kind = 3) : t.args.length ≤ (printT t).length := by
  rw [print_k3 t hk, List.length_append]
  induction t.args with
  | nil => simp
  | cons b l ih => simp only [List.map_cons, List.flatMap_cons, List.length_append, List.length_cons] at *; omega

theorem own_words {w : World} {lo : Nat} {v : Value} {n : Nat} {acc : List (List UInt8)} (h : w.ownsRow lo 9 1 v n (strCells acc)) (h0 : 0 < n) :
    ∃ g cap, v = .slice (some ⟨g, 0, none⟩) n cap ∧ lo ≤ g ∧ g < w.heap.size ∧ n ≤ cap ∧ ∀ (j : Nat) x, (acc.map bytes)[j]? = some x → w.cell? ⟨g, j, none⟩ = some (.string x) := by
  rcases h.2 with ⟨rfl, e⟩ | ⟨g, cap, cur, rfl, hb, hg, h1, h2, h3, h4⟩
  · omega
  · refine ⟨g, cap, rfl, hb, (Array.getElem?_eq_some_iff.1 hg).1, h1, fun i x hi => ?_⟩
    rw [List.getElem?_map] at hi
    cases ha : acc[i]? with
    | none => rw [ha] at hi; cases hi
    | some y =>
      rw [ha] at hi
      simp only [Option.map_some, Option.some.injEq] at hi
      subst hi
      have hc := h.cells (g := g) rfl i (.string (bytes y)) (by unfold strCells; rw [List.getElem?_map, ha]; rfl)
      have hadd : ∀ j, (⟨g, 0, none⟩ : Addr).add j = ⟨g, j, none⟩ := fun j => by unfold Addr.add; split <;> simp_all
      rw [hadd] at hc
      exact hc

set_option maxRecDepth 100000 in
set_option maxHeartbeats 3200000 in
theorem print_con (t : Ty) (hk : t.kind = 3) (ih : ∀ u ∈ t.args, PrintSaid u) : PrintSaid t := by
  intro S a c w hA hS hw hl ht
  have hz := (Below.refl w.heap.size w).alloc (Nat.le_refl _) (.cells #[.int .i64 t.kind, .string t.name, .int .i64 t.n, .slice a t.args.length c] 26)
  have hwf := (wf_iff t).1 hw
  have b4 := B4.new w (.int .i64 t.kind) (.string t.name) (.int .i64 t.n) (.slice a t.args.length c)
  have c0 := b4.c0
  have c1 := b4.c1
  have c3 := b4.c3
  have hal := args_le t hk
  have hn1 : t.args.length ≤ 1099511627776 := by omega
  have OW0 := Lib.hid (World.ownsRow_lit (base := w.heap.size + 1) (size := 1) (e := 9) (w.alloc (.cells #[.int .i64 t.kind, .string t.name, .int .i64 t.n, .slice a t.args.length c] 26)) #[.string t.name] 1 (by simp) (by unfold maxLen; omega) (by simp))
  have G0 := Lib.hid (hz.alloc hz.size (.cells #[.string t.name] 9))
  have CC := Lib.hid (fun (i : Nat) (hi : i < t.args.length) (a' : Option Addr) (c' : Nat) (W : World) (hA' : ArgsAt S W (.slice a' t.args[i].args.length c') t.args[i].args) (h : Below w.heap.size w W) =>
    closed_any t.args[i] (ih _ (List.getElem_mem hi)) S a' c' W hA' (fun b hb => Nat.lt_of_lt_of_le (hS b hb) h.size) (hwf.2 _ (List.getElem_mem hi)) (by have h1 := clT_le t hk i hi; have h2 : (printT t.args[i]).length ≤ (clT t.args[i]).length := (by unfold clT paren; split <;> simp; omega); omega) (fun w' h' => tab_below ht (h.trans (h'.mono h.size))) t.args[i].atomic)
  have HA := Lib.hid hA
  have HS := Lib.hid hS
  have HL := Lib.hid hl
  have HK := Lib.hid hk
  unfold tv
  rw [hk] at c0 c1 c3 OW0 G0 ⊢
  clear hA hw hl ht hz hwf hS b4 ih hk hal
  go_enter Tryz.func26, Tryz.ntmps26
  go_wp2
  go_loopw [3, 24] (fun wv iv wr => ∃ i : Nat, iv = .int .i64 i ∧ i ≤ t.args.length ∧ wr.ownsRow (w.heap.size + 1) 9 1 wv (i + 1) (strCells (wordsT t i)) ∧ Below w.heap.size w wr ∧ w.heap.size + 2 ≤ wr.heap.size) (fun _ iv _ => t.args.length - (intOf iv).toNat)
  case atStart => exact ⟨0, rfl, Nat.zero_le _, by simpa [wordsT, strCells, bytes] using OW0.out, G0.out, by simp⟩
  case round =>
    clear OW0 G0 c0 c1 c3
    obtain ⟨i, rfl, hi, hO, hB, hsz⟩ := hrel
    by_cases hlt : i < t.args.length
    · have z0 : (0 : Int) ≤ (i : Int) := by omega
      have z1 : (i : Int) < (t.args.length : Int) := by omega
      obtain ⟨b, off, a', c', rfl, hb, hf, hs⟩ := HA.out.at_ hlt
      have hbl := HS.out b hb
      obtain ⟨f0, f1, f2, f3⟩ := hf.keep (hB.block b hbl)
      have HZ := Lib.hid (hB.alloc (by omega) (.cells #[.int .i64 t.args[i].kind, .string t.args[i].name, .int .i64 t.args[i].n, .slice a' t.args[i].args.length c'] 26))
      have HZ0 := Lib.hid ((Below.refl (wr.alloc (.cells #[.int .i64 t.args[i].kind, .string t.args[i].name, .int .i64 t.args[i].n, .slice a' t.args[i].args.length c'] 26)).heap.size (wr.alloc (.cells #[.int .i64 t.args[i].kind, .string t.args[i].name, .int .i64 t.args[i].n, .slice a' t.args[i].args.length c'] 26))))
      have k4 := B4.new wr (.int .i64 t.args[i].kind) (.string t.args[i].name) (.int .i64 t.args[i].n) (.slice a' t.args[i].args.length c')
      have K4 := Lib.hid k4
      have C1 := Lib.hid (fun (W : World) => atomic_any t.args[i] W a' c')
      have C2 := Lib.hid (fun (W : World) (h : Below w.heap.size w W) => CC.out i hlt a' c' W (hs.keep (fun b hb => h.block b (HS.out b hb))) h)
      have OW := Lib.hid hO
      have HB := Lib.hid hB
      have WA := Lib.hid (wordsT_add t i hlt)
      have HW := Lib.hid (wordsT_len t i (by omega))
      have hcl := clT_le t HK.out i hlt
      have hcs : (bytes (clT t.args[i])).size ≤ 1099511627776 := by rw [bytes_size]; have := HL.out; omega
      clear hO hB hs hf hcl k4
      have OWL := Lib.hid (fun (w1 w2 : World) (h1 : Below (wr.alloc (.cells #[.int .i64 t.args[i].kind, .string t.args[i].name, .int .i64 t.args[i].n, .slice a' t.args[i].args.length c'] 26)).drew.heap.size (wr.alloc (.cells #[.int .i64 t.args[i].kind, .string t.args[i].name, .int .i64 t.args[i].n, .slice a' t.args[i].args.length c'] 26)).drew w1) (h2 : Below w1.heap.size w1 w2) =>
        own_keep4 OW.out (w' := w2) fun b hb => (h2.block b (Nat.lt_of_lt_of_le (Nat.lt_trans (OW.out.lt b hb).2 (by simp)) h1.size)).trans ((h1.block b (Nat.lt_trans (OW.out.lt b hb).2 (by simp))).trans (heap_alloc_old wr _ (OW.out.lt b hb).2)))
      obtain ⟨i0, hi0, hz0, hz1, hz3⟩ := info_parts infoStr
      have hnb : u3.ownBlock ≠ some wr.heap.size := fun e => by have := (OW.out.lt _ e).2; omega
      have HNB := Lib.hid hnb
      clear hnb
      go_wp2_with fail
      have KD := Lib.hid (K4.out.low HZ0.out.drew)
      have q0 := KD.out.c0
      have q1 := KD.out.c1
      have q2 := KD.out.c2
      have q3 := KD.out.c3
      go_region_held3 (fun w' => w'.cell? ⟨wr.heap.size, 0, none⟩ = some (.int .i64 t.args[i].kind) ∧ w'.cell? ⟨wr.heap.size, 1, none⟩ = some (.string t.args[i].name) ∧ w'.cell? ⟨wr.heap.size, 2, none⟩ = some (.int .i64 t.args[i].n) ∧ w'.cell? ⟨wr.heap.size, 3, none⟩ = some (.slice a' t.args[i].args.length c'))
        (first | (have kk := (((KD.out.low hb1).low hb2).low ((Below.refl _ _).alloc (Nat.le_refl _) _)).grown hgrow7 (fun e => HNB.out e); exact ⟨kk.c0, kk.c1, kk.c2, kk.c3⟩) | (have kk := (KD.out.low hb1).low hb2; exact ⟨kk.c0, kk.c1, kk.c2, kk.c3⟩) | (have kk := KD.out.low hb1; exact ⟨kk.c0, kk.c1, kk.c2, kk.c3⟩) | go_keep)
        (first
          | (go_at_call 49; refine (C1.out _).mono ?_; rintro e w1 ⟨rfl, hb1⟩)
          | (go_at_call 48; refine (C2.out _ (HZ.out.drew.trans (hb1.mono HZ.out.drew.size))).mono ?_; rintro e w2 ⟨rfl, hb2⟩)
          | ((refine step_append_lies _ (by rfl) _ _ _ (by rfl) (w.heap.size + 1) 9 i0 _ 1 16 Tryz.underlying22 hi0 hz0 hz1 hz3 rfl (by omega) u3 (i + 1) (strCells (wordsT t i)) (by rfl) ((OWL.out _ _ hb1 hb2).alloc _) ⟨w2.heap.size, 0, none⟩ 1 1 [.string (bytes (clT t.args[i]))] (by rfl) (by rfl) (World.news_of_block (cs := #[.string (bytes (clT t.args[i]))]) (t := 9) (fr := (0, 0)) (heap_alloc_new w2 _)) (by simp [Value.oneCell']) (by omega) (by unfold maxLen; omega) (by omega) (by have := hb1.size; have := hb2.size; simp at *; omega) (w2.heap.size + 1) (by simp) ?_; intro gg cap w7 hown7 hgrow7 hat7 hlt7)))
      have G7 : Below w.heap.size w w7 := ((HZ.out.drew.trans ((hb1.trans (hb2.mono hb1.size)).mono HZ.out.drew.size)).alloc (by have := hb1.size; have := hb2.size; simp at *; omega) _).grown hgrow7 (by have := hb1.size; have := hb2.size; simp at *; omega) (fun k e => by have := (OW.out.lt k e).1; omega)
      have O7 : Hid (w7.ownsRow (w.heap.size + 1) 9 1 (.slice (some ⟨gg, 0, none⟩) (i + 1 + 1) cap) (i + 1 + 1) (strCells (wordsT t (i + 1)))) := Lib.hid (by rw [WA.out]; unfold strCells at *; rw [List.map_append]; exact hown7)
      have G7H := Lib.hid G7
      have hs7 : w.heap.size + 2 ≤ w7.heap.size := by have := hb1.size; have := hb2.size; have := hgrow7.size; simp at *; omega
      clear G7 hown7 hgrow7 hat7
      go_wp2
      go_roundw
      case rel => exact ⟨i + 1, by go_num, by omega, O7.out, G7H.out, hs7⟩
      case measure => simp [intOf]; omega
    · obtain rfl : i = t.args.length := by omega
      obtain ⟨g, cap, rfl, hlo, hg, hcap, hcells⟩ := own_words hO (by omega)
      have hwl := wordsT_len t t.args.length (Nat.le_refl _)
      have hml : ((wordsT t t.args.length).map bytes).length = t.args.length + 1 := by rw [List.length_map, hwl]
      have hjn : ((wordsT t t.args.length).map bytes).map (·.data.toList) = wordsT t t.args.length := by rw [List.map_map]; exact List.map_id _
      have CJ := Tryz.strings_Join g 0 cap ((wordsT t t.args.length).map bytes) ⟨#[32]⟩ wr (fun j x hx => by rw [Nat.zero_add]; exact hcells j x hx) hg (by rw [hml]; omega) (by rw [hml]; exact hcap) (by rw [hjn, show ((⟨#[32]⟩ : ByteArray).data.toList) = [32] from rfl, join_words t HK.out]; have := HL.out; omega)
      rw [hml, hjn, show ((⟨#[32]⟩ : ByteArray).data.toList) = [32] from rfl, join_words t HK.out] at CJ
      have CJ := Lib.hid CJ
      have HB := Lib.hid hB
      clear hO hB hcells hwl hml hjn
      go_wp2_with fail
      refine CJ.out.mono ?_
      rintro e w1 ⟨rfl, hb1⟩
      go_wp2
      go_ret
      exact ⟨rfl, HB.out.trans (hb1.mono HB.out.size)⟩

end Go.Proofs.YtofllmemmggapaaGreatDoor.Tp

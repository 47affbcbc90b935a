/- Texts laid together: TyCanon. -/
import Derived.Test.YtofllmemmggapaaGreatDoorP29
import Derived.Test.YtofllmemmggapaaGreatDoorP13
import Derived.Deep.RegionHeld3

/- The walk of Canon. -/
namespace Go.Proofs.YtofllmemmggapaaGreatDoor.Tp
open Go.RowKit

set_option maxRecDepth 100000 in
set_option maxHeartbeats 3200000 in
theorem canon_any (t : Ty) (S : Nat → Prop) (a : Option Addr) (c : Nat) (w : World) (hA : ArgsAt S w (.slice a t.args.length c) t.args) (hS : ∀ b, S b → b < w.heap.size) (hg : Good t) (hs : t.size ≤ 1073741824) (hT : Tab w) :
    Calls Tryz.prog 19 #[tv t a c] w (StrPost w (canonS t)) := by
  have hz := (Below.refl w.heap.size w).alloc (Nat.le_refl _) (.cells #[.int .i64 t.kind, .string t.name, .int .i64 t.n, .slice a t.args.length c] 26)
  have b4 := B4.new w (.int .i64 t.kind) (.string t.name) (.int .i64 t.n) (.slice a t.args.length c)
  have hcs := canon_size t hs
  have KP := Lib.hid (num_keeps t.depth (freeT t) t 0 (Nat.le_refl _) hg (by omega) (by omega))
  have CF := Lib.hid (fun (W : World) (h : Below w.heap.size w W) => free_any t S a c W (hA.keep fun b hb => h.block b (hS b hb)) (fun b hb => Nat.lt_of_lt_of_le (hS b hb) h.size) (by omega))
  have CN := Lib.hid (fun (Sf : Nat → Prop) (fv : Value) (W : World) (h : Below w.heap.size w W) (hF : StrsAt Sf W fv (freeT t)) (hSf : ∀ b, Sf b → b < W.heap.size) => num_said t.depth (freeT t) fv 0 t S Sf a c W hg (Nat.le_refl _) hs (by omega) hF (hA.keep fun b hb => h.block b (hS b hb)) (fun b hb => Nat.lt_of_lt_of_le (hS b hb) h.size) hSf (tab_below hT h))
  have hpl := printT_len (canonT t) KP.out.2.2.2.2.1
  have hps : (canonT t).size = t.size := KP.out.2.2.2.1
  have CP := Lib.hid (fun (Z : Nat → Prop) (a' : Option Addr) (c' : Nat) (W : World) (h : Below w.heap.size w W) (hA' : ArgsAt Z W (.slice a' (canonT t).args.length c') (canonT t).args) (hZ : ∀ b, Z b → b < W.heap.size) => print_any (canonT t) Z a' c' W hA' hZ KP.out.2.2.2.2.1.1 (by omega) (tab_below hT h))
  have hfl := freeT_len t
  unfold canonS
  unfold canonT at *
  generalize numF t.depth (freeT t) 0 t = r at *
  obtain ⟨y, m⟩ := r
  simp only at hpl hps
  have HZ := Lib.hid hz
  have HZD := Lib.hid hz.drew
  have B4H := Lib.hid b4
  have HS := Lib.hid hS
  have c0 := b4.c0
  have c1 := b4.c1
  have c2 := b4.c2
  have c3 := b4.c3
  have SK := Lib.hid (fun (W : World) (h : Below (w.alloc (.cells #[.int .i64 t.kind, .string t.name, .int .i64 t.n, .slice a t.args.length c] 26)).heap.size (w.alloc (.cells #[.int .i64 t.kind, .string t.name, .int .i64 t.n, .slice a t.args.length c] 26)) W) => And.intro (b4.low h).c0 (And.intro (b4.low h).c1 (And.intro (b4.low h).c2 (b4.low h).c3)))
  have RD := Lib.hid ((Below.refl (w.alloc (.cells #[.int .i64 t.kind, .string t.name, .int .i64 t.n, .slice a t.args.length c] 26)).heap.size (w.alloc (.cells #[.int .i64 t.kind, .string t.name, .int .i64 t.n, .slice a t.args.length c] 26))).drew)
  have RD2 := Lib.hid ((Below.refl (w.alloc (.cells #[.int .i64 t.kind, .string t.name, .int .i64 t.n, .slice a t.args.length c] 26)).heap.size (w.alloc (.cells #[.int .i64 t.kind, .string t.name, .int .i64 t.n, .slice a t.args.length c] 26))).drew.alloc (Nat.le_refl _) (.cells #[.int .i64 0, .string ⟨#[]⟩, .int .i64 0, .slice none 0 0] 26))
  have hyl : (printT y).length ≤ 1099511627776 := by omega
  unfold tv
  clear hA hS hz b4 hg hT hps hcs hpl
  go_enter Tryz.func19, Tryz.ntmps19
  go_wp2
  go_region_held3 (fun w' => w'.cell? ⟨w.heap.size, 0, none⟩ = some (.int .i64 t.kind) ∧ w'.cell? ⟨w.heap.size, 1, none⟩ = some (.string t.name) ∧ w'.cell? ⟨w.heap.size, 2, none⟩ = some (.int .i64 t.n) ∧ w'.cell? ⟨w.heap.size, 3, none⟩ = some (.slice a t.args.length c))
    (first | exact SK.out _ hB2 | exact SK.out _ (hB2.set4 (b := w1.heap.size) hB1.size _ _ _ _) | exact SK.out _ (hB2.set4 (b := w.heap.size + 1) (by simp) _ _ _ _) | exact SK.out _ (hB2.alloc hB2.size _) | exact SK.out _ hB1 | exact SK.out _ (hB1.alloc hB1.size _) | exact SK.out _ RD.out | exact SK.out _ RD2.out | go_keep)
    (first
      | (go_at_call 25; refine (CF.out _ (by first | exact HZD.out | exact (HZ.out.trans (RD2.out.mono HZ.out.size)))).mono ?_; rintro e w1 ⟨v1, rfl, own1, len1, hb1⟩; have hB1 := (show Below (w.alloc (.cells #[.int .i64 t.kind, .string t.name, .int .i64 t.n, .slice a t.args.length c] 26)).heap.size (w.alloc (.cells #[.int .i64 t.kind, .string t.name, .int .i64 t.n, .slice a t.args.length c] 26)) _ from by first | exact RD.out | exact RD2.out).trans (hb1.mono (by simp)))
      | (go_at_call 42; refine (CN.out (fun b => v1.ownBlock = some b) v1 _ (by first | exact HZ.out.trans (hB1.mono HZ.out.size) | exact HZ.out.trans ((hB1.alloc hB1.size _).mono HZ.out.size)) (by first | exact StrsAt.of_own own1 (by omega) | exact StrsAt.of_own (own_keep4 own1 (fun b hb => heap_alloc_old w1 _ (own1.lt b hb).2)) (by omega)) (fun b hb => by have := (own1.lt b hb).2; simp at *; omega)).mono ?_; rintro e w2 ⟨a2, c2, rfl, hA2, hb2⟩; have hB2 : Below (w.alloc (.cells #[.int .i64 t.kind, .string t.name, .int .i64 t.n, .slice a t.args.length c] 26)).heap.size (w.alloc (.cells #[.int .i64 t.kind, .string t.name, .int .i64 t.n, .slice a t.args.length c] 26)) w2 := (by first | exact hB1.trans (hb2.mono hB1.size) | exact (hB1.alloc hB1.size _).trans (hb2.mono (hB1.alloc hB1.size _).size)); (first | (have k3 := B4.low (B4.new w1 (.int .i64 0) (.string ⟨#[]⟩) (.int .i64 0) (.slice none 0 0)) hb2; have y0 := k3.c0; have y1 := k3.c1; have y2 := k3.c2; have y3 := k3.c3; have v0 := k3.fr 0; have v1' := k3.fr 1; have v2 := k3.fr 2; have v3 := k3.fr 3; have K3 := Lib.hid k3; clear k3) | (have k3 : B4 w2 (w.heap.size + 1) (.int .i64 0) (.string ⟨#[]⟩) (.int .i64 0) (.slice none 0 0) := B4.low (show B4 w1 (w.heap.size + 1) (.int .i64 0) (.string ⟨#[]⟩) (.int .i64 0) (.slice none 0 0) from (hb1.block _ (by simp)).trans (alloc_new (by simp))) hb2; have y0 := k3.c0; have y1 := k3.c1; have y2 := k3.c2; have y3 := k3.c3; have v0 := k3.fr 0; have v1' := k3.fr 1; have v2 := k3.fr 2; have v3 := k3.fr 3; have K3 := Lib.hid k3; clear k3) | skip); unfold tv; simp only))
  · have HB2 := Lib.hid (HZ.out.trans (hB2.mono HZ.out.size))
    have HA2 := Lib.hid hA2
    have HW := Lib.hid hb2.size
    have HW1 := Lib.hid hB1.size
    clear hb1 hB1 own1 len1 hA2 hb2 hB2
    go_wp2_with fail
    have hs1 := HW.out
    have hs2 := HW1.out
    have hs3 := HB2.out.size
    have hlt : ∀ b, b < w.heap.size ∨ b < w2.heap.size → b < w2.heap.size := fun b h => by omega
    refine (CP.out _ a2 c2 _ (HB2.out.alloc HB2.out.size _) (HA2.out.keep fun b hb => heap_alloc_old w2 _ (hlt b (hb.imp (HS.out b) And.right))) (fun b hb => by have := hlt b (hb.imp (HS.out b) And.right); simp; omega)).mono ?_
    rintro e w5 ⟨rfl, hb5⟩
    clear hs1 hs2 hs3 hlt
    have HB5 := Lib.hid hb5
    clear hb5
    go_wp2
    go_ret
    exact ⟨rfl, (HB2.out.alloc HB2.out.size _).trans (HB5.out.mono (HB2.out.alloc HB2.out.size _).size)⟩
  · have HB2 := Lib.hid (HZ.out.trans (hB2.mono HZ.out.size))
    have HA2 := Lib.hid hA2
    have HW := Lib.hid hb2.size
    have HW1 := Lib.hid hB1.size
    clear hb1 hB1 own1 len1 hA2 hb2 hB2
    go_wp2_with fail
    have hs1 := HW.out
    have hs2 := HW1.out
    have hs3 := HB2.out.size
    have hlt : ∀ b, b < w.heap.size ∨ b < w2.heap.size → b < w2.heap.size := fun b h => by omega
    refine (CP.out _ a2 c2 _ (HB2.out.set4 (b := w1.heap.size) (by simp at *; omega) _ _ _ _) (HA2.out.keep fun b hb => (same_set4 w2 (w1.heap.size) _ _ _ _).off b (by rcases hb with hb | hb <;> first | (have := HS.out b hb; simp at *; omega) | (have := hb.1; simp at *; omega))) (fun b hb => by have := hlt b (hb.imp (HS.out b) And.right); simp; omega)).mono ?_
    rintro e w5 ⟨rfl, hb5⟩
    clear hs1 hs2 hs3 hlt
    have HB5 := Lib.hid hb5
    clear hb5
    go_wp2
    go_ret
    exact ⟨rfl, (HB2.out.set4 (b := w1.heap.size) (by have := HW1.out; simp at *; omega) _ _ _ _).trans (HB5.out.mono (by have := HB2.out.size; simp at *; omega))⟩
  · have HB2 := Lib.hid (HZ.out.trans (hB2.mono HZ.out.size))
    have HA2 := Lib.hid hA2
    have HW := Lib.hid hb2.size
    have HW1 := Lib.hid hb1.size
    clear hb1 hB1 own1 len1 hA2 hb2 hB2
    go_wp2_with fail
    have hs1 := HW.out
    have hs2 := HW1.out
    have hs3 := HB2.out.size
    have hlt : ∀ b, b < w.heap.size ∨ b < w2.heap.size → b < w2.heap.size := fun b h => by omega
    refine (CP.out _ a2 c2 _ (HB2.out.set4 (b := w.heap.size + 1) (by omega) _ _ _ _) (HA2.out.keep fun b hb => (same_set4 w2 (w.heap.size + 1) _ _ _ _).off b (by rcases hb with hb | hb <;> first | (have := HS.out b hb; simp at *; omega) | (have := hb.1; simp at *; omega))) (fun b hb => by have := hlt b (hb.imp (HS.out b) And.right); simp; omega)).mono ?_
    rintro e w5 ⟨rfl, hb5⟩
    clear hs1 hs2 hs3 hlt
    have HB5 := Lib.hid hb5
    clear hb5
    go_wp2
    go_ret
    exact ⟨rfl, (HB2.out.set4 (b := w.heap.size + 1) (by omega) _ _ _ _).trans (HB5.out.mono (by have := HB2.out.size; simp at *; omega))⟩

end Go.Proofs.YtofllmemmggapaaGreatDoor.Tp

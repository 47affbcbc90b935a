/-
  The law TypesTokens: for every text it returns true; the text reads as before. No conditions; the card ties the library's tables to the program's text.
-/
import Derived.Test.YtifaaihekgnhiaaGreatDoorP41
import Derived.Test.YtifaaihekgnhiaaGreatDoorP46
import Derived.Test.YtifaaihekgnhiaaGreatDoorCards
import Derived.Test.YtifaaihekgnhiaaGreatDoorTie
import Derived.SevenTiedAt

/- The walk of TypesTokens. -/
namespace Go.Proofs.YtifaaihekgnhiaaGreatDoor.Tp
open Go.RowKit

open Lx

theorem read_made {s : List UInt8} {ts : List Lx.Tok} {p er : Nat} (h : scanR s = (ts, p, er)) {t : Ty} {r : List Lx.Tok} (hT : readT ts = some (t, r)) : Small t ∧ r.length ≤ ts.length ∧ ts.length ≤ 4000 := by
  have h0 := scanR_length s
  have h1 := scanR_all s
  rw [h] at h0 h1
  simp only at h0 h1
  have hm := (made (4 * ts.length + 4)).1 ts t r (fun x hx => tokK x (h1 x hx)) hT
  have h2 := ((sufs (4 * ts.length + 4)).1 _ _ _ hT).length_le
  exact ⟨small_of hm.1 (by have := hm.2.1; omega), h2, h0⟩

/-- tokens below the heap's size -/
structure TokLow (w : World) (va : Option Addr) (vc : Nat) (ts : List Lx.Tok) : Prop where
  at_ : ToksAt w (.slice va ts.length vc) ts
  lt : ∀ b o, va = some ⟨b, o, none⟩ → b < w.heap.size
theorem TokLow.low {w w' : World} {va : Option Addr} {vc : Nat} {ts : List Lx.Tok} (h : TokLow w va vc ts) (hb : Below w.heap.size w w') : TokLow w' va vc ts :=
  ⟨toks_low h.at_ hb, fun b o e => Nat.lt_of_lt_of_le (h.lt b o e) hb.size⟩
def ScanH (ts : List Lx.Tok) (p er : Nat) (w : World) (e : Ending) (w' : World) : Prop :=
  ∃ va vc, e = .returned (.tuple #[.slice va ts.length vc, .int .i64 p, .int .i64 er]) ∧ TokLow w' va vc ts ∧ Below w.heap.size w w'
theorem scan_h (s : ByteArray) (w : World) (hs : s.size ≤ maxLen) {ts : List Lx.Tok} {p er : Nat} (h : scanR s.data.toList = (ts, p, er)) : Calls Tryz.prog 14 #[.string s] w (ScanH ts p er w) := by
  refine (scan_any s w hs).mono fun e w' hp => ?_
  obtain ⟨v, he, hb, ho⟩ := hp
  rw [h] at he ho
  obtain ⟨va, vc, rfl⟩ := own_form ho
  exact ⟨va, vc, he, ⟨toksAt_of_owns ho, fun b o e => (ho.lt b (by rw [e]; rfl)).2⟩, hb⟩
def ReadNo (w : World) (e : Ending) (w' : World) : Prop := e = .returned (.tuple #[.agg #[.int .i64 0, .string ⟨#[]⟩, .int .i64 0, .slice none 0 0], .slice none 0 0, .bool false]) ∧ Below w.heap.size w (w'.alloc (.cells #[.int .i64 0, .string ⟨#[]⟩, .int .i64 0, .slice none 0 0] 25))
def ReadOk (n : Nat) (t : Ty) (w : World) (e : Ending) (w' : World) : Prop := ∃ a c a2 c2, e = .returned (.tuple #[.agg #[.int .i64 t.kind, .string t.name, .int .i64 t.n, .slice a t.args.length c], .slice a2 n c2, .bool true]) ∧
    Hold w'.heap.size w'.heap.size t a c (w'.alloc (.cells #[.int .i64 t.kind, .string t.name, .int .i64 t.n, .slice a t.args.length c] 25)) ∧ Below w.heap.size w (w'.alloc (.cells #[.int .i64 t.kind, .string t.name, .int .i64 t.n, .slice a t.args.length c] 25))
theorem read_no {w : World} {va : Option Addr} {vc : Nat} {ts : List Lx.Tok} (h : TokLow w va vc ts) (hok : TokOk ts) (hl : ts.length ≤ 4000) (hT : readT ts = none) : Calls Tryz.prog 15 #[.slice va ts.length vc] w (ReadNo w) := by
  have C := read_any w va vc ts h.at_ h.lt hok hl
  rw [hT] at C
  refine C.mono ?_
  rintro e w' ⟨hb, rfl⟩
  exact ⟨rfl, hb.trans (((Below.refl _ _).alloc (Nat.le_refl _) _).mono hb.size)⟩
theorem read_ok {w : World} {va : Option Addr} {vc : Nat} {ts : List Lx.Tok} (h : TokLow w va vc ts) (hok : TokOk ts) (hl : ts.length ≤ 4000) {t : Ty} {r : List Lx.Tok} (hT : readT ts = some (t, r)) : Calls Tryz.prog 15 #[.slice va ts.length vc] w (ReadOk r.length t w) := by
  have C := read_any w va vc ts h.at_ h.lt hok hl
  rw [hT] at C
  refine C.mono ?_
  rintro e w' ⟨hb, a, c, a2, c2, rfl, hA, _⟩
  exact ⟨a, c, a2, c2, rfl, .of_parse hA, hb.trans (((Below.refl _ _).alloc (Nat.le_refl _) _).mono hb.size)⟩
def RReadNo (w : World) (e : Ending) (w' : World) : Prop := ∃ (k n : Int) (s : ByteArray) (a : Option Addr) (l c : Nat), e = .returned (.tuple #[.agg #[.int .i64 k, .string s, .int .i64 n, .slice a l c], .int .i64 (-1)]) ∧ Below w.heap.size w (w'.alloc (.cells #[.int .i64 k, .string s, .int .i64 n, .slice a l c] 31))
def RReadOk (n : Nat) (t : Ty) (w : World) (e : Ending) (w' : World) : Prop := ∃ a c, e = .returned (.tuple #[.agg #[.int .i64 t.kind, .string t.name, .int .i64 t.n, .slice a t.args.length c], .int .i64 (n : Int)]) ∧
    HoldR w'.heap.size w'.heap.size t a c (w'.alloc (.cells #[.int .i64 t.kind, .string t.name, .int .i64 t.n, .slice a t.args.length c] 31)) ∧ Below w.heap.size w (w'.alloc (.cells #[.int .i64 t.kind, .string t.name, .int .i64 t.n, .slice a t.args.length c] 31))
theorem rread_no {w : World} {va : Option Addr} {vc : Nat} {ts : List Lx.Tok} (h : TokLow w va vc ts) (hok : TokR ts) (hl : ts.length ≤ 4000) (hT : readT ts = none) : Calls Tryz.prog 16 #[.slice va ts.length vc, .int .i64 0] w (RReadNo w) := by
  have C := rread_any w va vc ts h.at_ h.lt hok hl
  rw [hT] at C
  refine C.mono ?_
  rintro e w' ⟨hb, k, s, n, a, c, m, rfl⟩
  exact ⟨k, n, s, a, c, m, rfl, hb.trans (((Below.refl _ _).alloc (Nat.le_refl _) _).mono hb.size)⟩
theorem rread_ok {w : World} {va : Option Addr} {vc : Nat} {ts : List Lx.Tok} (h : TokLow w va vc ts) (hok : TokR ts) (hl : ts.length ≤ 4000) {t : Ty} {r : List Lx.Tok} (hT : readT ts = some (t, r)) : Calls Tryz.prog 16 #[.slice va ts.length vc, .int .i64 0] w (RReadOk (ts.length - r.length) t w) := by
  have C := rread_any w va vc ts h.at_ h.lt hok hl
  rw [hT] at C
  refine C.mono ?_
  rintro e w' ⟨hb, a, c, rfl, hA⟩
  exact ⟨a, c, rfl, .of_parse hA, hb.trans (((Below.refl _ _).alloc (Nat.le_refl _) _).mono hb.size)⟩

set_option maxHeartbeats 6400000 in
set_option maxRecDepth 100000 in
theorem typesTokens_walk (a0 : ByteArray) (w0 : a0.size ≤ maxLen) (w : World) (hT : Tab w) :
    Calls Tryz.prog 4 #[.string a0] w fun e w' => e = .returned (.bool true) ∧ Below w.heap.size w w' := by
  have HT := Lib.hid hT
  clear hT
  rcases hsc : scanR a0.data.toList with ⟨ts, p, er⟩
  have hok := tokOk_scan a0.data.toList
  have hrok := tokR_scan a0.data.toList
  have hlen := scanR_length a0.data.toList
  rw [hsc] at hok hrok hlen
  have HOK := Lib.hid hok
  have HROK := Lib.hid hrok
  have CS := Lib.hid (fun (W : World) => scan_h a0 W w0 hsc)
  have MD := Lib.hid (fun (t : Ty) (r : List Lx.Tok) => read_made hsc (t := t) (r := r))
  clear hsc hok hrok
  by_cases her : er = 0
  · subst her
    cases hT : readT ts with
    | none =>
      have HTT := Lib.hid hT
      clear hT
      go_enter Tryz.func4, Tryz.ntmps4
      go_wp2_with fail
      refine (awake_any _ HT.out).mono ?_
      rintro e w1 ⟨rfl, hB⟩
      have B_1 := Lib.hid (hB)
      clear hB
      go_wp2_with fail
      refine (CS.out _).mono ?_
      rintro e w2 ⟨va, vc, rfl, hR, hB⟩
      have B_2 := Lib.hid (B_1.out.trans (hB.mono B_1.out.size))
      clear hB B_1
      have RK_2 := Lib.hid hR
      clear hR
      have C := Lib.hid (read_no RK_2.out HOK.out hlen HTT.out)
      go_wp2_with fail
      refine C.out.mono ?_
      rintro e w3 ⟨rfl, hB⟩
      clear C
      have RK_3 := Lib.hid (RK_2.out.low hB)
      have B_3 := Lib.hid (B_2.out.trans (hB.mono B_2.out.size))
      clear hB RK_2 B_2
      have C := Lib.hid (rread_no RK_3.out HROK.out hlen HTT.out)
      go_wp2_with fail
      refine C.out.mono ?_
      rintro e w4 ⟨jk, jn, js, ja, jl, jc, rfl, hB⟩
      clear C
      have RK_4 := Lib.hid (RK_3.out.low hB)
      have B_4 := Lib.hid (B_3.out.trans (hB.mono B_3.out.size))
      clear hB RK_3 B_3
      go_wp2
      go_ret
      exact ⟨rfl, B_4.out⟩
    | some x =>
      obtain ⟨t, r⟩ := x
      have HTT := Lib.hid hT
      obtain ⟨hsm, hr, _⟩ := MD.out t r hT
      have SM := Lib.hid hsm
      have hk : ((ts.length : Int) - ((ts.length - r.length : Nat) : Int)) = (r.length : Int) := by omega
      have HK := Lib.hid hk
      have z0 : decide (((ts.length - r.length : Nat) : Int) < 0) = false := by rw [decide_eq_false_iff_not]; omega
      have z1 : ¬ ((ts.length - r.length : Nat) : Int) < 0 := by omega
      have hkb : ts.length - r.length ≤ 4000 := by omega
      clear hT hsm hk hr
      go_enter Tryz.func4, Tryz.ntmps4
      go_wp2_with fail
      refine (awake_any _ HT.out).mono ?_
      rintro e w1 ⟨rfl, hB⟩
      have B_1 := Lib.hid (hB)
      clear hB
      go_wp2_with fail
      refine (CS.out _).mono ?_
      rintro e w2 ⟨va, vc, rfl, hR, hB⟩
      have B_2 := Lib.hid (B_1.out.trans (hB.mono B_1.out.size))
      clear hB B_1
      have RK_2 := Lib.hid hR
      clear hR
      have C := Lib.hid (read_ok RK_2.out HOK.out hlen HTT.out)
      go_wp2_with fail
      refine C.out.mono ?_
      rintro e w3 ⟨aT, cT, a2, c2, rfl, hR, hB⟩
      clear C
      have RK_3 := Lib.hid (RK_2.out.low hB)
      have B_3 := Lib.hid (B_2.out.trans (hB.mono B_2.out.size))
      have RT_3 := Lib.hid hR
      clear hB hR RK_2 B_2
      have C := Lib.hid (rread_ok RK_3.out HROK.out hlen HTT.out)
      go_wp2_with fail
      refine C.out.mono ?_
      rintro e w4 ⟨aU, cU, rfl, hR, hB⟩
      clear C
      have RK_4 := Lib.hid (RK_3.out.low hB)
      have RT_4 := Lib.hid (RT_3.out.low hB)
      have B_4 := Lib.hid (B_3.out.trans (hB.mono B_3.out.size))
      have RU_4 := Lib.hid hR
      clear hB hR RK_3 RT_3 B_3
      generalize hj : ts.length - r.length = j at *
      have HJ := Lib.hid hj
      have zk : ((r.length : Int) == (ts.length : Int) - (j : Int)) = true := by rw [HK.out]; simp
      clear hj
      have k0 := RT_4.out.k.c0
      have k1 := RT_4.out.k.c1
      have k2 := RT_4.out.k.c2
      have k3 := RT_4.out.k.c3
      have C := Lib.hid (print_h RT_4.out.at_ SM.out (tab_below HT.out B_4.out))
      go_wp2_with fail
      refine C.out.mono ?_
      rintro e w5 ⟨rfl, hB⟩
      clear C k0 k1 k2 k3
      have RK_5 := Lib.hid (RK_4.out.low hB)
      have RT_5 := Lib.hid (RT_4.out.low hB)
      have RU_5 := Lib.hid (RU_4.out.low hB)
      have B_5 := Lib.hid (B_4.out.trans (hB.mono B_4.out.size))
      clear hB RK_4 RT_4 RU_4 B_4
      have k0 := RU_5.out.k.c0
      have k1 := RU_5.out.k.c1
      have k2 := RU_5.out.k.c2
      have k3 := RU_5.out.k.c3
      have C := Lib.hid (rprint_h RU_5.out.at_ SM.out)
      go_wp2_with fail
      refine C.out.mono ?_
      rintro e w6 ⟨rfl, hB⟩
      clear C k0 k1 k2 k3
      have RK_6 := Lib.hid (RK_5.out.low hB)
      have RT_6 := Lib.hid (RT_5.out.low hB)
      have RU_6 := Lib.hid (RU_5.out.low hB)
      have B_6 := Lib.hid (B_5.out.trans (hB.mono B_5.out.size))
      clear hB RK_5 RT_5 RU_5 B_5
      generalize bytes (printT t) = p1 at *
      go_wp2
      go_ret
      exact ⟨rfl, B_6.out⟩
  · have hz : ((er : Int) != 0) = true := by rw [bne_iff_ne]; omega
    go_enter Tryz.func4, Tryz.ntmps4
    go_wp2_with fail
    refine (awake_any _ HT.out).mono ?_
    rintro e w1 ⟨rfl, hB⟩
    have B_1 := Lib.hid (hB)
    clear hB
    go_wp2_with fail
    refine (CS.out _).mono ?_
    rintro e w2 ⟨va, vc, rfl, hR, hB⟩
    have B_2 := Lib.hid (B_1.out.trans (hB.mono B_1.out.size))
    clear hB B_1
    have RK_2 := Lib.hid hR
    clear hR
    go_wp2
    go_ret
    exact ⟨rfl, B_2.out⟩

end Go.Proofs.YtifaaihekgnhiaaGreatDoor.Tp

/-
  The law TypesTokens: for every text it returns true; the text reads as before. No conditions; the card ties the library's tables to the program's text.
-/
namespace Go.Proofs.YtifaaihekgnhiaaGreatDoor.typesTokens
open Go.ChangeShapes Go.WideShapes Go.ChangeAt Go.WideMaps Go.WideElems Go.RowKit
open Go.ChangeMaps (open_string shut_string)
open Tp (Tab laidL tab_of_laid door_met own laidOut)

/-! ### the row's step, as the kit's worked example (a law over laid variables) has it -/
set_option linter.unusedVariables false in
set_option maxRecDepth 100000 in
theorem lifted (os : Os) (started : os.Started) (H : Type) (enc : TypeId × Value → H) :
    ReturnsInHanded {} Tryz.checked os 4 .any (fun w args => (Rows.typesTokensSpec.pre enc Tryz.prog Tryz.f4 [] false w args ∧ laidMetH Tryz.prog laidL w) ∧ sizedMet enc Tryz.prog Tryz.f4 (OpenSpec.ofChange Rows.typesTokensSpec) false w args)
      (Rows.typesTokensSpec.post enc Tryz.prog Tryz.f4 false true false false) := by
  refine returnsInHanded_of_change_and (C := Tryz.checked) (X := fun w _ => laidMetH Tryz.prog laidL w) (fun _ _ _ hh h => h.of_heap hh) own started (by kernel_rfl) Tryz.func4
    (ChangeSpec.witness_shaped (enc := enc) (C := Tryz.checked) (os := os) (X := fun w _ => laidMetH Tryz.prog laidL w) false (World.doorLaid Tryz.prog 400 os) #[.string ByteArray.empty] 8 rfl (World.shaped_of_RefB (by kernel_rfl) (by kernel_rfl)) (by kernel_rfl) (by kernel_rfl) (by kernel_rfl) (door_met os _)) ?_
  intro W base args ds gs before hval0 hW _ _ hL _
  have hval : ∀ (j : Nat) t v, Tryz.f4.params[j]? = some t → args[j]? = some v → Value.okWide Tryz.prog W .any base t v := hval0
  have hW' := hW
  obtain ⟨p, q, hA0, hV, rfl, hfz, hnd⟩ := hW
  have hA : DataW.TrodAll enc Tryz.prog W 0 (fun _ => true) true Tryz.f4.params.toList args.toList ds p := hA0
  rw [Tryz.params4] at hA hval
  obtain ⟨v0, vs0, d0, ds0, p0, q0, hargs, rfl, rfl, h0, r0⟩ := trodAll_cons hA
  obtain ⟨rfl, rfl, rfl⟩ := trodAll_nil r0
  obtain rfl : args = #[v0] := by cases args; simp_all
  obtain ⟨rfl, rfl⟩ := trodVars_none hV
  obtain ⟨a0, rfl, rfl, rfl, w0⟩ := open_string Tryz.underlying9 (hval 0 9 v0 rfl rfl) h0
  clear hA0 hval0
  refine (Tp.typesTokens_walk a0 w0 W (tab_of_laid hL)).mono fun e W' ⟨he, bel⟩ => ?_
  subst he
  exact ⟨_, rfl, _, _, _, [], _, [], hW', trodAll_mk1 (shut_bool Tryz.underlying4 _), (trodAll_cons_mk (shut_string Tryz.underlying9 w0) trodAll_mk0), rfl, bel.frame _, fun h => by cases h⟩

theorem row_holds : Rows.TypesTokensSaid :=
  OpenClaim.holds_of_wide 4 Tryz.f4 rfl rfl rfl rfl rfl rfl rfl ⟨rfl, rfl, rfl, rfl, rfl⟩ rfl rfl rfl rfl rfl (by kernel_rfl) Tryz.func4 (by kernel_rfl)
    (of_decide_eq_true (by kernel_rfl)) (by unfold Func.isWrapper; first | (rw [if_pos (by decide +kernel)]; kernel_rfl) | (rw [if_neg (by decide +kernel)]; exact ⟨rfl, rfl⟩))
    (fun os started H enc _ => lifted os started H enc)

/-- THE STATEMENT: the row, tied to the program's text. -/
theorem proved : Rows.TypesTokensCardSaid :=
  Claim7.holds_tied_plain_at .later [] [.data, .data, .data, .sentinel, .sentinel] true Rows.typesTokensCard.stood.harness true
    row_holds (fun _ h => by cases h) (by kernel_rfl) (fun _ h => by cases h) typesTokens_row_tie rfl ⟨rfl, rfl⟩ (by kernel_rfl) rfl
    (fun f fn hf hfn => by
      obtain rfl : f = 4 := Option.some.inj ((show Tryz.prog.funcNamed "savant/savantlaw02.TypesTokens" = some 4 by kernel_rfl).symm.trans hf) |>.symm
      obtain rfl : fn = Tryz.f4 := (Option.some.inj (Tryz.func4.symm.trans hfn)).symm
      exact ⟨by kernel_rfl, fun j t ht => by
        rw [Tryz.params4] at ht
        have hm : t ∈ [9] := by simpa using Array.mem_of_getElem? ht
        have hall : ([9].all fun u => !Tryz.prog.wantsStandIn u) = true := by kernel_rfl
        exact (show Tryz.prog.wantsStandIn t = false by simpa using List.all_eq_true.1 hall t hm)⟩)
    (by kernel_rfl)
#print axioms proved
end Go.Proofs.YtifaaihekgnhiaaGreatDoor.typesTokens

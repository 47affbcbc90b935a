/- Texts laid together: TyAwkP, TyAwake. -/
import Derived.Test.YtifaaihekgnhiaaDoorP27
import Derived.KernelRfl
import Derived.Test.YtifaaihekgnhiaaDoorP45

/- The chapter's examples, reckoned. No program in sight. -/
namespace Go.Proofs.YtifaaihekgnhiaaDoor.Tp
open Lx

/-- canonical names below ten, spelled -/
def xn (n : Nat) : ByteArray := if n < 10 then ⟨#[120, UInt8.ofNat (48 + n)]⟩ else xname n
theorem xname_xn : xname = xn := by
  funext n
  unfold xn
  split
  · next h =>
    apply ByteArray.ext
    have := xname_list n
    rw [Lib.decDigits, dif_pos h] at this
    apply Array.toList_inj.1
    rw [this]
  · rfl
theorem canon_fast {t D : Ty} {F : List ByteArray} (hs : Std t) (hD : dbT [] t = D) (hF : walkF ocStep D [] [] = F) : canonT t = (cnT xn F [] 0 D).1 := by
  rw [canonT_cn t hs, free_db t hs, hD, hF, xname_xn]

def txA : ByteArray := ⟨#[102, 111, 114, 97, 108, 108, 32, 97, 46, 102, 111, 114, 97, 108, 108, 32, 98, 32, 46, 32, 40, 97, 45, 62, 84, 32, 40, 98, 41, 41, 45, 62, 98]⟩
def txB : ByteArray := ⟨#[84, 32, 97, 32, 40, 85, 32, 98, 41, 32, 63, 51, 32, 45, 62, 32, 40, 99, 32, 45, 62, 32, 100, 41]⟩
def txC : ByteArray := ⟨#[97, 32, 98]⟩
def txE : ByteArray := ⟨#[102, 111, 114, 97, 108, 108, 32, 97, 46, 32, 120, 48, 32, 45, 62, 32, 97]⟩
def txD : ByteArray := ⟨#[102, 111, 114, 97, 108, 108, 32, 97, 46, 32, 97, 32, 45, 62, 32, 98]⟩
def txU : ByteArray := ⟨#[97]⟩
def tyA : Ty := tAll [97] (tAll [98] (tFun (tFun (tVar [97]) (tCon [84] [tVar [98]])) (tVar [98])))
def tyB : Ty := tFun (tCon [84] [tVar [97], tCon [85] [tVar [98]], tMeta [63, 51]]) (tFun (tVar [99]) (tVar [100]))
def tyE : Ty := tAll [97] (tFun (tVar [120, 48]) (tVar [97]))
def tyD : Ty := tAll [97] (tFun (tVar [97]) (tVar [98]))
def tyU : Ty := tVar [97]
theorem parA : parseT txA.data.toList = .ok tyA := by kernel_rfl
theorem parB : parseT txB.data.toList = .ok tyB := by kernel_rfl
theorem parC : parseT txC.data.toList = .error 20 := by kernel_rfl
theorem parO : parseT (⟨#[]⟩ : ByteArray).data.toList = .error 20 := by kernel_rfl
theorem parE : parseT txE.data.toList = .ok tyE := by kernel_rfl
theorem parD : parseT txD.data.toList = .ok tyD := by kernel_rfl
theorem parU : parseT txU.data.toList = .ok tyU := by kernel_rfl
theorem priA : printT tyA = [102, 111, 114, 97, 108, 108, 32, 97, 32, 98, 46, 32, 40, 97, 32, 45, 62, 32, 84, 32, 98, 41, 32, 45, 62, 32, 98] := by kernel_rfl
theorem itoa3 : Lib.itoa (3 : Int) = [51] := by
  have := Lib.itoa_nonneg 3
  rw [Lib.decDigits, dif_pos (by omega)] at this
  exact this
theorem canA : printT (canonT tyA) = [102, 111, 114, 97, 108, 108, 32, 120, 48, 32, 120, 49, 46, 32, 40, 120, 48, 32, 45, 62, 32, 84, 32, 120, 49, 41, 32, 45, 62, 32, 120, 49] := by
  rw [canon_fast (parse_made parA).1.1 rfl rfl]; kernel_rfl
theorem canE : printT (canonT tyE) = [102, 111, 114, 97, 108, 108, 32, 120, 49, 46, 32, 120, 48, 32, 45, 62, 32, 120, 49] := by
  rw [canon_fast (parse_made parE).1.1 rfl rfl]; kernel_rfl
theorem priM : printT (tMeta [63, 51]) = [63, 51] := by
  rw [printT_meta _ rfl]
  show 63 :: Lib.itoa (3 : Int) = _
  rw [itoa3]
theorem priB : printT tyB = [84, 32, 97, 32, 40, 85, 32, 98, 41, 32, 63, 51, 32, 45, 62, 32, 99, 32, 45, 62, 32, 100] := by
  rw [show tyB = tFun (tCon [84] [tVar [97], tCon [85] [tVar [98]], tMeta [63, 51]]) (tFun (tVar [99]) (tVar [100])) from rfl, printT_fun _ _ _ rfl rfl, printT_con (tCon _ _) rfl]
  simp only [tCon, Ty.args, List.map_cons, List.map_nil]
  rw [priM]
  kernel_rfl
theorem freB : (freeT tyB).length = 4 := by kernel_rfl
theorem metB : (metasT tyB).length = 1 := by kernel_rfl
theorem putD : printT (canonT (PutT ⟨#[98]⟩ tyU tyD)) = [102, 111, 114, 97, 108, 108, 32, 120, 48, 46, 32, 120, 48, 32, 45, 62, 32, 97] := by
  have hd := (parse_made parD).1.1
  have hu := (parse_made parU).1.1
  have e := canon_fast (F := walkF ocStep (sbT (isVar ⟨#[98]⟩) (dbT [] tyU) (dbT [] tyD)) [] []) (PutT_std ⟨#[98]⟩ tyU tyD hd hu) (db_PutT ⟨#[98]⟩ tyU tyD hd) rfl
  rw [e]
  exact (show printT (cnT xn (walkF ocStep (sbT (isVar ⟨#[98]⟩) (dbT [] tyU) (dbT [] tyD)) [] []) [] 0 (sbT (isVar ⟨#[98]⟩) (dbT [] tyU) (dbT [] tyD))).1 = [102, 111, 114, 97, 108, 108, 32, 120, 48, 46, 32, 120, 48, 32, 45, 62, 32, 97] by kernel_rfl)

end Go.Proofs.YtifaaihekgnhiaaDoor.Tp

/- awake of savantlaw02: the chapter's examples hold. -/
namespace Go.Proofs.YtifaaihekgnhiaaDoor.Tp
open Go.RowKit

def OkPost (w : World) (t : Ty) (e : Ending) (w' : World) : Prop :=
  ∃ a c, e = .returned (.tuple #[.agg #[.int .i64 t.kind, .string t.name, .int .i64 t.n, .slice a t.args.length c], .int .i64 0]) ∧ Below w.heap.size w w' ∧
    Hold w'.heap.size w'.heap.size t a c (w'.alloc (.cells #[.int .i64 t.kind, .string t.name, .int .i64 t.n, .slice a t.args.length c] 25)) ∧ Below w.heap.size w (w'.alloc (.cells #[.int .i64 t.kind, .string t.name, .int .i64 t.n, .slice a t.args.length c] 25))
def BadPost (w : World) (er : Nat) (e : Ending) (w' : World) : Prop :=
  e = .returned (.tuple #[.agg #[.int .i64 0, .string ⟨#[]⟩, .int .i64 0, .slice none 0 0], .int .i64 er]) ∧ Below w.heap.size w w' ∧ Below w.heap.size w (w'.alloc (.cells #[.int .i64 0, .string ⟨#[]⟩, .int .i64 0, .slice none 0 0] 25))

theorem parse_ok (w : World) (s : ByteArray) (hs : s.size ≤ maxLen) {t : Ty} (h : parseT s.data.toList = .ok t) : Calls Tryd.prog 9 #[.string s] w (OkPost w t) := by
  have C := parse_any w s hs
  rw [h] at C
  refine C.mono ?_
  rintro e w' ⟨hb, a, c, rfl, hA⟩
  exact ⟨a, c, rfl, hb, .of_parse hA, hb.trans (((Below.refl _ _).alloc (Nat.le_refl _) _).mono hb.size)⟩
theorem parse_bad (w : World) (s : ByteArray) (hs : s.size ≤ maxLen) {er : Nat} (h : parseT s.data.toList = .error er) : Calls Tryd.prog 9 #[.string s] w (BadPost w er) := by
  have C := parse_any w s hs
  rw [h] at C
  refine C.mono ?_
  rintro e w' ⟨hb, rfl⟩
  exact ⟨rfl, hb, hb.trans (((Below.refl _ _).alloc (Nat.le_refl _) _).mono hb.size)⟩

theorem small_of {t : Ty} (h : Mk t) (hs : t.size ≤ 1073741824) : Small t := ⟨mk_good t h, hs⟩
theorem small_parse {s : List UInt8} {t : Ty} (h : parseT s = .ok t) : Small t := by
  have := parse_made h
  exact small_of this.1 (by omega)
theorem Below.hid {w w' : World} {n : Nat} (h : Below n w w') : Hid (Below n w w') := Lib.hid h

theorem bytes_toList (l : List UInt8) : (bytes l).toList = l := by rw [ByteArray.toList_eq]; simp [bytes]

theorem small_put : Small (PutT ⟨#[98]⟩ tyU tyD) := by
  have h1 := parse_made parD
  have h2 := parse_made parU
  have hs := PutT_size ⟨#[98]⟩ tyU tyD h1.1.1 h2.1.1
  have hm : tyD.size * tyU.size ≤ 4000 * 4000 := Nat.mul_le_mul h1.2.2.2 h2.2.2.2
  exact ⟨PutT_good _ _ _ (mk_good _ h1.1) (mk_good _ h2.1) (by omega) (by omega), by omega⟩

set_option maxHeartbeats 6400000 in
set_option maxRecDepth 100000 in
theorem awake_any (w : World) (hT : Tab w) : Calls Tryd.prog 8 #[] w fun e w' => e = .returned (.bool true) ∧ Below w.heap.size w w' := by
  have HT := Lib.hid hT
  clear hT
  have HL := Lib.hid freB
  have HM := Lib.hid metB
  go_enter Tryd.func8, Tryd.ntmps8
  have qp : (bytes (printT tyA)).toList = [102, 111, 114, 97, 108, 108, 32, 97, 32, 98, 46, 32, 40, 97, 32, 45, 62, 32, 84, 32, 98, 41, 32, 45, 62, 32, 98] := (bytes_toList _).trans priA
  have qq : (bytes (canonS tyA)).toList = [102, 111, 114, 97, 108, 108, 32, 120, 48, 32, 120, 49, 46, 32, 40, 120, 48, 32, 45, 62, 32, 84, 32, 120, 49, 41, 32, 45, 62, 32, 120, 49] := (bytes_toList _).trans canA
  have qr : (bytes (printT tyB)).toList = [84, 32, 97, 32, 40, 85, 32, 98, 41, 32, 63, 51, 32, 45, 62, 32, 99, 32, 45, 62, 32, 100] := (bytes_toList _).trans priB
  have qc : (bytes (canonS tyE)).toList = [102, 111, 114, 97, 108, 108, 32, 120, 49, 46, 32, 120, 48, 32, 45, 62, 32, 120, 49] := (bytes_toList _).trans canE
  have qs : (bytes (canonS (PutT ⟨#[98]⟩ tyU tyD))).toList = [102, 111, 114, 97, 108, 108, 32, 120, 48, 46, 32, 120, 48, 32, 45, 62, 32, 97] := (bytes_toList _).trans putD
  go_wp2_with fail
  refine (parse_ok _ txA (by decide) parA).mono ?_
  rintro e w1 ⟨aA, cA, rfl, hb, hR, hB⟩
  clear hb
  have B_1 := Lib.hid (hB)
  have RA_1 := Lib.hid hR
  clear hB hR
  go_wp2_with fail
  refine (parse_ok _ txB (by decide) parB).mono ?_
  rintro e w2 ⟨aB, cB, rfl, hb, hR, hB⟩
  clear hb
  have RA_2 := Lib.hid (RA_1.out.low hB)
  have B_2 := Lib.hid (B_1.out.trans (hB.mono B_1.out.size))
  have RB_2 := Lib.hid hR
  clear hB hR RA_1 B_1
  go_wp2_with fail
  refine (parse_bad _ txC (by decide) parC).mono ?_
  rintro e w3 ⟨rfl, hb, hB⟩
  clear hb
  have RA_3 := Lib.hid (RA_2.out.low hB)
  have RB_3 := Lib.hid (RB_2.out.low hB)
  have B_3 := Lib.hid (B_2.out.trans (hB.mono B_2.out.size))
  clear hB RA_2 RB_2 B_2
  go_wp2_with fail
  refine (parse_bad _ ⟨#[]⟩ (by decide) parO).mono ?_
  rintro e w4 ⟨rfl, hb, hB⟩
  clear hb
  have RA_4 := Lib.hid (RA_3.out.low hB)
  have RB_4 := Lib.hid (RB_3.out.low hB)
  have B_4 := Lib.hid (B_3.out.trans (hB.mono B_3.out.size))
  clear hB RA_3 RB_3 B_3
  have k0 := RA_4.out.k.c0
  have k1 := RA_4.out.k.c1
  have k2 := RA_4.out.k.c2
  have k3 := RA_4.out.k.c3
  have C := Lib.hid (print_h RA_4.out.at_ (small_parse parA) (tab_below HT.out B_4.out))
  go_wp2_with fail
  refine C.out.mono ?_
  rintro e w5 ⟨rfl, hB⟩
  clear C k0 k1 k2 k3
  generalize bytes (printT tyA) = p1 at *
  have RA_5 := Lib.hid (RA_4.out.low hB)
  have RB_5 := Lib.hid (RB_4.out.low hB)
  have B_5 := Lib.hid (B_4.out.trans (hB.mono B_4.out.size))
  clear hB RA_4 RB_4 B_4
  have k0 := RA_5.out.k.c0
  have k1 := RA_5.out.k.c1
  have k2 := RA_5.out.k.c2
  have k3 := RA_5.out.k.c3
  have C := Lib.hid (canon_h RA_5.out.at_ (small_parse parA) (tab_below HT.out B_5.out))
  go_wp2_with fail
  refine C.out.mono ?_
  rintro e w6 ⟨rfl, hB⟩
  clear C k0 k1 k2 k3
  generalize bytes (canonS tyA) = p2 at *
  have RA_6 := Lib.hid (RA_5.out.low hB)
  have RB_6 := Lib.hid (RB_5.out.low hB)
  have B_6 := Lib.hid (B_5.out.trans (hB.mono B_5.out.size))
  clear hB RA_5 RB_5 B_5
  have k0 := RB_6.out.k.c0
  have k1 := RB_6.out.k.c1
  have k2 := RB_6.out.k.c2
  have k3 := RB_6.out.k.c3
  have C := Lib.hid (print_h RB_6.out.at_ (small_parse parB) (tab_below HT.out B_6.out))
  go_wp2_with fail
  refine C.out.mono ?_
  rintro e w7 ⟨rfl, hB⟩
  clear C k0 k1 k2 k3
  generalize bytes (printT tyB) = p3 at *
  have RA_7 := Lib.hid (RA_6.out.low hB)
  have RB_7 := Lib.hid (RB_6.out.low hB)
  have B_7 := Lib.hid (B_6.out.trans (hB.mono B_6.out.size))
  clear hB RA_6 RB_6 B_6
  have k0 := RB_7.out.k.c0
  have k1 := RB_7.out.k.c1
  have k2 := RB_7.out.k.c2
  have k3 := RB_7.out.k.c3
  have C := Lib.hid (free_h RB_7.out.at_ (small_parse parB))
  go_wp2_with fail
  refine C.out.mono ?_
  rintro e w8 ⟨v1, rfl, own1, _, hB⟩
  obtain ⟨va1, vc1, rfl⟩ := own_form own1
  rw [HL.out] at own1 ⊢
  clear C own1 k0 k1 k2 k3
  have RA_8 := Lib.hid (RA_7.out.low hB)
  have RB_8 := Lib.hid (RB_7.out.low hB)
  have B_8 := Lib.hid (B_7.out.trans (hB.mono B_7.out.size))
  clear hB RA_7 RB_7 B_7
  have k0 := RB_8.out.k.c0
  have k1 := RB_8.out.k.c1
  have k2 := RB_8.out.k.c2
  have k3 := RB_8.out.k.c3
  have C := Lib.hid (metas_h RB_8.out.at_ (small_parse parB))
  go_wp2_with fail
  refine C.out.mono ?_
  rintro e w9 ⟨v2, rfl, own2, _, hB⟩
  obtain ⟨va2, vc2, rfl⟩ := own_form own2
  rw [HM.out] at own2 ⊢
  clear C own2 k0 k1 k2 k3
  have RA_9 := Lib.hid (RA_8.out.low hB)
  have RB_9 := Lib.hid (RB_8.out.low hB)
  have B_9 := Lib.hid (B_8.out.trans (hB.mono B_8.out.size))
  clear hB RA_8 RB_8 B_8
  go_wp2_with fail
  refine (canonf_h _ (s := txE) (by decide) parE (small_parse parE) (tab_below HT.out B_9.out)).mono ?_
  rintro e w10 ⟨rfl, hB⟩
  generalize bytes (canonS tyE) = p4 at *
  have RA_10 := Lib.hid (RA_9.out.low hB)
  have RB_10 := Lib.hid (RB_9.out.low hB)
  have B_10 := Lib.hid (B_9.out.trans (hB.mono B_9.out.size))
  clear hB RA_9 RB_9 B_9
  clear RA_10 RB_10
  go_wp2_with fail
  refine (parse_ok _ txD (by decide) parD).mono ?_
  rintro e w11 ⟨aD, cD, rfl, hb, hR, hB⟩
  clear hb
  have B_11 := Lib.hid (B_10.out.trans (hB.mono B_10.out.size))
  have RD_11 := Lib.hid hR
  clear hB hR B_10
  go_wp2_with fail
  refine (parse_ok _ txU (by decide) parU).mono ?_
  rintro e w12 ⟨aU, cU, rfl, hb, hR, hB⟩
  clear hb
  have RD_12 := Lib.hid (RD_11.out.low hB)
  have B_12 := Lib.hid (B_11.out.trans (hB.mono B_11.out.size))
  have RU_12 := Lib.hid hR
  clear hB hR RD_11 B_11
  have k0 := RD_12.out.k.c0
  have k1 := RD_12.out.k.c1
  have k2 := RD_12.out.k.c2
  have k3 := RD_12.out.k.c3
  have l0 := RU_12.out.k.c0
  have l1 := RU_12.out.k.c1
  have l2 := RU_12.out.k.c2
  have l3 := RU_12.out.k.c3
  have C := Lib.hid (put_h ⟨#[98]⟩ RD_12.out.at_ RU_12.out.at_ (small_parse parD) (small_parse parU) (tab_below HT.out B_12.out))
  go_wp2_with fail
  refine C.out.mono ?_
  rintro e w13 ⟨a9, c9, rfl, hA, hB⟩
  have HA := Lib.hid hA
  clear C hA k0 k1 k2 k3 l0 l1 l2 l3
  clear RD_12 RU_12
  have B_13 := Lib.hid (B_12.out.trans (hB.mono B_12.out.size))
  clear hB B_12
  have C := Lib.hid (canon_h HA.out small_put (tab_below HT.out B_13.out))
  go_wp2_with fail
  refine C.out.mono ?_
  rintro e w14 ⟨rfl, hB⟩
  clear C HA
  generalize bytes (canonS (PutT ⟨#[98]⟩ tyU tyD)) = p5 at *
  have B_14 := Lib.hid (B_13.out.trans (hB.mono B_13.out.size))
  clear hB B_13
  go_wp2
  go_ret
  exact ⟨rfl, B_14.out⟩

end Go.Proofs.YtifaaihekgnhiaaDoor.Tp

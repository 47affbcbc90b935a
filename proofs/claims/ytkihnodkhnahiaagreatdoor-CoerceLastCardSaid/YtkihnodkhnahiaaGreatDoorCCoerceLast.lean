/-
  Of two givens of one name the last one is meant, and givens that are not named do not matter: for every list of at most five givens and another one, whose texts are types of at most 120 bytes, and every text of at most 400 bytes that is a coercion whose Insts let types grow a little alone; at anything else the law tells what its examples tell.
-/
import Derived.Test.YtkihnodkhnahiaaGreatDoorP51
import Derived.Test.YtkihnodkhnahiaaGreatDoorP50
import Derived.Lib.AppendZeros
import Derived.Test.YtkihnodkhnahiaaGreatDoorP22
import Derived.Test.YtkihnodkhnahiaaGreatDoorCards
import Derived.Test.YtkihnodkhnahiaaGreatDoorTie
import Derived.SevenTiedAt

namespace Go.Proofs.YtkihnodkhnahiaaGreatDoor.Tp
open Go.RowKit Go.Sort
set_option maxRecDepth 100000 in
set_option maxHeartbeats 3200000 in
theorem coerceLast_walk (v0:Value)(ls:List Ln)(x:Ln)(hx:x.nm.size≤maxLen∧x.l.size≤maxLen∧x.r.size≤maxLen)(s:ByteArray)(hs:s.size≤maxLen)(w:World)(hL:LinAt w v0 ls)(hT:Tab w)(hV:Vs w):Calls Tryz.prog 4 #[v0,.agg #[.string x.nm,.string x.l,.string x.r],.string s] w fun e w'=>e=.returned (.bool true)∧Below w.heap.size w w':=by
 obtain⟨la,lc,rfl,_⟩:=id hL
 have HT:=Lib.hid hT
 have HV:=Lib.hid hV.n
 have HS:=Lib.hid hs
 have HX:=Lib.hid hx
 have RL_0:=Lib.hid hL
 clear hT hV hL hx
 have hsz:w.heap.size=w.heap.size:=by first|rfl|simp
 have hB:=(Below.refl w.heap.size w).alloc (Nat.le_refl _) (.cells #[.string x.nm,.string x.l,.string x.r] 43)
 have hnQ:=(show B3 _ w.heap.size (.string x.nm) (.string x.l) (.string x.r) from heap_alloc_new w _)
 have RL_1:=Lib.hid (RL_0.out.low hB)
 have B_1:=Lib.hid (hB)
 have RQ_1:=Lib.hid hnQ
 clear hB hnQ RL_0
 clear hsz
 go_enter Tryz.func4,Tryz.ntmps4
 have C:=Lib.hid (awake5_any _ (tab_below HT.out B_1.out) (HV.out _ B_1.out))
 go_wp2_with fail
 refine C.out.mono ?_
 rintro e w2 ⟨rfl,hB⟩
 clear C
 have RL_2:=Lib.hid (RL_1.out.low hB)
 have RQ_2:=Lib.hid (RQ_1.out.low hB)
 have B_2:=Lib.hid (B_1.out.trans (hB.mono B_1.out.size))
 clear hB RL_1 RQ_1 B_1
 have C:=Lib.hid (giv_any _ _ ls RL_2.out)
 go_wp2_with fail
 refine C.out.mono ?_
 rintro e w3 ⟨ga,gl,gc,gb,gl2,gd,ok1,rfl,hB,hres⟩
 clear C
 have hJ:GivRes _ ga gl gc (readG ls) ok1:=hres
 clear hres
 have RL_3:=Lib.hid (RL_2.out.low hB)
 have RQ_3:=Lib.hid (RQ_2.out.low hB)
 have B_3:=Lib.hid (B_2.out.trans (hB.mono B_2.out.size))
 have RJ_3:=Lib.hid hJ
 clear hB hJ RL_2 RQ_2 B_2
 clear RL_3
 have k0:=RQ_3.out.c0
 have k1:=RQ_3.out.c1
 have k2:=RQ_3.out.c2
 have hsz:w3.heap.size=w3.heap.size:=by first|rfl|simp
 have hB:=(Below.refl w3.heap.size w3).alloc (Nat.le_refl _) (.cells #[.string x.nm,.string x.l,.string x.r] 43)
 have hnM:=lin1 hsz x HX.out
 have RQ_4:=Lib.hid (RQ_3.out.low hB)
 have RJ_4:=Lib.hid (RJ_3.out.low hB)
 have B_4:=Lib.hid (B_3.out.trans (hB.mono B_3.out.size))
 have RM_4:=Lib.hid hnM
 clear hB hnM RQ_3 RJ_3 B_3
 clear hsz
 have C:=Lib.hid (giv_any _ _ [x] RM_4.out)
 go_wp2_with fail
 refine C.out.mono ?_
 rintro e w5 ⟨ha,hl,hc,hb,hl2,hd,ok2,rfl,hB,hres⟩
 clear C
 have hI:GivRes _ ha hl hc (readG [x]) ok2:=hres
 clear hres k0 k1 k2
 have RQ_5:=Lib.hid (RQ_4.out.low hB)
 have RJ_5:=Lib.hid (RJ_4.out.low hB)
 have RM_5:=Lib.hid (RM_4.out.low hB)
 have B_5:=Lib.hid (B_4.out.trans (hB.mono B_4.out.size))
 have RI_5:=Lib.hid hI
 clear hB hI RQ_4 RJ_4 RM_4 B_4
 clear RM_5
 clear RQ_5
 have C:=Lib.hid (pec_any _ (HV.out _ B_5.out) s HS.out)
 go_wp2_with fail
 refine C.out.mono ?_
 rintro e w6 ⟨c,ca,cm,cka,ckm,er,rfl,hC,hB,hres⟩
 clear C
 have RJ_6:=Lib.hid (RJ_5.out.low hB)
 have RI_6:=Lib.hid (RI_5.out.low hB)
 have B_6:=Lib.hid (B_5.out.trans (hB.mono B_5.out.size))
 have RC_6:=Lib.hid hC
 clear hB hC RJ_5 RI_5 B_5
 rcases RJ_6.out with ⟨rfl,⟨gg,hgg,hG⟩,hgl,hgn⟩|⟨rfl,hgg⟩
 ·rcases RI_6.out with ⟨rfl,⟨gh,hgh,hH⟩,hhl,hhn⟩|⟨rfl,hgh⟩
  ·rcases hres with ⟨hp,rfl⟩|⟨hp,her⟩
   ·by_cases h4:400<s.size
    ·have z4:decide ((400:Int)<(s.size:Int))=true:=decide_eq_true (by omega)
     clear hp hgn hhn hgl hhl
     go_wp2
     go_ret
     exact⟨rfl,B_6.out⟩
    ·have z4:decide ((400:Int)<(s.size:Int))=false:=decide_eq_false (by omega)
     by_cases h5:5<ls.length
     ·have z5:decide ((5:Int)<(ls.length:Int))=true:=decide_eq_true (by omega)
      have z6:(5:Int)<(ls.length:Int):=by omega
      clear hp hgn hhn hgl hhl
      go_wp2
      go_ret
      exact⟨rfl,B_6.out⟩
     ·have z5:decide ((5:Int)<(ls.length:Int))=false:=decide_eq_false (by omega)
      have z6:¬ (5:Int)<(ls.length:Int):=by omega
      have WF:=Lib.hid (parseC_wf hp)
      have RG_6:=Lib.hid hG
      have RH_6:=Lib.hid hH
      have NG:=Lib.hid hgn
      have NH:=Lib.hid hhn
      have LG:Hid (gh.length+gg.length≤4000):=Lib.hid (by have h1:=hG.len;have h2:=hH.len;omega)
      have GO:=Lib.hid (readG_ok hgg)
      have GH:=Lib.hid (readG_ok hgh)
      clear hG hH hgn hhn hgl hhl hgg hgh
      clear RJ_6
      clear RI_6
      have k0:=RC_6.out.k.c0
      have k1:=RC_6.out.k.c1
      have k2:=RC_6.out.k.c2
      have k3:=RC_6.out.k.c3
      have k4:=RC_6.out.k.c4
      have k5:=RC_6.out.k.c5
      have k6:=RC_6.out.k.c6
      have k7:=RC_6.out.k.c7
      have C:=Lib.hid (calm_h RC_6.out.at_ WF.out.1 (by have:=WF.out.2.1;omega))
      go_wp2_with fail
      refine C.out.mono ?_
      rintro e w7 ⟨rfl,hB⟩
      clear C k0 k1 k2 k3 k4 k5 k6 k7
      have RC_7:=Lib.hid (RC_6.out.low hB)
      have RG_7:=Lib.hid (RG_6.out.low hB)
      have RH_7:=Lib.hid (RH_6.out.low hB)
      have B_7:=Lib.hid (B_6.out.trans (hB.mono B_6.out.size))
      clear hB RC_6 RG_6 RH_6 B_6
      by_cases hcm:grC c≤2000
      ·rw[decide_eq_true hcm]
       have TM:=Lib.hid (parseC_tame hp (by rw[size_list];omega) hcm)
       clear hp hcm z4 h4 z5 z6 h5
       obtain⟨v1,wa,v2,w8,hr1,hr2,hB,hA⟩:=two_append (W:=w7) rfl RH_7.out RG_7.out NH.out NG.out LG.out
       have HR1_:=Lib.hid hr1
       have HR2_:=Lib.hid hr2
       clear hr1 hr2
       have RC_8:=Lib.hid (RC_7.out.low hB)
       have RG_8:=Lib.hid (RG_7.out.low hB)
       have RH_8:=Lib.hid (RH_7.out.low hB)
       have B_8:=Lib.hid (B_7.out.trans (hB.mono B_7.out.size))
       have RA_8:=Lib.hid hA
       clear hB hA RC_7 RG_7 RH_7 B_7
       have k0:=RC_8.out.k.c0
       have k1:=RC_8.out.k.c1
       have k2:=RC_8.out.k.c2
       have k3:=RC_8.out.k.c3
       have k4:=RC_8.out.k.c4
       have k5:=RC_8.out.k.c5
       have k6:=RC_8.out.k.c6
       have k7:=RC_8.out.k.c7
       have C:=Lib.hid (says_h GO.out RG_8.out RC_8.out.at_ TM.out (tab_below HT.out B_8.out))
       go_wp2_with (first|(at_builtin;refine Lib.wpList_append_run _ rfl _ _ _ _ rfl _ _ rfl rfl _ _ HR1_.out ?_)|(at_builtin;refine Lib.wpList_append_run _ rfl _ _ _ _ rfl _ _ rfl rfl _ _ HR2_.out ?_))
       refine C.out.mono ?_
       rintro e w9 ⟨x1,y1,x1a,x1c,y1a,y1c,e1,rfl,hX,hY,hB,hr1⟩
       clear C k0 k1 k2 k3 k4 k5 k6 k7 HR1_ HR2_
       have HR1:=Lib.hid hr1
       clear hr1
       have RC_9:=Lib.hid (RC_8.out.low hB)
       have RG_9:=Lib.hid (RG_8.out.low hB)
       have RH_9:=Lib.hid (RH_8.out.low hB)
       have RA_9:=Lib.hid (RA_8.out.low hB)
       have B_9:=Lib.hid (B_8.out.trans (hB.mono B_8.out.size))
       have RX1_9:=Lib.hid hX
       have RY1_9:=Lib.hid hY
       clear hB hX hY RC_8 RG_8 RH_8 RA_8 B_8
       have k0:=RC_9.out.k.c0
       have k1:=RC_9.out.k.c1
       have k2:=RC_9.out.k.c2
       have k3:=RC_9.out.k.c3
       have k4:=RC_9.out.k.c4
       have k5:=RC_9.out.k.c5
       have k6:=RC_9.out.k.c6
       have k7:=RC_9.out.k.c7
       have C:=Lib.hid (says_h (giv_app GH.out GO.out) RA_9.out RC_9.out.at_ TM.out (tab_below HT.out B_9.out))
       go_wp2_with fail
       refine C.out.mono ?_
       rintro e w10 ⟨x2,y2,x2a,x2c,y2a,y2c,e2,rfl,hX,hY,hB,hr2⟩
       clear C k0 k1 k2 k3 k4 k5 k6 k7
       have HR2:=Lib.hid hr2
       clear hr2
       have RC_10:=Lib.hid (RC_9.out.low hB)
       have RG_10:=Lib.hid (RG_9.out.low hB)
       have RH_10:=Lib.hid (RH_9.out.low hB)
       have RA_10:=Lib.hid (RA_9.out.low hB)
       have RX1_10:=Lib.hid (RX1_9.out.low hB)
       have RY1_10:=Lib.hid (RY1_9.out.low hB)
       have B_10:=Lib.hid (B_9.out.trans (hB.mono B_9.out.size))
       have RX2_10:=Lib.hid hX
       have RY2_10:=Lib.hid hY
       clear hB hX hY RC_9 RG_9 RH_9 RA_9 RX1_9 RY1_9 B_9
       clear RC_10
       clear RA_10
       clear RG_10
       clear RH_10
       cases hsay:saysC gg c with
       | none =>
        obtain rfl:e1=50:=by
         rcases HR1.out with ⟨h,_⟩|⟨_,h⟩
         ·rw[hsay] at h;cases h
         ·exact h
        go_wp2
        go_ret
        exact⟨rfl,B_10.out⟩
       | some pr =>
        obtain⟨rfl,rfl⟩:pr=(x1,y1)∧e1=0:=by
         rcases HR1.out with ⟨h,h2⟩|⟨h,_⟩
         ·rw[hsay] at h;injection h with h;exact⟨h,h2⟩
         ·rw[hsay] at h;cases h
        have hsay2:saysC (gh++gg) c=some (x1,y1):=saysF_app gh gg _ _ _ hsay
        obtain⟨rfl,rfl,rfl⟩:x2=x1∧y2=y1∧e2=0:=by
         rcases HR2.out with ⟨h,h2⟩|⟨h,_⟩
         ·rw[hsay2] at h;injection h with h;injection h with h3 h4;exact⟨h3.symm,h4.symm,h2⟩
         ·rw[hsay2] at h;cases h
        have SM:=Lib.hid (says_small GO.out TM.out hsay)
        clear hsay hsay2 HR1 HR2
        have k0:=RX1_10.out.k.c0
        have k1:=RX1_10.out.k.c1
        have k2:=RX1_10.out.k.c2
        have k3:=RX1_10.out.k.c3
        have l0:=RX2_10.out.k.c0
        have l1:=RX2_10.out.k.c1
        have l2:=RX2_10.out.k.c2
        have l3:=RX2_10.out.k.c3
        have C:=Lib.hid (same_eq RX1_10.out.at_ RX2_10.out.at_ SM.out.1 SM.out.1 rfl (tab_below HT.out B_10.out))
        go_wp2_with fail
        refine C.out.mono ?_
        rintro e w11 ⟨rfl,hB⟩
        clear C k0 k1 k2 k3 l0 l1 l2 l3
        have RX1_11:=Lib.hid (RX1_10.out.low hB)
        have RY1_11:=Lib.hid (RY1_10.out.low hB)
        have RX2_11:=Lib.hid (RX2_10.out.low hB)
        have RY2_11:=Lib.hid (RY2_10.out.low hB)
        have B_11:=Lib.hid (B_10.out.trans (hB.mono B_10.out.size))
        clear hB RX1_10 RY1_10 RX2_10 RY2_10 B_10
        have k0:=RY1_11.out.k.c0
        have k1:=RY1_11.out.k.c1
        have k2:=RY1_11.out.k.c2
        have k3:=RY1_11.out.k.c3
        have l0:=RY2_11.out.k.c0
        have l1:=RY2_11.out.k.c1
        have l2:=RY2_11.out.k.c2
        have l3:=RY2_11.out.k.c3
        have C:=Lib.hid (same_eq RY1_11.out.at_ RY2_11.out.at_ SM.out.2 SM.out.2 rfl (tab_below HT.out B_11.out))
        go_wp2_with fail
        refine C.out.mono ?_
        rintro e w12 ⟨rfl,hB⟩
        clear C k0 k1 k2 k3 l0 l1 l2 l3
        have RX1_12:=Lib.hid (RX1_11.out.low hB)
        have RY1_12:=Lib.hid (RY1_11.out.low hB)
        have RX2_12:=Lib.hid (RX2_11.out.low hB)
        have RY2_12:=Lib.hid (RY2_11.out.low hB)
        have B_12:=Lib.hid (B_11.out.trans (hB.mono B_11.out.size))
        clear hB RX1_11 RY1_11 RX2_11 RY2_11 B_11
        go_wp2
        go_ret
        exact⟨rfl,B_12.out⟩
      ·rw[decide_eq_false hcm]
       clear hp
       go_wp2
       go_ret
       exact⟨rfl,B_7.out⟩
   ·have z0:((er:Int) != 0)=true:=by rw[bne_iff_ne];omega
    clear hp hgn hhn hgl hhl
    go_wp2
    go_ret
    exact⟨rfl,B_6.out⟩
  ·go_wp2
   go_ret
   exact⟨rfl,B_6.out⟩
 ·go_wp2
  go_ret
  exact⟨rfl,B_6.out⟩
end Go.Proofs.YtkihnodkhnahiaaGreatDoor.Tp

namespace Go.Proofs.YtkihnodkhnahiaaGreatDoor.coerceLast
open Go.ChangeShapes Go.WideShapes Go.ChangeAt Go.WideMaps Go.WideElems Go.RowKit
open Go.ChangeMaps (open_string shut_string)
open Tp (Tab laidL tab_of_laid vs_of_laid door_met own laidOut)

/-! ### the row's step, as the kit's worked example (a law over laid variables) has it -/
set_option linter.unusedVariables false in
set_option maxRecDepth 100000 in
theorem lifted (os : Os) (started : os.Started) (H : Type) (enc : TypeId × Value → H) :
    ReturnsInHanded {} Tryz.checked os 4 .any (fun w args => (Rows.coerceLastSpec.pre enc Tryz.prog Tryz.f4 [] false w args ∧ laidMetH Tryz.prog laidL w) ∧ sizedMet enc Tryz.prog Tryz.f4 (OpenSpec.ofChange Rows.coerceLastSpec) false w args)
      (Rows.coerceLastSpec.post enc Tryz.prog Tryz.f4 false true false false) := by
  refine returnsInHanded_of_change_and (C := Tryz.checked) (X := fun w _ => laidMetH Tryz.prog laidL w) (fun _ _ _ hh h => h.of_heap hh) own started (by kernel_rfl) Tryz.func4
    (ChangeSpec.witness_shaped (enc := enc) (C := Tryz.checked) (os := os) (X := fun w _ => laidMetH Tryz.prog laidL w) false (World.doorLaid Tryz.prog 400 os) #[.slice none 0 0, .agg #[.string ByteArray.empty, .string ByteArray.empty, .string ByteArray.empty], .string ByteArray.empty] 8 rfl (World.shaped_of_RefB (by kernel_rfl) (by kernel_rfl)) (by kernel_rfl) (by kernel_rfl) (by kernel_rfl) (door_met os _)) ?_
  intro W base args ds gs before hval0 hW _ _ hL _
  have hval : ∀ (j : Nat) t v, Tryz.f4.params[j]? = some t → args[j]? = some v → Value.okWide Tryz.prog W .any base t v := hval0
  have hW' := hW
  obtain ⟨p, q, hA0, hV, rfl, hfz, hnd⟩ := hW
  have hA : DataW.TrodAll enc Tryz.prog W 0 (fun _ => true) true Tryz.f4.params.toList args.toList ds p := hA0
  rw [Tryz.params4] at hA hval
  obtain ⟨v0, vs0, d0, ds0, p0, q0, hargs, rfl, rfl, h0, r0⟩ := trodAll_cons hA
  obtain ⟨v1, vs1, d1, ds1, p1, q1, rfl, rfl, rfl, h1, r1⟩ := trodAll_cons r0
  obtain ⟨v2, vs2, d2, ds2, p2, q2, rfl, rfl, rfl, h2, r2⟩ := trodAll_cons r1
  obtain ⟨rfl, rfl, rfl⟩ := trodAll_nil r2
  obtain rfl : args = #[v0, v1, v2] := by cases args; simp_all
  obtain ⟨rfl, rfl⟩ := trodVars_none hV
  have k0 := h0
  have lt0 : ∀ x ∈ p0, x.block < W.heap.size := by obtain ⟨m, hm⟩ := k0; exact DataW.trod_lt m _ _ _ hm
  obtain ⟨a0, w0⟩ := Tp.opnL (hval 0 22 v0 rfl rfl) h0
  have k1 := h1
  have lt1 : ∀ x ∈ p1, x.block < W.heap.size := by obtain ⟨m, hm⟩ := k1; exact DataW.trod_lt m _ _ _ hm
  obtain ⟨a1, w1⟩ := Tp.opnN (hval 1 43 v1 rfl rfl) h1
  obtain ⟨rfl, w1⟩ := w1
  obtain ⟨a2, rfl, rfl, rfl, w2⟩ := open_string Tryz.underlying9 (hval 2 9 v2 rfl rfl) h2
  clear hA0 hval0
  refine (Tp.coerceLast_walk v0 a0 a1 w1 a2 w2 W w0 (tab_of_laid hL) (vs_of_laid hL)).mono fun e W' ⟨he, bel⟩ => ?_
  subst he
  exact ⟨_, rfl, _, _, _, [], _, [], hW', trodAll_mk1 (shut_bool Tryz.underlying4 _), (trodAll_cons_mk (Below.trod laidOut (by kernel_rfl) (of_decide_eq_true (by kernel_rfl)) k0 bel lt0) (trodAll_cons_mk (Below.trod laidOut (by kernel_rfl) (of_decide_eq_true (by kernel_rfl)) k1 bel lt1) (trodAll_cons_mk (shut_string Tryz.underlying9 w2) trodAll_mk0))), rfl, bel.frame _, fun h => by cases h⟩

theorem row_holds : Rows.CoerceLastSaid :=
  OpenClaim.holds_of_wide 4 Tryz.f4 rfl rfl rfl rfl rfl rfl rfl ⟨rfl, rfl, rfl, rfl, rfl⟩ rfl rfl rfl rfl rfl (by kernel_rfl) Tryz.func4 (by kernel_rfl)
    (of_decide_eq_true (by kernel_rfl)) (by unfold Func.isWrapper; first | (rw [if_pos (by decide +kernel)]; kernel_rfl) | (rw [if_neg (by decide +kernel)]; exact ⟨rfl, rfl⟩))
    (fun os started H enc _ => lifted os started H enc)

/-- THE STATEMENT: the row, tied to the program's text. -/
theorem proved : Rows.CoerceLastCardSaid :=
  Claim7.holds_tied_plain_at .later [] [.data, .data, .data, .sentinel, .sentinel] true Rows.coerceLastCard.stood.harness true
    row_holds (fun _ h => by cases h) (by kernel_rfl) (fun _ h => by cases h) coerceLast_row_tie rfl ⟨rfl, rfl⟩ (by kernel_rfl) rfl
    (fun f fn hf hfn => by
      obtain rfl : f = 4 := Option.some.inj ((show Tryz.prog.funcNamed "savant/savantlaw05.CoerceLast" = some 4 by kernel_rfl).symm.trans hf) |>.symm
      obtain rfl : fn = Tryz.f4 := (Option.some.inj (Tryz.func4.symm.trans hfn)).symm
      exact ⟨by kernel_rfl, fun j t ht => by
        rw [Tryz.params4] at ht
        have hm : t ∈ [22, 43, 9] := by simpa using Array.mem_of_getElem? ht
        have hall : ([22, 43, 9].all fun u => !Tryz.prog.wantsStandIn u) = true := by kernel_rfl
        exact (show Tryz.prog.wantsStandIn t = false by simpa using List.all_eq_true.1 hall t hm)⟩)
    (by kernel_rfl)
#print axioms proved
end Go.Proofs.YtkihnodkhnahiaaGreatDoor.coerceLast

/-
  Whether any text is a coercion, and how it is written, is as the document says, and what was written is read (or it is too long to be read): for every text; no conditions. The card ties the library's tables to the program's text.
-/
import Derived.Test.YtkihnodkhnahiaaGreatDoorP44
import Derived.Test.YtkihnodkhnahiaaGreatDoorP52
import Derived.Test.YtkihnodkhnahiaaGreatDoorCards
import Derived.Test.YtkihnodkhnahiaaGreatDoorTie
import Derived.SevenTiedAt

namespace Go.Proofs.YtkihnodkhnahiaaGreatDoor.Tp
open Go.RowKit Go.Sort
open Lx
set_option maxRecDepth 100000 in
set_option maxHeartbeats 3200000 in
theorem coerceReads_walk (s:ByteArray)(hs:s.size≤maxLen)(w:World)(hT:Tab w)(hV:Vs w):Calls Tryz.prog 6 #[.string s] w fun e w'=>e=.returned (.bool true)∧Below w.heap.size w w':=by
 have HT:=hid hT
 have HV:=hid hV.n
 have HS:=hid hs
 clear hT hV
 go_enter Tryz.func6,Tryz.ntmps6
 have C:=hid (rY_ _ HT.out HV.out.at_)
 go_wp2_with fail
 refine C.out.mono ?_
 rintro e w1 ⟨rfl,hB⟩
 clear C
 have B_1:=hid (hB)
 clear hB
 have C:=hid (q7_ _ (HV.out _ B_1.out) s HS.out)
 go_wp2_with fail
 refine C.out.mono ?_
 rintro e w2 ⟨c,ca,cm,cka,ckm,er,rfl,hC,hB,hres⟩
 clear C
 have B_2:=hid (B_1.out.trans (hB.mono B_1.out.size))
 have RC_2:=hid hC
 clear hB hC B_1
 go_wp2_with fail
 refine (pez_any _ s HS.out).mono ?_
 rintro e w3 ⟨d,da,dm,dka,dkm,fr,rfl,hD,hB,hres2⟩
 have RC_3:=hid (RC_2.out.low hB)
 have B_3:=hid (B_2.out.trans (hB.mono B_2.out.size))
 have RD_3:=hid hD
 clear hB hD RC_2 B_2
 rcases hres with ⟨hp,rfl⟩|⟨hp,her⟩
 ·obtain⟨rfl,rfl⟩:d=c∧fr=0:=by
   rcases hres2 with ⟨h,h2⟩|⟨h,_⟩
   ·rw[hp] at h;injection h with h;exact⟨h.symm,h2⟩
   ·rw[hp] at h;cases h
  have HP:=hid hp
  have PO:=hid (q8_ hp)
  clear hp hres2
  have hml:(aa_ (an_ d)).size≤maxLen:=by rw[am_];have:=PO.out.2;unfold maxLen;omega
  have HML:=hid hml
  clear hml
  obtain⟨k0,k1,k2,k3,k4,k5,k6,k7⟩:=RC_3.out.k.c07
  have C:=hid (sY_ RC_3.out.at_ PO.out (ag_ HT.out B_3.out))
  go_wp2_with fail
  refine C.out.mono ?_
  rintro e w4 ⟨rfl,hB⟩
  clear C k0 k1 k2 k3 k4 k5 k6 k7
  have RC_4:=hid (RC_3.out.low hB)
  have RD_4:=hid (RD_3.out.low hB)
  have B_4:=hid (B_3.out.trans (hB.mono B_3.out.size))
  clear hB RC_3 RD_3 B_3
  have EB:Hid ((aa_ (an_ d)).data.toList=an_ d):=hid (dC_ _)
  have C:=hid (q7_ _ (HV.out _ B_4.out) (aa_ (an_ d)) HML.out)
  go_wp2_with fail
  refine C.out.mono ?_
  rintro e w5 ⟨x,xa,xm,xka,xkm,er3,rfl,hC,hB,hres3⟩
  clear C
  have RC_5:=hid (RC_4.out.low hB)
  have RD_5:=hid (RD_4.out.low hB)
  have B_5:=hid (B_4.out.trans (hB.mono B_4.out.size))
  have RX_5:=hid hC
  clear hB hC RC_4 RD_4 B_4
  rw[EB.out] at hres3
  by_cases h4:4000<(an_ d).length
  ·obtain rfl:er3=2:=by
    rcases hres3 with ⟨h,_⟩|⟨h,_⟩
    ·rw[q9_ h4] at h;cases h
    ·rw[q9_ h4] at h;injection h with h;exact h.symm
   clear hres3 h4
   go_wp2
   go_ret
   exact⟨rfl,B_5.out⟩
  ·obtain⟨rfl,rfl⟩:x=d∧er3=0:=by
    rcases hres3 with ⟨h,h2⟩|⟨h,_⟩
    ·rw[qu_ HP.out (by omega)] at h;injection h with h;exact⟨h.symm,h2⟩
    ·rw[qu_ HP.out (by omega)] at h;cases h
   clear hres3 h4
   obtain⟨k0,k1,k2,k3,k4,k5,k6,k7⟩:=RX_5.out.k.c07
   have C:=hid (sY_ RX_5.out.at_ PO.out (ag_ HT.out B_5.out))
   go_wp2_with fail
   refine C.out.mono ?_
   rintro e w6 ⟨rfl,hB⟩
   clear C k0 k1 k2 k3 k4 k5 k6 k7
   have RC_6:=hid (RC_5.out.low hB)
   have RD_6:=hid (RD_5.out.low hB)
   have RX_6:=hid (RX_5.out.low hB)
   have B_6:=hid (B_5.out.trans (hB.mono B_5.out.size))
   clear hB RC_5 RD_5 RX_5 B_5
   obtain⟨l0,l1,l2,l3,l4,l5,l6,l7⟩:=RD_6.out.k.c07
   have C:=hid (se_ RD_6.out.at_ PO.out)
   go_wp2_with fail
   refine C.out.mono ?_
   rintro e w7 ⟨rfl,hB⟩
   clear C l0 l1 l2 l3 l4 l5 l6 l7
   have RC_7:=hid (RC_6.out.low hB)
   have RD_7:=hid (RD_6.out.low hB)
   have RX_7:=hid (RX_6.out.low hB)
   have B_7:=hid (B_6.out.trans (hB.mono B_6.out.size))
   clear hB RC_6 RD_6 RX_6 B_6
   generalize aa_ (an_ x)=p1 at *
   go_wp2
   go_ret
   exact⟨rfl,B_7.out⟩
 ·obtain rfl:fr=er:=by
   rcases hres2 with ⟨h,_⟩|⟨h,_⟩
   ·rw[hp] at h;cases h
   ·rw[hp] at h;injection h with h;exact h.symm
  clear hp hres2
  have z0:((fr:Int) != 0)=true:=by rw[bne_iff_ne];omega
  have z1:((fr:Int) != (fr:Int))=false:=by simp
  go_wp2
  go_ret
  exact⟨rfl,B_3.out⟩
end Go.Proofs.YtkihnodkhnahiaaGreatDoor.Tp

namespace Go.Proofs.YtkihnodkhnahiaaGreatDoor.coerceReads
open Go.ChangeShapes Go.WideShapes Go.ChangeAt Go.WideMaps Go.WideElems Go.RowKit
open Go.ChangeMaps (open_string shut_string)
open Tp (Tab rm_ qQ_ rW_ sX_ own laidOut)

/-! ### the row's step, as the kit's worked example (a law over laid variables) has it -/
set_option linter.unusedVariables false in
set_option maxRecDepth 100000 in
theorem lifted (os : Os) (started : os.Started) (H : Type) (enc : TypeId × Value → H) :
    ReturnsInHanded {} Tryz.checked os 6 .any (fun w args => (Rows.coerceReadsSpec.pre enc Tryz.prog Tryz.f6 [] false w args ∧ laidMetH Tryz.prog rm_ w) ∧ sizedMet enc Tryz.prog Tryz.f6 (OpenSpec.ofChange Rows.coerceReadsSpec) false w args)
      (Rows.coerceReadsSpec.post enc Tryz.prog Tryz.f6 false true false false) := by
  refine returnsInHanded_of_change_and (C := Tryz.checked) (X := fun w _ => laidMetH Tryz.prog rm_ w) (fun _ _ _ hh h => h.of_heap hh) own started (by kernel_rfl) Tryz.func6
    (ChangeSpec.witness_shaped (enc := enc) (C := Tryz.checked) (os := os) (X := fun w _ => laidMetH Tryz.prog rm_ w) false (World.doorLaid Tryz.prog 400 os) #[.string ByteArray.empty] 8 rfl (World.shaped_of_RefB (by kernel_rfl) (by kernel_rfl)) (by kernel_rfl) (by kernel_rfl) (by kernel_rfl) (sX_ os _)) ?_
  intro W base args ds gs before hval0 hW _ _ hL _
  have hval : ∀ (j : Nat) t v, Tryz.f6.params[j]? = some t → args[j]? = some v → Value.okWide Tryz.prog W .any base t v := hval0
  have hW' := hW
  obtain ⟨p, q, hA0, hV, rfl, hfz, hnd⟩ := hW
  have hA : DataW.TrodAll enc Tryz.prog W 0 (fun _ => true) true Tryz.f6.params.toList args.toList ds p := hA0
  rw [Tryz.params6] at hA hval
  obtain ⟨v0, vs0, d0, ds0, p0, q0, hargs, rfl, rfl, h0, r0⟩ := trodAll_cons hA
  obtain ⟨rfl, rfl, rfl⟩ := trodAll_nil r0
  obtain rfl : args = #[v0] := by cases args; simp_all
  obtain ⟨rfl, rfl⟩ := trodVars_none hV
  obtain ⟨a0, rfl, rfl, rfl, w0⟩ := open_string Tryz.underlying9 (hval 0 9 v0 rfl rfl) h0
  clear hA0 hval0
  refine (Tp.coerceReads_walk a0 w0 W  (qQ_ hL) (rW_ hL)).mono fun e W' ⟨he, bel⟩ => ?_
  subst he
  exact ⟨_, rfl, _, _, _, [], _, [], hW', trodAll_mk1 (shut_bool Tryz.underlying4 _), (trodAll_cons_mk (shut_string Tryz.underlying9 w0) trodAll_mk0), rfl, bel.frame _, fun h => by cases h⟩

theorem row_holds : Rows.CoerceReadsSaid :=
  OpenClaim.holds_of_wide 6 Tryz.f6 rfl rfl rfl rfl rfl rfl rfl ⟨rfl, rfl, rfl, rfl, rfl⟩ rfl rfl rfl rfl rfl (by kernel_rfl) Tryz.func6 (by kernel_rfl)
    (of_decide_eq_true (by kernel_rfl)) (by unfold Func.isWrapper; first | (rw [if_pos (by decide +kernel)]; kernel_rfl) | (rw [if_neg (by decide +kernel)]; exact ⟨rfl, rfl⟩))
    (fun os started H enc _ => lifted os started H enc)

/-- THE STATEMENT: the row, tied to the program's text. -/
theorem proved : Rows.CoerceReadsCardSaid :=
  Claim7.holds_tied_plain_at .later [] [.data, .data, .data, .sentinel, .sentinel] true Rows.coerceReadsCard.stood.harness true
    row_holds (fun _ h => by cases h) (by kernel_rfl) (fun _ h => by cases h) coerceReads_row_tie rfl ⟨rfl, rfl⟩ (by kernel_rfl) rfl
    (fun f fn hf hfn => by
      obtain rfl : f = 6 := Option.some.inj ((show Tryz.prog.funcNamed "savant/savantlaw05.CoerceReads" = some 6 by kernel_rfl).symm.trans hf) |>.symm
      obtain rfl : fn = Tryz.f6 := (Option.some.inj (Tryz.func6.symm.trans hfn)).symm
      exact ⟨by kernel_rfl, fun j t ht => by
        rw [Tryz.params6] at ht
        have hm : t ∈ [9] := by simpa using Array.mem_of_getElem? ht
        have hall : ([9].all fun u => !Tryz.prog.wantsStandIn u) = true := by kernel_rfl
        exact (show Tryz.prog.wantsStandIn t = false by simpa using List.all_eq_true.1 hall t hm)⟩)
    (by kernel_rfl)
#print axioms proved
end Go.Proofs.YtkihnodkhnahiaaGreatDoor.coerceReads

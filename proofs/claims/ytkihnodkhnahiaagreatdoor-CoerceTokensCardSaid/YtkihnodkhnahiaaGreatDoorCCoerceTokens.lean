/-
  Reading a coercion from the begin of tokens takes as many of them, and makes the coercion, as the document says: for every text, of which the law reads the tokens where it has some; no conditions. The card ties the library's tables to the program's text.
-/
import Derived.Test.YtkihnodkhnahiaaGreatDoorP44
import Derived.Test.YtkihnodkhnahiaaGreatDoorP52
import Derived.Test.YtkihnodkhnahiaaGreatDoorCards
import Derived.Test.YtkihnodkhnahiaaGreatDoorTie
import Derived.SevenTiedAt

namespace Go.Proofs.YtkihnodkhnahiaaGreatDoor.Tp
open Go.RowKit Go.Sort
open Lx
set_option maxRecDepth 100000 in
set_option maxHeartbeats 3200000 in
theorem coerceTokens_walk (s:ByteArray)(hs:s.size≤maxLen)(w:World)(hT:Tab w)(hV:Vs w):Calls Tryz.prog 7 #[.string s] w fun e w'=>e=.returned (.bool true)∧Below w.heap.size w w':=by
 have HT:=hid hT
 have HV:=hid hV.n
 clear hT hV
 rcases hsc:bZ_ s.data.toList with ⟨ts,p,er⟩
 have hrr:=lM_ s.data.toList
 have hok:∀ t∈(bZ_ s.data.toList).1,bu_ t:=fun t ht=>pG_ t (ds_ s.data.toList t ht)
 have hlen:=cv_ s.data.toList
 rw[hsc] at hrr hok hlen
 replace hlen:ts.length≤4000:=hlen
 replace hok:∀ t∈ts,bu_ t:=hok
 replace hrr:f1_ ts:=hrr
 have HR:=hid hrr
 have HOK:=hid hok
 have CS:=hid (fun (W:World)=>scan_h s W hs hsc)
 have MD:=hid (fun (c:Co) (r:List Lx.Tok)=>qJ_ hsc (c:=c) (r:=r))
 clear hsc hrr hok
 by_cases her:er=0
 ·subst her
  cases hT:en_ ts with
  | none =>
   have HTT:=hid hT
   clear hT
   go_enter Tryz.func7,Tryz.ntmps7
   have C:=hid (qK_ _ HT.out HV.out.at_)
   go_wp2_with fail
   refine C.out.mono ?_
   rintro e w1 ⟨rfl,hB⟩
   clear C
   have B_1:=hid (hB)
   clear hB
   go_wp2_with fail
   refine (CS.out _).mono ?_
   rintro e w2 ⟨va,vc,rfl,hR,hB⟩
   have B_2:=hid (B_1.out.trans (hB.mono B_1.out.size))
   have RK_2:=hid hR
   clear hB hR B_1
   have C:=hid (rB_ RK_2.out (HV.out _ B_2.out) HOK.out hlen HTT.out)
   go_wp2_with fail
   refine C.out.mono ?_
   rintro e w3 ⟨rfl,hB⟩
   clear C
   have RK_3:=hid (RK_2.out.low hB)
   have B_3:=hid (B_2.out.trans (hB.mono B_2.out.size))
   clear hB RK_2 B_2
   have C:=hid (q0_ RK_3.out HR.out HOK.out hlen HTT.out)
   go_wp2_with fail
   refine C.out.mono ?_
   rintro e w4 ⟨jk,js,jn,jt,ju,jv,ja,jl,jc,jb,jm,jd,rfl,hB⟩
   clear C
   have RK_4:=hid (RK_3.out.low hB)
   have B_4:=hid (B_3.out.trans (hB.mono B_3.out.size))
   clear hB RK_3 B_3
   go_wp2
   go_ret
   exact⟨rfl,B_4.out⟩
  | some x =>
   obtain⟨c,r⟩:=x
   have HTT:=hid hT
   obtain⟨hpo,hr⟩:=MD.out c r hT
   have PO:=hid hpo
   have hk:((ts.length:Int) - ((ts.length - r.length:Nat):Int))=(r.length:Int):=by omega
   have HK:=hid hk
   have z0:decide (((ts.length - r.length:Nat):Int)<0)=false:=by rw[decide_eq_false_iff_not];omega
   have z1:¬ ((ts.length - r.length:Nat):Int)<0:=by omega
   have hkb:ts.length - r.length≤4000:=by omega
   have hrb:r.length≤4000:=by omega
   clear hT hpo hk hr
   go_enter Tryz.func7,Tryz.ntmps7
   have C:=hid (qK_ _ HT.out HV.out.at_)
   go_wp2_with fail
   refine C.out.mono ?_
   rintro e w1 ⟨rfl,hB⟩
   clear C
   have B_1:=hid (hB)
   clear hB
   go_wp2_with fail
   refine (CS.out _).mono ?_
   rintro e w2 ⟨va,vc,rfl,hR,hB⟩
   have B_2:=hid (B_1.out.trans (hB.mono B_1.out.size))
   have RK_2:=hid hR
   clear hB hR B_1
   have C:=hid (rA_ RK_2.out (HV.out _ B_2.out) HOK.out hlen HTT.out)
   go_wp2_with fail
   refine C.out.mono ?_
   rintro e w3 ⟨ca,cm,cka,ckm,a2,c2,rfl,hC,hB⟩
   clear C
   have RK_3:=hid (RK_2.out.low hB)
   have B_3:=hid (B_2.out.trans (hB.mono B_2.out.size))
   have RM_3:=hid hC
   clear hB hC RK_2 B_2
   have C:=hid (qZ_ RK_3.out HR.out HOK.out hlen HTT.out)
   go_wp2_with fail
   refine C.out.mono ?_
   rintro e w4 ⟨da,dm,dka,dkm,rfl,hD,hB⟩
   clear C
   have RK_4:=hid (RK_3.out.low hB)
   have RM_4:=hid (RM_3.out.low hB)
   have B_4:=hid (B_3.out.trans (hB.mono B_3.out.size))
   have RD_4:=hid hD
   clear hB hD RK_3 RM_3 B_3
   generalize hj:ts.length - r.length=j at *
   have HJ:=hid hj
   have zk:((r.length:Int)==(ts.length:Int) - (j:Int))=true:=by rw[HK.out];simp
   clear hj
   obtain⟨k0,k1,k2,k3,k4,k5,k6,k7⟩:=RM_4.out.k.c07
   have C:=hid (rC_ RM_4.out.at_ PO.out (ah_ HT.out B_4.out))
   go_wp2_with fail
   refine C.out.mono ?_
   rintro e w5 ⟨rfl,hB⟩
   clear C k0 k1 k2 k3 k4 k5 k6 k7
   have RK_5:=hid (RK_4.out.low hB)
   have RM_5:=hid (RM_4.out.low hB)
   have RD_5:=hid (RD_4.out.low hB)
   have B_5:=hid (B_4.out.trans (hB.mono B_4.out.size))
   clear hB RK_4 RM_4 RD_4 B_4
   obtain⟨l0,l1,l2,l3,l4,l5,l6,l7⟩:=RD_5.out.k.c07
   have C:=hid (q1_ RD_5.out.at_ PO.out)
   go_wp2_with fail
   refine C.out.mono ?_
   rintro e w6 ⟨rfl,hB⟩
   clear C l0 l1 l2 l3 l4 l5 l6 l7
   have RK_6:=hid (RK_5.out.low hB)
   have RM_6:=hid (RM_5.out.low hB)
   have RD_6:=hid (RD_5.out.low hB)
   have B_6:=hid (B_5.out.trans (hB.mono B_5.out.size))
   clear hB RK_5 RM_5 RD_5 B_5
   generalize aa_ (al_ c)=p1 at *
   go_wp2
   go_ret
   exact⟨rfl,B_6.out⟩
 ·have hz:((er:Int) != 0)=true:=by rw[bne_iff_ne];omega
  go_enter Tryz.func7,Tryz.ntmps7
  have C:=hid (qK_ _ HT.out HV.out.at_)
  go_wp2_with fail
  refine C.out.mono ?_
  rintro e w1 ⟨rfl,hB⟩
  clear C
  have B_1:=hid (hB)
  clear hB
  go_wp2_with fail
  refine (CS.out _).mono ?_
  rintro e w2 ⟨va,vc,rfl,hR,hB⟩
  have B_2:=hid (B_1.out.trans (hB.mono B_1.out.size))
  have RK_2:=hid hR
  clear hB hR B_1
  go_wp2
  go_ret
  exact⟨rfl,B_2.out⟩
end Go.Proofs.YtkihnodkhnahiaaGreatDoor.Tp

namespace Go.Proofs.YtkihnodkhnahiaaGreatDoor.coerceTokens
open Go.ChangeShapes Go.WideShapes Go.ChangeAt Go.WideMaps Go.WideElems Go.RowKit
open Go.ChangeMaps (open_string shut_string)
open Tp (Tab p9_ pH_ qI_ rz_ own laidOut)

/-! ### the row's step, as the kit's worked example (a law over laid variables) has it -/
set_option linter.unusedVariables false in
set_option maxRecDepth 100000 in
theorem lifted (os : Os) (started : os.Started) (H : Type) (enc : TypeId × Value → H) :
    ReturnsInHanded {} Tryz.checked os 7 .any (fun w args => (Rows.coerceTokensSpec.pre enc Tryz.prog Tryz.f7 [] false w args ∧ laidMetH Tryz.prog p9_ w) ∧ sizedMet enc Tryz.prog Tryz.f7 (OpenSpec.ofChange Rows.coerceTokensSpec) false w args)
      (Rows.coerceTokensSpec.post enc Tryz.prog Tryz.f7 false true false false) := by
  refine returnsInHanded_of_change_and (C := Tryz.checked) (X := fun w _ => laidMetH Tryz.prog p9_ w) (fun _ _ _ hh h => h.of_heap hh) own started (by kernel_rfl) Tryz.func7
    (ChangeSpec.witness_shaped (enc := enc) (C := Tryz.checked) (os := os) (X := fun w _ => laidMetH Tryz.prog p9_ w) false (World.doorLaid Tryz.prog 400 os) #[.string ByteArray.empty] 8 rfl (World.shaped_of_RefB (by kernel_rfl) (by kernel_rfl)) (by kernel_rfl) (by kernel_rfl) (by kernel_rfl) (rz_ os _)) ?_
  intro W base args ds gs before hval0 hW _ _ hL _
  have hval : ∀ (j : Nat) t v, Tryz.f7.params[j]? = some t → args[j]? = some v → Value.okWide Tryz.prog W .any base t v := hval0
  have hW' := hW
  obtain ⟨p, q, hA0, hV, rfl, hfz, hnd⟩ := hW
  have hA : DataW.TrodAll enc Tryz.prog W 0 (fun _ => true) true Tryz.f7.params.toList args.toList ds p := hA0
  rw [Tryz.params7] at hA hval
  obtain ⟨v0, vs0, d0, ds0, p0, q0, hargs, rfl, rfl, h0, r0⟩ := trodAll_cons hA
  obtain ⟨rfl, rfl, rfl⟩ := trodAll_nil r0
  obtain rfl : args = #[v0] := by cases args; simp_all
  obtain ⟨rfl, rfl⟩ := trodVars_none hV
  obtain ⟨a0, rfl, rfl, rfl, w0⟩ := open_string Tryz.underlying9 (hval 0 9 v0 rfl rfl) h0
  clear hA0 hval0
  refine (Tp.coerceTokens_walk a0 w0 W  (pH_ hL) (qI_ hL)).mono fun e W' ⟨he, bel⟩ => ?_
  subst he
  exact ⟨_, rfl, _, _, _, [], _, [], hW', trodAll_mk1 (shut_bool Tryz.underlying4 _), (trodAll_cons_mk (shut_string Tryz.underlying9 w0) trodAll_mk0), rfl, bel.frame _, fun h => by cases h⟩

theorem row_holds : Rows.CoerceTokensSaid :=
  OpenClaim.holds_of_wide 7 Tryz.f7 rfl rfl rfl rfl rfl rfl rfl ⟨rfl, rfl, rfl, rfl, rfl⟩ rfl rfl rfl rfl rfl (by kernel_rfl) Tryz.func7 (by kernel_rfl)
    (of_decide_eq_true (by kernel_rfl)) (by unfold Func.isWrapper; first | (rw [if_pos (by decide +kernel)]; kernel_rfl) | (rw [if_neg (by decide +kernel)]; exact ⟨rfl, rfl⟩))
    (fun os started H enc _ => lifted os started H enc)

/-- THE STATEMENT: the row, tied to the program's text. -/
theorem proved : Rows.CoerceTokensCardSaid :=
  Claim7.holds_tied_plain_at .later [] [.data, .data, .data, .sentinel, .sentinel] true Rows.coerceTokensCard.stood.harness true
    row_holds (fun _ h => by cases h) (by kernel_rfl) (fun _ h => by cases h) coerceTokens_row_tie rfl ⟨rfl, rfl⟩ (by kernel_rfl) rfl
    (fun f fn hf hfn => by
      obtain rfl : f = 7 := Option.some.inj ((show Tryz.prog.funcNamed "savant/savantlaw05.CoerceTokens" = some 7 by kernel_rfl).symm.trans hf) |>.symm
      obtain rfl : fn = Tryz.f7 := (Option.some.inj (Tryz.func7.symm.trans hfn)).symm
      exact ⟨by kernel_rfl, fun j t ht => by
        rw [Tryz.params7] at ht
        have hm : t ∈ [9] := by simpa using Array.mem_of_getElem? ht
        have hall : ([9].all fun u => !Tryz.prog.wantsStandIn u) = true := by kernel_rfl
        exact (show Tryz.prog.wantsStandIn t = false by simpa using List.all_eq_true.1 hall t hm)⟩)
    (by kernel_rfl)
#print axioms proved
end Go.Proofs.YtkihnodkhnahiaaGreatDoor.coerceTokens

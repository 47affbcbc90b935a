/- Texts laid together: R3Mt. -/
import Derived.Test.YtofllmemmggapaaGreatDoorP43
import Derived.Test.YtofllmemmggapaaGreatDoorP45
import Derived.Test.YtofllmemmggapaaGreatDoorP46
import Derived.Test.YtofllmemmggapaaGreatDoorP47
import Derived.Test.YtofllmemmggapaaGreatDoorP41
import Derived.Deep.RegionLaw
import Derived.Deep.RegionHeld3
import Derived.Deep.CutRange

namespace Go.Proofs.YtofllmemmggapaaGreatDoor.Tp
open Go.RowKit Go.Sort
theorem strs_cell {w:World}{a:Option Addr}{n c:Nat}{l:List ByteArray}(h:StrsLow w (.slice a n c) l){k:Nat}(hk:k<l.length):∃ b off,a=some ⟨b,off,none⟩∧∀ W:World,Below w.heap.size w W→W.cell? ⟨b,off+k,none⟩=some (.string l[k]):=by
 obtain⟨a',c',e,_,_,_,hc⟩:=h
 obtain rfl:a=a':=by injection e
 rcases hc with hc|⟨b,off,ea,hb,hcc⟩
 ·rw[hc] at hk;simp at hk
 ·exact⟨b,off,ea,fun W hW=>(hW.cell (p:=⟨b,off+k,none⟩) hb).trans (hcc k hk)⟩
theorem but_nil {W wy:World}{b:Nat}{v:Value}{l:List ByteArray}(hb:Below W.heap.size W wy)(h1:wy.heap[b]? = some (.cells #[] 9 (0,0)))(hWb:W.heap.size≤b)(h:StrsLow wy v l) :
  ∃ v1 w1,(Builtin.append_ #[22,22] 22 #[.slice (some ⟨b,0,none⟩) 0 0,v]).run Tryz.prog wy=.ok v1 w1∧w1.ownsRow W.heap.size 9 1 v1 l.length (l.map Value.string)∧Below W.heap.size W w1 :=
 but_two 22 (l1:=[]) hb (own_none h1 hWb) (by simp) h
theorem rOk_no {t:Ty}{l:Fnd}{i:Nat}(hi:i<l.length)(h:(!polyT l[i].2&&(freeT l[i].2).all fun n=>hasN (freeT t) n)=false):rOk t l=false:=by
 unfold rOk
 rw[List.all_eq_false]
 exact⟨l[i],List.getElem_mem hi,by rw[h];simp⟩
theorem rOk_yes {t:Ty}{l:Fnd}{i:Nat}(hi:i<l.length)(h0:rOk t (l.take i)=true)(h:(!polyT l[i].2&&(freeT l[i].2).all fun n=>hasN (freeT t) n)=true):rOk t (l.take (i+1))=true:=by
 unfold rOk at *
 rw[List.take_succ_eq_append_getElem hi,List.all_append,h0]
 simp only[List.all_cons,List.all_nil,Bool.and_true,Bool.true_and]
 exact h
theorem all_no {l:List ByteArray}{q:ByteArray→Bool}{k:Nat}(hk:k<l.length)(h:q l[k]=false):l.all q=false:=by
 rw[List.all_eq_false];exact⟨l[k],List.getElem_mem hk,by rw[h];simp⟩
theorem all_yes {l:List ByteArray}{q:ByteArray→Bool}{k:Nat}(hk:k<l.length)(h0:(l.take k).all q=true)(h:q l[k]=true):(l.take (k+1)).all q=true:=by
 rw[List.take_succ_eq_append_getElem hk,List.all_append,h0];simp[h]
theorem own_yes {l:List ByteArray}{q:ByteArray→Bool}{i:Nat}(hi:i<l.length)(h:q l[i]=true):(l.take i).filter q++[l[i]]=(l.take (i+1)).filter q:=by
 rw[List.take_succ_eq_append_getElem hi,List.filter_append];simp[h]
theorem own_not {l:List ByteArray}{q:ByteArray→Bool}{i:Nat}(hi:i<l.length)(h:q l[i]=false):(l.take i).filter q=(l.take (i+1)).filter q:=by
 rw[List.take_succ_eq_append_getElem hi,List.filter_append];simp[h]
def RMatchPost (w:World)(o:Option Fnd)(e:Ending)(w':World):Prop:=Below w.heap.size w w'∧match o with
 | none=>e=.returned (.tuple #[.slice none 0 0,.bool false])
 | some l=>∃ v n,e=.returned (.tuple #[v,.bool true])∧RowB n n w' v l∧n≤w'.heap.size
set_option maxRecDepth 100000 in
set_option maxHeartbeats 12800000 in
theorem rMatch_any (p t:Ty)(vars:List ByteArray)(pa ta:Option Addr)(pc tc:Nat)(vs:Value)(w:World)(hp:AtW p pa pc w)(ht:AtW t ta tc w)(hv:StrsLow w vs vars)(R:RefM p t vars) :
  Calls Tryz.prog 12 #[tv p pa pc,tv t ta tc,vs] w (RMatchPost w (rMatchT p t vars)):=by
 have hz1:=(Below.refl w.heap.size w).alloc (Nat.le_refl _) (.cells #[.int .i64 p.kind,.string p.name,.int .i64 p.n,.slice pa p.args.length pc] 29)
 have hz2:=hz1.alloc hz1.size (.cells #[.int .i64 t.kind,.string t.name,.int .i64 t.n,.slice ta t.args.length tc] 29)
 have kp:=(R4.new w (.int .i64 p.kind) (.string p.name) (.int .i64 p.n) (.slice pa p.args.length pc)).low ((Below.refl _ _).alloc (Nat.le_refl _) (.cells #[.int .i64 t.kind,.string t.name,.int .i64 t.n,.slice ta t.args.length tc] 29))
 have kt:=R4.new (w.alloc (.cells #[.int .i64 p.kind,.string p.name,.int .i64 p.n,.slice pa p.args.length pc] 29)) (.int .i64 t.kind) (.string t.name) (.int .i64 t.n) (.slice ta t.args.length tc)
 rw[show (w.alloc (.cells #[.int .i64 p.kind,.string p.name,.int .i64 p.n,.slice pa p.args.length pc] 29)).heap.size=w.heap.size+1 from by simp] at kt
 have HZ:=hid hz2
 have KP:=hid kp
 have KT:=hid kt
 have RR:=hid R
 have HP:=hid hp
 have HT:=hid ht
 have HV:=hid hv
 have hfp:=freeT_len p
 have hft:=freeT_len t
 have hzp:=R.zp
 have hzt:=R.zt
 have hvn:=R.vn
 have hbl:=R.but
 have FL:Hid ((freeT p).length≤400∧(freeT t).length≤400∧vars.length≤4000∧(butM p t vars).length≤5000):=hid ⟨by omega,by omega,hvn,hbl⟩
 have CFP:=hid (fun (W:World) (h:Below w.heap.size w W)=>rFree_any p _ pa pc W (hp.low h) (fun _ h=>h) (std_wf p R.mp.1) (by omega))
 have CFT:=hid (fun (W:World) (h:Below w.heap.size w W)=>rFree_any t _ ta tc W (ht.low h) (fun _ h=>h) (std_wf t R.mt.1) (by omega))
 have hmp:p.size*((butM p t vars).length+1)≤400*5001:=Nat.mul_le_mul hzp (by omega)
 have hmt:t.size*((butM p t vars).length+1)≤400*5001:=Nat.mul_le_mul hzt (by omega)
 have CRP:=hid (fun (W:World) (h:Below w.heap.size w W) (vb:Value) (hb:StrsLow W vb (butM p t vars))=>rren_any (butM p t vars) p.depth p pa pc W vb 0 (hp.low h) R.mp (by omega) (Nat.le_refl _) hb (fun x hx=>.inl (by unfold butM;simp[(mem_free x p).2 hx])) (by omega))
 have CRT:=hid (fun (W:World) (h:Below w.heap.size w W) (vb:Value) (hb:StrsLow W vb (butM p t vars))=>rren_any (butM p t vars) t.depth t ta tc W vb 0 (ht.low h) R.mt (by omega) (Nat.le_refl _) hb (fun x hx=>.inl (by unfold butM;simp[(mem_free x t).2 hx])) (by omega))
 have RXP:=R.rx.1.mm
 have RXS:=R.rx.1.size
 have CE0:Hid (colM p t vars=colT (ownL p vars) (rnF (butM p t vars) p.depth 0 p).1 (rnF (butM p t vars) t.depth 0 t).1 []):=hid rfl
 generalize rnF (butM p t vars) p.depth 0 p=rx at *
 generalize rnF (butM p t vars) t.depth 0 t=ry at *
 obtain⟨x,kx⟩:=rx
 obtain⟨y,ky⟩:=ry
 have XS:Hid (x.size≤400):=hid (Nat.le_trans RXS hzp)
 have CFT2:=hid (fun (W:World) (h:Below w.heap.size w W)=>CFT.out W h)
 obtain⟨va,vc,hvs,_⟩:=id hv
 subst hvs
 unfold tv at CFP CFT CRP CRT CFT2 ⊢
 clear hp ht hv R hz1 hz2 kp kt hfp hft hzp hzt hvn hbl hmp hmt RXP RXS
 go_enter Tryz.func12,Tryz.ntmps12
 go_wp2
 generalize (w.alloc (.cells #[.int .i64 p.kind,.string p.name,.int .i64 p.n,.slice pa p.args.length pc] 29)).alloc (.cells #[.int .i64 t.kind,.string t.name,.int .i64 t.n,.slice ta t.args.length tc] 29)=W0 at *
 have HD:=hid (Below.refl W0.heap.size W0).drew
 have HDA:Hid (Below W0.heap.size W0 (W0.alloc (.cells #[] 9)).drew):=hid ((Below.refl W0.heap.size W0).alloc (Nat.le_refl _) _).drew
 have KK:Hid (∀ W:World,Below W0.heap.size W0 W→(W.cell? ⟨w.heap.size,0,none⟩=some (.int .i64 p.kind)∧W.cell? ⟨w.heap.size,1,none⟩=some (.string p.name)∧W.cell? ⟨w.heap.size,2,none⟩=some (.int .i64 p.n)∧W.cell? ⟨w.heap.size,3,none⟩=some (.slice pa p.args.length pc)∧W.cell? ⟨w.heap.size+1,0,none⟩=some (.int .i64 t.kind)∧W.cell? ⟨w.heap.size+1,1,none⟩=some (.string t.name)∧W.cell? ⟨w.heap.size+1,2,none⟩=some (.int .i64 t.n)∧W.cell? ⟨w.heap.size+1,3,none⟩=some (.slice ta t.args.length tc))):=hid (fun W h=>⟨(KP.out.low h).c0,(KP.out.low h).c1,(KP.out.low h).c2,(KP.out.low h).c3,(KT.out.low h).c0,(KT.out.low h).c1,(KT.out.low h).c2,(KT.out.low h).c3⟩)
 go_upto_region 1 with fail
 go_cut [8] from 25 to 34 (fun s wx=>StrsLow wx s (butM p t vars)∧Below W0.heap.size W0 wx)
 case first =>
  obtain⟨k0,k1,k2',k3,k4,k5,k6,k7⟩:=KK.out W0 (Below.refl _ _)
  have A0:=hid (but_nil (W:=W0) (b:=W0.heap.size) HDA.out (heap_alloc_new W0 (.cells #[] 9)) (Nat.le_refl _) (HV.out.low (HZ.out.trans (HDA.out.mono HZ.out.size))))
  go_region_held3 (fun w'=>(w'.cell? ⟨w.heap.size,0,none⟩=some (.int .i64 p.kind)∧w'.cell? ⟨w.heap.size,1,none⟩=some (.string p.name)∧w'.cell? ⟨w.heap.size,2,none⟩=some (.int .i64 p.n)∧w'.cell? ⟨w.heap.size,3,none⟩=some (.slice pa p.args.length pc)∧w'.cell? ⟨w.heap.size+1,0,none⟩=some (.int .i64 t.kind)∧w'.cell? ⟨w.heap.size+1,1,none⟩=some (.string t.name)∧w'.cell? ⟨w.heap.size+1,2,none⟩=some (.int .i64 t.n)∧w'.cell? ⟨w.heap.size+1,3,none⟩=some (.slice ta t.args.length tc)))
   (first|(with_reducible exact KK.out _ HX5.out)|(with_reducible exact KK.out _ HX4.out)|(with_reducible exact KK.out _ HX3.out)|(with_reducible exact KK.out _ HX2.out)|(with_reducible exact KK.out _ HX1.out)|(with_reducible exact KK.out _ HDA.out)|(with_reducible exact KK.out _ HD.out)|go_keep)
   (first
    | ((with_reducible show (if Region.wanted _ _=true then Oper.wp _ _ _ (W0.alloc (.cells #[] 9)).drew _ _ else _));refine step_append_ok (by rfl) _ _ _ (by rfl) (by rfl) (by rfl) A0.out ?_;rintro v1 w1 ⟨ho,hx⟩;obtain⟨oa,oc,hv⟩:=own_form ho;subst hv;have HX1:=hid hx;have HO1:=hid ho;have CF1:=hid (CFP.out w1 (HZ.out.trans (hx.mono HZ.out.size)));clear ho hx)
    | (go_at_call 18;(with_reducible refine CF1.out.mono ?_);rintro e w2 ⟨v,rfl,h1,hb1⟩;have HX2:=hid (HX1.out.trans (hb1.mono HX1.out.size));have A2:=hid (but_two 22 (W:=W0) HX2.out (own_keep4 HO1.out fun b hb=>hb1.block b (HO1.out.lt b hb).2) (by have:=FL.out;omega) h1);clear h1 hb1)
    | (refine step_append_ok (by rfl) _ _ _ (by rfl) (by rfl) (by rfl) A2.out ?_;rintro v1 w3 ⟨ho,hx⟩;obtain⟨ob,od,hv⟩:=own_form ho;rw[List.length_append] at hv;subst hv;have HX3:=hid hx;have HO3:=hid ho;have CF3:=hid (CFT.out w3 (HZ.out.trans (hx.mono HZ.out.size)));clear ho hx)
    | (go_at_call 18;(with_reducible refine CF3.out.mono ?_);rintro e w4 ⟨v,rfl,h1,hb1⟩;have HX4:=hid (HX3.out.trans (hb1.mono HX3.out.size));have A4:=hid (but_two 22 (W:=W0) HX4.out (own_keep4 HO3.out fun b hb=>hb1.block b (HO3.out.lt b hb).2) (by have:=FL.out;simp;omega) h1);clear h1 hb1)
    | (refine step_append_ok (by rfl) _ _ _ (by rfl) (by rfl) (by rfl) A4.out ?_;rintro v5 w5 ⟨ho,hx⟩;have HX5:=hid hx;have HO5:=hid ho;clear ho hx))
  all_goals
   go_wp2_with fail
   go_meet
   exact⟨.own HO5.out (by have:=FL.out.2.2.2;omega),HX5.out⟩
 obtain⟨hbut,hB⟩:=hcut
 have BU:=hid hbut
 have B1:=hid (HZ.out.trans (hB.mono HZ.out.size))
 obtain⟨k0,k1,k2',k3,k4,k5,k6,k7⟩:=KK.out wc hB
 have HW0:=hid hB
 have CF1:=hid (CFP.out wc B1.out)
 clear hbut hB HD HDA
 go_wp2_with fail
 refine CF1.out.mono ?_
 rintro e w1 ⟨vF,rfl,hF,hbF⟩
 have BU1:=hid (BU.out.low hbF)
 have HW1:=hid (HW0.out.trans (hbF.mono HW0.out.size))
 have SF:=hid hF
 obtain⟨fa,fc,hfv,_⟩:=id hF
 subst hfv
 have fl:=FL.out.1
 clear hF hbF CF1 k0 k1 k2' k3 k4 k5 k6 k7 BU HW0 B1
 go_wp2
 go_loopw [10,11,12] (fun ov iv sv wr=>∃ (i:Nat) (oa:Option Addr) (oc:Nat),ov=.slice oa (((freeT p).take i).filter (hasN vars)).length oc∧iv=.int .i64 i∧i≤(freeT p).length∧wr.ownsRow w1.heap.size 9 1 (.slice oa (((freeT p).take i).filter (hasN vars)).length oc) (((freeT p).take i).filter (hasN vars)).length ((((freeT p).take i).filter (hasN vars)).map Value.string)∧Below w1.heap.size w1 wr) (fun _ iv _ _=>(freeT p).length - (intOf iv).toNat)
 case atStart=>exact⟨0,none,0,rfl,rfl,Nat.zero_le _,World.ownsRow_nil _ _ _ _,Below.refl _ _⟩
 case round =>
  obtain⟨i,oa,oc,rfl,rfl,hil,hO,hB⟩:=hrel
  have HO:=hid hO
  have HB:=hid hB
  have HW:=hid (HW1.out.trans (hB.mono HW1.out.size))
  have BWw:=hid (HZ.out.trans (HW.out.mono HZ.out.size))
  by_cases hi:i<(freeT p).length
  ·have z0:(0:Int)≤(i:Int):=by omega
   have z1:(i:Int)<((freeT p).length:Int):=by omega
   obtain⟨fb,fo,rfl,hcell⟩:=strs_cell SF.out hi
   have f0:=hcell wr hB
   have CHS:=hid (has_any _ (.slice va vars.length vc) vars (freeT p)[i] wr (HV.out.low BWw.out))
   have OY:=hid (own_yes (q:=hasN vars) hi)
   have ON:=hid (own_not (q:=hasN vars) hi)
   have OLN:Hid ((((freeT p).take i).filter (hasN vars)).length≤400):=hid (Nat.le_trans (List.length_filter_le _ _) (by rw[List.length_take];have:=FL.out.1;omega))
   clear hO hB hcell
   generalize hh:hasN vars (freeT p)[i]=bb at *
   generalize (freeT p)[i]=nm at *
   cases bb with
   | true =>
    have OE:=hid (OY.out rfl)
    have PC:=hid (but_two 22 (W:=w1) (wy:=wr.alloc (.cells #[.string nm] 9)) (v:=.slice (some ⟨wr.heap.size,0,none⟩) 1 1) (l:=[nm]) (HB.out.alloc HB.out.size _) (own_keep4 HO.out fun b e=>heap_alloc_old wr _ (HO.out.lt b e).2) (by have:=OLN.out;omega) (StrsLow.own (lo:=0) (own_one (heap_alloc_new wr _) (Nat.zero_le _)) (by simp)))
    clear hh OY ON
    go_wp2_with fail
    refine CHS.out.mono ?_
    rintro e w' ⟨rfl,rfl⟩
    go_wp2_with (at_builtin;refine wpList_append_ok (by rfl) _ _ _ (by rfl) (by rfl) (by rfl) PC.out ?_;rintro v4 w4 ⟨hr4,hb4⟩;obtain⟨va4,vc4,hv4⟩:=own_form hr4;subst hv4;have O4:=hid hr4;have B4:=hid hb4;clear hr4 hb4)
    go_roundw
    case rel=>exact⟨i+1,va4,vc4,by rw[← OE.out];simp,by go_num,by omega,by rw[← OE.out];exact O4.out,B4.out⟩
    case measure=>simp[intOf];omega
   | false =>
    have OE:=hid (ON.out rfl)
    clear hh OY ON
    go_wp2_with fail
    refine CHS.out.mono ?_
    rintro e w' ⟨rfl,rfl⟩
    go_wp2
    go_roundw
    case rel=>exact⟨i+1,oa,oc,by rw[← OE.out],by go_num,by omega,by rw[← OE.out];exact HO.out,HB.out⟩
    case measure=>simp[intOf];omega
  ·obtain rfl:i=(freeT p).length:=by omega
   have EO:Hid (((freeT p).take (freeT p).length).filter (hasN vars)=ownL p vars):=hid (by rw[List.take_length];rfl)
   rw[EO.out] at hO ⊢
   have hol:(ownL p vars).length≤400:=Nat.le_trans (List.length_filter_le _ _) FL.out.1
   have OS:=hid (StrsLow.own hO (by omega))
   have BU2:=hid (BU1.out.low hB)
   obtain⟨k0,k1,k2',k3,k4,k5,k6,k7⟩:=KK.out wr HW.out
   have C1:=hid (CRP.out wr BWw.out _ BU2.out)
   clear hO hB SF HO HB hil hi EO BU1
   obtain⟨wo,hwo⟩:∃ wo:World,wo=wr:=⟨_,rfl⟩
   subst hwo
   go_wp2_with fail
   refine C1.out.mono ?_
   rintro e w3 ⟨xa,xc,rfl,hxA,hb3⟩
   unfold tv
   have hx3:=hb3.alloc hb3.size (.cells #[.int .i64 x.kind,.string x.name,.int .i64 x.n,.slice xa x.args.length xc] 29)
   have kx:=R4.new w3 (.int .i64 x.kind) (.string x.name) (.int .i64 x.n) (.slice xa x.args.length xc)
   have XA:=hid (((hxA.mono fun b hb=>hb.2).keep fun b (hb:b<w3.heap.size)=>heap_alloc_old w3 (.cells #[.int .i64 x.kind,.string x.name,.int .i64 x.n,.slice xa x.args.length xc] 29) hb:ArgsAt (Lt w3.heap.size) (w3.alloc (.cells #[.int .i64 x.kind,.string x.name,.int .i64 x.n,.slice xa x.args.length xc] 29)) (.slice xa x.args.length xc) x.args))
   have W3:=hid (HW.out.trans (hx3.mono HW.out.size))
   have B3:=hid (HZ.out.trans (W3.out.mono HZ.out.size))
   have BU3:=hid (BU2.out.low hx3)
   have OS3:=hid (OS.out.low hx3)
   have KX:=hid kx
   have N3:Hid (w3.heap.size<(w3.alloc (.cells #[.int .i64 x.kind,.string x.name,.int .i64 x.n,.slice xa x.args.length xc] 29)).heap.size):=hid (by simp)
   clear hxA hb3 hx3 kx k0 k1 k2' k3 k4 k5 k6 k7 C1 BU2 OS HW BWw
   go_upto_region 11 with fail
   generalize w3.alloc (.cells #[.int .i64 x.kind,.string x.name,.int .i64 x.n,.slice xa x.args.length xc] 29)=wX at *
   obtain⟨k0,k1,k2',k3,k4,k5,k6,k7⟩:=KK.out wX W3.out
   have C2:=hid (CRT.out wX B3.out _ BU3.out)
   go_wp2_with fail
   refine C2.out.mono ?_
   rintro e w4 ⟨ya,yc,rfl,hyA,hb4⟩
   unfold tv
   have hx4:=hb4.alloc hb4.size (.cells #[.int .i64 y.kind,.string y.name,.int .i64 y.n,.slice ya y.args.length yc] 29)
   have ky:=R4.new w4 (.int .i64 y.kind) (.string y.name) (.int .i64 y.n) (.slice ya y.args.length yc)
   have YA:=hid (((hyA.mono fun b hb=>hb.2).keep fun b (hb:b<w4.heap.size)=>heap_alloc_old w4 (.cells #[.int .i64 y.kind,.string y.name,.int .i64 y.n,.slice ya y.args.length yc] 29) hb:ArgsAt (Lt w4.heap.size) (w4.alloc (.cells #[.int .i64 y.kind,.string y.name,.int .i64 y.n,.slice ya y.args.length yc] 29)) (.slice ya y.args.length yc) y.args))
   have XA4:=hid (((XA.out.mono fun b (hb:b<w3.heap.size)=>Nat.lt_trans hb N3.out).keep fun b (hb:b<wX.heap.size)=>hx4.block b hb).mono fun b hb=>Nat.lt_of_lt_of_le hb hb4.size:ArgsAt (Lt w4.heap.size) (w4.alloc (.cells #[.int .i64 y.kind,.string y.name,.int .i64 y.n,.slice ya y.args.length yc] 29)) (.slice xa x.args.length xc) x.args)
   have W4:=hid (W3.out.trans (hx4.mono W3.out.size))
   have OS4:=hid (OS3.out.low hx4)
   have KX4:=hid (KX.out.low hx4)
   have KY:=hid ky
   have N4:Hid (w4.heap.size≤(w4.alloc (.cells #[.int .i64 y.kind,.string y.name,.int .i64 y.n,.slice ya y.args.length yc] 29)).heap.size):=hid (by simp)
   clear hyA hb4 hx4 ky k0 k1 k2' k3 k4 k5 k6 k7 C2 XA OS3 KX BU3 W3 B3 N3
   go_upto_region 12 with fail
   generalize w4.alloc (.cells #[.int .i64 y.kind,.string y.name,.int .i64 y.n,.slice ya y.args.length yc] 29)=wY at *
   have x0:=KX4.out.c0
   have x1:=KX4.out.c1
   have x2:=KX4.out.c2
   have x3:=KX4.out.c3
   have y0:=KY.out.c0
   have y1:=KY.out.c1
   have y2:=KY.out.c2
   have y3:=KY.out.c3
   have CC:=hid (collect_any x y (ownL p vars) [] w4.heap.size xa ya xc yc (.slice none 0 0) _ wY XA4.out YA.out N4.out OS4.out (RowB.nil _ _ _) (by have:=XS.out;simp;omega))
   generalize colT (ownL p vars) x y []=o at *
   go_wp2_with fail
   refine CC.out.mono ?_
   rintro e wC ⟨hbC,hC⟩
   have BC:=hid (W4.out.trans (hbC.mono W4.out.size))
   have BCw:=hid (HZ.out.trans (BC.out.mono HZ.out.size))
   have NC:=hid (Nat.le_trans N4.out hbC.size)
   clear CC x0 x1 x2 x3 y0 y1 y2 y3 hbC KX4 KY XA4 YA OS4 W4 N4
   cases o with
   | none =>
    subst hC
    have FE:Hid (rMatchT p t vars=none):=hid (by unfold rMatchT;rw[CE0.out])
    go_wp2
    refine bodyPost_ret (v:=.tuple #[.slice none 0 0,.bool false]) (by simp[results,Tryz.results12,go_sem]) rfl ?_
    rw[FE.out]
    exact⟨BCw.out,rfl⟩
   | some l =>
    obtain⟨lv,rfl,hL⟩:=hC
    obtain⟨hlk,hlm⟩:=RR.out.col CE0.out
    obtain⟨hll,hla⟩:=RR.out.av hlk hlm
    have HLM:=hid hlm
    have HLA:=hid hla
    have RE:Hid (rMatchT p t vars=if rOk t l&&decide (canonS (paT p l)=canonS t) then some l else none):=hid (by unfold rMatchT;rw[CE0.out])
    have RB:=hid hL
    obtain⟨la,lc,hlv⟩:=hL.form
    subst hlv
    have PUTM:=hid (fun h=>RR.out.put hlk hlm h)
    clear hL hlk hlm hla
    have PAIN:=hid (fun (h:∀ e∈l,polyT e.2=false)=>(⟨RR.out.mp,RR.out.zp,⟨fun e he=>⟨(HLM.out e he).1.1,h e he⟩,fun e he=>(HLM.out e he).1,fun e he=>(HLM.out e he).2⟩,HLA.out,hll⟩:PaIn p l))
    go_wp2
    go_loopw [19] (fun iv wr=>∃ i:Nat,iv=.int .i64 i∧i≤l.length∧rOk t (l.take i)=true∧Below wC.heap.size wC wr) (fun iv _=>l.length - (intOf iv).toNat)
    case atStart=>exact⟨0,rfl,Nat.zero_le _,rfl,Below.refl _ _⟩
    case round =>
     obtain⟨i,rfl,hil,hok,hB⟩:=hrel
     have HOK:=hid hok
     have HB:=hid hB
     by_cases hi:i<l.length
     ·have z0:(0:Int)≤(i:Int):=by omega
      have z1:(i:Int)<(l.length:Int):=by omega
      obtain⟨g,a',c',rfl,hg,g0,⟨g1,g2,g3,g4⟩,hAi⟩:=RB.out.at_ hi
      have gk:Hid (∀ W':World,Below wC.heap.size wC W'→W'.cell? ⟨g,i*5,none⟩=some (.string l[i].1)∧W'.cell? ⟨g,i*5+1,none⟩=some (.int .i64 l[i].2.kind)∧W'.cell? ⟨g,i*5+1+1,none⟩=some (.string l[i].2.name)∧W'.cell? ⟨g,i*5+1+2,none⟩=some (.int .i64 l[i].2.n)∧W'.cell? ⟨g,i*5+1+3,none⟩=some (.slice a' l[i].2.args.length c')∧AtW l[i].2 a' c' W'):=hid (fun W' h=>⟨(h.cell (p:=⟨g,i*5,none⟩) hg).trans g0,(h.cell (p:=⟨g,i*5+1,none⟩) hg).trans g1,(h.cell (p:=⟨g,i*5+1+1,none⟩) hg).trans g2,(h.cell (p:=⟨g,i*5+1+2,none⟩) hg).trans g3,(h.cell (p:=⟨g,i*5+1+3,none⟩) hg).trans g4,(hAi.keep fun b hb=>h.block b (Nat.lt_of_lt_of_le hb NC.out)).mono fun b hb=>Nat.lt_of_lt_of_le hb (Nat.le_trans NC.out h.size)⟩)
      clear g0 g1 g2 g3 g4 hAi hg
      obtain⟨g0,g1,g2,g3,g4,hAr⟩:=gk.out wr HB.out
      have hlm:=HLM.out l[i] (List.getElem_mem hi)
      have CP:=hid (rpoly_h hAr)
      have CFU:=hid (fun (W':World) (h:Below wC.heap.size wC W')=>rFree_any l[i].2 _ a' c' W' (gk.out W' h).2.2.2.2.2 (fun _ h=>h) (std_wf _ hlm.1.1) (by have:=hlm.2;omega))
      have RNO:=hid (rOk_no (t:=t) hi)
      have RYES:=hid (rOk_yes (t:=t) hi HOK.out)
      have FU:Hid ((freeT l[i].2).length≤400):=hid (Nat.le_trans (freeT_len _) hlm.2)
      clear hok hB hAr hlm
      generalize l[i].2=u at *
      cases hpo:polyT u with
      | true =>
       rw[hpo] at CP
       have FE:Hid (rMatchT p t vars=none):=hid (by rw[RE.out,RNO.out (by rw[hpo];rfl)];rfl)
       clear hpo RNO RYES
       go_wp2_with fail
       refine CP.out.mono ?_
       rintro e w5 ⟨rfl,hb5⟩
       have B5:=hid (BCw.out.trans ((HB.out.trans (hb5.mono HB.out.size)).mono BCw.out.size))
       clear hb5
       go_wp2
       refine bodyPost_ret (v:=.tuple #[.slice none 0 0,.bool false]) (by simp[results,Tryz.results12,go_sem]) rfl ?_
       rw[FE.out]
       exact⟨B5.out,rfl⟩
      | false =>
       rw[hpo] at CP
       have RNO2:Hid ((freeT u).all (fun n=>hasN (freeT t) n)=false→rMatchT p t vars=none):=hid (fun h=>by rw[RE.out,RNO.out (by rw[hpo,h];rfl)];rfl)
       have RYES2:Hid ((freeT u).all (fun n=>hasN (freeT t) n)=true→rOk t (l.take (i+1))=true):=hid (fun h=>RYES.out (by rw[hpo,h];rfl))
       clear hpo RNO RYES
       go_wp2_with fail
       refine CP.out.mono ?_
       rintro e w5 ⟨rfl,hb5⟩
       have B5:=hid (HB.out.trans (hb5.mono HB.out.size))
       clear g0 g1 g2 g3 g4 hb5 CP
       obtain⟨g0,g1,g2,g3,g4,_⟩:=gk.out w5 B5.out
       have CF5:=hid (CFU.out w5 B5.out)
       go_wp2_with fail
       refine CF5.out.mono ?_
       rintro e w6 ⟨v6,rfl,h6,hb6⟩
       have B6:=hid (B5.out.trans (hb6.mono B5.out.size))
       obtain⟨na,nc,hnv,_⟩:=id h6
       subst hnv
       have S6:=hid h6
       have fu:=FU.out
       clear h6 hb6 g0 g1 g2 g3 g4 CF5 B5
       obtain⟨wo,hwo⟩:∃ wo:World,wo=w6:=⟨_,rfl⟩
       subst hwo
       generalize freeT u=fs at *
       go_wp2
       go_loopw [22] (fun kv wr=>∃ k:Nat,kv=.int .i64 k∧k≤fs.length∧((fs.take k).all fun n=>hasN (freeT t) n)=true∧Below wo.heap.size wo wr) (fun kv _=>fs.length - (intOf kv).toNat)
       case atStart=>exact⟨0,rfl,Nat.zero_le _,rfl,Below.refl _ _⟩
       case round =>
        obtain⟨k,rfl,hkl,hall,hB⟩:=hrel
        have HB3:=hid (B6.out.trans (hB.mono B6.out.size))
        by_cases hk:k<fs.length
        ·have z2:(0:Int)≤(k:Int):=by omega
         have z3:(k:Int)<(fs.length:Int):=by omega
         obtain⟨fb,fo,rfl,hcell⟩:=strs_cell S6.out hk
         have f0:=hcell wr hB
         have AY:=hid (all_yes (q:=fun n=>hasN (freeT t) n) hk hall)
         have AN:=hid (all_no (q:=fun n=>hasN (freeT t) n) hk)
         have BW:=hid (BC.out.trans (HB3.out.mono BC.out.size))
         have BD:Hid (Below wo.heap.size wo wr):=hid hB
         obtain⟨k0,k1,k2',k3,k4,k5,k6,k7⟩:=KK.out wr BW.out
         have CT1:=hid (CFT.out wr.drew (HZ.out.trans (BW.out.drew.mono HZ.out.size)))
         have HC:=hid hcell
         clear hall hB hcell
         generalize fs[k]=nm at *
         go_upto_region 25 with fail
         go_cut [23] from 102 to 109 (fun bv wx=>bv=.bool (hasN (freeT t) nm)∧Below wr.heap.size wr wx)
         case first =>
          go_region_law (first
           | (go_simp;go_at_call 18;(with_reducible refine CT1.out.mono ?_);rintro e w7 ⟨v7,rfl,h7,hb7⟩;have HX7:=hid ((Below.refl wr.heap.size wr).drew.trans hb7);have f7:=HC.out w7 (BD.out.trans (HX7.out.mono BD.out.size));have CH7:=hid (has_any _ v7 (freeT t) nm w7 h7);clear h7 hb7)
           | (go_simp;go_at_call 24;(with_reducible refine CH7.out.mono ?_);rintro e w' ⟨rfl,rfl⟩))
          all_goals
           go_wp2_with fail
           go_meet
           exact⟨rfl,HX7.out⟩
         obtain⟨rfl,hbx⟩:=hcut
         have HB4:=hid (HB3.out.trans (hbx.mono HB3.out.size))
         have BD4:=hid (BD.out.trans (hbx.mono BD.out.size))
         clear hbx k0 k1 k2' k3 k4 k5 k6 k7 f0 CT1 HC
         generalize hh:hasN (freeT t) nm=hbn at *
         cases hbn with
         | true =>
          have AE:=hid (AY.out rfl)
          clear hh AY AN
          go_wp2
          go_roundw
          case rel=>exact⟨k+1,by go_num,by omega,AE.out,BD4.out⟩
          case measure=>simp[intOf];omega
         | false =>
          have FE:=hid (RNO2.out (AN.out rfl))
          have BF:=hid (BCw.out.trans (HB4.out.mono BCw.out.size))
          clear hh AY AN
          go_wp2
          refine bodyPost_ret (v:=.tuple #[.slice none 0 0,.bool false]) (by simp[results,Tryz.results12,go_sem]) rfl ?_
          rw[FE.out]
          exact⟨BF.out,rfl⟩
        ·obtain rfl:k=fs.length:=by omega
         rw[List.take_length] at hall
         have OK2:=hid (RYES2.out hall)
         clear hall hB
         go_wp2
         go_roundw
         case rel=>exact⟨i+1,by go_num,by omega,OK2.out,HB3.out⟩
         case measure=>simp[intOf];omega
     ·obtain rfl:i=l.length:=by omega
      rw[List.take_length] at hok
      have hpo:∀ e∈l,polyT e.2=false:=fun e he=>((rOk_iff t l).1 hok e he).1
      obtain⟨pm,pz,_⟩:=PUTM.out hpo
      have PN:=hid (PAIN.out hpo)
      have CRA:=hid (canonR_mk pm pz)
      have CRB:=hid (canonR_mk RR.out.mt (by have:=RR.out.zt;omega))
      have RE2:Hid (rMatchT p t vars=if decide (canonS (paT p l)=canonS t) then some l else none):=hid (by rw[RE.out,hok];rfl)
      have BW:=hid (BC.out.trans (hB.mono BC.out.size))
      have BWw:=hid (HZ.out.trans (BW.out.mono HZ.out.size))
      have RBr:=hid (RB.out.low NC.out hB)
      have NR:=hid (Nat.le_trans NC.out hB.size)
      obtain⟨k0,k1,k2',k3,k4,k5,k6,k7⟩:=KK.out wr BW.out
      have CPA:=hid (rputAll_any p l w4.heap.size w4.heap.size pa pc (.slice la l.length lc) wr.drew (HP.out.low BWw.out.drew) (RBr.out.low NR.out (Below.refl _ _).drew) NR.out PN.out)
      have CSA:=hid (fun (W':World) (h:Below wr.heap.size wr W') (a1:Option Addr) (c1:Nat) (h1:AtW (paT p l) a1 c1 W')=>rsame_any (paT p l) t a1 ta c1 tc W' h1 (HT.out.low (BWw.out.trans (h.mono BWw.out.size))) CRA.out CRB.out)
      have KR:=hid (fun (W':World) (h:Below wr.heap.size wr W')=>KK.out W' (BW.out.trans (h.mono BW.out.size)))
      unfold tv at CPA
      clear hok HOK hB HB hpo pm pz hil hi
      generalize paT p l=z at *
      go_upto_region 28 with fail
      go_cut [24] from 111 to 116 (fun bv wx=>bv=.bool (decide (canonS z=canonS t))∧Below wr.heap.size wr wx)
      case first =>
       go_region_law (first
        | (go_simp;go_at_call 34;(with_reducible refine CPA.out.mono ?_);rintro e w7 ⟨a1,c1,rfl,h7,hb7⟩;have HX7:=hid ((Below.refl wr.heap.size wr).drew.trans hb7);obtain⟨m0,m1,m2,m3,m4,m5,m6,m7⟩:=KR.out w7 HX7.out;have CS7:=hid (CSA.out w7 HX7.out a1 c1 h7);clear h7 hb7)
        | (go_simp;go_at_call 35;(with_reducible refine CS7.out.mono ?_);rintro e w8 ⟨rfl,hb8⟩;have HX8:=hid (HX7.out.trans (hb8.mono HX7.out.size));clear hb8))
       all_goals
        go_wp2_with fail
        go_meet
        exact⟨rfl,HX8.out⟩
      obtain⟨rfl,hbx⟩:=hcut
      have BF:=hid (BWw.out.trans (hbx.mono BWw.out.size))
      have RBF:=hid (RBr.out.low NR.out hbx)
      have NF:=hid (Nat.le_trans NR.out hbx.size)
      clear hbx k0 k1 k2' k3 k4 k5 k6 k7
      generalize decide (canonS z=canonS t)=db at *
      cases db with
      | true =>
       have FE:Hid (rMatchT p t vars=some l):=hid RE2.out
       go_wp2
       refine bodyPost_ret (v:=.tuple #[.slice la l.length lc,.bool true]) (by simp[results,Tryz.results12,go_sem]) rfl ?_
       rw[FE.out]
       exact⟨BF.out,_,_,rfl,RBF.out,NF.out⟩
      | false =>
       have FE:Hid (rMatchT p t vars=none):=hid RE2.out
       go_wp2
       refine bodyPost_ret (v:=.tuple #[.slice none 0 0,.bool false]) (by simp[results,Tryz.results12,go_sem]) rfl ?_
       rw[FE.out]
       exact⟨BF.out,rfl⟩
end Go.Proofs.YtofllmemmggapaaGreatDoor.Tp

/-
  Whether one type is an instance of another one, and what stands behind for alls, is as the document says: for every two texts that are types of at most 400 bytes without too large an unknown; at any others the law tells what its examples tell.
-/
import Derived.Test.YtofllmemmggapaaGreatDoorP37
import Derived.Test.YtofllmemmggapaaGreatDoorP49
import Derived.Deep.CutRange
import Derived.Deep.RegionLaw
import Derived.Test.YtofllmemmggapaaGreatDoorP50
import Derived.Test.YtofllmemmggapaaGreatDoorCards
import Derived.Test.YtofllmemmggapaaGreatDoorTie
import Derived.SevenTiedAt

namespace Go.Proofs.YtofllmemmggapaaGreatDoor.Tp
open Go.RowKit Go.Sort
set_option maxRecDepth 100000 in
set_option maxHeartbeats 1600000 in
theorem matchInstances_walk (a0:ByteArray)(z0:a0.size≤maxLen)(a1:ByteArray)(z1:a1.size≤maxLen)(w:World)(hT:Tab w):Calls Tryz.prog 4 #[.string a0,.string a1] w fun e w'=>e=.returned (.bool true)∧Below w.heap.size w w':=by
 have HT:=hid hT
 cases h0:rdT a0 with
 | none =>
  have HP0:=hid h0
  clear hT h0
  go_enter Tryz.func4,Tryz.ntmps4
  go_wp2_with fail
  refine (awake3_any _ HT.out).mono ?_
  rintro e w1 ⟨rfl,hB⟩
  have B_1:=hid (hB)
  clear hB
  go_wp2_with fail
  refine (rd_none _ a0 z0 HP0.out).mono ?_
  rintro e w2 ⟨pk,pn,ps,pa,pl,pc,pk2,pn2,ps2,pa2,pl2,pc2,rfl,hB⟩
  have B_2:=hid (B_1.out.trans (hB.mono B_1.out.size))
  clear hB B_1
  go_wp2_with fail
  refine (rd_any _ a1 z1).mono ?_
  rintro e w3 ⟨r1k,r1n,r1s,r1a,r1l,r1c,r1k2,r1n2,r1s2,r1a2,r1l2,r1c2,r1b,rfl,hB⟩
  have B_3:=hid (B_2.out.trans (hB.mono B_2.out.size))
  clear hB B_2
  go_wp2
  go_ret
  exact⟨rfl,B_3.out⟩
 | some x =>
  have HP0:=hid h0
  cases h1:rdT a1 with
  | none =>
   have HP1:=hid h1
   clear hT h0 h1
   go_enter Tryz.func4,Tryz.ntmps4
   go_wp2_with fail
   refine (awake3_any _ HT.out).mono ?_
   rintro e w1 ⟨rfl,hB⟩
   have B_1:=hid (hB)
   clear hB
   go_wp2_with fail
   refine (rd_some _ _ HP0.out).mono ?_
   rintro e w2 ⟨aX,cX,aXr,cXr,rfl,hR,hQ,hB⟩
   clear hQ
   have B_2:=hid (B_1.out.trans (hB.mono B_1.out.size))
   have RX_2:=hid hR
   clear hB hR B_1
   clear RX_2
   go_wp2_with fail
   refine (rd_none _ a1 z1 HP1.out).mono ?_
   rintro e w3 ⟨pk,pn,ps,pa,pl,pc,pk2,pn2,ps2,pa2,pl2,pc2,rfl,hB⟩
   have B_3:=hid (B_2.out.trans (hB.mono B_2.out.size))
   clear hB B_2
   go_wp2
   go_ret
   exact⟨rfl,B_3.out⟩
  | some y =>
   have HP1:=hid h1
   have FXY:=hid (rd_few h0 h1)
   have FR:=hid (rd_fewR h0 h1)
   have MX:=hid (rd_made h0)
   have XR:=hid (rd_ref h0)
   obtain⟨e1,e2,e3,e4⟩:=peel_law h0
   have hfl:=freeT_len x
   have SB:=hid e3
   have CB:=hid e4
   have E1:=hid e1
   have E2:=hid e2
   have FL:Hid ((freeT x).length≤400):=hid (by have:=XR.out.2.1;omega)
   obtain⟨qb,hqb⟩:∃ qb,(rPeelT pL (freeT x) x).2=qb:=⟨_,rfl⟩
   have QB:=hid hqb
   rw[hqb] at E2 CB
   clear hT h0 h1 e1 e2 e3 e4 hqb hfl
   go_enter Tryz.func4,Tryz.ntmps4
   go_wp2_with fail
   refine (awake3_any _ HT.out).mono ?_
   rintro e w1 ⟨rfl,hB⟩
   have B_1:=hid (hB)
   clear hB
   go_wp2_with fail
   refine (rd_some _ _ HP0.out).mono ?_
   rintro e w2 ⟨aX,cX,aXr,cXr,rfl,hR,hQ,hB⟩
   have B_2:=hid (B_1.out.trans (hB.mono B_1.out.size))
   have RX_2:=hid hR
   have QX_2:=hid hQ
   clear hB hR hQ B_1
   go_wp2_with fail
   refine (rd_some _ _ HP1.out).mono ?_
   rintro e w3 ⟨aY,cY,aYr,cYr,rfl,hR,hQ,hB⟩
   have RX_3:=hid (RX_2.out.low hB)
   have QX_3:=hid (QX_2.out.low hB)
   have B_3:=hid (B_2.out.trans (hB.mono B_2.out.size))
   have RY_3:=hid hR
   have QY_3:=hid hQ
   clear hB hR hQ RX_2 QX_2 B_2
   have k0:=RX_3.out.k.c0
   have k1:=RX_3.out.k.c1
   have k2:=RX_3.out.k.c2
   have k3:=RX_3.out.k.c3
   have l0:=RY_3.out.k.c0
   have l1:=RY_3.out.k.c1
   have l2:=RY_3.out.k.c2
   have l3:=RY_3.out.k.c3
   have C:=hid (inst_h RX_3.out.at_ RY_3.out.at_ FXY.out (tab_below HT.out B_3.out))
   go_wp2_with fail
   refine C.out.mono ?_
   rintro e w4 ⟨rfl,hB⟩
   clear C k0 k1 k2 k3 l0 l1 l2 l3
   have RX_4:=hid (RX_3.out.low hB)
   have RY_4:=hid (RY_3.out.low hB)
   have QX_4:=hid (QX_3.out.low hB)
   have QY_4:=hid (QY_3.out.low hB)
   have B_4:=hid (B_3.out.trans (hB.mono B_3.out.size))
   clear hB RX_3 RY_3 QX_3 QY_3 B_3
   have k0:=RX_4.out.k.c0
   have k1:=RX_4.out.k.c1
   have k2:=RX_4.out.k.c2
   have k3:=RX_4.out.k.c3
   have C:=hid (peel_h RX_4.out.at_ MX.out (tab_below HT.out B_4.out))
   go_wp2_with fail
   refine C.out.mono ?_
   rintro e w5 ⟨naP,ncP,aP,cP,rfl,hO,hR,hB⟩
   clear C k0 k1 k2 k3
   have RX_5:=hid (RX_4.out.low hB)
   have RY_5:=hid (RY_4.out.low hB)
   have QX_5:=hid (QX_4.out.low hB)
   have QY_5:=hid (QY_4.out.low hB)
   have B_5:=hid (B_4.out.trans (hB.mono B_4.out.size))
   have RP_5:=hid hR
   have ON_5:=hid hO
   clear hB hR hO RX_4 RY_4 QX_4 QY_4 B_4
   have npl:(PeelT pL (freeT x) x).1.length≤1099511627776:=by obtain⟨_,_,_,_,h,_⟩:=ON_5.out;exact h
   generalize PeelT pL (freeT x) x=px at *
   generalize hb1:InstT x y=b1 at *
   have EB:=hid hb1
   clear hb1
   go_upto_region 8 with fail
   generalize hWW:w5.alloc (.cells #[.int .i64 px.2.kind,.string px.2.name,.int .i64 px.2.n,.slice aP px.2.args.length cP] 26)=WW at *
   clear hWW
   have CF0:=hid (fun (W:World) (h:Below WW.heap.size WW W)=>rFree_any x _ aXr cXr W (QX_5.out.low h).at_ (fun _ h=>h) (std_wf x XR.out.1.1) (by have:=XR.out.2.1;omega))
   have CP0:=hid (fun (W:World) (h:Below WW.heap.size WW W) (bv:Value) (hb:StrsLow W bv (freeT x))=>rpeel_h (QX_5.out.low h).h (QX_5.out.low h).le hb XR.out E1.out QB.out)
   have KK:Hid (∀ W:World,Below WW.heap.size WW W→(W.cell? ⟨w2.heap.size+1,0,none⟩=some (.int .i64 x.kind)∧W.cell? ⟨w2.heap.size+1,1,none⟩=some (.string x.name)∧W.cell? ⟨w2.heap.size+1,2,none⟩=some (.int .i64 x.n)∧W.cell? ⟨w2.heap.size+1,3,none⟩=some (.slice aXr x.args.length cXr))):=hid (fun W h=>⟨(QX_5.out.low h).k.c0,(QX_5.out.low h).k.c1,(QX_5.out.low h).k.c2,(QX_5.out.low h).k.c3⟩)
   have HM:Hid (w2.heap.size≤WW.heap.size):=hid QX_5.out.le
   unfold tv at CF0
   go_cut [15,16] from 47 to 54 (fun nv bp wx=>PkCut WW px.1 qb nv bp wx)
   case first =>
    obtain⟨k0,k1,k2,k3⟩:=KK.out WW (Below.refl _ _)
    have HD:=hid (Below.refl WW.heap.size WW).drew
    have HDA:Hid (Below WW.heap.size WW (WW.alloc (.cells #[.int .i64 0,.string ⟨#[]⟩,.int .i64 0,.slice none 0 0] 29)).drew):=hid ((Below.refl WW.heap.size WW).alloc (Nat.le_refl _) _).drew
    have CF1:=hid (CF0.out WW.drew HD.out)
    have CF2:=hid (CF0.out (WW.alloc (.cells #[.int .i64 0,.string ⟨#[]⟩,.int .i64 0,.slice none 0 0] 29)).drew HDA.out)
    obtain⟨j0,j1,j2,j3⟩:=KK.out (WW.alloc (.cells #[.int .i64 0,.string ⟨#[]⟩,.int .i64 0,.slice none 0 0] 29)) ((Below.refl WW.heap.size WW).alloc (Nat.le_refl _) _)
    go_region_law (first
     | ((with_reducible show (if Region.wanted _ _=true then Oper.wp _ _ _ WW.drew _ _ else _));go_simp;go_at_call 18;(with_reducible refine CF1.out.mono ?_);rintro e v1 ⟨fv,rfl,hf,hb1⟩;have HA1:=hid (HD.out.trans hb1);have hz1:Below v1.heap.size v1 (v1.alloc (.cells #[.int .i64 0,.string ⟨#[]⟩,.int .i64 0,.slice none 0 0] 29)):=(Below.refl _ _).alloc (Nat.le_refl _) _;have HA2:=hid (HA1.out.trans (hz1.mono HA1.out.size));have CPA:=hid (CP0.out v1 HA1.out fv hf);have CPD:=hid (CP0.out (v1.alloc (.cells #[.int .i64 0,.string ⟨#[]⟩,.int .i64 0,.slice none 0 0] 29)) HA2.out fv (StrsLow.low hf hz1));have KZ:=hid (R4.new v1 (.int .i64 0) (.string ⟨#[]⟩) (.int .i64 0) (.slice none 0 0));have LZ:Hid (WW.heap.size≤v1.heap.size∧v1.heap.size<(v1.alloc (.cells #[.int .i64 0,.string ⟨#[]⟩,.int .i64 0,.slice none 0 0] 29)).heap.size):=hid ⟨HA1.out.size,by simp⟩;obtain⟨m0,m1,m2,m3⟩:=KK.out v1 HA1.out;obtain⟨n0,n1,n2,n3⟩:=KK.out _ HA2.out;clear hf hb1 hz1)
     | ((with_reducible show (if Region.wanted _ _=true then Oper.wp _ _ _ (WW.alloc (.cells #[.int .i64 0,.string ⟨#[]⟩,.int .i64 0,.slice none 0 0] 29)).drew _ _ else _));go_simp;go_at_call 18;(with_reducible refine CF2.out.mono ?_);rintro e v1 ⟨fv,rfl,hf,hb1⟩;have HA1:=hid (HDA.out.trans (hb1.mono HDA.out.size));have CPE:=hid (CP0.out v1 HA1.out fv hf);have KZ:=hid (((R4.new WW (.int .i64 0) (.string ⟨#[]⟩) (.int .i64 0) (.slice none 0 0)).low (Below.refl _ _).drew).low hb1);have LZ:Hid (WW.heap.size<v1.heap.size):=hid (Nat.lt_of_lt_of_le (by simp) hb1.size);obtain⟨m0,m1,m2,m3⟩:=KK.out v1 HA1.out;clear hf hb1)
     | (go_simp;go_at_call 17;(with_reducible refine CPA.out.mono ?_);rintro e v2 ⟨na,nc,a,c,rfl,hs,hA,hb⟩;have FIN:=hid (PkCut.new HA1.out HM.out hs hA hb);clear hs hA hb)
     | (go_simp;go_at_call 17;(with_reducible refine CPD.out.mono ?_);rintro e v2 ⟨na,nc,a,c,rfl,hs,hA,hb⟩;have FIN:=hid (PkCut.old HA2.out HM.out LZ.out.1 LZ.out.2 hs hA hb (KZ.out.low hb));have kz:=KZ.out.low hb;have s0:=kz.c0;have s1:=kz.c1;have s2:=kz.c2;have s3:=kz.c3;have f0:=kz.fr 0;have f1:=kz.fr 1;have f2:=kz.fr 2;have f3:=kz.fr 3;clear hs hA hb kz)
     | (go_simp;go_at_call 17;(with_reducible refine CPE.out.mono ?_);rintro e v2 ⟨na,nc,a,c,rfl,hs,hA,hb⟩;have FIN:=hid (PkCut.old HA1.out HM.out (Nat.le_refl _) LZ.out hs hA hb (KZ.out.low hb));have kz:=KZ.out.low hb;have s0:=kz.c0;have s1:=kz.c1;have s2:=kz.c2;have s3:=kz.c3;have f0:=kz.fr 0;have f1:=kz.fr 1;have f2:=kz.fr 2;have f3:=kz.fr 3;clear hs hA hb kz))
    all_goals
     go_wp2_with fail
     go_meet
     exact FIN.out
   obtain⟨BW,nW,naW,ncW,aW,cW,rfl,rfl,hO,hQ,hB⟩:=hcut
   clear CF0 CP0 KK HM
   have RX_6:=hid (RX_5.out.low hB)
   have RY_6:=hid (RY_5.out.low hB)
   have RP_6:=hid (RP_5.out.low hB)
   have QX_6:=hid (QX_5.out.low hB)
   have QY_6:=hid (QY_5.out.low hB)
   have ON_6:=hid (StrsLow.low ON_5.out hB)
   have B_6:=hid (B_5.out.trans (hB.mono B_5.out.size))
   have QW_6:=hid hQ
   have OM_6:=hid hO
   clear hB hQ hO RX_5 RY_5 RP_5 QX_5 QY_5 ON_5 B_5
   obtain⟨wo,hwo⟩:∃ wo:World,wo=wc:=⟨_,rfl⟩
   subst hwo
   have nl:((px.1.length:Int) != (px.1.length:Int))=false:=by simp
   go_wp2
   go_loopw [17] (fun iv wr=>∃ i:Nat,iv=.int .i64 i∧i≤px.1.length∧Below wo.heap.size wo wr) (fun iv _=>px.1.length - (intOf iv).toNat)
   case atStart=>exact⟨0,rfl,Nat.zero_le _,.refl _ _⟩
   case round =>
    obtain⟨i,rfl,hil,hB⟩:=hrel
    have HB:=hid hB
    by_cases hi:i<px.1.length
    ·have zz0:(0:Int)≤(i:Int):=by omega
     have zz1:(i:Int)<(px.1.length:Int):=by omega
     obtain⟨b1',o1,rfl,h1⟩:=strs_cell ON_6.out hi
     obtain⟨b2',o2,rfl,h2⟩:=strs_cell OM_6.out hi
     have f1:=later_cell (h1 wr hB)
     have f2:=later_cell (h2 wr hB)
     have ne2:(px.1[i].toList != px.1[i].toList)=false:=by simp
     clear h1 h2 hB
     generalize px.1[i]=nm at *
     go_wp2
     refine wp_region_later (by kernel_rfl) (by kernel_rfl) ?_
     repeat (go_big_quiet_step (fail))
     refine wpQuiet_nil ?_
     intro _ hw'
     obtain⟨pq,hw''⟩:=hw'
     subst hw''
     go_wp2
     go_roundw
     case rel=>exact⟨i+1,by go_num,by omega,HB.out.trans ((later_below _ _).mono HB.out.size)⟩
     case measure=>simp[intOf];omega
    ·obtain rfl:i=px.1.length:=by omega
     clear HB
     have RX_7:=hid (RX_6.out.low hB)
     have RY_7:=hid (RY_6.out.low hB)
     have RP_7:=hid (RP_6.out.low hB)
     have QX_7:=hid (QX_6.out.low hB)
     have QY_7:=hid (QY_6.out.low hB)
     have QW_7:=hid (QW_6.out.low hB)
     have ON_7:=hid (StrsLow.low ON_6.out hB)
     have OM_7:=hid (StrsLow.low OM_6.out hB)
     have B_7:=hid (B_6.out.trans (hB.mono B_6.out.size))
     clear hB RX_6 RY_6 RP_6 QX_6 QY_6 QW_6 ON_6 OM_6 B_6
     clear OM_7
     clear ON_7
     have k0:=RP_7.out.k.c0
     have k1:=RP_7.out.k.c1
     have k2:=RP_7.out.k.c2
     have k3:=RP_7.out.k.c3
     have C:=hid (canon_h RP_7.out.at_ SB.out (tab_below HT.out B_7.out))
     go_wp2_with fail
     refine C.out.mono ?_
     rintro e w8 ⟨rfl,hB⟩
     clear C k0 k1 k2 k3
     have RX_8:=hid (RX_7.out.low hB)
     have RY_8:=hid (RY_7.out.low hB)
     have RP_8:=hid (RP_7.out.low hB)
     have QX_8:=hid (QX_7.out.low hB)
     have QY_8:=hid (QY_7.out.low hB)
     have QW_8:=hid (QW_7.out.low hB)
     have B_8:=hid (B_7.out.trans (hB.mono B_7.out.size))
     clear hB RX_7 RY_7 RP_7 QX_7 QY_7 QW_7 B_7
     clear RP_8
     cases b1 with
     | true =>
      have k0:=QX_8.out.k.c0
      have k1:=QX_8.out.k.c1
      have k2:=QX_8.out.k.c2
      have k3:=QX_8.out.k.c3
      have l0:=QY_8.out.k.c0
      have l1:=QY_8.out.k.c1
      have l2:=QY_8.out.k.c2
      have l3:=QY_8.out.k.c3
      have C:=hid (rinst_h QX_8.out.at_ QY_8.out.at_ FR.out)
      go_wp2_with fail
      rw[EB.out] at C
      refine C.out.mono ?_
      rintro e w9 ⟨rfl,hB⟩
      clear C k0 k1 k2 k3 l0 l1 l2 l3
      have RX_9:=hid (RX_8.out.low hB)
      have RY_9:=hid (RY_8.out.low hB)
      have QX_9:=hid (QX_8.out.low hB)
      have QY_9:=hid (QY_8.out.low hB)
      have QW_9:=hid (QW_8.out.low hB)
      have B_9:=hid (B_8.out.trans (hB.mono B_8.out.size))
      clear hB RX_8 RY_8 QX_8 QY_8 QW_8 B_8
      clear RX_9
      clear QX_9
      clear RY_9
      clear QY_9
      have k0:=QW_9.out.k.c0
      have k1:=QW_9.out.k.c1
      have k2:=QW_9.out.k.c2
      have k3:=QW_9.out.k.c3
      have C:=hid (rcanon_eq QW_9.out.at_ CB.out E2.out)
      go_wp2_with fail
      refine C.out.mono ?_
      rintro e w10 ⟨rfl,hB⟩
      clear C k0 k1 k2 k3
      have QW_10:=hid (QW_9.out.low hB)
      have B_10:=hid (B_9.out.trans (hB.mono B_9.out.size))
      clear hB QW_9 B_9
      clear QW_10
      have sq:((bytes (canonS px.2)).toList==(bytes (canonS px.2)).toList)=true:=by simp
      generalize bytes (canonS px.2)=sx at *
      go_wp2
      go_ret
      exact⟨rfl,B_10.out⟩
     | false =>
      have k0:=QX_8.out.k.c0
      have k1:=QX_8.out.k.c1
      have k2:=QX_8.out.k.c2
      have k3:=QX_8.out.k.c3
      have l0:=QY_8.out.k.c0
      have l1:=QY_8.out.k.c1
      have l2:=QY_8.out.k.c2
      have l3:=QY_8.out.k.c3
      have C:=hid (rinst_h QX_8.out.at_ QY_8.out.at_ FR.out)
      go_wp2_with fail
      rw[EB.out] at C
      refine C.out.mono ?_
      rintro e w9 ⟨rfl,hB⟩
      clear C k0 k1 k2 k3 l0 l1 l2 l3
      have RX_9:=hid (RX_8.out.low hB)
      have RY_9:=hid (RY_8.out.low hB)
      have QX_9:=hid (QX_8.out.low hB)
      have QY_9:=hid (QY_8.out.low hB)
      have QW_9:=hid (QW_8.out.low hB)
      have B_9:=hid (B_8.out.trans (hB.mono B_8.out.size))
      clear hB RX_8 RY_8 QX_8 QY_8 QW_8 B_8
      clear RX_9
      clear QX_9
      clear RY_9
      clear QY_9
      have k0:=QW_9.out.k.c0
      have k1:=QW_9.out.k.c1
      have k2:=QW_9.out.k.c2
      have k3:=QW_9.out.k.c3
      have C:=hid (rcanon_eq QW_9.out.at_ CB.out E2.out)
      go_wp2_with fail
      refine C.out.mono ?_
      rintro e w10 ⟨rfl,hB⟩
      clear C k0 k1 k2 k3
      have QW_10:=hid (QW_9.out.low hB)
      have B_10:=hid (B_9.out.trans (hB.mono B_9.out.size))
      clear hB QW_9 B_9
      clear QW_10
      have sq:((bytes (canonS px.2)).toList==(bytes (canonS px.2)).toList)=true:=by simp
      generalize bytes (canonS px.2)=sx at *
      go_wp2
      go_ret
      exact⟨rfl,B_10.out⟩
end Go.Proofs.YtofllmemmggapaaGreatDoor.Tp

namespace Go.Proofs.YtofllmemmggapaaGreatDoor.matchInstances
open Go.ChangeShapes Go.WideShapes Go.ChangeAt Go.WideMaps Go.WideElems Go.RowKit
open Go.ChangeMaps (open_string shut_string)
open Tp (Tab laidL tab_of_laid door_met own laidOut)

/-! ### the row's step, as the kit's worked example (a law over laid variables) has it -/
set_option linter.unusedVariables false in
set_option maxRecDepth 100000 in
theorem lifted (os : Os) (started : os.Started) (H : Type) (enc : TypeId × Value → H) :
    ReturnsInHanded {} Tryz.checked os 4 .any (fun w args => (Rows.matchInstancesSpec.pre enc Tryz.prog Tryz.f4 [] false w args ∧ laidMetH Tryz.prog laidL w) ∧ sizedMet enc Tryz.prog Tryz.f4 (OpenSpec.ofChange Rows.matchInstancesSpec) false w args)
      (Rows.matchInstancesSpec.post enc Tryz.prog Tryz.f4 false true false false) := by
  refine returnsInHanded_of_change_and (C := Tryz.checked) (X := fun w _ => laidMetH Tryz.prog laidL w) (fun _ _ _ hh h => h.of_heap hh) own started (by kernel_rfl) Tryz.func4
    (ChangeSpec.witness_shaped (enc := enc) (C := Tryz.checked) (os := os) (X := fun w _ => laidMetH Tryz.prog laidL w) false (World.doorLaid Tryz.prog 400 os) #[.string ByteArray.empty, .string ByteArray.empty] 8 rfl (World.shaped_of_RefB (by kernel_rfl) (by kernel_rfl)) (by kernel_rfl) (by kernel_rfl) (by kernel_rfl) (door_met os _)) ?_
  intro W base args ds gs before hval0 hW _ _ hL _
  have hval : ∀ (j : Nat) t v, Tryz.f4.params[j]? = some t → args[j]? = some v → Value.okWide Tryz.prog W .any base t v := hval0
  have hW' := hW
  obtain ⟨p, q, hA0, hV, rfl, hfz, hnd⟩ := hW
  have hA : DataW.TrodAll enc Tryz.prog W 0 (fun _ => true) true Tryz.f4.params.toList args.toList ds p := hA0
  rw [Tryz.params4] at hA hval
  obtain ⟨v0, vs0, d0, ds0, p0, q0, hargs, rfl, rfl, h0, r0⟩ := trodAll_cons hA
  obtain ⟨v1, vs1, d1, ds1, p1, q1, rfl, rfl, rfl, h1, r1⟩ := trodAll_cons r0
  obtain ⟨rfl, rfl, rfl⟩ := trodAll_nil r1
  obtain rfl : args = #[v0, v1] := by cases args; simp_all
  obtain ⟨rfl, rfl⟩ := trodVars_none hV
  obtain ⟨a0, rfl, rfl, rfl, w0⟩ := open_string Tryz.underlying9 (hval 0 9 v0 rfl rfl) h0
  obtain ⟨a1, rfl, rfl, rfl, w1⟩ := open_string Tryz.underlying9 (hval 1 9 v1 rfl rfl) h1
  clear hA0 hval0
  refine (Tp.matchInstances_walk a0 w0 a1 w1 W (tab_of_laid hL)).mono fun e W' ⟨he, bel⟩ => ?_
  subst he
  exact ⟨_, rfl, _, _, _, [], _, [], hW', trodAll_mk1 (shut_bool Tryz.underlying4 _), (trodAll_cons_mk (shut_string Tryz.underlying9 w0) (trodAll_cons_mk (shut_string Tryz.underlying9 w1) trodAll_mk0)), rfl, bel.frame _, fun h => by cases h⟩

theorem row_holds : Rows.MatchInstancesSaid :=
  OpenClaim.holds_of_wide 4 Tryz.f4 rfl rfl rfl rfl rfl rfl rfl ⟨rfl, rfl, rfl, rfl, rfl⟩ rfl rfl rfl rfl rfl (by kernel_rfl) Tryz.func4 (by kernel_rfl)
    (of_decide_eq_true (by kernel_rfl)) (by unfold Func.isWrapper; first | (rw [if_pos (by decide +kernel)]; kernel_rfl) | (rw [if_neg (by decide +kernel)]; exact ⟨rfl, rfl⟩))
    (fun os started H enc _ => lifted os started H enc)

/-- THE STATEMENT: the row, tied to the program's text. -/
theorem proved : Rows.MatchInstancesCardSaid :=
  Claim7.holds_tied_plain_at .later [] [.data, .data, .data, .sentinel, .sentinel] true Rows.matchInstancesCard.stood.harness true
    row_holds (fun _ h => by cases h) (by kernel_rfl) (fun _ h => by cases h) matchInstances_row_tie rfl ⟨rfl, rfl⟩ (by kernel_rfl) rfl
    (fun f fn hf hfn => by
      obtain rfl : f = 4 := Option.some.inj ((show Tryz.prog.funcNamed "savant/savantlaw03.MatchInstances" = some 4 by kernel_rfl).symm.trans hf) |>.symm
      obtain rfl : fn = Tryz.f4 := (Option.some.inj (Tryz.func4.symm.trans hfn)).symm
      exact ⟨by kernel_rfl, fun j t ht => by
        rw [Tryz.params4] at ht
        have hm : t ∈ [9, 9] := by simpa using Array.mem_of_getElem? ht
        have hall : ([9, 9].all fun u => !Tryz.prog.wantsStandIn u) = true := by kernel_rfl
        exact (show Tryz.prog.wantsStandIn t = false by simpa using List.all_eq_true.1 hall t hm)⟩)
    (by kernel_rfl)
#print axioms proved
end Go.Proofs.YtofllmemmggapaaGreatDoor.matchInstances

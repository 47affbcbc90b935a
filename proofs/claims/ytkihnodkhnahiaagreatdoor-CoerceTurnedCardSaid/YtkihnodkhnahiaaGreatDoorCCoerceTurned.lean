/-
  Sym turns what a coercion says, and with it behind, a type is itself: for every list of at most six givens whose texts are types of at most 120 bytes, and every text of at most 400 bytes that is a coercion whose Insts let types grow a little alone; at anything else the law tells what its examples tell.
-/
import Derived.Test.YtkihnodkhnahiaaGreatDoorP51
import Derived.Test.YtkihnodkhnahiaaGreatDoorP50
import Derived.Test.YtkihnodkhnahiaaGreatDoorP22
import Derived.Test.YtkihnodkhnahiaaGreatDoorCards
import Derived.Test.YtkihnodkhnahiaaGreatDoorTie
import Derived.SevenTiedAt

namespace Go.Proofs.YtkihnodkhnahiaaGreatDoor.Tp
open Go.RowKit Go.Sort
set_option maxRecDepth 100000 in
set_option maxHeartbeats 3200000 in
theorem coerceTurned_walk (v0:Value)(ls:List Ln)(s:ByteArray)(hs:s.size≤maxLen)(w:World)(hL:LinAt w v0 ls)(hT:Tab w)(hV:Vs w):Calls Tryz.prog 3 #[v0,.string s] w fun e w'=>e=.returned (.bool true)∧Below w.heap.size w w':=by
 have HT:=Lib.hid hT
 have HV:=Lib.hid hV.n
 have HS:=Lib.hid hs
 have RL_0:=Lib.hid hL
 clear hT hV hL
 go_enter Tryz.func3,Tryz.ntmps3
 have C:=Lib.hid (awake5_any _ HT.out HV.out.at_)
 go_wp2_with fail
 refine C.out.mono ?_
 rintro e w1 ⟨rfl,hB⟩
 clear C
 have RL_1:=Lib.hid (RL_0.out.low hB)
 have B_1:=Lib.hid (hB)
 clear hB RL_0
 have C:=Lib.hid (giv_any _ v0 ls RL_1.out)
 go_wp2_with fail
 refine C.out.mono ?_
 rintro e w2 ⟨ga,gl,gc,gb,gl2,gd,ok,rfl,hB,hres⟩
 clear C
 have RL_2:=Lib.hid (RL_1.out.low hB)
 have B_2:=Lib.hid (B_1.out.trans (hB.mono B_1.out.size))
 clear hB RL_1 B_1
 clear RL_2
 rcases hres with ⟨rfl,⟨gg,hgg,hG⟩,_⟩|⟨rfl,hgg⟩
 ·have RG_2:=Lib.hid hG
  have GO:=Lib.hid (readG_ok hgg)
  clear hG hgg
  have C:=Lib.hid (pec_any _ (HV.out _ B_2.out) s HS.out)
  go_wp2_with fail
  refine C.out.mono ?_
  rintro e w3 ⟨c,ca,cm,cka,ckm,er,rfl,hC,hB,hres⟩
  clear C
  have RG_3:=Lib.hid (RG_2.out.low hB)
  have B_3:=Lib.hid (B_2.out.trans (hB.mono B_2.out.size))
  have RC_3:=Lib.hid hC
  clear hB hC RG_2 B_2
  rcases hres with ⟨hp,rfl⟩|⟨hp,her⟩
  ·by_cases h4:400<s.size
   ·have z4:decide ((400:Int)<(s.size:Int))=true:=decide_eq_true (by omega)
    clear hp
    go_wp2
    go_ret
    exact⟨rfl,B_3.out⟩
   ·have z4:decide ((400:Int)<(s.size:Int))=false:=decide_eq_false (by omega)
    have WF:=Lib.hid (parseC_wf hp)
    have k0:=RC_3.out.k.c0
    have k1:=RC_3.out.k.c1
    have k2:=RC_3.out.k.c2
    have k3:=RC_3.out.k.c3
    have k4:=RC_3.out.k.c4
    have k5:=RC_3.out.k.c5
    have k6:=RC_3.out.k.c6
    have k7:=RC_3.out.k.c7
    have C:=Lib.hid (calm_h RC_3.out.at_ WF.out.1 (by have:=WF.out.2.1;omega))
    go_wp2_with fail
    refine C.out.mono ?_
    rintro e w4 ⟨rfl,hB⟩
    clear C k0 k1 k2 k3 k4 k5 k6 k7
    have RG_4:=Lib.hid (RG_3.out.low hB)
    have RC_4:=Lib.hid (RC_3.out.low hB)
    have B_4:=Lib.hid (B_3.out.trans (hB.mono B_3.out.size))
    clear hB RG_3 RC_3 B_3
    by_cases hcm:grC c≤2000
    ·rw[decide_eq_true hcm]
     have TM:=Lib.hid (parseC_tame hp (by rw[size_list];omega) hcm)
     clear hp hcm z4 h4
     have k0:=RC_4.out.k.c0
     have k1:=RC_4.out.k.c1
     have k2:=RC_4.out.k.c2
     have k3:=RC_4.out.k.c3
     have k4:=RC_4.out.k.c4
     have k5:=RC_4.out.k.c5
     have k6:=RC_4.out.k.c6
     have k7:=RC_4.out.k.c7
     have C:=Lib.hid (says_h GO.out RG_4.out RC_4.out.at_ TM.out (tab_below HT.out B_4.out))
     go_wp2_with fail
     refine C.out.mono ?_
     rintro e w5 ⟨x,y,xa,xc,ya,yc,e1,rfl,hX,hY,hB,hr1⟩
     clear C k0 k1 k2 k3 k4 k5 k6 k7
     have HR1:=Lib.hid hr1
     clear hr1
     have RG_5:=Lib.hid (RG_4.out.low hB)
     have RC_5:=Lib.hid (RC_4.out.low hB)
     have B_5:=Lib.hid (B_4.out.trans (hB.mono B_4.out.size))
     have RX_5:=Lib.hid hX
     have RY_5:=Lib.hid hY
     clear hB hX hY RG_4 RC_4 B_4
     have k0:=RC_5.out.k.c0
     have k1:=RC_5.out.k.c1
     have k2:=RC_5.out.k.c2
     have k3:=RC_5.out.k.c3
     have k4:=RC_5.out.k.c4
     have k5:=RC_5.out.k.c5
     have k6:=RC_5.out.k.c6
     have k7:=RC_5.out.k.c7
     have hsz:((w5.alloc (.cells #[.int .i64 x.kind,.string x.name,.int .i64 x.n,.slice xa x.args.length xc] 30)).alloc (.cells #[.int .i64 y.kind,.string y.name,.int .i64 y.n,.slice ya y.args.length yc] 30)).heap.size=w5.heap.size+1+1:=by first|rfl|simp
     have hB:=(Below.refl ((w5.alloc (.cells #[.int .i64 x.kind,.string x.name,.int .i64 x.n,.slice xa x.args.length xc] 30)).alloc (.cells #[.int .i64 y.kind,.string y.name,.int .i64 y.n,.slice ya y.args.length yc] 30)).heap.size ((w5.alloc (.cells #[.int .i64 x.kind,.string x.name,.int .i64 x.n,.slice xa x.args.length xc] 30)).alloc (.cells #[.int .i64 y.kind,.string y.name,.int .i64 y.n,.slice ya y.args.length yc] 30))).alloc (Nat.le_refl _) (.cells #[.int .i64 c.kind,.string c.name,.int .i64 c.n,.int .i64 c.t.kind,.string c.t.name,.int .i64 c.t.n,.slice ca c.t.args.length cm,.slice cka c.kids.length ckm] 33)
     have hnS:=coK (kd:=3) (s:=e0) (n:=0) (ks:=[c]) (kid1 RC_5.out.at_ hsz)
     have RG_6:=Lib.hid (RG_5.out.low hB)
     have RC_6:=Lib.hid (RC_5.out.low hB)
     have RX_6:=Lib.hid (RX_5.out.low hB)
     have RY_6:=Lib.hid (RY_5.out.low hB)
     have B_6:=Lib.hid (B_5.out.trans (hB.mono B_5.out.size))
     have RS_6:=Lib.hid hnS
     clear hB hnS RG_5 RC_5 RX_5 RY_5 B_5
     clear hsz
     have hsz:(((w5.alloc (.cells #[.int .i64 x.kind,.string x.name,.int .i64 x.n,.slice xa x.args.length xc] 30)).alloc (.cells #[.int .i64 y.kind,.string y.name,.int .i64 y.n,.slice ya y.args.length yc] 30)).alloc (.cells #[.int .i64 c.kind,.string c.name,.int .i64 c.n,.int .i64 c.t.kind,.string c.t.name,.int .i64 c.t.n,.slice ca c.t.args.length cm,.slice cka c.kids.length ckm] 33)).heap.size=w5.heap.size+1+1+1:=by first|rfl|simp
     have hB:=(Below.refl (((w5.alloc (.cells #[.int .i64 x.kind,.string x.name,.int .i64 x.n,.slice xa x.args.length xc] 30)).alloc (.cells #[.int .i64 y.kind,.string y.name,.int .i64 y.n,.slice ya y.args.length yc] 30)).alloc (.cells #[.int .i64 c.kind,.string c.name,.int .i64 c.n,.int .i64 c.t.kind,.string c.t.name,.int .i64 c.t.n,.slice ca c.t.args.length cm,.slice cka c.kids.length ckm] 33)).heap.size (((w5.alloc (.cells #[.int .i64 x.kind,.string x.name,.int .i64 x.n,.slice xa x.args.length xc] 30)).alloc (.cells #[.int .i64 y.kind,.string y.name,.int .i64 y.n,.slice ya y.args.length yc] 30)).alloc (.cells #[.int .i64 c.kind,.string c.name,.int .i64 c.n,.int .i64 c.t.kind,.string c.t.name,.int .i64 c.t.n,.slice ca c.t.args.length cm,.slice cka c.kids.length ckm] 33))).alloc (Nat.le_refl _) (.cells #[.int .i64 3,.string ⟨#[]⟩,.int .i64 0,.int .i64 0,.string ⟨#[]⟩,.int .i64 0,.slice none 0 0,.slice (some ⟨w5.heap.size+1+1,0,none⟩) 1 1] 33)
     have hnB:=(by have hb8:=B8.new (((w5.alloc (.cells #[.int .i64 x.kind,.string x.name,.int .i64 x.n,.slice xa x.args.length xc] 30)).alloc (.cells #[.int .i64 y.kind,.string y.name,.int .i64 y.n,.slice ya y.args.length yc] 30)).alloc (.cells #[.int .i64 c.kind,.string c.name,.int .i64 c.n,.int .i64 c.t.kind,.string c.t.name,.int .i64 c.t.n,.slice ca c.t.args.length cm,.slice cka c.kids.length ckm] 33)) (.int .i64 3) (.string ⟨#[]⟩) (.int .i64 0) (.int .i64 0) (.string ⟨#[]⟩) (.int .i64 0) (.slice none 0 0) (.slice (some ⟨w5.heap.size+1+1,0,none⟩) 1 1);rw[hsz] at hb8;exact hb8:B8 _ (w5.heap.size+1+1+1) (.int .i64 3) (.string ⟨#[]⟩) (.int .i64 0) (.int .i64 0) (.string ⟨#[]⟩) (.int .i64 0) (.slice none 0 0) (.slice (some ⟨w5.heap.size+1+1,0,none⟩) 1 1))
     have RG_7:=Lib.hid (RG_6.out.low hB)
     have RC_7:=Lib.hid (RC_6.out.low hB)
     have RX_7:=Lib.hid (RX_6.out.low hB)
     have RY_7:=Lib.hid (RY_6.out.low hB)
     have RS_7:=Lib.hid (RS_6.out.low hB)
     have B_7:=Lib.hid (B_6.out.trans (hB.mono B_6.out.size))
     have RB_7:=Lib.hid hnB
     clear hB hnB RG_6 RC_6 RX_6 RY_6 RS_6 B_6
     clear hsz
     have l0:=RB_7.out.c0
     have l1:=RB_7.out.c1
     have l2:=RB_7.out.c2
     have l3:=RB_7.out.c3
     have l4:=RB_7.out.c4
     have l5:=RB_7.out.c5
     have l6:=RB_7.out.c6
     have l7:=RB_7.out.c7
     have C:=Lib.hid (show Calls Tryz.prog 12 #[.slice ga gl gc,.agg #[.int .i64 3,.string ⟨#[]⟩,.int .i64 0,.int .i64 0,.string ⟨#[]⟩,.int .i64 0,.slice none 0 0,.slice (some ⟨w5.heap.size+1+1,0,none⟩) 1 1]] ((((w5.alloc (.cells #[.int .i64 x.kind,.string x.name,.int .i64 x.n,.slice xa x.args.length xc] 30)).alloc (.cells #[.int .i64 y.kind,.string y.name,.int .i64 y.n,.slice ya y.args.length yc] 30)).alloc (.cells #[.int .i64 c.kind,.string c.name,.int .i64 c.n,.int .i64 c.t.kind,.string c.t.name,.int .i64 c.t.n,.slice ca c.t.args.length cm,.slice cka c.kids.length ckm] 33)).alloc (.cells #[.int .i64 3,.string ⟨#[]⟩,.int .i64 0,.int .i64 0,.string ⟨#[]⟩,.int .i64 0,.slice none 0 0,.slice (some ⟨w5.heap.size+1+1,0,none⟩) 1 1] 33)) (SaidH ((((w5.alloc (.cells #[.int .i64 x.kind,.string x.name,.int .i64 x.n,.slice xa x.args.length xc] 30)).alloc (.cells #[.int .i64 y.kind,.string y.name,.int .i64 y.n,.slice ya y.args.length yc] 30)).alloc (.cells #[.int .i64 c.kind,.string c.name,.int .i64 c.n,.int .i64 c.t.kind,.string c.t.name,.int .i64 c.t.n,.slice ca c.t.args.length cm,.slice cka c.kids.length ckm] 33)).alloc (.cells #[.int .i64 3,.string ⟨#[]⟩,.int .i64 0,.int .i64 0,.string ⟨#[]⟩,.int .i64 0,.slice none 0 0,.slice (some ⟨w5.heap.size+1+1,0,none⟩) 1 1] 33)) (saysC gg (symC c))) from says_h GO.out RG_7.out RS_7.out TM.out.sym (tab_below HT.out B_7.out))
     go_wp2_with fail
     refine C.out.mono ?_
     rintro e w8 ⟨u,v,ua,uc,va,vc,e2,rfl,hX,hY,hB,hr2⟩
     clear C l0 l1 l2 l3 l4 l5 l6 l7 k0 k1 k2 k3 k4 k5 k6 k7
     have HR2:=Lib.hid hr2
     clear hr2
     have RG_8:=Lib.hid (RG_7.out.low hB)
     have RC_8:=Lib.hid (RC_7.out.low hB)
     have RX_8:=Lib.hid (RX_7.out.low hB)
     have RY_8:=Lib.hid (RY_7.out.low hB)
     have RS_8:=Lib.hid (RS_7.out.low hB)
     have RB_8:=Lib.hid (RB_7.out.low hB)
     have B_8:=Lib.hid (B_7.out.trans (hB.mono B_7.out.size))
     have RU_8:=Lib.hid hX
     have RV_8:=Lib.hid hY
     clear hB hX hY RG_7 RC_7 RX_7 RY_7 RS_7 RB_7 B_7
     have k0:=RC_8.out.k.c0
     have k1:=RC_8.out.k.c1
     have k2:=RC_8.out.k.c2
     have k3:=RC_8.out.k.c3
     have k4:=RC_8.out.k.c4
     have k5:=RC_8.out.k.c5
     have k6:=RC_8.out.k.c6
     have k7:=RC_8.out.k.c7
     have l0:=RB_8.out.c0
     have l1:=RB_8.out.c1
     have l2:=RB_8.out.c2
     have l3:=RB_8.out.c3
     have l4:=RB_8.out.c4
     have l5:=RB_8.out.c5
     have l6:=RB_8.out.c6
     have l7:=RB_8.out.c7
     have hsz:((w8.alloc (.cells #[.int .i64 u.kind,.string u.name,.int .i64 u.n,.slice ua u.args.length uc] 30)).alloc (.cells #[.int .i64 v.kind,.string v.name,.int .i64 v.n,.slice va v.args.length vc] 30)).heap.size=w8.heap.size+1+1:=by first|rfl|simp
     have hB:=(Below.refl ((w8.alloc (.cells #[.int .i64 u.kind,.string u.name,.int .i64 u.n,.slice ua u.args.length uc] 30)).alloc (.cells #[.int .i64 v.kind,.string v.name,.int .i64 v.n,.slice va v.args.length vc] 30)).heap.size ((w8.alloc (.cells #[.int .i64 u.kind,.string u.name,.int .i64 u.n,.slice ua u.args.length uc] 30)).alloc (.cells #[.int .i64 v.kind,.string v.name,.int .i64 v.n,.slice va v.args.length vc] 30))).alloc (Nat.le_refl _) (.cells #[.int .i64 c.kind,.string c.name,.int .i64 c.n,.int .i64 c.t.kind,.string c.t.name,.int .i64 c.t.n,.slice ca c.t.args.length cm,.slice cka c.kids.length ckm,.int .i64 3,.string ⟨#[]⟩,.int .i64 0,.int .i64 0,.string ⟨#[]⟩,.int .i64 0,.slice none 0 0,.slice (some ⟨w5.heap.size+1+1,0,none⟩) 1 1] 33)
     have hnD:=coK (kd:=4) (s:=e0) (n:=0) (ks:=[c,symC c]) (kid2 RC_8.out.at_ RS_8.out hsz rfl rfl rfl rfl rfl rfl rfl rfl)
     have RG_9:=Lib.hid (RG_8.out.low hB)
     have RC_9:=Lib.hid (RC_8.out.low hB)
     have RX_9:=Lib.hid (RX_8.out.low hB)
     have RY_9:=Lib.hid (RY_8.out.low hB)
     have RS_9:=Lib.hid (RS_8.out.low hB)
     have RB_9:=Lib.hid (RB_8.out.low hB)
     have RU_9:=Lib.hid (RU_8.out.low hB)
     have RV_9:=Lib.hid (RV_8.out.low hB)
     have B_9:=Lib.hid (B_8.out.trans (hB.mono B_8.out.size))
     have RD_9:=Lib.hid hnD
     clear hB hnD RG_8 RC_8 RX_8 RY_8 RS_8 RB_8 RU_8 RV_8 B_8
     clear hsz
     have C:=Lib.hid (show Calls Tryz.prog 12 #[.slice ga gl gc,.agg #[.int .i64 4,.string ⟨#[]⟩,.int .i64 0,.int .i64 0,.string ⟨#[]⟩,.int .i64 0,.slice none 0 0,.slice (some ⟨w8.heap.size+1+1,0,none⟩) 2 2]] (((w8.alloc (.cells #[.int .i64 u.kind,.string u.name,.int .i64 u.n,.slice ua u.args.length uc] 30)).alloc (.cells #[.int .i64 v.kind,.string v.name,.int .i64 v.n,.slice va v.args.length vc] 30)).alloc (.cells #[.int .i64 c.kind,.string c.name,.int .i64 c.n,.int .i64 c.t.kind,.string c.t.name,.int .i64 c.t.n,.slice ca c.t.args.length cm,.slice cka c.kids.length ckm,.int .i64 3,.string ⟨#[]⟩,.int .i64 0,.int .i64 0,.string ⟨#[]⟩,.int .i64 0,.slice none 0 0,.slice (some ⟨w5.heap.size+1+1,0,none⟩) 1 1] 33)) (SaidH (((w8.alloc (.cells #[.int .i64 u.kind,.string u.name,.int .i64 u.n,.slice ua u.args.length uc] 30)).alloc (.cells #[.int .i64 v.kind,.string v.name,.int .i64 v.n,.slice va v.args.length vc] 30)).alloc (.cells #[.int .i64 c.kind,.string c.name,.int .i64 c.n,.int .i64 c.t.kind,.string c.t.name,.int .i64 c.t.n,.slice ca c.t.args.length cm,.slice cka c.kids.length ckm,.int .i64 3,.string ⟨#[]⟩,.int .i64 0,.int .i64 0,.string ⟨#[]⟩,.int .i64 0,.slice none 0 0,.slice (some ⟨w5.heap.size+1+1,0,none⟩) 1 1] 33)) (saysC gg (backC c))) from says_h GO.out RG_9.out RD_9.out TM.out.back (tab_below HT.out B_9.out))
     go_wp2_with fail
     refine C.out.mono ?_
     rintro e w10 ⟨p,r,pa,pc,ra,rc,e3,rfl,hX,hY,hB,hr3⟩
     clear C k0 k1 k2 k3 k4 k5 k6 k7 l0 l1 l2 l3 l4 l5 l6 l7
     have HR3:=Lib.hid hr3
     clear hr3
     have RG_10:=Lib.hid (RG_9.out.low hB)
     have RC_10:=Lib.hid (RC_9.out.low hB)
     have RX_10:=Lib.hid (RX_9.out.low hB)
     have RY_10:=Lib.hid (RY_9.out.low hB)
     have RS_10:=Lib.hid (RS_9.out.low hB)
     have RB_10:=Lib.hid (RB_9.out.low hB)
     have RU_10:=Lib.hid (RU_9.out.low hB)
     have RV_10:=Lib.hid (RV_9.out.low hB)
     have RD_10:=Lib.hid (RD_9.out.low hB)
     have B_10:=Lib.hid (B_9.out.trans (hB.mono B_9.out.size))
     have RP_10:=Lib.hid hX
     have RR_10:=Lib.hid hY
     clear hB hX hY RG_9 RC_9 RX_9 RY_9 RS_9 RB_9 RU_9 RV_9 RD_9 B_9
     clear RC_10
     clear RS_10
     clear RB_10
     clear RD_10
     clear RG_10
     cases hsay:saysC gg c with
     | none =>
      obtain rfl:e1=50:=by
       rcases HR1.out with ⟨h,_⟩|⟨_,h⟩
       ·rw[hsay] at h;cases h
       ·exact h
      obtain rfl:e2=50:=by
       rcases HR2.out with ⟨h,_⟩|⟨_,h⟩
       ·rw[says_symC,hsay] at h;cases h
       ·exact h
      obtain rfl:e3=50:=by
       rcases HR3.out with ⟨h,_⟩|⟨_,h⟩
       ·rw[says_backC TM.out,hsay] at h;cases h
       ·exact h
      go_wp2
      go_ret
      exact⟨rfl,B_10.out⟩
     | some pr =>
      obtain⟨rfl,rfl⟩:pr=(x,y)∧e1=0:=by
       rcases HR1.out with ⟨h,h2⟩|⟨h,_⟩
       ·rw[hsay] at h;injection h with h;exact⟨h,h2⟩
       ·rw[hsay] at h;cases h
      obtain⟨rfl,rfl,rfl⟩:u=y∧v=x∧e2=0:=by
       rcases HR2.out with ⟨h,h2⟩|⟨h,_⟩
       ·rw[says_symC,hsay] at h;injection h with h;injection h with h3 h4;exact⟨h3.symm,h4.symm,h2⟩
       ·rw[says_symC,hsay] at h;cases h
      obtain⟨rfl,rfl,rfl⟩:p=v∧r=v∧e3=0:=by
       rcases HR3.out with ⟨h,h2⟩|⟨h,_⟩
       ·rw[says_backC TM.out,hsay] at h;injection h with h;injection h with h3 h4;exact⟨h3.symm,h4.symm,h2⟩
       ·rw[says_backC TM.out,hsay] at h;cases h
      have SM:=Lib.hid (says_small GO.out TM.out hsay)
      clear hsay HR1 HR2 HR3
      have k0:=RU_10.out.k.c0
      have k1:=RU_10.out.k.c1
      have k2:=RU_10.out.k.c2
      have k3:=RU_10.out.k.c3
      have l0:=RY_10.out.k.c0
      have l1:=RY_10.out.k.c1
      have l2:=RY_10.out.k.c2
      have l3:=RY_10.out.k.c3
      have C:=Lib.hid (same_eq RU_10.out.at_ RY_10.out.at_ SM.out.2 SM.out.2 rfl (tab_below HT.out B_10.out))
      go_wp2_with fail
      refine C.out.mono ?_
      rintro e w11 ⟨rfl,hB⟩
      clear C k0 k1 k2 k3 l0 l1 l2 l3
      have RX_11:=Lib.hid (RX_10.out.low hB)
      have RY_11:=Lib.hid (RY_10.out.low hB)
      have RU_11:=Lib.hid (RU_10.out.low hB)
      have RV_11:=Lib.hid (RV_10.out.low hB)
      have RP_11:=Lib.hid (RP_10.out.low hB)
      have RR_11:=Lib.hid (RR_10.out.low hB)
      have B_11:=Lib.hid (B_10.out.trans (hB.mono B_10.out.size))
      clear hB RX_10 RY_10 RU_10 RV_10 RP_10 RR_10 B_10
      have k0:=RV_11.out.k.c0
      have k1:=RV_11.out.k.c1
      have k2:=RV_11.out.k.c2
      have k3:=RV_11.out.k.c3
      have l0:=RX_11.out.k.c0
      have l1:=RX_11.out.k.c1
      have l2:=RX_11.out.k.c2
      have l3:=RX_11.out.k.c3
      have C:=Lib.hid (same_eq RV_11.out.at_ RX_11.out.at_ SM.out.1 SM.out.1 rfl (tab_below HT.out B_11.out))
      go_wp2_with fail
      refine C.out.mono ?_
      rintro e w12 ⟨rfl,hB⟩
      clear C k0 k1 k2 k3 l0 l1 l2 l3
      have RX_12:=Lib.hid (RX_11.out.low hB)
      have RY_12:=Lib.hid (RY_11.out.low hB)
      have RU_12:=Lib.hid (RU_11.out.low hB)
      have RV_12:=Lib.hid (RV_11.out.low hB)
      have RP_12:=Lib.hid (RP_11.out.low hB)
      have RR_12:=Lib.hid (RR_11.out.low hB)
      have B_12:=Lib.hid (B_11.out.trans (hB.mono B_11.out.size))
      clear hB RX_11 RY_11 RU_11 RV_11 RP_11 RR_11 B_11
      have k0:=RP_12.out.k.c0
      have k1:=RP_12.out.k.c1
      have k2:=RP_12.out.k.c2
      have k3:=RP_12.out.k.c3
      have l0:=RX_12.out.k.c0
      have l1:=RX_12.out.k.c1
      have l2:=RX_12.out.k.c2
      have l3:=RX_12.out.k.c3
      have C:=Lib.hid (same_eq RP_12.out.at_ RX_12.out.at_ SM.out.1 SM.out.1 rfl (tab_below HT.out B_12.out))
      go_wp2_with fail
      refine C.out.mono ?_
      rintro e w13 ⟨rfl,hB⟩
      clear C k0 k1 k2 k3 l0 l1 l2 l3
      have RX_13:=Lib.hid (RX_12.out.low hB)
      have RY_13:=Lib.hid (RY_12.out.low hB)
      have RU_13:=Lib.hid (RU_12.out.low hB)
      have RV_13:=Lib.hid (RV_12.out.low hB)
      have RP_13:=Lib.hid (RP_12.out.low hB)
      have RR_13:=Lib.hid (RR_12.out.low hB)
      have B_13:=Lib.hid (B_12.out.trans (hB.mono B_12.out.size))
      clear hB RX_12 RY_12 RU_12 RV_12 RP_12 RR_12 B_12
      have k0:=RR_13.out.k.c0
      have k1:=RR_13.out.k.c1
      have k2:=RR_13.out.k.c2
      have k3:=RR_13.out.k.c3
      have l0:=RX_13.out.k.c0
      have l1:=RX_13.out.k.c1
      have l2:=RX_13.out.k.c2
      have l3:=RX_13.out.k.c3
      have C:=Lib.hid (same_eq RR_13.out.at_ RX_13.out.at_ SM.out.1 SM.out.1 rfl (tab_below HT.out B_13.out))
      go_wp2_with fail
      refine C.out.mono ?_
      rintro e w14 ⟨rfl,hB⟩
      clear C k0 k1 k2 k3 l0 l1 l2 l3
      have RX_14:=Lib.hid (RX_13.out.low hB)
      have RY_14:=Lib.hid (RY_13.out.low hB)
      have RU_14:=Lib.hid (RU_13.out.low hB)
      have RV_14:=Lib.hid (RV_13.out.low hB)
      have RP_14:=Lib.hid (RP_13.out.low hB)
      have RR_14:=Lib.hid (RR_13.out.low hB)
      have B_14:=Lib.hid (B_13.out.trans (hB.mono B_13.out.size))
      clear hB RX_13 RY_13 RU_13 RV_13 RP_13 RR_13 B_13
      go_wp2
      go_ret
      exact⟨rfl,B_14.out⟩
    ·rw[decide_eq_false hcm]
     clear hp
     go_wp2
     go_ret
     exact⟨rfl,B_4.out⟩
  ·have z0:((er:Int) != 0)=true:=by rw[bne_iff_ne];omega
   clear hp
   go_wp2
   go_ret
   exact⟨rfl,B_3.out⟩
 ·have C:=Lib.hid (pec_any _ (HV.out _ B_2.out) s HS.out)
  go_wp2_with fail
  refine C.out.mono ?_
  rintro e w3 ⟨c,ca,cm,cka,ckm,er,rfl,hC,hB,hres⟩
  clear C
  have B_3:=Lib.hid (B_2.out.trans (hB.mono B_2.out.size))
  have RC_3:=Lib.hid hC
  clear hB hC B_2
  clear hres hgg
  go_wp2
  go_ret
  exact⟨rfl,B_3.out⟩
end Go.Proofs.YtkihnodkhnahiaaGreatDoor.Tp

namespace Go.Proofs.YtkihnodkhnahiaaGreatDoor.coerceTurned
open Go.ChangeShapes Go.WideShapes Go.ChangeAt Go.WideMaps Go.WideElems Go.RowKit
open Go.ChangeMaps (open_string shut_string)
open Tp (Tab laidL tab_of_laid vs_of_laid door_met own laidOut)

/-! ### the row's step, as the kit's worked example (a law over laid variables) has it -/
set_option linter.unusedVariables false in
set_option maxRecDepth 100000 in
theorem lifted (os : Os) (started : os.Started) (H : Type) (enc : TypeId × Value → H) :
    ReturnsInHanded {} Tryz.checked os 3 .any (fun w args => (Rows.coerceTurnedSpec.pre enc Tryz.prog Tryz.f3 [] false w args ∧ laidMetH Tryz.prog laidL w) ∧ sizedMet enc Tryz.prog Tryz.f3 (OpenSpec.ofChange Rows.coerceTurnedSpec) false w args)
      (Rows.coerceTurnedSpec.post enc Tryz.prog Tryz.f3 false true false false) := by
  refine returnsInHanded_of_change_and (C := Tryz.checked) (X := fun w _ => laidMetH Tryz.prog laidL w) (fun _ _ _ hh h => h.of_heap hh) own started (by kernel_rfl) Tryz.func3
    (ChangeSpec.witness_shaped (enc := enc) (C := Tryz.checked) (os := os) (X := fun w _ => laidMetH Tryz.prog laidL w) false (World.doorLaid Tryz.prog 400 os) #[.slice none 0 0, .string ByteArray.empty] 8 rfl (World.shaped_of_RefB (by kernel_rfl) (by kernel_rfl)) (by kernel_rfl) (by kernel_rfl) (by kernel_rfl) (door_met os _)) ?_
  intro W base args ds gs before hval0 hW _ _ hL _
  have hval : ∀ (j : Nat) t v, Tryz.f3.params[j]? = some t → args[j]? = some v → Value.okWide Tryz.prog W .any base t v := hval0
  have hW' := hW
  obtain ⟨p, q, hA0, hV, rfl, hfz, hnd⟩ := hW
  have hA : DataW.TrodAll enc Tryz.prog W 0 (fun _ => true) true Tryz.f3.params.toList args.toList ds p := hA0
  rw [Tryz.params3] at hA hval
  obtain ⟨v0, vs0, d0, ds0, p0, q0, hargs, rfl, rfl, h0, r0⟩ := trodAll_cons hA
  obtain ⟨v1, vs1, d1, ds1, p1, q1, rfl, rfl, rfl, h1, r1⟩ := trodAll_cons r0
  obtain ⟨rfl, rfl, rfl⟩ := trodAll_nil r1
  obtain rfl : args = #[v0, v1] := by cases args; simp_all
  obtain ⟨rfl, rfl⟩ := trodVars_none hV
  have k0 := h0
  have lt0 : ∀ x ∈ p0, x.block < W.heap.size := by obtain ⟨m, hm⟩ := k0; exact DataW.trod_lt m _ _ _ hm
  obtain ⟨a0, w0⟩ := Tp.opnL (hval 0 22 v0 rfl rfl) h0
  obtain ⟨a1, rfl, rfl, rfl, w1⟩ := open_string Tryz.underlying9 (hval 1 9 v1 rfl rfl) h1
  clear hA0 hval0
  refine (Tp.coerceTurned_walk v0 a0 a1 w1 W w0 (tab_of_laid hL) (vs_of_laid hL)).mono fun e W' ⟨he, bel⟩ => ?_
  subst he
  exact ⟨_, rfl, _, _, _, [], _, [], hW', trodAll_mk1 (shut_bool Tryz.underlying4 _), (trodAll_cons_mk (Below.trod laidOut (by kernel_rfl) (of_decide_eq_true (by kernel_rfl)) k0 bel lt0) (trodAll_cons_mk (shut_string Tryz.underlying9 w1) trodAll_mk0)), rfl, bel.frame _, fun h => by cases h⟩

theorem row_holds : Rows.CoerceTurnedSaid :=
  OpenClaim.holds_of_wide 3 Tryz.f3 rfl rfl rfl rfl rfl rfl rfl ⟨rfl, rfl, rfl, rfl, rfl⟩ rfl rfl rfl rfl rfl (by kernel_rfl) Tryz.func3 (by kernel_rfl)
    (of_decide_eq_true (by kernel_rfl)) (by unfold Func.isWrapper; first | (rw [if_pos (by decide +kernel)]; kernel_rfl) | (rw [if_neg (by decide +kernel)]; exact ⟨rfl, rfl⟩))
    (fun os started H enc _ => lifted os started H enc)

/-- THE STATEMENT: the row, tied to the program's text. -/
theorem proved : Rows.CoerceTurnedCardSaid :=
  Claim7.holds_tied_plain_at .later [] [.data, .data, .data, .sentinel, .sentinel] true Rows.coerceTurnedCard.stood.harness true
    row_holds (fun _ h => by cases h) (by kernel_rfl) (fun _ h => by cases h) coerceTurned_row_tie rfl ⟨rfl, rfl⟩ (by kernel_rfl) rfl
    (fun f fn hf hfn => by
      obtain rfl : f = 3 := Option.some.inj ((show Tryz.prog.funcNamed "savant/savantlaw05.CoerceTurned" = some 3 by kernel_rfl).symm.trans hf) |>.symm
      obtain rfl : fn = Tryz.f3 := (Option.some.inj (Tryz.func3.symm.trans hfn)).symm
      exact ⟨by kernel_rfl, fun j t ht => by
        rw [Tryz.params3] at ht
        have hm : t ∈ [22, 9] := by simpa using Array.mem_of_getElem? ht
        have hall : ([22, 9].all fun u => !Tryz.prog.wantsStandIn u) = true := by kernel_rfl
        exact (show Tryz.prog.wantsStandIn t = false by simpa using List.all_eq_true.1 hall t hm)⟩)
    (by kernel_rfl)
#print axioms proved
end Go.Proofs.YtkihnodkhnahiaaGreatDoor.coerceTurned

/-
  The arguments of what CoCon and CoFun say are what their Kids say, and Inst of All is what the Kid says with the type in the place: for every list of at most six givens whose texts are types of at most 120 bytes, every two texts of at most 300 bytes that are coercions whose Insts let types grow a little alone, every text of at most 100 bytes that is a type, and every variable's word; at anything else the law tells what its examples tell.
-/
import Derived.Test.YtkihnodkhnahiaaGreatDoorP51
import Derived.Test.YtkihnodkhnahiaaGreatDoorP50
import Derived.Test.YtkihnodkhnahiaaGreatDoorP22
import Derived.Test.YtkihnodkhnahiaaGreatDoorCards
import Derived.Test.YtkihnodkhnahiaaGreatDoorTie
import Derived.SevenTiedAt

namespace Go.Proofs.YtkihnodkhnahiaaGreatDoor.Tp
open Go.RowKit Go.Sort
open Lx
set_option maxRecDepth 100000 in
set_option maxHeartbeats 6400000 in
theorem coerceParts_walk (v0:Value)(ls:List Ln)(s:ByteArray)(hs:s.size≤maxLen)(r:ByteArray)(hr:r.size≤maxLen)(u:ByteArray)(hu:u.size≤maxLen)(nm:ByteArray)(hn:nm.size≤maxLen)(w:World)(hL:LinAt w v0 ls)(hT:Tab w)(hV:Vs w):Calls Tryz.prog 5 #[v0,.string s,.string r,.string u,.string nm] w fun e w'=>e=.returned (.bool true)∧Below w.heap.size w w':=by
 have HT:=Lib.hid hT
 have HV:=Lib.hid hV.n
 have HS:=Lib.hid hs
 have HR:=Lib.hid hr
 have HU:=Lib.hid hu
 have HN:=Lib.hid hn
 have RL_0:=Lib.hid hL
 clear hT hV hL
 go_enter Tryz.func5,Tryz.ntmps5
 have C:=Lib.hid (awake5_any _ HT.out HV.out.at_)
 go_wp2_with fail
 refine C.out.mono ?_
 rintro e w1 ⟨rfl,hB⟩
 clear C
 have RL_1:=Lib.hid (RL_0.out.low hB)
 have B_1:=Lib.hid (hB)
 clear hB RL_0
 have C:=Lib.hid (giv_any _ v0 ls RL_1.out)
 go_wp2_with fail
 refine C.out.mono ?_
 rintro e w2 ⟨ga,gl,gc,gb,gl2,gd,ok1,rfl,hB,hres⟩
 clear C
 have hJ:GivRes _ ga gl gc (readG ls) ok1:=hres
 clear hres
 have RL_2:=Lib.hid (RL_1.out.low hB)
 have B_2:=Lib.hid (B_1.out.trans (hB.mono B_1.out.size))
 have RJ_2:=Lib.hid hJ
 clear hB hJ RL_1 B_1
 clear RL_2
 have C:=Lib.hid (pec_any _ (HV.out _ B_2.out) s HS.out)
 go_wp2_with fail
 refine C.out.mono ?_
 rintro e w3 ⟨c,ca,cm,cka,ckm,erc,rfl,hC,hB,hrc⟩
 clear C
 have RJ_3:=Lib.hid (RJ_2.out.low hB)
 have B_3:=Lib.hid (B_2.out.trans (hB.mono B_2.out.size))
 have RC_3:=Lib.hid hC
 clear hB hC RJ_2 B_2
 have HRC:=Lib.hid hrc
 clear hrc
 have C:=Lib.hid (pec_any _ (HV.out _ B_3.out) r HR.out)
 go_wp2_with fail
 refine C.out.mono ?_
 rintro e w4 ⟨d,da,dm,dka,dkm,erd,rfl,hC,hB,hrd⟩
 clear C
 have RJ_4:=Lib.hid (RJ_3.out.low hB)
 have RC_4:=Lib.hid (RC_3.out.low hB)
 have B_4:=Lib.hid (B_3.out.trans (hB.mono B_3.out.size))
 have RD_4:=Lib.hid hC
 clear hB hC RJ_3 RC_3 B_3
 have HRD:=Lib.hid hrd
 clear hrd
 go_wp2_with fail
 refine (pt_any _ u HU.out).mono ?_
 rintro e w5 ⟨t,ta,tc,ert,rfl,hY,hB,hrt⟩
 have HRT:=Lib.hid hrt
 clear hrt
 have RJ_5:=Lib.hid (RJ_4.out.low hB)
 have RC_5:=Lib.hid (RC_4.out.low hB)
 have RD_5:=Lib.hid (RD_4.out.low hB)
 have B_5:=Lib.hid (B_4.out.trans (hB.mono B_4.out.size))
 have RT_5:=Lib.hid hY
 clear hB hY RJ_4 RC_4 RD_4 B_4
 rcases RJ_5.out with ⟨rfl,⟨gg,hgg,hG⟩,_⟩|⟨rfl,hgg⟩
 ·rcases HRC.out with ⟨hpc,rfl⟩|⟨hpc,hec⟩
  ·rcases HRD.out with ⟨hpd,rfl⟩|⟨hpd,hed⟩
   ·rcases HRT.out with ⟨hpt,rfl⟩|⟨hpt,het⟩
    ·by_cases h40:300<s.size
     ·have z40:decide ((300:Int)<(s.size:Int))=true:=decide_eq_true (by omega)
      clear hG
      go_wp2
      go_ret
      exact⟨rfl,B_5.out⟩
     ·have z40:decide ((300:Int)<(s.size:Int))=false:=decide_eq_false (by omega)
      by_cases h41:300<r.size
      ·have z41:decide ((300:Int)<(r.size:Int))=true:=decide_eq_true (by omega)
       clear hG
       go_wp2
       go_ret
       exact⟨rfl,B_5.out⟩
      ·have z41:decide ((300:Int)<(r.size:Int))=false:=decide_eq_false (by omega)
       by_cases h42:100<u.size
       ·have z42:decide ((100:Int)<(u.size:Int))=true:=decide_eq_true (by omega)
        clear hG
        go_wp2
        go_ret
        exact⟨rfl,B_5.out⟩
       ·have z42:decide ((100:Int)<(u.size:Int))=false:=decide_eq_false (by omega)
        have RG_5:=Lib.hid hG
        have GO:=Lib.hid (readG_ok hgg)
        have WC:=Lib.hid (parseC_wf hpc)
        have WD:=Lib.hid (parseC_wf hpd)
        have SZ:Hid (s.size≤300∧r.size≤300):=Lib.hid ⟨by omega,by omega⟩
        have ST:=Lib.hid (pt_small hpt (by omega))
        have GG:=Lib.hid hgg
        have PC:=Lib.hid hpc
        have PD:=Lib.hid hpd
        clear hG hgg hpc hpd hpt HRC HRD HRT
        clear RJ_5
        go_wp2_with fail
        refine (sc_any _ nm HN.out).mono ?_
        rintro e w6 ⟨ka,kc,kp,erk,ts,rfl,hB,hK,hsc⟩
        have HK:=Lib.hid hK
        have HSC:=Lib.hid hsc
        clear hK hsc
        have RC_6:=Lib.hid (RC_5.out.low hB)
        have RD_6:=Lib.hid (RD_5.out.low hB)
        have RT_6:=Lib.hid (RT_5.out.low hB)
        have RG_6:=Lib.hid (RG_5.out.low hB)
        have B_6:=Lib.hid (B_5.out.trans (hB.mono B_5.out.size))
        clear hB RC_5 RD_5 RT_5 RG_5 B_5
        by_cases hek:erk≠0
        ·have z_erk:((erk:Int) != 0)=true:=by rw[bne_iff_ne];omega
         go_wp2
         go_ret
         exact⟨rfl,B_6.out⟩
        ·obtain rfl:erk=0:=by omega
         by_cases hl1:ts.length≠1
         ·have zl:((ts.length:Int) != 1)=true:=by rw[bne_iff_ne];omega
          have zl2:((ts.length:Int)==1)=false:=by rw[beq_eq_false_iff_ne];omega
          go_wp2
          go_ret
          exact⟨rfl,B_6.out⟩
         ·obtain⟨tk,rfl⟩:∃ tk,ts=[tk]:=by
           match ts,hl1 with
           | [],h=>exact (h (by simp)).elim
           | [x],_=>exact⟨x,rfl⟩
           | x :: y :: l,h=>exact (h (by simp)).elim
          obtain⟨kb,ko,rfl,q0,q1⟩:=toks_head HK.out
          by_cases hk1:tk.kind≠1
          ·have zk:((tk.kind:Int) != 1)=true:=by rw[bne_iff_ne];omega
           clear hl1
           go_wp2
           go_ret
           exact⟨rfl,B_6.out⟩
          ·obtain hk1:tk.kind=1:=by omega
           have zk:((tk.kind:Int) != 1)=false:=by rw[hk1];rfl
           by_cases ht1:tk.text≠nm.data.toList
           ·have zt:(tk.text != nm.toList)=true:=by rw[ByteArray.toList_eq,bne_iff_ne];exact ht1
            have zt2:((⟨tk.text.toArray⟩:ByteArray).toList != nm.toList)=true:=by rw[ByteArray.toList_eq,ByteArray.toList_eq,bne_iff_ne];simpa using ht1
            have zt3:(tk.text==nm.toList)=false:=by rw[ByteArray.toList_eq,beq_eq_false_iff_ne];exact ht1
            clear hl1
            go_wp2
            go_ret
            exact⟨rfl,B_6.out⟩
           ·have ht1:tk.text=nm.data.toList:=Classical.byContradiction ht1
            have zt:(tk.text != nm.toList)=false:=by rw[ByteArray.toList_eq,ht1];simp
            have zt2:((⟨tk.text.toArray⟩:ByteArray).toList != nm.toList)=false:=by rw[ByteArray.toList_eq,ByteArray.toList_eq,ht1];simp
            have zt3:(tk.text==nm.toList)=true:=by rw[ByteArray.toList_eq,ht1];simp
            have NM:=Lib.hid (name_len HSC.out hk1 ht1)
            clear hl1 ht1 hk1
            have k0:=RC_6.out.k.c0
            have k1:=RC_6.out.k.c1
            have k2:=RC_6.out.k.c2
            have k3:=RC_6.out.k.c3
            have k4:=RC_6.out.k.c4
            have k5:=RC_6.out.k.c5
            have k6:=RC_6.out.k.c6
            have k7:=RC_6.out.k.c7
            have C:=Lib.hid (calm_h RC_6.out.at_ WC.out.1 (by have:=WC.out.2.1;omega))
            go_wp2_with fail
            refine C.out.mono ?_
            rintro e w7 ⟨rfl,hB⟩
            clear C k0 k1 k2 k3 k4 k5 k6 k7 q0 q1 zk zt zt2 zt3
            have RC_7:=Lib.hid (RC_6.out.low hB)
            have RD_7:=Lib.hid (RD_6.out.low hB)
            have RT_7:=Lib.hid (RT_6.out.low hB)
            have RG_7:=Lib.hid (RG_6.out.low hB)
            have B_7:=Lib.hid (B_6.out.trans (hB.mono B_6.out.size))
            clear hB RC_6 RD_6 RT_6 RG_6 B_6
            by_cases hc1:grC c≤2000
            ·rw[decide_eq_true hc1]
             have k0:=RD_7.out.k.c0
             have k1:=RD_7.out.k.c1
             have k2:=RD_7.out.k.c2
             have k3:=RD_7.out.k.c3
             have k4:=RD_7.out.k.c4
             have k5:=RD_7.out.k.c5
             have k6:=RD_7.out.k.c6
             have k7:=RD_7.out.k.c7
             have C:=Lib.hid (calm_h RD_7.out.at_ WD.out.1 (by have:=WD.out.2.1;omega))
             go_wp2_with fail
             refine C.out.mono ?_
             rintro e w8 ⟨rfl,hB⟩
             clear C k0 k1 k2 k3 k4 k5 k6 k7
             have RC_8:=Lib.hid (RC_7.out.low hB)
             have RD_8:=Lib.hid (RD_7.out.low hB)
             have RT_8:=Lib.hid (RT_7.out.low hB)
             have RG_8:=Lib.hid (RG_7.out.low hB)
             have B_8:=Lib.hid (B_7.out.trans (hB.mono B_7.out.size))
             clear hB RC_7 RD_7 RT_7 RG_7 B_7
             by_cases hc2:grC d≤2000
             ·rw[decide_eq_true hc2]
              have TC:=Lib.hid (parseC_half PC.out (by rw[size_list];exact SZ.out.1) hc1)
              have TD:=Lib.hid (parseC_half PD.out (by rw[size_list];exact SZ.out.2) hc2)
              clear hc1 hc2 z40 z41 z42 h40 h41 h42
              have k0:=RC_8.out.k.c0
              have k1:=RC_8.out.k.c1
              have k2:=RC_8.out.k.c2
              have k3:=RC_8.out.k.c3
              have k4:=RC_8.out.k.c4
              have k5:=RC_8.out.k.c5
              have k6:=RC_8.out.k.c6
              have k7:=RC_8.out.k.c7
              have C:=Lib.hid (says_h GO.out RG_8.out RC_8.out.at_ TC.out.tame (tab_below HT.out B_8.out))
              go_wp2_with fail
              refine C.out.mono ?_
              rintro e w9 ⟨a1,b1,a1a,a1c,b1a,b1c,e1,rfl,hX,hY,hB,hr1⟩
              clear C k0 k1 k2 k3 k4 k5 k6 k7
              have HR1:=Lib.hid hr1
              clear hr1
              have RC_9:=Lib.hid (RC_8.out.low hB)
              have RD_9:=Lib.hid (RD_8.out.low hB)
              have RT_9:=Lib.hid (RT_8.out.low hB)
              have RG_9:=Lib.hid (RG_8.out.low hB)
              have B_9:=Lib.hid (B_8.out.trans (hB.mono B_8.out.size))
              have RA1_9:=Lib.hid hX
              have RB1_9:=Lib.hid hY
              clear hB hX hY RC_8 RD_8 RT_8 RG_8 B_8
              have k0:=RD_9.out.k.c0
              have k1:=RD_9.out.k.c1
              have k2:=RD_9.out.k.c2
              have k3:=RD_9.out.k.c3
              have k4:=RD_9.out.k.c4
              have k5:=RD_9.out.k.c5
              have k6:=RD_9.out.k.c6
              have k7:=RD_9.out.k.c7
              have C:=Lib.hid (says_h GO.out RG_9.out RD_9.out.at_ TD.out.tame (tab_below HT.out B_9.out))
              go_wp2_with fail
              refine C.out.mono ?_
              rintro e w10 ⟨v2,u2,v2a,v2c,u2a,u2c,e2,rfl,hX,hY,hB,hr2⟩
              clear C k0 k1 k2 k3 k4 k5 k6 k7
              have HR2:=Lib.hid hr2
              clear hr2
              have RC_10:=Lib.hid (RC_9.out.low hB)
              have RD_10:=Lib.hid (RD_9.out.low hB)
              have RT_10:=Lib.hid (RT_9.out.low hB)
              have RG_10:=Lib.hid (RG_9.out.low hB)
              have RA1_10:=Lib.hid (RA1_9.out.low hB)
              have RB1_10:=Lib.hid (RB1_9.out.low hB)
              have B_10:=Lib.hid (B_9.out.trans (hB.mono B_9.out.size))
              have RV2_10:=Lib.hid hX
              have RU2_10:=Lib.hid hY
              clear hB hX hY RC_9 RD_9 RT_9 RG_9 RA1_9 RB1_9 B_9
              have k0:=RC_10.out.k.c0
              have k1:=RC_10.out.k.c1
              have k2:=RC_10.out.k.c2
              have k3:=RC_10.out.k.c3
              have k4:=RC_10.out.k.c4
              have k5:=RC_10.out.k.c5
              have k6:=RC_10.out.k.c6
              have k7:=RC_10.out.k.c7
              have l0:=RD_10.out.k.c0
              have l1:=RD_10.out.k.c1
              have l2:=RD_10.out.k.c2
              have l3:=RD_10.out.k.c3
              have l4:=RD_10.out.k.c4
              have l5:=RD_10.out.k.c5
              have l6:=RD_10.out.k.c6
              have l7:=RD_10.out.k.c7
              have hsz:((w10.alloc (.cells #[.int .i64 v2.kind,.string v2.name,.int .i64 v2.n,.slice v2a v2.args.length v2c] 30)).alloc (.cells #[.int .i64 u2.kind,.string u2.name,.int .i64 u2.n,.slice u2a u2.args.length u2c] 30)).heap.size=w10.heap.size+1+1:=by first|rfl|simp
              have hB:=(Below.refl ((w10.alloc (.cells #[.int .i64 v2.kind,.string v2.name,.int .i64 v2.n,.slice v2a v2.args.length v2c] 30)).alloc (.cells #[.int .i64 u2.kind,.string u2.name,.int .i64 u2.n,.slice u2a u2.args.length u2c] 30)).heap.size ((w10.alloc (.cells #[.int .i64 v2.kind,.string v2.name,.int .i64 v2.n,.slice v2a v2.args.length v2c] 30)).alloc (.cells #[.int .i64 u2.kind,.string u2.name,.int .i64 u2.n,.slice u2a u2.args.length u2c] 30))).alloc (Nat.le_refl _) (.cells #[.int .i64 c.kind,.string c.name,.int .i64 c.n,.int .i64 c.t.kind,.string c.t.name,.int .i64 c.t.n,.slice ca c.t.args.length cm,.slice cka c.kids.length ckm,.int .i64 d.kind,.string d.name,.int .i64 d.n,.int .i64 d.t.kind,.string d.t.name,.int .i64 d.t.n,.slice da d.t.args.length dm,.slice dka d.kids.length dkm] 33)
              have hnK5:=coK (kd:=5) (s:=⟨#[84]⟩) (n:=0) (ks:=[c,d]) (kid2 RC_10.out.at_ RD_10.out.at_ hsz rfl rfl rfl rfl rfl rfl rfl rfl)
              have RC_11:=Lib.hid (RC_10.out.low hB)
              have RD_11:=Lib.hid (RD_10.out.low hB)
              have RT_11:=Lib.hid (RT_10.out.low hB)
              have RG_11:=Lib.hid (RG_10.out.low hB)
              have RA1_11:=Lib.hid (RA1_10.out.low hB)
              have RB1_11:=Lib.hid (RB1_10.out.low hB)
              have RV2_11:=Lib.hid (RV2_10.out.low hB)
              have RU2_11:=Lib.hid (RU2_10.out.low hB)
              have B_11:=Lib.hid (B_10.out.trans (hB.mono B_10.out.size))
              have RK5_11:=Lib.hid hnK5
              clear hB hnK5 RC_10 RD_10 RT_10 RG_10 RA1_10 RB1_10 RV2_10 RU2_10 B_10
              clear hsz
              have hsz:(((w10.alloc (.cells #[.int .i64 v2.kind,.string v2.name,.int .i64 v2.n,.slice v2a v2.args.length v2c] 30)).alloc (.cells #[.int .i64 u2.kind,.string u2.name,.int .i64 u2.n,.slice u2a u2.args.length u2c] 30)).alloc (.cells #[.int .i64 c.kind,.string c.name,.int .i64 c.n,.int .i64 c.t.kind,.string c.t.name,.int .i64 c.t.n,.slice ca c.t.args.length cm,.slice cka c.kids.length ckm,.int .i64 d.kind,.string d.name,.int .i64 d.n,.int .i64 d.t.kind,.string d.t.name,.int .i64 d.t.n,.slice da d.t.args.length dm,.slice dka d.kids.length dkm] 33)).heap.size=w10.heap.size+1+1+1:=by first|rfl|simp
              have hB:=(Below.refl (((w10.alloc (.cells #[.int .i64 v2.kind,.string v2.name,.int .i64 v2.n,.slice v2a v2.args.length v2c] 30)).alloc (.cells #[.int .i64 u2.kind,.string u2.name,.int .i64 u2.n,.slice u2a u2.args.length u2c] 30)).alloc (.cells #[.int .i64 c.kind,.string c.name,.int .i64 c.n,.int .i64 c.t.kind,.string c.t.name,.int .i64 c.t.n,.slice ca c.t.args.length cm,.slice cka c.kids.length ckm,.int .i64 d.kind,.string d.name,.int .i64 d.n,.int .i64 d.t.kind,.string d.t.name,.int .i64 d.t.n,.slice da d.t.args.length dm,.slice dka d.kids.length dkm] 33)).heap.size (((w10.alloc (.cells #[.int .i64 v2.kind,.string v2.name,.int .i64 v2.n,.slice v2a v2.args.length v2c] 30)).alloc (.cells #[.int .i64 u2.kind,.string u2.name,.int .i64 u2.n,.slice u2a u2.args.length u2c] 30)).alloc (.cells #[.int .i64 c.kind,.string c.name,.int .i64 c.n,.int .i64 c.t.kind,.string c.t.name,.int .i64 c.t.n,.slice ca c.t.args.length cm,.slice cka c.kids.length ckm,.int .i64 d.kind,.string d.name,.int .i64 d.n,.int .i64 d.t.kind,.string d.t.name,.int .i64 d.t.n,.slice da d.t.args.length dm,.slice dka d.kids.length dkm] 33))).alloc (Nat.le_refl _) (.cells #[.int .i64 5,.string ⟨#[84]⟩,.int .i64 0,.int .i64 0,.string ⟨#[]⟩,.int .i64 0,.slice none 0 0,.slice (some ⟨w10.heap.size+1+1,0,none⟩) 2 2] 33)
              have hnB5:=(by have hb8:=B8.new (((w10.alloc (.cells #[.int .i64 v2.kind,.string v2.name,.int .i64 v2.n,.slice v2a v2.args.length v2c] 30)).alloc (.cells #[.int .i64 u2.kind,.string u2.name,.int .i64 u2.n,.slice u2a u2.args.length u2c] 30)).alloc (.cells #[.int .i64 c.kind,.string c.name,.int .i64 c.n,.int .i64 c.t.kind,.string c.t.name,.int .i64 c.t.n,.slice ca c.t.args.length cm,.slice cka c.kids.length ckm,.int .i64 d.kind,.string d.name,.int .i64 d.n,.int .i64 d.t.kind,.string d.t.name,.int .i64 d.t.n,.slice da d.t.args.length dm,.slice dka d.kids.length dkm] 33)) (.int .i64 5) (.string ⟨#[84]⟩) (.int .i64 0) (.int .i64 0) (.string ⟨#[]⟩) (.int .i64 0) (.slice none 0 0) (.slice (some ⟨w10.heap.size+1+1,0,none⟩) 2 2);rw[hsz] at hb8;exact hb8:B8 _ (w10.heap.size+1+1+1) (.int .i64 5) (.string ⟨#[84]⟩) (.int .i64 0) (.int .i64 0) (.string ⟨#[]⟩) (.int .i64 0) (.slice none 0 0) (.slice (some ⟨w10.heap.size+1+1,0,none⟩) 2 2))
              have RC_12:=Lib.hid (RC_11.out.low hB)
              have RD_12:=Lib.hid (RD_11.out.low hB)
              have RT_12:=Lib.hid (RT_11.out.low hB)
              have RG_12:=Lib.hid (RG_11.out.low hB)
              have RA1_12:=Lib.hid (RA1_11.out.low hB)
              have RB1_12:=Lib.hid (RB1_11.out.low hB)
              have RV2_12:=Lib.hid (RV2_11.out.low hB)
              have RU2_12:=Lib.hid (RU2_11.out.low hB)
              have RK5_12:=Lib.hid (RK5_11.out.low hB)
              have B_12:=Lib.hid (B_11.out.trans (hB.mono B_11.out.size))
              have RB5_12:=Lib.hid hnB5
              clear hB hnB5 RC_11 RD_11 RT_11 RG_11 RA1_11 RB1_11 RV2_11 RU2_11 RK5_11 B_11
              clear hsz
              have kk0:=RC_12.out.k.c0
              have kk1:=RC_12.out.k.c1
              have kk2:=RC_12.out.k.c2
              have kk3:=RC_12.out.k.c3
              have kk4:=RC_12.out.k.c4
              have kk5:=RC_12.out.k.c5
              have kk6:=RC_12.out.k.c6
              have kk7:=RC_12.out.k.c7
              have ll0:=RD_12.out.k.c0
              have ll1:=RD_12.out.k.c1
              have ll2:=RD_12.out.k.c2
              have ll3:=RD_12.out.k.c3
              have ll4:=RD_12.out.k.c4
              have ll5:=RD_12.out.k.c5
              have ll6:=RD_12.out.k.c6
              have ll7:=RD_12.out.k.c7
              have hsz:((((w10.alloc (.cells #[.int .i64 v2.kind,.string v2.name,.int .i64 v2.n,.slice v2a v2.args.length v2c] 30)).alloc (.cells #[.int .i64 u2.kind,.string u2.name,.int .i64 u2.n,.slice u2a u2.args.length u2c] 30)).alloc (.cells #[.int .i64 c.kind,.string c.name,.int .i64 c.n,.int .i64 c.t.kind,.string c.t.name,.int .i64 c.t.n,.slice ca c.t.args.length cm,.slice cka c.kids.length ckm,.int .i64 d.kind,.string d.name,.int .i64 d.n,.int .i64 d.t.kind,.string d.t.name,.int .i64 d.t.n,.slice da d.t.args.length dm,.slice dka d.kids.length dkm] 33)).alloc (.cells #[.int .i64 5,.string ⟨#[84]⟩,.int .i64 0,.int .i64 0,.string ⟨#[]⟩,.int .i64 0,.slice none 0 0,.slice (some ⟨w10.heap.size+1+1,0,none⟩) 2 2] 33)).heap.size=w10.heap.size+1+1+1+1:=by first|rfl|simp
              have hB:=(Below.refl ((((w10.alloc (.cells #[.int .i64 v2.kind,.string v2.name,.int .i64 v2.n,.slice v2a v2.args.length v2c] 30)).alloc (.cells #[.int .i64 u2.kind,.string u2.name,.int .i64 u2.n,.slice u2a u2.args.length u2c] 30)).alloc (.cells #[.int .i64 c.kind,.string c.name,.int .i64 c.n,.int .i64 c.t.kind,.string c.t.name,.int .i64 c.t.n,.slice ca c.t.args.length cm,.slice cka c.kids.length ckm,.int .i64 d.kind,.string d.name,.int .i64 d.n,.int .i64 d.t.kind,.string d.t.name,.int .i64 d.t.n,.slice da d.t.args.length dm,.slice dka d.kids.length dkm] 33)).alloc (.cells #[.int .i64 5,.string ⟨#[84]⟩,.int .i64 0,.int .i64 0,.string ⟨#[]⟩,.int .i64 0,.slice none 0 0,.slice (some ⟨w10.heap.size+1+1,0,none⟩) 2 2] 33)).heap.size ((((w10.alloc (.cells #[.int .i64 v2.kind,.string v2.name,.int .i64 v2.n,.slice v2a v2.args.length v2c] 30)).alloc (.cells #[.int .i64 u2.kind,.string u2.name,.int .i64 u2.n,.slice u2a u2.args.length u2c] 30)).alloc (.cells #[.int .i64 c.kind,.string c.name,.int .i64 c.n,.int .i64 c.t.kind,.string c.t.name,.int .i64 c.t.n,.slice ca c.t.args.length cm,.slice cka c.kids.length ckm,.int .i64 d.kind,.string d.name,.int .i64 d.n,.int .i64 d.t.kind,.string d.t.name,.int .i64 d.t.n,.slice da d.t.args.length dm,.slice dka d.kids.length dkm] 33)).alloc (.cells #[.int .i64 5,.string ⟨#[84]⟩,.int .i64 0,.int .i64 0,.string ⟨#[]⟩,.int .i64 0,.slice none 0 0,.slice (some ⟨w10.heap.size+1+1,0,none⟩) 2 2] 33))).alloc (Nat.le_refl _) (.cells #[.int .i64 c.kind,.string c.name,.int .i64 c.n,.int .i64 c.t.kind,.string c.t.name,.int .i64 c.t.n,.slice ca c.t.args.length cm,.slice cka c.kids.length ckm,.int .i64 d.kind,.string d.name,.int .i64 d.n,.int .i64 d.t.kind,.string d.t.name,.int .i64 d.t.n,.slice da d.t.args.length dm,.slice dka d.kids.length dkm] 33)
              have hnK6:=coK (kd:=6) (s:=e0) (n:=0) (ks:=[c,d]) (kid2 RC_12.out.at_ RD_12.out.at_ hsz rfl rfl rfl rfl rfl rfl rfl rfl)
              have RC_13:=Lib.hid (RC_12.out.low hB)
              have RD_13:=Lib.hid (RD_12.out.low hB)
              have RT_13:=Lib.hid (RT_12.out.low hB)
              have RG_13:=Lib.hid (RG_12.out.low hB)
              have RA1_13:=Lib.hid (RA1_12.out.low hB)
              have RB1_13:=Lib.hid (RB1_12.out.low hB)
              have RV2_13:=Lib.hid (RV2_12.out.low hB)
              have RU2_13:=Lib.hid (RU2_12.out.low hB)
              have RK5_13:=Lib.hid (RK5_12.out.low hB)
              have RB5_13:=Lib.hid (RB5_12.out.low hB)
              have B_13:=Lib.hid (B_12.out.trans (hB.mono B_12.out.size))
              have RK6_13:=Lib.hid hnK6
              clear hB hnK6 RC_12 RD_12 RT_12 RG_12 RA1_12 RB1_12 RV2_12 RU2_12 RK5_12 RB5_12 B_12
              clear hsz
              have hsz:(((((w10.alloc (.cells #[.int .i64 v2.kind,.string v2.name,.int .i64 v2.n,.slice v2a v2.args.length v2c] 30)).alloc (.cells #[.int .i64 u2.kind,.string u2.name,.int .i64 u2.n,.slice u2a u2.args.length u2c] 30)).alloc (.cells #[.int .i64 c.kind,.string c.name,.int .i64 c.n,.int .i64 c.t.kind,.string c.t.name,.int .i64 c.t.n,.slice ca c.t.args.length cm,.slice cka c.kids.length ckm,.int .i64 d.kind,.string d.name,.int .i64 d.n,.int .i64 d.t.kind,.string d.t.name,.int .i64 d.t.n,.slice da d.t.args.length dm,.slice dka d.kids.length dkm] 33)).alloc (.cells #[.int .i64 5,.string ⟨#[84]⟩,.int .i64 0,.int .i64 0,.string ⟨#[]⟩,.int .i64 0,.slice none 0 0,.slice (some ⟨w10.heap.size+1+1,0,none⟩) 2 2] 33)).alloc (.cells #[.int .i64 c.kind,.string c.name,.int .i64 c.n,.int .i64 c.t.kind,.string c.t.name,.int .i64 c.t.n,.slice ca c.t.args.length cm,.slice cka c.kids.length ckm,.int .i64 d.kind,.string d.name,.int .i64 d.n,.int .i64 d.t.kind,.string d.t.name,.int .i64 d.t.n,.slice da d.t.args.length dm,.slice dka d.kids.length dkm] 33)).heap.size=w10.heap.size+1+1+1+1+1:=by first|rfl|simp
              have hB:=(Below.refl (((((w10.alloc (.cells #[.int .i64 v2.kind,.string v2.name,.int .i64 v2.n,.slice v2a v2.args.length v2c] 30)).alloc (.cells #[.int .i64 u2.kind,.string u2.name,.int .i64 u2.n,.slice u2a u2.args.length u2c] 30)).alloc (.cells #[.int .i64 c.kind,.string c.name,.int .i64 c.n,.int .i64 c.t.kind,.string c.t.name,.int .i64 c.t.n,.slice ca c.t.args.length cm,.slice cka c.kids.length ckm,.int .i64 d.kind,.string d.name,.int .i64 d.n,.int .i64 d.t.kind,.string d.t.name,.int .i64 d.t.n,.slice da d.t.args.length dm,.slice dka d.kids.length dkm] 33)).alloc (.cells #[.int .i64 5,.string ⟨#[84]⟩,.int .i64 0,.int .i64 0,.string ⟨#[]⟩,.int .i64 0,.slice none 0 0,.slice (some ⟨w10.heap.size+1+1,0,none⟩) 2 2] 33)).alloc (.cells #[.int .i64 c.kind,.string c.name,.int .i64 c.n,.int .i64 c.t.kind,.string c.t.name,.int .i64 c.t.n,.slice ca c.t.args.length cm,.slice cka c.kids.length ckm,.int .i64 d.kind,.string d.name,.int .i64 d.n,.int .i64 d.t.kind,.string d.t.name,.int .i64 d.t.n,.slice da d.t.args.length dm,.slice dka d.kids.length dkm] 33)).heap.size (((((w10.alloc (.cells #[.int .i64 v2.kind,.string v2.name,.int .i64 v2.n,.slice v2a v2.args.length v2c] 30)).alloc (.cells #[.int .i64 u2.kind,.string u2.name,.int .i64 u2.n,.slice u2a u2.args.length u2c] 30)).alloc (.cells #[.int .i64 c.kind,.string c.name,.int .i64 c.n,.int .i64 c.t.kind,.string c.t.name,.int .i64 c.t.n,.slice ca c.t.args.length cm,.slice cka c.kids.length ckm,.int .i64 d.kind,.string d.name,.int .i64 d.n,.int .i64 d.t.kind,.string d.t.name,.int .i64 d.t.n,.slice da d.t.args.length dm,.slice dka d.kids.length dkm] 33)).alloc (.cells #[.int .i64 5,.string ⟨#[84]⟩,.int .i64 0,.int .i64 0,.string ⟨#[]⟩,.int .i64 0,.slice none 0 0,.slice (some ⟨w10.heap.size+1+1,0,none⟩) 2 2] 33)).alloc (.cells #[.int .i64 c.kind,.string c.name,.int .i64 c.n,.int .i64 c.t.kind,.string c.t.name,.int .i64 c.t.n,.slice ca c.t.args.length cm,.slice cka c.kids.length ckm,.int .i64 d.kind,.string d.name,.int .i64 d.n,.int .i64 d.t.kind,.string d.t.name,.int .i64 d.t.n,.slice da d.t.args.length dm,.slice dka d.kids.length dkm] 33))).alloc (Nat.le_refl _) (.cells #[.int .i64 6,.string ⟨#[]⟩,.int .i64 0,.int .i64 0,.string ⟨#[]⟩,.int .i64 0,.slice none 0 0,.slice (some ⟨w10.heap.size+1+1+1+1,0,none⟩) 2 2] 33)
              have hnB6:=(by have hb8:=B8.new (((((w10.alloc (.cells #[.int .i64 v2.kind,.string v2.name,.int .i64 v2.n,.slice v2a v2.args.length v2c] 30)).alloc (.cells #[.int .i64 u2.kind,.string u2.name,.int .i64 u2.n,.slice u2a u2.args.length u2c] 30)).alloc (.cells #[.int .i64 c.kind,.string c.name,.int .i64 c.n,.int .i64 c.t.kind,.string c.t.name,.int .i64 c.t.n,.slice ca c.t.args.length cm,.slice cka c.kids.length ckm,.int .i64 d.kind,.string d.name,.int .i64 d.n,.int .i64 d.t.kind,.string d.t.name,.int .i64 d.t.n,.slice da d.t.args.length dm,.slice dka d.kids.length dkm] 33)).alloc (.cells #[.int .i64 5,.string ⟨#[84]⟩,.int .i64 0,.int .i64 0,.string ⟨#[]⟩,.int .i64 0,.slice none 0 0,.slice (some ⟨w10.heap.size+1+1,0,none⟩) 2 2] 33)).alloc (.cells #[.int .i64 c.kind,.string c.name,.int .i64 c.n,.int .i64 c.t.kind,.string c.t.name,.int .i64 c.t.n,.slice ca c.t.args.length cm,.slice cka c.kids.length ckm,.int .i64 d.kind,.string d.name,.int .i64 d.n,.int .i64 d.t.kind,.string d.t.name,.int .i64 d.t.n,.slice da d.t.args.length dm,.slice dka d.kids.length dkm] 33)) (.int .i64 6) (.string ⟨#[]⟩) (.int .i64 0) (.int .i64 0) (.string ⟨#[]⟩) (.int .i64 0) (.slice none 0 0) (.slice (some ⟨w10.heap.size+1+1+1+1,0,none⟩) 2 2);rw[hsz] at hb8;exact hb8:B8 _ (w10.heap.size+1+1+1+1+1) (.int .i64 6) (.string ⟨#[]⟩) (.int .i64 0) (.int .i64 0) (.string ⟨#[]⟩) (.int .i64 0) (.slice none 0 0) (.slice (some ⟨w10.heap.size+1+1+1+1,0,none⟩) 2 2))
              have RC_14:=Lib.hid (RC_13.out.low hB)
              have RD_14:=Lib.hid (RD_13.out.low hB)
              have RT_14:=Lib.hid (RT_13.out.low hB)
              have RG_14:=Lib.hid (RG_13.out.low hB)
              have RA1_14:=Lib.hid (RA1_13.out.low hB)
              have RB1_14:=Lib.hid (RB1_13.out.low hB)
              have RV2_14:=Lib.hid (RV2_13.out.low hB)
              have RU2_14:=Lib.hid (RU2_13.out.low hB)
              have RK5_14:=Lib.hid (RK5_13.out.low hB)
              have RB5_14:=Lib.hid (RB5_13.out.low hB)
              have RK6_14:=Lib.hid (RK6_13.out.low hB)
              have B_14:=Lib.hid (B_13.out.trans (hB.mono B_13.out.size))
              have RB6_14:=Lib.hid hnB6
              clear hB hnB6 RC_13 RD_13 RT_13 RG_13 RA1_13 RB1_13 RV2_13 RU2_13 RK5_13 RB5_13 RK6_13 B_13
              clear hsz
              have TCON:=Lib.hid (Half.con TC.out TD.out ⟨#[84]⟩ (by decide))
              have TFUN:=Lib.hid (Half.fun_ TC.out TD.out)
              have mm0:=RB5_14.out.c0
              have mm1:=RB5_14.out.c1
              have mm2:=RB5_14.out.c2
              have mm3:=RB5_14.out.c3
              have mm4:=RB5_14.out.c4
              have mm5:=RB5_14.out.c5
              have mm6:=RB5_14.out.c6
              have mm7:=RB5_14.out.c7
              have hsz:((((((w10.alloc (.cells #[.int .i64 v2.kind,.string v2.name,.int .i64 v2.n,.slice v2a v2.args.length v2c] 30)).alloc (.cells #[.int .i64 u2.kind,.string u2.name,.int .i64 u2.n,.slice u2a u2.args.length u2c] 30)).alloc (.cells #[.int .i64 c.kind,.string c.name,.int .i64 c.n,.int .i64 c.t.kind,.string c.t.name,.int .i64 c.t.n,.slice ca c.t.args.length cm,.slice cka c.kids.length ckm,.int .i64 d.kind,.string d.name,.int .i64 d.n,.int .i64 d.t.kind,.string d.t.name,.int .i64 d.t.n,.slice da d.t.args.length dm,.slice dka d.kids.length dkm] 33)).alloc (.cells #[.int .i64 5,.string ⟨#[84]⟩,.int .i64 0,.int .i64 0,.string ⟨#[]⟩,.int .i64 0,.slice none 0 0,.slice (some ⟨w10.heap.size+1+1,0,none⟩) 2 2] 33)).alloc (.cells #[.int .i64 c.kind,.string c.name,.int .i64 c.n,.int .i64 c.t.kind,.string c.t.name,.int .i64 c.t.n,.slice ca c.t.args.length cm,.slice cka c.kids.length ckm,.int .i64 d.kind,.string d.name,.int .i64 d.n,.int .i64 d.t.kind,.string d.t.name,.int .i64 d.t.n,.slice da d.t.args.length dm,.slice dka d.kids.length dkm] 33)).alloc (.cells #[.int .i64 6,.string ⟨#[]⟩,.int .i64 0,.int .i64 0,.string ⟨#[]⟩,.int .i64 0,.slice none 0 0,.slice (some ⟨w10.heap.size+1+1+1+1,0,none⟩) 2 2] 33)).heap.size=w10.heap.size+1+1+1+1+1+1:=by first|rfl|simp
              have hB:=(Below.refl ((((((w10.alloc (.cells #[.int .i64 v2.kind,.string v2.name,.int .i64 v2.n,.slice v2a v2.args.length v2c] 30)).alloc (.cells #[.int .i64 u2.kind,.string u2.name,.int .i64 u2.n,.slice u2a u2.args.length u2c] 30)).alloc (.cells #[.int .i64 c.kind,.string c.name,.int .i64 c.n,.int .i64 c.t.kind,.string c.t.name,.int .i64 c.t.n,.slice ca c.t.args.length cm,.slice cka c.kids.length ckm,.int .i64 d.kind,.string d.name,.int .i64 d.n,.int .i64 d.t.kind,.string d.t.name,.int .i64 d.t.n,.slice da d.t.args.length dm,.slice dka d.kids.length dkm] 33)).alloc (.cells #[.int .i64 5,.string ⟨#[84]⟩,.int .i64 0,.int .i64 0,.string ⟨#[]⟩,.int .i64 0,.slice none 0 0,.slice (some ⟨w10.heap.size+1+1,0,none⟩) 2 2] 33)).alloc (.cells #[.int .i64 c.kind,.string c.name,.int .i64 c.n,.int .i64 c.t.kind,.string c.t.name,.int .i64 c.t.n,.slice ca c.t.args.length cm,.slice cka c.kids.length ckm,.int .i64 d.kind,.string d.name,.int .i64 d.n,.int .i64 d.t.kind,.string d.t.name,.int .i64 d.t.n,.slice da d.t.args.length dm,.slice dka d.kids.length dkm] 33)).alloc (.cells #[.int .i64 6,.string ⟨#[]⟩,.int .i64 0,.int .i64 0,.string ⟨#[]⟩,.int .i64 0,.slice none 0 0,.slice (some ⟨w10.heap.size+1+1+1+1,0,none⟩) 2 2] 33)).heap.size ((((((w10.alloc (.cells #[.int .i64 v2.kind,.string v2.name,.int .i64 v2.n,.slice v2a v2.args.length v2c] 30)).alloc (.cells #[.int .i64 u2.kind,.string u2.name,.int .i64 u2.n,.slice u2a u2.args.length u2c] 30)).alloc (.cells #[.int .i64 c.kind,.string c.name,.int .i64 c.n,.int .i64 c.t.kind,.string c.t.name,.int .i64 c.t.n,.slice ca c.t.args.length cm,.slice cka c.kids.length ckm,.int .i64 d.kind,.string d.name,.int .i64 d.n,.int .i64 d.t.kind,.string d.t.name,.int .i64 d.t.n,.slice da d.t.args.length dm,.slice dka d.kids.length dkm] 33)).alloc (.cells #[.int .i64 5,.string ⟨#[84]⟩,.int .i64 0,.int .i64 0,.string ⟨#[]⟩,.int .i64 0,.slice none 0 0,.slice (some ⟨w10.heap.size+1+1,0,none⟩) 2 2] 33)).alloc (.cells #[.int .i64 c.kind,.string c.name,.int .i64 c.n,.int .i64 c.t.kind,.string c.t.name,.int .i64 c.t.n,.slice ca c.t.args.length cm,.slice cka c.kids.length ckm,.int .i64 d.kind,.string d.name,.int .i64 d.n,.int .i64 d.t.kind,.string d.t.name,.int .i64 d.t.n,.slice da d.t.args.length dm,.slice dka d.kids.length dkm] 33)).alloc (.cells #[.int .i64 6,.string ⟨#[]⟩,.int .i64 0,.int .i64 0,.string ⟨#[]⟩,.int .i64 0,.slice none 0 0,.slice (some ⟨w10.heap.size+1+1+1+1,0,none⟩) 2 2] 33))).alloc (Nat.le_refl _) (.cells #[.int .i64 5,.string ⟨#[84]⟩,.int .i64 0,.int .i64 0,.string ⟨#[]⟩,.int .i64 0,.slice none 0 0,.slice (some ⟨w10.heap.size+1+1,0,none⟩) 2 2] 33)
              have hnKN:=coK (kd:=8) (s:=e0) (n:=1) (ks:=[conC ⟨#[84]⟩ c d]) (kid1v RK5_14.out hsz rfl rfl rfl rfl rfl rfl rfl rfl)
              have RC_15:=Lib.hid (RC_14.out.low hB)
              have RD_15:=Lib.hid (RD_14.out.low hB)
              have RT_15:=Lib.hid (RT_14.out.low hB)
              have RG_15:=Lib.hid (RG_14.out.low hB)
              have RA1_15:=Lib.hid (RA1_14.out.low hB)
              have RB1_15:=Lib.hid (RB1_14.out.low hB)
              have RV2_15:=Lib.hid (RV2_14.out.low hB)
              have RU2_15:=Lib.hid (RU2_14.out.low hB)
              have RK5_15:=Lib.hid (RK5_14.out.low hB)
              have RB5_15:=Lib.hid (RB5_14.out.low hB)
              have RK6_15:=Lib.hid (RK6_14.out.low hB)
              have RB6_15:=Lib.hid (RB6_14.out.low hB)
              have B_15:=Lib.hid (B_14.out.trans (hB.mono B_14.out.size))
              have RKN_15:=Lib.hid hnKN
              clear hB hnKN RC_14 RD_14 RT_14 RG_14 RA1_14 RB1_14 RV2_14 RU2_14 RK5_14 RB5_14 RK6_14 RB6_14 B_14
              clear hsz
              have C:=Lib.hid (show Calls Tryz.prog 12 #[.slice ga gl gc,.agg #[.int .i64 8,.string ⟨#[]⟩,.int .i64 1,.int .i64 0,.string ⟨#[]⟩,.int .i64 0,.slice none 0 0,.slice (some ⟨w10.heap.size+1+1+1+1+1+1,0,none⟩) 1 1]] (((((((w10.alloc (.cells #[.int .i64 v2.kind,.string v2.name,.int .i64 v2.n,.slice v2a v2.args.length v2c] 30)).alloc (.cells #[.int .i64 u2.kind,.string u2.name,.int .i64 u2.n,.slice u2a u2.args.length u2c] 30)).alloc (.cells #[.int .i64 c.kind,.string c.name,.int .i64 c.n,.int .i64 c.t.kind,.string c.t.name,.int .i64 c.t.n,.slice ca c.t.args.length cm,.slice cka c.kids.length ckm,.int .i64 d.kind,.string d.name,.int .i64 d.n,.int .i64 d.t.kind,.string d.t.name,.int .i64 d.t.n,.slice da d.t.args.length dm,.slice dka d.kids.length dkm] 33)).alloc (.cells #[.int .i64 5,.string ⟨#[84]⟩,.int .i64 0,.int .i64 0,.string ⟨#[]⟩,.int .i64 0,.slice none 0 0,.slice (some ⟨w10.heap.size+1+1,0,none⟩) 2 2] 33)).alloc (.cells #[.int .i64 c.kind,.string c.name,.int .i64 c.n,.int .i64 c.t.kind,.string c.t.name,.int .i64 c.t.n,.slice ca c.t.args.length cm,.slice cka c.kids.length ckm,.int .i64 d.kind,.string d.name,.int .i64 d.n,.int .i64 d.t.kind,.string d.t.name,.int .i64 d.t.n,.slice da d.t.args.length dm,.slice dka d.kids.length dkm] 33)).alloc (.cells #[.int .i64 6,.string ⟨#[]⟩,.int .i64 0,.int .i64 0,.string ⟨#[]⟩,.int .i64 0,.slice none 0 0,.slice (some ⟨w10.heap.size+1+1+1+1,0,none⟩) 2 2] 33)).alloc (.cells #[.int .i64 5,.string ⟨#[84]⟩,.int .i64 0,.int .i64 0,.string ⟨#[]⟩,.int .i64 0,.slice none 0 0,.slice (some ⟨w10.heap.size+1+1,0,none⟩) 2 2] 33)) (SaidH (((((((w10.alloc (.cells #[.int .i64 v2.kind,.string v2.name,.int .i64 v2.n,.slice v2a v2.args.length v2c] 30)).alloc (.cells #[.int .i64 u2.kind,.string u2.name,.int .i64 u2.n,.slice u2a u2.args.length u2c] 30)).alloc (.cells #[.int .i64 c.kind,.string c.name,.int .i64 c.n,.int .i64 c.t.kind,.string c.t.name,.int .i64 c.t.n,.slice ca c.t.args.length cm,.slice cka c.kids.length ckm,.int .i64 d.kind,.string d.name,.int .i64 d.n,.int .i64 d.t.kind,.string d.t.name,.int .i64 d.t.n,.slice da d.t.args.length dm,.slice dka d.kids.length dkm] 33)).alloc (.cells #[.int .i64 5,.string ⟨#[84]⟩,.int .i64 0,.int .i64 0,.string ⟨#[]⟩,.int .i64 0,.slice none 0 0,.slice (some ⟨w10.heap.size+1+1,0,none⟩) 2 2] 33)).alloc (.cells #[.int .i64 c.kind,.string c.name,.int .i64 c.n,.int .i64 c.t.kind,.string c.t.name,.int .i64 c.t.n,.slice ca c.t.args.length cm,.slice cka c.kids.length ckm,.int .i64 d.kind,.string d.name,.int .i64 d.n,.int .i64 d.t.kind,.string d.t.name,.int .i64 d.t.n,.slice da d.t.args.length dm,.slice dka d.kids.length dkm] 33)).alloc (.cells #[.int .i64 6,.string ⟨#[]⟩,.int .i64 0,.int .i64 0,.string ⟨#[]⟩,.int .i64 0,.slice none 0 0,.slice (some ⟨w10.heap.size+1+1+1+1,0,none⟩) 2 2] 33)).alloc (.cells #[.int .i64 5,.string ⟨#[84]⟩,.int .i64 0,.int .i64 0,.string ⟨#[]⟩,.int .i64 0,.slice none 0 0,.slice (some ⟨w10.heap.size+1+1,0,none⟩) 2 2] 33)) (saysC gg (nthC 1 (conC ⟨#[84]⟩ c d)))) from says_h GO.out RG_15.out RKN_15.out (TCON.out.nth (by decide) (by decide)) (tab_below HT.out B_15.out))
              go_wp2_with fail
              refine C.out.mono ?_
              rintro e w16 ⟨m3,n3,m3a,m3c,n3a,n3c,e3,rfl,hX,hY,hB,hr3⟩
              clear C mm0 mm1 mm2 mm3 mm4 mm5 mm6 mm7 k0 k1 k2 k3 k4 k5 k6 k7 l0 l1 l2 l3 l4 l5 l6 l7 kk0 kk1 kk2 kk3 kk4 kk5 kk6 kk7 ll0 ll1 ll2 ll3 ll4 ll5 ll6 ll7
              have HR3:=Lib.hid hr3
              clear hr3
              have RC_16:=Lib.hid (RC_15.out.low hB)
              have RD_16:=Lib.hid (RD_15.out.low hB)
              have RT_16:=Lib.hid (RT_15.out.low hB)
              have RG_16:=Lib.hid (RG_15.out.low hB)
              have RA1_16:=Lib.hid (RA1_15.out.low hB)
              have RB1_16:=Lib.hid (RB1_15.out.low hB)
              have RV2_16:=Lib.hid (RV2_15.out.low hB)
              have RU2_16:=Lib.hid (RU2_15.out.low hB)
              have RK5_16:=Lib.hid (RK5_15.out.low hB)
              have RB5_16:=Lib.hid (RB5_15.out.low hB)
              have RK6_16:=Lib.hid (RK6_15.out.low hB)
              have RB6_16:=Lib.hid (RB6_15.out.low hB)
              have RKN_16:=Lib.hid (RKN_15.out.low hB)
              have B_16:=Lib.hid (B_15.out.trans (hB.mono B_15.out.size))
              have RM3_16:=Lib.hid hX
              have RN3_16:=Lib.hid hY
              clear hB hX hY RC_15 RD_15 RT_15 RG_15 RA1_15 RB1_15 RV2_15 RU2_15 RK5_15 RB5_15 RK6_15 RB6_15 RKN_15 B_15
              clear RKN_16
              have mm0:=RB6_16.out.c0
              have mm1:=RB6_16.out.c1
              have mm2:=RB6_16.out.c2
              have mm3:=RB6_16.out.c3
              have mm4:=RB6_16.out.c4
              have mm5:=RB6_16.out.c5
              have mm6:=RB6_16.out.c6
              have mm7:=RB6_16.out.c7
              have hsz:((w16.alloc (.cells #[.int .i64 m3.kind,.string m3.name,.int .i64 m3.n,.slice m3a m3.args.length m3c] 30)).alloc (.cells #[.int .i64 n3.kind,.string n3.name,.int .i64 n3.n,.slice n3a n3.args.length n3c] 30)).heap.size=w16.heap.size+1+1:=by first|rfl|simp
              have hB:=(Below.refl ((w16.alloc (.cells #[.int .i64 m3.kind,.string m3.name,.int .i64 m3.n,.slice m3a m3.args.length m3c] 30)).alloc (.cells #[.int .i64 n3.kind,.string n3.name,.int .i64 n3.n,.slice n3a n3.args.length n3c] 30)).heap.size ((w16.alloc (.cells #[.int .i64 m3.kind,.string m3.name,.int .i64 m3.n,.slice m3a m3.args.length m3c] 30)).alloc (.cells #[.int .i64 n3.kind,.string n3.name,.int .i64 n3.n,.slice n3a n3.args.length n3c] 30))).alloc (Nat.le_refl _) (.cells #[.int .i64 6,.string ⟨#[]⟩,.int .i64 0,.int .i64 0,.string ⟨#[]⟩,.int .i64 0,.slice none 0 0,.slice (some ⟨w10.heap.size+1+1+1+1,0,none⟩) 2 2] 33)
              have hnKN:=coK (kd:=8) (s:=e0) (n:=0) (ks:=[funC c d]) (kid1v RK6_16.out hsz rfl rfl rfl rfl rfl rfl rfl rfl)
              have RC_17:=Lib.hid (RC_16.out.low hB)
              have RD_17:=Lib.hid (RD_16.out.low hB)
              have RT_17:=Lib.hid (RT_16.out.low hB)
              have RG_17:=Lib.hid (RG_16.out.low hB)
              have RA1_17:=Lib.hid (RA1_16.out.low hB)
              have RB1_17:=Lib.hid (RB1_16.out.low hB)
              have RV2_17:=Lib.hid (RV2_16.out.low hB)
              have RU2_17:=Lib.hid (RU2_16.out.low hB)
              have RK5_17:=Lib.hid (RK5_16.out.low hB)
              have RB5_17:=Lib.hid (RB5_16.out.low hB)
              have RK6_17:=Lib.hid (RK6_16.out.low hB)
              have RB6_17:=Lib.hid (RB6_16.out.low hB)
              have RM3_17:=Lib.hid (RM3_16.out.low hB)
              have RN3_17:=Lib.hid (RN3_16.out.low hB)
              have B_17:=Lib.hid (B_16.out.trans (hB.mono B_16.out.size))
              have RKN_17:=Lib.hid hnKN
              clear hB hnKN RC_16 RD_16 RT_16 RG_16 RA1_16 RB1_16 RV2_16 RU2_16 RK5_16 RB5_16 RK6_16 RB6_16 RM3_16 RN3_16 B_16
              clear hsz
              have C:=Lib.hid (show Calls Tryz.prog 12 #[.slice ga gl gc,.agg #[.int .i64 8,.string ⟨#[]⟩,.int .i64 0,.int .i64 0,.string ⟨#[]⟩,.int .i64 0,.slice none 0 0,.slice (some ⟨w16.heap.size+1+1,0,none⟩) 1 1]] (((w16.alloc (.cells #[.int .i64 m3.kind,.string m3.name,.int .i64 m3.n,.slice m3a m3.args.length m3c] 30)).alloc (.cells #[.int .i64 n3.kind,.string n3.name,.int .i64 n3.n,.slice n3a n3.args.length n3c] 30)).alloc (.cells #[.int .i64 6,.string ⟨#[]⟩,.int .i64 0,.int .i64 0,.string ⟨#[]⟩,.int .i64 0,.slice none 0 0,.slice (some ⟨w10.heap.size+1+1+1+1,0,none⟩) 2 2] 33)) (SaidH (((w16.alloc (.cells #[.int .i64 m3.kind,.string m3.name,.int .i64 m3.n,.slice m3a m3.args.length m3c] 30)).alloc (.cells #[.int .i64 n3.kind,.string n3.name,.int .i64 n3.n,.slice n3a n3.args.length n3c] 30)).alloc (.cells #[.int .i64 6,.string ⟨#[]⟩,.int .i64 0,.int .i64 0,.string ⟨#[]⟩,.int .i64 0,.slice none 0 0,.slice (some ⟨w10.heap.size+1+1+1+1,0,none⟩) 2 2] 33)) (saysC gg (nthC 0 (funC c d)))) from says_h GO.out RG_17.out RKN_17.out (TFUN.out.nth (by decide) (by decide)) (tab_below HT.out B_17.out))
              go_wp2_with fail
              refine C.out.mono ?_
              rintro e w18 ⟨p4,q4,p4a,p4c,q4a,q4c,e4,rfl,hX,hY,hB,hr4⟩
              clear C mm0 mm1 mm2 mm3 mm4 mm5 mm6 mm7
              have HR4:=Lib.hid hr4
              clear hr4
              have RC_18:=Lib.hid (RC_17.out.low hB)
              have RD_18:=Lib.hid (RD_17.out.low hB)
              have RT_18:=Lib.hid (RT_17.out.low hB)
              have RG_18:=Lib.hid (RG_17.out.low hB)
              have RA1_18:=Lib.hid (RA1_17.out.low hB)
              have RB1_18:=Lib.hid (RB1_17.out.low hB)
              have RV2_18:=Lib.hid (RV2_17.out.low hB)
              have RU2_18:=Lib.hid (RU2_17.out.low hB)
              have RK5_18:=Lib.hid (RK5_17.out.low hB)
              have RB5_18:=Lib.hid (RB5_17.out.low hB)
              have RK6_18:=Lib.hid (RK6_17.out.low hB)
              have RB6_18:=Lib.hid (RB6_17.out.low hB)
              have RM3_18:=Lib.hid (RM3_17.out.low hB)
              have RN3_18:=Lib.hid (RN3_17.out.low hB)
              have RKN_18:=Lib.hid (RKN_17.out.low hB)
              have B_18:=Lib.hid (B_17.out.trans (hB.mono B_17.out.size))
              have RP4_18:=Lib.hid hX
              have RQ4_18:=Lib.hid hY
              clear hB hX hY RC_17 RD_17 RT_17 RG_17 RA1_17 RB1_17 RV2_17 RU2_17 RK5_17 RB5_17 RK6_17 RB6_17 RM3_17 RN3_17 RKN_17 B_17
              clear RKN_18
              clear RK6_18
              clear RB6_18
              clear RC_18
              clear RD_18
              cases hs1:saysC gg c with
              | none =>
               obtain rfl:e1=50:=by
                rcases HR1.out with ⟨h,_⟩|⟨_,h⟩
                ·rw[hs1] at h;cases h
                ·exact h
               obtain rfl:e3=50:=by
                rcases HR3.out with ⟨h,_⟩|⟨_,h⟩
                ·rw[says_nthC,says_conC gg TC.out.tame TD.out.tame,hs1] at h;cases h
                ·exact h
               obtain rfl:e4=50:=by
                rcases HR4.out with ⟨h,_⟩|⟨_,h⟩
                ·rw[says_nthC,says_funC gg TC.out.tame TD.out.tame,hs1] at h;cases h
                ·exact h
               clear HR1 HR2 HR3 HR4
               go_wp2
               go_ret
               exact⟨rfl,B_18.out⟩
              | some pr =>
               obtain⟨rfl,rfl⟩:pr=(a1,b1)∧e1=0:=by
                rcases HR1.out with ⟨h,h2⟩|⟨h,_⟩
                ·rw[hs1] at h;injection h with h;exact⟨h,h2⟩
                ·rw[hs1] at h;cases h
               cases hs2:saysC gg d with
               | none =>
                obtain rfl:e2=50:=by
                 rcases HR2.out with ⟨h,_⟩|⟨_,h⟩
                 ·rw[hs2] at h;cases h
                 ·exact h
                obtain rfl:e3=50:=by
                 rcases HR3.out with ⟨h,_⟩|⟨_,h⟩
                 ·rw[says_nthC,says_conC gg TC.out.tame TD.out.tame,hs1,hs2] at h;cases h
                 ·exact h
                obtain rfl:e4=50:=by
                 rcases HR4.out with ⟨h,_⟩|⟨_,h⟩
                 ·rw[says_nthC,says_funC gg TC.out.tame TD.out.tame,hs1,hs2] at h;cases h
                 ·exact h
                clear HR1 HR2 HR3 HR4
                go_wp2
                go_ret
                exact⟨rfl,B_18.out⟩
               | some pr2 =>
                obtain⟨rfl,rfl⟩:pr2=(v2,u2)∧e2=0:=by
                 rcases HR2.out with ⟨h,h2⟩|⟨h,_⟩
                 ·rw[hs2] at h;injection h with h;exact⟨h,h2⟩
                 ·rw[hs2] at h;cases h
                obtain⟨rfl,rfl,rfl⟩:v2=m3∧u2=n3∧e3=0:=by
                 rcases HR3.out with ⟨h,h2⟩|⟨h,_⟩
                 ·rw[says_nthC,says_conC gg TC.out.tame TD.out.tame,hs1,hs2] at h;have h:=(nth_con1 ⟨#[84]⟩ a1 v2 b1 u2).symm.trans h;injection h with h;injection h with h3 h4;exact⟨h3,h4,h2⟩
                 ·rw[says_nthC,says_conC gg TC.out.tame TD.out.tame,hs1,hs2] at h;have h:=(nth_con1 ⟨#[84]⟩ a1 v2 b1 u2).symm.trans h;cases h
                obtain⟨rfl,rfl,rfl⟩:a1=p4∧b1=q4∧e4=0:=by
                 rcases HR4.out with ⟨h,h2⟩|⟨h,_⟩
                 ·rw[says_nthC,says_funC gg TC.out.tame TD.out.tame,hs1,hs2] at h;have h:=(nth_fun0 a1 v2 b1 u2).symm.trans h;injection h with h;injection h with h3 h4;exact⟨h3,h4,h2⟩
                 ·rw[says_nthC,says_funC gg TC.out.tame TD.out.tame,hs1,hs2] at h;have h:=(nth_fun0 a1 v2 b1 u2).symm.trans h;cases h
                have SA:=Lib.hid (says_small GO.out TC.out.tame hs1)
                have SV:=Lib.hid (says_small GO.out TD.out.tame hs2)
                have AO:=Lib.hid (said_ok GO.out TC.out hs1)
                have MF:=Lib.hid (mark_free GG.out PC.out TC.out.tame hs1)
                have E5:Hid (saysC gg (nthC 2 (conC ⟨#[84]⟩ c d))=none):=Lib.hid (by rw[says_nthC,says_conC gg TC.out.tame TD.out.tame,hs1,hs2];exact nth_con2 _ _ _ _ _)
                clear hs1 hs2 HR1 HR2 HR3 HR4
                have k0:=RM3_18.out.k.c0
                have k1:=RM3_18.out.k.c1
                have k2:=RM3_18.out.k.c2
                have k3:=RM3_18.out.k.c3
                have l0:=RV2_18.out.k.c0
                have l1:=RV2_18.out.k.c1
                have l2:=RV2_18.out.k.c2
                have l3:=RV2_18.out.k.c3
                have C:=Lib.hid (same_eq RM3_18.out.at_ RV2_18.out.at_ SV.out.1 SV.out.1 rfl (tab_below HT.out B_18.out))
                go_wp2_with fail
                refine C.out.mono ?_
                rintro e w19 ⟨rfl,hB⟩
                clear C k0 k1 k2 k3 l0 l1 l2 l3
                have RT_19:=Lib.hid (RT_18.out.low hB)
                have RG_19:=Lib.hid (RG_18.out.low hB)
                have RA1_19:=Lib.hid (RA1_18.out.low hB)
                have RB1_19:=Lib.hid (RB1_18.out.low hB)
                have RV2_19:=Lib.hid (RV2_18.out.low hB)
                have RU2_19:=Lib.hid (RU2_18.out.low hB)
                have RK5_19:=Lib.hid (RK5_18.out.low hB)
                have RB5_19:=Lib.hid (RB5_18.out.low hB)
                have RM3_19:=Lib.hid (RM3_18.out.low hB)
                have RN3_19:=Lib.hid (RN3_18.out.low hB)
                have RP4_19:=Lib.hid (RP4_18.out.low hB)
                have RQ4_19:=Lib.hid (RQ4_18.out.low hB)
                have B_19:=Lib.hid (B_18.out.trans (hB.mono B_18.out.size))
                clear hB RT_18 RG_18 RA1_18 RB1_18 RV2_18 RU2_18 RK5_18 RB5_18 RM3_18 RN3_18 RP4_18 RQ4_18 B_18
                have k0:=RN3_19.out.k.c0
                have k1:=RN3_19.out.k.c1
                have k2:=RN3_19.out.k.c2
                have k3:=RN3_19.out.k.c3
                have l0:=RU2_19.out.k.c0
                have l1:=RU2_19.out.k.c1
                have l2:=RU2_19.out.k.c2
                have l3:=RU2_19.out.k.c3
                have C:=Lib.hid (same_eq RN3_19.out.at_ RU2_19.out.at_ SV.out.2 SV.out.2 rfl (tab_below HT.out B_19.out))
                go_wp2_with fail
                refine C.out.mono ?_
                rintro e w20 ⟨rfl,hB⟩
                clear C k0 k1 k2 k3 l0 l1 l2 l3
                have RT_20:=Lib.hid (RT_19.out.low hB)
                have RG_20:=Lib.hid (RG_19.out.low hB)
                have RA1_20:=Lib.hid (RA1_19.out.low hB)
                have RB1_20:=Lib.hid (RB1_19.out.low hB)
                have RV2_20:=Lib.hid (RV2_19.out.low hB)
                have RU2_20:=Lib.hid (RU2_19.out.low hB)
                have RK5_20:=Lib.hid (RK5_19.out.low hB)
                have RB5_20:=Lib.hid (RB5_19.out.low hB)
                have RM3_20:=Lib.hid (RM3_19.out.low hB)
                have RN3_20:=Lib.hid (RN3_19.out.low hB)
                have RP4_20:=Lib.hid (RP4_19.out.low hB)
                have RQ4_20:=Lib.hid (RQ4_19.out.low hB)
                have B_20:=Lib.hid (B_19.out.trans (hB.mono B_19.out.size))
                clear hB RT_19 RG_19 RA1_19 RB1_19 RV2_19 RU2_19 RK5_19 RB5_19 RM3_19 RN3_19 RP4_19 RQ4_19 B_19
                have k0:=RP4_20.out.k.c0
                have k1:=RP4_20.out.k.c1
                have k2:=RP4_20.out.k.c2
                have k3:=RP4_20.out.k.c3
                have l0:=RA1_20.out.k.c0
                have l1:=RA1_20.out.k.c1
                have l2:=RA1_20.out.k.c2
                have l3:=RA1_20.out.k.c3
                have C:=Lib.hid (same_eq RP4_20.out.at_ RA1_20.out.at_ SA.out.1 SA.out.1 rfl (tab_below HT.out B_20.out))
                go_wp2_with fail
                refine C.out.mono ?_
                rintro e w21 ⟨rfl,hB⟩
                clear C k0 k1 k2 k3 l0 l1 l2 l3
                have RT_21:=Lib.hid (RT_20.out.low hB)
                have RG_21:=Lib.hid (RG_20.out.low hB)
                have RA1_21:=Lib.hid (RA1_20.out.low hB)
                have RB1_21:=Lib.hid (RB1_20.out.low hB)
                have RV2_21:=Lib.hid (RV2_20.out.low hB)
                have RU2_21:=Lib.hid (RU2_20.out.low hB)
                have RK5_21:=Lib.hid (RK5_20.out.low hB)
                have RB5_21:=Lib.hid (RB5_20.out.low hB)
                have RM3_21:=Lib.hid (RM3_20.out.low hB)
                have RN3_21:=Lib.hid (RN3_20.out.low hB)
                have RP4_21:=Lib.hid (RP4_20.out.low hB)
                have RQ4_21:=Lib.hid (RQ4_20.out.low hB)
                have B_21:=Lib.hid (B_20.out.trans (hB.mono B_20.out.size))
                clear hB RT_20 RG_20 RA1_20 RB1_20 RV2_20 RU2_20 RK5_20 RB5_20 RM3_20 RN3_20 RP4_20 RQ4_20 B_20
                have k0:=RQ4_21.out.k.c0
                have k1:=RQ4_21.out.k.c1
                have k2:=RQ4_21.out.k.c2
                have k3:=RQ4_21.out.k.c3
                have l0:=RB1_21.out.k.c0
                have l1:=RB1_21.out.k.c1
                have l2:=RB1_21.out.k.c2
                have l3:=RB1_21.out.k.c3
                have C:=Lib.hid (same_eq RQ4_21.out.at_ RB1_21.out.at_ SA.out.2 SA.out.2 rfl (tab_below HT.out B_21.out))
                go_wp2_with fail
                refine C.out.mono ?_
                rintro e w22 ⟨rfl,hB⟩
                clear C k0 k1 k2 k3 l0 l1 l2 l3
                have RT_22:=Lib.hid (RT_21.out.low hB)
                have RG_22:=Lib.hid (RG_21.out.low hB)
                have RA1_22:=Lib.hid (RA1_21.out.low hB)
                have RB1_22:=Lib.hid (RB1_21.out.low hB)
                have RV2_22:=Lib.hid (RV2_21.out.low hB)
                have RU2_22:=Lib.hid (RU2_21.out.low hB)
                have RK5_22:=Lib.hid (RK5_21.out.low hB)
                have RB5_22:=Lib.hid (RB5_21.out.low hB)
                have RM3_22:=Lib.hid (RM3_21.out.low hB)
                have RN3_22:=Lib.hid (RN3_21.out.low hB)
                have RP4_22:=Lib.hid (RP4_21.out.low hB)
                have RQ4_22:=Lib.hid (RQ4_21.out.low hB)
                have B_22:=Lib.hid (B_21.out.trans (hB.mono B_21.out.size))
                clear hB RT_21 RG_21 RA1_21 RB1_21 RV2_21 RU2_21 RK5_21 RB5_21 RM3_21 RN3_21 RP4_21 RQ4_21 B_21
                clear RM3_22
                clear RN3_22
                clear RP4_22
                clear RQ4_22
                clear RV2_22
                clear RU2_22
                clear RB1_22
                have mm0:=RB5_22.out.c0
                have mm1:=RB5_22.out.c1
                have mm2:=RB5_22.out.c2
                have mm3:=RB5_22.out.c3
                have mm4:=RB5_22.out.c4
                have mm5:=RB5_22.out.c5
                have mm6:=RB5_22.out.c6
                have mm7:=RB5_22.out.c7
                have hsz:w22.heap.size=w22.heap.size:=by first|rfl|simp
                have hB:=(Below.refl w22.heap.size w22).alloc (Nat.le_refl _) (.cells #[.int .i64 5,.string ⟨#[84]⟩,.int .i64 0,.int .i64 0,.string ⟨#[]⟩,.int .i64 0,.slice none 0 0,.slice (some ⟨w10.heap.size+1+1,0,none⟩) 2 2] 33)
                have hnKN:=coK (kd:=8) (s:=e0) (n:=2) (ks:=[conC ⟨#[84]⟩ c d]) (kid1v RK5_22.out hsz rfl rfl rfl rfl rfl rfl rfl rfl)
                have RT_23:=Lib.hid (RT_22.out.low hB)
                have RG_23:=Lib.hid (RG_22.out.low hB)
                have RA1_23:=Lib.hid (RA1_22.out.low hB)
                have RK5_23:=Lib.hid (RK5_22.out.low hB)
                have RB5_23:=Lib.hid (RB5_22.out.low hB)
                have B_23:=Lib.hid (B_22.out.trans (hB.mono B_22.out.size))
                have RKN_23:=Lib.hid hnKN
                clear hB hnKN RT_22 RG_22 RA1_22 RK5_22 RB5_22 B_22
                clear hsz
                have C:=Lib.hid (show Calls Tryz.prog 12 #[.slice ga gl gc,.agg #[.int .i64 8,.string ⟨#[]⟩,.int .i64 2,.int .i64 0,.string ⟨#[]⟩,.int .i64 0,.slice none 0 0,.slice (some ⟨w22.heap.size,0,none⟩) 1 1]] (w22.alloc (.cells #[.int .i64 5,.string ⟨#[84]⟩,.int .i64 0,.int .i64 0,.string ⟨#[]⟩,.int .i64 0,.slice none 0 0,.slice (some ⟨w10.heap.size+1+1,0,none⟩) 2 2] 33)) (SaidH (w22.alloc (.cells #[.int .i64 5,.string ⟨#[84]⟩,.int .i64 0,.int .i64 0,.string ⟨#[]⟩,.int .i64 0,.slice none 0 0,.slice (some ⟨w10.heap.size+1+1,0,none⟩) 2 2] 33)) (saysC gg (nthC 2 (conC ⟨#[84]⟩ c d)))) from says_h GO.out RG_23.out RKN_23.out (TCON.out.nth (by decide) (by decide)) (tab_below HT.out B_23.out))
                go_wp2_with fail
                refine C.out.mono ?_
                rintro e w24 ⟨x5,y5,x5a,x5c,y5a,y5c,e5,rfl,hX,hY,hB,hr5⟩
                clear C mm0 mm1 mm2 mm3 mm4 mm5 mm6 mm7
                have HR5:=Lib.hid hr5
                clear hr5
                have RT_24:=Lib.hid (RT_23.out.low hB)
                have RG_24:=Lib.hid (RG_23.out.low hB)
                have RA1_24:=Lib.hid (RA1_23.out.low hB)
                have RK5_24:=Lib.hid (RK5_23.out.low hB)
                have RB5_24:=Lib.hid (RB5_23.out.low hB)
                have RKN_24:=Lib.hid (RKN_23.out.low hB)
                have B_24:=Lib.hid (B_23.out.trans (hB.mono B_23.out.size))
                have RX5_24:=Lib.hid hX
                have RY5_24:=Lib.hid hY
                clear hB hX hY RT_23 RG_23 RA1_23 RK5_23 RB5_23 RKN_23 B_23
                clear RKN_24
                clear RK5_24
                clear RB5_24
                clear RX5_24
                clear RY5_24
                obtain rfl:e5=50:=by
                 rcases HR5.out with ⟨h,_⟩|⟨_,h⟩
                 ·rw[E5.out] at h;cases h
                 ·exact h
                clear HR5
                have k0:=RA1_24.out.k.c0
                have k1:=RA1_24.out.k.c1
                have k2:=RA1_24.out.k.c2
                have k3:=RA1_24.out.k.c3
                have hsz:((w24.alloc (.cells #[.int .i64 x5.kind,.string x5.name,.int .i64 x5.n,.slice x5a x5.args.length x5c] 30)).alloc (.cells #[.int .i64 y5.kind,.string y5.name,.int .i64 y5.n,.slice y5a y5.args.length y5c] 30)).heap.size=w24.heap.size+1+1:=by first|rfl|simp
                have hB:=(Below.refl ((w24.alloc (.cells #[.int .i64 x5.kind,.string x5.name,.int .i64 x5.n,.slice x5a x5.args.length x5c] 30)).alloc (.cells #[.int .i64 y5.kind,.string y5.name,.int .i64 y5.n,.slice y5a y5.args.length y5c] 30)).heap.size ((w24.alloc (.cells #[.int .i64 x5.kind,.string x5.name,.int .i64 x5.n,.slice x5a x5.args.length x5c] 30)).alloc (.cells #[.int .i64 y5.kind,.string y5.name,.int .i64 y5.n,.slice y5a y5.args.length y5c] 30))).alloc (Nat.le_refl _) (.cells #[.int .i64 2,.string ⟨#[]⟩,.int .i64 0,.int .i64 a1.kind,.string a1.name,.int .i64 a1.n,.slice a1a a1.args.length a1c,.slice none 0 0] 33)
                have TI:=Lib.hid (tame_inst (q:=120) AO.out.o AO.out.v AO.out.s AO.out.f ST.out.2.1 ST.out.2.2 NM.out)
                have hnK7:=coK (kd:=7) (s:=nm) (n:=0) (ks:=[reflC a1]) (kid1v (c:=reflC a1) (a:=a1a) (m:=a1c) (ka:=none) (km:=0) ⟨RA1_24.out.at_,.nil _ _⟩ hsz rfl rfl rfl rfl rfl rfl rfl rfl)
                have RT_25:=Lib.hid (RT_24.out.low hB)
                have RG_25:=Lib.hid (RG_24.out.low hB)
                have RA1_25:=Lib.hid (RA1_24.out.low hB)
                have B_25:=Lib.hid (B_24.out.trans (hB.mono B_24.out.size))
                have RK7_25:=Lib.hid hnK7
                clear hB hnK7 RT_24 RG_24 RA1_24 B_24
                clear hsz
                have hsz:(((w24.alloc (.cells #[.int .i64 x5.kind,.string x5.name,.int .i64 x5.n,.slice x5a x5.args.length x5c] 30)).alloc (.cells #[.int .i64 y5.kind,.string y5.name,.int .i64 y5.n,.slice y5a y5.args.length y5c] 30)).alloc (.cells #[.int .i64 2,.string ⟨#[]⟩,.int .i64 0,.int .i64 a1.kind,.string a1.name,.int .i64 a1.n,.slice a1a a1.args.length a1c,.slice none 0 0] 33)).heap.size=w24.heap.size+1+1+1:=by first|rfl|simp
                have hB:=(Below.refl (((w24.alloc (.cells #[.int .i64 x5.kind,.string x5.name,.int .i64 x5.n,.slice x5a x5.args.length x5c] 30)).alloc (.cells #[.int .i64 y5.kind,.string y5.name,.int .i64 y5.n,.slice y5a y5.args.length y5c] 30)).alloc (.cells #[.int .i64 2,.string ⟨#[]⟩,.int .i64 0,.int .i64 a1.kind,.string a1.name,.int .i64 a1.n,.slice a1a a1.args.length a1c,.slice none 0 0] 33)).heap.size (((w24.alloc (.cells #[.int .i64 x5.kind,.string x5.name,.int .i64 x5.n,.slice x5a x5.args.length x5c] 30)).alloc (.cells #[.int .i64 y5.kind,.string y5.name,.int .i64 y5.n,.slice y5a y5.args.length y5c] 30)).alloc (.cells #[.int .i64 2,.string ⟨#[]⟩,.int .i64 0,.int .i64 a1.kind,.string a1.name,.int .i64 a1.n,.slice a1a a1.args.length a1c,.slice none 0 0] 33))).alloc (Nat.le_refl _) (.cells #[.int .i64 7,.string nm,.int .i64 0,.int .i64 0,.string ⟨#[]⟩,.int .i64 0,.slice none 0 0,.slice (some ⟨w24.heap.size+1+1,0,none⟩) 1 1] 33)
                have hnB7:=(by have hb8:=B8.new (((w24.alloc (.cells #[.int .i64 x5.kind,.string x5.name,.int .i64 x5.n,.slice x5a x5.args.length x5c] 30)).alloc (.cells #[.int .i64 y5.kind,.string y5.name,.int .i64 y5.n,.slice y5a y5.args.length y5c] 30)).alloc (.cells #[.int .i64 2,.string ⟨#[]⟩,.int .i64 0,.int .i64 a1.kind,.string a1.name,.int .i64 a1.n,.slice a1a a1.args.length a1c,.slice none 0 0] 33)) (.int .i64 7) (.string nm) (.int .i64 0) (.int .i64 0) (.string ⟨#[]⟩) (.int .i64 0) (.slice none 0 0) (.slice (some ⟨w24.heap.size+1+1,0,none⟩) 1 1);rw[hsz] at hb8;exact hb8:B8 _ (w24.heap.size+1+1+1) (.int .i64 7) (.string nm) (.int .i64 0) (.int .i64 0) (.string ⟨#[]⟩) (.int .i64 0) (.slice none 0 0) (.slice (some ⟨w24.heap.size+1+1,0,none⟩) 1 1))
                have RT_26:=Lib.hid (RT_25.out.low hB)
                have RG_26:=Lib.hid (RG_25.out.low hB)
                have RA1_26:=Lib.hid (RA1_25.out.low hB)
                have RK7_26:=Lib.hid (RK7_25.out.low hB)
                have B_26:=Lib.hid (B_25.out.trans (hB.mono B_25.out.size))
                have RB7_26:=Lib.hid hnB7
                clear hB hnB7 RT_25 RG_25 RA1_25 RK7_25 B_25
                clear hsz
                have l0:=RB7_26.out.c0
                have l1:=RB7_26.out.c1
                have l2:=RB7_26.out.c2
                have l3:=RB7_26.out.c3
                have l4:=RB7_26.out.c4
                have l5:=RB7_26.out.c5
                have l6:=RB7_26.out.c6
                have l7:=RB7_26.out.c7
                have m0:=RT_26.out.k.c0
                have m1:=RT_26.out.k.c1
                have m2:=RT_26.out.k.c2
                have m3:=RT_26.out.k.c3
                have hsz:((((w24.alloc (.cells #[.int .i64 x5.kind,.string x5.name,.int .i64 x5.n,.slice x5a x5.args.length x5c] 30)).alloc (.cells #[.int .i64 y5.kind,.string y5.name,.int .i64 y5.n,.slice y5a y5.args.length y5c] 30)).alloc (.cells #[.int .i64 2,.string ⟨#[]⟩,.int .i64 0,.int .i64 a1.kind,.string a1.name,.int .i64 a1.n,.slice a1a a1.args.length a1c,.slice none 0 0] 33)).alloc (.cells #[.int .i64 7,.string nm,.int .i64 0,.int .i64 0,.string ⟨#[]⟩,.int .i64 0,.slice none 0 0,.slice (some ⟨w24.heap.size+1+1,0,none⟩) 1 1] 33)).heap.size=w24.heap.size+1+1+1+1:=by first|rfl|simp
                have hB:=(Below.refl ((((w24.alloc (.cells #[.int .i64 x5.kind,.string x5.name,.int .i64 x5.n,.slice x5a x5.args.length x5c] 30)).alloc (.cells #[.int .i64 y5.kind,.string y5.name,.int .i64 y5.n,.slice y5a y5.args.length y5c] 30)).alloc (.cells #[.int .i64 2,.string ⟨#[]⟩,.int .i64 0,.int .i64 a1.kind,.string a1.name,.int .i64 a1.n,.slice a1a a1.args.length a1c,.slice none 0 0] 33)).alloc (.cells #[.int .i64 7,.string nm,.int .i64 0,.int .i64 0,.string ⟨#[]⟩,.int .i64 0,.slice none 0 0,.slice (some ⟨w24.heap.size+1+1,0,none⟩) 1 1] 33)).heap.size ((((w24.alloc (.cells #[.int .i64 x5.kind,.string x5.name,.int .i64 x5.n,.slice x5a x5.args.length x5c] 30)).alloc (.cells #[.int .i64 y5.kind,.string y5.name,.int .i64 y5.n,.slice y5a y5.args.length y5c] 30)).alloc (.cells #[.int .i64 2,.string ⟨#[]⟩,.int .i64 0,.int .i64 a1.kind,.string a1.name,.int .i64 a1.n,.slice a1a a1.args.length a1c,.slice none 0 0] 33)).alloc (.cells #[.int .i64 7,.string nm,.int .i64 0,.int .i64 0,.string ⟨#[]⟩,.int .i64 0,.slice none 0 0,.slice (some ⟨w24.heap.size+1+1,0,none⟩) 1 1] 33))).alloc (Nat.le_refl _) (.cells #[.int .i64 7,.string nm,.int .i64 0,.int .i64 0,.string ⟨#[]⟩,.int .i64 0,.slice none 0 0,.slice (some ⟨w24.heap.size+1+1,0,none⟩) 1 1] 33)
                have hnK9:=(show CoAt _ _ (instC t (allC nm (reflC a1))) ta tc (some ⟨w24.heap.size+1+1+1+1,0,none⟩) 1 from ⟨(RT_26.out.low hB).at_,kid1v RK7_26.out hsz rfl rfl rfl rfl rfl rfl rfl rfl⟩)
                have RT_27:=Lib.hid (RT_26.out.low hB)
                have RG_27:=Lib.hid (RG_26.out.low hB)
                have RA1_27:=Lib.hid (RA1_26.out.low hB)
                have RK7_27:=Lib.hid (RK7_26.out.low hB)
                have RB7_27:=Lib.hid (RB7_26.out.low hB)
                have B_27:=Lib.hid (B_26.out.trans (hB.mono B_26.out.size))
                have RK9_27:=Lib.hid hnK9
                clear hB hnK9 RT_26 RG_26 RA1_26 RK7_26 RB7_26 B_26
                clear hsz
                have C:=Lib.hid (show Calls Tryz.prog 12 #[.slice ga gl gc,.agg #[.int .i64 9,.string ⟨#[]⟩,.int .i64 0,.int .i64 t.kind,.string t.name,.int .i64 t.n,.slice ta t.args.length tc,.slice (some ⟨w24.heap.size+1+1+1+1,0,none⟩) 1 1]] (((((w24.alloc (.cells #[.int .i64 x5.kind,.string x5.name,.int .i64 x5.n,.slice x5a x5.args.length x5c] 30)).alloc (.cells #[.int .i64 y5.kind,.string y5.name,.int .i64 y5.n,.slice y5a y5.args.length y5c] 30)).alloc (.cells #[.int .i64 2,.string ⟨#[]⟩,.int .i64 0,.int .i64 a1.kind,.string a1.name,.int .i64 a1.n,.slice a1a a1.args.length a1c,.slice none 0 0] 33)).alloc (.cells #[.int .i64 7,.string nm,.int .i64 0,.int .i64 0,.string ⟨#[]⟩,.int .i64 0,.slice none 0 0,.slice (some ⟨w24.heap.size+1+1,0,none⟩) 1 1] 33)).alloc (.cells #[.int .i64 7,.string nm,.int .i64 0,.int .i64 0,.string ⟨#[]⟩,.int .i64 0,.slice none 0 0,.slice (some ⟨w24.heap.size+1+1,0,none⟩) 1 1] 33)) (SaidH (((((w24.alloc (.cells #[.int .i64 x5.kind,.string x5.name,.int .i64 x5.n,.slice x5a x5.args.length x5c] 30)).alloc (.cells #[.int .i64 y5.kind,.string y5.name,.int .i64 y5.n,.slice y5a y5.args.length y5c] 30)).alloc (.cells #[.int .i64 2,.string ⟨#[]⟩,.int .i64 0,.int .i64 a1.kind,.string a1.name,.int .i64 a1.n,.slice a1a a1.args.length a1c,.slice none 0 0] 33)).alloc (.cells #[.int .i64 7,.string nm,.int .i64 0,.int .i64 0,.string ⟨#[]⟩,.int .i64 0,.slice none 0 0,.slice (some ⟨w24.heap.size+1+1,0,none⟩) 1 1] 33)).alloc (.cells #[.int .i64 7,.string nm,.int .i64 0,.int .i64 0,.string ⟨#[]⟩,.int .i64 0,.slice none 0 0,.slice (some ⟨w24.heap.size+1+1,0,none⟩) 1 1] 33)) (saysC gg (instC t (allC nm (reflC a1))))) from says_h GO.out RG_27.out RK9_27.out TI.out (tab_below HT.out B_27.out))
                go_wp2_with fail
                refine C.out.mono ?_
                rintro e w28 ⟨x6,y6,x6a,x6c,y6a,y6c,e6,rfl,hX,hY,hB,hr6⟩
                clear C k0 k1 k2 k3 l0 l1 l2 l3 l4 l5 l6 l7 m0 m1 m2 m3
                have HR6:=Lib.hid hr6
                clear hr6
                have RT_28:=Lib.hid (RT_27.out.low hB)
                have RG_28:=Lib.hid (RG_27.out.low hB)
                have RA1_28:=Lib.hid (RA1_27.out.low hB)
                have RK7_28:=Lib.hid (RK7_27.out.low hB)
                have RB7_28:=Lib.hid (RB7_27.out.low hB)
                have RK9_28:=Lib.hid (RK9_27.out.low hB)
                have B_28:=Lib.hid (B_27.out.trans (hB.mono B_27.out.size))
                have RX6_28:=Lib.hid hX
                have RY6_28:=Lib.hid hY
                clear hB hX hY RT_27 RG_27 RA1_27 RK7_27 RB7_27 RK9_27 B_27
                clear RK7_28
                clear RB7_28
                clear RK9_28
                clear RG_28
                obtain⟨rfl,rfl,rfl⟩:x6=PutT (marks 1) t (PutT nm (varB (marks 1)) a1)∧y6=PutT (marks 1) t (PutT nm (varB (marks 1)) a1)∧e6=0:=by
                 rcases HR6.out with ⟨h,h2⟩|⟨h,_⟩
                 ·rw[says_instC] at h;injection h with h;injection h with h3 h4;exact⟨h3.symm,h4.symm,h2⟩
                 ·rw[says_instC] at h;cases h
                clear HR6
                have k0:=RA1_28.out.k.c0
                have k1:=RA1_28.out.k.c1
                have k2:=RA1_28.out.k.c2
                have k3:=RA1_28.out.k.c3
                have l0:=RT_28.out.k.c0
                have l1:=RT_28.out.k.c1
                have l2:=RT_28.out.k.c2
                have l3:=RT_28.out.k.c3
                have C:=Lib.hid (put_h nm RA1_28.out.at_ RT_28.out.at_ SA.out.1 ST.out.1 (tab_below HT.out B_28.out))
                go_wp2_with fail
                refine C.out.mono ?_
                rintro e w29 ⟨za,zc,rfl,hZ,hB0⟩
                clear C k0 k1 k2 k3 l0 l1 l2 l3
                obtain⟨zt,hzt⟩:∃ zt,zt=PutT nm t a1:=⟨_,rfl⟩
                rw[← hzt] at hZ ⊢
                have hY:Hold w29.heap.size w29.heap.size zt za zc (w29.alloc (.cells #[.int .i64 zt.kind,.string zt.name,.int .i64 zt.n,.slice za zt.args.length zc] 30)):=⟨B4.new _ _ _ _ _,hZ.keep fun b hb=>heap_alloc_old _ _ hb,by simp,by simp⟩
                have hB:=hB0.trans (((Below.refl w29.heap.size w29).alloc (Nat.le_refl _) (.cells #[.int .i64 zt.kind,.string zt.name,.int .i64 zt.n,.slice za zt.args.length zc] 30)).mono hB0.size)
                clear hB0 hZ
                have EQ:Hid (canonS (PutT (marks 1) t (PutT nm (varB (marks 1)) a1))=canonS zt):=Lib.hid (by rw[hzt];exact put_mark nm AO.out.o.1 ST.out.2.1.1 MF.out)
                have SW:Hid (Small zt):=Lib.hid (by rw[hzt];exact put_small nm AO.out ST.out.2.1 ST.out.2.2)
                have SI:Hid (Small (PutT (marks 1) t (PutT nm (varB (marks 1)) a1))):=Lib.hid (says_small GO.out TI.out (says_instC gg t a1 nm)).1
                generalize PutT (marks 1) t (PutT nm (varB (marks 1)) a1)=x6 at *
                clear hzt
                have RT_29:=Lib.hid (RT_28.out.low hB)
                have RA1_29:=Lib.hid (RA1_28.out.low hB)
                have RX6_29:=Lib.hid (RX6_28.out.low hB)
                have RY6_29:=Lib.hid (RY6_28.out.low hB)
                have B_29:=Lib.hid (B_28.out.trans (hB.mono B_28.out.size))
                have RZ_29:=Lib.hid hY
                clear hB hY RT_28 RA1_28 RX6_28 RY6_28 B_28
                clear RA1_29
                clear RT_29
                have k0:=RX6_29.out.k.c0
                have k1:=RX6_29.out.k.c1
                have k2:=RX6_29.out.k.c2
                have k3:=RX6_29.out.k.c3
                have l0:=RZ_29.out.k.c0
                have l1:=RZ_29.out.k.c1
                have l2:=RZ_29.out.k.c2
                have l3:=RZ_29.out.k.c3
                have C:=Lib.hid (same_eq RX6_29.out.at_ RZ_29.out.at_ SI.out SW.out EQ.out (tab_below HT.out B_29.out))
                go_wp2_with fail
                refine C.out.mono ?_
                rintro e w30 ⟨rfl,hB⟩
                clear C k0 k1 k2 k3 l0 l1 l2 l3
                have RX6_30:=Lib.hid (RX6_29.out.low hB)
                have RY6_30:=Lib.hid (RY6_29.out.low hB)
                have RZ_30:=Lib.hid (RZ_29.out.low hB)
                have B_30:=Lib.hid (B_29.out.trans (hB.mono B_29.out.size))
                clear hB RX6_29 RY6_29 RZ_29 B_29
                have k0:=RY6_30.out.k.c0
                have k1:=RY6_30.out.k.c1
                have k2:=RY6_30.out.k.c2
                have k3:=RY6_30.out.k.c3
                have l0:=RZ_30.out.k.c0
                have l1:=RZ_30.out.k.c1
                have l2:=RZ_30.out.k.c2
                have l3:=RZ_30.out.k.c3
                have C:=Lib.hid (same_eq RY6_30.out.at_ RZ_30.out.at_ SI.out SW.out EQ.out (tab_below HT.out B_30.out))
                go_wp2_with fail
                refine C.out.mono ?_
                rintro e w31 ⟨rfl,hB⟩
                clear C k0 k1 k2 k3 l0 l1 l2 l3
                have RX6_31:=Lib.hid (RX6_30.out.low hB)
                have RY6_31:=Lib.hid (RY6_30.out.low hB)
                have RZ_31:=Lib.hid (RZ_30.out.low hB)
                have B_31:=Lib.hid (B_30.out.trans (hB.mono B_30.out.size))
                clear hB RX6_30 RY6_30 RZ_30 B_30
                go_wp2
                go_ret
                exact⟨rfl,B_31.out⟩
             ·rw[decide_eq_false hc2]
              go_wp2
              go_ret
              exact⟨rfl,B_8.out⟩
            ·rw[decide_eq_false hc1]
             have k0:=RD_7.out.k.c0
             have k1:=RD_7.out.k.c1
             have k2:=RD_7.out.k.c2
             have k3:=RD_7.out.k.c3
             have k4:=RD_7.out.k.c4
             have k5:=RD_7.out.k.c5
             have k6:=RD_7.out.k.c6
             have k7:=RD_7.out.k.c7
             have C:=Lib.hid (calm_h RD_7.out.at_ WD.out.1 (by have:=WD.out.2.1;omega))
             go_wp2_with fail
             refine C.out.mono ?_
             rintro e w8 ⟨rfl,hB⟩
             clear C k0 k1 k2 k3 k4 k5 k6 k7
             have RC_8:=Lib.hid (RC_7.out.low hB)
             have RD_8:=Lib.hid (RD_7.out.low hB)
             have RT_8:=Lib.hid (RT_7.out.low hB)
             have RG_8:=Lib.hid (RG_7.out.low hB)
             have B_8:=Lib.hid (B_7.out.trans (hB.mono B_7.out.size))
             clear hB RC_7 RD_7 RT_7 RG_7 B_7
             generalize decide (grC d≤2000)=bd at *
             go_wp2
             go_ret
             exact⟨rfl,B_8.out⟩
    ·have z_ert:((ert:Int) != 0)=true:=by rw[bne_iff_ne];omega
     clear hG
     go_wp2
     go_ret
     exact⟨rfl,B_5.out⟩
   ·have z_erd:((erd:Int) != 0)=true:=by rw[bne_iff_ne];omega
    clear hG
    go_wp2
    go_ret
    exact⟨rfl,B_5.out⟩
  ·have z_erc:((erc:Int) != 0)=true:=by rw[bne_iff_ne];omega
   clear hG
   go_wp2
   go_ret
   exact⟨rfl,B_5.out⟩
 ·go_wp2
  go_ret
  exact⟨rfl,B_5.out⟩
end Go.Proofs.YtkihnodkhnahiaaGreatDoor.Tp

namespace Go.Proofs.YtkihnodkhnahiaaGreatDoor.coerceParts
open Go.ChangeShapes Go.WideShapes Go.ChangeAt Go.WideMaps Go.WideElems Go.RowKit
open Go.ChangeMaps (open_string shut_string)
open Tp (Tab laidL tab_of_laid vs_of_laid door_met own laidOut)

/-! ### the row's step, as the kit's worked example (a law over laid variables) has it -/
set_option linter.unusedVariables false in
set_option maxRecDepth 100000 in
theorem lifted (os : Os) (started : os.Started) (H : Type) (enc : TypeId × Value → H) :
    ReturnsInHanded {} Tryz.checked os 5 .any (fun w args => (Rows.coercePartsSpec.pre enc Tryz.prog Tryz.f5 [] false w args ∧ laidMetH Tryz.prog laidL w) ∧ sizedMet enc Tryz.prog Tryz.f5 (OpenSpec.ofChange Rows.coercePartsSpec) false w args)
      (Rows.coercePartsSpec.post enc Tryz.prog Tryz.f5 false true false false) := by
  refine returnsInHanded_of_change_and (C := Tryz.checked) (X := fun w _ => laidMetH Tryz.prog laidL w) (fun _ _ _ hh h => h.of_heap hh) own started (by kernel_rfl) Tryz.func5
    (ChangeSpec.witness_shaped (enc := enc) (C := Tryz.checked) (os := os) (X := fun w _ => laidMetH Tryz.prog laidL w) false (World.doorLaid Tryz.prog 400 os) #[.slice none 0 0, .string ByteArray.empty, .string ByteArray.empty, .string ByteArray.empty, .string ByteArray.empty] 8 rfl (World.shaped_of_RefB (by kernel_rfl) (by kernel_rfl)) (by kernel_rfl) (by kernel_rfl) (by kernel_rfl) (door_met os _)) ?_
  intro W base args ds gs before hval0 hW _ _ hL _
  have hval : ∀ (j : Nat) t v, Tryz.f5.params[j]? = some t → args[j]? = some v → Value.okWide Tryz.prog W .any base t v := hval0
  have hW' := hW
  obtain ⟨p, q, hA0, hV, rfl, hfz, hnd⟩ := hW
  have hA : DataW.TrodAll enc Tryz.prog W 0 (fun _ => true) true Tryz.f5.params.toList args.toList ds p := hA0
  rw [Tryz.params5] at hA hval
  obtain ⟨v0, vs0, d0, ds0, p0, q0, hargs, rfl, rfl, h0, r0⟩ := trodAll_cons hA
  obtain ⟨v1, vs1, d1, ds1, p1, q1, rfl, rfl, rfl, h1, r1⟩ := trodAll_cons r0
  obtain ⟨v2, vs2, d2, ds2, p2, q2, rfl, rfl, rfl, h2, r2⟩ := trodAll_cons r1
  obtain ⟨v3, vs3, d3, ds3, p3, q3, rfl, rfl, rfl, h3, r3⟩ := trodAll_cons r2
  obtain ⟨v4, vs4, d4, ds4, p4, q4, rfl, rfl, rfl, h4, r4⟩ := trodAll_cons r3
  obtain ⟨rfl, rfl, rfl⟩ := trodAll_nil r4
  obtain rfl : args = #[v0, v1, v2, v3, v4] := by cases args; simp_all
  obtain ⟨rfl, rfl⟩ := trodVars_none hV
  have k0 := h0
  have lt0 : ∀ x ∈ p0, x.block < W.heap.size := by obtain ⟨m, hm⟩ := k0; exact DataW.trod_lt m _ _ _ hm
  obtain ⟨a0, w0⟩ := Tp.opnL (hval 0 22 v0 rfl rfl) h0
  obtain ⟨a1, rfl, rfl, rfl, w1⟩ := open_string Tryz.underlying9 (hval 1 9 v1 rfl rfl) h1
  obtain ⟨a2, rfl, rfl, rfl, w2⟩ := open_string Tryz.underlying9 (hval 2 9 v2 rfl rfl) h2
  obtain ⟨a3, rfl, rfl, rfl, w3⟩ := open_string Tryz.underlying9 (hval 3 9 v3 rfl rfl) h3
  obtain ⟨a4, rfl, rfl, rfl, w4⟩ := open_string Tryz.underlying9 (hval 4 9 v4 rfl rfl) h4
  clear hA0 hval0
  refine (Tp.coerceParts_walk v0 a0 a1 w1 a2 w2 a3 w3 a4 w4 W w0 (tab_of_laid hL) (vs_of_laid hL)).mono fun e W' ⟨he, bel⟩ => ?_
  subst he
  exact ⟨_, rfl, _, _, _, [], _, [], hW', trodAll_mk1 (shut_bool Tryz.underlying4 _), (trodAll_cons_mk (Below.trod laidOut (by kernel_rfl) (of_decide_eq_true (by kernel_rfl)) k0 bel lt0) (trodAll_cons_mk (shut_string Tryz.underlying9 w1) (trodAll_cons_mk (shut_string Tryz.underlying9 w2) (trodAll_cons_mk (shut_string Tryz.underlying9 w3) (trodAll_cons_mk (shut_string Tryz.underlying9 w4) trodAll_mk0))))), rfl, bel.frame _, fun h => by cases h⟩

theorem row_holds : Rows.CoercePartsSaid :=
  OpenClaim.holds_of_wide 5 Tryz.f5 rfl rfl rfl rfl rfl rfl rfl ⟨rfl, rfl, rfl, rfl, rfl⟩ rfl rfl rfl rfl rfl (by kernel_rfl) Tryz.func5 (by kernel_rfl)
    (of_decide_eq_true (by kernel_rfl)) (by unfold Func.isWrapper; first | (rw [if_pos (by decide +kernel)]; kernel_rfl) | (rw [if_neg (by decide +kernel)]; exact ⟨rfl, rfl⟩))
    (fun os started H enc _ => lifted os started H enc)

/-- THE STATEMENT: the row, tied to the program's text. -/
theorem proved : Rows.CoercePartsCardSaid :=
  Claim7.holds_tied_plain_at .later [] [.data, .data, .data, .sentinel, .sentinel] true Rows.coercePartsCard.stood.harness true
    row_holds (fun _ h => by cases h) (by kernel_rfl) (fun _ h => by cases h) coerceParts_row_tie rfl ⟨rfl, rfl⟩ (by kernel_rfl) rfl
    (fun f fn hf hfn => by
      obtain rfl : f = 5 := Option.some.inj ((show Tryz.prog.funcNamed "savant/savantlaw05.CoerceParts" = some 5 by kernel_rfl).symm.trans hf) |>.symm
      obtain rfl : fn = Tryz.f5 := (Option.some.inj (Tryz.func5.symm.trans hfn)).symm
      exact ⟨by kernel_rfl, fun j t ht => by
        rw [Tryz.params5] at ht
        have hm : t ∈ [22, 9, 9, 9, 9] := by simpa using Array.mem_of_getElem? ht
        have hall : ([22, 9, 9, 9, 9].all fun u => !Tryz.prog.wantsStandIn u) = true := by kernel_rfl
        exact (show Tryz.prog.wantsStandIn t = false by simpa using List.all_eq_true.1 hall t hm)⟩)
    (by kernel_rfl)
#print axioms proved
end Go.Proofs.YtkihnodkhnahiaaGreatDoor.coerceParts

/- Texts laid together: CoGw. -/
import Derived.Test.YtkihnodkhnahiaaGreatDoorP20
import Derived.Test.YtkihnodkhnahiaaGreatDoorP22
import Derived.Test.YtkihnodkhnahiaaGreatDoorP01

namespace Go.Proofs.YtkihnodkhnahiaaGreatDoor.Tp
open Go.RowKit
set_option maxHeartbeats 1600000 in
theorem count_any:∀ (t:Ty) (S:Nat→Prop) (a:Option Addr) (c:Nat) (w:World),ArgsAt S w (.slice a t.args.length c) t.args→(∀ b,S b→b<w.heap.size)→Std t→t.size≤100000 →
  Calls Tryz.prog 56 #[.agg #[.int .i64 t.kind,.string t.name,.int .i64 t.n,.slice a t.args.length c]] w (IntPost w (cntT t)):=by
 intro t
 induction t using Ty.ind with
 | h t ih =>
  intro S a c w hA hn hs hz
  have hce:=cntT_eq t
  have hcs:=cnt_size t
  have IH:=Lib.hid ih
  have AH:=Lib.hid hA
  have HN:=Lib.hid hn
  have HS:=Lib.hid hs
  have HZS:=Lib.hid hz
  have B0:=Lib.hid ((Below.refl w.heap.size w).alloc (Nat.le_refl _) (.cells #[.int .i64 t.kind,.string t.name,.int .i64 t.n,.slice a t.args.length c] 30))
  have K0:=Lib.hid (B4.new w (.int .i64 t.kind) (.string t.name) (.int .i64 t.n) (.slice a t.args.length c))
  have hal:t.args.length≤9223372036854775807:=by obtain⟨_,_,_,h⟩:=hA.form;exact h
  obtain⟨m0,hm0⟩:∃ m0,m0=(if t.kind=3∨t.kind=4∨t.kind=5 then 0 else 1):=⟨_,rfl⟩
  rw[← hm0] at hce
  have CE:Hid (cntT t=m0+cntL t.args∧cntT t≤t.size):=Lib.hid ⟨hce,hcs⟩
  have c0:=K0.out.c0
  have hq:((t.kind==1)=true∧m0=1)∨((t.kind==1)=false∧(t.kind==2)=true∧m0=1)∨((t.kind==1)=false∧(t.kind==2)=false∧m0=0):=by
   have hk:=((std_iff t).1 hs).1
   have h5:t.kind=1∨t.kind=2∨t.kind=3∨t.kind=4∨t.kind=5:=by
    rcases hk with h|h|h|h|h
    ·exact .inl h.1
    ·exact .inr (.inl h.1)
    ·exact .inr (.inr (.inl h.1))
    ·exact .inr (.inr (.inr (.inl h.1)))
    ·exact .inr (.inr (.inr (.inr h.1)))
   rw[hm0]
   rcases h5 with h|h|h|h|h<;>rw[h]<;>simp
  clear ih hA hn hs hce hcs hm0 hz
  rcases hq with ⟨q1,rfl⟩|⟨q1,q2,rfl⟩|⟨q1,q2,rfl⟩
  all_goals
   go_enter Tryz.func56,Tryz.ntmps56
   go_wp2
   go_loopw [3,4] (fun mv iv wr=>∃ i m:Nat,iv=.int .i64 i∧i≤t.args.length∧mv=.int .i64 m∧m+cntL (t.args.drop i)=cntT t∧B4 wr w.heap.size (.int .i64 t.kind) (.string t.name) (.int .i64 t.n) (.slice a t.args.length c)∧Below w.heap.size w wr) (fun _ iv _=>t.args.length - (intOf iv).toNat)
   case atStart=>first|exact⟨0,1,rfl,Nat.zero_le _,rfl,CE.out.1.symm,K0.out,B0.out⟩|exact⟨0,0,rfl,Nat.zero_le _,rfl,CE.out.1.symm,K0.out,B0.out⟩
   case round =>
    clear c0
    obtain⟨i,m,rfl,hil,rfl,hm,hK,hB⟩:=hrel
    have z0:(0:Int)≤(i:Int):=by omega
    have BH:=Lib.hid hB
    have KH:=Lib.hid hK
    have c3:=hK.c3
    have hmm:m≤100000:=by have:=CE.out.2;have:=HZS.out;omega
    by_cases hi:i<t.args.length
    ·have z1:(i:Int)<(t.args.length:Int):=by omega
     obtain⟨b,off,a',cap',rfl,hb,hf,hs⟩:=AH.out.at_ hi
     have hn:=HN.out
     have hbl:=hn b hb
     obtain⟨f0,f1,f2,f3⟩:=hf.keep (hB.block b hbl)
     have hme:=List.getElem_mem hi
     rw[List.drop_eq_getElem_cons hi,cntL] at hm
     have CH:=Lib.hid (IH.out _ hme S a' cap' wr (hs.keep fun b hS=>hB.block b (hn b hS)) (fun b hS=>Nat.lt_of_lt_of_le (hn b hS) hB.size) (HS.out.args _ hme) (by have h1:=size_arg _ hme;have h2:=t.size_eq;have h3:=HZS.out;omega))
     have HM:=Lib.hid hm
     have hxx:cntT t.args[i]≤100000:=by have:=CE.out.2;have:=HZS.out;omega
     clear hf hs hB hK hme hn hb hm hbl
     generalize t.args[i]=x at *
     go_wp2_with fail
     refine CH.out.mono ?_
     rintro e w4 ⟨rfl,B4'⟩
     have B5:=Lib.hid (BH.out.trans (B4'.mono BH.out.size))
     have K5:=Lib.hid (KH.out.low B4')
     clear B4'
     go_wp2
     go_roundw
     case rel=>exact⟨i+1,m+cntT x,by go_num,by omega,by go_num,by have:=HM.out;omega,K5.out,B5.out⟩
     case measure=>simp[intOf];omega
    ·obtain rfl:i=t.args.length:=by omega
     rw[List.drop_length,cntL] at hm
     have HM:=Lib.hid hm
     clear hB hK hm
     go_wp2
     go_ret
     exact⟨ret_int (by rw[← HM.out];rfl),BH.out⟩
theorem grL_le:∀ (ks:List Co) (n:Nat),grL n ks≤max n 2001:=by
 intro ks
 induction ks with
 | nil=>intro n;rw[grL];omega
 | cons c cs ih =>
  intro n
  rw[grL]
  split
  ·omega
  ·next h=>have:=ih (n*grC c);omega
theorem grC_le {c:Co}(hw:wtC 1 c≤100000):grC c≤100000:=by
 rw[grC_eq]
 have:=grL_le c.kids (gr0 c)
 have h0:gr0 c≤100000:=by
  unfold gr0
  split
  ·next h9 =>
   have:=cnt_size c.t
   rw[wtC_eq,if_neg (by omega),if_neg (by omega),if_pos h9] at hw
   omega
  ·omega
 omega
theorem wt_kid (q:Nat)(ks:List Co){a:Co}(h:a∈ks):wtC q a≤wtL q ks:=by
 induction ks with
 | nil=>cases h
 | cons c cs ih =>
  rw[wtL]
  rcases List.mem_cons.1 h with rfl|h
  ·omega
  ·have:=ih h;omega
set_option maxRecDepth 100000 in
set_option maxHeartbeats 3200000 in
theorem grows_any:∀ (c:Co) (S:Nat→Prop) (a:Option Addr) (n:Nat) (ka:Option Addr) (kn:Nat) (w:World),CoAt S w c a n ka kn→(∀ b,S b→b<w.heap.size)→WfC c→wtC 1 c≤100000 →
  Calls Tryz.prog 25 #[cv c a n ka kn] w (IntPost w (grC c)):=by
 intro c
 induction c using Co.ind with
 | h c ih =>
  intro S a n ka kn w hC hn hw hz
  have IH:=Lib.hid ih
  have HC:=Lib.hid hC
  have HN:=Lib.hid hn
  have HW:=Lib.hid hw
  have HZS:=Lib.hid hz
  have GE:=Lib.hid (grC_eq c)
  have hb0:=(Below.refl w.heap.size w).alloc (Nat.le_refl _) (.cells #[.int .i64 c.kind,.string c.name,.int .i64 c.n,.int .i64 c.t.kind,.string c.t.name,.int .i64 c.t.n,.slice a c.t.args.length n,.slice ka c.kids.length kn] 33)
  have B0:=Lib.hid hb0
  have K0:=Lib.hid (B8.new w (.int .i64 c.kind) (.string c.name) (.int .i64 c.n) (.int .i64 c.t.kind) (.string c.t.name) (.int .i64 c.t.n) (.slice a c.t.args.length n) (.slice ka c.kids.length kn))
  have hkl:c.kids.length≤9223372036854775807:=by obtain⟨_,_,_,h⟩:=hC.k.form;exact h
  have c0:=K0.out.c0
  have hq:(∃ W1,((c.kind==9)=false∧gr0 c=1∧W1=w.alloc (.cells #[.int .i64 c.kind,.string c.name,.int .i64 c.n,.int .i64 c.t.kind,.string c.t.name,.int .i64 c.t.n,.slice a c.t.args.length n,.slice ka c.kids.length kn] 33))∨((c.kind==9)=true∧gr0 c=max 1 (cntT c.t)∧cntT c.t≤100000∧Std c.t∧c.t.size≤100000∧W1=w)):=by
   by_cases h9:c.kind=9
   ·refine⟨w,.inr ⟨by rw[h9];rfl,if_pos h9,?_,(hw.ok (.inr h9)).1,?_,rfl⟩⟩
    ·have:=cnt_size c.t
     rw[wtC_eq,if_neg (by omega),if_neg (by omega),if_pos h9] at hz
     omega
    ·rw[wtC_eq,if_neg (by omega),if_neg (by omega),if_pos h9] at hz
     omega
   ·exact⟨_,.inl ⟨by rw[beq_eq_false_iff_ne];exact h9,if_neg h9,rfl⟩⟩
  obtain⟨_,hq⟩:=hq
  have HCT:=Lib.hid (hC.t.keep fun b hb=>hb0.block b (hn b hb))
  have HNT:Hid (∀ b,S b→b<(w.alloc (.cells #[.int .i64 c.kind,.string c.name,.int .i64 c.n,.int .i64 c.t.kind,.string c.t.name,.int .i64 c.t.n,.slice a c.t.args.length n,.slice ka c.kids.length kn] 33)).heap.size):=Lib.hid fun b hb=>Nat.lt_of_lt_of_le (hn b hb) hb0.size
  clear ih hC hn hw hz hb0
  unfold cv
  rcases hq with ⟨q9,hg0,_⟩|⟨q9,hg0,hct,hst,hts,_⟩
  ·have hg0:=Lib.hid hg0
   go_enter Tryz.func25,Tryz.ntmps25
   go_wp2
   go_loopw [3,4] (fun mv iv wr=>∃ i m:Nat,iv=.int .i64 i∧i≤c.kids.length∧mv=.int .i64 m∧1≤m∧m≤100000∧grL m (c.kids.drop i)=grC c∧B8 wr w.heap.size (.int .i64 c.kind) (.string c.name) (.int .i64 c.n) (.int .i64 c.t.kind) (.string c.t.name) (.int .i64 c.t.n) (.slice a c.t.args.length n) (.slice ka c.kids.length kn)∧Below w.heap.size w wr) (fun _ iv _=>c.kids.length - (intOf iv).toNat)
   case atStart=>exact⟨0,1,rfl,Nat.zero_le _,(by first|rfl|(congr 1;omega)),by omega,by omega,by rw[GE.out,hg0.out];rfl,K0.out,B0.out⟩
   case round =>
    obtain⟨i,m,rfl,hil,rfl,hm1,hm2,hm,hK,hB⟩:=hrel
    have z0:(0:Int)≤(i:Int):=by omega
    have BH:=Lib.hid hB
    have KH:=Lib.hid hK
    have c7:=hK.c7
    by_cases hi:i<c.kids.length
    ·have z1:(i:Int)<(c.kids.length:Int):=by omega
     obtain⟨b,off,a1,n1,a2,n2,rfl,hb,hf,hs,hk⟩:=HC.out.k.at_ hi
     have hn:=HN.out
     obtain⟨f0,f1,f2,f3,f4,f5,f6,f7⟩:=hf.keep (hB.block b (hn b hb))
     have hme:=List.getElem_mem hi
     have hwk:wtC 1 c.kids[i]≤100000:=by
      have h1:=wt_kid 1 _ hme
      have h2:=HZS.out
      have h3:=HW.out.k0 hme
      rw[wtC_eq,if_neg h3.1,if_neg h3.2] at h2
      omega
     rw[List.drop_eq_getElem_cons hi,grL] at hm
     have CH:=Lib.hid (IH.out _ hme S a1 n1 a2 n2 wr ⟨hs.keep fun b hS=>hB.block b (hn b hS),hk.keep fun b hS=>hB.block b (hn b hS)⟩ (fun b hS=>Nat.lt_of_lt_of_le (hn b hS) hB.size) (HW.out.kids _ hme) hwk)
     have hgx:=grC_le hwk
     have hgp:=grC_pos c.kids[i]
     have HM:=Lib.hid hm
     clear hf hs hk hB hK hme hn hb hm hwk
     unfold cv at CH
     generalize c.kids[i]=x at *
     generalize hgv:grC x=g at *
     have hmul:=Nat.mul_le_mul hm2 hgx
     have hmul1:=Nat.mul_le_mul hm1 hgp
     have hp:(m:Int)*(g:Int)=((m*g:Nat):Int):=(Int.natCast_mul m g).symm
     obtain⟨p,hpe⟩:∃ p,p=m*g:=⟨_,rfl⟩
     rw[← hpe] at hp hmul hmul1
     have HM2:Hid ((if 2000<p then 2001 else grL p (c.kids.drop (i+1)))=grC c):=Lib.hid (by rw[hpe];exact HM.out)
     have HV:=Lib.hid hgv
     clear HM hpe hgv
     by_cases h2:2000<p
     ·have hd2:decide ((2000:Int)<(p:Int))=true:=by simp;omega
      go_wp2_with fail
      refine CH.out.mono ?_
      rintro e w4 ⟨rfl,B4'⟩
      have B5:=Lib.hid (BH.out.trans (B4'.mono BH.out.size))
      clear B4'
      go_wp2
      go_ret
      exact⟨ret_int (by have:=HM2.out;rw[if_pos h2] at this;rw[← this];rfl),B5.out⟩
     ·have hd2:decide ((2000:Int)<(p:Int))=false:=by simp;omega
      go_wp2_with fail
      refine CH.out.mono ?_
      rintro e w4 ⟨rfl,B4'⟩
      have B5:=Lib.hid (BH.out.trans (B4'.mono BH.out.size))
      have K5:=Lib.hid (KH.out.low B4')
      clear B4'
      go_wp2
      go_roundw
      case rel=>exact⟨i+1,p,by go_num,by omega,rfl,by omega,by omega,by have:=HM2.out;rw[if_neg h2] at this;exact this,K5.out,B5.out⟩
      case measure=>simp[intOf];omega
    ·obtain rfl:i=c.kids.length:=by omega
     rw[List.drop_length,grL] at hm
     have HM:=Lib.hid hm
     clear hB hK hm
     go_wp2
     go_ret
     exact⟨ret_int (by rw[← HM.out]),BH.out⟩
  ·have hg0:=Lib.hid hg0
   have c3:=K0.out.c3
   have c4:=K0.out.c4
   have c5:=K0.out.c5
   have c6:=K0.out.c6
   have CT:=Lib.hid (count_any c.t S a n _ HCT.out HNT.out hst hts)
   clear hst
   go_enter Tryz.func25,Tryz.ntmps25
   go_wp2_with fail
   refine CT.out.mono ?_
   rintro e w1 ⟨rfl,hb1⟩
   have B1:=Lib.hid (B0.out.trans (hb1.mono B0.out.size))
   have K1:=Lib.hid (K0.out.low hb1)
   clear hb1 c0 c3 c4 c5 c6
   have em:(if (1:Int)<(cntT c.t:Int) then (cntT c.t:Int) else (1:Int))=((max 1 (cntT c.t):Nat):Int):=by split<;>omega
   go_wp2
   go_loopw [3,4] (fun mv iv wr=>∃ i m:Nat,iv=.int .i64 i∧i≤c.kids.length∧mv=.int .i64 m∧1≤m∧m≤100000∧grL m (c.kids.drop i)=grC c∧B8 wr w.heap.size (.int .i64 c.kind) (.string c.name) (.int .i64 c.n) (.int .i64 c.t.kind) (.string c.t.name) (.int .i64 c.t.n) (.slice a c.t.args.length n) (.slice ka c.kids.length kn)∧Below w.heap.size w wr) (fun _ iv _=>c.kids.length - (intOf iv).toNat)
   case atStart=>exact⟨0,max 1 (cntT c.t),rfl,Nat.zero_le _,(by first|rfl|(congr 1;omega)),by omega,by omega,by rw[GE.out,hg0.out];rfl,K1.out,B1.out⟩
   case round =>
    obtain⟨i,m,rfl,hil,rfl,hm1,hm2,hm,hK,hB⟩:=hrel
    have z0:(0:Int)≤(i:Int):=by omega
    have BH:=Lib.hid hB
    have KH:=Lib.hid hK
    have c7:=hK.c7
    by_cases hi:i<c.kids.length
    ·have z1:(i:Int)<(c.kids.length:Int):=by omega
     obtain⟨b,off,a1,n1,a2,n2,rfl,hb,hf,hs,hk⟩:=HC.out.k.at_ hi
     have hn:=HN.out
     obtain⟨f0,f1,f2,f3,f4,f5,f6,f7⟩:=hf.keep (hB.block b (hn b hb))
     have hme:=List.getElem_mem hi
     have hwk:wtC 1 c.kids[i]≤100000:=by
      have h1:=wt_kid 1 _ hme
      have h2:=HZS.out
      have h3:=HW.out.k0 hme
      rw[wtC_eq,if_neg h3.1,if_neg h3.2] at h2
      omega
     rw[List.drop_eq_getElem_cons hi,grL] at hm
     have CH:=Lib.hid (IH.out _ hme S a1 n1 a2 n2 wr ⟨hs.keep fun b hS=>hB.block b (hn b hS),hk.keep fun b hS=>hB.block b (hn b hS)⟩ (fun b hS=>Nat.lt_of_lt_of_le (hn b hS) hB.size) (HW.out.kids _ hme) hwk)
     have hgx:=grC_le hwk
     have hgp:=grC_pos c.kids[i]
     have HM:=Lib.hid hm
     clear hf hs hk hB hK hme hn hb hm hwk
     unfold cv at CH
     generalize c.kids[i]=x at *
     generalize hgv:grC x=g at *
     have hmul:=Nat.mul_le_mul hm2 hgx
     have hmul1:=Nat.mul_le_mul hm1 hgp
     have hp:(m:Int)*(g:Int)=((m*g:Nat):Int):=(Int.natCast_mul m g).symm
     obtain⟨p,hpe⟩:∃ p,p=m*g:=⟨_,rfl⟩
     rw[← hpe] at hp hmul hmul1
     have HM2:Hid ((if 2000<p then 2001 else grL p (c.kids.drop (i+1)))=grC c):=Lib.hid (by rw[hpe];exact HM.out)
     have HV:=Lib.hid hgv
     clear HM hpe hgv
     by_cases h2:2000<p
     ·have hd2:decide ((2000:Int)<(p:Int))=true:=by simp;omega
      go_wp2_with fail
      refine CH.out.mono ?_
      rintro e w4 ⟨rfl,B4'⟩
      have B5:=Lib.hid (BH.out.trans (B4'.mono BH.out.size))
      clear B4'
      go_wp2
      go_ret
      exact⟨ret_int (by have:=HM2.out;rw[if_pos h2] at this;rw[← this];rfl),B5.out⟩
     ·have hd2:decide ((2000:Int)<(p:Int))=false:=by simp;omega
      go_wp2_with fail
      refine CH.out.mono ?_
      rintro e w4 ⟨rfl,B4'⟩
      have B5:=Lib.hid (BH.out.trans (B4'.mono BH.out.size))
      have K5:=Lib.hid (KH.out.low B4')
      clear B4'
      go_wp2
      go_roundw
      case rel=>exact⟨i+1,p,by go_num,by omega,rfl,by omega,by omega,by have:=HM2.out;rw[if_neg h2] at this;exact this,K5.out,B5.out⟩
      case measure=>simp[intOf];omega
    ·obtain rfl:i=c.kids.length:=by omega
     rw[List.drop_length,grL] at hm
     have HM:=Lib.hid hm
     clear hB hK hm
     go_wp2
     go_ret
     exact⟨ret_int (by rw[← HM.out]),BH.out⟩
set_option maxHeartbeats 800000 in
theorem calm_any (c:Co)(S:Nat→Prop)(a:Option Addr)(n:Nat)(ka:Option Addr)(kn:Nat)(w:World)(hC:CoAt S w c a n ka kn)(hn:∀ b,S b→b<w.heap.size)(hw:WfC c)(hz:wtC 1 c≤100000) :
  Calls Tryz.prog 11 #[cv c a n ka kn] w fun e w'=>e=.returned (.bool (decide (grC c≤2000)))∧Below w.heap.size w w':=by
 have hb0:=(Below.refl w.heap.size w).alloc (Nat.le_refl _) (.cells #[.int .i64 c.kind,.string c.name,.int .i64 c.n,.int .i64 c.t.kind,.string c.t.name,.int .i64 c.t.n,.slice a c.t.args.length n,.slice ka c.kids.length kn] 33)
 have C:=Lib.hid (grows_any c S a n ka kn _ (hC.keep fun b hb=>hb0.block b (hn b hb)) (fun b hb=>Nat.lt_of_lt_of_le (hn b hb) hb0.size) hw hz)
 have K0:=B8.new w (.int .i64 c.kind) (.string c.name) (.int .i64 c.n) (.int .i64 c.t.kind) (.string c.t.name) (.int .i64 c.t.n) (.slice a c.t.args.length n) (.slice ka c.kids.length kn)
 have c0:=K0.c0
 have c1:=K0.c1
 have c2:=K0.c2
 have c3:=K0.c3
 have c4:=K0.c4
 have c5:=K0.c5
 have c6:=K0.c6
 have c7:=K0.c7
 have hgl:=grC_le hz
 have B0:=Lib.hid hb0
 clear hb0 hC hn hw hz K0
 unfold cv at *
 go_enter Tryz.func11,Tryz.ntmps11
 go_wp2_with fail
 refine C.out.mono ?_
 rintro e w1 ⟨rfl,hb1⟩
 have B1:=Lib.hid (B0.out.trans (hb1.mono B0.out.size))
 clear hb1
 go_wp2
 go_ret
 exact⟨ret_bool (by rw[decide_eq_decide];omega),B1.out⟩
end Go.Proofs.YtkihnodkhnahiaaGreatDoor.Tp

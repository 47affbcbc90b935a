/-
  An unknown and a type: what is told is that, if it stands not in it and there is no for all; what is one with itself tells nothing: for every text of at most 120 bytes that is a type, and every number from 0 to 99999; at anything else the law tells what its examples tell.
-/
import Derived.Test.YtjecnionbjlncaaGreatDoorP50
import Derived.Test.YtjecnionbjlncaaGreatDoorCards
import Derived.Test.YtjecnionbjlncaaGreatDoorTie
import Derived.SevenTiedAt

namespace Go.Proofs.YtjecnionbjlncaaGreatDoor.Tp
open Go.RowKit Go.Sort
theorem jc_.form {w:World}{res:Except Nat Kn}{en:Ending}{w':World}(h:jc_ w res en w'):∃ a c R,∃ er:Nat,en=.returned (.tuple #[.slice a (R:Kn).length c,.int .i64 er])∧jm_ w' (.slice a R.length c) R∧Below w.heap.size w w'∧(res=.ok R∧er=0∨res=.error er∧R=[]):=by
 cases res with
 | error er =>
  obtain⟨rfl,hb⟩:=h
  exact⟨none,0,[],er,rfl,jm_.nil w',hb,.inr ⟨rfl,rfl⟩⟩
 | ok R =>
  obtain⟨v,ps,T',rfl,hK,hT',hb⟩:=h
  have hks:=hK.ks hT'
  obtain⟨a,c,rfl⟩:=aB_ hK.own
  exact⟨a,c,R,0,rfl,hks,hb,.inl ⟨rfl,rfl⟩⟩
theorem jm_.one {w:World}{a:OA_}{c:Nat}{m:Int}{t:Ty}{l:Nat}(h:jm_ w (.slice a l c) [(m,t)]):∃ b off xa xc,a=some ⟨b,off,none⟩∧w.cell? ⟨b,off,none⟩=some (.int .i64 m)∧w.cell? ⟨b,off+1,none⟩=some (.int .i64 t.kind)∧w.cell? ⟨b,off+2,none⟩=some (.string t.name)∧w.cell? ⟨b,off+3,none⟩=some (.int .i64 t.n)∧w.cell? ⟨b,off+4,none⟩=some (.slice xa t.args.length xc)∧AtW t xa xc w:=by
 obtain⟨a',cap,e,hc⟩:=h
 injection e with e1 e2 e3
 subst e1
 rcases hc with hc|⟨b,off,rfl,hb,hc⟩
 ·cases hc
 ·obtain⟨xa,xc,h1,h2⟩:=hc 0 (by simp)
  exact⟨b,off,xa,xc,rfl,h1 0 _ (by omega) rfl,h1 1 _ (by omega) rfl,h1 2 _ (by omega) rfl,h1 3 _ (by omega) rfl,h1 4 _ (by omega) rfl,h2⟩
theorem sh_ {m:Int}(h0:0≤m)(h1:m<1000000000000000000):SmT (mt m):=by
 have hs:Std (mt m):=(a4_ _).2 ⟨.inr (.inl ⟨rfl,rfl,rfl,h0,h1⟩),fun a ha=>by cases ha⟩
 refine⟨⟨(bK_ _).2 ⟨.inr (.inl ⟨rfl,rfl,h0,h1⟩),fun a ha=>by cases ha⟩,(b9_ _).2 ⟨⟨fun e=>absurd (show (2:Int)=5 from e) (by decide),by show (0:Nat)≤64;omega⟩,fun a ha=>by cases ha⟩⟩,decide_eq_true ⟨by show (1:Nat)≤_;omega,by rw[show Tp.aj_ (mt m)=[] from rfl];simp⟩⟩
set_option maxRecDepth 100000 in
set_option maxHeartbeats 6400000 in
theorem unifyOne_walk (a0:ByteArray)(z0:a0.size≤maxLen)(a1:Int)(_z1:(Lit.int .i64 a1).wf=true)(w:World)(hT:Tab w):Calls Tryz.prog 6 #[.string a0,.int .i64 a1] w fun e w'=>e=.returned (.bool true)∧Below w.heap.size w w':=by
 have HT:=hid hT
 have Z0:=hid z0
 have zs:a0.size≤9223372036854775807:=z0
 clear hT z0 _z1
 go_enter Tryz.func6,Tryz.ntmps6
 have C:=hid (rL_ _ HT.out)
 go_wp2_with fail
 refine C.out.mono ?_
 rintro e w1 ⟨rfl,hB⟩
 clear C
 have B_1:=hid (hB)
 clear hB
 have C:=hid (pw_ w1 a0 Z0.out)
 go_wp2_with fail
 refine C.out.mono ?_
 rintro e w2 ⟨t,ta,tc,er,rfl,hB,k4,hA,hc,hsz⟩
 have hX:ry_ w2.heap.size w2.heap.size t ta tc _:=⟨k4,hA.mono fun _ h=>h.2,by simp,by simp⟩
 clear C hsz k4 hA
 have B_2:=hid (B_1.out.trans (hB.mono B_1.out.size))
 have RT_2:=hid hX
 clear hB hX B_1
 have HC:=hid hc
 have hcase:((er:Int) != 0)=true∨(((er:Int) != 0)=false∧decide ((120:Int)<(a0.size:Int))=true)∨(((er:Int) != 0)=false∧decide ((120:Int)<(a0.size:Int))=false∧decide (a1<(0:Int))=true)∨(((er:Int) != 0)=false∧decide ((120:Int)<(a0.size:Int))=false∧decide (a1<(0:Int))=false∧decide ((99999:Int)<a1)=true) ∨
   (((er:Int) != 0)=false∧decide ((120:Int)<(a0.size:Int))=false∧decide (a1<(0:Int))=false∧decide ((99999:Int)<a1)=false∧aZ_ a0.data.toList=.ok t∧0≤a1∧a1≤99999):=by
  rcases HC.out with ⟨p1,rfl⟩|⟨_,h1⟩
  ·by_cases q1:120<a0.size
   ·exact .inr (.inl ⟨rfl,decide_eq_true (by omega)⟩)
   ·by_cases q2:a1<0
    ·exact .inr (.inr (.inl ⟨rfl,decide_eq_false (by omega),decide_eq_true q2⟩))
    ·by_cases q3:99999<a1
     ·exact .inr (.inr (.inr (.inl ⟨rfl,decide_eq_false (by omega),decide_eq_false q2,decide_eq_true q3⟩)))
     ·exact .inr (.inr (.inr (.inr ⟨rfl,decide_eq_false (by omega),decide_eq_false q2,decide_eq_false q3,p1,by omega,by omega⟩)))
  ·exact .inl (by rw[bne_iff_ne];omega)
 clear hc HC
 rcases hcase with e0|⟨e0,e1⟩|⟨e0,e1,e2⟩|⟨e0,e1,e2,e3⟩|⟨e0,e1,e2,e3,hp,m0,m1⟩
 ·go_wp2
  go_ret
  exact⟨rfl,B_2.out⟩
 ·go_wp2
  go_ret
  exact⟨rfl,B_2.out⟩
 ·go_wp2
  go_ret
  exact⟨rfl,B_2.out⟩
 ·go_wp2
  go_ret
  exact⟨rfl,B_2.out⟩
 ·have MK:=hid (dw_ hp)
  have SMT:=hid (m4_ MK.out.1 MK.out.2.2.2)
  have SMM:=hid (sh_ m0 (by omega:a1<1000000000000000000))
  have ONE:=hid (one_res (m:=a1) MK.out.1)
  have SELF:=hid (sZ_ t)
  have M0:=hid m0
  clear hp
  have hsz:(w2.alloc (.cells #[.int .i64 t.kind,.string t.name,.int .i64 t.n,.slice ta t.args.length tc] 37)).heap.size=w2.heap.size+1:=by first|rfl|simp
  have hB:=(Below.refl (w2.alloc (.cells #[.int .i64 t.kind,.string t.name,.int .i64 t.n,.slice ta t.args.length tc] 37)).heap.size (w2.alloc (.cells #[.int .i64 t.kind,.string t.name,.int .i64 t.n,.slice ta t.args.length tc] 37))).alloc (aA_ _) (.cells #[.int .i64 2,.string ⟨#[]⟩,.int .i64 a1,.slice none 0 0] 37)
  have hX:ry_ ((w2.alloc (.cells #[.int .i64 t.kind,.string t.name,.int .i64 t.n,.slice ta t.args.length tc] 37)).alloc (.cells #[.int .i64 2,.string ⟨#[]⟩,.int .i64 a1,.slice none 0 0] 37)).heap.size (w2.heap.size+1) (mt a1) none 0 ((w2.alloc (.cells #[.int .i64 t.kind,.string t.name,.int .i64 t.n,.slice ta t.args.length tc] 37)).alloc (.cells #[.int .i64 2,.string ⟨#[]⟩,.int .i64 a1,.slice none 0 0] 37)):=⟨by have h:=B4.new (w2.alloc (.cells #[.int .i64 t.kind,.string t.name,.int .i64 t.n,.slice ta t.args.length tc] 37)) (.int .i64 2) (.string ⟨#[]⟩) (.int .i64 a1) (.slice none 0 0);rw[hsz] at h;exact h,.nil _ _,by simp,aA_ _⟩
  have RT_3:=hid (RT_2.out.low hB)
  have B_3:=hid (B_2.out.trans (hB.mono B_2.out.size))
  have RU_3:=hid hX
  clear hB hX RT_2 B_2
  clear hsz
  obtain⟨k0,k1,k2,k3⟩:=RU_3.out.k.c03
  obtain⟨l0,l1,l2,l3⟩:=RT_3.out.k.c03
  have hsz:((w2.alloc (.cells #[.int .i64 t.kind,.string t.name,.int .i64 t.n,.slice ta t.args.length tc] 37)).alloc (.cells #[.int .i64 2,.string ⟨#[]⟩,.int .i64 a1,.slice none 0 0] 37)).heap.size=w2.heap.size+1+1:=by first|rfl|simp
  have C:=hid (is_ (ef_.one (S:=fun b=>b=((w2.alloc (.cells #[.int .i64 t.kind,.string t.name,.int .i64 t.n,.slice ta t.args.length tc] 37)).alloc (.cells #[.int .i64 2,.string ⟨#[]⟩,.int .i64 a1,.slice none 0 0] 37)).heap.size) (T:=Lt ((w2.alloc (.cells #[.int .i64 t.kind,.string t.name,.int .i64 t.n,.slice ta t.args.length tc] 37)).alloc (.cells #[.int .i64 2,.string ⟨#[]⟩,.int .i64 a1,.slice none 0 0] 37)).heap.size) (l:=(mt a1)) (r:=t) RU_3.out.at_ RT_3.out.at_ (fun _ h=>h) rfl) (fun b h=>by subst h;simp) (fun b h=>Nat.lt_trans h (by simp)) (fun e he=>by rw[List.mem_singleton.1 he];exact⟨SMM.out,SMT.out⟩) (by simp) (ah_ HT.out ((B_3.out.trans ((av_ _ _).mono B_3.out.size)))) ONE.out (by decide))
  rw[hsz] at C
  clear hsz
  go_wp2_with fail
  refine C.out.mono ?_
  rintro e w4 hun
  obtain⟨ka,kc,kR,f,rfl,hK,hB0,hf⟩:=jc_.form hun
  have hB:=((Below.refl ((w2.alloc (.cells #[.int .i64 t.kind,.string t.name,.int .i64 t.n,.slice ta t.args.length tc] 37)).alloc (.cells #[.int .i64 2,.string ⟨#[]⟩,.int .i64 a1,.slice none 0 0] 37)).heap.size ((w2.alloc (.cells #[.int .i64 t.kind,.string t.name,.int .i64 t.n,.slice ta t.args.length tc] 37)).alloc (.cells #[.int .i64 2,.string ⟨#[]⟩,.int .i64 a1,.slice none 0 0] 37))).alloc (aA_ _) (.cells #[.int .i64 (mt a1).kind,.string (mt a1).name,.int .i64 (mt a1).n,.slice none (mt a1).args.length 0,.int .i64 t.kind,.string t.name,.int .i64 t.n,.slice ta t.args.length tc] 48)).trans (hB0.mono (by simp))
  clear C hun hB0 k0 k1 k2 k3 l0 l1 l2 l3
  have RT_4:=hid (RT_3.out.low hB)
  have RU_4:=hid (RU_3.out.low hB)
  have B_4:=hid (B_3.out.trans (hB.mono B_3.out.size))
  have RK_4:=hid hK
  clear hB hK RT_3 RU_3 B_3
  have HF:=hid hf
  clear hf e0 e1 e2 e3
  obtain⟨k0,k1,k2,k3⟩:=RT_4.out.k.c03
  have hsz:w4.heap.size=w4.heap.size:=by first|rfl|simp
  have C:=hid (is_ (ef_.one (S:=fun b=>b=w4.heap.size) (T:=Lt w4.heap.size) (l:=t) (r:=t) RT_4.out.at_ RT_4.out.at_ (fun _ h=>h) rfl) (fun b h=>by subst h;simp) (fun b h=>Nat.lt_trans h (by simp)) (fun e he=>by rw[List.mem_singleton.1 he];exact⟨SMT.out,SMT.out⟩) (by simp) (ah_ HT.out ((B_4.out.trans ((av_ _ _).mono B_4.out.size)))) SELF.out (by decide))
  rw[hsz] at C
  clear hsz
  go_wp2_with fail
  refine C.out.mono ?_
  rintro e w5 hun
  obtain⟨na,nc,nR,gg,rfl,hK,hB0,hg⟩:=jc_.form hun
  have hB:=(av_ w4 (.cells #[.int .i64 t.kind,.string t.name,.int .i64 t.n,.slice ta t.args.length tc,.int .i64 t.kind,.string t.name,.int .i64 t.n,.slice ta t.args.length tc] 48)).trans (hB0.mono (by simp))
  clear C hun hB0 k0 k1 k2 k3
  have RT_5:=hid (RT_4.out.low hB)
  have RU_5:=hid (RU_4.out.low hB)
  have RK_5:=hid (RK_4.out.low hB)
  have B_5:=hid (B_4.out.trans (hB.mono B_4.out.size))
  have RN_5:=hid hK
  clear hB hK RT_4 RU_4 RK_4 B_4
  obtain⟨rfl,rfl⟩:nR=[]∧gg=0:=by
   rcases hg with ⟨h,h2⟩|⟨h,_⟩
   ·injection h with h;exact⟨h.symm,h2⟩
   ·cases h
  clear hg
  clear RN_5
  obtain⟨k0,k1,k2,k3⟩:=RT_5.out.k.c03
  obtain⟨l0,l1,l2,l3⟩:=RU_5.out.k.c03
  have C:=hid (r4_ RT_5.out.at_ RU_5.out.at_ SMT.out.small SMM.out.small (ah_ HT.out B_5.out))
  go_wp2_with fail
  refine C.out.mono ?_
  rintro e w6 ⟨rfl,hB⟩
  clear C k0 k1 k2 k3 l0 l1 l2 l3
  have RT_6:=hid (RT_5.out.low hB)
  have RU_6:=hid (RU_5.out.low hB)
  have RK_6:=hid (RK_5.out.low hB)
  have B_6:=hid (B_5.out.trans (hB.mono B_5.out.size))
  clear hB RT_5 RU_5 RK_5 B_5
  by_cases hs:aJ_ t=aJ_ (mt a1)
  ·rw[decide_eq_true hs]
   obtain⟨rfl,rfl⟩:kR=[]∧f=0:=by
    have ho:iL_ a1 t=.ok []:=if_pos hs
    rcases HF.out with ⟨h,h2⟩|⟨h,_⟩
    ·rw[ho] at h;injection h with h;exact⟨h.symm,h2⟩
    ·rw[ho] at h;cases h
   clear hs
   go_wp2
   go_ret
   exact⟨rfl,B_6.out⟩
  ·rw[decide_eq_false hs]
   have HS:=hid hs
   clear hs
   obtain⟨k0,k1,k2,k3⟩:=RT_6.out.k.c03
   have C:=hid (m5_ RT_6.out.at_ SMT.out.small)
   go_wp2_with fail
   refine C.out.mono ?_
   rintro e w7 ⟨mv,rfl,hrow,hml,hB⟩
   clear C k0 k1 k2 k3
   have ROW:=hid hrow
   have HML:Hid ((az_ t).length≤4000):=hid (co_ hml MK.out.2.2.2)
   clear hrow hml
   obtain⟨ma,mc,rfl⟩:=aB_ ROW.out
   have RT_7:=hid (RT_6.out.low hB)
   have RU_7:=hid (RU_6.out.low hB)
   have RK_7:=hid (RK_6.out.low hB)
   have B_7:=hid (B_6.out.trans (hB.mono B_6.out.size))
   clear hB RT_6 RU_6 RK_6 B_6
   go_wp2
   go_loopw [14,16] (fun bv iv wr=>∃ i:Nat,iv=.int .i64 i∧i≤(az_ t).length∧bv=.bool (decide (a1∈(az_ t).take i))∧wr=w7) (fun _ iv _=>(az_ t).length - (intOf iv).toNat)
   case atStart=>exact⟨0,rfl,Nat.zero_le _,by simp,rfl⟩
   case round =>
    obtain⟨i,rfl,hil,rfl,rfl⟩:=hrel
    have i0:(0:Int)≤(i:Int):=by omega
    by_cases hi:i<(az_ t).length
    ·have i1:(i:Int)<((az_ t).length:Int):=by omega
     have i2:(i:Int)<4000:=by have:=HML.out;omega
     obtain⟨g,rfl⟩:∃ g,ma=some ⟨g,0,none⟩:=by
      rcases ROW.out.2 with ⟨_,h0⟩|⟨g,cap,cur,h0,_⟩
      ·omega
      ·injection h0 with h0;exact⟨g,h0⟩
     have rm:wr.cell? ⟨g,i,none⟩=some (.int .i64 (az_ t)[i]):=by
      have h1:=(ROW.out.cells (g:=g) rfl i (.int .i64 (az_ t)[i]) (by simp[hi]))
      rw[show (⟨g,0,none⟩:Addr).add i=⟨g,i,none⟩ from by unfold Addr.add;split<;>simp_all] at h1
      exact h1
     have ST:Hid (decide (a1∈(az_ t).take (i+1))=(decide (a1∈(az_ t).take i) || decide ((az_ t)[i]=a1))):=hid (by
      have hiff:a1∈(az_ t).take (i+1)↔a1∈(az_ t).take i∨a1=(az_ t)[i]:=by rw[List.take_succ_eq_append_getElem hi,List.mem_append,List.mem_singleton]
      by_cases h1:a1∈(az_ t).take i
      ·rw[decide_eq_true (hiff.2 (.inl h1)),decide_eq_true h1];rfl
      ·by_cases h2:(az_ t)[i]=a1
       ·rw[decide_eq_true (hiff.2 (.inr h2.symm)),decide_eq_true h2,Bool.or_true]
       ·rw[decide_eq_false h1,decide_eq_false h2,decide_eq_false fun h=>(hiff.1 h).elim h1 fun e=>h2 e.symm];rfl)
     generalize (az_ t)[i]=x at *
     by_cases hb:a1∈(az_ t).take i
     ·rw[decide_eq_true hb] at *
      clear hb
      go_wp2
      go_roundw
      case measure=>simp[intOf];omega
      case rel=>exact⟨i+1,by go_num,by omega,by rw[ST.out];simp,by trivial⟩
     ·rw[decide_eq_false hb] at *
      clear hb
      go_wp2
      go_roundw
      case measure=>simp[intOf];omega
      case rel=>exact⟨i+1,by go_num,by omega,by rw[ST.out];first|rfl|simp,by trivial⟩
    ·obtain rfl:i=(az_ t).length:=by omega
     rw[List.take_length]
     clear hi i0 hil
     obtain⟨k0,k1,k2,k3⟩:=RT_7.out.k.c03
     have C:=hid (poly_h RT_7.out.at_ SMT.out.small)
     go_wp2_with fail
     refine C.out.mono ?_
     rintro e w8 ⟨rfl,hB⟩
     clear C k0 k1 k2 k3
     have RT_8:=hid (RT_7.out.low hB)
     have RU_8:=hid (RU_7.out.low hB)
     have RK_8:=hid (RK_7.out.low hB)
     have B_8:=hid (B_7.out.trans (hB.mono B_7.out.size))
     clear hB RT_7 RU_7 RK_7 B_7
     have HOR:Hid (iL_ a1 t=if a1∈az_ t∧t.kind≠2 then .error 41 else if cr_ t then .error 42 else if t.kind=2 then .ok [(if a1<t.n then t.n else a1,mt (if a1<t.n then a1 else t.n))] else .ok [(a1,t)]):=hid (if_neg HS.out)
     generalize hin:decide (a1∈az_ t)=bin at *
     generalize hpo:cr_ t=bpo at *
     have HIN:=hid hin
     have HPO:=hid hpo
     clear hin hpo
     obtain⟨k0,k1,k2,k3⟩:=RT_8.out.k.c03
     have hcase2:(bin=true∧(t.kind != 2)=true∧f=41∧kR=[])∨((bin=false∨bin=true∧(t.kind != 2)=false)∧bpo=true∧f=42)∨((bin=false∨bin=true∧(t.kind != 2)=false)∧bpo=false∧f=0∧(t.kind==2)=true∧kR=[(if a1<t.n then t.n else a1,mt (if a1<t.n then a1 else t.n))]) ∨
       (bin=false∧bpo=false∧f=0∧(t.kind==2)=false∧kR=[(a1,t)]):=by
      have hres:=HF.out
      rw[HOR.out] at hres
      by_cases h2:t.kind=2
      ·rw[if_neg (fun h=>h.2 h2)] at hres
       have hb:bin=false∨bin=true∧(t.kind != 2)=false:=by
        cases bin
        ·exact .inl rfl
        ·exact .inr ⟨rfl,by simp[h2]⟩
       cases bpo with
       | true =>
        rw[if_pos rfl] at hres
        rcases hres with ⟨h,_⟩|⟨h,_⟩
        ·cases h
        ·injection h with h;exact .inr (.inl ⟨hb,rfl,h.symm⟩)
       | false =>
        rw[if_neg (by decide),if_pos h2] at hres
        rcases hres with ⟨h,h0⟩|⟨h,_⟩
        ·injection h with h;exact .inr (.inr (.inl ⟨hb,rfl,h0,by simp[h2],h.symm⟩))
        ·cases h
      ·by_cases hm:a1∈az_ t
       ·rw[if_pos ⟨hm,h2⟩] at hres
        rcases hres with ⟨h,_⟩|⟨h,h0⟩
        ·cases h
        ·injection h with h;exact .inl ⟨by rw[← HIN.out];exact decide_eq_true hm,by simp[h2],h.symm,h0⟩
       ·rw[if_neg (fun h=>hm h.1)] at hres
        have hb:bin=false:=by rw[← HIN.out];exact decide_eq_false hm
        cases bpo with
        | true =>
         rw[if_pos rfl] at hres
         rcases hres with ⟨h,_⟩|⟨h,_⟩
         ·cases h
         ·injection h with h;exact .inr (.inl ⟨.inl hb,rfl,h.symm⟩)
        | false =>
         rw[if_neg (by decide),if_neg h2] at hres
         rcases hres with ⟨h,h0⟩|⟨h,_⟩
         ·injection h with h;exact .inr (.inr (.inr ⟨hb,rfl,h0,by simp[h2],h.symm⟩))
         ·cases h
     rcases hcase2 with ⟨rfl,q1,rfl,rfl⟩|⟨hb,rfl,rfl⟩|⟨hb,rfl,rfl,q2,rfl⟩|⟨rfl,rfl,rfl,q2,rfl⟩
     ·go_wp2
      go_ret
      exact⟨rfl,B_8.out⟩
     ·rcases hb with rfl|⟨rfl,q1⟩
      all_goals
       go_wp2
       go_ret
       exact⟨rfl,B_8.out⟩
     ·obtain⟨b,off,xa,xc,rfl,r0,r1,r2,r3,r4,_⟩:=jm_.one RK_8.out
      have e5:(mt (if a1<t.n then a1 else t.n)).n=if a1<t.n then a1 else t.n:=rfl
      rw[e5] at r3
      have e6:max a1 t.n=if a1<t.n then t.n else a1:=by split<;>omega
      have e7:min a1 t.n=if a1<t.n then a1 else t.n:=by split<;>omega
      rw[← e6] at r0
      rw[← e7] at r3
      clear e5 e6 e7
      have y0:=am_ r0
      have y3:=am_ r3
      have x0:=am_ k0
      have x2:=am_ k2
      have z2:=k2
      rcases hb with rfl|⟨rfl,q1⟩
      all_goals
       go_wp2
       refine bx_ (by kernel_rfl) (by kernel_rfl) ?_
       repeat (go_big_quiet_step (fail))
       refine wpQuiet_nil ?_
       intro _ hw'
       obtain⟨pq,hw''⟩:=hw'
       subst hw''
       go_wp2
       go_ret
       exact⟨rfl,B_8.out.trans ((aD_ _ _).mono B_8.out.size)⟩
     ·obtain⟨b,off,xa,xc,rfl,r0,r1,r2,r3,r4,hat⟩:=jm_.one RK_8.out
      have DX:=hid (fun p=>cR_ (r4_ (hat.low (aD_ _ p)) (RT_8.out.at_.low (aD_ _ p)) SMT.out.small SMT.out.small (ah_ HT.out (B_8.out.trans ((aD_ _ p).mono B_8.out.size)))))
      rw[decide_eq_true (rfl:aJ_ t=aJ_ t)] at DX
      have y0:=am_ r0
      have y1:=am_ r1
      have y2:=am_ r2
      have y3:=am_ r3
      have y4:=am_ r4
      have x0:=am_ k0
      have x1:=am_ k1
      have x2:=am_ k2
      have x3:=am_ k3
      go_wp2
      refine bx_ (by kernel_rfl) (by kernel_rfl) ?_
      repeat (go_big_quiet_step ((first|(with_reducible exact DX.out _))))
      refine wpQuiet_nil ?_
      intro _ hw'
      obtain⟨pq,hw''⟩:=hw'
      subst hw''
      have z0:=y0 pq
      go_wp2
      go_ret
      exact⟨rfl,B_8.out.trans ((aD_ _ _).mono B_8.out.size)⟩
end Go.Proofs.YtjecnionbjlncaaGreatDoor.Tp

namespace Go.Proofs.YtjecnionbjlncaaGreatDoor.unifyOne
open Go.ChangeShapes Go.WideShapes Go.ChangeAt Go.WideMaps Go.WideElems Go.RowKit
open Go.ChangeMaps (open_string shut_string)
open Tp (Tab sp_ qa_ s2_ own laidOut)

/-! ### the row's step, as the kit's worked example (a law over laid variables) has it -/
set_option linter.unusedVariables false in
set_option maxRecDepth 100000 in
theorem lifted (os : Os) (started : os.Started) (H : Type) (enc : TypeId × Value → H) :
    ReturnsInHanded {} Tryz.checked os 6 .any (fun w args => (Rows.unifyOneSpec.pre enc Tryz.prog Tryz.f6 [] false w args ∧ laidMetH Tryz.prog sp_ w) ∧ sizedMet enc Tryz.prog Tryz.f6 (OpenSpec.ofChange Rows.unifyOneSpec) false w args)
      (Rows.unifyOneSpec.post enc Tryz.prog Tryz.f6 false true false false) := by
  refine returnsInHanded_of_change_and (C := Tryz.checked) (X := fun w _ => laidMetH Tryz.prog sp_ w) (fun _ _ _ hh h => h.of_heap hh) own started (by kernel_rfl) Tryz.func6
    (ChangeSpec.witness_shaped (enc := enc) (C := Tryz.checked) (os := os) (X := fun w _ => laidMetH Tryz.prog sp_ w) false (World.doorLaid Tryz.prog 400 os) #[.string ByteArray.empty, .int .i64 0] 8 rfl (World.shaped_of_RefB (by kernel_rfl) (by kernel_rfl)) (by kernel_rfl) (by kernel_rfl) (by kernel_rfl) (s2_ os _)) ?_
  intro W base args ds gs before hval0 hW _ _ hL _
  have hval : ∀ (j : Nat) t v, Tryz.f6.params[j]? = some t → args[j]? = some v → Value.okWide Tryz.prog W .any base t v := hval0
  have hW' := hW
  obtain ⟨p, q, hA0, hV, rfl, hfz, hnd⟩ := hW
  have hA : DataW.TrodAll enc Tryz.prog W 0 (fun _ => true) true Tryz.f6.params.toList args.toList ds p := hA0
  rw [Tryz.params6] at hA hval
  obtain ⟨v0, vs0, d0, ds0, p0, q0, hargs, rfl, rfl, h0, r0⟩ := trodAll_cons hA
  obtain ⟨v1, vs1, d1, ds1, p1, q1, rfl, rfl, rfl, h1, r1⟩ := trodAll_cons r0
  obtain ⟨rfl, rfl, rfl⟩ := trodAll_nil r1
  obtain rfl : args = #[v0, v1] := by cases args; simp_all
  obtain ⟨rfl, rfl⟩ := trodVars_none hV
  obtain ⟨a0, rfl, rfl, rfl, w0⟩ := open_string Tryz.underlying9 (hval 0 9 v0 rfl rfl) h0
  obtain ⟨a1, rfl, rfl, rfl, w1⟩ := open_int Tryz.underlying3 (hval 1 3 v1 rfl rfl) h1
  clear hA0 hval0
  refine (Tp.unifyOne_walk a0 w0 a1 w1 W  (qa_ hL)).mono fun e W' ⟨he, bel⟩ => ?_
  subst he
  exact ⟨_, rfl, _, _, _, [], _, [], hW', trodAll_mk1 (shut_bool Tryz.underlying4 _), (trodAll_cons_mk (shut_string Tryz.underlying9 w0) (trodAll_cons_mk (shut_int Tryz.underlying3 w1) trodAll_mk0)), rfl, bel.frame _, fun h => by cases h⟩

theorem row_holds : Rows.UnifyOneSaid :=
  OpenClaim.holds_of_wide 6 Tryz.f6 rfl rfl rfl rfl rfl rfl rfl ⟨rfl, rfl, rfl, rfl, rfl⟩ rfl rfl rfl rfl rfl (by kernel_rfl) Tryz.func6 (by kernel_rfl)
    (of_decide_eq_true (by kernel_rfl)) (by unfold Func.isWrapper; first | (rw [if_pos (by decide +kernel)]; kernel_rfl) | (rw [if_neg (by decide +kernel)]; exact ⟨rfl, rfl⟩))
    (fun os started H enc _ => lifted os started H enc)

/-- THE STATEMENT: the row, tied to the program's text. -/
theorem proved : Rows.UnifyOneCardSaid :=
  Claim7.holds_tied_plain_at .later [] [.data, .data, .data, .sentinel, .sentinel] true Rows.unifyOneCard.stood.harness true
    row_holds (fun _ h => by cases h) (by kernel_rfl) (fun _ h => by cases h) unifyOne_row_tie rfl ⟨rfl, rfl⟩ (by kernel_rfl) rfl
    (fun f fn hf hfn => by
      obtain rfl : f = 6 := Option.some.inj ((show Tryz.prog.funcNamed "savant/savantlaw04.UnifyOne" = some 6 by kernel_rfl).symm.trans hf) |>.symm
      obtain rfl : fn = Tryz.f6 := (Option.some.inj (Tryz.func6.symm.trans hfn)).symm
      exact ⟨by kernel_rfl, fun j t ht => by
        rw [Tryz.params6] at ht
        have hm : t ∈ [9, 3] := by simpa using Array.mem_of_getElem? ht
        have hall : ([9, 3].all fun u => !Tryz.prog.wantsStandIn u) = true := by kernel_rfl
        exact (show Tryz.prog.wantsStandIn t = false by simpa using List.all_eq_true.1 hall t hm)⟩)
    (by kernel_rfl)
#print axioms proved
end Go.Proofs.YtjecnionbjlncaaGreatDoor.unifyOne

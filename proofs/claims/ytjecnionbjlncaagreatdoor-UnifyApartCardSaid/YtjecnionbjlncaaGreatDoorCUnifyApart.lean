/-
  Equations of unknowns that have nothing in common are solved apart: the answer to both lists is both answers: for every two lists of at most four lines of at most 120 bytes a side, with at most 24 variables and unknowns in each, whose numbers are below 400000 (those of the second list are put 500000 away); at anything else the law tells what its examples tell.
-/
import Derived.Test.YtjecnionbjlncaaGreatDoorP52
import Derived.Test.YtjecnionbjlncaaGreatDoorCards
import Derived.Test.YtjecnionbjlncaaGreatDoorTie
import Derived.SevenTiedAt

namespace Go.Proofs.YtjecnionbjlncaaGreatDoor.Tp
open Go.RowKit
theorem near_take {es:List EqT}{i:Nat}(hi:i<es.length):oN_ (es.take (i+1))=(oN_ (es.take i)&&(ap_ es[i].1++ap_ es[i].2).all fun m=>decide (m<400000)):=by
 unfold oN_
 rw[List.take_succ_eq_append_getElem hi,List.all_append]
 simp
theorem near_not {es:List EqT}{i:Nat}(hi:i<es.length){m:Int}(hm:m∈ap_ es[i].1++ap_ es[i].2)(h:¬ m<400000):oN_ es=false:=by
 cases hn:oN_ es with
 | false=>rfl
 | true=>exact absurd (kv_.1 hn _ (List.getElem_mem hi) m hm) h
set_option maxRecDepth 100000 in
set_option maxHeartbeats 6400000 in
theorem near_any {w:World}{v0:Value}{es:List EqT}(hE:nQ_ w v0 es)(E:Es es):Calls Tryz.prog 25 #[v0] w (cA_ w (oN_ es)):=by
 obtain⟨va,vc,rfl⟩:∃ a c,v0=.slice a es.length c:=by
  obtain⟨a,c,e,_⟩:=hE
  exact⟨a,c,e⟩
 have RE:=hid hE
 have EE:=hid E
 have HLE:Hid (es.length≤16):=hid E.ln
 obtain⟨nb,hnb⟩:∃ nb,oN_ es=nb:=⟨_,rfl⟩
 have NB:=hid hnb
 rw[hnb]
 clear hE E hnb
 go_enter Tryz.func25,Tryz.ntmps25
 go_wp2
 go_loopw [3] (fun iv wr=>∃ i:Nat,iv=.int .i64 (i:Int)∧i≤es.length∧oN_ (es.take i)=true∧Below w.heap.size w wr) (fun iv _=>es.length - (intOf iv).toNat)
 case atStart=>exact⟨0,rfl,Nat.zero_le _,rfl,Below.refl _ _⟩
 case round =>
  obtain⟨i,rfl,hil,hnr,hBr⟩:=hrel
  have i0:(0:Int)≤(i:Int):=by omega
  have BR:=hid hBr
  have NR:=hid hnr
  have hl16:=HLE.out
  clear hnr
  by_cases hi:i<es.length
  ·have i1:(i:Int)<(es.length:Int):=by omega
   have i2:(i:Int)<16:=by omega
   obtain⟨b,off,xa,xc,ya,yc,rfl,hb,hl4,hr4,hAl,hAr⟩:=RE.out.one hi
   have KK:Hid (∀ W:World,Below wr.heap.size wr W→(W.cell? ⟨b,off+i*8,none⟩=some (.int .i64 es[i].1.kind)∧W.cell? ⟨b,off+i*8+1,none⟩=some (.string es[i].1.name)∧W.cell? ⟨b,off+i*8+2,none⟩=some (.int .i64 es[i].1.n)∧W.cell? ⟨b,off+i*8+3,none⟩=some (.slice xa es[i].1.args.length xc))∧(W.cell? ⟨b,off+i*8+4,none⟩=some (.int .i64 es[i].2.kind)∧W.cell? ⟨b,off+i*8+5,none⟩=some (.string es[i].2.name)∧W.cell? ⟨b,off+i*8+6,none⟩=some (.int .i64 es[i].2.n)∧W.cell? ⟨b,off+i*8+7,none⟩=some (.slice ya es[i].2.args.length yc))):=hid fun W h=>by
    have kk:∀ o,W.cell? ⟨b,o,none⟩=w.cell? ⟨b,o,none⟩:=fun o=>(World.cell?_of_block (h.block b (ba_ hb hBr.size))).trans (World.cell?_of_block (hBr.block b hb))
    exact⟨⟨(kk _).trans hl4.1,(kk _).trans hl4.2.1,(kk _).trans hl4.2.2.1,(kk _).trans hl4.2.2.2⟩,(kk _).trans hr4.1,(kk _).trans hr4.2.1,(kk _).trans hr4.2.2.1,(kk _).trans hr4.2.2.2⟩
   have AL:=hid (hAl.low hBr)
   have AR:=hid (hAr.low hBr)
   have QQ:=hid (EE.out.ok _ (List.getElem_mem hi))
   have EN:=hid (es_ni EE.out (List.getElem_mem hi) 0)
   have S1:=hid (EN.out.1.1.small (nM_ EE.out (Nat.zero_le _)))
   have S2:=hid (EN.out.2.1.small (nM_ EE.out (Nat.zero_le _)))
   have MS:=hid (ms_ok EE.out (List.getElem_mem hi))
   have NT:=hid (near_take hi)
   have NN:Hid (∀ m,m∈ap_ es[i].1++ap_ es[i].2→¬ m<400000→oN_ es=false):=hid fun m hm h=>near_not hi hm h
   clear hl4 hr4 hAl hAr hb hBr
   generalize es[i]=x at *
   have LM:Hid ((ap_ x.1).length≤1000000000∧(ap_ x.2).length≤1000000000):=hid ⟨by have:=sb_ x.1;have:=QQ.out.l.2.1;omega,by have:=sb_ x.2;have:=QQ.out.r.2.1;omega⟩
   obtain⟨ms,hms⟩:∃ ms,ap_ x.1++ap_ x.2=ms:=⟨_,rfl⟩
   have HMS:=hid hms
   have ML:Hid (ms.length≤300):=hid (by have:=sb_ x.1;have:=QQ.out.l.2.1;have:=sb_ x.2;have:=QQ.out.r.2.1;rw[← hms,List.length_append];omega)
   have NT2:Hid (oN_ (es.take (i+1))=(oN_ (es.take i)&&ms.all fun m=>decide (m<400000))):=hid (by rw[NT.out,hms])
   have NN2:Hid (∀ m,m∈ms→¬ m<400000→nb=false):=hid fun m hm h=>by rw[← NB.out];exact NN.out m (by rw[hms];exact hm) h
   have MK:Hid (∀ j (h:j<ms.length),∃ n:Nat,ms[j]=(n:Int)∧n<1000000):=hid fun j h=>by
    have hm:ms[j]∈msE x:=by unfold msE;rw[hms];exact List.getElem_mem h
    have:=MS.out _ hm
    exact⟨ms[j].toNat,by omega,by omega⟩
   clear hms NT NN
   go_upto_region 4 with fail
   go_cut [4] from 12 to 24 (fun s wx=>∃ (a:OA_) (c:Nat),s=.slice a ms.length c∧wx.ownsRow wr.heap.size 3 1 s ms.length (ms.map (Value.int .i64))∧Below wr.heap.size wr wx)
   case first =>
    have HD:=hid ((Below.refl wr.heap.size wr).drew)
    have CF1:=hid (fun (W:World) (h:Below wr.heap.size wr W)=>metas_h (AL.out.low h) S1.out)
    have CF2:=hid (fun (W:World) (h:Below wr.heap.size wr W)=>metas_h (AR.out.low h) S2.out)
    have KD:Hid (∀ W:World,Below wr.heap.size wr W→(W.cell? ⟨b,off+i*8,none⟩=some (.int .i64 x.1.kind)∧W.cell? ⟨b,off+i*8+1,none⟩=some (.string x.1.name)∧W.cell? ⟨b,off+i*8+2,none⟩=some (.int .i64 x.1.n)∧W.cell? ⟨b,off+i*8+3,none⟩=some (.slice xa x.1.args.length xc))∧(W.cell? ⟨b,off+i*8+4,none⟩=some (.int .i64 x.2.kind)∧W.cell? ⟨b,off+i*8+5,none⟩=some (.string x.2.name)∧W.cell? ⟨b,off+i*8+6,none⟩=some (.int .i64 x.2.n)∧W.cell? ⟨b,off+i*8+7,none⟩=some (.slice ya x.2.args.length yc))):=hid (fun W h=>KK.out W h)
    have hkd:=KD.out _ HD.out
    try simp only[and_assoc] at hkd
    obtain⟨hk0,hk1,hk2,hk3,hk4,hk5,hk6,hk7⟩:=hkd
    go_region_held3 (fun w'=>(w'.cell? ⟨b,off+i*8,none⟩=some (.int .i64 x.1.kind)∧w'.cell? ⟨b,off+i*8+1,none⟩=some (.string x.1.name)∧w'.cell? ⟨b,off+i*8+2,none⟩=some (.int .i64 x.1.n)∧w'.cell? ⟨b,off+i*8+3,none⟩=some (.slice xa x.1.args.length xc))∧(w'.cell? ⟨b,off+i*8+4,none⟩=some (.int .i64 x.2.kind)∧w'.cell? ⟨b,off+i*8+5,none⟩=some (.string x.2.name)∧w'.cell? ⟨b,off+i*8+6,none⟩=some (.int .i64 x.2.n)∧w'.cell? ⟨b,off+i*8+7,none⟩=some (.slice ya x.2.args.length yc)))
     (first|(with_reducible exact KD.out _ HX3.out)|(with_reducible exact KD.out _ HX2.out)|(with_reducible exact KD.out _ HX1.out)|(with_reducible exact KD.out _ HD.out))
     (first
      | (go_at_call 19;(with_reducible refine (CF1.out _ HD.out).mono ?_);rintro e x1 ⟨v1,rfl,own1,len1,hb1⟩;obtain⟨za,zc,rfl⟩:=aG_ own1;have HX1:=hid (HD.out.trans (hb1.mono HD.out.size));have O1:=hid own1;clear hb1 own1 len1)
      | (go_at_call 19;(with_reducible refine (CF2.out _ HX1.out).mono ?_);rintro e x2 ⟨v2,rfl,own2,len2,hb2⟩;obtain⟨ta,tc,rfl⟩:=aG_ own2;have HX2:=hid (HX1.out.trans (hb2.mono HX1.out.size));have CA:=hid (fun ty=>si_ ty (aF_ O1.out fun b hb=>hb2.block b (O1.out.lt b hb).2) own2 (wi:=wr) HX2.out (by simp) (by have:=hb2.size;have:=(HX1.out).size;simp at *;omega) LM.out.1 LM.out.2 HMS.out);clear hb2 own2 len2)
      | ((refine d8_ (by rfl) _ _ _ (by rfl) (by rfl) (by rfl) (CA.out _) ?_);rintro v3 x3 ⟨own3,hb3⟩;obtain⟨qa,qc,rfl⟩:=aG_ own3;have HX3:=hid hb3;have O3:=hid own3;clear own3 hb3))
    all_goals
     go_wp2_with fail
     go_meet
     exact⟨_,_,rfl,cx_ O3.out (by simp),HX3.out⟩
   obtain⟨qa,qc,rfl,hO,hB⟩:=hcut
   obtain⟨wm,hwm⟩:∃ wm:World,wm=wc:=⟨_,rfl⟩
   subst hwm
   have OI:=hid (ints_at hO rfl)
   have BM:=hid (BR.out.trans (hB.mono BR.out.size))
   clear hO hB AL AR KK
   go_wp2
   go_loopw [5] (fun kv wk=>∃ k:Nat,kv=.int .i64 (k:Int)∧k≤ms.length∧(∀ j (h:j<ms.length),j<k→ms[j]<400000)∧wk=wm) (fun kv _=>ms.length - (intOf kv).toNat)
   case atStart=>exact⟨0,rfl,Nat.zero_le _,fun j _ h=>by omega,rfl⟩
   case round =>
    obtain⟨k,rfl,hkl,hks,rfl⟩:=hrel
    have k0:(0:Int)≤(k:Int):=by omega
    have KS:=hid hks
    have ml:=ML.out
    clear hks
    by_cases hk:k<ms.length
    ·have k1:(k:Int)<(ms.length:Int):=by omega
     have k2:(k:Int)<300:=by omega
     obtain⟨n,hn,hn6⟩:=MK.out k hk
     obtain⟨g,rfl,hg1,hg2,hcm⟩:=OI.out k hk
     rw[hn] at hcm
     by_cases h4:(n:Int)<400000
     ·have z:decide ((400000:Int)≤(n:Int))=false:=decide_eq_false (by omega)
      have KS2:Hid (∀ j (h:j<ms.length),j<k+1→ms[j]<400000):=hid fun j h hj=>by
       rcases Nat.lt_or_ge j k with h1|h1
       ·exact KS.out j h h1
       ·have:j=k:=by omega
        subst this
        rw[hn];exact h4
      clear hn hg1 hg2 h4
      go_wp2
      go_roundw
      case measure=>simp[intOf];omega
      case rel=>exact⟨k+1,by go_num,by omega,KS2.out,by trivial⟩
     ·have z:decide ((400000:Int)≤(n:Int))=true:=decide_eq_true (by omega)
      have FN:Hid (nb=false):=hid (NN2.out _ (List.getElem_mem hk) (by rw[hn];omega))
      clear hn hg1 hg2 h4
      go_wp2
      go_ret
      rw[FN.out]
      exact⟨rfl,BM.out⟩
    ·obtain rfl:k=ms.length:=by omega
     have NA:Hid (oN_ (es.take (i+1))=true):=hid (by
      rw[NT2.out,NR.out,Bool.true_and,List.all_eq_true]
      intro m hm
      obtain⟨j,hj,rfl⟩:=List.getElem_of_mem hm
      exact decide_eq_true (KS.out j hj hj))
     go_wp2
     go_roundw
     case measure=>simp[intOf];omega
     case rel=>exact⟨i+1,by go_num,by omega,NA.out,BM.out⟩
  ·obtain rfl:i=es.length:=by omega
   have TN:Hid (nb=true):=hid (by have:=NR.out;rw[List.take_length] at this;rw[← NB.out];exact this)
   clear hBr
   go_wp2
   go_ret
   rw[TN.out]
   exact⟨rfl,BR.out⟩
theorem farF_step (ms:List Int)(t:Ty){k:Nat}(hk:k<ms.length):sO_ (ms.take (k+1)) t=bH_ ms[k] (mt (ms[k]+500000)) (sO_ (ms.take k) t):=by
 unfold sO_
 rw[List.take_succ_eq_append_getElem hk,List.foldl_append]
 rfl
theorem mt_small {m:Int}(h0:0≤m)(h1:m<1000000000000000000):bG_ (mt m):=(r3_ (NL:=[]) (fr:=0) h0 h1).small (by simp)
theorem far_small {t:Ty}(h:Mk t)(hs:t.size≤120)(hm:∀ m∈ap_ t,m<400000)(k:Nat):bG_ (sO_ ((ap_ t).take k) t):=by
 have hb:∀ m∈(ap_ t).take k,0≤m∧m<400000:=fun m hm'=>by
  have h1:=List.mem_of_mem_take hm'
  have:=bS_ h m h1
  have:=hm m h1
  omega
 rw[(o5_ _ t h.1 hb).2]
 have hg:∀ n∈ap_ t,0≤(if n∈(ap_ t).take k then n+500000 else n)∧(if n∈(ap_ t).take k then n+500000 else n)<1000000:=fun n hn=>by
  have:=bS_ h n hn
  have:=hm n hn
  split<;>omega
 have hM:Mk (mvT (fun n=>if n∈(ap_ t).take k then n+500000 else n) t):=⟨r4_ t h.1 fun m hm'=>by have:=hg m hm';omega,r6_ t h.2 fun m hm'=>(hg m hm').2⟩
 have h2:=m8_ hM (by rw[m5_];omega)
 exact hO_ h2.1 h2.2
set_option maxRecDepth 100000 in
set_option maxHeartbeats 3200000 in
theorem far_any {T:Nat→Prop}{w:World}{t:Ty}{a:OA_}{c:Nat}(hTl:∀ b,T b→b<w.heap.size)(hA:aa_ T w (.slice a t.args.length c) t.args)(hmk:Mk t)(hz120:t.size≤120)(hm4:∀ m∈ap_ t,m<400000)(hT:Tab w) :
  Calls Tryz.prog 26 #[tv t a c] w (TP T (sO_ (ap_ t) t) w):=by
 have hsm:=fun k=>far_small hmk hz120 hm4 k
 have hs:bG_ t:=by have:=hsm 0;rwa [List.take_zero] at this
 have hz:=aw_ w (.cells #[.int .i64 t.kind,.string t.name,.int .i64 t.n,.slice a t.args.length c] 37)
 have hz2:=hz.alloc (by simp) (.cells #[.int .i64 0,.string ⟨#[]⟩,.int .i64 0,.slice none 0 0] 37)
 have fm0:FlM T w ((w.alloc (.cells #[.int .i64 t.kind,.string t.name,.int .i64 t.n,.slice a t.args.length c] 37)).alloc (.cells #[.int .i64 0,.string ⟨#[]⟩,.int .i64 0,.slice none 0 0] 37)) t a c:=⟨hz2,by simp,(B4.new w _ _ _ _).low (aw_ _ _),(by have h:=B4.new (w.alloc (.cells #[.int .i64 t.kind,.string t.name,.int .i64 t.n,.slice a t.args.length c] 37)) (.int .i64 0) (.string ⟨#[]⟩) (.int .i64 0) (.slice none 0 0);rw[show (w.alloc (.cells #[.int .i64 t.kind,.string t.name,.int .i64 t.n,.slice a t.args.length c] 37)).heap.size=w.heap.size+1 from by simp] at h;exact h),(hA.keep fun b h=>hz2.block b (hTl b h)).mono fun _=>.inl⟩
 have CM:=hid (gx_ t T a c ((w.alloc (.cells #[.int .i64 t.kind,.string t.name,.int .i64 t.n,.slice a t.args.length c] 37)).alloc (.cells #[.int .i64 0,.string ⟨#[]⟩,.int .i64 0,.slice none 0 0] 37)) (hA.keep fun b h=>hz2.block b (hTl b h)) (fun b h=>ba_ (hTl b h) hz2.size) (by have:=hs.2;omega))
 have FM:=hid fm0
 obtain⟨d0,d1,d2,d3⟩:=fm0.k.c03
 have HT:=hid hT
 have HTL:=hid hTl
 have HSM:=hid hsm
 have NT:Hid (∀ j (h:j<(ap_ t).length),∃ n:Nat,(ap_ t)[j]=(n:Int)∧n<400000):=hid fun j h=>by
  have h1:=List.getElem_mem h
  have:=bS_ hmk _ h1
  have:=hm4 _ h1
  exact⟨(ap_ t)[j].toNat,by omega,by omega⟩
 have MZ:Hid ((ap_ t).length≤120):=hid (by have:=sb_ t;omega)
 have ST:=hid fun (k:Nat) (h:k<(ap_ t).length)=>farF_step (ap_ t) t h
 have F0:Hid (sO_ ((ap_ t).take 0) t=t):=hid rfl
 have FE:Hid (∀ k,k=(ap_ t).length→sO_ (ap_ t) t=sO_ ((ap_ t).take k) t):=hid fun k h=>by rw[h,List.take_length]
 clear hA hs hT hTl hz hz2 fm0 hsm hmk hm4 hz120
 unfold fs_ at CM
 generalize sO_ (ap_ t) t=r at *
 generalize ap_ t=ms at *
 unfold tv at CM ⊢
 go_enter Tryz.func26,Tryz.ntmps26
 go_wp2_with fail
 refine CM.out.mono ?_
 rintro e w1 ⟨mv,rfl,ho,hml,hb1⟩
 obtain⟨ma,mc,rfl⟩:=aG_ ho
 have fm1:=FM.out.low HTL.out hb1
 have FM1:=hid fm1
 have HO:=hid ho
 have HB1:Hid (w.heap.size+2≤w1.heap.size):=hid fm1.s
 clear ho hml hb1 d0 d1 d2 d3 fm1 CM
 have hml2:=MZ.out
 go_wp2
 go_loopw [4] (fun iv wr=>∃ (j:Nat) (x:Ty) (xa:OA_) (xc:Nat),iv=.int .i64 (j:Int)∧j≤ms.length∧x=sO_ (ms.take j) t∧FlM T w wr x xa xc∧wr.ownsRow (w.heap.size+2) 3 1 (.slice ma ms.length mc) ms.length (ms.map (Value.int .i64))) (fun iv _=>ms.length - (intOf iv).toNat)
 case atStart=>exact⟨0,t,a,c,rfl,Nat.zero_le _,F0.out.symm,FM1.out,cx_ (base':=w.heap.size+2) HO.out (by simp)⟩
 case round =>
  obtain⟨j,x,xa,xc,rfl,hj,hx,hfm,ho⟩:=hrel
  have z0:(0:Int)≤(j:Int):=by omega
  have FMR:=hid hfm
  obtain⟨k0,k1,k2,k3⟩:=hfm.k.c03
  by_cases hi:j<ms.length
  ·have z1:(j:Int)<(ms.length:Int):=by omega
   have z2:(j:Int)<120:=by omega
   obtain⟨g,rfl⟩:∃ g,ma=some ⟨g,0,none⟩:=by
    rcases ho.2 with ⟨_,h0⟩|⟨g,cap,cur,h0,_⟩
    ·omega
    ·injection h0 with h0;exact⟨g,h0⟩
   have rm:wr.cell? ⟨g,j,none⟩=some (.int .i64 ms[j]):=by
    have:=ho.cells (g:=g) rfl j (.int .i64 ms[j]) (by simp[hi])
    rwa [show (⟨g,0,none⟩:Addr).add j=⟨g,j,none⟩ from by unfold Addr.add;split<;>simp_all] at this
   obtain⟨n,hn,hn4⟩:=NT.out j hi
   have SX:Hid (bG_ x):=hid (hx ▸ HSM.out j)
   have HX1:Hid (bH_ (n:Int) (mt ((n:Int)+500000)) x=sO_ (ms.take (j+1)) t):=hid (by have:=ST.out j hi;rw[hn,← hx] at this;exact this.symm)
   rw[hn] at rm
   have MS:=hid (mt_small (m:=(n:Int)+500000) (by omega) (by omega))
   have CF:Hid (Calls Tryz.prog 21 #[.agg #[.int .i64 x.kind,.string x.name,.int .i64 x.n,.slice xa x.args.length xc],.int .i64 (n:Int),.agg #[.int .i64 2,.string ⟨#[]⟩,.int .i64 (IntKind.i64.wrap ((n:Int)+500000)),.slice none 0 0]] wr.drew (TP (fun b=>T b∨w.heap.size+2≤b∧b<wr.drew.heap.size) (bH_ (n:Int) (mt ((n:Int)+500000)) x) wr.drew)):=hid (by
    rw[show IntKind.i64.wrap ((n:Int)+500000)=(n:Int)+500000 from IntWalk.i64_in ((n:Int)+500000) ⟨by omega,by omega⟩]
    exact nk_ (n:Int) (mt ((n:Int)+500000)) x _ xa none xc 0 wr.drew SX.out.1 MS.out.1 SX.out.2.1 MS.out.2.1 (hfm.low HTL.out (Below.refl _ _).drew).a (.nil _ _) (fun b hb=>by
     rcases hb with h|h
     ·have:=HTL.out b h;have:=hfm.s;show b<wr.heap.size;omega
     ·exact h.2) (ag_ HT.out (hfm.g.trans ((Below.refl _ _).drew.mono hfm.g.size))))
   have FD:=hid (hfm.low HTL.out (Below.refl _ _).drew)
   have OD:=hid (aF_ ho (w':=wr.drew) fun b _=>rfl)
   clear hfm ho hn hx
   go_wp2
   go_region_law (first
    | (go_simp;go_at_call 21;(with_reducible refine CF.out.mono ?_);rintro e w5 ⟨ra,rc,he,hA5,hb5⟩;unfold tv at he;subst he;have fm5:=FD.out.low HTL.out hb5;have p0:=fm5.k.c0;have p1:=fm5.k.c1;have p2:=fm5.k.c2;have p3:=fm5.k.c3;have g0:=fm5.k.fr 0;have g1:=fm5.k.fr 1;have g2:=fm5.k.fr 2;have g3:=fm5.k.fr 3;have HA5:=hid (hA5.mono fun b hb=>(hb.elim (fun h=>h.imp id fun h=>⟨h.1,ba_ h.2 hb5.size⟩) fun h=>.inr ⟨cj_ FD.out.s h.1,h.2⟩:T b∨w.heap.size+2≤b∧b<w5.heap.size));have FM5:=hid fm5;have O5:=hid (aF_ OD.out fun b hb=>hb5.block b (OD.out.lt b hb).2);clear hA5 hb5 fm5))
   all_goals
    have FP:=hid (FM5.out.put HTL.out HA5.out)
    have OP:=hid (aF_ O5.out (w':=((((w5.setCell ⟨w.heap.size,0,none⟩ (.int .i64 (bH_ (n:Int) (mt ((n:Int)+500000)) x).kind)).setCell ⟨w.heap.size,1,none⟩ (.string (bH_ (n:Int) (mt ((n:Int)+500000)) x).name)).setCell ⟨w.heap.size,2,none⟩ (.int .i64 (bH_ (n:Int) (mt ((n:Int)+500000)) x).n)).setCell ⟨w.heap.size,3,none⟩ (.slice ra (bH_ (n:Int) (mt ((n:Int)+500000)) x).args.length rc))) fun b hb=>by
     have hne:b≠w.heap.size:=by have:=(O5.out.lt b hb).1;omega
     rw[aB_ _ _ _ _ hne,aB_ _ _ _ _ hne,aB_ _ _ _ _ hne,aB_ _ _ _ _ hne])
    go_wp2
    go_roundw
    case rel=>exact⟨j+1,_,ra,rc,by go_num,by omega,HX1.out,FP.out,OP.out⟩
    case measure=>simp[intOf];omega
  ·obtain rfl:j=ms.length:=by omega
   have E:Hid (x=r):=hid (hx.trans (FE.out _ rfl).symm)
   obtain⟨y0,y1,y2,y3⟩:=hfm.z.c03
   obtain⟨fz0,fz1,fz2,fz3⟩:=hfm.z.f03
   clear hx hfm ho
   go_wp2
   have q:=FMR.out.z.set4 (.int .i64 x.kind) (.string x.name) (.int .i64 x.n) (.slice xa x.args.length xc)
   refine bodyPost_ret (v:=tv x xa xc) (by simp[results,Tryz.results26,go_sem,tv,q.c0,q.c1,q.c2,q.c3]) rfl ?_
   have off:∀ b,b≠w.heap.size+1→((((wr.setCell ⟨w.heap.size+1,0,none⟩ (.int .i64 x.kind)).setCell ⟨w.heap.size+1,1,none⟩ (.string x.name)).setCell ⟨w.heap.size+1,2,none⟩ (.int .i64 x.n)).setCell ⟨w.heap.size+1,3,none⟩ (.slice xa x.args.length xc)).heap[b]? = wr.heap[b]? := fun b hb=>by
    rw[aB_ _ _ _ _ hb,aB_ _ _ _ _ hb,aB_ _ _ _ _ hb,aB_ _ _ _ _ hb]
   rw[← E.out]
   refine⟨xa,xc,rfl,(FMR.out.a.keep (B:=((((wr.setCell ⟨w.heap.size+1,0,none⟩ (.int .i64 x.kind)).setCell ⟨w.heap.size+1,1,none⟩ (.string x.name)).setCell ⟨w.heap.size+1,2,none⟩ (.int .i64 x.n)).setCell ⟨w.heap.size+1,3,none⟩ (.slice xa x.args.length xc))) fun b hb=>off b (by rcases hb with h|h;have:=HTL.out b h;omega;omega)).mono fun b hb=>hb.imp id fun h=>⟨by omega,by simpa using h.2⟩,?_⟩
   exact (((FMR.out.g.setCell (p:=⟨w.heap.size+1,0,none⟩) (Nat.le_succ _) _).setCell (p:=⟨w.heap.size+1,1,none⟩) (Nat.le_succ _) _).setCell (p:=⟨w.heap.size+1,2,none⟩) (Nat.le_succ _) _).setCell (p:=⟨w.heap.size+1,3,none⟩) (Nat.le_succ _) _
end Go.Proofs.YtjecnionbjlncaaGreatDoor.Tp

namespace Go.Proofs.YtjecnionbjlncaaGreatDoor.Tp
open Go.RowKit Go.Sort
set_option maxRecDepth 100000 in
set_option maxHeartbeats 6400000 in
theorem unifyApart_walk (v0:Value)(ls:List Ln)(v1:Value)(ms:List Ln)(w:World)(hL:lJ_ w v0 ls)(hM:lJ_ w v1 ms)(hT:Tab w):Calls Tryz.prog 7 #[v0,v1] w fun e w'=>e=.returned (.bool true)∧Below w.heap.size w w':=by
 obtain⟨la,lc,rfl⟩:∃ a c,v0=.slice a ls.length c:=by
  obtain⟨a,c,e,_⟩:=hL
  exact⟨a,c,e⟩
 obtain⟨ma,mc,rfl⟩:∃ a c,v1=.slice a ms.length c:=by
  obtain⟨a,c,e,_⟩:=hM
  exact⟨a,c,e⟩
 have HT:=hid hT
 have RL_0:=hid hL
 have RM_0:=hid hM
 clear hT hL hM
 go_enter Tryz.func7,Tryz.ntmps7
 have C:=hid (rv_ _ HT.out)
 go_wp2_with fail
 refine C.out.mono ?_
 rintro e w1 ⟨rfl,hB⟩
 clear C
 have RL_1:=hid (RL_0.out.low hB)
 have RM_1:=hid (RM_0.out.low hB)
 have B_1:=hid (hB)
 clear hB RL_0 RM_0
 have C:=hid (mu_ _ (.slice la ls.length lc) ls RL_1.out)
 go_wp2_with fail
 refine C.out.mono ?_
 rintro e w2 ⟨hB,hres⟩
 clear C
 cases hq:c9_ ls with
 | none =>
  rw[hq] at hres
  subst hres
  clear hq
  have RL_2:=hid (RL_1.out.low hB)
  have RM_2:=hid (RM_1.out.low hB)
  have B_2:=hid (B_1.out.trans (hB.mono B_1.out.size))
  clear hB RL_1 RM_1 B_1
  clear RL_2
  have C:=hid (mu_ _ (.slice ma ms.length mc) ms RM_2.out)
  go_wp2_with fail
  refine C.out.mono ?_
  rintro e w3 ⟨hB,hres⟩
  clear C
  cases hq:c9_ ms with
  | none =>
   rw[hq] at hres
   subst hres
   clear hq
   have RM_3:=hid (RM_2.out.low hB)
   have B_3:=hid (B_2.out.trans (hB.mono B_2.out.size))
   clear hB RM_2 B_2
   go_wp2
   go_ret
   exact⟨rfl,B_3.out⟩
  | some bs =>
   rw[hq] at hres
   obtain⟨x,y,pt,qt,rfl,hE⟩:=hres
   obtain⟨xa,xc,rfl⟩:=aG_ hE.a.own
   obtain⟨ya,yc,rfl⟩:=aG_ hE.b.own
   have Ebs:=hid (es_of hq)
   have hEs:nQ_ w3 (.slice xa bs.length xc) bs:=hE.a.es (by have:=Ebs.out.ln;omega) fun b hb=>hb.2.1
   clear hq hE
   have RM_3:=hid (RM_2.out.low hB)
   have B_3:=hid (B_2.out.trans (hB.mono B_2.out.size))
   have RF_3:=hid hEs
   clear hB hEs RM_2 B_2
   go_wp2
   go_ret
   exact⟨rfl,B_3.out⟩
 | some es =>
  rw[hq] at hres
  obtain⟨v,u,ps,qs,rfl,hE⟩:=hres
  obtain⟨va,vc,rfl⟩:=aG_ hE.a.own
  obtain⟨ua,uc,rfl⟩:=aG_ hE.b.own
  have Ees:=hid (es_of hq)
  have hEs:nQ_ w2 (.slice va es.length vc) es:=hE.a.es (by have:=Ees.out.ln;omega) fun b hb=>hb.2.1
  have hEa:EAt w2 (.slice va es.length vc) es:=hE.a.eat fun b hb=>hb.2.1
  have RA:=hid hEa
  clear hq hE hEa
  have RL_2:=hid (RL_1.out.low hB)
  have RM_2:=hid (RM_1.out.low hB)
  have B_2:=hid (B_1.out.trans (hB.mono B_1.out.size))
  have RE_2:=hid hEs
  clear hB hEs RL_1 RM_1 B_1
  have RX_2:Hid (Aft w2 w2):=hid ⟨Below.refl _ _⟩
  have BA:=hid B_2.out
  clear RL_2
  have C:=hid (mu_ _ (.slice ma ms.length mc) ms RM_2.out)
  go_wp2_with fail
  refine C.out.mono ?_
  rintro e w3 ⟨hB,hres⟩
  clear C
  cases hq:c9_ ms with
  | none =>
   rw[hq] at hres
   subst hres
   clear hq
   have RM_3:=hid (RM_2.out.low hB)
   have RE_3:=hid (RE_2.out.low hB)
   have RX_3:=hid (RX_2.out.low hB)
   have B_3:=hid (B_2.out.trans (hB.mono B_2.out.size))
   clear hB RM_2 RE_2 RX_2 B_2
   go_wp2
   go_ret
   exact⟨rfl,B_3.out⟩
  | some bs =>
   rw[hq] at hres
   obtain⟨x,y,pt,qt,rfl,hE⟩:=hres
   obtain⟨xa,xc,rfl⟩:=aG_ hE.a.own
   obtain⟨ya,yc,rfl⟩:=aG_ hE.b.own
   have Ebs:=hid (es_of hq)
   have hEs:nQ_ w3 (.slice xa bs.length xc) bs:=hE.a.es (by have:=Ebs.out.ln;omega) fun b hb=>hb.2.1
   have hq0:BRw w2.heap.size xa xc bs.length bs w3:=⟨by
    by_cases h0:0<bs.length
    ·obtain⟨g,off,cap,hv,hg,hr⟩:=Rw.of hE.a (by have:=Ebs.out.ln;omega) h0 fun b hb=>⟨hb.2.1,hb.2.2.1⟩
     injection hv with hv _ _
     exact .inr ⟨g,off,hv,hg,rfl,hr⟩
    ·have e0:=List.eq_nil_of_length_eq_zero (show bs.length=0 by omega)
     have he:EAt w3 (.slice xa bs.length xc) bs:=hE.a.eat fun b hb=>hb.2.1
     rw[e0] at he ⊢
     exact .inl ⟨rfl,rfl,he⟩⟩
   have RQ_0:=hid hq0
   clear hq hE hq0
   have RM_3:=hid (RM_2.out.low hB)
   have RE_3:=hid (RE_2.out.low hB)
   have RX_3:=hid (RX_2.out.low hB)
   have B_3:=hid (B_2.out.trans (hB.mono B_2.out.size))
   have RF_3:=hid hEs
   clear hB hEs RM_2 RE_2 RX_2 B_2
   have RQ_3:=hid RQ_0.out
   clear RQ_0
   clear RM_3
   have HE16:Hid (es.length≤16):=hid Ees.out.ln
   have HB16:Hid (bs.length≤16):=hid Ebs.out.ln
   have hcase:decide ((4:Int)<(ls.length:Int))=true∨(decide ((4:Int)<(ls.length:Int))=false∧decide ((4:Int)<(ms.length:Int))=true)∨(decide ((4:Int)<(ls.length:Int))=false∧decide ((4:Int)<(ms.length:Int))=false):=by
    cases decide ((4:Int)<(ls.length:Int))<;>cases decide ((4:Int)<(ms.length:Int))<;>simp
   rcases hcase with z1|⟨z1,z2⟩|⟨z1,z2⟩
   ·go_wp2
    go_ret
    exact⟨rfl,B_3.out⟩
   ·go_wp2
    go_ret
    exact⟨rfl,B_3.out⟩
   ·obtain⟨n1,hn1⟩:∃ n1,oN_ es=n1:=⟨_,rfl⟩
    obtain⟨n2,hn2⟩:∃ n2,oN_ bs=n2:=⟨_,rfl⟩
    have N1:=hid hn1
    have N2:=hid hn2
    clear hn1 hn2
    have C0:=near_any RE_3.out Ees.out
    rw[N1.out] at C0
    have C:=hid C0
    clear C0
    go_wp2_with fail
    refine C.out.mono ?_
    rintro e w4 ⟨rfl,hB⟩
    clear C
    have RE_4:=hid (RE_3.out.low hB)
    have RX_4:=hid (RX_3.out.low hB)
    have RF_4:=hid (RF_3.out.low hB)
    have RQ_4:=hid (RQ_3.out.low hB)
    have B_4:=hid (B_3.out.trans (hB.mono B_3.out.size))
    clear hB RE_3 RX_3 RF_3 RQ_3 B_3
    have C0:=near_any RF_4.out Ebs.out
    rw[N2.out] at C0
    have C:=hid C0
    clear C0
    go_wp2_with fail
    refine C.out.mono ?_
    rintro e w5 ⟨rfl,hB⟩
    clear C
    have RE_5:=hid (RE_4.out.low hB)
    have RX_5:=hid (RX_4.out.low hB)
    have RF_5:=hid (RF_4.out.low hB)
    have RQ_5:=hid (RQ_4.out.low hB)
    have B_5:=hid (B_4.out.trans (hB.mono B_4.out.size))
    clear hB RE_4 RX_4 RF_4 RQ_4 B_4
    clear RE_5
    clear RF_5
    have hcase:n1=false∨(n1=true∧n2=false)∨(n1=true∧n2=true):=by
     cases n1<;>cases n2<;>simp
    rcases hcase with rfl|⟨rfl,rfl⟩|⟨rfl,rfl⟩
    ·go_wp2
     go_ret
     exact⟨rfl,B_5.out⟩
    ·go_wp2
     go_ret
     exact⟨rfl,B_5.out⟩
    ·have HQ0:=hid RQ_5.out.h
     have HX0:=hid RX_5.out.h
     have N1b:=hid N1.out
     clear RQ_5 RX_5 B_5 N1
     go_wp2
     go_loopw [14] (fun iv wr=>∃ i:Nat,iv=.int .i64 (i:Int)∧i≤bs.length∧sK_ w2.heap.size wr xa xc bs.length (frF bs i)∧Below w2.heap.size w2 wr) (fun iv _=>bs.length - (intOf iv).toNat)
     case atStart=>exact⟨0,rfl,Nat.zero_le _,HQ0.out,HX0.out⟩
     case round =>
      clear HQ0 HX0
      obtain⟨i,rfl,hil,hrow,hBr⟩:=hrel
      have i0:(0:Int)≤(i:Int):=by omega
      have BX:=hid hBr
      have HROW:=hid hrow
      clear hBr hrow
      by_cases hi:i<bs.length
      ·have i1:(i:Int)<(bs.length:Int):=by omega
       have i2:(i:Int)<16:=by have:=HB16.out;omega
       obtain⟨g,off,rfl,hg,hnl,hR⟩:=HROW.out.resolve_left (by rintro ⟨h,_⟩;omega)
       have FI:=hid (frF_at hi)
       have FS:=hid (frF_set hi)
       have FL:Hid ((frF bs i).length=bs.length):=hid (frF_len bs i (by omega))
       have QQ:=hid (Ebs.out.ok _ (List.getElem_mem hi))
       have NM:=hid (kv_.1 N2.out _ (List.getElem_mem hi))
       generalize bs[i]=x at *
       generalize frF bs i=F at *
       clear hnl
       have HG:=hid hg
       have RW0:=hid hR
       obtain⟨pa,pc,qa,qc,h1,h2,h3,h4⟩:=hR.one FI.out
       have C1:=hid h1
       have A1_:=hid h3
       have k0:=C1.out.1
       have k1:=C1.out.2.1
       have k2:=C1.out.2.2.1
       have k3:=C1.out.2.2.2
       clear hg hR h1 h2 h3 h4 HROW
       have hmt:∀ m∈ap_ x.1,m<400000:=fun m hm=>NM.out m (List.mem_append.2 (.inl hm))
       have hfe:sO_ (ap_ x.1) x.1=sM_ x.1:=sN_ QQ.out.l.1.1 fun m hm=>⟨(bS_ QQ.out.l.1 m hm).1,hmt m hm⟩
       have hC:=far_any (T:=Ot g wr) (w:=wr) (t:=x.1) (a:=pa) (c:=pc) (fun b hb=>hb.1) A1_.out QQ.out.l.1 QQ.out.l.2.1 hmt (ag_ HT.out (BA.out.trans (BX.out.mono BA.out.size)))
       rw[hfe] at hC
       unfold tv at hC
       have CF:=hid hC
       clear hC hfe hmt
       obtain⟨y,hy⟩:∃ y,sM_ x.1=y:=⟨_,rfl⟩
       have HY:=hid hy
       rw[hy] at CF
       clear hy
       go_upto_region 13 with fail
       go_cut [] from 70 to 79 (fun wx=>Rw g off wx (F.set i (y,x.2))∧Below w2.heap.size w2 wx)
       case first =>
        go_wp2_with fail
        refine CF.out.mono ?_
        rintro e x1 ⟨ta,tc,he,hA1,hb1⟩
        unfold tv at he
        subst he
        have HX1:=hid hb1
        have HA1:=hid hA1
        have q0:=(C1.out.blk (HX1.out.block g RW0.out.lt)).1
        have q1:=(C1.out.blk (HX1.out.block g RW0.out.lt)).2.1
        have q2:=(C1.out.blk (HX1.out.block g RW0.out.lt)).2.2.1
        have q3:=(C1.out.blk (HX1.out.block g RW0.out.lt)).2.2.2
        have f0:=(RW0.out.low HX1.out).fz
        have s1:=st1 q1
        have s2:=st2 q2
        have s3:=st3 q3
        clear hA1 hb1 k0 k1 k2 k3 CF
        go_wp2_with fail
        go_meet
        have hW:=Rw.put1 (RW0.out.low HX1.out) FI.out (HA1.out.mono (S':=Ot g x1) fun b hb=>by
         rcases hb with hb|hb
         ·exact⟨ba_ hb.1 HX1.out.size,hb.2⟩
         ·exact⟨hb.2,by have h1:wr.heap.size≤b:=hb.1;have:=RW0.out.lt;omega⟩)
        exact⟨hW,rs_ (BX.out.trans (HX1.out.mono BX.out.size)) HG.out⟩
       obtain⟨hR2,hB2⟩:=hcut
       obtain⟨wx,hwx⟩:∃ wx:World,wx=wc:=⟨_,rfl⟩
       subst hwx
       have RW2:=hid hR2
       have BX2:=hid hB2
       have FI2:Hid ((F.set i (y,x.2))[i]? = some (y,x.2)):=hid (by
        obtain⟨h,_⟩:=List.getElem?_eq_some_iff.1 FI.out
        rw[List.getElem?_set_self h])
       obtain⟨pa,pc,qa,qc,h1,h2,h3,h4⟩:=hR2.one FI2.out
       have C2:=hid h2
       have A2_:=hid h4
       clear hR2 hB2 h1 h2 h3 h4 k0 k1 k2 k3 CF C1 A1_
       have k0:=C2.out.1
       have k1:=C2.out.2.1
       have k2:=C2.out.2.2.1
       have k3:=C2.out.2.2.2
       have hmt:∀ m∈ap_ x.2,m<400000:=fun m hm=>NM.out m (List.mem_append.2 (.inr hm))
       have hfe:sO_ (ap_ x.2) x.2=sM_ x.2:=sN_ QQ.out.r.1.1 fun m hm=>⟨(bS_ QQ.out.r.1 m hm).1,hmt m hm⟩
       have hC:=far_any (T:=Ot g wx) (w:=wx) (t:=x.2) (a:=qa) (c:=qc) (fun b hb=>hb.1) A2_.out QQ.out.r.1 QQ.out.r.2.1 hmt (ag_ HT.out (BA.out.trans (BX2.out.mono BA.out.size)))
       rw[hfe] at hC
       unfold tv at hC
       have CF:=hid hC
       clear hC hfe hmt
       obtain⟨y2,hy2⟩:∃ y,sM_ x.2=y:=⟨_,rfl⟩
       have HY2:=hid hy2
       rw[hy2] at CF
       clear hy2
       go_wp2_with fail
       refine CF.out.mono ?_
       rintro e x1 ⟨ta,tc,he,hA1,hb1⟩
       unfold tv at he
       subst he
       have HX1:=hid hb1
       have HA1:=hid hA1
       have q0:=(C2.out.blk (HX1.out.block g RW2.out.lt)).1
       have q1:=(C2.out.blk (HX1.out.block g RW2.out.lt)).2.1
       have q2:=(C2.out.blk (HX1.out.block g RW2.out.lt)).2.2.1
       have q3:=(C2.out.blk (HX1.out.block g RW2.out.lt)).2.2.2
       have f0:=(RW2.out.low HX1.out).fz
       have s1:=st1 q1
       have s2:=st2 q2
       have s3:=st3 q3
       clear hA1 hb1 k0 k1 k2 k3 CF
       have HW:Hid (Rw g off (hU_ x1 g (off+i*8+4) y2 ta tc) (F.set i (y,y2))):=hid (by
        have hW:=Rw.put2 (RW2.out.low HX1.out) FI2.out (t:=y2) (a:=ta) (c:=tc) (HA1.out.mono (S':=Ot g x1) fun b hb=>by
         rcases hb with hb|hb
         ·exact⟨ba_ hb.1 HX1.out.size,hb.2⟩
         ·exact⟨hb.2,by have h1:wx.heap.size≤b:=hb.1;have:=RW2.out.lt;omega⟩)
        rwa [List.set_set] at hW)
       have HBZ:Hid (Below w2.heap.size w2 (hU_ x1 g (off+i*8+4) y2 ta tc)):=hid (rs_ (BX2.out.trans (HX1.out.mono BX2.out.size)) HG.out)
       have FE:Hid (F.set i (y,y2)=frF bs (i+1)):=hid (by rw[← FS.out,← HY.out,← HY2.out];rfl)
       go_wp2
       go_roundw
       case measure=>simp[intOf];omega
       case rel=>exact⟨i+1,by go_num,by omega,.inr ⟨g,off,rfl,HG.out,by have:=frF_len bs (i+1) (by omega);omega,by rw[← FE.out];exact HW.out⟩,HBZ.out⟩
      ·obtain rfl:i=bs.length:=by omega
       have hB:Below w2.heap.size w2 wr:=BX.out
       have hrow:=HROW.out
       rw[frF_all] at hrow
       have RA_6:=hid (RA.out.low hB)
       have RQ_6:Hid (BRw w2.heap.size xa xc bs.length (bs.map ru_) wr):=hid ⟨hrow⟩
       have B_6:=hid (BA.out.trans (hB.mono BA.out.size))
       have EB:=hid (far_es Ebs.out N2.out)
       have LB:Hid ((bs.map ru_).length≤16):=hid EB.out.ln
       obtain⟨j1,j2,j3,r1,r2,r3,hj1,hj2,hj3,hu1,hu2,hu3,p1,p2⟩:=rC_ Ees.out EB.out (near_lo N1b.out) (far_hi Ebs.out)
       have HU1:=hid hu1
       have HU2:=hid hu2
       have HU3:=hid hu3
       have HJ:=hid (⟨hj1,hj2,hj3⟩:j1≤100000000000∧j2≤100000000000∧j3≤200000000000)
       have P1:=hid p1
       have P2:=hid p2
       clear hB hrow hi hil i0 HROW BX hu1 hu2 hu3 hj1 hj2 hj3 p1 p2
       have C:=hid ((RA_6.out.es (by have:=HE16.out;omega)).call (fun e he=>(Ees.out.ok e he).sm) (by have:=HE16.out;omega) (ag_ HT.out B_6.out) HU1.out (by have:=HJ.out;omega))
       go_wp2_with fail
       refine C.out.mono ?_
       rintro e w46 hun
       obtain⟨ka,kc,kR,er,rfl,hK,hB,hk1⟩:=gY_.formA hun
       clear C hun
       have RA_7:=hid (RA_6.out.low hB)
       have RQ_7:=hid (RQ_6.out.low hB)
       have B_7:=hid (B_6.out.trans (hB.mono B_6.out.size))
       have RK_7:=hid hK
       clear hB hK RA_6 RQ_6 B_6
       have C:=hid ((RQ_7.out.h.es (by have:=LB.out;omega)).call (fun e he=>(EB.out.ok e he).sm) (by have:=LB.out;omega) (ag_ HT.out B_7.out) HU2.out (by have:=HJ.out;omega))
       go_wp2_with fail
       refine C.out.mono ?_
       rintro e w47 hun
       obtain⟨na,nc,nR,fr,rfl,hK,hB,hk2⟩:=gY_.formA hun
       clear C hun
       have RA_8:=hid (RA_7.out.low hB)
       have RQ_8:=hid (RQ_7.out.low hB)
       have RK_8:=hid (RK_7.out.low hB)
       have B_8:=hid (B_7.out.trans (hB.mono B_7.out.size))
       have RN_8:=hid hK
       clear hB hK RA_7 RQ_7 RK_7 B_7
       obtain⟨v1,wa,v2,w48,hr1,hr2,hB,hA⟩:=RQ_8.out.h.two (W:=w47) rfl RA_8.out (by have:=HE16.out;have:=LB.out;omega)
       have HR1_:=hid hr1
       have HR2_:=hid hr2
       clear hr1 hr2
       have RA_9:=hid (RA_8.out.low hB)
       have RQ_9:=hid (RQ_8.out.low hB)
       have RK_9:=hid (RK_8.out.low hB)
       have RN_9:=hid (RN_8.out.low hB)
       have B_9:=hid (B_8.out.trans (hB.mono B_8.out.size))
       have RG_9:=hid hA
       clear hB hA RA_8 RQ_8 RK_8 RN_8 B_8
       have EG:Hid (∀ e∈es++bs.map ru_,SmT e.1∧SmT e.2):=hid fun e he=>by
        rcases List.mem_append.1 he with h|h
        ·exact (Ees.out.ok e h).sm
        ·exact (EB.out.ok e h).sm
       have C:=hid ((RG_9.out.es (by rw[List.length_append];have:=HE16.out;have:=LB.out;omega)).call EG.out (by rw[List.length_append];have:=HE16.out;have:=LB.out;omega) (ag_ HT.out B_9.out) HU3.out (by have:=HJ.out;omega))
       go_wp2_with (first|(at_builtin;refine Lib.wpList_append_run _ rfl _ _ _ _ rfl _ _ rfl rfl _ _ HR1_.out ?_)|(at_builtin;refine Lib.wpList_append_run _ rfl _ _ _ _ rfl _ _ rfl rfl _ _ HR2_.out ?_))
       refine C.out.mono ?_
       rintro e w49 hun
       obtain⟨oa,oc,oR,gr,rfl,hK,hB,hk3⟩:=gY_.formA hun
       clear C hun HR1_ HR2_
       have RA_10:=hid (RA_9.out.low hB)
       have RQ_10:=hid (RQ_9.out.low hB)
       have RK_10:=hid (RK_9.out.low hB)
       have RN_10:=hid (RN_9.out.low hB)
       have RG_10:=hid (RG_9.out.low hB)
       have B_10:=hid (B_9.out.trans (hB.mono B_9.out.size))
       have RO_10:=hid hK
       clear hB hK RA_9 RQ_9 RK_9 RN_9 RG_9 B_9
       clear RA_10
       clear RQ_10
       clear RG_10
       have hfit:=sy_ Ees.out EB.out P1.out P2.out hk1 hk2 hk3
       clear hk1 hk2 hk3 P1 P2 HU1 HU2 HU3 HJ
       rcases hfit with ⟨ne,rfl⟩|⟨rfl,ne,rfl⟩|⟨rfl,rfl,rfl,hcat,l1,l2,hsm⟩
       ·have z3:((gr:Int) != 0)=true:=bne_iff_ne.2 (by omega)
        go_wp2
        go_ret
        exact⟨rfl,B_10.out⟩
       ·have z3:((gr:Int) != 0)=true:=bne_iff_ne.2 (by omega)
        go_wp2
        go_ret
        exact⟨rfl,B_10.out⟩
       ·rw[← hcat] at hsm
        have HSM:=hid hsm
        have HC:=hid hcat
        have HLN:Hid (oR.length≤48):=hid (by rw[hcat,List.length_append];omega)
        have HL2:Hid (kR.length+nR.length≤4000):=hid (by omega)
        clear hsm l1 l2 hcat
        obtain⟨v1,wb,v2,w50,hr1,hr2,hB,hA⟩:=two_ks (W:=w49) rfl RK_10.out RN_10.out HL2.out
        rw[← HC.out] at hA
        have HR1_:=hid hr1
        have HR2_:=hid hr2
        clear hr1 hr2
        have RK_11:=hid (RK_10.out.low hB)
        have RN_11:=hid (RN_10.out.low hB)
        have RO_11:=hid (RO_10.out.low hB)
        have B_11:=hid (B_10.out.trans (hB.mono B_10.out.size))
        have RT_11:=hid hA
        clear hB hA RK_10 RN_10 RO_10 B_10
        have C:=hid (j2_ w50 _ oR 0 RT_11.out.ks HSM.out (by have:=HLN.out;omega) (by omega) (ag_ HT.out B_11.out))
        go_wp2_with (first|(at_builtin;refine Lib.wpList_append_run _ rfl _ _ _ _ rfl _ _ rfl rfl _ _ HR1_.out ?_)|(at_builtin;refine Lib.wpList_append_run _ rfl _ _ _ _ rfl _ _ rfl rfl _ _ HR2_.out ?_))
        refine C.out.mono ?_
        rintro e w51 ⟨rfl,hB⟩
        clear C HR1_ HR2_
        have RK_12:=hid (RK_11.out.low hB)
        have RN_12:=hid (RN_11.out.low hB)
        have RO_12:=hid (RO_11.out.low hB)
        have RT_12:=hid (RT_11.out.low hB)
        have B_12:=hid (B_11.out.trans (hB.mono B_11.out.size))
        clear hB RK_11 RN_11 RO_11 RT_11 B_11
        have C:=hid (j2_ w51 _ oR 0 RO_12.out.ks HSM.out (by have:=HLN.out;omega) (by omega) (ag_ HT.out B_12.out))
        go_wp2_with fail
        refine C.out.mono ?_
        rintro e w52 ⟨rfl,hB⟩
        clear C
        have RK_13:=hid (RK_12.out.low hB)
        have RN_13:=hid (RN_12.out.low hB)
        have RO_13:=hid (RO_12.out.low hB)
        have RT_13:=hid (RT_12.out.low hB)
        have B_13:=hid (B_12.out.trans (hB.mono B_12.out.size))
        clear hB RK_12 RN_12 RO_12 RT_12 B_12
        go_wp2
        go_ret
        exact⟨rfl,B_13.out⟩
end Go.Proofs.YtjecnionbjlncaaGreatDoor.Tp

namespace Go.Proofs.YtjecnionbjlncaaGreatDoor.unifyApart
open Go.ChangeShapes Go.WideShapes Go.ChangeAt Go.WideMaps Go.WideElems Go.RowKit
open Go.ChangeMaps (open_string shut_string)
open Tp (Tab sg_ p5_ sQ_ own laidOut)

/-! ### the row's step, as the kit's worked example (a law over laid variables) has it -/
set_option linter.unusedVariables false in
set_option maxRecDepth 100000 in
theorem lifted (os : Os) (started : os.Started) (H : Type) (enc : TypeId × Value → H) :
    ReturnsInHanded {} Tryz.checked os 7 .any (fun w args => (Rows.unifyApartSpec.pre enc Tryz.prog Tryz.f7 [] false w args ∧ laidMetH Tryz.prog sg_ w) ∧ sizedMet enc Tryz.prog Tryz.f7 (OpenSpec.ofChange Rows.unifyApartSpec) false w args)
      (Rows.unifyApartSpec.post enc Tryz.prog Tryz.f7 false true false false) := by
  refine returnsInHanded_of_change_and (C := Tryz.checked) (X := fun w _ => laidMetH Tryz.prog sg_ w) (fun _ _ _ hh h => h.of_heap hh) own started (by kernel_rfl) Tryz.func7
    (ChangeSpec.witness_shaped (enc := enc) (C := Tryz.checked) (os := os) (X := fun w _ => laidMetH Tryz.prog sg_ w) false (World.doorLaid Tryz.prog 400 os) #[.slice none 0 0, .slice none 0 0] 8 rfl (World.shaped_of_RefB (by kernel_rfl) (by kernel_rfl)) (by kernel_rfl) (by kernel_rfl) (by kernel_rfl) (sQ_ os _)) ?_
  intro W base args ds gs before hval0 hW _ _ hL _
  have hval : ∀ (j : Nat) t v, Tryz.f7.params[j]? = some t → args[j]? = some v → Value.okWide Tryz.prog W .any base t v := hval0
  have hW' := hW
  obtain ⟨p, q, hA0, hV, rfl, hfz, hnd⟩ := hW
  have hA : DataW.TrodAll enc Tryz.prog W 0 (fun _ => true) true Tryz.f7.params.toList args.toList ds p := hA0
  rw [Tryz.params7] at hA hval
  obtain ⟨v0, vs0, d0, ds0, p0, q0, hargs, rfl, rfl, h0, r0⟩ := trodAll_cons hA
  obtain ⟨v1, vs1, d1, ds1, p1, q1, rfl, rfl, rfl, h1, r1⟩ := trodAll_cons r0
  obtain ⟨rfl, rfl, rfl⟩ := trodAll_nil r1
  obtain rfl : args = #[v0, v1] := by cases args; simp_all
  obtain ⟨rfl, rfl⟩ := trodVars_none hV
  have k0 := h0
  have lt0 : ∀ x ∈ p0, x.block < W.heap.size := by obtain ⟨m, hm⟩ := k0; exact DataW.trod_lt m _ _ _ hm
  obtain ⟨a0, w0⟩ := Tp.opnL (hval 0 22 v0 rfl rfl) h0
  have k1 := h1
  have lt1 : ∀ x ∈ p1, x.block < W.heap.size := by obtain ⟨m, hm⟩ := k1; exact DataW.trod_lt m _ _ _ hm
  obtain ⟨a1, w1⟩ := Tp.opnL (hval 1 22 v1 rfl rfl) h1
  clear hA0 hval0
  refine (Tp.unifyApart_walk v0 a0 v1 a1 W w0 w1 (p5_ hL)).mono fun e W' ⟨he, bel⟩ => ?_
  subst he
  exact ⟨_, rfl, _, _, _, [], _, [], hW', trodAll_mk1 (shut_bool Tryz.underlying4 _), (trodAll_cons_mk (Below.trod laidOut (by kernel_rfl) (of_decide_eq_true (by kernel_rfl)) k0 bel lt0) (trodAll_cons_mk (Below.trod laidOut (by kernel_rfl) (of_decide_eq_true (by kernel_rfl)) k1 bel lt1) trodAll_mk0)), rfl, bel.frame _, fun h => by cases h⟩

theorem row_holds : Rows.UnifyApartSaid :=
  OpenClaim.holds_of_wide 7 Tryz.f7 rfl rfl rfl rfl rfl rfl rfl ⟨rfl, rfl, rfl, rfl, rfl⟩ rfl rfl rfl rfl rfl (by kernel_rfl) Tryz.func7 (by kernel_rfl)
    (of_decide_eq_true (by kernel_rfl)) (by unfold Func.isWrapper; first | (rw [if_pos (by decide +kernel)]; kernel_rfl) | (rw [if_neg (by decide +kernel)]; exact ⟨rfl, rfl⟩))
    (fun os started H enc _ => lifted os started H enc)

/-- THE STATEMENT: the row, tied to the program's text. -/
theorem proved : Rows.UnifyApartCardSaid :=
  Claim7.holds_tied_plain_at .later [] [.data, .data, .data, .sentinel, .sentinel] true Rows.unifyApartCard.stood.harness true
    row_holds (fun _ h => by cases h) (by kernel_rfl) (fun _ h => by cases h) unifyApart_row_tie rfl ⟨rfl, rfl⟩ (by kernel_rfl) rfl
    (fun f fn hf hfn => by
      obtain rfl : f = 7 := Option.some.inj ((show Tryz.prog.funcNamed "savant/savantlaw04.UnifyApart" = some 7 by kernel_rfl).symm.trans hf) |>.symm
      obtain rfl : fn = Tryz.f7 := (Option.some.inj (Tryz.func7.symm.trans hfn)).symm
      exact ⟨by kernel_rfl, fun j t ht => by
        rw [Tryz.params7] at ht
        have hm : t ∈ [22, 22] := by simpa using Array.mem_of_getElem? ht
        have hall : ([22, 22].all fun u => !Tryz.prog.wantsStandIn u) = true := by kernel_rfl
        exact (show Tryz.prog.wantsStandIn t = false by simpa using List.all_eq_true.1 hall t hm)⟩)
    (by kernel_rfl)
#print axioms proved
end Go.Proofs.YtjecnionbjlncaaGreatDoor.unifyApart

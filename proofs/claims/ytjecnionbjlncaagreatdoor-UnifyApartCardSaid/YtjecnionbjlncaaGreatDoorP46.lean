/- Packed. -/
import Derived.Test.YtjecnionbjlncaaGreatDoorP44
import Derived.Test.YtjecnionbjlncaaGreatDoorP45
import Derived.Laws.Strings
set_option maxRecDepth 100000
set_option maxHeartbeats 6400000
namespace Go.Proofs.YtjecnionbjlncaaGreatDoor.Tp
section
open Go.RowKit Go.Sort
theorem gR_ {t:Ty}(hs:bG_ t):(aM_ t).length≤4500000000000:=by
 have hcs:=hF_ t hs.2.1 hs.2.2;have h2:=hs.2.1;have hk:=gu_ t.depth (ai_ t) t 0 (aC_ _) hs.1 (by omega) (by omega);have h1:=hm_ (dl_ t) hk.2.2.2.2.1;have h3:(dl_ t).size=t.size:=hk.2.2.2.1;unfold aM_;omega
def lK_ (w:World)(pv:Value)(R:Kn):Prop :=
 ∃ a cap,pv=.slice a R.length cap∧(R=[]∨∃ b off,a=some ⟨b,off,none⟩∧b<w.heap.size∧∀ i (h:i<R.length),∃ xa xc,
  (∀ j u,j<5→(fo_ R[i] (.slice xa R[i].2.args.length xc))[j]? = some u→w.cell? ⟨b,off+i*5+j,none⟩=some u)∧aa_ (Lt w.heap.size) w (.slice xa R[i].2.args.length xc) R[i].2.args)
theorem lK_.low {w w':World}{pv:Value}{R:Kn}(h:lK_ w pv R)(hb:Below w.heap.size w w'):lK_ w' pv R:=by
 obtain⟨a,cap,e,hc⟩:=h;refine⟨a,cap,e,hc.imp id ?_⟩;rintro ⟨b,off,e,hb',hc⟩;refine⟨b,off,e,ba_ hb' hb.size,fun i hi=>?_⟩;obtain⟨xa,xc,h1,h2⟩:=hc i hi;exact⟨xa,xc,fun j u hj hu=>(World.cell?_of_block (hb.block b hb')).trans (h1 j u hj hu),(h2.keep fun j hj=>hb.block j hj).mono fun _ hj=>ba_ hj hb.size⟩
theorem dZ_.ks {S:Nat→Prop}{lo:Nat}{w:World}{v:Value}{R:Kn}{ps:List Value}(h:dZ_ S lo w v R ps)(hS:∀ b,S b→b<w.heap.size):lK_ w v R:=by
 rcases h.own.2 with ⟨hv,h0⟩|⟨g,cap,cur,hv,hb,hg,h1,h2,h3,h4⟩
 ·exact⟨none,0,by rw[hv,h0],.inl (List.eq_nil_of_length_eq_zero h0)⟩
 ·refine⟨some ⟨g,0,none⟩,cap,hv,.inr ⟨g,0,rfl,(Array.getElem?_eq_some_iff.1 hg).1,fun i hi=>?_⟩⟩
  have hip:i<ps.length:=by rw[h.len];exact hi
  obtain⟨a,c,e1,hA⟩:=h.at_ i R[i] ps[i] (List.getElem?_eq_getElem hi) (List.getElem?_eq_getElem hip);rw[e1] at hA;refine⟨a,c,fun j u hj hu=>?_,hA.mono hS⟩;have hc:=h.own.cells (g:=g) (by rw[hv];rfl) (i*5+j) u (by
   rw[jc_ R ps h.len i hi hip j hj,e1];exact hu)
  have hadd:(⟨g,0,none⟩:Addr).add (i*5+j)=⟨g,0+i*5+j,none⟩:=by unfold Addr.add;split<;>simp_all
  rw[hadd] at hc;exact hc
theorem lK_.nil (w:World):lK_ w (.slice none 0 0) []:=⟨none,0,rfl,.inl rfl⟩
def hI_ (R:Kn):List UInt8:=R.flatMap fun x=>59 :: Lib.decDigits x.1.toNat++61 :: aM_ x.2
def fu_ (er:Nat)(R:Kn):List UInt8:=Lib.decDigits er++hI_ R
theorem kW_ (R:Kn)(x:Int × Ty):hI_ (R++[x])=hI_ R++(59 :: Lib.decDigits x.1.toNat++61 :: aM_ x.2):=by
 unfold hI_;rw[List.flatMap_append];simp
theorem gP_ (u:Nat)(h:u<1000000000000000000):(Lib.decDigits u).length≤20:=by
 have:=(dI_ u).2.2.2 18 (by omega) h;omega
theorem iw_:∀ R:Kn,(∀ x∈R,bG_ x.2∧0≤x.1∧x.1<1000000000000000000)→(hI_ R).length≤R.length*4600000000000
 | [],_=>by simp[hI_]
 | x :: R,h=>by
  have h1:=iw_ R fun y hy=>h y (by simp[hy]);obtain⟨hs,h0,hx⟩:=h x (by simp);have h2:=gR_ hs;have h3:=gP_ x.1.toNat (by omega);unfold hI_ at *;rw[List.flatMap_cons,List.length_append];simp only[List.length_append,List.length_cons];rw[Nat.add_mul];omega
theorem j2_ (w:World)(pv:Value)(R:Kn)(er:Nat)(hR:lK_ w pv R)(hs:∀ x∈R,bG_ x.2∧0≤x.1∧x.1<1000000000000000000)(hl:R.length≤100)(her:er<1000)(hT:Tab w) :
  Calls Tryz.prog 18 #[pv,.int .i64 er] w (bX_ w (fu_ er R)):=by
 obtain⟨a,cap,rfl,hc⟩:=hR;have e0:(0:Int)≤(er:Int):=by omega
 have HC:=hid hc;have HS:=hid hs;have HL:=hid hl;have HT:=hid hT;have CD:=hid (gO_ er (by omega) w);have DL:=hid (gP_ er (by omega));have HB:Hid (∀ j,j≤R.length→(hI_ (R.take j)).length≤460000000000000):=hid fun j hj=>by
  have h1:=iw_ (R.take j) fun x hx=>hs x (List.mem_of_mem_take hx);have h2:(R.take j).length≤100:=by rw[List.length_take];omega
  have h3:=Nat.mul_le_mul_right 4600000000000 h2;omega
 have ez:(if (0:Int)<(er:Int) then (er:Int) else 0)=(er:Int):=by split<;>omega
 clear hc hs hl hT;go_enter Tryz.func18,Tryz.ntmps18;go_wp2_with fail;refine CD.out.mono ?_;rintro e w1 ⟨rfl,B1⟩;have B1H:=hid B1;clear B1 CD;go_wp2_with fail
 go_loopw [5,6] (fun sv iv wr=>∃ i:Nat,iv=.int .i64 i∧i≤R.length∧sv=.string (ab_ (fu_ er (R.take i)))∧Below w.heap.size w wr) (fun _ iv _=>R.length - (intOf iv).toNat)
 case atStart=>exact⟨0,rfl,Nat.zero_le _,by rw[List.take_zero];unfold fu_ hI_;rw[List.flatMap_nil,List.append_nil],B1H.out⟩
 case round =>
  obtain⟨i,rfl,hil,rfl,hB⟩:=hrel;have z0:(0:Int)≤(i:Int):=by omega
  have BH:=hid hB
  by_cases hi:i<R.length
  ·have z1:(i:Int)<(R.length:Int):=by omega
   have z2:(i:Int)<100:=(by have:=HL.out;omega);obtain⟨b,off,rfl,hb,hcl⟩:∃ b off,a=some ⟨b,off,none⟩∧b<w.heap.size∧∀ i (h:i<R.length),∃ xa xc,
     (∀ j u,j<5→(fo_ R[i] (.slice xa R[i].2.args.length xc))[j]? = some u→w.cell? ⟨b,off+i*5+j,none⟩=some u)∧aa_ (Lt w.heap.size) w (.slice xa R[i].2.args.length xc) R[i].2.args:=by
    rcases HC.out with h|h
    ·rw[h] at hi;simp at hi
    ·exact h
   obtain⟨xa,xc,h1,h2⟩:=hcl i hi;obtain⟨sm1,m0,m1⟩:=HS.out _ (List.getElem_mem hi);have k:∀ o,wr.cell? ⟨b,o,none⟩=w.cell? ⟨b,o,none⟩:=fun o=>World.cell?_of_block (hB.block b hb);have q0:∀ q,(dt_ wr q).cell? ⟨b,off+i*5,none⟩=some (.int .i64 R[i].1):=aj_ ((k _).trans (h1 0 _ (by omega) rfl));have q1:=aj_ ((k _).trans (h1 1 _ (by omega) rfl));have q2:=aj_ ((k _).trans (h1 2 _ (by omega) rfl));have q3:=aj_ ((k _).trans (h1 3 _ (by omega) rfl));have q4:=aj_ ((k _).trans (h1 4 _ (by omega) rfl));have SN:Hid (fu_ er (R.take (i+1))=fu_ er (R.take i)++(59 :: Lib.decDigits R[i].1.toNat++61 :: aM_ R[i].2)):=hid (by
    rw[List.take_succ_eq_append_getElem hi];unfold fu_;rw[kW_,List.append_assoc])
   have em:((R[i].1.toNat:Nat):Int)=max 0 R[i].1:=(by omega);have DX:=hid (fun q=>cU_ (gO_ R[i].1.toNat (by omega) (dt_ wr q)));rw[em] at DX;have DY:=hid (fun q=>cU_ (jd_ R[i].2 (Lt w.heap.size) xa xc (dt_ wr q) (h2.keep fun j hj=>((aA_ wr q).block j (ba_ hj hB.size)).trans (hB.block j hj)) (fun j hj=>ba_ hj (cj_ hB.size (aA_ wr q).size)) sm1.1 sm1.2 (ag_ HT.out (hB.trans ((aA_ wr q).mono hB.size)))));have s1:(ab_ (fu_ er (R.take i))).size≤460000000000021:=by
    rw[aU_];unfold fu_;rw[List.length_append];have:=HB.out i hil;have:=DL.out;omega
   have s2:(ab_ (Lib.decDigits R[i].1.toNat)).size≤20:=by rw[aU_];exact gP_ _ (by omega)
   have s3:(ab_ (aM_ R[i].2)).size≤4600000000000:=by
    rw[aU_];have:=gR_ sm1;omega
   have F:Hid (ab_ (fu_ er (R.take i))++⟨#[59]⟩++ab_ (Lib.decDigits R[i].1.toNat)++⟨#[61]⟩++ab_ (aM_ R[i].2)=ab_ (fu_ er (R.take (i+1)))):=hid (by
    rw[SN.out];show ab_ _++ab_ [59]++ab_ _++ab_ [61]++ab_ _=_;rw[bt_,bt_,bt_,bt_];congr 1;simp)
   clear hcl h1 h2 k sm1 hB SN hb em;unfold tv at DY;generalize R[i]=x at *;generalize ab_ (fu_ er (R.take i))=sa at *;generalize ab_ (Lib.decDigits x.1.toNat)=sb at *;generalize ab_ (aM_ x.2)=sc at *;go_wp2;refine by_ (by kernel_rfl) (by kernel_rfl) ?_
   repeat (go_big_quiet_step ((first|(with_reducible exact DX.out _)|(with_reducible exact DY.out _))))
   refine wpQuiet_nil ?_;intro _ hw';obtain⟨pq,hw''⟩:=hw';subst hw'';go_wp2;go_roundw
   case measure=>simp[intOf];omega
   case rel=>exact⟨i+1,by go_num,by omega,by rw[F.out],BH.out.trans ((aA_ _ _).mono BH.out.size)⟩
  ·obtain rfl:i=R.length:=by omega
   clear hB;rw[List.take_length];go_wp2;go_ret;exact⟨rfl,BH.out⟩
end
section
open Go.RowKit
theorem m8_ {t:Ty}(h:Mk t)(hs:t.size≤4000):SmT t:=⟨eU_ t h,decide_eq_true ⟨by omega,by have:=bk_ t;omega⟩⟩
structure QOk (e:EqT):Prop where
 l:Mk e.1∧e.1.size≤120∧e.1.depth≤50
 r:Mk e.2∧e.2.size≤120∧e.2.depth≤50
theorem QOk.sm {e:EqT}(h:QOk e):SmT e.1∧SmT e.2:=⟨m8_ h.l.1 (by have:=h.l.2.1;omega),m8_ h.r.1 (by have:=h.r.2.1;omega)⟩
theorem rS_ {x:Ln}{e:EqT}(h:qOf x=some e):QOk e:=by
 unfold qOf at h;cases hl:a8_ x.l.data.toList with
 | error er=>rw[hl] at h;cases h
 | ok t =>
  cases hr:a8_ x.r.data.toList with
  | error er=>rw[hl,hr] at h;cases h
  | ok u =>
   rw[hl,hr] at h;simp only at h
   split at h
   ·next hc =>
    injection h with h
    subst h;have a:=dA_ hl;have b:=dA_ hr;have e1:x.l.data.toList.length=x.l.size:=by rw[Array.length_toList];rfl
    have e2:x.r.data.toList.length=x.r.size:=by rw[Array.length_toList];rfl
    exact⟨⟨a.1,by show t.size≤120;have:=a.2.2.1;omega,a.2.1⟩,b.1,by show u.size≤120;have:=b.2.2.1;omega,b.2.1⟩
   ·cases h
theorem nC_:∀ {ls:List Ln} {es:List EqT},eE_ ls=some es→∀ e∈es,QOk e
 | [],es,h,e,he=>by injection h with h;subst h;cases he
 | x :: ls,es,h,e,he=>by
  rw[eE_] at h;cases hx:qOf x with
  | none=>rw[hx] at h;cases h
  | some g =>
   rw[hx] at h;cases hy:eE_ ls with
   | none=>rw[hy] at h;cases h
   | some gs =>
    rw[hy] at h;injection h with h
    subst h
    rcases List.mem_cons.1 he with rfl|he
    ·exact rS_ hx
    ·exact nC_ hy e he
theorem kh_ {ls:List Ln}{es:List EqT}(h:c9_ ls=some es):ls.length≤8∧es.length=ls.length∧nsE es≤24∧(∀ e∈es,QOk e)∧eE_ ls=some es:=by
 unfold c9_ at h
 split at h
 ·cases h
 ·next hl =>
  cases hq:eE_ ls with
  | none=>rw[hq] at h;cases h
  | some fs =>
   rw[hq] at h;simp only at h
   split at h
   ·cases h
   ·next hn =>
    injection h with h
    subst h;exact⟨by omega,ij_ hq,by omega,nC_ hq,rfl⟩
def jn_:Except Nat Kn→List UInt8
 | .error er=>fu_ er []
 | .ok R=>fu_ 0 R
def ha_ (res:Except Nat Kn):Prop:=match res with
 | .error er=>er<1000
 | .ok R=>R.length≤100∧∀ x∈R,bG_ x.2∧0≤x.1∧x.1<1000000000000000000
theorem p1_ {w w1:World}{res:Except Nat Kn}{en:Ending}{w2:World}(hB:Below w.heap.size w w1)(h:gY_ w1 res en w2)(hok:ha_ res)(hT:Tab w) :
  ∃ v er,en=.returned (.tuple #[v,.int .i64 ((er:Nat):Int)])∧Below w.heap.size w w2∧Calls Tryz.prog 18 #[v,.int .i64 er] w2 (bX_ w2 (jn_ res)):=by
 cases res with
 | error er =>
  obtain⟨rfl,hb⟩:=h;have hb2:=hB.trans (hb.mono hB.size);exact⟨_,er,rfl,hb2,j2_ w2 _ [] er (lK_.nil w2) (fun x hx=>by cases hx) (by simp) hok (ag_ hT hb2)⟩
 | ok R =>
  obtain⟨v,ps,T',rfl,hK,hT',hb⟩:=h;have hb2:=hB.trans (hb.mono hB.size);exact⟨v,0,rfl,hb2,j2_ w2 v R 0 (hK.ks hT') hok.2 hok.1 (by omega) (ag_ hT hb2)⟩
theorem eS_ (w:World)(l r:ByteArray)(hl:l.size≤maxLen)(hr:r.size≤maxLen){es:List EqT}{d j:Nat}{res:Except Nat Kn}(hq:c9_ [⟨l,r⟩]=some es)(hu:fT_ d j es=some res)(hj:j≤1000000000000)(hok:ha_ res)(hT:Tab w) :
  Calls Tryz.prog 30 #[.string l,.string r] w (bX_ w (jn_ res)):=by
 have hz:=aw_ w (.cells #[.string l,.string r] 70);have hL:lJ_ (w.alloc (.cells #[.string l,.string r] 70)) (.slice (some ⟨w.heap.size,0,none⟩) 1 1) [⟨l,r⟩]:=by
  refine⟨_,1,rfl,aC_ _,(by simp),fun x hx=>?_,.inr ⟨w.heap.size,0,rfl,by simp,fun j hj=>?_⟩⟩
  ·rw[List.mem_singleton.1 hx];exact⟨hl,hr⟩
  ·have h0:j=0:=by simpa using hj
   subst h0;exact⟨cell_of_row _ _ 0 _ _ _ (heap_alloc_new w _),cell_of_row _ _ 1 _ _ _ (heap_alloc_new w _)⟩
 have CR:=hid (mu_ _ _ _ hL);rw[hq] at CR;obtain⟨_,q2,_,q4,_⟩:=kh_ hq;have Q4:=hid q4;have Q2:Hid (es.length≤500000000000):=hid (by rw[q2];simp);have HZ:=hid hz;have HU:=hid hu;have HJ:=hid hj;have HOK:=hid hok;have HT:=hid hT;clear hz hL hq hl hr q2 q4 hu hj hok hT;go_enter Tryz.func30,Tryz.ntmps30;go_wp2_with fail;refine CR.out.mono ?_;rintro e w1 ⟨hb1,v1,v2,ps,qs,rfl,hE⟩;have B1:=hid (HZ.out.trans (hb1.mono HZ.out.size));obtain⟨va,vc,rfl⟩:=aG_ hE.a.own;obtain⟨ra,rc,rfl⟩:=aG_ hE.b.own;have CU:=hid (iv_ (hE.a.eqs (by have:=Q2.out;omega)) (fun b hb=>(hE.a.own.lt b hb).2) (fun b hb=>hb.2.1) (fun e he=>(Q4.out e he).sm) Q2.out (ag_ HT.out B1.out) HU.out HJ.out);clear CR hb1 hE;go_wp2_with fail;refine CU.out.mono ?_;rintro e w2 hun;obtain⟨v,er,rfl,hb2,hct⟩:=p1_ B1.out hun HOK.out HT.out;have B2:=hid hb2;have CT:=hid hct;clear hun hb2 hct CU;go_wp2_with fail;refine CT.out.mono ?_;rintro e w3 ⟨rfl,hb3⟩;have B3:=hid (B2.out.trans (hb3.mono B2.out.size));clear hb3 CT;go_wp2;go_ret;exact⟨rfl,B3.out⟩
end
section
open Lx
theorem lR_ {d n:Nat}{es:List EqT}{K R:Kn}(h:de_ d n ⟨[],es,0⟩=some (.ok K))(hs:(K.map fun x=>x.1).Pairwise fun x y=>decide (x≤y)=true)(ho:jm_ d K (K.map fun x=>x.1)=some R):fT_ d n es=some (.ok R):=by
 unfold fT_;rw[h];simp only;have e:b4_ K=K.map fun x=>x.1:=by unfold b4_;exact List.mergeSort_of_pairwise hs
 rw[e,ho]
theorem hH_ {d n:Nat}{es:List EqT}{er:Nat}(h:de_ d n ⟨[],es,0⟩=some (.error er)):fT_ d n es=some (.error er):=by
 unfold fT_;rw[h]
def lnA (l r:List UInt8):Ln:=⟨⟨l.toArray⟩,⟨r.toArray⟩⟩
def exA (l r:List UInt8):List EqT:=match a8_ l,a8_ r with
 | .ok t,.ok u=>[(t,u)]
 | _,_=>[]
theorem rdA0:c9_ [lnA [63,49,32,45,62,32,63,50] [73,110,116,32,45,62,32,63,49]]=some (exA [63,49,32,45,62,32,63,50] [73,110,116,32,45,62,32,63,49]):=by kernel_rfl
theorem unA0:fT_ 10 20 (exA [63,49,32,45,62,32,63,50] [73,110,116,32,45,62,32,63,49])=some (.ok [(1,(d0_ [73,110,116] [])),(2,(d0_ [73,110,116] []))]):=lR_ (K:=[(1,(d0_ [73,110,116] [])),(2,(d0_ [73,110,116] []))]) (by kernel_rfl) (by simp) (by kernel_rfl)
theorem rdA1:c9_ [lnA [63,50] [63,49]]=some (exA [63,50] [63,49]):=by kernel_rfl
theorem unA1:fT_ 10 20 (exA [63,50] [63,49])=some (.ok [(2,(d4_ [63,49]))]):=lR_ (K:=[(2,(d4_ [63,49]))]) (by kernel_rfl) (by simp) (by kernel_rfl)
theorem rdA2:c9_ [lnA [63,49] [84,32,63,49]]=some (exA [63,49] [84,32,63,49]):=by kernel_rfl
theorem unA2:fT_ 10 20 (exA [63,49] [84,32,63,49])=some (.error 41):=hH_ (by kernel_rfl)
theorem rdA3:c9_ [lnA [63,49] [102,111,114,97,108,108,32,97,46,32,97]]=some (exA [63,49] [102,111,114,97,108,108,32,97,46,32,97]):=by kernel_rfl
theorem unA3:fT_ 10 20 (exA [63,49] [102,111,114,97,108,108,32,97,46,32,97])=some (.error 42):=hH_ (by kernel_rfl)
theorem rdA4:c9_ [lnA [97] [98]]=some (exA [97] [98]):=by kernel_rfl
theorem unA4:fT_ 10 20 (exA [97] [98])=some (.error 40):=hH_ (by kernel_rfl)
theorem rdA5:c9_ [lnA [102,111,114,97,108,108,32,97,46,32,97,32,45,62,32,63,49] [102,111,114,97,108,108,32,98,46,32,98,32,45,62,32,98]]=some (exA [102,111,114,97,108,108,32,97,46,32,97,32,45,62,32,63,49] [102,111,114,97,108,108,32,98,46,32,98,32,45,62,32,98]):=by kernel_rfl
theorem unA5:fT_ 10 20 (exA [102,111,114,97,108,108,32,97,46,32,97,32,45,62,32,63,49] [102,111,114,97,108,108,32,98,46,32,98,32,45,62,32,98])=some (.error 43):=hH_ (by kernel_rfl)
theorem rdA6:c9_ [lnA [102,111,114,97,108,108,32,97,46,32,63,49,32,45,62,32,97] [102,111,114,97,108,108,32,98,46,32,73,110,116,32,45,62,32,98]]=some (exA [102,111,114,97,108,108,32,97,46,32,63,49,32,45,62,32,97] [102,111,114,97,108,108,32,98,46,32,73,110,116,32,45,62,32,98]):=by kernel_rfl
theorem unA6:fT_ 10 20 (exA [102,111,114,97,108,108,32,97,46,32,63,49,32,45,62,32,97] [102,111,114,97,108,108,32,98,46,32,73,110,116,32,45,62,32,98])=some (.ok [(1,(d0_ [73,110,116] []))]):=lR_ (K:=[(1,(d0_ [73,110,116] []))]) (by kernel_rfl) (by simp) (by kernel_rfl)
end
section
open Go.RowKit
theorem cw_ (l:List UInt8):(ab_ l).toList=l:=by rw[ByteArray.toList_eq];simp[ab_]
theorem iF_ {t:Ty}(h:Mk t)(hs:t.size≤4000):bG_ t:=(m8_ h hs).small
theorem gE_:bG_ (d0_ [73,110,116] []):=iF_ (dA_ (s:=[73,110,116]) (t:=d0_ [73,110,116] []) (by kernel_rfl)).1 (by decide)
theorem oT_:bG_ (d4_ [63,49]):=iF_ (dA_ (s:=[63,49]) (t:=d4_ [63,49]) (by kernel_rfl)).1 (by decide)
theorem okA0:ha_ (.ok [(1,(d0_ [73,110,116] [])),(2,(d0_ [73,110,116] []))]):=⟨by simp,fun x hx=>by
 simp only[List.mem_cons,List.not_mem_nil,or_false] at hx
 rcases hx with rfl|rfl
 ·exact⟨gE_,by decide,by decide⟩
 ·exact⟨gE_,by decide,by decide⟩⟩
theorem okA1:ha_ (.ok [(2,(d4_ [63,49]))]):=⟨by simp,fun x hx=>by
 simp only[List.mem_cons,List.not_mem_nil,or_false] at hx;subst hx;exact⟨oT_,by decide,by decide⟩⟩
theorem okA2:ha_ (.error 41):=by show 41<1000;decide
theorem okA3:ha_ (.error 42):=by show 42<1000;decide
theorem okA4:ha_ (.error 40):=by show 40<1000;decide
theorem okA5:ha_ (.error 43):=by show 43<1000;decide
theorem okA6:ha_ (.ok [(1,(d0_ [73,110,116] []))]):=⟨by simp,fun x hx=>by
 simp only[List.mem_cons,List.not_mem_nil,or_false] at hx;subst hx;exact⟨gE_,by decide,by decide⟩⟩
theorem rv_ (w:World)(hT:Tab w):Calls Tryz.prog 12 #[] w fun e w'=>e=.returned (.bool true)∧Below w.heap.size w w':=by
 have HT:=hid hT;have B0:=hid (Below.refl w.heap.size w);have t0:(ab_ (jn_ (.ok [(1,(d0_ [73,110,116] [])),(2,(d0_ [73,110,116] []))]))).toList=[48,59,49,61,73,110,116,59,50,61,73,110,116]:=(cw_ _).trans (by kernel_rfl);have t1:(ab_ (jn_ (.ok [(2,(d4_ [63,49]))]))).toList=[48,59,50,61,63,49]:=(cw_ _).trans (by kernel_rfl);have t2:(ab_ (jn_ (.error 41))).toList=[52,49]:=(cw_ _).trans (by kernel_rfl);have t3:(ab_ (jn_ (.error 42))).toList=[52,50]:=(cw_ _).trans (by kernel_rfl);have t4:(ab_ (jn_ (.error 40))).toList=[52,48]:=(cw_ _).trans (by kernel_rfl);have t5:(ab_ (jn_ (.error 43))).toList=[52,51]:=(cw_ _).trans (by kernel_rfl);have t6:(ab_ (jn_ (.ok [(1,(d0_ [73,110,116] []))]))).toList=[48,59,49,61,73,110,116]:=(cw_ _).trans (by kernel_rfl);clear hT;go_enter Tryz.func12,Tryz.ntmps12;have C:=hid (eS_ _ ⟨#[63,49,32,45,62,32,63,50]⟩ ⟨#[73,110,116,32,45,62,32,63,49]⟩ (by decide) (by decide) rdA0 unA0 (by decide) okA0 HT.out);go_wp2_with fail;refine C.out.mono ?_;rintro e w1 ⟨rfl,hB⟩;have B1:=hid (B0.out.trans (hB.mono B0.out.size));clear hB C B0;generalize ab_ (jn_ (.ok [(1,(d0_ [73,110,116] [])),(2,(d0_ [73,110,116] []))]))=q0 at *;have C:=hid (eS_ _ ⟨#[63,50]⟩ ⟨#[63,49]⟩ (by decide) (by decide) rdA1 unA1 (by decide) okA1 (ag_ HT.out B1.out));go_wp2_with fail;refine C.out.mono ?_;rintro e w2 ⟨rfl,hB⟩;have B2:=hid (B1.out.trans (hB.mono B1.out.size));clear hB C B1;generalize ab_ (jn_ (.ok [(2,(d4_ [63,49]))]))=q1 at *;have C:=hid (eS_ _ ⟨#[63,49]⟩ ⟨#[84,32,63,49]⟩ (by decide) (by decide) rdA2 unA2 (by decide) okA2 (ag_ HT.out B2.out));go_wp2_with fail;refine C.out.mono ?_;rintro e w3 ⟨rfl,hB⟩;have B3:=hid (B2.out.trans (hB.mono B2.out.size));clear hB C B2;generalize ab_ (jn_ (.error 41))=q2 at *;have C:=hid (eS_ _ ⟨#[63,49]⟩ ⟨#[102,111,114,97,108,108,32,97,46,32,97]⟩ (by decide) (by decide) rdA3 unA3 (by decide) okA3 (ag_ HT.out B3.out));go_wp2_with fail;refine C.out.mono ?_;rintro e w4 ⟨rfl,hB⟩;have B4:=hid (B3.out.trans (hB.mono B3.out.size));clear hB C B3;generalize ab_ (jn_ (.error 42))=q3 at *;have C:=hid (eS_ _ ⟨#[97]⟩ ⟨#[98]⟩ (by decide) (by decide) rdA4 unA4 (by decide) okA4 (ag_ HT.out B4.out));go_wp2_with fail;refine C.out.mono ?_;rintro e w5 ⟨rfl,hB⟩;have B5:=hid (B4.out.trans (hB.mono B4.out.size));clear hB C B4;generalize ab_ (jn_ (.error 40))=q4 at *;have C:=hid (eS_ _ ⟨#[102,111,114,97,108,108,32,97,46,32,97,32,45,62,32,63,49]⟩ ⟨#[102,111,114,97,108,108,32,98,46,32,98,32,45,62,32,98]⟩ (by decide) (by decide) rdA5 unA5 (by decide) okA5 (ag_ HT.out B5.out));go_wp2_with fail;refine C.out.mono ?_;rintro e w6 ⟨rfl,hB⟩;have B6:=hid (B5.out.trans (hB.mono B5.out.size));clear hB C B5;generalize ab_ (jn_ (.error 43))=q5 at *;have C:=hid (eS_ _ ⟨#[102,111,114,97,108,108,32,97,46,32,63,49,32,45,62,32,97]⟩ ⟨#[102,111,114,97,108,108,32,98,46,32,73,110,116,32,45,62,32,98]⟩ (by decide) (by decide) rdA6 unA6 (by decide) okA6 (ag_ HT.out B6.out));go_wp2_with fail;refine C.out.mono ?_;rintro e w7 ⟨rfl,hB⟩;have B7:=hid (B6.out.trans (hB.mono B6.out.size));clear hB C B6;generalize ab_ (jn_ (.ok [(1,(d0_ [73,110,116] []))]))=q6 at *;go_wp2;go_ret;exact⟨rfl,B7.out⟩
end
end Go.Proofs.YtjecnionbjlncaaGreatDoor.Tp

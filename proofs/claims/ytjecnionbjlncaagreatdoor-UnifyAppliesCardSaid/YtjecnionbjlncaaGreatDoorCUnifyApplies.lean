/-
  What comes of putting types in the places of unknowns, at once, is as the document says: for every list of at most eight lines of at most 120 bytes a side, with at most 24 variables and unknowns in all, whose left sides are unknowns, and every text of at most 200 bytes that is a type; at anything else the law tells what its examples tell.
-/
import Derived.Test.YtjecnionbjlncaaGreatDoorP52
import Derived.Test.YtjecnionbjlncaaGreatDoorCards
import Derived.Test.YtjecnionbjlncaaGreatDoorTie
import Derived.SevenTiedAt

namespace Go.Proofs.YtjecnionbjlncaaGreatDoor.Tp
open Go.RowKit Go.Sort
theorem vn_eq (j:Nat):(⟨#[118]⟩++ab_ (Lib.decDigits j):ByteArray)=vn j:=by unfold vn aI_;rfl
structure ApI (R:Kn):Prop where
 st:∀ e∈R,Std e.2
 sz:∀ e∈R,e.2.size≤120
 ln:R.length≤16
theorem butA_take (R:Kn)(i:Nat):((R.take i).flatMap fun e=>af_ e.2).length≤(R.flatMap fun e=>af_ e.2).length:=by
 conv=>rhs;rw[← List.take_append_drop i R]
 rw[List.flatMap_append,List.length_append];omega
theorem butA_step (R:Kn)(i:Nat)(h:i<R.length):((R.take i).flatMap fun e=>af_ e.2)++af_ R[i].2=(R.take (i+1)).flatMap fun e=>af_ e.2:=by
 rw[List.take_succ_eq_append_getElem h,List.flatMap_append];simp
theorem ApI.but {R:Kn}(h:ApI R){b:Ty}(hb:b.size≤4000):(oe_ R b).length≤10000∧∀ i,((R.take i).flatMap fun e=>af_ e.2).length≤10000:=by
 have h1:=pB_ (b:=b) h.sz
 have h2:R.length*120≤16*120:=Nat.mul_le_mul_right _ h.ln
 refine⟨by omega,fun i=>?_⟩
 have h3:=butA_take R i
 unfold oe_ at h1
 rw[List.length_append] at h1
 omega
structure AplL (R:Kn)(d:Nat)(t:Ty)(kd:Int)(s:ByteArray)(nn:Int)(L:List Ty):Prop where
 eq:of_ R (d+1) t=.mk kd s nn (L.map (of_ R d))
 inn:∀ x∈L,Mk x∧x.size≤d∧x.size≤4000
 len:L.length≤4000
theorem apl_other {R:Kn}{d:Nat}{t:Ty}(h2:t.kind≠2)(h5:t.kind≠5)(hm:Mk t)(hd:t.size≤d+1)(hs:t.size≤4000):AplL R d t t.kind t.name t.n t.args:=by
 refine⟨by rw[of_,if_neg h2,if_neg h5],fun a ha=>?_,by have:=aW_ t.args;rw[t.size_eq] at hs;omega⟩
 have h1:=a6_ _ ha
 rw[t.size_eq] at hd hs
 exact⟨nd_ hm a ha,by omega,by omega⟩
theorem apl_all {R:Kn}{d:Nat}{t:Ty}(H:ApI R)(h5:t.kind=5)(hm:Mk t)(hd:t.size≤d+1)(hs:t.size≤4000) :
  ∃ b m,t.args=[b]∧Mk b∧b.size≤4000∧m≤10000∧cx_ (oe_ R b) (vn m)=false∧(∀ j,j<m→cx_ (oe_ R b) (vn j)=true)∧kR_ (vn m)∧AplL R d t 5 (vn m) 0 [fV_ t.name (vrU (vn m)) b]:=by
 obtain⟨b,hb,hb0⟩:=eC_ hm.1 h5
 have hbm:b∈t.args:=by rw[hb];simp
 have hmb:=nd_ hm b hbm
 have hts:t.size=b.size+1:=by rw[t.size_eq,hb];simp[aj_]
 have hsp:=kt_ R b
 unfold nmA at hsp
 have hlen:=(H.but (b:=b) (by omega)).1
 have hE:of_ R (d+1) t=.mk 5 (vn (nx vn (oe_ R b) 0)) 0 ([fV_ t.name (vrU (vn (nx vn (oe_ R b) 0))) b].map (of_ R d)):=by
  rw[of_,if_neg (by omega),if_pos h5,hb0];rfl
 generalize nx vn (oe_ R b) 0=m at *
 have hx:kR_ (vn m):=sh_ m (by omega)
 obtain⟨p1,p2,_⟩:=qW_ t.name (vn m) b hmb hx (by omega)
 refine⟨b,m,hb,hmb,by omega,by omega,hsp.2.1,hsp.2.2,hx,hE,fun x hx=>?_,by simp⟩
 rw[List.mem_singleton.1 hx]
 exact⟨p1,by omega,by omega⟩
def AplSaid (w0:World)(kv:Value)(R:Kn)(d:Nat):Prop:=∀ (S:Nat→Prop) (t:Ty) (a:OA_) (c:Nat) (w:World),(∀ b,b<w0.heap.size→S b)→(∀ b,S b→b<w.heap.size)→Below w0.heap.size w0 w→aa_ S w (.slice a t.args.length c) t.args→Mk t→t.size≤d→t.size≤4000 →
  Calls Tryz.prog 61 #[kv,tv t a c] w (TP S (of_ R d t) w)
def Sx (S:Nat→Prop)(w wx:World)(b:Nat):Prop:=S b∨w.heap.size+3≤b∧b<wx.heap.size
def AplCut (S:Nat→Prop)(w:World)(kd:Int)(s:ByteArray)(nn:Int)(L:List Ty)(wx:World):Prop:=∃ ao co,R4 wx (w.heap.size+1) (.int .i64 0) (.string ⟨#[]⟩) (.int .i64 0) (.slice none 0 0) ∧
 R4 wx (w.heap.size+1+1) (.int .i64 kd) (.string s) (.int .i64 nn) (.slice ao L.length co)∧aa_ (Sx S w wx) wx (.slice ao L.length co) L∧Below w.heap.size w wx
theorem AplCut.one {S:Nat→Prop}{w w3:World}{y:Ty}{a4:OA_}{c4:Nat}{s:ByteArray}{q0 q1 q2 q3:Value}(hk:R4 w3 (w.heap.size+1) (.int .i64 0) (.string ⟨#[]⟩) (.int .i64 0) (.slice none 0 0))(ho:R4 w3 (w.heap.size+1+1) q0 q1 q2 q3)(hA:aa_ (fun b=>w.heap.size+3≤b∧b<w3.heap.size) w3 (.slice a4 y.args.length c4) y.args)(hb:Below w.heap.size w w3) :
  AplCut S w 5 s 0 [y] (((((w3.alloc (.cells #[.int .i64 y.kind,.string y.name,.int .i64 y.n,.slice a4 y.args.length c4] 43)).setCell ⟨w.heap.size+1+1,0,none⟩ (.int .i64 5)).setCell ⟨w.heap.size+1+1,1,none⟩ (.string s)).setCell ⟨w.heap.size+1+1,2,none⟩ (.int .i64 0)).setCell ⟨w.heap.size+1+1,3,none⟩ (.slice (some ⟨w3.heap.size,0,none⟩) 1 1)):=by
 have hz:Below w3.heap.size w3 (w3.alloc (.cells #[.int .i64 y.kind,.string y.name,.int .i64 y.n,.slice a4 y.args.length c4] 43)):=ar_ _ _
 have hx:=heap_alloc_new w3 (.cells #[.int .i64 y.kind,.string y.name,.int .i64 y.n,.slice a4 y.args.length c4] 43)
 have hA2:=hA.keep (B:=w3.alloc (.cells #[.int .i64 y.kind,.string y.name,.int .i64 y.n,.slice a4 y.args.length c4] 43)) fun b hb=>hz.block b hb.2
 have hk2:=hk.low hz
 have ho2:=ho.low hz
 have hb2:=hb.alloc hb.size (.cells #[.int .i64 y.kind,.string y.name,.int .i64 y.n,.slice a4 y.args.length c4] 43)
 have hl:=ho.lt
 have e0:(w3.alloc (.cells #[.int .i64 y.kind,.string y.name,.int .i64 y.n,.slice a4 y.args.length c4] 43)).heap.size=w3.heap.size+1:=by simp
 generalize w3.alloc (.cells #[.int .i64 y.kind,.string y.name,.int .i64 y.n,.slice a4 y.args.length c4] 43)=w5 at *
 obtain⟨W,hW⟩:∃ W,(((w5.setCell ⟨w.heap.size+1+1,0,none⟩ (.int .i64 5)).setCell ⟨w.heap.size+1+1,1,none⟩ (.string s)).setCell ⟨w.heap.size+1+1,2,none⟩ (.int .i64 0)).setCell ⟨w.heap.size+1+1,3,none⟩ (.slice (some ⟨w3.heap.size,0,none⟩) 1 1)=W:=⟨_,rfl⟩
 have k:∀ b,b≠w.heap.size+1+1→W.heap[b]? = w5.heap[b]? := fun b hb=>by rw[← hW,au_ _ _ _ _ hb,au_ _ _ _ _ hb,au_ _ _ _ _ hb,au_ _ _ _ _ hb]
 have e:W.heap.size=w5.heap.size:=by rw[← hW];simp
 have o4:=ho2.set4 (.int .i64 5) (.string s) (.int .i64 0) (.slice (some ⟨w3.heap.size,0,none⟩) 1 1)
 have hb4:=hb2.set4 (b:=w.heap.size+1+1) (by omega) (.int .i64 5) (.string s) (.int .i64 0) (.slice (some ⟨w3.heap.size,0,none⟩) 1 1)
 rw[hW] at o4 hb4 ⊢
 refine⟨some ⟨w3.heap.size,0,none⟩,1,(k _ (by omega)).trans hk2,o4,mE_ ((k _ (by omega)).trans hx) (.inr ⟨by omega,by omega⟩) ((hA2.keep fun b hb=>k b (by have:=hb.1;omega)).mono fun b hb=>.inr ⟨hb.1,by have:=hb.2;omega⟩),hb4⟩
theorem dz_.endU {S S':Nat→Prop}{O lo:Nat}{w W wr:World}{k:Int}{s:ByteArray}{n:Int}{a:OA_}{c:Nat}{acc:List Ty}{svs:List Value}{r:Nat}(h:dz_ S' O lo W wr k s n (.slice a acc.length c) acc svs)(hS:∀ b,S' b→b≠r∧(S b∨w.heap.size≤b))(hW:Below w.heap.size w W)(hO:w.heap.size≤O)(hOl:O<lo)(hr:w.heap.size≤r)(hrl:r<lo)(v0 v1 v2 v3:Value) :
  aa_ (New S w ((((wr.setCell ⟨r,0,none⟩ v0).setCell ⟨r,1,none⟩ v1).setCell ⟨r,2,none⟩ v2).setCell ⟨r,3,none⟩ v3)) ((((wr.setCell ⟨r,0,none⟩ v0).setCell ⟨r,1,none⟩ v1).setCell ⟨r,2,none⟩ v2).setCell ⟨r,3,none⟩ v3) (.slice a acc.length c) acc ∧
  Below w.heap.size w ((((wr.setCell ⟨r,0,none⟩ v0).setCell ⟨r,1,none⟩ v1).setCell ⟨r,2,none⟩ v2).setCell ⟨r,3,none⟩ v3):=by
 have hk:Kp w.heap.size (fun _=>False) w wr:=(Kp.of_below hW).trans (h.kp.mono (n:=w.heap.size) (T':=fun _=>False) (by omega) (fun b hb e=>by omega)) (aD_ _) (fun _ _ e=>e)
 have hB:=hk.to_below
 refine⟨(h.row.args.keep fun b hb=>?_).mono fun b hb=>?_,hB.set4 hr v0 v1 v2 v3⟩
 ·have hne:b≠r:=by
   rcases hb.1 with h1|h1
   ·exact (hS b h1).1
   ·omega
  rw[au_ _ _ _ _ hne,au_ _ _ _ _ hne,au_ _ _ _ _ hne,au_ _ _ _ _ hne]
 ·rcases hb.1 with h1|h1
  ·rcases (hS b h1).2 with h2|h2
   ·exact .inl h2
   ·exact .inr ⟨h2,by simpa using hb.2⟩
  ·exact .inr ⟨by omega,by simpa using hb.2⟩
set_option maxRecDepth 100000 in
set_option maxHeartbeats 6400000 in
theorem rapl_any {w0:World}{kv:Value}{R:Kn}(hR:hq_ w0 kv R)(H:ApI R):∀ d:Nat,AplSaid w0 kv R d:=by
 obtain⟨ka,kc,rfl,_⟩:=id hR
 have RW0:=hid hR
 have HI0:=hid H
 have hln:=H.ln
 clear hR
 intro d
 induction d with
 | zero =>
  intro S t a c w _ _ _ _ _ h
  have:=eZ_ t;omega
 | succ d ih =>
  intro S t a c w hS0 hS hB0 hA hm hd hs
  have hz1:Below w.heap.size w ((w.alloc (.cells #[.int .i64 t.kind,.string t.name,.int .i64 t.n,.slice a t.args.length c] 43)).alloc (.cells #[.int .i64 0,.string ⟨#[]⟩,.int .i64 0,.slice none 0 0] 43)):=(ar_ _ _).alloc (by simp) _
  have hz:Below w.heap.size w (((w.alloc (.cells #[.int .i64 t.kind,.string t.name,.int .i64 t.n,.slice a t.args.length c] 43)).alloc (.cells #[.int .i64 0,.string ⟨#[]⟩,.int .i64 0,.slice none 0 0] 43)).alloc (.cells #[.int .i64 t.kind,.string t.name,.int .i64 t.n,.slice a t.args.length c] 43)):=hz1.alloc (by simp;omega) _
  have q0:=R4.new w (.int .i64 t.kind) (.string t.name) (.int .i64 t.n) (.slice a t.args.length c)
  have q1:=R4.new (w.alloc (.cells #[.int .i64 t.kind,.string t.name,.int .i64 t.n,.slice a t.args.length c] 43)) (.int .i64 0) (.string ⟨#[]⟩) (.int .i64 0) (.slice none 0 0)
  have q2:=R4.new ((w.alloc (.cells #[.int .i64 t.kind,.string t.name,.int .i64 t.n,.slice a t.args.length c] 43)).alloc (.cells #[.int .i64 0,.string ⟨#[]⟩,.int .i64 0,.slice none 0 0] 43)) (.int .i64 t.kind) (.string t.name) (.int .i64 t.n) (.slice a t.args.length c)
  rw[show (w.alloc (.cells #[.int .i64 t.kind,.string t.name,.int .i64 t.n,.slice a t.args.length c] 43)).heap.size=w.heap.size+1 from by simp] at q1
  rw[show ((w.alloc (.cells #[.int .i64 t.kind,.string t.name,.int .i64 t.n,.slice a t.args.length c] 43)).alloc (.cells #[.int .i64 0,.string ⟨#[]⟩,.int .i64 0,.slice none 0 0] 43)).heap.size=w.heap.size+1+1 from by simp] at q2
  have z1:Below (w.alloc (.cells #[.int .i64 t.kind,.string t.name,.int .i64 t.n,.slice a t.args.length c] 43)).heap.size (w.alloc (.cells #[.int .i64 t.kind,.string t.name,.int .i64 t.n,.slice a t.args.length c] 43)) ((w.alloc (.cells #[.int .i64 t.kind,.string t.name,.int .i64 t.n,.slice a t.args.length c] 43)).alloc (.cells #[.int .i64 0,.string ⟨#[]⟩,.int .i64 0,.slice none 0 0] 43)):=ar_ _ _
  have z2:Below ((w.alloc (.cells #[.int .i64 t.kind,.string t.name,.int .i64 t.n,.slice a t.args.length c] 43)).alloc (.cells #[.int .i64 0,.string ⟨#[]⟩,.int .i64 0,.slice none 0 0] 43)).heap.size ((w.alloc (.cells #[.int .i64 t.kind,.string t.name,.int .i64 t.n,.slice a t.args.length c] 43)).alloc (.cells #[.int .i64 0,.string ⟨#[]⟩,.int .i64 0,.slice none 0 0] 43)) (((w.alloc (.cells #[.int .i64 t.kind,.string t.name,.int .i64 t.n,.slice a t.args.length c] 43)).alloc (.cells #[.int .i64 0,.string ⟨#[]⟩,.int .i64 0,.slice none 0 0] 43)).alloc (.cells #[.int .i64 t.kind,.string t.name,.int .i64 t.n,.slice a t.args.length c] 43)):=ar_ _ _
  by_cases h2:t.kind=2
  ·have e2:(t.kind==2)=true:=by rw[h2];rfl
   have kt:=q0.low z1
   obtain⟨c0,c1,c2,c3⟩:=kt.c03
   have EQ:Hid (of_ R (d+1) t=match lkK R t.n with|some u=>u|none=>t):=hid (by rw[of_,if_pos h2];rfl)
   have KT:=hid kt
   have KR:=hid q1
   have HZ1:=hid hz1
   have HB0:=hid hB0
   have HS0:=hid hS0
   have HS:=hid hS
   have HA:=hid hA
   have HT:=hid (pk_ hm.1 h2)
   have CF:=hid (st_ (m:=t.n) (RW0.out) (hB0.trans (hz1.mono hB0.size)) (by omega))
   clear hS0 hS hB0 hA hm hd hs hz hz1 q0 q1 q2 z1 z2 h2 ih
   unfold tv
   go_enter Tryz.func61,Tryz.ntmps61
   go_wp2_with fail
   generalize (w.alloc (.cells #[.int .i64 t.kind,.string t.name,.int .i64 t.n,.slice a t.args.length c] 43)).alloc (.cells #[.int .i64 0,.string ⟨#[]⟩,.int .i64 0,.slice none 0 0] 43)=W1 at *
   refine CF.out.mono ?_
   rintro e w3 ⟨hb,hres⟩
   have kr:=KR.out.low hb
   have kt3:=KT.out.low hb
   have HB3:=hid hb
   cases hl:lkK R t.n with
   | some u =>
    rw[hl] at hres
    obtain⟨ua,uc,rfl,hU⟩:=hres
    have hz3:Below w3.heap.size w3 (w3.alloc (.cells #[.int .i64 u.kind,.string u.name,.int .i64 u.n,.slice ua u.args.length uc] 43)):=ar_ _ _
    have k5:=R4.new w3 (.int .i64 u.kind) (.string u.name) (.int .i64 u.n) (.slice ua u.args.length uc)
    have kr5:=kr.low hz3
    obtain⟨u0,u1,u2,u3⟩:=k5.c03
    obtain⟨r0,r1,r2,r3⟩:=kr5.c03
    obtain⟨f0,f1,f2,f3⟩:=kr5.f03
    have HZ3:=hid hz3
    have HU:=hid hU
    have K5:=hid kr5
    have LR:=hid kr.lt
    have ER:Hid (of_ R (d+1) t=u):=hid (by rw[EQ.out,hl])
    clear hb kr kt3 c0 c1 c2 c3 hl hz3 hU k5 kr5
    go_wp2
    have q5:=R4.set4 K5.out (.int .i64 u.kind) (.string u.name) (.int .i64 u.n) (.slice ua u.args.length uc)
    refine bodyPost_ret (v:=.agg #[.int .i64 u.kind,.string u.name,.int .i64 u.n,.slice ua u.args.length uc]) (by simp[results,Tryz.results61,go_sem,q5.c0,q5.c1,q5.c2,q5.c3]) rfl ?_
    rw[ER.out]
    have hbw:Below w.heap.size w w3:=HZ1.out.trans (HB3.out.mono HZ1.out.size)
    have hb4:=(hbw.trans (HZ3.out.mono hbw.size)).set4 (b:=w.heap.size+1) (by omega) (.int .i64 u.kind) (.string u.name) (.int .i64 u.n) (.slice ua u.args.length uc)
    refine⟨ua,uc,rfl,(HU.out.keep fun b (hb:b<w0.heap.size)=>?_).mono fun b hb=>.inl (HS0.out b hb),hb4⟩
    have hw:=HB0.out.size
    have hw1:=HZ1.out.size
    have hw3:=HB3.out.size
    have hne:b≠w.heap.size+1:=by omega
    rw[au_ _ _ _ _ hne,au_ _ _ _ _ hne,au_ _ _ _ _ hne,au_ _ _ _ _ hne]
    exact HZ3.out.block b (by omega)
   | none =>
    rw[hl] at hres
    subst hres
    have hz3:Below w3.heap.size w3 (w3.alloc (.cells #[.int .i64 0,.string ⟨#[]⟩,.int .i64 0,.slice none 0 0] 43)):=ar_ _ _
    have kr5:=kr.low hz3
    have kt5:=kt3.low hz3
    obtain⟨t0,t1,t2,t3⟩:=kt5.c03
    obtain⟨r0,r1,r2,r3⟩:=kr5.c03
    obtain⟨f0,f1,f2,f3⟩:=kr5.f03
    have HZ3:=hid hz3
    have K5:=hid kr5
    have LR:=hid kr.lt
    have ER:Hid (of_ R (d+1) t=t):=hid (by rw[EQ.out,hl])
    clear hb kr kt3 c0 c1 c2 c3 hl hz3 kr5 kt5
    go_wp2
    have q5:=R4.set4 K5.out (.int .i64 t.kind) (.string t.name) (.int .i64 t.n) (.slice a t.args.length c)
    refine bodyPost_ret (v:=.agg #[.int .i64 t.kind,.string t.name,.int .i64 t.n,.slice a t.args.length c]) (by simp[results,Tryz.results61,go_sem,q5.c0,q5.c1,q5.c2,q5.c3]) rfl ?_
    rw[ER.out]
    have hbw:Below w.heap.size w w3:=HZ1.out.trans (HB3.out.mono HZ1.out.size)
    have hb4:=(hbw.trans (HZ3.out.mono hbw.size)).set4 (b:=w.heap.size+1) (by omega) (.int .i64 t.kind) (.string t.name) (.int .i64 t.n) (.slice a t.args.length c)
    exact⟨a,c,rfl,(HA.out.keep fun b hb=>hb4.block b (HS.out b hb)).mono fun b hb=>.inl hb,hb4⟩
  ·have e2:(t.kind==2)=false:=by rw[beq_eq_false_iff_ne];exact h2
   have kt:=(q0.low z1).low z2
   have kr:=q1.low z2
   have A2:aa_ S (((w.alloc (.cells #[.int .i64 t.kind,.string t.name,.int .i64 t.n,.slice a t.args.length c] 43)).alloc (.cells #[.int .i64 0,.string ⟨#[]⟩,.int .i64 0,.slice none 0 0] 43)).alloc (.cells #[.int .i64 t.kind,.string t.name,.int .i64 t.n,.slice a t.args.length c] 43)) (.slice a t.args.length c) t.args:=hA.keep fun b hb=>hz.block b (hS b hb)
   have t00:=(q0.low z1).c0
   have t01:=(q0.low z1).c1
   have t02:=(q0.low z1).c2
   have t03:=(q0.low z1).c3
   have c0:=kt.c0
   have AT:=hid A2
   have HZ:=hid hz
   have KT:=hid kt
   have KR:=hid kr
   have KO:=hid q2
   have HB0:=hid hB0
   have HS0:=hid hS0
   have HS:=hid hS
   have IH:=hid ih
   have N2:Hid ((((w.alloc (.cells #[.int .i64 t.kind,.string t.name,.int .i64 t.n,.slice a t.args.length c] 43)).alloc (.cells #[.int .i64 0,.string ⟨#[]⟩,.int .i64 0,.slice none 0 0] 43)).alloc (.cells #[.int .i64 t.kind,.string t.name,.int .i64 t.n,.slice a t.args.length c] 43)).heap.size=w.heap.size+3):=hid (by simp)
   obtain⟨kd,s,nn,L,hL,hcase⟩:∃ kd s nn L,AplL R d t kd s nn L∧((t.kind≠5∧kd=t.kind∧s=t.name∧nn=t.n∧L=t.args) ∨
     (t.kind=5∧∃ b m,t.args=[b]∧Mk b∧b.size≤4000∧m≤10000∧cx_ (oe_ R b) (vn m)=false∧(∀ j,j<m→cx_ (oe_ R b) (vn j)=true)∧kR_ (vn m)∧kd=5∧s=vn m∧nn=0∧L=[fV_ t.name (vrU (vn m)) b])):=by
    by_cases h5:t.kind=5
    ·obtain⟨b,m,r1,r2,r3,r4,r5,r6,r7,r8⟩:=apl_all H h5 hm hd hs
     exact⟨_,_,_,_,r8,.inr ⟨h5,b,m,r1,r2,r3,r4,r5,r6,r7,rfl,rfl,rfl,rfl⟩⟩
    ·exact⟨_,_,_,_,apl_other h2 h5 hm hd hs,.inl ⟨h5,rfl,rfl,rfl,rfl⟩⟩
   have HL:=hid hL
   have CASE:=hid hcase
   clear hS0 hS hB0 hA hm hd hs hz hz1 q0 q1 q2 z1 z2 kt kr A2 ih hL hcase h2
   unfold tv
   go_enter Tryz.func61,Tryz.ntmps61
   go_upto_if 31 with (fail)
   go_cut [] from 29 to 80 (fun wx=>AplCut S w kd s nn L wx)
   case first =>
    clear t00 t01 t02 t03
    rcases CASE.out with ⟨h5,rfl,rfl,rfl,rfl⟩|⟨h5,b0,m,hb,hmb,hbs,hml,hno,hyes,hlx,rfl,rfl,rfl,rfl⟩
    ·have e5:(t.kind==5)=false:=by rw[beq_eq_false_iff_ne];exact h5
     have FF:Hid (AplCut S w t.kind t.name t.n t.args (((w.alloc (.cells #[.int .i64 t.kind,.string t.name,.int .i64 t.n,.slice a t.args.length c] 43)).alloc (.cells #[.int .i64 0,.string ⟨#[]⟩,.int .i64 0,.slice none 0 0] 43)).alloc (.cells #[.int .i64 t.kind,.string t.name,.int .i64 t.n,.slice a t.args.length c] 43))):=hid ⟨a,c,KR.out,KO.out,AT.out.mono fun b hb=>.inl hb,HZ.out⟩
     clear h5
     go_wp2_with fail
     go_meet
     exact FF.out
    ·have e5:(t.kind==5)=true:=by rw[h5];rfl
     have AB:Hid (∃ b off a' cap',a=some ⟨b,off,none⟩∧b<w.heap.size∧sd_ (((w.alloc (.cells #[.int .i64 t.kind,.string t.name,.int .i64 t.n,.slice a t.args.length c] 43)).alloc (.cells #[.int .i64 0,.string ⟨#[]⟩,.int .i64 0,.slice none 0 0] 43)).alloc (.cells #[.int .i64 t.kind,.string t.name,.int .i64 t.n,.slice a t.args.length c] 43)) b off (.int .i64 b0.kind) (.string b0.name) (.int .i64 b0.n) (.slice a' b0.args.length cap')∧aa_ S (((w.alloc (.cells #[.int .i64 t.kind,.string t.name,.int .i64 t.n,.slice a t.args.length c] 43)).alloc (.cells #[.int .i64 0,.string ⟨#[]⟩,.int .i64 0,.slice none 0 0] 43)).alloc (.cells #[.int .i64 t.kind,.string t.name,.int .i64 t.n,.slice a t.args.length c] 43)) (.slice a' b0.args.length cap') b0.args):=hid (by
      obtain⟨b,off,a',c',e1,e2,e3,e4⟩:=AT.out.at_ (i:=0) (by rw[hb];simp)
      have hx0:t.args[0]'(by rw[hb];simp)=b0:=by simp[hb]
      rw[hx0] at e3 e4
      rw[Nat.zero_mul,Nat.add_zero] at e3
      exact⟨b,off,a',c',e1,HS.out _ e2,e3,e4⟩)
     have HMB:=hid hmb
     have HYES:=hid hyes
     have HNO:=hid hno
     have HLX:=hid hlx
     have HBS:=hid hbs
     have HML:=hid hml
     have HBL:=hid (HI0.out.but hbs)
     have hl1:(t.args.length:Int)=1:=by rw[hb];rfl
     have DSH:Hid (∀ j:Nat,j≤10000→(ab_ (Lib.decDigits j)).size≤100):=hid (fun j hj=>by
      have:=(bQ_ j).2.2.2 18 (by omega) (show j<10 ^ 18 by omega)
      rw[ap_];omega)
     have DC:=hid (fun (j:Nat) (hj:j≤10000) (W:World)=>dK_ j (by omega) W)
     clear h5 hb hmb hyes hno hlx hbs hml
     go_wp2
     clear c0
     generalize ((w.alloc (.cells #[.int .i64 t.kind,.string t.name,.int .i64 t.n,.slice a t.args.length c] 43)).alloc (.cells #[.int .i64 0,.string ⟨#[]⟩,.int .i64 0,.slice none 0 0] 43)).alloc (.cells #[.int .i64 t.kind,.string t.name,.int .i64 t.n,.slice a t.args.length c] 43)=W5 at *
     go_loopw [8,9] (fun bv iv wr=>∃ (i:Nat) (va:OA_) (vc:Nat),bv=.slice va ((R.take i).flatMap fun e=>af_ e.2).length vc∧iv=.int .i64 i∧i≤R.length∧wr.ownsRow W5.heap.size 9 1 (.slice va ((R.take i).flatMap fun e=>af_ e.2).length vc) ((R.take i).flatMap fun e=>af_ e.2).length (((R.take i).flatMap fun e=>af_ e.2).map Value.string)∧Below W5.heap.size W5 wr) (fun _ iv _=>R.length - (intOf iv).toNat)
     case atStart=>exact⟨0,none,0,rfl,rfl,Nat.zero_le _,World.ownsRow_nil _ _ _ _,Below.refl _ _⟩
     case round =>
      obtain⟨i,va,vc,rfl,rfl,hil,hO,hB⟩:=hrel
      have O:=hid hO
      have B:=hid hB
      have BW:=hid (HZ.out.trans (hB.mono HZ.out.size))
      by_cases hi:i<R.length
      ·have z0:(0:Int)≤(i:Int):=by omega
       have z1:(i:Int)<(R.length:Int):=by omega
       have RWr:=RW0.out.low (HB0.out.trans (BW.out.mono HB0.out.size))
       obtain⟨g,off,a',c',rfl,hg,⟨g0,g1,g2,g3,g4⟩,hAi⟩:=RWr.at_ hi
       have hmem:=List.getElem_mem hi
       have CFi:=hid (gh_ R[i].2 _ a' c' wr hAi (fun _ h=>h) (mg_ _ (HI0.out.st _ hmem)) (by have:=HI0.out.sz _ hmem;omega))
       have AS:=hid (butA_step R i hi)
       have AL:=HBL.out.2 i
       have ALH:=hid AL
       clear hO hB hg hAi hmem RWr g0 AL
       generalize R[i].2=u at *
       generalize ((R.take i).flatMap fun e=>af_ e.2)=L0 at *
       go_wp2_with fail
       refine CFi.out.mono ?_
       rintro e wF ⟨vF,rfl,hF,hbF⟩
       have PB:=hid (rP_ 89 (W:=W5) (wy:=wF) (l1:=L0) (B.out.trans (hbF.mono B.out.size)) (aB_ O.out fun b e=>hbF.block b (O.out.lt b e).2) (by have:=ALH.out;omega) hF)
       clear hF hbF g1 g2 g3 g4
       go_wp2_with (at_builtin;refine dP_ (by rfl) _ _ _ (by rfl) (by rfl) (by rfl) PB.out ?_;rintro v3 w3 ⟨hr3,hb3⟩;obtain⟨a3,c3,hv3⟩:=ay_ hr3;subst hv3;have O3:=hid hr3;have B3:=hid hb3;clear hr3 hb3)
       go_roundw
       case rel=>exact⟨i+1,a3,c3,by rw[← AS.out,List.length_append],by go_num,by omega,by rw[← AS.out];exact O3.out,B3.out⟩
       case measure=>simp[intOf];omega
      ·obtain rfl:i=R.length:=by omega
       have kt2:=KT.out.low hB
       have t3:=kt2.c3
       obtain⟨b,off,a',c',rfl,hbS,hf,hsA⟩:=AB.out
       obtain⟨g0,g1,g2,g3⟩:=hf.keep (hB.block b (aZ_ hbS (by rw[N2.out];omega)))
       have hsA2:AtW b0 a' c' wr:=(hsA.keep fun b hb=>hB.block b (aZ_ (HS.out b hb) (by rw[N2.out];omega))).mono fun b hb=>aZ_ (HS.out b hb) BW.out.size
       have CFb:=hid (gh_ b0 _ a' c' wr hsA2 (fun _ h=>h) (mg_ _ HMB.out.1) (by have:=HBS.out;omega))
       have EB:Hid (((R.take R.length).flatMap fun e=>af_ e.2)++af_ b0=oe_ R b0):=hid (by rw[List.take_length];rfl)
       have ALH:=hid (HBL.out.2 R.length)
       have HF2:=hid hf
       have HSA3:=hid hsA
       have HBSL:=hid hbS
       clear hO hB kt2 hf hsA2 hsA hbS
       generalize ((R.take R.length).flatMap fun e=>af_ e.2)=L0 at *
       go_wp2_with fail
       refine CFb.out.mono ?_
       rintro e wF ⟨vF,rfl,hF,hbF⟩
       have PB:=hid (rP_ 89 (W:=W5) (wy:=wF) (l1:=L0) (B.out.trans (hbF.mono B.out.size)) (aB_ O.out fun b e=>hbF.block b (O.out.lt b e).2) (by have:=ALH.out;omega) hF)
       rw[EB.out] at PB
       clear hF hbF g0 g1 g2 g3 t3
       go_upto_region 14 with (at_builtin;refine dP_ (by rfl) _ _ _ (by rfl) (by rfl) (by rfl) PB.out ?_;rintro v3 w3 ⟨hr3,hb3⟩;obtain⟨a3,c3,hv3⟩:=ay_ hr3;subst hv3;have O3:=hid hr3;have B3:=hid hb3;clear hr3 hb3)
       have hbutl:=HBL.out.1
       have SA:Hid (ax_ (fun b=>W5.heap.size≤b∧b<w3.heap.size) w3 (.slice a3 (oe_ R b0).length c3) (oe_ R b0)):=hid ((ax_.of_own O3.out (by omega)).mono fun b e=>O3.out.lt b e)
       have CH:=hid (fun (j:Nat) (W:World) (h:Below w3.heap.size w3 W)=>(by rw[vn_eq j];exact jK_ _ (.slice a3 (oe_ R b0).length c3) (oe_ R b0) (vn j) W ((SA.out.keep fun b hb=>h.block b hb.2)):Calls Tryz.prog 82 #[.slice a3 (oe_ R b0).length c3,.string (⟨#[118]⟩++ab_ (Lib.decDigits j))] W fun e w'=>e=.returned (.bool (cx_ (oe_ R b0) (vn j)))∧W=w'))
       have hdk:=DSH.out 0 (by omega)
       have D0:Hid (Calls Tryz.prog 20 #[.int .i64 0] w3 (bh_ w3 (Lib.decDigits 0))):=hid (DC.out 0 (by omega) w3)
       clear hbutl PB
       generalize oe_ R b0=BU at *
       go_wp2_with fail
       refine D0.out.mono ?_
       rintro e w1 ⟨rfl,hb1⟩
       have B1:=hid hb1
       have CH1:=hid (CH.out 0 w1 hb1)
       clear hb1
       go_wp2_with fail
       refine CH1.out.mono ?_
       rintro e w1' ⟨rfl,rfl⟩
       obtain⟨wo,hwo⟩:∃ wo:World,wo=w3:=⟨_,rfl⟩
       subst hwo
       go_wp2
       go_loopw [10,11] (fun kv bv wr=>∃ j:Nat,kv=.int .i64 j∧bv=.bool (cx_ BU (vn j))∧j≤m∧Below wo.heap.size wo wr) (fun kv _ _=>m+1 - (intOf kv).toNat)
       case atStart=>exact⟨0,rfl,rfl,Nat.zero_le _,B1.out⟩
       case round =>
        clear B1 CH1 hdk
        obtain⟨j,rfl,rfl,hjn,hB⟩:=hrel
        have BH:=hid hB
        have hml:=HML.out
        cases hh:cx_ BU (vn j) with
        | true =>
         have hlt:j<m:=by
          rcases Nat.lt_or_ge j m with h|h
          ·exact h
          ·obtain rfl:j=m:=by omega
           rw[HNO.out] at hh;cases hh
         have hds:=DSH.out (j+1) (by omega)
         have D1:Hid (Calls Tryz.prog 20 #[.int .i64 ((j:Int)+1)] wr (bh_ wr (Lib.decDigits (j+1)))):=hid (DC.out (j+1) (by omega) wr)
         clear hB hh
         go_wp2_with fail
         refine D1.out.mono ?_
         rintro e w2 ⟨rfl,hb2⟩
         have B2:=hid (BH.out.trans (hb2.mono BH.out.size))
         have CH2:=hid (CH.out (j+1) w2 B2.out)
         clear hb2
         go_wp2_with fail
         refine CH2.out.mono ?_
         rintro e w2' ⟨rfl,rfl⟩
         go_wp2
         go_roundw
         case rel=>exact⟨j+1,by go_num,rfl,by omega,B2.out⟩
         case measure=>simp[intOf];omega
        | false =>
         obtain rfl:j=m:=by
          rcases Nat.lt_or_ge j m with h|h
          ·have:=HYES.out j h
           rw[this] at hh;cases hh
          ·omega
         have hds:=DSH.out j hml
         have D1:=hid (DC.out j hml wr)
         clear hB hh
         go_wp2_with fail
         refine D1.out.mono ?_
         rintro e w2 ⟨rfl,hb2⟩
         have B2h:Below W5.heap.size W5 w2:=B3.out.trans ((BH.out.trans (hb2.mono BH.out.size)).mono B3.out.size)
         have B2:=hid B2h
         have BZ:=hid (HZ.out.trans (B2h.mono HZ.out.size))
         have kt2:=KT.out.low B2h
         have KR2:=hid (KR.out.low B2h)
         have ko2:=KO.out.low B2h
         have KO2:=hid ko2
         have t1:=kt2.c1
         have t3:=kt2.c3
         obtain⟨f0,f1,f2,f3⟩:=HF2.out.keep (B2h.block b (aZ_ HBSL.out (by rw[N2.out];omega)))
         have hbd:=B2h.drew
         have hbz:(i9_ t.name (vrU (vn j)) b0).length≤10000:=by
          have h1:=a0_ b0
          have h2:=a0_ (vrU (vn j))
          have h3:(vrU (vn j)).size=1:=rfl
          have:=HBS.out
          unfold i9_;rw[List.length_cons,List.length_append];omega
         have hmul:b0.size*((i9_ t.name (vrU (vn j)) b0).length+1)≤4000*10001:=Nat.mul_le_mul HBS.out (by omega)
         have CP:Hid (Calls Tryz.prog 70 #[.agg #[.int .i64 b0.kind,.string b0.name,.int .i64 b0.n,.slice a' b0.args.length c'],.string t.name,.agg #[.int .i64 1,.string (vn j),.int .i64 0,.slice none 0 0]] w2.drew (TP (fun _=>False) (fV_ t.name (vrU (vn j)) b0) w2.drew)) :=
          hid (rPut_s (fun _=>False) t.name (vrU (vn j)) b0 a' none c' 0 w2.drew ((HSA3.out.keep fun b hb=>hbd.block b (aZ_ (HS.out b hb) (by rw[N2.out];omega))).mono fun b hb=>aZ_ (HS.out b hb) (bN_ (by rw[N2.out];omega) hbd.size)) (.nil _ _) (fun _ h=>h.elim) HMB.out.1 (sg_ HLX.out).1 (by have:=HBS.out;omega) (by show 1≤1000000000000;omega) (by omega) (by omega))
         have hq2:=ko2.lt
         have HQ:Hid (∀ (w4:World) (b:Nat),New (fun _=>False) w2.drew w4 b→w.heap.size+3≤b∧b<w4.heap.size):=hid (fun w4 b h=>h.elim False.elim (fun h=>⟨by have h1:=h.1;simp at h1;omega,h.2⟩))
         clear hb2 D1 B2h kt2 ko2 hbd hbz hmul
         go_upto_region 20 with fail
         rw[vn_eq j]
         clear hds
         generalize vn j=zj at *
         generalize fV_ t.name (vrU zj) b0=y at *
         go_region_law (first
          | (go_simp;go_at_call 70;(with_reducible refine CP.out.mono ?_);rintro e w4 ⟨a4,c4,rfl,hA4,hB4⟩;unfold tv;have hb4:Below w2.heap.size w2 w4:=(Below.refl _ _).drew.trans hB4;have k4:=KO2.out.low hb4;have p0:=k4.c0;have p1:=k4.c1;have p2:=k4.c2;have p3:=k4.c3;have g0:=k4.fr 0;have g1:=k4.fr 1;have g2:=k4.fr 2;have g3:=k4.fr 3;have hz4:Below w4.heap.size w4 (w4.alloc (.cells #[.int .i64 y.kind,.string y.name,.int .i64 y.n,.slice a4 y.args.length c4] 43)):=ar_ _ _;have k5:=k4.low hz4;have p4:=k5.c0;have p5:=k5.c1;have p6:=k5.c2;have p7:=k5.c3;have g4:=k5.fr 0;have g5:=k5.fr 1;have g6:=k5.fr 2;have g7:=k5.fr 3;have HB4:=hid hb4;have HA4:=hid hA4;clear hA4 hB4 hb4 k4 k5 hz4))
         all_goals
          go_wp2_with fail
          go_meet
          exact AplCut.one (KR2.out.low HB4.out) (KO2.out.low HB4.out) (HA4.out.mono fun b hb=>HQ.out w4 b hb) (BZ.out.trans (HB4.out.mono BZ.out.size))
   clear KT KR KO c0 t00 t01 t02 t03 AT CASE HZ N2
   obtain⟨ao,co,kr,ko,hAL,hBW⟩:=hcut
   have o0:=ko.c0
   have o1:=ko.c1
   have o2:=ko.c2
   have hz:Below wc.heap.size wc (wc.alloc (.cells #[.int .i64 kd,.string s,.int .i64 nn,.slice none 0 0] 43)):=ar_ _ _
   have hwcl:=ko.lt
   have KR5:=hid (kr.low hz)
   have KO5:=hid (ko.low hz)
   have hSx:∀ b,Sx S w wc b→b<wc.heap.size:=fun b hb=>hb.elim (fun h=>aZ_ (HS.out b h) hBW.size) (fun h=>h.2)
   have HSX:=hid hSx
   have HSR:Hid (∀ b,Sx S w wc b→b≠w.heap.size+1∧(S b∨w.heap.size≤b)):=hid (fun b hb=>hb.elim (fun h=>⟨by have:=HS.out b h;omega,.inl h⟩) (fun h=>⟨by have:=h.1;omega,.inr (by have:=h.1;omega)⟩))
   have AL5:=hid (hAL.keep fun b hb=>hz.block b (hSx b hb))
   have BW5:=hid (hBW.alloc hBW.size (.cells #[.int .i64 kd,.string s,.int .i64 nn,.slice none 0 0] 43))
   have N5:Hid ((wc.alloc (.cells #[.int .i64 kd,.string s,.int .i64 nn,.slice none 0 0] 43)).heap.size=wc.heap.size+1∧w.heap.size+1+1<wc.heap.size):=hid ⟨by simp,hwcl⟩
   have I5:Hid (dz_ (Sx S w wc) wc.heap.size (wc.alloc (.cells #[.int .i64 kd,.string s,.int .i64 nn,.slice none 0 0] 43)).heap.size (wc.alloc (.cells #[.int .i64 kd,.string s,.int .i64 nn,.slice none 0 0] 43)) (wc.alloc (.cells #[.int .i64 kd,.string s,.int .i64 nn,.slice none 0 0] 43)) kd s nn (.slice none 0 0) [] []):=hid ⟨R4.new _ _ _ _ _,.nil _ _ _,.refl _ _ _⟩
   have HLL:Hid (L.length≤4000):=hid HL.out.len
   have hll:L.length≤4000:=HLL.out
   clear kr ko hAL hBW hz hSx hwcl
   go_wp2
   clear o0 o1 o2
   generalize wc.alloc (.cells #[.int .i64 kd,.string s,.int .i64 nn,.slice none 0 0] 43)=W5 at *
   go_loopw [14] (fun iv wr=>∃ (i:Nat) (v:Value) (svs:List Value),iv=.int .i64 i∧i≤L.length∧dz_ (Sx S w wc) wc.heap.size W5.heap.size W5 wr kd s nn v ((L.take i).map (of_ R d)) svs) (fun iv _=>L.length - (intOf iv).toNat)
   case atStart=>exact⟨0,_,_,rfl,Nat.zero_le _,I5.out⟩
   case round =>
    obtain⟨i,v,svs,rfl,hil,hI⟩:=hrel
    have z0:(0:Int)≤(i:Int):=by omega
    have n5:=N5.out
    have hws:W5.heap.size≤wr.heap.size:=hI.kp.size
    have kro:R4 wr (w.heap.size+1+1) (.int .i64 kd) (.string s) (.int .i64 nn) (.slice ao L.length co):=(hI.kept (by omega) (by omega)).trans KO5.out
    have kr:R4 wr (w.heap.size+1) (.int .i64 0) (.string ⟨#[]⟩) (.int .i64 0) (.slice none 0 0):=(hI.kept (by omega) (by omega)).trans KR5.out
    have ko:=hI.ko
    have hBw:Below w.heap.size w wr:=((Kp.of_below BW5.out).trans (hI.kp.mono (n:=w.heap.size) (T':=fun _=>False) (by omega) (fun b hb e=>by omega)) (aD_ _) (fun _ _ e=>e)).to_below
    have KO:=hid ko
    have KR:=hid kr
    have BW:=hid hBw
    have t3:=kro.c3
    by_cases hi:i<L.length
    ·have z1:(i:Int)<(L.length:Int):=by omega
     obtain⟨b,off,a',cap',rfl,hb,hf,hs⟩:=AL5.out.at_ hi
     have hb':=HSX.out b hb
     have hbk:wr.heap[b]? = W5.heap[b]? := hI.kept (by omega) (by omega)
     obtain⟨f0,f1,f2,f3⟩:=hf.keep hbk
     have hm:=List.getElem_mem hi
     obtain⟨m1,m2,m3⟩:=HL.out.inn _ hm
     have hBd:=hBw.drew
     have CH:=hid (IH.out (Sx S w wc) L[i] a' cap' wr.drew (fun b hb=>.inl (HS0.out b hb)) (fun b hb=>by have:=HSX.out b hb;show b<wr.heap.size;omega) (HB0.out.trans (hBd.mono HB0.out.size)) (hs.keep (B:=wr.drew) fun b hb=>hI.kept (by have:=HSX.out b hb;omega) (by have:=HSX.out b hb;omega)) m1 m2 m3)
     have ST:Hid ((L.take (i+1)).map (of_ R d)=(L.take i).map (of_ R d)++[of_ R d L[i]]):=hid (by rw[List.take_succ_eq_append_getElem hi,List.map_append];rfl)
     have hal:((L.take i).map (of_ R d)).length≤1000000000000:=by
      rw[List.length_map,List.length_take]
      have:=HLL.out
      omega
     obtain⟨o0,o1,o2,o3⟩:=ko.c03
     have HI:=hid hI
     unfold tv at CH
     clear hf hs hbk hBw hBd hm hb hb' hI kro kr ko m1 m2 m3
     generalize (L.take i).map (of_ R d)=acc at *
     generalize L[i]=x at *
     generalize of_ R d x=y at *
     go_wp2
     go_region_law (first
      | ((with_reducible show (if Region.wanted _ _=true then Oper.wp _ _ _ (World.alloc _ _) _ _ else _));refine as_ (by rfl) _ _ _ (by rfl) (by rfl) (by rfl) PA.out ?_;rintro v7 w7 ⟨hr7,hg7,hl7⟩;obtain⟨a7,c7,hv7⟩:=hr7.form;rw[List.length_append,List.length_singleton] at hv7;subst hv7;have g7:=(K4.out.grown hg7 NV.out).fr 3;have e7:=(K4.out.grown hg7 NV.out).c3;have HR7:=hid hr7;have HG7:=hid hg7;clear hr7 hg7)
      | (go_simp;go_at_call 61;(with_reducible refine CH.out.mono ?_);rintro e w4 ⟨a4,c4,rfl,hA4,hB4⟩;have hb4:Below wr.heap.size wr w4:=(Below.refl _ _).drew.trans hB4;have k4:=KO.out.low hb4;have p0:=k4.c0;have p1:=k4.c1;have p2:=k4.c2;have p3:=k4.c3;have p5:=(k4.low (ar_ _ (.cells #[.int .i64 y.kind,.string y.name,.int .i64 y.n,.slice a4 y.args.length c4] 43))).c3;have K4:=hid k4;have NV:Hid (v.ownBlock≠some wc.heap.size):=hid (fun e=>by have:=(HI.out.row.own.lt _ e).1;omega);have PA:=hid ((HI.out.row.low hb4).push (bN_ hws hb4.size) hal (t:=y) (a:=a4) (c:=c4) (hA4.mono fun b hb=>r5_ HSX.out HI.out.row hws (by omega) hb4.size rfl hb));have HB4:=hid hb4;clear hb4 k4 hA4 hB4;unfold tv))
     all_goals
      have HI8:=hid (HI.out.step (by omega) (fun b hb=>HSX.out b hb) hws HB4.out HR7.out HG7.out)
      go_wp2
      go_roundw
      case rel=>exact⟨i+1,_,_,by go_num,by omega,by rw[ST.out];exact HI8.out⟩
      case measure=>simp[intOf];omega
    ·obtain rfl:i=L.length:=by omega
     have EL:(L.take L.length).map (of_ R d)=L.map (of_ R d):=by rw[List.take_length]
     rw[EL] at hI
     obtain⟨av,cv,hv⟩:=hI.row.form
     subst hv
     have HI2:=hid hI
     have hko:=hI.ko
     rw[List.length_map] at hko
     obtain⟨o0,o1,o2,o3⟩:=hko.c03
     obtain⟨r0,r1,r2,r3⟩:=kr.c03
     obtain⟨f0,f1,f2,f3⟩:=kr.f03
     clear hI hBw kro kr ko hko EL KO
     go_wp2
     have q4:=KR.out.set4 (.int .i64 kd) (.string s) (.int .i64 nn) (.slice av L.length cv)
     have he:=HI2.out.endU (w:=w) HSR.out BW5.out (by omega) (by omega) (r:=w.heap.size+1) (by omega) (by omega) (.int .i64 kd) (.string s) (.int .i64 nn) (.slice av L.length cv)
     refine bodyPost_ret (v:=.agg #[.int .i64 kd,.string s,.int .i64 nn,.slice av L.length cv]) (by simp[results,Tryz.results61,go_sem,q4.c0,q4.c1,q4.c2,q4.c3]) rfl ?_
     rw[HL.out.eq]
     refine⟨av,cv,?_,he.1,he.2⟩
     show _=Ending.returned (.agg #[.int .i64 kd,.string s,.int .i64 nn,.slice av (L.map (of_ R d)).length cv])
     rw[List.length_map]
set_option maxRecDepth 100000 in
set_option maxHeartbeats 1600000 in
theorem rApply_any {w:World}{kv:Value}{R:Kn}{t:Ty}{a:OA_}{c:Nat}(hR:hq_ w kv R)(H:ApI R)(hA:AtW t a c w)(hm:Mk t)(hs:t.size≤4000) :
  Calls Tryz.prog 29 #[kv,.agg #[.int .i64 t.kind,.string t.name,.int .i64 t.n,.slice a t.args.length c]] w (ik_ (of_ R t.size t) w):=by
 have hz:Below w.heap.size w ((w.alloc (.cells #[.int .i64 t.kind,.string t.name,.int .i64 t.n,.slice a t.args.length c] 43)).alloc (.cells #[.int .i64 0,.string ⟨#[]⟩,.int .i64 0,.slice none 0 0] 43)):=(ar_ _ _).alloc (by simp) _
 have q0:=(R4.new w (.int .i64 t.kind) (.string t.name) (.int .i64 t.n) (.slice a t.args.length c)).low (ar_ _ (.cells #[.int .i64 0,.string ⟨#[]⟩,.int .i64 0,.slice none 0 0] 43))
 have q1:=R4.new (w.alloc (.cells #[.int .i64 t.kind,.string t.name,.int .i64 t.n,.slice a t.args.length c] 43)) (.int .i64 0) (.string ⟨#[]⟩) (.int .i64 0) (.slice none 0 0)
 rw[show (w.alloc (.cells #[.int .i64 t.kind,.string t.name,.int .i64 t.n,.slice a t.args.length c] 43)).heap.size=w.heap.size+1 from by simp] at q1
 obtain⟨c0,c1,c2,c3⟩:=q0.c03
 have C:=hid (rapl_any hR H t.size (Lt w.heap.size) t a c ((w.alloc (.cells #[.int .i64 t.kind,.string t.name,.int .i64 t.n,.slice a t.args.length c] 43)).alloc (.cells #[.int .i64 0,.string ⟨#[]⟩,.int .i64 0,.slice none 0 0] 43)) (fun b hb=>hb) (fun b (hb:b < _)=>aZ_ hb hz.size) hz (hA.keep fun b hb=>hz.block b hb) hm (aD_ _) hs)
 have N2:Hid (((w.alloc (.cells #[.int .i64 t.kind,.string t.name,.int .i64 t.n,.slice a t.args.length c] 43)).alloc (.cells #[.int .i64 0,.string ⟨#[]⟩,.int .i64 0,.slice none 0 0] 43)).heap.size=w.heap.size+2):=hid (by simp)
 have HZ:=hid hz
 have KR:=hid q1
 obtain⟨ka,kc,rfl,_⟩:=hR
 clear hA hm hs hz q0 q1 H
 unfold tv at C
 go_enter Tryz.func29,Tryz.ntmps29
 go_wp2_with fail
 generalize (w.alloc (.cells #[.int .i64 t.kind,.string t.name,.int .i64 t.n,.slice a t.args.length c] 43)).alloc (.cells #[.int .i64 0,.string ⟨#[]⟩,.int .i64 0,.slice none 0 0] 43)=W1 at *
 refine C.out.mono ?_
 rintro e w3 ⟨ya,yc,rfl,hY,hb⟩
 generalize of_ R t.size t=y at *
 have kr:=KR.out.low hb
 obtain⟨r0,r1,r2,r3⟩:=kr.c03
 obtain⟨f0,f1,f2,f3⟩:=kr.f03
 have K5:=hid kr
 have HY:=hid hY
 have HB:=hid hb
 clear hb hY kr c0 c1 c2 c3
 unfold tv
 go_wp2
 have q5:=R4.set4 K5.out (.int .i64 y.kind) (.string y.name) (.int .i64 y.n) (.slice ya y.args.length yc)
 refine bodyPost_ret (v:=.agg #[.int .i64 y.kind,.string y.name,.int .i64 y.n,.slice ya y.args.length yc]) (by simp[results,Tryz.results29,go_sem,q5.c0,q5.c1,q5.c2,q5.c3]) rfl ?_
 have hbw:=HZ.out.trans (HB.out.mono HZ.out.size)
 have n2:=N2.out
 have hb4:=hbw.set4 (b:=w.heap.size+1) (by omega) (.int .i64 y.kind) (.string y.name) (.int .i64 y.n) (.slice ya y.args.length yc)
 have hsz:=HB.out.size
 refine⟨ya,yc,rfl,(HY.out.keep fun b hb=>?_).mono fun b hb=>?_,hb4⟩
 ·have hne:b≠w.heap.size+1:=by
   rcases hb with hb|hb
   ·have:b<w.heap.size:=hb
    omega
   ·have:=hb.1;omega
  rw[au_ _ _ _ _ hne,au_ _ _ _ _ hne,au_ _ _ _ _ hne,au_ _ _ _ _ hne]
 ·show b<Array.size (World.heap _)
  simp only[World.size_setCell]
  rcases hb with hb|hb
  ·have:b<w.heap.size:=hb
   omega
  ·exact hb.2
set_option maxRecDepth 100000 in
set_option maxHeartbeats 6400000 in
theorem unifyApplies_walk (v0:Value)(ls:List Ln)(a1:ByteArray)(z1:a1.size≤maxLen)(w:World)(hL:lU_ w v0 ls)(hT:Tab w):Calls Tryz.prog 8 #[v0,.string a1] w fun e w'=>e=.returned (.bool true)∧Below w.heap.size w w':=by
 have HT:=hid hT
 have RL_0:=hid hL
 have Z1:=hid z1
 have zs:a1.size≤9223372036854775807:=z1
 clear hT hL z1
 go_enter Tryz.func8,Tryz.ntmps8
 have C:=hid (sb_ _ HT.out)
 go_wp2_with fail
 refine C.out.mono ?_
 rintro e w1 ⟨rfl,hB⟩
 clear C
 have RL_1:=hid (RL_0.out.low hB)
 have B_1:=hid (hB)
 clear hB RL_0
 have C:=hid (my_ _ v0 ls RL_1.out)
 go_wp2_with fail
 refine C.out.mono ?_
 rintro e w2 ⟨hB,hres⟩
 clear C
 cases hq:c8_ ls with
 | none =>
  rw[hq] at hres
  subst hres
  clear hq
  have RL_2:=hid (RL_1.out.low hB)
  have B_2:=hid (B_1.out.trans (hB.mono B_1.out.size))
  clear hB RL_1 B_1
  clear RL_2
  have C:=hid (p0_ w2 a1 Z1.out)
  go_wp2_with fail
  refine C.out.mono ?_
  rintro e w3 ⟨t,ta,tc,er,rfl,hB,k4,hA,hc,hsz⟩
  have hX:tn_ w3.heap.size w3.heap.size t ta tc _:=⟨k4,hA.mono fun _ h=>h.2,by simp,by simp⟩
  clear C hsz k4 hA
  have B_3:=hid (B_2.out.trans (hB.mono B_2.out.size))
  have RT_3:=hid hX
  clear hB hX B_2
  clear hc
  have C:=hid (mT_ (w3.alloc (.cells #[.int .i64 t.kind,.string t.name,.int .i64 t.n,.slice ta t.args.length tc] 37)) a1 Z1.out)
  go_wp2_with fail
  refine C.out.mono ?_
  rintro e w4 ⟨u,ua,uc,er2,rfl,hB,k4,hA,hd,hsz⟩
  have hX:n7_ w4.heap.size w4.heap.size u ua uc _:=⟨k4,hA.mono fun _ h=>h.2,by simp,by simp⟩
  clear C hsz k4 hA
  have RT_4:=hid (RT_3.out.low hB)
  have B_4:=hid (B_3.out.trans (hB.mono B_3.out.size))
  have RU_4:=hid hX
  clear hB hX RT_3 B_3
  clear hd
  go_wp2
  go_ret
  exact⟨rfl,B_4.out⟩
 | some es =>
  rw[hq] at hres
  obtain⟨v,u,ps,qs,rfl,hE⟩:=hres
  obtain⟨va,vc,rfl⟩:=ay_ hE.a.own
  obtain⟨ua,uc,rfl⟩:=ay_ hE.b.own
  have Ees:=hid (es_of hq)
  have hEs:pU_ w2 (.slice va es.length vc) es:=hE.a.es (by have:=Ees.out.ln;omega) fun b hb=>hb.2.1
  have hEb:pU_ w2 (.slice ua es.length uc) es:=hE.b.es (by have:=Ees.out.ln;omega) fun b hb=>hb.2.1
  have RG_0:=hid hEb
  clear hq hE hEb
  have RL_2:=hid (RL_1.out.low hB)
  have B_2:=hid (B_1.out.trans (hB.mono B_1.out.size))
  have RE_2:=hid hEs
  clear hB hEs RL_1 B_1
  have RG_2:=hid RG_0.out
  clear RG_0
  clear RL_2
  have C:=hid (p0_ w2 a1 Z1.out)
  go_wp2_with fail
  refine C.out.mono ?_
  rintro e w3 ⟨t,ta,tc,er,rfl,hB,k4,hA,hc,hsz⟩
  have hX:tn_ w3.heap.size w3.heap.size t ta tc _:=⟨k4,hA.mono fun _ h=>h.2,by simp,by simp⟩
  clear C hsz k4 hA
  have RE_3:=hid (RE_2.out.low hB)
  have RG_3:=hid (RG_2.out.low hB)
  have B_3:=hid (B_2.out.trans (hB.mono B_2.out.size))
  have RT_3:=hid hX
  clear hB hX RE_2 RG_2 B_2
  have HC:=hid hc
  clear hc
  have C:=hid (mT_ (w3.alloc (.cells #[.int .i64 t.kind,.string t.name,.int .i64 t.n,.slice ta t.args.length tc] 37)) a1 Z1.out)
  go_wp2_with fail
  refine C.out.mono ?_
  rintro e w4 ⟨x,xa,xc,er2,rfl,hB,k4,hA,hd,hsz⟩
  have hX:n7_ w4.heap.size w4.heap.size x xa xc _:=⟨k4,hA.mono fun _ h=>h.2,by simp,by simp⟩
  clear C hsz k4 hA
  have RE_4:=hid (RE_3.out.low hB)
  have RG_4:=hid (RG_3.out.low hB)
  have RT_4:=hid (RT_3.out.low hB)
  have B_4:=hid (B_3.out.trans (hB.mono B_3.out.size))
  have RU_4:=hid hX
  clear hB hX RE_3 RG_3 RT_3 B_3
  have HD:=hid hd
  clear hd
  have hcase:((er:Int) != 0)=true∨(((er:Int) != 0)=false∧decide ((200:Int)<(a1.size:Int))=true)∨(((er:Int) != 0)=false∧decide ((200:Int)<(a1.size:Int))=false∧bk_ a1.data.toList=.ok t∧t=x∧a1.size≤200):=by
   rcases HC.out with ⟨p1,rfl⟩|⟨_,h1⟩
   ·by_cases q1:200<a1.size
    ·exact .inr (.inl ⟨rfl,decide_eq_true (by omega)⟩)
    ·refine .inr (.inr ⟨rfl,decide_eq_false (by omega),p1,?_,by omega⟩)
     rcases HD.out with ⟨p2,_⟩|⟨p2,_⟩
     ·rw[p1] at p2;injection p2 with p2
     ·rw[p1] at p2;cases p2
   ·exact .inl (by rw[bne_iff_ne];omega)
  clear HC HD
  rcases hcase with e0|⟨e0,e1⟩|⟨e0,e1,hp,rfl,hsz⟩
  ·go_wp2
   go_ret
   exact⟨rfl,B_4.out⟩
  ·go_wp2
   go_ret
   exact⟨rfl,B_4.out⟩
  ·have MK:=hid (ds_ hp)
   have hs2:t.size≤200:=by have:=MK.out.2.2.1;rw[show a1.data.toList.length=a1.size from by simp] at this;omega
   have GA:=hid (gw_all Ees.out MK.out.1 hs2)
   have HS2:=hid hs2
   have API:Hid (ApI (gwK es)):=hid (by have G:=ry_ Ees.out;exact⟨G.1.sd,G.2.1,G.2.2.1⟩)
   have HLE:Hid (es.length≤16):=hid Ees.out.ln
   clear hp hsz hs2
   go_wp2
   generalize (w4.alloc (.cells #[.int .i64 t.kind,.string t.name,.int .i64 t.n,.slice xa t.args.length xc] 43))=WS at *
   go_loopw [13,14,15] (fun kv mv iv wr=>∃ (i:Nat) (pp qq:List Value),iv=.int .i64 i∧i≤es.length∧jV_ WS.heap.size wr kv mv (gwK (es.take i)) (gwK (es.take i)) pp qq∧Below WS.heap.size WS wr) (fun _ _ iv _=>es.length - (intOf iv).toNat)
   case atStart=>exact⟨0,[],[],rfl,Nat.zero_le _,jV_.nil (aD_ _),Below.refl _ _⟩
   case round =>
    obtain⟨i,pp,qq,rfl,hil,hE,hBr⟩:=hrel
    have i0:(0:Int)≤(i:Int):=by omega
    by_cases hi:i<es.length
    ·have i1:(i:Int)<(es.length:Int):=by omega
     have i2:(i:Int)<16:=by have:=HLE.out;omega
     have TK:=hid (ts_ hi)
     have HEL0:Hid ((gwK (es.take i)).length≤16):=hid (by have:=nn_ (es.take i);rw[List.length_take] at this;have:=HLE.out;omega)
     generalize gwK (es.take i)=F at *
     obtain⟨ba,bc,rfl⟩:=ay_ hE.a.own
     obtain⟨ma,mc,rfl⟩:=ay_ hE.b.own
     have HEL:Hid (F.length≤16):=HEL0
     obtain⟨b,off,xa,xc,ya,yc,rfl,hb,hl4,hr4,hAl,hAr⟩:=RE_4.out.one hi
     obtain⟨b2,off2,xa2,xc2,ya2,yc2,rfl,hb2,hl42,hr42,hAl2,hAr2⟩:=RG_4.out.one hi
     have KK:Hid (∀ W,Below WS.heap.size WS W→(∀ o,W.cell? ⟨b,o,none⟩=WS.cell? ⟨b,o,none⟩)∧∀ o,W.cell? ⟨b2,o,none⟩=WS.cell? ⟨b2,o,none⟩):=hid fun W h=>⟨fun o=>World.cell?_of_block (h.block b hb),fun o=>World.cell?_of_block (h.block b2 hb2)⟩
     have BR:=hid hBr
     have AR:=hid hAr
     have AR2:=hid hAr2
     have KE:=hid hE
     have L4:=hid hl4
     have R4_:=hid hr4
     have L42:=hid hl42
     have R42:=hid hr42
     clear hE hBr hl4 hr4 hAl hAr hb hl42 hr42 hAl2 hAr2 hb2
     generalize es[i]=y at *
     have c0:=((KK.out _ BR.out).1 _).trans L4.out.1
     have c2:=((KK.out _ BR.out).1 _).trans L4.out.2.2.1
     by_cases hgv:y.1.kind=2∧y.1.n<100000
     ·have TK2:=hid (TK.out.trans (by rw[gwE_yes hgv]))
      obtain⟨g1,g2⟩:=hgv
      rw[g1] at c0
      have z2:decide (y.1.n<(100000:Int))=true:=decide_eq_true g2
      have BD:Hid (Below WS.heap.size WS wr.drew):=hid BR.out.drew
      have d0:=((KK.out _ BR.out).1 _).trans R4_.out.1
      have d1:=((KK.out _ BR.out).1 _).trans R4_.out.2.1
      have d2:=((KK.out _ BR.out).1 _).trans R4_.out.2.2.1
      have d3:=((KK.out _ BR.out).1 _).trans R4_.out.2.2.2
      have pa:=KE.out.drew.push1 (x:=(y.1.n,y.2)) (by have:=HEL.out;omega) (AR.out.keep fun b hb=>BD.out.block b hb)
      rw[gI_] at pa
      have PA:=hid pa
      clear pa
      go_upto_region 13 with fail
      go_region_law (first
       | ((with_reducible show (if Region.wanted _ _=true then Oper.wp _ _ _ (World.drew (World.alloc _ _)) _ _ else _));refine cW_ (by rfl) _ _ _ (by rfl) (by rfl) (by rfl) PA.out ?_;rintro v9 w9 ⟨ps9,hr9,hB9⟩;have HR9:=hid hr9;have B9:=hid (BD.out.trans (hB9.mono (aD_ _)));clear hr9 hB9 PA c0 c2 d0 d1 d2 d3))
      all_goals
       have BD9:Hid (Below WS.heap.size WS w9.drew):=hid B9.out.drew
       have c2:=((KK.out _ B9.out).2 _).trans L42.out.2.2.1
       have d0:=((KK.out _ B9.out).2 _).trans R42.out.1
       have d1:=((KK.out _ B9.out).2 _).trans R42.out.2.1
       have d2:=((KK.out _ B9.out).2 _).trans R42.out.2.2.1
       have d3:=((KK.out _ B9.out).2 _).trans R42.out.2.2.2
       have pa:=HR9.out.drew.push2 (x:=(y.1.n,y.2)) (by have:=HEL.out;omega) (AR2.out.keep fun b hb=>BD9.out.block b hb)
       rw[gI_] at pa
       have PA:=hid pa
       clear pa
       go_upto_region 14 with fail
       go_region_law (first
        | ((with_reducible show (if Region.wanted _ _=true then Oper.wp _ _ _ (World.drew (World.alloc _ _)) _ _ else _));refine cW_ (by rfl) _ _ _ (by rfl) (by rfl) (by rfl) PA.out ?_;rintro v8 w8 ⟨qs8,hr8,hB8⟩;have HR8:=hid hr8;have B8:=hid (BD9.out.trans (hB8.mono (aD_ _)));clear hr8 hB8 PA c2 d0 d1 d2 d3))
       all_goals
        go_wp2
        go_roundw
        case measure=>simp[intOf];omega
        case rel=>exact⟨i+1,_,_,by go_num,by omega,by rw[TK2.out];exact HR8.out,B8.out⟩
     ·have TK2:=hid (TK.out.trans (by rw[gwE_no hgv,List.append_nil]))
      have KR:Hid (∃ i' pp' qq',Value.int .i64 ((i:Int)+1)=.int .i64 ((i':Nat):Int)∧i'≤es.length∧jV_ WS.heap.size wr (.slice ba F.length bc) (.slice ma F.length mc) (gwK (es.take i')) (gwK (es.take i')) pp' qq'∧Below WS.heap.size WS wr):=hid ⟨i+1,pp,qq,by go_num,by omega,by rw[TK2.out];exact KE.out,BR.out⟩
      by_cases g1:y.1.kind=2
      ·rw[g1] at c0
       have z2:decide (y.1.n<(100000:Int))=false:=decide_eq_false fun h=>hgv ⟨g1,h⟩
       clear hgv
       go_wp2
       go_roundw
       case measure=>simp[intOf];omega
       case rel=>exact KR.out
      ·have z1:(y.1.kind==(2:Int))=false:=beq_eq_false_iff_ne.2 g1
       have z2:decide (y.1.kind=(2:Int))=false:=decide_eq_false g1
       clear hgv
       go_wp2
       go_roundw
       case measure=>simp[intOf];omega
       case rel=>exact KR.out
    ·obtain rfl:i=es.length:=by omega
     rw[List.take_length] at hE
     have hK:=hE.row1
     have hM:=hE.row2
     obtain⟨ka,kc,rfl⟩:=ay_ hE.a.own
     obtain⟨ma,mc,rfl⟩:=ay_ hE.b.own
     have RT:=hid (RT_4.out.low hBr)
     have RU:=hid (RU_4.out.low hBr)
     have BW:=hid (B_4.out.trans (hBr.mono B_4.out.size))
     have RK:=hid hK
     have RM:=hid hM
     clear hE hBr hK hM hi hil i0
     obtain⟨k0,k1,k2,k3⟩:=RT.out.k.c03
     have C:=hid (apply_h RK.out RT.out.at_ GA.out.1 (ak_ HT.out BW.out))
     go_wp2_with fail
     refine C.out.mono ?_
     rintro e x1 ⟨pa,pc,rfl,hA,hB⟩
     have BW1:=hid (BW.out.trans (hB.mono BW.out.size))
     have RU1:=hid (RU.out.low hB)
     have RM1:=hid (RM.out.low hB)
     have C2:=hid (nI_ hA GA.out.2.1 (ak_ HT.out BW1.out))
     clear C hA hB k0 k1 k2 k3 RT RU RM BW
     go_wp2_with fail
     refine C2.out.mono ?_
     rintro e x2 ⟨rfl,hB⟩
     have BW2:=hid (BW1.out.trans (hB.mono BW1.out.size))
     have RU2:=hid (RU1.out.low hB)
     have RM2:=hid (RM1.out.low hB)
     clear C2 hB RU1 RM1 BW1
     obtain⟨k0,k1,k2,k3⟩:=RU2.out.k.c03
     have C:=hid (rApply_any RM2.out API.out RU2.out.at_ MK.out.1 (by have:=HS2.out;omega))
     go_wp2_with fail
     refine C.out.mono ?_
     rintro e x3 ⟨qa,qc,rfl,hA,hB⟩
     have BW3:=hid (BW2.out.trans (hB.mono BW2.out.size))
     have C2:=hid (tr_ hA GA.out.2.2.1)
     have EQ:=hid GA.out.2.2.2
     clear C hA hB k0 k1 k2 k3 RU2 RM2 BW2
     go_wp2_with fail
     refine C2.out.mono ?_
     rintro e x4 ⟨rfl,hB⟩
     have BW4:=hid (BW3.out.trans (hB.mono BW3.out.size))
     clear C2 hB BW3
     have zq:((ab_ (aO_ (apF (gwK es) t))).toList==(ab_ (aO_ (of_ (gwK es) t.size t))).toList)=true:=by rw[EQ.out];exact beq_self_eq_true _
     go_wp2
     go_ret
     exact⟨rfl,BW4.out⟩
end Go.Proofs.YtjecnionbjlncaaGreatDoor.Tp

namespace Go.Proofs.YtjecnionbjlncaaGreatDoor.unifyApplies
open Go.ChangeShapes Go.WideShapes Go.ChangeAt Go.WideMaps Go.WideElems Go.RowKit
open Go.ChangeMaps (open_string shut_string)
open Tp (Tab sP_ qB_ tt_ own laidOut)

/-! ### the row's step, as the kit's worked example (a law over laid variables) has it -/
set_option linter.unusedVariables false in
set_option maxRecDepth 100000 in
theorem lifted (os : Os) (started : os.Started) (H : Type) (enc : TypeId × Value → H) :
    ReturnsInHanded {} Tryz.checked os 8 .any (fun w args => (Rows.unifyAppliesSpec.pre enc Tryz.prog Tryz.f8 [] false w args ∧ laidMetH Tryz.prog sP_ w) ∧ sizedMet enc Tryz.prog Tryz.f8 (OpenSpec.ofChange Rows.unifyAppliesSpec) false w args)
      (Rows.unifyAppliesSpec.post enc Tryz.prog Tryz.f8 false true false false) := by
  refine returnsInHanded_of_change_and (C := Tryz.checked) (X := fun w _ => laidMetH Tryz.prog sP_ w) (fun _ _ _ hh h => h.of_heap hh) own started (by kernel_rfl) Tryz.func8
    (ChangeSpec.witness_shaped (enc := enc) (C := Tryz.checked) (os := os) (X := fun w _ => laidMetH Tryz.prog sP_ w) false (World.doorLaid Tryz.prog 400 os) #[.slice none 0 0, .string ByteArray.empty] 8 rfl (World.shaped_of_RefB (by kernel_rfl) (by kernel_rfl)) (by kernel_rfl) (by kernel_rfl) (by kernel_rfl) (tt_ os _)) ?_
  intro W base args ds gs before hval0 hW _ _ hL _
  have hval : ∀ (j : Nat) t v, Tryz.f8.params[j]? = some t → args[j]? = some v → Value.okWide Tryz.prog W .any base t v := hval0
  have hW' := hW
  obtain ⟨p, q, hA0, hV, rfl, hfz, hnd⟩ := hW
  have hA : DataW.TrodAll enc Tryz.prog W 0 (fun _ => true) true Tryz.f8.params.toList args.toList ds p := hA0
  rw [Tryz.params8] at hA hval
  obtain ⟨v0, vs0, d0, ds0, p0, q0, hargs, rfl, rfl, h0, r0⟩ := trodAll_cons hA
  obtain ⟨v1, vs1, d1, ds1, p1, q1, rfl, rfl, rfl, h1, r1⟩ := trodAll_cons r0
  obtain ⟨rfl, rfl, rfl⟩ := trodAll_nil r1
  obtain rfl : args = #[v0, v1] := by cases args; simp_all
  obtain ⟨rfl, rfl⟩ := trodVars_none hV
  have k0 := h0
  have lt0 : ∀ x ∈ p0, x.block < W.heap.size := by obtain ⟨m, hm⟩ := k0; exact DataW.trod_lt m _ _ _ hm
  obtain ⟨a0, w0⟩ := Tp.opnL (hval 0 22 v0 rfl rfl) h0
  obtain ⟨a1, rfl, rfl, rfl, w1⟩ := open_string Tryz.underlying9 (hval 1 9 v1 rfl rfl) h1
  clear hA0 hval0
  refine (Tp.unifyApplies_walk v0 a0 a1 w1 W w0 (qB_ hL)).mono fun e W' ⟨he, bel⟩ => ?_
  subst he
  exact ⟨_, rfl, _, _, _, [], _, [], hW', trodAll_mk1 (shut_bool Tryz.underlying4 _), (trodAll_cons_mk (Below.trod laidOut (by kernel_rfl) (of_decide_eq_true (by kernel_rfl)) k0 bel lt0) (trodAll_cons_mk (shut_string Tryz.underlying9 w1) trodAll_mk0)), rfl, bel.frame _, fun h => by cases h⟩

theorem row_holds : Rows.UnifyAppliesSaid :=
  OpenClaim.holds_of_wide 8 Tryz.f8 rfl rfl rfl rfl rfl rfl rfl ⟨rfl, rfl, rfl, rfl, rfl⟩ rfl rfl rfl rfl rfl (by kernel_rfl) Tryz.func8 (by kernel_rfl)
    (of_decide_eq_true (by kernel_rfl)) (by unfold Func.isWrapper; first | (rw [if_pos (by decide +kernel)]; kernel_rfl) | (rw [if_neg (by decide +kernel)]; exact ⟨rfl, rfl⟩))
    (fun os started H enc _ => lifted os started H enc)

/-- THE STATEMENT: the row, tied to the program's text. -/
theorem proved : Rows.UnifyAppliesCardSaid :=
  Claim7.holds_tied_plain_at .later [] [.data, .data, .data, .sentinel, .sentinel] true Rows.unifyAppliesCard.stood.harness true
    row_holds (fun _ h => by cases h) (by kernel_rfl) (fun _ h => by cases h) unifyApplies_row_tie rfl ⟨rfl, rfl⟩ (by kernel_rfl) rfl
    (fun f fn hf hfn => by
      obtain rfl : f = 8 := Option.some.inj ((show Tryz.prog.funcNamed "savant/savantlaw04.UnifyApplies" = some 8 by kernel_rfl).symm.trans hf) |>.symm
      obtain rfl : fn = Tryz.f8 := (Option.some.inj (Tryz.func8.symm.trans hfn)).symm
      exact ⟨by kernel_rfl, fun j t ht => by
        rw [Tryz.params8] at ht
        have hm : t ∈ [22, 9] := by simpa using Array.mem_of_getElem? ht
        have hall : ([22, 9].all fun u => !Tryz.prog.wantsStandIn u) = true := by kernel_rfl
        exact (show Tryz.prog.wantsStandIn t = false by simpa using List.all_eq_true.1 hall t hm)⟩)
    (by kernel_rfl)
#print axioms proved
end Go.Proofs.YtjecnionbjlncaaGreatDoor.unifyApplies

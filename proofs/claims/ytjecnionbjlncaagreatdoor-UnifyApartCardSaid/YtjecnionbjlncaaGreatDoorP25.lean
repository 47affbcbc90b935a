/- Packed. -/
import Derived.Test.YtjecnionbjlncaaGreatDoorP24
import Derived.Test.YtjecnionbjlncaaGreatDoorP23
set_option maxRecDepth 100000
set_option maxHeartbeats 6400000
namespace Go.Proofs.YtjecnionbjlncaaGreatDoor.Tp
section
open Go.RowKit
theorem cO_.low {k:Int}{s:ByteArray}{m:Int}{sl fv:Value}{n:Nat}{w W W':World}(R:cO_ k s m sl fv n w W)(h:Below W.heap.size W W'):cO_ k s m sl fv n w W':=by
 have:=R.size;exact⟨R.hz.trans (h.mono R.hz.size),R.k4.low h,(h.block _ (by omega)).trans R.hf,(h.block _ (by omega)).trans R.hn,R.q4.low h,cj_ R.size h.size⟩
theorem cO_.setn {k:Int}{s:ByteArray}{m:Int}{sl fv:Value}{n:Nat}{w W:World}(R:cO_ k s m sl fv n w W)(n':Nat):cO_ k s m sl fv n' w (W.setCell ⟨w.heap.size+2,0,none⟩ (.int .i64 (n':Int))):=by
 have h:=dy_ W (w.heap.size+2) 0 (.int .i64 (n':Int));exact⟨R.hz.setCell (p:=⟨w.heap.size+2,0,none⟩) (by simp) _,(h.off _ (by omega)).trans R.k4,(h.off _ (by omega)).trans R.hf,aN_ R.hn _,(h.off _ (by omega)).trans R.q4,by rw[h.size];exact R.size⟩
theorem cO_.sett {k:Int}{s:ByteArray}{m:Int}{sl fv:Value}{n:Nat}{w W:World}(R:cO_ k s m sl fv n w W)(k':Int)(s':ByteArray)(m':Int)(sl':Value) :
  cO_ k' s' m' sl' fv n w ((((W.setCell ⟨w.heap.size,0,none⟩ (.int .i64 k')).setCell ⟨w.heap.size,1,none⟩ (.string s')).setCell ⟨w.heap.size,2,none⟩ (.int .i64 m')).setCell ⟨w.heap.size,3,none⟩ sl'):=by
 have h:=a7_ W w.heap.size (.int .i64 k') (.string s') (.int .i64 m') sl';exact⟨R.hz.set4 (aC_ _) _ _ _ _,B4.set4 R.k4 _ _ _ _,(h.off _ (by omega)).trans R.hf,(h.off _ (by omega)).trans R.hn,(h.off _ (by omega)).trans R.q4,by rw[h.size];exact R.size⟩
theorem oH_ (d:Nat)(free:List ByteArray)(n m:Nat)(t x:Ty)(hk:t.kind=5)(hx:cm_ t=x)(hm:b3_ free n=m) :
  cc_ (d+1) free n t=(bb_ (bR_ (aO_ m) (b9_ t.name (aO_ m) x)) (an_ (cc_ d free) (m+1) [b9_ t.name (aO_ m) x]).1,(an_ (cc_ d free) (m+1) [b9_ t.name (aO_ m) x]).2):=by
 rw[cc_,if_pos hk,hx,hm]
theorem gi_ (m:Nat):(⟨#[120]⟩:ByteArray)++ab_ (Lib.itoa (m:Int))=aO_ m:=rfl
def rk_ (S:Nat→Prop)(y:Ty)(m:Nat)(w:World)(e:Ending)(W2:World):Prop :=
 ∃ a c,e=.returned (tv y a c)∧aa_ (fun b=>S b∨w.heap.size+4≤b∧b<W2.heap.size) W2 (.slice a y.args.length c) y.args∧Below w.heap.size w W2∧nT_ (w.heap.size+2) m W2∧B4 W2 (w.heap.size+3) (.int .i64 0) (.string ⟨#[]⟩) (.int .i64 0) (.slice none 0 0)∧w.heap.size+4≤W2.heap.size
theorem oG_ {S:Nat→Prop}{y:Ty}{m c2:Nat}{a2:OA_}{w W2 W3:World}(hS:∀ b,S b→b<w.heap.size)(hb:Below w.heap.size w W2)(hs:w.heap.size+4≤W2.heap.size)(hA:aa_ (fun b=>S b∨w.heap.size+4≤b∧b<W2.heap.size) W2 (.slice a2 y.args.length c2) y.args)
  (s3:du_ (w.heap.size+3) (W2.alloc (.cells #[.int .i64 y.kind,.string y.name,.int .i64 y.n,.slice a2 y.args.length c2] 37)) W3):g1_ S (y,m) w (.returned (.tuple #[tv y a2 c2,.int .i64 m])) W3.drew:=by
 have hsz:W3.heap.size=W2.heap.size+1:=s3.size.trans (by simp);have off:∀ b,b<W2.heap.size→b≠w.heap.size+3→W3.drew.heap[b]? = W2.heap[b]? := fun b h1 h2=>(s3.off b h2).trans (heap_alloc_old W2 _ h1);refine⟨a2,c2,rfl,(hA.keep fun b h=>?_).mono fun b h=>h.imp id fun h=>⟨by omega,by show b<W3.heap.size;omega⟩,⟨?_,?_,?_,?_,fun b hb2=>?_⟩⟩
 ·rcases h with h|h
  ·have:=hS b h;exact off b (by omega) (by omega)
  ·exact off b (by omega) (by omega)
 ·exact s3.os.trans hb.os
 ·exact s3.tape.trans hb.tape
 ·exact s3.output.trans hb.output
 ·show w.heap.size≤W3.heap.size;omega
 ·exact (off b (by omega) (by omega)).trans (hb.block b hb2)
theorem oE_ (d:Nat)(ih:fR_ d)(free:List ByteArray)(fv:Value)(m:Nat)(xm:ByteArray)(y:Ty)(S Sf:Nat→Prop)(a9:OA_)(c9:Nat)(k:Int)(s:ByteArray)(mm:Int)(sl:Value)(w w9:World)(R:cO_ k s mm sl fv m w w9)(hg:aY_ y)(h1:1≤xm.size)(h2:xm.size≤64)(hd:y.depth≤d)(hs:y.size≤50000000000)(hb:m+y.size*(free.length+1)≤4611686018427387904)
  (hF:aJ_ Sf w fv free) (hA:aa_ (fun b=>S b∨w.heap.size+4≤b∧b<w9.heap.size) w9 (.slice a9 y.args.length c9) y.args) (hS:∀ b,S b→b<w.heap.size) (hSf:∀ b,Sf b→b<w.heap.size) (hT:Tab w) :
  Calls Tryz.prog 76 #[.agg #[.int .i64 5,.string xm,.int .i64 0,.slice (some ⟨w9.heap.size,0,none⟩) 1 1],.func (.func 77) #[] #[.pointer (some ⟨w.heap.size+1,0,none⟩),.pointer (some ⟨w.heap.size+1+1,0,none⟩)]]
   (((((w9.alloc (.cells #[.int .i64 y.kind,.string y.name,.int .i64 y.n,.slice a9 y.args.length c9] 37)).setCell ⟨w.heap.size,0,none⟩ (.int .i64 5)).setCell ⟨w.heap.size,1,none⟩ (.string xm)).setCell ⟨w.heap.size,2,none⟩ (.int .i64 0)).setCell ⟨w.heap.size,3,none⟩ (.slice (some ⟨w9.heap.size,0,none⟩) 1 1))
   (rk_ S (bb_ (bR_ xm y) (an_ (cc_ d free) m [y]).1) (an_ (cc_ d free) m [y]).2 w):=by
 have hR:=(R.low (aw_ _ (.cells #[.int .i64 y.kind,.string y.name,.int .i64 y.n,.slice a9 y.args.length c9] 37))).sett 5 xm 0 (.slice (some ⟨w9.heap.size,0,none⟩) 1 1);have hs10:=a7_ (w9.alloc (.cells #[.int .i64 y.kind,.string y.name,.int .i64 y.n,.slice a9 y.args.length c9] 37)) w.heap.size (.int .i64 5) (.string xm) (.int .i64 0) (.slice (some ⟨w9.heap.size,0,none⟩) 1 1);generalize (((((w9.alloc (.cells #[.int .i64 y.kind,.string y.name,.int .i64 y.n,.slice a9 y.args.length c9] 37)).setCell ⟨w.heap.size,0,none⟩ (.int .i64 5)).setCell ⟨w.heap.size,1,none⟩ (.string xm)).setCell ⟨w.heap.size,2,none⟩ (.int .i64 0)).setCell ⟨w.heap.size,3,none⟩ (.slice (some ⟨w9.heap.size,0,none⟩) 1 1))=W10 at *;have hz10:W10.heap.size=w9.heap.size+1:=hs10.size.trans (by simp);have hR9:=R.size;have hA10:aa_ (fun b=>S b∨w.heap.size+4≤b∧b<w9.heap.size+1) W10 (.slice (some ⟨w9.heap.size,0,none⟩) 1 1) [y]:=by
  refine fp_ (g:=w9.heap.size) ((hs10.off _ (by omega)).trans (heap_alloc_new w9 _)) rfl rfl rfl (.inr ⟨by omega,by omega⟩) ((hA.keep fun b hb2=>?_).mono fun b hb2=>hb2.imp id fun h=>⟨h.1,by omega⟩);have hlt:b<w9.heap.size∧b≠w.heap.size:=by
   rcases hb2 with h|h
   ·have:=hS b h;omega
   ·omega
  exact (hs10.off b hlt.2).trans (heap_alloc_old w9 _ hlt.1)
 have hsl:af_ (bR_ xm y).args=y.size:=by simp[bR_,Ty.args,af_]
 have CW:=ks_ d ih free fv m (bR_ xm y) (fun b=>S b∨w.heap.size+4≤b∧b<w9.heap.size+1) Sf (some ⟨w9.heap.size,0,none⟩) 1 _ _ _ _ w W10 hR (ey_ h1 h2 hg) (fun u hu=>by obtain rfl:=List.mem_singleton.1 hu;exact hd) (by rw[hsl];omega) (by rw[hsl];exact hb) (hF.keep fun b hb=>hR.hz.block b (hSf b hb)) hA10 (fun b h=>by
  rcases h with h|h
  ·have:=hS b h;exact⟨by omega,by omega⟩
  ·exact⟨by omega,by omega⟩) hSf hT
 refine CW.mono fun e W2 ⟨a2,c2,he,hA2,hI2,hk2⟩=>⟨a2,c2,he,hA2.mono fun b h=>?_,?_,hI2,(hk2.block _ (by omega) (fun e=>by have:w.heap.size+3=w.heap.size+2:=e;omega)).trans hR.q4,by have:=hk2.size;omega⟩
 ·have:=hk2.size
  rcases h with (h|h)|h
  ·exact .inl h
  ·exact .inr ⟨h.1,by omega⟩
  ·exact .inr ⟨by omega,h.2⟩
 ·exact⟨hk2.os.trans hR.hz.os,hk2.tape.trans hR.hz.tape,hk2.output.trans hR.hz.output,cj_ hR.hz.size hk2.size,fun b hb2=>(hk2.block b (by omega) (fun e=>by have:b=w.heap.size+2:=e;omega)).trans (hR.hz.block b hb2)⟩
theorem qE_ (d:Nat)(ih:fR_ d)(free:List ByteArray)(fv:Value)(n:Nat)(t:Ty)(S Sf:Nat→Prop)(a:OA_)(c:Nat)(w:World)(hk:t.kind=5)(hg:aY_ t)(hd:t.depth≤d+1)(hs:t.size≤50000000000)(hb:n+t.size*(free.length+1)≤4611686018427387904)(hF:aJ_ Sf w fv free)
  (hA:aa_ S w (.slice a t.args.length c) t.args) (hS:∀ b,S b→b<w.heap.size) (hSf:∀ b,Sf b→b<w.heap.size) (hT:Tab w) :
  Calls Tryz.prog 40 #[tv t a c,fv,.int .i64 n] w (g1_ S (cc_ (d+1) free n t) w):=by
 obtain⟨x,hx,hx0⟩:=is_ hg.1 hk;obtain⟨b,off,a0,p0,rfl,hbS,hf4,hs0⟩:=rw_ hA hx;obtain⟨af,cf,rfl,hF'⟩:=id hF;have hln:t.args.length=1:=by rw[hx];rfl
 have hx1:x∈t.args:=by rw[hx];simp
 have hgx:=aR_ hg x hx1;have hdx:x.depth≤d:=by have:=av_ _ hx1;rw[t.depth_eq] at hd;omega
 have hsz:t.size=x.size+1:=by rw[t.size_eq,hx];simp[af_]
 have hsx:x.size≤49999999999:=by omega
 have hbx:n+free.length+1+x.size*(free.length+1)≤4611686018427387904:=by rw[hsz,Nat.add_mul] at hb;omega
 have hbm:n+free.length+1≤4611686018427387904:=by omega
 have hns:=((ci_ t).1 hg.2).1;have R:=pz_ 5 t.name t.n (.slice (some ⟨b,off,none⟩) 1 c) (.slice af free.length cf) n w;have e1:=cell_of_row _ _ 0 _ _ _ R.hn;have c0:=R.k4.c0;have hbl:=hS b hbS;have CI:=hid (fun (k:Nat) (hk:k≤4611686018427387904) (W:World) (h:Below w.heap.size w W)=>h3_ (k:Int) (by omega) (by omega) W (ag_ hT h));have CC:=hid (fun (k:Nat) (W:World) (h:Below w.heap.size w W)=>bP_ (hF.keep fun b hb=>h.block b (hSf b hb)) (aO_ k));have RH:=hid R;have HT:=hid hT;have HS:=hid hS;have HSF:=hid hSf;have HFF:=hid hF;have HF4:=hid hf4;have HS0:=hid hs0;have HG:=hid hgx;have HNS:=hid hns;have HX0:=hid hx0;have HK:=hid hk;have HBX:=hid hbx;have IH:=hid ih;unfold tv;rw[hln,hk];clear R hg hd hs hb hF hF' hA hS hSf hT hx hx0 hln hx1 hgx hsz hns hf4 hs0 hk hbx ih;go_enter Tryz.func40,Tryz.ntmps40;go_wp2_with fail;refine (CI.out n (by omega) _ RH.out.hz).mono ?_;rintro e W1 ⟨rfl,hb1⟩;have R1:=hid (RH.out.low hb1);have hxs:=(eq_ n (by omega)).1;have XS:=hid (gi_ n);have hil:(ab_ (Lib.itoa (n:Int))).size≤64:=by unfold aO_ at hxs;rw[ByteArray.size_append] at hxs;omega
 clear hb1 e1 c0 RH hxs;go_wp2;rw[XS.out]
 go_loopg [8] (free.length+1) (fun gk nv wr=>∃ m:Nat,n≤m∧m≤n+free.length∧gk=n+free.length+1 - m∧nv=.string (aO_ m)∧(∀ j,n≤j→j<m→dM_ free (aO_ j)=true)∧cO_ 5 t.name t.n (.slice (some ⟨b,off,none⟩) 1 c) (.slice af free.length cf) m w wr)
 case atStart=>exact⟨n,aC_ _,by omega,by omega,rfl,fun j hj hj'=>by omega,R1.out⟩
 case round =>
  clear R1 XS hil;obtain⟨m,hm1,hm2,rfl,rfl,hall,R⟩:=hrel;have e0:=cell_of_row _ _ 0 _ _ _ R.hf;have e1:=cell_of_row _ _ 0 _ _ _ R.hn;have e2:wr.frozen? ⟨w.heap.size+2,0,none⟩=false:=by have:=R.hn;unfold nT_ at this;simp[World.frozen?,this]
  have C1:=CC.out m wr R.hz;rw[bs_] at C1;have RH:=hid R;have HA:=hid hall;cases hn:dM_ free (aO_ m) with
  | true =>
   rw[hn] at C1;have hpg:m - n+1≤free.length:=mM_ aO_ (fun _ _=>dv_) (m - n+1) free n fun j hj=>by
    refine (b7_ _ _).1 ?_
    rcases Nat.lt_or_ge (n+j) m with h|h
    ·exact hall (n+j) (by omega) h
    ·rw[show n+j=m by omega];exact hn
   have HA2:=hid (show ∀ j,n≤j→j<m+1→dM_ free (aO_ j)=true from fun j h1 h2=>by
    rcases Nat.lt_or_ge j m with h|h
    ·exact hall j h1 h
    ·rw[show j=m by omega];exact hn)
   have C1H:=hid C1;have R2:Hid (cO_ 5 t.name t.n (.slice (some ⟨b,off,none⟩) 1 c) (.slice af free.length cf) (m+1) w (wr.setCell ⟨w.heap.size+1+1,0,none⟩ (.int .i64 ((m:Int)+1)))):=hid (R.setn (m+1));have CI2:Hid (Calls Tryz.prog 63 #[.int .i64 ((m:Int)+1)] (wr.setCell ⟨w.heap.size+1+1,0,none⟩ (.int .i64 ((m:Int)+1))) _):=hid (CI.out (m+1) (by omega) _ R2.out.hz);have e3:=cell_of_row _ _ 0 _ _ _ R2.out.hn;have XS:=hid (gi_ (m+1));have hxs:=(eq_ (m+1) (by omega)).1;have hil:(ab_ (Lib.itoa ((m+1:Nat):Int))).size≤64:=by unfold aO_ at hxs;rw[ByteArray.size_append] at hxs;omega
   clear hn hall R C1 hxs;generalize aO_ m=xm at *;go_wp2_with fail;refine C1H.out.mono ?_;rintro e w' ⟨rfl,rfl⟩;go_wp2_with fail;refine CI2.out.mono ?_;rintro e W4 ⟨rfl,hb4⟩;have R4:=hid (R2.out.low hb4);clear hb4;change (ab_ (Lib.itoa ((m:Int)+1))).size≤64 at hil;have XS2:Hid ((⟨#[120]⟩:ByteArray)++ab_ (Lib.itoa ((m:Int)+1))=aO_ (m+1)):=XS;clear XS;go_wp2;go_roundg (n+free.length+1 - (m+1))
   case measure=>omega
   case rel=>exact⟨m+1,by omega,by omega,rfl,by rw[← XS2.out],HA2.out,R4.out⟩
  | false =>
   rw[hn] at C1;have EN:=hid (gK_ aO_ free (free.length+1) n m hm1 (by omega) hall hn);have C1H:=hid C1;have R3:Hid (cO_ 5 t.name t.n (.slice (some ⟨b,off,none⟩) 1 c) (.slice af free.length cf) (m+1) w (wr.setCell ⟨w.heap.size+1+1,0,none⟩ (.int .i64 ((m:Int)+1)))):=hid (R.setn (m+1));have E:=hid (oH_ d free n m t x HK.out HX0.out EN.out);have HXS:=eq_ m (by omega);have KP:=hid (cY_ t.name (aO_ m) x HG.out HXS.1 (by omega));have CR:=hid (fun (W:World) (h:Below w.heap.size w W)=>jw_ t.name (aO_ m) x S a0 p0 W HG.out (by omega) HNS.out.2 HXS.1 (HS0.out.keep fun b hb=>h.block b (HS.out b hb)) (fun b hb=>ba_ (HS.out b hb) h.size) (ag_ HT.out h));have CT:=hid (fun (W9:World) (a9:OA_) (c9:Nat) (R9:cO_ 5 t.name t.n (.slice (some ⟨b,off,none⟩) 1 c) (.slice af free.length cf) (m+1) w W9) (hA9:aa_ (fun b=>S b∨w.heap.size+4≤b∧b<W9.heap.size) W9 (.slice a9 (b9_ t.name (aO_ m) x).args.length c9) (b9_ t.name (aO_ m) x).args) =>
    oE_ d IH.out free (.slice af free.length cf) (m+1) (aO_ m) (b9_ t.name (aO_ m) x) S Sf a9 c9 _ _ _ _ w W9 R9 KP.out.2.2.1 HXS.2 HXS.1 (by rw[KP.out.1];exact hdx) (by rw[KP.out.2.1];omega) (by rw[KP.out.2.1];have:=HBX.out;omega) HFF.out hA9 HS.out HSF.out HT.out)
   have RD:=hid (R3.out.low (Below.refl (wr.setCell ⟨w.heap.size+1+1,0,none⟩ (.int .i64 ((m:Int)+1))).heap.size (wr.setCell ⟨w.heap.size+1+1,0,none⟩ (.int .i64 ((m:Int)+1)))).drew);obtain⟨f0,f1,f2,f3⟩:=HF4.out.keep (RD.out.hz.block b hbl);have d1:=RD.out.k4.c1;have d3:=RD.out.k4.c3;clear hn hall R C1 HXS;generalize hxm:aO_ m=xm at *;clear hxm;go_wp2_with fail;refine C1H.out.mono ?_;rintro e w' ⟨rfl,rfl⟩;go_wp2
   go_region_with ((go_at_call 75;refine (CR.out _ RD.out.hz).mono ?_;rintro e w9 ⟨a9,c9,rfl,hA9,hb9⟩;have R9:=hid (RD.out.low hb9);have k9:=R9.out.k4;have g0:=k9.c0;have g1:=k9.c1;have g2:=k9.c2;have g3:=k9.c3;have n0:=k9.fr 0;have n1:=k9.fr 1;have n2:=k9.fr 2;have n3:=k9.fr 3;have k10:=k9.low (aw_ _ (.cells #[.int .i64 (b9_ t.name xm x).kind,.string (b9_ t.name xm x).name,.int .i64 (b9_ t.name xm x).n,.slice a9 (b9_ t.name xm x).args.length c9] 37));have h0:=k10.c0;have h1:=k10.c1;have h2:=k10.c2;have h3:=k10.c3;have m0:=k10.fr 0;have m1:=k10.fr 1;have m2:=k10.fr 2;have m3:=k10.fr 3;have HA9:=hid (hA9.mono fun b h=>h.imp id fun h=>And.intro (cj_ RD.out.size h.1) h.2);clear k9 k10 hA9 hb9;unfold tv))
   all_goals
    go_wp2_with fail;refine (CT.out _ _ _ R9.out HA9.out).mono ?_;rintro e W2 ⟨a2,c2',rfl,hA2,hb2,hI2,hq2,hs2⟩;clear g0 g1 g2 g3 n0 n1 n2 n3 h0 h1 h2 h3 m0 m1 m2 m3 d1 d3 f0 f1 f2 f3 e0 e1 e2;have HA2:=hid hA2;have HB2:=hid hb2;have HS2:=hid hs2;generalize hy:bb_ (bR_ xm (b9_ t.name xm x)) (an_ (cc_ d free) (m+1) [b9_ t.name xm x]).1=y at *;generalize hm3:(an_ (cc_ d free) (m+1) [b9_ t.name xm x]).2=m3 at *;have EY:Hid (cc_ (d+1) free n t=(y,m3)):=E;clear E hy hm3 hA2 hb2 hs2;unfold tv;have q4:=B4.low hq2 (aw_ _ (.cells #[.int .i64 y.kind,.string y.name,.int .i64 y.n,.slice a2 y.args.length c2'] 37));have p4:=B4.new W2 (.int .i64 y.kind) (.string y.name) (.int .i64 y.n) (.slice a2 y.args.length c2');have i4:=((heap_alloc_old W2 (.cells #[.int .i64 y.kind,.string y.name,.int .i64 y.n,.slice a2 y.args.length c2'] 37) (Array.getElem?_eq_some_iff.1 hI2).1).trans hI2);obtain⟨r0,r1,r2,r3⟩:=q4.c03;obtain⟨s0,s1,s2,s3⟩:=q4.f03;obtain⟨l0,l1,l2,l3⟩:=p4.c03;have j0:=cell_of_row _ _ 0 _ _ _ i4;have Q4:=hid q4;clear q4 p4 i4 hI2 hq2;go_wp2
    go_region
    go_wp2;have q5:=B4.set4 Q4.out (.int .i64 y.kind) (.string y.name) (.int .i64 y.n) (.slice a2 y.args.length c2');exact bodyPost_ret (v:=.tuple #[tv y a2 c2',.int .i64 m3]) (by simp[results,Tryz.results40,go_sem,tv,q5.c0,q5.c1,q5.c2,q5.c3]) rfl (by
     rw[EY.out];exact oG_ HS.out HB2.out HS2.out HA2.out (a7_ _ _ _ _ _ _))
theorem oF_:∀ d:Nat,fR_ d:=by
 intro d
 induction d with
 | zero=>intro free fv n t S Sf a c W hg h;rw[t.depth_eq] at h;omega
 | succ d ih =>
  intro free fv n t S Sf a c W hg hd hs hb hF hA hS hSf hT
  by_cases hk:t.kind=5
  ·exact qE_ d ih free fv n t S Sf a c W hk hg hd hs hb hF hA hS hSf hT
  ·exact oD_ d ih free fv n t S Sf a c W hk hg hd hs hb hF hA hS hSf hT
def aM_ (t:Ty):List UInt8:=al_ (dl_ t)
theorem hF_ (t:Ty)(hs:t.size≤50000000000)(hf:(ai_ t).length≤4000000):t.size*((ai_ t).length+1)≤4611686018427387904:=by
 have h2:t.size*((ai_ t).length+1)≤50000000000*(4000000+1):=Nat.mul_le_mul hs (by omega);omega
end
section
open Lx
inductive Al (p:Ty→Prop):Ty→Prop
 | mk (t:Ty) (h:p t) (ha:∀ a,a∈t.args→Al p a):Al p t
theorem nD_ {p:Ty→Prop}{t:Ty} : Al p t↔p t∧∀ a∈t.args,Al p a :=
 ⟨fun h=>by cases h with|mk _ h ha=>exact⟨h,ha⟩,fun h=>.mk t h.1 h.2⟩
theorem Al.here {p:Ty→Prop}{t:Ty}(h:Al p t):p t:=(nD_.1 h).1
theorem Al.arg {p:Ty→Prop}{t a:Ty}(h:Al p t)(ha:a∈t.args):Al p a:=(nD_.1 h).2 a ha
theorem Al.imp {p q:Ty→Prop}(hpq:∀ t,p t→q t):∀ t:Ty,Al p t→Al q t:=by
 intro t
 induction t using Ty.ind with
 | h t ih=>intro h;exact .mk t (hpq t h.here) fun a ha=>ih a ha (h.arg ha)
theorem Al.and {p q:Ty→Prop} : ∀ {t:Ty},Al p t→Al q t→Al (fun t=>p t∧q t) t:=by
 intro t
 induction t using Ty.ind with
 | h t ih=>intro h k;exact .mk t ⟨h.here,k.here⟩ fun a ha=>ih a ha (h.arg ha) (k.arg ha)
def inW (c:UInt8):Bool:=!(c==32 || c==40 || c==41 || c==46 || c==45)
def WdS (s:List UInt8):Prop:=s≠[]∧∀ c∈s,inW c=true
def NmW (s:List UInt8):Prop:=WdS s∧aV_ (s.headD 0)=false∧s.headD 0≠63∧s≠fa
def CnW (s:List UInt8):Prop:=WdS s∧aV_ (s.headD 0)=true
def SgW (s:List UInt8):Prop:=s=dT_∨s=fD_∨s=dot∨s=c5_
def ItW (i:It):Prop :=
 (i.k=1∧NmW i.s)∨(i.k=2∧CnW i.s)∨(i.k=3∧i.s=fa)∨(i.k=5∧WdS i.s∧i.s.headD 0=63)∨(i.k=6∧SgW i.s)
theorem q0_:WdS fa:=⟨by decide,by decide⟩
theorem ItW.word {i:It}(h:ItW i)(h6:i.k≠6):WdS i.s:=by
 rcases h with h|h|h|h|h
 ·exact h.2.1
 ·exact h.2.1
 ·rw[h.2];exact q0_
 ·exact h.2.1
 ·exact absurd h.1 h6
theorem ItW.sign {i:It}(h:ItW i)(h6:i.k=6):SgW i.s:=by
 rcases h with h|h|h|h|h
 ·rw[h.1] at h6;exact absurd h6 (by decide)
 ·rw[h.1] at h6;exact absurd h6 (by decide)
 ·rw[h.1] at h6;exact absurd h6 (by decide)
 ·rw[h.1] at h6;exact absurd h6 (by decide)
 ·exact h.2
theorem fC_ {s:List UInt8}(h:SgW s):s≠[]∧inW (s.headD 0)=false∧s.headD 0≠32:=by
 rcases h with rfl|rfl|rfl|rfl<;>decide
theorem jp_ {s:List UInt8}(h:WdS s):inW (s.headD 0)=true:=by
 cases s with
 | nil=>exact absurd rfl h.1
 | cons c s=>exact h.2 c (by simp)
theorem in_32 {c:UInt8}(h:inW c=true):c≠32:=by rintro rfl;exact absurd h (by decide)
theorem ItW.ne {i:It}(h:ItW i):i.s≠[]∧i.s.headD 0≠32:=by
 by_cases h6:i.k=6
 ·exact⟨(fC_ (h.sign h6)).1,(fC_ (h.sign h6)).2.2⟩
 ·exact⟨(h.word h6).1,in_32 (jp_ (h.word h6))⟩
theorem ItW.kind {i j:It}(h:ItW i)(k:ItW j)(e:i.s=j.s):i.k=j.k:=by
 have hsw:∀ {s:List UInt8},WdS s→SgW s→False:=fun hw hs=>by
  have h1:=jp_ hw;rw[(fC_ hs).2.1] at h1;cases h1
 have hfu:aV_ (fa.headD 0)=false:=by decide
 have hf6:fa.headD 0≠63:=by decide
 have h63:aV_ 63=false:=by decide
 rcases h with ⟨h0,h⟩|⟨h0,h⟩|⟨h0,h⟩|⟨h0,h⟩|⟨h0,h⟩<;>rcases k with ⟨k0,k⟩|⟨k0,k⟩|⟨k0,k⟩|⟨k0,k⟩|⟨k0,k⟩
 ·rw[h0,k0]
 ·exfalso;have:=h.2.1;rw[e,k.2] at this;cases this
 ·exfalso;exact h.2.2.2 (e.trans k)
 ·exfalso;rw[e] at h;exact h.2.2.1 k.2
 ·exfalso;rw[e] at h;exact hsw h.1 k
 ·exfalso;have:=h.2;rw[e,k.2.1] at this;cases this
 ·rw[h0,k0]
 ·exfalso;rw[e,k,CnW,hfu] at h;exact absurd h.2 (by decide)
 ·exfalso;rw[e,CnW,k.2,h63] at h;exact absurd h.2 (by decide)
 ·exfalso;rw[e] at h;exact hsw h.1 k
 ·exfalso;exact k.2.2.2 (e.symm.trans h)
 ·exfalso;rw[← e,h,CnW,hfu] at k;exact absurd k.2 (by decide)
 ·rw[h0,k0]
 ·exfalso;rw[← e,h] at k;exact hf6 k.2
 ·exfalso;rw[← e,h] at k;exact hsw q0_ k
 ·exfalso;rw[e] at h;exact k.2.2.1 h.2
 ·exfalso;rw[← e] at k;rw[CnW,h.2,h63] at k;exact absurd k.2 (by decide)
 ·exfalso;rw[e,k] at h;exact hf6 h.2
 ·rw[h0,k0]
 ·exfalso;rw[e] at h;exact hsw h.1 k
 ·exfalso;rw[e] at h;exact hsw k.1 h
 ·exfalso;rw[e] at h;exact hsw k.1 h
 ·exfalso;rw[e,k] at h;exact hsw q0_ h
 ·exfalso;rw[e] at h;exact hsw k.1 h
 ·rw[h0,k0]
theorem pq_ (s:List UInt8)(T:List UInt8)(h:∀ c∈s,inW c=true)(hT:∀ c T',T=c :: T'→inW c=false):(s++T).takeWhile inW=s:=by
 induction s with
 | nil =>
  cases T with
  | nil=>rfl
  | cons c T'=>rw[List.nil_append,List.takeWhile_cons,hT c T' rfl];rfl
 | cons c s ih=>rw[List.cons_append,List.takeWhile_cons,h c (by simp),ih fun d hd=>h d (by simp[hd])];rfl
theorem h5_ {s T:List UInt8}{c:UInt8}{T':List UInt8}(hs:s≠[])(e:s++T=c :: T'):s.headD 0=c:=by
 cases s with
 | nil=>exact absurd rfl hs
 | cons d s=>injection e
theorem iM_ {l:List It}(hl:∀ i∈l,ItW i)(ho:b2_ false l):∀ c T',cf_ l=c :: T'→inW c=false:=by
 intro c T' e;cases l with
 | nil=>cases e
 | cons i l =>
  rw[aZ_] at e;cases hb:i.bl with
  | true =>
   rw[hb] at e;injection e with e1 _
   rw[← e1];decide
  | false =>
   have h6:i.k=6:=by
    rcases ho.1 with h|h|h
    ·rw[hb] at h;cases h
    ·exact h
    ·cases h
   rw[hb,if_neg (by decide),List.nil_append] at e;have hi:=hl i (by simp);rw[← h5_ hi.ne.1 e];exact (fC_ (hi.sign h6)).2.1
theorem lu_:∀ (l l':List It) (ps ps':Bool),(∀ i∈l,ItW i)→(∀ i∈l',ItW i)→b2_ ps l→b2_ ps' l'→cf_ l=cf_ l'→l.map ktI=l'.map ktI:=by
 intro l
 induction l with
 | nil =>
  intro l' ps ps' _ h' _ _ e;cases l' with
  | nil=>rfl
  | cons j l' =>
   exfalso
   rw[aZ_] at e;have:=congrArg List.length e;have hj:=List.length_pos_iff.2 (h' j (by simp)).ne.1;rw[List.length_append,List.length_append,show cf_ []=[] from rfl,List.length_nil] at this;omega
 | cons i l ih =>
  intro l' ps ps' h h' ho ho' e;cases l' with
  | nil =>
   exfalso
   rw[aZ_] at e;have:=congrArg List.length e;have hj:=List.length_pos_iff.2 (h i (by simp)).ne.1;rw[List.length_append,List.length_append,show cf_ []=[] from rfl,List.length_nil] at this;omega
  | cons j l' =>
   have hi:=h i (by simp);have hj:=h' j (by simp);rw[aZ_,aZ_] at e;have eb:i.s++cf_ l=j.s++cf_ l':=by
    cases hb:i.bl<;>cases hb':j.bl<;>rw[hb,hb'] at e
    ·simpa using e
    ·exfalso
     exact hi.ne.2 (h5_ (T:=cf_ l) (T':=j.s++cf_ l') hi.ne.1 (by simpa using e))
    ·exfalso
     exact hj.ne.2 (h5_ (T:=cf_ l') (T':=i.s++cf_ l) hj.ne.1 (by simpa using e.symm))
    ·simpa using e
   have hT:i.k≠6→∀ c T',cf_ l=c :: T'→inW c=false:=fun h6=>iM_ (fun a ha=>h a (by simp[ha])) (by have:=ho.2;rwa [beq_eq_false_iff_ne.2 h6] at this);have hT':j.k≠6→∀ c T',cf_ l'=c :: T'→inW c=false:=fun h6=>iM_ (fun a ha=>h' a (by simp[ha])) (by have:=ho'.2;rwa [beq_eq_false_iff_ne.2 h6] at this);have es:i.s=j.s:=by
    have hc:∀ {s t T U:List UInt8},SgW s→s++T=t++U→SgW t→s=t:=by
     intro s t T U hs he ht
     rcases hs with rfl|rfl|rfl|rfl<;>rcases ht with rfl|rfl|rfl|rfl<;>first|rfl|(exfalso;injection he with he _;exact absurd he (by decide))
    have hx:∀ {s t T U:List UInt8},SgW s→s++T=t++U→WdS t→False:=by
     intro s t T U hs he ht;have h1:=jp_ ht;have h2:=(fC_ hs).2.1;obtain⟨c,s',rfl⟩:=List.exists_cons_of_ne_nil (fC_ hs).1;obtain⟨d,t',rfl⟩:=List.exists_cons_of_ne_nil ht.1;injection he with he _
     simp only[List.headD_cons] at h1 h2;rw[he,h1] at h2;cases h2
    by_cases h6:i.k=6<;>by_cases k6:j.k=6
    ·exact hc (hi.sign h6) eb (hj.sign k6)
    ·exact (hx (hi.sign h6) eb (hj.word k6)).elim
    ·exact (hx (hj.sign k6) eb.symm (hi.word h6)).elim
    ·rw[← pq_ i.s (cf_ l) (hi.word h6).2 (hT h6),eb,pq_ j.s (cf_ l') (hj.word k6).2 (hT' k6)]
   rw[es] at eb;have et:=List.append_cancel_left eb;have:=ih l' _ _ (fun a ha=>h a (by simp[ha])) (fun a ha=>h' a (by simp[ha])) ho.2 ho'.2 et;rw[List.map_cons,List.map_cons,this];show (i.k,i.s) :: _=(j.k,j.s) :: _;rw[hi.kind hj es,es]
def rm_ (t:Ty):Prop:=Al (fun t=>((t.kind=1∨t.kind=5)→NmW t.name.data.toList)∧(t.kind=3→CnW t.name.data.toList)) t
theorem gM_ {c:UInt8}(h:au_ c=true):inW c=true:=by
 unfold au_ at h;have h:=of_decide_eq_true h;unfold inW;have ne:∀ d:UInt8,d.toNat<48→(c==d)=false:=fun d hd=>by
  rw[beq_eq_false_iff_ne];rintro rfl;omega
 rw[ne 32 (by decide),ne 40 (by decide),ne 41 (by decide),ne 46 (by decide),ne 45 (by decide)];rfl
theorem qL_ (n:Int)(h:0≤n):WdS (63 :: Lib.itoa n):=by
 obtain⟨u,rfl⟩:∃ u:Nat,n=(u:Int):=⟨n.toNat,by omega⟩;rw[Lib.itoa_nonneg];refine⟨by simp,fun c hc=>?_⟩
 rcases List.mem_cons.1 hc with rfl|hc
 ·decide
 ·exact gM_ ((dI_ u).1 c hc)
theorem pG_:∀ (d:Nat) (t:Ty) (b:Bool),t.depth≤d→Std t→rm_ t→∀ i∈itF d b t,ItW i:=by
 intro d;have hsig:∀ b:Bool,ItW ⟨b,6,dT_⟩∧ItW ⟨b,6,fD_⟩∧ItW ⟨b,6,dot⟩∧ItW ⟨b,6,c5_⟩:=fun b =>
  ⟨.inr (.inr (.inr (.inr ⟨rfl,.inl rfl⟩))),.inr (.inr (.inr (.inr ⟨rfl,.inr (.inl rfl)⟩))),.inr (.inr (.inr (.inr ⟨rfl,.inr (.inr (.inl rfl))⟩))),.inr (.inr (.inr (.inr ⟨rfl,.inr (.inr (.inr rfl))⟩)))⟩
 induction d with
 | zero=>intro t b h;rw[t.depth_eq] at h;omega
 | succ d ih =>
  intro t b h hs hx i hi;have hd:∀ a∈t.args,a.depth≤d:=fun a ha=>by have:=av_ _ ha;rw[t.depth_eq] at h;omega
  have hlx:=hx.here;have hpar:∀ a∈t.args,∀ b':Bool,∀ i,i∈(⟨b',6,dT_⟩:It) :: (itF d false a++[⟨false,6,fD_⟩])→ItW i:=fun a ha b' i hi=>by
   rcases List.mem_cons.1 hi with rfl|hi
   ·exact (hsig b').1
   ·rcases List.mem_append.1 hi with hi|hi
    ·exact ih a false (hd a ha) (hs.args a ha) (hx.arg ha) i hi
    ·rw[List.mem_singleton.1 hi];exact (hsig false).2.1
  rcases ((aX_ t).1 hs).1 with hk|hk|hk|hk|hk
  ·rw[ef_ _ _ _ hk.1,List.mem_singleton] at hi
   subst hi;exact .inl ⟨rfl,hlx.1 (.inl hk.1)⟩
  ·rw[di_ _ _ _ hk.1,List.mem_singleton] at hi
   subst hi;exact .inr (.inr (.inr (.inl ⟨rfl,qL_ _ hk.2.2.2.1,rfl⟩)))
  ·rw[dW_ _ _ _ hk.1] at hi
   rcases List.mem_cons.1 hi with rfl|hi
   ·exact .inr (.inl ⟨rfl,hlx.2 hk.1⟩)
   ·obtain⟨a,ha,hi⟩:=List.mem_flatMap.1 hi
    split at hi
    ·exact ih a true (hd a ha) (hs.args a ha) (hx.arg ha) i hi
    ·exact hpar a ha true i hi
  ·obtain⟨x,y,hxy⟩:∃ x y,t.args=[x,y]:=by
    match hl:t.args,hk.2.2.2 with
    | [x,y],_=>exact⟨x,y,rfl⟩
   have hxm:x∈t.args:=by rw[hxy];simp
   have hym:y∈t.args:=by rw[hxy];simp
   rw[gA_ _ _ _ x y hk.1 hxy] at hi
   rcases List.mem_append.1 hi with hi|hi
   ·split at hi
    ·exact ih x b (hd x hxm) (hs.args x hxm) (hx.arg hxm) i hi
    ·exact hpar x hxm b i hi
   ·rcases List.mem_cons.1 hi with rfl|hi
    ·exact (hsig true).2.2.2
    ·exact ih y true (hd y hym) (hs.args y hym) (hx.arg hym) i hi
  ·obtain⟨x,hxx⟩:∃ x,t.args=[x]:=by
    match hl:t.args,hk.2.2 with
    | [x],_=>exact⟨x,rfl⟩
   have hxm:x∈t.args:=by rw[hxx];simp
   rw[fM_ _ _ _ x hk.1 hxx] at hi
   rcases List.mem_cons.1 hi with rfl|hi
   ·exact .inr (.inr (.inl ⟨rfl,rfl⟩))
   ·rcases List.mem_cons.1 hi with rfl|hi
    ·exact .inl ⟨rfl,hlx.1 (.inr hk.1)⟩
    ·split at hi
     ·exact ih x true (hd x hxm) (hs.args x hxm) (hx.arg hxm) i (List.mem_of_mem_tail hi)
     ·rcases List.mem_cons.1 hi with rfl|hi
      ·exact (hsig false).2.2.1
      ·exact ih x true (hd x hxm) (hs.args x hxm) (hx.arg hxm) i hi
theorem lh_ {t u:Ty}(h:Std t)(hw:rm_ t)(k:Std u)(kw:rm_ u)(e:al_ t=al_ u):t=u:=by
 have htx:∀ t:Ty,Std t→cf_ (itF t.depth false t)=al_ t:=fun t h=>p3_ t.depth t false (aC_ _) h;have hok:∀ t:Ty,Std t→b2_ true (itF t.depth false t):=fun t h=>by
  have:=(ok_it t.depth t false true [] (aC_ _) h (.inr rfl) trivial).1;rwa [List.append_nil] at this
 have hkt:=lu_ _ _ true true (pG_ t.depth t false (aC_ _) h hw) (pG_ u.depth u false (aC_ _) k kw) (hok t h) (hok u k) (by rw[htx t h,htx u k,e]);have hl:((itF t.depth false t).map fun i=>(⟨i.k,i.s,0⟩:Tok)).map kt=kI (itF t.depth false t)++[]:=by
  rw[List.append_nil,List.map_map];rfl
 have hl':((itF t.depth false t).map fun i=>(⟨i.k,i.s,0⟩:Tok)).map kt=kI (itF u.depth false u)++[]:=by
  rw[hl,List.append_nil,List.append_nil];exact hkt
 have hz:(itF u.depth false u).length=(itF t.depth false t).length:=by
  have:=congrArg List.length hkt;simpa using this.symm
 obtain⟨r,hr,_⟩:=(back t.depth t (aC_ _) h).1 false _ [] (4*(itF t.depth false t).length+4) hl (fun x q' e=>by cases e) (fun x q' e=>by cases e) (aC_ _);obtain⟨q,hq,_⟩:=(back u.depth u (aC_ _) k).1 false _ [] (4*(itF t.depth false t).length+4) hl' (fun x q' e=>by cases e) (fun x q' e=>by cases e) (by rw[hz];exact aC_ _);rw[hr] at hq;simpa using congrArg (fun o=>o.map Prod.fst) hq
def rp_ (t:Ty):Prop:=Al (fun t=>(t.kind=1→NmW t.name.data.toList)∧(t.kind=3→CnW t.name.data.toList)) t
theorem lP_ (n:Nat):NmW (aO_ n).data.toList:=by
 rw[kS_];refine⟨⟨by simp,fun c hc=>?_⟩,show aV_ 120=false by decide,show (120:UInt8)≠63 by decide,fun e=>?_⟩
 ·rcases List.mem_cons.1 hc with rfl|hc
  ·decide
  ·exact gM_ ((dI_ n).1 c hc)
 ·injection e with e _;exact absurd e (by decide)
theorem cn_w (f:Nat→ByteArray)(free:List ByteArray)(hf:∀ j,NmW (f j).data.toList):∀ (t:Ty) (env env':List ByteArray) (k:Nat),env'.length=env.length→Std t→rp_ (dbT env t)→(∀ x∈env',NmW x.data.toList)→Std (cnT f free env' k (dbT env t)).1∧rm_ (cnT f free env' k (dbT env t)).1:=by
 intro t
 induction t using Ty.ind with
 | h t ih =>
  have hl:∀ (l:List Ty) (env env':List ByteArray) (k:Nat),(∀ a∈l,∀ (env env':List ByteArray) (k:Nat),env'.length=env.length→Std a→rp_ (dbT env a)→(∀ x∈env',NmW x.data.toList)→Std (cnT f free env' k (dbT env a)).1∧rm_ (cnT f free env' k (dbT env a)).1) →
    env'.length=env.length→(∀ a∈l,Std a∧rp_ (dbT env a))→(∀ x∈env',NmW x.data.toList)→(cnL f free env' k (l.map (dbT env))).1.length=l.length∧∀ a∈(cnL f free env' k (l.map (dbT env))).1,Std a∧rm_ a:=by
   intro l
   induction l with
   | nil=>intro env env' k _ _ _ _;simp[cnL]
   | cons a l ihl =>
    intro env env' k hi h1 h2 h3;rw[List.map_cons,cnL];simp only;obtain⟨e1,e2⟩:=ihl env env' (cnT f free env' k (dbT env a)).2 (fun b hb=>hi b (by simp[hb])) h1 (fun b hb=>h2 b (by simp[hb])) h3;refine⟨by simp[e1],fun b hb=>?_⟩
    rcases List.mem_cons.1 hb with rfl|hb
    ·exact hi a (by simp) env env' k h1 (h2 a (by simp)).1 (h2 a (by simp)).2 h3
    ·exact e2 b hb
  intro env env' k h1 hs hx h2
  by_cases h5:t.kind=5
  ·rw[aK_ _ _ h5] at hx ⊢
   rw[q5_];simp only;have hN:=hf (nx f free k);obtain⟨e1,e2⟩:=hl t.args (t.name :: env) (f (nx f free k) :: env') (nx f free k+1) ih (by simp[h1]) (fun a ha=>⟨hs.args a ha,hx.arg (List.mem_map.2 ⟨a,ha,rfl⟩)⟩) (fun x hx=>by
    rcases List.mem_cons.1 hx with rfl|hx
    ·exact hN
    ·exact h2 x hx)
   generalize (cnL f free (f (nx f free k) :: env') (nx f free k+1) (t.args.map (dbT (t.name :: env)))).1=l at *;have hl1:l.length=1:=by rw[e1];exact (hs.k5 h5).2
   refine⟨(aX_ _).2 ⟨.inr (.inr (.inr (.inr ⟨rfl,rfl,hl1⟩))),fun a ha=>(e2 a ha).1⟩,.mk _ ⟨fun _=>hN,fun e=>absurd (show (5:Int)=3 from e) (by decide)⟩ fun a ha=>(e2 a ha).2⟩
  ·by_cases h1':t.kind=1
   ·obtain⟨hn0,ha⟩:=hs.k1 h1'
    have hv:∀ x:ByteArray,NmW x.data.toList→Std (.mk 1 x 0 [])∧rm_ (.mk 1 x 0 []):=fun x hx=>⟨hK_ x,.mk _ ⟨fun _=>hx,fun e=>absurd (show (1:Int)=3 from e) (by decide)⟩ fun a ha=>by cases ha⟩;rw[a1_ _ _ h1',hn0] at hx ⊢;rw[ie_];cases hi:ixN env t.name with
    | none =>
     unfold dC_ at hx;rw[hi] at hx;exact hv _ (hx.here.1 rfl)
    | some i =>
     have hg:=gz_ _ _ _ hi;have hlt:i<env'.length:=by rw[h1];exact (List.getElem?_eq_some_iff.1 hg).1
     refine hv _ (h2 _ ?_);rw[List.getD_eq_getElem?_getD,List.getElem?_eq_getElem hlt];exact List.getElem_mem hlt
   ·have hk:=hs.kind
    rw[az_ _ _ h1' h5] at hx ⊢;rw[fm_ _ _ _ _ _ _ _ _ (by omega) h5];simp only;obtain⟨e1,e2⟩:=hl t.args env env' k ih h1 (fun a ha=>⟨hs.args a ha,hx.arg (List.mem_map.2 ⟨a,ha,rfl⟩)⟩) h2;have hw:=ga_ hs (cnL f free env' k (t.args.map (dbT env))).1 e1 fun a ha=>(e2 a ha).1;exact⟨hw,.mk _ ⟨fun e=>by rcases e with e|e;exact absurd e h1';exact absurd e h5,fun e=>hx.here.2 e⟩ fun a ha=>(e2 a ha).2⟩
theorem dK_ {t u:Ty}(ht:Std t)(hu:Std u)(kt:rp_ (dbT [] t))(ku:rp_ (dbT [] u)):aM_ t=aM_ u↔dbT [] t=dbT [] u:=by
 constructor
 ·intro e
  have h1:=cn_w aO_ (ai_ t) lP_ t [] [] 0 rfl ht kt fun x hx=>by cases hx
  have h2:=cn_w aO_ (ai_ u) lP_ u [] [] 0 rfl hu ku fun x hx=>by cases hx
  rw[← el_ t ht] at h1;rw[← el_ u hu] at h2;have:=lh_ h1.1 h1.2 h2.1 h2.2 e;rw[← kK_ t ht,← kK_ u hu,this]
 ·intro e
  unfold aM_;rw[jR_ ht hu e]
end
end Go.Proofs.YtjecnionbjlncaaGreatDoor.Tp

/- Packed. -/
import Derived.Test.YtkihnodkhnahiaaGreatDoorP16
set_option maxRecDepth 100000
set_option maxHeartbeats 6400000
namespace Go.Proofs.YtkihnodkhnahiaaGreatDoor.Tp
open Go.RowKit
theorem dp_.low {k:Int}{s:ByteArray}{m:Int}{sl fv:Value}{n:Nat}{w W W':World}(R:dp_ k s m sl fv n w W)(h:Below W.heap.size W W'):dp_ k s m sl fv n w W':=by
 have:=R.size;exact⟨R.hz.trans (h.mono R.hz.size),R.k4.low h,(h.block _ (by omega)).trans R.hf,(h.block _ (by omega)).trans R.hn,R.q4.low h,bm_ R.size h.size⟩
theorem dp_.setn {k:Int}{s:ByteArray}{m:Int}{sl fv:Value}{n:Nat}{w W:World}(R:dp_ k s m sl fv n w W)(n':Nat):dp_ k s m sl fv n' w (W.setCell ⟨w.heap.size+2,0,none⟩ (.int .i64 (n':Int))):=by
 have h:=ed_ W (w.heap.size+2) 0 (.int .i64 (n':Int));exact⟨R.hz.setCell (p:=⟨w.heap.size+2,0,none⟩) (by simp) _,(h.off _ (by omega)).trans R.k4,(h.off _ (by omega)).trans R.hf,ak_ R.hn _,(h.off _ (by omega)).trans R.q4,by rw[h.size];exact R.size⟩
theorem dp_.sett {k:Int}{s:ByteArray}{m:Int}{sl fv:Value}{n:Nat}{w W:World}(R:dp_ k s m sl fv n w W)(k':Int)(s':ByteArray)(m':Int)(sl':Value) :
  dp_ k' s' m' sl' fv n w ((((W.setCell ⟨w.heap.size,0,none⟩ (.int .i64 k')).setCell ⟨w.heap.size,1,none⟩ (.string s')).setCell ⟨w.heap.size,2,none⟩ (.int .i64 m')).setCell ⟨w.heap.size,3,none⟩ sl'):=by
 have h:=bJ_ W w.heap.size (.int .i64 k') (.string s') (.int .i64 m') sl';exact⟨R.hz.set4 (aw_ _) _ _ _ _,B4.set4 R.k4 _ _ _ _,(h.off _ (by omega)).trans R.hf,(h.off _ (by omega)).trans R.hn,(h.off _ (by omega)).trans R.q4,by rw[h.size];exact R.size⟩
theorem pA_ (d:Nat)(free:List ByteArray)(n m:Nat)(t x:Ty)(hk:t.kind=5)(hx:ew_ t=x)(hm:ct_ free n=m) :
  cC_ (d+1) free n t=(cn_ (cU_ (aZ_ m) (dA_ t.name (aZ_ m) x)) (au_ (cC_ d free) (m+1) [dA_ t.name (aZ_ m) x]).1,(au_ (cC_ d free) (m+1) [dA_ t.name (aZ_ m) x]).2):=by
 rw[cC_,if_pos hk,hx,hm]
theorem gC_ (m:Nat):(⟨#[120]⟩:ByteArray)++aa_ (Lib.itoa (m:Int))=aZ_ m:=rfl
def rP_ (S:Nat→Prop)(y:Ty)(m:Nat)(w:World)(e:Ending)(W2:World):Prop :=
 ∃ a c,e=.returned (tv y a c)∧ac_ (fun b=>S b∨w.heap.size+4≤b∧b<W2.heap.size) W2 (.slice a y.args.length c) y.args∧Below w.heap.size w W2∧oG_ (w.heap.size+2) m W2∧B4 W2 (w.heap.size+3) (.int .i64 0) (.string ⟨#[]⟩) (.int .i64 0) (.slice none 0 0)∧w.heap.size+4≤W2.heap.size
theorem pz_ {S:Nat→Prop}{y:Ty}{m c2:Nat}{a2:OA_}{w W2 W3:World}(hS:∀ b,S b→b<w.heap.size)(hb:Below w.heap.size w W2)(hs:w.heap.size+4≤W2.heap.size)(hA:ac_ (fun b=>S b∨w.heap.size+4≤b∧b<W2.heap.size) W2 (.slice a2 y.args.length c2) y.args)
  (s3:d8_ (w.heap.size+3) (W2.alloc (.cells #[.int .i64 y.kind,.string y.name,.int .i64 y.n,.slice a2 y.args.length c2] 30)) W3):ho_ S (y,m) w (.returned (.tuple #[tv y a2 c2,.int .i64 m])) W3.drew:=by
 have hsz:W3.heap.size=W2.heap.size+1:=s3.size.trans (by simp);have off:∀ b,b<W2.heap.size→b≠w.heap.size+3→W3.drew.heap[b]? = W2.heap[b]? := fun b h1 h2=>(s3.off b h2).trans (heap_alloc_old W2 _ h1);refine⟨a2,c2,rfl,(hA.keep fun b h=>?_).mono fun b h=>h.imp id fun h=>⟨by omega,by show b<W3.heap.size;omega⟩,⟨?_,?_,?_,?_,fun b hb2=>?_⟩⟩
 ·rcases h with h|h
  ·have:=hS b h;exact off b (by omega) (by omega)
  ·exact off b (by omega) (by omega)
 ·exact s3.os.trans hb.os
 ·exact s3.tape.trans hb.tape
 ·exact s3.output.trans hb.output
 ·show w.heap.size≤W3.heap.size;omega
 ·exact (off b (by omega) (by omega)).trans (hb.block b hb2)
theorem px_ (d:Nat)(ih:gb_ d)(free:List ByteArray)(fv:Value)(m:Nat)(xm:ByteArray)(y:Ty)(S Sf:Nat→Prop)(a9:OA_)(c9:Nat)(k:Int)(s:ByteArray)(mm:Int)(sl:Value)(w w9:World)(R:dp_ k s mm sl fv m w w9)(hg:cV_ y)(h1:1≤xm.size)(h2:xm.size≤64)(hd:y.depth≤d)(hs:y.size≤50000000000)(hb:m+y.size*(free.length+1)≤4611686018427387904)
  (hF:bd_ Sf w fv free) (hA:ac_ (fun b=>S b∨w.heap.size+4≤b∧b<w9.heap.size) w9 (.slice a9 y.args.length c9) y.args) (hS:∀ b,S b→b<w.heap.size) (hSf:∀ b,Sf b→b<w.heap.size) (hT:Tab w) :
  Calls Tryz.prog 39 #[.agg #[.int .i64 5,.string xm,.int .i64 0,.slice (some ⟨w9.heap.size,0,none⟩) 1 1],.func (.func 92) #[] #[.pointer (some ⟨w.heap.size+1,0,none⟩),.pointer (some ⟨w.heap.size+1+1,0,none⟩)]]
   (((((w9.alloc (.cells #[.int .i64 y.kind,.string y.name,.int .i64 y.n,.slice a9 y.args.length c9] 30)).setCell ⟨w.heap.size,0,none⟩ (.int .i64 5)).setCell ⟨w.heap.size,1,none⟩ (.string xm)).setCell ⟨w.heap.size,2,none⟩ (.int .i64 0)).setCell ⟨w.heap.size,3,none⟩ (.slice (some ⟨w9.heap.size,0,none⟩) 1 1))
   (rP_ S (cn_ (cU_ xm y) (au_ (cC_ d free) m [y]).1) (au_ (cC_ d free) m [y]).2 w):=by
 have hR:=(R.low (ao_ _ (.cells #[.int .i64 y.kind,.string y.name,.int .i64 y.n,.slice a9 y.args.length c9] 30))).sett 5 xm 0 (.slice (some ⟨w9.heap.size,0,none⟩) 1 1);have hs10:=bJ_ (w9.alloc (.cells #[.int .i64 y.kind,.string y.name,.int .i64 y.n,.slice a9 y.args.length c9] 30)) w.heap.size (.int .i64 5) (.string xm) (.int .i64 0) (.slice (some ⟨w9.heap.size,0,none⟩) 1 1);generalize (((((w9.alloc (.cells #[.int .i64 y.kind,.string y.name,.int .i64 y.n,.slice a9 y.args.length c9] 30)).setCell ⟨w.heap.size,0,none⟩ (.int .i64 5)).setCell ⟨w.heap.size,1,none⟩ (.string xm)).setCell ⟨w.heap.size,2,none⟩ (.int .i64 0)).setCell ⟨w.heap.size,3,none⟩ (.slice (some ⟨w9.heap.size,0,none⟩) 1 1))=W10 at *;have hz10:W10.heap.size=w9.heap.size+1:=hs10.size.trans (by simp);have hR9:=R.size;have hA10:ac_ (fun b=>S b∨w.heap.size+4≤b∧b<w9.heap.size+1) W10 (.slice (some ⟨w9.heap.size,0,none⟩) 1 1) [y]:=by
  refine gA_ (g:=w9.heap.size) ((hs10.off _ (by omega)).trans (heap_alloc_new w9 _)) rfl rfl rfl (.inr ⟨by omega,by omega⟩) ((hA.keep fun b hb2=>?_).mono fun b hb2=>hb2.imp id fun h=>⟨h.1,by omega⟩);have hlt:b<w9.heap.size∧b≠w.heap.size:=by
   rcases hb2 with h|h
   ·have:=hS b h;omega
   ·omega
  exact (hs10.off b hlt.2).trans (heap_alloc_old w9 _ hlt.1)
 have hsl:ax_ (cU_ xm y).args=y.size:=by simp[cU_,Ty.args,ax_]
 have CW:=k3_ d ih free fv m (cU_ xm y) (fun b=>S b∨w.heap.size+4≤b∧b<w9.heap.size+1) Sf (some ⟨w9.heap.size,0,none⟩) 1 _ _ _ _ w W10 hR (gw_ h1 h2 hg) (fun u hu=>by obtain rfl:=List.mem_singleton.1 hu;exact hd) (by rw[hsl];omega) (by rw[hsl];exact hb) (hF.keep fun b hb=>hR.hz.block b (hSf b hb)) hA10 (fun b h=>by
  rcases h with h|h
  ·have:=hS b h;exact⟨by omega,by omega⟩
  ·exact⟨by omega,by omega⟩) hSf hT
 refine CW.mono fun e W2 ⟨a2,c2,he,hA2,hI2,hk2⟩=>⟨a2,c2,he,hA2.mono fun b h=>?_,?_,hI2,(hk2.block _ (by omega) (fun e=>by have:w.heap.size+3=w.heap.size+2:=e;omega)).trans hR.q4,by have:=hk2.size;omega⟩
 ·have:=hk2.size
  rcases h with (h|h)|h
  ·exact .inl h
  ·exact .inr ⟨h.1,by omega⟩
  ·exact .inr ⟨by omega,h.2⟩
 ·exact⟨hk2.os.trans hR.hz.os,hk2.tape.trans hR.hz.tape,hk2.output.trans hR.hz.output,bm_ hR.hz.size hk2.size,fun b hb2=>(hk2.block b (by omega) (fun e=>by have:b=w.heap.size+2:=e;omega)).trans (hR.hz.block b hb2)⟩
theorem re_ (d:Nat)(ih:gb_ d)(free:List ByteArray)(fv:Value)(n:Nat)(t:Ty)(S Sf:Nat→Prop)(a:OA_)(c:Nat)(w:World)(hk:t.kind=5)(hg:cV_ t)(hd:t.depth≤d+1)(hs:t.size≤50000000000)(hb:n+t.size*(free.length+1)≤4611686018427387904)(hF:bd_ Sf w fv free)
  (hA:ac_ S w (.slice a t.args.length c) t.args) (hS:∀ b,S b→b<w.heap.size) (hSf:∀ b,Sf b→b<w.heap.size) (hT:Tab w) :
  Calls Tryz.prog 62 #[tv t a c,fv,.int .i64 n] w (ho_ S (cC_ (d+1) free n t) w):=by
 obtain⟨x,hx,hx0⟩:=lw_ hg.1 hk;obtain⟨b,off,a0,p0,rfl,hbS,hf4,hs0⟩:=rF_ hA hx;obtain⟨af,cf,rfl,hF'⟩:=id hF;have hln:t.args.length=1:=by rw[hx];rfl
 have hx1:x∈t.args:=by rw[hx];simp
 have hgx:=cu_ hg x hx1;have hdx:x.depth≤d:=by have:=aT_ _ hx1;rw[t.depth_eq] at hd;omega
 have hsz:t.size=x.size+1:=by rw[t.size_eq,hx];simp[ax_]
 have hsx:x.size≤49999999999:=by omega
 have hbx:n+free.length+1+x.size*(free.length+1)≤4611686018427387904:=by rw[hsz,Nat.add_mul] at hb;omega
 have hbm:n+free.length+1≤4611686018427387904:=by omega
 have hns:=((dm_ t).1 hg.2).1;have R:=qz_ 5 t.name t.n (.slice (some ⟨b,off,none⟩) 1 c) (.slice af free.length cf) n w;have e1:=cell_of_row _ _ 0 _ _ _ R.hn;have c0:=R.k4.c0;have hbl:=hS b hbS;have CI:=hid (fun (k:Nat) (hk:k≤4611686018427387904) (W:World) (h:Below w.heap.size w W)=>lb_ (k:Int) (by omega) (by omega) W (ag_ hT h));have CC:=hid (fun (k:Nat) (W:World) (h:Below w.heap.size w W)=>da_ (hF.keep fun b hb=>h.block b (hSf b hb)) (aZ_ k));have RH:=hid R;have HT:=hid hT;have HS:=hid hS;have HSF:=hid hSf;have HFF:=hid hF;have HF4:=hid hf4;have HS0:=hid hs0;have HG:=hid hgx;have HNS:=hid hns;have HX0:=hid hx0;have HK:=hid hk;have HBX:=hid hbx;have IH:=hid ih;unfold tv;rw[hln,hk];clear R hg hd hs hb hF hF' hA hS hSf hT hx hx0 hln hx1 hgx hsz hns hf4 hs0 hk hbx ih;go_enter Tryz.func62,Tryz.ntmps62;go_wp2_with fail;refine (CI.out n (by omega) _ RH.out.hz).mono ?_;rintro e W1 ⟨rfl,hb1⟩;have R1:=hid (RH.out.low hb1);have hxs:=(eQ_ n (by omega)).1;have XS:=hid (gC_ n);have hil:(aa_ (Lib.itoa (n:Int))).size≤64:=by unfold aZ_ at hxs;rw[ByteArray.size_append] at hxs;omega
 clear hb1 e1 c0 RH hxs;go_wp2;rw[XS.out]
 go_loopg [8] (free.length+1) (fun gk nv wr=>∃ m:Nat,n≤m∧m≤n+free.length∧gk=n+free.length+1 - m∧nv=.string (aZ_ m)∧(∀ j,n≤j→j<m→fb_ free (aZ_ j)=true)∧dp_ 5 t.name t.n (.slice (some ⟨b,off,none⟩) 1 c) (.slice af free.length cf) m w wr)
 case atStart=>exact⟨n,aw_ _,by omega,by omega,rfl,fun j hj hj'=>by omega,R1.out⟩
 case round =>
  clear R1 XS hil;obtain⟨m,hm1,hm2,rfl,rfl,hall,R⟩:=hrel;have e0:=cell_of_row _ _ 0 _ _ _ R.hf;have e1:=cell_of_row _ _ 0 _ _ _ R.hn;have e2:wr.frozen? ⟨w.heap.size+2,0,none⟩=false:=by have:=R.hn;unfold oG_ at this;simp[World.frozen?,this]
  have C1:=CC.out m wr R.hz;rw[cf_] at C1;have RH:=hid R;have HA:=hid hall;cases hn:fb_ free (aZ_ m) with
  | true =>
   rw[hn] at C1;have hpg:m - n+1≤free.length:=nx_ aZ_ (fun _ _=>ey_) (m - n+1) free n fun j hj=>by
    refine (cN_ _ _).1 ?_
    rcases Nat.lt_or_ge (n+j) m with h|h
    ·exact hall (n+j) (by omega) h
    ·rw[show n+j=m by omega];exact hn
   have HA2:=hid (show ∀ j,n≤j→j<m+1→fb_ free (aZ_ j)=true from fun j h1 h2=>by
    rcases Nat.lt_or_ge j m with h|h
    ·exact hall j h1 h
    ·rw[show j=m by omega];exact hn)
   have C1H:=hid C1;have R2:Hid (dp_ 5 t.name t.n (.slice (some ⟨b,off,none⟩) 1 c) (.slice af free.length cf) (m+1) w (wr.setCell ⟨w.heap.size+1+1,0,none⟩ (.int .i64 ((m:Int)+1)))):=hid (R.setn (m+1));have CI2:Hid (Calls Tryz.prog 45 #[.int .i64 ((m:Int)+1)] (wr.setCell ⟨w.heap.size+1+1,0,none⟩ (.int .i64 ((m:Int)+1))) _):=hid (CI.out (m+1) (by omega) _ R2.out.hz);have e3:=cell_of_row _ _ 0 _ _ _ R2.out.hn;have XS:=hid (gC_ (m+1));have hxs:=(eQ_ (m+1) (by omega)).1;have hil:(aa_ (Lib.itoa ((m+1:Nat):Int))).size≤64:=by unfold aZ_ at hxs;rw[ByteArray.size_append] at hxs;omega
   clear hn hall R C1 hxs;generalize aZ_ m=xm at *;go_wp2_with fail;refine C1H.out.mono ?_;rintro e w' ⟨rfl,rfl⟩;go_wp2_with fail;refine CI2.out.mono ?_;rintro e W4 ⟨rfl,hb4⟩;have R4:=hid (R2.out.low hb4);clear hb4;change (aa_ (Lib.itoa ((m:Int)+1))).size≤64 at hil;have XS2:Hid ((⟨#[120]⟩:ByteArray)++aa_ (Lib.itoa ((m:Int)+1))=aZ_ (m+1)):=XS;clear XS;go_wp2;go_roundg (n+free.length+1 - (m+1))
   case measure=>omega
   case rel=>exact⟨m+1,by omega,by omega,rfl,by rw[← XS2.out],HA2.out,R4.out⟩
  | false =>
   rw[hn] at C1;have EN:=hid (g9_ aZ_ free (free.length+1) n m hm1 (by omega) hall hn);have C1H:=hid C1;have R3:Hid (dp_ 5 t.name t.n (.slice (some ⟨b,off,none⟩) 1 c) (.slice af free.length cf) (m+1) w (wr.setCell ⟨w.heap.size+1+1,0,none⟩ (.int .i64 ((m:Int)+1)))):=hid (R.setn (m+1));have E:=hid (pA_ d free n m t x HK.out HX0.out EN.out);have HXS:=eQ_ m (by omega);have KP:=hid (eX_ t.name (aZ_ m) x HG.out HXS.1 (by omega));have CR:=hid (fun (W:World) (h:Below w.heap.size w W)=>nb_ t.name (aZ_ m) x S a0 p0 W HG.out (by omega) HNS.out.2 HXS.1 (HS0.out.keep fun b hb=>h.block b (HS.out b hb)) (fun b hb=>aX_ (HS.out b hb) h.size) (ag_ HT.out h));have CT:=hid (fun (W9:World) (a9:OA_) (c9:Nat) (R9:dp_ 5 t.name t.n (.slice (some ⟨b,off,none⟩) 1 c) (.slice af free.length cf) (m+1) w W9) (hA9:ac_ (fun b=>S b∨w.heap.size+4≤b∧b<W9.heap.size) W9 (.slice a9 (dA_ t.name (aZ_ m) x).args.length c9) (dA_ t.name (aZ_ m) x).args) =>
    px_ d IH.out free (.slice af free.length cf) (m+1) (aZ_ m) (dA_ t.name (aZ_ m) x) S Sf a9 c9 _ _ _ _ w W9 R9 KP.out.2.2.1 HXS.2 HXS.1 (by rw[KP.out.1];exact hdx) (by rw[KP.out.2.1];omega) (by rw[KP.out.2.1];have:=HBX.out;omega) HFF.out hA9 HS.out HSF.out HT.out)
   have RD:=hid (R3.out.low (Below.refl (wr.setCell ⟨w.heap.size+1+1,0,none⟩ (.int .i64 ((m:Int)+1))).heap.size (wr.setCell ⟨w.heap.size+1+1,0,none⟩ (.int .i64 ((m:Int)+1)))).drew);obtain⟨f0,f1,f2,f3⟩:=HF4.out.keep (RD.out.hz.block b hbl);have d1:=RD.out.k4.c1;have d3:=RD.out.k4.c3;clear hn hall R C1 HXS;generalize hxm:aZ_ m=xm at *;clear hxm;go_wp2_with fail;refine C1H.out.mono ?_;rintro e w' ⟨rfl,rfl⟩;go_wp2
   go_region_with ((go_at_call 38;refine (CR.out _ RD.out.hz).mono ?_;rintro e w9 ⟨a9,c9,rfl,hA9,hb9⟩;have R9:=hid (RD.out.low hb9);have k9:=R9.out.k4;have g0:=k9.c0;have g1:=k9.c1;have g2:=k9.c2;have g3:=k9.c3;have n0:=k9.fr 0;have n1:=k9.fr 1;have n2:=k9.fr 2;have n3:=k9.fr 3;have k10:=k9.low (ao_ _ (.cells #[.int .i64 (dA_ t.name xm x).kind,.string (dA_ t.name xm x).name,.int .i64 (dA_ t.name xm x).n,.slice a9 (dA_ t.name xm x).args.length c9] 30));have h0:=k10.c0;have h1:=k10.c1;have h2:=k10.c2;have h3:=k10.c3;have m0:=k10.fr 0;have m1:=k10.fr 1;have m2:=k10.fr 2;have m3:=k10.fr 3;have HA9:=hid (hA9.mono fun b h=>h.imp id fun h=>And.intro (bm_ RD.out.size h.1) h.2);clear k9 k10 hA9 hb9;unfold tv))
   all_goals
    go_wp2_with fail;refine (CT.out _ _ _ R9.out HA9.out).mono ?_;rintro e W2 ⟨a2,c2',rfl,hA2,hb2,hI2,hq2,hs2⟩;clear g0 g1 g2 g3 n0 n1 n2 n3 h0 h1 h2 h3 m0 m1 m2 m3 d1 d3 f0 f1 f2 f3 e0 e1 e2;have HA2:=hid hA2;have HB2:=hid hb2;have HS2:=hid hs2;generalize hy:cn_ (cU_ xm (dA_ t.name xm x)) (au_ (cC_ d free) (m+1) [dA_ t.name xm x]).1=y at *;generalize hm3:(au_ (cC_ d free) (m+1) [dA_ t.name xm x]).2=m3 at *;have EY:Hid (cC_ (d+1) free n t=(y,m3)):=E;clear E hy hm3 hA2 hb2 hs2;unfold tv;have q4:=B4.low hq2 (ao_ _ (.cells #[.int .i64 y.kind,.string y.name,.int .i64 y.n,.slice a2 y.args.length c2'] 30));have p4:=B4.new W2 (.int .i64 y.kind) (.string y.name) (.int .i64 y.n) (.slice a2 y.args.length c2');have i4:=((heap_alloc_old W2 (.cells #[.int .i64 y.kind,.string y.name,.int .i64 y.n,.slice a2 y.args.length c2'] 30) (Array.getElem?_eq_some_iff.1 hI2).1).trans hI2);obtain⟨r0,r1,r2,r3⟩:=q4.c03;obtain⟨s0,s1,s2,s3⟩:=q4.f03;obtain⟨l0,l1,l2,l3⟩:=p4.c03;have j0:=cell_of_row _ _ 0 _ _ _ i4;have Q4:=hid q4;clear q4 p4 i4 hI2 hq2;go_wp2
    go_region
    go_wp2;have q5:=B4.set4 Q4.out (.int .i64 y.kind) (.string y.name) (.int .i64 y.n) (.slice a2 y.args.length c2');exact bodyPost_ret (v:=.tuple #[tv y a2 c2',.int .i64 m3]) (by simp[results,Tryz.results62,go_sem,tv,q5.c0,q5.c1,q5.c2,q5.c3]) rfl (by
     rw[EY.out];exact pz_ HS.out HB2.out HS2.out HA2.out (bJ_ _ _ _ _ _ _))
theorem py_:∀ d:Nat,gb_ d:=by
 intro d
 induction d with
 | zero=>intro free fv n t S Sf a c W hg h;rw[t.depth_eq] at h;omega
 | succ d ih =>
  intro free fv n t S Sf a c W hg hd hs hb hF hA hS hSf hT
  by_cases hk:t.kind=5
  ·exact re_ d ih free fv n t S Sf a c W hk hg hd hs hb hF hA hS hSf hT
  ·exact pw_ d ih free fv n t S Sf a c W hk hg hd hs hb hF hA hS hSf hT
def bi_ (t:Ty):List UInt8:=ae_ (db_ t)
theorem ia_ (t:Ty)(hs:t.size≤50000000000)(hf:(aK_ t).length≤4000000):t.size*((aK_ t).length+1)≤4611686018427387904:=by
 have h2:t.size*((aK_ t).length+1)≤50000000000*(4000000+1):=Nat.mul_le_mul hs (by omega);omega
theorem oh_ (t:Ty)(S:Nat→Prop)(a:OA_)(c:Nat)(w:World)(hA:ac_ S w (.slice a t.args.length c) t.args)(hS:∀ b,S b→b<w.heap.size)(hg:cV_ t)(hs2:t.size≤50000000000∧(aK_ t).length≤4000000)(hT:Tab w) :
  Calls Tryz.prog 28 #[tv t a c] w (aQ_ w (bi_ t)):=by
 have hz:=ao_ w (.cells #[.int .i64 t.kind,.string t.name,.int .i64 t.n,.slice a t.args.length c] 30);have b4:=B4.new w (.int .i64 t.kind) (.string t.name) (.int .i64 t.n) (.slice a t.args.length c);have hs:=hs2.1;have hcs:=ia_ t hs hs2.2;have KP:=hid (gZ_ t.depth (aK_ t) t 0 (aw_ _) hg (by omega) (by omega));have CF:=hid (fun (W:World) (h:Below w.heap.size w W)=>fH_ t S a c W (hA.keep fun b hb=>h.block b (hS b hb)) (fun b hb=>aX_ (hS b hb) h.size) (by omega));have CN:=hid (fun (Sf:Nat→Prop) (fv:Value) (W:World) (h:Below w.heap.size w W) (hF:bd_ Sf W fv (aK_ t)) (hSf:∀ b,Sf b→b<W.heap.size)=>py_ t.depth (aK_ t) fv 0 t S Sf a c W hg (aw_ _) hs (by omega) hF (hA.keep fun b hb=>h.block b (hS b hb)) (fun b hb=>aX_ (hS b hb) h.size) hSf (ag_ hT h));have hpl:=f1_ (db_ t) KP.out.2.2.2.2.1;have hps:(db_ t).size=t.size:=KP.out.2.2.2.1;have CP:=hid (fun (Z:Nat→Prop) (a':OA_) (c':Nat) (W:World) (h:Below w.heap.size w W) (hA':ac_ Z W (.slice a' (db_ t).args.length c') (db_ t).args) (hZ:∀ b,Z b→b<W.heap.size)=>gV_ (db_ t) Z a' c' W hA' hZ KP.out.2.2.2.2.1.1 (by omega) (ag_ hT h));have hfl:=c7_ t;unfold bi_;unfold db_ at *;generalize cC_ t.depth (aK_ t) 0 t=r at *;obtain⟨y,m⟩:=r;simp only at hpl hps;have HZ:=hid hz;have HZD:=hid hz.drew;have B4H:=hid b4;have HS:=hid hS;obtain⟨c0,c1,c2,c3⟩:=b4.c03;have SK:=hid (fun (W:World) (h:Below (w.alloc (.cells #[.int .i64 t.kind,.string t.name,.int .i64 t.n,.slice a t.args.length c] 30)).heap.size (w.alloc (.cells #[.int .i64 t.kind,.string t.name,.int .i64 t.n,.slice a t.args.length c] 30)) W)=>And.intro (b4.low h).c0 (And.intro (b4.low h).c1 (And.intro (b4.low h).c2 (b4.low h).c3)));have RD:=hid ((Below.refl (w.alloc (.cells #[.int .i64 t.kind,.string t.name,.int .i64 t.n,.slice a t.args.length c] 30)).heap.size (w.alloc (.cells #[.int .i64 t.kind,.string t.name,.int .i64 t.n,.slice a t.args.length c] 30))).drew);have RD2:=hid ((Below.refl (w.alloc (.cells #[.int .i64 t.kind,.string t.name,.int .i64 t.n,.slice a t.args.length c] 30)).heap.size (w.alloc (.cells #[.int .i64 t.kind,.string t.name,.int .i64 t.n,.slice a t.args.length c] 30))).drew.alloc (aw_ _) (.cells #[.int .i64 0,.string ⟨#[]⟩,.int .i64 0,.slice none 0 0] 30));have hyl:(ae_ y).length≤4500000000000:=by omega
 unfold tv;clear hA hS hz b4 hg hT hps hcs hpl;go_enter Tryz.func28,Tryz.ntmps28;go_wp2
 go_region_held3 (fun w'=>w'.cell? ⟨w.heap.size,0,none⟩=some (.int .i64 t.kind)∧w'.cell? ⟨w.heap.size,1,none⟩=some (.string t.name)∧w'.cell? ⟨w.heap.size,2,none⟩=some (.int .i64 t.n)∧w'.cell? ⟨w.heap.size,3,none⟩=some (.slice a t.args.length c))
  (first|exact SK.out _ hB2|exact SK.out _ (hB2.set4 (b:=w1.heap.size) hB1.size _ _ _ _)|exact SK.out _ (hB2.set4 (b:=w.heap.size+1) (by simp) _ _ _ _)|exact SK.out _ (hB2.alloc hB2.size _)|exact SK.out _ hB1|exact SK.out _ (hB1.alloc hB1.size _)|exact SK.out _ RD.out|exact SK.out _ RD2.out|go_keep)
  (first
   | (go_at_call 35;refine (CF.out _ (by first|exact HZD.out|exact (HZ.out.trans (RD2.out.mono HZ.out.size)))).mono ?_;rintro e w1 ⟨v1,rfl,own1,len1,hb1⟩;have hB1:=(show Below (w.alloc (.cells #[.int .i64 t.kind,.string t.name,.int .i64 t.n,.slice a t.args.length c] 30)).heap.size (w.alloc (.cells #[.int .i64 t.kind,.string t.name,.int .i64 t.n,.slice a t.args.length c] 30)) _ from by first|exact RD.out|exact RD2.out).trans (hb1.mono (by simp)))
   | (go_at_call 62;refine (CN.out (fun b=>v1.ownBlock=some b) v1 _ (by first|exact HZ.out.trans (hB1.mono HZ.out.size)|exact HZ.out.trans ((hB1.alloc hB1.size _).mono HZ.out.size)) (by first|exact bd_.of_own own1 (by omega)|exact bd_.of_own (aF_ own1 (fun b hb=>heap_alloc_old w1 _ (own1.lt b hb).2)) (by omega)) (fun b hb=>by have:=(own1.lt b hb).2;simp at *;omega)).mono ?_;rintro e w2 ⟨a2,c2,rfl,hA2,hb2⟩;have hB2:Below (w.alloc (.cells #[.int .i64 t.kind,.string t.name,.int .i64 t.n,.slice a t.args.length c] 30)).heap.size (w.alloc (.cells #[.int .i64 t.kind,.string t.name,.int .i64 t.n,.slice a t.args.length c] 30)) w2:=(by first|exact hB1.trans (hb2.mono hB1.size)|exact (hB1.alloc hB1.size _).trans (hb2.mono (hB1.alloc hB1.size _).size));(first|(have k3:=B4.low (B4.new w1 (.int .i64 0) (.string ⟨#[]⟩) (.int .i64 0) (.slice none 0 0)) hb2;have y0:=k3.c0;have y1:=k3.c1;have y2:=k3.c2;have y3:=k3.c3;have v0:=k3.fr 0;have v1':=k3.fr 1;have v2:=k3.fr 2;have v3:=k3.fr 3;have K3:=hid k3;clear k3)|(have k3:B4 w2 (w.heap.size+1) (.int .i64 0) (.string ⟨#[]⟩) (.int .i64 0) (.slice none 0 0):=B4.low (show B4 w1 (w.heap.size+1) (.int .i64 0) (.string ⟨#[]⟩) (.int .i64 0) (.slice none 0 0) from (hb1.block _ (by simp)).trans (al_ (by simp))) hb2;have y0:=k3.c0;have y1:=k3.c1;have y2:=k3.c2;have y3:=k3.c3;have v0:=k3.fr 0;have v1':=k3.fr 1;have v2:=k3.fr 2;have v3:=k3.fr 3;have K3:=hid k3;clear k3)|skip);unfold tv;simp only))
 ·have HB2:=hid (HZ.out.trans (hB2.mono HZ.out.size))
  have HA2:=hid hA2;have HW:=hid hb2.size;have HW1:=hid hB1.size;clear hb1 hB1 own1 len1 hA2 hb2 hB2;go_wp2_with fail;have hs1:=HW.out;have hs2:=HW1.out;have hs3:=HB2.out.size;have hlt:∀ b,b<w.heap.size∨b<w2.heap.size→b<w2.heap.size:=fun b h=>by omega
  refine (CP.out _ a2 c2 _ (HB2.out.alloc HB2.out.size _) (HA2.out.keep fun b hb=>heap_alloc_old w2 _ (hlt b (hb.imp (HS.out b) And.right))) (fun b hb=>by have:=hlt b (hb.imp (HS.out b) And.right);simp;omega)).mono ?_;rintro e w5 ⟨rfl,hb5⟩;clear hs1 hs2 hs3 hlt;have HB5:=hid hb5;clear hb5;go_wp2;go_ret;exact⟨rfl,(HB2.out.alloc HB2.out.size _).trans (HB5.out.mono (HB2.out.alloc HB2.out.size _).size)⟩
 ·have HB2:=hid (HZ.out.trans (hB2.mono HZ.out.size))
  have HA2:=hid hA2;have HW:=hid hb2.size;have HW1:=hid hB1.size;clear hb1 hB1 own1 len1 hA2 hb2 hB2;go_wp2_with fail;have hs1:=HW.out;have hs2:=HW1.out;have hs3:=HB2.out.size;have hlt:∀ b,b<w.heap.size∨b<w2.heap.size→b<w2.heap.size:=fun b h=>by omega
  refine (CP.out _ a2 c2 _ (HB2.out.set4 (b:=w1.heap.size) (by simp at *;omega) _ _ _ _) (HA2.out.keep fun b hb=>(bJ_ w2 (w1.heap.size) _ _ _ _).off b (by rcases hb with hb|hb<;>first|(have:=HS.out b hb;simp at *;omega)|(have:=hb.1;simp at *;omega))) (fun b hb=>by have:=hlt b (hb.imp (HS.out b) And.right);simp;omega)).mono ?_;rintro e w5 ⟨rfl,hb5⟩;clear hs1 hs2 hs3 hlt;have HB5:=hid hb5;clear hb5;go_wp2;go_ret;exact⟨rfl,(HB2.out.set4 (b:=w1.heap.size) (by have:=HW1.out;simp at *;omega) _ _ _ _).trans (HB5.out.mono (by have:=HB2.out.size;simp at *;omega))⟩
 ·have HB2:=hid (HZ.out.trans (hB2.mono HZ.out.size))
  have HA2:=hid hA2;have HW:=hid hb2.size;have HW1:=hid hb1.size;clear hb1 hB1 own1 len1 hA2 hb2 hB2;go_wp2_with fail;have hs1:=HW.out;have hs2:=HW1.out;have hs3:=HB2.out.size;have hlt:∀ b,b<w.heap.size∨b<w2.heap.size→b<w2.heap.size:=fun b h=>by omega
  refine (CP.out _ a2 c2 _ (HB2.out.set4 (b:=w.heap.size+1) (by omega) _ _ _ _) (HA2.out.keep fun b hb=>(bJ_ w2 (w.heap.size+1) _ _ _ _).off b (by rcases hb with hb|hb<;>first|(have:=HS.out b hb;simp at *;omega)|(have:=hb.1;simp at *;omega))) (fun b hb=>by have:=hlt b (hb.imp (HS.out b) And.right);simp;omega)).mono ?_;rintro e w5 ⟨rfl,hb5⟩;clear hs1 hs2 hs3 hlt;have HB5:=hid hb5;clear hb5;go_wp2;go_ret;exact⟨rfl,(HB2.out.set4 (b:=w.heap.size+1) (by omega) _ _ _ _).trans (HB5.out.mono (by have:=HB2.out.size;simp at *;omega))⟩
end Go.Proofs.YtkihnodkhnahiaaGreatDoor.Tp

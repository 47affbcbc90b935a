/- Packed. -/
import Derived.Test.YtjecnionbjlncaaGreatDoorP48
set_option maxRecDepth 100000
set_option maxHeartbeats 6400000
namespace Go.Proofs.YtjecnionbjlncaaGreatDoor.Tp
section
open Go.RowKit
def cD_ (m:Nat)(w:World)(v:Value)(l:List ByteArray):Prop:=aB_ (fun b=>b<w.heap.size∧(b<m∨m+5≤b)) w v l
theorem cD_.of_low {w W:World}{v:Value}{l:List ByteArray}(h:bc_ w v l)(hb:Below w.heap.size w W):cD_ w.heap.size W v l :=
 (aB_.keep (fun b hS=>hb.block b hS) h).mono fun _ hS=>⟨aU_ hS hb.size,.inl hS⟩
theorem cD_.of_own {m lo:Nat}{w:World}{v:Value}{l:List ByteArray}(h:w.ownsRow lo 9 1 v l.length (l.map Value.string))(hl:l.length≤1099511627776)(hm:m+5≤lo):cD_ m w v l :=
 (aB_.of_own h (by omega)).mono fun b hb=>⟨(h.lt b hb).2,.inr (bL_ hm (h.lt b hb).1)⟩
theorem cD_.low {m:Nat}{w W:World}{v:Value}{l:List ByteArray}(h:cD_ m w v l)(hb:Below w.heap.size w W):cD_ m W v l :=
 (aB_.keep (fun b hS=>hb.block b hS.1) h).mono fun _ hS=>⟨aU_ hS.1 hb.size,hS.2⟩
theorem cD_.set {m b':Nat}{w:World}{v:Value}{l:List ByteArray}(h:cD_ m w v l)(i:Nat)(u:Value)(h1:m≤b')(h2:b'<m+5):cD_ m (w.setCell ⟨b',i,none⟩ u) v l :=
 (aB_.keep (fun b hS=>av_ w _ u b (by rintro rfl;have:=hS.2;omega)) h).mono fun _ hS=>⟨by simpa using hS.1,hS.2⟩
theorem cD_.no {m O:Nat}{w:World}{v:Value}{l:List ByteArray}(h:cD_ m w v l)(h1:m≤O)(h2:O<m+5):gl_ O w v l:=h.mono fun _ hS=>⟨hS.1,by have:=hS.2;omega⟩
def f8_ (W:World)(l:List ByteArray)(B i:Nat)(wx:World):Prop:=∃ v2 w2,wx=w2.setCell ⟨B,i,none⟩ v2∧w2.ownsRow W.heap.size 9 1 v2 l.length (l.map Value.string)∧Below W.heap.size W w2
theorem f8_.mk {W w2:World}{l:List ByteArray}{B i:Nat}{v2:Value}(h:w2.ownsRow W.heap.size 9 1 v2 l.length (l.map Value.string))(hb:Below W.heap.size W w2):f8_ W l B i (w2.setCell ⟨B,i,none⟩ v2):=⟨v2,w2,rfl,h,hb⟩
structure ga_ (w W:World)(t:Ty)(a:OA_)(c:Nat)(vf vt mf mt:Value)(s:ByteArray):Prop where
 hz:Below w.heap.size w W
 lt:w.heap.size+5≤W.heap.size
 kt:R4 W w.heap.size (.int .i64 t.kind) (.string t.name) (.int .i64 t.n) (.slice a t.args.length c)
 kn:R2 W (w.heap.size+1) vf vt
 kr:R4 W (w.heap.size+1+1) (.int .i64 0) (.string ⟨#[]⟩) (.int .i64 0) (.slice none 0 0)
 ko:R4 W (w.heap.size+1+1+1) (.int .i64 t.kind) (.string s) (.int .i64 t.n) (.slice none 0 0)
 km:R2 W (w.heap.size+1+1+1+1) mf mt
section
variable {w W W' : World} {t : Ty} {a : OA_} {c : Nat} {vf vt mf mt : Value} {s : ByteArray}
theorem ga_.low (h:ga_ w W t a c vf vt mf mt s)(hb:Below W.heap.size W W'):ga_ w W' t a c vf vt mf mt s :=
 ⟨h.hz.trans (hb.mono h.hz.size),bL_ h.lt hb.size,h.kt.low hb,h.kn.low hb,h.kr.low hb,h.ko.low hb,h.km.low hb⟩
theorem ga_.name (h:ga_ w W t a c vf vt mf mt s)(s':ByteArray):ga_ w (W.setCell ⟨w.heap.size+1+1+1,1,none⟩ (.string s')) t a c vf vt mf mt s':=by
 have k:∀ b,b≠w.heap.size+1+1+1→(W.setCell ⟨w.heap.size+1+1+1,1,none⟩ (.string s')).heap[b]? = W.heap[b]? := fun b hb=>av_ W _ _ b hb;exact⟨h.hz.setCell (p:=⟨w.heap.size+1+1+1,1,none⟩) (by simp;omega) _,by simpa using h.lt,(k _ (by omega)).trans h.kt,(k _ (by omega)).trans h.kn,(k _ (by omega)).trans h.kr,h.ko.set1 _,(k _ (by omega)).trans h.km⟩
theorem ga_.set0 (h:ga_ w W t a c vf vt mf mt s)(v:Value):ga_ w (W.setCell ⟨w.heap.size+1+1+1+1,0,none⟩ v) t a c vf vt v mt s:=by
 have k:∀ b,b≠w.heap.size+1+1+1+1→(W.setCell ⟨w.heap.size+1+1+1+1,0,none⟩ v).heap[b]? = W.heap[b]? := fun b hb=>av_ W _ _ b hb;exact⟨h.hz.setCell (p:=⟨w.heap.size+1+1+1+1,0,none⟩) (by simp;omega) _,by simpa using h.lt,(k _ (by omega)).trans h.kt,(k _ (by omega)).trans h.kn,(k _ (by omega)).trans h.kr,(k _ (by omega)).trans h.ko,h.km.set0 _⟩
theorem ga_.set1 (h:ga_ w W t a c vf vt mf mt s)(v:Value):ga_ w (W.setCell ⟨w.heap.size+1+1+1+1,1,none⟩ v) t a c vf vt mf v s:=by
 have k:∀ b,b≠w.heap.size+1+1+1+1→(W.setCell ⟨w.heap.size+1+1+1+1,1,none⟩ v).heap[b]? = W.heap[b]? := fun b hb=>av_ W _ _ b hb;exact⟨h.hz.setCell (p:=⟨w.heap.size+1+1+1+1,1,none⟩) (by simp;omega) _,by simpa using h.lt,(k _ (by omega)).trans h.kt,(k _ (by omega)).trans h.kn,(k _ (by omega)).trans h.kr,(k _ (by omega)).trans h.ko,h.km.set1 _⟩
end
theorem pt_ (L:ByteArray)(hL:L.size≤100)(but:List ByteArray)(t:Ty)(hk5:t.kind=5)(ih:∀ x∈t.args,eN_ L but x):eN_ L but t:=by
 intro S a c w vf vt vb fr tl k hA hS hs hf ht hlen hb hfl hk;have hdb:dbT fr.reverse t=.mk 5 emp 0 (t.args.map (dbT (t.name :: fr.reverse))):=aP_ _ _ hk5;obtain⟨af,cf,rfl,hcf,_⟩:=id hf;obtain⟨at',ct,rfl,hct,_⟩:=id ht;have M:=ig_ w t a c af at' cf ct fr tl;have e1:(t.kind==1)=false:=by rw[hk5];rfl
 have e5:(t.kind==5)=true:=by rw[hk5];rfl
 have hl:t.args.length≤9223372036854775807:=by
  obtain⟨_,_,_,h⟩:=hA.form;exact h
 have hlw:Below ((((w.alloc (.cells #[.int .i64 t.kind,.string t.name,.int .i64 t.n,.slice a t.args.length c] 43)).alloc (.cells #[.slice af fr.length cf,.slice at' tl.length ct] 94)).alloc (.cells #[.int .i64 0,.string ⟨#[]⟩,.int .i64 0,.slice none 0 0] 43)).alloc (.cells #[.int .i64 t.kind,.string t.name,.int .i64 t.n,.slice none 0 0] 43)).heap.size ((((w.alloc (.cells #[.int .i64 t.kind,.string t.name,.int .i64 t.n,.slice a t.args.length c] 43)).alloc (.cells #[.slice af fr.length cf,.slice at' tl.length ct] 94)).alloc (.cells #[.int .i64 0,.string ⟨#[]⟩,.int .i64 0,.slice none 0 0] 43)).alloc (.cells #[.int .i64 t.kind,.string t.name,.int .i64 t.n,.slice none 0 0] 43)) (((((w.alloc (.cells #[.int .i64 t.kind,.string t.name,.int .i64 t.n,.slice a t.args.length c] 43)).alloc (.cells #[.slice af fr.length cf,.slice at' tl.length ct] 94)).alloc (.cells #[.int .i64 0,.string ⟨#[]⟩,.int .i64 0,.slice none 0 0] 43)).alloc (.cells #[.int .i64 t.kind,.string t.name,.int .i64 t.n,.slice none 0 0] 43)).alloc (.cells #[.slice af fr.length cf,.slice at' tl.length ct] 94)):=aq_ _ _;have FR:Hid (ga_ w (((((w.alloc (.cells #[.int .i64 t.kind,.string t.name,.int .i64 t.n,.slice a t.args.length c] 43)).alloc (.cells #[.slice af fr.length cf,.slice at' tl.length ct] 94)).alloc (.cells #[.int .i64 0,.string ⟨#[]⟩,.int .i64 0,.slice none 0 0] 43)).alloc (.cells #[.int .i64 t.kind,.string t.name,.int .i64 t.n,.slice none 0 0] 43)).alloc (.cells #[.slice af fr.length cf,.slice at' tl.length ct] 94)) t a c (.slice af fr.length cf) (.slice at' tl.length ct) (.slice af fr.length cf) (.slice at' tl.length ct) t.name):=hid ⟨M.hz.alloc M.hz.size _,by simp,M.kt.low hlw,M.kn.low hlw,M.kr.low hlw,M.ko.low hlw,by have h:=R2.new ((((w.alloc (.cells #[.int .i64 t.kind,.string t.name,.int .i64 t.n,.slice a t.args.length c] 43)).alloc (.cells #[.slice af fr.length cf,.slice at' tl.length ct] 94)).alloc (.cells #[.int .i64 0,.string ⟨#[]⟩,.int .i64 0,.slice none 0 0] 43)).alloc (.cells #[.int .i64 t.kind,.string t.name,.int .i64 t.n,.slice none 0 0] 43)) (.slice af fr.length cf) (.slice at' tl.length ct);rw[M.size] at h;exact h⟩;have hsp:=bV_ (aK_ L) (fun _ _=>cQ_) but k;obtain⟨n,hn⟩:∃ n,nx (aK_ L) but k=n:=⟨_,rfl⟩;rw[show dw_ (aK_ L) but (but.length+1) k=n from hn] at hsp;have hn0:t.n=0:=(hs.k5 hk5).1;have E5:Hid (cnT (aK_ L) but tl.reverse k (dbT fr.reverse t)=(.mk t.kind (aK_ L n) t.n (cnL (aK_ L) but (tl++[aK_ L n]).reverse (n+1) (t.args.map (dbT (fr++[t.name]).reverse))).1,(cnL (aK_ L) but (tl++[aK_ L n]).reverse (n+1) (t.args.map (dbT (fr++[t.name]).reverse))).2)):=hid (by
  rw[hdb,oz_,hn,hk5,hn0];simp)
 have HF:=hid hf;have HT:=hid ht;have HB:=hid hb;have HL5:Hid ((fr++[t.name]).length=(tl++[aK_ L n]).length):=hid (by simp;exact hlen);have SE5:Hid ((fr++[t.name]).length+ag_ t.args≤1000000000000∧n+1+ag_ t.args*(but.length+1)≤100000000000000000):=hid ⟨by have:=t.size_eq;simp;omega,by rw[t.size_eq,Nat.add_mul] at hk;have:=hsp.2.1;omega⟩;have hnb:n≤100000000000000000:=by have:=SE5.out.2;omega
 have hfb:fr.length≤1099511627776:=by omega
 have htb:tl.length≤1099511627776:=by omega
 have HSP:=hid hsp;have hkn:=hsp.1;have SA:=hid hs.args;have IH:=hid ih;have AH:=hid hA;have HS:=hid hS;have DC:=hid (fun (j:Nat) (hj:j≤100000000000000000) (W:World)=>dh_ j (by omega) W);have DS:∀ j:Nat,j≤100000000000000000→(ab_ (Lib.decDigits j)).size≤100:=fun j hj=>by
  have:=(bQ_ j).2.2.2 18 (by omega) (show j<10 ^ 18 by omega);rw[ap_];omega
 have DSH:=hid DS;have CH:=hid (fun (j:Nat) (W:World) (h:Below w.heap.size w W)=>(kz_ _ vb but (L++ab_ (Lib.decDigits j)) W (hb.low h):Calls Tryz.prog 82 #[vb,.string (L++ab_ (Lib.decDigits j))] W fun e w'=>e=.returned (.bool (cR_ but (aK_ L j)))∧W=w'));have c0:=M.kt.c0;have N0:=M.kn.c0;have N1:=M.kn.c1;have P0:=M.kt;have Q0:R4 ((((w.alloc (.cells #[.int .i64 t.kind,.string t.name,.int .i64 t.n,.slice a t.args.length c] 43)).alloc (.cells #[.slice af fr.length cf,.slice at' tl.length ct] 94)).alloc (.cells #[.int .i64 0,.string ⟨#[]⟩,.int .i64 0,.slice none 0 0] 43))) w.heap.size (.int .i64 t.kind) (.string t.name) (.int .i64 t.n) (.slice a t.args.length c):=(heap_alloc_old _ _ (by simp<;>omega)).symm.trans P0;have b0:=Q0.c0;have b1:=Q0.c1;have b2:=Q0.c2;have d0:=FR.out.kt.c0;have hdk:=DS k (by omega);clear hA hS hs hf ht hb hfl hk hdb M P0 Q0 hlen hcf hct ih hlw hsp hn hn0 DS hk5;unfold tv;go_enter Tryz.func43,Tryz.ntmps43;go_wp2_with fail;clear b0 b1 b2 c0 N0 N1 d0;generalize ((((w.alloc (.cells #[.int .i64 t.kind,.string t.name,.int .i64 t.n,.slice a t.args.length c] 43)).alloc (.cells #[.slice af fr.length cf,.slice at' tl.length ct] 94)).alloc (.cells #[.int .i64 0,.string ⟨#[]⟩,.int .i64 0,.slice none 0 0] 43)).alloc (.cells #[.int .i64 t.kind,.string t.name,.int .i64 t.n,.slice none 0 0] 43)).alloc (.cells #[.slice af fr.length cf,.slice at' tl.length ct] 94)=W5 at *;refine (DC.out k (by omega) _).mono ?_;rintro e w1 ⟨rfl,hb1⟩;have B1:=hid hb1;have CH1:=hid (CH.out k w1 (FR.out.hz.trans (hb1.mono FR.out.hz.size)));clear hb1;go_wp2_with fail;refine CH1.out.mono ?_;rintro e w1' ⟨rfl,rfl⟩;go_wp2
 go_loopw [4,15] (fun kv bv wr=>∃ j:Nat,kv=.int .i64 j∧bv=.bool (cR_ but (aK_ L j))∧k≤j∧j≤n∧Below W5.heap.size W5 wr) (fun kv _ _=>n+1 - (intOf kv).toNat)
 case atStart=>exact⟨k,rfl,rfl,aA_ _,hkn,B1.out⟩
 case round =>
  clear B1 CH1 hdk;obtain⟨j,rfl,rfl,hkj,hjn,hB⟩:=hrel;have FRr:=hid (FR.out.low hB);have BH:=hid hB;cases hh:cR_ but (aK_ L j) with
  | true =>
   have hlt:j<n:=by
    rcases Nat.lt_or_ge j n with h|h
    ·exact h
    ·obtain rfl:j=n:=by omega
     rw[HSP.out.2.2.2] at hh;cases hh
   have hds:=DSH.out (j+1) (by omega);have D1:Hid (Calls Tryz.prog 20 #[.int .i64 ((j:Int)+1)] wr (bm_ wr (Lib.decDigits (j+1)))):=hid (DC.out (j+1) (by omega) wr);clear hB hh;go_wp2_with fail;refine D1.out.mono ?_;rintro e w2 ⟨rfl,hb2⟩;have B2:=hid (BH.out.trans (hb2.mono BH.out.size));have CH2:=hid (CH.out (j+1) w2 (FR.out.hz.trans (B2.out.mono FR.out.hz.size)));clear hb2;go_wp2_with fail;refine CH2.out.mono ?_;rintro e w2' ⟨rfl,rfl⟩;go_wp2;go_roundw
   case rel=>exact⟨j+1,by go_num,rfl,by omega,by omega,B2.out⟩
   case measure=>simp[intOf];omega
  | false =>
   obtain rfl:j=n:=by
    rcases Nat.lt_or_ge j n with h|h
    ·have:=HSP.out.2.2.1 j hkj h
     rw[this] at hh;cases hh
    ·omega
   have hds:=DSH.out j hnb;have D1:=hid (DC.out j hnb wr);clear hB hh;go_wp2_with fail;refine D1.out.mono ?_;rintro e w2 ⟨rfl,hb2⟩;have F2:=hid (FRr.out.low hb2);have F3:=hid (F2.out.name (aK_ L j));have o0:=F2.out.ko.c0;have o1:=F2.out.ko.c1;have of1:=F2.out.ko.fr 1;clear hb2 D1
   go_upto_region 18 with fail
   clear o0 o1 of1;have EN:L++ab_ (Lib.decDigits j)=aK_ L j:=rfl;rw[EN];clear EN;generalize w2.setCell ⟨w.heap.size+1+1+1,1,none⟩ (.string (aK_ L j))=W8 at *;have KK:Hid (∀ W:World,Below W8.heap.size W8 W→W.cell? ⟨w.heap.size+1,0,none⟩=some (.slice af fr.length cf)∧W.cell? ⟨w.heap.size,1,none⟩=some (.string t.name)):=hid (fun W h=>⟨(F3.out.low h).kn.c0,(F3.out.low h).kt.c1⟩);have KS:Hid (∀ (W:World) (v:Value),Below W8.heap.size W8 W→(W.setCell ⟨w.heap.size+1+1+1+1,0,none⟩ v).cell? ⟨w.heap.size+1,0,none⟩=some (.slice af fr.length cf)∧(W.setCell ⟨w.heap.size+1+1+1+1,0,none⟩ v).cell? ⟨w.heap.size,1,none⟩=some (.string t.name)):=hid (fun W v h=>⟨((F3.out.low h).set0 v).kn.c0,((F3.out.low h).set0 v).kt.c1⟩);have KM:=hid F3.out.km;have PF:=hid (HF.out.low F3.out.hz)
   go_upto_region 18 with fail
   go_cut [88] from 81 to 89 (fun _ wx=>f8_ (W8) (fr++[t.name]) (w.heap.size+1+1+1+1) 0 wx)
   case first =>
    have PA:=hid (im_ 89 89 (W8) PF.out hfb (t.name));have PB:=hid (il_ 89 89 (W8) PF.out hfb (t.name));have PC:=hid (ik_ 89 89 (W8) PF.out hfb (t.name));have k0:=(KK.out _ (Below.refl _ _)).1;have k1:=(KK.out _ (Below.refl _ _)).2
    go_region_held3 (fun w'=>w'.cell? ⟨w.heap.size+1,0,none⟩=some (.slice af fr.length cf)∧w'.cell? ⟨w.heap.size,1,none⟩=some (.string t.name))
     (first|(with_reducible exact KS.out _ _ HX2.out)|(with_reducible exact KK.out _ HX2.out)|(with_reducible exact KK.out _ HX1.out)|go_keep)
     (first
      | ((with_reducible show (if Region.wanted _ _=true then Oper.wp _ _ _ ((W8).alloc (.cells #[] 9)).drew _ _ else _));refine ah_ (by rfl) _ _ _ (by rfl) (by rfl) (by rfl) PA.out ?_;rintro v1 w1 ⟨hx1,hA2⟩;have HX1:=hid hx1;have A2:=hid hA2;have qq:=KK.out _ hx1;have q0:=qq.1;have q1:=qq.2;clear hx1 hA2 qq)
      | ((with_reducible show (if Region.wanted _ _=true then Oper.wp _ _ _ (((W8).alloc (.cells #[] 9)).alloc (.cells #[.string (t.name)] 9)).drew _ _ else _));refine ah_ (by rfl) _ _ _ (by rfl) (by rfl) (by rfl) PB.out ?_;rintro v1 w1 ⟨hx1,hA2⟩;have HX1:=hid hx1;have A2:=hid hA2;have qq:=KK.out _ hx1;have q0:=qq.1;have q1:=qq.2;clear hx1 hA2 qq)
      | ((with_reducible show (if Region.wanted _ _=true then Oper.wp _ _ _ (((W8).alloc (.cells #[.string (t.name)] 9)).alloc (.cells #[] 9)).drew _ _ else _));refine ah_ (by rfl) _ _ _ (by rfl) (by rfl) (by rfl) PC.out ?_;rintro v1 w1 ⟨hx1,hA2⟩;have HX1:=hid hx1;have A2:=hid hA2;have qq:=KK.out _ hx1;have q0:=qq.1;have q1:=qq.2;clear hx1 hA2 qq)
      | (refine ah_ (by rfl) _ _ _ (by rfl) (by rfl) (by rfl) A2.out ?_;rintro v2 w2 ⟨ho2,hx2⟩;obtain⟨a2,c2,hv2⟩:=aL_ ho2;rw[List.length_append,List.length_singleton] at hv2;subst hv2;have km2:=KM.out.low hx2;have mc:=km2.c0;have mf:=km2.fr 0;have HO2:=hid ho2;have HX2:=hid hx2;have qr:=KK.out _ hx2;have q2:=qr.1;have q3:=qr.2;clear ho2 hx2 km2 qr))
    all_goals
     go_wp2_with fail
     go_meet
     exact f8_.mk HO2.out HX2.out
   obtain⟨vF,wF,rfl,ho2,hx2⟩:=hcut;have F4:=hid ((F3.out.low hx2).set0 vF);have L1:Hid (cD_ w.heap.size (wF.setCell ⟨w.heap.size+1+1+1+1,0,none⟩ vF) vF (fr++[t.name])):=hid ((cD_.of_own (m:=w.heap.size) ho2 (by have h1:=SE5.out.1;have h2:=HL5.out;omega) F3.out.lt).set 0 vF (by omega) (by omega));clear KK KS KM PF ho2 hx2;generalize wF.setCell ⟨w.heap.size+1+1+1+1,0,none⟩ vF=W9 at *;have KK:Hid (∀ W:World,Below W9.heap.size W9 W→W.cell? ⟨w.heap.size+1,1,none⟩=some (.slice at' tl.length ct)∧W.cell? ⟨w.heap.size+1+1+1,1,none⟩=some (.string (aK_ L j))):=hid (fun W h=>⟨(F4.out.low h).kn.c1,(F4.out.low h).ko.c1⟩);have KS:Hid (∀ (W:World) (v:Value),Below W9.heap.size W9 W→(W.setCell ⟨w.heap.size+1+1+1+1,1,none⟩ v).cell? ⟨w.heap.size+1,1,none⟩=some (.slice at' tl.length ct)∧(W.setCell ⟨w.heap.size+1+1+1+1,1,none⟩ v).cell? ⟨w.heap.size+1+1+1,1,none⟩=some (.string (aK_ L j))):=hid (fun W v h=>⟨((F4.out.low h).set1 v).kn.c1,((F4.out.low h).set1 v).ko.c1⟩);have KM:=hid F4.out.km;have PF:=hid (HT.out.low F4.out.hz)
   go_upto_region 19 with fail
   go_cut [97] from 90 to 98 (fun _ wx=>f8_ (W9) (tl++[aK_ L j]) (w.heap.size+1+1+1+1) 1 wx)
   case first =>
    have PA:=hid (im_ 89 89 (W9) PF.out htb (aK_ L j));have PB:=hid (il_ 89 89 (W9) PF.out htb (aK_ L j));have PC:=hid (ik_ 89 89 (W9) PF.out htb (aK_ L j));have k0:=(KK.out _ (Below.refl _ _)).1;have k1:=(KK.out _ (Below.refl _ _)).2
    go_region_held3 (fun w'=>w'.cell? ⟨w.heap.size+1,1,none⟩=some (.slice at' tl.length ct)∧w'.cell? ⟨w.heap.size+1+1+1,1,none⟩=some (.string (aK_ L j)))
     (first|(with_reducible exact KS.out _ _ HX2.out)|(with_reducible exact KK.out _ HX2.out)|(with_reducible exact KK.out _ HX1.out)|go_keep)
     (first
      | ((with_reducible show (if Region.wanted _ _=true then Oper.wp _ _ _ ((W9).alloc (.cells #[] 9)).drew _ _ else _));refine ah_ (by rfl) _ _ _ (by rfl) (by rfl) (by rfl) PA.out ?_;rintro v1 w1 ⟨hx1,hA2⟩;have HX1:=hid hx1;have A2:=hid hA2;have qq:=KK.out _ hx1;have q0:=qq.1;have q1:=qq.2;clear hx1 hA2 qq)
      | ((with_reducible show (if Region.wanted _ _=true then Oper.wp _ _ _ (((W9).alloc (.cells #[] 9)).alloc (.cells #[.string (aK_ L j)] 9)).drew _ _ else _));refine ah_ (by rfl) _ _ _ (by rfl) (by rfl) (by rfl) PB.out ?_;rintro v1 w1 ⟨hx1,hA2⟩;have HX1:=hid hx1;have A2:=hid hA2;have qq:=KK.out _ hx1;have q0:=qq.1;have q1:=qq.2;clear hx1 hA2 qq)
      | ((with_reducible show (if Region.wanted _ _=true then Oper.wp _ _ _ (((W9).alloc (.cells #[.string (aK_ L j)] 9)).alloc (.cells #[] 9)).drew _ _ else _));refine ah_ (by rfl) _ _ _ (by rfl) (by rfl) (by rfl) PC.out ?_;rintro v1 w1 ⟨hx1,hA2⟩;have HX1:=hid hx1;have A2:=hid hA2;have qq:=KK.out _ hx1;have q0:=qq.1;have q1:=qq.2;clear hx1 hA2 qq)
      | (refine ah_ (by rfl) _ _ _ (by rfl) (by rfl) (by rfl) A2.out ?_;rintro v2 w2 ⟨ho2,hx2⟩;obtain⟨a2,c2,hv2⟩:=aL_ ho2;rw[List.length_append,List.length_singleton] at hv2;subst hv2;have km2:=KM.out.low hx2;have mc:=km2.c1;have mf:=km2.fr 1;have HO2:=hid ho2;have HX2:=hid hx2;have qr:=KK.out _ hx2;have q2:=qr.1;have q3:=qr.2;clear ho2 hx2 km2 qr))
    all_goals
     go_wp2_with fail
     go_meet
     exact f8_.mk HO2.out HX2.out
   obtain⟨vT,wT,rfl,ho2,hx2⟩:=hcut;have F5:=hid ((F4.out.low hx2).set1 vT);have L2:Hid (cD_ w.heap.size (wT.setCell ⟨w.heap.size+1+1+1+1,1,none⟩ vT) vT (tl++[aK_ L j])):=hid ((cD_.of_own (m:=w.heap.size) ho2 (by have h1:=SE5.out.1;have h2:=HL5.out;omega) F4.out.lt).set 1 vT (by omega) (by omega));have L3:Hid (cD_ w.heap.size (wT.setCell ⟨w.heap.size+1+1+1+1,1,none⟩ vT) vF (fr++[t.name])):=hid ((L1.out.low hx2).set 1 vT (by omega) (by omega));clear KK KS KM PF ho2 hx2 L1;generalize wT.setCell ⟨w.heap.size+1+1+1+1,1,none⟩ vT=W10 at *;have KT5:=hid F5.out.kt;have KR5:=hid F5.out.kr;have KM5:=hid F5.out.km;have HF5:=hid (L3.out.no (O:=w.heap.size+1+1+1) (by omega) (by omega));have HT5:=hid (L2.out.no (O:=w.heap.size+1+1+1) (by omega) (by omega));have HB5:=hid ((cD_.of_low HB.out F5.out.hz).no (O:=w.heap.size+1+1+1) (by omega) (by omega));have BW5:=hid F5.out.hz;have N5:Hid (w.heap.size+1+1+1+1<W10.heap.size):=hid (by have:=F5.out.lt;omega);have I5:Hid (dS_ noS (w.heap.size+1+1+1) W10.heap.size W10 W10 t.kind (aK_ L j) t.n (.slice none 0 0) [] []):=hid ⟨F5.out.ko,.nil _ _ _,.refl _ _ _⟩;clear F5 F4 F3 F2 FRr FR BH L2 L3 DSH DC CH HSP HF HT HB;go_wp2
   go_loopw [4,16] (fun kv iv wr=>∃ (i kk:Nat) (v:Value) (acc:List Ty) (svs:List Value),kv=.int .i64 kk∧iv=.int .i64 i∧i≤t.args.length∧cnL (aK_ L) but ((tl++[aK_ L j])).reverse (j+1) ((t.args.take i).map (dbT ((fr++[t.name])).reverse))=(acc,kk)∧dS_ noS (w.heap.size+1+1+1) (W10).heap.size (W10) wr t.kind (aK_ L j) t.n v acc svs) (fun _ iv _=>t.args.length - (intOf iv).toNat)
   case atStart=>exact⟨0,_,_,_,_,rfl,rfl,Nat.zero_le _,by simp[cnL],I5.out⟩
   case round =>
    obtain⟨i,kk,v,acc,svs,rfl,rfl,hil,hcn,hI⟩:=hrel;have z0:(0:Int)≤(i:Int):=(by omega);have n5:=N5.out;have hws:(W10).heap.size≤wr.heap.size:=hI.kp.size;have kt:R4 wr w.heap.size (.int .i64 t.kind) (.string t.name) (.int .i64 t.n) (.slice a t.args.length c):=(hI.kept (by omega) (by omega)).trans KT5.out;have km:R2 wr (w.heap.size+1+1+1+1) vF vT:=(hI.kept (by omega) (by omega)).trans KM5.out;have kr:R4 wr (w.heap.size+1+1) (.int .i64 0) (.string ⟨#[]⟩) (.int .i64 0) (.slice none 0 0):=(hI.kept (by omega) (by omega)).trans KR5.out;have ko:=hI.ko;have hBw:Below w.heap.size w wr:=((Kp.of_below BW5.out).trans (hI.kp.mono (n:=w.heap.size) (T':=fun _=>False) (by omega) (fun b hb e=>by omega)) (aA_ _) (fun _ _ e=>e)).to_below;have KO:=hid ko;have KR:=hid kr;have HI:=hid hI;have BW:=hid hBw;have t3:=kt.c3
    by_cases hi:i<t.args.length
    ·have z1:(i:Int)<(t.args.length:Int):=by omega
     obtain⟨b,off,a',cap',rfl,hb,hf,hs⟩:=AH.out.at_ hi;obtain⟨f0,f1,f2,f3⟩:=hf.keep (hBw.block b (HS.out b hb));have hm:=List.getElem_mem hi;have hkk:kk≤j+1+ag_ (t.args.take i)*(but.length+1):=by
      have:=q6_ (aK_ L) (fun _ _=>cQ_) but ((t.args.take i).map (dbT ((fr++[t.name])).reverse)) ((tl++[aK_ L j])).reverse (j+1);rw[hcn,k4_ _ (fun x hx=>SA.out x (List.mem_of_mem_take hx))] at this;exact this
     have hsx:=co_ t.args i hi;have hsy:=bu_ t.args (i+1);have hbd:kk+t.args[i].size*(but.length+1)≤100000000000000000:=by
      have h1:(ag_ (t.args.take i)+t.args[i].size)*(but.length+1)≤ag_ t.args*(but.length+1):=Nat.mul_le_mul_right _ (by omega);rw[Nat.add_mul] at h1;have:=SE5.out.2;omega
     have CC:=fun (W:World) (hW:Below wr.heap.size wr W)=>IH.out _ hm S a' cap' W vF vT vb ((fr++[t.name])) ((tl++[aK_ L j])) kk (hs.keep fun b hS=>(hBw.trans (hW.mono hBw.size)).block b (HS.out b hS)) (fun b hS=>aU_ (HS.out b hS) (bL_ hBw.size hW.size)) (SA.out _ hm) ((HF5.out.kp hI.kp).low hW) ((HT5.out.kp hI.kp).low hW) HL5.out ((HB5.out.kp hI.kp).low hW) (by have:=SE5.out.1;have:=a7_ _ hm;omega) hbd;have CA:=hid (CC wr.drew (Below.refl _ _).drew);have CB:=hid (CC (wr.alloc (.cells #[.int .i64 0,.string ⟨#[]⟩,.int .i64 0,.slice none 0 0] 43)).drew ((aq_ _ _).drew));have ST:=hid (lD_ (aK_ L) but ((tl++[aK_ L j])).reverse (j+1) (dbT ((fr++[t.name])).reverse) t.args i hi);have hyk:(cnT (aK_ L) but ((tl++[aK_ L j])).reverse kk (dbT ((fr++[t.name])).reverse t.args[i])).2≤100000000000000000:=by
      have:=qp_ (aK_ L) (fun _ _=>cQ_) but (dbT ((fr++[t.name])).reverse t.args[i]) ((tl++[aK_ L j])).reverse kk;rw[bt_ _ (SA.out _ hm)] at this;omega
     have hal:acc.length≤1000000000000:=by
      have h1:=eM_ (aK_ L) but ((t.args.take i).map (dbT ((fr++[t.name])).reverse)) ((tl++[aK_ L j])).reverse (j+1);rw[hcn] at h1;simp only[List.length_map,List.length_take] at h1;have:=aZ_ t.args;have:=SE5.out.1;omega
     have CN:=hid hcn;have m0:=km.c0;have m1:=km.c1;have o3:=ko.c3;have hzr:Below wr.heap.size wr (wr.alloc (.cells #[.int .i64 0,.string ⟨#[]⟩,.int .i64 0,.slice none 0 0] 43)):=aq_ _ _;obtain⟨ff0,ff1,ff2,ff3⟩:=hf.keep ((hBw.trans (hzr.mono hBw.size)).block b (HS.out b hb));have tt3:=(kt.low hzr).c3;have mm0:=(km.low hzr).c0;have mm1:=(km.low hzr).c1;unfold tv at CA CB;clear hf hs hBw hm hb hI kt km kr ko hcn hkk hsx hsy hbd CC hzr;generalize t.args[i]=x at *;generalize hr:cnT (aK_ L) but ((tl++[aK_ L j])).reverse kk (dbT ((fr++[t.name])).reverse x)=r at *;obtain⟨y,k2⟩:=r;have HR:=hid hr;simp only at hyk;clear hr
     go_upto_region 23 with fail
     go_cut [17,18] from 107 to 118 (fun xp kv wx=>dn_ wr y k2 xp kv wx)
     case first =>
      go_region_law (first
       | (go_simp;go_at_call 43;(with_reducible refine CA.out.mono ?_);rintro e w4 ⟨a4,c4,rfl,hA4,hB4⟩;have HB4:Hid (Below wr.heap.size wr w4):=hid ((Below.refl _ _).drew.trans hB4);have HA4:Hid (aa_ (In wr.heap.size w4.heap.size) w4 (.slice a4 y.args.length c4) y.args):=hid hA4;clear hA4 hB4;unfold tv)
       | (go_simp;go_at_call 43;(with_reducible refine CB.out.mono ?_);rintro e w4 ⟨a4,c4,rfl,hA4,hB4⟩;have k9:=R4.low ((R4.new wr (.int .i64 0) (.string ⟨#[]⟩) (.int .i64 0) (.slice none 0 0)).low (Below.refl _ _).drew) hB4;have s0:=k9.c0;have s1:=k9.c1;have s2:=k9.c2;have s3:=k9.c3;have g0:=k9.fr 0;have g1:=k9.fr 1;have g2:=k9.fr 2;have g3:=k9.fr 3;have K9:=hid k9;have HB4:Hid (Below wr.heap.size wr w4):=hid (((aq_ _ _).drew).trans (hB4.mono (by simp)));have HA4:Hid (aa_ (In (wr.heap.size+1) w4.heap.size) w4 (.slice a4 y.args.length c4) y.args):=hid (hA4.mono fun b hb=>And.intro (show wr.heap.size+1≤b from by have:=hb.1;simpa using this) hb.2);clear hA4 hB4 k9;unfold tv))
      all_goals
       go_wp2_with fail
       go_meet
       first
        | (with_reducible exact dn_.new HB4.out HA4.out)
        | (with_reducible exact dn_.old HB4.out HA4.out K9.out)
     obtain⟨bx,a4,c4,rfl,rfl,kx,hA4,hB4⟩:=hcut
     rename_i wx _
     obtain⟨x0,x1,x2,x3⟩:=kx.c03;have k4:=KO.out.low hB4;obtain⟨p0,p1,p2,p3⟩:=k4.c03;have p5:=(k4.low (aq_ _ (.cells #[.int .i64 y.kind,.string y.name,.int .i64 y.n,.slice a4 y.args.length c4] 43))).c3;have K4:=hid k4;have NV:Hid (v.ownBlock≠some (w.heap.size+1+1+1)):=hid (fun e=>by have:=(HI.out.row.own.lt _ e).1;omega);have PA:=hid ((HI.out.row.low hB4).push (bL_ hws hB4.size) hal (t:=y) (a:=a4) (c:=c4) (hA4.mono fun b hb=>⟨.inr (by have:=hb.1;omega),hb.2,fun e=>by have:=(HI.out.row.own.lt b e).2;have:=hb.1;omega⟩));have HB4:=hid hB4;clear hB4 kx k4 hA4 f0 f1 f2 f3 m0 m1 o3 t3 ff0 ff1 ff2 ff3 mm0 mm1 tt3;go_wp2_with (at_builtin;refine ec_ (by rfl) _ _ _ (by rfl) (by rfl) (by rfl) PA.out ?_;rintro v7 w7 ⟨hr7,hg7,hl7⟩;obtain⟨a7,c7,hv7⟩:=hr7.form;rw[List.length_append,List.length_singleton] at hv7;subst hv7;have g7:=(K4.out.grown hg7 NV.out).fr 3;have e7:=(K4.out.grown hg7 NV.out).c3;have HR7:=hid hr7;have HG7:=hid hg7;clear hr7 hg7);have HI8:=hid (HI.out.step (by omega) (fun b hb=>hb.elim) hws HB4.out HR7.out HG7.out);go_roundw
     case rel=>exact⟨i+1,k2,_,acc++[y],_,rfl,by go_num,by omega,by rw[ST.out,CN.out];simp only;rw[HR.out],HI8.out⟩
     case measure=>simp[intOf];omega
    ·obtain rfl:i=t.args.length:=by omega
     obtain⟨av,cv,hv⟩:=hI.row.form;subst hv;have hal:acc.length=t.args.length:=by
      have h1:=eM_ (aK_ L) but ((t.args.take t.args.length).map (dbT ((fr++[t.name])).reverse)) ((tl++[aK_ L j])).reverse (j+1);rw[hcn] at h1;simpa using h1
     have EL:=hid hal;rw[hal] at ko;have EE:Hid (cnT (aK_ L) but tl.reverse k (dbT fr.reverse t)=(.mk t.kind (aK_ L j) t.n acc,kk)):=hid (by
      rw[List.take_length] at hcn;rw[E5.out,hcn])
     have HI2:=hid hI;obtain⟨o0,o1,o2,o3⟩:=ko.c03;obtain⟨r0,r1,r2,r3⟩:=kr.c03;obtain⟨f0,f1,f2,f3⟩:=kr.f03;clear hI hBw kt km kr ko HI KO hal hcn;go_wp2;have q4:=KR.out.set4 (.int .i64 t.kind) (.string (aK_ L j)) (.int .i64 t.n) (.slice av t.args.length cv);have he:=HI2.out.end_ (w:=w) (fun b hb=>hb.elim) BW5.out (by omega) (by omega) (r:=w.heap.size+1+1) (by omega) (by omega) (.int .i64 t.kind) (.string (aK_ L j)) (.int .i64 t.n) (.slice av t.args.length cv);refine bodyPost_ret (v:=.tuple #[.agg #[.int .i64 t.kind,.string (aK_ L j),.int .i64 t.n,.slice av t.args.length cv],.int .i64 (kk:Int)]) (by simp[results,Tryz.results43,go_sem,q4.c0,q4.c1,q4.c2,q4.c3]) rfl ?_;rw[EE.out];refine⟨av,cv,?_,he.1.mono fun b hb=>hb.resolve_left (fun h=>h),he.2⟩;show _=Ending.returned (.tuple #[.agg #[.int .i64 t.kind,.string (aK_ L j),.int .i64 t.n,.slice av acc.length cv],.int .i64 (kk:Int)]);rw[EL.out]
theorem ps_ (L:ByteArray)(hL:L.size≤100)(but:List ByteArray):∀ t:Ty,eN_ L but t:=by
 intro t
 induction t using Ty.ind with
 | h t ih =>
  by_cases h1:t.kind=1
  ·exact pr_ L but t h1
  ·by_cases h5:t.kind=5
   ·exact pt_ L hL but t h5 ih
   ·exact me_ L but t h1 h5 ih
theorem dn_.at_ {wr w4:World}{y:Ty}{k2 bx:Nat}{a4:OA_}{c4:Nat}{u0 u1 u2 u3:Value}(hb:Below wr.heap.size wr w4)(hA:aa_ (fun b=>wr.heap.size≤b∧b<w4.heap.size∧b≠bx) w4 (.slice a4 y.args.length c4) y.args)(k:R4 w4 bx u0 u1 u2 u3)(hx:wr.heap.size≤bx):dn_ wr y k2 (.pointer (some ⟨bx,0,none⟩)) (.int .i64 (k2:Int)) ((((w4.setCell ⟨bx,0,none⟩ (.int .i64 y.kind)).setCell ⟨bx,1,none⟩ (.string y.name)).setCell ⟨bx,2,none⟩ (.int .i64 y.n)).setCell ⟨bx,3,none⟩ (.slice a4 y.args.length c4)) :=
 ⟨_,a4,c4,rfl,rfl,k.set4 _ _ _ _,(hA.keep fun b hb=>by
  have hne:b≠bx:=hb.2.2;rw[av_ _ _ _ _ hne,av_ _ _ _ _ hne,av_ _ _ _ _ hne,av_ _ _ _ _ hne]).mono fun b hb=>⟨hb.1,by have:=hb.2.1;simpa using this⟩,hb.set4 hx _ _ _ _⟩
theorem fi_:∀ t:Ty,Std t→Wf t:=by
 intro t
 induction t using Ty.ind with
 | h t ih =>
  intro h;obtain⟨hk,ha⟩:=(bb_ t).1 h;refine (a3_ t).2 ⟨?_,fun a hm=>ih a hm (ha a hm)⟩
  rcases hk with h|h|h|h|h
  ·exact .inl ⟨h.1,h.2.2⟩
  ·exact .inr (.inl ⟨h.1,h.2.2.1,h.2.2.2.1,h.2.2.2.2⟩)
  ·exact .inr (.inr (.inl h.1))
  ·exact .inr (.inr (.inr (.inl ⟨h.1,h.2.2.2⟩)))
  ·exact .inr (.inr (.inr (.inr ⟨h.1,h.2.2⟩)))
theorem jh_ (L:ByteArray)(hL:L.size≤100)(but:List ByteArray)(t:Ty)(a:OA_)(c:Nat)(vb:Value)(W:World)(hA:AtW t a c W)(hs:Std t)(hb:bc_ W vb but)(hsz:t.size*(but.length+1)≤100000000000000000)(hsz2:t.size≤1000000000000) :
  Calls Tryz.prog 43 #[.agg #[.int .i64 t.kind,.string t.name,.int .i64 t.n,.slice a t.args.length c],.agg #[.slice none 0 0,.slice none 0 0],.string L,vb,.int .i64 0] W (lL_ W (cnT (aK_ L) but [] 0 (dbT [] t))) :=
 ps_ L hL but t _ a c W _ _ vb [] [] 0 hA (fun _ h=>h) hs (dX_ W) (dX_ W) rfl hb (by simpa using hsz2) (by simpa using hsz)
end
section
open Lx
theorem sE_ (f:Nat→ByteArray)(free:List ByteArray):∀ (t:Ty) (env env':List ByteArray) (k:Nat),env'.length=env.length→Std t→Std (cnT f free env' k (dbT env t)).1:=by
 intro t
 induction t using Ty.ind with
 | h t ih =>
  have hl:∀ (l:List Ty) (env env':List ByteArray) (k:Nat),env'.length=env.length→(∀ a∈l,a∈t.args∧Std a)→(cnL f free env' k (l.map (dbT env))).1.length=l.length∧∀ a∈(cnL f free env' k (l.map (dbT env))).1,Std a:=by
   intro l
   induction l with
   | nil=>intro env env' k _ _;exact⟨rfl,fun a ha=>by simp[cnL] at ha⟩
   | cons b l ihl =>
    intro env env' k he h;rw[List.map_cons,cnL];obtain⟨h1,h2⟩:=ihl env env' (cnT f free env' k (dbT env b)).2 he fun c hc=>h c (by simp[hc]);refine⟨by simp[h1],fun a ha=>?_⟩
    rcases List.mem_cons.1 ha with rfl|ha
    ·exact ih b (h b (by simp)).1 env env' k he (h b (by simp)).2
    ·exact h2 a ha
  intro env env' k he hs
  by_cases h5:t.kind=5
  ·rw[aP_ _ _ h5,oz_]
   obtain⟨h1,h2⟩:=hl t.args (t.name :: env) (f (nx f free k) :: env') (nx f free k+1) (by simp[he]) fun a ha=>⟨ha,hs.args a ha⟩;exact (bb_ _).2 ⟨.inr (.inr (.inr (.inr ⟨rfl,rfl,h1.trans (hs.k5 h5).2⟩))),h2⟩
  ·by_cases h1:t.kind=1
   ·rw[a0_ _ _ h1,(hs.k1 h1).1]
    unfold c9_;cases hi:ixN env t.name with
    | none =>
     simp only;rw[di_ _ _ _ _ _ _ _ _ (by decide) (by decide)];exact (bb_ _).2 ⟨.inl ⟨rfl,rfl,rfl⟩,fun a ha=>by simp[cnL,Ty.args] at ha⟩
    | some i =>
     simp only;rw[cnT,if_pos rfl];exact (bb_ _).2 ⟨.inl ⟨rfl,rfl,rfl⟩,fun a ha=>by simp[Ty.args] at ha⟩
   ·have hk:=hs.kind
    rw[az_ _ _ h1 h5,di_ _ _ _ _ _ _ _ _ (by omega) h5];obtain⟨a1,a2⟩:=hl t.args env env' k he fun a ha=>⟨ha,hs.args a ha⟩;exact eB_ hs _ a1 a2
theorem cT_ (nm:ByteArray)(u t:Ty)(ht:Std t):Std (cU_ nm u t):=sE_ _ _ t [] [] 0 rfl ht
theorem lJ_ (nm:ByteArray)(u t:Ty)(ht:Std t):(cU_ nm u t).size=t.size:=by
 rw[← bt_ _ (cT_ nm u t ht) [],iN_ nm u t ht,bt_ t ht []]
theorem pD_ (nm:ByteArray)(u t:Ty)(ht:Std t):dbT [] (cI_ nm u t)=sbT (eR_ nm) (dbT [] u) (dbT [] t):=by
 unfold cI_;rw[t1_ (eR_ nm) u (fun s n=>by simp[bO_]) (fun s n=>by simp[bO_]) _ [] (cT_ nm u t ht) (iM_ (fun s h=>⟨h.2,by
  rw[bO_,Bool.and_eq_false_iff]
  right
  rw[← Bool.not_eq_true,aN_];exact h.1⟩) _ (jS_ nm u t)) (fun x hx=>by cases hx),iN_ nm u t ht]
theorem nD_ (m:Int)(u t:Ty)(ht:Std t):dbT [] (b1_ m u t)=sbT (bE_ m) (dbT [] u) (dbT [] t):=by
 unfold b1_;rw[t1_ (bE_ m) u (fun s n=>by simp[df_]) (fun s n=>by simp[df_]) _ [] (cT_ emp u t ht) (iM_ (fun s h=>⟨h.2,by simp[df_]⟩) _ (jS_ emp u t)) (fun x hx=>by cases hx),iN_ emp u t ht]
theorem jn_ (nm:ByteArray)(u t:Ty)(ht:Std t)(hu:Std u):Std (cI_ nm u t):=qQ_ _ _ hu _ (cT_ nm u t ht)
theorem hI_ (m:Int)(u t:Ty)(ht:Std t)(hu:Std u):Std (b1_ m u t):=qQ_ _ _ hu _ (cT_ emp u t ht)
end
section
open Go.RowKit
structure eZ_ (w W:World)(t u:Ty)(a ua:OA_)(c uc:Nat):Prop where
 hz:Below w.heap.size w W
 lt:w.heap.size+3≤W.heap.size
 kt:R4 W w.heap.size (.int .i64 t.kind) (.string t.name) (.int .i64 t.n) (.slice a t.args.length c)
 ku:R4 W (w.heap.size+1) (.int .i64 u.kind) (.string u.name) (.int .i64 u.n) (.slice ua u.args.length uc)
 kr:R4 W (w.heap.size+1+1) (.int .i64 0) (.string ⟨#[]⟩) (.int .i64 0) (.slice none 0 0)
theorem eZ_.low {w W W':World}{t u:Ty}{a ua:OA_}{c uc:Nat}(h:eZ_ w W t u a ua c uc)(hb:Below W.heap.size W W'):eZ_ w W' t u a ua c uc :=
 ⟨h.hz.trans (hb.mono h.hz.size),bL_ h.lt hb.size,h.kt.low hb,h.ku.low hb,h.kr.low hb⟩
theorem eZ_.new (w:World)(t u:Ty)(a ua:OA_)(c uc:Nat):eZ_ w (((w.alloc (.cells #[.int .i64 t.kind,.string t.name,.int .i64 t.n,.slice a t.args.length c] 43)).alloc (.cells #[.int .i64 u.kind,.string u.name,.int .i64 u.n,.slice ua u.args.length uc] 43)).alloc (.cells #[.int .i64 0,.string ⟨#[]⟩,.int .i64 0,.slice none 0 0] 43)) t u a ua c uc:=by
 obtain⟨h0,h1,h2,h3,h4,h5⟩:=oJ_ w (.cells #[.int .i64 t.kind,.string t.name,.int .i64 t.n,.slice a t.args.length c] 43) (.cells #[.int .i64 u.kind,.string u.name,.int .i64 u.n,.slice ua u.args.length uc] 43) (.cells #[.int .i64 0,.string ⟨#[]⟩,.int .i64 0,.slice none 0 0] 43) (.cells #[.int .i64 0,.string ⟨#[]⟩,.int .i64 0,.slice none 0 0] 43);have k:∀ b,b<w.heap.size+3→((((w.alloc (.cells #[.int .i64 t.kind,.string t.name,.int .i64 t.n,.slice a t.args.length c] 43)).alloc (.cells #[.int .i64 u.kind,.string u.name,.int .i64 u.n,.slice ua u.args.length uc] 43)).alloc (.cells #[.int .i64 0,.string ⟨#[]⟩,.int .i64 0,.slice none 0 0] 43)).alloc (.cells #[.int .i64 0,.string ⟨#[]⟩,.int .i64 0,.slice none 0 0] 43)).heap[b]? = (((w.alloc (.cells #[.int .i64 t.kind,.string t.name,.int .i64 t.n,.slice a t.args.length c] 43)).alloc (.cells #[.int .i64 u.kind,.string u.name,.int .i64 u.n,.slice ua u.args.length uc] 43)).alloc (.cells #[.int .i64 0,.string ⟨#[]⟩,.int .i64 0,.slice none 0 0] 43)).heap[b]? := fun b hb=>heap_alloc_old _ _ (by simp;omega);exact⟨((aq_ _ _).alloc (by simp) _).alloc (by simp;omega) _,by simp,(k _ (by omega)).symm.trans h2,(k _ (by omega)).symm.trans h3,(k _ (by omega)).symm.trans h4⟩
theorem eZ_.set {w W:World}{t u:Ty}{a ua:OA_}{c uc:Nat}(h:eZ_ w W t u a ua c uc)(v0 v1 v2 v3:Value) :
  let W':=(((W.setCell ⟨w.heap.size+1+1,0,none⟩ v0).setCell ⟨w.heap.size+1+1,1,none⟩ v1).setCell ⟨w.heap.size+1+1,2,none⟩ v2).setCell ⟨w.heap.size+1+1,3,none⟩ v3
  R4 W' w.heap.size (.int .i64 t.kind) (.string t.name) (.int .i64 t.n) (.slice a t.args.length c)∧R4 W' (w.heap.size+1) (.int .i64 u.kind) (.string u.name) (.int .i64 u.n) (.slice ua u.args.length uc)∧R4 W' (w.heap.size+1+1) v0 v1 v2 v3∧Below w.heap.size w W':=by
 intro W';have k:∀ b,b≠w.heap.size+1+1→W'.heap[b]? = W.heap[b]? := fun b hb=>by
  show ((((W.setCell ⟨w.heap.size+1+1,0,none⟩ v0).setCell ⟨w.heap.size+1+1,1,none⟩ v1).setCell ⟨w.heap.size+1+1,2,none⟩ v2).setCell ⟨w.heap.size+1+1,3,none⟩ v3).heap[b]? = _;rw[av_ _ _ _ _ hb,av_ _ _ _ _ hb,av_ _ _ _ _ hb,av_ _ _ _ _ hb]
 exact⟨(k _ (by omega)).trans h.kt,(k _ (by omega)).trans h.ku,h.kr.set4 _ _ _ _,h.hz.set4 (by omega) _ _ _ _⟩
theorem AtW.set {B:Nat}{W:World}{y:Ty}{a:OA_}{c:Nat}(h:aa_ (fun b=>b<W.heap.size∧b≠B) W (.slice a y.args.length c) y.args)(v0 v1 v2 v3:Value):AtW y a c ((((W.setCell ⟨B,0,none⟩ v0).setCell ⟨B,1,none⟩ v1).setCell ⟨B,2,none⟩ v2).setCell ⟨B,3,none⟩ v3) :=
 (h.keep fun b hb=>by
  have hne:b≠B:=hb.2;rw[av_ _ _ _ _ hne,av_ _ _ _ _ hne,av_ _ _ _ _ hne,av_ _ _ _ _ hne]).mono fun b hb=>by
   show b < _;have:=hb.1;simpa using this
theorem oE_ (ty:TypeId){W wy:World}{b:Nat}{v:Value}{nm:ByteArray}{l:List ByteArray}(hb:Below W.heap.size W wy)(h1:wy.heap[b]? = some (.cells #[.string nm] 9 (0,0)))(hWb:W.heap.size≤b)(h:bc_ wy v l) :
  ∃ v1 w1,(Builtin.append_ #[89,89] ty #[.slice (some ⟨b,0,none⟩) 1 1,v]).run Tryz.prog wy=.ok v1 w1∧w1.ownsRow W.heap.size 9 1 v1 (nm :: l).length ((nm :: l).map Value.string)∧Below W.heap.size W w1 :=
 d9_ (wi:=W) (wy:=wy) (lo:=W.heap.size) (l1:=[nm]) ty ⟨by simp,.inr ⟨b,1,#[.string nm],rfl,hWb,h1,aA_ _,by unfold maxLen;omega,by simp,by simp⟩⟩ h hb (aA_ _) hb.size (by simp) rfl
theorem sG_ (ty:TypeId){W wy:World}{v1 v:Value}{l1 l:List ByteArray}(hb:Below W.heap.size W wy)(h1:wy.ownsRow W.heap.size 9 1 v1 l1.length (l1.map Value.string))(hl:l1.length≤1099511627776)(h:bc_ wy v l) :
  ∃ v2 w2,(Builtin.append_ #[89,89] ty #[v1,v]).run Tryz.prog wy=.ok v2 w2∧w2.ownsRow W.heap.size 9 1 v2 (l1++l).length ((l1++l).map Value.string)∧Below W.heap.size W w2 :=
 d9_ (wi:=W) (wy:=wy) (lo:=W.heap.size) ty h1 h hb (aA_ _) hb.size hl rfl
def us_ (W:World)(l:List ByteArray)(s:Value)(wx:World):Prop:=bc_ wx s l∧Below W.heap.size W wx
end
end Go.Proofs.YtjecnionbjlncaaGreatDoor.Tp

/- Packed. -/
import Derived.Test.YtjecnionbjlncaaGreatDoorP11
set_option maxRecDepth 100000
set_option maxHeartbeats 6400000
namespace Go.Proofs.YtjecnionbjlncaaGreatDoor.Tp
open Go.RowKit Go.Sort
def hS_ (b:Ty):List UInt8:=if b.kind=5 then 32 :: (al_ b).drop 7 else [46,32]++al_ b
theorem ki_ (t b:Ty)(hk:t.kind=5)(ha:t.args=[b]):al_ t=eg_++t.name.data.toList++hS_ b:=by
 rw[bL_,hk,ha];rfl
theorem og_ (b c:Ty)(hk:b.kind=5)(ha:b.args=[c]):hS_ b=32 :: (b.name.data.toList++hS_ c):=by
 unfold hS_;rw[if_pos hk,ki_ b c hk ha];rfl
theorem jv_ (b:Ty)(hk:b.kind≠5):hS_ b=[46,32]++al_ b:=by
 unfold hS_;rw[if_neg hk]
theorem _root_.Go.RowKit.Below.set4 {n:Nat}{w w1:World}(h:Below n w w1){b:Nat}(hb:n≤b)(v0 v1 v2 v3:Value) :
  Below n w ((((w1.setCell ⟨b,0,none⟩ v0).setCell ⟨b,1,none⟩ v1).setCell ⟨b,2,none⟩ v2).setCell ⟨b,3,none⟩ v3) :=
 (((h.setCell (p:=⟨b,0,none⟩) hb v0).setCell (p:=⟨b,1,none⟩) hb v1).setCell (p:=⟨b,2,none⟩) hb v2).setCell (p:=⟨b,3,none⟩) hb v3
theorem mX_ {l:List Ty}(h:l.length=1):∃ x,l=[x]:=by
 match l,h with
 | [x],_=>exact⟨x,rfl⟩
theorem rw_ {S:Nat→Prop}{w:World}{a:OA_}{c:Nat}{t x:Ty}(h:aa_ S w (.slice a t.args.length c) t.args)(hx:t.args=[x]):∃ b off a' c',a=some ⟨b,off,none⟩∧S b ∧
  ry_ w b off (.int .i64 x.kind) (.string x.name) (.int .i64 x.n) (.slice a' x.args.length c')∧aa_ S w (.slice a' x.args.length c') x.args:=by
 obtain⟨b,off,a',c',e,hb,hf,ha⟩:=h.at_ (i:=0) (by rw[hx];simp);simp only[hx,List.getElem_cons_zero,Nat.zero_mul,Nat.add_zero] at hf ha;exact⟨b,off,a',c',e,hb,hf,ha⟩
theorem mJ_ (t:Ty)(hk:t.kind=5)(x:Ty)(hx:t.args=[x])(ih:∀ u:Ty,u.depth<t.depth→b5_ u):b5_ t:=by
 intro S a c w hA hS hw hl ht;have hz:=aw_ w (.cells #[.int .i64 t.kind,.string t.name,.int .i64 t.n,.slice a t.args.length c] 37);have hwf:=(bK_ t).1 hw;have hwx:Wf x:=hwf.2 x (by rw[hx];simp);have hdx:x.depth<t.depth:=by rw[t.depth_eq,hx];simp[ar_]
 have E:al_ t=eg_++t.name.data.toList++hS_ x:=ki_ t x hk hx;obtain⟨b,off,a0,p0,rfl,hb,hf,hs0⟩:=rw_ hA hx;obtain⟨f0,f1,f2,f3⟩:=hf.keep (hz.block b (hS b hb));have b4:=B4.new w (.int .i64 t.kind) (.string t.name) (.int .i64 t.n) (.slice (some ⟨b,off,none⟩) t.args.length c);have c0:=b4.c0;have c1:=b4.c1;have c3:=b4.c3;have hbl:=hS b hb;have hln:t.args.length=1:=by rw[hx];rfl
 have hsz:(eg_++t.name.data.toList).length≤4500000000000:=by rw[E] at hl;rw[List.length_append] at hl;omega
 have hsn:t.name.size≤4500000000000:=by rw[List.length_append] at hsz;have:t.name.data.toList.length=t.name.size:=rfl;omega
 have b4s:=hid (B4.new (w.alloc (.cells #[.int .i64 t.kind,.string t.name,.int .i64 t.n,.slice (some ⟨b,off,none⟩) t.args.length c] 37)) (.int .i64 x.kind) (.string x.name) (.int .i64 x.n) (.slice a0 x.args.length p0));have G0:=hid (hz.alloc hz.size (.cells #[.int .i64 x.kind,.string x.name,.int .i64 x.n,.slice a0 x.args.length p0] 37));have IH:=hid ih;have HS:=hid hS;have HT:=hid ht;have HL:=hid hl;have HE:=hid E;have HW:=hid hwx;have HDX:=hid hdx;have HA0:=hid hs0;unfold tv;rw[hln,hk] at f0 f1 f2 f3 c0 c1 c3 b4s G0 ⊢;clear hA hw hl ht E hz hwf hwx hdx hf hs0 hS b4 ih hx hln hk hsz;go_enter Tryz.func42,Tryz.ntmps42;go_wp2
 go_loopg [6] x.depth (fun gk wv wr=>∃ (s:List UInt8) (u:Ty) (a:OA_) (p:Nat),wv=.string (ab_ s)∧al_ t=s++hS_ u∧gk=u.depth∧u.depth<t.depth∧Wf u ∧
  B4 wr (w.heap.size+1) (.int .i64 u.kind) (.string u.name) (.int .i64 u.n) (.slice a u.args.length p)∧aa_ S wr (.slice a u.args.length p) u.args∧Below w.heap.size w wr∧w.heap.size+2≤wr.heap.size)
 case atStart =>
  have g:=G0.out;exact⟨eg_++t.name.data.toList,x,a0,p0,rfl,HE.out,rfl,HDX.out,HW.out,by simpa using b4s.out,HA0.out.keep fun b hb=>g.block b (HS.out b hb),g,by simp⟩
 case round =>
  clear b4s G0 HA0 HDX HW HE f0 f1 f2 f3 c0 c1 c3;obtain⟨s,u,a,p,rfl,hE,rfl,hd,hw,k4,hA,hB,hsz⟩:=hrel;obtain⟨c0,c1,c2,c3⟩:=k4.c03;obtain⟨fr0,fr1,fr2,fr3⟩:=k4.f03;have hsl:(ab_ s).size≤4500000000000:=by rw[aU_];have:=HL.out;rw[hE,List.length_append] at this;omega
  have HB:=hid hB;have HE:=hid hE;have HW:=hid hw;have HA:=hid hA;have K4:=hid k4
  by_cases h5:u.kind=5
  ·have z5:(u.kind==5)=true:=by rw[beq_iff_eq];exact h5
   obtain⟨y,hy⟩:=mX_ (by rcases ((bK_ u).1 hw).1 with h|h|h|h|h<;>first|omega|exact h.2:u.args.length=1);have hwy:Wf y:=((bK_ u).1 hw).2 y (by rw[hy];simp);have hdy:y.depth<u.depth:=by rw[u.depth_eq,hy];simp[ar_]
   have E2:al_ t=(s++(32 :: u.name.data.toList))++hS_ y:=by rw[hE,og_ u y h5 hy];simp
   obtain⟨b2,off2,a2,p2,rfl,hb2,⟨g0,g1,g2,g3⟩,hs2⟩:=rw_ hA hy;have hbl2:=HS.out b2 hb2;have hne:b2≠w.heap.size+1:=(by omega);have hln:u.args.length=1:=by rw[hy];rfl
   have hs3:(ab_ s).size+1+u.name.size≤4500000000000:=by
    rw[aU_];have:=HL.out;rw[E2,List.length_append,List.length_append,List.length_cons] at this;have:u.name.data.toList.length=u.name.size:=rfl;omega
   have E3:Hid (ab_ s++(⟨#[32]⟩++u.name)=ab_ (s++(32 :: u.name.data.toList))):=hid (by rw[← bt_,show ab_ (32 :: u.name.data.toList)=ab_ [32]++ab_ u.name.data.toList from by rw[bt_];rfl];rfl);have E2H:=hid E2;have HWY:=hid hwy;have HD:Hid (y.depth<u.depth∧u.depth<t.depth):=hid ⟨hdy,hd⟩;have HA2:=hid hs2;rw[hln] at c3;generalize ab_ s=sb at *;clear hE hw hA k4 hB E2 hwy hdy hd hs2 h5 hy hln;go_wp2;have k5:=K4.out.set4 (.int .i64 y.kind) (.string y.name) (.int .i64 y.n) (.slice a2 y.args.length p2);have B5:=(HB.out).set4 (b:=w.heap.size+1) (by omega) (.int .i64 y.kind) (.string y.name) (.int .i64 y.n) (.slice a2 y.args.length p2);go_roundg y.depth
   case measure=>exact HD.out.1
   case rel=>exact⟨s++(32 :: u.name.data.toList),y,a2,p2,by rw[← E3.out],E2H.out,rfl,by have:=HD.out;omega,HWY.out,k5,HA2.out.keep (fun b hb=>(B5.block b (HS.out b hb)).trans (HB.out.block b (HS.out b hb)).symm),B5,by simp;omega⟩
  ·have z5:(u.kind==5)=false:=by rw[beq_eq_false_iff_ne];exact h5
   have E2:al_ t=s++[46,32]++al_ u:=by rw[hE,jv_ u h5];simp
   have hlu:(ab_ s).size+2+(al_ u).length≤4500000000000:=by
    rw[aU_];have:=HL.out;rw[E2,List.length_append,List.length_append] at this;simp at this;omega
   have C:=hid (IH.out u hd S a p wr hA (fun b hb=>ba_ (HS.out b hb) hB.size) hw (by omega) (ag_ HT.out hB));have E3:Hid (ab_ s++⟨#[46,32]⟩++ab_ (al_ u)=ab_ (al_ t)):=hid (by rw[E2];show ab_ _++ab_ [46,32]++ab_ _=_;rw[bt_,bt_]);have hlu2:(ab_ s).size+2+(ab_ (al_ u)).size≤4500000000000:=by rw[aU_ (al_ u)];exact hlu
   generalize ab_ s=sb at *;clear hE hw hA k4 hB E2 hd h5 hlu;go_wp2_with fail;refine C.out.mono ?_;rintro e w1 ⟨rfl,hb1⟩;generalize ab_ (al_ u)=ub at *;go_wp2;go_ret;exact⟨by rw[← E3.out];rfl,HB.out.trans (hb1.mono HB.out.size)⟩
def clT (x:Ty):List UInt8:=da_ x.atomic (al_ x)
def c0_ (t:Ty)(i:Nat):List (List UInt8):=t.name.data.toList :: (t.args.take i).map clT
theorem hV_ (t:Ty)(hk:t.kind=3):al_ t=t.name.data.toList++(t.args.map clT).flatMap (fun x=>32 :: x):=by
 rw[bL_,hk];show t.name.data.toList++(t.args.zip (t.args.map al_)).flatMap (fun x=>32 :: da_ x.1.atomic x.2)=_;congr 1
 induction t.args with
 | nil=>rfl
 | cons a l ih=>simp only[List.map_cons,List.zip_cons_cons,List.flatMap_cons];rw[ih];rfl
theorem hw_ (t:Ty)(hk:t.kind=3):Lib.join (c0_ t t.args.length) [32]=al_ t:=by
 unfold c0_;rw[List.take_length,Lib.join_cons,hV_ t hk,Lib.joinTail,List.flatMap_def];rfl
theorem hb_ (t:Ty)(i:Nat)(h:i≤t.args.length):(c0_ t i).length=i+1:=by simp[c0_,Nat.min_eq_left h]
theorem kU_ (t:Ty)(i:Nat)(h:i<t.args.length):c0_ t (i+1)=c0_ t i++[clT t.args[i]]:=by
 unfold c0_;rw[List.take_succ_eq_append_getElem h,List.map_append];rfl
theorem pO_ (t:Ty)(hk:t.kind=3)(i:Nat)(h:i<t.args.length):(clT t.args[i]).length+1+t.args.length≤(al_ t).length+1:=by
 rw[hV_ t hk,List.length_append];generalize t.args=l at *;have:(clT l[i]).length+l.length≤((l.map clT).flatMap (fun x=>32 :: x)).length:=by
  induction l generalizing i with
  | nil=>simp at h
  | cons a l ih =>
   simp only[List.map_cons,List.flatMap_cons,List.length_append,List.length_cons];cases i with
   | zero =>
    have:l.length≤((l.map clT).flatMap (fun x=>32 :: x)).length:=by
     clear ih
     induction l with
     | nil=>simp
     | cons b l ih=>simp only[List.map_cons,List.flatMap_cons,List.length_append,List.length_cons];have:=ih (by simp);omega
    simp only[List.getElem_cons_zero];omega
   | succ i=>have:=ih i (by simpa using h);simp only[List.getElem_cons_succ];omega
 omega
theorem q8_ (t:Ty)(hk:t.kind=3):t.args.length≤(al_ t).length:=by
 rw[hV_ t hk,List.length_append]
 induction t.args with
 | nil=>simp
 | cons b l ih=>simp only[List.map_cons,List.flatMap_cons,List.length_append,List.length_cons] at *;omega
theorem mQ_ {w:World}{lo:Nat}{v:Value}{n:Nat}{acc:List (List UInt8)}(h:w.ownsRow lo 9 1 v n (bw_ acc))(h0:0<n) :
  ∃ g cap,v=.slice (some ⟨g,0,none⟩) n cap∧lo≤g∧g<w.heap.size∧n≤cap∧∀ (j:Nat) x,(acc.map ab_)[j]? = some x→w.cell? ⟨g,j,none⟩=some (.string x):=by
 rcases h.2 with ⟨rfl,e⟩|⟨g,cap,cur,rfl,hb,hg,h1,h2,h3,h4⟩
 ·omega
 ·refine⟨g,cap,rfl,hb,(Array.getElem?_eq_some_iff.1 hg).1,h1,fun i x hi=>?_⟩
  rw[List.getElem?_map] at hi;cases ha:acc[i]? with
  | none=>rw[ha] at hi;cases hi
  | some y =>
   rw[ha] at hi;simp only[Option.map_some,Option.some.injEq] at hi;subst hi;have hc:=h.cells (g:=g) rfl i (.string (ab_ y)) (by unfold bw_;rw[List.getElem?_map,ha];rfl);have hadd:∀ j,(⟨g,0,none⟩:Addr).add j=⟨g,j,none⟩:=fun j=>by unfold Addr.add;split<;>simp_all
   rw[hadd] at hc;exact hc
theorem mH_ (t:Ty)(hk:t.kind=3)(ih:∀ u∈t.args,b5_ u):b5_ t:=by
 intro S a c w hA hS hw hl ht;have hz:=aw_ w (.cells #[.int .i64 t.kind,.string t.name,.int .i64 t.n,.slice a t.args.length c] 37);have hwf:=(bK_ t).1 hw;have b4:=B4.new w (.int .i64 t.kind) (.string t.name) (.int .i64 t.n) (.slice a t.args.length c);have c0:=b4.c0;have c1:=b4.c1;have c3:=b4.c3;have hal:=q8_ t hk;have hn1:t.args.length≤4500000000000:=by omega
 have OW0:=hid (World.ownsRow_lit (base:=w.heap.size+1) (size:=1) (e:=9) (w.alloc (.cells #[.int .i64 t.kind,.string t.name,.int .i64 t.n,.slice a t.args.length c] 37)) #[.string t.name] 1 (by simp) (by unfold maxLen;omega) (by simp));have G0:=hid (hz.alloc hz.size (.cells #[.string t.name] 9));have CC:=hid (fun (i:Nat) (hi:i<t.args.length) (a':OA_) (c':Nat) (W:World) (hA':aa_ S W (.slice a' t.args[i].args.length c') t.args[i].args) (h:Below w.heap.size w W) =>
  hE_ t.args[i] (ih _ (List.getElem_mem hi)) S a' c' W hA' (fun b hb=>ba_ (hS b hb) h.size) (hwf.2 _ (List.getElem_mem hi)) (by have h1:=pO_ t hk i hi;have h2:(al_ t.args[i]).length≤(clT t.args[i]).length:=(by unfold clT da_;split<;>simp;omega);omega) (fun w' h'=>ag_ ht (h.trans (h'.mono h.size))) t.args[i].atomic)
 have HA:=hid hA;have HS:=hid hS;have HL:=hid hl;have HK:=hid hk;unfold tv;rw[hk] at c0 c1 c3 OW0 G0 ⊢;clear hA hw hl ht hz hwf hS b4 ih hk hal;go_enter Tryz.func42,Tryz.ntmps42;go_wp2
 go_loopw [3,24] (fun wv iv wr=>∃ i:Nat,iv=.int .i64 i∧i≤t.args.length∧wr.ownsRow (w.heap.size+1) 9 1 wv (i+1) (bw_ (c0_ t i))∧Below w.heap.size w wr∧w.heap.size+2≤wr.heap.size) (fun _ iv _=>t.args.length - (intOf iv).toNat)
 case atStart=>exact⟨0,rfl,Nat.zero_le _,by simpa [c0_,bw_,ab_] using OW0.out,G0.out,by simp⟩
 case round =>
  clear OW0 G0 c0 c1 c3;obtain⟨i,rfl,hi,hO,hB,hsz⟩:=hrel
  by_cases hlt:i<t.args.length
  ·have z0:(0:Int)≤(i:Int):=by omega
   have z1:(i:Int)<(t.args.length:Int):=(by omega);obtain⟨b,off,a',c',rfl,hb,hf,hs⟩:=HA.out.at_ hlt;have hbl:=HS.out b hb;obtain⟨f0,f1,f2,f3⟩:=hf.keep (hB.block b hbl);have HZ:=hid (hB.alloc (by omega) (.cells #[.int .i64 t.args[i].kind,.string t.args[i].name,.int .i64 t.args[i].n,.slice a' t.args[i].args.length c'] 37));have HZ0:=hid ((Below.refl (wr.alloc (.cells #[.int .i64 t.args[i].kind,.string t.args[i].name,.int .i64 t.args[i].n,.slice a' t.args[i].args.length c'] 37)).heap.size (wr.alloc (.cells #[.int .i64 t.args[i].kind,.string t.args[i].name,.int .i64 t.args[i].n,.slice a' t.args[i].args.length c'] 37))));have k4:=B4.new wr (.int .i64 t.args[i].kind) (.string t.args[i].name) (.int .i64 t.args[i].n) (.slice a' t.args[i].args.length c');have K4:=hid k4;have C1:=hid (fun (W:World)=>lD_ t.args[i] W a' c');have C2:=hid (fun (W:World) (h:Below w.heap.size w W)=>CC.out i hlt a' c' W (hs.keep (fun b hb=>h.block b (HS.out b hb))) h);have OW:=hid hO;have HB:=hid hB;have WA:=hid (kU_ t i hlt);have HW:=hid (hb_ t i (by omega));have hcl:=pO_ t HK.out i hlt;have hcs:(ab_ (clT t.args[i])).size≤4500000000000:=by rw[aU_];have:=HL.out;omega
   clear hO hB hs hf hcl k4;have OWL:=hid (fun (w1 w2:World) (h1:Below (wr.alloc (.cells #[.int .i64 t.args[i].kind,.string t.args[i].name,.int .i64 t.args[i].n,.slice a' t.args[i].args.length c'] 37)).drew.heap.size (wr.alloc (.cells #[.int .i64 t.args[i].kind,.string t.args[i].name,.int .i64 t.args[i].n,.slice a' t.args[i].args.length c'] 37)).drew w1) (h2:Below w1.heap.size w1 w2) =>
    aF_ OW.out (w':=w2) fun b hb=>(h2.block b (ba_ (Nat.lt_trans (OW.out.lt b hb).2 (by simp)) h1.size)).trans ((h1.block b (Nat.lt_trans (OW.out.lt b hb).2 (by simp))).trans (heap_alloc_old wr _ (OW.out.lt b hb).2)))
   obtain⟨i0,hi0,hz0,hz1,hz3⟩:=info_parts fN_;have hnb:u3.ownBlock≠some wr.heap.size:=fun e=>by have:=(OW.out.lt _ e).2;omega
   have HNB:=hid hnb;clear hnb;go_wp2_with fail;have KD:=hid (K4.out.low HZ0.out.drew);obtain⟨q0,q1,q2,q3⟩:=KD.out.c03
   go_region_held3 (fun w'=>w'.cell? ⟨wr.heap.size,0,none⟩=some (.int .i64 t.args[i].kind)∧w'.cell? ⟨wr.heap.size,1,none⟩=some (.string t.args[i].name)∧w'.cell? ⟨wr.heap.size,2,none⟩=some (.int .i64 t.args[i].n)∧w'.cell? ⟨wr.heap.size,3,none⟩=some (.slice a' t.args[i].args.length c'))
    (first|(have kk:=(((KD.out.low hb1).low hb2).low (aw_ _ _)).grown hgrow7 (fun e=>HNB.out e);exact⟨kk.c0,kk.c1,kk.c2,kk.c3⟩)|(have kk:=(KD.out.low hb1).low hb2;exact⟨kk.c0,kk.c1,kk.c2,kk.c3⟩)|(have kk:=KD.out.low hb1;exact⟨kk.c0,kk.c1,kk.c2,kk.c3⟩)|go_keep)
    (first
     | (go_at_call 80;refine (C1.out _).mono ?_;rintro e w1 ⟨rfl,hb1⟩)
     | (go_at_call 79;refine (C2.out _ (HZ.out.drew.trans (hb1.mono HZ.out.drew.size))).mono ?_;rintro e w2 ⟨rfl,hb2⟩)
     | ((refine step_append_lies _ (by rfl) _ _ _ (by rfl) (w.heap.size+1) 9 i0 _ 1 16 Tryz.underlying89 hi0 hz0 hz1 hz3 rfl (by omega) u3 (i+1) (bw_ (c0_ t i)) (by rfl) ((OWL.out _ _ hb1 hb2).alloc _) ⟨w2.heap.size,0,none⟩ 1 1 [.string (ab_ (clT t.args[i]))] (by rfl) (by rfl) (World.news_of_block (cs:=#[.string (ab_ (clT t.args[i]))]) (t:=9) (fr:=(0,0)) (heap_alloc_new w2 _)) (by simp[Value.oneCell']) (by omega) (by unfold maxLen;omega) (by omega) (by have:=hb1.size;have:=hb2.size;simp at *;omega) (w2.heap.size+1) (by simp) ?_;intro gg cap w7 hown7 hgrow7 hat7 hlt7)))
   have G7:Below w.heap.size w w7:=((HZ.out.drew.trans ((hb1.trans (hb2.mono hb1.size)).mono HZ.out.drew.size)).alloc (by have:=hb1.size;have:=hb2.size;simp at *;omega) _).grown hgrow7 (by have:=hb1.size;have:=hb2.size;simp at *;omega) (fun k e=>by have:=(OW.out.lt k e).1;omega);have O7:Hid (w7.ownsRow (w.heap.size+1) 9 1 (.slice (some ⟨gg,0,none⟩) (i+1+1) cap) (i+1+1) (bw_ (c0_ t (i+1)))):=hid (by rw[WA.out];unfold bw_ at *;rw[List.map_append];exact hown7);have G7H:=hid G7;have hs7:w.heap.size+2≤w7.heap.size:=by have:=hb1.size;have:=hb2.size;have:=hgrow7.size;simp at *;omega
   clear G7 hown7 hgrow7 hat7;go_wp2;go_roundw
   case rel=>exact⟨i+1,by go_num,by omega,O7.out,G7H.out,hs7⟩
   case measure=>simp[intOf];omega
  ·obtain rfl:i=t.args.length:=by omega
   obtain⟨g,cap,rfl,hlo,hg,hcap,hcells⟩:=mQ_ hO (by omega);have hwl:=hb_ t t.args.length (aC_ _);have hml:((c0_ t t.args.length).map ab_).length=t.args.length+1:=(by rw[List.length_map,hwl]);have hjn:((c0_ t t.args.length).map ab_).map (·.data.toList)=c0_ t t.args.length:=by rw[List.map_map];exact List.map_id _
   have CJ:=Tryz.strings_Join g 0 cap ((c0_ t t.args.length).map ab_) ⟨#[32]⟩ wr (fun j x hx=>by rw[Nat.zero_add];exact hcells j x hx) hg (by rw[hml];omega) (by rw[hml];exact hcap) (by rw[hjn,show ((⟨#[32]⟩:ByteArray).data.toList)=[32] from rfl,hw_ t HK.out];have:=HL.out;omega);rw[hml,hjn,show ((⟨#[32]⟩:ByteArray).data.toList)=[32] from rfl,hw_ t HK.out] at CJ;have CJ:=hid CJ;have HB:=hid hB;clear hO hB hcells hwl hml hjn;go_wp2_with fail;refine CJ.out.mono ?_;rintro e w1 ⟨rfl,hb1⟩;go_wp2;go_ret;exact⟨rfl,HB.out.trans (hb1.mono HB.out.size)⟩
end Go.Proofs.YtjecnionbjlncaaGreatDoor.Tp

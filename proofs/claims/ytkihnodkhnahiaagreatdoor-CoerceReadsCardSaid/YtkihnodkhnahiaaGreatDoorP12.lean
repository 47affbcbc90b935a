/- Packed. -/
import Derived.Test.YtkihnodkhnahiaaGreatDoorP11
import Derived.Deep.RegionWith
set_option maxRecDepth 100000
set_option maxHeartbeats 6400000
namespace Go.Proofs.YtkihnodkhnahiaaGreatDoor.Tp
section
open Go.RowKit
theorem pg_ (d:Nat)(fr to:ByteArray)(t x:Ty)(hk:t.kind=5)(hn:t.name=to)(hne:t.name≠fr)(hx:ew_ t=x) :
  cs_ (d+1) fr to t=cn_ (cU_ (bN_ to (aK_ x++[fr,to])) (cs_ d to (bN_ to (aK_ x++[fr,to])) x)) [cs_ d fr to (cs_ d to (bN_ to (aK_ x++[fr,to])) x)]:=by
 rw[cs_,if_neg (by rw[hk];simp),if_neg,if_pos (by rw[hk,hn,(aS_ _ _).2 rfl];rfl),hx]
 ·rfl
 ·intro h;simp only[Bool.and_eq_true] at h;exact hne ((aS_ _ _).1 h.2)
def rV_ (S:Nat→Prop)(y:Ty)(w:World)(e:Ending)(W2:World):Prop :=
 ∃ a c,e=.returned (tv y a c)∧ac_ (fun b=>S b∨w.heap.size+4≤b∧b<W2.heap.size) W2 (.slice a y.args.length c) y.args∧Below w.heap.size w W2∧B4 W2 (w.heap.size+3) (.int .i64 0) (.string ⟨#[]⟩) (.int .i64 0) (.slice none 0 0)
theorem og_ {S:Nat→Prop}{y:Ty}{w W2:World}{a:OA_}{c:Nat}(hS:∀ b,S b→b<w.heap.size)(hA:ac_ (fun b=>S b∨w.heap.size+4≤b∧b<W2.heap.size) W2 (.slice a y.args.length c) y.args)(hb:Below w.heap.size w W2) :
  TP S y w (.returned (tv y a c)) ((((W2.setCell ⟨w.heap.size+3,0,none⟩ (.int .i64 y.kind)).setCell ⟨w.heap.size+3,1,none⟩ (.string y.name)).setCell ⟨w.heap.size+3,2,none⟩ (.int .i64 y.n)).setCell ⟨w.heap.size+3,3,none⟩ (.slice a y.args.length c)):=by
 have hs:∀ b,b≠w.heap.size+3→((((W2.setCell ⟨w.heap.size+3,0,none⟩ (.int .i64 y.kind)).setCell ⟨w.heap.size+3,1,none⟩ (.string y.name)).setCell ⟨w.heap.size+3,2,none⟩ (.int .i64 y.n)).setCell ⟨w.heap.size+3,3,none⟩ (.slice a y.args.length c)).heap[b]? = W2.heap[b]? := fun b hb=>by
  rw[aM_ _ _ _ _ hb,aM_ _ _ _ _ hb,aM_ _ _ _ _ hb,aM_ _ _ _ _ hb]
 refine⟨a,c,rfl,(hA.keep fun b h=>hs b ?_).mono fun b h=>h.imp id fun h=>⟨by omega,by simpa using h.2⟩,hb.set4 (by omega) _ _ _ _⟩
 rcases h with h|h
 ·have:=hS b h;omega
 ·omega
theorem pX_ (d:Nat)(ih:hn_ d)(fr to fn:ByteArray)(y:Ty)(S:Nat→Prop)(w w9:World)(a9:OA_)(c9:Nat)(hg:cV_ y)(hd:y.depth≤d)(hs:y.size≤4499999999224)(hfr:fr.size≤64)(hto:to.size≤64)(hS:∀ b,S b→b<w.heap.size)(hT:Tab w)
  (hb:Below w.heap.size w w9) (hf:w9.heap[w.heap.size+1]? = some (.cells #[.string fr] 9 (0,0))) (ht:w9.heap[w.heap.size+2]? = some (.cells #[.string to] 9 (0,0))) (q4:B4 w9 (w.heap.size+3) (.int .i64 0) (.string ⟨#[]⟩) (.int .i64 0) (.slice none 0 0))
  (hA:ac_ (fun b=>S b∨w.heap.size+4≤b∧b<w9.heap.size) w9 (.slice a9 y.args.length c9) y.args) (hsz:w.heap.size+4≤w9.heap.size) :
  Calls Tryz.prog 39 #[.agg #[.int .i64 5,.string fn,.int .i64 0,.slice (some ⟨w9.heap.size,0,none⟩) 1 1],.func (.func 77) #[] #[.pointer (some ⟨w.heap.size+1,0,none⟩),.pointer (some ⟨w.heap.size+1+1,0,none⟩)]]
   (((((w9.alloc (.cells #[.int .i64 y.kind,.string y.name,.int .i64 y.n,.slice a9 y.args.length c9] 30)).setCell ⟨w.heap.size,0,none⟩ (.int .i64 5)).setCell ⟨w.heap.size,1,none⟩ (.string fn)).setCell ⟨w.heap.size,2,none⟩ (.int .i64 0)).setCell ⟨w.heap.size,3,none⟩ (.slice (some ⟨w9.heap.size,0,none⟩) 1 1))
   (rV_ S (cn_ (cU_ fn y) [cs_ d fr to y]) w):=by
 have hs10:∀ b,b≠w.heap.size→(((((w9.alloc (.cells #[.int .i64 y.kind,.string y.name,.int .i64 y.n,.slice a9 y.args.length c9] 30)).setCell ⟨w.heap.size,0,none⟩ (.int .i64 5)).setCell ⟨w.heap.size,1,none⟩ (.string fn)).setCell ⟨w.heap.size,2,none⟩ (.int .i64 0)).setCell ⟨w.heap.size,3,none⟩ (.slice (some ⟨w9.heap.size,0,none⟩) 1 1)).heap[b]? = (w9.alloc (.cells #[.int .i64 y.kind,.string y.name,.int .i64 y.n,.slice a9 y.args.length c9] 30)).heap[b]? := fun b hb=>by
  rw[aM_ _ _ _ _ hb,aM_ _ _ _ _ hb,aM_ _ _ _ _ hb,aM_ _ _ _ _ hb]
 have hb10:=(hb.alloc hb.size (.cells #[.int .i64 y.kind,.string y.name,.int .i64 y.n,.slice a9 y.args.length c9] 30)).set4 (aw_ w.heap.size) (.int .i64 5) (.string fn) (.int .i64 0) (.slice (some ⟨w9.heap.size,0,none⟩) 1 1);have hz10:(((((w9.alloc (.cells #[.int .i64 y.kind,.string y.name,.int .i64 y.n,.slice a9 y.args.length c9] 30)).setCell ⟨w.heap.size,0,none⟩ (.int .i64 5)).setCell ⟨w.heap.size,1,none⟩ (.string fn)).setCell ⟨w.heap.size,2,none⟩ (.int .i64 0)).setCell ⟨w.heap.size,3,none⟩ (.slice (some ⟨w9.heap.size,0,none⟩) 1 1)).heap.size=w9.heap.size+1:=by simp
 have hA10:ac_ (fun b=>S b∨w.heap.size+4≤b∧b<w9.heap.size+1) (((((w9.alloc (.cells #[.int .i64 y.kind,.string y.name,.int .i64 y.n,.slice a9 y.args.length c9] 30)).setCell ⟨w.heap.size,0,none⟩ (.int .i64 5)).setCell ⟨w.heap.size,1,none⟩ (.string fn)).setCell ⟨w.heap.size,2,none⟩ (.int .i64 0)).setCell ⟨w.heap.size,3,none⟩ (.slice (some ⟨w9.heap.size,0,none⟩) 1 1)) (.slice (some ⟨w9.heap.size,0,none⟩) 1 1) [y]:=by
  refine gA_ (g:=w9.heap.size) ((hs10 _ (by omega)).trans (heap_alloc_new w9 _)) rfl rfl rfl (.inr ⟨by omega,by omega⟩) ((hA.keep fun b hb2=>?_).mono fun b hb2=>hb2.imp id fun h=>⟨h.1,by omega⟩);have hlt:b<w9.heap.size∧b≠w.heap.size:=by
   rcases hb2 with h|h
   ·have:=hS b h;have:=hb.size;omega
   ·omega
  exact (hs10 b hlt.2).trans (heap_alloc_old w9 _ hlt.1)
 have qq:=(hs10 (w.heap.size+3) (by omega)).trans ((heap_alloc_old w9 _ (by omega)).trans q4);have hff:=cell_of_row _ _ 0 _ _ _ ((hs10 (w.heap.size+1) (by omega)).trans ((heap_alloc_old w9 _ (by omega)).trans hf));have htt:=cell_of_row _ _ 0 _ _ _ ((hs10 (w.heap.size+2) (by omega)).trans ((heap_alloc_old w9 _ (by omega)).trans ht));generalize (((((w9.alloc (.cells #[.int .i64 y.kind,.string y.name,.int .i64 y.n,.slice a9 y.args.length c9] 30)).setCell ⟨w.heap.size,0,none⟩ (.int .i64 5)).setCell ⟨w.heap.size,1,none⟩ (.string fn)).setCell ⟨w.heap.size,2,none⟩ (.int .i64 0)).setCell ⟨w.heap.size,3,none⟩ (.slice (some ⟨w9.heap.size,0,none⟩) 1 1))=W10 at *;have hSS:∀ b,(S b∨w.heap.size+4≤b∧b<w9.heap.size+1)→b<W10.heap.size:=fun b h=>by
  rcases h with h|h
  ·have:=hS b h;have:=hb.size;omega
  ·omega
 have CW:=gn_ 77 #[.pointer (some ⟨w.heap.size+1,0,none⟩),.pointer (some ⟨w.heap.size+2,0,none⟩)] hM_ noT noI (fun (_:Unit) x=>(cs_ d fr to x,())) (cU_ fn y) () (fun b=>S b∨w.heap.size+4≤b∧b<w9.heap.size+1) (some ⟨w9.heap.size,0,none⟩) 1 W10 trivial (fun _ _ _ _ _=>trivial) hA10 (fun b h=>⟨hSS b h,id⟩) (fun b hb=>hb.elim) (by simp[cU_,Ty.args])
  (fun i hi a' c' W _ hK hA'=>by
   have hi0:i=0:=by simp[cU_,Ty.args] at hi;exact hi
   subst hi0;exact (kX_ d ih fr to (w.heap.size+1) (w.heap.size+2) y _ a' c' W (((hK.to_below).cell (p:=⟨w.heap.size+1,0,none⟩) (by simp only;omega)).trans hff) (((hK.to_below).cell (p:=⟨w.heap.size+2,0,none⟩) (by simp only;omega)).trans htt)
    hg hd hs hfr hto hA' (fun b h=>aX_ (hSS b h) hK.size) (ag_ hT (hb10.trans (hK.to_below.mono hb10.size)))).mono fun e W' h=>h.post)
 rw[fl_] at CW;refine CW.mono fun e W2 ⟨a2,c2,he,hA2,_,hk2⟩=>⟨a2,c2,he,hA2.mono fun b h=>?_,hb10.trans (hk2.to_below.mono hb10.size),B4.low qq hk2.to_below⟩;have:=hk2.size
 rcases h with (h|h)|h
 ·exact .inl h
 ·exact .inr ⟨h.1,by omega⟩
 ·exact .inr ⟨by omega,h.2⟩
theorem qY_ (d:Nat)(ih:hn_ d)(fr to:ByteArray)(t:Ty)(S:Nat→Prop)(a:OA_)(c:Nat)(w:World)(hk:t.kind=5)(hn:t.name=to)(hne:t.name≠fr)(hg:cV_ t)(hd:t.depth≤d+1)(hs:t.size≤4499999999224)(hfr:fr.size≤64)(hto:to.size≤64)
  (hA:ac_ S w (.slice a t.args.length c) t.args) (hS:∀ b,S b→b<w.heap.size) (hT:Tab w) :
  Calls Tryz.prog 38 #[tv t a c,.string fr,.string to] w (TP S (cs_ (d+1) fr to t) w):=by
 obtain⟨x,hx,hx0⟩:=lw_ hg.1 hk;obtain⟨b,off,a0,p0,rfl,hb,hf4,hs0⟩:=rF_ hA hx;have hln:t.args.length=1:=by rw[hx];rfl
 have hx1:x∈t.args:=by rw[hx];simp
 have hwf:=(bq_ t).1 hg.1;have hnm:=(dm_ t).1 hg.2;have hgx:cV_ x:=⟨hwf.2 x hx1,hnm.2 x hx1⟩;have hdx:x.depth≤d:=by have:=aT_ _ hx1;rw[t.depth_eq] at hd;omega
 have hsx:x.size≤4499999999224:=by have:=cx_ _ hx1;rw[t.size_eq] at hs;omega
 have hto1:1≤to.size:=by rw[← hn];exact hnm.1.1 hk
 have hne2:to≠fr:=by rw[← hn];exact hne
 have R:=kW_ 5 to t.n (.slice (some ⟨b,off,none⟩) 1 c) fr to w;have hfl:=c7_ x;have hfs:=et_ to (aK_ x++[fr,to]) (by simp;omega) hto1;have E:=hid (pg_ d fr to t x hk hn hne hx0);have z2:=cB_ hne2;have e0:=cell_of_row _ _ 0 _ _ _ R.hf;have e1:=cell_of_row _ _ 0 _ _ _ R.ht;obtain⟨c0,c1,c2,c3⟩:=R.k4.c03;have hbl:=hS b hb;obtain⟨f0,f1,f2,f3⟩:=hf4.keep (R.hz.block b hbl);have CF:=hid (fun (W:World) (h:Below w.heap.size w W)=>fH_ x S a0 p0 W (hs0.keep fun b hb=>h.block b (hS b hb)) (fun b hb=>aX_ (hS b hb) h.size) (by omega));have RH:=hid R;have HT:=hid hT;have HS:=hid hS;unfold tv;rw[hln,hn,hk];clear hg hd hs hA hS hT hx hx0 hln hx1 hwf hnm hf4 R hk hn hne hne2;go_enter Tryz.func38,Tryz.ntmps38;go_wp2;have RD:=hid ((Below.refl ((((w.alloc (.cells #[.int .i64 5,.string to,.int .i64 t.n,.slice (some ⟨b,off,none⟩) 1 c] 30)).alloc (.cells #[.string fr] 9)).alloc (.cells #[.string to] 9)).alloc (.cells #[.int .i64 0,.string ⟨#[]⟩,.int .i64 0,.slice none 0 0] 30)).heap.size ((((w.alloc (.cells #[.int .i64 5,.string to,.int .i64 t.n,.slice (some ⟨b,off,none⟩) 1 c] 30)).alloc (.cells #[.string fr] 9)).alloc (.cells #[.string to] 9)).alloc (.cells #[.int .i64 0,.string ⟨#[]⟩,.int .i64 0,.slice none 0 0] 30))).drew);have RD2:=hid (((Below.refl ((((w.alloc (.cells #[.int .i64 5,.string to,.int .i64 t.n,.slice (some ⟨b,off,none⟩) 1 c] 30)).alloc (.cells #[.string fr] 9)).alloc (.cells #[.string to] 9)).alloc (.cells #[.int .i64 0,.string ⟨#[]⟩,.int .i64 0,.slice none 0 0] 30)).heap.size ((((w.alloc (.cells #[.int .i64 5,.string to,.int .i64 t.n,.slice (some ⟨b,off,none⟩) 1 c] 30)).alloc (.cells #[.string fr] 9)).alloc (.cells #[.string to] 9)).alloc (.cells #[.int .i64 0,.string ⟨#[]⟩,.int .i64 0,.slice none 0 0] 30))).alloc (aw_ _) (.cells #[.string fr,.string to] 9)).drew);have d0:=(RH.out.k4.low RD.out).c3;have SK:=hid (fun (W:World) (h:Below ((((w.alloc (.cells #[.int .i64 5,.string to,.int .i64 t.n,.slice (some ⟨b,off,none⟩) 1 c] 30)).alloc (.cells #[.string fr] 9)).alloc (.cells #[.string to] 9)).alloc (.cells #[.int .i64 0,.string ⟨#[]⟩,.int .i64 0,.slice none 0 0] 30)).heap.size ((((w.alloc (.cells #[.int .i64 5,.string to,.int .i64 t.n,.slice (some ⟨b,off,none⟩) 1 c] 30)).alloc (.cells #[.string fr] 9)).alloc (.cells #[.string to] 9)).alloc (.cells #[.int .i64 0,.string ⟨#[]⟩,.int .i64 0,.slice none 0 0] 30)) W)=>And.intro (RH.out.k4.low h).c3 (And.intro ((h.cell (p:=⟨w.heap.size+1,0,none⟩) (by simp<;>omega)).trans e0) (And.intro ((h.cell (p:=⟨w.heap.size+1+1,0,none⟩) (by simp<;>omega)).trans e1)
  (And.intro ((h.cell (p:=⟨b,off,none⟩) (by simp<;>omega)).trans f0) (And.intro ((h.cell (p:=⟨b,off+1,none⟩) (by simp<;>omega)).trans f1) (And.intro ((h.cell (p:=⟨b,off+2,none⟩) (by simp<;>omega)).trans f2) ((h.cell (p:=⟨b,off+3,none⟩) (by simp<;>omega)).trans f3)))))))
 obtain⟨i0,hi0,hz0,hz1,hz3⟩:=info_parts fo_
 go_region_held3 (fun w'=>w'.cell? ⟨w.heap.size,3,none⟩=some (.slice (some ⟨b,off,none⟩) 1 c)∧w'.cell? ⟨w.heap.size+1,0,none⟩=some (.string fr)∧w'.cell? ⟨w.heap.size+1+1,0,none⟩=some (.string to) ∧
   w'.cell? ⟨b,off,none⟩=some (.int .i64 x.kind)∧w'.cell? ⟨b,off+1,none⟩=some (.string x.name)∧w'.cell? ⟨b,off+2,none⟩=some (.int .i64 x.n)∧w'.cell? ⟨b,off+3,none⟩=some (.slice a0 x.args.length p0))
  (first|exact SK.out _ hB8|exact SK.out _ hB7|exact SK.out _ (hB1.alloc hB1.size _)|exact SK.out _ hB1|exact SK.out _ RD2.out|go_keep)
  (first
   | (go_at_call 35;refine (CF.out _ (by first|exact RH.out.hz.drew|exact (RH.out.hz.alloc RH.out.hz.size _).drew)).mono ?_;rintro e w1 ⟨v1,rfl,own1,len1,hb1⟩;have hB1:=(show Below ((((w.alloc (.cells #[.int .i64 5,.string to,.int .i64 t.n,.slice (some ⟨b,off,none⟩) 1 c] 30)).alloc (.cells #[.string fr] 9)).alloc (.cells #[.string to] 9)).alloc (.cells #[.int .i64 0,.string ⟨#[]⟩,.int .i64 0,.slice none 0 0] 30)).heap.size ((((w.alloc (.cells #[.int .i64 5,.string to,.int .i64 t.n,.slice (some ⟨b,off,none⟩) 1 c] 30)).alloc (.cells #[.string fr] 9)).alloc (.cells #[.string to] 9)).alloc (.cells #[.int .i64 0,.string ⟨#[]⟩,.int .i64 0,.slice none 0 0] 30)) _ from by first|exact RD.out|exact RD2.out).trans (hb1.mono (by simp)))
   | (go_at_call 36;refine (js_ to hto1 _ _ (aK_ x++[fr,to]) _ STR7 HS7 TB7).mono ?_;rintro e w8 ⟨rfl,hb8⟩;have hB8:=hB7.trans (hb8.mono hB7.size))
   | ((refine step_append_lies _ (by rfl) _ _ _ (by rfl) (w.heap.size+4) 9 i0 _ 1 16 Tryz.underlying88 hi0 hz0 hz1 hz3 rfl (by omega) v1 (aK_ x).length ((aK_ x).map Value.string) (by rfl) ((iu_ own1 (by simp)).alloc _) ⟨w1.heap.size,0,none⟩ 2 2 [.string fr,.string to] (by rfl) (by rfl) (World.news_of_block (cs:=#[.string fr,.string to]) (t:=9) (fr:=(0,0)) (heap_alloc_new w1 _)) (by simp[Value.oneCell']) (by omega) (by unfold maxLen;omega) (by omega) (by have:=hB1.size;simp at *;omega) (w1.heap.size+1) (by simp) ?_;intro gg cap w7 hown7 hgrow7 hat7 hlt7;have hB7:=(hB1.alloc hB1.size (.cells #[.string fr,.string to] 9)).grown hgrow7 (by have:=hB1.size;simp at *;omega) (fun k hk=>by have:=(own1.lt k hk).1;simp at *;omega);have STR7:=bd_.of_own (l:=aK_ x++[fr,to]) (by rw[List.length_append,List.map_append];exact hown7) (by simp;omega);have HS7:∀ k,Value.ownBlock (.slice (some ⟨gg,0,none⟩) ((aK_ x).length+2) cap)=some k→k<w7.heap.size:=fun k hk=>(hown7.lt k hk).2;have TB7:=ag_ HT.out (RH.out.hz.trans (hB7.mono RH.out.hz.size))))
   | ((refine step_append_lies _ (by rfl) _ _ _ (by rfl) (w.heap.size+4) 9 i0 _ 1 16 Tryz.underlying88 hi0 hz0 hz1 hz3 rfl (by omega) v1 (aK_ x).length ((aK_ x).map Value.string) (by rfl) (iu_ own1 (by simp)) ⟨w.heap.size+1+1+1+1,0,none⟩ 2 2 [.string fr,.string to] (by rfl) (by rfl) (World.news_of_block (cs:=#[.string fr,.string to]) (t:=9) (fr:=(0,0)) ((hb1.block _ (by simp)).trans (al_ (by simp)))) (by simp[Value.oneCell']) (by omega) (by unfold maxLen;omega) (by omega) (by have:=hB1.size;simp at *;omega) w1.heap.size (by simp) ?_;intro gg cap w7 hown7 hgrow7 hat7 hlt7;have hB7:=hB1.grown hgrow7 hB1.size (fun k hk=>by have:=(own1.lt k hk).1;simp at *;omega);have STR7:=bd_.of_own (l:=aK_ x++[fr,to]) (by rw[List.length_append,List.map_append];exact hown7) (by simp;omega);have HS7:∀ k,Value.ownBlock (.slice (some ⟨gg,0,none⟩) ((aK_ x).length+2) cap)=some k→k<w7.heap.size:=fun k hk=>(hown7.lt k hk).2;have TB7:=ag_ HT.out (RH.out.hz.trans (hB7.mono RH.out.hz.size)))))
 all_goals
  have HB8:=hid hB8;clear hb1 hB1 own1 len1 hown7 hgrow7 hat7 hlt7 hB7 STR7 HS7 TB7 hb8 hB8;generalize hfn:bN_ to (aK_ x++[fr,to])=fn at *;have s0:=SK.out _ HB8.out.drew;obtain⟨s0,s1,s2,s3,s4,s5,s6⟩:=s0;have CR:=hid (fun (W:World) (h:Below w.heap.size w W)=>ih to fn x S a0 p0 W hgx hdx hsx hto hfs.2 (hs0.keep fun b hb=>h.block b (HS.out b hb)) (fun b hb=>aX_ (HS.out b hb) h.size) (ag_ HT.out h));have KP:=hid (je_ d to fn x hdx hgx hfs.2 hsx);have TL:=hid (fun (w9:World) (a9:OA_) (c9:Nat) (hb9:Below w8.drew.heap.size w8.drew w9) (hA9:ac_ (New S w8.drew w9) w9 (.slice a9 (cs_ d to fn x).args.length c9) (cs_ d to fn x).args) =>
   pX_ d ih fr to fn (cs_ d to fn x) S w w9 a9 c9 KP.out.2.2.1 (by rw[KP.out.1];exact hdx) (by rw[KP.out.2.1];exact hsx) hfr hto HS.out HT.out ((RH.out.hz.trans (HB8.out.drew.mono RH.out.hz.size)).trans (hb9.mono (bm_ RH.out.hz.size HB8.out.drew.size)))
    ((hb9.block _ (aX_ (by rw[RH.out.size];omega) HB8.out.drew.size)).trans ((HB8.out.drew.block _ (by rw[RH.out.size];omega)).trans RH.out.hf)) ((hb9.block _ (aX_ (by rw[RH.out.size];omega) HB8.out.drew.size)).trans ((HB8.out.drew.block _ (by rw[RH.out.size];omega)).trans RH.out.ht))
    (B4.low (RH.out.q4.low HB8.out.drew) hb9) (hA9.mono fun b h=>h.imp id fun h=>⟨bm_ (by rw[← RH.out.size];exact HB8.out.drew.size) h.1,h.2⟩) (by rw[← RH.out.size];exact bm_ HB8.out.drew.size hb9.size))
  have KD:=hid (RH.out.k4.low HB8.out.drew);clear c0 c1 c2 c3 d0 f0 f1 f2 f3 e0 e1;go_wp2
  go_region_with ((go_at_call 38;refine (CR.out _ (RH.out.hz.trans (HB8.out.drew.mono RH.out.hz.size))).mono ?_;rintro e w9 ⟨a9,c9,rfl,hA9,hb9⟩;have k9:=KD.out.low hb9;have g0:=k9.c0;have g1:=k9.c1;have g2:=k9.c2;have g3:=k9.c3;have n0:=k9.fr 0;have n1:=k9.fr 1;have n2:=k9.fr 2;have n3:=k9.fr 3;have k10:=k9.low (ao_ _ (.cells #[.int .i64 (cs_ d to fn x).kind,.string (cs_ d to fn x).name,.int .i64 (cs_ d to fn x).n,.slice a9 (cs_ d to fn x).args.length c9] 30));have h0:=k10.c0;have h1:=k10.c1;have h2:=k10.c2;have h3:=k10.c3;have m0:=k10.fr 0;have m1:=k10.fr 1;have m2:=k10.fr 2;have m3:=k10.fr 3;have HA9:=hid hA9;have HB9:=hid hb9;clear k9 k10 hA9 hb9;unfold tv))
  all_goals
   go_wp2_with fail;refine (TL.out _ _ _ HB9.out HA9.out).mono ?_;rintro e W2 ⟨a2,c2,rfl,hA2,hb2,q2⟩;obtain⟨r0,r1,r2,r3⟩:=q2.c03;obtain⟨v0,v1,v2,v3⟩:=q2.f03;have HA2:=hid hA2;have HB2:=hid hb2;clear hA2 hb2 g0 g1 g2 g3 h0 h1 h2 h3 n0 n1 n2 n3 m0 m1 m2 m3;generalize cn_ (cU_ fn (cs_ d to fn x)) [cs_ d fr to (cs_ d to fn x)]=y at *;unfold tv;go_wp2;have q5:=B4.set4 q2 (.int .i64 y.kind) (.string y.name) (.int .i64 y.n) (.slice a2 y.args.length c2);exact bodyPost_ret (v:=tv y a2 c2) (by simp[results,Tryz.results38,go_sem,tv,q5.c0,q5.c1,q5.c2,q5.c3]) rfl (by rw[E.out];exact og_ HS.out HA2.out HB2.out)
theorem pe_:∀ d:Nat,hn_ d:=by
 intro d
 induction d with
 | zero=>intro fr to t S a c W hg h;rw[t.depth_eq] at h;omega
 | succ d ih =>
  intro fr to t S a c W hg hd hs hfr hto hA hS hT
  by_cases hn:t.name=fr
  ·by_cases h1:t.kind=1
   ·exact qX_ d fr to t S a c W h1 hn hA hS
   ·by_cases h5:t.kind=5
    ·exact pd_ d fr to t S a c W h5 hn hA hS
    ·exact kV_ d ih fr to t S a c W (fun h=>absurd h h1) (fun h=>absurd h h5) hg hd hs hfr hto hA hS hT
  ·by_cases h5:t.kind=5∧t.name=to
   ·exact qY_ d ih fr to t S a c W h5.1 h5.2 hn hg hd hs hfr hto hA hS hT
   ·exact kV_ d ih fr to t S a c W (fun _=>hn) (fun h=>⟨hn,fun e=>h5 ⟨h,e⟩⟩) hg hd hs hfr hto hA hS hT
theorem nb_ (fr to:ByteArray)(t:Ty)(S:Nat→Prop)(a:OA_)(c:Nat)(W:World)(hg:cV_ t)(hs:t.size≤4499999999224)(hfr:fr.size≤64)(hto:to.size≤64)(hA:ac_ S W (.slice a t.args.length c) t.args)(hS:∀ b,S b→b<W.heap.size)(hT:Tab W) :
  Calls Tryz.prog 38 #[tv t a c,.string fr,.string to] W (TP S (dA_ fr to t) W):=pe_ t.depth fr to t S a c W hg (aw_ _) hs hfr hto hA hS hT
end
section
def cC_:Nat→List ByteArray→Nat→Ty→Ty × Nat
 | 0,_,n,t=>(t,n)
 | d+1,free,n,t =>
  if t.kind=5 then (cn_ (cU_ (aZ_ (ct_ free n)) (dA_ t.name (aZ_ (ct_ free n)) (ew_ t))) (au_ (cC_ d free) (ct_ free n+1) [dA_ t.name (aZ_ (ct_ free n)) (ew_ t)]).1,
   (au_ (cC_ d free) (ct_ free n+1) [dA_ t.name (aZ_ (ct_ free n)) (ew_ t)]).2)
  else (cn_ t (au_ (cC_ d free) n t.args).1,(au_ (cC_ d free) n t.args).2)
def db_ (t:Ty):Ty:=(cC_ t.depth (aK_ t) 0 t).1
theorem eQ_ (n:Nat)(h:n≤9223372036854775807):(aZ_ n).size≤64∧1≤(aZ_ n).size:=by
 unfold aZ_;rw[ByteArray.size_append];have h1:=Lib.itoa_length_le (n:Int) (by omega) (by omega);have h3:(⟨#[120]⟩:ByteArray).size=1:=rfl;have h4:(aa_ (Lib.itoa (n:Int))).size=(Lib.itoa (n:Int)).length:=by simp[aa_,ByteArray.size]
 omega
theorem k5_ (free:List ByteArray)(n:Nat):n≤ct_ free n∧ct_ free n≤n+free.length :=
 ⟨(dN_ aZ_ (fun _ _=>ey_) free n).1,(dN_ aZ_ (fun _ _=>ey_) free n).2.1⟩
theorem pC_ {a b c q n m:Nat}(h:n+(a+b)*q≤c)(hm:m≤n+a*q):m+b*q≤c:=by
 rw[Nat.add_mul] at h;omega
theorem hS_ (d:Nat) (free:List ByteArray) (q:Nat) (ih:∀ (t:Ty) (n:Nat),t.depth≤d→cV_ t→t.size≤4499999999224→n+t.size*q≤4611686018427387904 →
   n≤(cC_ d free n t).2∧(cC_ d free n t).2≤n+t.size*q∧(cC_ d free n t).1.depth=t.depth∧(cC_ d free n t).1.size=t.size∧cV_ (cC_ d free n t).1∧(cC_ d free n t).1.kind=t.kind) :
  ∀ (l:List Ty) (n:Nat),(∀ t∈l,t.depth≤d∧cV_ t∧t.size≤4499999999224)→n+ax_ l*q≤4611686018427387904 →
   n≤(au_ (cC_ d free) n l).2∧(au_ (cC_ d free) n l).2≤n+ax_ l*q∧aC_ (au_ (cC_ d free) n l).1=aC_ l∧ax_ (au_ (cC_ d free) n l).1=ax_ l∧∀ t∈(au_ (cC_ d free) n l).1,cV_ t:=by
 intro l
 induction l with
 | nil=>intro n _ _;exact⟨aw_ _,by simp[au_],rfl,rfl,fun t ht=>by cases ht⟩
 | cons t l ihl =>
  intro n h hb;rw[ax_] at hb;obtain⟨a1,a2,a3⟩:=h t (by simp);have hb1:n+t.size*q≤4611686018427387904:=by rw[Nat.add_mul] at hb;omega
  obtain⟨c1,c2,c3,c4,c5,_⟩:=ih t n a1 a2 a3 hb1;obtain⟨e1,e2,e3,e4,e5⟩:=ihl (cC_ d free n t).2 (fun u hu=>h u (by simp[hu])) (pC_ hb c2);simp only[au_];refine⟨by omega,?_,by rw[aC_,aC_,c3,e3],by rw[ax_,ax_,c4,e4],?_⟩
  ·rw[ax_,Nat.add_mul];omega
  ·intro u hu
   rcases List.mem_cons.1 hu with rfl|hu
   ·exact c5
   ·exact e5 u hu
theorem eX_ (fr to:ByteArray)(t:Ty)(hg:cV_ t)(hto:to.size≤64)(hs:t.size≤4499999999224) :
  (dA_ fr to t).depth=t.depth∧(dA_ fr to t).size=t.size∧cV_ (dA_ fr to t)∧(dA_ fr to t).kind=t.kind:=je_ t.depth fr to t (aw_ _) hg hto hs
theorem cu_ {t:Ty}(h:cV_ t):∀ a∈t.args,cV_ a:=fun a ha=>⟨((bq_ t).1 h.1).2 a ha,((dm_ t).1 h.2).2 a ha⟩
theorem g6_ {t:Ty}(h:cV_ t)(l:List Ty)(hl:l.length=t.args.length)(hg:∀ a∈l,cV_ a):cV_ (cn_ t l):=by
 refine⟨(bq_ _).2 ⟨?_,fun a ha=>(hg a ha).1⟩,(dm_ _).2 ⟨((dm_ t).1 h.2).1,fun a ha=>(hg a ha).2⟩⟩;have:=((bq_ t).1 h.1).1;show (t.kind=1∧l=[]∨t.kind=2∧l=[]∧_∨t.kind=3∨t.kind=4∧l.length=2∨t.kind=5∧l.length=1);rw[hl];have hn:t.args=[]→l=[]:=fun e=>List.eq_nil_of_length_eq_zero (by rw[hl,e];rfl)
 rcases this with h|h|h|h|h
 ·exact .inl ⟨h.1,hn h.2⟩
 ·exact .inr (.inl ⟨h.1,hn h.2.1,h.2.2⟩)
 ·exact .inr (.inr (.inl h))
 ·exact .inr (.inr (.inr (.inl h)))
 ·exact .inr (.inr (.inr (.inr h)))
theorem gw_ {s:ByteArray}(h1:1≤s.size)(h2:s.size≤64){x:Ty}(hx:cV_ x):cV_ (cU_ s x) :=
 ⟨(bq_ _).2 ⟨.inr (.inr (.inr (.inr ⟨rfl,rfl⟩))),fun a ha=>by obtain rfl:=List.mem_singleton.1 ha;exact hx.1⟩,(dm_ _).2 ⟨⟨fun _=>h1,h2⟩,fun a ha=>by obtain rfl:=List.mem_singleton.1 ha;exact hx.2⟩⟩
theorem gZ_:∀ (d:Nat) (free:List ByteArray) (t:Ty) (n:Nat),t.depth≤d→cV_ t→t.size≤4499999999224→n+t.size*(free.length+1)≤4611686018427387904 →
  n≤(cC_ d free n t).2∧(cC_ d free n t).2≤n+t.size*(free.length+1)∧(cC_ d free n t).1.depth=t.depth∧(cC_ d free n t).1.size=t.size∧cV_ (cC_ d free n t).1∧(cC_ d free n t).1.kind=t.kind:=by
 intro d free
 induction d with
 | zero=>intro t n h;rw[t.depth_eq] at h;omega
 | succ d ih =>
  intro t n h hg hs hb;have hL:=hS_ d free (free.length+1) ih;have hds:∀ a∈t.args,a.depth≤d∧a.size≤4499999999224:=fun a ha=>by
   have:=aT_ _ ha;have:=cx_ _ ha;rw[t.depth_eq] at h;rw[t.size_eq] at hs;omega
  rw[t.size_eq,Nat.add_mul,Nat.one_mul] at hb;rw[cC_]
  split
  ·next hk =>
   obtain⟨x,hx,hx0⟩:=lw_ hg.1 hk;have hx1:x∈t.args:=by rw[hx];simp
   have hnb:=k5_ free n;have hxs:=eQ_ (ct_ free n) (by omega);rw[hx0];obtain⟨a1,a2,a3,a4⟩:=eX_ t.name (aZ_ (ct_ free n)) x (cu_ hg x hx1) hxs.1 (hds x hx1).2;have hsz:ax_ t.args=x.size:=by rw[hx];simp[ax_]
   have hb2:ct_ free n+1+ax_ [dA_ t.name (aZ_ (ct_ free n)) x]*(free.length+1)≤4611686018427387904:=by
    have hz:ax_ [dA_ t.name (aZ_ (ct_ free n)) x]=ax_ t.args:=by rw[ax_,ax_,a2,hsz];rfl
    rw[hz];omega
   obtain⟨e1,e2,e3,e4,e5⟩:=hL [dA_ t.name (aZ_ (ct_ free n)) x] (ct_ free n+1) (fun u hu=>by obtain rfl:=List.mem_singleton.1 hu;exact⟨by rw[a1];exact (hds x hx1).1,a3,by rw[a2];exact (hds x hx1).2⟩) hb2;have e2':(au_ (cC_ d free) (ct_ free n+1) [dA_ t.name (aZ_ (ct_ free n)) x]).2≤ct_ free n+1+x.size*(free.length+1):=by
    have:ax_ [dA_ t.name (aZ_ (ct_ free n)) x]=x.size:=by rw[ax_,ax_,a2];rfl
    rw[this] at e2;exact e2
   refine⟨by omega,?_,?_,?_,?_,hk.symm⟩
   ·rw[t.size_eq,hsz,Nat.add_mul,Nat.one_mul];omega
   ·rw[Ty.depth_eq,t.depth_eq,hx];show aC_ (au_ _ _ _).1+1=_;rw[e3,aC_,aC_,aC_,aC_,a1]
   ·rw[Ty.size_eq,t.size_eq,hx];show ax_ (au_ _ _ _).1+1=_;rw[e4,ax_,ax_,ax_,ax_,a2]
   ·exact g6_ (gw_ hxs.2 hxs.1 a3) _ (by rw[e2_];rfl) e5
  ·obtain⟨e1,e2,e3,e4,e5⟩:=hL t.args n (fun u hu=>⟨(hds u hu).1,cu_ hg u hu,(hds u hu).2⟩) (by omega)
   refine⟨e1,?_,?_,?_,?_,rfl⟩
   ·rw[t.size_eq,Nat.add_mul,Nat.one_mul];omega
   ·rw[Ty.depth_eq,t.depth_eq];show aC_ (au_ _ _ _).1+1=_;rw[e3]
   ·rw[Ty.size_eq,t.size_eq];show ax_ (au_ _ _ _).1+1=_;rw[e4]
   ·exact g6_ hg _ (e2_ _ _ _) e5
def hL_ (nm:ByteArray)(t:Ty):Ty:=cU_ nm (dA_ t.name nm (ew_ t))
def eO_:Nat→ByteArray→Ty→Ty→Ty
 | 0,_,_,t=>t
 | d+1,nm,u,t =>
  if t.kind==5&&eqN t.name nm then t
  else if t.kind==1&&eqN t.name nm then u
  else if t.kind==5&&fb_ (aK_ u) t.name then
   cn_ (hL_ (bN_ t.name (aK_ u++aK_ (ew_ t)++[t.name,nm])) t) ((hL_ (bN_ t.name (aK_ u++aK_ (ew_ t)++[t.name,nm])) t).args.map (eO_ d nm u))
  else cn_ t (t.args.map (eO_ d nm u))
def hW_ (n:Int)(x:Ty):Bool:=x.kind==2&&x.n==n
def ex_ (nm:ByteArray)(u t:Ty):Ty:=eO_ t.depth nm u t
theorem oy_ (d:Nat)(nm:ByteArray)(u t:Ty)(hk:t.kind=5)(hn:t.name=nm):eO_ (d+1) nm u t=t:=by
 rw[eO_,if_pos (by rw[hk,hn,(aS_ _ _).2 rfl];rfl)]
theorem qa_ (d:Nat)(nm:ByteArray)(u t:Ty)(hk:t.kind=1)(hn:t.name=nm):eO_ (d+1) nm u t=u:=by
 rw[eO_,if_neg (by rw[hk];simp),if_pos (by rw[hk,hn,(aS_ _ _).2 rfl];rfl)]
theorem jK_ (d:Nat)(nm:ByteArray)(u t:Ty)(h1:t.kind=1→t.name≠nm)(h5:t.kind=5→t.name≠nm∧fb_ (aK_ u) t.name=false):eO_ (d+1) nm u t=cn_ t (t.args.map (eO_ d nm u)):=by
 rw[eO_,if_neg,if_neg,if_neg]
 ·intro h;simp only[Bool.and_eq_true,beq_iff_eq] at h;rw[(h5 h.1).2] at h;exact absurd h.2 (by simp)
 ·intro h;simp only[Bool.and_eq_true,beq_iff_eq] at h;exact h1 h.1 ((aS_ _ _).1 h.2)
 ·intro h;simp only[Bool.and_eq_true,beq_iff_eq] at h;exact (h5 h.1).1 ((aS_ _ _).1 h.2)
theorem qc_ (d:Nat)(nm:ByteArray)(u t x:Ty)(hk:t.kind=5)(hne:t.name≠nm)(hf:fb_ (aK_ u) t.name=true)(hx:ew_ t=x) :
  eO_ (d+1) nm u t=cn_ (cU_ (bN_ t.name (aK_ u++aK_ x++[t.name,nm])) (dA_ t.name (bN_ t.name (aK_ u++aK_ x++[t.name,nm])) x)) [eO_ d nm u (dA_ t.name (bN_ t.name (aK_ u++aK_ x++[t.name,nm])) x)]:=by
 rw[eO_,if_neg,if_neg (by rw[hk];simp),if_pos (by rw[hk,hf];rfl)]
 ·unfold hL_;rw[hx];rfl
 ·intro h;simp only[Bool.and_eq_true] at h;exact hne ((aS_ _ _).1 h.2)
end
section
open Go.RowKit
def fr_ (d:Nat):Prop:=∀ (nm:ByteArray) (u t:Ty) (S:Nat→Prop) (a ua:OA_) (c uc:Nat) (W:World),cV_ t→cV_ u→t.depth≤d→t.size≤50000000000→u.size≤50000000000 →
 ac_ S W (.slice a t.args.length c) t.args→ac_ S W (.slice ua u.args.length uc) u.args→(∀ b,S b→b<W.heap.size)→Tab W→Calls Tryz.prog 16 #[tv t a c,.string nm,tv u ua uc] W (TP S (eO_ d nm u t) W)
theorem my_ (args:Array Value)(w:World):(callFunc 40 args).run Tryz.prog w=.ok (.enter 40 args) w :=
 enters_of Tryz.func40 (by kernel_rfl) rfl args w
theorem qd_ (d:Nat)(ih:fr_ d)(nm:ByteArray)(u:Ty)(bf bu:Nat)(t:Ty)(S:Nat→Prop)(a ua:OA_)(c uc:Nat)(W:World)(hf:W.heap[bf]? = some (.cells #[.string nm] 9 (0,0)))(hu:B4 W bu (.int .i64 u.kind) (.string u.name) (.int .i64 u.n) (.slice ua u.args.length uc))(hg:cV_ t)(hgu:cV_ u)(hd:t.depth≤d)(hs:t.size≤50000000000)(hsu:u.size≤50000000000)
  (hA:ac_ S W (.slice a t.args.length c) t.args) (hU:ac_ S W (.slice ua u.args.length uc) u.args) (hS:∀ b,S b→b<W.heap.size) (hT:Tab W):Calls Tryz.prog 40 #[tv t a c,.pointer (some ⟨bf,0,none⟩),.pointer (some ⟨bu,0,none⟩)] W (TP S (eO_ d nm u t) W):=by
 have hz:=ao_ W (.cells #[.int .i64 t.kind,.string t.name,.int .i64 t.n,.slice a t.args.length c] 30);have hz2:=hz.alloc hz.size (.cells #[.int .i64 0,.string ⟨#[]⟩,.int .i64 0,.slice none 0 0] 30);have k4:=(B4.new W (.int .i64 t.kind) (.string t.name) (.int .i64 t.n) (.slice a t.args.length c)).low (ao_ _ (.cells #[.int .i64 0,.string ⟨#[]⟩,.int .i64 0,.slice none 0 0] 30));have q4:B4 ((W.alloc (.cells #[.int .i64 t.kind,.string t.name,.int .i64 t.n,.slice a t.args.length c] 30)).alloc (.cells #[.int .i64 0,.string ⟨#[]⟩,.int .i64 0,.slice none 0 0] 30)) (W.heap.size+1) (.int .i64 0) (.string ⟨#[]⟩) (.int .i64 0) (.slice none 0 0):=al_ (by simp);obtain⟨c0,c1,c2,c3⟩:=k4.c03;have e0:=(hz2.cell (p:=⟨bf,0,none⟩) (Array.getElem?_eq_some_iff.1 hf).1).trans (cell_of_row _ _ 0 _ _ _ hf);have hu4:=hu.low hz2;obtain⟨e1,e2,e3,e4⟩:=hu4.c03;have C:=hid (ih nm u t S a ua c uc _ hg hgu hd hs hsu (hA.keep fun b hb=>hz2.block b (hS b hb)) (hU.keep fun b hb=>hz2.block b (hS b hb)) (fun b hb=>aX_ (hS b hb) hz2.size) (ag_ hT hz2));have HZ2:=hid hz2;have HS:=hid hS;have Q4:=hid q4;unfold tv at *;clear hz hz2 k4 q4 hf hu hu4 hA hU hS hT hg hgu hd hs hsu;go_enter Tryz.func40,Tryz.ntmps40;go_wp2_with fail;refine C.out.mono ?_;rintro e W2 ⟨a2,c2,rfl,hA2,hb2⟩;have q4:=Q4.out.low hb2;obtain⟨r0,r1,r2,r3⟩:=q4.c03;obtain⟨s0,s1,s2,s3⟩:=q4.f03;have HA2:=hid hA2;have HB2:=hid hb2;clear hA2 hb2;unfold tv;generalize eO_ d nm u t=y at *;go_wp2;have q5:=B4.set4 q4 (.int .i64 y.kind) (.string y.name) (.int .i64 y.n) (.slice a2 y.args.length c2);exact bodyPost_ret (v:=tv y a2 c2) (by simp[results,Tryz.results40,go_sem,tv,q5.c0,q5.c1,q5.c2,q5.c3]) rfl (TP.stored HS.out HZ2.out HA2.out HB2.out (by omega) (by simp))
end
end Go.Proofs.YtkihnodkhnahiaaGreatDoor.Tp

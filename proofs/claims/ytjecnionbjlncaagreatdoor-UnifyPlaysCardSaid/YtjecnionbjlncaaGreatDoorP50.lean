/- Packed. -/
import Derived.Test.YtjecnionbjlncaaGreatDoorP49
import Derived.Test.YtjecnionbjlncaaGreatDoorP45
set_option maxRecDepth 100000
set_option maxHeartbeats 6400000
namespace Go.Proofs.YtjecnionbjlncaaGreatDoor.Tp
section
open Go.RowKit
theorem ml_ (t:Ty)(S:Nat→Prop)(a:OA_)(c:Nat)(w:World)(hA:aa_ S w (.slice a t.args.length c) t.args)(hS:∀ b,S b→b<w.heap.size)(hs:Std t)(hw:Wf (cs_ t))(hl:(ac_ (cs_ t)).length≤4500000000000)(hsz:t.size≤1000000000000)(hmul:t.size*((af_ t).length+1)≤100000000000000000) :
  Calls Tryz.prog 17 #[tv t a c] w (bm_ w (aw_ t)):=by
 have hz:Below w.heap.size w (w.alloc (.cells #[.int .i64 t.kind,.string t.name,.int .i64 t.n,.slice a t.args.length c] 43)):=aq_ w (.cells #[.int .i64 t.kind,.string t.name,.int .i64 t.n,.slice a t.args.length c] 43);have kt:=R4.new w (.int .i64 t.kind) (.string t.name) (.int .i64 t.n) (.slice a t.args.length c);have hAt:AtW t a c (w.alloc (.cells #[.int .i64 t.kind,.string t.name,.int .i64 t.n,.slice a t.args.length c] 43)):=(hA.keep fun b hb=>hz.block b (hS b hb)).mono fun b hb=>aU_ (hS b hb) hz.size;have hcan:=dQ_ t hs;rw[rg_] at hcan;have CF:=hid (fun (W:World) (h:AtW t a c W)=>fn_ t _ a c W h (fun _ h=>h) (fi_ t hs) (by omega));have CNU:=hid (fun (W:World) (vb:Value) (h:AtW t a c W) (hb:bc_ W vb (af_ t))=>jh_ ⟨#[120]⟩ (by decide) (af_ t) t a c vb W h hs hb hmul (by omega));have CPR:=hid (fun (W:World) (a':OA_) (c':Nat) (h:AtW (cs_ t) a' c' W)=>mb_ (cs_ t) _ a' c' W h (fun _ h=>h) hw hl);unfold aw_;rw[hcan] at CPR ⊢;generalize hr:cnT (aK_ ⟨#[120]⟩) (af_ t) [] 0 (dbT [] t)=r at *;obtain⟨y,k2⟩:=r;simp only at CPR ⊢;have AT:=hid hAt;have HZ:=hid hz;have KT:=hid kt;clear hA hS hs hw hl hsz hmul hcan hr hAt hz kt;unfold tv at CF CPR ⊢;go_enter Tryz.func17,Tryz.ntmps17;go_wp2;generalize w.alloc (.cells #[.int .i64 t.kind,.string t.name,.int .i64 t.n,.slice a t.args.length c] 43)=W0 at *;have HD:=hid (Below.refl W0.heap.size W0).drew;have HDA:Hid (Below W0.heap.size W0 (W0.alloc (.cells #[.int .i64 0,.string ⟨#[]⟩,.int .i64 0,.slice none 0 0] 43)).drew):=hid (aq_ W0 _).drew;have KK:Hid (∀ W:World,Below W0.heap.size W0 W→W.cell? ⟨w.heap.size,0,none⟩=some (.int .i64 t.kind)∧W.cell? ⟨w.heap.size,1,none⟩=some (.string t.name)∧W.cell? ⟨w.heap.size,2,none⟩=some (.int .i64 t.n)∧W.cell? ⟨w.heap.size,3,none⟩=some (.slice a t.args.length c)):=hid (fun W h=>⟨(KT.out.low h).c0,(KT.out.low h).c1,(KT.out.low h).c2,(KT.out.low h).c3⟩)
 go_upto_region 1 with fail
 go_cut [3,4] from 6 to 12 (fun xp kv wx=>dn_ W0 y k2 xp kv wx)
 case first =>
  obtain⟨k0,k1,k2,k3⟩:=KT.out.c03;obtain⟨l0,l1,l2,l3⟩:=KK.out (W0.alloc (.cells #[.int .i64 0,.string ⟨#[]⟩,.int .i64 0,.slice none 0 0] 43)) (aq_ W0 _)
  go_region_law (first
   | (go_simp;go_at_call 44;(with_reducible refine (CF.out _ (AT.out.low HD.out)).mono ?_);rintro e w1 ⟨v,rfl,h1,hb1⟩;have HX1:=hid (HD.out.trans (hb1.mono HD.out.size));obtain⟨e0,e1,e2,e3⟩:=KK.out _ HX1.out;have HX2:=hid (HX1.out.alloc HX1.out.size (.cells #[.int .i64 0,.string ⟨#[]⟩,.int .i64 0,.slice none 0 0] 43));obtain⟨j0,j1,j2,j3⟩:=KK.out _ HX2.out;have CN1:=hid (CNU.out w1 v (AT.out.low HX1.out) h1);have CN2:=hid (CNU.out (w1.alloc (.cells #[.int .i64 0,.string ⟨#[]⟩,.int .i64 0,.slice none 0 0] 43)) v (AT.out.low HX2.out) (h1.low (aq_ _ _)));clear h1 hb1)
   | (go_simp;go_at_call 44;(with_reducible refine (CF.out _ (AT.out.low HDA.out)).mono ?_);rintro e w1 ⟨v,rfl,h1,hb1⟩;have HX3:=hid (HDA.out.trans (hb1.mono HDA.out.size));obtain⟨e0,e1,e2,e3⟩:=KK.out _ HX3.out;have kz:=R4.low (R4.low (R4.new W0 (.int .i64 0) (.string ⟨#[]⟩) (.int .i64 0) (.slice none 0 0)) (Below.refl _ _).drew) hb1;have KZ3:=hid kz;have CN3:=hid (CNU.out w1 v (AT.out.low HX3.out) h1);have LT3:Hid (W0.heap.size<w1.heap.size):=hid kz.lt;clear h1 hb1 kz)
   | (go_simp;go_at_call 43;(with_reducible refine CN1.out.mono ?_);rintro e w4 ⟨a4,c4,rfl,hA4,hb4⟩;have HB4:Hid (Below W0.heap.size W0 w4):=hid (HX1.out.trans (hb4.mono HX1.out.size));have HA4:Hid (aa_ (In W0.heap.size w4.heap.size) w4 (.slice a4 y.args.length c4) y.args):=hid (hA4.mono fun b hb=>⟨bL_ HX1.out.size hb.1,hb.2⟩);clear hA4 hb4;unfold tv)
   | (go_simp;go_at_call 43;(with_reducible refine CN2.out.mono ?_);rintro e w4 ⟨a4,c4,rfl,hA4,hb4⟩;have kz:=R4.low (R4.new w1 (.int .i64 0) (.string ⟨#[]⟩) (.int .i64 0) (.slice none 0 0)) hb4;have s0:=kz.c0;have s1:=kz.c1;have s2:=kz.c2;have s3:=kz.c3;have g0:=kz.fr 0;have g1:=kz.fr 1;have g2:=kz.fr 2;have g3:=kz.fr 3;have KZ:=hid kz;have HB4:Hid (Below W0.heap.size W0 w4):=hid (HX2.out.trans (hb4.mono HX2.out.size));have LX:Hid (W0.heap.size≤w1.heap.size):=hid HX1.out.size;have HA5:Hid (aa_ (fun b=>W0.heap.size≤b∧b<w4.heap.size∧b≠w1.heap.size) w4 (.slice a4 y.args.length c4) y.args):=hid (hA4.mono fun b hb=>⟨bL_ HX2.out.size hb.1,hb.2,by have:=hb.1;simp at this;omega⟩);clear hA4 hb4 kz;unfold tv)
   | (go_simp;go_at_call 43;(with_reducible refine CN3.out.mono ?_);rintro e w4 ⟨a4,c4,rfl,hA4,hb4⟩;have kz:=KZ3.out.low hb4;have s0:=kz.c0;have s1:=kz.c1;have s2:=kz.c2;have s3:=kz.c3;have g0:=kz.fr 0;have g1:=kz.fr 1;have g2:=kz.fr 2;have g3:=kz.fr 3;have KZ:=hid kz;have HB4:Hid (Below W0.heap.size W0 w4):=hid (HX3.out.trans (hb4.mono HX3.out.size));have LX:Hid (W0.heap.size≤W0.heap.size):=hid (aA_ _);have HA5:Hid (aa_ (fun b=>W0.heap.size≤b∧b<w4.heap.size∧b≠W0.heap.size) w4 (.slice a4 y.args.length c4) y.args):=hid (hA4.mono fun b hb=>⟨bL_ HX3.out.size hb.1,hb.2,by have:=hb.1;have:=LT3.out;omega⟩);clear hA4 hb4 kz;unfold tv))
  all_goals
   go_wp2_with fail
   go_meet
   first
    | (with_reducible exact dn_.new HB4.out HA4.out)
    | (with_reducible exact dn_.at_ HB4.out HA5.out KZ.out LX.out)
 obtain⟨bx,a4,c4,rfl,rfl,kx,hA4,hB4⟩:=hcut;obtain⟨x0,x1,x2,x3⟩:=kx.c03;have CP:=hid (CPR.out wc a4 c4 (hA4.mono fun b hb=>hb.2));have HB:=hid (HZ.out.trans (hB4.mono HZ.out.size));clear hA4 hB4 kx;go_wp2_with fail;refine CP.out.mono ?_;rintro e w5 ⟨rfl,hb5⟩;have HB5:=hid (HB.out.trans (hb5.mono HB.out.size));clear hb5;go_wp2;go_ret;exact⟨rfl,HB5.out⟩
structure j2_ (t:Ty):Prop where
 std:Std t
 wf:Wf (cs_ t)
 len:(ac_ (cs_ t)).length≤4500000000000
 size:t.size≤1000000000000
 mul:t.size*((af_ t).length+1)≤100000000000000000
theorem oD_ {NL:List ByteArray}{fr:Nat}{y z:Ty}(hy:Std y)(hz:Ni NL fr z)(hl:NL.length+fr≤3000000)(e:dbT [] y=dbT [] z):j2_ y:=by
 have hc:=g9_ hy hz.st e;have hsm:=hz.small hl;have hfz:=db_ hz.st hz.vn;have hzs:=hz.sz;have hfy:af_ y=af_ z:=by rw[iB_ y hy,iB_ z hz.st,e]
 have hys:y.size=(dbT [] z).size:=by rw[← bt_ y hy [],e]
 unfold LIM at hzs;have hmul:y.size*((af_ y).length+1)≤2013265920*3000001:=Nat.mul_le_mul (by omega) (by rw[hfy];omega);have KP:=fr_ z.depth (af_ z) z 0 (aA_ _) hz.gd (by have:=hsm.2.1;omega) (by
  rw[← hfy,← bt_ z hz.st [],← hys];omega)
 refine⟨hy,by rw[hc];exact KP.2.2.2.2.1.1,by rw[hc];exact fc_ hsm,by omega,by omega⟩
theorem jQ_ {NL:List ByteArray}{fr:Nat}{y:Ty}(hy:Ni NL fr y)(hl:NL.length+fr≤3000000):j2_ y:=oD_ hy.st hy hl rfl
theorem lc_ {t:Ty}{a:OA_}{c:Nat}{W:World}(R:AtW t a c W)(h:j2_ t) :
  Calls Tryz.prog 17 #[.agg #[.int .i64 t.kind,.string t.name,.int .i64 t.n,.slice a t.args.length c]] W (bm_ W (aw_ t)) :=
 ml_ t _ a c W R (fun _ h=>h) h.std h.wf h.len h.size h.mul
theorem rH_ (t u:Ty)(a ua:OA_)(c uc:Nat)(w:World)(hA:AtW t a c w)(hU:AtW u ua uc w)(ht:j2_ t)(hu:j2_ u) :
  Calls Tryz.prog 68 #[.agg #[.int .i64 t.kind,.string t.name,.int .i64 t.n,.slice a t.args.length c],.agg #[.int .i64 u.kind,.string u.name,.int .i64 u.n,.slice ua u.args.length uc]] w (b9_ w (decide (aw_ t=aw_ u))):=by
 have hz1:=aq_ w (.cells #[.int .i64 t.kind,.string t.name,.int .i64 t.n,.slice a t.args.length c] 43);have hz2:=hz1.alloc hz1.size (.cells #[.int .i64 u.kind,.string u.name,.int .i64 u.n,.slice ua u.args.length uc] 43);have k4:=(R4.new w (.int .i64 t.kind) (.string t.name) (.int .i64 t.n) (.slice a t.args.length c)).low (aq_ _ (.cells #[.int .i64 u.kind,.string u.name,.int .i64 u.n,.slice ua u.args.length uc] 43));have u4:=R4.new (w.alloc (.cells #[.int .i64 t.kind,.string t.name,.int .i64 t.n,.slice a t.args.length c] 43)) (.int .i64 u.kind) (.string u.name) (.int .i64 u.n) (.slice ua u.args.length uc);rw[show (w.alloc (.cells #[.int .i64 t.kind,.string t.name,.int .i64 t.n,.slice a t.args.length c] 43)).heap.size=w.heap.size+1 from by simp] at u4;have HZ:=hid hz2;have C1:=hid (lc_ (hA.low hz2) ht);have UU:=hid (fun (W:World) (h:Below w.heap.size w W)=>lc_ (hU.low h) hu);have U4:=hid u4;obtain⟨c0,c1,c2,c3⟩:=k4.c03;have hb:∃ b,((ab_ (aw_ t)).toList==(ab_ (aw_ u)).toList)=b∧b=decide (aw_ t=aw_ u):=by
  by_cases e:aw_ t=aw_ u
  ·exact⟨true,cl_ (by rw[e]),(decide_eq_true e).symm⟩
  ·exact⟨false,bC_ (lH_ e),(decide_eq_false e).symm⟩
 obtain⟨bb,hbb,hbe⟩:=hb;rw[← hbe];clear hA hU ht hu hz1 hz2 k4 u4 hbe;go_enter Tryz.func68,Tryz.ntmps68;go_wp2_with fail;generalize (w.alloc (.cells #[.int .i64 t.kind,.string t.name,.int .i64 t.n,.slice a t.args.length c] 43)).alloc (.cells #[.int .i64 u.kind,.string u.name,.int .i64 u.n,.slice ua u.args.length uc] 43)=W0 at *;refine C1.out.mono ?_;rintro e w1 ⟨rfl,hb1⟩;have q4:=U4.out.low hb1;obtain⟨d0,d1,d2,d3⟩:=q4.c03;have B1:=hid (HZ.out.trans (hb1.mono HZ.out.size));have C2:=hid (UU.out w1 B1.out);clear hb1 q4 c0 c1 c2 c3;go_wp2_with fail;refine C2.out.mono ?_;rintro e w2 ⟨rfl,hb2⟩;have B2:=hid (B1.out.trans (hb2.mono B1.out.size));clear hb2;go_wp2;go_ret;exact⟨aS_ rfl,B2.out⟩
end
section
open Go.RowKit Go.Sort
structure bd_ (S:Nat→Prop)(lo:Nat)(w:World)(v:Value)(es:Kn)(ps:List Value):Prop where
 own:w.ownsRow lo 45 5 v es.length (a9_ es ps)
 len:ps.length=es.length
 at_:∀ (j:Nat) (e:Int × Ty) (p:Value),es[j]? = some e→ps[j]? = some p→∃ a c,p=.slice a e.2.args.length c∧aa_ S w p e.2.args
theorem bd_.nil (S:Nat→Prop)(lo:Nat)(w:World):bd_ S lo w (.slice none 0 0) [] []:=⟨World.ownsRow_nil _ _ _ _,rfl,by simp⟩
theorem bd_.keep {S:Nat→Prop}{lo:Nat}{w w':World}{v:Value}{es:Kn}{ps:List Value}(h:bd_ S lo w v es ps)(hv:∀ b,v.ownBlock=some b→w'.heap[b]? = w.heap[b]?)(hS:∀ b,S b→w'.heap[b]? = w.heap[b]?):bd_ S lo w' v es ps :=
 ⟨aE_ h.own hv,h.len,fun j t sv h1 h2=>by
  obtain⟨a,c,e1,h3⟩:=h.at_ j t sv h1 h2;exact⟨a,c,e1,h3.keep hS⟩⟩
theorem bd_.mono {S S':Nat→Prop}{lo:Nat}{w:World}{v:Value}{es:Kn}{ps:List Value}(h:bd_ S lo w v es ps)(hS:∀ b,S b→S' b):bd_ S' lo w v es ps :=
 ⟨h.own,h.len,fun j t sv h1 h2=>by
  obtain⟨a,c,e1,h3⟩:=h.at_ j t sv h1 h2;exact⟨a,c,e1,h3.mono hS⟩⟩
theorem ky_:(Tryz.prog.info? 45).map (fun i=>(i.zero,i.size,i.bytes))=some (some (.agg #[.int .i64 0,.int .i64 0,.string ByteArray.empty,.int .i64 0,.slice none 0 0]),5,64):=by kernel_rfl
theorem bd_.push {S:Nat→Prop}{lo:Nat}{w:World}{v:Value}{es:Kn}{ps:List Value}(h:bd_ S lo w v es ps)(hlo:lo≤w.heap.size)(hl:es.length≤1000000000000){x:Int × Ty}{a:OA_}{c:Nat}
  (hS:∀ b,S b→b<w.heap.size∧v.ownBlock≠some b) (h1:aa_ S w (.slice a x.2.args.length c) x.2.args) :
  ∃ v' w',(Builtin.append_ #[32,32] 32 #[v,.slice (some ⟨w.heap.size,0,none⟩) 1 1]).run Tryz.prog (w.alloc (.cells #[.int .i64 x.1,.int .i64 x.2.kind,.string x.2.name,.int .i64 x.2.n,.slice a x.2.args.length c] 45))=.ok v' w' ∧
   bd_ S lo w' v' (es++[x]) (ps++[.slice a x.2.args.length c])∧w.grownBy w' v.ownBlock∧(∀ b,v'.ownBlock=some b→v.ownBlock=some b∨w.heap.size≤b)∧w.heap.size<w'.heap.size:=by
 obtain⟨i0,hi0,hz0,hz1,hz3⟩:=info_parts ky_;have hg0:w.grownBy (w.alloc (.cells #[.int .i64 x.1,.int .i64 x.2.kind,.string x.2.name,.int .i64 x.2.n,.slice a x.2.args.length c] 45)) v.ownBlock:=⟨rfl,rfl,rfl,by simp,fun k hk _=>heap_alloc_old w _ hk⟩;obtain⟨g,cap,w',hr,ho,hg,hat,hlt⟩:=run_append_lies (P:=Tryz.prog) (w:=w.alloc (.cells #[.int .i64 x.1,.int .i64 x.2.kind,.string x.2.name,.int .i64 x.2.n,.slice a x.2.args.length c] 45)) 32 32 lo 45 i0 _ 5 64 Tryz.underlying32 hi0 hz0 hz1 hz3 rfl (by omega) v es.length (a9_ es ps) (h.own.alloc _) ⟨w.heap.size,0,none⟩ 1 1
  (eS_ x (.slice a x.2.args.length c)) rfl (World.news_of_block (cs:=#[.int .i64 x.1,.int .i64 x.2.kind,.string x.2.name,.int .i64 x.2.n,.slice a x.2.args.length c]) (t:=45) (fr:=(0,0)) (heap_alloc_new w _)) (by simp[eS_,Value.oneCell']) (by omega) (by unfold maxLen;omega) (by omega) (by simp;omega) (w.heap.size+1) (by simp)
 have hgg:w.grownBy w' v.ownBlock:=⟨hg.os.trans hg0.os,hg.tape.trans hg0.tape,hg.output.trans hg0.output,bL_ hg0.size hg.size,fun k hk hne=>(hg.block k (by simp;omega) hne).trans (hg0.block k hk hne)⟩;have hsz:=hg.size;simp only[World.size_alloc] at hsz;have kS:∀ b,S b→w'.heap[b]? = w.heap[b]? := fun b hb=>hgg.block b (hS b hb).1 (Ne.symm (hS b hb).2);refine⟨_,w',hr,⟨?_,by simp[h.len],fun j t sv h5 h6=>?_⟩,hgg,fun b e=>?_,by omega⟩
 ·rw[g7_ _ _ _ _ h.len,List.length_append];exact ho
 ·rcases Nat.lt_or_ge j es.length with hj|hj
  ·rw[List.getElem?_append_left hj] at h5
   rw[List.getElem?_append_left (by rw[h.len];exact hj)] at h6;obtain⟨b1,b2,e1,h3⟩:=h.at_ j t sv h5 h6;exact⟨b1,b2,e1,h3.keep kS⟩
  ·have hj':j=es.length:=by
    have:=(List.getElem?_eq_some_iff.1 h5).1;simp at this;omega
   subst hj';rw[List.getElem?_append_right (aA_ _)] at h5;rw[← h.len,List.getElem?_append_right (aA_ _)] at h6;simp at h5 h6;subst h5 h6;exact⟨a,c,rfl,h1.keep kS⟩
 ·rcases hat with e3|e3
  ·exact .inl (e3.trans (by simpa [Value.ownBlock] using e))
  ·refine .inr ?_
   have:g=b:=by simpa [Value.ownBlock] using e
   omega
theorem bd_.ks {S:Nat→Prop}{lo:Nat}{w:World}{v:Value}{R:Kn}{ps:List Value}(h:bd_ S lo w v R ps)(hS:∀ b,S b→b<w.heap.size):jZ_ w v R:=by
 rcases h.own.2 with ⟨hv,h0⟩|⟨g,cap,cur,hv,hb,hg,h1,h2,h3,h4⟩
 ·exact⟨none,0,by rw[hv,h0],.inl (List.eq_nil_of_length_eq_zero h0)⟩
 ·refine⟨some ⟨g,0,none⟩,cap,hv,.inr ⟨g,0,rfl,(Array.getElem?_eq_some_iff.1 hg).1,fun i hi=>?_⟩⟩
  have hip:i<ps.length:=by rw[h.len];exact hi
  obtain⟨a,c,e1,hA⟩:=h.at_ i R[i] ps[i] (List.getElem?_eq_getElem hi) (List.getElem?_eq_getElem hip);rw[e1] at hA;refine⟨a,c,fun j u hj hu=>?_,hA.mono hS⟩;have hc:=h.own.cells (g:=g) (by rw[hv];rfl) (i*5+j) u (by
   rw[g8_ R ps h.len i hi hip j hj,e1];exact hu)
  have hadd:(⟨g,0,none⟩:Addr).add (i*5+j)=⟨g,0+i*5+j,none⟩:=by unfold Addr.add;split<;>simp_all
  rw[hadd] at hc;exact hc
def ur_ (n0:Nat)(w:World)(r:Option Ty)(e:Ending)(w':World):Prop:=Below w.heap.size w w'∧match r with
 | some u=>∃ a c,e=.returned (.tuple #[.agg #[.int .i64 u.kind,.string u.name,.int .i64 u.n,.slice a u.args.length c],.bool true])∧aa_ (Lt n0) w' (.slice a u.args.length c) u.args
 | none=>e=.returned (.tuple #[.agg #[.int .i64 0,.string ⟨#[]⟩,.int .i64 0,.slice none 0 0],.bool false])
theorem sl_ {R:Kn}{m:Int}{i:Nat}(hi:i<R.length)(h:lkK (R.take i) m=none)(e:R[i].1=m):lkK R m=some R[i].2:=by
 have h2:lkK (R.take (i+1)) m=some R[i].2:=by rw[List.take_succ_eq_append_getElem hi,jy_,h];simp[e]
 generalize R[i].2=u at h2
 conv=>lhs;rw[← List.take_append_drop (i+1) R]
 unfold lkK at h2 ⊢;rw[List.find?_append];cases hf:(R.take (i+1)).find? (fun x=>x.1==m) with
 | none=>rw[hf] at h2;cases h2
 | some y=>rw[hf] at h2;exact h2
theorem p9_ {R:Kn}{m:Int}{i:Nat}(hi:i<R.length)(h:lkK (R.take i) m=none)(e:R[i].1≠m):lkK (R.take (i+1)) m=none:=by
 rw[List.take_succ_eq_append_getElem hi,jy_,h];simp[e]
theorem ns_ {w0 w:World}{v:Value}{R:Kn}{m:Int}(h:jZ_ w0 v R)(hb0:Below w0.heap.size w0 w)(hl:R.length≤1000000000):Calls Tryz.prog 72 #[v,.int .i64 m] w (ur_ w0.heap.size w (lkK R m)):=by
 obtain⟨va,vc,rfl,_⟩:=id h;have hz:Below w.heap.size w (w.alloc (.cells #[.int .i64 0,.string ⟨#[]⟩,.int .i64 0,.slice none 0 0] 43)):=aq_ _ _;have k4:=R4.new w (.int .i64 0) (.string ⟨#[]⟩) (.int .i64 0) (.slice none 0 0);have HW:=hid h;have HZ:=hid hz;have H0:=hid (hb0.trans (hz.mono hb0.size));have HS0:=hid hb0.size;obtain⟨c0,c1,c2,c3⟩:=k4.c03;obtain⟨f0,f1,f2,f3⟩:=k4.f03;clear h hz hb0;go_enter Tryz.func72,Tryz.ntmps72;go_wp2;generalize w.alloc (.cells #[.int .i64 0,.string ⟨#[]⟩,.int .i64 0,.slice none 0 0] 43)=W0 at *
 go_loopw [6] (fun iv wr=>∃ i:Nat,iv=.int .i64 i∧i≤R.length∧lkK (R.take i) m=none∧wr=W0) (fun iv _=>R.length - (intOf iv).toNat)
 case atStart=>exact⟨0,rfl,Nat.zero_le _,rfl,rfl⟩
 case round =>
  obtain⟨i,rfl,hil,hno,rfl⟩:=hrel;have NO:=hid hno;clear hno
  by_cases hi:i<R.length
  ·have z0:(0:Int)≤(i:Int):=by omega
   have z1:(i:Int)<(R.length:Int):=(by omega);obtain⟨g,off,a',c',rfl,hg,hc5,hAw⟩:=HW.out.at_ hi;have kc:∀ o,wr.cell? ⟨g,o,none⟩=w0.cell? ⟨g,o,none⟩:=fun o=>World.cell?_of_block (H0.out.block g hg);have g0:=(kc _).trans hc5.1;have g1:=(kc _).trans hc5.2.1;have g2:=(kc _).trans hc5.2.2.1;have g3:=(kc _).trans hc5.2.2.2.1;have g4:=(kc _).trans hc5.2.2.2.2;have AT:=hid (p9_ hi NO.out);have HT:=hid (sl_ hi NO.out);have AW:=hid hAw;clear hAw hc5 kc hg
   by_cases hm:R[i].1=m
   ·have F:Hid (lkK R m=some R[i].2):=hid (HT.out hm)
    generalize R[i].2=u at *;generalize R[i].1=nm at *;subst hm;go_wp2;have q5:=R4.set4 k4 (.int .i64 u.kind) (.string u.name) (.int .i64 u.n) (.slice a' u.args.length c');refine bodyPost_ret (v:=.tuple #[.agg #[.int .i64 u.kind,.string u.name,.int .i64 u.n,.slice a' u.args.length c'],.bool true]) (by simp[results,Tryz.results72,go_sem,q5.c0,q5.c1,q5.c2,q5.c3]) rfl ?_;rw[F.out];have hb:=HZ.out.set4 (aA_ _) (.int .i64 u.kind) (.string u.name) (.int .i64 u.n) (.slice a' u.args.length c');refine⟨hb,a',c',rfl,?_⟩;have hb2:=H0.out.set4 (b:=w.heap.size) HS0.out (.int .i64 u.kind) (.string u.name) (.int .i64 u.n) (.slice a' u.args.length c');exact AW.out.keep fun b h=>hb2.block b h
   ·have z2:(R[i].1==m)=false:=beq_eq_false_iff_ne.2 hm
    have ST:=hid (AT.out hm);clear AT HT hm;generalize R[i]=x at *;go_wp2;go_roundw
    case rel=>exact⟨i+1,by go_num,by omega,ST.out,by trivial⟩
    case measure=>simp[intOf];omega
  ·obtain rfl:i=R.length:=by omega
   have F:Hid (lkK R m=none):=hid (by have:=NO.out;rwa [List.take_length] at this);go_wp2;have q5:=R4.set4 k4 (.int .i64 0) (.string ⟨#[]⟩) (.int .i64 0) (.slice none 0 0);refine bodyPost_ret (v:=.tuple #[.agg #[.int .i64 0,.string ⟨#[]⟩,.int .i64 0,.slice none 0 0],.bool false]) (by simp[results,Tryz.results72,go_sem,q5.c0,q5.c1,q5.c2,q5.c3]) rfl ?_;rw[F.out];exact⟨HZ.out.set4 (aA_ _) _ _ _ _,rfl⟩
end
section
open Go.RowKit
section
variable {lo : Nat} {w w' : World} {v1 v2 : Value} {R1 R2 : Kn} {ps qs : List Value}
end
theorem ez_.es {S:Nat→Prop}{lo:Nat}{w:World}{v:Value}{es:List EqT}{ps:List (Value × Value)}(h:ez_ S lo w v es ps)(hl:es.length≤1000000000000)(hS:∀ b,S b→b<w.heap.size):qJ_ w v es :=
 ((h.eqs hl).mono fun b e=>(h.own.lt b e).2).monoT hS
theorem hG_ (nm:ByteArray)(u t:Ty)(a ua:OA_)(c uc:Nat)(w:World)(hA:AtW t a c w)(hU:AtW u ua uc w)(hs:Std t)(hu:Std u)(hsz:t.size≤1000000000000)(hus:u.size≤1000000000000)(hbl:(fE_ nm u t).length≤1000000000)(hmul:t.size*((fE_ nm u t).length+1)≤100000000000000000) :
  Calls Tryz.prog 108 #[tv t a c,tv u ua uc,.string nm] w (TP (fun _=>False) (cU_ nm u t) w):=by
 have M:=eZ_.new w t u a ua c uc;have hAt:=hA.low M.hz;have hUt:=hU.low M.hz;have CFU:=hid (fun (W:World) (h:AtW u ua uc W)=>fn_ u _ ua uc W h (fun _ h=>h) (fi_ u hu) (by omega));have CFT:=hid (fun (W:World) (h:AtW t a c W)=>fn_ t _ a c W h (fun _ h=>h) (fi_ t hs) (by omega));have CNU:=hid (fun (W:World) (vb:Value) (h:AtW t a c W) (hb:bc_ W vb (fE_ nm u t))=>jh_ ⟨#[121]⟩ (by decide) (fE_ nm u t) t a c vb W h hs hb hmul (by omega));have BE:fE_ nm u t=(nm :: af_ u)++af_ t:=rfl;have BL:Hid ((nm :: af_ u).length≤1099511627776∧((nm :: af_ u)++af_ t).length≤1099511627776):=hid (by rw[BE] at hbl;simp at hbl ⊢;omega);unfold cU_;rw[BE] at CNU ⊢;generalize hr:cnT (aK_ ⟨#[121]⟩) ((nm :: af_ u)++af_ t) [] 0 (dbT [] t)=r at *;obtain⟨y,k2⟩:=r;have MH:=hid M;have AT:=hid hAt;have UT:=hid hUt;clear hA hU hs hu hsz hus M hAt hUt hbl hmul BE hr;unfold tv at CFU CFT ⊢;go_enter Tryz.func108,Tryz.ntmps108;go_wp2;generalize ((w.alloc (.cells #[.int .i64 t.kind,.string t.name,.int .i64 t.n,.slice a t.args.length c] 43)).alloc (.cells #[.int .i64 u.kind,.string u.name,.int .i64 u.n,.slice ua u.args.length uc] 43)).alloc (.cells #[.int .i64 0,.string ⟨#[]⟩,.int .i64 0,.slice none 0 0] 43)=W0 at *;have HD:=hid (Below.refl W0.heap.size W0).drew;have HDA:Hid (Below W0.heap.size W0 (W0.alloc (.cells #[.string nm] 9)).drew):=hid (aq_ W0 _).drew;have KK:Hid (∀ W:World,Below W0.heap.size W0 W→W.cell? ⟨w.heap.size,0,none⟩=some (.int .i64 t.kind)∧W.cell? ⟨w.heap.size,1,none⟩=some (.string t.name)∧W.cell? ⟨w.heap.size,2,none⟩=some (.int .i64 t.n)∧W.cell? ⟨w.heap.size,3,none⟩=some (.slice a t.args.length c)∧W.cell? ⟨w.heap.size+1,0,none⟩=some (.int .i64 u.kind)∧W.cell? ⟨w.heap.size+1,1,none⟩=some (.string u.name)∧W.cell? ⟨w.heap.size+1,2,none⟩=some (.int .i64 u.n)∧W.cell? ⟨w.heap.size+1,3,none⟩=some (.slice ua u.args.length uc)):=hid (fun W h=>⟨(MH.out.low h).kt.c0,(MH.out.low h).kt.c1,(MH.out.low h).kt.c2,(MH.out.low h).kt.c3,(MH.out.low h).ku.c0,(MH.out.low h).ku.c1,(MH.out.low h).ku.c2,(MH.out.low h).ku.c3⟩)
 go_upto_region 1 with fail
 go_cut [7] from 10 to 17 (fun s wx=>us_ W0 ((nm :: af_ u)++af_ t) s wx)
 case first =>
  obtain⟨k0,k1,k2',k3,k4,k5,k6,k7⟩:=KK.out W0 (Below.refl _ _)
  go_region_held3 (fun w'=>w'.cell? ⟨w.heap.size,0,none⟩=some (.int .i64 t.kind)∧w'.cell? ⟨w.heap.size,1,none⟩=some (.string t.name)∧w'.cell? ⟨w.heap.size,2,none⟩=some (.int .i64 t.n)∧w'.cell? ⟨w.heap.size,3,none⟩=some (.slice a t.args.length c)∧w'.cell? ⟨w.heap.size+1,0,none⟩=some (.int .i64 u.kind)∧w'.cell? ⟨w.heap.size+1,1,none⟩=some (.string u.name)∧w'.cell? ⟨w.heap.size+1,2,none⟩=some (.int .i64 u.n)∧w'.cell? ⟨w.heap.size+1,3,none⟩=some (.slice ua u.args.length uc))
   (first|(with_reducible exact KK.out _ HX4.out)|(with_reducible exact KK.out _ HX3.out)|(with_reducible exact KK.out _ HX2.out)|(with_reducible exact KK.out _ HXA.out)|(with_reducible exact KK.out _ HX1.out)|(with_reducible exact KK.out _ HDA.out)|(with_reducible exact KK.out _ HD.out)|go_keep)
   (first
    | (go_at_call 44;(with_reducible refine (CFU.out _ (UT.out.low HD.out)).mono ?_);rintro e w1 ⟨v,rfl,h1,hb1⟩;have HX1:=hid (HD.out.trans (hb1.mono HD.out.size));have HXA:Hid (Below W0.heap.size W0 (w1.alloc (.cells #[.string nm] 9))):=hid (HX1.out.alloc HX1.out.size (.cells #[.string nm] 9));have A1:=hid (oE_ 89 (W:=W0) HXA.out (heap_alloc_new w1 (.cells #[.string nm] 9)) HX1.out.size (h1.low (aq_ _ _)));clear h1 hb1)
    | (go_at_call 44;(with_reducible refine (CFU.out _ (UT.out.low HDA.out)).mono ?_);rintro e w1 ⟨v,rfl,h1,hb1⟩;have HX1:=hid (HDA.out.trans (hb1.mono HDA.out.size));have A1:=hid (oE_ 89 (W:=W0) (b:=W0.heap.size) HX1.out ((hb1.block _ (by simp)).trans (heap_alloc_new W0 (.cells #[.string nm] 9))) (aA_ _) h1);clear h1 hb1)
    | (refine ah_ (by rfl) _ _ _ (by rfl) (by rfl) (by rfl) A1.out ?_;rintro v1 w2 ⟨ho,hx⟩;obtain⟨oa,oc,hv⟩:=aL_ ho;rw[List.length_cons] at hv;subst hv;have HX2:=hid hx;have HO:=hid ho;have CF2:=hid (CFT.out w2 (AT.out.low hx));clear ho hx A1)
    | (go_at_call 44;(with_reducible refine CF2.out.mono ?_);rintro e w3 ⟨v,rfl,h1,hb1⟩;have HX3:=hid (HX2.out.trans (hb1.mono HX2.out.size));have A2:=hid (sG_ 89 (W:=W0) HX3.out (aE_ HO.out fun b hb=>hb1.block b (HO.out.lt b hb).2) BL.out.1 h1);clear h1 hb1)
    | (refine ah_ (by rfl) _ _ _ (by rfl) (by rfl) (by rfl) A2.out ?_;rintro v4 w4 ⟨ho,hx⟩;have HX4:=hid hx;have HO4:=hid ho;clear ho hx))
  all_goals
   go_wp2_with fail
   go_meet
   exact⟨.own HO4.out BL.out.2,HX4.out⟩
 obtain⟨hbs,hB⟩:=hcut;obtain⟨k0,k1,k2',k3,_⟩:=KK.out wc hB;have CN:=hid (CNU.out wc _ (AT.out.low hB) hbs);have M2:=hid (MH.out.low hB);clear hbs hB;go_wp2_with fail;refine CN.out.mono ?_;rintro e w4 ⟨a4,c4,rfl,hA4,hb4⟩;have M3:=hid (M2.out.low hb4);have LW:=hid hb4.size;have AA:=hid hA4;have hM4:=M3.out.low (aq_ _ (.cells #[.int .i64 y.kind,.string y.name,.int .i64 y.n,.slice a4 y.args.length c4] 43));obtain⟨r0,r1,r2,r3⟩:=hM4.kr.c03;obtain⟨f0,f1,f2,f3⟩:=hM4.kr.f03;have M4:=hid hM4;clear hA4 hb4 hM4 k0 k1 k2' k3;unfold tv;go_wp2;have q:=M4.out.set (.int .i64 y.kind) (.string y.name) (.int .i64 y.n) (.slice a4 y.args.length c4);refine bodyPost_ret (v:=.agg #[.int .i64 y.kind,.string y.name,.int .i64 y.n,.slice a4 y.args.length c4]) (by simp[results,Tryz.results108,go_sem,q.2.2.1.c0,q.2.2.1.c1,q.2.2.1.c2,q.2.2.1.c3]) rfl ?_;refine⟨a4,c4,rfl,(AA.out.keep fun b hb=>?_).mono fun b hb=>.inr ⟨?_,?_⟩,q.2.2.2⟩
 ·have hne:b≠w.heap.size+1+1:=by have h1:=hb.1;have h2:=M2.out.lt;omega
  rw[av_ _ _ _ _ hne,av_ _ _ _ _ hne,av_ _ _ _ _ hne,av_ _ _ _ _ hne];exact heap_alloc_old _ _ hb.2
 ·have h1:=hb.1;have h2:=M2.out.lt;omega
 ·have h1:=hb.2;simp;omega
theorem tu_ (S:Nat→Prop)(nm:ByteArray)(u t:Ty)(a ua:OA_)(c uc:Nat)(w:World)(hA:AtW t a c w)(hUS:aa_ S w (.slice ua u.args.length uc) u.args)(hS:∀ b,S b→b<w.heap.size)(hs:Std t)(hu:Std u)(hsz:t.size≤1000000000000)(hus:u.size≤1000000000000)(hbl:(fE_ nm u t).length≤1000000000)(hmul:t.size*((fE_ nm u t).length+1)≤100000000000000000) :
  Calls Tryz.prog 70 #[.agg #[.int .i64 t.kind,.string t.name,.int .i64 t.n,.slice a t.args.length c],.string nm,.agg #[.int .i64 u.kind,.string u.name,.int .i64 u.n,.slice ua u.args.length uc]] w (TP S (cI_ nm u t) w):=by
 have hU:AtW u ua uc w:=hUS.mono hS;have HS:=hid hS;have M:=eZ_.new w t u a ua c uc;have hAt:=hA.low M.hz;have hUt:=hU.low M.hz;have ham:=cT_ nm u t hs;have has:=lJ_ nm u t hs;have CAP:=hid (fun (W:World) (h1:AtW t a c W) (h2:AtW u ua uc W)=>hG_ nm u t a ua c uc W h1 h2 hs hu hsz hus hbl hmul);have CPU:=hid (fun (W:World) (a':OA_) (c':Nat) (hW:w.heap.size≤W.heap.size) (h1:aa_ (fun b=>S b∨(w.heap.size+3≤b∧b<W.heap.size)) W (.slice a' (cU_ nm u t).args.length c') (cU_ nm u t).args) (h2:aa_ (fun b=>S b∨(w.heap.size+3≤b∧b<W.heap.size)) W (.slice ua u.args.length uc) u.args)=>k6_ 1 nm 0 (eR_ nm) u (fun x hx=>by
  unfold dD_;rw[bO_];simp only[Bool.and_eq_true,beq_iff_eq,aN_];exact⟨fun h=>⟨h.1,h.2,(hx.k1 h.1).1⟩,fun h=>⟨h.1,h.2.1⟩⟩) (cU_ nm u t) _ a' ua c' uc W h1 h2 (fun b h=>h.elim (fun h=>aU_ (hS b h) hW) (fun h=>h.2)) ham (by omega))
 have UH:Hid (∀ (W:World),Below w.heap.size w W→aa_ (fun b=>S b∨(w.heap.size+3≤b∧b<W.heap.size)) W (.slice ua u.args.length uc) u.args):=hid (fun W h=>(hUS.keep fun b hb=>h.block b (hS b hb)).mono fun b hb=>.inl hb);unfold cI_;generalize cU_ nm u t=y at *;generalize sbT (eR_ nm) u y=z at *;have MH:=hid M;have AT:=hid hAt;have UT:=hid hUt;clear hA hU hs hu hsz hus hbl hmul M hAt hUt ham has;unfold tv at CAP CPU;go_enter Tryz.func70,Tryz.ntmps70;go_wp2;generalize ((w.alloc (.cells #[.int .i64 t.kind,.string t.name,.int .i64 t.n,.slice a t.args.length c] 43)).alloc (.cells #[.int .i64 u.kind,.string u.name,.int .i64 u.n,.slice ua u.args.length uc] 43)).alloc (.cells #[.int .i64 0,.string ⟨#[]⟩,.int .i64 0,.slice none 0 0] 43)=W0 at *;have HD:=hid (Below.refl W0.heap.size W0).drew;have KK:Hid (∀ W:World,Below W0.heap.size W0 W→W.cell? ⟨w.heap.size,0,none⟩=some (.int .i64 t.kind)∧W.cell? ⟨w.heap.size,1,none⟩=some (.string t.name)∧W.cell? ⟨w.heap.size,2,none⟩=some (.int .i64 t.n)∧W.cell? ⟨w.heap.size,3,none⟩=some (.slice a t.args.length c)∧W.cell? ⟨w.heap.size+1,0,none⟩=some (.int .i64 u.kind)∧W.cell? ⟨w.heap.size+1,1,none⟩=some (.string u.name)∧W.cell? ⟨w.heap.size+1,2,none⟩=some (.int .i64 u.n)∧W.cell? ⟨w.heap.size+1,3,none⟩=some (.slice ua u.args.length uc)):=hid (fun W h=>⟨(MH.out.low h).kt.c0,(MH.out.low h).kt.c1,(MH.out.low h).kt.c2,(MH.out.low h).kt.c3,(MH.out.low h).ku.c0,(MH.out.low h).ku.c1,(MH.out.low h).ku.c2,(MH.out.low h).ku.c3⟩);have KS:Hid (∀ (W:World) (v0 v1 v2 v3:Value),Below W0.heap.size W0 W→((((W.setCell ⟨w.heap.size+1+1,0,none⟩ v0).setCell ⟨w.heap.size+1+1,1,none⟩ v1).setCell ⟨w.heap.size+1+1,2,none⟩ v2).setCell ⟨w.heap.size+1+1,3,none⟩ v3).cell? ⟨w.heap.size,0,none⟩=some (.int .i64 t.kind)∧((((W.setCell ⟨w.heap.size+1+1,0,none⟩ v0).setCell ⟨w.heap.size+1+1,1,none⟩ v1).setCell ⟨w.heap.size+1+1,2,none⟩ v2).setCell ⟨w.heap.size+1+1,3,none⟩ v3).cell? ⟨w.heap.size,1,none⟩=some (.string t.name)∧((((W.setCell ⟨w.heap.size+1+1,0,none⟩ v0).setCell ⟨w.heap.size+1+1,1,none⟩ v1).setCell ⟨w.heap.size+1+1,2,none⟩ v2).setCell ⟨w.heap.size+1+1,3,none⟩ v3).cell? ⟨w.heap.size,2,none⟩=some (.int .i64 t.n)∧((((W.setCell ⟨w.heap.size+1+1,0,none⟩ v0).setCell ⟨w.heap.size+1+1,1,none⟩ v1).setCell ⟨w.heap.size+1+1,2,none⟩ v2).setCell ⟨w.heap.size+1+1,3,none⟩ v3).cell? ⟨w.heap.size,3,none⟩=some (.slice a t.args.length c)∧((((W.setCell ⟨w.heap.size+1+1,0,none⟩ v0).setCell ⟨w.heap.size+1+1,1,none⟩ v1).setCell ⟨w.heap.size+1+1,2,none⟩ v2).setCell ⟨w.heap.size+1+1,3,none⟩ v3).cell? ⟨w.heap.size+1,0,none⟩=some (.int .i64 u.kind)∧((((W.setCell ⟨w.heap.size+1+1,0,none⟩ v0).setCell ⟨w.heap.size+1+1,1,none⟩ v1).setCell ⟨w.heap.size+1+1,2,none⟩ v2).setCell ⟨w.heap.size+1+1,3,none⟩ v3).cell? ⟨w.heap.size+1,1,none⟩=some (.string u.name)∧((((W.setCell ⟨w.heap.size+1+1,0,none⟩ v0).setCell ⟨w.heap.size+1+1,1,none⟩ v1).setCell ⟨w.heap.size+1+1,2,none⟩ v2).setCell ⟨w.heap.size+1+1,3,none⟩ v3).cell? ⟨w.heap.size+1,2,none⟩=some (.int .i64 u.n)∧((((W.setCell ⟨w.heap.size+1+1,0,none⟩ v0).setCell ⟨w.heap.size+1+1,1,none⟩ v1).setCell ⟨w.heap.size+1+1,2,none⟩ v2).setCell ⟨w.heap.size+1+1,3,none⟩ v3).cell? ⟨w.heap.size+1,3,none⟩=some (.slice ua u.args.length uc)):=hid (fun W v0 v1 v2 v3 h=>by
  have q:=(MH.out.low h).set v0 v1 v2 v3;exact⟨q.1.c0,q.1.c1,q.1.c2,q.1.c3,q.2.1.c0,q.2.1.c1,q.2.1.c2,q.2.1.c3⟩)
 obtain⟨k0,k1,k2',k3,k4,k5,k6,k7⟩:=KK.out W0 (Below.refl _ _)
 go_region_held3 (fun w'=>w'.cell? ⟨w.heap.size,0,none⟩=some (.int .i64 t.kind)∧w'.cell? ⟨w.heap.size,1,none⟩=some (.string t.name)∧w'.cell? ⟨w.heap.size,2,none⟩=some (.int .i64 t.n)∧w'.cell? ⟨w.heap.size,3,none⟩=some (.slice a t.args.length c)∧w'.cell? ⟨w.heap.size+1,0,none⟩=some (.int .i64 u.kind)∧w'.cell? ⟨w.heap.size+1,1,none⟩=some (.string u.name)∧w'.cell? ⟨w.heap.size+1,2,none⟩=some (.int .i64 u.n)∧w'.cell? ⟨w.heap.size+1,3,none⟩=some (.slice ua u.args.length uc))
  (first|(with_reducible exact KS.out _ _ _ _ _ HX2.out)|(with_reducible exact KK.out _ HX2.out)|(with_reducible exact KK.out _ HX1.out)|(with_reducible exact KK.out _ HD.out)|go_keep)
  (first
   | (go_at_call 108;(with_reducible refine (CAP.out _ (AT.out.low HD.out) (UT.out.low HD.out)).mono ?_);rintro e w1 ⟨a1,c1,rfl,hA1,hb1⟩;have HX1:=hid (HD.out.trans (hb1.mono HD.out.size));have CP:=hid (CPU.out w1 a1 c1 (bL_ MH.out.hz.size HX1.out.size) (hA1.mono fun b hb=>by rcases hb with h|h;exact h.elim;exact .inr ⟨by have h1:=h.1;have h2:=MH.out.lt;simp at h1;omega,h.2⟩) (UH.out _ (MH.out.hz.trans (HX1.out.mono MH.out.hz.size))));clear hA1 hb1;unfold tv)
   | (go_at_call 109;(with_reducible refine CP.out.mono ?_);rintro e w2 ⟨a2,c2,rfl,hA2,hb2⟩;have HX2:=hid (HX1.out.trans (hb2.mono HX1.out.size));have hm2:=MH.out.low HX2.out;have r0:=hm2.kr.c0;have r1:=hm2.kr.c1;have r2:=hm2.kr.c2;have r3:=hm2.kr.c3;have f0:=hm2.kr.fr 0;have f1:=hm2.kr.fr 1;have f2:=hm2.kr.fr 2;have f3:=hm2.kr.fr 3;have M2:=hid hm2;have LW:=hid hb2.size;have HA2:=hid hA2;clear hA2 hb2 hm2;unfold tv))
 all_goals
  go_wp2;have q:=M2.out.set (.int .i64 z.kind) (.string z.name) (.int .i64 z.n) (.slice a2 z.args.length c2);refine bodyPost_ret (v:=.agg #[.int .i64 z.kind,.string z.name,.int .i64 z.n,.slice a2 z.args.length c2]) (by simp[results,Tryz.results70,go_sem,q.2.2.1.c0,q.2.2.1.c1,q.2.2.1.c2,q.2.2.1.c3]) rfl ?_;have hlt:=MH.out.lt;have hx1:=HX1.out.size;have hlw:=LW.out;have hsz:∀ v0 v1 v2 v3:Value,((((w2.setCell ⟨w.heap.size+1+1,0,none⟩ v0).setCell ⟨w.heap.size+1+1,1,none⟩ v1).setCell ⟨w.heap.size+1+1,2,none⟩ v2).setCell ⟨w.heap.size+1+1,3,none⟩ v3).heap.size=w2.heap.size:=fun _ _ _ _=>by simp
  have hne:∀ b,New (fun b=>S b∨(w.heap.size+3≤b∧b<w1.heap.size)) w1 w2 b→b≠w.heap.size+1+1∧(S b∨(w.heap.size≤b∧b<w2.heap.size)):=fun b hb=>by
   rcases hb with (h|h)|h
   ·exact⟨by have:=HS.out b h;omega,.inl h⟩
   ·exact⟨by omega,.inr (by omega)⟩
   ·exact⟨by omega,.inr (by omega)⟩
  refine⟨a2,c2,rfl,(HA2.out.keep fun b hb=>?_).mono fun b hb=>?_,q.2.2.2⟩
  ·have hb:=(hne b hb).1
   rw[av_ _ _ _ _ hb,av_ _ _ _ _ hb,av_ _ _ _ _ hb,av_ _ _ _ _ hb]
  ·exact (hne b hb).2.imp id fun h=>⟨h.1,by rw[hsz];exact h.2⟩
theorem jo_ (nm:ByteArray)(u t:Ty)(a ua:OA_)(c uc:Nat)(w:World)(hA:AtW t a c w)(hU:AtW u ua uc w)(hs:Std t)(hu:Std u)(hsz:t.size≤1000000000000)(hus:u.size≤1000000000000)(hbl:(fE_ nm u t).length≤1000000000)(hmul:t.size*((fE_ nm u t).length+1)≤100000000000000000) :
  Calls Tryz.prog 70 #[.agg #[.int .i64 t.kind,.string t.name,.int .i64 t.n,.slice a t.args.length c],.string nm,.agg #[.int .i64 u.kind,.string u.name,.int .i64 u.n,.slice ua u.args.length uc]] w (hl_ (cI_ nm u t) w) :=
 (tu_ (Lt w.heap.size) nm u t a ua c uc w hA hU (fun _ h=>h) hs hu hsz hus hbl hmul).mono fun _ _ h=>.of h
end
end Go.Proofs.YtjecnionbjlncaaGreatDoor.Tp

/- Texts laid together: R3In, R3L. -/
import Derived.Test.YtofllmemmggapaaGreatDoorP44
import Derived.Test.YtofllmemmggapaaGreatDoorP48
import Derived.Test.YtofllmemmggapaaGreatDoorP37

namespace Go.Proofs.YtofllmemmggapaaGreatDoor.Tp
open Go.RowKit Go.Sort
set_option maxRecDepth 100000 in
set_option maxHeartbeats 6400000 in
theorem rInstance_any (g s:Ty)(ga sa:Option Addr)(gc sc:Nat)(w:World)(hg:AtW g ga gc w)(hs:AtW s sa sc w)(R:FewR g s) :
  Calls Tryz.prog 20 #[tv g ga gc,tv s sa sc] w (BoolPost w (rInstT g s)):=by
 have hz1:=(Below.refl w.heap.size w).alloc (Nat.le_refl _) (.cells #[.int .i64 g.kind,.string g.name,.int .i64 g.n,.slice ga g.args.length gc] 29)
 have hz2:=hz1.alloc hz1.size (.cells #[.int .i64 s.kind,.string s.name,.int .i64 s.n,.slice sa s.args.length sc] 29)
 have kg:=(R4.new w (.int .i64 g.kind) (.string g.name) (.int .i64 g.n) (.slice ga g.args.length gc)).low ((Below.refl _ _).alloc (Nat.le_refl _) (.cells #[.int .i64 s.kind,.string s.name,.int .i64 s.n,.slice sa s.args.length sc] 29))
 have ks:=R4.new (w.alloc (.cells #[.int .i64 g.kind,.string g.name,.int .i64 g.n,.slice ga g.args.length gc] 29)) (.int .i64 s.kind) (.string s.name) (.int .i64 s.n) (.slice sa s.args.length sc)
 rw[show (w.alloc (.cells #[.int .i64 g.kind,.string g.name,.int .i64 g.n,.slice ga g.args.length gc] 29)).heap.size=w.heap.size+1 from by simp] at ks
 have HZ:=hid hz2
 have KG:=hid kg
 have KS:=hid ks
 have hfg:=freeT_len g
 have hfs:=freeT_len s
 have hzg:=R.gz
 have hzs:=R.sz
 have FL:Hid ((freeT g).length≤400∧(freeT s).length≤400∧(butI g s).length≤10000):=hid ⟨by omega,by omega,R.but⟩
 have CFG:=hid (fun (W:World) (h:Below w.heap.size w W)=>rFree_any g _ ga gc W (hg.low h) (fun _ h=>h) (std_wf g R.mg.1) (by omega))
 have CFS:=hid (fun (W:World) (h:Below w.heap.size w W)=>rFree_any s _ sa sc W (hs.low h) (fun _ h=>h) (std_wf s R.ms.1) (by omega))
 have CPG:Hid (∀ (W:World) (h:Below w.heap.size w W) (bv:Value) (hb:StrsLow W bv (butI g s)),Calls Tryz.prog 17 #[tv g ga gc,.string ⟨#[113]⟩,bv] W (RPeelPost (Lt w.heap.size) W (rPeelT qL (butI g s) g))):=hid (fun W h bv hb=>rpeel_any 113 (by decide) ⟨#[113]⟩ rfl (butI g s) g (Lt w.heap.size) ga gc bv W (hg.keep fun b hb=>h.block b hb) (fun b hb=>Nat.lt_of_lt_of_le hb h.size) hb (rpst_of R.mg R.gz R.gd R.but))
 have CPS:Hid (∀ (W:World) (h:Below w.heap.size w W) (bv:Value) (hb:StrsLow W bv (butI g s)),Calls Tryz.prog 17 #[tv s sa sc,.string ⟨#[112]⟩,bv] W (RPeelPost (Lt w.heap.size) W (rPeelT pL (butI g s) s))):=hid (fun W h bv hb=>rpeel_any 112 (by decide) ⟨#[112]⟩ rfl (butI g s) s (Lt w.heap.size) sa sc bv W (hs.keep fun b hb=>h.block b hb) (fun b hb=>Nat.lt_of_lt_of_le hb h.size) hb (rpst_of R.ms R.sz R.sd R.but))
 have RM:=hid R.refM
 have IE:Hid (rInstT g s=(rMatchT (rPeelT qL (butI g s) g).2 (rPeelT pL (butI g s) s).2 (rPeelT qL (butI g s) g).1).isSome):=hid rfl
 generalize rPeelT qL (butI g s) g=rq at *
 generalize rPeelT pL (butI g s) s=rp at *
 have CMA:=hid (fun (W:World) (qa pa:Option Addr) (qc pc:Nat) (vs:Value) (h1:AtW rq.2 qa qc W) (h2:AtW rp.2 pa pc W) (h3:StrsLow W vs rq.1)=>rMatch_any rq.2 rp.2 rq.1 qa pa qc pc vs W h1 h2 h3 RM.out)
 unfold tv at CFG CFS CPG CPS CMA ⊢
 clear hg hs R hz1 hz2 kg ks hfg hfs hzg hzs
 go_enter Tryz.func20,Tryz.ntmps20
 go_wp2
 generalize (w.alloc (.cells #[.int .i64 g.kind,.string g.name,.int .i64 g.n,.slice ga g.args.length gc] 29)).alloc (.cells #[.int .i64 s.kind,.string s.name,.int .i64 s.n,.slice sa s.args.length sc] 29)=W0 at *
 have HD:=hid (Below.refl W0.heap.size W0).drew
 have HDA:Hid (Below W0.heap.size W0 (W0.alloc (.cells #[] 9)).drew):=hid ((Below.refl W0.heap.size W0).alloc (Nat.le_refl _) _).drew
 have KK:Hid (∀ W:World,Below W0.heap.size W0 W→(W.cell? ⟨w.heap.size,0,none⟩=some (.int .i64 g.kind)∧W.cell? ⟨w.heap.size,1,none⟩=some (.string g.name)∧W.cell? ⟨w.heap.size,2,none⟩=some (.int .i64 g.n)∧W.cell? ⟨w.heap.size,3,none⟩=some (.slice ga g.args.length gc)∧W.cell? ⟨w.heap.size+1,0,none⟩=some (.int .i64 s.kind)∧W.cell? ⟨w.heap.size+1,1,none⟩=some (.string s.name)∧W.cell? ⟨w.heap.size+1,2,none⟩=some (.int .i64 s.n)∧W.cell? ⟨w.heap.size+1,3,none⟩=some (.slice sa s.args.length sc))):=hid (fun W h=>⟨(KG.out.low h).c0,(KG.out.low h).c1,(KG.out.low h).c2,(KG.out.low h).c3,(KS.out.low h).c0,(KS.out.low h).c1,(KS.out.low h).c2,(KS.out.low h).c3⟩)
 go_upto_region 1 with fail
 go_cut [5] from 12 to 19 (fun s' wx=>StrsLow wx s' (butI g s)∧Below W0.heap.size W0 wx)
 case first =>
  obtain⟨k0,k1,k2',k3,k4,k5,k6,k7⟩:=KK.out W0 (Below.refl _ _)
  have CG0:=hid (CFG.out W0.drew (HZ.out.trans (HD.out.mono HZ.out.size)))
  have CG1:=hid (CFG.out (W0.alloc (.cells #[] 9)).drew (HZ.out.trans (HDA.out.mono HZ.out.size)))
  go_region_held3 (fun w'=>(w'.cell? ⟨w.heap.size,0,none⟩=some (.int .i64 g.kind)∧w'.cell? ⟨w.heap.size,1,none⟩=some (.string g.name)∧w'.cell? ⟨w.heap.size,2,none⟩=some (.int .i64 g.n)∧w'.cell? ⟨w.heap.size,3,none⟩=some (.slice ga g.args.length gc)∧w'.cell? ⟨w.heap.size+1,0,none⟩=some (.int .i64 s.kind)∧w'.cell? ⟨w.heap.size+1,1,none⟩=some (.string s.name)∧w'.cell? ⟨w.heap.size+1,2,none⟩=some (.int .i64 s.n)∧w'.cell? ⟨w.heap.size+1,3,none⟩=some (.slice sa s.args.length sc)))
   (first|(with_reducible exact KK.out _ HX5.out)|(with_reducible exact KK.out _ HX4.out)|(with_reducible exact KK.out _ HX3.out)|(with_reducible exact KK.out _ HXA.out)|(with_reducible exact KK.out _ HX2.out)|(with_reducible exact KK.out _ HDA.out)|(with_reducible exact KK.out _ HD.out)|go_keep)
   (first
    | (go_at_call 18;(with_reducible refine CG0.out.mono ?_);rintro e w2 ⟨v,rfl,h1,hb1⟩;have HX2:=hid (HD.out.trans (hb1.mono HD.out.size));have HXA:Hid (Below W0.heap.size W0 (w2.alloc (.cells #[] 9))):=hid (HX2.out.alloc HX2.out.size (.cells #[] 9));have A2:=hid (but_nil (W:=W0) (b:=w2.heap.size) HXA.out (heap_alloc_new w2 (.cells #[] 9)) HX2.out.size (h1.low ((Below.refl _ _).alloc (Nat.le_refl _) _)));clear h1 hb1)
    | (go_at_call 18;(with_reducible refine CG1.out.mono ?_);rintro e w2 ⟨v,rfl,h1,hb1⟩;have HX2:=hid (HDA.out.trans (hb1.mono HDA.out.size));have A2:=hid (but_nil (W:=W0) (b:=W0.heap.size) HX2.out ((hb1.block _ (by simp)).trans (heap_alloc_new W0 (.cells #[] 9))) (Nat.le_refl _) h1);clear h1 hb1)
    | (refine step_append_ok (by rfl) _ _ _ (by rfl) (by rfl) (by rfl) A2.out ?_;rintro v1 w3 ⟨ho,hx⟩;obtain⟨ob,od,hv⟩:=own_form ho;subst hv;have HX3:=hid hx;have HO3:=hid ho;have CF3:=hid (CFS.out w3 (HZ.out.trans (hx.mono HZ.out.size)));clear ho hx A2)
    | (go_at_call 18;(with_reducible refine CF3.out.mono ?_);rintro e w4 ⟨v,rfl,h1,hb1⟩;have HX4:=hid (HX3.out.trans (hb1.mono HX3.out.size));have A4:=hid (but_two 22 (W:=W0) HX4.out (own_keep4 HO3.out fun b hb=>hb1.block b (HO3.out.lt b hb).2) (by have:=FL.out;omega) h1);clear h1 hb1)
    | (refine step_append_ok (by rfl) _ _ _ (by rfl) (by rfl) (by rfl) A4.out ?_;rintro v5 w5 ⟨ho,hx⟩;have HX5:=hid hx;have HO5:=hid ho;clear ho hx))
  all_goals
   go_wp2_with fail
   go_meet
   exact⟨.own HO5.out (by have:=FL.out.2.2;omega),HX5.out⟩
 obtain⟨hbut,hB⟩:=hcut
 have BU:=hid hbut
 have HBW:=hid hB
 have BW:=hid (HZ.out.trans (hB.mono HZ.out.size))
 obtain⟨k0,k1,k2',k3,k4,k5,k6,k7⟩:=KK.out wc hB
 have C1:=hid (CPG.out wc BW.out _ BU.out)
 clear hbut hB HD HDA
 go_wp2_with fail
 refine C1.out.mono ?_
 rintro e w3 ⟨hb3,qv,qa,qc,rfl,hqv0,hqA0⟩
 have hqv:StrsLow w3 qv rq.1:=hqv0.mono fun b hb=>hb.2
 have hqA:AtW rq.2 qa qc w3:=hqA0.mono fun b hb=>hb.elim (fun h=>Nat.lt_of_lt_of_le h (Nat.le_trans BW.out.size hb3.size)) (fun h=>h.2)
 unfold tv
 have hal:=(Below.refl w3.heap.size w3).alloc (Nat.le_refl _) (.cells #[.int .i64 rq.2.kind,.string rq.2.name,.int .i64 rq.2.n,.slice qa rq.2.args.length qc] 29)
 have hx3:=hb3.trans (hal.mono hb3.size)
 have KQ:=hid (R4.new w3 (.int .i64 rq.2.kind) (.string rq.2.name) (.int .i64 rq.2.n) (.slice qa rq.2.args.length qc))
 have QA:=hid (hqA.low hal)
 have QV:=hid (StrsLow.low hqv hal)
 have B3:=hid (BW.out.trans (hx3.mono BW.out.size))
 have HB3:=hid (HBW.out.trans (hx3.mono HBW.out.size))
 have BU3:=hid (BU.out.low hx3)
 clear hb3 hqv hqA hqv0 hqA0 hx3 hal k0 k1 k2' k3 k4 k5 k6 k7 C1
 go_upto_region 3 with fail
 generalize w3.alloc (.cells #[.int .i64 rq.2.kind,.string rq.2.name,.int .i64 rq.2.n,.slice qa rq.2.args.length qc] 29)=wX at *
 obtain⟨k0,k1,k2',k3,k4,k5,k6,k7⟩:=KK.out wX HB3.out
 have C2:=hid (CPS.out wX B3.out _ BU3.out)
 go_wp2_with fail
 refine C2.out.mono ?_
 rintro e w4 ⟨hb4,pv,pa,pc,rfl,hpv,hpA0⟩
 have hpA:AtW rp.2 pa pc w4:=hpA0.mono fun b hb=>hb.elim (fun h=>Nat.lt_of_lt_of_le h (Nat.le_trans B3.out.size hb4.size)) (fun h=>h.2)
 unfold tv
 have hal:=(Below.refl w4.heap.size w4).alloc (Nat.le_refl _) (.cells #[.int .i64 rp.2.kind,.string rp.2.name,.int .i64 rp.2.n,.slice pa rp.2.args.length pc] 29)
 have hx4:=hb4.trans (hal.mono hb4.size)
 have kp:=R4.new w4 (.int .i64 rp.2.kind) (.string rp.2.name) (.int .i64 rp.2.n) (.slice pa rp.2.args.length pc)
 have kq:=KQ.out.low hx4
 have B4':=hid (B3.out.trans (hx4.mono B3.out.size))
 have CM:=hid (CMA.out _ qa pa qc pc qv (QA.out.low hx4) (hpA.low hal) (QV.out.low hx4))
 have q0:=kq.c0
 have q1:=kq.c1
 have q2:=kq.c2
 have q3:=kq.c3
 have p0:=kp.c0
 have p1:=kp.c1
 have p2:=kp.c2
 have p3:=kp.c3
 clear hb4 hpv hpA hpA0 hal hx4 kp kq k0 k1 k2' k3 k4 k5 k6 k7 C2
 go_upto_region 4 with fail
 generalize w4.alloc (.cells #[.int .i64 rp.2.kind,.string rp.2.name,.int .i64 rp.2.n,.slice pa rp.2.args.length pc] 29)=wY at *
 generalize rMatchT rq.2 rp.2 rq.1=o at *
 go_wp2_with fail
 refine CM.out.mono ?_
 rintro e w5 ⟨hb5,hm⟩
 have BF:=hid (B4'.out.trans (hb5.mono B4'.out.size))
 clear hb5 CM
 cases o with
 | none =>
  subst hm
  go_wp2
  go_ret
  exact⟨by rw[IE.out];exact ret_bool rfl,BF.out⟩
 | some l =>
  obtain⟨lv,n,rfl,_,_⟩:=hm
  go_wp2
  go_ret
  exact⟨by rw[IE.out];exact ret_bool rfl,BF.out⟩
theorem fv_lexn (x:ByteArray):∀ t:Ty,LexT t→fvT x t→LexN x:=by
 intro t
 induction t using Ty.ind with
 | h t ih =>
  intro hl h
  rcases (fvT_iff x t).1 h with h|⟨⟨a,ha,h⟩,_⟩
  ·exact h.2 ▸ lexN_of hl (.inl h.1)
  ·exact ih a ha (((lex_iff t).1 hl).2 a ha) h
theorem rd_ref {s:ByteArray}{t:Ty}(h:rdT s=some t):Mk t∧t.size≤400∧t.depth≤400:=by
 obtain⟨h1,_,h3⟩:=rdT_some h
 have:=parse_made h1
 have e:s.size=s.data.toList.length:=by rw[Array.length_toList];rfl
 exact⟨this.1,by omega,by omega⟩
theorem rd_refM {s s':ByteArray}{t u:Ty}{vars:List ByteArray}(h:rdT s=some t)(h':rdT s'=some u)(hv:vars.length≤4000):RefM t u vars :=
 ⟨(rd_ref h).1,(rd_ref h').1,(rd_ref h).2.1,(rd_ref h').2.1,hv⟩
theorem rd_fewR {s s':ByteArray}{t u:Ty}(h:rdT s=some t)(h':rdT s'=some u):FewR t u :=
 ⟨(rd_ref h).1,(rd_ref h').1,(rd_ref h).2.1,(rd_ref h').2.1,(rd_ref h).2.2,(rd_ref h').2.2⟩
theorem tlen_ref {p t:Ty}{vars:List ByteArray}(R:RefM p t vars){l:Fnd}(h:rMatchT p t vars=some l):TLen l∧∀ e∈l,Mk e.2∧e.2.size≤400:=by
 have hc:colM p t vars=some l:=by
  unfold rMatchT at h
  cases hc:colM p t vars with
  | none=>rw[hc] at h;cases h
  | some l' =>
   rw[hc] at h
   simp only at h
   split at h
   ·exact h
   ·cases h
 obtain⟨hk,hm⟩:=R.col hc
 obtain⟨hl,_⟩:=R.av hk hm
 refine⟨⟨by omega,fun e he=>?_⟩,hm⟩
 have hx:e.1∈ownL p vars:=by rw[← hk];exact List.mem_map.2 ⟨e,he,rfl⟩
 have hlx:=fv_lexn e.1 p R.mp.2 (own_iff2.1 hx).1
 have:=nameT_size hlx.1
 have h2:=hm e he
 exact⟨by omega,⟨mk_good _ h2.1,by omega⟩,by omega⟩
def RowH (w:World)(v:Value)(l:Fnd):Prop:=∃ n,RowB n n w v l∧n≤w.heap.size
theorem RowH.low {w w':World}{v:Value}{l:Fnd}(h:RowH w v l)(hb:Below w.heap.size w w'):RowH w' v l:=by
 obtain⟨n,h1,h2⟩:=h
 exact⟨n,h1.low h2 hb,Nat.le_trans h2 hb.size⟩
section
variable {p t : Ty} {vars : List ByteArray} {pa ta : Option Addr} {pc tc : Nat} {vs : Value} {w : World}
theorem match_none_h (R:AtW p pa pc w)(U:AtW t ta tc w)(hv:StrsLow w vs vars)(hs:Small t)(hz:p.size≤4000)(hT:Tab w)(hM:MatchT p t vars=none) :
  Calls Tryz.prog 11 #[.agg #[.int .i64 p.kind,.string p.name,.int .i64 p.n,.slice pa p.args.length pc],.agg #[.int .i64 t.kind,.string t.name,.int .i64 t.n,.slice ta t.args.length tc],vs] w (fun e w'=>e=.returned (.tuple #[.slice none 0 0,.bool false])∧Below w.heap.size w w'):=by
 have h:=match_h R U hv hs hz hT
 rw[hM] at h
 exact h.mono fun e w' h=>⟨h.2,h.1⟩
theorem match_some_h (R:AtW p pa pc w)(U:AtW t ta tc w)(hv:StrsLow w vs vars)(hs:Small t)(hz:p.size≤4000)(hT:Tab w){l:Fnd}(hM:MatchT p t vars=some l) :
  Calls Tryz.prog 11 #[.agg #[.int .i64 p.kind,.string p.name,.int .i64 p.n,.slice pa p.args.length pc],.agg #[.int .i64 t.kind,.string t.name,.int .i64 t.n,.slice ta t.args.length tc],vs] w (fun e w'=>∃ a c,e=.returned (.tuple #[.slice a l.length c,.bool true])∧BndAt (fun b=>b<w'.heap.size) w' (.slice a l.length c) l∧Below w.heap.size w w'):=by
 have h:=match_h R U hv hs hz hT
 rw[hM] at h
 refine h.mono ?_
 rintro e w' ⟨hb,v,rfl,hB⟩
 obtain⟨a,c,rfl,_⟩:=id hB
 exact⟨a,c,rfl,hB,hb⟩
theorem rmatch_none_h (R:AtW p pa pc w)(U:AtW t ta tc w)(hv:StrsLow w vs vars)(hR:RefM p t vars)(hM:rMatchT p t vars=none) :
  Calls Tryz.prog 12 #[.agg #[.int .i64 p.kind,.string p.name,.int .i64 p.n,.slice pa p.args.length pc],.agg #[.int .i64 t.kind,.string t.name,.int .i64 t.n,.slice ta t.args.length tc],vs] w (fun e w'=>e=.returned (.tuple #[.slice none 0 0,.bool false])∧Below w.heap.size w w'):=by
 have h:=rMatch_any p t vars pa ta pc tc vs w R U hv hR
 rw[hM] at h
 exact h.mono fun e w' h=>⟨h.2,h.1⟩
theorem rmatch_some_h (R:AtW p pa pc w)(U:AtW t ta tc w)(hv:StrsLow w vs vars)(hR:RefM p t vars){l:Fnd}(hM:rMatchT p t vars=some l) :
  Calls Tryz.prog 12 #[.agg #[.int .i64 p.kind,.string p.name,.int .i64 p.n,.slice pa p.args.length pc],.agg #[.int .i64 t.kind,.string t.name,.int .i64 t.n,.slice ta t.args.length tc],vs] w (fun e w'=>∃ a c,e=.returned (.tuple #[.slice a l.length c,.bool true])∧RowH w' (.slice a l.length c) l∧Below w.heap.size w w'):=by
 have h:=rMatch_any p t vars pa ta pc tc vs w R U hv hR
 rw[hM] at h
 refine h.mono ?_
 rintro e w' ⟨hb,v,n,rfl,hB,hn⟩
 obtain⟨a,c,rfl⟩:=hB.form
 exact⟨a,c,rfl,⟨n,hB,hn⟩,hb⟩
theorem rinst_h (R:AtW p pa pc w)(U:AtW t ta tc w)(F:FewR p t) :
  Calls Tryz.prog 20 #[.agg #[.int .i64 p.kind,.string p.name,.int .i64 p.n,.slice pa p.args.length pc],.agg #[.int .i64 t.kind,.string t.name,.int .i64 t.n,.slice ta t.args.length tc]] w (BoolPost w (InstT p t)):=by
 have h:=rInstance_any p t pa ta pc tc w R U F
 rw[F.inst] at h
 exact h
end
def RPkH (m:Nat)(w:World)(ns:List ByteArray)(b:Ty)(e:Ending)(w':World):Prop :=
 ∃ na nc a c,e=.returned (.tuple #[.slice na ns.length nc,.agg #[.int .i64 b.kind,.string b.name,.int .i64 b.n,.slice a b.args.length c]])∧StrsAt (In w.heap.size w'.heap.size) w' (.slice na ns.length nc) ns∧ArgsAt (New (Lt m) w w') w' (.slice a b.args.length c) b.args∧Below w.heap.size w w'
theorem rpeel_h {t b:Ty}{ns:List ByteArray}{m:Nat}{a:Option Addr}{c:Nat}{bv:Value}{w:World}(R:ArgsAt (Lt m) w (.slice a t.args.length c) t.args)(hm:m≤w.heap.size)(hv:StrsLow w bv (freeT t))(hR:Mk t∧t.size≤400∧t.depth≤400)(h1:(rPeelT pL (freeT t) t).1=ns)(h2:(rPeelT pL (freeT t) t).2=b) :
  Calls Tryz.prog 17 #[.agg #[.int .i64 t.kind,.string t.name,.int .i64 t.n,.slice a t.args.length c],.string ⟨#[112]⟩,bv] w (RPkH m w ns b):=by
 have h:=rpeel_any 112 (by decide) ⟨#[112]⟩ rfl (freeT t) t (Lt m) a c bv w R (fun b hb=>Nat.lt_of_lt_of_le hb hm) hv (rpst_of hR.1 hR.2.1 hR.2.2 (by have:=freeT_len t;have:=hR.2.1;omega))
 unfold tv at h
 refine h.mono ?_
 rintro e w' ⟨hb,v,a',c',rfl,hs,hA⟩
 have e1:rPeelT ⟨#[112]⟩ (freeT t) t=(ns,b):=by rw[← h1,← h2];rfl
 rw[e1] at hs hA ⊢
 obtain⟨na,nc,rfl,_⟩:=id hs
 exact⟨na,nc,a',c',rfl,hs,hA,hb⟩
def PkCut (w:World)(ns:List ByteArray)(b:Ty)(nv bp:Value)(wx:World):Prop:=∃ B n na nc a c,nv=.slice na ns.length nc∧bp=.pointer (some ⟨B,0,none⟩)∧StrsLow wx (.slice na ns.length nc) ns∧HoldR n B b a c wx∧Below w.heap.size w wx
theorem PkCut.new {w w1 w2:World}{m:Nat}{ns:List ByteArray}{b:Ty}{na a:Option Addr}{nc c:Nat}(hw:Below w.heap.size w w1)(hm:m≤w.heap.size)(hs:StrsAt (In w1.heap.size w2.heap.size) w2 (.slice na ns.length nc) ns)(hA:ArgsAt (New (Lt m) w1 w2) w2 (.slice a b.args.length c) b.args)(hb:Below w1.heap.size w1 w2) :
  PkCut w ns b (.slice na ns.length nc) (.pointer (some ⟨w2.heap.size,0,none⟩)) (w2.alloc (.cells #[.int .i64 b.kind,.string b.name,.int .i64 b.n,.slice a b.args.length c] 29)):=by
 have hz:Below w2.heap.size w2 (w2.alloc (.cells #[.int .i64 b.kind,.string b.name,.int .i64 b.n,.slice a b.args.length c] 29)):=(Below.refl _ _).alloc (Nat.le_refl _) _
 have hB:=hw.trans (hb.mono hw.size)
 have hs2:StrsLow w2 (.slice na ns.length nc) ns:=hs.mono fun b hb=>hb.2
 exact⟨w2.heap.size,w2.heap.size,na,nc,a,c,rfl,rfl,hs2.low hz,.of_at (hA.mono fun b hb'=>hb'.elim (fun h=>Nat.lt_of_lt_of_le h (Nat.le_trans hm hB.size)) fun h=>h.2),hB.alloc hB.size _⟩
theorem PkCut.old {w w1 w2:World}{m B:Nat}{ns:List ByteArray}{b:Ty}{na a:Option Addr}{nc c:Nat}{q0 q1 q2 q3:Value}(hw:Below w.heap.size w w1)(hm:m≤w.heap.size)(hB0:w.heap.size≤B)(hB1:B<w1.heap.size)(hs:StrsAt (In w1.heap.size w2.heap.size) w2 (.slice na ns.length nc) ns)(hA:ArgsAt (New (Lt m) w1 w2) w2 (.slice a b.args.length c) b.args)(hb:Below w1.heap.size w1 w2)(hk:R4 w2 B q0 q1 q2 q3) :
  PkCut w ns b (.slice na ns.length nc) (.pointer (some ⟨B,0,none⟩)) ((((w2.setCell ⟨B,0,none⟩ (.int .i64 b.kind)).setCell ⟨B,1,none⟩ (.string b.name)).setCell ⟨B,2,none⟩ (.int .i64 b.n)).setCell ⟨B,3,none⟩ (.slice a b.args.length c)):=by
 have hBB:=hw.trans (hb.mono hw.size)
 obtain⟨W,hW⟩:∃ W,(((w2.setCell ⟨B,0,none⟩ (.int .i64 b.kind)).setCell ⟨B,1,none⟩ (.string b.name)).setCell ⟨B,2,none⟩ (.int .i64 b.n)).setCell ⟨B,3,none⟩ (.slice a b.args.length c)=W:=⟨_,rfl⟩
 have off:∀ j,j≠B→W.heap[j]? = w2.heap[j]? := fun j hj=>by rw[← hW,Below.heap_setCell _ _ _ _ hj,Below.heap_setCell _ _ _ _ hj,Below.heap_setCell _ _ _ _ hj,Below.heap_setCell _ _ _ _ hj]
 have hsz:W.heap.size=w2.heap.size:=by rw[← hW];simp
 have k4:=hk.set4 (.int .i64 b.kind) (.string b.name) (.int .i64 b.n) (.slice a b.args.length c)
 have h4:=hBB.set4 hB0 (.int .i64 b.kind) (.string b.name) (.int .i64 b.n) (.slice a b.args.length c)
 rw[hW] at k4 h4 ⊢
 refine⟨B,W.heap.size,na,nc,a,c,rfl,rfl,(hs.keep fun j hj=>off j (by have:=hj.1;omega)).mono fun j hj=>by rw[hsz];exact hj.2,⟨k4,(hA.keep fun j hj=>off j ?_).mono fun j hj=>?_,k4.lt,Nat.le_refl _⟩,h4⟩
 ·rcases hj with hj|hj
  ·have:j<m:=hj;omega
  ·omega
 ·show j<W.heap.size
  rw[hsz]
  rcases hj with hj|hj
  ·have:j<m:=hj;have:=hBB.size;omega
  ·exact hj.2
theorem rcanon_eq {t u:Ty}{a:Option Addr}{c:Nat}{W:World}(R:AtW t a c W)(h:CanonR t)(e:canonS t=canonS u) :
  Calls Tryz.prog 14 #[.agg #[.int .i64 t.kind,.string t.name,.int .i64 t.n,.slice a t.args.length c]] W (StrPost W (canonS u)):=by
 rw[← e]
 exact rcanon_h R h
theorem peel_law {s:ByteArray}{t:Ty}(h:rdT s=some t):(rPeelT pL (freeT t) t).1=(PeelT pL (freeT t) t).1∧canonS (rPeelT pL (freeT t) t).2=canonS (PeelT pL (freeT t) t).2∧Small (PeelT pL (freeT t) t).2∧CanonR (rPeelT pL (freeT t) t).2:=by
 obtain⟨hm,hz,hd⟩:=rd_ref h
 obtain⟨A,B,C⟩:=peel_both 112 (by decide) (but:=freeT t) hm hz hd (by have:=freeT_len t;omega) (fun x h=>(mem_free x t).2 h)
 refine⟨C.names.symm,?_,⟨mk_good _ A.good,by have:(PeelT pL (freeT t) t).2.size≤t.size:=A.size;omega⟩,canonR_mk B.good (by have:(rPeelT pL (freeT t) t).2.size≤t.size:=B.size;omega)⟩
 have hcc:canonT (rPeelT pL (freeT t) t).2=canonT (PeelT pL (freeT t) t).2:=canon_congr B.good.1 A.good.1 C.db.symm
 unfold canonS
 rw[hcc]
end Go.Proofs.YtofllmemmggapaaGreatDoor.Tp

/- Texts laid together: MaVar, MaVarW. -/
import Derived.Test.YtofllmemmggapaaGreatDoorP32
import Derived.Test.YtofllmemmggapaaGreatDoorP24
import Derived.Deep.CutRange
import Derived.Deep.RegionLaw

namespace Go.Proofs.YtofllmemmggapaaGreatDoor.Tp
open Go.RowKit Go.Sort
structure MtAt (S:Nat→Prop)(w:World)(mb fb:Nat)(vars:List ByteArray)(f:Fnd):Prop where
 m:∃ vv,w.heap[mb]? = some (.cells #[vv,.map (some fb)] 68 (0,0))∧StrsAt S w vv vars
 fnd:FndAt S w fb f
 ne:mb≠fb
 hS:∀ b,S b→b<w.heap.size∧b≠fb
 small:∀ x u,lkF f x=some u→Small u
 tab:Tab w
 tne:fb≠0
theorem MtAt.mlt {S:Nat→Prop}{w:World}{mb fb:Nat}{vars:List ByteArray}{f:Fnd}(h:MtAt S w mb fb vars f):mb<w.heap.size:=by
 obtain⟨vv,h1,_⟩:=h.m;exact (Array.getElem?_eq_some_iff.1 h1).1
theorem MtAt.low {S:Nat→Prop}{w w':World}{mb fb:Nat}{vars:List ByteArray}{f:Fnd}(h:MtAt S w mb fb vars f)(hb:Below w.heap.size w w'):MtAt S w' mb fb vars f:=by
 have hm:=h.mlt
 obtain⟨vv,h1,h2⟩:=h.m
 exact⟨⟨vv,(hb.block mb hm).trans h1,h2.keep fun b hb'=>hb.block b (h.hS b hb').1⟩,h.fnd.keep (hb.block fb h.fnd.lt) fun b hb'=>hb.block b (h.hS b hb').1,h.ne,fun b hb'=>⟨Nat.lt_of_lt_of_le (h.hS b hb').1 hb.size,(h.hS b hb').2⟩,h.small,tab_below h.tab hb,h.tne⟩
theorem MtAt.upd {S:Nat→Prop}{w w':World}{mb fb:Nat}{vars:List ByteArray}{f:Fnd}(h:MtAt S w mb fb vars f){s:ByteArray}{u:Ty}(hl:lkF f s=none)(hu:Small u)(hg:w.grownBy w' (some fb))(hf:FndAt S w' fb (f++[(s,u)])):MtAt S w' mb fb vars (f++[(s,u)]):=by
 have hm:=h.mlt
 obtain⟨vv,h1,h2⟩:=h.m
 refine⟨⟨vv,(hg.block mb hm (fun e=>h.ne (Option.some.inj e))).trans h1,h2.keep fun b hb'=>hg.block b (h.hS b hb').1 (fun e=>(h.hS b hb').2 (Option.some.inj e))⟩,hf,h.ne,fun b hb'=>⟨Nat.lt_of_lt_of_le (h.hS b hb').1 hg.size,(h.hS b hb').2⟩,fun x y hy=>?_,(tab_kept h.tab).2 (hg.block _ (tab_kept (w':=w') h.tab).1 (fun e=>h.tne (Option.some.inj e).symm)),h.tne⟩
 by_cases e:s=x
 ·subst e;rw[lk_snoc_new hl] at hy;exact Option.some.inj hy ▸ hu
 ·rw[lk_snoc_other e] at hy;exact h.small x y hy
def MPost (S:Nat→Prop)(mb fb:Nat)(vars:List ByteArray)(r:Bool × Fnd)(w:World)(e:Ending)(w':World):Prop :=
 e=.returned (.bool r.1)∧MtAt S w' mb fb vars r.2∧Kp w.heap.size (fun b=>b=fb) w w'
structure VM (S R:Nat→Prop)(W:World)(pb tb mb fb:Nat)(p t:Ty)(pv tv' v:Value)(vars:List ByteArray)(f:Fnd)(ps:Prs):Prop where
 kp:B4 W pb (.int .i64 p.kind) (.string p.name) (.int .i64 p.n) pv
 kt:B4 W tb (.int .i64 t.kind) (.string t.name) (.int .i64 t.n) tv'
 mt:MtAt S W mb fb vars f
 at_:ArgsAt S W tv' t.args
 pr:PairsAt R W v ps
 hR:∀ b,R b→b<W.heap.size∧b≠fb
 pne:pb≠fb
 tne:tb≠fb
theorem VM.low {S R:Nat→Prop}{W W':World}{pb tb mb fb:Nat}{p t:Ty}{pv tv' v:Value}{vars:List ByteArray}{f:Fnd}{ps:Prs}(h:VM S R W pb tb mb fb p t pv tv' v vars f ps)(hb:Below W.heap.size W W'):VM S R W' pb tb mb fb p t pv tv' v vars f ps :=
 ⟨h.kp.low hb,h.kt.low hb,h.mt.low hb,h.at_.keep fun b hb'=>hb.block b (h.mt.hS b hb').1,h.pr.keep fun b hb'=>hb.block b (h.hR b hb').1,fun b hb'=>⟨Nat.lt_of_lt_of_le (h.hR b hb').1 hb.size,(h.hR b hb').2⟩,h.pne,h.tne⟩
theorem VM.upd {S R:Nat→Prop}{W W':World}{pb tb mb fb:Nat}{p t:Ty}{pv tv' v:Value}{vars:List ByteArray}{f:Fnd}{ps:Prs}(h:VM S R W pb tb mb fb p t pv tv' v vars f ps){s:ByteArray}{u:Ty}(hl:lkF f s=none)(hu:Small u)(hg:W.grownBy W' (some fb))(hf:FndAt S W' fb (f++[(s,u)])) :
  VM S R W' pb tb mb fb p t pv tv' v vars (f++[(s,u)]) ps :=
 ⟨h.kp.grown hg (fun e=>h.pne (Option.some.inj e).symm),h.kt.grown hg (fun e=>h.tne (Option.some.inj e).symm),h.mt.upd hl hu hg hf,h.at_.keep fun b hb'=>hg.block b (h.mt.hS b hb').1 (fun e=>(h.mt.hS b hb').2 (Option.some.inj e)),
  h.pr.keep fun b hb'=>hg.block b (h.hR b hb').1 (fun e=>(h.hR b hb').2 (Option.some.inj e)),fun b hb'=>⟨Nat.lt_of_lt_of_le (h.hR b hb').1 hg.size,(h.hR b hb').2⟩,h.pne,h.tne⟩
section
variable {S R : Nat → Prop} {W : World} {pb tb mb fb : Nat} {p t : Ty} {pv v : Value} {a : Option Addr} {c : Nat} {vars : List ByteArray} {f : Fnd} {ps : Prs}
theorem VM.place1 (h:VM S R W pb tb mb fb p t pv (.slice a t.args.length c) v vars f ps):Calls Tryz.prog 80 #[v,.func (.func 81) #[] #[.pointer (some ⟨pb,0,none⟩)]] W (IntPost W (atJ ps.length (ixN (epS ps) p.name))):=by
 rw[← lastJ_ep]
 exact place_any _ #[.pointer (some ⟨pb,0,none⟩)] var1Enters (fun x=>eqN x.1 p.name) ps R v W h.pr (fun b hb=>(h.hR b hb).1) fun i hi W' hW=>var1_any _ _ _ _ _ _ _ W' (h.kp.low hW)
theorem VM.place2 (h:VM S R W pb tb mb fb p t pv (.slice a t.args.length c) v vars f ps):Calls Tryz.prog 80 #[v,.func (.func 83) #[] #[.pointer (some ⟨tb,0,none⟩)]] W (IntPost W (atJ ps.length (ixN (etS ps) t.name))):=by
 rw[← lastJ_et]
 exact place_any _ #[.pointer (some ⟨tb,0,none⟩)] var2Enters (fun x=>eqN x.2 t.name) ps R v W h.pr (fun b hb=>(h.hR b hb).1) fun i hi W' hW=>var2_any _ _ _ _ _ _ _ W' (h.kt.low hW)
theorem VM.own (h:VM S R W pb tb mb fb p t pv (.slice a t.args.length c) v vars f ps)(hz:t.size≤1099511627776):Calls Tryz.prog 82 #[.agg #[.int .i64 t.kind,.string t.name,.int .i64 t.n,.slice a t.args.length c],v] W (BoolPost W (ownB t (etS ps))) :=
 own_any t ps S R a c v W h.at_ h.pr (fun b hb=>(h.mt.hS b hb).1) (fun b hb=>(h.hR b hb).1) hz
theorem VM.atW (h:VM S R W pb tb mb fb p t pv (.slice a t.args.length c) v vars f ps):AtW t a c W:=h.at_.mono fun b hb=>(h.mt.hS b hb).1
end
theorem zeroType (w:World):(zeroValue 26).run Tryz.prog w=.ok (.agg #[.int .i64 0,.string ByteArray.empty,.int .i64 0,.slice none 0 0]) w:=by kernel_rfl
theorem b3_false (b c:Bool):(false&&b&&c)=false:=by cases b<;>cases c<;>rfl
theorem vm_new {S R:Nat→Prop}{w:World}{mb fb:Nat}{p t:Ty}{pa ta:Option Addr}{pc tc:Nat}{v:Value}{vars:List ByteArray}{f:Fnd}{ps:Prs}(hM:MtAt S w mb fb vars f)(ht:ArgsAt S w (.slice ta t.args.length tc) t.args)(hP:PairsAt R w v ps)(hR:∀ b,R b→b<w.heap.size∧b≠fb) :
  Below w.heap.size w ((w.alloc (.cells #[.int .i64 p.kind,.string p.name,.int .i64 p.n,.slice pa p.args.length pc] 26)).alloc (.cells #[.int .i64 t.kind,.string t.name,.int .i64 t.n,.slice ta t.args.length tc] 26))∧VM S R ((w.alloc (.cells #[.int .i64 p.kind,.string p.name,.int .i64 p.n,.slice pa p.args.length pc] 26)).alloc (.cells #[.int .i64 t.kind,.string t.name,.int .i64 t.n,.slice ta t.args.length tc] 26)) w.heap.size (w.heap.size+1) mb fb p t (.slice pa p.args.length pc) (.slice ta t.args.length tc) v vars f ps:=by
 have hz1:=(Below.refl w.heap.size w).alloc (Nat.le_refl _) (.cells #[.int .i64 p.kind,.string p.name,.int .i64 p.n,.slice pa p.args.length pc] 26)
 have hz:=hz1.alloc hz1.size (.cells #[.int .i64 t.kind,.string t.name,.int .i64 t.n,.slice ta t.args.length tc] 26)
 have kp:=(B4.new w (.int .i64 p.kind) (.string p.name) (.int .i64 p.n) (.slice pa p.args.length pc)).low ((Below.refl _ _).alloc (Nat.le_refl _) (.cells #[.int .i64 t.kind,.string t.name,.int .i64 t.n,.slice ta t.args.length tc] 26))
 have kt:=B4.new (w.alloc (.cells #[.int .i64 p.kind,.string p.name,.int .i64 p.n,.slice pa p.args.length pc] 26)) (.int .i64 t.kind) (.string t.name) (.int .i64 t.n) (.slice ta t.args.length tc)
 rw[show (w.alloc (.cells #[.int .i64 p.kind,.string p.name,.int .i64 p.n,.slice pa p.args.length pc] 26)).heap.size=w.heap.size+1 from by simp] at kt
 have hf:=hM.fnd.lt
 exact⟨hz,kp,kt,hM.low hz,ht.keep fun b hb=>hz.block b (hM.hS b hb).1,hP.keep fun b hb=>hz.block b (hR b hb).1,fun b hb=>⟨Nat.lt_of_lt_of_le (hR b hb).1 hz.size,(hR b hb).2⟩,by omega,by omega⟩
def CutLook (S R:Nat→Prop)(W:World)(pb tb mb fb:Nat)(p t:Ty)(pv tv' v:Value)(vars:List ByteArray)(f:Fnd)(ps:Prs)(u:Ty)(b:Bool)(x y:Value)(W':World):Prop :=
 ∃ ub a c,x=.pointer (some ⟨ub,0,none⟩)∧y=.bool b∧B4 W' ub (.int .i64 u.kind) (.string u.name) (.int .i64 u.n) (.slice a u.args.length c)∧ArgsAt S W' (.slice a u.args.length c) u.args∧VM S R W' pb tb mb fb p t pv tv' v vars f ps∧Below W.heap.size W W'
theorem CutLook.new {S R:Nat→Prop}{W:World}{pb tb mb fb:Nat}{p t:Ty}{pv tv' v:Value}{vars:List ByteArray}{f:Fnd}{ps:Prs}{u:Ty}{b:Bool}{a:Option Addr}{c:Nat}(h:VM S R W pb tb mb fb p t pv tv' v vars f ps)(hu:ArgsAt S W (.slice a u.args.length c) u.args) :
  CutLook S R W pb tb mb fb p t pv tv' v vars f ps u b (.pointer (some ⟨W.heap.size,0,none⟩)) (.bool b) (W.alloc (.cells #[.int .i64 u.kind,.string u.name,.int .i64 u.n,.slice a u.args.length c] 26)).drew:=by
 have hb:=((Below.refl W.heap.size W).alloc (Nat.le_refl _) (.cells #[.int .i64 u.kind,.string u.name,.int .i64 u.n,.slice a u.args.length c] 26)).drew
 exact⟨_,a,c,rfl,rfl,B4.new W _ _ _ _,hu.keep fun b hb'=>hb.block b (h.mt.hS b hb').1,h.low hb,hb⟩
set_option maxRecDepth 100000 in
set_option maxHeartbeats 3200000 in
theorem variable_out (p t:Ty)(ps:Prs)(S R:Nat→Prop)(pa ta:Option Addr)(pc tc:Nat)(v:Value)(mb fb:Nat)(vars:List ByteArray)(f:Fnd)(w:World)(hM:MtAt S w mb fb vars f)
  (ht:ArgsAt S w (.slice ta t.args.length tc) t.args) (hP:PairsAt R w v ps) (hR:∀ b,R b→b<w.heap.size∧b≠fb) (hs:Small t) (hno:¬ ((ixN (epS ps) p.name).isNone=true∧hasN vars p.name=true)) :
  Calls Tryz.prog 57 #[.pointer (some ⟨mb,0,none⟩),tv p pa pc,tv t ta tc,v] w (MPost S mb fb vars (varM vars p.name t (epS ps) (etS ps) f) w):=by
 obtain⟨hz,hV⟩:=vm_new (p:=p) (pa:=pa) (pc:=pc) hM ht hP hR
 have C1:=hid hV.place1
 have HZ:=hid hz
 have V:=hid hV
 have HS:=hid hs
 have OE:Hid (varM vars p.name t (epS ps) (etS ps) f=(t.kind==1&&(atJ ps.length (ixN (epS ps) p.name)==atJ ps.length (ixN (etS ps) t.name))&&(decide (0≤atJ ps.length (ixN (epS ps) p.name)) || eqN p.name t.name),f)):=hid (by
  unfold varM
  rw[if_neg (by rw[Bool.and_eq_true];exact hno),atJ_eq (ep_lt ps _) (et_lt ps _),atJ_ge (ep_lt ps _)])
 have HNO:Hid (decide (atJ ps.length (ixN (epS ps) p.name)<0)=false∨(decide (atJ ps.length (ixN (epS ps) p.name)<0)=true∧hasN vars p.name=false)):=hid (by
  rw[atJ_neg (ep_lt ps _)]
  cases h1:(ixN (epS ps) p.name).isNone with
  | false=>exact .inl rfl
  | true=>exact .inr ⟨rfl,by cases h2:hasN vars p.name with|false=>rfl|true=>exact absurd ⟨h1,h2⟩ hno⟩)
 generalize hj1:atJ ps.length (ixN (epS ps) p.name)=j1 at *
 generalize hj2:atJ ps.length (ixN (etS ps) t.name)=j2 at *
 have J2:=hid hj2
 clear hM ht hP hR hs hz hV hno hj1 hj2
 unfold tv
 go_enter Tryz.func57,Tryz.ntmps57
 go_wp2_with fail
 refine C1.out.mono ?_
 rintro e w1 ⟨rfl,hb1⟩
 have V1:=hid (V.out.low hb1)
 have H1:=hid (HZ.out.trans (hb1.mono HZ.out.size))
 have k1:=later_cell V1.out.kp.c1
 obtain⟨vv,hm,hvs⟩:=V1.out.mt.m
 have m0:=later_cell (cell_of_row w1 mb 0 _ _ _ hm)
 have C2P:Hid (∀ {W:World} {vars:List ByteArray} {f:Fnd},VM S R W w.heap.size (w.heap.size+1) mb fb p t (.slice pa p.args.length pc) (.slice ta t.args.length tc) v vars f ps→Calls Tryz.prog 80 #[v,.func (.func 83) #[] #[.pointer (some ⟨w.heap.size+1,0,none⟩)]] W (IntPost W j2)):=hid (fun h=>J2.out ▸ h.place2)
 clear hb1
 rcases HNO.out with hneg|⟨hneg,hin⟩
 ·clear hvs hm HNO
  go_upto_region 2 with fail
  refine wp_region_later (by kernel_rfl) (by kernel_rfl) ?_
  repeat (go_big_quiet_step (fail))
  refine wpQuiet_nil ?_
  intro _ hw'
  obtain⟨pq,hw''⟩:=hw'
  subst hw''
  have V2:=hid (V1.out.low (later_below w1 pq))
  have H2:=hid (H1.out.trans ((later_below w1 pq).mono H1.out.size))
  clear k1 m0
  generalize later w1 pq=W2 at *
  have d0:=V2.out.kt.c0
  have d1:=V2.out.kt.c1
  have c1:=V2.out.kp.c1
  cases hk:(t.kind==1) with
  | false =>
   have F:Hid ((varM vars p.name t (epS ps) (etS ps) f)=(false,f)):=hid (by rw[OE.out,hk,b3_false])
   go_wp2
   go_ret
   rw[F.out]
   exact⟨rfl,V2.out.mt,.of_below H2.out⟩
  | true =>
   have C2:=hid (C2P.out V2.out)
   go_wp2_with fail
   refine C2.out.mono ?_
   rintro e w3 ⟨rfl,hb3⟩
   have V3:=hid (V2.out.low hb3)
   have H3:=hid (H2.out.trans (hb3.mono H2.out.size))
   have d1:=V3.out.kt.c1
   have c1:=V3.out.kp.c1
   clear hb3
   cases he:(j1==j2) with
   | false =>
    have F:Hid ((varM vars p.name t (epS ps) (etS ps) f)=(false,f)):=hid (by rw[OE.out,hk,he];rfl)
    clear hk
    go_wp2
    go_ret
    rw[F.out]
    exact⟨rfl,V3.out.mt,.of_below H3.out⟩
   | true =>
    cases hge:decide (0≤j1) with
    | true =>
     have F:Hid ((varM vars p.name t (epS ps) (etS ps) f)=(true,f)):=hid (by rw[OE.out,hk,he,hge];rfl)
     clear hk
     go_wp2
     go_ret
     rw[F.out]
     exact⟨rfl,V3.out.mt,.of_below H3.out⟩
    | false =>
     obtain⟨r,hr,hre⟩:=beqV p.name t.name
     have F:Hid ((varM vars p.name t (epS ps) (etS ps) f)=(r,f)):=hid (by rw[OE.out,hk,he,hge,hre];rfl)
     clear hk hre
     go_wp2
     go_ret
     rw[F.out]
     exact⟨rfl,V3.out.mt,.of_below H3.out⟩
 ·have CC:=hid (fun q=>later_same (contains_any (hvs.keep (B:=later w1 q) fun b hb=>(later_below w1 q).block b (V1.out.mt.hS b hb).1) p.name))
  rw[contains_hasN,hin] at CC
  clear hvs hm HNO hin
  go_upto_region 2 with fail
  refine wp_region_later (by kernel_rfl) (by kernel_rfl) ?_
  repeat (go_big_quiet_step ((with_reducible exact CC.out _)))
  refine wpQuiet_nil ?_
  intro _ hw'
  obtain⟨pq,hw''⟩:=hw'
  subst hw''
  have V2:=hid (V1.out.low (later_below w1 pq))
  have H2:=hid (H1.out.trans ((later_below w1 pq).mono H1.out.size))
  clear k1 m0
  generalize later w1 pq=W2 at *
  have d0:=V2.out.kt.c0
  have d1:=V2.out.kt.c1
  have c1:=V2.out.kp.c1
  cases hk:(t.kind==1) with
  | false =>
   have F:Hid ((varM vars p.name t (epS ps) (etS ps) f)=(false,f)):=hid (by rw[OE.out,hk,b3_false])
   go_wp2
   go_ret
   rw[F.out]
   exact⟨rfl,V2.out.mt,.of_below H2.out⟩
  | true =>
   have C2:=hid (C2P.out V2.out)
   go_wp2_with fail
   refine C2.out.mono ?_
   rintro e w3 ⟨rfl,hb3⟩
   have V3:=hid (V2.out.low hb3)
   have H3:=hid (H2.out.trans (hb3.mono H2.out.size))
   have d1:=V3.out.kt.c1
   have c1:=V3.out.kp.c1
   clear hb3
   cases he:(j1==j2) with
   | false =>
    have F:Hid ((varM vars p.name t (epS ps) (etS ps) f)=(false,f)):=hid (by rw[OE.out,hk,he];rfl)
    clear hk
    go_wp2
    go_ret
    rw[F.out]
    exact⟨rfl,V3.out.mt,.of_below H3.out⟩
   | true =>
    cases hge:decide (0≤j1) with
    | true =>
     have F:Hid ((varM vars p.name t (epS ps) (etS ps) f)=(true,f)):=hid (by rw[OE.out,hk,he,hge];rfl)
     clear hk
     go_wp2
     go_ret
     rw[F.out]
     exact⟨rfl,V3.out.mt,.of_below H3.out⟩
    | false =>
     obtain⟨r,hr,hre⟩:=beqV p.name t.name
     have F:Hid ((varM vars p.name t (epS ps) (etS ps) f)=(r,f)):=hid (by rw[OE.out,hk,he,hge,hre];rfl)
     clear hk hre
     go_wp2
     go_ret
     rw[F.out]
     exact⟨rfl,V3.out.mt,.of_below H3.out⟩
set_option maxRecDepth 100000 in
set_option maxHeartbeats 3200000 in
theorem variable_in (p t:Ty)(ps:Prs)(S R:Nat→Prop)(pa ta:Option Addr)(pc tc:Nat)(v:Value)(mb fb:Nat)(vars:List ByteArray)(f:Fnd)(w:World)(hM:MtAt S w mb fb vars f)
  (ht:ArgsAt S w (.slice ta t.args.length tc) t.args) (hP:PairsAt R w v ps) (hR:∀ b,R b→b<w.heap.size∧b≠fb) (hs:Small t) (hyes:(ixN (epS ps) p.name).isNone=true∧hasN vars p.name=true) :
  Calls Tryz.prog 57 #[.pointer (some ⟨mb,0,none⟩),tv p pa pc,tv t ta tc,v] w (MPost S mb fb vars (varM vars p.name t (epS ps) (etS ps) f) w):=by
 obtain⟨hz,hV⟩:=vm_new (p:=p) (pa:=pa) (pc:=pc) hM ht hP hR
 have C1:=hid hV.place1
 have HZ:=hid hz
 have V:=hid hV
 have HS:=hid hs
 have HN:Hid (decide (atJ ps.length (ixN (epS ps) p.name)<0)=true):=hid ((atJ_neg (ep_lt ps _)).trans hyes.1)
 have HI:=hid hyes.2
 have OE:Hid (varM vars p.name t (epS ps) (etS ps) f=match lkF f p.name with
  | some u=>(decide (canonS u=canonS t)&&ownB t (etS ps),f)
  | none=>(ownB t (etS ps),f++[(p.name,t)])):=hid (by
  unfold varM
  rw[if_pos (by rw[Bool.and_eq_true];exact hyes)]
  cases lkF f p.name<;>rfl)
 generalize hj1:atJ ps.length (ixN (epS ps) p.name)=j1 at *
 clear hM ht hP hR hs hz hV hyes hj1
 unfold tv
 go_enter Tryz.func57,Tryz.ntmps57
 go_wp2_with fail
 refine C1.out.mono ?_
 rintro e w1 ⟨rfl,hb1⟩
 have V1:=hid (V.out.low hb1)
 have H1:=hid (HZ.out.trans (hb1.mono HZ.out.size))
 have k1:=later_cell V1.out.kp.c1
 obtain⟨vv,hm,hvs⟩:=V1.out.mt.m
 have m0:=later_cell (cell_of_row w1 mb 0 _ _ _ hm)
 clear hb1
 have hneg:=HN.out
 have CC:=hid (fun q=>later_same (contains_any (hvs.keep (B:=later w1 q) fun b hb=>(later_below w1 q).block b (V1.out.mt.hS b hb).1) p.name))
 rw[contains_hasN,HI.out] at CC
 clear hvs hm
 go_upto_region 2 with fail
 refine wp_region_later (by kernel_rfl) (by kernel_rfl) ?_
 repeat (go_big_quiet_step ((with_reducible exact CC.out _)))
 refine wpQuiet_nil ?_
 intro _ hw'
 obtain⟨pq,hw''⟩:=hw'
 subst hw''
 have V2:=hid (V1.out.low (later_below w1 pq))
 have H2:=hid (H1.out.trans ((later_below w1 pq).mono H1.out.size))
 clear k1 m0
 generalize later w1 pq=W2 at *
 have d1:=V2.out.kp.c1
 obtain⟨vv',hm2,_⟩:=V2.out.mt.m
 have m1:=cell_of_row W2 mb 1 _ _ _ hm2
 have KEY:Hid (∃ (u:Ty) (b:Bool) (a:Option Addr) (c:Nat),(∀ w':World,w'.heap[fb]? = W2.heap[fb]?→(Instr.lookup 66 (.map (some fb)) (.string p.name) true).run Tryz.prog w'=.ok (.tuple #[tv u a c,.bool b]) w')∧ArgsAt S W2 (.slice a u.args.length c) u.args ∧
   (b=true→lkF f p.name=some u)∧(b=false→lkF f p.name=none)):=hid (by
  cases hl:lkF f p.name with
  | some u =>
   obtain⟨a,c,h1,h2⟩:=V2.out.mt.fnd.look_some Tryz.underlying66 Tryz.underlying9 hl
   exact⟨u,true,a,c,h1,h2,fun _=>rfl,fun e=>by cases e⟩
  | none =>
   refine⟨.mk 0 ByteArray.empty 0 [],false,none,0,V2.out.mt.fnd.look_none Tryz.underlying66 Tryz.underlying9 hl (fun w=>zeroType w),.nil _ _,fun e=>(by cases e),fun _=>rfl⟩)
 obtain⟨u,b,a,c,hlk,hua,hbt,hbf⟩:=KEY.out
 have hlk1:=hlk W2.drew rfl
 have hlk2:=hlk (W2.alloc (.cells #[.int .i64 0,.string ⟨#[]⟩,.int .i64 0,.slice none 0 0] 26)).drew (heap_alloc_old W2 _ V2.out.mt.fnd.lt)
 have ha2:Below W2.heap.size W2 (W2.alloc (.cells #[.int .i64 0,.string ⟨#[]⟩,.int .i64 0,.slice none 0 0] 26)):=(Below.refl _ _).alloc (Nat.le_refl _) _
 have e1:=(V2.out.kp.low ha2).c1
 have e2:=cell_of_row (W2.alloc (.cells #[.int .i64 0,.string ⟨#[]⟩,.int .i64 0,.slice none 0 0] 26)) mb 1 _ _ _ ((ha2.block mb V2.out.mt.mlt).trans hm2)
 have HUA:=hid hua
 have HBT:=hid hbt
 have HBF:=hid hbf
 clear ha2 hm2 hlk hua hbt hbf KEY
 unfold tv at hlk1 hlk2
 go_upto_region 3 with fail
 go_cut [10,11] from 26 to 36 (fun x y wx=>CutLook S R W2 w.heap.size (w.heap.size+1) mb fb p t (.slice pa p.args.length pc) (.slice ta t.args.length tc) v vars f ps u b x y wx)
 case first =>
  go_region
  all_goals
   go_wp2_with fail
   go_meet
   exact CutLook.new V2.out HUA.out
 clear hlk1 hlk2 d1 m1 e1 e2
 obtain⟨ub,a',c',rfl,rfl,hu4,hua,hV3,hB3⟩:=hcut
 have V3:=hid hV3
 have H3:=hid (H2.out.trans (hB3.mono H2.out.size))
 have UA3:=hid hua
 have u0:=hu4.c0
 have u1:=hu4.c1
 have u2:=hu4.c2
 have u3:=hu4.c3
 have d0:=hV3.kt.c0
 have d1:=hV3.kt.c1
 have d2:=hV3.kt.c2
 have d3:=hV3.kt.c3
 have p1:=hV3.kp.c1
 clear hu4 hua hV3 hB3
 cases b with
 | true =>
  have hl:=HBT.out rfl
  have SU:Hid (Small u):=hid (V3.out.mt.small _ _ hl)
  have CS:=hid (same_h (UA3.out.mono fun b hb=>(V3.out.mt.hS b hb).1) V3.out.atW SU.out HS.out V3.out.mt.tab)
  have OE2:Hid (varM vars p.name t (epS ps) (etS ps) f=(decide (canonS u=canonS t)&&ownB t (etS ps),f)):=hid (by rw[OE.out,hl])
  clear hl
  generalize hbb:decide (canonS u=canonS t)=bb at *
  clear hbb
  go_wp2_with fail
  refine CS.out.mono ?_
  rintro e w4 ⟨rfl,hb4⟩
  have V4:=hid (V3.out.low hb4)
  have H4:=hid (H3.out.trans (hb4.mono H3.out.size))
  have d0:=V4.out.kt.c0
  have d1:=V4.out.kt.c1
  have d2:=V4.out.kt.c2
  have d3:=V4.out.kt.c3
  clear hb4
  cases bb with
  | false =>
   go_wp2
   go_ret
   rw[OE2.out]
   exact⟨rfl,V4.out.mt,.of_below H4.out⟩
  | true =>
   have CO:=hid (V4.out.own (Nat.le_trans HS.out.2 (by decide)))
   go_wp2_with fail
   refine CO.out.mono ?_
   rintro e w5 ⟨rfl,hb5⟩
   have V5:=hid (V4.out.low hb5)
   have H5:=hid (H4.out.trans (hb5.mono H4.out.size))
   clear hb5
   go_wp2
   go_ret
   rw[OE2.out]
   exact⟨rfl,V5.out.mt,.of_below H5.out⟩
 | false =>
  have hl:=HBF.out rfl
  have OE2:Hid (varM vars p.name t (epS ps) (etS ps) f=(ownB t (etS ps),f++[(p.name,t)])):=hid (by rw[OE.out,hl])
  have hVd:=V3.out.low (Below.refl _ _).drew
  obtain⟨W4,hrun,hf4,hg4⟩:=hVd.mt.fnd.update Tryz.underlying66 Tryz.underlying9 hl hVd.at_ (fun e=>(hVd.mt.hS _ e).2 rfl)
  have V4:=hid (hVd.upd hl HS.out hg4 hf4)
  have K4:=hid (((Kp.of_below (T:=fun b=>b=fb) (H3.out.drew)).grown hg4 H3.out.size (fun k e=>.inr (Option.some.inj e).symm)))
  obtain⟨vv3,hm3,_⟩:=V3.out.mt.m
  have m1:=cell_of_row wc mb 1 _ _ _ hm3
  have CO:=hid (V4.out.own (Nat.le_trans HS.out.2 (by decide)))
  have x0:=V4.out.kt.c0
  have x1:=V4.out.kt.c1
  have x2:=V4.out.kt.c2
  have x3:=V4.out.kt.c3
  clear hl hVd hf4 hg4 hm3
  unfold tv at hrun
  go_upto_region 6 with fail
  go_region
  all_goals
   go_wp2_with fail
   refine CO.out.mono ?_
   rintro e w5 ⟨rfl,hb5⟩
   have V5:=hid (V4.out.low hb5)
   have K5:=hid (K4.out.below hb5 (Nat.le_trans K4.out.size (Nat.le_refl _)))
   clear hb5
   go_wp2
   go_ret
   rw[OE2.out]
   exact⟨rfl,V5.out.mt,K5.out⟩
theorem variable_any (p t:Ty)(ps:Prs)(S R:Nat→Prop)(pa ta:Option Addr)(pc tc:Nat)(v:Value)(mb fb:Nat)(vars:List ByteArray)(f:Fnd)(w:World)(hM:MtAt S w mb fb vars f)
  (ht:ArgsAt S w (.slice ta t.args.length tc) t.args) (hP:PairsAt R w v ps) (hR:∀ b,R b→b<w.heap.size∧b≠fb) (hs:Small t) :
  Calls Tryz.prog 57 #[.pointer (some ⟨mb,0,none⟩),tv p pa pc,tv t ta tc,v] w (MPost S mb fb vars (varM vars p.name t (epS ps) (etS ps) f) w):=by
 by_cases h:(ixN (epS ps) p.name).isNone=true∧hasN vars p.name=true
 ·exact variable_in p t ps S R pa ta pc tc v mb fb vars f w hM ht hP hR hs h
 ·exact variable_out p t ps S R pa ta pc tc v mb fb vars f w hM ht hP hR hs h
end Go.Proofs.YtofllmemmggapaaGreatDoor.Tp

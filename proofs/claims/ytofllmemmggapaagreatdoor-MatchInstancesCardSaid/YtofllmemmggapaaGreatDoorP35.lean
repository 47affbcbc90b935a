/- Texts laid together: MaPeelW. -/
import Derived.Test.YtofllmemmggapaaGreatDoorP34
import Derived.Test.YtofllmemmggapaaGreatDoorP30
import Derived.Test.YtofllmemmggapaaGreatDoorP24
import Derived.Deep.LoopGhost

namespace Go.Proofs.YtofllmemmggapaaGreatDoor.Tp
open Go.RowKit Go.Sort
structure Pst (L:ByteArray)(but:List ByteArray)(d n:Nat)(t:Ty):Prop where
 dd:t.depth≤d
 mm:Mk t
 z:t.size≤1073741824
 b:n+d*(but.length+1)≤100000000000
theorem Pst.step {c:UInt8}(hc:Lx.lowerB c=true){but:List ByteArray}{d n:Nat}{t:Ty}(h:Pst ⟨#[c]⟩ but d n t)(h5:t.kind=5) :
  ∃ d' b,d=d'+1∧t.args=[b]∧arg0T t=b∧Small b∧Small (.mk 1 (lname ⟨#[c]⟩ (nx (lname ⟨#[c]⟩) but n)) 0 [])∧nx (lname ⟨#[c]⟩) but n≤n+but.length∧n≤nx (lname ⟨#[c]⟩) but n ∧
   Pst ⟨#[c]⟩ but d' (nx (lname ⟨#[c]⟩) but n+1) (PutT t.name (.mk 1 (lname ⟨#[c]⟩ (nx (lname ⟨#[c]⟩) but n)) 0 []) b):=by
 obtain⟨b,hb,hb0⟩:=std_k5 h.mm.1 h5
 have hbm:b∈t.args:=by rw[hb];simp
 have hmb:=mk_args h.mm b hbm
 have hsp:=firstN_spec (lname ⟨#[c]⟩) (fun _ _=>lname_inj) but n
 obtain⟨m,hm0⟩:∃ m,nx (lname ⟨#[c]⟩) but n=m:=⟨_,rfl⟩
 rw[show firstN (lname ⟨#[c]⟩) but (but.length+1) n=m from hm0] at hsp
 obtain⟨hd,hm,hz,hn⟩:=h
 have hdb:=depth_arg _ hbm
 have hsb:=size_arg _ hbm
 rw[t.depth_eq] at hd
 rw[t.size_eq] at hz
 obtain⟨d',rfl⟩:∃ d',d=d'+1:=⟨d - 1,by omega⟩
 rw[Nat.add_mul] at hn
 have hx:LexN (lname ⟨#[c]⟩ m):=lname_lex c hc m (by omega)
 have hmv:Mk (.mk 1 (lname ⟨#[c]⟩ m) 0 []):=⟨std_var _,lex_var hx⟩
 have hps:=PutT_size t.name (.mk 1 (lname ⟨#[c]⟩ m) 0 []) b hmb.1 (std_var _)
 have hpd:=PutT_depth t.name (.mk 1 (lname ⟨#[c]⟩ m) 0 []) b hmb.1 (std_var _)
 have e1:(Ty.mk 1 (lname ⟨#[c]⟩ m) 0 []).size=1:=rfl
 have e2:(Ty.mk 1 (lname ⟨#[c]⟩ m) 0 []).depth=1:=rfl
 rw[e1,Nat.mul_one] at hps
 rw[e2] at hpd
 have hmk:=PutT_mk t.name (.mk 1 (lname ⟨#[c]⟩ m) 0 []) b hmb hmv (by omega) (by rw[e1];omega)
 rw[hm0]
 exact⟨d',b,rfl,hb,hb0,⟨mk_good _ hmb,by omega⟩,⟨mk_good _ hmv,by rw[e1];omega⟩,hsp.2.1,hsp.1,by omega,hmk,by omega,by omega⟩
theorem peelF_step (L:ByteArray)(but:List ByteArray)(d n m:Nat)(t b:Ty)(h5:t.kind=5)(hb:arg0T t=b)(hm:nx (lname L) but n=m) :
  peelF L but (d+1) n t=(lname L m :: (peelF L but d (m+1) (PutT t.name (.mk 1 (lname L m) 0 []) b)).1,(peelF L but d (m+1) (PutT t.name (.mk 1 (lname L m) 0 []) b)).2):=by
 rw[peelF,if_pos h5,hm,hb]
theorem peelF_end (L:ByteArray)(but:List ByteArray)(d n:Nat)(t:Ty)(h5:t.kind≠5):peelF L but d n t=([],t):=by
 cases d with
 | zero=>rfl
 | succ d=>rw[peelF,if_neg h5]
theorem lname_spell (L:ByteArray)(m:Nat):L++bytes (Lib.itoa (m:Int))=lname L m:=by unfold lname;rw[itoa_dec]
theorem lname_size (m:Nat)(h:m≤9223372036854775807):(bytes (Lib.itoa (m:Int))).size≤64:=by
 have:=(xname_size m h).1
 unfold xname at this
 rw[ByteArray.size_append] at this
 omega
def Pb (S:Nat→Prop)(w wr:World)(v:Value)(b:Nat):Prop:=(S b∨w.heap.size+2≤b)∧b<wr.heap.size∧v.ownBlock≠some b
structure PM (S:Nat→Prop)(w wr:World)(v:Value)(names:List ByteArray)(t:Ty)(a:Option Addr)(c:Nat):Prop where
 hz:Below w.heap.size w wr
 size:w.heap.size+2≤wr.heap.size
 k4:B4 wr w.heap.size (.int .i64 t.kind) (.string t.name) (.int .i64 t.n) (.slice a t.args.length c)
 q4:B4 wr (w.heap.size+1) (.int .i64 0) (.string ⟨#[]⟩) (.int .i64 0) (.slice none 0 0)
 row:wr.ownsRow (w.heap.size+2) 9 1 v names.length (names.map Value.string)
 args:ArgsAt (Pb S w wr v) wr (.slice a t.args.length c) t.args
 hS:∀ b,S b→b<w.heap.size
theorem PM.low {S:Nat→Prop}{w wr wr':World}{v:Value}{names:List ByteArray}{t:Ty}{a:Option Addr}{c:Nat}(h:PM S w wr v names t a c)(hb:Below wr.heap.size wr wr'):PM S w wr' v names t a c :=
 ⟨h.hz.trans (hb.mono h.hz.size),Nat.le_trans h.size hb.size,h.k4.low hb,h.q4.low hb,own_keep4 h.row fun b e=>hb.block b (h.row.lt b e).2,(h.args.keep fun b hb'=>hb.block b hb'.2.1).mono fun _ hb'=>⟨hb'.1,Nat.lt_of_lt_of_le hb'.2.1 hb.size,hb'.2.2⟩,h.hS⟩
theorem PM.add {S:Nat→Prop}{w wr wr':World}{v v':Value}{names:List ByteArray}{t:Ty}{a:Option Addr}{c:Nat}(h:PM S w wr v names t a c)(nm:ByteArray)(ho:wr'.ownsRow (w.heap.size+2) 9 1 v' (names.length+1) (names.map Value.string++[.string nm]))(hg:wr.grownBy wr' v.ownBlock)(hat:∀ b,v'.ownBlock=some b→v.ownBlock=some b∨wr.heap.size≤b):PM S w wr' v' (names++[nm]) t a c:=by
 have hs:=h.size
 refine⟨⟨hg.os.trans h.hz.os,hg.tape.trans h.hz.tape,hg.output.trans h.hz.output,Nat.le_trans h.hz.size hg.size,fun k hk=>(hg.block k (by omega) (fun e=>by have:=(h.row.lt k e.symm).1;omega)).trans (h.hz.block k hk)⟩,Nat.le_trans hs hg.size,h.k4.grown hg (fun e=>by have:=(h.row.lt _ e).1;omega),h.q4.grown hg (fun e=>by have:=(h.row.lt _ e).1;omega),?_,?_,h.hS⟩
 ·rw[List.length_append,List.map_append];exact ho
 ·refine (h.args.keep fun b hb'=>hg.block b hb'.2.1 (fun e=>hb'.2.2 e.symm)).mono fun b hb'=>⟨hb'.1,Nat.lt_of_lt_of_le hb'.2.1 hg.size,fun e=>?_⟩
  rcases hat b e with e2|e2
  ·exact hb'.2.2 e2
  ·have:=hb'.2.1;omega
theorem PM.put {S:Nat→Prop}{w wr wr':World}{v:Value}{names:List ByteArray}{t y:Ty}{a a':Option Addr}{c c':Nat}(h:PM S w wr v names t a c)(hb:Below wr.heap.size wr wr')(hy:ArgsAt (New (Pb S w wr v) wr wr') wr' (.slice a' y.args.length c') y.args) :
  PM S w ((((wr'.setCell ⟨w.heap.size,0,none⟩ (.int .i64 y.kind)).setCell ⟨w.heap.size,1,none⟩ (.string y.name)).setCell ⟨w.heap.size,2,none⟩ (.int .i64 y.n)).setCell ⟨w.heap.size,3,none⟩ (.slice a' y.args.length c')) v names y a' c':=by
 have h2:=h.low hb
 have hs:=h.size
 have off:∀ b,b≠w.heap.size→((((wr'.setCell ⟨w.heap.size,0,none⟩ (.int .i64 y.kind)).setCell ⟨w.heap.size,1,none⟩ (.string y.name)).setCell ⟨w.heap.size,2,none⟩ (.int .i64 y.n)).setCell ⟨w.heap.size,3,none⟩ (.slice a' y.args.length c')).heap[b]? = wr'.heap[b]? := fun b hb=>by
  rw[Below.heap_setCell _ _ _ _ hb,Below.heap_setCell _ _ _ _ hb,Below.heap_setCell _ _ _ _ hb,Below.heap_setCell _ _ _ _ hb]
 have hsz:((((wr'.setCell ⟨w.heap.size,0,none⟩ (.int .i64 y.kind)).setCell ⟨w.heap.size,1,none⟩ (.string y.name)).setCell ⟨w.heap.size,2,none⟩ (.int .i64 y.n)).setCell ⟨w.heap.size,3,none⟩ (.slice a' y.args.length c')).heap.size=wr'.heap.size:=by simp
 refine⟨h2.hz.set4 (Nat.le_refl _) _ _ _ _,by rw[hsz];exact h2.size,B4.set4 h2.k4 _ _ _ _,(off _ (by omega)).trans h2.q4,own_keep4 h2.row fun b e=>off b (by have:=(h2.row.lt b e).1;omega),(hy.keep fun b hb'=>off b ?_).mono fun b hb'=>⟨?_,?_,?_⟩,h.hS⟩
 ·rcases hb' with hb'|hb'
  ·rcases hb'.1 with hb1|hb1
   ·have:=h.hS b hb1;omega
   ·omega
  ·have:=hb'.1;omega
 ·rcases hb' with hb'|hb'
  ·exact hb'.1
  ·have:=hb'.1;exact .inr (by omega)
 ·rw[hsz]
  rcases hb' with hb'|hb'
  ·exact Nat.lt_of_lt_of_le hb'.2.1 hb.size
  ·exact hb'.2
 ·rcases hb' with hb'|hb'
  ·exact hb'.2.2
  ·intro e;have:=(h.row.lt b e).2;have:=hb'.1;omega
def PeelPost (S:Nat→Prop)(w:World)(r:List ByteArray × Ty)(e:Ending)(w':World):Prop :=
 Below w.heap.size w w'∧∃ v a c,e=.returned (.tuple #[v,tv r.2 a c])∧StrsAt (In w.heap.size w'.heap.size) w' v r.1∧ArgsAt (New S w w') w' (.slice a r.2.args.length c) r.2.args
theorem PeelPost.drew {S:Nat→Prop}{w:World}{r:List ByteArray × Ty}{e:Ending}{w':World}(h:PeelPost S w r e w'):PeelPost S w r e w'.drew:=by
 obtain⟨hb,v,a,c,he,h1,h2⟩:=h
 exact⟨hb.drew,v,a,c,he,h1.keep (A:=w') (B:=w'.drew) fun _ _=>rfl,ArgsAt.keep (A:=w') (B:=w'.drew) (fun _ _=>rfl) h2⟩
theorem peel_fin {S:Nat→Prop}{w wr:World}{v:Value}{names:List ByteArray}{t:Ty}{a:Option Addr}{c:Nat}(h:PM S w wr v names t a c)(hn:names.length≤1099511627776) :
  let W:=((((wr.setCell ⟨(w.heap.size+1),0,none⟩ (.int .i64 t.kind)).setCell ⟨(w.heap.size+1),1,none⟩ (.string t.name)).setCell ⟨(w.heap.size+1),2,none⟩ (.int .i64 t.n)).setCell ⟨(w.heap.size+1),3,none⟩ (.slice a t.args.length c))
  B4 W (w.heap.size+1) (.int .i64 t.kind) (.string t.name) (.int .i64 t.n) (.slice a t.args.length c)∧PeelPost S w (names,t) (.returned (.tuple #[v,tv t a c])) W:=by
 intro W
 have off:∀ b,b≠w.heap.size+1→W.heap[b]? = wr.heap[b]? := fun b hb=>by
  show ((((wr.setCell ⟨(w.heap.size+1),0,none⟩ (.int .i64 t.kind)).setCell ⟨(w.heap.size+1),1,none⟩ (.string t.name)).setCell ⟨(w.heap.size+1),2,none⟩ (.int .i64 t.n)).setCell ⟨(w.heap.size+1),3,none⟩ (.slice a t.args.length c)).heap[b]? = _
  rw[Below.heap_setCell _ _ _ _ hb,Below.heap_setCell _ _ _ _ hb,Below.heap_setCell _ _ _ _ hb,Below.heap_setCell _ _ _ _ hb]
 have hsz:W.heap.size=wr.heap.size:=by
  show ((((wr.setCell ⟨(w.heap.size+1),0,none⟩ (.int .i64 t.kind)).setCell ⟨(w.heap.size+1),1,none⟩ (.string t.name)).setCell ⟨(w.heap.size+1),2,none⟩ (.int .i64 t.n)).setCell ⟨(w.heap.size+1),3,none⟩ (.slice a t.args.length c)).heap.size=_
  simp
 have ho:W.ownsRow (w.heap.size+2) 9 1 v names.length (names.map Value.string):=own_keep4 h.row fun b e=>off b (by have:=(h.row.lt b e).1;omega)
 refine⟨B4.set4 h.q4 _ _ _ _,h.hz.set4 (by omega) _ _ _ _,v,a,c,rfl,(StrsAt.of_own ho hn).mono fun b e=>⟨by have:=(ho.lt b e).1;omega,(ho.lt b e).2⟩,(h.args.keep fun b hb=>off b ?_).mono fun b hb=>?_⟩
 ·rcases hb.1 with hb1|hb1
  ·have:=h.hS b hb1;omega
  ·omega
 ·rcases hb.1 with hb1|hb1
  ·exact .inl hb1
  ·exact .inr ⟨by omega,by rw[hsz];exact hb.2.1⟩
set_option maxRecDepth 100000 in
set_option maxHeartbeats 6400000 in
theorem peeled_any (c:UInt8)(hc:Lx.lowerB c=true)(but:List ByteArray)(t:Ty)(S:Nat→Prop)(a:Option Addr)(cc:Nat)(bv:Value)(w:World)(hA:ArgsAt S w (.slice a t.args.length cc) t.args)(hS:∀ b,S b→b<w.heap.size)(hbv:StrsLow w bv but)(hP:Pst ⟨#[c]⟩ but t.depth 0 t)(hT:Tab w) :
  Calls Tryz.prog 38 #[tv t a cc,.string ⟨#[c]⟩,bv] w (PeelPost S w (PeelT ⟨#[c]⟩ but t)):=by
 have hz1:=(Below.refl w.heap.size w).alloc (Nat.le_refl _) (.cells #[.int .i64 t.kind,.string t.name,.int .i64 t.n,.slice a t.args.length cc] 26)
 have hz2:=hz1.alloc hz1.size (.cells #[.int .i64 0,.string ⟨#[]⟩,.int .i64 0,.slice none 0 0] 26)
 have k4:=(B4.new w (.int .i64 t.kind) (.string t.name) (.int .i64 t.n) (.slice a t.args.length cc)).low ((Below.refl _ _).alloc (Nat.le_refl _) (.cells #[.int .i64 0,.string ⟨#[]⟩,.int .i64 0,.slice none 0 0] 26))
 have q4:=B4.new (w.alloc (.cells #[.int .i64 t.kind,.string t.name,.int .i64 t.n,.slice a t.args.length cc] 26)) (.int .i64 0) (.string ⟨#[]⟩) (.int .i64 0) (.slice none 0 0)
 rw[show (w.alloc (.cells #[.int .i64 t.kind,.string t.name,.int .i64 t.n,.slice a t.args.length cc] 26)).heap.size=w.heap.size+1 from by simp] at q4
 have M0:Hid (PM S w ((w.alloc (.cells #[.int .i64 t.kind,.string t.name,.int .i64 t.n,.slice a t.args.length cc] 26)).alloc (.cells #[.int .i64 0,.string ⟨#[]⟩,.int .i64 0,.slice none 0 0] 26)) (.slice none 0 0) [] t a cc):=hid ⟨hz2,by simp,k4,q4,World.ownsRow_nil _ _ _ _,(hA.keep fun b hb=>hz2.block b (hS b hb)).mono fun b hb=>⟨.inl hb,by have:=hS b hb;simp;omega,by simp[Value.ownBlock]⟩,hS⟩
 have HP:=hid hP
 have CI:=hid (fun (k:Nat) (hk:k≤4611686018427387904) (W:World) (h:Below w.heap.size w W)=>itoa_any (k:Int) (by omega) (by omega) W (tab_below hT h))
 have CC:=hid (fun (k:Nat) (W:World) (h:Below w.heap.size w W)=>contains_any (hbv.keep fun b hb=>h.block b hb) (lname ⟨#[c]⟩ k))
 have CPUT:=hid (fun (W:World) (h:Below w.heap.size w W) (nm:ByteArray) (u y:Ty) (S':Nat→Prop) (a' ua:Option Addr) (c' uc:Nat) (hs:Small y) (hu:Small u) (R:ArgsAt S' W (.slice a' y.args.length c') y.args) (U:ArgsAt S' W (.slice ua u.args.length uc) u.args) (hS:∀ b,S' b→b<W.heap.size)=>put_any nm u y S' a' ua c' uc W hs.1 hu.1 hs.2 hu.2 R U hS (tab_below hT h))
 have BL:Hid (but.length≤100000000000∧t.depth≤100000000000):=hid (by have hbd:=hP.b;rw[Nat.zero_add] at hbd;have h1:1≤t.depth:=depth_pos t;constructor;exact Nat.le_trans (Nat.le_trans (Nat.le_succ _) (Nat.le_mul_of_pos_left _ h1)) hbd;exact Nat.le_trans (Nat.le_mul_of_pos_right _ (Nat.succ_pos _)) hbd)
 obtain⟨ba,bc,rfl,_⟩:=id hbv
 obtain⟨i0,hi0,hzz0,hzz1,hzz3⟩:=info_parts infoStr
 unfold tv
 clear hA hS hbv hP hT hz1 hz2 k4 q4
 have c0:=M0.out.k4.c0
 go_enter Tryz.func38,Tryz.ntmps38
 go_wp2
 go_loopg [6,8] t.depth (fun d nv iv wr=>∃ (n:Nat) (names:List ByteArray) (x:Ty) (xa:Option Addr) (xc:Nat),iv=.int .i64 n∧PeelT ⟨#[c]⟩ but t=(names++(peelF ⟨#[c]⟩ but d n x).1,(peelF ⟨#[c]⟩ but d n x).2)∧Pst ⟨#[c]⟩ but d n x∧names.length+d≤t.depth∧PM S w wr nv names x xa xc)
 case atStart=>exact⟨0,[],t,a,cc,rfl,rfl,HP.out,by simp,M0.out⟩
 case round =>
  clear M0 HP c0
  obtain⟨n,names,x,xa,xc,rfl,hE,hP,hln,hM⟩:=hrel
  have HE:=hid hE
  have HPS:=hid hP
  have HM:=hid hM
  have HLN:=hid hln
  have c0:=hM.k4.c0
  have c1:=hM.k4.c1
  have c2:=hM.k4.c2
  have c3:=hM.k4.c3
  obtain⟨va,vcap,hvv⟩:=own_form hM.row
  subst hvv
  cases h5:(x.kind==5) with
  | false =>
   have E:=hid (hE.trans (by rw[peelF_end _ _ _ _ _ (show x.kind≠5 by simpa using h5),List.append_nil]))
   have q0:=hM.q4.fr 0
   have q1:=hM.q4.fr 1
   have q2:=hM.q4.fr 2
   have q3:=hM.q4.fr 3
   have z0:=hM.q4.c0
   have z1:=hM.q4.c1
   have z2:=hM.q4.c2
   have z3:=hM.q4.c3
   clear hE hP hln hM
   go_wp2
   go_region
   all_goals
    go_wp2
    obtain⟨q5,hF⟩:=peel_fin HM.out (by have:=HLN.out;have:=BL.out.2;omega)
    refine bodyPost_ret (v:=.tuple #[.slice va names.length vcap,tv x xa xc]) (by simp[results,Tryz.results38,go_sem,tv,q5.c0,q5.c1,q5.c2,q5.c3]) rfl ?_
    rw[E.out]
    exact hF.drew
  | true =>
   obtain⟨d',b0,rfl,hb1,hb0,hsb,hsv,hmle,hnm,hP'⟩:=hP.step hc (show x.kind=5 by simpa using h5)
   have E:=hid (fun (m:Nat) (hm:nx (lname ⟨#[c]⟩) but n=m)=>peelF_step ⟨#[c]⟩ but d' n m x b0 (show x.kind=5 by simpa using h5) hb0 hm)
   have SB:=hid hsb
   have SV:=hid hsv
   have HB1:=hid hb1
   have HP2:=hid hP'
   have HNL:Hid (n+but.length≤200000000000):=hid (by have:=HPS.out.b;have:=BL.out.1;have h2:n≤n+(d'+1)*(but.length+1):=Nat.le_add_right _ _;omega)
   have hn1:n≤200000000000:=by have:=HNL.out;omega
   have C1:=hid (CI.out n (by omega) wr hM.hz)
   have XS:=hid (lname_spell ⟨#[c]⟩ n)
   have hil:=lname_size n (by omega)
   clear hE hP hln hM hb1 hb0 hsb hsv hmle hnm hP'
   go_wp2_with fail
   refine C1.out.mono ?_
   rintro e w1 ⟨rfl,hb1⟩
   have M1:=hid (HM.out.low hb1)
   clear hb1 c0 c1 c2 c3
   obtain⟨wo,hwo⟩:∃ wo:World,wo=w1:=⟨_,rfl⟩
   subst hwo
   go_wp2
   rw[XS.out]
   go_loopg [8,9] (but.length+1) (fun gk iv sv wr=>∃ m:Nat,n≤m∧m≤n+but.length∧gk=n+but.length+1 - m∧iv=.int .i64 ((m:Int)+1)∧sv=.string (lname ⟨#[c]⟩ m)∧(∀ j,n≤j→j<m→hasN but (lname ⟨#[c]⟩ j)=true)∧PM S w wr (.slice va names.length vcap) names x xa xc)
   case atStart=>exact⟨n,Nat.le_refl _,by omega,by omega,rfl,rfl,fun j hj hj'=>by omega,M1.out⟩
   case round =>
    clear M1 XS hil
    obtain⟨m,hm1,hm2,rfl,rfl,rfl,hall,hM⟩:=hrel
    have CC1:=CC.out m wr hM.hz
    rw[contains_hasN] at CC1
    have HM:=hid hM
    have hml:m≤200000000000:=by have:=HNL.out;omega
    cases hn:hasN but (lname ⟨#[c]⟩ m) with
    | true =>
     rw[hn] at CC1
     have hpg:m - n+1≤but.length:=pigeon (lname ⟨#[c]⟩) (fun _ _=>lname_inj) (m - n+1) but n fun j hj=>by
      refine (hasN_iff _ _).1 ?_
      rcases Nat.lt_or_ge (n+j) m with h|h
      ·exact hall (n+j) (by omega) h
      ·rw[show n+j=m by omega];exact hn
     have HA2:=hid (show ∀ j,n≤j→j<m+1→hasN but (lname ⟨#[c]⟩ j)=true from fun j h1 h2=>by
      rcases Nat.lt_or_ge j m with h|h
      ·exact hall j h1 h
      ·rw[show j=m by omega];exact hn)
     have C1H:=hid CC1
     have CI2:Hid (Calls Tryz.prog 47 #[.int .i64 ((m:Int)+1)] wr _):=hid (CI.out (m+1) (by omega) _ hM.hz)
     have XS2:Hid ((⟨#[c]⟩:ByteArray)++bytes (Lib.itoa ((m:Int)+1))=lname ⟨#[c]⟩ (m+1)):=hid (lname_spell ⟨#[c]⟩ (m+1))
     have hil:(bytes (Lib.itoa ((m:Int)+1))).size≤64:=lname_size (m+1) (by omega)
     clear hn hall hM CC1
     generalize lname ⟨#[c]⟩ m=xm at *
     go_wp2_with fail
     refine C1H.out.mono ?_
     rintro e w' ⟨rfl,rfl⟩
     go_wp2_with fail
     refine CI2.out.mono ?_
     rintro e W4 ⟨rfl,hb4⟩
     have M4:=hid (HM.out.low hb4)
     clear hb4
     go_wp2
     go_roundg (n+but.length+1 - (m+1))
     case measure=>omega
     case rel=>exact⟨m+1,by omega,by omega,rfl,by go_num,by rw[← XS2.out],HA2.out,M4.out⟩
    | false =>
     rw[hn] at CC1
     have EN:Hid (nx (lname ⟨#[c]⟩) but n=m):=hid (firstN_eq (lname ⟨#[c]⟩) but (but.length+1) n m hm1 (by omega) hall hn)
     have E2:=hid (E.out m EN.out)
     rw[EN.out] at SV HP2
     have C1H:=hid CC1
     have hnl:names.length≤100000000000:=by have:=HLN.out;have:=BL.out.2;omega
     have MA:=HM.out.low ((Below.refl wr.heap.size wr).alloc (Nat.le_refl _) (.cells #[.string (lname ⟨#[c]⟩ m)] 9))
     have HMA:=hid MA
     have OW:=hid MA.row
     have SZ:=hid HM.out.size
     clear hn hall hM CC1 MA EN E
     generalize hxm:lname ⟨#[c]⟩ m=xm at *
     clear hxm
     go_wp2_with fail
     refine C1H.out.mono ?_
     rintro e w' ⟨rfl,rfl⟩
     go_wp2_with (at_builtin;go_loud (refine wpList_append_lies _ rfl _ _ _ rfl (w.heap.size+2) 9 i0 _ 1 16 Tryz.underlying22 hi0 hzz0 hzz1 hzz3 rfl (by omega) (.slice va names.length vcap) names.length (names.map Value.string) rfl OW.out ⟨wr.heap.size,0,none⟩ 1 1 [.string xm] rfl rfl (World.news_of_block (cs:=#[.string xm]) (t:=9) (fr:=(0,0)) (heap_alloc_new wr _)) (by simp[Value.oneCell']) (by omega) (by unfold maxLen;omega) (by omega) (by have:=SZ.out;simp;omega) (wr.heap.size+1) (by simp) ?_;intro gg cap w7 hown7 hgrow7 hat7 hlt7))
     have M7:=hid (HMA.out.add (v':=.slice (some ⟨gg,0,none⟩) (names.length+1) cap) xm hown7 hgrow7 (fun b e=>by
      simp only[Value.ownBlock,Option.some.injEq] at e
      subst e
      rcases hat7 with e|e
      ·exact .inl e
      ·right;subst e;simp))
     have M7d:=M7.out.low (Below.refl w7.heap.size w7).drew
     have M7H:=hid M7d
     obtain⟨bb,off,ax,cx,rfl,hbS,hf4,hs0⟩:=arg0 M7d.args HB1.out
     obtain⟨f0,f1,f2,f3⟩:=hf4
     have c1:=M7d.k4.c1
     have c3:=M7d.k4.c3
     rw[show x.args.length=1 by rw[HB1.out];rfl] at c3
     have CP:Hid (Calls Tryz.prog 60 #[.agg #[.int .i64 b0.kind,.string b0.name,.int .i64 b0.n,.slice ax b0.args.length cx],.string x.name,.agg #[.int .i64 1,.string xm,.int .i64 0,.slice none 0 0]] w7.drew (TP (Pb S w w7.drew (.slice (some ⟨gg,0,none⟩) (names.length+1) cap)) (PutT x.name (.mk 1 xm 0 []) b0) w7.drew)):=hid (CPUT.out w7.drew M7d.hz x.name (.mk 1 xm 0 []) b0 _ ax none cx 0 SB.out SV.out hs0 (.nil _ _) (fun b hb=>hb.2.1))
     have HY:=hid (rfl:PutT x.name (.mk 1 xm 0 []) b0=PutT x.name (.mk 1 xm 0 []) b0)
     have LE:Hid (w.heap.size+2≤w7.heap.size):=hid M7.out.size
     clear hown7 hgrow7 hat7 hlt7 M7d hbS hs0
     generalize hy:PutT x.name (.mk 1 xm 0 []) b0=y at *
     clear hy
     go_upto_region 9 with fail
     go_region_law (go_simp;go_at_call 60;(with_reducible refine CP.out.mono ?_);rintro e w8 ⟨a8,c8,rfl,hA8,hb8⟩;have k8:=(M7H.out.low hb8).k4;have g0:=k8.c0;have g1:=k8.c1;have g2:=k8.c2;have g3:=k8.c3;have r0:=k8.fr 0;have r1:=k8.fr 1;have r2:=k8.fr 2;have r3:=k8.fr 3;have HA8:=hid hA8;have HB8:=hid hb8;clear hA8 hb8 k8;unfold tv)
     all_goals
      have M8:=hid (M7H.out.put HB8.out HA8.out)
      go_wp2
      go_roundg d'
      case measure=>omega
      case rel=>exact⟨m+1,names++[xm],y,a8,c8,by go_num,by rw[HE.out,E2.out];simp,HP2.out,by have:=HLN.out;simp;omega,by simpa using M8.out⟩
end Go.Proofs.YtofllmemmggapaaGreatDoor.Tp

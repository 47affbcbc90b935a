/- Texts laid together: CoSay7. -/
import Derived.Test.YtkihnodkhnahiaaGreatDoorP45
import Derived.Test.YtkihnodkhnahiaaGreatDoorP23

namespace Go.Proofs.YtkihnodkhnahiaaGreatDoor.Tp
open Go.RowKit
theorem kids_one {S:Nat→Prop}{W:World}{b:Nat}{y:Co}{a:Option Addr}{n:Nat}{ka:Option Addr}{kn:Nat}(h:B8 W b (.int .i64 y.kind) (.string y.name) (.int .i64 y.n) (.int .i64 y.t.kind) (.string y.t.name) (.int .i64 y.t.n) (.slice a y.t.args.length n) (.slice ka y.kids.length kn))(hS:S b)(hA:CoAt S W y a n ka kn) :
  KidsAt S W (.slice (some ⟨b,0,none⟩) 1 1) [y]:=by
 refine .mk b 0 1 [y] (fun _=>.slice a y.t.args.length n) (fun _=>.slice ka y.kids.length kn) hS (by simp) (fun i hi=>?_) (fun i hi=>?_) (fun i hi=>?_) <;>
  (have:i=0:=by simp at hi;omega)<;>subst this
 ·exact⟨h.c0,h.c1,h.c2,h.c3,h.c4,h.c5,h.c6,h.c7⟩
 ·exact hA.t
 ·exact hA.k
theorem kid0_get (c:Co)(h:0<c.kids.length):c.kids[0]'h=kid0 c:=by
 unfold kid0
 generalize c.kids=l at h ⊢
 cases l with
 | nil=>simp at h
 | cons x l=>rfl
theorem B8.set7 {w:World}{b:Nat}{u0 u1 u2 u3 u4 u5 u6 u7:Value}(h:B8 w b u0 u1 u2 u3 u4 u5 u6 u7)(v7 v1:Value):B8 ((w.setCell ⟨b,7,none⟩ v7).setCell ⟨b,1,none⟩ v1) b u0 v1 u2 u3 u4 u5 u6 v7:=by
 unfold B8 at *
 rw[set_row0 (set_row0 h v7) v1]
 rfl
theorem open_at {S:Nat→Prop}{w w4 w5:World}{c y8:Co}{a ra:Option Addr}{n rn:Nat}{ka rka:Option Addr}{kn rkn:Nat}{nm:ByteArray}(hS:∀ b,S b→b<w.heap.size)(M5:SayM w w5 c a n ka kn)(hC:ArgsAt S w (.slice a c.t.args.length n) c.t.args)
  (hs:w.heap.size+3≤w4.heap.size) (hy:CoAt (New S w4 w5) w5 y8 ra rn rka rkn) :
  SayM w (((w5.alloc (.cells #[.int .i64 y8.kind,.string y8.name,.int .i64 y8.n,.int .i64 y8.t.kind,.string y8.t.name,.int .i64 y8.t.n,.slice ra y8.t.args.length rn,.slice rka y8.kids.length rkn] 33)).setCell ⟨w.heap.size,7,none⟩ (.slice (some ⟨w5.heap.size,0,none⟩) 1 1)).setCell ⟨w.heap.size,1,none⟩ (.string nm)) (.mk c.kind nm c.n c.t [y8]) a n (some ⟨w5.heap.size,0,none⟩) 1∧w5.heap.size+1=(((w5.alloc (.cells #[.int .i64 y8.kind,.string y8.name,.int .i64 y8.n,.int .i64 y8.t.kind,.string y8.t.name,.int .i64 y8.t.n,.slice ra y8.t.args.length rn,.slice rka y8.kids.length rkn] 33)).setCell ⟨w.heap.size,7,none⟩ (.slice (some ⟨w5.heap.size,0,none⟩) 1 1)).setCell ⟨w.heap.size,1,none⟩ (.string nm)).heap.size ∧
  CoAt (fun b=>S b∨w.heap.size+3≤b∧b<w5.heap.size+1) (((w5.alloc (.cells #[.int .i64 y8.kind,.string y8.name,.int .i64 y8.n,.int .i64 y8.t.kind,.string y8.t.name,.int .i64 y8.t.n,.slice ra y8.t.args.length rn,.slice rka y8.kids.length rkn] 33)).setCell ⟨w.heap.size,7,none⟩ (.slice (some ⟨w5.heap.size,0,none⟩) 1 1)).setCell ⟨w.heap.size,1,none⟩ (.string nm)) (.mk c.kind nm c.n c.t [y8]) a n (some ⟨w5.heap.size,0,none⟩) 1:=by
 have h0:=(Below.refl w5.heap.size w5).alloc (Nat.le_refl _) (.cells #[.int .i64 y8.kind,.string y8.name,.int .i64 y8.n,.int .i64 y8.t.kind,.string y8.t.name,.int .i64 y8.t.n,.slice ra y8.t.args.length rn,.slice rka y8.kids.length rkn] 33)
 have hne:w.heap.size<w5.heap.size:=M5.k.lt
 have off:∀ b,b≠w.heap.size→(((w5.alloc (.cells #[.int .i64 y8.kind,.string y8.name,.int .i64 y8.n,.int .i64 y8.t.kind,.string y8.t.name,.int .i64 y8.t.n,.slice ra y8.t.args.length rn,.slice rka y8.kids.length rkn] 33)).setCell ⟨w.heap.size,7,none⟩ (.slice (some ⟨w5.heap.size,0,none⟩) 1 1)).setCell ⟨w.heap.size,1,none⟩ (.string nm)).heap[b]? = (w5.alloc (.cells #[.int .i64 y8.kind,.string y8.name,.int .i64 y8.n,.int .i64 y8.t.kind,.string y8.t.name,.int .i64 y8.t.n,.slice ra y8.t.args.length rn,.slice rka y8.kids.length rkn] 33)).heap[b]? := fun b h=>by
  rw[Below.heap_setCell _ _ _ _ h,Below.heap_setCell _ _ _ _ h]
 have hsz:(((w5.alloc (.cells #[.int .i64 y8.kind,.string y8.name,.int .i64 y8.n,.int .i64 y8.t.kind,.string y8.t.name,.int .i64 y8.t.n,.slice ra y8.t.args.length rn,.slice rka y8.kids.length rkn] 33)).setCell ⟨w.heap.size,7,none⟩ (.slice (some ⟨w5.heap.size,0,none⟩) 1 1)).setCell ⟨w.heap.size,1,none⟩ (.string nm)).heap.size=w5.heap.size+1:=by simp
 have hbw:Below w.heap.size w (((w5.alloc (.cells #[.int .i64 y8.kind,.string y8.name,.int .i64 y8.n,.int .i64 y8.t.kind,.string y8.t.name,.int .i64 y8.t.n,.slice ra y8.t.args.length rn,.slice rka y8.kids.length rkn] 33)).setCell ⟨w.heap.size,7,none⟩ (.slice (some ⟨w5.heap.size,0,none⟩) 1 1)).setCell ⟨w.heap.size,1,none⟩ (.string nm)):=((M5.b.trans (h0.mono M5.b.size)).setCell (p:=⟨w.heap.size,7,none⟩) (Nat.le_refl _) _).setCell (p:=⟨w.heap.size,1,none⟩) (Nat.le_refl _) _
 have hk:=B8.set7 (M5.k.low h0) (.slice (some ⟨w5.heap.size,0,none⟩) 1 1) (.string nm)
 have hl:=(off (w.heap.size+1) (by omega)).trans (M5.l.low h0)
 have hr:=(off (w.heap.size+1+1) (by omega)).trans (M5.r.low h0)
 have hlr:=(M5.r.lt)
 have hn:B8 (((w5.alloc (.cells #[.int .i64 y8.kind,.string y8.name,.int .i64 y8.n,.int .i64 y8.t.kind,.string y8.t.name,.int .i64 y8.t.n,.slice ra y8.t.args.length rn,.slice rka y8.kids.length rkn] 33)).setCell ⟨w.heap.size,7,none⟩ (.slice (some ⟨w5.heap.size,0,none⟩) 1 1)).setCell ⟨w.heap.size,1,none⟩ (.string nm)) w5.heap.size (.int .i64 y8.kind) (.string y8.name) (.int .i64 y8.n) (.int .i64 y8.t.kind) (.string y8.t.name) (.int .i64 y8.t.n) (.slice ra y8.t.args.length rn) (.slice rka y8.kids.length rkn):=(off _ (by omega)).trans (heap_alloc_new w5 _)
 have hold:∀ b,b<w5.heap.size→b≠w.heap.size→(((w5.alloc (.cells #[.int .i64 y8.kind,.string y8.name,.int .i64 y8.n,.int .i64 y8.t.kind,.string y8.t.name,.int .i64 y8.t.n,.slice ra y8.t.args.length rn,.slice rka y8.kids.length rkn] 33)).setCell ⟨w.heap.size,7,none⟩ (.slice (some ⟨w5.heap.size,0,none⟩) 1 1)).setCell ⟨w.heap.size,1,none⟩ (.string nm)).heap[b]? = w5.heap[b]? := fun b h1 h2=>(off b h2).trans (h0.block b h1)
 generalize ((w5.alloc (.cells #[.int .i64 y8.kind,.string y8.name,.int .i64 y8.n,.int .i64 y8.t.kind,.string y8.t.name,.int .i64 y8.t.n,.slice ra y8.t.args.length rn,.slice rka y8.kids.length rkn] 33)).setCell ⟨w.heap.size,7,none⟩ (.slice (some ⟨w5.heap.size,0,none⟩) 1 1)).setCell ⟨w.heap.size,1,none⟩ (.string nm)=W at *
 refine⟨⟨hk,hl,hr,hbw⟩,hsz.symm,⟨(hC.keep fun b hb=>hbw.block b (hS b hb)).mono fun b hb=>.inl hb,?_⟩⟩
 refine kids_one hn (.inr ⟨by omega,by omega⟩) ((hy.keep fun b hb=>?_).mono fun b hb=>?_)
 ·rcases hb with h|h
  ·have:=hS b h;exact hold b (by omega) (by omega)
  ·exact hold b h.2 (by omega)
 ·exact hb.imp id fun h=>⟨by omega,by omega⟩
set_option maxRecDepth 100000 in
set_option maxHeartbeats 6400000 in
theorem says_all (q:Nat)(g:List Giv)(d:Nat)(ih:SaysSaid q g d)(c:Co)(S:Nat→Prop)(a:Option Addr)(n:Nat)(ka:Option Addr)(kn:Nat)(gv:Value)(w:World)(_:GivOk q g)(hG:GivAt S w gv g)(hC:CoAt S w c a n ka kn)(hS:∀ b,S b→b<w.heap.size)(hw:WfC c)(hd:c.deep≤d+1)
  (hb:(bdC q c).s≤50000000000) (hf:(bdC q c).f≤4000000) (hm:bindsC c≤60) (hT:Tab w) (hk:c.kind=7):Calls Tryz.prog 27 #[gv,cv c a n ka kn] w (PairPost S thrown w (saysF (d+1) g c)):=by
 have hkl:c.kids.length=1:=by have h1:=hw.k.2.2;omega
 have ha:kid0 c∈c.kids:=by unfold kid0;match he:c.kids,hkl with | [x],_=>simp
 have hko:openC c=.mk 7 (apartC c) c.n c.t [renC c.name (apartC c) (kid0 c)]:=if_pos hk
 have E:Hid (saysF (d+1) g c=match saysL (saysF d g) [renC c.name (apartC c) (kid0 c)] with
   | none=>none
   | some p=>some (.mk 5 (apartC c) 0 p.1,.mk 5 (apartC c) 0 p.2)):=Lib.hid (by
  rw[saysF,if_neg (by omega),if_neg (by omega),hko]
  show (match saysL (saysF d g) [renC c.name (apartC c) (kid0 c)] with
   | none=>none
   | some p=>ruleS _ p.1 p.2)=_
  cases saysL (saysF d g) [renC c.name (apartC c) (kid0 c)] with
  | none=>rfl
  | some p=>rfl)
 have q1:(c.kind==1)=false:=by rw[hk];rfl
 have q2:(c.kind==2)=false:=by rw[hk];rfl
 have q7:(c.kind==7)=true:=by rw[hk];rfl
 have q3:(c.kind==3)=false:=by rw[hk];rfl
 have q4:(c.kind==4)=false:=by rw[hk];rfl
 have q5:(c.kind==5)=false:=by rw[hk];rfl
 have q6:(c.kind==6)=false:=by rw[hk];rfl
 have hM:=SayM.new w c a n ka kn
 have hbk:=open_keeps q hw hb hm
 have hM0:=bd_open hw hb hm (by omega) (by omega)
 rw[hko] at hM0 hbk
 have hnm:(apartC c).size≤64:=hbk.2.2.2.2.2.1
 have hKids:∀ x∈[renC c.name (apartC c) (kid0 c)],WfC x∧x.deep≤d∧(bdC q x).s≤50000000000∧(bdC q x).f≤4000000∧bindsC x≤60:=fun x hx =>
  ⟨(hbk.2.2.2.2.2.2.1 x hx).1,by have:=(hbk.2.2.2.2.2.2.1 x hx).2.2;omega,Nat.le_trans ((bdM_kid hx).trans hM0).2.1 hb,Nat.le_trans ((bdM_kid hx).trans hM0).2.2 hf,(hbk.2.2.2.2.2.2.1 x hx).2.1⟩
 have h0k:=hw.k0 ha
 have kb:=Nat.le_trans ((bdM_kid ha).trans (bd_kids q c h0k.1 h0k.2)).2.1 hb
 have CA:=Lib.hid (apart_any c S a n ka kn (((w.alloc (.cells #[.int .i64 c.kind,.string c.name,.int .i64 c.n,.int .i64 c.t.kind,.string c.t.name,.int .i64 c.t.n,.slice a c.t.args.length n,.slice ka c.kids.length kn] 33)).alloc (.cells #[.int .i64 0,.string ⟨#[]⟩,.int .i64 0,.slice none 0 0] 30)).alloc (.cells #[.int .i64 0,.string ⟨#[]⟩,.int .i64 0,.slice none 0 0] 30)) (hC.keep fun b hb=>hM.b.block b (hS b hb)) (fun b hb=>Nat.lt_of_lt_of_le (hS b hb) hM.b.size) (by omega))
 have CR:=Lib.hid (fun (a:Option Addr) (n:Nat) (ka:Option Addr) (kn:Nat) (W:World) (hB:Below w.heap.size w W) (hCx:CoAt S W (kid0 c) a n ka kn)=>cren_any q c.name (apartC c) hnm (kid0 c) S a n ka kn W (hw.kids _ ha) kb hCx (fun b hb=>Nat.lt_of_lt_of_le (hS b hb) hB.size) (tab_below hT hB))
 have KC:=Lib.hid (fun (S':Nat→Prop) (W:World) (ka':Option Addr) (kn':Nat) (hSS:∀ b,S b→S' b) (hS':∀ b,S' b→b<W.heap.size) (hB:Below w.heap.size w W) (hCx:CoAt S' W (.mk c.kind (apartC c) c.n c.t [renC c.name (apartC c) (kid0 c)]) a n ka' kn') =>
  kids_any (saysF d g) gv (.mk c.kind (apartC c) c.n c.t [renC c.name (apartC c) (kid0 c)]) S' a n ka' kn' W hCx hS' (by show 1≤4000;omega) (fun x hx a n ka kn W2 hB2 hCx=>by
   have hBw:=hB.trans (hB2.mono hB.size)
   have hk:=hKids x hx
   exact ih x S' a n ka kn gv W2 ((hG.keep fun b hb=>hBw.block b (hS b hb)).mono hSS) hCx (fun b hb=>Nat.lt_of_lt_of_le (hS' b hb) hB2.size) hk.1 hk.2.1 hk.2.2.1 hk.2.2.2.1 hk.2.2.2.2 (tab_below hT hBw)))
 obtain⟨b0,o0,e1,f1,e2,f2,rfl,hb0,hf0,hs0,hk0⟩:=hC.k.at_ (i:=0) (by omega)
 have hget:c.kids[0]'(by omega)=kid0 c:=kid0_get c (by omega)
 rw[hget,Nat.zero_mul,Nat.add_zero] at hf0
 rw[hget] at hs0 hk0
 have HF0:=Lib.hid hf0
 have HK0:Hid (CoAt S w (kid0 c) e1 f1 e2 f2):=Lib.hid ⟨hs0,hk0⟩
 have HCT:=Lib.hid hC.t
 have HB0:=Lib.hid (hS b0 hb0)
 have HS:=Lib.hid hS
 have HM:=Lib.hid hM
 have zk:(0:Int)<(c.kids.length:Int):=by omega
 have zk2:0<c.kids.length:=by omega
 clear ih hG hC hS hw hd hb hf hm hT hk hM hbk hM0 hko hKids ha h0k kb hnm hb0 hf0 hs0 hk0 hget hkl
 unfold cv at *
 generalize apartC c=nm at *
 generalize hy8:renC c.name nm (kid0 c)=y8 at *
 generalize kid0 c=kd at *
 clear hy8
 go_enter Tryz.func27,Tryz.ntmps27
 go_wp2_with fail
 refine CA.out.mono ?_
 rintro e w4 ⟨rfl,hb4⟩
 have hM4:=HM.out.low hb4
 have hs4:w.heap.size+3≤w4.heap.size:=by have:=hb4.size;simpa using this
 have hB4:=hM4.b
 obtain⟨p0,p1,p2,p3,p4,p5,p6,p7⟩:=HF0.out.keep (hB4.block _ HB0.out)
 have m1:=hM4.k.c1
 have m7:=hM4.k.c7
 have M4:=Lib.hid hM4
 have CR4:=Lib.hid (CR.out e1 f1 e2 f2 w4.drew hB4.drew (CoAt.keep (A:=w) (B:=w4.drew) (fun b hb=>hB4.drew.block b (HS.out b hb)) HK0.out))
 have HS4:=Lib.hid hs4
 unfold cv at CR4
 clear hM4 hb4 hB4 hs4
 go_wp2
 go_region_law (go_simp;go_at_call 59;(with_reducible refine CR4.out.mono ?_);rintro e w5 ⟨ra,rn,rka,rkn,rfl,hy,hb5⟩;have M5:=M4.out.low ((Below.refl _ _).drew.trans hb5);have n1:=M5.k.c1;have M6:=M5.low ((Below.refl _ _).alloc (Nat.le_refl _) (.cells #[.int .i64 y8.kind,.string y8.name,.int .i64 y8.n,.int .i64 y8.t.kind,.string y8.t.name,.int .i64 y8.t.n,.slice ra y8.t.args.length rn,.slice rka y8.kids.length rkn] 33));have n7:=M6.k.c7;have n7f:=M6.k.fr 7;unfold cv)
 all_goals
  obtain⟨M7,hz7,C7⟩:=open_at (y8:=y8) (nm:=nm) HS.out M5 HCT.out HS4.out (show CoAt (New S w4 w5) w5 y8 ra rn rka rkn from hy)
  have KC7:=Lib.hid (KC.out (fun b=>S b∨w.heap.size+3≤b∧b<w5.heap.size+1) (((w5.alloc (.cells #[.int .i64 y8.kind,.string y8.name,.int .i64 y8.n,.int .i64 y8.t.kind,.string y8.t.name,.int .i64 y8.t.n,.slice ra y8.t.args.length rn,.slice rka y8.kids.length rkn] 33)).setCell ⟨w.heap.size,7,none⟩ (.slice (some ⟨w5.heap.size,0,none⟩) 1 1)).setCell ⟨w.heap.size,1,none⟩ (.string nm)) _ _ (fun b hb=>.inl hb) (fun b hb=>by rw[← hz7];rcases hb with h|h<;>first|(have:=HS.out b h;have:=M5.b.size;omega)|omega) M7.b C7)
  have M7:=Lib.hid M7
  have Z7:=Lib.hid hz7
  have H3:Hid (w.heap.size+3≤w5.heap.size+1):=Lib.hid (by have h1:=HS4.out;have h2:=hb5.size;have h3:w4.drew.heap.size=w4.heap.size:=rfl;omega)
  have i0:=M6.k.c0
  have i1:=M6.k.c1
  have i2:=M6.k.c2
  have i3:=M6.k.c3
  have i4:=M6.k.c4
  have i5:=M6.k.c5
  have i6:=M6.k.c6
  have n1f:=M6.k.fr 1
  simp only[co_kind,co_name,co_n,co_t,co_kids,List.length_cons,List.length_nil,Nat.zero_add] at KC7
  clear KC M5 M6 C7 hz7 hb5 hy M4 CR4 HS4 CR CA
  go_wp2_with fail
  generalize ((w5.alloc (.cells #[.int .i64 y8.kind,.string y8.name,.int .i64 y8.n,.int .i64 y8.t.kind,.string y8.t.name,.int .i64 y8.t.n,.slice ra y8.t.args.length rn,.slice rka y8.kids.length rkn] 33)).setCell ⟨w.heap.size,7,none⟩ (.slice (some ⟨w5.heap.size,0,none⟩) 1 1)).setCell ⟨w.heap.size,1,none⟩ (.string nm)=w7 at *
  refine KC7.out.mono ?_
  rintro e w1 ⟨hb1,hres⟩
  have hM1:=M7.out.low hb1
  cases hsy:saysL (saysF d g) [y8] with
  | none =>
   rw[hsy] at hres
   subst hres
   have E2:=E.out
   rw[hsy] at E2
   have E3:Hid (saysF (d+1) g c=none):=Lib.hid E2
   have M1:=Lib.hid hM1
   clear hM1 hb1 hsy E2 E
   go_wp2
   refine⟨rfl,?_⟩
   rw[E3.out]
   exact⟨M1.out.b,rfl⟩
  | some p =>
   obtain⟨xs,ys⟩:=p
   rw[hsy] at hres
   obtain⟨xa,xc,ya,yc,rfl,hx,hy⟩:=hres
   have E3:Hid (saysF (d+1) g c=some (.mk 5 nm 0 xs,.mk 5 nm 0 ys)):=Lib.hid (by have:=E.out;rw[hsy] at this;exact this)
   have up:∀ b,New (fun b=>S b∨w.heap.size+3≤b∧b<w5.heap.size+1) w7 w1 b→(S b∨w.heap.size+3≤b∧b<w1.heap.size):=fun b hb=>by
    have h7:=Z7.out
    have h8:=hb1.size
    have h9:=M7.out.k.lt
    have h10:=M7.out.r.lt
    rcases hb with (h|h)|h
    ·exact .inl h
    ·exact .inr ⟨h.1,by omega⟩
    ·exact .inr ⟨by have:=H3.out;omega,h.2⟩
   have AX:=Lib.hid (hx.mono up)
   have AY:=Lib.hid (hy.mono up)
   have M1:=Lib.hid hM1
   have l0:=hM1.l.c0
   have l1:=hM1.l.c1
   have l2:=hM1.l.c2
   have l3:=hM1.l.c3
   have u0:=hM1.l.fr 0
   have u1:=hM1.l.fr 1
   have u2:=hM1.l.fr 2
   have u3:=hM1.l.fr 3
   have r0:=hM1.r.c0
   have r1:=hM1.r.c1
   have r2:=hM1.r.c2
   have r3:=hM1.r.c3
   have v0:=hM1.r.fr 0
   have v1:=hM1.r.fr 1
   have v2:=hM1.r.fr 2
   have v3:=hM1.r.fr 3
   have m0:=hM1.k.c0
   have m1:=hM1.k.c1
   have m2:=hM1.k.c2
   have m3:=hM1.k.c3
   have m4:=hM1.k.c4
   have m5:=hM1.k.c5
   have m6:=hM1.k.c6
   simp only[co_kind,co_name,co_n,co_t] at m0 m1 m2 m3 m4 m5 m6
   clear hx hy up hb1 hsy E hM1
   go_wp2
   go_region
   go_wp2
   obtain⟨LL,RR,PP⟩:=says_end (x:=Ty.mk 5 nm 0 xs) (y:=Ty.mk 5 nm 0 ys) (xa:=xa) (xc:=xc) (ya:=ya) (yc:=yc) M1.out HS.out AX.out AY.out
   simp only[Ty.kind,Ty.name,Ty.n,Ty.args] at LL RR
   refine bodyPost_ret (v:=.tuple #[tv (Ty.mk 5 nm 0 xs) xa xc,tv (Ty.mk 5 nm 0 ys) ya yc]) (by simp[results,Tryz.results27,go_sem,tv,Ty.kind,Ty.name,Ty.n,Ty.args,LL.c0,LL.c1,LL.c2,LL.c3,RR.c0,RR.c1,RR.c2,RR.c3]) rfl ?_
   rw[E3.out]
   exact PP
end Go.Proofs.YtkihnodkhnahiaaGreatDoor.Tp

/- Texts laid together: CoNeed, CoTwo. -/
import Derived.Test.YtkihnodkhnahiaaGreatDoorP04
import Derived.Test.YtkihnodkhnahiaaGreatDoorP05
import Derived.Test.YtkihnodkhnahiaaGreatDoorP20

namespace Go.Proofs.YtkihnodkhnahiaaGreatDoor.Tp
open Go.RowKit
def thrown:List PanicEntry:=[{ v:=.iface 79 (.agg #[]),recovered:=false }]
theorem need_yes (w:World):Calls Tryz.prog 57 #[.bool true] w fun e w'=>e=.returned (.tuple #[])∧w=w':=by
 go_enter Tryz.func57,Tryz.ntmps57
 go_wp2
 go_end0
 exact⟨rfl,rfl⟩
theorem need_no (w:World):Calls Tryz.prog 57 #[.bool false] w fun e w'=>e=.panicked thrown∧w=w':=by
 go_enter Tryz.func57,Tryz.ntmps57
 go_wp2
 exact⟨rfl,rfl,rfl⟩
def FourW (w:World)(b o:Nat)(c0 c1 c2 c3:Value):Prop:=b<w.heap.size∧Four w b o c0 c1 c2 c3
theorem FourW.low {w w':World}{b o:Nat}{c0 c1 c2 c3:Value}(h:FourW w b o c0 c1 c2 c3)(hb:Below w.heap.size w w'):Four w' b o c0 c1 c2 c3:=h.2.keep (hb.block b h.1)
theorem int_beq (a b:Int):∃ q:Bool,(a==b)=q∧(q=true↔a=b):=⟨_,rfl,by simp⟩
theorem str_beq (a b:ByteArray):∃ q:Bool,(a.toList==b.toList)=q∧(q=true↔a=b):=⟨_,rfl,by rw[beq_iff_eq,ByteArray.toList_eq,ByteArray.toList_eq];exact⟨fun h=>ByteArray.ext (Array.toList_inj.1 h),fun h=>by rw[h]⟩⟩
theorem args_ex {S:Nat→Prop}{y:Ty}{a:Option Addr}{c:Nat}{W:World}(hS:∀ b,S b→b<W.heap.size)(R:ArgsAt S W (.slice a y.args.length c) y.args){i:Nat}(hi:i<y.args.length) :
  ∃ b o a' c',a=some ⟨b,o,none⟩∧b<W.heap.size∧FourW W b (o+i*4) (.int .i64 y.args[i].kind) (.string y.args[i].name) (.int .i64 y.args[i].n) (.slice a' y.args[i].args.length c')∧ArgsAt S W (.slice a' y.args[i].args.length c') y.args[i].args:=by
 obtain⟨b',o',a',c',e,hb,hf,hs⟩:=ArgsAt.at_ R hi
 exact⟨b',o',a',c',e,hS _ hb,⟨hS _ hb,hf⟩,hs⟩
set_option maxRecDepth 100000 in
set_option maxHeartbeats 1600000 in
theorem nth_any (n:Int)(l r:Ty)(a b:Option Addr)(c d:Nat)(w:World)(S:Nat→Prop)(hS:∀ b,S b→b<w.heap.size)(hl:ArgsAt S w (.slice a l.args.length c) l.args)(hr:ArgsAt S w (.slice b r.args.length d) r.args)(hn:0≤n)(h4:l.kind=r.kind→l.kind=4→l.args.length=r.args.length) :
  Calls Tryz.prog 61 #[.int .i64 n,tv l a c,tv r b d] w (PairPost S thrown w (nthT n l r)):=by
 obtain⟨k1,e1,i1⟩:=int_beq l.kind r.kind
 obtain⟨k2,e2,i2⟩:=int_beq l.kind 4
 obtain⟨k3,e3,i3⟩:=int_beq l.kind 3
 obtain⟨k4,e4,i4⟩:=str_beq l.name r.name
 obtain⟨k5,e5,i5⟩:=int_beq (l.args.length:Int) (r.args.length:Int)
 have HB2:Hid (∀ o3 o4:Obj,Below w.heap.size w ((((w.alloc (.cells #[.int .i64 l.kind,.string l.name,.int .i64 l.n,.slice a l.args.length c] 30)).alloc (.cells #[.int .i64 r.kind,.string r.name,.int .i64 r.n,.slice b r.args.length d] 30)).alloc o3).alloc o4)) :=
  Lib.hid fun _ _=>(((((Below.refl _ _).alloc (Nat.le_refl _) _).alloc (by simp) _).alloc (by simp;omega) _).alloc (by simp;omega) _)
 have HS:=Lib.hid hS
 have hno:∀ r',nthT n l r=r'→¬ (l.kind=r.kind∧(l.kind=4∨l.kind=3∧l.name=r.name∧l.args.length=r.args.length)∧n<l.args.length)→r'=none:=fun r' e h=>by rw[← e];unfold nthT;rw[if_neg h]
 have I:=Lib.hid (And.intro i1 (And.intro i2 (And.intro i3 (And.intro i4 i5))))
 cases k1
 ·have E:Hid (nthT n l r=none):=Lib.hid (by unfold nthT;rw[if_neg];rintro ⟨h,_⟩;have:=i1.2 h;simp at this)
  clear i1 i2 i3 i4 i5 hl hr h4 hno hS
  unfold tv
  go_enter Tryz.func61,Tryz.ntmps61
  go_wp2_with fail
  refine (need_no _).mono ?_
  rintro e w' ⟨rfl,rfl⟩
  go_wp2
  refine⟨rfl,?_⟩
  rw[E.out]
  exact⟨HB2.out _ _,rfl⟩
 ·cases k2
  ·cases k3
   ·have E:Hid (nthT n l r=none):=Lib.hid (by unfold nthT;rw[if_neg];rintro ⟨_,h|h,_⟩;exact absurd (i2.2 h) (by simp);exact absurd (i3.2 h.1) (by simp))
    clear i1 i2 i3 i4 i5 hl hr h4 hno hS
    unfold tv
    go_enter Tryz.func61,Tryz.ntmps61
    go_wp2_with fail
    refine (need_no _).mono ?_
    rintro e w' ⟨rfl,rfl⟩
    go_wp2
    refine⟨rfl,?_⟩
    rw[E.out]
    exact⟨HB2.out _ _,rfl⟩
   ·cases k4
    ·have E:Hid (nthT n l r=none):=Lib.hid (by unfold nthT;rw[if_neg];rintro ⟨_,h|h,_⟩;exact absurd (i2.2 h) (by simp);exact absurd (i4.2 h.2.1) (by simp))
     clear i1 i2 i3 i4 i5 hl hr h4 hno hS
     unfold tv
     go_enter Tryz.func61,Tryz.ntmps61
     go_wp2_with fail
     refine (need_no _).mono ?_
     rintro e w' ⟨rfl,rfl⟩
     go_wp2
     refine⟨rfl,?_⟩
     rw[E.out]
     exact⟨HB2.out _ _,rfl⟩
    ·cases k5
     ·have E:Hid (nthT n l r=none):=Lib.hid (by unfold nthT;rw[if_neg];rintro ⟨_,h|h,_⟩;exact absurd (i2.2 h) (by simp);exact absurd (i5.2 (by rw[h.2.2])) (by simp))
      clear i1 i2 i3 i4 i5 hl hr h4 hno hS
      unfold tv
      go_enter Tryz.func61,Tryz.ntmps61
      go_wp2_with fail
      refine (need_no _).mono ?_
      rintro e w' ⟨rfl,rfl⟩
      go_wp2
      refine⟨rfl,?_⟩
      rw[E.out]
      exact⟨HB2.out _ _,rfl⟩
     ·have hlen:l.args.length=r.args.length:=by have:=i5.1 rfl;omega
      by_cases hlt:n<l.args.length
      ·obtain⟨m,rfl⟩:∃ m:Nat,n=(m:Int):=⟨n.toNat,by omega⟩
       have hm:m<l.args.length:=by omega
       have hm2:m<r.args.length:=by omega
       have z1:(m:Int)<(r.args.length:Int):=by omega
       have E:Hid (nthT (m:Int) l r=some (l.args[m],r.args[m])):=Lib.hid (by
        unfold nthT
        rw[if_pos ⟨i1.1 rfl,.inr ⟨i3.1 rfl,i4.1 rfl,by have:=i5.1 rfl;omega⟩,hlt⟩,Int.toNat_natCast,List.getD_eq_getElem?_getD,List.getD_eq_getElem?_getD,List.getElem?_eq_getElem hm,List.getElem?_eq_getElem hm2];rfl)
       obtain⟨lb,lo,a1,c1,rfl,_,hlf,hla⟩:=args_ex hS hl hm
       obtain⟨rb,ro,b1,d1,rfl,_,hrf,hra⟩:=args_ex hS hr hm2
       have LA:=Lib.hid (fun o3 o4=>hla.keep (fun b hb=>(HB2.out o3 o4).drew.block b (hS b hb)))
       have RA:=Lib.hid (fun o3 o4=>hra.keep (fun b hb=>(HB2.out o3 o4).drew.block b (hS b hb)))
       have zo:Obj:=.cells #[.int .i64 0,.string ⟨#[]⟩,.int .i64 0,.slice none 0 0] 30
       have xo:=Obj.cells #[.int .i64 l.args[m].kind,.string l.args[m].name,.int .i64 l.args[m].n,.slice a1 l.args[m].args.length c1] 30
       obtain⟨f0,f1,f2,f3⟩:=hlf.low (HB2.out (.cells #[.int .i64 0,.string ⟨#[]⟩,.int .i64 0,.slice none 0 0] 30) (.cells #[.int .i64 0,.string ⟨#[]⟩,.int .i64 0,.slice none 0 0] 30))
       obtain⟨g0,g1,g2,g3⟩:=hrf.low (HB2.out (.cells #[.int .i64 0,.string ⟨#[]⟩,.int .i64 0,.slice none 0 0] 30) (.cells #[.int .i64 0,.string ⟨#[]⟩,.int .i64 0,.slice none 0 0] 30))
       obtain⟨p0,p1,p2,p3⟩:=hrf.low (HB2.out (.cells #[.int .i64 l.args[m].kind,.string l.args[m].name,.int .i64 l.args[m].n,.slice a1 l.args[m].args.length c1] 30) (.cells #[.int .i64 0,.string ⟨#[]⟩,.int .i64 0,.slice none 0 0] 30))
       obtain⟨q0,q1,q2,q3⟩:=hlf.low (HB2.out (.cells #[.int .i64 0,.string ⟨#[]⟩,.int .i64 0,.slice none 0 0] 30) (.cells #[.int .i64 r.args[m].kind,.string r.args[m].name,.int .i64 r.args[m].n,.slice b1 r.args[m].args.length d1] 30))
       clear i1 i2 i3 i4 i5 hl hr h4 hno hS hlf hla hrf hra hn hlen zo xo
       unfold tv
       generalize l.args[m]=x at *
       generalize r.args[m]=y at *
       go_enter Tryz.func61,Tryz.ntmps61
       go_wp2_with fail
       refine (need_yes _).mono ?_
       rintro e w' ⟨rfl,rfl⟩
       go_wp2_with fail
       refine (need_yes _).mono ?_
       rintro e w' ⟨rfl,rfl⟩
       go_wp2
       go_region
       go_wp2
       refine bodyPost_ret (v:=.tuple #[tv x a1 c1,tv y b1 d1]) (by simp[results,Tryz.results61,go_sem,tv]) rfl ?_
       rw[E.out]
       exact⟨(HB2.out _ _).drew,_,_,_,_,rfl,(LA.out _ _).mono fun _ hb=>Or.inl hb,(RA.out _ _).mono fun _ hb=>Or.inl hb⟩
      ·have E:Hid (nthT n l r=none):=Lib.hid (by unfold nthT;rw[if_neg];rintro ⟨_,_,h⟩;exact hlt h)
       have z2:decide (n<(l.args.length:Int))=false:=by simpa using hlt
       clear hlt hlen
       clear i1 i2 i3 i4 i5 hl hr h4 hno hS
       unfold tv
       go_enter Tryz.func61,Tryz.ntmps61
       go_wp2_with fail
       refine (need_yes _).mono ?_
       rintro e w' ⟨rfl,rfl⟩
       go_wp2_with fail
       refine (need_no _).mono ?_
       rintro e w' ⟨rfl,rfl⟩
       go_wp2
       refine⟨rfl,?_⟩
       rw[E.out]
       exact⟨HB2.out _ _,rfl⟩
  ·have hlen:l.args.length=r.args.length:=h4 (i1.1 rfl) (i2.1 rfl)
   by_cases hlt:n<l.args.length
   ·obtain⟨m,rfl⟩:∃ m:Nat,n=(m:Int):=⟨n.toNat,by omega⟩
    have hm:m<l.args.length:=by omega
    have hm2:m<r.args.length:=by omega
    have z1:(m:Int)<(r.args.length:Int):=by omega
    have E:Hid (nthT (m:Int) l r=some (l.args[m],r.args[m])):=Lib.hid (by
     unfold nthT
     rw[if_pos ⟨i1.1 rfl,.inl (i2.1 rfl),hlt⟩,Int.toNat_natCast,List.getD_eq_getElem?_getD,List.getD_eq_getElem?_getD,List.getElem?_eq_getElem hm,List.getElem?_eq_getElem hm2];rfl)
    obtain⟨lb,lo,a1,c1,rfl,_,hlf,hla⟩:=args_ex hS hl hm
    obtain⟨rb,ro,b1,d1,rfl,_,hrf,hra⟩:=args_ex hS hr hm2
    have LA:=Lib.hid (fun o3 o4=>hla.keep (fun b hb=>(HB2.out o3 o4).drew.block b (hS b hb)))
    have RA:=Lib.hid (fun o3 o4=>hra.keep (fun b hb=>(HB2.out o3 o4).drew.block b (hS b hb)))
    have zo:Obj:=.cells #[.int .i64 0,.string ⟨#[]⟩,.int .i64 0,.slice none 0 0] 30
    have xo:=Obj.cells #[.int .i64 l.args[m].kind,.string l.args[m].name,.int .i64 l.args[m].n,.slice a1 l.args[m].args.length c1] 30
    obtain⟨f0,f1,f2,f3⟩:=hlf.low (HB2.out (.cells #[.int .i64 0,.string ⟨#[]⟩,.int .i64 0,.slice none 0 0] 30) (.cells #[.int .i64 0,.string ⟨#[]⟩,.int .i64 0,.slice none 0 0] 30))
    obtain⟨g0,g1,g2,g3⟩:=hrf.low (HB2.out (.cells #[.int .i64 0,.string ⟨#[]⟩,.int .i64 0,.slice none 0 0] 30) (.cells #[.int .i64 0,.string ⟨#[]⟩,.int .i64 0,.slice none 0 0] 30))
    obtain⟨p0,p1,p2,p3⟩:=hrf.low (HB2.out (.cells #[.int .i64 l.args[m].kind,.string l.args[m].name,.int .i64 l.args[m].n,.slice a1 l.args[m].args.length c1] 30) (.cells #[.int .i64 0,.string ⟨#[]⟩,.int .i64 0,.slice none 0 0] 30))
    obtain⟨q0,q1,q2,q3⟩:=hlf.low (HB2.out (.cells #[.int .i64 0,.string ⟨#[]⟩,.int .i64 0,.slice none 0 0] 30) (.cells #[.int .i64 r.args[m].kind,.string r.args[m].name,.int .i64 r.args[m].n,.slice b1 r.args[m].args.length d1] 30))
    clear i1 i2 i3 i4 i5 hl hr h4 hno hS hlf hla hrf hra hn hlen zo xo
    unfold tv
    generalize l.args[m]=x at *
    generalize r.args[m]=y at *
    go_enter Tryz.func61,Tryz.ntmps61
    go_wp2_with fail
    refine (need_yes _).mono ?_
    rintro e w' ⟨rfl,rfl⟩
    go_wp2_with fail
    refine (need_yes _).mono ?_
    rintro e w' ⟨rfl,rfl⟩
    go_wp2
    go_region
    go_wp2
    refine bodyPost_ret (v:=.tuple #[tv x a1 c1,tv y b1 d1]) (by simp[results,Tryz.results61,go_sem,tv]) rfl ?_
    rw[E.out]
    exact⟨(HB2.out _ _).drew,_,_,_,_,rfl,(LA.out _ _).mono fun _ hb=>Or.inl hb,(RA.out _ _).mono fun _ hb=>Or.inl hb⟩
   ·have E:Hid (nthT n l r=none):=Lib.hid (by unfold nthT;rw[if_neg];rintro ⟨_,_,h⟩;exact hlt h)
    have z2:decide (n<(l.args.length:Int))=false:=by simpa using hlt
    clear hlt hlen
    clear i1 i2 i3 i4 i5 hl hr h4 hno hS
    unfold tv
    go_enter Tryz.func61,Tryz.ntmps61
    go_wp2_with fail
    refine (need_yes _).mono ?_
    rintro e w' ⟨rfl,rfl⟩
    go_wp2_with fail
    refine (need_no _).mono ?_
    rintro e w' ⟨rfl,rfl⟩
    go_wp2
    refine⟨rfl,?_⟩
    rw[E.out]
    exact⟨HB2.out _ _,rfl⟩
def GivAt (S:Nat→Prop)(w:World)(v:Value)(g:List Giv):Prop :=
 ∃ a cap,v=.slice a g.length cap∧g.length≤4000∧∀ i (h:i<g.length),∃ b off a1 c1 a2 c2,a=some ⟨b,off,none⟩∧S b∧w.cell? ⟨b,off+i*9,none⟩=some (.string g[i].nm) ∧
  Four w b (off+i*9+1) (.int .i64 g[i].l.kind) (.string g[i].l.name) (.int .i64 g[i].l.n) (.slice a1 g[i].l.args.length c1)∧ArgsAt S w (.slice a1 g[i].l.args.length c1) g[i].l.args ∧
  Four w b (off+i*9+5) (.int .i64 g[i].r.kind) (.string g[i].r.name) (.int .i64 g[i].r.n) (.slice a2 g[i].r.args.length c2)∧ArgsAt S w (.slice a2 g[i].r.args.length c2) g[i].r.args
theorem GivAt.keep {S:Nat→Prop}{A B:World}(h:∀ b,S b→B.heap[b]? = A.heap[b]?){v:Value}{g:List Giv}(H:GivAt S A v g):GivAt S B v g:=by
 obtain⟨a,cap,e,hl,hc⟩:=H
 refine⟨a,cap,e,hl,fun i hi=>?_⟩
 obtain⟨b,off,a1,c1,a2,c2,e1,hb,k0,f1,r1,f2,r2⟩:=hc i hi
 exact⟨b,off,a1,c1,a2,c2,e1,hb,(World.cell?_of_block (h b hb)).trans k0,f1.keep (h b hb),r1.keep h,f2.keep (h b hb),r2.keep h⟩
theorem GivAt.mono {S S':Nat→Prop}(hS:∀ b,S b→S' b){A:World}{v:Value}{g:List Giv}(H:GivAt S A v g):GivAt S' A v g:=by
 obtain⟨a,cap,e,hl,hc⟩:=H
 refine⟨a,cap,e,hl,fun i hi=>?_⟩
 obtain⟨b,off,a1,c1,a2,c2,e1,hb,k0,f1,r1,f2,r2⟩:=hc i hi
 exact⟨b,off,a1,c1,a2,c2,e1,hS b hb,k0,f1,r1.mono hS,f2,r2.mono hS⟩
theorem GivAt.low {w w':World}{v:Value}{g:List Giv}(H:GivAt (Lt w.heap.size) w v g)(h:Below w.heap.size w w'):GivAt (Lt w'.heap.size) w' v g :=
 (H.keep fun b hb=>h.block b hb).mono fun _ hb=>Nat.lt_of_lt_of_le hb h.size
def OffT (S:Nat→Prop)(lo:Nat)(w:World)(v1 v2:Value)(b:Nat):Prop:=(S b∨lo≤b∧b<w.heap.size)∧v1.ownBlock≠some b∧v2.ownBlock≠some b
structure RowT (S:Nat→Prop)(lo:Nat)(w:World)(v:Value)(ts:List Ty)(svs:List Value):Prop where
 own:w.ownsRow lo 30 4 v ts.length (cellsT ts svs)
 len:svs.length=ts.length
 at_:∀ (j:Nat) (t:Ty) (sv:Value),ts[j]? = some t→svs[j]? = some sv→ArgsAt S w sv t.args
theorem RowT.nil (S:Nat→Prop)(lo:Nat)(w:World):RowT S lo w (.slice none 0 0) [] []:=⟨World.ownsRow_nil _ _ _ _,rfl,by simp⟩
theorem RowT.keep {S S':Nat→Prop}{lo:Nat}{w w':World}{v:Value}{ts:List Ty}{svs:List Value}(h:RowT S lo w v ts svs)(ho:∀ b,v.ownBlock=some b→w'.heap[b]? = w.heap[b]?)(hk:∀ b,S b→w'.heap[b]? = w.heap[b]?)(hS:∀ b,S b→S' b):RowT S' lo w' v ts svs :=
 ⟨own_keep4 h.own ho,h.len,fun j t sv h1 h2=>((h.at_ j t sv h1 h2).keep hk).mono hS⟩
theorem RowT.add {S:Nat→Prop}{lo:Nat}{w w':World}{v v' sv:Value}{ts:List Ty}{svs:List Value}{t:Ty}(h:RowT S lo w v ts svs)(hx:ArgsAt S w sv t.args)(hk:∀ b,S b→w'.heap[b]? = w.heap[b]?)
  (ho:w'.ownsRow lo 30 4 v' (ts.length+1) (cellsT ts svs++cell4 t sv)):RowT S lo w' v' (ts++[t]) (svs++[sv]):=by
 refine⟨by rw[cellsT_snoc _ _ _ _ h.len,List.length_append];exact ho,by simp[h.len],fun j u y h1 h2=>?_⟩
 rcases Nat.lt_or_ge j ts.length with hlt|hge
 ·rw[List.getElem?_append_left hlt] at h1
  rw[List.getElem?_append_left (by rw[h.len];exact hlt)] at h2
  exact (h.at_ j u y h1 h2).keep hk
 ·have hj:j=ts.length:=by
   have:=(List.getElem?_eq_some_iff.1 h1).1
   simp at this;omega
  subst hj
  rw[List.getElem?_append_right (Nat.le_refl _)] at h1
  rw[← h.len,List.getElem?_append_right (Nat.le_refl _)] at h2
  simp at h1 h2
  subst h1 h2
  exact hx.keep hk
theorem RowT.args {S S':Nat→Prop}{lo:Nat}{w:World}{v:Value}{ts:List Ty}{svs:List Value}(h:RowT S lo w v ts svs)(hl:ts.length≤4000)(hS:∀ b,S b→S' b)(hS':∀ b,lo≤b→b<w.heap.size→S' b):ArgsAt S' w v ts:=by
 rcases h.own.2 with ⟨rfl,h0⟩|⟨g,cap,cur,rfl,hb,hg,h1,h2,h3,h4⟩
 ·have:ts=[]:=List.eq_nil_of_length_eq_zero h0
  subst this
  exact .nil _ _
 ·refine .mk g 0 cap ts (fun i=>svs.getD i (.slice none 0 0)) (hS' g hb (Array.getElem?_eq_some_iff.1 hg).1) (by omega) (fun i hi=>?_) (fun i hi=>?_)
  ·have hi':i<svs.length:=by rw[h.len];exact hi
   obtain⟨a0,a1,a2,a3⟩:=cellsT_at ts svs h.len i hi hi'
   have hc:=h.own.cells (g:=g) rfl
   have hadd:∀ j,(⟨g,0,none⟩:Addr).add j=⟨g,j,none⟩:=fun j=>by unfold Addr.add;split<;>simp_all
   have b0:=hc _ _ a0
   have b1:=hc _ _ a1
   have b2:=hc _ _ a2
   have b3:=hc _ _ a3
   rw[hadd] at b0 b1 b2 b3
   simp only[Nat.zero_add]
   rw[List.getD_eq_getElem?_getD,List.getElem?_eq_getElem hi']
   exact⟨b0,b1,b2,b3⟩
  ·have hi':i<svs.length:=by rw[h.len];exact hi
   simp only[List.getD_eq_getElem?_getD,List.getElem?_eq_getElem hi',Option.getD_some]
   exact (h.at_ i _ _ (List.getElem?_eq_getElem hi) (List.getElem?_eq_getElem hi')).mono hS
structure Two (S:Nat→Prop)(lo:Nat)(w:World)(v1 v2:Value)(xs ys:List Ty)(sx sy:List Value):Prop where
 one:RowT (OffT S lo w v1 v2) lo w v1 xs sx
 two:RowT (OffT S lo w v1 v2) lo w v2 ys sy
 ne:∀ b,v1.ownBlock=some b→v2.ownBlock≠some b
 lt:∀ b,S b→b<lo
 le:lo≤w.heap.size
section
variable {S : Nat → Prop} {lo : Nat} {w w' : World} {v1 v2 v' sv : Value} {xs ys : List Ty} {sx sy : List Value} {t : Ty}
theorem Two.nil (h1:∀ b,S b→b<lo)(h2:lo≤w.heap.size):Two S lo w (.slice none 0 0) (.slice none 0 0) [] [] [] []:=⟨.nil _ _ _,.nil _ _ _,(fun _ h=>by cases h),h1,h2⟩
theorem Two.off (h:Two S lo w v1 v2 xs ys sx sy){b:Nat}(hb:OffT S lo w v1 v2 b):b<w.heap.size:=by
 rcases hb.1 with h'|h'
 ·have:=h.lt b h';have:=h.le;omega
 ·exact h'.2
theorem Two.low (h:Two S lo w v1 v2 xs ys sx sy)(hb:Below w.heap.size w w'):Two S lo w' v1 v2 xs ys sx sy:=by
 have k:∀ b,OffT S lo w v1 v2 b→OffT S lo w' v1 v2 b:=fun b h=>⟨h.1.imp id fun h=>⟨h.1,Nat.lt_of_lt_of_le h.2 hb.size⟩,h.2⟩
 exact⟨h.one.keep (fun b e=>hb.block b (h.one.own.lt b e).2) (fun b hb'=>hb.block b (h.off hb')) k,h.two.keep (fun b e=>hb.block b (h.two.own.lt b e).2) (fun b hb'=>hb.block b (h.off hb')) k,h.ne,h.lt,Nat.le_trans h.le hb.size⟩
theorem Two.add1 (h:Two S lo w v1 v2 xs ys sx sy)(hx:ArgsAt (OffT S lo w v1 v2) w sv t.args)(hg:w.grownBy w' v1.ownBlock)
  (ho:w'.ownsRow lo 30 4 v' (xs.length+1) (cellsT xs sx++cell4 t sv)) (hat:∀ b,v'.ownBlock=some b→v1.ownBlock=some b∨w.heap.size≤b):Two S lo w' v' v2 (xs++[t]) ys (sx++[sv]) sy:=by
 have hk:∀ b,OffT S lo w v1 v2 b→w'.heap[b]? = w.heap[b]? := fun b hb=>hg.block b (h.off hb) (Ne.symm hb.2.1)
 have k:∀ b,OffT S lo w v1 v2 b→OffT S lo w' v' v2 b:=fun b hb=>⟨hb.1.imp id fun h=>⟨h.1,Nat.lt_of_lt_of_le h.2 hg.size⟩,fun e=>by
  rcases hat b e with e|e
  ·exact hb.2.1 e
  ·have:=h.off hb;omega,hb.2.2⟩
 have h1:=h.one.add hx hk ho
 refine⟨⟨h1.own,h1.len,fun j t sv e1 e2=>(h1.at_ j t sv e1 e2).mono k⟩,h.two.keep (fun b e=>hg.block b (h.two.own.lt b e).2 (fun e'=>h.ne b e'.symm e)) hk k,(fun b e e2=>?_),h.lt,Nat.le_trans h.le hg.size⟩
 rcases hat b e with e|e
 ·exact h.ne b e e2
 ·have:=(h.two.own.lt b e2).2;omega
theorem Two.turn (h:Two S lo w v1 v2 xs ys sx sy):Two S lo w v2 v1 ys xs sy sx:=by
 have k:∀ b,OffT S lo w v1 v2 b→OffT S lo w v2 v1 b:=fun b h=>⟨h.1,h.2.2,h.2.1⟩
 exact⟨h.two.keep (fun _ _=>rfl) (fun _ _=>rfl) k,h.one.keep (fun _ _=>rfl) (fun _ _=>rfl) k,(fun b e e2=>h.ne b e2 e),h.lt,h.le⟩
theorem Two.new {W3:World}(h:Two S lo W3 v1 v2 xs ys sx sy){y:Value}{ts:List Ty}(hA:ArgsAt (New S W3 w) w y ts):ArgsAt (OffT S lo w v1 v2) w y ts :=
 hA.mono fun b hb'=>by
  have n1:v1.ownBlock≠some b:=fun e=>by
   have:=h.one.own.lt b e
   rcases hb' with h'|h'
   ·have:=h.lt b h';omega
   ·omega
  have n2:v2.ownBlock≠some b:=fun e=>by
   have:=h.two.own.lt b e
   rcases hb' with h'|h'
   ·have:=h.lt b h';omega
   ·omega
  exact⟨hb'.imp id fun h'=>⟨by have:=h.le;omega,h'.2⟩,n1,n2⟩
theorem Two.keepA (h:Two S lo w v1 v2 xs ys sx sy){y:Value}{ts:List Ty}(hA:ArgsAt (OffT S lo w v1 v2) w y ts)(hb:Below w.heap.size w w'):ArgsAt (OffT S lo w' v1 v2) w' y ts :=
 (hA.keep fun b hb'=>hb.block b (h.off hb')).mono fun _ h=>⟨h.1.imp id fun h=>⟨h.1,Nat.lt_of_lt_of_le h.2 hb.size⟩,h.2⟩
theorem Two.growA (h:Two S lo w v1 v2 xs ys sx sy){y:Value}{ts:List Ty}(hA:ArgsAt (OffT S lo w v1 v2) w y ts)(hg:w.grownBy w' v1.ownBlock)(hat:∀ b,v'.ownBlock=some b→v1.ownBlock=some b∨w.heap.size≤b):ArgsAt (OffT S lo w' v' v2) w' y ts :=
 (hA.keep fun b hb=>hg.block b (h.off hb) (Ne.symm hb.2.1)).mono fun b hb=>⟨hb.1.imp id fun h=>⟨h.1,Nat.lt_of_lt_of_le h.2 hg.size⟩,(fun e=>by
  rcases hat b e with e|e
  ·exact hb.2.1 e
  ·have:=h.off hb;omega),hb.2.2⟩
end
theorem step_append_any {P:Program}{ops:Array Oper}{o:Oper}{a:Act}{w:World}{K:Act→World→Prop}{Q:Exit→Act→World→Prop}{E:Prop}(hgd:o.guard=none)(s x:Operand)(t:TypeId)
  (ho:o.op=.call { callee:=.builtin .append,args:=#[s,x],argTypes:=#[t,t] }) {v vx:Value} (hs:a.eval s=v) (hx:a.eval x=vx) {R:Value→World→Prop}
  (hrun:∃ v' w',(Builtin.append_ #[t,t] o.type #[v,vx]).run P w=.ok v' w'∧R v' w') (h:∀ v' w',R v' w'→K (a.put o.dst v') w') :
  if Region.wanted o (yielded ops a.tmps)=true then Oper.wp P o a w K Q else E:=by
 have hw:Region.wanted o (yielded ops a.tmps)=true:=by simp[Region.wanted,hgd]
 rw[if_pos hw]
 obtain⟨v',w',hr,hR⟩:=hrun
 unfold Oper.wp execOp
 simp only[ho,resolve,invoke,builtin,Sem.run_bind,Sem.run_pure,Result.andThen_ok,List.map_toArray,List.map_cons,List.map_nil,hs,hx,hr]
 exact h v' w' hR
theorem Two.app {S:Nat→Prop}{lo:Nat}{w:World}{v1 v2:Value}{xs ys:List Ty}{sx sy:List Value}(h:Two S lo w v1 v2 xs ys sx sy)(ty:TypeId){g:Nat}{t:Ty}{a:Option Addr}{c:Nat}
  (hg:w.heap[g]? = some (.cells #[.int .i64 t.kind,.string t.name,.int .i64 t.n,.slice a t.args.length c] 30 (0,0))) (hA:ArgsAt (OffT S lo w v1 v2) w (.slice a t.args.length c) t.args) (hl:xs.length≤4000) :
  ∃ v' w',(Builtin.append_ #[28,28] ty #[v1,.slice (some ⟨g,0,none⟩) 1 1]).run Tryz.prog w=.ok v' w'∧Two S lo w' v' v2 (xs++[t]) ys (sx++[.slice a t.args.length c]) sy∧w.grownBy w' v1.ownBlock∧∀ b,v'.ownBlock=some b→v1.ownBlock=some b∨w.heap.size≤b:=by
 obtain⟨i0,hi0,hz0,hz1,hz3⟩:=info_parts infoTy
 obtain⟨g',cap,w',hr,ho,hgr,hat,_⟩:=run_append_lies (P:=Tryz.prog) (w:=w) 28 ty lo 30 i0 _ 4 56 Tryz.underlying28 hi0 hz0 hz1 hz3 rfl (by omega) v1 xs.length (cellsT xs sx) h.one.own ⟨g,0,none⟩ 1 1
  (cell4 t (.slice a t.args.length c)) rfl (World.news_of_block (cs:=#[.int .i64 t.kind,.string t.name,.int .i64 t.n,.slice a t.args.length c]) (t:=30) (fr:=(0,0)) hg) (by simp[cell4,Value.oneCell']) (by omega) (by unfold maxLen;omega) (by omega) h.le w.heap.size rfl
 have hat':∀ b,(Value.slice (some ⟨g',0,none⟩) (xs.length+1) cap).ownBlock=some b→v1.ownBlock=some b∨w.heap.size≤b:=fun b e=>by
  have e2:g'=b:=by simpa [Value.ownBlock] using e
  rcases hat with e3|e3
  ·exact .inl (by rw[e3,e2])
  ·right;omega
 exact⟨_,w',hr,h.add1 hA hgr ho hat',hgr,hat'⟩
def KidsPost (S:Nat→Prop)(w:World)(r:Option (List Ty × List Ty))(e:Ending)(w':World):Prop:=Below w.heap.size w w'∧match r with
 | none=>e=.panicked thrown
 | some p=>∃ a c b d,e=.returned (.tuple #[.slice a p.1.length c,.slice b p.2.length d])∧ArgsAt (New S w w') w' (.slice a p.1.length c) p.1∧ArgsAt (New S w w') w' (.slice b p.2.length d) p.2
theorem saysL_append (f:Co→Option (Ty × Ty))(a:List Co)(c:Co):saysL f (a++[c])=match saysL f a with
  | none=>none
  | some p=>match f c with
   | none=>none
   | some q=>some (p.1++[q.1],p.2++[q.2]):=by
 induction a with
 | nil =>
  rw[List.nil_append,saysL,saysL,saysL]
  cases f c<;>rfl
 | cons x xs ih =>
  rw[List.cons_append,saysL,saysL,ih]
  cases f x with
  | none=>rfl
  | some p =>
   cases saysL f xs with
   | none=>rfl
   | some q=>cases f c<;>rfl
theorem saysL_take {f:Co→Option (Ty × Ty)}(ks:List Co)(i:Nat)(h:i<ks.length):saysL f (ks.take (i+1))=match saysL f (ks.take i) with
  | none=>none
  | some p=>match f ks[i] with
   | none=>none
   | some q=>some (p.1++[q.1],p.2++[q.2]):=by
 rw[List.take_add_one,List.getElem?_eq_getElem h]
 exact saysL_append f _ _
theorem saysL_none {f:Co→Option (Ty × Ty)}{ks:List Co}{a:Co}(h:a∈ks)(e:f a=none):saysL f ks=none:=by
 induction ks with
 | nil=>cases h
 | cons c cs ih =>
  rw[saysL]
  rcases List.mem_cons.1 h with rfl|h
  ·rw[e]
  ·rw[ih h];cases f c<;>rfl
theorem saysL_len {f:Co→Option (Ty × Ty)} : ∀ {ks:List Co} {p:List Ty × List Ty},saysL f ks=some p→p.1.length=ks.length∧p.2.length=ks.length:=by
 intro ks
 induction ks with
 | nil=>intro p h;injection h with h;subst h;exact⟨rfl,rfl⟩
 | cons c cs ih =>
  intro p h
  rw[saysL] at h
  split at h
  ·cases h
  ·split at h
   ·cases h
   ·next q hq =>
    injection h with h
    subst h
    obtain⟨h1,h2⟩:=ih hq
    exact⟨by simp[h1],by simp[h2]⟩
end Go.Proofs.YtkihnodkhnahiaaGreatDoor.Tp

/- Texts laid together: MaPairs, MaMatchW, MaBnd, MaTop. -/
import Derived.Test.YtofllmemmggapaaGreatDoorP32
import Derived.Test.YtofllmemmggapaaGreatDoorP21
import Derived.Test.YtofllmemmggapaaGreatDoorP33
import Derived.Test.YtofllmemmggapaaGreatDoorP04
import Derived.Test.YtofllmemmggapaaGreatDoorP30

namespace Go.Proofs.YtofllmemmggapaaGreatDoor.Tp
open Go.RowKit
def cellsP (ps:List (ByteArray × ByteArray)):List Value:=ps.flatMap fun p=>[.string p.1,.string p.2]
theorem cellsP_cons (p:ByteArray × ByteArray)(ps:List (ByteArray × ByteArray)):cellsP (p :: ps)=.string p.1 :: .string p.2 :: cellsP ps:=rfl
theorem cellsP_app (l m:List (ByteArray × ByteArray)):cellsP (l++m)=cellsP l++cellsP m:=by unfold cellsP;rw[List.flatMap_append]
theorem cellsP_len:∀ ps:List (ByteArray × ByteArray),(cellsP ps).length=ps.length*2
 | []=>rfl
 | p :: ps=>by rw[cellsP_cons,List.length_cons,List.length_cons,cellsP_len ps,List.length_cons];omega
theorem cellsP_at:∀ (ps:List (ByteArray × ByteArray)) (i:Nat) (h:i<ps.length),(cellsP ps)[i*2]? = some (.string ps[i].1)∧(cellsP ps)[i*2+1]? = some (.string ps[i].2)
 | [],i,h=>by simp at h
 | p :: ps,0,h=>⟨rfl,rfl⟩
 | p :: ps,i+1,h=>by
  have:=cellsP_at ps i (by simpa using h)
  rw[cellsP_cons,show (i+1)*2=i*2+1+1 by omega,show i*2+1+1+1=(i*2+1)+1+1 from rfl]
  simp only[List.getElem?_cons_succ,List.getElem_cons_succ]
  exact this
theorem cellsP_inv:∀ (ps:List (ByteArray × ByteArray)) (j:Nat) (u:Value),(cellsP ps)[j]? = some u→∃ i,∃ h:i<ps.length,(j=i*2∧u=.string ps[i].1)∨(j=i*2+1∧u=.string ps[i].2)
 | [],j,u,h=>by simp[cellsP] at h
 | p :: ps,0,u,h=>⟨0,by simp,.inl ⟨rfl,by rw[cellsP_cons] at h;simpa using h.symm⟩⟩
 | p :: ps,1,u,h=>⟨0,by simp,.inr ⟨rfl,by rw[cellsP_cons] at h;simpa using h.symm⟩⟩
 | p :: ps,j+2,u,h=>by
  rw[cellsP_cons] at h
  simp only[List.getElem?_cons_succ] at h
  obtain⟨i,hi,h⟩:=cellsP_inv ps j u h
  refine⟨i+1,by simpa using hi,?_⟩
  simp only[List.getElem_cons_succ]
  exact h.imp (fun ⟨a,b⟩=>⟨by omega,b⟩) (fun ⟨a,b⟩=>⟨by omega,b⟩)
theorem cellsP_one (ps:List (ByteArray × ByteArray)):∀ u∈cellsP ps,u.oneCell'=true:=by
 intro u hu
 obtain⟨j,hj⟩:=List.mem_iff_getElem?.1 hu
 obtain⟨i,hi,⟨_,rfl⟩|⟨_,rfl⟩⟩:=cellsP_inv ps j u hj<;>rfl
theorem PairsAt.of_own {w:World}{lo:Nat}{v:Value}{ps:List (ByteArray × ByteArray)}(h:w.ownsRow lo 101 2 v ps.length (cellsP ps))(hl:ps.length≤1099511627776):PairsAt (fun b=>v.ownBlock=some b) w v ps:=by
 rcases h.2 with ⟨rfl,h0⟩|⟨g,cap,cur,rfl,hb,hg,h1,h2,h3,h4⟩
 ·have:ps=[]:=List.eq_nil_of_length_eq_zero h0
  subst this
  exact .nil _ _ _ _
 ·refine⟨_,cap,rfl,hl,.inr ⟨g,0,rfl,rfl,fun j hj=>?_⟩⟩
  have hc0:=h.cells (g:=g) rfl (j*2) _ (cellsP_at ps j hj).1
  have hc1:=h.cells (g:=g) rfl (j*2+1) _ (cellsP_at ps j hj).2
  rw[addr_add0] at hc0 hc1
  exact⟨hc0,hc1⟩
theorem infoP:(Tryz.prog.info? 101).map (fun i=>(i.zero,i.size,i.bytes))=some (some (.agg #[.string ByteArray.empty,.string ByteArray.empty]),2,32):=by kernel_rfl
theorem pairs_news {S:Nat→Prop}{w:World}{p:Addr}{n c:Nat}{l:List (ByteArray × ByteArray)}(h:PairsAt S w (.slice (some p) n c) l):∀ j u,(cellsP l)[j]? = some u→w.cell? (p.add j)=some u:=by
 intro j u hu
 obtain⟨i,hi,hju⟩:=cellsP_inv l j u hu
 obtain⟨a,cap,e,_,hc⟩:=h
 obtain⟨b,off,e2,_,hcc⟩:=hc.resolve_left (by intro e;rw[e] at hi;simp at hi)
 injection e with e _ _
 subst e
 obtain rfl:=Option.some.inj e2
 rw[addr_add0]
 rcases hju with ⟨rfl,rfl⟩|⟨rfl,rfl⟩
 ·exact (hcc i hi).1
 ·rw[← Nat.add_assoc];exact (hcc i hi).2
theorem append_pairs (ty:TypeId){wi wy:World}{lo:Nat}{S:Nat→Prop}{v1:Value}{p:Addr}{c:Nat}{l1 l2:List (ByteArray × ByteArray)}(o1:wy.ownsRow lo 101 2 v1 l1.length (cellsP l1))(h2:PairsAt S wy (.slice (some p) l2.length c) l2)
  (hb:Below wi.heap.size wi wy) (hlo:wi.heap.size≤lo) (hlo1:lo≤wy.heap.size) (hl1:l1.length≤1099511627776) (hl2:l2.length≤1099511627776) {L:List (ByteArray × ByteArray)} (hL:l1++l2=L) :
  ∃ v' w',(Builtin.append_ #[98,98] ty #[v1,.slice (some p) l2.length c]).run Tryz.prog wy=.ok v' w'∧w'.ownsRow wi.heap.size 101 2 v' L.length (cellsP L)∧Below wi.heap.size wi w':=by
 subst hL
 obtain⟨i0,hi0,hz3,hz1,hz2⟩:=info_parts infoP
 obtain⟨v',w',hr,ho,hgr,_⟩:=run_append_own (P:=Tryz.prog) wy lo 98 ty 101 i0 _ 2 32 Tryz.underlying98 hi0 hz3 hz1 hz2 rfl (by decide) v1 l1.length (cellsP l1) o1 p l2.length c (cellsP l2) (cellsP_len l2) (pairs_news h2) (cellsP_one l2) (by unfold maxLen;omega) (by omega) hlo1
 refine⟨v',w',hr,?_,hb.grown hgr (by have:=hb.size;omega) (fun k e=>by have:=(o1.lt k e).1;omega)⟩
 rw[List.length_append,cellsP_app];exact own_base ho hlo
theorem pairs_one {w:World}{b:Nat}{x y:ByteArray}{t:TypeId}{S:Nat→Prop}(h:w.heap[b]? = some (.cells #[.string x,.string y] t (0,0)))(hS:S b):PairsAt S w (.slice (some ⟨b,0,none⟩) 1 1) [(x,y)] :=
 ⟨_,1,rfl,by simp,.inr ⟨b,0,rfl,hS,fun j hj=>by
  have:j=0:=by simp at hj;omega
  subst this
  exact⟨cell_of_row w b 0 _ _ _ h,cell_of_row w b 1 _ _ _ h⟩⟩⟩
theorem ownP_none {w:World}{b:Nat}{t:TypeId}{lo:Nat}(h:w.heap[b]? = some (.cells #[] t (0,0)))(hb:lo≤b):w.ownsRow lo t 2 (.slice (some ⟨b,0,none⟩) 0 0) 0 [] :=
 ⟨by simp,.inr ⟨b,0,#[],rfl,hb,h,Nat.le_refl _,by unfold maxLen;omega,by simp,by simp⟩⟩
theorem nil_none (cap n:Nat)(w:World):(Go.binOp .eql 98 (.slice none n cap) (.slice none 0 0)).run Tryz.prog w=.ok (.bool true) w:=by
 kernel_rfl
theorem nil_some (p:Addr)(cap n:Nat)(w:World):(Go.binOp .eql 98 (.slice (some p) n cap) (.slice none 0 0)).run Tryz.prog w=.ok (.bool false) w:=by
 kernel_rfl
def PairsPost (w:World)(ps:List (ByteArray × ByteArray))(e:Ending)(w':World):Prop:=∃ v',e=.returned v'∧w'.ownsRow w.heap.size 101 2 v' ps.length (cellsP ps)∧Below w.heap.size w w'
set_option maxRecDepth 100000 in
set_option maxHeartbeats 1600000 in
theorem clonep_any (ps:List (ByteArray × ByteArray))(S:Nat→Prop)(v:Value)(w:World)(hP:PairsAt S w v ps)(hS:∀ b,S b→b<w.heap.size) :
  Calls Tryz.prog 58 #[v] w (PairsPost w ps):=by
 obtain⟨a,cap,rfl,hl,hc⟩:=hP
 cases a with
 | none =>
  have hps:ps=[]:=hc.resolve_right (fun ⟨b,off,e,_⟩=>by cases e)
  subst hps
  have F:Hid (PairsPost w [] (.returned (.slice none 0 0)) w):=hid ⟨_,rfl,World.ownsRow_nil _ _ _ _,.refl _ _⟩
  clear hc hS hl
  have q0:=nil_none cap 0 w
  go_enter Tryz.func58,Tryz.ntmps58
  go_wp2
  go_ret
  exact F.out
 | some p =>
  have hb:=(Below.refl w.heap.size w).alloc (Nat.le_refl _) (.cells #[] 101)
  have hP:PairsAt S (w.alloc (.cells #[] 101)) (.slice (some p) ps.length cap) ps:=⟨_,cap,rfl,hl,hc.imp id fun ⟨b,off,e,hb',hcc⟩=>⟨b,off,e,hb',fun i hi=>⟨(World.cell?_of_block (hb.block b (hS b hb'))).trans (hcc i hi).1,(World.cell?_of_block (hb.block b (hS b hb'))).trans (hcc i hi).2⟩⟩⟩
  have AP:=hid (fun ty=>append_pairs ty (wi:=w) (wy:=w.alloc (.cells #[] 101)) (lo:=w.heap.size) (l1:=[]) (ownP_none (heap_alloc_new w _) (Nat.le_refl _)) hP hb (Nat.le_refl _) hb.size (by simp) hl (List.nil_append ps))
  clear hc hS hP hb
  have q0:=nil_some p cap ps.length w
  go_enter Tryz.func58,Tryz.ntmps58
  obtain⟨v',w',hr,ho,hb'⟩:=AP.out 98
  have HO:=hid ho
  have HB:=hid hb'
  clear ho hb'
  go_wp2_with (at_builtin;refine Lib.wpList_append_run _ rfl _ _ _ _ rfl _ _ rfl rfl _ _ hr ?_)
  go_ret
  exact⟨_,rfl,HO.out,HB.out⟩
end Go.Proofs.YtofllmemmggapaaGreatDoor.Tp

namespace Go.Proofs.YtofllmemmggapaaGreatDoor.Tp
open Go.RowKit Go.Sort
def MCut (S:Nat→Prop)(mb fb:Nat)(vars:List ByteArray)(r:Bool × Fnd)(wr:World)(bv:Value)(wx:World):Prop:=bv=.bool (!r.1)∧MtAt S wx mb fb vars r.2∧Kp wr.heap.size (fun b=>b=fb) wr wx
def BCut (ps:Prs)(W0:World)(bv:Value)(wx:World):Prop:=wx.ownsRow W0.heap.size 101 2 bv ps.length (cellsP ps)∧Below W0.heap.size W0 wx
theorem VM.upk {S R:Nat→Prop}{W W':World}{pb tb mb fb:Nat}{p t:Ty}{pv tv' v:Value}{vars:List ByteArray}{f f':Fnd}{ps:Prs}(h:VM S R W pb tb mb fb p t pv tv' v vars f ps)(hM:MtAt S W' mb fb vars f')(hK:Kp W.heap.size (fun b=>b=fb) W W'):VM S R W' pb tb mb fb p t pv tv' v vars f' ps :=
 ⟨(hK.block pb h.kp.lt h.pne).trans h.kp,(hK.block tb h.kt.lt h.tne).trans h.kt,hM,h.at_.kp hK h.mt.hS,h.pr.keep fun b hb=>hK.block b (h.hR b hb).1 (h.hR b hb).2,fun b hb=>⟨Nat.lt_of_lt_of_le (h.hR b hb).1 hK.size,(h.hR b hb).2⟩,h.pne,h.tne⟩
def Szs (p:Ty):Prop:=p.size≤1073741824
theorem Szs.arg {p x:Ty}(h:Szs p)(hx:x∈p.args):Szs x:=by
 unfold Szs at *
 have:=size_arg _ hx
 rw[p.size_eq] at h
 omega
def Dps (n:Nat)(p:Ty):Prop:=n+p.depth≤1099511627776
def DpA (n:Nat)(p:Ty):Prop:=∀ x∈p.args,Dps n x
theorem DpA.arg {n:Nat}{p x:Ty}(h:DpA n p)(hx:x∈p.args):Dps n x:=h x hx
theorem depth_pos (p:Ty):1≤p.depth:=by rw[p.depth_eq];omega
theorem Dps.argN {n:Nat}{p:Ty}(h:Dps n p):DpA n p:=fun x hx=>by
 unfold Dps at *
 have:=depth_arg _ hx
 rw[p.depth_eq] at h
 omega
theorem Dps.argS {ps:Prs}{q:ByteArray × ByteArray}{p:Ty}(h:Dps ps.length p):DpA (ps++[q]).length p:=fun x hx=>by
 unfold Dps at *
 have:=depth_arg _ hx
 rw[p.depth_eq] at h
 simp
 omega
theorem small_arg {t x:Ty}(h:Small t)(hx:x∈t.args):Small x:=by
 refine⟨?_,?_⟩
 ·exact good_args h.1 _ hx
 ·have:=size_arg _ hx
  have h2:=h.2
  rw[t.size_eq] at h2
  omega
set_option maxRecDepth 100000 in
set_option maxHeartbeats 6400000 in
theorem match_any:∀ (p t:Ty) (ps:Prs) (S R:Nat→Prop) (pa ta:Option Addr) (pc tc:Nat) (v:Value) (mb fb:Nat) (vars:List ByteArray) (f:Fnd) (w:World),MtAt S w mb fb vars f →
  ArgsAt S w (.slice pa p.args.length pc) p.args→ArgsAt S w (.slice ta t.args.length tc) t.args→PairsAt R w v ps→(∀ b,R b→b<w.heap.size∧b≠fb)→Small t→Szs p→Dps ps.length p →
  Calls Tryz.prog 30 #[.pointer (some ⟨mb,0,none⟩),tv p pa pc,tv t ta tc,v] w (MPost S mb fb vars (mT vars p t (epS ps) (etS ps) f) w):=by
 intro p
 induction p using Ty.ind with
 | h p ih =>
  intro t ps S R pa ta pc tc v mb fb vars f w hM hp ht hP hR hs hz hd
  obtain⟨hzz,hV⟩:=vm_new (p:=p) (pa:=pa) (pc:=pc) hM ht hP hR
  have hp2:ArgsAt S ((w.alloc (.cells #[.int .i64 p.kind,.string p.name,.int .i64 p.n,.slice pa p.args.length pc] 26)).alloc (.cells #[.int .i64 t.kind,.string t.name,.int .i64 t.n,.slice ta t.args.length tc] 26)) (.slice pa p.args.length pc) p.args:=hp.keep fun b hb=>hzz.block b (hM.hS b hb).1
  have V:=hid hV
  have HZ:=hid hzz
  have AP:=hid hp2
  have IH:=hid ih
  have SM:=hid (fun x hx=>small_arg hs hx:∀ x∈t.args,Small x)
  have PZ:=hid hz
  have hpl:p.args.length≤1099511627776:=by
   have h1:=length_le_sizeL p.args
   have h2:p.size≤1073741824:=hz
   rw[p.size_eq] at h2
   omega
  have HS:=hid hs
  have HD:=hid hd
  have c0:=hV.kp.c0
  have c1:=hV.kp.c1
  have c2:=hV.kp.c2
  have c3:=hV.kp.c3
  have d0:=hV.kt.c0
  have d1:=hV.kt.c1
  have d2:=hV.kt.c2
  have d3:=hV.kt.c3
  cases h1:(p.kind==1) with
  | true =>
   have F:=hid (mT_var vars p t (epS ps) (etS ps) f (by simpa using h1))
   have CV:=hid (variable_any p t ps S R pa ta pc tc v mb fb vars f _ hV.mt hV.at_ hV.pr hV.hR hs)
   unfold tv at *
   clear ih hM hp ht hP hR hs hz hd hzz hV hp2
   go_enter Tryz.func30,Tryz.ntmps30
   go_wp2_with fail
   refine CV.out.mono ?_
   rintro e w4 ⟨rfl,hm4,hk4⟩
   have HM4:=hid hm4
   have HK4:=hid ((Kp.of_below (T:=fun b=>b=fb) HZ.out).trans hk4 HZ.out.size (fun b _ h=>h))
   clear hm4 hk4
   go_wp2
   go_ret
   rw[F.out]
   exact⟨rfl,HM4.out,HK4.out⟩
  | false =>
   clear ih hM hp ht hP hR hs hz hd hzz hV hp2
   cases hk:(p.kind != t.kind) with
   | true =>
    have F:Hid (mT vars p t (epS ps) (etS ps) f=(false,f)):=hid (mT_no vars p t _ _ f (by simpa using h1) (.inl (by simpa using hk)))
    unfold tv
    go_enter Tryz.func30,Tryz.ntmps30
    go_wp2
    go_ret
    rw[F.out]
    exact⟨rfl,V.out.mt,.of_below HZ.out⟩
   | false =>
    cases hl:((p.args.length:Int) != (t.args.length:Int)) with
    | true =>
     have F:Hid (mT vars p t (epS ps) (etS ps) f=(false,f)):=hid (mT_no vars p t _ _ f (by simpa using h1) (.inr (.inl (by simp only[bne_iff_ne,ne_eq,Int.natCast_inj] at hl;exact hl))))
     unfold tv
     go_enter Tryz.func30,Tryz.ntmps30
     go_wp2
     go_ret
     rw[F.out]
     exact⟨rfl,V.out.mt,.of_below HZ.out⟩
    | false =>
     have LE:Hid (p.args.length=t.args.length):=hid (by simp only[bne_eq_false_iff_eq,Int.natCast_inj] at hl;exact hl)
     cases hn:(p.n != t.n) with
     | true =>
      have F:Hid (mT vars p t (epS ps) (etS ps) f=(false,f)):=hid (mT_no vars p t _ _ f (by simpa using h1) (.inr (.inr (.inl (by simpa using hn)))))
      unfold tv
      go_enter Tryz.func30,Tryz.ntmps30
      go_wp2
      go_ret
      rw[F.out]
      exact⟨rfl,V.out.mt,.of_below HZ.out⟩
     | false =>
      cases h3:(p.kind==3) with
      | true =>
       by_cases hnm:p.name=t.name
       ·have q1:=beqN_true hnm
        have q2:(p.name.toList != t.name.toList)=false:=by unfold bne;rw[q1];rfl
        have q5:(p.kind==5)=false:=by simp only[beq_iff_eq,beq_eq_false_iff_ne] at h3 ⊢;omega
        have F:Hid (mT vars p t (epS ps) (etS ps) f=mL vars p.args t.args (epS ps) (etS ps) f):=hid (mT_other vars p t _ _ f (by simpa using h1) (by simpa using q5) (by
         rintro (h|h|h|h)
         ·exact h (by simpa using hk)
         ·exact h LE.out
         ·exact h (by simpa using hn)
         ·exact h.2 hnm))
        have PD:Hid (DpA ps.length p):=hid HD.out.argN
        have K0:=hid (Kp.of_below (T:=fun b=>b=fb) HZ.out)
        clear hnm
        unfold tv
        go_enter Tryz.func30,Tryz.ntmps30
        go_wp2
        go_loopw [66] (fun iv wr=>∃ (i:Nat) (g:Fnd),iv=.int .i64 i∧i≤p.args.length∧mL vars (p.args.take i) (t.args.take i) (epS ps) (etS ps) f=(true,g)∧VM S R wr w.heap.size (w.heap.size+1) mb fb p t (.slice pa p.args.length pc) (.slice ta t.args.length tc) v vars g ps∧ArgsAt S wr (.slice pa p.args.length pc) p.args∧Kp w.heap.size (fun b=>b=fb) w wr) (fun iv _=>p.args.length - (intOf iv).toNat)
        case atStart=>exact⟨0,f,rfl,Nat.zero_le _,by simp[mL],V.out,AP.out,K0.out⟩
        case round =>
         clear V K0 AP
         obtain⟨i,g,rfl,hil,hg,hV,hA,hK⟩:=hrel
         have GE:=hid hg
         have VR:=hid hV
         have AR:=hid hA
         have KR:=hid hK
         have c3:=hV.kp.c3
         by_cases hi:i<p.args.length
         ·have z0:(0:Int)≤(i:Int):=by omega
          have z1:(i:Int)<(p.args.length:Int):=by omega
          have hj:i<t.args.length:=by have:=LE.out;omega
          have z2:(i:Int)<(t.args.length:Int):=by omega
          obtain⟨b,off,a',c',rfl,hb,hf4,hs⟩:=hA.at_ hi
          obtain⟨tb,toff,ta',tc',rfl,htb,ht4,hts⟩:=hV.at_.at_ hj
          obtain⟨f0,f1,f2,f3⟩:=hf4
          obtain⟨g0,g1,g2,g3⟩:=ht4
          have c3:=hV.kp.c3
          have d3:=hV.kt.c3
          have hd:Below wr.heap.size wr wr.drew:=(Below.refl _ _).drew
          have CI:=hid (IH.out p.args[i] (List.getElem_mem hi) t.args[i] ps S R a' ta' c' tc' v mb fb vars g wr.drew (hV.mt.low hd) (hs.keep (A:=wr) (B:=wr.drew) fun _ _=>rfl) (hts.keep (A:=wr) (B:=wr.drew) fun _ _=>rfl) (hV.pr.keep (A:=wr) (B:=wr.drew) fun _ _=>rfl) (fun b hb=>hV.hR b hb) (SM.out _ (List.getElem_mem hj)) (PZ.out.arg (List.getElem_mem hi)) (PD.out.arg (List.getElem_mem hi)))
          have YES:Hid ((mT vars p.args[i] t.args[i] (epS ps) (etS ps) g).1=true→_):=hid (mL_yes hg hi hj)
          have NOT:Hid ((mT vars p.args[i] t.args[i] (epS ps) (etS ps) g).1=false→_):=hid (mL_not hg hi hj)
          clear hg hV hA hK hs hts hd hb htb
          generalize hr:mT vars p.args[i] t.args[i] (epS ps) (etS ps) g=r at *
          generalize p.args[i]=x at *
          generalize t.args[i]=y at *
          clear hr
          unfold tv at *
          go_upto_region 10 with fail
          go_cut [82] from 69 to 83 (fun bv wx=>MCut S mb fb vars r wr bv wx)
          case first =>
           go_region_law (go_simp;go_at_call 30;(with_reducible refine CI.out.mono ?_);rintro e w4 ⟨rfl,hm4,hk4⟩;have HM4:=hid hm4;have HK4:=hid ((Kp.of_below (n:=wr.heap.size) (T:=fun b=>b=fb) (Below.refl wr.heap.size wr).drew).trans hk4 (Nat.le_refl _) (fun b _ h=>h));clear hm4 hk4)
           all_goals
            go_wp2_with fail
            go_meet
            exact⟨rfl,HM4.out,HK4.out⟩
          obtain⟨rfl,hM,hK⟩:=hcut
          have KC:=hid (KR.out.trans hK (Nat.le_trans (Nat.le_refl _) KR.out.size) (fun b _ h=>h))
          have VC:=hid (VR.out.upk hM hK)
          have AC:=hid (AR.out.kp hK fun b hb=>VR.out.mt.hS b hb)
          clear hM hK
          cases hrr:r.1 with
          | false =>
           have F2:=hid (F.out.trans (NOT.out hrr))
           clear hrr
           go_wp2
           go_ret
           rw[F2.out]
           exact⟨rfl,VC.out.mt,KC.out⟩
          | true =>
           have GY:=hid (YES.out hrr)
           clear hrr
           go_wp2
           go_roundw
           case rel=>exact⟨i+1,_,by go_num,by omega,GY.out,VC.out,AC.out,KC.out⟩
           case measure=>simp[intOf];omega
         ·obtain rfl:i=p.args.length:=by omega
          have F2:=hid (F.out.trans (mL_end GE.out LE.out))
          clear hg hV hA hK
          go_wp2
          go_ret
          rw[F2.out]
          exact⟨rfl,VR.out.mt,KR.out⟩
       ·have q1:=beqN_false hnm
        have q2:(p.name.toList != t.name.toList)=true:=by unfold bne;rw[q1];rfl
        have F:Hid (mT vars p t (epS ps) (etS ps) f=(false,f)):=hid (mT_no vars p t _ _ f (by simpa using h1) (.inr (.inr (.inr ⟨by simpa using h3,hnm⟩))))
        clear hnm
        unfold tv
        go_enter Tryz.func30,Tryz.ntmps30
        go_wp2
        go_ret
        rw[F.out]
        exact⟨rfl,V.out.mt,.of_below HZ.out⟩
      | false =>
       cases h5:(p.kind==5) with
       | false =>
        have F:Hid (mT vars p t (epS ps) (etS ps) f=mL vars p.args t.args (epS ps) (etS ps) f):=hid (mT_other vars p t _ _ f (by simpa using h1) (by simpa using h5) (by
         rintro (h|h|h|h)
         ·exact h (by simpa using hk)
         ·exact h LE.out
         ·exact h (by simpa using hn)
         ·rw[beq_eq_false_iff_ne] at h3;exact h3 h.1))
        have PD:Hid (DpA ps.length p):=hid HD.out.argN
        have K0:=hid (Kp.of_below (T:=fun b=>b=fb) HZ.out)
        unfold tv
        go_enter Tryz.func30,Tryz.ntmps30
        go_wp2
        go_loopw [66] (fun iv wr=>∃ (i:Nat) (g:Fnd),iv=.int .i64 i∧i≤p.args.length∧mL vars (p.args.take i) (t.args.take i) (epS ps) (etS ps) f=(true,g)∧VM S R wr w.heap.size (w.heap.size+1) mb fb p t (.slice pa p.args.length pc) (.slice ta t.args.length tc) v vars g ps∧ArgsAt S wr (.slice pa p.args.length pc) p.args∧Kp w.heap.size (fun b=>b=fb) w wr) (fun iv _=>p.args.length - (intOf iv).toNat)
        case atStart=>exact⟨0,f,rfl,Nat.zero_le _,by simp[mL],V.out,AP.out,K0.out⟩
        case round =>
         clear V K0 AP
         obtain⟨i,g,rfl,hil,hg,hV,hA,hK⟩:=hrel
         have GE:=hid hg
         have VR:=hid hV
         have AR:=hid hA
         have KR:=hid hK
         have c3:=hV.kp.c3
         by_cases hi:i<p.args.length
         ·have z0:(0:Int)≤(i:Int):=by omega
          have z1:(i:Int)<(p.args.length:Int):=by omega
          have hj:i<t.args.length:=by have:=LE.out;omega
          have z2:(i:Int)<(t.args.length:Int):=by omega
          obtain⟨b,off,a',c',rfl,hb,hf4,hs⟩:=hA.at_ hi
          obtain⟨tb,toff,ta',tc',rfl,htb,ht4,hts⟩:=hV.at_.at_ hj
          obtain⟨f0,f1,f2,f3⟩:=hf4
          obtain⟨g0,g1,g2,g3⟩:=ht4
          have c3:=hV.kp.c3
          have d3:=hV.kt.c3
          have hd:Below wr.heap.size wr wr.drew:=(Below.refl _ _).drew
          have CI:=hid (IH.out p.args[i] (List.getElem_mem hi) t.args[i] ps S R a' ta' c' tc' v mb fb vars g wr.drew (hV.mt.low hd) (hs.keep (A:=wr) (B:=wr.drew) fun _ _=>rfl) (hts.keep (A:=wr) (B:=wr.drew) fun _ _=>rfl) (hV.pr.keep (A:=wr) (B:=wr.drew) fun _ _=>rfl) (fun b hb=>hV.hR b hb) (SM.out _ (List.getElem_mem hj)) (PZ.out.arg (List.getElem_mem hi)) (PD.out.arg (List.getElem_mem hi)))
          have YES:Hid ((mT vars p.args[i] t.args[i] (epS ps) (etS ps) g).1=true→_):=hid (mL_yes hg hi hj)
          have NOT:Hid ((mT vars p.args[i] t.args[i] (epS ps) (etS ps) g).1=false→_):=hid (mL_not hg hi hj)
          clear hg hV hA hK hs hts hd hb htb
          generalize hr:mT vars p.args[i] t.args[i] (epS ps) (etS ps) g=r at *
          generalize p.args[i]=x at *
          generalize t.args[i]=y at *
          clear hr
          unfold tv at *
          go_upto_region 10 with fail
          go_cut [82] from 69 to 83 (fun bv wx=>MCut S mb fb vars r wr bv wx)
          case first =>
           go_region_law (go_simp;go_at_call 30;(with_reducible refine CI.out.mono ?_);rintro e w4 ⟨rfl,hm4,hk4⟩;have HM4:=hid hm4;have HK4:=hid ((Kp.of_below (n:=wr.heap.size) (T:=fun b=>b=fb) (Below.refl wr.heap.size wr).drew).trans hk4 (Nat.le_refl _) (fun b _ h=>h));clear hm4 hk4)
           all_goals
            go_wp2_with fail
            go_meet
            exact⟨rfl,HM4.out,HK4.out⟩
          obtain⟨rfl,hM,hK⟩:=hcut
          have KC:=hid (KR.out.trans hK (Nat.le_trans (Nat.le_refl _) KR.out.size) (fun b _ h=>h))
          have VC:=hid (VR.out.upk hM hK)
          have AC:=hid (AR.out.kp hK fun b hb=>VR.out.mt.hS b hb)
          clear hM hK
          cases hrr:r.1 with
          | false =>
           have F2:=hid (F.out.trans (NOT.out hrr))
           clear hrr
           go_wp2
           go_ret
           rw[F2.out]
           exact⟨rfl,VC.out.mt,KC.out⟩
          | true =>
           have GY:=hid (YES.out hrr)
           clear hrr
           go_wp2
           go_roundw
           case rel=>exact⟨i+1,_,by go_num,by omega,GY.out,VC.out,AC.out,KC.out⟩
           case measure=>simp[intOf];omega
         ·obtain rfl:i=p.args.length:=by omega
          have F2:=hid (F.out.trans (mL_end GE.out LE.out))
          clear hg hV hA hK
          go_wp2
          go_ret
          rw[F2.out]
          exact⟨rfl,VR.out.mt,KR.out⟩
       | true =>
        have F:Hid (mT vars p t (epS ps) (etS ps) f=mL vars p.args t.args (p.name :: epS ps) (t.name :: etS ps) f):=hid (mT_all vars p t _ _ f (by simpa using h5) (by
         rintro (h|h|h|h)
         ·exact h (by simpa using hk)
         ·exact h LE.out
         ·exact h (by simpa using hn)
         ·rw[beq_eq_false_iff_ne] at h3;exact h3 h.1))
        have PD:Hid (DpA (ps++[(p.name,t.name)]).length p):=hid HD.out.argS
        unfold tv
        go_enter Tryz.func30,Tryz.ntmps30
        go_wp2
        generalize (w.alloc (.cells #[.int .i64 p.kind,.string p.name,.int .i64 p.n,.slice pa p.args.length pc] 26)).alloc (.cells #[.int .i64 t.kind,.string t.name,.int .i64 t.n,.slice ta t.args.length tc] 26)=W0 at *
        have HW:Hid (Below W0.heap.size W0 W0.drew):=hid (Below.refl _ _).drew
        have HA1:Hid (Below W0.heap.size W0 (W0.alloc (.cells #[.string p.name,.string t.name] 101)).drew):=hid ((Below.refl _ _).alloc (Nat.le_refl _) _).drew
        have KK:Hid (∀ W:World,Below W0.heap.size W0 W→W.cell? ⟨w.heap.size,1,none⟩=some (.string p.name)∧W.cell? ⟨w.heap.size+1,1,none⟩=some (.string t.name)):=hid (fun W h=>⟨(V.out.kp.low h).c1,(V.out.kt.low h).c1⟩)
        have hps:ps.length≤1099511627776:=by have:=HD.out;unfold Dps at this;omega
        have CC:=hid (fun (W:World) (h:Below W0.heap.size W0 W)=>clonep_any ps R v W ((V.out.low h).pr) (fun b hb=>((V.out.low h).hR b hb).1))
        have AA:=hid (fun (ty:TypeId) (v1:Value) (w1:World) (h:Below W0.heap.size W0 w1) (o:w1.ownsRow W0.heap.size 101 2 v1 ps.length (cellsP ps)) =>
         append_pairs ty (wi:=W0) (wy:=w1.alloc (.cells #[.string p.name,.string t.name] 101)) (lo:=W0.heap.size) (S:=fun _=>True) (l2:=[(p.name,t.name)]) (o.alloc _) (pairs_one (heap_alloc_new w1 _) True.intro) (h.alloc h.size _) (Nat.le_refl _) (Nat.le_trans h.size (by simp)) hps (by simp) rfl)
        have AB:=hid (fun (ty:TypeId) (v1:Value) (w1:World) (h:Below W0.heap.size W0 w1) (o:w1.ownsRow W0.heap.size 101 2 v1 ps.length (cellsP ps)) (hb:w1.heap[W0.heap.size]? = some (.cells #[.string p.name,.string t.name] 101 (0,0))) =>
         append_pairs ty (wi:=W0) (wy:=w1) (lo:=W0.heap.size) (S:=fun _=>True) (l2:=[(p.name,t.name)]) o (pairs_one hb True.intro) h (Nat.le_refl _) h.size hps (by simp) rfl)
        clear hps
        go_upto_region 6 with fail
        go_cut [3] from 54 to 63 (fun bv wx=>BCut (ps++[(p.name,t.name)]) W0 bv wx)
        case first =>
         obtain⟨e0,e1⟩:=KK.out _ HW.out
         obtain⟨l0,l1⟩:=KK.out _ HA1.out
         go_region_law (first
          | ((with_reducible show (if Region.wanted _ _=true then Oper.wp _ _ _ (W0.alloc (.cells #[.string p.name,.string t.name] 101)).drew _ _ else _));go_simp;go_at_call 58;(with_reducible refine (CC.out _ HA1.out).mono ?_);rintro e w1 ⟨v1,rfl,ho1,hb1⟩;have HX2:=hid (HA1.out.trans (hb1.mono HA1.out.size));have A2:=hid (AB.out 98 v1 w1 HX2.out (own_base ho1 HA1.out.size) ((hb1.block _ (by simp)).trans (heap_alloc_new W0 _)));obtain⟨j0,j1⟩:=KK.out _ HX2.out;clear ho1 hb1)
          | (go_simp;go_at_call 58;(with_reducible refine (CC.out _ HW.out).mono ?_);rintro e w1 ⟨v1,rfl,ho1,hb1⟩;have HX1:=hid (HW.out.trans (hb1.mono HW.out.size));have A1:=hid (AA.out 98 v1 w1 HX1.out (own_base ho1 HW.out.size));obtain⟨i0,i1⟩:=KK.out _ HX1.out;have HX3:=hid (HX1.out.alloc HX1.out.size (.cells #[.string p.name,.string t.name] 101));obtain⟨k0,k1⟩:=KK.out _ HX3.out;clear ho1 hb1)
          | (refine step_append_ok (by rfl) _ _ _ (by rfl) (by rfl) (by rfl) A1.out ?_;rintro v2 w2 ⟨ho2,hx2⟩;have HO2:=hid ho2;have HX:=hid hx2;clear ho2 hx2)
          | (refine step_append_ok (by rfl) _ _ _ (by rfl) (by rfl) (by rfl) A2.out ?_;rintro v2 w2 ⟨ho2,hx2⟩;have HO2:=hid ho2;have HX:=hid hx2;clear ho2 hx2))
         all_goals
          go_wp2_with fail
          go_meet
          exact⟨HO2.out,HX.out⟩
        obtain⟨ho,hb⟩:=hcut
        have hsz:(ps++[(p.name,t.name)]).length≤1099511627776:=by have:=HD.out;unfold Dps at this;have:=depth_pos p;simp;omega
        have VC:Hid (VM S (fun b=>u3.ownBlock=some b) wc w.heap.size (w.heap.size+1) mb fb p t (.slice pa p.args.length pc) (.slice ta t.args.length tc) u3 vars f (ps++[(p.name,t.name)])):=hid (by
         have h:=V.out.low hb
         exact⟨h.kp,h.kt,h.mt,h.at_,PairsAt.of_own ho hsz,fun b e=>⟨(ho.lt b e).2,by have:=(ho.lt b e).1;have:=V.out.mt.fnd.lt;omega⟩,h.pne,h.tne⟩)
        have K0:=hid (Kp.of_below (T:=fun b=>b=fb) (HZ.out.trans (hb.mono HZ.out.size)))
        have AC:=hid (AP.out.keep fun b hb'=>hb.block b (V.out.mt.hS b hb').1)
        have c3:=VC.out.kp.c3
        clear ho hb hsz
        go_wp2
        go_loopw [66] (fun iv wr=>∃ (i:Nat) (g:Fnd),iv=.int .i64 i∧i≤p.args.length∧mL vars (p.args.take i) (t.args.take i) (p.name :: epS ps) (t.name :: etS ps) f=(true,g)∧VM S (fun b=>u3.ownBlock=some b) wr w.heap.size (w.heap.size+1) mb fb p t (.slice pa p.args.length pc) (.slice ta t.args.length tc) u3 vars g (ps++[(p.name,t.name)])∧ArgsAt S wr (.slice pa p.args.length pc) p.args∧Kp w.heap.size (fun b=>b=fb) w wr) (fun iv _=>p.args.length - (intOf iv).toNat)
        case atStart=>exact⟨0,f,rfl,Nat.zero_le _,by simp[mL],VC.out,AC.out,K0.out⟩
        case round =>
         clear VC K0 AC
         obtain⟨i,g,rfl,hil,hg,hV,hA,hK⟩:=hrel
         have GE:=hid hg
         have VR:=hid hV
         have AR:=hid hA
         have KR:=hid hK
         have c3:=hV.kp.c3
         by_cases hi:i<p.args.length
         ·have z0:(0:Int)≤(i:Int):=by omega
          have z1:(i:Int)<(p.args.length:Int):=by omega
          have hj:i<t.args.length:=by have:=LE.out;omega
          have z2:(i:Int)<(t.args.length:Int):=by omega
          obtain⟨b,off,a',c',rfl,hb,hf4,hs⟩:=hA.at_ hi
          obtain⟨tb,toff,ta',tc',rfl,htb,ht4,hts⟩:=hV.at_.at_ hj
          obtain⟨f0,f1,f2,f3⟩:=hf4
          obtain⟨g0,g1,g2,g3⟩:=ht4
          have c3:=hV.kp.c3
          have d3:=hV.kt.c3
          have hd:Below wr.heap.size wr wr.drew:=(Below.refl _ _).drew
          have CI:=hid (IH.out p.args[i] (List.getElem_mem hi) t.args[i] (ps++[(p.name,t.name)]) S (fun b=>u3.ownBlock=some b) a' ta' c' tc' u3 mb fb vars g wr.drew (hV.mt.low hd) (hs.keep (A:=wr) (B:=wr.drew) fun _ _=>rfl) (hts.keep (A:=wr) (B:=wr.drew) fun _ _=>rfl) (hV.pr.keep (A:=wr) (B:=wr.drew) fun _ _=>rfl) (fun b hb=>hV.hR b hb) (SM.out _ (List.getElem_mem hj)) (PZ.out.arg (List.getElem_mem hi)) (PD.out.arg (List.getElem_mem hi)))
          have YES:Hid ((mT vars p.args[i] t.args[i] (p.name :: epS ps) (t.name :: etS ps) g).1=true→_):=hid (mL_yes hg hi hj)
          have NOT:Hid ((mT vars p.args[i] t.args[i] (p.name :: epS ps) (t.name :: etS ps) g).1=false→_):=hid (mL_not hg hi hj)
          rw[epS_snoc,etS_snoc] at CI
          clear hg hV hA hK hs hts hd hb htb
          generalize hr:mT vars p.args[i] t.args[i] (p.name :: epS ps) (t.name :: etS ps) g=r at *
          generalize p.args[i]=x at *
          generalize t.args[i]=y at *
          clear hr
          unfold tv at *
          go_upto_region 10 with fail
          go_cut [82] from 69 to 83 (fun bv wx=>MCut S mb fb vars r wr bv wx)
          case first =>
           go_region_law (go_simp;go_at_call 30;(with_reducible refine CI.out.mono ?_);rintro e w4 ⟨rfl,hm4,hk4⟩;have HM4:=hid hm4;have HK4:=hid ((Kp.of_below (n:=wr.heap.size) (T:=fun b=>b=fb) (Below.refl wr.heap.size wr).drew).trans hk4 (Nat.le_refl _) (fun b _ h=>h));clear hm4 hk4)
           all_goals
            go_wp2_with fail
            go_meet
            exact⟨rfl,HM4.out,HK4.out⟩
          obtain⟨rfl,hM,hK⟩:=hcut
          have KC:=hid (KR.out.trans hK (Nat.le_trans (Nat.le_refl _) KR.out.size) (fun b _ h=>h))
          have VC:=hid (VR.out.upk hM hK)
          have AC:=hid (AR.out.kp hK fun b hb=>VR.out.mt.hS b hb)
          clear hM hK
          cases hrr:r.1 with
          | false =>
           have F2:=hid (F.out.trans (NOT.out hrr))
           clear hrr
           go_wp2
           go_ret
           rw[F2.out]
           exact⟨rfl,VC.out.mt,KC.out⟩
          | true =>
           have GY:=hid (YES.out hrr)
           clear hrr
           go_wp2
           go_roundw
           case rel=>exact⟨i+1,_,by go_num,by omega,GY.out,VC.out,AC.out,KC.out⟩
           case measure=>simp[intOf];omega
         ·obtain rfl:i=p.args.length:=by omega
          have F2:=hid (F.out.trans (mL_end GE.out LE.out))
          clear hg hV hA hK
          go_wp2
          go_ret
          rw[F2.out]
          exact⟨rfl,VR.out.mt,KR.out⟩
end Go.Proofs.YtofllmemmggapaaGreatDoor.Tp

namespace Go.Proofs.YtofllmemmggapaaGreatDoor.Tp
open Go.RowKit
def cell5 (e:ByteArray × Ty)(sv:Value):List Value:=.string e.1 :: cell4 e.2 sv
def cellsB (l:Fnd)(svs:List Value):List Value:=(l.zip svs).flatMap fun p=>cell5 p.1 p.2
theorem cellsB_cons (e:ByteArray × Ty)(l:Fnd)(v:Value)(svs:List Value):cellsB (e :: l) (v :: svs)=.string e.1 :: .int .i64 e.2.kind :: .string e.2.name :: .int .i64 e.2.n :: v :: cellsB l svs:=rfl
theorem cellsB_snoc (l:Fnd)(svs:List Value)(e:ByteArray × Ty)(v:Value)(h:svs.length=l.length):cellsB (l++[e]) (svs++[v])=cellsB l svs++cell5 e v:=by
 unfold cellsB
 rw[List.zip_append h.symm,List.flatMap_append]
 simp
theorem cellsB_at:∀ (l:Fnd) (svs:List Value),svs.length=l.length→∀ (i:Nat) (h:i<l.length) (h':i<svs.length),
  (cellsB l svs)[i*5]? = some (.string l[i].1)∧(cellsB l svs)[i*5+1]? = some (.int .i64 l[i].2.kind)∧(cellsB l svs)[i*5+2]? = some (.string l[i].2.name)∧(cellsB l svs)[i*5+3]? = some (.int .i64 l[i].2.n)∧(cellsB l svs)[i*5+4]? = some svs[i]
 | [],_,_,i,h,_=>by simp at h
 | t :: ts,[],hh,_,_,_=>by simp at hh
 | t :: ts,v :: svs,hh,i,h,h'=>by
  rw[cellsB_cons]
  cases i with
  | zero=>exact⟨rfl,rfl,rfl,rfl,rfl⟩
  | succ i =>
   have:=cellsB_at ts svs (by simpa using hh) i (by simpa using h) (by simpa using h')
   rw[show (i+1)*5=i*5+1+1+1+1+1 by omega,show i*5+1+1+1+1+1+2=i*5+2+1+1+1+1+1 by omega,show i*5+1+1+1+1+1+3=i*5+3+1+1+1+1+1 by omega,show i*5+1+1+1+1+1+4=i*5+4+1+1+1+1+1 by omega]
   simp only[List.getElem?_cons_succ,List.getElem_cons_succ]
   exact this
def BndAt (S:Nat→Prop)(w:World)(v:Value)(l:Fnd):Prop :=
 ∃ a cap,v=.slice a l.length cap∧l.length≤1099511627776∧(l=[]∨∃ b off,a=some ⟨b,off,none⟩∧S b ∧
  ∀ i (h:i<l.length),w.cell? ⟨b,off+i*5,none⟩=some (.string l[i].1)∧∃ a' c',Four w b (off+i*5+1) (.int .i64 l[i].2.kind) (.string l[i].2.name) (.int .i64 l[i].2.n) (.slice a' l[i].2.args.length c')∧ArgsAt S w (.slice a' l[i].2.args.length c') l[i].2.args)
theorem BndAt.keep {S:Nat→Prop}{A B:World}(h:∀ b,S b→B.heap[b]? = A.heap[b]?){v:Value}{l:Fnd}(H:BndAt S A v l):BndAt S B v l:=by
 obtain⟨a,cap,e,hl,hc⟩:=H
 refine⟨a,cap,e,hl,hc.imp id ?_⟩
 rintro ⟨b,off,e,hb,hc⟩
 refine⟨b,off,e,hb,fun i hi=>?_⟩
 obtain⟨h0,a',c',h4,hA⟩:=hc i hi
 exact⟨(World.cell?_of_block (h b hb)).trans h0,a',c',h4.keep (h b hb),hA.keep h⟩
theorem BndAt.mono {S S':Nat→Prop}(hS:∀ b,S b→S' b){A:World}{v:Value}{l:Fnd}(H:BndAt S A v l):BndAt S' A v l:=by
 obtain⟨a,cap,e,hl,hc⟩:=H
 refine⟨a,cap,e,hl,hc.imp id ?_⟩
 rintro ⟨b,off,e,hb,hc⟩
 refine⟨b,off,e,hS b hb,fun i hi=>?_⟩
 obtain⟨h0,a',c',h4,hA⟩:=hc i hi
 exact⟨h0,a',c',h4,hA.mono hS⟩
structure Bacc (S:Nat→Prop)(lo:Nat)(w:World)(v:Value)(acc:Fnd)(svs:List Value):Prop where
 own:w.ownsRow lo 56 5 v acc.length (cellsB acc svs)
 len:svs.length=acc.length
 at_:∀ (j:Nat) (h:j<acc.length) (h':j<svs.length),∃ a c,svs[j]=.slice a acc[j].2.args.length c∧ArgsAt S w (.slice a acc[j].2.args.length c) acc[j].2.args
theorem Bacc.nil (S:Nat→Prop)(lo:Nat)(w:World):Bacc S lo w (.slice none 0 0) [] []:=⟨World.ownsRow_nil _ _ _ _,rfl,by simp⟩
theorem Bacc.low {S:Nat→Prop}{lo:Nat}{w w':World}{v:Value}{acc:Fnd}{svs:List Value}(h:Bacc S lo w v acc svs)(hS:∀ b,S b→b<w.heap.size)(hb:Below w.heap.size w w'):Bacc S lo w' v acc svs :=
 ⟨own_keep4 h.own fun b e=>hb.block b (h.own.lt b e).2,h.len,fun j h1 h2=>by
  obtain⟨a,c,e,hA⟩:=h.at_ j h1 h2
  exact⟨a,c,e,hA.keep fun b hb'=>hb.block b (hS b hb')⟩⟩
theorem Bacc.bnd {S:Nat→Prop}{lo:Nat}{w:World}{v:Value}{acc:Fnd}{svs:List Value}(h:Bacc S lo w v acc svs)(hS:∀ b,S b→b<w.heap.size)(hl:acc.length≤1099511627776):BndAt (fun b=>b<w.heap.size) w v acc:=by
 have ho:=h.own
 rcases h.own.2 with ⟨rfl,h0⟩|⟨g,cap,cur,rfl,hb,hg,h1,h2,h3,h4⟩
 ·have:acc=[]:=List.eq_nil_of_length_eq_zero h0
  subst this
  exact⟨_,_,rfl,hl,.inl rfl⟩
 ·refine⟨_,cap,rfl,hl,.inr ⟨g,0,rfl,(ho.lt g rfl).2,fun j hj=>?_⟩⟩
  have hj':j<svs.length:=by rw[h.len];exact hj
  obtain⟨q0,q1,q2,q3,q4⟩:=cellsB_at acc svs h.len j hj hj'
  obtain⟨a,c,e,hA⟩:=h.at_ j hj hj'
  have hc0:=ho.cells (g:=g) rfl (j*5) _ q0
  have hc1:=ho.cells (g:=g) rfl (j*5+1) _ q1
  have hc2:=ho.cells (g:=g) rfl (j*5+2) _ q2
  have hc3:=ho.cells (g:=g) rfl (j*5+3) _ q3
  have hc4:=ho.cells (g:=g) rfl (j*5+4) _ q4
  rw[addr_add0] at hc0 hc1 hc2 hc3 hc4
  rw[e] at hc4
  exact⟨hc0,a,c,⟨hc1,hc2,hc3,hc4⟩,hA.mono hS⟩
theorem infoB:(Tryz.prog.info? 56).map (fun i=>(i.zero,i.size,i.bytes))=some (some (.agg #[.string ByteArray.empty,.int .i64 0,.string ByteArray.empty,.int .i64 0,.slice none 0 0]),5,72):=by kernel_rfl
theorem bnd_append (ty:TypeId){S:Nat→Prop}{lo b:Nat}{w:World}{v:Value}{acc:Fnd}{svs:List Value}{e:ByteArray × Ty}{a:Option Addr}{c:Nat}(A:Bacc S lo w v acc svs)(hS:∀ b,S b→b<lo)(hlo:lo≤w.heap.size)
  (hb:w.heap[b]? = some (.cells #[.string e.1,.int .i64 e.2.kind,.string e.2.name,.int .i64 e.2.n,.slice a e.2.args.length c] 56 (0,0))) (hA:ArgsAt S w (.slice a e.2.args.length c) e.2.args) (hl:acc.length≤1099511627776) :
  ∃ v' w',(Builtin.append_ #[32,32] ty #[v,.slice (some ⟨b,0,none⟩) 1 1]).run Tryz.prog w=.ok v' w'∧Bacc S lo w' v' (acc++[e]) (svs++[.slice a e.2.args.length c])∧w.grownBy w' v.ownBlock:=by
 obtain⟨i0,hi0,hz3,hz1,hz2⟩:=info_parts infoB
 obtain⟨v',w',hr,ho,hgr,_⟩:=run_append_own (P:=Tryz.prog) w lo 32 ty 56 i0 _ 5 72 Tryz.underlying32 hi0 hz3 hz1 hz2 rfl (by decide) v acc.length (cellsB acc svs) A.own ⟨b,0,none⟩ 1 1 (cell5 e (.slice a e.2.args.length c)) rfl
  (World.news_of_block (cs:=#[.string e.1,.int .i64 e.2.kind,.string e.2.name,.int .i64 e.2.n,.slice a e.2.args.length c]) (t:=56) (fr:=(0,0)) hb) (by simp[cell5,cell4,Value.oneCell']) (by unfold maxLen;omega) (by omega) hlo
 have kp:∀ {y:Value} {ts:List Ty},ArgsAt S w y ts→ArgsAt S w' y ts:=fun hy=>hy.keep fun b hb=>hgr.block b (Nat.lt_of_lt_of_le (hS b hb) hlo) (fun e=>by have:=(A.own.lt b e.symm).1;have:=hS b hb;omega)
 refine⟨v',w',hr,⟨by rw[cellsB_snoc _ _ _ _ A.len,List.length_append];exact ho,by simp[A.len],fun j h1 h2=>?_⟩,hgr⟩
 rcases Nat.lt_or_ge j acc.length with hlt|hge
 ·have hlt':j<svs.length:=by rw[A.len];exact hlt
  obtain⟨a',c',e',hA'⟩:=A.at_ j hlt hlt'
  rw[List.getElem_append_left hlt',List.getElem_append_left hlt]
  exact⟨a',c',e',kp hA'⟩
 ·have hj:j=acc.length:=by simp at h1;omega
  subst hj
  rw[List.getElem_append_right (Nat.le_refl _),List.getElem_append_right (by rw[A.len];exact Nat.le_refl _)]
  simp only[A.len,Nat.sub_self,List.getElem_cons_zero]
  exact⟨a,c,rfl,kp hA⟩
end Go.Proofs.YtofllmemmggapaaGreatDoor.Tp

namespace Go.Proofs.YtofllmemmggapaaGreatDoor.Tp
open Go.RowKit Go.Sort
def LookPost (w:World)(o:Option Fnd)(e:Ending)(w':World):Prop :=
 Below w.heap.size w w'∧match o with
 | none=>e=.returned (.tuple #[.slice none 0 0,.bool false])
 | some l=>∃ v,e=.returned (.tuple #[v,.bool true])∧BndAt (fun b=>b<w'.heap.size) w' v l
def pairsF (F:Fnd)(ns:List ByteArray):Fnd:=ns.filterMap fun n=>(lkF F n).map fun u=>(n,u)
theorem pairsF_some {F:Fnd}{ns:List ByteArray}{i:Nat}(h:i<ns.length){u:Ty}(hl:lkF F ns[i]=some u):pairsF F (ns.take (i+1))=pairsF F (ns.take i)++[(ns[i],u)]:=by
 unfold pairsF
 rw[List.take_add_one,List.getElem?_eq_getElem h,List.filterMap_append]
 simp[hl]
theorem pairsF_none {F:Fnd}{ns:List ByteArray}{i:Nat}(h:i<ns.length)(hl:lkF F ns[i]=none):pairsF F (ns.take (i+1))=pairsF F (ns.take i):=by
 unfold pairsF
 rw[List.take_add_one,List.getElem?_eq_getElem h,List.filterMap_append]
 simp[hl]
theorem pairsF_len (F:Fnd)(ns:List ByteArray):(pairsF F ns).length≤ns.length:=List.length_filterMap_le _ _
theorem depth_le_size:∀ t:Ty,t.depth≤t.size:=by
 intro t
 induction t using Ty.ind with
 | h t ih =>
  rw[t.depth_eq,t.size_eq]
  have:∀ l:List Ty,(∀ a∈l,a.depth≤a.size)→depthL l≤sizeL l:=by
   intro l
   induction l with
   | nil=>intro _;simp[depthL]
   | cons a l ihl =>
    intro h
    have h1:=h a (by simp)
    have h2:=ihl fun b hb=>h b (by simp[hb])
    simp only[depthL,sizeL]
    omega
  have:=this t.args ih
  omega
set_option maxRecDepth 100000 in
set_option maxHeartbeats 6400000 in
theorem Match_any (p t:Ty)(vars:List ByteArray)(pa ta:Option Addr)(pc tc:Nat)(vs:Value)(w:World)(hp:AtW p pa pc w)(ht:AtW t ta tc w)(hv:StrsLow w vs vars)(hs:Small t)(hz:Szs p)(hT:Tab w) :
  Calls Tryz.prog 11 #[tv p pa pc,tv t ta tc,vs] w (LookPost w (MatchT p t vars)):=by
 obtain⟨va,vc,rfl,hvl⟩:=id hv
 obtain⟨W1,hW1⟩:∃ W1:World,W1=(((w.alloc (.cells #[.int .i64 p.kind,.string p.name,.int .i64 p.n,.slice pa p.args.length pc] 26)).alloc (.cells #[.int .i64 t.kind,.string t.name,.int .i64 t.n,.slice ta t.args.length tc] 26)).alloc (.map #[] 0)).alloc (.cells #[.slice va vars.length vc,.map (some (w.heap.size+1+1))] 68):=⟨_,rfl⟩
 have hz1:=(Below.refl w.heap.size w).alloc (Nat.le_refl _) (.cells #[.int .i64 p.kind,.string p.name,.int .i64 p.n,.slice pa p.args.length pc] 26)
 have hz2:=hz1.alloc hz1.size (.cells #[.int .i64 t.kind,.string t.name,.int .i64 t.n,.slice ta t.args.length tc] 26)
 have hz3:=hz2.alloc hz2.size (.map #[] 0)
 have hz4:=hz3.alloc hz3.size (.cells #[.slice va vars.length vc,.map (some (w.heap.size+1+1))] 68)
 have kp:=((B4.new w (.int .i64 p.kind) (.string p.name) (.int .i64 p.n) (.slice pa p.args.length pc)).low ((Below.refl _ _).alloc (Nat.le_refl _) (.cells #[.int .i64 t.kind,.string t.name,.int .i64 t.n,.slice ta t.args.length tc] 26))).low (((Below.refl _ _).alloc (Nat.le_refl _) (.map #[] 0)).alloc (by simp) (.cells #[.slice va vars.length vc,.map (some (w.heap.size+1+1))] 68))
 have kt:=(B4.new (w.alloc (.cells #[.int .i64 p.kind,.string p.name,.int .i64 p.n,.slice pa p.args.length pc] 26)) (.int .i64 t.kind) (.string t.name) (.int .i64 t.n) (.slice ta t.args.length tc)).low (((Below.refl _ _).alloc (Nat.le_refl _) (.map #[] 0)).alloc (by simp) (.cells #[.slice va vars.length vc,.map (some (w.heap.size+1+1))] 68))
 rw[show (w.alloc (.cells #[.int .i64 p.kind,.string p.name,.int .i64 p.n,.slice pa p.args.length pc] 26)).heap.size=w.heap.size+1 from by simp] at kt
 have km:=heap_alloc_new (((w.alloc (.cells #[.int .i64 p.kind,.string p.name,.int .i64 p.n,.slice pa p.args.length pc] 26)).alloc (.cells #[.int .i64 t.kind,.string t.name,.int .i64 t.n,.slice ta t.args.length tc] 26)).alloc (.map #[] 0)) (.cells #[.slice va vars.length vc,.map (some (w.heap.size+1+1))] 68)
 rw[show (((w.alloc (.cells #[.int .i64 p.kind,.string p.name,.int .i64 p.n,.slice pa p.args.length pc] 26)).alloc (.cells #[.int .i64 t.kind,.string t.name,.int .i64 t.n,.slice ta t.args.length tc] 26)).alloc (.map #[] 0)).heap.size=w.heap.size+1+1+1 from by simp] at km
 have kf:FndAt (fun b=>b<w.heap.size) (((w.alloc (.cells #[.int .i64 p.kind,.string p.name,.int .i64 p.n,.slice pa p.args.length pc] 26)).alloc (.cells #[.int .i64 t.kind,.string t.name,.int .i64 t.n,.slice ta t.args.length tc] 26)).alloc (.map #[] 0)) (w.heap.size+1+1) []:=FndAt.made _ _ (by simp)
 have kf4:=kf.keep (heap_alloc_old _ (.cells #[.slice va vars.length vc,.map (some (w.heap.size+1+1))] 68) (by simp)) (fun b hb=>heap_alloc_old _ _ (by simp;omega))
 have hsz:W1.heap.size=w.heap.size+1+1+1+1:=by rw[hW1];simp
 have htl:=(tab_kept (w':=w) hT).1
 rw[← hW1] at hz4 kp kt km kf4
 have hM:MtAt (fun b=>b<w.heap.size) W1 (w.heap.size+1+1+1) (w.heap.size+1+1) vars []:=⟨⟨_,km,hv.keep fun b hb=>hz4.block b hb⟩,kf4,by omega,fun b hb=>⟨by omega,by omega⟩,(fun x u e=>by rw[lk_nil] at e;cases e),tab_below hT hz4,by omega⟩
 have CM:=hid (match_any p t [] (fun b=>b<w.heap.size) (fun _=>False) pa ta pc tc (.slice none 0 0) (w.heap.size+1+1+1) (w.heap.size+1+1) vars [] W1 hM (hp.keep fun b hb=>hz4.block b hb) (ht.keep fun b hb=>hz4.block b hb) (.nil _ _ _ _) (fun b hb=>hb.elim) hs hz
  (by have:=depth_le_size p;unfold Szs at hz;unfold Dps;simp;omega))
 have ME:Hid (MatchT p t vars=if (mT vars p t (epS []) (etS []) []).1 then some (pairsF (mT vars p t (epS []) (etS []) []).2 (freeT p)) else none):=hid rfl
 have PZ:Hid (p.size≤1099511627776):=hid (Nat.le_trans hz (by decide))
 have FL:Hid ((freeT p).length≤p.size):=hid (freeT_len p)
 have HP:=hid hp
 have H1:=hid hz4
 have KP1:=hid kp
 have HSZ:=hid hsz
 have c0:=kp.c0
 have c1:=kp.c1
 have c2:=kp.c2
 have c3:=kp.c3
 have d0:=kt.c0
 have d1:=kt.c1
 have d2:=kt.c2
 have d3:=kt.c3
 have hmm:=@run_makeMap Tryz.prog
 generalize hmr:mT vars p t (epS []) (etS []) []=r at *
 unfold tv at *
 clear hvl hp ht hv hs hz hT hz1 hz2 hz3 hz4 kp kt km kf kf4 hsz htl hM hmr
 subst hW1
 go_enter Tryz.func11,Tryz.ntmps11
 go_wp2_with fail
 refine CM.out.mono ?_
 rintro e w2 ⟨rfl,hM2,hK2⟩
 have hB2:Below w.heap.size w w2:=⟨hK2.os.trans H1.out.os,hK2.tape.trans H1.out.tape,hK2.output.trans H1.out.output,Nat.le_trans H1.out.size hK2.size,fun k hk=>(hK2.block k (Nat.lt_of_lt_of_le hk H1.out.size) (by omega)).trans (H1.out.block k hk)⟩
 have q4:B4 w2 w.heap.size (.int .i64 p.kind) (.string p.name) (.int .i64 p.n) (.slice pa p.args.length pc):=(hK2.block _ KP1.out.lt (by omega)).trans KP1.out
 have HM2:=hid hM2
 have HB2:=hid hB2
 have Q4:=hid q4
 cases hr:r.1 with
 | false =>
  have E:Hid (MatchT p t vars=none):=hid (by rw[ME.out,hr];rfl)
  clear hr q4 hM2 hK2 hB2
  go_wp2
  refine bodyPost_ret (v:=.tuple #[.slice none 0 0,.bool false]) (by simp[results,Tryz.results11,go_sem]) rfl ?_
  rw[E.out]
  exact⟨HB2.out,rfl⟩
 | true =>
  have E:Hid (MatchT p t vars=some (pairsF r.2 (freeT p))):=hid (by rw[ME.out,hr];rfl)
  have CF:=hid (free_any p (fun b=>b<w.heap.size) pa pc w2 (HP.out.keep fun b hb=>hB2.block b hb) (fun b hb=>Nat.lt_of_lt_of_le hb hB2.size) PZ.out)
  have c0:=q4.c0
  have c1:=q4.c1
  have c2:=q4.c2
  have c3:=q4.c3
  unfold tv at CF
  clear hr q4 hM2 hK2 hB2
  go_wp2_with fail
  refine CF.out.mono ?_
  rintro e w3 ⟨fv,rfl,ho3,hl3,hb3⟩
  have hM3:=HM2.out.low hb3
  have HB3:=hid (HB2.out.trans (hb3.mono HB2.out.size))
  obtain⟨fa,fc,rfl,_,_,_,hcs⟩:=StrsAt.of_own ho3 (Nat.le_trans hl3 PZ.out)
  have hfl:(freeT p).length≤1099511627776:=Nat.le_trans hl3 PZ.out
  have HM3:=hid hM3
  have HO3:=hid ho3
  have HCS:=hid hcs
  generalize hns:freeT p=ns at *
  have LT3:Hid (w.heap.size≤w3.heap.size):=hid HB3.out.size
  clear hb3 hM3 ho3 hl3 hcs hns HM2 HB2 Q4 FL
  obtain⟨wo,hwo⟩:∃ wo:World,wo=w3:=⟨_,rfl⟩
  subst hwo
  go_wp2
  go_loopw [9,26] (fun ov iv wr=>∃ (i:Nat) (svs:List Value),iv=.int .i64 i∧i≤ns.length∧Bacc (fun b=>b<w.heap.size) wo.heap.size wr ov (pairsF r.2 (ns.take i)) svs∧Below wo.heap.size wo wr) (fun _ iv _=>ns.length - (intOf iv).toNat)
  case atStart=>exact⟨0,[],rfl,Nat.zero_le _,Bacc.nil _ _ _,.refl _ _⟩
  case round =>
   obtain⟨i,svs,rfl,hil,hA,hB⟩:=hrel
   have HA:=hid hA
   have HB:=hid hB
   by_cases hi:i<ns.length
   ·have z0:(0:Int)≤(i:Int):=by omega
    have z1:(i:Int)<(ns.length:Int):=by omega
    obtain⟨b,off,rfl,hb,hcc⟩:=HCS.out.resolve_left (by intro e;rw[e] at hi;simp at hi)
    have f0:=(World.cell?_of_block (hB.block b (HO3.out.lt b hb).2)).trans (hcc i hi)
    have hMr:=HM3.out.low hB
    obtain⟨vv,hmm2,_⟩:=hMr.m
    have m1:=cell_of_row wr (w.heap.size+1+1+1) 1 _ _ _ hmm2
    have PL:=hid (pairsF_len r.2 (ns.take i))
    have HMR:=hid hMr
    cases hl:lkF r.2 ns[i] with
    | none =>
     have hlk:=hMr.fnd.look_none Tryz.underlying66 Tryz.underlying9 hl (fun w=>zeroType w) wr rfl
     have PE:=hid (pairsF_none hi hl)
     have HX:=hid (HB.out.alloc HB.out.size (.cells #[.int .i64 0,.string ⟨#[]⟩,.int .i64 0,.slice none 0 0] 26))
     have HA5:=hid (hA.low (fun b hb=>Nat.lt_of_lt_of_le hb (Nat.le_trans LT3.out hB.size)) ((Below.refl _ _).alloc (Nat.le_refl _) (.cells #[.int .i64 0,.string ⟨#[]⟩,.int .i64 0,.slice none 0 0] 26)))
     clear hA hB hb hcc hMr hmm2 hl
     go_wp2
     go_roundw
     case rel=>exact⟨i+1,svs,by go_num,by omega,by rw[PE.out];exact HA5.out,HX.out⟩
     case measure=>simp[intOf];omega
    | some u =>
     obtain⟨ua,uc,hlk0,hua⟩:=hMr.fnd.look_some Tryz.underlying66 Tryz.underlying9 hl
     have hlk:=hlk0 wr rfl
     unfold tv at hlk
     clear hlk0
     have PE:=hid (pairsF_some hi hl)
     have hx:Below wr.heap.size wr (wr.alloc (.cells #[.int .i64 u.kind,.string u.name,.int .i64 u.n,.slice ua u.args.length uc] 26)):=(Below.refl _ _).alloc (Nat.le_refl _) _
     have u4:=B4.new wr (.int .i64 u.kind) (.string u.name) (.int .i64 u.n) (.slice ua u.args.length uc)
     have u0:=u4.c0
     have u1:=u4.c1
     have u2:=u4.c2
     have u3:=u4.c3
     have hsw:wo.heap.size≤wr.heap.size:=hB.size
     have hSl:∀ b,b<w.heap.size→b<wr.heap.size:=fun b hb=>Nat.lt_of_lt_of_le hb (Nat.le_trans LT3.out hB.size)
     have hx2:=hx.alloc hx.size (.cells #[.string ns[i],.int .i64 u.kind,.string u.name,.int .i64 u.n,.slice ua u.args.length uc] 56)
     have hA2:=hA.low hSl hx2
     have AP:=hid (fun ty=>bnd_append ty (e:=(ns[i],u)) (b:=wr.heap.size+1) hA2 (fun b hb=>Nat.lt_of_lt_of_le hb LT3.out) (by simp;omega) (alloc_new (by simp)) (hua.keep fun b hb=>hx2.block b (hSl b hb)) (by have:=PL.out;rw[List.length_take] at this;omega))
     have HX2:=hid (HB.out.trans (hx2.mono HB.out.size))
     have OL:Hid (∀ b,u9.ownBlock=some b→wo.heap.size≤b):=hid (fun b e=>(hA.own.lt b e).1)
     generalize ns[i]=nm at *
     obtain⟨v',w',hrun,hA',hg'⟩:=AP.out 32
     have HA':=hid hA'
     have HG':=hid hg'
     have HSW:=hid hsw
     clear hA hB hb hcc hMr hmm2 hl u4 hx hx2 hA2 hSl hA' hg' hsw
     go_wp2_with (at_builtin;refine Lib.wpList_append_run _ rfl _ _ _ _ rfl _ _ rfl rfl _ _ hrun ?_)
     go_roundw
     case rel=>exact⟨i+1,_,by go_num,by omega,by rw[PE.out];exact HA'.out,HX2.out.grown HG'.out HX2.out.size (fun k e=>OL.out k e)⟩
     case measure=>simp[intOf];omega
   ·obtain rfl:i=ns.length:=by omega
    rw[List.take_length] at HA
    clear hA hB
    go_wp2
    refine bodyPost_ret (v:=.tuple #[u9,.bool true]) (by simp[results,Tryz.results11,go_sem]) rfl ?_
    rw[E.out]
    exact⟨HB3.out.trans (HB.out.mono LT3.out),_,rfl,HA.out.bnd (fun b hb=>Nat.lt_of_lt_of_le hb (Nat.le_trans LT3.out HB.out.size)) (Nat.le_trans (pairsF_len _ _) hfl)⟩
end Go.Proofs.YtofllmemmggapaaGreatDoor.Tp

/- Texts laid together: R3PaP, R3Pa, R3Sm. -/
import Derived.Test.YtofllmemmggapaaGreatDoorP44
import Derived.Test.YtofllmemmggapaaGreatDoorP45
import Derived.Test.YtofllmemmggapaaGreatDoorP35
import Derived.Deep.QuietTactic
import Derived.Deep.RegionLaw
import Derived.Deep.LoopGhost
import Derived.Test.YtofllmemmggapaaGreatDoorP29
import Derived.Test.YtofllmemmggapaaGreatDoorP41

namespace Go.Proofs.YtofllmemmggapaaGreatDoor.Tp
open Go.RowKit
theorem wn_eq (j:Nat):(⟨#[119]⟩++bytes (Lib.decDigits j):ByteArray)=wn j:=by unfold wn lname;rfl
structure Pa1 (av:List ByteArray)(d k:Nat)(t:Ty):Prop where
 mm:Mk t
 z:t.size≤200000
 b:k+d*(av.length+1)≤100000000000
theorem Pa1.step {av:List ByteArray}{d k:Nat}{t:Ty}(h:Pa1 av (d+1) k t)(e:ByteArray × Ty) :
  ∃ m,k≤m∧m≤100000000000∧hasN av (wn m)=false∧(∀ j,k≤j→j<m→hasN av (wn j)=true)∧LexN (wn m)∧Pa1 av d (m+1) (rPutT e.1 (vrT (wn m)) t) ∧
   ∀ l,pa1 av (e :: l) k t=(wn m :: (pa1 av l (m+1) (rPutT e.1 (vrT (wn m)) t)).1,(pa1 av l (m+1) (rPutT e.1 (vrT (wn m)) t)).2):=by
 have hsp:=firstN_spec wn (fun _ _=>lname_inj) av k
 obtain⟨m,hm0⟩:∃ m,nx wn av k=m:=⟨_,rfl⟩
 rw[show firstN wn av (av.length+1) k=m from hm0] at hsp
 obtain⟨hm,hz,hn⟩:=h
 rw[Nat.add_mul] at hn
 have hx:LexN (wn m):=wn_lex m (by omega)
 obtain⟨p1,p2,p3⟩:=put_var_ok e.1 (wn m) t hm hx hz
 exact⟨m,hsp.1,by omega,hsp.2.2.2,fun j h1 h2=>hsp.2.2.1 j h1 h2,hx,⟨p1,by omega,by omega⟩,fun l=>by rw[pa1,hm0]⟩
structure Pa2 (P:Ty)(M:Nat)(ms:List ByteArray)(l:Fnd)(t:Ty):Prop where
 len:ms.length=l.length
 mm:Mk t
 ex:∃ V:ByteArray→Option Ty,dbT [] t=svT V P∧(∀ x u,V x=some u→u.size≤M)∧(∀ m∈ms,∀ x u,V x=some u→vnT m u→u=vrT m)
 po:PutOk l M
 no:∀ m∈ms,∀ e∈l,¬ vnT m e.2
 nd:ms.Nodup
theorem Pa2.small {P:Ty}{M:Nat}{ms:List ByteArray}{l:Fnd}{t:Ty}(h:Pa2 P M ms l t)(hM:1≤M)(hPM:P.size*M≤200000):t.size≤200000:=by
 obtain⟨V,hd,hV,_⟩:=h.ex
 rw[← size_db t h.mm.1 [],hd]
 exact Nat.le_trans (sv_size V M hM hV P) hPM
theorem Pa2.step {P:Ty}{M:Nat}{m:ByteArray}{ms:List ByteArray}{e:ByteArray × Ty}{l:Fnd}{t:Ty}(h:Pa2 P M (m :: ms) (e :: l) t)(hM:1≤M)(hPM:P.size*M≤200000):t.size≤200000∧e.2.size≤200000∧Mk e.2∧Pa2 P M ms l (rPutT m e.2 t):=by
 have hts:=h.small hM hPM
 obtain⟨hl,ht,⟨V,hd,hV,hVm⟩,hP,hno,hnd⟩:=h
 have hMl:M≤200000:=Nat.le_trans (Nat.le_mul_of_pos_left _ (by rw[P.size_eq];omega)) hPM
 have hes:e.2.size≤200000:=Nat.le_trans (hP.size e (by simp)) hMl
 have hmk:=rPut_mk2 m e.2 t ht (hP.mm e (by simp)) hts hes
 have hdb:=rPut_db2 m e.2 t ht hts hes
 rw[db_mono e.2 [] (hP.mono e (by simp)) (fun x _ h=>by cases h),sb_sv] at hdb
 have hd2:=hdb
 rw[hd,sv_sv] at hd2
 have key:∀ x u,(match V x with|some u=>some (svT (fun x=>if eqN x m then some e.2 else none) u)|none=>(if eqN x m then some e.2 else none))=some u→(u=e.2∨V x=some u):=fun x u hx=>by
  cases hvx:V x with
  | some u0 =>
   rw[hvx] at hx
   simp only[Option.some.injEq] at hx
   by_cases hm:vnT m u0
   ·have:=hVm m (by simp) x u0 hvx hm
    subst this
    left
    rw[← hx]
    unfold vrT
    rw[svT_mk,if_pos rfl,(eqN_iff m m).2 rfl];rfl
   ·right
    rw[← hx,sv_none]
    intro y hy
    have:eqN y m=false:=by rw[← Bool.not_eq_true,eqN_iff];rintro rfl;exact hm hy
    rw[this];rfl
  | none =>
   rw[hvx] at hx
   simp only at hx
   split at hx
   ·injection hx with hx;exact .inl hx.symm
   ·cases hx
 refine⟨hts,hes,hP.mm e (by simp),by simpa using hl,hmk,⟨_,hd2,fun x u hx=>?_,fun m' hm' x u hx hvn=>?_⟩,hP.tail,fun m' hm' e' he'=>hno m' (by simp[hm']) e' (by simp[he']),(List.nodup_cons.1 hnd).2⟩
 ·rcases key x u hx with h|h
  ·rw[h];exact hP.size e (by simp)
  ·exact hV x u h
 ·rcases key x u hx with h|h
  ·rw[h] at hvn;exact absurd hvn (hno m' (by simp[hm']) e (by simp))
  ·exact hVm m' (by simp[hm']) x u h hvn
structure PaIn (t:Ty)(l:Fnd):Prop where
 mt:Mk t
 zt:t.size≤400
 po:PutOk l 400
 av:(avT t l).length≤1000000
 ll:l.length≤400
theorem PaIn.pm {t:Ty}{l:Fnd}(h:PaIn t l):(dbT [] t).size*400≤200000:=by
 rw[size_db t h.mt.1 []]
 exact Nat.le_trans (Nat.mul_le_mul_right 400 h.zt) (by omega)
theorem PaIn.one {t:Ty}{l:Fnd}(h:PaIn t l):Pa1 (avT t l) l.length 0 t:=by
 refine⟨h.mt,by have:=h.zt;omega,?_⟩
 have:=Nat.mul_le_mul h.ll (show (avT t l).length+1≤1000001 by have:=h.av;omega)
 omega
theorem PaIn.two {t:Ty}{l:Fnd}(h:PaIn t l):Pa2 (dbT [] t) 400 (pa1 (avT t l) l 0 t).1 l (pa1 (avT t l) l 0 t).2:=by
 have ht:=h.mt
 have hP:=h.po
 have hin:∀ e∈l,e.1∈avT t l:=fun e he=>by
  unfold avT
  rw[List.mem_append,List.mem_flatMap]
  exact .inr ⟨e,he,by simp⟩
 have hk:=h.one.b
 obtain⟨q1,q2,q3,q4,V',q5,q6,q7⟩:=pa1_ok (avT t l) (dbT [] t) 400 (by omega) h.pm h.av l 0 t (fun _=>none) ht (sv_none _ _ fun x _=>rfl).symm (fun x u h=>by cases h) hin hk
 refine⟨q1,q4,⟨_,q7,fun x u h=>?_,fun m hm x u h hv=>?_⟩,hP,fun m hm e he hv=>?_,q2⟩
 ·obtain⟨m,_,rfl⟩:=List.mem_map.1 (asc_some h).2
  show 1≤400;omega
 ·obtain⟨m',_,rfl⟩:=List.mem_map.1 (asc_some h).2
  unfold vrT at hv ⊢
  rcases (vn_mk _ _ _ _ _).1 hv with h|⟨a,ha,_⟩
  ·rw[h.2]
  ·cases ha
 ·refine (q3 m hm).1 ?_
  unfold avT
  rw[List.mem_append,List.mem_flatMap]
  refine .inr ⟨e,he,?_⟩
  rw[List.mem_append]
  left
  rw[mem_free]
  have hmm:=hP.mono e he
  have:=(vn_db m e.2 [] hmm.1).1 (by rw[db_mono e.2 [] hmm (fun x _ h=>by cases h)];exact hv)
  exact this.1
theorem pa2_cons {ms:List ByteArray}{l:Fnd}{i:Nat}(h1:i<ms.length)(h2:i<l.length)(t:Ty):pa2 (ms.drop i) (l.drop i) t=pa2 (ms.drop (i+1)) (l.drop (i+1)) (rPutT ms[i] l[i].2 t):=by
 rw[List.drop_eq_getElem_cons h1,List.drop_eq_getElem_cons h2,pa2]
theorem av_step (t:Ty)(l:Fnd)(i:Nat)(h:i<l.length):(freeT t++(l.take i).flatMap fun e=>freeT e.2++[e.1])++freeT l[i].2++[l[i].1]=freeT t++(l.take (i+1)).flatMap fun e=>freeT e.2++[e.1]:=by
 rw[List.take_succ_eq_append_getElem h,List.flatMap_append];simp
theorem av_le (t:Ty)(l:Fnd)(i:Nat):(freeT t++(l.take i).flatMap fun e=>freeT e.2++[e.1]).length≤(avT t l).length:=by
 unfold avT
 conv=>rhs;rw[← List.take_append_drop i l]
 rw[List.flatMap_append]
 simp only[List.length_append]
 omega
theorem own_one {w:World}{b lo:Nat}{nm:ByteArray}(h:w.heap[b]? = some (.cells #[.string nm] 9 (0,0)))(hb:lo≤b):w.ownsRow lo 9 1 (.slice (some ⟨b,0,none⟩) 1 1) [nm].length ([nm].map Value.string) :=
 ⟨by simp,.inr ⟨b,1,#[.string nm],rfl,hb,h,Nat.le_refl _,by unfold maxLen;omega,by simp,by simp⟩⟩
theorem own_cell {w:World}{lo g n cap:Nat}{l:List ByteArray}(h:w.ownsRow lo 9 1 (.slice (some ⟨g,0,none⟩) n cap) l.length (l.map Value.string)){i:Nat}(hi:i<l.length):w.cell? ⟨g,i,none⟩=some (.string l[i]):=by
 have:=h.cells (g:=g) rfl i (.string l[i]) (by rw[List.getElem?_map,List.getElem?_eq_getElem hi];rfl)
 rw[addr_add0,Nat.zero_add] at this
 exact this
end Go.Proofs.YtofllmemmggapaaGreatDoor.Tp

namespace Go.Proofs.YtofllmemmggapaaGreatDoor.Tp
open Go.RowKit Go.Sort
set_option maxRecDepth 100000 in
set_option maxHeartbeats 6400000 in
theorem rputAll_any (t:Ty)(l:Fnd)(n lo:Nat)(a:Option Addr)(c:Nat)(vl:Value)(w:World)(hA:AtW t a c w)(hR:RowB n lo w vl l)(hn:n≤w.heap.size)(hP:PaIn t l) :
  Calls Tryz.prog 34 #[tv t a c,vl] w (NewPost (paT t l) w):=by
 have hz1:=(Below.refl w.heap.size w).alloc (Nat.le_refl _) (.cells #[.int .i64 t.kind,.string t.name,.int .i64 t.n,.slice a t.args.length c] 29)
 have hz2:=hz1.alloc hz1.size (.cells #[.int .i64 0,.string ⟨#[]⟩,.int .i64 0,.slice none 0 0] 29)
 have k4:=(R4.new w (.int .i64 t.kind) (.string t.name) (.int .i64 t.n) (.slice a t.args.length c)).low ((Below.refl _ _).alloc (Nat.le_refl _) (.cells #[.int .i64 0,.string ⟨#[]⟩,.int .i64 0,.slice none 0 0] 29))
 have q4:=R4.new (w.alloc (.cells #[.int .i64 t.kind,.string t.name,.int .i64 t.n,.slice a t.args.length c] 29)) (.int .i64 0) (.string ⟨#[]⟩) (.int .i64 0) (.slice none 0 0)
 rw[show (w.alloc (.cells #[.int .i64 t.kind,.string t.name,.int .i64 t.n,.slice a t.args.length c] 29)).heap.size=w.heap.size+1 from by simp] at q4
 have A2:ArgsAt (Lt w.heap.size) ((w.alloc (.cells #[.int .i64 t.kind,.string t.name,.int .i64 t.n,.slice a t.args.length c] 29)).alloc (.cells #[.int .i64 0,.string ⟨#[]⟩,.int .i64 0,.slice none 0 0] 29)) (.slice a t.args.length c) t.args:=hA.keep fun b hb=>hz2.block b hb
 have N2:Hid (((w.alloc (.cells #[.int .i64 t.kind,.string t.name,.int .i64 t.n,.slice a t.args.length c] 29)).alloc (.cells #[.int .i64 0,.string ⟨#[]⟩,.int .i64 0,.slice none 0 0] 29)).heap.size=w.heap.size+2):=hid (by simp)
 have c0:=k4.c0
 have c1:=k4.c1
 have c2:=k4.c2
 have c3:=k4.c3
 have CF:=hid (rFree_any t _ a c ((w.alloc (.cells #[.int .i64 t.kind,.string t.name,.int .i64 t.n,.slice a t.args.length c] 29)).alloc (.cells #[.int .i64 0,.string ⟨#[]⟩,.int .i64 0,.slice none 0 0] 29)) A2 (fun b (hb:b < _)=>by rw[N2.out];omega) (std_wf t hP.mt.1) (by have:=hP.zt;omega))
 have HZ:=hid hz2
 have KT:=hid k4
 have KQ:=hid q4
 have AT:=hid A2
 have HP:=hid hP
 have HN:=hid hn
 have LLN:Hid (l.length≤400):=hid hP.ll
 have DSH:Hid (∀ j:Nat,j≤100000000000→(bytes (Lib.decDigits j)).size≤100):=hid (fun j hj=>by
  have:=(dec_digits j).2.2.2 18 (by omega) (show j<10 ^ 18 by omega)
  rw[bytes_size];omega)
 have DC:=hid (fun (j:Nat) (hj:j≤100000000000) (W:World)=>decimal_any j (by omega) W)
 obtain⟨la,lc,hvl⟩:=hR.form
 subst hvl
 have RW:=hid hR
 have ll:=LLN.out
 obtain⟨i0,hi0,hzz0,hzz1,hzz3⟩:=info_parts infoStr
 unfold tv
 clear hA hR hn hP hz1 hz2 k4 q4 A2
 go_enter Tryz.func34,Tryz.ntmps34
 go_wp2_with fail
 clear c0 c1 c2 c3
 generalize (w.alloc (.cells #[.int .i64 t.kind,.string t.name,.int .i64 t.n,.slice a t.args.length c] 29)).alloc (.cells #[.int .i64 0,.string ⟨#[]⟩,.int .i64 0,.slice none 0 0] 29)=W2 at *
 refine CF.out.mono ?_
 rintro e wF ⟨vF,rfl,hF,hbF⟩
 have PA:=hid (but_two 22 (W:=W2) (wy:=wF) (v1:=.slice none 0 0) (l1:=[]) hbF (World.ownsRow_nil _ _ _ _) (by simp) hF)
 clear CF hF hbF
 go_wp2_with (at_builtin;refine wpList_append_ok (by rfl) _ _ _ (by rfl) (by rfl) (by rfl) PA.out ?_;rintro v1 w1 ⟨hr1,hb1⟩;obtain⟨va1,vc1,hv1⟩:=own_form hr1;subst hv1)
 have O1:=hid hr1
 have B1:=hid hb1
 clear hr1 hb1 PA
 obtain⟨wo,hwo⟩:∃ wo:World,wo=w1:=⟨_,rfl⟩
 subst hwo
 go_loopw [6,7] (fun av iv wr=>∃ (i:Nat) (va:Option Addr) (vc:Nat),av=.slice va (freeT t++(l.take i).flatMap fun e=>freeT e.2++[e.1]).length vc∧iv=.int .i64 i∧i≤l.length∧wr.ownsRow W2.heap.size 9 1 (.slice va (freeT t++(l.take i).flatMap fun e=>freeT e.2++[e.1]).length vc) (freeT t++(l.take i).flatMap fun e=>freeT e.2++[e.1]).length ((freeT t++(l.take i).flatMap fun e=>freeT e.2++[e.1]).map Value.string)∧Below W2.heap.size W2 wr) (fun _ iv _=>l.length - (intOf iv).toNat)
 case atStart=>exact⟨0,va1,vc1,by simp,rfl,Nat.zero_le _,by simpa using O1.out,B1.out⟩
 case round =>
  clear O1 B1
  obtain⟨i,va,vc,rfl,rfl,hil,hO,hB⟩:=hrel
  have O:=hid hO
  have B:=hid hB
  have BW:=hid (HZ.out.trans (hB.mono HZ.out.size))
  by_cases hi:i<l.length
  ·have z0:(0:Int)≤(i:Int):=by omega
   have z1:(i:Int)<(l.length:Int):=by omega
   obtain⟨g,a',c',rfl,hg,g0,⟨g1,g2,g3,g4⟩,hAi⟩:=RW.out.at_ hi
   have gk:Hid (∀ W':World,Below w.heap.size w W'→W'.cell? ⟨g,i*5,none⟩=some (.string l[i].1)∧W'.cell? ⟨g,i*5+1,none⟩=some (.int .i64 l[i].2.kind)∧W'.cell? ⟨g,i*5+1+1,none⟩=some (.string l[i].2.name)∧W'.cell? ⟨g,i*5+1+2,none⟩=some (.int .i64 l[i].2.n)∧W'.cell? ⟨g,i*5+1+3,none⟩=some (.slice a' l[i].2.args.length c')∧ArgsAt (Lt n) W' (.slice a' l[i].2.args.length c') l[i].2.args):=hid (fun W' h=>⟨(h.cell (p:=⟨g,i*5,none⟩) hg).trans g0,(h.cell (p:=⟨g,i*5+1,none⟩) hg).trans g1,(h.cell (p:=⟨g,i*5+1+1,none⟩) hg).trans g2,(h.cell (p:=⟨g,i*5+1+2,none⟩) hg).trans g3,(h.cell (p:=⟨g,i*5+1+3,none⟩) hg).trans g4,hAi.keep fun b hb=>h.block b (Nat.lt_of_lt_of_le hb HN.out)⟩)
   have hm:=List.getElem_mem hi
   clear g0 g1 g2 g3 g4
   obtain⟨g0,g1,g2,g3,g4,hAr⟩:=gk.out wr BW.out
   have CFi:=hid (rFree_any l[i].2 _ a' c' wr hAr (fun b (hb:b<n)=>Nat.lt_of_lt_of_le hb (Nat.le_trans HN.out BW.out.size)) (std_wf _ (HP.out.po.mm _ hm).1) (by have:=HP.out.po.size _ hm;omega))
   have AS:=hid (av_step t l i hi)
   have AL:Hid ((freeT t++(l.take i).flatMap fun e=>freeT e.2++[e.1]).length≤1000000∧(freeT l[i].2).length≤400):=hid ⟨Nat.le_trans (av_le t l i) HP.out.av,Nat.le_trans (freeT_len _) (HP.out.po.size _ hm)⟩
   clear hO hB hg hAi hm hAr
   generalize l[i].2=u at *
   generalize l[i].1=nm at *
   generalize (freeT t++(l.take i).flatMap fun e=>freeT e.2++[e.1])=L0 at *
   go_wp2_with fail
   refine CFi.out.mono ?_
   rintro e wF ⟨vF,rfl,hF,hbF⟩
   have PB:=hid (but_two 22 (W:=W2) (wy:=wF) (l1:=L0) (B.out.trans (hbF.mono B.out.size)) (own_keep4 O.out fun b e=>hbF.block b (O.out.lt b e).2) (by have:=AL.out.1;omega) hF)
   clear hF hbF g0 g1 g2 g3 g4
   go_upto_region 8 with (at_builtin;refine wpList_append_ok (by rfl) _ _ _ (by rfl) (by rfl) (by rfl) PB.out ?_;rintro v3 w3 ⟨hr3,hb3⟩;obtain⟨a3,c3,hv3⟩:=own_form hr3;rw[List.length_append] at hv3;subst hv3;have g5:=(gk.out w3 (HZ.out.trans (hb3.mono HZ.out.size))).1;have O3:=hid hr3;have B3:=hid hb3;have PC:=hid (but_two 22 (W:=W2) (wy:=w3.alloc (.cells #[.string nm] 9)) (v:=.slice (some ⟨w3.heap.size,0,none⟩) 1 1) (l:=[nm]) (hb3.alloc hb3.size _) (own_keep4 hr3 fun b e=>heap_alloc_old w3 _ (hr3.lt b e).2) (by have:=AL.out;simp;omega) (StrsLow.own (lo:=0) (own_one (heap_alloc_new w3 _) (Nat.zero_le _)) (by simp)));clear hr3 hb3)
   go_wp2_with (at_builtin;refine wpList_append_ok (by rfl) _ _ _ (by rfl) (by rfl) (by rfl) PC.out ?_;rintro v4 w4 ⟨hr4,hb4⟩;obtain⟨va4,vc4,hv4⟩:=own_form hr4;subst hv4;have O4:=hid hr4;have B4:=hid hb4;clear hr4 hb4)
   go_roundw
   case rel=>exact⟨i+1,va4,vc4,by rw[← AS.out];simp,by go_num,by omega,by rw[← AS.out];exact O4.out,B4.out⟩
   case measure=>simp[intOf];omega
  ·obtain rfl:i=l.length:=by omega
   have hO2:wr.ownsRow W2.heap.size 9 1 (.slice va (avT t l).length vc) (avT t l).length ((avT t l).map Value.string):=by unfold avT;rw[List.take_length] at hO;exact hO
   have hAVL:=HP.out.av
   have SA:Hid (StrsAt (fun b=>W2.heap.size≤b∧b<wr.heap.size) wr (.slice va (avT t l).length vc) (avT t l)):=hid ((StrsAt.of_own hO2 (by omega)).mono fun b e=>hO2.lt b e)
   have N2':=N2.out
   have M0:Hid (RPM (Lt w.heap.size) w wr wr (.slice none 0 0) [] t a c):=hid ⟨BW.out,by have:=hB.size;omega,.refl _ _ _,KT.out.low hB,World.ownsRow_nil _ _ _ _,(AT.out.keep fun b (hb:b < _)=>hB.block b (by omega)).mono fun b (hb:b < _)=>⟨.inl hb,by have:=hB.size;omega,by simp[Value.ownBlock]⟩,fun _ h=>h⟩
   have KQ2:=hid (KQ.out.low hB)
   have CH:=hid (fun (j:Nat) (W':World) (k:Kp wr.heap.size (fun b=>b=w.heap.size) wr W')=>(by rw[wn_eq j];exact has_any _ (.slice va (avT t l).length vc) (avT t l) (wn j) W' (StrsAt.kp SA.out k (fun b hb=>⟨hb.2,by have:=hb.1;omega⟩)):Calls Tryz.prog 24 #[.slice va (avT t l).length vc,.string (⟨#[119]⟩++bytes (Lib.decDigits j))] W' fun e w'=>e=.returned (.bool (hasN (avT t l) (wn j)))∧W'=w'))
   have EAV:Hid ((freeT t++(l.take l.length).flatMap fun e=>freeT e.2++[e.1])=avT t l):=hid (by rw[List.take_length];rfl)
   rw[EAV.out]
   have P1:=hid HP.out.one
   clear hO hO2 hB O B BW KQ KT AT hil hi
   obtain⟨Wa,hWa⟩:∃ Wa:World,Wa=wr:=⟨_,rfl⟩
   subst hWa
   go_wp2
   go_loopg [5,8,9] l.length (fun d mv kv iv wr=>∃ (k i:Nat) (names:List ByteArray) (x:Ty) (xa:Option Addr) (xc:Nat),kv=.int .i64 k∧iv=.int .i64 i∧i≤l.length∧d=l.length - i∧pa1 (avT t l) l 0 t=(names++(pa1 (avT t l) (l.drop i) k x).1,(pa1 (avT t l) (l.drop i) k x).2)∧Pa1 (avT t l) (l.length - i) k x∧names.length=i∧RPM (Lt w.heap.size) w Wa wr mv names x xa xc)
   case atStart=>exact⟨0,0,[],t,a,c,rfl,rfl,Nat.zero_le _,by omega,rfl,P1.out,rfl,M0.out⟩
   case round =>
    clear P1 M0
    obtain⟨k,i,names,x,xa,xc,rfl,rfl,hil,rfl,hE,hP1,hln,hM⟩:=hrel
    have HE:=hid hE
    have HM:=hid hM
    have HLN:=hid hln
    obtain⟨va,vcap,hvv⟩:=own_form hM.row
    subst hvv
    by_cases hi:i<l.length
    ·have z0:(0:Int)≤(i:Int):=by omega
     have z1:(i:Int)<(l.length:Int):=by omega
     obtain⟨g,a',c',rfl,hg,g0,⟨g1,g2,g3,g4⟩,hAi⟩:=RW.out.at_ hi
     have gk:Hid (∀ W':World,Below w.heap.size w W'→W'.cell? ⟨g,i*5,none⟩=some (.string l[i].1)∧W'.cell? ⟨g,i*5+1,none⟩=some (.int .i64 l[i].2.kind)∧W'.cell? ⟨g,i*5+1+1,none⟩=some (.string l[i].2.name)∧W'.cell? ⟨g,i*5+1+2,none⟩=some (.int .i64 l[i].2.n)∧W'.cell? ⟨g,i*5+1+3,none⟩=some (.slice a' l[i].2.args.length c')∧ArgsAt (Lt n) W' (.slice a' l[i].2.args.length c') l[i].2.args):=hid (fun W' h=>⟨(h.cell (p:=⟨g,i*5,none⟩) hg).trans g0,(h.cell (p:=⟨g,i*5+1,none⟩) hg).trans g1,(h.cell (p:=⟨g,i*5+1+1,none⟩) hg).trans g2,(h.cell (p:=⟨g,i*5+1+2,none⟩) hg).trans g3,(h.cell (p:=⟨g,i*5+1+3,none⟩) hg).trans g4,hAi.keep fun b hb=>h.block b (Nat.lt_of_lt_of_le hb HN.out)⟩)
     rw[show l.length - i=(l.length - (i+1))+1 by omega] at hP1
     have hxm:=hP1.mm
     have hxz:=hP1.z
     obtain⟨m,hnm,hml,hno,hyes,hlx,hP',hst⟩:=hP1.step l[i]
     have HE2:Hid (pa1 (avT t l) (l.drop i) k x=(wn m :: (pa1 (avT t l) (l.drop (i+1)) (m+1) (rPutT l[i].1 (vrT (wn m)) x)).1,(pa1 (avT t l) (l.drop (i+1)) (m+1) (rPutT l[i].1 (vrT (wn m)) x)).2)):=hid (by rw[List.drop_eq_getElem_cons hi];exact hst _)
     have HXM:=hid hxm
     have HXZ:=hid hxz
     have HP2:=hid hP'
     have HNO:=hid hno
     have HYES:=hid hyes
     have HLX:=hid hlx
     have hdk:=DSH.out k (by omega)
     have D0:=hid (DC.out k (by omega) wr)
     clear hE hP1 hln hM hxm hxz hP' hst hno hyes hlx g0 g1 g2 g3 g4 hAi hg
     go_wp2_with fail
     refine D0.out.mono ?_
     rintro e w1 ⟨rfl,hb1⟩
     have M1:=hid (HM.out.low hb1)
     have CH1:=hid (CH.out k w1 M1.out.kp)
     clear hb1 D0
     go_wp2_with fail
     refine CH1.out.mono ?_
     rintro e w1' ⟨rfl,rfl⟩
     obtain⟨wo,hwo⟩:∃ wo:World,wo=w1:=⟨_,rfl⟩
     subst hwo
     clear CH1
     go_wp2
     go_loopg [8,10] (m+1 - k) (fun gk' kv bv' wr=>∃ j:Nat,kv=.int .i64 j∧bv'=.bool (hasN (avT t l) (wn j))∧k≤j∧j≤m∧gk'=m+1 - j∧RPM (Lt w.heap.size) w Wa wr (.slice va names.length vcap) names x xa xc)
     case atStart=>exact⟨k,rfl,rfl,Nat.le_refl _,hnm,rfl,M1.out⟩
     case round =>
      clear M1 hdk
      obtain⟨j,rfl,rfl,hkj,hjn,rfl,hM⟩:=hrel
      have HM:=hid hM
      cases hh:hasN (avT t l) (wn j) with
      | true =>
       have hlt:j<m:=by
        rcases Nat.lt_or_ge j m with h|h
        ·exact h
        ·obtain rfl:j=m:=by omega
         rw[HNO.out] at hh;cases hh
       have hds:=DSH.out (j+1) (by omega)
       have D1:Hid (Calls Tryz.prog 39 #[.int .i64 ((j:Int)+1)] wr (StrPost wr (Lib.decDigits (j+1)))):=hid (DC.out (j+1) (by omega) wr)
       clear hM hh
       go_wp2_with fail
       refine D1.out.mono ?_
       rintro e w2 ⟨rfl,hb2⟩
       have M2:=hid (HM.out.low hb2)
       have CH2:=hid (CH.out (j+1) w2 M2.out.kp)
       clear hb2
       go_wp2_with fail
       refine CH2.out.mono ?_
       rintro e w2' ⟨rfl,rfl⟩
       go_wp2
       go_roundg (m+1 - (j+1))
       case measure=>omega
       case rel=>exact⟨j+1,by go_num,rfl,by omega,by omega,rfl,M2.out⟩
      | false =>
       obtain rfl:j=m:=by
        rcases Nat.lt_or_ge j m with h|h
        ·have:=HYES.out j hkj h
         rw[this] at hh;cases hh
        ·omega
       have hds:=DSH.out j hml
       have D1:=hid (DC.out j hml wr)
       have hnl:names.length≤400:=by have:=HLN.out;omega
       clear hM hh
       go_wp2_with fail
       refine D1.out.mono ?_
       rintro e w2 ⟨rfl,hb2⟩
       have M2:=hid (HM.out.low hb2)
       clear hb2 D1
       have MA:=M2.out.low ((Below.refl w2.heap.size w2).alloc (Nat.le_refl _) (.cells #[.string (wn j)] 9))
       have HMA:=hid MA
       have OW:=hid MA.row
       have SZ:Hid (Wa.heap.size≤w2.heap.size):=hid M2.out.kp.size
       have WE:=hid (wn_eq j)
       clear MA
       generalize wn j=xm at *
       go_wp2_with (at_builtin;rw[WE.out];go_loud (refine wpList_append_lies _ rfl _ _ _ rfl Wa.heap.size 9 i0 _ 1 16 Tryz.underlying22 hi0 hzz0 hzz1 hzz3 rfl (by omega) (.slice va names.length vcap) names.length (names.map Value.string) rfl OW.out ⟨w2.heap.size,0,none⟩ 1 1 [.string xm] rfl rfl (World.news_of_block (cs:=#[.string xm]) (t:=9) (fr:=(0,0)) (heap_alloc_new w2 _)) (by simp[Value.oneCell']) (by omega) (by unfold maxLen;omega) (by omega) (by have:=SZ.out;simp;omega) (w2.heap.size+1) (by simp) ?_;intro gg cap w7 hown7 hgrow7 hat7 hlt7))
       have M7:=hid (HMA.out.add (v':=.slice (some ⟨gg,0,none⟩) (names.length+1) cap) xm hown7 hgrow7 (fun b e=>by
        simp only[Value.ownBlock,Option.some.injEq] at e
        subst e
        rcases hat7 with e|e
        ·exact .inl e
        ·right;subst e;simp))
       have M7d:=M7.out.low (Below.refl w7.heap.size w7).drew
       have M7H:=hid M7d
       have c0:=M7d.k4.c0
       have c1:=M7d.k4.c1
       have c2:=M7d.k4.c2
       have c3:=M7d.k4.c3
       have g0:=(gk.out w7.drew M7d.below).1
       have m0:w7.drew.cell? ⟨gg,i,none⟩=some (.string xm):=by
        have h:=own_cell M7d.row (i:=i) (by simp;have:=HLN.out;omega)
        rw[List.getElem_append_right (by have:=HLN.out;omega)] at h
        simpa using h
       have z2:(i:Int)<(names.length:Int)+1:=by have:=HLN.out;omega
       have CP:Hid (Calls Tryz.prog 40 #[.agg #[.int .i64 x.kind,.string x.name,.int .i64 x.n,.slice xa x.args.length xc],.string l[i].1,.agg #[.int .i64 1,.string xm,.int .i64 0,.slice none 0 0]] w7.drew (TP (fun _=>False) (rPutT l[i].1 (vrT xm) x) w7.drew)):=hid (rPut_s (fun _=>False) l[i].1 (vrT xm) x xa none xc 0 w7.drew (M7d.args.mono fun b hb=>hb.2.1) (.nil _ _) (fun _ h=>h.elim) HXM.out (vr_mk HLX.out).1 HXZ.out (by show 1≤200000;omega))
       clear hown7 hgrow7 hat7 hlt7 M7d hds
       generalize l[i].1=nm at *
       generalize rPutT nm (vrT xm) x=y at *
       go_region_law (go_simp;go_at_call 40;(with_reducible refine CP.out.mono ?_);rintro e w8 ⟨a8,c8,rfl,hA8,hb8⟩;have k8:=(M7H.out.low hb8).k4;have s0:=k8.c0;have s1:=k8.c1;have s2:=k8.c2;have s3:=k8.c3;have r0:=k8.fr 0;have r1:=k8.fr 1;have r2:=k8.fr 2;have r3:=k8.fr 3;have HA8:=hid hA8;have HB8:=hid hb8;clear hA8 hb8 k8;unfold tv)
       all_goals
        have M8:=hid (M7H.out.put HB8.out (HA8.out.mono fun b hb=>hb.elim False.elim .inr))
        go_wp2
        go_roundg (l.length - (i+1))
        case measure=>omega
        case rel=>exact⟨j+1,i+1,names++[xm],y,a8,c8,by go_num,by go_num,by omega,rfl,by rw[HE.out,HE2.out];simp,HP2.out,by have:=HLN.out;simp;omega,by simpa using M8.out⟩
    ·obtain rfl:i=l.length:=by omega
     have EE:Hid (pa1 (avT t l) l 0 t=(names,x)):=hid (by rw[hE,List.drop_length,pa1];simp)
     have P2:=HP.out.two
     rw[EE.out] at P2
     have PE:Hid (paT t l=pa2 names l x):=hid (by unfold paT;rw[EE.out])
     have PM:=hid HP.out.pm
     have P2H:=hid P2
     clear hE hP1 hM P2 hil hi
     go_wp2
     go_loopw [11] (fun iv wr=>∃ (i:Nat) (x2:Ty) (xa:Option Addr) (xc:Nat),iv=.int .i64 i∧i≤l.length∧pa2 names l x=pa2 (names.drop i) (l.drop i) x2∧Pa2 (dbT [] t) 400 (names.drop i) (l.drop i) x2∧RPM (Lt w.heap.size) w Wa wr (.slice va names.length vcap) names x2 xa xc) (fun iv _=>l.length - (intOf iv).toNat)
     case atStart=>exact⟨0,x,xa,xc,rfl,Nat.zero_le _,rfl,P2H.out,HM.out⟩
     case round =>
      clear HM P2H
      obtain⟨i,x2,xa,xc,rfl,hil,hE,hP2,hM⟩:=hrel
      have HE3:=hid hE
      have HM:=hid hM
      by_cases hi:i<l.length
      ·have z0:(0:Int)≤(i:Int):=by omega
       have z1:(i:Int)<(l.length:Int):=by omega
       have hi2:i<names.length:=by have:=HLN.out;omega
       have z2:(i:Int)<(names.length:Int):=by omega
       obtain⟨g,a',c',rfl,hg,g0,⟨g1,g2,g3,g4⟩,hAi⟩:=RW.out.at_ hi
       have gk:Hid (∀ W':World,Below w.heap.size w W'→W'.cell? ⟨g,i*5,none⟩=some (.string l[i].1)∧W'.cell? ⟨g,i*5+1,none⟩=some (.int .i64 l[i].2.kind)∧W'.cell? ⟨g,i*5+1+1,none⟩=some (.string l[i].2.name)∧W'.cell? ⟨g,i*5+1+2,none⟩=some (.int .i64 l[i].2.n)∧W'.cell? ⟨g,i*5+1+3,none⟩=some (.slice a' l[i].2.args.length c')∧ArgsAt (Lt n) W' (.slice a' l[i].2.args.length c') l[i].2.args):=hid (fun W' h=>⟨(h.cell (p:=⟨g,i*5,none⟩) hg).trans g0,(h.cell (p:=⟨g,i*5+1,none⟩) hg).trans g1,(h.cell (p:=⟨g,i*5+1+1,none⟩) hg).trans g2,(h.cell (p:=⟨g,i*5+1+2,none⟩) hg).trans g3,(h.cell (p:=⟨g,i*5+1+3,none⟩) hg).trans g4,hAi.keep fun b hb=>h.block b (Nat.lt_of_lt_of_le hb HN.out)⟩)
       clear g0 g1 g2 g3 g4 hAi hg
       rw[List.drop_eq_getElem_cons hi,List.drop_eq_getElem_cons hi2] at hP2
       have hxm:=hP2.mm
       obtain⟨hz1,hz2,hmu,hP3⟩:=hP2.step (by omega) PM.out
       have HP3:=hid hP3
       have HE4:=hid (pa2_cons hi2 hi x2)
       have Md:=hM.low (Below.refl wr.heap.size wr).drew
       have MdH:=hid Md
       have c0:=Md.k4.c0
       have c1:=Md.k4.c1
       have c2:=Md.k4.c2
       have c3:=Md.k4.c3
       obtain⟨g0,g1,g2,g3,g4,hAr⟩:=gk.out wr.drew Md.below
       have m00:∃ gm,va=some ⟨gm,0,none⟩∧wr.drew.cell? ⟨gm,i,none⟩=some (.string names[i]):=by
        rcases Md.row.2 with ⟨e,h0⟩|⟨gm,cap',cur,e,_⟩
        ·omega
        ·injection e with e1 _ _
         subst e1
         exact⟨gm,rfl,own_cell Md.row hi2⟩
       obtain⟨gm,rfl,m0⟩:=m00
       have CP:Hid (Calls Tryz.prog 40 #[.agg #[.int .i64 x2.kind,.string x2.name,.int .i64 x2.n,.slice xa x2.args.length xc],.string names[i],.agg #[.int .i64 l[i].2.kind,.string l[i].2.name,.int .i64 l[i].2.n,.slice a' l[i].2.args.length c']] wr.drew (TP (Lt w.heap.size) (rPutT names[i] l[i].2 x2) wr.drew)):=hid (rPut_s (Lt w.heap.size) names[i] l[i].2 x2 xa a' xc c' wr.drew (Md.args.mono fun b hb=>hb.2.1) (hAr.mono fun b hb=>Nat.lt_of_lt_of_le hb HN.out) (fun b hb=>Nat.lt_of_lt_of_le hb Md.below.size) hxm hmu.1 hz1 hz2)
       clear hE hP2 hM hxm hz1 hz2 hmu hP3 Md hAr
       generalize l[i].2=u at *
       generalize names[i]=nm at *
       generalize rPutT nm u x2=y at *
       go_wp2
       go_region_law (go_simp;go_at_call 40;(with_reducible refine CP.out.mono ?_);rintro e w8 ⟨a8,c8,rfl,hA8,hb8⟩;have k8:=(MdH.out.low hb8).k4;have s0:=k8.c0;have s1:=k8.c1;have s2:=k8.c2;have s3:=k8.c3;have r0:=k8.fr 0;have r1:=k8.fr 1;have r2:=k8.fr 2;have r3:=k8.fr 3;have HA8:=hid hA8;have HB8:=hid hb8;clear hA8 hb8 k8;unfold tv)
       all_goals
        have M8:=hid (MdH.out.put HB8.out HA8.out)
        go_wp2
        go_roundw
        case rel=>exact⟨i+1,y,a8,c8,by go_num,by omega,by rw[HE3.out,HE4.out],HP3.out,M8.out⟩
        case measure=>simp[intOf];omega
      ·obtain rfl:i=l.length:=by omega
       have E:Hid (paT t l=x2):=hid (by rw[PE.out,hE,List.drop_length,← HLN.out,List.drop_length,pa2];intro m ms e l h;cases h)
       have qq:=hM.q KQ2.out
       have q0:=qq.fr 0
       have q1:=qq.fr 1
       have q2:=qq.fr 2
       have q3:=qq.fr 3
       have y0:=qq.c0
       have y1:=qq.c1
       have y2:=qq.c2
       have y3:=qq.c3
       have c0:=hM.k4.c0
       have c1:=hM.k4.c1
       have c2:=hM.k4.c2
       have c3:=hM.k4.c3
       clear hE hP2 hM qq
       go_wp2
       obtain⟨q5,hB,hAx,hR⟩:=HM.out.fin KQ2.out
       refine bodyPost_ret (v:=tv x2 xa xc) (by simp[results,Tryz.results34,go_sem,tv,q5.c0,q5.c1,q5.c2,q5.c3]) rfl ?_
       rw[E.out]
       exact⟨xa,xc,rfl,hAx.mono fun b hb=>hb.elim (fun h=>Nat.lt_of_lt_of_le h hB.size) (fun h=>h.2),hB⟩
end Go.Proofs.YtofllmemmggapaaGreatDoor.Tp

namespace Go.Proofs.YtofllmemmggapaaGreatDoor.Tp
open Go.RowKit
set_option maxRecDepth 100000 in
set_option maxHeartbeats 1600000 in
theorem rsame_any (t u:Ty)(a ua:Option Addr)(c uc:Nat)(w:World)(hA:AtW t a c w)(hU:AtW u ua uc w)(ht:CanonR t)(hu:CanonR u) :
  Calls Tryz.prog 35 #[.agg #[.int .i64 t.kind,.string t.name,.int .i64 t.n,.slice a t.args.length c],.agg #[.int .i64 u.kind,.string u.name,.int .i64 u.n,.slice ua u.args.length uc]] w (BoolPost w (decide (canonS t=canonS u))):=by
 have hz1:=(Below.refl w.heap.size w).alloc (Nat.le_refl _) (.cells #[.int .i64 t.kind,.string t.name,.int .i64 t.n,.slice a t.args.length c] 29)
 have hz2:=hz1.alloc hz1.size (.cells #[.int .i64 u.kind,.string u.name,.int .i64 u.n,.slice ua u.args.length uc] 29)
 have k4:=(R4.new w (.int .i64 t.kind) (.string t.name) (.int .i64 t.n) (.slice a t.args.length c)).low ((Below.refl _ _).alloc (Nat.le_refl _) (.cells #[.int .i64 u.kind,.string u.name,.int .i64 u.n,.slice ua u.args.length uc] 29))
 have u4:=R4.new (w.alloc (.cells #[.int .i64 t.kind,.string t.name,.int .i64 t.n,.slice a t.args.length c] 29)) (.int .i64 u.kind) (.string u.name) (.int .i64 u.n) (.slice ua u.args.length uc)
 rw[show (w.alloc (.cells #[.int .i64 t.kind,.string t.name,.int .i64 t.n,.slice a t.args.length c] 29)).heap.size=w.heap.size+1 from by simp] at u4
 have HZ:=hid hz2
 have C1:=hid (rcanon_h (hA.low hz2) ht)
 have UU:=hid (fun (W:World) (h:Below w.heap.size w W)=>rcanon_h (hU.low h) hu)
 have U4:=hid u4
 have c0:=k4.c0
 have c1:=k4.c1
 have c2:=k4.c2
 have c3:=k4.c3
 have hb:∃ b,((bytes (canonS t)).toList==(bytes (canonS u)).toList)=b∧b=decide (canonS t=canonS u):=by
  by_cases e:canonS t=canonS u
  ·exact⟨true,beqN_true (by rw[e]),(decide_eq_true e).symm⟩
  ·exact⟨false,beqN_false (bytes_ne e),(decide_eq_false e).symm⟩
 obtain⟨bb,hbb,hbe⟩:=hb
 rw[← hbe]
 clear hA hU ht hu hz1 hz2 k4 u4 hbe
 go_enter Tryz.func35,Tryz.ntmps35
 go_wp2_with fail
 generalize (w.alloc (.cells #[.int .i64 t.kind,.string t.name,.int .i64 t.n,.slice a t.args.length c] 29)).alloc (.cells #[.int .i64 u.kind,.string u.name,.int .i64 u.n,.slice ua u.args.length uc] 29)=W0 at *
 refine C1.out.mono ?_
 rintro e w1 ⟨rfl,hb1⟩
 have q4:=U4.out.low hb1
 have d0:=q4.c0
 have d1:=q4.c1
 have d2:=q4.c2
 have d3:=q4.c3
 have B1:=hid (HZ.out.trans (hb1.mono HZ.out.size))
 have C2:=hid (UU.out w1 B1.out)
 clear hb1 q4 c0 c1 c2 c3
 go_wp2_with fail
 refine C2.out.mono ?_
 rintro e w2 ⟨rfl,hb2⟩
 have B2:=hid (B1.out.trans (hb2.mono B1.out.size))
 clear hb2
 go_wp2
 go_ret
 exact⟨ret_bool rfl,B2.out⟩
theorem canonR_mk {t:Ty}(h:Mk t)(hs:t.size≤200000):CanonR t:=canonR_of h.1 (mk_good _ h) (by omega) rfl (by omega)
end Go.Proofs.YtofllmemmggapaaGreatDoor.Tp

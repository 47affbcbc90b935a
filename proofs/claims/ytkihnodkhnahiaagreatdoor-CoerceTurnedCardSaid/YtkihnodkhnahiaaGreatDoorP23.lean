/- Texts laid together: CoRd, CoWd, CoTyp, CoFrame. -/
import Derived.Test.YtkihnodkhnahiaaGreatDoorP20
import Derived.Test.YtkihnodkhnahiaaGreatDoorP22
import Derived.Test.YtkihnodkhnahiaaGreatDoorP10
import Derived.Stop.LaidErr
import Derived.Stop.ErrReads

namespace Go.Proofs.YtkihnodkhnahiaaGreatDoor.Tp
open Go.RowKit
open Lx
def Rc (N B:Nat)(w:World)(l:List Tok)(bad:Bool):Prop:=∃ a cap,w.heap[B]? = some (.cells #[.slice a l.length cap,.bool bad] 100 (0,0))∧ToksAt w (.slice a l.length cap) l∧l.length≤9223372036854775807∧(∀ b o,a=some ⟨b,o,none⟩→b<N)∧N≤B
theorem Rc.lt {N B:Nat}{w:World}{l:List Tok}{bad:Bool}(h:Rc N B w l bad):B<w.heap.size:=by
 obtain⟨a,cap,h1,_⟩:=h;exact (Array.getElem?_eq_some_iff.1 h1).1
theorem toks_grown {w w':World}{a:Option Addr}{n cap N:Nat}{l:List Tok}{r:Option Nat}(h:ToksAt w (.slice a n cap) l)(hN:∀ b o,a=some ⟨b,o,none⟩→b<N)(hg:w.grownBy w' r)(hr:∀ b,r=some b→N≤b):ToksAt w' (.slice a n cap) l:=by
 obtain⟨a',c',e,h4,h5|⟨b,off,h6,h7⟩⟩:=h
 ·exact⟨a',c',e,h4,.inl h5⟩
 ·refine⟨a',c',e,h4,.inr ⟨b,off,h6,fun i hi=>?_⟩⟩
  injection e with e1 e2 e3
  have hb:=hN b off (by rw[e1,h6])
  obtain⟨c0,c1,c2⟩:=h7 i hi
  have hbl:=World.block_lt_of_cell? w _ c0
  have k:∀ o,w'.cell? ⟨b,o,none⟩=w.cell? ⟨b,o,none⟩:=fun o=>World.cell?_of_block (hg.block b hbl (fun e=>by have:=hr b e.symm;omega))
  rw[k,k,k];exact⟨c0,c1,c2⟩
theorem Rc.grown {N B:Nat}{w w':World}{l:List Tok}{bad:Bool}{r:Option Nat}(h:Rc N B w l bad)(hg:w.grownBy w' r)(hB:r≠some B)(hr:∀ b,r=some b→N≤b):Rc N B w' l bad:=by
 obtain⟨a,cap,h1,h2,h3,h9,h10⟩:=h
 exact⟨a,cap,(hg.block B (Array.getElem?_eq_some_iff.1 h1).1 (Ne.symm hB)).trans h1,toks_grown h2 h9 hg hr,h3,h9,h10⟩
theorem Rc.low {N B:Nat}{w w':World}{l:List Tok}{bad:Bool}(h:Rc N B w l bad)(hb:Below w.heap.size w w'):Rc N B w' l bad :=
 h.grown (r:=none) (grown_below hb) (by simp) (fun b e=>by cases e)
theorem Rc.set {N B:Nat}{w:World}{l:List Tok}{bad:Bool}(h:Rc N B w l bad){p:Addr}(hB:B≠p.block)(hN:N≤p.block)(u:Value):Rc N B (w.setCell p u) l bad :=
 h.grown (grown_set w p u) (fun e=>hB (by injection e with e;exact e.symm)) (fun b e=>by injection e with e;omega)
theorem Rc.c0 {N B:Nat}{w:World}{l:List Tok}{bad:Bool}(h:Rc N B w l bad):∃ a cap,w.cell? ⟨B,0,none⟩=some (.slice a l.length cap):=by
 obtain⟨a,cap,h1,_⟩:=h;exact⟨a,cap,cell_of_row w B 0 _ _ _ h1⟩
theorem Rc.c1 {N B:Nat}{w:World}{l:List Tok}{bad:Bool}(h:Rc N B w l bad):w.cell? ⟨B,1,none⟩=some (.bool bad):=by
 obtain⟨a,cap,h1,_⟩:=h;exact cell_of_row w B 1 _ _ _ h1
theorem Rc.fr {N B:Nat}{w:World}{l:List Tok}{bad:Bool}(h:Rc N B w l bad)(i:Nat):w.frozen? ⟨B,i,none⟩=false:=by
 obtain⟨a,cap,h1,_⟩:=h;simp[World.frozen?,h1]
theorem Rc.bad {N B:Nat}{w:World}{l:List Tok}{bad:Bool}(h:Rc N B w l bad)(b:Bool):Rc N B (w.setCell ⟨B,1,none⟩ (.bool b)) l b:=by
 obtain⟨a,cap,h1,h2,h3,h9,h10⟩:=h
 exact⟨a,cap,set_row0 h1 _,toks_grown h2 h9 (grown_set w ⟨B,1,none⟩ (.bool b)) (fun k e=>by injection e with e;show N≤k;rw[← e];exact h10),h3,h9,h10⟩
theorem Rc.toks {N B:Nat}{w:World}{l l':List Tok}{bad:Bool}(h:Rc N B w l bad){a:Option Addr}{cap:Nat}(ht:ToksAt w (.slice a l'.length cap) l')(hl:l'.length≤9223372036854775807)(hN:∀ b o,a=some ⟨b,o,none⟩→b<N):Rc N B (w.setCell ⟨B,0,none⟩ (.slice a l'.length cap)) l' bad:=by
 obtain⟨a0,cap0,h1,h2,h3,h9,h10⟩:=h
 exact⟨a,cap,set_row0 h1 _,toks_grown ht hN (grown_set w ⟨B,0,none⟩ _) (fun k e=>by injection e with e;show N≤k;rw[← e];exact h10),hl,hN,h10⟩
set_option maxHeartbeats 800000 in
theorem seesc (s:List UInt8)(N B:Nat)(w:World)(l:List Tok)(bad:Bool)(h:Rc N B w l bad) :
  Calls Tryz.prog 85 #[.pointer (some ⟨B,0,none⟩),.string ⟨s.toArray⟩] w fun e w'=>e=.returned (.bool (st l 6 s))∧w=w':=by
 obtain⟨a,cap,hb,ht,hl,_⟩:=h
 have cB:w.cell? ⟨B,0,none⟩=some (.slice a l.length cap):=cell_of_row w B 0 _ _ _ hb
 cases l with
 | nil =>
  clear ht hb
  go_enter Tryz.func85,Tryz.ntmps85
  go_wp2
  go_ret
  exact⟨rfl,rfl⟩
 | cons t l =>
  obtain⟨b,off,rfl,c0,c1⟩:=toks_head ht
  have HK:Hid (st (t :: l) 6 s=(t.kind==6&&t.text==s)):=Lib.hid rfl
  have hl0:(0:Int)<((t :: l).length:Int):=by simp
  generalize (t :: l).length=n at *
  clear hb ht
  by_cases h1:t.kind=6
  ·have e1:((t.kind:Int)==(6:Int))=true:=by rw[h1];simp
   have H1:=Lib.hid h1
   clear h1
   go_enter Tryz.func85,Tryz.ntmps85
   go_wp2
   go_ret
   exact⟨ret_bool (by rw[HK.out,H1.out];simp),rfl⟩
  ·have e1:((t.kind:Int)==(6:Int))=false:=by rw[beq_eq_false_iff_ne];omega
   have H1:Hid ((t.kind==6)=false):=Lib.hid (by rw[beq_eq_false_iff_ne];exact h1)
   clear h1
   go_enter Tryz.func85,Tryz.ntmps85
   go_wp2
   go_ret
   exact⟨ret_bool (by rw[HK.out,H1.out];rfl),rfl⟩
def NextPost (N B:Nat)(w:World)(l:List Tok)(bad ok:Bool)(e:Ending)(w':World):Prop :=
 w.grownBy w' (some B)∧w'.heap.size=w.heap.size∧if ok then e=.returned (.string (bytes (headText l)))∧Rc N B w' l.tail bad
 else e=.returned (.string ⟨#[]⟩)∧Rc N B w' l true
set_option maxHeartbeats 1600000 in
theorem nextc (k:Nat)(s:List UInt8)(N B:Nat)(w:World)(l:List Tok)(bad:Bool)(h:Rc N B w l bad) :
  Calls Tryz.prog 87 #[.pointer (some ⟨B,0,none⟩),.int .i64 (k:Int),.string ⟨s.toArray⟩] w (NextPost N B w l bad (seesB l k s)):=by
 have HR:=Lib.hid h
 obtain⟨a,cap,hb,ht,hl,hN,hNB⟩:=h
 have cB:w.cell? ⟨B,0,none⟩=some (.slice a l.length cap):=cell_of_row w B 0 _ _ _ hb
 have cB1:w.cell? ⟨B,1,none⟩=some (.bool bad):=cell_of_row w B 1 _ _ _ hb
 have fB:w.frozen? ⟨B,0,none⟩=false:=by simp[World.frozen?,hb]
 have fB1:w.frozen? ⟨B,1,none⟩=false:=by simp[World.frozen?,hb]
 have no:Hid (NextPost N B w l bad false (.returned (.string ⟨#[]⟩)) (w.setCell ⟨B,1,none⟩ (.bool true))) :=
  Lib.hid ⟨grown_set _ _ _,by simp,rfl,HR.out.bad true⟩
 cases l with
 | nil =>
  clear ht hb
  go_enter Tryz.func87,Tryz.ntmps87
  go_wp2
  go_ret
  exact no.out
 | cons t l =>
  obtain⟨b,off,rfl,c0,c1⟩:=toks_head ht
  have HK:Hid (seesB (t :: l) k s=(t.kind==k&&(s.isEmpty || t.text==s))):=Lib.hid rfl
  have hcap:(t :: l).length≤cap:=by obtain⟨_,_,e,h,_⟩:=ht;injection e with _ _ e;rw[e];exact h
  have hcl:l.length+1≤cap:=by simpa using hcap
  have hnn:(t :: l).length=l.length+1:=by simp
  rw[hnn] at cB hl
  have hz:((l.length:Int)+1==0)=false:=by rw[beq_eq_false_iff_ne];omega
  have hz2:(((l.length+1:Nat):Int)==0)=false:=by rw[beq_eq_false_iff_ne];omega
  have NN:=Lib.hid (hN b off rfl)
  have HT:=Lib.hid ht
  have yes:∀ cap',l.length≤cap'→Hid (∀ a',(a'=some ⟨b,off+3,none⟩∨(l=[]∧a'=some ⟨b,off,none⟩))→NextPost N B w (t :: l) bad true (.returned (.string (bytes t.text))) (w.setCell ⟨B,0,none⟩ (.slice a' l.length cap'))):=fun cap' hc=>Lib.hid fun a' ha'=>by
   refine⟨grown_set _ _ _,by simp,rfl,HR.out.toks ?_ (by show l.length≤_;omega) fun b' o' e=>?_⟩
   ·rcases ha' with rfl|⟨rfl,rfl⟩
    ·exact toks_tail HT.out hc
    ·exact⟨_,cap',rfl,hc,.inl rfl⟩
   ·rcases ha' with rfl|⟨_,rfl⟩<;>(injection e with e;injection e with e;rw[← e];exact NN.out)
  clear hb ht hnn hcap hN
  by_cases h1:t.kind=k
  ·have e1:((t.kind:Int) != (k:Int))=false:=by rw[h1];simp
   have H1:Hid ((t.kind==k)=true):=Lib.hid (by rw[h1];simp)
   clear h1
   by_cases h2:s=[]
   ·subst h2
    have HS:Hid (seesB (t :: l) k []=true):=Lib.hid (by rw[HK.out,H1.out];simp)
    rw[HS.out]
    by_cases hc1:cap=1
    ·obtain rfl:l=[]:=List.eq_nil_of_length_eq_zero (by omega)
     subst hc1
     have Y:=yes 0 (Nat.zero_le _)
     clear yes
     go_enter Tryz.func87,Tryz.ntmps87
     go_wp2
     go_ret
     exact Y.out _ (.inr (by simp))
    ·have Y:=yes (cap - 1) (by omega)
     clear yes
     go_enter Tryz.func87,Tryz.ntmps87
     go_wp2
     go_ret
     exact Y.out _ (.inl rfl)
   ·have h3:s.isEmpty=false:=by simpa using h2
    have H3:=Lib.hid h3
    by_cases h5:t.text=s
    ·have e5:(t.text==s)=true:=by rw[h5];simp
     have H5:=Lib.hid h5
     clear h2 h5
     have HS:Hid (seesB (t :: l) k s=true):=Lib.hid (by rw[HK.out,H1.out];simp[H5.out])
     rw[HS.out]
     by_cases hc1:cap=1
     ·obtain rfl:l=[]:=List.eq_nil_of_length_eq_zero (by omega)
      subst hc1
      have Y:=yes 0 (Nat.zero_le _)
      clear yes
      go_enter Tryz.func87,Tryz.ntmps87
      go_wp2
      go_ret
      exact Y.out _ (.inr (by simp))
     ·have Y:=yes (cap - 1) (by omega)
      clear yes
      go_enter Tryz.func87,Tryz.ntmps87
      go_wp2
      go_ret
      exact Y.out _ (.inl rfl)
    ·have e5:(t.text==s)=false:=by rw[beq_eq_false_iff_ne];exact h5
     have HS:Hid (seesB (t :: l) k s=false):=Lib.hid (by rw[HK.out,H1.out,h3];simpa using h5)
     rw[HS.out]
     clear h2 h5 yes
     go_enter Tryz.func87,Tryz.ntmps87
     go_wp2
     go_ret
     exact no.out
  ·have e1:((t.kind:Int) != (k:Int))=true:=by rw[bne_iff_ne];omega
   have H1:Hid (seesB (t :: l) k s=false):=Lib.hid (by rw[HK.out,beq_eq_false_iff_ne.2 h1];rfl)
   rw[H1.out]
   clear h1
   go_enter Tryz.func87,Tryz.ntmps87
   go_wp2
   go_ret
   exact no.out
open Lx
set_option maxHeartbeats 1600000 in
theorem word_at (k:Nat)(h:3≤k)(h':k≤9)(w:World):Calls Tryz.prog 44 #[.int .i64 (k:Int)] w fun e w'=>e=.returned (.string (bytes (wordK k)))∧w=w':=by
 have hk:k=3∨k=4∨k=5∨k=6∨k=7∨k=8∨k=9:=by omega
 rcases hk with rfl|rfl|rfl|rfl|rfl|rfl|rfl
 all_goals
  go_enter Tryz.func44,Tryz.ntmps44
  go_wp2
  go_ret
  exact⟨by rfl,rfl⟩
def Vs (w:World):Prop:=∃ tp p,w.var? Tryz.prog "strconv.ErrSyntax" = some #[.iface tp p]
def VsN (N:Nat)(w:World):Prop:=∀ w',Below N w w'→Vs w'
theorem VsN.below {N:Nat}{w w':World}(h:VsN N w)(hb:Below N w w'):VsN N w':=fun w2 h2=>h w2 (hb.trans h2)
theorem VsN.at_ {N:Nat}{w:World}(h:VsN N w):Vs w:=h w (Below.refl N w)
theorem Vs.n {w:World}(h:Vs w):VsN w.heap.size w:=fun w' hb=>by
 obtain⟨tp,p,h⟩:=h
 refine⟨tp,p,?_⟩
 unfold World.var? at h ⊢
 cases hg:Tryz.prog.globalNamed "strconv.ErrSyntax" with
 | none=>rw[hg] at h;cases h
 | some g =>
  rw[hg] at h
  show (match w'.heap[g]? with|some (.cells cs _ _)=>some cs | _=>none)=_
  replace h:(match w.heap[g]? with|some (.cells cs _ _)=>some cs | _=>none)=some #[.iface tp p]:=h
  have hlt:g<w.heap.size:=by
   cases he:w.heap[g]? with
   | none=>rw[he] at h;cases h
   | some o=>exact (Array.getElem?_eq_some_iff.1 he).1
  rw[hb.block g hlt]
  exact h
theorem atoi_none (w:World)(h:Vs w):Calls Tryz.prog 105 #[.string ⟨#[]⟩] w fun e w'=>∃ v,e=.returned (.tuple #[.int .i64 0,v])∧Below w.heap.size w w':=by
 obtain⟨tp,p,h⟩:=h
 refine (Tryz.strconv_Atoi_syntax_var ⟨#[]⟩ (Nat.zero_le _) rfl tp p w h).mono ?_
 rintro e w' ⟨n,rfl,_,_,hb⟩
 exact⟨_,rfl,hb⟩
theorem next_any {N B:Nat}{w w':World}{l:List Tok}{bad ok:Bool}{e:Ending}(h:NextPost N B w l bad ok e w'):w.grownBy w' (some B)∧w'.heap.size=w.heap.size∧∃ s l1 b1,e=.returned (.string s)∧Rc N B w' l1 b1∧(ok=true∧s=bytes (headText l)∧l1=l.tail∧b1=bad∨ok=false∧s=⟨#[]⟩∧l1=l∧b1=true):=by
 obtain⟨h1,h2,h3⟩:=h
 refine⟨h1,h2,?_⟩
 cases ok with
 | true=>obtain⟨e,h⟩:=h3;exact⟨_,_,_,e,h,.inl ⟨rfl,rfl,rfl,rfl⟩⟩
 | false=>obtain⟨e,h⟩:=h3;exact⟨_,_,_,e,h,.inr ⟨rfl,rfl,rfl,rfl⟩⟩
def TypPost (N B:Nat)(w:World)(l:List Tok)(e:Ending)(w':World):Prop :=
 w.grownBy w' (some B)∧∃ t a c,e=.returned (tv t a c)∧ArgsAt (In w.heap.size w'.heap.size) w' (.slice a t.args.length c) t.args∧match angT l with
  | some (t',r)=>t=t'∧Rc N B w' r false
  | none=>∃ l',Rc N B w' l' true
open Lx
theorem Rc.set4 {N B:Nat}{w:World}{l:List Tok}{bad:Bool}(h:Rc N B w l bad){b:Nat}(hB:B≠b)(hN:N≤b)(v0 v1 v2 v3:Value):Rc N B ((((w.setCell ⟨b,0,none⟩ v0).setCell ⟨b,1,none⟩ v1).setCell ⟨b,2,none⟩ v2).setCell ⟨b,3,none⟩ v3) l bad :=
 (((h.set (p:=⟨b,0,none⟩) hB hN v0).set (p:=⟨b,1,none⟩) hB hN v1).set (p:=⟨b,2,none⟩) hB hN v2).set (p:=⟨b,3,none⟩) hB hN v3
set_option maxHeartbeats 1600000 in
theorem typc (N B:Nat)(w:World)(l:List Tok)(h:Rc N B w l false)(hN:N≤w.heap.size)(hok:TokOk l)(hl:l.length≤4000) :
  Calls Tryz.prog 86 #[.pointer (some ⟨B,0,none⟩)] w (TypPost N B w l):=by
 have hz:=(Below.refl w.heap.size w).alloc (Nat.le_refl _) (.cells #[.int .i64 0,.string ByteArray.empty,.int .i64 0,.slice none 0 0] 30)
 have hr:=h.low hz
 have hBn:B≠w.heap.size:=by have:=h.lt;omega
 have CN:=Lib.hid (nextc 6 lts N B _ l false hr)
 have b4:=Lib.hid (B4.new w (.int .i64 0) (.string ByteArray.empty) (.int .i64 0) (.slice none 0 0))
 have HZ:=Lib.hid hz
 have OK:=Lib.hid hok
 have HL:=Lib.hid hl
 have HN:=Lib.hid hN
 have HB:=Lib.hid hBn
 clear h hr hz hok hl hN hBn
 go_enter Tryz.func86,Tryz.ntmps86
 go_wp2_with fail
 refine CN.out.mono ?_
 intro e w1 hpost
 obtain⟨hg1,hsz1,s1,l1,b1,rfl,hR1,hcase⟩:=next_any hpost
 have k1:=Lib.hid (b4.out.grown hg1 (fun e=>HB.out (by injection e)))
 have G1:=Lib.hid (grown_trans (grown_below (r:=some B) HZ.out) hg1)
 have hs1:w.heap.size+1=w1.heap.size:=by rw[hsz1];simp
 have hok1:TokOk l1:=by rcases hcase with ⟨_,_,rfl,_⟩|⟨_,_,rfl,_⟩<;>first|exact OK.out.tail|exact OK.out
 have hl1:l1.length≤4000:=by have:=HL.out;rcases hcase with ⟨_,_,rfl,_⟩|⟨_,_,rfl,_⟩<;>(try simp)<;>omega
 obtain⟨a,cap,hb,ht,_,ha,hNB⟩:=id hR1
 have cB:w1.cell? ⟨B,0,none⟩=some (.slice a l1.length cap):=cell_of_row w1 B 0 _ _ _ hb
 have CR:=Lib.hid (read_at N w1 (by have:=HN.out;omega) a cap l1 ht ha hok1 hl1)
 have R1:=Lib.hid hR1
 have HC:=Lib.hid hcase
 have HS1:=Lib.hid hs1
 have HL1:=Lib.hid hl1
 clear hpost hg1 hsz1 hcase hs1 hok1 hl1 hb ht ha hR1 CN b4 HZ OK HL
 go_wp2_with fail
 refine CR.out.mono ?_
 rintro e w2 ⟨hb2,hres⟩
 have hR2:=R1.out.low hb2
 have k2:=k1.out.low hb2
 have hlt2:=hR2.lt
 have d1:B≠w2.heap.size:=by omega
 have d2:=Ne.symm d1
 have d3:w.heap.size≠w2.heap.size:=by have:=k2.lt;omega
 have d4:=Ne.symm d3
 have d5:=HB.out
 have d6:=Ne.symm d5
 have R2:=Lib.hid hR2
 have K2:=Lib.hid k2
 have B2:=Lib.hid hb2
 clear hR2 k2 hb2 hlt2 cB
 cases hT:readT l1 with
 | none =>
  rw[hT] at hres
  subst hres
  unfold zv
  have HT:=Lib.hid hT
  have h3:=(Below.refl w2.heap.size w2).alloc (Nat.le_refl _) (.cells #[.int .i64 0,.string ⟨#[]⟩,.int .i64 0,.slice none 0 0] 30)
  have R3:=R2.out.low h3
  have k3:=K2.out.low h3
  have g3:=grown_trans (grown_trans G1.out (grown_below B2.out)) (grown_below (r:=some B) h3)
  have c1:=R3.c1
  obtain⟨a2,cap2,c0⟩:=R3.c0
  have f0:=R3.fr 0
  have f1:=R3.fr 1
  have p0:=k3.c0
  have p1:=k3.c1
  have p2:=k3.c2
  have p3:=k3.c3
  have q0:=k3.fr 0
  have q1:=k3.fr 1
  have q2:=k3.fr 2
  have q3:=k3.fr 3
  have HR3:=Lib.hid R3
  have K3:=Lib.hid k3
  have G3:=Lib.hid g3
  clear hT h3 R3 k3 g3
  go_wp2
  have q4:=B4.set4 (w:=(w2.alloc (.cells #[.int .i64 0,.string ⟨#[]⟩,.int .i64 0,.slice none 0 0] 30)).setCell ⟨B,1,none⟩ (.bool true)) (b:=w.heap.size) (u0:=.int .i64 0) (u1:=.string ByteArray.empty) (u2:=.int .i64 0) (u3:=.slice none 0 0) (K3.out.grown (grown_set _ ⟨B,1,none⟩ (.bool true)) (fun e=>HB.out (by injection e))) (.int .i64 0) (.string ⟨#[]⟩) (.int .i64 0) (.slice none 0 0)
  have r4:=(HR3.out.bad true).set4 HB.out HN.out (.int .i64 0) (.string ⟨#[]⟩) (.int .i64 0) (.slice none 0 0)
  have g4:=grown_set4 (grown_trans G3.out (grown_set (w2.alloc (.cells #[.int .i64 0,.string ⟨#[]⟩,.int .i64 0,.slice none 0 0] 30)) ⟨B,1,none⟩ (.bool true))) (Nat.le_refl _) (.int .i64 0) (.string ⟨#[]⟩) (.int .i64 0) (.slice none 0 0)
  refine bodyPost_ret (v:=tv tz none 0) (by simp[results,Tryz.results86,go_sem,q4.c0,q4.c1,q4.c2,q4.c3];rfl) rfl ?_
  refine⟨g4,tz,none,0,rfl,.nil _ _,?_⟩
  have E:angT l=none:=by
   unfold angT
   rcases HC.out with ⟨h,_,h',_⟩|⟨h,_⟩
   ·rw[← h',HT.out];split<;>rfl
   ·rw[sees_st _ _ _ (by decide)] at h;rw[h];rfl
  rw[E]
  exact⟨_,r4⟩
 | some tr =>
  obtain⟨t,r⟩:=tr
  rw[hT] at hres
  obtain⟨ta,tc,ra,rc,rfl,hA,hR,hRN⟩:=hres
  have HT:=Lib.hid hT
  have HA:=Lib.hid hA
  have HRT:=Lib.hid hR
  have HRN:=Lib.hid hRN
  unfold tv
  have h3:=(Below.refl w2.heap.size w2).alloc (Nat.le_refl _) (.cells #[.int .i64 t.kind,.string t.name,.int .i64 t.n,.slice ta t.args.length tc] 30)
  have R3:=R2.out.low h3
  have k3:=K2.out.low h3
  have g3:=grown_trans (grown_trans G1.out (grown_below B2.out)) (grown_below (r:=some B) h3)
  have c1:=R3.c1
  obtain⟨a2,cap2,c0⟩:=R3.c0
  have f0:=R3.fr 0
  have f1:=R3.fr 1
  have p0:=k3.c0
  have p1:=k3.c1
  have p2:=k3.c2
  have p3:=k3.c3
  have q0:=k3.fr 0
  have q1:=k3.fr 1
  have q2:=k3.fr 2
  have q3:=k3.fr 3
  have HR3:=Lib.hid R3
  have K3:=Lib.hid k3
  have G3:=Lib.hid g3
  have hrl:r.length≤9223372036854775807:=by have:=(shorter _).1 _ _ _ hT;have:=HL1.out;omega
  have HRL:=Lib.hid hrl
  clear hT hA hR hRN h3 R3 k3 g3 hrl
  have RR:=Lib.hid (HR3.out.toks (toks_low HRT.out ((Below.refl w2.heap.size w2).alloc (Nat.le_refl _) (.cells #[.int .i64 t.kind,.string t.name,.int .i64 t.n,.slice ta t.args.length tc] 30))) HRL.out HRN.out)
  have CN:=Lib.hid (nextc 6 gts N B _ r b1 RR.out)
  go_wp2_with fail
  have t4:=(B4.new w2 (.int .i64 t.kind) (.string t.name) (.int .i64 t.n) (.slice ta t.args.length tc)).grown (grown_set _ ⟨B,0,none⟩ (.slice ra r.length rc)) (fun e=>d1 (by injection e))
  have k4:=K3.out.grown (grown_set _ ⟨B,0,none⟩ (.slice ra r.length rc)) (fun e=>HB.out (by injection e))
  have g4:=grown_trans G3.out (grown_set (w2.alloc (.cells #[.int .i64 t.kind,.string t.name,.int .i64 t.n,.slice ta t.args.length tc] 30)) ⟨B,0,none⟩ (.slice ra r.length rc))
  have hx4:∀ b,In w1.heap.size w2.heap.size b→((w2.alloc (.cells #[.int .i64 t.kind,.string t.name,.int .i64 t.n,.slice ta t.args.length tc] 30)).setCell ⟨B,0,none⟩ (.slice ra r.length rc)).heap[b]? = w2.heap[b]? := fun b hb=>by
   have hbB:b≠B:=by rintro rfl;have:=hb.1;have:=R1.out.lt;omega
   rw[Below.heap_setCell _ _ _ _ hbB]
   exact ((Below.refl w2.heap.size w2).alloc (Nat.le_refl _) (.cells #[.int .i64 t.kind,.string t.name,.int .i64 t.n,.slice ta t.args.length tc] 30)).block b hb.2
  have hz4:((w2.alloc (.cells #[.int .i64 t.kind,.string t.name,.int .i64 t.n,.slice ta t.args.length tc] 30)).setCell ⟨B,0,none⟩ (.slice ra r.length rc)).heap.size=w2.heap.size+1:=by simp
  have HA4:=HA.out.keep hx4
  clear hx4
  generalize (w2.alloc (.cells #[.int .i64 t.kind,.string t.name,.int .i64 t.n,.slice ta t.args.length tc] 30)).setCell ⟨B,0,none⟩ (.slice ra r.length rc)=w4 at *
  refine CN.out.mono ?_
  intro e w5 hpost
  obtain⟨hg5,hz5,s5,l5,b5,rfl,hR5,hcase5⟩:=next_any hpost
  have t5:=t4.grown hg5 (fun e=>d1 (by injection e))
  have k5:=k4.grown hg5 (fun e=>HB.out (by injection e))
  have u0:=t5.c0
  have u1:=t5.c1
  have u2:=t5.c2
  have u3:=t5.c3
  have v0:=k5.c0
  have v1:=k5.c1
  have v2:=k5.c2
  have v3:=k5.c3
  have y0:=k5.fr 0
  have y1:=k5.fr 1
  have y2:=k5.fr 2
  have y3:=k5.fr 3
  have K5:=Lib.hid k5
  have R5:=Lib.hid hR5
  have HC5:=Lib.hid hcase5
  have G5:=Lib.hid (grown_trans g4 hg5)
  have A5:Hid (ArgsAt (In w.heap.size w5.heap.size) w5 (.slice ta t.args.length tc) t.args∧∀ b,In w1.heap.size w2.heap.size b→b≠w.heap.size):=Lib.hid ⟨(HA4.keep fun b hb=>hg5.block b (by have:=hb.2;omega) (by intro e;injection e with e;subst e;have:=hb.1;have:=R1.out.lt;omega)).mono fun b hb=>⟨by have:=hb.1;have:=HS1.out;omega,by have:=hb.2;omega⟩,fun b hb=>by have:=hb.1;have:=HS1.out;omega⟩
  have A6:Hid (ArgsAt (In w1.heap.size w2.heap.size) w5 (.slice ta t.args.length tc) t.args):=Lib.hid (HA4.keep fun b hb=>hg5.block b (by have:=hb.2;omega) (by intro e;injection e with e;subst e;have:=hb.1;have:=R1.out.lt;omega))
  have HZ5:Hid (w2.heap.size+1=w5.heap.size):=Lib.hid (by omega)
  clear t4 k4 g4 hz4 HA4 hpost hg5 hz5 t5 k5 hR5 hcase5 c0 c1 f0 f1 p0 p1 p2 p3 q0 q1 q2 q3 A5
  go_wp2
  have q4:=K5.out.set4 (.int .i64 t.kind) (.string t.name) (.int .i64 t.n) (.slice ta t.args.length tc)
  have r4:=R5.out.set4 HB.out HN.out (.int .i64 t.kind) (.string t.name) (.int .i64 t.n) (.slice ta t.args.length tc)
  have g4:=grown_set4 G5.out (Nat.le_refl _) (.int .i64 t.kind) (.string t.name) (.int .i64 t.n) (.slice ta t.args.length tc)
  refine bodyPost_ret (v:=tv t ta tc) (by simp[results,Tryz.results86,go_sem,tv,q4.c0,q4.c1,q4.c2,q4.c3]) rfl ?_
  refine⟨g4,t,ta,tc,rfl,(A6.out.keep fun b hb=>?_).mono fun b hb=>?_,?_⟩
  ·have hne:b≠w.heap.size:=by have:=hb.1;have:=HS1.out;omega
   rw[Below.heap_setCell _ _ _ _ hne,Below.heap_setCell _ _ _ _ hne,Below.heap_setCell _ _ _ _ hne,Below.heap_setCell _ _ _ _ hne]
  ·have h1:=hb.1
   have h2:=hb.2
   have h3:=HS1.out
   have h4:=HZ5.out
   exact⟨by omega,by simp;omega⟩
  ·rcases HC.out with ⟨h,_,h',hb1⟩|⟨h,_,_,hb1⟩
   ·rw[sees_st _ _ _ (by decide)] at h
    have E:angT l=if st r 6 gts then some (t,r.tail) else none:=by unfold angT;rw[if_pos h,← h',HT.out]
    rcases HC5.out with ⟨h5,_,e5,e6⟩|⟨h5,_,e5,e6⟩
    ·rw[sees_st _ _ _ (by decide)] at h5
     rw[E,if_pos h5]
     subst e5 e6 hb1
     exact⟨rfl,r4⟩
    ·rw[sees_st _ _ _ (by decide)] at h5
     rw[E,h5,if_neg (by decide)]
     subst e6
     exact⟨_,r4⟩
   ·rw[sees_st _ _ _ (by decide)] at h
    have E:angT l=none:=by unfold angT;rw[h];rfl
    rw[E]
    subst hb1
    rcases HC5.out with ⟨_,_,_,e6⟩|⟨_,_,_,e6⟩<;>(subst e6;exact⟨_,r4⟩)
end Go.Proofs.YtkihnodkhnahiaaGreatDoor.Tp

namespace Go.Proofs.YtkihnodkhnahiaaGreatDoor.Tp
open Go.ChangeShapes Go.WideShapes Go.ChangeAt Go.WideMaps Go.WideElems Go.RowKit
theorem starE:"*"++"errors.errorString" = "*errors.errorString" := by decide
theorem rowE (u:TypeId)(h:Tryz.prog.typeName? 3 u=some "*errors.errorString"):u=190 :=
 typeName_ptr_named (nm:="errors.errorString") (by rw[starE];kernel_rfl) (by kernel_rfl) (by decide) u (by rw[starE];exact h)
theorem vs_of_laid {W:World}(h:laidMetH Tryz.prog laidL W):Vs W:=by
 rw[MakeChecks.laidMetH_plain _ _ _ (by kernel_rfl)] at h
 have h5:=laidMet.tail (laidMet.tail (laidMet.tail (laidMet.tail h)))
 obtain⟨a,s,hv,_⟩:=laid_sentinel h5 (g:=2) (by kernel_rfl) (by kernel_rfl) Tryz.underlying136 rowE Tryz.underlying190 Tryz.underlying192 rfl rfl Tryz.underlying9 (by kernel_rfl) (by kernel_rfl)
 exact⟨_,_,hv⟩
end Go.Proofs.YtkihnodkhnahiaaGreatDoor.Tp

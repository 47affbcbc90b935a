/- Texts laid together: LexScan, TyToks, LexRef. -/
import Derived.Test.YtkihnodkhnahiaaGreatDoorP02
import Derived.StillTailTactics
import Derived.Deep.RegionLaw
import Derived.Deep.LoopGhost
import Derived.Deep.RegionHeld3
import Derived.Deep.AppendLies
import Derived.RegionTactic
import Derived.IntWalk
import Derived.Laws.StructEq
import Derived.Deep.QuietTactic
import Derived.BigQuiet
import Derived.Test.YtkihnodkhnahiaaGreatDoorP01

namespace Go.Proofs.YtkihnodkhnahiaaGreatDoor
open Go.RowKit
open Lx
theorem extract_rest (s:ByteArray)(p:Nat):(s.extract p s.size).data.toList=s.data.toList.drop p:=by
 simp;exact List.take_of_length_le (by simp)
theorem next_any (s:ByteArray)(p:Nat)(a b:Addr)(w:World)(hs:s.size≤maxLen)(hp:p<s.size)(ha:w.cell? a=some (.string s))(hb:w.cell? b=some (.int .i64 p)) :
  Calls Tryz.prog 31 #[.pointer (some a),.pointer (some b)] w fun e w'=>e=.returned (.tuple #[.int .i64 (tokenL (s.data.toList.drop p)).1,.int .i64 (tokenL (s.data.toList.drop p)).2])∧w=w':=by
 have hs':(s.extract p s.size).size≤maxLen:=by simp;omega
 have h0:0<(s.extract p s.size).size:=by simp;omega
 have tk:=token_any (s.extract p s.size) w h0 hs'
 rw[extract_rest] at tk
 have T:=Lib.hid tk;clear tk
 unfold maxLen at hs
 go_enter Tryz.func31,Tryz.ntmps31
 go_wp2_with (go_at_call 32;refine T.out.mono ?_;rintro e w' ⟨rfl,rfl⟩)
 go_ret2
 exact⟨rfl,rfl⟩
theorem extract_part (s:ByteArray)(p m:Nat):s.extract p (p+m)=⟨((s.data.toList.drop p).take m).toArray⟩:=by
 have h:(s.extract p (p+m)).data.toList=(s.data.toList.drop p).take m:=by simp
 rw[← h]
def tokCells (t:Tok):List Value:=[.int .i64 t.kind,.string ⟨t.text.toArray⟩,.int .i64 t.pos]
def toksCells (ts:List Tok):List Value:=ts.flatMap tokCells
def ScanPost (s:ByteArray)(w:World)(e:Ending)(w':World):Prop :=
 ∃ v,e=.returned (.tuple #[v,.int .i64 (scanR s.data.toList).2.1,.int .i64 (scanR s.data.toList).2.2])∧Below w.heap.size w w' ∧
  w'.ownsRow w.heap.size 51 3 v (scanR s.data.toList).1.length (toksCells (scanR s.data.toList).1)
theorem scanR_long (l:List UInt8)(h:4000<l.length):scanR l=([],0,2):=by rw[scanR,if_pos h]
theorem scanR_start (l:List UInt8)(h:¬ 4000<l.length):scanR l=scanAt (l.drop (betweenL false l)) (betweenL false l) []:=by rw[scanR,if_neg h]
theorem info_tok:(Tryz.prog.info? 51).map (fun i=>(i.zero,i.size,i.bytes))=some (some (.agg #[.int .i64 0,.string ByteArray.empty,.int .i64 0]),3,32):=by kernel_rfl
def ScanRel (s:ByteArray)(w:World)(p:Nat)(v:Value)(wr:World):Prop :=
 ∃ ts:List Tok,ts.length≤p∧p≤s.size∧wr.heap[w.heap.size]? = some (.cells #[.string s] 9 (0,0))∧wr.heap[w.heap.size+1]? = some (.cells #[.int .i64 p] 3 (0,0)) ∧
  wr.ownsRow (w.heap.size+2) 51 3 v ts.length (toksCells ts)∧Below w.heap.size w wr∧scanR s.data.toList=scanAt (s.data.toList.drop p) p ts
set_option maxRecDepth 100000 in
set_option maxHeartbeats 3200000 in
theorem scan_any (s:ByteArray)(w:World)(hs:s.size≤maxLen) :
  Calls Tryz.prog 15 #[.string s] w (ScanPost s w):=by
 unfold maxLen at hs
 by_cases hl:4000<s.size
 ·have hr:=scanR_long s.data.toList (by simpa using hl)
  have R:=Lib.hid hr;clear hr
  go_enter Tryz.func15,Tryz.ntmps15
  go_wp2
  refine bodyPost_ret (v:=.tuple #[.slice none 0 0,.int .i64 0,.int .i64 2]) (by simp[results,Tryz.results15,go_sem]) rfl ?_
  unfold ScanPost
  rw[R.out]
  refine⟨_,rfl,((Below.refl _ _).alloc (by simp) _).alloc (by simp) _,World.ownsRow_nil _ _ _ _⟩
 ·have hbl:=betweenL_le false s.data.toList
  have hbl2:betweenL false s.data.toList≤s.size:=by simpa using hbl
  have hr:=scanR_start s.data.toList (by simpa using hl)
  have R:=Lib.hid hr;clear hr hbl
  go_enter Tryz.func15,Tryz.ntmps15
  go_wp2_with (go_at_call 33;refine (between_any _ _ (by unfold maxLen;omega)).mono ?_;rintro e w' ⟨rfl,rfl⟩)
  go_loopg [2] (s.size - betweenL false s.data.toList) (fun k v wr=>∃ p,k=s.size - p∧ScanRel s w p v wr)
  case atStart =>
   refine⟨betweenL false s.data.toList,rfl,[],Nat.zero_le _,hbl2,?_,?_,World.ownsRow_nil _ _ _ _,((Below.refl _ _).alloc (by simp) _).alloc (by simp) _,R.out⟩
   ·rw[heap_alloc_old _ _ (by simp)];exact heap_alloc_new _ _
   ·have:=heap_alloc_new (w.alloc (.cells #[.string s] 9)) (.cells #[.int .i64 (betweenL false s.data.toList)] 3)
    simpa using this
  case round =>
   obtain⟨p,rfl,ts,htp,hp,b0,b1,hown,hbel,heq⟩:=hrel
   obtain⟨i0,hi0,hz0,hz1,hz2⟩:=info_parts info_tok
   have c0:=cell_of_one b0
   have c1:=cell_of_one b1
   have f1:=free_of_one b1
   have L1:=lt_of_block b1
   have B0:=Lib.hid b0
   have B1:=Lib.hid b1
   have E:=Lib.hid heq
   have OW:=Lib.hid hown
   have BL:=Lib.hid hbel
   clear b0 b1 heq hown hbel
   by_cases hlt:p<s.size
   ·have nx:=next_any s p ⟨w.heap.size,0,none⟩ ⟨w.heap.size+1,0,none⟩ wr (by unfold maxLen;omega) hlt c0 c1
    have NX:=Lib.hid nx;clear nx
    have hne:s.data.toList.drop p≠[]:=by intro h;have:=congrArg List.length h;simp at this;omega
    have tle:=tokenL_le _ hne
    have tle2:p+(tokenL (s.data.toList.drop p)).2≤s.size:=by simp at tle;omega
    clear tle
    have Z1:=scanAt_bad (s.data.toList.drop p) p ts hne
    have Z2:=scanAt_step (s.data.toList.drop p) p ts hne
    rw[List.drop_drop,List.drop_drop] at Z2
    generalize htk:tokenL (s.data.toList.drop p)=tk at *
    obtain⟨kd,m⟩:=tk
    have HT:=Lib.hid htk
    clear htk hne
    simp only at tle2 Z1 Z2
    by_cases hz:m=0
    ·have Z:=Lib.hid (Z1 hz)
     have hzz:((m:Int)==0)=true:=by simpa using hz
     clear hz Z1 Z2
     go_wp2_with (go_at_call 31;refine NX.out.mono ?_;rintro e w' ⟨rfl,rfl⟩)
     go_region
     go_wp2
     refine bodyPost_ret (v:=.tuple #[.slice none 0 0,.int .i64 p,.int .i64 10]) (by simp[results,Tryz.results15,go_sem,c1]) rfl ?_
     unfold ScanPost
     rw[R.out,← R.out,E.out,Z.out]
     exact⟨_,rfl,(BL.out.drew).setCell (by simp) _,World.ownsRow_nil _ _ _ _⟩
    ·have Z:=Lib.hid (Z2 hz)
     have hzz:((m:Int)==0)=false:=by simpa using hz
     have z0:(0:Int)≤(p:Int):=by omega
     have z1:(0:Int)≤(p:Int)+(m:Int):=by omega
     have z2:(p:Int)≤(p:Int)+(m:Int):=by omega
     have z3:(p:Int)+(m:Int)≤(s.size:Int):=by omega
     have z4:IntKind.i64.wrap ((p:Int)+(m:Int))=(p:Int)+(m:Int):=IntWalk.i64_in _ (by omega)
     have z5:((p:Int)+(m:Int)).toNat=p+m:=by omega
     have ag0:u2.ownBlock≠some w.heap.size:=fun h=>by have:=OW.out.lt _ h;omega
     have ag1:u2.ownBlock≠some (w.heap.size+1):=fun h=>by have:=OW.out.lt _ h;omega
     clear Z1 Z2
     go_wp2_with (go_at_call 31;refine NX.out.mono ?_;rintro e w' ⟨rfl,rfl⟩)
     go_region_held3 (fun w'=>w'.cell? ⟨w.heap.size,0,none⟩=some (.string s)∧w'.cell? ⟨w.heap.size+1,0,none⟩=some (.int .i64 p))
      (first
       | go_keep
       | (go_split_ands;refine⟨?_,?_⟩;(rw[hgrow.cell_far _ (by simp;omega) (Ne.symm ag0)];assumption);(rw[hgrow.cell_far _ (by simp;omega) (Ne.symm ag1)];assumption)))
      ((refine step_append_lies _ (by rfl) _ _ _ (by rfl) (w.heap.size+2) 51 i0 _ 3 32 Tryz.underlying47 hi0 hz0 hz1 hz2 rfl (by omega) u2 ts.length (toksCells ts) (by rfl) ((OW.out.alloc _).drew) ⟨wr.heap.size,0,none⟩ 1 1 [.int .i64 kd,.string (s.extract p (p+m)),.int .i64 p] (by rfl) (by rfl) (World.news_of_block (cs:=#[.int .i64 kd,.string (s.extract p (p+m)),.int .i64 p]) (t:=51) (fr:=(0,0)) (heap_alloc_new wr _)) (by simp[Value.oneCell']) (by omega) (by unfold maxLen;omega) (by omega) (by simp;omega) (wr.heap.size+1) (by simp) ?_;intro gg cap w1 hown1 hgrow hat hlt))
     have g0:w1.heap[w.heap.size]? = some (.cells #[.string s] 9 (0,0)):=by
      rw[hgrow.block _ (by simp;omega) (Ne.symm ag0)]
      exact (heap_alloc_old wr _ (by omega)).trans B0.out
     have g1:w1.heap[w.heap.size+1]? = some (.cells #[.int .i64 p] 3 (0,0)):=by
      rw[hgrow.block _ (by simp;omega) (Ne.symm ag1)]
      exact (heap_alloc_old wr _ (by omega)).trans B1.out
     have BL1:Below w.heap.size w w1:=(((BL.out.alloc (by omega) _).drew).grown hgrow (by simp;omega) (fun k hk=>by have:=OW.out.lt _ hk;omega))
     have k0:=cell_of_one g0
     have k1:=cell_of_one g1
     have kf:=free_of_one g1
     have G0:=Lib.hid g0
     have G1:=Lib.hid g1
     have OW1:=Lib.hid hown1
     have BLh:=Lib.hid BL1
     clear g0 g1 BL1 hown1 hgrow hat hlt c0 c1 f1
     go_wp2
     obtain⟨q,hq⟩:∃ q,q=p+m:=⟨_,rfl⟩
     have h0:(w1.setCell ⟨w.heap.size+1,0,none⟩ (.int .i64 ((p:Int)+(m:Int)))).heap[w.heap.size]? = some (.cells #[.string s] 9 (0,0)):=by
      rw[Below.heap_setCell _ _ _ _ (by simp)];exact G0.out
     have h1:(w1.setCell ⟨w.heap.size+1,0,none⟩ (.int .i64 ((p:Int)+(m:Int)))).heap[w.heap.size+1]? = some (.cells #[.int .i64 q] 3 (0,0)):=by
      rw[one_setCell G1.out,hq];simp
     have OW2:=Lib.hid (ownsRow_setCell_other OW1.out (a:=⟨w.heap.size+1,0,none⟩) (fun h=>by have:=OW1.out.lt _ h;simp at this) (.int .i64 ((p:Int)+(m:Int))))
     have BL2:=Lib.hid (BLh.out.setCell (p:=⟨w.heap.size+1,0,none⟩) (by simp) (.int .i64 ((p:Int)+(m:Int))))
     clear k0 k1 kf G0 G1 OW1 BLh
     generalize w1.setCell ⟨w.heap.size+1,0,none⟩ (.int .i64 ((p:Int)+(m:Int)))=w2 at *
     have k0:=cell_of_one h0
     have k1:=cell_of_one h1
     have kf:=free_of_one h1
     have hq3:q≤s.size:=by omega
     have bt:=betweenL_le false (s.data.toList.drop q)
     have bt2:q+betweenL false (s.data.toList.drop q)≤s.size:=by simp at bt;omega
     have H0:=Lib.hid h0
     have H1:=Lib.hid h1
     have HQ:=Lib.hid hq
     have cb:=between_any (s.extract q s.size) w2.drew (by simp;unfold maxLen;omega)
     rw[extract_rest] at cb
     clear h0 h1 hq bt z0 z1 z2 z3 z4 z5
     have z0:(0:Int)≤(q:Int):=by omega
     have z1:(q:Int)≤(s.size:Int):=by omega
     generalize hbb:betweenL false (s.data.toList.drop q)=bb at *
     have HBB:=Lib.hid hbb
     have CB:=Lib.hid cb
     clear hbb cb
     have z2:IntKind.i64.wrap ((q:Int)+(bb:Int))=(q:Int)+(bb:Int):=IntWalk.i64_in _ (by omega)
     go_still_tail 6,(by kernel_rfl)
     still_call (CB.out.mono (fun e w'' h=>⟨h.1,h.2.symm⟩))
     repeat still_step
     refine wpStill_nil ?_
     change wpList _ _ _ _ _ w2.drew
     go_wp2
     go_roundg (s.size - (q+bb))
     case measure=>have:=HQ.out;omega
     case rel =>
      refine⟨q+bb,rfl,ts++[⟨kd,(s.data.toList.drop p).take m,p⟩],by have:=HQ.out;simp;omega,bt2,?_,?_,?_,?_,?_⟩
      ·show (w2.setCell _ _).heap[_]? = _
       rw[Below.heap_setCell _ _ _ _ (by simp)];exact H0.out
      ·have h7:=one_setCell (u:=.int .i64 ((q:Int)+(bb:Int))) H1.out
       show (w2.setCell _ _).heap[_]? = _
       simpa using h7
      ·have h9:=ownsRow_setCell_other OW2.out (a:=⟨w.heap.size+1,0,none⟩) (fun h=>by have:=OW2.out.lt _ h;simp at this) (.int .i64 ((q:Int)+(bb:Int)))
       have e1:toksCells (ts++[⟨kd,(s.data.toList.drop p).take m,p⟩])=toksCells ts++[.int .i64 kd,.string (s.extract p (p+m)),.int .i64 p]:=by
        rw[toksCells,List.flatMap_append,extract_part];rfl
       rw[e1,List.length_append]
       exact h9.drew
      ·exact (BL2.out.drew).setCell (by simp) _
      ·rw[E.out,Z.out]
       have:=HBB.out
       have hq:=HQ.out
       rw[List.drop_drop,← hq,this,show p+(m+bb)=q+bb by omega]
   ·go_wp2
    refine bodyPost_ret (v:=.tuple #[u2,.int .i64 0,.int .i64 0]) (by simp[results,Tryz.results15,go_sem,cell_of_one (one_setCell B1.out (u:=.int .i64 0))]) rfl ?_
    unfold ScanPost
    have e:s.data.toList.drop p=[]:=List.drop_of_length_le (by simp;omega)
    have:=E.out
    rw[e,scanAt_nil] at this
    rw[R.out,← R.out,this]
    refine⟨_,rfl,(BL.out).setCell (by simp) _,?_⟩
    obtain⟨h1,h2⟩:=ownsRow_setCell_other OW.out (a:=⟨w.heap.size+1,0,none⟩) (fun h=>by have:=OW.out.lt _ h;simp at this) (.int .i64 0)
    refine⟨h1,h2.imp id ?_⟩
    rintro ⟨g,cap,cur,k1,k2,k3⟩
    exact⟨g,cap,cur,k1,by omega,k3⟩
open Lx
def ToksAt (w:World)(v:Value)(ts:List Tok):Prop :=
 ∃ a cap,v=.slice a ts.length cap∧ts.length≤cap∧(ts=[]∨∃ b off,a=some ⟨b,off,none⟩∧∀ i (h:i<ts.length),
  w.cell? ⟨b,off+i*3,none⟩=some (.int .i64 ts[i].kind)∧w.cell? ⟨b,off+i*3+1,none⟩=some (.string ⟨ts[i].text.toArray⟩)∧w.cell? ⟨b,off+i*3+2,none⟩=some (.int .i64 ts[i].pos))
theorem toksCells_at (ts:List Tok)(i:Nat)(h:i<ts.length) :
  (toksCells ts)[i*3]? = some (.int .i64 ts[i].kind)∧(toksCells ts)[i*3+1]? = some (.string ⟨ts[i].text.toArray⟩)∧(toksCells ts)[i*3+2]? = some (.int .i64 ts[i].pos):=by
 induction ts generalizing i with
 | nil=>simp at h
 | cons t ts ih =>
  have e:toksCells (t :: ts)=.int .i64 t.kind :: .string ⟨t.text.toArray⟩ :: .int .i64 t.pos :: toksCells ts:=rfl
  rw[e]
  cases i with
  | zero=>exact⟨rfl,rfl,rfl⟩
  | succ i =>
   have:=ih i (by simpa using h)
   rw[show (i+1)*3=i*3+1+1+1 by omega,show i*3+1+1+1+1=i*3+1+1+1+1 from rfl,show i*3+1+1+1+2=i*3+2+1+1+1 by omega]
   simp only[List.getElem?_cons_succ,List.getElem_cons_succ]
   exact this
theorem toksAt_of_owns {w:World}{base:Nat}{v:Value}{ts:List Tok}(h:w.ownsRow base 51 3 v ts.length (toksCells ts)):ToksAt w v ts:=by
 rcases h.2 with ⟨rfl,h0⟩|⟨g,cap,cur,rfl,hb,hg,hn,hm,hs,ht⟩
 ·have:ts=[]:=List.length_eq_zero_iff.1 h0
  subst this
  exact⟨none,0,rfl,Nat.zero_le _,.inl rfl⟩
 ·refine⟨_,cap,rfl,hn,.inr ⟨g,0,rfl,fun i hi=>?_⟩⟩
  have hc:=h.cells (g:=g) rfl
  have hadd:∀ j,(⟨g,0,none⟩:Addr).add j=⟨g,j,none⟩:=fun j=>by unfold Addr.add;split<;>simp_all
  obtain⟨a1,a2,a3⟩:=toksCells_at ts i hi
  have b1:=hc _ _ a1
  have b2:=hc _ _ a2
  have b3:=hc _ _ a3
  rw[hadd] at b1 b2 b3
  simp only[Nat.zero_add]
  exact⟨b1,b2,b3⟩
open Lx
def letterB (c:UInt8):Bool:=lowerB c || upperB c
theorem rletter_any (c:UInt8)(w:World):Calls Tryz.prog 99 #[.int .u8 c.toNat] w fun e w'=>e=.returned (.bool (letterB c))∧w=w':=by
 go_enter Tryz.func99,Tryz.ntmps99
 go_wp2
 all_goals
  go_ret
  exact⟨ret_bool (by
   unfold letterB lowerB upperB
   rw[Bool.eq_iff_iff]
   simp only[Bool.or_eq_true,decide_eq_true_eq,Bool.false_eq_true,true_iff,false_iff]
   omega),rfl⟩
theorem rdigit_any (c:UInt8)(w:World):Calls Tryz.prog 100 #[.int .u8 c.toNat] w fun e w'=>e=.returned (.bool (digitB c))∧w=w':=by
 go_enter Tryz.func100,Tryz.ntmps100
 go_wp2
 all_goals
  go_ret
  exact⟨ret_bool (by unfold digitB;first|(rw[decide_eq_decide];omega)|(symm;rw[decide_eq_false_iff_not];omega)),rfl⟩
theorem drop_at (s:ByteArray)(i:Nat)(h:i<s.size):s.data.toList.drop i=s[i] :: s.data.toList.drop (i+1):=by
 rw[List.drop_eq_getElem_cons (by simpa using h)];rfl
def Run (p:UInt8→Bool)(s:ByteArray)(i k:Nat):Prop:=∀ j (h:j<s.size),i≤j→j<k→p s[j]=true
theorem Run.step {p:UInt8→Bool}{s:ByteArray}{i k:Nat}(h:Run p s i k)(hk:k<s.size)(hp:p s[k]=true):Run p s i (k+1):=by
 intro j hj h1 h2
 by_cases e:j=k
 ·subst e;exact hp
 ·exact h j hj h1 (by omega)
theorem Run.take {p:UInt8→Bool}{s:ByteArray}{i k:Nat}(h:Run p s i k)(hk:k≤s.size):((s.data.toList.drop i).take (k - i)).all p=true:=by
 rw[List.all_eq_true]
 intro c hc
 obtain⟨j,hj,rfl⟩:=List.mem_iff_getElem.1 hc
 simp only[List.length_take,List.length_drop,Array.length_toList] at hj
 have hs:s.data.size=s.size:=rfl
 simp only[List.getElem_take,List.getElem_drop]
 exact h (i+j) (by omega) (by omega) (by omega)
theorem Run.stop {p:UInt8→Bool}{s:ByteArray}{i k:Nat}(h:Run p s i k)(hi:i≤k)(hk:k<s.size)(hp:p s[k]=false):spanL p (s.data.toList.drop i)=k - i:=by
 refine spanL_stop _ _ _ (h.take (by omega)) (by simp;have:s.data.size=s.size:=rfl;omega) ?_
 simp only[List.getElem_drop]
 have:i+(k - i)=k:=by omega
 simp only[this]
 exact hp
theorem Run.full {p:UInt8→Bool}{s:ByteArray}{i k:Nat}(h:Run p s i k)(hi:i≤k)(hk:k=s.size):spanL p (s.data.toList.drop i)=k - i:=by
 have h1:=h.take (by omega)
 have hs:s.data.size=s.size:=rfl
 rw[List.take_of_length_le (by simp;omega)] at h1
 rw[spanL_all _ _ h1];simp;omega
theorem number_end (s:ByteArray)(i j:Nat)(sp:spanL digitB (s.data.toList.drop i)=j - i)(hij:i≤j) :
  i+numberL (s.data.toList.drop i)=if 6<j - i∨1<j - i∧(s.data.toList.drop i).headD 0=48 then i else j:=by
 rw[numberL,sp];split<;>omega
set_option maxHeartbeats 1600000 in
theorem rnumber_any (s:ByteArray)(i:Nat)(w:World)(hs:s.size≤maxLen)(hi:i≤s.size) :
  Calls Tryz.prog 101 #[.string s,.int .i64 i] w fun e w'=>e=.returned (.int .i64 ((i+numberL (s.data.toList.drop i):Nat):Int))∧w=w':=by
 unfold maxLen at hs
 go_enter Tryz.func101,Tryz.ntmps101
 go_wp2
 go_loop [5] (fun k=>∃ j:Nat,i≤j∧j≤s.size∧k=.int .i64 j∧Run digitB s i j) (fun k=>s.size - (intOf k).toNat)
 case atStart=>exact⟨i,Nat.le_refl _,hi,rfl,fun _ _ _ _=>by omega⟩
 case round =>
  obtain⟨j,hij,hj,rfl,hrun⟩:=hrel
  have R:=Lib.hid hrun
  clear hrun
  by_cases hlt:j<s.size
  ·cases hd:digitB s[j]
   ·have sp:=R.out.stop hij hlt hd
    have fin:=number_end s i j sp hij
    by_cases c1:6<j - i
    ·rw[if_pos (Or.inl c1)] at fin
     have F:=Lib.hid fin
     clear fin
     go_wp2_with (go_at_call 100;refine (rdigit_any _ _).mono ?_;rw[hd];rintro e w' ⟨rfl,rfl⟩)
     go_ret
     exact⟨ret_int (by have:=F.out;omega),rfl⟩
    by_cases c2:1<j - i
    ·rw[drop_at s i (by omega),List.headD_cons,← drop_at s i (by omega)] at fin
     by_cases c3:s[i]=48
     ·rw[if_pos (Or.inr ⟨c2,c3⟩)] at fin
      have F:=Lib.hid fin
      have f3:=byte_eqT 48 48 c3 rfl
      clear c3
      go_wp2_with (go_at_call 100;refine (rdigit_any _ _).mono ?_;rw[hd];rintro e w' ⟨rfl,rfl⟩)
      go_ret
      exact⟨ret_int (by have:=F.out;omega),rfl⟩
     ·rw[if_neg (by rintro (h|h);exact c1 h;exact c3 h.2)] at fin
      have F:=Lib.hid fin
      have f3:=byte_eqF 48 48 c3 rfl
      clear c3
      go_wp2_with (go_at_call 100;refine (rdigit_any _ _).mono ?_;rw[hd];rintro e w' ⟨rfl,rfl⟩)
      go_ret
      exact⟨ret_int (by have:=F.out;omega),rfl⟩
    rw[if_neg (by rintro (h|h);exact c1 h;exact c2 h.1)] at fin
    have F:=Lib.hid fin
    clear fin
    go_wp2_with (go_at_call 100;refine (rdigit_any _ _).mono ?_;rw[hd];rintro e w' ⟨rfl,rfl⟩)
    go_ret
    exact⟨ret_int (by have:=F.out;omega),rfl⟩
   ·have RN:=Lib.hid (R.out.step hlt hd)
    go_wp2_with (go_at_call 100;refine (rdigit_any _ _).mono ?_;rw[hd];rintro e w' ⟨rfl,rfl⟩)
    go_round
    case rel=>exact⟨j+1,by omega,by omega,by go_num,RN.out⟩
    case measure=>simp[intOf];omega
  ·have sp:=R.out.full hij (by omega)
   have fin:=number_end s i j sp hij
   by_cases c1:6<j - i
   ·rw[if_pos (Or.inl c1)] at fin
    have F:=Lib.hid fin
    clear fin
    go_wp2
    go_ret
    exact⟨ret_int (by have:=F.out;omega),rfl⟩
   by_cases c2:1<j - i
   ·rw[drop_at s i (by omega),List.headD_cons,← drop_at s i (by omega)] at fin
    by_cases c3:s[i]=48
    ·rw[if_pos (Or.inr ⟨c2,c3⟩)] at fin
     have F:=Lib.hid fin
     have f3:=byte_eqT 48 48 c3 rfl
     clear c3
     go_wp2
     go_ret
     exact⟨ret_int (by have:=F.out;omega),rfl⟩
    ·rw[if_neg (by rintro (h|h);exact c1 h;exact c3 h.2)] at fin
     have F:=Lib.hid fin
     have f3:=byte_eqF 48 48 c3 rfl
     clear c3
     go_wp2
     go_ret
     exact⟨ret_int (by have:=F.out;omega),rfl⟩
   rw[if_neg (by rintro (h|h);exact c1 h;exact c2 h.1)] at fin
   have F:=Lib.hid fin
   clear fin
   go_wp2
   go_ret
   exact⟨ret_int (by have:=F.out;omega),rfl⟩
end Go.Proofs.YtkihnodkhnahiaaGreatDoor

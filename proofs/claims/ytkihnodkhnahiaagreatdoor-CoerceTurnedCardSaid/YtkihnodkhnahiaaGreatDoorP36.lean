/- Texts laid together: RfMem, RfIs, RfSuf, RfAtom, RfDepth. -/
import Derived.Test.YtkihnodkhnahiaaGreatDoorP06
import Derived.Test.YtkihnodkhnahiaaGreatDoorP11
import Derived.Test.YtkihnodkhnahiaaGreatDoorP09
import Derived.Test.YtkihnodkhnahiaaGreatDoorP04
import Derived.Test.YtkihnodkhnahiaaGreatDoorP17
import Derived.Test.YtkihnodkhnahiaaGreatDoorP18
import Derived.Test.YtkihnodkhnahiaaGreatDoorP34

namespace Go.Proofs.YtkihnodkhnahiaaGreatDoor.Tp
open Go.RowKit
open Lx
def R4 (w:World)(b:Nat)(c0 c1 c2 c3:Value):Prop:=w.heap[b]? = some (.cells #[c0,c1,c2,c3] 56 (0,0))
section
variable {w w' : World} {b : Nat} {u0 u1 u2 u3 : Value}
theorem R4.c0 (h:R4 w b u0 u1 u2 u3):w.cell? ⟨b,0,none⟩=some u0:=cell_of_row w b 0 _ _ _ h
theorem R4.c1 (h:R4 w b u0 u1 u2 u3):w.cell? ⟨b,1,none⟩=some u1:=cell_of_row w b 1 _ _ _ h
theorem R4.c2 (h:R4 w b u0 u1 u2 u3):w.cell? ⟨b,2,none⟩=some u2:=cell_of_row w b 2 _ _ _ h
theorem R4.c3 (h:R4 w b u0 u1 u2 u3):w.cell? ⟨b,3,none⟩=some u3:=cell_of_row w b 3 _ _ _ h
theorem R4.fr (h:R4 w b u0 u1 u2 u3)(i:Nat):w.frozen? ⟨b,i,none⟩=false:=by unfold R4 at h;simp[World.frozen?,h]
theorem R4.lt (h:R4 w b u0 u1 u2 u3):b<w.heap.size:=(Array.getElem?_eq_some_iff.1 h).1
theorem R4.new (w:World)(u0 u1 u2 u3:Value):R4 (w.alloc (.cells #[u0,u1,u2,u3] 56)) w.heap.size u0 u1 u2 u3:=heap_alloc_new w _
theorem R4.grown {r:Option Nat}(h:R4 w b u0 u1 u2 u3)(hg:w.grownBy w' r)(hr:r≠some b):R4 w' b u0 u1 u2 u3:=(hg.block b h.lt (Ne.symm hr)).trans h
theorem R4.low (h:R4 w b u0 u1 u2 u3)(hb:Below w.heap.size w w'):R4 w' b u0 u1 u2 u3:=(hb.block b h.lt).trans h
end
theorem R4.set4 {w:World}{b:Nat}{u0 u1 u2 u3:Value}(h:R4 w b u0 u1 u2 u3)(v0 v1 v2 v3:Value) :
  R4 ((((w.setCell ⟨b,0,none⟩ v0).setCell ⟨b,1,none⟩ v1).setCell ⟨b,2,none⟩ v2).setCell ⟨b,3,none⟩ v3) b v0 v1 v2 v3:=by
 unfold R4 at *
 rw[set_row0 (set_row0 (set_row0 (set_row0 h v0) v1) v2) v3]
 rfl
structure RAcc (lo:Nat)(w:World)(v:Value)(acc:List Ty)(svs:List Value):Prop where
 own:w.ownsRow lo 56 4 v acc.length (cellsT acc svs)
 len:svs.length=acc.length
 at_:∀ (j:Nat) (t:Ty) (sv:Value),acc[j]? = some t→svs[j]? = some sv→ArgsAt (fun b=>lo≤b∧b<w.heap.size∧v.ownBlock≠some b) w sv t.args
theorem RAcc.nil (lo:Nat)(w:World):RAcc lo w (.slice none 0 0) [] []:=⟨World.ownsRow_nil _ _ _ _,rfl,by simp⟩
theorem RAcc.keep {lo:Nat}{w w':World}{v:Value}{acc:List Ty}{svs:List Value}(h:RAcc lo w v acc svs)(hs:w.heap.size≤w'.heap.size)(hk:∀ b,lo≤b→b<w.heap.size→w'.heap[b]? = w.heap[b]?):RAcc lo w' v acc svs :=
 ⟨own_keep4 h.own fun b hb=>hk b (h.own.lt b hb).1 (h.own.lt b hb).2,h.len,fun j t sv h1 h2=>((h.at_ j t sv h1 h2).keep fun b hb=>hk b hb.1 hb.2.1).mono fun b hb=>⟨hb.1,by have:=hb.2.1;omega,hb.2.2⟩⟩
theorem RAcc.add {lo:Nat}{w w':World}{v v' sv:Value}{acc:List Ty}{svs:List Value}{t:Ty}{S:Nat→Prop}(h:RAcc lo w v acc svs)(hx:ArgsAt S w sv t.args)(hS:∀ b,S b→lo≤b∧b<w.heap.size∧v.ownBlock≠some b)
  (hg:w.grownBy w' v.ownBlock) (ho:w'.ownsRow lo 56 4 v' (acc.length+1) (cellsT acc svs++cell4 t sv)) (hat:∀ b,v'.ownBlock=some b→v.ownBlock=some b∨w.heap.size≤b):RAcc lo w' v' (acc++[t]) (svs++[sv]):=by
 have kp:∀ {S:Nat→Prop} {y:Value} {ts:List Ty},(∀ b,S b→lo≤b∧b<w.heap.size∧v.ownBlock≠some b)→ArgsAt S w y ts→ArgsAt (fun b=>lo≤b∧b<w'.heap.size∧v'.ownBlock≠some b) w' y ts:=fun {S y ts} hS hy =>
  (hy.keep fun b hb=>hg.block b (hS b hb).2.1 (Ne.symm (hS b hb).2.2)).mono fun b hb=>⟨(hS b hb).1,Nat.lt_of_lt_of_le (hS b hb).2.1 hg.size,fun e=>by
   rcases hat b e with e|e
   ·exact (hS b hb).2.2 e
   ·have:=(hS b hb).2.1;omega⟩
 refine⟨by rw[cellsT_snoc _ _ _ _ h.len,List.length_append];exact ho,by simp[h.len],fun j u y h1 h2=>?_⟩
 rcases Nat.lt_or_ge j acc.length with hlt|hge
 ·rw[List.getElem?_append_left hlt] at h1
  rw[List.getElem?_append_left (by rw[h.len];exact hlt)] at h2
  exact kp (fun b hb=>hb) (h.at_ j u y h1 h2)
 ·have hj:j=acc.length:=by
   have:=(List.getElem?_eq_some_iff.1 h1).1
   simp at this;omega
  subst hj
  rw[List.getElem?_append_right (Nat.le_refl _)] at h1
  rw[← h.len,List.getElem?_append_right (Nat.le_refl _)] at h2
  simp at h1 h2
  subst h1 h2
  exact kp hS hx
theorem RAcc.args {lo:Nat}{w:World}{v:Value}{acc:List Ty}{svs:List Value}(h:RAcc lo w v acc svs)(hl:acc.length≤4000):ArgsAt (In lo w.heap.size) w v acc:=by
 rcases h.own.2 with ⟨rfl,h0⟩|⟨g,cap,cur,rfl,hb,hg,h1,h2,h3,h4⟩
 ·have:acc=[]:=List.eq_nil_of_length_eq_zero h0
  subst this
  exact .nil _ _
 ·refine .mk g 0 cap acc (fun i=>svs.getD i (.slice none 0 0)) ⟨hb,(Array.getElem?_eq_some_iff.1 hg).1⟩ (by omega) (fun i hi=>?_) (fun i hi=>?_)
  ·have hi':i<svs.length:=by rw[h.len];exact hi
   obtain⟨a0,a1,a2,a3⟩:=cellsT_at acc svs h.len i hi hi'
   have hc:=h.own.cells (g:=g) rfl
   have hadd:∀ j,(⟨g,0,none⟩:Addr).add j=⟨g,j,none⟩:=fun j=>by unfold Addr.add;split<;>simp_all
   have b0:=hc _ _ a0
   have b1:=hc _ _ a1
   have b2:=hc _ _ a2
   have b3:=hc _ _ a3
   rw[hadd] at b0 b1 b2 b3
   simp only[Nat.zero_add]
   rw[List.getD_eq_getElem?_getD,List.getElem?_eq_getElem hi']
   exact⟨b0,b1,b2,b3⟩
  ·have hi':i<svs.length:=by rw[h.len];exact hi
   simp only[List.getD_eq_getElem?_getD,List.getElem?_eq_getElem hi',Option.getD_some]
   exact (h.at_ i _ _ (List.getElem?_eq_getElem hi) (List.getElem?_eq_getElem hi')).mono fun b hb=>⟨hb.1,hb.2.1⟩
theorem infoRf:(Tryz.prog.info? 56).map (fun i=>(i.zero,i.size,i.bytes))=some (some (.agg #[.int .i64 0,.string ByteArray.empty,.int .i64 0,.slice none 0 0]),4,56):=by kernel_rfl
def RrPost (w:World)(n:Nat)(res:Option (Ty × List Tok))(e:Ending)(w':World):Prop :=
 Below w.heap.size w w'∧match res with
 | none=>∃ (k:Int) (s:ByteArray) (n:Int) (a:Option Addr) (c m:Nat),e=.returned (.tuple #[.agg #[.int .i64 k,.string s,.int .i64 n,.slice a c m],.int .i64 (-1)])
 | some (t,r)=>∃ a c,e=.returned (.tuple #[tv t a c,.int .i64 ((n - r.length:Nat):Int)])∧ArgsAt (In w.heap.size w'.heap.size) w' (.slice a t.args.length c) t.args
structure TokR (l:List Tok):Prop where
 num:∀ t∈l,t.kind=5→t.text.tail.length≤6∧t.text≠[]∧∀ c∈t.text.tail,digitB c=true
 par:∀ t∈l,t.text=lpar→t.kind=6
structure RSaid (n:Nat):Prop where
 typ:∀ (w:World) (a:Option Addr) (c:Nat) (l:List Tok) (i:Nat),ToksAt w (.slice a l.length c) l→(∀ b o,a=some ⟨b,o,none⟩→b<w.heap.size)→TokR l→l.length≤4000→i≤l.length→4*(l.length - i)+4≤n→Calls Tryz.prog 54 #[.slice a l.length c,.int .i64 i] w (RrPost w l.length (typF n (l.drop i)))
 app:∀ (w:World) (a:Option Addr) (c:Nat) (l:List Tok) (i:Nat),ToksAt w (.slice a l.length c) l→(∀ b o,a=some ⟨b,o,none⟩→b<w.heap.size)→TokR l→l.length≤4000→i≤l.length→4*(l.length - i)+3≤n→Calls Tryz.prog 89 #[.slice a l.length c,.int .i64 i] w (RrPost w l.length (appF n (l.drop i)))
 atom:∀ (w:World) (a:Option Addr) (c:Nat) (l:List Tok) (i:Nat),ToksAt w (.slice a l.length c) l→(∀ b o,a=some ⟨b,o,none⟩→b<w.heap.size)→TokR l→l.length≤4000→i≤l.length→4*(l.length - i)+2≤n→Calls Tryz.prog 106 #[.slice a l.length c,.int .i64 i] w (RrPost w l.length (atomF n (l.drop i)))
open Lx
theorem toks_ix {w:World}{a:Option Addr}{c:Nat}{l:List Tok}(ht:ToksAt w (.slice a l.length c) l){i:Nat}(hi:i<l.length) :
  ∃ b off,a=some ⟨b,off,none⟩∧w.cell? ⟨b,off+i*3,none⟩=some (.int .i64 l[i].kind)∧w.cell? ⟨b,off+i*3+1,none⟩=some (.string ⟨l[i].text.toArray⟩):=by
 obtain⟨a',c',e,hl,h0|⟨b,off,rfl,hc⟩⟩:=ht
 ·rw[h0] at hi;simp at hi
 ·injection e with e1 e2 e3
  obtain⟨h1,h2,_⟩:=hc i hi
  exact⟨b,off,e1,h1,h2⟩
theorem drop_ix {l:List Tok}{i:Nat}(hi:i<l.length):l.drop i=l[i] :: l.drop (i+1):=List.drop_eq_getElem_cons hi
set_option maxHeartbeats 1600000 in
theorem is_any (k:Nat)(s:List UInt8)(w:World)(a:Option Addr)(c:Nat)(l:List Tok)(i:Nat)(ht:ToksAt w (.slice a l.length c) l)(hi:i≤l.length) :
  Calls Tryz.prog 50 #[.slice a l.length c,.int .i64 i,.int .i64 (k:Int),.string ⟨s.toArray⟩] w fun e w'=>e=.returned (.bool (seesB (l.drop i) k s))∧w=w':=by
 by_cases hlt:i<l.length
 ·obtain⟨b,off,rfl,c0,c1⟩:=toks_ix ht hlt
  have HK:=hid (show seesB (l.drop i) k s=(l[i].kind==k&&(s.isEmpty || l[i].text==s)) by rw[drop_ix hlt];rfl)
  have z0:(0:Int)≤(i:Int):=by omega
  have z1:(i:Int)<(l.length:Int):=by omega
  clear ht
  generalize l[i]=t at *
  by_cases h1:t.kind=k
  ·have e1:((t.kind:Int)==(k:Int))=true:=by rw[h1];simp
   have H1:=hid h1
   clear h1
   by_cases h2:s=[]
   ·subst h2
    go_enter Tryz.func50,Tryz.ntmps50
    go_wp2
    go_ret
    exact⟨ret_bool (by rw[HK.out,H1.out];simp),rfl⟩
   ·have h3:s.isEmpty=false:=by simpa using h2
    have H3:=hid h3
    clear h2
    go_enter Tryz.func50,Tryz.ntmps50
    go_wp2
    go_ret
    exact⟨ret_bool (by rw[HK.out,H1.out,H3.out];simp),rfl⟩
  ·have e1:((t.kind:Int)==(k:Int))=false:=by rw[beq_eq_false_iff_ne];omega
   have H1:Hid ((t.kind==k)=false):=hid (by rw[beq_eq_false_iff_ne];exact h1)
   clear h1
   go_enter Tryz.func50,Tryz.ntmps50
   go_wp2
   go_ret
   exact⟨ret_bool (by rw[HK.out,H1.out];rfl),rfl⟩
 ·obtain rfl:i=l.length:=by omega
  have HK:=hid (show seesB (l.drop l.length) k s=false by rw[List.drop_length];rfl)
  have z1:¬ (l.length:Int)<(l.length:Int):=by omega
  clear ht hlt
  generalize l.length=n at *
  go_enter Tryz.func50,Tryz.ntmps50
  go_wp2
  go_ret
  exact⟨ret_bool HK.out.symm,rfl⟩
theorem numL_take (l:List UInt8)(k:Nat)(h:k<l.length):numL (l.take (k+1))=10*numL (l.take k)+(l[k].toNat - 48):=by
 rw[List.take_add_one,List.getElem?_eq_getElem h]
 exact numL_snoc _ _
theorem rnumL_lt (l:List UInt8)(h:∀ c∈l,digitB c=true):numL l<10 ^ l.length:=by
 have:∀ (l:List UInt8) (n:Nat),(∀ c∈l,digitB c=true)→l.foldl (fun n c=>10*n+(c.toNat - 48)) n<(n+1)*10 ^ l.length:=by
  intro l
  induction l with
  | nil=>intro n _;simp
  | cons c l ih =>
   intro n h
   rw[List.foldl_cons,List.length_cons]
   refine Nat.lt_of_lt_of_le (ih _ fun d hd=>h d (by simp[hd])) ?_
   have hc:=h c (by simp)
   unfold digitB at hc
   simp only[decide_eq_true_eq] at hc
   rw[Nat.pow_succ,Nat.mul_comm (10 ^ l.length) 10,← Nat.mul_assoc]
   refine Nat.mul_le_mul_right _ ?_
   omega
 have:=this l 0 h
 unfold numL
 omega
set_option maxHeartbeats 1600000 in
theorem rfnum_any (s:ByteArray)(w:World)(hs:s.size≤6)(hd:∀ c∈s.data.toList,digitB c=true) :
  Calls Tryz.prog 121 #[.string s] w fun e w'=>e=.returned (.int .i64 (numL s.data.toList:Int))∧w=w':=by
 have hlen:s.data.toList.length=s.size:=by rw[Array.length_toList];rfl
 have HL:=hid hlen
 have HD:=hid hd
 clear hlen hd
 go_enter Tryz.func121,Tryz.ntmps121
 go_wp2
 go_loop [3,4] (fun x i=>∃ k:Nat,i=.int .i64 k∧k≤s.size∧x=.int .i64 (numL (s.data.toList.take k):Int)) (fun _ i=>s.size - (intOf i).toNat)
 case atStart=>exact⟨0,rfl,Nat.zero_le _,rfl⟩
 case round =>
  obtain⟨k,rfl,hk,rfl⟩:=hrel
  by_cases hlt:k<s.size
  ·have z0:(0:Int)≤(k:Int):=by omega
   have z1:(k:Int)<(s.size:Int):=by omega
   have hkl:k<s.data.toList.length:=by rw[HL.out];exact hlt
   have st:=hid (numL_take s.data.toList k hkl)
   have hb:=rnumL_lt (s.data.toList.take k) (fun c hc=>HD.out c (List.mem_of_mem_take hc))
   have hp:10 ^ (s.data.toList.take k).length≤10 ^ 6:=Nat.pow_le_pow_right (by omega) (by rw[List.length_take];omega)
   have hdc:=HD.out _ (List.getElem_mem hkl)
   have eg:s.data.toList[k]=s[k]'hlt:=rfl
   rw[eg] at st hdc
   unfold digitB at hdc
   simp only[decide_eq_true_eq] at hdc
   obtain⟨d1,d2⟩:=hdc
   have b1:numL (s.data.toList.take k)<1000000:=by omega
   have ST:=hid st.out
   clear st hb hp eg hkl
   generalize numL (s.data.toList.take k)=x at *
   go_wp2
   go_round
   case rel=>exact⟨k+1,by go_num,by omega,by rw[ST.out];congr 1;omega⟩
   case measure=>simp[intOf];omega
  ·obtain rfl:k=s.size:=by omega
   have E:Hid (s.data.toList.take s.size=s.data.toList):=hid (by rw[← HL.out,List.take_length])
   go_wp2
   go_ret
   exact⟨ret_int (by rw[E.out]),rfl⟩
end Go.Proofs.YtkihnodkhnahiaaGreatDoor.Tp

namespace Go.Proofs.YtkihnodkhnahiaaGreatDoor.Tp
open Lx
theorem tail_suf (l:List Tok):l.tail <:+ l:=List.tail_suffix l
theorem rest_suf (l:List Tok):restL l <:+ l:=List.dropWhile_suffix _
theorem sufs:∀ n:Nat,
  (∀ l x r,typF n l=some (x,r)→r <:+ l)∧(∀ l x r,allF n l=some (x,r)→r <:+ l) ∧
  (∀ l x r,appF n l=some (x,r)→r <:+ l)∧(∀ s acc l x r,argsF n s acc l=some (x,r)→r <:+ l) ∧
  (∀ l x r,atomF n l=some (x,r)→r <:+ l):=by
 intro n
 induction n with
 | zero=>exact⟨fun _ _ _ h=>by simp[typF] at h,fun _ _ _ h=>by simp[allF] at h,fun _ _ _ h=>by simp[appF] at h,fun _ _ _ _ _ h=>by simp[argsF] at h,fun _ _ _ h=>by simp[atomF] at h⟩
 | succ n ih =>
  obtain⟨i1,i2,i3,i4,i5⟩:=ih
  refine⟨fun l x r h=>?_,fun l x r h=>?_,fun l x r h=>?_,fun s acc l x r h=>?_,fun l x r h=>?_⟩
  ·rw[typF] at h
   split at h
   ·exact (i2 _ _ _ h).trans (tail_suf l)
   ·split at h
    ·cases h
    ·next a r' h2 =>
     have e2:=i3 _ _ _ h2
     split at h
     ·split at h
      ·cases h
      ·next b r'' h4 =>
       have e4:=i1 _ _ _ h4
       simp only[Option.some.injEq,Prod.mk.injEq] at h
       obtain⟨_,rfl⟩:=h
       exact (e4.trans (tail_suf _)).trans e2
     ·simp only[Option.some.injEq,Prod.mk.injEq] at h
      obtain⟨_,rfl⟩:=h
      exact e2
  ·rw[allF] at h
   split at h
   ·cases h
   ·split at h
    ·cases h
    ·next t r' h2 =>
     have e2:=i1 _ _ _ h2
     simp only[Option.some.injEq,Prod.mk.injEq] at h
     obtain⟨_,rfl⟩:=h
     exact (e2.trans (tail_suf _)).trans (rest_suf l)
  ·rw[appF] at h
   split at h
   ·exact (i4 _ _ _ _ _ h).trans (tail_suf l)
   ·exact i5 _ _ _ h
  ·rw[argsF] at h
   split at h
   ·split at h
    ·cases h
    ·next x' r' h2=>exact (i4 _ _ _ _ _ h).trans (i5 _ _ _ h2)
   ·simp only[Option.some.injEq,Prod.mk.injEq] at h
    obtain⟨_,rfl⟩:=h
    exact List.suffix_refl _
  ·rw[atomF] at h
   split at h
   ·simp only[Option.some.injEq,Prod.mk.injEq] at h
    obtain⟨_,rfl⟩:=h
    exact tail_suf l
   ·split at h
    ·simp only[Option.some.injEq,Prod.mk.injEq] at h
     obtain⟨_,rfl⟩:=h
     exact tail_suf l
    ·split at h
     ·simp only[Option.some.injEq,Prod.mk.injEq] at h
      obtain⟨_,rfl⟩:=h
      exact tail_suf l
     ·split at h
      ·split at h
       ·cases h
       ·next t r' h2 =>
        have e2:=i1 _ _ _ h2
        split at h
        ·simp only[Option.some.injEq,Prod.mk.injEq] at h
         obtain⟨_,rfl⟩:=h
         exact ((tail_suf _).trans e2).trans (tail_suf l)
        ·cases h
      ·cases h
theorem drop_suf {l r:List Tok}(h:r <:+ l):l.drop (l.length - r.length)=r:=by
 obtain⟨p,rfl⟩:=h
 rw[List.length_append,Nat.add_sub_cancel,List.drop_left]
theorem suf_at {l r:List Tok}{i:Nat}(h:r <:+ l.drop i):r <:+ l:=h.trans (List.drop_suffix i l)
end Go.Proofs.YtkihnodkhnahiaaGreatDoor.Tp

namespace Go.Proofs.YtkihnodkhnahiaaGreatDoor.Tp
open Go.RowKit
open Lx
theorem st_sees {l:List Tok}{k:Nat}{s:List UInt8}(h:s≠[]):seesB l k s=st l k s:=sees_st l k s h
theorem in_stored {w wx:World}{v:Value}{ts:List Ty}(p0 p1 p2 p3:Value)(_hs:w.heap.size+1≤wx.heap.size)(h:ArgsAt (In (w.heap.size+1) wx.heap.size) wx v ts) :
  ArgsAt (In w.heap.size ((((wx.setCell ⟨w.heap.size,0,none⟩ p0).setCell ⟨w.heap.size,1,none⟩ p1).setCell ⟨w.heap.size,2,none⟩ p2).setCell ⟨w.heap.size,3,none⟩ p3).heap.size) ((((wx.setCell ⟨w.heap.size,0,none⟩ p0).setCell ⟨w.heap.size,1,none⟩ p1).setCell ⟨w.heap.size,2,none⟩ p2).setCell ⟨w.heap.size,3,none⟩ p3) v ts:=by
 have k:=same_set4 wx w.heap.size p0 p1 p2 p3
 refine (h.keep fun b hb=>k.off b (by have:=hb.1;omega)).mono fun b hb=>⟨by have:=hb.1;omega,by rw[k.size];exact hb.2⟩
theorem ret_pair {v:Value}{a b:Int}(h:a=b):Ending.returned (.tuple #[v,.int .i64 a])=.returned (.tuple #[v,.int .i64 b]):=by rw[h]
theorem ratom_leaf (n:Nat)(w:World)(a:Option Addr)(c:Nat)(l:List Tok)(i:Nat)(ht:ToksAt w (.slice a l.length c) l)(hb:∀ b o,a=some ⟨b,o,none⟩→b<w.heap.size)(hl:l.length≤4000)(hi:i<l.length)
  (k:Nat) (hk:l[i].kind=k) (hk2:k=1∨k=2):Calls Tryz.prog 106 #[.slice a l.length c,.int .i64 i] w (RrPost w l.length (atomF (n+1) (l.drop i))):=by
 obtain⟨b,off,rfl,c0',c1'⟩:=toks_ix ht hi
 have hbl:=hb b off rfl
 have hz:=(Below.refl w.heap.size w).alloc (Nat.le_refl _) (.cells #[.int .i64 0,.string ⟨#[]⟩,.int .i64 0,.slice none 0 0] 56)
 have c0:=(hz.cell (p:=⟨b,off+i*3,none⟩) hbl).trans c0'
 have c1:=(hz.cell (p:=⟨b,off+i*3+1,none⟩) hbl).trans c1'
 have z0:(0:Int)≤(i:Int):=by omega
 have z1:(i:Int)<(l.length:Int):=by omega
 have hrest:(l.drop (i+1)).length=l.length - (i+1):=List.length_drop
 have E:Hid (atomF (n+1) (l.drop i)=some (if k=1 then tVar l[i].text else tCon l[i].text [],l.drop (i+1))):=hid (by
  rw[drop_ix hi,atomF]
  rcases hk2 with rfl|rfl
  ·rw[if_pos (sk_cons _ _ 1 hk)];rfl
  ·rw[sk_cons_ne _ _ 1 (by omega),sk_cons _ _ 2 hk];rfl)
 have HR:=hid hrest
 clear ht hb c0' c1' hrest hz
 rw[hk] at c0
 generalize l[i]=t at *
 clear hk
 rcases hk2 with rfl|rfl
 ·go_enter Tryz.func106,Tryz.ntmps106
  go_wp2
  have q4:=R4.new w (.int .i64 1) (.string ⟨t.text.toArray⟩) (.int .i64 0) (.slice none 0 0)
  refine bodyPost_ret (v:=.tuple #[tv (tVar t.text) none 0,.int .i64 ((i:Int)+1)]) (by simp[results,Tryz.results106,go_sem,q4.c0,q4.c1,q4.c2,q4.c3];rfl) rfl ?_
  rw[E.out]
  exact⟨(Below.refl w.heap.size w).alloc (Nat.le_refl _) _,none,0,ret_pair (by rw[HR.out];omega),.nil _ _⟩
 ·go_enter Tryz.func106,Tryz.ntmps106
  go_wp2
  have q4:=R4.new w (.int .i64 3) (.string ⟨t.text.toArray⟩) (.int .i64 0) (.slice none 0 0)
  refine bodyPost_ret (v:=.tuple #[tv (tCon t.text []) none 0,.int .i64 ((i:Int)+1)]) (by simp[results,Tryz.results106,go_sem,q4.c0,q4.c1,q4.c2,q4.c3];rfl) rfl ?_
  rw[E.out]
  exact⟨(Below.refl w.heap.size w).alloc (Nat.le_refl _) _,none,0,ret_pair (by rw[HR.out];omega),.nil _ _⟩
set_option maxHeartbeats 1600000 in
theorem rdepth_any:∀ (t:Ty) (S:Nat→Prop) (a:Option Addr) (c:Nat) (w:World),ArgsAt S w (.slice a t.args.length c) t.args→(∀ b,S b→b<w.heap.size)→t.depth≤100000 →
  Calls Tryz.prog 55 #[tv t a c] w (IntPost w t.depth):=by
 intro t
 induction t using Ty.ind with
 | h t ih =>
  intro S a c w hA hS hd
  have hl:t.args.length≤9223372036854775807:=by
   obtain⟨_,_,_,h⟩:=hA.form
   exact h
  have hz:=(Below.refl w.heap.size w).alloc (Nat.le_refl _) (.cells #[.int .i64 t.kind,.string t.name,.int .i64 t.n,.slice a t.args.length c] 56)
  have K4:=hid (R4.new w (.int .i64 t.kind) (.string t.name) (.int .i64 t.n) (.slice a t.args.length c))
  have HZ:=hid hz
  have IH:=hid ih
  have AH:=hid hA
  have HN:=hid hS
  have DE:=hid t.depth_eq
  unfold tv
  clear ih hA hS hz
  go_enter Tryz.func55,Tryz.ntmps55
  go_wp2
  go_loopw [3,4] (fun mv iv wr=>∃ i:Nat,iv=.int .i64 i∧i≤t.args.length∧mv=.int .i64 (depthL (t.args.take i):Nat)∧Below (w.alloc (.cells #[.int .i64 t.kind,.string t.name,.int .i64 t.n,.slice a t.args.length c] 56)).heap.size (w.alloc (.cells #[.int .i64 t.kind,.string t.name,.int .i64 t.n,.slice a t.args.length c] 56)) wr) (fun _ iv _=>t.args.length - (intOf iv).toNat)
  case atStart=>exact⟨0,rfl,Nat.zero_le _,by simp[depthL],Below.refl _ _⟩
  case round =>
   obtain⟨i,rfl,hil,rfl,hB⟩:=hrel
   have z0:(0:Int)≤(i:Int):=by omega
   have hBw:=HZ.out.trans (hB.mono HZ.out.size)
   have k3:=(K4.out.low hB).c3
   have BW:=hid hBw
   have BH:=hid hB
   by_cases hi:i<t.args.length
   ·have z1:(i:Int)<(t.args.length:Int):=by omega
    obtain⟨b,off,a',cap',rfl,hb,hf,hs⟩:=AH.out.at_ hi
    obtain⟨f0,f1,f2,f3⟩:=hf.keep (hBw.block b (HN.out b hb))
    have hm:=List.getElem_mem hi
    have hdi:=depth_arg _ hm
    have hdt:=depthL_take _ _ hi
    have CH:=hid (IH.out _ hm S a' cap' wr (hs.keep fun b hS=>hBw.block b (HN.out b hS)) (fun b hS=>Nat.lt_of_lt_of_le (HN.out b hS) hBw.size) (by have:=DE.out;omega))
    have DT:=hid hdt
    have hdd:t.args[i].depth≤100000:=by have:=DE.out;omega
    have hdl:depthL (t.args.take i)≤depthL t.args:=by
     conv=>rhs;rw[← List.take_append_drop i t.args,depthL_append]
     omega
    have hdl2:depthL (t.args.take i)≤100000:=by have:=DE.out;omega
    unfold tv at CH
    clear hf hs hB hBw hm hdi hdt hdl hb
    generalize t.args[i]=x at *
    generalize depthL (t.args.take i)=m at *
    go_wp2_with fail
    refine CH.out.mono ?_
    rintro e w4 ⟨rfl,B4⟩
    have B5:=hid (BH.out.trans (B4.mono BH.out.size))
    have em:(if m<x.depth then (x.depth:Int) else (m:Int))=((max m x.depth:Nat):Int):=by split<;>omega
    clear B4
    go_wp2
    go_roundw
    case rel=>exact⟨i+1,by go_num,by omega,by rw[DT.out];congr 1;omega,B5.out⟩
    case measure=>simp[intOf];omega
   ·obtain rfl:i=t.args.length:=by omega
    have hdl2:depthL t.args≤100000:=by have:=DE.out;omega
    clear hB hBw
    go_wp2
    go_ret
    exact⟨ret_int (by rw[DE.out];omega),BW.out⟩
end Go.Proofs.YtkihnodkhnahiaaGreatDoor.Tp

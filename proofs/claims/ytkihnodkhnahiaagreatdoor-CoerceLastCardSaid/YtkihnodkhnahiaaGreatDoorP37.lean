/- Texts laid together: RfIs, RfSuf, RfAtom. -/
import Derived.Test.YtkihnodkhnahiaaGreatDoorP16
import Derived.Test.YtkihnodkhnahiaaGreatDoorP07
import Derived.Test.YtkihnodkhnahiaaGreatDoorP01
import Derived.Test.YtkihnodkhnahiaaGreatDoorP18

namespace Go.Proofs.YtkihnodkhnahiaaGreatDoor.Tp
open Go.RowKit
open Lx
theorem toks_ix {w:World}{a:Option Addr}{c:Nat}{l:List Tok}(ht:ToksAt w (.slice a l.length c) l){i:Nat}(hi:i<l.length) :
  ∃ b off,a=some ⟨b,off,none⟩∧w.cell? ⟨b,off+i*3,none⟩=some (.int .i64 l[i].kind)∧w.cell? ⟨b,off+i*3+1,none⟩=some (.string ⟨l[i].text.toArray⟩):=by
 obtain⟨a',c',e,hl,h0|⟨b,off,rfl,hc⟩⟩:=ht
 ·rw[h0] at hi;simp at hi
 ·injection e with e1 e2 e3
  obtain⟨h1,h2,_⟩:=hc i hi
  exact⟨b,off,e1,h1,h2⟩
theorem drop_ix {l:List Tok}{i:Nat}(hi:i<l.length):l.drop i=l[i] :: l.drop (i+1):=List.drop_eq_getElem_cons hi
set_option maxHeartbeats 1600000 in
theorem is_any (k:Nat)(s:List UInt8)(w:World)(a:Option Addr)(c:Nat)(l:List Tok)(i:Nat)(ht:ToksAt w (.slice a l.length c) l)(hi:i≤l.length) :
  Calls Tryz.prog 50 #[.slice a l.length c,.int .i64 i,.int .i64 (k:Int),.string ⟨s.toArray⟩] w fun e w'=>e=.returned (.bool (seesB (l.drop i) k s))∧w=w':=by
 by_cases hlt:i<l.length
 ·obtain⟨b,off,rfl,c0,c1⟩:=toks_ix ht hlt
  have HK:=hid (show seesB (l.drop i) k s=(l[i].kind==k&&(s.isEmpty || l[i].text==s)) by rw[drop_ix hlt];rfl)
  have z0:(0:Int)≤(i:Int):=by omega
  have z1:(i:Int)<(l.length:Int):=by omega
  clear ht
  generalize l[i]=t at *
  by_cases h1:t.kind=k
  ·have e1:((t.kind:Int)==(k:Int))=true:=by rw[h1];simp
   have H1:=hid h1
   clear h1
   by_cases h2:s=[]
   ·subst h2
    go_enter Tryz.func50,Tryz.ntmps50
    go_wp2
    go_ret
    exact⟨ret_bool (by rw[HK.out,H1.out];simp),rfl⟩
   ·have h3:s.isEmpty=false:=by simpa using h2
    have H3:=hid h3
    clear h2
    go_enter Tryz.func50,Tryz.ntmps50
    go_wp2
    go_ret
    exact⟨ret_bool (by rw[HK.out,H1.out,H3.out];simp),rfl⟩
  ·have e1:((t.kind:Int)==(k:Int))=false:=by rw[beq_eq_false_iff_ne];omega
   have H1:Hid ((t.kind==k)=false):=hid (by rw[beq_eq_false_iff_ne];exact h1)
   clear h1
   go_enter Tryz.func50,Tryz.ntmps50
   go_wp2
   go_ret
   exact⟨ret_bool (by rw[HK.out,H1.out];rfl),rfl⟩
 ·obtain rfl:i=l.length:=by omega
  have HK:=hid (show seesB (l.drop l.length) k s=false by rw[List.drop_length];rfl)
  have z1:¬ (l.length:Int)<(l.length:Int):=by omega
  clear ht hlt
  generalize l.length=n at *
  go_enter Tryz.func50,Tryz.ntmps50
  go_wp2
  go_ret
  exact⟨ret_bool HK.out.symm,rfl⟩
theorem numL_take (l:List UInt8)(k:Nat)(h:k<l.length):numL (l.take (k+1))=10*numL (l.take k)+(l[k].toNat - 48):=by
 rw[List.take_add_one,List.getElem?_eq_getElem h]
 exact numL_snoc _ _
theorem rnumL_lt (l:List UInt8)(h:∀ c∈l,digitB c=true):numL l<10 ^ l.length:=by
 have:∀ (l:List UInt8) (n:Nat),(∀ c∈l,digitB c=true)→l.foldl (fun n c=>10*n+(c.toNat - 48)) n<(n+1)*10 ^ l.length:=by
  intro l
  induction l with
  | nil=>intro n _;simp
  | cons c l ih =>
   intro n h
   rw[List.foldl_cons,List.length_cons]
   refine Nat.lt_of_lt_of_le (ih _ fun d hd=>h d (by simp[hd])) ?_
   have hc:=h c (by simp)
   unfold digitB at hc
   simp only[decide_eq_true_eq] at hc
   rw[Nat.pow_succ,Nat.mul_comm (10 ^ l.length) 10,← Nat.mul_assoc]
   refine Nat.mul_le_mul_right _ ?_
   omega
 have:=this l 0 h
 unfold numL
 omega
set_option maxHeartbeats 1600000 in
theorem rfnum_any (s:ByteArray)(w:World)(hs:s.size≤6)(hd:∀ c∈s.data.toList,digitB c=true) :
  Calls Tryz.prog 121 #[.string s] w fun e w'=>e=.returned (.int .i64 (numL s.data.toList:Int))∧w=w':=by
 have hlen:s.data.toList.length=s.size:=by rw[Array.length_toList];rfl
 have HL:=hid hlen
 have HD:=hid hd
 clear hlen hd
 go_enter Tryz.func121,Tryz.ntmps121
 go_wp2
 go_loop [3,4] (fun x i=>∃ k:Nat,i=.int .i64 k∧k≤s.size∧x=.int .i64 (numL (s.data.toList.take k):Int)) (fun _ i=>s.size - (intOf i).toNat)
 case atStart=>exact⟨0,rfl,Nat.zero_le _,rfl⟩
 case round =>
  obtain⟨k,rfl,hk,rfl⟩:=hrel
  by_cases hlt:k<s.size
  ·have z0:(0:Int)≤(k:Int):=by omega
   have z1:(k:Int)<(s.size:Int):=by omega
   have hkl:k<s.data.toList.length:=by rw[HL.out];exact hlt
   have st:=hid (numL_take s.data.toList k hkl)
   have hb:=rnumL_lt (s.data.toList.take k) (fun c hc=>HD.out c (List.mem_of_mem_take hc))
   have hp:10 ^ (s.data.toList.take k).length≤10 ^ 6:=Nat.pow_le_pow_right (by omega) (by rw[List.length_take];omega)
   have hdc:=HD.out _ (List.getElem_mem hkl)
   have eg:s.data.toList[k]=s[k]'hlt:=rfl
   rw[eg] at st hdc
   unfold digitB at hdc
   simp only[decide_eq_true_eq] at hdc
   obtain⟨d1,d2⟩:=hdc
   have b1:numL (s.data.toList.take k)<1000000:=by omega
   have ST:=hid st.out
   clear st hb hp eg hkl
   generalize numL (s.data.toList.take k)=x at *
   go_wp2
   go_round
   case rel=>exact⟨k+1,by go_num,by omega,by rw[ST.out];congr 1;omega⟩
   case measure=>simp[intOf];omega
  ·obtain rfl:k=s.size:=by omega
   have E:Hid (s.data.toList.take s.size=s.data.toList):=hid (by rw[← HL.out,List.take_length])
   go_wp2
   go_ret
   exact⟨ret_int (by rw[E.out]),rfl⟩
end Go.Proofs.YtkihnodkhnahiaaGreatDoor.Tp

namespace Go.Proofs.YtkihnodkhnahiaaGreatDoor.Tp
open Lx
theorem tail_suf (l:List Tok):l.tail <:+ l:=List.tail_suffix l
theorem rest_suf (l:List Tok):restL l <:+ l:=List.dropWhile_suffix _
theorem sufs:∀ n:Nat,
  (∀ l x r,typF n l=some (x,r)→r <:+ l)∧(∀ l x r,allF n l=some (x,r)→r <:+ l) ∧
  (∀ l x r,appF n l=some (x,r)→r <:+ l)∧(∀ s acc l x r,argsF n s acc l=some (x,r)→r <:+ l) ∧
  (∀ l x r,atomF n l=some (x,r)→r <:+ l):=by
 intro n
 induction n with
 | zero=>exact⟨fun _ _ _ h=>by simp[typF] at h,fun _ _ _ h=>by simp[allF] at h,fun _ _ _ h=>by simp[appF] at h,fun _ _ _ _ _ h=>by simp[argsF] at h,fun _ _ _ h=>by simp[atomF] at h⟩
 | succ n ih =>
  obtain⟨i1,i2,i3,i4,i5⟩:=ih
  refine⟨fun l x r h=>?_,fun l x r h=>?_,fun l x r h=>?_,fun s acc l x r h=>?_,fun l x r h=>?_⟩
  ·rw[typF] at h
   split at h
   ·exact (i2 _ _ _ h).trans (tail_suf l)
   ·split at h
    ·cases h
    ·next a r' h2 =>
     have e2:=i3 _ _ _ h2
     split at h
     ·split at h
      ·cases h
      ·next b r'' h4 =>
       have e4:=i1 _ _ _ h4
       simp only[Option.some.injEq,Prod.mk.injEq] at h
       obtain⟨_,rfl⟩:=h
       exact (e4.trans (tail_suf _)).trans e2
     ·simp only[Option.some.injEq,Prod.mk.injEq] at h
      obtain⟨_,rfl⟩:=h
      exact e2
  ·rw[allF] at h
   split at h
   ·cases h
   ·split at h
    ·cases h
    ·next t r' h2 =>
     have e2:=i1 _ _ _ h2
     simp only[Option.some.injEq,Prod.mk.injEq] at h
     obtain⟨_,rfl⟩:=h
     exact (e2.trans (tail_suf _)).trans (rest_suf l)
  ·rw[appF] at h
   split at h
   ·exact (i4 _ _ _ _ _ h).trans (tail_suf l)
   ·exact i5 _ _ _ h
  ·rw[argsF] at h
   split at h
   ·split at h
    ·cases h
    ·next x' r' h2=>exact (i4 _ _ _ _ _ h).trans (i5 _ _ _ h2)
   ·simp only[Option.some.injEq,Prod.mk.injEq] at h
    obtain⟨_,rfl⟩:=h
    exact List.suffix_refl _
  ·rw[atomF] at h
   split at h
   ·simp only[Option.some.injEq,Prod.mk.injEq] at h
    obtain⟨_,rfl⟩:=h
    exact tail_suf l
   ·split at h
    ·simp only[Option.some.injEq,Prod.mk.injEq] at h
     obtain⟨_,rfl⟩:=h
     exact tail_suf l
    ·split at h
     ·simp only[Option.some.injEq,Prod.mk.injEq] at h
      obtain⟨_,rfl⟩:=h
      exact tail_suf l
     ·split at h
      ·split at h
       ·cases h
       ·next t r' h2 =>
        have e2:=i1 _ _ _ h2
        split at h
        ·simp only[Option.some.injEq,Prod.mk.injEq] at h
         obtain⟨_,rfl⟩:=h
         exact ((tail_suf _).trans e2).trans (tail_suf l)
        ·cases h
      ·cases h
theorem drop_suf {l r:List Tok}(h:r <:+ l):l.drop (l.length - r.length)=r:=by
 obtain⟨p,rfl⟩:=h
 rw[List.length_append,Nat.add_sub_cancel,List.drop_left]
theorem suf_at {l r:List Tok}{i:Nat}(h:r <:+ l.drop i):r <:+ l:=h.trans (List.drop_suffix i l)
end Go.Proofs.YtkihnodkhnahiaaGreatDoor.Tp

namespace Go.Proofs.YtkihnodkhnahiaaGreatDoor.Tp
open Go.RowKit
open Lx
theorem st_sees {l:List Tok}{k:Nat}{s:List UInt8}(h:s≠[]):seesB l k s=st l k s:=sees_st l k s h
theorem in_stored {w wx:World}{v:Value}{ts:List Ty}(p0 p1 p2 p3:Value)(_hs:w.heap.size+1≤wx.heap.size)(h:ArgsAt (In (w.heap.size+1) wx.heap.size) wx v ts) :
  ArgsAt (In w.heap.size ((((wx.setCell ⟨w.heap.size,0,none⟩ p0).setCell ⟨w.heap.size,1,none⟩ p1).setCell ⟨w.heap.size,2,none⟩ p2).setCell ⟨w.heap.size,3,none⟩ p3).heap.size) ((((wx.setCell ⟨w.heap.size,0,none⟩ p0).setCell ⟨w.heap.size,1,none⟩ p1).setCell ⟨w.heap.size,2,none⟩ p2).setCell ⟨w.heap.size,3,none⟩ p3) v ts:=by
 have k:=same_set4 wx w.heap.size p0 p1 p2 p3
 refine (h.keep fun b hb=>k.off b (by have:=hb.1;omega)).mono fun b hb=>⟨by have:=hb.1;omega,by rw[k.size];exact hb.2⟩
theorem ret_pair {v:Value}{a b:Int}(h:a=b):Ending.returned (.tuple #[v,.int .i64 a])=.returned (.tuple #[v,.int .i64 b]):=by rw[h]
theorem ratom_leaf (n:Nat)(w:World)(a:Option Addr)(c:Nat)(l:List Tok)(i:Nat)(ht:ToksAt w (.slice a l.length c) l)(hb:∀ b o,a=some ⟨b,o,none⟩→b<w.heap.size)(hl:l.length≤4000)(hi:i<l.length)
  (k:Nat) (hk:l[i].kind=k) (hk2:k=1∨k=2):Calls Tryz.prog 106 #[.slice a l.length c,.int .i64 i] w (RrPost w l.length (atomF (n+1) (l.drop i))):=by
 obtain⟨b,off,rfl,c0',c1'⟩:=toks_ix ht hi
 have hbl:=hb b off rfl
 have hz:=(Below.refl w.heap.size w).alloc (Nat.le_refl _) (.cells #[.int .i64 0,.string ⟨#[]⟩,.int .i64 0,.slice none 0 0] 56)
 have c0:=(hz.cell (p:=⟨b,off+i*3,none⟩) hbl).trans c0'
 have c1:=(hz.cell (p:=⟨b,off+i*3+1,none⟩) hbl).trans c1'
 have z0:(0:Int)≤(i:Int):=by omega
 have z1:(i:Int)<(l.length:Int):=by omega
 have hrest:(l.drop (i+1)).length=l.length - (i+1):=List.length_drop
 have E:Hid (atomF (n+1) (l.drop i)=some (if k=1 then tVar l[i].text else tCon l[i].text [],l.drop (i+1))):=hid (by
  rw[drop_ix hi,atomF]
  rcases hk2 with rfl|rfl
  ·rw[if_pos (sk_cons _ _ 1 hk)];rfl
  ·rw[sk_cons_ne _ _ 1 (by omega),sk_cons _ _ 2 hk];rfl)
 have HR:=hid hrest
 clear ht hb c0' c1' hrest hz
 rw[hk] at c0
 generalize l[i]=t at *
 clear hk
 rcases hk2 with rfl|rfl
 ·go_enter Tryz.func106,Tryz.ntmps106
  go_wp2
  have q4:=R4.new w (.int .i64 1) (.string ⟨t.text.toArray⟩) (.int .i64 0) (.slice none 0 0)
  refine bodyPost_ret (v:=.tuple #[tv (tVar t.text) none 0,.int .i64 ((i:Int)+1)]) (by simp[results,Tryz.results106,go_sem,q4.c0,q4.c1,q4.c2,q4.c3];rfl) rfl ?_
  rw[E.out]
  exact⟨(Below.refl w.heap.size w).alloc (Nat.le_refl _) _,none,0,ret_pair (by rw[HR.out];omega),.nil _ _⟩
 ·go_enter Tryz.func106,Tryz.ntmps106
  go_wp2
  have q4:=R4.new w (.int .i64 3) (.string ⟨t.text.toArray⟩) (.int .i64 0) (.slice none 0 0)
  refine bodyPost_ret (v:=.tuple #[tv (tCon t.text []) none 0,.int .i64 ((i:Int)+1)]) (by simp[results,Tryz.results106,go_sem,q4.c0,q4.c1,q4.c2,q4.c3];rfl) rfl ?_
  rw[E.out]
  exact⟨(Below.refl w.heap.size w).alloc (Nat.le_refl _) _,none,0,ret_pair (by rw[HR.out];omega),.nil _ _⟩
end Go.Proofs.YtkihnodkhnahiaaGreatDoor.Tp

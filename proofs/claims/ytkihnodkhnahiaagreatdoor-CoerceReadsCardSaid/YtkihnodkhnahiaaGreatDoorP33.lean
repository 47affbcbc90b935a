/- Packed. -/
import Derived.Test.YtkihnodkhnahiaaGreatDoorP16
import Derived.Test.YtkihnodkhnahiaaGreatDoorP18
set_option maxRecDepth 100000
set_option maxHeartbeats 6400000
namespace Go.Proofs.YtkihnodkhnahiaaGreatDoor.Tp
section
open Go.RowKit
open Lx
theorem bH_ {w:World}{a:OA_}{c:Nat}{l:List Tok}(ht:aO_ w (.slice a l.length c) l){i:Nat}(hi:i<l.length) :
  ∃ b off,a=some ⟨b,off,none⟩∧w.cell? ⟨b,off+i*3,none⟩=some (.int .i64 l[i].kind)∧w.cell? ⟨b,off+i*3+1,none⟩=some (.string ⟨l[i].text.toArray⟩):=by
 obtain⟨a',c',e,hl,h0|⟨b,off,rfl,hc⟩⟩:=ht
 ·rw[h0] at hi;simp at hi
 ·injection e with e1 e2 e3
  obtain⟨h1,h2,_⟩:=hc i hi;exact⟨b,off,e1,h1,h2⟩
theorem ck_ {l:List Tok}{i:Nat}(hi:i<l.length):l.drop i=l[i] :: l.drop (i+1):=List.drop_eq_getElem_cons hi
theorem eI_ (k:Nat)(s:List UInt8)(w:World)(a:OA_)(c:Nat)(l:List Tok)(i:Nat)(ht:aO_ w (.slice a l.length c) l)(hi:i≤l.length) :
  Calls Tryz.prog 50 #[.slice a l.length c,.int .i64 i,.int .i64 (k:Int),.string ⟨s.toArray⟩] w fun e w'=>e=.returned (.bool (bf_ (l.drop i) k s))∧w=w':=by
 by_cases hlt:i<l.length
 ·obtain⟨b,off,rfl,c0,c1⟩:=bH_ ht hlt
  have HK:=hid (show bf_ (l.drop i) k s=(l[i].kind==k&&(s.isEmpty || l[i].text==s)) by rw[ck_ hlt];rfl);have z0:(0:Int)≤(i:Int):=by omega
  have z1:(i:Int)<(l.length:Int):=by omega
  clear ht;generalize l[i]=t at *
  by_cases h1:t.kind=k
  ·have e1:((t.kind:Int)==(k:Int))=true:=by rw[h1];simp
   have H1:=hid h1;clear h1
   by_cases h2:s=[]
   ·subst h2
    go_enter Tryz.func50,Tryz.ntmps50;go_wp2;go_ret;exact⟨bx_ (by rw[HK.out,H1.out];simp),rfl⟩
   ·have h3:s.isEmpty=false:=by simpa using h2
    have H3:=hid h3;clear h2;go_enter Tryz.func50,Tryz.ntmps50;go_wp2;go_ret;exact⟨bx_ (by rw[HK.out,H1.out,H3.out];simp),rfl⟩
  ·have e1:((t.kind:Int)==(k:Int))=false:=by rw[beq_eq_false_iff_ne];omega
   have H1:Hid ((t.kind==k)=false):=hid (by rw[beq_eq_false_iff_ne];exact h1);clear h1;go_enter Tryz.func50,Tryz.ntmps50;go_wp2;go_ret;exact⟨bx_ (by rw[HK.out,H1.out];rfl),rfl⟩
 ·obtain rfl:i=l.length:=by omega
  have HK:=hid (show bf_ (l.drop l.length) k s=false by rw[List.drop_length];rfl);have z1:¬ (l.length:Int)<(l.length:Int):=by omega
  clear ht hlt;generalize l.length=n at *;go_enter Tryz.func50,Tryz.ntmps50;go_wp2;go_ret;exact⟨bx_ HK.out.symm,rfl⟩
theorem jk_ (l:List UInt8)(k:Nat)(h:k<l.length):dw_ (l.take (k+1))=10*dw_ (l.take k)+(l[k].toNat - 48):=by
 rw[List.take_add_one,List.getElem?_eq_getElem h];exact jl_ _ _
theorem kT_ (l:List UInt8)(h:∀ c∈l,aA_ c=true):dw_ l<10 ^ l.length:=by
 have:∀ (l:List UInt8) (n:Nat),(∀ c∈l,aA_ c=true)→l.foldl (fun n c=>10*n+(c.toNat - 48)) n<(n+1)*10 ^ l.length:=by
  intro l
  induction l with
  | nil=>intro n _;simp
  | cons c l ih =>
   intro n h;rw[List.foldl_cons,List.length_cons];refine aX_ (ih _ fun d hd=>h d (by simp[hd])) ?_;have hc:=h c (by simp);unfold aA_ at hc;simp only[decide_eq_true_eq] at hc;rw[Nat.pow_succ,Nat.mul_comm (10 ^ l.length) 10,← Nat.mul_assoc];refine Nat.mul_le_mul_right _ ?_;omega
 have:=this l 0 h;unfold dw_;omega
theorem na_ (s:ByteArray)(w:World)(hs:s.size≤6)(hd:∀ c∈s.data.toList,aA_ c=true) :
  Calls Tryz.prog 121 #[.string s] w fun e w'=>e=.returned (.int .i64 (dw_ s.data.toList:Int))∧w=w':=by
 have hlen:s.data.toList.length=s.size:=by rw[Array.length_toList];rfl
 have HL:=hid hlen;have HD:=hid hd;clear hlen hd;go_enter Tryz.func121,Tryz.ntmps121;go_wp2
 go_loop [3,4] (fun x i=>∃ k:Nat,i=.int .i64 k∧k≤s.size∧x=.int .i64 (dw_ (s.data.toList.take k):Int)) (fun _ i=>s.size - (intOf i).toNat)
 case atStart=>exact⟨0,rfl,Nat.zero_le _,rfl⟩
 case round =>
  obtain⟨k,rfl,hk,rfl⟩:=hrel
  by_cases hlt:k<s.size
  ·have z0:(0:Int)≤(k:Int):=by omega
   have z1:(k:Int)<(s.size:Int):=(by omega);have hkl:k<s.data.toList.length:=by rw[HL.out];exact hlt
   have st:=hid (jk_ s.data.toList k hkl);have hb:=kT_ (s.data.toList.take k) (fun c hc=>HD.out c (List.mem_of_mem_take hc));have hp:10 ^ (s.data.toList.take k).length≤10 ^ 6:=Nat.pow_le_pow_right (by omega) (by rw[List.length_take];omega);have hdc:=HD.out _ (List.getElem_mem hkl);have eg:s.data.toList[k]=s[k]'hlt:=rfl;rw[eg] at st hdc;unfold aA_ at hdc;simp only[decide_eq_true_eq] at hdc;obtain⟨d1,d2⟩:=hdc;have b1:dw_ (s.data.toList.take k)<1000000:=(by omega);have ST:=hid st.out;clear st hb hp eg hkl;generalize dw_ (s.data.toList.take k)=x at *;go_wp2;go_round
   case rel=>exact⟨k+1,by go_num,by omega,by rw[ST.out];congr 1;omega⟩
   case measure=>simp[intOf];omega
  ·obtain rfl:k=s.size:=by omega
   have E:Hid (s.data.toList.take s.size=s.data.toList):=hid (by rw[← HL.out,List.take_length]);go_wp2;go_ret;exact⟨a9_ (by rw[E.out]),rfl⟩
end
section
open Lx
theorem dr_ (l:List Tok):l.tail <:+ l:=List.tail_suffix l
theorem pc_ (l:List Tok):cZ_ l <:+ l:=List.dropWhile_suffix _
theorem oQ_:∀ n:Nat,
  (∀ l x r,bT_ n l=some (x,r)→r <:+ l)∧(∀ l x r,ff_ n l=some (x,r)→r <:+ l) ∧
  (∀ l x r,cm_ n l=some (x,r)→r <:+ l)∧(∀ s acc l x r,bh_ n s acc l=some (x,r)→r <:+ l) ∧
  (∀ l x r,aU_ n l=some (x,r)→r <:+ l):=by
 intro n
 induction n with
 | zero=>exact⟨fun _ _ _ h=>by simp[bT_] at h,fun _ _ _ h=>by simp[ff_] at h,fun _ _ _ h=>by simp[cm_] at h,fun _ _ _ _ _ h=>by simp[bh_] at h,fun _ _ _ h=>by simp[aU_] at h⟩
 | succ n ih =>
  obtain⟨i1,i2,i3,i4,i5⟩:=ih;refine⟨fun l x r h=>?_,fun l x r h=>?_,fun l x r h=>?_,fun s acc l x r h=>?_,fun l x r h=>?_⟩
  ·rw[bT_] at h
   split at h
   ·exact (i2 _ _ _ h).trans (dr_ l)
   ·split at h
    ·cases h
    ·next a r' h2 =>
     have e2:=i3 _ _ _ h2
     split at h
     ·split at h
      ·cases h
      ·next b r'' h4 =>
       have e4:=i1 _ _ _ h4;simp only[Option.some.injEq,Prod.mk.injEq] at h;obtain⟨_,rfl⟩:=h;exact (e4.trans (dr_ _)).trans e2
     ·simp only[Option.some.injEq,Prod.mk.injEq] at h
      obtain⟨_,rfl⟩:=h;exact e2
  ·rw[ff_] at h
   split at h
   ·cases h
   ·split at h
    ·cases h
    ·next t r' h2 =>
     have e2:=i1 _ _ _ h2;simp only[Option.some.injEq,Prod.mk.injEq] at h;obtain⟨_,rfl⟩:=h;exact (e2.trans (dr_ _)).trans (pc_ l)
  ·rw[cm_] at h
   split at h
   ·exact (i4 _ _ _ _ _ h).trans (dr_ l)
   ·exact i5 _ _ _ h
  ·rw[bh_] at h
   split at h
   ·split at h
    ·cases h
    ·next x' r' h2=>exact (i4 _ _ _ _ _ h).trans (i5 _ _ _ h2)
   ·simp only[Option.some.injEq,Prod.mk.injEq] at h
    obtain⟨_,rfl⟩:=h;exact List.suffix_refl _
  ·rw[aU_] at h
   split at h
   ·simp only[Option.some.injEq,Prod.mk.injEq] at h
    obtain⟨_,rfl⟩:=h;exact dr_ l
   ·split at h
    ·simp only[Option.some.injEq,Prod.mk.injEq] at h
     obtain⟨_,rfl⟩:=h;exact dr_ l
    ·split at h
     ·simp only[Option.some.injEq,Prod.mk.injEq] at h
      obtain⟨_,rfl⟩:=h;exact dr_ l
     ·split at h
      ·split at h
       ·cases h
       ·next t r' h2 =>
        have e2:=i1 _ _ _ h2
        split at h
        ·simp only[Option.some.injEq,Prod.mk.injEq] at h
         obtain⟨_,rfl⟩:=h;exact ((dr_ _).trans e2).trans (dr_ l)
        ·cases h
      ·cases h
theorem cy_ {l r:List Tok}(h:r <:+ l):l.drop (l.length - r.length)=r:=by
 obtain⟨p,rfl⟩:=h;rw[List.length_append,Nat.add_sub_cancel,List.drop_left]
theorem gI_ {l r:List Tok}{i:Nat}(h:r <:+ l.drop i):r <:+ l:=h.trans (List.drop_suffix i l)
end
section
open Go.RowKit
open Lx
theorem cF_ {l:List Tok}{k:Nat}{s:List UInt8}(h:s≠[]):bf_ l k s=st l k s:=b9_ l k s h
theorem dK_ {w wx:World}{v:Value}{ts:List Ty}(p0 p1 p2 p3:Value)(_hs:w.heap.size+1≤wx.heap.size)(h:ac_ (In (w.heap.size+1) wx.heap.size) wx v ts) :
  ac_ (In w.heap.size ((((wx.setCell ⟨w.heap.size,0,none⟩ p0).setCell ⟨w.heap.size,1,none⟩ p1).setCell ⟨w.heap.size,2,none⟩ p2).setCell ⟨w.heap.size,3,none⟩ p3).heap.size) ((((wx.setCell ⟨w.heap.size,0,none⟩ p0).setCell ⟨w.heap.size,1,none⟩ p1).setCell ⟨w.heap.size,2,none⟩ p2).setCell ⟨w.heap.size,3,none⟩ p3) v ts:=by
 have k:=bJ_ wx w.heap.size p0 p1 p2 p3;refine (h.keep fun b hb=>k.off b (by have:=hb.1;omega)).mono fun b hb=>⟨by have:=hb.1;omega,by rw[k.size];exact hb.2⟩
theorem aG_ {v:Value}{a b:Int}(h:a=b):Ending.returned (.tuple #[v,.int .i64 a])=.returned (.tuple #[v,.int .i64 b]):=by rw[h]
theorem hP_ (n:Nat)(w:World)(a:OA_)(c:Nat)(l:List Tok)(i:Nat)(ht:aO_ w (.slice a l.length c) l)(hb:∀ b o,a=some ⟨b,o,none⟩→b<w.heap.size)(hl:l.length≤4000)(hi:i<l.length)
  (k:Nat) (hk:l[i].kind=k) (hk2:k=1∨k=2):Calls Tryz.prog 106 #[.slice a l.length c,.int .i64 i] w (cW_ w l.length (aU_ (n+1) (l.drop i))):=by
 obtain⟨b,off,rfl,c0',c1'⟩:=bH_ ht hi;have hbl:=hb b off rfl;have hz:=ao_ w (.cells #[.int .i64 0,.string ⟨#[]⟩,.int .i64 0,.slice none 0 0] 56);have c0:=(hz.cell (p:=⟨b,off+i*3,none⟩) hbl).trans c0';have c1:=(hz.cell (p:=⟨b,off+i*3+1,none⟩) hbl).trans c1';have z0:(0:Int)≤(i:Int):=by omega
 have z1:(i:Int)<(l.length:Int):=by omega
 have hrest:(l.drop (i+1)).length=l.length - (i+1):=List.length_drop;have E:Hid (aU_ (n+1) (l.drop i)=some (if k=1 then gG_ l[i].text else fu_ l[i].text [],l.drop (i+1))):=hid (by
  rw[ck_ hi,aU_]
  rcases hk2 with rfl|rfl
  ·rw[if_pos (cA_ _ _ 1 hk)];rfl
  ·rw[a0_ _ _ 1 (by omega),cA_ _ _ 2 hk];rfl)
 have HR:=hid hrest;clear ht hb c0' c1' hrest hz;rw[hk] at c0;generalize l[i]=t at *;clear hk
 rcases hk2 with rfl|rfl
 ·go_enter Tryz.func106,Tryz.ntmps106
  go_wp2;have q4:=R4.new w (.int .i64 1) (.string ⟨t.text.toArray⟩) (.int .i64 0) (.slice none 0 0);refine bodyPost_ret (v:=.tuple #[tv (gG_ t.text) none 0,.int .i64 ((i:Int)+1)]) (by simp[results,Tryz.results106,go_sem,q4.c0,q4.c1,q4.c2,q4.c3];rfl) rfl ?_;rw[E.out];exact⟨ao_ w _,none,0,aG_ (by rw[HR.out];omega),.nil _ _⟩
 ·go_enter Tryz.func106,Tryz.ntmps106
  go_wp2;have q4:=R4.new w (.int .i64 3) (.string ⟨t.text.toArray⟩) (.int .i64 0) (.slice none 0 0);refine bodyPost_ret (v:=.tuple #[tv (fu_ t.text []) none 0,.int .i64 ((i:Int)+1)]) (by simp[results,Tryz.results106,go_sem,q4.c0,q4.c1,q4.c2,q4.c3];rfl) rfl ?_;rw[E.out];exact⟨ao_ w _,none,0,aG_ (by rw[HR.out];omega),.nil _ _⟩
open Lx
theorem jv_ (s:List UInt8):(aa_ s).extract 1 (aa_ s).size=aa_ s.tail:=by
 apply ByteArray.ext;apply Array.toList_inj.1;rw[dW_];simp[aa_]
theorem l0_ (n:Nat)(w:World)(a:OA_)(c:Nat)(l:List Tok)(i:Nat)(ht:aO_ w (.slice a l.length c) l)(hb:∀ b o,a=some ⟨b,o,none⟩→b<w.heap.size)(hr:hl_ l)(hl:l.length≤4000)(hi:i<l.length)
  (hk:l[i].kind=5):Calls Tryz.prog 106 #[.slice a l.length c,.int .i64 i] w (cW_ w l.length (aU_ (n+1) (l.drop i))):=by
 obtain⟨b,off,rfl,c0',c1'⟩:=bH_ ht hi;have hbl:=hb b off rfl;have hz:=ao_ w (.cells #[.int .i64 0,.string ⟨#[]⟩,.int .i64 0,.slice none 0 0] 56);have c0:=(hz.cell (p:=⟨b,off+i*3,none⟩) hbl).trans c0';have c1:=(hz.cell (p:=⟨b,off+i*3+1,none⟩) hbl).trans c1';have z0:(0:Int)≤(i:Int):=by omega
 have z1:(i:Int)<(l.length:Int):=by omega
 have hrest:(l.drop (i+1)).length=l.length - (i+1):=List.length_drop;obtain⟨hlen,hne,hdg⟩:=hr.num _ (List.getElem_mem hi) hk;have E:Hid (aU_ (n+1) (l.drop i)=some (gH_ l[i].text,l.drop (i+1))):=hid (by
  rw[ck_ hi,aU_,a0_ _ _ 1 (by omega),a0_ _ _ 2 (by omega),cA_ _ _ 5 hk];rfl)
 have HR:=hid hrest;have hpos:1≤l[i].text.length:=List.length_pos_iff.2 hne;have HX:=hid (jv_ l[i].text);have CN:=hid (fun W=>na_ (aa_ l[i].text.tail) W (by rw[dz_];exact hlen) (by rw[show (aa_ l[i].text.tail).data.toList=l[i].text.tail from by simp[aa_]];exact hdg));have NL:=hid (show dw_ (aa_ l[i].text.tail).data.toList=dw_ l[i].text.tail by simp[aa_]);have hsz:=dz_ l[i].text;have hs1:1≤(aa_ l[i].text).size:=by omega
 have hbe:(⟨l[i].text.toArray⟩:ByteArray)=aa_ l[i].text:=rfl;rw[hbe] at c1;clear ht hb c0' c1' hrest hz hne hdg hlen hr hsz hbe;rw[hk] at c0;generalize l[i]=t at *;clear hk;go_enter Tryz.func106,Tryz.ntmps106;go_wp2_with fail;rw[HX.out];refine (CN.out _).mono ?_;rintro e w2 ⟨rfl,rfl⟩;rw[NL.out];go_wp2;have q4:=R4.new w (.int .i64 2) (.string ⟨#[]⟩) (.int .i64 (dw_ t.text.tail:Int)) (.slice none 0 0);refine bodyPost_ret (v:=.tuple #[tv (gH_ t.text) none 0,.int .i64 ((i:Int)+1)]) (by simp[results,Tryz.results106,go_sem,q4.c0,q4.c1,q4.c2,q4.c3];rfl) rfl ?_;rw[E.out];exact⟨ao_ w _,none,0,aG_ (by rw[HR.out];omega),.nil _ _⟩
theorem dg_ {w w':World}{n:Nat}(h:Below w.heap.size w w'):cW_ w n none (.returned (.tuple #[.agg #[.int .i64 0,.string ⟨#[]⟩,.int .i64 0,.slice none 0 0],.int .i64 (-1)])) w':=⟨h,_,_,_,_,_,_,rfl⟩
theorem nm_ (n:Nat)(w:World)(a:OA_)(c:Nat)(l:List Tok)(i:Nat)(hi:i=l.length):Calls Tryz.prog 106 #[.slice a l.length c,.int .i64 i] w (cW_ w l.length (aU_ (n+1) (l.drop i))):=by
 have E:Hid (aU_ (n+1) (l.drop i)=none):=hid (by rw[hi,List.drop_length,aU_];rfl);subst hi;generalize l.length=m at *;go_enter Tryz.func106,Tryz.ntmps106;go_wp2;have q4:=R4.new w (.int .i64 0) (.string ⟨#[]⟩) (.int .i64 0) (.slice none 0 0);refine bodyPost_ret (v:=.tuple #[.agg #[.int .i64 0,.string ⟨#[]⟩,.int .i64 0,.slice none 0 0],.int .i64 (-1)]) (by simp[results,Tryz.results106,go_sem,q4.c0,q4.c1,q4.c2,q4.c3]) rfl ?_;rw[E.out];exact dg_ (ao_ w _)
theorem nn_ (n:Nat)(w:World)(a:OA_)(c:Nat)(l:List Tok)(i:Nat)(ht:aO_ w (.slice a l.length c) l)(hb:∀ b o,a=some ⟨b,o,none⟩→b<w.heap.size)(_hl:l.length≤4000)(hi:i<l.length)
  (h1:l[i].kind≠1) (h2:l[i].kind≠2) (h5:l[i].kind≠5) (hp:l[i].text≠bX_):Calls Tryz.prog 106 #[.slice a l.length c,.int .i64 i] w (cW_ w l.length (aU_ (n+1) (l.drop i))):=by
 obtain⟨b,off,rfl,c0',c1'⟩:=bH_ ht hi;have hbl:=hb b off rfl;have hz:=ao_ w (.cells #[.int .i64 0,.string ⟨#[]⟩,.int .i64 0,.slice none 0 0] 56);have c0:=(hz.cell (p:=⟨b,off+i*3,none⟩) hbl).trans c0';have c1:=(hz.cell (p:=⟨b,off+i*3+1,none⟩) hbl).trans c1';have z0:(0:Int)≤(i:Int):=by omega
 have z1:(i:Int)<(l.length:Int):=by omega
 have E:Hid (aU_ (n+1) (l.drop i)=none):=hid (by
  rw[ck_ hi,aU_,a0_ _ _ 1 h1,a0_ _ _ 2 h2,a0_ _ _ 5 h5,hu_,beq_eq_false_iff_ne.2 hp,Bool.and_false];rfl)
 have q1:((l[i].kind:Int)==1)=false:=by rw[beq_eq_false_iff_ne];omega
 have q2:((l[i].kind:Int)==2)=false:=by rw[beq_eq_false_iff_ne];omega
 have q5:((l[i].kind:Int)==5)=false:=by rw[beq_eq_false_iff_ne];omega
 have qp:¬ (⟨l[i].text.toArray⟩:ByteArray).toList=[40]:=by rw[ByteArray.toList_eq];exact hp
 have qb:((⟨l[i].text.toArray⟩:ByteArray).toList==[40])=false:=beq_eq_false_iff_ne.2 qp;clear ht hb c0' c1' hz h1 h2 h5 hp;generalize l[i].kind=k at *;generalize (⟨l[i].text.toArray⟩:ByteArray)=tx at *;have hz':=hid (ao_ w (.cells #[.int .i64 0,.string ⟨#[]⟩,.int .i64 0,.slice none 0 0] 56));go_enter Tryz.func106,Tryz.ntmps106;go_wp2;have q4:=R4.new w (.int .i64 0) (.string ⟨#[]⟩) (.int .i64 0) (.slice none 0 0);refine bodyPost_ret (v:=.tuple #[.agg #[.int .i64 0,.string ⟨#[]⟩,.int .i64 0,.slice none 0 0],.int .i64 (-1)]) (by simp[results,Tryz.results106,go_sem,q4.c0,q4.c1,q4.c2,q4.c3]) rfl ?_;rw[E.out];exact dg_ hz'.out
theorem nl_ (n:Nat)(w:World)(a:OA_)(c:Nat)(l:List Tok)(i:Nat)(ih:iP_ n)(ht:aO_ w (.slice a l.length c) l)(hb:∀ b o,a=some ⟨b,o,none⟩→b<w.heap.size)(hr:hl_ l)(hl:l.length≤4000)(hi:i<l.length)
  (hn:4*(l.length - i)+2≤n+1) (hp:l[i].text=bX_):Calls Tryz.prog 106 #[.slice a l.length c,.int .i64 i] w (cW_ w l.length (aU_ (n+1) (l.drop i))):=by
 have hk:=hr.par _ (List.getElem_mem hi) hp;obtain⟨b,off,rfl,c0',c1'⟩:=bH_ ht hi;have hbl:=hb b off rfl;have hz:=ao_ w (.cells #[.int .i64 0,.string ⟨#[]⟩,.int .i64 0,.slice none 0 0] 56);have c0:=(hz.cell (p:=⟨b,off+i*3,none⟩) hbl).trans c0';have c1:=(hz.cell (p:=⟨b,off+i*3+1,none⟩) hbl).trans c1';rw[hk] at c0;rw[hp] at c1;have z0:(0:Int)≤(i:Int):=by omega
 have z1:(i:Int)<(l.length:Int):=by omega
 have E:Hid (aU_ (n+1) (l.drop i)=match bT_ n (l.drop (i+1)) with|none=>none|some (t,r)=>if st r 6 bB_ then some (t,r.tail) else none):=hid (by
  rw[ck_ hi,aU_,a0_ _ _ 1 (by omega),a0_ _ _ 2 (by omega),a0_ _ _ 5 (by omega),cG_ _ _ 6 bX_ hk hp];rfl)
 have cr:=(ih.typ (w.alloc (.cells #[.int .i64 0,.string ⟨#[]⟩,.int .i64 0,.slice none 0 0] 56)) (some ⟨b,off,none⟩) c l (i+1) (bw_ ht hz) (fun b' o' e=>by injection e with e;injection e with e1 e2;rw[← e1];simp;omega) hr hl (by omega) (by omega));rw[show ((i+1:Nat):Int)=(i:Int)+1 from by omega] at cr;have CR:=hid cr;clear cr;have CI:=hid (fun (W:World) (h:Below w.heap.size w W) (j:Nat) (hj:j≤l.length)=>eI_ 6 bB_ W (some ⟨b,off,none⟩) c l j (bw_ ht h) hj);have HZ:=hid hz;have b4:=hid (R4.new w (.int .i64 0) (.string ⟨#[]⟩) (.int .i64 0) (.slice none 0 0));have hll:=hl;clear ht hb c0' c1' hz hk hp hr ih hn;go_enter Tryz.func106,Tryz.ntmps106;go_wp2_with fail;refine CR.out.mono ?_;rintro e w1 ⟨hb1,hres⟩;have G1:=hid (HZ.out.trans (hb1.mono HZ.out.size));have hs1:w.heap.size+1≤w1.heap.size:=by have:=hb1.size;simpa using this
 have HS1:=hid hs1;cases hT:bT_ n (l.drop (i+1)) with
 | none =>
  rw[hT] at hres;obtain⟨k,s,m,a',c',c'',rfl⟩:=hres;have E2:Hid (aU_ (n+1) (l.drop i)=none):=hid (by rw[E.out,hT]);have hz1:=ao_ w1 (.cells #[.int .i64 k,.string s,.int .i64 m,.slice a' c' c''] 56);have k6:=(b4.out.low hb1).low hz1;obtain⟨f0,f1,f2,f3⟩:=k6.f03;obtain⟨d0,d1,d2,d3⟩:=k6.c03;have K6:=hid k6;have G2:=hid (G1.out.trans (hz1.mono G1.out.size));clear hT hb1 hz1 k6 hs1;go_wp2;have q4:=K6.out.set4 (.int .i64 0) (.string ⟨#[]⟩) (.int .i64 0) (.slice none 0 0);refine bodyPost_ret (v:=.tuple #[.agg #[.int .i64 0,.string ⟨#[]⟩,.int .i64 0,.slice none 0 0],.int .i64 (-1)]) (by simp[results,Tryz.results106,go_sem,q4.c0,q4.c1,q4.c2,q4.c3]) rfl ?_;rw[E2.out];exact dg_ (G2.out.set4 (aw_ _) _ _ _ _)
 | some x =>
  obtain⟨t,r⟩:=x;rw[hT] at hres;obtain⟨a',c',rfl,hA⟩:=hres;have hsuf:=gI_ ((oQ_ n).1 _ _ _ hT);have hrl:r.length≤l.length:=hsuf.length_le;have hz1:=ao_ w1 (.cells #[.int .i64 t.kind,.string t.name,.int .i64 t.n,.slice a' t.args.length c'] 56);have k6:=(b4.out.low hb1).low hz1;have kt:=R4.new w1 (.int .i64 t.kind) (.string t.name) (.int .i64 t.n) (.slice a' t.args.length c');obtain⟨f0,f1,f2,f3⟩:=k6.f03;obtain⟨d0,d1,d2,d3⟩:=k6.c03;obtain⟨t0,t1,t2,t3⟩:=kt.c03;have K6:=hid k6;have G2:=hid (G1.out.trans (hz1.mono G1.out.size));have HA:=hid (hA.keep fun b hb=>hz1.block b hb.2);have C2:=hid (CI.out _ G2.out (l.length - r.length) (by omega));have DS:=hid (cy_ hsuf);have zj:¬ (((l.length - r.length:Nat):Int)<0):=by omega
  have hrl2:r.length≤4000:=by omega
  cases hq:st r 6 bB_ with
  | false =>
   have E2:Hid (aU_ (n+1) (l.drop i)=none):=hid (by rw[E.out,hT];simp only;rw[hq];rfl);have SQ:Hid (bf_ (l.drop (l.length - r.length)) 6 bB_=false):=hid (by rw[DS.out,cF_ (by decide)];exact hq);clear hT hb1 hz1 k6 kt hs1 hA hsuf hq;generalize l.length - r.length=j at *;unfold tv;go_wp2_with fail;refine C2.out.mono ?_;rintro e w4 ⟨he,rfl⟩;rw[SQ.out] at he;subst he;go_wp2;have q4:=K6.out.set4 (.int .i64 0) (.string ⟨#[]⟩) (.int .i64 0) (.slice none 0 0);refine bodyPost_ret (v:=.tuple #[.agg #[.int .i64 0,.string ⟨#[]⟩,.int .i64 0,.slice none 0 0],.int .i64 (-1)]) (by simp[results,Tryz.results106,go_sem,q4.c0,q4.c1,q4.c2,q4.c3]) rfl ?_;rw[E2.out];exact dg_ (G2.out.set4 (aw_ _) _ _ _ _)
  | true =>
   have E2:Hid (aU_ (n+1) (l.drop i)=some (t,r.tail)):=hid (by rw[E.out,hT];simp only;rw[hq];rfl);have SQ:Hid (bf_ (l.drop (l.length - r.length)) 6 bB_=true):=hid (by rw[DS.out,cF_ (by decide)];exact hq);have hr1:=b8_ hq;have HJ:Hid (((l.length - r.length:Nat):Int)+1=((l.length - r.tail.length:Nat):Int)):=hid (by rw[List.length_tail];omega);clear hT hb1 hz1 k6 kt hs1 hA hsuf hq;have hjl:l.length - r.length≤4000:=(by omega);generalize l.length - r.length=j at *;unfold tv;go_wp2_with fail;refine C2.out.mono ?_;rintro e w4 ⟨he,rfl⟩;rw[SQ.out] at he;subst he;go_wp2;have q4:=K6.out.set4 (.int .i64 t.kind) (.string t.name) (.int .i64 t.n) (.slice a' t.args.length c');refine bodyPost_ret (v:=.tuple #[tv t a' c',.int .i64 ((j:Int)+1)]) (by simp[results,Tryz.results106,go_sem,tv,q4.c0,q4.c1,q4.c2,q4.c3]) rfl ?_;rw[E2.out];refine⟨G2.out.set4 (aw_ _) _ _ _ _,a',c',aG_ HJ.out,dK_ _ _ _ _ (by simp;have:=HS1.out;omega) ?_⟩;refine HA.out.mono fun b hb=>⟨by have:=hb.1;simpa using this,by have:=hb.2;simp;omega⟩
theorem no_ (n:Nat)(ih:iP_ n)(w:World)(a:OA_)(c:Nat)(l:List Tok)(i:Nat)(ht:aO_ w (.slice a l.length c) l)(hb:∀ b o,a=some ⟨b,o,none⟩→b<w.heap.size)(hr:hl_ l)(hl:l.length≤4000)(hi:i≤l.length)
  (hn:4*(l.length - i)+2≤n+1):Calls Tryz.prog 106 #[.slice a l.length c,.int .i64 i] w (cW_ w l.length (aU_ (n+1) (l.drop i))):=by
 by_cases h:i<l.length
 ·by_cases h1:l[i].kind=1
  ·exact hP_ n w a c l i ht hb hl h 1 h1 (.inl rfl)
  ·by_cases h2:l[i].kind=2
   ·exact hP_ n w a c l i ht hb hl h 2 h2 (.inr rfl)
   ·by_cases h5:l[i].kind=5
    ·exact l0_ n w a c l i ht hb hr hl h h5
    ·by_cases hp:l[i].text=bX_
     ·exact nl_ n w a c l i ih ht hb hr hl h hn hp
     ·exact nn_ n w a c l i ht hb hl h h1 h2 h5 hp
 ·exact nm_ n w a c l i (by omega)
open Lx
theorem nr_ (n:Nat)(w:World)(a:OA_)(c:Nat)(l:List Tok)(i:Nat)(ih:iP_ n)(ht:aO_ w (.slice a l.length c) l)(hb:∀ b o,a=some ⟨b,o,none⟩→b<w.heap.size)(hr:hl_ l)(hl:l.length≤4000)(hi:i≤l.length)
  (hn:4*(l.length - i)+3≤n+1) (h1:sk (l.drop i) 2=false):Calls Tryz.prog 89 #[.slice a l.length c,.int .i64 i] w (cW_ w l.length (cm_ (n+1) (l.drop i))):=by
 have hz:=ao_ w (.cells #[.int .i64 0,.string ⟨#[]⟩,.int .i64 0,.slice none 0 0] 56);have CI:=hid (eI_ 2 [] _ a c l i (bw_ ht hz) hi);have CA:=hid (ih.atom _ a c l i (bw_ ht hz) (fun b o e=>by have:=hb b o e;simp;omega) hr hl hi (by omega));have SQ:Hid (bf_ (l.drop i) 2 []=false):=hid (cI_ h1);have E:Hid (cm_ (n+1) (l.drop i)=aU_ n (l.drop i)):=hid (by rw[cm_,h1,if_neg (by simp)]);have b4:=hid (R4.new w (.int .i64 0) (.string ⟨#[]⟩) (.int .i64 0) (.slice none 0 0));have HZ:=hid hz;clear ht hb hr ih hz h1 hn;go_enter Tryz.func89,Tryz.ntmps89;go_wp2_with fail;refine CI.out.mono ?_;rintro e w1 ⟨he,rfl⟩;rw[SQ.out] at he;subst he;go_wp2_with fail;refine CA.out.mono ?_;rintro e w2 ⟨hb2,hres⟩;have k4:=b4.out.low hb2;obtain⟨c0,c1,c2,c3⟩:=k4.c03;obtain⟨f0,f1,f2,f3⟩:=k4.f03;have K4:=hid k4;have G:=hid (HZ.out.trans (hb2.mono HZ.out.size));have hs2:w.heap.size+1≤w2.heap.size:=by have:=hb2.size;simpa using this
 have HS2:=hid hs2;clear k4 hb2 hs2;cases hT:aU_ n (l.drop i) with
 | none =>
  rw[hT] at hres;obtain⟨k,s,m,a',c',c'',rfl⟩:=hres;have E2:Hid (cm_ (n+1) (l.drop i)=none):=hid (E.out.trans hT);clear hT;go_wp2;have q4:=K4.out.set4 (.int .i64 k) (.string s) (.int .i64 m) (.slice a' c' c'');refine bodyPost_ret (v:=.tuple #[.agg #[.int .i64 k,.string s,.int .i64 m,.slice a' c' c''],.int .i64 (-1)]) (by simp[results,Tryz.results89,go_sem,q4.c0,q4.c1,q4.c2,q4.c3]) rfl ?_;rw[E2.out];exact⟨G.out.set4 (aw_ _) _ _ _ _,_,_,_,_,_,_,rfl⟩
 | some x =>
  obtain⟨t,r⟩:=x;rw[hT] at hres;obtain⟨a',c',rfl,hA⟩:=hres;have E2:Hid (cm_ (n+1) (l.drop i)=some (t,r)):=hid (E.out.trans hT);have HA:=hid hA;clear hT hA;unfold tv;go_wp2;have q4:=K4.out.set4 (.int .i64 t.kind) (.string t.name) (.int .i64 t.n) (.slice a' t.args.length c');refine bodyPost_ret (v:=.tuple #[tv t a' c',.int .i64 ((l.length - r.length:Nat):Int)]) (by simp[results,Tryz.results89,go_sem,tv,q4.c0,q4.c1,q4.c2,q4.c3]) rfl ?_;rw[E2.out];refine⟨G.out.set4 (aw_ _) _ _ _ _,a',c',rfl,dK_ _ _ _ _ HS2.out (HA.out.mono fun b hb=>⟨by have:=hb.1;simpa using this,hb.2⟩)⟩
theorem mN_ {l:List Tok}(hr:hl_ l){k:Nat}(hk:k<l.length):dl_ (l.drop k)=(l[k].kind==1 || l[k].kind==5 || l[k].kind==2 || decide (l[k].text=bX_)):=by
 have hp:=hr.par _ (List.getElem_mem hk);rw[ck_ hk];unfold dl_;rw[hv_,hv_,hv_,hu_];congr 1
 by_cases h:l[k].text=bX_
 ·rw[hp h,h];rfl
 ·rw[beq_eq_false_iff_ne.2 h,decide_eq_false h,Bool.and_false]
theorem pk_ (n:Nat)(w:World)(a:OA_)(c:Nat)(l:List Tok)(i:Nat)(ih:∀ m,m≤n→iP_ m)(ht:aO_ w (.slice a l.length c) l)(hb:∀ b o,a=some ⟨b,o,none⟩→b<w.heap.size)(hr:hl_ l)(hl:l.length≤4000)(hi:i<l.length)
  (hn:4*(l.length - i)+3≤n+1) (h1:sk (l.drop i) 2=true):Calls Tryz.prog 89 #[.slice a l.length c,.int .i64 i] w (cW_ w l.length (cm_ (n+1) (l.drop i))):=by
 obtain⟨b,off,rfl,c0',c1'⟩:=bH_ ht hi;have hbl:=hb b off rfl;have hz:=ao_ w (.cells #[.int .i64 0,.string ⟨#[]⟩,.int .i64 0,.slice none 0 0] 56);have c1:=(hz.cell (p:=⟨b,off+i*3+1,none⟩) hbl).trans c1';have z0:(0:Int)≤(i:Int):=by omega
 have z1:(i:Int)<(l.length:Int):=by omega
 have CI:=hid (eI_ 2 [] _ (some ⟨b,off,none⟩) c l i (bw_ ht hz) (by omega));have SQ:Hid (bf_ (l.drop i) 2 []=true):=hid (cI_ h1);have E:Hid (cm_ (n+1) (l.drop i)=bh_ n l[i].text [] (l.drop (i+1))):=hid (by rw[cm_,if_pos h1,ck_ hi];rfl);have IH:=hid ih;have HT:=hid ht;have HR:=hid hr;have hz2:=hz.alloc hz.size (.cells #[.int .i64 3,.string (aa_ l[i].text),.int .i64 0,.slice none 0 0] 56);have KR1:=hid ((R4.new w (.int .i64 0) (.string ⟨#[]⟩) (.int .i64 0) (.slice none 0 0)).low (ao_ _ (.cells #[.int .i64 3,.string (aa_ l[i].text),.int .i64 0,.slice none 0 0] 56)));have kt1:=R4.new (w.alloc (.cells #[.int .i64 0,.string ⟨#[]⟩,.int .i64 0,.slice none 0 0] 56)) (.int .i64 3) (.string (aa_ l[i].text)) (.int .i64 0) (.slice none 0 0);rw[show (w.alloc (.cells #[.int .i64 0,.string ⟨#[]⟩,.int .i64 0,.slice none 0 0] 56)).heap.size=w.heap.size+1 from by simp] at kt1;have KT1:=hid kt1;have HZ2:=hid hz2;have hbe:(⟨l[i].text.toArray⟩:ByteArray)=aa_ l[i].text:=rfl;rw[hbe] at c1;clear ht hb c0' c1' hz hz2 kt1 h1 ih hr hbe;go_enter Tryz.func89,Tryz.ntmps89;go_wp2_with fail;refine CI.out.mono ?_;rintro e w1 ⟨he,rfl⟩;rw[SQ.out] at he;subst he;go_wp2
 go_loopw [8] (fun kv wr=>∃ (k:Nat) (acc:List Ty) (svs:List Value) (m:Nat) (u:Value),kv=.int .i64 k∧i+1≤k∧k≤l.length∧4*(l.length - k)+3≤m∧m≤n∧cm_ (n+1) (l.drop i)=bh_ m l[i].text acc (l.drop k) ∧
  R4 wr (w.heap.size+1) (.int .i64 3) (.string (aa_ l[i].text)) (.int .i64 0) u∧mC_ (w.heap.size+2) wr u acc svs∧R4 wr w.heap.size (.int .i64 0) (.string ⟨#[]⟩) (.int .i64 0) (.slice none 0 0)∧Below w.heap.size w wr∧acc.length+(l.length - k)≤4000∧w.heap.size+2≤wr.heap.size) (fun kv _=>l.length - (intOf kv).toNat)
 case atStart=>exact⟨i+1,[],[],n,_,by go_num,aw_ _,hi,by omega,aw_ _,E.out,KT1.out,mC_.nil _ _,KR1.out,HZ2.out,by simp;omega,by simp⟩
 case round =>
  clear KT1 KR1 HZ2 c1;obtain⟨k,acc,svs,m,u,rfl,hik,hkl,hm,hmn,hEQ,kt,ac,kr,gw,hal2,hsw⟩:=hrel;have KR:=hid kr;have KT:=hid kt;have AC:=hid ac;have GW:=hid gw;have EQ:=hid hEQ;have y0:(0:Int)≤(k:Int):=by omega
  obtain⟨m,rfl⟩:∃ j,m=j+1:=⟨m - 1,by omega⟩
  by_cases hlt:k<l.length
  ·have y1:(k:Int)<(l.length:Int):=by omega
   obtain⟨b2,off2,he2,d0',d1'⟩:=bH_ HT.out hlt;injection he2 with he2
   injection he2 with e1 e2
   subst e1 e2;have d0:=(gw.cell (p:=⟨b,off+k*3,none⟩) hbl).trans d0';have d1:=(gw.cell (p:=⟨b,off+k*3+1,none⟩) hbl).trans d1';have hst:=mN_ HR.out hlt;have IA:=hid ((IH.out m (by omega)).atom wr (some ⟨b,off,none⟩) c l k (bw_ HT.out gw) (fun b' o' e=>by injection e with e;injection e with e1 e2;rw[← e1];exact aX_ hbl gw.size) HR.out hl hkl (by omega));have HST:=hid hst;clear hEQ kt ac kr gw d0' d1' hst;generalize l[k]=tk at *
   by_cases h1:tk.kind=1
   ·have ST:Hid (dl_ (l.drop k)=true):=hid (by rw[HST.out,h1];rfl)
    have q1:((tk.kind:Int)==1)=true:=by rw[h1];rfl
    clear h1;go_wp2_with fail;refine IA.out.mono ?_;rintro e w4 ⟨hb4,hres⟩;have G4:=hid (GW.out.trans (hb4.mono GW.out.size));have KR4:=hid (KR.out.low hb4);have KT4:=hid (KT.out.low hb4);have hsz4:=hb4.size;cases hT:aU_ m (l.drop k) with
    | none =>
     rw[hT] at hres;obtain⟨kk,s,mm,a',c',c'',rfl⟩:=hres;have E2:Hid (cm_ (n+1) (l.drop i)=none):=hid (by rw[EQ.out,bh_,if_pos ST.out,hT]);have hz:=ao_ w4 (.cells #[.int .i64 kk,.string s,.int .i64 mm,.slice a' c' c''] 56);have k5:=KR4.out.low hz;obtain⟨c0,c1,c2,c3⟩:=k5.c03;obtain⟨f0,f1,f2,f3⟩:=k5.f03;have K5:=hid k5;have G5:=hid (G4.out.trans (hz.mono G4.out.size));clear hT k5 hz hb4;go_wp2;have q4:=K5.out.set4 (.int .i64 0) (.string ⟨#[]⟩) (.int .i64 0) (.slice none 0 0);refine bodyPost_ret (v:=.tuple #[.agg #[.int .i64 0,.string ⟨#[]⟩,.int .i64 0,.slice none 0 0],.int .i64 (-1)]) (by simp[results,Tryz.results89,go_sem,q4.c0,q4.c1,q4.c2,q4.c3]) rfl ?_;rw[E2.out];exact dg_ (G5.out.set4 (aw_ _) _ _ _ _)
    | some x =>
     obtain⟨x,r⟩:=x;rw[hT] at hres;obtain⟨a',c',rfl,hA⟩:=hres;have hsh:=(dF_ m).2.2.2.2 _ _ _ hT;rw[List.length_drop] at hsh;have hsuf:=gI_ ((oQ_ m).2.2.2.2 _ _ _ hT);have EQ2:Hid (cm_ (n+1) (l.drop i)=bh_ m l[i].text (acc++[x]) (l.drop (l.length - r.length))):=hid (by rw[EQ.out,bh_,if_pos ST.out,hT,cy_ hsuf]);have zk:¬ (((l.length - r.length:Nat):Int)<0):=(by omega);have hz:=ao_ w4 (.cells #[.int .i64 x.kind,.string x.name,.int .i64 x.n,.slice a' x.args.length c'] 56);have hz2:=hz.alloc (by simp) (.cells #[.int .i64 x.kind,.string x.name,.int .i64 x.n,.slice a' x.args.length c'] 56);have hAc:=(AC.out.keep (w':=w4) hsz4 (fun b hb hlb=>hb4.block b hlb));have hAc2:=hAc.keep hz2.size (fun b hb hlb=>hz2.block b hlb);have hx2:=hA.keep (fun b hb=>hz2.block b hb.2);have cx:=(R4.new w4 (.int .i64 x.kind) (.string x.name) (.int .i64 x.n) (.slice a' x.args.length c'));have kt5:=KT4.out.low hz;have kt6:=KT4.out.low hz2;have t3:=kt5.c3;have ct3:=kt6.c3;have ft3:=kt6.fr 3;obtain⟨x0,x1,x2,x3⟩:=cx.c03;have KT6:=hid kt6;have KR6:=hid (KR4.out.low hz2);have G6:=hid (G4.out.trans (hz2.mono G4.out.size));have A6:=hid hAc2;have X6:=hid hx2;have HVA:=hid (fun b (hb:u.ownBlock=some b)=>(AC.out.own.lt b hb).2);have hal:=AC.out.len;have HNT:Hid (u.ownBlock≠some (w.heap.size+1)):=hid fun e=>by have:=(AC.out.own.lt _ e).1;omega
     have HNR:Hid (u.ownBlock≠some (w.heap.size)):=hid fun e=>by have:=(AC.out.own.lt _ e).1;omega
     clear hT hA hAc hAc2 hx2 cx kt5 kt6 hz hz2 hb4;obtain⟨i0,hi0,hz0,hz1,hz3⟩:=info_parts le_;unfold tv;go_wp2_with (at_builtin;refine wpList_append_lies _ rfl _ _ _ rfl (w.heap.size+2) 56 i0 _ 4 56 Tryz.underlying54 hi0 hz0 hz1 hz3 rfl (by omega) u acc.length (bQ_ acc svs) rfl A6.out.own ⟨w4.heap.size+1,0,none⟩ 1 1 (dy_ x (.slice a' x.args.length c')) rfl rfl (World.news_of_block (cs:=#[.int .i64 x.kind,.string x.name,.int .i64 x.n,.slice a' x.args.length c']) (t:=56) (fr:=(0,0)) (al_ (by simp))) (by simp[dy_,Value.oneCell']) (by omega) (by unfold maxLen;omega) (by omega) (by simp;omega) (w4.heap.size+1+1) (by simp) ?_;intro gg cap w7 hown7 hgrow7 hat7 hlt7;have kt7:=KT6.out.grown hgrow7 (fun e=>HNT.out e);have c73:=kt7.c3;have f73:=kt7.fr 3;have KT7:=hid kt7;clear kt7);have hA7:=A6.out.add (v':=.slice (some ⟨gg,0,none⟩) (acc.length+1) cap) X6.out (fun b hb=>⟨by have:=hb.1;omega,by have:=hb.2;simp;omega,fun e=>by have:=HVA.out b e;have:=hb.1;omega⟩) hgrow7 hown7 (fun b hb=>by
      simp only[Value.ownBlock,Option.some.injEq] at hb;subst hb
      rcases hat7 with e|e
      ·exact .inl e
      ·right;subst e;simp)
     have hsz7:=hgrow7.size;have hw7:w4.heap.size+1+1≤w7.heap.size:=by simpa using hsz7
     have KR7:=KR6.out.grown hgrow7 (fun e=>HNR.out e);have G7:=G6.out.grown hgrow7 (by simp;omega) (fun k e=>by have:=(A6.out.own.lt k e).1;omega);have A8:=hid (hA7.keep (w':=w7.setCell ⟨w.heap.size+1,3,none⟩ (.slice (some ⟨gg,0,none⟩) (acc.length+1) cap)) (by simp) (fun b hb _=>aM_ _ _ _ _ (by simp;omega)));have K8:Hid (R4 (w7.setCell ⟨w.heap.size+1,3,none⟩ (.slice (some ⟨gg,0,none⟩) (acc.length+1) cap)) (w.heap.size+1) (.int .i64 3) (.string (aa_ l[i].text)) (.int .i64 0) (.slice (some ⟨gg,0,none⟩) (acc.length+1) cap)):=hid (by
      have:=KT7.out;unfold R4 at *;rw[ak_ this];rfl)
     have KR8:Hid (R4 (w7.setCell ⟨w.heap.size+1,3,none⟩ (.slice (some ⟨gg,0,none⟩) (acc.length+1) cap)) w.heap.size (.int .i64 0) (.string ⟨#[]⟩) (.int .i64 0) (.slice none 0 0)):=hid ((aM_ _ _ _ _ (by simp)).trans KR7);have G8:=hid (G7.setCell (p:=⟨w.heap.size+1,3,none⟩) (by simp) (.slice (some ⟨gg,0,none⟩) (acc.length+1) cap));clear hA7 hgrow7 hown7 hat7 hlt7 c73 f73 KR7 G7 hsuf;go_wp2;go_roundw
     case measure=>simp[intOf];omega
     case rel=>exact⟨l.length - r.length,acc++[x],svs++[.slice a' x.args.length c'],m,_,rfl,by omega,by omega,by omega,by omega,EQ2.out,K8.out,A8.out,KR8.out,G8.out,by rw[List.length_append];simp;omega,by simp;omega⟩
   ·have q1:((tk.kind:Int)==1)=false:=by rw[beq_eq_false_iff_ne];omega
    by_cases h5:tk.kind=5
    ·have ST:Hid (dl_ (l.drop k)=true):=hid (by rw[HST.out,h5];rfl)
     have q5:((tk.kind:Int)==5)=true:=by rw[h5];rfl
     clear h1 h5;go_wp2_with fail;refine IA.out.mono ?_;rintro e w4 ⟨hb4,hres⟩;have G4:=hid (GW.out.trans (hb4.mono GW.out.size));have KR4:=hid (KR.out.low hb4);have KT4:=hid (KT.out.low hb4);have hsz4:=hb4.size;cases hT:aU_ m (l.drop k) with
     | none =>
      rw[hT] at hres;obtain⟨kk,s,mm,a',c',c'',rfl⟩:=hres;have E2:Hid (cm_ (n+1) (l.drop i)=none):=hid (by rw[EQ.out,bh_,if_pos ST.out,hT]);have hz:=ao_ w4 (.cells #[.int .i64 kk,.string s,.int .i64 mm,.slice a' c' c''] 56);have k5:=KR4.out.low hz;obtain⟨c0,c1,c2,c3⟩:=k5.c03;obtain⟨f0,f1,f2,f3⟩:=k5.f03;have K5:=hid k5;have G5:=hid (G4.out.trans (hz.mono G4.out.size));clear hT k5 hz hb4;go_wp2;have q4:=K5.out.set4 (.int .i64 0) (.string ⟨#[]⟩) (.int .i64 0) (.slice none 0 0);refine bodyPost_ret (v:=.tuple #[.agg #[.int .i64 0,.string ⟨#[]⟩,.int .i64 0,.slice none 0 0],.int .i64 (-1)]) (by simp[results,Tryz.results89,go_sem,q4.c0,q4.c1,q4.c2,q4.c3]) rfl ?_;rw[E2.out];exact dg_ (G5.out.set4 (aw_ _) _ _ _ _)
     | some x =>
      obtain⟨x,r⟩:=x;rw[hT] at hres;obtain⟨a',c',rfl,hA⟩:=hres;have hsh:=(dF_ m).2.2.2.2 _ _ _ hT;rw[List.length_drop] at hsh;have hsuf:=gI_ ((oQ_ m).2.2.2.2 _ _ _ hT);have EQ2:Hid (cm_ (n+1) (l.drop i)=bh_ m l[i].text (acc++[x]) (l.drop (l.length - r.length))):=hid (by rw[EQ.out,bh_,if_pos ST.out,hT,cy_ hsuf]);have zk:¬ (((l.length - r.length:Nat):Int)<0):=(by omega);have hz:=ao_ w4 (.cells #[.int .i64 x.kind,.string x.name,.int .i64 x.n,.slice a' x.args.length c'] 56);have hz2:=hz.alloc (by simp) (.cells #[.int .i64 x.kind,.string x.name,.int .i64 x.n,.slice a' x.args.length c'] 56);have hAc:=(AC.out.keep (w':=w4) hsz4 (fun b hb hlb=>hb4.block b hlb));have hAc2:=hAc.keep hz2.size (fun b hb hlb=>hz2.block b hlb);have hx2:=hA.keep (fun b hb=>hz2.block b hb.2);have cx:=(R4.new w4 (.int .i64 x.kind) (.string x.name) (.int .i64 x.n) (.slice a' x.args.length c'));have kt5:=KT4.out.low hz;have kt6:=KT4.out.low hz2;have t3:=kt5.c3;have ct3:=kt6.c3;have ft3:=kt6.fr 3;obtain⟨x0,x1,x2,x3⟩:=cx.c03;have KT6:=hid kt6;have KR6:=hid (KR4.out.low hz2);have G6:=hid (G4.out.trans (hz2.mono G4.out.size));have A6:=hid hAc2;have X6:=hid hx2;have HVA:=hid (fun b (hb:u.ownBlock=some b)=>(AC.out.own.lt b hb).2);have hal:=AC.out.len;have HNT:Hid (u.ownBlock≠some (w.heap.size+1)):=hid fun e=>by have:=(AC.out.own.lt _ e).1;omega
      have HNR:Hid (u.ownBlock≠some (w.heap.size)):=hid fun e=>by have:=(AC.out.own.lt _ e).1;omega
      clear hT hA hAc hAc2 hx2 cx kt5 kt6 hz hz2 hb4;obtain⟨i0,hi0,hz0,hz1,hz3⟩:=info_parts le_;unfold tv;go_wp2_with (at_builtin;refine wpList_append_lies _ rfl _ _ _ rfl (w.heap.size+2) 56 i0 _ 4 56 Tryz.underlying54 hi0 hz0 hz1 hz3 rfl (by omega) u acc.length (bQ_ acc svs) rfl A6.out.own ⟨w4.heap.size+1,0,none⟩ 1 1 (dy_ x (.slice a' x.args.length c')) rfl rfl (World.news_of_block (cs:=#[.int .i64 x.kind,.string x.name,.int .i64 x.n,.slice a' x.args.length c']) (t:=56) (fr:=(0,0)) (al_ (by simp))) (by simp[dy_,Value.oneCell']) (by omega) (by unfold maxLen;omega) (by omega) (by simp;omega) (w4.heap.size+1+1) (by simp) ?_;intro gg cap w7 hown7 hgrow7 hat7 hlt7;have kt7:=KT6.out.grown hgrow7 (fun e=>HNT.out e);have c73:=kt7.c3;have f73:=kt7.fr 3;have KT7:=hid kt7;clear kt7);have hA7:=A6.out.add (v':=.slice (some ⟨gg,0,none⟩) (acc.length+1) cap) X6.out (fun b hb=>⟨by have:=hb.1;omega,by have:=hb.2;simp;omega,fun e=>by have:=HVA.out b e;have:=hb.1;omega⟩) hgrow7 hown7 (fun b hb=>by
       simp only[Value.ownBlock,Option.some.injEq] at hb;subst hb
       rcases hat7 with e|e
       ·exact .inl e
       ·right;subst e;simp)
      have hsz7:=hgrow7.size;have hw7:w4.heap.size+1+1≤w7.heap.size:=by simpa using hsz7
      have KR7:=KR6.out.grown hgrow7 (fun e=>HNR.out e);have G7:=G6.out.grown hgrow7 (by simp;omega) (fun k e=>by have:=(A6.out.own.lt k e).1;omega);have A8:=hid (hA7.keep (w':=w7.setCell ⟨w.heap.size+1,3,none⟩ (.slice (some ⟨gg,0,none⟩) (acc.length+1) cap)) (by simp) (fun b hb _=>aM_ _ _ _ _ (by simp;omega)));have K8:Hid (R4 (w7.setCell ⟨w.heap.size+1,3,none⟩ (.slice (some ⟨gg,0,none⟩) (acc.length+1) cap)) (w.heap.size+1) (.int .i64 3) (.string (aa_ l[i].text)) (.int .i64 0) (.slice (some ⟨gg,0,none⟩) (acc.length+1) cap)):=hid (by
       have:=KT7.out;unfold R4 at *;rw[ak_ this];rfl)
      have KR8:Hid (R4 (w7.setCell ⟨w.heap.size+1,3,none⟩ (.slice (some ⟨gg,0,none⟩) (acc.length+1) cap)) w.heap.size (.int .i64 0) (.string ⟨#[]⟩) (.int .i64 0) (.slice none 0 0)):=hid ((aM_ _ _ _ _ (by simp)).trans KR7);have G8:=hid (G7.setCell (p:=⟨w.heap.size+1,3,none⟩) (by simp) (.slice (some ⟨gg,0,none⟩) (acc.length+1) cap));clear hA7 hgrow7 hown7 hat7 hlt7 c73 f73 KR7 G7 hsuf;go_wp2;go_roundw
      case measure=>simp[intOf];omega
      case rel=>exact⟨l.length - r.length,acc++[x],svs++[.slice a' x.args.length c'],m,_,rfl,by omega,by omega,by omega,by omega,EQ2.out,K8.out,A8.out,KR8.out,G8.out,by rw[List.length_append];simp;omega,by simp;omega⟩
    ·have q5:((tk.kind:Int)==5)=false:=by rw[beq_eq_false_iff_ne];omega
     by_cases h2:tk.kind=2
     ·have ST:Hid (dl_ (l.drop k)=true):=hid (by rw[HST.out,h2];rfl)
      have q2:((tk.kind:Int)==2)=true:=by rw[h2];rfl
      clear h1 h5 h2;go_wp2_with fail;refine IA.out.mono ?_;rintro e w4 ⟨hb4,hres⟩;have G4:=hid (GW.out.trans (hb4.mono GW.out.size));have KR4:=hid (KR.out.low hb4);have KT4:=hid (KT.out.low hb4);have hsz4:=hb4.size;cases hT:aU_ m (l.drop k) with
      | none =>
       rw[hT] at hres;obtain⟨kk,s,mm,a',c',c'',rfl⟩:=hres;have E2:Hid (cm_ (n+1) (l.drop i)=none):=hid (by rw[EQ.out,bh_,if_pos ST.out,hT]);have hz:=ao_ w4 (.cells #[.int .i64 kk,.string s,.int .i64 mm,.slice a' c' c''] 56);have k5:=KR4.out.low hz;obtain⟨c0,c1,c2,c3⟩:=k5.c03;obtain⟨f0,f1,f2,f3⟩:=k5.f03;have K5:=hid k5;have G5:=hid (G4.out.trans (hz.mono G4.out.size));clear hT k5 hz hb4;go_wp2;have q4:=K5.out.set4 (.int .i64 0) (.string ⟨#[]⟩) (.int .i64 0) (.slice none 0 0);refine bodyPost_ret (v:=.tuple #[.agg #[.int .i64 0,.string ⟨#[]⟩,.int .i64 0,.slice none 0 0],.int .i64 (-1)]) (by simp[results,Tryz.results89,go_sem,q4.c0,q4.c1,q4.c2,q4.c3]) rfl ?_;rw[E2.out];exact dg_ (G5.out.set4 (aw_ _) _ _ _ _)
      | some x =>
       obtain⟨x,r⟩:=x;rw[hT] at hres;obtain⟨a',c',rfl,hA⟩:=hres;have hsh:=(dF_ m).2.2.2.2 _ _ _ hT;rw[List.length_drop] at hsh;have hsuf:=gI_ ((oQ_ m).2.2.2.2 _ _ _ hT);have EQ2:Hid (cm_ (n+1) (l.drop i)=bh_ m l[i].text (acc++[x]) (l.drop (l.length - r.length))):=hid (by rw[EQ.out,bh_,if_pos ST.out,hT,cy_ hsuf]);have zk:¬ (((l.length - r.length:Nat):Int)<0):=(by omega);have hz:=ao_ w4 (.cells #[.int .i64 x.kind,.string x.name,.int .i64 x.n,.slice a' x.args.length c'] 56);have hz2:=hz.alloc (by simp) (.cells #[.int .i64 x.kind,.string x.name,.int .i64 x.n,.slice a' x.args.length c'] 56);have hAc:=(AC.out.keep (w':=w4) hsz4 (fun b hb hlb=>hb4.block b hlb));have hAc2:=hAc.keep hz2.size (fun b hb hlb=>hz2.block b hlb);have hx2:=hA.keep (fun b hb=>hz2.block b hb.2);have cx:=(R4.new w4 (.int .i64 x.kind) (.string x.name) (.int .i64 x.n) (.slice a' x.args.length c'));have kt5:=KT4.out.low hz;have kt6:=KT4.out.low hz2;have t3:=kt5.c3;have ct3:=kt6.c3;have ft3:=kt6.fr 3;obtain⟨x0,x1,x2,x3⟩:=cx.c03;have KT6:=hid kt6;have KR6:=hid (KR4.out.low hz2);have G6:=hid (G4.out.trans (hz2.mono G4.out.size));have A6:=hid hAc2;have X6:=hid hx2;have HVA:=hid (fun b (hb:u.ownBlock=some b)=>(AC.out.own.lt b hb).2);have hal:=AC.out.len;have HNT:Hid (u.ownBlock≠some (w.heap.size+1)):=hid fun e=>by have:=(AC.out.own.lt _ e).1;omega
       have HNR:Hid (u.ownBlock≠some (w.heap.size)):=hid fun e=>by have:=(AC.out.own.lt _ e).1;omega
       clear hT hA hAc hAc2 hx2 cx kt5 kt6 hz hz2 hb4;obtain⟨i0,hi0,hz0,hz1,hz3⟩:=info_parts le_;unfold tv;go_wp2_with (at_builtin;refine wpList_append_lies _ rfl _ _ _ rfl (w.heap.size+2) 56 i0 _ 4 56 Tryz.underlying54 hi0 hz0 hz1 hz3 rfl (by omega) u acc.length (bQ_ acc svs) rfl A6.out.own ⟨w4.heap.size+1,0,none⟩ 1 1 (dy_ x (.slice a' x.args.length c')) rfl rfl (World.news_of_block (cs:=#[.int .i64 x.kind,.string x.name,.int .i64 x.n,.slice a' x.args.length c']) (t:=56) (fr:=(0,0)) (al_ (by simp))) (by simp[dy_,Value.oneCell']) (by omega) (by unfold maxLen;omega) (by omega) (by simp;omega) (w4.heap.size+1+1) (by simp) ?_;intro gg cap w7 hown7 hgrow7 hat7 hlt7;have kt7:=KT6.out.grown hgrow7 (fun e=>HNT.out e);have c73:=kt7.c3;have f73:=kt7.fr 3;have KT7:=hid kt7;clear kt7);have hA7:=A6.out.add (v':=.slice (some ⟨gg,0,none⟩) (acc.length+1) cap) X6.out (fun b hb=>⟨by have:=hb.1;omega,by have:=hb.2;simp;omega,fun e=>by have:=HVA.out b e;have:=hb.1;omega⟩) hgrow7 hown7 (fun b hb=>by
        simp only[Value.ownBlock,Option.some.injEq] at hb;subst hb
        rcases hat7 with e|e
        ·exact .inl e
        ·right;subst e;simp)
       have hsz7:=hgrow7.size;have hw7:w4.heap.size+1+1≤w7.heap.size:=by simpa using hsz7
       have KR7:=KR6.out.grown hgrow7 (fun e=>HNR.out e);have G7:=G6.out.grown hgrow7 (by simp;omega) (fun k e=>by have:=(A6.out.own.lt k e).1;omega);have A8:=hid (hA7.keep (w':=w7.setCell ⟨w.heap.size+1,3,none⟩ (.slice (some ⟨gg,0,none⟩) (acc.length+1) cap)) (by simp) (fun b hb _=>aM_ _ _ _ _ (by simp;omega)));have K8:Hid (R4 (w7.setCell ⟨w.heap.size+1,3,none⟩ (.slice (some ⟨gg,0,none⟩) (acc.length+1) cap)) (w.heap.size+1) (.int .i64 3) (.string (aa_ l[i].text)) (.int .i64 0) (.slice (some ⟨gg,0,none⟩) (acc.length+1) cap)):=hid (by
        have:=KT7.out;unfold R4 at *;rw[ak_ this];rfl)
       have KR8:Hid (R4 (w7.setCell ⟨w.heap.size+1,3,none⟩ (.slice (some ⟨gg,0,none⟩) (acc.length+1) cap)) w.heap.size (.int .i64 0) (.string ⟨#[]⟩) (.int .i64 0) (.slice none 0 0)):=hid ((aM_ _ _ _ _ (by simp)).trans KR7);have G8:=hid (G7.setCell (p:=⟨w.heap.size+1,3,none⟩) (by simp) (.slice (some ⟨gg,0,none⟩) (acc.length+1) cap));clear hA7 hgrow7 hown7 hat7 hlt7 c73 f73 KR7 G7 hsuf;go_wp2;go_roundw
       case measure=>simp[intOf];omega
       case rel=>exact⟨l.length - r.length,acc++[x],svs++[.slice a' x.args.length c'],m,_,rfl,by omega,by omega,by omega,by omega,EQ2.out,K8.out,A8.out,KR8.out,G8.out,by rw[List.length_append];simp;omega,by simp;omega⟩
     ·have q2:((tk.kind:Int)==2)=false:=by rw[beq_eq_false_iff_ne];omega
      by_cases hp:tk.text=bX_
      ·have ST:Hid (dl_ (l.drop k)=true):=hid (by rw[HST.out,decide_eq_true hp,Bool.or_true])
       have qp:(⟨tk.text.toArray⟩:ByteArray).toList=[40]:=by rw[ByteArray.toList_eq];exact hp
       have qb:((⟨tk.text.toArray⟩:ByteArray).toList==[40])=true:=beq_iff_eq.2 qp;generalize (⟨tk.text.toArray⟩:ByteArray)=tx at *;clear h1 h5 h2 hp;go_wp2_with fail;refine IA.out.mono ?_;rintro e w4 ⟨hb4,hres⟩;have G4:=hid (GW.out.trans (hb4.mono GW.out.size));have KR4:=hid (KR.out.low hb4);have KT4:=hid (KT.out.low hb4);have hsz4:=hb4.size;cases hT:aU_ m (l.drop k) with
       | none =>
        rw[hT] at hres;obtain⟨kk,s,mm,a',c',c'',rfl⟩:=hres;have E2:Hid (cm_ (n+1) (l.drop i)=none):=hid (by rw[EQ.out,bh_,if_pos ST.out,hT]);have hz:=ao_ w4 (.cells #[.int .i64 kk,.string s,.int .i64 mm,.slice a' c' c''] 56);have k5:=KR4.out.low hz;obtain⟨c0,c1,c2,c3⟩:=k5.c03;obtain⟨f0,f1,f2,f3⟩:=k5.f03;have K5:=hid k5;have G5:=hid (G4.out.trans (hz.mono G4.out.size));clear hT k5 hz hb4;go_wp2;have q4:=K5.out.set4 (.int .i64 0) (.string ⟨#[]⟩) (.int .i64 0) (.slice none 0 0);refine bodyPost_ret (v:=.tuple #[.agg #[.int .i64 0,.string ⟨#[]⟩,.int .i64 0,.slice none 0 0],.int .i64 (-1)]) (by simp[results,Tryz.results89,go_sem,q4.c0,q4.c1,q4.c2,q4.c3]) rfl ?_;rw[E2.out];exact dg_ (G5.out.set4 (aw_ _) _ _ _ _)
       | some x =>
        obtain⟨x,r⟩:=x;rw[hT] at hres;obtain⟨a',c',rfl,hA⟩:=hres;have hsh:=(dF_ m).2.2.2.2 _ _ _ hT;rw[List.length_drop] at hsh;have hsuf:=gI_ ((oQ_ m).2.2.2.2 _ _ _ hT);have EQ2:Hid (cm_ (n+1) (l.drop i)=bh_ m l[i].text (acc++[x]) (l.drop (l.length - r.length))):=hid (by rw[EQ.out,bh_,if_pos ST.out,hT,cy_ hsuf]);have zk:¬ (((l.length - r.length:Nat):Int)<0):=(by omega);have hz:=ao_ w4 (.cells #[.int .i64 x.kind,.string x.name,.int .i64 x.n,.slice a' x.args.length c'] 56);have hz2:=hz.alloc (by simp) (.cells #[.int .i64 x.kind,.string x.name,.int .i64 x.n,.slice a' x.args.length c'] 56);have hAc:=(AC.out.keep (w':=w4) hsz4 (fun b hb hlb=>hb4.block b hlb));have hAc2:=hAc.keep hz2.size (fun b hb hlb=>hz2.block b hlb);have hx2:=hA.keep (fun b hb=>hz2.block b hb.2);have cx:=(R4.new w4 (.int .i64 x.kind) (.string x.name) (.int .i64 x.n) (.slice a' x.args.length c'));have kt5:=KT4.out.low hz;have kt6:=KT4.out.low hz2;have t3:=kt5.c3;have ct3:=kt6.c3;have ft3:=kt6.fr 3;obtain⟨x0,x1,x2,x3⟩:=cx.c03;have KT6:=hid kt6;have KR6:=hid (KR4.out.low hz2);have G6:=hid (G4.out.trans (hz2.mono G4.out.size));have A6:=hid hAc2;have X6:=hid hx2;have HVA:=hid (fun b (hb:u.ownBlock=some b)=>(AC.out.own.lt b hb).2);have hal:=AC.out.len;have HNT:Hid (u.ownBlock≠some (w.heap.size+1)):=hid fun e=>by have:=(AC.out.own.lt _ e).1;omega
        have HNR:Hid (u.ownBlock≠some (w.heap.size)):=hid fun e=>by have:=(AC.out.own.lt _ e).1;omega
        clear hT hA hAc hAc2 hx2 cx kt5 kt6 hz hz2 hb4;obtain⟨i0,hi0,hz0,hz1,hz3⟩:=info_parts le_;unfold tv;go_wp2_with (at_builtin;refine wpList_append_lies _ rfl _ _ _ rfl (w.heap.size+2) 56 i0 _ 4 56 Tryz.underlying54 hi0 hz0 hz1 hz3 rfl (by omega) u acc.length (bQ_ acc svs) rfl A6.out.own ⟨w4.heap.size+1,0,none⟩ 1 1 (dy_ x (.slice a' x.args.length c')) rfl rfl (World.news_of_block (cs:=#[.int .i64 x.kind,.string x.name,.int .i64 x.n,.slice a' x.args.length c']) (t:=56) (fr:=(0,0)) (al_ (by simp))) (by simp[dy_,Value.oneCell']) (by omega) (by unfold maxLen;omega) (by omega) (by simp;omega) (w4.heap.size+1+1) (by simp) ?_;intro gg cap w7 hown7 hgrow7 hat7 hlt7;have kt7:=KT6.out.grown hgrow7 (fun e=>HNT.out e);have c73:=kt7.c3;have f73:=kt7.fr 3;have KT7:=hid kt7;clear kt7);have hA7:=A6.out.add (v':=.slice (some ⟨gg,0,none⟩) (acc.length+1) cap) X6.out (fun b hb=>⟨by have:=hb.1;omega,by have:=hb.2;simp;omega,fun e=>by have:=HVA.out b e;have:=hb.1;omega⟩) hgrow7 hown7 (fun b hb=>by
         simp only[Value.ownBlock,Option.some.injEq] at hb;subst hb
         rcases hat7 with e|e
         ·exact .inl e
         ·right;subst e;simp)
        have hsz7:=hgrow7.size;have hw7:w4.heap.size+1+1≤w7.heap.size:=by simpa using hsz7
        have KR7:=KR6.out.grown hgrow7 (fun e=>HNR.out e);have G7:=G6.out.grown hgrow7 (by simp;omega) (fun k e=>by have:=(A6.out.own.lt k e).1;omega);have A8:=hid (hA7.keep (w':=w7.setCell ⟨w.heap.size+1,3,none⟩ (.slice (some ⟨gg,0,none⟩) (acc.length+1) cap)) (by simp) (fun b hb _=>aM_ _ _ _ _ (by simp;omega)));have K8:Hid (R4 (w7.setCell ⟨w.heap.size+1,3,none⟩ (.slice (some ⟨gg,0,none⟩) (acc.length+1) cap)) (w.heap.size+1) (.int .i64 3) (.string (aa_ l[i].text)) (.int .i64 0) (.slice (some ⟨gg,0,none⟩) (acc.length+1) cap)):=hid (by
         have:=KT7.out;unfold R4 at *;rw[ak_ this];rfl)
        have KR8:Hid (R4 (w7.setCell ⟨w.heap.size+1,3,none⟩ (.slice (some ⟨gg,0,none⟩) (acc.length+1) cap)) w.heap.size (.int .i64 0) (.string ⟨#[]⟩) (.int .i64 0) (.slice none 0 0)):=hid ((aM_ _ _ _ _ (by simp)).trans KR7);have G8:=hid (G7.setCell (p:=⟨w.heap.size+1,3,none⟩) (by simp) (.slice (some ⟨gg,0,none⟩) (acc.length+1) cap));clear hA7 hgrow7 hown7 hat7 hlt7 c73 f73 KR7 G7 hsuf;go_wp2;go_roundw
        case measure=>simp[intOf];omega
        case rel=>exact⟨l.length - r.length,acc++[x],svs++[.slice a' x.args.length c'],m,_,rfl,by omega,by omega,by omega,by omega,EQ2.out,K8.out,A8.out,KR8.out,G8.out,by rw[List.length_append];simp;omega,by simp;omega⟩
      ·have ST:Hid (dl_ (l.drop k)=false):=hid (by rw[HST.out,decide_eq_false hp,beq_eq_false_iff_ne.2 h1,beq_eq_false_iff_ne.2 h5,beq_eq_false_iff_ne.2 h2];rfl)
       have qp:¬ (⟨tk.text.toArray⟩:ByteArray).toList=[40]:=by rw[ByteArray.toList_eq];exact hp
       have qb:((⟨tk.text.toArray⟩:ByteArray).toList==[40])=false:=beq_eq_false_iff_ne.2 qp;generalize (⟨tk.text.toArray⟩:ByteArray)=tx at *;have E2:Hid (cm_ (n+1) (l.drop i)=some (fu_ l[i].text acc,l.drop k)):=hid (by rw[EQ.out,bh_,ST.out,if_neg (by simp)]);have LD:Hid ((l.drop k).length=l.length - k):=hid List.length_drop;obtain⟨ua,uc,rfl⟩:=a2_ AC.out.own;obtain⟨t0,t1,t2,t3⟩:=KT.out.c03;obtain⟨r0,r1,r2,r3⟩:=KR.out.c03;obtain⟨f0,f1,f2,f3⟩:=KR.out.f03;clear h1 h5 h2 hp;go_wp2;have q4:=KR.out.set4 (.int .i64 3) (.string (aa_ l[i].text)) (.int .i64 0) (.slice ua acc.length uc);refine bodyPost_ret (v:=.tuple #[tv (fu_ l[i].text acc) ua uc,.int .i64 (k:Int)]) (by simp[results,Tryz.results89,go_sem,q4.c0,q4.c1,q4.c2,q4.c3];rfl) rfl ?_;rw[E2.out];exact⟨GW.out.set4 (aw_ _) _ _ _ _,ua,uc,aG_ (by rw[LD.out];omega),dK_ _ _ _ _ (by omega) ((AC.out.args (by omega)).mono fun b hb=>⟨by have:=hb.1;omega,hb.2⟩)⟩
  ·have E2:Hid (cm_ (n+1) (l.drop i)=some (fu_ l[i].text acc,l.drop k)):=hid (by rw[EQ.out,bh_,show dl_ (l.drop k)=false from by rw[show k=l.length by omega,List.drop_length];rfl,if_neg (by simp)])
   have LD:Hid ((l.drop k).length=l.length - k):=hid List.length_drop;have y1:¬ (k:Int)<(l.length:Int):=(by omega);obtain⟨ua,uc,rfl⟩:=a2_ AC.out.own;obtain⟨t0,t1,t2,t3⟩:=KT.out.c03;obtain⟨r0,r1,r2,r3⟩:=KR.out.c03;obtain⟨f0,f1,f2,f3⟩:=KR.out.f03;clear hEQ kt ac kr gw;go_wp2;have q4:=KR.out.set4 (.int .i64 3) (.string (aa_ l[i].text)) (.int .i64 0) (.slice ua acc.length uc);refine bodyPost_ret (v:=.tuple #[tv (fu_ l[i].text acc) ua uc,.int .i64 (k:Int)]) (by simp[results,Tryz.results89,go_sem,q4.c0,q4.c1,q4.c2,q4.c3];rfl) rfl ?_;rw[E2.out];exact⟨GW.out.set4 (aw_ _) _ _ _ _,ua,uc,aG_ (by rw[LD.out];omega),dK_ _ _ _ _ (by omega) ((AC.out.args (by omega)).mono fun b hb=>⟨by have:=hb.1;omega,hb.2⟩)⟩
theorem pl_ (n:Nat)(ih:∀ m,m≤n→iP_ m)(w:World)(a:OA_)(c:Nat)(l:List Tok)(i:Nat)(ht:aO_ w (.slice a l.length c) l)(hb:∀ b o,a=some ⟨b,o,none⟩→b<w.heap.size)(hr:hl_ l)(hl:l.length≤4000)(hi:i≤l.length)
  (hn:4*(l.length - i)+3≤n+1):Calls Tryz.prog 89 #[.slice a l.length c,.int .i64 i] w (cW_ w l.length (cm_ (n+1) (l.drop i))):=by
 cases h1:sk (l.drop i) 2 with
 | false=>exact nr_ n w a c l i (ih n (aw_ _)) ht hb hr hl hi hn h1
 | true =>
  have:=ci_ h1;rw[List.length_drop] at this;exact pk_ n w a c l i ih ht hb hr hl (by omega) hn h1
end
end Go.Proofs.YtkihnodkhnahiaaGreatDoor.Tp

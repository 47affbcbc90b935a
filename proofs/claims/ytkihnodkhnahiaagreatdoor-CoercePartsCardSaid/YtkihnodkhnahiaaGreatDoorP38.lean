/- Texts laid together: RfAtomB, RfApp. -/
import Derived.Test.YtkihnodkhnahiaaGreatDoorP37
import Derived.Test.YtkihnodkhnahiaaGreatDoorP03
import Derived.Test.YtkihnodkhnahiaaGreatDoorP15
import Derived.Test.YtkihnodkhnahiaaGreatDoorP04

namespace Go.Proofs.YtkihnodkhnahiaaGreatDoor.Tp
open Go.RowKit
open Lx
theorem extract_tail (s:List UInt8):(bytes s).extract 1 (bytes s).size=bytes s.tail:=by
 apply ByteArray.ext
 apply Array.toList_inj.1
 rw[extract_rest]
 simp[bytes]
set_option maxHeartbeats 1600000 in
theorem ratom_meta (n:Nat)(w:World)(a:Option Addr)(c:Nat)(l:List Tok)(i:Nat)(ht:ToksAt w (.slice a l.length c) l)(hb:∀ b o,a=some ⟨b,o,none⟩→b<w.heap.size)(hr:TokR l)(hl:l.length≤4000)(hi:i<l.length)
  (hk:l[i].kind=5):Calls Tryz.prog 106 #[.slice a l.length c,.int .i64 i] w (RrPost w l.length (atomF (n+1) (l.drop i))):=by
 obtain⟨b,off,rfl,c0',c1'⟩:=toks_ix ht hi
 have hbl:=hb b off rfl
 have hz:=(Below.refl w.heap.size w).alloc (Nat.le_refl _) (.cells #[.int .i64 0,.string ⟨#[]⟩,.int .i64 0,.slice none 0 0] 56)
 have c0:=(hz.cell (p:=⟨b,off+i*3,none⟩) hbl).trans c0'
 have c1:=(hz.cell (p:=⟨b,off+i*3+1,none⟩) hbl).trans c1'
 have z0:(0:Int)≤(i:Int):=by omega
 have z1:(i:Int)<(l.length:Int):=by omega
 have hrest:(l.drop (i+1)).length=l.length - (i+1):=List.length_drop
 obtain⟨hlen,hne,hdg⟩:=hr.num _ (List.getElem_mem hi) hk
 have E:Hid (atomF (n+1) (l.drop i)=some (tMeta l[i].text,l.drop (i+1))):=hid (by
  rw[drop_ix hi,atomF,sk_cons_ne _ _ 1 (by omega),sk_cons_ne _ _ 2 (by omega),sk_cons _ _ 5 hk];rfl)
 have HR:=hid hrest
 have hpos:1≤l[i].text.length:=List.length_pos_iff.2 hne
 have HX:=hid (extract_tail l[i].text)
 have CN:=hid (fun W=>rfnum_any (bytes l[i].text.tail) W (by rw[size_bytes];exact hlen) (by rw[show (bytes l[i].text.tail).data.toList=l[i].text.tail from by simp[bytes]];exact hdg))
 have NL:=hid (show numL (bytes l[i].text.tail).data.toList=numL l[i].text.tail by simp[bytes])
 have hsz:=size_bytes l[i].text
 have hs1:1≤(bytes l[i].text).size:=by omega
 have hbe:(⟨l[i].text.toArray⟩:ByteArray)=bytes l[i].text:=rfl
 rw[hbe] at c1
 clear ht hb c0' c1' hrest hz hne hdg hlen hr hsz hbe
 rw[hk] at c0
 generalize l[i]=t at *
 clear hk
 go_enter Tryz.func106,Tryz.ntmps106
 go_wp2_with fail
 rw[HX.out]
 refine (CN.out _).mono ?_
 rintro e w2 ⟨rfl,rfl⟩
 rw[NL.out]
 go_wp2
 have q4:=R4.new w (.int .i64 2) (.string ⟨#[]⟩) (.int .i64 (numL t.text.tail:Int)) (.slice none 0 0)
 refine bodyPost_ret (v:=.tuple #[tv (tMeta t.text) none 0,.int .i64 ((i:Int)+1)]) (by simp[results,Tryz.results106,go_sem,q4.c0,q4.c1,q4.c2,q4.c3];rfl) rfl ?_
 rw[E.out]
 exact⟨(Below.refl w.heap.size w).alloc (Nat.le_refl _) _,none,0,ret_pair (by rw[HR.out];omega),.nil _ _⟩
theorem rz_none {w w':World}{n:Nat}(h:Below w.heap.size w w'):RrPost w n none (.returned (.tuple #[.agg #[.int .i64 0,.string ⟨#[]⟩,.int .i64 0,.slice none 0 0],.int .i64 (-1)])) w':=⟨h,_,_,_,_,_,_,rfl⟩
set_option maxHeartbeats 1600000 in
theorem ratom_end (n:Nat)(w:World)(a:Option Addr)(c:Nat)(l:List Tok)(i:Nat)(hi:i=l.length):Calls Tryz.prog 106 #[.slice a l.length c,.int .i64 i] w (RrPost w l.length (atomF (n+1) (l.drop i))):=by
 have E:Hid (atomF (n+1) (l.drop i)=none):=hid (by rw[hi,List.drop_length,atomF];rfl)
 subst hi
 generalize l.length=m at *
 go_enter Tryz.func106,Tryz.ntmps106
 go_wp2
 have q4:=R4.new w (.int .i64 0) (.string ⟨#[]⟩) (.int .i64 0) (.slice none 0 0)
 refine bodyPost_ret (v:=.tuple #[.agg #[.int .i64 0,.string ⟨#[]⟩,.int .i64 0,.slice none 0 0],.int .i64 (-1)]) (by simp[results,Tryz.results106,go_sem,q4.c0,q4.c1,q4.c2,q4.c3]) rfl ?_
 rw[E.out]
 exact rz_none ((Below.refl w.heap.size w).alloc (Nat.le_refl _) _)
set_option maxHeartbeats 1600000 in
theorem ratom_bad (n:Nat)(w:World)(a:Option Addr)(c:Nat)(l:List Tok)(i:Nat)(ht:ToksAt w (.slice a l.length c) l)(hb:∀ b o,a=some ⟨b,o,none⟩→b<w.heap.size)(_hl:l.length≤4000)(hi:i<l.length)
  (h1:l[i].kind≠1) (h2:l[i].kind≠2) (h5:l[i].kind≠5) (hp:l[i].text≠lpar):Calls Tryz.prog 106 #[.slice a l.length c,.int .i64 i] w (RrPost w l.length (atomF (n+1) (l.drop i))):=by
 obtain⟨b,off,rfl,c0',c1'⟩:=toks_ix ht hi
 have hbl:=hb b off rfl
 have hz:=(Below.refl w.heap.size w).alloc (Nat.le_refl _) (.cells #[.int .i64 0,.string ⟨#[]⟩,.int .i64 0,.slice none 0 0] 56)
 have c0:=(hz.cell (p:=⟨b,off+i*3,none⟩) hbl).trans c0'
 have c1:=(hz.cell (p:=⟨b,off+i*3+1,none⟩) hbl).trans c1'
 have z0:(0:Int)≤(i:Int):=by omega
 have z1:(i:Int)<(l.length:Int):=by omega
 have E:Hid (atomF (n+1) (l.drop i)=none):=hid (by
  rw[drop_ix hi,atomF,sk_cons_ne _ _ 1 h1,sk_cons_ne _ _ 2 h2,sk_cons_ne _ _ 5 h5,st_eq,beq_eq_false_iff_ne.2 hp,Bool.and_false];rfl)
 have q1:((l[i].kind:Int)==1)=false:=by rw[beq_eq_false_iff_ne];omega
 have q2:((l[i].kind:Int)==2)=false:=by rw[beq_eq_false_iff_ne];omega
 have q5:((l[i].kind:Int)==5)=false:=by rw[beq_eq_false_iff_ne];omega
 have qp:¬ (⟨l[i].text.toArray⟩:ByteArray).toList=[40]:=by rw[ByteArray.toList_eq];exact hp
 have qb:((⟨l[i].text.toArray⟩:ByteArray).toList==[40])=false:=beq_eq_false_iff_ne.2 qp
 clear ht hb c0' c1' hz h1 h2 h5 hp
 generalize l[i].kind=k at *
 generalize (⟨l[i].text.toArray⟩:ByteArray)=tx at *
 have hz':=hid ((Below.refl w.heap.size w).alloc (Nat.le_refl _) (.cells #[.int .i64 0,.string ⟨#[]⟩,.int .i64 0,.slice none 0 0] 56))
 go_enter Tryz.func106,Tryz.ntmps106
 go_wp2
 have q4:=R4.new w (.int .i64 0) (.string ⟨#[]⟩) (.int .i64 0) (.slice none 0 0)
 refine bodyPost_ret (v:=.tuple #[.agg #[.int .i64 0,.string ⟨#[]⟩,.int .i64 0,.slice none 0 0],.int .i64 (-1)]) (by simp[results,Tryz.results106,go_sem,q4.c0,q4.c1,q4.c2,q4.c3]) rfl ?_
 rw[E.out]
 exact rz_none hz'.out
set_option maxHeartbeats 3200000 in
theorem ratom_par (n:Nat)(w:World)(a:Option Addr)(c:Nat)(l:List Tok)(i:Nat)(ih:RSaid n)(ht:ToksAt w (.slice a l.length c) l)(hb:∀ b o,a=some ⟨b,o,none⟩→b<w.heap.size)(hr:TokR l)(hl:l.length≤4000)(hi:i<l.length)
  (hn:4*(l.length - i)+2≤n+1) (hp:l[i].text=lpar):Calls Tryz.prog 106 #[.slice a l.length c,.int .i64 i] w (RrPost w l.length (atomF (n+1) (l.drop i))):=by
 have hk:=hr.par _ (List.getElem_mem hi) hp
 obtain⟨b,off,rfl,c0',c1'⟩:=toks_ix ht hi
 have hbl:=hb b off rfl
 have hz:=(Below.refl w.heap.size w).alloc (Nat.le_refl _) (.cells #[.int .i64 0,.string ⟨#[]⟩,.int .i64 0,.slice none 0 0] 56)
 have c0:=(hz.cell (p:=⟨b,off+i*3,none⟩) hbl).trans c0'
 have c1:=(hz.cell (p:=⟨b,off+i*3+1,none⟩) hbl).trans c1'
 rw[hk] at c0
 rw[hp] at c1
 have z0:(0:Int)≤(i:Int):=by omega
 have z1:(i:Int)<(l.length:Int):=by omega
 have E:Hid (atomF (n+1) (l.drop i)=match typF n (l.drop (i+1)) with|none=>none|some (t,r)=>if st r 6 rpar then some (t,r.tail) else none):=hid (by
  rw[drop_ix hi,atomF,sk_cons_ne _ _ 1 (by omega),sk_cons_ne _ _ 2 (by omega),sk_cons_ne _ _ 5 (by omega),st_cons _ _ 6 lpar hk hp];rfl)
 have cr:=(ih.typ (w.alloc (.cells #[.int .i64 0,.string ⟨#[]⟩,.int .i64 0,.slice none 0 0] 56)) (some ⟨b,off,none⟩) c l (i+1) (toks_low ht hz) (fun b' o' e=>by injection e with e;injection e with e1 e2;rw[← e1];simp;omega) hr hl (by omega) (by omega))
 rw[show ((i+1:Nat):Int)=(i:Int)+1 from by omega] at cr
 have CR:=hid cr
 clear cr
 have CI:=hid (fun (W:World) (h:Below w.heap.size w W) (j:Nat) (hj:j≤l.length)=>is_any 6 rpar W (some ⟨b,off,none⟩) c l j (toks_low ht h) hj)
 have HZ:=hid hz
 have b4:=hid (R4.new w (.int .i64 0) (.string ⟨#[]⟩) (.int .i64 0) (.slice none 0 0))
 have hll:=hl
 clear ht hb c0' c1' hz hk hp hr ih hn
 go_enter Tryz.func106,Tryz.ntmps106
 go_wp2_with fail
 refine CR.out.mono ?_
 rintro e w1 ⟨hb1,hres⟩
 have G1:=hid (HZ.out.trans (hb1.mono HZ.out.size))
 have hs1:w.heap.size+1≤w1.heap.size:=by have:=hb1.size;simpa using this
 have HS1:=hid hs1
 cases hT:typF n (l.drop (i+1)) with
 | none =>
  rw[hT] at hres
  obtain⟨k,s,m,a',c',c'',rfl⟩:=hres
  have E2:Hid (atomF (n+1) (l.drop i)=none):=hid (by rw[E.out,hT])
  have hz1:=(Below.refl w1.heap.size w1).alloc (Nat.le_refl _) (.cells #[.int .i64 k,.string s,.int .i64 m,.slice a' c' c''] 56)
  have k6:=(b4.out.low hb1).low hz1
  have f0:=k6.fr 0
  have f1:=k6.fr 1
  have f2:=k6.fr 2
  have f3:=k6.fr 3
  have d0:=k6.c0
  have d1:=k6.c1
  have d2:=k6.c2
  have d3:=k6.c3
  have K6:=hid k6
  have G2:=hid (G1.out.trans (hz1.mono G1.out.size))
  clear hT hb1 hz1 k6 hs1
  go_wp2
  have q4:=K6.out.set4 (.int .i64 0) (.string ⟨#[]⟩) (.int .i64 0) (.slice none 0 0)
  refine bodyPost_ret (v:=.tuple #[.agg #[.int .i64 0,.string ⟨#[]⟩,.int .i64 0,.slice none 0 0],.int .i64 (-1)]) (by simp[results,Tryz.results106,go_sem,q4.c0,q4.c1,q4.c2,q4.c3]) rfl ?_
  rw[E2.out]
  exact rz_none (G2.out.set4 (Nat.le_refl _) _ _ _ _)
 | some x =>
  obtain⟨t,r⟩:=x
  rw[hT] at hres
  obtain⟨a',c',rfl,hA⟩:=hres
  have hsuf:=suf_at ((sufs n).1 _ _ _ hT)
  have hrl:r.length≤l.length:=hsuf.length_le
  have hz1:=(Below.refl w1.heap.size w1).alloc (Nat.le_refl _) (.cells #[.int .i64 t.kind,.string t.name,.int .i64 t.n,.slice a' t.args.length c'] 56)
  have k6:=(b4.out.low hb1).low hz1
  have kt:=R4.new w1 (.int .i64 t.kind) (.string t.name) (.int .i64 t.n) (.slice a' t.args.length c')
  have f0:=k6.fr 0
  have f1:=k6.fr 1
  have f2:=k6.fr 2
  have f3:=k6.fr 3
  have d0:=k6.c0
  have d1:=k6.c1
  have d2:=k6.c2
  have d3:=k6.c3
  have t0:=kt.c0
  have t1:=kt.c1
  have t2:=kt.c2
  have t3:=kt.c3
  have K6:=hid k6
  have G2:=hid (G1.out.trans (hz1.mono G1.out.size))
  have HA:=hid (hA.keep fun b hb=>hz1.block b hb.2)
  have C2:=hid (CI.out _ G2.out (l.length - r.length) (by omega))
  have DS:=hid (drop_suf hsuf)
  have zj:¬ (((l.length - r.length:Nat):Int)<0):=by omega
  have hrl2:r.length≤4000:=by omega
  cases hq:st r 6 rpar with
  | false =>
   have E2:Hid (atomF (n+1) (l.drop i)=none):=hid (by rw[E.out,hT];simp only;rw[hq];rfl)
   have SQ:Hid (seesB (l.drop (l.length - r.length)) 6 rpar=false):=hid (by rw[DS.out,st_sees (by decide)];exact hq)
   clear hT hb1 hz1 k6 kt hs1 hA hsuf hq
   generalize l.length - r.length=j at *
   unfold tv
   go_wp2_with fail
   refine C2.out.mono ?_
   rintro e w4 ⟨he,rfl⟩
   rw[SQ.out] at he
   subst he
   go_wp2
   have q4:=K6.out.set4 (.int .i64 0) (.string ⟨#[]⟩) (.int .i64 0) (.slice none 0 0)
   refine bodyPost_ret (v:=.tuple #[.agg #[.int .i64 0,.string ⟨#[]⟩,.int .i64 0,.slice none 0 0],.int .i64 (-1)]) (by simp[results,Tryz.results106,go_sem,q4.c0,q4.c1,q4.c2,q4.c3]) rfl ?_
   rw[E2.out]
   exact rz_none (G2.out.set4 (Nat.le_refl _) _ _ _ _)
  | true =>
   have E2:Hid (atomF (n+1) (l.drop i)=some (t,r.tail)):=hid (by rw[E.out,hT];simp only;rw[hq];rfl)
   have SQ:Hid (seesB (l.drop (l.length - r.length)) 6 rpar=true):=hid (by rw[DS.out,st_sees (by decide)];exact hq)
   have hr1:=st_ne hq
   have HJ:Hid (((l.length - r.length:Nat):Int)+1=((l.length - r.tail.length:Nat):Int)):=hid (by rw[List.length_tail];omega)
   clear hT hb1 hz1 k6 kt hs1 hA hsuf hq
   have hjl:l.length - r.length≤4000:=by omega
   generalize l.length - r.length=j at *
   unfold tv
   go_wp2_with fail
   refine C2.out.mono ?_
   rintro e w4 ⟨he,rfl⟩
   rw[SQ.out] at he
   subst he
   go_wp2
   have q4:=K6.out.set4 (.int .i64 t.kind) (.string t.name) (.int .i64 t.n) (.slice a' t.args.length c')
   refine bodyPost_ret (v:=.tuple #[tv t a' c',.int .i64 ((j:Int)+1)]) (by simp[results,Tryz.results106,go_sem,tv,q4.c0,q4.c1,q4.c2,q4.c3]) rfl ?_
   rw[E2.out]
   refine⟨G2.out.set4 (Nat.le_refl _) _ _ _ _,a',c',ret_pair HJ.out,in_stored _ _ _ _ (by simp;have:=HS1.out;omega) ?_⟩
   refine HA.out.mono fun b hb=>⟨by have:=hb.1;simpa using this,by have:=hb.2;simp;omega⟩
theorem ratom_any (n:Nat)(ih:RSaid n)(w:World)(a:Option Addr)(c:Nat)(l:List Tok)(i:Nat)(ht:ToksAt w (.slice a l.length c) l)(hb:∀ b o,a=some ⟨b,o,none⟩→b<w.heap.size)(hr:TokR l)(hl:l.length≤4000)(hi:i≤l.length)
  (hn:4*(l.length - i)+2≤n+1):Calls Tryz.prog 106 #[.slice a l.length c,.int .i64 i] w (RrPost w l.length (atomF (n+1) (l.drop i))):=by
 by_cases h:i<l.length
 ·by_cases h1:l[i].kind=1
  ·exact ratom_leaf n w a c l i ht hb hl h 1 h1 (.inl rfl)
  ·by_cases h2:l[i].kind=2
   ·exact ratom_leaf n w a c l i ht hb hl h 2 h2 (.inr rfl)
   ·by_cases h5:l[i].kind=5
    ·exact ratom_meta n w a c l i ht hb hr hl h h5
    ·by_cases hp:l[i].text=lpar
     ·exact ratom_par n w a c l i ih ht hb hr hl h hn hp
     ·exact ratom_bad n w a c l i ht hb hl h h1 h2 h5 hp
 ·exact ratom_end n w a c l i (by omega)
open Lx
set_option maxHeartbeats 3200000 in
theorem rapp_atom (n:Nat)(w:World)(a:Option Addr)(c:Nat)(l:List Tok)(i:Nat)(ih:RSaid n)(ht:ToksAt w (.slice a l.length c) l)(hb:∀ b o,a=some ⟨b,o,none⟩→b<w.heap.size)(hr:TokR l)(hl:l.length≤4000)(hi:i≤l.length)
  (hn:4*(l.length - i)+3≤n+1) (h1:sk (l.drop i) 2=false):Calls Tryz.prog 89 #[.slice a l.length c,.int .i64 i] w (RrPost w l.length (appF (n+1) (l.drop i))):=by
 have hz:=(Below.refl w.heap.size w).alloc (Nat.le_refl _) (.cells #[.int .i64 0,.string ⟨#[]⟩,.int .i64 0,.slice none 0 0] 56)
 have CI:=hid (is_any 2 [] _ a c l i (toks_low ht hz) hi)
 have CA:=hid (ih.atom _ a c l i (toks_low ht hz) (fun b o e=>by have:=hb b o e;simp;omega) hr hl hi (by omega))
 have SQ:Hid (seesB (l.drop i) 2 []=false):=hid (sees0 h1)
 have E:Hid (appF (n+1) (l.drop i)=atomF n (l.drop i)):=hid (by rw[appF,h1,if_neg (by simp)])
 have b4:=hid (R4.new w (.int .i64 0) (.string ⟨#[]⟩) (.int .i64 0) (.slice none 0 0))
 have HZ:=hid hz
 clear ht hb hr ih hz h1 hn
 go_enter Tryz.func89,Tryz.ntmps89
 go_wp2_with fail
 refine CI.out.mono ?_
 rintro e w1 ⟨he,rfl⟩
 rw[SQ.out] at he
 subst he
 go_wp2_with fail
 refine CA.out.mono ?_
 rintro e w2 ⟨hb2,hres⟩
 have k4:=b4.out.low hb2
 have c0:=k4.c0
 have c1:=k4.c1
 have c2:=k4.c2
 have c3:=k4.c3
 have f0:=k4.fr 0
 have f1:=k4.fr 1
 have f2:=k4.fr 2
 have f3:=k4.fr 3
 have K4:=hid k4
 have G:=hid (HZ.out.trans (hb2.mono HZ.out.size))
 have hs2:w.heap.size+1≤w2.heap.size:=by have:=hb2.size;simpa using this
 have HS2:=hid hs2
 clear k4 hb2 hs2
 cases hT:atomF n (l.drop i) with
 | none =>
  rw[hT] at hres
  obtain⟨k,s,m,a',c',c'',rfl⟩:=hres
  have E2:Hid (appF (n+1) (l.drop i)=none):=hid (E.out.trans hT)
  clear hT
  go_wp2
  have q4:=K4.out.set4 (.int .i64 k) (.string s) (.int .i64 m) (.slice a' c' c'')
  refine bodyPost_ret (v:=.tuple #[.agg #[.int .i64 k,.string s,.int .i64 m,.slice a' c' c''],.int .i64 (-1)]) (by simp[results,Tryz.results89,go_sem,q4.c0,q4.c1,q4.c2,q4.c3]) rfl ?_
  rw[E2.out]
  exact⟨G.out.set4 (Nat.le_refl _) _ _ _ _,_,_,_,_,_,_,rfl⟩
 | some x =>
  obtain⟨t,r⟩:=x
  rw[hT] at hres
  obtain⟨a',c',rfl,hA⟩:=hres
  have E2:Hid (appF (n+1) (l.drop i)=some (t,r)):=hid (E.out.trans hT)
  have HA:=hid hA
  clear hT hA
  unfold tv
  go_wp2
  have q4:=K4.out.set4 (.int .i64 t.kind) (.string t.name) (.int .i64 t.n) (.slice a' t.args.length c')
  refine bodyPost_ret (v:=.tuple #[tv t a' c',.int .i64 ((l.length - r.length:Nat):Int)]) (by simp[results,Tryz.results89,go_sem,tv,q4.c0,q4.c1,q4.c2,q4.c3]) rfl ?_
  rw[E2.out]
  refine⟨G.out.set4 (Nat.le_refl _) _ _ _ _,a',c',rfl,in_stored _ _ _ _ HS2.out (HA.out.mono fun b hb=>⟨by have:=hb.1;simpa using this,hb.2⟩)⟩
theorem starts_ix {l:List Tok}(hr:TokR l){k:Nat}(hk:k<l.length):starts (l.drop k)=(l[k].kind==1 || l[k].kind==5 || l[k].kind==2 || decide (l[k].text=lpar)):=by
 have hp:=hr.par _ (List.getElem_mem hk)
 rw[drop_ix hk]
 unfold starts
 rw[sk_eq,sk_eq,sk_eq,st_eq]
 congr 1
 by_cases h:l[k].text=lpar
 ·rw[hp h,h];rfl
 ·rw[beq_eq_false_iff_ne.2 h,decide_eq_false h,Bool.and_false]
set_option maxRecDepth 100000 in
set_option maxHeartbeats 6400000 in
theorem rapp_con (n:Nat)(w:World)(a:Option Addr)(c:Nat)(l:List Tok)(i:Nat)(ih:∀ m,m≤n→RSaid m)(ht:ToksAt w (.slice a l.length c) l)(hb:∀ b o,a=some ⟨b,o,none⟩→b<w.heap.size)(hr:TokR l)(hl:l.length≤4000)(hi:i<l.length)
  (hn:4*(l.length - i)+3≤n+1) (h1:sk (l.drop i) 2=true):Calls Tryz.prog 89 #[.slice a l.length c,.int .i64 i] w (RrPost w l.length (appF (n+1) (l.drop i))):=by
 obtain⟨b,off,rfl,c0',c1'⟩:=toks_ix ht hi
 have hbl:=hb b off rfl
 have hz:=(Below.refl w.heap.size w).alloc (Nat.le_refl _) (.cells #[.int .i64 0,.string ⟨#[]⟩,.int .i64 0,.slice none 0 0] 56)
 have c1:=(hz.cell (p:=⟨b,off+i*3+1,none⟩) hbl).trans c1'
 have z0:(0:Int)≤(i:Int):=by omega
 have z1:(i:Int)<(l.length:Int):=by omega
 have CI:=hid (is_any 2 [] _ (some ⟨b,off,none⟩) c l i (toks_low ht hz) (by omega))
 have SQ:Hid (seesB (l.drop i) 2 []=true):=hid (sees0 h1)
 have E:Hid (appF (n+1) (l.drop i)=argsF n l[i].text [] (l.drop (i+1))):=hid (by rw[appF,if_pos h1,drop_ix hi];rfl)
 have IH:=hid ih
 have HT:=hid ht
 have HR:=hid hr
 have hz2:=hz.alloc hz.size (.cells #[.int .i64 3,.string (bytes l[i].text),.int .i64 0,.slice none 0 0] 56)
 have KR1:=hid ((R4.new w (.int .i64 0) (.string ⟨#[]⟩) (.int .i64 0) (.slice none 0 0)).low ((Below.refl _ _).alloc (Nat.le_refl _) (.cells #[.int .i64 3,.string (bytes l[i].text),.int .i64 0,.slice none 0 0] 56)))
 have kt1:=R4.new (w.alloc (.cells #[.int .i64 0,.string ⟨#[]⟩,.int .i64 0,.slice none 0 0] 56)) (.int .i64 3) (.string (bytes l[i].text)) (.int .i64 0) (.slice none 0 0)
 rw[show (w.alloc (.cells #[.int .i64 0,.string ⟨#[]⟩,.int .i64 0,.slice none 0 0] 56)).heap.size=w.heap.size+1 from by simp] at kt1
 have KT1:=hid kt1
 have HZ2:=hid hz2
 have hbe:(⟨l[i].text.toArray⟩:ByteArray)=bytes l[i].text:=rfl
 rw[hbe] at c1
 clear ht hb c0' c1' hz hz2 kt1 h1 ih hr hbe
 go_enter Tryz.func89,Tryz.ntmps89
 go_wp2_with fail
 refine CI.out.mono ?_
 rintro e w1 ⟨he,rfl⟩
 rw[SQ.out] at he
 subst he
 go_wp2
 go_loopw [8] (fun kv wr=>∃ (k:Nat) (acc:List Ty) (svs:List Value) (m:Nat) (u:Value),kv=.int .i64 k∧i+1≤k∧k≤l.length∧4*(l.length - k)+3≤m∧m≤n∧appF (n+1) (l.drop i)=argsF m l[i].text acc (l.drop k) ∧
  R4 wr (w.heap.size+1) (.int .i64 3) (.string (bytes l[i].text)) (.int .i64 0) u∧RAcc (w.heap.size+2) wr u acc svs∧R4 wr w.heap.size (.int .i64 0) (.string ⟨#[]⟩) (.int .i64 0) (.slice none 0 0)∧Below w.heap.size w wr∧acc.length+(l.length - k)≤4000∧w.heap.size+2≤wr.heap.size) (fun kv _=>l.length - (intOf kv).toNat)
 case atStart=>exact⟨i+1,[],[],n,_,by go_num,Nat.le_refl _,hi,by omega,Nat.le_refl _,E.out,KT1.out,RAcc.nil _ _,KR1.out,HZ2.out,by simp;omega,by simp⟩
 case round =>
  clear KT1 KR1 HZ2 c1
  obtain⟨k,acc,svs,m,u,rfl,hik,hkl,hm,hmn,hEQ,kt,ac,kr,gw,hal2,hsw⟩:=hrel
  have KR:=hid kr
  have KT:=hid kt
  have AC:=hid ac
  have GW:=hid gw
  have EQ:=hid hEQ
  have y0:(0:Int)≤(k:Int):=by omega
  obtain⟨m,rfl⟩:∃ j,m=j+1:=⟨m - 1,by omega⟩
  by_cases hlt:k<l.length
  ·have y1:(k:Int)<(l.length:Int):=by omega
   obtain⟨b2,off2,he2,d0',d1'⟩:=toks_ix HT.out hlt
   injection he2 with he2
   injection he2 with e1 e2
   subst e1 e2
   have d0:=(gw.cell (p:=⟨b,off+k*3,none⟩) hbl).trans d0'
   have d1:=(gw.cell (p:=⟨b,off+k*3+1,none⟩) hbl).trans d1'
   have hst:=starts_ix HR.out hlt
   have IA:=hid ((IH.out m (by omega)).atom wr (some ⟨b,off,none⟩) c l k (toks_low HT.out gw) (fun b' o' e=>by injection e with e;injection e with e1 e2;rw[← e1];exact Nat.lt_of_lt_of_le hbl gw.size) HR.out hl hkl (by omega))
   have HST:=hid hst
   clear hEQ kt ac kr gw d0' d1' hst
   generalize l[k]=tk at *
   by_cases h1:tk.kind=1
   ·have ST:Hid (starts (l.drop k)=true):=hid (by rw[HST.out,h1];rfl)
    have q1:((tk.kind:Int)==1)=true:=by rw[h1];rfl
    clear h1
    go_wp2_with fail
    refine IA.out.mono ?_
    rintro e w4 ⟨hb4,hres⟩
    have G4:=hid (GW.out.trans (hb4.mono GW.out.size))
    have KR4:=hid (KR.out.low hb4)
    have KT4:=hid (KT.out.low hb4)
    have hsz4:=hb4.size
    cases hT:atomF m (l.drop k) with
    | none =>
     rw[hT] at hres
     obtain⟨kk,s,mm,a',c',c'',rfl⟩:=hres
     have E2:Hid (appF (n+1) (l.drop i)=none):=hid (by rw[EQ.out,argsF,if_pos ST.out,hT])
     have hz:=(Below.refl w4.heap.size w4).alloc (Nat.le_refl _) (.cells #[.int .i64 kk,.string s,.int .i64 mm,.slice a' c' c''] 56)
     have k5:=KR4.out.low hz
     have c0:=k5.c0
     have c1:=k5.c1
     have c2:=k5.c2
     have c3:=k5.c3
     have f0:=k5.fr 0
     have f1:=k5.fr 1
     have f2:=k5.fr 2
     have f3:=k5.fr 3
     have K5:=hid k5
     have G5:=hid (G4.out.trans (hz.mono G4.out.size))
     clear hT k5 hz hb4
     go_wp2
     have q4:=K5.out.set4 (.int .i64 0) (.string ⟨#[]⟩) (.int .i64 0) (.slice none 0 0)
     refine bodyPost_ret (v:=.tuple #[.agg #[.int .i64 0,.string ⟨#[]⟩,.int .i64 0,.slice none 0 0],.int .i64 (-1)]) (by simp[results,Tryz.results89,go_sem,q4.c0,q4.c1,q4.c2,q4.c3]) rfl ?_
     rw[E2.out]
     exact rz_none (G5.out.set4 (Nat.le_refl _) _ _ _ _)
    | some x =>
     obtain⟨x,r⟩:=x
     rw[hT] at hres
     obtain⟨a',c',rfl,hA⟩:=hres
     have hsh:=(shorter m).2.2.2.2 _ _ _ hT
     rw[List.length_drop] at hsh
     have hsuf:=suf_at ((sufs m).2.2.2.2 _ _ _ hT)
     have EQ2:Hid (appF (n+1) (l.drop i)=argsF m l[i].text (acc++[x]) (l.drop (l.length - r.length))):=hid (by rw[EQ.out,argsF,if_pos ST.out,hT,drop_suf hsuf])
     have zk:¬ (((l.length - r.length:Nat):Int)<0):=by omega
     have hz:=(Below.refl w4.heap.size w4).alloc (Nat.le_refl _) (.cells #[.int .i64 x.kind,.string x.name,.int .i64 x.n,.slice a' x.args.length c'] 56)
     have hz2:=hz.alloc (by simp) (.cells #[.int .i64 x.kind,.string x.name,.int .i64 x.n,.slice a' x.args.length c'] 56)
     have hAc:=(AC.out.keep (w':=w4) hsz4 (fun b hb hlb=>hb4.block b hlb))
     have hAc2:=hAc.keep hz2.size (fun b hb hlb=>hz2.block b hlb)
     have hx2:=hA.keep (fun b hb=>hz2.block b hb.2)
     have cx:=(R4.new w4 (.int .i64 x.kind) (.string x.name) (.int .i64 x.n) (.slice a' x.args.length c'))
     have kt5:=KT4.out.low hz
     have kt6:=KT4.out.low hz2
     have t3:=kt5.c3
     have ct3:=kt6.c3
     have ft3:=kt6.fr 3
     have x0:=cx.c0
     have x1:=cx.c1
     have x2:=cx.c2
     have x3:=cx.c3
     have KT6:=hid kt6
     have KR6:=hid (KR4.out.low hz2)
     have G6:=hid (G4.out.trans (hz2.mono G4.out.size))
     have A6:=hid hAc2
     have X6:=hid hx2
     have HVA:=hid (fun b (hb:u.ownBlock=some b)=>(AC.out.own.lt b hb).2)
     have hal:=AC.out.len
     have HNT:Hid (u.ownBlock≠some (w.heap.size+1)):=hid fun e=>by have:=(AC.out.own.lt _ e).1;omega
     have HNR:Hid (u.ownBlock≠some (w.heap.size)):=hid fun e=>by have:=(AC.out.own.lt _ e).1;omega
     clear hT hA hAc hAc2 hx2 cx kt5 kt6 hz hz2 hb4
     obtain⟨i0,hi0,hz0,hz1,hz3⟩:=info_parts infoRf
     unfold tv
     go_wp2_with (at_builtin;refine wpList_append_lies _ rfl _ _ _ rfl (w.heap.size+2) 56 i0 _ 4 56 Tryz.underlying54 hi0 hz0 hz1 hz3 rfl (by omega) u acc.length (cellsT acc svs) rfl A6.out.own ⟨w4.heap.size+1,0,none⟩ 1 1 (cell4 x (.slice a' x.args.length c')) rfl rfl (World.news_of_block (cs:=#[.int .i64 x.kind,.string x.name,.int .i64 x.n,.slice a' x.args.length c']) (t:=56) (fr:=(0,0)) (alloc_new (by simp))) (by simp[cell4,Value.oneCell']) (by omega) (by unfold maxLen;omega) (by omega) (by simp;omega) (w4.heap.size+1+1) (by simp) ?_;intro gg cap w7 hown7 hgrow7 hat7 hlt7;have kt7:=KT6.out.grown hgrow7 (fun e=>HNT.out e);have c73:=kt7.c3;have f73:=kt7.fr 3;have KT7:=hid kt7;clear kt7)
     have hA7:=A6.out.add (v':=.slice (some ⟨gg,0,none⟩) (acc.length+1) cap) X6.out (fun b hb=>⟨by have:=hb.1;omega,by have:=hb.2;simp;omega,fun e=>by have:=HVA.out b e;have:=hb.1;omega⟩) hgrow7 hown7 (fun b hb=>by
      simp only[Value.ownBlock,Option.some.injEq] at hb
      subst hb
      rcases hat7 with e|e
      ·exact .inl e
      ·right;subst e;simp)
     have hsz7:=hgrow7.size
     have hw7:w4.heap.size+1+1≤w7.heap.size:=by simpa using hsz7
     have KR7:=KR6.out.grown hgrow7 (fun e=>HNR.out e)
     have G7:=G6.out.grown hgrow7 (by simp;omega) (fun k e=>by have:=(A6.out.own.lt k e).1;omega)
     have A8:=hid (hA7.keep (w':=w7.setCell ⟨w.heap.size+1,3,none⟩ (.slice (some ⟨gg,0,none⟩) (acc.length+1) cap)) (by simp) (fun b hb _=>Below.heap_setCell _ _ _ _ (by simp;omega)))
     have K8:Hid (R4 (w7.setCell ⟨w.heap.size+1,3,none⟩ (.slice (some ⟨gg,0,none⟩) (acc.length+1) cap)) (w.heap.size+1) (.int .i64 3) (.string (bytes l[i].text)) (.int .i64 0) (.slice (some ⟨gg,0,none⟩) (acc.length+1) cap)):=hid (by
      have:=KT7.out
      unfold R4 at *
      rw[set_row0 this];rfl)
     have KR8:Hid (R4 (w7.setCell ⟨w.heap.size+1,3,none⟩ (.slice (some ⟨gg,0,none⟩) (acc.length+1) cap)) w.heap.size (.int .i64 0) (.string ⟨#[]⟩) (.int .i64 0) (.slice none 0 0)):=hid ((Below.heap_setCell _ _ _ _ (by simp)).trans KR7)
     have G8:=hid (G7.setCell (p:=⟨w.heap.size+1,3,none⟩) (by simp) (.slice (some ⟨gg,0,none⟩) (acc.length+1) cap))
     clear hA7 hgrow7 hown7 hat7 hlt7 c73 f73 KR7 G7 hsuf
     go_wp2
     go_roundw
     case measure=>simp[intOf];omega
     case rel=>exact⟨l.length - r.length,acc++[x],svs++[.slice a' x.args.length c'],m,_,rfl,by omega,by omega,by omega,by omega,EQ2.out,K8.out,A8.out,KR8.out,G8.out,by rw[List.length_append];simp;omega,by simp;omega⟩
   ·have q1:((tk.kind:Int)==1)=false:=by rw[beq_eq_false_iff_ne];omega
    by_cases h5:tk.kind=5
    ·have ST:Hid (starts (l.drop k)=true):=hid (by rw[HST.out,h5];rfl)
     have q5:((tk.kind:Int)==5)=true:=by rw[h5];rfl
     clear h1 h5
     go_wp2_with fail
     refine IA.out.mono ?_
     rintro e w4 ⟨hb4,hres⟩
     have G4:=hid (GW.out.trans (hb4.mono GW.out.size))
     have KR4:=hid (KR.out.low hb4)
     have KT4:=hid (KT.out.low hb4)
     have hsz4:=hb4.size
     cases hT:atomF m (l.drop k) with
     | none =>
      rw[hT] at hres
      obtain⟨kk,s,mm,a',c',c'',rfl⟩:=hres
      have E2:Hid (appF (n+1) (l.drop i)=none):=hid (by rw[EQ.out,argsF,if_pos ST.out,hT])
      have hz:=(Below.refl w4.heap.size w4).alloc (Nat.le_refl _) (.cells #[.int .i64 kk,.string s,.int .i64 mm,.slice a' c' c''] 56)
      have k5:=KR4.out.low hz
      have c0:=k5.c0
      have c1:=k5.c1
      have c2:=k5.c2
      have c3:=k5.c3
      have f0:=k5.fr 0
      have f1:=k5.fr 1
      have f2:=k5.fr 2
      have f3:=k5.fr 3
      have K5:=hid k5
      have G5:=hid (G4.out.trans (hz.mono G4.out.size))
      clear hT k5 hz hb4
      go_wp2
      have q4:=K5.out.set4 (.int .i64 0) (.string ⟨#[]⟩) (.int .i64 0) (.slice none 0 0)
      refine bodyPost_ret (v:=.tuple #[.agg #[.int .i64 0,.string ⟨#[]⟩,.int .i64 0,.slice none 0 0],.int .i64 (-1)]) (by simp[results,Tryz.results89,go_sem,q4.c0,q4.c1,q4.c2,q4.c3]) rfl ?_
      rw[E2.out]
      exact rz_none (G5.out.set4 (Nat.le_refl _) _ _ _ _)
     | some x =>
      obtain⟨x,r⟩:=x
      rw[hT] at hres
      obtain⟨a',c',rfl,hA⟩:=hres
      have hsh:=(shorter m).2.2.2.2 _ _ _ hT
      rw[List.length_drop] at hsh
      have hsuf:=suf_at ((sufs m).2.2.2.2 _ _ _ hT)
      have EQ2:Hid (appF (n+1) (l.drop i)=argsF m l[i].text (acc++[x]) (l.drop (l.length - r.length))):=hid (by rw[EQ.out,argsF,if_pos ST.out,hT,drop_suf hsuf])
      have zk:¬ (((l.length - r.length:Nat):Int)<0):=by omega
      have hz:=(Below.refl w4.heap.size w4).alloc (Nat.le_refl _) (.cells #[.int .i64 x.kind,.string x.name,.int .i64 x.n,.slice a' x.args.length c'] 56)
      have hz2:=hz.alloc (by simp) (.cells #[.int .i64 x.kind,.string x.name,.int .i64 x.n,.slice a' x.args.length c'] 56)
      have hAc:=(AC.out.keep (w':=w4) hsz4 (fun b hb hlb=>hb4.block b hlb))
      have hAc2:=hAc.keep hz2.size (fun b hb hlb=>hz2.block b hlb)
      have hx2:=hA.keep (fun b hb=>hz2.block b hb.2)
      have cx:=(R4.new w4 (.int .i64 x.kind) (.string x.name) (.int .i64 x.n) (.slice a' x.args.length c'))
      have kt5:=KT4.out.low hz
      have kt6:=KT4.out.low hz2
      have t3:=kt5.c3
      have ct3:=kt6.c3
      have ft3:=kt6.fr 3
      have x0:=cx.c0
      have x1:=cx.c1
      have x2:=cx.c2
      have x3:=cx.c3
      have KT6:=hid kt6
      have KR6:=hid (KR4.out.low hz2)
      have G6:=hid (G4.out.trans (hz2.mono G4.out.size))
      have A6:=hid hAc2
      have X6:=hid hx2
      have HVA:=hid (fun b (hb:u.ownBlock=some b)=>(AC.out.own.lt b hb).2)
      have hal:=AC.out.len
      have HNT:Hid (u.ownBlock≠some (w.heap.size+1)):=hid fun e=>by have:=(AC.out.own.lt _ e).1;omega
      have HNR:Hid (u.ownBlock≠some (w.heap.size)):=hid fun e=>by have:=(AC.out.own.lt _ e).1;omega
      clear hT hA hAc hAc2 hx2 cx kt5 kt6 hz hz2 hb4
      obtain⟨i0,hi0,hz0,hz1,hz3⟩:=info_parts infoRf
      unfold tv
      go_wp2_with (at_builtin;refine wpList_append_lies _ rfl _ _ _ rfl (w.heap.size+2) 56 i0 _ 4 56 Tryz.underlying54 hi0 hz0 hz1 hz3 rfl (by omega) u acc.length (cellsT acc svs) rfl A6.out.own ⟨w4.heap.size+1,0,none⟩ 1 1 (cell4 x (.slice a' x.args.length c')) rfl rfl (World.news_of_block (cs:=#[.int .i64 x.kind,.string x.name,.int .i64 x.n,.slice a' x.args.length c']) (t:=56) (fr:=(0,0)) (alloc_new (by simp))) (by simp[cell4,Value.oneCell']) (by omega) (by unfold maxLen;omega) (by omega) (by simp;omega) (w4.heap.size+1+1) (by simp) ?_;intro gg cap w7 hown7 hgrow7 hat7 hlt7;have kt7:=KT6.out.grown hgrow7 (fun e=>HNT.out e);have c73:=kt7.c3;have f73:=kt7.fr 3;have KT7:=hid kt7;clear kt7)
      have hA7:=A6.out.add (v':=.slice (some ⟨gg,0,none⟩) (acc.length+1) cap) X6.out (fun b hb=>⟨by have:=hb.1;omega,by have:=hb.2;simp;omega,fun e=>by have:=HVA.out b e;have:=hb.1;omega⟩) hgrow7 hown7 (fun b hb=>by
       simp only[Value.ownBlock,Option.some.injEq] at hb
       subst hb
       rcases hat7 with e|e
       ·exact .inl e
       ·right;subst e;simp)
      have hsz7:=hgrow7.size
      have hw7:w4.heap.size+1+1≤w7.heap.size:=by simpa using hsz7
      have KR7:=KR6.out.grown hgrow7 (fun e=>HNR.out e)
      have G7:=G6.out.grown hgrow7 (by simp;omega) (fun k e=>by have:=(A6.out.own.lt k e).1;omega)
      have A8:=hid (hA7.keep (w':=w7.setCell ⟨w.heap.size+1,3,none⟩ (.slice (some ⟨gg,0,none⟩) (acc.length+1) cap)) (by simp) (fun b hb _=>Below.heap_setCell _ _ _ _ (by simp;omega)))
      have K8:Hid (R4 (w7.setCell ⟨w.heap.size+1,3,none⟩ (.slice (some ⟨gg,0,none⟩) (acc.length+1) cap)) (w.heap.size+1) (.int .i64 3) (.string (bytes l[i].text)) (.int .i64 0) (.slice (some ⟨gg,0,none⟩) (acc.length+1) cap)):=hid (by
       have:=KT7.out
       unfold R4 at *
       rw[set_row0 this];rfl)
      have KR8:Hid (R4 (w7.setCell ⟨w.heap.size+1,3,none⟩ (.slice (some ⟨gg,0,none⟩) (acc.length+1) cap)) w.heap.size (.int .i64 0) (.string ⟨#[]⟩) (.int .i64 0) (.slice none 0 0)):=hid ((Below.heap_setCell _ _ _ _ (by simp)).trans KR7)
      have G8:=hid (G7.setCell (p:=⟨w.heap.size+1,3,none⟩) (by simp) (.slice (some ⟨gg,0,none⟩) (acc.length+1) cap))
      clear hA7 hgrow7 hown7 hat7 hlt7 c73 f73 KR7 G7 hsuf
      go_wp2
      go_roundw
      case measure=>simp[intOf];omega
      case rel=>exact⟨l.length - r.length,acc++[x],svs++[.slice a' x.args.length c'],m,_,rfl,by omega,by omega,by omega,by omega,EQ2.out,K8.out,A8.out,KR8.out,G8.out,by rw[List.length_append];simp;omega,by simp;omega⟩
    ·have q5:((tk.kind:Int)==5)=false:=by rw[beq_eq_false_iff_ne];omega
     by_cases h2:tk.kind=2
     ·have ST:Hid (starts (l.drop k)=true):=hid (by rw[HST.out,h2];rfl)
      have q2:((tk.kind:Int)==2)=true:=by rw[h2];rfl
      clear h1 h5 h2
      go_wp2_with fail
      refine IA.out.mono ?_
      rintro e w4 ⟨hb4,hres⟩
      have G4:=hid (GW.out.trans (hb4.mono GW.out.size))
      have KR4:=hid (KR.out.low hb4)
      have KT4:=hid (KT.out.low hb4)
      have hsz4:=hb4.size
      cases hT:atomF m (l.drop k) with
      | none =>
       rw[hT] at hres
       obtain⟨kk,s,mm,a',c',c'',rfl⟩:=hres
       have E2:Hid (appF (n+1) (l.drop i)=none):=hid (by rw[EQ.out,argsF,if_pos ST.out,hT])
       have hz:=(Below.refl w4.heap.size w4).alloc (Nat.le_refl _) (.cells #[.int .i64 kk,.string s,.int .i64 mm,.slice a' c' c''] 56)
       have k5:=KR4.out.low hz
       have c0:=k5.c0
       have c1:=k5.c1
       have c2:=k5.c2
       have c3:=k5.c3
       have f0:=k5.fr 0
       have f1:=k5.fr 1
       have f2:=k5.fr 2
       have f3:=k5.fr 3
       have K5:=hid k5
       have G5:=hid (G4.out.trans (hz.mono G4.out.size))
       clear hT k5 hz hb4
       go_wp2
       have q4:=K5.out.set4 (.int .i64 0) (.string ⟨#[]⟩) (.int .i64 0) (.slice none 0 0)
       refine bodyPost_ret (v:=.tuple #[.agg #[.int .i64 0,.string ⟨#[]⟩,.int .i64 0,.slice none 0 0],.int .i64 (-1)]) (by simp[results,Tryz.results89,go_sem,q4.c0,q4.c1,q4.c2,q4.c3]) rfl ?_
       rw[E2.out]
       exact rz_none (G5.out.set4 (Nat.le_refl _) _ _ _ _)
      | some x =>
       obtain⟨x,r⟩:=x
       rw[hT] at hres
       obtain⟨a',c',rfl,hA⟩:=hres
       have hsh:=(shorter m).2.2.2.2 _ _ _ hT
       rw[List.length_drop] at hsh
       have hsuf:=suf_at ((sufs m).2.2.2.2 _ _ _ hT)
       have EQ2:Hid (appF (n+1) (l.drop i)=argsF m l[i].text (acc++[x]) (l.drop (l.length - r.length))):=hid (by rw[EQ.out,argsF,if_pos ST.out,hT,drop_suf hsuf])
       have zk:¬ (((l.length - r.length:Nat):Int)<0):=by omega
       have hz:=(Below.refl w4.heap.size w4).alloc (Nat.le_refl _) (.cells #[.int .i64 x.kind,.string x.name,.int .i64 x.n,.slice a' x.args.length c'] 56)
       have hz2:=hz.alloc (by simp) (.cells #[.int .i64 x.kind,.string x.name,.int .i64 x.n,.slice a' x.args.length c'] 56)
       have hAc:=(AC.out.keep (w':=w4) hsz4 (fun b hb hlb=>hb4.block b hlb))
       have hAc2:=hAc.keep hz2.size (fun b hb hlb=>hz2.block b hlb)
       have hx2:=hA.keep (fun b hb=>hz2.block b hb.2)
       have cx:=(R4.new w4 (.int .i64 x.kind) (.string x.name) (.int .i64 x.n) (.slice a' x.args.length c'))
       have kt5:=KT4.out.low hz
       have kt6:=KT4.out.low hz2
       have t3:=kt5.c3
       have ct3:=kt6.c3
       have ft3:=kt6.fr 3
       have x0:=cx.c0
       have x1:=cx.c1
       have x2:=cx.c2
       have x3:=cx.c3
       have KT6:=hid kt6
       have KR6:=hid (KR4.out.low hz2)
       have G6:=hid (G4.out.trans (hz2.mono G4.out.size))
       have A6:=hid hAc2
       have X6:=hid hx2
       have HVA:=hid (fun b (hb:u.ownBlock=some b)=>(AC.out.own.lt b hb).2)
       have hal:=AC.out.len
       have HNT:Hid (u.ownBlock≠some (w.heap.size+1)):=hid fun e=>by have:=(AC.out.own.lt _ e).1;omega
       have HNR:Hid (u.ownBlock≠some (w.heap.size)):=hid fun e=>by have:=(AC.out.own.lt _ e).1;omega
       clear hT hA hAc hAc2 hx2 cx kt5 kt6 hz hz2 hb4
       obtain⟨i0,hi0,hz0,hz1,hz3⟩:=info_parts infoRf
       unfold tv
       go_wp2_with (at_builtin;refine wpList_append_lies _ rfl _ _ _ rfl (w.heap.size+2) 56 i0 _ 4 56 Tryz.underlying54 hi0 hz0 hz1 hz3 rfl (by omega) u acc.length (cellsT acc svs) rfl A6.out.own ⟨w4.heap.size+1,0,none⟩ 1 1 (cell4 x (.slice a' x.args.length c')) rfl rfl (World.news_of_block (cs:=#[.int .i64 x.kind,.string x.name,.int .i64 x.n,.slice a' x.args.length c']) (t:=56) (fr:=(0,0)) (alloc_new (by simp))) (by simp[cell4,Value.oneCell']) (by omega) (by unfold maxLen;omega) (by omega) (by simp;omega) (w4.heap.size+1+1) (by simp) ?_;intro gg cap w7 hown7 hgrow7 hat7 hlt7;have kt7:=KT6.out.grown hgrow7 (fun e=>HNT.out e);have c73:=kt7.c3;have f73:=kt7.fr 3;have KT7:=hid kt7;clear kt7)
       have hA7:=A6.out.add (v':=.slice (some ⟨gg,0,none⟩) (acc.length+1) cap) X6.out (fun b hb=>⟨by have:=hb.1;omega,by have:=hb.2;simp;omega,fun e=>by have:=HVA.out b e;have:=hb.1;omega⟩) hgrow7 hown7 (fun b hb=>by
        simp only[Value.ownBlock,Option.some.injEq] at hb
        subst hb
        rcases hat7 with e|e
        ·exact .inl e
        ·right;subst e;simp)
       have hsz7:=hgrow7.size
       have hw7:w4.heap.size+1+1≤w7.heap.size:=by simpa using hsz7
       have KR7:=KR6.out.grown hgrow7 (fun e=>HNR.out e)
       have G7:=G6.out.grown hgrow7 (by simp;omega) (fun k e=>by have:=(A6.out.own.lt k e).1;omega)
       have A8:=hid (hA7.keep (w':=w7.setCell ⟨w.heap.size+1,3,none⟩ (.slice (some ⟨gg,0,none⟩) (acc.length+1) cap)) (by simp) (fun b hb _=>Below.heap_setCell _ _ _ _ (by simp;omega)))
       have K8:Hid (R4 (w7.setCell ⟨w.heap.size+1,3,none⟩ (.slice (some ⟨gg,0,none⟩) (acc.length+1) cap)) (w.heap.size+1) (.int .i64 3) (.string (bytes l[i].text)) (.int .i64 0) (.slice (some ⟨gg,0,none⟩) (acc.length+1) cap)):=hid (by
        have:=KT7.out
        unfold R4 at *
        rw[set_row0 this];rfl)
       have KR8:Hid (R4 (w7.setCell ⟨w.heap.size+1,3,none⟩ (.slice (some ⟨gg,0,none⟩) (acc.length+1) cap)) w.heap.size (.int .i64 0) (.string ⟨#[]⟩) (.int .i64 0) (.slice none 0 0)):=hid ((Below.heap_setCell _ _ _ _ (by simp)).trans KR7)
       have G8:=hid (G7.setCell (p:=⟨w.heap.size+1,3,none⟩) (by simp) (.slice (some ⟨gg,0,none⟩) (acc.length+1) cap))
       clear hA7 hgrow7 hown7 hat7 hlt7 c73 f73 KR7 G7 hsuf
       go_wp2
       go_roundw
       case measure=>simp[intOf];omega
       case rel=>exact⟨l.length - r.length,acc++[x],svs++[.slice a' x.args.length c'],m,_,rfl,by omega,by omega,by omega,by omega,EQ2.out,K8.out,A8.out,KR8.out,G8.out,by rw[List.length_append];simp;omega,by simp;omega⟩
     ·have q2:((tk.kind:Int)==2)=false:=by rw[beq_eq_false_iff_ne];omega
      by_cases hp:tk.text=lpar
      ·have ST:Hid (starts (l.drop k)=true):=hid (by rw[HST.out,decide_eq_true hp,Bool.or_true])
       have qp:(⟨tk.text.toArray⟩:ByteArray).toList=[40]:=by rw[ByteArray.toList_eq];exact hp
       have qb:((⟨tk.text.toArray⟩:ByteArray).toList==[40])=true:=beq_iff_eq.2 qp
       generalize (⟨tk.text.toArray⟩:ByteArray)=tx at *
       clear h1 h5 h2 hp
       go_wp2_with fail
       refine IA.out.mono ?_
       rintro e w4 ⟨hb4,hres⟩
       have G4:=hid (GW.out.trans (hb4.mono GW.out.size))
       have KR4:=hid (KR.out.low hb4)
       have KT4:=hid (KT.out.low hb4)
       have hsz4:=hb4.size
       cases hT:atomF m (l.drop k) with
       | none =>
        rw[hT] at hres
        obtain⟨kk,s,mm,a',c',c'',rfl⟩:=hres
        have E2:Hid (appF (n+1) (l.drop i)=none):=hid (by rw[EQ.out,argsF,if_pos ST.out,hT])
        have hz:=(Below.refl w4.heap.size w4).alloc (Nat.le_refl _) (.cells #[.int .i64 kk,.string s,.int .i64 mm,.slice a' c' c''] 56)
        have k5:=KR4.out.low hz
        have c0:=k5.c0
        have c1:=k5.c1
        have c2:=k5.c2
        have c3:=k5.c3
        have f0:=k5.fr 0
        have f1:=k5.fr 1
        have f2:=k5.fr 2
        have f3:=k5.fr 3
        have K5:=hid k5
        have G5:=hid (G4.out.trans (hz.mono G4.out.size))
        clear hT k5 hz hb4
        go_wp2
        have q4:=K5.out.set4 (.int .i64 0) (.string ⟨#[]⟩) (.int .i64 0) (.slice none 0 0)
        refine bodyPost_ret (v:=.tuple #[.agg #[.int .i64 0,.string ⟨#[]⟩,.int .i64 0,.slice none 0 0],.int .i64 (-1)]) (by simp[results,Tryz.results89,go_sem,q4.c0,q4.c1,q4.c2,q4.c3]) rfl ?_
        rw[E2.out]
        exact rz_none (G5.out.set4 (Nat.le_refl _) _ _ _ _)
       | some x =>
        obtain⟨x,r⟩:=x
        rw[hT] at hres
        obtain⟨a',c',rfl,hA⟩:=hres
        have hsh:=(shorter m).2.2.2.2 _ _ _ hT
        rw[List.length_drop] at hsh
        have hsuf:=suf_at ((sufs m).2.2.2.2 _ _ _ hT)
        have EQ2:Hid (appF (n+1) (l.drop i)=argsF m l[i].text (acc++[x]) (l.drop (l.length - r.length))):=hid (by rw[EQ.out,argsF,if_pos ST.out,hT,drop_suf hsuf])
        have zk:¬ (((l.length - r.length:Nat):Int)<0):=by omega
        have hz:=(Below.refl w4.heap.size w4).alloc (Nat.le_refl _) (.cells #[.int .i64 x.kind,.string x.name,.int .i64 x.n,.slice a' x.args.length c'] 56)
        have hz2:=hz.alloc (by simp) (.cells #[.int .i64 x.kind,.string x.name,.int .i64 x.n,.slice a' x.args.length c'] 56)
        have hAc:=(AC.out.keep (w':=w4) hsz4 (fun b hb hlb=>hb4.block b hlb))
        have hAc2:=hAc.keep hz2.size (fun b hb hlb=>hz2.block b hlb)
        have hx2:=hA.keep (fun b hb=>hz2.block b hb.2)
        have cx:=(R4.new w4 (.int .i64 x.kind) (.string x.name) (.int .i64 x.n) (.slice a' x.args.length c'))
        have kt5:=KT4.out.low hz
        have kt6:=KT4.out.low hz2
        have t3:=kt5.c3
        have ct3:=kt6.c3
        have ft3:=kt6.fr 3
        have x0:=cx.c0
        have x1:=cx.c1
        have x2:=cx.c2
        have x3:=cx.c3
        have KT6:=hid kt6
        have KR6:=hid (KR4.out.low hz2)
        have G6:=hid (G4.out.trans (hz2.mono G4.out.size))
        have A6:=hid hAc2
        have X6:=hid hx2
        have HVA:=hid (fun b (hb:u.ownBlock=some b)=>(AC.out.own.lt b hb).2)
        have hal:=AC.out.len
        have HNT:Hid (u.ownBlock≠some (w.heap.size+1)):=hid fun e=>by have:=(AC.out.own.lt _ e).1;omega
        have HNR:Hid (u.ownBlock≠some (w.heap.size)):=hid fun e=>by have:=(AC.out.own.lt _ e).1;omega
        clear hT hA hAc hAc2 hx2 cx kt5 kt6 hz hz2 hb4
        obtain⟨i0,hi0,hz0,hz1,hz3⟩:=info_parts infoRf
        unfold tv
        go_wp2_with (at_builtin;refine wpList_append_lies _ rfl _ _ _ rfl (w.heap.size+2) 56 i0 _ 4 56 Tryz.underlying54 hi0 hz0 hz1 hz3 rfl (by omega) u acc.length (cellsT acc svs) rfl A6.out.own ⟨w4.heap.size+1,0,none⟩ 1 1 (cell4 x (.slice a' x.args.length c')) rfl rfl (World.news_of_block (cs:=#[.int .i64 x.kind,.string x.name,.int .i64 x.n,.slice a' x.args.length c']) (t:=56) (fr:=(0,0)) (alloc_new (by simp))) (by simp[cell4,Value.oneCell']) (by omega) (by unfold maxLen;omega) (by omega) (by simp;omega) (w4.heap.size+1+1) (by simp) ?_;intro gg cap w7 hown7 hgrow7 hat7 hlt7;have kt7:=KT6.out.grown hgrow7 (fun e=>HNT.out e);have c73:=kt7.c3;have f73:=kt7.fr 3;have KT7:=hid kt7;clear kt7)
        have hA7:=A6.out.add (v':=.slice (some ⟨gg,0,none⟩) (acc.length+1) cap) X6.out (fun b hb=>⟨by have:=hb.1;omega,by have:=hb.2;simp;omega,fun e=>by have:=HVA.out b e;have:=hb.1;omega⟩) hgrow7 hown7 (fun b hb=>by
         simp only[Value.ownBlock,Option.some.injEq] at hb
         subst hb
         rcases hat7 with e|e
         ·exact .inl e
         ·right;subst e;simp)
        have hsz7:=hgrow7.size
        have hw7:w4.heap.size+1+1≤w7.heap.size:=by simpa using hsz7
        have KR7:=KR6.out.grown hgrow7 (fun e=>HNR.out e)
        have G7:=G6.out.grown hgrow7 (by simp;omega) (fun k e=>by have:=(A6.out.own.lt k e).1;omega)
        have A8:=hid (hA7.keep (w':=w7.setCell ⟨w.heap.size+1,3,none⟩ (.slice (some ⟨gg,0,none⟩) (acc.length+1) cap)) (by simp) (fun b hb _=>Below.heap_setCell _ _ _ _ (by simp;omega)))
        have K8:Hid (R4 (w7.setCell ⟨w.heap.size+1,3,none⟩ (.slice (some ⟨gg,0,none⟩) (acc.length+1) cap)) (w.heap.size+1) (.int .i64 3) (.string (bytes l[i].text)) (.int .i64 0) (.slice (some ⟨gg,0,none⟩) (acc.length+1) cap)):=hid (by
         have:=KT7.out
         unfold R4 at *
         rw[set_row0 this];rfl)
        have KR8:Hid (R4 (w7.setCell ⟨w.heap.size+1,3,none⟩ (.slice (some ⟨gg,0,none⟩) (acc.length+1) cap)) w.heap.size (.int .i64 0) (.string ⟨#[]⟩) (.int .i64 0) (.slice none 0 0)):=hid ((Below.heap_setCell _ _ _ _ (by simp)).trans KR7)
        have G8:=hid (G7.setCell (p:=⟨w.heap.size+1,3,none⟩) (by simp) (.slice (some ⟨gg,0,none⟩) (acc.length+1) cap))
        clear hA7 hgrow7 hown7 hat7 hlt7 c73 f73 KR7 G7 hsuf
        go_wp2
        go_roundw
        case measure=>simp[intOf];omega
        case rel=>exact⟨l.length - r.length,acc++[x],svs++[.slice a' x.args.length c'],m,_,rfl,by omega,by omega,by omega,by omega,EQ2.out,K8.out,A8.out,KR8.out,G8.out,by rw[List.length_append];simp;omega,by simp;omega⟩
      ·have ST:Hid (starts (l.drop k)=false):=hid (by rw[HST.out,decide_eq_false hp,beq_eq_false_iff_ne.2 h1,beq_eq_false_iff_ne.2 h5,beq_eq_false_iff_ne.2 h2];rfl)
       have qp:¬ (⟨tk.text.toArray⟩:ByteArray).toList=[40]:=by rw[ByteArray.toList_eq];exact hp
       have qb:((⟨tk.text.toArray⟩:ByteArray).toList==[40])=false:=beq_eq_false_iff_ne.2 qp
       generalize (⟨tk.text.toArray⟩:ByteArray)=tx at *
       have E2:Hid (appF (n+1) (l.drop i)=some (tCon l[i].text acc,l.drop k)):=hid (by rw[EQ.out,argsF,ST.out,if_neg (by simp)])
       have LD:Hid ((l.drop k).length=l.length - k):=hid List.length_drop
       obtain⟨ua,uc,rfl⟩:=own_form AC.out.own
       have t0:=KT.out.c0
       have t1:=KT.out.c1
       have t2:=KT.out.c2
       have t3:=KT.out.c3
       have r0:=KR.out.c0
       have r1:=KR.out.c1
       have r2:=KR.out.c2
       have r3:=KR.out.c3
       have f0:=KR.out.fr 0
       have f1:=KR.out.fr 1
       have f2:=KR.out.fr 2
       have f3:=KR.out.fr 3
       clear h1 h5 h2 hp
       go_wp2
       have q4:=KR.out.set4 (.int .i64 3) (.string (bytes l[i].text)) (.int .i64 0) (.slice ua acc.length uc)
       refine bodyPost_ret (v:=.tuple #[tv (tCon l[i].text acc) ua uc,.int .i64 (k:Int)]) (by simp[results,Tryz.results89,go_sem,q4.c0,q4.c1,q4.c2,q4.c3];rfl) rfl ?_
       rw[E2.out]
       exact⟨GW.out.set4 (Nat.le_refl _) _ _ _ _,ua,uc,ret_pair (by rw[LD.out];omega),in_stored _ _ _ _ (by omega) ((AC.out.args (by omega)).mono fun b hb=>⟨by have:=hb.1;omega,hb.2⟩)⟩
  ·have E2:Hid (appF (n+1) (l.drop i)=some (tCon l[i].text acc,l.drop k)):=hid (by rw[EQ.out,argsF,show starts (l.drop k)=false from by rw[show k=l.length by omega,List.drop_length];rfl,if_neg (by simp)])
   have LD:Hid ((l.drop k).length=l.length - k):=hid List.length_drop
   have y1:¬ (k:Int)<(l.length:Int):=by omega
   obtain⟨ua,uc,rfl⟩:=own_form AC.out.own
   have t0:=KT.out.c0
   have t1:=KT.out.c1
   have t2:=KT.out.c2
   have t3:=KT.out.c3
   have r0:=KR.out.c0
   have r1:=KR.out.c1
   have r2:=KR.out.c2
   have r3:=KR.out.c3
   have f0:=KR.out.fr 0
   have f1:=KR.out.fr 1
   have f2:=KR.out.fr 2
   have f3:=KR.out.fr 3
   clear hEQ kt ac kr gw
   go_wp2
   have q4:=KR.out.set4 (.int .i64 3) (.string (bytes l[i].text)) (.int .i64 0) (.slice ua acc.length uc)
   refine bodyPost_ret (v:=.tuple #[tv (tCon l[i].text acc) ua uc,.int .i64 (k:Int)]) (by simp[results,Tryz.results89,go_sem,q4.c0,q4.c1,q4.c2,q4.c3];rfl) rfl ?_
   rw[E2.out]
   exact⟨GW.out.set4 (Nat.le_refl _) _ _ _ _,ua,uc,ret_pair (by rw[LD.out];omega),in_stored _ _ _ _ (by omega) ((AC.out.args (by omega)).mono fun b hb=>⟨by have:=hb.1;omega,hb.2⟩)⟩
theorem rapp_any (n:Nat)(ih:∀ m,m≤n→RSaid m)(w:World)(a:Option Addr)(c:Nat)(l:List Tok)(i:Nat)(ht:ToksAt w (.slice a l.length c) l)(hb:∀ b o,a=some ⟨b,o,none⟩→b<w.heap.size)(hr:TokR l)(hl:l.length≤4000)(hi:i≤l.length)
  (hn:4*(l.length - i)+3≤n+1):Calls Tryz.prog 89 #[.slice a l.length c,.int .i64 i] w (RrPost w l.length (appF (n+1) (l.drop i))):=by
 cases h1:sk (l.drop i) 2 with
 | false=>exact rapp_atom n w a c l i (ih n (Nat.le_refl _)) ht hb hr hl hi hn h1
 | true =>
  have:=sk_ne h1
  rw[List.length_drop] at this
  exact rapp_con n w a c l i ih ht hb hr hl (by omega) hn h1
end Go.Proofs.YtkihnodkhnahiaaGreatDoor.Tp

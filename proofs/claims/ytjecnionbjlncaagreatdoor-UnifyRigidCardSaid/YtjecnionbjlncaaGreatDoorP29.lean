/- Packed. -/
import Derived.Test.YtjecnionbjlncaaGreatDoorP24
set_option maxRecDepth 100000
set_option maxHeartbeats 6400000
namespace Go.Proofs.YtjecnionbjlncaaGreatDoor.Tp
open Go.RowKit
open Lx
theorem i1_ (s:List UInt8):(ac_ s).extract 1 (ac_ s).size=ac_ s.tail:=by
 apply ByteArray.ext;apply Array.toList_inj.1;rw[df_];simp[ac_]
theorem lc_ (n:Nat)(w:World)(a:OA_)(c:Nat)(l:List Tok)(i:Nat)(ht:bj_ w (.slice a l.length c) l)(hb:∀ b o,a=some ⟨b,o,none⟩→b<w.heap.size)(hr:kN_ l)(hl:l.length≤4000)(hi:i<l.length)
  (hk:l[i].kind=5):Calls Tryz.prog 133 #[.slice a l.length c,.int .i64 i] w (cK_ w l.length (aM_ (n+1) (l.drop i))):=by
 obtain⟨b,off,rfl,c0',c1'⟩:=dE_ ht hi;have hbl:=hb b off rfl;have hz:=av_ w (.cells #[.int .i64 0,.string ⟨#[]⟩,.int .i64 0,.slice none 0 0] 43);have c0:=(hz.cell (p:=⟨b,off+i*3,none⟩) hbl).trans c0';have c1:=(hz.cell (p:=⟨b,off+i*3+1,none⟩) hbl).trans c1';have z0:(0:Int)≤(i:Int):=by omega
 have z1:(i:Int)<(l.length:Int):=by omega
 have hrest:(l.drop (i+1)).length=l.length - (i+1):=List.length_drop;obtain⟨hlen,hne,hdg⟩:=hr.num _ (List.getElem_mem hi) hk;have E:Hid (aM_ (n+1) (l.drop i)=some (dS_ l[i].text,l.drop (i+1))):=hid (by
  rw[eW_ hi,aM_,aT_ _ _ 1 (by omega),aT_ _ _ 2 (by omega),dl_ _ _ 5 hk];rfl)
 have HR:=hid hrest;have hpos:1≤l[i].text.length:=List.length_pos_iff.2 hne;have HX:=hid (i1_ l[i].text);have CN:=hid (fun W=>mk_ (ac_ l[i].text.tail) W (by rw[ek_];exact hlen) (by rw[show (ac_ l[i].text.tail).data.toList=l[i].text.tail from by simp[ac_]];exact hdg));have NL:=hid (show eQ_ (ac_ l[i].text.tail).data.toList=eQ_ l[i].text.tail by simp[ac_]);have hsz:=ek_ l[i].text;have hs1:1≤(ac_ l[i].text).size:=by omega
 have hbe:(⟨l[i].text.toArray⟩:ByteArray)=ac_ l[i].text:=rfl;rw[hbe] at c1;clear ht hb c0' c1' hrest hz hne hdg hlen hr hsz hbe;rw[hk] at c0;generalize l[i]=t at *;clear hk;go_enter Tryz.func133,Tryz.ntmps133;go_wp2_with fail;rw[HX.out];refine (CN.out _).mono ?_;rintro e w2 ⟨rfl,rfl⟩;rw[NL.out];go_wp2;have q4:=R4.new w (.int .i64 2) (.string ⟨#[]⟩) (.int .i64 (eQ_ t.text.tail:Int)) (.slice none 0 0);refine bodyPost_ret (v:=.tuple #[tv (dS_ t.text) none 0,.int .i64 ((i:Int)+1)]) (by simp[results,Tryz.results133,go_sem,q4.c0,q4.c1,q4.c2,q4.c3];rfl) rfl ?_;rw[E.out];exact⟨av_ w _,none,0,ay_ (by rw[HR.out];omega),.nil _ _⟩
theorem cZ_ {w w':World}{n:Nat}(h:Below w.heap.size w w'):cK_ w n none (.returned (.tuple #[.agg #[.int .i64 0,.string ⟨#[]⟩,.int .i64 0,.slice none 0 0],.int .i64 (-1)])) w':=⟨h,_,_,_,_,_,_,rfl⟩
theorem mp_ (n:Nat)(w:World)(a:OA_)(c:Nat)(l:List Tok)(i:Nat)(hi:i=l.length):Calls Tryz.prog 133 #[.slice a l.length c,.int .i64 i] w (cK_ w l.length (aM_ (n+1) (l.drop i))):=by
 have E:Hid (aM_ (n+1) (l.drop i)=none):=hid (by rw[hi,List.drop_length,aM_];rfl);subst hi;generalize l.length=m at *;go_enter Tryz.func133,Tryz.ntmps133;go_wp2;have q4:=R4.new w (.int .i64 0) (.string ⟨#[]⟩) (.int .i64 0) (.slice none 0 0);refine bodyPost_ret (v:=.tuple #[.agg #[.int .i64 0,.string ⟨#[]⟩,.int .i64 0,.slice none 0 0],.int .i64 (-1)]) (by simp[results,Tryz.results133,go_sem,q4.c0,q4.c1,q4.c2,q4.c3]) rfl ?_;rw[E.out];exact cZ_ (av_ w _)
theorem mq_ (n:Nat)(w:World)(a:OA_)(c:Nat)(l:List Tok)(i:Nat)(ht:bj_ w (.slice a l.length c) l)(hb:∀ b o,a=some ⟨b,o,none⟩→b<w.heap.size)(_hl:l.length≤4000)(hi:i<l.length)
  (h1:l[i].kind≠1) (h2:l[i].kind≠2) (h5:l[i].kind≠5) (hp:l[i].text≠do_):Calls Tryz.prog 133 #[.slice a l.length c,.int .i64 i] w (cK_ w l.length (aM_ (n+1) (l.drop i))):=by
 obtain⟨b,off,rfl,c0',c1'⟩:=dE_ ht hi;have hbl:=hb b off rfl;have hz:=av_ w (.cells #[.int .i64 0,.string ⟨#[]⟩,.int .i64 0,.slice none 0 0] 43);have c0:=(hz.cell (p:=⟨b,off+i*3,none⟩) hbl).trans c0';have c1:=(hz.cell (p:=⟨b,off+i*3+1,none⟩) hbl).trans c1';have z0:(0:Int)≤(i:Int):=by omega
 have z1:(i:Int)<(l.length:Int):=by omega
 have E:Hid (aM_ (n+1) (l.drop i)=none):=hid (by
  rw[eW_ hi,aM_,aT_ _ _ 1 h1,aT_ _ _ 2 h2,aT_ _ _ 5 h5,k4_,beq_eq_false_iff_ne.2 hp,Bool.and_false];rfl)
 have q1:((l[i].kind:Int)==1)=false:=by rw[beq_eq_false_iff_ne];omega
 have q2:((l[i].kind:Int)==2)=false:=by rw[beq_eq_false_iff_ne];omega
 have q5:((l[i].kind:Int)==5)=false:=by rw[beq_eq_false_iff_ne];omega
 have qp:¬ (⟨l[i].text.toArray⟩:ByteArray).toList=[40]:=by rw[ByteArray.toList_eq];exact hp
 have qb:((⟨l[i].text.toArray⟩:ByteArray).toList==[40])=false:=beq_eq_false_iff_ne.2 qp;clear ht hb c0' c1' hz h1 h2 h5 hp;generalize l[i].kind=k at *;generalize (⟨l[i].text.toArray⟩:ByteArray)=tx at *;have hz':=hid (av_ w (.cells #[.int .i64 0,.string ⟨#[]⟩,.int .i64 0,.slice none 0 0] 43));go_enter Tryz.func133,Tryz.ntmps133;go_wp2;have q4:=R4.new w (.int .i64 0) (.string ⟨#[]⟩) (.int .i64 0) (.slice none 0 0);refine bodyPost_ret (v:=.tuple #[.agg #[.int .i64 0,.string ⟨#[]⟩,.int .i64 0,.slice none 0 0],.int .i64 (-1)]) (by simp[results,Tryz.results133,go_sem,q4.c0,q4.c1,q4.c2,q4.c3]) rfl ?_;rw[E.out];exact cZ_ hz'.out
theorem mo_ (n:Nat)(w:World)(a:OA_)(c:Nat)(l:List Tok)(i:Nat)(ih:ih_ n)(ht:bj_ w (.slice a l.length c) l)(hb:∀ b o,a=some ⟨b,o,none⟩→b<w.heap.size)(hr:kN_ l)(hl:l.length≤4000)(hi:i<l.length)
  (hn:4*(l.length - i)+2≤n+1) (hp:l[i].text=do_):Calls Tryz.prog 133 #[.slice a l.length c,.int .i64 i] w (cK_ w l.length (aM_ (n+1) (l.drop i))):=by
 have hk:=hr.par _ (List.getElem_mem hi) hp;obtain⟨b,off,rfl,c0',c1'⟩:=dE_ ht hi;have hbl:=hb b off rfl;have hz:=av_ w (.cells #[.int .i64 0,.string ⟨#[]⟩,.int .i64 0,.slice none 0 0] 43);have c0:=(hz.cell (p:=⟨b,off+i*3,none⟩) hbl).trans c0';have c1:=(hz.cell (p:=⟨b,off+i*3+1,none⟩) hbl).trans c1';rw[hk] at c0;rw[hp] at c1;have z0:(0:Int)≤(i:Int):=by omega
 have z1:(i:Int)<(l.length:Int):=by omega
 have E:Hid (aM_ (n+1) (l.drop i)=match bB_ n (l.drop (i+1)) with|none=>none|some (t,r)=>if st r 6 eN_ then some (t,r.tail) else none):=hid (by
  rw[eW_ hi,aM_,aT_ _ _ 1 (by omega),aT_ _ _ 2 (by omega),aT_ _ _ 5 (by omega),eK_ _ _ 6 do_ hk hp];rfl)
 have cr:=(ih.typ (w.alloc (.cells #[.int .i64 0,.string ⟨#[]⟩,.int .i64 0,.slice none 0 0] 43)) (some ⟨b,off,none⟩) c l (i+1) (bC_ ht hz) (fun b' o' e=>by injection e with e;injection e with e1 e2;rw[← e1];simp;omega) hr hl (by omega) (by omega));rw[show ((i+1:Nat):Int)=(i:Int)+1 from by omega] at cr;have CR:=hid cr;clear cr;have CI:=hid (fun (W:World) (h:Below w.heap.size w W) (j:Nat) (hj:j≤l.length)=>gu_ 6 eN_ W (some ⟨b,off,none⟩) c l j (bC_ ht h) hj);have HZ:=hid hz;have b4:=hid (R4.new w (.int .i64 0) (.string ⟨#[]⟩) (.int .i64 0) (.slice none 0 0));have hll:=hl;clear ht hb c0' c1' hz hk hp hr ih hn;go_enter Tryz.func133,Tryz.ntmps133;go_wp2_with fail;refine CR.out.mono ?_;rintro e w1 ⟨hb1,hres⟩;have G1:=hid (HZ.out.trans (hb1.mono HZ.out.size));have hs1:w.heap.size+1≤w1.heap.size:=by have:=hb1.size;simpa using this
 have HS1:=hid hs1;cases hT:bB_ n (l.drop (i+1)) with
 | none =>
  rw[hT] at hres;obtain⟨k,s,m,a',c',c'',rfl⟩:=hres;have E2:Hid (aM_ (n+1) (l.drop i)=none):=hid (by rw[E.out,hT]);have hz1:=av_ w1 (.cells #[.int .i64 k,.string s,.int .i64 m,.slice a' c' c''] 43);have k6:=(b4.out.low hb1).low hz1;obtain⟨f0,f1,f2,f3⟩:=k6.f03;obtain⟨d0,d1,d2,d3⟩:=k6.c03;have K6:=hid k6;have G2:=hid (G1.out.trans (hz1.mono G1.out.size));clear hT hb1 hz1 k6 hs1;go_wp2;have q4:=K6.out.set4 (.int .i64 0) (.string ⟨#[]⟩) (.int .i64 0) (.slice none 0 0);refine bodyPost_ret (v:=.tuple #[.agg #[.int .i64 0,.string ⟨#[]⟩,.int .i64 0,.slice none 0 0],.int .i64 (-1)]) (by simp[results,Tryz.results133,go_sem,q4.c0,q4.c1,q4.c2,q4.c3]) rfl ?_;rw[E2.out];exact cZ_ (G2.out.set4 (aA_ _) _ _ _ _)
 | some x =>
  obtain⟨t,r⟩:=x;rw[hT] at hres;obtain⟨a',c',rfl,hA⟩:=hres;have hsuf:=g9_ ((qc_ n).1 _ _ _ hT);have hrl:r.length≤l.length:=hsuf.length_le;have hz1:=av_ w1 (.cells #[.int .i64 t.kind,.string t.name,.int .i64 t.n,.slice a' t.args.length c'] 43);have k6:=(b4.out.low hb1).low hz1;have kt:=R4.new w1 (.int .i64 t.kind) (.string t.name) (.int .i64 t.n) (.slice a' t.args.length c');obtain⟨f0,f1,f2,f3⟩:=k6.f03;obtain⟨d0,d1,d2,d3⟩:=k6.c03;obtain⟨t0,t1,t2,t3⟩:=kt.c03;have K6:=hid k6;have G2:=hid (G1.out.trans (hz1.mono G1.out.size));have HA:=hid (hA.keep fun b hb=>hz1.block b hb.2);have C2:=hid (CI.out _ G2.out (l.length - r.length) (by omega));have DS:=hid (ex_ hsuf);have zj:¬ (((l.length - r.length:Nat):Int)<0):=by omega
  have hrl2:r.length≤4000:=by omega
  cases hq:st r 6 eN_ with
  | false =>
   have E2:Hid (aM_ (n+1) (l.drop i)=none):=hid (by rw[E.out,hT];simp only;rw[hq];rfl);have SQ:Hid (cy_ (l.drop (l.length - r.length)) 6 eN_=false):=hid (by rw[DS.out,dk_ (by decide)];exact hq);clear hT hb1 hz1 k6 kt hs1 hA hsuf hq;generalize l.length - r.length=j at *;unfold tv;go_wp2_with fail;refine C2.out.mono ?_;rintro e w4 ⟨he,rfl⟩;rw[SQ.out] at he;subst he;go_wp2;have q4:=K6.out.set4 (.int .i64 0) (.string ⟨#[]⟩) (.int .i64 0) (.slice none 0 0);refine bodyPost_ret (v:=.tuple #[.agg #[.int .i64 0,.string ⟨#[]⟩,.int .i64 0,.slice none 0 0],.int .i64 (-1)]) (by simp[results,Tryz.results133,go_sem,q4.c0,q4.c1,q4.c2,q4.c3]) rfl ?_;rw[E2.out];exact cZ_ (G2.out.set4 (aA_ _) _ _ _ _)
  | true =>
   have E2:Hid (aM_ (n+1) (l.drop i)=some (t,r.tail)):=hid (by rw[E.out,hT];simp only;rw[hq];rfl);have SQ:Hid (cy_ (l.drop (l.length - r.length)) 6 eN_=true):=hid (by rw[DS.out,dk_ (by decide)];exact hq);have hr1:=dT_ hq;have HJ:Hid (((l.length - r.length:Nat):Int)+1=((l.length - r.tail.length:Nat):Int)):=hid (by rw[List.length_tail];omega);clear hT hb1 hz1 k6 kt hs1 hA hsuf hq;have hjl:l.length - r.length≤4000:=(by omega);generalize l.length - r.length=j at *;unfold tv;go_wp2_with fail;refine C2.out.mono ?_;rintro e w4 ⟨he,rfl⟩;rw[SQ.out] at he;subst he;go_wp2;have q4:=K6.out.set4 (.int .i64 t.kind) (.string t.name) (.int .i64 t.n) (.slice a' t.args.length c');refine bodyPost_ret (v:=.tuple #[tv t a' c',.int .i64 ((j:Int)+1)]) (by simp[results,Tryz.results133,go_sem,tv,q4.c0,q4.c1,q4.c2,q4.c3]) rfl ?_;rw[E2.out];refine⟨G2.out.set4 (aA_ _) _ _ _ _,a',c',ay_ HJ.out,dy_ _ _ _ _ (by simp;have:=HS1.out;omega) ?_⟩;refine HA.out.mono fun b hb=>⟨by have:=hb.1;simpa using this,by have:=hb.2;simp;omega⟩
theorem mr_ (n:Nat)(ih:ih_ n)(w:World)(a:OA_)(c:Nat)(l:List Tok)(i:Nat)(ht:bj_ w (.slice a l.length c) l)(hb:∀ b o,a=some ⟨b,o,none⟩→b<w.heap.size)(hr:kN_ l)(hl:l.length≤4000)(hi:i≤l.length)
  (hn:4*(l.length - i)+2≤n+1):Calls Tryz.prog 133 #[.slice a l.length c,.int .i64 i] w (cK_ w l.length (aM_ (n+1) (l.drop i))):=by
 by_cases h:i<l.length
 ·by_cases h1:l[i].kind=1
  ·exact he_ n w a c l i ht hb hl h 1 h1 (.inl rfl)
  ·by_cases h2:l[i].kind=2
   ·exact he_ n w a c l i ht hb hl h 2 h2 (.inr rfl)
   ·by_cases h5:l[i].kind=5
    ·exact lc_ n w a c l i ht hb hr hl h h5
    ·by_cases hp:l[i].text=do_
     ·exact mo_ n w a c l i ih ht hb hr hl h hn hp
     ·exact mq_ n w a c l i ht hb hl h h1 h2 h5 hp
 ·exact mp_ n w a c l i (by omega)
end Go.Proofs.YtjecnionbjlncaaGreatDoor.Tp

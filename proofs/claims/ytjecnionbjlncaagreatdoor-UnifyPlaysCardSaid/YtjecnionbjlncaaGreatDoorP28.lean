/- Packed. -/
import Derived.Test.YtjecnionbjlncaaGreatDoorP27
set_option maxRecDepth 100000
set_option maxHeartbeats 6400000
namespace Go.Proofs.YtjecnionbjlncaaGreatDoor.Tp
open Go.RowKit
open Lx
theorem nA_ {w:World}{g:Nat}{ty:TypeId}{a b:Ty}{sa sb:Value}{S:Nat→Prop}(h:w.heap[g]? = some (.cells #[.int .i64 a.kind,.string a.name,.int .i64 a.n,sa,.int .i64 b.kind,.string b.name,.int .i64 b.n,sb] ty (0,0)))(hg:S g)(ha:aa_ S w sa a.args)(hb:aa_ S w sb b.args) :
  aa_ S w (.slice (some ⟨g,0,none⟩) 2 2) [a,b]:=by
 refine .mk g 0 2 [a,b] (fun i=>if i=0 then sa else sb) hg (by simp) (fun i hi=>?_) (fun i hi=>?_)
 ·have hi2:i=0∨i=1:=by simp at hi;omega
  rcases hi2 with rfl|rfl
  ·exact⟨cell_of_row w g 0 _ _ _ h,cell_of_row w g 1 _ _ _ h,cell_of_row w g 2 _ _ _ h,cell_of_row w g 3 _ _ _ h⟩
  ·exact⟨cell_of_row w g 4 _ _ _ h,cell_of_row w g 5 _ _ _ h,cell_of_row w g 6 _ _ _ h,cell_of_row w g 7 _ _ _ h⟩
 ·have hi2:i=0∨i=1:=by simp at hi;omega
  rcases hi2 with rfl|rfl
  ·exact ha
  ·exact hb
theorem nB_ {w:World}{g:Nat}{ty:TypeId}{a:Ty}{sa:Value}{S:Nat→Prop}(h:w.heap[g]? = some (.cells #[.int .i64 a.kind,.string a.name,.int .i64 a.n,sa] ty (0,0)))(hg:S g)(ha:aa_ S w sa a.args) :
  aa_ S w (.slice (some ⟨g,0,none⟩) 1 1) [a]:=by
 refine .mk g 0 1 [a] (fun _=>sa) hg (by simp) (fun i hi=>?_) (fun i hi=>?_)
 ·have hi2:i=0:=by simp at hi;omega
  subst hi2;exact⟨cell_of_row w g 0 _ _ _ h,cell_of_row w g 1 _ _ _ h,cell_of_row w g 2 _ _ _ h,cell_of_row w g 3 _ _ _ h⟩
 ·have hi2:i=0:=by simp at hi;omega
  subst hi2;exact ha
theorem pn_ (n:Nat)(w:World)(a:OA_)(c:Nat)(l:List Tok)(i:Nat)(ih:iT_ n)(ht:bI_ w (.slice a l.length c) l)(hb:∀ b o,a=some ⟨b,o,none⟩→b<w.heap.size)(hr:lK_ l)(hl:l.length≤4000)(hi:i≤l.length)(hn:4*(l.length - i)+4≤n+1)(h3:st (l.drop i) 3 fa=false):Calls Tryz.prog 56 #[.slice a l.length c,.int .i64 i] w (cZ_ w l.length (bR_ (n+1) (l.drop i))):=by
 have hz:=aq_ w (.cells #[.int .i64 0,.string ⟨#[]⟩,.int .i64 0,.slice none 0 0] 43);have CI:=hid (gV_ 3 fa _ a c l i (bS_ ht hz) hi);have SQ:Hid (cP_ (l.drop i) 3 fa=false):=hid (by rw[dA_ (by decide)];exact h3);have CA:=hid (ih.app _ a c l i (bS_ ht hz) (fun b o e=>by have:=hb b o e;simp;omega) hr hl hi (by omega));have CJ:=hid (fun (W:World) (h:Below w.heap.size w W) (j:Nat) (hj:j≤l.length)=>gV_ 6 dk_ W a c l j (bS_ ht h) hj);have CR:=hid (fun (W:World) (h:Below w.heap.size w W) (j:Nat) (hj:j≤l.length) (hf:4*(l.length - j)+4≤n)=>ih.typ W a c l j (bS_ ht h) (fun b o e=>aU_ (hb b o e) h.size) hr hl hj hf);have E:Hid (bR_ (n+1) (l.drop i)=match cf_ n (l.drop i) with|none=>none|some (a,r)=>if st r 6 dk_ then (match bR_ n r.tail with|none=>none|some (b,r')=>some (kX_ a b,r')) else some (a,r)):=hid (by rw[bR_,h3];rfl);have b4:=hid (R4.new w (.int .i64 0) (.string ⟨#[]⟩) (.int .i64 0) (.slice none 0 0));have HZ:=hid hz;have hfu:4*(l.length - i)+3≤n:=by omega
 clear ht hb hr ih hz h3 hn;go_enter Tryz.func56,Tryz.ntmps56;go_wp2_with fail;refine CI.out.mono ?_;rintro e w1 ⟨he,rfl⟩;rw[SQ.out] at he;subst he;go_wp2_with fail;refine CA.out.mono ?_;rintro e w2 ⟨hb2,hres⟩;have K2:=hid (b4.out.low hb2);have G2:=hid (HZ.out.trans (hb2.mono HZ.out.size));have HS2:Hid (w.heap.size+1≤w2.heap.size):=hid (by have:=hb2.size;simpa using this);clear hb2;cases hT:cf_ n (l.drop i) with
 | none =>
  rw[hT] at hres;obtain⟨k,s,m,a',c',c'',rfl⟩:=hres;have E2:Hid (bR_ (n+1) (l.drop i)=none):=hid (by rw[E.out,hT]);have hz1:=aq_ w2 (.cells #[.int .i64 k,.string s,.int .i64 m,.slice a' c' c''] 43);have k6:=K2.out.low hz1;obtain⟨d0,d1,d2,d3⟩:=k6.c03;obtain⟨f0,f1,f2,f3⟩:=k6.f03;have K6:=hid k6;have G3:=hid (G2.out.trans (hz1.mono G2.out.size));clear hT hz1 k6;go_wp2;have q4:=K6.out.set4 (.int .i64 0) (.string ⟨#[]⟩) (.int .i64 0) (.slice none 0 0);refine bodyPost_ret (v:=(.tuple #[.agg #[.int .i64 0,.string ⟨#[]⟩,.int .i64 0,.slice none 0 0],.int .i64 (-1)])) (by simp[results,Tryz.results56,go_sem,q4.c0,q4.c1,q4.c2,q4.c3]) rfl ?_;rw[E2.out];exact dd_ (G3.out.set4 (aA_ _) _ _ _ _)
 | some x =>
  obtain⟨x,r⟩:=x;rw[hT] at hres;obtain⟨a',c',rfl,hA⟩:=hres;have hsuf:=hy_ ((rw_ n).2.2.1 _ _ _ hT);have hsh:=(dC_ n).2.2.1 _ _ _ hT;rw[List.length_drop] at hsh;have hrl:r.length≤l.length:=hsuf.length_le;have hz1:=aq_ w2 (.cells #[.int .i64 x.kind,.string x.name,.int .i64 x.n,.slice a' x.args.length c'] 43);have k6:=K2.out.low hz1;have kx:=R4.new w2 (.int .i64 x.kind) (.string x.name) (.int .i64 x.n) (.slice a' x.args.length c');have KX:=hid kx;obtain⟨d0,d1,d2,d3⟩:=k6.c03;obtain⟨f0,f1,f2,f3⟩:=k6.f03;obtain⟨t0,t1,t2,t3⟩:=kx.c03;have K6:=hid k6;have G3:=hid (G2.out.trans (hz1.mono G2.out.size));have HA:=hid (hA.keep fun b hb=>hz1.block b hb.2);have C2:=hid (CJ.out _ G3.out (l.length - r.length) (by omega));have DS:=hid (eL_ hsuf);have zj:¬ (((l.length - r.length:Nat):Int)<0):=by omega
  have hjl:l.length - r.length≤4000:=by omega
  cases hq:st r 6 dk_ with
  | false =>
   have E2:Hid (bR_ (n+1) (l.drop i)=some (x,r)):=hid (by rw[E.out,hT];simp only;rw[hq];rfl);have SR:Hid (cP_ (l.drop (l.length - r.length)) 6 dk_=false):=hid (by rw[DS.out,dA_ (by decide)];exact hq);clear hT hz1 k6 kx hA hsuf hq;generalize hj:l.length - r.length=j at *;have JJ:=hid hj;clear hj;unfold tv;go_wp2_with fail;refine C2.out.mono ?_;rintro e w4 ⟨he,rfl⟩;rw[SR.out] at he;subst he;go_wp2;have q4:=K6.out.set4 (.int .i64 x.kind) (.string x.name) (.int .i64 x.n) (.slice a' x.args.length c');refine bodyPost_ret (v:=(.tuple #[tv x a' c',.int .i64 (j:Int)])) (by simp[results,Tryz.results56,go_sem,tv,q4.c0,q4.c1,q4.c2,q4.c3]) rfl ?_;rw[E2.out];refine⟨G3.out.set4 (aA_ _) _ _ _ _,a',c',aJ_ (by rw[JJ.out]),dN_ _ _ _ _ (by simp;have:=HS2.out;omega) (HA.out.mono fun b hb=>⟨by have:=hb.1;simpa using this,by have:=hb.2;simp;omega⟩)⟩
  | true =>
   have hr1:=eh_ hq;have SR:Hid (cP_ (l.drop (l.length - r.length)) 6 dk_=true):=hid (by rw[DS.out,dA_ (by decide)];exact hq);have DT:Hid (l.drop (l.length - r.length+1)=r.tail):=hid (by rw[← List.tail_drop,DS.out]);have cr:=CR.out _ G3.out (l.length - r.length+1) (by omega) (by omega);rw[DT.out,show ((l.length - r.length+1:Nat):Int)=((l.length - r.length:Nat):Int)+1 from by omega] at cr;have C3:=hid cr;have E3:Hid (bR_ (n+1) (l.drop i)=match bR_ n r.tail with|none=>none|some (b,r')=>some (kX_ x b,r')):=hid (by rw[E.out,hT];simp only;rw[hq];rfl);have HS3:Hid (w.heap.size+2≤(w2.alloc (.cells #[.int .i64 x.kind,.string x.name,.int .i64 x.n,.slice a' x.args.length c'] 43)).heap.size):=hid (by simp;have:=HS2.out;omega);clear hT hz1 k6 kx hA hsuf hq cr d0 d1 d2 d3 f0 f1 f2 f3 t0 t1 t2 t3;generalize l.length - r.length=j at *;unfold tv;go_wp2_with fail;refine C2.out.mono ?_;rintro e w4 ⟨he,rfl⟩;rw[SR.out] at he;subst he;go_wp2_with fail;refine C3.out.mono ?_;rintro e w5 ⟨hb5,hres5⟩;have K7:=hid (K6.out.low hb5);have KX7:=hid (KX.out.low hb5);have G5:=hid (G3.out.trans (hb5.mono G3.out.size));have HB5:=hid hb5;have HS5:Hid (w2.heap.size+1≤w5.heap.size):=hid (by have:=hb5.size;simpa using this);clear hb5;cases hT5:bR_ n r.tail with
   | none =>
    rw[hT5] at hres5;obtain⟨kk,ss,mm,a5,c5,c6,rfl⟩:=hres5;have E4:Hid (bR_ (n+1) (l.drop i)=none):=hid (by rw[E3.out,hT5]);have hz6:=aq_ w5 (.cells #[.int .i64 kk,.string ss,.int .i64 mm,.slice a5 c5 c6] 43);have hz7:=hz6.alloc (by simp) (.cells #[.int .i64 x.kind,.string x.name,.int .i64 x.n,.slice a' x.args.length c',.int .i64 kk,.string ss,.int .i64 mm,.slice a5 c5 c6] 43);have kt8:=KX7.out.low hz6;have kb8:=R4.new w5 (.int .i64 kk) (.string ss) (.int .i64 mm) (.slice a5 c5 c6);have k8:=K7.out.low hz7;obtain⟨t0,t1,t2,t3⟩:=kt8.c03;obtain⟨u0,u1,u2,u3⟩:=kb8.c03;obtain⟨d0,d1,d2,d3⟩:=k8.c03;obtain⟨f0,f1,f2,f3⟩:=k8.f03;have K8:=hid k8;have G8:=hid (G5.out.trans (hz7.mono G5.out.size));clear kt8 kb8 k8 hz6 hz7 hT5;go_wp2;have q4:=K8.out.set4 (.int .i64 4) (.string ⟨#[]⟩) (.int .i64 0) (.slice (some ⟨w5.heap.size+1,0,none⟩) 2 2);refine bodyPost_ret (v:=(.tuple #[.agg #[.int .i64 4,.string ⟨#[]⟩,.int .i64 0,.slice (some ⟨w5.heap.size+1,0,none⟩) 2 2],.int .i64 (-1)])) (by simp[results,Tryz.results56,go_sem,q4.c0,q4.c1,q4.c2,q4.c3]) rfl ?_;rw[E4.out];exact⟨G8.out.set4 (aA_ _) _ _ _ _,_,_,_,_,_,_,rfl⟩
   | some y =>
    obtain⟨y,r'⟩:=y;rw[hT5] at hres5;obtain⟨a5,c5,rfl,hA5⟩:=hres5;have E4:Hid (bR_ (n+1) (l.drop i)=some (kX_ x y,r')):=hid (by rw[E3.out,hT5]);have hz6:=aq_ w5 (.cells #[.int .i64 y.kind,.string y.name,.int .i64 y.n,.slice a5 y.args.length c5] 43);have hz7:=hz6.alloc (by simp) (.cells #[.int .i64 x.kind,.string x.name,.int .i64 x.n,.slice a' x.args.length c',.int .i64 y.kind,.string y.name,.int .i64 y.n,.slice a5 y.args.length c5] 43);have kt8:=KX7.out.low hz6;have kb8:=R4.new w5 (.int .i64 y.kind) (.string y.name) (.int .i64 y.n) (.slice a5 y.args.length c5);have k8:=K7.out.low hz7;obtain⟨t0,t1,t2,t3⟩:=kt8.c03;obtain⟨u0,u1,u2,u3⟩:=kb8.c03;obtain⟨d0,d1,d2,d3⟩:=k8.c03;obtain⟨f0,f1,f2,f3⟩:=k8.f03;have K8:=hid k8;have G8:=hid (G5.out.trans (hz7.mono G5.out.size));have HA5:=hid hA5;have HZ7:=hid hz7;clear kt8 kb8 k8 hz6 hz7 hT5 hA5;unfold tv;go_wp2;have q4:=K8.out.set4 (.int .i64 4) (.string ⟨#[]⟩) (.int .i64 0) (.slice (some ⟨w5.heap.size+1,0,none⟩) 2 2);refine bodyPost_ret (v:=.tuple #[tv (kX_ x y) (some ⟨w5.heap.size+1,0,none⟩) 2,.int .i64 ((l.length - r'.length:Nat):Int)]) (by simp[results,Tryz.results56,go_sem,q4.c0,q4.c1,q4.c2,q4.c3];rfl) rfl ?_;rw[E4.out];refine⟨G8.out.set4 (aA_ _) _ _ _ _,_,_,rfl,dN_ _ _ _ _ (by simp;have:=HS2.out;have:=HS5.out;omega) ?_⟩;have s2:=HS2.out;have s5:=HS5.out;refine nA_ (ty:=43) (am_ (by simp)) ⟨by omega,by simp⟩ ?_ ?_
    ·exact ((HA.out.keep fun b hb=>HB5.out.block b (by have:=hb.2;simp;omega)).keep fun b hb=>HZ7.out.block b (by have:=hb.2;omega)).mono fun b hb=>⟨by have:=hb.1;simpa using this,by have:=hb.2;simp;omega⟩
    ·exact (HA5.out.keep fun b hb=>HZ7.out.block b hb.2).mono fun b hb=>⟨by have:=hb.1;simp at this;omega,by have:=hb.2;simp;omega⟩
open Lx
theorem m4_ (p:Tok→Bool):∀ L:List Tok,L.dropWhile p=L.drop (L.takeWhile p).length∧(L.takeWhile p).length≤L.length ∧
  (∀ q (h:q<(L.takeWhile p).length) (h':q<L.length),p L[q]=true∧(L.takeWhile p)[q]=L[q])∧∀ (h:(L.takeWhile p).length<L.length),p L[(L.takeWhile p).length]=false:=by
 intro L
 induction L with
 | nil=>exact⟨rfl,aA_ _,fun q h=>by simp at h,fun h=>by simp at h⟩
 | cons t L ih =>
  obtain⟨h1,h2,h3,h4⟩:=ih;cases hp:p t with
  | false =>
   rw[List.takeWhile_cons,hp,List.dropWhile_cons,hp];exact⟨rfl,Nat.zero_le _,fun q h=>by simp at h,fun _=>hp⟩
  | true =>
   have e1:(t :: L).takeWhile p=t :: L.takeWhile p:=by rw[List.takeWhile_cons,hp];rfl
   have e2:(t :: L).dropWhile p=L.dropWhile p:=by rw[List.dropWhile_cons,hp];rfl
   refine⟨by rw[e1,e2,h1];rfl,by rw[e1];simpa using h2,fun q h h'=>?_,fun h=>?_⟩
   ·cases q with
    | zero=>exact⟨hp,by simp[e1]⟩
    | succ q =>
     have hq:q<(L.takeWhile p).length:=by rw[e1] at h;simpa using h
     obtain⟨a1,a2⟩:=h3 q hq (by omega);exact⟨a1,by simp only[e1,List.getElem_cons_succ];exact a2⟩
   ·have hq:(L.takeWhile p).length<L.length:=by rw[e1] at h;simpa using h
    have:=h4 hq;simp only[e1,List.length_cons,List.getElem_cons_succ];exact this
def iR_ (lo b9:Nat)(res:Option Ty)(wr:World)(k:Int)(s:ByteArray)(m:Int)(a:OA_)(ln c:Nat):Prop :=
 ∀ T,res=some T→k=T.kind∧s=T.name∧m=T.n∧ln=T.args.length∧aa_ (fun b=>lo≤b∧b<wr.heap.size∧b≠b9) wr (.slice a ln c) T.args
theorem mL_ (n:Nat)(L R V:List Tok)(hV:cV_ L=V)(hR:cH_ L=R):eY_ (n+1) L=if (!st R 6 dot || V.isEmpty)=true then none
   else match bR_ n R.tail with|none=>none|some (t,r)=>some (V.foldr (fun v t=>eV_ v.text t) t,r):=by
 subst hV hR;rw[eY_];rfl
def eQ_ (V:List Tok)(p:Nat)(t:Ty):Ty:=(V.drop p).foldr (fun v t=>eV_ v.text t) t
theorem lR_ (V:List Tok)(p:Nat)(h:p<V.length)(t:Ty):eQ_ V p t=eV_ V[p].text (eQ_ V (p+1) t):=by
 unfold eQ_;rw[List.drop_eq_getElem_cons h,List.foldr_cons]
theorem i0_ {lo b9:Nat}{res:Option Ty}{wr W:World}{kd nn:Int}{nm:ByteArray}{aa:OA_}{ln cc:Nat}{s:List UInt8}(h:iR_ lo b9 res wr kd nm nn aa ln cc)(hlo:lo≤wr.heap.size)(hb9:b9<wr.heap.size)(hs:W.heap.size=wr.heap.size+1)
  (hk:∀ b,b<wr.heap.size→b≠b9→W.heap[b]? = wr.heap[b]?) (hnew:W.heap[wr.heap.size]? = some (.cells #[.int .i64 kd,.string nm,.int .i64 nn,.slice aa ln cc] 43 (0,0))) :
  iR_ lo b9 (res.map (eV_ s)) W 5 (ab_ s) 0 (some ⟨wr.heap.size,0,none⟩) 1 1:=by
 intro T hT;obtain⟨T0,h0,rfl⟩:=Option.map_eq_some_iff.1 hT;obtain⟨rfl,rfl,rfl,rfl,hA⟩:=h T0 h0;refine⟨rfl,rfl,rfl,rfl,nB_ hnew ⟨hlo,by omega,by omega⟩ ((hA.keep fun b hb=>hk b hb.2.1 hb.2.2).mono fun b hb=>⟨hb.1,by have:=hb.2.1;omega,hb.2.2⟩)⟩
theorem po_ (n:Nat)(w:World)(a:OA_)(c:Nat)(l:List Tok)(i:Nat)(ih:∀ m,m≤n→iT_ m)(ht:bI_ w (.slice a l.length c) l)(hb:∀ b o,a=some ⟨b,o,none⟩→b<w.heap.size)(hr:lK_ l)(hl:l.length≤4000)(hi:i≤l.length)(hn:4*(l.length - i)+4≤n+1)(h3:st (l.drop i) 3 fa=true):Calls Tryz.prog 56 #[.slice a l.length c,.int .i64 i] w (cZ_ w l.length (bR_ (n+1) (l.drop i))):=by
 have hi1:i<l.length:=by have:=eh_ h3;rw[List.length_drop] at this;omega
 obtain⟨n,rfl⟩:∃ m,n=m+1:=⟨n - 1,by omega⟩;obtain⟨b,off,rfl,_,_⟩:=dV_ ht hi1;have hbl:=hb b off rfl;have hz:=aq_ w (.cells #[.int .i64 0,.string ⟨#[]⟩,.int .i64 0,.slice none 0 0] 43);have CI:=hid (gV_ 3 fa _ (some ⟨b,off,none⟩) c l i (bS_ ht hz) hi);have SQ:Hid (cP_ (l.drop i) 3 fa=true):=hid (by rw[dA_ (by decide)];exact h3);have CJ:=hid (fun (W:World) (h:Below w.heap.size w W) (j:Nat) (hj:j≤l.length)=>gV_ 6 dot W (some ⟨b,off,none⟩) c l j (bS_ ht h) hj);have CR:=hid (fun (W:World) (h:Below w.heap.size w W) (j:Nat) (hj:j≤l.length) (hf:4*(l.length - j)+4≤n)=>(ih n (by omega)).typ W (some ⟨b,off,none⟩) c l j (bS_ ht h) (fun b' o' e=>by injection e with e;injection e with e1 e2;rw[← e1];exact aU_ hbl h.size) hr hl hj hf);have CT:=hid (fun (W:World) (h:Below w.heap.size w W) (j:Nat) (hj:j<l.length)=>show W.cell? ⟨b,off+j*3,none⟩=some (.int .i64 l[j].kind)∧W.cell? ⟨b,off+j*3+1,none⟩=some (.string ⟨l[j].text.toArray⟩) from by
  obtain⟨b',off',e,h1,h2⟩:=dV_ (bS_ ht h) hj;injection e with e;injection e with e1 e2
  subst e1 e2;exact⟨h1,h2⟩)
 have htl:(l.drop i).tail=l.drop (i+1):=List.tail_drop;have hts:=m4_ (fun t=>t.kind==1) (l.drop (i+1));have hV:cV_ (l.drop (i+1))=(l.drop (i+1)).takeWhile fun t=>t.kind==1:=rfl;have hR:cH_ (l.drop (i+1))=(l.drop (i+1)).dropWhile fun t=>t.kind==1:=rfl;rw[← hV,← hR] at hts;obtain⟨t1,t2,t3,t4⟩:=hts;rw[List.drop_drop] at t1;rw[List.length_drop] at t2;have E:Hid (bR_ (n+1+1) (l.drop i)=if (!st (l.drop (i+1+(cV_ (l.drop (i+1))).length)) 6 dot || (cV_ (l.drop (i+1))).isEmpty)=true then none
   else match bR_ n (l.drop (i+1+(cV_ (l.drop (i+1))).length)).tail with|none=>none|some (t,r)=>some ((cV_ (l.drop (i+1))).foldr (fun v t=>eV_ v.text t) t,r)):=hid (by
  rw[bR_,if_pos h3,htl];exact mL_ n _ _ _ rfl t1)
 have VA:Hid (∀ q (h:q<(cV_ (l.drop (i+1))).length) (h':i+1+q<l.length),l[i+1+q].kind=1∧(cV_ (l.drop (i+1)))[q]=l[i+1+q]):=hid (fun q h h'=>by
  obtain⟨a1,a2⟩:=t3 q h (by rw[List.length_drop];omega);rw[List.getElem_drop] at a1 a2;exact⟨by simpa using a1,a2⟩)
 have VB:Hid (∀ (h:i+1+(cV_ (l.drop (i+1))).length<l.length),l[i+1+(cV_ (l.drop (i+1))).length].kind≠1):=hid (fun h=>by
  have:=t4 (by rw[List.length_drop];omega);rw[List.getElem_drop] at this;simpa using this)
 have b4:=hid (R4.new w (.int .i64 0) (.string ⟨#[]⟩) (.int .i64 0) (.slice none 0 0));have HZ:=hid hz;have hfu:4*(l.length - i)+4≤n+1+1:=hn;have z0:(0:Int)≤(i:Int):=by omega
 clear ht hb hr ih hz h3 hn htl hV hR t1 t3 t4;generalize cV_ (l.drop (i+1))=V at *;go_enter Tryz.func56,Tryz.ntmps56;go_wp2_with fail;refine CI.out.mono ?_;rintro e w1 ⟨he,rfl⟩;rw[SQ.out] at he;subst he;go_wp2
 go_loop [7] (fun kv=>∃ q:Nat,kv=.int .i64 ((i+1+q:Nat):Int)∧q≤V.length) (fun kv=>l.length - (intOf kv).toNat)
 case atStart=>exact⟨0,by go_num,Nat.zero_le _⟩
 case round =>
  obtain⟨q,rfl,hq⟩:=hrel;have y0:(0:Int)≤((i+1+q:Nat):Int):=by omega
  by_cases hqv:q<V.length
  ·have hlt:i+1+q<l.length:=by omega
   have y1:((i+1+q:Nat):Int)<(l.length:Int):=(by omega);obtain⟨c0,c1⟩:=CT.out _ HZ.out (i+1+q) hlt;rw[(VA.out q hqv hlt).1] at c0;have JJ:Hid (i+1+(q+1)=i+1+q+1):=hid (by omega);have hj2:i+1+q≤4000:=(by omega);have hj3:i+1+q<l.length:=hlt;clear c1;generalize i+1+q=j at *;go_wp2;go_round
   case rel=>exact⟨q+1,by rw[JJ.out];go_num,by omega⟩
   case measure=>simp[intOf];omega
  ·obtain rfl:q=V.length:=by omega
   have hst:(∃ hlt:i+1+V.length<l.length,True)∨i+1+V.length=l.length:=by
    by_cases h:i+1+V.length<l.length
    ·exact .inl ⟨h,trivial⟩
    ·exact .inr (by omega)
   -- the loop's test is false
   have hout:∀ P:Prop,((∀ (k:Nat) (_:((i+1+V.length:Nat):Int)<(l.length:Int)) (_:((k:Int)==1)=false) (_:(w.alloc (.cells #[.int .i64 0,.string ⟨#[]⟩,.int .i64 0,.slice none 0 0] 43)).cell? ⟨b,off+(i+1+V.length)*3,none⟩=some (.int .i64 k)),P)∧(¬ ((i+1+V.length:Nat):Int)<(l.length:Int)→P))→P:=fun P h=>by
    rcases hst with ⟨hlt,_⟩|he
    ·exact h.1 _ (by omega) (by have:=VB.out hlt;rw[beq_eq_false_iff_ne];omega) (CT.out _ HZ.out _ hlt).1
    ·exact h.2 (by omega)
   have hjl:i+1+V.length≤l.length:=(by omega);have hj2:i+1+V.length≤4000:=(by omega);have C2:=hid (CJ.out _ HZ.out (i+1+V.length) hjl);have HV:Hid (V=V):=hid rfl;clear hst HV;obtain⟨j,hj⟩:∃ j:Nat,i+1+V.length=j:=⟨_,rfl⟩;have HJ:=hid hj;rw[hj] at E C2 hout hjl hj2 ⊢;clear hj;refine hout _ ⟨fun kk y1 yk ck=>?_,fun y1=>?_⟩
   all_goals
    clear hout;go_wp2_with fail;refine C2.out.mono ?_;rintro e w3 ⟨rfl,rfl⟩;clear y1;cases hdot:cP_ (l.drop j) 6 dot with
    | false =>
     have E2:Hid (bR_ (n+1+1) (l.drop i)=none):=hid (by rw[E.out,← dA_ (s:=dot) (by decide),hdot];rfl);have d0:=b4.out.c0;clear hdot d0;go_wp2;have q4:=R4.new w (.int .i64 0) (.string ⟨#[]⟩) (.int .i64 0) (.slice none 0 0);refine bodyPost_ret (v:=(.tuple #[.agg #[.int .i64 0,.string ⟨#[]⟩,.int .i64 0,.slice none 0 0],.int .i64 (-1)])) (by simp[results,Tryz.results56,go_sem,q4.c0,q4.c1,q4.c2,q4.c3]) rfl ?_;rw[E2.out];exact dd_ HZ.out
    | true =>
     by_cases hv0:V.length=0
     ·have E2:Hid (bR_ (n+1+1) (l.drop i)=none):=hid (by rw[E.out,← dA_ (s:=dot) (by decide),hdot,List.eq_nil_of_length_eq_zero hv0];rfl)
      have yj:((j:Int)==(i:Int)+1)=true:=by have:=HJ.out;rw[beq_iff_eq];omega
      clear hdot;go_wp2;have q4:=R4.new w (.int .i64 0) (.string ⟨#[]⟩) (.int .i64 0) (.slice none 0 0);refine bodyPost_ret (v:=(.tuple #[.agg #[.int .i64 0,.string ⟨#[]⟩,.int .i64 0,.slice none 0 0],.int .i64 (-1)])) (by simp[results,Tryz.results56,go_sem,q4.c0,q4.c1,q4.c2,q4.c3]) rfl ?_;rw[E2.out];exact dd_ HZ.out
     ·have yj:((j:Int)==(i:Int)+1)=false:=by have:=HJ.out;rw[beq_eq_false_iff_ne];omega
      have hjlt:j<l.length:=by
       have:=hdot;rw[dA_ (by decide)] at this;have:=eh_ this;rw[List.length_drop] at this;omega
      have hvi:V.isEmpty=false:=by cases V with|nil=>exact absurd rfl hv0|cons=>rfl
      have E2:Hid (bR_ (n+1+1) (l.drop i)=match bR_ n (l.drop (j+1)) with|none=>none|some (t,r)=>some (eQ_ V 0 t,r)):=hid (by
       rw[E.out,← dA_ (s:=dot) (by decide),hdot,hvi,List.tail_drop];rfl)
      have cr:=CR.out _ HZ.out (j+1) (by omega) (by have:=HJ.out;omega);rw[show ((j+1:Nat):Int)=(j:Int)+1 from by omega] at cr;have C3:=hid cr;clear hdot cr hvi;go_wp2_with fail;refine C3.out.mono ?_;rintro e wR ⟨hbR,hres⟩;have KR:=hid (b4.out.low hbR);have GR:=hid (HZ.out.trans (hbR.mono HZ.out.size));have HSR:Hid (w.heap.size+1≤wR.heap.size):=hid (by have:=hbR.size;simpa using this)
      -- what Read told,as values
      have hval:∃ (kd nn:Int) (nm:ByteArray) (aa:OA_) (ln cc:Nat) (en:Int),e=.returned (.tuple #[.agg #[.int .i64 kd,.string nm,.int .i64 nn,.slice aa ln cc],.int .i64 en]) ∧
        iR_ (w.heap.size+1) wR.heap.size ((bR_ n (l.drop (j+1))).map fun x=>eQ_ V V.length x.1) (wR.alloc (.cells #[.int .i64 kd,.string nm,.int .i64 nn,.slice aa ln cc] 43)) kd nm nn aa ln cc ∧
        en=(match bR_ n (l.drop (j+1)) with|none=>-1|some (_,r)=>((l.length - r.length:Nat):Int)):=by
       cases hT:bR_ n (l.drop (j+1)) with
       | none =>
        rw[hT] at hres;obtain⟨k,s,m,a',c',c'',rfl⟩:=hres;exact⟨k,m,s,a',c',c'',-1,rfl,fun T h=>(by cases h),rfl⟩
       | some x =>
        obtain⟨t,r⟩:=x;rw[hT] at hres;obtain⟨a',c',rfl,hA⟩:=hres;refine⟨t.kind,t.n,t.name,a',t.args.length,c',_,rfl,fun T h=>?_,rfl⟩;simp only[Option.map_some,Option.some.injEq] at h;subst h;have:eQ_ V V.length t=t:=by unfold eQ_;rw[List.drop_length];rfl
        rw[this];refine⟨rfl,rfl,rfl,rfl,(hA.keep fun b hb=>heap_alloc_old wR _ hb.2).mono fun b hb=>⟨by have:=hb.1;simpa using this,by have:=hb.2;simp;omega,by have:=hb.2;omega⟩⟩
      obtain⟨kd,nn,nm,aa,ln,cc,en,rfl,hW,hen⟩:=hval;have hz9:=aq_ wR (.cells #[.int .i64 kd,.string nm,.int .i64 nn,.slice aa ln cc] 43);have HW:=hid hW;have HEN:=hid hen;have K9:=hid (R4.new wR (.int .i64 kd) (.string nm) (.int .i64 nn) (.slice aa ln cc));have KR9:=hid (KR.out.low hz9);have GR9:=hid (GR.out.trans (hz9.mono GR.out.size));clear hres hW hen hz9 hbR;go_wp2
      go_loopw [11] (fun iv wr=>∃ (p:Nat) (kd nn:Int) (nm:ByteArray) (aa:OA_) (ln cc:Nat),iv=.int .i64 ((i+p:Nat):Int)∧p≤V.length∧R4 wr wR.heap.size (.int .i64 kd) (.string nm) (.int .i64 nn) (.slice aa ln cc)∧R4 wr w.heap.size (.int .i64 0) (.string ⟨#[]⟩) (.int .i64 0) (.slice none 0 0)∧Below w.heap.size w wr∧wR.heap.size+1≤wr.heap.size ∧
       iR_ (w.heap.size+1) wR.heap.size ((bR_ n (l.drop (j+1))).map fun x=>eQ_ V p x.1) wr kd nm nn aa ln cc) (fun iv _=>(intOf iv).toNat)
      case atStart=>exact⟨V.length,kd,nn,nm,aa,ln,cc,by have:=HJ.out;congr 1;omega,aA_ _,K9.out,KR9.out,GR9.out,by simp,HW.out⟩
      case round =>
       clear K9 KR9 GR9 HW;obtain⟨p,kd,nn,nm,aa,ln,cc,rfl,hp,k9,kr,gw,hsw,hW⟩:=hrel;have K9:=hid k9;have KRr:=hid kr;have GW:=hid gw;have HSW:=hid hsw;have HW:=hid hW;obtain⟨c0,c1,c2,c3⟩:=k9.c03
       by_cases hp0:p=0
       ·subst hp0
        have yi:¬ ((i+0:Nat):Int) > (i:Int):=(by omega);obtain⟨r0,r1,r2,r3⟩:=kr.c03;obtain⟨s0,s1,s2,s3⟩:=kr.f03;clear k9 kr gw hsw hW;go_wp2;have q4:=KRr.out.set4 (.int .i64 kd) (.string nm) (.int .i64 nn) (.slice aa ln cc);refine bodyPost_ret (v:=(.tuple #[.agg #[.int .i64 kd,.string nm,.int .i64 nn,.slice aa ln cc],.int .i64 en])) (by simp[results,Tryz.results56,go_sem,q4.c0,q4.c1,q4.c2,q4.c3]) rfl ?_;refine⟨GW.out.set4 (aA_ _) _ _ _ _,?_⟩;rw[E2.out];have hen:=HEN.out;have hW:=HW.out;cases hT:bR_ n (l.drop (j+1)) with
        | none =>
         rw[hT] at hen;simp only at hen;subst hen;exact⟨_,_,_,_,_,_,rfl⟩
        | some x =>
         obtain⟨t,r⟩:=x;rw[hT] at hen hW;simp only at hen;subst hen;obtain⟨rfl,rfl,rfl,rfl,hA⟩:=hW _ rfl;have k:=bn_ wr w.heap.size (.int .i64 (eQ_ V 0 t).kind) (.string (eQ_ V 0 t).name) (.int .i64 (eQ_ V 0 t).n) (.slice aa (eQ_ V 0 t).args.length cc);exact⟨aa,cc,rfl,(hA.keep fun b hb=>k.off b (by have:=hb.1;omega)).mono fun b hb=>⟨by have:=hb.1;omega,by rw[k.size];exact hb.2.1⟩⟩
       ·obtain⟨p,rfl⟩:∃ q,p=q+1:=⟨p - 1,by omega⟩
        have hpl:i+1+p<l.length:=(by have:=HJ.out;omega);obtain⟨_,cn⟩:=CT.out _ gw (i+1+p) hpl;have VE:=hid (VA.out p (by omega) hpl).2;have WS:=hid (fun t=>lR_ V p (by omega) t);have yi:((i+(p+1):Nat):Int) > (i:Int):=(by omega);have yj0:(0:Int)≤((i+(p+1):Nat):Int):=(by omega);have yj1:((i+(p+1):Nat):Int)<(l.length:Int):=(by omega);have hbw:b<wr.heap.size:=aU_ hbl gw.size;have hzr:=aq_ wr (.cells #[.int .i64 kd,.string nm,.int .i64 nn,.slice aa ln cc] 43);have ktz:=k9.low hzr;obtain⟨e0,e1,e2,e3⟩:=ktz.c03;obtain⟨x0,x1,x2,x3⟩:=ktz.f03;obtain⟨f0,f1,f2,f3⟩:=k9.f03;have cnz:=(hzr.cell (p:=⟨b,off+(i+1+p)*3+1,none⟩) hbw).trans cn;rw[show i+(p+1)=i+1+p from by omega] at yi yj0 yj1 ⊢;have HZR:=hid hzr;have hq4:i+1+p≤4000:=(by omega);have JP:Hid (((i+1+p:Nat):Int) - 1=((i+p:Nat):Int)):=hid (by omega);have MS:Hid (∀ x:Nat,x=i+1+p→x - 1<x):=hid (fun x h=>by omega);generalize l[i+1+p]=vt at *;clear k9 kr gw hsw hW hzr ktz;generalize i+1+p=jj at *;go_wp2
        go_region
        go_wp2;have hsw:=HSW.out;have hsr:=HSR.out;have sb:=bn_ (wr.alloc (.cells #[.int .i64 kd,.string nm,.int .i64 nn,.slice aa ln cc] 43)) wR.heap.size (.int .i64 5) (.string ⟨vt.text.toArray⟩) (.int .i64 0) (.slice (some ⟨wr.heap.size,0,none⟩) 1 1);have k4:R4 (((((wr.alloc (.cells #[.int .i64 kd,.string nm,.int .i64 nn,.slice aa ln cc] 43)).setCell ⟨wR.heap.size,0,none⟩ (.int .i64 5)).setCell ⟨wR.heap.size,1,none⟩ (.string ⟨vt.text.toArray⟩)).setCell ⟨wR.heap.size,2,none⟩ (.int .i64 0)).setCell ⟨wR.heap.size,3,none⟩ (.slice (some ⟨wr.heap.size,0,none⟩) 1 1)).drew wR.heap.size (.int .i64 5) (.string ⟨vt.text.toArray⟩) (.int .i64 0) (.slice (some ⟨wr.heap.size,0,none⟩) 1 1):=(K9.out.low HZR.out).set4 (.int .i64 5) (.string ⟨vt.text.toArray⟩) (.int .i64 0) (.slice (some ⟨wr.heap.size,0,none⟩) 1 1);have kr4:R4 (((((wr.alloc (.cells #[.int .i64 kd,.string nm,.int .i64 nn,.slice aa ln cc] 43)).setCell ⟨wR.heap.size,0,none⟩ (.int .i64 5)).setCell ⟨wR.heap.size,1,none⟩ (.string ⟨vt.text.toArray⟩)).setCell ⟨wR.heap.size,2,none⟩ (.int .i64 0)).setCell ⟨wR.heap.size,3,none⟩ (.slice (some ⟨wr.heap.size,0,none⟩) 1 1)).drew w.heap.size (.int .i64 0) (.string ⟨#[]⟩) (.int .i64 0) (.slice none 0 0):=(sb.off w.heap.size (by omega)).trans (KRr.out.low HZR.out);have g4:Below w.heap.size w (((((wr.alloc (.cells #[.int .i64 kd,.string nm,.int .i64 nn,.slice aa ln cc] 43)).setCell ⟨wR.heap.size,0,none⟩ (.int .i64 5)).setCell ⟨wR.heap.size,1,none⟩ (.string ⟨vt.text.toArray⟩)).setCell ⟨wR.heap.size,2,none⟩ (.int .i64 0)).setCell ⟨wR.heap.size,3,none⟩ (.slice (some ⟨wr.heap.size,0,none⟩) 1 1)).drew:=((GW.out.trans (HZR.out.mono GW.out.size)).set4 (by omega) _ _ _ _).trans ((Below.refl _ _).drew);have hfs:(((((wr.alloc (.cells #[.int .i64 kd,.string nm,.int .i64 nn,.slice aa ln cc] 43)).setCell ⟨wR.heap.size,0,none⟩ (.int .i64 5)).setCell ⟨wR.heap.size,1,none⟩ (.string ⟨vt.text.toArray⟩)).setCell ⟨wR.heap.size,2,none⟩ (.int .i64 0)).setCell ⟨wR.heap.size,3,none⟩ (.slice (some ⟨wr.heap.size,0,none⟩) 1 1)).drew.heap.size=wr.heap.size+1:=(by simp);have hW4:=i0_ (s:=vt.text) HW.out (W:=(((((wr.alloc (.cells #[.int .i64 kd,.string nm,.int .i64 nn,.slice aa ln cc] 43)).setCell ⟨wR.heap.size,0,none⟩ (.int .i64 5)).setCell ⟨wR.heap.size,1,none⟩ (.string ⟨vt.text.toArray⟩)).setCell ⟨wR.heap.size,2,none⟩ (.int .i64 0)).setCell ⟨wR.heap.size,3,none⟩ (.slice (some ⟨wr.heap.size,0,none⟩) 1 1)).drew) (by omega) (by omega) hfs (fun b hb hne=>(sb.off b hne).trans (heap_alloc_old wr _ hb)) ((sb.off wr.heap.size (by omega)).trans (heap_alloc_new wr _));go_roundw
        case measure=>simp[intOf];omega
        case rel=>exact⟨p,5,0,⟨vt.text.toArray⟩,some ⟨wr.heap.size,0,none⟩,1,1,by rw[← JP.out],by omega,k4,kr4,g4,by rw[hfs];omega,by
         have e:((bR_ n (l.drop (j+1))).map fun x=>eQ_ V p x.1)=(((bR_ n (l.drop (j+1))).map fun x=>eQ_ V (p+1) x.1).map (eV_ vt.text)):=by
          rw[Option.map_map];congr 1
          funext x
          show eQ_ V p x.1=eV_ vt.text (eQ_ V (p+1) x.1);rw[WS.out,VE.out]
         rw[e];exact hW4⟩
theorem l8_:∀ n:Nat,∀ m,m≤n→iT_ m:=by
 intro n
 induction n with
 | zero =>
  intro m hm;obtain rfl:m=0:=by omega
  exact⟨fun _ _ _ _ _ _ _ _ _ _ h=>by omega,fun _ _ _ _ _ _ _ _ _ _ h=>by omega,fun _ _ _ _ _ _ _ _ _ _ h=>by omega⟩
 | succ n ih =>
  intro m hm
  rcases Nat.lt_or_ge m (n+1) with h|h
  ·exact ih m (by omega)
  ·obtain rfl:m=n+1:=by omega
   have i:=ih n (aA_ _);refine⟨fun w a c l j x1 x2 x3 x4 x5 x6=>?_,fun w a c l j x1 x2 x3 x4 x5 x6=>pC_ n ih w a c l j x1 x2 x3 x4 x5 x6,fun w a c l j x1 x2 x3 x4 x5 x6=>nz_ n i w a c l j x1 x2 x3 x4 x5 x6⟩;cases h3:st (l.drop j) 3 fa with
   | false=>exact pn_ n w a c l j i x1 x2 x3 x4 x5 x6 h3
   | true=>exact po_ n w a c l j ih x1 x2 x3 x4 x5 x6 h3
theorem rsaid (n:Nat):iT_ n:=l8_ n n (aA_ n)
end Go.Proofs.YtjecnionbjlncaaGreatDoor.Tp

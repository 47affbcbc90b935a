/- Packed. -/
import Derived.Test.YtjecnionbjlncaaGreatDoorP30
set_option maxRecDepth 100000
set_option maxHeartbeats 6400000
namespace Go.Proofs.YtjecnionbjlncaaGreatDoor.Tp
open Go.RowKit
open Lx
theorem l0_ (p:Tok→Bool):∀ L:List Tok,L.dropWhile p=L.drop (L.takeWhile p).length∧(L.takeWhile p).length≤L.length ∧
  (∀ q (h:q<(L.takeWhile p).length) (h':q<L.length),p L[q]=true∧(L.takeWhile p)[q]=L[q])∧∀ (h:(L.takeWhile p).length<L.length),p L[(L.takeWhile p).length]=false:=by
 intro L
 induction L with
 | nil=>exact⟨rfl,aC_ _,fun q h=>by simp at h,fun h=>by simp at h⟩
 | cons t L ih =>
  obtain⟨h1,h2,h3,h4⟩:=ih;cases hp:p t with
  | false =>
   rw[List.takeWhile_cons,hp,List.dropWhile_cons,hp];exact⟨rfl,Nat.zero_le _,fun q h=>by simp at h,fun _=>hp⟩
  | true =>
   have e1:(t :: L).takeWhile p=t :: L.takeWhile p:=by rw[List.takeWhile_cons,hp];rfl
   have e2:(t :: L).dropWhile p=L.dropWhile p:=by rw[List.dropWhile_cons,hp];rfl
   refine⟨by rw[e1,e2,h1];rfl,by rw[e1];simpa using h2,fun q h h'=>?_,fun h=>?_⟩
   ·cases q with
    | zero=>exact⟨hp,by simp[e1]⟩
    | succ q =>
     have hq:q<(L.takeWhile p).length:=by rw[e1] at h;simpa using h
     obtain⟨a1,a2⟩:=h3 q hq (by omega);exact⟨a1,by simp only[e1,List.getElem_cons_succ];exact a2⟩
   ·have hq:(L.takeWhile p).length<L.length:=by rw[e1] at h;simpa using h
    have:=h4 hq;simp only[e1,List.length_cons,List.getElem_cons_succ];exact this
def im_ (lo b9:Nat)(res:Option Ty)(wr:World)(k:Int)(s:ByteArray)(m:Int)(a:OA_)(ln c:Nat):Prop :=
 ∀ T,res=some T→k=T.kind∧s=T.name∧m=T.n∧ln=T.args.length∧aa_ (fun b=>lo≤b∧b<wr.heap.size∧b≠b9) wr (.slice a ln c) T.args
theorem lE_ (n:Nat)(L R V:List Tok)(hV:cI_ L=V)(hR:cr_ L=R):eJ_ (n+1) L=if (!st R 6 dot || V.isEmpty)=true then none
   else match bC_ n R.tail with|none=>none|some (t,r)=>some (V.foldr (fun v t=>eG_ v.text t) t,r):=by
 subst hV hR;rw[eJ_];rfl
def eC_ (V:List Tok)(p:Nat)(t:Ty):Ty:=(V.drop p).foldr (fun v t=>eG_ v.text t) t
theorem kT_ (V:List Tok)(p:Nat)(h:p<V.length)(t:Ty):eC_ V p t=eG_ V[p].text (eC_ V (p+1) t):=by
 unfold eC_;rw[List.drop_eq_getElem_cons h,List.foldr_cons]
theorem iq_ {lo b9:Nat}{res:Option Ty}{wr W:World}{kd nn:Int}{nm:ByteArray}{aa:OA_}{ln cc:Nat}{s:List UInt8}(h:im_ lo b9 res wr kd nm nn aa ln cc)(hlo:lo≤wr.heap.size)(hb9:b9<wr.heap.size)(hs:W.heap.size=wr.heap.size+1)
  (hk:∀ b,b<wr.heap.size→b≠b9→W.heap[b]? = wr.heap[b]?) (hnew:W.heap[wr.heap.size]? = some (.cells #[.int .i64 kd,.string nm,.int .i64 nn,.slice aa ln cc] 43 (0,0))) :
  im_ lo b9 (res.map (eG_ s)) W 5 (ab_ s) 0 (some ⟨wr.heap.size,0,none⟩) 1 1:=by
 intro T hT;obtain⟨T0,h0,rfl⟩:=Option.map_eq_some_iff.1 hT;obtain⟨rfl,rfl,rfl,rfl,hA⟩:=h T0 h0;refine⟨rfl,rfl,rfl,rfl,mA_ hnew ⟨hlo,by omega,by omega⟩ ((hA.keep fun b hb=>hk b hb.2.1 hb.2.2).mono fun b hb=>⟨hb.1,by have:=hb.2.1;omega,hb.2.2⟩)⟩
theorem oa_ (n:Nat)(w:World)(a:OA_)(c:Nat)(l:List Tok)(i:Nat)(ih:∀ m,m≤n→io_ m)(ht:bu_ w (.slice a l.length c) l)(hb:∀ b o,a=some ⟨b,o,none⟩→b<w.heap.size)(hr:kM_ l)(hl:l.length≤4000)(hi:i≤l.length)(hn:4*(l.length - i)+4≤n+1)(h3:st (l.drop i) 3 fa=true):Calls Tryz.prog 56 #[.slice a l.length c,.int .i64 i] w (cM_ w l.length (bC_ (n+1) (l.drop i))):=by
 have hi1:i<l.length:=by have:=d5_ h3;rw[List.length_drop] at this;omega
 obtain⟨n,rfl⟩:∃ m,n=m+1:=⟨n - 1,by omega⟩;obtain⟨b,off,rfl,_,_⟩:=dO_ ht hi1;have hbl:=hb b off rfl;have hz:=aw_ w (.cells #[.int .i64 0,.string ⟨#[]⟩,.int .i64 0,.slice none 0 0] 43);have CI:=hid (gB_ 3 fa _ (some ⟨b,off,none⟩) c l i (bD_ ht hz) hi);have SQ:Hid (cC_ (l.drop i) 3 fa=true):=hid (by rw[do_ (by decide)];exact h3);have CJ:=hid (fun (W:World) (h:Below w.heap.size w W) (j:Nat) (hj:j≤l.length)=>gB_ 6 dot W (some ⟨b,off,none⟩) c l j (bD_ ht h) hj);have CR:=hid (fun (W:World) (h:Below w.heap.size w W) (j:Nat) (hj:j≤l.length) (hf:4*(l.length - j)+4≤n)=>(ih n (by omega)).typ W (some ⟨b,off,none⟩) c l j (bD_ ht h) (fun b' o' e=>by injection e with e;injection e with e1 e2;rw[← e1];exact ba_ hbl h.size) hr hl hj hf);have CT:=hid (fun (W:World) (h:Below w.heap.size w W) (j:Nat) (hj:j<l.length)=>show W.cell? ⟨b,off+j*3,none⟩=some (.int .i64 l[j].kind)∧W.cell? ⟨b,off+j*3+1,none⟩=some (.string ⟨l[j].text.toArray⟩) from by
  obtain⟨b',off',e,h1,h2⟩:=dO_ (bD_ ht h) hj;injection e with e;injection e with e1 e2
  subst e1 e2;exact⟨h1,h2⟩)
 have htl:(l.drop i).tail=l.drop (i+1):=List.tail_drop;have hts:=l0_ (fun t=>t.kind==1) (l.drop (i+1));have hV:cI_ (l.drop (i+1))=(l.drop (i+1)).takeWhile fun t=>t.kind==1:=rfl;have hR:cr_ (l.drop (i+1))=(l.drop (i+1)).dropWhile fun t=>t.kind==1:=rfl;rw[← hV,← hR] at hts;obtain⟨t1,t2,t3,t4⟩:=hts;rw[List.drop_drop] at t1;rw[List.length_drop] at t2;have E:Hid (bC_ (n+1+1) (l.drop i)=if (!st (l.drop (i+1+(cI_ (l.drop (i+1))).length)) 6 dot || (cI_ (l.drop (i+1))).isEmpty)=true then none
   else match bC_ n (l.drop (i+1+(cI_ (l.drop (i+1))).length)).tail with|none=>none|some (t,r)=>some ((cI_ (l.drop (i+1))).foldr (fun v t=>eG_ v.text t) t,r)):=hid (by
  rw[bC_,if_pos h3,htl];exact lE_ n _ _ _ rfl t1)
 have VA:Hid (∀ q (h:q<(cI_ (l.drop (i+1))).length) (h':i+1+q<l.length),l[i+1+q].kind=1∧(cI_ (l.drop (i+1)))[q]=l[i+1+q]):=hid (fun q h h'=>by
  obtain⟨a1,a2⟩:=t3 q h (by rw[List.length_drop];omega);rw[List.getElem_drop] at a1 a2;exact⟨by simpa using a1,a2⟩)
 have VB:Hid (∀ (h:i+1+(cI_ (l.drop (i+1))).length<l.length),l[i+1+(cI_ (l.drop (i+1))).length].kind≠1):=hid (fun h=>by
  have:=t4 (by rw[List.length_drop];omega);rw[List.getElem_drop] at this;simpa using this)
 have b4:=hid (R4.new w (.int .i64 0) (.string ⟨#[]⟩) (.int .i64 0) (.slice none 0 0));have HZ:=hid hz;have hfu:4*(l.length - i)+4≤n+1+1:=hn;have z0:(0:Int)≤(i:Int):=by omega
 clear ht hb hr ih hz h3 hn htl hV hR t1 t3 t4;generalize cI_ (l.drop (i+1))=V at *;go_enter Tryz.func56,Tryz.ntmps56;go_wp2_with fail;refine CI.out.mono ?_;rintro e w1 ⟨he,rfl⟩;rw[SQ.out] at he;subst he;go_wp2
 go_loop [7] (fun kv=>∃ q:Nat,kv=.int .i64 ((i+1+q:Nat):Int)∧q≤V.length) (fun kv=>l.length - (intOf kv).toNat)
 case atStart=>exact⟨0,by go_num,Nat.zero_le _⟩
 case round =>
  obtain⟨q,rfl,hq⟩:=hrel;have y0:(0:Int)≤((i+1+q:Nat):Int):=by omega
  by_cases hqv:q<V.length
  ·have hlt:i+1+q<l.length:=by omega
   have y1:((i+1+q:Nat):Int)<(l.length:Int):=(by omega);obtain⟨c0,c1⟩:=CT.out _ HZ.out (i+1+q) hlt;rw[(VA.out q hqv hlt).1] at c0;have JJ:Hid (i+1+(q+1)=i+1+q+1):=hid (by omega);have hj2:i+1+q≤4000:=(by omega);have hj3:i+1+q<l.length:=hlt;clear c1;generalize i+1+q=j at *;go_wp2;go_round
   case rel=>exact⟨q+1,by rw[JJ.out];go_num,by omega⟩
   case measure=>simp[intOf];omega
  ·obtain rfl:q=V.length:=by omega
   have hst:(∃ hlt:i+1+V.length<l.length,True)∨i+1+V.length=l.length:=by
    by_cases h:i+1+V.length<l.length
    ·exact .inl ⟨h,trivial⟩
    ·exact .inr (by omega)
   -- the loop's test is false
   have hout:∀ P:Prop,((∀ (k:Nat) (_:((i+1+V.length:Nat):Int)<(l.length:Int)) (_:((k:Int)==1)=false) (_:(w.alloc (.cells #[.int .i64 0,.string ⟨#[]⟩,.int .i64 0,.slice none 0 0] 43)).cell? ⟨b,off+(i+1+V.length)*3,none⟩=some (.int .i64 k)),P)∧(¬ ((i+1+V.length:Nat):Int)<(l.length:Int)→P))→P:=fun P h=>by
    rcases hst with ⟨hlt,_⟩|he
    ·exact h.1 _ (by omega) (by have:=VB.out hlt;rw[beq_eq_false_iff_ne];omega) (CT.out _ HZ.out _ hlt).1
    ·exact h.2 (by omega)
   have hjl:i+1+V.length≤l.length:=(by omega);have hj2:i+1+V.length≤4000:=(by omega);have C2:=hid (CJ.out _ HZ.out (i+1+V.length) hjl);have HV:Hid (V=V):=hid rfl;clear hst HV;obtain⟨j,hj⟩:∃ j:Nat,i+1+V.length=j:=⟨_,rfl⟩;have HJ:=hid hj;rw[hj] at E C2 hout hjl hj2 ⊢;clear hj;refine hout _ ⟨fun kk y1 yk ck=>?_,fun y1=>?_⟩
   all_goals
    clear hout;go_wp2_with fail;refine C2.out.mono ?_;rintro e w3 ⟨rfl,rfl⟩;clear y1;cases hdot:cC_ (l.drop j) 6 dot with
    | false =>
     have E2:Hid (bC_ (n+1+1) (l.drop i)=none):=hid (by rw[E.out,← do_ (s:=dot) (by decide),hdot];rfl);have d0:=b4.out.c0;clear hdot d0;go_wp2;have q4:=R4.new w (.int .i64 0) (.string ⟨#[]⟩) (.int .i64 0) (.slice none 0 0);refine bodyPost_ret (v:=(.tuple #[.agg #[.int .i64 0,.string ⟨#[]⟩,.int .i64 0,.slice none 0 0],.int .i64 (-1)])) (by simp[results,Tryz.results56,go_sem,q4.c0,q4.c1,q4.c2,q4.c3]) rfl ?_;rw[E2.out];exact c1_ HZ.out
    | true =>
     by_cases hv0:V.length=0
     ·have E2:Hid (bC_ (n+1+1) (l.drop i)=none):=hid (by rw[E.out,← do_ (s:=dot) (by decide),hdot,List.eq_nil_of_length_eq_zero hv0];rfl)
      have yj:((j:Int)==(i:Int)+1)=true:=by have:=HJ.out;rw[beq_iff_eq];omega
      clear hdot;go_wp2;have q4:=R4.new w (.int .i64 0) (.string ⟨#[]⟩) (.int .i64 0) (.slice none 0 0);refine bodyPost_ret (v:=(.tuple #[.agg #[.int .i64 0,.string ⟨#[]⟩,.int .i64 0,.slice none 0 0],.int .i64 (-1)])) (by simp[results,Tryz.results56,go_sem,q4.c0,q4.c1,q4.c2,q4.c3]) rfl ?_;rw[E2.out];exact c1_ HZ.out
     ·have yj:((j:Int)==(i:Int)+1)=false:=by have:=HJ.out;rw[beq_eq_false_iff_ne];omega
      have hjlt:j<l.length:=by
       have:=hdot;rw[do_ (by decide)] at this;have:=d5_ this;rw[List.length_drop] at this;omega
      have hvi:V.isEmpty=false:=by cases V with|nil=>exact absurd rfl hv0|cons=>rfl
      have E2:Hid (bC_ (n+1+1) (l.drop i)=match bC_ n (l.drop (j+1)) with|none=>none|some (t,r)=>some (eC_ V 0 t,r)):=hid (by
       rw[E.out,← do_ (s:=dot) (by decide),hdot,hvi,List.tail_drop];rfl)
      have cr:=CR.out _ HZ.out (j+1) (by omega) (by have:=HJ.out;omega);rw[show ((j+1:Nat):Int)=(j:Int)+1 from by omega] at cr;have C3:=hid cr;clear hdot cr hvi;go_wp2_with fail;refine C3.out.mono ?_;rintro e wR ⟨hbR,hres⟩;have KR:=hid (b4.out.low hbR);have GR:=hid (HZ.out.trans (hbR.mono HZ.out.size));have HSR:Hid (w.heap.size+1≤wR.heap.size):=hid (by have:=hbR.size;simpa using this)
      -- what Read told,as values
      have hval:∃ (kd nn:Int) (nm:ByteArray) (aa:OA_) (ln cc:Nat) (en:Int),e=.returned (.tuple #[.agg #[.int .i64 kd,.string nm,.int .i64 nn,.slice aa ln cc],.int .i64 en]) ∧
        im_ (w.heap.size+1) wR.heap.size ((bC_ n (l.drop (j+1))).map fun x=>eC_ V V.length x.1) (wR.alloc (.cells #[.int .i64 kd,.string nm,.int .i64 nn,.slice aa ln cc] 43)) kd nm nn aa ln cc ∧
        en=(match bC_ n (l.drop (j+1)) with|none=>-1|some (_,r)=>((l.length - r.length:Nat):Int)):=by
       cases hT:bC_ n (l.drop (j+1)) with
       | none =>
        rw[hT] at hres;obtain⟨k,s,m,a',c',c'',rfl⟩:=hres;exact⟨k,m,s,a',c',c'',-1,rfl,fun T h=>(by cases h),rfl⟩
       | some x =>
        obtain⟨t,r⟩:=x;rw[hT] at hres;obtain⟨a',c',rfl,hA⟩:=hres;refine⟨t.kind,t.n,t.name,a',t.args.length,c',_,rfl,fun T h=>?_,rfl⟩;simp only[Option.map_some,Option.some.injEq] at h;subst h;have:eC_ V V.length t=t:=by unfold eC_;rw[List.drop_length];rfl
        rw[this];refine⟨rfl,rfl,rfl,rfl,(hA.keep fun b hb=>heap_alloc_old wR _ hb.2).mono fun b hb=>⟨by have:=hb.1;simpa using this,by have:=hb.2;simp;omega,by have:=hb.2;omega⟩⟩
      obtain⟨kd,nn,nm,aa,ln,cc,en,rfl,hW,hen⟩:=hval;have hz9:=aw_ wR (.cells #[.int .i64 kd,.string nm,.int .i64 nn,.slice aa ln cc] 43);have HW:=hid hW;have HEN:=hid hen;have K9:=hid (R4.new wR (.int .i64 kd) (.string nm) (.int .i64 nn) (.slice aa ln cc));have KR9:=hid (KR.out.low hz9);have GR9:=hid (GR.out.trans (hz9.mono GR.out.size));clear hres hW hen hz9 hbR;go_wp2
      go_loopw [11] (fun iv wr=>∃ (p:Nat) (kd nn:Int) (nm:ByteArray) (aa:OA_) (ln cc:Nat),iv=.int .i64 ((i+p:Nat):Int)∧p≤V.length∧R4 wr wR.heap.size (.int .i64 kd) (.string nm) (.int .i64 nn) (.slice aa ln cc)∧R4 wr w.heap.size (.int .i64 0) (.string ⟨#[]⟩) (.int .i64 0) (.slice none 0 0)∧Below w.heap.size w wr∧wR.heap.size+1≤wr.heap.size ∧
       im_ (w.heap.size+1) wR.heap.size ((bC_ n (l.drop (j+1))).map fun x=>eC_ V p x.1) wr kd nm nn aa ln cc) (fun iv _=>(intOf iv).toNat)
      case atStart=>exact⟨V.length,kd,nn,nm,aa,ln,cc,by have:=HJ.out;congr 1;omega,aC_ _,K9.out,KR9.out,GR9.out,by simp,HW.out⟩
      case round =>
       clear K9 KR9 GR9 HW;obtain⟨p,kd,nn,nm,aa,ln,cc,rfl,hp,k9,kr,gw,hsw,hW⟩:=hrel;have K9:=hid k9;have KRr:=hid kr;have GW:=hid gw;have HSW:=hid hsw;have HW:=hid hW;obtain⟨c0,c1,c2,c3⟩:=k9.c03
       by_cases hp0:p=0
       ·subst hp0
        have yi:¬ ((i+0:Nat):Int) > (i:Int):=(by omega);obtain⟨r0,r1,r2,r3⟩:=kr.c03;obtain⟨s0,s1,s2,s3⟩:=kr.f03;clear k9 kr gw hsw hW;go_wp2;have q4:=KRr.out.set4 (.int .i64 kd) (.string nm) (.int .i64 nn) (.slice aa ln cc);refine bodyPost_ret (v:=(.tuple #[.agg #[.int .i64 kd,.string nm,.int .i64 nn,.slice aa ln cc],.int .i64 en])) (by simp[results,Tryz.results56,go_sem,q4.c0,q4.c1,q4.c2,q4.c3]) rfl ?_;refine⟨GW.out.set4 (aC_ _) _ _ _ _,?_⟩;rw[E2.out];have hen:=HEN.out;have hW:=HW.out;cases hT:bC_ n (l.drop (j+1)) with
        | none =>
         rw[hT] at hen;simp only at hen;subst hen;exact⟨_,_,_,_,_,_,rfl⟩
        | some x =>
         obtain⟨t,r⟩:=x;rw[hT] at hen hW;simp only at hen;subst hen;obtain⟨rfl,rfl,rfl,rfl,hA⟩:=hW _ rfl;have k:=a7_ wr w.heap.size (.int .i64 (eC_ V 0 t).kind) (.string (eC_ V 0 t).name) (.int .i64 (eC_ V 0 t).n) (.slice aa (eC_ V 0 t).args.length cc);exact⟨aa,cc,rfl,(hA.keep fun b hb=>k.off b (by have:=hb.1;omega)).mono fun b hb=>⟨by have:=hb.1;omega,by rw[k.size];exact hb.2.1⟩⟩
       ·obtain⟨p,rfl⟩:∃ q,p=q+1:=⟨p - 1,by omega⟩
        have hpl:i+1+p<l.length:=(by have:=HJ.out;omega);obtain⟨_,cn⟩:=CT.out _ gw (i+1+p) hpl;have VE:=hid (VA.out p (by omega) hpl).2;have WS:=hid (fun t=>kT_ V p (by omega) t);have yi:((i+(p+1):Nat):Int) > (i:Int):=(by omega);have yj0:(0:Int)≤((i+(p+1):Nat):Int):=(by omega);have yj1:((i+(p+1):Nat):Int)<(l.length:Int):=(by omega);have hbw:b<wr.heap.size:=ba_ hbl gw.size;have hzr:=aw_ wr (.cells #[.int .i64 kd,.string nm,.int .i64 nn,.slice aa ln cc] 43);have ktz:=k9.low hzr;obtain⟨e0,e1,e2,e3⟩:=ktz.c03;obtain⟨x0,x1,x2,x3⟩:=ktz.f03;obtain⟨f0,f1,f2,f3⟩:=k9.f03;have cnz:=(hzr.cell (p:=⟨b,off+(i+1+p)*3+1,none⟩) hbw).trans cn;rw[show i+(p+1)=i+1+p from by omega] at yi yj0 yj1 ⊢;have HZR:=hid hzr;have hq4:i+1+p≤4000:=(by omega);have JP:Hid (((i+1+p:Nat):Int) - 1=((i+p:Nat):Int)):=hid (by omega);have MS:Hid (∀ x:Nat,x=i+1+p→x - 1<x):=hid (fun x h=>by omega);generalize l[i+1+p]=vt at *;clear k9 kr gw hsw hW hzr ktz;generalize i+1+p=jj at *;go_wp2
        go_region
        go_wp2;have hsw:=HSW.out;have hsr:=HSR.out;have sb:=a7_ (wr.alloc (.cells #[.int .i64 kd,.string nm,.int .i64 nn,.slice aa ln cc] 43)) wR.heap.size (.int .i64 5) (.string ⟨vt.text.toArray⟩) (.int .i64 0) (.slice (some ⟨wr.heap.size,0,none⟩) 1 1);have k4:R4 (((((wr.alloc (.cells #[.int .i64 kd,.string nm,.int .i64 nn,.slice aa ln cc] 43)).setCell ⟨wR.heap.size,0,none⟩ (.int .i64 5)).setCell ⟨wR.heap.size,1,none⟩ (.string ⟨vt.text.toArray⟩)).setCell ⟨wR.heap.size,2,none⟩ (.int .i64 0)).setCell ⟨wR.heap.size,3,none⟩ (.slice (some ⟨wr.heap.size,0,none⟩) 1 1)).drew wR.heap.size (.int .i64 5) (.string ⟨vt.text.toArray⟩) (.int .i64 0) (.slice (some ⟨wr.heap.size,0,none⟩) 1 1):=(K9.out.low HZR.out).set4 (.int .i64 5) (.string ⟨vt.text.toArray⟩) (.int .i64 0) (.slice (some ⟨wr.heap.size,0,none⟩) 1 1);have kr4:R4 (((((wr.alloc (.cells #[.int .i64 kd,.string nm,.int .i64 nn,.slice aa ln cc] 43)).setCell ⟨wR.heap.size,0,none⟩ (.int .i64 5)).setCell ⟨wR.heap.size,1,none⟩ (.string ⟨vt.text.toArray⟩)).setCell ⟨wR.heap.size,2,none⟩ (.int .i64 0)).setCell ⟨wR.heap.size,3,none⟩ (.slice (some ⟨wr.heap.size,0,none⟩) 1 1)).drew w.heap.size (.int .i64 0) (.string ⟨#[]⟩) (.int .i64 0) (.slice none 0 0):=(sb.off w.heap.size (by omega)).trans (KRr.out.low HZR.out);have g4:Below w.heap.size w (((((wr.alloc (.cells #[.int .i64 kd,.string nm,.int .i64 nn,.slice aa ln cc] 43)).setCell ⟨wR.heap.size,0,none⟩ (.int .i64 5)).setCell ⟨wR.heap.size,1,none⟩ (.string ⟨vt.text.toArray⟩)).setCell ⟨wR.heap.size,2,none⟩ (.int .i64 0)).setCell ⟨wR.heap.size,3,none⟩ (.slice (some ⟨wr.heap.size,0,none⟩) 1 1)).drew:=((GW.out.trans (HZR.out.mono GW.out.size)).set4 (by omega) _ _ _ _).trans ((Below.refl _ _).drew);have hfs:(((((wr.alloc (.cells #[.int .i64 kd,.string nm,.int .i64 nn,.slice aa ln cc] 43)).setCell ⟨wR.heap.size,0,none⟩ (.int .i64 5)).setCell ⟨wR.heap.size,1,none⟩ (.string ⟨vt.text.toArray⟩)).setCell ⟨wR.heap.size,2,none⟩ (.int .i64 0)).setCell ⟨wR.heap.size,3,none⟩ (.slice (some ⟨wr.heap.size,0,none⟩) 1 1)).drew.heap.size=wr.heap.size+1:=(by simp);have hW4:=iq_ (s:=vt.text) HW.out (W:=(((((wr.alloc (.cells #[.int .i64 kd,.string nm,.int .i64 nn,.slice aa ln cc] 43)).setCell ⟨wR.heap.size,0,none⟩ (.int .i64 5)).setCell ⟨wR.heap.size,1,none⟩ (.string ⟨vt.text.toArray⟩)).setCell ⟨wR.heap.size,2,none⟩ (.int .i64 0)).setCell ⟨wR.heap.size,3,none⟩ (.slice (some ⟨wr.heap.size,0,none⟩) 1 1)).drew) (by omega) (by omega) hfs (fun b hb hne=>(sb.off b hne).trans (heap_alloc_old wr _ hb)) ((sb.off wr.heap.size (by omega)).trans (heap_alloc_new wr _));go_roundw
        case measure=>simp[intOf];omega
        case rel=>exact⟨p,5,0,⟨vt.text.toArray⟩,some ⟨wr.heap.size,0,none⟩,1,1,by rw[← JP.out],by omega,k4,kr4,g4,by rw[hfs];omega,by
         have e:((bC_ n (l.drop (j+1))).map fun x=>eC_ V p x.1)=(((bC_ n (l.drop (j+1))).map fun x=>eC_ V (p+1) x.1).map (eG_ vt.text)):=by
          rw[Option.map_map];congr 1
          funext x
          show eC_ V p x.1=eG_ vt.text (eC_ V (p+1) x.1);rw[WS.out,VE.out]
         rw[e];exact hW4⟩
theorem k8_:∀ n:Nat,∀ m,m≤n→io_ m:=by
 intro n
 induction n with
 | zero =>
  intro m hm;obtain rfl:m=0:=by omega
  exact⟨fun _ _ _ _ _ _ _ _ _ _ h=>by omega,fun _ _ _ _ _ _ _ _ _ _ h=>by omega,fun _ _ _ _ _ _ _ _ _ _ h=>by omega⟩
 | succ n ih =>
  intro m hm
  rcases Nat.lt_or_ge m (n+1) with h|h
  ·exact ih m (by omega)
  ·obtain rfl:m=n+1:=by omega
   have i:=ih n (aC_ _);refine⟨fun w a c l j x1 x2 x3 x4 x5 x6=>?_,fun w a c l j x1 x2 x3 x4 x5 x6=>on_ n ih w a c l j x1 x2 x3 x4 x5 x6,fun w a c l j x1 x2 x3 x4 x5 x6=>my_ n i w a c l j x1 x2 x3 x4 x5 x6⟩;cases h3:st (l.drop j) 3 fa with
   | false=>exact n9_ n w a c l j i x1 x2 x3 x4 x5 x6 h3
   | true=>exact oa_ n w a c l j ih x1 x2 x3 x4 x5 x6 h3
theorem rsaid (n:Nat):io_ n:=k8_ n n (aC_ n)
end Go.Proofs.YtjecnionbjlncaaGreatDoor.Tp
namespace Go.Proofs.YtjecnionbjlncaaGreatDoor
open Go.RowKit
open Lx
theorem ax_ {p:Nat × Nat}{a b:Nat}(h:p=(a,b)):Ending.returned (.tuple #[.int .i64 a,.int .i64 b])=.returned (.tuple #[.int .i64 p.1,.int .i64 p.2]):=by rw[h]
def dN_ (s:ByteArray)(i:Nat):Nat × Nat :=
 if (aW_ (s.data.toList.drop i)).2=0 then (0,i) else ((aW_ (s.data.toList.drop i)).1,i+(aW_ (s.data.toList.drop i)).2)
theorem aS_ (s:ByteArray)(i k:Nat):(s.extract i k).data.toList=(s.data.toList.drop i).take (k - i):=by simp
theorem fg_ (s:ByteArray)(i k:Nat)(h:i<k)(hk:k≤s.size):(s.extract i k)[0]'(by rw[ByteArray.size_extract];omega)=s[i]:=by
 rw[← h4_,aS_,cl_ s i (by omega),show k - i=(k - i - 1)+1 by omega];rfl
theorem j1_ (c:UInt8)(h:bN_ c=true):aV_ c=decide ((c.toNat:Int)≤90):=by
 simp only[bN_,a9_,aV_,Bool.or_eq_true,decide_eq_true_eq] at *;rw[decide_eq_decide];omega
theorem j9_ (s:ByteArray)(i k:Nat)(hi:i<s.size)(h1:bN_ s[i]=true)(sp:bp_ aP_ (s.data.toList.drop i)=k - i):i<k:=by
 have hw:(a9_ s[i] || aV_ s[i])=true:=h1;have hin:aP_ s[i]=true:=by unfold aP_;rw[hw];rfl
 rw[cl_ s i hi] at sp;simp[bp_,hin] at sp;omega
theorem mV_ (s:ByteArray)(i k:Nat)(hi:i<s.size)(h1:bN_ s[i]=true)(sp:bp_ aP_ (s.data.toList.drop i)=k - i)(hij:i≤k) :
  dN_ s i=if 16<k - i then (0,i) else (e9_ ((s.data.toList.drop i).take (k - i)),k):=by
 have hw:(a9_ s[i] || aV_ s[i])=true:=h1;have e:aW_ (s.data.toList.drop i)=if 16<k - i then (0,0) else (e9_ ((s.data.toList.drop i).take (k - i)),k - i):=by
  unfold aW_;rw[cl_ s i hi,List.headD_cons,if_pos hw,← cl_ s i hi,sp]
 unfold dN_;rw[e]
 by_cases c:16<k - i
 ·simp[c]
 ·have hpos:k - i≠0:=by
   rw[← sp,cl_ s i hi];have hin:aP_ s[i]=true:=by unfold aP_;rw[hw];rfl
   simp[bp_,hin]
  simp only[if_neg c,if_neg hpos];rw[show i+(k - i)=k by omega]
theorem oA_ (s:ByteArray)(i:Nat)(w:World)(hs:s.size≤maxLen)(hi:i<s.size)(h1:bN_ s[i]=true) :
  Calls Tryz.prog 94 #[.string s,.int .i64 i] w fun e w'=>e=.returned (.tuple #[.int .i64 (dN_ s i).1,.int .i64 (dN_ s i).2])∧w=w':=by
 unfold maxLen at hs;go_enter Tryz.func94,Tryz.ntmps94;go_wp2_with fail;refine (ak_ _ _).mono ?_;rw[h1];rintro e w' ⟨rfl,rfl⟩;go_wp2
 go_loop [7] (fun k=>∃ j:Nat,i≤j∧j≤s.size∧k=.int .i64 j∧Run aP_ s i j) (fun k=>s.size - (intOf k).toNat)
 case atStart=>exact⟨i,Nat.le_refl _,by omega,rfl,fun _ _ _ _=>by omega⟩
 case round =>
  obtain⟨k,hij,hk,rfl,hrun⟩:=hrel;have R:=Lib.hid hrun;clear hrun
  by_cases hlt:k<s.size
  ·cases hl:bN_ s[k]
   ·cases hd:au_ s[k]
    ·by_cases c95:s[k]=95
     ·have f95:=bF_ 95 95 c95 rfl
      have RN:=Lib.hid (R.out.step hlt (by unfold aP_;rw[show (a9_ s[k] || aV_ s[k])=false from hl,hd];simp[c95]));clear c95;go_wp2_with (first|(go_at_call 130;refine (ak_ _ _).mono ?_;(first|rw[hl]|rw[h1]);rintro e w' ⟨rfl,rfl⟩)|(go_at_call 131;refine (am_ _ _).mono ?_;(first|rw[hd]|rw[h3]);rintro e w' ⟨rfl,rfl⟩));go_round
      case rel=>exact⟨k+1,by omega,by omega,by go_num,RN.out⟩
      case measure=>simp[intOf];omega
     ·have f95:=bn_ 95 95 c95 rfl
      have sp:=R.out.stop hij hlt (by unfold aP_;rw[show (a9_ s[k] || aV_ s[k])=false from hl,hd];simp;exact fun h=>c95 (UInt8.toNat_inj.1 h));have en:=mV_ s i k hi h1 sp hij;have hpos:=j9_ s i k hi h1 sp;clear c95 sp
      by_cases c16:16<k - i
      ·rw[if_pos c16] at en
       have EN:=Lib.hid en;clear en;go_wp2_with (first|(go_at_call 130;refine (ak_ _ _).mono ?_;(first|rw[hl]|rw[h1]);rintro e w' ⟨rfl,rfl⟩)|(go_at_call 131;refine (am_ _ _).mono ?_;(first|rw[hd]|rw[h3]);rintro e w' ⟨rfl,rfl⟩));go_ret2;exact⟨ax_ EN.out,rfl⟩
      rw[if_neg c16] at en;have EN:=Lib.hid en;clear en;have c16':(k:Int) - (i:Int)≤16:=(by omega);clear c16
      by_cases q0:((s.extract i k).toList==[100,97,116,97])=true
      ·have K:=bA_ q0 (by decide)
       rw[aS_ s i k] at K;rw[K] at EN;clear K;go_wp2_with (first|(go_at_call 130;refine (ak_ _ _).mono ?_;(first|rw[hl]|rw[h1]);rintro e w' ⟨rfl,rfl⟩)|(go_at_call 131;refine (am_ _ _).mono ?_;(first|rw[hd]|rw[h3]);rintro e w' ⟨rfl,rfl⟩));go_ret2;exact⟨ax_ EN.out,rfl⟩
      have p0:((s.extract i k).toList==[100,97,116,97])=false:=by simpa using q0
      clear q0
      by_cases q1:((s.extract i k).toList==[108,101,116])=true
      ·have K:=bA_ q1 (by decide)
       rw[aS_ s i k] at K;rw[K] at EN;clear K;go_wp2_with (first|(go_at_call 130;refine (ak_ _ _).mono ?_;(first|rw[hl]|rw[h1]);rintro e w' ⟨rfl,rfl⟩)|(go_at_call 131;refine (am_ _ _).mono ?_;(first|rw[hd]|rw[h3]);rintro e w' ⟨rfl,rfl⟩));go_ret2;exact⟨ax_ EN.out,rfl⟩
      have p1:((s.extract i k).toList==[108,101,116])=false:=by simpa using q1
      clear q1
      by_cases q2:((s.extract i k).toList==[105,110])=true
      ·have K:=bA_ q2 (by decide)
       rw[aS_ s i k] at K;rw[K] at EN;clear K;go_wp2_with (first|(go_at_call 130;refine (ak_ _ _).mono ?_;(first|rw[hl]|rw[h1]);rintro e w' ⟨rfl,rfl⟩)|(go_at_call 131;refine (am_ _ _).mono ?_;(first|rw[hd]|rw[h3]);rintro e w' ⟨rfl,rfl⟩));go_ret2;exact⟨ax_ EN.out,rfl⟩
      have p2:((s.extract i k).toList==[105,110])=false:=by simpa using q2
      clear q2
      by_cases q3:((s.extract i k).toList==[99,97,115,101])=true
      ·have K:=bA_ q3 (by decide)
       rw[aS_ s i k] at K;rw[K] at EN;clear K;go_wp2_with (first|(go_at_call 130;refine (ak_ _ _).mono ?_;(first|rw[hl]|rw[h1]);rintro e w' ⟨rfl,rfl⟩)|(go_at_call 131;refine (am_ _ _).mono ?_;(first|rw[hd]|rw[h3]);rintro e w' ⟨rfl,rfl⟩));go_ret2;exact⟨ax_ EN.out,rfl⟩
      have p3:((s.extract i k).toList==[99,97,115,101])=false:=by simpa using q3
      clear q3
      by_cases q4:((s.extract i k).toList==[111,102])=true
      ·have K:=bA_ q4 (by decide)
       rw[aS_ s i k] at K;rw[K] at EN;clear K;go_wp2_with (first|(go_at_call 130;refine (ak_ _ _).mono ?_;(first|rw[hl]|rw[h1]);rintro e w' ⟨rfl,rfl⟩)|(go_at_call 131;refine (am_ _ _).mono ?_;(first|rw[hd]|rw[h3]);rintro e w' ⟨rfl,rfl⟩));go_ret2;exact⟨ax_ EN.out,rfl⟩
      have p4:((s.extract i k).toList==[111,102])=false:=by simpa using q4
      clear q4
      by_cases q5:((s.extract i k).toList==[102,111,114,97,108,108])=true
      ·have K:=bA_ q5 (by decide)
       rw[aS_ s i k] at K;rw[K] at EN;clear K;go_wp2_with (first|(go_at_call 130;refine (ak_ _ _).mono ?_;(first|rw[hl]|rw[h1]);rintro e w' ⟨rfl,rfl⟩)|(go_at_call 131;refine (am_ _ _).mono ?_;(first|rw[hd]|rw[h3]);rintro e w' ⟨rfl,rfl⟩));go_ret2;exact⟨ax_ EN.out,rfl⟩
      have p5:((s.extract i k).toList==[102,111,114,97,108,108])=false:=by simpa using q5
      clear q5;have kw:=fL_ p0 p1 p2 p3 p4 p5 (by rw[ByteArray.size_extract];omega);rw[aS_ s i k,fg_ s i k hpos (by omega),j1_ s[i] h1] at kw;cases hle:decide ((s[i].toNat:Int)≤90)
      all_goals
       rw[hle] at kw;rw[kw] at EN;clear kw;go_wp2_with (first|(go_at_call 130;refine (ak_ _ _).mono ?_;(first|rw[hl]|rw[h1]);rintro e w' ⟨rfl,rfl⟩)|(go_at_call 131;refine (am_ _ _).mono ?_;(first|rw[hd]|rw[h3]);rintro e w' ⟨rfl,rfl⟩));go_ret2;exact⟨ax_ EN.out,rfl⟩
    ·have RN:=Lib.hid (R.out.step hlt (by unfold aP_;rw[hd];simp))
     go_wp2_with (first|(go_at_call 130;refine (ak_ _ _).mono ?_;(first|rw[hl]|rw[h1]);rintro e w' ⟨rfl,rfl⟩)|(go_at_call 131;refine (am_ _ _).mono ?_;(first|rw[hd]|rw[h3]);rintro e w' ⟨rfl,rfl⟩));go_round
     case rel=>exact⟨k+1,by omega,by omega,by go_num,RN.out⟩
     case measure=>simp[intOf];omega
   ·have RN:=Lib.hid (R.out.step hlt (by unfold aP_;rw[show (a9_ s[k] || aV_ s[k])=true from hl];simp))
    go_wp2_with (first|(go_at_call 130;refine (ak_ _ _).mono ?_;(first|rw[hl]|rw[h1]);rintro e w' ⟨rfl,rfl⟩)|(go_at_call 131;refine (am_ _ _).mono ?_;(first|rw[hd]|rw[h3]);rintro e w' ⟨rfl,rfl⟩));go_round
    case rel=>exact⟨k+1,by omega,by omega,by go_num,RN.out⟩
    case measure=>simp[intOf];omega
  ·have sp:=R.out.full hij (by omega)
   have en:=mV_ s i k hi h1 sp hij;have hpos:=j9_ s i k hi h1 sp;clear sp
   by_cases c16:16<k - i
   ·rw[if_pos c16] at en
    have EN:=Lib.hid en;clear en;go_wp2_with (first|(go_at_call 130;refine (ak_ _ _).mono ?_;(first|rw[hl]|rw[h1]);rintro e w' ⟨rfl,rfl⟩)|(go_at_call 131;refine (am_ _ _).mono ?_;(first|rw[hd]|rw[h3]);rintro e w' ⟨rfl,rfl⟩));go_ret2;exact⟨ax_ EN.out,rfl⟩
   rw[if_neg c16] at en;have EN:=Lib.hid en;clear en;have c16':(k:Int) - (i:Int)≤16:=(by omega);clear c16
   by_cases q0:((s.extract i k).toList==[100,97,116,97])=true
   ·have K:=bA_ q0 (by decide)
    rw[aS_ s i k] at K;rw[K] at EN;clear K;go_wp2_with (first|(go_at_call 130;refine (ak_ _ _).mono ?_;(first|rw[hl]|rw[h1]);rintro e w' ⟨rfl,rfl⟩)|(go_at_call 131;refine (am_ _ _).mono ?_;(first|rw[hd]|rw[h3]);rintro e w' ⟨rfl,rfl⟩));go_ret2;exact⟨ax_ EN.out,rfl⟩
   have p0:((s.extract i k).toList==[100,97,116,97])=false:=by simpa using q0
   clear q0
   by_cases q1:((s.extract i k).toList==[108,101,116])=true
   ·have K:=bA_ q1 (by decide)
    rw[aS_ s i k] at K;rw[K] at EN;clear K;go_wp2_with (first|(go_at_call 130;refine (ak_ _ _).mono ?_;(first|rw[hl]|rw[h1]);rintro e w' ⟨rfl,rfl⟩)|(go_at_call 131;refine (am_ _ _).mono ?_;(first|rw[hd]|rw[h3]);rintro e w' ⟨rfl,rfl⟩));go_ret2;exact⟨ax_ EN.out,rfl⟩
   have p1:((s.extract i k).toList==[108,101,116])=false:=by simpa using q1
   clear q1
   by_cases q2:((s.extract i k).toList==[105,110])=true
   ·have K:=bA_ q2 (by decide)
    rw[aS_ s i k] at K;rw[K] at EN;clear K;go_wp2_with (first|(go_at_call 130;refine (ak_ _ _).mono ?_;(first|rw[hl]|rw[h1]);rintro e w' ⟨rfl,rfl⟩)|(go_at_call 131;refine (am_ _ _).mono ?_;(first|rw[hd]|rw[h3]);rintro e w' ⟨rfl,rfl⟩));go_ret2;exact⟨ax_ EN.out,rfl⟩
   have p2:((s.extract i k).toList==[105,110])=false:=by simpa using q2
   clear q2
   by_cases q3:((s.extract i k).toList==[99,97,115,101])=true
   ·have K:=bA_ q3 (by decide)
    rw[aS_ s i k] at K;rw[K] at EN;clear K;go_wp2_with (first|(go_at_call 130;refine (ak_ _ _).mono ?_;(first|rw[hl]|rw[h1]);rintro e w' ⟨rfl,rfl⟩)|(go_at_call 131;refine (am_ _ _).mono ?_;(first|rw[hd]|rw[h3]);rintro e w' ⟨rfl,rfl⟩));go_ret2;exact⟨ax_ EN.out,rfl⟩
   have p3:((s.extract i k).toList==[99,97,115,101])=false:=by simpa using q3
   clear q3
   by_cases q4:((s.extract i k).toList==[111,102])=true
   ·have K:=bA_ q4 (by decide)
    rw[aS_ s i k] at K;rw[K] at EN;clear K;go_wp2_with (first|(go_at_call 130;refine (ak_ _ _).mono ?_;(first|rw[hl]|rw[h1]);rintro e w' ⟨rfl,rfl⟩)|(go_at_call 131;refine (am_ _ _).mono ?_;(first|rw[hd]|rw[h3]);rintro e w' ⟨rfl,rfl⟩));go_ret2;exact⟨ax_ EN.out,rfl⟩
   have p4:((s.extract i k).toList==[111,102])=false:=by simpa using q4
   clear q4
   by_cases q5:((s.extract i k).toList==[102,111,114,97,108,108])=true
   ·have K:=bA_ q5 (by decide)
    rw[aS_ s i k] at K;rw[K] at EN;clear K;go_wp2_with (first|(go_at_call 130;refine (ak_ _ _).mono ?_;(first|rw[hl]|rw[h1]);rintro e w' ⟨rfl,rfl⟩)|(go_at_call 131;refine (am_ _ _).mono ?_;(first|rw[hd]|rw[h3]);rintro e w' ⟨rfl,rfl⟩));go_ret2;exact⟨ax_ EN.out,rfl⟩
   have p5:((s.extract i k).toList==[102,111,114,97,108,108])=false:=by simpa using q5
   clear q5;have kw:=fL_ p0 p1 p2 p3 p4 p5 (by rw[ByteArray.size_extract];omega);rw[aS_ s i k,fg_ s i k hpos (by omega),j1_ s[i] h1] at kw;cases hle:decide ((s[i].toNat:Int)≤90)
   all_goals
    rw[hle] at kw;rw[kw] at EN;clear kw;go_wp2_with (first|(go_at_call 130;refine (ak_ _ _).mono ?_;(first|rw[hl]|rw[h1]);rintro e w' ⟨rfl,rfl⟩)|(go_at_call 131;refine (am_ _ _).mono ?_;(first|rw[hd]|rw[h3]);rintro e w' ⟨rfl,rfl⟩));go_ret2;exact⟨ax_ EN.out,rfl⟩
theorem gk_ (s:ByteArray)(i:Nat)(hi:i<s.size):aW_ (s.data.toList.drop i) =
 if bN_ s[i] then
  if 16<bp_ aP_ (s.data.toList.drop i) then (0,0) else (e9_ ((s.data.toList.drop i).take (bp_ aP_ (s.data.toList.drop i))),bp_ aP_ (s.data.toList.drop i))
 else if au_ s[i] then (4,aL_ (s.data.toList.drop i))
 else if s[i]=63 then (if aL_ (s.data.toList.drop (i+1))=0 then (0,0) else (5,aL_ (s.data.toList.drop (i+1))+1))
 else if [45,62].isPrefixOf (s.data.toList.drop i) || [124,62].isPrefixOf (s.data.toList.drop i) then (6,2)
 else if fB_ s[i] then (6,1)
 else (0,0):=by
  unfold aW_;have e:(s.data.toList.drop i).headD 0=s[i]:=by rw[cl_ s i hi];rfl
  rw[e,List.drop_drop];rfl
theorem qA_ (s:ByteArray)(i:Nat)(w:World)(hs:s.size≤maxLen)(hi:i<s.size)(h1:bN_ s[i]=false)(h3:au_ s[i]=true) :
  Calls Tryz.prog 94 #[.string s,.int .i64 i] w fun e w'=>e=.returned (.tuple #[.int .i64 (dN_ s i).1,.int .i64 (dN_ s i).2])∧w=w':=by
 have hs':=hs;have hn':i≤s.size:=by omega
 have ho:dN_ s i=if aL_ (s.data.toList.drop i)=0 then (0,i) else (4,i+aL_ (s.data.toList.drop i)):=by
  unfold dN_;rw[gk_ s i hi,h1,h3];rfl
 have hle:i+aL_ (s.data.toList.drop i)≤s.size:=by
  have:=Lx.fI_ (s.data.toList.drop i);simp at this;omega
 unfold maxLen at hs;generalize hk:aL_ (s.data.toList.drop i)=k at *;have HK:=Lib.hid hk;have HO:=Lib.hid ho;clear hk ho
 by_cases c:k=0
 ·subst c
  go_enter Tryz.func94,Tryz.ntmps94;go_wp2_with (first|(go_at_call 130;refine (ak_ _ _).mono ?_;(first|rw[hl]|rw[h1]);rintro e w' ⟨rfl,rfl⟩)|(go_at_call 131;refine (am_ _ _).mono ?_;(first|rw[hd]|rw[h3]);rintro e w' ⟨rfl,rfl⟩)|(go_at_call 132;refine (eQ_ _ _ _ hs' hn').mono ?_;rw[HK.out];rintro e w' ⟨rfl,rfl⟩));go_ret2;exact⟨ax_ (by rw[HO.out];rfl),rfl⟩
 ·have cb:(((i+k:Nat):Int)==(i:Int))=false:=by simp;omega
  have c2:(((i:Int)+(k:Int))==(i:Int))=false:=by simp;omega
  go_enter Tryz.func94,Tryz.ntmps94;go_wp2_with (first|(go_at_call 130;refine (ak_ _ _).mono ?_;(first|rw[hl]|rw[h1]);rintro e w' ⟨rfl,rfl⟩)|(go_at_call 131;refine (am_ _ _).mono ?_;(first|rw[hd]|rw[h3]);rintro e w' ⟨rfl,rfl⟩)|(go_at_call 132;refine (eQ_ _ _ _ hs' hn').mono ?_;rw[HK.out];rintro e w' ⟨rfl,rfl⟩));go_ret2;exact⟨ax_ (by rw[HO.out,if_neg c]),rfl⟩
theorem oB_ (s:ByteArray)(i:Nat)(w:World)(hs:s.size≤maxLen)(hi:i<s.size)(h1:bN_ s[i]=false)(h3:au_ s[i]=false)(h4:s[i]=63) :
  Calls Tryz.prog 94 #[.string s,.int .i64 i] w fun e w'=>e=.returned (.tuple #[.int .i64 (dN_ s i).1,.int .i64 (dN_ s i).2])∧w=w':=by
 have ho:dN_ s i=if aL_ (s.data.toList.drop (i+1))=0 then (0,i) else (5,i+1+aL_ (s.data.toList.drop (i+1))):=by
  unfold dN_;rw[gk_ s i hi,h1,h3];simp only[Bool.false_eq_true,if_false,if_pos h4]
  by_cases c:aL_ (s.data.toList.drop (i+1))=0
  ·simp[c]
  ·simp[c];omega
 have hle:i+1+aL_ (s.data.toList.drop (i+1))≤s.size:=by
  have:=Lx.fI_ (s.data.toList.drop (i+1));simp at this;omega
 have f4:=bF_ 63 63 h4 rfl;have nm:=fun w=>eQ_ s (i+1) w hs (by omega);unfold maxLen at hs;generalize hk:aL_ (s.data.toList.drop (i+1))=k at *;have NM:=Lib.hid nm;have HO:=Lib.hid ho;clear hk ho h4 nm
 by_cases c:k=0
 ·subst c
  have c2:((i:Int)+1==(i:Int)+1)=true:=by simp
  go_enter Tryz.func94,Tryz.ntmps94;go_wp2_with (first|(go_at_call 130;refine (ak_ _ _).mono ?_;(first|rw[hl]|rw[h1]);rintro e w' ⟨rfl,rfl⟩)|(go_at_call 131;refine (am_ _ _).mono ?_;(first|rw[hd]|rw[h3]);rintro e w' ⟨rfl,rfl⟩)|(go_at_call 132;rw[show ((i:Int)+1)=((i+1:Nat):Int) by omega];refine (NM.out _).mono ?_;rintro e w' ⟨rfl,rfl⟩));go_ret2;exact⟨ax_ (by rw[HO.out];rfl),rfl⟩
 ·have c2:(((i:Int)+1+(k:Int))==(i:Int)+1)=false:=by simp;omega
  go_enter Tryz.func94,Tryz.ntmps94;go_wp2_with (first|(go_at_call 130;refine (ak_ _ _).mono ?_;(first|rw[hl]|rw[h1]);rintro e w' ⟨rfl,rfl⟩)|(go_at_call 131;refine (am_ _ _).mono ?_;(first|rw[hd]|rw[h3]);rintro e w' ⟨rfl,rfl⟩)|(go_at_call 132;rw[show ((i:Int)+1)=((i+1:Nat):Int) by omega];refine (NM.out _).mono ?_;rintro e w' ⟨rfl,rfl⟩));go_ret2;exact⟨ax_ (by rw[HO.out,if_neg c]),rfl⟩
end Go.Proofs.YtjecnionbjlncaaGreatDoor

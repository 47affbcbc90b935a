/- Packed. -/
import Derived.Test.YtkihnodkhnahiaaGreatDoorP47
set_option maxRecDepth 100000
set_option maxHeartbeats 6400000
namespace Go.Proofs.YtkihnodkhnahiaaGreatDoor.Tp
open Go.RowKit
open Lx
theorem gR_ (K m:Nat)(hK:K=3∧m=1∨K=4∧m=2∨K=6∧m=2)(n:Nat)(ih:∀ m,m≤n→fM_ m)(w:World)(a:OA_)(c:Nat)(l:List Tok)(i:Nat)(ht:aO_ w (.slice a l.length c) l)(hb:∀ b o,a=some ⟨b,o,none⟩→b<w.heap.size)(hr:hl_ l)(hok:∀ t∈l,be_ t)(hl:l.length≤4000)(hn:4*(l.length - i)+1≤n+1)(h2:st (l.drop i) 6 bX_=true)(h3:sk (l.drop (i+1)) 2=true)(h4:ay_ (ab_ (l.drop (i+1)))=K):Calls Tryz.prog 21 #[.slice a l.length c,.int .i64 i] w (d2_ w l.length (coF (n+1) (l.drop i))):=by
 have hi:i<l.length:=by have:=b8_ h2;rw[List.length_drop] at this;omega
 have hi1:i+1<l.length:=by have:=ci_ h3;rw[List.length_drop] at this;omega
 have h0:st (l.drop i) 6 lts=false:=mO_ h2 (by decide);have hz:=ao_ w (.cells #[.int .i64 0,.string ⟨#[]⟩,.int .i64 0,.int .i64 0,.string ⟨#[]⟩,.int .i64 0,.slice none 0 0,.slice none 0 0] 59);have CI:=hid (fun (W:World) (h:Below w.heap.size w W) (k:Nat) (s:List UInt8) (j:Nat)=>ge_ k s W a c l j (aL_ ht hb h));have RT:=hid (fun (W:World) (h:Below w.heap.size w W) (j:Nat) (hj:j≤l.length)=>eY_ W a c l j (aL_ ht hb h) (fun b' o' e=>aX_ (hb b' o' e) h.size) hr hl hj);have RR:=hid (fun (m:Nat) (hm:m≤n) (W:World) (h:Below w.heap.size w W) (j:Nat) (hj:j≤l.length) (hf:4*(l.length - j)+1≤m)=>ih m hm W a c l j (aL_ ht hb h) (fun b' o' e=>aX_ (hb b' o' e) h.size) hr hok hl hj hf);obtain⟨n,rfl⟩:∃ m,n=m+1:=⟨n - 1,by omega⟩;obtain⟨b,off,rfl,_,c1⟩:=bH_ ht hi1;have hbl:=hb b off rfl;have htx:ab_ (l.drop (i+1))=l[i+1].text:=by rw[ck_ hi1];rfl
 have t1:(w.alloc (.cells #[.int .i64 0,.string ⟨#[]⟩,.int .i64 0,.int .i64 0,.string ⟨#[]⟩,.int .i64 0,.slice none 0 0,.slice none 0 0] 59)).cell? ⟨b,off+(i+1)*3+1,none⟩=some (.string (aa_ l[i+1].text)):=(hz.cell (p:=⟨b,off+(i+1)*3+1,none⟩) hbl).trans c1;have h4':=h4;rw[htx] at h4';have H4:=hid h4';have htd:(l.drop i).tail=l.drop (i+1):=List.tail_drop;have htd2:(l.drop (i+1)).tail=l.drop (i+2):=List.tail_drop;have htd3:(l.drop (i+2)).tail=l.drop (i+3):=List.tail_drop;have h3':sk (l.drop i).tail 2=true:=by rw[htd];exact h3
 have h4'':ay_ (ab_ (l.drop i).tail)=K:=by rw[htd];exact h4
 have S1:=em_ _ _ (lE_ h2);have S2:=eU_ _ _ _ h0 (by decide);have S3:=eb_ _ _ _ h2 (by decide);have S4:=eV_ _ _ h3;have C4:=hid (CI.out _ hz 2 [] (i+1));rw[gm_] at C4;have z0:(0:Int)≤(i:Int):=by omega
 have z1:(i:Int)<(l.length:Int):=by omega
 have y0:(0:Int)≤(i:Int)+1:=by omega
 have y1:(i:Int)+1<(l.length:Int):=by omega
 have K8:=hid (Z8.new w (.int .i64 0) (.string ⟨#[]⟩) (.int .i64 0) (.int .i64 0) (.string ⟨#[]⟩) (.int .i64 0) (.slice none 0 0) (.slice none 0 0));have HZ:=hid hz;have OK:=hid hok;have H0:=hid h0;have H2:=hid h2;have H3':=hid h3';have H4'':=hid h4'';have TX:Hid (∀ W,Below w.heap.size w W→∀ j (hj:j<l.length),W.cell? ⟨b,off+j*3+1,none⟩=some (.string (aa_ l[j].text))):=hid (fun W h j hj=>by
  obtain⟨b',off',e,_,h2⟩:=bH_ ht hj;injection e with e;injection e with e1 e2
  subst e1 e2;exact (h.cell (p:=⟨b,off+j*3+1,none⟩) hbl).trans h2)
 clear ht hb hz c1 htx hr hok ih h0 h2 h3 h4 h4' h3' h4'';generalize l[i+1].text=tx at *;go_enter Tryz.func21,Tryz.ntmps21;go_wp2_with fail;refine (CI.out _ HZ.out 1 [] i).mono ?_;rintro e wq ⟨he,rfl⟩;rw[S1.out] at he;subst he;go_wp2_with fail;refine (CI.out _ HZ.out 6 lts i).mono ?_;rintro e wq ⟨he,rfl⟩;rw[S2.out] at he;subst he;go_wp2_with fail;refine (CI.out _ HZ.out 6 bX_ i).mono ?_;rintro e wq ⟨he,rfl⟩;rw[S3.out] at he;subst he;go_wp2_with fail;refine (C4.out).mono ?_;rintro e wq ⟨he,rfl⟩;rw[S4.out] at he;subst he;go_wp2_with fail;refine (eB_ tx _).mono ?_;rintro e w5 ⟨he,hb5⟩;rw[H4.out] at he;subst he;have M0:XuM w w5.heap.size (w5.alloc (.cells #[.int .i64 (K:Int),.string ⟨#[]⟩,.int .i64 0,.int .i64 0,.string ⟨#[]⟩,.int .i64 0,.slice none 0 0,.slice none 0 0] 59)) (K:Int) ⟨#[]⟩ 0 (.slice none 0 0) [] []:=XuM.new w w5 K (by simpa using hb5);have GM:=hid M0;have HB5:=hid hb5;obtain⟨o0,o1,o2,o3,o4,o5,o6,o7⟩:=M0.o.c07;obtain⟨r0,r1,r2,r3,r4,r5,r6,r7⟩:=M0.r.c07;obtain⟨fo0,fo1,fo2,fo3,fo4,fo5,fo6,fo7⟩:=M0.o.f07;obtain⟨fr0,fr1,fr2,fr3,fr4,fr5,fr6,fr7⟩:=M0.r.f07;clear M0 hb5 t1;have HM2:=GM;have HH:Hid (bo_ (l.drop i).tail=some ⟨K,e0,0,m,l.drop (i+2)⟩):=hid (by rw[hZ_ H3'.out K m H4''.out (by omega),htd,htd2]);have hm2:m≤2:=by omega
 have HN:=hid (show K≠5∧K≠9 by omega)
 rcases hK with ⟨hk,hm⟩|⟨hk,hm⟩|⟨hk,hm⟩
 all_goals
  have q0:((K:Int)==0)=false:=by rw[hk];rfl
  have q5:((K:Int)==5)=false:=by rw[hk];rfl
  have q7:((K:Int)==7)=false:=by rw[hk];rfl
  have q8:((K:Int)==8)=false:=by rw[hk];rfl
  have q9:((K:Int)==9)=false:=by rw[hk];rfl
  first|(have q4:((K:Int)==4)=true:=by rw[hk];rfl)|(have q4:((K:Int)==4)=false:=by rw[hk];rfl)
  first|(have q6:((K:Int)==6)=true:=by rw[hk];rfl)|(have q6:((K:Int)==6)=false:=by rw[hk];rfl)
  first|(have HML:Hid ((m:Int)=1):=hid (by rw[hm];rfl))|(have HML:Hid ((m:Int)=2):=hid (by rw[hm];rfl))
  clear hk hm;obtain⟨X,hX⟩:∃ X:Option (List Co × List Tok),X=bg_ n m [] (l.drop (i+2)):=⟨_,rfl⟩;have E9:Hid (coF (n+1+1) (l.drop i)=match (generalizing:=false) X with|none=>none|some (ks,r)=>(if st r 6 bB_ then some (.mk (K:Int) ⟨#[]⟩ 0 tz ks,r.tail) else none)):=hid (nk_ H0.out H2.out HH.out HN.out.1 HN.out.2 hX);have hnf:4*(l.length - i)≤n+1:=by omega
  have KI0:Hid (fs_ n m X 0 [] (l.drop (i+2)) false):=hid ⟨by simp;omega,.inl ⟨rfl,hX,fun t h=>OK.out t (List.mem_of_mem_drop h),by rw[List.length_drop];omega,by rw[List.length_drop];omega⟩⟩;have hj0:i+2≤l.length:=by omega
  clear hX o0 r0 fo0 fr0 o1 r1 fo1 fr1 o2 r2 fo2 fr2 o3 r3 fo3 fr3 o4 r4 fo4 fr4 o5 r5 fo5 fr5 o6 r6 fo6 fr6 o7 r7 fo7 fr7;obtain⟨o0,o1,o2,o3,o4,o5,o6,o7⟩:=GM.out.o.c07;obtain⟨r0,r1,r2,r3,r4,r5,r6,r7⟩:=GM.out.r.c07;obtain⟨fo0,fo1,fo2,fo3,fo4,fo5,fo6,fo7⟩:=GM.out.o.f07;obtain⟨fr0,fr1,fr2,fr3,fr4,fr5,fr6,fr7⟩:=GM.out.r.f07;go_wp2;clear o0 r0 fo0 fr0 o1 r1 fo1 fr1 o2 r2 fo2 fr2 o3 r3 fo3 fr3 o4 r4 fo4 fr4 o5 r5 fo5 fr5 o6 r6 fo6 fr6 o7 r7 fo7 fr7
  go_loopw [13] (fun kv wr=>∃ (q j:Nat) (v:Value) (acc:List Co) (ps:List (Value × Value)),kv=.int .i64 (j:Int)∧j≤l.length∧XuM w w5.heap.size wr (K:Int) ⟨#[]⟩ 0 v acc ps∧fs_ n m X q acc (l.drop j) false∧acc.length=q) (fun kv _=>l.length - (intOf kv).toNat)
  case atStart=>exact⟨0,i+2,_,[],[],by rw[gm_];rfl,hj0,HM2.out,KI0.out,rfl⟩
  case round =>
   obtain⟨q,j,v,acc,ps,rfl,hj,hM,hK,hq⟩:=hrel;obtain⟨av,cw,rfl⟩:=hM.row.form;obtain⟨o0,o1,o2,o3,o4,o5,o6,o7⟩:=hM.o.c07;obtain⟨r0,r1,r2,r3,r4,r5,r6,r7⟩:=hM.r.c07;obtain⟨fo0,fo1,fo2,fo3,fo4,fo5,fo6,fo7⟩:=hM.o.f07;obtain⟨fr0,fr1,fr2,fr3,fr4,fr5,fr6,fr7⟩:=hM.r.f07;have HM:=hid hM;have KI:=hid hK;have HQ:=hid hq;have CJ:=hid (CI.out wr hM.g 6 bB_ j);have SJ:Hid (bf_ (l.drop j) 6 bB_=st (l.drop j) 6 bB_):=hid (b9_ _ _ _ (by decide));have DL:Hid ((l.drop j).length=l.length - j):=hid (by rw[List.length_drop]);have HL:Hid (acc.length≤4000):=hid (by have:=KI.out.len;omega);clear hM hK hq
   by_cases hqm:q<m
   ·have z9:(acc.length:Int)<m:=by have:=HQ.out;omega
    rw[HML.out] at z9;go_wp2_with fail;refine CJ.out.mono ?_;rintro e wq ⟨he,rfl⟩;rw[SJ.out] at he;subst he;generalize st (l.drop j) 6 bB_=qq at *;cases qq
    all_goals
     have hkf:4*(l.drop j).length+3≤n - q:=by
      rcases KI.out.h with ⟨_,_,_,_,h⟩|⟨h,_⟩
      ·exact h
      ·cases h
     have CH:=hid (RR.out (n - q - 1) (by omega) wr HM.out.g j hj (by have:=DL.out;omega));clear hkf;go_wp2_with fail;refine CH.out.mono ?_;rintro e w4 ⟨hb4,hres⟩;cases hT:coF (n - q - 1) (l.drop j) with
     | none =>
      rw[hT] at hres;obtain⟨k1,s1,n1,tk1,ts1,tn1,a1,al1,ac1,b1,bl1,bc1,rfl⟩:=hres;have XN:Hid (X=none):=hid (by
       have:=(KI.out.step hqm (x:=.mk 0 e0 0 tz []) (l4:=[]) (b4:=true) (by rw[hT])).h
       rcases this with ⟨h,_⟩|⟨_,h⟩
       ·cases h
       ·exact h)
      have E:Hid (coF (n+1+1) (l.drop i)=none):=hid (by rw[E9.out,XN.out]);have hz1:=ao_ w4 (.cells #[.int .i64 k1,.string s1,.int .i64 n1,.int .i64 tk1,.string ts1,.int .i64 tn1,.slice a1 al1 ac1,.slice b1 bl1 bc1] 59);have hM7:=(HM.out.low hb4).low hz1;clear o0 r0 fo0 fr0 o1 r1 fo1 fr1 o2 r2 fo2 fr2 o3 r3 fo3 fr3 o4 r4 fo4 fr4 o5 r5 fo5 fr5 o6 r6 fo6 fr6 o7 r7 fo7 fr7;obtain⟨o0,o1,o2,o3,o4,o5,o6,o7⟩:=hM7.o.c07;obtain⟨r0,r1,r2,r3,r4,r5,r6,r7⟩:=hM7.r.c07;obtain⟨fo0,fo1,fo2,fo3,fo4,fo5,fo6,fo7⟩:=hM7.o.f07;obtain⟨fr0,fr1,fr2,fr3,fr4,fr5,fr6,fr7⟩:=hM7.r.f07;have HM7:=hid hM7;clear hM7 hz1 hb4 HM;go_wp2;obtain⟨k8,PP⟩:=XuM.end_ HM7.out HL.out;refine bodyPost_ret (v:=.tuple #[.agg #[.int .i64 (K:Int),.string ⟨#[]⟩,.int .i64 0,.int .i64 0,.string ⟨#[]⟩,.int .i64 0,.slice none 0 0,.slice av acc.length cw],.int .i64 (-1)]) (by simp[results,Tryz.results21,go_sem,k8.c0,k8.c1,k8.c2,k8.c3,k8.c4,k8.c5,k8.c6,k8.c7]) rfl (PP l.length (coF (n+1+1) (l.drop i)) (-1) (by rw[E.out]))
     | some p =>
      obtain⟨x,r⟩:=p;rw[hT] at hres;obtain⟨a4,c4,ka4,kc4,rfl,hA4⟩:=hres;have hsuf:=fv_ j (he_ hT);have hrl:r.length≤l.length:=hsuf.length_le;have DS:=hid (cy_ hsuf);have hst:=KI.out.step hqm (x:=x) (l4:=r) (b4:=false) (by rw[hT];exact⟨rfl,rfl,rfl⟩);have KI8:Hid (fs_ n m X (q+1) (acc++[x]) (l.drop (l.length - r.length)) false):=hid (by rw[DS.out];exact hst);have JM:Hid (j<l.length - r.length):=hid (by
       have h1:=kr_ (KI.out.tk) hT;have h2:=DL.out;omega)
      have hz1:=ao_ w4 (.cells #[.int .i64 x.kind,.string x.name,.int .i64 x.n,.int .i64 x.t.kind,.string x.t.name,.int .i64 x.t.n,.slice a4 x.t.args.length c4,.slice ka4 x.kids.length kc4] 59);have hM4:=(HM.out.low hb4).low hz1;have kx:=Z8.new w4 (.int .i64 x.kind) (.string x.name) (.int .i64 x.n) (.int .i64 x.t.kind) (.string x.t.name) (.int .i64 x.t.n) (.slice a4 x.t.args.length c4) (.slice ka4 x.kids.length kc4);have hwr:w4.heap.size+1=(w4.alloc (.cells #[.int .i64 x.kind,.string x.name,.int .i64 x.n,.int .i64 x.t.kind,.string x.t.name,.int .i64 x.t.n,.slice a4 x.t.args.length c4,.slice ka4 x.kids.length kc4] 59)).heap.size:=(by simp);have hM4d:=hM4;have pa:=hM4d.row.push (x:=x) (a:=a4) (n:=c4) (ka:=ka4) (kn:=kc4) hM4d.sz (by have:=HL.out;omega) ((hA4.keep (B:=w4.alloc (.cells #[.int .i64 x.kind,.string x.name,.int .i64 x.n,.int .i64 x.t.kind,.string x.t.name,.int .i64 x.t.n,.slice a4 x.t.args.length c4,.slice ka4 x.kids.length kc4] 59)) fun b hb=>hz1.block b hb.2).mono fun b hb=>⟨by have:=hb.1;have:=HM.out.sz;omega,aX_ hb.2 hz1.size,fun e=>by have:=(HM.out.row.own.lt b e).2;have:=hb.1;omega⟩);rw[← hwr] at pa;have PA:=hid pa;clear pa hwr;have NV:Hid ((Value.slice av acc.length cw).ownBlock≠some w5.heap.size):=hid (fun e=>by have:=(HM.out.row.own.lt _ e).1;omega);clear o0 r0 fo0 fr0 o1 r1 fo1 fr1 o2 r2 fo2 fr2 o3 r3 fo3 fr3 o4 r4 fo4 fr4 o5 r5 fo5 fr5 o6 r6 fo6 fr6 o7 r7 fo7 fr7;obtain⟨o0,o1,o2,o3,o4,o5,o6,o7⟩:=hM4.o.c07;obtain⟨r0,r1,r2,r3,r4,r5,r6,r7⟩:=hM4.r.c07;obtain⟨fo0,fo1,fo2,fo3,fo4,fo5,fo6,fo7⟩:=hM4.o.f07;obtain⟨fr0,fr1,fr2,fr3,fr4,fr5,fr6,fr7⟩:=hM4.r.f07;obtain⟨x0,x1,x2,x3,x4,x5,x6,x7⟩:=kx.c07;have K4:=hid hM4d;have zj:¬ (((l.length - r.length:Nat):Int)<0):=(by omega);have hj8:l.length - r.length≤l.length:=(by omega);have hjl:l.length - r.length≤4000:=(by omega);clear hM4 hM4d hb4 HM kx hA4 hT hsuf hst;generalize l.length - r.length=j8 at *;unfold cv;go_wp2_with (at_builtin;refine cc_ (by rfl) _ _ _ (by rfl) (by rfl) (by rfl) PA.out ?_;rintro v7 w7 ⟨hr7,hg7,hl7⟩;obtain⟨a7,c7,hv7⟩:=hr7.form;rw[List.length_append,List.length_singleton] at hv7;subst hv7;have g7:=(K4.out.o.grown hg7 NV.out).fr 7;have e7:=(K4.out.o.grown hg7 NV.out).c7;have HR7:=hid hr7;have HG7:=hid hg7;clear hr7 hg7)
      all_goals
       have HM8:=hid (K4.out.pushed HR7.out HG7.out);go_wp2;go_roundw
       case rel=>exact⟨q+1,j8,_,_,_,rfl,hj8,HM8.out,KI8.out,by simp;exact HQ.out⟩
       case measure=>have:=JM.out;simp[intOf];omega
   ·have z9:¬ (acc.length:Int)<m:=by have:=HQ.out;omega
    rw[HML.out] at z9;have EX:Hid (X=some (acc,l.drop j)):=hid (by
     obtain⟨_,h⟩:=KI.out.end_ (fun _=>by omega);cases X with
     | none=>cases h
     | some p=>obtain⟨ks,r⟩:=p;obtain⟨h1,h2,_⟩:=h;rw[h1,h2])
    go_wp2_with fail;refine CJ.out.mono ?_;rintro e wq ⟨he,rfl⟩;rw[SJ.out] at he;subst he;have EJ:=hid E9.out;rw[EX.out] at EJ;cases hs:st (l.drop j) 6 bB_ with
    | false =>
     have E:Hid (coF (n+1+1) (l.drop i)=none):=hid (by rw[EJ.out];simp only[hs];rfl);go_wp2;obtain⟨k8,PP⟩:=XuM.end_ HM.out HL.out;refine bodyPost_ret (v:=.tuple #[.agg #[.int .i64 (K:Int),.string ⟨#[]⟩,.int .i64 0,.int .i64 0,.string ⟨#[]⟩,.int .i64 0,.slice none 0 0,.slice av acc.length cw],.int .i64 (-1)]) (by simp[results,Tryz.results21,go_sem,k8.c0,k8.c1,k8.c2,k8.c3,k8.c4,k8.c5,k8.c6,k8.c7]) rfl (PP l.length (coF (n+1+1) (l.drop i)) (-1) (by rw[E.out]))
    | true =>
     have E:Hid (coF (n+1+1) (l.drop i)=some (.mk (K:Int) ⟨#[]⟩ 0 tz acc,l.drop (j+1))):=hid (by rw[EJ.out];simp only[hs,List.tail_drop];rfl);have HP:Hid ((j:Int)+1=((l.length - (l.drop (j+1)).length:Nat):Int)):=hid (by have:=b8_ hs;rw[List.length_drop] at this ⊢;omega);go_wp2;obtain⟨k8,PP⟩:=XuM.end_ HM.out HL.out;refine bodyPost_ret (v:=.tuple #[.agg #[.int .i64 (K:Int),.string ⟨#[]⟩,.int .i64 0,.int .i64 0,.string ⟨#[]⟩,.int .i64 0,.slice none 0 0,.slice av acc.length cw],.int .i64 ((j:Int)+1)]) (by simp[results,Tryz.results21,go_sem,k8.c0,k8.c1,k8.c2,k8.c3,k8.c4,k8.c5,k8.c6,k8.c7]) rfl (PP l.length (coF (n+1+1) (l.drop i)) ((j:Int)+1) (by rw[E.out];exact⟨rfl,HP.out⟩))
end Go.Proofs.YtkihnodkhnahiaaGreatDoor.Tp

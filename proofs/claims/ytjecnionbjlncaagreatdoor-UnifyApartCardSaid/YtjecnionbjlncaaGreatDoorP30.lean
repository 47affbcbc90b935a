/- Packed. -/
import Derived.Test.YtjecnionbjlncaaGreatDoorP29
set_option maxRecDepth 100000
set_option maxHeartbeats 6400000
namespace Go.Proofs.YtjecnionbjlncaaGreatDoor.Tp
open Go.RowKit
open Lx
theorem mz_ {w:World}{g:Nat}{ty:TypeId}{a b:Ty}{sa sb:Value}{S:Nat→Prop}(h:w.heap[g]? = some (.cells #[.int .i64 a.kind,.string a.name,.int .i64 a.n,sa,.int .i64 b.kind,.string b.name,.int .i64 b.n,sb] ty (0,0)))(hg:S g)(ha:aa_ S w sa a.args)(hb:aa_ S w sb b.args) :
  aa_ S w (.slice (some ⟨g,0,none⟩) 2 2) [a,b]:=by
 refine .mk g 0 2 [a,b] (fun i=>if i=0 then sa else sb) hg (by simp) (fun i hi=>?_) (fun i hi=>?_)
 ·have hi2:i=0∨i=1:=by simp at hi;omega
  rcases hi2 with rfl|rfl
  ·exact⟨cell_of_row w g 0 _ _ _ h,cell_of_row w g 1 _ _ _ h,cell_of_row w g 2 _ _ _ h,cell_of_row w g 3 _ _ _ h⟩
  ·exact⟨cell_of_row w g 4 _ _ _ h,cell_of_row w g 5 _ _ _ h,cell_of_row w g 6 _ _ _ h,cell_of_row w g 7 _ _ _ h⟩
 ·have hi2:i=0∨i=1:=by simp at hi;omega
  rcases hi2 with rfl|rfl
  ·exact ha
  ·exact hb
theorem mA_ {w:World}{g:Nat}{ty:TypeId}{a:Ty}{sa:Value}{S:Nat→Prop}(h:w.heap[g]? = some (.cells #[.int .i64 a.kind,.string a.name,.int .i64 a.n,sa] ty (0,0)))(hg:S g)(ha:aa_ S w sa a.args) :
  aa_ S w (.slice (some ⟨g,0,none⟩) 1 1) [a]:=by
 refine .mk g 0 1 [a] (fun _=>sa) hg (by simp) (fun i hi=>?_) (fun i hi=>?_)
 ·have hi2:i=0:=by simp at hi;omega
  subst hi2;exact⟨cell_of_row w g 0 _ _ _ h,cell_of_row w g 1 _ _ _ h,cell_of_row w g 2 _ _ _ h,cell_of_row w g 3 _ _ _ h⟩
 ·have hi2:i=0:=by simp at hi;omega
  subst hi2;exact ha
theorem n9_ (n:Nat)(w:World)(a:OA_)(c:Nat)(l:List Tok)(i:Nat)(ih:io_ n)(ht:bu_ w (.slice a l.length c) l)(hb:∀ b o,a=some ⟨b,o,none⟩→b<w.heap.size)(hr:kM_ l)(hl:l.length≤4000)(hi:i≤l.length)(hn:4*(l.length - i)+4≤n+1)(h3:st (l.drop i) 3 fa=false):Calls Tryz.prog 56 #[.slice a l.length c,.int .i64 i] w (cM_ w l.length (bC_ (n+1) (l.drop i))):=by
 have hz:=aw_ w (.cells #[.int .i64 0,.string ⟨#[]⟩,.int .i64 0,.slice none 0 0] 43);have CI:=hid (gB_ 3 fa _ a c l i (bD_ ht hz) hi);have SQ:Hid (cC_ (l.drop i) 3 fa=false):=hid (by rw[do_ (by decide)];exact h3);have CA:=hid (ih.app _ a c l i (bD_ ht hz) (fun b o e=>by have:=hb b o e;simp;omega) hr hl hi (by omega));have CJ:=hid (fun (W:World) (h:Below w.heap.size w W) (j:Nat) (hj:j≤l.length)=>gB_ 6 c5_ W a c l j (bD_ ht h) hj);have CR:=hid (fun (W:World) (h:Below w.heap.size w W) (j:Nat) (hj:j≤l.length) (hf:4*(l.length - j)+4≤n)=>ih.typ W a c l j (bD_ ht h) (fun b o e=>ba_ (hb b o e) h.size) hr hl hj hf);have E:Hid (bC_ (n+1) (l.drop i)=match bY_ n (l.drop i) with|none=>none|some (a,r)=>if st r 6 c5_ then (match bC_ n r.tail with|none=>none|some (b,r')=>some (j4_ a b,r')) else some (a,r)):=hid (by rw[bC_,h3];rfl);have b4:=hid (R4.new w (.int .i64 0) (.string ⟨#[]⟩) (.int .i64 0) (.slice none 0 0));have HZ:=hid hz;have hfu:4*(l.length - i)+3≤n:=by omega
 clear ht hb hr ih hz h3 hn;go_enter Tryz.func56,Tryz.ntmps56;go_wp2_with fail;refine CI.out.mono ?_;rintro e w1 ⟨he,rfl⟩;rw[SQ.out] at he;subst he;go_wp2_with fail;refine CA.out.mono ?_;rintro e w2 ⟨hb2,hres⟩;have K2:=hid (b4.out.low hb2);have G2:=hid (HZ.out.trans (hb2.mono HZ.out.size));have HS2:Hid (w.heap.size+1≤w2.heap.size):=hid (by have:=hb2.size;simpa using this);clear hb2;cases hT:bY_ n (l.drop i) with
 | none =>
  rw[hT] at hres;obtain⟨k,s,m,a',c',c'',rfl⟩:=hres;have E2:Hid (bC_ (n+1) (l.drop i)=none):=hid (by rw[E.out,hT]);have hz1:=aw_ w2 (.cells #[.int .i64 k,.string s,.int .i64 m,.slice a' c' c''] 43);have k6:=K2.out.low hz1;obtain⟨d0,d1,d2,d3⟩:=k6.c03;obtain⟨f0,f1,f2,f3⟩:=k6.f03;have K6:=hid k6;have G3:=hid (G2.out.trans (hz1.mono G2.out.size));clear hT hz1 k6;go_wp2;have q4:=K6.out.set4 (.int .i64 0) (.string ⟨#[]⟩) (.int .i64 0) (.slice none 0 0);refine bodyPost_ret (v:=(.tuple #[.agg #[.int .i64 0,.string ⟨#[]⟩,.int .i64 0,.slice none 0 0],.int .i64 (-1)])) (by simp[results,Tryz.results56,go_sem,q4.c0,q4.c1,q4.c2,q4.c3]) rfl ?_;rw[E2.out];exact c1_ (G3.out.set4 (aC_ _) _ _ _ _)
 | some x =>
  obtain⟨x,r⟩:=x;rw[hT] at hres;obtain⟨a',c',rfl,hA⟩:=hres;have hsuf:=he_ ((p8_ n).2.2.1 _ _ _ hT);have hsh:=(dq_ n).2.2.1 _ _ _ hT;rw[List.length_drop] at hsh;have hrl:r.length≤l.length:=hsuf.length_le;have hz1:=aw_ w2 (.cells #[.int .i64 x.kind,.string x.name,.int .i64 x.n,.slice a' x.args.length c'] 43);have k6:=K2.out.low hz1;have kx:=R4.new w2 (.int .i64 x.kind) (.string x.name) (.int .i64 x.n) (.slice a' x.args.length c');have KX:=hid kx;obtain⟨d0,d1,d2,d3⟩:=k6.c03;obtain⟨f0,f1,f2,f3⟩:=k6.f03;obtain⟨t0,t1,t2,t3⟩:=kx.c03;have K6:=hid k6;have G3:=hid (G2.out.trans (hz1.mono G2.out.size));have HA:=hid (hA.keep fun b hb=>hz1.block b hb.2);have C2:=hid (CJ.out _ G3.out (l.length - r.length) (by omega));have DS:=hid (eA_ hsuf);have zj:¬ (((l.length - r.length:Nat):Int)<0):=by omega
  have hjl:l.length - r.length≤4000:=by omega
  cases hq:st r 6 c5_ with
  | false =>
   have E2:Hid (bC_ (n+1) (l.drop i)=some (x,r)):=hid (by rw[E.out,hT];simp only;rw[hq];rfl);have SR:Hid (cC_ (l.drop (l.length - r.length)) 6 c5_=false):=hid (by rw[DS.out,do_ (by decide)];exact hq);clear hT hz1 k6 kx hA hsuf hq;generalize hj:l.length - r.length=j at *;have JJ:=hid hj;clear hj;unfold tv;go_wp2_with fail;refine C2.out.mono ?_;rintro e w4 ⟨he,rfl⟩;rw[SR.out] at he;subst he;go_wp2;have q4:=K6.out.set4 (.int .i64 x.kind) (.string x.name) (.int .i64 x.n) (.slice a' x.args.length c');refine bodyPost_ret (v:=(.tuple #[tv x a' c',.int .i64 (j:Int)])) (by simp[results,Tryz.results56,go_sem,tv,q4.c0,q4.c1,q4.c2,q4.c3]) rfl ?_;rw[E2.out];refine⟨G3.out.set4 (aC_ _) _ _ _ _,a',c',ax_ (by rw[JJ.out]),dD_ _ _ _ _ (by simp;have:=HS2.out;omega) (HA.out.mono fun b hb=>⟨by have:=hb.1;simpa using this,by have:=hb.2;simp;omega⟩)⟩
  | true =>
   have hr1:=d5_ hq;have SR:Hid (cC_ (l.drop (l.length - r.length)) 6 c5_=true):=hid (by rw[DS.out,do_ (by decide)];exact hq);have DT:Hid (l.drop (l.length - r.length+1)=r.tail):=hid (by rw[← List.tail_drop,DS.out]);have cr:=CR.out _ G3.out (l.length - r.length+1) (by omega) (by omega);rw[DT.out,show ((l.length - r.length+1:Nat):Int)=((l.length - r.length:Nat):Int)+1 from by omega] at cr;have C3:=hid cr;have E3:Hid (bC_ (n+1) (l.drop i)=match bC_ n r.tail with|none=>none|some (b,r')=>some (j4_ x b,r')):=hid (by rw[E.out,hT];simp only;rw[hq];rfl);have HS3:Hid (w.heap.size+2≤(w2.alloc (.cells #[.int .i64 x.kind,.string x.name,.int .i64 x.n,.slice a' x.args.length c'] 43)).heap.size):=hid (by simp;have:=HS2.out;omega);clear hT hz1 k6 kx hA hsuf hq cr d0 d1 d2 d3 f0 f1 f2 f3 t0 t1 t2 t3;generalize l.length - r.length=j at *;unfold tv;go_wp2_with fail;refine C2.out.mono ?_;rintro e w4 ⟨he,rfl⟩;rw[SR.out] at he;subst he;go_wp2_with fail;refine C3.out.mono ?_;rintro e w5 ⟨hb5,hres5⟩;have K7:=hid (K6.out.low hb5);have KX7:=hid (KX.out.low hb5);have G5:=hid (G3.out.trans (hb5.mono G3.out.size));have HB5:=hid hb5;have HS5:Hid (w2.heap.size+1≤w5.heap.size):=hid (by have:=hb5.size;simpa using this);clear hb5;cases hT5:bC_ n r.tail with
   | none =>
    rw[hT5] at hres5;obtain⟨kk,ss,mm,a5,c5,c6,rfl⟩:=hres5;have E4:Hid (bC_ (n+1) (l.drop i)=none):=hid (by rw[E3.out,hT5]);have hz6:=aw_ w5 (.cells #[.int .i64 kk,.string ss,.int .i64 mm,.slice a5 c5 c6] 43);have hz7:=hz6.alloc (by simp) (.cells #[.int .i64 x.kind,.string x.name,.int .i64 x.n,.slice a' x.args.length c',.int .i64 kk,.string ss,.int .i64 mm,.slice a5 c5 c6] 43);have kt8:=KX7.out.low hz6;have kb8:=R4.new w5 (.int .i64 kk) (.string ss) (.int .i64 mm) (.slice a5 c5 c6);have k8:=K7.out.low hz7;obtain⟨t0,t1,t2,t3⟩:=kt8.c03;obtain⟨u0,u1,u2,u3⟩:=kb8.c03;obtain⟨d0,d1,d2,d3⟩:=k8.c03;obtain⟨f0,f1,f2,f3⟩:=k8.f03;have K8:=hid k8;have G8:=hid (G5.out.trans (hz7.mono G5.out.size));clear kt8 kb8 k8 hz6 hz7 hT5;go_wp2;have q4:=K8.out.set4 (.int .i64 4) (.string ⟨#[]⟩) (.int .i64 0) (.slice (some ⟨w5.heap.size+1,0,none⟩) 2 2);refine bodyPost_ret (v:=(.tuple #[.agg #[.int .i64 4,.string ⟨#[]⟩,.int .i64 0,.slice (some ⟨w5.heap.size+1,0,none⟩) 2 2],.int .i64 (-1)])) (by simp[results,Tryz.results56,go_sem,q4.c0,q4.c1,q4.c2,q4.c3]) rfl ?_;rw[E4.out];exact⟨G8.out.set4 (aC_ _) _ _ _ _,_,_,_,_,_,_,rfl⟩
   | some y =>
    obtain⟨y,r'⟩:=y;rw[hT5] at hres5;obtain⟨a5,c5,rfl,hA5⟩:=hres5;have E4:Hid (bC_ (n+1) (l.drop i)=some (j4_ x y,r')):=hid (by rw[E3.out,hT5]);have hz6:=aw_ w5 (.cells #[.int .i64 y.kind,.string y.name,.int .i64 y.n,.slice a5 y.args.length c5] 43);have hz7:=hz6.alloc (by simp) (.cells #[.int .i64 x.kind,.string x.name,.int .i64 x.n,.slice a' x.args.length c',.int .i64 y.kind,.string y.name,.int .i64 y.n,.slice a5 y.args.length c5] 43);have kt8:=KX7.out.low hz6;have kb8:=R4.new w5 (.int .i64 y.kind) (.string y.name) (.int .i64 y.n) (.slice a5 y.args.length c5);have k8:=K7.out.low hz7;obtain⟨t0,t1,t2,t3⟩:=kt8.c03;obtain⟨u0,u1,u2,u3⟩:=kb8.c03;obtain⟨d0,d1,d2,d3⟩:=k8.c03;obtain⟨f0,f1,f2,f3⟩:=k8.f03;have K8:=hid k8;have G8:=hid (G5.out.trans (hz7.mono G5.out.size));have HA5:=hid hA5;have HZ7:=hid hz7;clear kt8 kb8 k8 hz6 hz7 hT5 hA5;unfold tv;go_wp2;have q4:=K8.out.set4 (.int .i64 4) (.string ⟨#[]⟩) (.int .i64 0) (.slice (some ⟨w5.heap.size+1,0,none⟩) 2 2);refine bodyPost_ret (v:=.tuple #[tv (j4_ x y) (some ⟨w5.heap.size+1,0,none⟩) 2,.int .i64 ((l.length - r'.length:Nat):Int)]) (by simp[results,Tryz.results56,go_sem,q4.c0,q4.c1,q4.c2,q4.c3];rfl) rfl ?_;rw[E4.out];refine⟨G8.out.set4 (aC_ _) _ _ _ _,_,_,rfl,dD_ _ _ _ _ (by simp;have:=HS2.out;have:=HS5.out;omega) ?_⟩;have s2:=HS2.out;have s5:=HS5.out;refine mz_ (ty:=43) (ah_ (by simp)) ⟨by omega,by simp⟩ ?_ ?_
    ·exact ((HA.out.keep fun b hb=>HB5.out.block b (by have:=hb.2;simp;omega)).keep fun b hb=>HZ7.out.block b (by have:=hb.2;omega)).mono fun b hb=>⟨by have:=hb.1;simpa using this,by have:=hb.2;simp;omega⟩
    ·exact (HA5.out.keep fun b hb=>HZ7.out.block b hb.2).mono fun b hb=>⟨by have:=hb.1;simp at this;omega,by have:=hb.2;simp;omega⟩
end Go.Proofs.YtjecnionbjlncaaGreatDoor.Tp
namespace Go.Proofs.YtjecnionbjlncaaGreatDoor
open Go.RowKit
open Lx
def bN_ (c:UInt8):Bool:=a9_ c || aV_ c
theorem ak_ (c:UInt8)(w:World):Calls Tryz.prog 130 #[.int .u8 c.toNat] w fun e w'=>e=.returned (.bool (bN_ c))∧w=w':=by
 go_enter Tryz.func130,Tryz.ntmps130;go_wp2
 all_goals
  go_ret;exact⟨bd_ (by
   unfold bN_ a9_ aV_;rw[Bool.eq_iff_iff];simp only[Bool.or_eq_true,decide_eq_true_eq,Bool.false_eq_true,true_iff,false_iff];omega),rfl⟩
theorem am_ (c:UInt8)(w:World):Calls Tryz.prog 131 #[.int .u8 c.toNat] w fun e w'=>e=.returned (.bool (au_ c))∧w=w':=by
 go_enter Tryz.func131,Tryz.ntmps131;go_wp2
 all_goals
  go_ret;exact⟨bd_ (by unfold au_;first|(rw[decide_eq_decide];omega)|(symm;rw[decide_eq_false_iff_not];omega)),rfl⟩
theorem cl_ (s:ByteArray)(i:Nat)(h:i<s.size):s.data.toList.drop i=s[i] :: s.data.toList.drop (i+1):=by
 rw[List.drop_eq_getElem_cons (by simpa using h)];rfl
def Run (p:UInt8→Bool)(s:ByteArray)(i k:Nat):Prop:=∀ j (h:j<s.size),i≤j→j<k→p s[j]=true
theorem Run.step {p:UInt8→Bool}{s:ByteArray}{i k:Nat}(h:Run p s i k)(hk:k<s.size)(hp:p s[k]=true):Run p s i (k+1):=by
 intro j hj h1 h2
 by_cases e:j=k
 ·subst e;exact hp
 ·exact h j hj h1 (by omega)
theorem Run.take {p:UInt8→Bool}{s:ByteArray}{i k:Nat}(h:Run p s i k)(hk:k≤s.size):((s.data.toList.drop i).take (k - i)).all p=true:=by
 rw[List.all_eq_true];intro c hc;obtain⟨j,hj,rfl⟩:=List.mem_iff_getElem.1 hc;simp only[List.length_take,List.length_drop,Array.length_toList] at hj;have hs:s.data.size=s.size:=rfl;simp only[List.getElem_take,List.getElem_drop];exact h (i+j) (by omega) (by omega) (by omega)
theorem Run.stop {p:UInt8→Bool}{s:ByteArray}{i k:Nat}(h:Run p s i k)(hi:i≤k)(hk:k<s.size)(hp:p s[k]=false):bp_ p (s.data.toList.drop i)=k - i:=by
 refine fx_ _ _ _ (h.take (by omega)) (by simp;have:s.data.size=s.size:=rfl;omega) ?_;simp only[List.getElem_drop];have:i+(k - i)=k:=by omega
 simp only[this];exact hp
theorem Run.full {p:UInt8→Bool}{s:ByteArray}{i k:Nat}(h:Run p s i k)(hi:i≤k)(hk:k=s.size):bp_ p (s.data.toList.drop i)=k - i:=by
 have h1:=h.take (by omega);have hs:s.data.size=s.size:=rfl;rw[List.take_of_length_le (by simp;omega)] at h1;rw[gm_ _ _ h1];simp;omega
theorem hq_ (s:ByteArray)(i j:Nat)(sp:bp_ au_ (s.data.toList.drop i)=j - i)(hij:i≤j) :
  i+aL_ (s.data.toList.drop i)=if 6<j - i∨1<j - i∧(s.data.toList.drop i).headD 0=48 then i else j:=by
 rw[aL_,sp];split<;>omega
theorem eQ_ (s:ByteArray)(i:Nat)(w:World)(hs:s.size≤maxLen)(hi:i≤s.size) :
  Calls Tryz.prog 132 #[.string s,.int .i64 i] w fun e w'=>e=.returned (.int .i64 ((i+aL_ (s.data.toList.drop i):Nat):Int))∧w=w':=by
 unfold maxLen at hs;go_enter Tryz.func132,Tryz.ntmps132;go_wp2
 go_loop [5] (fun k=>∃ j:Nat,i≤j∧j≤s.size∧k=.int .i64 j∧Run au_ s i j) (fun k=>s.size - (intOf k).toNat)
 case atStart=>exact⟨i,Nat.le_refl _,hi,rfl,fun _ _ _ _=>by omega⟩
 case round =>
  obtain⟨j,hij,hj,rfl,hrun⟩:=hrel;have R:=Lib.hid hrun;clear hrun
  by_cases hlt:j<s.size
  ·cases hd:au_ s[j]
   ·have sp:=R.out.stop hij hlt hd
    have fin:=hq_ s i j sp hij
    by_cases c1:6<j - i
    ·rw[if_pos (Or.inl c1)] at fin
     have F:=Lib.hid fin;clear fin;go_wp2_with (go_at_call 131;refine (am_ _ _).mono ?_;rw[hd];rintro e w' ⟨rfl,rfl⟩);go_ret;exact⟨bc_ (by have:=F.out;omega),rfl⟩
    by_cases c2:1<j - i
    ·rw[cl_ s i (by omega),List.headD_cons,← cl_ s i (by omega)] at fin
     by_cases c3:s[i]=48
     ·rw[if_pos (Or.inr ⟨c2,c3⟩)] at fin
      have F:=Lib.hid fin;have f3:=bF_ 48 48 c3 rfl;clear c3;go_wp2_with (go_at_call 131;refine (am_ _ _).mono ?_;rw[hd];rintro e w' ⟨rfl,rfl⟩);go_ret;exact⟨bc_ (by have:=F.out;omega),rfl⟩
     ·rw[if_neg (by rintro (h|h);exact c1 h;exact c3 h.2)] at fin
      have F:=Lib.hid fin;have f3:=bn_ 48 48 c3 rfl;clear c3;go_wp2_with (go_at_call 131;refine (am_ _ _).mono ?_;rw[hd];rintro e w' ⟨rfl,rfl⟩);go_ret;exact⟨bc_ (by have:=F.out;omega),rfl⟩
    rw[if_neg (by rintro (h|h);exact c1 h;exact c2 h.1)] at fin;have F:=Lib.hid fin;clear fin;go_wp2_with (go_at_call 131;refine (am_ _ _).mono ?_;rw[hd];rintro e w' ⟨rfl,rfl⟩);go_ret;exact⟨bc_ (by have:=F.out;omega),rfl⟩
   ·have RN:=Lib.hid (R.out.step hlt hd)
    go_wp2_with (go_at_call 131;refine (am_ _ _).mono ?_;rw[hd];rintro e w' ⟨rfl,rfl⟩);go_round
    case rel=>exact⟨j+1,by omega,by omega,by go_num,RN.out⟩
    case measure=>simp[intOf];omega
  ·have sp:=R.out.full hij (by omega)
   have fin:=hq_ s i j sp hij
   by_cases c1:6<j - i
   ·rw[if_pos (Or.inl c1)] at fin
    have F:=Lib.hid fin;clear fin;go_wp2;go_ret;exact⟨bc_ (by have:=F.out;omega),rfl⟩
   by_cases c2:1<j - i
   ·rw[cl_ s i (by omega),List.headD_cons,← cl_ s i (by omega)] at fin
    by_cases c3:s[i]=48
    ·rw[if_pos (Or.inr ⟨c2,c3⟩)] at fin
     have F:=Lib.hid fin;have f3:=bF_ 48 48 c3 rfl;clear c3;go_wp2;go_ret;exact⟨bc_ (by have:=F.out;omega),rfl⟩
    ·rw[if_neg (by rintro (h|h);exact c1 h;exact c3 h.2)] at fin
     have F:=Lib.hid fin;have f3:=bn_ 48 48 c3 rfl;clear c3;go_wp2;go_ret;exact⟨bc_ (by have:=F.out;omega),rfl⟩
   rw[if_neg (by rintro (h|h);exact c1 h;exact c2 h.1)] at fin;have F:=Lib.hid fin;clear fin;go_wp2;go_ret;exact⟨bc_ (by have:=F.out;omega),rfl⟩
end Go.Proofs.YtjecnionbjlncaaGreatDoor

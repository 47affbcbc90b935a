/- Packed. -/
import Derived.Test.YtjecnionbjlncaaGreatDoorP51
set_option maxRecDepth 100000
set_option maxHeartbeats 6400000
namespace Go.Proofs.YtjecnionbjlncaaGreatDoor.Tp
section
open Lx
section
variable (g : Int → Int)
mutual
def mvT:Ty→Ty
 | .mk k s n args=>.mk k s (if k=2 then g n else n) (mvL args)
def mvL:List Ty→List Ty
 | []=>[]
 | t :: ts=>mvT t :: mvL ts
end
theorem qJ_ (ts:List Ty):mvL g ts=ts.map (mvT g):=by
 induction ts with
 | nil=>rw[mvL];rfl
 | cons t ts ih=>rw[mvL,ih];rfl
theorem fK_ (t:Ty):mvT g t=.mk t.kind t.name (if t.kind=2 then g t.n else t.n) (t.args.map (mvT g)):=by
 cases t with
 | mk k s n args=>rw[mvT,qJ_];rfl
theorem m6_ (t:Ty):(mvT g t).kind=t.kind:=by rw[fK_];rfl
theorem hZ_ (t:Ty):(mvT g t).args=t.args.map (mvT g):=by rw[fK_];rfl
theorem m5_:∀ t:Ty,(mvT g t).size=t.size:=by
 intro t
 induction t using Ty.ind with
 | h t ih =>
  rw[Ty.size_eq,t.size_eq,hZ_];have:∀ l:List Ty,(∀ a∈l,(mvT g a).size=a.size)→af_ (l.map (mvT g))=af_ l:=by
   intro l
   induction l with
   | nil=>intro _;rfl
   | cons a l ihl=>intro hl;rw[List.map_cons,af_,af_,hl a (by simp),ihl fun b hb=>hl b (by simp[hb])]
  rw[this t.args ih]
theorem kz_:∀ t:Ty,(mvT g t).depth=t.depth:=by
 intro t
 induction t using Ty.ind with
 | h t ih =>
  rw[Ty.depth_eq,t.depth_eq,hZ_];have:∀ l:List Ty,(∀ a∈l,(mvT g a).depth=a.depth)→ar_ (l.map (mvT g))=ar_ l:=by
   intro l
   induction l with
   | nil=>intro _;rfl
   | cons a l ihl=>intro hl;rw[List.map_cons,ar_,ar_,hl a (by simp),ihl fun b hb=>hl b (by simp[hb])]
  rw[this t.args ih]
theorem r5_:∀ t:Ty,nsT (mvT g t)=nsT t:=by
 intro t
 induction t using Ty.ind with
 | h t ih =>
  rw[gv_,gv_ t,hZ_,m6_];have:∀ l:List Ty,(∀ a∈l,nsT (mvT g a)=nsT a)→nsL (l.map (mvT g))=nsL l:=by
   intro l
   induction l with
   | nil=>intro _;rfl
   | cons a l ihl=>intro hl;rw[List.map_cons,nsL,nsL,hl a (by simp),ihl fun b hb=>hl b (by simp[hb])]
  rw[this t.args ih]
theorem mv_mv (g h:Int→Int):∀ t:Ty,mvT g (mvT h t)=mvT (fun n=>g (h n)) t:=by
 intro t
 induction t using Ty.ind with
 | h t ih =>
  rw[fK_,m6_,hZ_,fK_ (fun n=>g (h n)) t,fK_ h t,List.map_map];show Ty.mk t.kind t.name (if t.kind=2 then g (if t.kind=2 then h t.n else t.n) else (if t.kind=2 then h t.n else t.n)) _=_;have e:t.args.map (mvT g ∘ mvT h)=t.args.map (mvT fun n=>g (h n)):=List.map_congr_left ih;rw[e]
  split<;>rfl
end
theorem cT_ {t:Ty}(h:t.kind=2):t.n∈ap_ t:=by
 rw[ec_,← ce_ t,dB_];intro hh;have:=hh.1;unfold bj_ at this;rw[show (Ty.mk t.kind t.name t.n []).kind=2 from h] at this;simp[Ty.n] at this
theorem dg_ {t a:Ty}(ha:a∈t.args){m:Int}(h:m∈ap_ a):m∈ap_ t:=by
 rw[ec_] at h ⊢;intro hh;rw[← ce_ t,dB_] at hh;exact h (hh.2 a ha)
theorem m7_ {g h:Int→Int} : ∀ t:Ty,(∀ m∈ap_ t,g m=h m)→mvT g t=mvT h t:=by
 intro t
 induction t using Ty.ind with
 | h t ih =>
  intro hm;rw[fK_,fK_ h t];have e:t.args.map (mvT g)=t.args.map (mvT h):=List.map_congr_left fun a ha=>ih a ha fun m h=>hm m (dg_ ha h);rw[e]
  by_cases h2:t.kind=2
  ·rw[if_pos h2,if_pos h2,hm _ (cT_ h2)]
  ·rw[if_neg h2,if_neg h2]
theorem mv_id (t:Ty):mvT (fun n=>n) t=t:=by
 induction t using Ty.ind with
 | h t ih=>rw[fK_,c3_ ih,ite_self,ce_]
theorem ky_ {g:Int→Int}{m:Int} : ∀ t:Ty,m∈ap_ (mvT g t)→∃ n∈ap_ t,g n=m:=by
 intro t hm;refine Classical.byContradiction fun hn=>(ec_ _ _).1 hm ?_;have hn':∀ n∈ap_ t,g n≠m:=fun n h e=>hn ⟨n,h,e⟩;clear hn hm
 induction t using Ty.ind with
 | h t ih =>
  rw[fK_,dB_];refine⟨?_,fun a ha=>?_⟩
  ·show (t.kind==2&&(if t.kind=2 then g t.n else t.n)==m)=false
   by_cases h2:t.kind=2
   ·rw[if_pos h2,show (g t.n==m)=false from beq_eq_false_iff_ne.2 (hn' _ (cT_ h2)),Bool.and_false]
   ·rw[show (t.kind==2)=false from beq_eq_false_iff_ne.2 h2,Bool.false_and]
  ·obtain⟨b,hb,rfl⟩:=List.mem_map.1 ha
   exact ih b hb fun n h=>hn' n (dg_ hb h)
theorem qt_ (m k:Int):∀ (d:Nat) (t:Ty),t.depth≤d→Std t→d3_ d (mt k) [] (bj_ m) t=mvT (fun n=>if n=m then k else n) t:=by
 intro d
 induction d with
 | zero=>intro t h _;rw[t.depth_eq] at h;omega
 | succ d ih =>
  intro t h hs;cases hi:bj_ m t with
  | true =>
   rw[mD_ _ _ _ _ _ hi];unfold bj_ at hi;rw[Bool.and_eq_true,beq_iff_eq,beq_iff_eq] at hi;have h2:=((aX_ t).1 hs).1;rw[fK_,if_pos hi.1,if_pos hi.2,hi.1];have h3:t.name=emp∧t.args=[]:=by
    rcases h2 with h|h|h|h|h
    ·omega
    ·exact⟨h.2.1,h.2.2.1⟩
    all_goals omega
   rw[h3.1,h3.2];rfl
  | false =>
   rw[iS_ _ _ _ _ _ hi fun _=>rfl,fK_];have e:t.args.map (d3_ d (mt k) [] (bj_ m))=t.args.map (mvT fun n=>if n=m then k else n):=List.map_congr_left fun a ha=>ih a (by have:=av_ _ ha;rw[t.depth_eq] at h;omega) (hs.args a ha);rw[e];unfold bb_;congr 1
   by_cases h2:t.kind=2
   ·rw[if_pos h2,if_neg fun e=>by
     unfold bj_ at hi;rw[h2,e] at hi;simp at hi]
   ·rw[if_neg h2]
theorem qY_ (m k:Int)(t:Ty)(hs:Std t):bH_ m (mt k) t=mvT (fun n=>if n=m then k else n) t:=qt_ m k _ t (aC_ _) hs
theorem r4_ {g:Int→Int} : ∀ t:Ty,Std t→(∀ m∈ap_ t,0≤g m∧g m<1000000000000000000)→Std (mvT g t):=by
 intro t
 induction t using Ty.ind with
 | h t ih =>
  intro hs hg;rw[fK_,aX_];refine⟨?_,fun a ha=>?_⟩
  ·show _∨_
   rcases ((aX_ t).1 hs).1 with h|h|h|h|h
   ·exact .inl ⟨h.1,by show (if t.kind=2 then _ else _)=_;rw[if_neg (by omega)];exact h.2.1,by show t.args.map _=[];rw[h.2.2];rfl⟩
   ·have:=hg _ (cT_ h.1)
    exact .inr (.inl ⟨h.1,h.2.1,by show t.args.map _=[];rw[h.2.2.1];rfl,by show 0≤(if t.kind=2 then _ else _);rw[if_pos h.1];exact this.1,by show (if t.kind=2 then _ else _) < _;rw[if_pos h.1];exact this.2⟩)
   ·exact .inr (.inr (.inl ⟨h.1,by show (if t.kind=2 then _ else _)=_;rw[if_neg (by omega)];exact h.2⟩))
   ·exact .inr (.inr (.inr (.inl ⟨h.1,h.2.1,by show (if t.kind=2 then _ else _)=_;rw[if_neg (by omega)];exact h.2.2.1,by show (t.args.map _).length=2;rw[List.length_map];exact h.2.2.2⟩)))
   ·exact .inr (.inr (.inr (.inr ⟨h.1,by show (if t.kind=2 then _ else _)=_;rw[if_neg (by omega)];exact h.2.1,by show (t.args.map _).length=1;rw[List.length_map];exact h.2.2⟩)))
  ·obtain⟨b,hb,rfl⟩:=List.mem_map.1 ha
   exact ih b hb (hs.args b hb) fun m h=>hg m (dg_ hb h)
theorem r6_ {g:Int→Int} : ∀ t:Ty,pQ_ t→(∀ m∈ap_ t,g m<1000000)→pQ_ (mvT g t):=by
 intro t
 induction t using Ty.ind with
 | h t ih =>
  intro hs hg;rw[fK_,cs_];obtain⟨h1,h2⟩:=(cs_ t).1 hs;refine⟨⟨h1.1,h1.2.1,fun h=>?_⟩,fun a ha=>?_⟩
  ·show (if t.kind=2 then _ else _) < _
   rw[if_pos (show t.kind=2 from h)];exact hg _ (cT_ h)
  ·obtain⟨b,hb,rfl⟩:=List.mem_map.1 ha
   exact ih b hb (h2 b hb) fun m h=>hg m (dg_ hb h)
def sO_ (ms:List Int)(t:Ty):Ty:=ms.foldl (fun t m=>bH_ m (mt (m+500000)) t) t
def sM_ (t:Ty):Ty:=mvT (fun n=>n+500000) t
theorem o5_:∀ (ms:List Int) (t:Ty),Std t→(∀ m∈ms,0≤m∧m<400000)→Std (sO_ ms t)∧sO_ ms t=mvT (fun n=>if n∈ms then n+500000 else n) t:=by
 intro ms
 induction ms with
 | nil=>intro t h _;exact⟨h,by simp only[List.not_mem_nil,if_false];exact (mv_id t).symm⟩
 | cons m ms ih =>
  intro t h hm;have h0:=hm m (by simp);have hs:Std (bH_ m (mt (m+500000)) t):=ei_ _ _ _ h ((aX_ _).2 ⟨.inr (.inl ⟨rfl,rfl,rfl,by show (0:Int)≤m+500000;omega,by show m+500000<(1000000000000000000:Int);omega⟩),fun a ha=>by cases ha⟩);obtain⟨a,b⟩:=ih _ hs fun x hx=>hm x (by simp[hx]);refine⟨a,?_⟩;show sO_ ms (bH_ m (mt (m+500000)) t)=_;rw[b,qY_ _ _ _ h,mv_mv];refine m7_ t fun n _=>?_
  by_cases e:n=m
  ·rw[if_pos e,if_neg (fun hh:m+500000∈ms=>by have:=hm _ (List.mem_cons_of_mem _ hh);omega),if_pos (show n∈m :: ms from by rw[e];exact List.mem_cons_self),e]
  ·rw[if_neg e]
   by_cases hn:n∈ms
   ·rw[if_pos hn,if_pos (by simp[hn])]
   ·rw[if_neg hn,if_neg (by simp[hn,e])]
theorem sN_ {t:Ty}(hs:Std t)(hm:∀ m∈ap_ t,0≤m∧m<400000):sO_ (ap_ t) t=sM_ t:=by
 rw[(o5_ _ t hs hm).2];exact m7_ t fun n hn=>by rw[if_pos hn]
def ru_ (e:EqT):EqT:=(sM_ e.1,sM_ e.2)
def oN_ (es:List EqT):Bool:=es.all fun e=>(ap_ e.1++ap_ e.2).all fun m=>decide (m<400000)
theorem kv_ {es:List EqT} : oN_ es=true↔∀ e∈es,∀ m∈ap_ e.1++ap_ e.2,m<400000:=by
 unfold oN_;rw[List.all_eq_true];exact⟨fun h e he m hm=>of_decide_eq_true (List.all_eq_true.1 (h e he) m hm),fun h e he=>List.all_eq_true.2 fun m hm=>decide_eq_true (h e he m hm)⟩
theorem pM_ {t:Ty}(h:Mk t)(hm:∀ m∈ap_ t,m<400000):Mk (sM_ t) :=
 ⟨r4_ t h.1 fun m hm'=>by have:=hm m hm';have:=bS_ h m hm';omega,r6_ t h.2 fun m hm'=>by have:=hm m hm';omega⟩
theorem far_es {es:List EqT}(E:Es es)(h:oN_ es=true):Es (es.map ru_):=by
 have hn:=kv_.1 h;refine⟨fun e he=>?_,?_,by rw[List.length_map];exact E.ln⟩
 ·obtain⟨x,hx,rfl⟩:=List.mem_map.1 he
  have hq:=E.ok x hx;exact⟨⟨pM_ hq.l.1 fun m hm=>hn x hx m (List.mem_append.2 (.inl hm)),by show (mvT _ x.1).size≤120;rw[m5_];exact hq.l.2.1,by show (mvT _ x.1).depth≤50;rw[kz_];exact hq.l.2.2⟩,
   pM_ hq.r.1 fun m hm=>hn x hx m (List.mem_append.2 (.inr hm)),by show (mvT _ x.2).size≤120;rw[m5_];exact hq.r.2.1,by show (mvT _ x.2).depth≤50;rw[kz_];exact hq.r.2.2⟩
 ·have e:nsE (es.map ru_)=nsE es:=by
   unfold nsE;rw[List.map_map];congr 1;exact List.map_congr_left fun x _=>by
    show nsT (mvT _ x.1)+nsT (mvT _ x.2)=_;rw[r5_,r5_]
  rw[e];exact E.ns
theorem near_lo {es:List EqT}(h:oN_ es=true):∀ m∈LE es,m<500000:=by
 intro m hm;unfold LE at hm;obtain⟨e,he,hm⟩:=List.mem_flatMap.1 (ic_.1 hm);have:=kv_.1 h e he m hm;omega
theorem far_hi {es:List EqT}(E:Es es):∀ m∈LE (es.map ru_),500000≤m:=by
 intro m hm;unfold LE at hm;obtain⟨e,he,hm⟩:=List.mem_flatMap.1 (ic_.1 hm);obtain⟨x,hx,rfl⟩:=List.mem_map.1 he;have hq:=E.ok x hx
 rcases List.mem_append.1 hm with h|h
 ·obtain⟨n,hn,rfl⟩:=ky_ x.1 h
  have:=bS_ hq.l.1 n hn;omega
 ·obtain⟨n,hn,rfl⟩:=ky_ x.2 h
  have:=bS_ hq.r.1 n hn;omega
end
section
open Go.RowKit
def frF (es:List EqT)(i:Nat):List EqT:=(es.take i).map ru_++es.drop i
theorem frF_len (es:List EqT)(i:Nat)(hi:i≤es.length):(frF es i).length=es.length:=by
 unfold frF;rw[List.length_append,List.length_map,List.length_take,List.length_drop];omega
theorem frF_at {es:List EqT}{i:Nat}(hi:i<es.length):(frF es i)[i]? = some es[i]:=by
 unfold frF;rw[List.getElem?_append_right (by rw[List.length_map,List.length_take];omega),List.length_map,List.length_take,show i - min i es.length=0 from by omega,List.getElem?_drop,List.getElem?_eq_getElem (by omega)];simp
theorem frF_set {es:List EqT}{i:Nat}(hi:i<es.length):(frF es i).set i (ru_ es[i])=frF es (i+1):=by
 unfold frF;rw[List.set_append_right _ _ (by rw[List.length_map,List.length_take];omega),List.length_map,List.length_take,show i - min i es.length=0 from by omega,List.drop_eq_getElem_cons hi,List.set_cons_zero,List.take_succ_eq_append_getElem hi,List.map_append,List.append_assoc];rfl
theorem frF_all (es:List EqT):frF es es.length=es.map ru_:=by unfold frF;rw[List.take_length,List.drop_length,List.append_nil]
def sK_ (lo:Nat)(W:World)(xa:OA_)(xc n:Nat)(fs:List EqT):Prop:=(n=0∧fs=[]∧EAt W (.slice xa 0 xc) [])∨∃ g off,xa=some ⟨g,off,none⟩∧lo≤g∧n=fs.length∧Rw g off W fs
structure BRw (lo:Nat)(xa:OA_)(xc n:Nat)(fs:List EqT)(W:World):Prop where
 h:sK_ lo W xa xc n fs
theorem BRw.low {lo n:Nat}{W W':World}{xa:OA_}{xc:Nat}{fs:List EqT}(h:BRw lo xa xc n fs W)(hb:Below W.heap.size W W'):BRw lo xa xc n fs W':=by
 rcases h.h with ⟨h1,h2,h3⟩|⟨g,off,h1,h2,h3,h4⟩
 ·exact⟨.inl ⟨h1,h2,h3.low hb⟩⟩
 ·exact⟨.inr ⟨g,off,h1,h2,h3,h4.low hb⟩⟩
theorem sK_.es {lo n:Nat}{W:World}{xa:OA_}{xc:Nat}{fs:List EqT}(h:sK_ lo W xa xc n fs)(hl:fs.length≤1000000000000):nQ_ W (.slice xa n xc) fs:=by
 rcases h with ⟨h1,h2,h3⟩|⟨g,off,h1,h2,h3,h4⟩
 ·subst h1 h2;exact h3.es hl
 ·subst h1 h3;exact h4.row hl
theorem sK_.two {lo n:Nat}{W:World}{xa:OA_}{xc:Nat}{fs:List EqT}(h:sK_ lo W xa xc n fs){k:Nat}(hk:W.heap.size=k){va:Value}{es:List EqT}(H:EAt W va es)(hn:es.length+fs.length≤4000) :
  ∃ v1 w1 v2 w2,(Builtin.append_ #[24,24] 24 #[.slice (some ⟨k,0,none⟩) 0 0,va]).run Tryz.prog (W.alloc (.cells #[] 48))=.ok v1 w1 ∧
   (Builtin.append_ #[24,24] 24 #[v1,.slice xa n xc]).run Tryz.prog w1=.ok v2 w2∧Below W.heap.size W w2∧EAt w2 v2 (es++fs):=by
 rcases h with ⟨h1,h2,h3⟩|⟨g,off,h1,h2,h3,h4⟩
 ·subst h1 h2;exact p0_ hk H h3 hn
 ·subst h1 h3;exact nW_ hk H h4 hn
structure Aft (a W:World):Prop where
 h:Below a.heap.size a W
theorem Aft.low {a W W':World}(h:Aft a W)(hb:Below W.heap.size W W'):Aft a W':=⟨h.h.trans (hb.mono h.h.size)⟩
theorem KAt.nil (w:World):KAt w (.slice none 0 0) []:=⟨[],dZ_.nil _ _ _⟩
theorem gY_.formA {w:World}{res:Except Nat Kn}{en:Ending}{w':World}(h:gY_ w res en w'):∃ a c R,∃ er:Nat,en=.returned (.tuple #[.slice a (R:Kn).length c,.int .i64 er])∧KAt w' (.slice a R.length c) R∧Below w.heap.size w w'∧(res=.ok R∧er=0∨res=.error er∧R=[]):=by
 cases res with
 | error er =>
  obtain⟨rfl,hb⟩:=h;exact⟨none,0,[],er,rfl,KAt.nil w',hb,.inr ⟨rfl,rfl⟩⟩
 | ok R =>
  obtain⟨v,ps,T',rfl,hK,hT',hb⟩:=h;obtain⟨a,c,rfl⟩:=aG_ hK.own;exact⟨a,c,R,0,rfl,hK.kat hT',hb,.inl ⟨rfl,rfl⟩⟩
theorem sy_ {xs bs:List EqT}{r1 r2 r3:Except Nat Kn}{k1 k2 k3:Kn}{e f g:Nat}(E1:Es xs)(E2:Es bs)
  (h1:∀ er,r1=.error er→40≤er∧r3=.error er) (h2:∀ K1,r1=.ok K1→Kd xs K1∧(∀ er,r2=.error er→40≤er∧r3=.error er)∧∀ K2,r2=.ok K2→Kd bs K2∧r3=.ok (cD_ K1++cD_ K2))
  (a1:iz_ r1=.ok k1∧e=0∨iz_ r1=.error e∧k1=[]) (a2:iz_ r2=.ok k2∧f=0∨iz_ r2=.error f∧k2=[]) (a3:r3=.ok k3∧g=0∨r3=.error g∧k3=[]) :
  (e≠0∧g=e)∨(e=0∧f≠0∧g=f)∨(e=0∧f=0∧g=0∧k3=k1++k2∧k1.length≤24∧k2.length≤24∧∀ x∈k1++k2,bG_ x.2∧0≤x.1∧x.1<1000000000000000000):=by
 cases r1 with
 | error e1 =>
  obtain⟨p1,p2⟩:=h1 e1 rfl;subst p2
  rcases a1 with ⟨q,_⟩|⟨q,_⟩
  ·cases q
  injection q with q
  subst q
  rcases a3 with ⟨q,_⟩|⟨q,_⟩
  ·cases q
  injection q with q
  exact .inl ⟨by omega,q.symm⟩
 | ok K1 =>
  obtain⟨D1,p2,p3⟩:=h2 K1 rfl;have hk1:cD_ K1=k1∧e=0:=by
   rcases a1 with ⟨q,h⟩|⟨q,_⟩
   ·injection q with q;exact⟨q,h⟩
   ·cases q
  obtain⟨rfl,rfl⟩:=hk1;cases r2 with
  | error e2 =>
   obtain⟨p1,p4⟩:=p2 e2 rfl;subst p4
   rcases a2 with ⟨q,_⟩|⟨q,_⟩
   ·cases q
   injection q with q
   subst q
   rcases a3 with ⟨q,_⟩|⟨q,_⟩
   ·cases q
   injection q with q
   exact .inr (.inl ⟨rfl,by omega,q.symm⟩)
  | ok K2 =>
   obtain⟨D2,p4⟩:=p3 K2 rfl;subst p4;have hk2:cD_ K2=k2∧f=0:=by
    rcases a2 with ⟨q,h⟩|⟨q,_⟩
    ·injection q with q;exact⟨q,h⟩
    ·cases q
   obtain⟨rfl,rfl⟩:=hk2;have hk3:cD_ K1++cD_ K2=k3∧g=0:=by
    rcases a3 with ⟨q,h⟩|⟨q,_⟩
    ·injection q with q;exact⟨q,h⟩
    ·cases q
   obtain⟨rfl,rfl⟩:=hk3;refine .inr (.inr ⟨rfl,rfl,rfl,rfl,D1.len E1,D2.len E2,fun x hx=>?_⟩)
   rcases List.mem_append.1 hx with h|h
   ·exact (D1.ans E1).2 x h
   ·exact (D2.ans E2).2 x h
end
end Go.Proofs.YtjecnionbjlncaaGreatDoor.Tp

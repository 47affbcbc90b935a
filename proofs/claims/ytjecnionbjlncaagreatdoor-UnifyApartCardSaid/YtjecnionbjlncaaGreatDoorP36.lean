/- Packed. -/
import Derived.Test.YtjecnionbjlncaaGreatDoorP34
import Derived.Lib.AppendZeros
set_option maxRecDepth 100000
set_option maxHeartbeats 6400000
namespace Go.Proofs.YtjecnionbjlncaaGreatDoor.Tp
section
abbrev Kn:=List (Int × Ty)
abbrev EqT:=Ty × Ty
def lkK (K:Kn)(m:Int):Option Ty:=(K.find? fun x=>x.1==m).map fun x=>x.2
theorem i0_ {K:Kn}{m:Int}{u:Ty}(h:lkK K m=some u)(x:Int × Ty):lkK (K++[x]) m=some u:=by
 unfold lkK at *;rw[List.find?_append];cases hf:K.find? (fun x=>x.1==m) with
 | none=>rw[hf] at h;cases h
 | some y=>rw[hf] at h;simpa using h
theorem bM_ {K:Kn}{m:Int}(h:lkK K m=none)(u:Ty):lkK (K++[(m,u)]) m=some u:=by
 unfold lkK at *;rw[List.find?_append];cases hf:K.find? (fun x=>x.1==m) with
 | none=>simp
 | some y=>rw[hf] at h;cases h
theorem bf_ {K:Kn}{m n:Int}{u:Ty}(h:m≠n):lkK (K++[(m,u)]) n=lkK K n:=by
 unfold lkK;rw[List.find?_append];cases hf:K.find? (fun x=>x.1==n) with
 | none=>simp[beq_eq_false_iff_ne.2 h]
 | some y=>rfl
theorem jG_ {K:Kn}{m:Int}{u:Ty}(h:lkK K m=some u):(m,u)∈K:=by
 unfold lkK at h;cases hf:K.find? (fun x=>x.1==m) with
 | none=>rw[hf] at h;cases h
 | some y =>
  rw[hf] at h;have h1:=List.find?_some hf;have h2:=List.mem_of_find?_eq_some hf;simp only[Option.map_some,Option.some.injEq] at h;have h3:y.1=m:=by simpa using h1
  rw[← h3,← h];exact h2
theorem jH_:∀ {l m:List ByteArray},l.Nodup→(∀ x∈l,x∈m)→l.length≤m.length:=by
 intro l
 induction l with
 | nil=>intro m _ _;simp
 | cons x l ih =>
  intro m hn h;rw[List.nodup_cons] at hn;obtain⟨a,b,rfl⟩:=List.append_of_mem (h x (by simp));have:=ih (m:=a++b) hn.2 fun y hy=>by
   have hm:=h y (by simp[hy]);have hne:y≠x:=fun e=>hn.1 (e ▸ hy);simp only[List.mem_append,List.mem_cons] at hm ⊢
   rcases hm with hm|hm|hm
   ·exact .inl hm
   ·exact absurd hm hne
   ·exact .inr hm
  simp only[List.length_append,List.length_cons] at this ⊢;omega
theorem kV_:∀ (t:Ty) (out ns:List ByteArray),out.Nodup→(bZ_ ao_ t out ns).Nodup:=by
 intro t
 induction t using Ty.ind with
 | h t ih =>
  intro out ns hn;have hs:(ao_ out t ns).Nodup:=by
   unfold ao_
   split
   ·next h =>
    simp only[Bool.and_eq_true,Bool.not_eq_true',ct_] at h;rw[List.nodup_append];exact⟨hn,by simp,fun a ha b hb=>by rw[List.mem_singleton.1 hb];exact fun e=>h.2 (e ▸ ha)⟩
   ·exact hn
  have hl:∀ (l:List Ty) (out ns:List ByteArray),(∀ a∈l,∀ (out ns:List ByteArray),out.Nodup→(bZ_ ao_ a out ns).Nodup)→out.Nodup→(bB_ ao_ l out ns).Nodup:=by
   intro l
   induction l with
   | nil=>intro out ns _ h;exact h
   | cons a l ihl=>intro out ns h hn;rw[bB_];exact ihl _ _ (fun b hb=>h b (by simp[hb])) (h a (by simp) _ _ hn)
  rw[cd_];exact hl _ _ _ ih hs
theorem eV_ (t:Ty):(ai_ t).Nodup:=kV_ t [] [] List.nodup_nil
def smB (t:Ty):Bool:=decide (t.size≤2100000000∧(ai_ t).length≤3000000)
def dH_ (f:Ty→Option Ty)(K:Kn):List Int→Ty→Option Ty
 | [],acc=>some acc
 | m :: ms,acc=>match lkK K m with
  | none=>dH_ f K ms acc
  | some u=>match f u with
   | none=>none
   | some u'=>if smB u'&&smB (bH_ m u' acc) then dH_ f K ms (bH_ m u' acc) else none
def dX_:Nat→Kn→Ty→Option Ty
 | 0,_,_=>none
 | n+1,K,t=>dH_ (dX_ n K) K (ap_ t) t
def bo_ (n:Nat):ByteArray:=ab_ (36 :: Lib.decDigits n)
def fX_ (l:List ByteArray):Bool:=l.any fun s=>s.data.toList.headD 0==36
def opT (t:Ty)(c:ByteArray):Ty:=f6_ t.name (.mk 1 c 0 []) (cm_ t)
def hv_ (K:Kn)(m:Int)(t:Ty):Except Nat Kn :=
 if (ap_ t).contains m then .error 41 else if eR_ t then .error 42 else if fX_ (ai_ t) then .error 43 else .ok (K++[(m,t)])
def cB_ (l r:Ty):EqT:=if r.kind=2∧(l.kind≠2∨l.n<r.n) then (r,l) else (l,r)
def bg_ (l r:Ty):Bool:=l.kind != r.kind || l.kind==1 || (!eqN l.name r.name&&l.kind != 5) || l.args.length != r.args.length
structure Wk where
 K:Kn
 left:List EqT
 fresh:Nat
def f9_ (W:Wk)(l r:Ty):Option (Except Nat Wk) :=
 if aM_ l=aM_ r then some (.ok W)
 else if l.kind=2 then (if (lkK W.K l.n).isSome || (ai_ r).any (fun s=>s.size==0) then none else some (match hv_ W.K l.n r with | .error e=>.error e | .ok K=>.ok { W with K:=K }))
 else if bg_ l r then some (.error 40)
 else if l.kind=5 then (if smB (opT l (bo_ W.fresh))&&smB (opT r (bo_ W.fresh))&&decide (W.fresh<1000000) then some (.ok { W with left:=(opT l (bo_ W.fresh),opT r (bo_ W.fresh)) :: W.left,fresh:=W.fresh+1 }) else none)
 else some (.ok { W with left:=l.args.zip r.args++W.left })
def er_ (n:Nat)(W:Wk)(e:EqT):Option (Except Nat Wk) :=
 match dX_ n W.K e.1 with
 | none=>none
 | some l=>match dX_ n W.K e.2 with
  | none=>none
  | some r=>f9_ W (cB_ l r).1 (cB_ l r).2
def de_ (d:Nat):Nat→Wk→Option (Except Nat Kn)
 | 0,_=>none
 | n+1,W=>match W.left with
  | []=>some (.ok W.K)
  | e :: es=>match er_ d { W with left:=es } e with
   | none=>none
   | some (.error er)=>some (.error er)
   | some (.ok W')=>if W'.left.length≤500000000000 then de_ d n W' else none
def b4_ (K:Kn):List Int:=(K.map fun x=>x.1).mergeSort fun x y=>decide (x≤y)
def jm_ (d:Nat)(K:Kn):List Int→Option Kn
 | []=>some []
 | m :: ms=>match lkK K m with
  | none=>none
  | some u=>match dX_ d K u with
   | none=>none
   | some u'=>match jm_ d K ms with
    | none=>none
    | some r=>some ((m,u') :: r)
def fT_ (d n:Nat)(es:List EqT):Option (Except Nat Kn) :=
 match de_ d n ⟨[],es,0⟩ with
 | none=>none
 | some (.error e)=>some (.error e)
 | some (.ok K)=>match jm_ d K (b4_ K) with
  | none=>none
  | some r=>some (.ok r)
end
section
open Go.RowKit Go.MapKept
def g5_ (S:Nat→Prop)(w:World)(b:Nat)(K:Kn):Prop :=
 ∃ es clock,w.heap[b]? = some (.map es clock)∧Stamped es clock∧es.toList.map (fun x=>x.key)=K.map (fun x=>.int .i64 x.1) ∧
  ∀ x∈es.toList,∃ m u a c,x.key=.int .i64 m∧x.val=tv u a c∧aa_ S w (.slice a u.args.length c) u.args∧lkK K m=some u
theorem g5_.lt {S:Nat→Prop}{w:World}{b:Nat}{K:Kn}(h:g5_ S w b K):b<w.heap.size:=by
 obtain⟨es,clock,hb,_⟩:=h;exact (Array.getElem?_eq_some_iff.1 hb).1
theorem g5_.keep {S:Nat→Prop}{A B:World}{b:Nat}{K:Kn}(H:g5_ S A b K)(hb:B.heap[b]? = A.heap[b]?)(h:∀ j,S j→B.heap[j]? = A.heap[j]?):g5_ S B b K:=by
 obtain⟨es,clock,h1,h2,h3,h4⟩:=H;refine⟨es,clock,hb.trans h1,h2,h3,fun x hx=>?_⟩;obtain⟨s,u,a,c,e1,e2,e3,e4⟩:=h4 x hx;exact⟨s,u,a,c,e1,e2,e3.keep h,e4⟩
theorem g5_.mono {S S':Nat→Prop}{A:World}{b:Nat}{K:Kn}(H:g5_ S A b K)(h:∀ j,S j→S' j):g5_ S' A b K:=by
 obtain⟨es,clock,h1,h2,h3,h4⟩:=H;refine⟨es,clock,h1,h2,h3,fun x hx=>?_⟩;obtain⟨s,u,a,c,e1,e2,e3,e4⟩:=h4 x hx;exact⟨s,u,a,c,e1,e2,e3.mono h,e4⟩
theorem g5_.made (S:Nat→Prop)(w:World){n:Nat}(hn:w.heap.size=n):g5_ S (w.alloc (.map #[] 0)) n []:=by
 subst hn;exact⟨#[],0,(heap_alloc w _).1,stamped_empty 0,rfl,by simp⟩
theorem oX_ (m:Int):IsKey (.int .i64) (.int .i64 m):=by simp[IsKey]
section
variable {P : Program} {S : Nat → Prop} {w : World} {b : Nat} {K : Kn} {t k e : TypeId}
theorem g5_.look_some (h:g5_ S w b K)(ht:P.underlying t=some (.map k e))(hk:P.underlying k=some (.int .i64)){m:Int}{u:Ty}(hl:lkK K m=some u) :
  ∃ a c,(∀ w':World,w'.heap[b]? = w.heap[b]?→(Instr.lookup t (.map (some b)) (.int .i64 m) true).run P w'=.ok (.tuple #[tv u a c,.bool true]) w'∧(Instr.lookup t (.map (some b)) (.int .i64 m) false).run P w'=.ok (tv u a c) w')∧aa_ S w (.slice a u.args.length c) u.args:=by
 obtain⟨es,clock,hb,hst,hke,hv⟩:=h;have hks:∀ x∈es.toList,IsKey (.int .i64) x.key:=fun x hx=>by obtain⟨s,_,_,_,hs,_⟩:=hv x hx;rw[hs];exact oX_ s
 rcases findNow_spec (d:=.int .i64) (k:=.int .i64 m) (oX_ m) es.toList 0 hks with ⟨h1,h2⟩|⟨j,e0,h1,h2,h3⟩
 ·have hm:(Value.int .i64 m)∈es.toList.map (fun x=>x.key):=by rw[hke];exact List.mem_map.2 ⟨_,jG_ hl,rfl⟩
  obtain⟨x,hx,hx2⟩:=List.mem_map.1 hm;exact absurd hx2 (h2 x hx)
 ·have hm:e0∈es.toList:=List.mem_of_getElem? h2
  obtain⟨s',u',a,c,hk',hval,hA,hf⟩:=hv e0 hm;rw[h3] at hk';injection hk' with _ hk'
  subst hk';rw[hl] at hf;injection hf with hf
  subst hf;refine⟨a,c,fun w' hw=>?_,hA⟩;have hb':=hw.trans hb
  constructor<;>simp[Instr.lookup,run_underlying ht,MapKept.run_getObj_map hb',run_checkKey hk (oX_ m),run_findKey hk h1,hval,Result.andThen]
theorem g5_.look_none (h:g5_ S w b K)(ht:P.underlying t=some (.map k e))(hk:P.underlying k=some (.int .i64)){m:Int}(hl:lkK K m=none){z:Value}(hz:∀ w,(zeroValue e).run P w=.ok z w) :
  ∀ w':World,w'.heap[b]? = w.heap[b]?→(Instr.lookup t (.map (some b)) (.int .i64 m) true).run P w'=.ok (.tuple #[z,.bool false]) w':=by
 intro w' hw;obtain⟨es,clock,hb,hst,hke,hv⟩:=h;have hb':=hw.trans hb;have hks:∀ x∈es.toList,IsKey (.int .i64) x.key:=fun x hx=>by obtain⟨s,_,_,_,hs,_⟩:=hv x hx;rw[hs];exact oX_ s
 rcases findNow_spec (d:=.int .i64) (k:=.int .i64 m) (oX_ m) es.toList 0 hks with ⟨h1,h2⟩|⟨j,e0,h1,h2,h3⟩
 ·simp[Instr.lookup,run_underlying ht,MapKept.run_getObj_map hb',run_checkKey hk (oX_ m),run_findKey hk h1,hz,Result.andThen]
 ·have hm:e0∈es.toList:=List.mem_of_getElem? h2
  obtain⟨s',u',a,c,hk',hval,hA,hf⟩:=hv e0 hm;rw[h3] at hk';injection hk' with _ hk'
  subst hk';rw[hl] at hf;cases hf
theorem g5_.update (h:g5_ S w b K)(ht:P.underlying t=some (.map k e))(hk:P.underlying k=some (.int .i64)){m:Int}(hl:lkK K m=none){u:Ty}{a:OA_}{c:Nat}(hA:aa_ S w (.slice a u.args.length c) u.args)(hb':¬ S b) :
  ∃ w',(Instr.mapUpdate t (.map (some b)) (.int .i64 m) (tv u a c)).run P w=.ok () w'∧g5_ S w' b (K++[(m,u)])∧w.grownBy w' (some b)∧w'.heap.size=w.heap.size:=by
 obtain⟨es,clock,hb,hst,hke,hv⟩:=h;have hks:∀ x∈es.toList,IsKey (.int .i64) x.key:=fun x hx=>by obtain⟨s,_,_,_,hs,_⟩:=hv x hx;rw[hs];exact oX_ s
 have grown:∀ o:Obj,w.grownBy { w with heap:=w.heap.setIfInBounds b o } (some b):=fun o=>⟨rfl,rfl,rfl,by simp,fun i _ hi=>(heap_set hb).2 i (fun e=>hi (by rw[e]))⟩
 rcases findNow_spec (d:=.int .i64) (k:=.int .i64 m) (oX_ m) es.toList 0 hks with ⟨h1,h2⟩|⟨j,e0,h1,h2,h3⟩
 ·have old:∀ j,S j→({ w with heap:=w.heap.setIfInBounds b (.map (es.push { key:=.int .i64 m,val:=tv u a c,born:=clock }) (clock+1)) } : World).heap[j]? = w.heap[j]? := fun j hj=>(heap_set hb).2 j (fun e=>hb' (by rw[← e];exact hj))
  refine⟨{ w with heap:=w.heap.setIfInBounds b (.map (es.push { key:=.int .i64 m,val:=tv u a c,born:=clock }) (clock+1)) },
   by simp[Instr.mapUpdate,run_underlying ht,MapKept.run_getObj_map hb,run_checkKey hk (oX_ m),run_findKey hk h1,run_setObj_map _ hb,Result.andThen],⟨_,_,(heap_set hb).1,stamped_push hst h2,?_,?_⟩,grown _,by simp⟩
  ·simp only[Array.toList_push,List.map_append,List.map_cons,List.map_nil,hke]
  ·intro x hx
   simp only[Array.toList_push,List.mem_append,List.mem_singleton] at hx
   rcases hx with hx|rfl
   ·obtain⟨s',u',a',c',e1,e2,e3,e4⟩:=hv x hx
    exact⟨s',u',a',c',e1,e2,e3.keep old,i0_ e4 _⟩
   ·exact⟨m,u,a,c,rfl,rfl,hA.keep old,bM_ hl u⟩
 ·have hm:e0∈es.toList:=List.mem_of_getElem? h2
  obtain⟨s',u',a',c',hk',hval,hA',hf⟩:=hv e0 hm;rw[h3] at hk';injection hk' with _ hk'
  subst hk';rw[hl] at hf;cases hf
end
def db_ (e:EqT)(p:Value × Value):List Value:=[.int .i64 e.1.kind,.string e.1.name,.int .i64 e.1.n,p.1,.int .i64 e.2.kind,.string e.2.name,.int .i64 e.2.n,p.2]
def a5_ (es:List EqT)(ps:List (Value × Value)):List Value:=(es.zip ps).flatMap fun p=>db_ p.1 p.2
theorem dY_:∀ (cs:List EqT) (ps:List (Value × Value)) (c:EqT) (p:Value × Value),ps.length=cs.length→a5_ (cs++[c]) (ps++[p])=a5_ cs ps++db_ c p:=by
 intro cs ps c p h;unfold a5_;rw[List.zip_append h.symm,List.flatMap_append];simp
theorem a3_:∀ (cs:List EqT) (ps:List (Value × Value)),ps.length=cs.length→(a5_ cs ps).length=cs.length*8:=by
 intro cs
 induction cs with
 | nil=>intro ps _;simp[a5_]
 | cons c cs ih =>
  intro ps h;cases ps with
  | nil=>cases h
  | cons p ps =>
   have:=ih ps (by simpa using h);unfold a5_ at *;rw[List.zip_cons_cons,List.flatMap_cons,List.length_append,this,List.length_cons];simp only[db_,List.length_cons,List.length_nil];omega
theorem ek_:∀ (cs:List EqT) (ps:List (Value × Value)),ps.length=cs.length→∀ (i:Nat) (h:i<cs.length) (h':i<ps.length) (j:Nat),j<8→(a5_ cs ps)[i*8+j]? = (db_ cs[i] ps[i])[j]? := by
 intro cs
 induction cs with
 | nil=>intro ps _ i h;cases h
 | cons c cs ih =>
  intro ps hl i h h' j hj;cases ps with
  | nil=>cases hl
  | cons p ps =>
   have e:a5_ (c :: cs) (p :: ps)=db_ c p++a5_ cs ps:=rfl;rw[e];cases i with
   | zero =>
    rw[List.getElem?_append_left (by simp[db_];omega)];simp
   | succ i =>
    rw[List.getElem?_append_right (by simp[db_];omega)];have:=ih ps (by simpa using hl) i (by simpa using h) (by simpa using h') j hj;simp only[List.getElem_cons_succ];rw[← this];congr 1;simp only[db_,List.length_cons,List.length_nil];omega
structure cX_ (S:Nat→Prop)(lo:Nat)(w:World)(v:Value)(es:List EqT)(ps:List (Value × Value)):Prop where
 own:w.ownsRow lo 48 8 v es.length (a5_ es ps)
 len:ps.length=es.length
 at_:∀ (j:Nat) (e:EqT) (p:Value × Value),es[j]? = some e→ps[j]? = some p→∃ a c a' c',p.1=.slice a e.1.args.length c∧p.2=.slice a' e.2.args.length c'∧aa_ S w p.1 e.1.args∧aa_ S w p.2 e.2.args
theorem cX_.nil (S:Nat→Prop)(lo:Nat)(w:World):cX_ S lo w (.slice none 0 0) [] []:=⟨World.ownsRow_nil _ _ _ _,rfl,by simp⟩
theorem cX_.keep {S:Nat→Prop}{lo:Nat}{w w':World}{v:Value}{es:List EqT}{ps:List (Value × Value)}(h:cX_ S lo w v es ps)(hv:∀ b,v.ownBlock=some b→w'.heap[b]? = w.heap[b]?)(hS:∀ b,S b→w'.heap[b]? = w.heap[b]?):cX_ S lo w' v es ps :=
 ⟨aF_ h.own hv,h.len,fun j t sv h1 h2=>by
  obtain⟨a,c,a',c',e1,e2,h3,h4⟩:=h.at_ j t sv h1 h2;exact⟨a,c,a',c',e1,e2,h3.keep hS,h4.keep hS⟩⟩
theorem cX_.mono {S S':Nat→Prop}{lo:Nat}{w:World}{v:Value}{es:List EqT}{ps:List (Value × Value)}(h:cX_ S lo w v es ps)(hS:∀ b,S b→S' b):cX_ S' lo w v es ps :=
 ⟨h.own,h.len,fun j t sv h1 h2=>by
  obtain⟨a,c,a',c',e1,e2,h3,h4⟩:=h.at_ j t sv h1 h2;exact⟨a,c,a',c',e1,e2,h3.mono hS,h4.mono hS⟩⟩
theorem cX_.pop {S:Nat→Prop}{lo:Nat}{w:World}{v:Value}{es:List EqT}{e:EqT}{ps:List (Value × Value)}(h:cX_ S lo w v (es++[e]) ps) :
  ∃ g cap p ps',v=.slice (some ⟨g,0,none⟩) (es.length+1) cap∧ps=ps'++[p]∧cX_ S lo w (.slice (some ⟨g,0,none⟩) es.length cap) es ps'∧lo≤g∧g<w.heap.size ∧
   (∀ j u,j<8→(db_ e p)[j]? = some u→w.cell? ⟨g,es.length*8+j,none⟩=some u):=by
 have hl:=h.len;rw[List.length_append,List.length_singleton] at hl;obtain⟨ps',p,rfl⟩:∃ ps' p,ps=ps'++[p]:=by
  rcases List.eq_nil_or_concat ps with e|⟨a,b,e⟩
  ·rw[e] at hl;simp at hl
  ·exact⟨a,b,by rw[e,List.concat_eq_append]⟩
 have hl':ps'.length=es.length:=by simpa using hl
 obtain⟨hx,hr⟩:=h.own;rw[List.length_append,List.length_singleton] at hr
 rcases hr with ⟨_,h0⟩|⟨g,cap,cur,hv,hb,hg,h1,h2,h3,h4⟩
 ·omega
 ·have hcl:=a3_ es ps' hl'
  have ht:cur.toList.take (es.length*8)=a5_ es ps':=by
   rw[dY_ _ _ _ _ hl'] at h4;have h5:=congrArg (List.take (es.length*8)) h4;rw[List.take_take,Nat.min_eq_left (by omega),List.take_append_of_le_length (by omega),List.take_of_length_le (l:=a5_ es ps') (by omega)] at h5;exact h5
  refine⟨g,cap,p,ps',hv,rfl,⟨⟨by rw[hcl],.inr ⟨g,cap,cur,rfl,hb,hg,by omega,h2,h3,ht⟩⟩,hl',fun j t sv h5 h6=>h.at_ j t sv (by rw[List.getElem?_append_left (List.getElem?_eq_some_iff.1 h5).1];exact h5) (by rw[List.getElem?_append_left (List.getElem?_eq_some_iff.1 h6).1];exact h6)⟩,hb,(Array.getElem?_eq_some_iff.1 hg).1,fun j u hj hu=>?_⟩;have hc:=h.own.cells (g:=g) (by rw[hv];rfl) (es.length*8+j) u (by
   rw[dY_ _ _ _ _ hl',List.getElem?_append_right (by omega),hcl];rw[show es.length*8+j - es.length*8=j by omega];exact hu)
  have hadd:(⟨g,0,none⟩:Addr).add (es.length*8+j)=⟨g,es.length*8+j,none⟩:=by unfold Addr.add;split<;>simp_all
  rw[hadd] at hc;exact hc
theorem ne_:(Tryz.prog.info? 48).map (fun i=>(i.zero,i.size,i.bytes))=some (some (.agg #[.int .i64 0,.string ByteArray.empty,.int .i64 0,.slice none 0 0,.int .i64 0,.string ByteArray.empty,.int .i64 0,.slice none 0 0]),8,112):=by kernel_rfl
theorem cX_.push {S:Nat→Prop}{lo:Nat}{w:World}{v:Value}{es:List EqT}{ps:List (Value × Value)}(h:cX_ S lo w v es ps)(hlo:lo≤w.heap.size)(hl:es.length≤1000000000000){x:EqT}{a a':OA_}{c c':Nat}
  (hS:∀ b,S b→b<w.heap.size∧v.ownBlock≠some b) (h1:aa_ S w (.slice a x.1.args.length c) x.1.args) (h2:aa_ S w (.slice a' x.2.args.length c') x.2.args) :
  ∃ v' w',(Builtin.append_ #[24,24] 24 #[v,.slice (some ⟨w.heap.size,0,none⟩) 1 1]).run Tryz.prog (w.alloc (.cells #[.int .i64 x.1.kind,.string x.1.name,.int .i64 x.1.n,.slice a x.1.args.length c,.int .i64 x.2.kind,.string x.2.name,.int .i64 x.2.n,.slice a' x.2.args.length c'] 48))=.ok v' w' ∧
   cX_ S lo w' v' (es++[x]) (ps++[(.slice a x.1.args.length c,.slice a' x.2.args.length c')])∧w.grownBy w' v.ownBlock∧(∀ b,v'.ownBlock=some b→v.ownBlock=some b∨w.heap.size≤b)∧w.heap.size<w'.heap.size:=by
 obtain⟨i0,hi0,hz0,hz1,hz3⟩:=info_parts ne_;have hg0:w.grownBy (w.alloc (.cells #[.int .i64 x.1.kind,.string x.1.name,.int .i64 x.1.n,.slice a x.1.args.length c,.int .i64 x.2.kind,.string x.2.name,.int .i64 x.2.n,.slice a' x.2.args.length c'] 48)) v.ownBlock:=⟨rfl,rfl,rfl,by simp,fun k hk _=>heap_alloc_old w _ hk⟩;obtain⟨g,cap,w',hr,ho,hg,hat,hlt⟩:=run_append_lies (P:=Tryz.prog) (w:=w.alloc (.cells #[.int .i64 x.1.kind,.string x.1.name,.int .i64 x.1.n,.slice a x.1.args.length c,.int .i64 x.2.kind,.string x.2.name,.int .i64 x.2.n,.slice a' x.2.args.length c'] 48)) 24 24 lo 48 i0 _ 8 112 Tryz.underlying24 hi0 hz0 hz1 hz3 rfl (by omega) v es.length (a5_ es ps) (h.own.alloc _) ⟨w.heap.size,0,none⟩ 1 1
  (db_ x (.slice a x.1.args.length c,.slice a' x.2.args.length c')) rfl (World.news_of_block (cs:=#[.int .i64 x.1.kind,.string x.1.name,.int .i64 x.1.n,.slice a x.1.args.length c,.int .i64 x.2.kind,.string x.2.name,.int .i64 x.2.n,.slice a' x.2.args.length c']) (t:=48) (fr:=(0,0)) (heap_alloc_new w _)) (by simp[db_,Value.oneCell']) (by omega) (by unfold maxLen;omega) (by omega) (by simp;omega) (w.heap.size+1) (by simp)
 have hgg:w.grownBy w' v.ownBlock:=⟨hg.os.trans hg0.os,hg.tape.trans hg0.tape,hg.output.trans hg0.output,cj_ hg0.size hg.size,fun k hk hne=>(hg.block k (by simp;omega) hne).trans (hg0.block k hk hne)⟩;have hsz:=hg.size;simp only[World.size_alloc] at hsz;have kS:∀ b,S b→w'.heap[b]? = w.heap[b]? := fun b hb=>hgg.block b (hS b hb).1 (Ne.symm (hS b hb).2);refine⟨_,w',hr,⟨?_,by simp[h.len],fun j t sv h5 h6=>?_⟩,hgg,fun b e=>?_,by omega⟩
 ·rw[dY_ _ _ _ _ h.len,List.length_append];exact ho
 ·rcases Nat.lt_or_ge j es.length with hj|hj
  ·rw[List.getElem?_append_left hj] at h5
   rw[List.getElem?_append_left (by rw[h.len];exact hj)] at h6;obtain⟨b1,b2,b3,b4,e1,e2,h3,h4⟩:=h.at_ j t sv h5 h6;exact⟨b1,b2,b3,b4,e1,e2,h3.keep kS,h4.keep kS⟩
  ·have hj':j=es.length:=by
    have:=(List.getElem?_eq_some_iff.1 h5).1;simp at this;omega
   subst hj';rw[List.getElem?_append_right (aC_ _)] at h5;rw[← h.len,List.getElem?_append_right (aC_ _)] at h6;simp at h5 h6;subst h5 h6;exact⟨a,c,a',c',rfl,rfl,h1.keep kS,h2.keep kS⟩
 ·rcases hat with e3|e3
  ·exact .inl (e3.trans (by simpa [Value.ownBlock] using e))
  ·refine .inr ?_
   have:g=b:=by simpa [Value.ownBlock] using e
   omega
end
section
open Go.RowKit
def Wb3 (w:World)(wb:Nat)(v:Value)(kb:Nat)(fr:Int):Prop:=w.heap[wb]? = some (.cells #[v,.map (some kb),.int .i64 fr] 77 (0,0))
section
variable {w w' : World} {wb kb : Nat} {v : Value} {fr : Int}
theorem Wb3.c0 (h:Wb3 w wb v kb fr):w.cell? ⟨wb,0,none⟩=some v:=cell_of_row w wb 0 _ _ _ h
theorem Wb3.c1 (h:Wb3 w wb v kb fr):w.cell? ⟨wb,1,none⟩=some (.map (some kb)):=cell_of_row w wb 1 _ _ _ h
theorem Wb3.c2 (h:Wb3 w wb v kb fr):w.cell? ⟨wb,2,none⟩=some (.int .i64 fr):=cell_of_row w wb 2 _ _ _ h
theorem Wb3.fz (h:Wb3 w wb v kb fr)(i:Nat):w.frozen? ⟨wb,i,none⟩=false:=by unfold Wb3 at h;simp[World.frozen?,h]
theorem Wb3.lt (h:Wb3 w wb v kb fr):wb<w.heap.size:=(Array.getElem?_eq_some_iff.1 h).1
theorem Wb3.low (h:Wb3 w wb v kb fr)(hb:Below w.heap.size w w'):Wb3 w' wb v kb fr:=(hb.block wb h.lt).trans h
theorem Wb3.grown {r:Option Nat}(h:Wb3 w wb v kb fr)(hg:w.grownBy w' r)(hr:r≠some wb):Wb3 w' wb v kb fr:=(hg.block wb h.lt (Ne.symm hr)).trans h
theorem Wb3.set0 (h:Wb3 w wb v kb fr)(u:Value):Wb3 (w.setCell ⟨wb,0,none⟩ u) wb u kb fr:=by
 have:=aN_ h u (i:=0);simpa [Wb3] using this
theorem Wb3.set2 (h:Wb3 w wb v kb fr)(n:Int):Wb3 (w.setCell ⟨wb,2,none⟩ (.int .i64 n)) wb v kb n:=by
 have:=aN_ h (.int .i64 n) (i:=2);simpa [Wb3] using this
end
def eqv (e:EqT)(a:OA_)(c:Nat)(a':OA_)(c':Nat):Value:=.agg #[.int .i64 e.1.kind,.string e.1.name,.int .i64 e.1.n,.slice a e.1.args.length c,.int .i64 e.2.kind,.string e.2.name,.int .i64 e.2.n,.slice a' e.2.args.length c']
structure GB (X:Nat→Prop)(w w':World):Prop where
 os:w'.os=w.os
 tape:w'.tape=w.tape
 output:w'.output=w.output
 size:w.heap.size≤w'.heap.size
 block:∀ k,k<w.heap.size→¬ X k→w'.heap[k]? = w.heap[k]?
theorem GB.below {X:Nat→Prop}{n:Nat}{w w':World}(h:GB X w w')(hX:∀ k,X k→n≤k)(hn:n≤w.heap.size):Below n w w' :=
 ⟨h.os,h.tape,h.output,h.size,fun k hk=>h.block k (by omega) fun e=>by have:=hX k e;omega⟩
theorem GB.of_below {X:Nat→Prop}{w w':World}(h:Below w.heap.size w w'):GB X w w':=⟨h.os,h.tape,h.output,h.size,fun k hk _=>h.block k hk⟩
theorem GB.refl (X:Nat→Prop)(w:World):GB X w w:=.of_below (Below.refl _ _)
theorem GB.trans {X X':Nat→Prop}{w w1 w2:World}(h:GB X w w1)(g:GB X' w1 w2)(hX:∀ k,k<w.heap.size→X' k→X k):GB X w w2 :=
 ⟨g.os.trans h.os,g.tape.trans h.tape,g.output.trans h.output,cj_ h.size g.size,fun k hk hx=>(g.block k (ba_ hk h.size) fun e=>hx (hX k hk e)).trans (h.block k hk hx)⟩
theorem GB.mono {X X':Nat→Prop}{w w1:World}(h:GB X w w1)(hX:∀ k,X k→X' k):GB X' w w1:=⟨h.os,h.tape,h.output,h.size,fun k hk hx=>h.block k hk fun e=>hx (hX k e)⟩
def XW (wb kb:Nat)(v:Value)(k:Nat):Prop:=k=wb∨k=kb∨v.ownBlock=some k
structure UM (T:Nat→Prop)(n0:Nat)(w:World)(wb kb:Nat)(W:Wk)(v:Value)(ps:List (Value × Value)):Prop where
 wk:Wb3 w wb v kb W.fresh
 kn:g5_ T w kb W.K
 row:cX_ T n0 w v W.left.reverse ps
 ne:wb≠kb
 lo:n0≤wb∧n0≤kb
 sep:∀ b,v.ownBlock=some b→b≠wb∧b≠kb
 t:∀ b,T b→b<w.heap.size∧b≠wb∧b≠kb∧v.ownBlock≠some b
section
variable {T T' : Nat → Prop} {n0 : Nat} {w w' : World} {wb kb : Nat} {W : Wk} {v : Value} {ps : List (Value × Value)}
theorem UM.low (h:UM T n0 w wb kb W v ps)(hb:Below w.heap.size w w'):UM T n0 w' wb kb W v ps :=
 ⟨h.wk.low hb,h.kn.keep (hb.block kb h.kn.lt) fun j hj=>hb.block j (h.t j hj).1,h.row.keep (fun b e=>hb.block b (h.row.own.lt b e).2) fun j hj=>hb.block j (h.t j hj).1,h.ne,h.lo,h.sep,fun b hT=>⟨ba_ (h.t b hT).1 hb.size,(h.t b hT).2⟩⟩
theorem UM.more (h:UM T n0 w wb kb W v ps){m:Nat}(hw:wb<m)(hk:kb<m)(hv:∀ b,v.ownBlock=some b→b<m):UM (fun b=>T b∨m≤b∧b<w.heap.size) n0 w wb kb W v ps :=
 ⟨h.wk,h.kn.mono fun _=>.inl,h.row.mono fun _=>.inl,h.ne,h.lo,h.sep,fun b hT=>by
  rcases hT with hT|⟨h1,h2⟩
  ·exact h.t b hT
  ·exact⟨h2,by omega,by omega,fun e=>by have:=hv b e;omega⟩⟩
theorem UM.klt (h:UM T n0 w wb kb W v ps):wb<w.heap.size∧kb<w.heap.size∧∀ b,v.ownBlock=some b→b<w.heap.size:=⟨h.wk.lt,h.kn.lt,fun b e=>(h.row.own.lt b e).2⟩
theorem UM.xlo (h:UM T n0 w wb kb W v ps):∀ k,XW wb kb v k→n0≤k:=fun k e=>by
 rcases e with rfl|rfl|e
 ·exact h.lo.1
 ·exact h.lo.2
 ·exact (h.row.own.lt k e).1
end
def Q8 (w:World)(b:Nat)(u0 u1 u2 u3 u4 u5 u6 u7:Value):Prop:=w.heap[b]? = some (.cells #[u0,u1,u2,u3,u4,u5,u6,u7] 48 (0,0))
section
variable {w w' : World} {b : Nat} {u0 u1 u2 u3 u4 u5 u6 u7 : Value}
theorem Q8.c0 (h:Q8 w b u0 u1 u2 u3 u4 u5 u6 u7):w.cell? ⟨b,0,none⟩=some u0:=cell_of_row w b 0 _ _ _ h
theorem Q8.c1 (h:Q8 w b u0 u1 u2 u3 u4 u5 u6 u7):w.cell? ⟨b,1,none⟩=some u1:=cell_of_row w b 1 _ _ _ h
theorem Q8.c2 (h:Q8 w b u0 u1 u2 u3 u4 u5 u6 u7):w.cell? ⟨b,2,none⟩=some u2:=cell_of_row w b 2 _ _ _ h
theorem Q8.c3 (h:Q8 w b u0 u1 u2 u3 u4 u5 u6 u7):w.cell? ⟨b,3,none⟩=some u3:=cell_of_row w b 3 _ _ _ h
theorem Q8.c4 (h:Q8 w b u0 u1 u2 u3 u4 u5 u6 u7):w.cell? ⟨b,4,none⟩=some u4:=cell_of_row w b 4 _ _ _ h
theorem Q8.c5 (h:Q8 w b u0 u1 u2 u3 u4 u5 u6 u7):w.cell? ⟨b,5,none⟩=some u5:=cell_of_row w b 5 _ _ _ h
theorem Q8.c6 (h:Q8 w b u0 u1 u2 u3 u4 u5 u6 u7):w.cell? ⟨b,6,none⟩=some u6:=cell_of_row w b 6 _ _ _ h
theorem Q8.c7 (h:Q8 w b u0 u1 u2 u3 u4 u5 u6 u7):w.cell? ⟨b,7,none⟩=some u7:=cell_of_row w b 7 _ _ _ h
theorem Q8.fr (h:Q8 w b u0 u1 u2 u3 u4 u5 u6 u7)(i:Nat):w.frozen? ⟨b,i,none⟩=false:=by unfold Q8 at h;simp[World.frozen?,h]
theorem Q8.c07 (h:Q8 w b u0 u1 u2 u3 u4 u5 u6 u7):w.cell? ⟨b,0,none⟩=some u0∧w.cell? ⟨b,1,none⟩=some u1∧w.cell? ⟨b,2,none⟩=some u2∧w.cell? ⟨b,3,none⟩=some u3∧w.cell? ⟨b,4,none⟩=some u4∧w.cell? ⟨b,5,none⟩=some u5∧w.cell? ⟨b,6,none⟩=some u6∧w.cell? ⟨b,7,none⟩=some u7:=⟨h.c0,h.c1,h.c2,h.c3,h.c4,h.c5,h.c6,h.c7⟩
theorem Q8.f07 (h:Q8 w b u0 u1 u2 u3 u4 u5 u6 u7):w.frozen? ⟨b,0,none⟩=false∧w.frozen? ⟨b,1,none⟩=false∧w.frozen? ⟨b,2,none⟩=false∧w.frozen? ⟨b,3,none⟩=false∧w.frozen? ⟨b,4,none⟩=false∧w.frozen? ⟨b,5,none⟩=false∧w.frozen? ⟨b,6,none⟩=false∧w.frozen? ⟨b,7,none⟩=false:=⟨h.fr 0,h.fr 1,h.fr 2,h.fr 3,h.fr 4,h.fr 5,h.fr 6,h.fr 7⟩
theorem Q8.c03 (h:Q8 w b u0 u1 u2 u3 u4 u5 u6 u7):w.cell? ⟨b,0,none⟩=some u0∧w.cell? ⟨b,1,none⟩=some u1∧w.cell? ⟨b,2,none⟩=some u2∧w.cell? ⟨b,3,none⟩=some u3:=⟨h.c0,h.c1,h.c2,h.c3⟩
theorem Q8.f03 (h:Q8 w b u0 u1 u2 u3 u4 u5 u6 u7):w.frozen? ⟨b,0,none⟩=false∧w.frozen? ⟨b,1,none⟩=false∧w.frozen? ⟨b,2,none⟩=false∧w.frozen? ⟨b,3,none⟩=false:=⟨h.fr 0,h.fr 1,h.fr 2,h.fr 3⟩
theorem Q8.lt (h:Q8 w b u0 u1 u2 u3 u4 u5 u6 u7):b<w.heap.size:=(Array.getElem?_eq_some_iff.1 h).1
theorem Q8.new (w:World)(u0 u1 u2 u3 u4 u5 u6 u7:Value):Q8 (w.alloc (.cells #[u0,u1,u2,u3,u4,u5,u6,u7] 48)) w.heap.size u0 u1 u2 u3 u4 u5 u6 u7:=heap_alloc_new w _
theorem Q8.low (h:Q8 w b u0 u1 u2 u3 u4 u5 u6 u7)(hb:Below w.heap.size w w'):Q8 w' b u0 u1 u2 u3 u4 u5 u6 u7:=(hb.block b h.lt).trans h
end
theorem UM.setv {T:Nat→Prop}{n0:Nat}{w:World}{wb kb:Nat}{W:Wk}{v:Value}{ps:List (Value × Value)}(h:UM T n0 w wb kb W v ps){L:List EqT}{v':Value}{ps':List (Value × Value)}(hr:cX_ T n0 w v' L.reverse ps')(ho:∀ b,v'.ownBlock=some b→b≠wb∧b≠kb∧¬ T b) :
  UM T n0 (w.setCell ⟨wb,0,none⟩ v') wb kb ⟨W.K,L,W.fresh⟩ v' ps':=by
 have off:∀ b,b≠wb→(w.setCell ⟨wb,0,none⟩ v').heap[b]? = w.heap[b]? := fun b hb=>aB_ _ _ _ _ hb;exact⟨h.wk.set0 v',h.kn.keep (off kb (Ne.symm h.ne)) fun j hj=>off j (h.t j hj).2.1,hr.keep (fun b e=>off b (ho b e).1) fun j hj=>off j (h.t j hj).2.1,h.ne,h.lo,fun b e=>⟨(ho b e).1,(ho b e).2.1⟩,fun b hT=>⟨by simpa using (h.t b hT).1,(h.t b hT).2.1,(h.t b hT).2.2.1,fun e=>(ho b e).2.2 hT⟩⟩
theorem GB.set {X:Nat→Prop}{w:World}(p:Addr)(u:Value)(h:X p.block):GB X w (w.setCell p u):=⟨rfl,rfl,rfl,by simp,fun k _ hk=>aB_ _ _ _ _ fun e=>hk (by rw[e];exact h)⟩
def pP_ (T:Nat→Prop)(n0:Nat)(w:World)(wb kb:Nat)(K:Kn)(es:List EqT)(e:EqT)(fr:Nat)(v:Value)(en:Ending)(w':World):Prop :=
 ∃ a c a' c' v' ps',en=.returned (eqv e a c a' c')∧UM T n0 w' wb kb ⟨K,es,fr⟩ v' ps'∧aa_ T w' (.slice a e.1.args.length c) e.1.args∧aa_ T w' (.slice a' e.2.args.length c') e.2.args∧GB (XW wb kb v) w w'∧v'.ownBlock=v.ownBlock
theorem qd_ {T:Nat→Prop}{n0:Nat}{w:World}{wb kb:Nat}{K:Kn}{es:List EqT}{e:EqT}{fr:Nat}{v:Value}{ps:List (Value × Value)}(h:UM T n0 w wb kb ⟨K,e :: es,fr⟩ v ps)(hl:es.length≤1000000000000) :
  Calls Tryz.prog 34 #[.pointer (some ⟨wb,0,none⟩)] w (pP_ T n0 w wb kb K es e fr v):=by
 have hrow:=h.row;rw[show (⟨K,e :: es,fr⟩:Wk).left.reverse=es.reverse++[e] from List.reverse_cons] at hrow;obtain⟨g,cap,p,ps',rfl,rfl,hP,hg,hgw,hc⟩:=hrow.pop;rw[List.length_reverse] at hP hc;obtain⟨a,c,a',c',e1,e2,hA,hA'⟩:=hrow.at_ es.length e p (by simp) (by have:=hP.len;rw[List.length_reverse] at this;rw[List.getElem?_append_right (by omega)];simp[this]);obtain⟨p1,p2⟩:=p;simp only at e1 e2;subst e1 e2;have hn:((es.length+1:Nat):Int) - 1=(es.length:Int):=by omega
 have hz:=aw_ w (.cells #[.int .i64 0,.string ⟨#[]⟩,.int .i64 0,.slice none 0 0,.int .i64 0,.string ⟨#[]⟩,.int .i64 0,.slice none 0 0] 48);have hcz:∀ j u,j<8→(db_ e (.slice a e.1.args.length c,.slice a' e.2.args.length c'))[j]? = some u→(w.alloc (.cells #[.int .i64 0,.string ⟨#[]⟩,.int .i64 0,.slice none 0 0,.int .i64 0,.string ⟨#[]⟩,.int .i64 0,.slice none 0 0] 48)).cell? ⟨g,es.length*8+j,none⟩=some u:=fun j u hj hu=>(hz.cell (p:=⟨g,es.length*8+j,none⟩) hgw).trans (hc j u hj hu);have r0:(w.alloc (.cells #[.int .i64 0,.string ⟨#[]⟩,.int .i64 0,.slice none 0 0,.int .i64 0,.string ⟨#[]⟩,.int .i64 0,.slice none 0 0] 48)).cell? ⟨g,es.length*8,none⟩=some (.int .i64 e.1.kind):=hcz 0 _ (by omega) rfl;have r1:=hcz 1 _ (by omega) rfl;have r2:=hcz 2 _ (by omega) rfl;have r3:=hcz 3 _ (by omega) rfl;have r4:=hcz 4 _ (by omega) rfl;have r5:=hcz 5 _ (by omega) rfl;have r6:=hcz 6 _ (by omega) rfl;have r7:=hcz 7 _ (by omega) rfl;have hwz:=h.wk.low hz;have c0:=h.wk.c0;have c0':=hwz.c0;have f0:=hwz.fz 0;have HZ:=hid hz;have hcap:es.length+1≤cap:=by
  rcases hrow.own.2 with ⟨h0,_⟩|⟨g',cap',cur,h0,_,_,h1,_⟩
  ·cases h0
  ·injection h0 with _ _ h0;subst h0;simpa using h1
 have hwl:=h.wk.lt;have HH:=hid h;have HP:=hid hP;have HA:=hid hA;have HA':=hid hA';clear h hrow hP hA hA' hc hgw hg hz hcz hwz;rw[List.length_reverse] at *;go_enter Tryz.func34,Tryz.ntmps34;go_wp2;have q:=(Q8.new (w.setCell ⟨wb,0,none⟩ (.slice (some ⟨g,0,none⟩) es.length cap)) (.int .i64 e.1.kind) (.string e.1.name) (.int .i64 e.1.n) (.slice a e.1.args.length c) (.int .i64 e.2.kind) (.string e.2.name) (.int .i64 e.2.n) (.slice a' e.2.args.length c')).low (aw_ _ (.cells #[.int .i64 e.1.kind,.string e.1.name,.int .i64 e.1.n,.slice a e.1.args.length c,.int .i64 e.2.kind,.string e.2.name,.int .i64 e.2.n,.slice a' e.2.args.length c'] 48));rw[show (w.setCell ⟨wb,0,none⟩ (.slice (some ⟨g,0,none⟩) es.length cap)).heap.size=w.heap.size from by simp] at q;have hb2:=((Below.refl _ (w.setCell ⟨wb,0,none⟩ (.slice (some ⟨g,0,none⟩) es.length cap))).alloc (aC_ _) (.cells #[.int .i64 e.1.kind,.string e.1.name,.int .i64 e.1.n,.slice a e.1.args.length c,.int .i64 e.2.kind,.string e.2.name,.int .i64 e.2.n,.slice a' e.2.args.length c'] 48)).alloc (by simp) (.cells #[.int .i64 e.1.kind,.string e.1.name,.int .i64 e.1.n,.slice a e.1.args.length c,.int .i64 e.2.kind,.string e.2.name,.int .i64 e.2.n,.slice a' e.2.args.length c'] 48);have hu:=(HH.out.setv (L:=es) HP.out (fun b e=>by
  have hb:g=b:=by simpa [Value.ownBlock] using e
  exact⟨(HH.out.sep b (by rw[← hb];rfl)).1,(HH.out.sep b (by rw[← hb];rfl)).2,fun hT=>(HH.out.t b hT).2.2.2 (by rw[← hb];rfl)⟩)).low hb2
 have hg2:GB (XW wb kb (.slice (some ⟨g,0,none⟩) (es.length+1) cap)) w _:=(GB.set ⟨wb,0,none⟩ (.slice (some ⟨g,0,none⟩) es.length cap) (.inl rfl)).trans (GB.of_below hb2) fun k _ h=>h;have kT:∀ b,T b→(((w.setCell ⟨wb,0,none⟩ (.slice (some ⟨g,0,none⟩) es.length cap)).alloc (.cells #[.int .i64 e.1.kind,.string e.1.name,.int .i64 e.1.n,.slice a e.1.args.length c,.int .i64 e.2.kind,.string e.2.name,.int .i64 e.2.n,.slice a' e.2.args.length c'] 48)).alloc (.cells #[.int .i64 e.1.kind,.string e.1.name,.int .i64 e.1.n,.slice a e.1.args.length c,.int .i64 e.2.kind,.string e.2.name,.int .i64 e.2.n,.slice a' e.2.args.length c'] 48)).heap[b]? = w.heap[b]? := fun b hT=>hg2.block b (HH.out.t b hT).1 fun hx=>by
  have ht:=HH.out.t b hT
  rcases hx with hx|hx|hx
  ·exact ht.2.1 hx
  ·exact ht.2.2.1 hx
  ·exact ht.2.2.2 hx
 refine bodyPost_ret (v:=eqv e a c a' c') (by simp[results,Tryz.results34,go_sem,eqv,q.c0,q.c1,q.c2,q.c3,q.c4,q.c5,q.c6,q.c7]) rfl ?_;exact⟨a,c,a',c',_,ps',rfl,hu,HA.out.keep kT,HA'.out.keep kT,hg2,rfl⟩
end
end Go.Proofs.YtjecnionbjlncaaGreatDoor.Tp

/- Texts laid together: MaMem, MaIx, MaFnd, MaPlace, MaMl, MaOwn. -/
import Derived.Test.YtofllmemmggapaaGreatDoorP21
import Derived.Test.YtofllmemmggapaaGreatDoorP01
import Derived.Test.YtofllmemmggapaaGreatDoorP08
import Derived.Test.YtofllmemmggapaaGreatDoorP29
import Derived.Test.YtofllmemmggapaaGreatDoorP09
import Derived.Test.YtofllmemmggapaaGreatDoorP11

namespace Go.Proofs.YtofllmemmggapaaGreatDoor.Tp
open Go.RowKit Go.MapKept
def PairsAt (S:Nat→Prop)(w:World)(v:Value)(ps:List (ByteArray × ByteArray)):Prop :=
 ∃ a cap,v=.slice a ps.length cap∧ps.length≤1099511627776∧(ps=[]∨∃ b off,a=some ⟨b,off,none⟩∧S b ∧
  ∀ i (h:i<ps.length),w.cell? ⟨b,off+i*2,none⟩=some (.string ps[i].1)∧w.cell? ⟨b,off+i*2+1,none⟩=some (.string ps[i].2))
theorem PairsAt.keep {S:Nat→Prop}{A B:World}(h:∀ b,S b→B.heap[b]? = A.heap[b]?){v:Value}{ps:List (ByteArray × ByteArray)}(H:PairsAt S A v ps):PairsAt S B v ps:=by
 obtain⟨a,cap,e,hl,hc⟩:=H
 refine⟨a,cap,e,hl,hc.imp id ?_⟩
 rintro ⟨b,off,e,hb,hc⟩
 exact⟨b,off,e,hb,fun i hi=>⟨(World.cell?_of_block (h b hb)).trans (hc i hi).1,(World.cell?_of_block (h b hb)).trans (hc i hi).2⟩⟩
theorem PairsAt.nil (S:Nat→Prop)(w:World)(a:Option Addr)(c:Nat):PairsAt S w (.slice a 0 c) []:=⟨a,c,rfl,by simp,.inl rfl⟩
def lastJ {α : Type}(q:α→Bool)(ps:List α):Int:=match ps.reverse.findIdx? q with|some i=>(ps.length:Int) - 1 - i|none=>-1
theorem lastJ_none {α : Type}{q:α→Bool}{ps:List α}(h:ps.any q=false):lastJ q ps = -1:=by
 unfold lastJ
 have:ps.reverse.findIdx? q=none:=by
  rw[List.findIdx?_eq_none_iff]
  intro x hx
  have:=List.any_eq_false.1 h x (List.mem_reverse.1 hx)
  simpa using this
 rw[this]
theorem lastJ_at {α : Type}{q:α→Bool}{ps:List α}{k:Nat}(hk:k<ps.length)(hq:q ps[k]=true)(h:(ps.drop (k+1)).any q=false):lastJ q ps=k:=by
 unfold lastJ
 have:ps.reverse.findIdx? q=some (ps.length - 1 - k):=by
  rw[List.findIdx?_eq_some_iff_getElem]
  refine⟨by simp;omega,?_,?_⟩
  ·rw[List.getElem_reverse]
   have e:ps.length - 1 - (ps.length - 1 - k)=k:=by omega
   simp only[e,hq]
  ·intro j hj
   rw[List.getElem_reverse]
   have hlt:ps.length - 1 - j<ps.length:=by omega
   have hm:ps[ps.length - 1 - j]∈ps.drop (k+1):=by
    rw[List.mem_drop_iff_getElem]
    exact⟨ps.length - 1 - j - (k+1),by omega,by congr 1;omega⟩
   have:=List.any_eq_false.1 h _ hm
   simpa using this
 rw[this]
 simp only
 omega
theorem drop_any_succ {α : Type}(q:α→Bool)(ps:List α)(k:Nat)(hk:k<ps.length):(ps.drop k).any q=(q ps[k] || (ps.drop (k+1)).any q):=by
 rw[List.drop_eq_getElem_cons hk,List.any_cons]
end Go.Proofs.YtofllmemmggapaaGreatDoor.Tp

namespace Go.Proofs.YtofllmemmggapaaGreatDoor.Tp
theorem ixN_find (x:ByteArray):∀ ys:List ByteArray,ixN ys x=ys.findIdx? (fun y=>eqN y x)
 | []=>rfl
 | y :: ys=>by rw[ixN,List.findIdx?_cons,ixN_find x ys]
def atJ (n:Nat):Option Nat→Int
 | some i=>(n:Int) - 1 - i
 | none=>-1
theorem atJ_neg {n:Nat}{o:Option Nat}(h:∀ i,o=some i→i<n):decide (atJ n o<0)=o.isNone:=by
 cases o with
 | none=>rfl
 | some i =>
  have:=h i rfl
  exact decide_eq_false (show ¬ ((n:Int) - 1 - i<0) by omega)
theorem atJ_ge {n:Nat}{o:Option Nat}(h:∀ i,o=some i→i<n):decide (0≤atJ n o)=o.isSome:=by
 cases o with
 | none=>rfl
 | some i =>
  have:=h i rfl
  exact decide_eq_true (show (0:Int)≤(n:Int) - 1 - i by omega)
theorem atJ_eq {n:Nat}{o o':Option Nat}(h:∀ i,o=some i→i<n)(h':∀ i,o'=some i→i<n):(atJ n o==atJ n o')=decide (o=o'):=by
 rw[Bool.eq_iff_iff,beq_iff_eq,decide_eq_true_iff]
 cases o with
 | none =>
  cases o' with
  | none=>exact iff_of_true rfl rfl
  | some j=>have:=h' j rfl;exact iff_of_false (show ¬ ((-1:Int)=(n:Int) - 1 - j) by omega) (by simp)
 | some i =>
  have:=h i rfl
  cases o' with
  | none=>exact iff_of_false (show ¬ ((n:Int) - 1 - i=(-1:Int)) by omega) (by simp)
  | some j =>
   have:=h' j rfl
   show ((n:Int) - 1 - i=(n:Int) - 1 - j)↔some i=some j
   rw[Option.some.injEq]
   omega
abbrev Prs:=List (ByteArray × ByteArray)
def epS (ps:Prs):List ByteArray:=(ps.map Prod.fst).reverse
def etS (ps:Prs):List ByteArray:=(ps.map Prod.snd).reverse
theorem epS_snoc (ps:Prs)(a b:ByteArray):epS (ps++[(a,b)])=a :: epS ps:=by simp[epS]
theorem etS_snoc (ps:Prs)(a b:ByteArray):etS (ps++[(a,b)])=b :: etS ps:=by simp[etS]
theorem lastJ_map {α : Type}(g:α→ByteArray)(s:ByteArray)(ps:List α):lastJ (fun x=>eqN (g x) s) ps=atJ ps.length (ixN (ps.map g).reverse s):=by
 unfold lastJ
 rw[ixN_find,← List.map_reverse,List.findIdx?_map]
 show (match ps.reverse.findIdx? (fun x=>eqN (g x) s) with|some i=>(ps.length:Int) - 1 - i|none=>-1)=atJ ps.length (ps.reverse.findIdx? (fun x=>eqN (g x) s))
 cases ps.reverse.findIdx? (fun x=>eqN (g x) s)<;>rfl
theorem lastJ_ep (ps:Prs)(s:ByteArray):lastJ (fun x=>eqN x.1 s) ps=atJ ps.length (ixN (epS ps) s):=lastJ_map Prod.fst s ps
theorem lastJ_et (ps:Prs)(s:ByteArray):lastJ (fun x=>eqN x.2 s) ps=atJ ps.length (ixN (etS ps) s):=lastJ_map Prod.snd s ps
theorem ep_lt (ps:Prs)(s:ByteArray):∀ i,ixN (epS ps) s=some i→i<ps.length:=fun i h=>by
 have:=(List.getElem?_eq_some_iff.1 (ixN_get _ _ _ h)).1
 simpa [epS] using this
theorem et_lt (ps:Prs)(s:ByteArray):∀ i,ixN (etS ps) s=some i→i<ps.length:=fun i h=>by
 have:=(List.getElem?_eq_some_iff.1 (ixN_get _ _ _ h)).1
 simpa [etS] using this
end Go.Proofs.YtofllmemmggapaaGreatDoor.Tp

namespace Go.Proofs.YtofllmemmggapaaGreatDoor.Tp
open Go.RowKit Go.MapKept
def FndAt (S:Nat→Prop)(w:World)(b:Nat)(f:Fnd):Prop :=
 ∃ es clock,w.heap[b]? = some (.map es clock)∧(∀ x∈es.toList,∃ s u a c,x.key=.string s∧x.val=tv u a c∧ArgsAt S w (.slice a u.args.length c) u.args∧lkF f s=some u)∧∀ s u,lkF f s=some u→∃ x∈es.toList,x.key=.string s
theorem FndAt.lt {S:Nat→Prop}{w:World}{b:Nat}{f:Fnd}(h:FndAt S w b f):b<w.heap.size:=by
 obtain⟨es,clock,hb,_⟩:=h
 exact (Array.getElem?_eq_some_iff.1 hb).1
theorem FndAt.keep {S:Nat→Prop}{A B:World}{b:Nat}{f:Fnd}(H:FndAt S A b f)(hb:B.heap[b]? = A.heap[b]?)(h:∀ j,S j→B.heap[j]? = A.heap[j]?):FndAt S B b f:=by
 obtain⟨es,clock,h1,h2,h3⟩:=H
 refine⟨es,clock,hb.trans h1,fun x hx=>?_,h3⟩
 obtain⟨s,u,a,c,e1,e2,e3,e4⟩:=h2 x hx
 exact⟨s,u,a,c,e1,e2,e3.keep h,e4⟩
theorem FndAt.made (S:Nat→Prop)(w:World){n:Nat}(hn:w.heap.size=n):FndAt S (w.alloc (.map #[] 0)) n []:=by
 subst hn
 exact⟨#[],0,(heap_alloc w _).1,by simp,by intro s u h;rw[lk_nil] at h;cases h⟩
section
variable {P : Program} {S : Nat → Prop} {w : World} {b : Nat} {f : Fnd} {t k e : TypeId}
theorem FndAt.look_some (h:FndAt S w b f)(ht:P.underlying t=some (.map k e))(hk:P.underlying k=some .string){s:ByteArray}{u:Ty}(hl:lkF f s=some u) :
  ∃ a c,(∀ w':World,w'.heap[b]? = w.heap[b]?→(Instr.lookup t (.map (some b)) (.string s) true).run P w'=.ok (.tuple #[tv u a c,.bool true]) w')∧ArgsAt S w (.slice a u.args.length c) u.args:=by
 obtain⟨es,clock,hb,hv,hn⟩:=h
 have hks:∀ x∈es.toList,IsKey .string x.key:=fun x hx=>by obtain⟨s,_,_,_,hs,_⟩:=hv x hx;rw[hs];simp[IsKey]
 rcases findNow_spec (d:=.string) (k:=.string s) (by simp[IsKey]) es.toList 0 hks with ⟨h1,h2⟩|⟨j,e0,h1,h2,h3⟩
 ·obtain⟨x,hx,hx2⟩:=hn s u hl
  exact absurd hx2 (h2 x hx)
 ·have hm:e0∈es.toList:=List.mem_of_getElem? h2
  obtain⟨s',u',a,c,hk',hval,hA,hf⟩:=hv e0 hm
  rw[h3] at hk'
  injection hk' with hk'
  subst hk'
  rw[hl] at hf
  injection hf with hf
  subst hf
  refine⟨a,c,fun w' hw=>?_,hA⟩
  have hb':=hw.trans hb
  simp[Instr.lookup,run_underlying ht,MapKept.run_getObj_map hb',run_checkKey hk (show IsKey .string (.string s) by simp[IsKey]),run_findKey hk h1,hval,Result.andThen]
theorem FndAt.look_none (h:FndAt S w b f)(ht:P.underlying t=some (.map k e))(hk:P.underlying k=some .string){s:ByteArray}(hl:lkF f s=none){z:Value}(hz:∀ w,(zeroValue e).run P w=.ok z w) :
  ∀ w':World,w'.heap[b]? = w.heap[b]?→(Instr.lookup t (.map (some b)) (.string s) true).run P w'=.ok (.tuple #[z,.bool false]) w':=by
 intro w' hw
 obtain⟨es,clock,hb,hv,hn⟩:=h
 have hb':=hw.trans hb
 have hks:∀ x∈es.toList,IsKey .string x.key:=fun x hx=>by obtain⟨s,_,_,_,hs,_⟩:=hv x hx;rw[hs];simp[IsKey]
 rcases findNow_spec (d:=.string) (k:=.string s) (by simp[IsKey]) es.toList 0 hks with ⟨h1,h2⟩|⟨j,e0,h1,h2,h3⟩
 ·simp[Instr.lookup,run_underlying ht,MapKept.run_getObj_map hb',run_checkKey hk (show IsKey .string (.string s) by simp[IsKey]),run_findKey hk h1,hz,Result.andThen]
 ·have hm:e0∈es.toList:=List.mem_of_getElem? h2
  obtain⟨s',u',a,c,hk',hval,hA,hf⟩:=hv e0 hm
  rw[h3] at hk'
  injection hk' with hk'
  subst hk'
  rw[hl] at hf
  cases hf
theorem FndAt.update (h:FndAt S w b f)(ht:P.underlying t=some (.map k e))(hk:P.underlying k=some .string){s:ByteArray}(hl:lkF f s=none){u:Ty}{a:Option Addr}{c:Nat}(hA:ArgsAt S w (.slice a u.args.length c) u.args)(hb':¬ S b) :
  ∃ w',(Instr.mapUpdate t (.map (some b)) (.string s) (tv u a c)).run P w=.ok () w'∧FndAt S w' b (f++[(s,u)])∧w.grownBy w' (some b):=by
 obtain⟨es,clock,hb,hv,hn⟩:=h
 have hks:∀ x∈es.toList,IsKey .string x.key:=fun x hx=>by obtain⟨s,_,_,_,hs,_⟩:=hv x hx;rw[hs];simp[IsKey]
 have hs:IsKey .string (.string s):=by simp[IsKey]
 have grown:∀ o:Obj,w.grownBy { w with heap:=w.heap.setIfInBounds b o } (some b):=fun o=>⟨rfl,rfl,rfl,by simp,fun i _ hi=>(heap_set hb).2 i (fun e=>hi (by rw[e]))⟩
 rcases findNow_spec (d:=.string) (k:=.string s) hs es.toList 0 hks with ⟨h1,h2⟩|⟨j,e0,h1,h2,h3⟩
 ·have old:∀ j,S j→({ w with heap:=w.heap.setIfInBounds b (.map (es.push { key:=.string s,val:=tv u a c,born:=clock }) (clock+1)) } : World).heap[j]? = w.heap[j]? := fun j hj=>(heap_set hb).2 j (fun e=>hb' (by rw[← e];exact hj))
  refine⟨{ w with heap:=w.heap.setIfInBounds b (.map (es.push { key:=.string s,val:=tv u a c,born:=clock }) (clock+1)) },
   by simp[Instr.mapUpdate,run_underlying ht,MapKept.run_getObj_map hb,run_checkKey hk hs,run_findKey hk h1,run_setObj_map _ hb,Result.andThen],⟨_,_,(heap_set hb).1,?_,?_⟩,grown _⟩
  ·intro x hx
   simp only[Array.toList_push,List.mem_append,List.mem_singleton] at hx
   rcases hx with hx|rfl
   ·obtain⟨s',u',a',c',e1,e2,e3,e4⟩:=hv x hx
    exact⟨s',u',a',c',e1,e2,e3.keep old,lk_snoc_old e4 _⟩
   ·exact⟨s,u,a,c,rfl,rfl,hA.keep old,lk_snoc_new hl u⟩
  ·intro s' u' h'
   simp only[Array.toList_push,List.mem_append,List.mem_singleton]
   by_cases e:s=s'
   ·exact⟨_,.inr rfl,by rw[e]⟩
   ·rw[lk_snoc_other e] at h'
    obtain⟨x,hx,hx2⟩:=hn s' u' h'
    exact⟨x,.inl hx,hx2⟩
 ·have hm:e0∈es.toList:=List.mem_of_getElem? h2
  obtain⟨s',u',a',c',hk',hval,hA',hf⟩:=hv e0 hm
  rw[h3] at hk'
  injection hk' with hk'
  subst hk'
  rw[hl] at hf
  cases hf
end
end Go.Proofs.YtofllmemmggapaaGreatDoor.Tp

namespace Go.Proofs.YtofllmemmggapaaGreatDoor.Tp
open Go.RowKit
set_option maxRecDepth 100000 in
set_option maxHeartbeats 1600000 in
theorem place_any (f:FuncId)(cs:Array Value)(hf:∀ args w,(callFunc f args).run Tryz.prog w=.ok (.enter f args) w)(q:ByteArray × ByteArray→Bool)(ps:List (ByteArray × ByteArray))(S:Nat→Prop)(v:Value)(w:World)
  (hA:PairsAt S w v ps) (hS:∀ b,S b→b<w.heap.size)
  (hat:∀ (i:Nat) (hi:i<ps.length) (W:World),Below w.heap.size w W→Calls Tryz.prog f (#[.agg #[.string ps[i].1,.string ps[i].2]]++cs) W (BoolPost W (q ps[i]))) :
  Calls Tryz.prog 80 #[v,.func (.func f) #[] cs] w (IntPost w (lastJ q ps)):=by
 obtain⟨a,cap,rfl,hl,hc⟩:=hA
 have HS:=hid hS
 have HAT:=hid hat
 have HC:=hid hc
 clear hS hat hc
 go_enter Tryz.func80,Tryz.ntmps80
 go_wp2
 go_loopw [5] (fun iv wr=>∃ k:Nat,iv=.int .i64 ((k:Int) - 1)∧k≤ps.length∧(ps.drop k).any q=false∧Below w.heap.size w wr) (fun iv _=>(intOf iv+1).toNat)
 case atStart=>exact⟨ps.length,rfl,Nat.le_refl _,by simp,Below.refl _ _⟩
 case round =>
  obtain⟨k,rfl,hk,hno,hB⟩:=hrel
  have NO:=hid hno
  have HB:=hid hB
  clear hno
  rcases k with _|k
  ·have hn0:=NO.out
   rw[List.drop_zero] at hn0
   have L:=hid (lastJ_none hn0)
   clear hn0
   go_wp2
   go_ret
   exact⟨ret_int L.out.symm,HB.out⟩
  ·have z0:(0:Int)≤(k:Int):=by omega
   have z1:(k:Int)<(ps.length:Int):=by omega
   have e1:((k+1:Nat):Int) - 1=(k:Int):=by omega
   obtain⟨b,off,rfl,hb,hcc⟩:=HC.out.resolve_left (by intro e;rw[e] at hk;simp at hk)
   have f0:=(World.cell?_of_block (hB.block b (HS.out b hb))).trans (hcc k hk).1
   have f1:=(World.cell?_of_block (hB.block b (HS.out b hb))).trans (hcc k hk).2
   have CF:=hid (HAT.out k hk wr hB)
   have AT:=hid (drop_any_succ q ps k hk)
   rw[e1]
   clear hB hcc
   go_wp2_with fail
   refine CF.out.mono ?_
   rintro e W4 ⟨rfl,hb4⟩
   have B4':=hid (HB.out.trans (hb4.mono HB.out.size))
   clear hb4
   cases hp:q ps[k] with
   | true =>
    have L:=hid (lastJ_at hk hp NO.out)
    clear hp
    go_wp2
    go_ret
    exact⟨ret_int L.out.symm,B4'.out⟩
   | false =>
    have st:Hid ((ps.drop k).any q=false):=hid (by rw[AT.out,NO.out,hp];rfl)
    clear hp
    go_wp2
    go_roundw
    case rel=>exact⟨k,by go_num,by omega,st.out,B4'.out⟩
    case measure=>simp[intOf]
end Go.Proofs.YtofllmemmggapaaGreatDoor.Tp

namespace Go.Proofs.YtofllmemmggapaaGreatDoor.Tp
theorem mL_app (vars:List ByteArray)(ep et:List ByteArray):∀ (p1 p2 t1 t2:List Ty) (f:Fnd),p1.length=t1.length →
  mL vars (p1++p2) (t1++t2) ep et f=if (mL vars p1 t1 ep et f).1 then mL vars p2 t2 ep et (mL vars p1 t1 ep et f).2 else (false,(mL vars p1 t1 ep et f).2)
 | [],p2,[],t2,f,_=>by simp[mL]
 | [],p2,_ :: _,t2,f,h=>by simp at h
 | _ :: _,p2,[],t2,f,h=>by simp at h
 | p :: p1,p2,t :: t1,t2,f,h=>by
  rw[List.cons_append,List.cons_append,mL,mL]
  cases hb:(mT vars p t ep et f).1 with
  | true=>simp only[if_true];exact mL_app vars ep et p1 p2 t1 t2 _ (by simpa using h)
  | false=>simp
theorem take_snoc {l:List Ty}{i:Nat}(h:i<l.length):l.take (i+1)=l.take i++[l[i]]:=by
 rw[List.take_add_one,List.getElem?_eq_getElem h];rfl
theorem split_at {l:List Ty}{i:Nat}(h:i<l.length):l=l.take i++l[i] :: l.drop (i+1):=by
 rw[← List.drop_eq_getElem_cons h,List.take_append_drop]
theorem mL_yes {vars ep et:List ByteArray}{ps ts:List Ty}{f g:Fnd}{i:Nat}(h:mL vars (ps.take i) (ts.take i) ep et f=(true,g))(hi:i<ps.length)(hj:i<ts.length)(hr:(mT vars ps[i] ts[i] ep et g).1=true) :
  mL vars (ps.take (i+1)) (ts.take (i+1)) ep et f=(true,(mT vars ps[i] ts[i] ep et g).2):=by
 rw[take_snoc hi,take_snoc hj,mL_app _ _ _ _ _ _ _ _ (by simp;omega),h]
 simp only[if_true]
 rw[mL,hr]
 simp[mL]
theorem mL_not {vars ep et:List ByteArray}{ps ts:List Ty}{f g:Fnd}{i:Nat}(h:mL vars (ps.take i) (ts.take i) ep et f=(true,g))(hi:i<ps.length)(hj:i<ts.length)(hr:(mT vars ps[i] ts[i] ep et g).1=false) :
  mL vars ps ts ep et f=(false,(mT vars ps[i] ts[i] ep et g).2):=by
 conv=>lhs;rw[split_at hi,split_at hj]
 rw[mL_app _ _ _ _ _ _ _ _ (by simp;omega),h]
 simp only[if_true]
 rw[mL,hr]
 simp
theorem mL_end {vars ep et:List ByteArray}{ps ts:List Ty}{f g:Fnd}(h:mL vars (ps.take ps.length) (ts.take ps.length) ep et f=(true,g))(hl:ps.length=ts.length):mL vars ps ts ep et f=(true,g):=by
 rw[List.take_length,hl,List.take_length] at h;exact h
theorem mT_eq (vars:List ByteArray)(p t:Ty)(ep et:List ByteArray)(f:Fnd):mT vars p t ep et f=if p.kind=1 then varM vars p.name t ep et f
  else if p.kind≠t.kind∨p.args.length≠t.args.length∨p.n≠t.n∨(p.kind=3∧p.name≠t.name) then (false,f)
  else if p.kind=5 then mL vars p.args t.args (p.name :: ep) (t.name :: et) f else mL vars p.args t.args ep et f:=by
 cases p with
 | mk k s n args=>rw[mT];rfl
theorem mT_var (vars:List ByteArray)(p t:Ty)(ep et:List ByteArray)(f:Fnd)(h:p.kind=1):mT vars p t ep et f=varM vars p.name t ep et f:=by
 rw[mT_eq,if_pos h]
theorem mT_no (vars:List ByteArray)(p t:Ty)(ep et:List ByteArray)(f:Fnd)(h1:p.kind≠1)(h:p.kind≠t.kind∨p.args.length≠t.args.length∨p.n≠t.n∨(p.kind=3∧p.name≠t.name)):mT vars p t ep et f=(false,f):=by
 rw[mT_eq,if_neg h1,if_pos h]
theorem mT_all (vars:List ByteArray)(p t:Ty)(ep et:List ByteArray)(f:Fnd)(h1:p.kind=5)(h:¬ (p.kind≠t.kind∨p.args.length≠t.args.length∨p.n≠t.n∨(p.kind=3∧p.name≠t.name))):mT vars p t ep et f=mL vars p.args t.args (p.name :: ep) (t.name :: et) f:=by
 rw[mT_eq,if_neg (by omega),if_neg h,if_pos h1]
theorem mT_other (vars:List ByteArray)(p t:Ty)(ep et:List ByteArray)(f:Fnd)(h1:p.kind≠1)(h5:p.kind≠5)(h:¬ (p.kind≠t.kind∨p.args.length≠t.args.length∨p.n≠t.n∨(p.kind=3∧p.name≠t.name))):mT vars p t ep et f=mL vars p.args t.args ep et f:=by
 rw[mT_eq,if_neg h1,if_neg h,if_neg h5]
end Go.Proofs.YtofllmemmggapaaGreatDoor.Tp

namespace Go.Proofs.YtofllmemmggapaaGreatDoor.Tp
open Go.RowKit
theorem anyS_take (l:List ByteArray)(p:ByteArray→Bool)(k:Nat)(h:k<l.length):(l.take (k+1)).any p=((l.take k).any p || p l[k]):=by
 rw[List.take_add_one,List.getElem?_eq_getElem h,List.any_append];simp only[Option.toList_some,List.any_cons,List.any_nil,Bool.or_false]
set_option maxHeartbeats 1600000 in
theorem indexS_any (f:FuncId)(cs:Array Value)(hf:∀ args w,(callFunc f args).run Tryz.prog w=.ok (.enter f args) w)(p:ByteArray→Bool)(l:List ByteArray)(S:Nat→Prop)(v:Value)(w:World)(hA:StrsAt S w v l)(hS:∀ b,S b→b<w.heap.size)
  (hat:∀ (i:Nat) (hi:i<l.length) (W:World),Below w.heap.size w W→Calls Tryz.prog f (#[.string l[i]]++cs) W (BoolPost W (p l[i]))) :
  Calls Tryz.prog 123 #[v,.func (.func f) #[] cs] w (IdxPost w (l.any p)):=by
 obtain⟨a,c,rfl,hlc,hl,hn,hc⟩:=hA
 have HC:=hid hc
 have HS:=hid hS
 have HAT:=hid hat
 clear hc hS hat hlc hn
 go_enter Tryz.func123,Tryz.ntmps123
 go_wp2
 go_loopw [8] (fun iv wr=>∃ i:Nat,iv=.int .i64 i∧i≤l.length∧(l.take i).any p=false∧Below w.heap.size w wr) (fun iv _=>l.length - (intOf iv).toNat)
 case atStart=>exact⟨0,rfl,Nat.zero_le _,rfl,Below.refl _ _⟩
 case round =>
  obtain⟨i,rfl,hil,hno,hB⟩:=hrel
  have NO:=hid hno
  have HB:=hid hB
  clear hno
  by_cases hi:i<l.length
  ·have z0:(0:Int)≤(i:Int):=by omega
   have z1:(i:Int)<(l.length:Int):=by omega
   obtain⟨b,off,rfl,hb,hcc⟩:=HC.out.resolve_left (by intro e;rw[e] at hi;simp at hi)
   have f0:=(World.cell?_of_block (hB.block b (HS.out b hb))).trans (hcc i hi)
   have CF:=hid (HAT.out i hi wr hB)
   have AT:=hid (anyS_take l p i hi)
   clear hB hcc
   go_wp2_with fail
   refine CF.out.mono ?_
   rintro e W4 ⟨rfl,hb4⟩
   have B4':=hid (HB.out.trans (hb4.mono HB.out.size))
   clear hb4
   cases hp:p l[i] with
   | true =>
    have hany:Hid (l.any p=true):=hid (List.any_eq_true.2 ⟨_,List.getElem_mem hi,hp⟩)
    clear hp
    go_wp2
    go_ret
    exact⟨i,rfl,by rw[hany.out];exact decide_eq_true z0,B4'.out⟩
   | false =>
    have st:Hid ((l.take (i+1)).any p=false):=hid (by rw[AT.out,NO.out,hp];rfl)
    clear hp
    go_wp2
    go_roundw
    case rel=>exact⟨i+1,by go_num,by omega,st.out,B4'.out⟩
    case measure=>simp[intOf];omega
  ·obtain rfl:i=l.length:=by omega
   clear hB
   go_wp2
   go_ret
   refine⟨-1,rfl,?_,HB.out⟩
   have:=NO.out
   rw[List.take_length] at this
   rw[this];rfl
set_option maxHeartbeats 1600000 in
theorem containsFS_any (f:FuncId)(cs:Array Value)(hf:∀ args w,(callFunc f args).run Tryz.prog w=.ok (.enter f args) w)(p:ByteArray→Bool)(l:List ByteArray)(S:Nat→Prop)(v:Value)(w:World)(hA:StrsAt S w v l)(hS:∀ b,S b→b<w.heap.size)
  (hat:∀ (i:Nat) (hi:i<l.length) (W:World),Below w.heap.size w W→Calls Tryz.prog f (#[.string l[i]]++cs) W (BoolPost W (p l[i]))) :
  Calls Tryz.prog 108 #[v,.func (.func f) #[] cs] w (BoolPost w (l.any p)):=by
 have CI:=hid (indexS_any f cs hf p l S v w hA hS hat)
 clear hA hS hat hf
 go_enter Tryz.func108,Tryz.ntmps108
 go_wp2_with fail
 refine CI.out.mono ?_
 rintro e w4 ⟨k,rfl,hk,hb4⟩
 have B4':=hid hb4
 have HK:=hid hk
 clear hb4 hk
 go_wp2
 go_ret
 exact⟨ret_bool HK.out,B4'.out⟩
theorem pair_new (w:World)(a b:ByteArray):(w.alloc (.cells #[.string a,.string b] 101)).cell? ⟨w.heap.size,0,none⟩=some (.string a)∧(w.alloc (.cells #[.string a,.string b] 101)).cell? ⟨w.heap.size,1,none⟩=some (.string b):=by
 have h:(w.alloc (.cells #[.string a,.string b] 101)).heap[w.heap.size]? = some (.cells #[.string a,.string b] 101 (0,0)):=heap_alloc_new w _
 exact⟨cell_of_row _ _ 0 _ _ _ h,cell_of_row _ _ 1 _ _ _ h⟩
theorem beqV (a b:ByteArray):∃ r,(a.toList==b.toList)=r∧r=eqN a b:=⟨_,rfl,by
 by_cases h:a=b
 ·rw[beqN_true h,((eqN_iff a b).2 h)]
 ·rw[beqN_false h,((eqN_false a b).2 h)]⟩
theorem own11Enters (args:Array Value)(w:World):(callFunc 110 args).run Tryz.prog w=.ok (.enter 110 args) w :=
 enters_of Tryz.func110 (by kernel_rfl) rfl args w
theorem own1Enters (args:Array Value)(w:World):(callFunc 109 args).run Tryz.prog w=.ok (.enter 109 args) w :=
 enters_of Tryz.func109 (by kernel_rfl) rfl args w
theorem var1Enters (args:Array Value)(w:World):(callFunc 81 args).run Tryz.prog w=.ok (.enter 81 args) w :=
 enters_of Tryz.func81 (by kernel_rfl) rfl args w
theorem var2Enters (args:Array Value)(w:World):(callFunc 83 args).run Tryz.prog w=.ok (.enter 83 args) w :=
 enters_of Tryz.func83 (by kernel_rfl) rfl args w
theorem own11_any (a b n:ByteArray)(nb:Nat)(w:World)(hn:w.cell? ⟨nb,0,none⟩=some (.string n))(hlt:nb<w.heap.size) :
  Calls Tryz.prog 110 (#[.agg #[.string a,.string b]]++#[.pointer (some ⟨nb,0,none⟩)]) w (BoolPost w (eqN b n)):=by
 have hz:=(Below.refl w.heap.size w).alloc (Nat.le_refl _) (.cells #[.string a,.string b] 101)
 obtain⟨c0,c1⟩:=pair_new w a b
 have e0:=(hz.cell (p:=⟨nb,0,none⟩) hlt).trans hn
 obtain⟨r,hr,hre⟩:=beqV b n
 have RE:=hid hre
 have HZ:=hid hz
 clear hz hn hre hlt
 go_enter Tryz.func110,Tryz.ntmps110
 go_wp2
 go_ret
 exact⟨ret_bool RE.out,HZ.out⟩
theorem var1_any (a b:ByteArray)(pb:Nat)(k n:Int)(nm:ByteArray)(sv:Value)(w:World)(h4:B4 w pb (.int .i64 k) (.string nm) (.int .i64 n) sv) :
  Calls Tryz.prog 81 (#[.agg #[.string a,.string b]]++#[.pointer (some ⟨pb,0,none⟩)]) w (BoolPost w (eqN a nm)):=by
 have hz:=(Below.refl w.heap.size w).alloc (Nat.le_refl _) (.cells #[.string a,.string b] 101)
 obtain⟨c0,c1⟩:=pair_new w a b
 have e1:=(h4.low hz).c1
 obtain⟨r,hr,hre⟩:=beqV a nm
 have RE:=hid hre
 have HZ:=hid hz
 clear hz h4 hre
 go_enter Tryz.func81,Tryz.ntmps81
 go_wp2
 go_ret
 exact⟨ret_bool RE.out,HZ.out⟩
theorem var2_any (a b:ByteArray)(pb:Nat)(k n:Int)(nm:ByteArray)(sv:Value)(w:World)(h4:B4 w pb (.int .i64 k) (.string nm) (.int .i64 n) sv) :
  Calls Tryz.prog 83 (#[.agg #[.string a,.string b]]++#[.pointer (some ⟨pb,0,none⟩)]) w (BoolPost w (eqN b nm)):=by
 have hz:=(Below.refl w.heap.size w).alloc (Nat.le_refl _) (.cells #[.string a,.string b] 101)
 obtain⟨c0,c1⟩:=pair_new w a b
 have e1:=(h4.low hz).c1
 obtain⟨r,hr,hre⟩:=beqV b nm
 have RE:=hid hre
 have HZ:=hid hz
 clear hz h4 hre
 go_enter Tryz.func83,Tryz.ntmps83
 go_wp2
 go_ret
 exact⟨ret_bool RE.out,HZ.out⟩
set_option maxHeartbeats 1600000 in
theorem own1_any (n:ByteArray)(ps:Prs)(S:Nat→Prop)(v:Value)(bb:Nat)(w:World)(hb:w.cell? ⟨bb,0,none⟩=some v)(hbl:bb<w.heap.size)(hA:PairsAt S w v ps)(hS:∀ b,S b→b<w.heap.size) :
  Calls Tryz.prog 109 (#[.string n]++#[.pointer (some ⟨bb,0,none⟩)]) w (BoolPost w (ixN (etS ps) n).isSome):=by
 have hz:=(Below.refl w.heap.size w).alloc (Nat.le_refl _) (.cells #[.string n] 9)
 have e0:=(hz.cell (p:=⟨bb,0,none⟩) hbl).trans hb
 have hn:(w.alloc (.cells #[.string n] 9)).cell? ⟨w.heap.size,0,none⟩=some (.string n):=cell_of_row _ _ 0 _ _ _ (heap_alloc_new w _)
 have CP:=hid (place_any 110 #[.pointer (some ⟨w.heap.size,0,none⟩)] own11Enters (fun x=>eqN x.2 n) ps S v (w.alloc (.cells #[.string n] 9)) (hA.keep fun b h=>hz.block b (hS b h)) (fun b h=>Nat.lt_of_lt_of_le (hS b h) hz.size)
  fun i hi W hW=>own11_any ps[i].1 ps[i].2 n w.heap.size W ((hW.cell (p:=⟨w.heap.size,0,none⟩) (by simp)).trans hn) (Nat.lt_of_lt_of_le (by simp) hW.size))
 have HL:=hid (show decide (0≤lastJ (fun x:ByteArray × ByteArray=>eqN x.2 n) ps)=(ixN (etS ps) n).isSome by rw[lastJ_et];exact atJ_ge (et_lt ps n))
 have HZ:=hid hz
 clear hz hb hbl hA hS hn
 generalize lastJ (fun x:ByteArray × ByteArray=>eqN x.2 n) ps=jj at *
 go_enter Tryz.func109,Tryz.ntmps109
 go_wp2_with fail
 refine CP.out.mono ?_
 rintro e w2 ⟨rfl,hb2⟩
 have H2:=hid (HZ.out.trans (hb2.mono HZ.out.size))
 clear hb2
 go_wp2
 go_ret
 exact⟨ret_bool HL.out,H2.out⟩
set_option maxHeartbeats 1600000 in
theorem own_any (t:Ty)(ps:Prs)(S R:Nat→Prop)(a:Option Addr)(c:Nat)(v:Value)(w:World)(hT:ArgsAt S w (.slice a t.args.length c) t.args)(hP:PairsAt R w v ps)(hS:∀ b,S b→b<w.heap.size)(hR:∀ b,R b→b<w.heap.size)(hz:t.size≤1099511627776) :
  Calls Tryz.prog 82 #[tv t a c,v] w (BoolPost w (ownB t (etS ps))):=by
 obtain⟨va,vcap,hv0,_⟩:=id hP
 subst hv0
 have hz1:=(Below.refl w.heap.size w).alloc (Nat.le_refl _) (.cells #[.int .i64 t.kind,.string t.name,.int .i64 t.n,.slice a t.args.length c] 26)
 have hz2:=hz1.alloc hz1.size (.cells #[.slice va ps.length vcap] 98)
 have k4:=(B4.new w (.int .i64 t.kind) (.string t.name) (.int .i64 t.n) (.slice a t.args.length c)).low ((Below.refl _ _).alloc (Nat.le_refl _) (.cells #[.slice va ps.length vcap] 98))
 have hv:((w.alloc (.cells #[.int .i64 t.kind,.string t.name,.int .i64 t.n,.slice a t.args.length c] 26)).alloc (.cells #[.slice va ps.length vcap] 98)).cell? ⟨w.heap.size+1,0,none⟩=some (.slice va ps.length vcap):=by
  exact cell_of_row _ _ 0 _ _ _ (alloc_new (by simp))
 have hsz:((w.alloc (.cells #[.int .i64 t.kind,.string t.name,.int .i64 t.n,.slice a t.args.length c] 26)).alloc (.cells #[.slice va ps.length vcap] 98)).heap.size=w.heap.size+1+1:=by simp
 have hT2:=hT.keep fun b hb=>hz2.block b (hS b hb)
 have hP2:=hP.keep fun b hb=>hz2.block b (hR b hb)
 have hS2:∀ b,S b→b<((w.alloc (.cells #[.int .i64 t.kind,.string t.name,.int .i64 t.n,.slice a t.args.length c] 26)).alloc (.cells #[.slice va ps.length vcap] 98)).heap.size:=fun b hb=>Nat.lt_of_lt_of_le (hS b hb) hz2.size
 have hR2:∀ b,R b→b<((w.alloc (.cells #[.int .i64 t.kind,.string t.name,.int .i64 t.n,.slice a t.args.length c] 26)).alloc (.cells #[.slice va ps.length vcap] 98)).heap.size:=fun b hb=>Nat.lt_of_lt_of_le (hR b hb) hz2.size
 generalize hW:(w.alloc (.cells #[.int .i64 t.kind,.string t.name,.int .i64 t.n,.slice a t.args.length c] 26)).alloc (.cells #[.slice va ps.length vcap] 98)=W0 at *
 have CPoly:=hid (poly_any t S a c W0 hT2 hS2 hz)
 have CF:=hid (fun (W:World) (hB:Below W0.heap.size W0 W)=>free_any t S a c W (hT2.keep fun b hb=>hB.block b (hS2 b hb)) (fun b hb=>Nat.lt_of_lt_of_le (hS2 b hb) hB.size) hz)
 have CC:=hid (fun (W:World) (hB:Below W0.heap.size W0 W) (u:Value) (hO:StrsAt (fun b=>u.ownBlock=some b) W u (freeT t)) (hu:∀ b,u.ownBlock=some b→b<W.heap.size) =>
  containsFS_any 109 #[.pointer (some ⟨w.heap.size+1,0,none⟩)] own1Enters (fun n=>(ixN (etS ps) n).isSome) (freeT t) (fun b=>u.ownBlock=some b) u W hO hu
   fun i hi W' hW'=>own1_any (freeT t)[i] ps R (.slice va ps.length vcap) (w.heap.size+1) W' ((hW'.cell (p:=⟨w.heap.size+1,0,none⟩) (Nat.lt_of_lt_of_le (show w.heap.size+1<W0.heap.size by omega) hB.size)).trans ((hB.cell (p:=⟨w.heap.size+1,0,none⟩) (show w.heap.size+1<W0.heap.size by omega)).trans hv))
    (Nat.lt_of_lt_of_le (Nat.lt_of_lt_of_le (show w.heap.size+1<W0.heap.size by omega) hB.size) hW'.size) ((hP2.keep fun b hb=>hB.block b (hR2 b hb)).keep fun b hb=>hW'.block b (Nat.lt_of_lt_of_le (hR2 b hb) hB.size)) (fun b hb=>Nat.lt_of_lt_of_le (Nat.lt_of_lt_of_le (hR2 b hb) hB.size) hW'.size))
 have HZ:=hid hz2
 have HZS:=hid hz
 have K4:=hid k4
 have c0:=k4.c0
 have c1:=k4.c1
 have c2:=k4.c2
 have c3:=k4.c3
 unfold tv at *
 cases hp:polyT t with
 | true =>
  have OE:Hid (ownB t (etS ps)=false):=hid (by unfold ownB;rw[hp];rfl)
  rw[hp] at CPoly
  clear hz1 hz2 k4 hv hsz hT2 hP2 hS2 hR2 hT hP hS hR hz CF CC hp
  subst hW
  go_enter Tryz.func82,Tryz.ntmps82
  go_wp2_with fail
  refine CPoly.out.mono ?_
  rintro e w2 ⟨rfl,hb2⟩
  have H2:=hid (HZ.out.trans (hb2.mono HZ.out.size))
  clear hb2
  go_wp2
  go_ret
  exact⟨ret_bool OE.out.symm,H2.out⟩
 | false =>
  have OE:Hid (ownB t (etS ps) = !((freeT t).any fun n=>(ixN (etS ps) n).isSome)):=hid (by unfold ownB;rw[hp];rfl)
  rw[hp] at CPoly
  clear hz1 hz2 k4 hv hsz hT2 hP2 hS2 hR2 hT hP hS hR hz hp
  subst hW
  go_enter Tryz.func82,Tryz.ntmps82
  go_wp2_with fail
  refine CPoly.out.mono ?_
  rintro e w2 ⟨rfl,hb2⟩
  have k4:=K4.out.low hb2
  have c0:=k4.c0
  have c1:=k4.c1
  have c2:=k4.c2
  have c3:=k4.c3
  have C2:=hid (CF.out w2 hb2)
  have HB2:=hid hb2
  clear k4 hb2
  go_wp2_with fail
  refine C2.out.mono ?_
  rintro e w3 ⟨u,rfl,hu,hul,hb3⟩
  have hb3':=HB2.out.trans (hb3.mono HB2.out.size)
  have C3:=hid (CC.out w3 hb3' u (StrsAt.of_own hu (Nat.le_trans hul HZS.out)) (fun b e=>(hu.lt b e).2))
  have HB3:=hid hb3'
  clear hu hul hb3 hb3'
  go_wp2_with fail
  refine C3.out.mono ?_
  rintro e w4 ⟨rfl,hb4⟩
  have H4:=hid (HZ.out.trans ((HB3.out.trans (hb4.mono HB3.out.size)).mono HZ.out.size))
  clear hb4
  go_wp2
  go_ret
  exact⟨ret_bool OE.out.symm,H4.out⟩
end Go.Proofs.YtofllmemmggapaaGreatDoor.Tp

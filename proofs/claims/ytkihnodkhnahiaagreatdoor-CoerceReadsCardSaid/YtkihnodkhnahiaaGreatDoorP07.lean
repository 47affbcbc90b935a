/- Packed. -/
import Derived.MapKept
import Derived.Below
import Derived.ChangeMaps4
import Derived.Laws.OwnMore
import Derived.Shelf.SlMaps.Clone
import Derived.Test.YtkihnodkhnahiaaGreatDoorP06
set_option maxRecDepth 100000
set_option maxHeartbeats 6400000
namespace Go.Proofs.YtkihnodkhnahiaaGreatDoor.Tp
section
open Go.RowKit Go.MapKept
def c3_ (w:World)(b:Nat)(ns:ByteArray→Prop):Prop :=
 ∃ es clock,w.heap[b]? = some (.map es clock)∧(∀ x∈es.toList,∃ s,x.key=.string s∧x.val=.bool true)∧∀ s,ns s↔∃ x∈es.toList,x.key=.string s
theorem c3_.lt {w:World}{b:Nat}{ns:ByteArray→Prop}(h:c3_ w b ns):b<w.heap.size:=by
 obtain⟨es,clock,hb,_⟩:=h;exact (Array.getElem?_eq_some_iff.1 hb).1
theorem c3_.keep {w w':World}{b:Nat}{ns:ByteArray→Prop}(h:c3_ w b ns)(hb:w'.heap[b]? = w.heap[b]?):c3_ w' b ns:=by
 obtain⟨es,clock,h1,h2⟩:=h;exact⟨es,clock,hb.trans h1,h2⟩
theorem c3_.congr {w:World}{b:Nat}{ns ns':ByteArray→Prop}(h:c3_ w b ns)(e:∀ s,ns s↔ns' s):c3_ w b ns':=by
 obtain⟨es,clock,h1,h2,h3⟩:=h;exact⟨es,clock,h1,h2,fun s=>(e s).symm.trans (h3 s)⟩
theorem c3_.made (w:World):c3_ (w.alloc (.map #[] 0)) w.heap.size (fun _=>False) :=
 ⟨#[],0,(heap_alloc w _).1,by simp,by simp⟩
theorem c3_.made_at {w:World}{n:Nat}(h:w.heap.size=n):c3_ (w.alloc (.map #[] 0)) n (fun _=>False):=h ▸ c3_.made w
theorem c3_.lookup {P:Program}{w:World}{b:Nat}{ns:ByteArray→Prop}(h:c3_ w b ns){t k e:TypeId}(ht:P.underlying t=some (.map k e))(hk:P.underlying k=some .string)
  (hz:(zeroValue e).run P w=.ok (.bool false) w) (s:ByteArray) {c:Bool} (hc:c=true↔ns s):(Instr.lookup t (.map (some b)) (.string s) false).run P w=.ok (.bool c) w:=by
 obtain⟨es,clock,hb,hv,hn⟩:=h;have hks:∀ x∈es.toList,IsKey .string x.key:=fun x hx=>by obtain⟨s,hs,_⟩:=hv x hx;rw[hs];simp[IsKey]
 rcases findNow_spec (d:=.string) (k:=.string s) (by simp[IsKey]) es.toList 0 hks with ⟨h1,h2⟩|⟨j,e0,h1,h2,h3⟩
 ·have:c=false:=by
   cases c with
   | false=>rfl
   | true =>
    obtain⟨x,hx,hx2⟩:=(hn s).1 (hc.1 rfl);exact absurd hx2 (h2 x hx)
  subst this;simp[Instr.lookup,run_underlying ht,MapKept.run_getObj_map hb,run_checkKey hk (show IsKey .string (.string s) by simp[IsKey]),run_findKey hk h1,hz,Result.andThen]
 ·have hm:e0∈es.toList:=List.mem_of_getElem? h2
  obtain⟨s',_,hval⟩:=hv e0 hm;have:c=true:=hc.2 ((hn s).2 ⟨e0,hm,h3⟩);subst this;simp[Instr.lookup,run_underlying ht,MapKept.run_getObj_map hb,run_checkKey hk (show IsKey .string (.string s) by simp[IsKey]),run_findKey hk h1,hval,Result.andThen]
theorem c3_.update {P:Program}{w:World}{b:Nat}{ns:ByteArray→Prop}(h:c3_ w b ns){t k e:TypeId}(ht:P.underlying t=some (.map k e))(hk:P.underlying k=some .string)(s:ByteArray) :
  ∃ w',(Instr.mapUpdate t (.map (some b)) (.string s) (.bool true)).run P w=.ok () w'∧c3_ w' b (fun x=>x=s∨ns x)∧w.grownBy w' (some b):=by
 obtain⟨es,clock,hb,hv,hn⟩:=h;have hks:∀ x∈es.toList,IsKey .string x.key:=fun x hx=>by obtain⟨s,hs,_⟩:=hv x hx;rw[hs];simp[IsKey]
 have hs:IsKey .string (.string s):=by simp[IsKey]
 have grown:∀ o:Obj,w.grownBy { w with heap:=w.heap.setIfInBounds b o } (some b):=fun o=>⟨rfl,rfl,rfl,by simp,fun i _ hi=>(heap_set hb).2 i (fun e=>hi (by rw[e]))⟩
 rcases findNow_spec (d:=.string) (k:=.string s) hs es.toList 0 hks with ⟨h1,h2⟩|⟨j,e0,h1,h2,h3⟩
 ·refine⟨{ w with heap:=w.heap.setIfInBounds b (.map (es.push { key:=.string s,val:=.bool true,born:=clock }) (clock+1)) },
   by simp[Instr.mapUpdate,run_underlying ht,MapKept.run_getObj_map hb,run_checkKey hk hs,run_findKey hk h1,run_setObj_map _ hb,Result.andThen],⟨_,_,(heap_set hb).1,?_,?_⟩,grown _⟩
  ·intro x hx
   simp only[Array.toList_push,List.mem_append,List.mem_singleton] at hx
   rcases hx with hx|rfl
   ·exact hv x hx
   ·exact⟨s,rfl,rfl⟩
  ·intro s'
   simp only[Array.toList_push,List.mem_append,List.mem_singleton,hn s']
   constructor
   ·rintro (rfl|⟨x,hx,hx2⟩)
    ·exact⟨_,.inr rfl,rfl⟩
    ·exact⟨x,.inl hx,hx2⟩
   ·rintro ⟨x,hx|rfl,hx2⟩
    ·exact .inr ⟨x,hx,hx2⟩
    ·simp only[Value.string.injEq] at hx2;exact .inl hx2.symm
 ·have hj:es[j]? = some e0:=by simpa using h2
  have hm:e0∈es.toList:=List.mem_of_getElem? h2;have hval:e0.val=.bool true:=by obtain⟨_,_,h⟩:=hv e0 hm;exact h
  have hsame:es.modify j (fun e=>{ e with key:=.string s,val:=.bool true })=es:=by
   apply Array.ext_getElem?;intro i;rw[Array.getElem?_modify]
   split
   ·next hij =>
    subst hij;rw[hj,← h3,← hval];rfl
   ·rfl
  refine⟨{ w with heap:=w.heap.setIfInBounds b (.map (es.modify j (fun e=>{ e with key:=.string s,val:=.bool true })) clock) },
   by simp[Instr.mapUpdate,run_underlying ht,MapKept.run_getObj_map hb,run_checkKey hk hs,run_findKey hk h1,hj,h3,run_keyThatStays hs,run_setObj_map _ hb,Result.andThen],⟨_,_,(heap_set hb).1,?_,?_⟩,grown _⟩
  ·rw[hsame];exact hv
  ·rw[hsame]
   intro s';show (s'=s∨ns s')↔_;rw[hn s'];exact⟨fun h=>h.elim (fun e=>by subst e;exact⟨e0,hm,h3⟩) id,.inr⟩
end
section
open Go.RowKit
structure Kp (n:Nat)(T:Nat→Prop)(a w:World):Prop where
 os:w.os=a.os
 tape:w.tape=a.tape
 output:w.output=a.output
 size:a.heap.size≤w.heap.size
 block:∀ k,k<n→¬ T k→w.heap[k]? = a.heap[k]?
section
variable {n m : Nat} {T T' : Nat → Prop} {a w w' : World}
theorem Kp.refl (n:Nat)(T:Nat→Prop)(a:World):Kp n T a a:=⟨rfl,rfl,rfl,aw_ _,fun _ _ _=>rfl⟩
theorem Kp.of_below (h:Below n a w):Kp n T a w:=⟨h.os,h.tape,h.output,h.size,fun k hk _=>h.block k hk⟩
theorem Kp.trans (h:Kp n T a w)(h':Kp m T' w w')(hn:n≤m)(hT:∀ b,b<n→T' b→T b):Kp n T a w' :=
 ⟨h'.os.trans h.os,h'.tape.trans h.tape,h'.output.trans h.output,bm_ h.size h'.size,fun k hk ht=>(h'.block k (by omega) (fun e=>ht (hT k hk e))).trans (h.block k hk ht)⟩
theorem Kp.mono (h:Kp m T a w)(hn:n≤m)(hT:∀ b,b<n→T b→T' b):Kp n T' a w:=⟨h.os,h.tape,h.output,h.size,fun k hk ht=>h.block k (by omega) (fun e=>ht (hT k hk e))⟩
theorem Kp.below (h:Kp n T a w)(h':Below m w w')(hn:n≤m):Kp n T a w':=h.trans (T':=fun _=>False) (.of_below h') hn (fun _ _ e=>e.elim)
theorem Kp.alloc (h:Kp n T a w)(hn:n≤w.heap.size)(o:Obj):Kp n T a (w.alloc o):=h.below (ao_ _ o) hn
theorem Kp.drew (h:Kp n T a w):Kp n T a w.drew:=⟨h.os,h.tape,h.output,h.size,h.block⟩
theorem Kp.setCell (h:Kp n T a w){p:Addr}(hp:n≤p.block∨T p.block)(u:Value):Kp n T a (w.setCell p u) :=
 ⟨h.os,h.tape,h.output,by simpa using h.size,fun k hk ht=>(aM_ _ _ _ _ (fun e=>hp.elim (by omega) (fun e2=>ht (by rw[e];exact e2)))).trans (h.block k hk ht)⟩
theorem Kp.grown {r:Option Nat}(h:Kp n T a w)(hg:w.grownBy w' r)(hn:n≤w.heap.size)(hr:∀ k,r=some k→n≤k∨T k):Kp n T a w' :=
 ⟨hg.os.trans h.os,hg.tape.trans h.tape,hg.output.trans h.output,bm_ h.size hg.size,fun k hk ht=>(hg.block k (by omega) (fun e=>(hr k e.symm).elim (by omega) ht)).trans (h.block k hk ht)⟩
theorem Kp.to_below (h:Kp n (fun _=>False) a w):Below n a w:=⟨h.os,h.tape,h.output,h.size,fun k hk=>h.block k hk id⟩
end
theorem ac_.kp {S T:Nat→Prop}{n:Nat}{w w':World}{v:Value}{ts:List Ty}(h:ac_ S w v ts)(k:Kp n T w w')(hS:∀ b,S b→b<n∧¬ T b):ac_ S w' v ts:=h.keep fun b hb=>k.block b (hS b hb).1 (hS b hb).2
def bd_ (S:Nat→Prop)(w:World)(v:Value)(l:List ByteArray):Prop :=
 ∃ a c,v=.slice a l.length c∧l.length≤c∧l.length≤4500000000000∧(a=none→c=0)∧(l=[]∨∃ b off,a=some ⟨b,off,none⟩∧S b∧∀ j (h:j<l.length),w.cell? ⟨b,off+j,none⟩=some (.string l[j]))
theorem bd_.keep {S:Nat→Prop}{A B:World}(h:∀ b,S b→B.heap[b]? = A.heap[b]?){v:Value}{l:List ByteArray}(hs:bd_ S A v l):bd_ S B v l:=by
 obtain⟨a,c,e,h1,h2,hn,h3⟩:=hs;refine⟨a,c,e,h1,h2,hn,h3.imp id ?_⟩;rintro ⟨b,off,e,hb,hc⟩;exact⟨b,off,e,hb,fun j hj=>(World.cell?_of_block (h b hb)).trans (hc j hj)⟩
theorem bd_.mono {S S':Nat→Prop}(h:∀ b,S b→S' b){A:World}{v:Value}{l:List ByteArray}(hs:bd_ S A v l):bd_ S' A v l:=by
 obtain⟨a,c,e,h1,h2,hn,h3⟩:=hs;exact⟨a,c,e,h1,h2,hn,h3.imp id fun ⟨b,off,e,hb,hc⟩=>⟨b,off,e,h b hb,hc⟩⟩
theorem bd_.kp {S T:Nat→Prop}{n:Nat}{w w':World}{v:Value}{l:List ByteArray}(h:bd_ S w v l)(k:Kp n T w w')(hS:∀ b,S b→b<n∧¬ T b):bd_ S w' v l:=h.keep fun b hb=>k.block b (hS b hb).1 (hS b hb).2
theorem bd_.nil (S:Nat→Prop)(w:World):bd_ S w (.slice none 0 0) []:=⟨none,0,rfl,Nat.zero_le _,by simp,fun _=>rfl,.inl rfl⟩
theorem bd_.of_own {w:World}{lo:Nat}{v:Value}{l:List ByteArray}(h:w.ownsRow lo 9 1 v l.length (l.map Value.string))(hl:l.length≤4500000000000):bd_ (fun b=>v.ownBlock=some b) w v l:=by
 rcases h.2 with ⟨rfl,h0⟩|⟨g,cap,cur,rfl,hb,hg,h1,h2,h3,h4⟩
 ·have:l=[]:=List.eq_nil_of_length_eq_zero h0
  subst this;exact .nil _ _
 ·refine⟨_,cap,rfl,h1,hl,by simp,.inr ⟨g,0,rfl,rfl,fun j hj=>?_⟩⟩
  have hc:=h.cells (g:=g) rfl j (.string l[j]) (by rw[List.getElem?_map,List.getElem?_eq_getElem hj];rfl);have hadd:∀ j,(⟨g,0,none⟩:Addr).add j=⟨g,j,none⟩:=fun j=>by unfold Addr.add;split<;>simp_all
  rw[hadd] at hc;rw[Nat.zero_add];exact hc
theorem jB_ (l:List ByteArray)(x:ByteArray):Lib.containsS l x=true↔x∈l:=Lib.containsS_iff l x
theorem da_ {S:Nat→Prop}{w:World}{v:Value}{l:List ByteArray}(h:bd_ S w v l)(x:ByteArray) :
  Calls Tryz.prog 34 #[v,.string x] w fun e w'=>e=.returned (.bool (Lib.containsS l x))∧w=w':=by
 obtain⟨a,c,rfl,hc,hl,_,h3⟩:=h
 by_cases h0:l=[]
 ·subst h0
  exact (Tryz.slices_Contains_string_empty a c x w).mono fun e w' ⟨he,hw⟩=>⟨he,hw.symm⟩
 ·rcases h3 with h3|⟨b,off,rfl,hb,hcells⟩
  ·exact absurd h3 h0
  ·have:=Tryz.slices_Contains_string b off l.length c l x w (aw_ _) (by omega) (fun j hj=>by rw[hcells j hj,List.getD_eq_getElem?_getD,List.getElem?_eq_getElem hj];rfl)
   rw[List.take_length] at this;exact this.mono fun e w' ⟨he,hw⟩=>⟨he,hw.symm⟩
def jP_ (w:World)(ns:ByteArray→Prop)(e:Ending)(w':World):Prop :=
 e=.returned (.map (some w.heap.size))∧Below w.heap.size w w'∧c3_ w' w.heap.size ns∧w'.heap.size=w.heap.size+1
theorem oe_ (b:Nat)(ns:ByteArray→Prop)(w:World)(h:c3_ w b ns):Calls Tryz.prog 98 #[.map (some b)] w (jP_ w ns):=by
 obtain⟨es,clock,hb,h1,h2⟩:=h;have hp:jP_ w ns (.returned (.map (some w.heap.size))) (w.alloc (.map es clock)) :=
  ⟨rfl,ao_ _ _,⟨es,clock,(MapKept.heap_alloc w _).1,h1,h2⟩,by simp⟩
 have HP:=hid hp;have hq:=fun w=>run_eql_map_nil_sl (P:=Tryz.prog) w 124 _ _ (some b) Tryz.underlying124;have hc:=hid (run_maps_clone_sl (P:=Tryz.prog) w 124 hb);have HB:=hid hb;clear h1 h2 hp hb;go_enter Tryz.func98,Tryz.ntmps98;go_wp2_with fail;rw[run_callFunc_extern Tryz.func112 (by kernel_rfl) (by kernel_rfl) (by kernel_rfl) (e:=Extern.MapsClone.clone) (by kernel_rfl),hc.out];simp only[Result.andThen];rw[Oper.upon_value];go_wp2_with fail;rw[run_typeAssert_map_sl _ 124 20 _ _ _ Tryz.underlying124];simp only[Result.andThen];rw[Oper.upon_value];go_wp2_with fail;go_ret;exact HP.out
end
section
mutual
def Ty.size:Ty→Nat
 | .mk _ _ _ args=>ax_ args+1
def ax_:List Ty→Nat
 | []=>0
 | t :: ts=>t.size+ax_ ts
end
theorem Ty.size_eq (t:Ty):t.size=ax_ t.args+1:=by cases t;simp[Ty.size,Ty.args]
theorem eA_ (a b:List Ty):ax_ (a++b)=ax_ a+ax_ b:=by
 induction a with
 | nil=>simp[ax_]
 | cons t ts ih=>simp only[List.cons_append,ax_,ih];omega
theorem fU_ (ts:List Ty)(i:Nat)(h:i<ts.length):ax_ (ts.take (i+1))=ax_ (ts.take i)+ts[i].size:=by
 rw[List.take_add_one,List.getElem?_eq_getElem h,eA_];simp[ax_]
theorem cx_ (ts:List Ty){a:Ty}(h:a∈ts):a.size≤ax_ ts:=by
 induction ts with
 | nil=>cases h
 | cons t ts ih =>
  rw[ax_]
  rcases List.mem_cons.1 h with rfl|h
  ·omega
  ·have:=ih h;omega
theorem ds_ (ts:List Ty)(i:Nat):ax_ (ts.take i)≤ax_ ts:=by
 conv=>rhs;rw[← List.take_append_drop i ts,eA_]
 omega
theorem cL_ (ts:List Ty):ts.length≤ax_ ts:=by
 induction ts with
 | nil=>simp
 | cons t ts ih=>rw[ax_,List.length_cons,t.size_eq];omega
section
variable {G : Type} (step : G → Ty → List ByteArray → G)
mutual
def cT_:Ty→G→List ByteArray→G
 | .mk k s n args,g,ns=>b7_ args (step g (.mk k s n args) ns) (if k=5 then s :: ns else ns)
def b7_:List Ty→G→List ByteArray→G
 | [],g,_=>g
 | t :: ts,g,ns=>b7_ ts (cT_ t g ns) ns
end
end
theorem dq_ {G:Type}(step:G→Ty→List ByteArray→G)(t:Ty)(g:G)(ns:List ByteArray):cT_ step t g ns=b7_ step t.args (step g t ns) (if t.kind=5 then t.name :: ns else ns):=by
 cases t with
 | mk k s n args=>rw[cT_];rfl
theorem iW_ {G:Type}(step:G→Ty→List ByteArray→G)(a b:List Ty)(g:G)(ns:List ByteArray):b7_ step (a++b) g ns=b7_ step b (b7_ step a g ns) ns:=by
 induction a generalizing g with
 | nil=>rfl
 | cons t ts ih=>rw[List.cons_append,b7_,b7_,ih]
theorem hC_ {G:Type}(step:G→Ty→List ByteArray→G)(ts:List Ty)(i:Nat)(h:i<ts.length)(g:G)(ns:List ByteArray):b7_ step (ts.take (i+1)) g ns=cT_ step ts[i] (b7_ step (ts.take i) g ns) ns:=by
 rw[List.take_add_one,List.getElem?_eq_getElem h,iW_];rfl
def fb_ (l:List ByteArray)(x:ByteArray):Bool:=l.any fun y=>decide (y.data=x.data)
theorem cN_ (l:List ByteArray)(x:ByteArray):fb_ l x=true↔x∈l:=by
 unfold fb_;rw[List.any_eq_true]
 constructor
 ·rintro ⟨y,hy,h⟩
  have:y=x:=ByteArray.ext (by simpa using h);exact this ▸ hy
 ·intro h
  exact⟨x,h,by simp⟩
def ap_ (out:List ByteArray)(x:Ty)(ns:List ByteArray):List ByteArray:=if x.kind==1&&!fb_ ns x.name&&!fb_ out x.name then out++[x.name] else out
def fA_ (out:List Int)(x:Ty)(_:List ByteArray):List Int:=if x.kind==2&&!out.contains x.n then out++[x.n] else out
def aK_ (t:Ty):List ByteArray:=cT_ ap_ t [] []
theorem jl_ (l:List UInt8)(c:UInt8):dw_ (l++[c])=10*dw_ l+(c.toNat - 48):=by simp[dw_,List.foldl_append]
theorem iw_ (u:Nat):dw_ (Lib.decDigits u)=u:=by
 induction u using Nat.strongRecOn with
 | _ u ih =>
  rw[Lib.decDigits];have dig:∀ d,d<10→(UInt8.ofNat (48+d)).toNat - 48=d:=fun d hd=>by
   rw[UInt8.toNat_ofNat'];omega
  split
  ·next h=>simp only[dw_,List.foldl_cons,List.foldl_nil];rw[dig u h];omega
  ·next h=>rw[jl_,ih (u / 10) (by omega),dig (u % 10) (by omega)];omega
theorem la_ {a b:Nat}(h:Lib.itoa (a:Int)=Lib.itoa (b:Int)):a=b:=by
 rw[Lib.itoa_nonneg,Lib.itoa_nonneg] at h;rw[← iw_ a,h,iw_]
def aZ_ (n:Nat):ByteArray:=⟨#[120]⟩++aa_ (Lib.itoa (n:Int))
def eg_ (nm:ByteArray)(i:Nat):ByteArray:=nm.extract 0 1++⟨#[95]⟩++aa_ (Lib.itoa (i:Int))
theorem b4_ {a b:List UInt8}(h:aa_ a=aa_ b):a=b:=by
 have:=congrArg (fun x=>x.data.toList) h;exact this
theorem op_ {p a b:ByteArray}(h:p++a=p++b):a=b:=by
 have:=congrArg (fun x=>x.data.toList) h;simp at this;exact ByteArray.ext this
theorem ey_ {a b:Nat}(h:aZ_ a=aZ_ b):a=b:=la_ (b4_ (op_ h))
theorem g8_ {nm:ByteArray}{a b:Nat}(h:eg_ nm a=eg_ nm b):a=b:=la_ (b4_ (op_ h))
theorem dB_ (l:List ByteArray)(x:ByteArray):fb_ l x=false↔x∉l:=by
 rw[← Bool.not_eq_true,cN_]
def eh_ (f:Nat→ByteArray)(but:List ByteArray):Nat→Nat→Nat
 | 0,i=>i
 | k+1,i=>if fb_ but (f i) then eh_ f but k (i+1) else i
theorem nx_ (f:Nat→ByteArray)(hf:∀ a b,f a=f b→a=b):∀ (k:Nat) (but:List ByteArray) (i:Nat),(∀ j,j<k→f (i+j)∈but)→k≤but.length:=by
 intro k
 induction k with
 | zero=>intro but i _;omega
 | succ k ih =>
  intro but i h;have h1:=ih (but.filter fun y=>decide (y.data≠(f i).data)) (i+1) fun j hj=>by
   refine List.mem_filter.2 ⟨by have:=h (j+1) (by omega);rwa [show i+(j+1)=i+1+j by omega] at this,?_⟩;simp only[decide_eq_true_eq];intro e;have:=hf _ _ (ByteArray.ext e);omega
  have h2:(but.filter fun y=>decide (y.data≠(f i).data)).length<but.length :=
   List.length_filter_lt_length_iff_exists.2 ⟨f i,by simpa using h 0 (by omega),by simp⟩
  omega
theorem g9_ (f:Nat→ByteArray)(but:List ByteArray):∀ (k i r:Nat),i≤r→r<i+k→(∀ j,i≤j→j<r→fb_ but (f j)=true)→fb_ but (f r)=false→eh_ f but k i=r:=by
 intro k
 induction k with
 | zero=>intro i r h1 h2;omega
 | succ k ih =>
  intro i r h1 h2 h3 h4;rw[eh_]
  by_cases e:i=r
  ·subst e;rw[h4];rfl
  ·rw[if_pos (h3 i (Nat.le_refl _) (by omega))]
   exact ih (i+1) r (by omega) (by omega) (fun j hj hj'=>h3 j (by omega) hj') h4
theorem n3_ (f:Nat→ByteArray)(hf:∀ a b,f a=f b→a=b)(but:List ByteArray)(i:Nat):∃ r,i≤r∧r≤i+but.length∧(∀ j,i≤j→j<r→fb_ but (f j)=true)∧fb_ but (f r)=false:=by
 have key:∀ n,(∃ r,i≤r∧r<i+n∧(∀ j,i≤j→j<r→fb_ but (f j)=true)∧fb_ but (f r)=false)∨∀ j,j<n→fb_ but (f (i+j))=true:=by
  intro n
  induction n with
  | zero=>exact .inr fun j hj=>by omega
  | succ n ih =>
   rcases ih with ⟨r,h1,h2,h3⟩|h
   ·exact .inl ⟨r,h1,by omega,h3⟩
   ·cases hb:fb_ but (f (i+n)) with
    | false =>
     refine .inl ⟨i+n,by omega,by omega,fun j hj hj'=>?_,hb⟩;have:=h (j - i) (by omega);rwa [show i+(j - i)=j by omega] at this
    | true =>
     refine .inr fun j hj=>?_
     by_cases e:j=n
     ·subst e;exact hb
     ·exact h j (by omega)
 rcases key (but.length+1) with ⟨r,h1,h2,h3,h4⟩|h
 ·exact⟨r,h1,by omega,h3,h4⟩
 ·have:=nx_ f hf (but.length+1) but i fun j hj=>(cN_ _ _).1 (h j hj)
  omega
theorem dN_ (f:Nat→ByteArray)(hf:∀ a b,f a=f b→a=b)(but:List ByteArray)(i:Nat) :
  i≤eh_ f but (but.length+1) i∧eh_ f but (but.length+1) i≤i+but.length∧(∀ j,i≤j→j<eh_ f but (but.length+1) i→fb_ but (f j)=true)∧fb_ but (f (eh_ f but (but.length+1) i))=false:=by
 obtain⟨r,h1,h2,h3,h4⟩:=n3_ f hf but i;rw[g9_ f but (but.length+1) i r h1 (by omega) h3 h4];exact⟨h1,h2,h3,h4⟩
def bN_ (nm:ByteArray)(but:List ByteArray):ByteArray:=eg_ nm (eh_ (eg_ nm) but (but.length+1) 0)
def ct_ (free:List ByteArray)(n:Nat):Nat:=eh_ aZ_ free (free.length+1) n
theorem f8_ (nm:ByteArray)(but:List ByteArray):bN_ nm but∉but:=(dB_ _ _).1 (dN_ (eg_ nm) (fun _ _=>g8_) but 0).2.2.2
theorem nL_ (free:List ByteArray)(n:Nat):aZ_ (ct_ free n)∉free:=(dB_ _ _).1 (dN_ aZ_ (fun _ _=>ey_) free n).2.2.2
end
section
open Go.RowKit
structure Tr (bo:Nat)(r:Option Nat)(W:World)(r':Option Nat)(W':World):Prop where
 kp:Kp W.heap.size (fun b=>b=bo∨some b=r) W W'
 row:r'=r∨∃ g,r'=some g∧W.heap.size≤g
theorem Tr.refl (bo:Nat)(r:Option Nat)(W:World):Tr bo r W r W:=⟨.refl _ _ _,.inl rfl⟩
theorem Tr.of_below {bo:Nat}{r:Option Nat}{W W':World}(h:Below W.heap.size W W'):Tr bo r W r W':=⟨.of_below h,.inl rfl⟩
theorem Tr.trans {bo:Nat}{r r1 r2:Option Nat}{W W1 W2:World}(h:Tr bo r W r1 W1)(h':Tr bo r1 W1 r2 W2):Tr bo r W r2 W2:=by
 refine⟨h.kp.trans h'.kp h.kp.size fun b hb e=>?_,?_⟩
 ·rcases e with e|e
  ·exact .inl e
  ·rcases h.row with e2|⟨g,e2,hg⟩
   ·exact .inr (e.trans e2)
   ·rw[e2] at e;injection e with e;omega
 ·have:=h.kp.size
  rcases h'.row with e|⟨g,e,hg⟩
  ·rcases h.row with e2|⟨g,e2,hg⟩
   ·exact .inl (e.trans e2)
   ·exact .inr ⟨g,e.trans e2,hg⟩
  ·exact .inr ⟨g,e,by omega⟩
theorem Tr.safe {bo:Nat}{r r':Option Nat}{W W':World}(h:Tr bo r W r' W'){b:Nat}(hb:b<W.heap.size)(h1:b≠bo)(h2:some b≠r):W'.heap[b]? = W.heap[b]?∧b<W'.heap.size∧some b≠r':=by
 refine⟨h.kp.block b hb (fun e=>e.elim h1 h2),by have:=h.kp.size;omega,fun e=>?_⟩
 rcases h.row with e2|⟨g,e2,hg⟩
 ·exact h2 (e.trans e2)
 ·rw[e2] at e;injection e with e;omega
section
variable {G : Type} (f : FuncId) (caps : Array Value) (bo : Nat) (step : G → Ty → List ByteArray → G) (Inv : Nat → G → Option Nat → World → Prop)
def oF_ (k:Nat)(g:G)(r:Option Nat)(W:World)(e:Ending)(W':World):Prop:=(∃ v,e=.returned v)∧∃ r',Inv k g r' W'∧Tr bo r W r' W'
def Off (bo:Nat)(r:Option Nat)(W:World)(b:Nat):Prop:=b<W.heap.size∧b≠bo∧some b≠r
def qH_:Prop:=∀ (k:Nat) (g:G) (x:Ty) (ns:List ByteArray) (S:Nat→Prop) (a:OA_) (c m:Nat) (r:Option Nat) (W:World),Inv k g r W→k<4500000000000→ac_ S W (.slice a x.args.length c) x.args →
 (∀ b,S b→Off bo r W b)→c3_ W m (·∈ns)→Off bo r W m→Calls Tryz.prog f (#[tv x a c,.map (some m)]++caps) W (oF_ bo Inv (k+1) (step g x ns) r W)
structure sP_:Prop where
 low:∀ k g r W W',Inv k g r W→Below W.heap.size W W'→Inv k g r W'
 bo:∀ k g r W,Inv k g r W→bo<W.heap.size
 row:∀ k g r W b,Inv k g r W→r=some b→b<W.heap.size
end
theorem Off.tr {bo:Nat}{r r':Option Nat}{W W':World}{b:Nat}(h:Off bo r W b)(k:Tr bo r W r' W'):Off bo r' W' b:=⟨(k.safe h.1 h.2.1 h.2.2).2.1,h.2.1,(k.safe h.1 h.2.1 h.2.2).2.2⟩
theorem oL_ {G:Type}(f:FuncId)(caps:Array Value)(bo:Nat)(step:G→Ty→List ByteArray→G)(Inv:Nat→G→Option Nat→World→Prop)(hf:∀ args w,(callFunc f args).run Tryz.prog w=.ok (.enter f args) w)(hat:qH_ f caps bo step Inv)(hok:sP_ bo Inv) :
  ∀ (t:Ty) (k:Nat) (g:G) (ns:List ByteArray) (S:Nat→Prop) (a:OA_) (c m:Nat) (r:Option Nat) (W:World),Inv k g r W→k+t.size≤4500000000000→ac_ S W (.slice a t.args.length c) t.args →
   (∀ b,S b→Off bo r W b)→c3_ W m (·∈ns)→Off bo r W m→Calls Tryz.prog 74 #[tv t a c,.map (some m),.func (.func f) #[] caps] W (oF_ bo Inv (k+t.size) (cT_ step t g ns) r W):=by
 intro t
 induction t using Ty.ind with
 | h t ih =>
  intro k g ns S a c m r W hI hk hA hS hM hOm;have hz:=ao_ W (.cells #[.int .i64 t.kind,.string t.name,.int .i64 t.n,.slice a t.args.length c] 30);have b4:=B4.new W (.int .i64 t.kind) (.string t.name) (.int .i64 t.n) (.slice a t.args.length c);have hs1:(W.alloc (.cells #[.int .i64 t.kind,.string t.name,.int .i64 t.n,.slice a t.args.length c] 30)).heap.size=W.heap.size+1:=by simp
  have T0:Tr bo r W r (W.alloc (.cells #[.int .i64 t.kind,.string t.name,.int .i64 t.n,.slice a t.args.length c] 30)):=.of_below hz;have hB:Off bo r (W.alloc (.cells #[.int .i64 t.kind,.string t.name,.int .i64 t.n,.slice a t.args.length c] 30)) W.heap.size:=by
   refine⟨by simp,fun e=>?_,fun e=>?_⟩
   ·have:=hok.bo _ _ _ _ hI;omega
   ·have:=hok.row _ _ _ _ _ hI e.symm;omega
  have htl:=cL_ t.args;have hsz:=t.size_eq;have hal:t.args.length≤4500000000000:=by omega
  have CA:=hid (hat k g t ns S a c m r _ (hok.low _ _ _ _ _ hI hz) (by omega) (hA.keep (fun b hb=>hz.block b (hS b hb).1)) (fun b hb=>(hS b hb).tr T0) (hM.keep (hz.block m hOm.1)) (hOm.tr T0));obtain⟨c0,c1,c2,c3⟩:=b4.c03;have T0H:=hid T0;have HB:=hid hB;have B4H:=hid b4;have HA:=hid hA;have HS:=hid hS;have HM:=hid hM;have HOM:=hid hOm;have IH:=hid ih;have HAT:=hid hat;have HOK:=hid hok;have HSZ:=hid hsz;have HK:=hid hk;unfold tv at *;clear hI hA hS hM hOm hz b4 T0 hB ih hat hok hsz hk hs1
  by_cases h5:t.kind=5
  ·have z5:(t.kind==5)=true:=by rw[beq_iff_eq];exact h5
   have E:Hid (cT_ step t g ns=b7_ step t.args (step g t ns) (t.name :: ns)):=hid (by rw[dq_,if_pos h5]);clear h5;go_enter Tryz.func74,Tryz.ntmps74;go_wp2_with fail;refine CA.out.mono ?_;rintro e W1 ⟨⟨v,rfl⟩,r1,hI1,hT1⟩;have q4:B4 W1 W.heap.size (.int .i64 t.kind) (.string t.name) (.int .i64 t.n) (.slice a t.args.length c):=(hT1.safe HB.out.1 HB.out.2.1 HB.out.2.2).1.trans B4H.out;have hm1:=hT1.safe (HOM.out.tr T0H.out).1 HOM.out.2.1 HOM.out.2.2;have T1:=T0H.out.trans hT1;have C2:=hid (oe_ m (·∈ns) W1 ((HM.out.keep (T0H.out.safe HOM.out.1 HOM.out.2.1 HOM.out.2.2).1).keep hm1.1));have Q4:=hid q4;have HI1:=hid hI1;have HT1:=hid T1;have c0:=q4.c0;have c1:=q4.c1;have c3:=q4.c3;clear hT1 hm1 T1 q4 hI1;go_wp2_with fail;refine C2.out.mono ?_;rintro e W2 ⟨rfl,hb2,hs2,hz2⟩;obtain⟨W3,hrun,hs3,hg3⟩:=hs2.update Tryz.underlying124 Tryz.underlying9 t.name;have q4:=(Q4.out.low hb2).grown hg3 (fun e=>by injection e with e;have:=Q4.out.lt;omega);have c12:=(Q4.out.low hb2).c1;have c0:=q4.c0;have c1:=q4.c1;have c3:=q4.c3;have TG:Tr bo r1 W1 r1 W3:=.of_below ⟨hg3.os.trans hb2.os,hg3.tape.trans hb2.tape,hg3.output.trans hb2.output,by have:=hg3.size;omega,fun b hb=>(hg3.block b (by omega) (fun e=>by injection e with e;omega)).trans (hb2.block b hb)⟩;have HI3:=hid (HOK.out.low _ _ _ _ W3 HI1.out ⟨TG.kp.os,TG.kp.tape,TG.kp.output,TG.kp.size,fun b hb=>(hg3.block b (by omega) (fun e=>by injection e with e;omega)).trans (hb2.block b hb)⟩);have HT3:=hid (HT1.out.trans TG);have HM3:=hid (show c3_ W3 W1.heap.size (·∈t.name :: ns) from hs3.congr fun s=>List.mem_cons.symm);have HO3:Hid (Off bo r1 W3 W1.heap.size):=hid ⟨by have:=hg3.size;omega,fun e=>by have:=HOK.out.bo _ _ _ _ HI1.out;omega,fun e=>by have:=HOK.out.row _ _ _ _ _ HI1.out e.symm;omega⟩;clear hb2 hs2 hz2 hs3 hg3 q4 TG;go_wp2
   go_loopw [23] (fun iv wr=>∃ (i:Nat) (g':G) (r':Option Nat),iv=.int .i64 i∧i≤t.args.length∧g'=b7_ step (t.args.take i) (step g t ns) (t.name :: ns)∧Inv (k+1+ax_ (t.args.take i)) g' r' wr∧Tr bo r W r' wr∧c3_ wr W1.heap.size (·∈(t.name :: ns))∧Off bo r' wr W1.heap.size) (fun iv _=>t.args.length - (intOf iv).toNat)
   case atStart=>exact⟨0,_,r1,rfl,Nat.zero_le _,rfl,by simpa [ax_,b7_] using HI3.out,HT3.out,HM3.out,HO3.out⟩
   case round =>
    clear HI3 HT3 HM3 HO3;obtain⟨i,g',r',rfl,hil,hg',hI,hT,hM,hO⟩:=hrel;have GE:=hid hg';have TE:=hid hT
    by_cases hi:i<t.args.length
    ·have z0:(0:Int)≤(i:Int):=by omega
     have z1:(i:Int)<(t.args.length:Int):=(by omega);obtain⟨b,off,a',c',rfl,hb,hf4,hs⟩:=HA.out.at_ hi;obtain⟨f0,f1,f2,f3⟩:=hf4.keep (hT.safe (HS.out b hb).1 (HS.out b hb).2.1 (HS.out b hb).2.2).1;have hz:=ao_ wr (.cells #[.int .i64 t.args[i].kind,.string t.args[i].name,.int .i64 t.args[i].n,.slice a' t.args[i].args.length c'] 30);have b4:=B4.new wr (.int .i64 t.args[i].kind) (.string t.args[i].name) (.int .i64 t.args[i].n) (.slice a' t.args[i].args.length c');obtain⟨c0,c1,c2,c3⟩:=b4.c03;have TN:Tr bo r' wr r' _:=.of_below hz;have hst:=fU_ t.args i hi;have hsl:=ds_ t.args (i+1);have hk2:=HK.out;have hz2:=HSZ.out;have CW:=hid (IH.out t.args[i] (List.getElem_mem hi) (k+1+ax_ (t.args.take i)) g' (t.name :: ns) S a' c' W1.heap.size r' _ (HOK.out.low _ _ _ _ _ hI hz) (by omega) (hs.keep (fun b hb=>(hz.block b ((HS.out b hb).tr hT).1).trans (hT.safe (HS.out b hb).1 (HS.out b hb).2.1 (HS.out b hb).2.2).1)) (fun b hb=>((HS.out b hb).tr hT).tr TN) (hM.keep (hz.block W1.heap.size hO.1)) (hO.tr TN));have HST:=hid hst;have WT:=hid (hC_ step t.args i hi (step g t ns) (t.name :: ns));have HMR:=hid hM;have HOR:=hid hO;have TNH:=hid TN;unfold tv at *;clear hg' hI hT hM hO hf4 hs hz b4 TN hst hsl hk2 hz2;go_wp2_with fail;refine CW.out.mono ?_;rintro e W4 ⟨⟨v4,rfl⟩,r4,hI4,hT4⟩;have TF:=TNH.out.trans hT4;have HI4:=hid hI4;have HT4:=hid (TE.out.trans TF);have HM4:=hid (HMR.out.keep (TF.safe HOR.out.1 HOR.out.2.1 HOR.out.2.2).1);have HO4:=hid (HOR.out.tr TF);clear hI4 hT4 TF;go_wp2;go_roundw
     case rel=>exact⟨i+1,_,r4,by go_num,by omega,rfl,by rw[WT.out,← GE.out,HST.out,← Nat.add_assoc];exact HI4.out,HT4.out,HM4.out,HO4.out⟩
     case measure=>simp[intOf];omega
    ·obtain rfl:i=t.args.length:=by omega
     have HI:=hid hI;clear hg' hI hT hM hO;go_wp2
     go_end0
     have e1:k+1+ax_ (t.args.take t.args.length)=k+t.size:=by rw[List.take_length,HSZ.out];omega
     have e2:g'=cT_ step t g ns:=(by rw[GE.out,E.out,List.take_length]);rw[e1,e2] at HI;exact⟨⟨_,rfl⟩,r',HI.out,TE.out⟩
  ·have z5:(t.kind==5)=false:=by rw[beq_eq_false_iff_ne];exact h5
   have E:Hid (cT_ step t g ns=b7_ step t.args (step g t ns) ns):=hid (by rw[dq_,if_neg h5]);clear h5;go_enter Tryz.func74,Tryz.ntmps74;go_wp2_with fail;refine CA.out.mono ?_;rintro e W1 ⟨⟨v,rfl⟩,r1,hI1,hT1⟩;have q4:B4 W1 W.heap.size (.int .i64 t.kind) (.string t.name) (.int .i64 t.n) (.slice a t.args.length c):=(hT1.safe HB.out.1 HB.out.2.1 HB.out.2.2).1.trans B4H.out;have c0:=q4.c0;have c3:=q4.c3;have T1:=T0H.out.trans hT1;have HI3:=hid hI1;have HT3:=hid T1;have HM3:=hid (HM.out.keep (T1.safe HOM.out.1 HOM.out.2.1 HOM.out.2.2).1);have HO3:=hid (HOM.out.tr T1);clear hI1 hT1 T1 q4;go_wp2
   go_loopw [23] (fun iv wr=>∃ (i:Nat) (g':G) (r':Option Nat),iv=.int .i64 i∧i≤t.args.length∧g'=b7_ step (t.args.take i) (step g t ns) ns∧Inv (k+1+ax_ (t.args.take i)) g' r' wr∧Tr bo r W r' wr∧c3_ wr m (·∈ns)∧Off bo r' wr m) (fun iv _=>t.args.length - (intOf iv).toNat)
   case atStart=>exact⟨0,_,r1,rfl,Nat.zero_le _,rfl,by simpa [ax_,b7_] using HI3.out,HT3.out,HM3.out,HO3.out⟩
   case round =>
    clear HI3 HT3 HM3 HO3;obtain⟨i,g',r',rfl,hil,hg',hI,hT,hM,hO⟩:=hrel;have GE:=hid hg';have TE:=hid hT
    by_cases hi:i<t.args.length
    ·have z0:(0:Int)≤(i:Int):=by omega
     have z1:(i:Int)<(t.args.length:Int):=(by omega);obtain⟨b,off,a',c',rfl,hb,hf4,hs⟩:=HA.out.at_ hi;obtain⟨f0,f1,f2,f3⟩:=hf4.keep (hT.safe (HS.out b hb).1 (HS.out b hb).2.1 (HS.out b hb).2.2).1;have hz:=ao_ wr (.cells #[.int .i64 t.args[i].kind,.string t.args[i].name,.int .i64 t.args[i].n,.slice a' t.args[i].args.length c'] 30);have b4:=B4.new wr (.int .i64 t.args[i].kind) (.string t.args[i].name) (.int .i64 t.args[i].n) (.slice a' t.args[i].args.length c');obtain⟨c0,c1,c2,c3⟩:=b4.c03;have TN:Tr bo r' wr r' _:=.of_below hz;have hst:=fU_ t.args i hi;have hsl:=ds_ t.args (i+1);have hk2:=HK.out;have hz2:=HSZ.out;have CW:=hid (IH.out t.args[i] (List.getElem_mem hi) (k+1+ax_ (t.args.take i)) g' ns S a' c' m r' _ (HOK.out.low _ _ _ _ _ hI hz) (by omega) (hs.keep (fun b hb=>(hz.block b ((HS.out b hb).tr hT).1).trans (hT.safe (HS.out b hb).1 (HS.out b hb).2.1 (HS.out b hb).2.2).1)) (fun b hb=>((HS.out b hb).tr hT).tr TN) (hM.keep (hz.block m hO.1)) (hO.tr TN));have HST:=hid hst;have WT:=hid (hC_ step t.args i hi (step g t ns) ns);have HMR:=hid hM;have HOR:=hid hO;have TNH:=hid TN;unfold tv at *;clear hg' hI hT hM hO hf4 hs hz b4 TN hst hsl hk2 hz2;go_wp2_with fail;refine CW.out.mono ?_;rintro e W4 ⟨⟨v4,rfl⟩,r4,hI4,hT4⟩;have TF:=TNH.out.trans hT4;have HI4:=hid hI4;have HT4:=hid (TE.out.trans TF);have HM4:=hid (HMR.out.keep (TF.safe HOR.out.1 HOR.out.2.1 HOR.out.2.2).1);have HO4:=hid (HOR.out.tr TF);clear hI4 hT4 TF;go_wp2;go_roundw
     case rel=>exact⟨i+1,_,r4,by go_num,by omega,rfl,by rw[WT.out,← GE.out,HST.out,← Nat.add_assoc];exact HI4.out,HT4.out,HM4.out,HO4.out⟩
     case measure=>simp[intOf];omega
    ·obtain rfl:i=t.args.length:=by omega
     have HI:=hid hI;clear hg' hI hT hM hO;go_wp2
     go_end0
     have e1:k+1+ax_ (t.args.take t.args.length)=k+t.size:=by rw[List.take_length,HSZ.out];omega
     have e2:g'=cT_ step t g ns:=(by rw[GE.out,E.out,List.take_length]);rw[e1,e2] at HI;exact⟨⟨_,rfl⟩,r',HI.out,TE.out⟩
end
end Go.Proofs.YtkihnodkhnahiaaGreatDoor.Tp

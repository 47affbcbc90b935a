/- Packed. -/
import Derived.MapKept
import Derived.Below
import Derived.ChangeMaps4
import Derived.Test.YtjecnionbjlncaaGreatDoorP05
import Derived.Laws.OwnMore
import Derived.Shelf.SlMaps.Clone
set_option maxRecDepth 100000
set_option maxHeartbeats 6400000
namespace Go.Proofs.YtjecnionbjlncaaGreatDoor.Tp
section
open Go.RowKit Go.MapKept
def cn_ (w:World)(b:Nat)(ns:ByteArray→Prop):Prop :=
 ∃ es clock,w.heap[b]? = some (.map es clock)∧(∀ x∈es.toList,∃ s,x.key=.string s∧x.val=.bool true)∧∀ s,ns s↔∃ x∈es.toList,x.key=.string s
theorem cn_.lt {w:World}{b:Nat}{ns:ByteArray→Prop}(h:cn_ w b ns):b<w.heap.size:=by
 obtain⟨es,clock,hb,_⟩:=h;exact (Array.getElem?_eq_some_iff.1 hb).1
theorem cn_.keep {w w':World}{b:Nat}{ns:ByteArray→Prop}(h:cn_ w b ns)(hb:w'.heap[b]? = w.heap[b]?):cn_ w' b ns:=by
 obtain⟨es,clock,h1,h2⟩:=h;exact⟨es,clock,hb.trans h1,h2⟩
theorem cn_.congr {w:World}{b:Nat}{ns ns':ByteArray→Prop}(h:cn_ w b ns)(e:∀ s,ns s↔ns' s):cn_ w b ns':=by
 obtain⟨es,clock,h1,h2,h3⟩:=h;exact⟨es,clock,h1,h2,fun s=>(e s).symm.trans (h3 s)⟩
theorem cn_.made (w:World):cn_ (w.alloc (.map #[] 0)) w.heap.size (fun _=>False) :=
 ⟨#[],0,(heap_alloc w _).1,by simp,by simp⟩
theorem cn_.made_at {w:World}{n:Nat}(h:w.heap.size=n):cn_ (w.alloc (.map #[] 0)) n (fun _=>False):=h ▸ cn_.made w
theorem cn_.lookup {P:Program}{w:World}{b:Nat}{ns:ByteArray→Prop}(h:cn_ w b ns){t k e:TypeId}(ht:P.underlying t=some (.map k e))(hk:P.underlying k=some .string)
  (hz:(zeroValue e).run P w=.ok (.bool false) w) (s:ByteArray) {c:Bool} (hc:c=true↔ns s):(Instr.lookup t (.map (some b)) (.string s) false).run P w=.ok (.bool c) w:=by
 obtain⟨es,clock,hb,hv,hn⟩:=h;have hks:∀ x∈es.toList,IsKey .string x.key:=fun x hx=>by obtain⟨s,hs,_⟩:=hv x hx;rw[hs];simp[IsKey]
 rcases findNow_spec (d:=.string) (k:=.string s) (by simp[IsKey]) es.toList 0 hks with ⟨h1,h2⟩|⟨j,e0,h1,h2,h3⟩
 ·have:c=false:=by
   cases c with
   | false=>rfl
   | true =>
    obtain⟨x,hx,hx2⟩:=(hn s).1 (hc.1 rfl);exact absurd hx2 (h2 x hx)
  subst this;simp[Instr.lookup,run_underlying ht,MapKept.run_getObj_map hb,run_checkKey hk (show IsKey .string (.string s) by simp[IsKey]),run_findKey hk h1,hz,Result.andThen]
 ·have hm:e0∈es.toList:=List.mem_of_getElem? h2
  obtain⟨s',_,hval⟩:=hv e0 hm;have:c=true:=hc.2 ((hn s).2 ⟨e0,hm,h3⟩);subst this;simp[Instr.lookup,run_underlying ht,MapKept.run_getObj_map hb,run_checkKey hk (show IsKey .string (.string s) by simp[IsKey]),run_findKey hk h1,hval,Result.andThen]
theorem cn_.update {P:Program}{w:World}{b:Nat}{ns:ByteArray→Prop}(h:cn_ w b ns){t k e:TypeId}(ht:P.underlying t=some (.map k e))(hk:P.underlying k=some .string)(s:ByteArray) :
  ∃ w',(Instr.mapUpdate t (.map (some b)) (.string s) (.bool true)).run P w=.ok () w'∧cn_ w' b (fun x=>x=s∨ns x)∧w.grownBy w' (some b):=by
 obtain⟨es,clock,hb,hv,hn⟩:=h;have hks:∀ x∈es.toList,IsKey .string x.key:=fun x hx=>by obtain⟨s,hs,_⟩:=hv x hx;rw[hs];simp[IsKey]
 have hs:IsKey .string (.string s):=by simp[IsKey]
 have grown:∀ o:Obj,w.grownBy { w with heap:=w.heap.setIfInBounds b o } (some b):=fun o=>⟨rfl,rfl,rfl,by simp,fun i _ hi=>(heap_set hb).2 i (fun e=>hi (by rw[e]))⟩
 rcases findNow_spec (d:=.string) (k:=.string s) hs es.toList 0 hks with ⟨h1,h2⟩|⟨j,e0,h1,h2,h3⟩
 ·refine⟨{ w with heap:=w.heap.setIfInBounds b (.map (es.push { key:=.string s,val:=.bool true,born:=clock }) (clock+1)) },
   by simp[Instr.mapUpdate,run_underlying ht,MapKept.run_getObj_map hb,run_checkKey hk hs,run_findKey hk h1,run_setObj_map _ hb,Result.andThen],⟨_,_,(heap_set hb).1,?_,?_⟩,grown _⟩
  ·intro x hx
   simp only[Array.toList_push,List.mem_append,List.mem_singleton] at hx
   rcases hx with hx|rfl
   ·exact hv x hx
   ·exact⟨s,rfl,rfl⟩
  ·intro s'
   simp only[Array.toList_push,List.mem_append,List.mem_singleton,hn s']
   constructor
   ·rintro (rfl|⟨x,hx,hx2⟩)
    ·exact⟨_,.inr rfl,rfl⟩
    ·exact⟨x,.inl hx,hx2⟩
   ·rintro ⟨x,hx|rfl,hx2⟩
    ·exact .inr ⟨x,hx,hx2⟩
    ·simp only[Value.string.injEq] at hx2;exact .inl hx2.symm
 ·have hj:es[j]? = some e0:=by simpa using h2
  have hm:e0∈es.toList:=List.mem_of_getElem? h2;have hval:e0.val=.bool true:=by obtain⟨_,_,h⟩:=hv e0 hm;exact h
  have hsame:es.modify j (fun e=>{ e with key:=.string s,val:=.bool true })=es:=by
   apply Array.ext_getElem?;intro i;rw[Array.getElem?_modify]
   split
   ·next hij =>
    subst hij;rw[hj,← h3,← hval];rfl
   ·rfl
  refine⟨{ w with heap:=w.heap.setIfInBounds b (.map (es.modify j (fun e=>{ e with key:=.string s,val:=.bool true })) clock) },
   by simp[Instr.mapUpdate,run_underlying ht,MapKept.run_getObj_map hb,run_checkKey hk hs,run_findKey hk h1,hj,h3,run_keyThatStays hs,run_setObj_map _ hb,Result.andThen],⟨_,_,(heap_set hb).1,?_,?_⟩,grown _⟩
  ·rw[hsame];exact hv
  ·rw[hsame]
   intro s';show (s'=s∨ns s')↔_;rw[hn s'];exact⟨fun h=>h.elim (fun e=>by subst e;exact⟨e0,hm,h3⟩) id,.inr⟩
end
section
open Go.RowKit
structure Kp (n:Nat)(T:Nat→Prop)(a w:World):Prop where
 os:w.os=a.os
 tape:w.tape=a.tape
 output:w.output=a.output
 size:a.heap.size≤w.heap.size
 block:∀ k,k<n→¬ T k→w.heap[k]? = a.heap[k]?
section
variable {n m : Nat} {T T' : Nat → Prop} {a w w' : World}
theorem Kp.refl (n:Nat)(T:Nat→Prop)(a:World):Kp n T a a:=⟨rfl,rfl,rfl,aC_ _,fun _ _ _=>rfl⟩
theorem Kp.of_below (h:Below n a w):Kp n T a w:=⟨h.os,h.tape,h.output,h.size,fun k hk _=>h.block k hk⟩
theorem Kp.trans (h:Kp n T a w)(h':Kp m T' w w')(hn:n≤m)(hT:∀ b,b<n→T' b→T b):Kp n T a w' :=
 ⟨h'.os.trans h.os,h'.tape.trans h.tape,h'.output.trans h.output,cj_ h.size h'.size,fun k hk ht=>(h'.block k (by omega) (fun e=>ht (hT k hk e))).trans (h.block k hk ht)⟩
theorem Kp.mono (h:Kp m T a w)(hn:n≤m)(hT:∀ b,b<n→T b→T' b):Kp n T' a w:=⟨h.os,h.tape,h.output,h.size,fun k hk ht=>h.block k (by omega) (fun e=>ht (hT k hk e))⟩
theorem Kp.below (h:Kp n T a w)(h':Below m w w')(hn:n≤m):Kp n T a w':=h.trans (T':=fun _=>False) (.of_below h') hn (fun _ _ e=>e.elim)
theorem Kp.alloc (h:Kp n T a w)(hn:n≤w.heap.size)(o:Obj):Kp n T a (w.alloc o):=h.below (aw_ _ o) hn
theorem Kp.drew (h:Kp n T a w):Kp n T a w.drew:=⟨h.os,h.tape,h.output,h.size,h.block⟩
theorem Kp.setCell (h:Kp n T a w){p:Addr}(hp:n≤p.block∨T p.block)(u:Value):Kp n T a (w.setCell p u) :=
 ⟨h.os,h.tape,h.output,by simpa using h.size,fun k hk ht=>(aB_ _ _ _ _ (fun e=>hp.elim (by omega) (fun e2=>ht (by rw[e];exact e2)))).trans (h.block k hk ht)⟩
theorem Kp.grown {r:Option Nat}(h:Kp n T a w)(hg:w.grownBy w' r)(hn:n≤w.heap.size)(hr:∀ k,r=some k→n≤k∨T k):Kp n T a w' :=
 ⟨hg.os.trans h.os,hg.tape.trans h.tape,hg.output.trans h.output,cj_ h.size hg.size,fun k hk ht=>(hg.block k (by omega) (fun e=>(hr k e.symm).elim (by omega) ht)).trans (h.block k hk ht)⟩
theorem Kp.to_below (h:Kp n (fun _=>False) a w):Below n a w:=⟨h.os,h.tape,h.output,h.size,fun k hk=>h.block k hk id⟩
end
theorem aa_.kp {S T:Nat→Prop}{n:Nat}{w w':World}{v:Value}{ts:List Ty}(h:aa_ S w v ts)(k:Kp n T w w')(hS:∀ b,S b→b<n∧¬ T b):aa_ S w' v ts:=h.keep fun b hb=>k.block b (hS b hb).1 (hS b hb).2
def aJ_ (S:Nat→Prop)(w:World)(v:Value)(l:List ByteArray):Prop :=
 ∃ a c,v=.slice a l.length c∧l.length≤c∧l.length≤4500000000000∧(a=none→c=0)∧(l=[]∨∃ b off,a=some ⟨b,off,none⟩∧S b∧∀ j (h:j<l.length),w.cell? ⟨b,off+j,none⟩=some (.string l[j]))
theorem aJ_.keep {S:Nat→Prop}{A B:World}(h:∀ b,S b→B.heap[b]? = A.heap[b]?){v:Value}{l:List ByteArray}(hs:aJ_ S A v l):aJ_ S B v l:=by
 obtain⟨a,c,e,h1,h2,hn,h3⟩:=hs;refine⟨a,c,e,h1,h2,hn,h3.imp id ?_⟩;rintro ⟨b,off,e,hb,hc⟩;exact⟨b,off,e,hb,fun j hj=>(World.cell?_of_block (h b hb)).trans (hc j hj)⟩
theorem aJ_.mono {S S':Nat→Prop}(h:∀ b,S b→S' b){A:World}{v:Value}{l:List ByteArray}(hs:aJ_ S A v l):aJ_ S' A v l:=by
 obtain⟨a,c,e,h1,h2,hn,h3⟩:=hs;exact⟨a,c,e,h1,h2,hn,h3.imp id fun ⟨b,off,e,hb,hc⟩=>⟨b,off,e,h b hb,hc⟩⟩
theorem aJ_.kp {S T:Nat→Prop}{n:Nat}{w w':World}{v:Value}{l:List ByteArray}(h:aJ_ S w v l)(k:Kp n T w w')(hS:∀ b,S b→b<n∧¬ T b):aJ_ S w' v l:=h.keep fun b hb=>k.block b (hS b hb).1 (hS b hb).2
theorem aJ_.nil (S:Nat→Prop)(w:World):aJ_ S w (.slice none 0 0) []:=⟨none,0,rfl,Nat.zero_le _,by simp,fun _=>rfl,.inl rfl⟩
theorem aJ_.of_own {w:World}{lo:Nat}{v:Value}{l:List ByteArray}(h:w.ownsRow lo 9 1 v l.length (l.map Value.string))(hl:l.length≤4500000000000):aJ_ (fun b=>v.ownBlock=some b) w v l:=by
 rcases h.2 with ⟨rfl,h0⟩|⟨g,cap,cur,rfl,hb,hg,h1,h2,h3,h4⟩
 ·have:l=[]:=List.eq_nil_of_length_eq_zero h0
  subst this;exact .nil _ _
 ·refine⟨_,cap,rfl,h1,hl,by simp,.inr ⟨g,0,rfl,rfl,fun j hj=>?_⟩⟩
  have hc:=h.cells (g:=g) rfl j (.string l[j]) (by rw[List.getElem?_map,List.getElem?_eq_getElem hj];rfl);have hadd:∀ j,(⟨g,0,none⟩:Addr).add j=⟨g,j,none⟩:=fun j=>by unfold Addr.add;split<;>simp_all
  rw[hadd] at hc;rw[Nat.zero_add];exact hc
theorem jb_ (l:List ByteArray)(x:ByteArray):Lib.containsS l x=true↔x∈l:=Lib.containsS_iff l x
theorem bP_ {S:Nat→Prop}{w:World}{v:Value}{l:List ByteArray}(h:aJ_ S w v l)(x:ByteArray) :
  Calls Tryz.prog 74 #[v,.string x] w fun e w'=>e=.returned (.bool (Lib.containsS l x))∧w=w':=by
 obtain⟨a,c,rfl,hc,hl,_,h3⟩:=h
 by_cases h0:l=[]
 ·subst h0
  exact (Tryz.slices_Contains_string_empty a c x w).mono fun e w' ⟨he,hw⟩=>⟨he,hw.symm⟩
 ·rcases h3 with h3|⟨b,off,rfl,hb,hcells⟩
  ·exact absurd h3 h0
  ·have:=Tryz.slices_Contains_string b off l.length c l x w (aC_ _) (by omega) (fun j hj=>by rw[hcells j hj,List.getD_eq_getElem?_getD,List.getElem?_eq_getElem hj];rfl)
   rw[List.take_length] at this;exact this.mono fun e w' ⟨he,hw⟩=>⟨he,hw.symm⟩
def jl_ (w:World)(ns:ByteArray→Prop)(e:Ending)(w':World):Prop :=
 e=.returned (.map (some w.heap.size))∧Below w.heap.size w w'∧cn_ w' w.heap.size ns∧w'.heap.size=w.heap.size+1
theorem nu_ (b:Nat)(ns:ByteArray→Prop)(w:World)(h:cn_ w b ns):Calls Tryz.prog 84 #[.map (some b)] w (jl_ w ns):=by
 obtain⟨es,clock,hb,h1,h2⟩:=h;have hp:jl_ w ns (.returned (.map (some w.heap.size))) (w.alloc (.map es clock)) :=
  ⟨rfl,aw_ _ _,⟨es,clock,(MapKept.heap_alloc w _).1,h1,h2⟩,by simp⟩
 have HP:=hid hp;have hq:=fun w=>run_eql_map_nil_sl (P:=Tryz.prog) w 96 _ _ (some b) Tryz.underlying96;have hc:=hid (run_maps_clone_sl (P:=Tryz.prog) w 96 hb);have HB:=hid hb;clear h1 h2 hp hb;go_enter Tryz.func84,Tryz.ntmps84;go_wp2_with fail;rw[run_callFunc_extern Tryz.func116 (by kernel_rfl) (by kernel_rfl) (by kernel_rfl) (e:=Extern.MapsClone.clone) (by kernel_rfl),hc.out];simp only[Result.andThen];rw[Oper.upon_value];go_wp2_with fail;rw[run_typeAssert_map_sl _ 96 20 _ _ _ Tryz.underlying96];simp only[Result.andThen];rw[Oper.upon_value];go_wp2_with fail;go_ret;exact HP.out
end
end Go.Proofs.YtjecnionbjlncaaGreatDoor.Tp

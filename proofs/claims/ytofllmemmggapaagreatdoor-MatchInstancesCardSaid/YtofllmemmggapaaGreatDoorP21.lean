/- Texts laid together: TyPoly, TyNames, RfRow. -/
import Derived.Test.YtofllmemmggapaaGreatDoorP10
import Derived.Test.YtofllmemmggapaaGreatDoorP17
import Derived.Test.YtofllmemmggapaaGreatDoorP11
import Derived.BigQuiet
import Derived.Test.YtofllmemmggapaaGreatDoorP15
import Derived.Laws.AppendOwn
import Derived.Laws.AppendOwnNone
import Derived.Laws.OwnMore

namespace Go.Proofs.YtofllmemmggapaaGreatDoor.Tp
open Go.RowKit
def BoolPost (w:World)(b:Bool)(e:Ending)(w':World):Prop:=e=.returned (.bool b)∧Below w.heap.size w w'
def IdxPost (w:World)(b:Bool)(e:Ending)(w':World):Prop:=∃ k:Int,e=.returned (.int .i64 k)∧decide (0≤k)=b∧Below w.heap.size w w'
theorem any_take_succ (l:List Ty)(p:Ty→Bool)(k:Nat)(h:k<l.length):(l.take (k+1)).any p=((l.take k).any p || p l[k]):=by
 rw[List.take_add_one,List.getElem?_eq_getElem h,List.any_append];simp only[Option.toList_some,List.any_cons,List.any_nil,Bool.or_false]
set_option maxHeartbeats 1600000 in
theorem index_any (f:FuncId)(hf:∀ args w,(callFunc f args).run Tryz.prog w=.ok (.enter f args) w)(p:Ty→Bool)(ts:List Ty)(S:Nat→Prop)(a:Option Addr)(c:Nat)(w:World)(hA:ArgsAt S w (.slice a ts.length c) ts)(hS:∀ b,S b→b<w.heap.size)(hl:ts.length≤1099511627776)
  (hat:∀ (i:Nat) (hi:i<ts.length) (a:Option Addr) (c:Nat) (W:World),Below w.heap.size w W→ArgsAt S W (.slice a ts[i].args.length c) ts[i].args→Calls Tryz.prog f (#[tv ts[i] a c]++#[]) W (BoolPost W (p ts[i]))) :
  Calls Tryz.prog 66 #[.slice a ts.length c,.func (.func f) #[] #[]] w (IdxPost w (ts.any p)):=by
 have HA:=hid hA
 have HS:=hid hS
 have HAT:=hid hat
 clear hA hS hat
 go_enter Tryz.func66,Tryz.ntmps66
 go_wp2
 go_loopw [8] (fun iv wr=>∃ i:Nat,iv=.int .i64 i∧i≤ts.length∧(ts.take i).any p=false∧Below w.heap.size w wr) (fun iv _=>ts.length - (intOf iv).toNat)
 case atStart=>exact⟨0,rfl,Nat.zero_le _,rfl,Below.refl _ _⟩
 case round =>
  obtain⟨i,rfl,hil,hno,hB⟩:=hrel
  have NO:=hid hno
  have HB:=hid hB
  clear hno
  by_cases hi:i<ts.length
  ·have z0:(0:Int)≤(i:Int):=by omega
   have z1:(i:Int)<(ts.length:Int):=by omega
   obtain⟨b,off,a',c',rfl,hb,hf4,hs⟩:=HA.out.at_ hi
   obtain⟨f0,f1,f2,f3⟩:=hf4.keep (hB.block b (HS.out b hb))
   have CF:=hid (HAT.out i hi a' c' wr hB (hs.keep fun b hb=>hB.block b (HS.out b hb)))
   have AT:=hid (any_take_succ ts p i hi)
   unfold tv at *
   clear hB hf4 hs
   go_wp2_with fail
   refine CF.out.mono ?_
   rintro e W4 ⟨rfl,hb4⟩
   have B4':=hid (HB.out.trans (hb4.mono HB.out.size))
   clear hb4
   cases hp:p ts[i] with
   | true =>
    have hany:Hid (ts.any p=true):=hid (List.any_eq_true.2 ⟨_,List.getElem_mem hi,hp⟩)
    clear hp
    go_wp2
    go_ret
    exact⟨i,rfl,by rw[hany.out];exact decide_eq_true z0,B4'.out⟩
   | false =>
    have st:Hid ((ts.take (i+1)).any p=false):=hid (by rw[AT.out,NO.out,hp];rfl)
    clear hp
    go_wp2
    go_roundw
    case rel=>exact⟨i+1,by go_num,by omega,st.out,B4'.out⟩
    case measure=>simp[intOf];omega
  ·obtain rfl:i=ts.length:=by omega
   clear hB
   go_wp2
   go_ret
   refine⟨-1,rfl,?_,HB.out⟩
   have:=NO.out
   rw[List.take_length] at this
   rw[this];rfl
set_option maxHeartbeats 1600000 in
theorem containsF_any (f:FuncId)(hf:∀ args w,(callFunc f args).run Tryz.prog w=.ok (.enter f args) w)(p:Ty→Bool)(ts:List Ty)(S:Nat→Prop)(a:Option Addr)(c:Nat)(w:World)(hA:ArgsAt S w (.slice a ts.length c) ts)(hS:∀ b,S b→b<w.heap.size)(hl:ts.length≤1099511627776)
  (hat:∀ (i:Nat) (hi:i<ts.length) (a:Option Addr) (c:Nat) (W:World),Below w.heap.size w W→ArgsAt S W (.slice a ts[i].args.length c) ts[i].args→Calls Tryz.prog f (#[tv ts[i] a c]++#[]) W (BoolPost W (p ts[i]))) :
  Calls Tryz.prog 43 #[.slice a ts.length c,.func (.func f) #[] #[]] w (BoolPost w (ts.any p)):=by
 have CI:=hid (index_any f hf p ts S a c w hA hS hl hat)
 clear hA hS hat hf
 go_enter Tryz.func43,Tryz.ntmps43
 go_wp2_with fail
 refine CI.out.mono ?_
 rintro e w4 ⟨k,rfl,hk,hb4⟩
 have B4':=hid hb4
 have HK:=hid hk
 clear hb4 hk
 go_wp2
 go_ret
 exact⟨ret_bool HK.out,B4'.out⟩
theorem PolyEnters (args:Array Value)(w:World):(callFunc 21 args).run Tryz.prog w=.ok (.enter 21 args) w :=
 enters_of Tryz.func21 (by kernel_rfl) rfl args w
set_option maxHeartbeats 1600000 in
theorem poly_any:∀ (t:Ty) (S:Nat→Prop) (a:Option Addr) (c:Nat) (w:World),ArgsAt S w (.slice a t.args.length c) t.args→(∀ b,S b→b<w.heap.size)→t.size≤1099511627776 →
  Calls Tryz.prog 21 #[tv t a c] w (BoolPost w (polyT t)):=by
 intro t
 induction t using Ty.ind with
 | h t ih =>
  intro S a c w hA hS hs
  have hz:=(Below.refl w.heap.size w).alloc (Nat.le_refl _) (.cells #[.int .i64 t.kind,.string t.name,.int .i64 t.n,.slice a t.args.length c] 26)
  have b4:=B4.new w (.int .i64 t.kind) (.string t.name) (.int .i64 t.n) (.slice a t.args.length c)
  have c0:=b4.c0
  have c3:=b4.c3
  have hsz:∀ x∈t.args,x.size≤1099511627776:=fun x hx=>by have:=size_arg _ hx;rw[t.size_eq] at hs;omega
  have hll:t.args.length≤1099511627776:=by have:=length_le_sizeL t.args;rw[t.size_eq] at hs;omega
  have hpe:=polyT_eq t
  cases h5:(t.kind==5) with
  | true =>
   rw[h5,Bool.true_or] at hpe
   have PE:=hid hpe
   have HZ:=hid hz
   unfold tv at *
   clear hz b4 hA hS ih hpe hsz
   go_enter Tryz.func21,Tryz.ntmps21
   go_wp2
   go_ret
   exact⟨ret_bool PE.out.symm,HZ.out⟩
  | false =>
   rw[h5,Bool.false_or] at hpe
   have PE:=hid hpe
   have HZ:=hid hz
   have CI:=hid (containsF_any 21 PolyEnters polyT t.args S a c _ (hA.keep fun b hb=>hz.block b (hS b hb)) (fun b hb=>Nat.lt_of_lt_of_le (hS b hb) hz.size) hll
    fun i hi a' c' W hW hA'=>ih _ (List.getElem_mem hi) S a' c' W hA' (fun b hb=>Nat.lt_of_lt_of_le (Nat.lt_of_lt_of_le (hS b hb) hz.size) hW.size) (hsz _ (List.getElem_mem hi)))
   unfold tv at *
   clear hz b4 hA hS ih hpe hsz
   go_enter Tryz.func21,Tryz.ntmps21
   go_wp2_with fail
   refine CI.out.mono ?_
   rintro e w4 ⟨rfl,hb4⟩
   have B4':=hid (HZ.out.trans (hb4.mono HZ.out.size))
   clear hb4
   go_wp2
   go_ret
   exact⟨ret_bool PE.out.symm,B4'.out⟩
def NumsAt (S:Nat→Prop)(w:World)(v:Value)(l:List Int):Prop :=
 ∃ a c,v=.slice a l.length c∧l.length≤c∧l.length≤1099511627776∧(l=[]∨∃ b off,a=some ⟨b,off,none⟩∧S b∧∀ j (h:j<l.length),w.cell? ⟨b,off+j,none⟩=some (.int .i64 l[j]))
theorem NumsAt.keep {S:Nat→Prop}{A B:World}(h:∀ b,S b→B.heap[b]? = A.heap[b]?){v:Value}{l:List Int}(hs:NumsAt S A v l):NumsAt S B v l:=by
 obtain⟨a,c,e,h1,h2,h3⟩:=hs
 refine⟨a,c,e,h1,h2,h3.imp id ?_⟩
 rintro ⟨b,off,e,hb,hc⟩
 exact⟨b,off,e,hb,fun j hj=>(World.cell?_of_block (h b hb)).trans (hc j hj)⟩
theorem NumsAt.of_own {w:World}{lo:Nat}{v:Value}{l:List Int}(h:w.ownsRow lo 3 1 v l.length (l.map (Value.int .i64)))(hl:l.length≤1099511627776):NumsAt (fun b=>v.ownBlock=some b) w v l:=by
 rcases h.2 with ⟨rfl,h0⟩|⟨g,cap,cur,rfl,hb,hg,h1,h2,h3,h4⟩
 ·have:l=[]:=List.eq_nil_of_length_eq_zero h0
  subst this
  exact⟨none,0,rfl,Nat.zero_le _,by simp,.inl rfl⟩
 ·refine⟨_,cap,rfl,h1,hl,.inr ⟨g,0,rfl,rfl,fun j hj=>?_⟩⟩
  have hc:=h.cells (g:=g) rfl j (.int .i64 l[j]) (by rw[List.getElem?_map,List.getElem?_eq_getElem hj];rfl)
  have hadd:∀ j,(⟨g,0,none⟩:Addr).add j=⟨g,j,none⟩:=fun j=>by unfold Addr.add;split<;>simp_all
  rw[hadd] at hc
  rw[Nat.zero_add]
  exact hc
set_option maxHeartbeats 1600000 in
theorem has_any (S:Nat→Prop)(va:Value)(xs:List ByteArray)(x:ByteArray)(w:World)(hA:StrsAt S w va xs) :
  Calls Tryz.prog 24 #[va,.string x] w fun e w'=>e=.returned (.bool (hasN xs x))∧w=w':=by
 obtain⟨a,cap,rfl,hlen,hl1,_,hc⟩:=hA
 go_enter Tryz.func24,Tryz.ntmps24
 go_wp2
 go_loop [5] (fun i=>∃ k:Nat,k≤xs.length∧i=.int .i64 k∧x∉xs.take k) (fun i=>xs.length - (intOf i).toNat)
 case atStart=>exact⟨0,Nat.zero_le _,rfl,by simp⟩
 case round =>
  obtain⟨k,hk,rfl,hb⟩:=hrel
  have H:=hid hb;clear hb
  by_cases hlt:k<xs.length
  ·obtain⟨b,off,rfl,_,hcc⟩:=hc.resolve_left (by intro e;rw[e] at hlt;simp at hlt)
   have hcy:=hcc k hlt
   have z0:(0:Int)≤(k:Int):=by omega
   have z1:(k:Int)<(xs.length:Int):=by omega
   clear hcc hc
   by_cases hx:xs[k]=x
   ·have f1:=beqN_true hx
    have G:Hid (hasN xs x=true):=hid ((hasN_iff _ _).2 (by rw[← hx];exact List.getElem_mem hlt))
    clear hx
    go_wp2
    go_ret
    exact⟨ret_bool G.out.symm,rfl⟩
   ·have f1:=beqN_false hx
    have st:Hid (x∉xs.take (k+1)):=hid (by
     rw[List.take_add_one,List.getElem?_eq_getElem hlt]
     intro h
     rcases List.mem_append.1 h with h|h
     ·exact H.out h
     ·simp only[Option.toList_some,List.mem_singleton] at h;exact hx h.symm)
    clear hx
    go_wp2
    go_round
    case rel=>exact⟨k+1,by omega,by go_num,st.out⟩
    case measure=>simp[intOf];omega
  ·obtain rfl:k=xs.length:=by omega
   have G:Hid (hasN xs x=false):=hid ((hasN_false _ _).2 (by
    have:=H.out
    rwa [List.take_length] at this))
   go_wp2
   go_ret
   exact⟨ret_bool G.out.symm,rfl⟩
theorem addr_add0 (b off j:Nat):(⟨b,off,none⟩:Addr).add j=⟨b,off+j,none⟩:=by unfold Addr.add;split<;>simp_all
theorem own_base {w:World}{base base' size n:Nat}{e:TypeId}{v:Value}{xs:List Value}(h:w.ownsRow base e size v n xs)(hb:base'≤base):w.ownsRow base' e size v n xs:=by
 refine⟨h.1,h.2.imp id ?_⟩
 rintro ⟨g,cap,cur,k1,k2,k3⟩
 exact⟨g,cap,cur,k1,Nat.le_trans hb k2,k3⟩
theorem append_strs_g (ty:TypeId){wi wy:World}{lo:Nat}{S:Nat→Prop}{v1 v2:Value}{l1 l2:List ByteArray}(o1:wy.ownsRow lo 9 1 v1 l1.length (l1.map Value.string))(h2:StrsAt S wy v2 l2)
  (hb:Below wi.heap.size wi wy) (hlo:wi.heap.size≤lo) (hlo1:lo≤wy.heap.size) (hl1:l1.length≤1099511627776) {L:List ByteArray} (hL:l1++l2=L) :
  ∃ v' w',(Builtin.append_ #[22,22] ty #[v1,v2]).run Tryz.prog wy=.ok v' w'∧w'.ownsRow wi.heap.size 9 1 v' L.length (L.map Value.string)∧Below wi.heap.size wi w'∧wy.grownBy w' v1.ownBlock:=by
 subst hL
 obtain⟨i0,hi0,hz3,hz1,hz2⟩:=info_parts infoStr
 obtain⟨a,c,rfl,hc1,hl2,hn,hc⟩:=h2
 cases a with
 | none =>
  have hc0:=hn rfl
  subst hc0
  have e0:l2=[]:=List.eq_nil_of_length_eq_zero (by omega)
  subst e0
  refine⟨v1,wy,run_append_owned_none (P:=Tryz.prog) (w:=wy) lo 22 ty 9 i0 1 Tryz.underlying22 hi0 v1 l1.length (l1.map Value.string) o1,by rw[List.append_nil];exact own_base o1 hlo,hb,.refl _ _⟩
 | some p =>
  obtain⟨v',w',hr,ho,hgr,_⟩:=run_append_own (P:=Tryz.prog) wy lo 22 ty 9 i0 (.string ByteArray.empty) 1 16 Tryz.underlying22 hi0 hz3 hz1 hz2 rfl (by decide) v1 l1.length (l1.map Value.string) o1 p l2.length c (l2.map Value.string) (by simp) (fun j u hu=>by
   rw[List.getElem?_map] at hu
   cases hx:l2[j]? with
   | none=>rw[hx] at hu;cases hu
   | some x =>
    rw[hx] at hu
    simp only[Option.map_some,Option.some.injEq] at hu
    subst hu
    obtain⟨hj,hx⟩:=List.getElem?_eq_some_iff.1 hx
    obtain⟨b,off,e,_,hcc⟩:=hc.resolve_left (by intro e;rw[e] at hj;simp at hj)
    obtain rfl:=Option.some.inj e
    rw[addr_add0,hcc j hj,hx]) (fun u hu=>by obtain⟨x,_,rfl⟩:=List.mem_map.1 hu;rfl) (by unfold maxLen;omega) (by omega) hlo1
  refine⟨v',w',hr,?_,hb.grown hgr (by have:=hb.size;omega) (fun k e=>by have:=(o1.lt k e).1;omega),hgr⟩
  rw[List.length_append,List.map_append];exact own_base ho hlo
theorem append_strs (ty:TypeId){wi wy:World}{lo:Nat}{S:Nat→Prop}{v1 v2:Value}{l1 l2:List ByteArray}(o1:wy.ownsRow lo 9 1 v1 l1.length (l1.map Value.string))(h2:StrsAt S wy v2 l2)
  (hb:Below wi.heap.size wi wy) (hlo:wi.heap.size≤lo) (hlo1:lo≤wy.heap.size) (hl1:l1.length≤1099511627776) {L:List ByteArray} (hL:l1++l2=L) :
  ∃ v' w',(Builtin.append_ #[22,22] ty #[v1,v2]).run Tryz.prog wy=.ok v' w'∧w'.ownsRow wi.heap.size 9 1 v' L.length (L.map Value.string)∧Below wi.heap.size wi w' :=
 let ⟨v',w',h1,h2,h3,_⟩:=append_strs_g ty o1 h2 hb hlo hlo1 hl1 hL;⟨v',w',h1,h2,h3⟩
theorem append_nums_g (ty:TypeId){wi wy:World}{lo:Nat}{S:Nat→Prop}{v1 v2:Value}{l1 l2:List Int}(o1:wy.ownsRow lo 3 1 v1 l1.length (l1.map (Value.int .i64)))(h2:NumsAt S wy v2 l2)(hn:∀ c,v2=.slice none l2.length c→c=0)
  (hb:Below wi.heap.size wi wy) (hlo:wi.heap.size≤lo) (hlo1:lo≤wy.heap.size) (hl1:l1.length≤1099511627776) {L:List Int} (hL:l1++l2=L) :
  ∃ v' w',(Builtin.append_ #[63,63] ty #[v1,v2]).run Tryz.prog wy=.ok v' w'∧w'.ownsRow wi.heap.size 3 1 v' L.length (L.map (Value.int .i64))∧Below wi.heap.size wi w'∧wy.grownBy w' v1.ownBlock:=by
 subst hL
 obtain⟨i0,hi0,hz3,hz1,hz2⟩:=info_parts infoInt
 obtain⟨a,c,rfl,hc1,hl2,hc⟩:=h2
 cases a with
 | none =>
  have hc0:=hn c rfl
  subst hc0
  have e0:l2=[]:=List.eq_nil_of_length_eq_zero (by omega)
  subst e0
  refine⟨v1,wy,run_append_owned_none (P:=Tryz.prog) (w:=wy) lo 63 ty 3 i0 1 Tryz.underlying63 hi0 v1 l1.length (l1.map (Value.int .i64)) o1,by rw[List.append_nil];exact own_base o1 hlo,hb,.refl _ _⟩
 | some p =>
  obtain⟨v',w',hr,ho,hgr,_⟩:=run_append_own (P:=Tryz.prog) wy lo 63 ty 3 i0 (.int .i64 0) 1 8 Tryz.underlying63 hi0 hz3 hz1 hz2 rfl (by decide) v1 l1.length (l1.map (Value.int .i64)) o1 p l2.length c (l2.map (Value.int .i64)) (by simp) (fun j u hu=>by
   rw[List.getElem?_map] at hu
   cases hx:l2[j]? with
   | none=>rw[hx] at hu;cases hu
   | some x =>
    rw[hx] at hu
    simp only[Option.map_some,Option.some.injEq] at hu
    subst hu
    obtain⟨hj,hx⟩:=List.getElem?_eq_some_iff.1 hx
    obtain⟨b,off,e,_,hcc⟩:=hc.resolve_left (by intro e;rw[e] at hj;simp at hj)
    obtain rfl:=Option.some.inj e
    rw[addr_add0,hcc j hj,hx]) (fun u hu=>by obtain⟨x,_,rfl⟩:=List.mem_map.1 hu;rfl) (by unfold maxLen;omega) (by omega) hlo1
  refine⟨v',w',hr,?_,hb.grown hgr (by have:=hb.size;omega) (fun k e=>by have:=(o1.lt k e).1;omega),hgr⟩
  rw[List.length_append,List.map_append];exact own_base ho hlo
theorem append_nums (ty:TypeId){wi wy:World}{lo:Nat}{S:Nat→Prop}{v1 v2:Value}{l1 l2:List Int}(o1:wy.ownsRow lo 3 1 v1 l1.length (l1.map (Value.int .i64)))(h2:NumsAt S wy v2 l2)(hn:∀ c,v2=.slice none l2.length c→c=0)
  (hb:Below wi.heap.size wi wy) (hlo:wi.heap.size≤lo) (hlo1:lo≤wy.heap.size) (hl1:l1.length≤1099511627776) {L:List Int} (hL:l1++l2=L) :
  ∃ v' w',(Builtin.append_ #[63,63] ty #[v1,v2]).run Tryz.prog wy=.ok v' w'∧w'.ownsRow wi.heap.size 3 1 v' L.length (L.map (Value.int .i64))∧Below wi.heap.size wi w' :=
 let ⟨v',w',h1,h2,h3,_⟩:=append_nums_g ty o1 h2 hn hb hlo hlo1 hl1 hL;⟨v',w',h1,h2,h3⟩
theorem step_append_ok {P:Program}{ops:Array Oper}{o:Oper}{a:Act}{w:World}{K:Act→World→Prop}{Q:Exit→Act→World→Prop}{E:Prop}(hgd:o.guard=none)(s x:Operand)(t:TypeId)
  (ho:o.op=.call { callee:=.builtin .append,args:=#[s,x],argTypes:=#[t,t] }) {v vx:Value} (hs:a.eval s=v) (hx:a.eval x=vx) {R:Value→World→Prop}
  (hrun:∃ v' w',(Builtin.append_ #[t,t] o.type #[v,vx]).run P w=.ok v' w'∧R v' w') (h:∀ v' w',R v' w'→K (a.put o.dst v') w') :
  if Region.wanted o (yielded ops a.tmps)=true then Oper.wp P o a w K Q else E:=by
 have hw:Region.wanted o (yielded ops a.tmps)=true:=by simp[Region.wanted,hgd]
 rw[if_pos hw]
 obtain⟨v',w',hr,hR⟩:=hrun
 unfold Oper.wp execOp
 simp only[ho,resolve,invoke,builtin,Sem.run_bind,Sem.run_pure,Result.andThen_ok,List.map_toArray,List.map_cons,List.map_nil,hs,hx,hr]
 exact h v' w' hR
theorem strs_one {w:World}{b:Nat}{x:ByteArray}{t:TypeId}{S:Nat→Prop}(h:w.heap[b]? = some (.cells #[.string x] t (0,0)))(hS:S b):StrsAt S w (.slice (some ⟨b,0,none⟩) 1 1) [x] :=
 ⟨_,1,rfl,by simp,by simp,(fun e=>by cases e),.inr ⟨b,0,rfl,hS,fun j hj=>by
  have:j=0:=by simp at hj;omega
  subst this
  exact cell_of_row w b 0 _ _ _ h⟩⟩
theorem nums_one {w:World}{b:Nat}{x:Int}{t:TypeId}{S:Nat→Prop}(h:w.heap[b]? = some (.cells #[.int .i64 x] t (0,0)))(hS:S b):NumsAt S w (.slice (some ⟨b,0,none⟩) 1 1) [x] :=
 ⟨_,1,rfl,by simp,by simp,.inr ⟨b,0,rfl,hS,fun j hj=>by
  have:j=0:=by simp at hj;omega
  subst this
  exact cell_of_row w b 0 _ _ _ h⟩⟩
theorem own_none {w:World}{b:Nat}{t:TypeId}{lo:Nat}(h:w.heap[b]? = some (.cells #[] t (0,0)))(hb:lo≤b):w.ownsRow lo t 1 (.slice (some ⟨b,0,none⟩) 0 0) 0 [] :=
 ⟨by simp,.inr ⟨b,0,#[],rfl,hb,h,Nat.le_refl _,by unfold maxLen;omega,by simp,by simp⟩⟩
def StrsLow (w:World)(v:Value)(l:List ByteArray):Prop:=StrsAt (fun b=>b<w.heap.size) w v l
theorem StrsLow.low {w w':World}{v:Value}{l:List ByteArray}(h:StrsLow w v l)(hb:Below w.heap.size w w'):StrsLow w' v l :=
 (StrsAt.keep (fun b hS=>hb.block b hS) h).mono fun _ hS=>Nat.lt_of_lt_of_le hS hb.size
theorem StrsLow.own {w:World}{lo:Nat}{v:Value}{l:List ByteArray}(h:w.ownsRow lo 9 1 v l.length (l.map Value.string))(hl:l.length≤1099511627776):StrsLow w v l :=
 (StrsAt.of_own h hl).mono fun b hb=>(h.lt b hb).2
def NumsLow (w:World)(v:Value)(l:List Int):Prop:=NumsAt (fun b=>b<w.heap.size) w v l∧∀ c,v=.slice none l.length c→c=0
theorem NumsLow.low {w w':World}{v:Value}{l:List Int}(h:NumsLow w v l)(hb:Below w.heap.size w w'):NumsLow w' v l:=by
 refine⟨?_,h.2⟩
 obtain⟨a,c,e,h1,h2,h3⟩:=NumsAt.keep (fun b hS=>hb.block b hS) h.1
 exact⟨a,c,e,h1,h2,h3.imp id fun ⟨b,off,e,hS,hc⟩=>⟨b,off,e,Nat.lt_of_lt_of_le hS hb.size,hc⟩⟩
theorem NumsLow.own {w:World}{lo:Nat}{v:Value}{l:List Int}(h:w.ownsRow lo 3 1 v l.length (l.map (Value.int .i64)))(hl:l.length≤1099511627776):NumsLow w v l:=by
 constructor
 ·obtain⟨a,c,e,h1,h2,h3⟩:=NumsAt.of_own h hl
  exact⟨a,c,e,h1,h2,h3.imp id fun ⟨b,off,e,hS,hc⟩=>⟨b,off,e,(h.lt b hS).2,hc⟩⟩
 ·intro c e
  rcases h.2 with ⟨rfl,h0⟩|⟨g,cap,cur,rfl,_⟩
  ·injection e with _ _ e;exact e.symm
  ·simp at e
end Go.Proofs.YtofllmemmggapaaGreatDoor.Tp

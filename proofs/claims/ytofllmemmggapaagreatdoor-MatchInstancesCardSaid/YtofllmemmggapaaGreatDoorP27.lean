/- Texts laid together: TyLawQ, TyAwkP, TyAwake, TyLawW, RfMetas. -/
import Derived.Test.YtofllmemmggapaaGreatDoorP17
import Derived.Test.YtofllmemmggapaaGreatDoorP22
import Derived.KernelRfl
import Derived.Test.YtofllmemmggapaaGreatDoorP24
import Derived.Deep.RegionHeld3
import Derived.Deep.CutRange
import Derived.Test.YtofllmemmggapaaGreatDoorP26
import Derived.Deep.QuietTactic
import Derived.BigQuiet

namespace Go.Proofs.YtofllmemmggapaaGreatDoor.Tp
open Lx
theorem parse_er {l:List UInt8}{er:Nat}(h:parseT l=.error er):er≠0:=by
 rw[parseT] at h
 split at h
 ·next hn=>injection h with h;rw[← h];exact hn
 ·split at h
  ·injection h with h;omega
  ·split at h
   ·injection h with h;omega
   ·split at h
    ·injection h with h;omega
    ·cases h
end Go.Proofs.YtofllmemmggapaaGreatDoor.Tp

namespace Go.Proofs.YtofllmemmggapaaGreatDoor.Tp
open Go.RowKit
def BadPost (w:World)(er:Nat)(e:Ending)(w':World):Prop :=
 e=.returned (.tuple #[.agg #[.int .i64 0,.string ⟨#[]⟩,.int .i64 0,.slice none 0 0],.int .i64 er])∧Below w.heap.size w w'∧Below w.heap.size w (w'.alloc (.cells #[.int .i64 0,.string ⟨#[]⟩,.int .i64 0,.slice none 0 0] 26))
theorem parse_bad (w:World)(s:ByteArray)(hs:s.size≤maxLen){er:Nat}(h:parseT s.data.toList=.error er):Calls Tryz.prog 27 #[.string s] w (BadPost w er):=by
 have C:=parse_any w s hs
 rw[h] at C
 refine C.mono ?_
 rintro e w' ⟨hb,rfl⟩
 exact⟨rfl,hb,hb.trans (((Below.refl _ _).alloc (Nat.le_refl _) _).mono hb.size)⟩
theorem small_of {t:Ty}(h:Mk t)(hs:t.size≤1073741824):Small t:=⟨mk_good t h,hs⟩
theorem small_parse {s:List UInt8}{t:Ty}(h:parseT s=.ok t):Small t:=by
 have:=parse_made h
 exact small_of this.1 (by omega)
theorem drawn_below {B:Nat}{a w:World}(h:Below B a w)(n:Nat):Below B a (w.drewN n):=h.trans ⟨rfl,rfl,rfl,Nat.le_refl _,fun _ _=>rfl⟩
theorem metaAcc_len:∀ (t:Ty) (out:List Int) (ns:List ByteArray),(walkF metaStep t out ns).length≤out.length+t.size:=by
 intro t
 induction t using Ty.ind with
 | h t ih =>
  intro out ns
  rw[walkF_eq,t.size_eq]
  have h1:(metaStep out t ns).length≤out.length+1:=by unfold metaStep;split<;>simp
  have:∀ (l:List Ty) (out:List Int) (ns:List ByteArray),(∀ a∈l,∀ (out:List Int) (ns:List ByteArray),(walkF metaStep a out ns).length≤out.length+a.size)→(walkL metaStep l out ns).length≤out.length+sizeL l:=by
   intro l
   induction l with
   | nil=>intro out ns _;simp[walkL,sizeL]
   | cons a l ihl =>
    intro out ns h
    rw[walkL,sizeL]
    have:=ihl (walkF metaStep a out ns) ns fun b hb=>h b (by simp[hb])
    have:=h a (by simp) out ns
    omega
  have:=this t.args (metaStep out t ns) (if t.kind=5 then t.name :: ns else ns) ih
  omega
theorem meta_ns:∀ (t:Ty) (out:List Int) (ns ns':List ByteArray),walkF metaStep t out ns=walkF metaStep t out ns':=by
 intro t
 induction t using Ty.ind with
 | h t ih =>
  intro out ns ns'
  rw[walkF_eq,walkF_eq]
  have:∀ (l:List Ty) (out:List Int) (ns ns':List ByteArray),(∀ a∈l,∀ (out:List Int) (ns ns':List ByteArray),walkF metaStep a out ns=walkF metaStep a out ns')→walkL metaStep l out ns=walkL metaStep l out ns':=by
   intro l
   induction l with
   | nil=>intro out ns ns' _;rfl
   | cons a l ihl=>intro out ns ns' h;rw[walkL,walkL,h a (by simp) out ns ns'];exact ihl _ _ _ fun b hb=>h b (by simp[hb])
  exact this t.args _ _ _ ih
theorem walkM_take (ts:List Ty)(i:Nat)(h:i<ts.length)(g:List Int):walkL metaStep (ts.take (i+1)) g []=walkF metaStep ts[i] (walkL metaStep (ts.take i) g []) []:=walkL_take metaStep ts i h g []
theorem walkM_len (l:List Ty)(out:List Int):(walkL metaStep l out []).length≤out.length+sizeL l:=by
 induction l generalizing out with
 | nil=>simp[walkL]
 | cons t l ih=>rw[walkL,sizeL];have:=ih (walkF metaStep t out []);have:=metaAcc_len t out [];omega
theorem walkM_ns (l:List Ty)(out:List Int)(ns:List ByteArray):walkL metaStep l out ns=walkL metaStep l out []:=by
 induction l generalizing out with
 | nil=>rfl
 | cons t l ih=>rw[walkL,walkL,meta_ns t out ns []];exact ih _
def MetasPostR (w:World)(l:List Int)(e:Ending)(w':World):Prop:=∃ v,e=.returned v∧NumsLow w' v l∧Below w.heap.size w w'
def RMetasSaid (t:Ty):Prop:=∀ (S:Nat→Prop) (a:Option Addr) (c:Nat) (w:World) (vo:Value) (out:List Int),ArgsAt S w (.slice a t.args.length c) t.args→(∀ b,S b→b<w.heap.size)→Wf t→NumsLow w vo out →
  out.length+t.size≤1000000000000→Calls Tryz.prog 56 #[tv t a c,vo] w (MetasPostR w (walkF metaStep t out []))
theorem R4.drawn {w:World}{b:Nat}{u0 u1 u2 u3:Value}(h:R4 w b u0 u1 u2 u3)(n:Nat):R4 (w.drewN n) b u0 u1 u2 u3:=h.low (drawn_below (Below.refl _ _) n)
theorem any_none {l:List Int}{k:Nat}(h:k<l.length){x:Int}(h1:x∉l.take k)(h2:l[k]≠x):x∉l.take (k+1):=by
 rw[List.take_add_one,List.getElem?_eq_getElem h]
 intro h'
 rcases List.mem_append.1 h' with h'|h'
 ·exact h1 h'
 ·simp only[Option.toList_some,List.mem_singleton] at h';exact h2 h'.symm
set_option maxRecDepth 100000 in
set_option maxHeartbeats 1600000 in
theorem rmetas_meta (t:Ty)(hk:t.kind=2)(hta:t.args=[]):RMetasSaid t:=by
 intro S a c w vo out hA hS hw ho hlo
 obtain⟨⟨ao,co,rfl,hc1,hl1,hcells⟩,hnil⟩:=id ho
 have hz:Below w.heap.size w (w.alloc (.cells #[.int .i64 t.kind,.string t.name,.int .i64 t.n,.slice a t.args.length c] 29)):=(Below.refl w.heap.size w).alloc (Nat.le_refl _) (.cells #[.int .i64 t.kind,.string t.name,.int .i64 t.n,.slice a t.args.length c] 29)
 have k4:=R4.new w (.int .i64 t.kind) (.string t.name) (.int .i64 t.n) (.slice a t.args.length c)
 have E:walkF metaStep t out []=if out.contains t.n then out else out++[t.n]:=by
  rw[walkF_eq,hta,walkL];unfold metaStep;rw[hk];cases out.contains t.n<;>rfl
 have HOW:=hid (ho.low hz)
 have HCC:Hid (out=[]∨∃ b off,ao=some ⟨b,off,none⟩∧∀ j (h:j<out.length),(w.alloc (.cells #[.int .i64 t.kind,.string t.name,.int .i64 t.n,.slice a t.args.length c] 29)).cell? ⟨b,off+j,none⟩=some (.int .i64 out[j])):=hid (hcells.imp id fun ⟨b,off,e,hb,hcc⟩=>⟨b,off,e,fun j hj=>(hz.cell (p:=⟨b,off+j,none⟩) hb).trans (hcc j hj)⟩)
 have e1:(t.kind==2)=true:=by rw[hk];rfl
 have c0:=k4.c0
 have c2:=k4.c2
 have K4:=hid k4
 have HZ:=hid hz
 have EH:=hid E
 have hl2:out.length≤1099511627776:=by omega
 have hl3:(out++[t.n]).length≤1099511627776:=by simp;omega
 clear hA hS hw hcells hnil hc1 hl1 ho hz k4 hk hta hlo E
 unfold tv
 generalize t.args.length=n at *
 go_enter Tryz.func56,Tryz.ntmps56
 go_wp2
 generalize w.alloc (.cells #[.int .i64 t.kind,.string t.name,.int .i64 t.n,.slice a n c] 29)=W0 at *
 go_loopw [5] (fun iv wr=>∃ k:Nat,iv=.int .i64 k∧k≤out.length∧t.n∉out.take k∧∃ m,wr=W0.drewN m) (fun iv _=>out.length - (intOf iv).toNat)
 case atStart=>exact⟨0,rfl,Nat.zero_le _,by simp,0,rfl⟩
 case round =>
  obtain⟨k,rfl,hkl,hno,m,rfl⟩:=hrel
  have NO:=hid hno
  clear hno
  by_cases hlt:k<out.length
  ·obtain⟨b,off,rfl,hcc⟩:=HCC.out.resolve_left (by intro e;rw[e] at hlt;simp at hlt)
   have hcy:=hcc k hlt
   have z0:(0:Int)≤(k:Int):=by omega
   have z1:(k:Int)<(out.length:Int):=by omega
   clear hcc
   by_cases hx:out[k]=t.n
   ·have f1:(out[k]==t.n)=true:=by rw[hx];simp
    have EO:Hid (walkF metaStep t out []=out):=hid (by rw[EH.out,if_pos (by rw[List.contains_iff_mem,← hx];exact List.getElem_mem hlt)])
    clear hx
    go_wp2
    go_quiet (fail)
    go_wp2
    go_ret
    exact⟨_,rfl,by rw[EO.out];exact HOW.out.low (drawn_below (drawn_below (Below.refl _ _) _) _),drawn_below (drawn_below HZ.out _) _⟩
   ·have f1:(out[k]==t.n)=false:=by rw[beq_eq_false_iff_ne];exact hx
    have ST:=hid (any_none hlt NO.out hx)
    clear hx
    go_wp2
    go_quiet (fail)
    go_wp2
    go_roundw
    case rel=>exact⟨k+1,by go_num,by omega,ST.out,_,rfl⟩
    case measure=>simp[intOf];omega
  ·obtain rfl:k=out.length:=by omega
   have EO:Hid (walkF metaStep t out []=out++[t.n]):=hid (by rw[EH.out,if_neg (by rw[List.contains_iff_mem];have:=NO.out;rwa [List.take_length] at this)])
   have HZ1:=hid (drawn_below HZ.out m)
   have K41:=hid (K4.out.drawn m)
   have HO1:=hid (HOW.out.low (drawn_below (Below.refl _ _) m))
   have d2:=K41.out.c2
   clear c0 c2 NO HCC
   generalize W0.drewN m=W1 at *
   clear HOW K4 HZ
   go_wp2
   have PA:=hid (push_na 63 63 (W1) HO1.out hl2 t.n)
   have PB:=hid (push_nb 63 63 (W1) HO1.out hl2 t.n)
   have PC:=hid (push_nc 63 63 (W1) HO1.out hl2 t.n)
   go_region_held3 (fun w'=>w'.cell? ⟨w.heap.size,2,none⟩=some (.int .i64 t.n))
    (first|(with_reducible exact (K41.out.low HX2.out).c2)|(with_reducible exact (K41.out.low HX1.out).c2)|go_keep)
    (first
     | ((with_reducible show (if Region.wanted _ _=true then Oper.wp _ _ _ ((W1).alloc (.cells #[] 3)).drew _ _ else _));refine step_append_ok (by rfl) _ _ _ (by rfl) (by rfl) (by rfl) PA.out ?_;rintro v1 w1 ⟨hx1,hA2⟩;have HX1:=hid hx1;have A2:=hid hA2;have q1:=(K41.out.low hx1).c2;clear hx1 hA2)
     | ((with_reducible show (if Region.wanted _ _=true then Oper.wp _ _ _ (((W1).alloc (.cells #[] 3)).alloc (.cells #[.int .i64 t.n] 3)).drew _ _ else _));refine step_append_ok (by rfl) _ _ _ (by rfl) (by rfl) (by rfl) PB.out ?_;rintro v1 w1 ⟨hx1,hA2⟩;have HX1:=hid hx1;have A2:=hid hA2;have q1:=(K41.out.low hx1).c2;clear hx1 hA2)
     | ((with_reducible show (if Region.wanted _ _=true then Oper.wp _ _ _ (((W1).alloc (.cells #[.int .i64 t.n] 3)).alloc (.cells #[] 3)).drew _ _ else _));refine step_append_ok (by rfl) _ _ _ (by rfl) (by rfl) (by rfl) PC.out ?_;rintro v1 w1 ⟨hx1,hA2⟩;have HX1:=hid hx1;have A2:=hid hA2;have q1:=(K41.out.low hx1).c2;clear hx1 hA2)
     | (refine step_append_ok (by rfl) _ _ _ (by rfl) (by rfl) (by rfl) A2.out ?_;rintro v2 w2 ⟨ho2,hx2⟩;have HO2:=hid ho2;have HX2:=hid hx2;clear ho2 hx2))
   all_goals
    go_wp2
    go_ret
    exact⟨_,rfl,by rw[EO.out];exact .own HO2.out hl3,HZ1.out.trans (HX2.out.mono HZ1.out.size)⟩
set_option maxRecDepth 100000 in
set_option maxHeartbeats 3200000 in
theorem rmetas_node (t:Ty)(hk:t.kind≠2)(ih:∀ u∈t.args,RMetasSaid u):RMetasSaid t:=by
 intro S a c w vo out hA hS hw ho hlo
 have hz:Below w.heap.size w (w.alloc (.cells #[.int .i64 t.kind,.string t.name,.int .i64 t.n,.slice a t.args.length c] 29)):=(Below.refl w.heap.size w).alloc (Nat.le_refl _) (.cells #[.int .i64 t.kind,.string t.name,.int .i64 t.n,.slice a t.args.length c] 29)
 have k4:=R4.new w (.int .i64 t.kind) (.string t.name) (.int .i64 t.n) (.slice a t.args.length c)
 have hl:t.args.length≤9223372036854775807:=by
  obtain⟨_,_,_,h⟩:=hA.form
  exact h
 have hst:metaStep out t []=out:=by
  unfold metaStep
  rw[show (t.kind==2)=false from by rw[beq_eq_false_iff_ne];exact hk];rfl
 have E:=walkF_eq metaStep t out []
 rw[hst,walkM_ns] at E
 have EQ:=hid E
 have e1:(t.kind==2)=false:=by rw[beq_eq_false_iff_ne];exact hk
 have SE:Hid (sizeL t.args+1+out.length≤1000000000000):=hid (by have:=t.size_eq;omega)
 have IH:=hid ih
 have AH:=hid hA
 have HN:=hid hS
 have HW:=hid ((wf_iff t).1 hw).2
 have HOW:=hid (ho.low hz)
 have c0:=k4.c0
 have K4:=hid k4
 have HZ:=hid hz
 clear hA hS hw ho hz k4 ih hk hst hlo E
 unfold tv
 go_enter Tryz.func56,Tryz.ntmps56
 go_wp2
 clear c0
 go_loopw [1,6] (fun ov iv wr=>∃ i:Nat,iv=.int .i64 i∧i≤t.args.length∧NumsLow wr ov (walkL metaStep (t.args.take i) out [])∧Below (w.alloc (.cells #[.int .i64 t.kind,.string t.name,.int .i64 t.n,.slice a t.args.length c] 29)).heap.size (w.alloc (.cells #[.int .i64 t.kind,.string t.name,.int .i64 t.n,.slice a t.args.length c] 29)) wr) (fun _ iv _=>t.args.length - (intOf iv).toNat)
 case atStart=>exact⟨0,rfl,Nat.zero_le _,by simpa [walkL] using HOW.out,Below.refl _ _⟩
 case round =>
  obtain⟨i,rfl,hil,hO,hB⟩:=hrel
  have z0:(0:Int)≤(i:Int):=by omega
  have hBw:=HZ.out.trans (hB.mono HZ.out.size)
  have k3:=(K4.out.low hB).c3
  have BW:=hid hBw
  have BH:=hid hB
  by_cases hi:i<t.args.length
  ·have z1:(i:Int)<(t.args.length:Int):=by omega
   obtain⟨b,off,a',cap',rfl,hb,hf,hs⟩:=AH.out.at_ hi
   obtain⟨f0,f1,f2,f3⟩:=hf.keep (hBw.block b (HN.out b hb))
   have hm:=List.getElem_mem hi
   have CH:=hid (IH.out _ hm S a' cap' wr _ _ (hs.keep fun b hS=>hBw.block b (HN.out b hS)) (fun b hS=>Nat.lt_of_lt_of_le (HN.out b hS) hBw.size) (HW.out _ hm) hO (by have:=walkM_len (t.args.take i) out;have h1:=sizeL_take t.args i hi;have h2:=sizeL_take_le t.args (i+1);have:=SE.out;omega))
   have ST:=hid (walkM_take t.args i hi out)
   unfold tv at CH
   clear hf hs hB hBw hm hb hO
   generalize t.args[i]=x at *
   go_wp2_with fail
   refine CH.out.mono ?_
   rintro e w4 ⟨v4,rfl,h4,B4⟩
   have B5:=hid (BH.out.trans (B4.mono BH.out.size))
   have H4:=hid h4
   clear B4 h4
   go_wp2
   go_roundw
   case rel=>exact⟨i+1,by go_num,by omega,by rw[ST.out];exact H4.out,B5.out⟩
   case measure=>simp[intOf];omega
  ·obtain rfl:i=t.args.length:=by omega
   have HO5:=hid hO
   clear hB hBw hO
   go_wp2
   go_ret
   exact⟨_,rfl,by rw[EQ.out];have:=HO5.out;rwa [List.take_length] at this,BW.out⟩
theorem rmetas_any:∀ t:Ty,RMetasSaid t:=by
 intro t
 induction t using Ty.ind with
 | h t ih =>
  intro S a c w vo out hA hS hw
  by_cases h1:t.kind=2
  ·have hta:t.args=[]:=by rcases ((wf_iff t).1 hw).1 with h|h|h|h|h<;>first|omega|exact h.2|exact h.2.1
   exact rmetas_meta t h1 hta S a c w vo out hA hS hw
  ·exact rmetas_node t h1 ih S a c w vo out hA hS hw
theorem numsLow_nil (w:World):NumsLow w (.slice none 0 0) []:=⟨⟨none,0,rfl,by simp,by simp,.inl rfl⟩,fun c e=>by injection e with _ _ e;exact e.symm⟩
set_option maxHeartbeats 800000 in
theorem rMetas_any (t:Ty)(S:Nat→Prop)(a:Option Addr)(c:Nat)(w:World)(hA:ArgsAt S w (.slice a t.args.length c) t.args)(hS:∀ b,S b→b<w.heap.size)(hw:Wf t)(hs:t.size≤1000000000000) :
  Calls Tryz.prog 29 #[tv t a c] w (MetasPostR w (metasT t)):=by
 have hz:Below w.heap.size w (w.alloc (.cells #[.int .i64 t.kind,.string t.name,.int .i64 t.n,.slice a t.args.length c] 29)):=(Below.refl w.heap.size w).alloc (Nat.le_refl _) (.cells #[.int .i64 t.kind,.string t.name,.int .i64 t.n,.slice a t.args.length c] 29)
 have k4:=R4.new w (.int .i64 t.kind) (.string t.name) (.int .i64 t.n) (.slice a t.args.length c)
 have C:=hid (rmetas_any t S a c (w.alloc (.cells #[.int .i64 t.kind,.string t.name,.int .i64 t.n,.slice a t.args.length c] 29)) (.slice none 0 0) [] (hA.keep fun b hb=>hz.block b (hS b hb)) (fun b hb=>Nat.lt_of_lt_of_le (hS b hb) hz.size) hw (numsLow_nil _) (by simpa using hs))
 have HZ:=hid hz
 have c0:=k4.c0
 have c1:=k4.c1
 have c2:=k4.c2
 have c3:=k4.c3
 clear hA hS hw hz k4
 unfold tv at C ⊢
 go_enter Tryz.func29,Tryz.ntmps29
 go_wp2_with fail
 refine C.out.mono ?_
 rintro e w1 ⟨v,rfl,h1,hB⟩
 have H1:=hid h1
 have HB:=hid (HZ.out.trans (hB.mono HZ.out.size))
 clear h1 hB
 go_wp2
 go_ret
 exact⟨v,rfl,H1.out,HB.out⟩
end Go.Proofs.YtofllmemmggapaaGreatDoor.Tp

/- Texts laid together: RfPush, RfFree. -/
import Derived.Test.YtofllmemmggapaaGreatDoorP21
import Derived.Test.YtofllmemmggapaaGreatDoorP09
import Derived.Deep.RegionHeld3

namespace Go.Proofs.YtofllmemmggapaaGreatDoor.Tp
open Go.RowKit
def Pusheds (W:World)(l:List ByteArray)(v:Value)(w':World):Prop:=w'.ownsRow W.heap.size 9 1 v l.length (l.map (Value.string))∧Below W.heap.size W w'
theorem pushed_s (ty:TypeId){W w1:World}{v1:Value}{l:List ByteArray}{b:Nat}(x:ByteArray)(o1:w1.ownsRow W.heap.size 9 1 v1 l.length (l.map (Value.string)))(hB:Below W.heap.size W w1)(h2:w1.heap[b]? = some (.cells #[Value.string x] 9 (0,0)))(hl:l.length≤1099511627776) :
  ∃ v2 w2,(Builtin.append_ #[22,22] ty #[v1,.slice (some ⟨b,0,none⟩) 1 1]).run Tryz.prog w1=.ok v2 w2∧Pusheds W (l++[x]) v2 w2 :=
 append_strs (wi:=W) (wy:=w1) (lo:=W.heap.size) (S:=fun _=>True) ty o1 (strs_one h2 True.intro) hB (Nat.le_refl _) hB.size hl rfl
theorem push_sa (ty1 ty2:TypeId)(W:World){v:Value}{l:List ByteArray}(h:StrsLow W v l)(hl:l.length≤1099511627776)(x:ByteArray) :
  ∃ v1 w1,(Builtin.append_ #[22,22] ty1 #[.slice (some ⟨W.heap.size,0,none⟩) 0 0,v]).run Tryz.prog (W.alloc (.cells #[] 9)).drew=.ok v1 w1∧Below W.heap.size W w1 ∧
   ∃ v2 w2,(Builtin.append_ #[22,22] ty2 #[v1,.slice (some ⟨w1.heap.size,0,none⟩) 1 1]).run Tryz.prog (w1.alloc (.cells #[Value.string x] 9))=.ok v2 w2∧Pusheds W (l++[x]) v2 w2:=by
 have hb:Below W.heap.size W (W.alloc (.cells #[] 9)).drew:=((Below.refl _ _).alloc (Nat.le_refl _) _).drew
 have h2:=h.low hb
 obtain⟨v1,w1,hr,o1,hB1⟩:=append_strs (wi:=W) (wy:=(W.alloc (.cells #[] 9)).drew) (lo:=W.heap.size) (l1:=[]) ty1 (own_none (heap_alloc_new W (.cells #[] 9)) (Nat.le_refl _)) h2 hb (Nat.le_refl _) hb.size (by simp) (List.nil_append l)
 exact⟨v1,w1,hr,hB1,pushed_s ty2 x (o1.alloc _) (hB1.alloc hB1.size _) (heap_alloc_new w1 _) hl⟩
theorem push_sb (ty1 ty2:TypeId)(W:World){v:Value}{l:List ByteArray}(h:StrsLow W v l)(hl:l.length≤1099511627776)(x:ByteArray) :
  ∃ v1 w1,(Builtin.append_ #[22,22] ty1 #[.slice (some ⟨W.heap.size,0,none⟩) 0 0,v]).run Tryz.prog ((W.alloc (.cells #[] 9)).alloc (.cells #[Value.string x] 9)).drew=.ok v1 w1∧Below W.heap.size W w1 ∧
   ∃ v2 w2,(Builtin.append_ #[22,22] ty2 #[v1,.slice (some ⟨W.heap.size+1,0,none⟩) 1 1]).run Tryz.prog w1=.ok v2 w2∧Pusheds W (l++[x]) v2 w2:=by
 have hb0:Below W.heap.size W (W.alloc (.cells #[] 9)):=(Below.refl _ _).alloc (Nat.le_refl _) _
 have hb:Below W.heap.size W ((W.alloc (.cells #[] 9)).alloc (.cells #[Value.string x] 9)).drew:=(hb0.alloc hb0.size _).drew
 have h2:=h.low hb
 have hn:((W.alloc (.cells #[] 9)).alloc (.cells #[Value.string x] 9)).heap[W.heap.size+1]? = some (.cells #[Value.string x] 9 (0,0)):=by
  have:=heap_alloc_new (W.alloc (.cells #[] 9)) (.cells #[Value.string x] 9);simpa using this
 obtain⟨v1,w1,hr,o1,hB1,hg⟩:=append_strs_g (wi:=W) (wy:=((W.alloc (.cells #[] 9)).alloc (.cells #[Value.string x] 9)).drew) (lo:=W.heap.size) (l1:=[]) ty1 (own_none ((heap_alloc_old (W.alloc (.cells #[] 9)) (.cells #[Value.string x] 9) (by simp)).trans (heap_alloc_new W (.cells #[] 9))) (Nat.le_refl _)) h2 hb (Nat.le_refl _) hb.size (by simp) (List.nil_append l)
 exact⟨v1,w1,hr,hB1,pushed_s ty2 x o1 hB1 ((hg.block (W.heap.size+1) (by simp) (by simp[Value.ownBlock])).trans hn) hl⟩
theorem push_sc (ty1 ty2:TypeId)(W:World){v:Value}{l:List ByteArray}(h:StrsLow W v l)(hl:l.length≤1099511627776)(x:ByteArray) :
  ∃ v1 w1,(Builtin.append_ #[22,22] ty1 #[.slice (some ⟨W.heap.size+1,0,none⟩) 0 0,v]).run Tryz.prog ((W.alloc (.cells #[Value.string x] 9)).alloc (.cells #[] 9)).drew=.ok v1 w1∧Below W.heap.size W w1 ∧
   ∃ v2 w2,(Builtin.append_ #[22,22] ty2 #[v1,.slice (some ⟨W.heap.size,0,none⟩) 1 1]).run Tryz.prog w1=.ok v2 w2∧Pusheds W (l++[x]) v2 w2:=by
 have hb0:Below W.heap.size W (W.alloc (.cells #[Value.string x] 9)):=(Below.refl _ _).alloc (Nat.le_refl _) _
 have hb:Below W.heap.size W ((W.alloc (.cells #[Value.string x] 9)).alloc (.cells #[] 9)).drew:=(hb0.alloc hb0.size _).drew
 have h2:=h.low hb
 have hn:((W.alloc (.cells #[Value.string x] 9)).alloc (.cells #[] 9)).heap[W.heap.size]? = some (.cells #[Value.string x] 9 (0,0)) :=
  (heap_alloc_old (W.alloc (.cells #[Value.string x] 9)) (.cells #[] 9) (by simp)).trans (heap_alloc_new W (.cells #[Value.string x] 9))
 have hm:((W.alloc (.cells #[Value.string x] 9)).alloc (.cells #[] 9)).heap[W.heap.size+1]? = some (.cells #[] 9 (0,0)):=by
  have:=heap_alloc_new (W.alloc (.cells #[Value.string x] 9)) (.cells #[] 9);simpa using this
 obtain⟨v1,w1,hr,o1,hB1,hg⟩:=append_strs_g (wi:=W) (wy:=((W.alloc (.cells #[Value.string x] 9)).alloc (.cells #[] 9)).drew) (lo:=W.heap.size) (l1:=[]) ty1 (own_none (b:=W.heap.size+1) hm (by omega)) h2 hb (Nat.le_refl _) hb.size (by simp) (List.nil_append l)
 exact⟨v1,w1,hr,hB1,pushed_s ty2 x o1 hB1 ((hg.block W.heap.size (by simp;omega) (by simp[Value.ownBlock])).trans hn) hl⟩
def Pushedn (W:World)(l:List Int)(v:Value)(w':World):Prop:=w'.ownsRow W.heap.size 3 1 v l.length (l.map (Value.int .i64))∧Below W.heap.size W w'
theorem pushed_n (ty:TypeId){W w1:World}{v1:Value}{l:List Int}{b:Nat}(x:Int)(o1:w1.ownsRow W.heap.size 3 1 v1 l.length (l.map (Value.int .i64)))(hB:Below W.heap.size W w1)(h2:w1.heap[b]? = some (.cells #[Value.int .i64 x] 3 (0,0)))(hl:l.length≤1099511627776) :
  ∃ v2 w2,(Builtin.append_ #[63,63] ty #[v1,.slice (some ⟨b,0,none⟩) 1 1]).run Tryz.prog w1=.ok v2 w2∧Pushedn W (l++[x]) v2 w2 :=
 append_nums (wi:=W) (wy:=w1) (lo:=W.heap.size) (S:=fun _=>True) ty o1 (nums_one h2 True.intro) (fun c e=>by simp at e) hB (Nat.le_refl _) hB.size hl rfl
theorem push_na (ty1 ty2:TypeId)(W:World){v:Value}{l:List Int}(h:NumsLow W v l)(hl:l.length≤1099511627776)(x:Int) :
  ∃ v1 w1,(Builtin.append_ #[63,63] ty1 #[.slice (some ⟨W.heap.size,0,none⟩) 0 0,v]).run Tryz.prog (W.alloc (.cells #[] 3)).drew=.ok v1 w1∧Below W.heap.size W w1 ∧
   ∃ v2 w2,(Builtin.append_ #[63,63] ty2 #[v1,.slice (some ⟨w1.heap.size,0,none⟩) 1 1]).run Tryz.prog (w1.alloc (.cells #[Value.int .i64 x] 3))=.ok v2 w2∧Pushedn W (l++[x]) v2 w2:=by
 have hb:Below W.heap.size W (W.alloc (.cells #[] 3)).drew:=((Below.refl _ _).alloc (Nat.le_refl _) _).drew
 have h2:=h.low hb
 obtain⟨v1,w1,hr,o1,hB1⟩:=append_nums (wi:=W) (wy:=(W.alloc (.cells #[] 3)).drew) (lo:=W.heap.size) (l1:=[]) ty1 (own_none (heap_alloc_new W (.cells #[] 3)) (Nat.le_refl _)) h2.1 h2.2 hb (Nat.le_refl _) hb.size (by simp) (List.nil_append l)
 exact⟨v1,w1,hr,hB1,pushed_n ty2 x (o1.alloc _) (hB1.alloc hB1.size _) (heap_alloc_new w1 _) hl⟩
theorem push_nb (ty1 ty2:TypeId)(W:World){v:Value}{l:List Int}(h:NumsLow W v l)(hl:l.length≤1099511627776)(x:Int) :
  ∃ v1 w1,(Builtin.append_ #[63,63] ty1 #[.slice (some ⟨W.heap.size,0,none⟩) 0 0,v]).run Tryz.prog ((W.alloc (.cells #[] 3)).alloc (.cells #[Value.int .i64 x] 3)).drew=.ok v1 w1∧Below W.heap.size W w1 ∧
   ∃ v2 w2,(Builtin.append_ #[63,63] ty2 #[v1,.slice (some ⟨W.heap.size+1,0,none⟩) 1 1]).run Tryz.prog w1=.ok v2 w2∧Pushedn W (l++[x]) v2 w2:=by
 have hb0:Below W.heap.size W (W.alloc (.cells #[] 3)):=(Below.refl _ _).alloc (Nat.le_refl _) _
 have hb:Below W.heap.size W ((W.alloc (.cells #[] 3)).alloc (.cells #[Value.int .i64 x] 3)).drew:=(hb0.alloc hb0.size _).drew
 have h2:=h.low hb
 have hn:((W.alloc (.cells #[] 3)).alloc (.cells #[Value.int .i64 x] 3)).heap[W.heap.size+1]? = some (.cells #[Value.int .i64 x] 3 (0,0)):=by
  have:=heap_alloc_new (W.alloc (.cells #[] 3)) (.cells #[Value.int .i64 x] 3);simpa using this
 obtain⟨v1,w1,hr,o1,hB1,hg⟩:=append_nums_g (wi:=W) (wy:=((W.alloc (.cells #[] 3)).alloc (.cells #[Value.int .i64 x] 3)).drew) (lo:=W.heap.size) (l1:=[]) ty1 (own_none ((heap_alloc_old (W.alloc (.cells #[] 3)) (.cells #[Value.int .i64 x] 3) (by simp)).trans (heap_alloc_new W (.cells #[] 3))) (Nat.le_refl _)) h2.1 h2.2 hb (Nat.le_refl _) hb.size (by simp) (List.nil_append l)
 exact⟨v1,w1,hr,hB1,pushed_n ty2 x o1 hB1 ((hg.block (W.heap.size+1) (by simp) (by simp[Value.ownBlock])).trans hn) hl⟩
theorem push_nc (ty1 ty2:TypeId)(W:World){v:Value}{l:List Int}(h:NumsLow W v l)(hl:l.length≤1099511627776)(x:Int) :
  ∃ v1 w1,(Builtin.append_ #[63,63] ty1 #[.slice (some ⟨W.heap.size+1,0,none⟩) 0 0,v]).run Tryz.prog ((W.alloc (.cells #[Value.int .i64 x] 3)).alloc (.cells #[] 3)).drew=.ok v1 w1∧Below W.heap.size W w1 ∧
   ∃ v2 w2,(Builtin.append_ #[63,63] ty2 #[v1,.slice (some ⟨W.heap.size,0,none⟩) 1 1]).run Tryz.prog w1=.ok v2 w2∧Pushedn W (l++[x]) v2 w2:=by
 have hb0:Below W.heap.size W (W.alloc (.cells #[Value.int .i64 x] 3)):=(Below.refl _ _).alloc (Nat.le_refl _) _
 have hb:Below W.heap.size W ((W.alloc (.cells #[Value.int .i64 x] 3)).alloc (.cells #[] 3)).drew:=(hb0.alloc hb0.size _).drew
 have h2:=h.low hb
 have hn:((W.alloc (.cells #[Value.int .i64 x] 3)).alloc (.cells #[] 3)).heap[W.heap.size]? = some (.cells #[Value.int .i64 x] 3 (0,0)) :=
  (heap_alloc_old (W.alloc (.cells #[Value.int .i64 x] 3)) (.cells #[] 3) (by simp)).trans (heap_alloc_new W (.cells #[Value.int .i64 x] 3))
 have hm:((W.alloc (.cells #[Value.int .i64 x] 3)).alloc (.cells #[] 3)).heap[W.heap.size+1]? = some (.cells #[] 3 (0,0)):=by
  have:=heap_alloc_new (W.alloc (.cells #[Value.int .i64 x] 3)) (.cells #[] 3);simpa using this
 obtain⟨v1,w1,hr,o1,hB1,hg⟩:=append_nums_g (wi:=W) (wy:=((W.alloc (.cells #[Value.int .i64 x] 3)).alloc (.cells #[] 3)).drew) (lo:=W.heap.size) (l1:=[]) ty1 (own_none (b:=W.heap.size+1) hm (by omega)) h2.1 h2.2 hb (Nat.le_refl _) hb.size (by simp) (List.nil_append l)
 exact⟨v1,w1,hr,hB1,pushed_n ty2 x o1 hB1 ((hg.block W.heap.size (by simp;omega) (by simp[Value.ownBlock])).trans hn) hl⟩
theorem hasN_rev (l:List ByteArray)(x:ByteArray):hasN l.reverse x=hasN l x:=by unfold hasN;rw[List.any_reverse]
theorem walkL_len (l:List Ty)(out ns:List ByteArray):(walkL freeStep l out ns).length≤out.length+sizeL l:=by
 induction l generalizing out with
 | nil=>simp[walkL]
 | cons t l ih=>rw[walkL,sizeL];have:=ih (walkF freeStep t out ns);have:=freeAcc_len t out ns;omega
def FreePostR (w:World)(l:List ByteArray)(e:Ending)(w':World):Prop:=∃ v,e=.returned v∧StrsLow w' v l∧Below w.heap.size w w'
def RFreeSaid (t:Ty):Prop:=∀ (S:Nat→Prop) (a:Option Addr) (c:Nat) (w:World) (vb vo:Value) (nb out:List ByteArray),ArgsAt S w (.slice a t.args.length c) t.args→(∀ b,S b→b<w.heap.size)→Wf t→StrsLow w vb nb→StrsLow w vo out →
  out.length+t.size≤1000000000000→nb.length+t.size≤1000000000000→Calls Tryz.prog 41 #[tv t a c,vb,vo] w (FreePostR w (walkF freeStep t out nb.reverse))
set_option maxRecDepth 100000 in
set_option maxHeartbeats 1600000 in
theorem rfree_var (t:Ty)(hk:t.kind=1)(hta:t.args=[]):RFreeSaid t:=by
 intro S a c w vb vo nb out hA hS hw hb ho hlo hlb
 have hz:=(Below.refl w.heap.size w).alloc (Nat.le_refl _) (.cells #[.int .i64 t.kind,.string t.name,.int .i64 t.n,.slice a t.args.length c] 29)
 have k4:=R4.new w (.int .i64 t.kind) (.string t.name) (.int .i64 t.n) (.slice a t.args.length c)
 have E:walkF freeStep t out nb.reverse=if !hasN nb t.name&&!hasN out t.name then out++[t.name] else out:=by
  rw[walkF_eq,hta,walkL];unfold freeStep;rw[hk,hasN_rev];rfl
 have hz':Below w.heap.size w (w.alloc (.cells #[.int .i64 t.kind,.string t.name,.int .i64 t.n,.slice a t.args.length c] 29)):=hz
 have CB:=hid (has_any _ vb nb t.name _ (hb.low hz'))
 have CO:=hid (has_any _ vo out t.name _ (ho.low hz'))
 have HOW:=hid (ho.low hz')
 have e1:(t.kind==1)=true:=by rw[hk];rfl
 have c0:=k4.c0
 have c1:=k4.c1
 have K4:=hid k4
 have HZ:=hid hz'
 have hl2:out.length≤1099511627776:=by omega
 have hl3:(out++[t.name]).length≤1099511627776:=by simp;omega
 clear hA hS hw hb hz hz' k4 hk hta hlo hlb
 unfold tv
 generalize t.args.length=n at *
 cases h1:hasN nb t.name with
 | true =>
  rw[h1] at CB E
  have EH:Hid (walkF freeStep t out nb.reverse=out):=hid E
  clear E h1
  go_enter Tryz.func41,Tryz.ntmps41
  go_wp2_with fail
  refine CB.out.mono ?_
  rintro e w1 ⟨rfl,rfl⟩
  go_wp2_with fail
  refine CO.out.mono ?_
  rintro e w1 ⟨rfl,rfl⟩
  go_wp2
  all_goals
   go_ret
   exact⟨_,rfl,by rw[EH.out];exact HOW.out,HZ.out⟩
 | false =>
  rw[h1] at CB E
  clear h1
  cases h2:hasN out t.name with
  | true =>
   rw[h2] at CO E
   have EH:Hid (walkF freeStep t out nb.reverse=out):=hid E
   clear E h2
   go_enter Tryz.func41,Tryz.ntmps41
   go_wp2_with fail
   refine CB.out.mono ?_
   rintro e w1 ⟨rfl,rfl⟩
   go_wp2_with fail
   refine CO.out.mono ?_
   rintro e w1 ⟨rfl,rfl⟩
   go_wp2
   go_ret
   exact⟨_,rfl,by rw[EH.out];exact HOW.out,HZ.out⟩
  | false =>
   rw[h2] at CO E
   have EH:Hid (walkF freeStep t out nb.reverse=out++[t.name]):=hid E
   clear E h2
   go_enter Tryz.func41,Tryz.ntmps41
   go_wp2_with fail
   refine CB.out.mono ?_
   rintro e w1 ⟨rfl,rfl⟩
   go_wp2_with fail
   refine CO.out.mono ?_
   rintro e w1 ⟨rfl,rfl⟩
   go_wp2
   generalize w.alloc (.cells #[.int .i64 t.kind,.string t.name,.int .i64 t.n,.slice a n c] 29)=W0 at *
   have PA:=hid (push_sa 22 22 (W0) HOW.out hl2 t.name)
   have PB:=hid (push_sb 22 22 (W0) HOW.out hl2 t.name)
   have PC:=hid (push_sc 22 22 (W0) HOW.out hl2 t.name)
   go_region_held3 (fun w'=>w'.cell? ⟨w.heap.size,1,none⟩=some (.string t.name))
    (first|(with_reducible exact (K4.out.low HX2.out).c1)|(with_reducible exact (K4.out.low HX1.out).c1)|go_keep)
    (first
     | ((with_reducible show (if Region.wanted _ _=true then Oper.wp _ _ _ ((W0).alloc (.cells #[] 9)).drew _ _ else _));refine step_append_ok (by rfl) _ _ _ (by rfl) (by rfl) (by rfl) PA.out ?_;rintro v1 w1 ⟨hx1,hA2⟩;have HX1:=hid hx1;have A2:=hid hA2;have q1:=(K4.out.low hx1).c1;clear hx1 hA2)
     | ((with_reducible show (if Region.wanted _ _=true then Oper.wp _ _ _ (((W0).alloc (.cells #[] 9)).alloc (.cells #[.string t.name] 9)).drew _ _ else _));refine step_append_ok (by rfl) _ _ _ (by rfl) (by rfl) (by rfl) PB.out ?_;rintro v1 w1 ⟨hx1,hA2⟩;have HX1:=hid hx1;have A2:=hid hA2;have q1:=(K4.out.low hx1).c1;clear hx1 hA2)
     | ((with_reducible show (if Region.wanted _ _=true then Oper.wp _ _ _ (((W0).alloc (.cells #[.string t.name] 9)).alloc (.cells #[] 9)).drew _ _ else _));refine step_append_ok (by rfl) _ _ _ (by rfl) (by rfl) (by rfl) PC.out ?_;rintro v1 w1 ⟨hx1,hA2⟩;have HX1:=hid hx1;have A2:=hid hA2;have q1:=(K4.out.low hx1).c1;clear hx1 hA2)
     | (refine step_append_ok (by rfl) _ _ _ (by rfl) (by rfl) (by rfl) A2.out ?_;rintro v2 w2 ⟨ho2,hx2⟩;have HO2:=hid ho2;have HX2:=hid hx2;clear ho2 hx2))
   all_goals
    go_wp2
    go_ret
    exact⟨_,rfl,by rw[EH.out];exact .own HO2.out hl3,HZ.out.trans (HX2.out.mono HZ.out.size)⟩
set_option maxRecDepth 100000 in
set_option maxHeartbeats 3200000 in
theorem rfree_node (t:Ty)(hk:t.kind≠1)(ih:∀ u∈t.args,RFreeSaid u):RFreeSaid t:=by
 intro S a c w vb vo nb out hA hS hw hb ho hlo hlb
 have hz:Below w.heap.size w (w.alloc (.cells #[.int .i64 t.kind,.string t.name,.int .i64 t.n,.slice a t.args.length c] 29)):=(Below.refl w.heap.size w).alloc (Nat.le_refl _) (.cells #[.int .i64 t.kind,.string t.name,.int .i64 t.n,.slice a t.args.length c] 29)
 have k4:=R4.new w (.int .i64 t.kind) (.string t.name) (.int .i64 t.n) (.slice a t.args.length c)
 have hl:t.args.length≤9223372036854775807:=by
  obtain⟨_,_,_,h⟩:=hA.form
  exact h
 have hst:freeStep out t nb.reverse=out:=by
  unfold freeStep
  rw[show (t.kind==1)=false from by rw[beq_eq_false_iff_ne];exact hk];rfl
 have E:=walkF_eq freeStep t out nb.reverse
 rw[hst] at E
 have e1:(t.kind==1)=false:=by rw[beq_eq_false_iff_ne];exact hk
 have SE:Hid (sizeL t.args+1+out.length≤1000000000000∧sizeL t.args+1+nb.length≤1000000000000):=hid (by have:=t.size_eq;omega)
 have IH:=hid ih
 have AH:=hid hA
 have HN:=hid hS
 have HW:=hid ((wf_iff t).1 hw).2
 have HOW:=hid (ho.low hz)
 have HBW:=hid (hb.low hz)
 have c0:=k4.c0
 have c1:=k4.c1
 have K4:=hid k4
 have HZ:=hid hz
 have hl2:nb.length≤1099511627776:=by omega
 have hl3:(nb++[t.name]).length≤1099511627776:=by simp;omega
 clear hA hS hw hb ho hz k4 ih hk hst hlo hlb
 unfold tv
 by_cases h5:t.kind=5
 ·rw[if_pos h5,show t.name :: nb.reverse=(nb++[t.name]).reverse from by simp] at E
  have EQ:=hid E
  have e5:(t.kind==5)=true:=by rw[h5];rfl
  clear E h5
  go_enter Tryz.func41,Tryz.ntmps41
  go_wp2
  generalize w.alloc (.cells #[.int .i64 t.kind,.string t.name,.int .i64 t.n,.slice a t.args.length c] 29)=W0 at *
  have PA:=hid (push_sa 22 22 (W0) HBW.out hl2 t.name)
  have PB:=hid (push_sb 22 22 (W0) HBW.out hl2 t.name)
  have PC:=hid (push_sc 22 22 (W0) HBW.out hl2 t.name)
  go_region_held3 (fun w'=>w'.cell? ⟨w.heap.size,1,none⟩=some (.string t.name))
   (first|(with_reducible exact (K4.out.low HX2.out).c1)|(with_reducible exact (K4.out.low HX1.out).c1)|go_keep)
   (first
    | ((with_reducible show (if Region.wanted _ _=true then Oper.wp _ _ _ ((W0).alloc (.cells #[] 9)).drew _ _ else _));refine step_append_ok (by rfl) _ _ _ (by rfl) (by rfl) (by rfl) PA.out ?_;rintro v1 w1 ⟨hx1,hA2⟩;have HX1:=hid hx1;have A2:=hid hA2;have q1:=(K4.out.low hx1).c1;clear hx1 hA2)
    | ((with_reducible show (if Region.wanted _ _=true then Oper.wp _ _ _ (((W0).alloc (.cells #[] 9)).alloc (.cells #[.string t.name] 9)).drew _ _ else _));refine step_append_ok (by rfl) _ _ _ (by rfl) (by rfl) (by rfl) PB.out ?_;rintro v1 w1 ⟨hx1,hA2⟩;have HX1:=hid hx1;have A2:=hid hA2;have q1:=(K4.out.low hx1).c1;clear hx1 hA2)
    | ((with_reducible show (if Region.wanted _ _=true then Oper.wp _ _ _ (((W0).alloc (.cells #[.string t.name] 9)).alloc (.cells #[] 9)).drew _ _ else _));refine step_append_ok (by rfl) _ _ _ (by rfl) (by rfl) (by rfl) PC.out ?_;rintro v1 w1 ⟨hx1,hA2⟩;have HX1:=hid hx1;have A2:=hid hA2;have q1:=(K4.out.low hx1).c1;clear hx1 hA2)
    | (refine step_append_ok (by rfl) _ _ _ (by rfl) (by rfl) (by rfl) A2.out ?_;rintro v2 w2 ⟨ho2,hx2⟩;have HO2:=hid ho2;have HX2:=hid hx2;clear ho2 hx2))
  all_goals
   have HO:=hid (HOW.out.low HX2.out)
   have HB2:=hid (StrsLow.own HO2.out hl3)
   have HZ2:=hid (HZ.out.trans (HX2.out.mono HZ.out.size))
   have K42:=hid (K4.out.low HX2.out)
   clear c0 c1 HX1 A2 q1 PA PB PC HO2 HX2 HOW HBW HZ K4
   go_wp2
   go_loopw [2,10] (fun ov iv wr=>∃ i:Nat,iv=.int .i64 i∧i≤t.args.length∧StrsLow wr ov (walkL freeStep (t.args.take i) out (nb++[t.name]).reverse)∧Below (w2).heap.size (w2) wr) (fun _ iv _=>t.args.length - (intOf iv).toNat)
   case atStart=>exact⟨0,rfl,Nat.zero_le _,by simpa [walkL] using HO.out,Below.refl _ _⟩
   case round =>
    obtain⟨i,rfl,hil,hO,hB⟩:=hrel
    have z0:(0:Int)≤(i:Int):=by omega
    have hBw:=HZ2.out.trans (hB.mono HZ2.out.size)
    have k3:=(K42.out.low hB).c3
    have BW:=hid hBw
    have BH:=hid hB
    by_cases hi:i<t.args.length
    ·have z1:(i:Int)<(t.args.length:Int):=by omega
     obtain⟨b,off,a',cap',rfl,hb,hf,hs⟩:=AH.out.at_ hi
     obtain⟨f0,f1,f2,f3⟩:=hf.keep (hBw.block b (HN.out b hb))
     have hm:=List.getElem_mem hi
     have CH:=hid (IH.out _ hm S a' cap' wr _ _ _ _ (hs.keep fun b hS=>hBw.block b (HN.out b hS)) (fun b hS=>Nat.lt_of_lt_of_le (HN.out b hS) hBw.size) (HW.out _ hm) (HB2.out.low hB) hO (by have:=walkL_len (t.args.take i) out ((nb++[t.name]).reverse);have h1:=sizeL_take t.args i hi;have h2:=sizeL_take_le t.args (i+1);have:=SE.out;omega) (by have:=SE.out;have:=size_arg _ hm;simp;omega))
     have ST:=hid (walkL_take freeStep t.args i hi out ((nb++[t.name]).reverse))
     have x0:(0:Int)≤0:=by omega
     unfold tv at CH
     clear hf hs hB hBw hm hb hO x0
     generalize t.args[i]=x at *
     go_wp2_with fail
     refine CH.out.mono ?_
     rintro e w4 ⟨v4,rfl,h4,B4⟩
     have B5:=hid (BH.out.trans (B4.mono BH.out.size))
     have H4:=hid h4
     clear B4 h4
     go_wp2
     go_roundw
     case rel=>exact⟨i+1,by go_num,by omega,by rw[ST.out];simpa using H4.out,B5.out⟩
     case measure=>simp[intOf];omega
    ·obtain rfl:i=t.args.length:=by omega
     have HO5:=hid hO
     clear hB hBw hO
     go_wp2
     go_ret
     exact⟨_,rfl,by rw[EQ.out];have:=HO5.out;rwa [List.take_length] at this,BW.out⟩
 ·rw[if_neg h5] at E
  have EQ:=hid E
  have e5:(t.kind==5)=false:=by rw[beq_eq_false_iff_ne];exact h5
  have HO:=hid HOW.out
  clear E h5
  go_enter Tryz.func41,Tryz.ntmps41
  go_wp2
  clear c0 c1
  go_loopw [2,10] (fun ov iv wr=>∃ i:Nat,iv=.int .i64 i∧i≤t.args.length∧StrsLow wr ov (walkL freeStep (t.args.take i) out nb.reverse)∧Below (w.alloc (.cells #[.int .i64 t.kind,.string t.name,.int .i64 t.n,.slice a t.args.length c] 29)).heap.size (w.alloc (.cells #[.int .i64 t.kind,.string t.name,.int .i64 t.n,.slice a t.args.length c] 29)) wr) (fun _ iv _=>t.args.length - (intOf iv).toNat)
  case atStart=>exact⟨0,rfl,Nat.zero_le _,by simpa [walkL] using HO.out,Below.refl _ _⟩
  case round =>
   obtain⟨i,rfl,hil,hO,hB⟩:=hrel
   have z0:(0:Int)≤(i:Int):=by omega
   have hBw:=HZ.out.trans (hB.mono HZ.out.size)
   have k3:=(K4.out.low hB).c3
   have BW:=hid hBw
   have BH:=hid hB
   by_cases hi:i<t.args.length
   ·have z1:(i:Int)<(t.args.length:Int):=by omega
    obtain⟨b,off,a',cap',rfl,hb,hf,hs⟩:=AH.out.at_ hi
    obtain⟨f0,f1,f2,f3⟩:=hf.keep (hBw.block b (HN.out b hb))
    have hm:=List.getElem_mem hi
    have CH:=hid (IH.out _ hm S a' cap' wr _ _ _ _ (hs.keep fun b hS=>hBw.block b (HN.out b hS)) (fun b hS=>Nat.lt_of_lt_of_le (HN.out b hS) hBw.size) (HW.out _ hm) (HBW.out.low hB) hO (by have:=walkL_len (t.args.take i) out (nb.reverse);have h1:=sizeL_take t.args i hi;have h2:=sizeL_take_le t.args (i+1);have:=SE.out;omega) (by have:=SE.out;have:=size_arg _ hm;simp;omega))
    have ST:=hid (walkL_take freeStep t.args i hi out (nb.reverse))
    have x0:(0:Int)≤0:=by omega
    unfold tv at CH
    clear hf hs hB hBw hm hb hO x0
    generalize t.args[i]=x at *
    go_wp2_with fail
    refine CH.out.mono ?_
    rintro e w4 ⟨v4,rfl,h4,B4⟩
    have B5:=hid (BH.out.trans (B4.mono BH.out.size))
    have H4:=hid h4
    clear B4 h4
    go_wp2
    go_roundw
    case rel=>exact⟨i+1,by go_num,by omega,by rw[ST.out];simpa using H4.out,B5.out⟩
    case measure=>simp[intOf];omega
   ·obtain rfl:i=t.args.length:=by omega
    have HO5:=hid hO
    clear hB hBw hO
    go_wp2
    go_ret
    exact⟨_,rfl,by rw[EQ.out];have:=HO5.out;rwa [List.take_length] at this,BW.out⟩
theorem rfree_any:∀ t:Ty,RFreeSaid t:=by
 intro t
 induction t using Ty.ind with
 | h t ih =>
  intro S a c w vb vo nb out hA hS hw
  by_cases h1:t.kind=1
  ·have hta:t.args=[]:=by rcases ((wf_iff t).1 hw).1 with h|h|h|h|h<;>first|omega|exact h.2
   exact rfree_var t h1 hta S a c w vb vo nb out hA hS hw
  ·exact rfree_node t h1 ih S a c w vb vo nb out hA hS hw
theorem strsLow_nil (w:World):StrsLow w (.slice none 0 0) []:=⟨none,0,rfl,by simp,by simp,fun _=>rfl,.inl rfl⟩
set_option maxHeartbeats 800000 in
theorem rFree_any (t:Ty)(S:Nat→Prop)(a:Option Addr)(c:Nat)(w:World)(hA:ArgsAt S w (.slice a t.args.length c) t.args)(hS:∀ b,S b→b<w.heap.size)(hw:Wf t)(hs:t.size≤1000000000000) :
  Calls Tryz.prog 18 #[tv t a c] w (FreePostR w (freeT t)):=by
 have hz:Below w.heap.size w (w.alloc (.cells #[.int .i64 t.kind,.string t.name,.int .i64 t.n,.slice a t.args.length c] 29)):=(Below.refl w.heap.size w).alloc (Nat.le_refl _) (.cells #[.int .i64 t.kind,.string t.name,.int .i64 t.n,.slice a t.args.length c] 29)
 have k4:=R4.new w (.int .i64 t.kind) (.string t.name) (.int .i64 t.n) (.slice a t.args.length c)
 have C:=hid (rfree_any t S a c (w.alloc (.cells #[.int .i64 t.kind,.string t.name,.int .i64 t.n,.slice a t.args.length c] 29)) (.slice none 0 0) (.slice none 0 0) [] [] (hA.keep fun b hb=>hz.block b (hS b hb)) (fun b hb=>Nat.lt_of_lt_of_le (hS b hb) hz.size) hw (strsLow_nil _) (strsLow_nil _) (by simpa using hs) (by simpa using hs))
 have HZ:=hid hz
 have c0:=k4.c0
 have c1:=k4.c1
 have c2:=k4.c2
 have c3:=k4.c3
 clear hA hS hw hz k4
 unfold tv at C ⊢
 go_enter Tryz.func18,Tryz.ntmps18
 go_wp2_with fail
 refine C.out.mono ?_
 rintro e w1 ⟨v,rfl,h1,hB⟩
 have H1:=hid h1
 have HB:=hid (HZ.out.trans (hB.mono HZ.out.size))
 clear h1 hB
 go_wp2
 go_ret
 exact⟨v,rfl,H1.out,HB.out⟩
end Go.Proofs.YtofllmemmggapaaGreatDoor.Tp

/- Texts laid together: R3B, R3Col. -/
import Derived.Test.YtofllmemmggapaaGreatDoorP34
import Derived.Test.YtofllmemmggapaaGreatDoorP26
import Derived.Test.YtofllmemmggapaaGreatDoorP42
import Derived.Deep.CutRange
import Derived.Deep.RegionLaw
import Derived.Deep.RegionHeld3

namespace Go.Proofs.YtofllmemmggapaaGreatDoor.Tp
open Go.RowKit
def RowB (n lo:Nat)(w:World)(v:Value)(l:Fnd):Prop :=
 ∃ svs:List Value,w.ownsRow lo 40 5 v l.length (cellsB l svs)∧svs.length=l.length∧∀ (j:Nat) (h:j<l.length) (h':j<svs.length),∃ a c,svs[j]=.slice a l[j].2.args.length c∧ArgsAt (Lt n) w (.slice a l[j].2.args.length c) l[j].2.args
theorem RowB.nil (n lo:Nat)(w:World):RowB n lo w (.slice none 0 0) []:=⟨[],World.ownsRow_nil _ _ _ _,rfl,by simp⟩
theorem RowB.low {n lo:Nat}{w w':World}{v:Value}{l:Fnd}(h:RowB n lo w v l)(hn:n≤w.heap.size)(hb:Below w.heap.size w w'):RowB n lo w' v l:=by
 obtain⟨svs,ho,hl,ha⟩:=h
 exact⟨svs,own_keep4 ho fun b e=>hb.block b (ho.lt b e).2,hl,fun j h h'=>by
  obtain⟨a,c,e,hA⟩:=ha j h h'
  exact⟨a,c,e,hA.keep fun b hb'=>hb.block b (Nat.lt_of_lt_of_le hb' hn)⟩⟩
theorem RowB.base {n lo lo':Nat}{w:World}{v:Value}{l:Fnd}(h:RowB n lo w v l)(hb:lo'≤lo):RowB n lo' w v l:=by
 obtain⟨svs,ho,h2⟩:=h
 exact⟨svs,own_base ho hb,h2⟩
theorem RowB.form {n lo:Nat}{w:World}{v:Value}{l:Fnd}(h:RowB n lo w v l):∃ a cap,v=.slice a l.length cap:=by
 obtain⟨svs,ho,_⟩:=h
 exact own_form ho
theorem RowB.at_ {n lo:Nat}{w:World}{a:Option Addr}{m cap:Nat}{l:Fnd}(h:RowB n lo w (.slice a m cap) l){i:Nat}(hi:i<l.length) :
  ∃ g a' c',a=some ⟨g,0,none⟩∧g<w.heap.size∧w.cell? ⟨g,i*5,none⟩=some (.string l[i].1)∧Four w g (i*5+1) (.int .i64 l[i].2.kind) (.string l[i].2.name) (.int .i64 l[i].2.n) (.slice a' l[i].2.args.length c')∧ArgsAt (Lt n) w (.slice a' l[i].2.args.length c') l[i].2.args:=by
 obtain⟨svs,ho,hl,ha⟩:=h
 rcases ho.2 with ⟨e,h0⟩|⟨g,cap',cur,e,_⟩
 ·rw[h0] at hi;omega
 ·injection e with e1 _ _
  subst e1
  have hi':i<svs.length:=by omega
  obtain⟨q0,q1,q2,q3,q4⟩:=cellsB_at l svs hl i hi hi'
  obtain⟨a',c',e',hA⟩:=ha i hi hi'
  have hc0:=ho.cells (g:=g) rfl (i*5) _ q0
  have hc1:=ho.cells (g:=g) rfl (i*5+1) _ q1
  have hc2:=ho.cells (g:=g) rfl (i*5+2) _ q2
  have hc3:=ho.cells (g:=g) rfl (i*5+3) _ q3
  have hc4:=ho.cells (g:=g) rfl (i*5+4) _ q4
  rw[addr_add0,Nat.zero_add] at hc0 hc1 hc2 hc3 hc4
  rw[e'] at hc4
  exact⟨g,a',c',rfl,(ho.lt g rfl).2,hc0,⟨hc1,hc2,hc3,hc4⟩,hA⟩
theorem cellsB_app (l m:Fnd)(sl sm:List Value)(h:sl.length=l.length):cellsB (l++m) (sl++sm)=cellsB l sl++cellsB m sm:=by
 unfold cellsB
 rw[List.zip_append h.symm,List.flatMap_append]
theorem cellsB_one (l:Fnd)(svs:List Value)(hs:∀ v∈svs,v.oneCell'=true):∀ u∈cellsB l svs,u.oneCell'=true:=by
 intro u hu
 unfold cellsB at hu
 obtain⟨p,hp,hu⟩:=List.mem_flatMap.1 hu
 have:=hs p.2 (List.of_mem_zip hp).2
 simp only[cell5,cell4,List.mem_cons,List.not_mem_nil,or_false] at hu
 rcases hu with rfl|rfl|rfl|rfl|rfl<;>first|rfl|exact this
theorem cellsB_len (l:Fnd)(svs:List Value)(h:svs.length=l.length):(cellsB l svs).length=l.length*5:=by
 induction l generalizing svs with
 | nil=>simp[cellsB]
 | cons e l ih =>
  cases svs with
  | nil=>simp at h
  | cons v svs =>
   rw[cellsB_cons]
   simp only[List.length_cons]
   rw[ih svs (by simpa using h)]
   omega
theorem infoRB:(Tryz.prog.info? 40).map (fun i=>(i.zero,i.size,i.bytes))=some (some (.agg #[.string ByteArray.empty,.int .i64 0,.string ByteArray.empty,.int .i64 0,.slice none 0 0]),5,72):=by kernel_rfl
theorem append_bnds (ty:TypeId){n:Nat}{wi wy:World}{lo lo2:Nat}{v1 v2:Value}{l1 l2:Fnd}(o1:RowB n lo wy v1 l1)(h2:RowB n lo2 wy v2 l2)(hb:Below wi.heap.size wi wy)(hn:n≤wi.heap.size)(hlo:wi.heap.size≤lo)(hlo1:lo≤wy.heap.size)(hl1:l1.length≤1000000000)(hl2:l2.length≤1000000000){L:Fnd}(hL:l1++l2=L) :
  ∃ v' w',(Builtin.append_ #[35,35] ty #[v1,v2]).run Tryz.prog wy=.ok v' w'∧RowB n wi.heap.size w' v' L∧Below wi.heap.size wi w'∧wy.grownBy w' v1.ownBlock:=by
 subst hL
 obtain⟨i0,hi0,hz3,hz1,hz2⟩:=info_parts infoRB
 obtain⟨s1,p1,q1,r1⟩:=o1
 obtain⟨s2,p2,q2,r2⟩:=h2
 rcases p2.2 with ⟨rfl,h0⟩|⟨g,cap,cur,rfl,_⟩
 ·have e0:l2=[]:=List.eq_nil_of_length_eq_zero h0
  subst e0
  refine⟨v1,wy,run_append_owned_none (P:=Tryz.prog) (w:=wy) lo 35 ty 40 i0 5 Tryz.underlying35 hi0 v1 l1.length (cellsB l1 s1) p1,?_,hb,.refl _ _⟩
  rw[List.append_nil]
  exact⟨s1,own_base p1 hlo,q1,r1⟩
 ·have hone:∀ v∈s2,v.oneCell'=true:=fun v hv=>by
   obtain⟨j,hj,rfl⟩:=List.getElem_of_mem hv
   obtain⟨a,c,e,_⟩:=r2 j (by omega) hj
   rw[e];rfl
  obtain⟨v',w',hr,ho,hgr,_⟩:=run_append_own (P:=Tryz.prog) wy lo 35 ty 40 i0 _ 5 72 Tryz.underlying35 hi0 hz3 hz1 hz2 rfl (by decide) v1 l1.length (cellsB l1 s1) p1 ⟨g,0,none⟩ l2.length cap (cellsB l2 s2) (cellsB_len l2 s2 q2) (fun j u hu=>p2.cells (g:=g) rfl j u hu) (cellsB_one l2 s2 hone) (by unfold maxLen;omega) (by omega) hlo1
  have kp:∀ {y:Value} {ts:List Ty},ArgsAt (Lt n) wy y ts→ArgsAt (Lt n) w' y ts:=fun hy=>hy.keep fun b hb'=>by
   have hb1:b<n:=hb'
   exact hgr.block b (by omega) (fun e=>by have:=(p1.lt b e.symm).1;omega)
  refine⟨v',w',hr,⟨s1++s2,?_,by simp[q1,q2],fun j h1 h2=>?_⟩,hb.grown hgr (by have:=hb.size;omega) (fun k e=>by have:=(p1.lt k e).1;omega),hgr⟩
  ·rw[List.length_append,cellsB_app _ _ _ _ q1];exact own_base ho hlo
  ·rcases Nat.lt_or_ge j l1.length with hlt|hge
   ·have hlt':j<s1.length:=by omega
    obtain⟨a',c',e',hA'⟩:=r1 j hlt hlt'
    rw[List.getElem_append_left hlt',List.getElem_append_left hlt]
    exact⟨a',c',e',kp hA'⟩
   ·have hj2:j - l1.length<l2.length:=by simp at h1;omega
    have hj3:j - s1.length<s2.length:=by omega
    obtain⟨a',c',e',hA'⟩:=r2 (j - l1.length) hj2 (by omega)
    rw[List.getElem_append_right (by omega),List.getElem_append_right hge]
    refine⟨a',c',?_,kp hA'⟩
    simp only[q1]
    exact e'
theorem rowB_one {n b:Nat}{w:World}{e:ByteArray × Ty}{a:Option Addr}{c:Nat}(h:w.heap[b]? = some (.cells #[.string e.1,.int .i64 e.2.kind,.string e.2.name,.int .i64 e.2.n,.slice a e.2.args.length c] 40 (0,0)))(hA:ArgsAt (Lt n) w (.slice a e.2.args.length c) e.2.args):RowB n 0 w (.slice (some ⟨b,0,none⟩) 1 1) [e]:=by
 refine⟨[.slice a e.2.args.length c],⟨rfl,.inr ⟨b,1,_,rfl,Nat.zero_le _,h,Nat.le_refl _,by unfold maxLen;omega,rfl,?_⟩⟩,rfl,fun j hj _=>?_⟩
 ·rfl
 ·have:j=0:=by simp at hj;omega
  subst this
  exact⟨a,c,rfl,hA⟩
theorem rowB_none {n lo b:Nat}{w:World}(h:w.heap[b]? = some (.cells #[] 40 (0,0)))(hb:lo≤b):RowB n lo w (.slice (some ⟨b,0,none⟩) 0 0) [] :=
 ⟨[],⟨rfl,.inr ⟨b,0,#[],rfl,hb,h,Nat.le_refl _,by unfold maxLen;omega,rfl,rfl⟩⟩,rfl,by simp⟩
def PushedB (n:Nat)(W:World)(l:Fnd)(v:Value)(w':World):Prop:=RowB n W.heap.size w' v l∧Below W.heap.size W w'
section
variable (ty1 ty2 : TypeId) {n lo : Nat} (W : World) {v : Value} {l : Fnd} (h : RowB n lo W v l) (hn : n ≤ W.heap.size) (hl : l.length ≤ 1000000000) {e : ByteArray × Ty} {a : Option Addr} {c : Nat} (hA : ArgsAt (Lt n) W (.slice a e.2.args.length c) e.2.args)
include h hn hl hA
theorem push_ba:∃ v1 w1,(Builtin.append_ #[35,35] ty1 #[.slice (some ⟨W.heap.size,0,none⟩) 0 0,v]).run Tryz.prog (W.alloc (.cells #[] 40)).drew=.ok v1 w1∧Below W.heap.size W w1 ∧
  ∃ v2 w2,(Builtin.append_ #[35,35] ty2 #[v1,.slice (some ⟨w1.heap.size,0,none⟩) 1 1]).run Tryz.prog (w1.alloc (.cells #[.string e.1,.int .i64 e.2.kind,.string e.2.name,.int .i64 e.2.n,.slice a e.2.args.length c] 40))=.ok v2 w2∧PushedB n W (l++[e]) v2 w2:=by
 have hb:Below W.heap.size W (W.alloc (.cells #[] 40)).drew:=((Below.refl _ _).alloc (Nat.le_refl _) _).drew
 obtain⟨v1,w1,hr,o1,hB1,_⟩:=append_bnds ty1 (n:=n) (wi:=W) (wy:=(W.alloc (.cells #[] 40)).drew) (lo:=W.heap.size) (l1:=[]) (rowB_none (heap_alloc_new W (.cells #[] 40)) (Nat.le_refl _)) (h.low hn hb) hb hn (Nat.le_refl _) hb.size (by simp) hl (List.nil_append l)
 have hx:Below w1.heap.size w1 (w1.alloc (.cells #[.string e.1,.int .i64 e.2.kind,.string e.2.name,.int .i64 e.2.n,.slice a e.2.args.length c] 40)):=(Below.refl _ _).alloc (Nat.le_refl _) _
 have hn1:n≤w1.heap.size:=Nat.le_trans hn hB1.size
 obtain⟨v2,w2,hr2,o2,hB2,_⟩:=append_bnds ty2 (n:=n) (wi:=W) (wy:=w1.alloc (.cells #[.string e.1,.int .i64 e.2.kind,.string e.2.name,.int .i64 e.2.n,.slice a e.2.args.length c] 40)) (lo:=W.heap.size) (o1.low hn1 hx) (rowB_one (heap_alloc_new w1 (.cells #[.string e.1,.int .i64 e.2.kind,.string e.2.name,.int .i64 e.2.n,.slice a e.2.args.length c] 40)) ((hA.keep fun b hb'=>hB1.block b (Nat.lt_of_lt_of_le hb' hn)).keep fun b hb'=>hx.block b (Nat.lt_of_lt_of_le hb' hn1))) (hB1.alloc hB1.size _) hn (Nat.le_refl _) (Nat.le_trans hB1.size hx.size) hl (by simp) rfl
 exact⟨v1,w1,hr,hB1,v2,w2,hr2,o2,hB2⟩
theorem push_bb:∃ v1 w1,(Builtin.append_ #[35,35] ty1 #[.slice (some ⟨W.heap.size,0,none⟩) 0 0,v]).run Tryz.prog ((W.alloc (.cells #[] 40)).alloc (.cells #[.string e.1,.int .i64 e.2.kind,.string e.2.name,.int .i64 e.2.n,.slice a e.2.args.length c] 40)).drew=.ok v1 w1∧Below W.heap.size W w1 ∧
  ∃ v2 w2,(Builtin.append_ #[35,35] ty2 #[v1,.slice (some ⟨W.heap.size+1,0,none⟩) 1 1]).run Tryz.prog w1=.ok v2 w2∧PushedB n W (l++[e]) v2 w2:=by
 have hb0:Below W.heap.size W (W.alloc (.cells #[] 40)):=(Below.refl _ _).alloc (Nat.le_refl _) _
 have hb:Below W.heap.size W ((W.alloc (.cells #[] 40)).alloc (.cells #[.string e.1,.int .i64 e.2.kind,.string e.2.name,.int .i64 e.2.n,.slice a e.2.args.length c] 40)).drew:=(hb0.alloc hb0.size _).drew
 have hnew:((W.alloc (.cells #[] 40)).alloc (.cells #[.string e.1,.int .i64 e.2.kind,.string e.2.name,.int .i64 e.2.n,.slice a e.2.args.length c] 40)).heap[W.heap.size+1]? = some (.cells #[.string e.1,.int .i64 e.2.kind,.string e.2.name,.int .i64 e.2.n,.slice a e.2.args.length c] 40 (0,0)):=alloc_new (by simp)
 obtain⟨v1,w1,hr,o1,hB1,hg⟩:=append_bnds ty1 (n:=n) (wi:=W) (wy:=((W.alloc (.cells #[] 40)).alloc (.cells #[.string e.1,.int .i64 e.2.kind,.string e.2.name,.int .i64 e.2.n,.slice a e.2.args.length c] 40)).drew) (lo:=W.heap.size) (l1:=[]) (rowB_none ((heap_alloc_old (W.alloc (.cells #[] 40)) (.cells #[.string e.1,.int .i64 e.2.kind,.string e.2.name,.int .i64 e.2.n,.slice a e.2.args.length c] 40) (by simp)).trans (heap_alloc_new W (.cells #[] 40))) (Nat.le_refl _)) (h.low hn hb) hb hn (Nat.le_refl _) hb.size (by simp) hl (List.nil_append l)
 obtain⟨v2,w2,hr2,o2,hB2,_⟩:=append_bnds ty2 (n:=n) (wi:=W) (wy:=w1) (lo:=W.heap.size) o1 (rowB_one ((hg.block (W.heap.size+1) (by simp) (by simp[Value.ownBlock])).trans hnew) (hA.keep fun b hb'=>hB1.block b (Nat.lt_of_lt_of_le hb' hn))) hB1 hn (Nat.le_refl _) hB1.size hl (by simp) rfl
 exact⟨v1,w1,hr,hB1,v2,w2,hr2,o2,hB2⟩
theorem push_bc:∃ v1 w1,(Builtin.append_ #[35,35] ty1 #[.slice (some ⟨W.heap.size+1,0,none⟩) 0 0,v]).run Tryz.prog ((W.alloc (.cells #[.string e.1,.int .i64 e.2.kind,.string e.2.name,.int .i64 e.2.n,.slice a e.2.args.length c] 40)).alloc (.cells #[] 40)).drew=.ok v1 w1∧Below W.heap.size W w1 ∧
  ∃ v2 w2,(Builtin.append_ #[35,35] ty2 #[v1,.slice (some ⟨W.heap.size,0,none⟩) 1 1]).run Tryz.prog w1=.ok v2 w2∧PushedB n W (l++[e]) v2 w2:=by
 have hb0:Below W.heap.size W (W.alloc (.cells #[.string e.1,.int .i64 e.2.kind,.string e.2.name,.int .i64 e.2.n,.slice a e.2.args.length c] 40)):=(Below.refl _ _).alloc (Nat.le_refl _) _
 have hb:Below W.heap.size W ((W.alloc (.cells #[.string e.1,.int .i64 e.2.kind,.string e.2.name,.int .i64 e.2.n,.slice a e.2.args.length c] 40)).alloc (.cells #[] 40)).drew:=(hb0.alloc hb0.size _).drew
 have hnew:((W.alloc (.cells #[.string e.1,.int .i64 e.2.kind,.string e.2.name,.int .i64 e.2.n,.slice a e.2.args.length c] 40)).alloc (.cells #[] 40)).heap[W.heap.size]? = some (.cells #[.string e.1,.int .i64 e.2.kind,.string e.2.name,.int .i64 e.2.n,.slice a e.2.args.length c] 40 (0,0)):=(heap_alloc_old (W.alloc (.cells #[.string e.1,.int .i64 e.2.kind,.string e.2.name,.int .i64 e.2.n,.slice a e.2.args.length c] 40)) (.cells #[] 40) (by simp)).trans (heap_alloc_new W _)
 have hm:((W.alloc (.cells #[.string e.1,.int .i64 e.2.kind,.string e.2.name,.int .i64 e.2.n,.slice a e.2.args.length c] 40)).alloc (.cells #[] 40)).heap[W.heap.size+1]? = some (.cells #[] 40 (0,0)):=alloc_new (by simp)
 obtain⟨v1,w1,hr,o1,hB1,hg⟩:=append_bnds ty1 (n:=n) (wi:=W) (wy:=((W.alloc (.cells #[.string e.1,.int .i64 e.2.kind,.string e.2.name,.int .i64 e.2.n,.slice a e.2.args.length c] 40)).alloc (.cells #[] 40)).drew) (lo:=W.heap.size) (l1:=[]) (rowB_none hm (by omega)) (h.low hn hb) hb hn (Nat.le_refl _) hb.size (by simp) hl (List.nil_append l)
 obtain⟨v2,w2,hr2,o2,hB2,_⟩:=append_bnds ty2 (n:=n) (wi:=W) (wy:=w1) (lo:=W.heap.size) o1 (rowB_one ((hg.block W.heap.size (by simp;omega) (by simp[Value.ownBlock])).trans hnew) (hA.keep fun b hb'=>hB1.block b (Nat.lt_of_lt_of_le hb' hn))) hB1 hn (Nat.le_refl _) hB1.size hl (by simp) rfl
 exact⟨v1,w1,hr,hB1,v2,w2,hr2,o2,hB2⟩
end
def FindPost (w:World)(b:Bool)(e:Ending)(w':World):Prop :=
 ∃ (k m:Int) (s:ByteArray) (a:Option Addr) (z c:Nat),e=.returned (.tuple #[.agg #[.int .i64 k,.string s,.int .i64 m,.slice a z c],.bool b])∧Below w.heap.size w w'
theorem lk_any (l:Fnd)(x:ByteArray):(lkF l x).isSome=l.any fun e=>eqN e.1 x:=by
 unfold lkF
 rw[Option.isSome_map,Bool.eq_iff_iff,List.find?_isSome,List.any_eq_true]
theorem anyB_take (l:Fnd)(p:ByteArray × Ty→Bool)(k:Nat)(h:k<l.length):(l.take (k+1)).any p=((l.take k).any p || p l[k]):=by
 rw[List.take_add_one,List.getElem?_eq_getElem h,List.any_append];simp only[Option.toList_some,List.any_cons,List.any_nil,Bool.or_false]
set_option maxRecDepth 100000 in
set_option maxHeartbeats 1600000 in
theorem find_any (n lo:Nat)(l:Fnd)(v:Value)(x:ByteArray)(w:World)(h:RowB n lo w v l)(hn:n≤w.heap.size)(hl:l.length≤1000000000):Calls Tryz.prog 59 #[v,.string x] w (FindPost w (lkF l x).isSome):=by
 obtain⟨a,cap,rfl⟩:=h.form
 have hz:Below w.heap.size w (w.alloc (.cells #[.int .i64 0,.string ⟨#[]⟩,.int .i64 0,.slice none 0 0] 29)):=(Below.refl _ _).alloc (Nat.le_refl _) _
 have k4:=R4.new w (.int .i64 0) (.string ⟨#[]⟩) (.int .i64 0) (.slice none 0 0)
 have HR:=hid (h.low hn hz)
 have HZ:=hid hz
 have c0:=k4.c0
 have c1:=k4.c1
 have c2:=k4.c2
 have c3:=k4.c3
 have f0:=k4.fr 0
 have f1:=k4.fr 1
 have f2:=k4.fr 2
 have f3:=k4.fr 3
 rw[lk_any]
 clear h hz hn
 go_enter Tryz.func59,Tryz.ntmps59
 go_wp2
 generalize w.alloc (.cells #[.int .i64 0,.string ⟨#[]⟩,.int .i64 0,.slice none 0 0] 29)=W0 at *
 go_loopw [6] (fun iv wr=>∃ i:Nat,iv=.int .i64 i∧i≤l.length∧((l.take i).any fun e=>eqN e.1 x)=false∧wr=W0) (fun iv _=>l.length - (intOf iv).toNat)
 case atStart=>exact⟨0,rfl,Nat.zero_le _,rfl,rfl⟩
 case round =>
  obtain⟨i,rfl,hil,hno,rfl⟩:=hrel
  have NO:=hid hno
  clear hno
  by_cases hi:i<l.length
  ·have z0:(0:Int)≤(i:Int):=by omega
   have z1:(i:Int)<(l.length:Int):=by omega
   obtain⟨g,a',c',rfl,hg,g0,⟨g1,g2,g3,g4⟩,_⟩:=HR.out.at_ hi
   have AT:=hid (anyB_take l (fun e=>eqN e.1 x) i hi)
   obtain⟨r,hr,hre⟩:=beqV l[i].1 x
   cases r with
   | true =>
    have F:Hid ((l.any fun e=>eqN e.1 x)=true):=hid (List.any_eq_true.2 ⟨_,List.getElem_mem hi,hre.symm⟩)
    generalize l[i].2=u at *
    generalize l[i].1=nm at *
    clear hre hg
    go_wp2
    have q5:=R4.set4 k4 (.int .i64 u.kind) (.string u.name) (.int .i64 u.n) (.slice a' u.args.length c')
    refine bodyPost_ret (v:=.tuple #[.agg #[.int .i64 u.kind,.string u.name,.int .i64 u.n,.slice a' u.args.length c'],.bool true]) (by simp[results,Tryz.results59,go_sem,q5.c0,q5.c1,q5.c2,q5.c3]) rfl ?_
    rw[F.out]
    exact⟨_,_,_,_,_,_,rfl,HZ.out.set4 (Nat.le_refl _) _ _ _ _⟩
   | false =>
    have ST:Hid (((l.take (i+1)).any fun e=>eqN e.1 x)=false):=hid (by rw[AT.out,NO.out,← hre];rfl)
    clear hre hg
    go_wp2
    go_roundw
    case rel=>exact⟨i+1,by go_num,by omega,ST.out,by trivial⟩
    case measure=>simp[intOf];omega
  ·obtain rfl:i=l.length:=by omega
   have F:Hid ((l.any fun e=>eqN e.1 x)=false):=hid (by have:=NO.out;rwa [List.take_length] at this)
   go_wp2
   have q5:=R4.set4 k4 (.int .i64 0) (.string ⟨#[]⟩) (.int .i64 0) (.slice none 0 0)
   refine bodyPost_ret (v:=.tuple #[.agg #[.int .i64 0,.string ⟨#[]⟩,.int .i64 0,.slice none 0 0],.bool false]) (by simp[results,Tryz.results59,go_sem,q5.c0,q5.c1,q5.c2,q5.c3]) rfl ?_
   rw[F.out]
   exact⟨_,_,_,_,_,_,rfl,HZ.out.set4 (Nat.le_refl _) _ _ _ _⟩
end Go.Proofs.YtofllmemmggapaaGreatDoor.Tp

namespace Go.Proofs.YtofllmemmggapaaGreatDoor.Tp
open Go.RowKit Go.Sort
theorem colL_app (own:List ByteArray):∀ (p1 p2 t1 t2:List Ty) (f:Fnd),p1.length=t1.length→colL own (p1++p2) (t1++t2) f=match colL own p1 t1 f with|none=>none|some g=>colL own p2 t2 g
 | [],p2,[],t2,f,_=>by simp[colL]
 | [],p2,_ :: _,t2,f,h=>by simp at h
 | _ :: _,p2,[],t2,f,h=>by simp at h
 | p :: p1,p2,t :: t1,t2,f,h=>by
  rw[List.cons_append,List.cons_append,colL,colL]
  cases hb:colT own p t f with
  | none=>rfl
  | some g=>exact colL_app own p1 p2 t1 t2 g (by simpa using h)
theorem colL_yes {own:List ByteArray}{ps ts:List Ty}{out g g':Fnd}{i:Nat}(h:colL own (ps.take i) (ts.take i) out=some g)(hi:i<ps.length)(hj:i<ts.length)(hr:colT own ps[i] ts[i] g=some g'):colL own (ps.take (i+1)) (ts.take (i+1)) out=some g':=by
 rw[take_snoc hi,take_snoc hj,colL_app _ _ _ _ _ _ (by simp;omega),h]
 simp only
 rw[colL,hr];simp[colL]
theorem colL_not {own:List ByteArray}{ps ts:List Ty}{out g:Fnd}{i:Nat}(h:colL own (ps.take i) (ts.take i) out=some g)(hi:i<ps.length)(hj:i<ts.length)(hr:colT own ps[i] ts[i] g=none):colL own ps ts out=none:=by
 conv=>lhs;rw[split_at hi,split_at hj]
 rw[colL_app _ _ _ _ _ _ (by simp;omega),h]
 simp only
 rw[colL,hr]
theorem colL_end {own:List ByteArray}{ps ts:List Ty}{out g:Fnd}(h:colL own (ps.take ps.length) (ts.take ps.length) out=some g)(hl:ps.length=ts.length):colL own ps ts out=some g:=by
 rw[List.take_length,hl,List.take_length] at h;exact h
theorem colL_len0 (own:List ByteArray):∀ (ps ts:List Ty) (out l:Fnd),(∀ p∈ps,∀ (t:Ty) (out l:Fnd),colT own p t out=some l→l.length≤out.length+p.size)→colL own ps ts out=some l→l.length≤out.length+sizeL ps
 | [],ts,out,l,_,h=>by rw[colL] at h;injection h with h;subst h;exact Nat.le_add_right _ _
 | p :: ps,ts,out,l,hp,h=>by
  cases ts with
  | nil=>rw[colL] at h;injection h with h;subst h;exact Nat.le_add_right _ _
  | cons t ts =>
   rw[colL] at h
   cases hb:colT own p t out with
   | none=>rw[hb] at h;cases h
   | some g =>
    rw[hb] at h
    have h1:=hp p (by simp) t out g hb
    have h2:=colL_len0 own ps ts g l (fun q hq=>hp q (by simp[hq])) h
    rw[sizeL];omega
theorem colT_len (own:List ByteArray):∀ (p t:Ty) (out l:Fnd),colT own p t out=some l→l.length≤out.length+p.size:=by
 intro p
 induction p using Ty.ind with
 | h p ih =>
  intro t out l h
  rw[colT_eq] at h
  rw[p.size_eq]
  split at h
  ·injection h with h
   subst h
   split
   ·omega
   ·simp
  ·split at h
   ·cases h
   ·have:=colL_len0 own p.args t.args out l ih h;omega
theorem colL_len (own:List ByteArray)(ps ts:List Ty)(out l:Fnd)(h:colL own ps ts out=some l):l.length≤out.length+sizeL ps:=colL_len0 own ps ts out l (fun p _=>colT_len own p) h
def ColPost (n:Nat)(w:World)(o:Option Fnd)(e:Ending)(w':World):Prop :=
 Below w.heap.size w w'∧match o with
 | none=>e=.returned (.tuple #[.slice none 0 0,.bool false])
 | some l=>∃ v,e=.returned (.tuple #[v,.bool true])∧RowB n n w' v l
def ColCut (n:Nat)(wr:World)(o:Option Fnd)(lv bv:Value)(wx:World):Prop :=
 Below wr.heap.size wr wx∧match o with
 | none=>lv=.slice none 0 0∧bv=.bool false
 | some l=>bv=.bool true∧RowB n n wx lv l
theorem ColPost.cut {n:Nat}{wr:World}{o:Option Fnd}{e:Ending}{w':World}(h:ColPost n wr.drew o e w'):∃ lv bv,e=.returned (.tuple #[lv,bv])∧ColCut n wr o lv bv w':=by
 obtain⟨hb,he⟩:=h
 have hb':Below wr.heap.size wr w':=(Below.refl wr.heap.size wr).drew.trans hb
 cases o with
 | none=>exact⟨_,_,he,hb',rfl,rfl⟩
 | some l =>
  obtain⟨v,he,hl⟩:=he
  exact⟨_,_,he,hb',rfl,hl⟩
structure CM (n:Nat)(W:World)(b:Nat)(p t:Ty)(pa ta:Option Addr)(pc tc:Nat)(vs:Value)(own:List ByteArray):Prop where
 kp:R4 W b (.int .i64 p.kind) (.string p.name) (.int .i64 p.n) (.slice pa p.args.length pc)
 kt:R4 W (b+1) (.int .i64 t.kind) (.string t.name) (.int .i64 t.n) (.slice ta t.args.length tc)
 ap:ArgsAt (Lt n) W (.slice pa p.args.length pc) p.args
 at_:ArgsAt (Lt n) W (.slice ta t.args.length tc) t.args
 vs:StrsLow W vs own
 hn:n≤W.heap.size
theorem CM.low {n b:Nat}{W W':World}{p t:Ty}{pa ta:Option Addr}{pc tc:Nat}{vs:Value}{own:List ByteArray}(h:CM n W b p t pa ta pc tc vs own)(hb:Below W.heap.size W W'):CM n W' b p t pa ta pc tc vs own :=
 ⟨h.kp.low hb,h.kt.low hb,h.ap.keep fun b hb'=>hb.block b (Nat.lt_of_lt_of_le hb' h.hn),h.at_.keep fun b hb'=>hb.block b (Nat.lt_of_lt_of_le hb' h.hn),StrsLow.low h.vs hb,Nat.le_trans h.hn hb.size⟩
set_option maxRecDepth 100000 in
set_option maxHeartbeats 6400000 in
theorem collect_any:∀ (p t:Ty) (own:List ByteArray) (out:Fnd) (n:Nat) (pa ta:Option Addr) (pc tc:Nat) (vo vs:Value) (w:World),ArgsAt (Lt n) w (.slice pa p.args.length pc) p.args→ArgsAt (Lt n) w (.slice ta t.args.length tc) t.args→n≤w.heap.size→StrsLow w vs own→RowB n n w vo out→out.length+p.size≤100000000 →
  Calls Tryz.prog 32 #[.agg #[.int .i64 p.kind,.string p.name,.int .i64 p.n,.slice pa p.args.length pc],.agg #[.int .i64 t.kind,.string t.name,.int .i64 t.n,.slice ta t.args.length tc],vs,vo] w (ColPost n w (colT own p t out)):=by
 intro p
 induction p using Ty.ind with
 | h p ih =>
  intro t own out n pa ta pc tc vo vs w hp ht hn hv hR hz
  have hz1:Below w.heap.size w (w.alloc (.cells #[.int .i64 p.kind,.string p.name,.int .i64 p.n,.slice pa p.args.length pc] 29)):=(Below.refl w.heap.size w).alloc (Nat.le_refl _) (.cells #[.int .i64 p.kind,.string p.name,.int .i64 p.n,.slice pa p.args.length pc] 29)
  have hz2:=hz1.alloc hz1.size (.cells #[.int .i64 t.kind,.string t.name,.int .i64 t.n,.slice ta t.args.length tc] 29)
  have kp:=(R4.new w (.int .i64 p.kind) (.string p.name) (.int .i64 p.n) (.slice pa p.args.length pc)).low ((Below.refl _ _).alloc (Nat.le_refl _) (.cells #[.int .i64 t.kind,.string t.name,.int .i64 t.n,.slice ta t.args.length tc] 29))
  have kt:=R4.new (w.alloc (.cells #[.int .i64 p.kind,.string p.name,.int .i64 p.n,.slice pa p.args.length pc] 29)) (.int .i64 t.kind) (.string t.name) (.int .i64 t.n) (.slice ta t.args.length tc)
  rw[show (w.alloc (.cells #[.int .i64 p.kind,.string p.name,.int .i64 p.n,.slice pa p.args.length pc] 29)).heap.size=w.heap.size+1 from by simp] at kt
  have hV:CM n ((w.alloc (.cells #[.int .i64 p.kind,.string p.name,.int .i64 p.n,.slice pa p.args.length pc] 29)).alloc (.cells #[.int .i64 t.kind,.string t.name,.int .i64 t.n,.slice ta t.args.length tc] 29)) w.heap.size p t pa ta pc tc vs own:=⟨kp,kt,hp.keep fun b hb=>hz2.block b (Nat.lt_of_lt_of_le hb hn),ht.keep fun b hb=>hz2.block b (Nat.lt_of_lt_of_le hb hn),StrsLow.low hv hz2,Nat.le_trans hn hz2.size⟩
  have V:=hid hV
  have HZ:=hid hz2
  have RO:=hid (hR.low hn hz2)
  have IH:=hid ih
  have SZ:Hid (out.length+sizeL p.args+1≤100000000):=hid (by rw[p.size_eq] at hz;omega)
  have hpl:p.args.length≤1000000000:=by have h1:=length_le_sizeL p.args;rw[p.size_eq] at hz;omega
  have OL:Hid (out.length≤1000000000):=hid (by omega)
  obtain⟨voa,voc,hvo⟩:=hR.form
  subst hvo
  have c0:=hV.kp.c0
  have c1:=hV.kp.c1
  have c2:=hV.kp.c2
  have c3:=hV.kp.c3
  have d0:=hV.kt.c0
  have d1:=hV.kt.c1
  have d2:=hV.kt.c2
  have d3:=hV.kt.c3
  clear ih hp ht hn hv hR hz hz1 hz2 kp kt hV
  cases h1:(p.kind==1) with
  | true =>
   cases ho:hasN own p.name with
   | true =>
    have CH:=hid (has_any _ vs own p.name _ V.out.vs)
    rw[ho] at CH
    have CF:=hid (find_any n n out (.slice voa out.length voc) p.name _ RO.out V.out.hn OL.out)
    have F:Hid (colT own p t out=some (if (lkF out p.name).isSome then out else out++[(p.name,t)])):=hid (by rw[colT_eq,if_pos ⟨by simpa using h1,ho⟩])
    clear ho
    go_enter Tryz.func32,Tryz.ntmps32
    go_wp2_with fail
    refine CH.out.mono ?_
    rintro e w1 ⟨rfl,rfl⟩
    go_wp2_with fail
    refine CF.out.mono ?_
    rintro e w2 ⟨fk,fm,fs,fa,fz,fc,rfl,hb2⟩
    have hb3:=hb2.trans (((Below.refl w2.heap.size w2).alloc (Nat.le_refl _) (.cells #[.int .i64 fk,.string fs,.int .i64 fm,.slice fa fz fc] 29)).mono hb2.size)
    have V3:=hid (V.out.low hb3)
    have R3:=hid (RO.out.low V.out.hn hb3)
    have H3:=hid (HZ.out.trans (hb3.mono HZ.out.size))
    clear hb2 hb3 c0 c1 c2 c3 d0 d1 d2 d3
    cases hk:(lkF out p.name).isSome with
    | true =>
     have F2:Hid (colT own p t out=some out):=hid (by rw[F.out,hk];rfl)
     clear hk
     go_wp2
     refine bodyPost_ret (v:=.tuple #[.slice voa out.length voc,.bool true]) (by simp[results,Tryz.results32,go_sem]) rfl ?_
     rw[F2.out]
     exact⟨H3.out,_,rfl,R3.out⟩
    | false =>
     have F2:Hid (colT own p t out=some (out++[(p.name,t)])):=hid (by rw[F.out,hk];rfl)
     clear hk
     go_wp2
     generalize w2.alloc (.cells #[.int .i64 fk,.string fs,.int .i64 fm,.slice fa fz fc] 29)=W1 at *
     have c0:=V3.out.kp.c0
     have c1:=V3.out.kp.c1
     have c2:=V3.out.kp.c2
     have c3:=V3.out.kp.c3
     have d0:=V3.out.kt.c0
     have d1:=V3.out.kt.c1
     have d2:=V3.out.kt.c2
     have d3:=V3.out.kt.c3
     have hnl:n≤W1.heap.size:=V3.out.hn
     have NL:=hid hnl
     clear hnl
     have PA:=hid (push_ba 35 35 W1 R3.out NL.out OL.out (e:=(p.name,t)) V3.out.at_)
     have PB:=hid (push_bb 35 35 W1 R3.out NL.out OL.out (e:=(p.name,t)) V3.out.at_)
     have PC:=hid (push_bc 35 35 W1 R3.out NL.out OL.out (e:=(p.name,t)) V3.out.at_)
     have KK:Hid (∀ W:World,Below W1.heap.size W1 W→W.cell? ⟨w.heap.size,1,none⟩=some (.string p.name)∧W.cell? ⟨w.heap.size+1,0,none⟩=some (.int .i64 t.kind)∧W.cell? ⟨w.heap.size+1,1,none⟩=some (.string t.name)∧W.cell? ⟨w.heap.size+1,2,none⟩=some (.int .i64 t.n)∧W.cell? ⟨w.heap.size+1,3,none⟩=some (.slice ta t.args.length tc)):=hid (fun W h=>⟨(V3.out.kp.low h).c1,(V3.out.kt.low h).c0,(V3.out.kt.low h).c1,(V3.out.kt.low h).c2,(V3.out.kt.low h).c3⟩)
     go_region_held3 (fun W=>W.cell? ⟨w.heap.size,1,none⟩=some (.string p.name)∧W.cell? ⟨w.heap.size+1,0,none⟩=some (.int .i64 t.kind)∧W.cell? ⟨w.heap.size+1,1,none⟩=some (.string t.name)∧W.cell? ⟨w.heap.size+1,2,none⟩=some (.int .i64 t.n)∧W.cell? ⟨w.heap.size+1,3,none⟩=some (.slice ta t.args.length tc))
      (first|(with_reducible exact KK.out _ HX2.out)|(with_reducible exact KK.out _ HX1.out)|go_keep)
      (first
       | ((with_reducible show (if Region.wanted _ _=true then Oper.wp _ _ _ (W1.alloc (.cells #[] 40)).drew _ _ else _));refine step_append_ok (by rfl) _ _ _ (by rfl) (by rfl) (by rfl) PA.out ?_;rintro v1 w1' ⟨hx1,hA2⟩;have HX1:=hid hx1;have A2:=hid hA2;obtain⟨e1,e2,e3,e4,e5⟩:=KK.out _ HX1.out;clear hx1 hA2)
       | ((with_reducible show (if Region.wanted _ _=true then Oper.wp _ _ _ ((W1.alloc (.cells #[] 40)).alloc (.cells #[.string p.name,.int .i64 t.kind,.string t.name,.int .i64 t.n,.slice ta t.args.length tc] 40)).drew _ _ else _));refine step_append_ok (by rfl) _ _ _ (by rfl) (by rfl) (by rfl) PB.out ?_;rintro v1 w1' ⟨hx1,hA2⟩;have HX1:=hid hx1;have A2:=hid hA2;obtain⟨e1,e2,e3,e4,e5⟩:=KK.out _ HX1.out;clear hx1 hA2)
       | ((with_reducible show (if Region.wanted _ _=true then Oper.wp _ _ _ ((W1.alloc (.cells #[.string p.name,.int .i64 t.kind,.string t.name,.int .i64 t.n,.slice ta t.args.length tc] 40)).alloc (.cells #[] 40)).drew _ _ else _));refine step_append_ok (by rfl) _ _ _ (by rfl) (by rfl) (by rfl) PC.out ?_;rintro v1 w1' ⟨hx1,hA2⟩;have HX1:=hid hx1;have A2:=hid hA2;obtain⟨e1,e2,e3,e4,e5⟩:=KK.out _ HX1.out;clear hx1 hA2)
       | (refine step_append_ok (by rfl) _ _ _ (by rfl) (by rfl) (by rfl) A2.out ?_;rintro v2 w2' ⟨ho2,hx2⟩;have HO2:=hid ho2;have HX2:=hid hx2;clear ho2 hx2))
     all_goals
      go_wp2
      refine bodyPost_ret (v:=.tuple #[v2,.bool true]) (by simp[results,Tryz.results32,go_sem]) rfl ?_
      rw[F2.out]
      exact⟨H3.out.trans (HX2.out.mono H3.out.size),_,rfl,HO2.out.base NL.out⟩
   | false =>
    have NO:Hid (¬ (p.kind=1∧hasN own p.name=true)):=hid (fun h=>by rw[ho] at h;cases h.2)
    have CH:=hid (has_any _ vs own p.name _ V.out.vs)
    rw[ho] at CH
    clear ho
    go_enter Tryz.func32,Tryz.ntmps32
    go_wp2_with fail
    refine CH.out.mono ?_
    rintro e w1 ⟨rfl,rfl⟩
    cases hk:(p.kind != t.kind) with
    | true =>
     have F:Hid (colT own p t out=none):=hid (by rw[colT_eq,if_neg NO.out,if_pos (by left;simpa using hk)])
     clear NO
     go_wp2
     refine bodyPost_ret (v:=.tuple #[.slice none 0 0,.bool false]) (by simp[results,Tryz.results32,go_sem]) rfl ?_
     rw[F.out]
     exact⟨HZ.out,rfl⟩
    | false =>
     cases hn:(p.n != t.n) with
     | true =>
      have F:Hid (colT own p t out=none):=hid (by rw[colT_eq,if_neg NO.out,if_pos (by right;left;simpa using hn)])
      clear NO
      go_wp2
      refine bodyPost_ret (v:=.tuple #[.slice none 0 0,.bool false]) (by simp[results,Tryz.results32,go_sem]) rfl ?_
      rw[F.out]
      exact⟨HZ.out,rfl⟩
     | false =>
      cases hl:((p.args.length:Int) != (t.args.length:Int)) with
      | true =>
       have F:Hid (colT own p t out=none):=hid (by rw[colT_eq,if_neg NO.out,if_pos (by right;right;left;simp only[bne_iff_ne,ne_eq,Int.natCast_inj] at hl;exact hl)])
       clear NO
       go_wp2
       refine bodyPost_ret (v:=.tuple #[.slice none 0 0,.bool false]) (by simp[results,Tryz.results32,go_sem]) rfl ?_
       rw[F.out]
       exact⟨HZ.out,rfl⟩
      | false =>
       have LE:Hid (p.args.length=t.args.length):=hid (by simp only[bne_eq_false_iff_eq,Int.natCast_inj] at hl;exact hl)
       cases h3:(p.kind==3) with
       | true =>
        by_cases hnm:p.name=t.name
        ·have q1:=beqN_true hnm
         have q2:(p.name.toList != t.name.toList)=false:=by unfold bne;rw[q1];rfl
         have NM:=hid hnm
         clear hnm
         have F:Hid (colT own p t out=colL own p.args t.args out):=hid (by
          rw[colT_eq,if_neg NO.out,if_neg]
          rintro (h|h|h|h)
          ·exact h (by simpa using hk)
          ·exact h (by simpa using hn)
          ·exact h LE.out
          ·exact h.2 NM.out)
         clear NO
         go_wp2
         go_loopw [3,13] (fun ov iv wr=>∃ (i:Nat) (g:Fnd),iv=.int .i64 i∧i≤p.args.length∧colL own (p.args.take i) (t.args.take i) out=some g∧RowB n n wr ov g∧CM n wr w.heap.size p t pa ta pc tc vs own∧Below w.heap.size w wr) (fun _ iv _=>p.args.length - (intOf iv).toNat)
         case atStart=>exact⟨0,out,rfl,Nat.zero_le _,by simp[colL],RO.out,V.out,HZ.out⟩
         case round =>
          clear V HZ RO
          obtain⟨i,g,rfl,hil,hg,hR,hV,hB⟩:=hrel
          have GE:=hid hg
          have VR:=hid hV
          have RR:=hid hR
          have BR:=hid hB
          have c3:=hV.kp.c3
          by_cases hi:i<p.args.length
          ·have z0:(0:Int)≤(i:Int):=by omega
           have z1:(i:Int)<(p.args.length:Int):=by omega
           have hj:i<t.args.length:=by have:=LE.out;omega
           have z2:(i:Int)<(t.args.length:Int):=by omega
           obtain⟨b,off,a',c',rfl,hb,⟨f0,f1,f2,f3⟩,hs⟩:=hV.ap.at_ hi
           obtain⟨tb,toff,ta',tc',rfl,htb,⟨g0,g1,g2,g3⟩,hts⟩:=hV.at_.at_ hj
           have c3:=hV.kp.c3
           have d3:=hV.kt.c3
           have hgl:=colL_len own (p.args.take i) (t.args.take i) out g hg
           have CI:=hid ((IH.out p.args[i] (List.getElem_mem hi) t.args[i] own g n a' ta' c' tc' _ vs wr.drew (hs.keep (A:=wr) (B:=wr.drew) fun _ _=>rfl) (hts.keep (A:=wr) (B:=wr.drew) fun _ _=>rfl) hV.hn (StrsAt.keep (A:=wr) (B:=wr.drew) (fun _ _=>rfl) hV.vs) (hR.low hV.hn (Below.refl _ _).drew) (by have h1:=sizeL_take p.args i hi;have h2:=sizeL_take_le p.args (i+1);have:=SZ.out;omega)).mono fun e w' h=>h.cut)
           have YES:=hid (fun g'=>colL_yes (own:=own) (out:=out) (g:=g) (g':=g') hg hi hj)
           have NOT:=hid (colL_not (own:=own) (out:=out) (g:=g) hg hi hj)
           clear hg hR hV hB hs hts hb htb hgl
           generalize hr:colT own p.args[i] t.args[i] g=r at *
           generalize p.args[i]=x at *
           generalize t.args[i]=y at *
           clear hr
           go_upto_region 13 with fail
           go_cut [14,15] from 83 to 99 (fun lv bv wx=>ColCut n wr r lv bv wx)
           case first =>
            go_region_law (go_simp;go_at_call 32;(with_reducible refine CI.out.mono ?_);rintro e w4 ⟨lv4,bv4,rfl,hc4⟩;have HC4:=hid hc4;clear hc4)
            all_goals
             go_wp2_with fail
             go_meet
             exact HC4.out
           obtain⟨hbc,hrc⟩:=hcut
           have KC:=hid (BR.out.trans (hbc.mono BR.out.size))
           have VC:=hid (VR.out.low hbc)
           clear hbc
           cases r with
           | none =>
            obtain⟨rfl,rfl⟩:=hrc
            have F2:=hid (F.out.trans (NOT.out rfl))
            go_wp2
            refine bodyPost_ret (v:=.tuple #[.slice none 0 0,.bool false]) (by simp[results,Tryz.results32,go_sem]) rfl ?_
            rw[F2.out]
            exact⟨KC.out,rfl⟩
           | some g' =>
            obtain⟨rfl,hl⟩:=hrc
            have HL:=hid hl
            have GY:=hid (YES.out g' rfl)
            clear hl
            go_wp2
            go_roundw
            case rel=>exact⟨i+1,g',by go_num,by omega,GY.out,HL.out,VC.out,KC.out⟩
            case measure=>simp[intOf];omega
          ·obtain rfl:i=p.args.length:=by omega
           have F2:=hid (F.out.trans (colL_end GE.out LE.out))
           clear hg hR hV hB
           go_wp2
           refine bodyPost_ret (v:=.tuple #[u3,.bool true]) (by simp[results,Tryz.results32,go_sem]) rfl ?_
           rw[F2.out]
           exact⟨BR.out,_,rfl,RR.out⟩
        ·have q1:=beqN_false hnm
         have q2:(p.name.toList != t.name.toList)=true:=by unfold bne;rw[q1];rfl
         have F:Hid (colT own p t out=none):=hid (by rw[colT_eq,if_neg NO.out,if_pos (by right;right;right;exact⟨by simpa using h3,hnm⟩)])
         clear hnm NO
         go_wp2
         refine bodyPost_ret (v:=.tuple #[.slice none 0 0,.bool false]) (by simp[results,Tryz.results32,go_sem]) rfl ?_
         rw[F.out]
         exact⟨HZ.out,rfl⟩
       | false =>
        have F:Hid (colT own p t out=colL own p.args t.args out):=hid (by
         rw[colT_eq,if_neg NO.out,if_neg]
         rintro (h|h|h|h)
         ·exact h (by simpa using hk)
         ·exact h (by simpa using hn)
         ·exact h LE.out
         ·rw[beq_eq_false_iff_ne] at h3;exact h3 h.1)
        clear NO
        go_wp2
        go_loopw [3,13] (fun ov iv wr=>∃ (i:Nat) (g:Fnd),iv=.int .i64 i∧i≤p.args.length∧colL own (p.args.take i) (t.args.take i) out=some g∧RowB n n wr ov g∧CM n wr w.heap.size p t pa ta pc tc vs own∧Below w.heap.size w wr) (fun _ iv _=>p.args.length - (intOf iv).toNat)
        case atStart=>exact⟨0,out,rfl,Nat.zero_le _,by simp[colL],RO.out,V.out,HZ.out⟩
        case round =>
         clear V HZ RO
         obtain⟨i,g,rfl,hil,hg,hR,hV,hB⟩:=hrel
         have GE:=hid hg
         have VR:=hid hV
         have RR:=hid hR
         have BR:=hid hB
         have c3:=hV.kp.c3
         by_cases hi:i<p.args.length
         ·have z0:(0:Int)≤(i:Int):=by omega
          have z1:(i:Int)<(p.args.length:Int):=by omega
          have hj:i<t.args.length:=by have:=LE.out;omega
          have z2:(i:Int)<(t.args.length:Int):=by omega
          obtain⟨b,off,a',c',rfl,hb,⟨f0,f1,f2,f3⟩,hs⟩:=hV.ap.at_ hi
          obtain⟨tb,toff,ta',tc',rfl,htb,⟨g0,g1,g2,g3⟩,hts⟩:=hV.at_.at_ hj
          have c3:=hV.kp.c3
          have d3:=hV.kt.c3
          have hgl:=colL_len own (p.args.take i) (t.args.take i) out g hg
          have CI:=hid ((IH.out p.args[i] (List.getElem_mem hi) t.args[i] own g n a' ta' c' tc' _ vs wr.drew (hs.keep (A:=wr) (B:=wr.drew) fun _ _=>rfl) (hts.keep (A:=wr) (B:=wr.drew) fun _ _=>rfl) hV.hn (StrsAt.keep (A:=wr) (B:=wr.drew) (fun _ _=>rfl) hV.vs) (hR.low hV.hn (Below.refl _ _).drew) (by have h1:=sizeL_take p.args i hi;have h2:=sizeL_take_le p.args (i+1);have:=SZ.out;omega)).mono fun e w' h=>h.cut)
          have YES:=hid (fun g'=>colL_yes (own:=own) (out:=out) (g:=g) (g':=g') hg hi hj)
          have NOT:=hid (colL_not (own:=own) (out:=out) (g:=g) hg hi hj)
          clear hg hR hV hB hs hts hb htb hgl
          generalize hr:colT own p.args[i] t.args[i] g=r at *
          generalize p.args[i]=x at *
          generalize t.args[i]=y at *
          clear hr
          go_upto_region 13 with fail
          go_cut [14,15] from 83 to 99 (fun lv bv wx=>ColCut n wr r lv bv wx)
          case first =>
           go_region_law (go_simp;go_at_call 32;(with_reducible refine CI.out.mono ?_);rintro e w4 ⟨lv4,bv4,rfl,hc4⟩;have HC4:=hid hc4;clear hc4)
           all_goals
            go_wp2_with fail
            go_meet
            exact HC4.out
          obtain⟨hbc,hrc⟩:=hcut
          have KC:=hid (BR.out.trans (hbc.mono BR.out.size))
          have VC:=hid (VR.out.low hbc)
          clear hbc
          cases r with
          | none =>
           obtain⟨rfl,rfl⟩:=hrc
           have F2:=hid (F.out.trans (NOT.out rfl))
           go_wp2
           refine bodyPost_ret (v:=.tuple #[.slice none 0 0,.bool false]) (by simp[results,Tryz.results32,go_sem]) rfl ?_
           rw[F2.out]
           exact⟨KC.out,rfl⟩
          | some g' =>
           obtain⟨rfl,hl⟩:=hrc
           have HL:=hid hl
           have GY:=hid (YES.out g' rfl)
           clear hl
           go_wp2
           go_roundw
           case rel=>exact⟨i+1,g',by go_num,by omega,GY.out,HL.out,VC.out,KC.out⟩
           case measure=>simp[intOf];omega
         ·obtain rfl:i=p.args.length:=by omega
          have F2:=hid (F.out.trans (colL_end GE.out LE.out))
          clear hg hR hV hB
          go_wp2
          refine bodyPost_ret (v:=.tuple #[u3,.bool true]) (by simp[results,Tryz.results32,go_sem]) rfl ?_
          rw[F2.out]
          exact⟨BR.out,_,rfl,RR.out⟩
  | false =>
   have NO:Hid (¬ (p.kind=1∧hasN own p.name=true)):=hid (fun h=>by rw[beq_eq_false_iff_ne] at h1;exact h1 h.1)
   go_enter Tryz.func32,Tryz.ntmps32
   cases hk:(p.kind != t.kind) with
   | true =>
    have F:Hid (colT own p t out=none):=hid (by rw[colT_eq,if_neg NO.out,if_pos (by left;simpa using hk)])
    clear NO
    go_wp2
    refine bodyPost_ret (v:=.tuple #[.slice none 0 0,.bool false]) (by simp[results,Tryz.results32,go_sem]) rfl ?_
    rw[F.out]
    exact⟨HZ.out,rfl⟩
   | false =>
    cases hn:(p.n != t.n) with
    | true =>
     have F:Hid (colT own p t out=none):=hid (by rw[colT_eq,if_neg NO.out,if_pos (by right;left;simpa using hn)])
     clear NO
     go_wp2
     refine bodyPost_ret (v:=.tuple #[.slice none 0 0,.bool false]) (by simp[results,Tryz.results32,go_sem]) rfl ?_
     rw[F.out]
     exact⟨HZ.out,rfl⟩
    | false =>
     cases hl:((p.args.length:Int) != (t.args.length:Int)) with
     | true =>
      have F:Hid (colT own p t out=none):=hid (by rw[colT_eq,if_neg NO.out,if_pos (by right;right;left;simp only[bne_iff_ne,ne_eq,Int.natCast_inj] at hl;exact hl)])
      clear NO
      go_wp2
      refine bodyPost_ret (v:=.tuple #[.slice none 0 0,.bool false]) (by simp[results,Tryz.results32,go_sem]) rfl ?_
      rw[F.out]
      exact⟨HZ.out,rfl⟩
     | false =>
      have LE:Hid (p.args.length=t.args.length):=hid (by simp only[bne_eq_false_iff_eq,Int.natCast_inj] at hl;exact hl)
      cases h3:(p.kind==3) with
      | true =>
       by_cases hnm:p.name=t.name
       ·have q1:=beqN_true hnm
        have q2:(p.name.toList != t.name.toList)=false:=by unfold bne;rw[q1];rfl
        have NM:=hid hnm
        clear hnm
        have F:Hid (colT own p t out=colL own p.args t.args out):=hid (by
         rw[colT_eq,if_neg NO.out,if_neg]
         rintro (h|h|h|h)
         ·exact h (by simpa using hk)
         ·exact h (by simpa using hn)
         ·exact h LE.out
         ·exact h.2 NM.out)
        clear NO
        go_wp2
        go_loopw [3,13] (fun ov iv wr=>∃ (i:Nat) (g:Fnd),iv=.int .i64 i∧i≤p.args.length∧colL own (p.args.take i) (t.args.take i) out=some g∧RowB n n wr ov g∧CM n wr w.heap.size p t pa ta pc tc vs own∧Below w.heap.size w wr) (fun _ iv _=>p.args.length - (intOf iv).toNat)
        case atStart=>exact⟨0,out,rfl,Nat.zero_le _,by simp[colL],RO.out,V.out,HZ.out⟩
        case round =>
         clear V HZ RO
         obtain⟨i,g,rfl,hil,hg,hR,hV,hB⟩:=hrel
         have GE:=hid hg
         have VR:=hid hV
         have RR:=hid hR
         have BR:=hid hB
         have c3:=hV.kp.c3
         by_cases hi:i<p.args.length
         ·have z0:(0:Int)≤(i:Int):=by omega
          have z1:(i:Int)<(p.args.length:Int):=by omega
          have hj:i<t.args.length:=by have:=LE.out;omega
          have z2:(i:Int)<(t.args.length:Int):=by omega
          obtain⟨b,off,a',c',rfl,hb,⟨f0,f1,f2,f3⟩,hs⟩:=hV.ap.at_ hi
          obtain⟨tb,toff,ta',tc',rfl,htb,⟨g0,g1,g2,g3⟩,hts⟩:=hV.at_.at_ hj
          have c3:=hV.kp.c3
          have d3:=hV.kt.c3
          have hgl:=colL_len own (p.args.take i) (t.args.take i) out g hg
          have CI:=hid ((IH.out p.args[i] (List.getElem_mem hi) t.args[i] own g n a' ta' c' tc' _ vs wr.drew (hs.keep (A:=wr) (B:=wr.drew) fun _ _=>rfl) (hts.keep (A:=wr) (B:=wr.drew) fun _ _=>rfl) hV.hn (StrsAt.keep (A:=wr) (B:=wr.drew) (fun _ _=>rfl) hV.vs) (hR.low hV.hn (Below.refl _ _).drew) (by have h1:=sizeL_take p.args i hi;have h2:=sizeL_take_le p.args (i+1);have:=SZ.out;omega)).mono fun e w' h=>h.cut)
          have YES:=hid (fun g'=>colL_yes (own:=own) (out:=out) (g:=g) (g':=g') hg hi hj)
          have NOT:=hid (colL_not (own:=own) (out:=out) (g:=g) hg hi hj)
          clear hg hR hV hB hs hts hb htb hgl
          generalize hr:colT own p.args[i] t.args[i] g=r at *
          generalize p.args[i]=x at *
          generalize t.args[i]=y at *
          clear hr
          go_upto_region 13 with fail
          go_cut [14,15] from 83 to 99 (fun lv bv wx=>ColCut n wr r lv bv wx)
          case first =>
           go_region_law (go_simp;go_at_call 32;(with_reducible refine CI.out.mono ?_);rintro e w4 ⟨lv4,bv4,rfl,hc4⟩;have HC4:=hid hc4;clear hc4)
           all_goals
            go_wp2_with fail
            go_meet
            exact HC4.out
          obtain⟨hbc,hrc⟩:=hcut
          have KC:=hid (BR.out.trans (hbc.mono BR.out.size))
          have VC:=hid (VR.out.low hbc)
          clear hbc
          cases r with
          | none =>
           obtain⟨rfl,rfl⟩:=hrc
           have F2:=hid (F.out.trans (NOT.out rfl))
           go_wp2
           refine bodyPost_ret (v:=.tuple #[.slice none 0 0,.bool false]) (by simp[results,Tryz.results32,go_sem]) rfl ?_
           rw[F2.out]
           exact⟨KC.out,rfl⟩
          | some g' =>
           obtain⟨rfl,hl⟩:=hrc
           have HL:=hid hl
           have GY:=hid (YES.out g' rfl)
           clear hl
           go_wp2
           go_roundw
           case rel=>exact⟨i+1,g',by go_num,by omega,GY.out,HL.out,VC.out,KC.out⟩
           case measure=>simp[intOf];omega
         ·obtain rfl:i=p.args.length:=by omega
          have F2:=hid (F.out.trans (colL_end GE.out LE.out))
          clear hg hR hV hB
          go_wp2
          refine bodyPost_ret (v:=.tuple #[u3,.bool true]) (by simp[results,Tryz.results32,go_sem]) rfl ?_
          rw[F2.out]
          exact⟨BR.out,_,rfl,RR.out⟩
       ·have q1:=beqN_false hnm
        have q2:(p.name.toList != t.name.toList)=true:=by unfold bne;rw[q1];rfl
        have F:Hid (colT own p t out=none):=hid (by rw[colT_eq,if_neg NO.out,if_pos (by right;right;right;exact⟨by simpa using h3,hnm⟩)])
        clear hnm NO
        go_wp2
        refine bodyPost_ret (v:=.tuple #[.slice none 0 0,.bool false]) (by simp[results,Tryz.results32,go_sem]) rfl ?_
        rw[F.out]
        exact⟨HZ.out,rfl⟩
      | false =>
       have F:Hid (colT own p t out=colL own p.args t.args out):=hid (by
        rw[colT_eq,if_neg NO.out,if_neg]
        rintro (h|h|h|h)
        ·exact h (by simpa using hk)
        ·exact h (by simpa using hn)
        ·exact h LE.out
        ·rw[beq_eq_false_iff_ne] at h3;exact h3 h.1)
       clear NO
       go_wp2
       go_loopw [3,13] (fun ov iv wr=>∃ (i:Nat) (g:Fnd),iv=.int .i64 i∧i≤p.args.length∧colL own (p.args.take i) (t.args.take i) out=some g∧RowB n n wr ov g∧CM n wr w.heap.size p t pa ta pc tc vs own∧Below w.heap.size w wr) (fun _ iv _=>p.args.length - (intOf iv).toNat)
       case atStart=>exact⟨0,out,rfl,Nat.zero_le _,by simp[colL],RO.out,V.out,HZ.out⟩
       case round =>
        clear V HZ RO
        obtain⟨i,g,rfl,hil,hg,hR,hV,hB⟩:=hrel
        have GE:=hid hg
        have VR:=hid hV
        have RR:=hid hR
        have BR:=hid hB
        have c3:=hV.kp.c3
        by_cases hi:i<p.args.length
        ·have z0:(0:Int)≤(i:Int):=by omega
         have z1:(i:Int)<(p.args.length:Int):=by omega
         have hj:i<t.args.length:=by have:=LE.out;omega
         have z2:(i:Int)<(t.args.length:Int):=by omega
         obtain⟨b,off,a',c',rfl,hb,⟨f0,f1,f2,f3⟩,hs⟩:=hV.ap.at_ hi
         obtain⟨tb,toff,ta',tc',rfl,htb,⟨g0,g1,g2,g3⟩,hts⟩:=hV.at_.at_ hj
         have c3:=hV.kp.c3
         have d3:=hV.kt.c3
         have hgl:=colL_len own (p.args.take i) (t.args.take i) out g hg
         have CI:=hid ((IH.out p.args[i] (List.getElem_mem hi) t.args[i] own g n a' ta' c' tc' _ vs wr.drew (hs.keep (A:=wr) (B:=wr.drew) fun _ _=>rfl) (hts.keep (A:=wr) (B:=wr.drew) fun _ _=>rfl) hV.hn (StrsAt.keep (A:=wr) (B:=wr.drew) (fun _ _=>rfl) hV.vs) (hR.low hV.hn (Below.refl _ _).drew) (by have h1:=sizeL_take p.args i hi;have h2:=sizeL_take_le p.args (i+1);have:=SZ.out;omega)).mono fun e w' h=>h.cut)
         have YES:=hid (fun g'=>colL_yes (own:=own) (out:=out) (g:=g) (g':=g') hg hi hj)
         have NOT:=hid (colL_not (own:=own) (out:=out) (g:=g) hg hi hj)
         clear hg hR hV hB hs hts hb htb hgl
         generalize hr:colT own p.args[i] t.args[i] g=r at *
         generalize p.args[i]=x at *
         generalize t.args[i]=y at *
         clear hr
         go_upto_region 13 with fail
         go_cut [14,15] from 83 to 99 (fun lv bv wx=>ColCut n wr r lv bv wx)
         case first =>
          go_region_law (go_simp;go_at_call 32;(with_reducible refine CI.out.mono ?_);rintro e w4 ⟨lv4,bv4,rfl,hc4⟩;have HC4:=hid hc4;clear hc4)
          all_goals
           go_wp2_with fail
           go_meet
           exact HC4.out
         obtain⟨hbc,hrc⟩:=hcut
         have KC:=hid (BR.out.trans (hbc.mono BR.out.size))
         have VC:=hid (VR.out.low hbc)
         clear hbc
         cases r with
         | none =>
          obtain⟨rfl,rfl⟩:=hrc
          have F2:=hid (F.out.trans (NOT.out rfl))
          go_wp2
          refine bodyPost_ret (v:=.tuple #[.slice none 0 0,.bool false]) (by simp[results,Tryz.results32,go_sem]) rfl ?_
          rw[F2.out]
          exact⟨KC.out,rfl⟩
         | some g' =>
          obtain⟨rfl,hl⟩:=hrc
          have HL:=hid hl
          have GY:=hid (YES.out g' rfl)
          clear hl
          go_wp2
          go_roundw
          case rel=>exact⟨i+1,g',by go_num,by omega,GY.out,HL.out,VC.out,KC.out⟩
          case measure=>simp[intOf];omega
        ·obtain rfl:i=p.args.length:=by omega
         have F2:=hid (F.out.trans (colL_end GE.out LE.out))
         clear hg hR hV hB
         go_wp2
         refine bodyPost_ret (v:=.tuple #[u3,.bool true]) (by simp[results,Tryz.results32,go_sem]) rfl ?_
         rw[F2.out]
         exact⟨BR.out,_,rfl,RR.out⟩
end Go.Proofs.YtofllmemmggapaaGreatDoor.Tp

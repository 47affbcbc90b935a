/- Texts laid together: RfMem2, RfPut, RfNumA. -/
import Derived.Test.YtofllmemmggapaaGreatDoorP29
import Derived.Deep.RegionLaw
import Derived.Deep.CutRange
import Derived.Test.YtofllmemmggapaaGreatDoorP26
import Derived.Deep.QuietTactic
import Derived.BigQuiet

namespace Go.Proofs.YtofllmemmggapaaGreatDoor.Tp
open Go.RowKit
def R2 (w:World)(b:Nat)(c0 c1:Value):Prop:=w.heap[b]? = some (.cells #[c0,c1] 78 (0,0))
section
variable {w w' : World} {b : Nat} {u0 u1 : Value}
theorem R2.c0 (h:R2 w b u0 u1):w.cell? ⟨b,0,none⟩=some u0:=cell_of_row w b 0 _ _ _ h
theorem R2.c1 (h:R2 w b u0 u1):w.cell? ⟨b,1,none⟩=some u1:=cell_of_row w b 1 _ _ _ h
theorem R2.fr (h:R2 w b u0 u1)(i:Nat):w.frozen? ⟨b,i,none⟩=false:=by unfold R2 at h;simp[World.frozen?,h]
theorem R2.lt (h:R2 w b u0 u1):b<w.heap.size:=(Array.getElem?_eq_some_iff.1 h).1
theorem R2.new (w:World)(u0 u1:Value):R2 (w.alloc (.cells #[u0,u1] 78)) w.heap.size u0 u1:=heap_alloc_new w _
theorem R2.low (h:R2 w b u0 u1)(hb:Below w.heap.size w w'):R2 w' b u0 u1:=(hb.block b h.lt).trans h
theorem R2.set0 (h:R2 w b u0 u1)(v:Value):R2 (w.setCell ⟨b,0,none⟩ v) b v u1:=set_row0 h v
theorem R2.set1 (h:R2 w b u0 u1)(v:Value):R2 (w.setCell ⟨b,1,none⟩ v) b u0 v:=set_row0 h v
end
theorem R4.set1 {w:World}{b:Nat}{u0 u1 u2 u3:Value}(h:R4 w b u0 u1 u2 u3)(v:Value):R4 (w.setCell ⟨b,1,none⟩ v) b u0 v u2 u3:=set_row0 h v
theorem R4.set3 {w:World}{b:Nat}{u0 u1 u2 u3:Value}(h:R4 w b u0 u1 u2 u3)(v:Value):R4 (w.setCell ⟨b,3,none⟩ v) b u0 u1 u2 v:=set_row0 h v
structure RAny (S:Nat→Prop)(lo:Nat)(w:World)(v:Value)(acc:List Ty)(svs:List Value):Prop where
 own:w.ownsRow lo 29 4 v acc.length (cellsT acc svs)
 len:svs.length=acc.length
 at_:∀ (j:Nat) (t:Ty) (sv:Value),acc[j]? = some t→svs[j]? = some sv→ArgsAt (fun b=>(S b∨lo≤b)∧b<w.heap.size∧v.ownBlock≠some b) w sv t.args
section
variable {S : Nat → Prop} {lo : Nat} {w w' : World} {v : Value} {acc : List Ty} {svs : List Value}
theorem RAny.nil (S:Nat→Prop)(lo:Nat)(w:World):RAny S lo w (.slice none 0 0) [] []:=⟨World.ownsRow_nil _ _ _ _,rfl,by simp⟩
theorem RAny.low (h:RAny S lo w v acc svs)(hb:Below w.heap.size w w'):RAny S lo w' v acc svs :=
 ⟨own_keep4 h.own fun b hq=>hb.block b (h.own.lt b hq).2,h.len,fun j t sv h1 h2=>((h.at_ j t sv h1 h2).keep fun b hq=>hb.block b hq.2.1).mono fun _ hq=>⟨hq.1,Nat.lt_of_lt_of_le hq.2.1 hb.size,hq.2.2⟩⟩
theorem RAny.off (h:RAny S lo w v acc svs){O:Nat}(hO:O<lo)(hS:∀ b,S b→b<O)(i:Nat)(u:Value):RAny S lo (w.setCell ⟨O,i,none⟩ u) v acc svs:=by
 have hk:∀ b,b≠O→(w.setCell ⟨O,i,none⟩ u).heap[b]? = w.heap[b]? := fun b hb=>Below.heap_setCell w _ u b (fun e=>hb e)
 refine⟨own_keep4 h.own fun b hq=>hk b (by have:=(h.own.lt b hq).1;omega),h.len,fun j t sv h1 h2=>((h.at_ j t sv h1 h2).keep fun b hq=>hk b ?_).mono fun b hq=>⟨hq.1,by simpa using hq.2.1,hq.2.2⟩⟩
 rcases hq.1 with hq|hq
 ·have:=hS b hq;omega
 ·omega
theorem RAny.push (h:RAny S lo w v acc svs)(hlo:lo≤w.heap.size)(hl:acc.length≤1000000000000){t:Ty}{a:Option Addr}{c:Nat}(hx:ArgsAt (fun b=>(S b∨lo≤b)∧b<w.heap.size∧v.ownBlock≠some b) w (.slice a t.args.length c) t.args) :
  ∃ v' w',(Builtin.append_ #[27,27] 27 #[v,.slice (some ⟨w.heap.size,0,none⟩) 1 1]).run Tryz.prog (w.alloc (.cells #[.int .i64 t.kind,.string t.name,.int .i64 t.n,.slice a t.args.length c] 29))=.ok v' w' ∧
   RAny S lo w' v' (acc++[t]) (svs++[.slice a t.args.length c])∧w.grownBy w' v.ownBlock∧w.heap.size<w'.heap.size:=by
 obtain⟨i0,hi0,hz0,hz1,hz3⟩:=info_parts infoRf
 have hg0:w.grownBy (w.alloc (.cells #[.int .i64 t.kind,.string t.name,.int .i64 t.n,.slice a t.args.length c] 29)) v.ownBlock:=⟨rfl,rfl,rfl,by simp,fun k hk _=>heap_alloc_old w _ hk⟩
 obtain⟨g,cap,w',hr,ho,hg,hat,hlt⟩:=run_append_lies (P:=Tryz.prog) (w:=w.alloc (.cells #[.int .i64 t.kind,.string t.name,.int .i64 t.n,.slice a t.args.length c] 29)) 27 27 lo 29 i0 _ 4 56 Tryz.underlying27 hi0 hz0 hz1 hz3 rfl (by omega) v acc.length (cellsT acc svs) (h.own.alloc _) ⟨w.heap.size,0,none⟩ 1 1
  (cell4 t (.slice a t.args.length c)) rfl (World.news_of_block (cs:=#[.int .i64 t.kind,.string t.name,.int .i64 t.n,.slice a t.args.length c]) (t:=29) (fr:=(0,0)) (heap_alloc_new w _)) (by simp[cell4,Value.oneCell']) (by omega) (by unfold maxLen;omega) (by omega) (by simp;omega) (w.heap.size+1) (by simp)
 have hgg:w.grownBy w' v.ownBlock:=⟨hg.os.trans hg0.os,hg.tape.trans hg0.tape,hg.output.trans hg0.output,Nat.le_trans hg0.size hg.size,fun k hk hne=>(hg.block k (by simp;omega) hne).trans (hg0.block k hk hne)⟩
 have hsz:=hg.size
 simp only[World.size_alloc] at hsz
 have kp:∀ {y:Value} {ts:List Ty},ArgsAt (fun b=>(S b∨lo≤b)∧b<w.heap.size∧v.ownBlock≠some b) w y ts→ArgsAt (fun b=>(S b∨lo≤b)∧b<w'.heap.size∧(Value.slice (some ⟨g,0,none⟩) (acc.length+1) cap).ownBlock≠some b) w' y ts:=fun hy =>
  (hy.keep fun b hb=>hgg.block b hb.2.1 (Ne.symm hb.2.2)).mono fun b hb=>⟨hb.1,by omega,fun e=>by
   have e2:g=b:=by simpa [Value.ownBlock] using e
   rcases hat with e3|e3
   ·exact hb.2.2 (by rw[e3,e2])
   ·have:=hb.2.1;omega⟩
 refine⟨_,w',hr,⟨by rw[cellsT_snoc _ _ _ _ h.len,List.length_append];exact ho,by simp[h.len],fun j u y h1 h2=>?_⟩,hgg,by omega⟩
 rcases Nat.lt_or_ge j acc.length with hj|hge
 ·rw[List.getElem?_append_left hj] at h1
  rw[List.getElem?_append_left (by rw[h.len];exact hj)] at h2
  exact kp (h.at_ j u y h1 h2)
 ·have hj:j=acc.length:=by
   have:=(List.getElem?_eq_some_iff.1 h1).1
   simp at this;omega
  subst hj
  rw[List.getElem?_append_right (Nat.le_refl _)] at h1
  rw[← h.len,List.getElem?_append_right (Nat.le_refl _)] at h2
  simp at h1 h2
  subst h1 h2
  exact kp hx
theorem RAny.args (h:RAny S lo w v acc svs):ArgsAt (fun b=>(S b∨lo≤b)∧b<w.heap.size) w v acc:=by
 rcases h.own.2 with ⟨rfl,h0⟩|⟨g,cap,cur,rfl,hb,hg,h1,h2,h3,h4⟩
 ·have:acc=[]:=List.eq_nil_of_length_eq_zero h0
  subst this
  exact .nil _ _
 ·refine .mk g 0 cap acc (fun i=>svs.getD i (.slice none 0 0)) ⟨.inr hb,(Array.getElem?_eq_some_iff.1 hg).1⟩ (by unfold maxLen at h2;omega) (fun i hi=>?_) (fun i hi=>?_)
  ·have hi':i<svs.length:=by rw[h.len];exact hi
   obtain⟨a0,a1,a2,a3⟩:=cellsT_at acc svs h.len i hi hi'
   have hc:=h.own.cells (g:=g) rfl
   have b0:=hc _ _ a0
   have b1:=hc _ _ a1
   have b2:=hc _ _ a2
   have b3:=hc _ _ a3
   rw[addr_add0] at b0 b1 b2 b3
   simp only[Nat.zero_add] at b0 b1 b2 b3 ⊢
   rw[List.getD_eq_getElem?_getD,List.getElem?_eq_getElem hi']
   exact⟨b0,b1,b2,b3⟩
  ·have hi':i<svs.length:=by rw[h.len];exact hi
   simp only[List.getD_eq_getElem?_getD,List.getElem?_eq_getElem hi',Option.getD_some]
   exact (h.at_ i _ _ (List.getElem?_eq_getElem hi) (List.getElem?_eq_getElem hi')).mono fun b hb=>⟨hb.1,hb.2.1⟩
theorem RAny.form (h:RAny S lo w v acc svs):∃ a c,v=.slice a acc.length c:=own_form h.own
end
structure RPutMem (w W:World)(t u:Ty)(a ua:Option Addr)(c uc:Nat):Prop where
 hz:Below w.heap.size w W
 size:W.heap.size=w.heap.size+4
 kt:R4 W w.heap.size (.int .i64 t.kind) (.string t.name) (.int .i64 t.n) (.slice a t.args.length c)
 ku:R4 W (w.heap.size+1) (.int .i64 u.kind) (.string u.name) (.int .i64 u.n) (.slice ua u.args.length uc)
 kr:R4 W (w.heap.size+1+1) (.int .i64 0) (.string ⟨#[]⟩) (.int .i64 0) (.slice none 0 0)
 ko:R4 W (w.heap.size+1+1+1) (.int .i64 t.kind) (.string t.name) (.int .i64 t.n) (.slice none 0 0)
theorem alloc4 {T:TypeId}(w:World)(x0 x1 x2 x3:Array Value):let W:=(((w.alloc (.cells x0 T)).alloc (.cells x1 T)).alloc (.cells x2 T)).alloc (.cells x3 T);
  Below w.heap.size w W∧W.heap.size=w.heap.size+4∧W.heap[w.heap.size]? = some (.cells x0 T (0,0))∧W.heap[w.heap.size+1]? = some (.cells x1 T (0,0))∧W.heap[w.heap.size+2]? = some (.cells x2 T (0,0))∧W.heap[w.heap.size+3]? = some (.cells x3 T (0,0)):=by
 intro W
 have h0:=heap_alloc_new w (.cells x0 T)
 have h1:=heap_alloc_new (w.alloc (.cells x0 T)) (.cells x1 T)
 have h2:=heap_alloc_new ((w.alloc (.cells x0 T)).alloc (.cells x1 T)) (.cells x2 T)
 have h3:=heap_alloc_new (((w.alloc (.cells x0 T)).alloc (.cells x1 T)).alloc (.cells x2 T)) (.cells x3 T)
 have s1:(w.alloc (.cells x0 T)).heap.size=w.heap.size+1:=by simp
 have s2:((w.alloc (.cells x0 T)).alloc (.cells x1 T)).heap.size=w.heap.size+2:=by simp
 have s3:(((w.alloc (.cells x0 T)).alloc (.cells x1 T)).alloc (.cells x2 T)).heap.size=w.heap.size+3:=by simp
 rw[s1] at h1
 rw[s2] at h2
 rw[s3] at h3
 have b0:Below w.heap.size w (w.alloc (.cells x0 T)):=(Below.refl _ _).alloc (Nat.le_refl _) _
 have b1:=b0.alloc b0.size (.cells x1 T)
 have b2:=b1.alloc b1.size (.cells x2 T)
 have b3:=b2.alloc b2.size (.cells x3 T)
 refine⟨b3,by simp[W],?_,?_,?_,h3⟩
 ·exact (heap_alloc_old _ _ (by rw[s3];omega)).trans ((heap_alloc_old _ _ (by rw[s2];omega)).trans ((heap_alloc_old _ _ (by rw[s1];omega)).trans h0))
 ·exact (heap_alloc_old _ _ (by rw[s3];omega)).trans ((heap_alloc_old _ _ (by rw[s2];omega)).trans h1)
 ·exact (heap_alloc_old _ _ (by rw[s3];omega)).trans h2
theorem rputMem (w:World)(t u:Ty)(a ua:Option Addr)(c uc:Nat):RPutMem w ((((w.alloc (.cells #[.int .i64 t.kind,.string t.name,.int .i64 t.n,.slice a t.args.length c] 29)).alloc (.cells #[.int .i64 u.kind,.string u.name,.int .i64 u.n,.slice ua u.args.length uc] 29)).alloc (.cells #[.int .i64 0,.string ⟨#[]⟩,.int .i64 0,.slice none 0 0] 29)).alloc (.cells #[.int .i64 t.kind,.string t.name,.int .i64 t.n,.slice none 0 0] 29)) t u a ua c uc:=by
 obtain⟨h0,h1,h2,h3,h4,h5⟩:=alloc4 (T:=29) w #[.int .i64 t.kind,.string t.name,.int .i64 t.n,.slice a t.args.length c] #[.int .i64 u.kind,.string u.name,.int .i64 u.n,.slice ua u.args.length uc] #[.int .i64 0,.string ⟨#[]⟩,.int .i64 0,.slice none 0 0] #[.int .i64 t.kind,.string t.name,.int .i64 t.n,.slice none 0 0]
 exact⟨h0,h1,h2,h3,h4,h5⟩
structure PutInv (S:Nat→Prop)(O lo:Nat)(W wr:World)(k:Int)(s:ByteArray)(n:Int)(v:Value)(acc:List Ty)(svs:List Value):Prop where
 ko:R4 wr O (.int .i64 k) (.string s) (.int .i64 n) v
 row:RAny S lo wr v acc svs
 kp:Kp lo (fun b=>b=O) W wr
theorem PutInv.kept {S:Nat→Prop}{O lo:Nat}{W wr:World}{k:Int}{s:ByteArray}{n:Int}{v:Value}{acc:List Ty}{svs:List Value}(h:PutInv S O lo W wr k s n v acc svs){b:Nat}(hb:b<lo)(hne:b≠O):wr.heap[b]? = W.heap[b]? := h.kp.block b hb hne
theorem PutInv.step {S:Nat→Prop}{O lo:Nat}{W wr w4 w7:World}{k:Int}{s:ByteArray}{n:Int}{v v':Value}{acc:List Ty}{svs:List Value}{y:Ty}{sv:Value}(h:PutInv S O lo W wr k s n v acc svs)(hO:O<lo)(hS:∀ b,S b→b<O)(hlo:lo≤wr.heap.size)(hb:Below wr.heap.size wr w4)
  (hr:RAny S lo w7 v' (acc++[y]) (svs++[sv])) (hg:w4.grownBy w7 v.ownBlock):PutInv S O lo W (w7.setCell ⟨O,3,none⟩ v') k s n v' (acc++[y]) (svs++[sv]):=by
 have hv:∀ b,v.ownBlock=some b→lo≤b:=fun b e=>(h.row.own.lt b e).1
 refine⟨R4.set3 ((h.ko.low hb).grown hg (fun e=>by have:=hv O e;omega)) v',hr.off hO hS 3 v',?_⟩
 exact ((h.kp.below hb hlo).grown hg (Nat.le_trans hlo hb.size) (fun b e=>.inl (hv b e))).setCell (.inr rfl) v'
theorem PutInv.end_ {S:Nat→Prop}{O lo:Nat}{w W wr:World}{k:Int}{s:ByteArray}{n:Int}{a:Option Addr}{c:Nat}{acc:List Ty}{svs:List Value}(h:PutInv S O lo W wr k s n (.slice a acc.length c) acc svs)(hS:∀ b,S b→b<w.heap.size)(hW:Below w.heap.size w W)(hO:w.heap.size≤O)(hOl:O<lo){r:Nat}(hr:w.heap.size≤r)(hrl:r<lo)(v0 v1 v2 v3:Value) :
  ArgsAt (New S w ((((wr.setCell ⟨r,0,none⟩ v0).setCell ⟨r,1,none⟩ v1).setCell ⟨r,2,none⟩ v2).setCell ⟨r,3,none⟩ v3)) ((((wr.setCell ⟨r,0,none⟩ v0).setCell ⟨r,1,none⟩ v1).setCell ⟨r,2,none⟩ v2).setCell ⟨r,3,none⟩ v3) (.slice a acc.length c) acc ∧
  Below w.heap.size w ((((wr.setCell ⟨r,0,none⟩ v0).setCell ⟨r,1,none⟩ v1).setCell ⟨r,2,none⟩ v2).setCell ⟨r,3,none⟩ v3):=by
 have hk:Kp w.heap.size (fun _=>False) w wr:=(Kp.of_below hW).trans (h.kp.mono (n:=w.heap.size) (T':=fun _=>False) (by omega) (fun b hb e=>by omega)) (Nat.le_refl _) (fun _ _ e=>e)
 have hB:=hk.to_below
 refine⟨(h.row.args.keep fun b hb=>?_).mono fun b hb=>?_,hB.set4 hr v0 v1 v2 v3⟩
 ·have hne:b≠r:=by
   rcases hb.1 with h1|h1
   ·have:=hS b h1;omega
   ·omega
  rw[Below.heap_setCell _ _ _ _ hne,Below.heap_setCell _ _ _ _ hne,Below.heap_setCell _ _ _ _ hne,Below.heap_setCell _ _ _ _ hne]
 ·rcases hb.1 with h1|h1
  ·exact .inl h1
  ·exact .inr ⟨by omega,by simpa using hb.2⟩
def RPutSaid (kd:Int)(nm:ByteArray)(n:Int)(p:Ty→Bool)(u t:Ty):Prop:=∀ (S:Nat→Prop) (a ua:Option Addr) (c uc:Nat) (w:World),ArgsAt S w (.slice a t.args.length c) t.args→ArgsAt S w (.slice ua u.args.length uc) u.args→(∀ b,S b→b<w.heap.size)→Std t→t.size≤1000000000000 →
  Calls Tryz.prog 62 #[tv t a c,.int .i64 kd,.string nm,.int .i64 n,tv u ua uc] w (TP S (sbT p u t) w)
theorem sb_hit {p:Ty→Bool}{u t:Ty}(h:p (nodeT t)=true):sbT p u t=u:=by rw[sbT_eq,if_pos h]
theorem sb_miss {p:Ty→Bool}{u t:Ty}(h:p (nodeT t)=false):sbT p u t=.mk t.kind t.name t.n (t.args.map (sbT p u)):=by rw[sbT_eq,if_neg (by rw[h];decide)]
set_option maxRecDepth 100000 in
set_option maxHeartbeats 1600000 in
theorem rput_hit (p:Ty→Bool)(u t:Ty)(hp:p (nodeT t)=true):RPutSaid t.kind t.name t.n p u t:=by
 intro S a ua c uc w hA hU hS hs hsz
 have E:=hid (sb_hit (u:=u) hp)
 have hz:Below w.heap.size w (((w.alloc (.cells #[.int .i64 t.kind,.string t.name,.int .i64 t.n,.slice a t.args.length c] 29)).alloc (.cells #[.int .i64 u.kind,.string u.name,.int .i64 u.n,.slice ua u.args.length uc] 29)).alloc (.cells #[.int .i64 u.kind,.string u.name,.int .i64 u.n,.slice ua u.args.length uc] 29)):=((((Below.refl _ _).alloc (Nat.le_refl _) _).alloc (by simp) _).alloc (by simp;omega) _)
 have h3:=alloc4 (T:=29) w #[.int .i64 t.kind,.string t.name,.int .i64 t.n,.slice a t.args.length c] #[.int .i64 u.kind,.string u.name,.int .i64 u.n,.slice ua u.args.length uc] #[.int .i64 0,.string ⟨#[]⟩,.int .i64 0,.slice none 0 0] #[]
 have kt:R4 (((w.alloc (.cells #[.int .i64 t.kind,.string t.name,.int .i64 t.n,.slice a t.args.length c] 29)).alloc (.cells #[.int .i64 u.kind,.string u.name,.int .i64 u.n,.slice ua u.args.length uc] 29)).alloc (.cells #[.int .i64 0,.string ⟨#[]⟩,.int .i64 0,.slice none 0 0] 29)) w.heap.size (.int .i64 t.kind) (.string t.name) (.int .i64 t.n) (.slice a t.args.length c):=(heap_alloc_old _ _ (by simp<;>omega)).symm.trans h3.2.2.1
 have ku:R4 (((w.alloc (.cells #[.int .i64 t.kind,.string t.name,.int .i64 t.n,.slice a t.args.length c] 29)).alloc (.cells #[.int .i64 u.kind,.string u.name,.int .i64 u.n,.slice ua u.args.length uc] 29)).alloc (.cells #[.int .i64 0,.string ⟨#[]⟩,.int .i64 0,.slice none 0 0] 29)) (w.heap.size+1) (.int .i64 u.kind) (.string u.name) (.int .i64 u.n) (.slice ua u.args.length uc):=(heap_alloc_old _ _ (by simp<;>omega)).symm.trans h3.2.2.2.1
 have HU:=hid (hU.keep fun b hb=>hz.block b (hS b hb))
 have HZ:=hid hz
 have c0:=kt.c0
 have c1:=kt.c1
 have c2:=kt.c2
 have d0:=ku.c0
 have d1:=ku.c1
 have d2:=ku.c2
 have d3:=ku.c3
 clear hp h3 hA hU hS hs hsz kt ku hz
 unfold tv
 go_enter Tryz.func62,Tryz.ntmps62
 go_wp2
 refine bodyPost_ret (v:=tv u ua uc) (by simp[results,Tryz.results62,go_sem,tv]) rfl ?_
 rw[E.out]
 exact⟨ua,uc,rfl,HU.out.mono fun b hb=>.inl hb,HZ.out⟩
theorem New_row {S:Nat→Prop}{lo m:Nat}{w0 w w4:World}{v:Value}{acc:List Ty}{svs:List Value}(hS:∀ b,S b→b<m)(h:RAny S lo w v acc svs)(hlo:lo≤w.heap.size)(hml:m≤lo)(h4:w.heap.size≤w4.heap.size)(h0:w0.heap.size=w.heap.size){b:Nat}(hb:New S w0 w4 b):(S b∨lo≤b)∧b<w4.heap.size∧v.ownBlock≠some b:=by
 rcases hb with hb|hb
 ·have:=hS b hb
  exact⟨.inl hb,by omega,fun e=>by have:=(h.own.lt b e).1;omega⟩
 ·exact⟨.inr (by omega),hb.2,fun e=>by have:=(h.own.lt b e).2;omega⟩
set_option maxRecDepth 100000 in
set_option maxHeartbeats 3200000 in
theorem rput_node (kd:Int)(nm:ByteArray)(n:Int)(p:Ty→Bool)(u t:Ty)(hp:p (nodeT t)=false)(hm:(t.kind==kd)=false∨((t.kind==kd)=true∧(t.name.toList==nm.toList)=false)∨((t.kind==kd)=true∧(t.name.toList==nm.toList)=true∧(t.n==n)=false))(ih:∀ x∈t.args,RPutSaid kd nm n p u x):RPutSaid kd nm n p u t:=by
 intro S a ua c uc w hA hU hS hs hsz
 have E:=hid (sb_miss (u:=u) hp)
 have M:=rputMem w t u a ua c uc
 have hl:t.args.length≤9223372036854775807:=by
  obtain⟨_,_,_,h⟩:=hA.form
  exact h
 have hla:t.args.length≤1000000000000:=by have:=length_le_sizeL t.args;rw[t.size_eq] at hsz;omega
 have SA:=hid hs.args
 have SZ:Hid (∀ x∈t.args,x.size≤1000000000000):=hid (fun x hx=>by have:=size_arg _ hx;rw[t.size_eq] at hsz;omega)
 have IH:=hid ih
 have AH:=hid hA
 have UH:=hid hU
 have HS:=hid hS
 have c0:=M.kt.c0
 have c1:=M.kt.c1
 have c2:=M.kt.c2
 have MH:=hid M
 have I0:Hid (PutInv S (w.heap.size+1+1+1) (w.heap.size+4) ((((w.alloc (.cells #[.int .i64 t.kind,.string t.name,.int .i64 t.n,.slice a t.args.length c] 29)).alloc (.cells #[.int .i64 u.kind,.string u.name,.int .i64 u.n,.slice ua u.args.length uc] 29)).alloc (.cells #[.int .i64 0,.string ⟨#[]⟩,.int .i64 0,.slice none 0 0] 29)).alloc (.cells #[.int .i64 t.kind,.string t.name,.int .i64 t.n,.slice none 0 0] 29)) ((((w.alloc (.cells #[.int .i64 t.kind,.string t.name,.int .i64 t.n,.slice a t.args.length c] 29)).alloc (.cells #[.int .i64 u.kind,.string u.name,.int .i64 u.n,.slice ua u.args.length uc] 29)).alloc (.cells #[.int .i64 0,.string ⟨#[]⟩,.int .i64 0,.slice none 0 0] 29)).alloc (.cells #[.int .i64 t.kind,.string t.name,.int .i64 t.n,.slice none 0 0] 29)) t.kind t.name t.n (.slice none 0 0) [] []):=hid ⟨M.ko,.nil _ _ _,.refl _ _ _⟩
 have P0:Hid (R4 (((w.alloc (.cells #[.int .i64 t.kind,.string t.name,.int .i64 t.n,.slice a t.args.length c] 29)).alloc (.cells #[.int .i64 u.kind,.string u.name,.int .i64 u.n,.slice ua u.args.length uc] 29)).alloc (.cells #[.int .i64 0,.string ⟨#[]⟩,.int .i64 0,.slice none 0 0] 29)) w.heap.size (.int .i64 t.kind) (.string t.name) (.int .i64 t.n) (.slice a t.args.length c)):=hid ((heap_alloc_old _ _ (by simp<;>omega)).symm.trans M.kt)
 have b0:=P0.out.c0
 have b1:=P0.out.c1
 have b2:=P0.out.c2
 clear hp hA hU hS hs hsz M ih P0
 unfold tv
 go_enter Tryz.func62,Tryz.ntmps62
 go_upto_region 1 with fail
 go_cut [28] from 13 to 28 (fun s wx=>s=.bool false∧wx=((w.alloc (.cells #[.int .i64 t.kind,.string t.name,.int .i64 t.n,.slice a t.args.length c] 29)).alloc (.cells #[.int .i64 u.kind,.string u.name,.int .i64 u.n,.slice ua u.args.length uc] 29)).alloc (.cells #[.int .i64 0,.string ⟨#[]⟩,.int .i64 0,.slice none 0 0] 29))
 case first =>
  rcases hm with e1|⟨e1,e2⟩|⟨e1,e2,e3⟩
  all_goals
   go_wp2_with fail
   go_meet
   exact⟨rfl,rfl⟩
 obtain⟨rfl,rfl⟩:=hcut
 go_wp2
 clear b0 b1 b2 c0 c1 c2
 generalize (((w.alloc (.cells #[.int .i64 t.kind,.string t.name,.int .i64 t.n,.slice a t.args.length c] 29)).alloc (.cells #[.int .i64 u.kind,.string u.name,.int .i64 u.n,.slice ua u.args.length uc] 29)).alloc (.cells #[.int .i64 0,.string ⟨#[]⟩,.int .i64 0,.slice none 0 0] 29)).alloc (.cells #[.int .i64 t.kind,.string t.name,.int .i64 t.n,.slice none 0 0] 29)=W3 at *
 go_loopw [12] (fun iv wr=>∃ (i:Nat) (v:Value) (svs:List Value),iv=.int .i64 i∧i≤t.args.length∧PutInv S (w.heap.size+1+1+1) (w.heap.size+4) W3 wr t.kind t.name t.n v ((t.args.take i).map (sbT p u)) svs) (fun iv _=>t.args.length - (intOf iv).toNat)
 case atStart=>exact⟨0,_,_,rfl,Nat.zero_le _,I0.out⟩
 case round =>
  obtain⟨i,v,svs,rfl,hil,hI⟩:=hrel
  have z0:(0:Int)≤(i:Int):=by omega
  have hBw:Below w.heap.size w wr:=((Kp.of_below MH.out.hz).trans (hI.kp.mono (n:=w.heap.size) (T':=fun _=>False) (by omega) (fun b hb e=>by omega)) (Nat.le_refl _) (fun _ _ e=>e)).to_below
  have hws:w.heap.size+4≤wr.heap.size:=by have:=hI.kp.size;rw[MH.out.size] at this;exact this
  have kt:R4 wr w.heap.size (.int .i64 t.kind) (.string t.name) (.int .i64 t.n) (.slice a t.args.length c):=(hI.kept (by omega) (by omega)).trans MH.out.kt
  have ku:R4 wr (w.heap.size+1) (.int .i64 u.kind) (.string u.name) (.int .i64 u.n) (.slice ua u.args.length uc):=(hI.kept (by omega) (by omega)).trans MH.out.ku
  have kr:R4 wr (w.heap.size+1+1) (.int .i64 0) (.string ⟨#[]⟩) (.int .i64 0) (.slice none 0 0):=(hI.kept (by omega) (by omega)).trans MH.out.kr
  have ko:=hI.ko
  have HI:=hid hI
  have BW:=hid hBw
  have KO:=hid ko
  have KR:=hid kr
  have t3:=kt.c3
  have o0:=ko.c0
  have o1:=ko.c1
  have o2:=ko.c2
  have o3:=ko.c3
  by_cases hi:i<t.args.length
  ·have z1:(i:Int)<(t.args.length:Int):=by omega
   obtain⟨b,off,a',cap',rfl,hb,hf,hs⟩:=AH.out.at_ hi
   obtain⟨f0,f1,f2,f3⟩:=hf.keep (hBw.block b (HS.out b hb))
   have hm:=List.getElem_mem hi
   have hBd:=hBw.drew
   have CH:=hid (IH.out _ hm S a' ua cap' uc wr.drew (hs.keep fun b hS=>hBd.block b (HS.out b hS)) (UH.out.keep fun b hS=>hBd.block b (HS.out b hS)) (fun b hS=>Nat.lt_of_lt_of_le (HS.out b hS) hBd.size) (SA.out _ hm) (SZ.out _ hm))
   have u0:=ku.c0
   have u1:=ku.c1
   have u2:=ku.c2
   have u3:=ku.c3
   have ST:Hid ((t.args.take (i+1)).map (sbT p u)=(t.args.take i).map (sbT p u)++[sbT p u t.args[i]]):=hid (by rw[List.take_succ_eq_append_getElem hi,List.map_append];rfl)
   have hal:((t.args.take i).map (sbT p u)).length≤1000000000000:=by simp;omega
   unfold tv at CH
   clear hf hs hBw hBd hm hb hI kt ku kr ko
   generalize t.args[i]=x at *
   generalize sbT p u x=y at *
   generalize (t.args.take i).map (sbT p u)=acc at *
   go_wp2
   go_region_law (first
    | ((with_reducible show (if Region.wanted _ _=true then Oper.wp _ _ _ (World.alloc _ _) _ _ else _));refine step_append_ok (by rfl) _ _ _ (by rfl) (by rfl) (by rfl) PA.out ?_;rintro v7 w7 ⟨hr7,hg7,hl7⟩;obtain⟨a7,c7,hv7⟩:=hr7.form;rw[List.length_append,List.length_singleton] at hv7;subst hv7;have g7:=(K4.out.grown hg7 NV.out).fr 3;have e7:=(K4.out.grown hg7 NV.out).c3;have HR7:=hid hr7;have HG7:=hid hg7;clear hr7 hg7)
    | (go_simp;go_at_call 62;(with_reducible refine CH.out.mono ?_);rintro e w4 ⟨a4,c4,rfl,hA4,hB4⟩;have hb4:Below wr.heap.size wr w4:=(Below.refl _ _).drew.trans hB4;have k4:=KO.out.low hb4;have p0:=k4.c0;have p1:=k4.c1;have p2:=k4.c2;have p3:=k4.c3;have p5:=(k4.low ((Below.refl _ _).alloc (Nat.le_refl _) (.cells #[.int .i64 y.kind,.string y.name,.int .i64 y.n,.slice a4 y.args.length c4] 29))).c3;have K4:=hid k4;have NV:Hid (v.ownBlock≠some (w.heap.size+1+1+1)):=hid (fun e=>by have:=(HI.out.row.own.lt _ e).1;omega);have PA:=hid ((HI.out.row.low hb4).push (Nat.le_trans hws hb4.size) hal (t:=y) (a:=a4) (c:=c4) (hA4.mono fun b hb=>New_row HS.out HI.out.row hws (by omega) hb4.size rfl hb) );have HB4:=hid hb4;clear hb4 k4 hA4 hB4;unfold tv))
   all_goals
    have HI8:=hid (HI.out.step (by omega) (fun b hb=>by have:=HS.out b hb;omega) hws HB4.out HR7.out HG7.out)
    go_wp2
    go_roundw
    case rel=>exact⟨i+1,_,_,by go_num,by omega,by rw[ST.out];exact HI8.out⟩
    case measure=>simp[intOf];omega
  ·obtain rfl:i=t.args.length:=by omega
   have EL:(t.args.take t.args.length).map (sbT p u)=t.args.map (sbT p u):=by rw[List.take_length]
   rw[EL] at hI
   obtain⟨av,cv,hv⟩:=hI.row.form
   subst hv
   have HI2:=hid hI
   have hko:=hI.ko
   rw[List.length_map] at hko
   have o3:=hko.c3
   have r0:=kr.c0
   have r1:=kr.c1
   have r2:=kr.c2
   have r3:=kr.c3
   have f0:=kr.fr 0
   have f1:=kr.fr 1
   have f2:=kr.fr 2
   have f3:=kr.fr 3
   clear hI hBw kt ku kr ko hko EL HI KO
   go_wp2
   have q4:=KR.out.set4 (.int .i64 t.kind) (.string t.name) (.int .i64 t.n) (.slice av t.args.length cv)
   have he:=HI2.out.end_ (w:=w) HS.out MH.out.hz (by omega) (by omega) (r:=w.heap.size+1+1) (by omega) (by omega) (.int .i64 t.kind) (.string t.name) (.int .i64 t.n) (.slice av t.args.length cv)
   refine bodyPost_ret (v:=.agg #[.int .i64 t.kind,.string t.name,.int .i64 t.n,.slice av t.args.length cv]) (by simp[results,Tryz.results62,go_sem,q4.c0,q4.c1,q4.c2,q4.c3]) rfl ?_
   rw[E.out]
   refine⟨av,cv,?_,?_,he.2⟩
   ·show _=Ending.returned (.agg #[.int .i64 t.kind,.string t.name,.int .i64 t.n,.slice av (t.args.map (sbT p u)).length cv])
    rw[List.length_map]
   ·exact he.1
theorem rput_any (kd:Int)(nm:ByteArray)(n:Int)(p:Ty→Bool)(u:Ty)(hp:∀ x,Std x→(p (nodeT x)=true↔x.kind=kd∧x.name=nm∧x.n=n)):∀ t:Ty,RPutSaid kd nm n p u t:=by
 intro t
 induction t using Ty.ind with
 | h t ih =>
  intro S a ua c uc w hA hU hS hs hsz
  cases hq:p (nodeT t) with
  | true =>
   obtain⟨rfl,rfl,rfl⟩:=(hp t hs).1 hq
   exact rput_hit p u t hq S a ua c uc w hA hU hS hs hsz
  | false =>
   refine rput_node kd nm n p u t hq ?_ ih S a ua c uc w hA hU hS hs hsz
   have h:=mt (hp t hs).2 (by rw[hq];decide)
   by_cases h1:t.kind=kd
   ·have e1:(t.kind==kd)=true:=by rw[h1];simp
    by_cases h2:t.name=nm
    ·exact .inr (.inr ⟨e1,beqN_true h2,by rw[beq_eq_false_iff_ne];exact fun h3=>h ⟨h1,h2,h3⟩⟩)
    ·exact .inr (.inl ⟨e1,beqN_false h2⟩)
   ·exact .inl (by rw[beq_eq_false_iff_ne];exact h1)
theorem wpList_append_ok {P:Program}{ops:Array Oper}{rest:List Oper}{o:Oper}{a:Act}{w:World}{Q:Exit→Act→World→Prop}(hgd:o.guard=none)(s x:Operand)(t:TypeId)
  (ho:o.op=.call { callee:=.builtin .append,args:=#[s,x],argTypes:=#[t,t] }) {v vx:Value} (hs:a.eval s=v) (hx:a.eval x=vx) {R:Value→World→Prop}
  (hrun:∃ v' w',(Builtin.append_ #[t,t] o.type #[v,vx]).run P w=.ok v' w'∧R v' w') (h:∀ v' w',R v' w'→wpList P ops Q rest (a.put o.dst v') w'):wpList P ops Q (o :: rest) a w:=by
 refine wpList_plain hgd fun K hK=>?_
 obtain⟨v',w',hr,hR⟩:=hrun
 unfold Oper.wp execOp
 simp only[ho,resolve,invoke,builtin,Sem.run_bind,Sem.run_pure,Result.andThen_ok,List.map_toArray,List.map_cons,List.map_nil,hs,hx,hr]
 exact hK _ _ (h v' w' hR)
theorem ixN_mid (l r:List ByteArray)(x:ByteArray)(h:x∉l):ixN (l++x :: r) x=some l.length:=by
 induction l with
 | nil=>exact ixN_cons_same r x
 | cons y l ih =>
  rw[List.cons_append,ixN_cons_ne _ (fun e=>h (by simp[e])),ih fun hx=>h (by simp[hx])];rfl
theorem ixN_rev (fr:List ByteArray)(x:ByteArray)(k:Nat)(hk:k<fr.length)(h:fr[k]=x)(hno:x∉fr.drop (k+1)):ixN fr.reverse x=some (fr.length - (k+1)):=by
 have e:fr=fr.take k++x :: fr.drop (k+1):=by
  conv=>lhs;rw[← List.take_append_drop k fr,List.drop_eq_getElem_cons hk,h]
 conv=>lhs;rw[e]
 rw[List.reverse_append,List.reverse_cons,List.append_assoc,List.singleton_append,ixN_mid _ _ _ (by simpa using hno)]
 simp
theorem rev_get (tl:List ByteArray)(k:Nat)(hk:k<tl.length):tl.reverse.getD (tl.length - (k+1)) emp=tl[k]:=by
 rw[List.getD_eq_getElem?_getD,List.getElem?_reverse (by omega),show tl.length - 1 - (tl.length - (k+1))=k by omega,List.getElem?_eq_getElem hk];rfl
theorem drop_no {fr:List ByteArray}{k:Nat}(hk:k<fr.length){x:ByteArray}(h1:x∉fr.drop (k+1))(h2:fr[k]≠x):x∉fr.drop k:=by
 rw[List.drop_eq_getElem_cons hk]
 intro h
 rcases List.mem_cons.1 h with h|h
 ·exact h2 h.symm
 ·exact h1 h
def noS (_:Nat):Prop:=False
def RNumPost (w:World)(r:Ty × Nat)(e:Ending)(w':World):Prop:=∃ a c,e=.returned (.tuple #[tv r.1 a c,.int .i64 (r.2:Int)])∧ArgsAt (In w.heap.size w'.heap.size) w' (.slice a r.1.args.length c) r.1.args∧Below w.heap.size w w'
def RNumSaid (L:ByteArray)(but:List ByteArray)(t:Ty):Prop:=∀ (S:Nat→Prop) (a:Option Addr) (c:Nat) (w:World) (vf vt vb:Value) (fr tl:List ByteArray) (k:Nat),ArgsAt S w (.slice a t.args.length c) t.args→(∀ b,S b→b<w.heap.size)→Std t→StrsLow w vf fr→StrsLow w vt tl→fr.length=tl.length→StrsLow w vb but →
  fr.length+t.size≤1000000000000→k+t.size*(but.length+1)≤100000000000000000→Calls Tryz.prog 36 #[tv t a c,.agg #[vf,vt],.string L,vb,.int .i64 (k:Int)] w (RNumPost w (cnT (lname L) but tl.reverse k (dbT fr.reverse t)))
structure RNumMem (w W:World)(t:Ty)(a:Option Addr)(c:Nat)(vf vt:Value):Prop where
 hz:Below w.heap.size w W
 size:W.heap.size=w.heap.size+4
 kt:R4 W w.heap.size (.int .i64 t.kind) (.string t.name) (.int .i64 t.n) (.slice a t.args.length c)
 kn:R2 W (w.heap.size+1) vf vt
 kr:R4 W (w.heap.size+1+1) (.int .i64 0) (.string ⟨#[]⟩) (.int .i64 0) (.slice none 0 0)
 ko:R4 W (w.heap.size+1+1+1) (.int .i64 t.kind) (.string t.name) (.int .i64 t.n) (.slice none 0 0)
theorem alloc4' (w:World)(o0 o1 o2 o3:Obj):let W:=(((w.alloc o0).alloc o1).alloc o2).alloc o3;
  Below w.heap.size w W∧W.heap.size=w.heap.size+4∧W.heap[w.heap.size]? = some o0∧W.heap[w.heap.size+1]? = some o1∧W.heap[w.heap.size+2]? = some o2∧W.heap[w.heap.size+3]? = some o3:=by
 intro W
 have h0:=heap_alloc_new w o0
 have h1:=heap_alloc_new (w.alloc o0) o1
 have h2:=heap_alloc_new ((w.alloc o0).alloc o1) o2
 have h3:=heap_alloc_new (((w.alloc o0).alloc o1).alloc o2) o3
 have s1:(w.alloc o0).heap.size=w.heap.size+1:=by simp
 have s2:((w.alloc o0).alloc o1).heap.size=w.heap.size+2:=by simp
 have s3:(((w.alloc o0).alloc o1).alloc o2).heap.size=w.heap.size+3:=by simp
 rw[s1] at h1
 rw[s2] at h2
 rw[s3] at h3
 have b0:Below w.heap.size w (w.alloc o0):=(Below.refl _ _).alloc (Nat.le_refl _) _
 have b1:=b0.alloc b0.size o1
 have b2:=b1.alloc b1.size o2
 have b3:=b2.alloc b2.size o3
 refine⟨b3,by simp[W],?_,?_,?_,h3⟩
 ·exact (heap_alloc_old _ _ (by rw[s3];omega)).trans ((heap_alloc_old _ _ (by rw[s2];omega)).trans ((heap_alloc_old _ _ (by rw[s1];omega)).trans h0))
 ·exact (heap_alloc_old _ _ (by rw[s3];omega)).trans ((heap_alloc_old _ _ (by rw[s2];omega)).trans h1)
 ·exact (heap_alloc_old _ _ (by rw[s3];omega)).trans h2
theorem rnumMem (w:World)(t:Ty)(a:Option Addr)(c:Nat)(af at':Option Addr)(cf ct:Nat)(fr tl:List ByteArray):RNumMem w ((((w.alloc (.cells #[.int .i64 t.kind,.string t.name,.int .i64 t.n,.slice a t.args.length c] 29)).alloc (.cells #[.slice af fr.length cf,.slice at' tl.length ct] 78)).alloc (.cells #[.int .i64 0,.string ⟨#[]⟩,.int .i64 0,.slice none 0 0] 29)).alloc (.cells #[.int .i64 t.kind,.string t.name,.int .i64 t.n,.slice none 0 0] 29)) t a c (.slice af fr.length cf) (.slice at' tl.length ct):=by
 obtain⟨h0,h1,h2,h3,h4,h5⟩:=alloc4' w (.cells #[.int .i64 t.kind,.string t.name,.int .i64 t.n,.slice a t.args.length c] 29) (.cells #[.slice af fr.length cf,.slice at' tl.length ct] 78) (.cells #[.int .i64 0,.string ⟨#[]⟩,.int .i64 0,.slice none 0 0] 29) (.cells #[.int .i64 t.kind,.string t.name,.int .i64 t.n,.slice none 0 0] 29)
 exact⟨h0,h1,h2,h3,h4,h5⟩
theorem RNumMem.drawn {w W:World}{t:Ty}{a:Option Addr}{c:Nat}{vf vt:Value}(M:RNumMem w W t a c vf vt)(m:Nat):RNumMem w (W.drewN m) t a c vf vt:=by
 have h:Below W.heap.size W (W.drewN m):=drawn_below (Below.refl _ _) m
 exact⟨drawn_below M.hz m,Nat.le_antisymm (by have:=(show (W.drewN m).heap.size=W.heap.size by simp);rw[this,M.size];omega) (by have:=h.size;rw[M.size] at this;exact this),M.kt.low h,M.kn.low h,M.kr.low h,M.ko.low h⟩
theorem R4.off1 {w:World}{b b':Nat}{u0 u1 u2 u3:Value}(h:R4 w b u0 u1 u2 u3)(v:Value)(hne:b≠b':=by omega):R4 (w.setCell ⟨b',1,none⟩ v) b u0 u1 u2 u3:=(Below.heap_setCell w _ v b hne).trans h
theorem cells_low {w W:World}{v:Value}{l:List ByteArray}(h:StrsLow w v l)(hb:Below w.heap.size w W){a:Option Addr}{c:Nat}(e:v=.slice a l.length c):l=[]∨∃ b off,a=some ⟨b,off,none⟩∧∀ j (h:j<l.length),W.cell? ⟨b,off+j,none⟩=some (.string l[j]):=by
 obtain⟨a',c',e',_,_,_,hc⟩:=h
 rw[e] at e'
 obtain rfl:a=a':=by injection e'
 exact hc.imp id fun ⟨b,off,ea,hb',hcc⟩=>⟨b,off,ea,fun j hj=>(hb.cell (p:=⟨b,off+j,none⟩) hb').trans (hcc j hj)⟩
set_option maxRecDepth 100000 in
set_option maxHeartbeats 3200000 in
theorem rnum_var (L:ByteArray)(but:List ByteArray)(t:Ty)(hk1:t.kind=1):RNumSaid L but t:=by
 intro S a c w vf vt vb fr tl k hA hS hs hf ht hlen hb hfl hk
 obtain⟨hn0,hta⟩:=hs.k1 hk1
 have hdb:dbT fr.reverse t=look fr.reverse t.name 0:=by rw[dbT_var _ _ hk1,hn0]
 obtain⟨af,cf,rfl,hcf,_⟩:=id hf
 obtain⟨at',ct,rfl,hct,_⟩:=id ht
 have M:=rnumMem w t a c af at' cf ct fr tl
 have MH:=hid M
 have CF:=hid (cells_low hf M.hz rfl)
 have CTO:=hid (cells_low ht M.hz rfl)
 have e1:(t.kind==1)=true:=by rw[hk1];rfl
 have hfb:fr.length≤1000000000000:=by omega
 have E:=hid (show cnT (lname L) but tl.reverse k (dbT fr.reverse t)=_ from by rw[hdb,cnT_look])
 have c0:=M.kt.c0
 have c1:=M.kt.c1
 have c2:=M.kt.c2
 have N0:=M.kn.c0
 have P0:=(rnumMem w t a c af at' cf ct fr tl).kt
 have Q0:R4 ((((w.alloc (.cells #[.int .i64 t.kind,.string t.name,.int .i64 t.n,.slice a t.args.length c] 29)).alloc (.cells #[.slice af fr.length cf,.slice at' tl.length ct] 78)).alloc (.cells #[.int .i64 0,.string ⟨#[]⟩,.int .i64 0,.slice none 0 0] 29))) w.heap.size (.int .i64 t.kind) (.string t.name) (.int .i64 t.n) (.slice a t.args.length c):=(heap_alloc_old _ _ (by simp<;>omega)).symm.trans P0
 have b0:=Q0.c0
 have b1:=Q0.c1
 have b2:=Q0.c2
 have HLEN:=hid hlen
 have HK1:=hid hk1
 have HN0:=hid hn0
 clear hA hS hs hf ht hb hfl hk hdb hta M P0 Q0 hlen hcf hct hk1 hn0
 unfold tv
 go_enter Tryz.func36,Tryz.ntmps36
 go_wp2
 clear b0 b1 b2 c0 c1 c2 N0
 generalize (((w.alloc (.cells #[.int .i64 t.kind,.string t.name,.int .i64 t.n,.slice a t.args.length c] 29)).alloc (.cells #[.slice af fr.length cf,.slice at' tl.length ct] 78)).alloc (.cells #[.int .i64 0,.string ⟨#[]⟩,.int .i64 0,.slice none 0 0] 29)).alloc (.cells #[.int .i64 t.kind,.string t.name,.int .i64 t.n,.slice none 0 0] 29)=W3 at *
 go_loopw [13] (fun iv wr=>∃ (z:Int) (j:Nat),iv=.int .i64 z∧z=(j:Int) - 1∧j≤fr.length∧t.name∉fr.drop j∧∃ m,wr=W3.drewN m) (fun iv _=>(intOf iv+1).toNat)
 case atStart=>exact⟨_,fr.length,rfl,rfl,Nat.le_refl _,by simp,0,rfl⟩
 case round =>
  obtain⟨z,j,rfl,hz,hj,hno,m,rfl⟩:=hrel
  have MM:=MH.out.drawn m
  have NO:=hid hno
  have HB:=hid (drawn_below MH.out.hz m)
  cases j with
  | zero =>
   obtain rfl:z = -1:=by omega
   have EE:Hid (cnT (lname L) but tl.reverse k (dbT fr.reverse t)=(.mk 1 t.name 0 [],k)):=hid (by
    rw[E.out,(ixN_none _ _).2 (by have:=NO.out;simpa using this)])
   have KO:=hid MM.ko
   have KR:=hid MM.kr
   have o0:=MM.ko.c0
   have o1:=MM.ko.c1
   have o2:=MM.ko.c2
   have o3:=MM.ko.c3
   have r0:=MM.kr.c0
   have r1:=MM.kr.c1
   have r2:=MM.kr.c2
   have r3:=MM.kr.c3
   have f0:=MM.kr.fr 0
   have f1:=MM.kr.fr 1
   have f2:=MM.kr.fr 2
   have f3:=MM.kr.fr 3
   clear MM hno hz
   generalize W3.drewN m=Wm at *
   go_wp2
   have q4:=KR.out.set4 (.int .i64 t.kind) (.string t.name) (.int .i64 t.n) (.slice none 0 0)
   refine bodyPost_ret (v:=.tuple #[.agg #[.int .i64 t.kind,.string t.name,.int .i64 t.n,.slice none 0 0],.int .i64 (k:Int)]) (by simp[results,Tryz.results36,go_sem,q4.c0,q4.c1,q4.c2,q4.c3]) rfl ?_
   rw[EE.out,HK1.out,HN0.out]
   exact⟨none,0,rfl,.nil _ _,HB.out.set4 (by omega) _ _ _ _⟩
  | succ j =>
   obtain rfl:z=(j:Int):=by omega
   have hjl:j<fr.length:=by omega
   have hjt:j<tl.length:=by have:=HLEN.out;omega
   have z0:(0:Int)≤(j:Int):=by omega
   have z1:(j:Int)<(fr.length:Int):=by omega
   have z2:(j:Int)<(tl.length:Int):=by omega
   obtain⟨bf,of',rfl,hcc⟩:=CF.out.resolve_left (by intro e;rw[e] at hjl;simp at hjl)
   have hcy:=hcc j hjl
   have t1:=MH.out.kt.c1
   have nn0:=MH.out.kn.c0
   by_cases hx:fr[j]=t.name
   ·have g1:=beqN_true hx
    obtain⟨bt,ot,rfl,hct⟩:=CTO.out.resolve_left (by intro e;rw[e] at hjt;simp at hjt)
    have hcz:=hct j hjt
    have EE:Hid (cnT (lname L) but tl.reverse k (dbT fr.reverse t)=(.mk 1 tl[j] 0 [],k)):=hid (by
     rw[E.out,ixN_rev fr t.name j hjl hx NO.out,HLEN.out]
     simp only
     rw[rev_get tl j hjt])
    have nn1:=MH.out.kn.c1
    have o0:=MH.out.ko.c0
    have o1:=MH.out.ko.c1
    have o2:=MH.out.ko.c2
    have o3:=MH.out.ko.c3
    have r0:=MH.out.kr.c0
    have r1:=MH.out.kr.c1
    have r2:=MH.out.kr.c2
    have r3:=MH.out.kr.c3
    have f0:=MH.out.kr.fr 0
    have f1:=MH.out.kr.fr 1
    have f2:=MH.out.kr.fr 2
    have f3:=MH.out.kr.fr 3
    have h1:=MH.out.ko.fr 1
    clear MM hno hcc hct hx hz
    go_wp2
    go_quiet (fail)
    go_wp2
    generalize tl[j]=x at *
    have QQ:=fun m'=>(R4.set4 (R4.off1 (b':=w.heap.size+1+1+1) (MH.out.drawn m').kr (.string x)) (.int .i64 t.kind) (.string x) (.int .i64 t.n) (.slice none 0 0))
    refine bodyPost_ret (v:=.tuple #[.agg #[.int .i64 t.kind,.string x,.int .i64 t.n,.slice none 0 0],.int .i64 (k:Int)]) (by simp[results,Tryz.results36,go_sem,(QQ _).c0,(QQ _).c1,(QQ _).c2,(QQ _).c3]) rfl ?_
    rw[EE.out,HK1.out,HN0.out]
    exact⟨none,0,rfl,.nil _ _,by
     first
      | exact ((drawn_below MH.out.hz _).setCell (p:=⟨w.heap.size+1+1+1,1,none⟩) (by simp;omega) _).set4 (by omega) _ _ _ _
      | exact ((drawn_below (drawn_below MH.out.hz _) _).setCell (p:=⟨w.heap.size+1+1+1,1,none⟩) (by simp;omega) _).set4 (by omega) _ _ _ _⟩
   ·have g1:=beqN_false hx
    have DN:=hid (drop_no hjl NO.out hx)
    clear MM hno hcc hx hz
    go_wp2
    go_quiet (fail)
    go_wp2
    go_roundw
    case rel=>exact⟨_,j,rfl,rfl,by omega,DN.out,_,rfl⟩
    case measure=>simp[intOf]
end Go.Proofs.YtofllmemmggapaaGreatDoor.Tp

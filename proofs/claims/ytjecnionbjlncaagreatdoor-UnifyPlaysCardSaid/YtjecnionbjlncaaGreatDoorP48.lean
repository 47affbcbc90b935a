/- Packed. -/
import Derived.Test.YtjecnionbjlncaaGreatDoorP47
set_option maxRecDepth 100000
set_option maxHeartbeats 6400000
namespace Go.Proofs.YtjecnionbjlncaaGreatDoor.Tp
open Go.RowKit
structure sS_ (w W:World)(t u:Ty)(a ua:OA_)(c uc:Nat):Prop where
 hz:Below w.heap.size w W
 size:W.heap.size=w.heap.size+4
 kt:R4 W w.heap.size (.int .i64 t.kind) (.string t.name) (.int .i64 t.n) (.slice a t.args.length c)
 ku:R4 W (w.heap.size+1) (.int .i64 u.kind) (.string u.name) (.int .i64 u.n) (.slice ua u.args.length uc)
 kr:R4 W (w.heap.size+1+1) (.int .i64 0) (.string ⟨#[]⟩) (.int .i64 0) (.slice none 0 0)
 ko:R4 W (w.heap.size+1+1+1) (.int .i64 t.kind) (.string t.name) (.int .i64 t.n) (.slice none 0 0)
theorem q8_ {T:TypeId}(w:World)(x0 x1 x2 x3:Array Value):let W:=(((w.alloc (.cells x0 T)).alloc (.cells x1 T)).alloc (.cells x2 T)).alloc (.cells x3 T);
  Below w.heap.size w W∧W.heap.size=w.heap.size+4∧W.heap[w.heap.size]? = some (.cells x0 T (0,0))∧W.heap[w.heap.size+1]? = some (.cells x1 T (0,0))∧W.heap[w.heap.size+2]? = some (.cells x2 T (0,0))∧W.heap[w.heap.size+3]? = some (.cells x3 T (0,0)):=by
 intro W;have h0:=heap_alloc_new w (.cells x0 T);have h1:=heap_alloc_new (w.alloc (.cells x0 T)) (.cells x1 T);have h2:=heap_alloc_new ((w.alloc (.cells x0 T)).alloc (.cells x1 T)) (.cells x2 T);have h3:=heap_alloc_new (((w.alloc (.cells x0 T)).alloc (.cells x1 T)).alloc (.cells x2 T)) (.cells x3 T);have s1:(w.alloc (.cells x0 T)).heap.size=w.heap.size+1:=by simp
 have s2:((w.alloc (.cells x0 T)).alloc (.cells x1 T)).heap.size=w.heap.size+2:=by simp
 have s3:(((w.alloc (.cells x0 T)).alloc (.cells x1 T)).alloc (.cells x2 T)).heap.size=w.heap.size+3:=by simp
 rw[s1] at h1;rw[s2] at h2;rw[s3] at h3;have b0:Below w.heap.size w (w.alloc (.cells x0 T)):=aq_ _ _;have b1:=b0.alloc b0.size (.cells x1 T);have b2:=b1.alloc b1.size (.cells x2 T);have b3:=b2.alloc b2.size (.cells x3 T);refine⟨b3,by simp[W],?_,?_,?_,h3⟩
 ·exact (heap_alloc_old _ _ (by rw[s3];omega)).trans ((heap_alloc_old _ _ (by rw[s2];omega)).trans ((heap_alloc_old _ _ (by rw[s1];omega)).trans h0))
 ·exact (heap_alloc_old _ _ (by rw[s3];omega)).trans ((heap_alloc_old _ _ (by rw[s2];omega)).trans h1)
 ·exact (heap_alloc_old _ _ (by rw[s3];omega)).trans h2
theorem rI_ (w:World)(t u:Ty)(a ua:OA_)(c uc:Nat):sS_ w ((((w.alloc (.cells #[.int .i64 t.kind,.string t.name,.int .i64 t.n,.slice a t.args.length c] 43)).alloc (.cells #[.int .i64 u.kind,.string u.name,.int .i64 u.n,.slice ua u.args.length uc] 43)).alloc (.cells #[.int .i64 0,.string ⟨#[]⟩,.int .i64 0,.slice none 0 0] 43)).alloc (.cells #[.int .i64 t.kind,.string t.name,.int .i64 t.n,.slice none 0 0] 43)) t u a ua c uc:=by
 obtain⟨h0,h1,h2,h3,h4,h5⟩:=q8_ (T:=43) w #[.int .i64 t.kind,.string t.name,.int .i64 t.n,.slice a t.args.length c] #[.int .i64 u.kind,.string u.name,.int .i64 u.n,.slice ua u.args.length uc] #[.int .i64 0,.string ⟨#[]⟩,.int .i64 0,.slice none 0 0] #[.int .i64 t.kind,.string t.name,.int .i64 t.n,.slice none 0 0];exact⟨h0,h1,h2,h3,h4,h5⟩
structure dS_ (S:Nat→Prop)(O lo:Nat)(W wr:World)(k:Int)(s:ByteArray)(n:Int)(v:Value)(acc:List Ty)(svs:List Value):Prop where
 ko:R4 wr O (.int .i64 k) (.string s) (.int .i64 n) v
 row:iZ_ S lo wr v acc svs
 kp:Kp lo (fun b=>b=O) W wr
theorem dS_.kept {S:Nat→Prop}{O lo:Nat}{W wr:World}{k:Int}{s:ByteArray}{n:Int}{v:Value}{acc:List Ty}{svs:List Value}(h:dS_ S O lo W wr k s n v acc svs){b:Nat}(hb:b<lo)(hne:b≠O):wr.heap[b]? = W.heap[b]? := h.kp.block b hb hne
theorem dS_.step {S:Nat→Prop}{O lo:Nat}{W wr w4 w7:World}{k:Int}{s:ByteArray}{n:Int}{v v':Value}{acc:List Ty}{svs:List Value}{y:Ty}{sv:Value}(h:dS_ S O lo W wr k s n v acc svs)(hO:O<lo)(hS:∀ b,S b→b<O)(hlo:lo≤wr.heap.size)(hb:Below wr.heap.size wr w4)
  (hr:iZ_ S lo w7 v' (acc++[y]) (svs++[sv])) (hg:w4.grownBy w7 v.ownBlock):dS_ S O lo W (w7.setCell ⟨O,3,none⟩ v') k s n v' (acc++[y]) (svs++[sv]):=by
 have hv:∀ b,v.ownBlock=some b→lo≤b:=fun b e=>(h.row.own.lt b e).1;refine⟨R4.set3 ((h.ko.low hb).grown hg (fun e=>by have:=hv O e;omega)) v',hr.off hO hS 3 v',?_⟩;exact ((h.kp.below hb hlo).grown hg (bL_ hlo hb.size) (fun b e=>.inl (hv b e))).setCell (.inr rfl) v'
theorem dS_.end_ {S:Nat→Prop}{O lo:Nat}{w W wr:World}{k:Int}{s:ByteArray}{n:Int}{a:OA_}{c:Nat}{acc:List Ty}{svs:List Value}(h:dS_ S O lo W wr k s n (.slice a acc.length c) acc svs)(hS:∀ b,S b→b<w.heap.size)(hW:Below w.heap.size w W)(hO:w.heap.size≤O)(hOl:O<lo){r:Nat}(hr:w.heap.size≤r)(hrl:r<lo)(v0 v1 v2 v3:Value) :
  aa_ (New S w ((((wr.setCell ⟨r,0,none⟩ v0).setCell ⟨r,1,none⟩ v1).setCell ⟨r,2,none⟩ v2).setCell ⟨r,3,none⟩ v3)) ((((wr.setCell ⟨r,0,none⟩ v0).setCell ⟨r,1,none⟩ v1).setCell ⟨r,2,none⟩ v2).setCell ⟨r,3,none⟩ v3) (.slice a acc.length c) acc ∧
  Below w.heap.size w ((((wr.setCell ⟨r,0,none⟩ v0).setCell ⟨r,1,none⟩ v1).setCell ⟨r,2,none⟩ v2).setCell ⟨r,3,none⟩ v3):=by
 have hk:Kp w.heap.size (fun _=>False) w wr:=(Kp.of_below hW).trans (h.kp.mono (n:=w.heap.size) (T':=fun _=>False) (by omega) (fun b hb e=>by omega)) (aA_ _) (fun _ _ e=>e);have hB:=hk.to_below;refine⟨(h.row.args.keep fun b hb=>?_).mono fun b hb=>?_,hB.set4 hr v0 v1 v2 v3⟩
 ·have hne:b≠r:=by
   rcases hb.1 with h1|h1
   ·have:=hS b h1;omega
   ·omega
  rw[av_ _ _ _ _ hne,av_ _ _ _ _ hne,av_ _ _ _ _ hne,av_ _ _ _ _ hne]
 ·rcases hb.1 with h1|h1
  ·exact .inl h1
  ·exact .inr ⟨by omega,by simpa using hb.2⟩
def gC_ (kd:Int)(nm:ByteArray)(n:Int)(p:Ty→Bool)(u t:Ty):Prop:=∀ (S:Nat→Prop) (a ua:OA_) (c uc:Nat) (w:World),aa_ S w (.slice a t.args.length c) t.args→aa_ S w (.slice ua u.args.length uc) u.args→(∀ b,S b→b<w.heap.size)→Std t→t.size≤1000000000000 →
  Calls Tryz.prog 109 #[tv t a c,.int .i64 kd,.string nm,.int .i64 n,tv u ua uc] w (TP S (sbT p u t) w)
theorem tr_ {p:Ty→Bool}{u t:Ty}(h:p (dD_ t)=true):sbT p u t=u:=by rw[fm_,if_pos h]
theorem rF_ {p:Ty→Bool}{u t:Ty}(h:p (dD_ t)=false):sbT p u t=.mk t.kind t.name t.n (t.args.map (sbT p u)):=by rw[fm_,if_neg (by rw[h];decide)]
theorem pp_ (p:Ty→Bool)(u t:Ty)(hp:p (dD_ t)=true):gC_ t.kind t.name t.n p u t:=by
 intro S a ua c uc w hA hU hS hs hsz;have E:=hid (tr_ (u:=u) hp);have hz:Below w.heap.size w (((w.alloc (.cells #[.int .i64 t.kind,.string t.name,.int .i64 t.n,.slice a t.args.length c] 43)).alloc (.cells #[.int .i64 u.kind,.string u.name,.int .i64 u.n,.slice ua u.args.length uc] 43)).alloc (.cells #[.int .i64 u.kind,.string u.name,.int .i64 u.n,.slice ua u.args.length uc] 43)):=(((aq_ _ _).alloc (by simp) _).alloc (by simp;omega) _);have h3:=q8_ (T:=43) w #[.int .i64 t.kind,.string t.name,.int .i64 t.n,.slice a t.args.length c] #[.int .i64 u.kind,.string u.name,.int .i64 u.n,.slice ua u.args.length uc] #[.int .i64 0,.string ⟨#[]⟩,.int .i64 0,.slice none 0 0] #[];have kt:R4 (((w.alloc (.cells #[.int .i64 t.kind,.string t.name,.int .i64 t.n,.slice a t.args.length c] 43)).alloc (.cells #[.int .i64 u.kind,.string u.name,.int .i64 u.n,.slice ua u.args.length uc] 43)).alloc (.cells #[.int .i64 0,.string ⟨#[]⟩,.int .i64 0,.slice none 0 0] 43)) w.heap.size (.int .i64 t.kind) (.string t.name) (.int .i64 t.n) (.slice a t.args.length c):=(heap_alloc_old _ _ (by simp<;>omega)).symm.trans h3.2.2.1;have ku:R4 (((w.alloc (.cells #[.int .i64 t.kind,.string t.name,.int .i64 t.n,.slice a t.args.length c] 43)).alloc (.cells #[.int .i64 u.kind,.string u.name,.int .i64 u.n,.slice ua u.args.length uc] 43)).alloc (.cells #[.int .i64 0,.string ⟨#[]⟩,.int .i64 0,.slice none 0 0] 43)) (w.heap.size+1) (.int .i64 u.kind) (.string u.name) (.int .i64 u.n) (.slice ua u.args.length uc):=(heap_alloc_old _ _ (by simp<;>omega)).symm.trans h3.2.2.2.1;have HU:=hid (hU.keep fun b hb=>hz.block b (hS b hb));have HZ:=hid hz;have c0:=kt.c0;have c1:=kt.c1;have c2:=kt.c2;obtain⟨d0,d1,d2,d3⟩:=ku.c03;clear hp h3 hA hU hS hs hsz kt ku hz;unfold tv;go_enter Tryz.func109,Tryz.ntmps109;go_wp2;refine bodyPost_ret (v:=tv u ua uc) (by simp[results,Tryz.results109,go_sem,tv]) rfl ?_;rw[E.out];exact⟨ua,uc,rfl,HU.out.mono fun b hb=>.inl hb,HZ.out⟩
theorem sX_ {S:Nat→Prop}{lo m:Nat}{w0 w w4:World}{v:Value}{acc:List Ty}{svs:List Value}(hS:∀ b,S b→b<m)(h:iZ_ S lo w v acc svs)(hlo:lo≤w.heap.size)(hml:m≤lo)(h4:w.heap.size≤w4.heap.size)(h0:w0.heap.size=w.heap.size){b:Nat}(hb:New S w0 w4 b):(S b∨lo≤b)∧b<w4.heap.size∧v.ownBlock≠some b:=by
 rcases hb with hb|hb
 ·have:=hS b hb
  exact⟨.inl hb,by omega,fun e=>by have:=(h.own.lt b e).1;omega⟩
 ·exact⟨.inr (by omega),hb.2,fun e=>by have:=(h.own.lt b e).2;omega⟩
theorem nn_ (kd:Int)(nm:ByteArray)(n:Int)(p:Ty→Bool)(u t:Ty)(hp:p (dD_ t)=false)(hm:(t.kind==kd)=false∨((t.kind==kd)=true∧(t.name.toList==nm.toList)=false)∨((t.kind==kd)=true∧(t.name.toList==nm.toList)=true∧(t.n==n)=false))(ih:∀ x∈t.args,gC_ kd nm n p u x):gC_ kd nm n p u t:=by
 intro S a ua c uc w hA hU hS hs hsz;have E:=hid (rF_ (u:=u) hp);have M:=rI_ w t u a ua c uc;have hl:t.args.length≤9223372036854775807:=by
  obtain⟨_,_,_,h⟩:=hA.form;exact h
 have hla:t.args.length≤1000000000000:=by have:=aZ_ t.args;rw[t.size_eq] at hsz;omega
 have SA:=hid hs.args;have SZ:Hid (∀ x∈t.args,x.size≤1000000000000):=hid (fun x hx=>by have:=a7_ _ hx;rw[t.size_eq] at hsz;omega);have IH:=hid ih;have AH:=hid hA;have UH:=hid hU;have HS:=hid hS;have c0:=M.kt.c0;have c1:=M.kt.c1;have c2:=M.kt.c2;have MH:=hid M;have I0:Hid (dS_ S (w.heap.size+1+1+1) (w.heap.size+4) ((((w.alloc (.cells #[.int .i64 t.kind,.string t.name,.int .i64 t.n,.slice a t.args.length c] 43)).alloc (.cells #[.int .i64 u.kind,.string u.name,.int .i64 u.n,.slice ua u.args.length uc] 43)).alloc (.cells #[.int .i64 0,.string ⟨#[]⟩,.int .i64 0,.slice none 0 0] 43)).alloc (.cells #[.int .i64 t.kind,.string t.name,.int .i64 t.n,.slice none 0 0] 43)) ((((w.alloc (.cells #[.int .i64 t.kind,.string t.name,.int .i64 t.n,.slice a t.args.length c] 43)).alloc (.cells #[.int .i64 u.kind,.string u.name,.int .i64 u.n,.slice ua u.args.length uc] 43)).alloc (.cells #[.int .i64 0,.string ⟨#[]⟩,.int .i64 0,.slice none 0 0] 43)).alloc (.cells #[.int .i64 t.kind,.string t.name,.int .i64 t.n,.slice none 0 0] 43)) t.kind t.name t.n (.slice none 0 0) [] []):=hid ⟨M.ko,.nil _ _ _,.refl _ _ _⟩;have P0:Hid (R4 (((w.alloc (.cells #[.int .i64 t.kind,.string t.name,.int .i64 t.n,.slice a t.args.length c] 43)).alloc (.cells #[.int .i64 u.kind,.string u.name,.int .i64 u.n,.slice ua u.args.length uc] 43)).alloc (.cells #[.int .i64 0,.string ⟨#[]⟩,.int .i64 0,.slice none 0 0] 43)) w.heap.size (.int .i64 t.kind) (.string t.name) (.int .i64 t.n) (.slice a t.args.length c)):=hid ((heap_alloc_old _ _ (by simp<;>omega)).symm.trans M.kt);have b0:=P0.out.c0;have b1:=P0.out.c1;have b2:=P0.out.c2;clear hp hA hU hS hs hsz M ih P0;unfold tv;go_enter Tryz.func109,Tryz.ntmps109
 go_upto_region 1 with fail
 go_cut [28] from 13 to 28 (fun s wx=>s=.bool false∧wx=((w.alloc (.cells #[.int .i64 t.kind,.string t.name,.int .i64 t.n,.slice a t.args.length c] 43)).alloc (.cells #[.int .i64 u.kind,.string u.name,.int .i64 u.n,.slice ua u.args.length uc] 43)).alloc (.cells #[.int .i64 0,.string ⟨#[]⟩,.int .i64 0,.slice none 0 0] 43))
 case first =>
  rcases hm with e1|⟨e1,e2⟩|⟨e1,e2,e3⟩
  all_goals
   go_wp2_with fail
   go_meet
   exact⟨rfl,rfl⟩
 obtain⟨rfl,rfl⟩:=hcut;go_wp2;clear b0 b1 b2 c0 c1 c2;generalize (((w.alloc (.cells #[.int .i64 t.kind,.string t.name,.int .i64 t.n,.slice a t.args.length c] 43)).alloc (.cells #[.int .i64 u.kind,.string u.name,.int .i64 u.n,.slice ua u.args.length uc] 43)).alloc (.cells #[.int .i64 0,.string ⟨#[]⟩,.int .i64 0,.slice none 0 0] 43)).alloc (.cells #[.int .i64 t.kind,.string t.name,.int .i64 t.n,.slice none 0 0] 43)=W3 at *
 go_loopw [12] (fun iv wr=>∃ (i:Nat) (v:Value) (svs:List Value),iv=.int .i64 i∧i≤t.args.length∧dS_ S (w.heap.size+1+1+1) (w.heap.size+4) W3 wr t.kind t.name t.n v ((t.args.take i).map (sbT p u)) svs) (fun iv _=>t.args.length - (intOf iv).toNat)
 case atStart=>exact⟨0,_,_,rfl,Nat.zero_le _,I0.out⟩
 case round =>
  obtain⟨i,v,svs,rfl,hil,hI⟩:=hrel;have z0:(0:Int)≤(i:Int):=by omega
  have hBw:Below w.heap.size w wr:=((Kp.of_below MH.out.hz).trans (hI.kp.mono (n:=w.heap.size) (T':=fun _=>False) (by omega) (fun b hb e=>by omega)) (aA_ _) (fun _ _ e=>e)).to_below;have hws:w.heap.size+4≤wr.heap.size:=by have:=hI.kp.size;rw[MH.out.size] at this;exact this
  have kt:R4 wr w.heap.size (.int .i64 t.kind) (.string t.name) (.int .i64 t.n) (.slice a t.args.length c):=(hI.kept (by omega) (by omega)).trans MH.out.kt;have ku:R4 wr (w.heap.size+1) (.int .i64 u.kind) (.string u.name) (.int .i64 u.n) (.slice ua u.args.length uc):=(hI.kept (by omega) (by omega)).trans MH.out.ku;have kr:R4 wr (w.heap.size+1+1) (.int .i64 0) (.string ⟨#[]⟩) (.int .i64 0) (.slice none 0 0):=(hI.kept (by omega) (by omega)).trans MH.out.kr;have ko:=hI.ko;have HI:=hid hI;have BW:=hid hBw;have KO:=hid ko;have KR:=hid kr;have t3:=kt.c3;obtain⟨o0,o1,o2,o3⟩:=ko.c03
  by_cases hi:i<t.args.length
  ·have z1:(i:Int)<(t.args.length:Int):=by omega
   obtain⟨b,off,a',cap',rfl,hb,hf,hs⟩:=AH.out.at_ hi;obtain⟨f0,f1,f2,f3⟩:=hf.keep (hBw.block b (HS.out b hb));have hm:=List.getElem_mem hi;have hBd:=hBw.drew;have CH:=hid (IH.out _ hm S a' ua cap' uc wr.drew (hs.keep fun b hS=>hBd.block b (HS.out b hS)) (UH.out.keep fun b hS=>hBd.block b (HS.out b hS)) (fun b hS=>aU_ (HS.out b hS) hBd.size) (SA.out _ hm) (SZ.out _ hm));obtain⟨u0,u1,u2,u3⟩:=ku.c03;have ST:Hid ((t.args.take (i+1)).map (sbT p u)=(t.args.take i).map (sbT p u)++[sbT p u t.args[i]]):=hid (by rw[List.take_succ_eq_append_getElem hi,List.map_append];rfl);have hal:((t.args.take i).map (sbT p u)).length≤1000000000000:=by simp;omega
   unfold tv at CH;clear hf hs hBw hBd hm hb hI kt ku kr ko;generalize t.args[i]=x at *;generalize sbT p u x=y at *;generalize (t.args.take i).map (sbT p u)=acc at *;go_wp2
   go_region_law (first
    | ((with_reducible show (if Region.wanted _ _=true then Oper.wp _ _ _ (World.alloc _ _) _ _ else _));refine ah_ (by rfl) _ _ _ (by rfl) (by rfl) (by rfl) PA.out ?_;rintro v7 w7 ⟨hr7,hg7,hl7⟩;obtain⟨a7,c7,hv7⟩:=hr7.form;rw[List.length_append,List.length_singleton] at hv7;subst hv7;have g7:=(K4.out.grown hg7 NV.out).fr 3;have e7:=(K4.out.grown hg7 NV.out).c3;have HR7:=hid hr7;have HG7:=hid hg7;clear hr7 hg7)
    | (go_simp;go_at_call 109;(with_reducible refine CH.out.mono ?_);rintro e w4 ⟨a4,c4,rfl,hA4,hB4⟩;have hb4:Below wr.heap.size wr w4:=(Below.refl _ _).drew.trans hB4;have k4:=KO.out.low hb4;have p0:=k4.c0;have p1:=k4.c1;have p2:=k4.c2;have p3:=k4.c3;have p5:=(k4.low (aq_ _ (.cells #[.int .i64 y.kind,.string y.name,.int .i64 y.n,.slice a4 y.args.length c4] 43))).c3;have K4:=hid k4;have NV:Hid (v.ownBlock≠some (w.heap.size+1+1+1)):=hid (fun e=>by have:=(HI.out.row.own.lt _ e).1;omega);have PA:=hid ((HI.out.row.low hb4).push (bL_ hws hb4.size) hal (t:=y) (a:=a4) (c:=c4) (hA4.mono fun b hb=>sX_ HS.out HI.out.row hws (by omega) hb4.size rfl hb) );have HB4:=hid hb4;clear hb4 k4 hA4 hB4;unfold tv))
   all_goals
    have HI8:=hid (HI.out.step (by omega) (fun b hb=>by have:=HS.out b hb;omega) hws HB4.out HR7.out HG7.out);go_wp2;go_roundw
    case rel=>exact⟨i+1,_,_,by go_num,by omega,by rw[ST.out];exact HI8.out⟩
    case measure=>simp[intOf];omega
  ·obtain rfl:i=t.args.length:=by omega
   have EL:(t.args.take t.args.length).map (sbT p u)=t.args.map (sbT p u):=(by rw[List.take_length]);rw[EL] at hI;obtain⟨av,cv,hv⟩:=hI.row.form;subst hv;have HI2:=hid hI;have hko:=hI.ko;rw[List.length_map] at hko;have o3:=hko.c3;obtain⟨r0,r1,r2,r3⟩:=kr.c03;obtain⟨f0,f1,f2,f3⟩:=kr.f03;clear hI hBw kt ku kr ko hko EL HI KO;go_wp2;have q4:=KR.out.set4 (.int .i64 t.kind) (.string t.name) (.int .i64 t.n) (.slice av t.args.length cv);have he:=HI2.out.end_ (w:=w) HS.out MH.out.hz (by omega) (by omega) (r:=w.heap.size+1+1) (by omega) (by omega) (.int .i64 t.kind) (.string t.name) (.int .i64 t.n) (.slice av t.args.length cv);refine bodyPost_ret (v:=.agg #[.int .i64 t.kind,.string t.name,.int .i64 t.n,.slice av t.args.length cv]) (by simp[results,Tryz.results109,go_sem,q4.c0,q4.c1,q4.c2,q4.c3]) rfl ?_;rw[E.out];refine⟨av,cv,?_,?_,he.2⟩
   ·show _=Ending.returned (.agg #[.int .i64 t.kind,.string t.name,.int .i64 t.n,.slice av (t.args.map (sbT p u)).length cv])
    rw[List.length_map]
   ·exact he.1
theorem k6_ (kd:Int)(nm:ByteArray)(n:Int)(p:Ty→Bool)(u:Ty)(hp:∀ x,Std x→(p (dD_ x)=true↔x.kind=kd∧x.name=nm∧x.n=n)):∀ t:Ty,gC_ kd nm n p u t:=by
 intro t
 induction t using Ty.ind with
 | h t ih =>
  intro S a ua c uc w hA hU hS hs hsz;cases hq:p (dD_ t) with
  | true =>
   obtain⟨rfl,rfl,rfl⟩:=(hp t hs).1 hq;exact pp_ p u t hq S a ua c uc w hA hU hS hs hsz
  | false =>
   refine nn_ kd nm n p u t hq ?_ ih S a ua c uc w hA hU hS hs hsz;have h:=mt (hp t hs).2 (by rw[hq];decide)
   by_cases h1:t.kind=kd
   ·have e1:(t.kind==kd)=true:=by rw[h1];simp
    by_cases h2:t.name=nm
    ·exact .inr (.inr ⟨e1,cl_ h2,by rw[beq_eq_false_iff_ne];exact fun h3=>h ⟨h1,h2,h3⟩⟩)
    ·exact .inr (.inl ⟨e1,bC_ h2⟩)
   ·exact .inl (by rw[beq_eq_false_iff_ne];exact h1)
theorem ec_ {P:Program}{ops:Array Oper}{rest:List Oper}{o:Oper}{a:Act}{w:World}{Q:Exit→Act→World→Prop}(hgd:o.guard=none)(s x:Operand)(t:TypeId)
  (ho:o.op=.call { callee:=.builtin .append,args:=#[s,x],argTypes:=#[t,t] }) {v vx:Value} (hs:a.eval s=v) (hx:a.eval x=vx) {R:Value→World→Prop}
  (hrun:∃ v' w',(Builtin.append_ #[t,t] o.type #[v,vx]).run P w=.ok v' w'∧R v' w') (h:∀ v' w',R v' w'→wpList P ops Q rest (a.put o.dst v') w'):wpList P ops Q (o :: rest) a w:=by
 refine wpList_plain hgd fun K hK=>?_;obtain⟨v',w',hr,hR⟩:=hrun;unfold Oper.wp execOp;simp only[ho,resolve,invoke,builtin,Sem.run_bind,Sem.run_pure,Result.andThen_ok,List.map_toArray,List.map_cons,List.map_nil,hs,hx,hr];exact hK _ _ (h v' w' hR)
theorem sp_ (l r:List ByteArray)(x:ByteArray)(h:x∉l):ixN (l++x :: r) x=some l.length:=by
 induction l with
 | nil=>exact bx_ r x
 | cons y l ih =>
  rw[List.cons_append,bK_ _ (fun e=>h (by simp[e])),ih fun hx=>h (by simp[hx])];rfl
theorem so_ (fr:List ByteArray)(x:ByteArray)(k:Nat)(hk:k<fr.length)(h:fr[k]=x)(hno:x∉fr.drop (k+1)):ixN fr.reverse x=some (fr.length - (k+1)):=by
 have e:fr=fr.take k++x :: fr.drop (k+1):=by
  conv=>lhs;rw[← List.take_append_drop k fr,List.drop_eq_getElem_cons hk,h]
 conv=>lhs;rw[e]
 rw[List.reverse_append,List.reverse_cons,List.append_assoc,List.singleton_append,sp_ _ _ _ (by simpa using hno)];simp
theorem rL_ (tl:List ByteArray)(k:Nat)(hk:k<tl.length):tl.reverse.getD (tl.length - (k+1)) emp=tl[k]:=by
 rw[List.getD_eq_getElem?_getD,List.getElem?_reverse (by omega),show tl.length - 1 - (tl.length - (k+1))=k by omega,List.getElem?_eq_getElem hk];rfl
theorem sy_ {fr:List ByteArray}{k:Nat}(hk:k<fr.length){x:ByteArray}(h1:x∉fr.drop (k+1))(h2:fr[k]≠x):x∉fr.drop k:=by
 rw[List.drop_eq_getElem_cons hk];intro h
 rcases List.mem_cons.1 h with h|h
 ·exact h2 h.symm
 ·exact h1 h
def noS (_:Nat):Prop:=False
def lL_ (w:World)(r:Ty × Nat)(e:Ending)(w':World):Prop:=∃ a c,e=.returned (.tuple #[tv r.1 a c,.int .i64 (r.2:Int)])∧aa_ (In w.heap.size w'.heap.size) w' (.slice a r.1.args.length c) r.1.args∧Below w.heap.size w w'
def eN_ (L:ByteArray)(but:List ByteArray)(t:Ty):Prop:=∀ (S:Nat→Prop) (a:OA_) (c:Nat) (w:World) (vf vt vb:Value) (fr tl:List ByteArray) (k:Nat),aa_ S w (.slice a t.args.length c) t.args→(∀ b,S b→b<w.heap.size)→Std t→bc_ w vf fr→bc_ w vt tl→fr.length=tl.length→bc_ w vb but →
  fr.length+t.size≤1000000000000→k+t.size*(but.length+1)≤100000000000000000→Calls Tryz.prog 43 #[tv t a c,.agg #[vf,vt],.string L,vb,.int .i64 (k:Int)] w (lL_ w (cnT (aK_ L) but tl.reverse k (dbT fr.reverse t)))
structure iU_ (w W:World)(t:Ty)(a:OA_)(c:Nat)(vf vt:Value):Prop where
 hz:Below w.heap.size w W
 size:W.heap.size=w.heap.size+4
 kt:R4 W w.heap.size (.int .i64 t.kind) (.string t.name) (.int .i64 t.n) (.slice a t.args.length c)
 kn:R2 W (w.heap.size+1) vf vt
 kr:R4 W (w.heap.size+1+1) (.int .i64 0) (.string ⟨#[]⟩) (.int .i64 0) (.slice none 0 0)
 ko:R4 W (w.heap.size+1+1+1) (.int .i64 t.kind) (.string t.name) (.int .i64 t.n) (.slice none 0 0)
theorem oJ_ (w:World)(o0 o1 o2 o3:Obj):let W:=(((w.alloc o0).alloc o1).alloc o2).alloc o3;
  Below w.heap.size w W∧W.heap.size=w.heap.size+4∧W.heap[w.heap.size]? = some o0∧W.heap[w.heap.size+1]? = some o1∧W.heap[w.heap.size+2]? = some o2∧W.heap[w.heap.size+3]? = some o3:=by
 intro W;have h0:=heap_alloc_new w o0;have h1:=heap_alloc_new (w.alloc o0) o1;have h2:=heap_alloc_new ((w.alloc o0).alloc o1) o2;have h3:=heap_alloc_new (((w.alloc o0).alloc o1).alloc o2) o3;have s1:(w.alloc o0).heap.size=w.heap.size+1:=by simp
 have s2:((w.alloc o0).alloc o1).heap.size=w.heap.size+2:=by simp
 have s3:(((w.alloc o0).alloc o1).alloc o2).heap.size=w.heap.size+3:=by simp
 rw[s1] at h1;rw[s2] at h2;rw[s3] at h3;have b0:Below w.heap.size w (w.alloc o0):=aq_ _ _;have b1:=b0.alloc b0.size o1;have b2:=b1.alloc b1.size o2;have b3:=b2.alloc b2.size o3;refine⟨b3,by simp[W],?_,?_,?_,h3⟩
 ·exact (heap_alloc_old _ _ (by rw[s3];omega)).trans ((heap_alloc_old _ _ (by rw[s2];omega)).trans ((heap_alloc_old _ _ (by rw[s1];omega)).trans h0))
 ·exact (heap_alloc_old _ _ (by rw[s3];omega)).trans ((heap_alloc_old _ _ (by rw[s2];omega)).trans h1)
 ·exact (heap_alloc_old _ _ (by rw[s3];omega)).trans h2
theorem ig_ (w:World)(t:Ty)(a:OA_)(c:Nat)(af at':OA_)(cf ct:Nat)(fr tl:List ByteArray):iU_ w ((((w.alloc (.cells #[.int .i64 t.kind,.string t.name,.int .i64 t.n,.slice a t.args.length c] 43)).alloc (.cells #[.slice af fr.length cf,.slice at' tl.length ct] 94)).alloc (.cells #[.int .i64 0,.string ⟨#[]⟩,.int .i64 0,.slice none 0 0] 43)).alloc (.cells #[.int .i64 t.kind,.string t.name,.int .i64 t.n,.slice none 0 0] 43)) t a c (.slice af fr.length cf) (.slice at' tl.length ct):=by
 obtain⟨h0,h1,h2,h3,h4,h5⟩:=oJ_ w (.cells #[.int .i64 t.kind,.string t.name,.int .i64 t.n,.slice a t.args.length c] 43) (.cells #[.slice af fr.length cf,.slice at' tl.length ct] 94) (.cells #[.int .i64 0,.string ⟨#[]⟩,.int .i64 0,.slice none 0 0] 43) (.cells #[.int .i64 t.kind,.string t.name,.int .i64 t.n,.slice none 0 0] 43);exact⟨h0,h1,h2,h3,h4,h5⟩
theorem iU_.drawn {w W:World}{t:Ty}{a:OA_}{c:Nat}{vf vt:Value}(M:iU_ w W t a c vf vt)(m:Nat):iU_ w (W.drewN m) t a c vf vt:=by
 have h:Below W.heap.size W (W.drewN m):=bg_ (Below.refl _ _) m;exact⟨bg_ M.hz m,Nat.le_antisymm (by have:=(show (W.drewN m).heap.size=W.heap.size by simp);rw[this,M.size];omega) (by have:=h.size;rw[M.size] at this;exact this),M.kt.low h,M.kn.low h,M.kr.low h,M.ko.low h⟩
theorem R4.off1 {w:World}{b b':Nat}{u0 u1 u2 u3:Value}(h:R4 w b u0 u1 u2 u3)(v:Value)(hne:b≠b':=by omega):R4 (w.setCell ⟨b',1,none⟩ v) b u0 u1 u2 u3:=(av_ w _ v b hne).trans h
theorem jN_ {w W:World}{v:Value}{l:List ByteArray}(h:bc_ w v l)(hb:Below w.heap.size w W){a:OA_}{c:Nat}(e:v=.slice a l.length c):l=[]∨∃ b off,a=some ⟨b,off,none⟩∧∀ j (h:j<l.length),W.cell? ⟨b,off+j,none⟩=some (.string l[j]):=by
 obtain⟨a',c',e',_,_,_,hc⟩:=h;rw[e] at e';obtain rfl:a=a':=by injection e'
 exact hc.imp id fun ⟨b,off,ea,hb',hcc⟩=>⟨b,off,ea,fun j hj=>(hb.cell (p:=⟨b,off+j,none⟩) hb').trans (hcc j hj)⟩
theorem pr_ (L:ByteArray)(but:List ByteArray)(t:Ty)(hk1:t.kind=1):eN_ L but t:=by
 intro S a c w vf vt vb fr tl k hA hS hs hf ht hlen hb hfl hk;obtain⟨hn0,hta⟩:=hs.k1 hk1;have hdb:dbT fr.reverse t=c9_ fr.reverse t.name 0:=by rw[a0_ _ _ hk1,hn0]
 obtain⟨af,cf,rfl,hcf,_⟩:=id hf;obtain⟨at',ct,rfl,hct,_⟩:=id ht;have M:=ig_ w t a c af at' cf ct fr tl;have MH:=hid M;have CF:=hid (jN_ hf M.hz rfl);have CTO:=hid (jN_ ht M.hz rfl);have e1:(t.kind==1)=true:=by rw[hk1];rfl
 have hfb:fr.length≤1000000000000:=by omega
 have E:=hid (show cnT (aK_ L) but tl.reverse k (dbT fr.reverse t)=_ from by rw[hdb,gz_]);have c0:=M.kt.c0;have c1:=M.kt.c1;have c2:=M.kt.c2;have N0:=M.kn.c0;have P0:=(ig_ w t a c af at' cf ct fr tl).kt;have Q0:R4 ((((w.alloc (.cells #[.int .i64 t.kind,.string t.name,.int .i64 t.n,.slice a t.args.length c] 43)).alloc (.cells #[.slice af fr.length cf,.slice at' tl.length ct] 94)).alloc (.cells #[.int .i64 0,.string ⟨#[]⟩,.int .i64 0,.slice none 0 0] 43))) w.heap.size (.int .i64 t.kind) (.string t.name) (.int .i64 t.n) (.slice a t.args.length c):=(heap_alloc_old _ _ (by simp<;>omega)).symm.trans P0;have b0:=Q0.c0;have b1:=Q0.c1;have b2:=Q0.c2;have HLEN:=hid hlen;have HK1:=hid hk1;have HN0:=hid hn0;clear hA hS hs hf ht hb hfl hk hdb hta M P0 Q0 hlen hcf hct hk1 hn0;unfold tv;go_enter Tryz.func43,Tryz.ntmps43;go_wp2;clear b0 b1 b2 c0 c1 c2 N0;generalize (((w.alloc (.cells #[.int .i64 t.kind,.string t.name,.int .i64 t.n,.slice a t.args.length c] 43)).alloc (.cells #[.slice af fr.length cf,.slice at' tl.length ct] 94)).alloc (.cells #[.int .i64 0,.string ⟨#[]⟩,.int .i64 0,.slice none 0 0] 43)).alloc (.cells #[.int .i64 t.kind,.string t.name,.int .i64 t.n,.slice none 0 0] 43)=W3 at *
 go_loopw [13] (fun iv wr=>∃ (z:Int) (j:Nat),iv=.int .i64 z∧z=(j:Int) - 1∧j≤fr.length∧t.name∉fr.drop j∧∃ m,wr=W3.drewN m) (fun iv _=>(intOf iv+1).toNat)
 case atStart=>exact⟨_,fr.length,rfl,rfl,aA_ _,by simp,0,rfl⟩
 case round =>
  obtain⟨z,j,rfl,hz,hj,hno,m,rfl⟩:=hrel;have MM:=MH.out.drawn m;have NO:=hid hno;have HB:=hid (bg_ MH.out.hz m);cases j with
  | zero =>
   obtain rfl:z = -1:=(by omega);have EE:Hid (cnT (aK_ L) but tl.reverse k (dbT fr.reverse t)=(.mk 1 t.name 0 [],k)):=hid (by
    rw[E.out,(cO_ _ _).2 (by have:=NO.out;simpa using this)])
   have KO:=hid MM.ko;have KR:=hid MM.kr;obtain⟨o0,o1,o2,o3⟩:=MM.ko.c03;obtain⟨r0,r1,r2,r3⟩:=MM.kr.c03;obtain⟨f0,f1,f2,f3⟩:=MM.kr.f03;clear MM hno hz;generalize W3.drewN m=Wm at *;go_wp2;have q4:=KR.out.set4 (.int .i64 t.kind) (.string t.name) (.int .i64 t.n) (.slice none 0 0);refine bodyPost_ret (v:=.tuple #[.agg #[.int .i64 t.kind,.string t.name,.int .i64 t.n,.slice none 0 0],.int .i64 (k:Int)]) (by simp[results,Tryz.results43,go_sem,q4.c0,q4.c1,q4.c2,q4.c3]) rfl ?_;rw[EE.out,HK1.out,HN0.out];exact⟨none,0,rfl,.nil _ _,HB.out.set4 (by omega) _ _ _ _⟩
  | succ j =>
   obtain rfl:z=(j:Int):=(by omega);have hjl:j<fr.length:=(by omega);have hjt:j<tl.length:=(by have:=HLEN.out;omega);have z0:(0:Int)≤(j:Int):=(by omega);have z1:(j:Int)<(fr.length:Int):=(by omega);have z2:(j:Int)<(tl.length:Int):=(by omega);obtain⟨bf,of',rfl,hcc⟩:=CF.out.resolve_left (by intro e;rw[e] at hjl;simp at hjl);have hcy:=hcc j hjl;have t1:=MH.out.kt.c1;have nn0:=MH.out.kn.c0
   by_cases hx:fr[j]=t.name
   ·have g1:=cl_ hx
    obtain⟨bt,ot,rfl,hct⟩:=CTO.out.resolve_left (by intro e;rw[e] at hjt;simp at hjt);have hcz:=hct j hjt;have EE:Hid (cnT (aK_ L) but tl.reverse k (dbT fr.reverse t)=(.mk 1 tl[j] 0 [],k)):=hid (by
     rw[E.out,so_ fr t.name j hjl hx NO.out,HLEN.out];simp only;rw[rL_ tl j hjt])
    have nn1:=MH.out.kn.c1;obtain⟨o0,o1,o2,o3⟩:=MH.out.ko.c03;obtain⟨r0,r1,r2,r3⟩:=MH.out.kr.c03;obtain⟨f0,f1,f2,f3⟩:=MH.out.kr.f03;have h1:=MH.out.ko.fr 1;clear MM hno hcc hct hx hz;go_wp2;go_quiet (fail);go_wp2;generalize tl[j]=x at *;have QQ:=fun m'=>(R4.set4 (R4.off1 (b':=w.heap.size+1+1+1) (MH.out.drawn m').kr (.string x)) (.int .i64 t.kind) (.string x) (.int .i64 t.n) (.slice none 0 0));refine bodyPost_ret (v:=.tuple #[.agg #[.int .i64 t.kind,.string x,.int .i64 t.n,.slice none 0 0],.int .i64 (k:Int)]) (by simp[results,Tryz.results43,go_sem,(QQ _).c0,(QQ _).c1,(QQ _).c2,(QQ _).c3]) rfl ?_;rw[EE.out,HK1.out,HN0.out];exact⟨none,0,rfl,.nil _ _,by
     first
      | exact ((bg_ MH.out.hz _).setCell (p:=⟨w.heap.size+1+1+1,1,none⟩) (by simp;omega) _).set4 (by omega) _ _ _ _
      | exact ((bg_ (bg_ MH.out.hz _) _).setCell (p:=⟨w.heap.size+1+1+1,1,none⟩) (by simp;omega) _).set4 (by omega) _ _ _ _⟩
   ·have g1:=bC_ hx
    have DN:=hid (sy_ hjl NO.out hx);clear MM hno hcc hx hz;go_wp2;go_quiet (fail);go_wp2;go_roundw
    case rel=>exact⟨_,j,rfl,rfl,by omega,DN.out,_,rfl⟩
    case measure=>simp[intOf]
theorem mI_ (f:Nat→ByteArray)(free env:List ByteArray)(a b:List Ty):∀ k:Nat,cnL f free env k (a++b)=((cnL f free env k a).1++(cnL f free env (cnL f free env k a).2 b).1,(cnL f free env (cnL f free env k a).2 b).2):=by
 induction a with
 | nil=>intro k;simp[cnL]
 | cons t a ih=>intro k;rw[List.cons_append,cnL,cnL,ih];rfl
theorem lD_ (f:Nat→ByteArray)(free env:List ByteArray)(k:Nat)(g:Ty→Ty)(l:List Ty)(i:Nat)(h:i<l.length) :
  cnL f free env k ((l.take (i+1)).map g)=((cnL f free env k ((l.take i).map g)).1++[(cnT f free env (cnL f free env k ((l.take i).map g)).2 (g l[i])).1],(cnT f free env (cnL f free env k ((l.take i).map g)).2 (g l[i])).2):=by
 rw[List.take_succ_eq_append_getElem h,List.map_append,mI_,List.map_singleton,cnL,cnL]
theorem eM_ (f:Nat→ByteArray)(free:List ByteArray)(l:List Ty):∀ (env:List ByteArray) (k:Nat),(cnL f free env k l).1.length=l.length:=by
 induction l with
 | nil=>intro env k;simp[cnL]
 | cons t l ih=>intro env k;rw[cnL,List.length_cons,List.length_cons,ih]
theorem q6_ (f:Nat→ByteArray)(hf:∀ a b,f a=f b→a=b)(free:List ByteArray)(l:List Ty):∀ (env:List ByteArray) (k:Nat),(cnL f free env k l).2≤k+ag_ l*(free.length+1):=by
 induction l with
 | nil=>intro env k;simp[cnL]
 | cons t l ih =>
  intro env k;rw[cnL];have h1:=qp_ f hf free t env k;have h2:=ih env (cnT f free env k t).2;simp only[ag_,Nat.add_mul] at h2 ⊢;omega
theorem k4_ {env:List ByteArray}(l:List Ty)(h:∀ x∈l,Std x):ag_ (l.map (dbT env))=ag_ l:=by
 induction l with
 | nil=>rfl
 | cons t l ih=>rw[List.map_cons,ag_,ag_,bt_ t (h t (by simp)) env,ih fun x hx=>h x (by simp[hx])]
def gl_ (O:Nat)(w:World)(v:Value)(l:List ByteArray):Prop:=aB_ (fun b=>b<w.heap.size∧b≠O) w v l
theorem gl_.kp {O:Nat}{W wr:World}{v:Value}{l:List ByteArray}(h:gl_ O W v l)(k:Kp W.heap.size (fun b=>b=O) W wr):bc_ wr v l :=
 (aB_.keep (fun b hb=>k.block b hb.1 hb.2) h).mono fun _ hb=>aU_ hb.1 k.size
theorem gl_.of_low {O:Nat}{w W:World}{v:Value}{l:List ByteArray}(h:bc_ w v l)(hb:Below w.heap.size w W)(hO:w.heap.size≤O):gl_ O W v l :=
 (aB_.keep (fun b hS=>hb.block b hS) h).mono fun b hS=>⟨aU_ hS hb.size,by omega⟩
def dn_ (wr:World)(y:Ty)(k2:Nat)(xp kv:Value)(wx:World):Prop:=∃ bx a4 c4,xp=.pointer (some ⟨bx,0,none⟩)∧kv=.int .i64 (k2:Int)∧R4 wx bx (.int .i64 y.kind) (.string y.name) (.int .i64 y.n) (.slice a4 y.args.length c4) ∧
 aa_ (In wr.heap.size wx.heap.size) wx (.slice a4 y.args.length c4) y.args∧Below wr.heap.size wr wx
theorem dn_.new {wr w4:World}{y:Ty}{k2:Nat}{a4:OA_}{c4:Nat}(hb:Below wr.heap.size wr w4)(hA:aa_ (In wr.heap.size w4.heap.size) w4 (.slice a4 y.args.length c4) y.args):dn_ wr y k2 (.pointer (some ⟨w4.heap.size,0,none⟩)) (.int .i64 (k2:Int)) (w4.alloc (.cells #[.int .i64 y.kind,.string y.name,.int .i64 y.n,.slice a4 y.args.length c4] 43)) :=
 ⟨_,a4,c4,rfl,rfl,R4.new w4 _ _ _ _,(hA.keep fun b hb=>heap_alloc_old w4 _ hb.2).mono fun b hb=>⟨hb.1,by simp;have:=hb.2;omega⟩,hb.alloc hb.size _⟩
theorem dn_.old {wr w4:World}{y:Ty}{k2:Nat}{a4:OA_}{c4:Nat}{u0 u1 u2 u3:Value}(hb:Below wr.heap.size wr w4)(hA:aa_ (In (wr.heap.size+1) w4.heap.size) w4 (.slice a4 y.args.length c4) y.args)(k:R4 w4 wr.heap.size u0 u1 u2 u3):dn_ wr y k2 (.pointer (some ⟨wr.heap.size,0,none⟩)) (.int .i64 (k2:Int)) ((((w4.setCell ⟨wr.heap.size,0,none⟩ (.int .i64 y.kind)).setCell ⟨wr.heap.size,1,none⟩ (.string y.name)).setCell ⟨wr.heap.size,2,none⟩ (.int .i64 y.n)).setCell ⟨wr.heap.size,3,none⟩ (.slice a4 y.args.length c4)) :=
 ⟨_,a4,c4,rfl,rfl,k.set4 _ _ _ _,(hA.keep fun b hb=>by
  have hne:b≠wr.heap.size:=by have:=hb.1;omega
  rw[av_ _ _ _ _ hne,av_ _ _ _ _ hne,av_ _ _ _ _ hne,av_ _ _ _ _ hne]).mono fun b hb=>⟨by have:=hb.1;omega,by have:=hb.2;simpa using this⟩,hb.set4 (aA_ _) _ _ _ _⟩
theorem me_ (L:ByteArray)(but:List ByteArray)(t:Ty)(hk1:t.kind≠1)(hk5:t.kind≠5)(ih:∀ x∈t.args,eN_ L but x):eN_ L but t:=by
 intro S a c w vf vt vb fr tl k hA hS hs hf ht hlen hb hfl hk;have hdb:dbT fr.reverse t=.mk t.kind t.name t.n (t.args.map (dbT fr.reverse)):=az_ _ _ hk1 hk5;obtain⟨af,cf,rfl,hcf,_⟩:=id hf;obtain⟨at',ct,rfl,hct,_⟩:=id ht;have M:=ig_ w t a c af at' cf ct fr tl;have e1:(t.kind==1)=false:=by rw[beq_eq_false_iff_ne];exact hk1
 have e5:(t.kind==5)=false:=by rw[beq_eq_false_iff_ne];exact hk5
 have hl:t.args.length≤9223372036854775807:=by
  obtain⟨_,_,_,h⟩:=hA.form;exact h
 have hb5:Below w.heap.size w (((((w.alloc (.cells #[.int .i64 t.kind,.string t.name,.int .i64 t.n,.slice a t.args.length c] 43)).alloc (.cells #[.slice af fr.length cf,.slice at' tl.length ct] 94)).alloc (.cells #[.int .i64 0,.string ⟨#[]⟩,.int .i64 0,.slice none 0 0] 43)).alloc (.cells #[.int .i64 t.kind,.string t.name,.int .i64 t.n,.slice none 0 0] 43)).alloc (.cells #[.slice af fr.length cf,.slice at' tl.length ct] 94)):=M.hz.alloc M.hz.size _;have hlw:Below ((((w.alloc (.cells #[.int .i64 t.kind,.string t.name,.int .i64 t.n,.slice a t.args.length c] 43)).alloc (.cells #[.slice af fr.length cf,.slice at' tl.length ct] 94)).alloc (.cells #[.int .i64 0,.string ⟨#[]⟩,.int .i64 0,.slice none 0 0] 43)).alloc (.cells #[.int .i64 t.kind,.string t.name,.int .i64 t.n,.slice none 0 0] 43)).heap.size ((((w.alloc (.cells #[.int .i64 t.kind,.string t.name,.int .i64 t.n,.slice a t.args.length c] 43)).alloc (.cells #[.slice af fr.length cf,.slice at' tl.length ct] 94)).alloc (.cells #[.int .i64 0,.string ⟨#[]⟩,.int .i64 0,.slice none 0 0] 43)).alloc (.cells #[.int .i64 t.kind,.string t.name,.int .i64 t.n,.slice none 0 0] 43)) (((((w.alloc (.cells #[.int .i64 t.kind,.string t.name,.int .i64 t.n,.slice a t.args.length c] 43)).alloc (.cells #[.slice af fr.length cf,.slice at' tl.length ct] 94)).alloc (.cells #[.int .i64 0,.string ⟨#[]⟩,.int .i64 0,.slice none 0 0] 43)).alloc (.cells #[.int .i64 t.kind,.string t.name,.int .i64 t.n,.slice none 0 0] 43)).alloc (.cells #[.slice af fr.length cf,.slice at' tl.length ct] 94)):=aq_ _ _;have E5:Hid (cnT (aK_ L) but tl.reverse k (dbT fr.reverse t)=(.mk t.kind t.name t.n (cnL (aK_ L) but tl.reverse k (t.args.map (dbT fr.reverse))).1,(cnL (aK_ L) but tl.reverse k (t.args.map (dbT fr.reverse))).2)):=hid (by
  rw[hdb,di_ _ _ _ _ _ _ _ _ (by have:=hs.kind;omega) hk5])
 have KT5:=hid (M.kt.low hlw);have KR5:=hid (M.kr.low hlw);have KM5:Hid (R2 (((((w.alloc (.cells #[.int .i64 t.kind,.string t.name,.int .i64 t.n,.slice a t.args.length c] 43)).alloc (.cells #[.slice af fr.length cf,.slice at' tl.length ct] 94)).alloc (.cells #[.int .i64 0,.string ⟨#[]⟩,.int .i64 0,.slice none 0 0] 43)).alloc (.cells #[.int .i64 t.kind,.string t.name,.int .i64 t.n,.slice none 0 0] 43)).alloc (.cells #[.slice af fr.length cf,.slice at' tl.length ct] 94)) (w.heap.size+1+1+1+1) (.slice af fr.length cf) (.slice at' tl.length ct)):=hid (by have h:=R2.new ((((w.alloc (.cells #[.int .i64 t.kind,.string t.name,.int .i64 t.n,.slice a t.args.length c] 43)).alloc (.cells #[.slice af fr.length cf,.slice at' tl.length ct] 94)).alloc (.cells #[.int .i64 0,.string ⟨#[]⟩,.int .i64 0,.slice none 0 0] 43)).alloc (.cells #[.int .i64 t.kind,.string t.name,.int .i64 t.n,.slice none 0 0] 43)) (.slice af fr.length cf) (.slice at' tl.length ct);rw[M.size] at h;exact h);have HF5:=hid (gl_.of_low (O:=w.heap.size+1+1+1) hf hb5 (by omega));have HT5:=hid (gl_.of_low (O:=w.heap.size+1+1+1) ht hb5 (by omega));have HB5:=hid (gl_.of_low (O:=w.heap.size+1+1+1) hb hb5 (by omega));have BW5:=hid hb5;have N5:Hid (w.heap.size+1+1+1+1<(((((w.alloc (.cells #[.int .i64 t.kind,.string t.name,.int .i64 t.n,.slice a t.args.length c] 43)).alloc (.cells #[.slice af fr.length cf,.slice at' tl.length ct] 94)).alloc (.cells #[.int .i64 0,.string ⟨#[]⟩,.int .i64 0,.slice none 0 0] 43)).alloc (.cells #[.int .i64 t.kind,.string t.name,.int .i64 t.n,.slice none 0 0] 43)).alloc (.cells #[.slice af fr.length cf,.slice at' tl.length ct] 94)).heap.size):=hid (by simp);have I5:Hid (dS_ noS (w.heap.size+1+1+1) (((((w.alloc (.cells #[.int .i64 t.kind,.string t.name,.int .i64 t.n,.slice a t.args.length c] 43)).alloc (.cells #[.slice af fr.length cf,.slice at' tl.length ct] 94)).alloc (.cells #[.int .i64 0,.string ⟨#[]⟩,.int .i64 0,.slice none 0 0] 43)).alloc (.cells #[.int .i64 t.kind,.string t.name,.int .i64 t.n,.slice none 0 0] 43)).alloc (.cells #[.slice af fr.length cf,.slice at' tl.length ct] 94)).heap.size (((((w.alloc (.cells #[.int .i64 t.kind,.string t.name,.int .i64 t.n,.slice a t.args.length c] 43)).alloc (.cells #[.slice af fr.length cf,.slice at' tl.length ct] 94)).alloc (.cells #[.int .i64 0,.string ⟨#[]⟩,.int .i64 0,.slice none 0 0] 43)).alloc (.cells #[.int .i64 t.kind,.string t.name,.int .i64 t.n,.slice none 0 0] 43)).alloc (.cells #[.slice af fr.length cf,.slice at' tl.length ct] 94)) (((((w.alloc (.cells #[.int .i64 t.kind,.string t.name,.int .i64 t.n,.slice a t.args.length c] 43)).alloc (.cells #[.slice af fr.length cf,.slice at' tl.length ct] 94)).alloc (.cells #[.int .i64 0,.string ⟨#[]⟩,.int .i64 0,.slice none 0 0] 43)).alloc (.cells #[.int .i64 t.kind,.string t.name,.int .i64 t.n,.slice none 0 0] 43)).alloc (.cells #[.slice af fr.length cf,.slice at' tl.length ct] 94)) t.kind t.name t.n (.slice none 0 0) [] []):=hid ⟨M.ko.low hlw,.nil _ _ _,.refl _ _ _⟩;have HL5:=hid hlen;have SE5:Hid (fr.length+ag_ t.args≤1000000000000∧k+ag_ t.args*(but.length+1)≤100000000000000000):=hid ⟨by have:=t.size_eq;omega,by rw[t.size_eq,Nat.add_mul] at hk;omega⟩;have SA:=hid hs.args;have IH:=hid ih;have AH:=hid hA;have HS:=hid hS;have c0:=M.kt.c0;have N0:=M.kn.c0;have N1:=M.kn.c1;have P0:=M.kt;have Q0:R4 ((((w.alloc (.cells #[.int .i64 t.kind,.string t.name,.int .i64 t.n,.slice a t.args.length c] 43)).alloc (.cells #[.slice af fr.length cf,.slice at' tl.length ct] 94)).alloc (.cells #[.int .i64 0,.string ⟨#[]⟩,.int .i64 0,.slice none 0 0] 43))) w.heap.size (.int .i64 t.kind) (.string t.name) (.int .i64 t.n) (.slice a t.args.length c):=(heap_alloc_old _ _ (by simp<;>omega)).symm.trans P0;have b0:=Q0.c0;have b1:=Q0.c1;have b2:=Q0.c2;have d0:=KT5.out.c0;clear hA hS hs hf ht hb hfl hk hdb M P0 Q0 hlen hcf hct hk1 hk5 ih hb5 hlw;unfold tv;go_enter Tryz.func43,Tryz.ntmps43;go_wp2;clear b0 b1 b2 c0 N0 N1 d0;generalize ((((w.alloc (.cells #[.int .i64 t.kind,.string t.name,.int .i64 t.n,.slice a t.args.length c] 43)).alloc (.cells #[.slice af fr.length cf,.slice at' tl.length ct] 94)).alloc (.cells #[.int .i64 0,.string ⟨#[]⟩,.int .i64 0,.slice none 0 0] 43)).alloc (.cells #[.int .i64 t.kind,.string t.name,.int .i64 t.n,.slice none 0 0] 43)).alloc (.cells #[.slice af fr.length cf,.slice at' tl.length ct] 94)=W5 at *
 go_loopw [4,16] (fun kv iv wr=>∃ (i kk:Nat) (v:Value) (acc:List Ty) (svs:List Value),kv=.int .i64 kk∧iv=.int .i64 i∧i≤t.args.length∧cnL (aK_ L) but (tl).reverse (k) ((t.args.take i).map (dbT (fr).reverse))=(acc,kk)∧dS_ noS (w.heap.size+1+1+1) (W5).heap.size (W5) wr t.kind t.name t.n v acc svs) (fun _ iv _=>t.args.length - (intOf iv).toNat)
 case atStart=>exact⟨0,_,_,_,_,rfl,rfl,Nat.zero_le _,by simp[cnL],I5.out⟩
 case round =>
  obtain⟨i,kk,v,acc,svs,rfl,rfl,hil,hcn,hI⟩:=hrel;have z0:(0:Int)≤(i:Int):=by omega
  have n5:=N5.out;have hws:(W5).heap.size≤wr.heap.size:=hI.kp.size;have kt:R4 wr w.heap.size (.int .i64 t.kind) (.string t.name) (.int .i64 t.n) (.slice a t.args.length c):=(hI.kept (by omega) (by omega)).trans KT5.out;have km:R2 wr (w.heap.size+1+1+1+1) (.slice af fr.length cf) (.slice at' tl.length ct):=(hI.kept (by omega) (by omega)).trans KM5.out;have kr:R4 wr (w.heap.size+1+1) (.int .i64 0) (.string ⟨#[]⟩) (.int .i64 0) (.slice none 0 0):=(hI.kept (by omega) (by omega)).trans KR5.out;have ko:=hI.ko;have hBw:Below w.heap.size w wr:=((Kp.of_below BW5.out).trans (hI.kp.mono (n:=w.heap.size) (T':=fun _=>False) (by omega) (fun b hb e=>by omega)) (aA_ _) (fun _ _ e=>e)).to_below;have KO:=hid ko;have KR:=hid kr;have HI:=hid hI;have BW:=hid hBw;have t3:=kt.c3
  by_cases hi:i<t.args.length
  ·have z1:(i:Int)<(t.args.length:Int):=by omega
   obtain⟨b,off,a',cap',rfl,hb,hf,hs⟩:=AH.out.at_ hi;obtain⟨f0,f1,f2,f3⟩:=hf.keep (hBw.block b (HS.out b hb));have hm:=List.getElem_mem hi;have hkk:kk≤k+ag_ (t.args.take i)*(but.length+1):=by
    have:=q6_ (aK_ L) (fun _ _=>cQ_) but ((t.args.take i).map (dbT (fr).reverse)) (tl).reverse (k);rw[hcn,k4_ _ (fun x hx=>SA.out x (List.mem_of_mem_take hx))] at this;exact this
   have hsx:=co_ t.args i hi;have hsy:=bu_ t.args (i+1);have hbd:kk+t.args[i].size*(but.length+1)≤100000000000000000:=by
    have h1:(ag_ (t.args.take i)+t.args[i].size)*(but.length+1)≤ag_ t.args*(but.length+1):=Nat.mul_le_mul_right _ (by omega);rw[Nat.add_mul] at h1;have:=SE5.out.2;omega
   have CC:=fun (W:World) (hW:Below wr.heap.size wr W)=>IH.out _ hm S a' cap' W (.slice af fr.length cf) (.slice at' tl.length ct) vb (fr) (tl) kk (hs.keep fun b hS=>(hBw.trans (hW.mono hBw.size)).block b (HS.out b hS)) (fun b hS=>aU_ (HS.out b hS) (bL_ hBw.size hW.size)) (SA.out _ hm) ((HF5.out.kp hI.kp).low hW) ((HT5.out.kp hI.kp).low hW) HL5.out ((HB5.out.kp hI.kp).low hW) (by have:=SE5.out.1;have:=a7_ _ hm;omega) hbd;have CA:=hid (CC wr.drew (Below.refl _ _).drew);have CB:=hid (CC (wr.alloc (.cells #[.int .i64 0,.string ⟨#[]⟩,.int .i64 0,.slice none 0 0] 43)).drew ((aq_ _ _).drew));have ST:=hid (lD_ (aK_ L) but (tl).reverse (k) (dbT (fr).reverse) t.args i hi);have hyk:(cnT (aK_ L) but (tl).reverse kk (dbT (fr).reverse t.args[i])).2≤100000000000000000:=by
    have:=qp_ (aK_ L) (fun _ _=>cQ_) but (dbT (fr).reverse t.args[i]) (tl).reverse kk;rw[bt_ _ (SA.out _ hm)] at this;omega
   have hal:acc.length≤1000000000000:=by
    have h1:=eM_ (aK_ L) but ((t.args.take i).map (dbT (fr).reverse)) (tl).reverse (k);rw[hcn] at h1;simp only[List.length_map,List.length_take] at h1;have:=aZ_ t.args;have:=SE5.out.1;omega
   have CN:=hid hcn;have m0:=km.c0;have m1:=km.c1;have o3:=ko.c3;have hzr:Below wr.heap.size wr (wr.alloc (.cells #[.int .i64 0,.string ⟨#[]⟩,.int .i64 0,.slice none 0 0] 43)):=aq_ _ _;obtain⟨ff0,ff1,ff2,ff3⟩:=hf.keep ((hBw.trans (hzr.mono hBw.size)).block b (HS.out b hb));have tt3:=(kt.low hzr).c3;have mm0:=(km.low hzr).c0;have mm1:=(km.low hzr).c1;unfold tv at CA CB;clear hf hs hBw hm hb hI kt km kr ko hcn hkk hsx hsy hbd CC hzr;generalize t.args[i]=x at *;generalize hr:cnT (aK_ L) but (tl).reverse kk (dbT (fr).reverse x)=r at *;obtain⟨y,k2⟩:=r;have HR:=hid hr;simp only at hyk;clear hr
   go_upto_region 23 with fail
   go_cut [17,18] from 107 to 118 (fun xp kv wx=>dn_ wr y k2 xp kv wx)
   case first =>
    go_region_law (first
     | (go_simp;go_at_call 43;(with_reducible refine CA.out.mono ?_);rintro e w4 ⟨a4,c4,rfl,hA4,hB4⟩;have HB4:Hid (Below wr.heap.size wr w4):=hid ((Below.refl _ _).drew.trans hB4);have HA4:Hid (aa_ (In wr.heap.size w4.heap.size) w4 (.slice a4 y.args.length c4) y.args):=hid hA4;clear hA4 hB4;unfold tv)
     | (go_simp;go_at_call 43;(with_reducible refine CB.out.mono ?_);rintro e w4 ⟨a4,c4,rfl,hA4,hB4⟩;have k9:=R4.low ((R4.new wr (.int .i64 0) (.string ⟨#[]⟩) (.int .i64 0) (.slice none 0 0)).low (Below.refl _ _).drew) hB4;have s0:=k9.c0;have s1:=k9.c1;have s2:=k9.c2;have s3:=k9.c3;have g0:=k9.fr 0;have g1:=k9.fr 1;have g2:=k9.fr 2;have g3:=k9.fr 3;have K9:=hid k9;have HB4:Hid (Below wr.heap.size wr w4):=hid (((aq_ _ _).drew).trans (hB4.mono (by simp)));have HA4:Hid (aa_ (In (wr.heap.size+1) w4.heap.size) w4 (.slice a4 y.args.length c4) y.args):=hid (hA4.mono fun b hb=>And.intro (show wr.heap.size+1≤b from by have:=hb.1;simpa using this) hb.2);clear hA4 hB4 k9;unfold tv))
    all_goals
     go_wp2_with fail
     go_meet
     first
      | (with_reducible exact dn_.new HB4.out HA4.out)
      | (with_reducible exact dn_.old HB4.out HA4.out K9.out)
   obtain⟨bx,a4,c4,rfl,rfl,kx,hA4,hB4⟩:=hcut
   rename_i wx _
   obtain⟨x0,x1,x2,x3⟩:=kx.c03;have k4:=KO.out.low hB4;obtain⟨p0,p1,p2,p3⟩:=k4.c03;have p5:=(k4.low (aq_ _ (.cells #[.int .i64 y.kind,.string y.name,.int .i64 y.n,.slice a4 y.args.length c4] 43))).c3;have K4:=hid k4;have NV:Hid (v.ownBlock≠some (w.heap.size+1+1+1)):=hid (fun e=>by have:=(HI.out.row.own.lt _ e).1;omega);have PA:=hid ((HI.out.row.low hB4).push (bL_ hws hB4.size) hal (t:=y) (a:=a4) (c:=c4) (hA4.mono fun b hb=>⟨.inr (by have:=hb.1;omega),hb.2,fun e=>by have:=(HI.out.row.own.lt b e).2;have:=hb.1;omega⟩));have HB4:=hid hB4;clear hB4 kx k4 hA4 f0 f1 f2 f3 m0 m1 o3 t3 ff0 ff1 ff2 ff3 mm0 mm1 tt3;go_wp2_with (at_builtin;refine ec_ (by rfl) _ _ _ (by rfl) (by rfl) (by rfl) PA.out ?_;rintro v7 w7 ⟨hr7,hg7,hl7⟩;obtain⟨a7,c7,hv7⟩:=hr7.form;rw[List.length_append,List.length_singleton] at hv7;subst hv7;have g7:=(K4.out.grown hg7 NV.out).fr 3;have e7:=(K4.out.grown hg7 NV.out).c3;have HR7:=hid hr7;have HG7:=hid hg7;clear hr7 hg7);have HI8:=hid (HI.out.step (by omega) (fun b hb=>hb.elim) hws HB4.out HR7.out HG7.out);go_roundw
   case rel=>exact⟨i+1,k2,_,acc++[y],_,rfl,by go_num,by omega,by rw[ST.out,CN.out];simp only;rw[HR.out],HI8.out⟩
   case measure=>simp[intOf];omega
  ·obtain rfl:i=t.args.length:=by omega
   obtain⟨av,cv,hv⟩:=hI.row.form;subst hv;have hal:acc.length=t.args.length:=by
    have h1:=eM_ (aK_ L) but ((t.args.take t.args.length).map (dbT (fr).reverse)) (tl).reverse (k);rw[hcn] at h1;simpa using h1
   have EL:=hid hal;rw[hal] at ko;have EE:Hid (cnT (aK_ L) but tl.reverse k (dbT fr.reverse t)=(.mk t.kind t.name t.n acc,kk)):=hid (by
    rw[List.take_length] at hcn;rw[E5.out,hcn])
   have HI2:=hid hI;obtain⟨o0,o1,o2,o3⟩:=ko.c03;obtain⟨r0,r1,r2,r3⟩:=kr.c03;obtain⟨f0,f1,f2,f3⟩:=kr.f03;clear hI hBw kt km kr ko HI KO hal hcn;go_wp2;have q4:=KR.out.set4 (.int .i64 t.kind) (.string t.name) (.int .i64 t.n) (.slice av t.args.length cv);have he:=HI2.out.end_ (w:=w) (fun b hb=>hb.elim) BW5.out (by omega) (by omega) (r:=w.heap.size+1+1) (by omega) (by omega) (.int .i64 t.kind) (.string t.name) (.int .i64 t.n) (.slice av t.args.length cv);refine bodyPost_ret (v:=.tuple #[.agg #[.int .i64 t.kind,.string t.name,.int .i64 t.n,.slice av t.args.length cv],.int .i64 (kk:Int)]) (by simp[results,Tryz.results43,go_sem,q4.c0,q4.c1,q4.c2,q4.c3]) rfl ?_;rw[EE.out];refine⟨av,cv,?_,he.1.mono fun b hb=>hb.resolve_left (fun h=>h),he.2⟩;show _=Ending.returned (.tuple #[.agg #[.int .i64 t.kind,.string t.name,.int .i64 t.n,.slice av acc.length cv],.int .i64 (kk:Int)]);rw[EL.out]
end Go.Proofs.YtjecnionbjlncaaGreatDoor.Tp

/- Packed. -/
import Derived.Shelf.Strings.BuilderF
import Derived.Shelf.Strings.Repeat
import Derived.Test.YtkihnodkhnahiaaGreatDoorP38
import Derived.Test.YtkihnodkhnahiaaGreatDoorP39
set_option maxRecDepth 100000
set_option maxHeartbeats 6400000
namespace Go.Proofs
open Go.Shelf
def Tryz.lays105_ren:Go.Shelf.Ren:=⟨fun | 105=>91 | 212=>107 | 99=>71 | 165=>82 | 166=>83 | 170=>108 | 169=>84 | 263=>122 | 264=>123 | 206=>96 | 240=>103 | 241=>104 | 276=>117 | 277=>118|n=>n,fun | 9=>9 | 3=>3 | 4=>4 | 20=>20 | 0=>0 | 46=>148 | 109=>149 | 5=>5 | 72=>133 | 76=>137 | 51=>163 | 146=>164 | 53=>154 | 148=>166 | 70=>130 | 37=>131 | 75=>136 | 127=>147 | 164=>159 | 80=>62|n=>n,fun|n=>n⟩
theorem Tryz.lays105:Go.Proofs.Lays.n105 Tryz.prog Tryz.lays105_ren:={
 mixed:=by kernel_rfl
 f99:=Tryz.func71.trans (congrArg some (by kernel_rfl))
 f105:=Tryz.func91.trans (congrArg some (by kernel_rfl))
 f165:=Tryz.func82.trans (congrArg some (by kernel_rfl))
 f166:=Tryz.func83.trans (congrArg some (by kernel_rfl))
 f169:=Tryz.func84.trans (congrArg some (by kernel_rfl))
 f170:=Tryz.func108.trans (congrArg some (by kernel_rfl))
 f206:=Tryz.func96.trans (congrArg some (by kernel_rfl))
 f212:=Tryz.func107.trans (congrArg some (by kernel_rfl))
 f240:=Tryz.func103.trans (congrArg some (by kernel_rfl))
 f241:=Tryz.func104.trans (congrArg some (by kernel_rfl))
 f263:=Tryz.func122.trans (congrArg some (by kernel_rfl))
 f264:=Tryz.func123.trans (congrArg some (by kernel_rfl))
 f276:=Tryz.func117.trans (congrArg some (by kernel_rfl))
 f277:=Tryz.func118.trans (congrArg some (by kernel_rfl))
 t0:=Tryz.underlying0
 a0:=Tryz.isAgg0
 z0:=Tryz.sizeOf0
 v0:=Tryz.zeroValue0
 t3:=Tryz.underlying3
 a3:=Tryz.isAgg3
 z3:=Tryz.sizeOf3
 v3:=Tryz.zeroValue3
 t4:=Tryz.underlying4
 a4:=Tryz.isAgg4
 z4:=Tryz.sizeOf4
 v4:=Tryz.zeroValue4
 t5:=Tryz.underlying5
 a5:=Tryz.isAgg5
 z5:=Tryz.sizeOf5
 v5:=Tryz.zeroValue5
 t9:=Tryz.underlying9
 a9:=Tryz.isAgg9
 z9:=Tryz.sizeOf9
 v9:=Tryz.zeroValue9
 t20:=Tryz.underlying20
 a20:=Tryz.isAgg20
 z20:=Tryz.sizeOf20
 v20:=Tryz.zeroValue20
 t37:=Tryz.underlying131
 a37:=Tryz.isAgg131
 z37:=Tryz.sizeOf131
 v37:=Tryz.zeroValue131
 t46:=Tryz.underlying148
 a46:=Tryz.isAgg148
 z46:=Tryz.sizeOf148
 v46:=Tryz.zeroValue148
 t51:=Tryz.underlying163
 a51:=Tryz.isAgg163
 z51:=Tryz.sizeOf163
 v51:=Tryz.zeroValue163
 t53:=Tryz.underlying154
 a53:=Tryz.isAgg154
 z53:=Tryz.sizeOf154
 v53:=Tryz.zeroValue154
 t70:=Tryz.underlying130
 a70:=Tryz.isAgg130
 z70:=Tryz.sizeOf130
 v70:=Tryz.zeroValue130
 t72:=Tryz.underlying133
 a72:=Tryz.isAgg133
 z72:=Tryz.sizeOf133
 v72:=Tryz.zeroValue133
 t75:=Tryz.underlying136
 a75:=Tryz.isAgg136
 z75:=Tryz.sizeOf136
 v75:=Tryz.zeroValue136
 t76:=Tryz.underlying137
 a76:=Tryz.isAgg137
 z76:=Tryz.sizeOf137
 v76:=Tryz.zeroValue137
 t109:=Tryz.underlying149
 a109:=Tryz.isAgg149
 z109:=Tryz.sizeOf149
 v109:=Tryz.zeroValue149
 t127:=Tryz.underlying147
 a127:=Tryz.isAgg147
 z127:=Tryz.sizeOf147
 v127:=Tryz.zeroValue147
 t146:=Tryz.underlying164
 a146:=Tryz.isAgg164
 z146:=Tryz.sizeOf164
 v146:=Tryz.zeroValue164
 t148:=Tryz.underlying166
 a148:=Tryz.isAgg166
 z148:=Tryz.sizeOf166
 v148:=Tryz.zeroValue166
 t164:=Tryz.underlying159
 a164:=Tryz.isAgg159
 z164:=Tryz.sizeOf159
 v164:=Tryz.zeroValue159 }
theorem Tryz.Builder_Extra_105:Builder.Extra Tryz.prog Tryz.lays105_ren:={
 sizeBuilder:=by kernel_rfl
 liesBuilder:=by kernel_rfl
 t5:=Tryz.underlying5
 a5:=Tryz.isAgg5
 z5:=Tryz.sizeOf5
 v5:=Tryz.zeroValue5
 infoByte:=by kernel_rfl
 cellsByte:=by kernel_rfl
 sizeByte:=by kernel_rfl
 neB5:=by decide }
open Go.RowKit Go.Lib in
theorem Tryz.strings_Repeat (s:ByteArray)(c:Nat)(w:World)(hc:c≤9223372036854775807)(hlen:s.size*c≤140737488355328) :
  Calls Tryz.prog 91 #[.string s,.int .i64 c] w fun e w'=>e=.returned (.string ⟨(Lib.repeatL s.data.toList c).toArray⟩)∧Below w.heap.size w w':=Any.strings_Repeat Tryz.lays105 Tryz.Builder_Extra_105 s c w hc hlen
end Go.Proofs
namespace Go.Proofs.YtkihnodkhnahiaaGreatDoor.Tp
open Go.RowKit
theorem mh_ (m:Nat):(⟨#[36]⟩:ByteArray)++⟨(Lib.repeatL [36] m).toArray⟩=fB_ (m+1):=by
 unfold fB_;rw[List.replicate_succ,show Lib.repeatL [36] m=List.replicate m 36 from by have:=Lib.repeatL_replicate 36 1 m;simpa using this];show aa_ [36]++aa_ (List.replicate m 36)=_;rw[ah_];rfl
theorem oq_ (c:Co)(S:Nat→Prop)(a:OA_)(n:Nat)(ka:OA_)(kn:Nat)(w:World)(hC:bS_ S w c a n ka kn)(hn:∀ b,S b→b<w.heap.size)(hd:aW_ c≤100000) :
  Calls Tryz.prog 58 #[cv c a n ka kn,.int .i64 0] w (fun e w'=>e=.returned (.string (b5_ c))∧Below w.heap.size w w'):=by
  have DE:Hid (a3_ c.kids≤100000):=hid (by rw[dP_] at hd;omega);have HC:=hid hC;have HN:=hid hn;have hz:=ao_ w (.cells #[.int .i64 c.kind,.string c.name,.int .i64 c.n,.int .i64 c.t.kind,.string c.t.name,.int .i64 c.t.n,.slice a c.t.args.length n,.slice ka c.kids.length kn] 33);have hkl:c.kids.length≤9223372036854775807:=by obtain⟨_,_,_,h⟩:=hC.k.form;exact h
  have B0:=hid hz;clear hC hn hd hz;unfold cv;go_enter Tryz.func58,Tryz.ntmps58;go_wp2
  go_loopw [1,10] (fun mv iv wr=>∃ i:Nat,iv=.int .i64 i∧i≤c.kids.length∧mv=.int .i64 (a3_ (c.kids.take i):Nat)∧Below w.heap.size w wr) (fun _ iv _=>c.kids.length - (intOf iv).toNat)
  case atStart=>exact⟨0,rfl,Nat.zero_le _,by simp[a3_],B0.out⟩
  case round =>
   obtain⟨i,rfl,hil,rfl,hB⟩:=hrel;have z0:(0:Int)≤(i:Int):=(by omega);have BH:=hid hB
   by_cases hi:i<c.kids.length
   ·have z1:(i:Int)<(c.kids.length:Int):=by omega
    obtain⟨b,off,a1,n1,a2,n2,rfl,hb,hf,hs,hk⟩:=HC.out.k.at_ hi;have hn:=HN.out;obtain⟨f0,f1,f2,f3,f4,f5,f6,f7⟩:=hf.keep (hB.block b (hn b hb));have hm:=List.getElem_mem hi;have hbi:=jF_ _ hm;have CH:=hid (fun (W:World) (hb:Below w.heap.size w W)=>ok_ _ S a1 n1 a2 n2 W ⟨hs.keep fun b hS=>hb.block b (hn b hS),hk.keep fun b hS=>hb.block b (hn b hS)⟩ (fun b hS=>aX_ (hn b hS) hb.size) (by have:=DE.out;omega));have DT:=hid (hf_ _ _ hi);have hdl:a3_ (c.kids.take i)≤a3_ c.kids:=by
     conv=>rhs;rw[← List.take_append_drop i c.kids,ev_]
     omega
    have hd1:a3_ (c.kids.take i)≤100000:=(by have:=DE.out;omega);have hd2:aW_ c.kids[i]≤100000:=(by have:=DE.out;omega);have hsz:=hB.size;clear hf hs hk hB hm hbi hn hb hdl;unfold cv at CH;generalize c.kids[i]=x at *;generalize a3_ (c.kids.take i)=m at *;have em:(if m<aW_ x then (aW_ x:Int) else (m:Int))=((max m (aW_ x):Nat):Int):=by split<;>omega
    go_wp2_with fail;refine (CH.out _ (BH.out.alloc (by omega) _)).mono ?_;rintro e w4 ⟨rfl,B4⟩;have B5:=hid ((BH.out.alloc (by omega) (.cells #[.int .i64 x.kind,.string x.name,.int .i64 x.n,.int .i64 x.t.kind,.string x.t.name,.int .i64 x.t.n,.slice a1 x.t.args.length n1,.slice a2 x.kids.length n2] 33)).trans (B4.mono (by simp;omega)));clear B4;go_wp2;go_roundw
    case rel=>exact⟨i+1,by go_num,by omega,by rw[DT.out];congr 1;omega,B5.out⟩
    case measure=>simp[intOf];omega
   ·obtain rfl:i=c.kids.length:=by omega
    have hd1:a3_ c.kids≤100000:=DE.out;have E:Hid (b5_ c=fB_ (a3_ c.kids+1)):=hid rfl;clear hB;simp only[List.take_length];generalize a3_ c.kids=m at *;have CR:=hid (Tryz.strings_Repeat ⟨#[36]⟩ m wr (by omega) (by show 1*m≤_;omega));have hsz:(⟨(Lib.repeatL [36] m).toArray⟩:ByteArray).size≤100000:=by
     show (Lib.repeatL [36] m).toArray.size≤_;rw[List.size_toArray,Lib.repeatL_length];simpa using hd1
    have ES:=hid (mh_ m);go_wp2_with fail;refine CR.out.mono ?_;rintro e w5 ⟨rfl,hb5⟩;have B6:=hid (BH.out.trans (hb5.mono BH.out.size));clear hb5;generalize (⟨(Lib.repeatL [36] m).toArray⟩:ByteArray)=s at *;have z1:(⟨#[36]⟩++s:ByteArray).size≤1000000:=by rw[ByteArray.size_append];show 1+s.size≤_;omega
    go_wp2;go_ret;exact⟨by rw[E.out,← ES.out];rfl,B6.out⟩
theorem jx_ {P:Program}{a:Act}{w:World}{G:Prop}(h:G)(_:wpAny P Region.Mode.any #[] (fun _ _ _=>True) 0 #[] a w):G:=h
def d1_ (q:Nat)(g:List Giv)(d:Nat):Prop:=∀ (c:Co) (S:Nat→Prop) (a:OA_) (n:Nat) (ka:OA_) (kn:Nat) (gv:Value) (w:World),dk_ S w gv g→bS_ S w c a n ka kn→(∀ b,S b→b<w.heap.size)→WfC c→c.deep≤d →
 (bdC q c).s≤50000000000→(bdC q c).f≤4000000→aW_ c≤60→Tab w→Calls Tryz.prog 27 #[gv,cv c a n ka kn] w (bp_ S bV_ w (aB_ d g c))
structure ie_ (w W:World)(c:Co)(a:OA_)(n:Nat)(ka:OA_)(kn:Nat):Prop where
 k:B8 W w.heap.size (.int .i64 c.kind) (.string c.name) (.int .i64 c.n) (.int .i64 c.t.kind) (.string c.t.name) (.int .i64 c.t.n) (.slice a c.t.args.length n) (.slice ka c.kids.length kn)
 l:B4 W (w.heap.size+1) (.int .i64 0) (.string ⟨#[]⟩) (.int .i64 0) (.slice none 0 0)
 r:B4 W (w.heap.size+1+1) (.int .i64 0) (.string ⟨#[]⟩) (.int .i64 0) (.slice none 0 0)
 b:Below w.heap.size w W
theorem ie_.new (w:World)(c:Co)(a:OA_)(n:Nat)(ka:OA_)(kn:Nat):ie_ w (((w.alloc (.cells #[.int .i64 c.kind,.string c.name,.int .i64 c.n,.int .i64 c.t.kind,.string c.t.name,.int .i64 c.t.n,.slice a c.t.args.length n,.slice ka c.kids.length kn] 33)).alloc (.cells #[.int .i64 0,.string ⟨#[]⟩,.int .i64 0,.slice none 0 0] 30)).alloc (.cells #[.int .i64 0,.string ⟨#[]⟩,.int .i64 0,.slice none 0 0] 30)) c a n ka kn:=by
 have h1:=ao_ w (.cells #[.int .i64 c.kind,.string c.name,.int .i64 c.n,.int .i64 c.t.kind,.string c.t.name,.int .i64 c.t.n,.slice a c.t.args.length n,.slice ka c.kids.length kn] 33);have h2:=h1.alloc h1.size (.cells #[.int .i64 0,.string ⟨#[]⟩,.int .i64 0,.slice none 0 0] 30);have h3:=h2.alloc h2.size (.cells #[.int .i64 0,.string ⟨#[]⟩,.int .i64 0,.slice none 0 0] 30);refine⟨((B8.new w _ _ _ _ _ _ _ _).low (ao_ _ _)).low (ao_ _ _),?_,al_ (by simp),h3⟩;exact B4.low (w:=(w.alloc (.cells #[.int .i64 c.kind,.string c.name,.int .i64 c.n,.int .i64 c.t.kind,.string c.t.name,.int .i64 c.t.n,.slice a c.t.args.length n,.slice ka c.kids.length kn] 33)).alloc (.cells #[.int .i64 0,.string ⟨#[]⟩,.int .i64 0,.slice none 0 0] 30)) (al_ (by simp)) (ao_ _ _)
theorem ie_.low {w W W':World}{c:Co}{a:OA_}{n:Nat}{ka:OA_}{kn:Nat}(h:ie_ w W c a n ka kn)(hb:Below W.heap.size W W'):ie_ w W' c a n ka kn:=⟨h.k.low hb,h.l.low hb,h.r.low hb,h.b.trans (hb.mono h.b.size)⟩
theorem d4_ {S:Nat→Prop}{W:World}{a:OA_}{m c:Nat}{ts:List Ty}(h:ac_ S W (.slice a m c) ts)(hl:0<ts.length) :
  ∃ b off a' c',a=some ⟨b,off,none⟩∧S b∧iS_ W b off (.int .i64 (h0 ts).kind) (.string (h0 ts).name) (.int .i64 (h0 ts).n) (.slice a' (h0 ts).args.length c')∧ac_ S W (.slice a' (h0 ts).args.length c') (h0 ts).args:=by
 obtain⟨b,off,a',c',e,hb,hf,hs⟩:=h.at_ hl;rw[Nat.zero_mul,Nat.add_zero] at hf;cases ts with
 | nil=>simp at hl
 | cons t ts=>exact⟨b,off,a',c',e,hb,hf,hs⟩
theorem m8_ {S:Nat→Prop}{W:World}{b off m c:Nat}{ts:List Ty}(h:ac_ S W (.slice (some ⟨b,off,none⟩) m c) ts)(hl:1<ts.length) :
  ∃ a' c',iS_ W b (off+4) (.int .i64 (h1 ts).kind) (.string (h1 ts).name) (.int .i64 (h1 ts).n) (.slice a' (h1 ts).args.length c')∧ac_ S W (.slice a' (h1 ts).args.length c') (h1 ts).args:=by
 obtain⟨b',off',a',c',e,hb,hf,hs⟩:=h.at_ hl;injection e with e;injection e with e1 e2
 subst e1 e2;rw[Nat.one_mul] at hf
 match ts,hl with
 | t :: u :: ts,_=>exact⟨a',c',hf,hs⟩
abbrev st4 (W:World) (R:Nat) (u0 u1 u2 u3:Value):World:=(((W.setCell ⟨R,0,none⟩ u0).setCell ⟨R,1,none⟩ u1).setCell ⟨R,2,none⟩ u2).setCell ⟨R,3,none⟩ u3
theorem cz_ (W:World){R b:Nat}(hb:b≠R)(u0 u1 u2 u3:Value):(st4 W R u0 u1 u2 u3).heap[b]? = W.heap[b]? := by
 unfold st4;rw[aM_ _ _ _ _ hb,aM_ _ _ _ _ hb,aM_ _ _ _ _ hb,aM_ _ _ _ _ hb]
theorem ea_ {m:Nat}{w W:World}{R:Nat}(h:Below m w W)(hR:m≤R)(u0 u1 u2 u3:Value):Below m w (st4 W R u0 u1 u2 u3):=h.set4 hR u0 u1 u2 u3
theorem pt_ {S:Nat→Prop}{w W W2:World}{x y:Ty}{xa ya:OA_}{xc yc:Nat}(hb:Below w.heap.size w W)(hS:∀ b,S b→b<w.heap.size)(hs:W2.heap.size=W.heap.size)(hob:Below w.heap.size W W2)
  (hx:ac_ (fun b=>S b∨w.heap.size+3≤b∧b<W.heap.size) W (.slice xa x.args.length xc) x.args) (hy:ac_ (fun b=>S b∨w.heap.size+3≤b∧b<W.heap.size) W (.slice ya y.args.length yc) y.args)
  (hoff:∀ b,b≠w.heap.size→b≠w.heap.size+1→b≠w.heap.size+2→W2.heap[b]? = W.heap[b]?):bp_ S bV_ w (some (x,y)) (.returned (.tuple #[tv x xa xc,tv y ya yc])) W2:=by
 have k:∀ b,(S b∨w.heap.size+3≤b∧b<W.heap.size)→W2.heap[b]? = W.heap[b]? := fun b h=>by
  rcases h with h|h
  ·have:=hS b h;exact hoff b (by omega) (by omega) (by omega)
  ·exact hoff b (by omega) (by omega) (by omega)
 have m:∀ b,(S b∨w.heap.size+3≤b∧b<W.heap.size)→(S b∨w.heap.size≤b∧b<W2.heap.size):=fun b h=>h.imp id fun h=>⟨by omega,by omega⟩;exact⟨hb.trans hob,_,_,_,_,rfl,(hx.keep k).mono m,(hy.keep k).mono m⟩
theorem kp_ (W:World)(b:Nat):W.drew.heap[b]? = W.heap[b]? := rfl
theorem B4.drewn {W:World}{b:Nat}{u0 u1 u2 u3:Value}(h:B4 W b u0 u1 u2 u3):B4 W.drew b u0 u1 u2 u3:=h
theorem eW_ {S:Nat→Prop}{w W:World}{c:Co}{a:OA_}{n:Nat}{ka:OA_}{kn:Nat}{x y:Ty}{xa ya:OA_}{xc yc:Nat}(M:ie_ w W c a n ka kn)(hS:∀ b,S b→b<w.heap.size)
  (hx:ac_ (fun b=>S b∨w.heap.size+3≤b∧b<W.heap.size) W (.slice xa x.args.length xc) x.args) (hy:ac_ (fun b=>S b∨w.heap.size+3≤b∧b<W.heap.size) W (.slice ya y.args.length yc) y.args) :
  B4 (st4 (st4 W (w.heap.size+1) (.int .i64 x.kind) (.string x.name) (.int .i64 x.n) (.slice xa x.args.length xc)) (w.heap.size+1+1) (.int .i64 y.kind) (.string y.name) (.int .i64 y.n) (.slice ya y.args.length yc)).drew (w.heap.size+1) (.int .i64 x.kind) (.string x.name) (.int .i64 x.n) (.slice xa x.args.length xc) ∧
  B4 (st4 (st4 W (w.heap.size+1) (.int .i64 x.kind) (.string x.name) (.int .i64 x.n) (.slice xa x.args.length xc)) (w.heap.size+1+1) (.int .i64 y.kind) (.string y.name) (.int .i64 y.n) (.slice ya y.args.length yc)).drew (w.heap.size+1+1) (.int .i64 y.kind) (.string y.name) (.int .i64 y.n) (.slice ya y.args.length yc) ∧
  bp_ S bV_ w (some (x,y)) (.returned (.tuple #[tv x xa xc,tv y ya yc])) (st4 (st4 W (w.heap.size+1) (.int .i64 x.kind) (.string x.name) (.int .i64 x.n) (.slice xa x.args.length xc)) (w.heap.size+1+1) (.int .i64 y.kind) (.string y.name) (.int .i64 y.n) (.slice ya y.args.length yc)).drew:=by
 have o1:∀ {b:Nat},b≠w.heap.size+1→(st4 W (w.heap.size+1) (.int .i64 x.kind) (.string x.name) (.int .i64 x.n) (.slice xa x.args.length xc)).heap[b]? = W.heap[b]? := fun h=>cz_ W h (.int .i64 x.kind) (.string x.name) (.int .i64 x.n) (.slice xa x.args.length xc);have o2:∀ {b:Nat},b≠w.heap.size+1+1→(st4 (st4 W (w.heap.size+1) (.int .i64 x.kind) (.string x.name) (.int .i64 x.n) (.slice xa x.args.length xc)) (w.heap.size+1+1) (.int .i64 y.kind) (.string y.name) (.int .i64 y.n) (.slice ya y.args.length yc)).drew.heap[b]? = (st4 W (w.heap.size+1) (.int .i64 x.kind) (.string x.name) (.int .i64 x.n) (.slice xa x.args.length xc)).heap[b]? := fun h=>(kp_ _ _).trans <| cz_ (st4 W (w.heap.size+1) (.int .i64 x.kind) (.string x.name) (.int .i64 x.n) (.slice xa x.args.length xc)) h (.int .i64 y.kind) (.string y.name) (.int .i64 y.n) (.slice ya y.args.length yc);have h1:=ea_ (Below.refl w.heap.size W) (show w.heap.size≤w.heap.size+1 by omega) (.int .i64 x.kind) (.string x.name) (.int .i64 x.n) (.slice xa x.args.length xc);have h2:=(ea_ h1 (show w.heap.size≤w.heap.size+1+1 by omega) (.int .i64 y.kind) (.string y.name) (.int .i64 y.n) (.slice ya y.args.length yc)).drew;have l1:B4 (st4 W (w.heap.size+1) (.int .i64 x.kind) (.string x.name) (.int .i64 x.n) (.slice xa x.args.length xc)) (w.heap.size+1) (.int .i64 x.kind) (.string x.name) (.int .i64 x.n) (.slice xa x.args.length xc):=M.l.set4 _ _ _ _;have r1:B4 (st4 W (w.heap.size+1) (.int .i64 x.kind) (.string x.name) (.int .i64 x.n) (.slice xa x.args.length xc)) (w.heap.size+1+1) (.int .i64 0) (.string ⟨#[]⟩) (.int .i64 0) (.slice none 0 0):=(o1 (by omega)).trans M.r;have r2:B4 (st4 (st4 W (w.heap.size+1) (.int .i64 x.kind) (.string x.name) (.int .i64 x.n) (.slice xa x.args.length xc)) (w.heap.size+1+1) (.int .i64 y.kind) (.string y.name) (.int .i64 y.n) (.slice ya y.args.length yc)).drew (w.heap.size+1+1) (.int .i64 y.kind) (.string y.name) (.int .i64 y.n) (.slice ya y.args.length yc):=(r1.set4 (.int .i64 y.kind) (.string y.name) (.int .i64 y.n) (.slice ya y.args.length yc)).drewn;have hs:(st4 (st4 W (w.heap.size+1) (.int .i64 x.kind) (.string x.name) (.int .i64 x.n) (.slice xa x.args.length xc)) (w.heap.size+1+1) (.int .i64 y.kind) (.string y.name) (.int .i64 y.n) (.slice ya y.args.length yc)).drew.heap.size=W.heap.size:=by simp
 generalize (st4 (st4 W (w.heap.size+1) (.int .i64 x.kind) (.string x.name) (.int .i64 x.n) (.slice xa x.args.length xc)) (w.heap.size+1+1) (.int .i64 y.kind) (.string y.name) (.int .i64 y.n) (.slice ya y.args.length yc)).drew=W2 at *;generalize st4 W (w.heap.size+1) (.int .i64 x.kind) (.string x.name) (.int .i64 x.n) (.slice xa x.args.length xc)=W1 at *;exact⟨(o2 (by omega)).trans l1,r2,pt_ M.b hS hs h2 hx hy fun b _ h2 h3=>(o2 h3).trans (o1 h2)⟩
theorem dG_ {S:Nat→Prop}{w W:World}{c:Co}{a:OA_}{n:Nat}{ka:OA_}{kn:Nat}{x y:Ty}{xa ya:OA_}{xc yc:Nat}(M:ie_ w W c a n ka kn)(hS:∀ b,S b→b<w.heap.size)
  (hx:ac_ (fun b=>S b∨w.heap.size+3≤b∧b<W.heap.size) W (.slice xa x.args.length xc) x.args) (hy:ac_ (fun b=>S b∨w.heap.size+3≤b∧b<W.heap.size) W (.slice ya y.args.length yc) y.args) :
  B4 (st4 (st4 W (w.heap.size+1) (.int .i64 x.kind) (.string x.name) (.int .i64 x.n) (.slice xa x.args.length xc)) (w.heap.size+1+1) (.int .i64 y.kind) (.string y.name) (.int .i64 y.n) (.slice ya y.args.length yc)) (w.heap.size+1) (.int .i64 x.kind) (.string x.name) (.int .i64 x.n) (.slice xa x.args.length xc) ∧
  B4 (st4 (st4 W (w.heap.size+1) (.int .i64 x.kind) (.string x.name) (.int .i64 x.n) (.slice xa x.args.length xc)) (w.heap.size+1+1) (.int .i64 y.kind) (.string y.name) (.int .i64 y.n) (.slice ya y.args.length yc)) (w.heap.size+1+1) (.int .i64 y.kind) (.string y.name) (.int .i64 y.n) (.slice ya y.args.length yc) ∧
  bp_ S bV_ w (some (x,y)) (.returned (.tuple #[tv x xa xc,tv y ya yc])) (st4 (st4 W (w.heap.size+1) (.int .i64 x.kind) (.string x.name) (.int .i64 x.n) (.slice xa x.args.length xc)) (w.heap.size+1+1) (.int .i64 y.kind) (.string y.name) (.int .i64 y.n) (.slice ya y.args.length yc)):=by
 obtain⟨h1,h2,h3⟩:=eW_ M hS hx hy;generalize st4 (st4 W (w.heap.size+1) (.int .i64 x.kind) (.string x.name) (.int .i64 x.n) (.slice xa x.args.length xc)) (w.heap.size+1+1) (.int .i64 y.kind) (.string y.name) (.int .i64 y.n) (.slice ya y.args.length yc)=W2 at *;obtain⟨hb,xa',xc',ya',yc',e,hx',hy'⟩:=h3;exact⟨h1,h2,⟨hb.os,hb.tape,hb.output,hb.size,hb.block⟩,xa',xc',ya',yc',e,ac_.keep (A:=W2.drew) (B:=W2) (fun _ _=>rfl) hx',ac_.keep (A:=W2.drew) (B:=W2) (fun _ _=>rfl) hy'⟩
theorem nN_ {g:List Giv}{s:ByteArray}{k:Nat}(h:k<g.length):g3_ (g.take (k+1)) s=if eqN g[k].nm s=true then some (g[k].l,g[k].r) else g3_ (g.take k) s:=by
 unfold g3_;rw[List.take_add_one,List.getElem?_eq_getElem h];simp only[Option.toList_some,List.reverse_append,List.reverse_cons,List.reverse_nil,List.nil_append,List.singleton_append,List.find?_cons];cases eqN g[k].nm s<;>rfl
theorem kv_ {m:Nat}{A B:World}(h:Below m A B)(n:Nat):Below m A (B.drewN n):=⟨h.os,h.tape,h.output,h.size,h.block⟩
theorem oW_ (g:List Giv)(d:Nat)(c:Co)(S:Nat→Prop)(a:OA_)(n:Nat)(ka:OA_)(kn:Nat)(gv:Value)(w:World)(hG:dk_ S w gv g)(hS:∀ b,S b→b<w.heap.size)(hk:c.kind=1) :
  Calls Tryz.prog 27 #[gv,cv c a n ka kn] w (bp_ S bV_ w (aB_ (d+1) g c)):=by
 have E:Hid (aB_ (d+1) g c=g3_ g c.name):=hid (by rw[aB_,if_pos hk]);have q1:(c.kind==1)=true:=by rw[hk];rfl
 obtain⟨ga,gcap,rfl,hgl,hgc⟩:=hG;have HGC:=hid hgc;have HS:=hid hS;have M3:=hid (ie_.new w c a n ka kn);have HGL:=hid hgl;clear hgc hS hk;unfold cv;go_enter Tryz.func27,Tryz.ntmps27;go_wp2
 go_loopw [6] (fun iv wr=>∃ (k:Nat) (i:Int),iv=.int .i64 i∧i=(k:Int) - 1∧k≤g.length∧g3_ g c.name=g3_ (g.take k) c.name∧ie_ w wr c a n ka kn) (fun iv _=>(intOf iv+1).toNat)
 case atStart=>exact⟨g.length,_,rfl,by omega,aw_ _,by rw[List.take_length],M3.out⟩
 case round =>
  obtain⟨k,i,rfl,hki,hkl,hlk,hM⟩:=hrel;have MH:=hid hM;cases k with
  | zero =>
   have hneg:decide ((0:Int)≤i)=false:=by rw[decide_eq_false_iff_not];omega
   have hneg2:¬ (0:Int)≤i:=(by omega);have E2:Hid (aB_ (d+1) g c=none):=hid (by rw[E.out,hlk];rfl);clear hlk hM;go_wp2_with fail;refine (d6_ _).mono ?_;rintro e w' ⟨rfl,rfl⟩;go_wp2;refine⟨rfl,?_⟩;rw[E2.out];exact⟨MH.out.b,rfl⟩
  | succ k =>
   obtain rfl:i=(k:Int):=(by omega);have hk:k<g.length:=(by omega);have z0:(0:Int)≤(k:Int):=(by omega);have z1:(k:Int)<(g.length:Int):=(by omega);obtain⟨b,off,a1,c1,a2,c2,rfl,hb,n0,hf1,hA1,hf2,hA2⟩:=HGC.out k hk;have hbw:=HS.out b hb;have hbk:=hM.b.block b hbw;have n1:wr.cell? ⟨b,off+k*9,none⟩=some (.string g[k].nm):=(World.cell?_of_block hbk).trans n0;have m1:=hM.k.c1;obtain⟨bb,e1,e2⟩:=de_ g[k].nm c.name;have LK:=hid (nN_ (g:=g) (s:=c.name) hk);have F1:=hid (hf1.keep hbk);have F2:=hid (hf2.keep hbk);have A1:=hid (hA1.keep fun b hb=>hM.b.block b (HS.out b hb));have A2:=hid (hA2.keep fun b hb=>hM.b.block b (HS.out b hb));have HLK:=hid hlk;have HBW:Hid (b≠w.heap.size∧b≠w.heap.size+1∧b≠w.heap.size+1+1):=hid ⟨by omega,by omega,by omega⟩;have E2:=hid e2;clear hlk hM n0 hf1 hf2 hA1 hA2 hbk hb hbw hki e2;generalize hgk:g[k]=gk at *;go_wp2;go_quiet (fail);have MQ:Hid (ie_ w (wr.drewN nq) c a n ka kn):=hid ⟨MH.out.k,MH.out.l,MH.out.r,kv_ MH.out.b nq⟩;have FQ1:Hid (iS_ (wr.drewN nq) b (off+k*9+1) (.int .i64 gk.l.kind) (.string gk.l.name) (.int .i64 gk.l.n) (.slice a1 gk.l.args.length c1)):=hid F1.out;have FQ2:Hid (iS_ (wr.drewN nq) b (off+k*9+5) (.int .i64 gk.r.kind) (.string gk.r.name) (.int .i64 gk.r.n) (.slice a2 gk.r.args.length c2)):=hid F2.out;have AQ1:Hid (ac_ S (wr.drewN nq) (.slice a1 gk.l.args.length c1) gk.l.args):=hid (ac_.keep (A:=wr) (B:=wr.drewN nq) (fun _ _=>rfl) A1.out);have AQ2:Hid (ac_ S (wr.drewN nq) (.slice a2 gk.r.args.length c2) gk.r.args):=hid (ac_.keep (A:=wr) (B:=wr.drewN nq) (fun _ _=>rfl) A2.out);clear n1 m1 MH F1 F2 A1 A2;generalize wr.drewN nq=wq at *;cases bb
   ·have LN:Hid (g3_ g c.name=g3_ (g.take k) c.name):=hid (by
     rw[HLK.out,LK.out,if_neg];rw[aS_];intro e;have:=E2.out.2 e;simp at this)
    go_wp2;go_roundw
    case measure=>simp[intOf]
    case rel=>exact⟨k,_,rfl,by omega,by omega,LN.out,MQ.out⟩
   ·have LS:Hid (aB_ (d+1) g c=some (gk.l,gk.r)):=hid (by rw[E.out,HLK.out,LK.out,if_pos ((aS_ _ _).2 (E2.out.1 rfl))])
    obtain⟨f0,f1,f2,f3⟩:=FQ1.out;obtain⟨g0,g1,g2,g3⟩:=FQ2.out;obtain⟨ne0,ne1,ne2⟩:=HBW.out;have ne3:=Ne.symm ne1;have ne4:=Ne.symm ne2;obtain⟨l0,l1,l2,l3⟩:=MQ.out.l.c03;obtain⟨u0,u1,u2,u3⟩:=MQ.out.l.f03;obtain⟨r0,r1,r2,r3⟩:=MQ.out.r.c03;obtain⟨v0,v1,v2,v3⟩:=MQ.out.r.f03;go_wp2
    go_region
    go_wp2;obtain⟨LL,RR,PP⟩:=eW_ MQ.out HS.out (AQ1.out.mono fun _ h=>.inl h) (AQ2.out.mono fun _ h=>.inl h);refine bodyPost_ret (v:=.tuple #[tv gk.l a1 c1,tv gk.r a2 c2]) (by simp[results,Tryz.results27,go_sem,tv,LL.c0,LL.c1,LL.c2,LL.c3,RR.c0,RR.c1,RR.c2,RR.c3]) rfl ?_;rw[LS.out];exact PP
theorem o0_ (q:Nat)(g:List Giv)(d:Nat)(ih:d1_ q g d)(c:Co)(S:Nat→Prop)(a:OA_)(n:Nat)(ka:OA_)(kn:Nat)(gv:Value)(w:World)(hgo:eP_ q g)(hG:dk_ S w gv g)(hC:bS_ S w c a n ka kn)(hS:∀ b,S b→b<w.heap.size)(hw:WfC c)(hd:c.deep≤d+1)
  (hb:(bdC q c).s≤50000000000) (hf:(bdC q c).f≤4000000) (hm:aW_ c≤60) (hT:Tab w) (hk:c.kind=5):Calls Tryz.prog 27 #[gv,cv c a n ka kn] w (bp_ S bV_ w (aB_ (d+1) g c)):=by
 have E:Hid (aB_ (d+1) g c=match bs_ (aB_ d g) c.kids with
   | none=>none
   | some p=>dQ_ c p.1 p.2):=hid (by rw[aB_,if_neg (by omega),if_neg (by omega),show b2_ c=c from if_neg (by omega)];rfl)
 have q1:(c.kind==1)=false:=by rw[hk];rfl
 have q2:(c.kind==2)=false:=by rw[hk];rfl
 have q7:(c.kind==7)=false:=by rw[hk];rfl
 have q3:(c.kind==3)=false:=by rw[hk];rfl
 have q4:(c.kind==4)=false:=by rw[hk];rfl
 have q5:(c.kind==5)=true:=by rw[hk];rfl
 have hM:=ie_.new w c a n ka kn;have hbk:=bK_ q hw hb hm;have hM0:=d7_ hw hb hm (by omega) (by omega);have ho:b2_ c=c:=if_neg (by omega);rw[ho] at hM0 hbk;have hKids:∀ x∈c.kids,WfC x∧x.deep≤d∧(bdC q x).s≤50000000000∧(bdC q x).f≤4000000∧aW_ x≤60:=fun x hx =>
  ⟨hw.kids x hx,by have:=(hbk.2.2.2.2.2.2.1 x hx).2.2;omega,bm_ ((bE_ hx).trans hM0).2.1 hb,bm_ ((bE_ hx).trans hM0).2.2 hf,(hbk.2.2.2.2.2.2.1 x hx).2.1⟩
 have hFit:∀ p,bs_ (aB_ d g) c.kids=some p→hs_ q c.kids p.1∧hs_ q c.kids p.2:=fun p hp=>dI_ (fun x hx r hr=>du_ q d g x r hgo (hKids x hx).1 (hKids x hx).2.2.1 (hKids x hx).2.2.2.2 hr) hp;have KC:=hid (ep_ (aB_ d g) gv c S a n ka kn (((w.alloc (.cells #[.int .i64 c.kind,.string c.name,.int .i64 c.n,.int .i64 c.t.kind,.string c.t.name,.int .i64 c.t.n,.slice a c.t.args.length n,.slice ka c.kids.length kn] 33)).alloc (.cells #[.int .i64 0,.string ⟨#[]⟩,.int .i64 0,.slice none 0 0] 30)).alloc (.cells #[.int .i64 0,.string ⟨#[]⟩,.int .i64 0,.slice none 0 0] 30)) (hC.keep fun b hb=>hM.b.block b (hS b hb)) (fun b hb=>aX_ (hS b hb) hM.b.size) hw.k.2.1 (fun x hx a n ka kn W hB hCx=>by
  have hBw:=hM.b.trans (hB.mono hM.b.size);have hk:=hKids x hx;exact ih x S a n ka kn gv W (hG.keep fun b hb=>hBw.block b (hS b hb)) hCx (fun b hb=>aX_ (hS b hb) hBw.size) hk.1 hk.2.1 hk.2.2.1 hk.2.2.2.1 hk.2.2.2.2 (ag_ hT hBw)))
 have HS:=hid hS;have HM:=hid hM;have HF:=hid hFit;have HM0:=hid hM0;have HW:=hid hw;have HBS:=hid hb;have HBF:=hid hf;have HT:=hid hT;have HK:=hid hk;clear ih hgo hG hC hS hw hd hb hf hm hT hk hM hbk hM0 ho hKids hFit;unfold cv at *;go_enter Tryz.func27,Tryz.ntmps27;go_wp2_with fail;refine KC.out.mono ?_;rintro e w1 ⟨hb1,hres⟩;have hM1:=HM.out.low hb1;have hsz:w.heap.size+3≤w1.heap.size:=by have:=hb1.size;simpa using this
 cases hsy:bs_ (aB_ d g) c.kids with
 | none =>
  rw[hsy] at hres;subst hres;have E2:=E.out;rw[hsy] at E2;have E3:Hid (aB_ (d+1) g c=none):=hid E2;have M1:=hid hM1;clear hM1 hb1 hsy E2 E hsz;go_wp2;refine⟨rfl,?_⟩;rw[E3.out];exact⟨M1.out.b,rfl⟩
 | some p =>
  obtain⟨xs,ys⟩:=p;rw[hsy] at hres;obtain⟨xa,xc,ya,yc,rfl,hx,hy⟩:=hres;have E2:aB_ (d+1) g c=dQ_ c xs ys:=by have:=E.out;rw[hsy] at this;exact this
  have hlen:xs.length=c.kids.length∧ys.length=c.kids.length:=dH_ hsy;have FF:=hid (HF.out _ hsy);have up:∀ b,New S (((w.alloc (.cells #[.int .i64 c.kind,.string c.name,.int .i64 c.n,.int .i64 c.t.kind,.string c.t.name,.int .i64 c.t.n,.slice a c.t.args.length n,.slice ka c.kids.length kn] 33)).alloc (.cells #[.int .i64 0,.string ⟨#[]⟩,.int .i64 0,.slice none 0 0] 30)).alloc (.cells #[.int .i64 0,.string ⟨#[]⟩,.int .i64 0,.slice none 0 0] 30)) w1 b→(S b∨w.heap.size+3≤b∧b<w1.heap.size):=fun b hb=>hb.imp id fun h=>⟨by have:=h.1;simpa using this,h.2⟩;have AX:=hid (hx.mono up);have AY:=hid (hy.mono up);have M1:=hid hM1;have TT:=hid (ag_ HT.out hM1.b);clear hx hy up hb1 hsy E;have E3:Hid (aB_ (d+1) g c=some (.mk 3 c.name 0 xs,.mk 3 c.name 0 ys)):=hid (by rw[E2,dQ_];simp[HK.out]);obtain⟨l0,l1,l2,l3⟩:=hM1.l.c03;obtain⟨u0,u1,u2,u3⟩:=hM1.l.f03;obtain⟨r0,r1,r2,r3⟩:=hM1.r.c03;obtain⟨v0,v1,v2,v3⟩:=hM1.r.f03;have m0:=hM1.k.c0;have m1:=hM1.k.c1;have m2:=hM1.k.c2;have m3:=hM1.k.c3;have m4:=hM1.k.c4;have m5:=hM1.k.c5;have m6:=hM1.k.c6;clear hM1 hlen E2 hsz;go_wp2
  go_region
  go_wp2;obtain⟨LL,RR,PP⟩:=eW_ (x:=Ty.mk 3 c.name 0 xs) (y:=Ty.mk 3 c.name 0 ys) (xa:=xa) (xc:=xc) (ya:=ya) (yc:=yc) M1.out HS.out AX.out AY.out;simp only[Ty.kind,Ty.name,Ty.n,Ty.args] at LL RR;refine bodyPost_ret (v:=.tuple #[tv (Ty.mk 3 c.name 0 xs) xa xc,tv (Ty.mk 3 c.name 0 ys) ya yc]) (by simp[results,Tryz.results27,go_sem,tv,Ty.kind,Ty.name,Ty.n,Ty.args,LL.c0,LL.c1,LL.c2,LL.c3,RR.c0,RR.c1,RR.c2,RR.c3]) rfl ?_;rw[E3.out];exact PP
end Go.Proofs.YtkihnodkhnahiaaGreatDoor.Tp

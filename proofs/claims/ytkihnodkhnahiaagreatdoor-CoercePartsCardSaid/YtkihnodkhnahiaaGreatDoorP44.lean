/- Texts laid together: CoRen. -/
import Derived.Test.YtkihnodkhnahiaaGreatDoorP20
import Derived.Test.YtkihnodkhnahiaaGreatDoorP19
import Derived.Test.YtkihnodkhnahiaaGreatDoorP34

namespace Go.Proofs.YtkihnodkhnahiaaGreatDoor.Tp
open Go.RowKit
theorem t_size {q:Nat}{c:Co}(hb:(bdC q c).s≤50000000000)(hk:c.kind=2∨c.kind=9):c.t.size≤50000000000:=by
 rw[bdC_eq] at hb
 unfold bd1 at hb
 rcases hk with hk|hk
 ·rw[hk] at hb;simpa using hb
 ·rw[hk] at hb
  simp only[if_neg (show ¬ (9:Int)=1 by decide),if_neg (show ¬ (9:Int)=2 by decide),if_neg (show ¬ ((9:Int)=3∨(9:Int)=4∨(9:Int)=8) by decide),if_true] at hb
  omega
theorem cv_mk (k:Int)(s:ByteArray)(m:Int)(t:Ty)(ks:List Co)(a:Option Addr)(n:Nat)(ka:Option Addr)(kn:Nat):cv (.mk k s m t ks) a n ka kn=.agg #[.int .i64 k,.string s,.int .i64 m,.int .i64 t.kind,.string t.name,.int .i64 t.n,.slice a t.args.length n,.slice ka ks.length kn]:=rfl
def RenCPost (S:Nat→Prop)(y:Co)(W:World)(e:Ending)(W':World):Prop:=∃ a n ka kn,e=.returned (cv y a n ka kn)∧CoAt (New S W W') W' y a n ka kn∧Below W.heap.size W W'
theorem KEls.low {S:Nat→Prop}{R:Nat}{W W':World}{ys:List Co}{ps:List (Value × Value)}(h:KEls S R W ys ps)(hS:∀ b,S b→b<W.heap.size)(hb:Below W.heap.size W W'):KEls S R W' ys ps:=fun j y p e1 e2=>by
 have k1:∀ b,(S b∨R+1≤b∧b<W.heap.size)→W'.heap[b]? = W.heap[b]? := fun b hb'=>hb.block b (by rcases hb' with h'|h'<;>first|exact hS b h'|exact h'.2)
 have k2:∀ b,(S b∨R+1≤b∧b<W.heap.size)→(S b∨R+1≤b∧b<W'.heap.size):=fun b hb'=>hb'.imp id fun h'=>⟨h'.1,Nat.lt_of_lt_of_le h'.2 hb.size⟩
 exact⟨((h j y p e1 e2).1.keep k1).mono k2,((h j y p e1 e2).2.keep k1).mono k2⟩
theorem B8.at_ {w w':World}{b m:Nat}{u0 u1 u2 u3 u4 u5 u6 u7:Value}(h:B8 w b u0 u1 u2 u3 u4 u5 u6 u7)(hb:Below m w w')(hm:b<m):B8 w' b u0 u1 u2 u3 u4 u5 u6 u7:=(hb.block b hm).trans h
theorem B8.set_off {w:World}{b:Nat}{u0 u1 u2 u3 u4 u5 u6 u7:Value}(h:B8 w b u0 u1 u2 u3 u4 u5 u6 u7){p:Addr}(hp:b≠p.block)(u:Value):B8 (w.setCell p u) b u0 u1 u2 u3 u4 u5 u6 u7:=(Below.heap_setCell _ _ _ _ hp).trans h
theorem B8.set36 {w:World}{b:Nat}{u0 u1 u2 u3 u4 u5 u6 u7:Value}(h:B8 w b u0 u1 u2 u3 u4 u5 u6 u7)(v3 v4 v5 v6:Value):B8 ((((w.setCell ⟨b,3,none⟩ v3).setCell ⟨b,4,none⟩ v4).setCell ⟨b,5,none⟩ v5).setCell ⟨b,6,none⟩ v6) b u0 u1 u2 v3 v4 v5 v6 u7:=by
 unfold B8 at *
 rw[set_row0 (set_row0 (set_row0 (set_row0 h v3) v4) v5) v6]
 rfl
theorem set36_off (W:World){R b:Nat}(hb:b≠R)(v3 v4 v5 v6:Value):((((W.setCell ⟨R,3,none⟩ v3).setCell ⟨R,4,none⟩ v4).setCell ⟨R,5,none⟩ v5).setCell ⟨R,6,none⟩ v6).heap[b]? = W.heap[b]? := by
 rw[Below.heap_setCell _ _ _ _ hb,Below.heap_setCell _ _ _ _ hb,Below.heap_setCell _ _ _ _ hb,Below.heap_setCell _ _ _ _ hb]
theorem ren_end {S:Nat→Prop}{w W0 wr:World}{R:Nat}{y:Ty}{ta:Option Addr}{tc n:Nat}{ks:List Co}{ps:List (Value × Value)}(hS:∀ b,S b→b<w.heap.size)(h2:w.heap.size+2≤R)(hb:Below w.heap.size w W0)(s0:Below R W0 wr)
  (hA:ArgsAt (fun b=>S b∨w.heap.size+2≤b∧b<R) W0 (.slice ta y.args.length tc) y.args) (hR:KRow wr R n ks ps) (hn:ks.length=n) (hl:n≤9223372036854775807) (hE:KEls S R wr ks ps) (sv u0 u1 u2 u3 u4 u5 u6 u7:Value) :
  ArgsAt (New S w (st80 (wr.setCell ⟨w.heap.size,7,none⟩ sv) (w.heap.size+1) u0 u1 u2 u3 u4 u5 u6 u7)) (st80 (wr.setCell ⟨w.heap.size,7,none⟩ sv) (w.heap.size+1) u0 u1 u2 u3 u4 u5 u6 u7) (.slice ta y.args.length tc) y.args ∧
  KidsAt (New S w (st80 (wr.setCell ⟨w.heap.size,7,none⟩ sv) (w.heap.size+1) u0 u1 u2 u3 u4 u5 u6 u7)) (st80 (wr.setCell ⟨w.heap.size,7,none⟩ sv) (w.heap.size+1) u0 u1 u2 u3 u4 u5 u6 u7) (.slice (some ⟨R,0,none⟩) ks.length n) ks ∧
  Below w.heap.size w (st80 (wr.setCell ⟨w.heap.size,7,none⟩ sv) (w.heap.size+1) u0 u1 u2 u3 u4 u5 u6 u7):=by
 have hsz:(st80 (wr.setCell ⟨w.heap.size,7,none⟩ sv) (w.heap.size+1) u0 u1 u2 u3 u4 u5 u6 u7).heap.size=wr.heap.size:=by simp
 have off:∀ b,b≠w.heap.size→b≠w.heap.size+1→(st80 (wr.setCell ⟨w.heap.size,7,none⟩ sv) (w.heap.size+1) u0 u1 u2 u3 u4 u5 u6 u7).heap[b]? = wr.heap[b]? := fun b h1 h3=>by
  rw[st80_eq,st8_off _ _ _ _ _ _ _ _ _ _ _ h3,Below.heap_setCell _ _ _ _ h1]
 have hbw:Below w.heap.size w (st80 (wr.setCell ⟨w.heap.size,7,none⟩ sv) (w.heap.size+1) u0 u1 u2 u3 u4 u5 u6 u7) :=
  st8_below _ _ _ _ _ _ _ _ _ _ _ ((hb.trans (s0.mono (by omega))).setCell (p:=⟨w.heap.size,7,none⟩) (Nat.le_refl _) sv) (by omega)
 have hRl:=hR.lt
 generalize st80 (wr.setCell ⟨w.heap.size,7,none⟩ sv) (w.heap.size+1) u0 u1 u2 u3 u4 u5 u6 u7=W2 at *
 refine⟨(hA.keep fun b hb'=>?_).mono fun b hb'=>?_,(hR.args (S:=fun b=>S b∨R≤b∧b<wr.heap.size) hn hl (.inr ⟨Nat.le_refl _,hRl⟩) fun j y p e1 e2=>?_).keep (fun b hb'=>off b ?_ ?_) |>.mono fun b hb'=>?_,hbw⟩
 ·have:b<R∧b≠w.heap.size∧b≠w.heap.size+1:=by
   rcases hb' with h|h
   ·have:=hS b h;omega
   ·omega
  rw[off b this.2.1 this.2.2,s0.block b this.1]
 ·exact hb'.imp id fun h=>⟨by omega,by omega⟩
 ·have:=hE j y p e1 e2
  exact⟨this.1.mono fun b hb'=>hb'.imp id fun h=>⟨by omega,h.2⟩,this.2.mono fun b hb'=>hb'.imp id fun h=>⟨by omega,h.2⟩⟩
 ·rcases hb' with h|h
  ·have:=hS b h;omega
  ·omega
 ·rcases hb' with h|h
  ·have:=hS b h;omega
  ·omega
 ·exact hb'.imp id fun h=>⟨by omega,by omega⟩
set_option maxRecDepth 100000 in
set_option maxHeartbeats 6400000 in
theorem cren_any (q:Nat)(fr to:ByteArray)(hto:to.size≤64):∀ (c:Co) (S:Nat→Prop) (a:Option Addr) (n:Nat) (ka:Option Addr) (kn:Nat) (w:World),WfC c→(bdC q c).s≤50000000000→CoAt S w c a n ka kn→(∀ b,S b→b<w.heap.size)→Tab w →
  Calls Tryz.prog 59 #[cv c a n ka kn,.string fr,.string to] w (RenCPost S (renC fr to c) w):=by
 intro c
 induction c using Co.ind with
 | h c ih =>
  intro S a n ka kn w hw hbd hC hS hT
  have IH:=Lib.hid ih
  have HC:=Lib.hid hC
  have HS:=Lib.hid hS
  have HT:=Lib.hid hT
  have KL:Hid (c.kids.length≤4000):=Lib.hid hw.k.2.1
  have KO:Hid (∀ a∈c.kids,WfC a∧(bdC q a).s≤50000000000):=Lib.hid fun a ha=>⟨hw.kids a ha,Nat.le_trans ((bdM_kid ha).trans (bd_kids q c (hw.k0 ha).1 (hw.k0 ha).2)).2.1 hbd⟩
  have hz1:=(Below.refl w.heap.size w).alloc (Nat.le_refl _) (.cells #[.int .i64 c.kind,.string c.name,.int .i64 c.n,.int .i64 c.t.kind,.string c.t.name,.int .i64 c.t.n,.slice a c.t.args.length n,.slice ka c.kids.length kn] 33)
  have hz2:=hz1.alloc hz1.size (.cells #[.int .i64 0,.string ⟨#[]⟩,.int .i64 0,.int .i64 0,.string ⟨#[]⟩,.int .i64 0,.slice none 0 0,.slice none 0 0] 33)
  have hb8:=(B8.new w (.int .i64 c.kind) (.string c.name) (.int .i64 c.n) (.int .i64 c.t.kind) (.string c.t.name) (.int .i64 c.t.n) (.slice a c.t.args.length n) (.slice ka c.kids.length kn)).low ((Below.refl _ _).alloc (Nat.le_refl _) (.cells #[.int .i64 0,.string ⟨#[]⟩,.int .i64 0,.int .i64 0,.string ⟨#[]⟩,.int .i64 0,.slice none 0 0,.slice none 0 0] 33))
  have hq8:B8 ((w.alloc (.cells #[.int .i64 c.kind,.string c.name,.int .i64 c.n,.int .i64 c.t.kind,.string c.t.name,.int .i64 c.t.n,.slice a c.t.args.length n,.slice ka c.kids.length kn] 33)).alloc (.cells #[.int .i64 0,.string ⟨#[]⟩,.int .i64 0,.int .i64 0,.string ⟨#[]⟩,.int .i64 0,.slice none 0 0,.slice none 0 0] 33)) (w.heap.size+1) (.int .i64 0) (.string ⟨#[]⟩) (.int .i64 0) (.int .i64 0) (.string ⟨#[]⟩) (.int .i64 0) (.slice none 0 0) (.slice none 0 0):=alloc_new (by simp)
  have hs2:((w.alloc (.cells #[.int .i64 c.kind,.string c.name,.int .i64 c.n,.int .i64 c.t.kind,.string c.t.name,.int .i64 c.t.n,.slice a c.t.args.length n,.slice ka c.kids.length kn] 33)).alloc (.cells #[.int .i64 0,.string ⟨#[]⟩,.int .i64 0,.int .i64 0,.string ⟨#[]⟩,.int .i64 0,.slice none 0 0,.slice none 0 0] 33)).heap.size=w.heap.size+1+1:=by simp
  by_cases h29:c.kind=2∨c.kind=9
  ·have ho:=hw.ok h29
   have hts:c.t.size≤50000000000:=t_size hbd h29
   have CE:Hid (renC fr to c=.mk c.kind c.name c.n (PutT fr (varB to) c.t) (c.kids.map (renC fr to))):=Lib.hid (by rw[renC_eq,if_neg (by omega),if_pos h29])
   have CP:=Lib.hid (put_any fr (varB to) c.t S a none n 0 ((w.alloc (.cells #[.int .i64 c.kind,.string c.name,.int .i64 c.n,.int .i64 c.t.kind,.string c.t.name,.int .i64 c.t.n,.slice a c.t.args.length n,.slice ka c.kids.length kn] 33)).alloc (.cells #[.int .i64 0,.string ⟨#[]⟩,.int .i64 0,.int .i64 0,.string ⟨#[]⟩,.int .i64 0,.slice none 0 0,.slice none 0 0] 33)) ho.2 (ok_var hto).2 hts (by rw[(var_size to).1];omega) (hC.t.keep fun b hb=>hz2.block b (hS b hb)) (.nil _ _) (fun b hb=>Nat.lt_of_lt_of_le (hS b hb) hz2.size) (tab_below hT hz2))
   have HZ2:=Lib.hid hz2
   have HB8:=Lib.hid hb8
   have HQ8:=Lib.hid hq8
   have HS2:=Lib.hid hs2
   have hq:((c.kind==2)=true)∨((c.kind==2)=false∧(c.kind==9)=true):=by
    rcases h29 with h|h
    ·exact .inl (by rw[h];rfl)
    ·exact .inr ⟨by rw[h];rfl,by rw[h];rfl⟩
   clear ih hw hbd hC hS hT hz1 hz2 hb8 hq8 hs2 h29 ho hts
   unfold tv at CP
   unfold cv
   generalize PutT fr (varB to) c.t=yt at *
   rcases hq with q1|⟨q1,q2⟩
   ·go_enter Tryz.func59,Tryz.ntmps59
    go_wp2_with fail
    refine CP.out.mono ?_
    rintro e w1 ⟨ya,yc,rfl,hY,hb1⟩
    have hs1:=hb1.size
    rw[HS2.out] at hs1
    have kk:=HB8.out.low hb1
    have qq:=HQ8.out.low hb1
    have K8:=Lib.hid (kk.set36 (.int .i64 yt.kind) (.string yt.name) (.int .i64 yt.n) (.slice ya yt.args.length yc))
    have Q8:=Lib.hid ((((qq.set_off (p:=⟨w.heap.size,3,none⟩) (by simp) (.int .i64 yt.kind)).set_off (p:=⟨w.heap.size,4,none⟩) (by simp) (.string yt.name)).set_off (p:=⟨w.heap.size,5,none⟩) (by simp) (.int .i64 yt.n)).set_off (p:=⟨w.heap.size,6,none⟩) (by simp) (.slice ya yt.args.length yc))
    have hbw:=HZ2.out.trans (hb1.mono HZ2.out.size)
    have BW:=Lib.hid ((((hbw.setCell (p:=⟨w.heap.size,3,none⟩) (Nat.le_refl _) (.int .i64 yt.kind)).setCell (p:=⟨w.heap.size,4,none⟩) (Nat.le_refl _) (.string yt.name)).setCell (p:=⟨w.heap.size,5,none⟩) (Nat.le_refl _) (.int .i64 yt.n)).setCell (p:=⟨w.heap.size,6,none⟩) (Nat.le_refl _) (.slice ya yt.args.length yc))
    have TA:Hid (ArgsAt (fun b=>S b∨w.heap.size+2≤b∧b<w1.heap.size) ((((w1.setCell ⟨w.heap.size,3,none⟩ (.int .i64 yt.kind)).setCell ⟨w.heap.size,4,none⟩ (.string yt.name)).setCell ⟨w.heap.size,5,none⟩ (.int .i64 yt.n)).setCell ⟨w.heap.size,6,none⟩ (.slice ya yt.args.length yc)) (.slice ya yt.args.length yc) yt.args):=Lib.hid ((hY.keep fun b hb=>set36_off w1 (by
     rcases hb with h|h
     ·have:=HS.out b h;omega
     ·rw[HS2.out] at h;omega) _ _ _ _).mono fun b hb=>hb.imp id fun h=>by rw[HS2.out] at h;exact h)
    have k3:=kk.c3
    have k4:=kk.c4
    have k5:=kk.c5
    have k6:=kk.c6
    have j3:=kk.fr 3
    have j4:=kk.fr 4
    have j5:=kk.fr 5
    have j6:=kk.fr 6
    clear hY hb1 hbw kk qq hs1
    unfold tv
    obtain⟨M,hM,hmk⟩:=make_kids c.kids.length KL.out
    have hx:=(Below.refl (((((w1.setCell ⟨w.heap.size,3,none⟩ (.int .i64 yt.kind)).setCell ⟨w.heap.size,4,none⟩ (.string yt.name)).setCell ⟨w.heap.size,5,none⟩ (.int .i64 yt.n)).setCell ⟨w.heap.size,6,none⟩ (.slice ya yt.args.length yc))).heap.size (((((w1.setCell ⟨w.heap.size,3,none⟩ (.int .i64 yt.kind)).setCell ⟨w.heap.size,4,none⟩ (.string yt.name)).setCell ⟨w.heap.size,5,none⟩ (.int .i64 yt.n)).setCell ⟨w.heap.size,6,none⟩ (.slice ya yt.args.length yc)))).alloc (Nat.le_refl _) (.cells M 33)
    have hRe:(((((w1.setCell ⟨w.heap.size,3,none⟩ (.int .i64 yt.kind)).setCell ⟨w.heap.size,4,none⟩ (.string yt.name)).setCell ⟨w.heap.size,5,none⟩ (.int .i64 yt.n)).setCell ⟨w.heap.size,6,none⟩ (.slice ya yt.args.length yc))).heap.size=w1.heap.size:=by simp
    rw[hRe] at hx
    have R0:Hid (KRow ((((((w1.setCell ⟨w.heap.size,3,none⟩ (.int .i64 yt.kind)).setCell ⟨w.heap.size,4,none⟩ (.string yt.name)).setCell ⟨w.heap.size,5,none⟩ (.int .i64 yt.n)).setCell ⟨w.heap.size,6,none⟩ (.slice ya yt.args.length yc))).alloc (.cells M 33)) (w1.heap.size) c.kids.length [] []):=Lib.hid (KRow.new hM hRe)
    have HX:=Lib.hid hx
    have c7:=K8.out.c7
    have c7':=(K8.out.low (hx.mono (by omega))).c7
    have hsz0:Hid (w.heap.size+2≤w1.heap.size):=Lib.hid (by have:=Q8.out.lt;omega)
    have hkl:=KL.out
    clear hx hM hRe
    go_wp2
    go_loopw [36] (fun iv wr=>∃ (i:Nat) (ps:List (Value × Value)),iv=.int .i64 i∧i≤c.kids.length∧KRow wr (w1.heap.size) c.kids.length ((c.kids.take i).map (renC fr to)) ps∧Below (w1.heap.size) (((((w1.setCell ⟨w.heap.size,3,none⟩ (.int .i64 yt.kind)).setCell ⟨w.heap.size,4,none⟩ (.string yt.name)).setCell ⟨w.heap.size,5,none⟩ (.int .i64 yt.n)).setCell ⟨w.heap.size,6,none⟩ (.slice ya yt.args.length yc))) wr∧w1.heap.size+1≤wr.heap.size∧KEls S (w1.heap.size) wr ((c.kids.take i).map (renC fr to)) ps) (fun iv _=>c.kids.length - (intOf iv).toNat)
    case atStart=>exact⟨0,[],rfl,Nat.zero_le _,R0.out,HX.out,by simp,fun j y p h=>by simp at h⟩
    case round =>
     clear R0 HX c7 c7'
     obtain⟨i,ps,rfl,hil,hR,hS0,hsz,hat⟩:=hrel
     by_cases hi:i<c.kids.length
     ·have z1:(0:Int)≤(i:Int):=by omega
      have z2:(i:Int)<(c.kids.length:Int):=by omega
      obtain⟨b,off,a1,n1,a2,n2,rfl,hb,hf,hs,hk⟩:=HC.out.k.at_ hi
      have hB:Below w.heap.size w wr:=BW.out.trans (hS0.mono (by have:=hsz0.out;omega))
      have hb':b<w.heap.size:=HS.out b hb
      obtain⟨f0,f1,f2,f3,f4,f5,f6,f7⟩:=hf.keep (hB.block b hb')
      have hm:=List.getElem_mem hi
      have hzr:=(Below.refl wr.heap.size wr).alloc (Nat.le_refl _) (.cells #[.int .i64 c.kids[i].kind,.string c.kids[i].name,.int .i64 c.kids[i].n,.int .i64 c.kids[i].t.kind,.string c.kids[i].t.name,.int .i64 c.kids[i].t.n,.slice a1 c.kids[i].t.args.length n1,.slice a2 c.kids[i].kids.length n2] 33)
      have CF:=Lib.hid (IH.out c.kids[i] hm S a1 n1 a2 n2 _ (KO.out _ hm).1 (KO.out _ hm).2 (CoAt.keep (fun b hb=>(hB.trans (hzr.mono hB.size)).block b (HS.out b hb)) ⟨hs,hk⟩) (fun b hb=>Nat.lt_of_lt_of_le (HS.out b hb) (hB.trans (hzr.mono hB.size)).size) (tab_below HT.out (hB.trans (hzr.mono hB.size))))
      have MT:Hid ((c.kids.take (i+1)).map (renC fr to)=(c.kids.take i).map (renC fr to)++[renC fr to c.kids[i]]):=Lib.hid (by rw[List.take_add_one,List.getElem?_eq_getElem hi,List.map_append];rfl)
      have HYL:Hid (((c.kids.take i).map (renC fr to)).length=i):=Lib.hid (by rw[List.length_map,List.length_take];omega)
      have HR:=Lib.hid (hR.keep (hzr.block _ hR.lt))
      have HS0:=Lib.hid (hS0.trans (hzr.mono (by omega)))
      have HATS:=Lib.hid (KEls.low hat (fun b hb=>Nat.lt_of_lt_of_le (HS.out b hb) hB.size) hzr)
      have hwz:Hid (w1.heap.size<wr.heap.size+1):=Lib.hid (by omega)
      unfold cv at CF
      clear hR hB hS0 hat hf hs hk hzr hb hb' hm hsz
      generalize renC fr to c.kids[i]=y8 at *
      generalize c.kids[i]=x at *
      go_wp2_with fail
      refine CF.out.mono ?_
      rintro e W4 ⟨a4,n4,a5,n5,rfl,hA4,hB4⟩
      have hR4:=HR.out.keep (hB4.block _ HR.out.lt)
      have HR4:=Lib.hid hR4
      have HA4:=Lib.hid hA4
      have HB4:=Lib.hid hB4
      obtain⟨v0,g0⟩:=hR4.cell (i*8) (by omega)
      obtain⟨v1,g1⟩:=hR4.cell (i*8+1) (by omega)
      obtain⟨v2,g2⟩:=hR4.cell (i*8+2) (by omega)
      obtain⟨v3,g3⟩:=hR4.cell (i*8+3) (by omega)
      obtain⟨v4,g4⟩:=hR4.cell (i*8+4) (by omega)
      obtain⟨v5,g5⟩:=hR4.cell (i*8+5) (by omega)
      obtain⟨v6,g6⟩:=hR4.cell (i*8+6) (by omega)
      obtain⟨v7,g7⟩:=hR4.cell (i*8+7) (by omega)
      have l0:=hR4.fr (i*8)
      have l1:=hR4.fr (i*8+1)
      have l2:=hR4.fr (i*8+2)
      have l3:=hR4.fr (i*8+3)
      have l4:=hR4.fr (i*8+4)
      have l5:=hR4.fr (i*8+5)
      have l6:=hR4.fr (i*8+6)
      have l7:=hR4.fr (i*8+7)
      clear hA4 hB4 hR4
      unfold cv
      go_wp2
      go_roundw
      case measure=>simp[intOf];omega
      case rel =>
       have hws:=HB4.out.size
       have hwr:(wr.alloc (.cells #[.int .i64 x.kind,.string x.name,.int .i64 x.n,.int .i64 x.t.kind,.string x.t.name,.int .i64 x.t.n,.slice a1 x.t.args.length n1,.slice a2 x.kids.length n2] 33)).heap.size=wr.heap.size+1:=by simp
       have hRl:=hwz.out
       have q:=HR4.out.put HYL.out hi y8 (.slice a4 y8.t.args.length n4,.slice a5 y8.kids.length n5)
       have qe:=KEls.step (y:=y8) (p:=(.slice a4 y8.t.args.length n4,.slice a5 y8.kids.length n5)) HATS.out HR.out.1 (fun b hb=>by have:=HS.out b hb;have:=hsz0.out;omega) (by omega) HB4.out HA4.out.t HA4.out.k (i*8) (.int .i64 y8.kind) (.string y8.name) (.int .i64 y8.n) (.int .i64 y8.t.kind) (.string y8.t.name) (.int .i64 y8.t.n) (.slice a4 y8.t.args.length n4) (.slice a5 y8.kids.length n5)
       refine⟨i+1,ps++[(.slice a4 y8.t.args.length n4,.slice a5 y8.kids.length n5)],by go_num,by omega,by rw[MT.out];exact q,?_,?_,by rw[MT.out];exact qe⟩
       ·exact st8_below _ _ _ _ _ _ _ _ _ _ _ (HS0.out.trans (HB4.out.mono (by omega))) (Nat.le_refl _)
       ·simp;omega
     ·obtain rfl:i=c.kids.length:=by omega
      rw[List.take_length] at hR hat
      have hk8:=K8.out.at_ hS0 (by have:=hsz0.out;omega)
      have hq8:=Q8.out.at_ hS0 (by have:=hsz0.out;omega)
      have k0:=B8.c0 hk8
      have k1:=B8.c1 hk8
      have k2:=B8.c2 hk8
      have k3:=B8.c3 hk8
      have k4:=B8.c4 hk8
      have k5:=B8.c5 hk8
      have k6:=B8.c6 hk8
      have k7:=B8.c7 hk8
      have m7:=B8.fr hk8 7
      have o0:=B8.c0 hq8
      have o1:=B8.c1 hq8
      have o2:=B8.c2 hq8
      have o3:=B8.c3 hq8
      have o4:=B8.c4 hq8
      have o5:=B8.c5 hq8
      have o6:=B8.c6 hq8
      have o7:=B8.c7 hq8
      have p0:=B8.fr hq8 0
      have p1:=B8.fr hq8 1
      have p2:=B8.fr hq8 2
      have p3:=B8.fr hq8 3
      have p4:=B8.fr hq8 4
      have p5:=B8.fr hq8 5
      have p6:=B8.fr hq8 6
      have p7:=B8.fr hq8 7
      have HR:=Lib.hid hR
      have HS0:=Lib.hid hS0
      have HATS:=Lib.hid hat
      have HQ8:=Lib.hid hq8
      clear hR hS0 hat hk8 hq8 hsz
      go_wp2
      have q8:=B8.set80 _ _ (.int .i64 c.kind) (.string c.name) (.int .i64 c.n) (.int .i64 (yt).kind) (.string (yt).name) (.int .i64 (yt).n) (.slice ya (yt).args.length yc) (.slice (some ⟨w1.heap.size,0,none⟩) c.kids.length c.kids.length) (HQ8.out.set_off (p:=⟨w.heap.size,7,none⟩) (by simp) (.slice (some ⟨w1.heap.size,0,none⟩) c.kids.length c.kids.length))
      have fin:=ren_end HS.out hsz0.out BW.out HS0.out TA.out HR.out (by rw[List.length_map]) (by have:=KL.out;omega) HATS.out (.slice (some ⟨w1.heap.size,0,none⟩) c.kids.length c.kids.length) (.int .i64 c.kind) (.string c.name) (.int .i64 c.n) (.int .i64 (yt).kind) (.string (yt).name) (.int .i64 (yt).n) (.slice ya (yt).args.length yc) (.slice (some ⟨w1.heap.size,0,none⟩) c.kids.length c.kids.length)
      have hlm:(c.kids.map (renC fr to)).length=c.kids.length:=List.length_map _
      refine bodyPost_ret (v:=cv (.mk c.kind c.name c.n (yt) (c.kids.map (renC fr to))) ya yc (some ⟨w1.heap.size,0,none⟩) c.kids.length) (by simp[results,Tryz.results59,go_sem,cv_mk,B8.c0 q8,B8.c1 q8,B8.c2 q8,B8.c3 q8,B8.c4 q8,B8.c5 q8,B8.c6 q8,B8.c7 q8]) rfl ?_
      rw[CE.out]
      exact⟨_,_,_,_,rfl,⟨fin.1,fin.2.1⟩,fin.2.2⟩
   ·go_enter Tryz.func59,Tryz.ntmps59
    go_wp2_with fail
    refine CP.out.mono ?_
    rintro e w1 ⟨ya,yc,rfl,hY,hb1⟩
    have hs1:=hb1.size
    rw[HS2.out] at hs1
    have kk:=HB8.out.low hb1
    have qq:=HQ8.out.low hb1
    have K8:=Lib.hid (kk.set36 (.int .i64 yt.kind) (.string yt.name) (.int .i64 yt.n) (.slice ya yt.args.length yc))
    have Q8:=Lib.hid ((((qq.set_off (p:=⟨w.heap.size,3,none⟩) (by simp) (.int .i64 yt.kind)).set_off (p:=⟨w.heap.size,4,none⟩) (by simp) (.string yt.name)).set_off (p:=⟨w.heap.size,5,none⟩) (by simp) (.int .i64 yt.n)).set_off (p:=⟨w.heap.size,6,none⟩) (by simp) (.slice ya yt.args.length yc))
    have hbw:=HZ2.out.trans (hb1.mono HZ2.out.size)
    have BW:=Lib.hid ((((hbw.setCell (p:=⟨w.heap.size,3,none⟩) (Nat.le_refl _) (.int .i64 yt.kind)).setCell (p:=⟨w.heap.size,4,none⟩) (Nat.le_refl _) (.string yt.name)).setCell (p:=⟨w.heap.size,5,none⟩) (Nat.le_refl _) (.int .i64 yt.n)).setCell (p:=⟨w.heap.size,6,none⟩) (Nat.le_refl _) (.slice ya yt.args.length yc))
    have TA:Hid (ArgsAt (fun b=>S b∨w.heap.size+2≤b∧b<w1.heap.size) ((((w1.setCell ⟨w.heap.size,3,none⟩ (.int .i64 yt.kind)).setCell ⟨w.heap.size,4,none⟩ (.string yt.name)).setCell ⟨w.heap.size,5,none⟩ (.int .i64 yt.n)).setCell ⟨w.heap.size,6,none⟩ (.slice ya yt.args.length yc)) (.slice ya yt.args.length yc) yt.args):=Lib.hid ((hY.keep fun b hb=>set36_off w1 (by
     rcases hb with h|h
     ·have:=HS.out b h;omega
     ·rw[HS2.out] at h;omega) _ _ _ _).mono fun b hb=>hb.imp id fun h=>by rw[HS2.out] at h;exact h)
    have k3:=kk.c3
    have k4:=kk.c4
    have k5:=kk.c5
    have k6:=kk.c6
    have j3:=kk.fr 3
    have j4:=kk.fr 4
    have j5:=kk.fr 5
    have j6:=kk.fr 6
    clear hY hb1 hbw kk qq hs1
    unfold tv
    obtain⟨M,hM,hmk⟩:=make_kids c.kids.length KL.out
    have hx:=(Below.refl (((((w1.setCell ⟨w.heap.size,3,none⟩ (.int .i64 yt.kind)).setCell ⟨w.heap.size,4,none⟩ (.string yt.name)).setCell ⟨w.heap.size,5,none⟩ (.int .i64 yt.n)).setCell ⟨w.heap.size,6,none⟩ (.slice ya yt.args.length yc))).heap.size (((((w1.setCell ⟨w.heap.size,3,none⟩ (.int .i64 yt.kind)).setCell ⟨w.heap.size,4,none⟩ (.string yt.name)).setCell ⟨w.heap.size,5,none⟩ (.int .i64 yt.n)).setCell ⟨w.heap.size,6,none⟩ (.slice ya yt.args.length yc)))).alloc (Nat.le_refl _) (.cells M 33)
    have hRe:(((((w1.setCell ⟨w.heap.size,3,none⟩ (.int .i64 yt.kind)).setCell ⟨w.heap.size,4,none⟩ (.string yt.name)).setCell ⟨w.heap.size,5,none⟩ (.int .i64 yt.n)).setCell ⟨w.heap.size,6,none⟩ (.slice ya yt.args.length yc))).heap.size=w1.heap.size:=by simp
    rw[hRe] at hx
    have R0:Hid (KRow ((((((w1.setCell ⟨w.heap.size,3,none⟩ (.int .i64 yt.kind)).setCell ⟨w.heap.size,4,none⟩ (.string yt.name)).setCell ⟨w.heap.size,5,none⟩ (.int .i64 yt.n)).setCell ⟨w.heap.size,6,none⟩ (.slice ya yt.args.length yc))).alloc (.cells M 33)) (w1.heap.size) c.kids.length [] []):=Lib.hid (KRow.new hM hRe)
    have HX:=Lib.hid hx
    have c7:=K8.out.c7
    have c7':=(K8.out.low (hx.mono (by omega))).c7
    have hsz0:Hid (w.heap.size+2≤w1.heap.size):=Lib.hid (by have:=Q8.out.lt;omega)
    have hkl:=KL.out
    clear hx hM hRe
    go_wp2
    go_loopw [36] (fun iv wr=>∃ (i:Nat) (ps:List (Value × Value)),iv=.int .i64 i∧i≤c.kids.length∧KRow wr (w1.heap.size) c.kids.length ((c.kids.take i).map (renC fr to)) ps∧Below (w1.heap.size) (((((w1.setCell ⟨w.heap.size,3,none⟩ (.int .i64 yt.kind)).setCell ⟨w.heap.size,4,none⟩ (.string yt.name)).setCell ⟨w.heap.size,5,none⟩ (.int .i64 yt.n)).setCell ⟨w.heap.size,6,none⟩ (.slice ya yt.args.length yc))) wr∧w1.heap.size+1≤wr.heap.size∧KEls S (w1.heap.size) wr ((c.kids.take i).map (renC fr to)) ps) (fun iv _=>c.kids.length - (intOf iv).toNat)
    case atStart=>exact⟨0,[],rfl,Nat.zero_le _,R0.out,HX.out,by simp,fun j y p h=>by simp at h⟩
    case round =>
     clear R0 HX c7 c7'
     obtain⟨i,ps,rfl,hil,hR,hS0,hsz,hat⟩:=hrel
     by_cases hi:i<c.kids.length
     ·have z1:(0:Int)≤(i:Int):=by omega
      have z2:(i:Int)<(c.kids.length:Int):=by omega
      obtain⟨b,off,a1,n1,a2,n2,rfl,hb,hf,hs,hk⟩:=HC.out.k.at_ hi
      have hB:Below w.heap.size w wr:=BW.out.trans (hS0.mono (by have:=hsz0.out;omega))
      have hb':b<w.heap.size:=HS.out b hb
      obtain⟨f0,f1,f2,f3,f4,f5,f6,f7⟩:=hf.keep (hB.block b hb')
      have hm:=List.getElem_mem hi
      have hzr:=(Below.refl wr.heap.size wr).alloc (Nat.le_refl _) (.cells #[.int .i64 c.kids[i].kind,.string c.kids[i].name,.int .i64 c.kids[i].n,.int .i64 c.kids[i].t.kind,.string c.kids[i].t.name,.int .i64 c.kids[i].t.n,.slice a1 c.kids[i].t.args.length n1,.slice a2 c.kids[i].kids.length n2] 33)
      have CF:=Lib.hid (IH.out c.kids[i] hm S a1 n1 a2 n2 _ (KO.out _ hm).1 (KO.out _ hm).2 (CoAt.keep (fun b hb=>(hB.trans (hzr.mono hB.size)).block b (HS.out b hb)) ⟨hs,hk⟩) (fun b hb=>Nat.lt_of_lt_of_le (HS.out b hb) (hB.trans (hzr.mono hB.size)).size) (tab_below HT.out (hB.trans (hzr.mono hB.size))))
      have MT:Hid ((c.kids.take (i+1)).map (renC fr to)=(c.kids.take i).map (renC fr to)++[renC fr to c.kids[i]]):=Lib.hid (by rw[List.take_add_one,List.getElem?_eq_getElem hi,List.map_append];rfl)
      have HYL:Hid (((c.kids.take i).map (renC fr to)).length=i):=Lib.hid (by rw[List.length_map,List.length_take];omega)
      have HR:=Lib.hid (hR.keep (hzr.block _ hR.lt))
      have HS0:=Lib.hid (hS0.trans (hzr.mono (by omega)))
      have HATS:=Lib.hid (KEls.low hat (fun b hb=>Nat.lt_of_lt_of_le (HS.out b hb) hB.size) hzr)
      have hwz:Hid (w1.heap.size<wr.heap.size+1):=Lib.hid (by omega)
      unfold cv at CF
      clear hR hB hS0 hat hf hs hk hzr hb hb' hm hsz
      generalize renC fr to c.kids[i]=y8 at *
      generalize c.kids[i]=x at *
      go_wp2_with fail
      refine CF.out.mono ?_
      rintro e W4 ⟨a4,n4,a5,n5,rfl,hA4,hB4⟩
      have hR4:=HR.out.keep (hB4.block _ HR.out.lt)
      have HR4:=Lib.hid hR4
      have HA4:=Lib.hid hA4
      have HB4:=Lib.hid hB4
      obtain⟨v0,g0⟩:=hR4.cell (i*8) (by omega)
      obtain⟨v1,g1⟩:=hR4.cell (i*8+1) (by omega)
      obtain⟨v2,g2⟩:=hR4.cell (i*8+2) (by omega)
      obtain⟨v3,g3⟩:=hR4.cell (i*8+3) (by omega)
      obtain⟨v4,g4⟩:=hR4.cell (i*8+4) (by omega)
      obtain⟨v5,g5⟩:=hR4.cell (i*8+5) (by omega)
      obtain⟨v6,g6⟩:=hR4.cell (i*8+6) (by omega)
      obtain⟨v7,g7⟩:=hR4.cell (i*8+7) (by omega)
      have l0:=hR4.fr (i*8)
      have l1:=hR4.fr (i*8+1)
      have l2:=hR4.fr (i*8+2)
      have l3:=hR4.fr (i*8+3)
      have l4:=hR4.fr (i*8+4)
      have l5:=hR4.fr (i*8+5)
      have l6:=hR4.fr (i*8+6)
      have l7:=hR4.fr (i*8+7)
      clear hA4 hB4 hR4
      unfold cv
      go_wp2
      go_roundw
      case measure=>simp[intOf];omega
      case rel =>
       have hws:=HB4.out.size
       have hwr:(wr.alloc (.cells #[.int .i64 x.kind,.string x.name,.int .i64 x.n,.int .i64 x.t.kind,.string x.t.name,.int .i64 x.t.n,.slice a1 x.t.args.length n1,.slice a2 x.kids.length n2] 33)).heap.size=wr.heap.size+1:=by simp
       have hRl:=hwz.out
       have q:=HR4.out.put HYL.out hi y8 (.slice a4 y8.t.args.length n4,.slice a5 y8.kids.length n5)
       have qe:=KEls.step (y:=y8) (p:=(.slice a4 y8.t.args.length n4,.slice a5 y8.kids.length n5)) HATS.out HR.out.1 (fun b hb=>by have:=HS.out b hb;have:=hsz0.out;omega) (by omega) HB4.out HA4.out.t HA4.out.k (i*8) (.int .i64 y8.kind) (.string y8.name) (.int .i64 y8.n) (.int .i64 y8.t.kind) (.string y8.t.name) (.int .i64 y8.t.n) (.slice a4 y8.t.args.length n4) (.slice a5 y8.kids.length n5)
       refine⟨i+1,ps++[(.slice a4 y8.t.args.length n4,.slice a5 y8.kids.length n5)],by go_num,by omega,by rw[MT.out];exact q,?_,?_,by rw[MT.out];exact qe⟩
       ·exact st8_below _ _ _ _ _ _ _ _ _ _ _ (HS0.out.trans (HB4.out.mono (by omega))) (Nat.le_refl _)
       ·simp;omega
     ·obtain rfl:i=c.kids.length:=by omega
      rw[List.take_length] at hR hat
      have hk8:=K8.out.at_ hS0 (by have:=hsz0.out;omega)
      have hq8:=Q8.out.at_ hS0 (by have:=hsz0.out;omega)
      have k0:=B8.c0 hk8
      have k1:=B8.c1 hk8
      have k2:=B8.c2 hk8
      have k3:=B8.c3 hk8
      have k4:=B8.c4 hk8
      have k5:=B8.c5 hk8
      have k6:=B8.c6 hk8
      have k7:=B8.c7 hk8
      have m7:=B8.fr hk8 7
      have o0:=B8.c0 hq8
      have o1:=B8.c1 hq8
      have o2:=B8.c2 hq8
      have o3:=B8.c3 hq8
      have o4:=B8.c4 hq8
      have o5:=B8.c5 hq8
      have o6:=B8.c6 hq8
      have o7:=B8.c7 hq8
      have p0:=B8.fr hq8 0
      have p1:=B8.fr hq8 1
      have p2:=B8.fr hq8 2
      have p3:=B8.fr hq8 3
      have p4:=B8.fr hq8 4
      have p5:=B8.fr hq8 5
      have p6:=B8.fr hq8 6
      have p7:=B8.fr hq8 7
      have HR:=Lib.hid hR
      have HS0:=Lib.hid hS0
      have HATS:=Lib.hid hat
      have HQ8:=Lib.hid hq8
      clear hR hS0 hat hk8 hq8 hsz
      go_wp2
      have q8:=B8.set80 _ _ (.int .i64 c.kind) (.string c.name) (.int .i64 c.n) (.int .i64 (yt).kind) (.string (yt).name) (.int .i64 (yt).n) (.slice ya (yt).args.length yc) (.slice (some ⟨w1.heap.size,0,none⟩) c.kids.length c.kids.length) (HQ8.out.set_off (p:=⟨w.heap.size,7,none⟩) (by simp) (.slice (some ⟨w1.heap.size,0,none⟩) c.kids.length c.kids.length))
      have fin:=ren_end HS.out hsz0.out BW.out HS0.out TA.out HR.out (by rw[List.length_map]) (by have:=KL.out;omega) HATS.out (.slice (some ⟨w1.heap.size,0,none⟩) c.kids.length c.kids.length) (.int .i64 c.kind) (.string c.name) (.int .i64 c.n) (.int .i64 (yt).kind) (.string (yt).name) (.int .i64 (yt).n) (.slice ya (yt).args.length yc) (.slice (some ⟨w1.heap.size,0,none⟩) c.kids.length c.kids.length)
      have hlm:(c.kids.map (renC fr to)).length=c.kids.length:=List.length_map _
      refine bodyPost_ret (v:=cv (.mk c.kind c.name c.n (yt) (c.kids.map (renC fr to))) ya yc (some ⟨w1.heap.size,0,none⟩) c.kids.length) (by simp[results,Tryz.results59,go_sem,cv_mk,B8.c0 q8,B8.c1 q8,B8.c2 q8,B8.c3 q8,B8.c4 q8,B8.c5 q8,B8.c6 q8,B8.c7 q8]) rfl ?_
      rw[CE.out]
      exact⟨_,_,_,_,rfl,⟨fin.1,fin.2.1⟩,fin.2.2⟩
  ·have q1:(c.kind==2)=false:=by rw[beq_eq_false_iff_ne];omega
   have q2:(c.kind==9)=false:=by rw[beq_eq_false_iff_ne];omega
   by_cases h7:c.kind=7∧eqN c.name fr=true
   ·have CE:Hid (renC fr to c=c):=Lib.hid (by rw[renC_eq,if_pos h7])
    have q3:(c.kind==7)=true:=by rw[h7.1];rfl
    have q4:(c.name.toList==fr.toList)=true:=by rw[(eqN_iff _ _).1 h7.2];simp
    have q8:=alloc_new (w:=w.alloc (.cells #[.int .i64 c.kind,.string c.name,.int .i64 c.n,.int .i64 c.t.kind,.string c.t.name,.int .i64 c.t.n,.slice a c.t.args.length n,.slice ka c.kids.length kn] 33)) (o:=.cells #[.int .i64 c.kind,.string c.name,.int .i64 c.n,.int .i64 c.t.kind,.string c.t.name,.int .i64 c.t.n,.slice a c.t.args.length n,.slice ka c.kids.length kn] 33) (k:=w.heap.size+1) (by simp)
    have HB:Hid (RenCPost S c w (.returned (cv c a n ka kn)) ((w.alloc (.cells #[.int .i64 c.kind,.string c.name,.int .i64 c.n,.int .i64 c.t.kind,.string c.t.name,.int .i64 c.t.n,.slice a c.t.args.length n,.slice ka c.kids.length kn] 33)).alloc (.cells #[.int .i64 c.kind,.string c.name,.int .i64 c.n,.int .i64 c.t.kind,.string c.t.name,.int .i64 c.t.n,.slice a c.t.args.length n,.slice ka c.kids.length kn] 33))):=Lib.hid ⟨_,_,_,_,rfl,(hC.keep fun b hb=>(hz1.alloc hz1.size _).block b (hS b hb)).mono fun b hb=>.inl hb,hz1.alloc hz1.size _⟩
    have Q8:Hid (B8 ((w.alloc (.cells #[.int .i64 c.kind,.string c.name,.int .i64 c.n,.int .i64 c.t.kind,.string c.t.name,.int .i64 c.t.n,.slice a c.t.args.length n,.slice ka c.kids.length kn] 33)).alloc (.cells #[.int .i64 c.kind,.string c.name,.int .i64 c.n,.int .i64 c.t.kind,.string c.t.name,.int .i64 c.t.n,.slice a c.t.args.length n,.slice ka c.kids.length kn] 33)) (w.heap.size+1) (.int .i64 c.kind) (.string c.name) (.int .i64 c.n) (.int .i64 c.t.kind) (.string c.t.name) (.int .i64 c.t.n) (.slice a c.t.args.length n) (.slice ka c.kids.length kn)):=Lib.hid q8
    clear ih hw hbd hC hS hT hz1 hz2 hb8 hq8 hs2 h29 h7 q8
    unfold cv
    go_enter Tryz.func59,Tryz.ntmps59
    go_wp2
    have q8:=Q8.out
    refine bodyPost_ret (v:=cv c a n ka kn) (by simp[results,Tryz.results59,go_sem,cv,B8.c0 q8,B8.c1 q8,B8.c2 q8,B8.c3 q8,B8.c4 q8,B8.c5 q8,B8.c6 q8,B8.c7 q8]) rfl ?_
    rw[CE.out]
    exact HB.out
   ·have CE:Hid (renC fr to c=.mk c.kind c.name c.n c.t (c.kids.map (renC fr to))):=Lib.hid (by rw[renC_eq,if_neg h7,if_neg h29])
    have TA:Hid (ArgsAt (fun b=>S b∨w.heap.size+2≤b∧b<w.heap.size+1+1) ((w.alloc (.cells #[.int .i64 c.kind,.string c.name,.int .i64 c.n,.int .i64 c.t.kind,.string c.t.name,.int .i64 c.t.n,.slice a c.t.args.length n,.slice ka c.kids.length kn] 33)).alloc (.cells #[.int .i64 0,.string ⟨#[]⟩,.int .i64 0,.int .i64 0,.string ⟨#[]⟩,.int .i64 0,.slice none 0 0,.slice none 0 0] 33)) (.slice a c.t.args.length n) c.t.args):=Lib.hid ((hC.t.keep fun b hb=>hz2.block b (hS b hb)).mono fun b hb=>.inl hb)
    have K8:=Lib.hid hb8
    have Q8:=Lib.hid hq8
    have BW:=Lib.hid hz2
    have hq:((c.kind==7)=false)∨((c.kind==7)=true∧(c.name.toList==fr.toList)=false):=by
     by_cases h:c.kind=7
     ·refine .inr ⟨by rw[h];rfl,?_⟩
      obtain⟨b,e1,e2⟩:=str_beq c.name fr
      rw[e1]
      cases b
      ·rfl
      ·exact absurd ⟨h,(eqN_iff _ _).2 (e2.1 rfl)⟩ h7
     ·exact .inl (by rw[beq_eq_false_iff_ne];exact h)
    clear ih hw hbd hC hS hT hz1 hz2 hb8 hq8 hs2 h29 h7
    unfold cv
    rcases hq with q3|⟨q3,q4⟩
    ·go_enter Tryz.func59,Tryz.ntmps59
     obtain⟨M,hM,hmk⟩:=make_kids c.kids.length KL.out
     have hx:=(Below.refl ((w.alloc (.cells #[.int .i64 c.kind,.string c.name,.int .i64 c.n,.int .i64 c.t.kind,.string c.t.name,.int .i64 c.t.n,.slice a c.t.args.length n,.slice ka c.kids.length kn] 33)).alloc (.cells #[.int .i64 0,.string ⟨#[]⟩,.int .i64 0,.int .i64 0,.string ⟨#[]⟩,.int .i64 0,.slice none 0 0,.slice none 0 0] 33)).heap.size ((w.alloc (.cells #[.int .i64 c.kind,.string c.name,.int .i64 c.n,.int .i64 c.t.kind,.string c.t.name,.int .i64 c.t.n,.slice a c.t.args.length n,.slice ka c.kids.length kn] 33)).alloc (.cells #[.int .i64 0,.string ⟨#[]⟩,.int .i64 0,.int .i64 0,.string ⟨#[]⟩,.int .i64 0,.slice none 0 0,.slice none 0 0] 33))).alloc (Nat.le_refl _) (.cells M 33)
     have hRe:((w.alloc (.cells #[.int .i64 c.kind,.string c.name,.int .i64 c.n,.int .i64 c.t.kind,.string c.t.name,.int .i64 c.t.n,.slice a c.t.args.length n,.slice ka c.kids.length kn] 33)).alloc (.cells #[.int .i64 0,.string ⟨#[]⟩,.int .i64 0,.int .i64 0,.string ⟨#[]⟩,.int .i64 0,.slice none 0 0,.slice none 0 0] 33)).heap.size=w.heap.size+1+1:=by simp
     rw[hRe] at hx
     have R0:Hid (KRow (((w.alloc (.cells #[.int .i64 c.kind,.string c.name,.int .i64 c.n,.int .i64 c.t.kind,.string c.t.name,.int .i64 c.t.n,.slice a c.t.args.length n,.slice ka c.kids.length kn] 33)).alloc (.cells #[.int .i64 0,.string ⟨#[]⟩,.int .i64 0,.int .i64 0,.string ⟨#[]⟩,.int .i64 0,.slice none 0 0,.slice none 0 0] 33)).alloc (.cells M 33)) (w.heap.size+1+1) c.kids.length [] []):=Lib.hid (KRow.new hM hRe)
     have HX:=Lib.hid hx
     have c7:=K8.out.c7
     have c7':=(K8.out.low (hx.mono (by omega))).c7
     have hsz0:Hid (w.heap.size+2≤w.heap.size+1+1):=Lib.hid (by have:=Q8.out.lt;omega)
     have hkl:=KL.out
     clear hx hM hRe
     go_wp2
     go_loopw [36] (fun iv wr=>∃ (i:Nat) (ps:List (Value × Value)),iv=.int .i64 i∧i≤c.kids.length∧KRow wr (w.heap.size+1+1) c.kids.length ((c.kids.take i).map (renC fr to)) ps∧Below (w.heap.size+1+1) ((w.alloc (.cells #[.int .i64 c.kind,.string c.name,.int .i64 c.n,.int .i64 c.t.kind,.string c.t.name,.int .i64 c.t.n,.slice a c.t.args.length n,.slice ka c.kids.length kn] 33)).alloc (.cells #[.int .i64 0,.string ⟨#[]⟩,.int .i64 0,.int .i64 0,.string ⟨#[]⟩,.int .i64 0,.slice none 0 0,.slice none 0 0] 33)) wr∧w.heap.size+1+1+1≤wr.heap.size∧KEls S (w.heap.size+1+1) wr ((c.kids.take i).map (renC fr to)) ps) (fun iv _=>c.kids.length - (intOf iv).toNat)
     case atStart=>exact⟨0,[],rfl,Nat.zero_le _,R0.out,HX.out,by simp,fun j y p h=>by simp at h⟩
     case round =>
      clear R0 HX c7 c7'
      obtain⟨i,ps,rfl,hil,hR,hS0,hsz,hat⟩:=hrel
      by_cases hi:i<c.kids.length
      ·have z1:(0:Int)≤(i:Int):=by omega
       have z2:(i:Int)<(c.kids.length:Int):=by omega
       obtain⟨b,off,a1,n1,a2,n2,rfl,hb,hf,hs,hk⟩:=HC.out.k.at_ hi
       have hB:Below w.heap.size w wr:=BW.out.trans (hS0.mono (by have:=hsz0.out;omega))
       have hb':b<w.heap.size:=HS.out b hb
       obtain⟨f0,f1,f2,f3,f4,f5,f6,f7⟩:=hf.keep (hB.block b hb')
       have hm:=List.getElem_mem hi
       have hzr:=(Below.refl wr.heap.size wr).alloc (Nat.le_refl _) (.cells #[.int .i64 c.kids[i].kind,.string c.kids[i].name,.int .i64 c.kids[i].n,.int .i64 c.kids[i].t.kind,.string c.kids[i].t.name,.int .i64 c.kids[i].t.n,.slice a1 c.kids[i].t.args.length n1,.slice a2 c.kids[i].kids.length n2] 33)
       have CF:=Lib.hid (IH.out c.kids[i] hm S a1 n1 a2 n2 _ (KO.out _ hm).1 (KO.out _ hm).2 (CoAt.keep (fun b hb=>(hB.trans (hzr.mono hB.size)).block b (HS.out b hb)) ⟨hs,hk⟩) (fun b hb=>Nat.lt_of_lt_of_le (HS.out b hb) (hB.trans (hzr.mono hB.size)).size) (tab_below HT.out (hB.trans (hzr.mono hB.size))))
       have MT:Hid ((c.kids.take (i+1)).map (renC fr to)=(c.kids.take i).map (renC fr to)++[renC fr to c.kids[i]]):=Lib.hid (by rw[List.take_add_one,List.getElem?_eq_getElem hi,List.map_append];rfl)
       have HYL:Hid (((c.kids.take i).map (renC fr to)).length=i):=Lib.hid (by rw[List.length_map,List.length_take];omega)
       have HR:=Lib.hid (hR.keep (hzr.block _ hR.lt))
       have HS0:=Lib.hid (hS0.trans (hzr.mono (by omega)))
       have HATS:=Lib.hid (KEls.low hat (fun b hb=>Nat.lt_of_lt_of_le (HS.out b hb) hB.size) hzr)
       have hwz:Hid (w.heap.size+1+1<wr.heap.size+1):=Lib.hid (by omega)
       unfold cv at CF
       clear hR hB hS0 hat hf hs hk hzr hb hb' hm hsz
       generalize renC fr to c.kids[i]=y8 at *
       generalize c.kids[i]=x at *
       go_wp2_with fail
       refine CF.out.mono ?_
       rintro e W4 ⟨a4,n4,a5,n5,rfl,hA4,hB4⟩
       have hR4:=HR.out.keep (hB4.block _ HR.out.lt)
       have HR4:=Lib.hid hR4
       have HA4:=Lib.hid hA4
       have HB4:=Lib.hid hB4
       obtain⟨v0,g0⟩:=hR4.cell (i*8) (by omega)
       obtain⟨v1,g1⟩:=hR4.cell (i*8+1) (by omega)
       obtain⟨v2,g2⟩:=hR4.cell (i*8+2) (by omega)
       obtain⟨v3,g3⟩:=hR4.cell (i*8+3) (by omega)
       obtain⟨v4,g4⟩:=hR4.cell (i*8+4) (by omega)
       obtain⟨v5,g5⟩:=hR4.cell (i*8+5) (by omega)
       obtain⟨v6,g6⟩:=hR4.cell (i*8+6) (by omega)
       obtain⟨v7,g7⟩:=hR4.cell (i*8+7) (by omega)
       have l0:=hR4.fr (i*8)
       have l1:=hR4.fr (i*8+1)
       have l2:=hR4.fr (i*8+2)
       have l3:=hR4.fr (i*8+3)
       have l4:=hR4.fr (i*8+4)
       have l5:=hR4.fr (i*8+5)
       have l6:=hR4.fr (i*8+6)
       have l7:=hR4.fr (i*8+7)
       clear hA4 hB4 hR4
       unfold cv
       go_wp2
       go_roundw
       case measure=>simp[intOf];omega
       case rel =>
        have hws:=HB4.out.size
        have hwr:(wr.alloc (.cells #[.int .i64 x.kind,.string x.name,.int .i64 x.n,.int .i64 x.t.kind,.string x.t.name,.int .i64 x.t.n,.slice a1 x.t.args.length n1,.slice a2 x.kids.length n2] 33)).heap.size=wr.heap.size+1:=by simp
        have hRl:=hwz.out
        have q:=HR4.out.put HYL.out hi y8 (.slice a4 y8.t.args.length n4,.slice a5 y8.kids.length n5)
        have qe:=KEls.step (y:=y8) (p:=(.slice a4 y8.t.args.length n4,.slice a5 y8.kids.length n5)) HATS.out HR.out.1 (fun b hb=>by have:=HS.out b hb;have:=hsz0.out;omega) (by omega) HB4.out HA4.out.t HA4.out.k (i*8) (.int .i64 y8.kind) (.string y8.name) (.int .i64 y8.n) (.int .i64 y8.t.kind) (.string y8.t.name) (.int .i64 y8.t.n) (.slice a4 y8.t.args.length n4) (.slice a5 y8.kids.length n5)
        refine⟨i+1,ps++[(.slice a4 y8.t.args.length n4,.slice a5 y8.kids.length n5)],by go_num,by omega,by rw[MT.out];exact q,?_,?_,by rw[MT.out];exact qe⟩
        ·exact st8_below _ _ _ _ _ _ _ _ _ _ _ (HS0.out.trans (HB4.out.mono (by omega))) (Nat.le_refl _)
        ·simp;omega
      ·obtain rfl:i=c.kids.length:=by omega
       rw[List.take_length] at hR hat
       have hk8:=K8.out.at_ hS0 (by have:=hsz0.out;omega)
       have hq8:=Q8.out.at_ hS0 (by have:=hsz0.out;omega)
       have k0:=B8.c0 hk8
       have k1:=B8.c1 hk8
       have k2:=B8.c2 hk8
       have k3:=B8.c3 hk8
       have k4:=B8.c4 hk8
       have k5:=B8.c5 hk8
       have k6:=B8.c6 hk8
       have k7:=B8.c7 hk8
       have m7:=B8.fr hk8 7
       have o0:=B8.c0 hq8
       have o1:=B8.c1 hq8
       have o2:=B8.c2 hq8
       have o3:=B8.c3 hq8
       have o4:=B8.c4 hq8
       have o5:=B8.c5 hq8
       have o6:=B8.c6 hq8
       have o7:=B8.c7 hq8
       have p0:=B8.fr hq8 0
       have p1:=B8.fr hq8 1
       have p2:=B8.fr hq8 2
       have p3:=B8.fr hq8 3
       have p4:=B8.fr hq8 4
       have p5:=B8.fr hq8 5
       have p6:=B8.fr hq8 6
       have p7:=B8.fr hq8 7
       have HR:=Lib.hid hR
       have HS0:=Lib.hid hS0
       have HATS:=Lib.hid hat
       have HQ8:=Lib.hid hq8
       clear hR hS0 hat hk8 hq8 hsz
       go_wp2
       have q8:=B8.set80 _ _ (.int .i64 c.kind) (.string c.name) (.int .i64 c.n) (.int .i64 (c.t).kind) (.string (c.t).name) (.int .i64 (c.t).n) (.slice a (c.t).args.length n) (.slice (some ⟨w.heap.size+1+1,0,none⟩) c.kids.length c.kids.length) (HQ8.out.set_off (p:=⟨w.heap.size,7,none⟩) (by simp) (.slice (some ⟨w.heap.size+1+1,0,none⟩) c.kids.length c.kids.length))
       have fin:=ren_end HS.out hsz0.out BW.out HS0.out TA.out HR.out (by rw[List.length_map]) (by have:=KL.out;omega) HATS.out (.slice (some ⟨w.heap.size+1+1,0,none⟩) c.kids.length c.kids.length) (.int .i64 c.kind) (.string c.name) (.int .i64 c.n) (.int .i64 (c.t).kind) (.string (c.t).name) (.int .i64 (c.t).n) (.slice a (c.t).args.length n) (.slice (some ⟨w.heap.size+1+1,0,none⟩) c.kids.length c.kids.length)
       have hlm:(c.kids.map (renC fr to)).length=c.kids.length:=List.length_map _
       refine bodyPost_ret (v:=cv (.mk c.kind c.name c.n (c.t) (c.kids.map (renC fr to))) a n (some ⟨w.heap.size+1+1,0,none⟩) c.kids.length) (by simp[results,Tryz.results59,go_sem,cv_mk,B8.c0 q8,B8.c1 q8,B8.c2 q8,B8.c3 q8,B8.c4 q8,B8.c5 q8,B8.c6 q8,B8.c7 q8]) rfl ?_
       rw[CE.out]
       exact⟨_,_,_,_,rfl,⟨fin.1,fin.2.1⟩,fin.2.2⟩
    ·go_enter Tryz.func59,Tryz.ntmps59
     obtain⟨M,hM,hmk⟩:=make_kids c.kids.length KL.out
     have hx:=(Below.refl ((w.alloc (.cells #[.int .i64 c.kind,.string c.name,.int .i64 c.n,.int .i64 c.t.kind,.string c.t.name,.int .i64 c.t.n,.slice a c.t.args.length n,.slice ka c.kids.length kn] 33)).alloc (.cells #[.int .i64 0,.string ⟨#[]⟩,.int .i64 0,.int .i64 0,.string ⟨#[]⟩,.int .i64 0,.slice none 0 0,.slice none 0 0] 33)).heap.size ((w.alloc (.cells #[.int .i64 c.kind,.string c.name,.int .i64 c.n,.int .i64 c.t.kind,.string c.t.name,.int .i64 c.t.n,.slice a c.t.args.length n,.slice ka c.kids.length kn] 33)).alloc (.cells #[.int .i64 0,.string ⟨#[]⟩,.int .i64 0,.int .i64 0,.string ⟨#[]⟩,.int .i64 0,.slice none 0 0,.slice none 0 0] 33))).alloc (Nat.le_refl _) (.cells M 33)
     have hRe:((w.alloc (.cells #[.int .i64 c.kind,.string c.name,.int .i64 c.n,.int .i64 c.t.kind,.string c.t.name,.int .i64 c.t.n,.slice a c.t.args.length n,.slice ka c.kids.length kn] 33)).alloc (.cells #[.int .i64 0,.string ⟨#[]⟩,.int .i64 0,.int .i64 0,.string ⟨#[]⟩,.int .i64 0,.slice none 0 0,.slice none 0 0] 33)).heap.size=w.heap.size+1+1:=by simp
     rw[hRe] at hx
     have R0:Hid (KRow (((w.alloc (.cells #[.int .i64 c.kind,.string c.name,.int .i64 c.n,.int .i64 c.t.kind,.string c.t.name,.int .i64 c.t.n,.slice a c.t.args.length n,.slice ka c.kids.length kn] 33)).alloc (.cells #[.int .i64 0,.string ⟨#[]⟩,.int .i64 0,.int .i64 0,.string ⟨#[]⟩,.int .i64 0,.slice none 0 0,.slice none 0 0] 33)).alloc (.cells M 33)) (w.heap.size+1+1) c.kids.length [] []):=Lib.hid (KRow.new hM hRe)
     have HX:=Lib.hid hx
     have c7:=K8.out.c7
     have c7':=(K8.out.low (hx.mono (by omega))).c7
     have hsz0:Hid (w.heap.size+2≤w.heap.size+1+1):=Lib.hid (by have:=Q8.out.lt;omega)
     have hkl:=KL.out
     clear hx hM hRe
     go_wp2
     go_loopw [36] (fun iv wr=>∃ (i:Nat) (ps:List (Value × Value)),iv=.int .i64 i∧i≤c.kids.length∧KRow wr (w.heap.size+1+1) c.kids.length ((c.kids.take i).map (renC fr to)) ps∧Below (w.heap.size+1+1) ((w.alloc (.cells #[.int .i64 c.kind,.string c.name,.int .i64 c.n,.int .i64 c.t.kind,.string c.t.name,.int .i64 c.t.n,.slice a c.t.args.length n,.slice ka c.kids.length kn] 33)).alloc (.cells #[.int .i64 0,.string ⟨#[]⟩,.int .i64 0,.int .i64 0,.string ⟨#[]⟩,.int .i64 0,.slice none 0 0,.slice none 0 0] 33)) wr∧w.heap.size+1+1+1≤wr.heap.size∧KEls S (w.heap.size+1+1) wr ((c.kids.take i).map (renC fr to)) ps) (fun iv _=>c.kids.length - (intOf iv).toNat)
     case atStart=>exact⟨0,[],rfl,Nat.zero_le _,R0.out,HX.out,by simp,fun j y p h=>by simp at h⟩
     case round =>
      clear R0 HX c7 c7'
      obtain⟨i,ps,rfl,hil,hR,hS0,hsz,hat⟩:=hrel
      by_cases hi:i<c.kids.length
      ·have z1:(0:Int)≤(i:Int):=by omega
       have z2:(i:Int)<(c.kids.length:Int):=by omega
       obtain⟨b,off,a1,n1,a2,n2,rfl,hb,hf,hs,hk⟩:=HC.out.k.at_ hi
       have hB:Below w.heap.size w wr:=BW.out.trans (hS0.mono (by have:=hsz0.out;omega))
       have hb':b<w.heap.size:=HS.out b hb
       obtain⟨f0,f1,f2,f3,f4,f5,f6,f7⟩:=hf.keep (hB.block b hb')
       have hm:=List.getElem_mem hi
       have hzr:=(Below.refl wr.heap.size wr).alloc (Nat.le_refl _) (.cells #[.int .i64 c.kids[i].kind,.string c.kids[i].name,.int .i64 c.kids[i].n,.int .i64 c.kids[i].t.kind,.string c.kids[i].t.name,.int .i64 c.kids[i].t.n,.slice a1 c.kids[i].t.args.length n1,.slice a2 c.kids[i].kids.length n2] 33)
       have CF:=Lib.hid (IH.out c.kids[i] hm S a1 n1 a2 n2 _ (KO.out _ hm).1 (KO.out _ hm).2 (CoAt.keep (fun b hb=>(hB.trans (hzr.mono hB.size)).block b (HS.out b hb)) ⟨hs,hk⟩) (fun b hb=>Nat.lt_of_lt_of_le (HS.out b hb) (hB.trans (hzr.mono hB.size)).size) (tab_below HT.out (hB.trans (hzr.mono hB.size))))
       have MT:Hid ((c.kids.take (i+1)).map (renC fr to)=(c.kids.take i).map (renC fr to)++[renC fr to c.kids[i]]):=Lib.hid (by rw[List.take_add_one,List.getElem?_eq_getElem hi,List.map_append];rfl)
       have HYL:Hid (((c.kids.take i).map (renC fr to)).length=i):=Lib.hid (by rw[List.length_map,List.length_take];omega)
       have HR:=Lib.hid (hR.keep (hzr.block _ hR.lt))
       have HS0:=Lib.hid (hS0.trans (hzr.mono (by omega)))
       have HATS:=Lib.hid (KEls.low hat (fun b hb=>Nat.lt_of_lt_of_le (HS.out b hb) hB.size) hzr)
       have hwz:Hid (w.heap.size+1+1<wr.heap.size+1):=Lib.hid (by omega)
       unfold cv at CF
       clear hR hB hS0 hat hf hs hk hzr hb hb' hm hsz
       generalize renC fr to c.kids[i]=y8 at *
       generalize c.kids[i]=x at *
       go_wp2_with fail
       refine CF.out.mono ?_
       rintro e W4 ⟨a4,n4,a5,n5,rfl,hA4,hB4⟩
       have hR4:=HR.out.keep (hB4.block _ HR.out.lt)
       have HR4:=Lib.hid hR4
       have HA4:=Lib.hid hA4
       have HB4:=Lib.hid hB4
       obtain⟨v0,g0⟩:=hR4.cell (i*8) (by omega)
       obtain⟨v1,g1⟩:=hR4.cell (i*8+1) (by omega)
       obtain⟨v2,g2⟩:=hR4.cell (i*8+2) (by omega)
       obtain⟨v3,g3⟩:=hR4.cell (i*8+3) (by omega)
       obtain⟨v4,g4⟩:=hR4.cell (i*8+4) (by omega)
       obtain⟨v5,g5⟩:=hR4.cell (i*8+5) (by omega)
       obtain⟨v6,g6⟩:=hR4.cell (i*8+6) (by omega)
       obtain⟨v7,g7⟩:=hR4.cell (i*8+7) (by omega)
       have l0:=hR4.fr (i*8)
       have l1:=hR4.fr (i*8+1)
       have l2:=hR4.fr (i*8+2)
       have l3:=hR4.fr (i*8+3)
       have l4:=hR4.fr (i*8+4)
       have l5:=hR4.fr (i*8+5)
       have l6:=hR4.fr (i*8+6)
       have l7:=hR4.fr (i*8+7)
       clear hA4 hB4 hR4
       unfold cv
       go_wp2
       go_roundw
       case measure=>simp[intOf];omega
       case rel =>
        have hws:=HB4.out.size
        have hwr:(wr.alloc (.cells #[.int .i64 x.kind,.string x.name,.int .i64 x.n,.int .i64 x.t.kind,.string x.t.name,.int .i64 x.t.n,.slice a1 x.t.args.length n1,.slice a2 x.kids.length n2] 33)).heap.size=wr.heap.size+1:=by simp
        have hRl:=hwz.out
        have q:=HR4.out.put HYL.out hi y8 (.slice a4 y8.t.args.length n4,.slice a5 y8.kids.length n5)
        have qe:=KEls.step (y:=y8) (p:=(.slice a4 y8.t.args.length n4,.slice a5 y8.kids.length n5)) HATS.out HR.out.1 (fun b hb=>by have:=HS.out b hb;have:=hsz0.out;omega) (by omega) HB4.out HA4.out.t HA4.out.k (i*8) (.int .i64 y8.kind) (.string y8.name) (.int .i64 y8.n) (.int .i64 y8.t.kind) (.string y8.t.name) (.int .i64 y8.t.n) (.slice a4 y8.t.args.length n4) (.slice a5 y8.kids.length n5)
        refine⟨i+1,ps++[(.slice a4 y8.t.args.length n4,.slice a5 y8.kids.length n5)],by go_num,by omega,by rw[MT.out];exact q,?_,?_,by rw[MT.out];exact qe⟩
        ·exact st8_below _ _ _ _ _ _ _ _ _ _ _ (HS0.out.trans (HB4.out.mono (by omega))) (Nat.le_refl _)
        ·simp;omega
      ·obtain rfl:i=c.kids.length:=by omega
       rw[List.take_length] at hR hat
       have hk8:=K8.out.at_ hS0 (by have:=hsz0.out;omega)
       have hq8:=Q8.out.at_ hS0 (by have:=hsz0.out;omega)
       have k0:=B8.c0 hk8
       have k1:=B8.c1 hk8
       have k2:=B8.c2 hk8
       have k3:=B8.c3 hk8
       have k4:=B8.c4 hk8
       have k5:=B8.c5 hk8
       have k6:=B8.c6 hk8
       have k7:=B8.c7 hk8
       have m7:=B8.fr hk8 7
       have o0:=B8.c0 hq8
       have o1:=B8.c1 hq8
       have o2:=B8.c2 hq8
       have o3:=B8.c3 hq8
       have o4:=B8.c4 hq8
       have o5:=B8.c5 hq8
       have o6:=B8.c6 hq8
       have o7:=B8.c7 hq8
       have p0:=B8.fr hq8 0
       have p1:=B8.fr hq8 1
       have p2:=B8.fr hq8 2
       have p3:=B8.fr hq8 3
       have p4:=B8.fr hq8 4
       have p5:=B8.fr hq8 5
       have p6:=B8.fr hq8 6
       have p7:=B8.fr hq8 7
       have HR:=Lib.hid hR
       have HS0:=Lib.hid hS0
       have HATS:=Lib.hid hat
       have HQ8:=Lib.hid hq8
       clear hR hS0 hat hk8 hq8 hsz
       go_wp2
       have q8:=B8.set80 _ _ (.int .i64 c.kind) (.string c.name) (.int .i64 c.n) (.int .i64 (c.t).kind) (.string (c.t).name) (.int .i64 (c.t).n) (.slice a (c.t).args.length n) (.slice (some ⟨w.heap.size+1+1,0,none⟩) c.kids.length c.kids.length) (HQ8.out.set_off (p:=⟨w.heap.size,7,none⟩) (by simp) (.slice (some ⟨w.heap.size+1+1,0,none⟩) c.kids.length c.kids.length))
       have fin:=ren_end HS.out hsz0.out BW.out HS0.out TA.out HR.out (by rw[List.length_map]) (by have:=KL.out;omega) HATS.out (.slice (some ⟨w.heap.size+1+1,0,none⟩) c.kids.length c.kids.length) (.int .i64 c.kind) (.string c.name) (.int .i64 c.n) (.int .i64 (c.t).kind) (.string (c.t).name) (.int .i64 (c.t).n) (.slice a (c.t).args.length n) (.slice (some ⟨w.heap.size+1+1,0,none⟩) c.kids.length c.kids.length)
       have hlm:(c.kids.map (renC fr to)).length=c.kids.length:=List.length_map _
       refine bodyPost_ret (v:=cv (.mk c.kind c.name c.n (c.t) (c.kids.map (renC fr to))) a n (some ⟨w.heap.size+1+1,0,none⟩) c.kids.length) (by simp[results,Tryz.results59,go_sem,cv_mk,B8.c0 q8,B8.c1 q8,B8.c2 q8,B8.c3 q8,B8.c4 q8,B8.c5 q8,B8.c6 q8,B8.c7 q8]) rfl ?_
       rw[CE.out]
       exact⟨_,_,_,_,rfl,⟨fin.1,fin.2.1⟩,fin.2.2⟩
end Go.Proofs.YtkihnodkhnahiaaGreatDoor.Tp

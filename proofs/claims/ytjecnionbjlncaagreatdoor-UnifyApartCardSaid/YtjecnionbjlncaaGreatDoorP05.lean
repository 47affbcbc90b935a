/- Packed. -/
import Derived.Test.YtjecnionbjlncaaGreatDoorP04
import Derived.Laws.StructEq
import Derived.Deep.QuietTactic
import Derived.BigQuiet
import Derived.Test.YtjecnionbjlncaaGreatDoorP02
import Derived.Test.YtjecnionbjlncaaGreatDoorPS
set_option maxRecDepth 100000
set_option maxHeartbeats 6400000
namespace Go.Proofs.YtjecnionbjlncaaGreatDoor
open Go.RowKit
open Lx
def bu_ (w:World)(v:Value)(ts:List Tok):Prop :=
 ∃ a cap,v=.slice a ts.length cap∧ts.length≤cap∧(ts=[]∨∃ b off,a=some ⟨b,off,none⟩∧∀ i (h:i<ts.length),
  w.cell? ⟨b,off+i*3,none⟩=some (.int .i64 ts[i].kind)∧w.cell? ⟨b,off+i*3+1,none⟩=some (.string ⟨ts[i].text.toArray⟩)∧w.cell? ⟨b,off+i*3+2,none⟩=some (.int .i64 ts[i].pos))
theorem iy_ (ts:List Tok)(i:Nat)(h:i<ts.length) :
  (a4_ ts)[i*3]? = some (.int .i64 ts[i].kind)∧(a4_ ts)[i*3+1]? = some (.string ⟨ts[i].text.toArray⟩)∧(a4_ ts)[i*3+2]? = some (.int .i64 ts[i].pos):=by
 induction ts generalizing i with
 | nil=>simp at h
 | cons t ts ih =>
  have e:a4_ (t :: ts)=.int .i64 t.kind :: .string ⟨t.text.toArray⟩ :: .int .i64 t.pos :: a4_ ts:=rfl;rw[e];cases i with
  | zero=>exact⟨rfl,rfl,rfl⟩
  | succ i =>
   have:=ih i (by simpa using h);rw[show (i+1)*3=i*3+1+1+1 by omega,show i*3+1+1+1+1=i*3+1+1+1+1 from rfl,show i*3+1+1+1+2=i*3+2+1+1+1 by omega];simp only[List.getElem?_cons_succ,List.getElem_cons_succ];exact this
theorem eF_ {w:World}{base:Nat}{v:Value}{ts:List Tok}(h:w.ownsRow base 138 3 v ts.length (a4_ ts)):bu_ w v ts:=by
 rcases h.2 with ⟨rfl,h0⟩|⟨g,cap,cur,rfl,hb,hg,hn,hm,hs,ht⟩
 ·have:ts=[]:=List.length_eq_zero_iff.1 h0
  subst this;exact⟨none,0,rfl,Nat.zero_le _,.inl rfl⟩
 ·refine⟨_,cap,rfl,hn,.inr ⟨g,0,rfl,fun i hi=>?_⟩⟩
  have hc:=h.cells (g:=g) rfl;have hadd:∀ j,(⟨g,0,none⟩:Addr).add j=⟨g,j,none⟩:=fun j=>by unfold Addr.add;split<;>simp_all
  obtain⟨a1,a2,a3⟩:=iy_ ts i hi;have b1:=hc _ _ a1;have b2:=hc _ _ a2;have b3:=hc _ _ a3;rw[hadd] at b1 b2 b3;simp only[Nat.zero_add];exact⟨b1,b2,b3⟩
end Go.Proofs.YtjecnionbjlncaaGreatDoor
namespace Go.Proofs.YtjecnionbjlncaaGreatDoor.Tp
open Go.RowKit
open Lx
def Rd (N B:Nat)(w:World)(l:List Tok):Prop:=∃ a cap,w.heap[B]? = some (.cells #[.slice a l.length cap] 141 (0,0))∧bu_ w (.slice a l.length cap) l∧l.length≤9223372036854775807∧∀ b o,a=some ⟨b,o,none⟩→b<N
def cC_ (l:List Tok)(k:Nat)(s:List UInt8):Bool:=match l with
 | []=>false
 | t :: _=>t.kind==k&&(s.isEmpty || t.text==s)
theorem mf_ (l:List Tok)(k:Nat):cC_ l k []=sk l k:=by cases l<;>simp[cC_,sk]
theorem me_ (l:List Tok)(k:Nat)(s:List UInt8)(h:s≠[]):cC_ l k s=st l k s:=by
 cases l with
 | nil=>rfl
 | cons t l=>cases s with
  | nil=>exact absurd rfl h
  | cons c s=>simp[cC_,st]
theorem bd_ {a b:Bool}(h:a=b):Ending.returned (.bool a)=.returned (.bool b):=by rw[h]
theorem ix_ {w:World}{a:OA_}{n cap:Nat}{t:Tok}{l:List Tok}(h:bu_ w (.slice a n cap) (t :: l)) :
  ∃ b off,a=some ⟨b,off,none⟩∧w.cell? ⟨b,off,none⟩=some (.int .i64 t.kind)∧w.cell? ⟨b,off+1,none⟩=some (.string ⟨t.text.toArray⟩):=by
 obtain⟨a',cap',he,hl,h0|⟨b,off,rfl,hc⟩⟩:=h
 ·cases h0
 ·injection he with e1 e2 e3
  subst e1;obtain⟨c1,c2,_⟩:=hc 0 (by simp);exact⟨b,off,rfl,by simpa using c1,by simpa using c2⟩
theorem kc_ (k:Nat)(s:List UInt8)(N B:Nat)(w:World)(l:List Tok)(h:Rd N B w l) :
  Calls Tryz.prog 152 #[.pointer (some ⟨B,0,none⟩),.int .i64 (k:Int),.string ⟨s.toArray⟩] w fun e w'=>e=.returned (.bool (cC_ l k s))∧w=w':=by
 obtain⟨a,cap,hb,ht,hl,_⟩:=h;have cB:w.cell? ⟨B,0,none⟩=some (.slice a l.length cap):=cell_of_row w B 0 _ _ _ hb;cases l with
 | nil =>
  clear ht hb;go_enter Tryz.func152,Tryz.ntmps152;go_wp2;go_ret;exact⟨rfl,rfl⟩
 | cons t l =>
  obtain⟨b,off,rfl,c0,c1⟩:=ix_ ht;have hk:cC_ (t :: l) k s=(t.kind==k&&(s.isEmpty || t.text==s)):=rfl;have HK:=hid hk;have hl0:(0:Int)<((t :: l).length:Int):=by simp
  generalize (t :: l).length=n at *;clear hk hb ht
  by_cases h1:t.kind=k
  ·have e1:((t.kind:Int)==(k:Int))=true:=by rw[h1];simp
   have H1:=hid h1;clear h1
   by_cases h2:s=[]
   ·subst h2
    go_enter Tryz.func152,Tryz.ntmps152;go_wp2;go_ret;exact⟨bd_ (by rw[HK.out,H1.out];simp),rfl⟩
   ·have h3:s.isEmpty=false:=by simpa using h2
    have H3:=hid h3;clear h2;go_enter Tryz.func152,Tryz.ntmps152;go_wp2;go_ret;exact⟨bd_ (by rw[HK.out,H1.out,H3.out];simp),rfl⟩
  ·have e1:((t.kind:Int)==(k:Int))=false:=by rw[beq_eq_false_iff_ne];omega
   have H1:Hid ((t.kind==k)=false):=hid (by rw[beq_eq_false_iff_ne];exact h1);clear h1;go_enter Tryz.func152,Tryz.ntmps152;go_wp2;go_ret;exact⟨bd_ (by rw[HK.out,H1.out];rfl),rfl⟩
def nH_ (N B:Nat)(w:World)(l:List Tok)(ok:Bool)(e:Ending)(w':World):Prop :=
 if ok then e=.returned (.tuple #[.string (ab_ (ae_ l)),.bool true])∧Rd N B w' l.tail∧w.grownBy w' (some B)
 else e=.returned (.tuple #[.string ByteArray.empty,.bool false])∧w=w'
theorem lS_ {w:World}{b off n cap cap':Nat}{t:Tok}{l:List Tok}(h:bu_ w (.slice (some ⟨b,off,none⟩) n cap) (t :: l))(hc:l.length≤cap'):bu_ w (.slice (some ⟨b,off+3,none⟩) l.length cap') l:=by
 obtain⟨a',cap1,he,hl,h0|⟨b',off',e,hcc⟩⟩:=h
 ·cases h0
 ·injection he with e1 e2 e3
  rw[e] at e1;injection e1 with e1
  injection e1 with e1 e4
  subst e1 e4;refine⟨_,cap',rfl,hc,.inr ⟨b,off+3,rfl,fun i hi=>?_⟩⟩;have:=hcc (i+1) (by simp;omega);simp only[List.getElem_cons_succ] at this;rw[show off+3+i*3=off+(i+1)*3 by omega];exact this
theorem aN_ {w:World}{b i:Nat}{c:Array Value}{t:TypeId}{f:Nat × Nat}(h:w.heap[b]? = some (.cells c t f))(u:Value) :
  (w.setCell ⟨b,i,none⟩ u).heap[b]? = some (.cells (c.setIfInBounds i u) t f):=by
 simp[World.setCell,Array.getElem?_modify,h]
theorem i2_ (w:World)(a:Addr)(u:Value):w.grownBy (w.setCell a u) (some a.block) :=
 ⟨rfl,rfl,rfl,by simp,fun k _ hk=>aB_ w a u k (fun e=>hk (by rw[e]))⟩
theorem hJ_ {w:World}{b off cap B:Nat}{l:List Tok}{cs:Array Value}{f:Nat × Nat}(h:bu_ w (.slice (some ⟨b,off,none⟩) l.length cap) l)(hl:l≠[])(hB:w.heap[B]? = some (.cells cs 141 f))(hc:cs.size=1):b≠B:=by
 rintro rfl;obtain⟨a',cap1,he,_,h0|⟨b',off',e,hcc⟩⟩:=h
 ·exact hl h0
 ·injection he with e1 e2 e3
  rw[e] at e1;injection e1 with e1
  injection e1 with e1 e4
  subst e1 e4;have h1:=(hcc 0 (List.length_pos_iff.2 hl)).2.1;rw[cell_of_row _ _ _ _ _ _ hB,Array.getElem?_eq_none (by omega)] at h1;cases h1
theorem lT_ {w w':World}{b off n cap:Nat}{l:List Tok}(h:bu_ w (.slice (some ⟨b,off,none⟩) n cap) l)(hk:∀ o,w'.cell? ⟨b,o,none⟩=w.cell? ⟨b,o,none⟩):bu_ w' (.slice (some ⟨b,off,none⟩) n cap) l:=by
 obtain⟨a',cap1,he,hl,h0|⟨b',off',e,hcc⟩⟩:=h
 ·exact⟨a',cap1,he,hl,.inl h0⟩
 ·refine⟨a',cap1,he,hl,.inr ⟨b',off',e,fun i hi=>?_⟩⟩
  injection he with e1 e2 e3
  rw[e] at e1;injection e1 with e1
  injection e1 with e1 e4
  subst e1;rw[hk,hk,hk];exact hcc i hi
theorem iB_ (k:Nat)(s:List UInt8)(N B:Nat)(w:World)(l:List Tok)(h:Rd N B w l) :
  Calls Tryz.prog 127 #[.pointer (some ⟨B,0,none⟩),.int .i64 (k:Int),.string ⟨s.toArray⟩] w (nH_ N B w l (cC_ l k s)):=by
 have C:=hid (kc_ k s N B w l h);cases hs:cC_ l k s
 ·have HS:=hid hs
  clear hs h;go_enter Tryz.func127,Tryz.ntmps127;go_wp2_with fail;refine C.out.mono ?_;rintro e w' ⟨he,rfl⟩;rw[HS.out] at he;subst he;go_wp2;go_ret2;exact⟨rfl,rfl⟩
 ·cases l with
  | nil=>cases hs
  | cons t l =>
   obtain⟨a,cap,hb,ht,hl,hN⟩:=h;have cB:w.cell? ⟨B,0,none⟩=some (.slice a (t :: l).length cap):=cell_of_row w B 0 _ _ _ hb;have fB:w.frozen? ⟨B,0,none⟩=false:=(by simp[World.frozen?,hb]);obtain⟨b,off,rfl,c0,c1⟩:=ix_ ht;have hcap:(t :: l).length≤cap:=by obtain⟨_,_,e,h,_⟩:=ht;injection e with _ _ e;rw[e];exact h
   have hcl:l.length+1≤cap:=by simpa using hcap
   have hnn:(t :: l).length=l.length+1:=(by simp);rw[hnn] at cB hl;have NN:=hid (hN b off rfl);have HS:=hid hs;have HB:=hid hb;have HT:=hid ht;clear hs hb ht hnn hcap hN
   by_cases h1:cap=1
   ·obtain rfl:l=[]:=List.eq_nil_of_length_eq_zero (by omega)
    subst h1;go_enter Tryz.func127,Tryz.ntmps127;go_wp2_with fail;refine C.out.mono ?_;rintro e w' ⟨he,rfl⟩;rw[HS.out] at he;subst he;go_wp2;go_ret2;refine⟨rfl,⟨_,0,?_,⟨some ⟨b,off,none⟩,0,rfl,by simp,.inl rfl⟩,by simp,fun b' o' e=>by injection e with e;injection e with e;rw[← e];exact NN.out⟩,?_⟩
    ·exact (aN_ HB.out _)
    ·exact i2_ w _ _
   ·have h2:¬ cap=1:=h1
    go_enter Tryz.func127,Tryz.ntmps127;go_wp2_with fail;refine C.out.mono ?_;rintro e w' ⟨he,rfl⟩;rw[HS.out] at he;subst he;go_wp2;go_ret2;refine⟨rfl,⟨_,cap - 1,aN_ HB.out _,?_,by show l.length≤_;omega,fun b' o' e=>by injection e with e;injection e with e;rw[← e];exact NN.out⟩,i2_ w _ _⟩;have hne:=hJ_ (l:=t :: l) (B:=B) HT.out (by simp) HB.out rfl;exact lT_ (lS_ (l:=l) HT.out (by omega)) (fun o=>World.cell?_setCell_other _ _ _ _ (fun e=>by injection e with e;exact hne e.symm))
open Lx
theorem ac_ {a b c:World}{r:Option Nat}(h:a.grownBy b r)(k:b.grownBy c r):a.grownBy c r :=
 ⟨k.os.trans h.os,k.tape.trans h.tape,k.output.trans h.output,cj_ h.size k.size,fun j hj hr=>(k.block j (ba_ hj h.size) hr).trans (h.block j hj hr)⟩
theorem ad_ {a b:World}{r:Option Nat}(h:Below a.heap.size a b):a.grownBy b r:=⟨h.os,h.tape,h.output,h.size,fun k hk _=>h.block k hk⟩
theorem Rd.low {N B:Nat}{w w':World}{l:List Tok}(h:Rd N B w l)(hb:Below w.heap.size w w'):Rd N B w' l:=by
 obtain⟨a,cap,h1,h2,h3,h9⟩:=h;refine⟨a,cap,(hb.block B (Array.getElem?_eq_some_iff.1 h1).1).trans h1,?_,h3,h9⟩;obtain⟨a',c',e,h4,h5|⟨b,off,h6,h7⟩⟩:=h2
 ·exact⟨a',c',e,h4,.inl h5⟩
 ·refine⟨a',c',e,h4,.inr ⟨b,off,h6,fun i hi=>?_⟩⟩
  obtain⟨c0,c1,c2⟩:=h7 i hi;have hbl:=World.block_lt_of_cell? w _ c0;exact⟨(hb.cell hbl).trans c0,(hb.cell (p:=⟨b,off+i*3+1,none⟩) hbl).trans c1,(hb.cell (p:=⟨b,off+i*3+2,none⟩) hbl).trans c2⟩
theorem Rd.blk {N B:Nat}{w:World}{l:List Tok}(h:Rd N B w l):∃ v,w.heap[B]? = some (.cells #[v] 141 (0,0)):=by
 obtain⟨a,cap,h1,_⟩:=h;exact⟨_,h1⟩
theorem Rd.set {N B:Nat}{w:World}{l:List Tok}(h:Rd N B w l){p:Addr}(hB:B≠p.block)(hN:N≤p.block)(u:Value):Rd N B (w.setCell p u) l:=by
 obtain⟨a,cap,h1,h2,h3,h9⟩:=h;refine⟨a,cap,(aB_ _ _ _ _ hB).trans h1,?_,h3,h9⟩;cases ha:a with
 | none =>
  subst ha;obtain⟨a',c',e,h4,h5|⟨b,off,h6,h7⟩⟩:=h2
  ·exact⟨a',c',e,h4,.inl h5⟩
  ·injection e with e;rw[h6] at e;cases e
 | some x =>
  subst ha;obtain⟨a',c',e,h4,h5|⟨b,off,h6,h7⟩⟩:=h2
  ·exact⟨a',c',e,h4,.inl h5⟩
  ·refine⟨a',c',e,h4,.inr ⟨b,off,h6,fun i hi=>?_⟩⟩
   injection e with e
   have hb:=h9 b off (by rw[e,h6]);have k:∀ o,(w.setCell p u).cell? ⟨b,o,none⟩=w.cell? ⟨b,o,none⟩:=fun o=>World.cell?_of_block (aB_ w p u b (by omega));rw[k,k,k];exact h7 i hi
def B4 (w:World)(b:Nat)(c0 c1 c2 c3:Value):Prop:=w.heap[b]? = some (.cells #[c0,c1,c2,c3] 37 (0,0))
section
variable {w w' : World} {b : Nat} {u0 u1 u2 u3 : Value}
theorem B4.c0 (h:B4 w b u0 u1 u2 u3):w.cell? ⟨b,0,none⟩=some u0:=cell_of_row w b 0 _ _ _ h
theorem B4.c1 (h:B4 w b u0 u1 u2 u3):w.cell? ⟨b,1,none⟩=some u1:=cell_of_row w b 1 _ _ _ h
theorem B4.c2 (h:B4 w b u0 u1 u2 u3):w.cell? ⟨b,2,none⟩=some u2:=cell_of_row w b 2 _ _ _ h
theorem B4.c3 (h:B4 w b u0 u1 u2 u3):w.cell? ⟨b,3,none⟩=some u3:=cell_of_row w b 3 _ _ _ h
theorem B4.fr (h:B4 w b u0 u1 u2 u3)(i:Nat):w.frozen? ⟨b,i,none⟩=false:=by unfold B4 at h;simp[World.frozen?,h]
theorem B4.c03 (h:B4 w b u0 u1 u2 u3):w.cell? ⟨b,0,none⟩=some u0∧w.cell? ⟨b,1,none⟩=some u1∧w.cell? ⟨b,2,none⟩=some u2∧w.cell? ⟨b,3,none⟩=some u3:=⟨h.c0,h.c1,h.c2,h.c3⟩
theorem B4.f03 (h:B4 w b u0 u1 u2 u3):w.frozen? ⟨b,0,none⟩=false∧w.frozen? ⟨b,1,none⟩=false∧w.frozen? ⟨b,2,none⟩=false∧w.frozen? ⟨b,3,none⟩=false:=⟨h.fr 0,h.fr 1,h.fr 2,h.fr 3⟩
theorem B4.lt (h:B4 w b u0 u1 u2 u3):b<w.heap.size:=(Array.getElem?_eq_some_iff.1 h).1
theorem B4.new (w:World)(u0 u1 u2 u3:Value):B4 (w.alloc (.cells #[u0,u1,u2,u3] 37)) w.heap.size u0 u1 u2 u3:=heap_alloc_new w _
theorem B4.grown {r:Option Nat}(h:B4 w b u0 u1 u2 u3)(hg:w.grownBy w' r)(hr:r≠some b):B4 w' b u0 u1 u2 u3:=(hg.block b h.lt (Ne.symm hr)).trans h
theorem B4.low (h:B4 w b u0 u1 u2 u3)(hb:Below w.heap.size w w'):B4 w' b u0 u1 u2 u3:=(hb.block b h.lt).trans h
theorem B4.ne_rd {N B:Nat}{l:List Tok}(h:B4 w b u0 u1 u2 u3)(k:Rd N B w l):b≠B:=by
 rintro rfl;obtain⟨v,hv⟩:=k.blk;unfold B4 at h;rw[hv] at h;injection h with h
 injection h with _ ht
 exact absurd ht (by decide)
end
theorem B4.set4 {w:World}{b:Nat}{u0 u1 u2 u3:Value}(h:B4 w b u0 u1 u2 u3)(v0 v1 v2 v3:Value) :
  B4 ((((w.setCell ⟨b,0,none⟩ v0).setCell ⟨b,1,none⟩ v1).setCell ⟨b,2,none⟩ v2).setCell ⟨b,3,none⟩ v3) b v0 v1 v2 v3:=by
 unfold B4 at *;rw[aN_ (aN_ (aN_ (aN_ h v0) v1) v2) v3];rfl
theorem aq_ {w w1:World}{r:Option Nat}{b:Nat}(h:w.grownBy w1 r)(hb:w.heap.size≤b)(v0 v1 v2 v3:Value) :
  w.grownBy ((((w1.setCell ⟨b,0,none⟩ v0).setCell ⟨b,1,none⟩ v1).setCell ⟨b,2,none⟩ v2).setCell ⟨b,3,none⟩ v3) r:=by
 refine⟨h.os,h.tape,h.output,by simpa using h.size,fun k hk hr=>?_⟩;rw[aB_ _ _ _ _ (by simp;omega),aB_ _ _ _ _ (by simp;omega),aB_ _ _ _ _ (by simp;omega),aB_ _ _ _ _ (by simp;omega)];exact h.block k hk hr
theorem Rd.set4 {N B:Nat}{w:World}{l:List Tok}(h:Rd N B w l){b:Nat}(hB:B≠b)(hN:N≤b)(v0 v1 v2 v3:Value) :
  Rd N B ((((w.setCell ⟨b,0,none⟩ v0).setCell ⟨b,1,none⟩ v1).setCell ⟨b,2,none⟩ v2).setCell ⟨b,3,none⟩ v3) l :=
 (((h.set (p:=⟨b,0,none⟩) hB hN v0).set (p:=⟨b,1,none⟩) hB hN v1).set (p:=⟨b,2,none⟩) hB hN v2).set (p:=⟨b,3,none⟩) hB hN v3
def tv (t:Ty)(a:OA_)(c:Nat):Value:=.agg #[.int .i64 t.kind,.string t.name,.int .i64 t.n,.slice a t.args.length c]
def cN_ (N B:Nat)(w:World)(res:Option (Ty × List Tok))(e:Ending)(w':World):Prop :=
 w.grownBy w' (some B)∧match res with
 | none=>∃ (k:Int) (s:ByteArray) (n:Int) (a:OA_) (c m:Nat),e=.returned (.tuple #[.agg #[.int .i64 k,.string s,.int .i64 n,.slice a c m],.bool false])
 | some (t,r)=>∃ a c,e=.returned (.tuple #[tv t a c,.bool true])∧aa_ (In w.heap.size w'.heap.size) w' (.slice a t.args.length c) t.args∧Rd N B w' r
def c6_ (l:List Tok):Prop:=∀ t∈l,t.kind=5→t.text.length≤19∧Lib.atoi t.text.tail=some (eT_ t.text.tail:Int)
theorem c6_.tail {l:List Tok}(h:c6_ l):c6_ l.tail:=fun t ht=>h t (List.mem_of_mem_tail ht)
structure nV_ (n:Nat):Prop where
 typ:∀ (N B:Nat) (w:World) (l:List Tok),Rd N B w l→N≤w.heap.size→c6_ l→l.length≤4000→4*l.length+4≤n→Calls Tryz.prog 92 #[.pointer (some ⟨B,0,none⟩)] w (cN_ N B w (bC_ n l))
 all:∀ (N B:Nat) (w:World) (l:List Tok),Rd N B w l→N≤w.heap.size→c6_ l→l.length≤4000→4*l.length+1≤n→Calls Tryz.prog 128 #[.pointer (some ⟨B,0,none⟩)] w (cN_ N B w (eJ_ n l))
 app:∀ (N B:Nat) (w:World) (l:List Tok),Rd N B w l→N≤w.heap.size→c6_ l→l.length≤4000→4*l.length+3≤n→Calls Tryz.prog 129 #[.pointer (some ⟨B,0,none⟩)] w (cN_ N B w (bY_ n l))
 atom:∀ (N B:Nat) (w:World) (l:List Tok),Rd N B w l→N≤w.heap.size→c6_ l→l.length≤4000→4*l.length+2≤n→Calls Tryz.prog 153 #[.pointer (some ⟨B,0,none⟩)] w (cN_ N B w (aI_ n l))
theorem b1_ {k:Nat}{s:List UInt8}{N B:Nat}{w:World}{l:List Tok}(h:Rd N B w l)(hs:cC_ l k s=true) :
  Calls Tryz.prog 127 #[.pointer (some ⟨B,0,none⟩),.int .i64 (k:Int),.string ⟨s.toArray⟩] w fun e w'=>e=.returned (.tuple #[.string (ab_ (ae_ l)),.bool true])∧Rd N B w' l.tail∧w.grownBy w' (some B):=by
 have:=iB_ k s N B w l h;rw[hs] at this;exact this
theorem bv_ {k:Nat}{s:List UInt8}{N B:Nat}{w:World}{l:List Tok}(h:Rd N B w l)(hs:cC_ l k s=false) :
  Calls Tryz.prog 127 #[.pointer (some ⟨B,0,none⟩),.int .i64 (k:Int),.string ⟨s.toArray⟩] w fun e w'=>e=.returned (.tuple #[.string ByteArray.empty,.bool false])∧w=w':=by
 have:=iB_ k s N B w l h;rw[hs] at this;exact this
theorem o8_ (n N B:Nat)(w:World)(l:List Tok)(h:Rd N B w l)(hN:N≤w.heap.size)(h1:sk l 1=true):Calls Tryz.prog 153 #[.pointer (some ⟨B,0,none⟩)] w (cN_ N B w (aI_ (n+1) l)):=by
 have hr:=h.low (aw_ w (.cells #[.int .i64 0,.string ByteArray.empty,.int .i64 0,.slice none 0 0] 37));have C:=hid (b1_ hr (k:=1) (s:=[]) (by rw[mf_];exact h1));have b4:=hid (B4.new w (.int .i64 0) (.string ByteArray.empty) (.int .i64 0) (.slice none 0 0));have HR:=hid hr;have H1:=hid h1;clear h hr h1;go_enter Tryz.func153,Tryz.ntmps153;go_wp2_with fail;refine C.out.mono ?_;rintro e w1 ⟨rfl,hrd,hg⟩;have k4:=b4.out.grown hg (fun e=>b4.out.ne_rd HR.out (by injection e with e;exact e.symm));obtain⟨c0,c1,c2,c3⟩:=k4.c03;obtain⟨f0,f1,f2,f3⟩:=k4.f03;have K4:=hid k4;have RD:=hid hrd;have G:=hid hg;clear k4 hrd hg;have hne:=K4.out.ne_rd RD.out;go_wp2;have q4:=K4.out.set4 (.int .i64 1) (.string (ab_ (ae_ l))) (.int .i64 0) (.slice none 0 0);have g4:=aq_ (ac_ (ad_ (aw_ w _)) G.out) (aC_ _) (.int .i64 1) (.string (ab_ (ae_ l))) (.int .i64 0) (.slice none 0 0);have r4:=RD.out.set4 (Ne.symm hne) hN (.int .i64 1) (.string (ab_ (ae_ l))) (.int .i64 0) (.slice none 0 0);refine bodyPost_ret (v:=.tuple #[tv (lL_ (ae_ l)) none 0,.bool true]) (by simp[results,Tryz.results153,go_sem,q4.c0,q4.c1,q4.c2,q4.c3];rfl) rfl ?_;have e:aI_ (n+1) l=some (lL_ (ae_ l),l.tail):=by rw[aI_,if_pos H1.out]
 rw[e];exact⟨g4,none,0,rfl,.nil _ _,r4⟩
end Go.Proofs.YtjecnionbjlncaaGreatDoor.Tp

/- Packed. -/
import Derived.Test.YtkihnodkhnahiaaGreatDoorP20
import Derived.SliceStrings
import Derived.Deep.Slices
import Derived.Lib.SmallJoins
import Derived.Test.YtkihnodkhnahiaaGreatDoorP21
import Derived.Stop.LaidErr
import Derived.Stop.ErrReads
set_option maxRecDepth 100000
set_option maxHeartbeats 6400000
namespace Go.Proofs.YtkihnodkhnahiaaGreatDoor.Tp
section
open Go.RowKit
open Lx
def Rc (N B:Nat)(w:World)(l:List Tok)(bad:Bool):Prop:=∃ a cap,w.heap[B]? = some (.cells #[.slice a l.length cap,.bool bad] 100 (0,0))∧aO_ w (.slice a l.length cap) l∧l.length≤9223372036854775807∧(∀ b o,a=some ⟨b,o,none⟩→b<N)∧N≤B
theorem Rc.lt {N B:Nat}{w:World}{l:List Tok}{bad:Bool}(h:Rc N B w l bad):B<w.heap.size:=by
 obtain⟨a,cap,h1,_⟩:=h;exact (Array.getElem?_eq_some_iff.1 h1).1
theorem fQ_ {w w':World}{a:OA_}{n cap N:Nat}{l:List Tok}{r:Option Nat}(h:aO_ w (.slice a n cap) l)(hN:∀ b o,a=some ⟨b,o,none⟩→b<N)(hg:w.grownBy w' r)(hr:∀ b,r=some b→N≤b):aO_ w' (.slice a n cap) l:=by
 obtain⟨a',c',e,h4,h5|⟨b,off,h6,h7⟩⟩:=h
 ·exact⟨a',c',e,h4,.inl h5⟩
 ·refine⟨a',c',e,h4,.inr ⟨b,off,h6,fun i hi=>?_⟩⟩
  injection e with e1 e2 e3
  have hb:=hN b off (by rw[e1,h6]);obtain⟨c0,c1,c2⟩:=h7 i hi;have hbl:=World.block_lt_of_cell? w _ c0;have k:∀ o,w'.cell? ⟨b,o,none⟩=w.cell? ⟨b,o,none⟩:=fun o=>World.cell?_of_block (hg.block b hbl (fun e=>by have:=hr b e.symm;omega));rw[k,k,k];exact⟨c0,c1,c2⟩
theorem Rc.grown {N B:Nat}{w w':World}{l:List Tok}{bad:Bool}{r:Option Nat}(h:Rc N B w l bad)(hg:w.grownBy w' r)(hB:r≠some B)(hr:∀ b,r=some b→N≤b):Rc N B w' l bad:=by
 obtain⟨a,cap,h1,h2,h3,h9,h10⟩:=h;exact⟨a,cap,(hg.block B (Array.getElem?_eq_some_iff.1 h1).1 (Ne.symm hB)).trans h1,fQ_ h2 h9 hg hr,h3,h9,h10⟩
theorem Rc.low {N B:Nat}{w w':World}{l:List Tok}{bad:Bool}(h:Rc N B w l bad)(hb:Below w.heap.size w w'):Rc N B w' l bad :=
 h.grown (r:=none) (af_ hb) (by simp) (fun b e=>by cases e)
theorem Rc.set {N B:Nat}{w:World}{l:List Tok}{bad:Bool}(h:Rc N B w l bad){p:Addr}(hB:B≠p.block)(hN:N≤p.block)(u:Value):Rc N B (w.setCell p u) l bad :=
 h.grown (bM_ w p u) (fun e=>hB (by injection e with e;exact e.symm)) (fun b e=>by injection e with e;omega)
theorem Rc.c0 {N B:Nat}{w:World}{l:List Tok}{bad:Bool}(h:Rc N B w l bad):∃ a cap,w.cell? ⟨B,0,none⟩=some (.slice a l.length cap):=by
 obtain⟨a,cap,h1,_⟩:=h;exact⟨a,cap,cell_of_row w B 0 _ _ _ h1⟩
theorem Rc.c1 {N B:Nat}{w:World}{l:List Tok}{bad:Bool}(h:Rc N B w l bad):w.cell? ⟨B,1,none⟩=some (.bool bad):=by
 obtain⟨a,cap,h1,_⟩:=h;exact cell_of_row w B 1 _ _ _ h1
theorem Rc.fr {N B:Nat}{w:World}{l:List Tok}{bad:Bool}(h:Rc N B w l bad)(i:Nat):w.frozen? ⟨B,i,none⟩=false:=by
 obtain⟨a,cap,h1,_⟩:=h;simp[World.frozen?,h1]
theorem Rc.bad {N B:Nat}{w:World}{l:List Tok}{bad:Bool}(h:Rc N B w l bad)(b:Bool):Rc N B (w.setCell ⟨B,1,none⟩ (.bool b)) l b:=by
 obtain⟨a,cap,h1,h2,h3,h9,h10⟩:=h;exact⟨a,cap,ak_ h1 _,fQ_ h2 h9 (bM_ w ⟨B,1,none⟩ (.bool b)) (fun k e=>by injection e with e;show N≤k;rw[← e];exact h10),h3,h9,h10⟩
theorem Rc.toks {N B:Nat}{w:World}{l l':List Tok}{bad:Bool}(h:Rc N B w l bad){a:OA_}{cap:Nat}(ht:aO_ w (.slice a l'.length cap) l')(hl:l'.length≤9223372036854775807)(hN:∀ b o,a=some ⟨b,o,none⟩→b<N):Rc N B (w.setCell ⟨B,0,none⟩ (.slice a l'.length cap)) l' bad:=by
 obtain⟨a0,cap0,h1,h2,h3,h9,h10⟩:=h;exact⟨a,cap,ak_ h1 _,fQ_ ht hN (bM_ w ⟨B,0,none⟩ _) (fun k e=>by injection e with e;show N≤k;rw[← e];exact h10),hl,hN,h10⟩
theorem lH_ (s:List UInt8)(N B:Nat)(w:World)(l:List Tok)(bad:Bool)(h:Rc N B w l bad) :
  Calls Tryz.prog 85 #[.pointer (some ⟨B,0,none⟩),.string ⟨s.toArray⟩] w fun e w'=>e=.returned (.bool (st l 6 s))∧w=w':=by
 obtain⟨a,cap,hb,ht,hl,_⟩:=h;have cB:w.cell? ⟨B,0,none⟩=some (.slice a l.length cap):=cell_of_row w B 0 _ _ _ hb;cases l with
 | nil =>
  clear ht hb;go_enter Tryz.func85,Tryz.ntmps85;go_wp2;go_ret;exact⟨rfl,rfl⟩
 | cons t l =>
  obtain⟨b,off,rfl,c0,c1⟩:=ft_ ht;have HK:Hid (st (t :: l) 6 s=(t.kind==6&&t.text==s)):=hid rfl;have hl0:(0:Int)<((t :: l).length:Int):=by simp
  generalize (t :: l).length=n at *;clear hb ht
  by_cases h1:t.kind=6
  ·have e1:((t.kind:Int)==(6:Int))=true:=by rw[h1];simp
   have H1:=hid h1;clear h1;go_enter Tryz.func85,Tryz.ntmps85;go_wp2;go_ret;exact⟨bx_ (by rw[HK.out,H1.out];simp),rfl⟩
  ·have e1:((t.kind:Int)==(6:Int))=false:=by rw[beq_eq_false_iff_ne];omega
   have H1:Hid ((t.kind==6)=false):=hid (by rw[beq_eq_false_iff_ne];exact h1);clear h1;go_enter Tryz.func85,Tryz.ntmps85;go_wp2;go_ret;exact⟨bx_ (by rw[HK.out,H1.out];rfl),rfl⟩
def gB_ (N B:Nat)(w:World)(l:List Tok)(bad ok:Bool)(e:Ending)(w':World):Prop :=
 w.grownBy w' (some B)∧w'.heap.size=w.heap.size∧if ok then e=.returned (.string (aa_ (ab_ l)))∧Rc N B w' l.tail bad
 else e=.returned (.string ⟨#[]⟩)∧Rc N B w' l true
theorem fa_ (k:Nat)(s:List UInt8)(N B:Nat)(w:World)(l:List Tok)(bad:Bool)(h:Rc N B w l bad) :
  Calls Tryz.prog 87 #[.pointer (some ⟨B,0,none⟩),.int .i64 (k:Int),.string ⟨s.toArray⟩] w (gB_ N B w l bad (bf_ l k s)):=by
 have HR:=hid h;obtain⟨a,cap,hb,ht,hl,hN,hNB⟩:=h;have cB:w.cell? ⟨B,0,none⟩=some (.slice a l.length cap):=cell_of_row w B 0 _ _ _ hb;have cB1:w.cell? ⟨B,1,none⟩=some (.bool bad):=cell_of_row w B 1 _ _ _ hb;have fB:w.frozen? ⟨B,0,none⟩=false:=by simp[World.frozen?,hb]
 have fB1:w.frozen? ⟨B,1,none⟩=false:=by simp[World.frozen?,hb]
 have no:Hid (gB_ N B w l bad false (.returned (.string ⟨#[]⟩)) (w.setCell ⟨B,1,none⟩ (.bool true))) :=
  hid ⟨bM_ _ _ _,by simp,rfl,HR.out.bad true⟩
 cases l with
 | nil =>
  clear ht hb;go_enter Tryz.func87,Tryz.ntmps87;go_wp2;go_ret;exact no.out
 | cons t l =>
  obtain⟨b,off,rfl,c0,c1⟩:=ft_ ht;have HK:Hid (bf_ (t :: l) k s=(t.kind==k&&(s.isEmpty || t.text==s))):=hid rfl;have hcap:(t :: l).length≤cap:=by obtain⟨_,_,e,h,_⟩:=ht;injection e with _ _ e;rw[e];exact h
  have hcl:l.length+1≤cap:=by simpa using hcap
  have hnn:(t :: l).length=l.length+1:=by simp
  rw[hnn] at cB hl;have hz:((l.length:Int)+1==0)=false:=by rw[beq_eq_false_iff_ne];omega
  have hz2:(((l.length+1:Nat):Int)==0)=false:=by rw[beq_eq_false_iff_ne];omega
  have NN:=hid (hN b off rfl);have HT:=hid ht;have yes:∀ cap',l.length≤cap'→Hid (∀ a',(a'=some ⟨b,off+3,none⟩∨(l=[]∧a'=some ⟨b,off,none⟩))→gB_ N B w (t :: l) bad true (.returned (.string (aa_ t.text))) (w.setCell ⟨B,0,none⟩ (.slice a' l.length cap'))):=fun cap' hc=>hid fun a' ha'=>by
   refine⟨bM_ _ _ _,by simp,rfl,HR.out.toks ?_ (by show l.length≤_;omega) fun b' o' e=>?_⟩
   ·rcases ha' with rfl|⟨rfl,rfl⟩
    ·exact iY_ HT.out hc
    ·exact⟨_,cap',rfl,hc,.inl rfl⟩
   ·rcases ha' with rfl|⟨_,rfl⟩<;>(injection e with e;injection e with e;rw[← e];exact NN.out)
  clear hb ht hnn hcap hN
  by_cases h1:t.kind=k
  ·have e1:((t.kind:Int) != (k:Int))=false:=by rw[h1];simp
   have H1:Hid ((t.kind==k)=true):=hid (by rw[h1];simp);clear h1
   by_cases h2:s=[]
   ·subst h2
    have HS:Hid (bf_ (t :: l) k []=true):=hid (by rw[HK.out,H1.out];simp);rw[HS.out]
    by_cases hc1:cap=1
    ·obtain rfl:l=[]:=List.eq_nil_of_length_eq_zero (by omega)
     subst hc1;have Y:=yes 0 (Nat.zero_le _);clear yes;go_enter Tryz.func87,Tryz.ntmps87;go_wp2;go_ret;exact Y.out _ (.inr (by simp))
    ·have Y:=yes (cap - 1) (by omega)
     clear yes;go_enter Tryz.func87,Tryz.ntmps87;go_wp2;go_ret;exact Y.out _ (.inl rfl)
   ·have h3:s.isEmpty=false:=by simpa using h2
    have H3:=hid h3
    by_cases h5:t.text=s
    ·have e5:(t.text==s)=true:=by rw[h5];simp
     have H5:=hid h5;clear h2 h5;have HS:Hid (bf_ (t :: l) k s=true):=hid (by rw[HK.out,H1.out];simp[H5.out]);rw[HS.out]
     by_cases hc1:cap=1
     ·obtain rfl:l=[]:=List.eq_nil_of_length_eq_zero (by omega)
      subst hc1;have Y:=yes 0 (Nat.zero_le _);clear yes;go_enter Tryz.func87,Tryz.ntmps87;go_wp2;go_ret;exact Y.out _ (.inr (by simp))
     ·have Y:=yes (cap - 1) (by omega)
      clear yes;go_enter Tryz.func87,Tryz.ntmps87;go_wp2;go_ret;exact Y.out _ (.inl rfl)
    ·have e5:(t.text==s)=false:=by rw[beq_eq_false_iff_ne];exact h5
     have HS:Hid (bf_ (t :: l) k s=false):=hid (by rw[HK.out,H1.out,h3];simpa using h5);rw[HS.out];clear h2 h5 yes;go_enter Tryz.func87,Tryz.ntmps87;go_wp2;go_ret;exact no.out
  ·have e1:((t.kind:Int) != (k:Int))=true:=by rw[bne_iff_ne];omega
   have H1:Hid (bf_ (t :: l) k s=false):=hid (by rw[HK.out,beq_eq_false_iff_ne.2 h1];rfl);rw[H1.out];clear h1;go_enter Tryz.func87,Tryz.ntmps87;go_wp2;go_ret;exact no.out
end
section
open Lx
def Fit (b:Bd)(t:Ty):Prop:=Ok t∧cv_ t≤b.v∧t.size≤b.s∧fsz t≤b.f
theorem Fit.mono {a b:Bd}(h:a.le b){t:Ty}(f:Fit a t):Fit b t:=⟨f.1,bm_ f.2.1 h.1,bm_ f.2.2.1 h.2.1,bm_ f.2.2.2 h.2.2⟩
def hs_ (q:Nat)(cs:List Co)(xs:List Ty):Prop:=xs.length=cs.length∧(∀ x∈xs,Fit (bdM q cs) x)∧fK_ xs≤(bdS q cs).v∧ax_ xs≤(bdS q cs).s∧sy_ xs≤(bdS q cs).f
theorem hs_.nil (q:Nat):hs_ q [] []:=⟨rfl,(fun x hx=>by cases hx),aw_ _,aw_ _,aw_ _⟩
theorem hs_.cons {q:Nat}{c:Co}{cs:List Co}{x:Ty}{xs:List Ty}(h:Fit (bdC q c) x)(hs:hs_ q cs xs):hs_ q (c :: cs) (x :: xs):=by
 obtain⟨h1,h2,h3,h4,h5⟩:=hs;obtain⟨g1,g2,g3,g4⟩:=id h;refine⟨by simp[h1],fun y hy=>?_,?_,?_,?_⟩
 ·rcases List.mem_cons.1 hy with rfl|hy
  ·exact h.mono (bE_ (by simp))
  ·refine (h2 y hy).mono ?_
   rw[bdM];exact⟨Nat.le_max_right _ _,Nat.le_max_right _ _,Nat.le_max_right _ _⟩
 ·rw[fK_,bdS];simp only[Bd.add];omega
 ·rw[ax_,bdS];simp only[Bd.add];omega
 ·rw[sy_,bdS];simp only[Bd.add];omega
theorem dI_ {q:Nat}{f:Co→Option (Ty × Ty)} : ∀ {cs:List Co} {p:List Ty × List Ty},(∀ c∈cs,∀ p,f c=some p→Fit (bdC q c) p.1∧Fit (bdC q c) p.2)→bs_ f cs=some p→hs_ q cs p.1∧hs_ q cs p.2:=by
 intro cs
 induction cs with
 | nil=>intro p _ h;injection h with h;subst h;exact⟨.nil q,.nil q⟩
 | cons c cs ih =>
  intro p hf h;rw[bs_] at h
  split at h
  ·cases h
  ·next r hr =>
   split at h
   ·cases h
   ·next r2 hr2 =>
    injection h with h
    subst h;have h1:=hf c (by simp) r hr;have h2:=ih (fun a ha=>hf a (by simp[ha])) hr2;exact⟨.cons h1.1 h2.1,.cons h1.2 h2.2⟩
def eP_ (q:Nat)(g:List Giv):Prop:=∀ x∈g,Fit ⟨q,q,q⟩ x.l∧Fit ⟨q,q,q⟩ x.r
theorem pE_ {q:Nat}{g:List Giv}(hg:eP_ q g){s:ByteArray}{p:Ty × Ty}(h:g3_ g s=some p):Fit ⟨q,q,q⟩ p.1∧Fit ⟨q,q,q⟩ p.2:=by
 unfold g3_ at h;obtain⟨x,hx,rfl⟩:=Option.map_eq_some_iff.1 h;exact hg x (by have:=List.mem_of_find?_eq_some hx;simpa using this)
theorem mg_ (n:Nat):(fB_ n).size=n:=by
 unfold fB_;simp[aa_,ByteArray.size]
theorem bK_ (q:Nat){c:Co}(hw:WfC c)(hb:(bdC q c).s≤50000000000)(hm:aW_ c≤60) :
  (b2_ c).kind=c.kind∧(b2_ c).t=c.t∧(b2_ c).n=c.n∧(b2_ c).kids.length=c.kids.length∧(c.kind=7→1≤(b2_ c).name.size)∧(b2_ c).name.size≤64∧(∀ a∈(b2_ c).kids,WfC a∧aW_ a≤60∧a.deep+1≤c.deep)∧(bdM q (b2_ c).kids).le (bdM q c.kids)∧(bdS q (b2_ c).kids).le (bdS q c.kids):=by
 have kidb:∀ (ks:List Co) (a:Co),a∈ks→aW_ a≤a3_ ks:=by
  intro ks
  induction ks with
  | nil=>intro a h;cases h
  | cons c cs ih =>
   intro a h;rw[a3_]
   rcases List.mem_cons.1 h with rfl|h
   ·omega
   ·have:=ih a h;omega
 have hkb:a3_ c.kids≤60:=by rw[dP_] at hm;omega
 unfold b2_
 split
 ·next h7 =>
  have hl:c.kids.length=1:=by
   obtain⟨_,_,h⟩:=hw.k;omega
  match hk:c.kids,hl with
  | [a],_ =>
   have ha:a∈c.kids:=by rw[hk];simp
   have h0:=hw.k0 ha;have hbb:a3_ c.kids+1≤60:=by rw[dP_,if_pos h7] at hm;omega
   have hnm:(b5_ c).size=a3_ c.kids+1:=mg_ _;have hkd:hU_ c=a:=by unfold hU_;rw[hk];rfl
   have hr:=lY_ q c.name (b5_ c) (by omega) a (hw.kids a ha) (bm_ ((bE_ ha).trans (hj_ q c h0.1 h0.2)).2.1 hb);have hd:=ne_ c.name (b5_ c) a;rw[hkd];refine⟨h7.symm,rfl,rfl,rfl,fun _=>by show 1≤(b5_ c).size;omega,by show (b5_ c).size≤64;omega,fun b hb'=>?_,?_,?_⟩
   ·obtain rfl:b=ch_ c.name (b5_ c) a:=by simpa [Co.kids] using hb'
    refine⟨hr.1,?_,?_⟩
    ·rw[hd.2];exact bm_ (kidb c.kids a ha) hkb
    ·rw[hd.1,c.deep_eq];have:=e3_ c.kids ha;omega
   ·show (bdM q [_]).le (bdM q [a])
    rw[bdM,bdM];exact qp_ hr.2 (.refl _)
   ·show (bdS q [_]).le (bdS q [a])
    rw[bdS,bdS];exact qF_ hr.2 (.refl _)
 ·next h7 =>
  exact⟨rfl,rfl,rfl,rfl,fun h=>absurd h h7,hw.k.1,fun a ha=>⟨hw.kids a ha,bm_ (kidb _ a ha) hkb,by rw[c.deep_eq];have:=e3_ c.kids ha;omega⟩,.refl _,.refl _⟩
theorem dn_ {xs:List Ty}(h:0<xs.length):h0 xs∈xs:=by cases xs with|nil=>simp at h|cons a l=>simp[h0]
theorem qC_ {xs:List Ty}(h:1<xs.length):h1 xs∈xs:=by
 match xs,h with
 | a :: b :: l,_=>simp[h1]
theorem h2_ {q:Nat}{cs:List Co}{xs:List Ty}(h:hs_ q cs xs){k:Int}{s:ByteArray}(hk:s0_ (.mk k s 0 xs))(h345:k=3∨k=4∨k=5)(h5:k=5→1≤s.size)(hs:s.size≤64):Fit ⟨(bdS q cs).v,(bdS q cs).s+1,(bdS q cs).f⟩ (.mk k s 0 xs):=by
 obtain⟨a1,a2,a3,a4,a5⟩:=h;refine⟨si_ hk h5 hs fun a ha=>(a2 a ha).1,?_,?_,?_⟩
 ·rw[cQ_]
  show (if k=3∨k=4∨k=5 then 0 else 1)+fK_ xs≤_;rw[if_pos h345];show 0+fK_ xs≤(bdS q cs).v;omega
 ·rw[Ty.size_eq];show ax_ xs+1≤(bdS q cs).s+1;omega
 ·exact bm_ (sx_ k s 0 xs (by omega)) a5
theorem n2_ {m:Bd}{a T:Ty}(h:Fit m a)(hT:Ok T)(h5:a.kind=5)(hm:m.s≤50000000000)(hs:T.size≤50000000000) :
  Fit ⟨m.v*max 1 (cv_ T),m.s+m.v*T.size+T.size,m.f+cv_ T⟩ (ex_ a.name T (h0 a.args)):=by
 obtain⟨o,h1,h2,h3⟩:=h;obtain⟨b,_,hb,hsb⟩:=o.1.all h5;have hob:Ok b:=o.args b (by rw[hb];simp);have e:h0 a.args=b:=by rw[hb];rfl
 rw[e];have hbs:b.size+1=a.size:=by rw[a.size_eq,hb];simp[ax_]
 have hbc:cv_ b=cv_ a:=by rw[cQ_ a,hb,h5];simp[fK_]
 have c1:=ln_ a.name T b hsb hT.1;have c2:=mx_ a.name T b hsb hT.1;have c3:=pP_ hb hsb hT.1;have c4:=kl_ T;refine⟨qw_ _ hob hT (by omega) hs,?_,?_,?_⟩
 ·have:=Nat.mul_le_mul_right (max 1 (cv_ T)) (show cv_ b≤m.v by omega)
  show _≤m.v*max 1 (cv_ T);omega
 ·have:=Nat.mul_le_mul_right T.size (show cv_ b≤m.v by omega)
  show _≤m.s+m.v*T.size+T.size;omega
 ·show _≤m.f+cv_ T
  omega
theorem rw_ {m:Bd}{l r:Ty}{n:Int}{p:Ty × Ty}(hn:0≤n)(hl:Fit m l)(hr:Fit m r)(h:gs_ n l r=some p):Fit m p.1∧Fit m p.2:=by
 unfold gs_ at h
 split at h
 ·next hc =>
  injection h with h
  subst h;obtain⟨hk,h34,hlt⟩:=hc;have hlen:l.args.length=r.args.length:=by
   rcases h34 with h4|h3
   ·rw[(hl.1.1.k4 h4).2.2,(hr.1.1.k4 (by omega)).2.2]
   ·exact h3.2.2
  have key:∀ t:Ty,Fit m t→t.kind≠5→n.toNat<t.args.length→Fit m (t.args.getD n.toNat tz):=fun t ht h5 hlt=>by
   have hm:t.args.getD n.toNat tz∈t.args:=by
    rw[List.getD_eq_getElem?_getD,List.getElem?_eq_getElem hlt];exact List.getElem_mem hlt
   refine⟨ht.1.args _ hm,?_,?_,?_⟩
   ·have h1:=rC_ _ hm;have h2:=cQ_ t;have h3:=ht.2.1;omega
   ·have h1:=cx_ _ hm;have h2:=t.size_eq;have h3:=ht.2.2.1;omega
   ·exact bm_ (ru_ h5 hm) ht.2.2.2
  exact⟨key l hl (by omega) (by omega),key r hr (by omega) (by omega)⟩
 ·cases h
theorem d7_ {q:Nat}{c:Co}(hw:WfC c)(hb:(bdC q c).s≤50000000000)(hm:aW_ c≤60)(h1:c.kind≠1)(h2:c.kind≠2):(bdM q (b2_ c).kids).le (bdC q c) :=
 (bK_ q hw hb hm).2.2.2.2.2.2.2.1.trans (hj_ q c h1 h2)
theorem o6_ {q:Nat}{c:Co}(hw:WfC c)(hb:(bdC q c).s≤50000000000)(hm:aW_ c≤60)(h1:c.kind≠1)(h2:c.kind≠2){x y:List Ty}{p:Ty × Ty}(hx:hs_ q (b2_ c).kids x)(hy:hs_ q (b2_ c).kids y)(h:dQ_ (b2_ c) x y=some p) :
  Fit (bdC q c) p.1∧Fit (bdC q c) p.2:=by
 obtain⟨o1,o2,o3,o4,o5,o6,_,o8,o9⟩:=bK_ q hw hb hm;have hM:=d7_ hw hb hm h1 h2;have lx:=hx.1;have ly:=hy.1;rw[o4] at lx ly;have hk:=hw.k.2.2;have sum:∀ (k:Int) (z:List Ty),hs_ q (b2_ c).kids z→(c.kind=5∨c.kind=6∨c.kind=7)→∀ t,Fit ⟨(bdS q (b2_ c).kids).v,(bdS q (b2_ c).kids).s+1,(bdS q (b2_ c).kids).f⟩ t→Fit (bdC q c) t:=fun _ z _ h567 t ht=>by
  refine ht.mono ?_;rw[eM_];unfold bd1;rw[if_neg h1,if_neg h2,if_neg (by omega),if_neg (by omega)];exact⟨o9.1,Nat.succ_le_succ o9.2.1,o9.2.2⟩
 unfold dQ_ at h;rw[o1] at h
 split at h
 ·next h3 =>
  injection h with h
  subst h;exact⟨(hy.2.1 _ (dn_ (by omega))).mono hM,(hx.2.1 _ (dn_ (by omega))).mono hM⟩
 ·split at h
  ·next h3 h4 =>
   split at h
   ·injection h with h
    subst h;exact⟨(hx.2.1 _ (dn_ (by omega))).mono hM,(hy.2.1 _ (qC_ (by omega))).mono hM⟩
   ·cases h
  ·split at h
   ·next h5 =>
    injection h with h
    subst h;exact⟨sum 0 x hx (.inl h5) _ (h2_ hx (.inr (.inr (.inl ⟨rfl,rfl⟩))) (.inl rfl) (fun e=>absurd e (by decide)) o6),sum 0 y hy (.inl h5) _ (h2_ hy (.inr (.inr (.inl ⟨rfl,rfl⟩))) (.inl rfl) (fun e=>absurd e (by decide)) o6)⟩
   ·split at h
    ·next h6 =>
     injection h with h
     subst h;have hkl:c.kids.length=2:=(by omega);have he:(e0:ByteArray).size≤64:=(by decide);exact⟨sum 0 x hx (.inr (.inl h6)) _ (h2_ hx (.inr (.inr (.inr (.inl ⟨rfl,rfl,rfl,by show x.length=2;omega⟩)))) (.inr (.inl rfl)) (fun e=>absurd e (by decide)) he),sum 0 y hy (.inr (.inl h6)) _ (h2_ hy (.inr (.inr (.inr (.inl ⟨rfl,rfl,rfl,by show y.length=2;omega⟩)))) (.inr (.inl rfl)) (fun e=>absurd e (by decide)) he)⟩
    ·split at h
     ·next h7 =>
      injection h with h
      subst h;have hkl:c.kids.length=1:=(by omega);exact⟨sum 0 x hx (.inr (.inr h7)) _ (h2_ hx (.inr (.inr (.inr (.inr ⟨rfl,rfl,by show x.length=1;omega⟩)))) (.inr (.inr rfl)) (fun _=>o5 h7) o6),sum 0 y hy (.inr (.inr h7)) _ (h2_ hy (.inr (.inr (.inr (.inr ⟨rfl,rfl,by show y.length=1;omega⟩)))) (.inr (.inr rfl)) (fun _=>o5 h7) o6)⟩
     ·split at h
      ·next h8 =>
       have hn:0≤c.n∧c.kids.length=1:=(by omega);have:=rw_ (by rw[o3];exact hn.1) (hx.2.1 _ (dn_ (by omega))) (hy.2.1 _ (dn_ (by omega))) h;exact⟨this.1.mono hM,this.2.mono hM⟩
      ·split at h
       ·next n3 n4 n5 n6 n7 n8 hc =>
        injection h with h
        subst h;have h9:c.kind=9∧c.kids.length=1:=(by omega);have hT:=hw.ok (.inr h9.1);have hb2:=hb;rw[eM_] at hb2;unfold bd1 at hb2;rw[if_neg h1,if_neg h2,if_neg (by omega),if_pos h9.1] at hb2;have hb3:(bdM q c.kids).s+(bdM q c.kids).v*c.t.size+c.t.size≤50000000000:=hb2;have hms:(bdM q (b2_ c).kids).s≤50000000000:=(by have:=o8.2.1;omega);rw[o2];have fin:∀ t,Fit ⟨(bdM q (b2_ c).kids).v*max 1 (cv_ c.t),(bdM q (b2_ c).kids).s+(bdM q (b2_ c).kids).v*c.t.size+c.t.size,(bdM q (b2_ c).kids).f+cv_ c.t⟩ t→Fit (bdC q c) t:=fun t ht=>by
         refine ht.mono ?_;rw[eM_];have:=lj_ (q:=q) (k:=c.kind) (t:=c.t) (t':=c.t) (aw_ _) (aw_ _) (aw_ _) o8 o9;refine Bd.le.trans ?_ this;unfold bd1;rw[if_neg h1,if_neg h2,if_neg (by omega),if_pos h9.1];exact .refl _
        exact⟨fin _ (n2_ (hx.2.1 _ (dn_ (by omega))) hT hc.1 hms (by omega)),fin _ (n2_ (hy.2.1 _ (dn_ (by omega))) hT hc.2 hms (by omega))⟩
       ·cases h
theorem du_ (q:Nat):∀ (d:Nat) (g:List Giv) (c:Co) (p:Ty × Ty),eP_ q g→WfC c→(bdC q c).s≤50000000000→aW_ c≤60→aB_ d g c=some p→Fit (bdC q c) p.1∧Fit (bdC q c) p.2:=by
 intro d
 induction d with
 | zero=>intro g c p _ _ _ _ h;cases h
 | succ d ih =>
  intro g c p hg hw hb hm h;rw[aB_] at h
  split at h
  ·next h1 =>
   have:=pE_ hg h;rw[eM_];unfold bd1;rw[if_pos h1];exact this
  ·split at h
   ·next h1 h2 =>
    injection h with h
    subst h;have:Fit (bdC q c) c.t:=by
     rw[eM_];unfold bd1;rw[if_neg h1,if_pos h2];exact⟨hw.ok (.inl h2),aw_ _,aw_ _,aw_ _⟩
    exact⟨this,this⟩
   ·next h1 h2 =>
    split at h
    ·cases h
    ·next r hr =>
     have o:=bK_ q hw hb hm;have hM:=d7_ hw hb hm h1 h2;have hl:=dI_ (fun a ha p hp=>ih g a p hg (o.2.2.2.2.2.2.1 a ha).1 (bm_ ((bE_ ha).trans hM).2.1 hb) (o.2.2.2.2.2.2.1 a ha).2.1 hp) hr;exact o6_ hw hb hm h1 h2 hl.1 hl.2 h
mutual
def wtC (q:Nat):Co→Nat
 | .mk k _ _ t ks=>if k=1 then q else if k=2 then t.size else wtL q ks+(if k=9 then t.size else 1)
def wtL (q:Nat):List Co→Nat
 | []=>0
 | c :: cs=>wtC q c+wtL q cs
end
mutual
def xtC:Co→Nat
 | .mk k _ _ t ks=>(if k=9 then t.size else 0)+xtL ks
def xtL:List Co→Nat
 | []=>0
 | c :: cs=>xtC c+xtL cs
end
theorem lt_ (q:Nat)(a b:List Co):wtL q (a++b)=wtL q a+wtL q b:=by
 induction a with
 | nil=>simp[wtL]
 | cons t ts ih=>simp[wtL,ih,Nat.add_assoc]
theorem lr_ (a b:List Co):xtL (a++b)=xtL a+xtL b:=by
 induction a with
 | nil=>simp[xtL]
 | cons t ts ih=>simp[xtL,ih,Nat.add_assoc]
theorem mD_ (q:Nat)(c:Co):wtC q c=if c.kind=1 then q else if c.kind=2 then c.t.size else wtL q c.kids+(if c.kind=9 then c.t.size else 1):=by cases c;rfl
theorem qk_ (c:Co):xtC c=(if c.kind=9 then c.t.size else 0)+xtL c.kids:=by cases c;rfl
theorem ri_ {t:Ty}(h:Mk t):Ok t:=⟨h.1,rk_ t h⟩
theorem jU_ {t:Tok}(h:be_ t)(hk:t.kind=4):lo_ t.text:=by
 cases h with
 | var h=>omega
 | con h=>omega
 | key h=>omega
 | num h n=>exact n
 | unk h=>omega
 | sign2 h=>omega
 | sign h=>omega
theorem iH_ {s:List UInt8}(h:d9_ s):(aa_ s).size≤64∧1≤(aa_ s).size:=by
 have:=e1_ (s:=aa_ s) (by rw[dC_];exact h);omega
theorem en_ (s:List UInt8):ay_ s=0∨3≤ay_ s∧ay_ s≤9:=by
 unfold ay_
 repeat' split
 all_goals omega
structure sQ_ (l:List Tok)(h:oJ_):Prop where
 k:3≤h.k∧h.k≤9
 nm:h.nm.size≤64
 n:h.n<1000000
 m:h.m=if h.k=5 then 0 else if h.k=4∨h.k=6 then 2 else 1
 lt:h.l.length<l.length
 tk:∀ t∈h.l,be_ t
theorem kj_ {l:List Tok}{h:oJ_}(hl:∀ t∈l,be_ t)(e:bo_ l=some h):sQ_ l h:=by
 unfold bo_ at e;have he:(e0:ByteArray).size≤64:=by decide
 split at e
 ·next h2 =>
  have n1:=ci_ h2;have ht:=aI_ hl;have htt:=aI_ ht;have hr:=en_ (ab_ l);have l1:l.tail.length+1=l.length:=by rw[List.length_tail];omega
  have l2:l.tail.tail.length≤l.tail.length:=by rw[List.length_tail];omega
  split at e
  ·cases e
  ·split at e
   ·split at e
    ·next hc =>
     injection e with e
     subst e;obtain⟨t,h1,h2,h3⟩:=df_ hc ht;exact⟨⟨by show 3≤5;omega,by show 5≤9;omega⟩,by show (aa_ (ab_ l.tail)).size≤64;rw[h1];exact (iH_ (ij_ h2 h3).1).1,by show 0<1000000;omega,rfl,by show l.tail.tail.length < _;omega,htt⟩
    ·cases e
   ·split at e
    ·split at e
     ·next hc =>
      injection e with e
      subst e;obtain⟨t,h1,h2,h3⟩:=df_ hc ht;exact⟨⟨by show 3≤7;omega,by show 7≤9;omega⟩,by show (aa_ (ab_ l.tail)).size≤64;rw[h1];exact (iH_ (gF_ h2 h3).1).1,by show 0<1000000;omega,rfl,by show l.tail.tail.length < _;omega,htt⟩
     ·cases e
    ·split at e
     ·split at e
      ·next hc =>
       injection e with e
       subst e;obtain⟨t,h1,h2,h3⟩:=df_ hc ht;exact⟨⟨by show 3≤8;omega,by show 8≤9;omega⟩,he,by show dw_ (ab_ l.tail)<1000000;rw[h1];exact qy_ (jU_ h2 h3),rfl,by show l.tail.tail.length < _;omega,htt⟩
      ·cases e
     ·next h0 h5 h7 h8 =>
      injection e with e
      subst e;refine⟨by show 3≤ay_ (ab_ l)∧ay_ (ab_ l)≤9;omega,he,by show 0<1000000;omega,?_,by show l.tail.length < _;omega,ht⟩;show (if ay_ (ab_ l)=4∨ay_ (ab_ l)=6 then 2 else 1)=if ay_ (ab_ l)=5 then 0 else if ay_ (ab_ l)=4∨ay_ (ab_ l)=6 then 2 else 1;rw[if_neg h5]
 ·cases e
theorem ic_ {l r:List Tok}{t:Ty}(hl:∀ t∈l,be_ t)(e:dZ_ l=some (t,r)):Mk t∧t.size+r.length+2≤l.length∧∀ t∈r,be_ t:=by
 unfold dZ_ at e
 split at e
 ·next h1 =>
  have n1:=b8_ h1
  split at e
  ·cases e
  ·next x r' hr =>
   split at e
   ·next h2 =>
    injection e with e
    injection e with e1 e2
    subst e1 e2;have n2:=b8_ h2;obtain⟨a,b,c⟩:=(made _).1 _ _ _ (aI_ hl) hr;rw[List.length_tail] at b;exact⟨a,by rw[List.length_tail];omega,aI_ c⟩
   ·cases e
 ·cases e
def p9_ (q:Nat)(l:List Tok)(c:Co)(r:List Tok):Prop:=WfC c∧wtC q c+q*r.length≤q*l.length∧xtC c+r.length≤l.length∧r.length<l.length∧∀ t∈r,be_ t
def ky_ (q:Nat)(acc:List Co)(l:List Tok)(ks:List Co)(r:List Tok):Prop:=(∀ c∈ks,WfC c)∧wtL q ks+q*r.length≤wtL q acc+q*l.length∧xtL ks+r.length≤xtL acc+l.length∧ks.length+r.length≤acc.length+l.length∧∀ t∈r,be_ t
theorem ky_.refl {q:Nat}{acc:List Co}{l:List Tok}(h:∀ c∈acc,WfC c)(ht:∀ t∈l,be_ t):ky_ q acc l acc l:=⟨h,aw_ _,aw_ _,aw_ _,ht⟩
theorem ky_.step {q:Nat}{acc:List Co}{l:List Tok}{x:Co}{r:List Tok}{ks:List Co}{r':List Tok}(h:p9_ q l x r)(g:ky_ q (acc++[x]) r ks r'):ky_ q acc l ks r':=by
 obtain⟨h1,h2,h3,h4,h5⟩:=h;obtain⟨g1,g2,g3,g4,g5⟩:=g;rw[lt_] at g2;rw[lr_] at g3;simp only[wtL,xtL,List.length_append,List.length_cons,List.length_nil] at g2 g3 g4;exact⟨g1,by omega,by omega,by omega,g5⟩
theorem ql_ {acc:List Co}{x:Co}(h:∀ c∈acc,WfC c)(hx:WfC x):∀ c∈acc++[x],WfC c:=fun c hc=>by
 rcases List.mem_append.1 hc with hc|hc
 ·exact h c hc
 ·rw[List.mem_singleton.1 hc];exact hx
theorem mi_ (q:Nat)(hq:1≤q):∀ n:Nat,
  (∀ l c r,(∀ t∈l,be_ t)→l.length≤4000→coF n l=some (c,r)→p9_ q l c r) ∧
  (∀ l c r,(∀ t∈l,be_ t)→l.length≤4000→a1_ n l=some (c,r)→p9_ q l c r) ∧
  (∀ acc l ks r,(∀ c∈acc,WfC c)→(∀ t∈l,be_ t)→l.length≤4000→fJ_ n acc l=some (ks,r)→ky_ q acc l ks r) ∧
  (∀ m acc l ks r,(∀ c∈acc,WfC c)→(∀ t∈l,be_ t)→l.length≤4000→bg_ n m acc l=some (ks,r)→ky_ q acc l ks r∧ks.length=acc.length+m):=by
 intro n
 induction n with
 | zero=>exact⟨fun _ _ _ _ _ h=>by simp[coF] at h,fun _ _ _ _ _ h=>by simp[a1_] at h,fun _ _ _ _ _ _ _ h=>by simp[fJ_] at h,fun _ _ _ _ _ _ _ _ h=>by simp[bg_] at h⟩
 | succ n ih =>
  obtain⟨i1,i2,i3,i4⟩:=ih;have qm:∀ {a b:Nat},a≤b→q*a≤q*b:=fun h=>Nat.mul_le_mul_left q h;have he:(e0:ByteArray).size≤64:=by decide
  refine⟨fun l c r hl hn h=>?_,fun l c r hl hn h=>?_,fun acc l ks r hacc hl hn h=>?_,fun m acc l ks r hacc hl hn h=>?_⟩
  ·rw[coF] at h
   split at h
   ·split at h
    ·cases h
    ·next t r' ha =>
     injection h with h
     injection h with e1 e2
     subst e1 e2;obtain⟨a1,a2,a3⟩:=ic_ hl ha;refine⟨(d3_ _).2 ⟨⟨he,by show 0≤4000;omega,.inr (.inl ⟨rfl,rfl,ri_ a1⟩)⟩,fun a ha=>by cases ha⟩,?_,?_,by omega,a3⟩
     ·show t.size+q*r'.length≤q*l.length
      have h1:=qm (show t.size+r'.length≤l.length by omega);rw[Nat.mul_add] at h1;have h2:=Nat.mul_le_mul_right t.size hq;omega
     ·show 0+0+r'.length≤_;omega
   ·split at h
    ·next h1 =>
     have n1:=b8_ h1
     split at h
     ·cases h
     ·next x r' hr =>
      split at h
      ·next h2 =>
       injection h with h
       injection h with e1 e2
       subst e1 e2;obtain⟨a1,a2,a3,a4,a5⟩:=i2 _ _ _ (aI_ hl) (by rw[List.length_tail];omega) hr;have n2:=b8_ h2;rw[List.length_tail] at a2 a3 a4;have g1:=qm (show r'.tail.length≤r'.length by rw[List.length_tail];omega);have g2:=qm (show l.length - 1≤l.length by omega);refine⟨a1,by omega,by rw[List.length_tail];omega,by rw[List.length_tail];omega,aI_ a5⟩
      ·cases h
    ·split at h
     ·next h1 =>
      injection h with h
      injection h with e1 e2
      subst e1 e2;obtain⟨t,g1,g2,g3⟩:=df_ h1 hl;have n1:=ci_ h1;refine⟨(d3_ _).2 ⟨⟨by show (aa_ (ab_ l)).size≤64;rw[g1];exact (iH_ (gF_ g2 g3).1).1,by show 0≤4000;omega,.inl ⟨rfl,rfl⟩⟩,fun a ha=>by cases ha⟩,?_,?_,by rw[List.length_tail];omega,aI_ hl⟩
      ·show q+q*l.tail.length≤q*l.length
       have:=qm (show 1+l.tail.length≤l.length by rw[List.length_tail];omega);rw[Nat.mul_add] at this;omega
      ·show 0+0+l.tail.length≤_;rw[List.length_tail];omega
     ·cases h
  ·rw[a1_] at h
   split at h
   ·cases h
   ·next hd e =>
    obtain⟨k1,k2,k3,k4,k5,k6⟩:=kj_ hl e;have g2:=qm (show 1+hd.l.length≤l.length by omega);rw[Nat.mul_add] at g2
    split at h
    ·next h5 =>
     split at h
     ·cases h
     ·next ks r' hk =>
      injection h with h
      injection h with e1 e2
      subst e1 e2;obtain⟨a1,a2,a3,a4,a5⟩:=i3 _ _ _ _ (fun c hc=>by cases hc) k6 (by omega) hk;simp only[wtL,xtL,List.length_nil] at a2 a3 a4;refine⟨(d3_ _).2 ⟨⟨k2,by show ks.length≤4000;omega,.inr (.inr (.inr (.inr (.inl rfl))))⟩,a1⟩,?_,?_,by omega,a5⟩
      ·show wtL q ks+1+q*r'.length≤_;omega
      ·show 0+xtL ks+r'.length≤_;omega
    ·next h5 =>
     split at h
     ·cases h
     ·next ks r' hk =>
      obtain⟨⟨a1,a2,a3,a4,a5⟩,a6⟩:=i4 _ _ _ _ _ (fun c hc=>by cases hc) k6 (by omega) hk;simp only[wtL,xtL,List.length_nil] at a2 a3 a4 a6;rw[k4,if_neg h5] at a6
      split at h
      ·next h9 =>
       split at h
       ·cases h
       ·next t r'' ha =>
        injection h with h
        injection h with e1 e2
        subst e1 e2;obtain⟨b1,b2,b3⟩:=ic_ a5 ha;rw[h9] at a6;have a6:ks.length=1:=by simpa using a6
        refine⟨(d3_ _).2 ⟨⟨k2,by show ks.length≤4000;omega,.inr (.inr (.inr (.inr (.inr (.inr (.inr (.inr ⟨rfl,a6,ri_ b1⟩)))))))⟩,a1⟩,?_,?_,by omega,b3⟩
        ·show wtL q ks+t.size+q*r''.length≤_
         have h1:=qm (show t.size+r''.length≤r'.length by omega);rw[Nat.mul_add] at h1;have h2:=Nat.mul_le_mul_right t.size hq;omega
        ·show t.size+xtL ks+r''.length≤_;omega
      ·next h9 =>
       injection h with h
       injection h with e1 e2
       subst e1 e2;refine⟨(d3_ _).2 ⟨⟨k2,by show ks.length≤4000;omega,?_⟩,a1⟩,?_,?_,by omega,a5⟩
       ·show (((hd.k:Int)=1∧ks.length=0)∨((hd.k:Int)=2∧ks.length=0∧Ok tz)∨((hd.k:Int)=3∧ks.length=1)∨((hd.k:Int)=4∧ks.length=2)∨(hd.k:Int)=5∨((hd.k:Int)=6∧ks.length=2)∨((hd.k:Int)=7∧ks.length=1)∨((hd.k:Int)=8∧ks.length=1∧0≤(hd.n:Int)∧(hd.n:Int)<1000000000)∨((hd.k:Int)=9∧ks.length=1∧Ok tz))
        have:hd.k=3∨hd.k=4∨hd.k=6∨hd.k=7∨hd.k=8:=by omega
        rcases this with h|h|h|h|h<;>(rw[h] at a6 ⊢;simp at a6)
        ·exact .inr (.inr (.inl ⟨rfl,a6⟩))
        ·exact .inr (.inr (.inr (.inl ⟨rfl,a6⟩)))
        ·exact .inr (.inr (.inr (.inr (.inr (.inl ⟨rfl,a6⟩)))))
        ·exact .inr (.inr (.inr (.inr (.inr (.inr (.inl ⟨rfl,a6⟩))))))
        ·exact .inr (.inr (.inr (.inr (.inr (.inr (.inr (.inl ⟨rfl,a6,by omega,by omega⟩)))))))
       ·rw[mD_]
        show (if (hd.k:Int)=1 then q else if (hd.k:Int)=2 then tz.size else wtL q ks+(if (hd.k:Int)=9 then tz.size else 1))+q*r'.length≤_;rw[if_neg (by omega),if_neg (by omega),if_neg (by omega)];omega
       ·rw[qk_]
        show (if (hd.k:Int)=9 then tz.size else 0)+xtL ks+r'.length≤_;rw[if_neg (by omega)];omega
  ·rw[fJ_] at h
   split at h
   ·injection h with h
    injection h with e1 e2
    subst e1 e2;exact .refl hacc hl
   ·split at h
    ·cases h
    ·next x r' hx =>
     have r1:=i1 _ _ _ hl hn hx;have:=r1.2.2.2.1;exact .step r1 (i3 _ _ _ _ (ql_ hacc r1.1) r1.2.2.2.2 (by omega) h)
  ·cases m with
   | zero =>
    rw[bg_] at h;injection h with h
    injection h with e1 e2
    subst e1 e2;exact⟨.refl hacc hl,rfl⟩
   | succ m =>
    rw[bg_] at h
    split at h
    ·cases h
    ·next x r' hx =>
     have r1:=i1 _ _ _ hl hn hx;have:=r1.2.2.2.1;obtain⟨g1,g2⟩:=i4 _ _ _ _ _ (ql_ hacc r1.1) r1.2.2.2.2 (by omega) h;exact⟨.step r1 g1,by rw[g2];simp;omega⟩
end
section
open Go.RowKit
open Lx
theorem dc_ (k:Nat)(h:3≤k)(h':k≤9)(w:World):Calls Tryz.prog 44 #[.int .i64 (k:Int)] w fun e w'=>e=.returned (.string (aa_ (aP_ k)))∧w=w':=by
 have hk:k=3∨k=4∨k=5∨k=6∨k=7∨k=8∨k=9:=by omega
 rcases hk with rfl|rfl|rfl|rfl|rfl|rfl|rfl
 all_goals
  go_enter Tryz.func44,Tryz.ntmps44;go_wp2;go_ret;exact⟨by rfl,rfl⟩
def Vs (w:World):Prop:=∃ tp p,w.var? Tryz.prog "strconv.ErrSyntax" = some #[.iface tp p]
def VsN (N:Nat)(w:World):Prop:=∀ w',Below N w w'→Vs w'
theorem VsN.below {N:Nat}{w w':World}(h:VsN N w)(hb:Below N w w'):VsN N w':=fun w2 h2=>h w2 (hb.trans h2)
theorem VsN.at_ {N:Nat}{w:World}(h:VsN N w):Vs w:=h w (Below.refl N w)
theorem Vs.n {w:World}(h:Vs w):VsN w.heap.size w:=fun w' hb=>by
 obtain⟨tp,p,h⟩:=h;refine⟨tp,p,?_⟩;unfold World.var? at h ⊢;cases hg:Tryz.prog.globalNamed "strconv.ErrSyntax" with
 | none=>rw[hg] at h;cases h
 | some g =>
  rw[hg] at h;show (match w'.heap[g]? with|some (.cells cs _ _)=>some cs | _=>none)=_;replace h:(match w.heap[g]? with|some (.cells cs _ _)=>some cs | _=>none)=some #[.iface tp p]:=h;have hlt:g<w.heap.size:=by
   cases he:w.heap[g]? with
   | none=>rw[he] at h;cases h
   | some o=>exact (Array.getElem?_eq_some_iff.1 he).1
  rw[hb.block g hlt];exact h
theorem on_ (w:World)(h:Vs w):Calls Tryz.prog 105 #[.string ⟨#[]⟩] w fun e w'=>∃ v,e=.returned (.tuple #[.int .i64 0,v])∧Below w.heap.size w w':=by
 obtain⟨tp,p,h⟩:=h;refine (Tryz.strconv_Atoi_syntax_var ⟨#[]⟩ (Nat.zero_le _) rfl tp p w h).mono ?_;rintro e w' ⟨n,rfl,_,_,hb⟩;exact⟨_,rfl,hb⟩
theorem bC_ {N B:Nat}{w w':World}{l:List Tok}{bad ok:Bool}{e:Ending}(h:gB_ N B w l bad ok e w'):w.grownBy w' (some B)∧w'.heap.size=w.heap.size∧∃ s l1 b1,e=.returned (.string s)∧Rc N B w' l1 b1∧(ok=true∧s=aa_ (ab_ l)∧l1=l.tail∧b1=bad∨ok=false∧s=⟨#[]⟩∧l1=l∧b1=true):=by
 obtain⟨h1,h2,h3⟩:=h;refine⟨h1,h2,?_⟩;cases ok with
 | true=>obtain⟨e,h⟩:=h3;exact⟨_,_,_,e,h,.inl ⟨rfl,rfl,rfl,rfl⟩⟩
 | false=>obtain⟨e,h⟩:=h3;exact⟨_,_,_,e,h,.inr ⟨rfl,rfl,rfl,rfl⟩⟩
def rL_ (N B:Nat)(w:World)(l:List Tok)(e:Ending)(w':World):Prop :=
 w.grownBy w' (some B)∧∃ t a c,e=.returned (tv t a c)∧ac_ (In w.heap.size w'.heap.size) w' (.slice a t.args.length c) t.args∧match dZ_ l with
  | some (t',r)=>t=t'∧Rc N B w' r false
  | none=>∃ l',Rc N B w' l' true
structure Ln where
 nm:ByteArray
 l:ByteArray
 r:ByteArray
def mz_ (w:World)(v:Value)(ls:List Ln):Prop :=
 ∃ a c,v=.slice a ls.length c∧ls.length≤c∧ls.length≤9223372036854775807∧(∀ x∈ls,x.nm.size≤maxLen∧x.l.size≤maxLen∧x.r.size≤maxLen) ∧
  (ls=[]∨∃ b off,a=some ⟨b,off,none⟩∧b<w.heap.size∧∀ j (h:j<ls.length),w.cell? ⟨b,off+j*3,none⟩=some (.string ls[j].nm)∧w.cell? ⟨b,off+j*3+1,none⟩=some (.string ls[j].l)∧w.cell? ⟨b,off+j*3+2,none⟩=some (.string ls[j].r))
theorem mz_.low {w w':World}{v:Value}{ls:List Ln}(h:mz_ w v ls)(hb:Below w.heap.size w w'):mz_ w' v ls:=by
 obtain⟨a,c,e,h1,h2,h3,h4⟩:=h;refine⟨a,c,e,h1,h2,h3,h4.imp id ?_⟩;rintro ⟨b,off,e,hb',hc⟩;have k:∀ o,w'.cell? ⟨b,o,none⟩=w.cell? ⟨b,o,none⟩:=fun o=>World.cell?_of_block (hb.block b hb');exact⟨b,off,e,aX_ hb' hb.size,fun j hj=>by rw[k,k,k];exact hc j hj⟩
def gOf (x:Ln):Option Giv:=match bF_ x.l.data.toList,bF_ x.r.data.toList with
 | .ok t,.ok u=>if x.l.size≤120∧x.r.size≤120 then some ⟨x.nm,t,u⟩ else none
 | _,_=>none
def hy_:List Ln→Option (List Giv)
 | []=>some []
 | x :: xs=>match gOf x with
  | none=>none
  | some g=>match hy_ xs with
   | none=>none
   | some gs=>some (g :: gs)
def gU_ (ls:List Ln):Option (List Giv):=if 6<ls.length then none else hy_ ls
theorem jH_:∀ (xs:List Ln) (x:Ln) {gs:List Giv},hy_ xs=some gs→hy_ (xs++[x])=match gOf x with|none=>none|some g=>some (gs++[g])
 | [],x,gs,h=>by
  injection h with h
  subst h;show (match gOf x with|none=>none|some g=>match hy_ [] with|none=>none|some gs=>some (g :: gs))=_;cases gOf x<;>rfl
 | y :: xs,x,gs,h=>by
  rw[List.cons_append,hy_];rw[hy_] at h;cases hy:gOf y with
  | none=>rw[hy] at h;cases h
  | some g =>
   rw[hy] at h;cases hx:hy_ xs with
   | none=>rw[hx] at h;cases h
   | some g2 =>
    rw[hx] at h;injection h with h
    subst h;simp only;rw[jH_ xs x hx];cases gOf x<;>rfl
theorem jI_:∀ (xs:List Ln) (x:Ln),x∈xs→gOf x=none→hy_ xs=none
 | [],x,h,_=>by cases h
 | y :: xs,x,h,hn=>by
  rw[hy_]
  rcases List.mem_cons.1 h with rfl|h
  ·rw[hn]
  ·rw[jI_ xs x h hn];cases gOf y<;>rfl
theorem iL_:∀ {xs:List Ln} {gs:List Giv},hy_ xs=some gs→gs.length=xs.length
 | [],gs,h=>by injection h with h;subst h;rfl
 | y :: xs,gs,h=>by
  rw[hy_] at h;cases hy:gOf y with
  | none=>rw[hy] at h;cases h
  | some g =>
   rw[hy] at h;cases hx:hy_ xs with
   | none=>rw[hx] at h;cases h
   | some g2 =>
    rw[hx] at h;injection h with h
    subst h;simp[iL_ hx]
def kt_ (g:Giv)(p:Value × Value):List Value:=[.string g.nm,.int .i64 g.l.kind,.string g.l.name,.int .i64 g.l.n,p.1,.int .i64 g.r.kind,.string g.r.name,.int .i64 g.r.n,p.2]
def fe_ (gs:List Giv)(ps:List (Value × Value)):List Value:=(gs.zip ps).flatMap fun p=>kt_ p.1 p.2
theorem ks_ (gs:List Giv)(ps:List (Value × Value))(g:Giv)(p:Value × Value)(h:ps.length=gs.length):fe_ (gs++[g]) (ps++[p])=fe_ gs ps++kt_ g p:=by
 unfold fe_;rw[List.zip_append h.symm,List.flatMap_append];simp
theorem jE_:∀ (gs:List Giv) (ps:List (Value × Value)),ps.length=gs.length→∀ (i:Nat) (h:i<gs.length) (h':i<ps.length) (j:Nat),j<9→(fe_ gs ps)[i*9+j]? = (kt_ gs[i] ps[i])[j]?
 | [],_,_,i,h,_,_,_=>by simp at h
 | c :: cs,[],hh,_,_,_,_,_=>by simp at hh
 | c :: cs,p :: ps,hh,i,h,h',j,hj=>by
  have e:fe_ (c :: cs) (p :: ps)=kt_ c p++fe_ cs ps:=rfl;rw[e];cases i with
  | zero =>
   rw[List.getElem?_append_left (by show _<9;omega),Nat.zero_mul,Nat.zero_add];rfl
  | succ i =>
   have:=jE_ cs ps (by simpa using hh) i (by simpa using h) (by simpa using h') j hj;rw[List.getElem?_append_right (by show 9≤_;omega)];show (fe_ cs ps)[(i+1)*9+j - 9]? = _;rw[show (i+1)*9+j - 9=i*9+j by omega,this];rfl
def jQ_ (lo:Nat)(w:World)(v1 v2:Value)(b:Nat):Prop:=lo≤b∧b<w.heap.size∧v1.ownBlock≠some b∧v2.ownBlock≠some b
structure kB_ (lo:Nat)(w:World)(v1 v2:Value)(gs:List Giv)(ps:List (Value × Value)):Prop where
 own:w.ownsRow lo 72 9 v1 gs.length (fe_ gs ps)
 len:ps.length=gs.length
 at_:∀ (j:Nat) (g:Giv) (p:Value × Value),gs[j]? = some g→ps[j]? = some p→ac_ (jQ_ lo w v1 v2) w p.1 g.l.args∧ac_ (jQ_ lo w v1 v2) w p.2 g.r.args
 two:∃ xs,w.ownsRow lo 74 9 v2 gs.length xs
 ne:∀ b,v1.ownBlock=some b→v2.ownBlock≠some b
 le:lo≤w.heap.size
structure rT_ (lo:Nat)(w:World)(v1 v2:Value)(n:Nat)(gs:List Giv)(ps:List (Value × Value)):Prop where
 own:w.ownsRow lo 72 9 v1 gs.length (fe_ gs ps)
 len:ps.length=gs.length
 at_:∀ (j:Nat) (g:Giv) (p:Value × Value),gs[j]? = some g→ps[j]? = some p→ac_ (jQ_ lo w v1 v2) w p.1 g.l.args∧ac_ (jQ_ lo w v1 v2) w p.2 g.r.args
 two:∃ xs,w.ownsRow lo 74 9 v2 n xs
 ne:∀ b,v1.ownBlock=some b→v2.ownBlock≠some b
 le:lo≤w.heap.size
theorem kB_.nil {lo:Nat}{w:World}(h:lo≤w.heap.size):kB_ lo w (.slice none 0 0) (.slice none 0 0) [] [] :=
 ⟨World.ownsRow_nil _ _ _ _,rfl,by simp,⟨[],World.ownsRow_nil _ _ _ _⟩,(fun _ h=>by cases h),h⟩
section
variable {lo n : Nat} {w w' : World} {v1 v2 v' : Value} {gs : List Giv} {ps : List (Value × Value)}
theorem jQ_.low {b:Nat}(h:jQ_ lo w v1 v2 b)(hs:w.heap.size≤w'.heap.size):jQ_ lo w' v1 v2 b:=⟨h.1,aX_ h.2.1 hs,h.2.2⟩
theorem kB_.low (h:kB_ lo w v1 v2 gs ps)(hb:Below w.heap.size w w'):kB_ lo w' v1 v2 gs ps:=by
 obtain⟨xs,ho⟩:=h.two;exact⟨aF_ h.own fun b e=>hb.block b (h.own.lt b e).2,h.len,fun j g p e1 e2=>⟨((h.at_ j g p e1 e2).1.keep fun b hb'=>hb.block b hb'.2.1).mono fun _ h=>h.low hb.size,((h.at_ j g p e1 e2).2.keep fun b hb'=>hb.block b hb'.2.1).mono fun _ h=>h.low hb.size⟩,
  ⟨xs,aF_ ho fun b e=>hb.block b (ho.lt b e).2⟩,h.ne,bm_ h.le hb.size⟩
theorem rq_:(Tryz.prog.info? 72).map (fun i=>(i.zero,i.size,i.bytes))=some (some (.agg #[.string ByteArray.empty,.int .i64 0,.string ByteArray.empty,.int .i64 0,.slice none 0 0,.int .i64 0,.string ByteArray.empty,.int .i64 0,.slice none 0 0]),9,128):=by kernel_rfl
theorem pM_:(Tryz.prog.info? 74).map (fun i=>(i.zero,i.size,i.bytes))=some (some (.agg #[.string ByteArray.empty,.int .i64 0,.string ByteArray.empty,.int .i64 0,.slice none 0 0,.int .i64 0,.string ByteArray.empty,.int .i64 0,.slice none 0 0]),9,128):=by kernel_rfl
abbrev B9 (g:Giv) (p:Value × Value):Obj:=.cells #[.string g.nm,.int .i64 g.l.kind,.string g.l.name,.int .i64 g.l.n,p.1,.int .i64 g.r.kind,.string g.r.name,.int .i64 g.r.n,p.2] 72
def Push1 (lo:Nat)(w:World)(v1 v2:Value)(gs:List Giv)(ps:List (Value × Value))(g:Giv)(p:Value × Value)(v':Value)(w':World):Prop:=rT_ lo w' v' v2 gs.length (gs++[g]) (ps++[p])∧w.grownBy w' v1.ownBlock∧w.heap.size<w'.heap.size
theorem kB_.push1 (h:kB_ lo w v1 v2 gs ps)(hl:gs.length≤100000)(g:Giv)(p:Value × Value)(ha:ac_ (jQ_ lo w v1 v2) w p.1 g.l.args)(hr:ac_ (jQ_ lo w v1 v2) w p.2 g.r.args)(hp:∃ a c b d,p=(.slice a g.l.args.length c,.slice b g.r.args.length d)) :
  ∃ v' w',(Builtin.append_ #[24,24] 24 #[v1,.slice (some ⟨w.heap.size,0,none⟩) 1 1]).run Tryz.prog (w.alloc (B9 g p))=.ok v' w'∧Push1 lo w v1 v2 gs ps g p v' w':=by
 obtain⟨i0,hi0,hz0,hz1,hz3⟩:=info_parts rq_;obtain⟨pa,pc,pb,pd,rfl⟩:=hp;have hg0:w.grownBy (w.alloc (B9 g (.slice pa g.l.args.length pc,.slice pb g.r.args.length pd))) v1.ownBlock:=⟨rfl,rfl,rfl,by simp,fun k hk _=>heap_alloc_old w _ hk⟩;obtain⟨gg,cap,w',hrr,ho,hg,hat,hlt⟩:=run_append_lies (P:=Tryz.prog) (w:=w.alloc (B9 g (.slice pa g.l.args.length pc,.slice pb g.r.args.length pd))) 24 24 lo 72 i0 _ 9 128 Tryz.underlying24 hi0 hz0 hz1 hz3 rfl (by omega) v1 gs.length (fe_ gs ps) (h.own.alloc _) ⟨w.heap.size,0,none⟩ 1 1
  (kt_ g (.slice pa g.l.args.length pc,.slice pb g.r.args.length pd)) rfl (World.news_of_block (cs:=#[.string g.nm,.int .i64 g.l.kind,.string g.l.name,.int .i64 g.l.n,.slice pa g.l.args.length pc,.int .i64 g.r.kind,.string g.r.name,.int .i64 g.r.n,.slice pb g.r.args.length pd]) (t:=72) (fr:=(0,0)) (heap_alloc_new w _)) (by simp[kt_,Value.oneCell']) (by omega) (by unfold maxLen;omega) (by omega) (by have:=h.le;simp;omega) (w.heap.size+1) (by simp)
 have hgg:w.grownBy w' v1.ownBlock:=⟨hg.os.trans hg0.os,hg.tape.trans hg0.tape,hg.output.trans hg0.output,bm_ hg0.size hg.size,fun k hk hne=>(hg.block k (by simp;omega) hne).trans (hg0.block k hk hne)⟩;have hsz:=hg.size;simp only[World.size_alloc] at hsz;have hat2:∀ b,(Value.slice (some ⟨gg,0,none⟩) (gs.length+1) cap).ownBlock=some b→v1.ownBlock=some b∨w.heap.size≤b:=fun b e=>by
  rcases hat with e3|e3
  ·exact .inl (e3.trans (by simpa [Value.ownBlock] using e))
  ·refine .inr ?_
   have:gg=b:=by simpa [Value.ownBlock] using e
   omega
 have kp:∀ {y:Value} {ts:List Ty},ac_ (jQ_ lo w v1 v2) w y ts→ac_ (jQ_ lo w' (.slice (some ⟨gg,0,none⟩) (gs.length+1) cap) v2) w' y ts:=fun hy=>(hy.keep fun b hb=>hgg.block b hb.2.1 (Ne.symm hb.2.2.1)).mono fun b hb=>⟨hb.1,aX_ hb.2.1 hgg.size,fun e=>by
  rcases hat2 b e with e|e
  ·exact hb.2.2.1 e
  ·have:=hb.2.1;omega,hb.2.2.2⟩
 obtain⟨xs,h2⟩:=h.two;refine⟨_,w',hrr,⟨by rw[ks_ _ _ _ _ h.len,List.length_append];exact ho,by simp[h.len],fun j u y h1 h3=>?_,⟨xs,aF_ h2 fun b e=>hgg.block b (h2.lt b e).2 fun e'=>h.ne b e'.symm e⟩,fun b e e2=>?_,bm_ h.le hgg.size⟩,hgg,by omega⟩
 ·rcases Nat.lt_or_ge j gs.length with hlt|hge
  ·rw[List.getElem?_append_left hlt] at h1
   rw[List.getElem?_append_left (by rw[h.len];exact hlt)] at h3;exact⟨kp (h.at_ j u y h1 h3).1,kp (h.at_ j u y h1 h3).2⟩
  ·have hj:j=gs.length:=by
    have:=(List.getElem?_eq_some_iff.1 h1).1;simp at this;omega
   subst hj;rw[List.getElem?_append_right (aw_ _)] at h1;rw[← h.len,List.getElem?_append_right (aw_ _)] at h3;simp at h1 h3;subst h1 h3;exact⟨kp ha,kp hr⟩
 ·rcases hat2 b e with e|e
  ·exact h.ne b e e2
  ·have:=(h2.lt b e2).2;omega
theorem rT_.low (h:rT_ lo w v1 v2 n gs ps)(hb:Below w.heap.size w w'):rT_ lo w' v1 v2 n gs ps:=by
 obtain⟨xs,ho⟩:=h.two;exact⟨aF_ h.own fun b e=>hb.block b (h.own.lt b e).2,h.len,fun j g p e1 e2=>⟨((h.at_ j g p e1 e2).1.keep fun b hb'=>hb.block b hb'.2.1).mono fun _ h=>h.low hb.size,((h.at_ j g p e1 e2).2.keep fun b hb'=>hb.block b hb'.2.1).mono fun _ h=>h.low hb.size⟩,
  ⟨xs,aF_ ho fun b e=>hb.block b (ho.lt b e).2⟩,h.ne,bm_ h.le hb.size⟩
def Push2 (lo:Nat)(w:World)(v1 v2:Value)(gs:List Giv)(ps:List (Value × Value))(v':Value)(w':World):Prop:=kB_ lo w' v1 v' gs ps∧w.grownBy w' v2.ownBlock∧w.heap.size<w'.heap.size
theorem rT_.push2 (h:rT_ lo w v1 v2 n gs ps)(hn:gs.length=n+1)(hl:n≤100000)(x0 x2 x6:ByteArray)(x1 x3 x5 x7:Int)(xa xb:OA_)(xl xc xm xd:Nat) :
  ∃ v' w',(Builtin.append_ #[25,25] 25 #[v2,.slice (some ⟨w.heap.size,0,none⟩) 1 1]).run Tryz.prog (w.alloc (.cells #[.string x0,.int .i64 x1,.string x2,.int .i64 x3,.slice xa xl xc,.int .i64 x5,.string x6,.int .i64 x7,.slice xb xm xd] 74))=.ok v' w'∧Push2 lo w v1 v2 gs ps v' w':=by
 obtain⟨i0,hi0,hz0,hz1,hz3⟩:=info_parts pM_;obtain⟨xs,h2⟩:=h.two;have hg0:w.grownBy (w.alloc (.cells #[.string x0,.int .i64 x1,.string x2,.int .i64 x3,.slice xa xl xc,.int .i64 x5,.string x6,.int .i64 x7,.slice xb xm xd] 74)) v2.ownBlock:=⟨rfl,rfl,rfl,by simp,fun k hk _=>heap_alloc_old w _ hk⟩;obtain⟨gg,cap,w',hrr,ho,hg,hat,hlt⟩:=run_append_lies (P:=Tryz.prog) (w:=w.alloc (.cells #[.string x0,.int .i64 x1,.string x2,.int .i64 x3,.slice xa xl xc,.int .i64 x5,.string x6,.int .i64 x7,.slice xb xm xd] 74)) 25 25 lo 74 i0 _ 9 128 Tryz.underlying25 hi0 hz0 hz1 hz3 rfl (by omega) v2 n xs (h2.alloc _) ⟨w.heap.size,0,none⟩ 1 1
  [.string x0,.int .i64 x1,.string x2,.int .i64 x3,.slice xa xl xc,.int .i64 x5,.string x6,.int .i64 x7,.slice xb xm xd] rfl (World.news_of_block (cs:=#[.string x0,.int .i64 x1,.string x2,.int .i64 x3,.slice xa xl xc,.int .i64 x5,.string x6,.int .i64 x7,.slice xb xm xd]) (t:=74) (fr:=(0,0)) (heap_alloc_new w _)) (by simp[Value.oneCell']) (by omega) (by unfold maxLen;omega) (by omega) (by have:=h.le;simp;omega) (w.heap.size+1) (by simp)
 have hgg:w.grownBy w' v2.ownBlock:=⟨hg.os.trans hg0.os,hg.tape.trans hg0.tape,hg.output.trans hg0.output,bm_ hg0.size hg.size,fun k hk hne=>(hg.block k (by simp;omega) hne).trans (hg0.block k hk hne)⟩;have hsz:=hg.size;simp only[World.size_alloc] at hsz;have hat2:∀ b,(Value.slice (some ⟨gg,0,none⟩) (n+1) cap).ownBlock=some b→v2.ownBlock=some b∨w.heap.size≤b:=fun b e=>by
  rcases hat with e3|e3
  ·exact .inl (e3.trans (by simpa [Value.ownBlock] using e))
  ·refine .inr ?_
   have:gg=b:=by simpa [Value.ownBlock] using e
   omega
 have kp:∀ {y:Value} {ts:List Ty},ac_ (jQ_ lo w v1 v2) w y ts→ac_ (jQ_ lo w' v1 (.slice (some ⟨gg,0,none⟩) (n+1) cap)) w' y ts:=fun hy=>(hy.keep fun b hb=>hgg.block b hb.2.1 (Ne.symm hb.2.2.2)).mono fun b hb=>⟨hb.1,aX_ hb.2.1 hgg.size,hb.2.2.1,fun e=>by
  rcases hat2 b e with e|e
  ·exact hb.2.2.2 e
  ·have:=hb.2.1;omega⟩
 refine⟨_,w',hrr,⟨aF_ h.own fun b e=>hgg.block b (h.own.lt b e).2 fun e'=>h.ne b e e'.symm,h.len,fun j u y h1 h3=>⟨kp (h.at_ j u y h1 h3).1,kp (h.at_ j u y h1 h3).2⟩,⟨_,by rw[hn];exact ho⟩,fun b e e2=>?_,bm_ h.le hgg.size⟩,hgg,by omega⟩
 rcases hat2 b e2 with e2|e2
 ·exact h.ne b e e2
 ·have:=(h.own.lt b e).2;omega
theorem kB_.form (h:kB_ lo w v1 v2 gs ps):∃ a c,v1=.slice a gs.length c∧(a=none→c=0):=by
 rcases h.own.2 with ⟨rfl,h0⟩|⟨g,cap,cur,rfl,_⟩
 ·exact⟨none,0,by rw[h0],fun _=>rfl⟩
 ·exact⟨_,cap,rfl,fun e=>by cases e⟩
theorem kB_.giv (h:kB_ lo w v1 v2 gs ps)(hl:gs.length≤4000):dk_ (In lo w.heap.size) w v1 gs:=by
 rcases h.own.2 with ⟨rfl,h0⟩|⟨g,cap,cur,rfl,hb,hg,h1,h2,h3,h4⟩
 ·have:gs=[]:=List.eq_nil_of_length_eq_zero h0
  subst this;exact⟨none,0,rfl,hl,fun i hi=>by simp at hi⟩
 ·refine⟨_,cap,rfl,hl,fun i hi=>?_⟩
  have hi':i<ps.length:=by rw[h.len];exact hi
  have hc:=h.own.cells (g:=g) rfl;have hadd:∀ j,(⟨g,0,none⟩:Addr).add j=⟨g,j,none⟩:=fun j=>by unfold Addr.add;split<;>simp_all
  have q:∀ j u,j<9→(kt_ gs[i] ps[i])[j]? = some u→w.cell? ⟨g,0+i*9+j,none⟩=some u:=fun j u hj hu=>by
   have:=hc (i*9+j) u (by rw[jE_ gs ps h.len i hi hi' j hj];exact hu);rw[hadd] at this;rw[Nat.zero_add];exact this
  obtain⟨r1,r2⟩:=h.at_ i _ _ (List.getElem?_eq_getElem hi) (List.getElem?_eq_getElem hi');obtain⟨a,c,e1,_⟩:=r1.form;obtain⟨b,d,e2,_⟩:=r2.form;have hpe:ps[i]=(.slice a gs[i].l.args.length c,.slice b gs[i].r.args.length d):=Prod.ext e1 e2;rw[hpe] at q r1 r2;exact⟨g,0,a,c,b,d,rfl,⟨hb,(Array.getElem?_eq_some_iff.1 hg).1⟩,q 0 _ (by omega) rfl,⟨q 1 _ (by omega) rfl,q 2 _ (by omega) rfl,q 3 _ (by omega) rfl,q 4 _ (by omega) rfl⟩,r1.mono fun b hb=>⟨hb.1,hb.2.1⟩,⟨q 5 _ (by omega) rfl,q 6 _ (by omega) rfl,q 7 _ (by omega) rfl,q 8 _ (by omega) rfl⟩,r2.mono fun b hb=>⟨hb.1,hb.2.1⟩⟩
end
end
section
open Lx
mutual
def grC:Co→Nat
 | .mk k _ _ t ks=>grL (if k=9 then max 1 (cv_ t) else 1) ks
def grL:Nat→List Co→Nat
 | n,[]=>n
 | n,c :: cs=>if 2000<n*grC c then 2001 else grL (n*grC c) cs
end
def gr0 (c:Co):Nat:=if c.kind=9 then max 1 (cv_ c.t) else 1
theorem n0_ (c:Co):grC c=grL (gr0 c) c.kids:=by cases c;rfl
theorem sv_:∀ (ks:List Co) (n:Nat),1≤n→(∀ c∈ks,1≤grC c)→n≤grL n ks∨grL n ks=2001:=by
 intro ks
 induction ks with
 | nil=>intro n _ _;exact .inl (aw_ _)
 | cons c cs ih =>
  intro n hn h;rw[grL]
  split
  ·exact .inr rfl
  ·have hc:=h c (by simp)
   have h1:n*1≤n*grC c:=Nat.mul_le_mul_left n hc
   rcases ih (n*grC c) (by omega) fun a ha=>h a (by simp[ha]) with h2|h2
   ·exact .inl (by omega)
   ·exact .inr h2
theorem nZ_ (c:Co):1≤grC c:=by
 induction c using Co.ind with
 | h c ih =>
  rw[n0_];have h0:1≤gr0 c:=by unfold gr0;split<;>omega
  rcases sv_ c.kids (gr0 c) h0 ih with h|h<;>omega
theorem r9_ {m n s W K:Nat}(h:m*s≤m*W+K)(hn:n≤m):n*s≤n*W+K:=by
 rcases Nat.le_total s W with h1|h1
 ·have:=Nat.mul_le_mul_left n h1;omega
 ·obtain⟨d,rfl⟩:=Nat.exists_eq_add_of_le h1
  rw[Nat.mul_add] at h ⊢;have:=Nat.mul_le_mul_right d hn;omega
def Calm (q:Nat)(c:Co):Prop:=(bdC q c).v≤wtC q c*grC c∧(bdC q c).s≤wtC q c+wtC q c*grC c*xtC c∧(bdC q c).f≤wtC q c
theorem calmL (q:Nat):∀ (ks:List Co) (n:Nat),1≤n→(∀ c∈ks,grC c≤2000→Calm q c)→grL n ks≤2000 →
  n*(bdS q ks).v≤wtL q ks*grL n ks∧n*(bdS q ks).s≤n*wtL q ks+wtL q ks*grL n ks*xtL ks∧(bdS q ks).f≤wtL q ks∧n≤grL n ks:=by
 intro ks
 induction ks with
 | nil=>intro n _ _ _;simp[bdS,wtL,xtL,grL]
 | cons c cs ih =>
  intro n hn h hg;rw[grL] at hg ⊢
  split at hg
  ·omega
  ·next h2 =>
   rw[if_neg h2];have gp:=nZ_ c;have hcg:grC c≤2000:=(by have:=Nat.mul_le_mul_right (grC c) hn;omega);obtain⟨a1,a2,a3⟩:=h c (by simp) hcg;have hm:n*1≤n*grC c:=Nat.mul_le_mul_left n gp;obtain⟨b1,b2,b3,b4⟩:=ih (n*grC c) (by omega) (fun a ha=>h a (by simp[ha])) hg;generalize grL (n*grC c) cs=G at *;rw[bdS,wtL,xtL];simp only[Bd.add];have c1:n*(bdC q c).v≤wtC q c*G:=by
    have e1:=Nat.mul_le_mul_left n a1;have e2:n*(wtC q c*grC c)=wtC q c*(n*grC c):=(by rw[← Nat.mul_assoc,Nat.mul_comm n,Nat.mul_assoc]);have e3:=Nat.mul_le_mul_left (wtC q c) b4;omega
   have c2:n*(bdS q cs).v≤wtL q cs*G:=by
    have e1:=Nat.mul_le_mul_right (bdS q cs).v (show n≤n*grC c by omega);omega
   have c3:n*(bdC q c).s≤n*wtC q c+wtC q c*G*xtC c:=by
    have e1:=Nat.mul_le_mul_left n a2;rw[Nat.mul_add] at e1;have e2:n*(wtC q c*grC c*xtC c)=wtC q c*(n*grC c)*xtC c:=by
     rw[← Nat.mul_assoc,← Nat.mul_assoc,Nat.mul_comm n (wtC q c),Nat.mul_assoc (wtC q c)]
    have e3:=Nat.mul_le_mul_right (xtC c) (Nat.mul_le_mul_left (wtC q c) b4);omega
   have c4:n*(bdS q cs).s≤n*wtL q cs+wtL q cs*G*xtL cs:=r9_ b2 (by omega);have c5:wtC q c*G*xtC c+wtL q cs*G*xtL cs≤(wtC q c+wtL q cs)*G*(xtC c+xtL cs):=by
    rw[Nat.add_mul,Nat.add_mul,Nat.mul_add,Nat.mul_add];omega
   refine⟨?_,?_,by omega,by omega⟩
   ·rw[Nat.mul_add,Nat.add_mul];omega
   ·rw[Nat.mul_add,Nat.mul_add];omega
theorem rE_ (q:Nat)(c:Co):grC c≤2000→Calm q c:=by
 induction c using Co.ind with
 | h c ih =>
  intro hg;have gp:=nZ_ c;have h0:1≤gr0 c:=by unfold gr0;split<;>omega
  rw[n0_] at hg;obtain⟨a1,a2,a3,a4⟩:=calmL q c.kids (gr0 c) h0 ih hg;have hMS:=sH_ q c.kids;unfold Calm;rw[eM_,mD_,qk_,n0_] at *;generalize grL (gr0 c) c.kids=G at *;unfold bd1;have e1:(bdS q c.kids).v≤wtL q c.kids*G:=by
   have:=Nat.mul_le_mul_right (bdS q c.kids).v h0;omega
  have e2:(bdS q c.kids).s≤wtL q c.kids+wtL q c.kids*G*xtL c.kids:=by
   have:=r9_ a2 h0;omega
  obtain⟨m1,m2,m3⟩:=hMS
  by_cases k1:c.kind=1
  ·rw[if_pos k1,if_pos k1]
   refine⟨?_,?_,aw_ _⟩
   ·show q≤q*G
    have:=Nat.mul_le_mul_left q gp;omega
   ·show q≤_;omega
  ·rw[if_neg k1,if_neg k1]
   by_cases k2:c.kind=2
   ·rw[if_pos k2,if_pos k2]
    have:=iF_ c.t;refine⟨?_,?_,bm_ (kl_ _) this⟩
    ·show cv_ c.t≤c.t.size*G
     have:=Nat.mul_le_mul_left c.t.size gp;omega
    ·show c.t.size≤_;omega
   ·rw[if_neg k2,if_neg k2]
    by_cases k9:c.kind=9
    ·rw[if_neg (by omega),if_pos k9,if_pos k9,if_pos k9]
     have g0:gr0 c=max 1 (cv_ c.t):=by unfold gr0;rw[if_pos k9]
     rw[g0] at a1;have hcs:=iF_ c.t;have p1:(wtL q c.kids+c.t.size)*G=wtL q c.kids*G+c.t.size*G:=Nat.add_mul _ _ _;refine⟨?_,?_,?_⟩
     ·show (bdM q c.kids).v*max 1 (cv_ c.t)≤(wtL q c.kids+c.t.size)*G
      have f1:=Nat.mul_le_mul_right (max 1 (cv_ c.t)) m1;have f2:=Nat.mul_comm (bdS q c.kids).v (max 1 (cv_ c.t));omega
     ·show (bdM q c.kids).s+(bdM q c.kids).v*c.t.size+c.t.size≤wtL q c.kids+c.t.size+(wtL q c.kids+c.t.size)*G*(c.t.size+xtL c.kids)
      have f1:=Nat.mul_le_mul_right c.t.size (bm_ m1 e1);have f2:wtL q c.kids*G*(c.t.size+xtL c.kids)=wtL q c.kids*G*c.t.size+wtL q c.kids*G*xtL c.kids:=Nat.mul_add _ _ _;have f3:=Nat.mul_le_mul_right (c.t.size+xtL c.kids) (show wtL q c.kids*G≤(wtL q c.kids+c.t.size)*G by omega);omega
     ·show (bdM q c.kids).f+cv_ c.t≤_;omega
    ·have h38:(c.kind=3∨c.kind=4∨c.kind=8)∨¬ (c.kind=3∨c.kind=4∨c.kind=8):=by omega
     rw[if_neg k9,if_neg k9,if_neg k9];have p1:(wtL q c.kids+1)*G=wtL q c.kids*G+1*G:=Nat.add_mul _ _ _;have p2:=Nat.mul_le_mul_right (0+xtL c.kids) (show wtL q c.kids*G≤(wtL q c.kids+1)*G by omega);rw[Nat.zero_add] at p2 ⊢
     rcases h38 with h|h
     ·rw[if_pos h]
      exact⟨by omega,by omega,by omega⟩
     ·rw[if_neg h]
      refine⟨?_,?_,?_⟩
      ·show (bdS q c.kids).v≤_;omega
      ·show (bdS q c.kids).s+1≤_;omega
      ·show (bdS q c.kids).f≤_;omega
theorem oj_ {q m:Nat}{l:List Tok}{c:Co}{r:List Tok}(h:p9_ q l c r)(hl:l.length≤m)(hg:grC c≤2000) :
  (bdC q c).v≤q*m*2000∧(bdC q c).s≤q*m+q*m*2000*m∧(bdC q c).f≤q*m:=by
 obtain⟨a1,a2,a3⟩:=rE_ q c hg;obtain⟨_,b2,b3,_⟩:=h;have hw:wtC q c≤q*m:=by
  have:=Nat.mul_le_mul_left q hl;omega
 have hx:xtC c≤m:=by omega
 have h1:wtC q c*grC c≤q*m*2000:=Nat.mul_le_mul hw hg;have h2:wtC q c*grC c*xtC c≤q*m*2000*m:=Nat.mul_le_mul h1 hx;exact⟨by omega,by omega,by omega⟩
end
section
open Go.RowKit Go.ChangeShapes Go.WideShapes Go.Deep Go.Joins
end
section
open Go.ChangeShapes Go.WideShapes Go.ChangeAt Go.WideMaps Go.WideElems Go.RowKit
theorem r6_:"*"++"errors.errorString" = "*errors.errorString" := by decide
theorem rowE (u:TypeId)(h:Tryz.prog.typeName? 3 u=some "*errors.errorString"):u=190 :=
 typeName_ptr_named (nm:="errors.errorString") (by rw[r6_];kernel_rfl) (by kernel_rfl) (by decide) u (by rw[r6_];exact h)
theorem rW_ {W:World}(h:laidMetH Tryz.prog rm_ W):Vs W:=by
 rw[MakeChecks.laidMetH_plain _ _ _ (by kernel_rfl)] at h;have h5:=laidMet.tail (laidMet.tail (laidMet.tail (laidMet.tail h)));obtain⟨a,s,hv,_⟩:=laid_sentinel h5 (g:=2) (by kernel_rfl) (by kernel_rfl) Tryz.underlying136 rowE Tryz.underlying190 Tryz.underlying192 rfl rfl Tryz.underlying9 (by kernel_rfl) (by kernel_rfl);exact⟨_,_,hv⟩
end
end Go.Proofs.YtkihnodkhnahiaaGreatDoor.Tp

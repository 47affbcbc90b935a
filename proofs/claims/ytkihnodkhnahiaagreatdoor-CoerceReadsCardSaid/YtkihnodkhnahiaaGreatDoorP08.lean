/- Packed. -/
import Derived.Test.YtkihnodkhnahiaaGreatDoorP07
import Derived.Test.YtkihnodkhnahiaaGreatDoorP05
import Derived.Carry
set_option maxRecDepth 100000
set_option maxHeartbeats 6400000
namespace Go.Proofs.YtkihnodkhnahiaaGreatDoor.Tp
section
def eqN (a b:ByteArray):Bool:=decide (a.data=b.data)
theorem aS_ (a b:ByteArray):eqN a b=true↔a=b:=by
 unfold eqN;rw[decide_eq_true_eq];exact⟨ByteArray.ext,fun h=>by rw[h]⟩
theorem jw_ (a b:ByteArray):eqN a b=false↔a≠b:=by rw[← Bool.not_eq_true,aS_]
def iV_ (t:Ty)(args:List Ty):Ty:=.mk t.kind t.name t.n args
def ew_ (t:Ty):Ty:=match t.args with|a :: _=>a | []=>t
def cU_ (s:ByteArray)(x:Ty):Ty:=.mk 5 s 0 [x]
def cs_:Nat→ByteArray→ByteArray→Ty→Ty
 | 0,_,_,t=>t
 | d+1,fr,to,t =>
  if t.kind==1&&eqN t.name fr then .mk t.kind to t.n t.args
  else if t.kind==5&&eqN t.name fr then t
  else if t.kind==5&&eqN t.name to then cU_ (bN_ to (aK_ (ew_ t)++[fr,to])) (cs_ d fr to (cs_ d to (bN_ to (aK_ (ew_ t)++[fr,to])) (ew_ t)))
  else iV_ t (t.args.map (cs_ d fr to))
def dA_ (fr to:ByteArray)(t:Ty):Ty:=cs_ t.depth fr to t
mutual
def Nm:Ty→Prop
 | .mk k s _ args=>((k=5→1≤s.size)∧s.size≤64)∧NmL args
def NmL:List Ty→Prop
 | []=>True
 | t :: ts=>Nm t∧NmL ts
end
theorem rQ_ (ts:List Ty):NmL ts↔∀ t∈ts,Nm t:=by
 induction ts with
 | nil=>simp[NmL]
 | cons t ts ih=>rw[NmL,ih];simp
theorem dm_ (t:Ty):Nm t↔((t.kind=5→1≤t.name.size)∧t.name.size≤64)∧∀ a∈t.args,Nm a:=by
 cases t with
 | mk k s n args=>rw[Nm,rQ_];rfl
def cV_ (t:Ty):Prop:=Wf t∧Nm t
theorem h4_ (f:Ty→Ty)(ts:List Ty)(h:∀ t∈ts,(f t).depth=t.depth):aC_ (ts.map f)=aC_ ts:=by
 induction ts with
 | nil=>rfl
 | cons t ts ih=>rw[List.map_cons,aC_,aC_,h t (by simp),ih fun u hu=>h u (by simp[hu])]
theorem gM_ (f:Ty→Ty)(ts:List Ty)(h:∀ t∈ts,(f t).size=t.size):ax_ (ts.map f)=ax_ ts:=by
 induction ts with
 | nil=>rfl
 | cons t ts ih=>rw[List.map_cons,ax_,ax_,h t (by simp),ih fun u hu=>h u (by simp[hu])]
theorem lw_ {t:Ty}(h:Wf t)(hk:t.kind=5):∃ x,t.args=[x]∧ew_ t=x:=by
 have:t.args.length=1:=by rcases ((bq_ t).1 h).1 with h|h|h|h|h<;>first|omega|exact h.2
 match hl:t.args,this with
 | [x],_=>exact⟨x,rfl,by unfold ew_;rw[hl]⟩
theorem et_ (nm:ByteArray)(but:List ByteArray)(hb:but.length≤4500000000000)(h:1≤nm.size):1≤(bN_ nm but).size∧(bN_ nm but).size≤64:=by
 have hf:=dN_ (eg_ nm) (fun _ _=>g8_) but 0;unfold bN_;generalize eh_ (eg_ nm) but (but.length+1) 0=k at *;have h2:=Lib.itoa_length_le (k:Int) (by omega) (by omega);unfold eg_;rw[ByteArray.size_append,ByteArray.size_append,ByteArray.size_extract];have h3:(⟨#[95]⟩:ByteArray).size=1:=rfl;have h4:(aa_ (Lib.itoa (k:Int))).size=(Lib.itoa (k:Int)).length:=by simp[aa_,ByteArray.size]
 omega
theorem kn_:∀ (t:Ty) (out ns:List ByteArray),(cT_ ap_ t out ns).length≤out.length+t.size:=by
 intro t
 induction t using Ty.ind with
 | h t ih =>
  intro out ns;rw[dq_,t.size_eq];have h1:(ap_ out t ns).length≤out.length+1:=by unfold ap_;split<;>simp
  have:∀ (l:List Ty) (out ns),(∀ a∈l,∀ (out ns:List ByteArray),(cT_ ap_ a out ns).length≤out.length+a.size)→(b7_ ap_ l out ns).length≤out.length+ax_ l:=by
   intro l
   induction l with
   | nil=>intro out ns _;simp[b7_,ax_]
   | cons a l ihl =>
    intro out ns h;rw[b7_,ax_];have:=ihl (cT_ ap_ a out ns) ns fun b hb=>h b (by simp[hb]);have:=h a (by simp) out ns;omega
  have:=this t.args (ap_ out t ns) (if t.kind=5 then t.name :: ns else ns) ih;omega
theorem c7_ (t:Ty):(aK_ t).length≤t.size:=by have:=kn_ t [] [];simpa [aK_] using this
theorem je_:∀ (d:Nat) (fr to:ByteArray) (t:Ty),t.depth≤d→cV_ t→to.size≤64→t.size≤4499999999224 →
  (cs_ d fr to t).depth=t.depth∧(cs_ d fr to t).size=t.size∧cV_ (cs_ d fr to t)∧(cs_ d fr to t).kind=t.kind:=by
 intro d
 induction d with
 | zero=>intro fr to t h;rw[t.depth_eq] at h;omega
 | succ d ih =>
  intro fr to t h hg hto hs;have hwf:=(bq_ t).1 hg.1;have hnm:=(dm_ t).1 hg.2;have hd:∀ a∈t.args,a.depth≤d:=fun a ha=>by have:=aT_ _ ha;rw[t.depth_eq] at h;omega
  have hsz:∀ a∈t.args,a.size≤4499999999224:=fun a ha=>by have:=cx_ _ ha;rw[t.size_eq] at hs;omega
  rw[cs_]
  split
  ·next hc =>
   have hk:t.kind=1:=by simp at hc;exact hc.1
   refine⟨by rw[Ty.depth_eq,Ty.depth_eq];rfl,by rw[Ty.size_eq,Ty.size_eq];rfl,⟨?_,?_⟩,rfl⟩
   ·exact (bq_ _).2 hwf
   ·exact (dm_ _).2 ⟨⟨fun e=>by have:t.kind=5:=e;omega,hto⟩,hnm.2⟩
  ·split
   ·exact⟨rfl,rfl,hg,rfl⟩
   ·split
    ·next hc =>
     have hk:t.kind=5:=by simp at hc;exact hc.1
     have hn:t.name=to:=by simp only[Bool.and_eq_true] at hc;exact (aS_ _ _).1 hc.2
     obtain⟨x,hx,hx0⟩:=lw_ hg.1 hk;rw[hx0];have hx1:x∈t.args:=by rw[hx];simp
     have hfl:=c7_ x;have hfs:=et_ to (aK_ x++[fr,to]) (by have:=hsz x hx1;simp;omega) (by rw[← hn];exact hnm.1.1 hk);obtain⟨a1,a2,a3,a4⟩:=ih to (bN_ to (aK_ x++[fr,to])) x (hd x hx1) ⟨hwf.2 x hx1,hnm.2 x hx1⟩ hfs.2 (hsz x hx1);obtain⟨b1,b2,b3,b4⟩:=ih fr to (cs_ d to (bN_ to (aK_ x++[fr,to])) x) (by rw[a1];exact hd x hx1) a3 hto (by rw[a2];exact hsz x hx1);refine⟨?_,?_,⟨?_,?_⟩,hk.symm⟩
     ·rw[Ty.depth_eq,t.depth_eq,hx];show aC_ [_]+1=_;rw[aC_,aC_,aC_,aC_,b1,a1]
     ·rw[Ty.size_eq,t.size_eq,hx];show ax_ [_]+1=_;rw[ax_,ax_,ax_,ax_,b2,a2]
     ·exact (bq_ _).2 ⟨.inr (.inr (.inr (.inr ⟨rfl,rfl⟩))),fun a ha=>by obtain rfl:=List.mem_singleton.1 ha;exact b3.1⟩
     ·exact (dm_ _).2 ⟨⟨fun _=>hfs.1,hfs.2⟩,fun a ha=>by obtain rfl:=List.mem_singleton.1 ha;exact b3.2⟩
    ·have hi:=fun a (ha:a∈t.args)=>ih fr to a (hd a ha) ⟨hwf.2 a ha,hnm.2 a ha⟩ hto (hsz a ha)
     refine⟨?_,?_,⟨?_,?_⟩,rfl⟩
     ·rw[Ty.depth_eq,t.depth_eq];show aC_ (t.args.map _)+1=_;rw[h4_ _ _ fun a ha=>(hi a ha).1]
     ·rw[Ty.size_eq,t.size_eq];show ax_ (t.args.map _)+1=_;rw[gM_ _ _ fun a ha=>(hi a ha).2.1]
     ·refine (bq_ _).2 ⟨?_,fun a ha=>?_⟩
      ·show (t.kind=1∧t.args.map _=[]∨t.kind=2∧t.args.map _=[]∧_∨t.kind=3∨t.kind=4∧(t.args.map _).length=2∨t.kind=5∧(t.args.map _).length=1)
       rw[List.map_eq_nil_iff,List.length_map];exact hwf.1
      ·obtain⟨b,hb,rfl⟩:=List.mem_map.1 ha
       exact (hi b hb).2.2.1.1
     ·refine (dm_ _).2 ⟨hnm.1,fun a ha=>?_⟩
      obtain⟨b,hb,rfl⟩:=List.mem_map.1 ha;exact (hi b hb).2.2.1.2
theorem jj_ (b:Bool)(p:List UInt8):(cj_ b p).length≤p.length+2:=by
 unfold cj_;split<;>simp
theorem pQ_ (l:List Ty)(h:∀ a∈l,(ae_ a).length+4≤80*a.size):((l.zip (l.map ae_)).flatMap fun x=>32 :: cj_ x.1.atomic x.2).length≤80*ax_ l:=by
 induction l with
 | nil=>simp[ax_]
 | cons a l ih =>
  simp only[List.map_cons,List.zip_cons_cons,List.flatMap_cons,List.length_append,List.length_cons,ax_];have:=ih fun b hb=>h b (by simp[hb]);have:=h a (by simp);have:=jj_ a.atomic (ae_ a);omega
theorem f1_:∀ t:Ty,cV_ t→(ae_ t).length+4≤80*t.size:=by
 intro t
 induction t using Ty.ind with
 | h t ih =>
  intro hg;have hwf:=(bq_ t).1 hg.1;have hnm:=(dm_ t).1 hg.2;have hi:=fun a ha=>ih a ha ⟨hwf.2 a ha,hnm.2 a ha⟩;have hn:t.name.data.toList.length≤64:=hnm.1.2;rw[bj_,t.size_eq];unfold gd_
  rcases hwf.1 with h|h|h|h|h
  ·rw[if_neg (by omega),if_neg (by omega),if_neg (by omega),if_neg (by omega)];omega
  ·rw[if_pos h.1]
   have:=Lib.itoa_length_le t.n (by omega) (by omega);simp only[List.length_cons];omega
  ·rw[if_neg (by omega),if_pos h,List.length_append]
   have:=pQ_ t.args hi;omega
  ·rw[if_neg (by omega),if_neg (by omega),if_pos h.1]
   match hl:t.args,h.2 with
   | [x,y],_ =>
    have h1:=hi x (by rw[hl];simp);have h2:=hi y (by rw[hl];simp);have:=jj_ (decide (x.kind<4)) (ae_ x);simp only[List.map_cons,List.map_nil,List.length_append,ax_,List.length_cons,List.length_nil];omega
  ·rw[if_neg (by omega),if_neg (by omega),if_neg (by omega),if_pos h.1]
   match hl:t.args,h.2 with
   | [x],_ =>
    have h1:=hi x (by rw[hl];simp);simp only[List.map_cons,List.map_nil,List.length_append,ax_];have h7:dM_.length=7:=rfl
    split
    ·simp only[List.length_cons,List.length_drop];omega
    ·simp only[List.length_append,List.length_cons,List.length_nil];omega
end
section
open Go.RowKit
def hr_ (bo:Nat)(k:Nat)(out:List ByteArray)(r:Option Nat)(W:World):Prop :=
 ∃ v,W.heap[bo]? = some (.cells #[v] 88 (0,0))∧W.ownsRow (bo+1) 9 1 v out.length (out.map Value.string)∧r=v.ownBlock∧out.length≤k
theorem h1_ (bo:Nat):sP_ bo (hr_ bo) where
 low:=by
  rintro k g r W W' ⟨v,h1,h2,h3,h4⟩ hb;exact⟨v,(hb.block bo (Array.getElem?_eq_some_iff.1 h1).1).trans h1,aF_ h2 fun b e=>hb.block b (h2.lt b e).2,h3,h4⟩
 bo:=by
  rintro k g r W ⟨v,h1,_⟩;exact (Array.getElem?_eq_some_iff.1 h1).1
 row:=by
  rintro k g r W b ⟨v,h1,h2,h3,h4⟩ e;exact (h2.lt b (h3.symm.trans e)).2
theorem kD_ (w:World):(zeroValue 4).run Tryz.prog w=.ok (.bool false) w:=by kernel_rfl
theorem iB_ {l:List ByteArray}{x:ByteArray}(h:x∉l):fb_ l x=false:=by
 cases e:fb_ l x with
 | false=>rfl
 | true=>exact absurd ((cN_ l x).1 e) h
theorem cf_ (l:List ByteArray)(x:ByteArray):Lib.containsS l x=fb_ l x:=by
 rw[Bool.eq_iff_iff,jB_,cN_]
theorem rv_ (bo:Nat):qH_ 75 #[.pointer (some ⟨bo,0,none⟩)] bo ap_ (hr_ bo):=by
 intro k out x ns S a c m r W hI hk hA hS hM hOm;obtain⟨v,hv,hO,hr,hl⟩:=hI;have hbo:=(Array.getElem?_eq_some_iff.1 hv).1;have hz:=ao_ W (.cells #[.int .i64 x.kind,.string x.name,.int .i64 x.n,.slice a x.args.length c] 30);have b4:=B4.new W (.int .i64 x.kind) (.string x.name) (.int .i64 x.n) (.slice a x.args.length c);have c0:=b4.c0;have c1:=b4.c1;have cv:(W.alloc (.cells #[.int .i64 x.kind,.string x.name,.int .i64 x.n,.slice a x.args.length c] 30)).cell? ⟨bo,0,none⟩=some v:=(hz.cell (p:=⟨bo,0,none⟩) hbo).trans (cell_of_row W bo 0 _ _ _ hv);have same:∀ (e:ap_ out x ns=out),oF_ bo (hr_ bo) (k+1) (ap_ out x ns) r W (.returned (.tuple #[])) (W.alloc (.cells #[.int .i64 x.kind,.string x.name,.int .i64 x.n,.slice a x.args.length c] 30)):=fun e=>by
  rw[e];obtain⟨v',h1,h2,h3,h4⟩:=(h1_ bo).low k out r W _ ⟨v,hv,hO,hr,hl⟩ hz;exact⟨⟨_,rfl⟩,r,⟨v',h1,h2,h3,by omega⟩,.of_below hz⟩
 have SM:=hid same;unfold tv;clear b4 same
 by_cases h1:x.kind=1
 ·have z1:(x.kind==1)=true:=by rw[beq_iff_eq];exact h1
  by_cases h2:x.name∈ns
  ·have E:Hid (ap_ out x ns=out):=hid (by unfold ap_;rw[(cN_ ns x.name).2 h2];simp)
   have hlk:=(hM.keep (hz.block m hOm.1)).lookup Tryz.underlying124 Tryz.underlying9 (kD_ _) x.name (c:=true) (by simpa using h2);clear h1 h2 hv hO hr hl hbo hz hA hS hM hOm hk;go_enter Tryz.func75,Tryz.ntmps75;go_wp2
   go_end0
   exact SM.out E.out
  ·have hlk:=(hM.keep (hz.block m hOm.1)).lookup Tryz.underlying124 Tryz.underlying9 (kD_ _) x.name (c:=false) (by simpa using h2)
   have hso:bd_ (fun b=>v.ownBlock=some b) (W.alloc (.cells #[.int .i64 x.kind,.string x.name,.int .i64 x.n,.slice a x.args.length c] 30)) v out:=bd_.of_own (aF_ hO fun b e=>hz.block b (hO.lt b e).2) (by omega);have CC:=da_ hso x.name;rw[cf_] at CC
   by_cases h3:x.name∈out
   ·have E:Hid (ap_ out x ns=out):=hid (by unfold ap_;rw[(cN_ out x.name).2 h3];simp)
    rw[(cN_ out x.name).2 h3] at CC;have CC:=hid CC;clear h1 h2 h3 hv hO hr hl hbo hz hA hS hM hOm hk hso;go_enter Tryz.func75,Tryz.ntmps75;go_wp2_with fail;refine CC.out.mono ?_;rintro e w' ⟨rfl,rfl⟩;go_wp2
    go_end0
    exact SM.out E.out
   ·have E:Hid (ap_ out x ns=out++[x.name]):=hid (by unfold ap_;rw[iB_ h2,iB_ h3,z1];rfl)
    rw[iB_ h3] at CC;have CC:=hid CC;have hz2:=hz.alloc hz.size (.cells #[.string x.name] 9);have OW:=hid (aF_ hO fun b e=>hz2.block b (hO.lt b e).2);have HV:=hid hv;have HO:=hid hO;have HR:=hid hr;have HZ2:=hid hz2;have NB:Hid (v.ownBlock≠some bo):=hid (fun e=>by have:=(hO.lt _ e).1;omega);have HB7:=hid ((hz2.block bo hbo).trans hv);obtain⟨i0,hi0,hzz0,hz1,hz3⟩:=info_parts fo_;clear h1 h2 h3 hv hO hr hA hS hM hOm hso hz hz2;go_enter Tryz.func75,Tryz.ntmps75;go_wp2_with fail;refine CC.out.mono ?_;rintro e w' ⟨rfl,rfl⟩;have cb:((W.alloc (.cells #[.int .i64 x.kind,.string x.name,.int .i64 x.n,.slice a x.args.length c] 30)).alloc (.cells #[.string x.name] 9)).cell? ⟨bo,0,none⟩=some v:=(HZ2.out.cell (p:=⟨bo,0,none⟩) hbo).trans (cell_of_row W bo 0 _ _ _ HV.out);go_wp2_with (at_builtin;go_loud (refine wpList_append_lies _ rfl _ _ _ rfl (bo+1) 9 i0 _ 1 16 Tryz.underlying88 hi0 hzz0 hz1 hz3 rfl (by omega) v out.length (out.map Value.string) rfl OW.out ⟨W.heap.size+1,0,none⟩ 1 1 [.string x.name] rfl rfl (World.news_of_block (cs:=#[.string x.name]) (t:=9) (fr:=(0,0)) (al_ (by simp))) (by simp[Value.oneCell']) (by omega) (by unfold maxLen;omega) (by omega) (by simp;omega) (W.heap.size+1+1) (by simp) ?_;intro gg cap w7 hown7 hgrow7 hat7 hlt7;have hb7:=(hgrow7.block bo (by first|(simp;done)|(simp;omega)) (fun e=>NB.out e.symm)).trans (HB7.out);have c7:=cell_of_row w7 bo 0 _ _ _ hb7;have fr7:w7.frozen? ⟨bo,0,none⟩=false:=(by simp[World.frozen?,hb7]);have HB8:=hid hb7;clear hb7))
    go_end0
    have hne:gg≠bo:=by
     rcases hat7 with e|e
     ·intro h;rw[h] at e;exact NB.out e
     ·omega
    refine⟨⟨_,rfl⟩,(some gg:Option Nat),⟨.slice (some ⟨gg,0,none⟩) (out.length+1) cap,ak_ HB8.out _,?_,rfl,by rw[E.out,List.length_append];simp;omega⟩,⟨?_,?_⟩⟩
    ·rw[E.out,List.length_append,List.map_append]
     exact aF_ hown7 fun b e=>aM_ _ _ _ _ (by injection e with e;subst e;exact hne)
    ·refine ((Kp.of_below HZ2.out).grown hgrow7 (by simp;omega) (fun b e=>.inr (.inr ?_))).setCell (.inr (.inl rfl)) _
     rw[HR.out,e]
    ·rcases hat7 with e|e
     ·exact .inl (by rw[HR.out,e])
     ·exact .inr ⟨gg,rfl,by omega⟩
 ·have z1:(x.kind==1)=false:=by rw[beq_eq_false_iff_ne];exact h1
  have E:Hid (ap_ out x ns=out):=hid (by unfold ap_;rw[z1];simp);clear h1 hv hO hr hl hbo hz hA hS hM hOm hk;go_enter Tryz.func75,Tryz.ntmps75;go_wp2
  go_end0
  exact SM.out E.out
def qi_ (w:World)(t:Ty)(e:Ending)(w':World):Prop :=
 ∃ v,e=.returned v∧w'.ownsRow w.heap.size 9 1 v (aK_ t).length ((aK_ t).map Value.string)∧(aK_ t).length≤t.size∧Below w.heap.size w w'
theorem iu_ {w:World}{base base' size n:Nat}{e:TypeId}{v:Value}{xs:List Value}(h:w.ownsRow base e size v n xs)(hb:base'≤base):w.ownsRow base' e size v n xs:=by
 refine⟨h.1,h.2.imp id ?_⟩;rintro ⟨g,cap,cur,k1,k2,k3⟩;exact⟨g,cap,cur,k1,bm_ hb k2,k3⟩
theorem mk_ (args:Array Value)(w:World):(callFunc 75 args).run Tryz.prog w=.ok (.enter 75 args) w :=
 enters_of Tryz.func75 (by kernel_rfl) rfl args w
theorem fH_ (t:Ty)(S:Nat→Prop)(a:OA_)(c:Nat)(w:World)(hA:ac_ S w (.slice a t.args.length c) t.args)(hS:∀ b,S b→b<w.heap.size)(hk:t.size≤4500000000000) :
  Calls Tryz.prog 35 #[tv t a c] w (qi_ w t):=by
 have hz:=ao_ w (.cells #[.int .i64 t.kind,.string t.name,.int .i64 t.n,.slice a t.args.length c] 30);have b4:=B4.new w (.int .i64 t.kind) (.string t.name) (.int .i64 t.n) (.slice a t.args.length c);have hz2:=hz.alloc hz.size (.cells #[.slice none 0 0] 88);have hz3:=hz2.alloc hz2.size (.map #[] 0);have k4:=b4.low (ao_ _ (.cells #[.slice none 0 0] 88));obtain⟨c0,c1,c2,c3⟩:=k4.c03;have hb1:(((w.alloc (.cells #[.int .i64 t.kind,.string t.name,.int .i64 t.n,.slice a t.args.length c] 30)).alloc (.cells #[.slice none 0 0] 88)).alloc (.map #[] 0)).heap[w.heap.size+1]? = some (.cells #[.slice none 0 0] 88 (0,0)):=by
  rw[heap_alloc_old _ _ (by simp)];exact al_ (by simp)
 have I0:hr_ (w.heap.size+1) 0 [] none (((w.alloc (.cells #[.int .i64 t.kind,.string t.name,.int .i64 t.n,.slice a t.args.length c] 30)).alloc (.cells #[.slice none 0 0] 88)).alloc (.map #[] 0)) :=
  ⟨_,hb1,World.ownsRow_nil _ _ _ _,rfl,aw_ _⟩
 have CW:=oL_ _ #[.pointer (some ⟨w.heap.size+1,0,none⟩)] (w.heap.size+1) ap_ (hr_ (w.heap.size+1)) mk_ (rv_ _) (h1_ _) t 0 [] [] S a c (w.heap.size+1+1) none _ I0 (by omega)
  (hA.keep fun b hb=>hz3.block b (hS b hb)) (fun b hb=>⟨aX_ (hS b hb) hz3.size,by have:=hS b hb;omega,by simp⟩) (c3_.congr (ns:=fun _=>False) (ns':=(·∈([]:List ByteArray))) (c3_.made_at (by simp)) (by simp)) ⟨by simp,by omega,by simp⟩
 rw[Nat.zero_add] at CW;have CW:=hid CW;have HZ3:=hid hz3;have hmm:=@run_makeMap Tryz.prog;unfold tv at *;clear hA hS hz b4 hz2 hz3 k4 hb1 I0;go_enter Tryz.func35,Tryz.ntmps35;go_wp2_with fail;refine CW.out.mono ?_;rintro e W1 ⟨⟨v,rfl⟩,r1,⟨u,hu,ho,_,hl⟩,hT⟩;have cu:W1.cell? ⟨w.heap.size+1,0,none⟩=some u:=cell_of_row W1 _ 0 _ _ _ hu;have O1:=hid (iu_ ho (base':=w.heap.size) (by omega));have B1:=hid ((Kp.of_below (T:=fun b=>b=w.heap.size+1∨some b=(none:Option Nat)) HZ3.out).trans hT.kp HZ3.out.size (fun b _ h=>h));have HL:=hid hl;clear hu ho hT hl;go_wp2;go_ret;exact⟨u,rfl,O1.out,HL.out,⟨B1.out.os,B1.out.tape,B1.out.output,B1.out.size,fun k hk=>B1.out.block k hk (by rintro (h|h)<;>first|omega|cases h)⟩⟩
def cn_ (t:Ty)(args:List Ty):Ty:=.mk t.kind t.name t.n args
section
variable {G : Type} (F : G → Ty → Ty × G)
def au_:G→List Ty→List Ty × G
 | g,[]=>([],g)
 | g,t :: ts=>((F g t).1 :: (au_ (F g t).2 ts).1,(au_ (F g t).2 ts).2)
end
theorem iy_ {G:Type}(F:G→Ty→Ty × G)(a b:List Ty)(g:G):au_ F g (a++b)=((au_ F g a).1++(au_ F (au_ F g a).2 b).1,(au_ F (au_ F g a).2 b).2):=by
 induction a generalizing g with
 | nil=>rfl
 | cons t ts ih=>simp only[List.cons_append,au_,ih]
theorem kg_ {G:Type}(F:G→Ty→Ty × G)(ts:List Ty)(i:Nat)(h:i<ts.length)(g:G) :
  au_ F g (ts.take (i+1))=((au_ F g (ts.take i)).1++[(F (au_ F g (ts.take i)).2 ts[i]).1],(F (au_ F g (ts.take i)).2 ts[i]).2):=by
 rw[List.take_add_one,List.getElem?_eq_getElem h,iy_];rfl
theorem e2_ {G:Type}(F:G→Ty→Ty × G)(ts:List Ty)(g:G):(au_ F g ts).1.length=ts.length:=by
 induction ts generalizing g with
 | nil=>rfl
 | cons t ts ih=>simp only[au_,List.length_cons,ih]
def ei_ (W:World)(R n:Nat)(ys:List Ty)(svs:List Value):Prop :=
 svs.length=ys.length∧∃ cur,W.heap[R]? = some (.cells cur 30 (0,0))∧cur.size=n*4∧cur.toList.take (ys.length*4)=bQ_ ys svs
theorem ei_.lt {W:World}{R n:Nat}{ys:List Ty}{svs:List Value}(h:ei_ W R n ys svs):R<W.heap.size:=by
 obtain⟨_,cur,h1,_⟩:=h;exact (Array.getElem?_eq_some_iff.1 h1).1
theorem ei_.keep {W W':World}{R n:Nat}{ys:List Ty}{svs:List Value}(h:ei_ W R n ys svs)(hb:W'.heap[R]? = W.heap[R]?):ei_ W' R n ys svs:=by
 obtain⟨h0,cur,h1,h2⟩:=h;exact⟨h0,cur,hb.trans h1,h2⟩
theorem ei_.cell {W:World}{R n:Nat}{ys:List Ty}{svs:List Value}(h:ei_ W R n ys svs)(o:Nat)(ho:o<n*4):∃ v,W.cell? ⟨R,o,none⟩=some v:=by
 obtain⟨_,cur,h1,h2,_⟩:=h;exact⟨cur[o],by rw[cell_of_row W R o cur _ (0,0) h1];exact Array.getElem?_eq_getElem (by omega)⟩
theorem ei_.fr {W:World}{R n:Nat}{ys:List Ty}{svs:List Value}(h:ei_ W R n ys svs)(o:Nat):W.frozen? ⟨R,o,none⟩=false:=by
 obtain⟨_,cur,h1,_⟩:=h;simp[World.frozen?,h1]
theorem take4 (l:List Value)(k:Nat)(h:k*4+4≤l.length)(a b c d:Value) :
  ((((l.set (k*4) a).set (k*4+1) b).set (k*4+2) c).set (k*4+3) d).take ((k+1)*4)=l.take (k*4)++[a,b,c,d]:=by
 apply List.ext_getElem?;intro i;rw[List.getElem?_take,List.getElem?_append,List.getElem?_take];have hl:(l.take (k*4)).length=k*4:=by rw[List.length_take];omega
 rw[hl]
 by_cases h1:i<k*4
 ·rw[if_pos (by omega),if_pos h1,if_pos h1,List.getElem?_set_ne (by omega),List.getElem?_set_ne (by omega),List.getElem?_set_ne (by omega),List.getElem?_set_ne (by omega)]
 ·rw[if_neg h1]
  by_cases h2:i<(k+1)*4
  ·rw[if_pos h2]
   obtain⟨j,rfl⟩:∃ j,i=k*4+j:=⟨i - k*4,by omega⟩;have hj:j<4:=(by omega);rw[Nat.add_sub_cancel_left]
   match j,hj with
   | 0,_=>simp[show k*4<l.length by omega]
   | 1,_=>simp[show k*4+1<l.length by omega]
   | 2,_=>simp[show k*4+2<l.length by omega]
   | 3,_=>simp[show k*4+3<l.length by omega]
  ·rw[if_neg h2,List.getElem?_eq_none (by simp;omega)]
theorem ei_.put {W:World}{R n:Nat}{ys:List Ty}{svs:List Value}(h:ei_ W R n ys svs)(hn:ys.length<n)(y:Ty)(sv:Value) :
  ei_ ((((W.setCell ⟨R,ys.length*4,none⟩ (.int .i64 y.kind)).setCell ⟨R,ys.length*4+1,none⟩ (.string y.name)).setCell ⟨R,ys.length*4+2,none⟩ (.int .i64 y.n)).setCell ⟨R,ys.length*4+3,none⟩ sv) R n (ys++[y]) (svs++[sv]):=by
 obtain⟨h0,cur,h1,h2,h3⟩:=h;refine⟨by simp[h0],_,ak_ (ak_ (ak_ (ak_ h1 _) _) _) _,by simpa using h2,?_⟩;rw[List.length_append,List.length_singleton,eu_ _ _ _ _ h0,← h3];simp only[Array.toList_setIfInBounds];exact take4 _ _ (by rw[Array.length_toList];show ys.length*4+4≤cur.size;omega) _ _ _ _
theorem ei_.args {S:Nat→Prop}{W:World}{R n:Nat}{ys:List Ty}{svs:List Value}(h:ei_ W R n ys svs)(hn:ys.length=n)(hl:n≤9223372036854775807)(hR:S R)(ha:∀ (j:Nat) (t:Ty) (sv:Value),ys[j]? = some t→svs[j]? = some sv→ac_ S W sv t.args) :
  ac_ S W (.slice (some ⟨R,0,none⟩) ys.length n) ys:=by
 obtain⟨h0,cur,h1,h2,h3⟩:=h;refine .mk R 0 n ys (fun i=>svs.getD i (.slice none 0 0)) hR (by omega) (fun i hi=>?_) (fun i hi=>?_)
 ·have hi':i<svs.length:=by rw[h0];exact hi
  obtain⟨a0,a1,a2,a3⟩:=eK_ ys svs h0 i hi hi';rw[← h3] at a0 a1 a2 a3;have get:∀ o v,(cur.toList.take (ys.length*4))[o]? = some v→W.cell? ⟨R,o,none⟩=some v:=fun o v hv=>by
   rw[cell_of_row W R o cur _ (0,0) h1];rw[List.getElem?_take] at hv
   split at hv
   ·simpa using hv
   ·cases hv
  simp only[Nat.zero_add];rw[List.getD_eq_getElem?_getD,List.getElem?_eq_getElem hi'];exact⟨get _ _ a0,get _ _ a1,get _ _ a2,get _ _ a3⟩
 ·have hi':i<svs.length:=by rw[h0];exact hi
  simp only[List.getD_eq_getElem?_getD,List.getElem?_eq_getElem hi',Option.getD_some];exact ha i _ _ (List.getElem?_eq_getElem hi) (List.getElem?_eq_getElem hi')
theorem pD_ (n:Nat)(hn:n≤4500000000000):∃ M:Array Value,M.size=n*4∧∀ W:World,(Instr.makeSlice 28 (.int .i64 (n:Int)) (.int .i64 (n:Int))).run Tryz.prog W=.ok (.slice (some ⟨W.heap.size,0,none⟩) n n) (W.alloc (.cells M 30)):=by
 obtain⟨i0,hi0,hz0,hz1,hz3⟩:=info_parts hY_;refine⟨madeCells (Value.cells (.agg #[.int .i64 0,.string ByteArray.empty,.int .i64 0,.slice none 0 0])) (n*4),size_madeCells _ _,fun W=>?_⟩;have:=run_make (P:=Tryz.prog) W 28 30 i0 _ Tryz.underlying28 hi0 hz0 .i64 .i64 (n:Int) (n:Int) (by omega) (Int.le_refl _) (by rw[hz3];omega) (by omega);rw[hz1] at this;simpa using this
theorem ei_.new {W:World}{M:Array Value}{n R:Nat}(hM:M.size=n*4)(hR:W.heap.size=R):ei_ (W.alloc (.cells M 30)) R n [] [] :=
 ⟨rfl,M,by subst hR;exact heap_alloc_new W _,hM,by simp[bQ_]⟩
end
end Go.Proofs.YtkihnodkhnahiaaGreatDoor.Tp

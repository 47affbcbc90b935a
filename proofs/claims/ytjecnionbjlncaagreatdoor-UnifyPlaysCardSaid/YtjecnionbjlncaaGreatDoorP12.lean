/- Packed. -/
import Derived.Test.YtjecnionbjlncaaGreatDoorP11
set_option maxRecDepth 100000
set_option maxHeartbeats 6400000
namespace Go.Proofs.YtjecnionbjlncaaGreatDoor.Tp
section
theorem js_ (l:List UInt8)(c:UInt8):e6_ (l++[c])=10*e6_ l+(c.toNat - 48):=by simp[e6_,List.foldl_append]
theorem fs_ (u:Nat):e6_ (Lib.decDigits u)=u:=by
 induction u using Nat.strongRecOn with
 | _ u ih =>
  rw[Lib.decDigits];have dig:∀ d,d<10→(UInt8.ofNat (48+d)).toNat - 48=d:=fun d hd=>by
   rw[UInt8.toNat_ofNat'];omega
  split
  ·next h=>simp only[e6_,List.foldl_cons,List.foldl_nil];rw[dig u h];omega
  ·next h=>rw[js_,ih (u / 10) (by omega),dig (u % 10) (by omega)];omega
theorem iw_ {a b:Nat}(h:Lib.itoa (a:Int)=Lib.itoa (b:Int)):a=b:=by
 rw[Lib.itoa_nonneg,Lib.itoa_nonneg] at h;rw[← fs_ a,h,fs_]
def aR_ (n:Nat):ByteArray:=⟨#[120]⟩++ab_ (Lib.itoa (n:Int))
def dO_ (nm:ByteArray)(i:Nat):ByteArray:=nm.extract 0 1++⟨#[95]⟩++ab_ (Lib.itoa (i:Int))
theorem fD_ {a b:List UInt8}(h:ab_ a=ab_ b):a=b:=by
 have:=congrArg (fun x=>x.data.toList) h;exact this
theorem kJ_ {p a b:ByteArray}(h:p++a=p++b):a=b:=by
 have:=congrArg (fun x=>x.data.toList) h;simp at this;exact ByteArray.ext this
theorem dH_ {a b:Nat}(h:aR_ a=aR_ b):a=b:=iw_ (fD_ (kJ_ h))
theorem gZ_ {nm:ByteArray}{a b:Nat}(h:dO_ nm a=dO_ nm b):a=b:=iw_ (fD_ (kJ_ h))
theorem b8_ (l:List ByteArray)(x:ByteArray):cR_ l x=false↔x∉l:=by
 rw[← Bool.not_eq_true,b7_]
def dw_ (f:Nat→ByteArray)(but:List ByteArray):Nat→Nat→Nat
 | 0,i=>i
 | k+1,i=>if cR_ but (f i) then dw_ f but k (i+1) else i
theorem nQ_ (f:Nat→ByteArray)(hf:∀ a b,f a=f b→a=b):∀ (k:Nat) (but:List ByteArray) (i:Nat),(∀ j,j<k→f (i+j)∈but)→k≤but.length:=by
 intro k
 induction k with
 | zero=>intro but i _;omega
 | succ k ih =>
  intro but i h;have h1:=ih (but.filter fun y=>decide (y.data≠(f i).data)) (i+1) fun j hj=>by
   refine List.mem_filter.2 ⟨by have:=h (j+1) (by omega);rwa [show i+(j+1)=i+1+j by omega] at this,?_⟩;simp only[decide_eq_true_eq];intro e;have:=hf _ _ (ByteArray.ext e);omega
  have h2:(but.filter fun y=>decide (y.data≠(f i).data)).length<but.length :=
   List.length_filter_lt_length_iff_exists.2 ⟨f i,by simpa using h 0 (by omega),by simp⟩
  omega
theorem g2_ (f:Nat→ByteArray)(but:List ByteArray):∀ (k i r:Nat),i≤r→r<i+k→(∀ j,i≤j→j<r→cR_ but (f j)=true)→cR_ but (f r)=false→dw_ f but k i=r:=by
 intro k
 induction k with
 | zero=>intro i r h1 h2;omega
 | succ k ih =>
  intro i r h1 h2 h3 h4;rw[dw_]
  by_cases e:i=r
  ·subst e;rw[h4];rfl
  ·rw[if_pos (h3 i (Nat.le_refl _) (by omega))]
   exact ih (i+1) r (by omega) (by omega) (fun j hj hj'=>h3 j (by omega) hj') h4
theorem oj_ (f:Nat→ByteArray)(hf:∀ a b,f a=f b→a=b)(but:List ByteArray)(i:Nat):∃ r,i≤r∧r≤i+but.length∧(∀ j,i≤j→j<r→cR_ but (f j)=true)∧cR_ but (f r)=false:=by
 have key:∀ n,(∃ r,i≤r∧r<i+n∧(∀ j,i≤j→j<r→cR_ but (f j)=true)∧cR_ but (f r)=false)∨∀ j,j<n→cR_ but (f (i+j))=true:=by
  intro n
  induction n with
  | zero=>exact .inr fun j hj=>by omega
  | succ n ih =>
   rcases ih with ⟨r,h1,h2,h3⟩|h
   ·exact .inl ⟨r,h1,by omega,h3⟩
   ·cases hb:cR_ but (f (i+n)) with
    | false =>
     refine .inl ⟨i+n,by omega,by omega,fun j hj hj'=>?_,hb⟩;have:=h (j - i) (by omega);rwa [show i+(j - i)=j by omega] at this
    | true =>
     refine .inr fun j hj=>?_
     by_cases e:j=n
     ·subst e;exact hb
     ·exact h j (by omega)
 rcases key (but.length+1) with ⟨r,h1,h2,h3,h4⟩|h
 ·exact⟨r,h1,by omega,h3,h4⟩
 ·have:=nQ_ f hf (but.length+1) but i fun j hj=>(b7_ _ _).1 (h j hj)
  omega
theorem bV_ (f:Nat→ByteArray)(hf:∀ a b,f a=f b→a=b)(but:List ByteArray)(i:Nat) :
  i≤dw_ f but (but.length+1) i∧dw_ f but (but.length+1) i≤i+but.length∧(∀ j,i≤j→j<dw_ f but (but.length+1) i→cR_ but (f j)=true)∧cR_ but (f (dw_ f but (but.length+1) i))=false:=by
 obtain⟨r,h1,h2,h3,h4⟩:=oj_ f hf but i;rw[g2_ f but (but.length+1) i r h1 (by omega) h3 h4];exact⟨h1,h2,h3,h4⟩
def bi_ (nm:ByteArray)(but:List ByteArray):ByteArray:=dO_ nm (dw_ (dO_ nm) but (but.length+1) 0)
def ck_ (free:List ByteArray)(n:Nat):Nat:=dw_ aR_ free (free.length+1) n
theorem eK_ (nm:ByteArray)(but:List ByteArray):bi_ nm but∉but:=(b8_ _ _).1 (bV_ (dO_ nm) (fun _ _=>gZ_) but 0).2.2.2
theorem n7_ (free:List ByteArray)(n:Nat):aR_ (ck_ free n)∉free:=(b8_ _ _).1 (bV_ aR_ (fun _ _=>dH_) free n).2.2.2
def eqN (a b:ByteArray):Bool:=decide (a.data=b.data)
theorem aN_ (a b:ByteArray):eqN a b=true↔a=b:=by
 unfold eqN;rw[decide_eq_true_eq];exact⟨ByteArray.ext,fun h=>by rw[h]⟩
theorem fA_ (a b:ByteArray):eqN a b=false↔a≠b:=by rw[← Bool.not_eq_true,aN_]
def i1_ (t:Ty)(args:List Ty):Ty:=.mk t.kind t.name t.n args
def cB_ (t:Ty):Ty:=match t.args with|a :: _=>a | []=>t
def b6_ (s:ByteArray)(x:Ty):Ty:=.mk 5 s 0 [x]
def cc_:Nat→ByteArray→ByteArray→Ty→Ty
 | 0,_,_,t=>t
 | d+1,fr,to,t =>
  if t.kind==1&&eqN t.name fr then .mk t.kind to t.n t.args
  else if t.kind==5&&eqN t.name fr then t
  else if t.kind==5&&eqN t.name to then b6_ (bi_ to (af_ (cB_ t)++[fr,to])) (cc_ d fr to (cc_ d to (bi_ to (af_ (cB_ t)++[fr,to])) (cB_ t)))
  else i1_ t (t.args.map (cc_ d fr to))
def cn_ (fr to:ByteArray)(t:Ty):Ty:=cc_ t.depth fr to t
mutual
def Nm:Ty→Prop
 | .mk k s _ args=>((k=5→1≤s.size)∧s.size≤64)∧NmL args
def NmL:List Ty→Prop
 | []=>True
 | t :: ts=>Nm t∧NmL ts
end
theorem sW_ (ts:List Ty):NmL ts↔∀ t∈ts,Nm t:=by
 induction ts with
 | nil=>simp[NmL]
 | cons t ts ih=>rw[NmL,ih];simp
theorem bY_ (t:Ty):Nm t↔((t.kind=5→1≤t.name.size)∧t.name.size≤64)∧∀ a∈t.args,Nm a:=by
 cases t with
 | mk k s n args=>rw[Nm,sW_];rfl
def ba_ (t:Ty):Prop:=Wf t∧Nm t
theorem hX_ (f:Ty→Ty)(ts:List Ty)(h:∀ t∈ts,(f t).depth=t.depth):aD_ (ts.map f)=aD_ ts:=by
 induction ts with
 | nil=>rfl
 | cons t ts ih=>rw[List.map_cons,aD_,aD_,h t (by simp),ih fun u hu=>h u (by simp[hu])]
theorem fj_ (f:Ty→Ty)(ts:List Ty)(h:∀ t∈ts,(f t).size=t.size):ag_ (ts.map f)=ag_ ts:=by
 induction ts with
 | nil=>rfl
 | cons t ts ih=>rw[List.map_cons,ag_,ag_,h t (by simp),ih fun u hu=>h u (by simp[hu])]
theorem i2_ {t:Ty}(h:Wf t)(hk:t.kind=5):∃ x,t.args=[x]∧cB_ t=x:=by
 have:t.args.length=1:=by rcases ((a3_ t).1 h).1 with h|h|h|h|h<;>first|omega|exact h.2
 match hl:t.args,this with
 | [x],_=>exact⟨x,rfl,by unfold cB_;rw[hl]⟩
theorem cJ_ (nm:ByteArray)(but:List ByteArray)(hb:but.length≤4500000000000)(h:1≤nm.size):1≤(bi_ nm but).size∧(bi_ nm but).size≤64:=by
 have hf:=bV_ (dO_ nm) (fun _ _=>gZ_) but 0;unfold bi_;generalize dw_ (dO_ nm) but (but.length+1) 0=k at *;have h2:=Lib.itoa_length_le (k:Int) (by omega) (by omega);unfold dO_;rw[ByteArray.size_append,ByteArray.size_append,ByteArray.size_extract];have h3:(⟨#[95]⟩:ByteArray).size=1:=rfl;have h4:(ab_ (Lib.itoa (k:Int))).size=(Lib.itoa (k:Int)).length:=by simp[ab_,ByteArray.size]
 omega
theorem gY_:∀ (t:Ty) (out ns:List ByteArray),(bB_ ak_ t out ns).length≤out.length+t.size:=by
 intro t
 induction t using Ty.ind with
 | h t ih =>
  intro out ns;rw[bF_,t.size_eq];have h1:(ak_ out t ns).length≤out.length+1:=by unfold ak_;split<;>simp
  have:∀ (l:List Ty) (out ns),(∀ a∈l,∀ (out ns:List ByteArray),(bB_ ak_ a out ns).length≤out.length+a.size)→(a1_ ak_ l out ns).length≤out.length+ag_ l:=by
   intro l
   induction l with
   | nil=>intro out ns _;simp[a1_,ag_]
   | cons a l ihl =>
    intro out ns h;rw[a1_,ag_];have:=ihl (bB_ ak_ a out ns) ns fun b hb=>h b (by simp[hb]);have:=h a (by simp) out ns;omega
  have:=this t.args (ak_ out t ns) (if t.kind=5 then t.name :: ns else ns) ih;omega
theorem bq_ (t:Ty):(af_ t).length≤t.size:=by have:=gY_ t [] [];simpa [af_] using this
theorem jk_:∀ (d:Nat) (fr to:ByteArray) (t:Ty),t.depth≤d→ba_ t→to.size≤64→t.size≤4499999999224 →
  (cc_ d fr to t).depth=t.depth∧(cc_ d fr to t).size=t.size∧ba_ (cc_ d fr to t)∧(cc_ d fr to t).kind=t.kind:=by
 intro d
 induction d with
 | zero=>intro fr to t h;rw[t.depth_eq] at h;omega
 | succ d ih =>
  intro fr to t h hg hto hs;have hwf:=(a3_ t).1 hg.1;have hnm:=(bY_ t).1 hg.2;have hd:∀ a∈t.args,a.depth≤d:=fun a ha=>by have:=aI_ _ ha;rw[t.depth_eq] at h;omega
  have hsz:∀ a∈t.args,a.size≤4499999999224:=fun a ha=>by have:=a7_ _ ha;rw[t.size_eq] at hs;omega
  rw[cc_]
  split
  ·next hc =>
   have hk:t.kind=1:=by simp at hc;exact hc.1
   refine⟨by rw[Ty.depth_eq,Ty.depth_eq];rfl,by rw[Ty.size_eq,Ty.size_eq];rfl,⟨?_,?_⟩,rfl⟩
   ·exact (a3_ _).2 hwf
   ·exact (bY_ _).2 ⟨⟨fun e=>by have:t.kind=5:=e;omega,hto⟩,hnm.2⟩
  ·split
   ·exact⟨rfl,rfl,hg,rfl⟩
   ·split
    ·next hc =>
     have hk:t.kind=5:=by simp at hc;exact hc.1
     have hn:t.name=to:=by simp only[Bool.and_eq_true] at hc;exact (aN_ _ _).1 hc.2
     obtain⟨x,hx,hx0⟩:=i2_ hg.1 hk;rw[hx0];have hx1:x∈t.args:=by rw[hx];simp
     have hfl:=bq_ x;have hfs:=cJ_ to (af_ x++[fr,to]) (by have:=hsz x hx1;simp;omega) (by rw[← hn];exact hnm.1.1 hk);obtain⟨a1,a2,a3,a4⟩:=ih to (bi_ to (af_ x++[fr,to])) x (hd x hx1) ⟨hwf.2 x hx1,hnm.2 x hx1⟩ hfs.2 (hsz x hx1);obtain⟨b1,b2,b3,b4⟩:=ih fr to (cc_ d to (bi_ to (af_ x++[fr,to])) x) (by rw[a1];exact hd x hx1) a3 hto (by rw[a2];exact hsz x hx1);refine⟨?_,?_,⟨?_,?_⟩,hk.symm⟩
     ·rw[Ty.depth_eq,t.depth_eq,hx];show aD_ [_]+1=_;rw[aD_,aD_,aD_,aD_,b1,a1]
     ·rw[Ty.size_eq,t.size_eq,hx];show ag_ [_]+1=_;rw[ag_,ag_,ag_,ag_,b2,a2]
     ·exact (a3_ _).2 ⟨.inr (.inr (.inr (.inr ⟨rfl,rfl⟩))),fun a ha=>by obtain rfl:=List.mem_singleton.1 ha;exact b3.1⟩
     ·exact (bY_ _).2 ⟨⟨fun _=>hfs.1,hfs.2⟩,fun a ha=>by obtain rfl:=List.mem_singleton.1 ha;exact b3.2⟩
    ·have hi:=fun a (ha:a∈t.args)=>ih fr to a (hd a ha) ⟨hwf.2 a ha,hnm.2 a ha⟩ hto (hsz a ha)
     refine⟨?_,?_,⟨?_,?_⟩,rfl⟩
     ·rw[Ty.depth_eq,t.depth_eq];show aD_ (t.args.map _)+1=_;rw[hX_ _ _ fun a ha=>(hi a ha).1]
     ·rw[Ty.size_eq,t.size_eq];show ag_ (t.args.map _)+1=_;rw[fj_ _ _ fun a ha=>(hi a ha).2.1]
     ·refine (a3_ _).2 ⟨?_,fun a ha=>?_⟩
      ·show (t.kind=1∧t.args.map _=[]∨t.kind=2∧t.args.map _=[]∧_∨t.kind=3∨t.kind=4∧(t.args.map _).length=2∨t.kind=5∧(t.args.map _).length=1)
       rw[List.map_eq_nil_iff,List.length_map];exact hwf.1
      ·obtain⟨b,hb,rfl⟩:=List.mem_map.1 ha
       exact (hi b hb).2.2.1.1
     ·refine (bY_ _).2 ⟨hnm.1,fun a ha=>?_⟩
      obtain⟨b,hb,rfl⟩:=List.mem_map.1 ha;exact (hi b hb).2.2.1.2
theorem jq_ (b:Bool)(p:List UInt8):(cd_ b p).length≤p.length+2:=by
 unfold cd_;split<;>simp
theorem qj_ (l:List Ty)(h:∀ a∈l,(ac_ a).length+4≤80*a.size):((l.zip (l.map ac_)).flatMap fun x=>32 :: cd_ x.1.atomic x.2).length≤80*ag_ l:=by
 induction l with
 | nil=>simp[ag_]
 | cons a l ih =>
  simp only[List.map_cons,List.zip_cons_cons,List.flatMap_cons,List.length_append,List.length_cons,ag_];have:=ih fun b hb=>h b (by simp[hb]);have:=h a (by simp);have:=jq_ a.atomic (ac_ a);omega
theorem hJ_:∀ t:Ty,ba_ t→(ac_ t).length+4≤80*t.size:=by
 intro t
 induction t using Ty.ind with
 | h t ih =>
  intro hg;have hwf:=(a3_ t).1 hg.1;have hnm:=(bY_ t).1 hg.2;have hi:=fun a ha=>ih a ha ⟨hwf.2 a ha,hnm.2 a ha⟩;have hn:t.name.data.toList.length≤64:=hnm.1.2;rw[bo_,t.size_eq];unfold gc_
  rcases hwf.1 with h|h|h|h|h
  ·rw[if_neg (by omega),if_neg (by omega),if_neg (by omega),if_neg (by omega)];omega
  ·rw[if_pos h.1]
   have:=Lib.itoa_length_le t.n (by omega) (by omega);simp only[List.length_cons];omega
  ·rw[if_neg (by omega),if_pos h,List.length_append]
   have:=qj_ t.args hi;omega
  ·rw[if_neg (by omega),if_neg (by omega),if_pos h.1]
   match hl:t.args,h.2 with
   | [x,y],_ =>
    have h1:=hi x (by rw[hl];simp);have h2:=hi y (by rw[hl];simp);have:=jq_ (decide (x.kind<4)) (ac_ x);simp only[List.map_cons,List.map_nil,List.length_append,ag_,List.length_cons,List.length_nil];omega
  ·rw[if_neg (by omega),if_neg (by omega),if_neg (by omega),if_pos h.1]
   match hl:t.args,h.2 with
   | [x],_ =>
    have h1:=hi x (by rw[hl];simp);simp only[List.map_cons,List.map_nil,List.length_append,ag_];have h7:dg_.length=7:=rfl
    split
    ·simp only[List.length_cons,List.length_drop];omega
    ·simp only[List.length_append,List.length_cons,List.length_nil];omega
end
section
open Go.RowKit
open Lx
theorem dV_ {w:World}{a:OA_}{c:Nat}{l:List Tok}(ht:bI_ w (.slice a l.length c) l){i:Nat}(hi:i<l.length) :
  ∃ b off,a=some ⟨b,off,none⟩∧w.cell? ⟨b,off+i*3,none⟩=some (.int .i64 l[i].kind)∧w.cell? ⟨b,off+i*3+1,none⟩=some (.string ⟨l[i].text.toArray⟩):=by
 obtain⟨a',c',e,hl,h0|⟨b,off,rfl,hc⟩⟩:=ht
 ·rw[h0] at hi;simp at hi
 ·injection e with e1 e2 e3
  obtain⟨h1,h2,_⟩:=hc i hi;exact⟨b,off,e1,h1,h2⟩
theorem fb_ {l:List Tok}{i:Nat}(hi:i<l.length):l.drop i=l[i] :: l.drop (i+1):=List.drop_eq_getElem_cons hi
theorem gV_ (k:Nat)(s:List UInt8)(w:World)(a:OA_)(c:Nat)(l:List Tok)(i:Nat)(ht:bI_ w (.slice a l.length c) l)(hi:i≤l.length) :
  Calls Tryz.prog 95 #[.slice a l.length c,.int .i64 i,.int .i64 (k:Int),.string ⟨s.toArray⟩] w fun e w'=>e=.returned (.bool (cP_ (l.drop i) k s))∧w=w':=by
 by_cases hlt:i<l.length
 ·obtain⟨b,off,rfl,c0,c1⟩:=dV_ ht hlt
  have HK:=hid (show cP_ (l.drop i) k s=(l[i].kind==k&&(s.isEmpty || l[i].text==s)) by rw[fb_ hlt];rfl);have z0:(0:Int)≤(i:Int):=by omega
  have z1:(i:Int)<(l.length:Int):=by omega
  clear ht;generalize l[i]=t at *
  by_cases h1:t.kind=k
  ·have e1:((t.kind:Int)==(k:Int))=true:=by rw[h1];simp
   have H1:=hid h1;clear h1
   by_cases h2:s=[]
   ·subst h2
    go_enter Tryz.func95,Tryz.ntmps95;go_wp2;go_ret;exact⟨aS_ (by rw[HK.out,H1.out];simp),rfl⟩
   ·have h3:s.isEmpty=false:=by simpa using h2
    have H3:=hid h3;clear h2;go_enter Tryz.func95,Tryz.ntmps95;go_wp2;go_ret;exact⟨aS_ (by rw[HK.out,H1.out,H3.out];simp),rfl⟩
  ·have e1:((t.kind:Int)==(k:Int))=false:=by rw[beq_eq_false_iff_ne];omega
   have H1:Hid ((t.kind==k)=false):=hid (by rw[beq_eq_false_iff_ne];exact h1);clear h1;go_enter Tryz.func95,Tryz.ntmps95;go_wp2;go_ret;exact⟨aS_ (by rw[HK.out,H1.out];rfl),rfl⟩
 ·obtain rfl:i=l.length:=by omega
  have HK:=hid (show cP_ (l.drop l.length) k s=false by rw[List.drop_length];rfl);have z1:¬ (l.length:Int)<(l.length:Int):=by omega
  clear ht hlt;generalize l.length=n at *;go_enter Tryz.func95,Tryz.ntmps95;go_wp2;go_ret;exact⟨aS_ HK.out.symm,rfl⟩
theorem n3_ (l:List UInt8)(k:Nat)(h:k<l.length):e6_ (l.take (k+1))=10*e6_ (l.take k)+(l[k].toNat - 48):=by
 rw[List.take_add_one,List.getElem?_eq_getElem h];exact js_ _ _
theorem pu_ (l:List UInt8)(h:∀ c∈l,aH_ c=true):e6_ l<10 ^ l.length:=by
 have:∀ (l:List UInt8) (n:Nat),(∀ c∈l,aH_ c=true)→l.foldl (fun n c=>10*n+(c.toNat - 48)) n<(n+1)*10 ^ l.length:=by
  intro l
  induction l with
  | nil=>intro n _;simp
  | cons c l ih =>
   intro n h;rw[List.foldl_cons,List.length_cons];refine aU_ (ih _ fun d hd=>h d (by simp[hd])) ?_;have hc:=h c (by simp);unfold aH_ at hc;simp only[decide_eq_true_eq] at hc;rw[Nat.pow_succ,Nat.mul_comm (10 ^ l.length) 10,← Nat.mul_assoc];refine Nat.mul_le_mul_right _ ?_;omega
 have:=this l 0 h;unfold e6_;omega
theorem nr_ (s:ByteArray)(w:World)(hs:s.size≤6)(hd:∀ c∈s.data.toList,aH_ c=true) :
  Calls Tryz.prog 154 #[.string s] w fun e w'=>e=.returned (.int .i64 (e6_ s.data.toList:Int))∧w=w':=by
 have hlen:s.data.toList.length=s.size:=by rw[Array.length_toList];rfl
 have HL:=hid hlen;have HD:=hid hd;clear hlen hd;go_enter Tryz.func154,Tryz.ntmps154;go_wp2
 go_loop [3,4] (fun x i=>∃ k:Nat,i=.int .i64 k∧k≤s.size∧x=.int .i64 (e6_ (s.data.toList.take k):Int)) (fun _ i=>s.size - (intOf i).toNat)
 case atStart=>exact⟨0,rfl,Nat.zero_le _,rfl⟩
 case round =>
  obtain⟨k,rfl,hk,rfl⟩:=hrel
  by_cases hlt:k<s.size
  ·have z0:(0:Int)≤(k:Int):=by omega
   have z1:(k:Int)<(s.size:Int):=(by omega);have hkl:k<s.data.toList.length:=by rw[HL.out];exact hlt
   have st:=hid (n3_ s.data.toList k hkl);have hb:=pu_ (s.data.toList.take k) (fun c hc=>HD.out c (List.mem_of_mem_take hc));have hp:10 ^ (s.data.toList.take k).length≤10 ^ 6:=Nat.pow_le_pow_right (by omega) (by rw[List.length_take];omega);have hdc:=HD.out _ (List.getElem_mem hkl);have eg:s.data.toList[k]=s[k]'hlt:=rfl;rw[eg] at st hdc;unfold aH_ at hdc;simp only[decide_eq_true_eq] at hdc;obtain⟨d1,d2⟩:=hdc;have b1:e6_ (s.data.toList.take k)<1000000:=(by omega);have ST:=hid st.out;clear st hb hp eg hkl;generalize e6_ (s.data.toList.take k)=x at *;go_wp2;go_round
   case rel=>exact⟨k+1,by go_num,by omega,by rw[ST.out];congr 1;omega⟩
   case measure=>simp[intOf];omega
  ·obtain rfl:k=s.size:=by omega
   have E:Hid (s.data.toList.take s.size=s.data.toList):=hid (by rw[← HL.out,List.take_length]);go_wp2;go_ret;exact⟨bv_ (by rw[E.out]),rfl⟩
end
end Go.Proofs.YtjecnionbjlncaaGreatDoor.Tp

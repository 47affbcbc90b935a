/- Packed. -/
import Derived.Test.YtjecnionbjlncaaGreatDoorP12
set_option maxRecDepth 100000
set_option maxHeartbeats 6400000
namespace Go.Proofs.YtjecnionbjlncaaGreatDoor.Tp
section
theorem iV_ (l:List UInt8)(c:UInt8):eT_ (l++[c])=10*eT_ l+(c.toNat - 48):=by simp[eT_,List.foldl_append]
theorem e8_ (u:Nat):eT_ (Lib.decDigits u)=u:=by
 induction u using Nat.strongRecOn with
 | _ u ih =>
  rw[Lib.decDigits];have dig:∀ d,d<10→(UInt8.ofNat (48+d)).toNat - 48=d:=fun d hd=>by
   rw[UInt8.toNat_ofNat'];omega
  split
  ·next h=>simp only[eT_,List.foldl_cons,List.foldl_nil];rw[dig u h];omega
  ·next h=>rw[iV_,ih (u / 10) (by omega),dig (u % 10) (by omega)];omega
theorem kD_ {a b:Nat}(h:Lib.itoa (a:Int)=Lib.itoa (b:Int)):a=b:=by
 rw[Lib.itoa_nonneg,Lib.itoa_nonneg] at h;rw[← e8_ a,h,e8_]
def aO_ (n:Nat):ByteArray:=⟨#[120]⟩++ab_ (Lib.itoa (n:Int))
def dE_ (nm:ByteArray)(i:Nat):ByteArray:=nm.extract 0 1++⟨#[95]⟩++ab_ (Lib.itoa (i:Int))
theorem gS_ {a b:List UInt8}(h:ab_ a=ab_ b):a=b:=by
 have:=congrArg (fun x=>x.data.toList) h;exact this
theorem nz_ {p a b:ByteArray}(h:p++a=p++b):a=b:=by
 have:=congrArg (fun x=>x.data.toList) h;simp at this;exact ByteArray.ext this
theorem dv_ {a b:Nat}(h:aO_ a=aO_ b):a=b:=kD_ (gS_ (nz_ h))
theorem gG_ {nm:ByteArray}{a b:Nat}(h:dE_ nm a=dE_ nm b):a=b:=kD_ (gS_ (nz_ h))
theorem ct_ (l:List ByteArray)(x:ByteArray):dM_ l x=false↔x∉l:=by
 rw[← Bool.not_eq_true,b7_]
def dF_ (f:Nat→ByteArray)(but:List ByteArray):Nat→Nat→Nat
 | 0,i=>i
 | k+1,i=>if dM_ but (f i) then dF_ f but k (i+1) else i
theorem mM_ (f:Nat→ByteArray)(hf:∀ a b,f a=f b→a=b):∀ (k:Nat) (but:List ByteArray) (i:Nat),(∀ j,j<k→f (i+j)∈but)→k≤but.length:=by
 intro k
 induction k with
 | zero=>intro but i _;omega
 | succ k ih =>
  intro but i h;have h1:=ih (but.filter fun y=>decide (y.data≠(f i).data)) (i+1) fun j hj=>by
   refine List.mem_filter.2 ⟨by have:=h (j+1) (by omega);rwa [show i+(j+1)=i+1+j by omega] at this,?_⟩;simp only[decide_eq_true_eq];intro e;have:=hf _ _ (ByteArray.ext e);omega
  have h2:(but.filter fun y=>decide (y.data≠(f i).data)).length<but.length :=
   List.length_filter_lt_length_iff_exists.2 ⟨f i,by simpa using h 0 (by omega),by simp⟩
  omega
theorem gK_ (f:Nat→ByteArray)(but:List ByteArray):∀ (k i r:Nat),i≤r→r<i+k→(∀ j,i≤j→j<r→dM_ but (f j)=true)→dM_ but (f r)=false→dF_ f but k i=r:=by
 intro k
 induction k with
 | zero=>intro i r h1 h2;omega
 | succ k ih =>
  intro i r h1 h2 h3 h4;rw[dF_]
  by_cases e:i=r
  ·subst e;rw[h4];rfl
  ·rw[if_pos (h3 i (Nat.le_refl _) (by omega))]
   exact ih (i+1) r (by omega) (by omega) (fun j hj hj'=>h3 j (by omega) hj') h4
theorem nh_ (f:Nat→ByteArray)(hf:∀ a b,f a=f b→a=b)(but:List ByteArray)(i:Nat):∃ r,i≤r∧r≤i+but.length∧(∀ j,i≤j→j<r→dM_ but (f j)=true)∧dM_ but (f r)=false:=by
 have key:∀ n,(∃ r,i≤r∧r<i+n∧(∀ j,i≤j→j<r→dM_ but (f j)=true)∧dM_ but (f r)=false)∨∀ j,j<n→dM_ but (f (i+j))=true:=by
  intro n
  induction n with
  | zero=>exact .inr fun j hj=>by omega
  | succ n ih =>
   rcases ih with ⟨r,h1,h2,h3⟩|h
   ·exact .inl ⟨r,h1,by omega,h3⟩
   ·cases hb:dM_ but (f (i+n)) with
    | false =>
     refine .inl ⟨i+n,by omega,by omega,fun j hj hj'=>?_,hb⟩;have:=h (j - i) (by omega);rwa [show i+(j - i)=j by omega] at this
    | true =>
     refine .inr fun j hj=>?_
     by_cases e:j=n
     ·subst e;exact hb
     ·exact h j (by omega)
 rcases key (but.length+1) with ⟨r,h1,h2,h3,h4⟩|h
 ·exact⟨r,h1,by omega,h3,h4⟩
 ·have:=mM_ f hf (but.length+1) but i fun j hj=>(b7_ _ _).1 (h j hj)
  omega
theorem cv_ (f:Nat→ByteArray)(hf:∀ a b,f a=f b→a=b)(but:List ByteArray)(i:Nat) :
  i≤dF_ f but (but.length+1) i∧dF_ f but (but.length+1) i≤i+but.length∧(∀ j,i≤j→j<dF_ f but (but.length+1) i→dM_ but (f j)=true)∧dM_ but (f (dF_ f but (but.length+1) i))=false:=by
 obtain⟨r,h1,h2,h3,h4⟩:=nh_ f hf but i;rw[gK_ f but (but.length+1) i r h1 (by omega) h3 h4];exact⟨h1,h2,h3,h4⟩
def a2_ (nm:ByteArray)(but:List ByteArray):ByteArray:=dE_ nm (dF_ (dE_ nm) but (but.length+1) 0)
def b3_ (free:List ByteArray)(n:Nat):Nat:=dF_ aO_ free (free.length+1) n
theorem ez_ (nm:ByteArray)(but:List ByteArray):a2_ nm but∉but:=(ct_ _ _).1 (cv_ (dE_ nm) (fun _ _=>gG_) but 0).2.2.2
theorem m4_ (free:List ByteArray)(n:Nat):aO_ (b3_ free n)∉free:=(ct_ _ _).1 (cv_ aO_ (fun _ _=>dv_) free n).2.2.2
def eqN (a b:ByteArray):Bool:=decide (a.data=b.data)
theorem aH_ (a b:ByteArray):eqN a b=true↔a=b:=by
 unfold eqN;rw[decide_eq_true_eq];exact⟨ByteArray.ext,fun h=>by rw[h]⟩
theorem fi_ (a b:ByteArray):eqN a b=false↔a≠b:=by rw[← Bool.not_eq_true,aH_]
def ir_ (t:Ty)(args:List Ty):Ty:=.mk t.kind t.name t.n args
def cm_ (t:Ty):Ty:=match t.args with|a :: _=>a | []=>t
def bR_ (s:ByteArray)(x:Ty):Ty:=.mk 5 s 0 [x]
def bW_:Nat→ByteArray→ByteArray→Ty→Ty
 | 0,_,_,t=>t
 | d+1,fr,to,t =>
  if t.kind==1&&eqN t.name fr then .mk t.kind to t.n t.args
  else if t.kind==5&&eqN t.name fr then t
  else if t.kind==5&&eqN t.name to then bR_ (a2_ to (ai_ (cm_ t)++[fr,to])) (bW_ d fr to (bW_ d to (a2_ to (ai_ (cm_ t)++[fr,to])) (cm_ t)))
  else ir_ t (t.args.map (bW_ d fr to))
def b9_ (fr to:ByteArray)(t:Ty):Ty:=bW_ t.depth fr to t
mutual
def Nm:Ty→Prop
 | .mk k s _ args=>((k=5→1≤s.size)∧s.size≤64)∧NmL args
def NmL:List Ty→Prop
 | []=>True
 | t :: ts=>Nm t∧NmL ts
end
theorem rl_ (ts:List Ty):NmL ts↔∀ t∈ts,Nm t:=by
 induction ts with
 | nil=>simp[NmL]
 | cons t ts ih=>rw[NmL,ih];simp
theorem ci_ (t:Ty):Nm t↔((t.kind=5→1≤t.name.size)∧t.name.size≤64)∧∀ a∈t.args,Nm a:=by
 cases t with
 | mk k s n args=>rw[Nm,rl_];rfl
def aY_ (t:Ty):Prop:=Wf t∧Nm t
theorem hB_ (f:Ty→Ty)(ts:List Ty)(h:∀ t∈ts,(f t).depth=t.depth):ar_ (ts.map f)=ar_ ts:=by
 induction ts with
 | nil=>rfl
 | cons t ts ih=>rw[List.map_cons,ar_,ar_,h t (by simp),ih fun u hu=>h u (by simp[hu])]
theorem e4_ (f:Ty→Ty)(ts:List Ty)(h:∀ t∈ts,(f t).size=t.size):af_ (ts.map f)=af_ ts:=by
 induction ts with
 | nil=>rfl
 | cons t ts ih=>rw[List.map_cons,af_,af_,h t (by simp),ih fun u hu=>h u (by simp[hu])]
theorem is_ {t:Ty}(h:Wf t)(hk:t.kind=5):∃ x,t.args=[x]∧cm_ t=x:=by
 have:t.args.length=1:=by rcases ((bK_ t).1 h).1 with h|h|h|h|h<;>first|omega|exact h.2
 match hl:t.args,this with
 | [x],_=>exact⟨x,rfl,by unfold cm_;rw[hl]⟩
theorem cu_ (nm:ByteArray)(but:List ByteArray)(hb:but.length≤4500000000000)(h:1≤nm.size):1≤(a2_ nm but).size∧(a2_ nm but).size≤64:=by
 have hf:=cv_ (dE_ nm) (fun _ _=>gG_) but 0;unfold a2_;generalize dF_ (dE_ nm) but (but.length+1) 0=k at *;have h2:=Lib.itoa_length_le (k:Int) (by omega) (by omega);unfold dE_;rw[ByteArray.size_append,ByteArray.size_append,ByteArray.size_extract];have h3:(⟨#[95]⟩:ByteArray).size=1:=rfl;have h4:(ab_ (Lib.itoa (k:Int))).size=(Lib.itoa (k:Int)).length:=by simp[ab_,ByteArray.size]
 omega
theorem jJ_:∀ (t:Ty) (out ns:List ByteArray),(bZ_ ao_ t out ns).length≤out.length+t.size:=by
 intro t
 induction t using Ty.ind with
 | h t ih =>
  intro out ns;rw[cd_,t.size_eq];have h1:(ao_ out t ns).length≤out.length+1:=by unfold ao_;split<;>simp
  have:∀ (l:List Ty) (out ns),(∀ a∈l,∀ (out ns:List ByteArray),(bZ_ ao_ a out ns).length≤out.length+a.size)→(bB_ ao_ l out ns).length≤out.length+af_ l:=by
   intro l
   induction l with
   | nil=>intro out ns _;simp[bB_,af_]
   | cons a l ihl =>
    intro out ns h;rw[bB_,af_];have:=ihl (bZ_ ao_ a out ns) ns fun b hb=>h b (by simp[hb]);have:=h a (by simp) out ns;omega
  have:=this t.args (ao_ out t ns) (if t.kind=5 then t.name :: ns else ns) ih;omega
theorem bk_ (t:Ty):(ai_ t).length≤t.size:=by have:=jJ_ t [] [];simpa [ai_] using this
theorem iN_:∀ (d:Nat) (fr to:ByteArray) (t:Ty),t.depth≤d→aY_ t→to.size≤64→t.size≤4499999999224 →
  (bW_ d fr to t).depth=t.depth∧(bW_ d fr to t).size=t.size∧aY_ (bW_ d fr to t)∧(bW_ d fr to t).kind=t.kind:=by
 intro d
 induction d with
 | zero=>intro fr to t h;rw[t.depth_eq] at h;omega
 | succ d ih =>
  intro fr to t h hg hto hs;have hwf:=(bK_ t).1 hg.1;have hnm:=(ci_ t).1 hg.2;have hd:∀ a∈t.args,a.depth≤d:=fun a ha=>by have:=av_ _ ha;rw[t.depth_eq] at h;omega
  have hsz:∀ a∈t.args,a.size≤4499999999224:=fun a ha=>by have:=bx_ _ ha;rw[t.size_eq] at hs;omega
  rw[bW_]
  split
  ·next hc =>
   have hk:t.kind=1:=by simp at hc;exact hc.1
   refine⟨by rw[Ty.depth_eq,Ty.depth_eq];rfl,by rw[Ty.size_eq,Ty.size_eq];rfl,⟨?_,?_⟩,rfl⟩
   ·exact (bK_ _).2 hwf
   ·exact (ci_ _).2 ⟨⟨fun e=>by have:t.kind=5:=e;omega,hto⟩,hnm.2⟩
  ·split
   ·exact⟨rfl,rfl,hg,rfl⟩
   ·split
    ·next hc =>
     have hk:t.kind=5:=by simp at hc;exact hc.1
     have hn:t.name=to:=by simp only[Bool.and_eq_true] at hc;exact (aH_ _ _).1 hc.2
     obtain⟨x,hx,hx0⟩:=is_ hg.1 hk;rw[hx0];have hx1:x∈t.args:=by rw[hx];simp
     have hfl:=bk_ x;have hfs:=cu_ to (ai_ x++[fr,to]) (by have:=hsz x hx1;simp;omega) (by rw[← hn];exact hnm.1.1 hk);obtain⟨a1,a2,a3,a4⟩:=ih to (a2_ to (ai_ x++[fr,to])) x (hd x hx1) ⟨hwf.2 x hx1,hnm.2 x hx1⟩ hfs.2 (hsz x hx1);obtain⟨b1,b2,b3,b4⟩:=ih fr to (bW_ d to (a2_ to (ai_ x++[fr,to])) x) (by rw[a1];exact hd x hx1) a3 hto (by rw[a2];exact hsz x hx1);refine⟨?_,?_,⟨?_,?_⟩,hk.symm⟩
     ·rw[Ty.depth_eq,t.depth_eq,hx];show ar_ [_]+1=_;rw[ar_,ar_,ar_,ar_,b1,a1]
     ·rw[Ty.size_eq,t.size_eq,hx];show af_ [_]+1=_;rw[af_,af_,af_,af_,b2,a2]
     ·exact (bK_ _).2 ⟨.inr (.inr (.inr (.inr ⟨rfl,rfl⟩))),fun a ha=>by obtain rfl:=List.mem_singleton.1 ha;exact b3.1⟩
     ·exact (ci_ _).2 ⟨⟨fun _=>hfs.1,hfs.2⟩,fun a ha=>by obtain rfl:=List.mem_singleton.1 ha;exact b3.2⟩
    ·have hi:=fun a (ha:a∈t.args)=>ih fr to a (hd a ha) ⟨hwf.2 a ha,hnm.2 a ha⟩ hto (hsz a ha)
     refine⟨?_,?_,⟨?_,?_⟩,rfl⟩
     ·rw[Ty.depth_eq,t.depth_eq];show ar_ (t.args.map _)+1=_;rw[hB_ _ _ fun a ha=>(hi a ha).1]
     ·rw[Ty.size_eq,t.size_eq];show af_ (t.args.map _)+1=_;rw[e4_ _ _ fun a ha=>(hi a ha).2.1]
     ·refine (bK_ _).2 ⟨?_,fun a ha=>?_⟩
      ·show (t.kind=1∧t.args.map _=[]∨t.kind=2∧t.args.map _=[]∧_∨t.kind=3∨t.kind=4∧(t.args.map _).length=2∨t.kind=5∧(t.args.map _).length=1)
       rw[List.map_eq_nil_iff,List.length_map];exact hwf.1
      ·obtain⟨b,hb,rfl⟩:=List.mem_map.1 ha
       exact (hi b hb).2.2.1.1
     ·refine (ci_ _).2 ⟨hnm.1,fun a ha=>?_⟩
      obtain⟨b,hb,rfl⟩:=List.mem_map.1 ha;exact (hi b hb).2.2.1.2
theorem iU_ (b:Bool)(p:List UInt8):(da_ b p).length≤p.length+2:=by
 unfold da_;split<;>simp
theorem o2_ (l:List Ty)(h:∀ a∈l,(al_ a).length+4≤80*a.size):((l.zip (l.map al_)).flatMap fun x=>32 :: da_ x.1.atomic x.2).length≤80*af_ l:=by
 induction l with
 | nil=>simp[af_]
 | cons a l ih =>
  simp only[List.map_cons,List.zip_cons_cons,List.flatMap_cons,List.length_append,List.length_cons,af_];have:=ih fun b hb=>h b (by simp[hb]);have:=h a (by simp);have:=iU_ a.atomic (al_ a);omega
theorem hm_:∀ t:Ty,aY_ t→(al_ t).length+4≤80*t.size:=by
 intro t
 induction t using Ty.ind with
 | h t ih =>
  intro hg;have hwf:=(bK_ t).1 hg.1;have hnm:=(ci_ t).1 hg.2;have hi:=fun a ha=>ih a ha ⟨hwf.2 a ha,hnm.2 a ha⟩;have hn:t.name.data.toList.length≤64:=hnm.1.2;rw[bL_,t.size_eq];unfold fU_
  rcases hwf.1 with h|h|h|h|h
  ·rw[if_neg (by omega),if_neg (by omega),if_neg (by omega),if_neg (by omega)];omega
  ·rw[if_pos h.1]
   have:=Lib.itoa_length_le t.n (by omega) (by omega);simp only[List.length_cons];omega
  ·rw[if_neg (by omega),if_pos h,List.length_append]
   have:=o2_ t.args hi;omega
  ·rw[if_neg (by omega),if_neg (by omega),if_pos h.1]
   match hl:t.args,h.2 with
   | [x,y],_ =>
    have h1:=hi x (by rw[hl];simp);have h2:=hi y (by rw[hl];simp);have:=iU_ (decide (x.kind<4)) (al_ x);simp only[List.map_cons,List.map_nil,List.length_append,af_,List.length_cons,List.length_nil];omega
  ·rw[if_neg (by omega),if_neg (by omega),if_neg (by omega),if_pos h.1]
   match hl:t.args,h.2 with
   | [x],_ =>
    have h1:=hi x (by rw[hl];simp);simp only[List.map_cons,List.map_nil,List.length_append,af_];have h7:eg_.length=7:=rfl
    split
    ·simp only[List.length_cons,List.length_drop];omega
    ·simp only[List.length_append,List.length_cons,List.length_nil];omega
end
section
open Go.RowKit
open Lx
theorem dO_ {w:World}{a:OA_}{c:Nat}{l:List Tok}(ht:bu_ w (.slice a l.length c) l){i:Nat}(hi:i<l.length) :
  ∃ b off,a=some ⟨b,off,none⟩∧w.cell? ⟨b,off+i*3,none⟩=some (.int .i64 l[i].kind)∧w.cell? ⟨b,off+i*3+1,none⟩=some (.string ⟨l[i].text.toArray⟩):=by
 obtain⟨a',c',e,hl,h0|⟨b,off,rfl,hc⟩⟩:=ht
 ·rw[h0] at hi;simp at hi
 ·injection e with e1 e2 e3
  obtain⟨h1,h2,_⟩:=hc i hi;exact⟨b,off,e1,h1,h2⟩
theorem eW_ {l:List Tok}{i:Nat}(hi:i<l.length):l.drop i=l[i] :: l.drop (i+1):=List.drop_eq_getElem_cons hi
theorem gB_ (k:Nat)(s:List UInt8)(w:World)(a:OA_)(c:Nat)(l:List Tok)(i:Nat)(ht:bu_ w (.slice a l.length c) l)(hi:i≤l.length) :
  Calls Tryz.prog 95 #[.slice a l.length c,.int .i64 i,.int .i64 (k:Int),.string ⟨s.toArray⟩] w fun e w'=>e=.returned (.bool (cC_ (l.drop i) k s))∧w=w':=by
 by_cases hlt:i<l.length
 ·obtain⟨b,off,rfl,c0,c1⟩:=dO_ ht hlt
  have HK:=hid (show cC_ (l.drop i) k s=(l[i].kind==k&&(s.isEmpty || l[i].text==s)) by rw[eW_ hlt];rfl);have z0:(0:Int)≤(i:Int):=by omega
  have z1:(i:Int)<(l.length:Int):=by omega
  clear ht;generalize l[i]=t at *
  by_cases h1:t.kind=k
  ·have e1:((t.kind:Int)==(k:Int))=true:=by rw[h1];simp
   have H1:=hid h1;clear h1
   by_cases h2:s=[]
   ·subst h2
    go_enter Tryz.func95,Tryz.ntmps95;go_wp2;go_ret;exact⟨bd_ (by rw[HK.out,H1.out];simp),rfl⟩
   ·have h3:s.isEmpty=false:=by simpa using h2
    have H3:=hid h3;clear h2;go_enter Tryz.func95,Tryz.ntmps95;go_wp2;go_ret;exact⟨bd_ (by rw[HK.out,H1.out,H3.out];simp),rfl⟩
  ·have e1:((t.kind:Int)==(k:Int))=false:=by rw[beq_eq_false_iff_ne];omega
   have H1:Hid ((t.kind==k)=false):=hid (by rw[beq_eq_false_iff_ne];exact h1);clear h1;go_enter Tryz.func95,Tryz.ntmps95;go_wp2;go_ret;exact⟨bd_ (by rw[HK.out,H1.out];rfl),rfl⟩
 ·obtain rfl:i=l.length:=by omega
  have HK:=hid (show cC_ (l.drop l.length) k s=false by rw[List.drop_length];rfl);have z1:¬ (l.length:Int)<(l.length:Int):=by omega
  clear ht hlt;generalize l.length=n at *;go_enter Tryz.func95,Tryz.ntmps95;go_wp2;go_ret;exact⟨bd_ HK.out.symm,rfl⟩
theorem m0_ (l:List UInt8)(k:Nat)(h:k<l.length):eT_ (l.take (k+1))=10*eT_ (l.take k)+(l[k].toNat - 48):=by
 rw[List.take_add_one,List.getElem?_eq_getElem h];exact iV_ _ _
theorem od_ (l:List UInt8)(h:∀ c∈l,au_ c=true):eT_ l<10 ^ l.length:=by
 have:∀ (l:List UInt8) (n:Nat),(∀ c∈l,au_ c=true)→l.foldl (fun n c=>10*n+(c.toNat - 48)) n<(n+1)*10 ^ l.length:=by
  intro l
  induction l with
  | nil=>intro n _;simp
  | cons c l ih =>
   intro n h;rw[List.foldl_cons,List.length_cons];refine ba_ (ih _ fun d hd=>h d (by simp[hd])) ?_;have hc:=h c (by simp);unfold au_ at hc;simp only[decide_eq_true_eq] at hc;rw[Nat.pow_succ,Nat.mul_comm (10 ^ l.length) 10,← Nat.mul_assoc];refine Nat.mul_le_mul_right _ ?_;omega
 have:=this l 0 h;unfold eT_;omega
theorem mr_ (s:ByteArray)(w:World)(hs:s.size≤6)(hd:∀ c∈s.data.toList,au_ c=true) :
  Calls Tryz.prog 154 #[.string s] w fun e w'=>e=.returned (.int .i64 (eT_ s.data.toList:Int))∧w=w':=by
 have hlen:s.data.toList.length=s.size:=by rw[Array.length_toList];rfl
 have HL:=hid hlen;have HD:=hid hd;clear hlen hd;go_enter Tryz.func154,Tryz.ntmps154;go_wp2
 go_loop [3,4] (fun x i=>∃ k:Nat,i=.int .i64 k∧k≤s.size∧x=.int .i64 (eT_ (s.data.toList.take k):Int)) (fun _ i=>s.size - (intOf i).toNat)
 case atStart=>exact⟨0,rfl,Nat.zero_le _,rfl⟩
 case round =>
  obtain⟨k,rfl,hk,rfl⟩:=hrel
  by_cases hlt:k<s.size
  ·have z0:(0:Int)≤(k:Int):=by omega
   have z1:(k:Int)<(s.size:Int):=(by omega);have hkl:k<s.data.toList.length:=by rw[HL.out];exact hlt
   have st:=hid (m0_ s.data.toList k hkl);have hb:=od_ (s.data.toList.take k) (fun c hc=>HD.out c (List.mem_of_mem_take hc));have hp:10 ^ (s.data.toList.take k).length≤10 ^ 6:=Nat.pow_le_pow_right (by omega) (by rw[List.length_take];omega);have hdc:=HD.out _ (List.getElem_mem hkl);have eg:s.data.toList[k]=s[k]'hlt:=rfl;rw[eg] at st hdc;unfold au_ at hdc;simp only[decide_eq_true_eq] at hdc;obtain⟨d1,d2⟩:=hdc;have b1:eT_ (s.data.toList.take k)<1000000:=(by omega);have ST:=hid st.out;clear st hb hp eg hkl;generalize eT_ (s.data.toList.take k)=x at *;go_wp2;go_round
   case rel=>exact⟨k+1,by go_num,by omega,by rw[ST.out];congr 1;omega⟩
   case measure=>simp[intOf];omega
  ·obtain rfl:k=s.size:=by omega
   have E:Hid (s.data.toList.take s.size=s.data.toList):=hid (by rw[← HL.out,List.take_length]);go_wp2;go_ret;exact⟨bc_ (by rw[E.out]),rfl⟩
end
end Go.Proofs.YtjecnionbjlncaaGreatDoor.Tp

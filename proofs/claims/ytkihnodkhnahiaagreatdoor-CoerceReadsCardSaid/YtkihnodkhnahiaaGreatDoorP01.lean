/- Packed. -/
import Derived.Test.YtkihnodkhnahiaaGreatDoorRows
import Derived.WalkKit
import Derived.WalkLawsBesides
import Derived.WalkSpells
import Derived.Lib.Hide
set_option maxRecDepth 100000
set_option maxHeartbeats 6400000
namespace Go.Proofs.YtkihnodkhnahiaaGreatDoor.Lx
def a8_ (c:UInt8):Bool:=decide (97≤c.toNat∧c.toNat≤122)
def a5_ (c:UInt8):Bool:=decide (65≤c.toNat∧c.toNat≤90)
def aA_ (c:UInt8):Bool:=decide (48≤c.toNat∧c.toNat≤57)
def aV_ (c:UInt8):Bool:=a8_ c || a5_ c || aA_ c || decide (c.toNat=95)
def bA_ (p:UInt8→Bool)(l:List UInt8):Nat:=(l.takeWhile p).length
theorem eT_ (p:UInt8→Bool)(l:List UInt8):bA_ p l≤l.length:=by
 unfold bA_;induction l with
 | nil=>simp
 | cons a l ih=>simp only[List.takeWhile_cons];split<;>simp<;>omega
theorem fS_ (p:UInt8→Bool)(l:List UInt8)(k:Nat)(h:(l.take k).all p=true)(hk:k<l.length)(hp:p l[k]=false):bA_ p l=k:=by
 unfold bA_
 induction l generalizing k with
 | nil=>simp at hk
 | cons a l ih =>
  cases k with
  | zero=>simp at hp;simp[hp]
  | succ k =>
   simp at h hp hk;simp[h.1];exact ih k (by simpa using h.2) hk hp
theorem gL_ (p:UInt8→Bool)(l:List UInt8)(h:l.all p=true):bA_ p l=l.length:=by
 unfold bA_;induction l with
 | nil=>rfl
 | cons a l ih=>simp at h;simp[h.1];exact ih (by simpa using h.2)
def kh_:List (List UInt8):=[[100,97,116,97],[108,101,116],[105,110],[99,97,115,101],[111,102],[102,111,114,97,108,108]]
def eF_ (l:List UInt8):Nat :=
 if kh_.contains l then 3 else if a5_ (l.headD 0) then 2 else 1
def aR_ (l:List UInt8):Nat :=
 if 6<bA_ aA_ l∨1<bA_ aA_ l∧l.headD 0=48 then 0 else bA_ aA_ l
def gN_:List UInt8:=[92,58,61,59,123,125,40,41,46,126,64,60,62,44,91,93,33]
def aN_ (l:List UInt8):Nat × Nat :=
 if a8_ (l.headD 0) || a5_ (l.headD 0) then
  if 16<bA_ aV_ l then (0,0) else (eF_ (l.take (bA_ aV_ l)),bA_ aV_ l)
 else if aA_ (l.headD 0) then (4,aR_ l)
 else if l.headD 0=63 then (if aR_ (l.drop 1)=0 then (0,0) else (5,aR_ (l.drop 1)+1))
 else if [45,62].isPrefixOf l || [124,62].isPrefixOf l then (6,2)
 else if gN_.contains (l.headD 0) then (6,1)
 else (0,0)
def aj_:Bool→List UInt8→Nat
 | _,[]=>0
 | r,c :: l =>
  if c=35 then aj_ true l+1
  else if c=10 then aj_ false l+1
  else if !r&&c != 32&&c != 9 then 0
  else aj_ r l+1
theorem hi_ (r:Bool)(l:List UInt8):aj_ r l≤l.length:=by
 induction l generalizing r with
 | nil=>simp[aj_]
 | cons c l ih =>
  simp only[aj_];have h1:=ih true;have h2:=ih false;have h3:=ih r
  split
  ·simp;omega
  ·split
   ·simp;omega
   ·split
    ·simp
    ·simp;omega
structure Tok where
 kind:Nat
 text:List UInt8
 pos:Nat
deriving DecidableEq
theorem f4_ (l:List UInt8):aR_ l≤l.length:=by
 have:=eT_ aA_ l;unfold aR_;split<;>omega
theorem ma_ (a b:UInt8)(l:List UInt8)(h:([a,b]:List UInt8).isPrefixOf l=true):2≤l.length:=by
 match l,h with
 | [],h=>simp[List.isPrefixOf] at h
 | [x],h=>simp[List.isPrefixOf] at h
 | x :: y :: l,_=>simp
theorem gD_ (l:List UInt8)(h:l≠[]):(aN_ l).2≤l.length:=by
 have h1:1≤l.length:=by cases l with
  | nil=>exact absurd rfl h
  | cons a l=>simp
 have a1:=eT_ aV_ l;have a2:=f4_ l;have a3:=f4_ (l.drop 1);rw[List.length_drop] at a3;unfold aN_
 repeat' split
 all_goals first
  | omega
  | (simp;done)
  | (simp;omega)
  | (rename_i hp;simp only[Bool.or_eq_true] at hp;rcases hp with hp|hp<;>exact ma_ _ _ _ hp)
def dS_:Nat→List UInt8→Nat→List Tok→List Tok × Nat × Nat
 | 0,_,_,acc=>(acc,0,0)
 | n+1,l,p,acc =>
  if l=[] then (acc,0,0)
  else if (aN_ l).2=0 then ([],p,10)
  else dS_ n ((l.drop (aN_ l).2).drop (aj_ false (l.drop (aN_ l).2))) (p+(aN_ l).2+aj_ false (l.drop (aN_ l).2))
   (acc++[⟨(aN_ l).1,l.take (aN_ l).2,p⟩])
theorem jZ_ (n:Nat):∀ (l:List UInt8) (p:Nat) (acc:List Tok) (m:Nat),l.length≤n→n≤m→dS_ m l p acc=dS_ n l p acc:=by
 induction n with
 | zero =>
  intro l p acc m hl _;have:l=[]:=List.length_eq_zero_iff.1 (by omega);subst this;cases m<;>simp[dS_]
 | succ n ih =>
  intro l p acc m hl hm;obtain⟨m,rfl⟩:∃ k,m=k+1:=⟨m - 1,by omega⟩;simp only[dS_]
  split
  ·rfl
  ·split
   ·rfl
   ·rename_i h1 h2
    refine ih _ _ _ _ ?_ (by omega);have:1≤l.length:=by cases l with
     | nil=>exact absurd rfl h1
     | cons a l=>simp
    simp only[List.length_drop];omega
def ec_ (l:List UInt8)(p:Nat)(acc:List Tok):List Tok × Nat × Nat:=dS_ l.length l p acc
theorem hF_ (p:Nat)(acc:List Tok):ec_ [] p acc=(acc,0,0):=rfl
theorem fY_ (l:List UInt8)(p:Nat)(acc:List Tok)(h:l≠[])(h2:(aN_ l).2=0):ec_ l p acc=([],p,10):=by
 unfold ec_;cases l with
 | nil=>exact absurd rfl h
 | cons a l=>simp only[List.length_cons,dS_];rw[if_neg h,if_pos h2]
theorem fh_ (l:List UInt8)(p:Nat)(acc:List Tok)(h:l≠[])(h2:(aN_ l).2≠0) :
  ec_ l p acc=ec_ ((l.drop (aN_ l).2).drop (aj_ false (l.drop (aN_ l).2))) (p+(aN_ l).2+aj_ false (l.drop (aN_ l).2))
   (acc++[⟨(aN_ l).1,l.take (aN_ l).2,p⟩]):=by
 unfold ec_;cases l with
 | nil=>exact absurd rfl h
 | cons a l =>
  simp only[List.length_cons,dS_];rw[if_neg h,if_neg h2];refine jZ_ _ _ _ _ _ (Nat.le_refl _) ?_;simp only[List.length_drop,List.length_cons];omega
def bI_ (l:List UInt8):List Tok × Nat × Nat :=
 if 4000<l.length then ([],0,2) else ec_ (l.drop (aj_ false l)) (aj_ false l) []
end Go.Proofs.YtkihnodkhnahiaaGreatDoor.Lx
namespace Go.Proofs.YtkihnodkhnahiaaGreatDoor.Tp
open Lx
inductive Ty where
 | mk (kind:Int) (name:ByteArray) (n:Int) (args:List Ty):Ty
def Ty.kind:Ty→Int | .mk k _ _ _=>k
def Ty.name:Ty→ByteArray | .mk _ s _ _=>s
def Ty.n:Ty→Int | .mk _ _ n _=>n
def Ty.args:Ty→List Ty | .mk _ _ _ a=>a
theorem Ty.ind {P:Ty→Prop}(h:∀ t,(∀ a∈t.args,P a)→P t)(t:Ty):P t :=
 Ty.rec (motive_1:=P) (motive_2:=fun ts=>∀ a∈ts,P a) (fun k s n args ih=>h (.mk k s n args) ih) (fun a ha=>by cases ha)
  (fun t ts iht ihs a ha=>by
   rcases List.mem_cons.1 ha with rfl|ha
   ·exact iht
   ·exact ihs a ha) t
mutual
def Ty.depth:Ty→Nat
 | .mk _ _ _ args=>aC_ args+1
def aC_:List Ty→Nat
 | []=>0
 | t :: ts=>max t.depth (aC_ ts)
end
theorem Ty.depth_eq (t:Ty):t.depth=aC_ t.args+1:=by cases t;simp[Ty.depth,Ty.args]
theorem dx_ (a b:List Ty):aC_ (a++b)=max (aC_ a) (aC_ b):=by
 induction a with
 | nil=>simp[aC_]
 | cons t ts ih=>simp[aC_,ih,Nat.max_assoc]
theorem hb_ (ts:List Ty)(i:Nat)(h:i<ts.length):aC_ (ts.take (i+1))=max (aC_ (ts.take i)) ts[i].depth:=by
 rw[List.take_add_one,List.getElem?_eq_getElem h,dx_];simp[aC_]
theorem aT_ (ts:List Ty){a:Ty}(h:a∈ts):a.depth≤aC_ ts:=by
 induction ts with
 | nil=>cases h
 | cons t ts ih =>
  rw[aC_]
  rcases List.mem_cons.1 h with rfl|h
  ·omega
  ·have:=ih h;omega
def aa_ (l:List UInt8):ByteArray:=⟨l.toArray⟩
def sk (l:List Tok)(k:Nat):Bool:=match l with
 | []=>false
 | t :: _=>t.kind==k
def st (l:List Tok)(k:Nat)(s:List UInt8):Bool:=match l with
 | []=>false
 | t :: _=>t.kind==k&&t.text==s
def fa:List UInt8:=[102,111,114,97,108,108]
def dj_:List UInt8:=[45,62]
def dot:List UInt8:=[46]
def bX_:List UInt8:=[40]
def bB_:List UInt8:=[41]
def dw_ (l:List UInt8):Nat:=l.foldl (fun n c=>10*n+(c.toNat - 48)) 0
def gG_ (s:List UInt8):Ty:=.mk 1 (aa_ s) 0 []
def gH_ (s:List UInt8):Ty:=.mk 2 (aa_ []) (dw_ s.tail) []
def fu_ (s:List UInt8)(args:List Ty):Ty:=.mk 3 (aa_ s) 0 args
def ik_ (a b:Ty):Ty:=.mk 4 (aa_ []) 0 [a,b]
def e9_ (s:List UInt8)(t:Ty):Ty:=.mk 5 (aa_ s) 0 [t]
def dd_ (l:List Tok):List Tok:=l.takeWhile fun t=>t.kind==1
def cZ_ (l:List Tok):List Tok:=l.dropWhile fun t=>t.kind==1
def ab_ (l:List Tok):List UInt8:=match l with
 | []=>[]
 | t :: _=>t.text
def dl_ (l:List Tok):Bool:=sk l 1 || sk l 5 || sk l 2 || st l 6 bX_
mutual
def bT_:Nat→List Tok→Option (Ty × List Tok)
 | 0,_=>none
 | n+1,l =>
  if st l 3 fa then ff_ n l.tail
  else match cm_ n l with
   | none=>none
   | some (a,r)=>if st r 6 dj_ then (match bT_ n r.tail with
     | none=>none
     | some (b,r')=>some (ik_ a b,r')) else some (a,r)
def ff_:Nat→List Tok→Option (Ty × List Tok)
 | 0,_=>none
 | n+1,l =>
  if !st (cZ_ l) 6 dot || (dd_ l).isEmpty then none
  else match bT_ n (cZ_ l).tail with
   | none=>none
   | some (t,r)=>some ((dd_ l).foldr (fun v t=>e9_ v.text t) t,r)
def cm_:Nat→List Tok→Option (Ty × List Tok)
 | 0,_=>none
 | n+1,l=>if sk l 2 then bh_ n (ab_ l) [] l.tail else aU_ n l
def bh_:Nat→List UInt8→List Ty→List Tok→Option (Ty × List Tok)
 | 0,_,_,_=>none
 | n+1,s,acc,l =>
  if dl_ l then (match aU_ n l with
   | none=>none
   | some (x,r)=>bh_ n s (acc++[x]) r) else some (fu_ s acc,l)
def aU_:Nat→List Tok→Option (Ty × List Tok)
 | 0,_=>none
 | n+1,l =>
  if sk l 1 then some (gG_ (ab_ l),l.tail)
  else if sk l 2 then some (fu_ (ab_ l) [],l.tail)
  else if sk l 5 then some (gH_ (ab_ l),l.tail)
  else if st l 6 bX_ then (match bT_ n l.tail with
   | none=>none
   | some (t,r)=>if st r 6 bB_ then some (t,r.tail) else none) else none
end
theorem ci_ {l:List Tok}{k:Nat}(h:sk l k=true):0<l.length:=by cases l<;>simp[sk] at h ⊢
theorem b8_ {l:List Tok}{k:Nat}{s:List UInt8}(h:st l k s=true):0<l.length:=by cases l<;>simp[st] at h ⊢
theorem qW_ (l:List Tok):(cZ_ l).length≤l.length:=by
 unfold cZ_
 induction l with
 | nil=>simp
 | cons t l ih=>rw[List.dropWhile_cons];split<;>simp<;>omega
theorem dF_:∀ n:Nat,
  (∀ l x r,bT_ n l=some (x,r)→r.length<l.length)∧(∀ l x r,ff_ n l=some (x,r)→r.length<l.length) ∧
  (∀ l x r,cm_ n l=some (x,r)→r.length<l.length)∧(∀ s acc l x r,bh_ n s acc l=some (x,r)→r.length≤l.length) ∧
  (∀ l x r,aU_ n l=some (x,r)→r.length<l.length):=by
 intro n
 induction n with
 | zero=>exact⟨fun _ _ _ h=>by simp[bT_] at h,fun _ _ _ h=>by simp[ff_] at h,fun _ _ _ h=>by simp[cm_] at h,fun _ _ _ _ _ h=>by simp[bh_] at h,fun _ _ _ h=>by simp[aU_] at h⟩
 | succ n ih =>
  obtain⟨i1,i2,i3,i4,i5⟩:=ih;refine⟨fun l x r h=>?_,fun l x r h=>?_,fun l x r h=>?_,fun s acc l x r h=>?_,fun l x r h=>?_⟩
  ·rw[bT_] at h
   split at h
   ·next h1=>have:=i2 _ _ _ h;have:=b8_ h1;simp at *;omega
   ·split at h
    ·cases h
    ·next a r' h2 =>
     have e2:=i3 _ _ _ h2
     split at h
     ·next h3 =>
      split at h
      ·cases h
      ·next b r'' h4 =>
       have:=i1 _ _ _ h4;simp only[Option.some.injEq,Prod.mk.injEq] at h;obtain⟨_,rfl⟩:=h;simp at this;omega
     ·simp only[Option.some.injEq,Prod.mk.injEq] at h
      obtain⟨_,rfl⟩:=h;exact e2
  ·rw[ff_] at h
   split at h
   ·cases h
   ·next h1 =>
    split at h
    ·cases h
    ·next t r' h2 =>
     have:=i1 _ _ _ h2;simp only[Option.some.injEq,Prod.mk.injEq] at h;obtain⟨_,rfl⟩:=h;have:=qW_ l;simp at *;omega
  ·rw[cm_] at h
   split at h
   ·next h1=>have:=i4 _ _ _ _ _ h;have:=ci_ h1;simp at *;omega
   ·exact i5 _ _ _ h
  ·rw[bh_] at h
   split at h
   ·split at h
    ·cases h
    ·next x' r' h2=>have:=i5 _ _ _ h2;have:=i4 _ _ _ _ _ h;omega
   ·simp only[Option.some.injEq,Prod.mk.injEq] at h
    obtain⟨_,rfl⟩:=h;exact Nat.le_refl _
  ·rw[aU_] at h
   split at h
   ·next h1 =>
    have:=ci_ h1;simp only[Option.some.injEq,Prod.mk.injEq] at h;obtain⟨_,rfl⟩:=h;simp;omega
   ·split at h
    ·next h1 =>
     have:=ci_ h1;simp only[Option.some.injEq,Prod.mk.injEq] at h;obtain⟨_,rfl⟩:=h;simp;omega
    ·split at h
     ·next h1 =>
      have:=ci_ h1;simp only[Option.some.injEq,Prod.mk.injEq] at h;obtain⟨_,rfl⟩:=h;simp;omega
     ·split at h
      ·next h1 =>
       have:=b8_ h1
       split at h
       ·cases h
       ·next t r' h2 =>
        have:=i1 _ _ _ h2
        split at h
        ·simp only[Option.some.injEq,Prod.mk.injEq] at h
         obtain⟨_,rfl⟩:=h;simp at *;omega
        ·cases h
      ·cases h
end Go.Proofs.YtkihnodkhnahiaaGreatDoor.Tp
namespace Go.Proofs.YtkihnodkhnahiaaGreatDoor.Tp
open Go.RowKit
abbrev OA_:=Option Addr
theorem aM_ (w:World) (a:Addr) (u:Value) (k:Nat) (h:k≠a.block):(w.setCell a u).heap[k]?=w.heap[k]?:=Below.heap_setCell w a u k h
theorem aw_ (n:Nat):n≤n:=Nat.le_refl n
theorem aX_ {a b c:Nat} (h:a<b) (g:b≤c):a<c:=Nat.lt_of_lt_of_le h g
theorem bm_ {a b c:Nat} (h:a≤b) (g:b≤c):a≤c:=Nat.le_trans h g
theorem ao_ (w:World) (o:Obj):Below w.heap.size w (w.alloc o):=(Below.refl _ _).alloc (Nat.le_refl _) o
theorem hid {p:Prop} (h:p):RowKit.Hid p:=h
def iS_ (w:World)(b o:Nat)(c0 c1 c2 c3:Value):Prop :=
 w.cell? ⟨b,o,none⟩=some c0∧w.cell? ⟨b,o+1,none⟩=some c1∧w.cell? ⟨b,o+2,none⟩=some c2∧w.cell? ⟨b,o+3,none⟩=some c3
inductive ac_ (S:Nat→Prop) (w:World):Value→List Ty→Prop
 | nil (a:Option Addr) (cap:Nat):ac_ S w (.slice a 0 cap) []
 | mk (b off cap:Nat) (ts:List Ty) (sv:Nat→Value) (hb:S b) (hl:ts.length≤9223372036854775807)
   (hc:∀ i (h:i<ts.length),iS_ w b (off+i*4) (.int .i64 ts[i].kind) (.string ts[i].name) (.int .i64 ts[i].n) (sv i))
   (ha:∀ i (h:i<ts.length),ac_ S w (sv i) ts[i].args):ac_ S w (.slice (some ⟨b,off,none⟩) ts.length cap) ts
def rM_ (S:Nat→Prop)(w:World)(v:Value)(t:Ty):Prop:=∃ sv,v=.agg #[.int .i64 t.kind,.string t.name,.int .i64 t.n,sv]∧ac_ S w sv t.args
def Lt (n:Nat)(b:Nat):Prop:=b<n
def In (m n:Nat)(b:Nat):Prop:=m≤b∧b<n
theorem iS_.keep {A B:World}{b o:Nat}(hb:B.heap[b]? = A.heap[b]?){c0 c1 c2 c3:Value}(f:iS_ A b o c0 c1 c2 c3):iS_ B b o c0 c1 c2 c3:=by
 have k:∀ o,B.cell? ⟨b,o,none⟩=A.cell? ⟨b,o,none⟩:=fun o=>World.cell?_of_block hb;exact⟨(k _).trans f.1,(k _).trans f.2.1,(k _).trans f.2.2.1,(k _).trans f.2.2.2⟩
theorem ac_.keep {S:Nat→Prop}{A B:World}(h:∀ b,S b→B.heap[b]? = A.heap[b]?){v:Value}{ts:List Ty}(ha:ac_ S A v ts):ac_ S B v ts:=by
 induction ha with
 | nil a cap=>exact .nil a cap
 | mk b off cap ts sv hb hl hc _ ih=>exact .mk b off cap ts sv hb hl (fun i hi=>(hc i hi).keep (h b hb)) ih
theorem ac_.mono {S S':Nat→Prop}(hS:∀ b,S b→S' b){A:World}{v:Value}{ts:List Ty}(ha:ac_ S A v ts):ac_ S' A v ts:=by
 induction ha with
 | nil a cap=>exact .nil a cap
 | mk b off cap ts sv hb hl hc _ ih=>exact .mk b off cap ts sv (hS b hb) hl hc ih
theorem rM_.keep {S:Nat→Prop}{A B:World}(h:∀ b,S b→B.heap[b]? = A.heap[b]?){v:Value}{t:Ty}(ha:rM_ S A v t):rM_ S B v t:=by
 obtain⟨sv,rfl,h1⟩:=ha;exact⟨sv,rfl,h1.keep h⟩
theorem rM_.mono {S S':Nat→Prop}(hS:∀ b,S b→S' b){A:World}{v:Value}{t:Ty}(ha:rM_ S A v t):rM_ S' A v t:=by
 obtain⟨sv,rfl,h1⟩:=ha;exact⟨sv,rfl,h1.mono hS⟩
theorem ac_.form {S:Nat→Prop}{w:World}{v:Value}{ts:List Ty}(h:ac_ S w v ts):∃ a cap,v=.slice a ts.length cap∧ts.length≤9223372036854775807:=by
 cases h with
 | nil a cap=>exact⟨a,cap,rfl,by simp⟩
 | mk b off cap ts sv hb hl hc ha=>exact⟨_,cap,rfl,hl⟩
theorem ac_.at_ {S:Nat→Prop}{w:World}{a:Option Addr}{len cap:Nat}{ts:List Ty}(h:ac_ S w (.slice a len cap) ts){i:Nat}(hi:i<ts.length) :
  ∃ b off a' cap',a=some ⟨b,off,none⟩∧S b∧iS_ w b (off+i*4) (.int .i64 ts[i].kind) (.string ts[i].name) (.int .i64 ts[i].n) (.slice a' ts[i].args.length cap')∧ac_ S w (.slice a' ts[i].args.length cap') ts[i].args:=by
 cases h with
 | nil a cap=>simp at hi
 | mk b off cap ts sv hb hl hc ha =>
  obtain⟨a',cap',e,_⟩:=(ha i hi).form;have h1:=hc i hi;have h2:=ha i hi;rw[e] at h1 h2;exact⟨b,off,a',cap',rfl,hb,h1,h2⟩
def kA_ (w:World)(x:Int)(e:Ending)(w':World):Prop:=e=.returned (.int .i64 x)∧Below w.heap.size w w'
theorem a9_ {k:IntKind}{a b:Int}(h:a=b):Ending.returned (.int k a)=.returned (.int k b):=by rw[h]
theorem jy_:∀ (t:Ty) (S:Nat→Prop) (v:Value) (w:World),rM_ S w v t→(∀ b,S b→b<w.heap.size)→t.depth≤100000 →
  Calls Tryz.prog 30 #[v] w (kA_ w t.depth):=by
 intro t
 induction t using Ty.ind with
 | h t ih =>
  intro S v w hT hn hd;obtain⟨sv,rfl,hA⟩:=hT;obtain⟨a,cap,rfl,hl⟩:=hA.form;have hde:=t.depth_eq;have IH:=hid ih;have AH:=hid hA;have HN:=hid hn;have DE:=hid hde;clear ih hA hde hn;go_enter Tryz.func30,Tryz.ntmps30;go_wp2
  go_loopw [3,9] (fun mv iv wr=>∃ i:Nat,iv=.int .i64 i∧i≤t.args.length∧mv=.int .i64 (aC_ (t.args.take i):Nat)∧Below w.heap.size w wr) (fun _ iv _=>t.args.length - (intOf iv).toNat)
  case atStart=>exact⟨0,rfl,Nat.zero_le _,by simp[aC_],ao_ _ _⟩
  case round =>
   obtain⟨i,rfl,hil,rfl,hB⟩:=hrel;have z0:(0:Int)≤(i:Int):=(by omega);have BH:=hid hB
   by_cases hi:i<t.args.length
   ·have z1:(i:Int)<(t.args.length:Int):=by omega
    obtain⟨b,off,a',cap',rfl,hb,hf,hs⟩:=AH.out.at_ hi;have hn:=HN.out;have hbl:=hn b hb;obtain⟨f0,f1,f2,f3⟩:=hf.keep (hB.block b hbl);have hm:=List.getElem_mem hi;have hdi:=aT_ _ hm;have hdt:=hb_ _ _ hi;have C:=fun (W:World) (hb:Below w.heap.size w W)=>IH.out _ hm S (.agg #[.int .i64 t.args[i].kind,.string t.args[i].name,.int .i64 t.args[i].n,.slice a' t.args[i].args.length cap']) W ⟨_,rfl,hs.keep fun b hS=>hb.block b (hn b hS)⟩ (fun b hS=>aX_ (hn b hS) hb.size) (by have:=DE.out;omega);have CH:=hid C;have DT:=hid hdt;have hdd:t.args[i].depth≤100000:=(by have:=DE.out;omega);have hdl:aC_ (t.args.take i)≤aC_ t.args:=by
     conv=>rhs;rw[← List.take_append_drop i t.args,dx_]
     omega
    have hdl2:aC_ (t.args.take i)≤100000:=(by have:=DE.out;omega);have hsz:=hB.size;clear hf hs hB C hm hdi hdt hdl hn hb;generalize t.args[i]=x at *;generalize aC_ (t.args.take i)=m at *;go_wp2_with fail;refine (CH.out _ (BH.out.alloc (by omega) _)).mono ?_;rintro e w4 ⟨rfl,B4⟩;have B5:=hid ((BH.out.alloc (by omega) (.cells #[.int .i64 x.kind,.string x.name,.int .i64 x.n,.slice a' x.args.length cap'] 30)).trans (B4.mono (by simp;omega)));have em:(if m<x.depth then (x.depth:Int) else (m:Int))=((max m x.depth:Nat):Int):=by split<;>omega
    clear B4;go_wp2;go_roundw
    case rel=>exact⟨i+1,by go_num,by omega,by rw[DT.out],B5.out⟩
    case measure=>simp[intOf];omega
   ·obtain rfl:i=t.args.length:=by omega
    have hdl2:aC_ t.args≤100000:=(by have:=DE.out;omega);clear hB;go_wp2;go_ret;exact⟨a9_ (by rw[DE.out];omega),BH.out⟩
end Go.Proofs.YtkihnodkhnahiaaGreatDoor.Tp

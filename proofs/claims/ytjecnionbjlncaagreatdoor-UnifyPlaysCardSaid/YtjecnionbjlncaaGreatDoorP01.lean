/- Packed. -/
import Derived.Test.YtjecnionbjlncaaGreatDoorRows
import Derived.WalkKit
import Derived.WalkLawsBesides
import Derived.WalkSpells
import Derived.Lib.Hide
set_option maxRecDepth 100000
set_option maxHeartbeats 6400000
namespace Go.Proofs.YtjecnionbjlncaaGreatDoor.Lx
def bl_ (c:UInt8):Bool:=decide (97≤c.toNat∧c.toNat≤122)
def a4_ (c:UInt8):Bool:=decide (65≤c.toNat∧c.toNat≤90)
def aH_ (c:UInt8):Bool:=decide (48≤c.toNat∧c.toNat≤57)
def aV_ (c:UInt8):Bool:=bl_ c || a4_ c || aH_ c || decide (c.toNat=95)
def bG_ (p:UInt8→Bool)(l:List UInt8):Nat:=(l.takeWhile p).length
theorem eC_ (p:UInt8→Bool)(l:List UInt8):bG_ p l≤l.length:=by
 unfold bG_;induction l with
 | nil=>simp
 | cons a l ih=>simp only[List.takeWhile_cons];split<;>simp<;>omega
theorem fO_ (p:UInt8→Bool)(l:List UInt8)(k:Nat)(h:(l.take k).all p=true)(hk:k<l.length)(hp:p l[k]=false):bG_ p l=k:=by
 unfold bG_
 induction l generalizing k with
 | nil=>simp at hk
 | cons a l ih =>
  cases k with
  | zero=>simp at hp;simp[hp]
  | succ k =>
   simp at h hp hk;simp[h.1];exact ih k (by simpa using h.2) hk hp
theorem gJ_ (p:UInt8→Bool)(l:List UInt8)(h:l.all p=true):bG_ p l=l.length:=by
 unfold bG_;induction l with
 | nil=>rfl
 | cons a l ih=>simp at h;simp[h.1];exact ih (by simpa using h.2)
def mz_:List (List UInt8):=[[100,97,116,97],[108,101,116],[105,110],[99,97,115,101],[111,102],[102,111,114,97,108,108]]
def ft_ (l:List UInt8):Nat :=
 if mz_.contains l then 3 else if a4_ (l.headD 0) then 2 else 1
def aT_ (l:List UInt8):Nat :=
 if 6<bG_ aH_ l∨1<bG_ aH_ l∧l.headD 0=48 then 0 else bG_ aH_ l
def gK_:List UInt8:=[92,58,61,59,123,125,40,41,46,126,64,60,62,44,91,93,33]
def a5_ (l:List UInt8):Nat × Nat :=
 if bl_ (l.headD 0) || a4_ (l.headD 0) then
  if 16<bG_ aV_ l then (0,0) else (ft_ (l.take (bG_ aV_ l)),bG_ aV_ l)
 else if aH_ (l.headD 0) then (4,aT_ l)
 else if l.headD 0=63 then (if aT_ (l.drop 1)=0 then (0,0) else (5,aT_ (l.drop 1)+1))
 else if [45,62].isPrefixOf l || [124,62].isPrefixOf l then (6,2)
 else if gK_.contains (l.headD 0) then (6,1)
 else (0,0)
def aG_:Bool→List UInt8→Nat
 | _,[]=>0
 | r,c :: l =>
  if c=35 then aG_ true l+1
  else if c=10 then aG_ false l+1
  else if !r&&c != 32&&c != 9 then 0
  else aG_ r l+1
theorem hb_ (r:Bool)(l:List UInt8):aG_ r l≤l.length:=by
 induction l generalizing r with
 | nil=>simp[aG_]
 | cons c l ih =>
  simp only[aG_];have h1:=ih true;have h2:=ih false;have h3:=ih r
  split
  ·simp;omega
  ·split
   ·simp;omega
   ·split
    ·simp
    ·simp;omega
structure Tok where
 kind:Nat
 text:List UInt8
 pos:Nat
deriving DecidableEq
theorem fW_ (l:List UInt8):aT_ l≤l.length:=by
 have:=eC_ aH_ l;unfold aT_;split<;>omega
theorem mu_ (a b:UInt8)(l:List UInt8)(h:([a,b]:List UInt8).isPrefixOf l=true):2≤l.length:=by
 match l,h with
 | [],h=>simp[List.isPrefixOf] at h
 | [x],h=>simp[List.isPrefixOf] at h
 | x :: y :: l,_=>simp
theorem gG_ (l:List UInt8)(h:l≠[]):(a5_ l).2≤l.length:=by
 have h1:1≤l.length:=by cases l with
  | nil=>exact absurd rfl h
  | cons a l=>simp
 have a1:=eC_ aV_ l;have a2:=fW_ l;have a3:=fW_ (l.drop 1);rw[List.length_drop] at a3;unfold a5_
 repeat' split
 all_goals first
  | omega
  | (simp;done)
  | (simp;omega)
  | (rename_i hp;simp only[Bool.or_eq_true] at hp;rcases hp with hp|hp<;>exact mu_ _ _ _ hp)
def ds_:Nat→List UInt8→Nat→List Tok→List Tok × Nat × Nat
 | 0,_,_,acc=>(acc,0,0)
 | n+1,l,p,acc =>
  if l=[] then (acc,0,0)
  else if (a5_ l).2=0 then ([],p,10)
  else ds_ n ((l.drop (a5_ l).2).drop (aG_ false (l.drop (a5_ l).2))) (p+(a5_ l).2+aG_ false (l.drop (a5_ l).2))
   (acc++[⟨(a5_ l).1,l.take (a5_ l).2,p⟩])
theorem kb_ (n:Nat):∀ (l:List UInt8) (p:Nat) (acc:List Tok) (m:Nat),l.length≤n→n≤m→ds_ m l p acc=ds_ n l p acc:=by
 induction n with
 | zero =>
  intro l p acc m hl _;have:l=[]:=List.length_eq_zero_iff.1 (by omega);subst this;cases m<;>simp[ds_]
 | succ n ih =>
  intro l p acc m hl hm;obtain⟨m,rfl⟩:∃ k,m=k+1:=⟨m - 1,by omega⟩;simp only[ds_]
  split
  ·rfl
  ·split
   ·rfl
   ·rename_i h1 h2
    refine ih _ _ _ _ ?_ (by omega);have:1≤l.length:=by cases l with
     | nil=>exact absurd rfl h1
     | cons a l=>simp
    simp only[List.length_drop];omega
def ee_ (l:List UInt8)(p:Nat)(acc:List Tok):List Tok × Nat × Nat:=ds_ l.length l p acc
theorem l6_ (p:Nat)(acc:List Tok):ee_ [] p acc=(acc,0,0):=rfl
theorem hB_ (l:List UInt8)(p:Nat)(acc:List Tok)(h:l≠[])(h2:(a5_ l).2=0):ee_ l p acc=([],p,10):=by
 unfold ee_;cases l with
 | nil=>exact absurd rfl h
 | cons a l=>simp only[List.length_cons,ds_];rw[if_neg h,if_pos h2]
theorem gN_ (l:List UInt8)(p:Nat)(acc:List Tok)(h:l≠[])(h2:(a5_ l).2≠0) :
  ee_ l p acc=ee_ ((l.drop (a5_ l).2).drop (aG_ false (l.drop (a5_ l).2))) (p+(a5_ l).2+aG_ false (l.drop (a5_ l).2))
   (acc++[⟨(a5_ l).1,l.take (a5_ l).2,p⟩]):=by
 unfold ee_;cases l with
 | nil=>exact absurd rfl h
 | cons a l =>
  simp only[List.length_cons,ds_];rw[if_neg h,if_neg h2];refine kb_ _ _ _ _ _ (Nat.le_refl _) ?_;simp only[List.length_drop,List.length_cons];omega
def cG_ (l:List UInt8):List Tok × Nat × Nat :=
 if 4000<l.length then ([],0,2) else ee_ (l.drop (aG_ false l)) (aG_ false l) []
end Go.Proofs.YtjecnionbjlncaaGreatDoor.Lx
namespace Go.Proofs.YtjecnionbjlncaaGreatDoor.Tp
open Lx
inductive Ty where
 | mk (kind:Int) (name:ByteArray) (n:Int) (args:List Ty):Ty
def Ty.kind:Ty→Int | .mk k _ _ _=>k
def Ty.name:Ty→ByteArray | .mk _ s _ _=>s
def Ty.n:Ty→Int | .mk _ _ n _=>n
def Ty.args:Ty→List Ty | .mk _ _ _ a=>a
theorem Ty.ind {P:Ty→Prop}(h:∀ t,(∀ a∈t.args,P a)→P t)(t:Ty):P t :=
 Ty.rec (motive_1:=P) (motive_2:=fun ts=>∀ a∈ts,P a) (fun k s n args ih=>h (.mk k s n args) ih) (fun a ha=>by cases ha)
  (fun t ts iht ihs a ha=>by
   rcases List.mem_cons.1 ha with rfl|ha
   ·exact iht
   ·exact ihs a ha) t
mutual
def Ty.depth:Ty→Nat
 | .mk _ _ _ args=>aD_ args+1
def aD_:List Ty→Nat
 | []=>0
 | t :: ts=>max t.depth (aD_ ts)
end
theorem Ty.depth_eq (t:Ty):t.depth=aD_ t.args+1:=by cases t;simp[Ty.depth,Ty.args]
theorem c6_ (a b:List Ty):aD_ (a++b)=max (aD_ a) (aD_ b):=by
 induction a with
 | nil=>simp[aD_]
 | cons t ts ih=>simp[aD_,ih,Nat.max_assoc]
theorem g4_ (ts:List Ty)(i:Nat)(h:i<ts.length):aD_ (ts.take (i+1))=max (aD_ (ts.take i)) ts[i].depth:=by
 rw[List.take_add_one,List.getElem?_eq_getElem h,c6_];simp[aD_]
theorem aI_ (ts:List Ty){a:Ty}(h:a∈ts):a.depth≤aD_ ts:=by
 induction ts with
 | nil=>cases h
 | cons t ts ih =>
  rw[aD_]
  rcases List.mem_cons.1 h with rfl|h
  ·omega
  ·have:=ih h;omega
def ab_ (l:List UInt8):ByteArray:=⟨l.toArray⟩
def sk (l:List Tok)(k:Nat):Bool:=match l with
 | []=>false
 | t :: _=>t.kind==k
def st (l:List Tok)(k:Nat)(s:List UInt8):Bool:=match l with
 | []=>false
 | t :: _=>t.kind==k&&t.text==s
def fa:List UInt8:=[102,111,114,97,108,108]
def dk_:List UInt8:=[45,62]
def dot:List UInt8:=[46]
def d3_:List UInt8:=[40]
def fT_:List UInt8:=[41]
def e6_ (l:List UInt8):Nat:=l.foldl (fun n c=>10*n+(c.toNat - 48)) 0
def mP_ (s:List UInt8):Ty:=.mk 1 (ab_ s) 0 []
def eg_ (s:List UInt8):Ty:=.mk 2 (ab_ []) (e6_ s.tail) []
def ed_ (s:List UInt8)(args:List Ty):Ty:=.mk 3 (ab_ s) 0 args
def kX_ (a b:Ty):Ty:=.mk 4 (ab_ []) 0 [a,b]
def eV_ (s:List UInt8)(t:Ty):Ty:=.mk 5 (ab_ s) 0 [t]
def cV_ (l:List Tok):List Tok:=l.takeWhile fun t=>t.kind==1
def cH_ (l:List Tok):List Tok:=l.dropWhile fun t=>t.kind==1
def aj_ (l:List Tok):List UInt8:=match l with
 | []=>[]
 | t :: _=>t.text
def cY_ (l:List Tok):Bool:=sk l 1 || sk l 5 || sk l 2 || st l 6 d3_
mutual
def bR_:Nat→List Tok→Option (Ty × List Tok)
 | 0,_=>none
 | n+1,l =>
  if st l 3 fa then eY_ n l.tail
  else match cf_ n l with
   | none=>none
   | some (a,r)=>if st r 6 dk_ then (match bR_ n r.tail with
     | none=>none
     | some (b,r')=>some (kX_ a b,r')) else some (a,r)
def eY_:Nat→List Tok→Option (Ty × List Tok)
 | 0,_=>none
 | n+1,l =>
  if !st (cH_ l) 6 dot || (cV_ l).isEmpty then none
  else match bR_ n (cH_ l).tail with
   | none=>none
   | some (t,r)=>some ((cV_ l).foldr (fun v t=>eV_ v.text t) t,r)
def cf_:Nat→List Tok→Option (Ty × List Tok)
 | 0,_=>none
 | n+1,l=>if sk l 2 then bk_ n (aj_ l) [] l.tail else aQ_ n l
def bk_:Nat→List UInt8→List Ty→List Tok→Option (Ty × List Tok)
 | 0,_,_,_=>none
 | n+1,s,acc,l =>
  if cY_ l then (match aQ_ n l with
   | none=>none
   | some (x,r)=>bk_ n s (acc++[x]) r) else some (ed_ s acc,l)
def aQ_:Nat→List Tok→Option (Ty × List Tok)
 | 0,_=>none
 | n+1,l =>
  if sk l 1 then some (mP_ (aj_ l),l.tail)
  else if sk l 2 then some (ed_ (aj_ l) [],l.tail)
  else if sk l 5 then some (eg_ (aj_ l),l.tail)
  else if st l 6 d3_ then (match bR_ n l.tail with
   | none=>none
   | some (t,r)=>if st r 6 fT_ then some (t,r.tail) else none) else none
end
theorem e3_ {l:List Tok}{k:Nat}(h:sk l k=true):0<l.length:=by cases l<;>simp[sk] at h ⊢
theorem eh_ {l:List Tok}{k:Nat}{s:List UInt8}(h:st l k s=true):0<l.length:=by cases l<;>simp[st] at h ⊢
theorem rM_ (l:List Tok):(cH_ l).length≤l.length:=by
 unfold cH_
 induction l with
 | nil=>simp
 | cons t l ih=>rw[List.dropWhile_cons];split<;>simp<;>omega
theorem dC_:∀ n:Nat,
  (∀ l x r,bR_ n l=some (x,r)→r.length<l.length)∧(∀ l x r,eY_ n l=some (x,r)→r.length<l.length) ∧
  (∀ l x r,cf_ n l=some (x,r)→r.length<l.length)∧(∀ s acc l x r,bk_ n s acc l=some (x,r)→r.length≤l.length) ∧
  (∀ l x r,aQ_ n l=some (x,r)→r.length<l.length):=by
 intro n
 induction n with
 | zero=>exact⟨fun _ _ _ h=>by simp[bR_] at h,fun _ _ _ h=>by simp[eY_] at h,fun _ _ _ h=>by simp[cf_] at h,fun _ _ _ _ _ h=>by simp[bk_] at h,fun _ _ _ h=>by simp[aQ_] at h⟩
 | succ n ih =>
  obtain⟨i1,i2,i3,i4,i5⟩:=ih;refine⟨fun l x r h=>?_,fun l x r h=>?_,fun l x r h=>?_,fun s acc l x r h=>?_,fun l x r h=>?_⟩
  ·rw[bR_] at h
   split at h
   ·next h1=>have:=i2 _ _ _ h;have:=eh_ h1;simp at *;omega
   ·split at h
    ·cases h
    ·next a r' h2 =>
     have e2:=i3 _ _ _ h2
     split at h
     ·next h3 =>
      split at h
      ·cases h
      ·next b r'' h4 =>
       have:=i1 _ _ _ h4;simp only[Option.some.injEq,Prod.mk.injEq] at h;obtain⟨_,rfl⟩:=h;simp at this;omega
     ·simp only[Option.some.injEq,Prod.mk.injEq] at h
      obtain⟨_,rfl⟩:=h;exact e2
  ·rw[eY_] at h
   split at h
   ·cases h
   ·next h1 =>
    split at h
    ·cases h
    ·next t r' h2 =>
     have:=i1 _ _ _ h2;simp only[Option.some.injEq,Prod.mk.injEq] at h;obtain⟨_,rfl⟩:=h;have:=rM_ l;simp at *;omega
  ·rw[cf_] at h
   split at h
   ·next h1=>have:=i4 _ _ _ _ _ h;have:=e3_ h1;simp at *;omega
   ·exact i5 _ _ _ h
  ·rw[bk_] at h
   split at h
   ·split at h
    ·cases h
    ·next x' r' h2=>have:=i5 _ _ _ h2;have:=i4 _ _ _ _ _ h;omega
   ·simp only[Option.some.injEq,Prod.mk.injEq] at h
    obtain⟨_,rfl⟩:=h;exact Nat.le_refl _
  ·rw[aQ_] at h
   split at h
   ·next h1 =>
    have:=e3_ h1;simp only[Option.some.injEq,Prod.mk.injEq] at h;obtain⟨_,rfl⟩:=h;simp;omega
   ·split at h
    ·next h1 =>
     have:=e3_ h1;simp only[Option.some.injEq,Prod.mk.injEq] at h;obtain⟨_,rfl⟩:=h;simp;omega
    ·split at h
     ·next h1 =>
      have:=e3_ h1;simp only[Option.some.injEq,Prod.mk.injEq] at h;obtain⟨_,rfl⟩:=h;simp;omega
     ·split at h
      ·next h1 =>
       have:=eh_ h1
       split at h
       ·cases h
       ·next t r' h2 =>
        have:=i1 _ _ _ h2
        split at h
        ·simp only[Option.some.injEq,Prod.mk.injEq] at h
         obtain⟨_,rfl⟩:=h;simp at *;omega
        ·cases h
      ·cases h
end Go.Proofs.YtjecnionbjlncaaGreatDoor.Tp
namespace Go.Proofs.YtjecnionbjlncaaGreatDoor.Tp
open Go.RowKit
abbrev OA_:=Option Addr
theorem av_ (w:World) (a:Addr) (u:Value) (k:Nat) (h:k≠a.block):(w.setCell a u).heap[k]?=w.heap[k]?:=Below.heap_setCell w a u k h
theorem aA_ (n:Nat):n≤n:=Nat.le_refl n
theorem aU_ {a b c:Nat} (h:a<b) (g:b≤c):a<c:=Nat.lt_of_lt_of_le h g
theorem bL_ {a b c:Nat} (h:a≤b) (g:b≤c):a≤c:=Nat.le_trans h g
theorem aq_ (w:World) (o:Obj):Below w.heap.size w (w.alloc o):=(Below.refl _ _).alloc (Nat.le_refl _) o
theorem hid {p:Prop} (h:p):RowKit.Hid p:=h
def re_ (w:World)(b o:Nat)(c0 c1 c2 c3:Value):Prop :=
 w.cell? ⟨b,o,none⟩=some c0∧w.cell? ⟨b,o+1,none⟩=some c1∧w.cell? ⟨b,o+2,none⟩=some c2∧w.cell? ⟨b,o+3,none⟩=some c3
inductive aa_ (S:Nat→Prop) (w:World):Value→List Ty→Prop
 | nil (a:Option Addr) (cap:Nat):aa_ S w (.slice a 0 cap) []
 | mk (b off cap:Nat) (ts:List Ty) (sv:Nat→Value) (hb:S b) (hl:ts.length≤9223372036854775807)
   (hc:∀ i (h:i<ts.length),re_ w b (off+i*4) (.int .i64 ts[i].kind) (.string ts[i].name) (.int .i64 ts[i].n) (sv i))
   (ha:∀ i (h:i<ts.length),aa_ S w (sv i) ts[i].args):aa_ S w (.slice (some ⟨b,off,none⟩) ts.length cap) ts
def sQ_ (S:Nat→Prop)(w:World)(v:Value)(t:Ty):Prop:=∃ sv,v=.agg #[.int .i64 t.kind,.string t.name,.int .i64 t.n,sv]∧aa_ S w sv t.args
def Lt (n:Nat)(b:Nat):Prop:=b<n
def In (m n:Nat)(b:Nat):Prop:=m≤b∧b<n
theorem re_.keep {A B:World}{b o:Nat}(hb:B.heap[b]? = A.heap[b]?){c0 c1 c2 c3:Value}(f:re_ A b o c0 c1 c2 c3):re_ B b o c0 c1 c2 c3:=by
 have k:∀ o,B.cell? ⟨b,o,none⟩=A.cell? ⟨b,o,none⟩:=fun o=>World.cell?_of_block hb;exact⟨(k _).trans f.1,(k _).trans f.2.1,(k _).trans f.2.2.1,(k _).trans f.2.2.2⟩
theorem aa_.keep {S:Nat→Prop}{A B:World}(h:∀ b,S b→B.heap[b]? = A.heap[b]?){v:Value}{ts:List Ty}(ha:aa_ S A v ts):aa_ S B v ts:=by
 induction ha with
 | nil a cap=>exact .nil a cap
 | mk b off cap ts sv hb hl hc _ ih=>exact .mk b off cap ts sv hb hl (fun i hi=>(hc i hi).keep (h b hb)) ih
theorem aa_.mono {S S':Nat→Prop}(hS:∀ b,S b→S' b){A:World}{v:Value}{ts:List Ty}(ha:aa_ S A v ts):aa_ S' A v ts:=by
 induction ha with
 | nil a cap=>exact .nil a cap
 | mk b off cap ts sv hb hl hc _ ih=>exact .mk b off cap ts sv (hS b hb) hl hc ih
theorem sQ_.keep {S:Nat→Prop}{A B:World}(h:∀ b,S b→B.heap[b]? = A.heap[b]?){v:Value}{t:Ty}(ha:sQ_ S A v t):sQ_ S B v t:=by
 obtain⟨sv,rfl,h1⟩:=ha;exact⟨sv,rfl,h1.keep h⟩
theorem sQ_.mono {S S':Nat→Prop}(hS:∀ b,S b→S' b){A:World}{v:Value}{t:Ty}(ha:sQ_ S A v t):sQ_ S' A v t:=by
 obtain⟨sv,rfl,h1⟩:=ha;exact⟨sv,rfl,h1.mono hS⟩
theorem aa_.form {S:Nat→Prop}{w:World}{v:Value}{ts:List Ty}(h:aa_ S w v ts):∃ a cap,v=.slice a ts.length cap∧ts.length≤9223372036854775807:=by
 cases h with
 | nil a cap=>exact⟨a,cap,rfl,by simp⟩
 | mk b off cap ts sv hb hl hc ha=>exact⟨_,cap,rfl,hl⟩
theorem aa_.at_ {S:Nat→Prop}{w:World}{a:Option Addr}{len cap:Nat}{ts:List Ty}(h:aa_ S w (.slice a len cap) ts){i:Nat}(hi:i<ts.length) :
  ∃ b off a' cap',a=some ⟨b,off,none⟩∧S b∧re_ w b (off+i*4) (.int .i64 ts[i].kind) (.string ts[i].name) (.int .i64 ts[i].n) (.slice a' ts[i].args.length cap')∧aa_ S w (.slice a' ts[i].args.length cap') ts[i].args:=by
 cases h with
 | nil a cap=>simp at hi
 | mk b off cap ts sv hb hl hc ha =>
  obtain⟨a',cap',e,_⟩:=(ha i hi).form;have h1:=hc i hi;have h2:=ha i hi;rw[e] at h1 h2;exact⟨b,off,a',cap',rfl,hb,h1,h2⟩
def kN_ (w:World)(x:Int)(e:Ending)(w':World):Prop:=e=.returned (.int .i64 x)∧Below w.heap.size w w'
theorem bv_ {k:IntKind}{a b:Int}(h:a=b):Ending.returned (.int k a)=.returned (.int k b):=by rw[h]
theorem oq_:∀ (t:Ty) (S:Nat→Prop) (v:Value) (w:World),sQ_ S w v t→(∀ b,S b→b<w.heap.size)→t.depth≤100000 →
  Calls Tryz.prog 53 #[v] w (kN_ w t.depth):=by
 intro t
 induction t using Ty.ind with
 | h t ih =>
  intro S v w hT hn hd;obtain⟨sv,rfl,hA⟩:=hT;obtain⟨a,cap,rfl,hl⟩:=hA.form;have hde:=t.depth_eq;have IH:=hid ih;have AH:=hid hA;have HN:=hid hn;have DE:=hid hde;clear ih hA hde hn;go_enter Tryz.func53,Tryz.ntmps53;go_wp2
  go_loopw [3,9] (fun mv iv wr=>∃ i:Nat,iv=.int .i64 i∧i≤t.args.length∧mv=.int .i64 (aD_ (t.args.take i):Nat)∧Below w.heap.size w wr) (fun _ iv _=>t.args.length - (intOf iv).toNat)
  case atStart=>exact⟨0,rfl,Nat.zero_le _,by simp[aD_],aq_ _ _⟩
  case round =>
   obtain⟨i,rfl,hil,rfl,hB⟩:=hrel;have z0:(0:Int)≤(i:Int):=(by omega);have BH:=hid hB
   by_cases hi:i<t.args.length
   ·have z1:(i:Int)<(t.args.length:Int):=by omega
    obtain⟨b,off,a',cap',rfl,hb,hf,hs⟩:=AH.out.at_ hi;have hn:=HN.out;have hbl:=hn b hb;obtain⟨f0,f1,f2,f3⟩:=hf.keep (hB.block b hbl);have hm:=List.getElem_mem hi;have hdi:=aI_ _ hm;have hdt:=g4_ _ _ hi;have C:=fun (W:World) (hb:Below w.heap.size w W)=>IH.out _ hm S (.agg #[.int .i64 t.args[i].kind,.string t.args[i].name,.int .i64 t.args[i].n,.slice a' t.args[i].args.length cap']) W ⟨_,rfl,hs.keep fun b hS=>hb.block b (hn b hS)⟩ (fun b hS=>aU_ (hn b hS) hb.size) (by have:=DE.out;omega);have CH:=hid C;have DT:=hid hdt;have hdd:t.args[i].depth≤100000:=(by have:=DE.out;omega);have hdl:aD_ (t.args.take i)≤aD_ t.args:=by
     conv=>rhs;rw[← List.take_append_drop i t.args,c6_]
     omega
    have hdl2:aD_ (t.args.take i)≤100000:=(by have:=DE.out;omega);have hsz:=hB.size;clear hf hs hB C hm hdi hdt hdl hn hb;generalize t.args[i]=x at *;generalize aD_ (t.args.take i)=m at *;go_wp2_with fail;refine (CH.out _ (BH.out.alloc (by omega) _)).mono ?_;rintro e w4 ⟨rfl,B4⟩;have B5:=hid ((BH.out.alloc (by omega) (.cells #[.int .i64 x.kind,.string x.name,.int .i64 x.n,.slice a' x.args.length cap'] 37)).trans (B4.mono (by simp;omega)));have em:(if m<x.depth then (x.depth:Int) else (m:Int))=((max m x.depth:Nat):Int):=by split<;>omega
    clear B4;go_wp2;go_roundw
    case rel=>exact⟨i+1,by go_num,by omega,by rw[DT.out],B5.out⟩
    case measure=>simp[intOf];omega
   ·obtain rfl:i=t.args.length:=by omega
    have hdl2:aD_ t.args≤100000:=(by have:=DE.out;omega);clear hB;go_wp2;go_ret;exact⟨bv_ (by rw[DE.out];omega),BH.out⟩
end Go.Proofs.YtjecnionbjlncaaGreatDoor.Tp
namespace Go.Proofs.YtjecnionbjlncaaGreatDoor.Lx
end Go.Proofs.YtjecnionbjlncaaGreatDoor.Lx

/- Packed. -/
import Derived.Test.YtjecnionbjlncaaGreatDoorP01
import Derived.Test.YtjecnionbjlncaaGreatDoorRows
import Derived.WalkKit
import Derived.WalkLawsBesides
import Derived.WalkSpells
import Derived.Lib.Hide
set_option maxRecDepth 100000
set_option maxHeartbeats 6400000
namespace Go.Proofs.YtjecnionbjlncaaGreatDoor.Tp
section
open Lx
inductive Ty where
 | mk (kind:Int) (name:ByteArray) (n:Int) (args:List Ty):Ty
def Ty.kind:Ty→Int | .mk k _ _ _=>k
def Ty.name:Ty→ByteArray | .mk _ s _ _=>s
def Ty.n:Ty→Int | .mk _ _ n _=>n
def Ty.args:Ty→List Ty | .mk _ _ _ a=>a
theorem Ty.ind {P:Ty→Prop}(h:∀ t,(∀ a∈t.args,P a)→P t)(t:Ty):P t :=
 Ty.rec (motive_1:=P) (motive_2:=fun ts=>∀ a∈ts,P a) (fun k s n args ih=>h (.mk k s n args) ih) (fun a ha=>by cases ha)
  (fun t ts iht ihs a ha=>by
   rcases List.mem_cons.1 ha with rfl|ha
   ·exact iht
   ·exact ihs a ha) t
mutual
def Ty.depth:Ty→Nat
 | .mk _ _ _ args=>aA_ args+1
def aA_:List Ty→Nat
 | []=>0
 | t :: ts=>max t.depth (aA_ ts)
end
theorem Ty.depth_eq (t:Ty):t.depth=aA_ t.args+1:=by cases t;simp[Ty.depth,Ty.args]
theorem cS_ (a b:List Ty):aA_ (a++b)=max (aA_ a) (aA_ b):=by
 induction a with
 | nil=>simp[aA_]
 | cons t ts ih=>simp[aA_,ih,Nat.max_assoc]
theorem gA_ (ts:List Ty)(i:Nat)(h:i<ts.length):aA_ (ts.take (i+1))=max (aA_ (ts.take i)) ts[i].depth:=by
 rw[List.take_add_one,List.getElem?_eq_getElem h,cS_];simp[aA_]
theorem aF_ (ts:List Ty){a:Ty}(h:a∈ts):a.depth≤aA_ ts:=by
 induction ts with
 | nil=>cases h
 | cons t ts ih =>
  rw[aA_]
  rcases List.mem_cons.1 h with rfl|h
  ·omega
  ·have:=ih h;omega
def ab_ (l:List UInt8):ByteArray:=⟨l.toArray⟩
def sk (l:List Tok)(k:Nat):Bool:=match l with
 | []=>false
 | t :: _=>t.kind==k
def st (l:List Tok)(k:Nat)(s:List UInt8):Bool:=match l with
 | []=>false
 | t :: _=>t.kind==k&&t.text==s
def fa:List UInt8:=[102,111,114,97,108,108]
def c3_:List UInt8:=[45,62]
def dot:List UInt8:=[46]
def dI_:List UInt8:=[40]
def fu_:List UInt8:=[41]
def eN_ (l:List UInt8):Nat:=l.foldl (fun n c=>10*n+(c.toNat - 48)) 0
def k6_ (s:List UInt8):Ty:=.mk 1 (ab_ s) 0 []
def dU_ (s:List UInt8):Ty:=.mk 2 (ab_ []) (eN_ s.tail) []
def dQ_ (s:List UInt8)(args:List Ty):Ty:=.mk 3 (ab_ s) 0 args
def j5_ (a b:Ty):Ty:=.mk 4 (ab_ []) 0 [a,b]
def ex_ (s:List UInt8)(t:Ty):Ty:=.mk 5 (ab_ s) 0 [t]
def cH_ (l:List Tok):List Tok:=l.takeWhile fun t=>t.kind==1
def cw_ (l:List Tok):List Tok:=l.dropWhile fun t=>t.kind==1
def ah_ (l:List Tok):List UInt8:=match l with
 | []=>[]
 | t :: _=>t.text
def cJ_ (l:List Tok):Bool:=sk l 1 || sk l 5 || sk l 2 || st l 6 dI_
mutual
def bG_:Nat→List Tok→Option (Ty × List Tok)
 | 0,_=>none
 | n+1,l =>
  if st l 3 fa then eF_ n l.tail
  else match b3_ n l with
   | none=>none
   | some (a,r)=>if st r 6 c3_ then (match bG_ n r.tail with
     | none=>none
     | some (b,r')=>some (j5_ a b,r')) else some (a,r)
def eF_:Nat→List Tok→Option (Ty × List Tok)
 | 0,_=>none
 | n+1,l =>
  if !st (cw_ l) 6 dot || (cH_ l).isEmpty then none
  else match bG_ n (cw_ l).tail with
   | none=>none
   | some (t,r)=>some ((cH_ l).foldr (fun v t=>ex_ v.text t) t,r)
def b3_:Nat→List Tok→Option (Ty × List Tok)
 | 0,_=>none
 | n+1,l=>if sk l 2 then be_ n (ah_ l) [] l.tail else aN_ n l
def be_:Nat→List UInt8→List Ty→List Tok→Option (Ty × List Tok)
 | 0,_,_,_=>none
 | n+1,s,acc,l =>
  if cJ_ l then (match aN_ n l with
   | none=>none
   | some (x,r)=>be_ n s (acc++[x]) r) else some (dQ_ s acc,l)
def aN_:Nat→List Tok→Option (Ty × List Tok)
 | 0,_=>none
 | n+1,l =>
  if sk l 1 then some (k6_ (ah_ l),l.tail)
  else if sk l 2 then some (dQ_ (ah_ l) [],l.tail)
  else if sk l 5 then some (dU_ (ah_ l),l.tail)
  else if st l 6 dI_ then (match bG_ n l.tail with
   | none=>none
   | some (t,r)=>if st r 6 fu_ then some (t,r.tail) else none) else none
end
theorem eJ_ {l:List Tok}{k:Nat}(h:sk l k=true):0<l.length:=by cases l<;>simp[sk] at h ⊢
theorem dV_ {l:List Tok}{k:Nat}{s:List UInt8}(h:st l k s=true):0<l.length:=by cases l<;>simp[st] at h ⊢
theorem qT_ (l:List Tok):(cw_ l).length≤l.length:=by
 unfold cw_
 induction l with
 | nil=>simp
 | cons t l ih=>rw[List.dropWhile_cons];split<;>simp<;>omega
theorem dm_:∀ n:Nat,
  (∀ l x r,bG_ n l=some (x,r)→r.length<l.length)∧(∀ l x r,eF_ n l=some (x,r)→r.length<l.length) ∧
  (∀ l x r,b3_ n l=some (x,r)→r.length<l.length)∧(∀ s acc l x r,be_ n s acc l=some (x,r)→r.length≤l.length) ∧
  (∀ l x r,aN_ n l=some (x,r)→r.length<l.length):=by
 intro n
 induction n with
 | zero=>exact⟨fun _ _ _ h=>by simp[bG_] at h,fun _ _ _ h=>by simp[eF_] at h,fun _ _ _ h=>by simp[b3_] at h,fun _ _ _ _ _ h=>by simp[be_] at h,fun _ _ _ h=>by simp[aN_] at h⟩
 | succ n ih =>
  obtain⟨i1,i2,i3,i4,i5⟩:=ih;refine⟨fun l x r h=>?_,fun l x r h=>?_,fun l x r h=>?_,fun s acc l x r h=>?_,fun l x r h=>?_⟩
  ·rw[bG_] at h
   split at h
   ·next h1=>have:=i2 _ _ _ h;have:=dV_ h1;simp at *;omega
   ·split at h
    ·cases h
    ·next a r' h2 =>
     have e2:=i3 _ _ _ h2
     split at h
     ·next h3 =>
      split at h
      ·cases h
      ·next b r'' h4 =>
       have:=i1 _ _ _ h4;simp only[Option.some.injEq,Prod.mk.injEq] at h;obtain⟨_,rfl⟩:=h;simp at this;omega
     ·simp only[Option.some.injEq,Prod.mk.injEq] at h
      obtain⟨_,rfl⟩:=h;exact e2
  ·rw[eF_] at h
   split at h
   ·cases h
   ·next h1 =>
    split at h
    ·cases h
    ·next t r' h2 =>
     have:=i1 _ _ _ h2;simp only[Option.some.injEq,Prod.mk.injEq] at h;obtain⟨_,rfl⟩:=h;have:=qT_ l;simp at *;omega
  ·rw[b3_] at h
   split at h
   ·next h1=>have:=i4 _ _ _ _ _ h;have:=eJ_ h1;simp at *;omega
   ·exact i5 _ _ _ h
  ·rw[be_] at h
   split at h
   ·split at h
    ·cases h
    ·next x' r' h2=>have:=i5 _ _ _ h2;have:=i4 _ _ _ _ _ h;omega
   ·simp only[Option.some.injEq,Prod.mk.injEq] at h
    obtain⟨_,rfl⟩:=h;exact Nat.le_refl _
  ·rw[aN_] at h
   split at h
   ·next h1 =>
    have:=eJ_ h1;simp only[Option.some.injEq,Prod.mk.injEq] at h;obtain⟨_,rfl⟩:=h;simp;omega
   ·split at h
    ·next h1 =>
     have:=eJ_ h1;simp only[Option.some.injEq,Prod.mk.injEq] at h;obtain⟨_,rfl⟩:=h;simp;omega
    ·split at h
     ·next h1 =>
      have:=eJ_ h1;simp only[Option.some.injEq,Prod.mk.injEq] at h;obtain⟨_,rfl⟩:=h;simp;omega
     ·split at h
      ·next h1 =>
       have:=dV_ h1
       split at h
       ·cases h
       ·next t r' h2 =>
        have:=i1 _ _ _ h2
        split at h
        ·simp only[Option.some.injEq,Prod.mk.injEq] at h
         obtain⟨_,rfl⟩:=h;simp at *;omega
        ·cases h
      ·cases h
end
section
open Go.RowKit
abbrev OA_:=Option Addr
theorem au_ (w:World) (a:Addr) (u:Value) (k:Nat) (h:k≠a.block):(w.setCell a u).heap[k]?=w.heap[k]?:=Below.heap_setCell w a u k h
theorem aD_ (n:Nat):n≤n:=Nat.le_refl n
theorem aZ_ {a b c:Nat} (h:a<b) (g:b≤c):a<c:=Nat.lt_of_lt_of_le h g
theorem bN_ {a b c:Nat} (h:a≤b) (g:b≤c):a≤c:=Nat.le_trans h g
theorem ar_ (w:World) (o:Obj):Below w.heap.size w (w.alloc o):=(Below.refl _ _).alloc (Nat.le_refl _) o
theorem hid {p:Prop} (h:p):RowKit.Hid p:=h
def sd_ (w:World)(b o:Nat)(c0 c1 c2 c3:Value):Prop :=
 w.cell? ⟨b,o,none⟩=some c0∧w.cell? ⟨b,o+1,none⟩=some c1∧w.cell? ⟨b,o+2,none⟩=some c2∧w.cell? ⟨b,o+3,none⟩=some c3
inductive aa_ (S:Nat→Prop) (w:World):Value→List Ty→Prop
 | nil (a:Option Addr) (cap:Nat):aa_ S w (.slice a 0 cap) []
 | mk (b off cap:Nat) (ts:List Ty) (sv:Nat→Value) (hb:S b) (hl:ts.length≤9223372036854775807)
   (hc:∀ i (h:i<ts.length),sd_ w b (off+i*4) (.int .i64 ts[i].kind) (.string ts[i].name) (.int .i64 ts[i].n) (sv i))
   (ha:∀ i (h:i<ts.length),aa_ S w (sv i) ts[i].args):aa_ S w (.slice (some ⟨b,off,none⟩) ts.length cap) ts
def rZ_ (S:Nat→Prop)(w:World)(v:Value)(t:Ty):Prop:=∃ sv,v=.agg #[.int .i64 t.kind,.string t.name,.int .i64 t.n,sv]∧aa_ S w sv t.args
def Lt (n:Nat)(b:Nat):Prop:=b<n
def In (m n:Nat)(b:Nat):Prop:=m≤b∧b<n
theorem sd_.keep {A B:World}{b o:Nat}(hb:B.heap[b]? = A.heap[b]?){c0 c1 c2 c3:Value}(f:sd_ A b o c0 c1 c2 c3):sd_ B b o c0 c1 c2 c3:=by
 have k:∀ o,B.cell? ⟨b,o,none⟩=A.cell? ⟨b,o,none⟩:=fun o=>World.cell?_of_block hb;exact⟨(k _).trans f.1,(k _).trans f.2.1,(k _).trans f.2.2.1,(k _).trans f.2.2.2⟩
theorem aa_.keep {S:Nat→Prop}{A B:World}(h:∀ b,S b→B.heap[b]? = A.heap[b]?){v:Value}{ts:List Ty}(ha:aa_ S A v ts):aa_ S B v ts:=by
 induction ha with
 | nil a cap=>exact .nil a cap
 | mk b off cap ts sv hb hl hc _ ih=>exact .mk b off cap ts sv hb hl (fun i hi=>(hc i hi).keep (h b hb)) ih
theorem aa_.mono {S S':Nat→Prop}(hS:∀ b,S b→S' b){A:World}{v:Value}{ts:List Ty}(ha:aa_ S A v ts):aa_ S' A v ts:=by
 induction ha with
 | nil a cap=>exact .nil a cap
 | mk b off cap ts sv hb hl hc _ ih=>exact .mk b off cap ts sv (hS b hb) hl hc ih
theorem rZ_.keep {S:Nat→Prop}{A B:World}(h:∀ b,S b→B.heap[b]? = A.heap[b]?){v:Value}{t:Ty}(ha:rZ_ S A v t):rZ_ S B v t:=by
 obtain⟨sv,rfl,h1⟩:=ha;exact⟨sv,rfl,h1.keep h⟩
theorem rZ_.mono {S S':Nat→Prop}(hS:∀ b,S b→S' b){A:World}{v:Value}{t:Ty}(ha:rZ_ S A v t):rZ_ S' A v t:=by
 obtain⟨sv,rfl,h1⟩:=ha;exact⟨sv,rfl,h1.mono hS⟩
theorem aa_.form {S:Nat→Prop}{w:World}{v:Value}{ts:List Ty}(h:aa_ S w v ts):∃ a cap,v=.slice a ts.length cap∧ts.length≤9223372036854775807:=by
 cases h with
 | nil a cap=>exact⟨a,cap,rfl,by simp⟩
 | mk b off cap ts sv hb hl hc ha=>exact⟨_,cap,rfl,hl⟩
theorem aa_.at_ {S:Nat→Prop}{w:World}{a:Option Addr}{len cap:Nat}{ts:List Ty}(h:aa_ S w (.slice a len cap) ts){i:Nat}(hi:i<ts.length) :
  ∃ b off a' cap',a=some ⟨b,off,none⟩∧S b∧sd_ w b (off+i*4) (.int .i64 ts[i].kind) (.string ts[i].name) (.int .i64 ts[i].n) (.slice a' ts[i].args.length cap')∧aa_ S w (.slice a' ts[i].args.length cap') ts[i].args:=by
 cases h with
 | nil a cap=>simp at hi
 | mk b off cap ts sv hb hl hc ha =>
  obtain⟨a',cap',e,_⟩:=(ha i hi).form;have h1:=hc i hi;have h2:=ha i hi;rw[e] at h1 h2;exact⟨b,off,a',cap',rfl,hb,h1,h2⟩
def jW_ (w:World)(x:Int)(e:Ending)(w':World):Prop:=e=.returned (.int .i64 x)∧Below w.heap.size w w'
theorem bl_ {k:IntKind}{a b:Int}(h:a=b):Ending.returned (.int k a)=.returned (.int k b):=by rw[h]
theorem ny_:∀ (t:Ty) (S:Nat→Prop) (v:Value) (w:World),rZ_ S w v t→(∀ b,S b→b<w.heap.size)→t.depth≤100000 →
  Calls Tryz.prog 53 #[v] w (jW_ w t.depth):=by
 intro t
 induction t using Ty.ind with
 | h t ih =>
  intro S v w hT hn hd;obtain⟨sv,rfl,hA⟩:=hT;obtain⟨a,cap,rfl,hl⟩:=hA.form;have hde:=t.depth_eq;have IH:=hid ih;have AH:=hid hA;have HN:=hid hn;have DE:=hid hde;clear ih hA hde hn;go_enter Tryz.func53,Tryz.ntmps53;go_wp2
  go_loopw [3,9] (fun mv iv wr=>∃ i:Nat,iv=.int .i64 i∧i≤t.args.length∧mv=.int .i64 (aA_ (t.args.take i):Nat)∧Below w.heap.size w wr) (fun _ iv _=>t.args.length - (intOf iv).toNat)
  case atStart=>exact⟨0,rfl,Nat.zero_le _,by simp[aA_],ar_ _ _⟩
  case round =>
   obtain⟨i,rfl,hil,rfl,hB⟩:=hrel;have z0:(0:Int)≤(i:Int):=(by omega);have BH:=hid hB
   by_cases hi:i<t.args.length
   ·have z1:(i:Int)<(t.args.length:Int):=by omega
    obtain⟨b,off,a',cap',rfl,hb,hf,hs⟩:=AH.out.at_ hi;have hn:=HN.out;have hbl:=hn b hb;obtain⟨f0,f1,f2,f3⟩:=hf.keep (hB.block b hbl);have hm:=List.getElem_mem hi;have hdi:=aF_ _ hm;have hdt:=gA_ _ _ hi;have C:=fun (W:World) (hb:Below w.heap.size w W)=>IH.out _ hm S (.agg #[.int .i64 t.args[i].kind,.string t.args[i].name,.int .i64 t.args[i].n,.slice a' t.args[i].args.length cap']) W ⟨_,rfl,hs.keep fun b hS=>hb.block b (hn b hS)⟩ (fun b hS=>aZ_ (hn b hS) hb.size) (by have:=DE.out;omega);have CH:=hid C;have DT:=hid hdt;have hdd:t.args[i].depth≤100000:=(by have:=DE.out;omega);have hdl:aA_ (t.args.take i)≤aA_ t.args:=by
     conv=>rhs;rw[← List.take_append_drop i t.args,cS_]
     omega
    have hdl2:aA_ (t.args.take i)≤100000:=(by have:=DE.out;omega);have hsz:=hB.size;clear hf hs hB C hm hdi hdt hdl hn hb;generalize t.args[i]=x at *;generalize aA_ (t.args.take i)=m at *;go_wp2_with fail;refine (CH.out _ (BH.out.alloc (by omega) _)).mono ?_;rintro e w4 ⟨rfl,B4⟩;have B5:=hid ((BH.out.alloc (by omega) (.cells #[.int .i64 x.kind,.string x.name,.int .i64 x.n,.slice a' x.args.length cap'] 37)).trans (B4.mono (by simp;omega)));have em:(if m<x.depth then (x.depth:Int) else (m:Int))=((max m x.depth:Nat):Int):=by split<;>omega
    clear B4;go_wp2;go_roundw
    case rel=>exact⟨i+1,by go_num,by omega,by rw[DT.out],B5.out⟩
    case measure=>simp[intOf];omega
   ·obtain rfl:i=t.args.length:=by omega
    have hdl2:aA_ t.args≤100000:=(by have:=DE.out;omega);clear hB;go_wp2;go_ret;exact⟨bl_ (by rw[DE.out];omega),BH.out⟩
end
end Go.Proofs.YtjecnionbjlncaaGreatDoor.Tp

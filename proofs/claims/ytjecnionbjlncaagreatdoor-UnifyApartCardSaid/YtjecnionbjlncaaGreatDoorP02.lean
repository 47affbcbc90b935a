/- Packed. -/
import Derived.Test.YtjecnionbjlncaaGreatDoorP01
import Derived.Test.YtjecnionbjlncaaGreatDoorRows
import Derived.WalkKit
import Derived.WalkLawsBesides
import Derived.WalkSpells
import Derived.Lib.Hide
set_option maxRecDepth 100000
set_option maxHeartbeats 6400000
namespace Go.Proofs.YtjecnionbjlncaaGreatDoor.Tp
section
open Lx
inductive Ty where
 | mk (kind:Int) (name:ByteArray) (n:Int) (args:List Ty):Ty
def Ty.kind:Ty→Int | .mk k _ _ _=>k
def Ty.name:Ty→ByteArray | .mk _ s _ _=>s
def Ty.n:Ty→Int | .mk _ _ n _=>n
def Ty.args:Ty→List Ty | .mk _ _ _ a=>a
theorem Ty.ind {P:Ty→Prop}(h:∀ t,(∀ a∈t.args,P a)→P t)(t:Ty):P t :=
 Ty.rec (motive_1:=P) (motive_2:=fun ts=>∀ a∈ts,P a) (fun k s n args ih=>h (.mk k s n args) ih) (fun a ha=>by cases ha)
  (fun t ts iht ihs a ha=>by
   rcases List.mem_cons.1 ha with rfl|ha
   ·exact iht
   ·exact ihs a ha) t
mutual
def Ty.depth:Ty→Nat
 | .mk _ _ _ args=>ar_ args+1
def ar_:List Ty→Nat
 | []=>0
 | t :: ts=>max t.depth (ar_ ts)
end
theorem Ty.depth_eq (t:Ty):t.depth=ar_ t.args+1:=by cases t;simp[Ty.depth,Ty.args]
theorem cV_ (a b:List Ty):ar_ (a++b)=max (ar_ a) (ar_ b):=by
 induction a with
 | nil=>simp[ar_]
 | cons t ts ih=>simp[ar_,ih,Nat.max_assoc]
theorem gN_ (ts:List Ty)(i:Nat)(h:i<ts.length):ar_ (ts.take (i+1))=max (ar_ (ts.take i)) ts[i].depth:=by
 rw[List.take_add_one,List.getElem?_eq_getElem h,cV_];simp[ar_]
theorem av_ (ts:List Ty){a:Ty}(h:a∈ts):a.depth≤ar_ ts:=by
 induction ts with
 | nil=>cases h
 | cons t ts ih =>
  rw[ar_]
  rcases List.mem_cons.1 h with rfl|h
  ·omega
  ·have:=ih h;omega
def ab_ (l:List UInt8):ByteArray:=⟨l.toArray⟩
def sk (l:List Tok)(k:Nat):Bool:=match l with
 | []=>false
 | t :: _=>t.kind==k
def st (l:List Tok)(k:Nat)(s:List UInt8):Bool:=match l with
 | []=>false
 | t :: _=>t.kind==k&&t.text==s
def fa:List UInt8:=[102,111,114,97,108,108]
def c5_:List UInt8:=[45,62]
def dot:List UInt8:=[46]
def dT_:List UInt8:=[40]
def fD_:List UInt8:=[41]
def eT_ (l:List UInt8):Nat:=l.foldl (fun n c=>10*n+(c.toNat - 48)) 0
def lL_ (s:List UInt8):Ty:=.mk 1 (ab_ s) 0 []
def d4_ (s:List UInt8):Ty:=.mk 2 (ab_ []) (eT_ s.tail) []
def d0_ (s:List UInt8)(args:List Ty):Ty:=.mk 3 (ab_ s) 0 args
def j4_ (a b:Ty):Ty:=.mk 4 (ab_ []) 0 [a,b]
def eG_ (s:List UInt8)(t:Ty):Ty:=.mk 5 (ab_ s) 0 [t]
def cI_ (l:List Tok):List Tok:=l.takeWhile fun t=>t.kind==1
def cr_ (l:List Tok):List Tok:=l.dropWhile fun t=>t.kind==1
def ae_ (l:List Tok):List UInt8:=match l with
 | []=>[]
 | t :: _=>t.text
def cL_ (l:List Tok):Bool:=sk l 1 || sk l 5 || sk l 2 || st l 6 dT_
mutual
def bC_:Nat→List Tok→Option (Ty × List Tok)
 | 0,_=>none
 | n+1,l =>
  if st l 3 fa then eJ_ n l.tail
  else match bY_ n l with
   | none=>none
   | some (a,r)=>if st r 6 c5_ then (match bC_ n r.tail with
     | none=>none
     | some (b,r')=>some (j4_ a b,r')) else some (a,r)
def eJ_:Nat→List Tok→Option (Ty × List Tok)
 | 0,_=>none
 | n+1,l =>
  if !st (cr_ l) 6 dot || (cI_ l).isEmpty then none
  else match bC_ n (cr_ l).tail with
   | none=>none
   | some (t,r)=>some ((cI_ l).foldr (fun v t=>eG_ v.text t) t,r)
def bY_:Nat→List Tok→Option (Ty × List Tok)
 | 0,_=>none
 | n+1,l=>if sk l 2 then a6_ n (ae_ l) [] l.tail else aI_ n l
def a6_:Nat→List UInt8→List Ty→List Tok→Option (Ty × List Tok)
 | 0,_,_,_=>none
 | n+1,s,acc,l =>
  if cL_ l then (match aI_ n l with
   | none=>none
   | some (x,r)=>a6_ n s (acc++[x]) r) else some (d0_ s acc,l)
def aI_:Nat→List Tok→Option (Ty × List Tok)
 | 0,_=>none
 | n+1,l =>
  if sk l 1 then some (lL_ (ae_ l),l.tail)
  else if sk l 2 then some (d0_ (ae_ l) [],l.tail)
  else if sk l 5 then some (d4_ (ae_ l),l.tail)
  else if st l 6 dT_ then (match bC_ n l.tail with
   | none=>none
   | some (t,r)=>if st r 6 fD_ then some (t,r.tail) else none) else none
end
theorem eP_ {l:List Tok}{k:Nat}(h:sk l k=true):0<l.length:=by cases l<;>simp[sk] at h ⊢
theorem d5_ {l:List Tok}{k:Nat}{s:List UInt8}(h:st l k s=true):0<l.length:=by cases l<;>simp[st] at h ⊢
theorem qn_ (l:List Tok):(cr_ l).length≤l.length:=by
 unfold cr_
 induction l with
 | nil=>simp
 | cons t l ih=>rw[List.dropWhile_cons];split<;>simp<;>omega
theorem dq_:∀ n:Nat,
  (∀ l x r,bC_ n l=some (x,r)→r.length<l.length)∧(∀ l x r,eJ_ n l=some (x,r)→r.length<l.length) ∧
  (∀ l x r,bY_ n l=some (x,r)→r.length<l.length)∧(∀ s acc l x r,a6_ n s acc l=some (x,r)→r.length≤l.length) ∧
  (∀ l x r,aI_ n l=some (x,r)→r.length<l.length):=by
 intro n
 induction n with
 | zero=>exact⟨fun _ _ _ h=>by simp[bC_] at h,fun _ _ _ h=>by simp[eJ_] at h,fun _ _ _ h=>by simp[bY_] at h,fun _ _ _ _ _ h=>by simp[a6_] at h,fun _ _ _ h=>by simp[aI_] at h⟩
 | succ n ih =>
  obtain⟨i1,i2,i3,i4,i5⟩:=ih;refine⟨fun l x r h=>?_,fun l x r h=>?_,fun l x r h=>?_,fun s acc l x r h=>?_,fun l x r h=>?_⟩
  ·rw[bC_] at h
   split at h
   ·next h1=>have:=i2 _ _ _ h;have:=d5_ h1;simp at *;omega
   ·split at h
    ·cases h
    ·next a r' h2 =>
     have e2:=i3 _ _ _ h2
     split at h
     ·next h3 =>
      split at h
      ·cases h
      ·next b r'' h4 =>
       have:=i1 _ _ _ h4;simp only[Option.some.injEq,Prod.mk.injEq] at h;obtain⟨_,rfl⟩:=h;simp at this;omega
     ·simp only[Option.some.injEq,Prod.mk.injEq] at h
      obtain⟨_,rfl⟩:=h;exact e2
  ·rw[eJ_] at h
   split at h
   ·cases h
   ·next h1 =>
    split at h
    ·cases h
    ·next t r' h2 =>
     have:=i1 _ _ _ h2;simp only[Option.some.injEq,Prod.mk.injEq] at h;obtain⟨_,rfl⟩:=h;have:=qn_ l;simp at *;omega
  ·rw[bY_] at h
   split at h
   ·next h1=>have:=i4 _ _ _ _ _ h;have:=eP_ h1;simp at *;omega
   ·exact i5 _ _ _ h
  ·rw[a6_] at h
   split at h
   ·split at h
    ·cases h
    ·next x' r' h2=>have:=i5 _ _ _ h2;have:=i4 _ _ _ _ _ h;omega
   ·simp only[Option.some.injEq,Prod.mk.injEq] at h
    obtain⟨_,rfl⟩:=h;exact Nat.le_refl _
  ·rw[aI_] at h
   split at h
   ·next h1 =>
    have:=eP_ h1;simp only[Option.some.injEq,Prod.mk.injEq] at h;obtain⟨_,rfl⟩:=h;simp;omega
   ·split at h
    ·next h1 =>
     have:=eP_ h1;simp only[Option.some.injEq,Prod.mk.injEq] at h;obtain⟨_,rfl⟩:=h;simp;omega
    ·split at h
     ·next h1 =>
      have:=eP_ h1;simp only[Option.some.injEq,Prod.mk.injEq] at h;obtain⟨_,rfl⟩:=h;simp;omega
     ·split at h
      ·next h1 =>
       have:=d5_ h1
       split at h
       ·cases h
       ·next t r' h2 =>
        have:=i1 _ _ _ h2
        split at h
        ·simp only[Option.some.injEq,Prod.mk.injEq] at h
         obtain⟨_,rfl⟩:=h;simp at *;omega
        ·cases h
      ·cases h
end
section
open Go.RowKit
abbrev OA_:=Option Addr
theorem aB_ (w:World) (a:Addr) (u:Value) (k:Nat) (h:k≠a.block):(w.setCell a u).heap[k]?=w.heap[k]?:=Below.heap_setCell w a u k h
theorem aC_ (n:Nat):n≤n:=Nat.le_refl n
theorem ba_ {a b c:Nat} (h:a<b) (g:b≤c):a<c:=Nat.lt_of_lt_of_le h g
theorem cj_ {a b c:Nat} (h:a≤b) (g:b≤c):a≤c:=Nat.le_trans h g
theorem aw_ (w:World) (o:Obj):Below w.heap.size w (w.alloc o):=(Below.refl _ _).alloc (Nat.le_refl _) o
theorem hid {p:Prop} (h:p):RowKit.Hid p:=h
def ry_ (w:World)(b o:Nat)(c0 c1 c2 c3:Value):Prop :=
 w.cell? ⟨b,o,none⟩=some c0∧w.cell? ⟨b,o+1,none⟩=some c1∧w.cell? ⟨b,o+2,none⟩=some c2∧w.cell? ⟨b,o+3,none⟩=some c3
inductive aa_ (S:Nat→Prop) (w:World):Value→List Ty→Prop
 | nil (a:Option Addr) (cap:Nat):aa_ S w (.slice a 0 cap) []
 | mk (b off cap:Nat) (ts:List Ty) (sv:Nat→Value) (hb:S b) (hl:ts.length≤9223372036854775807)
   (hc:∀ i (h:i<ts.length),ry_ w b (off+i*4) (.int .i64 ts[i].kind) (.string ts[i].name) (.int .i64 ts[i].n) (sv i))
   (ha:∀ i (h:i<ts.length),aa_ S w (sv i) ts[i].args):aa_ S w (.slice (some ⟨b,off,none⟩) ts.length cap) ts
def rh_ (S:Nat→Prop)(w:World)(v:Value)(t:Ty):Prop:=∃ sv,v=.agg #[.int .i64 t.kind,.string t.name,.int .i64 t.n,sv]∧aa_ S w sv t.args
def Lt (n:Nat)(b:Nat):Prop:=b<n
def In (m n:Nat)(b:Nat):Prop:=m≤b∧b<n
theorem ry_.keep {A B:World}{b o:Nat}(hb:B.heap[b]? = A.heap[b]?){c0 c1 c2 c3:Value}(f:ry_ A b o c0 c1 c2 c3):ry_ B b o c0 c1 c2 c3:=by
 have k:∀ o,B.cell? ⟨b,o,none⟩=A.cell? ⟨b,o,none⟩:=fun o=>World.cell?_of_block hb;exact⟨(k _).trans f.1,(k _).trans f.2.1,(k _).trans f.2.2.1,(k _).trans f.2.2.2⟩
theorem aa_.keep {S:Nat→Prop}{A B:World}(h:∀ b,S b→B.heap[b]? = A.heap[b]?){v:Value}{ts:List Ty}(ha:aa_ S A v ts):aa_ S B v ts:=by
 induction ha with
 | nil a cap=>exact .nil a cap
 | mk b off cap ts sv hb hl hc _ ih=>exact .mk b off cap ts sv hb hl (fun i hi=>(hc i hi).keep (h b hb)) ih
theorem aa_.mono {S S':Nat→Prop}(hS:∀ b,S b→S' b){A:World}{v:Value}{ts:List Ty}(ha:aa_ S A v ts):aa_ S' A v ts:=by
 induction ha with
 | nil a cap=>exact .nil a cap
 | mk b off cap ts sv hb hl hc _ ih=>exact .mk b off cap ts sv (hS b hb) hl hc ih
theorem rh_.keep {S:Nat→Prop}{A B:World}(h:∀ b,S b→B.heap[b]? = A.heap[b]?){v:Value}{t:Ty}(ha:rh_ S A v t):rh_ S B v t:=by
 obtain⟨sv,rfl,h1⟩:=ha;exact⟨sv,rfl,h1.keep h⟩
theorem rh_.mono {S S':Nat→Prop}(hS:∀ b,S b→S' b){A:World}{v:Value}{t:Ty}(ha:rh_ S A v t):rh_ S' A v t:=by
 obtain⟨sv,rfl,h1⟩:=ha;exact⟨sv,rfl,h1.mono hS⟩
theorem aa_.form {S:Nat→Prop}{w:World}{v:Value}{ts:List Ty}(h:aa_ S w v ts):∃ a cap,v=.slice a ts.length cap∧ts.length≤9223372036854775807:=by
 cases h with
 | nil a cap=>exact⟨a,cap,rfl,by simp⟩
 | mk b off cap ts sv hb hl hc ha=>exact⟨_,cap,rfl,hl⟩
theorem aa_.at_ {S:Nat→Prop}{w:World}{a:Option Addr}{len cap:Nat}{ts:List Ty}(h:aa_ S w (.slice a len cap) ts){i:Nat}(hi:i<ts.length) :
  ∃ b off a' cap',a=some ⟨b,off,none⟩∧S b∧ry_ w b (off+i*4) (.int .i64 ts[i].kind) (.string ts[i].name) (.int .i64 ts[i].n) (.slice a' ts[i].args.length cap')∧aa_ S w (.slice a' ts[i].args.length cap') ts[i].args:=by
 cases h with
 | nil a cap=>simp at hi
 | mk b off cap ts sv hb hl hc ha =>
  obtain⟨a',cap',e,_⟩:=(ha i hi).form;have h1:=hc i hi;have h2:=ha i hi;rw[e] at h1 h2;exact⟨b,off,a',cap',rfl,hb,h1,h2⟩
def jW_ (w:World)(x:Int)(e:Ending)(w':World):Prop:=e=.returned (.int .i64 x)∧Below w.heap.size w w'
theorem bc_ {k:IntKind}{a b:Int}(h:a=b):Ending.returned (.int k a)=.returned (.int k b):=by rw[h]
theorem np_:∀ (t:Ty) (S:Nat→Prop) (v:Value) (w:World),rh_ S w v t→(∀ b,S b→b<w.heap.size)→t.depth≤100000 →
  Calls Tryz.prog 53 #[v] w (jW_ w t.depth):=by
 intro t
 induction t using Ty.ind with
 | h t ih =>
  intro S v w hT hn hd;obtain⟨sv,rfl,hA⟩:=hT;obtain⟨a,cap,rfl,hl⟩:=hA.form;have hde:=t.depth_eq;have IH:=hid ih;have AH:=hid hA;have HN:=hid hn;have DE:=hid hde;clear ih hA hde hn;go_enter Tryz.func53,Tryz.ntmps53;go_wp2
  go_loopw [3,9] (fun mv iv wr=>∃ i:Nat,iv=.int .i64 i∧i≤t.args.length∧mv=.int .i64 (ar_ (t.args.take i):Nat)∧Below w.heap.size w wr) (fun _ iv _=>t.args.length - (intOf iv).toNat)
  case atStart=>exact⟨0,rfl,Nat.zero_le _,by simp[ar_],aw_ _ _⟩
  case round =>
   obtain⟨i,rfl,hil,rfl,hB⟩:=hrel;have z0:(0:Int)≤(i:Int):=(by omega);have BH:=hid hB
   by_cases hi:i<t.args.length
   ·have z1:(i:Int)<(t.args.length:Int):=by omega
    obtain⟨b,off,a',cap',rfl,hb,hf,hs⟩:=AH.out.at_ hi;have hn:=HN.out;have hbl:=hn b hb;obtain⟨f0,f1,f2,f3⟩:=hf.keep (hB.block b hbl);have hm:=List.getElem_mem hi;have hdi:=av_ _ hm;have hdt:=gN_ _ _ hi;have C:=fun (W:World) (hb:Below w.heap.size w W)=>IH.out _ hm S (.agg #[.int .i64 t.args[i].kind,.string t.args[i].name,.int .i64 t.args[i].n,.slice a' t.args[i].args.length cap']) W ⟨_,rfl,hs.keep fun b hS=>hb.block b (hn b hS)⟩ (fun b hS=>ba_ (hn b hS) hb.size) (by have:=DE.out;omega);have CH:=hid C;have DT:=hid hdt;have hdd:t.args[i].depth≤100000:=(by have:=DE.out;omega);have hdl:ar_ (t.args.take i)≤ar_ t.args:=by
     conv=>rhs;rw[← List.take_append_drop i t.args,cV_]
     omega
    have hdl2:ar_ (t.args.take i)≤100000:=(by have:=DE.out;omega);have hsz:=hB.size;clear hf hs hB C hm hdi hdt hdl hn hb;generalize t.args[i]=x at *;generalize ar_ (t.args.take i)=m at *;go_wp2_with fail;refine (CH.out _ (BH.out.alloc (by omega) _)).mono ?_;rintro e w4 ⟨rfl,B4⟩;have B5:=hid ((BH.out.alloc (by omega) (.cells #[.int .i64 x.kind,.string x.name,.int .i64 x.n,.slice a' x.args.length cap'] 37)).trans (B4.mono (by simp;omega)));have em:(if m<x.depth then (x.depth:Int) else (m:Int))=((max m x.depth:Nat):Int):=by split<;>omega
    clear B4;go_wp2;go_roundw
    case rel=>exact⟨i+1,by go_num,by omega,by rw[DT.out],B5.out⟩
    case measure=>simp[intOf];omega
   ·obtain rfl:i=t.args.length:=by omega
    have hdl2:ar_ t.args≤100000:=(by have:=DE.out;omega);clear hB;go_wp2;go_ret;exact⟨bc_ (by rw[DE.out];omega),BH.out⟩
end
end Go.Proofs.YtjecnionbjlncaaGreatDoor.Tp

/- Texts laid together: TyPlain, CoNt, TyMem, TyReader, TyDepth. -/
import Derived.Test.YtkihnodkhnahiaaGreatDoorP01
import Derived.Test.YtkihnodkhnahiaaGreatDoorRows
import Derived.WalkKit
import Derived.WalkLawsBesides
import Derived.WalkSpells
import Derived.Lib.Hide
import Derived.Test.YtkihnodkhnahiaaGreatDoorP03

namespace Go.Proofs.YtkihnodkhnahiaaGreatDoor.Tp
open Lx
inductive Ty where
 | mk (kind:Int) (name:ByteArray) (n:Int) (args:List Ty):Ty
def Ty.kind:Ty→Int | .mk k _ _ _=>k
def Ty.name:Ty→ByteArray | .mk _ s _ _=>s
def Ty.n:Ty→Int | .mk _ _ n _=>n
def Ty.args:Ty→List Ty | .mk _ _ _ a=>a
theorem Ty.ind {P:Ty→Prop}(h:∀ t,(∀ a∈t.args,P a)→P t)(t:Ty):P t :=
 Ty.rec (motive_1:=P) (motive_2:=fun ts=>∀ a∈ts,P a) (fun k s n args ih=>h (.mk k s n args) ih) (fun a ha=>by cases ha)
  (fun t ts iht ihs a ha=>by
   rcases List.mem_cons.1 ha with rfl|ha
   ·exact iht
   ·exact ihs a ha) t
mutual
def Ty.depth:Ty→Nat
 | .mk _ _ _ args=>depthL args+1
def depthL:List Ty→Nat
 | []=>0
 | t :: ts=>max t.depth (depthL ts)
end
theorem Ty.depth_eq (t:Ty):t.depth=depthL t.args+1:=by cases t;simp[Ty.depth,Ty.args]
theorem depthL_append (a b:List Ty):depthL (a++b)=max (depthL a) (depthL b):=by
 induction a with
 | nil=>simp[depthL]
 | cons t ts ih=>simp[depthL,ih,Nat.max_assoc]
theorem depthL_take (ts:List Ty)(i:Nat)(h:i<ts.length):depthL (ts.take (i+1))=max (depthL (ts.take i)) ts[i].depth:=by
 rw[List.take_add_one,List.getElem?_eq_getElem h,depthL_append];simp[depthL]
theorem depth_arg (ts:List Ty){a:Ty}(h:a∈ts):a.depth≤depthL ts:=by
 induction ts with
 | nil=>cases h
 | cons t ts ih =>
  rw[depthL]
  rcases List.mem_cons.1 h with rfl|h
  ·omega
  ·have:=ih h;omega
def bytes (l:List UInt8):ByteArray:=⟨l.toArray⟩
def sk (l:List Tok)(k:Nat):Bool:=match l with
 | []=>false
 | t :: _=>t.kind==k
def st (l:List Tok)(k:Nat)(s:List UInt8):Bool:=match l with
 | []=>false
 | t :: _=>t.kind==k&&t.text==s
def fa:List UInt8:=[102,111,114,97,108,108]
def arrow:List UInt8:=[45,62]
def dot:List UInt8:=[46]
def lpar:List UInt8:=[40]
def rpar:List UInt8:=[41]
def numL (l:List UInt8):Nat:=l.foldl (fun n c=>10*n+(c.toNat - 48)) 0
def tVar (s:List UInt8):Ty:=.mk 1 (bytes s) 0 []
def tMeta (s:List UInt8):Ty:=.mk 2 (bytes []) (numL s.tail) []
def tCon (s:List UInt8)(args:List Ty):Ty:=.mk 3 (bytes s) 0 args
def tFun (a b:Ty):Ty:=.mk 4 (bytes []) 0 [a,b]
def tAll (s:List UInt8)(t:Ty):Ty:=.mk 5 (bytes s) 0 [t]
def varsL (l:List Tok):List Tok:=l.takeWhile fun t=>t.kind==1
def restL (l:List Tok):List Tok:=l.dropWhile fun t=>t.kind==1
def headText (l:List Tok):List UInt8:=match l with
 | []=>[]
 | t :: _=>t.text
def starts (l:List Tok):Bool:=sk l 1 || sk l 5 || sk l 2 || st l 6 lpar
mutual
def typF:Nat→List Tok→Option (Ty × List Tok)
 | 0,_=>none
 | n+1,l =>
  if st l 3 fa then allF n l.tail
  else match appF n l with
   | none=>none
   | some (a,r)=>if st r 6 arrow then (match typF n r.tail with
     | none=>none
     | some (b,r')=>some (tFun a b,r')) else some (a,r)
def allF:Nat→List Tok→Option (Ty × List Tok)
 | 0,_=>none
 | n+1,l =>
  if !st (restL l) 6 dot || (varsL l).isEmpty then none
  else match typF n (restL l).tail with
   | none=>none
   | some (t,r)=>some ((varsL l).foldr (fun v t=>tAll v.text t) t,r)
def appF:Nat→List Tok→Option (Ty × List Tok)
 | 0,_=>none
 | n+1,l=>if sk l 2 then argsF n (headText l) [] l.tail else atomF n l
def argsF:Nat→List UInt8→List Ty→List Tok→Option (Ty × List Tok)
 | 0,_,_,_=>none
 | n+1,s,acc,l =>
  if starts l then (match atomF n l with
   | none=>none
   | some (x,r)=>argsF n s (acc++[x]) r) else some (tCon s acc,l)
def atomF:Nat→List Tok→Option (Ty × List Tok)
 | 0,_=>none
 | n+1,l =>
  if sk l 1 then some (tVar (headText l),l.tail)
  else if sk l 2 then some (tCon (headText l) [],l.tail)
  else if sk l 5 then some (tMeta (headText l),l.tail)
  else if st l 6 lpar then (match typF n l.tail with
   | none=>none
   | some (t,r)=>if st r 6 rpar then some (t,r.tail) else none) else none
end
theorem sk_ne {l:List Tok}{k:Nat}(h:sk l k=true):0<l.length:=by cases l<;>simp[sk] at h ⊢
theorem st_ne {l:List Tok}{k:Nat}{s:List UInt8}(h:st l k s=true):0<l.length:=by cases l<;>simp[st] at h ⊢
theorem rest_le (l:List Tok):(restL l).length≤l.length:=by
 unfold restL
 induction l with
 | nil=>simp
 | cons t l ih=>rw[List.dropWhile_cons];split<;>simp<;>omega
theorem shorter:∀ n:Nat,
  (∀ l x r,typF n l=some (x,r)→r.length<l.length)∧(∀ l x r,allF n l=some (x,r)→r.length<l.length) ∧
  (∀ l x r,appF n l=some (x,r)→r.length<l.length)∧(∀ s acc l x r,argsF n s acc l=some (x,r)→r.length≤l.length) ∧
  (∀ l x r,atomF n l=some (x,r)→r.length<l.length):=by
 intro n
 induction n with
 | zero=>exact⟨fun _ _ _ h=>by simp[typF] at h,fun _ _ _ h=>by simp[allF] at h,fun _ _ _ h=>by simp[appF] at h,fun _ _ _ _ _ h=>by simp[argsF] at h,fun _ _ _ h=>by simp[atomF] at h⟩
 | succ n ih =>
  obtain⟨i1,i2,i3,i4,i5⟩:=ih
  refine⟨fun l x r h=>?_,fun l x r h=>?_,fun l x r h=>?_,fun s acc l x r h=>?_,fun l x r h=>?_⟩
  ·rw[typF] at h
   split at h
   ·next h1=>have:=i2 _ _ _ h;have:=st_ne h1;simp at *;omega
   ·split at h
    ·cases h
    ·next a r' h2 =>
     have e2:=i3 _ _ _ h2
     split at h
     ·next h3 =>
      split at h
      ·cases h
      ·next b r'' h4 =>
       have:=i1 _ _ _ h4
       simp only[Option.some.injEq,Prod.mk.injEq] at h
       obtain⟨_,rfl⟩:=h
       simp at this;omega
     ·simp only[Option.some.injEq,Prod.mk.injEq] at h
      obtain⟨_,rfl⟩:=h
      exact e2
  ·rw[allF] at h
   split at h
   ·cases h
   ·next h1 =>
    split at h
    ·cases h
    ·next t r' h2 =>
     have:=i1 _ _ _ h2
     simp only[Option.some.injEq,Prod.mk.injEq] at h
     obtain⟨_,rfl⟩:=h
     have:=rest_le l
     simp at *;omega
  ·rw[appF] at h
   split at h
   ·next h1=>have:=i4 _ _ _ _ _ h;have:=sk_ne h1;simp at *;omega
   ·exact i5 _ _ _ h
  ·rw[argsF] at h
   split at h
   ·split at h
    ·cases h
    ·next x' r' h2=>have:=i5 _ _ _ h2;have:=i4 _ _ _ _ _ h;omega
   ·simp only[Option.some.injEq,Prod.mk.injEq] at h
    obtain⟨_,rfl⟩:=h
    exact Nat.le_refl _
  ·rw[atomF] at h
   split at h
   ·next h1 =>
    have:=sk_ne h1
    simp only[Option.some.injEq,Prod.mk.injEq] at h
    obtain⟨_,rfl⟩:=h
    simp;omega
   ·split at h
    ·next h1 =>
     have:=sk_ne h1
     simp only[Option.some.injEq,Prod.mk.injEq] at h
     obtain⟨_,rfl⟩:=h
     simp;omega
    ·split at h
     ·next h1 =>
      have:=sk_ne h1
      simp only[Option.some.injEq,Prod.mk.injEq] at h
      obtain⟨_,rfl⟩:=h
      simp;omega
     ·split at h
      ·next h1 =>
       have:=st_ne h1
       split at h
       ·cases h
       ·next t r' h2 =>
        have:=i1 _ _ _ h2
        split at h
        ·simp only[Option.some.injEq,Prod.mk.injEq] at h
         obtain⟨_,rfl⟩:=h
         simp at *;omega
        ·cases h
      ·cases h
end Go.Proofs.YtkihnodkhnahiaaGreatDoor.Tp

namespace Go.Proofs.YtkihnodkhnahiaaGreatDoor.Tp
def e0:ByteArray:=⟨#[]⟩
def tz:Ty:=.mk 0 e0 0 []
def nthT (n:Int)(l r:Ty):Option (Ty × Ty) :=
 if l.kind=r.kind∧(l.kind=4∨l.kind=3∧l.name=r.name∧l.args.length=r.args.length)∧n<l.args.length then some (l.args.getD n.toNat tz,r.args.getD n.toNat tz) else none
end Go.Proofs.YtkihnodkhnahiaaGreatDoor.Tp

namespace Go.Proofs.YtkihnodkhnahiaaGreatDoor.Tp
open Go.RowKit
theorem hid {p:Prop} (h:p):RowKit.Hid p:=h
def Four (w:World)(b o:Nat)(c0 c1 c2 c3:Value):Prop :=
 w.cell? ⟨b,o,none⟩=some c0∧w.cell? ⟨b,o+1,none⟩=some c1∧w.cell? ⟨b,o+2,none⟩=some c2∧w.cell? ⟨b,o+3,none⟩=some c3
inductive ArgsAt (S:Nat→Prop) (w:World):Value→List Ty→Prop
 | nil (a:Option Addr) (cap:Nat):ArgsAt S w (.slice a 0 cap) []
 | mk (b off cap:Nat) (ts:List Ty) (sv:Nat→Value) (hb:S b) (hl:ts.length≤9223372036854775807)
   (hc:∀ i (h:i<ts.length),Four w b (off+i*4) (.int .i64 ts[i].kind) (.string ts[i].name) (.int .i64 ts[i].n) (sv i))
   (ha:∀ i (h:i<ts.length),ArgsAt S w (sv i) ts[i].args):ArgsAt S w (.slice (some ⟨b,off,none⟩) ts.length cap) ts
def TyAt (S:Nat→Prop)(w:World)(v:Value)(t:Ty):Prop:=∃ sv,v=.agg #[.int .i64 t.kind,.string t.name,.int .i64 t.n,sv]∧ArgsAt S w sv t.args
def Lt (n:Nat)(b:Nat):Prop:=b<n
def In (m n:Nat)(b:Nat):Prop:=m≤b∧b<n
theorem Four.keep {A B:World}{b o:Nat}(hb:B.heap[b]? = A.heap[b]?){c0 c1 c2 c3:Value}(f:Four A b o c0 c1 c2 c3):Four B b o c0 c1 c2 c3:=by
 have k:∀ o,B.cell? ⟨b,o,none⟩=A.cell? ⟨b,o,none⟩:=fun o=>World.cell?_of_block hb
 exact⟨(k _).trans f.1,(k _).trans f.2.1,(k _).trans f.2.2.1,(k _).trans f.2.2.2⟩
theorem ArgsAt.keep {S:Nat→Prop}{A B:World}(h:∀ b,S b→B.heap[b]? = A.heap[b]?){v:Value}{ts:List Ty}(ha:ArgsAt S A v ts):ArgsAt S B v ts:=by
 induction ha with
 | nil a cap=>exact .nil a cap
 | mk b off cap ts sv hb hl hc _ ih=>exact .mk b off cap ts sv hb hl (fun i hi=>(hc i hi).keep (h b hb)) ih
theorem ArgsAt.mono {S S':Nat→Prop}(hS:∀ b,S b→S' b){A:World}{v:Value}{ts:List Ty}(ha:ArgsAt S A v ts):ArgsAt S' A v ts:=by
 induction ha with
 | nil a cap=>exact .nil a cap
 | mk b off cap ts sv hb hl hc _ ih=>exact .mk b off cap ts sv (hS b hb) hl hc ih
theorem ArgsAt.form {S:Nat→Prop}{w:World}{v:Value}{ts:List Ty}(h:ArgsAt S w v ts):∃ a cap,v=.slice a ts.length cap∧ts.length≤9223372036854775807:=by
 cases h with
 | nil a cap=>exact⟨a,cap,rfl,by simp⟩
 | mk b off cap ts sv hb hl hc ha=>exact⟨_,cap,rfl,hl⟩
theorem ArgsAt.at_ {S:Nat→Prop}{w:World}{a:Option Addr}{len cap:Nat}{ts:List Ty}(h:ArgsAt S w (.slice a len cap) ts){i:Nat}(hi:i<ts.length) :
  ∃ b off a' cap',a=some ⟨b,off,none⟩∧S b∧Four w b (off+i*4) (.int .i64 ts[i].kind) (.string ts[i].name) (.int .i64 ts[i].n) (.slice a' ts[i].args.length cap')∧ArgsAt S w (.slice a' ts[i].args.length cap') ts[i].args:=by
 cases h with
 | nil a cap=>simp at hi
 | mk b off cap ts sv hb hl hc ha =>
  obtain⟨a',cap',e,_⟩:=(ha i hi).form
  have h1:=hc i hi
  have h2:=ha i hi
  rw[e] at h1 h2
  exact⟨b,off,a',cap',rfl,hb,h1,h2⟩
open Lx
def Rd (N B:Nat)(w:World)(l:List Tok):Prop:=∃ a cap,w.heap[B]? = some (.cells #[.slice a l.length cap] 115 (0,0))∧ToksAt w (.slice a l.length cap) l∧l.length≤9223372036854775807∧∀ b o,a=some ⟨b,o,none⟩→b<N
def seesB (l:List Tok)(k:Nat)(s:List UInt8):Bool:=match l with
 | []=>false
 | t :: _=>t.kind==k&&(s.isEmpty || t.text==s)
theorem sees_sk (l:List Tok)(k:Nat):seesB l k []=sk l k:=by cases l<;>simp[seesB,sk]
theorem sees_st (l:List Tok)(k:Nat)(s:List UInt8)(h:s≠[]):seesB l k s=st l k s:=by
 cases l with
 | nil=>rfl
 | cons t l=>cases s with
  | nil=>exact absurd rfl h
  | cons c s=>simp[seesB,st]
theorem ret_bool {a b:Bool}(h:a=b):Ending.returned (.bool a)=.returned (.bool b):=by rw[h]
theorem toks_head {w:World}{a:Option Addr}{n cap:Nat}{t:Tok}{l:List Tok}(h:ToksAt w (.slice a n cap) (t :: l)) :
  ∃ b off,a=some ⟨b,off,none⟩∧w.cell? ⟨b,off,none⟩=some (.int .i64 t.kind)∧w.cell? ⟨b,off+1,none⟩=some (.string ⟨t.text.toArray⟩):=by
 obtain⟨a',cap',he,hl,h0|⟨b,off,rfl,hc⟩⟩:=h
 ·cases h0
 ·injection he with e1 e2 e3
  subst e1
  obtain⟨c1,c2,_⟩:=hc 0 (by simp)
  exact⟨b,off,rfl,by simpa using c1,by simpa using c2⟩
set_option maxHeartbeats 800000 in
theorem sees_any (k:Nat)(s:List UInt8)(N B:Nat)(w:World)(l:List Tok)(h:Rd N B w l) :
  Calls Tryz.prog 109 #[.pointer (some ⟨B,0,none⟩),.int .i64 (k:Int),.string ⟨s.toArray⟩] w fun e w'=>e=.returned (.bool (seesB l k s))∧w=w':=by
 obtain⟨a,cap,hb,ht,hl,_⟩:=h
 have cB:w.cell? ⟨B,0,none⟩=some (.slice a l.length cap):=cell_of_row w B 0 _ _ _ hb
 cases l with
 | nil =>
  clear ht hb
  go_enter Tryz.func109,Tryz.ntmps109
  go_wp2
  go_ret
  exact⟨rfl,rfl⟩
 | cons t l =>
  obtain⟨b,off,rfl,c0,c1⟩:=toks_head ht
  have hk:seesB (t :: l) k s=(t.kind==k&&(s.isEmpty || t.text==s)):=rfl
  have HK:=hid hk
  have hl0:(0:Int)<((t :: l).length:Int):=by simp
  generalize (t :: l).length=n at *
  clear hk hb ht
  by_cases h1:t.kind=k
  ·have e1:((t.kind:Int)==(k:Int))=true:=by rw[h1];simp
   have H1:=hid h1
   clear h1
   by_cases h2:s=[]
   ·subst h2
    go_enter Tryz.func109,Tryz.ntmps109
    go_wp2
    go_ret
    exact⟨ret_bool (by rw[HK.out,H1.out];simp),rfl⟩
   ·have h3:s.isEmpty=false:=by simpa using h2
    have H3:=hid h3
    clear h2
    go_enter Tryz.func109,Tryz.ntmps109
    go_wp2
    go_ret
    exact⟨ret_bool (by rw[HK.out,H1.out,H3.out];simp),rfl⟩
  ·have e1:((t.kind:Int)==(k:Int))=false:=by rw[beq_eq_false_iff_ne];omega
   have H1:Hid ((t.kind==k)=false):=hid (by rw[beq_eq_false_iff_ne];exact h1)
   clear h1
   go_enter Tryz.func109,Tryz.ntmps109
   go_wp2
   go_ret
   exact⟨ret_bool (by rw[HK.out,H1.out];rfl),rfl⟩
def TakesPost (N B:Nat)(w:World)(l:List Tok)(ok:Bool)(e:Ending)(w':World):Prop :=
 if ok then e=.returned (.tuple #[.string (bytes (headText l)),.bool true])∧Rd N B w' l.tail∧w.grownBy w' (some B)
 else e=.returned (.tuple #[.string ByteArray.empty,.bool false])∧w=w'
theorem toks_tail {w:World}{b off n cap cap':Nat}{t:Tok}{l:List Tok}(h:ToksAt w (.slice (some ⟨b,off,none⟩) n cap) (t :: l))(hc:l.length≤cap'):ToksAt w (.slice (some ⟨b,off+3,none⟩) l.length cap') l:=by
 obtain⟨a',cap1,he,hl,h0|⟨b',off',e,hcc⟩⟩:=h
 ·cases h0
 ·injection he with e1 e2 e3
  rw[e] at e1
  injection e1 with e1
  injection e1 with e1 e4
  subst e1 e4
  refine⟨_,cap',rfl,hc,.inr ⟨b,off+3,rfl,fun i hi=>?_⟩⟩
  have:=hcc (i+1) (by simp;omega)
  simp only[List.getElem_cons_succ] at this
  rw[show off+3+i*3=off+(i+1)*3 by omega]
  exact this
theorem set_row0 {w:World}{b i:Nat}{c:Array Value}{t:TypeId}{f:Nat × Nat}(h:w.heap[b]? = some (.cells c t f))(u:Value) :
  (w.setCell ⟨b,i,none⟩ u).heap[b]? = some (.cells (c.setIfInBounds i u) t f):=by
 simp[World.setCell,Array.getElem?_modify,h]
theorem grown_set (w:World)(a:Addr)(u:Value):w.grownBy (w.setCell a u) (some a.block) :=
 ⟨rfl,rfl,rfl,by simp,fun k _ hk=>Below.heap_setCell w a u k (fun e=>hk (by rw[e]))⟩
theorem toks_block_ne {w:World}{b off cap B:Nat}{l:List Tok}{cs:Array Value}{f:Nat × Nat}(h:ToksAt w (.slice (some ⟨b,off,none⟩) l.length cap) l)(hl:l≠[])(hB:w.heap[B]? = some (.cells cs 115 f))(hc:cs.size=1):b≠B:=by
 rintro rfl
 obtain⟨a',cap1,he,_,h0|⟨b',off',e,hcc⟩⟩:=h
 ·exact hl h0
 ·injection he with e1 e2 e3
  rw[e] at e1
  injection e1 with e1
  injection e1 with e1 e4
  subst e1 e4
  have h1:=(hcc 0 (List.length_pos_iff.2 hl)).2.1
  rw[cell_of_row _ _ _ _ _ _ hB,Array.getElem?_eq_none (by omega)] at h1
  cases h1
theorem toks_keep {w w':World}{b off n cap:Nat}{l:List Tok}(h:ToksAt w (.slice (some ⟨b,off,none⟩) n cap) l)(hk:∀ o,w'.cell? ⟨b,o,none⟩=w.cell? ⟨b,o,none⟩):ToksAt w' (.slice (some ⟨b,off,none⟩) n cap) l:=by
 obtain⟨a',cap1,he,hl,h0|⟨b',off',e,hcc⟩⟩:=h
 ·exact⟨a',cap1,he,hl,.inl h0⟩
 ·refine⟨a',cap1,he,hl,.inr ⟨b',off',e,fun i hi=>?_⟩⟩
  injection he with e1 e2 e3
  rw[e] at e1
  injection e1 with e1
  injection e1 with e1 e4
  subst e1
  rw[hk,hk,hk]
  exact hcc i hi
set_option maxHeartbeats 800000 in
theorem takes_any (k:Nat)(s:List UInt8)(N B:Nat)(w:World)(l:List Tok)(h:Rd N B w l) :
  Calls Tryz.prog 93 #[.pointer (some ⟨B,0,none⟩),.int .i64 (k:Int),.string ⟨s.toArray⟩] w (TakesPost N B w l (seesB l k s)):=by
 have C:=hid (sees_any k s N B w l h)
 cases hs:seesB l k s
 ·have HS:=hid hs
  clear hs h
  go_enter Tryz.func93,Tryz.ntmps93
  go_wp2_with fail
  refine C.out.mono ?_
  rintro e w' ⟨he,rfl⟩
  rw[HS.out] at he
  subst he
  go_wp2
  go_ret2
  exact⟨rfl,rfl⟩
 ·cases l with
  | nil=>cases hs
  | cons t l =>
   obtain⟨a,cap,hb,ht,hl,hN⟩:=h
   have cB:w.cell? ⟨B,0,none⟩=some (.slice a (t :: l).length cap):=cell_of_row w B 0 _ _ _ hb
   have fB:w.frozen? ⟨B,0,none⟩=false:=by simp[World.frozen?,hb]
   obtain⟨b,off,rfl,c0,c1⟩:=toks_head ht
   have hcap:(t :: l).length≤cap:=by obtain⟨_,_,e,h,_⟩:=ht;injection e with _ _ e;rw[e];exact h
   have hcl:l.length+1≤cap:=by simpa using hcap
   have hnn:(t :: l).length=l.length+1:=by simp
   rw[hnn] at cB hl
   have NN:=hid (hN b off rfl)
   have HS:=hid hs
   have HB:=hid hb
   have HT:=hid ht
   clear hs hb ht hnn hcap hN
   by_cases h1:cap=1
   ·obtain rfl:l=[]:=List.eq_nil_of_length_eq_zero (by omega)
    subst h1
    go_enter Tryz.func93,Tryz.ntmps93
    go_wp2_with fail
    refine C.out.mono ?_
    rintro e w' ⟨he,rfl⟩
    rw[HS.out] at he
    subst he
    go_wp2
    go_ret2
    refine⟨rfl,⟨_,0,?_,⟨some ⟨b,off,none⟩,0,rfl,by simp,.inl rfl⟩,by simp,fun b' o' e=>by injection e with e;injection e with e;rw[← e];exact NN.out⟩,?_⟩
    ·exact (set_row0 HB.out _)
    ·exact grown_set w _ _
   ·have h2:¬ cap=1:=h1
    go_enter Tryz.func93,Tryz.ntmps93
    go_wp2_with fail
    refine C.out.mono ?_
    rintro e w' ⟨he,rfl⟩
    rw[HS.out] at he
    subst he
    go_wp2
    go_ret2
    refine⟨rfl,⟨_,cap - 1,set_row0 HB.out _,?_,by show l.length≤_;omega,fun b' o' e=>by injection e with e;injection e with e;rw[← e];exact NN.out⟩,grown_set w _ _⟩
    have hne:=toks_block_ne (l:=t :: l) (B:=B) HT.out (by simp) HB.out rfl
    exact toks_keep (toks_tail (l:=l) HT.out (by omega)) (fun o=>World.cell?_setCell_other _ _ _ _ (fun e=>by injection e with e;exact hne e.symm))
def IntPost (w:World)(x:Int)(e:Ending)(w':World):Prop:=e=.returned (.int .i64 x)∧Below w.heap.size w w'
theorem ret_int {k:IntKind}{a b:Int}(h:a=b):Ending.returned (.int k a)=.returned (.int k b):=by rw[h]
set_option maxHeartbeats 800000 in
theorem depth_any:∀ (t:Ty) (S:Nat→Prop) (v:Value) (w:World),TyAt S w v t→(∀ b,S b→b<w.heap.size)→t.depth≤100000 →
  Calls Tryz.prog 30 #[v] w (IntPost w t.depth):=by
 intro t
 induction t using Ty.ind with
 | h t ih =>
  intro S v w hT hn hd
  obtain⟨sv,rfl,hA⟩:=hT
  obtain⟨a,cap,rfl,hl⟩:=hA.form
  have hde:=t.depth_eq
  have IH:=hid ih
  have AH:=hid hA
  have HN:=hid hn
  have DE:=hid hde
  clear ih hA hde hn
  go_enter Tryz.func30,Tryz.ntmps30
  go_wp2
  go_loopw [3,9] (fun mv iv wr=>∃ i:Nat,iv=.int .i64 i∧i≤t.args.length∧mv=.int .i64 (depthL (t.args.take i):Nat)∧Below w.heap.size w wr) (fun _ iv _=>t.args.length - (intOf iv).toNat)
  case atStart=>exact⟨0,rfl,Nat.zero_le _,by simp[depthL],(Below.refl _ _).alloc (Nat.le_refl _) _⟩
  case round =>
   obtain⟨i,rfl,hil,rfl,hB⟩:=hrel
   have z0:(0:Int)≤(i:Int):=by omega
   have BH:=hid hB
   by_cases hi:i<t.args.length
   ·have z1:(i:Int)<(t.args.length:Int):=by omega
    obtain⟨b,off,a',cap',rfl,hb,hf,hs⟩:=AH.out.at_ hi
    have hn:=HN.out
    have hbl:=hn b hb
    obtain⟨f0,f1,f2,f3⟩:=hf.keep (hB.block b hbl)
    have hm:=List.getElem_mem hi
    have hdi:=depth_arg _ hm
    have hdt:=depthL_take _ _ hi
    have C:=fun (W:World) (hb:Below w.heap.size w W)=>IH.out _ hm S (.agg #[.int .i64 t.args[i].kind,.string t.args[i].name,.int .i64 t.args[i].n,.slice a' t.args[i].args.length cap']) W ⟨_,rfl,hs.keep fun b hS=>hb.block b (hn b hS)⟩ (fun b hS=>Nat.lt_of_lt_of_le (hn b hS) hb.size) (by have:=DE.out;omega)
    have CH:=hid C
    have DT:=hid hdt
    have hdd:t.args[i].depth≤100000:=by have:=DE.out;omega
    have hdl:depthL (t.args.take i)≤depthL t.args:=by
     conv=>rhs;rw[← List.take_append_drop i t.args,depthL_append]
     omega
    have hdl2:depthL (t.args.take i)≤100000:=by have:=DE.out;omega
    have hsz:=hB.size
    clear hf hs hB C hm hdi hdt hdl hn hb
    generalize t.args[i]=x at *
    generalize depthL (t.args.take i)=m at *
    go_wp2_with fail
    refine (CH.out _ (BH.out.alloc (by omega) _)).mono ?_
    rintro e w4 ⟨rfl,B4⟩
    have B5:=hid ((BH.out.alloc (by omega) (.cells #[.int .i64 x.kind,.string x.name,.int .i64 x.n,.slice a' x.args.length cap'] 30)).trans (B4.mono (by simp;omega)))
    have em:(if m<x.depth then (x.depth:Int) else (m:Int))=((max m x.depth:Nat):Int):=by split<;>omega
    clear B4
    go_wp2
    go_roundw
    case rel=>exact⟨i+1,by go_num,by omega,by rw[DT.out],B5.out⟩
    case measure=>simp[intOf];omega
   ·obtain rfl:i=t.args.length:=by omega
    have hdl2:depthL t.args≤100000:=by have:=DE.out;omega
    clear hB
    go_wp2
    go_ret
    exact⟨ret_int (by rw[DE.out];omega),BH.out⟩
end Go.Proofs.YtkihnodkhnahiaaGreatDoor.Tp

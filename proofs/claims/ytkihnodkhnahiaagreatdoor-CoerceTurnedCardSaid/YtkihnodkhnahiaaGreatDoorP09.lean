/- Texts laid together: TyPrint, TyWalkP, TyFreshP, TyAtomic. -/
import Derived.Test.YtkihnodkhnahiaaGreatDoorP04
import Derived.Lib.ItoaMem
import Derived.Test.YtkihnodkhnahiaaGreatDoorP05

namespace Go.Proofs.YtkihnodkhnahiaaGreatDoor.Tp
def Ty.atomic (t:Ty):Bool:=t.kind==1 || t.kind==2 || t.kind==3&&t.args.isEmpty
def paren (bare:Bool)(p:List UInt8):List UInt8:=if bare then p else 40 :: (p++[41])
def forallT:List UInt8:=[102,111,114,97,108,108,32]
def render (k:Int)(s:ByteArray)(n:Int)(args:List Ty)(ps:List (List UInt8)):List UInt8 :=
 if k=2 then 63 :: Lib.itoa n
 else if k=3 then s.data.toList++(args.zip ps).flatMap fun x=>32 :: paren x.1.atomic x.2
 else if k=4 then (match args,ps with
  | a :: _,p :: q :: _=>paren (decide (a.kind<4)) p++[32,45,62,32]++q
  | _,_=>[])
 else if k=5 then (match args,ps with
  | a :: _,p :: _=>forallT++s.data.toList++(if a.kind=5 then 32 :: p.drop 7 else [46,32]++p)
  | _,_=>[])
 else s.data.toList
mutual
def printT:Ty→List UInt8
 | .mk k s n args=>render k s n args (printL args)
def printL:List Ty→List (List UInt8)
 | []=>[]
 | t :: ts=>printT t :: printL ts
end
theorem printL_map (ts:List Ty):printL ts=ts.map printT:=by
 induction ts with
 | nil=>rfl
 | cons t ts ih=>rw[printL,ih];rfl
theorem printT_eq (t:Ty):printT t=render t.kind t.name t.n t.args (t.args.map printT):=by
 cases t with
 | mk k s n args=>rw[printT,printL_map];rfl
mutual
def Wf:Ty→Prop
 | .mk k _ n args=>(k=1∧args=[]∨k=2∧args=[]∧0≤n∧n<1000000000000000000∨k=3∨k=4∧args.length=2∨k=5∧args.length=1)∧WfL args
def WfL:List Ty→Prop
 | []=>True
 | t :: ts=>Wf t∧WfL ts
end
theorem WfL_iff (ts:List Ty):WfL ts↔∀ t∈ts,Wf t:=by
 induction ts with
 | nil=>simp[WfL]
 | cons t ts ih=>rw[WfL,ih];simp
theorem wf_iff (t:Ty):Wf t↔(t.kind=1∧t.args=[]∨t.kind=2∧t.args=[]∧0≤t.n∧t.n<1000000000000000000∨t.kind=3∨t.kind=4∧t.args.length=2∨t.kind=5∧t.args.length=1)∧∀ a∈t.args,Wf a:=by
 cases t with
 | mk k s n args=>rw[Wf,WfL_iff];rfl
mutual
def Ty.size:Ty→Nat
 | .mk _ _ _ args=>sizeL args+1
def sizeL:List Ty→Nat
 | []=>0
 | t :: ts=>t.size+sizeL ts
end
theorem Ty.size_eq (t:Ty):t.size=sizeL t.args+1:=by cases t;simp[Ty.size,Ty.args]
theorem sizeL_append (a b:List Ty):sizeL (a++b)=sizeL a+sizeL b:=by
 induction a with
 | nil=>simp[sizeL]
 | cons t ts ih=>simp only[List.cons_append,sizeL,ih];omega
theorem sizeL_take (ts:List Ty)(i:Nat)(h:i<ts.length):sizeL (ts.take (i+1))=sizeL (ts.take i)+ts[i].size:=by
 rw[List.take_add_one,List.getElem?_eq_getElem h,sizeL_append];simp[sizeL]
theorem size_arg (ts:List Ty){a:Ty}(h:a∈ts):a.size≤sizeL ts:=by
 induction ts with
 | nil=>cases h
 | cons t ts ih =>
  rw[sizeL]
  rcases List.mem_cons.1 h with rfl|h
  ·omega
  ·have:=ih h;omega
theorem sizeL_take_le (ts:List Ty)(i:Nat):sizeL (ts.take i)≤sizeL ts:=by
 conv=>rhs;rw[← List.take_append_drop i ts,sizeL_append]
 omega
theorem length_le_sizeL (ts:List Ty):ts.length≤sizeL ts:=by
 induction ts with
 | nil=>simp
 | cons t ts ih=>rw[sizeL,List.length_cons,t.size_eq];omega
section
variable {G : Type} (step : G → Ty → List ByteArray → G)
mutual
def walkF:Ty→G→List ByteArray→G
 | .mk k s n args,g,ns=>walkL args (step g (.mk k s n args) ns) (if k=5 then s :: ns else ns)
def walkL:List Ty→G→List ByteArray→G
 | [],g,_=>g
 | t :: ts,g,ns=>walkL ts (walkF t g ns) ns
end
end
theorem walkF_eq {G:Type}(step:G→Ty→List ByteArray→G)(t:Ty)(g:G)(ns:List ByteArray):walkF step t g ns=walkL step t.args (step g t ns) (if t.kind=5 then t.name :: ns else ns):=by
 cases t with
 | mk k s n args=>rw[walkF];rfl
theorem walkL_append {G:Type}(step:G→Ty→List ByteArray→G)(a b:List Ty)(g:G)(ns:List ByteArray):walkL step (a++b) g ns=walkL step b (walkL step a g ns) ns:=by
 induction a generalizing g with
 | nil=>rfl
 | cons t ts ih=>rw[List.cons_append,walkL,walkL,ih]
theorem walkL_take {G:Type}(step:G→Ty→List ByteArray→G)(ts:List Ty)(i:Nat)(h:i<ts.length)(g:G)(ns:List ByteArray):walkL step (ts.take (i+1)) g ns=walkF step ts[i] (walkL step (ts.take i) g ns) ns:=by
 rw[List.take_add_one,List.getElem?_eq_getElem h,walkL_append];rfl
def hasN (l:List ByteArray)(x:ByteArray):Bool:=l.any fun y=>decide (y.data=x.data)
theorem hasN_iff (l:List ByteArray)(x:ByteArray):hasN l x=true↔x∈l:=by
 unfold hasN
 rw[List.any_eq_true]
 constructor
 ·rintro ⟨y,hy,h⟩
  have:y=x:=ByteArray.ext (by simpa using h)
  exact this ▸ hy
 ·intro h
  exact⟨x,h,by simp⟩
def freeStep (out:List ByteArray)(x:Ty)(ns:List ByteArray):List ByteArray:=if x.kind==1&&!hasN ns x.name&&!hasN out x.name then out++[x.name] else out
def metaStep (out:List Int)(x:Ty)(_:List ByteArray):List Int:=if x.kind==2&&!out.contains x.n then out++[x.n] else out
def freeT (t:Ty):List ByteArray:=walkF freeStep t [] []
theorem numL_snoc (l:List UInt8)(c:UInt8):numL (l++[c])=10*numL l+(c.toNat - 48):=by simp[numL,List.foldl_append]
theorem numL_dec (u:Nat):numL (Lib.decDigits u)=u:=by
 induction u using Nat.strongRecOn with
 | _ u ih =>
  rw[Lib.decDigits]
  have dig:∀ d,d<10→(UInt8.ofNat (48+d)).toNat - 48=d:=fun d hd=>by
   rw[UInt8.toNat_ofNat'];omega
  split
  ·next h=>simp only[numL,List.foldl_cons,List.foldl_nil];rw[dig u h];omega
  ·next h=>rw[numL_snoc,ih (u / 10) (by omega),dig (u % 10) (by omega)];omega
theorem itoa_inj {a b:Nat}(h:Lib.itoa (a:Int)=Lib.itoa (b:Int)):a=b:=by
 rw[Lib.itoa_nonneg,Lib.itoa_nonneg] at h
 rw[← numL_dec a,h,numL_dec]
def xname (n:Nat):ByteArray:=⟨#[120]⟩++bytes (Lib.itoa (n:Int))
def fname (nm:ByteArray)(i:Nat):ByteArray:=nm.extract 0 1++⟨#[95]⟩++bytes (Lib.itoa (i:Int))
theorem bytes_inj {a b:List UInt8}(h:bytes a=bytes b):a=b:=by
 have:=congrArg (fun x=>x.data.toList) h
 exact this
theorem app_inj {p a b:ByteArray}(h:p++a=p++b):a=b:=by
 have:=congrArg (fun x=>x.data.toList) h
 simp at this
 exact ByteArray.ext this
theorem xname_inj {a b:Nat}(h:xname a=xname b):a=b:=itoa_inj (bytes_inj (app_inj h))
theorem fname_inj {nm:ByteArray}{a b:Nat}(h:fname nm a=fname nm b):a=b:=itoa_inj (bytes_inj (app_inj h))
theorem hasN_false (l:List ByteArray)(x:ByteArray):hasN l x=false↔x∉l:=by
 rw[← Bool.not_eq_true,hasN_iff]
def firstN (f:Nat→ByteArray)(but:List ByteArray):Nat→Nat→Nat
 | 0,i=>i
 | k+1,i=>if hasN but (f i) then firstN f but k (i+1) else i
theorem pigeon (f:Nat→ByteArray)(hf:∀ a b,f a=f b→a=b):∀ (k:Nat) (but:List ByteArray) (i:Nat),(∀ j,j<k→f (i+j)∈but)→k≤but.length:=by
 intro k
 induction k with
 | zero=>intro but i _;omega
 | succ k ih =>
  intro but i h
  have h1:=ih (but.filter fun y=>decide (y.data≠(f i).data)) (i+1) fun j hj=>by
   refine List.mem_filter.2 ⟨by have:=h (j+1) (by omega);rwa [show i+(j+1)=i+1+j by omega] at this,?_⟩
   simp only[decide_eq_true_eq]
   intro e
   have:=hf _ _ (ByteArray.ext e)
   omega
  have h2:(but.filter fun y=>decide (y.data≠(f i).data)).length<but.length :=
   List.length_filter_lt_length_iff_exists.2 ⟨f i,by simpa using h 0 (by omega),by simp⟩
  omega
theorem firstN_eq (f:Nat→ByteArray)(but:List ByteArray):∀ (k i r:Nat),i≤r→r<i+k→(∀ j,i≤j→j<r→hasN but (f j)=true)→hasN but (f r)=false→firstN f but k i=r:=by
 intro k
 induction k with
 | zero=>intro i r h1 h2;omega
 | succ k ih =>
  intro i r h1 h2 h3 h4
  rw[firstN]
  by_cases e:i=r
  ·subst e;rw[h4];rfl
  ·rw[if_pos (h3 i (Nat.le_refl _) (by omega))]
   exact ih (i+1) r (by omega) (by omega) (fun j hj hj'=>h3 j (by omega) hj') h4
theorem firstN_ex (f:Nat→ByteArray)(hf:∀ a b,f a=f b→a=b)(but:List ByteArray)(i:Nat):∃ r,i≤r∧r≤i+but.length∧(∀ j,i≤j→j<r→hasN but (f j)=true)∧hasN but (f r)=false:=by
 have key:∀ n,(∃ r,i≤r∧r<i+n∧(∀ j,i≤j→j<r→hasN but (f j)=true)∧hasN but (f r)=false)∨∀ j,j<n→hasN but (f (i+j))=true:=by
  intro n
  induction n with
  | zero=>exact .inr fun j hj=>by omega
  | succ n ih =>
   rcases ih with ⟨r,h1,h2,h3⟩|h
   ·exact .inl ⟨r,h1,by omega,h3⟩
   ·cases hb:hasN but (f (i+n)) with
    | false =>
     refine .inl ⟨i+n,by omega,by omega,fun j hj hj'=>?_,hb⟩
     have:=h (j - i) (by omega)
     rwa [show i+(j - i)=j by omega] at this
    | true =>
     refine .inr fun j hj=>?_
     by_cases e:j=n
     ·subst e;exact hb
     ·exact h j (by omega)
 rcases key (but.length+1) with ⟨r,h1,h2,h3,h4⟩|h
 ·exact⟨r,h1,by omega,h3,h4⟩
 ·have:=pigeon f hf (but.length+1) but i fun j hj=>(hasN_iff _ _).1 (h j hj)
  omega
theorem firstN_spec (f:Nat→ByteArray)(hf:∀ a b,f a=f b→a=b)(but:List ByteArray)(i:Nat) :
  i≤firstN f but (but.length+1) i∧firstN f but (but.length+1) i≤i+but.length∧(∀ j,i≤j→j<firstN f but (but.length+1) i→hasN but (f j)=true)∧hasN but (f (firstN f but (but.length+1) i))=false:=by
 obtain⟨r,h1,h2,h3,h4⟩:=firstN_ex f hf but i
 rw[firstN_eq f but (but.length+1) i r h1 (by omega) h3 h4]
 exact⟨h1,h2,h3,h4⟩
def freshT (nm:ByteArray)(but:List ByteArray):ByteArray:=fname nm (firstN (fname nm) but (but.length+1) 0)
def nextN (free:List ByteArray)(n:Nat):Nat:=firstN xname free (free.length+1) n
theorem freshT_not (nm:ByteArray)(but:List ByteArray):freshT nm but∉but:=(hasN_false _ _).1 (firstN_spec (fname nm) (fun _ _=>fname_inj) but 0).2.2.2
theorem nextN_not (free:List ByteArray)(n:Nat):xname (nextN free n)∉free:=(hasN_false _ _).1 (firstN_spec xname (fun _ _=>xname_inj) free n).2.2.2
end Go.Proofs.YtkihnodkhnahiaaGreatDoor.Tp

namespace Go.Proofs.YtkihnodkhnahiaaGreatDoor.Tp
open Go.RowKit
set_option maxHeartbeats 800000 in
theorem atomic_any (t:Ty)(w:World)(a:Option Addr)(c:Nat):Calls Tryz.prog 80 #[tv t a c] w fun e w'=>e=.returned (.bool t.atomic)∧Below w.heap.size w w':=by
 have e:t.atomic=(t.kind==1 || t.kind==2 || t.kind==3&&decide (t.args.length=0)):=by
  unfold Ty.atomic
  cases t.args<;>simp
 have E:=hid e
 have b4:=B4.new w (.int .i64 t.kind) (.string t.name) (.int .i64 t.n) (.slice a t.args.length c)
 have c0:=b4.c0
 have c3:=b4.c3
 have HZ:=hid ((Below.refl w.heap.size w).alloc (Nat.le_refl _) (.cells #[.int .i64 t.kind,.string t.name,.int .i64 t.n,.slice a t.args.length c] 30))
 clear e b4
 unfold tv
 generalize t.args.length=n at *
 by_cases h1:t.kind=1
 ·have z1:(t.kind==1)=true:=by rw[beq_iff_eq];exact h1
  have F:Hid (t.atomic=true):=hid (by rw[E.out,z1];rfl)
  clear h1
  go_enter Tryz.func80,Tryz.ntmps80
  go_wp2
  go_ret
  rw[F.out]
  exact⟨rfl,HZ.out⟩
 ·have z1:(t.kind==1)=false:=by rw[beq_eq_false_iff_ne];exact h1
  by_cases h2:t.kind=2
  ·have z2:(t.kind==2)=true:=by rw[beq_iff_eq];exact h2
   have F:Hid (t.atomic=true):=hid (by rw[E.out,z1,z2];rfl)
   clear h1 h2
   go_enter Tryz.func80,Tryz.ntmps80
   go_wp2
   go_ret
   rw[F.out]
   exact⟨rfl,HZ.out⟩
  ·have z2:(t.kind==2)=false:=by rw[beq_eq_false_iff_ne];exact h2
   by_cases h3:t.kind=3
   ·have z3:(t.kind==3)=true:=by rw[beq_iff_eq];exact h3
    have F:Hid (t.atomic=((n:Int)==0)):=hid (by
     rw[E.out,z1,z2,z3]
     by_cases h0:n=0
     ·subst h0;rfl
     ·have:((n:Int)==0)=false:=by rw[beq_eq_false_iff_ne];omega
      rw[this];simp[h0])
    clear h1 h2 h3
    cases hz:((n:Int)==0)
    ·go_enter Tryz.func80,Tryz.ntmps80
     go_wp2
     go_ret
     rw[F.out,hz]
     exact⟨rfl,HZ.out⟩
    ·go_enter Tryz.func80,Tryz.ntmps80
     go_wp2
     go_ret
     rw[F.out,hz]
     exact⟨rfl,HZ.out⟩
   ·have z3:(t.kind==3)=false:=by rw[beq_eq_false_iff_ne];exact h3
    have F:Hid (t.atomic=false):=hid (by rw[E.out,z1,z2,z3];rfl)
    clear h1 h2 h3
    go_enter Tryz.func80,Tryz.ntmps80
    go_wp2
    go_ret
    rw[F.out]
    exact⟨rfl,HZ.out⟩
end Go.Proofs.YtkihnodkhnahiaaGreatDoor.Tp

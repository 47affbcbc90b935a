/- Packed. -/
import Derived.Lib.ItoaMem
import Derived.Test.YtjecnionbjlncaaGreatDoorP06
import Derived.Lib.AppendIntMem
import Derived.Lib.ItoaLen
set_option maxRecDepth 100000
set_option maxHeartbeats 6400000
namespace Go.Proofs.YtjecnionbjlncaaGreatDoor.Tp
section
def Ty.atomic (t:Ty):Bool:=t.kind==1 || t.kind==2 || t.kind==3&&t.args.isEmpty
def da_ (bare:Bool)(p:List UInt8):List UInt8:=if bare then p else 40 :: (p++[41])
def eg_:List UInt8:=[102,111,114,97,108,108,32]
def fU_ (k:Int)(s:ByteArray)(n:Int)(args:List Ty)(ps:List (List UInt8)):List UInt8 :=
 if k=2 then 63 :: Lib.itoa n
 else if k=3 then s.data.toList++(args.zip ps).flatMap fun x=>32 :: da_ x.1.atomic x.2
 else if k=4 then (match args,ps with
  | a :: _,p :: q :: _=>da_ (decide (a.kind<4)) p++[32,45,62,32]++q
  | _,_=>[])
 else if k=5 then (match args,ps with
  | a :: _,p :: _=>eg_++s.data.toList++(if a.kind=5 then 32 :: p.drop 7 else [46,32]++p)
  | _,_=>[])
 else s.data.toList
mutual
def al_:Ty→List UInt8
 | .mk k s n args=>fU_ k s n args (kj_ args)
def kj_:List Ty→List (List UInt8)
 | []=>[]
 | t :: ts=>al_ t :: kj_ ts
end
theorem ll_ (ts:List Ty):kj_ ts=ts.map al_:=by
 induction ts with
 | nil=>rfl
 | cons t ts ih=>rw[kj_,ih];rfl
theorem bL_ (t:Ty):al_ t=fU_ t.kind t.name t.n t.args (t.args.map al_):=by
 cases t with
 | mk k s n args=>rw[al_,ll_];rfl
mutual
def Wf:Ty→Prop
 | .mk k _ n args=>(k=1∧args=[]∨k=2∧args=[]∧0≤n∧n<1000000000000000000∨k=3∨k=4∧args.length=2∨k=5∧args.length=1)∧WfL args
def WfL:List Ty→Prop
 | []=>True
 | t :: ts=>Wf t∧WfL ts
end
theorem rg_ (ts:List Ty):WfL ts↔∀ t∈ts,Wf t:=by
 induction ts with
 | nil=>simp[WfL]
 | cons t ts ih=>rw[WfL,ih];simp
theorem bK_ (t:Ty):Wf t↔(t.kind=1∧t.args=[]∨t.kind=2∧t.args=[]∧0≤t.n∧t.n<1000000000000000000∨t.kind=3∨t.kind=4∧t.args.length=2∨t.kind=5∧t.args.length=1)∧∀ a∈t.args,Wf a:=by
 cases t with
 | mk k s n args=>rw[Wf,rg_];rfl
end
section
open Go.RowKit
theorem lD_ (t:Ty)(w:World)(a:OA_)(c:Nat):Calls Tryz.prog 80 #[tv t a c] w fun e w'=>e=.returned (.bool t.atomic)∧Below w.heap.size w w':=by
 have e:t.atomic=(t.kind==1 || t.kind==2 || t.kind==3&&decide (t.args.length=0)):=by
  unfold Ty.atomic;cases t.args<;>simp
 have E:=hid e;have b4:=B4.new w (.int .i64 t.kind) (.string t.name) (.int .i64 t.n) (.slice a t.args.length c);have c0:=b4.c0;have c3:=b4.c3;have HZ:=hid (aw_ w (.cells #[.int .i64 t.kind,.string t.name,.int .i64 t.n,.slice a t.args.length c] 37));clear e b4;unfold tv;generalize t.args.length=n at *
 by_cases h1:t.kind=1
 ·have z1:(t.kind==1)=true:=by rw[beq_iff_eq];exact h1
  have F:Hid (t.atomic=true):=hid (by rw[E.out,z1];rfl);clear h1;go_enter Tryz.func80,Tryz.ntmps80;go_wp2;go_ret;rw[F.out];exact⟨rfl,HZ.out⟩
 ·have z1:(t.kind==1)=false:=by rw[beq_eq_false_iff_ne];exact h1
  by_cases h2:t.kind=2
  ·have z2:(t.kind==2)=true:=by rw[beq_iff_eq];exact h2
   have F:Hid (t.atomic=true):=hid (by rw[E.out,z1,z2];rfl);clear h1 h2;go_enter Tryz.func80,Tryz.ntmps80;go_wp2;go_ret;rw[F.out];exact⟨rfl,HZ.out⟩
  ·have z2:(t.kind==2)=false:=by rw[beq_eq_false_iff_ne];exact h2
   by_cases h3:t.kind=3
   ·have z3:(t.kind==3)=true:=by rw[beq_iff_eq];exact h3
    have F:Hid (t.atomic=((n:Int)==0)):=hid (by
     rw[E.out,z1,z2,z3]
     by_cases h0:n=0
     ·subst h0;rfl
     ·have:((n:Int)==0)=false:=by rw[beq_eq_false_iff_ne];omega
      rw[this];simp[h0])
    clear h1 h2 h3;cases hz:((n:Int)==0)
    ·go_enter Tryz.func80,Tryz.ntmps80
     go_wp2;go_ret;rw[F.out,hz];exact⟨rfl,HZ.out⟩
    ·go_enter Tryz.func80,Tryz.ntmps80
     go_wp2;go_ret;rw[F.out,hz];exact⟨rfl,HZ.out⟩
   ·have z3:(t.kind==3)=false:=by rw[beq_eq_false_iff_ne];exact h3
    have F:Hid (t.atomic=false):=hid (by rw[E.out,z1,z2,z3];rfl);clear h1 h2 h3;go_enter Tryz.func80,Tryz.ntmps80;go_wp2;go_ret;rw[F.out];exact⟨rfl,HZ.out⟩
def bX_ (w:World)(s:List UInt8)(e:Ending)(w':World):Prop:=e=.returned (.string (ab_ s))∧Below w.heap.size w w'
def Tab (w:World):Prop:=Lib.TabIs Tryz.prog w "internal/strconv.uint64pow10" .u64 Lib.pow10Tab
def b5_ (t:Ty):Prop:=∀ (S:Nat→Prop) (a:OA_) (c:Nat) (w:World),aa_ S w (.slice a t.args.length c) t.args→(∀ b,S b→b<w.heap.size)→Wf t→(al_ t).length≤4500000000000→Tab w →
 Calls Tryz.prog 42 #[tv t a c] w (bX_ w (al_ t))
theorem bt_ (a b:List UInt8):ab_ a++ab_ b=ab_ (a++b):=by
 apply ByteArray.ext;simp[ab_]
theorem aU_ (a:List UInt8):(ab_ a).size=a.length:=by simp[ab_,ByteArray.size]
theorem hE_ (t:Ty)(hp:b5_ t)(S:Nat→Prop)(a:OA_)(c:Nat)(w:World)(hA:aa_ S w (.slice a t.args.length c) t.args)(hS:∀ b,S b→b<w.heap.size)(hw:Wf t)(hl:(al_ t).length≤4500000000000)
  (ht:∀ w',Below w.heap.size w w'→Tab w') (bare:Bool):Calls Tryz.prog 79 #[tv t a c,.bool bare] w (bX_ w (da_ bare (al_ t))):=by
 have hz:=aw_ w (.cells #[.int .i64 t.kind,.string t.name,.int .i64 t.n,.slice a t.args.length c] 37);have C:=hid (hp S a c _ (hA.keep (fun b hb=>hz.block b (hS b hb))) (fun b hb=>by have:=hS b hb;simp;omega) hw hl (ht _ hz));have b4:=B4.new w (.int .i64 t.kind) (.string t.name) (.int .i64 t.n) (.slice a t.args.length c);obtain⟨c0,c1,c2,c3⟩:=b4.c03;have HZ:=hid hz;clear hz b4 hA hS hw hp ht;cases bare
 ·unfold tv at *
  have hsz:(ab_ (al_ t)).size≤4500000000000:=by rw[aU_];exact hl
  have E:Hid ((⟨#[40]⟩:ByteArray)++ab_ (al_ t)++⟨#[41]⟩=ab_ (da_ false (al_ t))):=hid (by
   show ab_ [40]++ab_ (al_ t)++ab_ [41]=_;rw[bt_,bt_];rfl)
  clear hl;go_enter Tryz.func79,Tryz.ntmps79;go_wp2_with fail;refine C.out.mono ?_;rintro e w1 ⟨rfl,hb⟩;generalize ab_ (al_ t)=s at *;have z1:(⟨#[40]⟩++s:ByteArray).size≤4500000000001:=by rw[ByteArray.size_append];show 1+s.size≤_;omega
  go_wp2;go_ret;exact⟨by rw[← E.out];rfl,HZ.out.trans (hb.mono HZ.out.size)⟩
 ·unfold tv at *
  go_enter Tryz.func79,Tryz.ntmps79;go_wp2_with fail;refine C.out.mono ?_;rintro e w1 ⟨rfl,hb⟩;go_wp2;go_ret;exact⟨rfl,HZ.out.trans (hb.mono HZ.out.size)⟩
theorem j3_ {w w':World}(h:Tab w):0<w.heap.size∧(w'.heap[0]? = w.heap[0]?→Tab w'):=by
 have hg:Tryz.prog.globalNamed "internal/strconv.uint64pow10" = some 0:=by kernel_rfl
 unfold Tab Lib.TabIs World.var? at h ⊢;rw[hg] at h ⊢;simp only[Option.bind_some] at h ⊢;refine⟨?_,fun e=>by rw[e];exact h⟩
 rcases Nat.lt_or_ge 0 w.heap.size with h'|h'
 ·exact h'
 ·rw[Array.getElem?_eq_none h'] at h;cases h
theorem ag_ {w w':World}(h:Tab w)(hb:Below w.heap.size w w'):Tab w':=(j3_ h).2 (hb.block _ (j3_ (w':=w') h).1)
theorem mF_ (t:Ty)(hk:t.kind=1)(a:OA_)(c:Nat)(w:World):Calls Tryz.prog 42 #[tv t a c] w (bX_ w (al_ t)):=by
 have E:Hid (ab_ (al_ t)=t.name):=hid (by rw[bL_,hk];rfl);have HZ:=hid (aw_ w (.cells #[.int .i64 t.kind,.string t.name,.int .i64 t.n,.slice a t.args.length c] 37));have b4:=B4.new w (.int .i64 t.kind) (.string t.name) (.int .i64 t.n) (.slice a t.args.length c);unfold tv;generalize t.args.length=n at *;rw[hk] at *;have c0:=b4.c0;have c1:=b4.c1;clear b4;go_enter Tryz.func42,Tryz.ntmps42;go_wp2;go_ret;exact⟨by rw[E.out];rfl,HZ.out⟩
theorem lg_ (t:Ty)(hk:t.kind=2)(h0:0≤t.n)(h1:t.n<1000000000000000000)(a:OA_)(c:Nat)(w:World)(ht:Tab w):Calls Tryz.prog 42 #[tv t a c] w (bX_ w (al_ t)):=by
 have E:Hid (al_ t=63 :: Lib.itoa t.n):=hid (by rw[bL_,hk];rfl);have hz:=aw_ w (.cells #[.int .i64 t.kind,.string t.name,.int .i64 t.n,.slice a t.args.length c] 37);have C:=hid (Tryz.strconv_Itoa t.n (by omega) (by omega) _ (ag_ ht hz));have HZ:=hid hz;have b4:=B4.new w (.int .i64 t.kind) (.string t.name) (.int .i64 t.n) (.slice a t.args.length c);have hlen:=Lib.itoa_length_le t.n (by omega) (by omega);have z1:(ab_ (Lib.itoa t.n)).size≤21:=by rw[aU_];exact hlen
 clear hz ht hlen;unfold tv;generalize t.args.length=n at *;rw[hk] at *;have c0:=b4.c0;have c2:=b4.c2;clear b4;go_enter Tryz.func42,Tryz.ntmps42;go_wp2_with fail;refine C.out.mono ?_;rintro e w1 ⟨rfl,k,os,rfl⟩;have hb:=hid (Lib.below_grow w.heap.size (w.alloc (.cells #[.int .i64 2,.string t.name,.int .i64 t.n,.slice a n c] 37)) (by simp) k os);have F:Hid ((⟨#[63]⟩:ByteArray)++ab_ (Lib.itoa t.n)=ab_ (al_ t)):=hid (by
  rw[E.out];show ab_ [63]++_=_;rw[bt_];rfl)
 have hbb:(⟨(Lib.itoa t.n).toArray⟩:ByteArray)=ab_ (Lib.itoa t.n):=rfl;rw[hbb];generalize ab_ (Lib.itoa t.n)=s at *;go_wp2;go_ret;exact⟨by rw[← F.out];rfl,HZ.out.trans hb.out⟩
end
end Go.Proofs.YtjecnionbjlncaaGreatDoor.Tp

/- Packed. -/
set_option maxRecDepth 100000
set_option maxHeartbeats 6400000
namespace Go.Proofs.YtjecnionbjlncaaGreatDoor.Lx
def aV_ (c:UInt8):Bool:=decide (97≤c.toNat∧c.toNat≤122)
def aO_ (c:UInt8):Bool:=decide (65≤c.toNat∧c.toNat≤90)
def as_ (c:UInt8):Bool:=decide (48≤c.toNat∧c.toNat≤57)
def aF_ (c:UInt8):Bool:=aV_ c || aO_ c || as_ c || decide (c.toNat=95)
def bg_ (p:UInt8→Bool)(l:List UInt8):Nat:=(l.takeWhile p).length
theorem ei_ (p:UInt8→Bool)(l:List UInt8):bg_ p l≤l.length:=by
 unfold bg_;induction l with
 | nil=>simp
 | cons a l ih=>simp only[List.takeWhile_cons];split<;>simp<;>omega
theorem fA_ (p:UInt8→Bool)(l:List UInt8)(k:Nat)(h:(l.take k).all p=true)(hk:k<l.length)(hp:p l[k]=false):bg_ p l=k:=by
 unfold bg_
 induction l generalizing k with
 | nil=>simp at hk
 | cons a l ih =>
  cases k with
  | zero=>simp at hp;simp[hp]
  | succ k =>
   simp at h hp hk;simp[h.1];exact ih k (by simpa using h.2) hk hp
theorem e6_ (p:UInt8→Bool)(l:List UInt8)(h:l.all p=true):bg_ p l=l.length:=by
 unfold bg_;induction l with
 | nil=>rfl
 | cons a l ih=>simp at h;simp[h.1];exact ih (by simpa using h.2)
def jk_:List (List UInt8):=[[100,97,116,97],[108,101,116],[105,110],[99,97,115,101],[111,102],[102,111,114,97,108,108]]
def dK_ (l:List UInt8):Nat :=
 if jk_.contains l then 3 else if aO_ (l.headD 0) then 2 else 1
def aL_ (l:List UInt8):Nat :=
 if 6<bg_ as_ l∨1<bg_ as_ l∧l.headD 0=48 then 0 else bg_ as_ l
def gl_:List UInt8:=[92,58,61,59,123,125,40,41,46,126,64,60,62,44,91,93,33]
def au_ (l:List UInt8):Nat × Nat :=
 if aV_ (l.headD 0) || aO_ (l.headD 0) then
  if 16<bg_ aF_ l then (0,0) else (dK_ (l.take (bg_ aF_ l)),bg_ aF_ l)
 else if as_ (l.headD 0) then (4,aL_ l)
 else if l.headD 0=63 then (if aL_ (l.drop 1)=0 then (0,0) else (5,aL_ (l.drop 1)+1))
 else if [45,62].isPrefixOf l || [124,62].isPrefixOf l then (6,2)
 else if gl_.contains (l.headD 0) then (6,1)
 else (0,0)
def ab_:Bool→List UInt8→Nat
 | _,[]=>0
 | r,c :: l =>
  if c=35 then ab_ true l+1
  else if c=10 then ab_ false l+1
  else if !r&&c != 32&&c != 9 then 0
  else ab_ r l+1
theorem dP_ (r:Bool)(l:List UInt8):ab_ r l≤l.length:=by
 induction l generalizing r with
 | nil=>simp[ab_]
 | cons c l ih =>
  simp only[ab_];have h1:=ih true;have h2:=ih false;have h3:=ih r
  split
  ·simp;omega
  ·split
   ·simp;omega
   ·split
    ·simp
    ·simp;omega
structure Tok where
 kind:Nat
 text:List UInt8
 pos:Nat
deriving DecidableEq
theorem fK_ (l:List UInt8):aL_ l≤l.length:=by
 have:=ei_ as_ l;unfold aL_;split<;>omega
theorem ll_ (a b:UInt8)(l:List UInt8)(h:([a,b]:List UInt8).isPrefixOf l=true):2≤l.length:=by
 match l,h with
 | [],h=>simp[List.isPrefixOf] at h
 | [x],h=>simp[List.isPrefixOf] at h
 | x :: y :: l,_=>simp
theorem dW_ (l:List UInt8)(h:l≠[]):(au_ l).2≤l.length:=by
 have h1:1≤l.length:=by cases l with
  | nil=>exact absurd rfl h
  | cons a l=>simp
 have a1:=ei_ aF_ l;have a2:=fK_ l;have a3:=fK_ (l.drop 1);rw[List.length_drop] at a3;unfold au_
 repeat' split
 all_goals first
  | omega
  | (simp;done)
  | (simp;omega)
  | (rename_i hp;simp only[Bool.or_eq_true] at hp;rcases hp with hp|hp<;>exact ll_ _ _ _ hp)
def db_:Nat→List UInt8→Nat→List Tok→List Tok × Nat × Nat
 | 0,_,_,acc=>(acc,0,0)
 | n+1,l,p,acc =>
  if l=[] then (acc,0,0)
  else if (au_ l).2=0 then ([],p,10)
  else db_ n ((l.drop (au_ l).2).drop (ab_ false (l.drop (au_ l).2))) (p+(au_ l).2+ab_ false (l.drop (au_ l).2))
   (acc++[⟨(au_ l).1,l.take (au_ l).2,p⟩])
theorem jv_ (n:Nat):∀ (l:List UInt8) (p:Nat) (acc:List Tok) (m:Nat),l.length≤n→n≤m→db_ m l p acc=db_ n l p acc:=by
 induction n with
 | zero =>
  intro l p acc m hl _;have:l=[]:=List.length_eq_zero_iff.1 (by omega);subst this;cases m<;>simp[db_]
 | succ n ih =>
  intro l p acc m hl hm;obtain⟨m,rfl⟩:∃ k,m=k+1:=⟨m - 1,by omega⟩;simp only[db_]
  split
  ·rfl
  ·split
   ·rfl
   ·rename_i h1 h2
    refine ih _ _ _ _ ?_ (by omega);have:1≤l.length:=by cases l with
     | nil=>exact absurd rfl h1
     | cons a l=>simp
    simp only[List.length_drop];omega
def du_ (l:List UInt8)(p:Nat)(acc:List Tok):List Tok × Nat × Nat:=db_ l.length l p acc
theorem fG_ (p:Nat)(acc:List Tok):du_ [] p acc=(acc,0,0):=rfl
theorem en_ (l:List UInt8)(p:Nat)(acc:List Tok)(h:l≠[])(h2:(au_ l).2=0):du_ l p acc=([],p,10):=by
 unfold du_;cases l with
 | nil=>exact absurd rfl h
 | cons a l=>simp only[List.length_cons,db_];rw[if_neg h,if_pos h2]
theorem dG_ (l:List UInt8)(p:Nat)(acc:List Tok)(h:l≠[])(h2:(au_ l).2≠0) :
  du_ l p acc=du_ ((l.drop (au_ l).2).drop (ab_ false (l.drop (au_ l).2))) (p+(au_ l).2+ab_ false (l.drop (au_ l).2))
   (acc++[⟨(au_ l).1,l.take (au_ l).2,p⟩]):=by
 unfold du_;cases l with
 | nil=>exact absurd rfl h
 | cons a l =>
  simp only[List.length_cons,db_];rw[if_neg h,if_neg h2];refine jv_ _ _ _ _ _ (Nat.le_refl _) ?_;simp only[List.length_drop,List.length_cons];omega
def bJ_ (l:List UInt8):List Tok × Nat × Nat :=
 if 4000<l.length then ([],0,2) else du_ (l.drop (ab_ false l)) (ab_ false l) []
theorem gY_ (p:UInt8→Bool)(l:List UInt8)(h:∀ c∈l,p c=true):bg_ p l=l.length:=e6_ p l (by simpa using h)
theorem rD_ (l:List UInt8)(hs:l.length≤4000)(h0:(aV_ (l.headD 0) || aO_ (l.headD 0))=true)(hn:l≠[])(hi:∀ c∈l,aF_ c=true) :
  bJ_ l=if 16<l.length then ([],0,10) else ([⟨dK_ l,l,0⟩],0,0):=by
 have hb:ab_ false l=0:=by
  cases l with
  | nil=>rfl
  | cons c l =>
   simp only[List.headD_cons,aV_,aO_,Bool.or_eq_true] at h0;simp only[ab_];have n1:¬ c=35:=by intro h;subst h;simp at h0
   have n2:¬ c=10:=by intro h;subst h;simp at h0
   have n3:¬ c=32:=by intro h;subst h;simp at h0
   have n4:¬ c=9:=by intro h;subst h;simp at h0
   simp[n1,n2,n3,n4]
 have ht:au_ l=if 16<l.length then (0,0) else (dK_ l,l.length):=by
  unfold au_;rw[if_pos h0,gY_ _ _ hi,List.take_length]
 have hl:l.length≠0:=by intro h;exact hn (List.length_eq_zero_iff.1 h)
 rw[bJ_,if_neg (by omega),hb,List.drop_zero]
 by_cases h16:16<l.length
 ·rw[if_pos h16] at *
  exact en_ l 0 [] hn (by rw[ht])
 ·rw[if_neg h16] at *
  rw[dG_ l 0 [] hn (by rw[ht];exact hl),ht];simp[ab_,fG_]
end Go.Proofs.YtjecnionbjlncaaGreatDoor.Lx

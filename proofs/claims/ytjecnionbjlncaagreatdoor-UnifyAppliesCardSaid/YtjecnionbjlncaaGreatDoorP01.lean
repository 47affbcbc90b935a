/- Packed. -/
set_option maxRecDepth 100000
set_option maxHeartbeats 6400000
namespace Go.Proofs.YtjecnionbjlncaaGreatDoor.Lx
def bd_ (c:UInt8):Bool:=decide (97≤c.toNat∧c.toNat≤122)
def a1_ (c:UInt8):Bool:=decide (65≤c.toNat∧c.toNat≤90)
def aE_ (c:UInt8):Bool:=decide (48≤c.toNat∧c.toNat≤57)
def aT_ (c:UInt8):Bool:=bd_ c || a1_ c || aE_ c || decide (c.toNat=95)
def bt_ (p:UInt8→Bool)(l:List UInt8):Nat:=(l.takeWhile p).length
theorem ek_ (p:UInt8→Bool)(l:List UInt8):bt_ p l≤l.length:=by
 unfold bt_;induction l with
 | nil=>simp
 | cons a l ih=>simp only[List.takeWhile_cons];split<;>simp<;>omega
theorem fq_ (p:UInt8→Bool)(l:List UInt8)(k:Nat)(h:(l.take k).all p=true)(hk:k<l.length)(hp:p l[k]=false):bt_ p l=k:=by
 unfold bt_
 induction l generalizing k with
 | nil=>simp at hk
 | cons a l ih =>
  cases k with
  | zero=>simp at hp;simp[hp]
  | succ k =>
   simp at h hp hk;simp[h.1];exact ih k (by simpa using h.2) hk hp
theorem gb_ (p:UInt8→Bool)(l:List UInt8)(h:l.all p=true):bt_ p l=l.length:=by
 unfold bt_;induction l with
 | nil=>rfl
 | cons a l ih=>simp at h;simp[h.1];exact ih (by simpa using h.2)
def ky_:List (List UInt8):=[[100,97,116,97],[108,101,116],[105,110],[99,97,115,101],[111,102],[102,111,114,97,108,108]]
def e7_ (l:List UInt8):Nat :=
 if ky_.contains l then 3 else if a1_ (l.headD 0) then 2 else 1
def aQ_ (l:List UInt8):Nat :=
 if 6<bt_ aE_ l∨1<bt_ aE_ l∧l.headD 0=48 then 0 else bt_ aE_ l
def gc_:List UInt8:=[92,58,61,59,123,125,40,41,46,126,64,60,62,44,91,93,33]
def a2_ (l:List UInt8):Nat × Nat :=
 if bd_ (l.headD 0) || a1_ (l.headD 0) then
  if 16<bt_ aT_ l then (0,0) else (e7_ (l.take (bt_ aT_ l)),bt_ aT_ l)
 else if aE_ (l.headD 0) then (4,aQ_ l)
 else if l.headD 0=63 then (if aQ_ (l.drop 1)=0 then (0,0) else (5,aQ_ (l.drop 1)+1))
 else if [45,62].isPrefixOf l || [124,62].isPrefixOf l then (6,2)
 else if gc_.contains (l.headD 0) then (6,1)
 else (0,0)
def aC_:Bool→List UInt8→Nat
 | _,[]=>0
 | r,c :: l =>
  if c=35 then aC_ true l+1
  else if c=10 then aC_ false l+1
  else if !r&&c != 32&&c != 9 then 0
  else aC_ r l+1
theorem gG_ (r:Bool)(l:List UInt8):aC_ r l≤l.length:=by
 induction l generalizing r with
 | nil=>simp[aC_]
 | cons c l ih =>
  simp only[aC_];have h1:=ih true;have h2:=ih false;have h3:=ih r
  split
  ·simp;omega
  ·split
   ·simp;omega
   ·split
    ·simp
    ·simp;omega
structure Tok where
 kind:Nat
 text:List UInt8
 pos:Nat
deriving DecidableEq
theorem fx_ (l:List UInt8):aQ_ l≤l.length:=by
 have:=ek_ aE_ l;unfold aQ_;split<;>omega
theorem lx_ (a b:UInt8)(l:List UInt8)(h:([a,b]:List UInt8).isPrefixOf l=true):2≤l.length:=by
 match l,h with
 | [],h=>simp[List.isPrefixOf] at h
 | [x],h=>simp[List.isPrefixOf] at h
 | x :: y :: l,_=>simp
theorem f9_ (l:List UInt8)(h:l≠[]):(a2_ l).2≤l.length:=by
 have h1:1≤l.length:=by cases l with
  | nil=>exact absurd rfl h
  | cons a l=>simp
 have a1:=ek_ aT_ l;have a2:=fx_ l;have a3:=fx_ (l.drop 1);rw[List.length_drop] at a3;unfold a2_
 repeat' split
 all_goals first
  | omega
  | (simp;done)
  | (simp;omega)
  | (rename_i hp;simp only[Bool.or_eq_true] at hp;rcases hp with hp|hp<;>exact lx_ _ _ _ hp)
def dc_:Nat→List UInt8→Nat→List Tok→List Tok × Nat × Nat
 | 0,_,_,acc=>(acc,0,0)
 | n+1,l,p,acc =>
  if l=[] then (acc,0,0)
  else if (a2_ l).2=0 then ([],p,10)
  else dc_ n ((l.drop (a2_ l).2).drop (aC_ false (l.drop (a2_ l).2))) (p+(a2_ l).2+aC_ false (l.drop (a2_ l).2))
   (acc++[⟨(a2_ l).1,l.take (a2_ l).2,p⟩])
theorem ju_ (n:Nat):∀ (l:List UInt8) (p:Nat) (acc:List Tok) (m:Nat),l.length≤n→n≤m→dc_ m l p acc=dc_ n l p acc:=by
 induction n with
 | zero =>
  intro l p acc m hl _;have:l=[]:=List.length_eq_zero_iff.1 (by omega);subst this;cases m<;>simp[dc_]
 | succ n ih =>
  intro l p acc m hl hm;obtain⟨m,rfl⟩:∃ k,m=k+1:=⟨m - 1,by omega⟩;simp only[dc_]
  split
  ·rfl
  ·split
   ·rfl
   ·rename_i h1 h2
    refine ih _ _ _ _ ?_ (by omega);have:1≤l.length:=by cases l with
     | nil=>exact absurd rfl h1
     | cons a l=>simp
    simp only[List.length_drop];omega
def dR_ (l:List UInt8)(p:Nat)(acc:List Tok):List Tok × Nat × Nat:=dc_ l.length l p acc
theorem lc_ (p:Nat)(acc:List Tok):dR_ [] p acc=(acc,0,0):=rfl
theorem g1_ (l:List UInt8)(p:Nat)(acc:List Tok)(h:l≠[])(h2:(a2_ l).2=0):dR_ l p acc=([],p,10):=by
 unfold dR_;cases l with
 | nil=>exact absurd rfl h
 | cons a l=>simp only[List.length_cons,dc_];rw[if_neg h,if_pos h2]
theorem gf_ (l:List UInt8)(p:Nat)(acc:List Tok)(h:l≠[])(h2:(a2_ l).2≠0) :
  dR_ l p acc=dR_ ((l.drop (a2_ l).2).drop (aC_ false (l.drop (a2_ l).2))) (p+(a2_ l).2+aC_ false (l.drop (a2_ l).2))
   (acc++[⟨(a2_ l).1,l.take (a2_ l).2,p⟩]):=by
 unfold dR_;cases l with
 | nil=>exact absurd rfl h
 | cons a l =>
  simp only[List.length_cons,dc_];rw[if_neg h,if_neg h2];refine ju_ _ _ _ _ _ (Nat.le_refl _) ?_;simp only[List.length_drop,List.length_cons];omega
def cv_ (l:List UInt8):List Tok × Nat × Nat :=
 if 4000<l.length then ([],0,2) else dR_ (l.drop (aC_ false l)) (aC_ false l) []
end Go.Proofs.YtjecnionbjlncaaGreatDoor.Lx

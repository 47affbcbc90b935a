/- Packed. -/
set_option maxRecDepth 100000
set_option maxHeartbeats 6400000
namespace Go.Proofs.YtjecnionbjlncaaGreatDoor.Lx
def a9_ (c:UInt8):Bool:=decide (97≤c.toNat∧c.toNat≤122)
def aV_ (c:UInt8):Bool:=decide (65≤c.toNat∧c.toNat≤90)
def au_ (c:UInt8):Bool:=decide (48≤c.toNat∧c.toNat≤57)
def aP_ (c:UInt8):Bool:=a9_ c || aV_ c || au_ c || decide (c.toNat=95)
def bp_ (p:UInt8→Bool)(l:List UInt8):Nat:=(l.takeWhile p).length
theorem es_ (p:UInt8→Bool)(l:List UInt8):bp_ p l≤l.length:=by
 unfold bp_;induction l with
 | nil=>simp
 | cons a l ih=>simp only[List.takeWhile_cons];split<;>simp<;>omega
theorem fx_ (p:UInt8→Bool)(l:List UInt8)(k:Nat)(h:(l.take k).all p=true)(hk:k<l.length)(hp:p l[k]=false):bp_ p l=k:=by
 unfold bp_
 induction l generalizing k with
 | nil=>simp at hk
 | cons a l ih =>
  cases k with
  | zero=>simp at hp;simp[hp]
  | succ k =>
   simp at h hp hk;simp[h.1];exact ih k (by simpa using h.2) hk hp
theorem gm_ (p:UInt8→Bool)(l:List UInt8)(h:l.all p=true):bp_ p l=l.length:=by
 unfold bp_;induction l with
 | nil=>rfl
 | cons a l ih=>simp at h;simp[h.1];exact ih (by simpa using h.2)
def lN_:List (List UInt8):=[[100,97,116,97],[108,101,116],[105,110],[99,97,115,101],[111,102],[102,111,114,97,108,108]]
def e9_ (l:List UInt8):Nat :=
 if lN_.contains l then 3 else if aV_ (l.headD 0) then 2 else 1
def aL_ (l:List UInt8):Nat :=
 if 6<bp_ au_ l∨1<bp_ au_ l∧l.headD 0=48 then 0 else bp_ au_ l
def gn_:List UInt8:=[92,58,61,59,123,125,40,41,46,126,64,60,62,44,91,93,33]
def aW_ (l:List UInt8):Nat × Nat :=
 if a9_ (l.headD 0) || aV_ (l.headD 0) then
  if 16<bp_ aP_ l then (0,0) else (e9_ (l.take (bp_ aP_ l)),bp_ aP_ l)
 else if au_ (l.headD 0) then (4,aL_ l)
 else if l.headD 0=63 then (if aL_ (l.drop 1)=0 then (0,0) else (5,aL_ (l.drop 1)+1))
 else if [45,62].isPrefixOf l || [124,62].isPrefixOf l then (6,2)
 else if gn_.contains (l.headD 0) then (6,1)
 else (0,0)
def as_:Bool→List UInt8→Nat
 | _,[]=>0
 | r,c :: l =>
  if c=35 then as_ true l+1
  else if c=10 then as_ false l+1
  else if !r&&c != 32&&c != 9 then 0
  else as_ r l+1
theorem gU_ (r:Bool)(l:List UInt8):as_ r l≤l.length:=by
 induction l generalizing r with
 | nil=>simp[as_]
 | cons c l ih =>
  simp only[as_];have h1:=ih true;have h2:=ih false;have h3:=ih r
  split
  ·simp;omega
  ·split
   ·simp;omega
   ·split
    ·simp
    ·simp;omega
structure Tok where
 kind:Nat
 text:List UInt8
 pos:Nat
deriving DecidableEq
theorem fI_ (l:List UInt8):aL_ l≤l.length:=by
 have:=es_ au_ l;unfold aL_;split<;>omega
theorem lm_ (a b:UInt8)(l:List UInt8)(h:([a,b]:List UInt8).isPrefixOf l=true):2≤l.length:=by
 match l,h with
 | [],h=>simp[List.isPrefixOf] at h
 | [x],h=>simp[List.isPrefixOf] at h
 | x :: y :: l,_=>simp
theorem gj_ (l:List UInt8)(h:l≠[]):(aW_ l).2≤l.length:=by
 have h1:1≤l.length:=by cases l with
  | nil=>exact absurd rfl h
  | cons a l=>simp
 have a1:=es_ aP_ l;have a2:=fI_ l;have a3:=fI_ (l.drop 1);rw[List.length_drop] at a3;unfold aW_
 repeat' split
 all_goals first
  | omega
  | (simp;done)
  | (simp;omega)
  | (rename_i hp;simp only[Bool.or_eq_true] at hp;rcases hp with hp|hp<;>exact lm_ _ _ _ hp)
def dd_:Nat→List UInt8→Nat→List Tok→List Tok × Nat × Nat
 | 0,_,_,acc=>(acc,0,0)
 | n+1,l,p,acc =>
  if l=[] then (acc,0,0)
  else if (aW_ l).2=0 then ([],p,10)
  else dd_ n ((l.drop (aW_ l).2).drop (as_ false (l.drop (aW_ l).2))) (p+(aW_ l).2+as_ false (l.drop (aW_ l).2))
   (acc++[⟨(aW_ l).1,l.take (aW_ l).2,p⟩])
theorem ju_ (n:Nat):∀ (l:List UInt8) (p:Nat) (acc:List Tok) (m:Nat),l.length≤n→n≤m→dd_ m l p acc=dd_ n l p acc:=by
 induction n with
 | zero =>
  intro l p acc m hl _;have:l=[]:=List.length_eq_zero_iff.1 (by omega);subst this;cases m<;>simp[dd_]
 | succ n ih =>
  intro l p acc m hl hm;obtain⟨m,rfl⟩:∃ k,m=k+1:=⟨m - 1,by omega⟩;simp only[dd_]
  split
  ·rfl
  ·split
   ·rfl
   ·rename_i h1 h2
    refine ih _ _ _ _ ?_ (by omega);have:1≤l.length:=by cases l with
     | nil=>exact absurd rfl h1
     | cons a l=>simp
    simp only[List.length_drop];omega
def d1_ (l:List UInt8)(p:Nat)(acc:List Tok):List Tok × Nat × Nat:=dd_ l.length l p acc
theorem k7_ (p:Nat)(acc:List Tok):d1_ [] p acc=(acc,0,0):=rfl
theorem hi_ (l:List UInt8)(p:Nat)(acc:List Tok)(h:l≠[])(h2:(aW_ l).2=0):d1_ l p acc=([],p,10):=by
 unfold d1_;cases l with
 | nil=>exact absurd rfl h
 | cons a l=>simp only[List.length_cons,dd_];rw[if_neg h,if_pos h2]
theorem gq_ (l:List UInt8)(p:Nat)(acc:List Tok)(h:l≠[])(h2:(aW_ l).2≠0) :
  d1_ l p acc=d1_ ((l.drop (aW_ l).2).drop (as_ false (l.drop (aW_ l).2))) (p+(aW_ l).2+as_ false (l.drop (aW_ l).2))
   (acc++[⟨(aW_ l).1,l.take (aW_ l).2,p⟩]):=by
 unfold d1_;cases l with
 | nil=>exact absurd rfl h
 | cons a l =>
  simp only[List.length_cons,dd_];rw[if_neg h,if_neg h2];refine ju_ _ _ _ _ _ (Nat.le_refl _) ?_;simp only[List.length_drop,List.length_cons];omega
def cq_ (l:List UInt8):List Tok × Nat × Nat :=
 if 4000<l.length then ([],0,2) else d1_ (l.drop (as_ false l)) (as_ false l) []
end Go.Proofs.YtjecnionbjlncaaGreatDoor.Lx

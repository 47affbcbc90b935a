/- Texts laid together: RcRd, RcDeep, RcParse, RcItem, RcLen, RcBk. -/
import Derived.Test.YtkihnodkhnahiaaGreatDoorP48
import Derived.Test.YtkihnodkhnahiaaGreatDoorP49
import Derived.Test.YtkihnodkhnahiaaGreatDoorP50
set_option maxRecDepth 100000
set_option maxHeartbeats 6400000
namespace Go.Proofs.YtkihnodkhnahiaaGreatDoor.Tp
section
open Go.RowKit
open Lx
theorem pR_ (n:Nat)(ih:∀ m,m≤n→eY_ m):eY_ (n+1):=by
 intro w a c l i ht hb hr hok hl hi hn
 by_cases h1:sk (l.drop i) 1=true
 ·exact l2_ n w a c l i ht hb hl h1
 by_cases h2:st (l.drop i) 6 lts=true
 ·exact l7_ n w a c l i ht hb hr hl h2
 by_cases h3:(st (l.drop i) 6 cs_&&sk (l.drop (i+1)) 2)=true
 ·obtain⟨h4,h5⟩:st (l.drop i) 6 cs_=true∧sk (l.drop (i+1)) 2=true:=by simpa using h3
  have h9:=eI_ (ab_ (l.drop (i+1)));have hk:aG_ (ab_ (l.drop (i+1)))=0∨aG_ (ab_ (l.drop (i+1)))=3∨aG_ (ab_ (l.drop (i+1)))=4∨aG_ (ab_ (l.drop (i+1)))=5∨aG_ (ab_ (l.drop (i+1)))=6∨aG_ (ab_ (l.drop (i+1)))=7∨aG_ (ab_ (l.drop (i+1)))=8∨aG_ (ab_ (l.drop (i+1)))=9:=by omega
  rcases hk with hk|hk|hk|hk|hk|hk|hk|hk
  ·exact kV_ n ih w a c l i ht hb hr hok hl hn h4 h5 hk
  ·exact gw_ 3 1 (by decide) n ih w a c l i ht hb hr hok hl hn h4 h5 hk
  ·exact gw_ 4 2 (by decide) n ih w a c l i ht hb hr hok hl hn h4 h5 hk
  ·exact l4_ n ih w a c l i ht hb hr hok hl hn h4 h5 hk
  ·exact gw_ 6 2 (by decide) n ih w a c l i ht hb hr hok hl hn h4 h5 hk
  ·exact l8_ n ih w a c l i ht hb hr hok hl hn h4 h5 hk
  ·exact l3_ n ih w a c l i ht hb hr hok hl hn h4 h5 hk
  ·exact kW_ n ih w a c l i ht hb hr hok hl hn h4 h5 hk
 ·exact l5_ n w a c l i ht hb hl hi (by simpa using h1) (by simpa using h2) (by simpa using h3)
theorem pQ_:∀ n:Nat,∀ m,m≤n→eY_ m:=by
 intro n
 induction n with
 | zero=>intro m hm w a c l i _ _ _ _ _ _ hn;omega
 | succ n ih =>
  intro m hm
  rcases Nat.lt_or_ge m (n+1) with h|h
  ·exact ih m (by omega)
  ·obtain rfl:m=n+1:=by omega
   exact pR_ n ih
theorem pS_ (n:Nat):eY_ n:=pQ_ n n (az_ n)
open Lx
theorem hi_ (w:World)(a:Option Addr)(c:Nat)(l:List Tok)(ht:aL_ w (.slice a l.length c) l)(hb:∀ b o,a=some ⟨b,o,none⟩→b<w.heap.size)(hr:f1_ l)(hok:∀ t∈l,bu_ t)(hl:l.length≤4000) :
  Calls Tryz.prog 21 #[.slice a l.length c,.int .i64 0] w (dC_ w l.length (en_ l)):=by
 have:=pS_ (4*l.length+4) w a c l 0 ht hb hr hok hl (Nat.zero_le _) (by omega);rwa [List.drop_zero] at this
end
section
open Lx
end
section
theorem lF_ (k:Int):(aR_ k).length≤5:=by
 unfold aR_
 repeat' split
 all_goals decide
theorem k9_ (c:Co):WfC c→(al_ c).length+1≤100*wtC 1 c:=by
 induction c using Co.ind with
 | h c ih =>
  intro hw;have hL:(be_ c.kids).length≤100*wtL 1 c.kids:=by
   have:∀ ks:List Co,(∀ x∈ks,x∈c.kids)→(be_ ks).length≤100*wtL 1 ks:=by
    intro ks
    induction ks with
    | nil=>intro _;exact Nat.zero_le _
    | cons x xs ihx =>
     intro h;have h1:=ih x (h x (by simp)) (hw.kids x (h x (by simp)));have h2:=ihx fun y hy=>h y (by simp[hy]);rw[be_,wtL];simp only[List.length_append,List.length_cons];omega
   exact this _ fun _ h=>h
  have hnm:c.name.data.toList.length≤64:=by rw[Array.length_toList];exact hw.k.1
  have hkk:=hw.k.2.2;have hok:(c.kind=2∨c.kind=9)→(ae_ c.t).length+4≤80*c.t.size∧1≤c.t.size:=fun h=>⟨fH_ _ (hw.ok h).2,nN_ _⟩;have hwd:=lF_ c.kind;have hit:c.kind=8→(Lib.itoa c.n).length≤30:=fun h8=>by
   have:=Lib.itoa_length_le c.n (by omega) (by omega);omega
  cases c with
  | mk k s n t ks =>
   simp only[Co.kind,Co.name,Co.n,Co.t,Co.kids] at *;rw[al_,wtC]
   by_cases h1:k=1
   ·rw[if_pos h1,if_pos h1];omega
   ·by_cases h2:k=2
    ·rw[if_neg h1,if_neg h1,if_pos h2,if_pos h2]
     have:=hok (.inl h2);simp only[List.length_append,List.length_cons,List.length_nil];omega
    ·rw[if_neg h1,if_neg h1,if_neg h2,if_neg h2]
     have hm:(if k=5∨k=7 then 32 :: s.data.toList else if k=8 then 32 :: Lib.itoa n else []).length≤65∧(k=9→(if k=5∨k=7 then 32 :: s.data.toList else if k=8 then 32 :: Lib.itoa n else []).length=0):=by
      refine⟨?_,fun h9=>by rw[if_neg (by omega),if_neg (by omega)];rfl⟩
      split
      ·rw[List.length_cons];omega
      ·split
       ·next h8=>have:=hit h8;rw[List.length_cons];omega
       ·simp
     simp only[List.length_append,List.length_cons,List.length_nil]
     by_cases h9:k=9
     ·rw[if_pos h9,if_pos h9]
      have:=hok (.inr h9);have:=hm.2 h9;simp only[List.length_append,List.length_cons,List.length_nil];omega
     ·rw[if_neg h9,if_neg h9]
      simp only[List.length_nil];omega
end
section
open Lx
end
end Go.Proofs.YtkihnodkhnahiaaGreatDoor.Tp

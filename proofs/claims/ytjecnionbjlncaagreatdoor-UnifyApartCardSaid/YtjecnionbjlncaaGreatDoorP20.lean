/- Packed. -/
import Derived.Lib.Atoi
import Derived.Test.YtjecnionbjlncaaGreatDoorP11
set_option maxRecDepth 100000
set_option maxHeartbeats 6400000
namespace Go.Proofs.YtjecnionbjlncaaGreatDoor.Lx
theorem e6_ (n:Nat):∀ (l:List UInt8) (p:Nat) (acc:List Tok),(dd_ n l p acc).1.length≤acc.length+l.length:=by
 induction n with
 | zero=>intro l p acc;simp[dd_]
 | succ n ih =>
  intro l p acc;simp only[dd_]
  split
  ·simp
  ·split
   ·simp
   ·rename_i h1 h2
    refine Nat.le_trans (ih _ _ _) ?_;have:1≤l.length:=by cases l with
     | nil=>exact absurd rfl h1
     | cons a l=>simp
    simp only[List.length_append,List.length_cons,List.length_nil,List.length_drop];omega
theorem ea_ (l:List UInt8):(cq_ l).1.length≤4000:=by
 unfold cq_
 split
 ·simp
 ·unfold d1_
  refine Nat.le_trans (e6_ _ _ _ _) ?_;simp;omega
end Go.Proofs.YtjecnionbjlncaaGreatDoor.Lx
namespace Go.Proofs.YtjecnionbjlncaaGreatDoor.Tp
open Go.RowKit
open Lx
def sR_ (t:Tok):Prop:=∃ l,l≠[]∧(aW_ l).2≠0∧t.kind=(aW_ l).1∧t.text=l.take (aW_ l).2
theorem k6_ (n:Nat):∀ (l:List UInt8) (p:Nat) (acc:List Tok),(∀ t∈acc,sR_ t)→∀ t∈(dd_ n l p acc).1,sR_ t:=by
 induction n with
 | zero=>intro l p acc h;simpa [dd_] using h
 | succ n ih =>
  intro l p acc h;simp only[dd_]
  split
  ·exact h
  ·split
   ·simp
   ·rename_i h1 h2
    refine ih _ _ _ fun t ht=>?_
    rcases List.mem_append.1 ht with ht|ht
    ·exact h t ht
    ·obtain rfl:=List.mem_singleton.1 ht
     exact⟨l,h1,h2,rfl,rfl⟩
theorem e5_ (l:List UInt8):∀ t∈(cq_ l).1,sR_ t:=by
 unfold cq_
 split
 ·simp
 ·exact k6_ _ _ _ _ (by simp)
theorem iE_ (p:UInt8→Bool)(l:List UInt8):∀ c∈l.take (bp_ p l),p c=true:=by
 unfold bp_;rw[← List.takeWhile_append_dropWhile (p:=p) (l:=l)];intro c hc;have e:(l.takeWhile p++l.dropWhile p).takeWhile p=l.takeWhile p:=by rw[List.takeWhile_append_dropWhile]
 rw[e,List.take_left] at hc;exact List.all_eq_true.1 (List.all_takeWhile (p:=p) (l:=l)) c hc
structure fr_ (s:List UInt8):Prop where
 len:1≤s.length∧s.length≤16
 inner:∀ c∈s,aP_ c=true
structure rx_ (s:List UInt8):Prop where
 len:1≤s.length∧s.length≤6
 digits:∀ c∈s,au_ c=true
 head:1<s.length→s.headD 0≠48
theorem hx_ {l:List UInt8}{k:Nat}(h:0<k):(l.take k).headD 0=l.headD 0:=by
 cases l with
 | nil=>simp
 | cons a l=>cases k with
  | zero=>omega
  | succ k=>rfl
theorem kr_ (l:List UInt8)(h:aL_ l≠0):rx_ (l.take (aL_ l)):=by
 have hs:=iE_ au_ l;have hle:=es_ au_ l;have h6:¬ (6<bp_ au_ l∨1<bp_ au_ l∧l.headD 0=48):=fun hc=>by unfold aL_ at h;rw[if_pos hc] at h;exact h rfl
 have e:aL_ l=bp_ au_ l:=by unfold aL_;rw[if_neg h6]
 rw[e] at h ⊢;refine⟨by rw[List.length_take];omega,hs,fun h1 hh=>?_⟩;rw[hx_ (by omega)] at hh;rw[List.length_take] at h1;exact h6 (.inr ⟨by omega,hh⟩)
inductive fq_:Tok→Prop
 | var (t:Tok) (h:t.kind=1) (n:fr_ t.text) (c:a9_ (t.text.headD 0)=true) (k:lN_.contains t.text=false):fq_ t
 | con (t:Tok) (h:t.kind=2) (n:fr_ t.text) (c:aV_ (t.text.headD 0)=true):fq_ t
 | key (t:Tok) (h:t.kind=3) (k:lN_.contains t.text=true):fq_ t
 | num (t:Tok) (h:t.kind=4) (n:rx_ t.text):fq_ t
 | unk (t:Tok) (h:t.kind=5) (ds:List UInt8) (e:t.text=63 :: ds) (n:rx_ ds):fq_ t
 | sign2 (t:Tok) (h:t.kind=6) (e:t.text=[45,62]∨t.text=[124,62]):fq_ t
 | sign (t:Tok) (h:t.kind=6) (c:UInt8) (e:t.text=[c]) (s:gn_.contains c=true):fq_ t
theorem sL_ (t:Tok)(h:sR_ t):fq_ t:=by
 obtain⟨l,hne,h2,hk,ht⟩:=h;have hl1:1≤l.length:=by cases l with
  | nil=>exact absurd rfl hne
  | cons a l=>simp
 have hle:=gj_ l hne;unfold aW_ at h2 hk ht hle
 by_cases h0:(a9_ (l.headD 0) || aV_ (l.headD 0))=true
 ·rw[if_pos h0] at h2 hk ht hle
  by_cases h16:16<bp_ aP_ l
  ·rw[if_pos h16] at h2;exact absurd rfl h2
  ·rw[if_neg h16] at h2 hk ht hle
   simp only at h2 hk ht hle;have hn:fr_ t.text:=⟨by rw[ht,List.length_take];omega,by rw[ht];exact iE_ aP_ l⟩;have hh:t.text.headD 0=l.headD 0:=by rw[ht];exact hx_ (by omega)
   rw[← ht] at hk;unfold e9_ at hk;cases hc:lN_.contains t.text with
   | true=>rw[if_pos hc] at hk;exact .key t hk hc
   | false =>
    rw[if_neg (by rw[hc];simp),hh] at hk;cases hu:aV_ (l.headD 0) with
    | true=>rw[if_pos hu] at hk;exact .con t hk hn (by rw[hh];exact hu)
    | false =>
     rw[if_neg (by rw[hu];simp)] at hk;refine .var t hk hn ?_ hc;rw[hu] at h0;rw[hh];simpa using h0
 ·rw[if_neg h0] at h2 hk ht hle
  by_cases hd:au_ (l.headD 0)=true
  ·rw[if_pos hd] at h2 hk ht hle
   simp only at h2 hk ht;exact .num t hk (by rw[ht];exact kr_ l h2)
  ·rw[if_neg hd] at h2 hk ht hle
   by_cases hq:l.headD 0=63
   ·rw[if_pos hq] at h2 hk ht hle
    by_cases hz:aL_ (l.drop 1)=0
    ·rw[if_pos hz] at h2;exact absurd rfl h2
    ·rw[if_neg hz] at h2 hk ht hle
     simp only at h2 hk ht;refine .unk t hk ((l.drop 1).take (aL_ (l.drop 1))) ?_ (kr_ _ hz);cases l with
     | nil=>exact absurd rfl hne
     | cons a l=>simp at hq;subst hq;rw[ht];rfl
   ·rw[if_neg hq] at h2 hk ht hle
    by_cases hp:([45,62].isPrefixOf l || [124,62].isPrefixOf l)=true
    ·rw[if_pos hp] at h2 hk ht hle
     simp only at h2 hk ht;refine .sign2 t hk ?_
     match l,hp with
     | [],hp=>simp[List.isPrefixOf] at hp
     | [x],hp=>simp[List.isPrefixOf] at hp
     | x :: y :: l,hp =>
      simp[List.isPrefixOf] at hp;rw[ht]
      rcases hp with ⟨h,h'⟩|⟨h,h'⟩
      ·subst h h';exact .inl rfl
      ·subst h h';exact .inr rfl
    ·rw[if_neg hp] at h2 hk ht hle
     by_cases hs:gn_.contains (l.headD 0)=true
     ·rw[if_pos hs] at h2 hk ht hle
      simp only at h2 hk ht;refine .sign t hk (l.headD 0) ?_ hs;cases l with
      | nil=>exact absurd rfl hne
      | cons a l=>rw[ht];rfl
     ·rw[if_neg hs] at h2;exact absurd rfl h2
theorem g8_ (l:List UInt8)(h:∀ c∈l,au_ c=true)(n:Nat):Lib.decFrom n l=some (l.foldl (fun n c=>10*n+(c.toNat - 48)) n):=by
 induction l generalizing n with
 | nil=>rfl
 | cons c l ih =>
  have hc:48≤c.toNat∧c.toNat≤57:=by have:=h c (by simp);simpa [au_] using this
  have hd:Lib.digitVal c=some (c.toNat - 48):=by unfold Lib.digitVal;rw[if_pos hc]
  rw[Lib.decFrom,hd];simp only[List.foldl_cons];rw[ih (fun c hc=>h c (by simp[hc])),Nat.mul_comm]
theorem jS_ (l:List UInt8)(h0:l≠[])(h:∀ c∈l,au_ c=true):Lib.atoi l=some (eT_ l:Int):=by
 cases l with
 | nil=>exact absurd rfl h0
 | cons c l =>
  have hc:48≤c.toNat∧c.toNat≤57:=by have:=h c (by simp);simpa [au_] using this
  have a1:¬ (c==45)=true:=by intro e;rw[beq_iff_eq] at e;subst e;simp at hc
  have a2:¬ (c==43)=true:=by intro e;rw[beq_iff_eq] at e;subst e;simp at hc
  rw[Lib.atoi,if_neg a1,if_neg a2,Lib.decNat,if_neg (by simp),g8_ _ h];rfl
theorem k1_ (l:List UInt8):c6_ (cq_ l).1:=by
 intro t ht h5;cases sL_ t (e5_ l t ht) with
 | unk _ ds e n =>
  rw[e];have:=n.len;refine⟨by simp;omega,?_⟩;rw[List.tail_cons];exact jS_ ds (fun e=>by rw[e] at this;simp at this) n.digits
 | var h _ _ _|con h _ _|key h _|num h _|sign2 h _|sign h _ _ _=>omega
open Lx
theorem mi_:∀ n:Nat,∀ m,m≤n→nV_ m:=by
 intro n
 induction n with
 | zero =>
  intro m hm;obtain rfl:m=0:=by omega
  exact⟨fun _ _ _ _ _ _ _ _ h=>by omega,fun _ _ _ _ _ _ _ _ h=>by omega,fun _ _ _ _ _ _ _ _ h=>by omega,fun _ _ _ _ _ _ _ _ h=>by omega⟩
 | succ n ih =>
  intro m hm
  rcases Nat.lt_or_ge m (n+1) with h|h
  ·exact ih m (by omega)
  ·obtain rfl:m=n+1:=by omega
   have i:=ih n (aC_ _);refine⟨fun N B w l a b c d e=>pX_ n N B w l i a b c d e,fun N B w l a b c d e=>ra_ n N B w l i a b c d e,fun N B w l a b c d e=>?_,fun N B w l a b c d e=>pb_ n N B w l i a b c d e⟩;cases h1:sk l 2
   ·exact pe_ n N B w l i a b c d e h1
   ·exact q9_ n N B w l ih a b c d e h1
theorem said (n:Nat):nV_ n:=mi_ n n (aC_ n)
open Lx
theorem deep:∀ n:Nat,
  (∀ l x r,bC_ n l=some (x,r)→x.depth+r.length≤l.length)∧(∀ l x r,eJ_ n l=some (x,r)→x.depth+r.length≤l.length) ∧
  (∀ l x r,bY_ n l=some (x,r)→x.depth+r.length≤l.length)∧(∀ s acc l x r,a6_ n s acc l=some (x,r)→x.depth≤max (ar_ acc) (l.length - r.length)+1∧r.length≤l.length) ∧
  (∀ l x r,aI_ n l=some (x,r)→x.depth+r.length≤l.length):=by
 have hall:∀ (vs:List Tok) (t:Ty),(vs.foldr (fun v t=>eG_ v.text t) t).depth=t.depth+vs.length:=by
  intro vs t
  induction vs with
  | nil=>rfl
  | cons v vs ih =>
   rw[List.foldr_cons,Ty.depth_eq];show max (vs.foldr (fun v t=>eG_ v.text t) t).depth 0+1=_;rw[ih,List.length_cons];omega
 have hvr:∀ l:List Tok,(cI_ l).length+(cr_ l).length=l.length:=fun l=>by
  have:=congrArg List.length (List.takeWhile_append_dropWhile (p:=fun t:Tok=>t.kind==1) (l:=l));rw[List.length_append] at this;exact this
 intro n
 induction n with
 | zero=>exact⟨fun _ _ _ h=>by simp[bC_] at h,fun _ _ _ h=>by simp[eJ_] at h,fun _ _ _ h=>by simp[bY_] at h,fun _ _ _ _ _ h=>by simp[a6_] at h,fun _ _ _ h=>by simp[aI_] at h⟩
 | succ n ih =>
  obtain⟨i1,i2,i3,i4,i5⟩:=ih;refine⟨fun l x r h=>?_,fun l x r h=>?_,fun l x r h=>?_,fun s acc l x r h=>?_,fun l x r h=>?_⟩
  ·rw[bC_] at h
   split at h
   ·next h1=>have:=i2 _ _ _ h;have:=d5_ h1;simp at *;omega
   ·split at h
    ·cases h
    ·next a r' h2 =>
     have e2:=i3 _ _ _ h2
     split at h
     ·next h3 =>
      split at h
      ·cases h
      ·next b r'' h4 =>
       have e4:=i1 _ _ _ h4;have:=d5_ h3;simp only[Option.some.injEq,Prod.mk.injEq] at h;obtain⟨rfl,rfl⟩:=h;rw[Ty.depth_eq];simp only[j4_,Ty.args,ar_];simp only[List.length_tail] at e4;omega
     ·simp only[Option.some.injEq,Prod.mk.injEq] at h
      obtain⟨rfl,rfl⟩:=h;exact e2
  ·rw[eJ_] at h
   split at h
   ·cases h
   ·next h1 =>
    split at h
    ·cases h
    ·next t r' h2 =>
     have e2:=i1 _ _ _ h2;simp only[Option.some.injEq,Prod.mk.injEq] at h;obtain⟨rfl,rfl⟩:=h;rw[hall];have:=hvr l;simp only[List.length_tail] at e2;have hne:st (cr_ l) 6 dot=true:=by cases hh:st (cr_ l) 6 dot<;>simp[hh] at h1 ⊢
     have:=d5_ hne;omega
  ·rw[bY_] at h
   split at h
   ·next h1 =>
    obtain⟨e,e'⟩:=i4 _ _ _ _ _ h;have:=eP_ h1;simp only[List.length_tail,ar_] at e e';omega
   ·exact i5 _ _ _ h
  ·rw[a6_] at h
   split at h
   ·split at h
    ·cases h
    ·next x' r' h2 =>
     have a:=i5 _ _ _ h2;obtain⟨b,b'⟩:=i4 _ _ _ _ _ h;rw[cV_] at b;simp only[ar_] at b;exact⟨by omega,by omega⟩
   ·simp only[Option.some.injEq,Prod.mk.injEq] at h
    obtain⟨rfl,rfl⟩:=h;rw[Ty.depth_eq];simp only[d0_,Ty.args];exact⟨by omega,aC_ _⟩
  ·rw[aI_] at h
   split at h
   ·next h1 =>
    have:=eP_ h1;simp only[Option.some.injEq,Prod.mk.injEq] at h;obtain⟨rfl,rfl⟩:=h;simp[lL_,Ty.depth,ar_];omega
   ·split at h
    ·next h1 =>
     have:=eP_ h1;simp only[Option.some.injEq,Prod.mk.injEq] at h;obtain⟨rfl,rfl⟩:=h;simp[d0_,Ty.depth,ar_];omega
    ·split at h
     ·next h1 =>
      have:=eP_ h1;simp only[Option.some.injEq,Prod.mk.injEq] at h;obtain⟨rfl,rfl⟩:=h;simp[d4_,Ty.depth,ar_];omega
     ·split at h
      ·next h1 =>
       have:=d5_ h1
       split at h
       ·cases h
       ·next t r' h2 =>
        have e2:=i1 _ _ _ h2
        split at h
        ·simp only[Option.some.injEq,Prod.mk.injEq] at h
         obtain⟨rfl,rfl⟩:=h;simp only[List.length_tail] at *;omega
        ·cases h
      ·cases h
def iP_ (l:List Tok):Option (Ty × List Tok):=bC_ (4*l.length+4) l
def a8_ (s:List UInt8):Except Nat Ty :=
 if (cq_ s).2.2≠0 then .error (cq_ s).2.2
 else match iP_ (cq_ s).1 with
  | none=>.error 20
  | some (t,r)=>if r≠[] then .error 20 else if 50<t.depth then .error 3 else .ok t
theorem bD_ {w w':World}{v:Value}{l:List Tok}(h:bu_ w v l)(hb:Below w.heap.size w w'):bu_ w' v l:=by
 obtain⟨a',c',e,h4,h5|⟨b,off,h6,h7⟩⟩:=h
 ·exact⟨a',c',e,h4,.inl h5⟩
 ·refine⟨a',c',e,h4,.inr ⟨b,off,h6,fun i hi=>?_⟩⟩
  obtain⟨c0,c1,c2⟩:=h7 i hi;have hbl:=World.block_lt_of_cell? w _ c0;exact⟨(hb.cell hbl).trans c0,(hb.cell (p:=⟨b,off+i*3+1,none⟩) hbl).trans c1,(hb.cell (p:=⟨b,off+i*3+2,none⟩) hbl).trans c2⟩
theorem i3_ {w w':World}{B:Nat}(h:w.grownBy w' (some B))(hB:w.heap.size≤B):Below w.heap.size w w' :=
 (Below.refl _ _).grown h (aC_ _) (fun k hk=>by injection hk;omega)
def pg_ (w:World)(res:Option (Ty × List Tok))(e:Ending)(w':World):Prop :=
 Below w.heap.size w w'∧match res with
 | none=>e=.returned (.tuple #[zv,.slice none 0 0,.bool false])
 | some (t,r)=>∃ a c a2 c2,e=.returned (.tuple #[tv t a c,.slice a2 r.length c2,.bool true])∧aa_ (In w.heap.size w'.heap.size) w' (.slice a t.args.length c) t.args∧bu_ w' (.slice a2 r.length c2) r
theorem ol_ (w:World)(a:OA_)(cap:Nat)(l:List Tok)(ht:bu_ w (.slice a l.length cap) l)(hb:∀ b o,a=some ⟨b,o,none⟩→b<w.heap.size)(hok:c6_ l)(hl:l.length≤4000) :
  Calls Tryz.prog 52 #[.slice a l.length cap] w (pg_ w (iP_ l)):=by
 have hz:=aw_ w (.cells #[.int .i64 0,.string ByteArray.empty,.int .i64 0,.slice none 0 0] 37);have hz2:=hz.alloc (by simp) (.cells #[.slice a l.length cap] 141);have hr:Rd w.heap.size (w.heap.size+1) ((w.alloc (.cells #[.int .i64 0,.string ByteArray.empty,.int .i64 0,.slice none 0 0] 37)).alloc (.cells #[.slice a l.length cap] 141)) l :=
  ⟨a,cap,ah_ (by simp),bD_ ht hz2,by omega,hb⟩
 have C:=hid ((said (4*l.length+4)).typ _ _ _ _ hr (by simp;omega) hok hl (aC_ _));have b4:=hid ((B4.new w (.int .i64 0) (.string ByteArray.empty) (.int .i64 0) (.slice none 0 0)).low (aw_ _ (.cells #[.slice a l.length cap] 141)));have HR:=hid hr;have HZ:=hid hz2;clear ht hb hok hz hr hz2;go_enter Tryz.func52,Tryz.ntmps52;go_wp2_with fail;refine C.out.mono ?_;rintro e w1 ⟨hg,hres⟩;have k4:=b4.out.grown hg (fun e=>by injection e;omega);obtain⟨c0,c1,c2,c3⟩:=k4.c03;obtain⟨f0,f1,f2,f3⟩:=k4.f03;have K4:=hid k4;have G1:=hid (ac_ (ad_ HZ.out) hg);have hsz:=hid hg.size;clear k4 hg;cases hT:bC_ (4*l.length+4) l with
 | none =>
  rw[hT] at hres;obtain⟨k,s,m,a1,c,c',rfl⟩:=hres;have E:Hid (iP_ l=none):=hid hT;clear hT;go_wp2;have q0:=K4.out.set4 (.int .i64 k) (.string s) (.int .i64 m) (.slice a1 c c');have q4:=q0.set4 (.int .i64 0) (.string ⟨#[]⟩) (.int .i64 0) (.slice none 0 0);have g4:=aq_ (aq_ G1.out (b:=w.heap.size) (aC_ _) (.int .i64 k) (.string s) (.int .i64 m) (.slice a1 c c')) (b:=w.heap.size) (aC_ _) (.int .i64 0) (.string ⟨#[]⟩) (.int .i64 0) (.slice none 0 0);refine bodyPost_ret (v:=.tuple #[zv,.slice none 0 0,.bool false]) (by simp[results,Tryz.results52,go_sem,zv,q4.c0,q4.c1,q4.c2,q4.c3]) rfl ?_;rw[E.out];exact⟨i3_ g4 (by omega),rfl⟩
 | some x =>
  obtain⟨t,r⟩:=x;rw[hT] at hres;obtain⟨a1,c,rfl,hA,hR⟩:=hres;have E:Hid (iP_ l=some (t,r)):=hid hT;obtain⟨a2,c2,hB,hT2,_⟩:=id hR;have RR:=hid hR;have HA:=hid hA;have cB:w1.cell? ⟨w.heap.size+1,0,none⟩=some (.slice a2 r.length c2):=cell_of_row w1 _ 0 _ _ _ hB;clear hT hA hR hB hT2;unfold tv;go_wp2;have q0:=K4.out.set4 (.int .i64 t.kind) (.string t.name) (.int .i64 t.n) (.slice a1 t.args.length c);have hne:=K4.out.ne_rd RR.out;have g0:=aq_ G1.out (b:=w.heap.size) (aC_ _) (.int .i64 t.kind) (.string t.name) (.int .i64 t.n) (.slice a1 t.args.length c);have hs1:w.heap.size+1+1≤w1.heap.size:=by have:=hsz.out;simpa using this
  have r0:=RR.out.set4 (b:=w.heap.size) (by omega) (aC_ _) (.int .i64 t.kind) (.string t.name) (.int .i64 t.n) (.slice a1 t.args.length c);have a0:=HA.out.keep (B:=(((w1.setCell ⟨w.heap.size,0,none⟩ (.int .i64 t.kind)).setCell ⟨w.heap.size,1,none⟩ (.string t.name)).setCell ⟨w.heap.size,2,none⟩ (.int .i64 t.n)).setCell ⟨w.heap.size,3,none⟩ (.slice a1 t.args.length c)) (fun b hb=>by
   obtain⟨b1,b2⟩:=hb;simp at b1;rw[aB_ _ _ _ _ (by simp;omega),aB_ _ _ _ _ (by simp;omega),aB_ _ _ _ _ (by simp;omega),aB_ _ _ _ _ (by simp;omega)])
  have hfs:((((w1.setCell ⟨w.heap.size,0,none⟩ (.int .i64 t.kind)).setCell ⟨w.heap.size,1,none⟩ (.string t.name)).setCell ⟨w.heap.size,2,none⟩ (.int .i64 t.n)).setCell ⟨w.heap.size,3,none⟩ (.slice a1 t.args.length c)).heap.size=w1.heap.size:=by simp
  have a1':=a0.mono (S':=In (w.heap.size+1+1) w1.heap.size) (fun b hb=>by obtain⟨b1,b2⟩:=hb;simp at b1;exact⟨by omega,b2⟩);rw[← hfs] at a1';generalize (((w1.setCell ⟨w.heap.size,0,none⟩ (.int .i64 t.kind)).setCell ⟨w.heap.size,1,none⟩ (.string t.name)).setCell ⟨w.heap.size,2,none⟩ (.int .i64 t.n)).setCell ⟨w.heap.size,3,none⟩ (.slice a1 t.args.length c)=w2 at *;obtain⟨d0,d1,d2,d3⟩:=q0.c03;obtain⟨h0,h1,h2,h3⟩:=q0.f03;obtain⟨a3,c3',hB3,hT3,_⟩:=id r0;have cB3:w2.cell? ⟨w.heap.size+1,0,none⟩=some (.slice a3 r.length c3'):=cell_of_row w2 _ 0 _ _ _ hB3;have Q0:=hid q0;have GG:=hid g0;have AA:=hid a1';have TT:=hid hT3;have R2:=hid r0;have HB3:=hid hB3;clear q0 g0 r0 a0 a1' hB3 hT3 cB hs1 hfs c0 c1 c2 c3 f0 f1 f2 f3
  go_region
  go_wp2;have q4:B4 ((((w2.setCell ⟨w.heap.size,0,none⟩ (.int .i64 t.kind)).setCell ⟨w.heap.size,1,none⟩ (.string t.name)).setCell ⟨w.heap.size,2,none⟩ (.int .i64 t.n)).setCell ⟨w.heap.size,3,none⟩ (.slice a1 t.args.length c)).drew w.heap.size (.int .i64 t.kind) (.string t.name) (.int .i64 t.n) (.slice a1 t.args.length c):=Q0.out.set4 (.int .i64 t.kind) (.string t.name) (.int .i64 t.n) (.slice a1 t.args.length c);have g4:=ac_ (aq_ GG.out (b:=w.heap.size) (aC_ _) (.int .i64 t.kind) (.string t.name) (.int .i64 t.n) (.slice a1 t.args.length c)) (ad_ (r:=some (w.heap.size+1)) ((Below.refl _ _).drew));have a4:=AA.out.keep (B:=((((w2.setCell ⟨w.heap.size,0,none⟩ (.int .i64 t.kind)).setCell ⟨w.heap.size,1,none⟩ (.string t.name)).setCell ⟨w.heap.size,2,none⟩ (.int .i64 t.n)).setCell ⟨w.heap.size,3,none⟩ (.slice a1 t.args.length c)).drew) (fun b hb=>by
   obtain⟨b1,b2⟩:=hb;show ((((w2.setCell ⟨w.heap.size,0,none⟩ (.int .i64 t.kind)).setCell ⟨w.heap.size,1,none⟩ (.string t.name)).setCell ⟨w.heap.size,2,none⟩ (.int .i64 t.n)).setCell ⟨w.heap.size,3,none⟩ (.slice a1 t.args.length c)).heap[b]? = _;rw[aB_ _ _ _ _ (by simp;omega),aB_ _ _ _ _ (by simp;omega),aB_ _ _ _ _ (by simp;omega),aB_ _ _ _ _ (by simp;omega)])
  have t4:bu_ ((((w2.setCell ⟨w.heap.size,0,none⟩ (.int .i64 t.kind)).setCell ⟨w.heap.size,1,none⟩ (.string t.name)).setCell ⟨w.heap.size,2,none⟩ (.int .i64 t.n)).setCell ⟨w.heap.size,3,none⟩ (.slice a1 t.args.length c)).drew (.slice a3 r.length c3') r:=by
   obtain⟨a5,c5,hh,hT5,_⟩:=(R2.out.set4 (b:=w.heap.size) (by omega) (aC_ _) (.int .i64 t.kind) (.string t.name) (.int .i64 t.n) (.slice a1 t.args.length c)).low ((Below.refl _ _).drew);have h5:((((w2.setCell ⟨w.heap.size,0,none⟩ (.int .i64 t.kind)).setCell ⟨w.heap.size,1,none⟩ (.string t.name)).setCell ⟨w.heap.size,2,none⟩ (.int .i64 t.n)).setCell ⟨w.heap.size,3,none⟩ (.slice a1 t.args.length c)).drew.heap[w.heap.size+1]? = w2.heap[w.heap.size+1]? := by
    show ((((w2.setCell ⟨w.heap.size,0,none⟩ (.int .i64 t.kind)).setCell ⟨w.heap.size,1,none⟩ (.string t.name)).setCell ⟨w.heap.size,2,none⟩ (.int .i64 t.n)).setCell ⟨w.heap.size,3,none⟩ (.slice a1 t.args.length c)).heap[w.heap.size+1]? = _;rw[aB_ _ _ _ _ (by simp),aB_ _ _ _ _ (by simp),aB_ _ _ _ _ (by simp),aB_ _ _ _ _ (by simp)]
   rw[h5,HB3.out] at hh;injection hh with hh
   injection hh with hh
   injection hh with hh
   injection hh with hh
   rw[hh];exact hT5
  refine bodyPost_ret (v:=.tuple #[tv t a1 c,.slice a3 r.length c3',.bool true]) (by simp[results,Tryz.results52,go_sem,tv,q4.c0,q4.c1,q4.c2,q4.c3]) rfl ?_;rw[E.out];exact⟨i3_ g4 (by omega),a1,c,a3,c3',rfl,a4.mono (fun b hb=>by obtain⟨b1,b2⟩:=hb;exact⟨by omega,by simpa using b2⟩),t4⟩
end Go.Proofs.YtjecnionbjlncaaGreatDoor.Tp

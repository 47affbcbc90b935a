/- Packed. -/
import Derived.Test.YtkihnodkhnahiaaGreatDoorP14
set_option maxRecDepth 100000
set_option maxHeartbeats 6400000
namespace Go.Proofs.YtkihnodkhnahiaaGreatDoor.Tp
section
open Go.RowKit
open Lx
theorem mY_:∀ n:Nat,∀ m,m≤n→oH_ m:=by
 intro n
 induction n with
 | zero =>
  intro m hm;obtain rfl:m=0:=by omega
  exact⟨fun _ _ _ _ _ _ _ _ h=>by omega,fun _ _ _ _ _ _ _ _ h=>by omega,fun _ _ _ _ _ _ _ _ h=>by omega,fun _ _ _ _ _ _ _ _ h=>by omega⟩
 | succ n ih =>
  intro m hm
  rcases Nat.lt_or_ge m (n+1) with h|h
  ·exact ih m (by omega)
  ·obtain rfl:m=n+1:=by omega
   have i:=ih n (aw_ _);refine⟨fun N B w l a b c d e=>qL_ n N B w l i a b c d e,fun N B w l a b c d e=>rH_ n N B w l i a b c d e,fun N B w l a b c d e=>?_,fun N B w l a b c d e=>p2_ n N B w l i a b c d e⟩;cases h1:sk l 2
   ·exact p5_ n N B w l i a b c d e h1
   ·exact rG_ n N B w l ih a b c d e h1
theorem said (n:Nat):oH_ n:=mY_ n n (aw_ n)
open Lx
theorem deep:∀ n:Nat,
  (∀ l x r,bT_ n l=some (x,r)→x.depth+r.length≤l.length)∧(∀ l x r,ff_ n l=some (x,r)→x.depth+r.length≤l.length) ∧
  (∀ l x r,cm_ n l=some (x,r)→x.depth+r.length≤l.length)∧(∀ s acc l x r,bh_ n s acc l=some (x,r)→x.depth≤max (aC_ acc) (l.length - r.length)+1∧r.length≤l.length) ∧
  (∀ l x r,aU_ n l=some (x,r)→x.depth+r.length≤l.length):=by
 have hall:∀ (vs:List Tok) (t:Ty),(vs.foldr (fun v t=>e9_ v.text t) t).depth=t.depth+vs.length:=by
  intro vs t
  induction vs with
  | nil=>rfl
  | cons v vs ih =>
   rw[List.foldr_cons,Ty.depth_eq];show max (vs.foldr (fun v t=>e9_ v.text t) t).depth 0+1=_;rw[ih,List.length_cons];omega
 have hvr:∀ l:List Tok,(dd_ l).length+(cZ_ l).length=l.length:=fun l=>by
  have:=congrArg List.length (List.takeWhile_append_dropWhile (p:=fun t:Tok=>t.kind==1) (l:=l));rw[List.length_append] at this;exact this
 intro n
 induction n with
 | zero=>exact⟨fun _ _ _ h=>by simp[bT_] at h,fun _ _ _ h=>by simp[ff_] at h,fun _ _ _ h=>by simp[cm_] at h,fun _ _ _ _ _ h=>by simp[bh_] at h,fun _ _ _ h=>by simp[aU_] at h⟩
 | succ n ih =>
  obtain⟨i1,i2,i3,i4,i5⟩:=ih;refine⟨fun l x r h=>?_,fun l x r h=>?_,fun l x r h=>?_,fun s acc l x r h=>?_,fun l x r h=>?_⟩
  ·rw[bT_] at h
   split at h
   ·next h1=>have:=i2 _ _ _ h;have:=b8_ h1;simp at *;omega
   ·split at h
    ·cases h
    ·next a r' h2 =>
     have e2:=i3 _ _ _ h2
     split at h
     ·next h3 =>
      split at h
      ·cases h
      ·next b r'' h4 =>
       have e4:=i1 _ _ _ h4;have:=b8_ h3;simp only[Option.some.injEq,Prod.mk.injEq] at h;obtain⟨rfl,rfl⟩:=h;rw[Ty.depth_eq];simp only[ik_,Ty.args,aC_];simp only[List.length_tail] at e4;omega
     ·simp only[Option.some.injEq,Prod.mk.injEq] at h
      obtain⟨rfl,rfl⟩:=h;exact e2
  ·rw[ff_] at h
   split at h
   ·cases h
   ·next h1 =>
    split at h
    ·cases h
    ·next t r' h2 =>
     have e2:=i1 _ _ _ h2;simp only[Option.some.injEq,Prod.mk.injEq] at h;obtain⟨rfl,rfl⟩:=h;rw[hall];have:=hvr l;simp only[List.length_tail] at e2;have hne:st (cZ_ l) 6 dot=true:=by cases hh:st (cZ_ l) 6 dot<;>simp[hh] at h1 ⊢
     have:=b8_ hne;omega
  ·rw[cm_] at h
   split at h
   ·next h1 =>
    obtain⟨e,e'⟩:=i4 _ _ _ _ _ h;have:=ci_ h1;simp only[List.length_tail,aC_] at e e';omega
   ·exact i5 _ _ _ h
  ·rw[bh_] at h
   split at h
   ·split at h
    ·cases h
    ·next x' r' h2 =>
     have a:=i5 _ _ _ h2;obtain⟨b,b'⟩:=i4 _ _ _ _ _ h;rw[dx_] at b;simp only[aC_] at b;exact⟨by omega,by omega⟩
   ·simp only[Option.some.injEq,Prod.mk.injEq] at h
    obtain⟨rfl,rfl⟩:=h;rw[Ty.depth_eq];simp only[fu_,Ty.args];exact⟨by omega,aw_ _⟩
  ·rw[aU_] at h
   split at h
   ·next h1 =>
    have:=ci_ h1;simp only[Option.some.injEq,Prod.mk.injEq] at h;obtain⟨rfl,rfl⟩:=h;simp[gG_,Ty.depth,aC_];omega
   ·split at h
    ·next h1 =>
     have:=ci_ h1;simp only[Option.some.injEq,Prod.mk.injEq] at h;obtain⟨rfl,rfl⟩:=h;simp[fu_,Ty.depth,aC_];omega
    ·split at h
     ·next h1 =>
      have:=ci_ h1;simp only[Option.some.injEq,Prod.mk.injEq] at h;obtain⟨rfl,rfl⟩:=h;simp[gH_,Ty.depth,aC_];omega
     ·split at h
      ·next h1 =>
       have:=b8_ h1
       split at h
       ·cases h
       ·next t r' h2 =>
        have e2:=i1 _ _ _ h2
        split at h
        ·simp only[Option.some.injEq,Prod.mk.injEq] at h
         obtain⟨rfl,rfl⟩:=h;simp only[List.length_tail] at *;omega
        ·cases h
      ·cases h
def eo_ (l:List Tok):Option (Ty × List Tok):=bT_ (4*l.length+4) l
def bF_ (s:List UInt8):Except Nat Ty :=
 if (bI_ s).2.2≠0 then .error (bI_ s).2.2
 else match eo_ (bI_ s).1 with
  | none=>.error 20
  | some (t,r)=>if r≠[] then .error 20 else if 50<t.depth then .error 3 else .ok t
theorem bw_ {w w':World}{v:Value}{l:List Tok}(h:aO_ w v l)(hb:Below w.heap.size w w'):aO_ w' v l:=by
 obtain⟨a',c',e,h4,h5|⟨b,off,h6,h7⟩⟩:=h
 ·exact⟨a',c',e,h4,.inl h5⟩
 ·refine⟨a',c',e,h4,.inr ⟨b,off,h6,fun i hi=>?_⟩⟩
  obtain⟨c0,c1,c2⟩:=h7 i hi;have hbl:=World.block_lt_of_cell? w _ c0;exact⟨(hb.cell hbl).trans c0,(hb.cell (p:=⟨b,off+i*3+1,none⟩) hbl).trans c1,(hb.cell (p:=⟨b,off+i*3+2,none⟩) hbl).trans c2⟩
theorem fG_ {w w':World}{B:Nat}(h:w.grownBy w' (some B))(hB:w.heap.size≤B):Below w.heap.size w w' :=
 (Below.refl _ _).grown h (aw_ _) (fun k hk=>by injection hk;omega)
def p8_ (w:World)(res:Option (Ty × List Tok))(e:Ending)(w':World):Prop :=
 Below w.heap.size w w'∧match res with
 | none=>e=.returned (.tuple #[zv,.slice none 0 0,.bool false])
 | some (t,r)=>∃ a c a2 c2,e=.returned (.tuple #[tv t a c,.slice a2 r.length c2,.bool true])∧ac_ (In w.heap.size w'.heap.size) w' (.slice a t.args.length c) t.args∧aO_ w' (.slice a2 r.length c2) r
def sM_ (N:Nat)(w:World)(res:Option (Ty × List Tok))(e:Ending)(w':World):Prop :=
 Below w.heap.size w w'∧match res with
 | none=>e=.returned (.tuple #[zv,.slice none 0 0,.bool false])
 | some (t,r)=>∃ a c a2 c2,e=.returned (.tuple #[tv t a c,.slice a2 r.length c2,.bool true])∧ac_ (In w.heap.size w'.heap.size) w' (.slice a t.args.length c) t.args∧aO_ w' (.slice a2 r.length c2) r∧∀ b o,a2=some ⟨b,o,none⟩→b<N
theorem ng_ (N:Nat)(w:World)(hN:N≤w.heap.size)(a:OA_)(cap:Nat)(l:List Tok)(ht:aO_ w (.slice a l.length cap) l)(hb:∀ b o,a=some ⟨b,o,none⟩→b<N)(hok:c2_ l)(hl:l.length≤4000) :
  Calls Tryz.prog 29 #[.slice a l.length cap] w (sM_ N w (eo_ l)):=by
 have hz:=ao_ w (.cells #[.int .i64 0,.string ByteArray.empty,.int .i64 0,.slice none 0 0] 30);have hz2:=hz.alloc (by simp) (.cells #[.slice a l.length cap] 115);have hr:Rd N (w.heap.size+1) ((w.alloc (.cells #[.int .i64 0,.string ByteArray.empty,.int .i64 0,.slice none 0 0] 30)).alloc (.cells #[.slice a l.length cap] 115)) l :=
  ⟨a,cap,al_ (by simp),bw_ ht hz2,by omega,hb⟩
 have C:=hid ((said (4*l.length+4)).typ _ _ _ _ hr (by simp;omega) hok hl (aw_ _));have b4:=hid ((B4.new w (.int .i64 0) (.string ByteArray.empty) (.int .i64 0) (.slice none 0 0)).low (ao_ _ (.cells #[.slice a l.length cap] 115)));have HR:=hid hr;have HZ:=hid hz2;have HN:=hid hN;clear ht hb hok hz hr hz2 hN;go_enter Tryz.func29,Tryz.ntmps29;go_wp2_with fail;refine C.out.mono ?_;rintro e w1 ⟨hg,hres⟩;have k4:=b4.out.grown hg (fun e=>by injection e;omega);obtain⟨c0,c1,c2,c3⟩:=k4.c03;obtain⟨f0,f1,f2,f3⟩:=k4.f03;have K4:=hid k4;have G1:=hid (ad_ (af_ HZ.out) hg);have hsz:=hid hg.size;clear k4 hg;cases hT:bT_ (4*l.length+4) l with
 | none =>
  rw[hT] at hres;obtain⟨k,s,m,a1,c,c',rfl⟩:=hres;have E:Hid (eo_ l=none):=hid hT;clear hT;go_wp2;have q0:=K4.out.set4 (.int .i64 k) (.string s) (.int .i64 m) (.slice a1 c c');have q4:=q0.set4 (.int .i64 0) (.string ⟨#[]⟩) (.int .i64 0) (.slice none 0 0);have g4:=av_ (av_ G1.out (b:=w.heap.size) (aw_ _) (.int .i64 k) (.string s) (.int .i64 m) (.slice a1 c c')) (b:=w.heap.size) (aw_ _) (.int .i64 0) (.string ⟨#[]⟩) (.int .i64 0) (.slice none 0 0);refine bodyPost_ret (v:=.tuple #[zv,.slice none 0 0,.bool false]) (by simp[results,Tryz.results29,go_sem,zv,q4.c0,q4.c1,q4.c2,q4.c3]) rfl ?_;rw[E.out];exact⟨fG_ g4 (by omega),rfl⟩
 | some x =>
  obtain⟨t,r⟩:=x;rw[hT] at hres;obtain⟨a1,c,rfl,hA,hR⟩:=hres;have E:Hid (eo_ l=some (t,r)):=hid hT;obtain⟨a2,c2,hB,hT2,_⟩:=id hR;have RR:=hid hR;have HA:=hid hA;have cB:w1.cell? ⟨w.heap.size+1,0,none⟩=some (.slice a2 r.length c2):=cell_of_row w1 _ 0 _ _ _ hB;clear hT hA hR hB hT2;unfold tv;go_wp2;have q0:=K4.out.set4 (.int .i64 t.kind) (.string t.name) (.int .i64 t.n) (.slice a1 t.args.length c);have hne:=K4.out.ne_rd RR.out;have g0:=av_ G1.out (b:=w.heap.size) (aw_ _) (.int .i64 t.kind) (.string t.name) (.int .i64 t.n) (.slice a1 t.args.length c);have hs1:w.heap.size+1+1≤w1.heap.size:=by have:=hsz.out;simpa using this
  have r0:=RR.out.set4 (b:=w.heap.size) (by omega) HN.out (.int .i64 t.kind) (.string t.name) (.int .i64 t.n) (.slice a1 t.args.length c);have a0:=HA.out.keep (B:=(((w1.setCell ⟨w.heap.size,0,none⟩ (.int .i64 t.kind)).setCell ⟨w.heap.size,1,none⟩ (.string t.name)).setCell ⟨w.heap.size,2,none⟩ (.int .i64 t.n)).setCell ⟨w.heap.size,3,none⟩ (.slice a1 t.args.length c)) (fun b hb=>by
   obtain⟨b1,b2⟩:=hb;simp at b1;rw[aM_ _ _ _ _ (by simp;omega),aM_ _ _ _ _ (by simp;omega),aM_ _ _ _ _ (by simp;omega),aM_ _ _ _ _ (by simp;omega)])
  have hfs:((((w1.setCell ⟨w.heap.size,0,none⟩ (.int .i64 t.kind)).setCell ⟨w.heap.size,1,none⟩ (.string t.name)).setCell ⟨w.heap.size,2,none⟩ (.int .i64 t.n)).setCell ⟨w.heap.size,3,none⟩ (.slice a1 t.args.length c)).heap.size=w1.heap.size:=by simp
  have a1':=a0.mono (S':=In (w.heap.size+1+1) w1.heap.size) (fun b hb=>by obtain⟨b1,b2⟩:=hb;simp at b1;exact⟨by omega,b2⟩);rw[← hfs] at a1';generalize (((w1.setCell ⟨w.heap.size,0,none⟩ (.int .i64 t.kind)).setCell ⟨w.heap.size,1,none⟩ (.string t.name)).setCell ⟨w.heap.size,2,none⟩ (.int .i64 t.n)).setCell ⟨w.heap.size,3,none⟩ (.slice a1 t.args.length c)=w2 at *;obtain⟨d0,d1,d2,d3⟩:=q0.c03;obtain⟨h0,h1,h2,h3⟩:=q0.f03;obtain⟨a3,c3',hB3,hT3,_⟩:=id r0;have cB3:w2.cell? ⟨w.heap.size+1,0,none⟩=some (.slice a3 r.length c3'):=cell_of_row w2 _ 0 _ _ _ hB3;have Q0:=hid q0;have GG:=hid g0;have AA:=hid a1';have TT:=hid hT3;have R2:=hid r0;have HB3:=hid hB3;clear q0 g0 r0 a0 a1' hB3 hT3 cB hs1 hfs c0 c1 c2 c3 f0 f1 f2 f3
  go_region
  go_wp2;have q4:B4 ((((w2.setCell ⟨w.heap.size,0,none⟩ (.int .i64 t.kind)).setCell ⟨w.heap.size,1,none⟩ (.string t.name)).setCell ⟨w.heap.size,2,none⟩ (.int .i64 t.n)).setCell ⟨w.heap.size,3,none⟩ (.slice a1 t.args.length c)).drew w.heap.size (.int .i64 t.kind) (.string t.name) (.int .i64 t.n) (.slice a1 t.args.length c):=Q0.out.set4 (.int .i64 t.kind) (.string t.name) (.int .i64 t.n) (.slice a1 t.args.length c);have g4:=ad_ (av_ GG.out (b:=w.heap.size) (aw_ _) (.int .i64 t.kind) (.string t.name) (.int .i64 t.n) (.slice a1 t.args.length c)) (af_ (r:=some (w.heap.size+1)) ((Below.refl _ _).drew));have a4:=AA.out.keep (B:=((((w2.setCell ⟨w.heap.size,0,none⟩ (.int .i64 t.kind)).setCell ⟨w.heap.size,1,none⟩ (.string t.name)).setCell ⟨w.heap.size,2,none⟩ (.int .i64 t.n)).setCell ⟨w.heap.size,3,none⟩ (.slice a1 t.args.length c)).drew) (fun b hb=>by
   obtain⟨b1,b2⟩:=hb;show ((((w2.setCell ⟨w.heap.size,0,none⟩ (.int .i64 t.kind)).setCell ⟨w.heap.size,1,none⟩ (.string t.name)).setCell ⟨w.heap.size,2,none⟩ (.int .i64 t.n)).setCell ⟨w.heap.size,3,none⟩ (.slice a1 t.args.length c)).heap[b]? = _;rw[aM_ _ _ _ _ (by simp;omega),aM_ _ _ _ _ (by simp;omega),aM_ _ _ _ _ (by simp;omega),aM_ _ _ _ _ (by simp;omega)])
  have t4:aO_ ((((w2.setCell ⟨w.heap.size,0,none⟩ (.int .i64 t.kind)).setCell ⟨w.heap.size,1,none⟩ (.string t.name)).setCell ⟨w.heap.size,2,none⟩ (.int .i64 t.n)).setCell ⟨w.heap.size,3,none⟩ (.slice a1 t.args.length c)).drew (.slice a3 r.length c3') r∧∀ b o,a3=some ⟨b,o,none⟩→b<N:=by
   obtain⟨a5,c5,hh,hT5,_,hN5⟩:=(R2.out.set4 (b:=w.heap.size) (by omega) HN.out (.int .i64 t.kind) (.string t.name) (.int .i64 t.n) (.slice a1 t.args.length c)).low ((Below.refl _ _).drew);have h5:((((w2.setCell ⟨w.heap.size,0,none⟩ (.int .i64 t.kind)).setCell ⟨w.heap.size,1,none⟩ (.string t.name)).setCell ⟨w.heap.size,2,none⟩ (.int .i64 t.n)).setCell ⟨w.heap.size,3,none⟩ (.slice a1 t.args.length c)).drew.heap[w.heap.size+1]? = w2.heap[w.heap.size+1]? := by
    show ((((w2.setCell ⟨w.heap.size,0,none⟩ (.int .i64 t.kind)).setCell ⟨w.heap.size,1,none⟩ (.string t.name)).setCell ⟨w.heap.size,2,none⟩ (.int .i64 t.n)).setCell ⟨w.heap.size,3,none⟩ (.slice a1 t.args.length c)).heap[w.heap.size+1]? = _;rw[aM_ _ _ _ _ (by simp),aM_ _ _ _ _ (by simp),aM_ _ _ _ _ (by simp),aM_ _ _ _ _ (by simp)]
   rw[h5,HB3.out] at hh;injection hh with hh
   injection hh with hh
   injection hh with hh
   injection hh with hh
   refine⟨by rw[hh];exact hT5,fun b o e=>?_⟩;injection hh with e1 _ _
   exact hN5 b o (e1.symm.trans e)
  refine bodyPost_ret (v:=.tuple #[tv t a1 c,.slice a3 r.length c3',.bool true]) (by simp[results,Tryz.results29,go_sem,tv,q4.c0,q4.c1,q4.c2,q4.c3]) rfl ?_;rw[E.out];exact⟨fG_ g4 (by omega),a1,c,a3,c3',rfl,a4.mono (fun b hb=>by obtain⟨b1,b2⟩:=hb;exact⟨by omega,by simpa using b2⟩),t4.1,t4.2⟩
theorem pi_ (w:World)(a:OA_)(cap:Nat)(l:List Tok)(ht:aO_ w (.slice a l.length cap) l)(hb:∀ b o,a=some ⟨b,o,none⟩→b<w.heap.size)(hok:c2_ l)(hl:l.length≤4000) :
  Calls Tryz.prog 29 #[.slice a l.length cap] w (p8_ w (eo_ l)):=by
 refine (ng_ w.heap.size w (aw_ _) a cap l ht hb hok hl).mono ?_;rintro e w' ⟨hb,h⟩;refine⟨hb,?_⟩;cases hT:eo_ l with
 | none=>rw[hT] at h;exact h
 | some x =>
  rw[hT] at h;obtain⟨a,c,a2,c2,h1,h2,h3,_⟩:=h;exact⟨a,c,a2,c2,h1,h2,h3⟩
end
section
open Lx
def Mk (t:Ty):Prop:=Std t∧rR_ t
theorem rg_ (l:List UInt8)(h:∀ c∈l,aA_ c=true):dw_ l<10 ^ l.length:=by
 have:∀ (l:List UInt8) (n:Nat),(∀ c∈l,aA_ c=true)→l.foldl (fun n c=>10*n+(c.toNat - 48)) n<(n+1)*10 ^ l.length:=by
  intro l
  induction l with
  | nil=>intro n _;simp
  | cons c l ih =>
   intro n h;rw[List.foldl_cons,List.length_cons];refine aX_ (ih _ fun d hd=>h d (by simp[hd])) ?_;have hc:=h c (by simp);unfold aA_ at hc;simp only[decide_eq_true_eq] at hc;rw[Nat.pow_succ,Nat.mul_comm (10 ^ l.length) 10,← Nat.mul_assoc];refine Nat.mul_le_mul_right _ ?_;omega
 have:=this l 0 h;unfold dw_;omega
theorem qy_ {ds:List UInt8}(h:lo_ ds):dw_ ds<1000000:=by
 have h1:=rg_ ds h.digits;have h2:10 ^ ds.length≤10 ^ 6:=Nat.pow_le_pow_right (by omega) h.len.2;omega
theorem dC_ (s:List UInt8):(aa_ s).data.toList=s:=by simp[aa_]
theorem gF_ {t:Tok}(h:be_ t)(hk:t.kind=1):d9_ t.text∧a8_ (t.text.headD 0)=true∧kh_.contains t.text=false:=by
 cases h with
 | var h n c k=>exact⟨n,c,k⟩
 | con h=>omega
 | key h=>omega
 | num h=>omega
 | unk h=>omega
 | sign2 h=>omega
 | sign h=>omega
theorem ij_ {t:Tok}(h:be_ t)(hk:t.kind=2):d9_ t.text∧a5_ (t.text.headD 0)=true:=by
 cases h with
 | var h=>omega
 | con h n c=>exact⟨n,c⟩
 | key h=>omega
 | num h=>omega
 | unk h=>omega
 | sign2 h=>omega
 | sign h=>omega
theorem mK_ {t:Tok}(h:be_ t)(hk:t.kind=5):∃ ds,t.text=63 :: ds∧lo_ ds:=by
 cases h with
 | var h=>omega
 | con h=>omega
 | key h=>omega
 | num h=>omega
 | unk h ds e n=>exact⟨ds,e,n⟩
 | sign2 h=>omega
 | sign h=>omega
theorem so_ {s:List UInt8}(h:d9_ s∧a8_ (s.headD 0)=true∧kh_.contains s=false):Mk (gG_ s) :=
 ⟨mM_ _,(fn_ _).2 ⟨⟨fun _=>by simp only[gG_,Ty.name];rw[dC_];exact h,fun e=>absurd (show (1:Int)=3 from e) (by decide),fun e=>absurd (show (1:Int)=2 from e) (by decide)⟩,fun a ha=>by cases ha⟩⟩
theorem qA_ {s:List UInt8}(h:d9_ s∧a5_ (s.headD 0)=true){args:List Ty}(ha:∀ a∈args,Mk a):Mk (fu_ s args) :=
 ⟨(bD_ _).2 ⟨.inr (.inr (.inl ⟨rfl,rfl⟩)),fun a h=>(ha a h).1⟩,(fn_ _).2 ⟨⟨fun e=>by rcases e with e|e<;>exact absurd (show (3:Int)=_ from e) (by decide),fun _=>by simp only[fu_,Ty.name];rw[dC_];exact h,fun e=>absurd (show (3:Int)=2 from e) (by decide)⟩,fun a h=>(ha a h).2⟩⟩
theorem rj_ {s ds:List UInt8}(e:s=63 :: ds)(h:lo_ ds):Mk (gH_ s):=by
 have:=qy_ h;subst e;refine⟨(bD_ _).2 ⟨.inr (.inl ⟨rfl,rfl,rfl,?_,?_⟩),fun a h=>by cases h⟩,(fn_ _).2 ⟨⟨fun e=>by rcases e with e|e<;>exact absurd (show (2:Int)=_ from e) (by decide),fun e=>absurd (show (2:Int)=3 from e) (by decide),fun _=>?_⟩,fun a h=>by cases h⟩⟩
 ·show (0:Int)≤(dw_ ds:Int);omega
 ·show (dw_ ds:Int) < _;omega
 ·show (dw_ ds:Int) < _;omega
theorem sp_ {a b:Ty}(ha:Mk a)(hb:Mk b):Mk (ik_ a b):=by
 have:∀ x∈[a,b],Mk x:=fun x hx=>by
  rcases List.mem_cons.1 hx with rfl|hx
  ·exact ha
  ·rw[List.mem_singleton.1 hx];exact hb
 exact⟨(bD_ _).2 ⟨.inr (.inr (.inr (.inl ⟨rfl,rfl,rfl,rfl⟩))),fun x h=>(this x h).1⟩,(fn_ _).2 ⟨⟨fun e=>by rcases e with e|e<;>exact absurd (show (4:Int)=_ from e) (by decide),fun e=>absurd (show (4:Int)=3 from e) (by decide),fun e=>absurd (show (4:Int)=2 from e) (by decide)⟩,fun x h=>(this x h).2⟩⟩
theorem sq_ {s:List UInt8}(h:d9_ s∧a8_ (s.headD 0)=true∧kh_.contains s=false){b:Ty}(hb:Mk b):Mk (e9_ s b) :=
 ⟨jW_ _ hb.1,(fn_ _).2 ⟨⟨fun _=>by simp only[e9_,Ty.name];rw[dC_];exact h,fun e=>absurd (show (5:Int)=3 from e) (by decide),fun e=>absurd (show (5:Int)=2 from e) (by decide)⟩,fun x hx=>by obtain rfl:=List.mem_singleton.1 hx;exact hb.2⟩⟩
theorem df_ {l:List Tok}{k:Nat}(h:sk l k=true)(hl:∀ t∈l,be_ t):∃ t,ab_ l=t.text∧be_ t∧t.kind=k:=by
 cases l with
 | nil=>cases h
 | cons t l=>exact⟨t,rfl,hl t (by simp),by simpa [sk] using h⟩
theorem aI_ {l:List Tok}(hl:∀ t∈l,be_ t):∀ t∈l.tail,be_ t:=fun t ht=>hl t (List.mem_of_mem_tail ht)
theorem oT_ (t:Ty):1≤t.size:=by rw[t.size_eq];omega
theorem made:∀ n:Nat,
  (∀ l x r,(∀ t∈l,be_ t)→bT_ n l=some (x,r)→Mk x∧x.size+r.length≤l.length∧∀ t∈r,be_ t)∧(∀ l x r,(∀ t∈l,be_ t)→ff_ n l=some (x,r)→Mk x∧x.size+r.length≤l.length∧∀ t∈r,be_ t) ∧
  (∀ l x r,(∀ t∈l,be_ t)→cm_ n l=some (x,r)→Mk x∧x.size+r.length≤l.length∧∀ t∈r,be_ t) ∧
  (∀ s acc l x r,(d9_ s∧a5_ (s.headD 0)=true)→(∀ a∈acc,Mk a)→(∀ t∈l,be_ t)→bh_ n s acc l=some (x,r)→Mk x∧x.size+r.length≤l.length+ax_ acc+1∧∀ t∈r,be_ t) ∧
  (∀ l x r,(∀ t∈l,be_ t)→aU_ n l=some (x,r)→Mk x∧x.size+r.length≤l.length∧∀ t∈r,be_ t):=by
 have hall:∀ (vs:List Tok) (t:Ty),Mk t→(∀ v∈vs,be_ v∧v.kind=1)→Mk (vs.foldr (fun v t=>e9_ v.text t) t)∧(vs.foldr (fun v t=>e9_ v.text t) t).size=t.size+vs.length:=by
  intro vs t ht
  induction vs with
  | nil=>intro _;exact⟨ht,rfl⟩
  | cons v vs ih =>
   intro h;obtain⟨h1,h2⟩:=ih fun u hu=>h u (by simp[hu]);obtain⟨h3,h4⟩:=h v (by simp);rw[List.foldr_cons];refine⟨sq_ (gF_ h3 h4) h1,?_⟩;rw[Ty.size_eq];show (vs.foldr (fun v t=>e9_ v.text t) t).size+0+1=_;rw[h2,List.length_cons];omega
 have hvr:∀ l:List Tok,(dd_ l).length+(cZ_ l).length=l.length:=fun l=>by
  have:=congrArg List.length (List.takeWhile_append_dropWhile (p:=fun t:Tok=>t.kind==1) (l:=l));rw[List.length_append] at this;exact this
 have hvm:∀ l:List Tok,(∀ t∈l,be_ t)→(∀ v∈dd_ l,be_ v∧v.kind=1)∧∀ t∈cZ_ l,be_ t:=fun l hl=>by
  refine⟨fun v hv=>⟨hl v (List.takeWhile_subset _ hv),?_⟩,fun t ht=>hl t (List.dropWhile_subset _ ht)⟩;have:=List.all_eq_true.1 (List.all_takeWhile (p:=fun t:Tok=>t.kind==1) (l:=l)) v hv;simpa using this
 intro n
 induction n with
 | zero=>exact⟨fun _ _ _ _ h=>by simp[bT_] at h,fun _ _ _ _ h=>by simp[ff_] at h,fun _ _ _ _ h=>by simp[cm_] at h,fun _ _ _ _ _ _ _ _ h=>by simp[bh_] at h,fun _ _ _ _ h=>by simp[aU_] at h⟩
 | succ n ih =>
  obtain⟨i1,i2,i3,i4,i5⟩:=ih;refine⟨fun l x r hl h=>?_,fun l x r hl h=>?_,fun l x r hl h=>?_,fun s acc l x r hs hacc hl h=>?_,fun l x r hl h=>?_⟩
  ·rw[bT_] at h
   split at h
   ·next h1 =>
    obtain⟨a1,a2,a3⟩:=i2 _ _ _ (aI_ hl) h;have:=b8_ h1;simp only[List.length_tail] at a2;exact⟨a1,by omega,a3⟩
   ·split at h
    ·cases h
    ·next a r' h2 =>
     obtain⟨a1,a2,a3⟩:=i3 _ _ _ hl h2
     split at h
     ·next h3 =>
      split at h
      ·cases h
      ·next b r'' h4 =>
       obtain⟨b1,b2,b3⟩:=i1 _ _ _ (aI_ a3) h4;have:=b8_ h3;simp only[Option.some.injEq,Prod.mk.injEq] at h;obtain⟨rfl,rfl⟩:=h;refine⟨sp_ a1 b1,?_,b3⟩;rw[Ty.size_eq];simp only[List.length_tail] at b2;show ax_ [a,b]+1 + _≤_;simp only[ax_];omega
     ·simp only[Option.some.injEq,Prod.mk.injEq] at h
      obtain⟨rfl,rfl⟩:=h;exact⟨a1,a2,a3⟩
  ·rw[ff_] at h
   split at h
   ·cases h
   ·next h1 =>
    split at h
    ·cases h
    ·next t r' h2 =>
     obtain⟨m1,m2⟩:=hvm l hl;obtain⟨a1,a2,a3⟩:=i1 _ _ _ (aI_ m2) h2;simp only[Option.some.injEq,Prod.mk.injEq] at h;obtain⟨rfl,rfl⟩:=h;obtain⟨c1,c2⟩:=hall (dd_ l) t a1 m1;refine⟨c1,?_,a3⟩;rw[c2];have:=hvr l;simp only[List.length_tail] at a2;have hne:st (cZ_ l) 6 dot=true:=by cases hh:st (cZ_ l) 6 dot<;>simp[hh] at h1 ⊢
     have:=b8_ hne;omega
  ·rw[cm_] at h
   split at h
   ·next h1 =>
    obtain⟨t,ht,hk,hk2⟩:=df_ h1 hl;rw[ht] at h;obtain⟨a1,a2,a3⟩:=i4 _ _ _ _ _ (ij_ hk hk2) (fun a ha=>by cases ha) (aI_ hl) h;have:=ci_ h1;simp only[List.length_tail,ax_] at a2;exact⟨a1,by omega,a3⟩
   ·exact i5 _ _ _ hl h
  ·rw[bh_] at h
   split at h
   ·split at h
    ·cases h
    ·next x' r' h2 =>
     obtain⟨a1,a2,a3⟩:=i5 _ _ _ hl h2;obtain⟨b1,b2,b3⟩:=i4 _ _ _ _ _ hs (fun a ha=>by
      rcases List.mem_append.1 ha with ha|ha
      ·exact hacc a ha
      ·rw[List.mem_singleton.1 ha];exact a1) a3 h
     rw[eA_] at b2;simp only[ax_] at b2;exact⟨b1,by omega,b3⟩
   ·simp only[Option.some.injEq,Prod.mk.injEq] at h
    obtain⟨rfl,rfl⟩:=h;refine⟨qA_ hs hacc,?_,hl⟩;rw[Ty.size_eq];show ax_ acc+1 + _≤_;omega
  ·rw[aU_] at h
   split at h
   ·next h1 =>
    have:=ci_ h1;obtain⟨t,ht,hk,hk2⟩:=df_ h1 hl;simp only[Option.some.injEq,Prod.mk.injEq] at h;obtain⟨rfl,rfl⟩:=h;rw[ht];refine⟨so_ (gF_ hk hk2),?_,aI_ hl⟩;rw[Ty.size_eq];simp[gG_,Ty.args,ax_];omega
   ·split at h
    ·next h1 =>
     have:=ci_ h1;obtain⟨t,ht,hk,hk2⟩:=df_ h1 hl;simp only[Option.some.injEq,Prod.mk.injEq] at h;obtain⟨rfl,rfl⟩:=h;rw[ht];refine⟨qA_ (ij_ hk hk2) (fun a ha=>by cases ha),?_,aI_ hl⟩;rw[Ty.size_eq];simp[fu_,Ty.args,ax_];omega
    ·split at h
     ·next h1 =>
      have:=ci_ h1;obtain⟨t,ht,hk,hk2⟩:=df_ h1 hl;simp only[Option.some.injEq,Prod.mk.injEq] at h;obtain⟨rfl,rfl⟩:=h;rw[ht];obtain⟨ds,e,hn⟩:=mK_ hk hk2;refine⟨rj_ e hn,?_,aI_ hl⟩;rw[Ty.size_eq];simp[gH_,Ty.args,ax_];omega
     ·split at h
      ·next h1 =>
       have:=b8_ h1
       split at h
       ·cases h
       ·next t r' h2 =>
        obtain⟨a1,a2,a3⟩:=i1 _ _ _ (aI_ hl) h2
        split at h
        ·simp only[Option.some.injEq,Prod.mk.injEq] at h
         obtain⟨rfl,rfl⟩:=h;refine⟨a1,?_,aI_ a3⟩;simp only[List.length_tail] at *;omega
        ·cases h
      ·cases h
theorem e1_ {s:ByteArray}(h:d9_ s.data.toList):1≤s.size∧s.size≤16:=by
 have e:s.size=s.data.toList.length:=by rw[Array.length_toList];rfl
 rw[e];exact h.len
theorem rk_:∀ t:Ty,Mk t→cV_ t:=by
 intro t
 induction t using Ty.ind with
 | h t ih =>
  intro h;have hs:=(bD_ t).1 h.1;have hx:=(fn_ t).1 h.2;have ia:=fun a ha=>ih a ha ⟨hs.2 a ha,hx.2 a ha⟩;have hn:t.name.size≤64∧(t.kind=5→1≤t.name.size):=by
   rcases hs.1 with hk|hk|hk|hk|hk
   ·have:=e1_ (hx.1.1 (.inl hk.1)).1
    exact⟨by omega,fun _=>this.1⟩
   ·rw[hk.2.1];exact⟨by decide,fun e=>by omega⟩
   ·have:=e1_ (hx.1.2.1 hk.1).1
    exact⟨by omega,fun _=>this.1⟩
   ·rw[hk.2.1];exact⟨by decide,fun e=>by omega⟩
   ·have:=e1_ (hx.1.1 (.inr hk.1)).1
    exact⟨by omega,fun _=>this.1⟩
  refine⟨(bq_ t).2 ⟨?_,fun a ha=>(ia a ha).1⟩,(dm_ t).2 ⟨⟨hn.2,hn.1⟩,fun a ha=>(ia a ha).2⟩⟩
  rcases hs.1 with hk|hk|hk|hk|hk
  ·exact .inl ⟨hk.1,hk.2.2⟩
  ·exact .inr (.inl ⟨hk.1,hk.2.2.1,hk.2.2.2⟩)
  ·exact .inr (.inr (.inl hk.1))
  ·exact .inr (.inr (.inr (.inl ⟨hk.1,hk.2.2.2⟩)))
  ·exact .inr (.inr (.inr (.inr ⟨hk.1,hk.2.2⟩)))
theorem kP_ (l:List UInt8):(bI_ l).1.length≤l.length:=by
 unfold bI_
 split
 ·simp
 ·unfold ec_
  refine bm_ (fw_ _ _ _ _) ?_;simp
theorem mb_ {s:List UInt8}{t:Ty}(h:bF_ s=.ok t):Mk t∧t.depth≤50∧t.size≤s.length∧t.size≤4000:=by
 rw[bF_] at h
 split at h
 ·cases h
 ·split at h
  ·cases h
  ·next t' r hT =>
   split at h
   ·cases h
   ·split at h
    ·cases h
    ·next h50 =>
     injection h with h
     subst h;obtain⟨a1,a2,_⟩:=(made _).1 _ _ _ (fun t ht=>oM_ t (cJ_ s t ht)) hT;have h1:=kP_ s;have h2:=ca_ s;exact⟨a1,by omega,by omega,by omega⟩
end
end Go.Proofs.YtkihnodkhnahiaaGreatDoor.Tp

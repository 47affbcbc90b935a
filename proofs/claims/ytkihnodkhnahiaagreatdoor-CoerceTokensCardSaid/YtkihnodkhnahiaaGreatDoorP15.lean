/- Texts laid together: TySaid, TyRead, TyMade. -/
import Derived.Test.YtkihnodkhnahiaaGreatDoorP14
set_option maxRecDepth 100000
set_option maxHeartbeats 6400000
namespace Go.Proofs.YtkihnodkhnahiaaGreatDoor.Tp
section
open Go.RowKit
open Lx
theorem lY_:∀ n:Nat,∀ m,m≤n→nG_ m:=by
 intro n
 induction n with
 | zero =>
  intro m hm;obtain rfl:m=0:=by omega
  exact⟨fun _ _ _ _ _ _ _ _ h=>by omega,fun _ _ _ _ _ _ _ _ h=>by omega,fun _ _ _ _ _ _ _ _ h=>by omega,fun _ _ _ _ _ _ _ _ h=>by omega⟩
 | succ n ih =>
  intro m hm
  rcases Nat.lt_or_ge m (n+1) with h|h
  ·exact ih m (by omega)
  ·obtain rfl:m=n+1:=by omega
   have i:=ih n (az_ _);refine⟨fun N B w l a b c d e=>pD_ n N B w l i a b c d e,fun N B w l a b c d e=>qt_ n N B w l i a b c d e,fun N B w l a b c d e=>?_,fun N B w l a b c d e=>oV_ n N B w l i a b c d e⟩;cases h1:sk l 2
   ·exact oY_ n N B w l i a b c d e h1
   ·exact qs_ n N B w l ih a b c d e h1
theorem said (n:Nat):nG_ n:=lY_ n n (az_ n)
open Lx
theorem deep:∀ n:Nat,
  (∀ l x r,bM_ n l=some (x,r)→x.depth+r.length≤l.length)∧(∀ l x r,eX_ n l=some (x,r)→x.depth+r.length≤l.length) ∧
  (∀ l x r,ci_ n l=some (x,r)→x.depth+r.length≤l.length)∧(∀ s acc l x r,bb_ n s acc l=some (x,r)→x.depth≤max (aB_ acc) (l.length - r.length)+1∧r.length≤l.length) ∧
  (∀ l x r,aO_ n l=some (x,r)→x.depth+r.length≤l.length):=by
 have hall:∀ (vs:List Tok) (t:Ty),(vs.foldr (fun v t=>eS_ v.text t) t).depth=t.depth+vs.length:=by
  intro vs t
  induction vs with
  | nil=>rfl
  | cons v vs ih =>
   rw[List.foldr_cons,Ty.depth_eq];show max (vs.foldr (fun v t=>eS_ v.text t) t).depth 0+1=_;rw[ih,List.length_cons];omega
 have hvr:∀ l:List Tok,(c2_ l).length+(cQ_ l).length=l.length:=fun l=>by
  have:=congrArg List.length (List.takeWhile_append_dropWhile (p:=fun t:Tok=>t.kind==1) (l:=l));rw[List.length_append] at this;exact this
 intro n
 induction n with
 | zero=>exact⟨fun _ _ _ h=>by simp[bM_] at h,fun _ _ _ h=>by simp[eX_] at h,fun _ _ _ h=>by simp[ci_] at h,fun _ _ _ _ _ h=>by simp[bb_] at h,fun _ _ _ h=>by simp[aO_] at h⟩
 | succ n ih =>
  obtain⟨i1,i2,i3,i4,i5⟩:=ih;refine⟨fun l x r h=>?_,fun l x r h=>?_,fun l x r h=>?_,fun s acc l x r h=>?_,fun l x r h=>?_⟩
  ·rw[bM_] at h
   split at h
   ·next h1=>have:=i2 _ _ _ h;have:=bX_ h1;simp at *;omega
   ·split at h
    ·cases h
    ·next a r' h2 =>
     have e2:=i3 _ _ _ h2
     split at h
     ·next h3 =>
      split at h
      ·cases h
      ·next b r'' h4 =>
       have e4:=i1 _ _ _ h4;have:=bX_ h3;simp only[Option.some.injEq,Prod.mk.injEq] at h;obtain⟨rfl,rfl⟩:=h;rw[Ty.depth_eq];simp only[hI_,Ty.args,aB_];simp only[List.length_tail] at e4;omega
     ·simp only[Option.some.injEq,Prod.mk.injEq] at h
      obtain⟨rfl,rfl⟩:=h;exact e2
  ·rw[eX_] at h
   split at h
   ·cases h
   ·next h1 =>
    split at h
    ·cases h
    ·next t r' h2 =>
     have e2:=i1 _ _ _ h2;simp only[Option.some.injEq,Prod.mk.injEq] at h;obtain⟨rfl,rfl⟩:=h;rw[hall];have:=hvr l;simp only[List.length_tail] at e2;have hne:st (cQ_ l) 6 dot=true:=by cases hh:st (cQ_ l) 6 dot<;>simp[hh] at h1 ⊢
     have:=bX_ hne;omega
  ·rw[ci_] at h
   split at h
   ·next h1 =>
    obtain⟨e,e'⟩:=i4 _ _ _ _ _ h;have:=b2_ h1;simp only[List.length_tail,aB_] at e e';omega
   ·exact i5 _ _ _ h
  ·rw[bb_] at h
   split at h
   ·split at h
    ·cases h
    ·next x' r' h2 =>
     have a:=i5 _ _ _ h2;obtain⟨b,b'⟩:=i4 _ _ _ _ _ h;rw[dj_] at b;simp only[aB_] at b;exact⟨by omega,by omega⟩
   ·simp only[Option.some.injEq,Prod.mk.injEq] at h
    obtain⟨rfl,rfl⟩:=h;rw[Ty.depth_eq];simp only[fb_,Ty.args];exact⟨by omega,az_ _⟩
  ·rw[aO_] at h
   split at h
   ·next h1 =>
    have:=b2_ h1;simp only[Option.some.injEq,Prod.mk.injEq] at h;obtain⟨rfl,rfl⟩:=h;simp[gl_,Ty.depth,aB_];omega
   ·split at h
    ·next h1 =>
     have:=b2_ h1;simp only[Option.some.injEq,Prod.mk.injEq] at h;obtain⟨rfl,rfl⟩:=h;simp[fb_,Ty.depth,aB_];omega
    ·split at h
     ·next h1 =>
      have:=b2_ h1;simp only[Option.some.injEq,Prod.mk.injEq] at h;obtain⟨rfl,rfl⟩:=h;simp[gm_,Ty.depth,aB_];omega
     ·split at h
      ·next h1 =>
       have:=bX_ h1
       split at h
       ·cases h
       ·next t r' h2 =>
        have e2:=i1 _ _ _ h2
        split at h
        ·simp only[Option.some.injEq,Prod.mk.injEq] at h
         obtain⟨rfl,rfl⟩:=h;simp only[List.length_tail] at *;omega
        ·cases h
      ·cases h
def em_ (l:List Tok):Option (Ty × List Tok):=bM_ (4*l.length+4) l
def bA_ (s:List UInt8):Except Nat Ty :=
 if (bZ_ s).2.2≠0 then .error (bZ_ s).2.2
 else match em_ (bZ_ s).1 with
  | none=>.error 20
  | some (t,r)=>if r≠[] then .error 20 else if 50<t.depth then .error 3 else .ok t
theorem bo_ {w w':World}{v:Value}{l:List Tok}(h:aL_ w v l)(hb:Below w.heap.size w w'):aL_ w' v l:=by
 obtain⟨a',c',e,h4,h5|⟨b,off,h6,h7⟩⟩:=h
 ·exact⟨a',c',e,h4,.inl h5⟩
 ·refine⟨a',c',e,h4,.inr ⟨b,off,h6,fun i hi=>?_⟩⟩
  obtain⟨c0,c1,c2⟩:=h7 i hi;have hbl:=World.block_lt_of_cell? w _ c0;exact⟨(hb.cell hbl).trans c0,(hb.cell (p:=⟨b,off+i*3+1,none⟩) hbl).trans c1,(hb.cell (p:=⟨b,off+i*3+2,none⟩) hbl).trans c2⟩
theorem fq_ {w w':World}{B:Nat}(h:w.grownBy w' (some B))(hB:w.heap.size≤B):Below w.heap.size w w' :=
 (Below.refl _ _).grown h (az_ _) (fun k hk=>by injection hk;omega)
def o1_ (w:World)(res:Option (Ty × List Tok))(e:Ending)(w':World):Prop :=
 Below w.heap.size w w'∧match res with
 | none=>e=.returned (.tuple #[zv,.slice none 0 0,.bool false])
 | some (t,r)=>∃ a c a2 c2,e=.returned (.tuple #[tv t a c,.slice a2 r.length c2,.bool true])∧ac_ (In w.heap.size w'.heap.size) w' (.slice a t.args.length c) t.args∧aL_ w' (.slice a2 r.length c2) r
def rv_ (N:Nat)(w:World)(res:Option (Ty × List Tok))(e:Ending)(w':World):Prop :=
 Below w.heap.size w w'∧match res with
 | none=>e=.returned (.tuple #[zv,.slice none 0 0,.bool false])
 | some (t,r)=>∃ a c a2 c2,e=.returned (.tuple #[tv t a c,.slice a2 r.length c2,.bool true])∧ac_ (In w.heap.size w'.heap.size) w' (.slice a t.args.length c) t.args∧aL_ w' (.slice a2 r.length c2) r∧∀ b o,a2=some ⟨b,o,none⟩→b<N
theorem mp_ (N:Nat)(w:World)(hN:N≤w.heap.size)(a:Option Addr)(cap:Nat)(l:List Tok)(ht:aL_ w (.slice a l.length cap) l)(hb:∀ b o,a=some ⟨b,o,none⟩→b<N)(hok:cT_ l)(hl:l.length≤4000) :
  Calls Tryz.prog 29 #[.slice a l.length cap] w (rv_ N w (em_ l)):=by
 have hz:=ao_ w (.cells #[.int .i64 0,.string ByteArray.empty,.int .i64 0,.slice none 0 0] 30);have hz2:=hz.alloc (by simp) (.cells #[.slice a l.length cap] 115);have hr:Rd N (w.heap.size+1) ((w.alloc (.cells #[.int .i64 0,.string ByteArray.empty,.int .i64 0,.slice none 0 0] 30)).alloc (.cells #[.slice a l.length cap] 115)) l :=
  ⟨a,cap,am_ (by simp),bo_ ht hz2,by omega,hb⟩
 have C:=hid ((said (4*l.length+4)).typ _ _ _ _ hr (by simp;omega) hok hl (az_ _));have b4:=hid ((B4.new w (.int .i64 0) (.string ByteArray.empty) (.int .i64 0) (.slice none 0 0)).low (ao_ _ (.cells #[.slice a l.length cap] 115)));have HR:=hid hr;have HZ:=hid hz2;have HN:=hid hN;clear ht hb hok hz hr hz2 hN;go_enter Tryz.func29,Tryz.ntmps29;go_wp2_with fail;refine C.out.mono ?_;rintro e w1 ⟨hg,hres⟩;have k4:=b4.out.grown hg (fun e=>by injection e;omega);obtain⟨c0,c1,c2,c3⟩:=k4.c03;obtain⟨f0,f1,f2,f3⟩:=k4.f03;have K4:=hid k4;have G1:=hid (ad_ (ag_ HZ.out) hg);have hsz:=hid hg.size;clear k4 hg;cases hT:bM_ (4*l.length+4) l with
 | none =>
  rw[hT] at hres;obtain⟨k,s,m,a1,c,c',rfl⟩:=hres;have E:Hid (em_ l=none):=hid hT;clear hT;go_wp2;have q0:=K4.out.set4 (.int .i64 k) (.string s) (.int .i64 m) (.slice a1 c c');have q4:=q0.set4 (.int .i64 0) (.string ⟨#[]⟩) (.int .i64 0) (.slice none 0 0);have g4:=av_ (av_ G1.out (b:=w.heap.size) (az_ _) (.int .i64 k) (.string s) (.int .i64 m) (.slice a1 c c')) (b:=w.heap.size) (az_ _) (.int .i64 0) (.string ⟨#[]⟩) (.int .i64 0) (.slice none 0 0);refine bodyPost_ret (v:=.tuple #[zv,.slice none 0 0,.bool false]) (by simp[results,Tryz.results29,go_sem,zv,q4.c0,q4.c1,q4.c2,q4.c3]) rfl ?_;rw[E.out];exact⟨fq_ g4 (by omega),rfl⟩
 | some x =>
  obtain⟨t,r⟩:=x;rw[hT] at hres;obtain⟨a1,c,rfl,hA,hR⟩:=hres;have E:Hid (em_ l=some (t,r)):=hid hT;obtain⟨a2,c2,hB,hT2,_⟩:=id hR;have RR:=hid hR;have HA:=hid hA;have cB:w1.cell? ⟨w.heap.size+1,0,none⟩=some (.slice a2 r.length c2):=cell_of_row w1 _ 0 _ _ _ hB;clear hT hA hR hB hT2;unfold tv;go_wp2;have q0:=K4.out.set4 (.int .i64 t.kind) (.string t.name) (.int .i64 t.n) (.slice a1 t.args.length c);have hne:=K4.out.ne_rd RR.out;have g0:=av_ G1.out (b:=w.heap.size) (az_ _) (.int .i64 t.kind) (.string t.name) (.int .i64 t.n) (.slice a1 t.args.length c);have hs1:w.heap.size+1+1≤w1.heap.size:=by have:=hsz.out;simpa using this
  have r0:=RR.out.set4 (b:=w.heap.size) (by omega) HN.out (.int .i64 t.kind) (.string t.name) (.int .i64 t.n) (.slice a1 t.args.length c);have a0:=HA.out.keep (B:=(((w1.setCell ⟨w.heap.size,0,none⟩ (.int .i64 t.kind)).setCell ⟨w.heap.size,1,none⟩ (.string t.name)).setCell ⟨w.heap.size,2,none⟩ (.int .i64 t.n)).setCell ⟨w.heap.size,3,none⟩ (.slice a1 t.args.length c)) (fun b hb=>by
   obtain⟨b1,b2⟩:=hb;simp at b1;rw[Below.heap_setCell _ _ _ _ (by simp;omega),Below.heap_setCell _ _ _ _ (by simp;omega),Below.heap_setCell _ _ _ _ (by simp;omega),Below.heap_setCell _ _ _ _ (by simp;omega)])
  have hfs:((((w1.setCell ⟨w.heap.size,0,none⟩ (.int .i64 t.kind)).setCell ⟨w.heap.size,1,none⟩ (.string t.name)).setCell ⟨w.heap.size,2,none⟩ (.int .i64 t.n)).setCell ⟨w.heap.size,3,none⟩ (.slice a1 t.args.length c)).heap.size=w1.heap.size:=by simp
  have a1':=a0.mono (S':=In (w.heap.size+1+1) w1.heap.size) (fun b hb=>by obtain⟨b1,b2⟩:=hb;simp at b1;exact⟨by omega,b2⟩);rw[← hfs] at a1';generalize (((w1.setCell ⟨w.heap.size,0,none⟩ (.int .i64 t.kind)).setCell ⟨w.heap.size,1,none⟩ (.string t.name)).setCell ⟨w.heap.size,2,none⟩ (.int .i64 t.n)).setCell ⟨w.heap.size,3,none⟩ (.slice a1 t.args.length c)=w2 at *;obtain⟨d0,d1,d2,d3⟩:=q0.c03;obtain⟨h0,h1,h2,h3⟩:=q0.f03;obtain⟨a3,c3',hB3,hT3,_⟩:=id r0;have cB3:w2.cell? ⟨w.heap.size+1,0,none⟩=some (.slice a3 r.length c3'):=cell_of_row w2 _ 0 _ _ _ hB3;have Q0:=hid q0;have GG:=hid g0;have AA:=hid a1';have TT:=hid hT3;have R2:=hid r0;have HB3:=hid hB3;clear q0 g0 r0 a0 a1' hB3 hT3 cB hs1 hfs c0 c1 c2 c3 f0 f1 f2 f3
  go_region
  go_wp2;have q4:B4 ((((w2.setCell ⟨w.heap.size,0,none⟩ (.int .i64 t.kind)).setCell ⟨w.heap.size,1,none⟩ (.string t.name)).setCell ⟨w.heap.size,2,none⟩ (.int .i64 t.n)).setCell ⟨w.heap.size,3,none⟩ (.slice a1 t.args.length c)).drew w.heap.size (.int .i64 t.kind) (.string t.name) (.int .i64 t.n) (.slice a1 t.args.length c):=Q0.out.set4 (.int .i64 t.kind) (.string t.name) (.int .i64 t.n) (.slice a1 t.args.length c);have g4:=ad_ (av_ GG.out (b:=w.heap.size) (az_ _) (.int .i64 t.kind) (.string t.name) (.int .i64 t.n) (.slice a1 t.args.length c)) (ag_ (r:=some (w.heap.size+1)) ((Below.refl _ _).drew));have a4:=AA.out.keep (B:=((((w2.setCell ⟨w.heap.size,0,none⟩ (.int .i64 t.kind)).setCell ⟨w.heap.size,1,none⟩ (.string t.name)).setCell ⟨w.heap.size,2,none⟩ (.int .i64 t.n)).setCell ⟨w.heap.size,3,none⟩ (.slice a1 t.args.length c)).drew) (fun b hb=>by
   obtain⟨b1,b2⟩:=hb;show ((((w2.setCell ⟨w.heap.size,0,none⟩ (.int .i64 t.kind)).setCell ⟨w.heap.size,1,none⟩ (.string t.name)).setCell ⟨w.heap.size,2,none⟩ (.int .i64 t.n)).setCell ⟨w.heap.size,3,none⟩ (.slice a1 t.args.length c)).heap[b]? = _;rw[Below.heap_setCell _ _ _ _ (by simp;omega),Below.heap_setCell _ _ _ _ (by simp;omega),Below.heap_setCell _ _ _ _ (by simp;omega),Below.heap_setCell _ _ _ _ (by simp;omega)])
  have t4:aL_ ((((w2.setCell ⟨w.heap.size,0,none⟩ (.int .i64 t.kind)).setCell ⟨w.heap.size,1,none⟩ (.string t.name)).setCell ⟨w.heap.size,2,none⟩ (.int .i64 t.n)).setCell ⟨w.heap.size,3,none⟩ (.slice a1 t.args.length c)).drew (.slice a3 r.length c3') r∧∀ b o,a3=some ⟨b,o,none⟩→b<N:=by
   obtain⟨a5,c5,hh,hT5,_,hN5⟩:=(R2.out.set4 (b:=w.heap.size) (by omega) HN.out (.int .i64 t.kind) (.string t.name) (.int .i64 t.n) (.slice a1 t.args.length c)).low ((Below.refl _ _).drew);have h5:((((w2.setCell ⟨w.heap.size,0,none⟩ (.int .i64 t.kind)).setCell ⟨w.heap.size,1,none⟩ (.string t.name)).setCell ⟨w.heap.size,2,none⟩ (.int .i64 t.n)).setCell ⟨w.heap.size,3,none⟩ (.slice a1 t.args.length c)).drew.heap[w.heap.size+1]? = w2.heap[w.heap.size+1]? := by
    show ((((w2.setCell ⟨w.heap.size,0,none⟩ (.int .i64 t.kind)).setCell ⟨w.heap.size,1,none⟩ (.string t.name)).setCell ⟨w.heap.size,2,none⟩ (.int .i64 t.n)).setCell ⟨w.heap.size,3,none⟩ (.slice a1 t.args.length c)).heap[w.heap.size+1]? = _;rw[Below.heap_setCell _ _ _ _ (by simp),Below.heap_setCell _ _ _ _ (by simp),Below.heap_setCell _ _ _ _ (by simp),Below.heap_setCell _ _ _ _ (by simp)]
   rw[h5,HB3.out] at hh;injection hh with hh
   injection hh with hh
   injection hh with hh
   injection hh with hh
   refine⟨by rw[hh];exact hT5,fun b o e=>?_⟩;injection hh with e1 _ _
   exact hN5 b o (e1.symm.trans e)
  refine bodyPost_ret (v:=.tuple #[tv t a1 c,.slice a3 r.length c3',.bool true]) (by simp[results,Tryz.results29,go_sem,tv,q4.c0,q4.c1,q4.c2,q4.c3]) rfl ?_;rw[E.out];exact⟨fq_ g4 (by omega),a1,c,a3,c3',rfl,a4.mono (fun b hb=>by obtain⟨b1,b2⟩:=hb;exact⟨by omega,by simpa using b2⟩),t4.1,t4.2⟩
theorem oc_ (w:World)(a:Option Addr)(cap:Nat)(l:List Tok)(ht:aL_ w (.slice a l.length cap) l)(hb:∀ b o,a=some ⟨b,o,none⟩→b<w.heap.size)(hok:cT_ l)(hl:l.length≤4000) :
  Calls Tryz.prog 29 #[.slice a l.length cap] w (o1_ w (em_ l)):=by
 refine (mp_ w.heap.size w (az_ _) a cap l ht hb hok hl).mono ?_;rintro e w' ⟨hb,h⟩;refine⟨hb,?_⟩;cases hT:em_ l with
 | none=>rw[hT] at h;exact h
 | some x =>
  rw[hT] at h;obtain⟨a,c,a2,c2,h1,h2,h3,_⟩:=h;exact⟨a,c,a2,c2,h1,h2,h3⟩
end
section
open Lx
def Mk (t:Ty):Prop:=Std t∧qL_ t
theorem p4_ (l:List UInt8)(h:∀ c∈l,aH_ c=true):c5_ l<10 ^ l.length:=by
 have:∀ (l:List UInt8) (n:Nat),(∀ c∈l,aH_ c=true)→l.foldl (fun n c=>10*n+(c.toNat - 48)) n<(n+1)*10 ^ l.length:=by
  intro l
  induction l with
  | nil=>intro n _;simp
  | cons c l ih =>
   intro n h;rw[List.foldl_cons,List.length_cons];refine aM_ (ih _ fun d hd=>h d (by simp[hd])) ?_;have hc:=h c (by simp);unfold aH_ at hc;simp only[decide_eq_true_eq] at hc;rw[Nat.pow_succ,Nat.mul_comm (10 ^ l.length) 10,← Nat.mul_assoc];refine Nat.mul_le_mul_right _ ?_;omega
 have:=this l 0 h;unfold c5_;omega
theorem pp_ {ds:List UInt8}(h:py_ ds):c5_ ds<1000000:=by
 have h1:=p4_ ds h.digits;have h2:10 ^ ds.length≤10 ^ 6:=Nat.pow_le_pow_right (by omega) h.len.2;omega
theorem eO_ (s:List UInt8):(aa_ s).data.toList=s:=by simp[aa_]
theorem hG_ {t:Tok}(h:bu_ t)(hk:t.kind=1):fV_ t.text∧bs_ (t.text.headD 0)=true∧mY_.contains t.text=false:=by
 cases h with
 | var h n c k=>exact⟨n,c,k⟩
 | con h=>omega
 | key h=>omega
 | num h=>omega
 | unk h=>omega
 | sign2 h=>omega
 | sign h=>omega
theorem jd_ {t:Tok}(h:bu_ t)(hk:t.kind=2):fV_ t.text∧bh_ (t.text.headD 0)=true:=by
 cases h with
 | var h=>omega
 | con h n c=>exact⟨n,c⟩
 | key h=>omega
 | num h=>omega
 | unk h=>omega
 | sign2 h=>omega
 | sign h=>omega
theorem lL_ {t:Tok}(h:bu_ t)(hk:t.kind=5):∃ ds,t.text=63 :: ds∧py_ ds:=by
 cases h with
 | var h=>omega
 | con h=>omega
 | key h=>omega
 | num h=>omega
 | unk h ds e n=>exact⟨ds,e,n⟩
 | sign2 h=>omega
 | sign h=>omega
theorem ra_ {s:List UInt8}(h:fV_ s∧bs_ (s.headD 0)=true∧mY_.contains s=false):Mk (gl_ s) :=
 ⟨lO_ _,(fL_ _).2 ⟨⟨fun _=>by simp only[gl_,Ty.name];rw[eO_];exact h,fun e=>absurd (show (1:Int)=3 from e) (by decide),fun e=>absurd (show (1:Int)=2 from e) (by decide)⟩,fun a ha=>by cases ha⟩⟩
theorem pr_ {s:List UInt8}(h:fV_ s∧bh_ (s.headD 0)=true){args:List Ty}(ha:∀ a∈args,Mk a):Mk (fb_ s args) :=
 ⟨(bW_ _).2 ⟨.inr (.inr (.inl ⟨rfl,rfl⟩)),fun a h=>(ha a h).1⟩,(fL_ _).2 ⟨⟨fun e=>by rcases e with e|e<;>exact absurd (show (3:Int)=_ from e) (by decide),fun _=>by simp only[fb_,Ty.name];rw[eO_];exact h,fun e=>absurd (show (3:Int)=2 from e) (by decide)⟩,fun a h=>(ha a h).2⟩⟩
theorem p7_ {s ds:List UInt8}(e:s=63 :: ds)(h:py_ ds):Mk (gm_ s):=by
 have:=pp_ h;subst e;refine⟨(bW_ _).2 ⟨.inr (.inl ⟨rfl,rfl,rfl,?_,?_⟩),fun a h=>by cases h⟩,(fL_ _).2 ⟨⟨fun e=>by rcases e with e|e<;>exact absurd (show (2:Int)=_ from e) (by decide),fun e=>absurd (show (2:Int)=3 from e) (by decide),fun _=>?_⟩,fun a h=>by cases h⟩⟩
 ·show (0:Int)≤(c5_ ds:Int);omega
 ·show (c5_ ds:Int) < _;omega
 ·show (c5_ ds:Int) < _;omega
theorem rb_ {a b:Ty}(ha:Mk a)(hb:Mk b):Mk (hI_ a b):=by
 have:∀ x∈[a,b],Mk x:=fun x hx=>by
  rcases List.mem_cons.1 hx with rfl|hx
  ·exact ha
  ·rw[List.mem_singleton.1 hx];exact hb
 exact⟨(bW_ _).2 ⟨.inr (.inr (.inr (.inl ⟨rfl,rfl,rfl,rfl⟩))),fun x h=>(this x h).1⟩,(fL_ _).2 ⟨⟨fun e=>by rcases e with e|e<;>exact absurd (show (4:Int)=_ from e) (by decide),fun e=>absurd (show (4:Int)=3 from e) (by decide),fun e=>absurd (show (4:Int)=2 from e) (by decide)⟩,fun x h=>(this x h).2⟩⟩
theorem rc_ {s:List UInt8}(h:fV_ s∧bs_ (s.headD 0)=true∧mY_.contains s=false){b:Ty}(hb:Mk b):Mk (eS_ s b) :=
 ⟨je_ _ hb.1,(fL_ _).2 ⟨⟨fun _=>by simp only[eS_,Ty.name];rw[eO_];exact h,fun e=>absurd (show (5:Int)=3 from e) (by decide),fun e=>absurd (show (5:Int)=2 from e) (by decide)⟩,fun x hx=>by obtain rfl:=List.mem_singleton.1 hx;exact hb.2⟩⟩
theorem d8_ {l:List Tok}{k:Nat}(h:sk l k=true)(hl:∀ t∈l,bu_ t):∃ t,ab_ l=t.text∧bu_ t∧t.kind=k:=by
 cases l with
 | nil=>cases h
 | cons t l=>exact⟨t,rfl,hl t (by simp),by simpa [sk] using h⟩
theorem aV_ {l:List Tok}(hl:∀ t∈l,bu_ t):∀ t∈l.tail,bu_ t:=fun t ht=>hl t (List.mem_of_mem_tail ht)
theorem nN_ (t:Ty):1≤t.size:=by rw[t.size_eq];omega
theorem made:∀ n:Nat,
  (∀ l x r,(∀ t∈l,bu_ t)→bM_ n l=some (x,r)→Mk x∧x.size+r.length≤l.length∧∀ t∈r,bu_ t)∧(∀ l x r,(∀ t∈l,bu_ t)→eX_ n l=some (x,r)→Mk x∧x.size+r.length≤l.length∧∀ t∈r,bu_ t) ∧
  (∀ l x r,(∀ t∈l,bu_ t)→ci_ n l=some (x,r)→Mk x∧x.size+r.length≤l.length∧∀ t∈r,bu_ t) ∧
  (∀ s acc l x r,(fV_ s∧bh_ (s.headD 0)=true)→(∀ a∈acc,Mk a)→(∀ t∈l,bu_ t)→bb_ n s acc l=some (x,r)→Mk x∧x.size+r.length≤l.length+aw_ acc+1∧∀ t∈r,bu_ t) ∧
  (∀ l x r,(∀ t∈l,bu_ t)→aO_ n l=some (x,r)→Mk x∧x.size+r.length≤l.length∧∀ t∈r,bu_ t):=by
 have hall:∀ (vs:List Tok) (t:Ty),Mk t→(∀ v∈vs,bu_ v∧v.kind=1)→Mk (vs.foldr (fun v t=>eS_ v.text t) t)∧(vs.foldr (fun v t=>eS_ v.text t) t).size=t.size+vs.length:=by
  intro vs t ht
  induction vs with
  | nil=>intro _;exact⟨ht,rfl⟩
  | cons v vs ih =>
   intro h;obtain⟨h1,h2⟩:=ih fun u hu=>h u (by simp[hu]);obtain⟨h3,h4⟩:=h v (by simp);rw[List.foldr_cons];refine⟨rc_ (hG_ h3 h4) h1,?_⟩;rw[Ty.size_eq];show (vs.foldr (fun v t=>eS_ v.text t) t).size+0+1=_;rw[h2,List.length_cons];omega
 have hvr:∀ l:List Tok,(c2_ l).length+(cQ_ l).length=l.length:=fun l=>by
  have:=congrArg List.length (List.takeWhile_append_dropWhile (p:=fun t:Tok=>t.kind==1) (l:=l));rw[List.length_append] at this;exact this
 have hvm:∀ l:List Tok,(∀ t∈l,bu_ t)→(∀ v∈c2_ l,bu_ v∧v.kind=1)∧∀ t∈cQ_ l,bu_ t:=fun l hl=>by
  refine⟨fun v hv=>⟨hl v (List.takeWhile_subset _ hv),?_⟩,fun t ht=>hl t (List.dropWhile_subset _ ht)⟩;have:=List.all_eq_true.1 (List.all_takeWhile (p:=fun t:Tok=>t.kind==1) (l:=l)) v hv;simpa using this
 intro n
 induction n with
 | zero=>exact⟨fun _ _ _ _ h=>by simp[bM_] at h,fun _ _ _ _ h=>by simp[eX_] at h,fun _ _ _ _ h=>by simp[ci_] at h,fun _ _ _ _ _ _ _ _ h=>by simp[bb_] at h,fun _ _ _ _ h=>by simp[aO_] at h⟩
 | succ n ih =>
  obtain⟨i1,i2,i3,i4,i5⟩:=ih;refine⟨fun l x r hl h=>?_,fun l x r hl h=>?_,fun l x r hl h=>?_,fun s acc l x r hs hacc hl h=>?_,fun l x r hl h=>?_⟩
  ·rw[bM_] at h
   split at h
   ·next h1 =>
    obtain⟨a1,a2,a3⟩:=i2 _ _ _ (aV_ hl) h;have:=bX_ h1;simp only[List.length_tail] at a2;exact⟨a1,by omega,a3⟩
   ·split at h
    ·cases h
    ·next a r' h2 =>
     obtain⟨a1,a2,a3⟩:=i3 _ _ _ hl h2
     split at h
     ·next h3 =>
      split at h
      ·cases h
      ·next b r'' h4 =>
       obtain⟨b1,b2,b3⟩:=i1 _ _ _ (aV_ a3) h4;have:=bX_ h3;simp only[Option.some.injEq,Prod.mk.injEq] at h;obtain⟨rfl,rfl⟩:=h;refine⟨rb_ a1 b1,?_,b3⟩;rw[Ty.size_eq];simp only[List.length_tail] at b2;show aw_ [a,b]+1 + _≤_;simp only[aw_];omega
     ·simp only[Option.some.injEq,Prod.mk.injEq] at h
      obtain⟨rfl,rfl⟩:=h;exact⟨a1,a2,a3⟩
  ·rw[eX_] at h
   split at h
   ·cases h
   ·next h1 =>
    split at h
    ·cases h
    ·next t r' h2 =>
     obtain⟨m1,m2⟩:=hvm l hl;obtain⟨a1,a2,a3⟩:=i1 _ _ _ (aV_ m2) h2;simp only[Option.some.injEq,Prod.mk.injEq] at h;obtain⟨rfl,rfl⟩:=h;obtain⟨c1,c2⟩:=hall (c2_ l) t a1 m1;refine⟨c1,?_,a3⟩;rw[c2];have:=hvr l;simp only[List.length_tail] at a2;have hne:st (cQ_ l) 6 dot=true:=by cases hh:st (cQ_ l) 6 dot<;>simp[hh] at h1 ⊢
     have:=bX_ hne;omega
  ·rw[ci_] at h
   split at h
   ·next h1 =>
    obtain⟨t,ht,hk,hk2⟩:=d8_ h1 hl;rw[ht] at h;obtain⟨a1,a2,a3⟩:=i4 _ _ _ _ _ (jd_ hk hk2) (fun a ha=>by cases ha) (aV_ hl) h;have:=b2_ h1;simp only[List.length_tail,aw_] at a2;exact⟨a1,by omega,a3⟩
   ·exact i5 _ _ _ hl h
  ·rw[bb_] at h
   split at h
   ·split at h
    ·cases h
    ·next x' r' h2 =>
     obtain⟨a1,a2,a3⟩:=i5 _ _ _ hl h2;obtain⟨b1,b2,b3⟩:=i4 _ _ _ _ _ hs (fun a ha=>by
      rcases List.mem_append.1 ha with ha|ha
      ·exact hacc a ha
      ·rw[List.mem_singleton.1 ha];exact a1) a3 h
     rw[er_] at b2;simp only[aw_] at b2;exact⟨b1,by omega,b3⟩
   ·simp only[Option.some.injEq,Prod.mk.injEq] at h
    obtain⟨rfl,rfl⟩:=h;refine⟨pr_ hs hacc,?_,hl⟩;rw[Ty.size_eq];show aw_ acc+1 + _≤_;omega
  ·rw[aO_] at h
   split at h
   ·next h1 =>
    have:=b2_ h1;obtain⟨t,ht,hk,hk2⟩:=d8_ h1 hl;simp only[Option.some.injEq,Prod.mk.injEq] at h;obtain⟨rfl,rfl⟩:=h;rw[ht];refine⟨ra_ (hG_ hk hk2),?_,aV_ hl⟩;rw[Ty.size_eq];simp[gl_,Ty.args,aw_];omega
   ·split at h
    ·next h1 =>
     have:=b2_ h1;obtain⟨t,ht,hk,hk2⟩:=d8_ h1 hl;simp only[Option.some.injEq,Prod.mk.injEq] at h;obtain⟨rfl,rfl⟩:=h;rw[ht];refine⟨pr_ (jd_ hk hk2) (fun a ha=>by cases ha),?_,aV_ hl⟩;rw[Ty.size_eq];simp[fb_,Ty.args,aw_];omega
    ·split at h
     ·next h1 =>
      have:=b2_ h1;obtain⟨t,ht,hk,hk2⟩:=d8_ h1 hl;simp only[Option.some.injEq,Prod.mk.injEq] at h;obtain⟨rfl,rfl⟩:=h;rw[ht];obtain⟨ds,e,hn⟩:=lL_ hk hk2;refine⟨p7_ e hn,?_,aV_ hl⟩;rw[Ty.size_eq];simp[gm_,Ty.args,aw_];omega
     ·split at h
      ·next h1 =>
       have:=bX_ h1
       split at h
       ·cases h
       ·next t r' h2 =>
        obtain⟨a1,a2,a3⟩:=i1 _ _ _ (aV_ hl) h2
        split at h
        ·simp only[Option.some.injEq,Prod.mk.injEq] at h
         obtain⟨rfl,rfl⟩:=h;refine⟨a1,?_,aV_ a3⟩;simp only[List.length_tail] at *;omega
        ·cases h
      ·cases h
theorem eL_ {s:ByteArray}(h:fV_ s.data.toList):1≤s.size∧s.size≤16:=by
 have e:s.size=s.data.toList.length:=by rw[Array.length_toList];rfl
 rw[e];exact h.len
theorem p8_:∀ t:Ty,Mk t→cM_ t:=by
 intro t
 induction t using Ty.ind with
 | h t ih =>
  intro h;have hs:=(bW_ t).1 h.1;have hx:=(fL_ t).1 h.2;have ia:=fun a ha=>ih a ha ⟨hs.2 a ha,hx.2 a ha⟩;have hn:t.name.size≤64∧(t.kind=5→1≤t.name.size):=by
   rcases hs.1 with hk|hk|hk|hk|hk
   ·have:=eL_ (hx.1.1 (.inl hk.1)).1
    exact⟨by omega,fun _=>this.1⟩
   ·rw[hk.2.1];exact⟨by decide,fun e=>by omega⟩
   ·have:=eL_ (hx.1.2.1 hk.1).1
    exact⟨by omega,fun _=>this.1⟩
   ·rw[hk.2.1];exact⟨by decide,fun e=>by omega⟩
   ·have:=eL_ (hx.1.1 (.inr hk.1)).1
    exact⟨by omega,fun _=>this.1⟩
  refine⟨(bg_ t).2 ⟨?_,fun a ha=>(ia a ha).1⟩,(c9_ t).2 ⟨⟨hn.2,hn.1⟩,fun a ha=>(ia a ha).2⟩⟩
  rcases hs.1 with hk|hk|hk|hk|hk
  ·exact .inl ⟨hk.1,hk.2.2⟩
  ·exact .inr (.inl ⟨hk.1,hk.2.2.1,hk.2.2.2⟩)
  ·exact .inr (.inr (.inl hk.1))
  ·exact .inr (.inr (.inr (.inl ⟨hk.1,hk.2.2.2⟩)))
  ·exact .inr (.inr (.inr (.inr ⟨hk.1,hk.2.2⟩)))
theorem jZ_ (l:List UInt8):(bZ_ l).1.length≤l.length:=by
 unfold bZ_
 split
 ·simp
 ·unfold el_
  refine bc_ (fc_ _ _ _ _) ?_;simp
theorem lc_ {s:List UInt8}{t:Ty}(h:bA_ s=.ok t):Mk t∧t.depth≤50∧t.size≤s.length∧t.size≤4000:=by
 rw[bA_] at h
 split at h
 ·cases h
 ·split at h
  ·cases h
  ·next t' r hT =>
   split at h
   ·cases h
   ·split at h
    ·cases h
    ·next h50 =>
     injection h with h
     subst h;obtain⟨a1,a2,_⟩:=(made _).1 _ _ _ (fun t ht=>pG_ t (ds_ s t ht)) hT;have h1:=jZ_ s;have h2:=cv_ s;exact⟨a1,by omega,by omega,by omega⟩
end
end Go.Proofs.YtkihnodkhnahiaaGreatDoor.Tp

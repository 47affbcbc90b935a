/- Texts laid together: TySaid, TyWell, TyRead, TyItem, TyScanI. -/
import Derived.Test.YtkihnodkhnahiaaGreatDoorP08
import Derived.Test.YtkihnodkhnahiaaGreatDoorP01
import Derived.Test.YtkihnodkhnahiaaGreatDoorP05
import Derived.Lib.Atoi
import Derived.Test.YtkihnodkhnahiaaGreatDoorP14

namespace Go.Proofs.YtkihnodkhnahiaaGreatDoor.Tp
open Go.RowKit
open Lx
theorem said_upto:∀ n:Nat,∀ m,m≤n→Said m:=by
 intro n
 induction n with
 | zero =>
  intro m hm
  obtain rfl:m=0:=by omega
  exact⟨fun _ _ _ _ _ _ _ _ h=>by omega,fun _ _ _ _ _ _ _ _ h=>by omega,fun _ _ _ _ _ _ _ _ h=>by omega,fun _ _ _ _ _ _ _ _ h=>by omega⟩
 | succ n ih =>
  intro m hm
  rcases Nat.lt_or_ge m (n+1) with h|h
  ·exact ih m (by omega)
  ·obtain rfl:m=n+1:=by omega
   have i:=ih n (Nat.le_refl _)
   refine⟨fun N B w l a b c d e=>typ_any n N B w l i a b c d e,fun N B w l a b c d e=>all_any n N B w l i a b c d e,fun N B w l a b c d e=>?_,fun N B w l a b c d e=>atom_any n N B w l i a b c d e⟩
   cases h1:sk l 2
   ·exact app_atom n N B w l i a b c d e h1
   ·exact app_con n N B w l ih a b c d e h1
theorem said (n:Nat):Said n:=said_upto n n (Nat.le_refl n)
open Lx
def TokW (t:Tok):Prop:=∃ l,l≠[]∧(tokenL l).2≠0∧t.kind=(tokenL l).1∧t.text=l.take (tokenL l).2
theorem scanGo_all (n:Nat):∀ (l:List UInt8) (p:Nat) (acc:List Tok),(∀ t∈acc,TokW t)→∀ t∈(scanGo n l p acc).1,TokW t:=by
 induction n with
 | zero=>intro l p acc h;simpa [scanGo] using h
 | succ n ih =>
  intro l p acc h
  simp only[scanGo]
  split
  ·exact h
  ·split
   ·simp
   ·rename_i h1 h2
    refine ih _ _ _ fun t ht=>?_
    rcases List.mem_append.1 ht with ht|ht
    ·exact h t ht
    ·obtain rfl:=List.mem_singleton.1 ht
     exact⟨l,h1,h2,rfl,rfl⟩
theorem scanR_all (l:List UInt8):∀ t∈(scanR l).1,TokW t:=by
 unfold scanR
 split
 ·simp
 ·exact scanGo_all _ _ _ _ (by simp)
theorem span_take (p:UInt8→Bool)(l:List UInt8):∀ c∈l.take (spanL p l),p c=true:=by
 unfold spanL
 rw[← List.takeWhile_append_dropWhile (p:=p) (l:=l)]
 intro c hc
 have e:(l.takeWhile p++l.dropWhile p).takeWhile p=l.takeWhile p:=by rw[List.takeWhile_append_dropWhile]
 rw[e,List.take_left] at hc
 exact List.all_eq_true.1 (List.all_takeWhile (p:=p) (l:=l)) c hc
structure NameT (s:List UInt8):Prop where
 len:1≤s.length∧s.length≤16
 inner:∀ c∈s,innerB c=true
structure NumT (s:List UInt8):Prop where
 len:1≤s.length∧s.length≤6
 digits:∀ c∈s,digitB c=true
 head:1<s.length→s.headD 0≠48
theorem headD_take {l:List UInt8}{k:Nat}(h:0<k):(l.take k).headD 0=l.headD 0:=by
 cases l with
 | nil=>simp
 | cons a l=>cases k with
  | zero=>omega
  | succ k=>rfl
theorem num_take (l:List UInt8)(h:numberL l≠0):NumT (l.take (numberL l)):=by
 have hs:=span_take digitB l
 have hle:=spanL_le digitB l
 have h6:¬ (6<spanL digitB l∨1<spanL digitB l∧l.headD 0=48):=fun hc=>by unfold numberL at h;rw[if_pos hc] at h;exact h rfl
 have e:numberL l=spanL digitB l:=by unfold numberL;rw[if_neg h6]
 rw[e] at h ⊢
 refine⟨by rw[List.length_take];omega,hs,fun h1 hh=>?_⟩
 rw[headD_take (by omega)] at hh
 rw[List.length_take] at h1
 exact h6 (.inr ⟨by omega,hh⟩)
inductive TokK:Tok→Prop
 | var (t:Tok) (h:t.kind=1) (n:NameT t.text) (c:lowerB (t.text.headD 0)=true) (k:keys.contains t.text=false):TokK t
 | con (t:Tok) (h:t.kind=2) (n:NameT t.text) (c:upperB (t.text.headD 0)=true):TokK t
 | key (t:Tok) (h:t.kind=3) (k:keys.contains t.text=true):TokK t
 | num (t:Tok) (h:t.kind=4) (n:NumT t.text):TokK t
 | unk (t:Tok) (h:t.kind=5) (ds:List UInt8) (e:t.text=63 :: ds) (n:NumT ds):TokK t
 | sign2 (t:Tok) (h:t.kind=6) (e:t.text=[45,62]∨t.text=[124,62]):TokK t
 | sign (t:Tok) (h:t.kind=6) (c:UInt8) (e:t.text=[c]) (s:signs.contains c=true):TokK t
theorem tokK (t:Tok)(h:TokW t):TokK t:=by
 obtain⟨l,hne,h2,hk,ht⟩:=h
 have hl1:1≤l.length:=by cases l with
  | nil=>exact absurd rfl hne
  | cons a l=>simp
 have hle:=tokenL_le l hne
 unfold tokenL at h2 hk ht hle
 by_cases h0:(lowerB (l.headD 0) || upperB (l.headD 0))=true
 ·rw[if_pos h0] at h2 hk ht hle
  by_cases h16:16<spanL innerB l
  ·rw[if_pos h16] at h2;exact absurd rfl h2
  ·rw[if_neg h16] at h2 hk ht hle
   simp only at h2 hk ht hle
   have hn:NameT t.text:=⟨by rw[ht,List.length_take];omega,by rw[ht];exact span_take innerB l⟩
   have hh:t.text.headD 0=l.headD 0:=by rw[ht];exact headD_take (by omega)
   rw[← ht] at hk
   unfold kindL at hk
   cases hc:keys.contains t.text with
   | true=>rw[if_pos hc] at hk;exact .key t hk hc
   | false =>
    rw[if_neg (by rw[hc];simp),hh] at hk
    cases hu:upperB (l.headD 0) with
    | true=>rw[if_pos hu] at hk;exact .con t hk hn (by rw[hh];exact hu)
    | false =>
     rw[if_neg (by rw[hu];simp)] at hk
     refine .var t hk hn ?_ hc
     rw[hu] at h0
     rw[hh];simpa using h0
 ·rw[if_neg h0] at h2 hk ht hle
  by_cases hd:digitB (l.headD 0)=true
  ·rw[if_pos hd] at h2 hk ht hle
   simp only at h2 hk ht
   exact .num t hk (by rw[ht];exact num_take l h2)
  ·rw[if_neg hd] at h2 hk ht hle
   by_cases hq:l.headD 0=63
   ·rw[if_pos hq] at h2 hk ht hle
    by_cases hz:numberL (l.drop 1)=0
    ·rw[if_pos hz] at h2;exact absurd rfl h2
    ·rw[if_neg hz] at h2 hk ht hle
     simp only at h2 hk ht
     refine .unk t hk ((l.drop 1).take (numberL (l.drop 1))) ?_ (num_take _ hz)
     cases l with
     | nil=>exact absurd rfl hne
     | cons a l=>simp at hq;subst hq;rw[ht];rfl
   ·rw[if_neg hq] at h2 hk ht hle
    by_cases hp:([45,62].isPrefixOf l || [124,62].isPrefixOf l)=true
    ·rw[if_pos hp] at h2 hk ht hle
     simp only at h2 hk ht
     refine .sign2 t hk ?_
     match l,hp with
     | [],hp=>simp[List.isPrefixOf] at hp
     | [x],hp=>simp[List.isPrefixOf] at hp
     | x :: y :: l,hp =>
      simp[List.isPrefixOf] at hp
      rw[ht]
      rcases hp with ⟨h,h'⟩|⟨h,h'⟩
      ·subst h h';exact .inl rfl
      ·subst h h';exact .inr rfl
    ·rw[if_neg hp] at h2 hk ht hle
     by_cases hs:signs.contains (l.headD 0)=true
     ·rw[if_pos hs] at h2 hk ht hle
      simp only at h2 hk ht
      refine .sign t hk (l.headD 0) ?_ hs
      cases l with
      | nil=>exact absurd rfl hne
      | cons a l=>rw[ht];rfl
     ·rw[if_neg hs] at h2;exact absurd rfl h2
theorem decFrom_digits (l:List UInt8)(h:∀ c∈l,digitB c=true)(n:Nat):Lib.decFrom n l=some (l.foldl (fun n c=>10*n+(c.toNat - 48)) n):=by
 induction l generalizing n with
 | nil=>rfl
 | cons c l ih =>
  have hc:48≤c.toNat∧c.toNat≤57:=by have:=h c (by simp);simpa [digitB] using this
  have hd:Lib.digitVal c=some (c.toNat - 48):=by unfold Lib.digitVal;rw[if_pos hc]
  rw[Lib.decFrom,hd]
  simp only[List.foldl_cons]
  rw[ih (fun c hc=>h c (by simp[hc])),Nat.mul_comm]
theorem atoi_digits (l:List UInt8)(h0:l≠[])(h:∀ c∈l,digitB c=true):Lib.atoi l=some (numL l:Int):=by
 cases l with
 | nil=>exact absurd rfl h0
 | cons c l =>
  have hc:48≤c.toNat∧c.toNat≤57:=by have:=h c (by simp);simpa [digitB] using this
  have a1:¬ (c==45)=true:=by intro e;rw[beq_iff_eq] at e;subst e;simp at hc
  have a2:¬ (c==43)=true:=by intro e;rw[beq_iff_eq] at e;subst e;simp at hc
  rw[Lib.atoi,if_neg a1,if_neg a2,Lib.decNat,if_neg (by simp),decFrom_digits _ h]
  rfl
theorem tokOk_scan (l:List UInt8):TokOk (scanR l).1:=by
 intro t ht h5
 cases tokK t (scanR_all l t ht) with
 | unk _ ds e n =>
  rw[e]
  have:=n.len
  refine⟨by simp;omega,?_⟩
  rw[List.tail_cons]
  exact atoi_digits ds (fun e=>by rw[e] at this;simp at this) n.digits
 | var h _ _ _|con h _ _|key h _|num h _|sign2 h _|sign h _ _ _=>omega
open Lx
theorem deep:∀ n:Nat,
  (∀ l x r,typF n l=some (x,r)→x.depth+r.length≤l.length)∧(∀ l x r,allF n l=some (x,r)→x.depth+r.length≤l.length) ∧
  (∀ l x r,appF n l=some (x,r)→x.depth+r.length≤l.length)∧(∀ s acc l x r,argsF n s acc l=some (x,r)→x.depth≤max (depthL acc) (l.length - r.length)+1∧r.length≤l.length) ∧
  (∀ l x r,atomF n l=some (x,r)→x.depth+r.length≤l.length):=by
 have hall:∀ (vs:List Tok) (t:Ty),(vs.foldr (fun v t=>tAll v.text t) t).depth=t.depth+vs.length:=by
  intro vs t
  induction vs with
  | nil=>rfl
  | cons v vs ih =>
   rw[List.foldr_cons,Ty.depth_eq]
   show max (vs.foldr (fun v t=>tAll v.text t) t).depth 0+1=_
   rw[ih,List.length_cons];omega
 have hvr:∀ l:List Tok,(varsL l).length+(restL l).length=l.length:=fun l=>by
  have:=congrArg List.length (List.takeWhile_append_dropWhile (p:=fun t:Tok=>t.kind==1) (l:=l))
  rw[List.length_append] at this
  exact this
 intro n
 induction n with
 | zero=>exact⟨fun _ _ _ h=>by simp[typF] at h,fun _ _ _ h=>by simp[allF] at h,fun _ _ _ h=>by simp[appF] at h,fun _ _ _ _ _ h=>by simp[argsF] at h,fun _ _ _ h=>by simp[atomF] at h⟩
 | succ n ih =>
  obtain⟨i1,i2,i3,i4,i5⟩:=ih
  refine⟨fun l x r h=>?_,fun l x r h=>?_,fun l x r h=>?_,fun s acc l x r h=>?_,fun l x r h=>?_⟩
  ·rw[typF] at h
   split at h
   ·next h1=>have:=i2 _ _ _ h;have:=st_ne h1;simp at *;omega
   ·split at h
    ·cases h
    ·next a r' h2 =>
     have e2:=i3 _ _ _ h2
     split at h
     ·next h3 =>
      split at h
      ·cases h
      ·next b r'' h4 =>
       have e4:=i1 _ _ _ h4
       have:=st_ne h3
       simp only[Option.some.injEq,Prod.mk.injEq] at h
       obtain⟨rfl,rfl⟩:=h
       rw[Ty.depth_eq]
       simp only[tFun,Ty.args,depthL]
       simp only[List.length_tail] at e4
       omega
     ·simp only[Option.some.injEq,Prod.mk.injEq] at h
      obtain⟨rfl,rfl⟩:=h
      exact e2
  ·rw[allF] at h
   split at h
   ·cases h
   ·next h1 =>
    split at h
    ·cases h
    ·next t r' h2 =>
     have e2:=i1 _ _ _ h2
     simp only[Option.some.injEq,Prod.mk.injEq] at h
     obtain⟨rfl,rfl⟩:=h
     rw[hall]
     have:=hvr l
     simp only[List.length_tail] at e2
     have hne:st (restL l) 6 dot=true:=by cases hh:st (restL l) 6 dot<;>simp[hh] at h1 ⊢
     have:=st_ne hne
     omega
  ·rw[appF] at h
   split at h
   ·next h1 =>
    obtain⟨e,e'⟩:=i4 _ _ _ _ _ h
    have:=sk_ne h1
    simp only[List.length_tail,depthL] at e e'
    omega
   ·exact i5 _ _ _ h
  ·rw[argsF] at h
   split at h
   ·split at h
    ·cases h
    ·next x' r' h2 =>
     have a:=i5 _ _ _ h2
     obtain⟨b,b'⟩:=i4 _ _ _ _ _ h
     rw[depthL_append] at b
     simp only[depthL] at b
     exact⟨by omega,by omega⟩
   ·simp only[Option.some.injEq,Prod.mk.injEq] at h
    obtain⟨rfl,rfl⟩:=h
    rw[Ty.depth_eq]
    simp only[tCon,Ty.args]
    exact⟨by omega,Nat.le_refl _⟩
  ·rw[atomF] at h
   split at h
   ·next h1 =>
    have:=sk_ne h1
    simp only[Option.some.injEq,Prod.mk.injEq] at h
    obtain⟨rfl,rfl⟩:=h
    simp[tVar,Ty.depth,depthL];omega
   ·split at h
    ·next h1 =>
     have:=sk_ne h1
     simp only[Option.some.injEq,Prod.mk.injEq] at h
     obtain⟨rfl,rfl⟩:=h
     simp[tCon,Ty.depth,depthL];omega
    ·split at h
     ·next h1 =>
      have:=sk_ne h1
      simp only[Option.some.injEq,Prod.mk.injEq] at h
      obtain⟨rfl,rfl⟩:=h
      simp[tMeta,Ty.depth,depthL];omega
     ·split at h
      ·next h1 =>
       have:=st_ne h1
       split at h
       ·cases h
       ·next t r' h2 =>
        have e2:=i1 _ _ _ h2
        split at h
        ·simp only[Option.some.injEq,Prod.mk.injEq] at h
         obtain⟨rfl,rfl⟩:=h
         simp only[List.length_tail] at *;omega
        ·cases h
      ·cases h
def readT (l:List Tok):Option (Ty × List Tok):=typF (4*l.length+4) l
def parseT (s:List UInt8):Except Nat Ty :=
 if (scanR s).2.2≠0 then .error (scanR s).2.2
 else match readT (scanR s).1 with
  | none=>.error 20
  | some (t,r)=>if r≠[] then .error 20 else if 50<t.depth then .error 3 else .ok t
theorem toks_low {w w':World}{v:Value}{l:List Tok}(h:ToksAt w v l)(hb:Below w.heap.size w w'):ToksAt w' v l:=by
 obtain⟨a',c',e,h4,h5|⟨b,off,h6,h7⟩⟩:=h
 ·exact⟨a',c',e,h4,.inl h5⟩
 ·refine⟨a',c',e,h4,.inr ⟨b,off,h6,fun i hi=>?_⟩⟩
  obtain⟨c0,c1,c2⟩:=h7 i hi
  have hbl:=World.block_lt_of_cell? w _ c0
  exact⟨(hb.cell hbl).trans c0,(hb.cell (p:=⟨b,off+i*3+1,none⟩) hbl).trans c1,(hb.cell (p:=⟨b,off+i*3+2,none⟩) hbl).trans c2⟩
theorem grown_low {w w':World}{B:Nat}(h:w.grownBy w' (some B))(hB:w.heap.size≤B):Below w.heap.size w w' :=
 (Below.refl _ _).grown h (Nat.le_refl _) (fun k hk=>by injection hk;omega)
def ReadPost (w:World)(res:Option (Ty × List Tok))(e:Ending)(w':World):Prop :=
 Below w.heap.size w w'∧match res with
 | none=>e=.returned (.tuple #[zv,.slice none 0 0,.bool false])
 | some (t,r)=>∃ a c a2 c2,e=.returned (.tuple #[tv t a c,.slice a2 r.length c2,.bool true])∧ArgsAt (In w.heap.size w'.heap.size) w' (.slice a t.args.length c) t.args∧ToksAt w' (.slice a2 r.length c2) r
def ReadAt (N:Nat)(w:World)(res:Option (Ty × List Tok))(e:Ending)(w':World):Prop :=
 Below w.heap.size w w'∧match res with
 | none=>e=.returned (.tuple #[zv,.slice none 0 0,.bool false])
 | some (t,r)=>∃ a c a2 c2,e=.returned (.tuple #[tv t a c,.slice a2 r.length c2,.bool true])∧ArgsAt (In w.heap.size w'.heap.size) w' (.slice a t.args.length c) t.args∧ToksAt w' (.slice a2 r.length c2) r∧∀ b o,a2=some ⟨b,o,none⟩→b<N
set_option maxHeartbeats 1600000 in
theorem read_at (N:Nat)(w:World)(hN:N≤w.heap.size)(a:Option Addr)(cap:Nat)(l:List Tok)(ht:ToksAt w (.slice a l.length cap) l)(hb:∀ b o,a=some ⟨b,o,none⟩→b<N)(hok:TokOk l)(hl:l.length≤4000) :
  Calls Tryz.prog 29 #[.slice a l.length cap] w (ReadAt N w (readT l)):=by
 have hz:=(Below.refl w.heap.size w).alloc (Nat.le_refl _) (.cells #[.int .i64 0,.string ByteArray.empty,.int .i64 0,.slice none 0 0] 30)
 have hz2:=hz.alloc (by simp) (.cells #[.slice a l.length cap] 115)
 have hr:Rd N (w.heap.size+1) ((w.alloc (.cells #[.int .i64 0,.string ByteArray.empty,.int .i64 0,.slice none 0 0] 30)).alloc (.cells #[.slice a l.length cap] 115)) l :=
  ⟨a,cap,alloc_new (by simp),toks_low ht hz2,by omega,hb⟩
 have C:=hid ((said (4*l.length+4)).typ _ _ _ _ hr (by simp;omega) hok hl (Nat.le_refl _))
 have b4:=hid ((B4.new w (.int .i64 0) (.string ByteArray.empty) (.int .i64 0) (.slice none 0 0)).low ((Below.refl _ _).alloc (Nat.le_refl _) (.cells #[.slice a l.length cap] 115)))
 have HR:=hid hr
 have HZ:=hid hz2
 have HN:=hid hN
 clear ht hb hok hz hr hz2 hN
 go_enter Tryz.func29,Tryz.ntmps29
 go_wp2_with fail
 refine C.out.mono ?_
 rintro e w1 ⟨hg,hres⟩
 have k4:=b4.out.grown hg (fun e=>by injection e;omega)
 have c0:=k4.c0
 have c1:=k4.c1
 have c2:=k4.c2
 have c3:=k4.c3
 have f0:=k4.fr 0
 have f1:=k4.fr 1
 have f2:=k4.fr 2
 have f3:=k4.fr 3
 have K4:=hid k4
 have G1:=hid (grown_trans (grown_below HZ.out) hg)
 have hsz:=hid hg.size
 clear k4 hg
 cases hT:typF (4*l.length+4) l with
 | none =>
  rw[hT] at hres
  obtain⟨k,s,m,a1,c,c',rfl⟩:=hres
  have E:Hid (readT l=none):=hid hT
  clear hT
  go_wp2
  have q0:=K4.out.set4 (.int .i64 k) (.string s) (.int .i64 m) (.slice a1 c c')
  have q4:=q0.set4 (.int .i64 0) (.string ⟨#[]⟩) (.int .i64 0) (.slice none 0 0)
  have g4:=grown_set4 (grown_set4 G1.out (b:=w.heap.size) (Nat.le_refl _) (.int .i64 k) (.string s) (.int .i64 m) (.slice a1 c c')) (b:=w.heap.size) (Nat.le_refl _) (.int .i64 0) (.string ⟨#[]⟩) (.int .i64 0) (.slice none 0 0)
  refine bodyPost_ret (v:=.tuple #[zv,.slice none 0 0,.bool false]) (by simp[results,Tryz.results29,go_sem,zv,q4.c0,q4.c1,q4.c2,q4.c3]) rfl ?_
  rw[E.out]
  exact⟨grown_low g4 (by omega),rfl⟩
 | some x =>
  obtain⟨t,r⟩:=x
  rw[hT] at hres
  obtain⟨a1,c,rfl,hA,hR⟩:=hres
  have E:Hid (readT l=some (t,r)):=hid hT
  obtain⟨a2,c2,hB,hT2,_⟩:=id hR
  have RR:=hid hR
  have HA:=hid hA
  have cB:w1.cell? ⟨w.heap.size+1,0,none⟩=some (.slice a2 r.length c2):=cell_of_row w1 _ 0 _ _ _ hB
  clear hT hA hR hB hT2
  unfold tv
  go_wp2
  have q0:=K4.out.set4 (.int .i64 t.kind) (.string t.name) (.int .i64 t.n) (.slice a1 t.args.length c)
  have hne:=K4.out.ne_rd RR.out
  have g0:=grown_set4 G1.out (b:=w.heap.size) (Nat.le_refl _) (.int .i64 t.kind) (.string t.name) (.int .i64 t.n) (.slice a1 t.args.length c)
  have hs1:w.heap.size+1+1≤w1.heap.size:=by have:=hsz.out;simpa using this
  have r0:=RR.out.set4 (b:=w.heap.size) (by omega) HN.out (.int .i64 t.kind) (.string t.name) (.int .i64 t.n) (.slice a1 t.args.length c)
  have a0:=HA.out.keep (B:=(((w1.setCell ⟨w.heap.size,0,none⟩ (.int .i64 t.kind)).setCell ⟨w.heap.size,1,none⟩ (.string t.name)).setCell ⟨w.heap.size,2,none⟩ (.int .i64 t.n)).setCell ⟨w.heap.size,3,none⟩ (.slice a1 t.args.length c)) (fun b hb=>by
   obtain⟨b1,b2⟩:=hb
   simp at b1
   rw[Below.heap_setCell _ _ _ _ (by simp;omega),Below.heap_setCell _ _ _ _ (by simp;omega),Below.heap_setCell _ _ _ _ (by simp;omega),Below.heap_setCell _ _ _ _ (by simp;omega)])
  have hfs:((((w1.setCell ⟨w.heap.size,0,none⟩ (.int .i64 t.kind)).setCell ⟨w.heap.size,1,none⟩ (.string t.name)).setCell ⟨w.heap.size,2,none⟩ (.int .i64 t.n)).setCell ⟨w.heap.size,3,none⟩ (.slice a1 t.args.length c)).heap.size=w1.heap.size:=by simp
  have a1':=a0.mono (S':=In (w.heap.size+1+1) w1.heap.size) (fun b hb=>by obtain⟨b1,b2⟩:=hb;simp at b1;exact⟨by omega,b2⟩)
  rw[← hfs] at a1'
  generalize (((w1.setCell ⟨w.heap.size,0,none⟩ (.int .i64 t.kind)).setCell ⟨w.heap.size,1,none⟩ (.string t.name)).setCell ⟨w.heap.size,2,none⟩ (.int .i64 t.n)).setCell ⟨w.heap.size,3,none⟩ (.slice a1 t.args.length c)=w2 at *
  have d0:=q0.c0
  have d1:=q0.c1
  have d2:=q0.c2
  have d3:=q0.c3
  have h0:=q0.fr 0
  have h1:=q0.fr 1
  have h2:=q0.fr 2
  have h3:=q0.fr 3
  obtain⟨a3,c3',hB3,hT3,_⟩:=id r0
  have cB3:w2.cell? ⟨w.heap.size+1,0,none⟩=some (.slice a3 r.length c3'):=cell_of_row w2 _ 0 _ _ _ hB3
  have Q0:=hid q0
  have GG:=hid g0
  have AA:=hid a1'
  have TT:=hid hT3
  have R2:=hid r0
  have HB3:=hid hB3
  clear q0 g0 r0 a0 a1' hB3 hT3 cB hs1 hfs c0 c1 c2 c3 f0 f1 f2 f3
  go_region
  go_wp2
  have q4:B4 ((((w2.setCell ⟨w.heap.size,0,none⟩ (.int .i64 t.kind)).setCell ⟨w.heap.size,1,none⟩ (.string t.name)).setCell ⟨w.heap.size,2,none⟩ (.int .i64 t.n)).setCell ⟨w.heap.size,3,none⟩ (.slice a1 t.args.length c)).drew w.heap.size (.int .i64 t.kind) (.string t.name) (.int .i64 t.n) (.slice a1 t.args.length c):=Q0.out.set4 (.int .i64 t.kind) (.string t.name) (.int .i64 t.n) (.slice a1 t.args.length c)
  have g4:=grown_trans (grown_set4 GG.out (b:=w.heap.size) (Nat.le_refl _) (.int .i64 t.kind) (.string t.name) (.int .i64 t.n) (.slice a1 t.args.length c)) (grown_below (r:=some (w.heap.size+1)) ((Below.refl _ _).drew))
  have a4:=AA.out.keep (B:=((((w2.setCell ⟨w.heap.size,0,none⟩ (.int .i64 t.kind)).setCell ⟨w.heap.size,1,none⟩ (.string t.name)).setCell ⟨w.heap.size,2,none⟩ (.int .i64 t.n)).setCell ⟨w.heap.size,3,none⟩ (.slice a1 t.args.length c)).drew) (fun b hb=>by
   obtain⟨b1,b2⟩:=hb
   show ((((w2.setCell ⟨w.heap.size,0,none⟩ (.int .i64 t.kind)).setCell ⟨w.heap.size,1,none⟩ (.string t.name)).setCell ⟨w.heap.size,2,none⟩ (.int .i64 t.n)).setCell ⟨w.heap.size,3,none⟩ (.slice a1 t.args.length c)).heap[b]? = _
   rw[Below.heap_setCell _ _ _ _ (by simp;omega),Below.heap_setCell _ _ _ _ (by simp;omega),Below.heap_setCell _ _ _ _ (by simp;omega),Below.heap_setCell _ _ _ _ (by simp;omega)])
  have t4:ToksAt ((((w2.setCell ⟨w.heap.size,0,none⟩ (.int .i64 t.kind)).setCell ⟨w.heap.size,1,none⟩ (.string t.name)).setCell ⟨w.heap.size,2,none⟩ (.int .i64 t.n)).setCell ⟨w.heap.size,3,none⟩ (.slice a1 t.args.length c)).drew (.slice a3 r.length c3') r∧∀ b o,a3=some ⟨b,o,none⟩→b<N:=by
   obtain⟨a5,c5,hh,hT5,_,hN5⟩:=(R2.out.set4 (b:=w.heap.size) (by omega) HN.out (.int .i64 t.kind) (.string t.name) (.int .i64 t.n) (.slice a1 t.args.length c)).low ((Below.refl _ _).drew)
   have h5:((((w2.setCell ⟨w.heap.size,0,none⟩ (.int .i64 t.kind)).setCell ⟨w.heap.size,1,none⟩ (.string t.name)).setCell ⟨w.heap.size,2,none⟩ (.int .i64 t.n)).setCell ⟨w.heap.size,3,none⟩ (.slice a1 t.args.length c)).drew.heap[w.heap.size+1]? = w2.heap[w.heap.size+1]? := by
    show ((((w2.setCell ⟨w.heap.size,0,none⟩ (.int .i64 t.kind)).setCell ⟨w.heap.size,1,none⟩ (.string t.name)).setCell ⟨w.heap.size,2,none⟩ (.int .i64 t.n)).setCell ⟨w.heap.size,3,none⟩ (.slice a1 t.args.length c)).heap[w.heap.size+1]? = _
    rw[Below.heap_setCell _ _ _ _ (by simp),Below.heap_setCell _ _ _ _ (by simp),Below.heap_setCell _ _ _ _ (by simp),Below.heap_setCell _ _ _ _ (by simp)]
   rw[h5,HB3.out] at hh
   injection hh with hh
   injection hh with hh
   injection hh with hh
   injection hh with hh
   refine⟨by rw[hh];exact hT5,fun b o e=>?_⟩
   injection hh with e1 _ _
   exact hN5 b o (e1.symm.trans e)
  refine bodyPost_ret (v:=.tuple #[tv t a1 c,.slice a3 r.length c3',.bool true]) (by simp[results,Tryz.results29,go_sem,tv,q4.c0,q4.c1,q4.c2,q4.c3]) rfl ?_
  rw[E.out]
  exact⟨grown_low g4 (by omega),a1,c,a3,c3',rfl,a4.mono (fun b hb=>by obtain⟨b1,b2⟩:=hb;exact⟨by omega,by simpa using b2⟩),t4.1,t4.2⟩
theorem read_any (w:World)(a:Option Addr)(cap:Nat)(l:List Tok)(ht:ToksAt w (.slice a l.length cap) l)(hb:∀ b o,a=some ⟨b,o,none⟩→b<w.heap.size)(hok:TokOk l)(hl:l.length≤4000) :
  Calls Tryz.prog 29 #[.slice a l.length cap] w (ReadPost w (readT l)):=by
 refine (read_at w.heap.size w (Nat.le_refl _) a cap l ht hb hok hl).mono ?_
 rintro e w' ⟨hb,h⟩
 refine⟨hb,?_⟩
 cases hT:readT l with
 | none=>rw[hT] at h;exact h
 | some x =>
  rw[hT] at h
  obtain⟨a,c,a2,c2,h1,h2,h3,_⟩:=h
  exact⟨a,c,a2,c2,h1,h2,h3⟩
end Go.Proofs.YtkihnodkhnahiaaGreatDoor.Tp

namespace Go.Proofs.YtkihnodkhnahiaaGreatDoor.Tp
open Lx
structure It where
 bl:Bool
 k:Nat
 s:List UInt8
def itF:Nat→Bool→Ty→List It
 | 0,_,_=>[]
 | d+1,b,t =>
  if t.kind=2 then [⟨b,5,63 :: Lib.itoa t.n⟩]
  else if t.kind=3 then ⟨b,2,t.name.data.toList⟩ :: t.args.flatMap fun x=>if x.atomic then itF d true x else ⟨true,6,lpar⟩ :: (itF d false x++[⟨false,6,rpar⟩])
  else if t.kind=4 then (match t.args with
   | x :: y :: _=>(if decide (x.kind<4) then itF d b x else ⟨b,6,lpar⟩ :: (itF d false x++[⟨false,6,rpar⟩]))++⟨true,6,arrow⟩ :: itF d true y
   | _=>[])
  else if t.kind=5 then (match t.args with
   | x :: _=>⟨b,3,fa⟩ :: ⟨true,1,t.name.data.toList⟩ :: (if x.kind=5 then (itF d true x).tail else ⟨false,6,dot⟩ :: itF d true x)
   | _=>[])
  else [⟨b,1,t.name.data.toList⟩]
theorem itF_all (d:Nat)(b:Bool)(t x:Ty)(hk:t.kind=5)(hx:t.args=[x]):itF (d+1) b t=⟨b,3,fa⟩ :: ⟨true,1,t.name.data.toList⟩ :: (if x.kind=5 then (itF d true x).tail else ⟨false,6,dot⟩ :: itF d true x):=by
 rw[itF,if_neg (by omega),if_neg (by omega),if_neg (by omega),if_pos hk,hx]
theorem itF_fun (d:Nat)(b:Bool)(t x y:Ty)(hk:t.kind=4)(hx:t.args=[x,y]):itF (d+1) b t=(if decide (x.kind<4) then itF d b x else ⟨b,6,lpar⟩ :: (itF d false x++[⟨false,6,rpar⟩]))++⟨true,6,arrow⟩ :: itF d true y:=by
 rw[itF,if_neg (by omega),if_neg (by omega),if_pos hk,hx]
theorem itF_con (d:Nat)(b:Bool)(t:Ty)(hk:t.kind=3):itF (d+1) b t=⟨b,2,t.name.data.toList⟩ :: t.args.flatMap fun x=>if x.atomic then itF d true x else ⟨true,6,lpar⟩ :: (itF d false x++[⟨false,6,rpar⟩]):=by
 rw[itF,if_neg (by omega),if_pos hk]
theorem itF_meta (d:Nat)(b:Bool)(t:Ty)(hk:t.kind=2):itF (d+1) b t=[⟨b,5,63 :: Lib.itoa t.n⟩]:=by rw[itF,if_pos hk]
theorem itF_var (d:Nat)(b:Bool)(t:Ty)(hk:t.kind=1):itF (d+1) b t=[⟨b,1,t.name.data.toList⟩]:=by
 rw[itF,if_neg (by omega),if_neg (by omega),if_neg (by omega),if_neg (by omega)]
def kt (t:Tok):Nat × List UInt8:=(t.kind,t.text)
def ktI (i:It):Nat × List UInt8:=(i.k,i.s)
def LexK (t:Ty):Prop:=((t.kind=1∨t.kind=5)→NameT t.name.data.toList∧lowerB (t.name.data.toList.headD 0)=true∧keys.contains t.name.data.toList=false)∧(t.kind=3→NameT t.name.data.toList∧upperB (t.name.data.toList.headD 0)=true)∧(t.kind=2→t.n<1000000)
mutual
def LexT:Ty→Prop
 | .mk k s n args=>LexK (.mk k s n args)∧LexL args
def LexL:List Ty→Prop
 | []=>True
 | t :: ts=>LexT t∧LexL ts
end
theorem LexL_iff (ts:List Ty):LexL ts↔∀ t∈ts,LexT t:=by
 induction ts with
 | nil=>simp[LexL]
 | cons t ts ih=>rw[LexL,ih];simp
theorem lex_iff (t:Ty):LexT t↔LexK t∧∀ a∈t.args,LexT a:=by
 cases t with
 | mk k s n args=>rw[LexT,LexL_iff];rfl
end Go.Proofs.YtkihnodkhnahiaaGreatDoor.Tp

/- Texts laid together: RfPl, RfPrint, RfPrintB. -/
import Derived.Test.YtofllmemmggapaaGreatDoorP27
import Derived.Test.YtofllmemmggapaaGreatDoorP15
import Derived.Test.YtofllmemmggapaaGreatDoorP07

namespace Go.Proofs.YtofllmemmggapaaGreatDoor.Tp
open Lx
def lname (L:ByteArray)(n:Nat):ByteArray:=L++bytes (Lib.decDigits n)
theorem itoa_dec (n:Nat):Lib.itoa (n:Int)=Lib.decDigits n:=by
 rw[Lib.itoa_nonneg]
theorem xname_l (n:Nat):xname n=lname ⟨#[120]⟩ n:=by unfold xname lname;rw[itoa_dec]
theorem xname_f:xname=lname ⟨#[120]⟩:=funext xname_l
theorem lname_inj {L:ByteArray}{a b:Nat}(h:lname L a=lname L b):a=b:=by
 unfold lname at h
 rw[← itoa_dec,← itoa_dec] at h
 exact itoa_inj (bytes_inj (app_inj h))
theorem lname_list (L:List UInt8)(n:Nat):(lname (bytes L) n).data.toList=L++Lib.decDigits n:=by
 unfold lname
 rw[ByteArray.data_append]
 simp[bytes]
theorem yname_lex (n:Nat)(h:n<1000000000000):LexN (lname ⟨#[121]⟩ n):=by
 have h1:=dec_digits n
 have h2:=dec_len n h
 unfold LexN
 have e:(lname ⟨#[121]⟩ n).data.toList=121 :: Lib.decDigits n:=lname_list [121] n
 rw[e]
 refine⟨⟨by simp only[List.length_cons];omega,fun c hc=>?_⟩,by show lowerB 121=true;decide,?_⟩
 ·rcases List.mem_cons.1 hc with rfl|hc
  ·decide
  ·exact digit_innerB (h1.1 c hc)
 ·rw[← Bool.not_eq_true,List.contains_iff_mem]
  intro hk
  simp only[keys,List.mem_cons,List.not_mem_nil,or_false] at hk
  rcases hk with hk|hk|hk|hk|hk|hk<;>(have:=(List.cons.inj hk).1;revert this;decide)
mutual
def bndT (P:ByteArray→Prop):Ty→Prop
 | .mk k s _ args=>(k=5→P s)∧bndL P args
def bndL (P:ByteArray→Prop):List Ty→Prop
 | []=>True
 | t :: ts=>bndT P t∧bndL P ts
end
theorem bndL_iff (P:ByteArray→Prop)(ts:List Ty):bndL P ts↔∀ t∈ts,bndT P t:=by
 induction ts with
 | nil=>simp[bndL]
 | cons t ts ih=>rw[bndL,ih];simp
theorem bnd_iff (P:ByteArray→Prop)(t:Ty):bndT P t↔(t.kind=5→P t.name)∧∀ a∈t.args,bndT P a:=by
 cases t with
 | mk k s n args=>rw[bndT,bndL_iff];rfl
theorem cn_bnd (f:Nat→ByteArray)(hf:∀ a b,f a=f b→a=b)(free:List ByteArray):∀ (t:Ty) (env:List ByteArray) (k:Nat),bndT (fun s=>s∉free) (cnT f free env k t).1:=by
 intro t
 induction t using Ty.ind with
 | h t ih =>
  have hl:∀ (l:List Ty) (env:List ByteArray) (k:Nat),(∀ a∈l,∀ (env:List ByteArray) (k:Nat),bndT (fun s=>s∉free) (cnT f free env k a).1)→∀ a∈(cnL f free env k l).1,bndT (fun s=>s∉free) a:=by
   intro l
   induction l with
   | nil=>intro env k _ a ha;simp[cnL] at ha
   | cons b l ihl =>
    intro env k h a ha
    rw[cnL] at ha
    rcases List.mem_cons.1 ha with rfl|ha
    ·exact h b (by simp) env k
    ·exact ihl env _ (fun c hc=>h c (by simp[hc])) a ha
  intro env k
  rw[cnT_eq]
  split
  ·rw[bnd_iff];exact⟨fun h=>by simp[Ty.kind] at h,fun a ha=>by simp[Ty.args] at ha⟩
  ·split
   ·rw[bnd_iff]
    exact⟨fun _=>(hasN_false _ _).1 (firstN_spec f hf free k).2.2.2,hl t.args _ _ ih⟩
   ·next h5 =>
    rw[bnd_iff]
    exact⟨fun h=>absurd h h5,hl t.args _ _ ih⟩
theorem db_sb (p:Ty→Bool)(u:Ty)(h5:∀ s n,p (.mk 5 s n [])=false)(h6:∀ s n,p (.mk 6 s n [])=false):∀ (t:Ty) (env:List ByteArray),Std t →
  bndT (fun s=>¬ fvT s u∧p (.mk 1 s 0 [])=false) t→(∀ x∈env,¬ fvT x u∧p (.mk 1 x 0 [])=false)→dbT env (sbT p u t)=sbT p (dbT [] u) (dbT env t):=by
 intro t
 induction t using Ty.ind with
 | h t ih =>
  intro env hs hb he
  have hb':=(bnd_iff _ t).1 hb
  have hcl:dbT env u=dbT [] u:=db_closed u env fun x hx hxe=>(he x hxe).1 hx
  by_cases h5':t.kind=5
  ·have hp:p (nodeT t)=false:=by unfold nodeT;rw[h5'];exact h5 _ _
   rw[sbT_eq,hp,if_neg (by decide),dbT_all _ _ (by exact h5'),dbT_all _ _ h5',sbT_mk,h5 _ _,if_neg (by decide)]
   show Ty.mk 5 emp 0 ((t.args.map (sbT p u)).map (dbT (t.name :: env)))=_
   congr 1
   rw[List.map_map,List.map_map]
   refine List.map_congr_left fun a ha=>?_
   exact ih a ha (t.name :: env) (hs.args a ha) (hb'.2 a ha) fun x hx=>by
    rcases List.mem_cons.1 hx with rfl|hx
    ·exact hb'.1 h5'
    ·exact he x hx
  ·by_cases h1:t.kind=1
   ·obtain⟨hn0,ha⟩:=hs.k1 h1
    have hnode:nodeT t=.mk 1 t.name 0 []:=by unfold nodeT;rw[h1,hn0]
    rw[dbT_var _ _ h1,hn0,sbT_eq,hnode,ha]
    cases hp:p (.mk 1 t.name 0 []) with
    | true =>
     have hx:t.name∉env:=fun hx=>by rw[(he _ hx).2] at hp;cases hp
     rw[if_pos rfl,hcl]
     unfold look
     rw[(ixN_none _ _).2 hx]
     simp only
     rw[sbT_mk,hp,if_pos rfl]
    | false =>
     rw[if_neg (by decide)]
     show dbT env (.mk t.kind t.name t.n [])=_
     rw[h1,hn0,dbT_var _ _ rfl]
     show look env t.name 0=sbT p (dbT [] u) (look env t.name 0)
     unfold look
     cases ixN env t.name with
     | none=>simp only;rw[sbT_mk,hp,if_neg (by decide)];rfl
     | some i=>simp only;rw[sbT_mk,h6,if_neg (by decide)];rfl
   ·rw[sbT_eq,dbT_other _ _ h1 h5',sbT_mk]
    show dbT env (if p (nodeT t)=true then u else _)=if p (nodeT t)=true then _ else _
    cases hp:p (nodeT t) with
    | true=>rw[if_pos rfl,if_pos rfl,hcl]
    | false =>
     rw[if_neg (by decide),if_neg (by decide),dbT_other _ _ (by exact h1) (by exact h5')]
     show Ty.mk t.kind t.name t.n ((t.args.map (sbT p u)).map (dbT env))=_
     congr 1
     rw[List.map_map,List.map_map]
     exact List.map_congr_left fun a ha=>ih a ha env (hs.args a ha) (hb'.2 a ha) he
theorem sb_std (p:Ty→Bool)(u:Ty)(hu:Std u):∀ t:Ty,Std t→Std (sbT p u t):=by
 intro t
 induction t using Ty.ind with
 | h t ih =>
  intro hs
  rw[sbT_eq]
  split
  ·exact hu
  ·exact std_with hs _ (by simp) fun a ha=>by
    obtain⟨b,hb,rfl⟩:=List.mem_map.1 ha
    exact ih b hb (hs.args b hb)
def butT (nm:ByteArray)(u t:Ty):List ByteArray:=nm :: (freeT u++freeT t)
def apartT (nm:ByteArray)(u t:Ty):Ty:=(cnT (lname ⟨#[121]⟩) (butT nm u t) [] 0 (dbT [] t)).1
theorem cn_le (f:Nat→ByteArray)(hf:∀ a b,f a=f b→a=b)(free:List ByteArray):∀ (t:Ty) (env:List ByteArray) (k:Nat),(cnT f free env k t).2≤k+t.size*(free.length+1):=by
 intro t
 induction t using Ty.ind with
 | h t ih =>
  have hl:∀ (l:List Ty) (env:List ByteArray) (k:Nat),(∀ a∈l,∀ (env:List ByteArray) (k:Nat),(cnT f free env k a).2≤k+a.size*(free.length+1))→(cnL f free env k l).2≤k+sizeL l*(free.length+1):=by
   intro l
   induction l with
   | nil=>intro env k _;simp[cnL]
   | cons b l ihl =>
    intro env k h
    rw[cnL]
    have h1:=h b (by simp) env k
    have h2:=ihl env (cnT f free env k b).2 fun c hc=>h c (by simp[hc])
    simp only[sizeL,Nat.add_mul] at h2 ⊢
    omega
  intro env k
  rw[cnT_eq,t.size_eq,Nat.add_mul]
  split
  ·simp only;omega
  ·split
   ·have h1:=hl t.args (f (nx f free k) :: env) (nx f free k+1) ih
    have h2:=(firstN_spec f hf free k).2.1
    have h3:nx f free k≤k+free.length:=h2
    simp only
    omega
   ·have h1:=hl t.args env k ih
    simp only;omega
theorem apart_db (nm:ByteArray)(u t:Ty)(ht:Std t):dbT [] (apartT nm u t)=dbT [] t :=
 db_cn (lname ⟨#[121]⟩) (fun _ _=>lname_inj) (butT nm u t) t [] [] 0 rfl ht (fun x hx _=>by
  unfold butT
  simp only[List.mem_cons,List.mem_append]
  exact .inr (.inr ((mem_free x t).2 hx))) (fun x hx=>by cases hx) List.nodup_nil
theorem bnd_mono {P Q:ByteArray→Prop}(h:∀ s,P s→Q s):∀ t:Ty,bndT P t→bndT Q t:=by
 intro t
 induction t using Ty.ind with
 | h t ih =>
  intro hb
  have hb:=(bnd_iff P t).1 hb
  exact (bnd_iff Q t).2 ⟨fun e=>h _ (hb.1 e),fun a ha=>ih a ha (hb.2 a ha)⟩
theorem apart_bnd (nm:ByteArray)(u t:Ty):bndT (fun s=>s≠nm∧¬ fvT s u) (apartT nm u t):=by
 refine bnd_mono (fun s hs=>?_) _ (cn_bnd (lname ⟨#[121]⟩) (fun _ _=>lname_inj) (butT nm u t) (dbT [] t) [] 0)
 unfold butT at hs
 simp only[List.mem_cons,List.mem_append,not_or] at hs
 exact⟨hs.1,fun h=>hs.2.1 ((mem_free s u).2 h)⟩
def rPutT (nm:ByteArray)(u t:Ty):Ty:=sbT (isVar nm) u (apartT nm u t)
end Go.Proofs.YtofllmemmggapaaGreatDoor.Tp

namespace Go.Proofs.YtofllmemmggapaaGreatDoor.Tp
open Go.RowKit Go.Sort
def RPrintSaid (t:Ty):Prop:=∀ (S:Nat→Prop) (a:Option Addr) (c:Nat) (w:World),ArgsAt S w (.slice a t.args.length c) t.args→(∀ b,S b→b<w.heap.size)→Wf t→(printT t).length≤1099511627776 →
  Calls Tryz.prog 37 #[tv t a c] w (StrPost w (printT t))
set_option maxHeartbeats 800000 in
theorem rprint_var (t:Ty)(hk:t.kind=1)(a:Option Addr)(c:Nat)(w:World):Calls Tryz.prog 37 #[tv t a c] w (StrPost w (printT t)):=by
 have E:Hid (bytes (printT t)=t.name):=hid (by rw[printT_eq,hk];rfl)
 have HZ:=hid ((Below.refl w.heap.size w).alloc (Nat.le_refl _) (.cells #[.int .i64 t.kind,.string t.name,.int .i64 t.n,.slice a t.args.length c] 29))
 have b4:=R4.new w (.int .i64 t.kind) (.string t.name) (.int .i64 t.n) (.slice a t.args.length c)
 unfold tv
 generalize t.args.length=n at *
 rw[hk] at *
 have c0:=b4.c0
 have c1:=b4.c1
 clear b4
 go_enter Tryz.func37,Tryz.ntmps37
 go_wp2
 go_ret
 exact⟨by rw[E.out];rfl,HZ.out⟩
set_option maxHeartbeats 800000 in
theorem rprint_meta (t:Ty)(hk:t.kind=2)(h0:0≤t.n)(h1:t.n<1000000000000000000)(a:Option Addr)(c:Nat)(w:World):Calls Tryz.prog 37 #[tv t a c] w (StrPost w (printT t)):=by
 obtain⟨m,hm⟩:∃ m:Nat,t.n=(m:Int):=⟨t.n.toNat,by omega⟩
 have E:Hid (printT t=63 :: Lib.decDigits m):=hid (by rw[printT_eq,hk,hm,← itoa_dec];rfl)
 have hz:=(Below.refl w.heap.size w).alloc (Nat.le_refl _) (.cells #[.int .i64 t.kind,.string t.name,.int .i64 t.n,.slice a t.args.length c] 29)
 have C:=hid (decimal_any m (by omega))
 have HZ:=hid hz
 have b4:=R4.new w (.int .i64 t.kind) (.string t.name) (.int .i64 t.n) (.slice a t.args.length c)
 have hlen:=(dec_digits m).2.2.2 18 (by omega) (show m<10 ^ 18 by omega)
 have z1:(bytes (Lib.decDigits m)).size≤21:=by rw[bytes_size];omega
 clear hz hlen
 unfold tv
 generalize t.args.length=n at *
 rw[hk,hm] at *
 have c0:=b4.c0
 have c2:=b4.c2
 clear b4 h0 h1 hm
 go_enter Tryz.func37,Tryz.ntmps37
 go_wp2_with fail
 refine (C.out _).mono ?_
 rintro e w1 ⟨rfl,hb⟩
 have G:=hid (HZ.out.trans (hb.mono HZ.out.size))
 have F:Hid ((⟨#[63]⟩:ByteArray)++bytes (Lib.decDigits m)=bytes (printT t)):=hid (by
  rw[E.out];show bytes [63]++_=_;rw[bytes_app];rfl)
 clear hb
 generalize bytes (Lib.decDigits m)=s at *
 go_wp2
 go_ret
 exact⟨by rw[← F.out];rfl,G.out⟩
set_option maxRecDepth 100000 in
set_option maxHeartbeats 400000 in
theorem rprint_fun4 (t:Ty)(hk:t.kind=4)(x y:Ty)(hxy:t.args=[x,y])(hq:x.kind=4)(ihx:RPrintSaid x)(ihy:RPrintSaid y):RPrintSaid t:=by
 intro S a c w hA hS hw hl
 have hz:=(Below.refl w.heap.size w).alloc (Nat.le_refl _) (.cells #[.int .i64 t.kind,.string t.name,.int .i64 t.n,.slice a t.args.length c] 29)
 have E:Hid (printT t=[40]++printT x++[41,32,45,62,32]++printT y):=hid (by
  rw[printT_eq,hk,hxy]
  show paren (decide (x.kind<4)) (printT x)++[32,45,62,32]++printT y=_
  unfold paren
  rw[if_neg (by simp;omega)]
  simp)
 have hlen:(printT x).length+6+(printT y).length≤1099511627778:=by rw[E.out] at hl;simp at hl;omega
 have hwf:=(wf_iff t).1 hw
 have hwx:Wf x:=hwf.2 x (by rw[hxy];simp)
 have hwy:Wf y:=hwf.2 y (by rw[hxy];simp)
 obtain⟨b,off,a0,p0,rfl,hb,⟨f0,f1,f2,f3⟩,hs0⟩:=hA.at_ (i:=0) (by rw[hxy];simp)
 obtain⟨b',off',a1,p1,he,_,⟨g0,g1,g2,g3⟩,hs1⟩:=hA.at_ (i:=1) (by rw[hxy];simp)
 simp only[Option.some.injEq,Addr.mk.injEq] at he
 obtain⟨rfl,rfl,_⟩:=he
 simp only[hxy,List.getElem_cons_zero,List.getElem_cons_succ,Nat.zero_mul,Nat.add_zero,Nat.one_mul,Nat.add_assoc,Nat.reduceAdd] at f0 f1 f2 f3 g0 g1 g2 g3 hs0 hs1
 have CX:=hid (fun (W:World) (h:Below w.heap.size w W)=>ihx S a0 p0 W (hs0.keep (fun b hb=>h.block b (hS b hb))) (fun b hb=>Nat.lt_of_lt_of_le (hS b hb) h.size) hwx (by omega))
 have CY:=hid (fun (W:World) (h:Below w.heap.size w W)=>ihy S a1 p1 W (hs1.keep (fun b hb=>h.block b (hS b hb))) (fun b hb=>Nat.lt_of_lt_of_le (hS b hb) h.size) hwy (by omega))
 have b4:=R4.new w (.int .i64 t.kind) (.string t.name) (.int .i64 t.n) (.slice (some ⟨b,off,none⟩) t.args.length c)
 have hbl:=hS b hb
 have hln:t.args.length=2:=by rw[hxy];rfl
 have hz2:=hz
 rw[hln,hk] at hz2
 have HZ:=hid hz2
 have DX:=hid (fun p=>later_of (CX.out _ (HZ.out.trans ((later_below _ p).mono HZ.out.size))))
 have DY:=hid (fun p=>later_of (CY.out _ (HZ.out.trans ((later_below _ p).mono HZ.out.size))))
 have hsx:(bytes (printT x)).size+6+(bytes (printT y)).size≤1099511627778:=by rw[bytes_size,bytes_size];omega
 have F:Hid (⟨#[40]⟩++bytes (printT x)++⟨#[41,32,45,62,32]⟩++bytes (printT y)=bytes (printT t)):=hid (by
  rw[E.out]
  show bytes [40]++bytes _++bytes [41,32,45,62,32]++bytes _=_
  rw[bytes_app,bytes_app,bytes_app])
 have c0:=b4.c0
 have c3:=b4.c3
 have hz3:=hz
 rw[hln,hk] at hz3 c0 c3
 have j4:=(hz3.cell (p:=⟨b,off,none⟩) hbl).trans f0
 have k3:=later_cell c3
 have k4:=later_cell j4
 have k5:=later_cell ((hz3.cell (p:=⟨b,off+1,none⟩) hbl).trans f1)
 have k6:=later_cell ((hz3.cell (p:=⟨b,off+2,none⟩) hbl).trans f2)
 have k7:=later_cell ((hz3.cell (p:=⟨b,off+3,none⟩) hbl).trans f3)
 have k8:=later_cell ((hz3.cell (p:=⟨b,off+4,none⟩) hbl).trans g0)
 have k9:=later_cell ((hz3.cell (p:=⟨b,off+5,none⟩) hbl).trans g1)
 have k10:=later_cell ((hz3.cell (p:=⟨b,off+6,none⟩) hbl).trans g2)
 have k11:=later_cell ((hz3.cell (p:=⟨b,off+7,none⟩) hbl).trans g3)
 have e4:(x.kind==4)=true:=by rw[hq];rfl
 unfold tv at DX DY ⊢
 unfold StrPost
 rw[hln,hk] at *
 clear hA hw hl E hlen hwf hwx hwy hs0 hs1 b4 hz hz2 hz3 ihx ihy f0 f1 f2 f3 g0 g1 g2 g3 hxy hln hk hS hq
 go_enter Tryz.func37,Tryz.ntmps37
 go_wp2
 clear c0 c3 j4
 refine wp_region_later (by kernel_rfl) (by kernel_rfl) ?_
 repeat (go_big_quiet_step ((first|(with_reducible exact DX.out _)|(with_reducible exact DY.out _))))
 refine wpQuiet_nil ?_
 intro _ hw'
 obtain⟨pq,hw''⟩:=hw'
 subst hw''
 go_wp2
 go_ret
 exact⟨by rw[F.out];rfl,HZ.out.trans ((later_below _ _).mono HZ.out.size)⟩
set_option maxRecDepth 100000 in
set_option maxHeartbeats 400000 in
theorem rprint_fun5 (t:Ty)(hk:t.kind=4)(x y:Ty)(hxy:t.args=[x,y])(hq:x.kind=5)(ihx:RPrintSaid x)(ihy:RPrintSaid y):RPrintSaid t:=by
 intro S a c w hA hS hw hl
 have hz:=(Below.refl w.heap.size w).alloc (Nat.le_refl _) (.cells #[.int .i64 t.kind,.string t.name,.int .i64 t.n,.slice a t.args.length c] 29)
 have E:Hid (printT t=[40]++printT x++[41,32,45,62,32]++printT y):=hid (by
  rw[printT_eq,hk,hxy]
  show paren (decide (x.kind<4)) (printT x)++[32,45,62,32]++printT y=_
  unfold paren
  rw[if_neg (by simp;omega)]
  simp)
 have hlen:(printT x).length+6+(printT y).length≤1099511627778:=by rw[E.out] at hl;simp at hl;omega
 have hwf:=(wf_iff t).1 hw
 have hwx:Wf x:=hwf.2 x (by rw[hxy];simp)
 have hwy:Wf y:=hwf.2 y (by rw[hxy];simp)
 obtain⟨b,off,a0,p0,rfl,hb,⟨f0,f1,f2,f3⟩,hs0⟩:=hA.at_ (i:=0) (by rw[hxy];simp)
 obtain⟨b',off',a1,p1,he,_,⟨g0,g1,g2,g3⟩,hs1⟩:=hA.at_ (i:=1) (by rw[hxy];simp)
 simp only[Option.some.injEq,Addr.mk.injEq] at he
 obtain⟨rfl,rfl,_⟩:=he
 simp only[hxy,List.getElem_cons_zero,List.getElem_cons_succ,Nat.zero_mul,Nat.add_zero,Nat.one_mul,Nat.add_assoc,Nat.reduceAdd] at f0 f1 f2 f3 g0 g1 g2 g3 hs0 hs1
 have CX:=hid (fun (W:World) (h:Below w.heap.size w W)=>ihx S a0 p0 W (hs0.keep (fun b hb=>h.block b (hS b hb))) (fun b hb=>Nat.lt_of_lt_of_le (hS b hb) h.size) hwx (by omega))
 have CY:=hid (fun (W:World) (h:Below w.heap.size w W)=>ihy S a1 p1 W (hs1.keep (fun b hb=>h.block b (hS b hb))) (fun b hb=>Nat.lt_of_lt_of_le (hS b hb) h.size) hwy (by omega))
 have b4:=R4.new w (.int .i64 t.kind) (.string t.name) (.int .i64 t.n) (.slice (some ⟨b,off,none⟩) t.args.length c)
 have hbl:=hS b hb
 have hln:t.args.length=2:=by rw[hxy];rfl
 have hz2:=hz
 rw[hln,hk] at hz2
 have HZ:=hid hz2
 have DX:=hid (fun p=>later_of (CX.out _ (HZ.out.trans ((later_below _ p).mono HZ.out.size))))
 have DY:=hid (fun p=>later_of (CY.out _ (HZ.out.trans ((later_below _ p).mono HZ.out.size))))
 have hsx:(bytes (printT x)).size+6+(bytes (printT y)).size≤1099511627778:=by rw[bytes_size,bytes_size];omega
 have F:Hid (⟨#[40]⟩++bytes (printT x)++⟨#[41,32,45,62,32]⟩++bytes (printT y)=bytes (printT t)):=hid (by
  rw[E.out]
  show bytes [40]++bytes _++bytes [41,32,45,62,32]++bytes _=_
  rw[bytes_app,bytes_app,bytes_app])
 have c0:=b4.c0
 have c3:=b4.c3
 have hz3:=hz
 rw[hln,hk] at hz3 c0 c3
 have j4:=(hz3.cell (p:=⟨b,off,none⟩) hbl).trans f0
 have k3:=later_cell c3
 have k4:=later_cell j4
 have k5:=later_cell ((hz3.cell (p:=⟨b,off+1,none⟩) hbl).trans f1)
 have k6:=later_cell ((hz3.cell (p:=⟨b,off+2,none⟩) hbl).trans f2)
 have k7:=later_cell ((hz3.cell (p:=⟨b,off+3,none⟩) hbl).trans f3)
 have k8:=later_cell ((hz3.cell (p:=⟨b,off+4,none⟩) hbl).trans g0)
 have k9:=later_cell ((hz3.cell (p:=⟨b,off+5,none⟩) hbl).trans g1)
 have k10:=later_cell ((hz3.cell (p:=⟨b,off+6,none⟩) hbl).trans g2)
 have k11:=later_cell ((hz3.cell (p:=⟨b,off+7,none⟩) hbl).trans g3)
 have e4:(x.kind==4)=false:=by rw[hq];rfl
 have e5:(x.kind==5)=true:=by rw[hq];rfl
 unfold tv at DX DY ⊢
 unfold StrPost
 rw[hln,hk] at *
 clear hA hw hl E hlen hwf hwx hwy hs0 hs1 b4 hz hz2 hz3 ihx ihy f0 f1 f2 f3 g0 g1 g2 g3 hxy hln hk hS hq
 go_enter Tryz.func37,Tryz.ntmps37
 go_wp2
 clear c0 c3 j4
 refine wp_region_later (by kernel_rfl) (by kernel_rfl) ?_
 repeat (go_big_quiet_step ((first|(with_reducible exact DX.out _)|(with_reducible exact DY.out _))))
 refine wpQuiet_nil ?_
 intro _ hw'
 obtain⟨pq,hw''⟩:=hw'
 subst hw''
 go_wp2
 go_ret
 exact⟨by rw[F.out];rfl,HZ.out.trans ((later_below _ _).mono HZ.out.size)⟩
set_option maxRecDepth 100000 in
set_option maxHeartbeats 400000 in
theorem rprint_fun0 (t:Ty)(hk:t.kind=4)(x y:Ty)(hxy:t.args=[x,y])(hq:x.kind<4)(ihx:RPrintSaid x)(ihy:RPrintSaid y):RPrintSaid t:=by
 intro S a c w hA hS hw hl
 have hz:=(Below.refl w.heap.size w).alloc (Nat.le_refl _) (.cells #[.int .i64 t.kind,.string t.name,.int .i64 t.n,.slice a t.args.length c] 29)
 have E:Hid (printT t=printT x++[32,45,62,32]++printT y):=hid (by
  rw[printT_eq,hk,hxy]
  show paren (decide (x.kind<4)) (printT x)++[32,45,62,32]++printT y=_
  unfold paren
  rw[if_pos (by simp;omega)]
  skip)
 have hlen:(printT x).length+6+(printT y).length≤1099511627778:=by rw[E.out] at hl;simp at hl;omega
 have hwf:=(wf_iff t).1 hw
 have hwx:Wf x:=hwf.2 x (by rw[hxy];simp)
 have hwy:Wf y:=hwf.2 y (by rw[hxy];simp)
 obtain⟨b,off,a0,p0,rfl,hb,⟨f0,f1,f2,f3⟩,hs0⟩:=hA.at_ (i:=0) (by rw[hxy];simp)
 obtain⟨b',off',a1,p1,he,_,⟨g0,g1,g2,g3⟩,hs1⟩:=hA.at_ (i:=1) (by rw[hxy];simp)
 simp only[Option.some.injEq,Addr.mk.injEq] at he
 obtain⟨rfl,rfl,_⟩:=he
 simp only[hxy,List.getElem_cons_zero,List.getElem_cons_succ,Nat.zero_mul,Nat.add_zero,Nat.one_mul,Nat.add_assoc,Nat.reduceAdd] at f0 f1 f2 f3 g0 g1 g2 g3 hs0 hs1
 have CX:=hid (fun (W:World) (h:Below w.heap.size w W)=>ihx S a0 p0 W (hs0.keep (fun b hb=>h.block b (hS b hb))) (fun b hb=>Nat.lt_of_lt_of_le (hS b hb) h.size) hwx (by omega))
 have CY:=hid (fun (W:World) (h:Below w.heap.size w W)=>ihy S a1 p1 W (hs1.keep (fun b hb=>h.block b (hS b hb))) (fun b hb=>Nat.lt_of_lt_of_le (hS b hb) h.size) hwy (by omega))
 have b4:=R4.new w (.int .i64 t.kind) (.string t.name) (.int .i64 t.n) (.slice (some ⟨b,off,none⟩) t.args.length c)
 have hbl:=hS b hb
 have hln:t.args.length=2:=by rw[hxy];rfl
 have hz2:=hz
 rw[hln,hk] at hz2
 have HZ:=hid hz2
 have DX:=hid (fun p=>later_of (CX.out _ (HZ.out.trans ((later_below _ p).mono HZ.out.size))))
 have DY:=hid (fun p=>later_of (CY.out _ (HZ.out.trans ((later_below _ p).mono HZ.out.size))))
 have hsx:(bytes (printT x)).size+6+(bytes (printT y)).size≤1099511627778:=by rw[bytes_size,bytes_size];omega
 have F:Hid (bytes (printT x)++⟨#[32,45,62,32]⟩++bytes (printT y)=bytes (printT t)):=hid (by
  rw[E.out]
  show bytes _++bytes [32,45,62,32]++bytes _=_
  rw[bytes_app,bytes_app])
 have c0:=b4.c0
 have c3:=b4.c3
 have hz3:=hz
 rw[hln,hk] at hz3 c0 c3
 have j4:=(hz3.cell (p:=⟨b,off,none⟩) hbl).trans f0
 have k3:=later_cell c3
 have k4:=later_cell j4
 have k5:=later_cell ((hz3.cell (p:=⟨b,off+1,none⟩) hbl).trans f1)
 have k6:=later_cell ((hz3.cell (p:=⟨b,off+2,none⟩) hbl).trans f2)
 have k7:=later_cell ((hz3.cell (p:=⟨b,off+3,none⟩) hbl).trans f3)
 have k8:=later_cell ((hz3.cell (p:=⟨b,off+4,none⟩) hbl).trans g0)
 have k9:=later_cell ((hz3.cell (p:=⟨b,off+5,none⟩) hbl).trans g1)
 have k10:=later_cell ((hz3.cell (p:=⟨b,off+6,none⟩) hbl).trans g2)
 have k11:=later_cell ((hz3.cell (p:=⟨b,off+7,none⟩) hbl).trans g3)
 have e4:(x.kind==4)=false:=by rw[beq_eq_false_iff_ne];omega
 have e5:(x.kind==5)=false:=by rw[beq_eq_false_iff_ne];omega
 unfold tv at DX DY ⊢
 unfold StrPost
 rw[hln,hk] at *
 clear hA hw hl E hlen hwf hwx hwy hs0 hs1 b4 hz hz2 hz3 ihx ihy f0 f1 f2 f3 g0 g1 g2 g3 hxy hln hk hS hq
 go_enter Tryz.func37,Tryz.ntmps37
 go_wp2
 clear c0 c3 j4
 refine wp_region_later (by kernel_rfl) (by kernel_rfl) ?_
 repeat (go_big_quiet_step ((first|(with_reducible exact DX.out _)|(with_reducible exact DY.out _))))
 refine wpQuiet_nil ?_
 intro _ hw'
 obtain⟨pq,hw''⟩:=hw'
 subst hw''
 go_wp2
 go_ret
 exact⟨by rw[F.out];rfl,HZ.out.trans ((later_below _ _).mono HZ.out.size)⟩
set_option maxHeartbeats 3200000 in
theorem rprint_all (t:Ty)(hk:t.kind=5)(x:Ty)(hx:t.args=[x])(ih:∀ u:Ty,u.depth<t.depth→RPrintSaid u):RPrintSaid t:=by
 intro S a c w hA hS hw hl
 have hz:=(Below.refl w.heap.size w).alloc (Nat.le_refl _) (.cells #[.int .i64 t.kind,.string t.name,.int .i64 t.n,.slice a t.args.length c] 29)
 have hwf:=(wf_iff t).1 hw
 have hwx:Wf x:=hwf.2 x (by rw[hx];simp)
 have hdx:x.depth<t.depth:=by rw[t.depth_eq,hx];simp[depthL]
 have E:printT t=forallT++t.name.data.toList++restP x:=print_k5 t x hk hx
 obtain⟨b,off,a0,p0,rfl,hb,hf,hs0⟩:=arg0 hA hx
 obtain⟨f0,f1,f2,f3⟩:=hf.keep (hz.block b (hS b hb))
 have b4:=R4.new w (.int .i64 t.kind) (.string t.name) (.int .i64 t.n) (.slice (some ⟨b,off,none⟩) t.args.length c)
 have c0:=b4.c0
 have c1:=b4.c1
 have c3:=b4.c3
 have hbl:=hS b hb
 have hln:t.args.length=1:=by rw[hx];rfl
 have hsz:(forallT++t.name.data.toList).length≤1099511627776:=by rw[E] at hl;rw[List.length_append] at hl;omega
 have hsn:t.name.size≤1099511627776:=by rw[List.length_append] at hsz;have:t.name.data.toList.length=t.name.size:=rfl;omega
 have b4s:=hid (R4.new (w.alloc (.cells #[.int .i64 t.kind,.string t.name,.int .i64 t.n,.slice (some ⟨b,off,none⟩) t.args.length c] 29)) (.int .i64 x.kind) (.string x.name) (.int .i64 x.n) (.slice a0 x.args.length p0))
 have G0:=hid (hz.alloc hz.size (.cells #[.int .i64 x.kind,.string x.name,.int .i64 x.n,.slice a0 x.args.length p0] 29))
 have IH:=hid ih
 have HS:=hid hS
 have HL:=hid hl
 have HE:=hid E
 have HW:=hid hwx
 have HDX:=hid hdx
 have HA0:=hid hs0
 unfold tv
 rw[hln,hk] at f0 f1 f2 f3 c0 c1 c3 b4s G0 ⊢
 clear hA hw hl E hz hwf hwx hdx hf hs0 hS b4 ih hx hln hk hsz
 go_enter Tryz.func37,Tryz.ntmps37
 go_wp2
 go_loopg [6] x.depth (fun gk wv wr=>∃ (s:List UInt8) (u:Ty) (a:Option Addr) (p:Nat),wv=.string (bytes s)∧printT t=s++restP u∧gk=u.depth∧u.depth<t.depth∧Wf u ∧
  R4 wr (w.heap.size+1) (.int .i64 u.kind) (.string u.name) (.int .i64 u.n) (.slice a u.args.length p)∧ArgsAt S wr (.slice a u.args.length p) u.args∧Below w.heap.size w wr∧w.heap.size+2≤wr.heap.size)
 case atStart =>
  have g:=G0.out
  exact⟨forallT++t.name.data.toList,x,a0,p0,rfl,HE.out,rfl,HDX.out,HW.out,by simpa using b4s.out,HA0.out.keep fun b hb=>g.block b (HS.out b hb),g,by simp⟩
 case round =>
  clear b4s G0 HA0 HDX HW HE f0 f1 f2 f3 c0 c1 c3
  obtain⟨s,u,a,p,rfl,hE,rfl,hd,hw,k4,hA,hB,hsz⟩:=hrel
  have c0:=k4.c0
  have c1:=k4.c1
  have c2:=k4.c2
  have c3:=k4.c3
  have fr0:=k4.fr 0
  have fr1:=k4.fr 1
  have fr2:=k4.fr 2
  have fr3:=k4.fr 3
  have hsl:(bytes s).size≤1099511627776:=by rw[bytes_size];have:=HL.out;rw[hE,List.length_append] at this;omega
  have HB:=hid hB
  have HE:=hid hE
  have HW:=hid hw
  have HA:=hid hA
  have K4:=hid k4
  by_cases h5:u.kind=5
  ·have z5:(u.kind==5)=true:=by rw[beq_iff_eq];exact h5
   obtain⟨y,hy⟩:=one_arg (by rcases ((wf_iff u).1 hw).1 with h|h|h|h|h<;>first|omega|exact h.2:u.args.length=1)
   have hwy:Wf y:=((wf_iff u).1 hw).2 y (by rw[hy];simp)
   have hdy:y.depth<u.depth:=by rw[u.depth_eq,hy];simp[depthL]
   have E2:printT t=(s++(32 :: u.name.data.toList))++restP y:=by rw[hE,restP_k5 u y h5 hy];simp
   obtain⟨b2,off2,a2,p2,rfl,hb2,⟨g0,g1,g2,g3⟩,hs2⟩:=arg0 hA hy
   have hbl2:=HS.out b2 hb2
   have hne:b2≠w.heap.size+1:=by omega
   have hln:u.args.length=1:=by rw[hy];rfl
   have hs3:(bytes s).size+1+u.name.size≤1099511627776:=by
    rw[bytes_size];have:=HL.out;rw[E2,List.length_append,List.length_append,List.length_cons] at this;have:u.name.data.toList.length=u.name.size:=rfl;omega
   have E3:Hid (bytes s++⟨#[32]⟩++u.name=bytes (s++(32 :: u.name.data.toList))):=hid (by show bytes s++bytes [32]++bytes u.name.data.toList=_;rw[bytes_app,bytes_app];simp)
   have E2H:=hid E2
   have HWY:=hid hwy
   have HD:Hid (y.depth<u.depth∧u.depth<t.depth):=hid ⟨hdy,hd⟩
   have HA2:=hid hs2
   rw[hln] at c3
   generalize bytes s=sb at *
   clear hE hw hA k4 hB E2 hwy hdy hd hs2 h5 hy hln
   go_wp2
   have k5:=K4.out.set4 (.int .i64 y.kind) (.string y.name) (.int .i64 y.n) (.slice a2 y.args.length p2)
   have B5:=(HB.out).set4 (b:=w.heap.size+1) (by omega) (.int .i64 y.kind) (.string y.name) (.int .i64 y.n) (.slice a2 y.args.length p2)
   go_roundg y.depth
   case measure=>exact HD.out.1
   case rel=>exact⟨s++(32 :: u.name.data.toList),y,a2,p2,by rw[← E3.out],E2H.out,rfl,by have:=HD.out;omega,HWY.out,k5,HA2.out.keep (fun b hb=>(B5.block b (HS.out b hb)).trans (HB.out.block b (HS.out b hb)).symm),B5,by simp;omega⟩
  ·have z5:(u.kind==5)=false:=by rw[beq_eq_false_iff_ne];exact h5
   have E2:printT t=s++[46,32]++printT u:=by rw[hE,restP_other u h5];simp
   have hlu:(bytes s).size+2+(printT u).length≤1099511627776:=by
    rw[bytes_size];have:=HL.out;rw[E2,List.length_append,List.length_append] at this;simp at this;omega
   have C:=hid (IH.out u hd S a p wr hA (fun b hb=>Nat.lt_of_lt_of_le (HS.out b hb) hB.size) hw (by omega))
   have E3:Hid (bytes s++⟨#[46,32]⟩++bytes (printT u)=bytes (printT t)):=hid (by rw[E2];show bytes _++bytes [46,32]++bytes _=_;rw[bytes_app,bytes_app])
   have hlu2:(bytes s).size+2+(bytes (printT u)).size≤1099511627776:=by rw[bytes_size (printT u)];exact hlu
   generalize bytes s=sb at *
   clear hE hw hA k4 hB E2 hd h5 hlu
   go_wp2_with fail
   refine C.out.mono ?_
   rintro e w1 ⟨rfl,hb1⟩
   generalize bytes (printT u)=ub at *
   go_wp2
   go_ret
   exact⟨by rw[← E3.out];rfl,HB.out.trans (hb1.mono HB.out.size)⟩
end Go.Proofs.YtofllmemmggapaaGreatDoor.Tp

namespace Go.Proofs.YtofllmemmggapaaGreatDoor.Tp
open Go.RowKit
def conS (t:Ty)(i:Nat):List UInt8:=t.name.data.toList++((t.args.take i).map clT).flatMap (fun x=>32 :: x)
theorem conS_add (t:Ty)(i:Nat)(h:i<t.args.length):conS t (i+1)=conS t i++(32 :: clT t.args[i]):=by
 unfold conS
 rw[List.take_succ_eq_append_getElem h,List.map_append,List.flatMap_append,List.append_assoc];simp
theorem conS_full (t:Ty)(hk:t.kind=3):conS t t.args.length=printT t:=by rw[print_k3 t hk];unfold conS;rw[List.take_length]
theorem conS_le (t:Ty)(hk:t.kind=3)(i:Nat):(conS t i).length≤(printT t).length:=by
 rw[print_k3 t hk]
 conv=>rhs;rw[← List.take_append_drop i t.args,List.map_append,List.flatMap_append]
 unfold conS
 simp
theorem bare_cases {x:Ty}(hw:Wf x)(h:x.atomic=true):(x.kind==4)=false∧(x.kind==5)=false∧((x.kind==3)=false∨((x.kind==3)=true∧x.args.length=0)):=by
 unfold Ty.atomic at h
 have:=((wf_iff x).1 hw).1
 simp only[Bool.or_eq_true,Bool.and_eq_true,beq_iff_eq,List.isEmpty_iff] at h
 simp only[beq_eq_false_iff_ne,beq_iff_eq]
 rcases h with (h|h)|h
 ·exact⟨by omega,by omega,.inl (by omega)⟩
 ·exact⟨by omega,by omega,.inl (by omega)⟩
 ·exact⟨by omega,by omega,.inr ⟨h.1,by rw[h.2];rfl⟩⟩
theorem par_cases {x:Ty}(hw:Wf x)(h:x.atomic=false):(x.kind==4)=true∨((x.kind==4)=false∧(x.kind==5)=true)∨((x.kind==4)=false∧(x.kind==5)=false∧(x.kind==3)=true∧0<x.args.length):=by
 unfold Ty.atomic at h
 have h0:=((wf_iff x).1 hw).1
 simp only[Bool.or_eq_false_iff,Bool.and_eq_false_iff,beq_eq_false_iff_ne,List.isEmpty_eq_false_iff] at h
 simp only[beq_eq_false_iff_ne,beq_iff_eq]
 rcases h0 with h0|h0|h0|h0|h0
 ·omega
 ·omega
 ·exact .inr (.inr ⟨by omega,by omega,h0,by rcases h.2 with h|h;exact absurd h0 h;exact List.length_pos_iff.2 h⟩)
 ·exact .inl h0.1
 ·exact .inr (.inl ⟨by omega,h0.1⟩)
set_option maxRecDepth 100000 in
set_option maxHeartbeats 3200000 in
theorem rprint_con (t:Ty)(hk:t.kind=3)(ih:∀ u∈t.args,RPrintSaid u):RPrintSaid t:=by
 intro S a c w hA hS hw hl
 have hwf:=(wf_iff t).1 hw
 have hz:=(Below.refl w.heap.size w).alloc (Nat.le_refl _) (.cells #[.int .i64 t.kind,.string t.name,.int .i64 t.n,.slice a t.args.length c] 29)
 have b4:=R4.new w (.int .i64 t.kind) (.string t.name) (.int .i64 t.n) (.slice a t.args.length c)
 have hla:t.args.length≤1099511627776:=by have:=args_le t hk;omega
 have CC:=hid (fun (i:Nat) (hi:i<t.args.length) (a':Option Addr) (c':Nat) (W:World) (hA':ArgsAt S W (.slice a' t.args[i].args.length c') t.args[i].args) (h:Below w.heap.size w W) =>
  ih _ (List.getElem_mem hi) S a' c' W hA' (fun b hb=>Nat.lt_of_lt_of_le (hS b hb) h.size) (hwf.2 _ (List.getElem_mem hi)) (by have h1:=clT_le t hk i hi;have h2:(printT t.args[i]).length≤(clT t.args[i]).length:=(by unfold clT paren;split<;>simp;omega);omega))
 have HA:=hid hA
 have HS:=hid hS
 have HL:=hid hl
 have HK:=hid hk
 have HW:=hid hwf.2
 have HZ:=hid hz
 have K4:=hid b4
 have c0:=b4.c0
 have c1:=b4.c1
 unfold tv
 rw[hk] at c0 c1 HZ K4 ⊢
 clear hA hS hw hl hwf hz b4 ih hk
 go_enter Tryz.func37,Tryz.ntmps37
 go_wp2
 go_loopw [3,4] (fun sv iv wr=>∃ i:Nat,iv=.int .i64 i∧i≤t.args.length∧sv=.string (bytes (conS t i))∧Below (w.alloc (.cells #[.int .i64 3,.string t.name,.int .i64 t.n,.slice a t.args.length c] 29)).heap.size (w.alloc (.cells #[.int .i64 3,.string t.name,.int .i64 t.n,.slice a t.args.length c] 29)) wr) (fun _ iv _=>t.args.length - (intOf iv).toNat)
 case atStart=>exact⟨0,rfl,Nat.zero_le _,by simp[conS,bytes],Below.refl _ _⟩
 case round =>
  clear c0 c1
  obtain⟨i,rfl,hil,rfl,hB⟩:=hrel
  have z0:(0:Int)≤(i:Int):=by omega
  have hBw:=HZ.out.trans (hB.mono HZ.out.size)
  have k3:=(K4.out.low hB).c3
  have BW:=hid hBw
  have BH:=hid hB
  have hcl:=conS_le t HK.out i
  by_cases hi:i<t.args.length
  ·have z1:(i:Int)<(t.args.length:Int):=by omega
   obtain⟨b,off,a',cap',rfl,hb,hf,hs⟩:=HA.out.at_ hi
   obtain⟨f0,f1,f2,f3⟩:=hf.keep (hBw.block b (HS.out b hb))
   have hzr:=(Below.refl wr.heap.size wr).alloc (Nat.le_refl _) (.cells #[.int .i64 t.args[i].kind,.string t.args[i].name,.int .i64 t.args[i].n,.slice a' t.args[i].args.length cap'] 29)
   have kx:=R4.new wr (.int .i64 t.args[i].kind) (.string t.args[i].name) (.int .i64 t.args[i].n) (.slice a' t.args[i].args.length cap')
   have x0:=kx.c0
   have x1:=kx.c1
   have x2:=kx.c2
   have x3:=kx.c3
   have hBz:=hBw.trans (hzr.mono hBw.size)
   have CH:=hid (CC.out i hi a' cap' (wr.alloc (.cells #[.int .i64 t.args[i].kind,.string t.args[i].name,.int .i64 t.args[i].n,.slice a' t.args[i].args.length cap'] 29)) (hs.keep fun b hS=>hBz.block b (HS.out b hS)) hBz)
   have ZR:=hid (hB.trans (hzr.mono hB.size))
   have CA:=hid (conS_add t i hi)
   have hlc:=clT_le t HK.out i hi
   have hca:(conS t (i+1)).length≤(printT t).length:=conS_le t HK.out (i+1)
   rw[conS_add t i hi,List.length_append,List.length_cons] at hca
   have hwx:=HW.out _ (List.getElem_mem hi)
   cases hq:t.args[i].atomic with
   | true =>
    obtain⟨e4,e5,e3⟩:=bare_cases hwx hq
    have CE:Hid (bytes (conS t i)++⟨#[32]⟩++bytes (printT t.args[i])=bytes (conS t (i+1))):=hid (by
     rw[CA.out];unfold clT paren;rw[hq,if_pos rfl]
     show bytes _++bytes [32]++bytes _=_;rw[bytes_app,bytes_app];simp)
    have hsz:(bytes (conS t i)).size+(bytes (printT t.args[i])).size+1≤1099511627776:=by
     rw[bytes_size,bytes_size];unfold clT paren at hca;rw[hq,if_pos rfl] at hca;have:=HL.out;omega
    clear hf hs hB hBw hb hzr kx hBz hlc hca hwx hcl hq CC
    generalize t.args[i]=x at *
    generalize bytes (conS t i)=s0 at *
    rcases e3 with e3|⟨e3,el⟩
    all_goals
     (try (have el1:decide ((0:Int)<(x.args.length:Int))=false:=by rw[el];rfl))
     (try (have el2:¬ (0:Int)<(x.args.length:Int):=by omega))
     (try clear el)
     unfold tv at CH
     go_wp2_with fail
     refine CH.out.mono ?_
     rintro e w4 ⟨rfl,B4⟩
     have B5:=hid (ZR.out.trans (B4.mono ZR.out.size))
     clear B4 CH x0 x1 x2 x3 f0 f1 f2 f3 k3
     generalize bytes (printT x)=px at *
     go_wp2
     go_roundw
     case rel=>exact⟨i+1,by go_num,by omega,by rw[← CE.out],B5.out⟩
     case measure=>simp[intOf];omega
   | false =>
    have CE:Hid (bytes (conS t i)++⟨#[32,40]⟩++bytes (printT t.args[i])++⟨#[41]⟩=bytes (conS t (i+1))):=hid (by
     rw[CA.out];unfold clT paren;rw[hq,if_neg (by decide)]
     show bytes _++bytes [32,40]++bytes _++bytes [41]=_;rw[bytes_app,bytes_app,bytes_app];simp)
    have hsz:(bytes (conS t i)).size+(bytes (printT t.args[i])).size+3≤1099511627776:=by
     rw[bytes_size,bytes_size];unfold clT paren at hca;rw[hq,if_neg (by decide)] at hca;simp at hca;have:=HL.out;omega
    have e3:=par_cases hwx hq
    clear hf hs hB hBw hb hzr kx hBz hlc hca hwx hcl hq CC
    generalize t.args[i]=x at *
    generalize bytes (conS t i)=s0 at *
    rcases e3 with e4|⟨e4,e5⟩|⟨e4,e5,e3,el⟩
    all_goals
     (try (have el1:decide ((0:Int)<(x.args.length:Int))=true:=by rw[decide_eq_true_eq];omega))
     (try (have el2:(0:Int)<(x.args.length:Int):=by omega))
     unfold tv at CH
     go_wp2_with fail
     refine CH.out.mono ?_
     rintro e w4 ⟨rfl,B4⟩
     have B5:=hid (ZR.out.trans (B4.mono ZR.out.size))
     clear B4 CH x0 x1 x2 x3 f0 f1 f2 f3 k3
     generalize bytes (printT x)=px at *
     go_wp2
     go_roundw
     case rel=>exact⟨i+1,by go_num,by omega,by rw[← CE.out],B5.out⟩
     case measure=>simp[intOf];omega
  ·obtain rfl:i=t.args.length:=by omega
   have E:Hid (conS t t.args.length=printT t):=hid (conS_full t HK.out)
   clear hB hBw hcl CC
   go_wp2
   go_ret
   exact⟨by rw[E.out];rfl,BW.out⟩
theorem rprint_below (n:Nat):∀ t:Ty,t.depth≤n→RPrintSaid t:=by
 induction n with
 | zero=>intro t h;rw[t.depth_eq] at h;omega
 | succ n ih =>
  intro t hn
  have lower:∀ u∈t.args,u.depth≤n:=fun u hu=>by have:=depth_arg _ hu;rw[t.depth_eq] at hn;omega
  intro S a c w hA hS hw hl
  rcases ((wf_iff t).1 hw).1 with h|h|h|h|h
  ·exact rprint_var t h.1 a c w
  ·exact rprint_meta t h.1 h.2.2.1 h.2.2.2 a c w
  ·exact rprint_con t h (fun u hu=>ih u (lower u hu)) S a c w hA hS hw hl
  ·obtain⟨x,y,hxy⟩:∃ x y,t.args=[x,y]:=by
    match hl:t.args,h.2 with
    | [x,y],_=>exact⟨x,y,rfl⟩
   have lx:=ih x (lower x (by rw[hxy];simp))
   have ly:=ih y (lower y (by rw[hxy];simp))
   have hwx:Wf x:=((wf_iff t).1 hw).2 x (by rw[hxy];simp)
   by_cases h4:x.kind=4
   ·exact rprint_fun4 t h.1 x y hxy h4 lx ly S a c w hA hS hw hl
   ·by_cases h5:x.kind=5
    ·exact rprint_fun5 t h.1 x y hxy h5 lx ly S a c w hA hS hw hl
    ·exact rprint_fun0 t h.1 x y hxy (by rcases ((wf_iff x).1 hwx).1 with g|g|g|g|g<;>omega) lx ly S a c w hA hS hw hl
  ·obtain⟨x,hx⟩:=one_arg h.2
   exact rprint_all t h.1 x hx (fun u hu=>ih u (by omega)) S a c w hA hS hw hl
theorem rprint_any (t:Ty):RPrintSaid t:=rprint_below t.depth t (Nat.le_refl _)
end Go.Proofs.YtofllmemmggapaaGreatDoor.Tp

/- Packed. -/
import Derived.Test.YtjecnionbjlncaaGreatDoorP50
set_option maxRecDepth 100000
set_option maxHeartbeats 6400000
namespace Go.Proofs.YtjecnionbjlncaaGreatDoor.Tp
section
def o0_ (F:Kn)(m:Int):Bool:=F.any fun x=>x.1==m
def mxT (t:Ty):Int:=Lib.maxOf (az_ t++[0])
def mxI (a b:Int):Int:=if a<b then b else a
def lw_ (p:Kn × Int)(x:Int × Ty):Kn × Int:=if o0_ p.1 x.1 then p else (p.1++[x],mxI (mxI p.2 x.1) (mxT x.2))
def bd_ (R:Kn):Kn × Int:=R.foldl lw_ ([],0)
theorem nf_ {R:Kn}{i:Nat}(h:i<R.length):bd_ (R.take (i+1))=lw_ (bd_ (R.take i)) R[i]:=by
 unfold bd_;rw[List.take_succ_eq_append_getElem h,List.foldl_append];rfl
theorem hZ_ (R:Kn):(bd_ R).1.length≤R.length:=by
 have:∀ (R:Kn) (p:Kn × Int),(R.foldl lw_ p).1.length≤p.1.length+R.length:=by
  intro R
  induction R with
  | nil=>intro p;exact aA_ _
  | cons x R ih =>
   intro p;rw[List.foldl_cons,List.length_cons];have h1:=ih (lw_ p x);have h2:(lw_ p x).1.length≤p.1.length+1:=by
    unfold lw_
    split
    ·omega
    ·simp
   omega
 simpa [bd_] using this R ([],0)
theorem kF_ {R:Kn} : ∀ x∈(bd_ R).1,x∈R:=by
 have:∀ (R:Kn) (p:Kn × Int),∀ x∈(R.foldl lw_ p).1,x∈p.1∨x∈R:=by
  intro R
  induction R with
  | nil=>intro p x h;exact .inl h
  | cons y R ih =>
   intro p x h;rw[List.foldl_cons] at h
   rcases ih _ x h with h|h
   ·unfold lw_ at h
    split at h
    ·exact .inl h
    ·rcases List.mem_append.1 h with h|h
     ·exact .inl h
     ·exact .inr (by simp[List.mem_singleton.1 h])
   ·exact .inr (by simp[h])
 intro x h
 rcases this R ([],0) x h with h|h
 ·cases h
 ·exact h
def pu_ (q:Int)(p:Ty × Nat)(x:Int × Ty):Ty × Nat:=(bp_ x.1 (mt (q+1+(p.2:Int))) p.1,p.2+1)
def my_ (q:Int)(F:Kn)(t:Ty):Ty × Nat:=F.foldl (pu_ q) (t,0)
def pM_ (q:Int)(p:Ty × Nat)(x:Int × Ty):Ty × Nat:=(bp_ (q+1+(p.2:Int)) x.2 p.1,p.2+1)
def lI_ (q:Int)(F:Kn)(t:Ty):Ty × Nat:=F.foldl (pM_ q) (t,0)
theorem on_ (q:Int)(F:Kn)(t:Ty):(my_ q F t).2=F.length:=by
 have:∀ (F:Kn) (p:Ty × Nat),(F.foldl (pu_ q) p).2=p.2+F.length:=by
  intro F
  induction F with
  | nil=>intro p;rfl
  | cons x F ih=>intro p;rw[List.foldl_cons,ih,List.length_cons];show p.2+1 + _=_;omega
 simpa [my_] using this F (t,0)
theorem oV_ (q:Int)(F:Kn)(t:Ty):(lI_ q F t).2=F.length:=by
 have:∀ (F:Kn) (p:Ty × Nat),(F.foldl (pM_ q) p).2=p.2+F.length:=by
  intro F
  induction F with
  | nil=>intro p;rfl
  | cons x F ih=>intro p;rw[List.foldl_cons,ih,List.length_cons];show p.2+1 + _=_;omega
 simpa [lI_] using this F (t,0)
theorem mx_ {q:Int}{F:Kn}{t:Ty}{i:Nat}(h:i<F.length):(my_ q (F.take (i+1)) t).1=bp_ F[i].1 (mt (q+1+(i:Int))) (my_ q (F.take i) t).1:=by
 have h2:=on_ q (F.take i) t;rw[List.length_take,Nat.min_eq_left (Nat.le_of_lt h)] at h2;unfold my_ at *;rw[List.take_succ_eq_append_getElem h,List.foldl_append];show bp_ F[i].1 (mt (q+1+(((F.take i).foldl (pu_ q) (t,0)).2:Int))) _=_;rw[h2]
theorem ne_ {q:Int}{F:Kn}{t:Ty}{i:Nat}(h:i<F.length):(lI_ q (F.take (i+1)) t).1=bp_ (q+1+(i:Int)) F[i].2 (lI_ q (F.take i) t).1:=by
 have h2:=oV_ q (F.take i) t;rw[List.length_take,Nat.min_eq_left (Nat.le_of_lt h)] at h2;unfold lI_ at *;rw[List.take_succ_eq_append_getElem h,List.foldl_append];show bp_ (q+1+(((F.take i).foldl (pM_ q) (t,0)).2:Int)) F[i].2 _=_;rw[h2]
def apQ (R:Kn)(t:Ty):Int:=mxI (bd_ R).2 (mxT t)
def apP (R:Kn)(t:Ty):Ty:=(my_ (apQ R t) (bd_ R).1 t).1
def apF (R:Kn)(t:Ty):Ty:=(lI_ (apQ R t) (bd_ R).1 (apP R t)).1
end
section
open Go.RowKit
def Tryz.lays113_ren:Go.Shelf.Ren:=⟨fun | 113=>60|n=>n,fun | 28=>50 | 3=>3 | 4=>4 | 9=>9 | 20=>20 | 0=>0|n=>n,fun|n=>n⟩
theorem Tryz.lays113:Go.Proofs.Lays.n113 Tryz.prog Tryz.lays113_ren:={
 mixed:=by kernel_rfl
 f113:=Tryz.func60.trans (congrArg some (by kernel_rfl))
 t0:=Tryz.underlying0
 a0:=Tryz.isAgg0
 z0:=Tryz.sizeOf0
 v0:=Tryz.zeroValue0
 t3:=Tryz.underlying3
 a3:=Tryz.isAgg3
 z3:=Tryz.sizeOf3
 v3:=Tryz.zeroValue3
 t4:=Tryz.underlying4
 a4:=Tryz.isAgg4
 z4:=Tryz.sizeOf4
 v4:=Tryz.zeroValue4
 t9:=Tryz.underlying9
 a9:=Tryz.isAgg9
 z9:=Tryz.sizeOf9
 v9:=Tryz.zeroValue9
 t20:=Tryz.underlying20
 a20:=Tryz.isAgg20
 z20:=Tryz.sizeOf20
 v20:=Tryz.zeroValue20
 t28:=Tryz.underlying50
 a28:=Tryz.isAgg50
 z28:=Tryz.sizeOf50
 v28:=Tryz.zeroValue50 }
open Go.Lib in
theorem Tryz.slices_Max_int (b off n c:Nat)(zs:List Int)(w:World)(hn:0<n)(hz:n≤zs.length)(hbig:n≤9223372036854775807)(hc:∀ j,j<zs.length→w.cell? ⟨b,off+j,none⟩=some (.int .i64 (zs.getD j 0))) :
  Calls Tryz.prog 60 #[.slice (some ⟨b,off,none⟩) n c] w fun e w'=>e=.returned (.int .i64 (Lib.maxOf (zs.take n)))∧w'=w:=Any.slices_Max_int Tryz.lays113 b off n c zs w hn hz hbig hc
theorem nB_ (l:Kn)(p:Int × Ty→Bool)(k:Nat)(h:k<l.length):(l.take (k+1)).any p=((l.take k).any p || p l[k]):=by
 rw[List.take_add_one,List.getElem?_eq_getElem h,List.any_append];simp only[Option.toList_some,List.any_cons,List.any_nil,Bool.or_false]
def B5 (w:World)(b:Nat)(m:Int)(t:Ty)(a:OA_)(c:Nat):Prop:=w.heap[b]? = some (.cells #[.int .i64 m,.int .i64 t.kind,.string t.name,.int .i64 t.n,.slice a t.args.length c] 39 (0,0))
section
variable {w w' : World} {b : Nat} {m : Int} {t : Ty} {a : OA_} {c : Nat}
theorem B5.c0 (h:B5 w b m t a c):w.cell? ⟨b,0,none⟩=some (.int .i64 m):=cell_of_row w b 0 _ _ _ h
theorem B5.c1 (h:B5 w b m t a c):w.cell? ⟨b,1,none⟩=some (.int .i64 t.kind):=cell_of_row w b 1 _ _ _ h
theorem B5.c2 (h:B5 w b m t a c):w.cell? ⟨b,2,none⟩=some (.string t.name):=cell_of_row w b 2 _ _ _ h
theorem B5.c3 (h:B5 w b m t a c):w.cell? ⟨b,3,none⟩=some (.int .i64 t.n):=cell_of_row w b 3 _ _ _ h
theorem B5.c4 (h:B5 w b m t a c):w.cell? ⟨b,4,none⟩=some (.slice a t.args.length c):=cell_of_row w b 4 _ _ _ h
theorem B5.lt (h:B5 w b m t a c):b<w.heap.size:=(Array.getElem?_eq_some_iff.1 h).1
theorem B5.low (h:B5 w b m t a c)(hb:Below w.heap.size w w'):B5 w' b m t a c:=(hb.block b h.lt).trans h
theorem B5.grown {r:Option Nat}(h:B5 w b m t a c)(hg:w.grownBy w' r)(hr:r≠some b):B5 w' b m t a c:=(hg.block b h.lt (Ne.symm hr)).trans h
theorem B5.new (w:World)(m:Int)(t:Ty)(a:OA_)(c:Nat):B5 (w.alloc (.cells #[.int .i64 m,.int .i64 t.kind,.string t.name,.int .i64 t.n,.slice a t.args.length c] 39)) w.heap.size m t a c:=heap_alloc_new w _
end
theorem pd_ (args:Array Value)(w:World):(callFunc 59 args).run Tryz.prog w=.ok (.enter 59 args) w :=
 enters_of Tryz.func59 (by kernel_rfl) rfl args w
theorem nz_ {w:World}{bk:Nat}{m n:Int}{t u:Ty}{a ua:OA_}{c uc:Nat}(hk:B5 w bk m t a c) :
  Calls Tryz.prog 59 #[.agg #[.int .i64 n,.int .i64 u.kind,.string u.name,.int .i64 u.n,.slice ua u.args.length uc],.pointer (some ⟨bk,0,none⟩)] w (bU_ w (n==m)):=by
 have hz:=av_ w (.cells #[.int .i64 n,.int .i64 u.kind,.string u.name,.int .i64 u.n,.slice ua u.args.length uc] 39);have b5:=B5.new w n u ua uc;have k5:=hk.low (av_ w (.cells #[.int .i64 n,.int .i64 u.kind,.string u.name,.int .i64 u.n,.slice ua u.args.length uc] 39));have c0:=b5.c0;have d0:=k5.c0;have HZ:=hid hz;clear hz b5 k5 hk;go_enter Tryz.func59,Tryz.ntmps59;go_wp2;go_ret;exact⟨rfl,HZ.out⟩
theorem lt_ {w:World}{v:Value}{F:Kn}{bk:Nat}{m:Int}{t:Ty}{a:OA_}{c:Nat}(hF:jm_ w v F)(hl:F.length≤1000)(hk:B5 w bk m t a c) :
  Calls Tryz.prog 97 #[v,.func (.func 59) #[] #[.pointer (some ⟨bk,0,none⟩)]] w (jZ_ w (o0_ F m)):=by
 obtain⟨fa,fc,rfl,hc⟩:=hF;have HC:=hid hc;have HL:=hid hl;have HK:=hid hk;have hf:=pd_;clear hc hk;go_enter Tryz.func97,Tryz.ntmps97;go_wp2
 go_loopw [8] (fun iv wr=>∃ i:Nat,iv=.int .i64 i∧i≤F.length∧(F.take i).any (fun x=>x.1==m)=false∧Below w.heap.size w wr) (fun iv _=>F.length - (intOf iv).toNat)
 case atStart=>exact⟨0,rfl,Nat.zero_le _,rfl,Below.refl _ _⟩
 case round =>
  obtain⟨i,rfl,hil,hno,hB⟩:=hrel;have NO:=hid hno;have HB:=hid hB;clear hno
  by_cases hi:i<F.length
  ·have z0:(0:Int)≤(i:Int):=by omega
   have z1:(i:Int)<(F.length:Int):=(by omega);have z2:(i:Int)<1000:=(by omega);obtain⟨b,off,rfl,hb,hcc⟩:=HC.out.resolve_left (by intro e;rw[e] at hi;simp at hi);obtain⟨xa,xc,h1,h2⟩:=hcc i hi;have k:∀ o,wr.cell? ⟨b,o,none⟩=w.cell? ⟨b,o,none⟩:=fun o=>World.cell?_of_block (hB.block b hb);have q0:wr.cell? ⟨b,off+i*5,none⟩=some (.int .i64 F[i].1):=(k _).trans (h1 0 _ (by omega) rfl);have q1:=(k _).trans (h1 1 _ (by omega) rfl);have q2:=(k _).trans (h1 2 _ (by omega) rfl);have q3:=(k _).trans (h1 3 _ (by omega) rfl);have q4:=(k _).trans (h1 4 _ (by omega) rfl);have CF:=hid (nz_ (n:=F[i].1) (u:=F[i].2) (ua:=xa) (uc:=xc) (HK.out.low hB));have AT:=hid (nB_ F (fun x=>x.1==m) i hi);have MEM:=hid (List.getElem_mem hi);clear hB hcc h1 h2 k hb;generalize F[i]=x at *;go_wp2_with fail;refine CF.out.mono ?_;rintro e W4 ⟨rfl,hb4⟩;have B4':=hid (HB.out.trans (hb4.mono HB.out.size));clear hb4;cases hp:(x.1==m) with
   | true =>
    have hany:Hid (o0_ F m=true):=hid (List.any_eq_true.2 ⟨_,MEM.out,hp⟩);clear hp;go_wp2;go_ret;exact⟨i,rfl,by rw[hany.out];exact decide_eq_true z0,B4'.out⟩
   | false =>
    have st:Hid ((F.take (i+1)).any (fun x=>x.1==m)=false):=hid (by rw[AT.out,NO.out,hp];rfl);clear hp;go_wp2;go_roundw
    case rel=>exact⟨i+1,by go_num,by omega,st.out,B4'.out⟩
    case measure=>simp[intOf];omega
  ·obtain rfl:i=F.length:=by omega
   clear hB;go_wp2;go_ret;refine⟨-1,rfl,?_,HB.out⟩;have:=NO.out;rw[List.take_length] at this;unfold o0_;rw[this];rfl
theorem h5_ {w:World}{v:Value}{F:Kn}{bk:Nat}{m:Int}{t:Ty}{a:OA_}{c:Nat}(hF:jm_ w v F)(hl:F.length≤1000)(hk:B5 w bk m t a c) :
  Calls Tryz.prog 58 #[v,.func (.func 59) #[] #[.pointer (some ⟨bk,0,none⟩)]] w (bU_ w (o0_ F m)):=by
 have CI:=hid (lt_ hF hl hk);clear hF hl hk;go_enter Tryz.func58,Tryz.ntmps58;go_wp2_with fail;refine CI.out.mono ?_;rintro e w4 ⟨k,rfl,hk,hb4⟩;have B4':=hid hb4;have HK:=hid hk;clear hb4 hk;go_wp2;go_ret;exact⟨aU_ HK.out,B4'.out⟩
theorem ib_ {lo:Nat}{w:World}{v:Value}{l:List Int}(h:w.ownsRow lo 3 1 v l.length (l.map (Value.int .i64)))(hlo:lo≤w.heap.size)(hl:l.length≤1000000000000){g:Nat}(hg:w.heap[g]? = some (.cells #[.int .i64 0] 3 (0,0))) :
  ∃ v' w',(Builtin.append_ #[50,50] 50 #[v,.slice (some ⟨g,0,none⟩) 1 1]).run Tryz.prog w=.ok v' w'∧w'.ownsRow lo 3 1 v' (l++[0]).length ((l++[0]).map (Value.int .i64))∧w.grownBy w' v.ownBlock:=by
 obtain⟨i0,hi0,hz3,hz1,hz2⟩:=info_parts nc_;obtain⟨g2,cap,w',hr,ho,hgr,_⟩:=run_append_lies (P:=Tryz.prog) (w:=w) 50 50 lo 3 i0 (.int .i64 0) 1 8 Tryz.underlying50 hi0 hz3 hz1 hz2 rfl (by decide) v l.length (l.map (Value.int .i64)) h ⟨g,0,none⟩ 1 1
  [.int .i64 0] rfl (World.news_of_block (cs:=#[.int .i64 0]) (t:=3) (fr:=(0,0)) hg) (by simp[Value.oneCell']) (by omega) (by unfold maxLen;omega) (by omega) hlo w.heap.size rfl
 refine⟨_,w',hr,?_,hgr⟩;rw[List.length_append,List.map_append];exact ho
theorem m7_ {lo:Nat}{w:World}{v:Value}{l:List Int}(h:w.ownsRow lo 3 1 v (l++[0]).length ((l++[0]).map (Value.int .i64)))(hl:l.length≤1000000000000) :
  Calls Tryz.prog 60 #[v] w fun e w'=>e=.returned (.int .i64 (Lib.maxOf (l++[0])))∧w'=w:=by
 rcases h.2 with ⟨_,h0⟩|⟨g,cap,cur,rfl,hb,hg,h1,h2,h3,h4⟩
 ·simp at h0
 ·have hc:=h.cells (g:=g) rfl
  have hm:=Tryz.slices_Max_int g 0 (l++[0]).length cap (l++[0]) w (by simp) (aA_ _) (by simp;omega) (fun j hj=>by
   have:=hc j (.int .i64 ((l++[0]).getD j 0)) (by rw[List.getElem?_map,List.getElem?_eq_getElem hj,List.getD_eq_getElem?_getD,List.getElem?_eq_getElem hj];rfl);rw[show (⟨g,0,none⟩:Addr).add j=⟨g,0+j,none⟩ from by unfold Addr.add;split<;>simp_all] at this;exact this)
  rw[List.take_length] at hm;exact hm
theorem ez_.low {S:Nat→Prop}{lo:Nat}{w w':World}{v:Value}{es:Kn}{ps:List Value}(h:ez_ S lo w v es ps)(hS:∀ b,S b→b<w.heap.size)(hb:Below w.heap.size w w'):ez_ S lo w' v es ps :=
  h.keep (fun b e=>hb.block b (h.own.lt b e).2) fun b h=>hb.block b (hS b h)
theorem FlM.low' {w wr w':World}{x:Ty}{xa:OA_}{xc:Nat}(h:FlM (Lt w.heap.size) w wr x xa xc)(hb:Below wr.heap.size wr w'):FlM (Lt w.heap.size) w w' x xa xc:=h.low (fun _ h=>h) hb
theorem FlM.grown {w wr w':World}{x:Ty}{xa:OA_}{xc:Nat}{r:Option Nat}(h:FlM (Lt w.heap.size) w wr x xa xc)(hg:wr.grownBy w' r)(hr:∀ b,r=some b→w.heap.size+2≤b)(ha:aa_ (fun b=>(b<w.heap.size∨w.heap.size+2≤b∧b<wr.heap.size)∧r≠some b) wr (.slice xa x.args.length xc) x.args):FlM (Lt w.heap.size) w w' x xa xc :=
  ⟨h.g.grown hg h.g.size fun b e=>by have:=hr b e;omega,co_ h.s hg.size,h.k.grown hg fun e=>by have:=hr _ e;omega,h.z.grown hg fun e=>by have:=hr _ e;omega,
   (ha.keep fun b hb=>hg.block b (by rcases hb.1 with h1|h1;have:=h.s;omega;exact h1.2) (Ne.symm hb.2)).mono fun b hb=>hb.1.imp id fun h1=>⟨h1.1,bh_ h1.2 hg.size⟩⟩
theorem ez_.grown' {S:Nat→Prop}{lo:Nat}{w w':World}{v:Value}{es:Kn}{ps:List Value}{r:Option Nat}(h:ez_ S lo w v es ps)(hg:w.grownBy w' r)(hv:∀ b,v.ownBlock=some b→r≠some b)(hS:∀ b,S b→b<w.heap.size∧r≠some b):ez_ S lo w' v es ps :=
  h.keep (fun b e=>hg.block b (h.own.lt b e).2 (Ne.symm (hv b e))) fun b h=>hg.block b (hS b h).1 (Ne.symm (hS b h).2)
theorem ez_.cells5 {S:Nat→Prop}{lo:Nat}{w:World}{a:OA_}{n c:Nat}{R:Kn}{ps:List Value}(h:ez_ S lo w (.slice a n c) R ps)(hn:0<R.length):∃ b off,a=some ⟨b,off,none⟩∧b<w.heap.size∧∀ i (h:i<R.length),∃ xa xc,
    (∀ j u,j<5→(eZ_ R[i] (.slice xa R[i].2.args.length xc))[j]? = some u→w.cell? ⟨b,off+i*5+j,none⟩=some u)∧aa_ S w (.slice xa R[i].2.args.length xc) R[i].2.args:=by
  rcases h.own.2 with ⟨_,h0⟩|⟨g,cap,cur,hv,hb,hg,h1,h2,h3,h4⟩
  · omega
  · injection hv with hv
    refine⟨g,0,hv,(Array.getElem?_eq_some_iff.1 hg).1,fun i hi=>?_⟩;have hip:i<ps.length:=by rw[h.len];exact hi
    obtain⟨xa,xc,e1,hA⟩:=h.at_ i R[i] ps[i] (List.getElem?_eq_getElem hi) (List.getElem?_eq_getElem hip);rw[e1] at hA;refine⟨xa,xc,fun j u hj hu=>?_,hA⟩;have hc:=h.own.cells (g:=g) (by rw[hv];rfl) (i*5+j) u (by
      rw[i7_ R ps h.len i hi hip j hj,e1];exact hu)
    have hadd:(⟨g,0,none⟩:Addr).add (i*5+j)=⟨g,0+i*5+j,none⟩:=by unfold Addr.add;split<;>simp_all
    rw[hadd] at hc;exact hc
theorem ez_.off4 {S:Nat→Prop}{lo n:Nat}{w:World}{v:Value}{R:Kn}{ps:List Value}{u0 u1 u2 u3:Value}(h:ez_ S lo w v R ps)(hn:n<lo)(hS:∀ b,S b→b<n):ez_ S lo ((((w.setCell ⟨n,0,none⟩ u0).setCell ⟨n,1,none⟩ u1).setCell ⟨n,2,none⟩ u2).setCell ⟨n,3,none⟩ u3) v R ps:=by
  have off:∀ b,b≠n→((((w.setCell ⟨n,0,none⟩ u0).setCell ⟨n,1,none⟩ u1).setCell ⟨n,2,none⟩ u2).setCell ⟨n,3,none⟩ u3).heap[b]? = w.heap[b]? := fun b hb=>by
    rw[aC_ _ _ _ _ hb,aC_ _ _ _ _ hb,aC_ _ _ _ _ hb,aC_ _ _ _ _ hb]
  exact h.keep (fun b e=>off b (by have:=(h.own.lt b e).1;omega)) fun b hb=>off b (Nat.ne_of_lt (hS b hb))
theorem sh_ {m:Int}(h0:0≤m)(h1:m<1000000000000000000):SmT (mt m):=by
  have hs:Std (mt m):=(a4_ _).2 ⟨.inr (.inl ⟨rfl,rfl,rfl,h0,h1⟩),fun a ha=>by cases ha⟩;refine⟨⟨(bK_ _).2 ⟨.inr (.inl ⟨rfl,rfl,h0,h1⟩),fun a ha=>by cases ha⟩,(b9_ _).2 ⟨⟨fun e=>absurd (show (2:Int)=5 from e) (by decide),by show (0:Nat)≤64;omega⟩,fun a ha=>by cases ha⟩⟩,decide_eq_true ⟨by show (1:Nat)≤_;omega,by rw[show Tp.aj_ (mt m)=[] from rfl];simp⟩⟩
def SF (n m:Nat)(b:Nat):Prop:=b<n∨n+2≤b∧b<m
theorem nx_ {w:World}{kv:Value}{R:Kn}{t:Ty}{a:OA_}{c:Nat}(hR:jm_ w kv R)(hA:AtW t a c w)(hl:R.length≤100)(hs:a8_ t)(hRs:∀ x∈R,a8_ x.2∧0≤x.1∧x.1<100000000000000000)
    (hq:0≤apQ R t∧apQ R t<100000000000000000) (hfq:∀ i,i≤R.length→0≤(bd_ (R.take i)).2∧(bd_ (R.take i)).2<100000000000000000) (hP:∀ i,i≤(bd_ R).1.length→a8_ (my_ (apQ R t) ((bd_ R).1.take i) t).1) (hQ:∀ i,i≤(bd_ R).1.length→a8_ (lI_ (apQ R t) ((bd_ R).1.take i) (apP R t)).1) (hT:Tab w) :
    Calls Tryz.prog 28 #[kv,tv t a c] w (fV_ (apF R t) w):=by
  obtain⟨ka,kc,rfl,hc⟩:=hR;have hA':aa_ (Lt w.heap.size) w (.slice a t.args.length c) t.args:=hA;have hz:=av_ w (.cells #[.int .i64 t.kind,.string t.name,.int .i64 t.n,.slice a t.args.length c] 37);have hz2:=hz.alloc (by simp) (.cells #[.int .i64 0,.string ⟨#[]⟩,.int .i64 0,.slice none 0 0] 37);have fm0:FlM (Lt w.heap.size) w ((w.alloc (.cells #[.int .i64 t.kind,.string t.name,.int .i64 t.n,.slice a t.args.length c] 37)).alloc (.cells #[.int .i64 0,.string ⟨#[]⟩,.int .i64 0,.slice none 0 0] 37)) t a c:=⟨hz2,by simp,(B4.new w _ _ _ _).low (av_ _ _),(by have h:=B4.new (w.alloc (.cells #[.int .i64 t.kind,.string t.name,.int .i64 t.n,.slice a t.args.length c] 37)) (.int .i64 0) (.string ⟨#[]⟩) (.int .i64 0) (.slice none 0 0);rw[show (w.alloc (.cells #[.int .i64 t.kind,.string t.name,.int .i64 t.n,.slice a t.args.length c] 37)).heap.size=w.heap.size+1 from by simp] at h;exact h),(hA'.keep fun b h=>hz2.block b h).mono fun _=>.inl⟩;have FM:=hid fm0;have HA:=hid hA';have HC:=hid hc;have HL:=hid hl;have HS:=hid hs;have HRS:=hid hRs;have HQB:=hid hq;have HFQ:=hid hfq;have HP:=hid hP;have HQ:=hid hQ;have HT:=hid hT;clear hA hA' hz hz2 fm0 hc hs hRs hq hfq hP hQ hT;unfold tv;go_enter Tryz.func28,Tryz.ntmps28;go_wp2
  go_loopw [5,6,15] (fun ov qv iv wr=>∃ (i:Nat) (ps:List Value),iv=.int .i64 (i:Int)∧i≤R.length∧qv=.int .i64 (bd_ (R.take i)).2∧ez_ (Lt w.heap.size) (w.heap.size+2) wr ov (bd_ (R.take i)).1 ps∧FlM (Lt w.heap.size) w wr t a c) (fun _ _ iv _=>R.length - (intOf iv).toNat)
  case atStart=>exact⟨0,[],rfl,Nat.zero_le _,rfl,ez_.nil _ _ _,FM.out⟩
  case round =>
    obtain⟨i,ps,rfl,hil,rfl,hK,hM⟩:=hrel;have i0:(0:Int)≤(i:Int):=by omega
    by_cases hi:i<R.length
    · have i1:(i:Int)<(R.length:Int):=by omega
      have i2:(i:Int)<100:=(by omega);obtain⟨b,off,rfl,hb,hcc⟩:=HC.out.resolve_left (by intro e;rw[e] at hi;simp at hi);obtain⟨xa,xc,h1,h2⟩:=hcc i hi;have k:∀ o,wr.cell? ⟨b,o,none⟩=w.cell? ⟨b,o,none⟩:=fun o=>World.cell?_of_block (hM.g.block b hb);have q0:wr.cell? ⟨b,off+i*5,none⟩=some (.int .i64 R[i].1):=(k _).trans (h1 0 _ (by omega) rfl);have q1:=(k _).trans (h1 1 _ (by omega) rfl);have q2:=(k _).trans (h1 2 _ (by omega) rfl);have q3:=(k _).trans (h1 3 _ (by omega) rfl);have q4:=(k _).trans (h1 4 _ (by omega) rfl);have XS:=hid (HRS.out _ (List.getElem_mem hi));have TK:=hid (nf_ hi);have FQ:=hid (HFQ.out i hil);have FQ1:=hid (HFQ.out (i+1) hi);have FL:Hid ((bd_ (R.take i)).1.length≤100):=hid (by have:=hZ_ (R.take i);rw[List.length_take] at this;omega);have XA:=hid h2;obtain⟨oa,oc,rfl⟩:=aB_ hK.own;have hz:=av_ wr (.cells #[.int .i64 R[i].1,.int .i64 R[i].2.kind,.string R[i].2.name,.int .i64 R[i].2.n,.slice xa R[i].2.args.length xc] 39);have b5:=B5.new wr R[i].1 R[i].2 xa xc;have hlt:∀ b,Lt w.heap.size b→b<wr.heap.size:=fun b h=>by have:=hM.g.size;have h':b<w.heap.size:=h;omega
      have K1:=hid (hK.low hlt hz);have M1:=hid (hM.low' hz);have B1:=hid b5;have OL:Hid (∀ b,(Value.slice oa (bd_ (R.take i)).1.length oc).ownBlock=some b→w.heap.size+2≤b∧b<wr.heap.size):=hid fun b e=>hK.own.lt b e;have CC:=hid (h5_ (K1.out.ks fun b h=>bh_ (hlt b h) hz.size) (by have:=FL.out;omega) b5);have HLT:=hid hlt;have SZ:Hid (w.heap.size+2≤wr.heap.size):=hid hM.s;clear hcc h1 h2 k hb hK hM hz b5 hlt;generalize R[i]=x at *;generalize hF:bd_ (R.take i)=Fq at *;obtain⟨F,q⟩:=Fq;simp only at *;go_wp2_with fail;refine CC.out.mono ?_;rintro e w2 ⟨rfl,hb2⟩;have K2:=hid (K1.out.low (fun b h=>by have:=HLT.out b h;simp;omega) hb2);have M2:=hid (M1.out.low' hb2);have B2:=hid (B1.out.low hb2);have S2:Hid (wr.heap.size+1≤w2.heap.size):=hid (by have:=hb2.size;simpa using this);clear CC hb2 K1 M1 B1;cases hd:o0_ F x.1 with
      | true =>
        have E:Hid (bd_ (R.take (i+1))=(F,q)):=hid (by rw[TK.out];unfold lw_;exact if_pos hd);clear hd;go_wp2;go_roundw
        case measure=>simp[intOf];omega
        case rel=>exact⟨i+1,ps,by go_num,by omega,by rw[E.out],by rw[E.out];exact K2.out,M2.out⟩
      | false =>
        have E:Hid (bd_ (R.take (i+1))=(F++[x],mxI (mxI q x.1) (mxT x.2))):=hid (by rw[TK.out];unfold lw_;exact if_neg (by rw[hd];decide));clear hd;have PA:=hid (K2.out.push (x:=x) (by have:=SZ.out;have:=S2.out;omega) (by have:=FL.out;omega) (fun b h=>⟨by have:=HLT.out b h;have:=S2.out;omega,fun e=>by have:=(OL.out b e).1;have h':b<w.heap.size:=h;omega⟩) (XA.out.keep fun b h=>M2.out.g.block b h));have hbx:=B2.out;have y0:=hbx.c0;have y1:=hbx.c1;have y2:=hbx.c2;have y3:=hbx.c3;have y4:=hbx.c4;clear hbx
        go_upto_region 8 with (first
          | (at_builtin;refine by_ (by rfl) _ _ _ (by rfl) (by rfl) (by rfl) PA.out ?_;rintro v3 w3 ⟨hr3,hg3,ho3,hl3⟩
             have K3:=hid hr3;have G3:=hid hg3;have O3:=hid ho3;have B3:=hid (B2.out.grown hg3 (fun e=>by have:=(OL.out _ e).2;omega));have M3:=hid (M2.out.grown hg3 (fun b e=>(OL.out b e).1) ((HA.out.keep fun b h=>M2.out.g.block b h).mono fun b h=>⟨.inl h,fun e=>by have:=(OL.out b e).1;have h':b<w.heap.size:=h;omega⟩));clear hr3 hg3 ho3 hl3 PA y0 y1 y2 y3 y4))
        have KD:Hid (∀ W:World,Below w3.heap.size w3 W→W.cell? ⟨wr.heap.size,0,none⟩=some (.int .i64 x.1)∧W.cell? ⟨wr.heap.size,1,none⟩=some (.int .i64 x.2.kind)∧W.cell? ⟨wr.heap.size,2,none⟩=some (.string x.2.name)∧W.cell? ⟨wr.heap.size,3,none⟩=some (.int .i64 x.2.n)∧W.cell? ⟨wr.heap.size,4,none⟩=some (.slice xa x.2.args.length xc)):=hid (fun W h=>⟨(B3.out.low h).c0,(B3.out.low h).c1,(B3.out.low h).c2,(B3.out.low h).c3,(B3.out.low h).c4⟩);have XW:Hid (∀ W:World,Below w3.heap.size w3 W→AtW x.2 xa xc W):=hid (fun W h=>(XA.out.keep fun b hb=>(M3.out.g.trans (h.mono M3.out.g.size)).block b hb).mono fun b hb=>bh_ hb (M3.out.g.trans (h.mono M3.out.g.size)).size);have CF:=hid (fun (W:World) (h:Below w3.heap.size w3 W)=>m5_ (XW.out W h) XS.out.1);have HD:=hid ((Below.refl w3.heap.size w3).drew);have HZ0:Hid (Below w3.heap.size w3 (w3.alloc (.cells #[.int .i64 0] 3)).drew):=hid ((av_ w3 (.cells #[.int .i64 0] 3)).drew);have XSZ:Hid (x.2.size≤50000000000):=hid (by have:=XS.out.1.2.1;omega);obtain⟨y0,y1,y2,y3,y4⟩:=KD.out _ HD.out
        go_region_held3 (fun w'=>w'.cell? ⟨wr.heap.size,0,none⟩=some (.int .i64 x.1)∧w'.cell? ⟨wr.heap.size,1,none⟩=some (.int .i64 x.2.kind)∧w'.cell? ⟨wr.heap.size,2,none⟩=some (.string x.2.name)∧w'.cell? ⟨wr.heap.size,3,none⟩=some (.int .i64 x.2.n)∧w'.cell? ⟨wr.heap.size,4,none⟩=some (.slice xa x.2.args.length xc))
          (first|(with_reducible exact KD.out _ HX3.out)|(with_reducible exact KD.out _ HXZ.out)|(with_reducible exact KD.out _ HX1.out)|(with_reducible exact KD.out _ HZ0.out)|(with_reducible exact KD.out _ HD.out))
          (first
            | (go_at_call 19;(with_reducible refine (CF.out _ HD.out).mono ?_);rintro e x1 ⟨v1,rfl,own1,len1,hb1⟩;obtain⟨ya,yc,rfl⟩:=aB_ own1;have HX1:=hid (HD.out.trans (hb1.mono HD.out.size));have HXZ:=hid (HX1.out.alloc HX1.out.size (.cells #[.int .i64 0] 3));have PA:=hid (ib_ (w:=x1.alloc (.cells #[.int .i64 0] 3)) (own1.alloc (.cells #[.int .i64 0] 3)) (by have:=HX1.out.size;simp at *;omega) (by have:=XSZ.out;omega) (heap_alloc_new x1 _));have LEN:=hid len1;have OB:Hid (∀ b,(Value.slice ya (az_ x.2).length yc).ownBlock=some b→w3.heap.size≤b):=hid (fun b e=>(own1.lt b e).1);clear own1 len1 hb1)
            | (go_at_call 19;(with_reducible refine (CF.out _ HZ0.out).mono ?_);rintro e x1 ⟨v1,rfl,own1,len1,hb1⟩;obtain⟨ya,yc,rfl⟩:=aB_ own1;have HX1:=hid (HZ0.out.trans (hb1.mono HZ0.out.size));have HXZ:=hid HX1.out;have PA:=hid (ib_ (g:=w3.heap.size) own1 (by have:=hb1.size;simp at *;omega) (by have:=XSZ.out;omega) ((hb1.block w3.heap.size (by simp)).trans (heap_alloc_new w3 _)));have LEN:=hid len1;have OB:Hid (∀ b,(Value.slice ya (az_ x.2).length yc).ownBlock=some b→w3.heap.size≤b):=hid (fun b e=>by have:=(own1.lt b e).1;simp at this;omega);clear own1 len1 hb1)
            | ((refine cX_ (by rfl) _ _ _ (by rfl) (by rfl) (by rfl) PA.out ?_);rintro v3 x3 ⟨own3,hg3⟩;have HX3:=hid (HXZ.out.grown hg3 HXZ.out.size fun b e=>OB.out b e);have CX:=hid (m7_ own3 (by have:=XSZ.out;have:=LEN.out;omega));clear own3 hg3)
            | (go_at_call 60;(with_reducible refine CX.out.mono ?_);rintro e x4 ⟨rfl,rfl⟩))
        all_goals
          have K4:=hid (K3.out.low (fun b h=>by have:=M3.out.g.size;have h':b<w.heap.size:=h;omega) HX3.out);have M4:=hid (M3.out.low' HX3.out);go_wp2;go_roundw
          case measure=>simp[intOf];omega
          case rel=>exact⟨i+1,_,by go_num,by omega,by rw[E.out];rfl,by rw[E.out];exact K4.out,M4.out⟩
    · obtain rfl:i=R.length:=by omega
      rw[List.take_length] at hK ⊢;have hkk:=hM.k;obtain⟨y0,y1,y2,y3⟩:=hkk.c03;have FL:Hid ((bd_ R).1.length≤100):=hid (by have:=hZ_ R;omega);obtain⟨oa,oc,rfl⟩:=aB_ hK.own;have OL:Hid (∀ b,(Value.slice oa (bd_ R).1.length oc).ownBlock=some b→w.heap.size+2≤b∧b<wr.heap.size):=hid fun b e=>hK.own.lt b e;have CM:=hid (m5_ (t:=t) (a:=a) (c:=c) (W:=wr) ((HA.out.keep fun b hb=>hM.g.block b hb).mono fun b hb=>bh_ hb hM.g.size) HS.out);have KR:=hid hK;have MR:=hid hM;have TSZ:Hid (t.size≤50000000000):=hid (by have:=HS.out.2.1;omega);clear hkk hK hM hil hi;obtain⟨wo,hwo⟩:∃ wo:World,wo=wr:=⟨_,rfl⟩;subst hwo;go_wp2_with fail;refine CM.out.mono ?_;rintro e w1 ⟨mv,rfl,own1,len1,hb1⟩;obtain⟨ya,yc,rfl⟩:=aB_ own1;have K1:=hid (KR.out.low (fun b h=>by have:=MR.out.g.size;have h':b<w.heap.size:=h;omega) hb1);have M1:=hid (MR.out.low' hb1);have PA:=hid (ib_ (w:=w1.alloc (.cells #[.int .i64 0] 3)) (own1.alloc (.cells #[.int .i64 0] 3)) (by have:=hb1.size;simp;omega) (by have:=TSZ.out;omega) (heap_alloc_new w1 _));have BZ:=hid (av_ w1 (.cells #[.int .i64 0] 3));have OB:Hid (∀ b,(Value.slice ya (az_ t).length yc).ownBlock=some b→wo.heap.size≤b∧b<w1.heap.size):=hid (fun b e=>own1.lt b e);have LEN:=hid len1;clear own1 len1 hb1 CM y0 y1 y2 y3;go_wp2_with (at_builtin;refine by_ (by rfl) _ _ _ (by rfl) (by rfl) (by rfl) PA.out ?_;rintro v3 w3 ⟨own3,hg3⟩;have CX:=hid (m7_ own3 (by have:=TSZ.out;have:=LEN.out;omega));have K3:=hid ((K1.out.low (fun b h=>by have:=M1.out.g.size;have h':b<w.heap.size:=h;omega) BZ.out).grown' hg3 (fun b e e2=>by have:=(OL.out b e).2;have:=(OB.out b e2).1;omega) (fun b h=>⟨by have:=M1.out.g.size;have h':b<w.heap.size:=h;simp;omega,fun e=>by have:=(OB.out b e).1;have:=MR.out.g.size;have h':b<w.heap.size:=h;omega⟩));have M3:=hid ((M1.out.low' BZ.out).grown hg3 (fun b e=>by have:=(OB.out b e).1;have:=MR.out.s;omega) ((HA.out.keep fun b hb=>(M1.out.g.trans (BZ.out.mono M1.out.g.size)).block b hb).mono fun b h=>⟨.inl h,fun e=>by have:=(OB.out b e).1;have:=MR.out.g.size;have h':b<w.heap.size:=h;omega⟩));clear own3 hg3 PA);refine CX.out.mono ?_;rintro e w4 ⟨rfl,rfl⟩;clear CX K1 M1 BZ OB LEN OL KR MR FM;have QV:Hid (max (bd_ R).2 (Lib.maxOf (az_ t++[0]))=apQ R t):=hid (by unfold apQ mxI mxT;split<;>omega);go_wp2;rw[QV.out];have hqb:=HQB.out;have p0:0≤apQ R t:=hqb.1;have p1:apQ R t<100000000000000000:=hqb.2;have FS:Hid (∀ x∈(bd_ R).1,a8_ x.2∧0≤x.1∧x.1<100000000000000000):=hid fun x hx=>HRS.out x (kF_ x hx);clear hqb
      go_loopw [46] (fun iv wr=>∃ (i:Nat) (xa:OA_) (xc:Nat),iv=.int .i64 (i:Int)∧i≤(bd_ R).1.length∧ez_ (Lt w.heap.size) (w.heap.size+2) wr (.slice oa (bd_ R).1.length oc) (bd_ R).1 ps∧FlM (Lt w.heap.size) w wr (my_ (apQ R t) ((bd_ R).1.take i) t).1 xa xc) (fun iv _=>(bd_ R).1.length - (intOf iv).toNat)
      case atStart=>exact⟨0,a,c,rfl,Nat.zero_le _,K3.out,M3.out⟩
      case round =>
        obtain⟨i,xa,xc,rfl,hil,hK,hM⟩:=hrel;have i0:(0:Int)≤(i:Int):=by omega
        by_cases hi:i<(bd_ R).1.length
        · obtain⟨b,off,hov,hb,hcc⟩:∃ b off,oa=some ⟨b,off,none⟩∧b<wr.heap.size∧∀ i (h:i<(bd_ R).1.length),∃ xa xc,(∀ j u,j<5→(eZ_ (bd_ R).1[i] (.slice xa (bd_ R).1[i].2.args.length xc))[j]? = some u→wr.cell? ⟨b,off+i*5+j,none⟩=some u)∧aa_ (Lt w.heap.size) wr (.slice xa (bd_ R).1[i].2.args.length xc) (bd_ R).1[i].2.args:=hK.cells5 (by omega)
          subst hov;obtain⟨ya,yc,h1,h2⟩:=hcc i hi;have i1:(i:Int)<((bd_ R).1.length:Int):=(by omega);have i2:(i:Int)<100:=(by have:=FL.out;omega);have q0:wr.cell? ⟨b,off+i*5,none⟩=some (.int .i64 (bd_ R).1[i].1):=h1 0 _ (by omega) rfl;have q1:=h1 1 _ (by omega) rfl;have q2:=h1 2 _ (by omega) rfl;have q3:=h1 3 _ (by omega) rfl;have q4:=h1 4 _ (by omega) rfl;have XS:=hid (FS.out _ (List.getElem_mem hi));have HX:=hid (HP.out i hil);have HX1:=hid (HP.out (i+1) hi);have TK:=hid (mx_ (q:=apQ R t) (t:=t) hi);rw[TK.out] at HX1;have hz:=av_ wr (.cells #[.int .i64 (bd_ R).1[i].1,.int .i64 (bd_ R).1[i].2.kind,.string (bd_ R).1[i].2.name,.int .i64 (bd_ R).1[i].2.n,.slice ya (bd_ R).1[i].2.args.length yc] 39);have b5:=B5.new wr (bd_ R).1[i].1 (bd_ R).1[i].2 ya yc;have hwl:∀ b,Lt w.heap.size b→b<wr.heap.size:=fun b h=>by have:=hM.g.size;have h':b<w.heap.size:=h;omega
          have K1:=hid (hK.low hwl hz);have M1:=hid (hM.low' hz);have XU:=hid ((h2.keep fun b hb=>hz.block b (hwl b hb)).mono (S':=SF w.heap.size (wr.heap.size+1)) fun b hb=>.inl hb);have MTS:Hid (a8_ (mt (apQ R t+1+(i:Int)))):=hid (sh_ (by omega) (by omega)).small;have SZ:Hid (w.heap.size+2≤wr.heap.size):=hid hM.s;have k4:=M1.out.k;obtain⟨x0,x1,x2,x3⟩:=k4.c03;have c0:=b5.c0;have c1:=b5.c1;have c2:=b5.c2;have c3:=b5.c3;have c4:=b5.c4;clear hcc h1 h2 hb hK hM hz b5 hwl k4;generalize (bd_ R).1[i]=x at *;generalize hX:(my_ (apQ R t) ((bd_ R).1.take i) t).1=X at *;have TK2:=hid TK.out;clear hX TK;have CF:=hid (fl_ x.1 (mt (apQ R t+1+(i:Int))) X (SF w.heap.size (wr.heap.size+1)) xa none xc 0 (wr.alloc (.cells #[.int .i64 x.1,.int .i64 x.2.kind,.string x.2.name,.int .i64 x.2.n,.slice ya x.2.args.length yc] 39)) HX.out.1 MTS.out.1 HX.out.2.1 MTS.out.2.1 (M1.out.a.mono fun b hb=>hb.imp id fun h=>⟨h.1,by have:=h.2;simpa using this⟩) (.nil _ _) (fun b hb=>by have h2:=SZ.out;rcases hb with h|h;simp;omega;have:=h.2;simpa using this) (ah_ HT.out M1.out.g));unfold TP tv at CF;go_wp2_with fail;refine CF.out.mono ?_;rintro e w6 ⟨za,zc,rfl,hA6,hb6⟩;have K6:=hid (K1.out.low (fun b h=>by have h':b<w.heap.size:=h;have:=SZ.out;simp;omega) hb6);have M6:=hid ((M1.out.low' hb6).put (fun _ h=>h) (hA6.mono fun b hb=>by
            rcases hb with (h|h)|h
            · exact .inl h
            · exact .inr ⟨h.1,by have:=h.2;have:=hb6.size;simp at *;omega⟩
            · exact .inr ⟨by have:=SZ.out;have:=h.1;simp at *;omega,h.2⟩))
          have L6:=hid (M1.out.low' hb6);clear hA6 hb6 CF x0 x1 x2 x3 c0 c1 c2 c3 c4 q0 q1 q2 q3 q4;have k6:=L6.out.k;obtain⟨x0,x1,x2,x3⟩:=k6.c03;obtain⟨g0,g1,g2,g3⟩:=k6.f03;clear k6;go_wp2;go_roundw
          case measure=>simp[intOf];omega
          case rel=>exact⟨i+1,za,zc,by go_num,by omega,K6.out.off4 (Nat.lt_succ_of_lt (Nat.lt_succ_self _)) (fun b h=>h),by rw[TK2.out];exact M6.out⟩
        · obtain rfl:i=(bd_ R).1.length:=by omega
          rw[List.take_length] at hM;have K5:=hid hK;have M5:Hid (FlM (Lt w.heap.size) w wr (lI_ (apQ R t) ((bd_ R).1.take 0) (apP R t)).1 xa xc):=hid hM;clear hK hM hi hil K3 M3;go_wp2
          go_loopw [63] (fun iv wr=>∃ (i:Nat) (xa:OA_) (xc:Nat),iv=.int .i64 (i:Int)∧i≤(bd_ R).1.length∧ez_ (Lt w.heap.size) (w.heap.size+2) wr (.slice oa (bd_ R).1.length oc) (bd_ R).1 ps∧FlM (Lt w.heap.size) w wr (lI_ (apQ R t) ((bd_ R).1.take i) (apP R t)).1 xa xc) (fun iv _=>(bd_ R).1.length - (intOf iv).toNat)
          case atStart=>exact⟨0,xa,xc,rfl,Nat.zero_le _,K5.out,M5.out⟩
          case round =>
            obtain⟨i,xa,xc,rfl,hil,hK,hM⟩:=hrel;have i0:(0:Int)≤(i:Int):=by omega
            by_cases hi:i<(bd_ R).1.length
            · obtain⟨b,off,hov,hb,hcc⟩:∃ b off,oa=some ⟨b,off,none⟩∧b<wr.heap.size∧∀ i (h:i<(bd_ R).1.length),∃ xa xc,(∀ j u,j<5→(eZ_ (bd_ R).1[i] (.slice xa (bd_ R).1[i].2.args.length xc))[j]? = some u→wr.cell? ⟨b,off+i*5+j,none⟩=some u)∧aa_ (Lt w.heap.size) wr (.slice xa (bd_ R).1[i].2.args.length xc) (bd_ R).1[i].2.args:=hK.cells5 (by omega)
              subst hov;obtain⟨ya,yc,h1,h2⟩:=hcc i hi;have i1:(i:Int)<((bd_ R).1.length:Int):=(by omega);have i2:(i:Int)<100:=(by have:=FL.out;omega);have q0:wr.cell? ⟨b,off+i*5,none⟩=some (.int .i64 (bd_ R).1[i].1):=h1 0 _ (by omega) rfl;have q1:=h1 1 _ (by omega) rfl;have q2:=h1 2 _ (by omega) rfl;have q3:=h1 3 _ (by omega) rfl;have q4:=h1 4 _ (by omega) rfl;have XS:=hid (FS.out _ (List.getElem_mem hi));have HX:=hid (HQ.out i hil);have HX1:=hid (HQ.out (i+1) hi);have TK:=hid (ne_ (q:=apQ R t) (t:=(apP R t)) hi);rw[TK.out] at HX1;have hz:=av_ wr (.cells #[.int .i64 (bd_ R).1[i].1,.int .i64 (bd_ R).1[i].2.kind,.string (bd_ R).1[i].2.name,.int .i64 (bd_ R).1[i].2.n,.slice ya (bd_ R).1[i].2.args.length yc] 39);have b5:=B5.new wr (bd_ R).1[i].1 (bd_ R).1[i].2 ya yc;have hwl:∀ b,Lt w.heap.size b→b<wr.heap.size:=fun b h=>by have:=hM.g.size;have h':b<w.heap.size:=h;omega
              have K1:=hid (hK.low hwl hz);have M1:=hid (hM.low' hz);have XU:=hid ((h2.keep fun b hb=>hz.block b (hwl b hb)).mono (S':=SF w.heap.size (wr.heap.size+1)) fun b hb=>.inl hb);have MTS:Hid (a8_ (mt (apQ R t+1+(i:Int)))):=hid (sh_ (by omega) (by omega)).small;have SZ:Hid (w.heap.size+2≤wr.heap.size):=hid hM.s;have k4:=M1.out.k;obtain⟨x0,x1,x2,x3⟩:=k4.c03;have c0:=b5.c0;have c1:=b5.c1;have c2:=b5.c2;have c3:=b5.c3;have c4:=b5.c4;clear hcc h1 h2 hb hK hM hz b5 hwl k4;generalize (bd_ R).1[i]=x at *;generalize hX:(lI_ (apQ R t) ((bd_ R).1.take i) (apP R t)).1=X at *;have TK2:=hid TK.out;clear hX TK;have CF:=hid (fl_ (apQ R t+1+(i:Int)) x.2 X (SF w.heap.size (wr.heap.size+1)) xa ya xc yc (wr.alloc (.cells #[.int .i64 x.1,.int .i64 x.2.kind,.string x.2.name,.int .i64 x.2.n,.slice ya x.2.args.length yc] 39)) HX.out.1 XS.out.1.1 HX.out.2.1 XS.out.1.2.1 (M1.out.a.mono fun b hb=>hb.imp id fun h=>⟨h.1,by have:=h.2;simpa using this⟩) (XU.out) (fun b hb=>by have h2:=SZ.out;rcases hb with h|h;simp;omega;have:=h.2;simpa using this) (ah_ HT.out M1.out.g));unfold TP tv at CF;go_wp2_with fail;refine CF.out.mono ?_;rintro e w6 ⟨za,zc,rfl,hA6,hb6⟩;have K6:=hid (K1.out.low (fun b h=>by have h':b<w.heap.size:=h;have:=SZ.out;simp;omega) hb6);have M6:=hid ((M1.out.low' hb6).put (fun _ h=>h) (hA6.mono fun b hb=>by
                rcases hb with (h|h)|h
                · exact .inl h
                · exact .inr ⟨h.1,by have:=h.2;have:=hb6.size;simp at *;omega⟩
                · exact .inr ⟨by have:=SZ.out;have:=h.1;simp at *;omega,h.2⟩))
              have L6:=hid (M1.out.low' hb6);clear hA6 hb6 CF x0 x1 x2 x3 c0 c1 c2 c3 c4 q0 q1 q2 q3 q4;have k6:=L6.out.k;obtain⟨x0,x1,x2,x3⟩:=k6.c03;obtain⟨g0,g1,g2,g3⟩:=k6.f03;clear k6;go_wp2;go_roundw
              case measure=>simp[intOf];omega
              case rel=>exact⟨i+1,za,zc,by go_num,by omega,K6.out.off4 (Nat.lt_succ_of_lt (Nat.lt_succ_self _)) (fun b h=>h),by rw[TK2.out];exact M6.out⟩
            · obtain rfl:i=(bd_ R).1.length:=by omega
              rw[List.take_length] at hM;have hM':FlM (Lt w.heap.size) w wr (apF R t) xa xc:=hM;have MR:=hid hM';obtain⟨y0,y1,y2,y3⟩:=hM'.z.c03;obtain⟨fz0,fz1,fz2,fz3⟩:=hM'.z.f03;have k4:=hM'.k;obtain⟨x0,x1,x2,x3⟩:=k4.c03;clear hK hM hM' k4;generalize apF R t=x at *;go_wp2;have q:=MR.out.z.set4 (.int .i64 x.kind) (.string x.name) (.int .i64 x.n) (.slice xa x.args.length xc);refine bodyPost_ret (v:=tv x xa xc) (by simp[results,Tryz.results28,go_sem,tv,q.c0,q.c1,q.c2,q.c3]) rfl ?_;have off:∀ b,b≠w.heap.size+1→((((wr.setCell ⟨w.heap.size+1,0,none⟩ (.int .i64 x.kind)).setCell ⟨w.heap.size+1,1,none⟩ (.string x.name)).setCell ⟨w.heap.size+1,2,none⟩ (.int .i64 x.n)).setCell ⟨w.heap.size+1,3,none⟩ (.slice xa x.args.length xc)).heap[b]? = wr.heap[b]? := fun b hb=>by
                rw[aC_ _ _ _ _ hb,aC_ _ _ _ _ hb,aC_ _ _ _ _ hb,aC_ _ _ _ _ hb]
              have hsz4:((((wr.setCell ⟨w.heap.size+1,0,none⟩ (.int .i64 x.kind)).setCell ⟨w.heap.size+1,1,none⟩ (.string x.name)).setCell ⟨w.heap.size+1,2,none⟩ (.int .i64 x.n)).setCell ⟨w.heap.size+1,3,none⟩ (.slice xa x.args.length xc)).heap.size=wr.heap.size:=(by simp);refine⟨xa,xc,rfl,?_,(((MR.out.g.setCell (p:=⟨w.heap.size+1,0,none⟩) (Nat.le_succ _) _).setCell (p:=⟨w.heap.size+1,1,none⟩) (Nat.le_succ _) _).setCell (p:=⟨w.heap.size+1,2,none⟩) (Nat.le_succ _) _).setCell (p:=⟨w.heap.size+1,3,none⟩) (Nat.le_succ _) _⟩;unfold AtW;rw[hsz4];exact (MR.out.a.keep fun b hb=>off b (by rcases hb with h|h;have h':b<w.heap.size:=h;omega;have:=h.1;omega)).mono fun b hb=>by
                have:=MR.out.s;show b<wr.heap.size
                rcases hb with h|h
                · have h':b<w.heap.size:=h;omega
                · exact h.2
end
section
theorem iY_:∀ (l:List Int) (a:Int),a≤l.foldl max a∧(∀ x∈l,x≤l.foldl max a)∧∀ B:Int,a≤B→(∀ x∈l,x≤B)→l.foldl max a≤B:=by
 intro l
 induction l with
 | nil=>intro a;exact⟨Int.le_refl _,(fun x h=>by cases h),fun B h _=>h⟩
 | cons y l ih =>
  intro a;rw[List.foldl_cons];obtain⟨h1,h2,h3⟩:=ih (max a y);refine⟨by omega,fun x hx=>?_,fun B hB hl=>h3 B (by have:=hl y (by simp);omega) fun x hx=>hl x (by simp[hx])⟩
  rcases List.mem_cons.1 hx with rfl|hx
  ·omega
  ·exact h2 x hx
theorem kw_ (t:Ty):0≤mxT t∧∀ m∈az_ t,m≤mxT t:=by
 unfold mxT Lib.maxOf;obtain⟨_,h2,_⟩:=iY_ (az_ t++[0]) ((az_ t++[0]).headD 0);exact⟨h2 0 (by simp),fun m hm=>h2 m (by simp[hm])⟩
theorem pF_ {t:Ty}{B:Int}(hB:0≤B)(h:∀ m∈az_ t,m≤B):mxT t≤B:=by
 unfold mxT Lib.maxOf;have hall:∀ x∈az_ t++[0],x≤B:=fun x hx=>by
  rcases List.mem_append.1 hx with hx|hx
  ·exact h x hx
  ·rw[List.mem_singleton.1 hx];exact hB
 refine (iY_ _ _).2.2 B ?_ hall;cases hm:az_ t++[0] with
 | nil=>exact hB
 | cons y l=>exact hall y (by rw[hm];simp)
structure Fd (R:Kn)(p:Kn × Int)(B:Int):Prop where
 lk:∀ x,lkK p.1 x=lkK R x
 q0:0≤p.2
 qB:p.2≤B
 ge:∀ e∈p.1,e.1≤p.2∧mxT e.2≤p.2
theorem m8_ (A:Kn)(x:Int × Ty)(m:Int):lkK (A++[x]) m=match lkK A m with|some u=>some u|none=>if x.1=m then some x.2 else none:=by
 unfold lkK;rw[List.find?_append];cases hf:A.find? (fun x=>x.1==m) with
 | none =>
  by_cases e:x.1=m
  ·simp[e]
  ·have:(x.1==m)=false:=beq_eq_false_iff_ne.2 e
   simp[e,this]
 | some y=>rfl
theorem sz_ {F:Kn}{m:Int} : o0_ F m=true↔lkK F m≠none:=by
 unfold o0_;rw[Ne,b6_,Classical.not_not,List.any_eq_true]
 constructor
 ·rintro ⟨x,hx,e⟩;exact List.mem_map.2 ⟨x,hx,by simpa using e⟩
 ·intro h;obtain⟨x,hx,e⟩:=List.mem_map.1 h;exact⟨x,hx,by simpa using e⟩
theorem pN_ {B:Int}(hB:0≤B)(R:Kn)(h:∀ e∈R,e.1≤B∧∀ m∈az_ e.2,m≤B):Fd R (bd_ R) B:=by
 have key:∀ (S P:Kn) (p:Kn × Int),(∀ e∈S,e.1≤B∧∀ m∈az_ e.2,m≤B)→Fd P p B→Fd (P++S) (S.foldl lw_ p) B:=by
  intro S
  induction S with
  | nil=>intro P p _ h;rw[List.append_nil];exact h
  | cons x S ih =>
   intro P p hS hp;rw[List.foldl_cons,show P++x :: S=(P++[x])++S from by simp];refine ih (P++[x]) (lw_ p x) (fun e he=>hS e (by simp[he])) ?_;unfold lw_
   by_cases hd:o0_ p.1 x.1=true
   ·rw[if_pos hd]
    refine⟨fun m=>?_,hp.q0,hp.qB,hp.ge⟩;rw[m8_,hp.lk];cases hl:lkK P m with
    | some u=>rfl
    | none =>
     have:¬ x.1=m:=fun e=>by
      have:=sz_.1 hd;rw[e,hp.lk,hl] at this;exact this rfl
     simp only;rw[if_neg this]
   ·rw[if_neg hd]
    have hx:=hS x (by simp);have h1:=kw_ x.2;have h2:=pF_ hB hx.2;have h3:p.2≤mxI (mxI p.2 x.1) (mxT x.2)∧x.1≤mxI (mxI p.2 x.1) (mxT x.2)∧mxT x.2≤mxI (mxI p.2 x.1) (mxT x.2)∧mxI (mxI p.2 x.1) (mxT x.2)≤B:=by
     have:=hp.qB;have:=hx.1;unfold mxI
     split<;>split<;>omega
    refine⟨fun m=>by rw[m8_,m8_,hp.lk],by have:=hp.q0;have:=h3.1;simp only;omega,h3.2.2.2,fun e he=>?_⟩
    rcases List.mem_append.1 he with he|he
    ·have:=hp.ge e he;exact⟨by simp only;omega,by simp only;omega⟩
    ·rw[List.mem_singleton.1 he];exact⟨h3.2.1,h3.2.2.1⟩
 have:=key R [] ([],0) h ⟨fun _=>rfl,Int.le_refl _,hB,fun e he=>by cases he⟩;rwa [List.nil_append] at this
def lkD (R:Kn):Int→Ty:=fun x=>match lkK R x with|some u=>dbT [] u|none=>mt x
def rho (q:Int):Kn→Nat→Int→Ty
 | [],_,x=>mt x
 | e :: F,k,x=>if x=e.1 then mt (q+1+(k:Int)) else rho q F (k+1) x
def tau (q:Int):Kn→Nat→Int→Ty
 | [],_,x=>mt x
 | e :: F,k,x=>if x=q+1+(k:Int) then dbT [] e.2 else tau q F (k+1) x
theorem qn_ {q:Int} : ∀ (F:Kn) (k:Nat) (x:Int),(∀ e∈F,e.1≤q)→q<x→rho q F k x=mt x:=by
 intro F
 induction F with
 | nil=>intro k x _ _;rfl
 | cons e F ih=>intro k x h hx;rw[rho,if_neg (by have:=h e (by simp);omega)];exact ih _ _ (fun y hy=>h y (by simp[hy])) hx
theorem iv_ {q:Int} : ∀ (F:Kn) (k:Nat) (x:Int),x≤q+(k:Int)→tau q F k x=mt x:=by
 intro F
 induction F with
 | nil=>intro k x _;rfl
 | cons e F ih=>intro k x hx;rw[tau,if_neg (by omega)];exact ih _ _ (by omega)
theorem sC_ {q:Int} : ∀ (F:Kn) (k:Nat) (t:Ty),Std t→0≤q→q<100000000000000000→k+F.length≤1000→(∀ e∈F,e.1≤q)→Std (F.foldl (pu_ q) (t,k)).1∧dbT [] (F.foldl (pu_ q) (t,k)).1=fl (rho q F k) (dbT [] t):=by
 intro F
 induction F with
 | nil=>intro k t hs _ _ _ _;exact⟨hs,(gB_ _ (d8_ t [] hs) fun _ _=>rfl).symm⟩
 | cons e F ih =>
  intro k t hs h0 h1 hl he;rw[List.length_cons] at hl;have hm:Std (mt (q+1+(k:Int))):=(a4_ _).2 ⟨.inr (.inl ⟨rfl,rfl,rfl,by show 0≤q+1+(k:Int);omega,by show q+1+(k:Int) < _;omega⟩),fun a ha=>by cases ha⟩;rw[List.foldl_cons];show Std (F.foldl (pu_ q) (bp_ e.1 (mt (q+1+(k:Int))) t,k+1)).1∧_;obtain⟨a1,a2⟩:=ih (k+1) (bp_ e.1 (mt (q+1+(k:Int))) t) (cA_ _ _ _ hs hm) h0 h1 (by omega) fun y hy=>he y (by simp[hy]);refine⟨a1,?_⟩;rw[show pu_ q (t,k) e=(bp_ e.1 (mt (q+1+(k:Int))) t,k+1) from rfl,a2,cl_ _ _ _ hs,mb_ _ _ _ (d8_ t [] hs),fk_];refine bP_ _ fun x _=>?_;rw[rho]
  by_cases ex:x=e.1
  ·subst ex
   rw[bm_,if_pos rfl,show dbT [] (mt (q+1+(k:Int)))=mt (q+1+(k:Int)) from rfl,cH_,qn_ F _ _ (fun y hy=>he y (by simp[hy])) (by omega)]
  ·rw[ch_ _ ex,if_neg ex,cH_]
theorem sD_ {q:Int} : ∀ (F:Kn) (k:Nat) (t:Ty),Std t→(∀ e∈F,Std e.2∧mxT e.2≤q)→Std (F.foldl (pM_ q) (t,k)).1∧dbT [] (F.foldl (pM_ q) (t,k)).1=fl (tau q F k) (dbT [] t):=by
 intro F
 induction F with
 | nil=>intro k t hs _;exact⟨hs,(gB_ _ (d8_ t [] hs) fun _ _=>rfl).symm⟩
 | cons e F ih =>
  intro k t hs he;obtain⟨es,em⟩:=he e (by simp);rw[List.foldl_cons];show Std (F.foldl (pM_ q) (bp_ (q+1+(k:Int)) e.2 t,k+1)).1∧_;obtain⟨a1,a2⟩:=ih (k+1) (bp_ (q+1+(k:Int)) e.2 t) (cA_ _ _ _ hs es) fun y hy=>he y (by simp[hy]);refine⟨a1,?_⟩;rw[show pM_ q (t,k) e=(bp_ (q+1+(k:Int)) e.2 t,k+1) from rfl,a2,cl_ _ _ _ hs,mb_ _ _ _ (d8_ t [] hs),fk_];refine bP_ _ fun x _=>?_;rw[tau]
  by_cases ex:x=q+1+(k:Int)
  ·subst ex
   rw[bm_,if_pos rfl];exact gB_ _ (d8_ e.2 [] es) fun m hm=>iv_ F _ _ (by
    have:=(kw_ e.2).2 m ((a1_ es).2 hm);omega)
  ·rw[ch_ _ ex,if_neg ex,cH_]
theorem p9_ {q:Int} : ∀ (F:Kn) (k:Nat) (x:Int),(∀ e∈F,e.1≤q)→x≤q→fl (tau q F k) (rho q F k x)=lkD F x∧∃ y,rho q F k x=mt y∧(y=x∨q+1+(k:Int)≤y):=by
 intro F
 induction F with
 | nil=>intro k x _ _;exact⟨cH_ _ x,x,rfl,.inl rfl⟩
 | cons e F ih =>
  intro k x he hx
  by_cases ex:x=e.1
  ·have e1:rho q (e :: F) k x=mt (q+1+(k:Int)):=by rw[rho,if_pos ex]
   refine⟨?_,_,e1,.inr (Int.le_refl _)⟩;rw[e1,cH_,tau,if_pos rfl];unfold lkD lkK;rw[List.find?_cons,show (e.1==x)=true from by simp[ex]];rfl
  ·have e1:rho q (e :: F) k x=rho q F (k+1) x:=by rw[rho,if_neg ex]
   obtain⟨h1,y,hy,hc⟩:=ih (k+1) x (fun z hz=>he z (by simp[hz])) hx;rw[e1];refine⟨?_,y,hy,hc.imp id fun h=>by omega⟩;have e2:lkD (e :: F) x=lkD F x:=by
    unfold lkD lkK;rw[List.find?_cons,show (e.1==x)=false from beq_eq_false_iff_ne.2 fun h=>ex h.symm]
   rw[e2,← h1,hy,cH_,cH_,tau,if_neg]
   rcases hc with h|h<;>omega
structure Ni (NL:List ByteArray)(fr:Nat)(X:Ty):Prop where
 st:Std X
 gd:a5_ X
 vn:Al (VOk NL fr) (dbT [] X)
 sz:(dbT [] X).size≤LIM
section
variable {NL : List ByteArray} {fr : Nat}
theorem Ni.small (hl:NL.length+fr≤3000000){X:Ty}(h:Ni NL fr X):a8_ X:=by
 have h1:=(of_decide_eq_true (nT_ hl h.st ⟨h.sz,h.vn⟩:smB X=true));exact⟨h.gd,by have:=h1.1;omega,by have:=h1.2;omega⟩
theorem ni_mt {m:Int}(h0:0≤m)(h1:m<1000000000000000000):Ni NL fr (mt m) :=
 ⟨(a4_ _).2 ⟨.inr (.inl ⟨rfl,rfl,rfl,h0,h1⟩),fun a ha=>by cases ha⟩,⟨(bK_ _).2 ⟨.inr (.inl ⟨rfl,rfl,h0,h1⟩),fun a ha=>by cases ha⟩,(b9_ _).2 ⟨⟨fun e=>absurd (show (2:Int)=5 from e) (by decide),by show (0:Nat)≤64;omega⟩,fun a ha=>by cases ha⟩⟩,iq_ NL fr m,by show 1≤LIM;unfold LIM;omega⟩
theorem Ni.fill {X u:Ty}(h:Ni NL fr X)(hu:Ni NL fr u)(m:Int)(hz:(fl (one m (dbT [] u)) (dbT [] X)).size≤LIM):Ni NL fr (bp_ m u X):=by
 have e:dbT [] (bp_ m u X)=fl (one m (dbT [] u)) (dbT [] X):=by rw[cl_ _ _ _ h.st,mb_ _ _ _ (d8_ X [] h.st)]
 have h1:=h.sz;have h2:=hu.sz;rw[bL_ X h.st] at h1;rw[bL_ u hu.st] at h2;unfold LIM at h1 h2;refine⟨cA_ _ _ _ h.st hu.st,dB_ m u X h.gd hu.gd (by omega) (by omega),?_,by rw[e];exact hz⟩;rw[e];refine g3_ (gt_ _ _) _ h.vn fun x _=>?_;unfold one
 split
 ·exact hu.vn
 ·exact iq_ _ _ _
theorem pD_ {q:Int} : ∀ (F:Kn) (k:Nat) (t:Ty),Ni NL fr t→0≤q→q<100000000000000000→k+F.length≤1000→Ni NL fr (F.foldl (pu_ q) (t,k)).1:=by
 intro F
 induction F with
 | nil=>intro k t h _ _ _;exact h
 | cons e F ih =>
  intro k t h h0 h1 hl;rw[List.length_cons] at hl;rw[List.foldl_cons];refine ih (k+1) (bp_ e.1 (mt (q+1+(k:Int))) t) (h.fill (ni_mt (by omega) (by omega)) _ ?_) h0 h1 (by omega);refine co_ (co_ (cz_ (g:=mt) _ fun x _=>?_) (Nat.le_of_eq (by rw[gB_ _ (d8_ t [] h.st) fun _ _=>rfl]))) h.sz;unfold one
  split<;>exact aA_ _
theorem pE_ {q:Int} : ∀ (F:Kn) (k:Nat) (t:Ty),Ni NL fr t→(∀ e∈F,Ni NL fr e.2∧mxT e.2≤q)→(fl (tau q F k) (dbT [] t)).size≤LIM→Ni NL fr (F.foldl (pM_ q) (t,k)).1:=by
 intro F
 induction F with
 | nil=>intro k t h _ _;exact h
 | cons e F ih =>
  intro k t h he hz;obtain⟨en,em⟩:=he e (by simp);rw[List.foldl_cons];have hone:(fl (one (q+1+(k:Int)) (dbT [] e.2)) (dbT [] t)).size≤LIM:=by
   refine co_ (cz_ _ fun x _=>?_) hz;rw[tau]
   by_cases ex:x=q+1+(k:Int)
   ·rw[ex,bm_,if_pos rfl];exact aA_ _
   ·rw[ch_ _ ex];exact ej_ _
  refine ih (k+1) (bp_ (q+1+(k:Int)) e.2 t) (h.fill en _ hone) (fun y hy=>he y (by simp[hy])) ?_;rw[cl_ _ _ _ h.st,mb_ _ _ _ (d8_ t [] h.st),fk_];refine co_ (Nat.le_of_eq (congrArg Ty.size (bP_ _ fun x _=>?_))) hz;rw[tau]
  by_cases ex:x=q+1+(k:Int)
  ·subst ex
   rw[bm_,if_pos rfl];exact gB_ _ (d8_ e.2 [] en.st) fun m hm=>iv_ F _ _ (by
    have:=(kw_ e.2).2 m ((a1_ en.st).2 hm);omega)
  ·rw[ch_ _ ex,if_neg ex,cH_]
theorem nU_ {q:Int} : ∀ (F:Kn) (k i:Nat) (x:Int),(tau q (F.take i) k x).size≤(tau q F k x).size:=by
 intro F
 induction F with
 | nil=>intro k i x;rw[List.take_nil];exact aA_ _
 | cons e F ih =>
  intro k i x;cases i with
  | zero=>exact ej_ _
  | succ i =>
   rw[List.take_succ_cons,tau,tau]
   split
   ·exact aA_ _
   ·exact ih _ _ _
theorem sN_ {R:Kn}{t:Ty}{B:Int}(hB:0≤B)(hB2:B≤10000000000000000)(hl:R.length≤100)(hR:∀ e∈R,Ni NL fr e.2∧0≤e.1∧e.1≤B∧∀ m∈az_ e.2,m≤B)(ht:Ni NL fr t)(htB:∀ m∈az_ t,m≤B)(hz:(fl (lkD R) (dbT [] t)).size≤LIM)(hn:NL.length+fr≤3000000) :
  (0≤apQ R t∧apQ R t<100000000000000000)∧(∀ i,i≤R.length→0≤(bd_ (R.take i)).2∧(bd_ (R.take i)).2<100000000000000000)∧(∀ i,i≤(bd_ R).1.length→a8_ (my_ (apQ R t) ((bd_ R).1.take i) t).1)∧(∀ i,i≤(bd_ R).1.length→a8_ (lI_ (apQ R t) ((bd_ R).1.take i) (apP R t)).1) ∧
   Ni NL fr (apF R t)∧dbT [] (apF R t)=fl (lkD R) (dbT [] t):=by
 have D:=pN_ hB R fun e he=>⟨(hR e he).2.2.1,(hR e he).2.2.2⟩;have h1:=kw_ t;have h2:=pF_ hB htB;have hq:(bd_ R).2≤apQ R t∧mxT t≤apQ R t∧apQ R t≤B:=by
  have:=D.qB;unfold apQ mxI
  split<;>omega
 have q0:0≤apQ R t:=by omega
 have q1:apQ R t<100000000000000000:=by omega
 have fl1:=hZ_ R;have fk:∀ e∈(bd_ R).1,e.1≤apQ R t:=fun e he=>by have:=(D.ge e he).1;omega
 have fe:∀ e∈(bd_ R).1,Ni NL fr e.2∧mxT e.2≤apQ R t:=fun e he=>⟨(hR e (kF_ e he)).1,by have:=(D.ge e he).2;omega⟩;have np:Ni NL fr (apP R t):=pD_ (bd_ R).1 0 t ht q0 q1 (by omega);obtain⟨_,dp⟩:=sC_ (q:=apQ R t) (bd_ R).1 0 t ht.st q0 q1 (by omega) fk;have dp':dbT [] (apP R t)=fl (rho (apQ R t) (bd_ R).1 0) (dbT [] t):=dp;have hcomp:fl (tau (apQ R t) (bd_ R).1 0) (dbT [] (apP R t))=fl (lkD R) (dbT [] t):=by
  rw[dp',fk_];refine bP_ _ fun x hx=>?_;have hx2:x≤apQ R t:=by have:=h1.2 x ((a1_ ht.st).2 hx);omega
  rw[(p9_ (bd_ R).1 0 x fk hx2).1];unfold lkD;rw[D.lk]
 have nf:Ni NL fr (apF R t):=pE_ (bd_ R).1 0 (apP R t) np fe (by rw[hcomp];exact hz);obtain⟨_,df⟩:=sD_ (q:=apQ R t) (bd_ R).1 0 (apP R t) np.st fun e he=>⟨(fe e he).1.st,(fe e he).2⟩;refine⟨⟨q0,q1⟩,fun i _=>?_,fun i _=>(pD_ ((bd_ R).1.take i) 0 t ht q0 q1 (by rw[List.length_take];omega)).small hn,fun i _=>(pE_ ((bd_ R).1.take i) 0 (apP R t) np (fun e he=>fe e (List.mem_of_mem_take he)) ?_).small hn,nf,by show dbT [] (apF R t)=_;rw[show dbT [] (apF R t)=fl (tau (apQ R t) (bd_ R).1 0) (dbT [] (apP R t)) from df,hcomp]⟩
 ·have D2:=pN_ hB (R.take i) fun e he=>⟨(hR e (List.mem_of_mem_take he)).2.2.1,(hR e (List.mem_of_mem_take he)).2.2.2⟩
  exact⟨D2.q0,by have:=D2.qB;omega⟩
 ·refine co_ (cz_ _ fun x _=>nU_ _ _ _ _) (by rw[hcomp];exact hz)
end
def ddI:List Int→List Int
 | []=>[]
 | x :: l=>if x∈ddI l then ddI l else x :: ddI l
theorem nn_:∀ {l:List Int} {x:Int},x∈ddI l↔x∈l:=by
 intro l
 induction l with
 | nil=>intro x;exact Iff.rfl
 | cons y l ih =>
  intro x;rw[ddI]
  split
  ·next h =>
   rw[ih,List.mem_cons];exact⟨.inr,fun h2=>h2.elim (fun e=>by rw[e];exact ih.1 h) id⟩
  ·rw[List.mem_cons,List.mem_cons,ih]
theorem nm_:∀ l:List Int,(ddI l).Nodup:=by
 intro l
 induction l with
 | nil=>exact List.nodup_nil
 | cons y l ih =>
  rw[ddI]
  split
  ·exact ih
  ·next h=>exact List.nodup_cons.2 ⟨h,ih⟩
theorem si_:∀ (t:Ty) (env:List ByteArray),Std t→mn (dbT env t)≤nsT t:=by
 intro t
 induction t using Ty.ind with
 | h t ih =>
  intro env hs;have hl:∀ (l:List Ty) (env:List ByteArray),(∀ a∈l,a∈t.args)→mnL (l.map (dbT env))≤nsL l:=by
   intro l
   induction l with
   | nil=>intro _ _;exact aA_ _
   | cons a l ihl =>
    intro env hm;rw[List.map_cons,mnL,nsL];have:=ih a (hm a (by simp)) env (hs.args a (hm a (by simp)));have:=ihl env fun b hb=>hm b (by simp[hb]);omega
  rw[iN_]
  by_cases h5:t.kind=5
  ·rw[aN_ _ _ h5,oJ_]
   show (if (5:Int)=2 then 1 else mnL (t.args.map _))≤_;rw[if_neg (by decide)];have:=hl t.args (t.name :: env) fun a ha=>ha;omega
  ·by_cases h1:t.kind=1
   ·rw[aX_ _ _ h1,if_pos (.inl h1),oJ_]
    unfold dd_;cases ixN env t.name with
    | none=>rw[if_neg (show (Ty.mk 1 t.name t.n []).kind≠2 from by show (1:Int)≠2;decide)];exact Nat.zero_le _
    | some i=>rw[if_neg (show (Ty.mk 6 emp (i:Int) []).kind≠2 from by show (6:Int)≠2;decide)];exact Nat.zero_le _
   ·rw[ax_ _ _ h1 h5,oJ_]
    show (if t.kind=2 then 1 else mnL (t.args.map _))≤_
    by_cases h2:t.kind=2
    ·rw[if_pos h2,if_pos (.inr h2)];omega
    ·rw[if_neg h2]
     have:=hl t.args env fun a ha=>ha;omega
theorem nF_:∀ t:Ty,ac t≤t.size:=by
 intro t
 induction t using Ty.ind with
 | h t ih =>
  rw[gQ_,t.size_eq];have:∀ l:List Ty,(∀ a∈l,ac a≤a.size)→acL l≤ai_ l:=by
   intro l
   induction l with
   | nil=>intro _;exact aA_ _
   | cons a l ihl =>
    intro h;rw[acL,ai_];have:=h a (by simp);have:=ihl fun b hb=>h b (by simp[hb]);omega
  have:=this _ ih
  split<;>omega
theorem po_ {NL:List ByteArray} : ∀ (t:Ty) (env:List ByteArray),Mk t→(∀ s,fvT s t→s∉env→s∈NL)→Al (VOk NL 0) (dbT env t):=by
 intro t
 induction t using Ty.ind with
 | h t ih =>
  intro env hm hf;have hlx:=(b7_ t).1 hm.2
  by_cases h5:t.kind=5
  ·rw[aN_ _ _ h5]
   refine .mk _ ⟨fun h=>absurd (show (5:Int)=1 from h) (by decide),fun h=>absurd (show (5:Int)=3 from h) (by decide)⟩ fun a ha=>?_;obtain⟨b,hb,rfl⟩:=List.mem_map.1 ha;refine ih b hb _ ⟨hm.1.args b hb,hlx.2 b hb⟩ fun s hs hn=>?_;rw[List.mem_cons,not_or] at hn;exact hf s ((aG_ s t).2 (.inr ⟨⟨b,hb,hs⟩,fun e=>hn.1 e.2.symm⟩)) hn.2
  ·by_cases k1:t.kind=1
   ·rw[aX_ _ _ k1]
    unfold dd_;cases hi:ixN env t.name with
    | some i=>exact .mk _ ⟨fun h=>absurd (show (6:Int)=1 from h) (by decide),fun h=>absurd (show (6:Int)=3 from h) (by decide)⟩ fun a ha=>by cases ha
    | none=>exact .mk _ ⟨fun _=>.inl (hf t.name ((aG_ _ t).2 (.inl ⟨k1,rfl⟩)) ((de_ _ _).1 hi)),fun h=>absurd (show (1:Int)=3 from h) (by decide)⟩ fun a ha=>by cases ha
   ·rw[ax_ _ _ k1 h5]
    refine .mk _ ⟨fun h=>absurd h k1,fun h=>?_⟩ fun a ha=>?_
    ·obtain⟨c1,c2⟩:=hlx.1.2.1 h
     refine⟨⟨fe_ c1,fun c hc=>?_⟩,c2⟩;have hin:=c1.inner c hc;unfold inW;rw[Bool.not_eq_true',Bool.or_eq_false_iff,Bool.or_eq_false_iff,Bool.or_eq_false_iff,Bool.or_eq_false_iff];simp only[beq_eq_false_iff_ne];refine⟨⟨⟨⟨?_,?_⟩,?_⟩,?_⟩,?_⟩<;>(rintro rfl;exact absurd hin (by decide))
    ·obtain⟨b,hb,rfl⟩:=List.mem_map.1 ha
     exact ih b hb env ⟨hm.1.args b hb,hlx.2 b hb⟩ fun s hs hn=>hf s ((aG_ s t).2 (.inr ⟨⟨b,hb,hs⟩,fun e=>h5 e.1⟩)) hn
theorem es_ {t:Ty}(h:Mk t):∀ m∈az_ t,0≤m∧m<1000000:=by
 have key:∀ t:Ty,Mk t→∀ m,¬ noP (bo_ m) t→0≤m∧m<1000000:=by
  intro t
  induction t using Ty.ind with
  | h t ih =>
   intro h m hn;rw[gr_] at hn
   by_cases hi:bo_ m (iO_ t)=true
   ·have hi:(t.kind==2&&t.n==m)=true:=hi
    rw[Bool.and_eq_true,beq_iff_eq,beq_iff_eq] at hi;obtain⟨h2,rfl⟩:=hi;exact⟨(h.1.k2 h2).2.2.1,((b7_ t).1 h.2).1.2.2 h2⟩
   ·have:∃ a∈t.args,¬ noP (bo_ m) a:=Classical.byContradiction fun hh=>hn ⟨by simpa using hi,fun a ha=>Classical.byContradiction fun hx=>hh ⟨a,ha,hx⟩⟩
    obtain⟨a,ha,hx⟩:=this;exact ih a ha ⟨h.1.args a ha,((b7_ t).1 h.2).2 a ha⟩ m hx
 exact fun m hm=>key t h m ((dx_ m t).1 hm)
theorem Dst.errs {W:Wk}{l r:Ty}{x:Except Nat Wk}(h:Dst W l r x):∀ er,x=.error er→40≤er∧er≤43:=by
 intro er e;cases h with
 | same|learn|opn|parts=>cases e
 | occurs=>injection e with e;omega
 | poly=>injection e with e;omega
 | esc=>injection e with e;omega
 | clash=>injection e with e;omega
theorem ji_.errs {W:Wk}{res:Except Nat Kn}(h:ji_ W res):∀ er,res=.error er→40≤er∧er≤43:=by
 induction h with
 | done W h=>intro er e;cases e
 | err W e es er h hd=>intro er' e';injection e' with e';subst e';exact hd.errs _ rfl
 | step W W' e es res h hd hr ih=>exact ih
theorem r3_ {L:List Int}{n:Int→Nat}{NL:List ByteArray}{A0:Nat}(C:Co L n NL A0){W:Wk}(kv:∀ x u,lkK W.K x=some u→Std u∧a5_ u)(D:DI L n NL A0 W){m:Int}{u:Ty}(hu:lkK W.K m=some u):Std (sg W.K m)∧a5_ (sg W.K m):=by
 have hkl:=D.klen;have hll:=C.ll;have hnl:=C.nl;have hfr:W.fresh≤A0:=by have:=D.fr;omega
 obtain⟨us,ug⟩:=kv m u hu;obtain⟨e1,_,up⟩:=D.ko.facts.bnd m u hu;have ed:dbT [] u=u:=ck_ u us up.no5;have hvu:Al (VOk NL W.fresh) u:=gP_ (f:=sg W.K) (fun t l h=>h) (fun t h=>⟨fun h1=>by omega,fun h1=>by omega⟩) u up.dw (by rw[← e1];exact D.kn m);obtain⟨u',a1,a2,a3,a4⟩:=kI_ D.ko kv (NL:=NL) (fr:=W.fresh) (by omega) D.kn 99 0 u (by omega) us ug (fun z _=>rfl) (by rw[ed];exact hvu) (by rw[ed,← e1];exact ql_ C D m);rw[ed,← e1] at a2;have hp:dbT [] u'=u':=ck_ u' a3 ((np_ u' [] a3).1 (by rw[a2];exact (D.ko.facts.pr m).no5));rw[hp] at a2;rw[← a2];exact⟨a3,a4⟩
structure Es (es:List EqT):Prop where
 ok:∀ e∈es,QOk e
 ns:nsE es≤24
 ln:es.length≤16
def LE (es:List EqT):List Int:=ddI (es.flatMap fun e=>az_ e.1++az_ e.2)
def nE (es:List EqT)(m:Int):Nat:=(es.map fun e=>oc m (dbT [] e.1)+oc m (dbT [] e.2)).sum
def NLE (es:List EqT):List ByteArray:=es.flatMap fun e=>aj_ e.1++aj_ e.2
theorem l1_ {α : Type}{l:List α}{f g:α→Nat}(h:∀ x∈l,f x≤g x):(l.map f).sum≤(l.map g).sum:=by
 induction l with
 | nil=>exact aA_ _
 | cons x l ih =>
  rw[List.map_cons,List.map_cons,List.sum_cons,List.sum_cons];have:=h x (by simp);have:=ih fun y hy=>h y (by simp[hy]);omega
theorem l0_ {α : Type}{l:List α}{f:α→Nat}{x:α}(h:x∈l):f x≤(l.map f).sum:=by
 induction l with
 | nil=>cases h
 | cons y l ih =>
  rw[List.map_cons,List.sum_cons]
  rcases List.mem_cons.1 h with rfl|h
  ·omega
  ·have:=ih h;omega
theorem gj_ {α : Type}(l:List α)(c:Nat):(l.map fun _=>c).sum=l.length*c:=by
 induction l with
 | nil=>simp
 | cons y l ih=>rw[List.map_cons,List.sum_cons,ih,List.length_cons,Nat.add_mul];omega
theorem pX_ {es:List EqT}{e:EqT}(he:e∈es){m:Int}(h:m∈az_ e.1∨m∈az_ e.2):m∈LE es:=by
 unfold LE;rw[nn_,List.mem_flatMap];exact⟨e,he,List.mem_append.2 h⟩
theorem nO_ {es:List EqT}(E:Es es):∀ m∈LE es,1≤nE es m∧0≤m∧m<1000000:=by
 intro m hm;unfold LE at hm;rw[nn_,List.mem_flatMap] at hm;obtain⟨e,he,hm⟩:=hm;have hq:=E.ok e he;have h1:=l0_ (f:=fun e=>oc m (dbT [] e.1)+oc m (dbT [] e.2)) he;unfold nE
 rcases List.mem_append.1 hm with h|h
 ·have:=(a1_ hq.l.1.1).1 h
  exact⟨by omega,es_ hq.l.1 m h⟩
 ·have:=(a1_ hq.r.1.1).1 h
  exact⟨by omega,es_ hq.r.1 m h⟩
theorem sm_nE {L:List Int}(hn:L.Nodup):∀ es:List EqT,sm L (nE es)≤(es.map fun e=>mn (dbT [] e.1)+mn (dbT [] e.2)).sum:=by
 intro es
 induction es with
 | nil=>exact Nat.le_of_eq (hI_ fun _ _=>rfl)
 | cons e es ih =>
  have e1:sm L (nE (e :: es))=(sm L fun m=>oc m (dbT [] e.1))+(sm L fun m=>oc m (dbT [] e.2))+sm L (nE es):=by
   rw[← ke_,← ke_];congr 1
  rw[e1,List.map_cons,List.sum_cons];have:=pA_ hn (dbT [] e.1);have:=pA_ hn (dbT [] e.2);omega
theorem pW_ {es:List EqT}(E:Es es):sm (LE es) (nE es)≤24 :=
 co_ (sm_nE (nm_ _) es) (co_ (l1_ fun e he=>Nat.add_le_add (si_ e.1 [] (E.ok e he).l.1.1) (si_ e.2 [] (E.ok e he).r.1.1)) E.ns)
theorem pY_ {es:List EqT}(E:Es es):(LE es).length≤24:=by
 have h1:(LE es).length≤sm (LE es) (nE es):=by
  have:(LE es).length=sm (LE es) fun _=>1:=by
   unfold sm;rw[gj_];omega
  rw[this];exact qi_ fun m hm=>(nO_ E m hm).1
 have:=pW_ E;omega
theorem nL_ {es:List EqT}(E:Es es):(NLE es).length≤4000:=by
 unfold NLE;rw[List.length_flatMap];have h1:(es.map fun e=>(aj_ e.1++aj_ e.2).length).sum≤(es.map fun _=>240).sum:=l1_ fun e he=>by
  rw[List.length_append];have a:=(E.ok e he).l.2.1;have b:=(E.ok e he).r.2.1;have:=ba_ e.1;have:=ba_ e.2;omega
 rw[gj_] at h1;have:=E.ln;omega
theorem kO_ {es:List EqT}(E:Es es):rO_ (NLE es):=by
 intro s hs;unfold NLE at hs;obtain⟨e,he,hs⟩:=List.mem_flatMap.1 hs
 rcases List.mem_append.1 hs with h|h
 ·have:=ga_ (E.ok e he).l.1 s h;exact⟨this.2.1,this.1⟩
 ·have:=ga_ (E.ok e he).r.1 s h;exact⟨this.2.1,this.1⟩
theorem pP_ {es:List EqT}(E:Es es){e:EqT}(he:e∈es):Al (VOk (NLE es) 0) (dbT [] e.1)∧Al (VOk (NLE es) 0) (dbT [] e.2) :=
 ⟨po_ e.1 [] (E.ok e he).l.1 fun s hs _=>List.mem_flatMap.2 ⟨e,he,List.mem_append.2 (.inl ((bc_ s e.1).2 hs))⟩,
  po_ e.2 [] (E.ok e he).r.1 fun s hs _=>List.mem_flatMap.2 ⟨e,he,List.mem_append.2 (.inr ((bc_ s e.2).2 hs))⟩⟩
theorem oZ_ {es:List EqT}(E:Es es){e:EqT}(he:e∈es):Qs (LE es) (nE es) (dbT [] e.1)∧Qs (LE es) (nE es) (dbT [] e.2):=by
 have hq:=E.ok e he;have hs:=fun m=>l0_ (f:=fun e=>oc m (dbT [] e.1)+oc m (dbT [] e.2)) he;refine⟨⟨d8_ _ _ hq.l.1.1,by rw[bL_ _ hq.l.1.1];exact hq.l.2.1,fun m=>?_,fun m hm=>pX_ he (.inl ((a1_ hq.l.1.1).2 hm))⟩,d8_ _ _ hq.r.1.1,by rw[bL_ _ hq.r.1.1];exact hq.r.2.1,fun m=>?_,fun m hm=>pX_ he (.inr ((a1_ hq.r.1.1).2 hm))⟩
 ·have:=hs m;unfold nE;omega
 ·have:=hs m;unfold nE;omega
def AE (es:List EqT):Nat:=acE (es.map dbE)
theorem rC_ {es:List EqT}(E:Es es):AE es≤4000:=by
 unfold AE acE;rw[List.map_map];have h1:(es.map ((fun e:EqT=>ac e.1+ac e.2) ∘ dbE)).sum≤(es.map fun _=>240).sum:=l1_ fun e he=>by
  have hq:=E.ok e he;have a:=nF_ (dbT [] e.1);have b:=nF_ (dbT [] e.2);rw[bL_ _ hq.l.1.1] at a;rw[bL_ _ hq.r.1.1] at b;have:=hq.l.2.1;have:=hq.r.2.1;show ac (dbT [] e.1)+ac (dbT [] e.2)≤240;omega
 rw[gj_] at h1;have:=E.ln;omega
theorem ly_ {es:List EqT}(E:Es es):Co (LE es) (nE es) (NLE es) (AE es) :=
 ⟨by have:=pY_ E;omega,pW_ E,by have:=nL_ E;have:=rC_ E;omega,by have:=rC_ E;omega,kO_ E⟩
theorem sx_ {es:List EqT}(E:Es es):DI (LE es) (nE es) (NLE es) (AE es) ⟨[],es.map dbE,0⟩:=by
 refine⟨.nil,qz_,fun e he=>?_,fun x=>.inl rfl,fun x h=>absurd rfl h,fun x hx m hm=>?_,fun x=>iq_ _ _ _,by show 0+acE (es.map dbE)≤AE es;unfold AE;omega⟩
 ·obtain⟨y,hy,rfl⟩:=List.mem_map.1 he
  obtain⟨q1,q2⟩:=oZ_ E hy;obtain⟨v1,v2⟩:=pP_ E hy;exact⟨⟨q1.dw,v1,_,q1,rfl⟩,q2.dw,v2,_,q2,rfl⟩
 ·rw[show sg [] x=mt x from rfl,ox_] at hm
  split at hm
  ·next e=>rw[← e];exact hx
  ·exact absurd rfl hm
structure Kd (es:List EqT)(K:Kn):Prop where
 ko:KO K
 ori:Ori K
 gen:∀ f,PrF f→((∀ e∈es,Sol f (dbE e))↔Ext f K)
 ni:∃ fr,fr≤4000∧∀ x,Ni (NLE es) fr (sg K x)∨sg K x=mt x
 szE:∀ e∈es,(fl (sg K) (dbT [] e.1)).size≤LIM∧(fl (sg K) (dbT [] e.2)).size≤LIM
 kl:∀ x,lkK K x≠none→x∈LE es
 km:∀ x∈LE es,∀ m,oc m (sg K x)≠0→m∈LE es
theorem uni_all {es:List EqT}(E:Es es):∃ j res,j≤100000000000∧f7_ 100 j es=some (rW_ res)∧ji_ ⟨[],es.map dbE,0⟩ res∧((∃ er,res=.error er∧40≤er∧er≤43∧∀ f,PrF f→¬ ∀ e∈es,Sol f (dbE e))∨∃ K,res=.ok K∧Kd es K):=by
 have hN:∀ e∈es,(Std e.1∧a5_ e.1)∧(Std e.2∧a5_ e.2):=fun e he=>⟨⟨(E.ok e he).l.1.1,eR_ _ (E.ok e he).l.1⟩,(E.ok e he).r.1.1,eR_ _ (E.ok e he).r.1⟩;obtain⟨j,res,hj,kv,h1,h2⟩:=mf_ (ly_ E) (W:=⟨[],es,0⟩) ⟨hN,fun x u h=>by cases h⟩ (sx_ E) (fun e he=>by
  obtain⟨x,hx,rfl⟩:=List.mem_map.1 he;exact oZ_ E hx) (by show (List.map _ _).length≤16;rw[List.length_map];exact E.ln)
 have hsol:∀ f,nR_ f ⟨[],es.map dbE,0⟩↔∀ e∈es,Sol f (dbE e):=fun f=>by
  unfold nR_
  constructor
  ·exact fun h e he=>h.2 _ (List.mem_map.2 ⟨e,he,rfl⟩)
  ·refine fun h=>⟨q7_ f,fun e he=>?_⟩
   obtain⟨x,hx,rfl⟩:=List.mem_map.1 he;exact h x hx
 obtain⟨t1,t2⟩:=h2.told (kO_ E) (sx_ E);refine⟨j,res,hj,?_,h2,?_⟩
 ·unfold f7_
  rw[h1];cases res with
  | error e=>rfl
  | ok K =>
   simp only;obtain⟨⟨fr,D'⟩,_⟩:=t1 K rfl;rw[px_ (ly_ E) (W:=⟨K,[],fr⟩) (kv K rfl) D' (b8_ K) fun m hm=>dL_.1 hm];rfl
 ·cases res with
  | error er =>
   refine .inl ⟨er,rfl,?_,?_,fun f hf hs=>t2 er rfl f hf ((hsol f).2 hs)⟩
   ·exact (h2.errs er rfl).1
   ·exact (h2.errs er rfl).2
  | ok K =>
   obtain⟨⟨fr,D'⟩,hg⟩:=t1 K rfl;have hfr:fr≤4000:=by have h:=D'.fr;have h':fr+acE []≤AE es:=h;have:=rC_ E;omega
   refine .inr ⟨K,rfl,⟨D'.ko,D'.ori,fun f hf=>by rw[← hg f hf];exact (hsol f).symm,⟨fr,hfr,fun x=>?_⟩,fun e he=>⟨ld_ (ly_ E) D' (oZ_ E he).1,ld_ (ly_ E) D' (oZ_ E he).2⟩,D'.kl,D'.km⟩⟩;cases hx:lkK K x with
   | none=>exact .inr (D'.ko.facts.unb x hx)
   | some u =>
    obtain⟨a,b⟩:=r3_ (ly_ E) (W:=⟨K,[],fr⟩) (kv K rfl) D' hx;refine .inl ⟨a,b,?_,?_⟩
    ·rw[ck_ _ a (D'.ko.facts.pr x).no5];exact D'.kn x
    ·rw[ck_ _ a (D'.ko.facts.pr x).no5];exact ql_ (ly_ E) D' x
end
section
open Go.RowKit
structure s7_ (R:Kn)(t:Ty):Prop where
 len:R.length≤100
 st:a8_ t
 sR:∀ x∈R,a8_ x.2∧0≤x.1∧x.1<100000000000000000
 hq:0≤apQ R t∧apQ R t<100000000000000000
 hf:∀ i,i≤R.length→0≤(bd_ (R.take i)).2∧(bd_ (R.take i)).2<100000000000000000
 hP:∀ i,i≤(bd_ R).1.length→a8_ (my_ (apQ R t) ((bd_ R).1.take i) t).1
 hQ:∀ i,i≤(bd_ R).1.length→a8_ (lI_ (apQ R t) ((bd_ R).1.take i) (apP R t)).1
theorem apply_h {w:World}{kv:Value}{R:Kn}{t:Ty}{a:OA_}{c:Nat}(hR:jm_ w kv R)(hA:AtW t a c w)(O:s7_ R t)(hT:Tab w) :
  Calls Tryz.prog 28 #[kv,.agg #[.int .i64 t.kind,.string t.name,.int .i64 t.n,.slice a t.args.length c]] w (fV_ (apF R t) w) :=
 nx_ hR hA O.len O.st O.sR O.hq O.hf O.hP O.hQ hT
theorem ap_ok {NL:List ByteArray}{fr:Nat}{R:Kn}{t:Ty}{B:Int}(hB:0≤B)(hB2:B≤10000000000000000)(hl:R.length≤100)(hR:∀ e∈R,Ni NL fr e.2∧0≤e.1∧e.1≤B∧∀ m∈az_ e.2,m≤B)(ht:Ni NL fr t)(htB:∀ m∈az_ t,m≤B)(hz:(fl (lkD R) (dbT [] t)).size≤LIM)(hn:NL.length+fr≤3000000) :
  s7_ R t∧Ni NL fr (apF R t)∧dbT [] (apF R t)=fl (lkD R) (dbT [] t):=by
 obtain⟨h1,h2,h3,h4,h5,h6⟩:=sN_ hB hB2 hl hR ht htB hz hn;exact⟨⟨hl,ht.small hn,fun x hx=>⟨(hR x hx).1.small hn,(hR x hx).2.1,by have:=(hR x hx).2.2.1;omega⟩,h1,h2,h3,h4⟩,h5,h6⟩
theorem sl_ (K:Kn)(x:Int):lkK (gq_ K) x=if x∈b8_ K then some (sg K x) else none:=by
 unfold gq_ lkK;generalize b8_ K=ks
 induction ks with
 | nil=>rfl
 | cons m ks ih =>
  rw[List.map_cons,List.find?_cons]
  by_cases e:m=x
  ·subst e
   rw[show (m==m)=true from by simp,if_pos (by simp)];rfl
  ·rw[show (m==x)=false from beq_eq_false_iff_ne.2 e]
   simp only;rw[ih]
   by_cases h:x∈ks
   ·rw[if_pos h,if_pos (by simp[h])]
   ·rw[if_neg h,if_neg (by simp[h,Ne.symm e])]
section
variable {es : List EqT} {K : Kn}
theorem Kd.std (D:Kd es K)(x:Int)(hx:lkK K x≠none):∃ fr,fr≤4000∧Ni (NLE es) fr (sg K x):=by
 obtain⟨fr,hf,h⟩:=D.ni
 rcases h x with h|h
 ·exact⟨fr,hf,h⟩
 ·exact absurd (D.ko.facts.dom x |>.2 h) hx
theorem Kd.lkD (D:Kd es K)(x:Int):lkD (gq_ K) x=sg K x:=by
 unfold Tp.lkD;rw[sl_]
 by_cases h:x∈b8_ K
 ·rw[if_pos h]
  obtain⟨fr,_,hn⟩:=D.std x (dL_.1 h);exact ck_ _ hn.st (D.ko.facts.pr x).no5
 ·rw[if_neg h]
  exact (D.ko.facts.unb x (Classical.byContradiction fun hn=>h (dL_.2 hn))).symm
theorem Kd.fl_lkD (D:Kd es K)(t:Ty):fl (Tp.lkD (gq_ K)) t=fl (sg K) t:=bP_ t fun x _=>D.lkD x
theorem Kd.len (E:Es es)(D:Kd es K):(gq_ K).length≤24:=by
 have h1:=ky_ D.ko.nodup fun x hx=>D.kl x fun hn=>b6_.1 hn hx;rw[List.length_map] at h1;have h2:=pY_ E;unfold gq_ b8_;rw[List.length_map,List.length_mergeSort,List.length_map];omega
theorem Kd.mem (E:Es es)(D:Kd es K):∀ x∈gq_ K,(∃ fr,fr≤4000∧Ni (NLE es) fr x.2)∧0≤x.1∧x.1<1000000∧x.2=sg K x.1∧x.1∈LE es∧∀ m∈az_ x.2,m≤1000000:=by
 intro x hx;obtain⟨m,hm,rfl⟩:=List.mem_map.1 hx;have hk:=dL_.1 hm;have hL:=D.kl m hk;have h1:=nO_ E m hL;refine⟨D.std m hk,h1.2.1,h1.2.2,rfl,hL,fun y hy=>?_⟩;have h2:=D.km m hL y ((f0_ (D.ko.facts.pr m).dw).1 hy);have:=nO_ E y h2;omega
theorem nM_ {es:List EqT}(E:Es es){fr:Nat}(h:fr≤4000):(NLE es).length+fr≤3000000:=by have:=nL_ E;omega
theorem Kd.ans (E:Es es)(D:Kd es K):g4_ (.ok (gq_ K)):=by
 refine⟨by have:=D.len E;omega,fun x hx=>?_⟩;obtain⟨⟨fr,hf,hn⟩,h0,h1,_⟩:=D.mem E x hx;exact⟨hn.small (nM_ E hf),h0,by omega⟩
theorem Ni.mono {NL:List ByteArray}{fr fr':Nat}{X:Ty}(h:Ni NL fr X)(hf:fr≤fr'):Ni NL fr' X:=⟨h.st,h.gd,h.vn.imp fun t=>eh_ hf t,h.sz⟩
theorem es_ni {es:List EqT}(E:Es es){e:EqT}(he:e∈es)(fr:Nat):(Ni (NLE es) fr e.1∧∀ m∈az_ e.1,m≤1000000)∧Ni (NLE es) fr e.2∧∀ m∈az_ e.2,m≤1000000:=by
 have hq:=E.ok e he;obtain⟨v1,v2⟩:=pP_ E he;refine⟨⟨⟨hq.l.1.1,eR_ _ hq.l.1,v1.imp fun t=>eh_ (Nat.zero_le _) t,by rw[bL_ _ hq.l.1.1];have:=hq.l.2.1;unfold LIM;omega⟩,fun m hm=>by have:=es_ hq.l.1 m hm;omega⟩,⟨hq.r.1.1,eR_ _ hq.r.1,v2.imp fun t=>eh_ (Nat.zero_le _) t,by rw[bL_ _ hq.r.1.1];have:=hq.r.2.1;unfold LIM;omega⟩,fun m hm=>by have:=es_ hq.r.1 m hm;omega⟩
theorem Kd.ap (E:Es es)(D:Kd es K){t:Ty}(ht:∃ fr,fr≤4000∧Ni (NLE es) fr t)(hm:∀ m∈az_ t,m≤1000000)(hz:(fl (sg K) (dbT [] t)).size≤LIM) :
  s7_ (gq_ K) t∧a8_ (apF (gq_ K) t)∧Std (apF (gq_ K) t)∧rA_ (dbT [] (apF (gq_ K) t))∧dbT [] (apF (gq_ K) t)=fl (sg K) (dbT [] t):=by
 obtain⟨f1,h1,n1⟩:=ht;have hall:∀ e∈gq_ K,Ni (NLE es) 4000 e.2∧0≤e.1∧e.1≤1000000∧∀ m∈az_ e.2,m≤1000000:=fun e he=>by
  obtain⟨⟨fr,hf,hn⟩,a,b,_,_,c⟩:=D.mem E e he;exact⟨hn.mono hf,a,by omega,c⟩
 obtain⟨a,b,c⟩:=ap_ok (B:=1000000) (by omega) (by omega) (by have:=D.len E;omega) hall (n1.mono h1) hm (by rw[D.fl_lkD];exact hz) (nM_ E (aA_ 4000));rw[D.fl_lkD] at c;exact⟨a,b.small (nM_ E (aA_ 4000)),b.st,hA_ (kO_ E) b.vn,c⟩
theorem Kd.same (E:Es es)(D:Kd es K){e:EqT}(he:e∈es):aJ_ (apF (gq_ K) e.1)=aJ_ (apF (gq_ K) e.2):=by
 have hn:=es_ni E he 0;obtain⟨_,_,s1,l1,d1⟩:=D.ap E ⟨0,by omega,hn.1.1⟩ hn.1.2 (D.szE e he).1;obtain⟨_,_,s2,l2,d2⟩:=D.ap E ⟨0,by omega,hn.2.1⟩ hn.2.2 (D.szE e he).2;rw[fT_ s1 s2 l1 l2,d1,d2];exact (D.gen (sg K) D.ko.facts.pr).2 D.ko.facts.ext e he
theorem Kd.again (E:Es es)(D:Kd es K){x:Int × Ty}(hx:x∈gq_ K):s7_ (gq_ K) x.2∧a8_ (apF (gq_ K) x.2)∧aJ_ (apF (gq_ K) x.2)=aJ_ x.2∧cr_ x.2=false:=by
 obtain⟨⟨fr,hf,hn⟩,_,_,e,_,hm⟩:=D.mem E x hx;have hp:=(D.ko.facts.pr x.1).no5;rw[← e] at hp;have hd:=ck_ x.2 hn.st hp;have hfl:fl (sg K) (dbT [] x.2)=dbT [] x.2:=by rw[hd,e];exact D.ko.facts.idem x.1
 obtain⟨a,b,s1,l1,d1⟩:=D.ap E ⟨fr,hf,hn⟩ hm (by rw[hfl];exact hn.sz);refine⟨a,b,?_,(jC_ x.2).2 hp⟩;rw[fT_ s1 hn.st l1 (hA_ (kO_ E) hn.vn),d1,hfl]
theorem Kd.sorted (D:Kd es K):(gq_ K).Pairwise fun x y=>x.1<y.1:=by
 unfold gq_;rw[List.pairwise_map];have h1:=eS_ K;have h2:=(ff_ K).nodup_iff.2 D.ko.nodup;have:=h1.and h2;exact this.imp fun h=>by have:=h.1;have:=h.2;simp only;omega
end
theorem jc_.form {w:World}{res:Except Nat Kn}{en:Ending}{w':World}(h:jc_ w res en w'):∃ a c R,∃ er:Nat,en=.returned (.tuple #[.slice a (R:Kn).length c,.int .i64 er])∧jm_ w' (.slice a R.length c) R∧Below w.heap.size w w'∧(res=.ok R∧er=0∨res=.error er∧R=[]):=by
 cases res with
 | error er =>
  obtain⟨rfl,hb⟩:=h;exact⟨none,0,[],er,rfl,jm_.nil w',hb,.inr ⟨rfl,rfl⟩⟩
 | ok R =>
  obtain⟨v,ps,T',rfl,hK,hT',hb⟩:=h;have hks:=hK.ks hT';obtain⟨a,c,rfl⟩:=aB_ hK.own;exact⟨a,c,R,0,rfl,hks,hb,.inl ⟨rfl,rfl⟩⟩
theorem ef_.monoT {S T T':Nat→Prop}{w:World}{pv:Value}{es:List EqT}(H:ef_ S T w pv es)(h:∀ b,T b→T' b):ef_ S T' w pv es:=by
 obtain⟨a,cap,e,hl,hc⟩:=H;refine⟨a,cap,e,hl,hc.imp id ?_⟩;rintro ⟨b,off,e,hb,hc⟩;refine⟨b,off,e,hb,fun i hi=>?_⟩;obtain⟨xa,xc,ya,yc,h1,h2,h3⟩:=hc i hi;exact⟨xa,xc,ya,yc,h1,h2.mono h,h3.mono h⟩
def pZ_ (w:World)(pv:Value)(es:List EqT):Prop:=ef_ (Lt w.heap.size) (Lt w.heap.size) w pv es
theorem pZ_.low {w w':World}{pv:Value}{es:List EqT}(h:pZ_ w pv es)(hb:Below w.heap.size w w'):pZ_ w' pv es :=
 ((h.keep (fun b hb'=>hb.block b hb') fun b hb'=>hb.block b hb').mono fun _ hj=>bh_ hj hb.size).monoT fun _ hj=>bh_ hj hb.size
theorem f6_.es {S:Nat→Prop}{lo:Nat}{w:World}{v:Value}{es:List EqT}{ps:List (Value × Value)}(h:f6_ S lo w v es ps)(hl:es.length≤1000000000000)(hS:∀ b,S b→b<w.heap.size):pZ_ w v es :=
 ((h.eqs hl).mono fun b e=>(h.own.lt b e).2).monoT hS
theorem pZ_.call {w:World}{v:Value}{es:List EqT}{j d:Nat}{res:Except Nat Kn}(h:pZ_ w v es)(hs:∀ e∈es,SmT e.1∧SmT e.2)(hl:es.length≤500000000000)(hT:Tab w)(hu:f7_ d j es=some res)(hj:j≤1000000000000) :
  Calls Tryz.prog 14 #[v] w (jc_ w res) :=
 is_ h (fun _ h=>h) (fun _ h=>h) hs hl hT hu hj
theorem pZ_.one {w:World}{a:OA_}{n c:Nat}{es:List EqT}(h:pZ_ w (.slice a n c) es){i:Nat}(hi:i<es.length):∃ b off xa xc ya yc,a=some ⟨b,off,none⟩∧b<w.heap.size∧(w.cell? ⟨b,off+i*8,none⟩=some (.int .i64 es[i].1.kind)∧w.cell? ⟨b,off+i*8+1,none⟩=some (.string es[i].1.name)∧w.cell? ⟨b,off+i*8+2,none⟩=some (.int .i64 es[i].1.n)∧w.cell? ⟨b,off+i*8+3,none⟩=some (.slice xa es[i].1.args.length xc)) ∧
  (w.cell? ⟨b,off+i*8+4,none⟩=some (.int .i64 es[i].2.kind)∧w.cell? ⟨b,off+i*8+5,none⟩=some (.string es[i].2.name)∧w.cell? ⟨b,off+i*8+6,none⟩=some (.int .i64 es[i].2.n)∧w.cell? ⟨b,off+i*8+7,none⟩=some (.slice ya es[i].2.args.length yc))∧AtW es[i].1 xa xc w∧AtW es[i].2 ya yc w:=by
 obtain⟨a',cap,e,hl,hc⟩:=h;injection e with e1 e2 e3
 subst e1;obtain⟨b,off,rfl,hb,hc⟩:=hc.resolve_left (by intro e;rw[e] at hi;simp at hi);obtain⟨xa,xc,ya,yc,h1,h2,h3⟩:=hc i hi;exact⟨b,off,xa,xc,ya,yc,rfl,hb,⟨h1 0 _ (by omega) rfl,h1 1 _ (by omega) rfl,h1 2 _ (by omega) rfl,h1 3 _ (by omega) rfl⟩,⟨h1 4 _ (by omega) rfl,h1 5 _ (by omega) rfl,h1 6 _ (by omega) rfl,h1 7 _ (by omega) rfl⟩,h2,h3⟩
theorem jm_.at_ {w:World}{a:OA_}{n c:Nat}{R:Kn}(h:jm_ w (.slice a n c) R){i:Nat}(hi:i<R.length):∃ b off xa xc,a=some ⟨b,off,none⟩∧b<w.heap.size∧(w.cell? ⟨b,off+i*5,none⟩=some (.int .i64 R[i].1)∧w.cell? ⟨b,off+i*5+1,none⟩=some (.int .i64 R[i].2.kind)∧w.cell? ⟨b,off+i*5+2,none⟩=some (.string R[i].2.name)∧w.cell? ⟨b,off+i*5+3,none⟩=some (.int .i64 R[i].2.n)∧w.cell? ⟨b,off+i*5+4,none⟩=some (.slice xa R[i].2.args.length xc))∧AtW R[i].2 xa xc w:=by
 obtain⟨a',cap,e,hc⟩:=h;injection e with e1 e2 e3
 subst e1;obtain⟨b,off,rfl,hb,hc⟩:=hc.resolve_left (by intro e;rw[e] at hi;simp at hi);obtain⟨xa,xc,h1,h2⟩:=hc i hi;exact⟨b,off,xa,xc,rfl,hb,⟨h1 0 _ (by omega) rfl,h1 1 _ (by omega) rfl,h1 2 _ (by omega) rfl,h1 3 _ (by omega) rfl,h1 4 _ (by omega) rfl⟩,h2⟩
theorem es_of {ls:List Ln}{es:List EqT}(h:c6_ ls=some es):Es es:=by
 obtain⟨h1,h2,h3,h4,_⟩:=kk_ h;exact⟨h4,h3,by omega⟩
end
end Go.Proofs.YtjecnionbjlncaaGreatDoor.Tp

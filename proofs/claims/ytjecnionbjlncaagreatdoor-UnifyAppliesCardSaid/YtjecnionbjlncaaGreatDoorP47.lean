/- Packed. -/
import Derived.Test.YtjecnionbjlncaaGreatDoorP46
set_option maxRecDepth 100000
set_option maxHeartbeats 6400000
namespace Go.Proofs.YtjecnionbjlncaaGreatDoor.Tp
section
def pv_ (F:Kn)(m:Int):Bool:=F.any fun x=>x.1==m
def mxT (t:Ty):Int:=Lib.maxOf (aR_ t++[0])
def mxI (a b:Int):Int:=if a<b then b else a
def lK_ (p:Kn × Int)(x:Int × Ty):Kn × Int:=if pv_ p.1 x.1 then p else (p.1++[x],mxI (mxI p.2 x.1) (mxT x.2))
def bn_ (R:Kn):Kn × Int:=R.foldl lK_ ([],0)
theorem nq_ {R:Kn}{i:Nat}(h:i<R.length):bn_ (R.take (i+1))=lK_ (bn_ (R.take i)) R[i]:=by
 unfold bn_;rw[List.take_succ_eq_append_getElem h,List.foldl_append];rfl
theorem hV_ (R:Kn):(bn_ R).1.length≤R.length:=by
 have:∀ (R:Kn) (p:Kn × Int),(R.foldl lK_ p).1.length≤p.1.length+R.length:=by
  intro R
  induction R with
  | nil=>intro p;exact aD_ _
  | cons x R ih =>
   intro p;rw[List.foldl_cons,List.length_cons];have h1:=ih (lK_ p x);have h2:(lK_ p x).1.length≤p.1.length+1:=by
    unfold lK_
    split
    ·omega
    ·simp
   omega
 simpa [bn_] using this R ([],0)
theorem kD_ {R:Kn} : ∀ x∈(bn_ R).1,x∈R:=by
 have:∀ (R:Kn) (p:Kn × Int),∀ x∈(R.foldl lK_ p).1,x∈p.1∨x∈R:=by
  intro R
  induction R with
  | nil=>intro p x h;exact .inl h
  | cons y R ih =>
   intro p x h;rw[List.foldl_cons] at h
   rcases ih _ x h with h|h
   ·unfold lK_ at h
    split at h
    ·exact .inl h
    ·rcases List.mem_append.1 h with h|h
     ·exact .inl h
     ·exact .inr (by simp[List.mem_singleton.1 h])
   ·exact .inr (by simp[h])
 intro x h
 rcases this R ([],0) x h with h|h
 ·cases h
 ·exact h
def pZ_ (q:Int)(p:Ty × Nat)(x:Int × Ty):Ty × Nat:=(co_ x.1 (mt (q+1+(p.2:Int))) p.1,p.2+1)
def mI_ (q:Int)(F:Kn)(t:Ty):Ty × Nat:=F.foldl (pZ_ q) (t,0)
def qd_ (q:Int)(p:Ty × Nat)(x:Int × Ty):Ty × Nat:=(co_ (q+1+(p.2:Int)) x.2 p.1,p.2+1)
def lV_ (q:Int)(F:Kn)(t:Ty):Ty × Nat:=F.foldl (qd_ q) (t,0)
theorem oT_ (q:Int)(F:Kn)(t:Ty):(mI_ q F t).2=F.length:=by
 have:∀ (F:Kn) (p:Ty × Nat),(F.foldl (pZ_ q) p).2=p.2+F.length:=by
  intro F
  induction F with
  | nil=>intro p;rfl
  | cons x F ih=>intro p;rw[List.foldl_cons,ih,List.length_cons];show p.2+1 + _=_;omega
 simpa [mI_] using this F (t,0)
theorem pr_ (q:Int)(F:Kn)(t:Ty):(lV_ q F t).2=F.length:=by
 have:∀ (F:Kn) (p:Ty × Nat),(F.foldl (qd_ q) p).2=p.2+F.length:=by
  intro F
  induction F with
  | nil=>intro p;rfl
  | cons x F ih=>intro p;rw[List.foldl_cons,ih,List.length_cons];show p.2+1 + _=_;omega
 simpa [lV_] using this F (t,0)
theorem mH_ {q:Int}{F:Kn}{t:Ty}{i:Nat}(h:i<F.length):(mI_ q (F.take (i+1)) t).1=co_ F[i].1 (mt (q+1+(i:Int))) (mI_ q (F.take i) t).1:=by
 have h2:=oT_ q (F.take i) t;rw[List.length_take,Nat.min_eq_left (Nat.le_of_lt h)] at h2;unfold mI_ at *;rw[List.take_succ_eq_append_getElem h,List.foldl_append];show co_ F[i].1 (mt (q+1+(((F.take i).foldl (pZ_ q) (t,0)).2:Int))) _=_;rw[h2]
theorem np_ {q:Int}{F:Kn}{t:Ty}{i:Nat}(h:i<F.length):(lV_ q (F.take (i+1)) t).1=co_ (q+1+(i:Int)) F[i].2 (lV_ q (F.take i) t).1:=by
 have h2:=pr_ q (F.take i) t;rw[List.length_take,Nat.min_eq_left (Nat.le_of_lt h)] at h2;unfold lV_ at *;rw[List.take_succ_eq_append_getElem h,List.foldl_append];show co_ (q+1+(((F.take i).foldl (qd_ q) (t,0)).2:Int)) F[i].2 _=_;rw[h2]
def apQ (R:Kn)(t:Ty):Int:=mxI (bn_ R).2 (mxT t)
def apP (R:Kn)(t:Ty):Ty:=(mI_ (apQ R t) (bn_ R).1 t).1
def apF (R:Kn)(t:Ty):Ty:=(lV_ (apQ R t) (bn_ R).1 (apP R t)).1
end
section
open Go.RowKit
theorem nS_ (l:Kn)(p:Int × Ty→Bool)(k:Nat)(h:k<l.length):(l.take (k+1)).any p=((l.take k).any p || p l[k]):=by
 rw[List.take_add_one,List.getElem?_eq_getElem h,List.any_append];simp only[Option.toList_some,List.any_cons,List.any_nil,Bool.or_false]
def B5 (w:World)(b:Nat)(m:Int)(t:Ty)(a:OA_)(c:Nat):Prop:=w.heap[b]? = some (.cells #[.int .i64 m,.int .i64 t.kind,.string t.name,.int .i64 t.n,.slice a t.args.length c] 39 (0,0))
section
variable {w w' : World} {b : Nat} {m : Int} {t : Ty} {a : OA_} {c : Nat}
theorem B5.c0 (h:B5 w b m t a c):w.cell? ⟨b,0,none⟩=some (.int .i64 m):=cell_of_row w b 0 _ _ _ h
theorem B5.c1 (h:B5 w b m t a c):w.cell? ⟨b,1,none⟩=some (.int .i64 t.kind):=cell_of_row w b 1 _ _ _ h
theorem B5.c2 (h:B5 w b m t a c):w.cell? ⟨b,2,none⟩=some (.string t.name):=cell_of_row w b 2 _ _ _ h
theorem B5.c3 (h:B5 w b m t a c):w.cell? ⟨b,3,none⟩=some (.int .i64 t.n):=cell_of_row w b 3 _ _ _ h
theorem B5.c4 (h:B5 w b m t a c):w.cell? ⟨b,4,none⟩=some (.slice a t.args.length c):=cell_of_row w b 4 _ _ _ h
theorem B5.lt (h:B5 w b m t a c):b<w.heap.size:=(Array.getElem?_eq_some_iff.1 h).1
theorem B5.low (h:B5 w b m t a c)(hb:Below w.heap.size w w'):B5 w' b m t a c:=(hb.block b h.lt).trans h
theorem B5.grown {r:Option Nat}(h:B5 w b m t a c)(hg:w.grownBy w' r)(hr:r≠some b):B5 w' b m t a c:=(hg.block b h.lt (Ne.symm hr)).trans h
theorem B5.new (w:World)(m:Int)(t:Ty)(a:OA_)(c:Nat):B5 (w.alloc (.cells #[.int .i64 m,.int .i64 t.kind,.string t.name,.int .i64 t.n,.slice a t.args.length c] 39)) w.heap.size m t a c:=heap_alloc_new w _
end
theorem pL_ (args:Array Value)(w:World):(callFunc 59 args).run Tryz.prog w=.ok (.enter 59 args) w :=
 enters_of Tryz.func59 (by kernel_rfl) rfl args w
theorem nP_ {w:World}{bk:Nat}{m n:Int}{t u:Ty}{a ua:OA_}{c uc:Nat}(hk:B5 w bk m t a c) :
  Calls Tryz.prog 59 #[.agg #[.int .i64 n,.int .i64 u.kind,.string u.name,.int .i64 u.n,.slice ua u.args.length uc],.pointer (some ⟨bk,0,none⟩)] w (ca_ w (n==m)):=by
 have hz:=ar_ w (.cells #[.int .i64 n,.int .i64 u.kind,.string u.name,.int .i64 u.n,.slice ua u.args.length uc] 39);have b5:=B5.new w n u ua uc;have k5:=hk.low (ar_ w (.cells #[.int .i64 n,.int .i64 u.kind,.string u.name,.int .i64 u.n,.slice ua u.args.length uc] 39));have c0:=b5.c0;have d0:=k5.c0;have HZ:=hid hz;clear hz b5 k5 hk;go_enter Tryz.func59,Tryz.ntmps59;go_wp2;go_ret;exact⟨rfl,HZ.out⟩
theorem lG_ {w:World}{v:Value}{F:Kn}{bk:Nat}{m:Int}{t:Ty}{a:OA_}{c:Nat}(hF:hq_ w v F)(hl:F.length≤1000)(hk:B5 w bk m t a c) :
  Calls Tryz.prog 97 #[v,.func (.func 59) #[] #[.pointer (some ⟨bk,0,none⟩)]] w (jX_ w (pv_ F m)):=by
 obtain⟨fa,fc,rfl,hc⟩:=hF;have HC:=hid hc;have HL:=hid hl;have HK:=hid hk;have hf:=pL_;clear hc hk;go_enter Tryz.func97,Tryz.ntmps97;go_wp2
 go_loopw [8] (fun iv wr=>∃ i:Nat,iv=.int .i64 i∧i≤F.length∧(F.take i).any (fun x=>x.1==m)=false∧Below w.heap.size w wr) (fun iv _=>F.length - (intOf iv).toNat)
 case atStart=>exact⟨0,rfl,Nat.zero_le _,rfl,Below.refl _ _⟩
 case round =>
  obtain⟨i,rfl,hil,hno,hB⟩:=hrel;have NO:=hid hno;have HB:=hid hB;clear hno
  by_cases hi:i<F.length
  ·have z0:(0:Int)≤(i:Int):=by omega
   have z1:(i:Int)<(F.length:Int):=(by omega);have z2:(i:Int)<1000:=(by omega);obtain⟨b,off,rfl,hb,hcc⟩:=HC.out.resolve_left (by intro e;rw[e] at hi;simp at hi);obtain⟨xa,xc,h1,h2⟩:=hcc i hi;have k:∀ o,wr.cell? ⟨b,o,none⟩=w.cell? ⟨b,o,none⟩:=fun o=>World.cell?_of_block (hB.block b hb);have q0:wr.cell? ⟨b,off+i*5,none⟩=some (.int .i64 F[i].1):=(k _).trans (h1 0 _ (by omega) rfl);have q1:=(k _).trans (h1 1 _ (by omega) rfl);have q2:=(k _).trans (h1 2 _ (by omega) rfl);have q3:=(k _).trans (h1 3 _ (by omega) rfl);have q4:=(k _).trans (h1 4 _ (by omega) rfl);have CF:=hid (nP_ (n:=F[i].1) (u:=F[i].2) (ua:=xa) (uc:=xc) (HK.out.low hB));have AT:=hid (nS_ F (fun x=>x.1==m) i hi);have MEM:=hid (List.getElem_mem hi);clear hB hcc h1 h2 k hb;generalize F[i]=x at *;go_wp2_with fail;refine CF.out.mono ?_;rintro e W4 ⟨rfl,hb4⟩;have B4':=hid (HB.out.trans (hb4.mono HB.out.size));clear hb4;cases hp:(x.1==m) with
   | true =>
    have hany:Hid (pv_ F m=true):=hid (List.any_eq_true.2 ⟨_,MEM.out,hp⟩);clear hp;go_wp2;go_ret;exact⟨i,rfl,by rw[hany.out];exact decide_eq_true z0,B4'.out⟩
   | false =>
    have st:Hid ((F.take (i+1)).any (fun x=>x.1==m)=false):=hid (by rw[AT.out,NO.out,hp];rfl);clear hp;go_wp2;go_roundw
    case rel=>exact⟨i+1,by go_num,by omega,st.out,B4'.out⟩
    case measure=>simp[intOf];omega
  ·obtain rfl:i=F.length:=by omega
   clear hB;go_wp2;go_ret;refine⟨-1,rfl,?_,HB.out⟩;have:=NO.out;rw[List.take_length] at this;unfold pv_;rw[this];rfl
theorem h0_ {w:World}{v:Value}{F:Kn}{bk:Nat}{m:Int}{t:Ty}{a:OA_}{c:Nat}(hF:hq_ w v F)(hl:F.length≤1000)(hk:B5 w bk m t a c) :
  Calls Tryz.prog 58 #[v,.func (.func 59) #[] #[.pointer (some ⟨bk,0,none⟩)]] w (ca_ w (pv_ F m)):=by
 have CI:=hid (lG_ hF hl hk);clear hF hl hk;go_enter Tryz.func58,Tryz.ntmps58;go_wp2_with fail;refine CI.out.mono ?_;rintro e w4 ⟨k,rfl,hk,hb4⟩;have B4':=hid hb4;have HK:=hid hk;clear hb4 hk;go_wp2;go_ret;exact⟨a7_ HK.out,B4'.out⟩
theorem h7_ {lo:Nat}{w:World}{v:Value}{l:List Int}(h:w.ownsRow lo 3 1 v l.length (l.map (Value.int .i64)))(hlo:lo≤w.heap.size)(hl:l.length≤1000000000000){g:Nat}(hg:w.heap[g]? = some (.cells #[.int .i64 0] 3 (0,0))) :
  ∃ v' w',(Builtin.append_ #[50,50] 50 #[v,.slice (some ⟨g,0,none⟩) 1 1]).run Tryz.prog w=.ok v' w'∧w'.ownsRow lo 3 1 v' (l++[0]).length ((l++[0]).map (Value.int .i64))∧w.grownBy w' v.ownBlock:=by
 obtain⟨i0,hi0,hz3,hz1,hz2⟩:=info_parts nk_;obtain⟨g2,cap,w',hr,ho,hgr,_⟩:=run_append_lies (P:=Tryz.prog) (w:=w) 50 50 lo 3 i0 (.int .i64 0) 1 8 Tryz.underlying50 hi0 hz3 hz1 hz2 rfl (by decide) v l.length (l.map (Value.int .i64)) h ⟨g,0,none⟩ 1 1
  [.int .i64 0] rfl (World.news_of_block (cs:=#[.int .i64 0]) (t:=3) (fr:=(0,0)) hg) (by simp[Value.oneCell']) (by omega) (by unfold maxLen;omega) (by omega) hlo w.heap.size rfl
 refine⟨_,w',hr,?_,hgr⟩;rw[List.length_append,List.map_append];exact ho
theorem ng_ {lo:Nat}{w:World}{v:Value}{l:List Int}(h:w.ownsRow lo 3 1 v (l++[0]).length ((l++[0]).map (Value.int .i64)))(hl:l.length≤1000000000000) :
  Calls Tryz.prog 60 #[v] w fun e w'=>e=.returned (.int .i64 (Lib.maxOf (l++[0])))∧w'=w:=by
 rcases h.2 with ⟨_,h0⟩|⟨g,cap,cur,rfl,hb,hg,h1,h2,h3,h4⟩
 ·simp at h0
 ·have hc:=h.cells (g:=g) rfl
  have hm:=Tryz.slices_Max_int g 0 (l++[0]).length cap (l++[0]) w (by simp) (aD_ _) (by simp;omega) (fun j hj=>by
   have:=hc j (.int .i64 ((l++[0]).getD j 0)) (by rw[List.getElem?_map,List.getElem?_eq_getElem hj,List.getD_eq_getElem?_getD,List.getElem?_eq_getElem hj];rfl);rw[show (⟨g,0,none⟩:Addr).add j=⟨g,0+j,none⟩ from by unfold Addr.add;split<;>simp_all] at this;exact this)
  rw[List.take_length] at hm;exact hm
theorem dY_.low {S:Nat→Prop}{lo:Nat}{w w':World}{v:Value}{es:Kn}{ps:List Value}(h:dY_ S lo w v es ps)(hS:∀ b,S b→b<w.heap.size)(hb:Below w.heap.size w w'):dY_ S lo w' v es ps :=
  h.keep (fun b e=>hb.block b (h.own.lt b e).2) fun b h=>hb.block b (hS b h)
theorem FlM.low' {w wr w':World}{x:Ty}{xa:OA_}{xc:Nat}(h:FlM (Lt w.heap.size) w wr x xa xc)(hb:Below wr.heap.size wr w'):FlM (Lt w.heap.size) w w' x xa xc:=h.low (fun _ h=>h) hb
theorem FlM.grown {w wr w':World}{x:Ty}{xa:OA_}{xc:Nat}{r:Option Nat}(h:FlM (Lt w.heap.size) w wr x xa xc)(hg:wr.grownBy w' r)(hr:∀ b,r=some b→w.heap.size+2≤b)(ha:aa_ (fun b=>(b<w.heap.size∨w.heap.size+2≤b∧b<wr.heap.size)∧r≠some b) wr (.slice xa x.args.length xc) x.args):FlM (Lt w.heap.size) w w' x xa xc :=
  ⟨h.g.grown hg h.g.size fun b e=>by have:=hr b e;omega,bN_ h.s hg.size,h.k.grown hg fun e=>by have:=hr _ e;omega,h.z.grown hg fun e=>by have:=hr _ e;omega,
   (ha.keep fun b hb=>hg.block b (by rcases hb.1 with h1|h1;have:=h.s;omega;exact h1.2) (Ne.symm hb.2)).mono fun b hb=>hb.1.imp id fun h1=>⟨h1.1,aZ_ h1.2 hg.size⟩⟩
theorem dY_.grown' {S:Nat→Prop}{lo:Nat}{w w':World}{v:Value}{es:Kn}{ps:List Value}{r:Option Nat}(h:dY_ S lo w v es ps)(hg:w.grownBy w' r)(hv:∀ b,v.ownBlock=some b→r≠some b)(hS:∀ b,S b→b<w.heap.size∧r≠some b):dY_ S lo w' v es ps :=
  h.keep (fun b e=>hg.block b (h.own.lt b e).2 (Ne.symm (hv b e))) fun b h=>hg.block b (hS b h).1 (Ne.symm (hS b h).2)
theorem dY_.cells5 {S:Nat→Prop}{lo:Nat}{w:World}{a:OA_}{n c:Nat}{R:Kn}{ps:List Value}(h:dY_ S lo w (.slice a n c) R ps)(hn:0<R.length):∃ b off,a=some ⟨b,off,none⟩∧b<w.heap.size∧∀ i (h:i<R.length),∃ xa xc,
    (∀ j u,j<5→(ez_ R[i] (.slice xa R[i].2.args.length xc))[j]? = some u→w.cell? ⟨b,off+i*5+j,none⟩=some u)∧aa_ S w (.slice xa R[i].2.args.length xc) R[i].2.args:=by
  rcases h.own.2 with ⟨_,h0⟩|⟨g,cap,cur,hv,hb,hg,h1,h2,h3,h4⟩
  · omega
  · injection hv with hv
    refine⟨g,0,hv,(Array.getElem?_eq_some_iff.1 hg).1,fun i hi=>?_⟩;have hip:i<ps.length:=by rw[h.len];exact hi
    obtain⟨xa,xc,e1,hA⟩:=h.at_ i R[i] ps[i] (List.getElem?_eq_getElem hi) (List.getElem?_eq_getElem hip);rw[e1] at hA;refine⟨xa,xc,fun j u hj hu=>?_,hA⟩;have hc:=h.own.cells (g:=g) (by rw[hv];rfl) (i*5+j) u (by
      rw[gE_ R ps h.len i hi hip j hj,e1];exact hu)
    have hadd:(⟨g,0,none⟩:Addr).add (i*5+j)=⟨g,0+i*5+j,none⟩:=by unfold Addr.add;split<;>simp_all
    rw[hadd] at hc;exact hc
theorem dY_.off4 {S:Nat→Prop}{lo n:Nat}{w:World}{v:Value}{R:Kn}{ps:List Value}{u0 u1 u2 u3:Value}(h:dY_ S lo w v R ps)(hn:n<lo)(hS:∀ b,S b→b<n):dY_ S lo ((((w.setCell ⟨n,0,none⟩ u0).setCell ⟨n,1,none⟩ u1).setCell ⟨n,2,none⟩ u2).setCell ⟨n,3,none⟩ u3) v R ps:=by
  have off:∀ b,b≠n→((((w.setCell ⟨n,0,none⟩ u0).setCell ⟨n,1,none⟩ u1).setCell ⟨n,2,none⟩ u2).setCell ⟨n,3,none⟩ u3).heap[b]? = w.heap[b]? := fun b hb=>by
    rw[au_ _ _ _ _ hb,au_ _ _ _ _ hb,au_ _ _ _ _ hb,au_ _ _ _ _ hb]
  exact h.keep (fun b e=>off b (by have:=(h.own.lt b e).1;omega)) fun b hb=>off b (Nat.ne_of_lt (hS b hb))
theorem sH_ {m:Int}(h0:0≤m)(h1:m<1000000000000000000):SmT (mt m):=by
  have hs:Std (mt m):=(aX_ _).2 ⟨.inr (.inl ⟨rfl,rfl,rfl,h0,h1⟩),fun a ha=>by cases ha⟩;refine⟨⟨(a4_ _).2 ⟨.inr (.inl ⟨rfl,rfl,h0,h1⟩),fun a ha=>by cases ha⟩,(cd_ _).2 ⟨⟨fun e=>absurd (show (2:Int)=5 from e) (by decide),by show (0:Nat)≤64;omega⟩,fun a ha=>by cases ha⟩⟩,decide_eq_true ⟨by show (1:Nat)≤_;omega,by rw[show Tp.af_ (mt m)=[] from rfl];simp⟩⟩
def SF (n m:Nat)(b:Nat):Prop:=b<n∨n+2≤b∧b<m
theorem nO_ {w:World}{kv:Value}{R:Kn}{t:Ty}{a:OA_}{c:Nat}(hR:hq_ w kv R)(hA:AtW t a c w)(hl:R.length≤100)(hs:bf_ t)(hRs:∀ x∈R,bf_ x.2∧0≤x.1∧x.1<100000000000000000)
    (hq:0≤apQ R t∧apQ R t<100000000000000000) (hfq:∀ i,i≤R.length→0≤(bn_ (R.take i)).2∧(bn_ (R.take i)).2<100000000000000000) (hP:∀ i,i≤(bn_ R).1.length→bf_ (mI_ (apQ R t) ((bn_ R).1.take i) t).1) (hQ:∀ i,i≤(bn_ R).1.length→bf_ (lV_ (apQ R t) ((bn_ R).1.take i) (apP R t)).1) (hT:Tab w) :
    Calls Tryz.prog 28 #[kv,tv t a c] w (ik_ (apF R t) w):=by
  obtain⟨ka,kc,rfl,hc⟩:=hR;have hA':aa_ (Lt w.heap.size) w (.slice a t.args.length c) t.args:=hA;have hz:=ar_ w (.cells #[.int .i64 t.kind,.string t.name,.int .i64 t.n,.slice a t.args.length c] 37);have hz2:=hz.alloc (by simp) (.cells #[.int .i64 0,.string ⟨#[]⟩,.int .i64 0,.slice none 0 0] 37);have fm0:FlM (Lt w.heap.size) w ((w.alloc (.cells #[.int .i64 t.kind,.string t.name,.int .i64 t.n,.slice a t.args.length c] 37)).alloc (.cells #[.int .i64 0,.string ⟨#[]⟩,.int .i64 0,.slice none 0 0] 37)) t a c:=⟨hz2,by simp,(B4.new w _ _ _ _).low (ar_ _ _),(by have h:=B4.new (w.alloc (.cells #[.int .i64 t.kind,.string t.name,.int .i64 t.n,.slice a t.args.length c] 37)) (.int .i64 0) (.string ⟨#[]⟩) (.int .i64 0) (.slice none 0 0);rw[show (w.alloc (.cells #[.int .i64 t.kind,.string t.name,.int .i64 t.n,.slice a t.args.length c] 37)).heap.size=w.heap.size+1 from by simp] at h;exact h),(hA'.keep fun b h=>hz2.block b h).mono fun _=>.inl⟩;have FM:=hid fm0;have HA:=hid hA';have HC:=hid hc;have HL:=hid hl;have HS:=hid hs;have HRS:=hid hRs;have HQB:=hid hq;have HFQ:=hid hfq;have HP:=hid hP;have HQ:=hid hQ;have HT:=hid hT;clear hA hA' hz hz2 fm0 hc hs hRs hq hfq hP hQ hT;unfold tv;go_enter Tryz.func28,Tryz.ntmps28;go_wp2
  go_loopw [5,6,15] (fun ov qv iv wr=>∃ (i:Nat) (ps:List Value),iv=.int .i64 (i:Int)∧i≤R.length∧qv=.int .i64 (bn_ (R.take i)).2∧dY_ (Lt w.heap.size) (w.heap.size+2) wr ov (bn_ (R.take i)).1 ps∧FlM (Lt w.heap.size) w wr t a c) (fun _ _ iv _=>R.length - (intOf iv).toNat)
  case atStart=>exact⟨0,[],rfl,Nat.zero_le _,rfl,dY_.nil _ _ _,FM.out⟩
  case round =>
    obtain⟨i,ps,rfl,hil,rfl,hK,hM⟩:=hrel;have i0:(0:Int)≤(i:Int):=by omega
    by_cases hi:i<R.length
    · have i1:(i:Int)<(R.length:Int):=by omega
      have i2:(i:Int)<100:=(by omega);obtain⟨b,off,rfl,hb,hcc⟩:=HC.out.resolve_left (by intro e;rw[e] at hi;simp at hi);obtain⟨xa,xc,h1,h2⟩:=hcc i hi;have k:∀ o,wr.cell? ⟨b,o,none⟩=w.cell? ⟨b,o,none⟩:=fun o=>World.cell?_of_block (hM.g.block b hb);have q0:wr.cell? ⟨b,off+i*5,none⟩=some (.int .i64 R[i].1):=(k _).trans (h1 0 _ (by omega) rfl);have q1:=(k _).trans (h1 1 _ (by omega) rfl);have q2:=(k _).trans (h1 2 _ (by omega) rfl);have q3:=(k _).trans (h1 3 _ (by omega) rfl);have q4:=(k _).trans (h1 4 _ (by omega) rfl);have XS:=hid (HRS.out _ (List.getElem_mem hi));have TK:=hid (nq_ hi);have FQ:=hid (HFQ.out i hil);have FQ1:=hid (HFQ.out (i+1) hi);have FL:Hid ((bn_ (R.take i)).1.length≤100):=hid (by have:=hV_ (R.take i);rw[List.length_take] at this;omega);have XA:=hid h2;obtain⟨oa,oc,rfl⟩:=ay_ hK.own;have hz:=ar_ wr (.cells #[.int .i64 R[i].1,.int .i64 R[i].2.kind,.string R[i].2.name,.int .i64 R[i].2.n,.slice xa R[i].2.args.length xc] 39);have b5:=B5.new wr R[i].1 R[i].2 xa xc;have hlt:∀ b,Lt w.heap.size b→b<wr.heap.size:=fun b h=>by have:=hM.g.size;have h':b<w.heap.size:=h;omega
      have K1:=hid (hK.low hlt hz);have M1:=hid (hM.low' hz);have B1:=hid b5;have OL:Hid (∀ b,(Value.slice oa (bn_ (R.take i)).1.length oc).ownBlock=some b→w.heap.size+2≤b∧b<wr.heap.size):=hid fun b e=>hK.own.lt b e;have CC:=hid (h0_ (K1.out.ks fun b h=>aZ_ (hlt b h) hz.size) (by have:=FL.out;omega) b5);have HLT:=hid hlt;have SZ:Hid (w.heap.size+2≤wr.heap.size):=hid hM.s;clear hcc h1 h2 k hb hK hM hz b5 hlt;generalize R[i]=x at *;generalize hF:bn_ (R.take i)=Fq at *;obtain⟨F,q⟩:=Fq;simp only at *;go_wp2_with fail;refine CC.out.mono ?_;rintro e w2 ⟨rfl,hb2⟩;have K2:=hid (K1.out.low (fun b h=>by have:=HLT.out b h;simp;omega) hb2);have M2:=hid (M1.out.low' hb2);have B2:=hid (B1.out.low hb2);have S2:Hid (wr.heap.size+1≤w2.heap.size):=hid (by have:=hb2.size;simpa using this);clear CC hb2 K1 M1 B1;cases hd:pv_ F x.1 with
      | true =>
        have E:Hid (bn_ (R.take (i+1))=(F,q)):=hid (by rw[TK.out];unfold lK_;exact if_pos hd);clear hd;go_wp2;go_roundw
        case measure=>simp[intOf];omega
        case rel=>exact⟨i+1,ps,by go_num,by omega,by rw[E.out],by rw[E.out];exact K2.out,M2.out⟩
      | false =>
        have E:Hid (bn_ (R.take (i+1))=(F++[x],mxI (mxI q x.1) (mxT x.2))):=hid (by rw[TK.out];unfold lK_;exact if_neg (by rw[hd];decide));clear hd;have PA:=hid (K2.out.push (x:=x) (by have:=SZ.out;have:=S2.out;omega) (by have:=FL.out;omega) (fun b h=>⟨by have:=HLT.out b h;have:=S2.out;omega,fun e=>by have:=(OL.out b e).1;have h':b<w.heap.size:=h;omega⟩) (XA.out.keep fun b h=>M2.out.g.block b h));have hbx:=B2.out;have y0:=hbx.c0;have y1:=hbx.c1;have y2:=hbx.c2;have y3:=hbx.c3;have y4:=hbx.c4;clear hbx
        go_upto_region 8 with (first
          | (at_builtin;refine bC_ (by rfl) _ _ _ (by rfl) (by rfl) (by rfl) PA.out ?_;rintro v3 w3 ⟨hr3,hg3,ho3,hl3⟩
             have K3:=hid hr3;have G3:=hid hg3;have O3:=hid ho3;have B3:=hid (B2.out.grown hg3 (fun e=>by have:=(OL.out _ e).2;omega));have M3:=hid (M2.out.grown hg3 (fun b e=>(OL.out b e).1) ((HA.out.keep fun b h=>M2.out.g.block b h).mono fun b h=>⟨.inl h,fun e=>by have:=(OL.out b e).1;have h':b<w.heap.size:=h;omega⟩));clear hr3 hg3 ho3 hl3 PA y0 y1 y2 y3 y4))
        have KD:Hid (∀ W:World,Below w3.heap.size w3 W→W.cell? ⟨wr.heap.size,0,none⟩=some (.int .i64 x.1)∧W.cell? ⟨wr.heap.size,1,none⟩=some (.int .i64 x.2.kind)∧W.cell? ⟨wr.heap.size,2,none⟩=some (.string x.2.name)∧W.cell? ⟨wr.heap.size,3,none⟩=some (.int .i64 x.2.n)∧W.cell? ⟨wr.heap.size,4,none⟩=some (.slice xa x.2.args.length xc)):=hid (fun W h=>⟨(B3.out.low h).c0,(B3.out.low h).c1,(B3.out.low h).c2,(B3.out.low h).c3,(B3.out.low h).c4⟩);have XW:Hid (∀ W:World,Below w3.heap.size w3 W→AtW x.2 xa xc W):=hid (fun W h=>(XA.out.keep fun b hb=>(M3.out.g.trans (h.mono M3.out.g.size)).block b hb).mono fun b hb=>aZ_ hb (M3.out.g.trans (h.mono M3.out.g.size)).size);have CF:=hid (fun (W:World) (h:Below w3.heap.size w3 W)=>ne_ (XW.out W h) XS.out.1);have HD:=hid ((Below.refl w3.heap.size w3).drew);have HZ0:Hid (Below w3.heap.size w3 (w3.alloc (.cells #[.int .i64 0] 3)).drew):=hid ((ar_ w3 (.cells #[.int .i64 0] 3)).drew);have XSZ:Hid (x.2.size≤50000000000):=hid (by have:=XS.out.1.2.1;omega);obtain⟨y0,y1,y2,y3,y4⟩:=KD.out _ HD.out
        go_region_held3 (fun w'=>w'.cell? ⟨wr.heap.size,0,none⟩=some (.int .i64 x.1)∧w'.cell? ⟨wr.heap.size,1,none⟩=some (.int .i64 x.2.kind)∧w'.cell? ⟨wr.heap.size,2,none⟩=some (.string x.2.name)∧w'.cell? ⟨wr.heap.size,3,none⟩=some (.int .i64 x.2.n)∧w'.cell? ⟨wr.heap.size,4,none⟩=some (.slice xa x.2.args.length xc))
          (first|(with_reducible exact KD.out _ HX3.out)|(with_reducible exact KD.out _ HXZ.out)|(with_reducible exact KD.out _ HX1.out)|(with_reducible exact KD.out _ HZ0.out)|(with_reducible exact KD.out _ HD.out))
          (first
            | (go_at_call 19;(with_reducible refine (CF.out _ HD.out).mono ?_);rintro e x1 ⟨v1,rfl,own1,len1,hb1⟩;obtain⟨ya,yc,rfl⟩:=ay_ own1;have HX1:=hid (HD.out.trans (hb1.mono HD.out.size));have HXZ:=hid (HX1.out.alloc HX1.out.size (.cells #[.int .i64 0] 3));have PA:=hid (h7_ (w:=x1.alloc (.cells #[.int .i64 0] 3)) (own1.alloc (.cells #[.int .i64 0] 3)) (by have:=HX1.out.size;simp at *;omega) (by have:=XSZ.out;omega) (heap_alloc_new x1 _));have LEN:=hid len1;have OB:Hid (∀ b,(Value.slice ya (aR_ x.2).length yc).ownBlock=some b→w3.heap.size≤b):=hid (fun b e=>(own1.lt b e).1);clear own1 len1 hb1)
            | (go_at_call 19;(with_reducible refine (CF.out _ HZ0.out).mono ?_);rintro e x1 ⟨v1,rfl,own1,len1,hb1⟩;obtain⟨ya,yc,rfl⟩:=ay_ own1;have HX1:=hid (HZ0.out.trans (hb1.mono HZ0.out.size));have HXZ:=hid HX1.out;have PA:=hid (h7_ (g:=w3.heap.size) own1 (by have:=hb1.size;simp at *;omega) (by have:=XSZ.out;omega) ((hb1.block w3.heap.size (by simp)).trans (heap_alloc_new w3 _)));have LEN:=hid len1;have OB:Hid (∀ b,(Value.slice ya (aR_ x.2).length yc).ownBlock=some b→w3.heap.size≤b):=hid (fun b e=>by have:=(own1.lt b e).1;simp at this;omega);clear own1 len1 hb1)
            | ((refine cW_ (by rfl) _ _ _ (by rfl) (by rfl) (by rfl) PA.out ?_);rintro v3 x3 ⟨own3,hg3⟩;have HX3:=hid (HXZ.out.grown hg3 HXZ.out.size fun b e=>OB.out b e);have CX:=hid (ng_ own3 (by have:=XSZ.out;have:=LEN.out;omega));clear own3 hg3)
            | (go_at_call 60;(with_reducible refine CX.out.mono ?_);rintro e x4 ⟨rfl,rfl⟩))
        all_goals
          have K4:=hid (K3.out.low (fun b h=>by have:=M3.out.g.size;have h':b<w.heap.size:=h;omega) HX3.out);have M4:=hid (M3.out.low' HX3.out);go_wp2;go_roundw
          case measure=>simp[intOf];omega
          case rel=>exact⟨i+1,_,by go_num,by omega,by rw[E.out];rfl,by rw[E.out];exact K4.out,M4.out⟩
    · obtain rfl:i=R.length:=by omega
      rw[List.take_length] at hK ⊢;have hkk:=hM.k;obtain⟨y0,y1,y2,y3⟩:=hkk.c03;have FL:Hid ((bn_ R).1.length≤100):=hid (by have:=hV_ R;omega);obtain⟨oa,oc,rfl⟩:=ay_ hK.own;have OL:Hid (∀ b,(Value.slice oa (bn_ R).1.length oc).ownBlock=some b→w.heap.size+2≤b∧b<wr.heap.size):=hid fun b e=>hK.own.lt b e;have CM:=hid (ne_ (t:=t) (a:=a) (c:=c) (W:=wr) ((HA.out.keep fun b hb=>hM.g.block b hb).mono fun b hb=>aZ_ hb hM.g.size) HS.out);have KR:=hid hK;have MR:=hid hM;have TSZ:Hid (t.size≤50000000000):=hid (by have:=HS.out.2.1;omega);clear hkk hK hM hil hi;obtain⟨wo,hwo⟩:∃ wo:World,wo=wr:=⟨_,rfl⟩;subst hwo;go_wp2_with fail;refine CM.out.mono ?_;rintro e w1 ⟨mv,rfl,own1,len1,hb1⟩;obtain⟨ya,yc,rfl⟩:=ay_ own1;have K1:=hid (KR.out.low (fun b h=>by have:=MR.out.g.size;have h':b<w.heap.size:=h;omega) hb1);have M1:=hid (MR.out.low' hb1);have PA:=hid (h7_ (w:=w1.alloc (.cells #[.int .i64 0] 3)) (own1.alloc (.cells #[.int .i64 0] 3)) (by have:=hb1.size;simp;omega) (by have:=TSZ.out;omega) (heap_alloc_new w1 _));have BZ:=hid (ar_ w1 (.cells #[.int .i64 0] 3));have OB:Hid (∀ b,(Value.slice ya (aR_ t).length yc).ownBlock=some b→wo.heap.size≤b∧b<w1.heap.size):=hid (fun b e=>own1.lt b e);have LEN:=hid len1;clear own1 len1 hb1 CM y0 y1 y2 y3;go_wp2_with (at_builtin;refine bC_ (by rfl) _ _ _ (by rfl) (by rfl) (by rfl) PA.out ?_;rintro v3 w3 ⟨own3,hg3⟩;have CX:=hid (ng_ own3 (by have:=TSZ.out;have:=LEN.out;omega));have K3:=hid ((K1.out.low (fun b h=>by have:=M1.out.g.size;have h':b<w.heap.size:=h;omega) BZ.out).grown' hg3 (fun b e e2=>by have:=(OL.out b e).2;have:=(OB.out b e2).1;omega) (fun b h=>⟨by have:=M1.out.g.size;have h':b<w.heap.size:=h;simp;omega,fun e=>by have:=(OB.out b e).1;have:=MR.out.g.size;have h':b<w.heap.size:=h;omega⟩));have M3:=hid ((M1.out.low' BZ.out).grown hg3 (fun b e=>by have:=(OB.out b e).1;have:=MR.out.s;omega) ((HA.out.keep fun b hb=>(M1.out.g.trans (BZ.out.mono M1.out.g.size)).block b hb).mono fun b h=>⟨.inl h,fun e=>by have:=(OB.out b e).1;have:=MR.out.g.size;have h':b<w.heap.size:=h;omega⟩));clear own3 hg3 PA);refine CX.out.mono ?_;rintro e w4 ⟨rfl,rfl⟩;clear CX K1 M1 BZ OB LEN OL KR MR FM;have QV:Hid (max (bn_ R).2 (Lib.maxOf (aR_ t++[0]))=apQ R t):=hid (by unfold apQ mxI mxT;split<;>omega);go_wp2;rw[QV.out];have hqb:=HQB.out;have p0:0≤apQ R t:=hqb.1;have p1:apQ R t<100000000000000000:=hqb.2;have FS:Hid (∀ x∈(bn_ R).1,bf_ x.2∧0≤x.1∧x.1<100000000000000000):=hid fun x hx=>HRS.out x (kD_ x hx);clear hqb
      go_loopw [46] (fun iv wr=>∃ (i:Nat) (xa:OA_) (xc:Nat),iv=.int .i64 (i:Int)∧i≤(bn_ R).1.length∧dY_ (Lt w.heap.size) (w.heap.size+2) wr (.slice oa (bn_ R).1.length oc) (bn_ R).1 ps∧FlM (Lt w.heap.size) w wr (mI_ (apQ R t) ((bn_ R).1.take i) t).1 xa xc) (fun iv _=>(bn_ R).1.length - (intOf iv).toNat)
      case atStart=>exact⟨0,a,c,rfl,Nat.zero_le _,K3.out,M3.out⟩
      case round =>
        obtain⟨i,xa,xc,rfl,hil,hK,hM⟩:=hrel;have i0:(0:Int)≤(i:Int):=by omega
        by_cases hi:i<(bn_ R).1.length
        · obtain⟨b,off,hov,hb,hcc⟩:∃ b off,oa=some ⟨b,off,none⟩∧b<wr.heap.size∧∀ i (h:i<(bn_ R).1.length),∃ xa xc,(∀ j u,j<5→(ez_ (bn_ R).1[i] (.slice xa (bn_ R).1[i].2.args.length xc))[j]? = some u→wr.cell? ⟨b,off+i*5+j,none⟩=some u)∧aa_ (Lt w.heap.size) wr (.slice xa (bn_ R).1[i].2.args.length xc) (bn_ R).1[i].2.args:=hK.cells5 (by omega)
          subst hov;obtain⟨ya,yc,h1,h2⟩:=hcc i hi;have i1:(i:Int)<((bn_ R).1.length:Int):=(by omega);have i2:(i:Int)<100:=(by have:=FL.out;omega);have q0:wr.cell? ⟨b,off+i*5,none⟩=some (.int .i64 (bn_ R).1[i].1):=h1 0 _ (by omega) rfl;have q1:=h1 1 _ (by omega) rfl;have q2:=h1 2 _ (by omega) rfl;have q3:=h1 3 _ (by omega) rfl;have q4:=h1 4 _ (by omega) rfl;have XS:=hid (FS.out _ (List.getElem_mem hi));have HX:=hid (HP.out i hil);have HX1:=hid (HP.out (i+1) hi);have TK:=hid (mH_ (q:=apQ R t) (t:=t) hi);rw[TK.out] at HX1;have hz:=ar_ wr (.cells #[.int .i64 (bn_ R).1[i].1,.int .i64 (bn_ R).1[i].2.kind,.string (bn_ R).1[i].2.name,.int .i64 (bn_ R).1[i].2.n,.slice ya (bn_ R).1[i].2.args.length yc] 39);have b5:=B5.new wr (bn_ R).1[i].1 (bn_ R).1[i].2 ya yc;have hwl:∀ b,Lt w.heap.size b→b<wr.heap.size:=fun b h=>by have:=hM.g.size;have h':b<w.heap.size:=h;omega
          have K1:=hid (hK.low hwl hz);have M1:=hid (hM.low' hz);have XU:=hid ((h2.keep fun b hb=>hz.block b (hwl b hb)).mono (S':=SF w.heap.size (wr.heap.size+1)) fun b hb=>.inl hb);have MTS:Hid (bf_ (mt (apQ R t+1+(i:Int)))):=hid (sH_ (by omega) (by omega)).small;have SZ:Hid (w.heap.size+2≤wr.heap.size):=hid hM.s;have k4:=M1.out.k;obtain⟨x0,x1,x2,x3⟩:=k4.c03;have c0:=b5.c0;have c1:=b5.c1;have c2:=b5.c2;have c3:=b5.c3;have c4:=b5.c4;clear hcc h1 h2 hb hK hM hz b5 hwl k4;generalize (bn_ R).1[i]=x at *;generalize hX:(mI_ (apQ R t) ((bn_ R).1.take i) t).1=X at *;have TK2:=hid TK.out;clear hX TK;have CF:=hid (gy_ x.1 (mt (apQ R t+1+(i:Int))) X (SF w.heap.size (wr.heap.size+1)) xa none xc 0 (wr.alloc (.cells #[.int .i64 x.1,.int .i64 x.2.kind,.string x.2.name,.int .i64 x.2.n,.slice ya x.2.args.length yc] 39)) HX.out.1 MTS.out.1 HX.out.2.1 MTS.out.2.1 (M1.out.a.mono fun b hb=>hb.imp id fun h=>⟨h.1,by have:=h.2;simpa using this⟩) (.nil _ _) (fun b hb=>by have h2:=SZ.out;rcases hb with h|h;simp;omega;have:=h.2;simpa using this) (ak_ HT.out M1.out.g));unfold TP tv at CF;go_wp2_with fail;refine CF.out.mono ?_;rintro e w6 ⟨za,zc,rfl,hA6,hb6⟩;have K6:=hid (K1.out.low (fun b h=>by have h':b<w.heap.size:=h;have:=SZ.out;simp;omega) hb6);have M6:=hid ((M1.out.low' hb6).put (fun _ h=>h) (hA6.mono fun b hb=>by
            rcases hb with (h|h)|h
            · exact .inl h
            · exact .inr ⟨h.1,by have:=h.2;have:=hb6.size;simp at *;omega⟩
            · exact .inr ⟨by have:=SZ.out;have:=h.1;simp at *;omega,h.2⟩))
          have L6:=hid (M1.out.low' hb6);clear hA6 hb6 CF x0 x1 x2 x3 c0 c1 c2 c3 c4 q0 q1 q2 q3 q4;have k6:=L6.out.k;obtain⟨x0,x1,x2,x3⟩:=k6.c03;obtain⟨g0,g1,g2,g3⟩:=k6.f03;clear k6;go_wp2;go_roundw
          case measure=>simp[intOf];omega
          case rel=>exact⟨i+1,za,zc,by go_num,by omega,K6.out.off4 (Nat.lt_succ_of_lt (Nat.lt_succ_self _)) (fun b h=>h),by rw[TK2.out];exact M6.out⟩
        · obtain rfl:i=(bn_ R).1.length:=by omega
          rw[List.take_length] at hM;have K5:=hid hK;have M5:Hid (FlM (Lt w.heap.size) w wr (lV_ (apQ R t) ((bn_ R).1.take 0) (apP R t)).1 xa xc):=hid hM;clear hK hM hi hil K3 M3;go_wp2
          go_loopw [63] (fun iv wr=>∃ (i:Nat) (xa:OA_) (xc:Nat),iv=.int .i64 (i:Int)∧i≤(bn_ R).1.length∧dY_ (Lt w.heap.size) (w.heap.size+2) wr (.slice oa (bn_ R).1.length oc) (bn_ R).1 ps∧FlM (Lt w.heap.size) w wr (lV_ (apQ R t) ((bn_ R).1.take i) (apP R t)).1 xa xc) (fun iv _=>(bn_ R).1.length - (intOf iv).toNat)
          case atStart=>exact⟨0,xa,xc,rfl,Nat.zero_le _,K5.out,M5.out⟩
          case round =>
            obtain⟨i,xa,xc,rfl,hil,hK,hM⟩:=hrel;have i0:(0:Int)≤(i:Int):=by omega
            by_cases hi:i<(bn_ R).1.length
            · obtain⟨b,off,hov,hb,hcc⟩:∃ b off,oa=some ⟨b,off,none⟩∧b<wr.heap.size∧∀ i (h:i<(bn_ R).1.length),∃ xa xc,(∀ j u,j<5→(ez_ (bn_ R).1[i] (.slice xa (bn_ R).1[i].2.args.length xc))[j]? = some u→wr.cell? ⟨b,off+i*5+j,none⟩=some u)∧aa_ (Lt w.heap.size) wr (.slice xa (bn_ R).1[i].2.args.length xc) (bn_ R).1[i].2.args:=hK.cells5 (by omega)
              subst hov;obtain⟨ya,yc,h1,h2⟩:=hcc i hi;have i1:(i:Int)<((bn_ R).1.length:Int):=(by omega);have i2:(i:Int)<100:=(by have:=FL.out;omega);have q0:wr.cell? ⟨b,off+i*5,none⟩=some (.int .i64 (bn_ R).1[i].1):=h1 0 _ (by omega) rfl;have q1:=h1 1 _ (by omega) rfl;have q2:=h1 2 _ (by omega) rfl;have q3:=h1 3 _ (by omega) rfl;have q4:=h1 4 _ (by omega) rfl;have XS:=hid (FS.out _ (List.getElem_mem hi));have HX:=hid (HQ.out i hil);have HX1:=hid (HQ.out (i+1) hi);have TK:=hid (np_ (q:=apQ R t) (t:=(apP R t)) hi);rw[TK.out] at HX1;have hz:=ar_ wr (.cells #[.int .i64 (bn_ R).1[i].1,.int .i64 (bn_ R).1[i].2.kind,.string (bn_ R).1[i].2.name,.int .i64 (bn_ R).1[i].2.n,.slice ya (bn_ R).1[i].2.args.length yc] 39);have b5:=B5.new wr (bn_ R).1[i].1 (bn_ R).1[i].2 ya yc;have hwl:∀ b,Lt w.heap.size b→b<wr.heap.size:=fun b h=>by have:=hM.g.size;have h':b<w.heap.size:=h;omega
              have K1:=hid (hK.low hwl hz);have M1:=hid (hM.low' hz);have XU:=hid ((h2.keep fun b hb=>hz.block b (hwl b hb)).mono (S':=SF w.heap.size (wr.heap.size+1)) fun b hb=>.inl hb);have MTS:Hid (bf_ (mt (apQ R t+1+(i:Int)))):=hid (sH_ (by omega) (by omega)).small;have SZ:Hid (w.heap.size+2≤wr.heap.size):=hid hM.s;have k4:=M1.out.k;obtain⟨x0,x1,x2,x3⟩:=k4.c03;have c0:=b5.c0;have c1:=b5.c1;have c2:=b5.c2;have c3:=b5.c3;have c4:=b5.c4;clear hcc h1 h2 hb hK hM hz b5 hwl k4;generalize (bn_ R).1[i]=x at *;generalize hX:(lV_ (apQ R t) ((bn_ R).1.take i) (apP R t)).1=X at *;have TK2:=hid TK.out;clear hX TK;have CF:=hid (gy_ (apQ R t+1+(i:Int)) x.2 X (SF w.heap.size (wr.heap.size+1)) xa ya xc yc (wr.alloc (.cells #[.int .i64 x.1,.int .i64 x.2.kind,.string x.2.name,.int .i64 x.2.n,.slice ya x.2.args.length yc] 39)) HX.out.1 XS.out.1.1 HX.out.2.1 XS.out.1.2.1 (M1.out.a.mono fun b hb=>hb.imp id fun h=>⟨h.1,by have:=h.2;simpa using this⟩) (XU.out) (fun b hb=>by have h2:=SZ.out;rcases hb with h|h;simp;omega;have:=h.2;simpa using this) (ak_ HT.out M1.out.g));unfold TP tv at CF;go_wp2_with fail;refine CF.out.mono ?_;rintro e w6 ⟨za,zc,rfl,hA6,hb6⟩;have K6:=hid (K1.out.low (fun b h=>by have h':b<w.heap.size:=h;have:=SZ.out;simp;omega) hb6);have M6:=hid ((M1.out.low' hb6).put (fun _ h=>h) (hA6.mono fun b hb=>by
                rcases hb with (h|h)|h
                · exact .inl h
                · exact .inr ⟨h.1,by have:=h.2;have:=hb6.size;simp at *;omega⟩
                · exact .inr ⟨by have:=SZ.out;have:=h.1;simp at *;omega,h.2⟩))
              have L6:=hid (M1.out.low' hb6);clear hA6 hb6 CF x0 x1 x2 x3 c0 c1 c2 c3 c4 q0 q1 q2 q3 q4;have k6:=L6.out.k;obtain⟨x0,x1,x2,x3⟩:=k6.c03;obtain⟨g0,g1,g2,g3⟩:=k6.f03;clear k6;go_wp2;go_roundw
              case measure=>simp[intOf];omega
              case rel=>exact⟨i+1,za,zc,by go_num,by omega,K6.out.off4 (Nat.lt_succ_of_lt (Nat.lt_succ_self _)) (fun b h=>h),by rw[TK2.out];exact M6.out⟩
            · obtain rfl:i=(bn_ R).1.length:=by omega
              rw[List.take_length] at hM;have hM':FlM (Lt w.heap.size) w wr (apF R t) xa xc:=hM;have MR:=hid hM';obtain⟨y0,y1,y2,y3⟩:=hM'.z.c03;obtain⟨fz0,fz1,fz2,fz3⟩:=hM'.z.f03;have k4:=hM'.k;obtain⟨x0,x1,x2,x3⟩:=k4.c03;clear hK hM hM' k4;generalize apF R t=x at *;go_wp2;have q:=MR.out.z.set4 (.int .i64 x.kind) (.string x.name) (.int .i64 x.n) (.slice xa x.args.length xc);refine bodyPost_ret (v:=tv x xa xc) (by simp[results,Tryz.results28,go_sem,tv,q.c0,q.c1,q.c2,q.c3]) rfl ?_;have off:∀ b,b≠w.heap.size+1→((((wr.setCell ⟨w.heap.size+1,0,none⟩ (.int .i64 x.kind)).setCell ⟨w.heap.size+1,1,none⟩ (.string x.name)).setCell ⟨w.heap.size+1,2,none⟩ (.int .i64 x.n)).setCell ⟨w.heap.size+1,3,none⟩ (.slice xa x.args.length xc)).heap[b]? = wr.heap[b]? := fun b hb=>by
                rw[au_ _ _ _ _ hb,au_ _ _ _ _ hb,au_ _ _ _ _ hb,au_ _ _ _ _ hb]
              have hsz4:((((wr.setCell ⟨w.heap.size+1,0,none⟩ (.int .i64 x.kind)).setCell ⟨w.heap.size+1,1,none⟩ (.string x.name)).setCell ⟨w.heap.size+1,2,none⟩ (.int .i64 x.n)).setCell ⟨w.heap.size+1,3,none⟩ (.slice xa x.args.length xc)).heap.size=wr.heap.size:=(by simp);refine⟨xa,xc,rfl,?_,(((MR.out.g.setCell (p:=⟨w.heap.size+1,0,none⟩) (Nat.le_succ _) _).setCell (p:=⟨w.heap.size+1,1,none⟩) (Nat.le_succ _) _).setCell (p:=⟨w.heap.size+1,2,none⟩) (Nat.le_succ _) _).setCell (p:=⟨w.heap.size+1,3,none⟩) (Nat.le_succ _) _⟩;unfold AtW;rw[hsz4];exact (MR.out.a.keep fun b hb=>off b (by rcases hb with h|h;have h':b<w.heap.size:=h;omega;have:=h.1;omega)).mono fun b hb=>by
                have:=MR.out.s;show b<wr.heap.size
                rcases hb with h|h
                · have h':b<w.heap.size:=h;omega
                · exact h.2
end
section
theorem iZ_:∀ (l:List Int) (a:Int),a≤l.foldl max a∧(∀ x∈l,x≤l.foldl max a)∧∀ B:Int,a≤B→(∀ x∈l,x≤B)→l.foldl max a≤B:=by
 intro l
 induction l with
 | nil=>intro a;exact⟨Int.le_refl _,(fun x h=>by cases h),fun B h _=>h⟩
 | cons y l ih =>
  intro a;rw[List.foldl_cons];obtain⟨h1,h2,h3⟩:=ih (max a y);refine⟨by omega,fun x hx=>?_,fun B hB hl=>h3 B (by have:=hl y (by simp);omega) fun x hx=>hl x (by simp[hx])⟩
  rcases List.mem_cons.1 hx with rfl|hx
  ·omega
  ·exact h2 x hx
theorem kw_ (t:Ty):0≤mxT t∧∀ m∈aR_ t,m≤mxT t:=by
 unfold mxT Lib.maxOf;obtain⟨_,h2,_⟩:=iZ_ (aR_ t++[0]) ((aR_ t++[0]).headD 0);exact⟨h2 0 (by simp),fun m hm=>h2 m (by simp[hm])⟩
theorem p6_ {t:Ty}{B:Int}(hB:0≤B)(h:∀ m∈aR_ t,m≤B):mxT t≤B:=by
 unfold mxT Lib.maxOf;have hall:∀ x∈aR_ t++[0],x≤B:=fun x hx=>by
  rcases List.mem_append.1 hx with hx|hx
  ·exact h x hx
  ·rw[List.mem_singleton.1 hx];exact hB
 refine (iZ_ _ _).2.2 B ?_ hall;cases hm:aR_ t++[0] with
 | nil=>exact hB
 | cons y l=>exact hall y (by rw[hm];simp)
structure Fd (R:Kn)(p:Kn × Int)(B:Int):Prop where
 lk:∀ x,lkK p.1 x=lkK R x
 q0:0≤p.2
 qB:p.2≤B
 ge:∀ e∈p.1,e.1≤p.2∧mxT e.2≤p.2
theorem iT_ (A:Kn)(x:Int × Ty)(m:Int):lkK (A++[x]) m=match lkK A m with|some u=>some u|none=>if x.1=m then some x.2 else none:=by
 unfold lkK;rw[List.find?_append];cases hf:A.find? (fun x=>x.1==m) with
 | none =>
  by_cases e:x.1=m
  ·simp[e]
  ·have:(x.1==m)=false:=beq_eq_false_iff_ne.2 e
   simp[e,this]
 | some y=>rfl
theorem sX_ {F:Kn}{m:Int} : pv_ F m=true↔lkK F m≠none:=by
 unfold pv_;rw[Ne,cZ_,Classical.not_not,List.any_eq_true]
 constructor
 ·rintro ⟨x,hx,e⟩;exact List.mem_map.2 ⟨x,hx,by simpa using e⟩
 ·intro h;obtain⟨x,hx,e⟩:=List.mem_map.1 h;exact⟨x,hx,by simpa using e⟩
theorem qe_ {B:Int}(hB:0≤B)(R:Kn)(h:∀ e∈R,e.1≤B∧∀ m∈aR_ e.2,m≤B):Fd R (bn_ R) B:=by
 have key:∀ (S P:Kn) (p:Kn × Int),(∀ e∈S,e.1≤B∧∀ m∈aR_ e.2,m≤B)→Fd P p B→Fd (P++S) (S.foldl lK_ p) B:=by
  intro S
  induction S with
  | nil=>intro P p _ h;rw[List.append_nil];exact h
  | cons x S ih =>
   intro P p hS hp;rw[List.foldl_cons,show P++x :: S=(P++[x])++S from by simp];refine ih (P++[x]) (lK_ p x) (fun e he=>hS e (by simp[he])) ?_;unfold lK_
   by_cases hd:pv_ p.1 x.1=true
   ·rw[if_pos hd]
    refine⟨fun m=>?_,hp.q0,hp.qB,hp.ge⟩;rw[iT_,hp.lk];cases hl:lkK P m with
    | some u=>rfl
    | none =>
     have:¬ x.1=m:=fun e=>by
      have:=sX_.1 hd;rw[e,hp.lk,hl] at this;exact this rfl
     simp only;rw[if_neg this]
   ·rw[if_neg hd]
    have hx:=hS x (by simp);have h1:=kw_ x.2;have h2:=p6_ hB hx.2;have h3:p.2≤mxI (mxI p.2 x.1) (mxT x.2)∧x.1≤mxI (mxI p.2 x.1) (mxT x.2)∧mxT x.2≤mxI (mxI p.2 x.1) (mxT x.2)∧mxI (mxI p.2 x.1) (mxT x.2)≤B:=by
     have:=hp.qB;have:=hx.1;unfold mxI
     split<;>split<;>omega
    refine⟨fun m=>by rw[iT_,iT_,hp.lk],by have:=hp.q0;have:=h3.1;simp only;omega,h3.2.2.2,fun e he=>?_⟩
    rcases List.mem_append.1 he with he|he
    ·have:=hp.ge e he;exact⟨by simp only;omega,by simp only;omega⟩
    ·rw[List.mem_singleton.1 he];exact⟨h3.2.1,h3.2.2.1⟩
 have:=key R [] ([],0) h ⟨fun _=>rfl,Int.le_refl _,hB,fun e he=>by cases he⟩;rwa [List.nil_append] at this
def lkD (R:Kn):Int→Ty:=fun x=>match lkK R x with|some u=>dbT [] u|none=>mt x
def rho (q:Int):Kn→Nat→Int→Ty
 | [],_,x=>mt x
 | e :: F,k,x=>if x=e.1 then mt (q+1+(k:Int)) else rho q F (k+1) x
def tau (q:Int):Kn→Nat→Int→Ty
 | [],_,x=>mt x
 | e :: F,k,x=>if x=q+1+(k:Int) then dbT [] e.2 else tau q F (k+1) x
theorem qR_ {q:Int} : ∀ (F:Kn) (k:Nat) (x:Int),(∀ e∈F,e.1≤q)→q<x→rho q F k x=mt x:=by
 intro F
 induction F with
 | nil=>intro k x _ _;rfl
 | cons e F ih=>intro k x h hx;rw[rho,if_neg (by have:=h e (by simp);omega)];exact ih _ _ (fun y hy=>h y (by simp[hy])) hx
theorem ix_ {q:Int} : ∀ (F:Kn) (k:Nat) (x:Int),x≤q+(k:Int)→tau q F k x=mt x:=by
 intro F
 induction F with
 | nil=>intro k x _;rfl
 | cons e F ih=>intro k x hx;rw[tau,if_neg (by omega)];exact ih _ _ (by omega)
theorem s0_ {q:Int} : ∀ (F:Kn) (k:Nat) (t:Ty),Std t→0≤q→q<100000000000000000→k+F.length≤1000→(∀ e∈F,e.1≤q)→Std (F.foldl (pZ_ q) (t,k)).1∧dbT [] (F.foldl (pZ_ q) (t,k)).1=fl (rho q F k) (dbT [] t):=by
 intro F
 induction F with
 | nil=>intro k t hs _ _ _ _;exact⟨hs,(jL_ _ (d9_ t [] hs) fun _ _=>rfl).symm⟩
 | cons e F ih =>
  intro k t hs h0 h1 hl he;rw[List.length_cons] at hl;have hm:Std (mt (q+1+(k:Int))):=(aX_ _).2 ⟨.inr (.inl ⟨rfl,rfl,rfl,by show 0≤q+1+(k:Int);omega,by show q+1+(k:Int) < _;omega⟩),fun a ha=>by cases ha⟩;rw[List.foldl_cons];show Std (F.foldl (pZ_ q) (co_ e.1 (mt (q+1+(k:Int))) t,k+1)).1∧_;obtain⟨a1,a2⟩:=ih (k+1) (co_ e.1 (mt (q+1+(k:Int))) t) (gx_ _ _ _ hs hm) h0 h1 (by omega) fun y hy=>he y (by simp[hy]);refine⟨a1,?_⟩;rw[show pZ_ q (t,k) e=(co_ e.1 (mt (q+1+(k:Int))) t,k+1) from rfl,a2,f1_ _ _ _ hs,ov_ _ _ _ (d9_ t [] hs),gv_];refine cI_ _ fun x _=>?_;rw[rho]
  by_cases ex:x=e.1
  ·subst ex
   rw[bS_,if_pos rfl,show dbT [] (mt (q+1+(k:Int)))=mt (q+1+(k:Int)) from rfl,c1_,qR_ F _ _ (fun y hy=>he y (by simp[hy])) (by omega)]
  ·rw[cK_ _ ex,if_neg ex,c1_]
theorem s1_ {q:Int} : ∀ (F:Kn) (k:Nat) (t:Ty),Std t→(∀ e∈F,Std e.2∧mxT e.2≤q)→Std (F.foldl (qd_ q) (t,k)).1∧dbT [] (F.foldl (qd_ q) (t,k)).1=fl (tau q F k) (dbT [] t):=by
 intro F
 induction F with
 | nil=>intro k t hs _;exact⟨hs,(jL_ _ (d9_ t [] hs) fun _ _=>rfl).symm⟩
 | cons e F ih =>
  intro k t hs he;obtain⟨es,em⟩:=he e (by simp);rw[List.foldl_cons];show Std (F.foldl (qd_ q) (co_ (q+1+(k:Int)) e.2 t,k+1)).1∧_;obtain⟨a1,a2⟩:=ih (k+1) (co_ (q+1+(k:Int)) e.2 t) (gx_ _ _ _ hs es) fun y hy=>he y (by simp[hy]);refine⟨a1,?_⟩;rw[show qd_ q (t,k) e=(co_ (q+1+(k:Int)) e.2 t,k+1) from rfl,a2,f1_ _ _ _ hs,ov_ _ _ _ (d9_ t [] hs),gv_];refine cI_ _ fun x _=>?_;rw[tau]
  by_cases ex:x=q+1+(k:Int)
  ·subst ex
   rw[bS_,if_pos rfl];exact jL_ _ (d9_ e.2 [] es) fun m hm=>ix_ F _ _ (by
    have:=(kw_ e.2).2 m ((cC_ es).2 hm);omega)
  ·rw[cK_ _ ex,if_neg ex,c1_]
theorem qA_ {q:Int} : ∀ (F:Kn) (k:Nat) (x:Int),(∀ e∈F,e.1≤q)→x≤q→fl (tau q F k) (rho q F k x)=lkD F x∧∃ y,rho q F k x=mt y∧(y=x∨q+1+(k:Int)≤y):=by
 intro F
 induction F with
 | nil=>intro k x _ _;exact⟨c1_ _ x,x,rfl,.inl rfl⟩
 | cons e F ih =>
  intro k x he hx
  by_cases ex:x=e.1
  ·have e1:rho q (e :: F) k x=mt (q+1+(k:Int)):=by rw[rho,if_pos ex]
   refine⟨?_,_,e1,.inr (Int.le_refl _)⟩;rw[e1,c1_,tau,if_pos rfl];unfold lkD lkK;rw[List.find?_cons,show (e.1==x)=true from by simp[ex]];rfl
  ·have e1:rho q (e :: F) k x=rho q F (k+1) x:=by rw[rho,if_neg ex]
   obtain⟨h1,y,hy,hc⟩:=ih (k+1) x (fun z hz=>he z (by simp[hz])) hx;rw[e1];refine⟨?_,y,hy,hc.imp id fun h=>by omega⟩;have e2:lkD (e :: F) x=lkD F x:=by
    unfold lkD lkK;rw[List.find?_cons,show (e.1==x)=false from beq_eq_false_iff_ne.2 fun h=>ex h.symm]
   rw[e2,← h1,hy,c1_,c1_,tau,if_neg]
   rcases hc with h|h<;>omega
structure Ni (NL:List ByteArray)(fr:Nat)(X:Ty):Prop where
 st:Std X
 gd:bF_ X
 vn:Al (VOk NL fr) (dbT [] X)
 sz:(dbT [] X).size≤LIM
section
variable {NL : List ByteArray} {fr : Nat}
theorem Ni.small (hl:NL.length+fr≤3000000){X:Ty}(h:Ni NL fr X):bf_ X:=by
 have h1:=(of_decide_eq_true (ti_sm hl h.st ⟨h.sz,h.vn⟩:smB X=true));exact⟨h.gd,by have:=h1.1;omega,by have:=h1.2;omega⟩
theorem sG_ {m:Int}(h0:0≤m)(h1:m<1000000000000000000):Ni NL fr (mt m) :=
 ⟨(aX_ _).2 ⟨.inr (.inl ⟨rfl,rfl,rfl,h0,h1⟩),fun a ha=>by cases ha⟩,⟨(a4_ _).2 ⟨.inr (.inl ⟨rfl,rfl,h0,h1⟩),fun a ha=>by cases ha⟩,(cd_ _).2 ⟨⟨fun e=>absurd (show (2:Int)=5 from e) (by decide),by show (0:Nat)≤64;omega⟩,fun a ha=>by cases ha⟩⟩,l0_ NL fr m,by show 1≤LIM;unfold LIM;omega⟩
theorem Ni.fill {X u:Ty}(h:Ni NL fr X)(hu:Ni NL fr u)(m:Int)(hz:(fl (one m (dbT [] u)) (dbT [] X)).size≤LIM):Ni NL fr (co_ m u X):=by
 have e:dbT [] (co_ m u X)=fl (one m (dbT [] u)) (dbT [] X):=by rw[f1_ _ _ _ h.st,ov_ _ _ _ (d9_ X [] h.st)]
 have h1:=h.sz;have h2:=hu.sz;rw[bI_ X h.st] at h1;rw[bI_ u hu.st] at h2;unfold LIM at h1 h2;refine⟨gx_ _ _ _ h.st hu.st,er_ m u X h.gd hu.gd (by omega) (by omega),?_,by rw[e];exact hz⟩;rw[e];refine gJ_ (hM_ _ _) _ h.vn fun x _=>?_;unfold one
 split
 ·exact hu.vn
 ·exact l0_ _ _ _
theorem p4_ {q:Int} : ∀ (F:Kn) (k:Nat) (t:Ty),Ni NL fr t→0≤q→q<100000000000000000→k+F.length≤1000→Ni NL fr (F.foldl (pZ_ q) (t,k)).1:=by
 intro F
 induction F with
 | nil=>intro k t h _ _ _;exact h
 | cons e F ih =>
  intro k t h h0 h1 hl;rw[List.length_cons] at hl;rw[List.foldl_cons];refine ih (k+1) (co_ e.1 (mt (q+1+(k:Int))) t) (h.fill (sG_ (by omega) (by omega)) _ ?_) h0 h1 (by omega);refine bN_ (bN_ (d8_ (g:=mt) _ fun x _=>?_) (Nat.le_of_eq (by rw[jL_ _ (d9_ t [] h.st) fun _ _=>rfl]))) h.sz;unfold one
  split<;>exact aD_ _
theorem p5_ {q:Int} : ∀ (F:Kn) (k:Nat) (t:Ty),Ni NL fr t→(∀ e∈F,Ni NL fr e.2∧mxT e.2≤q)→(fl (tau q F k) (dbT [] t)).size≤LIM→Ni NL fr (F.foldl (qd_ q) (t,k)).1:=by
 intro F
 induction F with
 | nil=>intro k t h _ _;exact h
 | cons e F ih =>
  intro k t h he hz;obtain⟨en,em⟩:=he e (by simp);rw[List.foldl_cons];have hone:(fl (one (q+1+(k:Int)) (dbT [] e.2)) (dbT [] t)).size≤LIM:=by
   refine bN_ (d8_ _ fun x _=>?_) hz;rw[tau]
   by_cases ex:x=q+1+(k:Int)
   ·rw[ex,bS_,if_pos rfl];exact aD_ _
   ·rw[cK_ _ ex];exact eZ_ _
  refine ih (k+1) (co_ (q+1+(k:Int)) e.2 t) (h.fill en _ hone) (fun y hy=>he y (by simp[hy])) ?_;rw[f1_ _ _ _ h.st,ov_ _ _ _ (d9_ t [] h.st),gv_];refine bN_ (Nat.le_of_eq (congrArg Ty.size (cI_ _ fun x _=>?_))) hz;rw[tau]
  by_cases ex:x=q+1+(k:Int)
  ·subst ex
   rw[bS_,if_pos rfl];exact jL_ _ (d9_ e.2 [] en.st) fun m hm=>ix_ F _ _ (by
    have:=(kw_ e.2).2 m ((cC_ en.st).2 hm);omega)
  ·rw[cK_ _ ex,if_neg ex,c1_]
theorem oj_ {q:Int} : ∀ (F:Kn) (k i:Nat) (x:Int),(tau q (F.take i) k x).size≤(tau q F k x).size:=by
 intro F
 induction F with
 | nil=>intro k i x;rw[List.take_nil];exact aD_ _
 | cons e F ih =>
  intro k i x;cases i with
  | zero=>exact eZ_ _
  | succ i =>
   rw[List.take_succ_cons,tau,tau]
   split
   ·exact aD_ _
   ·exact ih _ _ _
theorem s9_ {R:Kn}{t:Ty}{B:Int}(hB:0≤B)(hB2:B≤10000000000000000)(hl:R.length≤100)(hR:∀ e∈R,Ni NL fr e.2∧0≤e.1∧e.1≤B∧∀ m∈aR_ e.2,m≤B)(ht:Ni NL fr t)(htB:∀ m∈aR_ t,m≤B)(hz:(fl (lkD R) (dbT [] t)).size≤LIM)(hn:NL.length+fr≤3000000) :
  (0≤apQ R t∧apQ R t<100000000000000000)∧(∀ i,i≤R.length→0≤(bn_ (R.take i)).2∧(bn_ (R.take i)).2<100000000000000000)∧(∀ i,i≤(bn_ R).1.length→bf_ (mI_ (apQ R t) ((bn_ R).1.take i) t).1)∧(∀ i,i≤(bn_ R).1.length→bf_ (lV_ (apQ R t) ((bn_ R).1.take i) (apP R t)).1) ∧
   Ni NL fr (apF R t)∧dbT [] (apF R t)=fl (lkD R) (dbT [] t):=by
 have D:=qe_ hB R fun e he=>⟨(hR e he).2.2.1,(hR e he).2.2.2⟩;have h1:=kw_ t;have h2:=p6_ hB htB;have hq:(bn_ R).2≤apQ R t∧mxT t≤apQ R t∧apQ R t≤B:=by
  have:=D.qB;unfold apQ mxI
  split<;>omega
 have q0:0≤apQ R t:=by omega
 have q1:apQ R t<100000000000000000:=by omega
 have fl1:=hV_ R;have fk:∀ e∈(bn_ R).1,e.1≤apQ R t:=fun e he=>by have:=(D.ge e he).1;omega
 have fe:∀ e∈(bn_ R).1,Ni NL fr e.2∧mxT e.2≤apQ R t:=fun e he=>⟨(hR e (kD_ e he)).1,by have:=(D.ge e he).2;omega⟩;have np:Ni NL fr (apP R t):=p4_ (bn_ R).1 0 t ht q0 q1 (by omega);obtain⟨_,dp⟩:=s0_ (q:=apQ R t) (bn_ R).1 0 t ht.st q0 q1 (by omega) fk;have dp':dbT [] (apP R t)=fl (rho (apQ R t) (bn_ R).1 0) (dbT [] t):=dp;have hcomp:fl (tau (apQ R t) (bn_ R).1 0) (dbT [] (apP R t))=fl (lkD R) (dbT [] t):=by
  rw[dp',gv_];refine cI_ _ fun x hx=>?_;have hx2:x≤apQ R t:=by have:=h1.2 x ((cC_ ht.st).2 hx);omega
  rw[(qA_ (bn_ R).1 0 x fk hx2).1];unfold lkD;rw[D.lk]
 have nf:Ni NL fr (apF R t):=p5_ (bn_ R).1 0 (apP R t) np fe (by rw[hcomp];exact hz);obtain⟨_,df⟩:=s1_ (q:=apQ R t) (bn_ R).1 0 (apP R t) np.st fun e he=>⟨(fe e he).1.st,(fe e he).2⟩;refine⟨⟨q0,q1⟩,fun i _=>?_,fun i _=>(p4_ ((bn_ R).1.take i) 0 t ht q0 q1 (by rw[List.length_take];omega)).small hn,fun i _=>(p5_ ((bn_ R).1.take i) 0 (apP R t) np (fun e he=>fe e (List.mem_of_mem_take he)) ?_).small hn,nf,by show dbT [] (apF R t)=_;rw[show dbT [] (apF R t)=fl (tau (apQ R t) (bn_ R).1 0) (dbT [] (apP R t)) from df,hcomp]⟩
 ·have D2:=qe_ hB (R.take i) fun e he=>⟨(hR e (List.mem_of_mem_take he)).2.2.1,(hR e (List.mem_of_mem_take he)).2.2.2⟩
  exact⟨D2.q0,by have:=D2.qB;omega⟩
 ·refine bN_ (d8_ _ fun x _=>oj_ _ _ _ _) (by rw[hcomp];exact hz)
end
def ddI:List Int→List Int
 | []=>[]
 | x :: l=>if x∈ddI l then ddI l else x :: ddI l
theorem rL_:∀ {l:List Int} {x:Int},x∈ddI l↔x∈l:=by
 intro l
 induction l with
 | nil=>intro x;exact Iff.rfl
 | cons y l ih =>
  intro x;rw[ddI]
  split
  ·next h =>
   rw[ih,List.mem_cons];exact⟨.inr,fun h2=>h2.elim (fun e=>by rw[e];exact ih.1 h) id⟩
  ·rw[List.mem_cons,List.mem_cons,ih]
theorem nA_:∀ l:List Int,(ddI l).Nodup:=by
 intro l
 induction l with
 | nil=>exact List.nodup_nil
 | cons y l ih =>
  rw[ddI]
  split
  ·exact ih
  ·next h=>exact List.nodup_cons.2 ⟨h,ih⟩
theorem sJ_:∀ (t:Ty) (env:List ByteArray),Std t→mn (dbT env t)≤nsT t:=by
 intro t
 induction t using Ty.ind with
 | h t ih =>
  intro env hs;have hl:∀ (l:List Ty) (env:List ByteArray),(∀ a∈l,a∈t.args)→mnL (l.map (dbT env))≤nsL l:=by
   intro l
   induction l with
   | nil=>intro _ _;exact aD_ _
   | cons a l ihl =>
    intro env hm;rw[List.map_cons,mnL,nsL];have:=ih a (hm a (by simp)) env (hs.args a (hm a (by simp)));have:=ihl env fun b hb=>hm b (by simp[hb]);omega
  rw[iP_]
  by_cases h5:t.kind=5
  ·rw[aM_ _ _ h5,pd_]
   show (if (5:Int)=2 then 1 else mnL (t.args.map _))≤_;rw[if_neg (by decide)];have:=hl t.args (t.name :: env) fun a ha=>ha;omega
  ·by_cases h1:t.kind=1
   ·rw[aS_ _ _ h1,if_pos (.inl h1),pd_]
    unfold cR_;cases ixN env t.name with
    | none=>rw[if_neg (show (Ty.mk 1 t.name t.n []).kind≠2 from by show (1:Int)≠2;decide)];exact Nat.zero_le _
    | some i=>rw[if_neg (show (Ty.mk 6 emp (i:Int) []).kind≠2 from by show (6:Int)≠2;decide)];exact Nat.zero_le _
   ·rw[aw_ _ _ h1 h5,pd_]
    show (if t.kind=2 then 1 else mnL (t.args.map _))≤_
    by_cases h2:t.kind=2
    ·rw[if_pos h2,if_pos (.inr h2)];omega
    ·rw[if_neg h2]
     have:=hl t.args env fun a ha=>ha;omega
theorem l1_ {NL:List ByteArray} : ∀ (t:Ty) (env:List ByteArray),Mk t→(∀ s,fvT s t→s∉env→s∈NL)→Al (VOk NL 0) (dbT env t):=by
 intro t
 induction t using Ty.ind with
 | h t ih =>
  intro env hm hf;have hlx:=(bR_ t).1 hm.2
  by_cases h5:t.kind=5
  ·rw[aM_ _ _ h5]
   refine .mk _ ⟨fun h=>absurd (show (5:Int)=1 from h) (by decide),fun h=>absurd (show (5:Int)=3 from h) (by decide)⟩ fun a ha=>?_;obtain⟨b,hb,rfl⟩:=List.mem_map.1 ha;refine ih b hb _ ⟨hm.1.args b hb,hlx.2 b hb⟩ fun s hs hn=>?_;rw[List.mem_cons,not_or] at hn;exact hf s ((aJ_ s t).2 (.inr ⟨⟨b,hb,hs⟩,fun e=>hn.1 e.2.symm⟩)) hn.2
  ·by_cases k1:t.kind=1
   ·rw[aS_ _ _ k1]
    unfold cR_;cases hi:ixN env t.name with
    | some i=>exact .mk _ ⟨fun h=>absurd (show (6:Int)=1 from h) (by decide),fun h=>absurd (show (6:Int)=3 from h) (by decide)⟩ fun a ha=>by cases ha
    | none=>exact .mk _ ⟨fun _=>.inl (hf t.name ((aJ_ _ t).2 (.inl ⟨k1,rfl⟩)) ((cn_ _ _).1 hi)),fun h=>absurd (show (1:Int)=3 from h) (by decide)⟩ fun a ha=>by cases ha
   ·rw[aw_ _ _ k1 h5]
    refine .mk _ ⟨fun h=>absurd h k1,fun h=>?_⟩ fun a ha=>?_
    ·obtain⟨c1,c2⟩:=hlx.1.2.1 h
     refine⟨⟨kv_ c1,fun c hc=>?_⟩,c2⟩;have hin:=c1.inner c hc;unfold inW;rw[Bool.not_eq_true',Bool.or_eq_false_iff,Bool.or_eq_false_iff,Bool.or_eq_false_iff,Bool.or_eq_false_iff];simp only[beq_eq_false_iff_ne];refine⟨⟨⟨⟨?_,?_⟩,?_⟩,?_⟩,?_⟩<;>(rintro rfl;exact absurd hin (by decide))
    ·obtain⟨b,hb,rfl⟩:=List.mem_map.1 ha
     exact ih b hb env ⟨hm.1.args b hb,hlx.2 b hb⟩ fun s hs hn=>hf s ((aJ_ s t).2 (.inr ⟨⟨b,hb,hs⟩,fun e=>h5 e.1⟩)) hn
theorem dt_ {t:Ty}(h:Mk t):∀ m∈aR_ t,0≤m∧m<1000000:=by
 have key:∀ t:Ty,Mk t→∀ m,¬ noP (bL_ m) t→0≤m∧m<1000000:=by
  intro t
  induction t using Ty.ind with
  | h t ih =>
   intro h m hn;rw[gj_] at hn
   by_cases hi:bL_ m (c9_ t)=true
   ·have hi:(t.kind==2&&t.n==m)=true:=hi
    rw[Bool.and_eq_true,beq_iff_eq,beq_iff_eq] at hi;obtain⟨h2,rfl⟩:=hi;exact⟨(h.1.k2 h2).2.2.1,((bR_ t).1 h.2).1.2.2 h2⟩
   ·have:∃ a∈t.args,¬ noP (bL_ m) a:=Classical.byContradiction fun hh=>hn ⟨by simpa using hi,fun a ha=>Classical.byContradiction fun hx=>hh ⟨a,ha,hx⟩⟩
    obtain⟨a,ha,hx⟩:=this;exact ih a ha ⟨h.1.args a ha,((bR_ t).1 h.2).2 a ha⟩ m hx
 exact fun m hm=>key t h m ((iQ_ m t).1 hm)
structure Es (es:List EqT):Prop where
 ok:∀ e∈es,QOk e
 ns:nsE es≤24
 ln:es.length≤16
def LE (es:List EqT):List Int:=ddI (es.flatMap fun e=>aR_ e.1++aR_ e.2)
def nE (es:List EqT)(m:Int):Nat:=(es.map fun e=>oc m (dbT [] e.1)+oc m (dbT [] e.2)).sum
def NLE (es:List EqT):List ByteArray:=es.flatMap fun e=>af_ e.1++af_ e.2
theorem pX_ {α : Type}{l:List α}{f g:α→Nat}(h:∀ x∈l,f x≤g x):(l.map f).sum≤(l.map g).sum:=by
 induction l with
 | nil=>exact aD_ _
 | cons x l ih =>
  rw[List.map_cons,List.map_cons,List.sum_cons,List.sum_cons];have:=h x (by simp);have:=ih fun y hy=>h y (by simp[hy]);omega
theorem qD_ {α : Type}{l:List α}{f:α→Nat}{x:α}(h:x∈l):f x≤(l.map f).sum:=by
 induction l with
 | nil=>cases h
 | cons y l ih =>
  rw[List.map_cons,List.sum_cons]
  rcases List.mem_cons.1 h with rfl|h
  ·omega
  ·have:=ih h;omega
theorem iA_ {α : Type}(l:List α)(c:Nat):(l.map fun _=>c).sum=l.length*c:=by
 induction l with
 | nil=>simp
 | cons y l ih=>rw[List.map_cons,List.sum_cons,ih,List.length_cons,Nat.add_mul];omega
theorem n6_ {es:List EqT}(E:Es es):∀ m∈LE es,1≤nE es m∧0≤m∧m<1000000:=by
 intro m hm;unfold LE at hm;rw[rL_,List.mem_flatMap] at hm;obtain⟨e,he,hm⟩:=hm;have hq:=E.ok e he;have h1:=qD_ (f:=fun e=>oc m (dbT [] e.1)+oc m (dbT [] e.2)) he;unfold nE
 rcases List.mem_append.1 hm with h|h
 ·have:=(cC_ hq.l.1.1).1 h
  exact⟨by omega,dt_ hq.l.1 m h⟩
 ·have:=(cC_ hq.r.1.1).1 h
  exact⟨by omega,dt_ hq.r.1 m h⟩
theorem sm_nE {L:List Int}(hn:L.Nodup):∀ es:List EqT,sm L (nE es)≤(es.map fun e=>mn (dbT [] e.1)+mn (dbT [] e.2)).sum:=by
 intro es
 induction es with
 | nil=>exact Nat.le_of_eq (hw_ fun _ _=>rfl)
 | cons e es ih =>
  have e1:sm L (nE (e :: es))=(sm L fun m=>oc m (dbT [] e.1))+(sm L fun m=>oc m (dbT [] e.2))+sm L (nE es):=by
   rw[← ka_,← ka_];congr 1
  rw[e1,List.map_cons,List.sum_cons];have:=p2_ hn (dbT [] e.1);have:=p2_ hn (dbT [] e.2);omega
theorem tj_ {es:List EqT}(E:Es es):sm (LE es) (nE es)≤24 :=
 bN_ (sm_nE (nA_ _) es) (bN_ (pX_ fun e he=>Nat.add_le_add (sJ_ e.1 [] (E.ok e he).l.1.1) (sJ_ e.2 [] (E.ok e he).r.1.1)) E.ns)
theorem tk_ {es:List EqT}(E:Es es):(LE es).length≤24:=by
 have h1:(LE es).length≤sm (LE es) (nE es):=by
  have:(LE es).length=sm (LE es) fun _=>1:=by
   unfold sm;rw[iA_];omega
  rw[this];exact qJ_ fun m hm=>(n6_ E m hm).1
 have:=tj_ E;omega
theorem il_ {es:List EqT}(E:Es es):(NLE es).length≤4000:=by
 unfold NLE;rw[List.length_flatMap];have h1:(es.map fun e=>(af_ e.1++af_ e.2).length).sum≤(es.map fun _=>240).sum:=pX_ fun e he=>by
  rw[List.length_append];have a:=(E.ok e he).l.2.1;have b:=(E.ok e he).r.2.1;have:=a0_ e.1;have:=a0_ e.2;omega
 rw[iA_] at h1;have:=E.ln;omega
theorem n4_ {es:List EqT}(E:Es es):r6_ (NLE es):=by
 intro s hs;unfold NLE at hs;obtain⟨e,he,hs⟩:=List.mem_flatMap.1 hs
 rcases List.mem_append.1 hs with h|h
 ·have:=kx_ (E.ok e he).l.1 s h;exact⟨this.2.1,this.1⟩
 ·have:=kx_ (E.ok e he).r.1 s h;exact⟨this.2.1,this.1⟩
theorem sV_ {es:List EqT}(E:Es es){e:EqT}(he:e∈es):Al (VOk (NLE es) 0) (dbT [] e.1)∧Al (VOk (NLE es) 0) (dbT [] e.2) :=
 ⟨l1_ e.1 [] (E.ok e he).l.1 fun s hs _=>List.mem_flatMap.2 ⟨e,he,List.mem_append.2 (.inl ((bb_ s e.1).2 hs))⟩,
  l1_ e.2 [] (E.ok e he).r.1 fun s hs _=>List.mem_flatMap.2 ⟨e,he,List.mem_append.2 (.inr ((bb_ s e.2).2 hs))⟩⟩
structure Kd (es:List EqT)(K:Kn):Prop where
 ko:KO K
 ori:Ori K
 gen:∀ f,PrF f→((∀ e∈es,Sol f (dbE e))↔Ext f K)
 ni:∃ fr,fr≤4000∧∀ x,Ni (NLE es) fr (sg K x)∨sg K x=mt x
 szE:∀ e∈es,(fl (sg K) (dbT [] e.1)).size≤LIM∧(fl (sg K) (dbT [] e.2)).size≤LIM
 kl:∀ x,lkK K x≠none→x∈LE es
 km:∀ x∈LE es,∀ m,oc m (sg K x)≠0→m∈LE es
end
section
open Go.RowKit
structure oa_ (R:Kn)(t:Ty):Prop where
 len:R.length≤100
 st:bf_ t
 sR:∀ x∈R,bf_ x.2∧0≤x.1∧x.1<100000000000000000
 hq:0≤apQ R t∧apQ R t<100000000000000000
 hf:∀ i,i≤R.length→0≤(bn_ (R.take i)).2∧(bn_ (R.take i)).2<100000000000000000
 hP:∀ i,i≤(bn_ R).1.length→bf_ (mI_ (apQ R t) ((bn_ R).1.take i) t).1
 hQ:∀ i,i≤(bn_ R).1.length→bf_ (lV_ (apQ R t) ((bn_ R).1.take i) (apP R t)).1
theorem apply_h {w:World}{kv:Value}{R:Kn}{t:Ty}{a:OA_}{c:Nat}(hR:hq_ w kv R)(hA:AtW t a c w)(O:oa_ R t)(hT:Tab w) :
  Calls Tryz.prog 28 #[kv,.agg #[.int .i64 t.kind,.string t.name,.int .i64 t.n,.slice a t.args.length c]] w (ik_ (apF R t) w) :=
 nO_ hR hA O.len O.st O.sR O.hq O.hf O.hP O.hQ hT
theorem rS_ {NL:List ByteArray}{fr:Nat}{R:Kn}{t:Ty}{B:Int}(hB:0≤B)(hB2:B≤10000000000000000)(hl:R.length≤100)(hR:∀ e∈R,Ni NL fr e.2∧0≤e.1∧e.1≤B∧∀ m∈aR_ e.2,m≤B)(ht:Ni NL fr t)(htB:∀ m∈aR_ t,m≤B)(hz:(fl (lkD R) (dbT [] t)).size≤LIM)(hn:NL.length+fr≤3000000) :
  oa_ R t∧Ni NL fr (apF R t)∧dbT [] (apF R t)=fl (lkD R) (dbT [] t):=by
 obtain⟨h1,h2,h3,h4,h5,h6⟩:=s9_ hB hB2 hl hR ht htB hz hn;exact⟨⟨hl,ht.small hn,fun x hx=>⟨(hR x hx).1.small hn,(hR x hx).2.1,by have:=(hR x hx).2.2.1;omega⟩,h1,h2,h3,h4⟩,h5,h6⟩
theorem sM_ (K:Kn)(x:Int):lkK (iN_ K) x=if x∈d6_ K then some (sg K x) else none:=by
 unfold iN_ lkK;generalize d6_ K=ks
 induction ks with
 | nil=>rfl
 | cons m ks ih =>
  rw[List.map_cons,List.find?_cons]
  by_cases e:m=x
  ·subst e
   rw[show (m==m)=true from by simp,if_pos (by simp)];rfl
  ·rw[show (m==x)=false from beq_eq_false_iff_ne.2 e]
   simp only;rw[ih]
   by_cases h:x∈ks
   ·rw[if_pos h,if_pos (by simp[h])]
   ·rw[if_neg h,if_neg (by simp[h,Ne.symm e])]
section
variable {es : List EqT} {K : Kn}
theorem Kd.std (D:Kd es K)(x:Int)(hx:lkK K x≠none):∃ fr,fr≤4000∧Ni (NLE es) fr (sg K x):=by
 obtain⟨fr,hf,h⟩:=D.ni
 rcases h x with h|h
 ·exact⟨fr,hf,h⟩
 ·exact absurd (D.ko.facts.dom x |>.2 h) hx
theorem Kd.lkD (D:Kd es K)(x:Int):lkD (iN_ K) x=sg K x:=by
 unfold Tp.lkD;rw[sM_]
 by_cases h:x∈d6_ K
 ·rw[if_pos h]
  obtain⟨fr,_,hn⟩:=D.std x (keys_mem.1 h);exact f0_ _ hn.st (D.ko.facts.pr x).no5
 ·rw[if_neg h]
  exact (D.ko.facts.unb x (Classical.byContradiction fun hn=>h (keys_mem.2 hn))).symm
theorem Kd.fl_lkD (D:Kd es K)(t:Ty):fl (Tp.lkD (iN_ K)) t=fl (sg K) t:=cI_ t fun x _=>D.lkD x
theorem Kd.len (E:Es es)(D:Kd es K):(iN_ K).length≤24:=by
 have h1:=pj_ D.ko.nodup fun x hx=>D.kl x fun hn=>cZ_.1 hn hx;rw[List.length_map] at h1;have h2:=tk_ E;unfold iN_ d6_;rw[List.length_map,List.length_mergeSort,List.length_map];omega
theorem Kd.mem (E:Es es)(D:Kd es K):∀ x∈iN_ K,(∃ fr,fr≤4000∧Ni (NLE es) fr x.2)∧0≤x.1∧x.1<1000000∧x.2=sg K x.1∧x.1∈LE es∧∀ m∈aR_ x.2,m≤1000000:=by
 intro x hx;obtain⟨m,hm,rfl⟩:=List.mem_map.1 hx;have hk:=keys_mem.1 hm;have hL:=D.kl m hk;have h1:=n6_ E m hL;refine⟨D.std m hk,h1.2.1,h1.2.2,rfl,hL,fun y hy=>?_⟩;have h2:=D.km m hL y ((d2_ (D.ko.facts.pr m).dw).1 hy);have:=n6_ E y h2;omega
theorem qm_ {es:List EqT}(E:Es es){fr:Nat}(h:fr≤4000):(NLE es).length+fr≤3000000:=by have:=il_ E;omega
theorem Ni.mono {NL:List ByteArray}{fr fr':Nat}{X:Ty}(h:Ni NL fr X)(hf:fr≤fr'):Ni NL fr' X:=⟨h.st,h.gd,h.vn.imp fun t=>ej_ hf t,h.sz⟩
theorem nw_ {es:List EqT}(E:Es es){e:EqT}(he:e∈es)(fr:Nat):(Ni (NLE es) fr e.1∧∀ m∈aR_ e.1,m≤1000000)∧Ni (NLE es) fr e.2∧∀ m∈aR_ e.2,m≤1000000:=by
 have hq:=E.ok e he;obtain⟨v1,v2⟩:=sV_ E he;refine⟨⟨⟨hq.l.1.1,hK_ _ hq.l.1,v1.imp fun t=>ej_ (Nat.zero_le _) t,by rw[bI_ _ hq.l.1.1];have:=hq.l.2.1;unfold LIM;omega⟩,fun m hm=>by have:=dt_ hq.l.1 m hm;omega⟩,⟨hq.r.1.1,hK_ _ hq.r.1,v2.imp fun t=>ej_ (Nat.zero_le _) t,by rw[bI_ _ hq.r.1.1];have:=hq.r.2.1;unfold LIM;omega⟩,fun m hm=>by have:=dt_ hq.r.1 m hm;omega⟩
theorem Kd.ap (E:Es es)(D:Kd es K){t:Ty}(ht:∃ fr,fr≤4000∧Ni (NLE es) fr t)(hm:∀ m∈aR_ t,m≤1000000)(hz:(fl (sg K) (dbT [] t)).size≤LIM) :
  oa_ (iN_ K) t∧bf_ (apF (iN_ K) t)∧Std (apF (iN_ K) t)∧qo_ (dbT [] (apF (iN_ K) t))∧dbT [] (apF (iN_ K) t)=fl (sg K) (dbT [] t):=by
 obtain⟨f1,h1,n1⟩:=ht;have hall:∀ e∈iN_ K,Ni (NLE es) 4000 e.2∧0≤e.1∧e.1≤1000000∧∀ m∈aR_ e.2,m≤1000000:=fun e he=>by
  obtain⟨⟨fr,hf,hn⟩,a,b,_,_,c⟩:=D.mem E e he;exact⟨hn.mono hf,a,by omega,c⟩
 obtain⟨a,b,c⟩:=rS_ (B:=1000000) (by omega) (by omega) (by have:=D.len E;omega) hall (n1.mono h1) hm (by rw[D.fl_lkD];exact hz) (qm_ E (aD_ 4000));rw[D.fl_lkD] at c;exact⟨a,b.small (qm_ E (aD_ 4000)),b.st,l2_ (n4_ E) b.vn,c⟩
theorem Kd.same (E:Es es)(D:Kd es K){e:EqT}(he:e∈es):aO_ (apF (iN_ K) e.1)=aO_ (apF (iN_ K) e.2):=by
 have hn:=nw_ E he 0;obtain⟨_,_,s1,l1,d1⟩:=D.ap E ⟨0,by omega,hn.1.1⟩ hn.1.2 (D.szE e he).1;obtain⟨_,_,s2,l2,d2⟩:=D.ap E ⟨0,by omega,hn.2.1⟩ hn.2.2 (D.szE e he).2;rw[fD_ s1 s2 l1 l2,d1,d2];exact (D.gen (sg K) D.ko.facts.pr).2 D.ko.facts.ext e he
end
theorem je_.form {w:World}{res:Except Nat Kn}{en:Ending}{w':World}(h:je_ w res en w'):∃ a c R,∃ er:Nat,en=.returned (.tuple #[.slice a (R:Kn).length c,.int .i64 er])∧hq_ w' (.slice a R.length c) R∧Below w.heap.size w w'∧(res=.ok R∧er=0∨res=.error er∧R=[]):=by
 cases res with
 | error er =>
  obtain⟨rfl,hb⟩:=h;exact⟨none,0,[],er,rfl,hq_.nil w',hb,.inr ⟨rfl,rfl⟩⟩
 | ok R =>
  obtain⟨v,ps,T',rfl,hK,hT',hb⟩:=h;have hks:=hK.ks hT';obtain⟨a,c,rfl⟩:=ay_ hK.own;exact⟨a,c,R,0,rfl,hks,hb,.inl ⟨rfl,rfl⟩⟩
theorem ef_.monoT {S T T':Nat→Prop}{w:World}{pv:Value}{es:List EqT}(H:ef_ S T w pv es)(h:∀ b,T b→T' b):ef_ S T' w pv es:=by
 obtain⟨a,cap,e,hl,hc⟩:=H;refine⟨a,cap,e,hl,hc.imp id ?_⟩;rintro ⟨b,off,e,hb,hc⟩;refine⟨b,off,e,hb,fun i hi=>?_⟩;obtain⟨xa,xc,ya,yc,h1,h2,h3⟩:=hc i hi;exact⟨xa,xc,ya,yc,h1,h2.mono h,h3.mono h⟩
def pU_ (w:World)(pv:Value)(es:List EqT):Prop:=ef_ (Lt w.heap.size) (Lt w.heap.size) w pv es
theorem pU_.low {w w':World}{pv:Value}{es:List EqT}(h:pU_ w pv es)(hb:Below w.heap.size w w'):pU_ w' pv es :=
 ((h.keep (fun b hb'=>hb.block b hb') fun b hb'=>hb.block b hb').mono fun _ hj=>aZ_ hj hb.size).monoT fun _ hj=>aZ_ hj hb.size
theorem fS_.es {S:Nat→Prop}{lo:Nat}{w:World}{v:Value}{es:List EqT}{ps:List (Value × Value)}(h:fS_ S lo w v es ps)(hl:es.length≤1000000000000)(hS:∀ b,S b→b<w.heap.size):pU_ w v es :=
 ((h.eqs hl).mono fun b e=>(h.own.lt b e).2).monoT hS
theorem pU_.call {w:World}{v:Value}{es:List EqT}{j d:Nat}{res:Except Nat Kn}(h:pU_ w v es)(hs:∀ e∈es,SmT e.1∧SmT e.2)(hl:es.length≤500000000000)(hT:Tab w)(hu:jo_ d j es=some res)(hj:j≤1000000000000) :
  Calls Tryz.prog 14 #[v] w (je_ w res) :=
 it_ h (fun _ h=>h) (fun _ h=>h) hs hl hT hu hj
theorem pU_.one {w:World}{a:OA_}{n c:Nat}{es:List EqT}(h:pU_ w (.slice a n c) es){i:Nat}(hi:i<es.length):∃ b off xa xc ya yc,a=some ⟨b,off,none⟩∧b<w.heap.size∧(w.cell? ⟨b,off+i*8,none⟩=some (.int .i64 es[i].1.kind)∧w.cell? ⟨b,off+i*8+1,none⟩=some (.string es[i].1.name)∧w.cell? ⟨b,off+i*8+2,none⟩=some (.int .i64 es[i].1.n)∧w.cell? ⟨b,off+i*8+3,none⟩=some (.slice xa es[i].1.args.length xc)) ∧
  (w.cell? ⟨b,off+i*8+4,none⟩=some (.int .i64 es[i].2.kind)∧w.cell? ⟨b,off+i*8+5,none⟩=some (.string es[i].2.name)∧w.cell? ⟨b,off+i*8+6,none⟩=some (.int .i64 es[i].2.n)∧w.cell? ⟨b,off+i*8+7,none⟩=some (.slice ya es[i].2.args.length yc))∧AtW es[i].1 xa xc w∧AtW es[i].2 ya yc w:=by
 obtain⟨a',cap,e,hl,hc⟩:=h;injection e with e1 e2 e3
 subst e1;obtain⟨b,off,rfl,hb,hc⟩:=hc.resolve_left (by intro e;rw[e] at hi;simp at hi);obtain⟨xa,xc,ya,yc,h1,h2,h3⟩:=hc i hi;exact⟨b,off,xa,xc,ya,yc,rfl,hb,⟨h1 0 _ (by omega) rfl,h1 1 _ (by omega) rfl,h1 2 _ (by omega) rfl,h1 3 _ (by omega) rfl⟩,⟨h1 4 _ (by omega) rfl,h1 5 _ (by omega) rfl,h1 6 _ (by omega) rfl,h1 7 _ (by omega) rfl⟩,h2,h3⟩
theorem hq_.at_ {w:World}{a:OA_}{n c:Nat}{R:Kn}(h:hq_ w (.slice a n c) R){i:Nat}(hi:i<R.length):∃ b off xa xc,a=some ⟨b,off,none⟩∧b<w.heap.size∧(w.cell? ⟨b,off+i*5,none⟩=some (.int .i64 R[i].1)∧w.cell? ⟨b,off+i*5+1,none⟩=some (.int .i64 R[i].2.kind)∧w.cell? ⟨b,off+i*5+2,none⟩=some (.string R[i].2.name)∧w.cell? ⟨b,off+i*5+3,none⟩=some (.int .i64 R[i].2.n)∧w.cell? ⟨b,off+i*5+4,none⟩=some (.slice xa R[i].2.args.length xc))∧AtW R[i].2 xa xc w:=by
 obtain⟨a',cap,e,hc⟩:=h;injection e with e1 e2 e3
 subst e1;obtain⟨b,off,rfl,hb,hc⟩:=hc.resolve_left (by intro e;rw[e] at hi;simp at hi);obtain⟨xa,xc,h1,h2⟩:=hc i hi;exact⟨b,off,xa,xc,rfl,hb,⟨h1 0 _ (by omega) rfl,h1 1 _ (by omega) rfl,h1 2 _ (by omega) rfl,h1 3 _ (by omega) rfl,h1 4 _ (by omega) rfl⟩,h2⟩
theorem es_of {ls:List Ln}{es:List EqT}(h:c8_ ls=some es):Es es:=by
 obtain⟨h1,h2,h3,h4,_⟩:=kh_ h;exact⟨h4,h3,by omega⟩
end
end Go.Proofs.YtjecnionbjlncaaGreatDoor.Tp

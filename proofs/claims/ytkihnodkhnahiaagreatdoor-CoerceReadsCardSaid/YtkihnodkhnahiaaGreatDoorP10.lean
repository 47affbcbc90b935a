/- Packed. -/
import Derived.Test.YtkihnodkhnahiaaGreatDoorP09
import Derived.Test.YtkihnodkhnahiaaGreatDoorP08
set_option maxRecDepth 100000
set_option maxHeartbeats 6400000
namespace Go.Proofs.YtkihnodkhnahiaaGreatDoor.Tp
section
open Go.RowKit
theorem kb_ (n:Nat):∀ t:Ty,t.depth≤n→cw_ t:=by
 induction n with
 | zero=>intro t h;rw[t.depth_eq] at h;omega
 | succ n ih =>
  intro t hn;have lower:∀ u∈t.args,u.depth≤n:=fun u hu=>by have:=aT_ _ hu;rw[t.depth_eq] at hn;omega
  intro S a c w hA hS hw hl ht
  rcases ((bq_ t).1 hw).1 with h|h|h|h|h
  ·exact nt_ t h.1 a c w
  ·exact l1_ t h.1 h.2.2.1 h.2.2.2 a c w ht
  ·exact nv_ t h (fun u hu=>ih u (lower u hu)) S a c w hA hS hw hl ht
  ·obtain⟨x,y,hxy⟩:∃ x y,t.args=[x,y]:=by
    match hl:t.args,h.2 with
    | [x,y],_=>exact⟨x,y,rfl⟩
   exact nu_ t h.1 x y hxy (ih x (lower x (by rw[hxy];simp))) (ih y (lower y (by rw[hxy];simp))) S a c w hA hS hw hl ht
  ·obtain⟨x,hx⟩:=iv_ h.2
   exact nw_ t h.1 x hx (fun u hu=>ih u (by omega)) S a c w hA hS hw hl ht
theorem gV_ (t:Ty):cw_ t:=kb_ t.depth t (aw_ _)
def New (S:Nat→Prop)(w w':World)(b:Nat):Prop:=S b∨w.heap.size≤b∧b<w'.heap.size
section
variable {G : Type} (S T : Nat → Prop) (Inv : G → World → Prop)
def gi_ (y:Ty)(g:G)(W:World)(e:Ending)(W':World):Prop :=
 ∃ a c,e=.returned (tv y a c)∧ac_ (New S W W') W' (.slice a y.args.length c) y.args∧Inv g W'∧Kp W.heap.size T W W'
end
theorem kE_ {G:Type}(F:G→Ty→Ty × G)(t:Ty)(g:G)(h:t.args.length=0):cn_ t (au_ F g t.args).1=t∧(au_ F g t.args).2=g:=by
 have:t.args=[]:=List.eq_nil_of_length_eq_zero h;cases t with
 | mk k s n args=>simp only[Ty.args] at this;subst this;exact⟨rfl,rfl⟩
theorem gn_ {G:Type}(f:FuncId)(caps:Array Value)(hf:∀ args w,(callFunc f args).run Tryz.prog w=.ok (.enter f args) w)(T:Nat→Prop)(Inv:G→World→Prop)(F:G→Ty→Ty × G)(t:Ty)(g0:G)(S:Nat→Prop)(a:OA_)(c:Nat)(w:World)
  (hI:Inv g0 w) (hIk:∀ g W W',Inv g W→(∀ b,T b→W'.heap[b]? = W.heap[b]?)→Inv g W') (hA:ac_ S w (.slice a t.args.length c) t.args) (hS:∀ b,S b→b<w.heap.size∧¬ T b) (hT:∀ b,T b→b<w.heap.size) (hl:t.args.length≤4500000000000)
  (hat:∀ (i:Nat) (hi:i<t.args.length) (a:OA_) (c:Nat) (W:World),Inv (au_ F g0 (t.args.take i)).2 W→Kp w.heap.size T w W→ac_ S W (.slice a t.args[i].args.length c) t.args[i].args →
   Calls Tryz.prog f (#[tv t.args[i] a c]++caps) W (gi_ S T Inv (F (au_ F g0 (t.args.take i)).2 t.args[i]).1 (F (au_ F g0 (t.args.take i)).2 t.args[i]).2 W)) :
  Calls Tryz.prog 39 #[tv t a c,.func (.func f) #[] caps] w (gi_ S T Inv (cn_ t (au_ F g0 t.args).1) (au_ F g0 t.args).2 w):=by
 have hz:=ao_ w (.cells #[.int .i64 t.kind,.string t.name,.int .i64 t.n,.slice a t.args.length c] 30);have b4:=B4.new w (.int .i64 t.kind) (.string t.name) (.int .i64 t.n) (.slice a t.args.length c);have hz2:=hz.alloc hz.size (.cells #[.int .i64 0,.string ByteArray.empty,.int .i64 0,.slice none 0 0] 30);have k4:=b4.low (ao_ _ (.cells #[.int .i64 0,.string ByteArray.empty,.int .i64 0,.slice none 0 0] 30));have q4:=B4.new (w.alloc (.cells #[.int .i64 t.kind,.string t.name,.int .i64 t.n,.slice a t.args.length c] 30)) (.int .i64 0) (.string ByteArray.empty) (.int .i64 0) (.slice none 0 0);rw[show (w.alloc (.cells #[.int .i64 t.kind,.string t.name,.int .i64 t.n,.slice a t.args.length c] 30)).heap.size=w.heap.size+1 from by simp] at q4;have HZ2:=hid hz2;have K4:=hid k4;have Q4:=hid q4;obtain⟨c0,c1,c2,c3⟩:=k4.c03;obtain⟨r0,r1,r2,r3⟩:=q4.c03;obtain⟨s0,s1,s2,s3⟩:=q4.f03;unfold tv
 by_cases h0:t.args.length=0
 ·have z0:((t.args.length:Int)==0)=true:=by rw[beq_iff_eq];omega
  have hfin:gi_ S T Inv (cn_ t (au_ F g0 t.args).1) (au_ F g0 t.args).2 w (.returned (tv t a c)) (((((w.alloc (.cells #[.int .i64 t.kind,.string t.name,.int .i64 t.n,.slice a t.args.length c] 30)).alloc (.cells #[.int .i64 t.kind,.string t.name,.int .i64 t.n,.slice a t.args.length c] 30))))):=by
   rw[(kE_ F t g0 h0).1,(kE_ F t g0 h0).2];have hz3:=hz.alloc hz.size (.cells #[.int .i64 t.kind,.string t.name,.int .i64 t.n,.slice a t.args.length c] 30);exact⟨a,c,rfl,(hA.keep fun b hb=>hz3.block b (hS b hb).1).mono fun b hb=>.inl hb,hIk _ _ _ hI fun b hb=>hz3.block b (hT b hb),.of_below hz3⟩
  have HF:=hid hfin;clear h0 hfin hI hIk hA hS hT hat hz hz2 b4 k4 q4;go_enter Tryz.func39,Tryz.ntmps39;go_wp2;have q5:=B4.new (w.alloc (.cells #[.int .i64 t.kind,.string t.name,.int .i64 t.n,.slice a t.args.length c] 30)) (.int .i64 t.kind) (.string t.name) (.int .i64 t.n) (.slice a t.args.length c);rw[show (w.alloc (.cells #[.int .i64 t.kind,.string t.name,.int .i64 t.n,.slice a t.args.length c] 30)).heap.size=w.heap.size+1 from by simp] at q5;exact bodyPost_ret (v:=tv t a c) (by simp[results,Tryz.results39,go_sem,tv,q5.c0,q5.c1,q5.c2,q5.c3]) rfl HF.out
 ·have z0:((t.args.length:Int)==0)=false:=by rw[beq_eq_false_iff_ne];omega
  obtain⟨M,hM,hmk⟩:=pD_ t.args.length hl;have hz3:=hz2.alloc hz2.size (.cells M 30);have H0:Hid (Inv g0 (((w.alloc (.cells #[.int .i64 t.kind,.string t.name,.int .i64 t.n,.slice a t.args.length c] 30)).alloc (.cells #[.int .i64 0,.string ByteArray.empty,.int .i64 0,.slice none 0 0] 30)).alloc (.cells M 30))):=hid (hIk _ _ _ hI fun b hb=>hz3.block b (hT b hb));have R0:Hid (ei_ (((w.alloc (.cells #[.int .i64 t.kind,.string t.name,.int .i64 t.n,.slice a t.args.length c] 30)).alloc (.cells #[.int .i64 0,.string ByteArray.empty,.int .i64 0,.slice none 0 0] 30)).alloc (.cells M 30)) (w.heap.size+2) t.args.length [] []):=hid (ei_.new hM (by simp));have HZ3:=hid hz3;have K5:=hid (k4.low (ao_ _ (.cells M 30)));have Q5:=hid (q4.low (ao_ _ (.cells M 30)));have HIK:=hid hIk;have HA:=hid hA;have HS:=hid hS;have HT:=hid hT;have HAT:=hid hat;have c3':=K5.out.c3;clear h0 hI hIk hA hS hT hat hz hz2 hz3 b4 k4 q4 hM;go_enter Tryz.func39,Tryz.ntmps39;go_wp2
  go_loopw [20] (fun iv wr=>∃ (i:Nat) (svs:List Value),iv=.int .i64 i∧i≤t.args.length∧ei_ wr (w.heap.size+2) t.args.length (au_ F g0 (t.args.take i)).1 svs∧Inv (au_ F g0 (t.args.take i)).2 wr∧Kp w.heap.size T w wr∧B4 wr w.heap.size (.int .i64 t.kind) (.string t.name) (.int .i64 t.n) (.slice a t.args.length c) ∧
   B4 wr (w.heap.size+1) (.int .i64 0) (.string ByteArray.empty) (.int .i64 0) (.slice none 0 0)∧w.heap.size+3≤wr.heap.size∧∀ (j:Nat) (y:Ty) (sv:Value),(au_ F g0 (t.args.take i)).1[j]? = some y→svs[j]? = some sv→ac_ (fun b=>S b∨w.heap.size+3≤b∧b<wr.heap.size) wr sv y.args) (fun iv _=>t.args.length - (intOf iv).toNat)
  case atStart=>exact⟨0,[],rfl,Nat.zero_le _,R0.out,H0.out,.of_below HZ3.out,K5.out,Q5.out,by simp,fun j y sv h=>by simp[au_] at h⟩
  case round =>
   clear H0 R0 HZ3 K5 Q5 HZ2 K4 Q4 c0 c1 c2 c3 c3' r0 r1 r2 r3 s0 s1 s2 s3;obtain⟨i,svs,rfl,hil,hR,hI,hK,hk4,hq4,hsz,hat⟩:=hrel
   by_cases hi:i<t.args.length
   ·have z1:(0:Int)≤(i:Int):=by omega
    have z2:(i:Int)<(t.args.length:Int):=(by omega);obtain⟨b,off,a',c',rfl,hb,hf4,hs⟩:=HA.out.at_ hi;obtain⟨f0,f1,f2,f3⟩:=hf4.keep (hK.block b (HS.out b hb).1 (HS.out b hb).2);have hzr:=ao_ wr (.cells #[.int .i64 t.args[i].kind,.string t.args[i].name,.int .i64 t.args[i].n,.slice a' t.args[i].args.length c'] 30);have b4:=B4.new wr (.int .i64 t.args[i].kind) (.string t.args[i].name) (.int .i64 t.args[i].n) (.slice a' t.args[i].args.length c');obtain⟨d0,d1,d2,d3⟩:=b4.c03;have hKr:Kp w.heap.size T w (wr.alloc (.cells #[.int .i64 t.args[i].kind,.string t.args[i].name,.int .i64 t.args[i].n,.slice a' t.args[i].args.length c'] 30)):=hK.alloc (by omega) _;have CF:=hid (HAT.out i hi a' c' _ (HIK.out _ _ _ hI fun b hb=>hzr.block b (by have:=HT.out b hb;omega)) hKr (hs.kp hKr HS.out));have hyl:(au_ F g0 (t.args.take i)).1.length=i:=by rw[e2_,List.length_take];omega
    have MT:=hid (kg_ F t.args i hi g0);have HYL:=hid hyl;have HR:=hid (hR.keep (hzr.block _ hR.lt));have HK:=hid hKr;have HK4:=hid (hk4.low hzr);have HQ4:=hid (hq4.low hzr);have HATS:=hid hat;have HZR:=hid hzr;unfold tv at *;clear hR hI hK hk4 hq4 hat hf4 hs hzr b4 hKr hyl;go_wp2_with fail;refine CF.out.mono ?_;rintro e W4 ⟨a4,c4,rfl,hA4,hI4,hK4⟩;have hszW:(wr.alloc (.cells #[.int .i64 t.args[i].kind,.string t.args[i].name,.int .i64 t.args[i].n,.slice a' t.args[i].args.length c'] 30)).heap.size=wr.heap.size+1:=(by simp);have hs4:=hK4.size;have hnT:∀ b,w.heap.size≤b→¬ T b:=fun b hb e=>by have:=HT.out b e;omega
    have hR4:=HR.out.keep (hK4.block _ (by omega) (hnT _ (by omega)));have hk44:=(hK4.block _ (by omega) (hnT _ (by omega))).trans HK4.out;have hq44:=(hK4.block _ (by omega) (hnT _ (by omega))).trans HQ4.out;have HNT:=hid hnT;have HR4:=hid hR4;have HK44:=hid hk44;have HQ44:=hid hq44;have HA4:=hid hA4;have HI4:=hid hI4;have HKK:=hid hK4;obtain⟨v0,g0'⟩:=hR4.cell (i*4) (by omega);obtain⟨v1,g1'⟩:=hR4.cell (i*4+1) (by omega);obtain⟨v2,g2'⟩:=hR4.cell (i*4+2) (by omega);obtain⟨v3,g3'⟩:=hR4.cell (i*4+3) (by omega);have l0:=hR4.fr (i*4);have l1:=hR4.fr (i*4+1);have l2:=hR4.fr (i*4+2);have l3:=hR4.fr (i*4+3);have HS4:=hid hs4;clear hA4 hI4 hK4 hszW hs4 hnT hR4 hk44 hq44;unfold tv;go_wp2;go_roundw
    case measure=>simp[intOf];omega
    case rel =>
     have hset:∀ b,b≠w.heap.size+2→((((W4.setCell ⟨w.heap.size+1+1,i*4,none⟩ (.int .i64 (F (au_ F g0 (t.args.take i)).2 t.args[i]).1.kind)).setCell ⟨w.heap.size+1+1,i*4+1,none⟩ (.string (F (au_ F g0 (t.args.take i)).2 t.args[i]).1.name)).setCell ⟨w.heap.size+1+1,i*4+2,none⟩ (.int .i64 (F (au_ F g0 (t.args.take i)).2 t.args[i]).1.n)).setCell ⟨w.heap.size+1+1,i*4+3,none⟩ (.slice a4 (F (au_ F g0 (t.args.take i)).2 t.args[i]).1.args.length c4)).heap[b]? = W4.heap[b]? := fun b hb=>by
      rw[aM_ _ _ _ _ (by simpa using hb),aM_ _ _ _ _ (by simpa using hb),aM_ _ _ _ _ (by simpa using hb),aM_ _ _ _ _ (by simpa using hb)]
     have hrow:=HR4.out.put (by rw[HYL.out];exact hi) (F (au_ F g0 (t.args.take i)).2 t.args[i]).1 (.slice a4 (F (au_ F g0 (t.args.take i)).2 t.args[i]).1.args.length c4);rw[HYL.out] at hrow;have hs4:=HS4.out;have hss:(wr.alloc (.cells #[.int .i64 t.args[i].kind,.string t.args[i].name,.int .i64 t.args[i].n,.slice a' t.args[i].args.length c'] 30)).heap.size=wr.heap.size+1:=(by simp);have hsz5:((((W4.setCell ⟨w.heap.size+1+1,i*4,none⟩ (.int .i64 (F (au_ F g0 (t.args.take i)).2 t.args[i]).1.kind)).setCell ⟨w.heap.size+1+1,i*4+1,none⟩ (.string (F (au_ F g0 (t.args.take i)).2 t.args[i]).1.name)).setCell ⟨w.heap.size+1+1,i*4+2,none⟩ (.int .i64 (F (au_ F g0 (t.args.take i)).2 t.args[i]).1.n)).setCell ⟨w.heap.size+1+1,i*4+3,none⟩ (.slice a4 (F (au_ F g0 (t.args.take i)).2 t.args[i]).1.args.length c4)).heap.size=W4.heap.size:=(by simp);have kpw:=HK.out.trans HKK.out (by omega) (fun b _ h=>h);refine⟨i+1,svs++[.slice a4 (F (au_ F g0 (t.args.take i)).2 t.args[i]).1.args.length c4],by go_num,by omega,by rw[MT.out];exact hrow,by rw[MT.out];exact HIK.out _ _ _ HI4.out (fun b hb=>hset b (by have:=HT.out b hb;omega)),?_,(hset _ (by omega)).trans HK44.out,(hset _ (by omega)).trans HQ44.out,by rw[hsz5];omega,?_⟩
     ·exact (((kpw.setCell (p:=⟨w.heap.size+1+1,i*4,none⟩) (.inl (by simp;omega)) _).setCell (p:=⟨w.heap.size+1+1,i*4+1,none⟩) (.inl (by simp;omega)) _).setCell (p:=⟨w.heap.size+1+1,i*4+2,none⟩) (.inl (by simp;omega)) _).setCell (p:=⟨w.heap.size+1+1,i*4+3,none⟩) (.inl (by simp;omega)) _
     ·intro j y sv h1 h2
      rw[MT.out] at h1;rw[hsz5];have hsl:=HR4.out.1;rw[HYL.out] at hsl
      rcases Nat.lt_or_ge j i with hj|hj
      ·rw[List.getElem?_append_left (by rw[HYL.out];exact hj)] at h1
       rw[List.getElem?_append_left (by omega)] at h2;refine ((HATS.out j y sv h1 h2).keep fun b hb=>?_).mono fun b hb=>hb.imp id fun h=>⟨h.1,by omega⟩;have hbw:b<wr.heap.size∧b≠w.heap.size+2∧¬ T b:=by
        rcases hb with hb|⟨hb,hb'⟩
        ·have:=HS.out b hb;exact⟨by omega,by omega,this.2⟩
        ·exact⟨hb',by omega,HNT.out b (by omega)⟩
       rw[hset b hbw.2.1,HKK.out.block b (by omega) hbw.2.2];exact HZR.out.block b hbw.1
      ·have hj2:j=i:=by
        have:=(List.getElem?_eq_some_iff.1 h1).1;rw[List.length_append,HYL.out] at this;simp at this;omega
       subst hj2;rw[List.getElem?_append_right (by rw[HYL.out];exact aw_ _),HYL.out,Nat.sub_self] at h1;rw[List.getElem?_append_right (by omega),hsl,Nat.sub_self] at h2;simp only[List.getElem?_cons_zero,Option.some.injEq] at h1 h2;subst h1 h2;refine (HA4.out.keep fun b hb=>hset b ?_).mono fun b hb=>hb.imp id fun h=>⟨by omega,by omega⟩
       rcases hb with hb|⟨hb,hb'⟩
       ·have:=HS.out b hb;omega
       ·omega
   ·obtain rfl:i=t.args.length:=by omega
    rw[List.take_length] at hR hI hat;have hyl:(au_ F g0 t.args).1.length=t.args.length:=e2_ _ _ _;obtain⟨k0,k1,k2,k3⟩:=hk4.c03;have n3:=hk4.fr 3;obtain⟨o0,o1,o2,o3⟩:=hq4.c03;obtain⟨p0,p1,p2,p3⟩:=hq4.f03;have HR:=hid hR;have HI:=hid hI;have HK:=hid hK;have HQ4:=hid hq4;have HATS:=hid hat;have HYL:=hid hyl;clear hR hI hK hk4 hq4 hat hyl;go_wp2;have hset:∀ b,b≠w.heap.size→b≠w.heap.size+1→(((((wr.setCell ⟨w.heap.size,3,none⟩ (.slice (some ⟨w.heap.size+1+1,0,none⟩) t.args.length t.args.length)).setCell ⟨w.heap.size+1,0,none⟩ (.int .i64 t.kind)).setCell ⟨w.heap.size+1,1,none⟩ (.string t.name)).setCell ⟨w.heap.size+1,2,none⟩ (.int .i64 t.n)).setCell ⟨w.heap.size+1,3,none⟩ (.slice (some ⟨w.heap.size+1+1,0,none⟩) t.args.length t.args.length)).heap[b]? = wr.heap[b]? := fun b hb hb'=>by
     rw[aM_ _ _ _ _ (by simpa using hb'),aM_ _ _ _ _ (by simpa using hb'),aM_ _ _ _ _ (by simpa using hb'),aM_ _ _ _ _ (by simpa using hb'),aM_ _ _ _ _ (by simpa using hb)]
    have q6:=B4.set4 (w:=wr.setCell ⟨w.heap.size,3,none⟩ (.slice (some ⟨w.heap.size+1+1,0,none⟩) t.args.length t.args.length)) (b:=w.heap.size+1) ((aM_ _ _ _ _ (by simp)).trans HQ4.out) (.int .i64 t.kind) (.string t.name) (.int .i64 t.n) (.slice (some ⟨w.heap.size+1+1,0,none⟩) t.args.length t.args.length);refine bodyPost_ret (v:=.agg #[.int .i64 t.kind,.string t.name,.int .i64 t.n,.slice (some ⟨w.heap.size+1+1,0,none⟩) t.args.length t.args.length]) (by simp[results,Tryz.results39,go_sem,q6.c0,q6.c1,q6.c2,q6.c3]) rfl ?_;have hr:=HR.out;refine⟨some ⟨w.heap.size+1+1,0,none⟩,t.args.length,by unfold tv;rw[show (cn_ t (au_ F g0 t.args).1).args.length=t.args.length from HYL.out];rfl,?_,HIK.out _ _ _ HI.out (fun b hb=>hset b (by have:=HT.out b hb;omega) (by have:=HT.out b hb;omega)),?_⟩
    ·refine ei_.args (hr.keep (hset _ (by omega) (by omega))) HYL.out (by omega) (.inr ⟨by omega,by simp;omega⟩) (fun j y sv h1 h2=>?_)
     refine ((HATS.out j y sv h1 h2).keep fun b hb=>?_).mono fun b hb=>hb.imp id fun h=>⟨by omega,by simp;omega⟩;exact hset b (by rcases hb with hb|hb<;>first|(have:=HS.out b hb;omega)|omega) (by rcases hb with hb|hb<;>first|(have:=HS.out b hb;omega)|omega)
    ·exact ((((HK.out.setCell (p:=⟨w.heap.size,3,none⟩) (.inl (aw_ _)) _).setCell (p:=⟨w.heap.size+1,0,none⟩) (.inl (by simp)) _).setCell (p:=⟨w.heap.size+1,1,none⟩) (.inl (by simp)) _).setCell (p:=⟨w.heap.size+1,2,none⟩) (.inl (by simp)) _).setCell (p:=⟨w.heap.size+1,3,none⟩) (.inl (by simp)) _
end
section
open Go.RowKit Go.Sort
theorem lb_ (n:Int)(h0:-9223372036854775808≤n)(h1:n≤9223372036854775807)(w:World)(ht:Tab w) :
  Calls Tryz.prog 45 #[.int .i64 n] w fun e w'=>e=.returned (.string (aa_ (Lib.itoa n)))∧Below w.heap.size w w' :=
 (Tryz.strconv_Itoa n h0 h1 w ht).mono fun e w' ⟨he,k,os,hw⟩=>⟨he,by subst hw;exact Lib.below_grow _ _ (aw_ _) k os⟩
theorem mm_ (nm:ByteArray)(i:Nat)(hi:i≤9223372036854775807):(eg_ nm i).size≤24:=by
 unfold eg_;rw[ByteArray.size_append,ByteArray.size_append,am_];have h1:=Lib.itoa_length_le (i:Int) (by omega) (by omega);have h2:(nm.extract 0 1).size≤1:=by rw[ByteArray.size_extract];omega
 have h3:(⟨#[95]⟩:ByteArray).size=1:=rfl;omega
theorem js_ (nm:ByteArray)(h1:1≤nm.size)(S:Nat→Prop)(v:Value)(but:List ByteArray)(w:World)(hs:bd_ S w v but)(hS:∀ b,S b→b<w.heap.size)(ht:Tab w) :
  Calls Tryz.prog 36 #[.string nm,v] w fun e w'=>e=.returned (.string (bN_ nm but))∧Below w.heap.size w w':=by
 have hl:but.length≤4500000000000:=by obtain⟨_,_,_,_,h,_⟩:=hs;exact h
 have HS:=hid hs;have HT:=hid ht;have HSS:=hid hS;have z1:(1:Int)≤(nm.size:Int):=by omega
 clear hs ht hS;go_enter Tryz.func36,Tryz.ntmps36;go_wp2
 go_loopw [5] (fun iv wr=>∃ i:Nat,iv=.int .i64 i∧i≤but.length∧(∀ j,j<i→fb_ but (eg_ nm j)=true)∧Below w.heap.size w wr) (fun iv _=>but.length+1 - (intOf iv).toNat)
 case atStart=>exact⟨0,rfl,Nat.zero_le _,fun j hj=>by omega,Below.refl _ _⟩
 case round =>
  obtain⟨i,rfl,hi,hall,hB⟩:=hrel;have DI:=hid (fun p=>ce_ (w:=wr) (p:=p) (lb_ (i:Int) (by omega) (by omega) _ (ag_ HT.out (hB.trans ((az_ wr p).mono hB.size)))));have CC:=hid (fun p=>da_ (HS.out.keep fun b hb=>(hB.trans ((az_ wr p).mono hB.size)).block b (HSS.out b hb)) (eg_ nm i));have HB:=hid hB;have HA:=hid hall;have F:Hid (nm.extract 0 1++⟨#[95]⟩++aa_ (Lib.itoa (i:Int))=eg_ nm i):=hid rfl;have hil:=Lib.itoa_length_le (i:Int) (by omega) (by omega);have hs1:(aa_ (Lib.itoa (i:Int))).size≤21:=by rw[am_];exact hil
  have hs2:(nm.extract 0 1).size≤1:=by rw[ByteArray.size_extract];omega
  clear hall hB hil;go_wp2_with fail;refine bb_ (by kernel_rfl) (by kernel_rfl) ?_
  repeat (go_big_quiet_step (exact DI.out _))
  refine wpQuiet_nil ?_;intro _ hw';obtain⟨pq,hw''⟩:=hw';subst hw'';rw[F.out];have B1:=hid (HB.out.trans ((az_ wr pq).mono HB.out.size));have C1:=hid (CC.out pq);have hfs:=mm_ nm i (by omega);cases hn:fb_ but (eg_ nm i) with
  | true =>
   have HA2:=hid (show ∀ j,j<i+1→fb_ but (eg_ nm j)=true from fun j hj=>by
    rcases Nat.lt_or_ge j i with h|h
    ·exact HA.out j h
    ·rw[show j=i by omega];exact hn)
   have hpg:i+1≤but.length:=nx_ (eg_ nm) (fun _ _=>g8_) (i+1) but 0 fun j hj=>by
    rw[Nat.zero_add];refine (cN_ _ _).1 ?_
    rcases Nat.lt_or_ge j i with h|h
    ·exact HA.out j h
    ·rw[show j=i by omega];exact hn
   rw[cf_,hn] at C1;generalize gl_ wr pq=w1 at *;clear hn F DI CC HA;generalize eg_ nm i=fn at *;go_wp2_with fail;refine C1.out.mono ?_;rintro e w' ⟨rfl,rfl⟩;go_wp2;go_roundw
   case rel=>exact⟨i+1,by go_num,by omega,HA2.out,B1.out⟩
   case measure=>simp[intOf];omega
  | false =>
   have E:Hid (bN_ nm but=eg_ nm i):=hid (by
    unfold bN_;rw[g9_ (eg_ nm) but (but.length+1) 0 i (by omega) (by omega) (fun j _ hj=>HA.out j hj) hn])
   rw[cf_,hn] at C1;generalize gl_ wr pq=w1 at *;clear hn F DI CC HA;generalize eg_ nm i=fn at *;go_wp2_with fail;refine C1.out.mono ?_;rintro e w' ⟨rfl,rfl⟩;go_wp2;go_ret;exact⟨by rw[E.out];rfl,B1.out⟩
end
end Go.Proofs.YtkihnodkhnahiaaGreatDoor.Tp

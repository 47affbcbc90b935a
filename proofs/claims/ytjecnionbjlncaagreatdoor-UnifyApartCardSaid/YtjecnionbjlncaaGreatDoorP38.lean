/- Packed. -/
import Derived.Test.YtjecnionbjlncaaGreatDoorP37
set_option maxRecDepth 100000
set_option maxHeartbeats 6400000
namespace Go.Proofs.YtjecnionbjlncaaGreatDoor.Tp
section
open Go.RowKit
theorem d8_ {P:Program}{ops:Array Oper}{o:Oper}{a:Act}{w:World}{K:Act→World→Prop}{Q:Exit→Act→World→Prop}{E:Prop}(hgd:o.guard=none)(s x:Operand)(t:TypeId)
  (ho:o.op=.call { callee:=.builtin .append,args:=#[s,x],argTypes:=#[t,t] }) {v vx:Value} (hs:a.eval s=v) (hx:a.eval x=vx) {R:Value→World→Prop}
  (hrun:∃ v' w',(Builtin.append_ #[t,t] o.type #[v,vx]).run P w=.ok v' w'∧R v' w') (h:∀ v' w',R v' w'→K (a.put o.dst v') w') :
  if Region.wanted o (yielded ops a.tmps)=true then Oper.wp P o a w K Q else E:=by
 have hw:Region.wanted o (yielded ops a.tmps)=true:=by simp[Region.wanted,hgd]
 rw[if_pos hw];obtain⟨v',w',hr,hR⟩:=hrun;unfold Oper.wp execOp;simp only[ho,resolve,invoke,builtin,Sem.run_bind,Sem.run_pure,Result.andThen_ok,List.map_toArray,List.map_cons,List.map_nil,hs,hx,hr];exact h v' w' hR
def ep_ (S T:Nat→Prop)(w:World)(pv:Value)(es:List EqT):Prop :=
 ∃ a cap,pv=.slice a es.length cap∧es.length≤1000000000000∧(es=[]∨∃ b off,a=some ⟨b,off,none⟩∧S b∧∀ i (h:i<es.length),∃ xa xc ya yc,
  (∀ j u,j<8→(db_ es[i] (.slice xa es[i].1.args.length xc,.slice ya es[i].2.args.length yc))[j]? = some u→w.cell? ⟨b,off+i*8+j,none⟩=some u) ∧
  aa_ T w (.slice xa es[i].1.args.length xc) es[i].1.args∧aa_ T w (.slice ya es[i].2.args.length yc) es[i].2.args)
theorem ep_.keep {S T:Nat→Prop}{A B:World}{pv:Value}{es:List EqT}(H:ep_ S T A pv es)(h:∀ b,S b→B.heap[b]? = A.heap[b]?)(hT:∀ b,T b→B.heap[b]? = A.heap[b]?):ep_ S T B pv es:=by
 obtain⟨a,cap,e,hl,hc⟩:=H;refine⟨a,cap,e,hl,hc.imp id ?_⟩;rintro ⟨b,off,e,hb,hc⟩;refine⟨b,off,e,hb,fun i hi=>?_⟩;obtain⟨xa,xc,ya,yc,h1,h2,h3⟩:=hc i hi;exact⟨xa,xc,ya,yc,fun j u hj hu=>(World.cell?_of_block (h b hb)).trans (h1 j u hj hu),h2.keep hT,h3.keep hT⟩
section
variable {T : Nat → Prop} {n0 : Nat} {w w' : World} {wb kb : Nat} {K : Kn} {L : List EqT} {fr : Nat} {v : Value} {ps : List (Value × Value)}
theorem UM.tx (h:UM T n0 w wb kb ⟨K,L,fr⟩ v ps):∀ b,T b→b<w.heap.size∧¬ XW wb kb v b:=fun b hT=>⟨(h.t b hT).1,fun hx=>by
 have ht:=h.t b hT
 rcases hx with hx|hx|hx
 ·exact ht.2.1 hx
 ·exact ht.2.2.1 hx
 ·exact ht.2.2.2 hx⟩
theorem UM.push (h:UM T n0 w wb kb ⟨K,L,fr⟩ v ps){w7:World}{v7:Value}{x:EqT}{ps7:List (Value × Value)}(hr:cX_ T n0 w7 v7 (L.reverse++[x]) ps7)(hg:w.grownBy w7 v.ownBlock)(ho:∀ b,v7.ownBlock=some b→v.ownBlock=some b∨w.heap.size≤b) :
  UM T n0 (w7.setCell ⟨wb,0,none⟩ v7) wb kb ⟨K,x :: L,fr⟩ v7 ps7∧GB (XW wb kb v) w (w7.setCell ⟨wb,0,none⟩ v7):=by
 have off:∀ b,b≠wb→(w7.setCell ⟨wb,0,none⟩ v7).heap[b]? = w7.heap[b]? := fun b hb=>aB_ _ _ _ _ hb;have nw:v.ownBlock≠some wb:=fun e=>(h.sep wb e).1 rfl;have nk:v.ownBlock≠some kb:=fun e=>(h.sep kb e).2 rfl;have hk:=h.klt;refine⟨⟨(h.wk.grown hg nw).set0 v7,h.kn.keep ((off kb (Ne.symm h.ne)).trans (hg.block kb hk.2.1 (Ne.symm nk))) fun j hj=>(off j (h.t j hj).2.1).trans (hg.block j (h.t j hj).1 (Ne.symm (h.t j hj).2.2.2)),?_,h.ne,h.lo,fun b e=>?_,fun b hT=>?_⟩,⟨hg.os,hg.tape,hg.output,by simpa using hg.size,fun k hk hx=>(off k fun e=>hx (.inl e)).trans (hg.block k hk fun e=>hx (.inr (.inr e.symm)))⟩⟩
 ·rw[show (⟨K,x :: L,fr⟩:Wk).left.reverse=L.reverse++[x] from List.reverse_cons]
  exact hr.keep (fun b e=>off b (by rcases ho b e with e|e;exact (h.sep b e).1;omega)) fun j hj=>off j (h.t j hj).2.1
 ·rcases ho b e with e|e
  ·exact h.sep b e
  ·omega
 ·have ht:=h.t b hT
  refine⟨by simpa using ba_ ht.1 hg.size,ht.2.1,ht.2.2.1,fun e=>?_⟩
  rcases ho b e with e|e
  ·exact ht.2.2.2 e
  ·omega
end
def kN_ (T:Nat→Prop)(n0:Nat)(w:World)(wb kb:Nat)(K:Kn)(L:List EqT)(fr:Nat)(v:Value)(en:Ending)(w':World):Prop :=
 ∃ v' ps',en=.returned (.tuple #[])∧UM T n0 w' wb kb ⟨K,L,fr⟩ v' ps'∧GB (XW wb kb v) w w'∧∀ b,v'.ownBlock=some b→v.ownBlock=some b∨w.heap.size≤b
theorem lC_ (w:World)(b:Nat):w.drew.heap[b]? = w.heap[b]? := rfl
theorem gW_ (w:World)(o:Obj):w.drew.alloc o=(w.alloc o).drew:=rfl
theorem h1_ {T:Nat→Prop}{n0:Nat}{w:World}{wb kb:Nat}{K:Kn}{L es:List EqT}{fr:Nat}{v pv:Value}{ps:List (Value × Value)}(h:UM T n0 w wb kb ⟨K,L,fr⟩ v ps)(hE:ep_ (fun b=>b<w.heap.size∧¬ XW wb kb v b) T w pv es)(hl:es.length+L.length≤1000000000000)(hn0:n0≤w.heap.size) :
  Calls Tryz.prog 32 #[.pointer (some ⟨wb,0,none⟩),pv] w (kN_ T n0 w wb kb K (es++L) fr v):=by
 obtain⟨a,cap,rfl,hel,hce⟩:=hE;have HH:=hid h;have HE:=hid hce;have HN:=hid hn0;clear h hce hn0;go_enter Tryz.func32,Tryz.ntmps32;go_wp2
 go_loopw [4] (fun iv wr=>∃ (k:Nat) (v':Value) (ps':List (Value × Value)),iv=.int .i64 ((k:Int) - 1)∧k≤es.length∧UM T n0 wr wb kb ⟨K,es.drop k++L,fr⟩ v' ps'∧GB (XW wb kb v) w wr∧(∀ b,v'.ownBlock=some b→v.ownBlock=some b∨w.heap.size≤b)) (fun iv _=>(intOf iv+1).toNat)
 case atStart=>exact⟨es.length,v,ps,rfl,aC_ _,by rw[List.drop_length];exact HH.out,GB.refl _ _,fun b e=>.inl e⟩
 case round =>
  obtain⟨k,v',ps',rfl,hk,hM,hG,ho⟩:=hrel;cases k with
  | zero =>
   have HM:=hid hM;have HG:=hid hG;have HO:=hid ho;clear hM hG ho;have z0:¬ (0:Int)≤((0:Nat):Int) - 1:=(by omega);go_wp2
   go_end0
   exact⟨v',ps',rfl,HM.out,HG.out,HO.out⟩
  | succ i =>
   have e0:((i+1:Nat):Int) - 1=(i:Int):=(by omega);rw[e0];have z0:(0:Int)≤(i:Int):=(by omega);have z1:(i:Int)<(es.length:Int):=(by omega);have hi:i<es.length:=hk;obtain⟨b,off,rfl,hb,hc⟩:∃ b off,a=some ⟨b,off,none⟩∧(b<w.heap.size∧¬ XW wb kb v b)∧∀ i (h:i<es.length),∃ xa xc ya yc,
     (∀ j u,j<8→(db_ es[i] (.slice xa es[i].1.args.length xc,.slice ya es[i].2.args.length yc))[j]? = some u→w.cell? ⟨b,off+i*8+j,none⟩=some u) ∧
     aa_ T w (.slice xa es[i].1.args.length xc) es[i].1.args∧aa_ T w (.slice ya es[i].2.args.length yc) es[i].2.args:=by
    rcases HE.out with h|h
    ·rw[h] at hi;simp at hi
    ·exact h
   obtain⟨xa,xc,ya,yc,h1,h2,h3⟩:=hc i hi;have hcr:∀ j u,j<8→(db_ es[i] (.slice xa es[i].1.args.length xc,.slice ya es[i].2.args.length yc))[j]? = some u→wr.cell? ⟨b,off+i*8+j,none⟩=some u:=fun j u hj hu=>(World.cell?_of_block (hG.block b hb.1 hb.2)).trans (h1 j u hj hu);have r0:wr.cell? ⟨b,off+i*8,none⟩=some (.int .i64 es[i].1.kind):=hcr 0 _ (by omega) rfl;have r1:=hcr 1 _ (by omega) rfl;have r2:=hcr 2 _ (by omega) rfl;have r3:=hcr 3 _ (by omega) rfl;have r4:=hcr 4 _ (by omega) rfl;have r5:=hcr 5 _ (by omega) rfl;have r6:=hcr 6 _ (by omega) rfl;have r7:=hcr 7 _ (by omega) rfl;have kT:∀ b,T b→wr.heap[b]? = w.heap[b]? := fun b hT=>hG.block b (HH.out.tx b hT).1 (HH.out.tx b hT).2;have hMd:=hM.low (Below.refl _ _).drew;have hnr:n0≤wr.drew.heap.size:=cj_ HN.out hG.size;have pa:=hMd.row.push (x:=es[i]) hnr (by rw[List.length_reverse,List.length_append,List.length_drop];omega) (fun b hT=>⟨(hMd.t b hT).1,(hMd.t b hT).2.2.2⟩) ((h2.keep kT).keep (B:=wr.drew) fun b _=>lC_ wr b) ((h3.keep kT).keep (B:=wr.drew) fun b _=>lC_ wr b);rw[gW_] at pa;have PA:=hid pa;have c0:=hM.wk.c0;have f0:=hM.wk.fz 0;have hwl:=hM.wk.lt;have ed:(es.drop (i+1)++L).reverse++[es[i]]=(es.drop i++L).reverse:=by
    conv=>rhs;rw[List.drop_eq_getElem_cons hi,List.cons_append,List.reverse_cons]
   have ED:=hid ed;clear ed;have EC:Hid (es.drop i++L=es[i] :: (es.drop (i+1)++L)):=hid (by rw[List.drop_eq_getElem_cons hi];rfl);have HMd:=hid hMd;have HG:=hid hG;have HO:=hid ho;have NW:Hid (v'.ownBlock≠some wb):=hid (fun e=>(hM.sep wb e).1 rfl);have KW:=hid hM.wk;clear hM hG ho hc h1 h2 h3 hcr kT hMd hnr pa hb;obtain⟨va,vn,vc,rfl⟩:∃ va vn vc,v'=.slice va vn vc:=by
    obtain⟨a,c,e⟩:=aG_ HMd.out.row.own;exact⟨a,_,c,e⟩
   generalize es[i]=x at *;go_wp2
   go_region_law (first
    | ((with_reducible show (if Region.wanted _ _=true then Oper.wp _ _ _ (World.drew (World.alloc _ _)) _ _ else _));refine d8_ (by rfl) _ _ _ (by rfl) (by rfl) (by rfl) PA.out ?_;rintro v7 w7 ⟨hr7,hg7,ho7,hl7⟩;obtain⟨a7,c7,hv7⟩:=aG_ hr7.own;generalize hln:(List.length _)=n7 at hv7;subst hv7;clear hln;have g7:=(HMd.out.wk.grown hg7 NW.out).fz 0;have e7:=(HMd.out.wk.grown hg7 NW.out).c0;have HR7:=hid hr7;have HG7:=hid hg7;have HO7:=hid ho7;clear hr7 hg7 ho7))
   all_goals
    obtain⟨hu,hg⟩:=HMd.out.push HR7.out HG7.out HO7.out;have HU:=hid hu;have HG2:=hid hg;clear hu hg;go_wp2;go_roundw
    case rel=>exact⟨i,_,_,rfl,by omega,by rw[EC.out];exact HU.out,(HG.out.trans (GB.of_below (Below.refl _ _).drew) fun _ _ h=>h).trans HG2.out fun k hk hx=>by
     rcases hx with hx|hx|hx
     ·exact .inl hx
     ·exact .inr (.inl hx)
     ·rcases HO.out k hx with hx|hx
      ·exact .inr (.inr hx)
      ·omega,fun b e=>by
     rcases HO7.out b e with e|e
     ·exact HO.out b e
     ·exact .inr (cj_ HG.out.size e)⟩
    case measure=>simp[intOf]
theorem gd_ (nm:ByteArray)(h:nm.size≤64):aY_ (.mk 1 nm 0 []):=⟨(bK_ _).2 ⟨.inl ⟨rfl,rfl⟩,fun a ha=>by cases ha⟩,(ci_ _).2 ⟨⟨fun e=>absurd (show (1:Int)=5 from e) (by decide),h⟩,fun a ha=>by cases ha⟩⟩
theorem ho_ {T:Nat→Prop}{w:World}{t x:Ty}{a:OA_}{c:Nat}(nm:ByteArray)(hx:t.args=[x])(hA:aa_ T w (.slice a t.args.length c) t.args)(hTl:∀ b,T b→b<w.heap.size)(hsx:bG_ x)(hn:nm.size≤64)(hT:Tab w) :
  Calls Tryz.prog 64 #[tv t a c,.string nm] w (TP T (opT t nm) w):=by
 have hz:=aw_ w (.cells #[.int .i64 t.kind,.string t.name,.int .i64 t.n,.slice a t.args.length c] 37);have hz2:=hz.alloc (by simp) (.cells #[.int .i64 0,.string ⟨#[]⟩,.int .i64 0,.slice none 0 0] 37);have b4:=(B4.new w (.int .i64 t.kind) (.string t.name) (.int .i64 t.n) (.slice a t.args.length c)).low (aw_ _ (.cells #[.int .i64 0,.string ⟨#[]⟩,.int .i64 0,.slice none 0 0] 37));have z4:B4 ((w.alloc (.cells #[.int .i64 t.kind,.string t.name,.int .i64 t.n,.slice a t.args.length c] 37)).alloc (.cells #[.int .i64 0,.string ⟨#[]⟩,.int .i64 0,.slice none 0 0] 37)) (w.heap.size+1) (.int .i64 0) (.string ⟨#[]⟩) (.int .i64 0) (.slice none 0 0):=by
  have h:=B4.new (w.alloc (.cells #[.int .i64 t.kind,.string t.name,.int .i64 t.n,.slice a t.args.length c] 37)) (.int .i64 0) (.string ⟨#[]⟩) (.int .i64 0) (.slice none 0 0);rw[show (w.alloc (.cells #[.int .i64 t.kind,.string t.name,.int .i64 t.n,.slice a t.args.length c] 37)).heap.size=w.heap.size+1 from by simp] at h;exact h
 have hop:Hid (opT t nm=f6_ t.name (.mk 1 nm 0 []) x):=hid (by unfold opT cm_;rw[hx]);have hi:0<t.args.length:=by rw[hx];simp
 obtain⟨b,off,xa,xc,rfl,hb,hf,hxa⟩:=hA.at_ hi;have he:t.args[0]=x:=by simp[hx]
 rw[he] at hf hxa;have hbl:=hTl b hb;have hzd:=hz2.trans ((Below.refl _ _).drew.mono hz2.size);obtain⟨f0,f1,f2,f3⟩:=hf;have bd:=b4.low (Below.refl _ _).drew;have zd:=z4.low (Below.refl _ _).drew;have CP:Hid (Calls Tryz.prog 101 #[.agg #[.int .i64 x.kind,.string x.name,.int .i64 x.n,.slice xa x.args.length xc],.string t.name,.agg #[.int .i64 1,.string nm,.int .i64 0,.slice none 0 0]] (((w.alloc (.cells #[.int .i64 t.kind,.string t.name,.int .i64 t.n,.slice (some ⟨b,off,none⟩) t.args.length c] 37)).alloc (.cells #[.int .i64 0,.string ⟨#[]⟩,.int .i64 0,.slice none 0 0] 37)).drew) (TP T (f6_ t.name (.mk 1 nm 0 []) x) (((w.alloc (.cells #[.int .i64 t.kind,.string t.name,.int .i64 t.n,.slice (some ⟨b,off,none⟩) t.args.length c] 37)).alloc (.cells #[.int .i64 0,.string ⟨#[]⟩,.int .i64 0,.slice none 0 0] 37)).drew))):=hid (qs_ t.name (.mk 1 nm 0 []) x T xa none xc 0 _ hsx.1 (gd_ nm hn) hsx.2.1 (by show (1:Nat)≤_;omega) (hxa.keep (B:=((w.alloc (.cells #[.int .i64 t.kind,.string t.name,.int .i64 t.n,.slice (some ⟨b,off,none⟩) t.args.length c] 37)).alloc (.cells #[.int .i64 0,.string ⟨#[]⟩,.int .i64 0,.slice none 0 0] 37)).drew) fun b h=>hzd.block b (hTl b h)) (.nil _ _) (fun b h=>ba_ (hTl b h) hzd.size) (ag_ hT hzd));have hl1:(0:Int)<(t.args.length:Int):=by omega
 obtain⟨c0,c1,c2,c3⟩:=bd.c03;have HZ:=hid hzd;have ZD:=hid zd;have HTL:=hid hTl;have f0':w.cell? ⟨b,off,none⟩=some (.int .i64 x.kind):=by simpa using f0
 have f1':w.cell? ⟨b,off+1,none⟩=some (.string x.name):=by simpa using f1
 have f2':w.cell? ⟨b,off+2,none⟩=some (.int .i64 x.n):=by simpa using f2
 have f3':w.cell? ⟨b,off+3,none⟩=some (.slice xa x.args.length xc):=by simpa using f3
 clear hz hz2 b4 z4 hxa hzd bd zd hA hTl hsx hn hT f0 f1 f2 f3 hb he hx;unfold tv;go_enter Tryz.func64,Tryz.ntmps64;go_wp2
 go_region_law (first
  | (go_simp;go_at_call 101;(with_reducible refine CP.out.mono ?_);rintro e w5 ⟨ra,rc,he,hA5,hb5⟩;unfold tv at he;subst he;have z5:=ZD.out.low hb5;have p0:=z5.c0;have p1:=z5.c1;have p2:=z5.c2;have p3:=z5.c3;have g0:=z5.fr 0;have g1:=z5.fr 1;have g2:=z5.fr 2;have g3:=z5.fr 3;have Z5:=hid z5;have A5:=hid hA5;have H5:=hid hb5;clear z5 hA5 hb5))
 all_goals
  go_wp2;have q:=Z5.out.set4 (.int .i64 (f6_ t.name (.mk 1 nm 0 []) x).kind) (.string (f6_ t.name (.mk 1 nm 0 []) x).name) (.int .i64 (f6_ t.name (.mk 1 nm 0 []) x).n) (.slice ra (f6_ t.name (.mk 1 nm 0 []) x).args.length rc);refine bodyPost_ret (v:=tv (f6_ t.name (.mk 1 nm 0 []) x) ra rc) (by simp[results,Tryz.results64,go_sem,tv,q.c0,q.c1,q.c2,q.c3]) rfl ?_;have off:∀ b,b≠w.heap.size+1→((((w5.setCell ⟨w.heap.size+1,0,none⟩ (.int .i64 (f6_ t.name (.mk 1 nm 0 []) x).kind)).setCell ⟨w.heap.size+1,1,none⟩ (.string (f6_ t.name (.mk 1 nm 0 []) x).name)).setCell ⟨w.heap.size+1,2,none⟩ (.int .i64 (f6_ t.name (.mk 1 nm 0 []) x).n)).setCell ⟨w.heap.size+1,3,none⟩ (.slice ra (f6_ t.name (.mk 1 nm 0 []) x).args.length rc)).heap[b]? = w5.heap[b]? := fun b hb=>by
   rw[aB_ _ _ _ _ hb,aB_ _ _ _ _ hb,aB_ _ _ _ _ hb,aB_ _ _ _ _ hb]
  have h5:=H5.out.size;have hw2:w.heap.size+2≤w5.heap.size:=by simpa using h5
  rw[hop.out];refine⟨ra,rc,rfl,(A5.out.keep (B:=(((w5.setCell ⟨w.heap.size+1,0,none⟩ (.int .i64 (f6_ t.name (.mk 1 nm 0 []) x).kind)).setCell ⟨w.heap.size+1,1,none⟩ (.string (f6_ t.name (.mk 1 nm 0 []) x).name)).setCell ⟨w.heap.size+1,2,none⟩ (.int .i64 (f6_ t.name (.mk 1 nm 0 []) x).n)).setCell ⟨w.heap.size+1,3,none⟩ (.slice ra (f6_ t.name (.mk 1 nm 0 []) x).args.length rc)) fun b hb=>off b (by rcases hb with h|h;have:=HTL.out b h;omega;have h1:=h.1;simp at h1;omega)).mono fun b hb=>hb.imp id fun h=>⟨by have h1:=h.1;simp at h1;omega,by simpa using h.2⟩,?_⟩;exact ((((HZ.out.trans (H5.out.mono HZ.out.size)).setCell (p:=⟨w.heap.size+1,0,none⟩) (Nat.le_succ _) _).setCell (p:=⟨w.heap.size+1,1,none⟩) (Nat.le_succ _) _).setCell (p:=⟨w.heap.size+1,2,none⟩) (Nat.le_succ _) _).setCell (p:=⟨w.heap.size+1,3,none⟩) (Nat.le_succ _) _
theorem B4.new1 (w:World)(u0 u1 u2 u3 v0 v1 v2 v3:Value):B4 ((w.alloc (.cells #[v0,v1,v2,v3] 37)).alloc (.cells #[u0,u1,u2,u3] 37)) (w.heap.size+1) u0 u1 u2 u3:=by
 have h:=B4.new (w.alloc (.cells #[v0,v1,v2,v3] 37)) u0 u1 u2 u3;rw[show (w.alloc (.cells #[v0,v1,v2,v3] 37)).heap.size=w.heap.size+1 from by simp] at h;exact h
def in_ (T:Nat→Prop)(w:World)(l r:Ty)(b5 b6:Nat)(wx:World):Prop :=
 ∃ la lc ra rc,b5≠b6∧w.heap.size<b5∧w.heap.size<b6 ∧
  B4 wx b5 (.int .i64 l.kind) (.string l.name) (.int .i64 l.n) (.slice la l.args.length lc)∧B4 wx b6 (.int .i64 r.kind) (.string r.name) (.int .i64 r.n) (.slice ra r.args.length rc) ∧
  aa_ (fun b=>(T b∨w.heap.size<b∧b<wx.heap.size)∧b≠b5∧b≠b6) wx (.slice la l.args.length lc) l.args∧aa_ (fun b=>(T b∨w.heap.size<b∧b<wx.heap.size)∧b≠b5∧b≠b6) wx (.slice ra r.args.length rc) r.args∧Below w.heap.size w wx
def c7_ (T:Nat→Prop)(w:World)(l r:Ty)(s5 s6:Value)(wx:World):Prop :=
 ∃ b5 b6,s5=.pointer (some ⟨b5,0,none⟩)∧s6=.pointer (some ⟨b6,0,none⟩)∧in_ T w l r b5 b6 wx
theorem in_.both {T:Nat→Prop}{w w5:World}{l r:Ty}{la lc ra rc}{S1 S2:Nat→Prop}{p q:Nat}{u0 u1 u2 u3 v0 v1 v2 v3:Value}(hp:B4 w5 p u0 u1 u2 u3)(hq:B4 w5 q v0 v1 v2 v3)(hA:aa_ S1 w5 (.slice la l.args.length lc) l.args)(hA':aa_ S2 w5 (.slice ra r.args.length rc) r.args)(hb:Below w.heap.size w w5)(hn:p≠q∧w.heap.size<p∧w.heap.size<q)(hS:∀ b,S1 b∨S2 b→(T b∨w.heap.size<b∧b<w5.heap.size)∧b≠p∧b≠q) :
  in_ T w l r p q ((((((((w5.setCell ⟨p,0,none⟩ (.int .i64 l.kind)).setCell ⟨p,1,none⟩ (.string l.name)).setCell ⟨p,2,none⟩ (.int .i64 l.n)).setCell ⟨p,3,none⟩ (.slice la l.args.length lc)).setCell ⟨q,0,none⟩ (.int .i64 r.kind)).setCell ⟨q,1,none⟩ (.string r.name)).setCell ⟨q,2,none⟩ (.int .i64 r.n)).setCell ⟨q,3,none⟩ (.slice ra r.args.length rc)):=by
 have off1:∀ k,k≠p→((((w5.setCell ⟨p,0,none⟩ (.int .i64 l.kind)).setCell ⟨p,1,none⟩ (.string l.name)).setCell ⟨p,2,none⟩ (.int .i64 l.n)).setCell ⟨p,3,none⟩ (.slice la l.args.length lc)).heap[k]? = w5.heap[k]? := fun k hk=>by rw[aB_ _ _ _ _ hk,aB_ _ _ _ _ hk,aB_ _ _ _ _ hk,aB_ _ _ _ _ hk]
 have off2:∀ k,k≠q→((((((((w5.setCell ⟨p,0,none⟩ (.int .i64 l.kind)).setCell ⟨p,1,none⟩ (.string l.name)).setCell ⟨p,2,none⟩ (.int .i64 l.n)).setCell ⟨p,3,none⟩ (.slice la l.args.length lc)).setCell ⟨q,0,none⟩ (.int .i64 r.kind)).setCell ⟨q,1,none⟩ (.string r.name)).setCell ⟨q,2,none⟩ (.int .i64 r.n)).setCell ⟨q,3,none⟩ (.slice ra r.args.length rc)).heap[k]? = ((((w5.setCell ⟨p,0,none⟩ (.int .i64 l.kind)).setCell ⟨p,1,none⟩ (.string l.name)).setCell ⟨p,2,none⟩ (.int .i64 l.n)).setCell ⟨p,3,none⟩ (.slice la l.args.length lc)).heap[k]? := fun k hk=>by rw[aB_ _ _ _ _ hk,aB_ _ _ _ _ hk,aB_ _ _ _ _ hk,aB_ _ _ _ _ hk]
 have hz:((((((((w5.setCell ⟨p,0,none⟩ (.int .i64 l.kind)).setCell ⟨p,1,none⟩ (.string l.name)).setCell ⟨p,2,none⟩ (.int .i64 l.n)).setCell ⟨p,3,none⟩ (.slice la l.args.length lc)).setCell ⟨q,0,none⟩ (.int .i64 r.kind)).setCell ⟨q,1,none⟩ (.string r.name)).setCell ⟨q,2,none⟩ (.int .i64 r.n)).setCell ⟨q,3,none⟩ (.slice ra r.args.length rc)).heap.size=w5.heap.size:=by simp
 refine⟨la,lc,ra,rc,hn.1,hn.2.1,hn.2.2,(off2 p hn.1).trans (hp.set4 _ _ _ _),B4.set4 ((off1 q (Ne.symm hn.1)).trans hq) _ _ _ _,?_,?_,((((((((hb.setCell (p:=⟨p,0,none⟩) (by show w.heap.size≤p;omega) _).setCell (p:=⟨p,1,none⟩) (by show w.heap.size≤p;omega) _).setCell (p:=⟨p,2,none⟩) (by show w.heap.size≤p;omega) _).setCell (p:=⟨p,3,none⟩) (by show w.heap.size≤p;omega) _).setCell (p:=⟨q,0,none⟩) (by show w.heap.size≤q;omega) _).setCell (p:=⟨q,1,none⟩) (by show w.heap.size≤q;omega) _).setCell (p:=⟨q,2,none⟩) (by show w.heap.size≤q;omega) _).setCell (p:=⟨q,3,none⟩) (by show w.heap.size≤q;omega) _)⟩
 ·rw[hz];exact (hA.keep fun b hb=>(off2 b (hS b (.inl hb)).2.2).trans (off1 b (hS b (.inl hb)).2.1)).mono fun b hb=>hS b (.inl hb)
 ·rw[hz];exact (hA'.keep fun b hb=>(off2 b (hS b (.inr hb)).2.2).trans (off1 b (hS b (.inr hb)).2.1)).mono fun b hb=>hS b (.inr hb)
theorem c7_.both {T:Nat→Prop}{w w5:World}{l r:Ty}{la lc ra rc}{S1 S2:Nat→Prop}{p q:Nat}{u0 u1 u2 u3 v0 v1 v2 v3:Value}(hp:B4 w5 p u0 u1 u2 u3)(hq:B4 w5 q v0 v1 v2 v3)(hA:aa_ S1 w5 (.slice la l.args.length lc) l.args)(hA':aa_ S2 w5 (.slice ra r.args.length rc) r.args)(hb:Below w.heap.size w w5)(hn:p≠q∧w.heap.size<p∧w.heap.size<q)(hS:∀ b,S1 b∨S2 b→(T b∨w.heap.size<b∧b<w5.heap.size)∧b≠p∧b≠q) :
  c7_ T w l r (.pointer (some ⟨p,0,none⟩)) (.pointer (some ⟨q,0,none⟩)) ((((((((w5.setCell ⟨p,0,none⟩ (.int .i64 l.kind)).setCell ⟨p,1,none⟩ (.string l.name)).setCell ⟨p,2,none⟩ (.int .i64 l.n)).setCell ⟨p,3,none⟩ (.slice la l.args.length lc)).setCell ⟨q,0,none⟩ (.int .i64 r.kind)).setCell ⟨q,1,none⟩ (.string r.name)).setCell ⟨q,2,none⟩ (.int .i64 r.n)).setCell ⟨q,3,none⟩ (.slice ra r.args.length rc)):=⟨p,q,rfl,rfl,in_.both hp hq hA hA' hb hn hS⟩
theorem c7_.left {T:Nat→Prop}{w w5:World}{l r:Ty}{la lc ra rc}{S1 S2:Nat→Prop}{p:Nat}{u0 u1 u2 u3:Value}(hp:B4 w5 p u0 u1 u2 u3)(hA:aa_ S1 w5 (.slice la l.args.length lc) l.args)(hA':aa_ S2 w5 (.slice ra r.args.length rc) r.args)(hb:Below w.heap.size w w5)(hn:w.heap.size<p)(hS:∀ b,S1 b∨S2 b→(T b∨w.heap.size<b∧b<w5.heap.size)∧b≠p∧b<w5.heap.size) :
  c7_ T w l r (.pointer (some ⟨p,0,none⟩)) (.pointer (some ⟨w5.heap.size,0,none⟩)) (((((w5.setCell ⟨p,0,none⟩ (.int .i64 l.kind)).setCell ⟨p,1,none⟩ (.string l.name)).setCell ⟨p,2,none⟩ (.int .i64 l.n)).setCell ⟨p,3,none⟩ (.slice la l.args.length lc)).alloc (.cells #[.int .i64 r.kind,.string r.name,.int .i64 r.n,.slice ra r.args.length rc] 37)):=by
 have off1:∀ k,k≠p→((((w5.setCell ⟨p,0,none⟩ (.int .i64 l.kind)).setCell ⟨p,1,none⟩ (.string l.name)).setCell ⟨p,2,none⟩ (.int .i64 l.n)).setCell ⟨p,3,none⟩ (.slice la l.args.length lc)).heap[k]? = w5.heap[k]? := fun k hk=>by rw[aB_ _ _ _ _ hk,aB_ _ _ _ _ hk,aB_ _ _ _ _ hk,aB_ _ _ _ _ hk]
 have hz:((((w5.setCell ⟨p,0,none⟩ (.int .i64 l.kind)).setCell ⟨p,1,none⟩ (.string l.name)).setCell ⟨p,2,none⟩ (.int .i64 l.n)).setCell ⟨p,3,none⟩ (.slice la l.args.length lc)).heap.size=w5.heap.size:=by simp
 have hpl:=hp.lt;have hw5:w.heap.size<w5.heap.size:=by omega
 have hnew:∀ k,k<w5.heap.size→(((((w5.setCell ⟨p,0,none⟩ (.int .i64 l.kind)).setCell ⟨p,1,none⟩ (.string l.name)).setCell ⟨p,2,none⟩ (.int .i64 l.n)).setCell ⟨p,3,none⟩ (.slice la l.args.length lc)).alloc (.cells #[.int .i64 r.kind,.string r.name,.int .i64 r.n,.slice ra r.args.length rc] 37)).heap[k]? = ((((w5.setCell ⟨p,0,none⟩ (.int .i64 l.kind)).setCell ⟨p,1,none⟩ (.string l.name)).setCell ⟨p,2,none⟩ (.int .i64 l.n)).setCell ⟨p,3,none⟩ (.slice la l.args.length lc)).heap[k]? := fun k hk=>Below.heap_alloc _ _ _ (by rw[hz];exact hk);have hzn:(((((w5.setCell ⟨p,0,none⟩ (.int .i64 l.kind)).setCell ⟨p,1,none⟩ (.string l.name)).setCell ⟨p,2,none⟩ (.int .i64 l.n)).setCell ⟨p,3,none⟩ (.slice la l.args.length lc)).alloc (.cells #[.int .i64 r.kind,.string r.name,.int .i64 r.n,.slice ra r.args.length rc] 37)).heap.size=w5.heap.size+1:=by simp
 have hS':∀ b,S1 b∨S2 b→(T b∨w.heap.size<b∧b<(((((w5.setCell ⟨p,0,none⟩ (.int .i64 l.kind)).setCell ⟨p,1,none⟩ (.string l.name)).setCell ⟨p,2,none⟩ (.int .i64 l.n)).setCell ⟨p,3,none⟩ (.slice la l.args.length lc)).alloc (.cells #[.int .i64 r.kind,.string r.name,.int .i64 r.n,.slice ra r.args.length rc] 37)).heap.size)∧b≠p∧b≠w5.heap.size:=fun b hb=>by
  obtain⟨h1,h2,h3⟩:=hS b hb;rw[hzn];exact⟨h1.imp id fun h=>⟨h.1,by omega⟩,h2,Nat.ne_of_lt h3⟩
 refine⟨p,w5.heap.size,rfl,rfl,la,lc,ra,rc,Nat.ne_of_lt hpl,hn,hw5,B4.low (hp.set4 _ _ _ _) (aw_ _ _),(by have h:=B4.new ((((w5.setCell ⟨p,0,none⟩ (.int .i64 l.kind)).setCell ⟨p,1,none⟩ (.string l.name)).setCell ⟨p,2,none⟩ (.int .i64 l.n)).setCell ⟨p,3,none⟩ (.slice la l.args.length lc)) (.int .i64 r.kind) (.string r.name) (.int .i64 r.n) (.slice ra r.args.length rc);rw[hz] at h;exact h),?_,?_,Below.alloc ((((hb.setCell (p:=⟨p,0,none⟩) (by show w.heap.size≤p;omega) _).setCell (p:=⟨p,1,none⟩) (by show w.heap.size≤p;omega) _).setCell (p:=⟨p,2,none⟩) (by show w.heap.size≤p;omega) _).setCell (p:=⟨p,3,none⟩) (by show w.heap.size≤p;omega) _) (by rw[hz];exact hb.size) _⟩
 ·exact (hA.keep fun b hb=>(hnew b (hS b (.inl hb)).2.2).trans (off1 b (hS b (.inl hb)).2.1)).mono fun b hb=>hS' b (.inl hb)
 ·exact (hA'.keep fun b hb=>(hnew b (hS b (.inr hb)).2.2).trans (off1 b (hS b (.inr hb)).2.1)).mono fun b hb=>hS' b (.inr hb)
theorem c7_.right {T:Nat→Prop}{w w5:World}{l r:Ty}{la lc ra rc}{S1 S2:Nat→Prop}{p:Nat}{u0 u1 u2 u3:Value}(hp:B4 w5 p u0 u1 u2 u3)(hA:aa_ S1 w5 (.slice la l.args.length lc) l.args)(hA':aa_ S2 w5 (.slice ra r.args.length rc) r.args)(hb:Below w.heap.size w w5)(hn:w.heap.size<p)(hS:∀ b,S1 b∨S2 b→(T b∨w.heap.size<b∧b<w5.heap.size)∧b≠p∧b<w5.heap.size) :
  c7_ T w l r (.pointer (some ⟨w5.heap.size,0,none⟩)) (.pointer (some ⟨p,0,none⟩)) (((((w5.setCell ⟨p,0,none⟩ (.int .i64 r.kind)).setCell ⟨p,1,none⟩ (.string r.name)).setCell ⟨p,2,none⟩ (.int .i64 r.n)).setCell ⟨p,3,none⟩ (.slice ra r.args.length rc)).alloc (.cells #[.int .i64 l.kind,.string l.name,.int .i64 l.n,.slice la l.args.length lc] 37)):=by
 have off1:∀ k,k≠p→((((w5.setCell ⟨p,0,none⟩ (.int .i64 r.kind)).setCell ⟨p,1,none⟩ (.string r.name)).setCell ⟨p,2,none⟩ (.int .i64 r.n)).setCell ⟨p,3,none⟩ (.slice ra r.args.length rc)).heap[k]? = w5.heap[k]? := fun k hk=>by rw[aB_ _ _ _ _ hk,aB_ _ _ _ _ hk,aB_ _ _ _ _ hk,aB_ _ _ _ _ hk]
 have hz:((((w5.setCell ⟨p,0,none⟩ (.int .i64 r.kind)).setCell ⟨p,1,none⟩ (.string r.name)).setCell ⟨p,2,none⟩ (.int .i64 r.n)).setCell ⟨p,3,none⟩ (.slice ra r.args.length rc)).heap.size=w5.heap.size:=by simp
 have hpl:=hp.lt;have hw5:w.heap.size<w5.heap.size:=by omega
 have hnew:∀ k,k<w5.heap.size→(((((w5.setCell ⟨p,0,none⟩ (.int .i64 r.kind)).setCell ⟨p,1,none⟩ (.string r.name)).setCell ⟨p,2,none⟩ (.int .i64 r.n)).setCell ⟨p,3,none⟩ (.slice ra r.args.length rc)).alloc (.cells #[.int .i64 l.kind,.string l.name,.int .i64 l.n,.slice la l.args.length lc] 37)).heap[k]? = ((((w5.setCell ⟨p,0,none⟩ (.int .i64 r.kind)).setCell ⟨p,1,none⟩ (.string r.name)).setCell ⟨p,2,none⟩ (.int .i64 r.n)).setCell ⟨p,3,none⟩ (.slice ra r.args.length rc)).heap[k]? := fun k hk=>Below.heap_alloc _ _ _ (by rw[hz];exact hk);have hzn:(((((w5.setCell ⟨p,0,none⟩ (.int .i64 r.kind)).setCell ⟨p,1,none⟩ (.string r.name)).setCell ⟨p,2,none⟩ (.int .i64 r.n)).setCell ⟨p,3,none⟩ (.slice ra r.args.length rc)).alloc (.cells #[.int .i64 l.kind,.string l.name,.int .i64 l.n,.slice la l.args.length lc] 37)).heap.size=w5.heap.size+1:=by simp
 have hS':∀ b,S1 b∨S2 b→(T b∨w.heap.size<b∧b<(((((w5.setCell ⟨p,0,none⟩ (.int .i64 r.kind)).setCell ⟨p,1,none⟩ (.string r.name)).setCell ⟨p,2,none⟩ (.int .i64 r.n)).setCell ⟨p,3,none⟩ (.slice ra r.args.length rc)).alloc (.cells #[.int .i64 l.kind,.string l.name,.int .i64 l.n,.slice la l.args.length lc] 37)).heap.size)∧b≠w5.heap.size∧b≠p:=fun b hb=>by
  obtain⟨h1,h2,h3⟩:=hS b hb;rw[hzn];exact⟨h1.imp id fun h=>⟨h.1,by omega⟩,Nat.ne_of_lt h3,h2⟩
 refine⟨w5.heap.size,p,rfl,rfl,la,lc,ra,rc,Ne.symm (Nat.ne_of_lt hpl),hw5,hn,(by have h:=B4.new ((((w5.setCell ⟨p,0,none⟩ (.int .i64 r.kind)).setCell ⟨p,1,none⟩ (.string r.name)).setCell ⟨p,2,none⟩ (.int .i64 r.n)).setCell ⟨p,3,none⟩ (.slice ra r.args.length rc)) (.int .i64 l.kind) (.string l.name) (.int .i64 l.n) (.slice la l.args.length lc);rw[hz] at h;exact h),B4.low (hp.set4 _ _ _ _) (aw_ _ _),?_,?_,Below.alloc ((((hb.setCell (p:=⟨p,0,none⟩) (by show w.heap.size≤p;omega) _).setCell (p:=⟨p,1,none⟩) (by show w.heap.size≤p;omega) _).setCell (p:=⟨p,2,none⟩) (by show w.heap.size≤p;omega) _).setCell (p:=⟨p,3,none⟩) (by show w.heap.size≤p;omega) _) (by rw[hz];exact hb.size) _⟩
 ·exact (hA.keep fun b hb=>(hnew b (hS b (.inl hb)).2.2).trans (off1 b (hS b (.inl hb)).2.1)).mono fun b hb=>hS' b (.inl hb)
 ·exact (hA'.keep fun b hb=>(hnew b (hS b (.inr hb)).2.2).trans (off1 b (hS b (.inr hb)).2.1)).mono fun b hb=>hS' b (.inr hb)
theorem c7_.non {T:Nat→Prop}{w w5:World}{l r:Ty}{la lc ra rc}{S1 S2:Nat→Prop}(hA:aa_ S1 w5 (.slice la l.args.length lc) l.args)(hA':aa_ S2 w5 (.slice ra r.args.length rc) r.args)(hb:Below w.heap.size w w5)(hn:w.heap.size<w5.heap.size)(hS:∀ b,S1 b∨S2 b→(T b∨w.heap.size<b∧b<w5.heap.size)∧b<w5.heap.size) :
  c7_ T w l r (.pointer (some ⟨w5.heap.size,0,none⟩)) (.pointer (some ⟨w5.heap.size+1,0,none⟩)) ((w5.alloc (.cells #[.int .i64 l.kind,.string l.name,.int .i64 l.n,.slice la l.args.length lc] 37)).alloc (.cells #[.int .i64 r.kind,.string r.name,.int .i64 r.n,.slice ra r.args.length rc] 37)):=by
 have hzn:((w5.alloc (.cells #[.int .i64 l.kind,.string l.name,.int .i64 l.n,.slice la l.args.length lc] 37)).alloc (.cells #[.int .i64 r.kind,.string r.name,.int .i64 r.n,.slice ra r.args.length rc] 37)).heap.size=w5.heap.size+1+1:=by simp
 have hnew:∀ k,k<w5.heap.size→((w5.alloc (.cells #[.int .i64 l.kind,.string l.name,.int .i64 l.n,.slice la l.args.length lc] 37)).alloc (.cells #[.int .i64 r.kind,.string r.name,.int .i64 r.n,.slice ra r.args.length rc] 37)).heap[k]? = w5.heap[k]? := fun k hk=>(Below.heap_alloc _ _ _ (by simp;omega)).trans (Below.heap_alloc _ _ _ hk);have hS':∀ b,S1 b∨S2 b→(T b∨w.heap.size<b∧b<((w5.alloc (.cells #[.int .i64 l.kind,.string l.name,.int .i64 l.n,.slice la l.args.length lc] 37)).alloc (.cells #[.int .i64 r.kind,.string r.name,.int .i64 r.n,.slice ra r.args.length rc] 37)).heap.size)∧b≠w5.heap.size∧b≠w5.heap.size+1:=fun b hb=>by
  obtain⟨h1,h3⟩:=hS b hb;rw[hzn];exact⟨h1.imp id fun h=>⟨h.1,by omega⟩,by omega,by omega⟩
 refine⟨w5.heap.size,w5.heap.size+1,rfl,rfl,la,lc,ra,rc,by omega,by omega,by omega,(B4.new w5 (.int .i64 l.kind) (.string l.name) (.int .i64 l.n) (.slice la l.args.length lc)).low (aw_ _ _),B4.new1 w5 (.int .i64 r.kind) (.string r.name) (.int .i64 r.n) (.slice ra r.args.length rc) (.int .i64 l.kind) (.string l.name) (.int .i64 l.n) (.slice la l.args.length lc),?_,?_,Below.alloc (hb.alloc hb.size _) (by simp;omega) _⟩
 ·exact (hA.keep fun b hb=>hnew b (hS b (.inl hb)).2).mono fun b hb=>hS' b (.inl hb)
 ·exact (hA'.keep fun b hb=>hnew b (hS b (.inr hb)).2).mono fun b hb=>hS' b (.inr hb)
theorem c7_.non2 {T:Nat→Prop}{w w5:World}{l r:Ty}{la lc ra rc}{S1 S2:Nat→Prop}(hA:aa_ S1 w5 (.slice la l.args.length lc) l.args)(hA':aa_ S2 w5 (.slice ra r.args.length rc) r.args)(hb:Below w.heap.size w w5)(hn:w.heap.size<w5.heap.size)(hS:∀ b,S1 b∨S2 b→(T b∨w.heap.size<b∧b<w5.heap.size)∧b<w5.heap.size) :
  c7_ T w l r (.pointer (some ⟨w5.heap.size+1,0,none⟩)) (.pointer (some ⟨w5.heap.size,0,none⟩)) ((w5.alloc (.cells #[.int .i64 r.kind,.string r.name,.int .i64 r.n,.slice ra r.args.length rc] 37)).alloc (.cells #[.int .i64 l.kind,.string l.name,.int .i64 l.n,.slice la l.args.length lc] 37)):=by
 have hzn:((w5.alloc (.cells #[.int .i64 r.kind,.string r.name,.int .i64 r.n,.slice ra r.args.length rc] 37)).alloc (.cells #[.int .i64 l.kind,.string l.name,.int .i64 l.n,.slice la l.args.length lc] 37)).heap.size=w5.heap.size+1+1:=by simp
 have hnew:∀ k,k<w5.heap.size→((w5.alloc (.cells #[.int .i64 r.kind,.string r.name,.int .i64 r.n,.slice ra r.args.length rc] 37)).alloc (.cells #[.int .i64 l.kind,.string l.name,.int .i64 l.n,.slice la l.args.length lc] 37)).heap[k]? = w5.heap[k]? := fun k hk=>(Below.heap_alloc _ _ _ (by simp;omega)).trans (Below.heap_alloc _ _ _ hk);have hS':∀ b,S1 b∨S2 b→(T b∨w.heap.size<b∧b<((w5.alloc (.cells #[.int .i64 r.kind,.string r.name,.int .i64 r.n,.slice ra r.args.length rc] 37)).alloc (.cells #[.int .i64 l.kind,.string l.name,.int .i64 l.n,.slice la l.args.length lc] 37)).heap.size)∧b≠w5.heap.size+1∧b≠w5.heap.size:=fun b hb=>by
  obtain⟨h1,h3⟩:=hS b hb;rw[hzn];exact⟨h1.imp id fun h=>⟨h.1,by omega⟩,by omega,by omega⟩
 refine⟨w5.heap.size+1,w5.heap.size,rfl,rfl,la,lc,ra,rc,by omega,by omega,by omega,B4.new1 w5 (.int .i64 l.kind) (.string l.name) (.int .i64 l.n) (.slice la l.args.length lc) (.int .i64 r.kind) (.string r.name) (.int .i64 r.n) (.slice ra r.args.length rc),(B4.new w5 (.int .i64 r.kind) (.string r.name) (.int .i64 r.n) (.slice ra r.args.length rc)).low (aw_ _ _),?_,?_,Below.alloc (hb.alloc hb.size _) (by simp;omega) _⟩
 ·exact (hA.keep fun b hb=>hnew b (hS b (.inl hb)).2).mono fun b hb=>hS' b (.inl hb)
 ·exact (hA'.keep fun b hb=>hnew b (hS b (.inr hb)).2).mono fun b hb=>hS' b (.inr hb)
theorem in_.swap {T:Nat→Prop}{w wx:World}{l r:Ty}{b5 b6:Nat}{la lc ra rc}(hn:b5≠b6)(h5:w.heap.size<b5)(h6:w.heap.size<b6)
  (k5:B4 wx b5 (.int .i64 l.kind) (.string l.name) (.int .i64 l.n) (.slice la l.args.length lc)) (k6:B4 wx b6 (.int .i64 r.kind) (.string r.name) (.int .i64 r.n) (.slice ra r.args.length rc))
  (A5:aa_ (fun b=>(T b∨w.heap.size<b∧b<wx.heap.size)∧b≠b5∧b≠b6) wx (.slice la l.args.length lc) l.args) (A6:aa_ (fun b=>(T b∨w.heap.size<b∧b<wx.heap.size)∧b≠b5∧b≠b6) wx (.slice ra r.args.length rc) r.args) (hb:Below w.heap.size w wx) :
  in_ T w r l b5 b6 ((((((((wx.setCell ⟨b5,0,none⟩ (.int .i64 r.kind)).setCell ⟨b5,1,none⟩ (.string r.name)).setCell ⟨b5,2,none⟩ (.int .i64 r.n)).setCell ⟨b5,3,none⟩ (.slice ra r.args.length rc)).setCell ⟨b6,0,none⟩ (.int .i64 l.kind)).setCell ⟨b6,1,none⟩ (.string l.name)).setCell ⟨b6,2,none⟩ (.int .i64 l.n)).setCell ⟨b6,3,none⟩ (.slice la l.args.length lc)):=by
 exact in_.both k5 k6 A6 A5 hb ⟨hn,h5,h6⟩ fun b hb=>hb.elim id id
def SmT (t:Ty):Prop:=aY_ t∧smB t=true
def KB (K:Kn):Prop:=∀ m u,lkK K m=some u→SmT u
theorem SmT.small {t:Ty}(h:SmT t):bG_ t:=hO_ h.1 h.2
theorem KB.small {K:Kn}(h:KB K):KSm K:=fun m u hu=>(h m u hu).small
theorem kL_ {t x:Ty}(h:SmT t)(hx:x∈t.args):x.size≤2100000000:=by
 have h1:t.size≤2100000000:=(of_decide_eq_true h.2).1;have h2:=bx_ _ hx;rw[t.size_eq] at h1;omega
theorem SmT.arg {t x:Ty}(h:SmT t)(h5:t.kind≠5)(hx:x∈t.args):SmT x :=
 ⟨aR_ h.1 _ hx,decide_eq_true ⟨kL_ h hx,cj_ (jH_ (eV_ x) fun y hy=>(bm_ y t).2 ((aD_ y t).2 (.inr ⟨⟨x,hx,(bm_ y x).1 hy⟩,fun e=>h5 e.1⟩))) (of_decide_eq_true h.2).2⟩⟩
theorem SmT.argS {t x:Ty}(h:SmT t)(hx:x∈t.args):bG_ x:=by
 have h1:=kL_ h hx;have h2:(ai_ t).length≤3000000:=(of_decide_eq_true h.2).2;have h3:(ai_ x).length≤(t.name :: ai_ t).length:=jH_ (eV_ x) fun y hy=>by
  by_cases e:t.kind=5∧t.name=y
  ·simp[e.2]
  ·exact List.mem_cons_of_mem _ ((bm_ y t).2 ((aD_ y t).2 (.inr ⟨⟨x,hx,(bm_ y x).1 hy⟩,e⟩)))
 rw[List.length_cons] at h3;exact⟨aR_ h.1 _ hx,by omega,by omega⟩
theorem kI_ {n:Nat}{K:Kn}(hK:KB K):∀ {u u':Ty},SmT u→dX_ n K u=some u'→SmT u':=by
 induction n with
 | zero=>intro u u' _ h;cases h
 | succ n ih =>
  intro u u' hu h;have:∀ (ms:List Int) (x:Ty),SmT x→dH_ (dX_ n K) K ms x=some u'→SmT u':=by
   intro ms
   induction ms with
   | nil=>intro x hx h;rw[dH_] at h;injection h with h;rw[← h];exact hx
   | cons m ms ihm =>
    intro x hx h;rw[dH_] at h
    split at h
    ·exact ihm x hx h
    ·next y hy =>
     split at h
     ·cases h
     ·next y' hy' =>
      split at h
      ·next hb =>
       simp only[Bool.and_eq_true] at hb;have g:=ih (hK m y hy) hy';exact ihm _ ⟨dG_ m y' x hx.1 g.1 hx.small.2.1 g.small.2.1,hb.2⟩ h
      ·cases h
  exact this (ap_ u) u hu h
theorem jT_ {t:Ty}(h:aY_ t)(h5:t.kind=5):∃ x,t.args=[x]:=by
 have hl:t.args.length=1:=by
  rcases ((bK_ t).1 h.1).1 with ⟨e,_⟩|⟨e,_⟩|e|⟨e,_⟩|⟨_,e⟩
  ·rw[h5] at e;exact absurd e (by decide)
  ·rw[h5] at e;exact absurd e (by decide)
  ·rw[h5] at e;exact absurd e (by decide)
  ·rw[h5] at e;exact absurd e (by decide)
  ·exact e
 exact List.length_eq_one_iff.1 hl
theorem q2_ (n:Nat):(⟨#[36]⟩:ByteArray)++ab_ (Lib.itoa (n:Int))=bo_ n:=by
 unfold bo_;rw[Lib.itoa_nonneg];rfl
theorem fk_ (n:Nat)(h:n<1000000):(bo_ n).size≤64:=by
 unfold bo_;rw[aU_,List.length_cons,← Lib.itoa_nonneg];have:=Lib.itoa_length_le (n:Int) (by omega) (by omega);omega
theorem UM.setf {T:Nat→Prop}{n0:Nat}{w:World}{wb kb:Nat}{W:Wk}{v:Value}{ps:List (Value × Value)}(h:UM T n0 w wb kb W v ps)(n:Nat) :
  UM T n0 (w.setCell ⟨wb,2,none⟩ (.int .i64 n)) wb kb ⟨W.K,W.left,n⟩ v ps:=by
 have off:∀ b,b≠wb→(w.setCell ⟨wb,2,none⟩ (.int .i64 n)).heap[b]? = w.heap[b]? := fun b hb=>aB_ _ _ _ _ hb;exact⟨h.wk.set2 n,h.kn.keep (off kb (Ne.symm h.ne)) fun j hj=>off j (h.t j hj).2.1,h.row.keep (fun b e=>off b (h.sep b e).1) fun j hj=>off j (h.t j hj).2.1,h.ne,h.lo,h.sep,fun b hT=>⟨by simpa using (h.t b hT).1,(h.t b hT).2⟩⟩
theorem cX_.eqs {S:Nat→Prop}{lo:Nat}{w:World}{v:Value}{es:List EqT}{ps:List (Value × Value)}(h:cX_ S lo w v es ps)(hl:es.length≤1000000000000):ep_ (fun b=>v.ownBlock=some b) S w v es:=by
 rcases h.own.2 with ⟨hv,h0⟩|⟨g,cap,cur,hv,hb,hg,h1,h2,h3,h4⟩
 ·exact⟨none,0,by rw[hv,h0],hl,.inl (List.eq_nil_of_length_eq_zero h0)⟩
 ·refine⟨some ⟨g,0,none⟩,cap,hv,hl,.inr ⟨g,0,rfl,by rw[hv];rfl,fun i hi=>?_⟩⟩
  have hip:i<ps.length:=by rw[h.len];exact hi
  obtain⟨a,c,a',c',e1,e2,hA,hA'⟩:=h.at_ i es[i] ps[i] (List.getElem?_eq_getElem hi) (List.getElem?_eq_getElem hip);rw[e1] at hA;rw[e2] at hA';refine⟨a,c,a',c',fun j u hj hu=>?_,hA,hA'⟩;have hc:=h.own.cells (g:=g) (by rw[hv];rfl) (i*8+j) u (by
   rw[ek_ es ps h.len i hi hip j hj,show ps[i]=(ps[i].1,ps[i].2) from rfl,e1,e2];exact hu)
  have hadd:(⟨g,0,none⟩:Addr).add (i*8+j)=⟨g,0+i*8+j,none⟩:=by unfold Addr.add;split<;>simp_all
  rw[hadd] at hc;exact hc
theorem l1_ {l r:Ty}(hl:SmT l)(hr:SmT r):SmT (cB_ l r).1∧SmT (cB_ l r).2:=by
 unfold cB_
 split
 ·exact⟨hr,hl⟩
 ·exact⟨hl,hr⟩
theorem j5_ {l r:Ty}(h:r.kind=2∧(l.kind≠2∨l.n<r.n)):(cB_ l r).1=r∧(cB_ l r).2=l:=by unfold cB_;rw[if_pos h];exact⟨rfl,rfl⟩
theorem l2_ {l r:Ty}(h:¬ (r.kind=2∧(l.kind≠2∨l.n<r.n))):(cB_ l r).1=l∧(cB_ l r).2=r:=by unfold cB_;rw[if_neg h];exact⟨rfl,rfl⟩
theorem ep_.mono {S S' T:Nat→Prop}{w:World}{pv:Value}{es:List EqT}(H:ep_ S T w pv es)(h:∀ b,S b→S' b):ep_ S' T w pv es:=by
 obtain⟨a,cap,e,hl,hc⟩:=H;refine⟨a,cap,e,hl,hc.imp id ?_⟩;rintro ⟨b,off,e,hb,hc⟩;exact⟨b,off,e,h b hb,hc⟩
theorem ep_.one {S T:Nat→Prop}{w:World}{l r:Ty}{xa ya:OA_}{xc yc:Nat}(hA:aa_ T w (.slice xa l.args.length xc) l.args)(hA':aa_ T w (.slice ya r.args.length yc) r.args)(hT:∀ b,T b→b<w.heap.size)(hS:S w.heap.size) :
  ep_ S T (w.alloc (.cells #[.int .i64 l.kind,.string l.name,.int .i64 l.n,.slice xa l.args.length xc,.int .i64 r.kind,.string r.name,.int .i64 r.n,.slice ya r.args.length yc] 48)) (.slice (some ⟨w.heap.size,0,none⟩) 1 1) [(l,r)]:=by
 have q:=Q8.new w (.int .i64 l.kind) (.string l.name) (.int .i64 l.n) (.slice xa l.args.length xc) (.int .i64 r.kind) (.string r.name) (.int .i64 r.n) (.slice ya r.args.length yc);have k:∀ b,T b→(w.alloc (.cells #[.int .i64 l.kind,.string l.name,.int .i64 l.n,.slice xa l.args.length xc,.int .i64 r.kind,.string r.name,.int .i64 r.n,.slice ya r.args.length yc] 48)).heap[b]? = w.heap[b]? := fun b hb=>Below.heap_alloc _ _ _ (hT b hb);refine⟨_,1,rfl,by simp,.inr ⟨w.heap.size,0,rfl,hS,fun i hi=>?_⟩⟩;have h0:i=0:=by simpa using hi
 subst h0;refine⟨xa,xc,ya,yc,fun j u hj hu=>?_,hA.keep k,hA'.keep k⟩;have hj':j=0∨j=1∨j=2∨j=3∨j=4∨j=5∨j=6∨j=7:=by omega
 rcases hj' with rfl|rfl|rfl|rfl|rfl|rfl|rfl|rfl
 ·exact q.c0.trans hu
 ·exact q.c1.trans hu
 ·exact q.c2.trans hu
 ·exact q.c3.trans hu
 ·exact q.c4.trans hu
 ·exact q.c5.trans hu
 ·exact q.c6.trans hu
 ·exact q.c7.trans hu
theorem q7_ {t:Ty}(h:SmT t):t.args.length≤1000000000000:=by
 have h1:t.size≤2100000000:=(of_decide_eq_true h.2).1;have:=bi_ t.args;rw[t.size_eq] at h1;omega
theorem qS_ {T1:Nat→Prop}{n0:Nat}{w0 w3 w4 w5:World}{wb kb:Nat}{K:Kn}{lf:List EqT}{fr:Nat}{v:Value}{ps:List (Value × Value)}{l r:Ty}{xa ya:OA_}{xc yc:Nat}(h:UM T1 n0 w3 wb kb ⟨K,lf,fr⟩ v ps)(hb4:Below w3.heap.size w3 w4)(hb5:Below w4.heap.size w4 w5)
  (hA:aa_ (New T1 w3.drew w4) w4 (.slice xa l.args.length xc) l.args) (hA':aa_ (New T1 w4 w5) w5 (.slice ya r.args.length yc) r.args) (hn:n0≤w0.heap.size) (hl:lf.length≤500000000000) (hw:w0.heap.size≤w3.heap.size) :
  Calls Tryz.prog 32 #[.pointer (some ⟨wb,0,none⟩),.slice (some ⟨w5.heap.size,0,none⟩) 1 1] (w5.alloc (.cells #[.int .i64 l.kind,.string l.name,.int .i64 l.n,.slice xa l.args.length xc,.int .i64 r.kind,.string r.name,.int .i64 r.n,.slice ya r.args.length yc] 48))
   (kN_ (fun b=>T1 b∨w3.heap.size≤b∧b<w5.heap.size) n0 (w5.alloc (.cells #[.int .i64 l.kind,.string l.name,.int .i64 l.n,.slice xa l.args.length xc,.int .i64 r.kind,.string r.name,.int .i64 r.n,.slice ya r.args.length yc] 48)) wb kb K ([(l,r)]++lf) fr v):=by
 have hk:=h.klt;have h35:=hb4.trans (hb5.mono hb4.size);have hu:=(h.low h35).more hk.1 hk.2.1 hk.2.2;have T1l:∀ b,T1 b→b<w3.heap.size:=fun b hb=>(h.t b hb).1;have z4:=hb4.size;have z5:=hb5.size;have e1:w3.drew.heap.size=w3.heap.size:=rfl;have hA5:aa_ (fun b=>T1 b∨w3.heap.size≤b∧b<w5.heap.size) w5 (.slice xa l.args.length xc) l.args:=(hA.keep fun b hb=>hb5.block b (by rcases hb with hb|hb;have:=T1l b hb;omega;exact hb.2)).mono fun b hb=>hb.imp id fun h=>⟨by have:=h.1;omega,by have:=h.2;omega⟩;have hA5':aa_ (fun b=>T1 b∨w3.heap.size≤b∧b<w5.heap.size) w5 (.slice ya r.args.length yc) r.args:=hA'.mono fun b hb=>hb.imp id fun h=>⟨by have:=h.1;omega,h.2⟩;refine h1_ (hu.low (aw_ _ _)) (ep_.one hA5 hA5' (fun b hb=>(hu.t b hb).1) ⟨by simp,fun hx=>?_⟩) (by simp;omega) (by simp;omega)
 rcases hx with hx|hx|hx
 ·have:=hk.1;omega
 ·have:=hk.2.1;omega
 ·have:=hk.2.2 _ hx;omega
def nI_ (n0:Nat)(w:World)(wb kb:Nat)(v:Value)(res:Except Nat Wk)(en:Ending)(w':World):Prop :=
 match res with
 | .error er=>en=.returned (.int .i64 (er:Int))∧GB (XW wb kb v) w w'
 | .ok W'=>en=.returned (.int .i64 0)∧∃ T' v' ps',UM T' n0 w' wb kb W' v' ps'∧GB (XW wb kb v) w w'∧∀ b,v'.ownBlock=some b→v.ownBlock=some b∨w.heap.size≤b
end
section
structure WI (W:Wk):Prop where
 kb:KB W.K
 lf:∀ e∈W.left,SmT e.1∧SmT e.2
 kr:∀ x∈W.K,0≤x.1∧x.1<1000000000000000000
theorem qI_ {t:Ty}(h:aY_ t)(h2:t.kind=2):0≤t.n∧t.n<1000000000000000000:=by
 rcases ((bK_ t).1 h.1).1 with ⟨e,_⟩|⟨_,_,e⟩|e|⟨e,_⟩|⟨e,_⟩
 ·rw[h2] at e;exact absurd e (by decide)
 ·exact e
 ·rw[h2] at e;exact absurd e (by decide)
 ·rw[h2] at e;exact absurd e (by decide)
 ·rw[h2] at e;exact absurd e (by decide)
theorem pw_ {t:Ty}{fr:Nat}(h:SmT t)(h5:t.kind=5)(hf:fr<1000000)(hs:smB (opT t (bo_ fr))=true):SmT (opT t (bo_ fr)):=by
 obtain⟨x,hx⟩:=jT_ h.1 h5;have hsx:bG_ x:=h.argS (by rw[hx];simp);refine⟨?_,hs⟩;have e:opT t (bo_ fr)=f6_ t.name (.mk 1 (bo_ fr) 0 []) x:=by unfold opT cm_;rw[hx]
 rw[e];exact g0_ t.name (.mk 1 (bo_ fr) 0 []) x hsx.1 (gd_ _ (fk_ fr hf)) hsx.2.1 (by show (1:Nat)≤_;omega)
theorem qQ_ {K K':Kn}{m:Int}{t:Ty}(h:hv_ K m t=.ok K'):K'=K++[(m,t)]:=by
 unfold hv_ at h
 split at h
 ·cases h
 ·split at h
  ·cases h
  ·split at h
   ·cases h
   ·injection h with h;exact h.symm
theorem nZ_ {W W':Wk}{L R:Ty}(h:WI W)(hL:SmT L)(hR:SmT R)(hs:f9_ W L R=some (.ok W')):WI W'∧W'.K.length≤W.K.length+1:=by
 unfold f9_ at hs
 by_cases hc:aM_ L=aM_ R
 ·rw[if_pos hc] at hs
  injection hs with hs
  injection hs with hs
  subst hs;exact⟨h,by omega⟩
 ·rw[if_neg hc] at hs
  by_cases h2:L.kind=2
  ·rw[if_pos h2] at hs
   split at hs
   ·cases hs
   ·next hcond =>
    injection hs with hs
    cases hq:hv_ W.K L.n R with
    | error e=>rw[hq] at hs;cases hs
    | ok K' =>
     rw[hq] at hs;injection hs with hs
     subst hs;have hK:=qQ_ hq;have hnl:lkK W.K L.n=none:=by
      cases hk:lkK W.K L.n with
      | none=>rfl
      | some u=>rw[hk] at hcond;simp at hcond
     subst hK;refine⟨⟨fun m u hu=>?_,h.lf,fun x hx=>?_⟩,by simp⟩
     ·by_cases hm:L.n=m
      ·subst hm
       have:=(bM_ hnl R).symm.trans hu;injection this with this
       rw[← this];exact hR
      ·exact h.kb m u ((bf_ hm).symm.trans hu)
     ·rcases List.mem_append.1 hx with hx|hx
      ·exact h.kr x hx
      ·rw[List.mem_singleton.1 hx]
       exact qI_ hL.1 h2
  ·rw[if_neg h2] at hs
   by_cases hcl:bg_ L R=true
   ·rw[if_pos hcl] at hs
    injection hs with hs
    cases hs
   ·rw[if_neg hcl] at hs
    have hcf:bg_ L R=false:=by simpa using hcl
    have hkk:L.kind=R.kind:=by
     unfold bg_ at hcf;simp only[Bool.or_eq_false_iff,bne_eq_false_iff_eq] at hcf;exact hcf.1.1.1
    by_cases h5:L.kind=5
    ·rw[if_pos h5] at hs
     split at hs
     ·next hcond =>
      simp only[Bool.and_eq_true] at hcond;injection hs with hs
      injection hs with hs
      subst hs;have hf:W.fresh<1000000:=of_decide_eq_true hcond.2;refine⟨⟨h.kb,fun e he=>?_,h.kr⟩,Nat.le_succ _⟩
      rcases List.mem_cons.1 he with rfl|he
      ·exact⟨pw_ hL h5 hf hcond.1.1,pw_ hR (hkk ▸ h5) hf hcond.1.2⟩
      ·exact h.lf e he
     ·cases hs
    ·rw[if_neg h5] at hs
     injection hs with hs
     injection hs with hs
     subst hs;refine⟨⟨h.kb,fun e he=>?_,h.kr⟩,Nat.le_succ _⟩
     rcases List.mem_append.1 he with he|he
     ·have:=List.of_mem_zip (show (e.1,e.2)∈_ from he)
      exact⟨hL.arg h5 this.1,hR.arg (hkk ▸ h5) this.2⟩
     ·exact h.lf e he
theorem n0_ {W:Wk}{L R:Ty}{er:Nat}(hs:f9_ W L R=some (.error er)):er≠0:=by
 unfold f9_ at hs
 split at hs
 ·injection hs with hs;cases hs
 ·split at hs
  ·split at hs
   ·cases hs
   ·injection hs with hs
    cases hq:hv_ W.K L.n R with
    | ok K'=>rw[hq] at hs;cases hs
    | error e =>
     rw[hq] at hs;injection hs with hs
     subst hs;unfold hv_ at hq;intro h0;subst h0
     split at hq
     ·injection hq with hq;cases hq
     ·split at hq
      ·injection hq with hq;cases hq
      ·split at hq
       ·injection hq with hq;cases hq
       ·cases hq
  ·split at hs
   ·injection hs with hs;injection hs with hs;omega
   ·split at hs
    ·split at hs
     ·injection hs with hs;cases hs
     ·cases hs
    ·injection hs with hs;cases hs
theorem fv_ {d:Nat}{W:Wk}{e:EqT}{res:Except Nat Wk}(h:er_ d W e=some res):∃ l r,dX_ d W.K e.1=some l∧dX_ d W.K e.2=some r∧f9_ W (cB_ l r).1 (cB_ l r).2=some res:=by
 unfold er_ at h
 split at h
 ·cases h
 ·next l hl =>
  split at h
  ·cases h
  ·next r hr=>exact⟨l,r,hl,hr,h⟩
theorem n1_ {d:Nat}{K:Kn}{e:EqT}{es:List EqT}{fr:Nat}{W':Wk}(h:WI ⟨K,e :: es,fr⟩)(hs:er_ d ⟨K,es,fr⟩ e=some (.ok W')):WI W'∧W'.K.length≤K.length+1:=by
 obtain⟨l,r,hl,hr,hst⟩:=fv_ hs;have he:=h.lf e (by simp);have hsw:=l1_ (kI_ (K:=K) h.kb he.1 hl) (kI_ (K:=K) h.kb he.2 hr);exact nZ_ (W:=⟨K,es,fr⟩) ⟨h.kb,fun x hx=>h.lf x (List.mem_cons_of_mem _ hx),h.kr⟩ hsw.1 hsw.2 hst
theorem mk_ {d n:Nat}{W:Wk}{e:EqT}{es:List EqT}{res:Except Nat Kn}(hl:W.left=e :: es)(h:de_ d n W=some res) :
  ∃ n',n=n'+1∧((∃ er,er_ d ⟨W.K,es,W.fresh⟩ e=some (.error er)∧res=.error er)∨∃ W',er_ d ⟨W.K,es,W.fresh⟩ e=some (.ok W')∧W'.left.length≤500000000000∧de_ d n' W'=some res):=by
 cases n with
 | zero=>cases h
 | succ n =>
  refine⟨n,rfl,?_⟩;rw[de_,hl] at h;simp only at h
  split at h
  ·cases h
  ·next er he=>injection h with h;exact .inl ⟨er,he,h.symm⟩
  ·next W' he =>
   split at h
   ·next hle=>exact .inr ⟨W',he,hle,h⟩
   ·cases h
theorem n8_ {d n:Nat}{W:Wk}{res:Except Nat Kn}(hl:W.left=[])(h:de_ d n W=some res):res=.ok W.K:=by
 cases n with
 | zero=>cases h
 | succ n =>
  rw[de_,hl] at h;simp only at h;injection h with h
  exact h.symm
end
end Go.Proofs.YtjecnionbjlncaaGreatDoor.Tp

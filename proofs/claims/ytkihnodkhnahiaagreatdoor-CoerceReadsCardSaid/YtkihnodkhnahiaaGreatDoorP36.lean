/- Packed. -/
import Derived.Test.YtkihnodkhnahiaaGreatDoorP22
import Derived.Test.YtkihnodkhnahiaaGreatDoorP32
import Derived.Test.YtkihnodkhnahiaaGreatDoorP35
set_option maxRecDepth 100000
set_option maxHeartbeats 6400000
namespace Go.Proofs.YtkihnodkhnahiaaGreatDoor.Tp
open Go.RowKit
def PeH (w:World)(res:Except Nat Ty)(e:Ending)(w':World):Prop :=
 ∃ (t:Ty) (a:OA_) (c er:Nat),e=.returned (.tuple #[.agg #[.int .i64 t.kind,.string t.name,.int .i64 t.n,.slice a t.args.length c],.int .i64 er])∧Below w.heap.size w (w'.alloc (.cells #[.int .i64 t.kind,.string t.name,.int .i64 t.n,.slice a t.args.length c] 30)) ∧
  B4 (w'.alloc (.cells #[.int .i64 t.kind,.string t.name,.int .i64 t.n,.slice a t.args.length c] 30)) w'.heap.size (.int .i64 t.kind) (.string t.name) (.int .i64 t.n) (.slice a t.args.length c) ∧
  ac_ (In w.heap.size w'.heap.size) (w'.alloc (.cells #[.int .i64 t.kind,.string t.name,.int .i64 t.n,.slice a t.args.length c] 30)) (.slice a t.args.length c) t.args ∧
  (res=.ok t∧er=0∨res=.error er∧er≠0)∧w.heap.size≤w'.heap.size
theorem qt_ (w:World)(s:ByteArray)(hs:s.size≤maxLen):Calls Tryz.prog 14 #[.string s] w (PeH w (bF_ s.data.toList)):=by
 refine (nz_ w s hs).mono ?_;rintro e w' ⟨hb,hres⟩;cases hp:bF_ s.data.toList with
 | error er =>
  rw[hp] at hres;subst hres;exact⟨tz,none,0,er,rfl,hb.trans ((ao_ _ _).mono hb.size),B4.new w' _ _ _ _,.nil _ _,.inr ⟨rfl,ps_ hp⟩,hb.size⟩
 | ok t =>
  rw[hp] at hres;obtain⟨a,c,rfl,hA⟩:=hres;exact⟨t,a,c,0,rfl,hb.trans ((ao_ _ _).mono hb.size),B4.new w' _ _ _ _,hA.keep fun b hb'=>heap_alloc_old w' _ hb'.2,.inl ⟨rfl,rfl⟩,hb.size⟩
def PeR (w:World)(e:Ending)(w':World):Prop :=
 ∃ (k n:Int) (s:ByteArray) (a:OA_) (l c er:Nat),e=.returned (.tuple #[.agg #[.int .i64 k,.string s,.int .i64 n,.slice a l c],.int .i64 er])∧Below w.heap.size w (w'.alloc (.cells #[.int .i64 k,.string s,.int .i64 n,.slice a l c] 56)) ∧
  R4 (w'.alloc (.cells #[.int .i64 k,.string s,.int .i64 n,.slice a l c] 56)) w'.heap.size (.int .i64 k) (.string s) (.int .i64 n) (.slice a l c)∧w.heap.size≤w'.heap.size
theorem ny_ (w:World)(s:ByteArray)(hs:s.size≤maxLen):Calls Tryz.prog 23 #[.string s] w (PeR w):=by
 refine (lX_ w s hs).mono ?_;rintro e w' ⟨hb,hres⟩;cases hp:bF_ s.data.toList with
 | error er =>
  rw[hp] at hres;subst hres;exact⟨0,0,_,none,0,0,er,rfl,hb.trans ((ao_ _ _).mono hb.size),R4.new w' _ _ _ _,hb.size⟩
 | ok t =>
  rw[hp] at hres;obtain⟨a,c,rfl,hA⟩:=hres;exact⟨t.kind,t.n,t.name,a,t.args.length,c,0,rfl,hb.trans ((ao_ _ _).mono hb.size),R4.new w' _ _ _ _,hb.size⟩
theorem id_ (w:World)(o:Obj):w.drew.alloc o=(w.alloc o).drew:=rfl
def rS_ (w:World)(res:Option (List Giv))(e:Ending)(w':World):Prop :=
 Below w.heap.size w w'∧match res with
 | none=>e=.returned (.tuple #[.slice none 0 0,.slice none 0 0,.bool false])
 | some g=>∃ a c b d,e=.returned (.tuple #[.slice a g.length c,.slice b g.length d,.bool true])∧dk_ (In w.heap.size w'.heap.size) w' (.slice a g.length c) g∧(a=none→c=0)
theorem ni_ (w:World)(v:Value)(ls:List Ln)(hL:mz_ w v ls):Calls Tryz.prog 9 #[v] w (rS_ w (gU_ ls)):=by
 obtain⟨a,c,rfl,hlc,hl63,hsz,hcells⟩:=hL
 by_cases h6:6<ls.length
 ·have hz:(6:Int)<(ls.length:Int):=by omega
  have hz2:decide ((6:Int)<(ls.length:Int))=true:=decide_eq_true hz;have E:Hid (gU_ ls=none):=hid (if_pos h6);clear hsz hcells;go_enter Tryz.func9,Tryz.ntmps9;go_wp2;go_ret3;refine⟨Below.refl _ _,?_⟩;rw[E.out];rfl
 ·have hz2:decide ((6:Int)<(ls.length:Int))=false:=by simp;omega
  have ER:Hid (gU_ ls=hy_ ls):=hid (if_neg h6);have HSZ:=hid hsz;have HCL:=hid hcells;have B0:=hid (Below.refl w.heap.size w);clear hsz hcells;go_enter Tryz.func9,Tryz.ntmps9;go_wp2
  go_loopw [5,6,7] (fun av bv iv wr=>∃ (i:Nat) (gs:List Giv) (ps:List (Value × Value)),iv=.int .i64 i∧i≤ls.length∧hy_ (ls.take i)=some gs∧kB_ w.heap.size wr av bv gs ps∧Below w.heap.size w wr) (fun _ _ iv _=>ls.length - (intOf iv).toNat)
  case atStart=>exact⟨0,[],[],rfl,Nat.zero_le _,rfl,kB_.nil (aw_ _),B0.out⟩
  case round =>
   clear hz2;obtain⟨i,gs,ps,rfl,hil,hg,hT,hB⟩:=hrel;have z0:(0:Int)≤(i:Int):=(by omega);obtain⟨xs2,ho2⟩:=hT.two;obtain⟨la,lc,rfl⟩:=a2_ hT.own;obtain⟨ra,rc,rfl⟩:=a2_ ho2;have hgl:=iL_ hg;rw[List.length_take] at hgl;have HGL:Hid (gs.length≤6):=hid (by omega);have TH:=hid hT;have BH:=hid hB;have HG:=hid hg
   by_cases hi:i<ls.length
   ·have z1:(i:Int)<(ls.length:Int):=by omega
    obtain⟨b,off,rfl,hb,hc⟩:∃ b off,a=some ⟨b,off,none⟩∧b<w.heap.size∧∀ j (h:j<ls.length),w.cell? ⟨b,off+j*3,none⟩=some (.string ls[j].nm)∧w.cell? ⟨b,off+j*3+1,none⟩=some (.string ls[j].l)∧w.cell? ⟨b,off+j*3+2,none⟩=some (.string ls[j].r):=by
     rcases HCL.out with h|h
     ·rw[h] at hi;simp at hi
     ·exact h
    obtain⟨q0,q1,q2⟩:=hc i hi;have hme:=List.getElem_mem hi;obtain⟨m0,m1,m2⟩:=HSZ.out _ hme;have TK:Hid (hy_ (ls.take (i+1))=match gOf ls[i] with|none=>none|some g=>some (gs++[g])):=hid (by rw[List.take_succ_eq_append_getElem hi];exact jH_ _ _ HG.out);have NO:Hid (gOf ls[i]=none→hy_ ls=none):=hid fun e=>jI_ ls _ hme e;have LC:Hid (∀ W,Below w.heap.size w W→W.cell? ⟨b,off+i*3,none⟩=some (.string ls[i].nm)∧W.cell? ⟨b,off+i*3+1,none⟩=some (.string ls[i].l)∧W.cell? ⟨b,off+i*3+2,none⟩=some (.string ls[i].r)):=hid fun W h=>by
     have k:∀ o,W.cell? ⟨b,o,none⟩=w.cell? ⟨b,o,none⟩:=fun o=>World.cell?_of_block (h.block b hb);rw[k,k,k];exact⟨q0,q1,q2⟩
    clear hT hg hgl hc q0 q1 q2 hme ho2 hb m0;generalize ls[i]=x at *;obtain⟨l0,l1,l2⟩:=LC.out _ hB;have m1L:=hid m1;have m2L:=hid m2;have m1':x.l.size≤9223372036854775807:=m1;have m2':x.r.size≤9223372036854775807:=m2;clear hB m1 m2;go_wp2_with fail;refine (qt_ _ x.l m1L.out).mono ?_;rintro e w1 ⟨t,ta,tc,er1,rfl,hB1,k1,hA1,hc1,hs1⟩;have B1:=hid (BH.out.trans (hB1.mono BH.out.size));have T1:=hid (TH.out.low hB1);have HC1:=hid hc1;have K1:=hid k1;have A1:=hid hA1;have S1:=hid hs1;obtain⟨l0,l1,l2⟩:=LC.out _ B1.out;clear hB1 k1 hA1 hc1 hs1;go_wp2_with fail;refine (qt_ _ x.r m2L.out).mono ?_;rintro e w2 ⟨u,ua,uc,er2,rfl,hB2,k2,hA2,hc2,hs2⟩;have B2:=hid (B1.out.trans (hB2.mono B1.out.size));have T2:=hid (T1.out.low hB2);have HC2:=hid hc2;have K12:=hid (K1.out.low hB2);have K2:=hid k2;have A12:=hid (A1.out.keep fun b hb=>hB2.block b (by have:=hb.2;simp;omega));have A2:=hid hA2;have S2:=hid hs2;obtain⟨l0,l1,l2⟩:=LC.out _ B2.out;clear hB2 k2 hA2 hc2 hs2 T1 K1 A1;go_wp2_with fail;refine (ny_ _ x.l m1L.out).mono ?_;rintro e w3 ⟨rk,rn,rs,raa,rl,rcc,er3,rfl,hB3,k3,hs3⟩;have B3:=hid (B2.out.trans (hB3.mono B2.out.size));have T3:=hid (T2.out.low hB3);have K13:=hid (K12.out.low hB3);have K23:=hid (K2.out.low hB3);have K3:=hid k3;have A13:=hid (A12.out.keep fun b hb=>hB3.block b (by have:=hb.2;have:=S2.out;simp at *;omega));have A23:=hid (A2.out.keep fun b hb=>hB3.block b (by have:=hb.2;simp;omega));have S3:=hid hs3;obtain⟨l0,l1,l2⟩:=LC.out _ B3.out;clear hB3 k3 hs3 T2 K12 K2 A12 A2;go_wp2_with fail;refine (ny_ _ x.r m2L.out).mono ?_;rintro e w4 ⟨sk_,sn,ss,saa,sl,scc,er4,rfl,hB4,k4,hs4⟩;have B4_:=hid (B3.out.trans (hB4.mono B3.out.size));have T4:=hid (T3.out.low hB4);have K14:=K13.out.low hB4;have K24:=K23.out.low hB4;have K34:=K3.out.low hB4;have A14:=A13.out.keep fun b hb=>hB4.block b (by have:=hb.2;have:=S2.out;have:=S3.out;simp at *;omega);have A24:=A23.out.keep fun b hb=>hB4.block b (by have:=hb.2;have:=S3.out;simp at *;omega);have hS:wr.heap.size≤w1.heap.size∧w1.heap.size+1≤w2.heap.size∧w2.heap.size+1≤w3.heap.size∧w3.heap.size+1≤w4.heap.size:=by
     have h1:=S1.out;have h2:=S2.out;have h3:=S3.out;simp at h2 h3 hs4;omega
    have hz4:(w4.alloc (.cells #[.int .i64 sk_,.string ss,.int .i64 sn,.slice saa sl scc] 56)).heap.size=w4.heap.size+1:=(by simp);obtain⟨l0,l1,l2⟩:=LC.out _ B4_.out;have HA14:=hid A14;have HA24:=hid A24;have HK34:=hid K34;have HK44:=hid k4;have HK14:=hid K14;have HK24:=hid K24;clear hB4 k4 hs4 T3 K13 K23 K3 A13 A23 K14 K24 K34 A14 A24;have HSS:=hid hS;have HZ4:=hid hz4;have hcase:(gOf x=none∧(((er1:Int) != 0)=true∨(((er1:Int) != 0)=false∧((er2:Int) != 0)=true)∨(((er1:Int) != 0)=false∧((er2:Int) != 0)=false∧(decide ((120:Int)<(x.l.size:Int))=true))∨(((er1:Int) != 0)=false∧((er2:Int) != 0)=false∧(decide ((120:Int)<(x.l.size:Int))=false)∧(decide ((120:Int)<(x.r.size:Int))=true)))) ∨
      (gOf x=some ⟨x.nm,t,u⟩∧((er1:Int) != 0)=false∧((er2:Int) != 0)=false∧(decide ((120:Int)<(x.l.size:Int))=false)∧(decide ((120:Int)<(x.r.size:Int))=false)):=by
     have n0:∀ {e:Nat},e≠0→((e:Int) != 0)=true:=fun h=>by rw[bne_iff_ne];omega
     rcases HC1.out with ⟨p1,rfl⟩|⟨p1,h1⟩
     ·rcases HC2.out with ⟨p2,rfl⟩|⟨p2,h2⟩
      ·by_cases hl:120<x.l.size
       ·exact .inl ⟨by unfold gOf;rw[p1,p2];exact if_neg (by omega),.inr (.inr (.inl ⟨rfl,rfl,decide_eq_true (by omega)⟩))⟩
       ·by_cases hr:120<x.r.size
        ·exact .inl ⟨by unfold gOf;rw[p1,p2];exact if_neg (by omega),.inr (.inr (.inr ⟨rfl,rfl,decide_eq_false (by omega),decide_eq_true (by omega)⟩))⟩
        ·exact .inr ⟨by unfold gOf;rw[p1,p2];exact if_pos (by omega),rfl,rfl,decide_eq_false (by omega),decide_eq_false (by omega)⟩
      ·exact .inl ⟨by unfold gOf;rw[p1,p2],.inr (.inl ⟨rfl,n0 h2⟩)⟩
     ·exact .inl ⟨by unfold gOf;rw[p1],.inl (n0 h1)⟩
    clear hS hz4
    rcases hcase with ⟨hgo,hq⟩|⟨hgo,e1,e2,e3,e4⟩
    ·have E:Hid (gU_ ls=none):=hid (by rw[ER.out];exact NO.out hgo)
     clear hgo
     rcases hq with e1|⟨e1,e2⟩|⟨e1,e2,e3⟩|⟨e1,e2,e3,e4⟩
     all_goals
      go_wp2;go_ret3;refine⟨B4_.out,?_⟩;rw[E.out];rfl
    ·have TK2:Hid (hy_ (ls.take (i+1))=some (gs++[⟨x.nm,t,u⟩])):=hid (by rw[TK.out,hgo])
     clear hgo;have hoff:∀ b,wr.heap.size≤b→b<(w4.alloc (.cells #[.int .i64 sk_,.string ss,.int .i64 sn,.slice saa sl scc] 56)).heap.size→jQ_ w.heap.size (w4.alloc (.cells #[.int .i64 sk_,.string ss,.int .i64 sn,.slice saa sl scc] 56)).drew (.slice la gs.length lc) (.slice ra gs.length rc) b:=fun b h1 h2=>by
      have h3:=BH.out.size;refine⟨by omega,h2,fun e=>?_,fun e=>?_⟩
      ·have:=(TH.out.own.lt b e).2;omega
      ·obtain⟨ys,hy⟩:=TH.out.two;have:=(hy.lt b e).2;omega
     have ad1:=(HA14.out.keep (A:=(w4.alloc (.cells #[.int .i64 sk_,.string ss,.int .i64 sn,.slice saa sl scc] 56))) (B:=(w4.alloc (.cells #[.int .i64 sk_,.string ss,.int .i64 sn,.slice saa sl scc] 56)).drew) fun _ _=>rfl).mono (S':=jQ_ w.heap.size (w4.alloc (.cells #[.int .i64 sk_,.string ss,.int .i64 sn,.slice saa sl scc] 56)).drew (.slice la gs.length lc) (.slice ra gs.length rc)) fun b hb=>hoff b hb.1 (by have:=hb.2;have:=HSS.out;have:=HZ4.out;omega);have ad2:=(HA24.out.keep (A:=(w4.alloc (.cells #[.int .i64 sk_,.string ss,.int .i64 sn,.slice saa sl scc] 56))) (B:=(w4.alloc (.cells #[.int .i64 sk_,.string ss,.int .i64 sn,.slice saa sl scc] 56)).drew) fun _ _=>rfl).mono (S':=jQ_ w.heap.size (w4.alloc (.cells #[.int .i64 sk_,.string ss,.int .i64 sn,.slice saa sl scc] 56)).drew (.slice la gs.length lc) (.slice ra gs.length rc)) fun b hb=>hoff b (by have h1:=hb.1;have h2:=HSS.out;simp at h1;omega) (by have:=hb.2;have:=HSS.out;have:=HZ4.out;omega);have pa:=kB_.push1 (T4.out.low (Below.refl _ _).drew) (by have:=HGL.out;omega) ⟨x.nm,t,u⟩ (.slice ta t.args.length tc,.slice ua u.args.length uc) ad1 ad2 ⟨_,_,_,_,rfl⟩;dsimp only[B9] at pa;rw[id_,show (w4.alloc (.cells #[.int .i64 sk_,.string ss,.int .i64 sn,.slice saa sl scc] 56)).drew.heap.size=w4.heap.size+1 from HZ4.out] at pa;have PA:=hid pa;have k1:=HK14.out;have k2:=HK24.out;obtain⟨p0,p1,p2,p3⟩:=k1.c03;obtain⟨r0,r1,r2,r3⟩:=k2.c03;have N1:Hid (∀ b,wr.heap.size≤b→(Value.slice la gs.length lc).ownBlock≠some b):=hid fun b hb e=>by have:=(TH.out.own.lt b e).2;omega
     have N2:Hid (∀ b,wr.heap.size≤b→(Value.slice ra gs.length rc).ownBlock≠some b):=hid fun b hb e=>by obtain⟨ys,hy⟩:=TH.out.two;have:=(hy.lt b e).2;omega
     have NR:Hid (∀ b,(Value.slice ra gs.length rc).ownBlock=some b→w.heap.size≤b):=hid fun b e=>by obtain⟨ys,hy⟩:=TH.out.two;exact (hy.lt b e).1
     have NL:Hid (∀ b,(Value.slice la gs.length lc).ownBlock=some b→w.heap.size≤b):=hid fun b e=>(TH.out.own.lt b e).1;have KS:Hid (∀ w',(w4.alloc (.cells #[.int .i64 sk_,.string ss,.int .i64 sn,.slice saa sl scc] 56)).drew.grownBy w' (Value.slice la gs.length lc).ownBlock→w'.cell? ⟨w1.heap.size,0,none⟩=some (.int .i64 t.kind)∧w'.cell? ⟨w1.heap.size,1,none⟩=some (.string t.name)∧w'.cell? ⟨w1.heap.size,2,none⟩=some (.int .i64 t.n)∧w'.cell? ⟨w1.heap.size,3,none⟩=some (.slice ta t.args.length tc)∧w'.cell? ⟨w2.heap.size,0,none⟩=some (.int .i64 u.kind)∧w'.cell? ⟨w2.heap.size,1,none⟩=some (.string u.name)∧w'.cell? ⟨w2.heap.size,2,none⟩=some (.int .i64 u.n)∧w'.cell? ⟨w2.heap.size,3,none⟩=some (.slice ua u.args.length uc)∧w'.cell? ⟨b,off+i*3,none⟩=some (.string x.nm)):=hid fun w' hg=>by
      have g1:(w4.alloc (.cells #[.int .i64 sk_,.string ss,.int .i64 sn,.slice saa sl scc] 56)).grownBy w' (Value.slice la gs.length lc).ownBlock:=⟨hg.os,hg.tape,hg.output,hg.size,hg.block⟩;have j1:=HK14.out.grown g1 (fun e=>N1.out _ (by have:=HSS.out;omega) e);have j2:=HK24.out.grown g1 (fun e=>N1.out _ (by have:=HSS.out;omega) e);exact⟨j1.c0,j1.c1,j1.c2,j1.c3,j2.c0,j2.c1,j2.c2,j2.c3,(LC.out _ (B4_.out.grown g1 B4_.out.size fun k e=>NL.out k e)).1⟩
     clear pa hoff k1 k2 ad1 ad2;go_wp2
     go_region_held3 (fun w'=>w'.cell? ⟨w1.heap.size,0,none⟩=some (.int .i64 t.kind)∧w'.cell? ⟨w1.heap.size,1,none⟩=some (.string t.name)∧w'.cell? ⟨w1.heap.size,2,none⟩=some (.int .i64 t.n)∧w'.cell? ⟨w1.heap.size,3,none⟩=some (.slice ta t.args.length tc)∧w'.cell? ⟨w2.heap.size,0,none⟩=some (.int .i64 u.kind)∧w'.cell? ⟨w2.heap.size,1,none⟩=some (.string u.name)∧w'.cell? ⟨w2.heap.size,2,none⟩=some (.int .i64 u.n)∧w'.cell? ⟨w2.heap.size,3,none⟩=some (.slice ua u.args.length uc)∧w'.cell? ⟨b,off+i*3,none⟩=some (.string x.nm))
      (first|(with_reducible exact KS.out _ hg7)|go_keep)
      (first|((with_reducible show (if Region.wanted _ _=true then Oper.wp _ _ _ (World.drew (World.alloc _ _)) _ _ else _));refine aJ_ (by rfl) _ _ _ (by rfl) (by rfl) (by rfl) PA.out ?_;rintro v7 w7 ⟨hr7,hg7,hl7⟩;obtain⟨a7,c7,hv7⟩:=a2_ hr7.own;rw[List.length_append,List.length_singleton] at hv7;subst hv7))
     have HR7:=hid hr7;have G7:Hid ((w4.alloc (.cells #[.int .i64 sk_,.string ss,.int .i64 sn,.slice saa sl scc] 56)).grownBy w7 (Value.slice la gs.length lc).ownBlock):=hid ⟨hg7.os,hg7.tape,hg7.output,hg7.size,hg7.block⟩;clear hr7 hg7;have B7:=hid (B4_.out.grown G7.out B4_.out.size fun k e=>NL.out k e);have K37:=HK34.out.grown G7.out (fun e=>N1.out _ (by have:=HSS.out;omega) e);have K47:=HK44.out.grown G7.out (fun e=>N1.out _ (by have:=HSS.out;omega) e);obtain⟨l0,l1,l2⟩:=LC.out _ B7.out;obtain⟨s0,s1,s2,s3⟩:=K37.c03;obtain⟨y0,y1,y2,y3⟩:=K47.c03;have pb:=(rT_.push2 (HR7.out.low (Below.refl _ _).drew) (by simp) (by have:=HGL.out;omega) x.nm rs ss rk rn sk_ sn raa saa rl rcc sl scc);rw[id_] at pb;have PB:=hid pb;have HK37:=hid K37;have HK47:=hid K47;have KT:Hid (∀ w',(∃ r:Option Nat,w7.drew.grownBy w' r∧r≠some w3.heap.size∧r≠some w4.heap.size∧Below w.heap.size w w')→w'.cell? ⟨w3.heap.size,0,none⟩=some (.int .i64 rk)∧w'.cell? ⟨w3.heap.size,1,none⟩=some (.string rs)∧w'.cell? ⟨w3.heap.size,2,none⟩=some (.int .i64 rn)∧w'.cell? ⟨w3.heap.size,3,none⟩=some (.slice raa rl rcc)∧w'.cell? ⟨w4.heap.size,0,none⟩=some (.int .i64 sk_)∧w'.cell? ⟨w4.heap.size,1,none⟩=some (.string ss)∧w'.cell? ⟨w4.heap.size,2,none⟩=some (.int .i64 sn)∧w'.cell? ⟨w4.heap.size,3,none⟩=some (.slice saa sl scc)∧w'.cell? ⟨b,off+i*3,none⟩=some (.string x.nm)):=hid fun w' ⟨r,hg,n1,n2,hb⟩=>by
      have g1:w7.grownBy w' r:=⟨hg.os,hg.tape,hg.output,hg.size,hg.block⟩;have j1:=HK37.out.grown g1 n1;have j2:=HK47.out.grown g1 n2;exact⟨j1.c0,j1.c1,j1.c2,j1.c3,j2.c0,j2.c1,j2.c2,j2.c3,(LC.out _ hb).1⟩
     have BN:Hid (∀ w',w7.drew.grownBy w' (Value.slice ra gs.length rc).ownBlock→w'.cell? ⟨w3.heap.size,0,none⟩=some (.int .i64 rk)∧w'.cell? ⟨w3.heap.size,1,none⟩=some (.string rs)∧w'.cell? ⟨w3.heap.size,2,none⟩=some (.int .i64 rn)∧w'.cell? ⟨w3.heap.size,3,none⟩=some (.slice raa rl rcc)∧w'.cell? ⟨w4.heap.size,0,none⟩=some (.int .i64 sk_)∧w'.cell? ⟨w4.heap.size,1,none⟩=some (.string ss)∧w'.cell? ⟨w4.heap.size,2,none⟩=some (.int .i64 sn)∧w'.cell? ⟨w4.heap.size,3,none⟩=some (.slice saa sl scc)∧w'.cell? ⟨b,off+i*3,none⟩=some (.string x.nm)):=hid fun w' hg=>KT.out w' ⟨_,hg,(fun e=>N2.out _ (by have:=HSS.out;omega) e),(fun e=>N2.out _ (by have:=HSS.out;omega) e),B7.out.grown (⟨hg.os,hg.tape,hg.output,hg.size,hg.block⟩:w7.grownBy w' (Value.slice ra gs.length rc).ownBlock) B7.out.size (fun k e=>NR.out k e)⟩;clear pb K37 K47 p0 p1 p2 p3 r0 r1 r2 r3 PA KS KT;go_wp2
     go_region_held3 (fun w'=>w'.cell? ⟨w3.heap.size,0,none⟩=some (.int .i64 rk)∧w'.cell? ⟨w3.heap.size,1,none⟩=some (.string rs)∧w'.cell? ⟨w3.heap.size,2,none⟩=some (.int .i64 rn)∧w'.cell? ⟨w3.heap.size,3,none⟩=some (.slice raa rl rcc)∧w'.cell? ⟨w4.heap.size,0,none⟩=some (.int .i64 sk_)∧w'.cell? ⟨w4.heap.size,1,none⟩=some (.string ss)∧w'.cell? ⟨w4.heap.size,2,none⟩=some (.int .i64 sn)∧w'.cell? ⟨w4.heap.size,3,none⟩=some (.slice saa sl scc)∧w'.cell? ⟨b,off+i*3,none⟩=some (.string x.nm))
      (first|(with_reducible exact BN.out _ hg8)|go_keep)
      (first|((with_reducible show (if Region.wanted _ _=true then Oper.wp _ _ _ (World.drew (World.alloc _ _)) _ _ else _));refine aJ_ (by rfl) _ _ _ (by rfl) (by rfl) (by rfl) PB.out ?_;rintro v8 w8 ⟨hr8,hg8,hl8⟩))
     have HR8:=hid hr8;have B8_:=hid (B7.out.grown (⟨hg8.os,hg8.tape,hg8.output,hg8.size,hg8.block⟩:w7.grownBy w8 (Value.slice ra gs.length rc).ownBlock) B7.out.size (fun k e=>NR.out k e));clear hr8 hg8;go_wp2;go_roundw
     case measure=>simp[intOf];omega
     case rel=>exact⟨i+1,gs++[⟨x.nm,t,u⟩],_,by go_num,by omega,TK2.out,HR8.out,B8_.out⟩
   ·obtain rfl:i=ls.length:=by omega
    rw[List.take_length] at hg;have E:Hid (gU_ ls=some gs):=hid (by rw[ER.out];exact hg);have HV:=hid (hT.giv (by have:=HGL.out;omega));have HF:Hid (la=none→lc=0):=hid fun e=>by obtain⟨a',c',e1,e2⟩:=hT.form;injection e1 with e3 _ e4;rw[e4];exact e2 (e3 ▸ e)
    clear hT hB hg hgl ho2;go_wp2;go_ret3;refine⟨BH.out,?_⟩;rw[E.out];exact⟨la,lc,ra,rc,rfl,HV.out,HF.out⟩
end Go.Proofs.YtkihnodkhnahiaaGreatDoor.Tp

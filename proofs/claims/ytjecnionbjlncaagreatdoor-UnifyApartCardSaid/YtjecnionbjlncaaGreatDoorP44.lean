/- Packed. -/
import Derived.Test.YtjecnionbjlncaaGreatDoorP39
import Derived.Test.YtjecnionbjlncaaGreatDoorP35
import Derived.Test.YtjecnionbjlncaaGreatDoorP43
set_option maxRecDepth 100000
set_option maxHeartbeats 6400000
namespace Go.Proofs.YtjecnionbjlncaaGreatDoor.Tp
section
open Go.RowKit
def fo_ (e:Int × Ty)(p:Value):List Value:=[.int .i64 e.1,.int .i64 e.2.kind,.string e.2.name,.int .i64 e.2.n,p]
def ca_ (es:Kn)(ps:List Value):List Value:=(es.zip ps).flatMap fun p=>fo_ p.1 p.2
theorem jQ_:∀ (cs:Kn) (ps:List Value) (c:Int × Ty) (p:Value),ps.length=cs.length→ca_ (cs++[c]) (ps++[p])=ca_ cs ps++fo_ c p:=by
 intro cs ps c p h;unfold ca_;rw[List.zip_append h.symm,List.flatMap_append];simp
theorem cW_:∀ (cs:Kn) (ps:List Value),ps.length=cs.length→(ca_ cs ps).length=cs.length*5:=by
 intro cs
 induction cs with
 | nil=>intro ps _;simp[ca_]
 | cons c cs ih =>
  intro ps h;cases ps with
  | nil=>cases h
  | cons p ps =>
   have:=ih ps (by simpa using h);unfold ca_ at *;rw[List.zip_cons_cons,List.flatMap_cons,List.length_append,this,List.length_cons];simp only[fo_,List.length_cons,List.length_nil];omega
theorem jc_:∀ (cs:Kn) (ps:List Value),ps.length=cs.length→∀ (i:Nat) (h:i<cs.length) (h':i<ps.length) (j:Nat),j<5→(ca_ cs ps)[i*5+j]? = (fo_ cs[i] ps[i])[j]? := by
 intro cs
 induction cs with
 | nil=>intro ps _ i h;cases h
 | cons c cs ih =>
  intro ps hl i h h' j hj;cases ps with
  | nil=>cases hl
  | cons p ps =>
   have e:ca_ (c :: cs) (p :: ps)=fo_ c p++ca_ cs ps:=rfl;rw[e];cases i with
   | zero =>
    rw[List.getElem?_append_left (by simp[fo_];omega)];simp
   | succ i =>
    rw[List.getElem?_append_right (by simp[fo_];omega)];have:=ih ps (by simpa using hl) i (by simpa using h) (by simpa using h') j hj;simp only[List.getElem_cons_succ];rw[← this];congr 1;simp only[fo_,List.length_cons,List.length_nil];omega
structure dZ_ (S:Nat→Prop)(lo:Nat)(w:World)(v:Value)(es:Kn)(ps:List Value):Prop where
 own:w.ownsRow lo 39 5 v es.length (ca_ es ps)
 len:ps.length=es.length
 at_:∀ (j:Nat) (e:Int × Ty) (p:Value),es[j]? = some e→ps[j]? = some p→∃ a c,p=.slice a e.2.args.length c∧aa_ S w p e.2.args
theorem dZ_.nil (S:Nat→Prop)(lo:Nat)(w:World):dZ_ S lo w (.slice none 0 0) [] []:=⟨World.ownsRow_nil _ _ _ _,rfl,by simp⟩
theorem dZ_.keep {S:Nat→Prop}{lo:Nat}{w w':World}{v:Value}{es:Kn}{ps:List Value}(h:dZ_ S lo w v es ps)(hv:∀ b,v.ownBlock=some b→w'.heap[b]? = w.heap[b]?)(hS:∀ b,S b→w'.heap[b]? = w.heap[b]?):dZ_ S lo w' v es ps :=
 ⟨aF_ h.own hv,h.len,fun j t sv h1 h2=>by
  obtain⟨a,c,e1,h3⟩:=h.at_ j t sv h1 h2;exact⟨a,c,e1,h3.keep hS⟩⟩
theorem dZ_.mono {S S':Nat→Prop}{lo:Nat}{w:World}{v:Value}{es:Kn}{ps:List Value}(h:dZ_ S lo w v es ps)(hS:∀ b,S b→S' b):dZ_ S' lo w v es ps :=
 ⟨h.own,h.len,fun j t sv h1 h2=>by
  obtain⟨a,c,e1,h3⟩:=h.at_ j t sv h1 h2;exact⟨a,c,e1,h3.mono hS⟩⟩
theorem pI_:(Tryz.prog.info? 39).map (fun i=>(i.zero,i.size,i.bytes))=some (some (.agg #[.int .i64 0,.int .i64 0,.string ByteArray.empty,.int .i64 0,.slice none 0 0]),5,64):=by kernel_rfl
theorem dZ_.push {S:Nat→Prop}{lo:Nat}{w:World}{v:Value}{es:Kn}{ps:List Value}(h:dZ_ S lo w v es ps)(hlo:lo≤w.heap.size)(hl:es.length≤1000000000000){x:Int × Ty}{a:OA_}{c:Nat}
  (hS:∀ b,S b→b<w.heap.size∧v.ownBlock≠some b) (h1:aa_ S w (.slice a x.2.args.length c) x.2.args) :
  ∃ v' w',(Builtin.append_ #[28,28] 28 #[v,.slice (some ⟨w.heap.size,0,none⟩) 1 1]).run Tryz.prog (w.alloc (.cells #[.int .i64 x.1,.int .i64 x.2.kind,.string x.2.name,.int .i64 x.2.n,.slice a x.2.args.length c] 39))=.ok v' w' ∧
   dZ_ S lo w' v' (es++[x]) (ps++[.slice a x.2.args.length c])∧w.grownBy w' v.ownBlock∧(∀ b,v'.ownBlock=some b→v.ownBlock=some b∨w.heap.size≤b)∧w.heap.size<w'.heap.size:=by
 obtain⟨i0,hi0,hz0,hz1,hz3⟩:=info_parts pI_;have hg0:w.grownBy (w.alloc (.cells #[.int .i64 x.1,.int .i64 x.2.kind,.string x.2.name,.int .i64 x.2.n,.slice a x.2.args.length c] 39)) v.ownBlock:=⟨rfl,rfl,rfl,by simp,fun k hk _=>heap_alloc_old w _ hk⟩;obtain⟨g,cap,w',hr,ho,hg,hat,hlt⟩:=run_append_lies (P:=Tryz.prog) (w:=w.alloc (.cells #[.int .i64 x.1,.int .i64 x.2.kind,.string x.2.name,.int .i64 x.2.n,.slice a x.2.args.length c] 39)) 28 28 lo 39 i0 _ 5 64 Tryz.underlying28 hi0 hz0 hz1 hz3 rfl (by omega) v es.length (ca_ es ps) (h.own.alloc _) ⟨w.heap.size,0,none⟩ 1 1
  (fo_ x (.slice a x.2.args.length c)) rfl (World.news_of_block (cs:=#[.int .i64 x.1,.int .i64 x.2.kind,.string x.2.name,.int .i64 x.2.n,.slice a x.2.args.length c]) (t:=39) (fr:=(0,0)) (heap_alloc_new w _)) (by simp[fo_,Value.oneCell']) (by omega) (by unfold maxLen;omega) (by omega) (by simp;omega) (w.heap.size+1) (by simp)
 have hgg:w.grownBy w' v.ownBlock:=⟨hg.os.trans hg0.os,hg.tape.trans hg0.tape,hg.output.trans hg0.output,cj_ hg0.size hg.size,fun k hk hne=>(hg.block k (by simp;omega) hne).trans (hg0.block k hk hne)⟩;have hsz:=hg.size;simp only[World.size_alloc] at hsz;have kS:∀ b,S b→w'.heap[b]? = w.heap[b]? := fun b hb=>hgg.block b (hS b hb).1 (Ne.symm (hS b hb).2);refine⟨_,w',hr,⟨?_,by simp[h.len],fun j t sv h5 h6=>?_⟩,hgg,fun b e=>?_,by omega⟩
 ·rw[jQ_ _ _ _ _ h.len,List.length_append];exact ho
 ·rcases Nat.lt_or_ge j es.length with hj|hj
  ·rw[List.getElem?_append_left hj] at h5
   rw[List.getElem?_append_left (by rw[h.len];exact hj)] at h6;obtain⟨b1,b2,e1,h3⟩:=h.at_ j t sv h5 h6;exact⟨b1,b2,e1,h3.keep kS⟩
  ·have hj':j=es.length:=by
    have:=(List.getElem?_eq_some_iff.1 h5).1;simp at this;omega
   subst hj';rw[List.getElem?_append_right (aC_ _)] at h5;rw[← h.len,List.getElem?_append_right (aC_ _)] at h6;simp at h5 h6;subst h5 h6;exact⟨a,c,rfl,h1.keep kS⟩
 ·rcases hat with e3|e3
  ·exact .inl (e3.trans (by simpa [Value.ownBlock] using e))
  ·refine .inr ?_
   have:g=b:=by simpa [Value.ownBlock] using e
   omega
theorem co_ {P:Program}{ops:Array Oper}{rest:List Oper}{o:Oper}{a:Act}{w:World}{Q:Exit→Act→World→Prop}(hgd:o.guard=none)(s x:Operand)(t:TypeId)
  (ho:o.op=.call { callee:=.builtin .append,args:=#[s,x],argTypes:=#[t,t] }) {v vx:Value} (hs:a.eval s=v) (hx:a.eval x=vx) {R:Value→World→Prop}
  (hrun:∃ v' w',(Builtin.append_ #[t,t] o.type #[v,vx]).run P w=.ok v' w'∧R v' w') (h:∀ v' w',R v' w'→wpList P ops Q rest (a.put o.dst v') w'):wpList P ops Q (o :: rest) a w :=
 wpList_plain hgd fun K hK=>by
  obtain⟨v',w',hr,hR⟩:=hrun;unfold Oper.wp execOp;simp only[ho,resolve,invoke,builtin,Sem.run_bind,Sem.run_pure,Result.andThen_ok,List.map_toArray,List.map_cons,List.map_nil,hs,hx,hr];exact hK _ _ (h v' w' hR)
def tz:Ty:=.mk 0 ⟨#[]⟩ 0 []
def PeH (w:World)(res:Except Nat Ty)(e:Ending)(w':World):Prop :=
  ∃ (t:Ty) (a:OA_) (c er:Nat),e=.returned (.tuple #[.agg #[.int .i64 t.kind,.string t.name,.int .i64 t.n,.slice a t.args.length c],.int .i64 er])∧Below w.heap.size w (w'.alloc (.cells #[.int .i64 t.kind,.string t.name,.int .i64 t.n,.slice a t.args.length c] 37)) ∧
    B4 (w'.alloc (.cells #[.int .i64 t.kind,.string t.name,.int .i64 t.n,.slice a t.args.length c] 37)) w'.heap.size (.int .i64 t.kind) (.string t.name) (.int .i64 t.n) (.slice a t.args.length c) ∧
    aa_ (In w.heap.size w'.heap.size) (w'.alloc (.cells #[.int .i64 t.kind,.string t.name,.int .i64 t.n,.slice a t.args.length c] 37)) (.slice a t.args.length c) t.args ∧
    (res=.ok t∧er=0∨res=.error er∧er≠0)∧w.heap.size≤w'.heap.size
theorem pv_ (w:World)(s:ByteArray)(hs:s.size≤maxLen):Calls Tryz.prog 23 #[.string s] w (PeH w (a8_ s.data.toList)):=by
  refine (mP_ w s hs).mono ?_;rintro e w' ⟨hb,hres⟩;cases hp:a8_ s.data.toList with
  | error er =>
    rw[hp] at hres;subst hres;exact⟨tz,none,0,er,rfl,hb.trans ((aw_ _ _).mono hb.size),B4.new w' _ _ _ _,.nil _ _,.inr ⟨rfl,ko_ hp⟩,hb.size⟩
  | ok t =>
    rw[hp] at hres;obtain⟨a,c,rfl,hA⟩:=hres;exact⟨t,a,c,0,rfl,hb.trans ((aw_ _ _).mono hb.size),B4.new w' _ _ _ _,hA.keep fun b hb'=>heap_alloc_old w' _ hb'.2,.inl ⟨rfl,rfl⟩,hb.size⟩
def PeR (w:World)(res:Except Nat Ty)(e:Ending)(w':World):Prop :=
  ∃ (t:Ty) (a:OA_) (c er:Nat),e=.returned (.tuple #[.agg #[.int .i64 t.kind,.string t.name,.int .i64 t.n,.slice a t.args.length c],.int .i64 er])∧Below w.heap.size w (w'.alloc (.cells #[.int .i64 t.kind,.string t.name,.int .i64 t.n,.slice a t.args.length c] 43)) ∧
    R4 (w'.alloc (.cells #[.int .i64 t.kind,.string t.name,.int .i64 t.n,.slice a t.args.length c] 43)) w'.heap.size (.int .i64 t.kind) (.string t.name) (.int .i64 t.n) (.slice a t.args.length c) ∧
    aa_ (In w.heap.size w'.heap.size) (w'.alloc (.cells #[.int .i64 t.kind,.string t.name,.int .i64 t.n,.slice a t.args.length c] 43)) (.slice a t.args.length c) t.args ∧
    (res=.ok t∧er=0∨res=.error er∧er≠0)∧w.heap.size≤w'.heap.size
theorem mO_ (w:World)(s:ByteArray)(hs:s.size≤maxLen):Calls Tryz.prog 27 #[.string s] w (PeR w (a8_ s.data.toList)):=by
  refine (k9_ w s hs).mono ?_;rintro e w' ⟨hb,hres⟩;cases hp:a8_ s.data.toList with
  | error er =>
    rw[hp] at hres;subst hres;exact⟨tz,none,0,er,rfl,hb.trans ((aw_ _ _).mono hb.size),R4.new w' _ _ _ _,.nil _ _,.inr ⟨rfl,ko_ hp⟩,hb.size⟩
  | ok t =>
    rw[hp] at hres;obtain⟨a,c,rfl,hA⟩:=hres;exact⟨t,a,c,0,rfl,hb.trans ((aw_ _ _).mono hb.size),R4.new w' _ _ _ _,hA.keep fun b hb'=>heap_alloc_old w' _ hb'.2,.inl ⟨rfl,rfl⟩,hb.size⟩
def QPost (w:World)(res:Option (List EqT))(e:Ending)(w':World):Prop :=
  Below w.heap.size w w'∧match res with
  | none=>e=.returned (.tuple #[.slice none 0 0,.slice none 0 0,.bool false])
  | some es=>∃ v1 v2 ps qs,e=.returned (.tuple #[v1,v2,.bool true])∧jo_ w.heap.size w' v1 v2 es es ps qs
theorem kt_ {s:ByteArray}{t:Ty}(h:a8_ s.data.toList=.ok t):nsT t≤4000:=cj_ (qH_ t) (dA_ h).2.2.2
theorem mu_ (w:World)(v:Value)(ls:List Ln)(hL:lJ_ w v ls):Calls Tryz.prog 13 #[v] w (QPost w (c9_ ls)):=by
  obtain⟨a,c,rfl,hlc,hl63,hsz,hcells⟩:=hL
  by_cases h6:8<ls.length
  · have hz:(8:Int)<(ls.length:Int):=by omega
    have hz2:decide ((8:Int)<(ls.length:Int))=true:=decide_eq_true hz;have E:Hid (c9_ ls=none):=hid (if_pos h6);clear hsz hcells;go_enter Tryz.func13,Tryz.ntmps13;go_wp2;go_ret3;refine⟨Below.refl _ _,?_⟩;rw[E.out];rfl
  · have hz2:decide ((8:Int)<(ls.length:Int))=false:=by simp;omega
    have ER:Hid (∀ es,eE_ ls=some es→nsE es≤24→c9_ ls=some es):=hid fun es he hn=>by
      unfold c9_;rw[if_neg h6,he];exact if_neg (by omega)
    have EN:Hid (eE_ ls=none→c9_ ls=none):=hid fun he=>by unfold c9_;rw[if_neg h6,he]
    have HL8:Hid (ls.length≤8):=hid (by omega);have HSZ:=hid hsz;have HCL:=hid hcells;have B0:=hid (Below.refl w.heap.size w);clear hsz hcells;go_enter Tryz.func13,Tryz.ntmps13;go_wp2
    go_loopw [5,6,7,8] (fun av bv nv iv wr=>∃ (i:Nat) (es:List EqT) (ps qs:List (Value × Value)),iv=.int .i64 i∧i≤ls.length∧eE_ (ls.take i)=some es∧nsE es≤24∧nv=.int .i64 ((nsE es:Nat):Int)∧jo_ w.heap.size wr av bv es es ps qs∧Below w.heap.size w wr) (fun _ _ _ iv _=>ls.length - (intOf iv).toNat)
    case atStart=>exact⟨0,[],[],[],rfl,Nat.zero_le _,rfl,Nat.zero_le _,rfl,jo_.nil (aC_ _),B0.out⟩
    case round =>
      clear hz2;obtain⟨i,es,ps,qs,rfl,hil,hg,hn24,rfl,hT,hB⟩:=hrel;have z0:(0:Int)≤(i:Int):=(by omega);obtain⟨la,lc,rfl⟩:=aG_ hT.a.own;obtain⟨ra,rc,rfl⟩:=aG_ hT.b.own;have hgl:=ij_ hg;rw[List.length_take] at hgl;have HGL:Hid (es.length≤8):=hid (by have:=HL8.out;omega);have TH:=hid hT;have BH:=hid hB;have HG:=hid hg;have HN:=hid hn24
      by_cases hi:i<ls.length
      · have z1:(i:Int)<(ls.length:Int):=by omega
        obtain⟨b,off,rfl,hb,hc⟩:∃ b off,a=some ⟨b,off,none⟩∧b<w.heap.size∧∀ j (h:j<ls.length),w.cell? ⟨b,off+j*2,none⟩=some (.string ls[j].l)∧w.cell? ⟨b,off+j*2+1,none⟩=some (.string ls[j].r):=by
          rcases HCL.out with h|h
          · rw[h] at hi;simp at hi
          · exact h
        obtain⟨q1,q2⟩:=hc i hi;have hme:=List.getElem_mem hi;obtain⟨m1,m2⟩:=HSZ.out _ hme;have TK:Hid (eE_ (ls.take (i+1))=match qOf ls[i] with|none=>none|some g=>some (es++[g])):=hid (by rw[List.take_succ_eq_append_getElem hi];exact nB_ _ _ HG.out);have NO:Hid (qOf ls[i]=none→eE_ ls=none):=hid fun e=>jf_ ls _ hme e;have LC:Hid (∀ W,Below w.heap.size w W→W.cell? ⟨b,off+i*2,none⟩=some (.string ls[i].l)∧W.cell? ⟨b,off+i*2+1,none⟩=some (.string ls[i].r)):=hid fun W h=>by
          have k:∀ o,W.cell? ⟨b,o,none⟩=w.cell? ⟨b,o,none⟩:=fun o=>World.cell?_of_block (h.block b hb);rw[k,k];exact⟨q1,q2⟩
        clear hT hg hgl hc q1 q2 hme hb hn24;generalize ls[i]=x at *;generalize hnq:nsE es=nq at *;have HNQ:=hid hnq;clear hnq;obtain⟨l1,l2⟩:=LC.out _ hB;have m1L:=hid m1;have m2L:=hid m2;have m1':x.l.size≤9223372036854775807:=m1;have m2':x.r.size≤9223372036854775807:=m2;clear hB m1 m2;go_wp2_with fail;refine (pv_ _ x.l m1L.out).mono ?_;rintro e w1 ⟨t,ta,tc,er1,rfl,hB1,k1,hA1,hc1,hs1⟩;have B1:=hid (BH.out.trans (hB1.mono BH.out.size));have T1:=hid (TH.out.low hB1);have HC1:=hid hc1;have K1:=hid k1;have A1:=hid hA1;have S1:=hid hs1;obtain⟨l1,l2⟩:=LC.out _ B1.out;clear hB1 k1 hA1 hc1 hs1;go_wp2_with fail;refine (pv_ _ x.r m2L.out).mono ?_;rintro e w2 ⟨u,ua,uc,er2,rfl,hB2,k2,hA2,hc2,hs2⟩;have B2:=hid (B1.out.trans (hB2.mono B1.out.size));have T2:=hid (T1.out.low hB2);have HC2:=hid hc2;have K12:=hid (K1.out.low hB2);have K2:=hid k2;have A12:=hid (A1.out.keep fun b hb=>hB2.block b (by have:=hb.2;simp;omega));have A2:=hid hA2;have S2:=hid hs2;obtain⟨l1,l2⟩:=LC.out _ B2.out;clear hB2 k2 hA2 hc2 hs2 T1 K1 A1;go_wp2_with fail;refine (mO_ _ x.l m1L.out).mono ?_;rintro e w3 ⟨p,pa,pc,er3,rfl,hB3,k3,hA3,hc3,hs3⟩;have B3:=hid (B2.out.trans (hB3.mono B2.out.size));have T3:=hid (T2.out.low hB3);have HC3:=hid hc3;have K13:=hid (K12.out.low hB3);have K23:=hid (K2.out.low hB3);have K3:=hid k3;have A13:=hid (A12.out.keep fun b hb=>hB3.block b (by have:=hb.2;have:=S2.out;simp at *;omega));have A23:=hid (A2.out.keep fun b hb=>hB3.block b (by have:=hb.2;simp;omega));have A3:=hid hA3;have S3:=hid hs3;obtain⟨l1,l2⟩:=LC.out _ B3.out;clear hB3 k3 hA3 hc3 hs3 T2 K12 K2 A12 A2;go_wp2_with fail;refine (mO_ _ x.r m2L.out).mono ?_;rintro e w4 ⟨r,ra',rc',er4,rfl,hB4,k4,hA4,hc4,hs4⟩;have B4_:=hid (B3.out.trans (hB4.mono B3.out.size));have T4:=hid (T3.out.low hB4);have K14:=hid (K13.out.low hB4);have K24:=hid (K23.out.low hB4);have K34:=hid (K3.out.low hB4);have K44:=hid k4;have HC4:=hid hc4;have A14:=hid (A13.out.keep fun b hb=>hB4.block b (by have:=hb.2;have:=S2.out;have:=S3.out;simp at *;omega));have A24:=hid (A23.out.keep fun b hb=>hB4.block b (by have:=hb.2;have:=S3.out;simp at *;omega));have A34:=hid (A3.out.keep fun b hb=>hB4.block b (by have:=hb.2;simp;omega));have A44:=hid hA4;have hS:wr.heap.size≤w1.heap.size∧w1.heap.size+1≤w2.heap.size∧w2.heap.size+1≤w3.heap.size∧w3.heap.size+1≤w4.heap.size:=by
          have h1:=S1.out;have h2:=S2.out;have h3:=S3.out;simp at h2 h3 hs4;omega
        have hz4:(w4.alloc (.cells #[.int .i64 r.kind,.string r.name,.int .i64 r.n,.slice ra' r.args.length rc'] 43)).heap.size=w4.heap.size+1:=(by simp);obtain⟨l1,l2⟩:=LC.out _ B4_.out;clear hB4 k4 hA4 hc4 hs4 T3 K13 K23 K3 A13 A23 A3;have HSS:=hid hS;have HZ4:=hid hz4;have hcase:(qOf x=none∧(((er1:Int) != 0)=true∨(((er1:Int) != 0)=false∧((er2:Int) != 0)=true)∨(((er1:Int) != 0)=false∧((er2:Int) != 0)=false∧(decide ((120:Int)<(x.l.size:Int))=true))∨(((er1:Int) != 0)=false∧((er2:Int) != 0)=false∧(decide ((120:Int)<(x.l.size:Int))=false)∧(decide ((120:Int)<(x.r.size:Int))=true)))) ∨
            (qOf x=some (t,u)∧p=t∧r=u∧nsT t≤4000∧nsT u≤4000∧((er1:Int) != 0)=false∧((er2:Int) != 0)=false∧(decide ((120:Int)<(x.l.size:Int))=false)∧(decide ((120:Int)<(x.r.size:Int))=false)):=by
          have n0:∀ {e:Nat},e≠0→((e:Int) != 0)=true:=fun h=>by rw[bne_iff_ne];omega
          rcases HC1.out with ⟨p1,rfl⟩|⟨p1,h1⟩
          · rcases HC2.out with ⟨p2,rfl⟩|⟨p2,h2⟩
            · by_cases hl:120<x.l.size
              · exact .inl ⟨by unfold qOf;rw[p1,p2];exact if_neg (by omega),.inr (.inr (.inl ⟨rfl,rfl,decide_eq_true (by omega)⟩))⟩
              · by_cases hr:120<x.r.size
                · exact .inl ⟨by unfold qOf;rw[p1,p2];exact if_neg (by omega),.inr (.inr (.inr ⟨rfl,rfl,decide_eq_false (by omega),decide_eq_true (by omega)⟩))⟩
                · refine .inr ⟨by unfold qOf;rw[p1,p2];exact if_pos (by omega),?_,?_,kt_ p1,kt_ p2,rfl,rfl,decide_eq_false (by omega),decide_eq_false (by omega)⟩
                  · rcases HC3.out with ⟨p3,_⟩|⟨p3,_⟩
                    · rw[p1] at p3;injection p3 with p3;exact p3.symm
                    · rw[p1] at p3;cases p3
                  · rcases HC4.out with ⟨p3,_⟩|⟨p3,_⟩
                    · rw[p2] at p3;injection p3 with p3;exact p3.symm
                    · rw[p2] at p3;cases p3
            · exact .inl ⟨by unfold qOf;rw[p1,p2],.inr (.inl ⟨rfl,n0 h2⟩)⟩
          · exact .inl ⟨by unfold qOf;rw[p1],.inl (n0 h1)⟩
        clear hS hz4
        rcases hcase with ⟨hgo,hq⟩|⟨hgo,rfl,rfl,n1,n2,e1,e2,e3,e4⟩
        · have E:Hid (c9_ ls=none):=hid (EN.out (NO.out hgo))
          clear hgo
          rcases hq with e1|⟨e1,e2⟩|⟨e1,e2,e3⟩|⟨e1,e2,e3,e4⟩
          all_goals
            go_wp2;go_ret3;refine⟨B4_.out,?_⟩;rw[E.out];rfl
        · have TK2:Hid (eE_ (ls.take (i+1))=some (es++[(p,r)])):=hid (by rw[TK.out,hgo])
          clear hgo;have SN:Hid (nsE (es++[(p,r)])=nq+nsT p+nsT r):=hid (by rw[oK_,HNQ.out];show nq+(nsT p+nsT r)=_;omega);have CP:=hid (fun q=>cU_ (hj_ p _ pa pc (dt_ (w4.alloc (.cells #[.int .i64 r.kind,.string r.name,.int .i64 r.n,.slice ra' r.args.length rc'] 43)) q) ((A34.out.keep fun b hb=>(aA_ (w4.alloc (.cells #[.int .i64 r.kind,.string r.name,.int .i64 r.n,.slice ra' r.args.length rc'] 43)) q).block b (by have:=hb.2;have:=HZ4.out;have:=HSS.out;omega)).mono (S':=fun b=>b<(dt_ (w4.alloc (.cells #[.int .i64 r.kind,.string r.name,.int .i64 r.n,.slice ra' r.args.length rc'] 43)) q).heap.size) fun b hb=>by have:=hb.2;have:=HZ4.out;have:=HSS.out;have:=(aA_ (w4.alloc (.cells #[.int .i64 r.kind,.string r.name,.int .i64 r.n,.slice ra' r.args.length rc'] 43)) q).size;omega) (fun b hb=>hb) (by omega)));have CR:=hid (fun q=>cU_ (hj_ r _ ra' rc' (dt_ (w4.alloc (.cells #[.int .i64 r.kind,.string r.name,.int .i64 r.n,.slice ra' r.args.length rc'] 43)) q) ((A44.out.keep fun b hb=>(aA_ (w4.alloc (.cells #[.int .i64 r.kind,.string r.name,.int .i64 r.n,.slice ra' r.args.length rc'] 43)) q).block b (by have:=hb.2;have:=HZ4.out;omega)).mono (S':=fun b=>b<(dt_ (w4.alloc (.cells #[.int .i64 r.kind,.string r.name,.int .i64 r.n,.slice ra' r.args.length rc'] 43)) q).heap.size) fun b hb=>by have:=hb.2;have:=HZ4.out;have:=(aA_ (w4.alloc (.cells #[.int .i64 r.kind,.string r.name,.int .i64 r.n,.slice ra' r.args.length rc'] 43)) q).size;omega) (fun b hb=>hb) (by omega)));have k3:=K34.out;have k4:=K44.out;have p0:=aj_ k3.c0;have p1:=aj_ k3.c1;have p2:=aj_ k3.c2;have p3:=aj_ k3.c3;have r0:=aj_ k4.c0;have r1:=aj_ k4.c1;have r2:=aj_ k4.c2;have r3:=aj_ k4.c3;have y0:(nq:Int)≤24:=(by have:=HN.out;omega);have y1:(0:Int)≤(nq:Int):=(by omega);have y2:(0:Int)≤(nsT p:Int):=(by omega);have y3:(0:Int)≤(nsT r:Int):=(by omega);have y4:(nsT p:Int)≤4000:=(by omega);have y5:(nsT r:Int)≤4000:=(by omega);clear k3 k4 n1 n2;unfold tv at CP CR;go_wp2;refine by_ (by kernel_rfl) (by kernel_rfl) ?_
          repeat (go_big_quiet_step ((first|(with_reducible exact CP.out _)|(with_reducible exact CR.out _))))
          refine wpQuiet_nil ?_;intro _ hw';obtain⟨pq,hw''⟩:=hw';subst hw'';have hl5:=aA_ (w4.alloc (.cells #[.int .i64 r.kind,.string r.name,.int .i64 r.n,.slice ra' r.args.length rc'] 43)) pq;have B5:=hid (B4_.out.trans (hl5.mono B4_.out.size));have T5:=hid (T4.out.low hl5);have K15:=hid (K14.out.low hl5);have K25:=hid (K24.out.low hl5);have K35:=hid (K34.out.low hl5);have K45:=hid (K44.out.low hl5);have A15:=hid (A14.out.keep fun b hb=>hl5.block b (by have:=hb.2;have:=HZ4.out;have:=HSS.out;omega));have A25:=hid (A24.out.keep fun b hb=>hl5.block b (by have:=hb.2;have:=HZ4.out;have:=HSS.out;omega));have A35:=hid (A34.out.keep fun b hb=>hl5.block b (by have:=hb.2;have:=HZ4.out;have:=HSS.out;omega));have A45:=hid (A44.out.keep fun b hb=>hl5.block b (by have:=hb.2;have:=HZ4.out;omega));have Z5:Hid (w4.heap.size+1≤(dt_ (w4.alloc (.cells #[.int .i64 r.kind,.string r.name,.int .i64 r.n,.slice ra' r.args.length rc'] 43)) pq).heap.size):=hid (by have:=hl5.size;have:=HZ4.out;omega);clear p0 p1 p2 p3 r0 r1 r2 r3 CP CR hl5 T4 K14 K24 K34 K44 A14 A24 A34 A44 l1 l2;generalize dt_ (w4.alloc (.cells #[.int .i64 r.kind,.string r.name,.int .i64 r.n,.slice ra' r.args.length rc'] 43)) pq=w5 at *
          by_cases hmany:24<nq+nsT p+nsT r
          · have ym:(24:Int)<(nq:Int)+(nsT p:Int)+(nsT r:Int):=by omega
            have E:Hid (c9_ ls=none):=hid (lb_ TK2.out (by rw[SN.out];exact hmany));clear hmany;go_wp2;go_ret3;refine⟨B5.out,?_⟩;rw[E.out];rfl
          · have ym:¬ (24:Int)<(nq:Int)+(nsT p:Int)+(nsT r:Int):=by omega
            have SN2:Hid (nsE (es++[(p,r)])≤24):=hid (by rw[SN.out];omega);have SN3:Hid (((nsE (es++[(p,r)]):Nat):Int)=(nq:Int)+(nsT p:Int)+(nsT r:Int)):=hid (by rw[SN.out];omega);have hoff:∀ b,wr.heap.size≤b→b<w5.heap.size→ji_ w.heap.size w5 (.slice la es.length lc) (.slice ra es.length rc) b:=fun b h1 h2=>by
              have h3:=BH.out.size;refine⟨by omega,h2,fun e=>?_,fun e=>?_⟩
              · have:=(TH.out.a.own.lt b e).2;omega
              · have:=(TH.out.b.own.lt b e).2;omega
            have ad1:=A15.out.mono (S':=ji_ w.heap.size w5 (.slice la es.length lc) (.slice ra es.length rc)) fun b hb=>hoff b hb.1 (by have:=hb.2;have:=HSS.out;have:=Z5.out;omega);have ad2:=A25.out.mono (S':=ji_ w.heap.size w5 (.slice la es.length lc) (.slice ra es.length rc)) fun b hb=>hoff b (by have h1:=hb.1;have h2:=HSS.out;simp at h1;omega) (by have:=hb.2;have:=HSS.out;have:=Z5.out;omega);have ad3:=hid (A35.out.mono (S':=ji_ w.heap.size w5 (.slice la es.length lc) (.slice ra es.length rc)) fun b hb=>hoff b (by have h1:=hb.1;have h2:=HSS.out;simp at h1;omega) (by have:=hb.2;have:=HSS.out;have:=Z5.out;omega));have ad4:=hid (A45.out.mono (S':=ji_ w.heap.size w5 (.slice la es.length lc) (.slice ra es.length rc)) fun b hb=>hoff b (by have h1:=hb.1;have h2:=HSS.out;simp at h1;omega) (by have:=hb.2;have:=Z5.out;omega));have PA:=hid (jo_.push1 T5.out (by have:=HGL.out;omega) (x:=(p,r)) ad1 ad2);have k1:=K15.out;have k2:=K25.out;obtain⟨p0,p1,p2,p3⟩:=k1.c03;obtain⟨r0,r1,r2,r3⟩:=k2.c03;have N1:Hid (∀ b,wr.heap.size≤b→(Value.slice la es.length lc).ownBlock≠some b):=hid fun b hb e=>by have:=(TH.out.a.own.lt b e).2;omega
            have NR:Hid (∀ b,(Value.slice ra es.length rc).ownBlock=some b→w.heap.size≤b):=hid fun b e=>(TH.out.b.own.lt b e).1;have NL:Hid (∀ b,(Value.slice la es.length lc).ownBlock=some b→w.heap.size≤b):=hid fun b e=>(TH.out.a.own.lt b e).1;clear hoff k1 k2 ad1 ad2 hmany T5;unfold sH_ at PA;go_wp2_with (first
              | (at_builtin;refine co_ (by rfl) _ _ _ (by rfl) (by rfl) (by rfl) PA.out ?_;rintro v8 w8 ⟨hr8,hg8,hl8,ho8⟩
                 have K38:=K35.out.grown hg8 (fun e=>N1.out _ (by have:=HSS.out;omega) e);have K48:=K45.out.grown hg8 (fun e=>N1.out _ (by have:=HSS.out;omega) e);have o3:=hid ((ad3.out.keep (fun b hb=>hg8.block b hb.2.1 (Ne.symm hb.2.2.1))).mono (S':=ji_ w.heap.size w8 v8 (.slice ra es.length rc)) fun b hb=>⟨hb.1,Nat.lt_trans hb.2.1 hl8,(fun e=>by rcases ho8 b e with e|e;exact hb.2.2.1 e;have:=hb.2.1;omega),hb.2.2.2⟩);have o4:=hid ((ad4.out.keep (fun b hb=>hg8.block b hb.2.1 (Ne.symm hb.2.2.1))).mono (S':=ji_ w.heap.size w8 v8 (.slice ra es.length rc)) fun b hb=>⟨hb.1,Nat.lt_trans hb.2.1 hl8,(fun e=>by rcases ho8 b e with e|e;exact hb.2.2.1 e;have:=hb.2.1;omega),hb.2.2.2⟩);have PB:=hid (jo_.push2 hr8 (by have:=HGL.out;omega) (x:=(p,r)) o3.out o4.out);have B8_:=hid (B5.out.grown hg8 B5.out.size fun k e=>NL.out k e);have s0:=K38.c0;have s1:=K38.c1;have s2:=K38.c2;have s3:=K38.c3;have q0:=K48.c0;have q1:=K48.c1;have q2:=K48.c2;have q3:=K48.c3;unfold sG_ at PB;clear hr8 hg8 hl8 ho8 K38 K48 p0 p1 p2 p3 r0 r1 r2 r3 PA)
              | (at_builtin;refine co_ (by rfl) _ _ _ (by rfl) (by rfl) (by rfl) PB.out ?_;rintro v9 w9 ⟨hr9,hg9,hl9,ho9⟩
                 have HR9:=hid hr9;have B9_:=hid (B8_.out.grown hg9 B8_.out.size fun k e=>NR.out k e);clear hr9 hg9 hl9 ho9 PB s0 s1 s2 s3 q0 q1 q2 q3))
            all_goals
              go_wp2;go_roundw
              case measure=>simp[intOf];omega
              case rel=>exact⟨i+1,es++[(p,r)],_,_,by go_num,by omega,TK2.out,SN2.out,by rw[SN3.out],HR9.out,B9_.out⟩
      · obtain rfl:i=ls.length:=by omega
        rw[List.take_length] at hg;have E:Hid (c9_ ls=some es):=hid (ER.out es hg hn24);clear hT hB hg hgl;go_wp2;go_ret3;refine⟨BH.out,?_⟩;rw[E.out];exact⟨_,_,ps,qs,rfl,TH.out⟩
end
section
open Go.RowKit Go.MapKept Go.Maps Go.Sort Go.Shelf
theorem rG_ (m:Nat):AnyZI.SortsIn Tryz.prog Tryz.sortedA_ren Fence.wide m :=
 ⟨fun blk off cap ss W hH hblk hsz=>callsIn_wide.2 (Tryz.slices_Sort_int blk off cap ss W hH hblk hsz),
  fun p cap W=>callsIn_wide.2 (Tryz.slices_Sort_int_none p cap W)⟩
theorem rB_ {m:Int}(h0:0≤m)(h1:m<1000000000000000000):(Lit.int .i64 m).wf=true:=by
 have a:(IntKind.i64).min≤m:=Int.le_trans (show (IntKind.i64).min≤0 by decide) h0;have b:m≤(IntKind.i64).max:=Int.le_trans (Int.le_of_lt h1) (show (1000000000000000000:Int)≤(IntKind.i64).max by decide);simp only[Lit.wf,decide_eq_true a,decide_eq_true b,Bool.and_self]
def RB (_:Value):Option (DataW Unit × List MemPlace):=some (.nil,[])
theorem g5_.owns {S:Nat→Prop}{w:World}{b:Nat}{K:Kn}(h:g5_ S w b K)(hr:∀ x∈K,0≤x.1∧x.1<1000000000000000000)(hl:K.length≤1000000000000) :
  ∃ D:DataW Unit,w.ownsMap Tryz.prog 3 RB b K.length D∧Maps.size D=K.length∧(intKeys D).Perm (K.map fun x=>x.1):=by
 obtain⟨es,clock,hb,hst,hke,hv⟩:=h;have hsz:es.size=K.length:=by have:=congrArg List.length hke;simpa using this
 have hrd:∀ x∈es.toList,∃ m,x.key=.int .i64 m∧WideElems.rd Tryz.prog 3 RB x=some (.int .i64 m,.nil):=by
  intro x hx;obtain⟨m,u,a,c,hk,_,_,hlk⟩:=hv x hx;have hm:=hr _ (jG_ hlk);refine⟨m,hk,?_⟩;have hko:keyOf Tryz.prog 3 (.int .i64 m)=some (.int .i64 m):=keyOf_int_mk Tryz.underlying3 (rB_ hm.1 hm.2);simp[WideElems.rd,RB,hk,hko]
 have hm:(es.toList.map (WideElems.rg Tryz.prog 3 RB)).map (fun p=>_root_.Go.intOf p.1)=K.map fun x=>x.1:=by
  have h1:(es.toList.map (fun x=>x.key)).map (fun k=>match k with | .int _ m=>m | _=>0)=K.map fun x=>x.1:=by rw[hke];simp[Function.comp_def]
  rw[← h1,List.map_map,List.map_map];apply List.map_congr_left;intro x hx;obtain⟨m,hk,hrx⟩:=hrd x hx;simp[WideElems.rg,hrx,hk];rfl
 refine⟨.map ((es.toList.map (WideElems.rg Tryz.prog 3 RB)).foldr DataW.insert []),⟨es,clock,hb,⟨by unfold maxLen;omega,hst,fun x hx=>?_⟩,by omega,rfl⟩,?_,?_⟩
 ·obtain⟨m,_,h⟩:=hrd x hx
  exact⟨_,h⟩
 ·show List.length _=_
  rw[(WideShapes.sorted_perm _).length_eq];simp[hsz]
 ·show List.Perm (List.map _ _) _
  rw[← hm];exact (WideShapes.sorted_perm _).map _
theorem oW_ (b:Nat)(w:World):Calls Tryz.prog 36 #[.map (some b)] w fun e w'=>e=.returned (.func (.func 67) #[] #[.pointer (some ⟨w.heap.size,0,none⟩)])∧w'=w.alloc (.cells #[.map (some b)] 73) :=
 (callsIn_wide (n:=5)).1 (AnyZI.keys_in Tryz.keysA Fence.wide 5 trivial rfl (some b) w)
theorem k5_ {S:Nat→Prop}{w:World}{b:Nat}{K:Kn}(h:g5_ S w b K)(hr:∀ x∈K,0≤x.1∧x.1<1000000000000000000)(hl:K.length≤1000000000000) :
  Calls Tryz.prog 35 #[.func (.func 67) #[] #[.pointer (some ⟨w.heap.size,0,none⟩)]] (w.alloc (.cells #[.map (some b)] 73))
   fun e w'=>∃ v,e=.returned v∧w'.ownsRow w.heap.size 3 1 v (b4_ K).length ((b4_ K).map (Value.int .i64))∧Below w.heap.size w w':=by
 obtain⟨D,hown,hsz,hperm⟩:=h.owns hr hl;have hbl:=h.lt;have hseq:SeqGives Fence.wide 2 Tryz.prog 67 #[.pointer (some ⟨w.heap.size,0,none⟩)] encZ (fun ss=>ss.Perm (intKeys D)) (Maps.size D) (w.alloc (.cells #[.map (some b)] 73)) :=
  AnyZI.keys_gives (ρ := Tryz.keysA_ren) { Tryz.keysA with } Fence.wide _ trivial rfl (by omega) w.heap.size b K.length D _ (by simp) (by simp) (by
   obtain⟨es,clock,hb,Ft,hs,hD⟩:=hown;exact⟨es,clock,(Below.heap_alloc _ _ b hbl).trans hb,Ft,hs,hD⟩)
 have cS:=AnyZI.sorted_in Tryz.sortedA Fence.wide 5 trivial trivial trivial trivial rfl (by omega) (rG_ _) (enters_of Tryz.func66 (by kernel_rfl) rfl) 67 #[.pointer (some ⟨w.heap.size,0,none⟩)] trivial (enters_of Tryz.func67 (by kernel_rfl) rfl) _ _ (by rw[hsz];unfold maxLen;omega) (by rw[hsz];omega) _ hseq;refine ((callsIn_wide (n:=5)).1 cS).mono ?_;rintro e w' ⟨v,ss,rfl,hS,hrow,_,hb⟩;have hss:ss.mergeSort (fun x y=>decide (x≤y))=b4_ K:=mergeSort_of_perm_i (hS.trans hperm);have hln:ss.length=(b4_ K).length:=by rw[← hss,List.length_mergeSort]
 refine⟨v,rfl,?_,((Below.refl _ w).alloc (aC_ _) _).trans (hb.mono (by simp))⟩;rw[hss,hln] at hrow;exact ownsRow_base_a hrow (by simp)
end
section
open Go.RowKit
theorem dZ_.lo {S:Nat→Prop}{lo lo':Nat}{w:World}{v:Value}{es:Kn}{ps:List Value}(h:dZ_ S lo w v es ps)(hl:lo'≤lo):dZ_ S lo' w v es ps:=⟨cx_ h.own hl,h.len,h.at_⟩
def gY_ (w:World)(res:Except Nat Kn)(en:Ending)(w':World):Prop :=
 match res with
 | .error er=>en=.returned (.tuple #[.slice none 0 0,.int .i64 (er:Int)])∧Below w.heap.size w w'
 | .ok R=>∃ v ps T',en=.returned (.tuple #[v,.int .i64 0])∧dZ_ T' w.heap.size w' v R ps∧(∀ b,T' b→b<w'.heap.size)∧Below w.heap.size w w'
theorem mR_ {d:Nat}{K:Kn}{m:Int}{ms:List Int}{r:Kn}(h:jm_ d K (m :: ms)=some r):∃ u u' r',lkK K m=some u∧dX_ d K u=some u'∧jm_ d K ms=some r'∧r=(m,u') :: r':=by
 rw[jm_] at h
 split at h
 ·cases h
 ·next u hu =>
  split at h
  ·cases h
  ·next u' hu' =>
   split at h
   ·cases h
   ·next r' hr'=>injection h with h;exact⟨u,u',r',hu,hu',hr',h.symm⟩
theorem iv_ {S T:Nat→Prop}{w:World}{pv:Value}{es:List EqT}{d n:Nat}{res:Except Nat Kn}(hE:ep_ S T w pv es)(hS:∀ b,S b→b<w.heap.size)(hT:∀ b,T b→b<w.heap.size)(hs:∀ e∈es,SmT e.1∧SmT e.2)(hl:es.length≤500000000000)(hTab:Tab w)(hu:fT_ d n es=some res)(hn:n≤1000000000000) :
  Calls Tryz.prog 14 #[pv] w (gY_ w res):=by
 obtain⟨r1,hr1,hres⟩:∃ r1,de_ d n ⟨[],es,0⟩=some r1∧((∃ er,r1=.error er∧res=.error er)∨∃ K r,r1=.ok K∧jm_ d K (b4_ K)=some r∧res=.ok r):=by
  unfold fT_ at hu
  split at hu
  ·cases hu
  ·next er he=>injection hu with hu;exact⟨_,he,.inl ⟨er,rfl,hu.symm⟩⟩
  ·next K he =>
   split at hu
   ·cases hu
   ·next r hr=>injection hu with hu;exact⟨_,he,.inr ⟨K,r,rfl,hr,hu.symm⟩⟩
 have HB1:Hid (Below w.heap.size w ((w.alloc (.map #[] 0)).alloc (.cells #[.slice none 0 0,.map (some w.heap.size),.int .i64 0] 77))):=hid ((aw_ _ _).alloc (by simp) _);have HM:Hid (UM T w.heap.size ((w.alloc (.map #[] 0)).alloc (.cells #[.slice none 0 0,.map (some w.heap.size),.int .i64 0] 77)) (w.heap.size+1) w.heap.size ⟨[],[],0⟩ (.slice none 0 0) []):=hid (by
  have hk:=(g5_.made T w rfl).keep (B:=(w.alloc (.map #[] 0)).alloc (.cells #[.slice none 0 0,.map (some w.heap.size),.int .i64 0] 77)) (Below.heap_alloc _ _ _ (by simp)) fun j hj=>Below.heap_alloc _ _ _ (by have:=hT j hj;simp;omega);have hw:Wb3 ((w.alloc (.map #[] 0)).alloc (.cells #[.slice none 0 0,.map (some w.heap.size),.int .i64 0] 77)) (w.heap.size+1) (.slice none 0 0) w.heap.size 0:=by
   have h:=heap_alloc_new (w.alloc (.map #[] 0)) (.cells #[.slice none 0 0,.map (some w.heap.size),.int .i64 0] 77);rw[show (w.alloc (.map #[] 0)).heap.size=w.heap.size+1 from by simp] at h;exact h
  exact⟨hw,hk,cX_.nil _ _ _,by omega,⟨by omega,aC_ _⟩,(fun b e=>by cases e),fun b hb=>⟨by have:=hT b hb;simp;omega,by have:=hT b hb;omega,by have:=hT b hb;omega,fun e=>by cases e⟩⟩)
 have CLY:=hid (h1_ HM.out ((hE.mono (S':=fun b=>b<w.heap.size) fun b hb=>hS b hb).keep (fun b hb=>HB1.out.block b hb) (fun b hb=>HB1.out.block b (hT b hb)) |>.mono (S':=fun b=>b<((w.alloc (.map #[] 0)).alloc (.cells #[.slice none 0 0,.map (some w.heap.size),.int .i64 0] 77)).heap.size∧¬ XW (w.heap.size+1) w.heap.size (.slice none 0 0) b) fun b hb=>⟨ba_ hb HB1.out.size,fun hx=>by
  rcases hx with hx|hx|hx
  ·have:b<w.heap.size:=hb;omega
  ·have:b<w.heap.size:=hb;omega
  ·cases hx⟩) (by simp;omega) HB1.out.size)
 rw[List.append_nil] at CLY;have HWI:Hid (WI ⟨[],es,0⟩):=hid ⟨(fun m u h=>by cases h),hs,by simp⟩;have HR1:=hid hr1;have HRES:=hid hres;have HTAB:Hid (∀ w',Below w.heap.size w w'→Tab w'):=hid fun w' hb=>ag_ hTab hb;have HL:=hid hl;have HN:=hid hn;clear hE hS hT hs hl hTab hu hr1 hres hn HM;unfold kN_ at CLY;have hmm:=@run_makeMap Tryz.prog;go_enter Tryz.func14,Tryz.ntmps14;go_wp2_with fail;refine CLY.out.mono ?_;rintro en w2 ⟨v2,ps2,rfl,hu2,hg2,ho2⟩;have U2:=hid hu2;have B2:Hid (Below w.heap.size w w2):=hid (HB1.out.trans (hg2.below (fun k hk=>by
  rcases hk with hk|hk|hk
  ·omega
  ·omega
  ·cases hk) HB1.out.size))
 clear hu2 hg2 ho2 CLY HB1;go_wp2_with fail
 go_loopg [5] n (fun gk s5 wr=>∃ (T:Nat→Prop) (W:Wk) (v:Value) (ps:List (Value × Value)),UM T w.heap.size wr (w.heap.size+1) w.heap.size W v ps∧de_ d gk W=some r1∧WI W∧W.K.length+gk≤n∧W.left.length≤500000000000∧Below w.heap.size w wr)
 case atStart=>exact⟨T,_,v2,ps2,U2.out,HR1.out,HWI.out,by simp,HL.out,B2.out⟩
 case round =>
  obtain⟨T1,W,v,ps,hM,hrun,hwi,hkl,hll,hB⟩:=hrel;obtain⟨va,vc,rfl⟩:=aG_ hM.row.own;have c0:=hM.wk.c0;cases hW:W.left with
  | cons e es' =>
   have hz:(0:Int)<(W.left.reverse.length:Int):=by rw[hW];simp
   obtain⟨n',rfl,hstep⟩:=mk_ hW hrun;have hM':UM T1 w.heap.size wr (w.heap.size+1) w.heap.size ⟨W.K,e :: es',W.fresh⟩ (.slice va W.left.reverse.length vc) ps:=by
    have:W=⟨W.K,e :: es',W.fresh⟩:=(by rw[← hW]);rw[← this];exact hM
   have hwi':WI ⟨W.K,e :: es',W.fresh⟩:=by
    have:W=⟨W.K,e :: es',W.fresh⟩:=(by rw[← hW]);rw[← this];exact hwi
   have hle:es'.length≤500000000000:=by rw[hW] at hll;simp at hll;omega
   have CT:=hid (qd_ hM' (by omega));have XLO:=hid hM'.xlo;have HWI:=hid hwi';have HST:=hid hstep;have HBR:=hid hB;have HLE:=hid hle;have HKL:=hid hkl;clear hM hM' hrun hwi hwi' hkl hll hB hstep hle hW;generalize W.left.reverse.length=vn at *;unfold pP_ at CT;go_wp2_with fail;refine CT.out.mono ?_;rintro en w4 ⟨xa,xc,ya,yc,v4,ps4,rfl,hu4,hA4,hA4',hg4,ho4⟩;have B4_:Hid (Below w.heap.size w w4):=hid (HBR.out.trans (hg4.below XLO.out HBR.out.size))
   rcases HST.out with ⟨er,hse,hre⟩|⟨W',hse,hlw,hrn⟩
   ·obtain⟨l,r,hfl,hfr,hst⟩:=fv_ hse
    have CS:=hid (j8_ (W:=⟨W.K,es',W.fresh⟩) hu4 HWI.out.kb hA4 hA4' (HWI.out.lf e (by simp)) (fun w' hb=>HTAB.out _ (B4_.out.trans hb)) hfl hfr hst B4_.out.size HLE.out (fun W' h=>by cases h));have XL4:=hid hu4.xlo;have ER:Hid (res=.error er):=hid (by
     rcases HRES.out with ⟨er',h1,h2⟩|⟨K,r,h1,_⟩
     ·rw[hre] at h1;injection h1 with h1;rw[h2,h1]
     ·rw[hre] at h1;cases h1)
    have ER0:=n0_ hst;unfold nI_ eqv at CS;unfold eqv;clear hu4 hA4 hA4' hg4 ho4 hse hre hfl hfr hst HST HRES;have z1:((er:Int) != 0)=true:=by simpa using ER0
    clear ER0;go_wp2_with fail;refine CS.out.mono ?_;rintro en w5 ⟨rfl,hg5⟩;have B5:Hid (Below w.heap.size w w5):=hid (B4_.out.trans (hg5.below XL4.out B4_.out.size));clear hg5;go_wp2;go_ret2;rw[ER.out];exact⟨rfl,B5.out⟩
   ·obtain⟨l,r,hfl,hfr,hst⟩:=fv_ hse
    have CS:=hid (j8_ (W:=⟨W.K,es',W.fresh⟩) hu4 HWI.out.kb hA4 hA4' (HWI.out.lf e (by simp)) (fun w' hb=>HTAB.out _ (B4_.out.trans hb)) hfl hfr hst B4_.out.size HLE.out (fun W'' h=>by injection h with h;rw[← h];exact hlw));have XL4:=hid hu4.xlo;have HI:=hid (n1_ HWI.out hse);have HLW:=hid hlw;have HRN:=hid hrn;unfold nI_ eqv at CS;unfold eqv;clear hu4 hA4 hA4' hg4 ho4 hse hlw hrn hfl hfr hst HST;go_wp2_with fail;refine CS.out.mono ?_;rintro en w5 ⟨rfl,T5,v5,ps5,hu5,hg5,ho5⟩;have B5:Hid (Below w.heap.size w w5):=hid (B4_.out.trans (hg5.below XL4.out B4_.out.size));have U5:=hid hu5;clear hu5 hg5 ho5;go_wp2;go_roundg n'
    case measure=>omega
    case rel=>exact⟨T5,W',v5,ps5,U5.out,HRN.out,HI.out.1,by have:=HI.out.2;have:=HKL.out;omega,HLW.out,B5.out⟩
  | nil =>
   have hz:¬ (0:Int)<(W.left.reverse.length:Int):=by rw[hW];simp
   have hK:=n8_ hW hrun;obtain⟨r,hout,hres⟩:∃ r,jm_ d W.K (b4_ W.K)=some r∧res=.ok r:=by
    rcases HRES.out with ⟨er,h1,_⟩|⟨K,r,h1,h2,h3⟩
    ·rw[hK] at h1;cases h1
    ·rw[hK] at h1;injection h1 with h1;rw[h1];exact⟨r,h2,h3⟩
   have c1:=hM.wk.c1;have hkl2:W.K.length≤1000000000000:=(by have:=HN.out;omega);have HKL2:=hid hkl2;have CK:=hid (oW_ w.heap.size wr);have CS:=hid (k5_ hM.kn hwi.kr hkl2);have HKR:=hid hwi.kr;have HKB:=hid hwi.kb;have HM:=hid hM;have HBR:=hid hB;have HOUT:=hid hout;have HRS:=hid hres;clear hM hrun hwi hkl hll hB hW hK hout hres hkl2 HRES;generalize W.left.reverse.length=vn at *;go_wp2_with fail;refine CK.out.mono ?_;rintro en w5 ⟨rfl,rfl⟩;go_wp2_with fail;refine CS.out.mono ?_;rintro en w6 ⟨kv,rfl,hrow,hb6⟩;obtain⟨ka,kc,rfl⟩:=aG_ hrow;have HLK:Hid ((b4_ W.K).length≤1000000000000):=hid (by unfold b4_;rw[List.length_mergeSort,List.length_map];exact HKL2.out);have HROW:=hid hrow;have U6:=hid (HM.out.low hb6);have B6:Hid (Below w.heap.size w w6):=hid (HBR.out.trans (hb6.mono HBR.out.size));have Z6:Hid (wr.heap.size≤w6.heap.size):=hid hb6.size;have TL:Hid (∀ b,T1 b→b<wr.heap.size):=hid fun b h=>(HM.out.t b h).1;clear hrow hb6 CK CS HM c0 c1 hz;generalize b4_ W.K=ks at *;go_wp2_with fail
   go_loopw [6,40] (fun ov iv wr2=>∃ (j:Nat) (R rest:Kn) (ps':List Value) (T':Nat→Prop),iv=.int .i64 (j:Int)∧j≤ks.length∧R.length=j∧jm_ d W.K (ks.drop j)=some rest∧R++rest=r∧dZ_ T' w6.heap.size wr2 ov R ps'∧(∀ b,T' b→b<wr2.heap.size∧ov.ownBlock≠some b)∧Below w6.heap.size w6 wr2) (fun _ iv _=>ks.length - (intOf iv).toNat)
   case atStart=>exact⟨0,[],r,[],fun _=>False,rfl,Nat.zero_le _,rfl,by rw[List.drop_zero];exact HOUT.out,rfl,dZ_.nil _ _ _,fun b h=>h.elim,Below.refl _ _⟩
   case round =>
    obtain⟨j,R,rest,ps',T',rfl,hj,hRl,hou,hRr,hK,hTT,hB2⟩:=hrel;have z0:(0:Int)≤(j:Int):=(by omega);obtain⟨oa,oc,rfl⟩:=aG_ hK.own;have UR:=hid (U6.out.low hB2);have c1:=UR.out.wk.c1
    by_cases hi:j<ks.length
    ·have z1:(j:Int)<(ks.length:Int):=by omega
     have z2:(j:Int)<1000000000000:=(by have:=HLK.out;omega);obtain⟨g,rfl⟩:∃ g,ka=some ⟨g,0,none⟩:=by
      rcases HROW.out.2 with ⟨_,h0⟩|⟨g,cap,cur,h0,_⟩
      ·omega
      ·injection h0 with h0;exact⟨g,h0⟩
     have rm:wr.cell? ⟨g,j,none⟩=some (.int .i64 ks[j]):=by
      have h1:=(HROW.out.cells (g:=g) rfl j (.int .i64 ks[j]) (by simp[hi]));rw[show (⟨g,0,none⟩:Addr).add j=⟨g,j,none⟩ from by unfold Addr.add;split<;>simp_all] at h1;exact (hB2.cell (p:=⟨g,j,none⟩) (HROW.out.lt g rfl).2).trans h1
     rw[List.drop_eq_getElem_cons hi] at hou;generalize ks[j]=m at *;obtain⟨u,u',r',hlk0,hfu,hor,hrr⟩:=mR_ hou;obtain⟨ua,uc,hlk2,hAu⟩:=UR.out.kn.look_some Tryz.underlying73 Tryz.underlying3 hlk0;have hlk:=(hlk2 wr rfl).2;have CF:=hid (h7_ d T1 w.heap.size wr (w.heap.size+1) w.heap.size W _ ps u u' ua uc UR.out HKB.out.small hAu (HKB.out m u hlk0).small (HTAB.out _ (B6.out.trans (hB2.mono B6.out.size))) hfu);have HOR:=hid hor;have HRR:Hid ((R++[(m,u')])++r'=r):=hid (by rw[List.append_assoc,← hRr,hrr];rfl);have HRL:=hid hRl;have HK:=hid hK;have HTT:=hid hTT;have HB2:=hid hB2;clear hou hlk0 hfu hor hrr hlk2 hAu hRr hRl hK hTT hB2;unfold tv at CF hlk;unfold TP at CF;go_wp2_with fail;refine CF.out.mono ?_;rintro en w7 ⟨ya,yc,he,hA7,hb7⟩;unfold tv at he;subst he;have hk7:=(HK.out.keep (fun b e=>hb7.block b (HK.out.own.lt b e).2) fun b h=>hb7.block b (HTT.out b h).1).mono (S':=fun b=>T' b∨New T1 wr w7 b) fun _=>.inl;have hOwn:∀ b,(Value.slice oa R.length oc).ownBlock=some b→w6.heap.size≤b∧b<wr.heap.size:=fun b e=>HK.out.own.lt b e;have hT7:∀ b,(T' b∨New T1 wr w7 b)→b<w7.heap.size∧(Value.slice oa R.length oc).ownBlock≠some b:=fun b hb=>by
      rcases hb with hb|hb|hb
      ·exact⟨ba_ (HTT.out b hb).1 hb7.size,(HTT.out b hb).2⟩
      ·have h1:=TL.out b hb
       have h2:=Z6.out;have h3:=HB2.out.size;have h4:=hb7.size;exact⟨by omega,fun e=>by have:=(hOwn b e).1;omega⟩
      ·exact⟨hb.2,fun e=>by have:=(hOwn b e).2;omega⟩
     have pa:=hk7.push (x:=(m,u')) (cj_ HB2.out.size hb7.size) (by have:=HRL.out;omega) hT7 (hA7.mono fun _=>.inr);have PA:=hid pa;have H7:=hid hb7;have HT7:=hid hT7;have HO7:=hid hOwn;clear pa hb7 hT7 hOwn hk7 hA7;have HRL2:Hid ((R++[(m,u')]).length=j+1):=hid (by rw[List.length_append,HRL.out];rfl);rw[HRL.out] at *;go_wp2_with (at_builtin;refine co_ (by rfl) _ _ _ (by rfl) (by rfl) (by rfl) PA.out ?_;rintro v8 w8 ⟨hr8,hg8,ho8,hl8⟩;have HR8:=hid hr8;have HG8:=hid hg8;have HO8:=hid ho8;have HL8:=hid hl8;clear hr8 hg8 ho8 hl8)
     all_goals
      go_wp2;go_roundw
      case rel=>exact⟨j+1,_,r',_,_,by go_num,by omega,HRL2.out,HOR.out,HRR.out,HR8.out,fun b hb=>⟨Nat.lt_trans (HT7.out b hb).1 HL8.out,fun e=>by
       rcases HO8.out b e with e|e
       ·exact (HT7.out b hb).2 e
       ·have:=(HT7.out b hb).1;omega⟩,(HB2.out.trans (H7.out.mono HB2.out.size)).grown HG8.out (cj_ HB2.out.size H7.out.size) fun b hb=>(HO7.out b hb).1⟩
      case measure=>simp[intOf];omega
    ·have hjl:j=ks.length:=by omega
     have z1:¬ (j:Int)<(ks.length:Int):=(by omega);rw[hjl,List.drop_length,jm_] at hou;injection hou with hou
     have HRR:Hid (R=r):=hid (by rw[← hRr,← hou,List.append_nil]);have HK:=hid hK;have HTT:=hid hTT;have BF:Hid (Below w.heap.size w wr):=hid (B6.out.trans (hB2.mono B6.out.size));clear hou hRr hK hTT hB2 hi hjl;go_wp2;go_ret2;rw[HRS.out];refine⟨_,ps',T',rfl,?_,fun b hb=>(HTT.out b hb).1,BF.out⟩;rw[← HRR.out];have hk:=HK.out.lo B6.out.size;rw[hRl] at hk;exact hk
end
end Go.Proofs.YtjecnionbjlncaaGreatDoor.Tp

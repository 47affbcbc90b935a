/- Texts laid together: TyAtom, TyAtomB, TyAtomC, CoAtW. -/
import Derived.Test.YtkihnodkhnahiaaGreatDoorP04
import Derived.Test.YtkihnodkhnahiaaGreatDoorPS
import Derived.Lib.AtoiErrMem

namespace Go.Proofs.YtkihnodkhnahiaaGreatDoor.Tp
open Go.RowKit
open Lx
theorem grown_trans {a b c:World}{r:Option Nat}(h:a.grownBy b r)(k:b.grownBy c r):a.grownBy c r :=
 ⟨k.os.trans h.os,k.tape.trans h.tape,k.output.trans h.output,Nat.le_trans h.size k.size,fun j hj hr=>(k.block j (Nat.lt_of_lt_of_le hj h.size) hr).trans (h.block j hj hr)⟩
theorem grown_below {a b:World}{r:Option Nat}(h:Below a.heap.size a b):a.grownBy b r:=⟨h.os,h.tape,h.output,h.size,fun k hk _=>h.block k hk⟩
theorem Rd.low {N B:Nat}{w w':World}{l:List Tok}(h:Rd N B w l)(hb:Below w.heap.size w w'):Rd N B w' l:=by
 obtain⟨a,cap,h1,h2,h3,h9⟩:=h
 refine⟨a,cap,(hb.block B (Array.getElem?_eq_some_iff.1 h1).1).trans h1,?_,h3,h9⟩
 obtain⟨a',c',e,h4,h5|⟨b,off,h6,h7⟩⟩:=h2
 ·exact⟨a',c',e,h4,.inl h5⟩
 ·refine⟨a',c',e,h4,.inr ⟨b,off,h6,fun i hi=>?_⟩⟩
  obtain⟨c0,c1,c2⟩:=h7 i hi
  have hbl:=World.block_lt_of_cell? w _ c0
  exact⟨(hb.cell hbl).trans c0,(hb.cell (p:=⟨b,off+i*3+1,none⟩) hbl).trans c1,(hb.cell (p:=⟨b,off+i*3+2,none⟩) hbl).trans c2⟩
theorem Rd.blk {N B:Nat}{w:World}{l:List Tok}(h:Rd N B w l):∃ v,w.heap[B]? = some (.cells #[v] 115 (0,0)):=by
 obtain⟨a,cap,h1,_⟩:=h;exact⟨_,h1⟩
theorem Rd.set {N B:Nat}{w:World}{l:List Tok}(h:Rd N B w l){p:Addr}(hB:B≠p.block)(hN:N≤p.block)(u:Value):Rd N B (w.setCell p u) l:=by
 obtain⟨a,cap,h1,h2,h3,h9⟩:=h
 refine⟨a,cap,(Below.heap_setCell _ _ _ _ hB).trans h1,?_,h3,h9⟩
 cases ha:a with
 | none =>
  subst ha
  obtain⟨a',c',e,h4,h5|⟨b,off,h6,h7⟩⟩:=h2
  ·exact⟨a',c',e,h4,.inl h5⟩
  ·injection e with e;rw[h6] at e;cases e
 | some x =>
  subst ha
  obtain⟨a',c',e,h4,h5|⟨b,off,h6,h7⟩⟩:=h2
  ·exact⟨a',c',e,h4,.inl h5⟩
  ·refine⟨a',c',e,h4,.inr ⟨b,off,h6,fun i hi=>?_⟩⟩
   injection e with e
   have hb:=h9 b off (by rw[e,h6])
   have k:∀ o,(w.setCell p u).cell? ⟨b,o,none⟩=w.cell? ⟨b,o,none⟩:=fun o=>World.cell?_of_block (Below.heap_setCell w p u b (by omega))
   rw[k,k,k];exact h7 i hi
def B4 (w:World)(b:Nat)(c0 c1 c2 c3:Value):Prop:=w.heap[b]? = some (.cells #[c0,c1,c2,c3] 30 (0,0))
section
variable {w w' : World} {b : Nat} {u0 u1 u2 u3 : Value}
theorem B4.c0 (h:B4 w b u0 u1 u2 u3):w.cell? ⟨b,0,none⟩=some u0:=cell_of_row w b 0 _ _ _ h
theorem B4.c1 (h:B4 w b u0 u1 u2 u3):w.cell? ⟨b,1,none⟩=some u1:=cell_of_row w b 1 _ _ _ h
theorem B4.c2 (h:B4 w b u0 u1 u2 u3):w.cell? ⟨b,2,none⟩=some u2:=cell_of_row w b 2 _ _ _ h
theorem B4.c3 (h:B4 w b u0 u1 u2 u3):w.cell? ⟨b,3,none⟩=some u3:=cell_of_row w b 3 _ _ _ h
theorem B4.fr (h:B4 w b u0 u1 u2 u3)(i:Nat):w.frozen? ⟨b,i,none⟩=false:=by unfold B4 at h;simp[World.frozen?,h]
theorem B4.lt (h:B4 w b u0 u1 u2 u3):b<w.heap.size:=(Array.getElem?_eq_some_iff.1 h).1
theorem B4.new (w:World)(u0 u1 u2 u3:Value):B4 (w.alloc (.cells #[u0,u1,u2,u3] 30)) w.heap.size u0 u1 u2 u3:=heap_alloc_new w _
theorem B4.grown {r:Option Nat}(h:B4 w b u0 u1 u2 u3)(hg:w.grownBy w' r)(hr:r≠some b):B4 w' b u0 u1 u2 u3:=(hg.block b h.lt (Ne.symm hr)).trans h
theorem B4.low (h:B4 w b u0 u1 u2 u3)(hb:Below w.heap.size w w'):B4 w' b u0 u1 u2 u3:=(hb.block b h.lt).trans h
theorem B4.ne_rd {N B:Nat}{l:List Tok}(h:B4 w b u0 u1 u2 u3)(k:Rd N B w l):b≠B:=by
 rintro rfl
 obtain⟨v,hv⟩:=k.blk
 unfold B4 at h
 rw[hv] at h
 injection h with h
 injection h with _ ht
 exact absurd ht (by decide)
end
theorem B4.set4 {w:World}{b:Nat}{u0 u1 u2 u3:Value}(h:B4 w b u0 u1 u2 u3)(v0 v1 v2 v3:Value) :
  B4 ((((w.setCell ⟨b,0,none⟩ v0).setCell ⟨b,1,none⟩ v1).setCell ⟨b,2,none⟩ v2).setCell ⟨b,3,none⟩ v3) b v0 v1 v2 v3:=by
 unfold B4 at *
 rw[set_row0 (set_row0 (set_row0 (set_row0 h v0) v1) v2) v3]
 rfl
theorem grown_set4 {w w1:World}{r:Option Nat}{b:Nat}(h:w.grownBy w1 r)(hb:w.heap.size≤b)(v0 v1 v2 v3:Value) :
  w.grownBy ((((w1.setCell ⟨b,0,none⟩ v0).setCell ⟨b,1,none⟩ v1).setCell ⟨b,2,none⟩ v2).setCell ⟨b,3,none⟩ v3) r:=by
 refine⟨h.os,h.tape,h.output,by simpa using h.size,fun k hk hr=>?_⟩
 rw[Below.heap_setCell _ _ _ _ (by simp;omega),Below.heap_setCell _ _ _ _ (by simp;omega),Below.heap_setCell _ _ _ _ (by simp;omega),Below.heap_setCell _ _ _ _ (by simp;omega)]
 exact h.block k hk hr
theorem Rd.set4 {N B:Nat}{w:World}{l:List Tok}(h:Rd N B w l){b:Nat}(hB:B≠b)(hN:N≤b)(v0 v1 v2 v3:Value) :
  Rd N B ((((w.setCell ⟨b,0,none⟩ v0).setCell ⟨b,1,none⟩ v1).setCell ⟨b,2,none⟩ v2).setCell ⟨b,3,none⟩ v3) l :=
 (((h.set (p:=⟨b,0,none⟩) hB hN v0).set (p:=⟨b,1,none⟩) hB hN v1).set (p:=⟨b,2,none⟩) hB hN v2).set (p:=⟨b,3,none⟩) hB hN v3
def tv (t:Ty)(a:Option Addr)(c:Nat):Value:=.agg #[.int .i64 t.kind,.string t.name,.int .i64 t.n,.slice a t.args.length c]
def RdPost (N B:Nat)(w:World)(res:Option (Ty × List Tok))(e:Ending)(w':World):Prop :=
 w.grownBy w' (some B)∧match res with
 | none=>∃ (k:Int) (s:ByteArray) (n:Int) (a:Option Addr) (c m:Nat),e=.returned (.tuple #[.agg #[.int .i64 k,.string s,.int .i64 n,.slice a c m],.bool false])
 | some (t,r)=>∃ a c,e=.returned (.tuple #[tv t a c,.bool true])∧ArgsAt (In w.heap.size w'.heap.size) w' (.slice a t.args.length c) t.args∧Rd N B w' r
def TokOk (l:List Tok):Prop:=∀ t∈l,t.kind=5→t.text.length≤19∧Lib.atoi t.text.tail=some (numL t.text.tail:Int)
theorem TokOk.tail {l:List Tok}(h:TokOk l):TokOk l.tail:=fun t ht=>h t (List.mem_of_mem_tail ht)
structure Said (n:Nat):Prop where
 typ:∀ (N B:Nat) (w:World) (l:List Tok),Rd N B w l→N≤w.heap.size→TokOk l→l.length≤4000→4*l.length+4≤n→Calls Tryz.prog 63 #[.pointer (some ⟨B,0,none⟩)] w (RdPost N B w (typF n l))
 all:∀ (N B:Nat) (w:World) (l:List Tok),Rd N B w l→N≤w.heap.size→TokOk l→l.length≤4000→4*l.length+1≤n→Calls Tryz.prog 94 #[.pointer (some ⟨B,0,none⟩)] w (RdPost N B w (allF n l))
 app:∀ (N B:Nat) (w:World) (l:List Tok),Rd N B w l→N≤w.heap.size→TokOk l→l.length≤4000→4*l.length+3≤n→Calls Tryz.prog 95 #[.pointer (some ⟨B,0,none⟩)] w (RdPost N B w (appF n l))
 atom:∀ (N B:Nat) (w:World) (l:List Tok),Rd N B w l→N≤w.heap.size→TokOk l→l.length≤4000→4*l.length+2≤n→Calls Tryz.prog 110 #[.pointer (some ⟨B,0,none⟩)] w (RdPost N B w (atomF n l))
theorem takes_yes {k:Nat}{s:List UInt8}{N B:Nat}{w:World}{l:List Tok}(h:Rd N B w l)(hs:seesB l k s=true) :
  Calls Tryz.prog 93 #[.pointer (some ⟨B,0,none⟩),.int .i64 (k:Int),.string ⟨s.toArray⟩] w fun e w'=>e=.returned (.tuple #[.string (bytes (headText l)),.bool true])∧Rd N B w' l.tail∧w.grownBy w' (some B):=by
 have:=takes_any k s N B w l h
 rw[hs] at this
 exact this
theorem takes_no {k:Nat}{s:List UInt8}{N B:Nat}{w:World}{l:List Tok}(h:Rd N B w l)(hs:seesB l k s=false) :
  Calls Tryz.prog 93 #[.pointer (some ⟨B,0,none⟩),.int .i64 (k:Int),.string ⟨s.toArray⟩] w fun e w'=>e=.returned (.tuple #[.string ByteArray.empty,.bool false])∧w=w':=by
 have:=takes_any k s N B w l h
 rw[hs] at this
 exact this
set_option maxHeartbeats 1600000 in
theorem atom_var (n N B:Nat)(w:World)(l:List Tok)(h:Rd N B w l)(hN:N≤w.heap.size)(h1:sk l 1=true):Calls Tryz.prog 110 #[.pointer (some ⟨B,0,none⟩)] w (RdPost N B w (atomF (n+1) l)):=by
 have hr:=h.low ((Below.refl w.heap.size w).alloc (Nat.le_refl _) (.cells #[.int .i64 0,.string ByteArray.empty,.int .i64 0,.slice none 0 0] 30))
 have C:=hid (takes_yes hr (k:=1) (s:=[]) (by rw[sees_sk];exact h1))
 have b4:=hid (B4.new w (.int .i64 0) (.string ByteArray.empty) (.int .i64 0) (.slice none 0 0))
 have HR:=hid hr
 have H1:=hid h1
 clear h hr h1
 go_enter Tryz.func110,Tryz.ntmps110
 go_wp2_with fail
 refine C.out.mono ?_
 rintro e w1 ⟨rfl,hrd,hg⟩
 have k4:=b4.out.grown hg (fun e=>b4.out.ne_rd HR.out (by injection e with e;exact e.symm))
 have c0:=k4.c0
 have c1:=k4.c1
 have c2:=k4.c2
 have c3:=k4.c3
 have f0:=k4.fr 0
 have f1:=k4.fr 1
 have f2:=k4.fr 2
 have f3:=k4.fr 3
 have K4:=hid k4
 have RD:=hid hrd
 have G:=hid hg
 clear k4 hrd hg
 have hne:=K4.out.ne_rd RD.out
 go_wp2
 have q4:=K4.out.set4 (.int .i64 1) (.string (bytes (headText l))) (.int .i64 0) (.slice none 0 0)
 have g4:=grown_set4 (grown_trans (grown_below ((Below.refl w.heap.size w).alloc (Nat.le_refl _) _)) G.out) (Nat.le_refl _) (.int .i64 1) (.string (bytes (headText l))) (.int .i64 0) (.slice none 0 0)
 have r4:=RD.out.set4 (Ne.symm hne) hN (.int .i64 1) (.string (bytes (headText l))) (.int .i64 0) (.slice none 0 0)
 refine bodyPost_ret (v:=.tuple #[tv (tVar (headText l)) none 0,.bool true]) (by simp[results,Tryz.results110,go_sem,q4.c0,q4.c1,q4.c2,q4.c3];rfl) rfl ?_
 have e:atomF (n+1) l=some (tVar (headText l),l.tail):=by rw[atomF,if_pos H1.out]
 rw[e]
 exact⟨g4,none,0,rfl,.nil _ _,r4⟩
open Lx
theorem sees0 {l:List Tok}{k:Nat}{b:Bool}(h:sk l k=b):seesB l k []=b:=by rw[sees_sk];exact h
theorem sees1 {l:List Tok}{k:Nat}{s:List UInt8}{b:Bool}(hs:s≠[])(h:st l k s=b):seesB l k s=b:=by rw[sees_st _ _ _ hs];exact h
theorem size_bytes (l:List UInt8):(bytes l).size=l.length:=by simp[bytes,ByteArray.size]
set_option maxHeartbeats 1600000 in
theorem atom_con (n N B:Nat)(w:World)(l:List Tok)(h:Rd N B w l)(hN:N≤w.heap.size)(h1:sk l 1=false)(h2:sk l 2=true):Calls Tryz.prog 110 #[.pointer (some ⟨B,0,none⟩)] w (RdPost N B w (atomF (n+1) l)):=by
 have hr:=h.low ((Below.refl w.heap.size w).alloc (Nat.le_refl _) (.cells #[.int .i64 0,.string ByteArray.empty,.int .i64 0,.slice none 0 0] 30))
 have C1:=hid (takes_no hr (k:=1) (s:=[]) (sees0 h1))
 have C2:=hid (takes_yes hr (k:=2) (s:=[]) (sees0 h2))
 have b4:=hid (B4.new w (.int .i64 0) (.string ByteArray.empty) (.int .i64 0) (.slice none 0 0))
 have HR:=hid hr
 have e:atomF (n+1) l=some (tCon (headText l) [],l.tail):=by rw[atomF,h1,if_neg (by simp),if_pos h2]
 have E:=hid e
 clear h hr h1 h2 e
 go_enter Tryz.func110,Tryz.ntmps110
 go_wp2_with fail
 refine C1.out.mono ?_
 rintro e w1 ⟨rfl,rfl⟩
 go_wp2_with fail
 refine C2.out.mono ?_
 rintro e w1 ⟨rfl,hrd,hg⟩
 have k4:=b4.out.grown hg (fun e=>b4.out.ne_rd HR.out (by injection e with e;exact e.symm))
 have c0:=k4.c0
 have c1:=k4.c1
 have c2:=k4.c2
 have c3:=k4.c3
 have f0:=k4.fr 0
 have f1:=k4.fr 1
 have f2:=k4.fr 2
 have f3:=k4.fr 3
 have K4:=hid k4
 have RD:=hid hrd
 have G:=hid hg
 clear k4 hrd hg
 have hne:=K4.out.ne_rd RD.out
 go_wp2
 have q4:=K4.out.set4 (.int .i64 3) (.string (bytes (headText l))) (.int .i64 0) (.slice none 0 0)
 have g4:=grown_set4 (grown_trans (grown_below ((Below.refl w.heap.size w).alloc (Nat.le_refl _) _)) G.out) (Nat.le_refl _) (.int .i64 3) (.string (bytes (headText l))) (.int .i64 0) (.slice none 0 0)
 have r4:=RD.out.set4 (Ne.symm hne) hN (.int .i64 3) (.string (bytes (headText l))) (.int .i64 0) (.slice none 0 0)
 refine bodyPost_ret (v:=.tuple #[tv (tCon (headText l) []) none 0,.bool true]) (by simp[results,Tryz.results110,go_sem,q4.c0,q4.c1,q4.c2,q4.c3];rfl) rfl ?_
 rw[E.out]
 exact⟨g4,none,0,rfl,.nil _ _,r4⟩
set_option maxHeartbeats 1600000 in
theorem atom_meta (n N B:Nat)(w:World)(l:List Tok)(h:Rd N B w l)(hN:N≤w.heap.size)(hok:TokOk l)(h1:sk l 1=false)(h2:sk l 2=false)(h3:sk l 5=true):Calls Tryz.prog 110 #[.pointer (some ⟨B,0,none⟩)] w (RdPost N B w (atomF (n+1) l)):=by
 have hr:=h.low ((Below.refl w.heap.size w).alloc (Nat.le_refl _) (.cells #[.int .i64 0,.string ByteArray.empty,.int .i64 0,.slice none 0 0] 30))
 have C1:=hid (takes_no hr (k:=1) (s:=[]) (sees0 h1))
 have C2:=hid (takes_no hr (k:=2) (s:=[]) (sees0 h2))
 have C3:=hid (takes_yes hr (k:=5) (s:=[]) (sees0 h3))
 have b4:=hid (B4.new w (.int .i64 0) (.string ByteArray.empty) (.int .i64 0) (.slice none 0 0))
 have HR:=hid hr
 have e:atomF (n+1) l=some (tMeta (headText l),l.tail):=by rw[atomF,h1,if_neg (by simp),h2,if_neg (by simp),if_pos h3]
 have E:=hid e
 obtain⟨hlen,hat⟩:(headText l).length≤19∧Lib.atoi (headText l).tail=some (numL (headText l).tail:Int):=by
  cases l with
  | nil=>cases h3
  | cons t l=>exact hok t (by simp) (by simpa [sk] using h3)
 have hpos:1≤(headText l).length:=by
  rcases Nat.eq_zero_or_pos (headText l).length with h0|h0
  ·rw[List.eq_nil_of_length_eq_zero h0] at hat;cases hat
  ·exact h0
 have hsz:=size_bytes (headText l)
 have hx:(bytes (headText l)).extract 1 (bytes (headText l)).size=bytes (headText l).tail:=by
  apply ByteArray.ext
  apply Array.toList_inj.1
  rw[extract_rest]
  simp[bytes]
 have AT:=fun W=>Tryz.strconv_Atoi (bytes (headText l).tail) (numL (headText l).tail:Int) (by rw[size_bytes];simp;omega) (by simpa [bytes] using hat) W
 have HX:=hid hx
 have HA:=hid AT
 have hs1:1≤(bytes (headText l)).size:=by omega
 clear h hr h1 h2 h3 e hok hat hx hsz AT
 go_enter Tryz.func110,Tryz.ntmps110
 go_wp2_with fail
 refine C1.out.mono ?_
 rintro e w1 ⟨rfl,rfl⟩
 go_wp2_with fail
 refine C2.out.mono ?_
 rintro e w1 ⟨rfl,rfl⟩
 go_wp2_with fail
 refine C3.out.mono ?_
 rintro e w1 ⟨rfl,hrd,hg⟩
 have k4:=b4.out.grown hg (fun e=>b4.out.ne_rd HR.out (by injection e with e;exact e.symm))
 have K4:=hid k4
 have RD:=hid hrd
 have G:=hid hg
 clear k4 hrd hg
 go_wp2_with fail
 rw[HX.out]
 refine (HA.out _).mono ?_
 rintro e w2 ⟨rfl,tt,rfl⟩
 have hbw:=Lib.bytesWorld_below w1 5 tt
 generalize Lib.bytesWorld w1 5 tt=w2 at *
 have k5:=K4.out.low hbw
 have r5:=RD.out.low hbw
 have c0:=k5.c0
 have c1:=k5.c1
 have c2:=k5.c2
 have c3:=k5.c3
 have f0:=k5.fr 0
 have f1:=k5.fr 1
 have f2:=k5.fr 2
 have f3:=k5.fr 3
 have hne:=k5.ne_rd r5
 have K5:=hid k5
 have R5:=hid r5
 have G5:=hid (grown_trans G.out (grown_below (r:=some B) hbw))
 clear k5 r5 hbw
 go_wp2
 have q4:=K5.out.set4 (.int .i64 2) (.string ⟨#[]⟩) (.int .i64 (numL (headText l).tail:Int)) (.slice none 0 0)
 have g4:=grown_set4 (grown_trans (grown_below ((Below.refl w.heap.size w).alloc (Nat.le_refl _) _)) G5.out) (Nat.le_refl _) (.int .i64 2) (.string ⟨#[]⟩) (.int .i64 (numL (headText l).tail:Int)) (.slice none 0 0)
 have r4:=R5.out.set4 (Ne.symm hne) hN (.int .i64 2) (.string ⟨#[]⟩) (.int .i64 (numL (headText l).tail:Int)) (.slice none 0 0)
 refine bodyPost_ret (v:=.tuple #[tv (tMeta (headText l)) none 0,.bool true]) (by simp[results,Tryz.results110,go_sem,q4.c0,q4.c1,q4.c2,q4.c3];rfl) rfl ?_
 rw[E.out]
 exact⟨g4,none,0,rfl,.nil _ _,r4⟩
open Lx
def zv:Value:=.agg #[.int .i64 0,.string ⟨#[]⟩,.int .i64 0,.slice none 0 0]
set_option maxHeartbeats 1600000 in
theorem atom_none (n N B:Nat)(w:World)(l:List Tok)(h:Rd N B w l)(h1:sk l 1=false)(h2:sk l 2=false)(h3:sk l 5=false)(h4:st l 6 lpar=false):Calls Tryz.prog 110 #[.pointer (some ⟨B,0,none⟩)] w (RdPost N B w (atomF (n+1) l)):=by
 have hr:=h.low ((Below.refl w.heap.size w).alloc (Nat.le_refl _) (.cells #[.int .i64 0,.string ByteArray.empty,.int .i64 0,.slice none 0 0] 30))
 have C1:=hid (takes_no hr (k:=1) (s:=[]) (sees0 h1))
 have C2:=hid (takes_no hr (k:=2) (s:=[]) (sees0 h2))
 have C3:=hid (takes_no hr (k:=5) (s:=[]) (sees0 h3))
 have C4:=hid (takes_no hr (k:=6) (s:=lpar) (sees1 (by decide) h4))
 have k4:=B4.new w (.int .i64 0) (.string ByteArray.empty) (.int .i64 0) (.slice none 0 0)
 have e:atomF (n+1) l=none:=by rw[atomF,h1,if_neg (by simp),h2,if_neg (by simp),h3,if_neg (by simp),h4,if_neg (by simp)]
 have E:=hid e
 have K4:=hid k4
 clear h hr h1 h2 h3 h4 e k4
 go_enter Tryz.func110,Tryz.ntmps110
 go_wp2_with fail
 refine C1.out.mono ?_
 rintro e w1 ⟨rfl,rfl⟩
 go_wp2_with fail
 refine C2.out.mono ?_
 rintro e w1 ⟨rfl,rfl⟩
 go_wp2_with fail
 refine C3.out.mono ?_
 rintro e w1 ⟨rfl,rfl⟩
 go_wp2_with fail
 refine C4.out.mono ?_
 rintro e w1 ⟨rfl,rfl⟩
 go_wp2
 refine bodyPost_ret (v:=.tuple #[zv,.bool false]) (by simp[results,Tryz.results110,go_sem,zv]) rfl ?_
 rw[E.out]
 exact⟨grown_below ((Below.refl w.heap.size w).alloc (Nat.le_refl _) _),_,_,_,_,_,_,rfl⟩
set_option maxHeartbeats 3200000 in
theorem atom_par (n N B:Nat)(w:World)(l:List Tok)(ih:Said n)(h:Rd N B w l)(hN:N≤w.heap.size)(hok:TokOk l)(hl:l.length≤4000)(hn:4*l.length+2≤n+1)(h1:sk l 1=false)(h2:sk l 2=false)(h3:sk l 5=false)(h4:st l 6 lpar=true):Calls Tryz.prog 110 #[.pointer (some ⟨B,0,none⟩)] w (RdPost N B w (atomF (n+1) l)):=by
 have hr:=h.low ((Below.refl w.heap.size w).alloc (Nat.le_refl _) (.cells #[.int .i64 0,.string ByteArray.empty,.int .i64 0,.slice none 0 0] 30))
 have C1:=hid (takes_no hr (k:=1) (s:=[]) (sees0 h1))
 have C2:=hid (takes_no hr (k:=2) (s:=[]) (sees0 h2))
 have C3:=hid (takes_no hr (k:=5) (s:=[]) (sees0 h3))
 have C4:=hid (takes_yes hr (k:=6) (s:=lpar) (sees1 (by decide) h4))
 have b4:=hid (B4.new w (.int .i64 0) (.string ByteArray.empty) (.int .i64 0) (.slice none 0 0))
 have HR:=hid hr
 have htl:l.tail.length+1=l.length:=by have:=st_ne h4;rw[List.length_tail];omega
 have e:atomF (n+1) l=(match typF n l.tail with|none=>none|some (t,r)=>if st r 6 rpar then some (t,r.tail) else none):=by
  rw[atomF,h1,if_neg (by simp),h2,if_neg (by simp),h3,if_neg (by simp),if_pos h4];rfl
 have IH:=hid (fun w1 (hr1:Rd N B w1 l.tail) (hN1:N≤w1.heap.size)=>ih.typ N B w1 l.tail hr1 hN1 hok.tail (by omega) (by omega))
 have E:=hid e
 clear h hr h1 h2 h3 h4 e ih hok
 go_enter Tryz.func110,Tryz.ntmps110
 go_wp2_with fail
 refine C1.out.mono ?_
 rintro e w1 ⟨rfl,rfl⟩
 go_wp2_with fail
 refine C2.out.mono ?_
 rintro e w1 ⟨rfl,rfl⟩
 go_wp2_with fail
 refine C3.out.mono ?_
 rintro e w1 ⟨rfl,rfl⟩
 go_wp2_with fail
 refine C4.out.mono ?_
 rintro e w1 ⟨rfl,hrd,hg⟩
 have k4:=b4.out.grown hg (fun e=>b4.out.ne_rd HR.out (by injection e with e;exact e.symm))
 have hs1:=hg.size
 have K4:=hid k4
 have RD:=hid hrd
 have G:=hid (grown_trans (grown_below ((Below.refl w.heap.size w).alloc (Nat.le_refl _) _)) hg)
 have hs1:w.heap.size<w1.heap.size:=by have:=hg.size;simp at this;omega
 clear k4 hrd hg
 go_wp2_with fail
 refine (IH.out w1 RD.out (by omega)).mono ?_
 rintro e w2 ⟨hg2,hres⟩
 have k5:=K4.out.grown hg2 (fun e=>K4.out.ne_rd RD.out (by injection e with e;exact e.symm))
 have hs2:=hg2.size
 have K5:=hid k5
 have G2:=hid (grown_trans G.out hg2)
 clear k5
 cases hT:typF n l.tail with
 | none =>
  rw[hT] at hres
  obtain⟨k,s,m,a,c,c',rfl⟩:=hres
  have e2:atomF (n+1) l=none:=by rw[E.out,hT]
  have E2:=hid e2
  have k6:=K5.out.low ((Below.refl w2.heap.size w2).alloc (Nat.le_refl _) (.cells #[.int .i64 k,.string s,.int .i64 m,.slice a c c'] 30))
  have c0:=k6.c0
  have c1:=k6.c1
  have c2:=k6.c2
  have c3:=k6.c3
  have f0:=k6.fr 0
  have f1:=k6.fr 1
  have f2:=k6.fr 2
  have f3:=k6.fr 3
  have K6:=hid k6
  clear e2 hT hg2 k6
  go_wp2
  have q4:=K6.out.set4 (.int .i64 0) (.string ⟨#[]⟩) (.int .i64 0) (.slice none 0 0)
  have g4:=grown_set4 (grown_trans G2.out (grown_below ((Below.refl w2.heap.size w2).alloc (Nat.le_refl _) (.cells #[.int .i64 k,.string s,.int .i64 m,.slice a c c'] 30)))) (Nat.le_refl _) (.int .i64 0) (.string ⟨#[]⟩) (.int .i64 0) (.slice none 0 0)
  refine bodyPost_ret (v:=.tuple #[zv,.bool false]) (by simp[results,Tryz.results110,go_sem,zv,q4.c0,q4.c1,q4.c2,q4.c3]) rfl ?_
  rw[E2.out]
  exact⟨g4,_,_,_,_,_,_,rfl⟩
 | some x =>
  obtain⟨t,r⟩:=x
  rw[hT] at hres
  obtain⟨a,c,rfl,hA,hR⟩:=hres
  have hb3:=(Below.refl w2.heap.size w2).alloc (Nat.le_refl _) (.cells #[.int .i64 t.kind,.string t.name,.int .i64 t.n,.slice a t.args.length c] 30)
  have hR3:=hR.low hb3
  have k6:=K5.out.low hb3
  have kt:=B4.new w2 (.int .i64 t.kind) (.string t.name) (.int .i64 t.n) (.slice a t.args.length c)
  have hBlt:B<w.heap.size+1:=by
   obtain⟨v,hv⟩:=HR.out.blk
   have:=(Array.getElem?_eq_some_iff.1 hv).1
   simpa using this
  have hBne:=K4.out.ne_rd RD.out
  have hBl:B<w.heap.size:=by omega
  cases hp:st r 6 rpar
  ·have e2:atomF (n+1) l=none:=by rw[E.out,hT];simp[hp]
   have E2:=hid e2
   have C5:=hid (takes_no hR3 (k:=6) (s:=rpar) (sees1 (by decide) hp))
   have c0:=k6.c0
   have c1:=k6.c1
   have c2:=k6.c2
   have c3:=k6.c3
   have f0:=k6.fr 0
   have f1:=k6.fr 1
   have f2:=k6.fr 2
   have f3:=k6.fr 3
   have t0:=kt.c0
   have t1:=kt.c1
   have t2:=kt.c2
   have t3:=kt.c3
   have K6:=hid k6
   have G3:=hid (grown_trans G2.out (grown_below hb3))
   clear e2 hT hg2 k6 kt hb3 hR3 hR hA hp
   unfold tv
   go_wp2_with fail
   refine C5.out.mono ?_
   rintro e w4 ⟨rfl,rfl⟩
   go_wp2
   have q4:=K6.out.set4 (.int .i64 t.kind) (.string t.name) (.int .i64 t.n) (.slice a t.args.length c)
   have g4:=grown_set4 G3.out (Nat.le_refl _) (.int .i64 t.kind) (.string t.name) (.int .i64 t.n) (.slice a t.args.length c)
   refine bodyPost_ret (v:=.tuple #[tv t a c,.bool false]) (by simp[results,Tryz.results110,go_sem,tv,q4.c0,q4.c1,q4.c2,q4.c3]) rfl ?_
   rw[E2.out]
   exact⟨g4,_,_,_,_,_,_,rfl⟩
  ·have e2:atomF (n+1) l=some (t,r.tail):=by rw[E.out,hT];simp[hp]
   have E2:=hid e2
   have C5:=hid (takes_yes hR3 (k:=6) (s:=rpar) (sees1 (by decide) hp))
   have K6:=hid k6
   have KT:=hid kt
   have R3:=hid hR3
   have HA:=hid hA
   have G3:=hid (grown_trans G2.out (grown_below hb3))
   clear e2 hT hg2 k6 kt hb3 hR3 hR hA hp
   unfold tv
   go_wp2_with fail
   refine C5.out.mono ?_
   rintro e w4 ⟨rfl,hR4,hg4⟩
   have k7:=K6.out.grown hg4 (fun e=>K6.out.ne_rd R3.out (by injection e with e;exact e.symm))
   have kt7:=KT.out.grown hg4 (fun e=>KT.out.ne_rd R3.out (by injection e with e;exact e.symm))
   have c0:=k7.c0
   have c1:=k7.c1
   have c2:=k7.c2
   have c3:=k7.c3
   have f0:=k7.fr 0
   have f1:=k7.fr 1
   have f2:=k7.fr 2
   have f3:=k7.fr 3
   have t0:=kt7.c0
   have t1:=kt7.c1
   have t2:=kt7.c2
   have t3:=kt7.c3
   have hne:=k7.ne_rd hR4
   have K7:=hid k7
   have G7:=hid (grown_trans G3.out hg4)
   have R4:=hid hR4
   have H4:=hid hg4
   clear k7 kt7 hR4 hg4
   go_wp2
   have q4:=K7.out.set4 (.int .i64 t.kind) (.string t.name) (.int .i64 t.n) (.slice a t.args.length c)
   have g4:=grown_set4 G7.out (Nat.le_refl _) (.int .i64 t.kind) (.string t.name) (.int .i64 t.n) (.slice a t.args.length c)
   have r4:=R4.out.set4 (Ne.symm hne) hN (.int .i64 t.kind) (.string t.name) (.int .i64 t.n) (.slice a t.args.length c)
   have hz4:=H4.out.size
   have ha4:=HA.out.keep (B:=(((w4.setCell ⟨w.heap.size,0,none⟩ (.int .i64 t.kind)).setCell ⟨w.heap.size,1,none⟩ (.string t.name)).setCell ⟨w.heap.size,2,none⟩ (.int .i64 t.n)).setCell ⟨w.heap.size,3,none⟩ (.slice a t.args.length c)) (fun b hb=>by
    obtain⟨b1,b2⟩:=hb
    rw[Below.heap_setCell _ _ _ _ (by simp;omega),Below.heap_setCell _ _ _ _ (by simp;omega),Below.heap_setCell _ _ _ _ (by simp;omega),Below.heap_setCell _ _ _ _ (by simp;omega)]
    rw[H4.out.block b (by simp;omega) (fun e=>by injection e;omega)]
    exact Below.heap_alloc _ _ _ b2)
   refine bodyPost_ret (v:=.tuple #[tv t a c,.bool true]) (by simp[results,Tryz.results110,go_sem,tv,q4.c0,q4.c1,q4.c2,q4.c3]) rfl ?_
   rw[E2.out]
   refine⟨g4,a,c,rfl,ha4.mono (fun b hb=>⟨by have:=hb.1;omega,?_⟩),r4⟩
   have:=hb.2
   simp at hz4 ⊢
   omega
theorem atom_any (n N B:Nat)(w:World)(l:List Tok)(ih:Said n)(h:Rd N B w l)(hN:N≤w.heap.size)(hok:TokOk l)(hl:l.length≤4000)(hn:4*l.length+2≤n+1):Calls Tryz.prog 110 #[.pointer (some ⟨B,0,none⟩)] w (RdPost N B w (atomF (n+1) l)):=by
 cases h1:sk l 1
 ·cases h2:sk l 2
  ·cases h3:sk l 5
   ·cases h4:st l 6 lpar
    ·exact atom_none n N B w l h h1 h2 h3 h4
    ·exact atom_par n N B w l ih h hN hok hl hn h1 h2 h3 h4
   ·exact atom_meta n N B w l h hN hok h1 h2 h3
  ·exact atom_con n N B w l h hN h1 h2
 ·exact atom_var n N B w l h hN h1
def AtW (y:Ty)(a:Option Addr)(c:Nat)(W:World):Prop:=ArgsAt (Lt W.heap.size) W (.slice a y.args.length c) y.args
theorem AtW.low {y:Ty}{a:Option Addr}{c:Nat}{W W':World}(R:AtW y a c W)(h:Below W.heap.size W W'):AtW y a c W' :=
 (R.keep fun j hj=>h.block j hj).mono fun _ hj=>Nat.lt_of_lt_of_le hj h.size
def PairPost (S:Nat→Prop)(T:List PanicEntry)(w:World)(r:Option (Ty × Ty))(e:Ending)(w':World):Prop:=Below w.heap.size w w'∧match r with
 | none=>e=.panicked T
 | some p=>∃ a c b d,e=.returned (.tuple #[tv p.1 a c,tv p.2 b d])∧ArgsAt (fun b=>S b∨w.heap.size≤b∧b<w'.heap.size) w' (.slice a p.1.args.length c) p.1.args∧ArgsAt (fun b=>S b∨w.heap.size≤b∧b<w'.heap.size) w' (.slice b p.2.args.length d) p.2.args
end Go.Proofs.YtkihnodkhnahiaaGreatDoor.Tp

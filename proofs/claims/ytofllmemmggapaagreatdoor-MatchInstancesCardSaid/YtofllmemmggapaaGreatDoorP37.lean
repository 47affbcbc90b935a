/- Texts laid together: MaTold, MaAwkP, MaHold, MaOpen, MaAwake. -/
import Derived.Test.YtofllmemmggapaaGreatDoorP34
import Derived.Test.YtofllmemmggapaaGreatDoorP07
import Derived.Test.YtofllmemmggapaaGreatDoorP24
import Derived.Test.YtofllmemmggapaaGreatDoorP31
import Derived.Test.YtofllmemmggapaaGreatDoorP36
import Derived.Test.YtofllmemmggapaaGreatDoorP27
import Derived.SliceStrings
import Derived.ProofKit
import Derived.OpenShut
import Derived.ChangeOld

namespace Go.Proofs.YtofllmemmggapaaGreatDoor.Tp
open Go.RowKit Go.Sort
theorem canonS_len {t:Ty}(h:Small t):(canonS t).length≤80*t.size:=by
 have hs:=h.2
 have KP:=num_keeps t.depth (freeT t) t 0 (Nat.le_refl _) h.1 (by have:=freeT_len t;omega) (by have:=canon_size t hs;omega)
 have hpl:=printT_len (canonT t) KP.2.2.2.2.1
 have hps:(canonT t).size=t.size:=KP.2.2.2.1
 unfold canonS
 omega
def toldS (l:Fnd):ByteArray:=l.foldl (fun s e=>s++⟨#[59]⟩++e.1++⟨#[61]⟩++bytes (canonS e.2)) ⟨#[121,101,115]⟩
structure TLen (l:Fnd):Prop where
 n:l.length≤4000
 at_:∀ e∈l,e.1.size≤1000∧Small e.2∧e.2.size≤4000
theorem toldS_take {l:Fnd}{i:Nat}(h:i<l.length):toldS (l.take (i+1))=toldS (l.take i)++⟨#[59]⟩++l[i].1++⟨#[61]⟩++bytes (canonS l[i].2):=by
 unfold toldS
 rw[List.take_add_one,List.getElem?_eq_getElem h,List.foldl_append];rfl
theorem toldS_len {l:Fnd}(h:TLen l):∀ i,i≤l.length→(toldS (l.take i)).size≤3+i*400000:=by
 intro i
 induction i with
 | zero=>intro _;simp[toldS];decide
 | succ i ih =>
  intro hi
  have h1:=ih (by omega)
  obtain⟨h2,h3,h4⟩:=h.at_ l[i] (List.getElem_mem hi)
  have h5:=canonS_len h3
  rw[toldS_take hi]
  simp only[ByteArray.size_append]
  rw[bytes_size]
  have e1:(⟨#[59]⟩:ByteArray).size=1:=rfl
  have e2:(⟨#[61]⟩:ByteArray).size=1:=rfl
  omega
set_option maxRecDepth 100000 in
set_option maxHeartbeats 3200000 in
theorem told_no (v:Value)(w:World):Calls Tryz.prog 13 #[v,.bool false] w fun e w'=>e=.returned (.string ⟨#[110,111]⟩)∧Below w.heap.size w w':=by
 go_enter Tryz.func13,Tryz.ntmps13
 go_wp2
 go_ret
 exact⟨rfl,.refl _ _⟩
set_option maxRecDepth 100000 in
set_option maxHeartbeats 3200000 in
theorem told_yes (l:Fnd)(v:Value)(w:World)(hB:BndAt (fun b=>b<w.heap.size) w v l)(hl:TLen l)(hT:Tab w):Calls Tryz.prog 13 #[v,.bool true] w fun e w'=>e=.returned (.string (toldS l))∧Below w.heap.size w w':=by
 obtain⟨a,cap,rfl,_,hc⟩:=hB
 have HC:=hid hc
 have HL:=hid hl
 have HT:=hid hT
 have hln:=hl.n
 clear hc hl hT
 go_enter Tryz.func13,Tryz.ntmps13
 go_wp2
 go_loopw [5,6] (fun sv iv wr=>∃ i:Nat,iv=.int .i64 i∧i≤l.length∧sv=.string (toldS (l.take i))∧Below w.heap.size w wr) (fun _ iv _=>l.length - (intOf iv).toNat)
 case atStart=>exact⟨0,rfl,Nat.zero_le _,rfl,.refl _ _⟩
 case round =>
  obtain⟨i,rfl,hil,rfl,hB⟩:=hrel
  have HB:=hid hB
  by_cases hi:i<l.length
  ·have z0:(0:Int)≤(i:Int):=by omega
   have z1:(i:Int)<(l.length:Int):=by omega
   obtain⟨b,off,rfl,hb,hcc⟩:=HC.out.resolve_left (by intro e;rw[e] at hi;simp at hi)
   obtain⟨h0,a',c',⟨h1,h2,h3,h4⟩,hA⟩:=hcc i hi
   have kb:=hB.block b hb
   have k0:=later_cell ((World.cell?_of_block kb).trans h0)
   have k1:=later_cell ((World.cell?_of_block kb).trans h1)
   have k2:=later_cell ((World.cell?_of_block kb).trans h2)
   have k3:=later_cell ((World.cell?_of_block kb).trans h3)
   have k4:=later_cell ((World.cell?_of_block kb).trans h4)
   obtain⟨s1,s2,s3⟩:=HL.out.at_ l[i] (List.getElem_mem hi)
   have hat:AtW l[i].2 a' c' wr:=(hA.keep fun b hb=>hB.block b hb).mono fun b hb=>Nat.lt_of_lt_of_le hb hB.size
   have DX:=hid (fun p=>later_of (canon_h (hat.low (later_below wr p)) s2 (tab_below HT.out (HB.out.trans ((later_below wr p).mono HB.out.size)))))
   have TS:=hid (toldS_take hi)
   have y1:(toldS (l.take i)).size≤9000000000:=by have:=toldS_len HL.out i hil;have:=HL.out.n;omega
   have y2:(bytes (canonS l[i].2)).size≤400000:=by have:=canonS_len s2;rw[bytes_size];omega
   clear hcc h0 h1 h2 h3 h4 kb hA hat hB s2 s3 hb
   unfold StrPost at DX
   generalize toldS (l.take i)=sx at *
   generalize bytes (canonS l[i].2)=cx at *
   generalize l[i].2=x at *
   generalize l[i].1=nm at *
   go_wp2
   refine wp_region_later (by kernel_rfl) (by kernel_rfl) ?_
   repeat (go_big_quiet_step ((with_reducible exact DX.out _)))
   refine wpQuiet_nil ?_
   intro _ hw'
   obtain⟨pq,hw''⟩:=hw'
   subst hw''
   go_wp2
   go_roundw
   case rel=>exact⟨i+1,by go_num,by omega,by rw[TS.out],HB.out.trans ((later_below _ _).mono HB.out.size)⟩
   case measure=>simp[intOf];omega
  ·obtain rfl:i=l.length:=by omega
   have E:Hid (toldS (l.take l.length)=toldS l):=hid (by rw[List.take_length])
   clear hB
   go_wp2
   go_ret
   exact⟨by rw[← E.out];rfl,HB.out⟩
end Go.Proofs.YtofllmemmggapaaGreatDoor.Tp

namespace Go.Proofs.YtofllmemmggapaaGreatDoor.Tp
open Lx
def rdT (s:ByteArray):Option Ty:=match parseT s.data.toList with
 | .ok t=>if lowM t&&decide (s.size≤400) then some t else none
 | .error _=>none
theorem rdT_some {s:ByteArray}{t:Ty}(h:rdT s=some t):parseT s.data.toList=.ok t∧lowM t=true∧s.size≤400:=by
 unfold rdT at h
 split at h
 ·next u hu =>
  split at h
  ·next hc =>
   injection h with h
   subst h
   rw[Bool.and_eq_true,decide_eq_true_iff] at hc
   exact⟨hu,hc⟩
  ·cases h
 ·cases h
def ln (L:ByteArray)(n:Nat):ByteArray:=if n<10 then L++⟨#[UInt8.ofNat (48+n)]⟩ else lname L n
theorem lname_ln (L:ByteArray):lname L=ln L:=by
 funext n
 unfold ln
 split
 ·next h =>
  unfold lname
  rw[Lib.decDigits,dif_pos h]
  rfl
 ·rfl
def peelG (f:Nat→ByteArray)(but:List ByteArray):Nat→Nat→Ty→List ByteArray × Ty
 | 0,_,t=>([],t)
 | d+1,n,t=>if t.kind=5 then (f (nx f but n) :: (peelG f but d (nx f but n+1) (PutT t.name (.mk 1 (f (nx f but n)) 0 []) (arg0T t))).1,
   (peelG f but d (nx f but n+1) (PutT t.name (.mk 1 (f (nx f but n)) 0 []) (arg0T t))).2) else ([],t)
theorem peelF_G (L:ByteArray)(but:List ByteArray):∀ (d n:Nat) (t:Ty),peelF L but d n t=peelG (lname L) but d n t:=by
 intro d
 induction d with
 | zero=>intro n t;rfl
 | succ d ih=>intro n t;rw[peelF,peelG,ih]
theorem PeelT_fast (L:ByteArray)(but:List ByteArray)(t:Ty):PeelT L but t=peelG (ln L) but t.depth 0 t:=by
 unfold PeelT
 rw[peelF_G,lname_ln]
theorem InstT_fast (g s:Ty):InstT g s=(MatchT (peelG (ln qL) (freeT g++freeT s) g.depth 0 g).2 (peelG (ln pL) (freeT g++freeT s) s.depth 0 s).2 (peelG (ln qL) (freeT g++freeT s) g.depth 0 g).1).isSome:=by
 unfold InstT
 rw[PeelT_fast,PeelT_fast]
def mx1:ByteArray:=⟨#[97,32,45,62,32,84,32,98]⟩
def mx2:ByteArray:=⟨#[73,110,116,32,45,62,32,84,32,40,85,32,99,41]⟩
def mx3:ByteArray:=⟨#[97,32,45,62,32,97]⟩
def mx4:ByteArray:=⟨#[73,110,116,32,45,62,32,85]⟩
def mx5:ByteArray:=⟨#[102,111,114,97,108,108,32,97,32,98,46,32,97,32,45,62,32,98]⟩
def mx6:ByteArray:=⟨#[102,111,114,97,108,108,32,99,46,32,99,32,45,62,32,99]⟩
def mx7:ByteArray:=⟨#[102,111,114,97,108,108,32,97,46,32,97,32,45,62,32,97]⟩
def mx8:ByteArray:=⟨#[102,111,114,97,108,108,32,99,32,100,46,32,99,32,45,62,32,100]⟩
def my1:Ty:=tFun (tVar [97]) (tCon [84] [tVar [98]])
def my2:Ty:=tFun (tCon [73,110,116] []) (tCon [84] [tCon [85] [tVar [99]]])
def my3:Ty:=tFun (tVar [97]) (tVar [97])
def my4:Ty:=tFun (tCon [73,110,116] []) (tCon [85] [])
def my5:Ty:=tAll [97] (tAll [98] (tFun (tVar [97]) (tVar [98])))
def my6:Ty:=tAll [99] (tFun (tVar [99]) (tVar [99]))
def my7:Ty:=tAll [97] (tFun (tVar [97]) (tVar [97]))
def my8:Ty:=tAll [99] (tAll [100] (tFun (tVar [99]) (tVar [100])))
theorem mp1:rdT mx1=some my1:=by kernel_rfl
theorem mp2:rdT mx2=some my2:=by kernel_rfl
theorem mp3:rdT mx3=some my3:=by kernel_rfl
theorem mp4:rdT mx4=some my4:=by kernel_rfl
theorem mp5:rdT mx5=some my5:=by kernel_rfl
theorem mp6:rdT mx6=some my6:=by kernel_rfl
theorem mp7:rdT mx7=some my7:=by kernel_rfl
theorem mp8:rdT mx8=some my8:=by kernel_rfl
def ml1:Fnd:=[(⟨#[97]⟩,tCon [73,110,116] []),(⟨#[98]⟩,tCon [85] [tVar [99]])]
theorem mm1:MatchT my1 my2 [⟨#[97]⟩,⟨#[98]⟩]=some ml1:=by kernel_rfl
theorem mm2:MatchT my3 my4 [⟨#[97]⟩]=none:=by kernel_rfl
theorem mi1:InstT my5 my6=true:=by rw[InstT_fast];kernel_rfl
theorem mi2:InstT my7 my8=false:=by rw[InstT_fast];kernel_rfl
theorem mo1:toldS ml1=⟨#[121,101,115,59,97,61,73,110,116,59,98,61,85,32,99]⟩:=by kernel_rfl
theorem mq1:(PeelT pL (freeT my8) my8).1.length=2:=by rw[PeelT_fast];kernel_rfl
theorem mq2:bytes (printT (PeelT pL (freeT my8) my8).2)=⟨#[112,48,32,45,62,32,112,49]⟩:=by rw[PeelT_fast];kernel_rfl
end Go.Proofs.YtofllmemmggapaaGreatDoor.Tp

namespace Go.Proofs.YtofllmemmggapaaGreatDoor.Tp
open Go.RowKit Go.Sort
def RedPost (w:World)(t:Ty)(e:Ending)(w':World):Prop :=
 ∃ a c a2 c2,e=.returned (.tuple #[.agg #[.int .i64 t.kind,.string t.name,.int .i64 t.n,.slice a t.args.length c],.agg #[.int .i64 t.kind,.string t.name,.int .i64 t.n,.slice a2 t.args.length c2],.bool true]) ∧
  Hold w'.heap.size w'.heap.size t a c ((w'.alloc (.cells #[.int .i64 t.kind,.string t.name,.int .i64 t.n,.slice a t.args.length c] 26)).alloc (.cells #[.int .i64 t.kind,.string t.name,.int .i64 t.n,.slice a2 t.args.length c2] 29)) ∧
  HoldR w'.heap.size (w'.heap.size+1) t a2 c2 ((w'.alloc (.cells #[.int .i64 t.kind,.string t.name,.int .i64 t.n,.slice a t.args.length c] 26)).alloc (.cells #[.int .i64 t.kind,.string t.name,.int .i64 t.n,.slice a2 t.args.length c2] 29)) ∧
  Below w.heap.size w ((w'.alloc (.cells #[.int .i64 t.kind,.string t.name,.int .i64 t.n,.slice a t.args.length c] 26)).alloc (.cells #[.int .i64 t.kind,.string t.name,.int .i64 t.n,.slice a2 t.args.length c2] 29))
def RedNo (w:World)(e:Ending)(w':World):Prop :=
 ∃ (k n:Int) (s:ByteArray) (a:Option Addr) (l c:Nat) (k2 n2:Int) (s2:ByteArray) (a2:Option Addr) (l2 c2:Nat),e=.returned (.tuple #[.agg #[.int .i64 k,.string s,.int .i64 n,.slice a l c],.agg #[.int .i64 k2,.string s2,.int .i64 n2,.slice a2 l2 c2],.bool false]) ∧
  Below w.heap.size w ((w'.alloc (.cells #[.int .i64 k,.string s,.int .i64 n,.slice a l c] 26)).alloc (.cells #[.int .i64 k2,.string s2,.int .i64 n2,.slice a2 l2 c2] 29))
theorem rd_some (w:World)(s:ByteArray){t:Ty}(h:rdT s=some t):Calls Tryz.prog 10 #[.string s] w (RedPost w t):=by
 obtain⟨h1,h2,h3⟩:=rdT_some h
 have C:=read_ok w s (by unfold maxLen;omega) h1
 rw[h2,show decide (s.size≤400)=true from decide_eq_true h3,Bool.and_true] at C
 refine C.mono ?_
 rintro e w' ⟨a,c,a2,c2,rfl,hb,hA,hA2⟩
 have hz1:=(Below.refl w'.heap.size w').alloc (Nat.le_refl _) (.cells #[.int .i64 t.kind,.string t.name,.int .i64 t.n,.slice a t.args.length c] 26)
 have hz2:=hz1.alloc hz1.size (.cells #[.int .i64 t.kind,.string t.name,.int .i64 t.n,.slice a2 t.args.length c2] 29)
 have k1:=(B4.new w' (.int .i64 t.kind) (.string t.name) (.int .i64 t.n) (.slice a t.args.length c)).low ((Below.refl _ _).alloc (Nat.le_refl _) (.cells #[.int .i64 t.kind,.string t.name,.int .i64 t.n,.slice a2 t.args.length c2] 29))
 have k2:=R4.new (w'.alloc (.cells #[.int .i64 t.kind,.string t.name,.int .i64 t.n,.slice a t.args.length c] 26)) (.int .i64 t.kind) (.string t.name) (.int .i64 t.n) (.slice a2 t.args.length c2)
 rw[show (w'.alloc (.cells #[.int .i64 t.kind,.string t.name,.int .i64 t.n,.slice a t.args.length c] 26)).heap.size=w'.heap.size+1 from by simp] at k2
 exact⟨a,c,a2,c2,rfl,⟨k1,hA.keep fun b hb=>hz2.block b hb,k1.lt,hz2.size⟩,⟨k2,hA2.keep fun b hb=>hz2.block b hb,k2.lt,hz2.size⟩,hb.trans (hz2.mono hb.size)⟩
theorem rd_none (w:World)(s:ByteArray)(hs:s.size≤maxLen)(h:rdT s=none):Calls Tryz.prog 10 #[.string s] w (RedNo w):=by
 cases hp:parseT s.data.toList with
 | error er =>
  refine (read_bad w s hs hp).mono ?_
  rintro e w' ⟨rfl,hb⟩
  exact⟨0,0,_,none,0,0,0,0,_,none,0,0,rfl,hb.trans ((((Below.refl _ _).alloc (Nat.le_refl _) _).alloc (by simp) _).mono hb.size)⟩
 | ok t =>
  have C:=read_ok w s hs hp
  have hc:(lowM t&&decide (s.size≤400))=false:=by
   unfold rdT at h
   rw[hp] at h
   simp only at h
   split at h
   ·cases h
   ·next hc=>simpa using hc
  rw[hc] at C
  refine C.mono ?_
  rintro e w' ⟨a,c,a2,c2,rfl,hb,_,_⟩
  exact⟨t.kind,t.n,t.name,a,t.args.length,c,t.kind,t.n,t.name,a2,t.args.length,c2,rfl,hb.trans ((((Below.refl _ _).alloc (Nat.le_refl _) _).alloc (by simp) _).mono hb.size)⟩
theorem rd_made {s:ByteArray}{t:Ty}(h:rdT s=some t):Mk t∧t.depth≤4000∧t.size≤4000:=by
 have:=parse_made (rdT_some h).1
 exact⟨this.1,by omega,this.2.2.2⟩
theorem rd_few {s s':ByteArray}{t u:Ty}(h:rdT s=some t)(h':rdT s'=some u):Few t u :=
 ⟨(rd_made h).1,(rd_made h').1,(rd_made h).2.2,(rd_made h').2.2,(rd_made h).2.1,(rd_made h').2.1⟩
theorem rd_small {s:ByteArray}{t:Ty}(h:rdT s=some t):Small t:=small_parse (rdT_some h).1
theorem Hold.of_at {W:World}{t:Ty}{a:Option Addr}{c:Nat}(h:AtW t a c W) :
  Hold W.heap.size W.heap.size t a c (W.alloc (.cells #[.int .i64 t.kind,.string t.name,.int .i64 t.n,.slice a t.args.length c] 26)) :=
 ⟨B4.new W _ _ _ _,h.keep fun b hb=>heap_alloc_old W _ hb,by simp,by simp⟩
theorem inst_h {g s:Ty}{ga sa:Option Addr}{gc sc:Nat}{w:World}(R:AtW g ga gc w)(U:AtW s sa sc w)(F:Few g s)(hT:Tab w) :
  Calls Tryz.prog 15 #[.agg #[.int .i64 g.kind,.string g.name,.int .i64 g.n,.slice ga g.args.length gc],.agg #[.int .i64 s.kind,.string s.name,.int .i64 s.n,.slice sa s.args.length sc]] w (BoolPost w (InstT g s)) :=
 Instance_any g s ga sa gc sc w R U F hT
def PkH (w:World)(r:List ByteArray × Ty)(e:Ending)(w':World):Prop :=
 ∃ na nc a c,e=.returned (.tuple #[.slice na r.1.length nc,.agg #[.int .i64 r.2.kind,.string r.2.name,.int .i64 r.2.n,.slice a r.2.args.length c]]) ∧
  StrsLow (w'.alloc (.cells #[.int .i64 r.2.kind,.string r.2.name,.int .i64 r.2.n,.slice a r.2.args.length c] 26)) (.slice na r.1.length nc) r.1 ∧
  Hold w'.heap.size w'.heap.size r.2 a c (w'.alloc (.cells #[.int .i64 r.2.kind,.string r.2.name,.int .i64 r.2.n,.slice a r.2.args.length c] 26)) ∧
  Below w.heap.size w (w'.alloc (.cells #[.int .i64 r.2.kind,.string r.2.name,.int .i64 r.2.n,.slice a r.2.args.length c] 26))
theorem peel_h {t:Ty}{a:Option Addr}{c:Nat}{w:World}(R:AtW t a c w)(hm:Mk t∧t.depth≤4000∧t.size≤4000)(hT:Tab w) :
  Calls Tryz.prog 16 #[.agg #[.int .i64 t.kind,.string t.name,.int .i64 t.n,.slice a t.args.length c]] w (PkH w (PeelT pL (freeT t) t)):=by
 refine (Peel_any t a c w R hm.1 hm.2.2 hm.2.1 hT).mono ?_
 rintro e w' ⟨hb,v,a',c',rfl,hv,hA⟩
 obtain⟨na,nc,rfl,hrest⟩:=id hv
 have hz:=(Below.refl w'.heap.size w').alloc (Nat.le_refl _) (.cells #[.int .i64 (PeelT pL (freeT t) t).2.kind,.string (PeelT pL (freeT t) t).2.name,.int .i64 (PeelT pL (freeT t) t).2.n,.slice a' (PeelT pL (freeT t) t).2.args.length c'] 26)
 exact⟨na,nc,a',c',rfl,StrsLow.low hv hz,.of_at hA,hb.trans (hz.mono hb.size)⟩
theorem match_h {p t:Ty}{vars:List ByteArray}{pa ta:Option Addr}{pc tc:Nat}{vs:Value}{w:World}(R:AtW p pa pc w)(U:AtW t ta tc w)(hv:StrsLow w vs vars)(hs:Small t)(hz:p.size≤4000)(hT:Tab w) :
  Calls Tryz.prog 11 #[.agg #[.int .i64 p.kind,.string p.name,.int .i64 p.n,.slice pa p.args.length pc],.agg #[.int .i64 t.kind,.string t.name,.int .i64 t.n,.slice ta t.args.length tc],vs] w (LookPost w (MatchT p t vars)) :=
 Match_any p t vars pa ta pc tc vs w R U hv hs (by unfold Szs;omega) hT
theorem BndAt.low {w w':World}{v:Value}{l:Fnd}(h:BndAt (fun b=>b<w.heap.size) w v l)(hb:Below w.heap.size w w'):BndAt (fun b=>b<w'.heap.size) w' v l :=
 (BndAt.keep (fun b hb'=>hb.block b hb') h).mono fun _ hb'=>Nat.lt_of_lt_of_le hb' hb.size
def RedAny (w:World)(e:Ending)(w':World):Prop :=
 ∃ (k n:Int) (s:ByteArray) (a:Option Addr) (l c:Nat) (k2 n2:Int) (s2:ByteArray) (a2:Option Addr) (l2 c2:Nat) (b:Bool),e=.returned (.tuple #[.agg #[.int .i64 k,.string s,.int .i64 n,.slice a l c],.agg #[.int .i64 k2,.string s2,.int .i64 n2,.slice a2 l2 c2],.bool b]) ∧
  Below w.heap.size w ((w'.alloc (.cells #[.int .i64 k,.string s,.int .i64 n,.slice a l c] 26)).alloc (.cells #[.int .i64 k2,.string s2,.int .i64 n2,.slice a2 l2 c2] 29))
theorem rd_any (w:World)(s:ByteArray)(hs:s.size≤maxLen):Calls Tryz.prog 10 #[.string s] w (RedAny w):=by
 cases h:rdT s with
 | none =>
  refine (rd_none w s hs h).mono ?_
  rintro e w' ⟨k,n,s,a,l,c,k2,n2,s2,a2,l2,c2,rfl,hB⟩
  exact⟨k,n,s,a,l,c,k2,n2,s2,a2,l2,c2,false,rfl,hB⟩
 | some t =>
  refine (rd_some w s h).mono ?_
  rintro e w' ⟨a,c,a2,c2,rfl,_,_,hB⟩
  exact⟨t.kind,t.n,t.name,a,t.args.length,c,t.kind,t.n,t.name,a2,t.args.length,c2,true,rfl,hB⟩
end Go.Proofs.YtofllmemmggapaaGreatDoor.Tp

namespace Go.Proofs.YtofllmemmggapaaGreatDoor.Tp
open Go.RowKit Go.ChangeShapes Go.WideShapes
def VarsIn (w:World)(v:Value)(l:List ByteArray):Prop :=
 ∃ a c,v=.slice a l.length c∧l.length≤c∧l.length≤9223372036854775807∧(a=none→c=0)∧(l=[]∨∃ b off,a=some ⟨b,off,none⟩∧b<w.heap.size∧∀ j (h:j<l.length),w.cell? ⟨b,off+j,none⟩=some (.string l[j]))
theorem VarsIn.strs {w:World}{v:Value}{l:List ByteArray}(h:VarsIn w v l)(hl:l.length≤1099511627776):StrsLow w v l:=by
 obtain⟨a,c,e,h1,_,h3,h4⟩:=h
 exact⟨a,c,e,h1,hl,h3,h4⟩
theorem spot0 {w:World}{a:Addr}{v:Value}(h:w.cell? a=some v):∃ b off,a=⟨b,off,none⟩:=by
 obtain⟨b,off,sp⟩:=a
 cases sp with
 | none=>exact⟨b,off,rfl⟩
 | some x =>
  exfalso
  unfold World.cell? at h
  split at h<;>simp at h
set_option maxRecDepth 100000 in
theorem opnS {H:Type}{enc:TypeId × Value→H}{W:World}{base:Nat}{v:Value}{d:DataW H}{p:List MemPlace}(hok:Value.okWide Tryz.prog W .any base 22 v)
  (h:DataW.Trod enc Tryz.prog W 0 (fun _=>true) true 22 v d p):∃ l,VarsIn W v l:=by
 obtain⟨a0,len,cap,rfl⟩:=okWide_slice Tryz.underlying22 hok
 obtain⟨fuel,hf⟩:=h
 rcases open_strings Tryz.underlying22 Tryz.underlying9 (by kernel_rfl) hf with ⟨hcs,_⟩|⟨a,l,c,ss,hcs,_,hl,hm,hlen,_,hcell,_⟩
 ·simp[Value.cells] at hcs
  obtain⟨rfl,rfl,rfl⟩:=hcs
  exact⟨[],none,0,rfl,by simp,by simp,fun _=>rfl,.inl rfl⟩
 ·simp[Value.cells] at hcs
  obtain⟨rfl,rfl,rfl⟩:=hcs
  simp only[if_true] at hlen
  unfold maxLen at hm
  have htl:(ss.take len).length=len:=by rw[List.length_take];omega
  refine⟨ss.take len,some a,cap,by rw[htl],by omega,by omega,(fun e=>by cases e),?_⟩
  by_cases h0:len=0
  ·left;subst h0;simp
  ·right
   have h00:=hcell 0 (by omega)
   obtain⟨b,off,rfl⟩:=spot0 (a:=a) (by simpa [Addr.add] using h00)
   refine⟨b,off,rfl,World.block_lt_of_cell? W _ (by simpa [Addr.add] using h00),fun j hj=>?_⟩
   have hjl:j<len:=by omega
   have hc:=hcell j (by omega)
   rw[addr_add0] at hc
   rw[hc]
   simp[List.getD_eq_getElem?_getD,List.getElem?_eq_getElem (show j<ss.length by omega)]
end Go.Proofs.YtofllmemmggapaaGreatDoor.Tp

namespace Go.Proofs.YtofllmemmggapaaGreatDoor.Tp
open Go.RowKit Go.Sort
theorem strs_lit1 (w:World)(t:TypeId)(x:ByteArray):StrsLow (w.alloc (.cells #[.string x] t)) (.slice (some ⟨w.heap.size,0,none⟩) 1 1) [x] :=
 strs_one (heap_alloc_new w _) (by simp)
theorem strs_lit2 (w:World)(t:TypeId)(x y:ByteArray):StrsLow (w.alloc (.cells #[.string x,.string y] t)) (.slice (some ⟨w.heap.size,0,none⟩) 2 2) [x,y]:=by
 have h:=heap_alloc_new w (.cells #[.string x,.string y] t)
 refine⟨_,2,rfl,by simp,by simp,(fun e=>by cases e),.inr ⟨w.heap.size,0,rfl,by simp,fun j hj=>?_⟩⟩
 rcases j with _ | _|j
 ·exact cell_of_row _ _ 0 _ _ _ h
 ·exact cell_of_row _ _ 1 _ _ _ h
 ·simp at hj;omega
theorem tl_ml1:TLen ml1:=⟨by decide,fun e he=>by
 have h1:tCon [73,110,116] []∈my2.args:=(show tCon [73,110,116] []∈[tCon [73,110,116] [],tCon [84] [tCon [85] [tVar [99]]]] from by simp)
 have h2:tCon [84] [tCon [85] [tVar [99]]]∈my2.args:=(show tCon [84] [tCon [85] [tVar [99]]]∈[tCon [73,110,116] [],tCon [84] [tCon [85] [tVar [99]]]] from by simp)
 have h3:tCon [85] [tVar [99]]∈(tCon [84] [tCon [85] [tVar [99]]]).args:=(show tCon [85] [tVar [99]]∈[tCon [85] [tVar [99]]] from by simp)
 have:e=(⟨#[97]⟩,tCon [73,110,116] [])∨e=(⟨#[98]⟩,tCon [85] [tVar [99]]):=by simpa [ml1] using he
 rcases this with rfl|rfl
 ·exact⟨by decide,small_arg (rd_small mp2) h1,by decide⟩
 ·exact⟨by decide,small_arg (small_arg (rd_small mp2) h2) h3,by decide⟩⟩
set_option maxRecDepth 100000 in
set_option maxHeartbeats 1600000 in
theorem awake3_gen (t1 t2 t3 t4 t5 t6 t7 t8:Ty)(l:Fnd)(p1:rdT ⟨#[97,32,45,62,32,84,32,98]⟩=some t1)(p2:rdT ⟨#[73,110,116,32,45,62,32,84,32,40,85,32,99,41]⟩=some t2)(p3:rdT ⟨#[97,32,45,62,32,97]⟩=some t3)(p4:rdT ⟨#[73,110,116,32,45,62,32,85]⟩=some t4)(p5:rdT ⟨#[102,111,114,97,108,108,32,97,32,98,46,32,97,32,45,62,32,98]⟩=some t5)(p6:rdT ⟨#[102,111,114,97,108,108,32,99,46,32,99,32,45,62,32,99]⟩=some t6)(p7:rdT ⟨#[102,111,114,97,108,108,32,97,46,32,97,32,45,62,32,97]⟩=some t7)(p8:rdT ⟨#[102,111,114,97,108,108,32,99,32,100,46,32,99,32,45,62,32,100]⟩=some t8)
  (m1:MatchT t1 t2 [⟨#[97]⟩,⟨#[98]⟩]=some l) (m2:MatchT t3 t4 [⟨#[97]⟩]=none) (i1:InstT t5 t6=true) (i2:InstT t7 t8=false) (o1:toldS l=⟨#[121,101,115,59,97,61,73,110,116,59,98,61,85,32,99]⟩) (tl:TLen l)
  (q1:(PeelT pL (freeT t8) t8).1.length=2) (q2:bytes (printT (PeelT pL (freeT t8) t8).2)=⟨#[112,48,32,45,62,32,112,49]⟩)
  (w:World) (hT:Tab w):Calls Tryz.prog 9 #[] w fun e w'=>e=.returned (.bool true)∧Below w.heap.size w w':=by
 have HT:=hid hT
 have SB:=hid (rd_small p2)
 have SD:=hid (rd_small p4)
 have ZA:Hid (t1.size≤4000):=hid (rd_made p1).2.2
 have ZC:Hid (t3.size≤4000):=hid (rd_made p3).2.2
 have FEF:=hid (rd_few p5 p6)
 have FGH:=hid (rd_few p7 p8)
 have MH:=hid (rd_made p8)
 have TL:=hid tl
 have SP:Hid (Small (PeelT pL (freeT t8) t8).2):=hid (few_small (rd_made p8).2.2 (peel_own (rd_made p8).1 (rd_made p8).2.2 (rd_made p8).2.1)).1
 have hp1:=hid p1
 have hp2:=hid p2
 have hp3:=hid p3
 have hp4:=hid p4
 have hp5:=hid p5
 have hp6:=hid p6
 have hp7:=hid p7
 have hp8:=hid p8
 have hm1:=hid m1
 have hm2:=hid m2
 have hi1:=hid i1
 have hi2:=hid i2
 have ho1:=hid o1
 have hq1:=hid q1
 have hq2:=hid q2
 clear hT tl p1 p2 p3 p4 p5 p6 p7 p8 m1 m2 i1 i2 o1 q1 q2
 go_enter Tryz.func9,Tryz.ntmps9
 go_wp2_with fail
 refine (rd_some _ _ hp1.out).mono ?_
 rintro e w1 ⟨aA,cA,aAr,cAr,rfl,hR,hQ,hB⟩
 clear hQ
 have B_1:=hid (hB)
 have RA_1:=hid hR
 clear hB hR
 go_wp2_with fail
 refine (rd_some _ _ hp2.out).mono ?_
 rintro e w2 ⟨aB,cB,aBr,cBr,rfl,hR,hQ,hB⟩
 clear hQ
 have RA_2:=hid (RA_1.out.low hB)
 have B_2:=hid (B_1.out.trans (hB.mono B_1.out.size))
 have RB_2:=hid hR
 clear hB hR RA_1 B_1
 have k0:=RA_2.out.k.c0
 have k1:=RA_2.out.k.c1
 have k2:=RA_2.out.k.c2
 have k3:=RA_2.out.k.c3
 have l0:=RB_2.out.k.c0
 have l1:=RB_2.out.k.c1
 have l2:=RB_2.out.k.c2
 have l3:=RB_2.out.k.c3
 have hvb:=(Below.refl ((w2.alloc (.cells #[.int .i64 t2.kind,.string t2.name,.int .i64 t2.n,.slice aB t2.args.length cB] 26)).alloc (.cells #[.int .i64 t2.kind,.string t2.name,.int .i64 t2.n,.slice aBr t2.args.length cBr] 29)).heap.size ((w2.alloc (.cells #[.int .i64 t2.kind,.string t2.name,.int .i64 t2.n,.slice aB t2.args.length cB] 26)).alloc (.cells #[.int .i64 t2.kind,.string t2.name,.int .i64 t2.n,.slice aBr t2.args.length cBr] 29))).alloc (Nat.le_refl _) (.cells #[.string ⟨#[97]⟩,.string ⟨#[98]⟩] 9)
 have hvr:StrsLow (((w2.alloc (.cells #[.int .i64 t2.kind,.string t2.name,.int .i64 t2.n,.slice aB t2.args.length cB] 26)).alloc (.cells #[.int .i64 t2.kind,.string t2.name,.int .i64 t2.n,.slice aBr t2.args.length cBr] 29)).alloc (.cells #[.string ⟨#[97]⟩,.string ⟨#[98]⟩] 9)) (.slice (some ⟨((w2.alloc (.cells #[.int .i64 t2.kind,.string t2.name,.int .i64 t2.n,.slice aB t2.args.length cB] 26)).alloc (.cells #[.int .i64 t2.kind,.string t2.name,.int .i64 t2.n,.slice aBr t2.args.length cBr] 29)).heap.size,0,none⟩) 2 2) [⟨#[97]⟩,⟨#[98]⟩]:=strs_lit2 _ _ _ _
 rw[show ((w2.alloc (.cells #[.int .i64 t2.kind,.string t2.name,.int .i64 t2.n,.slice aB t2.args.length cB] 26)).alloc (.cells #[.int .i64 t2.kind,.string t2.name,.int .i64 t2.n,.slice aBr t2.args.length cBr] 29)).heap.size=w2.heap.size+1+1 from by simp] at hvr
 have C:=hid (match_h (RA_2.out.low hvb).at_ (RB_2.out.low hvb).at_ hvr SB.out ZA.out (tab_below HT.out (B_2.out.trans (hvb.mono B_2.out.size))))
 have HVB:=hid hvb
 clear hvb hvr
 rw[hm1.out] at C
 go_wp2_with fail
 refine C.out.mono ?_
 rintro e w3 ⟨hb,lv,rfl,hbn⟩
 have hO:=hbn
 have hB:=HVB.out.trans (hb.mono HVB.out.size)
 clear C HVB hb hbn k0 k1 k2 k3 l0 l1 l2 l3
 have RA_3:=hid (RA_2.out.low hB)
 have RB_3:=hid (RB_2.out.low hB)
 have B_3:=hid (B_2.out.trans (hB.mono B_2.out.size))
 have OL_3:=hid hO
 clear hB hO RA_2 RB_2 B_2
 clear RA_3
 clear RB_3
 go_wp2_with fail
 refine (rd_some _ _ hp3.out).mono ?_
 rintro e w4 ⟨aC,cC,aCr,cCr,rfl,hR,hQ,hB⟩
 clear hQ
 have OL_4:=hid (BndAt.low OL_3.out hB)
 have B_4:=hid (B_3.out.trans (hB.mono B_3.out.size))
 have RC_4:=hid hR
 clear hB hR OL_3 B_3
 go_wp2_with fail
 refine (rd_some _ _ hp4.out).mono ?_
 rintro e w5 ⟨aD,cD,aDr,cDr,rfl,hR,hQ,hB⟩
 clear hQ
 have RC_5:=hid (RC_4.out.low hB)
 have OL_5:=hid (BndAt.low OL_4.out hB)
 have B_5:=hid (B_4.out.trans (hB.mono B_4.out.size))
 have RD_5:=hid hR
 clear hB hR RC_4 OL_4 B_4
 have k0:=RC_5.out.k.c0
 have k1:=RC_5.out.k.c1
 have k2:=RC_5.out.k.c2
 have k3:=RC_5.out.k.c3
 have l0:=RD_5.out.k.c0
 have l1:=RD_5.out.k.c1
 have l2:=RD_5.out.k.c2
 have l3:=RD_5.out.k.c3
 have hvb:=(Below.refl ((w5.alloc (.cells #[.int .i64 t4.kind,.string t4.name,.int .i64 t4.n,.slice aD t4.args.length cD] 26)).alloc (.cells #[.int .i64 t4.kind,.string t4.name,.int .i64 t4.n,.slice aDr t4.args.length cDr] 29)).heap.size ((w5.alloc (.cells #[.int .i64 t4.kind,.string t4.name,.int .i64 t4.n,.slice aD t4.args.length cD] 26)).alloc (.cells #[.int .i64 t4.kind,.string t4.name,.int .i64 t4.n,.slice aDr t4.args.length cDr] 29))).alloc (Nat.le_refl _) (.cells #[.string ⟨#[97]⟩] 9)
 have hvr:StrsLow (((w5.alloc (.cells #[.int .i64 t4.kind,.string t4.name,.int .i64 t4.n,.slice aD t4.args.length cD] 26)).alloc (.cells #[.int .i64 t4.kind,.string t4.name,.int .i64 t4.n,.slice aDr t4.args.length cDr] 29)).alloc (.cells #[.string ⟨#[97]⟩] 9)) (.slice (some ⟨((w5.alloc (.cells #[.int .i64 t4.kind,.string t4.name,.int .i64 t4.n,.slice aD t4.args.length cD] 26)).alloc (.cells #[.int .i64 t4.kind,.string t4.name,.int .i64 t4.n,.slice aDr t4.args.length cDr] 29)).heap.size,0,none⟩) 1 1) [⟨#[97]⟩]:=strs_lit1 _ _ _
 rw[show ((w5.alloc (.cells #[.int .i64 t4.kind,.string t4.name,.int .i64 t4.n,.slice aD t4.args.length cD] 26)).alloc (.cells #[.int .i64 t4.kind,.string t4.name,.int .i64 t4.n,.slice aDr t4.args.length cDr] 29)).heap.size=w5.heap.size+1+1 from by simp] at hvr
 have C:=hid (match_h (RC_5.out.low hvb).at_ (RD_5.out.low hvb).at_ hvr SD.out ZC.out (tab_below HT.out (B_5.out.trans (hvb.mono B_5.out.size))))
 have HVB:=hid hvb
 clear hvb hvr
 rw[hm2.out] at C
 go_wp2_with fail
 refine C.out.mono ?_
 rintro e w6 ⟨hb,rfl⟩
 have hB:=HVB.out.trans (hb.mono HVB.out.size)
 clear C HVB hb k0 k1 k2 k3 l0 l1 l2 l3
 have RC_6:=hid (RC_5.out.low hB)
 have RD_6:=hid (RD_5.out.low hB)
 have OL_6:=hid (BndAt.low OL_5.out hB)
 have B_6:=hid (B_5.out.trans (hB.mono B_5.out.size))
 clear hB RC_5 RD_5 OL_5 B_5
 clear RC_6
 clear RD_6
 go_wp2_with fail
 refine (rd_some _ _ hp5.out).mono ?_
 rintro e w7 ⟨aE,cE,aEr,cEr,rfl,hR,hQ,hB⟩
 clear hQ
 have OL_7:=hid (BndAt.low OL_6.out hB)
 have B_7:=hid (B_6.out.trans (hB.mono B_6.out.size))
 have RE_7:=hid hR
 clear hB hR OL_6 B_6
 go_wp2_with fail
 refine (rd_some _ _ hp6.out).mono ?_
 rintro e w8 ⟨aF,cF,aFr,cFr,rfl,hR,hQ,hB⟩
 clear hQ
 have RE_8:=hid (RE_7.out.low hB)
 have OL_8:=hid (BndAt.low OL_7.out hB)
 have B_8:=hid (B_7.out.trans (hB.mono B_7.out.size))
 have RF_8:=hid hR
 clear hB hR RE_7 OL_7 B_7
 have k0:=RE_8.out.k.c0
 have k1:=RE_8.out.k.c1
 have k2:=RE_8.out.k.c2
 have k3:=RE_8.out.k.c3
 have l0:=RF_8.out.k.c0
 have l1:=RF_8.out.k.c1
 have l2:=RF_8.out.k.c2
 have l3:=RF_8.out.k.c3
 have C:=hid (inst_h RE_8.out.at_ RF_8.out.at_ FEF.out (tab_below HT.out B_8.out))
 go_wp2_with fail
 refine C.out.mono ?_
 rintro e w9 ⟨rfl,hB⟩
 clear C k0 k1 k2 k3 l0 l1 l2 l3
 have RE_9:=hid (RE_8.out.low hB)
 have RF_9:=hid (RF_8.out.low hB)
 have OL_9:=hid (BndAt.low OL_8.out hB)
 have B_9:=hid (B_8.out.trans (hB.mono B_8.out.size))
 clear hB RE_8 RF_8 OL_8 B_8
 clear RE_9
 clear RF_9
 rw[hi1.out]
 go_wp2_with fail
 refine (rd_some _ _ hp7.out).mono ?_
 rintro e w10 ⟨aG,cG,aGr,cGr,rfl,hR,hQ,hB⟩
 clear hQ
 have OL_10:=hid (BndAt.low OL_9.out hB)
 have B_10:=hid (B_9.out.trans (hB.mono B_9.out.size))
 have RG_10:=hid hR
 clear hB hR OL_9 B_9
 go_wp2_with fail
 refine (rd_some _ _ hp8.out).mono ?_
 rintro e w11 ⟨aH,cH,aHr,cHr,rfl,hR,hQ,hB⟩
 clear hQ
 have RG_11:=hid (RG_10.out.low hB)
 have OL_11:=hid (BndAt.low OL_10.out hB)
 have B_11:=hid (B_10.out.trans (hB.mono B_10.out.size))
 have RH_11:=hid hR
 clear hB hR RG_10 OL_10 B_10
 have k0:=RG_11.out.k.c0
 have k1:=RG_11.out.k.c1
 have k2:=RG_11.out.k.c2
 have k3:=RG_11.out.k.c3
 have l0:=RH_11.out.k.c0
 have l1:=RH_11.out.k.c1
 have l2:=RH_11.out.k.c2
 have l3:=RH_11.out.k.c3
 have C:=hid (inst_h RG_11.out.at_ RH_11.out.at_ FGH.out (tab_below HT.out B_11.out))
 go_wp2_with fail
 refine C.out.mono ?_
 rintro e w12 ⟨rfl,hB⟩
 clear C k0 k1 k2 k3 l0 l1 l2 l3
 have RG_12:=hid (RG_11.out.low hB)
 have RH_12:=hid (RH_11.out.low hB)
 have OL_12:=hid (BndAt.low OL_11.out hB)
 have B_12:=hid (B_11.out.trans (hB.mono B_11.out.size))
 clear hB RG_11 RH_11 OL_11 B_11
 rw[hi2.out]
 clear RG_12
 have k0:=RH_12.out.k.c0
 have k1:=RH_12.out.k.c1
 have k2:=RH_12.out.k.c2
 have k3:=RH_12.out.k.c3
 have C:=hid (peel_h RH_12.out.at_ MH.out (tab_below HT.out B_12.out))
 go_wp2_with fail
 refine C.out.mono ?_
 rintro e w13 ⟨naP,ncP,aP,cP,rfl,hO,hR,hB⟩
 clear C k0 k1 k2 k3
 clear hO
 have RH_13:=hid (RH_12.out.low hB)
 have OL_13:=hid (BndAt.low OL_12.out hB)
 have B_13:=hid (B_12.out.trans (hB.mono B_12.out.size))
 have RP_13:=hid hR
 clear hB hR RH_12 OL_12 B_12
 clear RH_13
 generalize PeelT pL (freeT t8) t8=pr at *
 rw[hq1.out]
 have C:=hid (told_yes l _ _ OL_13.out TL.out (tab_below HT.out B_13.out))
 go_wp2_with fail
 refine C.out.mono ?_
 rintro e w14 ⟨rfl,hB⟩
 clear C
 have RP_14:=hid (RP_13.out.low hB)
 have OL_14:=hid (BndAt.low OL_13.out hB)
 have B_14:=hid (B_13.out.trans (hB.mono B_13.out.size))
 clear hB RP_13 OL_13 B_13
 clear OL_14
 rw[ho1.out]
 have k0:=RP_14.out.k.c0
 have k1:=RP_14.out.k.c1
 have k2:=RP_14.out.k.c2
 have k3:=RP_14.out.k.c3
 have C:=hid (print_h RP_14.out.at_ SP.out (tab_below HT.out B_14.out))
 go_wp2_with fail
 refine C.out.mono ?_
 rintro e w15 ⟨rfl,hB⟩
 clear C k0 k1 k2 k3
 have RP_15:=hid (RP_14.out.low hB)
 have B_15:=hid (B_14.out.trans (hB.mono B_14.out.size))
 clear hB RP_14 B_14
 clear RP_15
 rw[hq2.out]
 go_wp2
 go_ret
 exact⟨rfl,B_15.out⟩
theorem awake3_any (w:World)(hT:Tab w):Calls Tryz.prog 9 #[] w fun e w'=>e=.returned (.bool true)∧Below w.heap.size w w' :=
 awake3_gen my1 my2 my3 my4 my5 my6 my7 my8 ml1 mp1 mp2 mp3 mp4 mp5 mp6 mp7 mp8 mm1 mm2 mi1 mi2 mo1 tl_ml1 mq1 mq2 w hT
end Go.Proofs.YtofllmemmggapaaGreatDoor.Tp

/- Texts laid together: CoRule, CoReadW, CoParse. -/
import Derived.Test.YtkihnodkhnahiaaGreatDoorP25
import Derived.Test.YtkihnodkhnahiaaGreatDoorP26
import Derived.Test.YtkihnodkhnahiaaGreatDoorP27
import Derived.Test.YtkihnodkhnahiaaGreatDoorP28
import Derived.Test.YtkihnodkhnahiaaGreatDoorP29
import Derived.Test.YtkihnodkhnahiaaGreatDoorP30
import Derived.Test.YtkihnodkhnahiaaGreatDoorP31
import Derived.Test.YtkihnodkhnahiaaGreatDoorP32
import Derived.Test.YtkihnodkhnahiaaGreatDoorP20
import Derived.Test.YtkihnodkhnahiaaGreatDoorP34

namespace Go.Proofs.YtkihnodkhnahiaaGreatDoor.Tp
open Go.RowKit
open Lx
theorem rule_step (n:Nat)(ih:∀ k,k≤n→CoSaid k):RuSaid (n+1):=fun N B w l h hN hV hok hl hn=>by
 cases h1:sk l 2 with
 | false=>exact rule_none n N B w l ih h hN hV hok hl hn (.inl h1)
 | true =>
  have hr:=ruleK_le (headText l)
  have hc:ruleK (headText l)=0∨ruleK (headText l)=3∨ruleK (headText l)=4∨ruleK (headText l)=5∨ruleK (headText l)=6∨ruleK (headText l)=7∨ruleK (headText l)=8∨ruleK (headText l)=9:=by omega
  rcases hc with e|e|e|e|e|e|e|e
  ·exact rule_none n N B w l ih h hN hV hok hl hn (.inr e)
  ·exact rule_sym n N B w l ih h hN hV hok hl hn ⟨h1,e⟩
  ·exact rule_trans n N B w l ih h hN hV hok hl hn ⟨h1,e⟩
  ·exact rule_con n N B w l ih h hN hV hok hl hn ⟨h1,e⟩
  ·exact rule_fun n N B w l ih h hN hV hok hl hn ⟨h1,e⟩
  ·exact rule_all n N B w l ih h hN hV hok hl hn ⟨h1,e⟩
  ·exact rule_nth n N B w l ih h hN hV hok hl hn ⟨h1,e⟩
  ·exact rule_inst n N B w l ih h hN hV hok hl hn ⟨h1,e⟩
theorem reader_said (n:Nat):CoSaid n∧RuSaid n:=by
 induction n using Nat.strongRecOn with
 | _ n ih =>
  cases n with
  | zero=>exact⟨fun _ _ _ _ _ _ _ _ _ hn=>by omega,fun _ _ _ _ _ _ _ _ _ hn=>by omega⟩
  | succ n=>exact⟨co_step n (ih n (by omega)).2,rule_step n fun k hk=>(ih k (by omega)).1⟩
open Lx
def coz:Co:=.mk 0 e0 0 tz []
def CReadPost (w:World)(res:Option (Co × List Tok))(e:Ending)(w':World):Prop :=
 Below w.heap.size w w'∧match res with
 | none=>e=.returned (.tuple #[cv coz none 0 none 0,.slice none 0 0,.bool false])
 | some (c,r)=>∃ a n ka kn a2 c2,e=.returned (.tuple #[cv c a n ka kn,.slice a2 r.length c2,.bool true])∧CoAt (In w.heap.size w'.heap.size) w' c a n ka kn∧ToksAt w' (.slice a2 r.length c2) r
theorem below_of_set80 {n:Nat}{w w1:World}(h:Below n w w1){b:Nat}(hb:n≤b)(u0 u1 u2 u3 u4 u5 u6 u7:Value):Below n w (st80 w1 b u0 u1 u2 u3 u4 u5 u6 u7):=st8_below w1 b 0 u0 u1 u2 u3 u4 u5 u6 u7 h hb
theorem coat_set80 {S:Nat→Prop}{w1:World}{c:Co}{a:Option Addr}{n:Nat}{ka:Option Addr}{kn:Nat}(h:CoAt S w1 c a n ka kn){b:Nat}(hb:∀ k,S k→k≠b)(u0 u1 u2 u3 u4 u5 u6 u7:Value):CoAt S (st80 w1 b u0 u1 u2 u3 u4 u5 u6 u7) c a n ka kn :=
 h.keep fun k hk=>by rw[st80_eq];exact st8_off _ _ _ _ _ _ _ _ _ _ _ (hb k hk)
theorem drewC (W:World)(b:Nat):W.drew.heap[b]? = W.heap[b]? := rfl
theorem B8.drew {w:World}{b:Nat}{u0 u1 u2 u3 u4 u5 u6 u7:Value}(h:B8 w b u0 u1 u2 u3 u4 u5 u6 u7):B8 w.drew b u0 u1 u2 u3 u4 u5 u6 u7:=(drewC w b).trans h
theorem CoAt.drew {S:Nat→Prop}{w1:World}{c:Co}{a:Option Addr}{n:Nat}{ka:Option Addr}{kn:Nat}(h:CoAt S w1 c a n ka kn):CoAt S w1.drew c a n ka kn:=h.keep fun b _=>drewC w1 b
theorem toks_below {w w':World}{a:Option Addr}{n cap N:Nat}{l:List Tok}(h:ToksAt w (.slice a n cap) l)(hN:∀ b o,a=some ⟨b,o,none⟩→b<N)(hg:Below N w w'):ToksAt w' (.slice a n cap) l:=by
 obtain⟨a',c',e,h4,h5|⟨b,off,h6,h7⟩⟩:=h
 ·exact⟨a',c',e,h4,.inl h5⟩
 ·refine⟨a',c',e,h4,.inr ⟨b,off,h6,fun i hi=>?_⟩⟩
  injection e with e1 e2 e3
  have hb:=hN b off (by rw[e1,h6])
  obtain⟨c0,c1,c2⟩:=h7 i hi
  have k:∀ o,w'.cell? ⟨b,o,none⟩=w.cell? ⟨b,o,none⟩:=fun o=>World.cell?_of_block (hg.block b hb)
  rw[k,k,k];exact⟨c0,c1,c2⟩
set_option maxRecDepth 100000 in
set_option maxHeartbeats 3200000 in
theorem readC_any (w:World)(hV:Vs w)(a:Option Addr)(cap:Nat)(l:List Tok)(ht:ToksAt w (.slice a l.length cap) l)(hb:∀ b o,a=some ⟨b,o,none⟩→b<w.heap.size)(hok:∀ t∈l,TokK t)(hl:l.length≤4000) :
  Calls Tryz.prog 20 #[.slice a l.length cap] w (CReadPost w (readC l)):=by
 have hz:=(Below.refl w.heap.size w).alloc (Nat.le_refl _) (.cells #[.int .i64 0,.string ⟨#[]⟩,.int .i64 0,.int .i64 0,.string ⟨#[]⟩,.int .i64 0,.slice none 0 0,.slice none 0 0] 33)
 have hz2:=hz.alloc (by simp) (.cells #[.slice a l.length cap,.bool false] 100)
 have hr:Rc w.heap.size (w.heap.size+1) ((w.alloc (.cells #[.int .i64 0,.string ⟨#[]⟩,.int .i64 0,.int .i64 0,.string ⟨#[]⟩,.int .i64 0,.slice none 0 0,.slice none 0 0] 33)).alloc (.cells #[.slice a l.length cap,.bool false] 100)) l false :=
  ⟨a,cap,alloc_new (by simp),toks_low ht hz2,by omega,hb,by omega⟩
 have C:=Lib.hid ((reader_said (4*l.length+4)).1 _ _ _ _ hr (by simp;omega) (VsN.below hV.n hz2) hok hl (by omega))
 have b8:=Lib.hid ((B8.new w (.int .i64 0) (.string ⟨#[]⟩) (.int .i64 0) (.int .i64 0) (.string ⟨#[]⟩) (.int .i64 0) (.slice none 0 0) (.slice none 0 0)).low ((Below.refl _ _).alloc (Nat.le_refl _) (.cells #[.slice a l.length cap,.bool false] 100)))
 have HZ:=Lib.hid hz2
 clear ht hb hok hz hr hz2 hV hl
 go_enter Tryz.func20,Tryz.ntmps20
 go_wp2_with fail
 refine C.out.mono ?_
 rintro e w1 ⟨hg,x,xa,xn,xka,xkn,rfl,hx,hres⟩
 obtain⟨l1,b1,hR1,hcase⟩:∃ l1 b1,Rc w.heap.size (w.heap.size+1) w1 l1 b1∧(match readC l with|some (c',r)=>x=c'∧l1=r∧b1=false|none=>b1=true):=by
  unfold readC
  cases hT:coF (4*l.length+4) l with
  | none=>rw[hT] at hres;obtain⟨l',h⟩:=hres;exact⟨l',true,h,rfl⟩
  | some p=>obtain⟨t',r⟩:=p;rw[hT] at hres;obtain⟨e,h⟩:=hres;subst e;exact⟨r,false,h,rfl,rfl,rfl⟩
 have k8:=b8.out.grown hg (fun e=>by injection e;omega)
 have hs2:w.heap.size+2≤w1.heap.size:=by have:=hg.size;simpa using this
 have p0:=k8.c0
 have p1:=k8.c1
 have p2:=k8.c2
 have p3:=k8.c3
 have p4:=k8.c4
 have p5:=k8.c5
 have p6:=k8.c6
 have p7:=k8.c7
 have fz0:=k8.fr 0
 have fz1:=k8.fr 1
 have fz2:=k8.fr 2
 have fz3:=k8.fr 3
 have fz4:=k8.fr 4
 have fz5:=k8.fr 5
 have fz6:=k8.fr 6
 have fz7:=k8.fr 7
 have cb:=hR1.c1
 have hn1:w.heap.size≠w.heap.size+1:=by omega
 have hn2:w.heap.size+1≠w.heap.size:=by omega
 have K8:=Lib.hid k8
 have G1:=Lib.hid (grown_trans (grown_below HZ.out) hg)
 have HX:=Lib.hid (hx.mono (S':=In (w.heap.size+2) w1.heap.size) fun b hb=>⟨by have:=hb.1;simp at this;omega,hb.2⟩)
 have R1:=Lib.hid hR1
 have HC:=Lib.hid hcase
 have HS2:=Lib.hid hs2
 clear k8 hg hx hres hR1 hcase b8 C hs2
 unfold cv
 cases b1 with
 | true =>
  have E:Hid (readC l=none):=Lib.hid (by
   have h:=HC.out
   cases hT:readC l with
   | none=>rfl
   | some p=>rw[hT] at h;cases h.2.2)
  go_wp2
  have q0:=K8.out.set80 _ _ (.int .i64 x.kind) (.string x.name) (.int .i64 x.n) (.int .i64 x.t.kind) (.string x.t.name) (.int .i64 x.t.n) (.slice xa x.t.args.length xn) (.slice xka x.kids.length xkn)
  have q8:=q0.set80 _ _ (.int .i64 0) (.string ⟨#[]⟩) (.int .i64 0) (.int .i64 0) (.string ⟨#[]⟩) (.int .i64 0) (.slice none 0 0) (.slice none 0 0)
  have g8:=below_of_set80 (below_of_set80 (grown_low G1.out (by omega)) (Nat.le_refl _) (.int .i64 x.kind) (.string x.name) (.int .i64 x.n) (.int .i64 x.t.kind) (.string x.t.name) (.int .i64 x.t.n) (.slice xa x.t.args.length xn) (.slice xka x.kids.length xkn)) (Nat.le_refl _) (.int .i64 0) (.string ⟨#[]⟩) (.int .i64 0) (.int .i64 0) (.string ⟨#[]⟩) (.int .i64 0) (.slice none 0 0) (.slice none 0 0)
  refine bodyPost_ret (v:=.tuple #[cv coz none 0 none 0,.slice none 0 0,.bool false]) (by simp[results,Tryz.results20,go_sem,cv,coz,co_kind,co_name,co_n,co_t,co_kids,q8.c0,q8.c1,q8.c2,q8.c3,q8.c4,q8.c5,q8.c6,q8.c7];first|rfl|exact⟨rfl,rfl,rfl,rfl,rfl⟩) rfl ?_
  rw[E.out]
  exact⟨g8,rfl⟩
 | false =>
  have E:Hid (readC l=some (x,l1)):=Lib.hid (by
   have h:=HC.out
   cases hT:readC l with
   | none=>rw[hT] at h;cases h
   | some p=>obtain⟨c',r⟩:=p;rw[hT] at h;obtain⟨h1,h2,_⟩:=h;subst h1 h2;rfl)
  go_wp2
  have q0:=K8.out.set80 _ _ (.int .i64 x.kind) (.string x.name) (.int .i64 x.n) (.int .i64 x.t.kind) (.string x.t.name) (.int .i64 x.t.n) (.slice xa x.t.args.length xn) (.slice xka x.kids.length xkn)
  have r0:=R1.out.set80 (b:=w.heap.size) (by omega) (Nat.le_refl _) (.int .i64 x.kind) (.string x.name) (.int .i64 x.n) (.int .i64 x.t.kind) (.string x.t.name) (.int .i64 x.t.n) (.slice xa x.t.args.length xn) (.slice xka x.kids.length xkn)
  have g0:=below_of_set80 (grown_low G1.out (by omega)) (Nat.le_refl _) (.int .i64 x.kind) (.string x.name) (.int .i64 x.n) (.int .i64 x.t.kind) (.string x.t.name) (.int .i64 x.t.n) (.slice xa x.t.args.length xn) (.slice xka x.kids.length xkn)
  have x0:=coat_set80 HX.out (b:=w.heap.size) (fun k hk=>by have:=hk.1;omega) (.int .i64 x.kind) (.string x.name) (.int .i64 x.n) (.int .i64 x.t.kind) (.string x.t.name) (.int .i64 x.t.n) (.slice xa x.t.args.length xn) (.slice xka x.kids.length xkn)
  have hfs:(st80 w1 w.heap.size (.int .i64 x.kind) (.string x.name) (.int .i64 x.n) (.int .i64 x.t.kind) (.string x.t.name) (.int .i64 x.t.n) (.slice xa x.t.args.length xn) (.slice xka x.kids.length xkn)).heap.size=w1.heap.size:=by simp
  rw[← hfs] at x0
  unfold st80 at q0 r0 g0 x0 hfs
  generalize (((((((w1.setCell ⟨w.heap.size,0,none⟩ (.int .i64 x.kind)).setCell ⟨w.heap.size,1,none⟩ (.string x.name)).setCell ⟨w.heap.size,2,none⟩ (.int .i64 x.n)).setCell ⟨w.heap.size,3,none⟩ (.int .i64 x.t.kind)).setCell ⟨w.heap.size,4,none⟩ (.string x.t.name)).setCell ⟨w.heap.size,5,none⟩ (.int .i64 x.t.n)).setCell ⟨w.heap.size,6,none⟩ (.slice xa x.t.args.length xn)).setCell ⟨w.heap.size,7,none⟩ (.slice xka x.kids.length xkn)=w2 at *
  have d0:=q0.c0
  have d1:=q0.c1
  have d2:=q0.c2
  have d3:=q0.c3
  have d4:=q0.c4
  have d5:=q0.c5
  have d6:=q0.c6
  have d7:=q0.c7
  have h0:=q0.fr 0
  have h1:=q0.fr 1
  have h2:=q0.fr 2
  have h3:=q0.fr 3
  have h4:=q0.fr 4
  have h5:=q0.fr 5
  have h6:=q0.fr 6
  have h7:=q0.fr 7
  obtain⟨a3,c3',hB3,hT3,hl3,ha3,hN3⟩:=id r0
  have cB3:w2.cell? ⟨w.heap.size+1,0,none⟩=some (.slice a3 l1.length c3'):=cell_of_row w2 _ 0 _ _ _ hB3
  have Q0:=Lib.hid q0
  have GG:=Lib.hid g0
  have AA:=Lib.hid x0
  have HT3:Hid (∀ W,Below w.heap.size w2 W→ToksAt W (.slice a3 l1.length c3') l1):=Lib.hid fun W hb=>toks_below hT3 ha3 hb
  clear q0 g0 r0 x0 hB3 hT3 hl3 ha3 hN3 cb hfs p0 p1 p2 p3 p4 p5 p6 p7 fz0 fz1 fz2 fz3 fz4 fz5 fz6 fz7 K8 G1 HX R1
  go_region
  go_wp2
  have b1:=(below_of_set80 (Below.refl w.heap.size w2) (Nat.le_refl _) (.int .i64 x.kind) (.string x.name) (.int .i64 x.n) (.int .i64 x.t.kind) (.string x.t.name) (.int .i64 x.t.n) (.slice xa x.t.args.length xn) (.slice xka x.kids.length xkn)).drew
  have t1:=HT3.out _ b1
  have q8:B8 (st80 w2 w.heap.size (.int .i64 x.kind) (.string x.name) (.int .i64 x.n) (.int .i64 x.t.kind) (.string x.t.name) (.int .i64 x.t.n) (.slice xa x.t.args.length xn) (.slice xka x.kids.length xkn)).drew w.heap.size (.int .i64 x.kind) (.string x.name) (.int .i64 x.n) (.int .i64 x.t.kind) (.string x.t.name) (.int .i64 x.t.n) (.slice xa x.t.args.length xn) (.slice xka x.kids.length xkn):=(Q0.out.set80 _ _ (.int .i64 x.kind) (.string x.name) (.int .i64 x.n) (.int .i64 x.t.kind) (.string x.t.name) (.int .i64 x.t.n) (.slice xa x.t.args.length xn) (.slice xka x.kids.length xkn)).drew
  have x8:=(coat_set80 AA.out (b:=w.heap.size) (fun k hk=>by have:=hk.1;omega) (.int .i64 x.kind) (.string x.name) (.int .i64 x.n) (.int .i64 x.t.kind) (.string x.t.name) (.int .i64 x.t.n) (.slice xa x.t.args.length xn) (.slice xka x.kids.length xkn)).drew
  have g8:=GG.out.trans (b1.mono (Nat.le_refl _))
  refine bodyPost_ret (v:=.tuple #[cv x xa xn xka xkn,.slice a3 l1.length c3',.bool true]) (by simp[results,Tryz.results20,go_sem,cv,q8.c0,q8.c1,q8.c2,q8.c3,q8.c4,q8.c5,q8.c6,q8.c7]) rfl ?_
  rw[E.out]
  exact⟨g8,xa,xn,xka,xkn,a3,c3',rfl,x8.mono (fun b hb=>by obtain⟨h1,h2⟩:=hb;exact⟨by omega,by simpa using h2⟩),t1⟩
open Lx
theorem depth_size (t:Ty):t.depth≤t.size:=by
 induction t using Ty.ind with
 | h t ih =>
  have:∀ l:List Ty,(∀ a∈l,a.depth≤a.size)→depthL l≤sizeL l:=by
   intro l
   induction l with
   | nil=>intro _;exact Nat.le_refl _
   | cons a l ihl =>
    intro h
    rw[depthL,sizeL]
    have:=h a (by simp);have:=ihl fun b hb=>h b (by simp[hb])
    omega
  have:=this t.args ih
  rw[t.depth_eq,t.size_eq];omega
theorem deep_wt (c:Co):WfC c→c.deep≤wtC 1 c∧c.tdep≤wtC 1 c:=by
 induction c using Co.ind with
 | h c ih =>
  intro hw
  have kl:∀ ks:List Co,(∀ a∈ks,a.deep≤wtC 1 a∧a.tdep≤wtC 1 a)→deepL ks≤wtL 1 ks∧tdepL ks≤wtL 1 ks:=by
   intro ks
   induction ks with
   | nil=>intro _;exact⟨Nat.le_refl _,Nat.le_refl _⟩
   | cons a l ihl =>
    intro h
    rw[deepL,tdepL,wtL]
    have:=h a (by simp);have:=ihl fun b hb=>h b (by simp[hb])
    omega
  have h1:=kl c.kids fun a ha=>ih a ha (hw.kids a ha)
  have hk:=hw.k.2.2
  have hs:=depth_size c.t
  have hs1:1≤c.t.size:=by rw[c.t.size_eq];omega
  have nil:c.kids.length=0→c.kids=[]:=List.eq_nil_of_length_eq_zero
  rw[c.deep_eq,c.tdep_eq,wtC_eq]
  unfold tdep0
  by_cases h1':c.kind=1
  ·rw[if_pos h1',if_neg (by omega),nil (by omega)];simp[deepL,tdepL]
  ·by_cases h2:c.kind=2
   ·rw[if_neg h1',if_pos h2,if_pos (.inl h2),nil (by omega)]
    simp only[deepL,tdepL];omega
   ·rw[if_neg h1',if_neg h2]
    by_cases h9:c.kind=9
    ·rw[if_pos h9,if_pos (.inr h9)];omega
    ·rw[if_neg h9,if_neg (by omega)];omega
theorem readC_deep {l:List Tok}{c:Co}{r:List Tok}(hl:∀ t∈l,TokK t)(hn:l.length≤4000)(h:readC l=some (c,r)):c.deep≤4000∧c.tdep≤4000:=by
 obtain⟨h1,h2,_⟩:=(madeC 1 (Nat.le_refl _) _).1 l c r hl hn h
 have:=deep_wt c h1
 omega
theorem parseC_eq {l:List UInt8}{ts:List Tok}{p er:Nat}(h:scanR l=(ts,p,er)):parseC l=if er≠0 then .error er else match readC ts with
  | none=>.error 50
  | some (c,r)=>if r≠[] then .error 50 else if 50<c.deep∨50<c.tdep then .error 3 else .ok c:=by
 rw[parseC,h];rfl
def CParsePost (w:World)(res:Except Nat Co)(e:Ending)(w':World):Prop :=
 Below w.heap.size w w'∧match res with
 | .error er=>e=.returned (.tuple #[cv coz none 0 none 0,.int .i64 er])
 | .ok c=>∃ a n ka kn,e=.returned (.tuple #[cv c a n ka kn,.int .i64 0])∧CoAt (In w.heap.size w'.heap.size) w' c a n ka kn
set_option maxRecDepth 100000 in
set_option maxHeartbeats 3200000 in
theorem parseC_any (w:World)(hV:Vs w)(s:ByteArray)(hs:s.size≤maxLen):Calls Tryz.prog 10 #[.string s] w (CParsePost w (parseC s.data.toList)):=by
 have C:=Lib.hid (scan_any s (w.alloc (.cells #[.int .i64 0,.string ⟨#[]⟩,.int .i64 0,.int .i64 0,.string ⟨#[]⟩,.int .i64 0,.slice none 0 0,.slice none 0 0] 33)) hs)
 have b8:=Lib.hid (B8.new w (.int .i64 0) (.string ⟨#[]⟩) (.int .i64 0) (.int .i64 0) (.string ⟨#[]⟩) (.int .i64 0) (.slice none 0 0) (.slice none 0 0))
 have HZ:=Lib.hid ((Below.refl w.heap.size w).alloc (Nat.le_refl _) (.cells #[.int .i64 0,.string ⟨#[]⟩,.int .i64 0,.int .i64 0,.string ⟨#[]⟩,.int .i64 0,.slice none 0 0,.slice none 0 0] 33))
 have hok:Hid (∀ t∈(scanR s.data.toList).1,TokK t):=Lib.hid (fun t ht=>tokK t (scanR_all s.data.toList t ht))
 have hlen:=scanR_length s.data.toList
 have HV:=Lib.hid hV
 rcases hsc:scanR s.data.toList with ⟨ts,p,er⟩
 have hP:=parseC_eq hsc
 rw[hsc] at hok hlen
 have HSC:=Lib.hid hsc
 have HP:=Lib.hid hP
 clear hsc hP hV
 go_enter Tryz.func10,Tryz.ntmps10
 go_wp2_with fail
 refine C.out.mono ?_
 rintro e w1 ⟨v,rfl,hb,ho⟩
 rw[HSC.out] at ho ⊢
 have k8:=b8.out.low hb
 have c0:=k8.c0
 have c1:=k8.c1
 have c2:=k8.c2
 have c3:=k8.c3
 have c4:=k8.c4
 have c5:=k8.c5
 have c6:=k8.c6
 have c7:=k8.c7
 have f0:=k8.fr 0
 have f1:=k8.fr 1
 have f2:=k8.fr 2
 have f3:=k8.fr 3
 have f4:=k8.fr 4
 have f5:=k8.fr 5
 have f6:=k8.fr 6
 have f7:=k8.fr 7
 have K8:=Lib.hid k8
 have hb1:=HZ.out.trans (hb.mono (by simp))
 have B1:=Lib.hid hb1
 have V1:=Lib.hid (HV.out.n _ hb1)
 obtain⟨va,vc,rfl⟩:=own_form ho
 have OW:=Lib.hid ho
 have hw01:Hid (w.heap.size+1≤w1.heap.size):=Lib.hid (by have:=hb.size;simpa using this)
 clear k8 hb ho hb1
 by_cases her:er=0
 ·subst her
  have HP1:=HP.out
  rw[if_neg (by simp)] at HP1
  have RC:=Lib.hid (readC_any w1 V1.out va vc ts (toksAt_of_owns OW.out) (fun b o e=>(OW.out.lt b (by rw[e];rfl)).2) hok.out hlen)
  have HP2:=Lib.hid HP1
  clear HP1
  go_wp2_with fail
  refine RC.out.mono ?_
  rintro e w2 ⟨hb2,hres⟩
  have k5:=K8.out.low hb2
  have K5:=Lib.hid k5
  have B2:=Lib.hid hb2
  cases hT:readC ts with
  | none =>
   rw[hT] at hres
   subst hres
   have E:Hid (parseC s.data.toList=.error 50):=Lib.hid (by rw[HP2.out,hT])
   have hz:=(Below.refl w2.heap.size w2).alloc (Nat.le_refl _) (.cells #[.int .i64 0,.string ⟨#[]⟩,.int .i64 0,.int .i64 0,.string ⟨#[]⟩,.int .i64 0,.slice none 0 0,.slice none 0 0] 33)
   have k6:=k5.low hz
   have K6:=Lib.hid k6
   have G6:=Lib.hid (B1.out.trans ((hb2.trans (hz.mono hb2.size)).mono B1.out.size))
   have d0:=k6.c0
   have d1:=k6.c1
   have d2:=k6.c2
   have d3:=k6.c3
   have d4:=k6.c4
   have d5:=k6.c5
   have d6:=k6.c6
   have d7:=k6.c7
   have h0:=k6.fr 0
   have h1:=k6.fr 1
   have h2:=k6.fr 2
   have h3:=k6.fr 3
   have h4:=k6.fr 4
   have h5:=k6.fr 5
   have h6:=k6.fr 6
   have h7:=k6.fr 7
   clear hT k5 hb2 hz k6
   rw[show cv coz none 0 none 0=.agg #[.int .i64 0,.string ⟨#[]⟩,.int .i64 0,.int .i64 0,.string ⟨#[]⟩,.int .i64 0,.slice none 0 0,.slice none 0 0] from rfl]
   go_wp2
   have q8:=K6.out.set80 _ _ (.int .i64 0) (.string ⟨#[]⟩) (.int .i64 0) (.int .i64 0) (.string ⟨#[]⟩) (.int .i64 0) (.slice none 0 0) (.slice none 0 0)
   have g8:=below_of_set80 G6.out (Nat.le_refl _) (.int .i64 0) (.string ⟨#[]⟩) (.int .i64 0) (.int .i64 0) (.string ⟨#[]⟩) (.int .i64 0) (.slice none 0 0) (.slice none 0 0)
   refine bodyPost_ret (v:=.tuple #[cv coz none 0 none 0,.int .i64 50]) (by simp[results,Tryz.results10,go_sem,cv,coz,co_kind,co_name,co_n,co_t,co_kids,q8.c0,q8.c1,q8.c2,q8.c3,q8.c4,q8.c5,q8.c6,q8.c7];first|rfl|exact⟨rfl,rfl,rfl,rfl,rfl⟩) rfl ?_
   rw[E.out]
   exact⟨g8,rfl⟩
  | some x =>
   obtain⟨c,r⟩:=x
   rw[hT] at hres
   obtain⟨a1,n1,ka1,kn1,a2,c2,rfl,hA,hR⟩:=hres
   have hz:=(Below.refl w2.heap.size w2).alloc (Nat.le_refl _) (.cells #[.int .i64 c.kind,.string c.name,.int .i64 c.n,.int .i64 c.t.kind,.string c.t.name,.int .i64 c.t.n,.slice a1 c.t.args.length n1,.slice ka1 c.kids.length kn1] 33)
   have k6:=k5.low hz
   have kt:=B8.new w2 (.int .i64 c.kind) (.string c.name) (.int .i64 c.n) (.int .i64 c.t.kind) (.string c.t.name) (.int .i64 c.t.n) (.slice a1 c.t.args.length n1) (.slice ka1 c.kids.length kn1)
   have K6:=Lib.hid k6
   have G6:=Lib.hid (B1.out.trans ((hb2.trans (hz.mono hb2.size)).mono B1.out.size))
   have A6:=Lib.hid (hA.keep (fun b hb=>hz.block b hb.2))
   have hdp:=readC_deep hok.out hlen hT
   have hE2:parseC s.data.toList=if r≠[] then .error 50 else if 50<c.deep∨50<c.tdep then .error 3 else .ok c:=by rw[HP2.out,hT]
   have d0:=k6.c0
   have d1:=k6.c1
   have d2:=k6.c2
   have d3:=k6.c3
   have d4:=k6.c4
   have d5:=k6.c5
   have d6:=k6.c6
   have d7:=k6.c7
   have h0:=k6.fr 0
   have h1:=k6.fr 1
   have h2:=k6.fr 2
   have h3:=k6.fr 3
   have h4:=k6.fr 4
   have h5:=k6.fr 5
   have h6:=k6.fr 6
   have h7:=k6.fr 7
   have t0:=kt.c0
   have t1:=kt.c1
   have t2:=kt.c2
   have t3:=kt.c3
   have t4:=kt.c4
   have t5:=kt.c5
   have t6:=kt.c6
   have t7:=kt.c7
   clear hT k5 hb2 hz k6 kt hA hR
   unfold cv
   by_cases hr:r=[]
   ·subst hr
    have hE3:parseC s.data.toList=if 50<c.deep∨50<c.tdep then .error 3 else .ok c:=by rw[hE2,if_neg (by simp)]
    have CD:=Lib.hid (cdepth_any c _ a1 n1 ka1 kn1 _ A6.out (fun b hb=>by have:=hb.2;simp;omega) (by omega) (by omega))
    unfold cv at CD
    clear hE2
    by_cases hd:50<c.deep
    ·have E:Hid (parseC s.data.toList=.error 3):=Lib.hid (by rw[hE3,if_pos (.inl hd)])
     have hz0:decide ((50:Int)<(c.deep:Int))=true:=by simp;omega
     clear hE3
     go_wp2_with fail
     refine CD.out.mono ?_
     rintro e w4 ⟨rfl,hb4⟩
     have k7:=K6.out.low hb4
     have x0:=k7.c0
     have x1:=k7.c1
     have x2:=k7.c2
     have x3:=k7.c3
     have x4:=k7.c4
     have x5:=k7.c5
     have x6:=k7.c6
     have x7:=k7.c7
     have y0:=k7.fr 0
     have y1:=k7.fr 1
     have y2:=k7.fr 2
     have y3:=k7.fr 3
     have y4:=k7.fr 4
     have y5:=k7.fr 5
     have y6:=k7.fr 6
     have y7:=k7.fr 7
     have K7:=Lib.hid k7
     have G7:=Lib.hid (G6.out.trans (hb4.mono G6.out.size))
     clear k7 hb4
     go_wp2
     have q8:=K7.out.set80 _ _ (.int .i64 0) (.string ⟨#[]⟩) (.int .i64 0) (.int .i64 0) (.string ⟨#[]⟩) (.int .i64 0) (.slice none 0 0) (.slice none 0 0)
     have g8:=below_of_set80 G7.out (Nat.le_refl _) (.int .i64 0) (.string ⟨#[]⟩) (.int .i64 0) (.int .i64 0) (.string ⟨#[]⟩) (.int .i64 0) (.slice none 0 0) (.slice none 0 0)
     refine bodyPost_ret (v:=.tuple #[cv coz none 0 none 0,.int .i64 3]) (by simp[results,Tryz.results10,go_sem,cv,coz,co_kind,co_name,co_n,co_t,co_kids,q8.c0,q8.c1,q8.c2,q8.c3,q8.c4,q8.c5,q8.c6,q8.c7];first|rfl|exact⟨rfl,rfl,rfl,rfl,rfl⟩) rfl ?_
     rw[E.out]
     exact⟨g8,rfl⟩
    ·have hz0:decide ((50:Int)<(c.deep:Int))=false:=by simp;omega
     by_cases hd2:50<c.tdep
     ·have E:Hid (parseC s.data.toList=.error 3):=Lib.hid (by rw[hE3,if_pos (.inr hd2)])
      have hz1:decide ((50:Int)<(c.tdep:Int))=true:=by simp;omega
      clear hE3
      go_wp2_with fail
      refine CD.out.mono ?_
      rintro e w4 ⟨rfl,hb4⟩
      have k7:=K6.out.low hb4
      have x0:=k7.c0
      have x1:=k7.c1
      have x2:=k7.c2
      have x3:=k7.c3
      have x4:=k7.c4
      have x5:=k7.c5
      have x6:=k7.c6
      have x7:=k7.c7
      have y0:=k7.fr 0
      have y1:=k7.fr 1
      have y2:=k7.fr 2
      have y3:=k7.fr 3
      have y4:=k7.fr 4
      have y5:=k7.fr 5
      have y6:=k7.fr 6
      have y7:=k7.fr 7
      have K7:=Lib.hid k7
      have G7:=Lib.hid (G6.out.trans (hb4.mono G6.out.size))
      clear k7 hb4
      go_wp2
      have q8:=K7.out.set80 _ _ (.int .i64 0) (.string ⟨#[]⟩) (.int .i64 0) (.int .i64 0) (.string ⟨#[]⟩) (.int .i64 0) (.slice none 0 0) (.slice none 0 0)
      have g8:=below_of_set80 G7.out (Nat.le_refl _) (.int .i64 0) (.string ⟨#[]⟩) (.int .i64 0) (.int .i64 0) (.string ⟨#[]⟩) (.int .i64 0) (.slice none 0 0) (.slice none 0 0)
      refine bodyPost_ret (v:=.tuple #[cv coz none 0 none 0,.int .i64 3]) (by simp[results,Tryz.results10,go_sem,cv,coz,co_kind,co_name,co_n,co_t,co_kids,q8.c0,q8.c1,q8.c2,q8.c3,q8.c4,q8.c5,q8.c6,q8.c7];first|rfl|exact⟨rfl,rfl,rfl,rfl,rfl⟩) rfl ?_
      rw[E.out]
      exact⟨g8,rfl⟩
     ·have E:Hid (parseC s.data.toList=.ok c):=Lib.hid (by rw[hE3,if_neg (by omega)])
      have hz1:decide ((50:Int)<(c.tdep:Int))=false:=by simp;omega
      have KT6:=Lib.hid (B8.new w2 (.int .i64 c.kind) (.string c.name) (.int .i64 c.n) (.int .i64 c.t.kind) (.string c.t.name) (.int .i64 c.t.n) (.slice a1 c.t.args.length n1) (.slice ka1 c.kids.length kn1))
      clear hE3
      go_wp2_with fail
      refine CD.out.mono ?_
      rintro e w4 ⟨rfl,hb4⟩
      have k7:=K6.out.low hb4
      have x0:=k7.c0
      have x1:=k7.c1
      have x2:=k7.c2
      have x3:=k7.c3
      have x4:=k7.c4
      have x5:=k7.c5
      have x6:=k7.c6
      have x7:=k7.c7
      have y0:=k7.fr 0
      have y1:=k7.fr 1
      have y2:=k7.fr 2
      have y3:=k7.fr 3
      have y4:=k7.fr 4
      have y5:=k7.fr 5
      have y6:=k7.fr 6
      have y7:=k7.fr 7
      have t7:=KT6.out.low hb4
      have z0:=t7.c0
      have z1:=t7.c1
      have z2:=t7.c2
      have z3:=t7.c3
      have z4:=t7.c4
      have z5:=t7.c5
      have z6:=t7.c6
      have z7:=t7.c7
      have K7:=Lib.hid k7
      have G7:=Lib.hid (G6.out.trans (hb4.mono G6.out.size))
      have A7:=Lib.hid (A6.out.keep fun b hb=>hb4.block b (by have:=hb.2;simp;omega))
      have H4:=Lib.hid hb4
      clear t7
      clear k7 hb4
      go_wp2
      have q8:=K7.out.set80 _ _ (.int .i64 c.kind) (.string c.name) (.int .i64 c.n) (.int .i64 c.t.kind) (.string c.t.name) (.int .i64 c.t.n) (.slice a1 c.t.args.length n1) (.slice ka1 c.kids.length kn1)
      have g8:=below_of_set80 G7.out (Nat.le_refl _) (.int .i64 c.kind) (.string c.name) (.int .i64 c.n) (.int .i64 c.t.kind) (.string c.t.name) (.int .i64 c.t.n) (.slice a1 c.t.args.length n1) (.slice ka1 c.kids.length kn1)
      refine bodyPost_ret (v:=.tuple #[cv c a1 n1 ka1 kn1,.int .i64 0]) (by simp[results,Tryz.results10,go_sem,cv,q8.c0,q8.c1,q8.c2,q8.c3,q8.c4,q8.c5,q8.c6,q8.c7]) rfl ?_
      rw[E.out]
      have x8:=coat_set80 A7.out (b:=w.heap.size) (fun k hk=>by have:=hk.1;have:=hw01.out;omega) (.int .i64 c.kind) (.string c.name) (.int .i64 c.n) (.int .i64 c.t.kind) (.string c.t.name) (.int .i64 c.t.n) (.slice a1 c.t.args.length n1) (.slice ka1 c.kids.length kn1)
      exact⟨g8,a1,n1,ka1,kn1,rfl,x8.mono fun b hb=>by
       obtain⟨b1,b2⟩:=hb
       have h1:=hw01.out
       have h2:=H4.out.size
       simp at h2
       exact⟨by omega,by simp;omega⟩⟩
   ·have E:Hid (parseC s.data.toList=.error 50):=Lib.hid (by rw[hE2,if_pos hr])
    have hz0:decide ((0:Int)<(r.length:Int))=true:=by
     rw[decide_eq_true_eq]
     have:=List.length_pos_iff.2 hr
     omega
    have hz1:(0:Int)<(r.length:Int):=by
     have:=List.length_pos_iff.2 hr
     omega
    clear hE2 hr
    generalize r.length=rl at *
    go_wp2
    have q8:=K6.out.set80 _ _ (.int .i64 0) (.string ⟨#[]⟩) (.int .i64 0) (.int .i64 0) (.string ⟨#[]⟩) (.int .i64 0) (.slice none 0 0) (.slice none 0 0)
    have g8:=below_of_set80 G6.out (Nat.le_refl _) (.int .i64 0) (.string ⟨#[]⟩) (.int .i64 0) (.int .i64 0) (.string ⟨#[]⟩) (.int .i64 0) (.slice none 0 0) (.slice none 0 0)
    refine bodyPost_ret (v:=.tuple #[cv coz none 0 none 0,.int .i64 50]) (by simp[results,Tryz.results10,go_sem,cv,coz,co_kind,co_name,co_n,co_t,co_kids,q8.c0,q8.c1,q8.c2,q8.c3,q8.c4,q8.c5,q8.c6,q8.c7];first|rfl|exact⟨rfl,rfl,rfl,rfl,rfl⟩) rfl ?_
    rw[E.out]
    exact⟨g8,rfl⟩
 ·have E:Hid (parseC s.data.toList=.error er):=Lib.hid (by rw[HP.out,if_pos her])
  have hz0:((er:Int) != 0)=true:=by rw[bne_iff_ne];omega
  go_wp2
  have q8:=K8.out.set80 _ _ (.int .i64 0) (.string ⟨#[]⟩) (.int .i64 0) (.int .i64 0) (.string ⟨#[]⟩) (.int .i64 0) (.slice none 0 0) (.slice none 0 0)
  have g8:=below_of_set80 B1.out (Nat.le_refl _) (.int .i64 0) (.string ⟨#[]⟩) (.int .i64 0) (.int .i64 0) (.string ⟨#[]⟩) (.int .i64 0) (.slice none 0 0) (.slice none 0 0)
  refine bodyPost_ret (v:=.tuple #[cv coz none 0 none 0,.int .i64 er]) (by simp[results,Tryz.results10,go_sem,cv,coz,co_kind,co_name,co_n,co_t,co_kids,q8.c0,q8.c1,q8.c2,q8.c3,q8.c4,q8.c5,q8.c6,q8.c7];first|rfl|exact⟨rfl,rfl,rfl,rfl,rfl⟩) rfl ?_
  rw[E.out]
  exact⟨g8,rfl⟩
end Go.Proofs.YtkihnodkhnahiaaGreatDoor.Tp

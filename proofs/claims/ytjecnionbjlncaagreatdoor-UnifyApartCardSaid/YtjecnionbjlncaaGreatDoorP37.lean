/- Packed. -/
import Derived.Test.YtjecnionbjlncaaGreatDoorP36
set_option maxRecDepth 100000
set_option maxHeartbeats 6400000
namespace Go.Proofs.YtjecnionbjlncaaGreatDoor.Tp
open Go.RowKit
theorem aa_.dr {S:Nat→Prop}{w:World}{v:Value}{l:List Ty}(h:aa_ S w v l):aa_ S w.drew v l:=h.keep (B:=w.drew) fun b _=>(show w.drew.heap[b]? = w.heap[b]? from rfl)
theorem rA_ (w:World):(zeroValue 37).run Tryz.prog w=.ok (.agg #[.int .i64 0,.string ByteArray.empty,.int .i64 0,.slice none 0 0]) w:=by kernel_rfl
theorem hO_ {t:Ty}(h:aY_ t)(hs:smB t=true):bG_ t:=by
 have h1:t.size≤2100000000:=(of_decide_eq_true hs).1;have h2:(ai_ t).length≤3000000:=(of_decide_eq_true hs).2;exact⟨h,by omega,by omega⟩
def KSm (K:Kn):Prop:=∀ m u,lkK K m=some u→bG_ u
theorem h8_ {n:Nat}{K:Kn}{u u':Ty}(hu:bG_ u)(hK:KSm K)(h:dX_ n K u=some u')(hs:smB u'=true):bG_ u':=by
 have hl:∀ (n:Nat) (u u':Ty),bG_ u→dX_ n K u=some u'→smB u'=true→bG_ u':=by
  intro n
  induction n with
  | zero=>intro u u' _ h;cases h
  | succ n ih =>
   intro u u' hu h hs;have:∀ (ms:List Int) (x:Ty),bG_ x→dH_ (dX_ n K) K ms x=some u'→bG_ u':=by
    intro ms
    induction ms with
    | nil=>intro x hx h;rw[dH_] at h;injection h with h;rw[← h];exact hx
    | cons m ms ihm =>
     intro x hx h;rw[dH_] at h
     split at h
     ·exact ihm x hx h
     ·next y hy =>
      split at h
      ·cases h
      ·next y' hy' =>
       split at h
       ·next hb =>
        simp only[Bool.and_eq_true] at hb;have g:=ih y y' (hK m y hy) hy' hb.1;exact ihm _ (hO_ (dG_ m y' x hx.1 g.1 hx.2.1 g.2.1) hb.2) h
       ·cases h
   exact this (ap_ u) u hu h
 exact hl n u u' hu h hs
def ro_ (n:Nat):Prop:=∀ (T:Nat→Prop) (n0:Nat) (w:World) (wb kb:Nat) (W:Wk) (v:Value) (ps:List (Value × Value)) (t r:Ty) (a:OA_) (c:Nat),UM T n0 w wb kb W v ps→KSm W.K→aa_ T w (.slice a t.args.length c) t.args→bG_ t→Tab w→dX_ n W.K t=some r →
 Calls Tryz.prog 37 #[.pointer (some ⟨wb,0,none⟩),tv t a c] w (TP T r w)
structure FlM (T:Nat→Prop)(w wr:World)(x:Ty)(xa:OA_)(xc:Nat):Prop where
 g:Below w.heap.size w wr
 s:w.heap.size+2≤wr.heap.size
 k:B4 wr w.heap.size (.int .i64 x.kind) (.string x.name) (.int .i64 x.n) (.slice xa x.args.length xc)
 z:B4 wr (w.heap.size+1) (.int .i64 0) (.string ⟨#[]⟩) (.int .i64 0) (.slice none 0 0)
 a:aa_ (fun b=>T b∨w.heap.size+2≤b∧b<wr.heap.size) wr (.slice xa x.args.length xc) x.args
theorem FlM.low {T:Nat→Prop}{w wr w':World}{x:Ty}{xa:OA_}{xc:Nat}(h:FlM T w wr x xa xc)(hT:∀ b,T b→b<w.heap.size)(hb:Below wr.heap.size wr w'):FlM T w w' x xa xc :=
 ⟨h.g.trans (hb.mono h.g.size),cj_ h.s hb.size,h.k.low hb,h.z.low hb,(h.a.keep fun b hb'=>hb.block b (by rcases hb' with h1|h1;have:=hT b h1;have:=h.g.size;omega;exact h1.2)).mono fun b hb'=>hb'.imp id fun h1=>⟨h1.1,ba_ h1.2 hb.size⟩⟩
theorem FlM.put {T:Nat→Prop}{w wr:World}{x y:Ty}{xa ya:OA_}{xc yc:Nat}(h:FlM T w wr x xa xc)(hT:∀ b,T b→b<w.heap.size)(hA:aa_ (fun b=>T b∨w.heap.size+2≤b∧b<wr.heap.size) wr (.slice ya y.args.length yc) y.args) :
  FlM T w ((((wr.setCell ⟨w.heap.size,0,none⟩ (.int .i64 y.kind)).setCell ⟨w.heap.size,1,none⟩ (.string y.name)).setCell ⟨w.heap.size,2,none⟩ (.int .i64 y.n)).setCell ⟨w.heap.size,3,none⟩ (.slice ya y.args.length yc)) y ya yc:=by
 have off:∀ b,b≠w.heap.size→((((wr.setCell ⟨w.heap.size,0,none⟩ (.int .i64 y.kind)).setCell ⟨w.heap.size,1,none⟩ (.string y.name)).setCell ⟨w.heap.size,2,none⟩ (.int .i64 y.n)).setCell ⟨w.heap.size,3,none⟩ (.slice ya y.args.length yc)).heap[b]? = wr.heap[b]? := fun b hb=>by
  rw[aB_ _ _ _ _ hb,aB_ _ _ _ _ hb,aB_ _ _ _ _ hb,aB_ _ _ _ _ hb]
 have hz:((((wr.setCell ⟨w.heap.size,0,none⟩ (.int .i64 y.kind)).setCell ⟨w.heap.size,1,none⟩ (.string y.name)).setCell ⟨w.heap.size,2,none⟩ (.int .i64 y.n)).setCell ⟨w.heap.size,3,none⟩ (.slice ya y.args.length yc)).heap.size=wr.heap.size:=by simp
 refine⟨(((h.g.setCell (p:=⟨w.heap.size,0,none⟩) (aC_ _) _).setCell (p:=⟨w.heap.size,1,none⟩) (aC_ _) _).setCell (p:=⟨w.heap.size,2,none⟩) (aC_ _) _).setCell (p:=⟨w.heap.size,3,none⟩) (aC_ _) _,by rw[hz];exact h.s,h.k.set4 _ _ _ _,(off _ (by omega)).trans h.z,?_⟩;rw[hz];exact hA.keep fun b hb=>off b (by rcases hb with h1|h1;have:=hT b h1;omega;omega)
theorem h7_:∀ n:Nat,ro_ n:=by
 intro n
 induction n with
 | zero=>intro T n0 w wb kb W v ps t r a c _ _ _ _ _ h;cases h
 | succ n ih =>
  intro T n0 w wb kb W v ps t r a c hM hK hA hs hT hf;have hTl:∀ b,T b→b<w.heap.size:=fun b h=>(hM.t b h).1;have hz:=aw_ w (.cells #[.int .i64 t.kind,.string t.name,.int .i64 t.n,.slice a t.args.length c] 37);have hz2:=hz.alloc (by simp) (.cells #[.int .i64 0,.string ⟨#[]⟩,.int .i64 0,.slice none 0 0] 37);have fm0:FlM T w ((w.alloc (.cells #[.int .i64 t.kind,.string t.name,.int .i64 t.n,.slice a t.args.length c] 37)).alloc (.cells #[.int .i64 0,.string ⟨#[]⟩,.int .i64 0,.slice none 0 0] 37)) t a c:=⟨hz2,by simp,(B4.new w _ _ _ _).low (aw_ _ _),(by have h:=B4.new (w.alloc (.cells #[.int .i64 t.kind,.string t.name,.int .i64 t.n,.slice a t.args.length c] 37)) (.int .i64 0) (.string ⟨#[]⟩) (.int .i64 0) (.slice none 0 0);rw[show (w.alloc (.cells #[.int .i64 t.kind,.string t.name,.int .i64 t.n,.slice a t.args.length c] 37)).heap.size=w.heap.size+1 from by simp] at h;exact h),(hA.keep fun b h=>hz2.block b (hTl b h)).mono fun _=>.inl⟩;have CM:=hid (gx_ t T a c ((w.alloc (.cells #[.int .i64 t.kind,.string t.name,.int .i64 t.n,.slice a t.args.length c] 37)).alloc (.cells #[.int .i64 0,.string ⟨#[]⟩,.int .i64 0,.slice none 0 0] 37)) (hA.keep fun b h=>hz2.block b (hTl b h)) (fun b h=>ba_ (hTl b h) hz2.size) (by have:=hs.2;omega));have FM:=hid fm0;obtain⟨d0,d1,d2,d3⟩:=fm0.k.c03;have HM:=hid hM;have HK:=hid hK;have HT:=hid hT;have HF:Hid (dH_ (dX_ n W.K) W.K (ap_ t) t=some r):=hid hf;have HS:=hid hs;have HTL:=hid hTl;have IH:=hid ih;have MZ:Hid ((ap_ t).length≤t.size→(ap_ t).length≤1000000000000):=hid (fun h=>by have:=hs.2;omega);clear hM hK hA hs hT hf hTl hz hz2 fm0 ih;unfold fs_ at CM;generalize ap_ t=ms at *;unfold tv at CM ⊢;go_enter Tryz.func37,Tryz.ntmps37;go_wp2_with fail;refine CM.out.mono ?_;rintro e w1 ⟨mv,rfl,ho,hml,hb1⟩;obtain⟨ma,mc,rfl⟩:=aG_ ho;have fm1:=FM.out.low HTL.out hb1;have FM1:=hid fm1;have HO:=hid ho;have hml2:=MZ.out hml;have HB1:Hid (w.heap.size+2≤w1.heap.size):=hid fm1.s;clear ho hml hb1 d0 d1 d2 d3 fm1;go_wp2
  go_loopw [12] (fun iv wr=>∃ (j:Nat) (x:Ty) (xa:OA_) (xc:Nat),iv=.int .i64 (j:Int)∧j≤ms.length∧dH_ (dX_ n W.K) W.K (ms.drop j) x=some r∧bG_ x∧FlM T w wr x xa xc∧wr.ownsRow (w.heap.size+2) 3 1 (.slice ma ms.length mc) ms.length (ms.map (Value.int .i64))) (fun iv _=>ms.length - (intOf iv).toNat)
  case atStart=>exact⟨0,t,a,c,rfl,Nat.zero_le _,by rw[List.drop_zero];exact HF.out,HS.out,FM1.out,cx_ (base':=w.heap.size+2) HO.out (by simp)⟩
  case round =>
   obtain⟨j,x,xa,xc,rfl,hj,hfx,hsx,hfm,ho⟩:=hrel;have z0:(0:Int)≤(j:Int):=(by omega);have FMR:=hid hfm;have HOR:=hid ho;have HFX:=hid hfx;have HSX:=hid hsx;obtain⟨k0,k1,k2,k3⟩:=hfm.k.c03
   by_cases hi:j<ms.length
   ·have z1:(j:Int)<(ms.length:Int):=by omega
    obtain⟨g,rfl⟩:∃ g,ma=some ⟨g,0,none⟩:=by
     rcases ho.2 with ⟨_,h0⟩|⟨g,cap,cur,h0,_⟩
     ·omega
     ·injection h0 with h0;exact⟨g,h0⟩
    have rm:wr.cell? ⟨g,j,none⟩=some (.int .i64 ms[j]):=by
     have:=ho.cells (g:=g) rfl j (.int .i64 ms[j]) (by simp[hi]);rwa [show (⟨g,0,none⟩:Addr).add j=⟨g,j,none⟩ from by unfold Addr.add;split<;>simp_all] at this
    have hum:=HM.out.low hfm.g;have c1:=hum.wk.c1;have hdr:ms.drop j=ms[j] :: ms.drop (j+1):=List.drop_eq_getElem_cons hi;rw[hdr] at hfx;have HU:=hid hum;have TL:=hid HTL.out;generalize ms[j]=m at *;cases hl:lkK W.K m with
    | none =>
     have HN:Hid (dH_ (dX_ n W.K) W.K (ms.drop (j+1)) x=some r):=hid (by rw[dH_,hl] at hfx;exact hfx);have hlk:=hum.kn.look_none Tryz.underlying73 Tryz.underlying3 hl (fun w=>rA_ w) wr rfl;have hzz:=aw_ wr (.cells #[.int .i64 0,.string ⟨#[]⟩,.int .i64 0,.slice none 0 0] 37);have FZ:=hid (hfm.low HTL.out hzz);have OZ:=hid (ho.alloc (.cells #[.int .i64 0,.string ⟨#[]⟩,.int .i64 0,.slice none 0 0] 37));clear hfx hsx hfm ho hum hdr hl hzz;go_wp2;go_roundw
     case rel=>exact⟨j+1,x,xa,xc,by go_num,by omega,HN.out,HSX.out,FZ.out,OZ.out⟩
     case measure=>simp[intOf];omega
    | some u =>
     obtain⟨ua,uc,hlk2,hAu⟩:=hum.kn.look_some Tryz.underlying73 Tryz.underlying3 hl;have hlk:=(hlk2 wr rfl).1;have hsu:=HK.out m u hl;obtain⟨u',hfu,hb1,hb2,hrest⟩:∃ u',dX_ n W.K u=some u'∧smB u'=true∧smB (bH_ m u' x)=true∧dH_ (dX_ n W.K) W.K (ms.drop (j+1)) (bH_ m u' x)=some r:=by
      rw[dH_,hl] at hfx;simp only at hfx;cases hfu:dX_ n W.K u with
      | none=>rw[hfu] at hfx;cases hfx
      | some u' =>
       rw[hfu] at hfx;simp only at hfx
       split at hfx
       ·next h=>simp only[Bool.and_eq_true] at h;exact⟨u',rfl,h.1,h.2,hfx⟩
       ·cases hfx
     have hxu:=aw_ wr (.cells #[.int .i64 u.kind,.string u.name,.int .i64 u.n,.slice ua u.args.length uc] 37);have hfm2:=hfm.low HTL.out hxu;have hum2:=(hum.low hxu).low (Below.refl _ _).drew;have kd:=hfm2.k.low (Below.refl _ _).drew;have ku:=(B4.new wr (.int .i64 u.kind) (.string u.name) (.int .i64 u.n) (.slice ua u.args.length uc)).low (Below.refl _ _).drew;have CH:=hid (IH.out T n0 _ wb kb W v ps u u' ua uc hum2 HK.out (hAu.keep (B:=wr.alloc (.cells #[.int .i64 u.kind,.string u.name,.int .i64 u.n,.slice ua u.args.length uc] 37)) fun b h=>hxu.block b (hum.t b h).1).dr hsu (ag_ HT.out (hfm2.g.trans ((Below.refl _ _).drew.mono hfm2.g.size))) hfu);obtain⟨x0,x1,x2,x3⟩:=kd.c03;obtain⟨u0,u1,u2,u3⟩:=ku.c03;have FD:=hid (hfm2.low HTL.out (Below.refl _ _).drew);have OD:=hid (aF_ (ho.alloc (.cells #[.int .i64 u.kind,.string u.name,.int .i64 u.n,.slice ua u.args.length uc] 37)) (w':=(wr.alloc (.cells #[.int .i64 u.kind,.string u.name,.int .i64 u.n,.slice ua u.args.length uc] 37)).drew) fun b _=>rfl);have GU:=hid (h8_ hsu HK.out hfu hb1);have GX:=hid (hO_ (dG_ m u' x hsx.1 (h8_ hsu HK.out hfu hb1).1 hsx.2.1 (h8_ hsu HK.out hfu hb1).2.1) hb2);have HR:=hid hrest;clear hfx hsx hfm ho hum hdr hl hxu hfm2 hum2 kd ku hsu hfu hb1 hb2 hrest hAu hlk2;unfold tv at CH hlk;go_wp2
     go_region_law (first
      | (go_simp;go_at_call 37;(with_reducible refine CH.out.mono ?_);rintro e w4 ⟨ya,yc,he,hA4,hb4⟩;unfold tv at he;subst he;have fm4:=FD.out.low HTL.out hb4;have p0:=fm4.k.c0;have p1:=fm4.k.c1;have p2:=fm4.k.c2;have p3:=fm4.k.c3;have FM4:=hid fm4;have O4:=hid (aF_ OD.out fun b hb=>hb4.block b (OD.out.lt b hb).2);have CF:=hid (nk_ m u' x _ xa ya xc yc w4 HSX.out.1 GU.out.1 HSX.out.2.1 GU.out.2.1 fm4.a (hA4.mono fun b hb=>hb.imp id fun h=>⟨by have:=FD.out.s;omega,h.2⟩) (fun b hb=>by rcases hb with h|h;have:=HTL.out b h;have:=fm4.s;omega;exact h.2) (ag_ HT.out fm4.g));clear hA4 hb4 fm4;unfold tv at CF)
      | (go_simp;go_at_call 21;(with_reducible refine CF.out.mono ?_);rintro e w5 ⟨ra,rc,he,hA5,hb5⟩;unfold tv at he;subst he;have fm5:=FM4.out.low HTL.out hb5;have p0:=fm5.k.c0;have p1:=fm5.k.c1;have p2:=fm5.k.c2;have p3:=fm5.k.c3;have g0:=fm5.k.fr 0;have g1:=fm5.k.fr 1;have g2:=fm5.k.fr 2;have g3:=fm5.k.fr 3;have HA5:=hid (hA5.mono fun b hb=>(hb.elim (fun h=>h.imp id fun h=>⟨h.1,ba_ h.2 hb5.size⟩) fun h=>.inr ⟨cj_ FM4.out.s h.1,h.2⟩:T b∨w.heap.size+2≤b∧b<w5.heap.size));have FM5:=hid fm5;have O5:=hid (aF_ O4.out fun b hb=>hb5.block b (O4.out.lt b hb).2);clear hA5 hb5 fm5))
     all_goals
      have FP:=hid (FM5.out.put HTL.out HA5.out);have OP:=hid (aF_ O5.out (w':=(((w5.setCell ⟨w.heap.size,0,none⟩ (.int .i64 (bH_ m u' x).kind)).setCell ⟨w.heap.size,1,none⟩ (.string (bH_ m u' x).name)).setCell ⟨w.heap.size,2,none⟩ (.int .i64 (bH_ m u' x).n)).setCell ⟨w.heap.size,3,none⟩ (.slice ra (bH_ m u' x).args.length rc)) fun b hb=>by
       have hne:b≠w.heap.size:=(by have:=(O5.out.lt b hb).1;omega);rw[aB_ _ _ _ _ hne,aB_ _ _ _ _ hne,aB_ _ _ _ _ hne,aB_ _ _ _ _ hne])
      go_wp2;go_roundw
      case rel=>exact⟨j+1,_,ra,rc,by go_num,by omega,HR.out,GX.out,FP.out,OP.out⟩
      case measure=>simp[intOf];omega
   ·obtain rfl:j=ms.length:=by omega
    have E:Hid (x=r):=hid (by rw[List.drop_length,dH_] at hfx;injection hfx);obtain⟨y0,y1,y2,y3⟩:=hfm.z.c03;obtain⟨fz0,fz1,fz2,fz3⟩:=hfm.z.f03;clear hfx hsx hfm ho;go_wp2;have q:=FMR.out.z.set4 (.int .i64 x.kind) (.string x.name) (.int .i64 x.n) (.slice xa x.args.length xc);refine bodyPost_ret (v:=tv x xa xc) (by simp[results,Tryz.results37,go_sem,tv,q.c0,q.c1,q.c2,q.c3]) rfl ?_;have off:∀ b,b≠w.heap.size+1→((((wr.setCell ⟨w.heap.size+1,0,none⟩ (.int .i64 x.kind)).setCell ⟨w.heap.size+1,1,none⟩ (.string x.name)).setCell ⟨w.heap.size+1,2,none⟩ (.int .i64 x.n)).setCell ⟨w.heap.size+1,3,none⟩ (.slice xa x.args.length xc)).heap[b]? = wr.heap[b]? := fun b hb=>by
     rw[aB_ _ _ _ _ hb,aB_ _ _ _ _ hb,aB_ _ _ _ _ hb,aB_ _ _ _ _ hb]
    rw[← E.out];refine⟨xa,xc,rfl,(FMR.out.a.keep (B:=(((wr.setCell ⟨w.heap.size+1,0,none⟩ (.int .i64 x.kind)).setCell ⟨w.heap.size+1,1,none⟩ (.string x.name)).setCell ⟨w.heap.size+1,2,none⟩ (.int .i64 x.n)).setCell ⟨w.heap.size+1,3,none⟩ (.slice xa x.args.length xc)) fun b hb=>off b (by rcases hb with h|h;have:=HTL.out b h;omega;omega)).mono fun b hb=>hb.imp id fun h=>⟨by omega,by simpa using h.2⟩,?_⟩;exact (((FMR.out.g.setCell (p:=⟨w.heap.size+1,0,none⟩) (Nat.le_succ _) _).setCell (p:=⟨w.heap.size+1,1,none⟩) (Nat.le_succ _) _).setCell (p:=⟨w.heap.size+1,2,none⟩) (Nat.le_succ _) _).setCell (p:=⟨w.heap.size+1,3,none⟩) (Nat.le_succ _) _
theorem nA_ (l:List ByteArray)(p:ByteArray→Bool)(k:Nat)(h:k<l.length):(l.take (k+1)).any p=((l.take k).any p || p l[k]):=by
 rw[List.take_add_one,List.getElem?_eq_getElem h,List.any_append];simp only[Option.toList_some,List.any_cons,List.any_nil,Bool.or_false]
theorem lv_ (f:FuncId)(cs:Array Value)(hf:∀ args w,(callFunc f args).run Tryz.prog w=.ok (.enter f args) w)(p:ByteArray→Bool)(l:List ByteArray)(S:Nat→Prop)(v:Value)(w:World)(hA:aJ_ S w v l)(hS:∀ b,S b→b<w.heap.size)
  (hat:∀ (i:Nat) (hi:i<l.length) (W:World),Below w.heap.size w W→Calls Tryz.prog f (#[.string l[i]]++cs) W (cA_ W (p l[i]))) :
  Calls Tryz.prog 134 #[v,.func (.func f) #[] cs] w (nP_ w (l.any p)):=by
 obtain⟨a,c,rfl,hlc,hl,hn,hc⟩:=hA;have HC:=hid hc;have HS:=hid hS;have HAT:=hid hat;clear hc hS hat hlc hn;go_enter Tryz.func134,Tryz.ntmps134;go_wp2
 go_loopw [8] (fun iv wr=>∃ i:Nat,iv=.int .i64 i∧i≤l.length∧(l.take i).any p=false∧Below w.heap.size w wr) (fun iv _=>l.length - (intOf iv).toNat)
 case atStart=>exact⟨0,rfl,Nat.zero_le _,rfl,Below.refl _ _⟩
 case round =>
  obtain⟨i,rfl,hil,hno,hB⟩:=hrel;have NO:=hid hno;have HB:=hid hB;clear hno
  by_cases hi:i<l.length
  ·have z0:(0:Int)≤(i:Int):=by omega
   have z1:(i:Int)<(l.length:Int):=(by omega);obtain⟨b,off,rfl,hb,hcc⟩:=HC.out.resolve_left (by intro e;rw[e] at hi;simp at hi);have f0:=(World.cell?_of_block (hB.block b (HS.out b hb))).trans (hcc i hi);have CF:=hid (HAT.out i hi wr hB);have AT:=hid (nA_ l p i hi);clear hB hcc;go_wp2_with fail;refine CF.out.mono ?_;rintro e W4 ⟨rfl,hb4⟩;have B4':=hid (HB.out.trans (hb4.mono HB.out.size));clear hb4;cases hp:p l[i] with
   | true =>
    have hany:Hid (l.any p=true):=hid (List.any_eq_true.2 ⟨_,List.getElem_mem hi,hp⟩);clear hp;go_wp2;go_ret;exact⟨i,rfl,by rw[hany.out];exact decide_eq_true z0,B4'.out⟩
   | false =>
    have st:Hid ((l.take (i+1)).any p=false):=hid (by rw[AT.out,NO.out,hp];rfl);clear hp;go_wp2;go_roundw
    case rel=>exact⟨i+1,by go_num,by omega,st.out,B4'.out⟩
    case measure=>simp[intOf];omega
  ·obtain rfl:i=l.length:=by omega
   clear hB;go_wp2;go_ret;refine⟨-1,rfl,?_,HB.out⟩;have:=NO.out;rw[List.take_length] at this;rw[this];rfl
theorem g9_ (f:FuncId)(cs:Array Value)(hf:∀ args w,(callFunc f args).run Tryz.prog w=.ok (.enter f args) w)(p:ByteArray→Bool)(l:List ByteArray)(S:Nat→Prop)(v:Value)(w:World)(hA:aJ_ S w v l)(hS:∀ b,S b→b<w.heap.size)
  (hat:∀ (i:Nat) (hi:i<l.length) (W:World),Below w.heap.size w W→Calls Tryz.prog f (#[.string l[i]]++cs) W (cA_ W (p l[i]))) :
  Calls Tryz.prog 98 #[v,.func (.func f) #[] cs] w (cA_ w (l.any p)):=by
 have CI:=hid (lv_ f cs hf p l S v w hA hS hat);clear hA hS hat hf;go_enter Tryz.func98,Tryz.ntmps98;go_wp2_with fail;refine CI.out.mono ?_;rintro e w4 ⟨k,rfl,hk,hb4⟩;have B4':=hid hb4;have HK:=hid hk;clear hb4 hk;go_wp2;go_ret;exact⟨bd_ HK.out,B4'.out⟩
theorem no_ (args:Array Value)(w:World):(callFunc 99 args).run Tryz.prog w=.ok (.enter 99 args) w :=
 enters_of Tryz.func99 (by kernel_rfl) rfl args w
def jI_ (s:ByteArray):Bool:=s.data.toList.headD 0==36
theorem l5_ (a b:ByteArray):∃ q:Bool,(a.toList==b.toList)=q∧(q=true↔a=b):=⟨_,rfl,by rw[beq_iff_eq,ByteArray.toList_eq,ByteArray.toList_eq];exact⟨fun h=>ByteArray.ext (Array.toList_inj.1 h),fun h=>by rw[h]⟩⟩
theorem ext1 (s:ByteArray)(h1:1≤s.size):s.extract 0 1=⟨#[36]⟩↔jI_ s=true:=by
 have he:(s.extract 0 1).data.toList=s.data.toList.take 1:=by simp
 have hl:s.data.toList.length=s.size:=by rw[Array.length_toList];rfl
 unfold jI_;cases hs:s.data.toList with
 | nil=>rw[hs] at hl;simp at hl;omega
 | cons c l =>
  rw[hs] at he;simp only[List.take_succ_cons,List.take_zero] at he;simp only[List.headD_cons,beq_iff_eq]
  constructor
  ·intro e;rw[e] at he;simpa using he.symm
  ·intro e
   subst e;apply ByteArray.ext;apply Array.ext';rw[he]
theorem q1_ (s:ByteArray)(h1:1≤s.size)(w:World):Calls Tryz.prog 99 #[.string s] w (cA_ w (jI_ s)):=by
 have z1:(1:Int)≤(s.size:Int):=by omega
 obtain⟨q,e1,e2⟩:∃ q:Bool,((s.extract 0 1).toList==[36])=q∧(q=true↔s.extract 0 1=⟨#[36]⟩):=by
  obtain⟨q,e1,e2⟩:=l5_ (s.extract 0 1) ⟨#[36]⟩;rw[show (⟨#[36]⟩:ByteArray).toList=[36] from by kernel_rfl] at e1;exact⟨q,e1,e2⟩
 have E:Hid (jI_ s=q):=hid (by
  have h:=(ext1 s h1);cases q with
  | true=>exact h.1 (e2.1 rfl)
  | false =>
   cases hd:jI_ s with
   | false=>rfl
   | true=>have:=e2.2 (h.2 hd);cases this)
 clear e2;go_enter Tryz.func99,Tryz.ntmps99;go_wp2;go_ret;exact⟨by rw[E.out];rfl,Below.refl _ _⟩
def nN_ (T:Nat→Prop)(n0:Nat)(w:World)(wb kb:Nat)(L:List EqT)(fr:Nat)(v:Value)(ps:List (Value × Value))(res:Except Nat Kn)(e:Ending)(w':World):Prop :=
 match res with
 | .error er=>e=.returned (.int .i64 (er:Int))∧Below w.heap.size w w'
 | .ok K=>e=.returned (.int .i64 0)∧UM T n0 w' wb kb ⟨K,L,fr⟩ v ps∧GB (XW wb kb v) w w'
theorem UM.learn {T:Nat→Prop}{n0:Nat}{w w':World}{wb kb:Nat}{K K':Kn}{L:List EqT}{fr:Nat}{v:Value}{ps:List (Value × Value)}(h:UM T n0 w wb kb ⟨K,L,fr⟩ v ps)(hk:g5_ T w' kb K')(hg:w.grownBy w' (some kb)) :
  UM T n0 w' wb kb ⟨K',L,fr⟩ v ps∧GB (XW wb kb v) w w':=by
 have off:∀ b,b<w.heap.size→b≠kb→w'.heap[b]? = w.heap[b]? := fun b hb hne=>hg.block b hb fun e=>hne (Option.some.inj e);exact⟨⟨h.wk.grown hg fun e=>h.ne (Option.some.inj e).symm,hk,h.row.keep (fun b e=>off b (h.row.own.lt b e).2 (h.sep b e).2) fun j hj=>off j (h.t j hj).1 (h.t j hj).2.2.1,h.ne,h.lo,h.sep,fun b hT=>⟨ba_ (h.t b hT).1 hg.size,(h.t b hT).2⟩⟩,
  ⟨hg.os,hg.tape,hg.output,hg.size,fun k hk hx=>off k hk fun e=>hx (.inr (.inl e))⟩⟩
theorem ls_ {T:Nat→Prop}{n0:Nat}{w:World}{wb kb:Nat}{K:Kn}{L:List EqT}{fr:Nat}{v:Value}{ps:List (Value × Value)}{m:Int}{t:Ty}{a:OA_}{c:Nat}(h:UM T n0 w wb kb ⟨K,L,fr⟩ v ps)(hA:aa_ T w (.slice a t.args.length c) t.args)(hs:bG_ t)(hl:lkK K m=none)(hne:∀ s∈ai_ t,1≤s.size) :
  Calls Tryz.prog 62 #[.pointer (some ⟨wb,0,none⟩),.int .i64 m,tv t a c] w (nN_ T n0 w wb kb L fr v ps (hv_ K m t)):=by
 have hTl:∀ b,T b→b<w.heap.size:=fun b hb=>(h.t b hb).1;have hsz:t.size≤4500000000000:=by have:=hs.2.1;omega
 have hz:=aw_ w (.cells #[.int .i64 t.kind,.string t.name,.int .i64 t.n,.slice a t.args.length c] 37);have b4:=B4.new w (.int .i64 t.kind) (.string t.name) (.int .i64 t.n) (.slice a t.args.length c);have AT:Hid (∀ W:World,Below w.heap.size w W→aa_ T W (.slice a t.args.length c) t.args):=hid fun W hb=>hA.keep fun b hT=>hb.block b (hTl b hT);have LT:Hid (∀ W:World,Below w.heap.size w W→∀ b,T b→b<W.heap.size):=hid fun W hb b hT=>ba_ (hTl b hT) hb.size;have CM:=hid (gx_ t T a c _ (AT.out _ hz) (LT.out _ hz) hsz);have HZ:=hid hz;have KB:=hid b4;have HH:=hid h;have HS:=hid hs;have HSZ:=hid hsz;have HL:=hid hl;have HNE:=hid hne;have ER:Hid (hv_ K m t=if (ap_ t).contains m then .error 41 else if eR_ t then .error 42 else if fX_ (ai_ t) then .error 43 else .ok (K++[(m,t)])):=hid rfl;obtain⟨c0,c1,c2,c3⟩:=b4.c03;clear h hA hs hl hne hTl hsz hz b4;unfold tv at CM ⊢;unfold fs_ at CM;generalize ap_ t=ms at *;go_enter Tryz.func62,Tryz.ntmps62;go_wp2_with fail;refine CM.out.mono ?_;rintro e w1 ⟨mv,rfl,ho,hml,hb1⟩;have B1:=hid (HZ.out.trans (hb1.mono HZ.out.size));have K1:=hid (KB.out.low hb1);have CC:=hid (f1_ ho (by have:=HSZ.out;omega) m);clear c0 c1 c2 c3 ho hml hb1;obtain⟨c0,c1,c2,c3⟩:=K1.out.c03;go_wp2_with fail;refine CC.out.mono ?_;rintro e w1' ⟨rfl,rfl⟩;generalize hc:ms.contains m=q at *;cases q with
 | true =>
  have E:Hid (hv_ K m t=.error 41):=hid (by rw[ER.out,if_pos rfl]);go_wp2;go_ret;rw[E.out];exact⟨rfl,B1.out⟩
 | false =>
  have CP:=hid (kl_ t T a c w1 (AT.out _ B1.out) (LT.out _ B1.out) HSZ.out);unfold tv at CP;go_wp2_with fail;refine CP.out.mono ?_;rintro e w2 ⟨rfl,hb2⟩;have B2:=hid (B1.out.trans (hb2.mono B1.out.size));have K2:=hid (K1.out.low hb2);clear c0 c1 c2 c3 hb2;obtain⟨c0,c1,c2,c3⟩:=K2.out.c03;generalize hp:eR_ t=q at *;cases q with
  | true =>
   have E:Hid (hv_ K m t=.error 42):=hid (by rw[ER.out];rfl);go_wp2;go_ret;rw[E.out];exact⟨rfl,B2.out⟩
  | false =>
   have CF:=hid (dj_ t T a c w2 (AT.out _ B2.out) (LT.out _ B2.out) HSZ.out);unfold tv kQ_ at CF;go_wp2_with fail;refine CF.out.mono ?_;rintro e w3 ⟨fv,rfl,ho3,hfl,hb3⟩;have B3:=hid (B2.out.trans (hb3.mono B2.out.size));have K3:=hid (K2.out.low hb3);clear c0 c1 c2 c3;obtain⟨c0,c1,c2,c3⟩:=K3.out.c03;have CN:=hid (g9_ 99 #[] no_ jI_ (ai_ t) _ fv w3 (aJ_.of_own ho3 (by have:=HSZ.out;omega)) (fun b hb=>(ho3.lt b hb).2) (fun i hi W _=>q1_ _ (HNE.out _ (List.getElem_mem hi)) W));clear ho3 hfl hb3;go_wp2_with fail;refine CN.out.mono ?_;rintro e w4 ⟨rfl,hb4⟩;have B4_:=hid (B3.out.trans (hb4.mono B3.out.size));have K4:=hid (K3.out.low hb4);clear c0 c1 c2 c3 hb4;obtain⟨c0,c1,c2,c3⟩:=K4.out.c03;generalize hq:(ai_ t).any jI_=q at *;cases q with
   | true =>
    have E:Hid (hv_ K m t=.error 43):=hid (by rw[ER.out];simp only[Bool.false_eq_true,if_false];rw[if_pos (show fX_ (ai_ t)=true from hq)]);go_wp2;go_ret;rw[E.out];exact⟨rfl,B4_.out⟩
   | false =>
    have E:Hid (hv_ K m t=.ok (K++[(m,t)])):=hid (by rw[ER.out];simp only[Bool.false_eq_true,if_false];rw[if_neg (by rw[show fX_ (ai_ t)=false from hq];decide)]);have hu:=(HH.out.low B4_.out);have hud:=hu.low (Below.refl _ _).drew;obtain⟨W5,hrun,hk5,hg5,hz5⟩:=hud.kn.update Tryz.underlying73 Tryz.underlying3 HL.out (AT.out _ (B4_.out.trans ((Below.refl _ _).drew.mono B4_.out.size))) (fun hT=>(hud.t _ hT).2.2.1 rfl);obtain⟨hu5,hgb5⟩:=hud.learn hk5 hg5;have HU5:=hid hu5;have G5:=hid ((GB.of_below (X:=XW wb kb v) (B4_.out.trans ((Below.refl _ _).drew.mono B4_.out.size))).trans hgb5 fun _ _ h=>h);have x1:=hu.wk.c1;clear hu hud hk5 hg5 hz5 hu5 hgb5 hq hp hc;unfold tv at hrun;go_wp2
    go_region
    all_goals
     go_wp2;go_ret;rw[E.out];exact⟨rfl,HU5.out,G5.out⟩
end Go.Proofs.YtjecnionbjlncaaGreatDoor.Tp

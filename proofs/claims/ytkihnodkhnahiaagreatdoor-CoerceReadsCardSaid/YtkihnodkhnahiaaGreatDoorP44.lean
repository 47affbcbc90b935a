/- Packed. -/
import Derived.Test.YtkihnodkhnahiaaGreatDoorP43
set_option maxRecDepth 100000
set_option maxHeartbeats 6400000
namespace Go.Proofs.YtkihnodkhnahiaaGreatDoor.Tp
section
open Go.RowKit Go.Sort
open Lx
def bU_ (g:List Giv)(s:ByteArray):List UInt8:=match aY_ s.data.toList with
 | .error _=>[110,111,110,101]
 | .ok c=>match hw_ g c with
  | none=>[119,114,111,110,103]
  | some p=>bi_ p.1++[32,126,32]++bi_ p.2
theorem ib_ {t:Ty}(hs:jJ_ t):(bi_ t).length≤4500000000000:=by
 have h1:=hs.2.1;have h2:=hs.2.2;have hm:t.size*((aK_ t).length+1)≤4611686018427387904:=ia_ t hs.2.1 hs.2.2;have KP:=gZ_ t.depth (aK_ t) t 0 (aw_ _) hs.1 (by omega) (by omega);have h3:=f1_ (db_ t) KP.2.2.2.2.1;have h4:(db_ t).size=t.size:=KP.2.2.2.1;show (ae_ (db_ t)).length≤_;omega
theorem dv_ {q:Nat}{g:List Giv}{gv:Value}{w:World}(s:ByteArray)(hs:s.size≤maxLen)(hgo:eP_ q g)(hG:dk_ (Lt w.heap.size) w gv g)(ht:∀ c,aY_ s.data.toList=.ok c→hz_ q c)(hT:Tab w)(hV:Vs w) :
  Calls Tryz.prog 22 #[gv,.string s] w (aQ_ w (bU_ g s)):=by
 have PE:=hid (q7_ w hV s hs);have HG:=hid hG;have HGO:=hid hgo;have HTM:=hid ht;have HT:=hid hT;have ES:Hid (∀ r,bU_ g s=r→Calls Tryz.prog 22 #[gv,.string s] w (aQ_ w r)→Calls Tryz.prog 22 #[gv,.string s] w (aQ_ w (bU_ g s))):=hid fun r h H=>by rw[h];exact H
 clear hG hgo ht hT hV;cases hp:aY_ s.data.toList with
 | error er0 =>
  have E:bU_ g s=[110,111,110,101]:=by unfold bU_;rw[hp]
  rw[hp] at PE;refine ES.out _ E ?_;clear E hp ES;go_enter Tryz.func22,Tryz.ntmps22;go_wp2_with fail;refine PE.out.mono ?_;rintro e w1 ⟨c,a,m,ka,km,er,rfl,hC,hB,hres⟩;have B1:=hid hB;have z0:((er:Int) != 0)=true:=by
   rcases hres with ⟨h,_⟩|⟨_,h⟩
   ·cases h
   ·rw[bne_iff_ne];omega
  clear hC hB hres;go_wp2;go_ret;exact⟨rfl,B1.out⟩
 | ok c0 =>
  have TM:=hid (HTM.out c0 hp);cases hsay:hw_ g c0 with
  | none =>
   have E:bU_ g s=[119,114,111,110,103]:=by unfold bU_;rw[hp];simp only;rw[hsay]
   rw[hp] at PE;refine ES.out _ E ?_;have HS:=hid hsay;clear E hp ES hsay;go_enter Tryz.func22,Tryz.ntmps22;go_wp2_with fail;refine PE.out.mono ?_;rintro e w1 ⟨c,a,m,ka,km,er,rfl,hC,hB,hres⟩;obtain⟨rfl,rfl⟩:c0=c∧er=0:=by
    rcases hres with ⟨h,h2⟩|⟨h,_⟩
    ·injection h with h;exact⟨h,h2⟩
    ·cases h
   have SA:=hid (qr_ HGO.out (HG.out.low hB) hC.at_ TM.out (ag_ HT.out hB));have B1:=hid hB;have c0_:=hC.k.c0;have c1:=hC.k.c1;have c2:=hC.k.c2;have c3:=hC.k.c3;have c4:=hC.k.c4;have c5:=hC.k.c5;have c6:=hC.k.c6;have c7:=hC.k.c7;clear hC hB hres;go_wp2_with fail;refine SA.out.mono ?_;rintro e w2 ⟨x,y,xa,xc,ya,yc,er2,rfl,hX,hY,hB,hres⟩;have z2:((er2:Int) != 0)=true:=by
    rcases hres with ⟨h,_⟩|⟨_,rfl⟩
    ·rw[HS.out] at h;cases h
    ·rfl
   have B2:=hid (B1.out.trans (hB.mono B1.out.size));clear hX hY hB hres;go_wp2;go_ret;exact⟨rfl,B2.out⟩
  | some p =>
   obtain⟨x0,y0⟩:=p;have E:bU_ g s=bi_ x0++[32,126,32]++bi_ y0:=by unfold bU_;rw[hp];simp only;rw[hsay]
   rw[hp] at PE;refine ES.out _ E ?_;have HS:=hid hsay;have SM:=hid (lL_ HGO.out TM.out hsay);clear E hp ES hsay;go_enter Tryz.func22,Tryz.ntmps22;go_wp2_with fail;refine PE.out.mono ?_;rintro e w1 ⟨c,a,m,ka,km,er,rfl,hC,hB,hres⟩;obtain⟨rfl,rfl⟩:c0=c∧er=0:=by
    rcases hres with ⟨h,h2⟩|⟨h,_⟩
    ·injection h with h;exact⟨h,h2⟩
    ·cases h
   have SA:=hid (qr_ HGO.out (HG.out.low hB) hC.at_ TM.out (ag_ HT.out hB));have B1:=hid hB;have c0_:=hC.k.c0;have c1:=hC.k.c1;have c2:=hC.k.c2;have c3:=hC.k.c3;have c4:=hC.k.c4;have c5:=hC.k.c5;have c6:=hC.k.c6;have c7:=hC.k.c7;clear hC hB hres;go_wp2_with fail;refine SA.out.mono ?_;rintro e w2 ⟨x,y,xa,xc,ya,yc,er2,rfl,hX,hY,hB,hres⟩;obtain⟨rfl,rfl,rfl⟩:x0=x∧y0=y∧er2=0:=by
    rcases hres with ⟨h,h2⟩|⟨h,_⟩
    ·rw[HS.out] at h;injection h with h;injection h with h3 h4;exact⟨h3,h4,h2⟩
    ·rw[HS.out] at h;cases h
   have B2:=hid (B1.out.trans (hB.mono B1.out.size));have DX:=hid (fun p=>ce_ (iG_ (hX.at_.low (az_ _ p)) SM.out.1 (ag_ HT.out (B2.out.trans ((az_ _ p).mono B2.out.size)))));have DY:=hid (fun p=>ce_ (iG_ (hY.at_.low (az_ _ p)) SM.out.2 (ag_ HT.out (B2.out.trans ((az_ _ p).mono B2.out.size)))));have k0:=ai_ hX.k.c0;have k1:=ai_ hX.k.c1;have k2:=ai_ hX.k.c2;have k3:=ai_ hX.k.c3;have l0:=ai_ hY.k.c0;have l1:=ai_ hY.k.c1;have l2:=ai_ hY.k.c2;have l3:=ai_ hY.k.c3;have z2:(((0:Nat):Int) != 0)=false:=rfl;have hl1:=ib_ SM.out.1;have hl2:=ib_ SM.out.2;have EQ:Hid (aa_ (bi_ x0)++⟨#[32,126,32]⟩++aa_ (bi_ y0)=aa_ (bi_ x0++[32,126,32]++bi_ y0)):=hid (by show aa_ _++aa_ [32,126,32]++aa_ _=_;rw[ah_,ah_]);rw[← am_] at hl1 hl2;clear hX hY hB hres c0_ c1 c2 c3 c4 c5 c6 c7 z2;unfold aQ_ at *;generalize aa_ (bi_ x0++[32,126,32]++bi_ y0)=sr at *;generalize aa_ (bi_ x0)=s1 at *;generalize aa_ (bi_ y0)=s2 at *;go_wp2;refine bb_ (by kernel_rfl) (by kernel_rfl) ?_
   repeat (go_big_quiet_step ((first|(with_reducible exact DX.out _)|(with_reducible exact DY.out _))))
   refine wpQuiet_nil ?_;intro _ hw';obtain⟨pq,hw''⟩:=hw';subst hw'';go_wp2;go_ret;exact⟨by rw[← EQ.out];rfl,B2.out.trans ((az_ _ _).mono B2.out.size)⟩
end
section
open Lx
def ln5:List Ln:=[⟨⟨#[99]⟩,⟨#[97]⟩,⟨#[73,110,116]⟩⟩,⟨⟨#[100]⟩,⟨#[84,32,97]⟩,⟨#[84,32,98]⟩⟩]
def g5:List Giv:=[⟨⟨#[99]⟩,gG_ [97],(fu_ [73,110,116] [])⟩,⟨⟨#[100]⟩,(fu_ [84] [gG_ [97]]),(fu_ [84] [gG_ [98]])⟩]
theorem rd5:gU_ ln5=some g5:=by kernel_rfl
theorem ok5:eP_ 120 g5:=pj_ rd5
theorem fZ_ {g:List Giv}{s:ByteArray}{c:Co}(h:aY_ s.data.toList=.ok c)(h2:hw_ g c=none):bU_ g s=[119,114,111,110,103]:=by unfold bU_;rw[h];simp only;rw[h2]
theorem hI_ {g:List Giv}{s:ByteArray}{c:Co}{p:Ty × Ty}(h:aY_ s.data.toList=.ok c)(h2:hw_ g c=some p):bU_ g s=bi_ p.1++[32,126,32]++bi_ p.2:=by unfold bU_;rw[h];simp only;rw[h2]
def s50:ByteArray:=⟨#[40,84,114,97,110,115,32,40,83,121,109,32,99,41,32,60,97,62,41]⟩
def c50:Co:=.mk 4 e0 0 (tz) [(.mk 3 e0 0 (tz) [(.mk 1 ⟨#[99]⟩ 0 (tz) [])]),(.mk 2 e0 0 (gG_ [97]) [])]
theorem p50:aY_ s50.data.toList=.ok c50:=by kernel_rfl
theorem t50:hz_ 120 c50:=bZ_ p50 (by decide) (of_decide_eq_true (by kernel_rfl))
theorem r50:bU_ g5 s50=[73,110,116,32,126,32,97]:=by kernel_rfl
def s51:ByteArray:=⟨#[40,78,116,104,32,48,32,40,84,114,97,110,115,32,100,32,60,84,32,98,62,41,41]⟩
def c51:Co:=.mk 8 e0 0 (tz) [(.mk 4 e0 0 (tz) [(.mk 1 ⟨#[100]⟩ 0 (tz) []),(.mk 2 e0 0 ((fu_ [84] [gG_ [98]])) [])])]
theorem p51:aY_ s51.data.toList=.ok c51:=by kernel_rfl
theorem t51:hz_ 120 c51:=bZ_ p51 (by decide) (of_decide_eq_true (by kernel_rfl))
theorem r51:bU_ g5 s51=[97,32,126,32,98]:=by kernel_rfl
def s52:ByteArray:=⟨#[40,67,111,110,32,80,32,99,32,40,70,117,110,32,60,85,62,32,40,83,121,109,32,99,41,41,41]⟩
def c52:Co:=.mk 5 ⟨#[80]⟩ 0 (tz) [(.mk 1 ⟨#[99]⟩ 0 (tz) []),(.mk 6 e0 0 (tz) [(.mk 2 e0 0 ((fu_ [85] [])) []),(.mk 3 e0 0 (tz) [(.mk 1 ⟨#[99]⟩ 0 (tz) [])])])]
theorem p52:aY_ s52.data.toList=.ok c52:=by kernel_rfl
theorem t52:hz_ 120 c52:=bZ_ p52 (by decide) (of_decide_eq_true (by kernel_rfl))
theorem r52:bU_ g5 s52=[80,32,97,32,40,85,32,45,62,32,73,110,116,41,32,126,32,80,32,73,110,116,32,40,85,32,45,62,32,97,41]:=by kernel_rfl
def s53:ByteArray:=⟨#[40,65,108,108,32,101,32,40,70,117,110,32,60,101,62,32,99,41,41]⟩
def c53:Co:=.mk 7 ⟨#[101]⟩ 0 (tz) [(.mk 6 e0 0 (tz) [(.mk 2 e0 0 (gG_ [101]) []),(.mk 1 ⟨#[99]⟩ 0 (tz) [])])]
theorem p53:aY_ s53.data.toList=.ok c53:=by kernel_rfl
theorem t53:hz_ 120 c53:=bZ_ p53 (by decide) (of_decide_eq_true (by kernel_rfl))
theorem y53:hw_ g5 c53=some (.mk 5 (fB_ 1) 0 [(ik_ (.mk 1 (fB_ 1) 0 []) (gG_ [97]))],.mk 5 (fB_ 1) 0 [(ik_ (.mk 1 (fB_ 1) 0 []) ((fu_ [73,110,116] [])))]):=by kernel_rfl
theorem r53:bU_ g5 s53=[102,111,114,97,108,108,32,120,48,46,32,120,48,32,45,62,32,97,32,126,32,102,111,114,97,108,108,32,120,48,46,32,120,48,32,45,62,32,73,110,116]:=by
 have h:=du_ 120 c53.deep g5 c53 _ ok5 t53.w t53.s t53.b y53;rw[hI_ p53 y53];show ae_ (db_ _)++_++ae_ (db_ _)=_;rw[e6_ h.1.1.1 rfl rfl,e6_ h.2.1.1 rfl rfl]
 kernel_rfl
def s54:ByteArray:=⟨#[40,65,108,108,32,97,32,40,70,117,110,32,60,97,62,32,99,41,41]⟩
def c54:Co:=.mk 7 ⟨#[97]⟩ 0 (tz) [(.mk 6 e0 0 (tz) [(.mk 2 e0 0 (gG_ [97]) []),(.mk 1 ⟨#[99]⟩ 0 (tz) [])])]
theorem p54:aY_ s54.data.toList=.ok c54:=by kernel_rfl
theorem t54:hz_ 120 c54:=bZ_ p54 (by decide) (of_decide_eq_true (by kernel_rfl))
theorem y54:hw_ g5 c54=some (.mk 5 (fB_ 1) 0 [(ik_ (.mk 1 (fB_ 1) 0 []) (gG_ [97]))],.mk 5 (fB_ 1) 0 [(ik_ (.mk 1 (fB_ 1) 0 []) ((fu_ [73,110,116] [])))]):=by kernel_rfl
theorem r54:bU_ g5 s54=[102,111,114,97,108,108,32,120,48,46,32,120,48,32,45,62,32,97,32,126,32,102,111,114,97,108,108,32,120,48,46,32,120,48,32,45,62,32,73,110,116]:=by
 have h:=du_ 120 c54.deep g5 c54 _ ok5 t54.w t54.s t54.b y54;rw[hI_ p54 y54];show ae_ (db_ _)++_++ae_ (db_ _)=_;rw[e6_ h.1.1.1 rfl rfl,e6_ h.2.1.1 rfl rfl]
 kernel_rfl
def s55:ByteArray:=⟨#[40,73,110,115,116,32,60,102,111,114,97,108,108,32,101,46,32,101,32,45,62,32,101,62,32,60,73,110,116,62,41]⟩
def c55:Co:=.mk 9 e0 0 ((fu_ [73,110,116] [])) [(.mk 2 e0 0 (e9_ [101] (ik_ (gG_ [101]) (gG_ [101]))) [])]
theorem p55:aY_ s55.data.toList=.ok c55:=by kernel_rfl
theorem t55:hz_ 120 c55:=bZ_ p55 (by decide) (of_decide_eq_true (by kernel_rfl))
theorem r55:bU_ g5 s55=[73,110,116,32,45,62,32,73,110,116,32,126,32,73,110,116,32,45,62,32,73,110,116]:=by kernel_rfl
def s56:ByteArray:=⟨#[40,84,114,97,110,115,32,99,32,99,41]⟩
def c56:Co:=.mk 4 e0 0 (tz) [(.mk 1 ⟨#[99]⟩ 0 (tz) []),(.mk 1 ⟨#[99]⟩ 0 (tz) [])]
theorem p56:aY_ s56.data.toList=.ok c56:=by kernel_rfl
theorem t56:hz_ 120 c56:=bZ_ p56 (by decide) (of_decide_eq_true (by kernel_rfl))
theorem r56:bU_ g5 s56=[119,114,111,110,103]:=fZ_ p56 (by kernel_rfl)
def s57:ByteArray:=⟨#[40,78,116,104,32,49,32,100,41]⟩
def c57:Co:=.mk 8 e0 1 (tz) [(.mk 1 ⟨#[100]⟩ 0 (tz) [])]
theorem p57:aY_ s57.data.toList=.ok c57:=by kernel_rfl
theorem t57:hz_ 120 c57:=bZ_ p57 (by decide) (of_decide_eq_true (by kernel_rfl))
theorem r57:bU_ g5 s57=[119,114,111,110,103]:=fZ_ p57 (by kernel_rfl)
def s58:ByteArray:=⟨#[120]⟩
def c58:Co:=.mk 1 ⟨#[120]⟩ 0 (tz) []
theorem p58:aY_ s58.data.toList=.ok c58:=by kernel_rfl
theorem t58:hz_ 120 c58:=bZ_ p58 (by decide) (of_decide_eq_true (by kernel_rfl))
theorem r58:bU_ g5 s58=[119,114,111,110,103]:=fZ_ p58 (by kernel_rfl)
end
section
open Go.RowKit Go.Sort
theorem cS_ (l:List UInt8):(aa_ l).toList=l:=by rw[ByteArray.toList_eq];simp[aa_]
theorem lin5 (w:World):mz_ (w.alloc (.cells #[.string ⟨#[99]⟩,.string ⟨#[97]⟩,.string ⟨#[73,110,116]⟩,.string ⟨#[100]⟩,.string ⟨#[84,32,97]⟩,.string ⟨#[84,32,98]⟩] 43)) (.slice (some ⟨w.heap.size,0,none⟩) 2 2) ln5:=by
 have hb:=heap_alloc_new w (.cells #[.string ⟨#[99]⟩,.string ⟨#[97]⟩,.string ⟨#[73,110,116]⟩,.string ⟨#[100]⟩,.string ⟨#[84,32,97]⟩,.string ⟨#[84,32,98]⟩] 43);refine⟨_,2,rfl,aw_ _,by decide,fun x hx=>?_,.inr ⟨w.heap.size,0,rfl,by simp,fun j hj=>?_⟩⟩
 ·have:x=ln5[0]'(by decide)∨x=ln5[1]'(by decide):=by
   rcases List.mem_cons.1 hx with h|h
   ·exact .inl h
   ·exact .inr (List.mem_singleton.1 h)
  rcases this with rfl|rfl<;>exact⟨by decide,by decide,by decide⟩
 ·have hj2:j<2:=hj
  match j,hj2 with
  | 0,_=>exact⟨cell_of_row _ _ 0 _ _ _ hb,cell_of_row _ _ 1 _ _ _ hb,cell_of_row _ _ 2 _ _ _ hb⟩
  | 1,_=>exact⟨cell_of_row _ _ 3 _ _ _ hb,cell_of_row _ _ 4 _ _ _ hb,cell_of_row _ _ 5 _ _ _ hb⟩
theorem rY_ (w:World)(hT:Tab w)(hV:Vs w):Calls Tryz.prog 8 #[] w fun e w'=>e=.returned (.bool true)∧Below w.heap.size w w':=by
 have hz:=ao_ w (.cells #[.string ⟨#[99]⟩,.string ⟨#[97]⟩,.string ⟨#[73,110,116]⟩,.string ⟨#[100]⟩,.string ⟨#[84,32,97]⟩,.string ⟨#[84,32,98]⟩] 43);have HT:=hid hT;have HV:=hid hV.n;have RD:=hid (rr_ _ _ ln5 (lin5 w));have HZ:=hid hz;clear hT hV hz;have e0:(aa_ (bU_ g5 s50)).toList=[73,110,116,32,126,32,97]:=(cS_ _).trans r50;have e1:(aa_ (bU_ g5 s51)).toList=[97,32,126,32,98]:=(cS_ _).trans r51;have e2:(aa_ (bU_ g5 s52)).toList=[80,32,97,32,40,85,32,45,62,32,73,110,116,41,32,126,32,80,32,73,110,116,32,40,85,32,45,62,32,97,41]:=(cS_ _).trans r52;have e3:(aa_ (bU_ g5 s53)).toList=[102,111,114,97,108,108,32,120,48,46,32,120,48,32,45,62,32,97,32,126,32,102,111,114,97,108,108,32,120,48,46,32,120,48,32,45,62,32,73,110,116]:=(cS_ _).trans r53;have e4:(aa_ (bU_ g5 s54)).toList=[102,111,114,97,108,108,32,120,48,46,32,120,48,32,45,62,32,97,32,126,32,102,111,114,97,108,108,32,120,48,46,32,120,48,32,45,62,32,73,110,116]:=(cS_ _).trans r54;have e5:(aa_ (bU_ g5 s55)).toList=[73,110,116,32,45,62,32,73,110,116,32,126,32,73,110,116,32,45,62,32,73,110,116]:=(cS_ _).trans r55;have e6:(aa_ (bU_ g5 s56)).toList=[119,114,111,110,103]:=(cS_ _).trans r56;have e7:(aa_ (bU_ g5 s57)).toList=[119,114,111,110,103]:=(cS_ _).trans r57;have e8:(aa_ (bU_ g5 s58)).toList=[119,114,111,110,103]:=(cS_ _).trans r58;go_enter Tryz.func8,Tryz.ntmps8;go_wp2_with fail;refine RD.out.mono ?_;rintro e w0 ⟨a,l,c,b,l2,d,ok,rfl,hB,hres⟩;obtain⟨rfl,hG⟩:ok=true∧dk_ (Lt w0.heap.size) w0 (.slice a l c) g5:=by
  rcases hres with ⟨h,⟨g,hg,hG⟩,_⟩|⟨_,h⟩
  ·rw[rd5] at hg;injection hg with hg;subst hg;exact⟨h,hG⟩
  ·rw[rd5] at h;cases h
 have B0:=hid (HZ.out.trans (hB.mono HZ.out.size));have G0:=hid hG;clear hB hres hG RD HZ;have C:=hid (dv_ s50 (by decide) ok5 G0.out (fun c h=>by have h':=p50;rw[h] at h';injection h' with h';subst h';exact t50) (ag_ HT.out B0.out) (HV.out _ B0.out));go_wp2_with fail;refine C.out.mono ?_;rintro e w1 ⟨rfl,hB⟩;have B1:=hid (B0.out.trans (hB.mono B0.out.size));have G1:=hid (G0.out.low hB);clear hB C;generalize aa_ (bU_ g5 s50)=q0 at *;have C:=hid (dv_ s51 (by decide) ok5 G1.out (fun c h=>by have h':=p51;rw[h] at h';injection h' with h';subst h';exact t51) (ag_ HT.out B1.out) (HV.out _ B1.out));go_wp2_with fail;refine C.out.mono ?_;rintro e w2 ⟨rfl,hB⟩;have B2:=hid (B1.out.trans (hB.mono B1.out.size));have G2:=hid (G1.out.low hB);clear hB C;generalize aa_ (bU_ g5 s51)=q1 at *;have C:=hid (dv_ s52 (by decide) ok5 G2.out (fun c h=>by have h':=p52;rw[h] at h';injection h' with h';subst h';exact t52) (ag_ HT.out B2.out) (HV.out _ B2.out));go_wp2_with fail;refine C.out.mono ?_;rintro e w3 ⟨rfl,hB⟩;have B3:=hid (B2.out.trans (hB.mono B2.out.size));have G3:=hid (G2.out.low hB);clear hB C;generalize aa_ (bU_ g5 s52)=q2 at *;have C:=hid (dv_ s53 (by decide) ok5 G3.out (fun c h=>by have h':=p53;rw[h] at h';injection h' with h';subst h';exact t53) (ag_ HT.out B3.out) (HV.out _ B3.out));go_wp2_with fail;refine C.out.mono ?_;rintro e w4 ⟨rfl,hB⟩;have B4:=hid (B3.out.trans (hB.mono B3.out.size));have G4:=hid (G3.out.low hB);clear hB C;generalize aa_ (bU_ g5 s53)=q3 at *;have C:=hid (dv_ s54 (by decide) ok5 G4.out (fun c h=>by have h':=p54;rw[h] at h';injection h' with h';subst h';exact t54) (ag_ HT.out B4.out) (HV.out _ B4.out));go_wp2_with fail;refine C.out.mono ?_;rintro e w5 ⟨rfl,hB⟩;have B5:=hid (B4.out.trans (hB.mono B4.out.size));have G5:=hid (G4.out.low hB);clear hB C;generalize aa_ (bU_ g5 s54)=q4 at *;have C:=hid (dv_ s55 (by decide) ok5 G5.out (fun c h=>by have h':=p55;rw[h] at h';injection h' with h';subst h';exact t55) (ag_ HT.out B5.out) (HV.out _ B5.out));go_wp2_with fail;refine C.out.mono ?_;rintro e w6 ⟨rfl,hB⟩;have B6:=hid (B5.out.trans (hB.mono B5.out.size));have G6:=hid (G5.out.low hB);clear hB C;generalize aa_ (bU_ g5 s55)=q5 at *;have C:=hid (dv_ s56 (by decide) ok5 G6.out (fun c h=>by have h':=p56;rw[h] at h';injection h' with h';subst h';exact t56) (ag_ HT.out B6.out) (HV.out _ B6.out));go_wp2_with fail;refine C.out.mono ?_;rintro e w7 ⟨rfl,hB⟩;have B7:=hid (B6.out.trans (hB.mono B6.out.size));have G7:=hid (G6.out.low hB);clear hB C;generalize aa_ (bU_ g5 s56)=q6 at *;have C:=hid (dv_ s57 (by decide) ok5 G7.out (fun c h=>by have h':=p57;rw[h] at h';injection h' with h';subst h';exact t57) (ag_ HT.out B7.out) (HV.out _ B7.out));go_wp2_with fail;refine C.out.mono ?_;rintro e w8 ⟨rfl,hB⟩;have B8:=hid (B7.out.trans (hB.mono B7.out.size));have G8:=hid (G7.out.low hB);clear hB C;generalize aa_ (bU_ g5 s57)=q7 at *;have C:=hid (dv_ s58 (by decide) ok5 G8.out (fun c h=>by have h':=p58;rw[h] at h';injection h' with h';subst h';exact t58) (ag_ HT.out B8.out) (HV.out _ B8.out));go_wp2_with fail;refine C.out.mono ?_;rintro e w9 ⟨rfl,hB⟩;have B9:=hid (B8.out.trans (hB.mono B8.out.size));have G9:=hid (G8.out.low hB);clear hB C;generalize aa_ (bU_ g5 s58)=q8 at *;go_wp2;go_ret;exact⟨rfl,B9.out⟩
end
end Go.Proofs.YtkihnodkhnahiaaGreatDoor.Tp

/- CkGlyphE, RulA, RulL, RulC, RulT, RulW, RulX. -/
import Derived.Test.YthheaflbbficgaaGreatGBase
import Derived.Test.YthheaflbbficgaaGreatGRing
import Derived.Test.YthheaflbbficgaaGreatGCf
import Derived.Test.YthheaflbbficgaaGreatGRa
import Derived.Test.YthheaflbbficgaaGreatGMr
import Derived.Test.YthheaflbbficgaaGreatGLs
import Derived.Test.YthheaflbbficgaaGreatGMade
import Derived.ProofKit
import Derived.OpenShut
import Derived.Lib.SmallJoins
import Derived.Test.YthheaflbbficgaaGreatGGly
import Derived.Test.YthheaflbbficgaaGreatGCl
import Derived.Test.YthheaflbbficgaaGreatGAw
import Derived.Deep.CutBlock
set_option linter.all false
namespace Go.Proofs.YthheaflbbficgaaGreat
set_option maxHeartbeats 8000000
open Go.RowKit
set_option maxRecDepth 100000
theorem gU {α:Type} {k h n c B:Nat} {R:Nat->World->List Value->α->Prop} {w:World} {oa:Option Addr} {l:List α} (hr:Rows k R B w (.slice oa n c) l) (hh:h<=l.length):Rows k R B w (.slice oa h c) (l.take h):=by
 obtain ⟨oa',c',he,hl,h3⟩:=hr;cases he;refine ⟨_,_,by rw [List.length_take,Nat.min_eq_left hh],by rw [List.length_take];omega,λi hi=>?_⟩;have hi':i<l.length:=by rw [List.length_take] at hi;omega
 obtain ⟨a,ha,hB,cs,hk,hc,hR⟩:=h3 i hi';exact ⟨a,ha,hB,cs,hk,hc,by rw [List.getElem_take];exact hR⟩
theorem Rf.tE {α:Type} {nm:α->ByteArray} {l:List α} {i:Nat} {s:ByteArray} (h:∀ j (hj:j<i) (hl:j<l.length),nm l[j]≠s) (hi:i<=l.length):¬ Ck.aK nm l s<i:=λhlt=>by
 unfold Ck.aK at hlt;have hl:l.findIdx (λx=>decide (nm x=s))<l.length:=zo;exact h _ hlt hl (by simpa using List.findIdx_getElem (w:=hl))
theorem wL (u:Int) (fg fc fl ff fx fr fn fv:Hd) (i:Int) (hi:i<0∨(fg.n:Int)<=i) (w:World) :
  Calls Tryz.prog 12 #[.agg (af u fg fc fl ff fx fr fn fv),.int .i64 i] w λe w'=>e=.returned (.int .i64 1)/\Mod [] w w':=by
 have T:=Hi (own1 w (af u fg fc fl ff fx fr fn fv) 32);unfold af at T ⊢;have c1:=(T.o.at 0 rfl).cell 1;simp only [gA,gZ,gS] at c1;obtain ⟨b1,h1⟩:=bits (i<(0:Int));cases b1
 case true =>
  clear c1;go_enter Tryz.func12,Tryz.ntmps12;go_wp2;go_ret;exact ⟨rfl,T.o.mod⟩
 have h2:=dT (p:=(fg.n:Int)<=i) (hi.resolve_left (of_decide_eq_false h1));clear hi;go_enter Tryz.func12,Tryz.ntmps12;go_wp2;go_ret;exact ⟨rfl,T.o.mod⟩
theorem zq (u:Int) (fg fc fl ff fx fr fn fv:Hd) (i:Int) (hi:i<0∨(ff.n:Int)<=i) (w:World) :
  Calls Tryz.prog 39 #[.agg (af u fg fc fl ff fx fr fn fv),.int .i64 i] w λe w'=>e=.returned (.int .i64 1)/\Mod [] w w':=by
 have T:=Hi (own1 w (af u fg fc fl ff fx fr fn fv) 32);unfold af at T ⊢;have c1:=(T.o.at 0 rfl).cell 4;simp only [gA,gZ,gS] at c1;obtain ⟨b1,h1⟩:=bits (i<(0:Int));cases b1
 case true =>
  clear c1;go_enter Tryz.func39,Tryz.ntmps39;go_wp2;go_ret;exact ⟨rfl,T.o.mod⟩
 have h2:=dT (p:=(ff.n:Int)<=i) (hi.resolve_left (of_decide_eq_false h1));clear hi;go_enter Tryz.func39,Tryz.ntmps39;go_wp2;go_ret;exact ⟨rfl,T.o.mod⟩
theorem zn (u:Int) (fg fc fl ff fx fr fn fv:Hd) (gl:List av) (w:World) (h:Rows 9 aI 0 w (.slice fg.a fg.n fg.c) gl) (hcap:fg.n<=fg.c) (i:Nat) (hi:i<gl.length) (hG:Mr.Gl gl.length fr.n gl[i]) (hN:∀ j (hj:j<i),gl[j].name≠gl[i].name) :
  Calls Tryz.prog 12 #[.agg (af u fg fc fl ff fx fr fn fv),.int .i64 (i:Int)] w λe w'=>e=.returned (.int .i64 0)/\Mod [] w w':=by
 obtain ⟨ga,gn,gc⟩:=fg;obtain ⟨_,_,hq,hme⟩:=h.form;obtain rfl:gn=gl.length:=by cases hq;rfl
 clear hq;simp only at hcap;have T:=Hi (own1 w (af u ⟨ga,gl.length,gc⟩ fc fl ff fx fr fn fv) 32);have CF:=Hi (λW (m:Mod [] w W)=>lL (fn:=26) W (gU (h:=i+1) (h.mod aI.stay m) hi) (λx cs W hx=>Eh x cs 0 W hx) (λa w=>by kernel_rfl));obtain ⟨a,rfl,-,cs,-,hc0,hcj,hrg⟩:=h.at i hi;have hrg2:=hrg;obtain ⟨v3,v4,v5,v6,v7,v8,rfl,hnl,-⟩:=hrg;have HRG:=Hi (λW (m:Mod [] w W)=>aI.stay _ _ _ _ _ hrg2 (m.above 0))
 have hfst:=dF (p:=((Ck.aK av.name (gl.take (i+1)) gl[i].name:Nat):Int)<(i:Int)) (by
  have:=Rf.tE (nm:=av.name) (l:=gl.take (i+1)) (i:=i) (s:=gl[i].name) (λj hj hl=>by rw [List.getElem_take];exact hN j hj) (by rw [List.length_take];omega)
  omega)
 have hfst2:decide (Ck.aK av.name (gl.take (i+1)) gl[i].name<i)=false:=by rw [<- hfst];exact decide_eq_decide.2 zo
 have hmem:gl[i]∈gl.take (i+1):=List.mem_take_iff_getElem.2 ⟨i,by omega,rfl⟩;have HLK:=Hi (λm (hm:FM ((gl.take (i+1)).map av.name) (gl.take (i+1)).length m)=>hm.first hmem);have CN:=Hi (λW=>kP gl[i].name hnl W);rw [hG.name] at CN;have CA:=Hi (λW (m:Mod [] w W)=>qE u ⟨some a,gl.length,gc⟩ fc fl ff fx fr fn fv _ gl[i] 0 0 W (HRG.o W m));have hz:=hG.zero (nm:=0) rfl;rw [show Ck.glyph ({ a:=some a,n:=gl.length,c:=gc }:Hd).n fr.n gl[i] 0=0 from hz] at CA;generalize Ck.aK av.name (gl.take (i+1)) gl[i].name=f at *
 generalize gl[i]=g at *
 have c0:=hc0 zd;have c1:=hcj 1 zd zd;have c2:=hcj 2 zd zd;have c3:=hcj 3 zd zd;have c4:=hcj 4 zd zd;have c5:=hcj 5 zd zd;have c6:=hcj 6 zd zd;have c7:=hcj 7 zd zd;have c8:=hcj 8 zd zd;simp only [gZ,gS] at c0 c1 c2 c3 c4 c5 c6 c7 c8;have HC:=Hi (And.intro c0 (And.intro c1 (And.intro c2 (And.intro c3 (And.intro c4 (And.intro c5 (And.intro c6 (And.intro c7 c8))))))));have k1:=dF (p:=(i:Int)<(0:Int)) zo;have k2:=dF (p:=(gl.length:Int)<=i) zo;have k3:(0:Int)<=i:=zo;have k4:(i:Int)<gl.length:=zo;have ei:IntKind.i64.wrap ((i:Int)+1)=(i:Int)+1:=IntWalk.i64_in _ (by have:gl.length<=9223372036854775807:=hme;omega);have s1:(0:Int)<=i+1:=zo;have s2:(i:Int)+1<=(gc:Int):=zo;have s3:i+1<=gc:=zo;have hzv:∀ W:World,(zeroValue 3).run Tryz.prog W=.ok (.int .i64 0) W:=λW=>by kernel_rfl
 clear c0 c1 c2 c3 c4 c5 c6 c7 c8 hc0 hcj hrg2 hnl hmem hz hG hN h hi hme hcap;unfold af at T CA ⊢;simp only at T CA ⊢;go_enter Tryz.func12,Tryz.ntmps12;go_upto_region 3 with fail;generalize w.alloc _=w1 at *
 generalize w.heap.size=fb at *
 have e1:=(T.o.at 0 rfl).cell 1;simp only [gA,gZ,gS] at e1;go_wp2_with fail;refine (CF.o _ T.o.mod).mono ?_;rintro e w2 ⟨⟨b,m,rfl,-,hGm,hm⟩,m2⟩;have hlk:=HLK.o m hm;have T2:=Hi (T.o.call m2);have m02:=T2.o.mod;obtain ⟨c0,c1,c2,c3,c4,c5,c6,c7,c8⟩:=HC.o;have d0:=aj m02 c0;have e1':=(T2.o.at 0 rfl).cell 1;simp only [gA,gZ,gS] at e1';have B0:=λW (k:Mod [] w2 W)=>aj (m02.then k) c0
 have B1:=λW (k:Mod [] w2 W)=>aj (m02.then k) c1
 have B2:=λW (k:Mod [] w2 W)=>aj (m02.then k) c2
 have B3:=λW (k:Mod [] w2 W)=>aj (m02.then k) c3
 have B4:=λW (k:Mod [] w2 W)=>aj (m02.then k) c4
 have B5:=λW (k:Mod [] w2 W)=>aj (m02.then k) c5
 have B6:=λW (k:Mod [] w2 W)=>aj (m02.then k) c6
 have B7:=λW (k:Mod [] w2 W)=>aj (m02.then k) c7
 have B8:=λW (k:Mod [] w2 W)=>aj (m02.then k) c8
 have A1:=(T2.o.at 0 rfl).every;have AL:=λW (k:Mod [] w2 W)=>Gm.cH kF (hGm.mod k zk) Tryz.underlying89 (hzv W) g.name false
 simp only [Bool.false_eq_true,if_false,hlk] at AL;have C2:=Hi (λW (k:Mod [] w2 W)=>CA.o W (m02.then k));clear c0 c1 c2 c3 c4 c5 c6 c7 c8 HC m2 m02 hGm hm hlk hzv e1 HLK CF s1 s2 s3 CA;go_upto_region 5 with fail;clear d0 e1';refine ak 15 [true,true,true,true,true,true,true,true,true,true,true,true,true,true,true] [] zt zt zk ?_;simp only [aQ]
 iterate 7
  refine sv ?_
 refine sk (dK CN.o) ?_
 iterate 5
  refine sv ?_
 refine sk (dK λW=>eZ true false W) ?_;refine sk (C2.o) ?_;refine au ?_;refine aB (λw' hw' _=>?_);simp only [qS,qZ];clear A1 B0 B1 B2 B3 B4 B5 B6 B7 B8 AL;go_wp2;go_ret;exact ⟨rfl,T2.o.mod.then hw'⟩
theorem BP (u:Int) (fg fc fl ff fx fr fn fv:Hd) (l:List aA) (w:World) (h:Rows 2 aZ 0 w (.slice ff.a ff.n ff.c) l) (hcap:ff.n<=ff.c) (i:Nat) (hi:i<l.length)
  (hp:Ck.some 20 (λi x=>Ck.feature fl.n x (Ck.name (Ck.br x.name) (decide (Ck.aK aA.name l x.name<i)))) l=(0,0)) :
  Calls Tryz.prog 39 #[.agg (af u fg fc fl ff fx fr fn fv),.int .i64 (i:Int)] w λe w'=>e=.returned (.int .i64 0)/\Mod [] w w':=by
 obtain ⟨ga,gn,gc⟩:=ff;obtain ⟨hnm,hN,-⟩:=Rf.pA hp i hi;have hz:Ck.feature fl.n l[i] 0=0:=by
  have h1:=(Rf.dn hp).2 i hi;unfold Ck.feature at h1 ⊢
  by_cases q:Ck.name (Ck.br l[i].name) (decide (Ck.aK aA.name l l[i].name<i))=0
  ·rw [if_neg (by rw [q];simp)] at h1;rw [if_neg zk];exact h1
  ·rw [if_pos q] at h1;exact absurd h1 q
 obtain ⟨_,_,hq,hme⟩:=h.form;obtain rfl:gn=l.length:=by cases hq;rfl
 clear hq;simp only at hcap;have T:=Hi (own1 w (af u fg fc fl ⟨ga,l.length,gc⟩ fx fr fn fv) 32);have CF:=Hi (λW (m:Mod [] w W)=>jX (fn:=99) W (gU (h:=i+1) (h.mod aZ.stay m) hi) (λx cs W hx=>Ef x cs 0 W hx) (λa w=>by kernel_rfl));obtain ⟨a,rfl,-,cs,-,hc0,hcj,hrg⟩:=h.at i hi;have hrg2:=hrg;obtain ⟨v1,rfl,hnl,-⟩:=hrg;have HRG:=Hi (λW (m:Mod [] w W)=>aZ.stay _ _ _ _ _ hrg2 (m.above 0))
 have hfst:=dF (p:=((Ck.aK aA.name (l.take (i+1)) l[i].name:Nat):Int)<(i:Int)) (by
  have:=Rf.tE (nm:=aA.name) (l:=l.take (i+1)) (i:=i) (s:=l[i].name) (λj hj hl=>by rw [List.getElem_take];exact hN j hj) (by rw [List.length_take];omega)
  omega)
 have hfst2:decide (Ck.aK aA.name (l.take (i+1)) l[i].name<i)=false:=by rw [<- hfst];exact decide_eq_decide.2 zo
 have hmem:l[i]∈l.take (i+1):=List.mem_take_iff_getElem.2 ⟨i,by omega,rfl⟩;have HLK:=Hi (λm (hm:FM ((l.take (i+1)).map aA.name) (l.take (i+1)).length m)=>hm.first hmem);have CN:=Hi (λW=>kA l[i].name hnl W);rw [hnm] at CN;have CA:=Hi (λW (m:Mod [] w W)=>mX u fg fc fl ⟨some a,l.length,gc⟩ fx fr fn fv _ l[i] 0 0 W (HRG.o W m));rw [hz] at CA;generalize Ck.aK aA.name (l.take (i+1)) l[i].name=f at *
 generalize l[i]=g at *
 have c0:=hc0 zd;have c1:=hcj 1 zd zd;simp only [gZ,gS] at c0 c1;have HC:=Hi (And.intro c0 c1);have k1:=dF (p:=(i:Int)<(0:Int)) zo;have k2:=dF (p:=(l.length:Int)<=i) zo;have k3:(0:Int)<=i:=zo;have k4:(i:Int)<l.length:=zo;have ei:IntKind.i64.wrap ((i:Int)+1)=(i:Int)+1:=IntWalk.i64_in _ (by have:l.length<=9223372036854775807:=hme;omega);have s1:(0:Int)<=i+1:=zo;have s2:(i:Int)+1<=(gc:Int):=zo;have s3:i+1<=gc:=zo;have hzv:∀ W:World,(zeroValue 3).run Tryz.prog W=.ok (.int .i64 0) W:=λW=>by kernel_rfl
 clear c0 c1 hc0 hcj hrg2 hnl hmem hz hN h hi hme hcap hp hnm;unfold af at T CA ⊢;simp only at T CA ⊢;go_enter Tryz.func39,Tryz.ntmps39;go_upto_region 3 with fail;generalize w.alloc _=w1 at *
 generalize w.heap.size=fb at *
 have e1:=(T.o.at 0 rfl).cell 4;simp only [gA,gZ,gS] at e1;go_wp2_with fail;refine (CF.o _ T.o.mod).mono ?_;rintro e w2 ⟨⟨b,m,rfl,-,hGm,hm⟩,m2⟩;have hlk:=HLK.o m hm;have T2:=Hi (T.o.call m2);have m02:=T2.o.mod;obtain ⟨c0,c1⟩:=HC.o;have d0:=aj m02 c0;have e1':=(T2.o.at 0 rfl).cell 4;simp only [gA,gZ,gS] at e1';have B0:=λW (k:Mod [] w2 W)=>aj (m02.then k) c0
 have B1:=λW (k:Mod [] w2 W)=>aj (m02.then k) c1
 have A1:=(T2.o.at 0 rfl).every;have AL:=λW (k:Mod [] w2 W)=>Gm.cH kF (hGm.mod k zk) Tryz.underlying89 (hzv W) g.name false
 simp only [Bool.false_eq_true,if_false,hlk] at AL;have C2:=Hi (λW (k:Mod [] w2 W)=>CA.o W (m02.then k));clear c0 c1 HC m2 m02 hGm hm hlk hzv e1 HLK CF s1 s2 s3 CA;go_upto_region 5 with fail;clear d0 e1';refine ak 15 [true,true,true,true,true,true,true,true,true,true,true,true,true,true,true] [] zt zt zk ?_;simp only [aQ]
 iterate 7
  refine sv ?_
 refine sk (dK CN.o) ?_
 iterate 5
  refine sv ?_
 refine sk (dK λW=>eZ true false W) ?_;refine sk (C2.o) ?_;refine au ?_;refine aB (λw' hw' _=>?_);simp only [qS,qZ];clear A1 B0 B1 AL;go_wp2;go_ret;exact ⟨rfl,T2.o.mod.then hw'⟩
theorem Rf.xp {n m:Nat} (hnm:n<=m) {l:List aA} (h:Ck.some 20 (λi x=>Ck.feature n x (Ck.name (Ck.br x.name) (decide (Ck.aK aA.name l x.name<i)))) l=(0,0)) :
  Ck.some 20 (λi x=>Ck.feature m x (Ck.name (Ck.br x.name) (decide (Ck.aK aA.name l x.name<i)))) l=(0,0):=by
 refine Mr.fA (Rf.dn h).1 λk x hx=>?_
 obtain ⟨hk,rfl⟩:=gI.1 hx;have h1:=(Rf.dn h).2 k hk;unfold Ck.feature at h1 ⊢
 by_cases q:Ck.name (Ck.br l[k].name) (decide (Ck.aK aA.name l l[k].name<k))=0
 ·rw [if_neg (by rw [q];simp)] at h1 ⊢;rw [Mr.j8 λi y hy=>?_];obtain ⟨hi,rfl⟩:=gI.1 hy;have h2:=Rf.iD zd (Rf.nE (Rf.eY h1) i hi);simp only [Bool.or_eq_false_iff,decide_eq_false_iff_not] at h2;rw [dF h2.1.1,dF (by omega:¬ ((m:Int)<=l[k].lookups[i])),h2.2];rfl
 ·rw [if_pos q] at h1;exact absurd h1 q
section
variable {F:aD} {L:List ar}
theorem Mr.FR.fl (h:Mr.FR F) (h1:F.lookups.length<=L.length) (h2:L.length<=40):Rf.FL { F with lookups:=L }:=by
 refine ⟨h.unit,h.gll,λi hi=>h.gl _ (List.getElem_mem hi),λi hi j hj=>?_,⟨λi hi=>h.low i _ (gE hi),λh1=>?_⟩,h.ch,h2,Rf.xp h1 h.ft,h.ax,h.rg,h.fn,h.cv⟩
 ·have:=List.pairwise_iff_getElem.1 h.gn j i (by simp only [List.length_map];exact Nat.lt_trans hj hi) zql hj;rwa [List.getElem_map,List.getElem_map] at this
 ·rcases h.low 1 _ (gE h1) with e | ⟨e,-⟩
  ·exact e
  ·omega
theorem Rf.Ba (n:Nat) (L:List ar):Rf.looks n L=Ck.each (λ_ l=>Ck.lookup n L l) L:=by
 unfold Rf.looks
 congr 1
 funext _ l
 exact Rf.qB n L l
theorem Mr.FR.DX (h:Mr.FR F) (h1:F.lookups.length<=L.length) (h2:L.length<=40) {fg fl fx fr:Hd} (e1:fg.n=F.glyphs.length) (e2:fl.n=L.length) (e3:fx.n=F.axes.length) (e4:fr.n=F.regions.length) :
  Ck.first (Ck.dU F.unit fg fl fx fr (0,0) F.glyphs F.chars L F.features F.axes F.regions F.funcs F.cvt)=Rf.looks F.glyphs.length L:=by
 have hu:=h.unit;have hg:=h.gll;have c1:Ck.mD F.unit F.glyphs.length=0:=by unfold Ck.mD;rw [if_neg zo,if_neg zo]
 have c2:Ck.some 400 (λi x=>Ck.glyph F.glyphs.length F.regions.length x (Ck.name (Ck.bZ x.name) (decide (Ck.aK av.name F.glyphs x.name<i)))) F.glyphs=(0,0):=Mr.fA hg.2 λk x hx=>by
  have hx2:=h.gl x (List.mem_of_getElem? hx);refine hx2.zero ?_;rw [hx2.name,Mr.jV h.gn hx];rfl
 have c3:Ck.some 40 (λ_ x=>Ck.lookup F.glyphs.length L x) L=Rf.looks F.glyphs.length L:=by unfold Ck.some;rw [if_neg zo,Rf.Ba]
 have hE:(Rf.looks F.glyphs.length L).1=0->Rf.looks F.glyphs.length L=(0,0):=λh=>Rf.eY h
 unfold Ck.dU;rw [e1,e2,e3,e4,c1,c2,h.ch,c3,Rf.xp h1 h.ft,h.ax,h.rg,h.fn,h.cv];generalize Rf.looks F.glyphs.length L=E at *
 by_cases q:E.1=0
 ·rw [hE q];rfl
 ·show (if E.1=0 then _ else E)=E;rw [if_neg q]
theorem tK (h:Mr.FR F) (h1:F.lookups.length<=L.length) (h2:L.length<=40) {fg fc fl ff fx fr fn fv:Hd} {w:World} (hI:Rf.In w fg fc fl ff fx fr fn fv { F with lookups:=L }) :
  Calls Tryz.prog 18 #[.agg (af F.unit fg fc fl ff fx fr fn fv)] w λe w'=>e=.returned (.tuple #[.int .i64 (Rf.looks F.glyphs.length L).1,.int .i64 ((Rf.looks F.glyphs.length L).2:Int)])/\Mod [] w w':=by
 have hc:=λW' (m':Mod [] w W')=>lO F.unit fg fc fl ff fx fr fn fv F.glyphs 0 W' (hI.mod m').gl (by have:=h.gll;omega) (λx hx=>by have:=(h.gl x hx).parl;omega) (λL hL=>Cp.kB hL h.lower)
  (λx hx p hp=>by
   obtain ⟨i,hi⟩:=List.mem_iff_getElem?.1 hx;have hl:=(gI.1 hi).1;rcases h.low i x hi with e | ⟨h9,a,b,e⟩
   ·rw [e] at hp;cases hp
   ·rw [e] at hp;rw [mI.1 hp];unfold eU;rw [dT zqg,dT zqg];rfl)
  (Mr.D F.glyphs) (Mr.Q F.glyphs) (Mr.own F.glyphs) h.eqs (λg x hx=>by unfold Mr.own;rw [hx]) (λg=>nT (h.Ex g) zd) (λg=>nT (h.Et g) zd) (λg=>nT (h.nU g) zd)
 rw [h.comp] at hc;have hf:=oM w hI.gl hI.ch hI.lk hI.ft hI.ax hI.rg hI.fn hI.cv hc;rw [h.DX h1 h2 (ep hI.gl) (ep hI.lk) (ep hI.ax) (ep hI.rg)] at hf;exact hf
theorem zm (h:Mr.FR F) (h1:F.lookups.length<=L.length) (h2:L.length<=40) {fg fc fl ff fx fr fn fv:Hd} {w:World} (hI:Rf.In w fg fc fl ff fx fr fn fv { F with lookups:=L }) :
  Calls Tryz.prog 10 #[.agg (af F.unit fg fc fl ff fx fr fn fv)] w λe w'=>e=.returned (.bool (decide ((Rf.looks F.glyphs.length L).1=0)))/\Mod [] w w' :=
 zC F.unit fg fc fl ff fx fr fn fv _ w λW m=>tK h h1 h2 (hI.mod m)
end
def sq (B:Nat) (w:World) (cs:List Value) (l:List Int):Prop:=∃ v,cs=[v]/\Rows 1 bn B w v l/\ky v
theorem sq.stay:gV sq:=λ_ _ _ _ _ ⟨v,h,hr,hc⟩ m=>⟨v,h,hr.above bn.stay m,hc⟩
def wV (B:Nat) (w:World) (cs:List Value) (d:aN):Prop:=∃ v0 v1 v2 v3 v4,cs=[v0,v1,v2,v3,v4,.int .i64 d.x]/\Rows 1 sq B w v0 d.back/\Rows 1 sq B w v1 d.ins/\Rows 1 sq B w v2 d.ahead/\Rows 1 bn B w v3 d.o/\Rows 2 iC B w v4 d.calls/\I64 d.x/\ky v3/\ky v4
section
open Go.ChangeShapes Go.WideShapes Go.ChangeAt Go.Joins
variable {H:Type} {enc:TypeId×Value->H} {W:World} {sp:Nat->Bool} {held:Bool}
theorem uT {t e:TypeId} (ht:Tryz.prog.underlying t=some (.slice e)) {fuel:Nat} {v:Value} {x:DataW H×List MemPlace} (h:DataW.trod enc Tryz.prog W 0 sp held fuel t [v]=some x):ky v:=by
 rintro o n c rfl;rcases DataW.trod_slice ht h with ⟨h0,_⟩ | ⟨a,len,cap,el,rest,m,_,hc,_,_,h1,_⟩
 ·simp at h0;omega
 ·simp at hc;omega
theorem mr {fuel:Nat} {cs:List Value} {x:DataW H×List MemPlace} (h:DataW.trod enc Tryz.prog W 0 sp held fuel 22 cs=some x):∃ d,sq 0 W cs d:=by
 obtain ⟨v,rfl⟩:=one_cell Tryz.underlying22 h;obtain ⟨l,hl⟩:=rowsOf Tryz.underlying22 fZ (λ_ _ _ h=>iw h) h;exact ⟨l,v,rfl,hl,uT Tryz.underlying22 h⟩
set_option maxRecDepth 100000 in
theorem wS {fuel:Nat} {cs:List Value} {x:DataW H×List MemPlace} (h:DataW.trod enc Tryz.prog W 0 sp held fuel 54 cs=some x):∃ d,wV 0 W cs d:=by
 obtain ⟨xs,n,_,_,hl,hx,hf⟩:=DataW.trod_struct Tryz.underlying54 h;rw [mZ] at hl;obtain ⟨c0,c1,c2,c3,c4,c5,rfl⟩:∃ c0 c1 c2 c3 c4 c5,cs=[c0,c1,c2,c3,c4,c5]:=by
  match cs,hl with | [q0,q1,q2,q3,q4,q5],_=>exact ⟨q0,q1,q2,q3,q4,q5,rfl⟩
 obtain ⟨x0,x1,x2,x3,x4,x5,rfl⟩:∃ x0 x1 x2 x3 x4 x5,xs=[x0,x1,x2,x3,x4,x5]:=by
  match xs,hx with | [q0,q1,q2,q3,q4,q5],_=>exact ⟨q0,q1,q2,q3,q4,q5,rfl⟩
 have f0:=hf 0 _ rfl;change DataW.trod enc Tryz.prog W 0 sp held n 49 (([c0,c1,c2,c3,c4,c5].drop 0).take (Tryz.prog.cellsOf 49))=_ at f0;rw [kR] at f0;have g0:DataW.trod enc Tryz.prog W 0 sp held n 49 [c0]=some x0:=f0;have f1:=hf 1 _ rfl;change DataW.trod enc Tryz.prog W 0 sp held n 49 (([c0,c1,c2,c3,c4,c5].drop 1).take (Tryz.prog.cellsOf 49))=_ at f1;rw [kR] at f1;have g1:DataW.trod enc Tryz.prog W 0 sp held n 49 [c1]=some x1:=f1;have f2:=hf 2 _ rfl;change DataW.trod enc Tryz.prog W 0 sp held n 49 (([c0,c1,c2,c3,c4,c5].drop 2).take (Tryz.prog.cellsOf 49))=_ at f2;rw [kR] at f2;have g2:DataW.trod enc Tryz.prog W 0 sp held n 49 [c2]=some x2:=f2;have f3:=hf 3 _ rfl;change DataW.trod enc Tryz.prog W 0 sp held n 22 (([c0,c1,c2,c3,c4,c5].drop 3).take (Tryz.prog.cellsOf 22))=_ at f3;rw [jF] at f3;have g3:DataW.trod enc Tryz.prog W 0 sp held n 22 [c3]=some x3:=f3;have f4:=hf 4 _ rfl;change DataW.trod enc Tryz.prog W 0 sp held n 52 (([c0,c1,c2,c3,c4,c5].drop 4).take (Tryz.prog.cellsOf 52))=_ at f4;rw [uB] at f4;have g4:DataW.trod enc Tryz.prog W 0 sp held n 52 [c4]=some x4:=f4;have f5:=hf 5 _ rfl;change DataW.trod enc Tryz.prog W 0 sp held n 3 (([c0,c1,c2,c3,c4,c5].drop 5).take (Tryz.prog.cellsOf 3))=_ at f5;rw [fZ] at f5;have g5:DataW.trod enc Tryz.prog W 0 sp held n 3 [c5]=some x5:=f5;obtain ⟨d0,b0⟩:=rowsOf Tryz.underlying49 jF (λ_ _ _ h=>mr h) g0;obtain ⟨d1,b1⟩:=rowsOf Tryz.underlying49 jF (λ_ _ _ h=>mr h) g1;obtain ⟨d2,b2⟩:=rowsOf Tryz.underlying49 jF (λ_ _ _ h=>mr h) g2;obtain ⟨d3,b3⟩:=rowsOf Tryz.underlying22 fZ (λ_ _ _ h=>iw h) g3;obtain ⟨d4,b4⟩:=rowsOf Tryz.underlying52 nh (λ_ _ _ h=>zD h) g4;obtain ⟨d5,e5,b5⟩:=iw g5;simp at e5;subst e5;exact ⟨⟨d0,d1,d2,d3,d4,d5⟩,c0,c1,c2,c3,c4,rfl,b0,b1,b2,b3,b4,b5,uT Tryz.underlying22 g3,uT Tryz.underlying52 g4⟩
set_option maxRecDepth 100000 in
theorem yI {fuel:Nat} {cs:List Value} {x:DataW H×List MemPlace} (h:DataW.trod enc Tryz.prog W 0 sp held fuel 57 cs=some x):∃ (k:Int) (ig:Bool) (v:Value) (R:List aN),cs=[.int .i64 k,.bool ig,v]/\I64 k/\Rows 6 wV 0 W v R:=by
 obtain ⟨xs,n,_,_,hl,hx,hf⟩:=DataW.trod_struct Tryz.underlying57 h;rw [p8] at hl;obtain ⟨c0,c1,c2,rfl⟩:∃ c0 c1 c2,cs=[c0,c1,c2]:=by
  match cs,hl with | [q0,q1,q2],_=>exact ⟨q0,q1,q2,rfl⟩
 obtain ⟨x0,x1,x2,rfl⟩:∃ x0 x1 x2,xs=[x0,x1,x2]:=by
  match xs,hx with | [q0,q1,q2],_=>exact ⟨q0,q1,q2,rfl⟩
 have f0:=hf 0 _ rfl;change DataW.trod enc Tryz.prog W 0 sp held n 3 (([c0,c1,c2].drop 0).take (Tryz.prog.cellsOf 3))=_ at f0;rw [fZ] at f0;have g0:DataW.trod enc Tryz.prog W 0 sp held n 3 [c0]=some x0:=f0;have f1:=hf 1 _ rfl;change DataW.trod enc Tryz.prog W 0 sp held n 4 (([c0,c1,c2].drop 1).take (Tryz.prog.cellsOf 4))=_ at f1;rw [wM] at f1;have g1:DataW.trod enc Tryz.prog W 0 sp held n 4 [c1]=some x1:=f1;have f2:=hf 2 _ rfl;change DataW.trod enc Tryz.prog W 0 sp held n 55 (([c0,c1,c2].drop 2).take (Tryz.prog.cellsOf 55))=_ at f2;rw [uA] at f2;have g2:DataW.trod enc Tryz.prog W 0 sp held n 55 [c2]=some x2:=f2;obtain ⟨d0,e0,b0⟩:=iw g0;simp at e0;subst e0;obtain ⟨d1,e1⟩:=zw g1;simp at e1;subst e1;obtain ⟨d2,b2⟩:=rowsOf Tryz.underlying55 mZ (λ_ _ _ h=>wS h) g2;exact ⟨d0,d1,c2,d2,rfl,b0,b2⟩
def zQ (W:World) (v:Value) (R:List aN):Prop:=∃ (k:Int) (ig:Bool) (oa:Option Addr) (n c:Nat),v=.agg #[.int .i64 k,.bool ig,.slice oa n c]/\I64 k/\Rows 6 wV 0 W (.slice oa n c) R
set_option maxRecDepth 100000 in
theorem look_in {base:Nat} {v:Value} {d:DataW H} {ps:List MemPlace} (hv:Value.okWide Tryz.prog W .any base 57 v) (h:DataW.Trod enc Tryz.prog W 0 (λ_=>true) true 57 v d ps):∃ R,zQ W v R:=by
 obtain ⟨arr,rfl,_⟩:=okWide_struct Tryz.underlying57 hv;obtain ⟨fuel,h⟩:=h;obtain ⟨k,ig,u,R,e,hk,hR⟩:=yI h;obtain ⟨oa,c,rfl,-⟩:=hR.form;refine ⟨R,k,ig,oa,_,c,?_,hk,hR⟩;have e2:arr.toList=[.int .i64 k,.bool ig,.slice oa R.length c]:=e;rw [<- Array.toArray_toList (xs:=arr),e2]
end
def Rl.cut (l:List (List Int)):List (List Int):=(l.take 8).map (·.take 4)
theorem rF (oa:Option Addr) (n c:Nat) (l:List (List Int)) (w0 w:World) (m0:Mod [] w0 w) (h:Rows 1 sq 0 w0 (.slice oa n c) l) :
  Calls Tryz.prog 15 #[.slice oa n c] w λe w'=>∃ v,e=.returned v/\aH w.heap.size 22 1 aM (λb=>b<w0.heap.size) v (Rl.cut l) w'/\Mod [] w w':=by
 obtain ⟨_,_,hq,hme⟩:=h.form;obtain rfl:n=l.length:=by cases hq;rfl
 clear hq;have HME:=Hi (show l.length<=9223372036854775807 from hme);have HM0:=Hi m0;have HR:=Hi (λW (k:Mod [] w0 W)=>h.mod sq.stay k);obtain ⟨ii0,ii,iz0,iz1,iz2⟩:=info_parts j0;clear h hme m0;go_enter Tryz.func15,Tryz.ntmps15;go_wp2_with fail
 go_loopg [3,4] l.length (λgk u v wr=>∃ i:Nat,v=.int .i64 (i:Int)/\Hy (i+gk=l.length)/\Hy (i<=8)/\Hy (Mod [] w wr)/\∃ o cp,u=.slice o i cp/\Hy (aH w.heap.size 22 1 aM (λb=>b<w0.heap.size) (.slice o i cp) ((l.take i).map (·.take 4)) wr))
 case atStart=>exact ⟨0,rfl,by show 0+l.length=l.length;omega,by show 0<=8;omega,mR,none,0,rfl,aH.nil⟩
 case round =>
  obtain ⟨i,rfl,hi,h8,HM,o,cp,rfl,HG⟩:=hrel
  by_cases hin:i<l.length
  case neg =>
   obtain rfl:i=l.length:=by have:=hi.o;omega
   have k1:=Rf.lz l.length;have HV:=Hi (show Rl.cut l=(l.take l.length).map (·.take 4) by unfold Rl.cut;rw [List.take_of_length_le h8.o,List.take_length]);clear hi hin;go_wp2;go_ret;rw [HV.o];exact ⟨_,rfl,HG.o,HM.o⟩
  obtain ⟨k1,k2,k3,k4,ei⟩:=Rf.lf hin HME.o
  by_cases h9:i<8
  case neg =>
   have z1:=dF (p:=(i:Int)<8) zo;have HV:=Hi (show Rl.cut l=(l.take i).map (·.take 4) by unfold Rl.cut;rw [show i=8 by have:=h8.o;omega]);clear hi hin h9;go_wp2;go_ret;rw [HV.o];exact ⟨_,rfl,HG.o,HM.o⟩
  have z1:=dT (p:=(i:Int)<8) zo;have HI:=Hi (And.intro (Rf.ms hi hin) (And.intro (Rf.nx hi hin) h9));have HLE:=Hi (show i<=l.length by omega);obtain ⟨a,rfl,-,cs,-,hc0,-,v,rfl,hv0,hcv⟩:=(HR.o w0 mR).at i hin;obtain ⟨oi,ci,rfl,-⟩:=hv0.form;have hcap:=hcv _ _ _ rfl;have HTK:=Hi (show (l.take (i+1)).map (·.take 4)=(l.take i).map (·.take 4)++[l[i].take 4] by rw [List.take_succ_eq_append_getElem hin,List.map_append];rfl);generalize l[i]=x at *
  have c0:=hc0 zd;simp only [gZ,Nat.mul_one] at c0;have A0:=λW (k:Mod [] wr W)=>aj ((HM0.o.then HM.o).then k) c0
  have HX0:=hv0;clear hc0 c0 hcv hi hin h9;go_upto_region 5 with fail;have hh:(∃ hh:Nat,x.length=hh/\(hh:Int)<=4/\(hh:Int)<=ci/\hh<=ci/\x.take 4=x.take hh)∨((4:Int)<x.length/\(4:Int)<=ci/\4<=ci/\4<=x.length):=by
   by_cases q:x.length<=4
   ·exact .inl ⟨_,rfl,by omega,by omega,by omega,by rw [List.take_of_length_le zo,List.take_length]⟩
   ·exact .inr ⟨by omega,by omega,by omega,by omega⟩
  have HW:Hy (∀ (hh:Nat),hh<=x.length->x.take 4=x.take hh->∀ W,Mod [] wr W->az 1 aF (λb=>b<w0.heap.size/\(Value.slice o i cp).ownBlock≠some b) W (.slice oi hh ci) (x.take 4)):=λhh h1 h2 W k=>by
   rw [h2];have a1:=(fq zd aF.weak aF.new (gU HX0 h1)).weak (S':=λb=>b<w0.heap.size/\(Value.slice o i cp).ownBlock≠some b) zd aF.weak λb _ hb=>⟨hb,λe=>by have:=(HG.o.lt b e).1;have:=HM0.o.size;omega⟩
   exact a1.mod aF.stay ((HM0.o.then HM.o).then k)
  clear hcap HX0;rcases hh with ⟨hh,hhx,z2,b1,b2,t1⟩ | ⟨z2,b1,b2,t1⟩
  ·have HT:=Hi (HW.o hh zo t1);rw [hhx] at A0;clear t1 hhx;clear HW;refine ak 13 [true,true,true,true,true,true,true,true,true,true,true,true,false] [(12,jP wr.heap.size #[.slice oi hh ci] 22 1)] zt zt (by simp [jP.stays]) ?_;simp only [aQ]
   iterate 12
    refine sv ?_
   refine au ?_;refine mm rfl rfl (kO ?_) (λsv w' hw' hF=>?_)
   ·intro w';go_simp
   obtain ⟨-,b8,rfl,hb8,B8⟩:=hF;simp only [qS,qZ];have HG2:=Hi (HG.o.mod aM.stay hw');have HM2:=Hi (HM.o.then hw');have HT2:=Hi (HT.o w' hw');have HLN:=Hi (show ((l.take i).map (·.take 4)).length=i by rw [List.length_map,List.length_take];have:=HI.o.2.2;have:=HLE.o;omega);generalize (l.take i).map (·.take 4)=A at *
   generalize x.take 4=y at *
   clear A0 HG HT;go_wp2_with (at_builtin;refine aO (k:=1) (e:=22) (base:=w.heap.size) (l:=A) (l':=[y]) rfl _ _ 49 rfl ii0 _ 24 Tryz.underlying49 ii iz0 iz1 iz2 rfl zd aM.stay aM.weak rfl HG2.o ⟨b8,0,none⟩ _ _ [[.slice oi hh ci]] rfl rfl (aP.one rfl ⟨_,rfl,HT2.o⟩) ?_ zqb ?_ ?_ ?_ ?_)
   ·exact λj u hu=>bi B8 rfl hu
   ·rw [HLN.o];have:=HI.o.2.2;unfold maxLen;omega
   ·rw [HLN.o];have:=HI.o.2.2;omega
   ·exact HM2.o.size
   intro v' w'' hG hgr _;obtain ⟨oa',c',rfl⟩:=hG.form;have hG2:aH w.heap.size 22 1 aM (λb=>b<w0.heap.size) (.slice oa' (i+1) c') ((l.take (i+1)).map (·.take 4)) w'':=by
    rw [HTK.o];have:=hG;rwa [List.length_append,HLN.o] at this
   have HG3:=Hi hG2;have HM3:=Hi (HM2.o.grew hgr λb hb=>(HG2.o.lt b hb).1);have HL2:=Hi (show (A++[y]).length=i+1 by rw [List.length_append,HLN.o];rfl);rw [HL2.o];clear hG hgr hG2 HG2 HM2 HT2;go_wp2;go_roundg (gk - 1)
   case measure=>exact HI.o.1
   case rel=>exact ⟨i+1,by rw [Int.natCast_add];rfl,HI.o.2.1,by have:=HI.o.2.2;show i+1<=8;omega,HM3.o,oa',c',rfl,HG3.o⟩
  ·have HT:=Hi (HW.o 4 t1 rfl);clear t1;clear HW;refine ak 13 [true,true,true,true,true,true,true,true,true,true,true,true,false] [(12,jP wr.heap.size #[.slice oi 4 ci] 22 1)] zt zt (by simp [jP.stays]) ?_;simp only [aQ]
   iterate 12
    refine sv ?_
   refine au ?_;refine mm rfl rfl (kO ?_) (λsv w' hw' hF=>?_)
   ·intro w';go_simp
   obtain ⟨-,b8,rfl,hb8,B8⟩:=hF;simp only [qS,qZ];have HG2:=Hi (HG.o.mod aM.stay hw');have HM2:=Hi (HM.o.then hw');have HT2:=Hi (HT.o w' hw');have HLN:=Hi (show ((l.take i).map (·.take 4)).length=i by rw [List.length_map,List.length_take];have:=HI.o.2.2;have:=HLE.o;omega);generalize (l.take i).map (·.take 4)=A at *
   generalize x.take 4=y at *
   clear A0 HG HT;go_wp2_with (at_builtin;refine aO (k:=1) (e:=22) (base:=w.heap.size) (l:=A) (l':=[y]) rfl _ _ 49 rfl ii0 _ 24 Tryz.underlying49 ii iz0 iz1 iz2 rfl zd aM.stay aM.weak rfl HG2.o ⟨b8,0,none⟩ _ _ [[.slice oi 4 ci]] rfl rfl (aP.one rfl ⟨_,rfl,HT2.o⟩) ?_ zqb ?_ ?_ ?_ ?_)
   ·exact λj u hu=>bi B8 rfl hu
   ·rw [HLN.o];have:=HI.o.2.2;unfold maxLen;omega
   ·rw [HLN.o];have:=HI.o.2.2;omega
   ·exact HM2.o.size
   intro v' w'' hG hgr _;obtain ⟨oa',c',rfl⟩:=hG.form;have hG2:aH w.heap.size 22 1 aM (λb=>b<w0.heap.size) (.slice oa' (i+1) c') ((l.take (i+1)).map (·.take 4)) w'':=by
    rw [HTK.o];have:=hG;rwa [List.length_append,HLN.o] at this
   have HG3:=Hi hG2;have HM3:=Hi (HM2.o.grew hgr λb hb=>(HG2.o.lt b hb).1);have HL2:=Hi (show (A++[y]).length=i+1 by rw [List.length_append,HLN.o];rfl);rw [HL2.o];clear hG hgr hG2 HG2 HM2 HT2;go_wp2;go_roundg (gk - 1)
   case measure=>exact HI.o.1
   case rel=>exact ⟨i+1,by rw [Int.natCast_add];rfl,HI.o.2.1,by have:=HI.o.2.2;show i+1<=8;omega,HM3.o,oa',c',rfl,HG3.o⟩
section
variable {F:aD} {L:List ar} {fg fc fl ff fx fr fn fv:Hd} {w:World}
def Alike (f g:FuncId) (c:Array Value) (w:World) (x:Int):Prop:=∃ r:Int,(∀ W,Mod [] w W->Calls Tryz.prog f #[.agg c,.int .i64 x] W λe w'=>e=.returned (.int .i64 r)/\Mod [] W w')/\∀ W,Mod [] w W->Calls Tryz.prog g #[.agg c,.int .i64 x] W λe w'=>e=.returned (.int .i64 r)/\Mod [] W w'
theorem uH (hF:Rf.FL F) (hI:Rf.In w fg fc fl ff fx fr fn fv F) (hc:fg.n<=fg.c) (x:Int):Alike 12 13 (af F.unit fg fc fl ff fx fr fn fv) w x:=by
 have e:=ep hI.gl;have e6:=ep hI.rg
 by_cases q:x<0∨(fg.n:Int)<=x
 ·exact ⟨1,λW m=>wL _ _ _ _ _ _ _ _ _ x q W,λW m=>vI _ _ _ _ _ _ _ _ _ x q W⟩
 obtain ⟨i,rfl⟩:∃ i:Nat,x=i:=⟨x.toNat,by omega⟩
 have hi:i<F.glyphs.length:=zo;have hG:Mr.Gl F.glyphs.length fr.n F.glyphs[i]:=by rw [e6];exact hF.gl i hi
 exact ⟨0,λW m=>zn _ _ _ _ _ _ _ _ _ F.glyphs W (hI.mod m).gl hc i hi hG (hF.gn i hi),λW m=>qo _ _ _ _ _ _ _ _ _ F.glyphs W (hI.mod m).gl i hi hG (hF.gn i hi)⟩
theorem wR (hF:Rf.FL F) (hI:Rf.In w fg fc fl ff fx fr fn fv F) (hc:ff.n<=ff.c) (x:Int):Alike 39 40 (af F.unit fg fc fl ff fx fr fn fv) w x:=by
 have e:=ep hI.ft;have e3:=ep hI.lk
 by_cases q:x<0∨(ff.n:Int)<=x
 ·exact ⟨1,λW m=>zq _ _ _ _ _ _ _ _ _ x q W,λW m=>yq _ _ _ _ _ _ _ _ _ x q W⟩
 obtain ⟨i,rfl⟩:∃ i:Nat,x=i:=⟨x.toNat,by omega⟩
 have hi:i<F.features.length:=zo;have hp:=hF.ft;rw [<- e3] at hp;exact ⟨0,λW m=>BP _ _ _ _ _ _ _ _ _ F.features W (hI.mod m).ft hc i hi hp,λW m=>sL _ _ _ _ _ _ _ _ _ F.features W (hI.mod m).ft i hi hp⟩
theorem pG (hI:Rf.In w fg fc fl ff fx fr fn fv F) (x:Int):Alike 16 17 (af F.unit fg fc fl ff fx fr fn fv) w x:=by
 have e:=ep hI.lk
 by_cases q:x<0∨(fl.n:Int)<=x
 ·refine ⟨1,λW m=>?_,λW m=>t6 _ _ _ _ _ _ _ _ _ x q W⟩;have:=pH F.unit fg fc fl ff fx fr fn fv F.lookups x 0 W (hI.mod m).lk;unfold Ck.lU at this;rw [e] at q;rwa [if_pos q] at this
 obtain ⟨i,rfl⟩:∃ i:Nat,x=i:=⟨x.toNat,by omega⟩
 have hi:i<F.lookups.length:=zo;refine ⟨Rf.lookup fg.n F.lookups F.lookups[i],λW m=>?_,λW m=>mN _ _ _ _ _ _ _ _ _ F.lookups W (hI.mod m).lk i hi⟩;have:=pH F.unit fg fc fl ff fx fr fn fv F.lookups i 0 W (hI.mod m).lk;unfold Ck.lU at this;rw [e] at q;rw [if_neg q,Int.toNat_natCast,gE hi] at this;rw [Rf.qB];exact this
end
theorem xG {F:aD} {L:List ar} {fg fc fl ff fx fr fn fv:Hd} (w:World) (h:Mr.FR F) (h1:F.lookups.length<=L.length) (h2:L.length<=40) (hI:Rf.In w fg fc fl ff fx fr fn fv { F with lookups:=L }) (hcg:fg.n<=fg.c) (hcf:ff.n<=ff.c) :
  Calls Tryz.prog 14 #[.agg (af F.unit fg fc fl ff fx fr fn fv)] w λe w'=>e=.returned (.bool true)/\Mod [] w w':=by
 have hF:=h.fl h1 h2;have CF:=Hi (λW (m:Mod [] w W)=>tK h h1 h2 (hI.mod m));have CR:=Hi (λW (m:Mod [] w W)=>zm h h1 h2 (hI.mod m));have RF:=Hi (λW (m:Mod [] w W)=>yo fg fc fl ff fx fr fn fv _ W (hI.mod m) hF);have AG:=Hi (λW (m:Mod [] w W) x=>uH hF (hI.mod m) hcg x);have AL:=Hi (λW (m:Mod [] w W) x=>pG (hI.mod m) x);have AF:=Hi (λW (m:Mod [] w W) x=>wR hF (hI.mod m) hcf x);have T:=Hi (own1 w (af F.unit fg fc fl ff fx fr fn fv) 32);have n1:=ep hI.gl;have n2:=ep hI.lk;have n3:=ep hI.ft;have HNN:Hy (fg.n<=400/\fl.n<=40/\ff.n<=20):=by
  have a:=h.gll;have b:=(Rf.dn h.ft).1;simp only at n1 n2 n3;show _/\_/\_;omega
 simp only at RF AG AL AF;generalize Rf.looks F.glyphs.length L=E at *
 generalize F.unit=u at *
 obtain ⟨e,at_⟩:=E;obtain ⟨b,hb⟩:∃ b,decide (e=0)=b:=⟨_,rfl⟩
 have hb2:(e == 0)=b:=hb;simp only [hb] at CR CF RF;clear h hI hF h1 h2 hcg hcf n1 n2 n3;unfold af at T CF CR RF AG AL AF ⊢;unfold gM at RF;go_enter Tryz.func14,Tryz.ntmps14;go_upto_region 1 with fail;generalize w.alloc _=w1 at *
 generalize w.heap.size=fb at *
 have A:=(T.o.at 0 rfl).cell;go_wp2_with fail;refine (CF.o _ T.o.mod).mono ?_;rintro x w2 ⟨rfl,m2⟩;have T2:=Hi (T.o.call m2);clear T CF m2 A;have A:=(T2.o.at 0 rfl).cell;go_wp2_with fail;refine (RF.o _ T2.o.mod).mono ?_;rintro x w3 ⟨rfl,m3⟩;have T3:=Hi ((T2.o.call m3).alloc #[.int .i64 e,.int .i64 (at_:Int)] 104);clear T2 RF m3 A;go_upto_region 3 with fail;generalize w3.alloc _=w4 at *
 generalize w3.heap.size=gb at *
 have A1:=(T3.o.at 0 rfl).every;have A2:=(T3.o.at 1 rfl).every;have CR2:=Hi (λW (m:Mod [] w4 W)=>CR.o W (T3.o.mod.then m));clear CR;refine ak 18 [true,true,true,true,true,true,true,true,true,true,true,true,true,true,true,true,true,true] [] zt zt zk ?_;simp only [aQ]
 iterate 12
  refine sv ?_
 refine sk (CR2.o) ?_
 iterate 5
  refine sv ?_
 refine au ?_;refine aB (λw5 hw5 _=>?_);simp only [qS,qZ];have T4:=Hi ((T3.o.call hw5).front (l:=[_]) (k:=[_]));clear A1 A2 CR2 T3 hw5;have A_:=(T4.o.at 0 rfl).cell;go_wp2_with fail;clear A_
 go_loopg [6] (fg.n+2) (λgk v wr=>∃ x:Int,v=.int .i64 x/\Hy (x+gk=fg.n+1/\-1<=x)/\Hy (Own w wr [(fb,#[.int .i64 u,.slice fg.a fg.n fg.c,.slice fc.a fc.n fc.c,.slice fl.a fl.n fl.c,.slice ff.a ff.n ff.c,.slice fx.a fx.n fx.c,.slice fr.a fr.n fr.c,.slice fn.a fn.n fn.c,.slice fv.a fv.n fv.c],32)]))
 case atStart=>exact ⟨-1,rfl,by show -1+((fg.n+2:Nat):Int)=fg.n+1/\(-1:Int)<=-1;omega,T4.o⟩
 case round =>
  obtain ⟨x,rfl,hx,HJ1⟩:=hrel;clear T4;have A_:=(HJ1.o.at 0 rfl).cell
  by_cases hxn:x<=fg.n
  case pos =>
   have z1:=dT (p:=x<=(fg.n:Int)) hxn;have ei:IntKind.i64.wrap (x+1)=x+1:=IntWalk.i64_in _ zpe;obtain ⟨r,C1,C2⟩:=AG.o wr HJ1.o.mod x;have D1:=Hi C1;have D2:=Hi C2;have A1:=(HJ1.o.at 0 rfl).every;have HX:=Hi (And.intro hx.o hxn);clear C1 C2 hx hxn;go_upto_region 8 with fail;clear A_;refine ak 7 [true,true,true,true,true,true,true] [] zt zt zk ?_;simp only [aQ]
   iterate 2
    refine sv ?_
   refine sk (D1.o) ?_
   iterate 2
    refine sv ?_
   refine sk (D2.o) ?_;refine sv ?_;refine au ?_;refine aB (λw' hw' _=>?_);simp only [qS,qZ];clear A1 D1 D2;go_wp2;go_roundg (gk - 1)
   case measure=>have:=HX.o;omega
   case rel=>exact ⟨x+1,rfl,by have:=HX.o;show x+1+((gk - 1:Nat):Int)=fg.n+1/\-1<=x+1;omega,HJ1.o.call hw'⟩
  have z1:=dF (p:=x<=(fg.n:Int)) hxn;clear hx hxn;go_wp2_with fail;generalize wr=wo1 at *
  clear A_ z1
  go_loopg [7] (fl.n+2) (λgk v wr=>∃ x:Int,v=.int .i64 x/\Hy (x+gk=fl.n+1/\-1<=x)/\Hy (Own w wr [(fb,#[.int .i64 u,.slice fg.a fg.n fg.c,.slice fc.a fc.n fc.c,.slice fl.a fl.n fl.c,.slice ff.a ff.n ff.c,.slice fx.a fx.n fx.c,.slice fr.a fr.n fr.c,.slice fn.a fn.n fn.c,.slice fv.a fv.n fv.c],32)]))
  case atStart=>exact ⟨-1,rfl,by show -1+((fl.n+2:Nat):Int)=fl.n+1/\(-1:Int)<=-1;omega,HJ1.o⟩
  case round =>
   obtain ⟨x,rfl,hx,HJ2⟩:=hrel;clear HJ1;have A_:=(HJ2.o.at 0 rfl).cell
   by_cases hxn:x<=fl.n
   case pos =>
    have z1:=dT (p:=x<=(fl.n:Int)) hxn;have ei:IntKind.i64.wrap (x+1)=x+1:=IntWalk.i64_in _ zpe;obtain ⟨r,C1,C2⟩:=AL.o wr HJ2.o.mod x;have D1:=Hi C1;have D2:=Hi C2;have A1:=(HJ2.o.at 0 rfl).every;have HX:=Hi (And.intro hx.o hxn);clear C1 C2 hx hxn;go_upto_region 13 with fail;clear A_;refine ak 7 [true,true,true,true,true,true,true] [] zt zt zk ?_;simp only [aQ]
    iterate 2
     refine sv ?_
    refine sk (D1.o) ?_
    iterate 2
     refine sv ?_
    refine sk (D2.o) ?_;refine sv ?_;refine au ?_;refine aB (λw' hw' _=>?_);simp only [qS,qZ];clear A1 D1 D2;go_wp2;go_roundg (gk - 1)
    case measure=>have:=HX.o;omega
    case rel=>exact ⟨x+1,rfl,by have:=HX.o;show x+1+((gk - 1:Nat):Int)=fl.n+1/\-1<=x+1;omega,HJ2.o.call hw'⟩
   have z1:=dF (p:=x<=(fl.n:Int)) hxn;clear hx hxn;go_wp2_with fail;generalize wr=wo2 at *
   clear A_ z1
   go_loopg [8] (ff.n+2) (λgk v wr=>∃ x:Int,v=.int .i64 x/\Hy (x+gk=ff.n+1/\-1<=x)/\Hy (Own w wr [(fb,#[.int .i64 u,.slice fg.a fg.n fg.c,.slice fc.a fc.n fc.c,.slice fl.a fl.n fl.c,.slice ff.a ff.n ff.c,.slice fx.a fx.n fx.c,.slice fr.a fr.n fr.c,.slice fn.a fn.n fn.c,.slice fv.a fv.n fv.c],32)]))
   case atStart=>exact ⟨-1,rfl,by show -1+((ff.n+2:Nat):Int)=ff.n+1/\(-1:Int)<=-1;omega,HJ2.o⟩
   case round =>
    obtain ⟨x,rfl,hx,HJ3⟩:=hrel;clear HJ2;have A_:=(HJ3.o.at 0 rfl).cell
    by_cases hxn:x<=ff.n
    case pos =>
     have z1:=dT (p:=x<=(ff.n:Int)) hxn;have ei:IntKind.i64.wrap (x+1)=x+1:=IntWalk.i64_in _ zpe;obtain ⟨r,C1,C2⟩:=AF.o wr HJ3.o.mod x;have D1:=Hi C1;have D2:=Hi C2;have A1:=(HJ3.o.at 0 rfl).every;have HX:=Hi (And.intro hx.o hxn);clear C1 C2 hx hxn;go_upto_region 18 with fail;clear A_;refine ak 7 [true,true,true,true,true,true,true] [] zt zt zk ?_;simp only [aQ]
     iterate 2
      refine sv ?_
     refine sk (D1.o) ?_
     iterate 2
      refine sv ?_
     refine sk (D2.o) ?_;refine sv ?_;refine au ?_;refine aB (λw' hw' _=>?_);simp only [qS,qZ];clear A1 D1 D2;go_wp2;go_roundg (gk - 1)
     case measure=>have:=HX.o;omega
     case rel=>exact ⟨x+1,rfl,by have:=HX.o;show x+1+((gk - 1:Nat):Int)=ff.n+1/\-1<=x+1;omega,HJ3.o.call hw'⟩
    have z1:=dF (p:=x<=(ff.n:Int)) hxn;clear hx hxn;go_wp2;go_ret;exact ⟨rfl,HJ3.o.mod⟩
def Rl.rule (r:aN):aN:=⟨Rl.cut r.back,Rl.cut r.ins,Rl.cut r.ahead,r.o.take 8,r.calls.take 8,r.x⟩
theorem zW {w:World} {oa:Option Addr} {n cap h K:Nat} {l:List Int} (hN:Rows 1 bn 0 w (.slice oa n cap) l) (hL:(l.take K).length=h):az 1 aF (λb=>b<w.heap.size) w (.slice oa h cap) (l.take K):=by
 have:=fq zd aF.weak aF.new (gU hN (h:=h) (by rw [<- hL,List.length_take];omega));rwa [show l.take h=l.take K by rw [<- hL,List.length_take];rcases Nat.le_total K l.length with q | q;rw [Nat.min_eq_left q];rw [Nat.min_eq_right q,List.take_length,List.take_of_length_le q]] at this
def Es (F:aD):Prop:=Mr.FR F/\F.lookups.length<=39
theorem AZ (l:List Int):Es (Mk.made l):=⟨(Mr.pm l).1,(Mr.pm l).2.1⟩
theorem aH.rows {base k:Nat} {α:Type} {e:TypeId} {R:Bl->World->List Value->α->Prop} {S S':Bl} {v:Value} {l:List α} {w:World} (hk:0<k) (hW:bW R) (h:aH base e k R S v l w) (h1:∀ b,S b->S' b) (h2:∀ b,base<=b->S' b):az k R S' w v l :=
 h.done hk hW (λb _ hb=>h1 b hb) λb hb=>h2 b (h.lt b hb).1
theorem aH.low {base base' k:Nat} {α:Type} {e:TypeId} {R:Bl->World->List Value->α->Prop} {S:Bl} {v:Value} {l:List α} {w:World} (h:aH base e k R S v l w) (hb:base'<=base):aH base' e k R S v l w:=by
 obtain ⟨css,⟨hl,hh⟩,hE⟩:=h;refine ⟨css,⟨hl,?_⟩,hE⟩;rcases hh with h1 | ⟨g,cap,cur,h1,h2,h3⟩
 ·exact .inl h1
 ·exact .inr ⟨g,cap,cur,h1,nT hb h2,h3⟩
theorem AQ:pR bE:=by
 rintro S w cs x ⟨v0,v1,v2,v3,v4,rfl,h0,h1,h2,h3,h4,-⟩ u hu;obtain ⟨o0,c0,rfl,-⟩:=h0.form;obtain ⟨o1,c1,rfl,-⟩:=h1.form;obtain ⟨o2,c2,rfl,-⟩:=h2.form;obtain ⟨o3,c3,rfl,-⟩:=h3.form;obtain ⟨o4,c4,rfl,-⟩:=h4.form;simp only [List.mem_cons,List.not_mem_nil,or_false] at hu;rcases hu with rfl | rfl | rfl | rfl | rfl | rfl <;> rfl
def j9 (w0 W:World) (l:List (List Int)) (v:Value) (w:World):Prop:=aH W.heap.size 22 1 aM (λb=>b<w0.heap.size) v (Rl.cut l) w
theorem j9.stays (w0 W:World) (l:List (List Int)) (v:Value):aG (j9 w0 W l v):=λ_ _ h m=>h.mod aM.stay m
theorem aH.zI {base k:Nat} {α:Type} {e t:TypeId} {R:Bl->World->List Value->α->Prop} {S:Bl} {v:Value} {l:List α} {w:World} {b:Nat} {cs:Array Value} (h:aH base e k R S v l w) (hB:Blk w b cs t) (hne:e≠t):v.ownBlock≠some b:=λhe=>by
 obtain ⟨css,⟨-,hh⟩,-⟩:=h;rcases hh with ⟨rfl,-⟩ | ⟨g,cap,cur,rfl,-,hg,-⟩
 ·cases he
 ·simp only [Value.ownBlock,Option.some.injEq] at he;subst he;have h2:w.heap[g]?=some (.cells cs t (0,0)):=hB;rw [h2] at hg;injection hg with hg
  injection hg with _ hg
  exact hne hg.symm
theorem Own.grew2 {w0 w w':World} {b1 b2:Nat} {c1 c2:Array Value} {t1 t2:TypeId} {row:Option Nat} (S:Own w0 w [(b1,c1,t1),(b2,c2,t2)]) (g:w.grownBy w' row) (hr:∀ k,row=some k->w0.heap.size<=k) (h1:row≠some b1) (h2:row≠some b2):Own w0 w' [(b1,c1,t1),(b2,c2,t2)] :=
 ⟨S.mod.grew g hr,λp hp=>by
  simp only [List.mem_cons,List.not_mem_nil,or_false] at hp;rcases hp with rfl | rfl
  ·exact ⟨S.ge 0 rfl,(S.at 0 rfl).grew g h1⟩
  ·exact ⟨S.ge 1 rfl,(S.at 1 rfl).grew g h2⟩,S.nodup⟩
def Cg (w0 W:World) (r:aN) (q3 q4 v:Value) (w:World):Prop:=∃ u0 u1 u2,v=.agg #[u0,u1,u2,q3,q4,.int .i64 r.x]/\j9 w0 W r.back u0 w/\j9 w0 W r.ins u1 w/\j9 w0 W r.ahead u2 w
def Cf (w0 W:World) (r:aN) (q3 q4 v:Value) (w:World):Prop:=∃ u0 u1 u2,kX W.heap.size 54 1 #[u0,u1,u2,q3,q4,.int .i64 r.x] v w/\j9 w0 W r.back u0 w/\j9 w0 W r.ins u1 w/\j9 w0 W r.ahead u2 w
theorem Cg.stays {w0 W:World} {r:aN} {q3 q4 v:Value}:aG (Cg w0 W r q3 q4 v):=λ_ _ ⟨u0,u1,u2,h,h0,h1,h2⟩ m=>⟨u0,u1,u2,h,h0.mod aM.stay m,h1.mod aM.stay m,h2.mod aM.stay m⟩
theorem Cf.stays {w0 W:World} {r:aN} {q3 q4 v:Value}:aG (Cf w0 W r q3 q4 v):=λ_ _ ⟨u0,u1,u2,h,h0,h1,h2⟩ m=>⟨u0,u1,u2,kX.stays _ _ _ h m,h0.mod aM.stay m,h1.mod aM.stay m,h2.mod aM.stay m⟩
theorem vw (l:List Int) (oa:Option Addr) (n cap:Nat) (kd:Int) (ig:Bool) (ra:Option Addr) (rn rc:Nat) (R:List aN) (w:World) (hN:Rows 1 bn 0 w (.slice oa n cap) l) (hc:n<=cap) (hc1:cap<=maxLen) (hk:I64 kd) (hR:Rows 6 wV 0 w (.slice ra rn rc) R) :
  Calls Tryz.prog 5 #[.slice oa n cap,.agg #[.int .i64 kd,.bool ig,.slice ra rn rc]] w λe w'=>e=.returned (.bool true)/\Mod [] w w':=by
 have hn:n=l.length:=ep hN;have hrn:=ep hR;subst hrn;have hL:(l.take 600).length=min n 600:=by rw [List.length_take,hn];omega
 obtain ⟨F,hF⟩:∃ F,F=Mk.made (l.take 600):=⟨_,rfl⟩
 have CM:=Hi (λ(W:World) (m:Mod [] w W)=>A9 (l.take 600) (.slice oa (min n 600) cap) W (zW (hN.mod bn.stay m) hL));have HF:Hy (Es F):=by rw [hF];exact AZ _
 have CS:=Hi (λ(W:World)=>Ag oa n cap hc hc1 W);have HK:=Hi hk;have HRM:=Hi (show R.length<=9223372036854775807 by obtain ⟨_,_,_,hm⟩:=hR.form;exact hm);have HR:=Hi hR;rw [<- hF] at CM;have T:=Hi (own1 w #[.int .i64 kd,.bool ig,.slice ra R.length rc] 57);clear hF hn hL hN hc hc1 hk hR;go_enter Tryz.func5,Tryz.ntmps5;go_upto_region 1 with fail;generalize w.alloc _=w0 at *
 obtain ⟨lb,hlb⟩:∃ lb,w.heap.size=lb:=⟨_,rfl⟩
 rw [hlb] at T ⊢;have HLB:=Hi hlb;clear hlb;go_wp2_with fail;refine (zy _).mono ?_;rintro e w1 ⟨rfl,m1⟩;have T1:=Hi (T.o.call m1);clear T m1;go_wp2_with fail;refine (CS.o w1).mono ?_;rintro e w2 ⟨rfl,m2⟩;have T2:=Hi (T1.o.call m2);clear m2 T1;go_wp2_with fail;refine (CM.o w2 T2.o.mod).mono ?_;rintro e w3 ⟨cs,rfl,hS,hcap,m3⟩;obtain ⟨fg,fc,fl,ff,fx,fr,fn,fv,rfl⟩:=BD hS;have HCAP:=Hi (show fg.n<=fg.c/\ff.n<=ff.c from ⟨hcap.1 _ _ _ rfl,hcap.2 _ _ _ rfl⟩);have HS:=Hi (show kw (λb=>lb<b/\b<w3.heap.size) w3 (af F.unit fg fc fl ff fx fr fn fv).toList F from kw.weak _ _ _ _ _ hS λb hb hs=>⟨Nat.lt_of_lt_of_le (T2.o.lt 0 rfl) hs,hb⟩);have HLF:=Hi ((T2.o.call m3).lt 0 rfl);have T3:=Hi ((T2.o.call m3).alloc (af F.unit fg fc fl ff fx fr fn fv) 32);clear hS hcap m3 CM CS T2;unfold af at T3 ⊢;go_upto_block 0 with fail;have hm34:Mod [] w3 (w3.alloc (.cells #[.int .i64 F.unit,.slice fg.a fg.n fg.c,.slice fc.a fc.n fc.c,.slice fl.a fl.n fl.c,.slice ff.a ff.n ff.c,.slice fx.a fx.n fx.c,.slice fr.a fr.n fr.c,.slice fn.a fn.n fn.c,.slice fv.a fv.n fv.c] 32)):=mR.alloc _;generalize w3.alloc _=w4 at *
 obtain ⟨fb,hfb⟩:∃ fb,w3.heap.size=fb:=⟨_,rfl⟩
 rw [hfb] at T3 HS HLF ⊢;have HM3:=Hi (show Mod [] w3 w4 from hm34);have HFB:=Hi hfb;clear hm34 hfb;obtain ⟨ir0,ir,rz0,rz1,rz2⟩:=info_parts tj
 go_cut [7,8,9] from 15 to 60 (λu v _ wx=>∃ (i:Nat) (o:Option Addr) (cp:Nat),u=.slice o i cp/\Hy ((R.take i).map Rl.rule=(R.take 4).map Rl.rule)/\Hy (Own w wx [(lb,#[.int .i64 kd,.bool ig,.slice ra R.length rc],57),(fb,#[.int .i64 F.unit,.slice fg.a fg.n fg.c,.slice fc.a fc.n fc.c,.slice fl.a fl.n fl.c,.slice ff.a ff.n ff.c,.slice fx.a fx.n fx.c,.slice fr.a fr.n fr.c,.slice fn.a fn.n fn.c,.slice fv.a fv.n fv.c],32)])/\Hy (Mod [] w3 wx)/\Hy (aH (fb+1) 54 6 bE (λb=>b≠lb/\b≠fb) (.slice o i cp) ((R.take i).map Rl.rule) wx))
 case first =>
  go_wp2_with fail
  go_loopg [7,8] R.length (λgk u v wr=>∃ i:Nat,v=.int .i64 (i:Int)/\Hy (i+gk=R.length)/\Hy (i<=4)/\Hy (Own w wr [(lb,#[.int .i64 kd,.bool ig,.slice ra R.length rc],57),(fb,#[.int .i64 F.unit,.slice fg.a fg.n fg.c,.slice fc.a fc.n fc.c,.slice fl.a fl.n fl.c,.slice ff.a ff.n ff.c,.slice fx.a fx.n fx.c,.slice fr.a fr.n fr.c,.slice fn.a fn.n fn.c,.slice fv.a fv.n fv.c],32)])/\Hy (Mod [] w3 wr)/\∃ o cp,u=.slice o i cp/\Hy (aH (fb+1) 54 6 bE (λb=>b≠lb/\b≠fb) (.slice o i cp) ((R.take i).map Rl.rule) wr))
  case atStart=>exact ⟨0,rfl,by show 0+R.length=R.length;omega,by show 0<=4;omega,T3.o,HM3.o,none,0,rfl,aH.nil⟩
  case round =>
   obtain ⟨i,rfl,hi,h4,HT,HM,o,cp,rfl,HG⟩:=hrel;clear T3 HM3;have a2:=(HT.o.at 0 rfl).cell 2;simp only [gA,gZ,gS] at a2;have hq:(i=R.length∨i=4)∨(i<R.length/\i<4):=by have:=hi.o;have:=h4.o;omega
   rcases hq with hq | ⟨hin,hi4⟩
   ·have hz:(decide ((i:Int)<R.length)=false)∨(i<R.length/\decide ((i:Int)<4)=false):=by
     simp only [decide_eq_false_iff_not];omega
    have HL:=Hi (show (R.take i).map Rl.rule=(R.take 4).map Rl.rule by
     rcases hq with rfl | rfl
     ·rw [List.take_length,List.take_of_length_le h4.o]
     ·rfl)
    clear hq hi h4;rcases hz with hz | ⟨hz,hz2⟩
    ·have z4:¬ ((i:Int)<R.length):=of_decide_eq_false hz;have z5:(R.length:Int)<=i:=zo;go_wp2;go_meet
     case rel=>exact ⟨i,o,cp,rfl,HL,HT,HM,HG⟩
    ·obtain ⟨k1,k2,k3,k4,ei⟩:=Rf.lf hz HRM.o;have z4:¬ ((i:Int)<4):=of_decide_eq_false hz2;have z5:(4:Int)<=i:=zo;go_wp2;go_meet
     case rel=>exact ⟨i,o,cp,rfl,HL,HT,HM,HG⟩
   obtain ⟨k1,k2,k3,k4,ei⟩:=Rf.lf hin HRM.o;have z1:=dT (p:=(i:Int)<4) zo;have HI:=Hi (And.intro (Rf.ms hi hin) (And.intro (Rf.nx hi hin) hi4));have HTK:=Hi (show (R.take (i+1)).map Rl.rule=(R.take i).map Rl.rule++[Rl.rule R[i]] by rw [List.take_succ_eq_append_getElem hin,List.map_append];rfl);have HLN:=Hi (show ((R.take i).map Rl.rule).length=i by rw [List.length_map,List.length_take];omega);generalize (R.take i).map Rl.rule=A at *
   obtain ⟨a,rfl,-,cs,-,hc0,hcj,v0,v1,v2,v3,v4,rfl,r0,r1,r2,r3,r4,r5,p3,p4⟩:=HR.o.at i hin;generalize R[i]=r at *
   obtain ⟨o0,d0,rfl,-⟩:=r0.form;obtain ⟨o1,d1,rfl,-⟩:=r1.form;obtain ⟨o2,d2,rfl,-⟩:=r2.form;obtain ⟨o3,d3,rfl,m3⟩:=r3.form;obtain ⟨o4,d4,rfl,m4⟩:=r4.form;have q3:=p3 _ _ _ rfl;have q4:=p4 _ _ _ rfl;have c0:=aj HT.o.mod (hc0 zd);have c1:=aj HT.o.mod (hcj 1 zd zd);have c2:=aj HT.o.mod (hcj 2 zd zd);have c3:=aj HT.o.mod (hcj 3 zd zd);have c4:=aj HT.o.mod (hcj 4 zd zd);have c5:=aj HT.o.mod (hcj 5 zd zd);have C0:=Hi (λW (m:Mod [] w W)=>rF _ _ _ _ w W m r0);have C1:=Hi (λW (m:Mod [] w W)=>rF _ _ _ _ w W m r1);have C2:=Hi (λW (m:Mod [] w W)=>rF _ _ _ _ w W m r2);obtain ⟨h3,hh3⟩:∃ h3,min r.o.length 8=h3:=⟨_,rfl⟩
   obtain ⟨h4',hh4⟩:∃ h4,min r.calls.length 8=h4:=⟨_,rfl⟩
   have e3:(if (8:Int)<r.o.length then (8:Int) else (r.o.length:Int))=(h3:Int):=by split <;> omega
   have e4:(if (8:Int)<r.calls.length then (8:Int) else (r.calls.length:Int))=(h4':Int):=by split <;> omega
   have b3:(h3:Int)<=d3:=zo;have b4:(h4':Int)<=d4:=zo;have b5:h3<=d3:=zo;have b6:h4'<=d4:=zo
   have R3:=Hi (show Rows 1 bn 0 w (.slice o3 h3 d3) (r.o.take 8) from by
    have:=gU r3 (h:=h3) zo
    rwa [show r.o.take h3=r.o.take 8 by rw [<- hh3];rcases Nat.le_total r.o.length 8 with q | q;rw [Nat.min_eq_left q,List.take_length,List.take_of_length_le q];rw [Nat.min_eq_right q]] at this)
   have R4:=Hi (show Rows 2 iC 0 w (.slice o4 h4' d4) (r.calls.take 8) from by
    have:=gU r4 (h:=h4') zo
    rwa [show r.calls.take h4'=r.calls.take 8 by rw [<- hh4];rcases Nat.le_total r.calls.length 8 with q | q;rw [Nat.min_eq_left q,List.take_length,List.take_of_length_le q];rw [Nat.min_eq_right q]] at this)
   have R5:=Hi r5;clear hc0 hcj r0 r1 r2 r3 r4 r5 p3 p4 q3 q4 m3 m4 hh3 hh4 hi h4 hin hi4;go_upto_region 8 with fail;have HT2:=Hi (HT.o.alloc #[.slice o0 r.back.length d0,.slice o1 r.ins.length d1,.slice o2 r.ahead.length d2,.slice o3 r.o.length d3,.slice o4 r.calls.length d4,.int .i64 r.x] 54);have HM2:=Hi (HM.o.alloc (.cells #[.slice o0 r.back.length d0,.slice o1 r.ins.length d1,.slice o2 r.ahead.length d2,.slice o3 r.o.length d3,.slice o4 r.calls.length d4,.int .i64 r.x] 54));have HG2:=Hi (HG.o.mod bE.stay ((Mod.refl [] wr).alloc (.cells #[.slice o0 r.back.length d0,.slice o1 r.ins.length d1,.slice o2 r.ahead.length d2,.slice o3 r.o.length d3,.slice o4 r.calls.length d4,.int .i64 r.x] 54)));clear c0 c1 c2 c3 c4 c5 a2 HT HM HG;generalize wr.alloc _=W1 at *
   generalize wr.heap.size=pb at *
   have A2:=(HT2.o.at 2 rfl).every;refine Sn.aL (I:=Mod [] W1) (F0:=(λ_=>True)) (λ_ _ h k=>h.then k) 28 [(0,none),(1,none),(2,none),(4,none),(5,none),(7,none),(8,none),(10,none),(11,none),(12,none),(13,none),(14,none),(15,none),(16,none),(17,none),(18,none),(19,none),(20,none),(21,none),(22,none),(23,none),(24,none),(25,none),(3,some ((λv _ w'=>j9 w W1 r.back v w'))),(6,some ((λv F w'=>F w'/\j9 w W1 r.ins v w'))),(9,some ((λv F w'=>F w'/\j9 w W1 r.ahead v w'))),(26,some ((λv _ w'=>Cg w W1 r (.slice o3 h3 d3) (.slice o4 h4' d4) v w'))),(27,some ((λv _ w'=>Cf w W1 r (.slice o3 h3 d3) (.slice o4 h4' d4) v w')))] zt zt (Sq.aW zt) ?hTS192 ((Mod.refl [] W1).drew) (λ_ _ _ _=>trivial) trivial ?mainS192
   case hTS192 =>
    intro p hp T hT v F9 hF9;simp only [List.mem_cons,List.not_mem_nil,or_false] at hp;rcases hp with rfl | rfl | rfl | rfl | rfl | rfl | rfl | rfl | rfl | rfl | rfl | rfl | rfl | rfl | rfl | rfl | rfl | rfl | rfl | rfl | rfl | rfl | rfl | rfl | rfl | rfl | rfl | rfl <;> first | (cases hT;done) | (cases hT;first | exact (λ_ _ h m=>Cg.stays _ _ h m) | exact (λ_ _ h m=>Cf.stays _ _ h m) | exact (λ_ _ h m=>h.mod aM.stay m) | exact (λ_ _ h m=>⟨hF9 _ _ h.1 m,h.2.mod aM.stay m⟩))
   iterate 23 refine Sn.vv (w0:=W1.drew) ((Mod.refl [] W1).drew) ?_
   refine Sn.kV (g:=?_) 34 _ rfl zt rfl (λv=>by simp only [List.set_cons_succ,List.set_cons_zero];exact rfl) (λw' hw' hF K Q hK=>?_) (λkv hkv=>?_)
   ·go_wp2_with fail;refine (C0.o w' (HT2.o.mod.then hw')).mono ?_;rintro e w'' ⟨u,rfl,hu,mu⟩;go_wp2;exact hK _ _ (hw'.then mu) (hu.low hw'.size)
   obtain ⟨w9',h9,h91⟩:=hkv;obtain ⟨oA,cA,rfl⟩:=h91.form;clear h91 h9 w9';refine Sn.kV (g:=?_) 37 _ rfl zt rfl (λv=>by simp only [List.set_cons_succ,List.set_cons_zero];exact rfl) (λw' hw' hF K Q hK=>?_) (λkv hkv=>?_)
   ·go_wp2_with fail;refine (C1.o w' (HT2.o.mod.then hw')).mono ?_;rintro e w'' ⟨u,rfl,hu,mu⟩;go_wp2;exact hK _ _ (hw'.then mu) ⟨j9.stays _ _ _ _ _ _ hF mu,hu.low hw'.size⟩
   obtain ⟨w9',h9,h92,h91⟩:=hkv;obtain ⟨oB,cB,rfl⟩:=h91.form;clear h92 h91 h9 w9';refine Sn.kV (g:=?_) 40 _ rfl zt rfl (λv=>by simp only [List.set_cons_succ,List.set_cons_zero];exact rfl) (λw' hw' hF K Q hK=>?_) (λkv hkv=>?_)
   ·go_wp2_with fail;refine (C2.o w' (HT2.o.mod.then hw')).mono ?_;rintro e w'' ⟨u,rfl,hu,mu⟩;go_wp2;exact hK _ _ (hw'.then mu) ⟨⟨j9.stays _ _ _ _ _ _ hF.1 mu,hF.2.mod aM.stay mu⟩,hu.low hw'.size⟩
   obtain ⟨w9',h9,h92,h91⟩:=hkv;obtain ⟨oC,cC,rfl⟩:=h91.form;clear h92 h91 h9 w9';refine Sn.kV (g:=?_) 57 _ rfl zt rfl (λv=>by simp only [List.set_cons_succ,List.set_cons_zero];exact rfl) (λw' hw' hF K Q hK=>?_) (λkv hkv=>?_)
   ·go_wp2;exact hK _ _ hw' ⟨_,_,_,rfl,hF.1.1,hF.1.2,hF.2⟩
   obtain ⟨w9',h9,u0,u1,u2,rfl,h91⟩:=hkv;clear h91 h9 w9';refine Sn.kV (g:=?_) 58 _ rfl zt rfl (λv=>by simp only [List.set_cons_succ,List.set_cons_zero];exact rfl) (λw' hw' hF K Q hK=>?_) (λkv hkv=>?_)
   ·go_wp2_with fail;obtain ⟨_,_,_,he,hA,hB,hC⟩:=hF;cases he;exact hK _ _ (hw'.alloc _) ⟨_,_,_,⟨_,rfl,Blk.new _ _ _,hw'.size⟩,j9.stays _ _ _ _ _ _ hA (mR.alloc _),j9.stays _ _ _ _ _ _ hB (mR.alloc _),j9.stays _ _ _ _ _ _ hC (mR.alloc _)⟩
   obtain ⟨w9',h9,y0,y1,y2,⟨b8,rfl,h92⟩,h91⟩:=hkv;clear h92 h91 h9 w9';refine Sn.bJ ?_;intro w' hw' hF;simp only [qS,qZ];obtain ⟨t0,t1,t2,⟨b9,he9,hB9,hge9⟩,hA,hB,hC⟩:=hF;obtain rfl:b8=b9:=by simpa using he9
   have HG3:=Hi (HG2.o.mod bE.stay hw');have hown:∀ b,W1.heap.size<=b∨b<w.heap.size->(Value.slice o i cp).ownBlock≠some b/\b≠lb/\b≠fb:=λb hb=>⟨λhe=>by have:=HG2.o.lt b he;have:=HT2.o.ge 1 rfl;omega,λhe=>by have:=HT2.o.lt 0 rfl;have:=HLB.o;omega,λhe=>by have:=HT2.o.lt 1 rfl;have:=HT2.o.ge 1 rfl;omega⟩
   have hrule:bE (λb=>(Value.slice o i cp).ownBlock≠some b/\b≠lb/\b≠fb) w' [t0,t1,t2,.slice o3 h3 d3,.slice o4 h4' d4,.int .i64 r.x] (Rl.rule r) :=
    ⟨_,_,_,_,_,rfl,hA.rows zd aM.weak (λb hb=>hown b (.inr hb)) (λb hb=>hown b (.inl hb)),hB.rows zd aM.weak (λb hb=>hown b (.inr hb)) (λb hb=>hown b (.inl hb)),hC.rows zd aM.weak (λb hb=>hown b (.inr hb)) (λb hb=>hown b (.inl hb)),
     ((fq zd aF.weak aF.new R3.o).weak zd aF.weak λb _ hb=>hown b (.inr hb)).mod aF.stay (HT2.o.mod.then hw'),((fq zd dM.weak dM.new R4.o).weak zd dM.weak λb _ hb=>hown b (.inr hb)).mod dM.stay (HT2.o.mod.then hw'),R5.o⟩
   have hx:=az.one (k:=6) (c:=1) hB9 rfl (hown b8 (.inl hge9)) hrule;have HX:=Hi hx;have HW:=Hi hw';clear he9 hB9 hge9 hA hB hC hown hrule hx A2 C0 C1 C2 R3 R4 R5 hw' e3 e4 b3 b4 b5 b6;go_wp2_with (at_builtin;refine tN (k:=6) (e:=54) (base:=fb+1) (l:=A) (l':=[Rl.rule r]) (S:=λb=>b≠lb/\b≠fb) rfl _ _ rfl Tryz.underlying55 ir rz0 rz1 rz2 rfl zd bE.stay bE.weak AQ rfl HG3.o rfl HX.o (λcs y h=>bE.weak _ _ _ _ _ h λb _ hb=>⟨hb.2,hb.1⟩) ?_ ?_ ?_ (λv' w'' hG hgr hbk=>?_))
   ·rw [HLN.o];have:=HI.o.2.2;unfold maxLen;simp only [List.length_cons,List.length_nil];omega
   ·rw [HLN.o];have:=HI.o.2.2;simp only [List.length_cons,List.length_nil];omega
   ·exact Nat.lt_of_lt_of_le (HT2.o.lt 1 rfl) HW.o.size
   obtain ⟨oa',c',rfl⟩:=hG.form;have hG2:aH (fb+1) 54 6 bE (λb=>b≠lb/\b≠fb) (.slice oa' (i+1) c') ((R.take (i+1)).map Rl.rule) w'':=by
    rw [HTK.o];have:=hG;rwa [List.length_append,HLN.o] at this
   have HG4:=Hi hG2;have hT:=(HT2.o.front (l:=[_,_]) (k:=[_])).call HW.o;have HT4:=Hi (hT.grew2 hgr (λb hb=>by have:=HT2.o.ge 1 rfl;have:=(HG3.o.lt b hb).1;omega) (HG3.o.zI (hT.at 0 rfl) zd) (HG3.o.zI (hT.at 1 rfl) zd));have HM4:=Hi (show Mod [] w3 w'' from (HM2.o.then HW.o).grew hgr λb hb=>by have:=(HG3.o.lt b hb).1;have:=HFB.o;omega);have HL2:=Hi (show (A++[Rl.rule r]).length=i+1 by rw [List.length_append,HLN.o];rfl);rw [HL2.o];clear hG hgr hG2 HG2 HG3 HM2 HT2 hT HX HW;go_wp2;go_roundg (gk - 1)
   case measure=>exact HI.o.1
   case rel=>exact ⟨i+1,by rw [Int.natCast_add];rfl,HI.o.2.1,by have:=HI.o.2.2;show i+1<=4;omega,HT4.o,HM4.o,oa',c',rfl,HG4.o⟩
 case rest =>
  obtain ⟨i,o,cp,rfl,HL,HT,HM,HG⟩:=hcut;clear T3 HM3;have a2:=(HT.o.at 0 rfl).cell 2;simp only [gA,gZ,gS] at a2;have z0:=(HT.o.at 0 rfl).frozen 2;have HT2:Hy (Own w (wc.setCell ⟨lb,2,none⟩ (.slice o i cp)) [(lb,#[.int .i64 kd,.bool ig,.slice o i cp],57),(fb,#[.int .i64 F.unit,.slice fg.a fg.n fg.c,.slice fc.a fc.n fc.c,.slice fl.a fl.n fl.c,.slice ff.a ff.n ff.c,.slice fx.a fx.n fx.c,.slice fr.a fr.n fr.c,.slice fn.a fn.n fn.c,.slice fv.a fv.n fv.c],32)]):=HT.o.set 0 rfl 2 (.slice o i cp);have HM2:=Hi (show Mod [lb] w3 (wc.setCell ⟨lb,2,none⟩ (.slice o i cp)) from (HM.o.more zk).setCell (λ_=>by simp) _);have HG2:=Hi (HG.o.set bE.stay (p:=⟨lb,2,none⟩) (HG.o.zI (HT.o.at 0 rfl) zd) zk (.slice o i cp));go_upto_region 10 with fail;clear HT HM HG z0 a2;generalize wc.setCell _ _=W1 at *
  have A1:=(HT2.o.at 0 rfl).every;have A3:=(HT2.o.at 1 rfl).every;have HLT:=Hi (show lb<W1.heap.size/\fb<W1.heap.size/\lb<fb/\w.heap.size<=lb/\w.heap.size<=fb/\w3.heap.size<=fb from ⟨HT2.o.lt 0 rfl,HT2.o.lt 1 rfl,HLF.o,HT2.o.ge 0 rfl,HT2.o.ge 1 rfl,Nat.le_of_eq HFB.o⟩);have hds:=HS.o.hds;have HLN:=Hi hds.2.2.2.1.n;have HH:Hy (∀ W,Mod [] W1 W->az 3 bc (λb=>b≠lb/\b≠fb) W (.slice fl.a fl.n fl.c) F.lookups):=λW m=>(hds.2.2.2.1.same bc.stay ((HM2.o.then (m.more zk)).jM zk)).weak zd bc.weak λb _ hb=>⟨by omega,by omega⟩
  have HCV:Hy (∀ W cs y,bc (λb=>b≠lb/\b≠fb) W cs y->bc (λb=>(b≠lb/\b≠fb)/\(Value.slice none 0 0).ownBlock≠some b) W cs y):=λW cs y h=>bc.weak _ _ _ _ _ h λb _ hb=>⟨hb,by simp [Value.ownBlock]⟩
  have HLM:Hy (F.lookups.length<=maxLen/\F.lookups.length*40<=140737488355328/\F.lookups.length+1<=maxLen/\(F.lookups.length+1)*40<=140737488355328):=by have:=HF.o.2;show _/\_;unfold maxLen;omega
  have hrr:=(HG2.o.rows zd bE.weak (S':=λb=>b≠lb/\b≠fb) (λ_ h=>h) (λb hb=>by have:=HLF.o;omega)).weak (S':=λb=>(b≠lb/\b≠fb)/\b<W1.heap.size) zd bE.weak λb hl h=>⟨h,hl⟩
  rw [HL.o] at hrr;have HRR:=Hi hrr;clear hds hrr HG2 HL HLF;generalize (R.take 4).map Rl.rule=RR at *
  obtain ⟨li0,li,lz0,lz1,lz2⟩:=info_parts pu;refine Dg.pS 6 [false,true,true,false,true,false] [(0,kX W1.heap.size 57 0 #[]),(3,im W1.heap.size 57 3 bc (λb=>b≠lb/\b≠fb) F.lookups fl.n),(5,kX W1.heap.size 57 1 #[.int .i64 kd,.bool ig,.slice o i cp])] zt zt ?hTd411 ?maind411
  case hTd411=>simp [im.stays bc.stay,kX.stays]
  simp only [aQ]
  iterate 3
   refine sv ?_
  refine au (Dg.uS zt ?_ ?_)
  ·refine Dg.bP (Dg.jY _ rfl rfl λa hl w' hw' hd K Q hK=>?_) ?_
   ·exact AO (r:=.slice (some ⟨w'.heap.size,0,none⟩) 0 0) (w1:=w'.alloc (.cells #[] 57)) rfl zt (hK _ _ (mR.alloc _) ⟨_,rfl,Blk.new _ _ _,hw'.size⟩)
   refine Dg.bP (Dg.jY _ rfl rfl λa hl w' hw' hd K Q hK=>?_) ?_
   ·obtain ⟨u,e,b9,rfl,hB,hb9⟩:=Dg.rE hd 0 0 62 rfl zt rfl;have e2:a.eval (.tmp 64)=.slice fl.a fl.n fl.c:=(Dg.jh hl zt).trans rfl;refine qA (base:=W1.heap.size) (k:=3) (e:=57) (S:=λb=>b≠lb/\b≠fb) (l':=F.lookups) rfl _ _ rfl Tryz.underlying26 li lz0 lz1 lz2 rfl zd bc.stay bc.weak vU b9 e e2 (HH.o w' hw') (HCV.o w') HLM.o.1 HLM.o.2.1 hw'.size (λv' w'' hcp m=>?_);have hgr:=hcp.grow hb9 (hB.kept m zk);exact hK _ _ m ⟨HLN.o.symm ▸ hgr.form,hgr⟩
   refine Dg.bP (Dg.jY _ rfl rfl λa hl w' hw' hd K Q hK=>?_) ?_
   ·have e:a.eval (.tmp 66)=.agg #[.int .i64 kd,.bool ig,.slice o i cp]:=(Dg.jh hl zt).trans rfl;exact AK (r:=.slice (some ⟨w'.heap.size,0,none⟩) 1 1) (w1:=w'.alloc (.cells #[.int .i64 kd,.bool ig,.slice o i cp] 57)) _ rfl e zt (hK _ _ (mR.alloc _) ⟨_,rfl,Blk.new _ _ _,hw'.size⟩)
   exact Dg.lV
  refine Dg.dh (g:=?_) 62 _ rfl rfl (λv=>by simp only [List.set_cons_succ,List.set_cons_zero];exact rfl) (λkv1=>?_);refine Dg.dh (g:=?_) 65 _ rfl rfl (λv=>by simp only [List.set_cons_succ,List.set_cons_zero];exact rfl) (λkv2=>?_);refine Dg.dh (g:=?_) 67 _ rfl rfl (λv=>by simp only [List.set_cons_succ,List.set_cons_zero];exact rfl) (λkv3=>?_);refine Dg.rB (λw' hw' hF=>?_);simp only [qS,qZ];refine im.elim hF.1.2 (λol cl hel hgl=>?_);have hnw:=hF.2;clear hF;obtain ⟨bG,heG,hBG,hgeG⟩:=hnw;subst hel heG;have HEG:Hy (aP 3 bc (λb=>(b≠lb/\b≠fb)/\(Value.slice ol fl.n cl).ownBlock≠some b) w' [[.int .i64 kd,.bool ig,.slice o i cp]] [⟨kd,ig,RR⟩]):=aP.one rfl ⟨_,rfl,HK.o,(HRR.o.mod bE.stay hw').weak zd bE.weak λb _ hb=>⟨hb.1,λhe=>by have:=(hgl.lt b he).1;omega⟩⟩;have HNG:Hy (∀ j x,[[Value.int .i64 kd,.bool ig,.slice o i cp]].flatten[j]?=some x->w'.cell? ((⟨bG,0,none⟩:Addr).add j)=some x):=λj x hx=>by
   have e1:(⟨bG,0,Option.none⟩:Addr).add j=⟨bG,j,Option.none⟩:=by unfold Addr.add;split;{ rename_i h;rw [h] };simp
   rw [e1,hBG.cell];rw [<- hx];simp
  have H1G:Hy (∀ x∈[[Value.int .i64 kd,.bool ig,.slice o i cp]].flatten,x.oneCell'=true):=λx hx=>by
   simp only [List.flatten_cons,List.flatten_nil,List.append_nil,List.mem_cons,List.not_mem_nil,or_false] at hx;rcases hx with rfl | rfl | rfl <;> rfl
  have HGL2:=Hi hgl;have HW:=Hi hw';clear hgl hBG hgeG hw' HH A1 A3 HCV HRR;have HNW:Hy (W1.heap.size<=w'.heap.size):=HW.o.size;go_wp2_with (at_builtin;refine aO (k:=3) (e:=57) (base:=W1.heap.size) (l:=F.lookups) (l':=[⟨kd,ig,RR⟩]) rfl _ _ 26 rfl li0 _ 40 Tryz.underlying26 li lz0 lz1 lz2 rfl zd bc.stay bc.weak rfl HGL2.o ⟨bG,0,none⟩ 1 1 _ rfl rfl HEG.o HNG.o H1G.o HLM.o.2.2.1 HLM.o.2.2.2 HNW.o ?_);intro v' w15 hGv hgv hbv;have HR1:Hy (1<=F.lookups.length+1/\F.lookups.length+1<=40/\(F.lookups++[(⟨kd,ig,RR⟩:ar)]).length=F.lookups.length+1):=⟨by omega,by have:=HF.o.2;omega,by rw [List.length_append];rfl⟩
  obtain ⟨L,hL⟩:∃ L,L=F.lookups++[(⟨kd,ig,RR⟩:ar)]:=⟨_,rfl⟩
  rw [<- hL] at hGv HR1;have hLL:L.length=fl.n+1:=by have:=HR1.o.2.2;have:=HLN.o;omega
  obtain ⟨oL,cL,rfl⟩:=hGv.form;rw [hLL] at hGv ⊢;have hlt:=HLT.o;have hrow:∀ k,(Value.slice ol fl.n cl).ownBlock=some k->W1.heap.size<=k:=λk hk=>(HGL2.o.lt k hk).1
  have hT5:=(HT2.o.call HW.o).grew2 hgv (λb hb=>by have:=hrow b hb;omega) (λhe=>by have:=hrow _ he;omega) (λhe=>by have:=hrow _ he;omega);have M15:Mod [lb] w3 w15:=(HM2.o.then (HW.o.more zk)).grew hgv λb hb=>by have:=hrow b hb;omega
  have q3:=(hT5.at 1 rfl).cell 3;have q9:=(hT5.at 1 rfl).frozen 3;simp only [gA,gZ,gS] at q3;have HT6:Hy (Own w (w15.setCell ⟨fb,3,none⟩ (.slice oL (fl.n+1) cL)) [(lb,#[.int .i64 kd,.bool ig,.slice o i cp],57),(fb,#[.int .i64 F.unit,.slice fg.a fg.n fg.c,.slice fc.a fc.n fc.c,.slice oL (fl.n+1) cL,.slice ff.a ff.n ff.c,.slice fx.a fx.n fx.c,.slice fr.a fr.n fr.c,.slice fn.a fn.n fn.c,.slice fv.a fv.n fv.c],32)]):=hT5.set 1 rfl 3 (.slice oL (fl.n+1) cL);have M6:Mod [lb] w3 (w15.setCell ⟨fb,3,none⟩ (.slice oL (fl.n+1) cL)):=M15.eT (by show w3.heap.size<=fb;omega) _;have SB:bC (λb=>lb<b/\b<fb) w3 (w15.setCell ⟨fb,3,none⟩ (.slice oL (fl.n+1) cL)):=M6.jM zk;have hlk:=(hGv.rows zd bc.weak (S':=λb=>b≠fb) (λ_ h=>h.2) (λb hb=>by omega)).same bc.stay (w':=w15.setCell ⟨fb,3,none⟩ (.slice oL (fl.n+1) cL)) ((show Mod [fb] w15 _ from (mR.setCell (λ_=>by simp) _)).jM zk);obtain ⟨eu,h1,h2,-,h4,h5,h6,h7,h8⟩:=HS.o.hds;have hin:Rf.In (w15.setCell ⟨fb,3,none⟩ (.slice oL (fl.n+1) cL)) fg fc ⟨oL,fl.n+1,cL⟩ ff fx fr fn fv { F with lookups:=L } :=
   ⟨(h1.same bO.stay SB).old zd bO.old λ_ _ _=>Nat.zero_le _,(h2.same cV.stay SB).old zd cV.old λ_ _ _=>Nat.zero_le _,hlk.old zd bc.old λ_ _ _=>Nat.zero_le _,(h4.same aU.stay SB).old zd aU.old λ_ _ _=>Nat.zero_le _,(h5.same bX.stay SB).old zd bX.old λ_ _ _=>Nat.zero_le _,(h6.same aY.stay SB).old zd aY.old λ_ _ _=>Nat.zero_le _,(h7.same cT.stay SB).old zd cT.old λ_ _ _=>Nat.zero_le _,(h8.same aF.stay SB).old zd aF.old λ_ _ _=>Nat.zero_le _⟩
  have HIN:=Hi hin;clear eu h1 h2 h4 h5 h6 h7 h8 hin hlk SB M6 M15 hT5 hrow hlt hLL hL hGv hgv hbv HEG HNG H1G HNW HGL2 HT2 HM2 HW HS HLM li0 li lz0 lz1 lz2;go_upto_region 11 with fail;generalize w15.setCell _ _=W2 at *
  clear q3 q9;have A_:=(HT6.o.at 1 rfl).cell;have ew:wrap64 (fl.n:Int)=(fl.n:Int):=IntWalk.wrap64_in _ (by have:=HR1.o.2.1;have:=HLN.o;omega);have A3:=(HT6.o.at 1 rfl).every;obtain ⟨r,C1,C2⟩:=pG HIN.o (fl.n:Int);have CT:=λW (m:Mod [] W2 W)=>xG W HF.o.1 (by have:=HR1.o;omega) (by have:=HR1.o;omega) (HIN.o.mod m) HCAP.o.1 HCAP.o.2
  simp only [af] at C1 C2 CT;have D1:=Hi C1;have D2:=Hi C2;have D3:=Hi CT;clear C1 C2 CT;go_upto_region 12 with fail;rw [ew];clear A_ ew;refine ak 14 [true,true,true,true,true,true,true,true,true,true,true,true,true,true] [] zt zt zk ?_;simp only [aQ]
  iterate 4
   refine sv ?_
  refine sk (D1.o) ?_
  iterate 2
   refine sv ?_
  refine sk (D2.o) ?_
  iterate 4
   refine sv ?_
  refine sk (D3.o) ?_;refine sv ?_;refine au ?_;refine aB (λw' hw' _=>?_);simp only [qS,qZ];clear A3 D1 D2 D3;go_wp2;go_ret;exact ⟨rfl,(HT6.o.call hw').mod⟩
def DI (W:World) (v:Value) (n cap:Nat) (l:List Int):Prop:=Rows 1 bn 0 W v l/\n<=cap/\cap<=maxLen
section
open Go.ChangeShapes Go.WideShapes Go.ChangeAt Go.Joins
variable {H:Type} {enc:TypeId×Value->H} {W:World} {base:Nat}
set_option maxRecDepth 100000 in
theorem nums_in {oa:Option Addr} {n cap:Nat} {d:DataW H} {ps:List MemPlace} (h:DataW.Trod enc Tryz.prog W 0 (λ_=>true) true 22 (.slice oa n cap) d ps) (_hlt:∀ x∈ps,x.block<W.heap.size):∃ l:List Int,DI W (.slice oa n cap) n cap l:=by
 obtain ⟨fuel,h⟩:=h;have h0:DataW.trod enc Tryz.prog W 0 (λ_=>true) true fuel 22 [.slice oa n cap]=some (d,ps):=h;obtain ⟨l,hl⟩:=rowsOf Tryz.underlying22 fZ (λ_ _ _ h=>iw h) h0;refine ⟨l,hl,?_⟩;cases fuel with
 | zero=>cases h0
 | succ f =>
  unfold DataW.trod at h0;rw [Tryz.underlying22] at h0;cases oa with
  | none =>
   cases n with
   | zero =>
    cases cap with
    | zero=>exact ⟨nR _,Nat.zero_le _⟩
    | succ c=>simp at h0
   | succ n=>simp at h0
  | some a =>
   simp only at h0
   split at h0
   ·rename_i hc;exact ⟨hc.2.1,hc.2.2⟩
   ·cases h0
end
theorem rules_walkS (oa:Option Addr) (n cap:Nat) (l:List Int) (v:Value) (R:List aN) (w:World) (h:DI w (.slice oa n cap) n cap l) (hv:zQ w v R) :
  Calls Tryz.prog 5 #[.slice oa n cap,v] w λe w'=>e=.returned (.bool true)/\Below w.heap.size w w':=by
 obtain ⟨k,ig,ra,rn,rc,rfl,hk,hR⟩:=hv;exact (vw l oa n cap k ig ra rn rc R w h.1 h.2.1 h.2.2 hk hR).mono λe w' ⟨h,m⟩=>⟨h,m.sF⟩
end Go.Proofs.YthheaflbbficgaaGreat

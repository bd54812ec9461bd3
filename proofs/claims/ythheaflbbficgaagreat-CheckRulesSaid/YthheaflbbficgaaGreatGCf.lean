/- CkFontC, CkFontD, CkGlyph2, CkFontE, CkFontF, CkFontG, CkFontH, CkFontI, CkFont, CkRight. -/
import Derived.Test.YthheaflbbficgaaGreatGBase
import Derived.Test.YthheaflbbficgaaGreatGCl
import Derived.Test.YthheaflbbficgaaGreatGRing
set_option linter.all false
namespace Go.Proofs.YthheaflbbficgaaGreat
set_option maxHeartbeats 8000000
open Go.RowKit
theorem Er (x:av) (cs:List Value) (B:Nat) (w:World) (h:aI B w cs x):Calls Tryz.prog 45 #[.agg cs.toArray] w λe w'=>e=.returned (.string x.name)/\Mod [] w w':=by
 obtain ⟨v3,v4,v5,v6,v7,v8,rfl,-⟩:=h;have T:=Hi (own1 w #[.string x.name,.int .i64 x.adv,.bool x.mark,v3,v4,v5,v6,v7,v8] 46);have c0:=(T.o.at 0 rfl).cell 0;go_enter Tryz.func45,Tryz.ntmps45;go_wp2;go_ret;exact ⟨rfl,T.o.mod⟩
theorem Ep (x:aA) (cs:List Value) (B:Nat) (w:World) (h:aZ B w cs x):Calls Tryz.prog 47 #[.agg cs.toArray] w λe w'=>e=.returned (.string x.name)/\Mod [] w w':=by
 obtain ⟨v1,rfl,-⟩:=h;have T:=Hi (own1 w #[.string x.name,v1] 88);have c0:=(T.o.at 0 rfl).cell 0;go_enter Tryz.func47,Tryz.ntmps47;go_wp2;go_ret;exact ⟨rfl,T.o.mod⟩
theorem Eo (x:bB) (cs:List Value) (B:Nat) (w:World) (h:eP B w cs x):Calls Tryz.prog 49 #[.agg cs.toArray] w λe w'=>e=.returned (.string x.name)/\Mod [] w w':=by
 obtain ⟨rfl,-⟩:=h;have T:=Hi (own1 w #[.string x.name,.int .i64 x.min,.int .i64 x.dflt,.int .i64 x.max] 76);have c0:=(T.o.at 0 rfl).cell 0;go_enter Tryz.func49,Tryz.ntmps49;go_wp2;go_ret;exact ⟨rfl,T.o.mod⟩
theorem Eh (x:av) (cs:List Value) (B:Nat) (w:World) (h:aI B w cs x):Calls Tryz.prog 26 #[.agg cs.toArray] w λe w'=>e=.returned (.string x.name)/\Mod [] w w':=by
 obtain ⟨v3,v4,v5,v6,v7,v8,rfl,-⟩:=h;have T:=Hi (own1 w #[.string x.name,.int .i64 x.adv,.bool x.mark,v3,v4,v5,v6,v7,v8] 46);have c0:=(T.o.at 0 rfl).cell 0;go_enter Tryz.func26,Tryz.ntmps26;go_wp2;go_ret;exact ⟨rfl,T.o.mod⟩
theorem Ef (x:aA) (cs:List Value) (B:Nat) (w:World) (h:aZ B w cs x):Calls Tryz.prog 99 #[.agg cs.toArray] w λe w'=>e=.returned (.string x.name)/\Mod [] w w':=by
 obtain ⟨v1,rfl,-⟩:=h;have T:=Hi (own1 w #[.string x.name,v1] 88);have c0:=(T.o.at 0 rfl).cell 0;go_enter Tryz.func99,Tryz.ntmps99;go_wp2;go_ret;exact ⟨rfl,T.o.mod⟩
theorem En9 (u:Int) (fg fc fl ff fx fr fn fv:Hd) (fb:Nat) (w:World) (hF:ef u fg fc fl ff fx fr fn fv fb w):Calls Tryz.prog 51 #[.pointer (some ⟨fb,0,none⟩)] w λe w'=>e=.returned (.tuple #[.int .i64 (Ck.mD u fg.n),.int .i64 0])/\Mod [] w w':=by
 obtain ⟨tf,hfb⟩:=hF;unfold af at hfb;have g0:=hfb.cell 0;have g1:=hfb.cell 1;have g2:=hfb.cell 2;have g3:=hfb.cell 3;have g4:=hfb.cell 4;have g5:=hfb.cell 5;have g6:=hfb.cell 6;have g7:=hfb.cell 7;have g8:=hfb.cell 8;simp only [gA,gZ,gS] at g0 g1 g2 g3 g4 g5 g6 g7 g8;have HC:=Hi (Bv u fg fc fl ff fx fr fn fv w);unfold af at HC;clear hfb;go_enter Tryz.func51,Tryz.ntmps51;go_wp2_with fail;have hc:=HC.o;refine Calls.mono hc ?_;rintro e w1 ⟨rfl,m1⟩;have HM:=Hi m1;clear m1 hc HC g0 g1 g2 g3 g4 g5 g6 g7 g8;go_wp2;go_ret2;exact ⟨rfl,HM.o⟩
theorem Ej (u:Int) (fg fc fl ff fx fr fn fv:Hd) (idx:Value) (B fb:Nat) (cs:List Value) (l:ar) (lk:List ar) (w:World) (h:aJ B w cs l) (hL:Rows 3 aJ B w (.slice fl.a fl.n fl.c) lk) (hF:ef u fg fc fl ff fx fr fn fv fb w):Calls Tryz.prog 61 #[idx,.agg cs.toArray,.pointer (some ⟨fb,0,none⟩)] w λe w'=>e=.returned (.int .i64 (Ck.lookup fg.n lk l))/\Mod [] w w':=by
 have hh:=h;obtain ⟨v2,rfl,-⟩:=hh;have T:=Hi (own1 w #[.int .i64 l.kind,.bool l.ignore,v2] 57);have a0:=(T.o.at 0 rfl).cell 0;have a1:=(T.o.at 0 rfl).cell 1;have a2:=(T.o.at 0 rfl).cell 2;have HC:=Hi (pp u fg fc fl ff fx fr fn fv _ l lk B _ (aJ.stay _ _ _ _ _ h (T.o.mod.above B)) (hL.mod aJ.stay T.o.mod))
 replace hF:=hF.kept T.o.mod
 obtain ⟨tf,hfb⟩:=hF;unfold af at hfb;have g0:=hfb.cell 0;have g1:=hfb.cell 1;have g2:=hfb.cell 2;have g3:=hfb.cell 3;have g4:=hfb.cell 4;have g5:=hfb.cell 5;have g6:=hfb.cell 6;have g7:=hfb.cell 7;have g8:=hfb.cell 8;simp only [gA,gZ,gS] at g0 g1 g2 g3 g4 g5 g6 g7 g8;unfold af at HC;generalize Ck.lookup fg.n lk l=D at *
 clear hfb h hL;go_enter Tryz.func61,Tryz.ntmps61;go_wp2_with fail;have hc:=HC.o;refine Calls.mono hc ?_;rintro e w1 ⟨rfl,m1⟩;have HM:=Hi (T.o.mod.then m1);clear m1 hc HC T a0 a1 a2 g0 g1 g2 g3 g4 g5 g6 g7 g8;go_wp2;go_ret;exact ⟨rfl,HM.o⟩
theorem Dv (u:Int) (fg fc fl ff fx fr fn fv:Hd) (idx:Value) (B fb:Nat) (cs:List Value) (x:bv) (w:World) (h:dC B w cs x) (hF:ef u fg fc fl ff fx fr fn fv fb w):Calls Tryz.prog 70 #[idx,.agg cs.toArray,.pointer (some ⟨fb,0,none⟩)] w λe w'=>e=.returned (.int .i64 (Ck.region fx.n x))/\Mod [] w w':=by
 obtain ⟨v0,rfl,h0⟩:=h;obtain ⟨o,d,rfl,-⟩:=h0.form;have T:=Hi (own1 w #[.slice o x.tents.length d] 79);have a0:=(T.o.at 0 rfl).cell 0;have HC:=Hi (vK o x.tents.length d fx.n x.tents B _ (h0.mod iX.stay T.o.mod))
 replace hF:=hF.kept T.o.mod
 obtain ⟨tf,hfb⟩:=hF;unfold af at hfb;have g0:=hfb.cell 0;have g1:=hfb.cell 1;have g2:=hfb.cell 2;have g3:=hfb.cell 3;have g4:=hfb.cell 4;have g5:=hfb.cell 5;have g6:=hfb.cell 6;have g7:=hfb.cell 7;have g8:=hfb.cell 8;simp only [gA,gZ,gS] at g0 g1 g2 g3 g4 g5 g6 g7 g8;obtain ⟨ts⟩:=x;simp only at HC ⊢;generalize Ck.region fx.n ⟨ts⟩=D at *
 clear hfb h0;go_enter Tryz.func70,Tryz.ntmps70;go_wp2_with fail;have hc:=HC.o;refine Calls.mono hc ?_;rintro e w1 ⟨rfl,m1⟩;have HM:=Hi (T.o.mod.then m1);clear m1 hc HC T a0 g0 g1 g2 g3 g4 g5 g6 g7 g8;go_wp2;go_ret;exact ⟨rfl,HM.o⟩
theorem Du (idx:Value) (oa:Option Addr) (n c:Nat) (l:List bS) (B:Nat) (w:World) (h:Rows 2 jm B w (.slice oa n c) l):Calls Tryz.prog 73 #[idx,.slice oa n c] w λe w'=>e=.returned (.int .i64 (Ck.program l))/\Mod [] w w':=by
 have HC:=Hi (mO oa n c l B w h);clear h;go_enter Tryz.func73,Tryz.ntmps73;go_wp2_with fail;have hc:=HC.o;refine Calls.mono hc ?_;rintro e w1 ⟨rfl,m1⟩;have HM:=Hi m1;clear m1 hc HC;go_wp2;go_ret;exact ⟨rfl,HM.o⟩
theorem Dt (idx:Value) (x:Int) (hx:I64 x) (w:World):Calls Tryz.prog 76 #[idx,.int .i64 x] w λe w'=>e=.returned (.int .i64 (Ck.when (!Ck.may x) 1))/\Mod [] w w':=by
 have T:=Hi (own1 w #[.int .i64 x] 3);have HR:=Hi (fB (l:=[x]) (T.o.at 0 rfl) (show 1<=maxLen by decide) (by simp [hx]));clear hx;go_enter Tryz.func76,Tryz.ntmps76;go_wp2_with fail;refine (jv _ _ _ [x] 0 _ HR.o).mono ?_;rintro e w1 ⟨rfl,rfl⟩;clear HR;go_wp2_with fail;refine (cE _ 1 _).mono ?_;rintro e w2 ⟨rfl,rfl⟩;go_wp2;go_ret;exact ⟨by simp,T.o.mod⟩
theorem FM.first {α:Type} {nm:α->ByteArray} {l:List α} {m:List (ByteArray×Value)} (h:FM (l.map nm) l.length m) {x:α} (hx:x∈l):(Gm.look m (nm x)).getD (.int .i64 0)=.int .i64 ((Ck.aK nm l (nm x):Nat):Int):=by
 rw [h,if_pos]
 ·simp only [Option.getD_some,Ck.aK];rw [List.findIdx_map];rfl
 ·rw [List.take_of_length_le zk,List.any_eq_true];exact ⟨nm x,mM hx,by simp⟩
theorem Dw (i:Nat) (x:bB) (l:List bB) (cs:List Value) (B nb b:Nat) (m:List (ByteArray×Value)) (w:World) (hx:l[i]?=some x) (h:eP B w cs x) (hn:w.cell? ⟨nb,0,none⟩=some (.map (some b))) (hG:Gm.cJ Value.string w b m) (hm:FM (l.map bB.name) l.length m) :
  Calls Tryz.prog 67 #[.int .i64 (i:Int),.agg cs.toArray,.pointer (some ⟨nb,0,none⟩)] w λe w'=>e=.returned (.int .i64 (Ck.axis x (Ck.name (Ck.bZ x.name) (decide (Ck.aK bB.name l x.name<i)))))/\Mod [] w w':=by
 obtain ⟨rfl,h0,h1,h2,h3⟩:=h;have hlk:=hm.first (List.mem_of_getElem? hx)
 have T:=Hi (own1 w #[.string x.name,.int .i64 x.min,.int .i64 x.dflt,.int .i64 x.max] 76);have AN:=λW (m:Mod [] _ W)=>(m.cell (aV ((T.o.mod.cell (p:=⟨nb,0,none⟩) (aV hn) zk).trans hn)) zk).trans ((T.o.mod.cell (p:=⟨nb,0,none⟩) (aV hn) zk).trans hn)
 have hz:∀ W:World,(zeroValue 3).run Tryz.prog W=.ok (.int .i64 0) W:=λW=>by kernel_rfl
 have AL:=λW (m:Mod [] (w.alloc (.cells #[.string x.name,.int .i64 x.min,.int .i64 x.dflt,.int .i64 x.max] 76)) W)=>(Gm.cH kF ((hG.mod T.o.mod zk).mod m zk) Tryz.underlying89 (hz W) x.name false)
 simp only [Bool.false_eq_true,if_false,hlk] at AL;generalize Ck.aK bB.name l x.name=f at *
 have HN:=Hi (λW=>kP x.name h0 W);generalize Ck.bZ x.name=r at *
 have e1:decide ((f:Int)<i)=decide (f<i):=by rw [Bool.eq_iff_iff];simp
 generalize hq:decide (f<i)=q at *
 have HNF:=Hi (λW=>eZ r q W);generalize Ck.name r q=nm at *
 have HA:=Hi (λW=>BR x.name x.min x.dflt x.max nm h1 h2 h3 W);obtain ⟨xn,xmi,xd,xma⟩:=x;simp only at *
 generalize Ck.axis ⟨xn,xmi,xd,xma⟩ nm=D at *
 clear hx hm hG hn h0 h1 h2 h3 hlk;go_enter Tryz.func67,Tryz.ntmps67;go_upto_region 1 with fail;generalize w.alloc (.cells #[.string xn,.int .i64 xmi,.int .i64 xd,.int .i64 xma] 76)=W0 at *
 have AF:=(T.o.at 0 rfl).every;refine ak 12 [true,true,true,true,true,true,true,true,true,true,true,true] [] zt zt zk ?_;simp only [aQ]
 iterate 3
  refine sv ?_
 refine sk (dK HN.o) ?_
 iterate 6
  refine sv ?_
 refine sk (dK HNF.o) ?_;refine sk (mq HA.o) ?_;refine au ?_;refine aB (λw' hw' _=>?_);simp only [qS,qZ];go_wp2;go_ret;exact ⟨rfl,T.o.mod.then hw'⟩
def kZ (N0:Nat) (mark:Bool) (v:Value) (w:World):Prop:=∃ b2 b3 mb t2 t3,v=.func (.func 143) #[] #[.pointer (some ⟨b2,0,none⟩),.pointer (some ⟨b3,0,none⟩)]/\N0<=mb/\Blk w b2 #[.bool mark] t2/\Blk w b3 #[.map (some mb)] t3/\Gm.cJ kD w mb []
theorem kZ.stays {N0:Nat} {mark:Bool} {v:Value}:aG (kZ N0 mark v):=λw w' ⟨b2,b3,mb,t2,t3,h,hn,h1,h2,h3⟩ m=>⟨b2,b3,mb,t2,t3,h,hn,h1.kept m zk,h2.kept m zk,h3.mod m zk⟩
def kY (N0:Nat) (regions points:Int) (v:Value) (w:World):Prop:=∃ b2 b3 b4 t2 t3,v=.func (.func 146) #[] #[.pointer (some ⟨b2,0,none⟩),.pointer (some ⟨b3,0,none⟩),.pointer (some ⟨b4,0,none⟩)]/\N0<=b4/\Blk w b2 #[.int .i64 regions] t2/\Blk w b3 #[.int .i64 points] t3/\Blk w b4 #[.int .i64 0,.int .i64 0] 191
theorem kY.stays {N0:Nat} {r p:Int} {v:Value}:aG (kY N0 r p v):=λw w' ⟨b2,b3,b4,t2,t3,h,hn,h1,h2,h3⟩ m=>⟨b2,b3,b4,t2,t3,h,hn,h1.kept m zk,h2.kept m zk,h3.kept m zk⟩
theorem aG.and {A B:World->Prop} (ha:aG A) (hb:aG B):aG (λw=>A w/\B w):=λw w' h m=>⟨ha _ _ h.1 m,hb _ _ h.2 m⟩
def sA (N0:Nat) (mark:Bool) (sl:Value) (v:Value) (w:World):Prop:=∃ v2,kZ N0 mark v2 w/\bw 141 sl (.int .i64 ((16:Nat):Int)) v2 v w
theorem sA.stays {N0:Nat} {mark:Bool} {sl v:Value}:aG (sA N0 mark sl v):=λw w' ⟨v2,h1,h2⟩ m=>⟨v2,kZ.stays _ _ h1 m,bw.stays _ _ h2 m⟩
def sy (N0:Nat) (r p:Int) (sl:Value) (v:Value) (w:World):Prop:=∃ v2,kY N0 r p v2 w/\bw 144 sl (.int .i64 ((400:Nat):Int)) v2 v w
theorem sy.stays {N0:Nat} {r p:Int} {sl v:Value}:aG (sy N0 r p sl v):=λw w' ⟨v2,h1,h2⟩ m=>⟨v2,kY.stays _ _ h1 m,bw.stays _ _ h2 m⟩
theorem reK {f:Nat} {a:Array Value} {w:World} {T:Value->World->Prop} (h:Calls Tryz.prog f a w λe w'=>(∃ v,e=.returned v/\T v w')/\Mod [] w w'):Calls Tryz.prog f a w λe w'=>∃ v,e=.returned v/\T v w'/\Mod [] w w' :=
 h.mono λ_ _ ⟨⟨v,h1,h2⟩,h3⟩=>⟨v,h1,h2,h3⟩
theorem zA (N0:Nat) (mark:Bool) (w:World) (hn:N0<=w.heap.size):Calls Tryz.prog 89 #[.bool mark] w λe w'=>∃ v,e=.returned v/\kZ N0 mark v w'/\Mod [] w w' :=
 (uE mark w).mono λ_ _ ⟨⟨b2,b3,mb,t2,t3,h1,h2,h3,h4,h5,_,_⟩,m⟩=>⟨_,h1,⟨b2,b3,mb,t2,t3,rfl,nT hn h2,h3,h4,h5⟩,m⟩
theorem BJ (N0:Nat) (r p:Int) (w:World) (hn:N0<=w.heap.size):Calls Tryz.prog 91 #[.int .i64 r,.int .i64 p] w λe w'=>∃ v,e=.returned v/\kY N0 r p v w'/\Mod [] w w' :=
 (wE r p w).mono λ_ _ ⟨⟨b2,b3,b4,t2,t3,h1,h2,h3,h4,h5,_,_⟩,m⟩=>⟨_,h1,⟨b2,b3,b4,t2,t3,rfl,nT hn h2,h3,h4,h5⟩,m⟩
theorem Dq {N0:Nat} {mark:Bool} {w:World} {b2 b3:Nat} {o:Option Addr} {n c:Nat} (h:kZ N0 mark (.func (.func 143) #[] #[.pointer (some ⟨b2,0,none⟩),.pointer (some ⟨b3,0,none⟩)]) w) :
  Calls Tryz.prog 88 #[.slice o n c,.int .i64 16,.func (.func 143) #[] #[.pointer (some ⟨b2,0,none⟩),.pointer (some ⟨b3,0,none⟩)]] w λe w'=>∃ v,e=.returned v/\sA N0 mark (.slice o n c) v w'/\Mod [] w w' :=
 (tY o n c 16 143 _ w).mono λ_ _ ⟨⟨v,h1,h2⟩,m⟩=>⟨v,h1,⟨_,kZ.stays _ _ h m,h2⟩,m⟩
theorem Dj {N0:Nat} {r p:Int} {w:World} {b2 b3 b4:Nat} {o:Option Addr} {n c:Nat} (h:kY N0 r p (.func (.func 146) #[] #[.pointer (some ⟨b2,0,none⟩),.pointer (some ⟨b3,0,none⟩),.pointer (some ⟨b4,0,none⟩)]) w) :
  Calls Tryz.prog 90 #[.slice o n c,.int .i64 400,.func (.func 146) #[] #[.pointer (some ⟨b2,0,none⟩),.pointer (some ⟨b3,0,none⟩),.pointer (some ⟨b4,0,none⟩)]] w λe w'=>∃ v,e=.returned v/\sy N0 r p (.slice o n c) v w'/\Mod [] w w' :=
 (vq o n c 400 146 _ w).mono λ_ _ ⟨⟨v,h1,h2⟩,m⟩=>⟨v,h1,⟨_,kY.stays _ _ h m,h2⟩,m⟩
set_option maxRecDepth 100000 in
theorem qE (u:Int) (fg fc fl ff fx fr fn fv:Hd) (cs:List Value) (g:av) (nm:Int) (B:Nat) (w:World) (h:aI B w cs g) :
  Calls Tryz.prog 27 #[.agg (af u fg fc fl ff fx fr fn fv),.agg cs.toArray,.int .i64 nm] w λe w'=>e=.returned (.int .i64 (Ck.glyph fg.n fr.n g nm))/\Mod [] w w':=by
 have HR:=Hi h;obtain ⟨v3,v4,v5,v6,v7,v8,rfl,-,-,h3,h4,h5,h6,h7,h8⟩:=h;obtain ⟨o3,d3,rfl,-⟩:=h3.form;obtain ⟨o4,d4,rfl,-⟩:=h4.form;obtain ⟨o5,d5,rfl,-⟩:=h5.form;obtain ⟨o6,d6,rfl,-⟩:=h6.form;obtain ⟨o7,d7,rfl,-⟩:=h7.form;obtain ⟨o8,d8,rfl,-⟩:=h8.form;have T:=Hi (own3 w (af u fg fc fl ff fx fr fn fv) 32 #[.string g.name,.int .i64 g.adv,.bool g.mark,.slice o3 g.pts.length d3,.slice o4 g.ends.length d4,.slice o5 g.parts.length d5,.slice o6 g.anchors.length d6,.slice o7 g.deltas.length d7,.slice o8 g.hint.length d8] 46 #[.int .i64 nm] 61);have H5:=Hi (h5.mod eE.stay T.o.mod);have H6:=Hi (h6.mod dD.stay T.o.mod);have H7:=Hi (h7.mod er.stay T.o.mod);clear h3 h4 h5 h6 h7 h8;have HRW:=Hi (aI.stay _ _ _ _ _ HR.o (T.o.mod.above B));unfold af at T H5 H6 H7 HRW ⊢;go_enter Tryz.func27,Tryz.ntmps27;go_upto_region 1 with fail;generalize ((w.alloc (.cells #[.int .i64 u,.slice fg.a fg.n fg.c,.slice fc.a fc.n fc.c,.slice fl.a fl.n fl.c,.slice ff.a ff.n ff.c,.slice fx.a fx.n fx.c,.slice fr.a fr.n fr.c,.slice fn.a fn.n fn.c,.slice fv.a fv.n fv.c] 32)).alloc (.cells #[.string g.name,.int .i64 g.adv,.bool g.mark,.slice o3 g.pts.length d3,.slice o4 g.ends.length d4,.slice o5 g.parts.length d5,.slice o6 g.anchors.length d6,.slice o7 g.deltas.length d7,.slice o8 g.hint.length d8] 46)).alloc (.cells #[.int .i64 nm] 61)=W0 at *
 have hmf:∀ (fn:Fn) (first cap:Array Value) (w:World),(Instr.makeFunc fn first cap).run Tryz.prog w=.ok (.func fn first cap) w:=λ_ _ _ _=>rfl
 have AF:=(T.o.at 0 rfl).every;have AG:=(T.o.at 1 rfl).every;have AE:=(T.o.at 2 rfl).every;refine Dg.jW [(28,27),(29,28)] _ 24 [true,true,true,true,true,false,true,true,true,true,false,false,true,true,true,true,true,true,true,true,true,false,false,true] [(5,bw 139 (.slice o5 g.parts.length d5) (.int .i64 ((8:Nat):Int)) (.func (.func 86) #[] #[.pointer (some ⟨w.heap.size,0,none⟩)])),(10,kZ W0.heap.size g.mark),(11,sA W0.heap.size g.mark (.slice o6 g.anchors.length d6)),(21,kY W0.heap.size (fr.n:Int) (g.pts.length:Int)),(22,sy W0.heap.size (fr.n:Int) (g.pts.length:Int) (.slice o7 g.deltas.length d7))] zt zqj zt ?hTd58 (λ_ _ d _ _ h=>by cases d <;> exact h) ?maind58
 case hTd58=>simp [kZ.stays,sA.stays,kY.stays,sy.stays,bw.stays]
 simp only [aQ]
 iterate 19
  refine sv ?_
 refine au (Dg.uS zt ?_ ?_)
 ·refine Dg.bP (Dg.dV λw' hw'=>reK (xO o5 _ d5 8 86 _ w')) ?_;refine Dg.bP (Dg.dV λw' hw'=>zA W0.heap.size g.mark w' hw'.size) ?_;refine Dg.bP (Dg.jY _ rfl rfl λa hl w' hw' hd K Q hK=>?_) ?_
  ·obtain ⟨u,e,hA⟩:=Dg.rE hd 1 10 20 rfl zt rfl;obtain ⟨ab,am,_,_,_,rfl,-⟩:=id hA;have e2:a.eval (.tmp 17)=.slice o6 g.anchors.length d6:=(Dg.jh hl zt).trans rfl;exact me rfl (by simp only [List.map_cons,List.map_nil,e,e2] <;> rfl) (λa w=>by kernel_rfl) (Dq hA) hK
  refine Dg.bP (Dg.dV λw' hw'=>BJ W0.heap.size (fr.n:Int) (g.pts.length:Int) w' hw'.size) ?_;refine Dg.bP (Dg.jY _ rfl rfl λa hl w' hw' hd K Q hK=>?_) ?_
  ·obtain ⟨u,e,hD⟩:=Dg.rE hd 3 21 31 rfl zt rfl;obtain ⟨dr,dp,da,_,_,rfl,-⟩:=id hD;have e2:a.eval (.tmp 23)=.slice o7 g.deltas.length d7:=(Dg.jh hl zt).trans rfl;exact me rfl (by simp only [List.map_cons,List.map_nil,e,e2] <;> rfl) (λa w=>by kernel_rfl) (Dj hD) hK
  exact Dg.lV
 refine Dg.dh (g:=?_) 15 _ rfl rfl (λv=>by simp only [List.set_cons_succ,List.set_cons_zero];exact rfl) (λkv1=>?_);refine Dg.dh (g:=?_) 20 _ rfl rfl (λv=>by simp only [List.set_cons_succ,List.set_cons_zero];exact rfl) (λkv2=>?_);refine Dg.dh (g:=?_) 21 _ rfl rfl (λv=>by simp only [List.set_cons_succ,List.set_cons_zero];exact rfl) (λkv3=>?_);refine Dg.dh (g:=?_) 31 _ rfl rfl (λv=>by simp only [List.set_cons_succ,List.set_cons_zero];exact rfl) (λkv4=>?_);refine Dg.dh (g:=?_) 32 _ rfl rfl (λv=>by simp only [List.set_cons_succ,List.set_cons_zero];exact rfl) (λkv5=>?_);refine Dg.rB (λw' hw' hF=>?_);simp only [qS,qZ];obtain ⟨⟨⟨⟨⟨-,h1⟩,-⟩,⟨v2,h2,h3⟩⟩,-⟩,⟨v4,h4,h5⟩⟩:=hF;have H1:=Hi h1;have H23:=Hi (And.intro h2 h3);have H45:=Hi (And.intro h4 h5);obtain ⟨p0,p1,p2,_,_,_,rfl,-⟩:=h1;obtain ⟨a0,a1,a2,_,_,_,rfl,-⟩:=h3;obtain ⟨e0,e1,e2,_,_,_,rfl,-⟩:=h5;have HW:=Hi hw';clear h2 h4 hw' AF AG AE hmf;go_wp2_with fail;obtain ⟨ab,am,mb,tb,tm,rfl,hn,B2,B3,G⟩:=H23.o.1;obtain ⟨dr,dp,da,tr,tp,rfl,hn4,C2,C3,C4⟩:=H45.o.1
 have al:Mod [] w' (w'.alloc (.cells #[.func (.func 82) #[] #[.pointer (some ⟨w.heap.size+1+1,0,none⟩)],.func (.func 83) #[] #[.pointer (some ⟨w.heap.size+1,0,none⟩)],.func (.func 139) #[] #[.pointer (some ⟨p0,0,none⟩),.pointer (some ⟨p1,0,none⟩),.pointer (some ⟨p2,0,none⟩)],
  .func (.func 141) #[] #[.pointer (some ⟨a0,0,none⟩),.pointer (some ⟨a1,0,none⟩),.pointer (some ⟨a2,0,none⟩)],.func (.func 144) #[] #[.pointer (some ⟨e0,0,none⟩),.pointer (some ⟨e1,0,none⟩),.pointer (some ⟨e2,0,none⟩)],.func (.func 92) #[] #[.pointer (some ⟨w.heap.size+1,0,none⟩)]] 117)):=mR.alloc _
 have hW:=HW.o.then al
 refine (um (u:=u) (fg:=fg) (fc:=fc) (fl:=fl) (ff:=ff) (fx:=fx) (fr:=fr) (fn:=fn) (fv:=fv) (g:=g) (nm:=nm) (W0:=W0) (B:=B) (mb:=mb) (da:=da)
  ⟨hW,hn,hn4,⟨_,(T.o.at 0 rfl).kept hW zk⟩,⟨_,_,(T.o.at 1 rfl).kept hW zk,HRW.o⟩,⟨_,(T.o.at 2 rfl).kept hW zk⟩,⟨o5,d5,bw.stays _ _ H1.o al,H5.o⟩,⟨o6,d6,bw.stays _ _ H23.o.2 al,H6.o⟩,⟨o7,d7,bw.stays _ _ H45.o.2 al,H7.o⟩,
   ⟨_,B2.kept al zk⟩,⟨_,B3.kept al zk⟩,G.mod al zk,⟨_,C2.kept al zk⟩,⟨_,C3.kept al zk⟩,C4.kept al zk⟩ w'.heap.size _ _ (Blk.new w' _ _)).mono ?_
 rintro e w'' ⟨rfl,M⟩;have HM:=Hi (T.o.mod.then (hW.trans (l:=[]) M λx hx hlt=>by simp at hx;rcases hx with rfl | rfl <;> omega));clear M al hW B2 B3 G C2 C3 C4 H1 H23 H45 H5 H6 H7 HRW T HR HW;go_wp2;go_ret;exact ⟨rfl,HM.o⟩
theorem Em (u:Int) (fg fc fl ff fx fr fn fv:Hd) (i:Nat) (x:av) (l:List av) (cs:List Value) (B fb nb b:Nat) (m:List (ByteArray×Value)) (w:World) (hx:l[i]?=some x) (h:aI B w cs x) (hF:ef u fg fc fl ff fx fr fn fv fb w) (hn:w.cell? ⟨nb,0,none⟩=some (.map (some b))) (hG:Gm.cJ Value.string w b m) (hm:FM (l.map av.name) l.length m) :
  Calls Tryz.prog 54 #[.int .i64 (i:Int),.agg cs.toArray,.pointer (some ⟨fb,0,none⟩),.pointer (some ⟨nb,0,none⟩)] w λe w'=>e=.returned (.int .i64 (Ck.glyph fg.n fr.n x (Ck.name (Ck.bZ x.name) (decide (Ck.aK av.name l x.name<i)))))/\Mod [] w w':=by
 have hh:=h;obtain ⟨v3,v4,v5,v6,v7,v8,rfl,h0,-⟩:=h;have hlk:=hm.first (List.mem_of_getElem? hx)
 have T:=Hi (own1 w #[.string x.name,.int .i64 x.adv,.bool x.mark,v3,v4,v5,v6,v7,v8] 46);have AN:=λW (m:Mod [] _ W)=>(m.cell (aV ((T.o.mod.cell (p:=⟨nb,0,none⟩) (aV hn) zk).trans hn)) zk).trans ((T.o.mod.cell (p:=⟨nb,0,none⟩) (aV hn) zk).trans hn)
 have hz:∀ W:World,(zeroValue 3).run Tryz.prog W=.ok (.int .i64 0) W:=λW=>by kernel_rfl
 have AL:=λW (m:Mod [] (w.alloc (.cells #[.string x.name,.int .i64 x.adv,.bool x.mark,v3,v4,v5,v6,v7,v8] 46)) W)=>(Gm.cH kF ((hG.mod T.o.mod zk).mod m zk) Tryz.underlying89 (hz W) x.name false)
 simp only [Bool.false_eq_true,if_false,hlk] at AL;generalize Ck.aK av.name l x.name=f at *
 have HN:=Hi (λW=>kP x.name h0 W);generalize Ck.bZ x.name=r at *
 have e1:decide ((f:Int)<i)=decide (f<i):=by rw [Bool.eq_iff_iff];simp
 generalize hq:decide (f<i)=q at *
 have HNF:=Hi (λW=>eZ r q W);generalize Ck.name r q=nm at *
 have HA:=Hi (λW (m:Mod [] (w.alloc (.cells #[.string x.name,.int .i64 x.adv,.bool x.mark,v3,v4,v5,v6,v7,v8] 46)) W)=>qE u fg fc fl ff fx fr fn fv _ x nm B W (aI.stay _ _ _ _ _ hh ((T.o.mod.then m).above B)));generalize Ck.glyph fg.n fr.n x nm=D at *
 obtain ⟨tf,hfb⟩:=hF;have AFo:=(hfb.kept T.o.mod zk).every;unfold af at AFo HA;generalize x.name=xn at *
 clear hx hm hG hn h0 hlk hh hfb;go_enter Tryz.func54,Tryz.ntmps54;go_upto_region 1 with fail;generalize w.alloc (.cells #[.string xn,.int .i64 x.adv,.bool x.mark,v3,v4,v5,v6,v7,v8] 46)=W0 at *
 have AF:=(T.o.at 0 rfl).every;refine ak 13 [true,true,true,true,true,true,true,true,true,true,true,true,true] [] zt zt zk ?_;simp only [aQ]
 iterate 4
  refine sv ?_
 refine sk (dK HN.o) ?_
 iterate 6
  refine sv ?_
 refine sk (dK HNF.o) ?_;refine sk (λW m=>HA.o W m) ?_;refine au ?_;refine aB (λw' hw' _=>?_);simp only [qS,qZ];go_wp2;go_ret;exact ⟨rfl,T.o.mod.then hw'⟩
theorem Ei (u:Int) (fg fc fl ff fx fr fn fv:Hd) (i:Nat) (x:aA) (l:List aA) (cs:List Value) (B fb nb b:Nat) (m:List (ByteArray×Value)) (w:World) (hx:l[i]?=some x) (h:aZ B w cs x) (hF:ef u fg fc fl ff fx fr fn fv fb w) (hn:w.cell? ⟨nb,0,none⟩=some (.map (some b))) (hG:Gm.cJ Value.string w b m) (hm:FM (l.map aA.name) l.length m) :
  Calls Tryz.prog 63 #[.int .i64 (i:Int),.agg cs.toArray,.pointer (some ⟨fb,0,none⟩),.pointer (some ⟨nb,0,none⟩)] w λe w'=>e=.returned (.int .i64 (Ck.feature fl.n x (Ck.name (Ck.br x.name) (decide (Ck.aK aA.name l x.name<i)))))/\Mod [] w w':=by
 have hh:=h;obtain ⟨v1,rfl,h0,-⟩:=h;have hlk:=hm.first (List.mem_of_getElem? hx)
 have T:=Hi (own1 w #[.string x.name,v1] 88);have AN:=λW (m:Mod [] _ W)=>(m.cell (aV ((T.o.mod.cell (p:=⟨nb,0,none⟩) (aV hn) zk).trans hn)) zk).trans ((T.o.mod.cell (p:=⟨nb,0,none⟩) (aV hn) zk).trans hn)
 have hz:∀ W:World,(zeroValue 3).run Tryz.prog W=.ok (.int .i64 0) W:=λW=>by kernel_rfl
 have AL:=λW (m:Mod [] (w.alloc (.cells #[.string x.name,v1] 88)) W)=>(Gm.cH kF ((hG.mod T.o.mod zk).mod m zk) Tryz.underlying89 (hz W) x.name false)
 simp only [Bool.false_eq_true,if_false,hlk] at AL;generalize Ck.aK aA.name l x.name=f at *
 have HN:=Hi (λW=>kA x.name h0 W);generalize Ck.br x.name=r at *
 have e1:decide ((f:Int)<i)=decide (f<i):=by rw [Bool.eq_iff_iff];simp
 generalize hq:decide (f<i)=q at *
 have HNF:=Hi (λW=>eZ r q W);generalize Ck.name r q=nm at *
 have HA:=Hi (λW (m:Mod [] (w.alloc (.cells #[.string x.name,v1] 88)) W)=>mX u fg fc fl ff fx fr fn fv _ x nm B W (aZ.stay _ _ _ _ _ hh ((T.o.mod.then m).above B)));generalize Ck.feature fl.n x nm=D at *
 obtain ⟨tf,hfb⟩:=hF;have AFo:=(hfb.kept T.o.mod zk).every;unfold af at AFo HA;generalize x.name=xn at *
 clear hx hm hG hn h0 hlk hh hfb;go_enter Tryz.func63,Tryz.ntmps63;go_upto_region 1 with fail;generalize w.alloc (.cells #[.string xn,v1] 88)=W0 at *
 have AF:=(T.o.at 0 rfl).every;refine ak 13 [true,true,true,true,true,true,true,true,true,true,true,true,true] [] zt zt zk ?_;simp only [aQ]
 iterate 4
  refine sv ?_
 refine sk (dK HN.o) ?_
 iterate 6
  refine sv ?_
 refine sk (dK HNF.o) ?_;refine sk (λW m=>HA.o W m) ?_;refine au ?_;refine aB (λw' hw' _=>?_);simp only [qS,qZ];go_wp2;go_ret;exact ⟨rfl,T.o.mod.then hw'⟩
theorem Ek (u:Int) (fg fc fl ff fx fr fn fv:Hd) (i:Nat) (x:dc) (l:List dc) (cs:List Value) (B fb:Nat) (w:World) (hx:l[i]?=some x) (h:eF B w cs x) (hC:Rows 2 eF B w (.slice fc.a fc.n fc.c) l) (hF:ef u fg fc fl ff fx fr fn fv fb w) :
  Calls Tryz.prog 58 #[.int .i64 (i:Int),.agg cs.toArray,.pointer (some ⟨fb,0,none⟩)] w λe w'=>e=.returned (.int .i64 (Ck.char fg.n x (Ck.late l i x)))/\Mod [] w w':=by
 obtain ⟨rfl,-,-⟩:=h;have T:=Hi (own1 w #[.int .i64 x.rune,.int .i64 x.glyph] 37);have hil:i<l.length:=(gI.1 hx).1;obtain ⟨ca,cn,cc⟩:=fc;simp only at hC;obtain ⟨_,_,he,hml⟩:=hC.form;have hn:cn=l.length:=by cases he;rfl
 obtain ⟨tf,hfb⟩:=hF;have HC:=Hi (hC.mod eF.stay T.o.mod);subst hn;have AFo:=(hfb.kept T.o.mod zk).every;have HCH:=Hi (λlate W=>BO u fg ⟨ca,l.length,cc⟩ fl ff fx fr fn fv x.rune x.glyph late W);obtain ⟨xr,xg⟩:=x;simp only at HCH T HC AFo ⊢;obtain ⟨D,hD⟩:∃ D,Ck.late l i ⟨xr,xg⟩=D:=⟨_,rfl⟩
 rw [hD];have HD:=Hi hD;clear hD hfb hC he hx;unfold Ck.late at HD;have hml':l.length<=9223372036854775807:=hml
 by_cases h0:0<i
 case neg =>
  obtain rfl:i=0:=zo;obtain rfl:false=D:=HD.o;have k1:decide ((0:Int)<((0:Nat):Int))=false:=zd;unfold af at AFo HCH;clear HD h0 hml hml' HC hil;go_enter Tryz.func58,Tryz.ntmps58;go_upto_region 1 with fail;generalize w.alloc (.cells #[.int .i64 xr,.int .i64 xg] 37)=W0 at *
  have AF:=(T.o.at 0 rfl).every;refine ak 17 [true,true,true,true,true,true,true,true,true,true,true,true,true,true,true,true,true] [] zt zt zk ?_;simp only [aQ]
  iterate 5
   refine sv ?_
  iterate 10 refine sp ?_
  refine sv ?_;refine sk (mq (HCH.o false)) ?_;refine au ?_;refine aB (λw' hw' _=>?_);simp only [qS,qZ];go_wp2;go_ret;exact ⟨rfl,T.o.mod.then hw'⟩
 have k1:=dT (p:=(0:Int)<i) zo;have k2:=dT (p:=0<i) h0;have hj:i - 1<l.length:=zo;have ej:IntKind.i64.wrap ((i:Int) - 1)=((i - 1:Nat):Int):=by rw [show (i:Int) - 1=((i - 1:Nat):Int) by omega];exact IntWalk.i64_in _ zo
 rw [k2,gE hj,Bool.true_and] at HD;simp only at HD;obtain ⟨a,rfl,-,cs,-,hc0,hcj,rfl,-⟩:=HC.o.at (i - 1) hj;have a0:=hc0 zd;simp only [gZ] at a0;have A0:=λW (m:Mod [] _ W)=>(m.cell (aV a0) zk).trans a0
 have k4:(0:Int)<=((i - 1:Nat):Int):=zo;have k5:((i - 1:Nat):Int)<(l.length:Int):=zo;generalize l[i - 1]=y at *
 generalize i - 1=j at *
 have k6:=HD.o;unfold af at AFo HCH;clear HD h0 hml hml' HC hil hc0 hcj a0 hj;go_enter Tryz.func58,Tryz.ntmps58;go_upto_region 1 with fail;generalize w.alloc (.cells #[.int .i64 xr,.int .i64 xg] 37)=W0 at *
 have AF:=(T.o.at 0 rfl).every;refine ak 17 [true,true,true,true,true,true,true,true,true,true,true,true,true,true,true,true,true] [] zt zt zk ?_;simp only [aQ]
 iterate 16
  refine sv ?_
 refine sk (mq (HCH.o D)) ?_;refine au ?_;refine aB (λw' hw' _=>?_);simp only [qS,qZ];go_wp2;go_ret;exact ⟨rfl,T.o.mod.then hw'⟩
theorem pK {B fb nb b n c b0 b1 b2:Nat} {oa:Option Addr} {l:List av} {lk:List ar} {m:List (ByteArray×Value)} {w:World} (u:Int) (fg fc fl ff fx fr fn fv:Hd) (hF:ef u fg fc fl ff fx fr fn fv fb w) (hn:w.cell? ⟨nb,0,none⟩=some (.map (some b))) (hG:Gm.cJ Value.string w b m) (hm:FM (l.map av.name) l.length m) (hr:Rows 9 aI B w (.slice oa n c) l)
  (hb:w.cell? ⟨b0,0,none⟩=some (.slice oa n c)/\w.cell? ⟨b1,0,none⟩=some (.int .i64 ((400:Nat):Int))/\w.cell? ⟨b2,0,none⟩=some (.func (.func 54) #[] #[.pointer (some ⟨fb,0,none⟩),.pointer (some ⟨nb,0,none⟩)])) :
  Calls Tryz.prog 108 #[.pointer (some ⟨b0,0,none⟩),.pointer (some ⟨b1,0,none⟩),.pointer (some ⟨b2,0,none⟩)] w λe w'=>e=.returned (.tuple #[.int .i64 (Ck.some 400 (λi x=>Ck.glyph fg.n fr.n x (Ck.name (Ck.bZ x.name) (decide (Ck.aK av.name l x.name<i)))) l).1,.int .i64 ((Ck.some 400 (λi x=>Ck.glyph fg.n fr.n x (Ck.name (Ck.bZ x.name) (decide (Ck.aK av.name l x.name<i)))) l).2:Int)])/\Mod [] w w':=by
 have NM:∀ {W:World},Mod [] w W->W.cell? ⟨nb,0,none⟩=some (.map (some b)):=λmW=>(mW.cell (p:=⟨nb,0,none⟩) (aV hn) zk).trans hn
 exact vZ (F:=[]) (J:=λ_ W=>Mod [] w W) (fn:=54) (caps:=#[.pointer (some ⟨fb,0,none⟩),.pointer (some ⟨nb,0,none⟩)]) (f:=λi x=>Ck.glyph fg.n fr.n x (Ck.name (Ck.bZ x.name) (decide (Ck.aK av.name l x.name<i)))) (bM w) (λ_ W mW=>hr.mod aI.stay mW) (λi x cs W hi mW hr=>bL (Em u fg fc fl ff fx fr fn fv i x l cs B fb nb b m W hi hr (hF.kept mW) (NM mW) (hG.mod mW zk) hm) mW) (λa w=>by kernel_rfl) b0 b1 b2 w mR hb
theorem pY {B fb nb b n c b0 b1 b2:Nat} {oa:Option Addr} {l:List dc} {lk:List ar} {m:List (ByteArray×Value)} {w:World} (u:Int) (fg fc fl ff fx fr fn fv:Hd) (hF:ef u fg fc fl ff fx fr fn fv fb w) (hC:Rows 2 eF B w (.slice fc.a fc.n fc.c) l) (hr:Rows 2 eF B w (.slice oa n c) l)
  (hb:w.cell? ⟨b0,0,none⟩=some (.slice oa n c)/\w.cell? ⟨b1,0,none⟩=some (.int .i64 ((1000:Nat):Int))/\w.cell? ⟨b2,0,none⟩=some (.func (.func 58) #[] #[.pointer (some ⟨fb,0,none⟩)])) :
  Calls Tryz.prog 116 #[.pointer (some ⟨b0,0,none⟩),.pointer (some ⟨b1,0,none⟩),.pointer (some ⟨b2,0,none⟩)] w λe w'=>e=.returned (.tuple #[.int .i64 (Ck.some 1000 (λi x=>Ck.char fg.n x (Ck.late l i x)) l).1,.int .i64 ((Ck.some 1000 (λi x=>Ck.char fg.n x (Ck.late l i x)) l).2:Int)])/\Mod [] w w':=by
 exact yL (F:=[]) (J:=λ_ W=>Mod [] w W) (fn:=58) (caps:=#[.pointer (some ⟨fb,0,none⟩)]) (f:=λi x=>Ck.char fg.n x (Ck.late l i x)) (bM w) (λ_ W mW=>hr.mod eF.stay mW) (λi x cs W hi mW hr=>bL (Ek u fg fc fl ff fx fr fn fv i x l cs B fb W hi hr (hC.mod eF.stay mW) (hF.kept mW)) mW) (λa w=>by kernel_rfl) b0 b1 b2 w mR hb
theorem ny {B fb nb b n c b0 b1 b2:Nat} {oa:Option Addr} {l:List ar} {lk:List ar} {m:List (ByteArray×Value)} {w:World} (u:Int) (fg fc fl ff fx fr fn fv:Hd) (hF:ef u fg fc fl ff fx fr fn fv fb w) (hL:Rows 3 aJ B w (.slice fl.a fl.n fl.c) lk) (hr:Rows 3 aJ B w (.slice oa n c) l)
  (hb:w.cell? ⟨b0,0,none⟩=some (.slice oa n c)/\w.cell? ⟨b1,0,none⟩=some (.int .i64 ((40:Nat):Int))/\w.cell? ⟨b2,0,none⟩=some (.func (.func 61) #[] #[.pointer (some ⟨fb,0,none⟩)])) :
  Calls Tryz.prog 118 #[.pointer (some ⟨b0,0,none⟩),.pointer (some ⟨b1,0,none⟩),.pointer (some ⟨b2,0,none⟩)] w λe w'=>e=.returned (.tuple #[.int .i64 (Ck.some 40 (λ_ x=>Ck.lookup fg.n lk x) l).1,.int .i64 ((Ck.some 40 (λ_ x=>Ck.lookup fg.n lk x) l).2:Int)])/\Mod [] w w':=by
 exact uh (F:=[]) (J:=λ_ W=>Mod [] w W) (fn:=61) (caps:=#[.pointer (some ⟨fb,0,none⟩)]) (f:=λ_ x=>Ck.lookup fg.n lk x) (bM w) (λ_ W mW=>hr.mod aJ.stay mW) (λi x cs W hi mW hr=>bL (Ej u fg fc fl ff fx fr fn fv _ B fb cs x lk W hr (hL.mod aJ.stay mW) (hF.kept mW)) mW) (λa w=>by kernel_rfl) b0 b1 b2 w mR hb
theorem my {B fb nb b n c b0 b1 b2:Nat} {oa:Option Addr} {l:List aA} {lk:List ar} {m:List (ByteArray×Value)} {w:World} (u:Int) (fg fc fl ff fx fr fn fv:Hd) (hF:ef u fg fc fl ff fx fr fn fv fb w) (hn:w.cell? ⟨nb,0,none⟩=some (.map (some b))) (hG:Gm.cJ Value.string w b m) (hm:FM (l.map aA.name) l.length m) (hr:Rows 2 aZ B w (.slice oa n c) l)
  (hb:w.cell? ⟨b0,0,none⟩=some (.slice oa n c)/\w.cell? ⟨b1,0,none⟩=some (.int .i64 ((20:Nat):Int))/\w.cell? ⟨b2,0,none⟩=some (.func (.func 63) #[] #[.pointer (some ⟨fb,0,none⟩),.pointer (some ⟨nb,0,none⟩)])) :
  Calls Tryz.prog 120 #[.pointer (some ⟨b0,0,none⟩),.pointer (some ⟨b1,0,none⟩),.pointer (some ⟨b2,0,none⟩)] w λe w'=>e=.returned (.tuple #[.int .i64 (Ck.some 20 (λi x=>Ck.feature fl.n x (Ck.name (Ck.br x.name) (decide (Ck.aK aA.name l x.name<i)))) l).1,.int .i64 ((Ck.some 20 (λi x=>Ck.feature fl.n x (Ck.name (Ck.br x.name) (decide (Ck.aK aA.name l x.name<i)))) l).2:Int)])/\Mod [] w w':=by
 have NM:∀ {W:World},Mod [] w W->W.cell? ⟨nb,0,none⟩=some (.map (some b)):=λmW=>(mW.cell (p:=⟨nb,0,none⟩) (aV hn) zk).trans hn
 exact rV (F:=[]) (J:=λ_ W=>Mod [] w W) (fn:=63) (caps:=#[.pointer (some ⟨fb,0,none⟩),.pointer (some ⟨nb,0,none⟩)]) (f:=λi x=>Ck.feature fl.n x (Ck.name (Ck.br x.name) (decide (Ck.aK aA.name l x.name<i)))) (bM w) (λ_ W mW=>hr.mod aZ.stay mW) (λi x cs W hi mW hr=>bL (Ei u fg fc fl ff fx fr fn fv i x l cs B fb nb b m W hi hr (hF.kept mW) (NM mW) (hG.mod mW zk) hm) mW) (λa w=>by kernel_rfl) b0 b1 b2 w mR hb
theorem pZ {B fb nb b n c b0 b1 b2:Nat} {oa:Option Addr} {l:List bB} {lk:List ar} {m:List (ByteArray×Value)} {w:World} (hn:w.cell? ⟨nb,0,none⟩=some (.map (some b))) (hG:Gm.cJ Value.string w b m) (hm:FM (l.map bB.name) l.length m) (hr:Rows 4 eP B w (.slice oa n c) l)
  (hb:w.cell? ⟨b0,0,none⟩=some (.slice oa n c)/\w.cell? ⟨b1,0,none⟩=some (.int .i64 ((3:Nat):Int))/\w.cell? ⟨b2,0,none⟩=some (.func (.func 67) #[] #[.pointer (some ⟨nb,0,none⟩)])) :
  Calls Tryz.prog 123 #[.pointer (some ⟨b0,0,none⟩),.pointer (some ⟨b1,0,none⟩),.pointer (some ⟨b2,0,none⟩)] w λe w'=>e=.returned (.tuple #[.int .i64 (Ck.some 3 (λi x=>Ck.axis x (Ck.name (Ck.bZ x.name) (decide (Ck.aK bB.name l x.name<i)))) l).1,.int .i64 ((Ck.some 3 (λi x=>Ck.axis x (Ck.name (Ck.bZ x.name) (decide (Ck.aK bB.name l x.name<i)))) l).2:Int)])/\Mod [] w w':=by
 have NM:∀ {W:World},Mod [] w W->W.cell? ⟨nb,0,none⟩=some (.map (some b)):=λmW=>(mW.cell (p:=⟨nb,0,none⟩) (aV hn) zk).trans hn
 exact yM (F:=[]) (J:=λ_ W=>Mod [] w W) (fn:=67) (caps:=#[.pointer (some ⟨nb,0,none⟩)]) (f:=λi x=>Ck.axis x (Ck.name (Ck.bZ x.name) (decide (Ck.aK bB.name l x.name<i)))) (bM w) (λ_ W mW=>hr.mod eP.stay mW) (λi x cs W hi mW hr=>bL (Dw i x l cs B nb b m W hi hr (NM mW) (hG.mod mW zk) hm) mW) (λa w=>by kernel_rfl) b0 b1 b2 w mR hb
theorem nv {B fb nb b n c b0 b1 b2:Nat} {oa:Option Addr} {l:List bv} {lk:List ar} {m:List (ByteArray×Value)} {w:World} (u:Int) (fg fc fl ff fx fr fn fv:Hd) (hF:ef u fg fc fl ff fx fr fn fv fb w) (hr:Rows 1 dC B w (.slice oa n c) l)
  (hb:w.cell? ⟨b0,0,none⟩=some (.slice oa n c)/\w.cell? ⟨b1,0,none⟩=some (.int .i64 ((16:Nat):Int))/\w.cell? ⟨b2,0,none⟩=some (.func (.func 70) #[] #[.pointer (some ⟨fb,0,none⟩)])) :
  Calls Tryz.prog 125 #[.pointer (some ⟨b0,0,none⟩),.pointer (some ⟨b1,0,none⟩),.pointer (some ⟨b2,0,none⟩)] w λe w'=>e=.returned (.tuple #[.int .i64 (Ck.some 16 (λ_ x=>Ck.region fx.n x) l).1,.int .i64 ((Ck.some 16 (λ_ x=>Ck.region fx.n x) l).2:Int)])/\Mod [] w w':=by
 exact ug (F:=[]) (J:=λ_ W=>Mod [] w W) (fn:=70) (caps:=#[.pointer (some ⟨fb,0,none⟩)]) (f:=λ_ x=>Ck.region fx.n x) (bM w) (λ_ W mW=>hr.mod dC.stay mW) (λi x cs W hi mW hr=>bL (Dv u fg fc fl ff fx fr fn fv _ B fb cs x W hr (hF.kept mW)) mW) (λa w=>by kernel_rfl) b0 b1 b2 w mR hb
theorem pX {B fb nb b n c b0 b1 b2:Nat} {oa:Option Addr} {l:List (List bS)} {lk:List ar} {m:List (ByteArray×Value)} {w:World} (hr:Rows 1 gK B w (.slice oa n c) l)
  (hb:w.cell? ⟨b0,0,none⟩=some (.slice oa n c)/\w.cell? ⟨b1,0,none⟩=some (.int .i64 ((20:Nat):Int))/\w.cell? ⟨b2,0,none⟩=some (.func (.func 73) #[] #[])) :
  Calls Tryz.prog 129 #[.pointer (some ⟨b0,0,none⟩),.pointer (some ⟨b1,0,none⟩),.pointer (some ⟨b2,0,none⟩)] w λe w'=>e=.returned (.tuple #[.int .i64 (Ck.some 20 (λ_ x=>Ck.program x) l).1,.int .i64 ((Ck.some 20 (λ_ x=>Ck.program x) l).2:Int)])/\Mod [] w w':=by
 exact yK (F:=[]) (J:=λ_ W=>Mod [] w W) (fn:=73) (caps:=#[]) (f:=λ_ x=>Ck.program x) (bM w) (λ_ W mW=>hr.mod gK.stay mW) (λi x cs W hi mW hr=>by
   obtain ⟨v,rfl,hr⟩:=hr;obtain ⟨o,d,rfl,-⟩:=hr.form
   exact bL (Du _ o x.length d x B W hr) mW) (λa w=>by kernel_rfl) b0 b1 b2 w mR hb
theorem rX {B fb nb b n c b0 b1 b2:Nat} {oa:Option Addr} {l:List Int} {lk:List ar} {m:List (ByteArray×Value)} {w:World} (hr:Rows 1 bn B w (.slice oa n c) l)
  (hb:w.cell? ⟨b0,0,none⟩=some (.slice oa n c)/\w.cell? ⟨b1,0,none⟩=some (.int .i64 ((64:Nat):Int))/\w.cell? ⟨b2,0,none⟩=some (.func (.func 76) #[] #[])) :
  Calls Tryz.prog 133 #[.pointer (some ⟨b0,0,none⟩),.pointer (some ⟨b1,0,none⟩),.pointer (some ⟨b2,0,none⟩)] w λe w'=>e=.returned (.tuple #[.int .i64 (Ck.some 64 (λ_ x=>Ck.when (!Ck.may x) 1) l).1,.int .i64 ((Ck.some 64 (λ_ x=>Ck.when (!Ck.may x) 1) l).2:Int)])/\Mod [] w w':=by
 exact Bb (F:=[]) (J:=λ_ W=>Mod [] w W) (fn:=76) (caps:=#[]) (f:=λ_ x=>Ck.when (!Ck.may x) 1) (bM w) (λ_ W mW=>hr.mod bn.stay mW) (λi x cs W hi mW hr=>by
   obtain ⟨rfl,hx⟩:=hr
   exact bL (Dt _ x hx W) mW) (λa w=>by kernel_rfl) b0 b1 b2 w mR hb
def Ck.dU (u:Int) (fg fl fx fr:Hd) (comp:Ck.Got) (gl:List av) (ch:List dc) (lk:List ar) (fe:List aA) (ax:List bB) (rg:List bv) (fu:List (List bS)) (cv:List Int):List Ck.Got :=
 [(Ck.mD u fg.n,0),Ck.some 400 (λi x=>Ck.glyph fg.n fr.n x (Ck.name (Ck.bZ x.name) (decide (Ck.aK av.name gl x.name<i)))) gl,comp,Ck.some 1000 (λi x=>Ck.char fg.n x (Ck.late ch i x)) ch,Ck.some 40 (λ_ x=>Ck.lookup fg.n lk x) lk,Ck.some 20 (λi x=>Ck.feature fl.n x (Ck.name (Ck.br x.name) (decide (Ck.aK aA.name fe x.name<i)))) fe,Ck.some 3 (λi x=>Ck.axis x (Ck.name (Ck.bZ x.name) (decide (Ck.aK bB.name ax x.name<i)))) ax,Ck.some 16 (λ_ x=>Ck.region fx.n x) rg,Ck.some 20 (λ_ x=>Ck.program x) fu,Ck.some 64 (λ_ x=>Ck.when (!Ck.may x) 1) cv]
theorem wn {u:Int} {fg fc fl ff fx fr fn fv:Hd} {comp:Ck.Got} {gl:List av} {ch:List dc} {lk:List ar} {fe:List aA} {ax:List bB} {rg:List bv} {fu:List (List bS)} {cv:List Int} {B fb ng nf na bg bf ba:Nat} {mg mf ma:List (ByteArray×Value)} {LGlyph LChar LLookup LFeature LAxis LRegion LCode LInt:Value} {w:World} (hF:ef u fg fc fl ff fx fr fn fv fb w)
  (hng:w.cell? ⟨ng,0,none⟩=some (.map (some bg))) (hGg:Gm.cJ Value.string w bg mg) (hmg:FM (gl.map av.name) gl.length mg)
  (hnf:w.cell? ⟨nf,0,none⟩=some (.map (some bf))) (hGf:Gm.cJ Value.string w bf mf) (hmf:FM (fe.map aA.name) fe.length mf)
  (hna:w.cell? ⟨na,0,none⟩=some (.map (some ba))) (hGa:Gm.cJ Value.string w ba ma) (hma:FM (ax.map bB.name) ax.length ma)
  (hGlyph:bw 108 (.slice fg.a fg.n fg.c) (.int .i64 ((400:Nat):Int)) (.func (.func 54) #[] #[.pointer (some ⟨fb,0,none⟩),.pointer (some ⟨ng,0,none⟩)]) LGlyph w) (rGlyph:Rows 9 aI B w (.slice fg.a fg.n fg.c) gl)
  (hChar:bw 116 (.slice fc.a fc.n fc.c) (.int .i64 ((1000:Nat):Int)) (.func (.func 58) #[] #[.pointer (some ⟨fb,0,none⟩)]) LChar w) (rChar:Rows 2 eF B w (.slice fc.a fc.n fc.c) ch)
  (hLookup:bw 118 (.slice fl.a fl.n fl.c) (.int .i64 ((40:Nat):Int)) (.func (.func 61) #[] #[.pointer (some ⟨fb,0,none⟩)]) LLookup w) (rLookup:Rows 3 aJ B w (.slice fl.a fl.n fl.c) lk)
  (hFeature:bw 120 (.slice ff.a ff.n ff.c) (.int .i64 ((20:Nat):Int)) (.func (.func 63) #[] #[.pointer (some ⟨fb,0,none⟩),.pointer (some ⟨nf,0,none⟩)]) LFeature w) (rFeature:Rows 2 aZ B w (.slice ff.a ff.n ff.c) fe)
  (hAxis:bw 123 (.slice fx.a fx.n fx.c) (.int .i64 ((3:Nat):Int)) (.func (.func 67) #[] #[.pointer (some ⟨na,0,none⟩)]) LAxis w) (rAxis:Rows 4 eP B w (.slice fx.a fx.n fx.c) ax)
  (hRegion:bw 125 (.slice fr.a fr.n fr.c) (.int .i64 ((16:Nat):Int)) (.func (.func 70) #[] #[.pointer (some ⟨fb,0,none⟩)]) LRegion w) (rRegion:Rows 1 dC B w (.slice fr.a fr.n fr.c) rg)
  (hCode:bw 129 (.slice fn.a fn.n fn.c) (.int .i64 ((20:Nat):Int)) (.func (.func 73) #[] #[]) LCode w) (rCode:Rows 1 gK B w (.slice fn.a fn.n fn.c) fu)
  (hInt:bw 133 (.slice fv.a fv.n fv.c) (.int .i64 ((64:Nat):Int)) (.func (.func 76) #[] #[]) LInt w) (rInt:Rows 1 bn B w (.slice fv.a fv.n fv.c) cv)
  (hcomp:∀ W,Mod [] w W->Calls Tryz.prog 55 #[.pointer (some ⟨fb,0,none⟩)] W λe w'=>e=.returned (.tuple #[.int .i64 comp.1,.int .i64 (comp.2:Int)])/\Mod [] W w')
  (sb ts c:Nat) (hs:Blk w sb #[.func (.func 51) #[] #[.pointer (some ⟨fb,0,none⟩)],LGlyph,.func (.func 55) #[] #[.pointer (some ⟨fb,0,none⟩)],LChar,LLookup,LFeature,LAxis,LRegion,LCode,LInt] ts) :
  Calls Tryz.prog 50 #[.slice (some ⟨sb,0,none⟩) 10 c] w λe w'=>e=.returned (.tuple #[.int .i64 (Ck.first (Ck.dU u fg fl fx fr comp gl ch lk fe ax rg fu cv)).1,.int .i64 ((Ck.first (Ck.dU u fg fl fx fr comp gl ch lk fe ax rg fu cv)).2:Int)])/\Mod [] w w':=by
 obtain ⟨p0_0,p0_1,p0_2,_,_,_,rfl,p0_A,p0_B,p0_C⟩:=hGlyph;obtain ⟨p1_0,p1_1,p1_2,_,_,_,rfl,p1_A,p1_B,p1_C⟩:=hChar;obtain ⟨p2_0,p2_1,p2_2,_,_,_,rfl,p2_A,p2_B,p2_C⟩:=hLookup;obtain ⟨p3_0,p3_1,p3_2,_,_,_,rfl,p3_A,p3_B,p3_C⟩:=hFeature;obtain ⟨p4_0,p4_1,p4_2,_,_,_,rfl,p4_A,p4_B,p4_C⟩:=hAxis;obtain ⟨p5_0,p5_1,p5_2,_,_,_,rfl,p5_A,p5_B,p5_C⟩:=hRegion;obtain ⟨p6_0,p6_1,p6_2,_,_,_,rfl,p6_A,p6_B,p6_C⟩:=hCode;obtain ⟨p7_0,p7_1,p7_2,_,_,_,rfl,p7_A,p7_B,p7_C⟩:=hInt
 refine (jj (F:=[]) (K:=10) (fn:=λk=>[51,108,55,116,118,120,123,125,129,133].getD k 0)
  (caps:=λk=>([#[.pointer (some ⟨fb,0,none⟩)],#[.pointer (some ⟨p0_0,0,none⟩),.pointer (some ⟨p0_1,0,none⟩),.pointer (some ⟨p0_2,0,none⟩)],#[.pointer (some ⟨fb,0,none⟩)],#[.pointer (some ⟨p1_0,0,none⟩),.pointer (some ⟨p1_1,0,none⟩),.pointer (some ⟨p1_2,0,none⟩)],#[.pointer (some ⟨p2_0,0,none⟩),.pointer (some ⟨p2_1,0,none⟩),.pointer (some ⟨p2_2,0,none⟩)],#[.pointer (some ⟨p3_0,0,none⟩),.pointer (some ⟨p3_1,0,none⟩),.pointer (some ⟨p3_2,0,none⟩)],#[.pointer (some ⟨p4_0,0,none⟩),.pointer (some ⟨p4_1,0,none⟩),.pointer (some ⟨p4_2,0,none⟩)],#[.pointer (some ⟨p5_0,0,none⟩),.pointer (some ⟨p5_1,0,none⟩),.pointer (some ⟨p5_2,0,none⟩)],#[.pointer (some ⟨p6_0,0,none⟩),.pointer (some ⟨p6_1,0,none⟩),.pointer (some ⟨p6_2,0,none⟩)],#[.pointer (some ⟨p7_0,0,none⟩),.pointer (some ⟨p7_1,0,none⟩),.pointer (some ⟨p7_2,0,none⟩)]]:List (Array Value)).getD k #[])
  (G:=λk=>(Ck.dU u fg fl fx fr comp gl ch lk fe ax rg fu cv).getD k (0,0)) (J:=λ_ W=>Mod [] w W) (Z:=λ_ W=>Mod [] w W)
  sb c w ⟨?call,?cf⟩ zd ?hF ?hJ ?hZ ?hc mR).mono λe w' h=>iH.list (Gs:=(Ck.dU u fg fl fx fr comp gl ch lk fe ax rg fu cv)) h (λh=>h) (λ_ h=>h)
 case cf =>
  intro k hk a W;have q0:(callFunc 51 a).run Tryz.prog W=.ok (.enter 51 a) W:=zt;have q1:(callFunc 108 a).run Tryz.prog W=.ok (.enter 108 a) W:=zt;have q2:(callFunc 55 a).run Tryz.prog W=.ok (.enter 55 a) W:=zt;have q3:(callFunc 116 a).run Tryz.prog W=.ok (.enter 116 a) W:=zt;have q4:(callFunc 118 a).run Tryz.prog W=.ok (.enter 118 a) W:=zt;have q5:(callFunc 120 a).run Tryz.prog W=.ok (.enter 120 a) W:=zt;have q6:(callFunc 123 a).run Tryz.prog W=.ok (.enter 123 a) W:=zt;have q7:(callFunc 125 a).run Tryz.prog W=.ok (.enter 125 a) W:=zt;have q8:(callFunc 129 a).run Tryz.prog W=.ok (.enter 129 a) W:=zt;have q9:(callFunc 133 a).run Tryz.prog W=.ok (.enter 133 a) W:=zt
  match k,hk with
  | 0,_=>simp only [List.getD_cons_zero,List.getD_cons_succ];exact q0
  | 1,_=>simp only [List.getD_cons_zero,List.getD_cons_succ];exact q1
  | 2,_=>simp only [List.getD_cons_zero,List.getD_cons_succ];exact q2
  | 3,_=>simp only [List.getD_cons_zero,List.getD_cons_succ];exact q3
  | 4,_=>simp only [List.getD_cons_zero,List.getD_cons_succ];exact q4
  | 5,_=>simp only [List.getD_cons_zero,List.getD_cons_succ];exact q5
  | 6,_=>simp only [List.getD_cons_zero,List.getD_cons_succ];exact q6
  | 7,_=>simp only [List.getD_cons_zero,List.getD_cons_succ];exact q7
  | 8,_=>simp only [List.getD_cons_zero,List.getD_cons_succ];exact q8
  | 9,_=>simp only [List.getD_cons_zero,List.getD_cons_succ];exact q9
 case hF=>intro x hx;cases hx
 case hJ=>exact λk W W' h b=>h.below' b
 case hZ=>exact λk W W' h b=>h.below' b
 case hc =>
  intro k W hk h;have q:=hs.kept h zk;have:=q.cell k;rw [this]
  match k,hk with
  | 0,_=>rfl
  | 1,_=>rfl
  | 2,_=>rfl
  | 3,_=>rfl
  | 4,_=>rfl
  | 5,_=>rfl
  | 6,_=>rfl
  | 7,_=>rfl
  | 8,_=>rfl
  | 9,_=>rfl
 case call =>
  intro k W hk' h;have fin:∀ {e:Ending} {W':World} {g:Int×Nat},e=.returned (.tuple #[.int .i64 g.1,.int .i64 (g.2:Int)])/\Mod [] W W' ->
    e=.returned (.tuple #[.int .i64 g.1,.int .i64 (g.2:Int)])/\Mod [] W W'/\(g.1=0->Mod [] w W')/\(g.1≠0->Mod [] w W'):=λq =>
   ⟨q.1,q.2,λ_=>h.then q.2,λ_=>h.then q.2⟩
  have NM:∀ {nb b:Nat},w.cell? ⟨nb,0,none⟩=some (.map (some b))->W.cell? ⟨nb,0,none⟩=some (.map (some b)):=λ{nb b} hn=>(h.cell (p:=⟨nb,0,none⟩) (aV hn) zk).trans hn
  have K3:∀ {b0 b1 b2 t0 t1 t2:Nat} {x y z:Value},Blk w b0 #[x] t0->Blk w b1 #[y] t1->Blk w b2 #[z] t2->W.cell? ⟨b0,0,none⟩=some x/\W.cell? ⟨b1,0,none⟩=some y/\W.cell? ⟨b2,0,none⟩=some z:=λh0 h1 h2 =>
   ⟨(h0.kept h zk).cell 0,(h1.kept h zk).cell 0,(h2.kept h zk).cell 0⟩
  match k,hk' with
  | 0,_=>exact (En9 u fg fc fl ff fx fr fn fv fb W (hF.kept h)).mono λe W' q=>fin (g:=(Ck.mD u fg.n,0)) q
  | 2,_=>exact (hcomp W h).mono λe W' q=>fin q
  | 1,_=>exact (pK (lk:=lk) u fg fc fl ff fx fr fn fv (hF.kept h) (NM hng) (hGg.mod h zk) hmg (rGlyph.mod aI.stay h) (K3 p0_A p0_B p0_C)).mono λe W' q=>fin q
  | 3,_=>exact (pY (lk:=lk) (m:=[]) (nb:=0) (b:=0) u fg fc fl ff fx fr fn fv (hF.kept h) (rChar.mod eF.stay h) (rChar.mod eF.stay h) (K3 p1_A p1_B p1_C)).mono λe W' q=>fin q
  | 4,_=>exact (ny (m:=[]) (nb:=0) (b:=0) u fg fc fl ff fx fr fn fv (hF.kept h) (rLookup.mod aJ.stay h) (rLookup.mod aJ.stay h) (K3 p2_A p2_B p2_C)).mono λe W' q=>fin q
  | 5,_=>exact (my (lk:=lk) u fg fc fl ff fx fr fn fv (hF.kept h) (NM hnf) (hGf.mod h zk) hmf (rFeature.mod aZ.stay h) (K3 p3_A p3_B p3_C)).mono λe W' q=>fin q
  | 6,_=>exact (pZ (lk:=lk) (fb:=0) (NM hna) (hGa.mod h zk) hma (rAxis.mod eP.stay h) (K3 p4_A p4_B p4_C)).mono λe W' q=>fin q
  | 7,_=>exact (nv (lk:=lk) (m:=[]) (nb:=0) (b:=0) u fg fc fl ff fx fr fn fv (hF.kept h) (rRegion.mod dC.stay h) (K3 p5_A p5_B p5_C)).mono λe W' q=>fin q
  | 8,_=>exact (pX (lk:=lk) (fb:=0) (m:=[]) (nb:=0) (b:=0)  (rCode.mod gK.stay h) (K3 p6_A p6_B p6_C)).mono λe W' q=>fin q
  | 9,_=>exact (rX (lk:=lk) (fb:=0) (m:=[]) (nb:=0) (b:=0)  (rInt.mod bn.stay h) (K3 p7_A p7_B p7_C)).mono λe W' q=>fin q
theorem El (u:Int) (fg fc fl ff fx fr fn fv:Hd) (comp:Ck.Got) (fb:Nat) (w:World) (hF:ef u fg fc fl ff fx fr fn fv fb w)
  (hc:Calls Tryz.prog 56 #[.agg (af u fg fc fl ff fx fr fn fv)] w λe w'=>e=.returned (.tuple #[.int .i64 comp.1,.int .i64 (comp.2:Int)])/\Mod [] w w') :
  Calls Tryz.prog 55 #[.pointer (some ⟨fb,0,none⟩)] w λe w'=>e=.returned (.tuple #[.int .i64 comp.1,.int .i64 (comp.2:Int)])/\Mod [] w w':=by
 obtain ⟨tf,hfb⟩:=hF;have HC:=Hi hc;clear hc;unfold af at hfb HC;have g0:=hfb.cell 0;have g1:=hfb.cell 1;have g2:=hfb.cell 2;have g3:=hfb.cell 3;have g4:=hfb.cell 4;have g5:=hfb.cell 5;have g6:=hfb.cell 6;have g7:=hfb.cell 7;have g8:=hfb.cell 8;simp only [gA,gZ,gS] at g0 g1 g2 g3 g4 g5 g6 g7 g8;obtain ⟨c1,c2⟩:=comp;simp only at HC ⊢;clear hfb;go_enter Tryz.func55,Tryz.ntmps55;go_wp2_with fail;have hc:=HC.o;refine Calls.mono hc ?_;rintro e w1 ⟨rfl,m1⟩;have HM:=Hi m1;clear m1 hc HC g0 g1 g2 g3 g4 g5 g6 g7 g8;go_wp2;go_ret2;exact ⟨rfl,HM.o⟩
set_option maxRecDepth 100000 in
theorem oM {u:Int} {fg fc fl ff fx fr fn fv:Hd} {comp:Ck.Got} {gl:List av} {ch:List dc} {lk:List ar} {fe:List aA} {ax:List bB} {rg:List bv} {fu:List (List bS)} {cv:List Int} {B:Nat} (w:World)
  (rGlyph:Rows 9 aI B w (.slice fg.a fg.n fg.c) gl)
  (rChar:Rows 2 eF B w (.slice fc.a fc.n fc.c) ch)
  (rLookup:Rows 3 aJ B w (.slice fl.a fl.n fl.c) lk)
  (rFeature:Rows 2 aZ B w (.slice ff.a ff.n ff.c) fe)
  (rAxis:Rows 4 eP B w (.slice fx.a fx.n fx.c) ax)
  (rRegion:Rows 1 dC B w (.slice fr.a fr.n fr.c) rg)
  (rCode:Rows 1 gK B w (.slice fn.a fn.n fn.c) fu)
  (rInt:Rows 1 bn B w (.slice fv.a fv.n fv.c) cv)
  (hcomp:∀ W,Mod [] w W->Calls Tryz.prog 56 #[.agg (af u fg fc fl ff fx fr fn fv)] W λe w'=>e=.returned (.tuple #[.int .i64 comp.1,.int .i64 (comp.2:Int)])/\Mod [] W w') :
  Calls Tryz.prog 18 #[.agg (af u fg fc fl ff fx fr fn fv)] w λe w'=>e=.returned (.tuple #[.int .i64 (Ck.first (Ck.dU u fg fl fx fr comp gl ch lk fe ax rg fu cv)).1,.int .i64 ((Ck.first (Ck.dU u fg fl fx fr comp gl ch lk fe ax rg fu cv)).2:Int)])/\Mod [] w w':=by
 have HCO:=Hi hcomp;have HGlyph:=Hi rGlyph;have HChar:=Hi rChar;have HLookup:=Hi rLookup;have HFeature:=Hi rFeature;have HAxis:=Hi rAxis;have HRegion:=Hi rRegion;have HCode:=Hi rCode;have HInt:=Hi rInt;have T:=Hi (own1 w (af u fg fc fl ff fx fr fn fv) 32);have C1:∀ (a:Array Value) (w:World),(callFunc 45 a).run Tryz.prog w=.ok (.enter 45 a) w:=λa w=>by kernel_rfl
 have C2:∀ (a:Array Value) (w:World),(callFunc 47 a).run Tryz.prog w=.ok (.enter 47 a) w:=λa w=>by kernel_rfl
 have C3:∀ (a:Array Value) (w:World),(callFunc 49 a).run Tryz.prog w=.ok (.enter 49 a) w:=λa w=>by kernel_rfl
 have HK:=Hi (And.intro C1 (And.intro C2 C3));obtain ⟨D,hD⟩:∃ D,Ck.first (Ck.dU u fg fl fx fr comp gl ch lk fe ax rg fu cv)=D:=⟨_,rfl⟩
 rw [hD];have HD:=Hi hD;have HB:=Hi (show ((af u fg fc fl ff fx fr fn fv):Array Value)=#[.int .i64 u,.slice fg.a fg.n fg.c,.slice fc.a fc.n fc.c,.slice fl.a fl.n fl.c,.slice ff.a ff.n ff.c,.slice fx.a fx.n fx.c,.slice fr.a fr.n fr.c,.slice fn.a fn.n fn.c,.slice fv.a fv.n fv.c] from rfl);clear hcomp hD C1 C2 C3 rGlyph rChar rLookup rFeature rAxis rRegion rCode rInt;go_enter Tryz.func18,Tryz.ntmps18;unfold af at T ⊢;have a0:=(T.o.at 0 rfl).cell 0;have a1:=(T.o.at 0 rfl).cell 1;have a2:=(T.o.at 0 rfl).cell 2;have a3:=(T.o.at 0 rfl).cell 3;have a4:=(T.o.at 0 rfl).cell 4;have a5:=(T.o.at 0 rfl).cell 5;have a6:=(T.o.at 0 rfl).cell 6;have a7:=(T.o.at 0 rfl).cell 7;have a8:=(T.o.at 0 rfl).cell 8;simp only [gA,gZ,gS] at a0 a1 a2 a3 a4 a5 a6 a7 a8;have HF:=Hi (lL (fn:=45) (w.alloc (.cells #[.int .i64 u,.slice fg.a fg.n fg.c,.slice fc.a fc.n fc.c,.slice fl.a fl.n fl.c,.slice ff.a ff.n ff.c,.slice fx.a fx.n fx.c,.slice fr.a fr.n fr.c,.slice fn.a fn.n fn.c,.slice fv.a fv.n fv.c] 32)) (HGlyph.o.mod aI.stay T.o.mod) (λx cs W h=>Er x cs _ W h) HK.o.1);go_wp2_with fail;refine HF.o.mono ?_;rintro e w1 ⟨⟨bg,mg,rfl,hbg,hGg,hmg⟩,m1⟩;have T1:=Hi ((T.o.call m1).alloc #[.map (some bg)] 89);simp only [List.cons_append,List.nil_append] at T1;have T2:Hy (Mod [] w1 (w1.alloc (.cells #[.map (some bg)] 89))):=(Mod.refl [] w1).alloc _;have Gg:=Hi (hGg.mod T2.o zk);have Mg:=Hi hmg;obtain ⟨ng,hng⟩:∃ x,x=w1.heap.size:=⟨_,rfl⟩
 rw [<- hng] at T1;clear T HF hbg hGg hmg m1 a0 a1 a2 a3 a4 a5 a6 a7 a8;have T:=T1;clear T1 T2;go_upto_region 2 with fail;rw [<- hng];clear hng;generalize w1.alloc (.cells #[.map (some bg)] 89)=W1 at *
 have a0:=(T.o.at 0 rfl).cell 0;have a1:=(T.o.at 0 rfl).cell 1;have a2:=(T.o.at 0 rfl).cell 2;have a3:=(T.o.at 0 rfl).cell 3;have a4:=(T.o.at 0 rfl).cell 4;have a5:=(T.o.at 0 rfl).cell 5;have a6:=(T.o.at 0 rfl).cell 6;have a7:=(T.o.at 0 rfl).cell 7;have a8:=(T.o.at 0 rfl).cell 8;simp only [gA,gZ,gS] at a0 a1 a2 a3 a4 a5 a6 a7 a8;have HF:=Hi (jX (fn:=47) W1 (HFeature.o.mod aZ.stay T.o.mod) (λx cs W h=>Ep x cs _ W h) HK.o.2.1);go_wp2_with fail;refine HF.o.mono ?_;rintro e w2 ⟨⟨bf,mf,rfl,hbf,hGf,hmf⟩,m1⟩;have T1:=Hi ((T.o.call m1).alloc #[.map (some bf)] 89);simp only [List.cons_append,List.nil_append] at T1;have T2:Hy (Mod [] w2 (w2.alloc (.cells #[.map (some bf)] 89))):=(Mod.refl [] w2).alloc _;have Gf:=Hi (hGf.mod T2.o zk);have Mf:=Hi hmf;have Gg':=Hi ((Gg.o.mod m1 zk).mod T2.o zk);clear Gg;have Gg:=Gg';clear Gg';obtain ⟨nf,hnf⟩:∃ x,x=w2.heap.size:=⟨_,rfl⟩
 rw [<- hnf] at T1;clear T HF hbf hGf hmf m1 a0 a1 a2 a3 a4 a5 a6 a7 a8;have T:=T1;clear T1 T2;go_upto_region 3 with fail;rw [<- hnf];clear hnf;generalize w2.alloc (.cells #[.map (some bf)] 89)=W2 at *
 have a0:=(T.o.at 0 rfl).cell 0;have a1:=(T.o.at 0 rfl).cell 1;have a2:=(T.o.at 0 rfl).cell 2;have a3:=(T.o.at 0 rfl).cell 3;have a4:=(T.o.at 0 rfl).cell 4;have a5:=(T.o.at 0 rfl).cell 5;have a6:=(T.o.at 0 rfl).cell 6;have a7:=(T.o.at 0 rfl).cell 7;have a8:=(T.o.at 0 rfl).cell 8;simp only [gA,gZ,gS] at a0 a1 a2 a3 a4 a5 a6 a7 a8;have HF:=Hi (uo (fn:=49) W2 (HAxis.o.mod eP.stay T.o.mod) (λx cs W h=>Eo x cs _ W h) HK.o.2.2);go_wp2_with fail;refine HF.o.mono ?_;rintro e w3 ⟨⟨ba,ma,rfl,hba,hGa,hma⟩,m1⟩;have T1:=Hi ((T.o.call m1).alloc #[.map (some ba)] 89);simp only [List.cons_append,List.nil_append] at T1;have T2:Hy (Mod [] w3 (w3.alloc (.cells #[.map (some ba)] 89))):=(Mod.refl [] w3).alloc _;have Ga:=Hi (hGa.mod T2.o zk);have Ma:=Hi hma;have Gg':=Hi ((Gg.o.mod m1 zk).mod T2.o zk);clear Gg;have Gg:=Gg';clear Gg';have Gf':=Hi ((Gf.o.mod m1 zk).mod T2.o zk);clear Gf;have Gf:=Gf';clear Gf';obtain ⟨na,hna⟩:∃ x,x=w3.heap.size:=⟨_,rfl⟩
 rw [<- hna] at T1;clear T HF hba hGa hma m1 a0 a1 a2 a3 a4 a5 a6 a7 a8;have T:=T1;clear T1 T2;go_upto_region 4 with fail;rw [<- hna];clear hna;generalize w3.alloc (.cells #[.map (some ba)] 89)=W3 at *
 have hmf:∀ (fn:Fn) (first cap:Array Value) (w:World),(Instr.makeFunc fn first cap).run Tryz.prog w=.ok (.func fn first cap) w:=λ_ _ _ _=>rfl
 have AF:=(T.o.at 0 rfl).every;have AN:=(T.o.at 1 rfl).every;have AM:=(T.o.at 2 rfl).every;have AX:=(T.o.at 3 rfl).every;refine Dg.jW [(35,34)] _ 32 [true,true,true,true,false,true,true,true,true,false,true,true,true,false,true,true,true,false,true,true,true,false,true,true,true,false,true,true,false,true,true,false] [(4,bw 108 (.slice fg.a fg.n fg.c) (.int .i64 ((400:Nat):Int)) (.func (.func 54) #[] #[.pointer (some ⟨w.heap.size,0,none⟩),.pointer (some ⟨ng,0,none⟩)])),(9,bw 116 (.slice fc.a fc.n fc.c) (.int .i64 ((1000:Nat):Int)) (.func (.func 58) #[] #[.pointer (some ⟨w.heap.size,0,none⟩)])),(13,bw 118 (.slice fl.a fl.n fl.c) (.int .i64 ((40:Nat):Int)) (.func (.func 61) #[] #[.pointer (some ⟨w.heap.size,0,none⟩)])),(17,bw 120 (.slice ff.a ff.n ff.c) (.int .i64 ((20:Nat):Int)) (.func (.func 63) #[] #[.pointer (some ⟨w.heap.size,0,none⟩),.pointer (some ⟨nf,0,none⟩)])),(21,bw 123 (.slice fx.a fx.n fx.c) (.int .i64 ((3:Nat):Int)) (.func (.func 67) #[] #[.pointer (some ⟨na,0,none⟩)])),(25,bw 125 (.slice fr.a fr.n fr.c) (.int .i64 ((16:Nat):Int)) (.func (.func 70) #[] #[.pointer (some ⟨w.heap.size,0,none⟩)])),(28,bw 129 (.slice fn.a fn.n fn.c) (.int .i64 ((20:Nat):Int)) (.func (.func 73) #[] #[])),(31,bw 133 (.slice fv.a fv.n fv.c) (.int .i64 ((64:Nat):Int)) (.func (.func 76) #[] #[]))] zt zqj zt ?hTd142 (λ_ _ d _ _ h=>by cases d <;> exact h) ?maind142
 case hTd142=>simp [bw.stays]
 simp only [aQ]
 iterate 24
  refine sv ?_
 refine au (Dg.uS zt ?_ ?_)
 ·refine Dg.bP (Dg.dV λw' hw'=>reK (vm fg.a fg.n fg.c 400 54 _ w')) ?_;refine Dg.bP (Dg.dV λw' hw'=>reK (xQ fc.a fc.n fc.c 1000 58 _ w')) ?_;refine Dg.bP (Dg.dV λw' hw'=>reK (tX fl.a fl.n fl.c 40 61 _ w')) ?_;refine Dg.bP (Dg.dV λw' hw'=>reK (rJ ff.a ff.n ff.c 20 63 _ w')) ?_;refine Dg.bP (Dg.dV λw' hw'=>reK (xR fx.a fx.n fx.c 3 67 _ w')) ?_;refine Dg.bP (Dg.dV λw' hw'=>reK (tW fr.a fr.n fr.c 16 70 _ w')) ?_;refine Dg.bP (Dg.dV λw' hw'=>reK (xP fn.a fn.n fn.c 20 73 _ w')) ?_;refine Dg.bP (Dg.dV λw' hw'=>reK (Ab fv.a fv.n fv.c 64 76 _ w')) ?_;exact Dg.lV
 refine Dg.dh (g:=?_) 20 _ rfl rfl (λv=>by simp only [List.set_cons_succ,List.set_cons_zero];exact rfl) (λkv1=>?_);refine Dg.dh (g:=?_) 25 _ rfl rfl (λv=>by simp only [List.set_cons_succ,List.set_cons_zero];exact rfl) (λkv2=>?_);refine Dg.dh (g:=?_) 29 _ rfl rfl (λv=>by simp only [List.set_cons_succ,List.set_cons_zero];exact rfl) (λkv3=>?_);refine Dg.dh (g:=?_) 33 _ rfl rfl (λv=>by simp only [List.set_cons_succ,List.set_cons_zero];exact rfl) (λkv4=>?_);refine Dg.dh (g:=?_) 37 _ rfl rfl (λv=>by simp only [List.set_cons_succ,List.set_cons_zero];exact rfl) (λkv5=>?_);refine Dg.dh (g:=?_) 41 _ rfl rfl (λv=>by simp only [List.set_cons_succ,List.set_cons_zero];exact rfl) (λkv6=>?_);refine Dg.dh (g:=?_) 44 _ rfl rfl (λv=>by simp only [List.set_cons_succ,List.set_cons_zero];exact rfl) (λkv7=>?_);refine Dg.dh (g:=?_) 47 _ rfl rfl (λv=>by simp only [List.set_cons_succ,List.set_cons_zero];exact rfl) (λkv8=>?_);refine Dg.rB (λw' hw' hF=>?_);simp only [qS,qZ];obtain ⟨⟨⟨⟨⟨⟨⟨⟨-,h1⟩,h2⟩,h3⟩,h4⟩,h5⟩,h6⟩,h7⟩,h8⟩:=hF;have H1:=Hi h1;have H2:=Hi h2;have H3:=Hi h3;have H4:=Hi h4;have H5:=Hi h5;have H6:=Hi h6;have H7:=Hi h7;have H8:=Hi h8;obtain ⟨p10,p11,p12,_,_,_,rfl,-⟩:=h1;obtain ⟨p20,p21,p22,_,_,_,rfl,-⟩:=h2;obtain ⟨p30,p31,p32,_,_,_,rfl,-⟩:=h3;obtain ⟨p40,p41,p42,_,_,_,rfl,-⟩:=h4;obtain ⟨p50,p51,p52,_,_,_,rfl,-⟩:=h5;obtain ⟨p60,p61,p62,_,_,_,rfl,-⟩:=h6;obtain ⟨p70,p71,p72,_,_,_,rfl,-⟩:=h7;obtain ⟨p80,p81,p82,_,_,_,rfl,-⟩:=h8;have HW:=Hi hw';clear hw' AF AN AM AX hmf;go_wp2_with fail;have al:Mod [] w' (w'.alloc (.cells #[.func (.func 51) #[] #[.pointer (some ⟨w.heap.size,0,none⟩)],.func (.func 108) #[] #[.pointer (some ⟨p10,0,none⟩),.pointer (some ⟨p11,0,none⟩),.pointer (some ⟨p12,0,none⟩)],.func (.func 55) #[] #[.pointer (some ⟨w.heap.size,0,none⟩)],.func (.func 116) #[] #[.pointer (some ⟨p20,0,none⟩),.pointer (some ⟨p21,0,none⟩),.pointer (some ⟨p22,0,none⟩)],.func (.func 118) #[] #[.pointer (some ⟨p30,0,none⟩),.pointer (some ⟨p31,0,none⟩),.pointer (some ⟨p32,0,none⟩)],.func (.func 120) #[] #[.pointer (some ⟨p40,0,none⟩),.pointer (some ⟨p41,0,none⟩),.pointer (some ⟨p42,0,none⟩)],.func (.func 123) #[] #[.pointer (some ⟨p50,0,none⟩),.pointer (some ⟨p51,0,none⟩),.pointer (some ⟨p52,0,none⟩)],.func (.func 125) #[] #[.pointer (some ⟨p60,0,none⟩),.pointer (some ⟨p61,0,none⟩),.pointer (some ⟨p62,0,none⟩)],.func (.func 129) #[] #[.pointer (some ⟨p70,0,none⟩),.pointer (some ⟨p71,0,none⟩),.pointer (some ⟨p72,0,none⟩)],.func (.func 133) #[] #[.pointer (some ⟨p80,0,none⟩),.pointer (some ⟨p81,0,none⟩),.pointer (some ⟨p82,0,none⟩)]] 117)):=mR.alloc _;have hW:=HW.o.then al
 refine (wn (u:=u) (fg:=fg) (fc:=fc) (fl:=fl) (ff:=ff) (fx:=fx) (fr:=fr) (fn:=fn) (fv:=fv) (comp:=comp) (B:=B) (bg:=bg) (bf:=bf) (ba:=ba) (mg:=mg) (mf:=mf) (ma:=ma)
  ⟨_,(T.o.at 0 rfl).kept hW zk⟩ (((T.o.at 1 rfl).kept hW zk).cell 0) (Gg.o.mod hW zk) Mg.o (((T.o.at 2 rfl).kept hW zk).cell 0) (Gf.o.mod hW zk) Mf.o (((T.o.at 3 rfl).kept hW zk).cell 0) (Ga.o.mod hW zk) Ma.o
  (bw.stays _ _ H1.o al) ((HGlyph.o.mod aI.stay T.o.mod).mod aI.stay hW)
  (bw.stays _ _ H2.o al) ((HChar.o.mod eF.stay T.o.mod).mod eF.stay hW)
  (bw.stays _ _ H3.o al) ((HLookup.o.mod aJ.stay T.o.mod).mod aJ.stay hW)
  (bw.stays _ _ H4.o al) ((HFeature.o.mod aZ.stay T.o.mod).mod aZ.stay hW)
  (bw.stays _ _ H5.o al) ((HAxis.o.mod eP.stay T.o.mod).mod eP.stay hW)
  (bw.stays _ _ H6.o al) ((HRegion.o.mod dC.stay T.o.mod).mod dC.stay hW)
  (bw.stays _ _ H7.o al) ((HCode.o.mod gK.stay T.o.mod).mod gK.stay hW)
  (bw.stays _ _ H8.o al) ((HInt.o.mod bn.stay T.o.mod).mod bn.stay hW)
  (λW m=>El u fg fc fl ff fx fr fn fv comp _ W ⟨_,((T.o.at 0 rfl).kept hW zk).kept m zk⟩ (HCO.o W (T.o.mod.then (hW.then m)))) w'.heap.size _ _ (Blk.new w' _ _)).mono ?_
 rintro e w'' ⟨rfl,M⟩;have HM:=Hi (T.o.mod.then (hW.then M));rw [HD.o];obtain ⟨D1,D2⟩:=D;simp only;clear M al hW HW T HD HB HK HCO H1 H2 H3 H4 H5 H6 H7 H8 HGlyph HChar HLookup HFeature HAxis HRegion HCode HInt Gg Gf Ga Mg Mf Ma;go_wp2;go_ret2;exact ⟨rfl,HM.o⟩
theorem zC (u:Int) (fg fc fl ff fx fr fn fv:Hd) (got:Ck.Got) (w:World)
  (hc:∀ W,Mod [] w W->Calls Tryz.prog 18 #[.agg (af u fg fc fl ff fx fr fn fv)] W λe w'=>e=.returned (.tuple #[.int .i64 got.1,.int .i64 (got.2:Int)])/\Mod [] W w') :
  Calls Tryz.prog 10 #[.agg (af u fg fc fl ff fx fr fn fv)] w λe w'=>e=.returned (.bool (decide (got.1=0)))/\Mod [] w w':=by
 have T:=Hi (own1 w (af u fg fc fl ff fx fr fn fv) 32);have HC:=Hi (hc _ T.o.mod);clear hc;obtain ⟨g1,g2⟩:=got;unfold af at T HC ⊢;obtain ⟨b,k0,k1,k2⟩:=neqf g1 0;simp only at HC k0 k1 k2 ⊢;rw [k1];have a0:=(T.o.at 0 rfl).cell 0;have a1:=(T.o.at 0 rfl).cell 1;have a2:=(T.o.at 0 rfl).cell 2;have a3:=(T.o.at 0 rfl).cell 3;have a4:=(T.o.at 0 rfl).cell 4;have a5:=(T.o.at 0 rfl).cell 5;have a6:=(T.o.at 0 rfl).cell 6;have a7:=(T.o.at 0 rfl).cell 7;have a8:=(T.o.at 0 rfl).cell 8;go_enter Tryz.func10,Tryz.ntmps10;go_wp2_with fail;have hc:=HC.o;refine Calls.mono hc ?_;rintro e w1 ⟨rfl,m1⟩;have HM:=Hi (T.o.mod.then m1);clear m1 hc HC T a0 a1 a2 a3 a4 a5 a6 a7 a8;go_wp2;go_ret;exact ⟨rfl,HM.o⟩
end Go.Proofs.YthheaflbbficgaaGreat

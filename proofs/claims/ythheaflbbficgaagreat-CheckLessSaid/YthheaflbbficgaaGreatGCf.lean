/- CkFontC, CkFontD, CkGlyph2, CkFontE, CkFontF, CkFontG, CkFontH, CkFontI, CkFont, CkRight. -/
import Derived.Test.YthheaflbbficgaaGreatGBase
import Derived.Test.YthheaflbbficgaaGreatGCl
import Derived.Test.YthheaflbbficgaaGreatGRing
set_option linter.all false
namespace Go.Proofs.YthheaflbbficgaaGreat
set_option maxHeartbeats 8000000
open Go.RowKit
theorem F1_any (x:DGlyph) (cs:List Value) (B:Nat) (w:World) (h:RGlyph B w cs x):Calls Tryz.prog 45 #[.agg cs.toArray] w fun e w'=>e=.returned (.string x.name)/\Mod [] w w':=by
 obtain ⟨v3,v4,v5,v6,v7,v8,rfl,-⟩:=h;have T:=Hi (own1 w #[.string x.name,.int .i64 x.adv,.bool x.mark,v3,v4,v5,v6,v7,v8] 46);have c0:=(T.out.at 0 rfl).cell 0;go_enter Tryz.func45,Tryz.ntmps45;go_wp2;go_ret;exact ⟨rfl,T.out.mod⟩
theorem F2_any (x:DFeature) (cs:List Value) (B:Nat) (w:World) (h:RFeature B w cs x):Calls Tryz.prog 47 #[.agg cs.toArray] w fun e w'=>e=.returned (.string x.name)/\Mod [] w w':=by
 obtain ⟨v1,rfl,-⟩:=h;have T:=Hi (own1 w #[.string x.name,v1] 88);have c0:=(T.out.at 0 rfl).cell 0;go_enter Tryz.func47,Tryz.ntmps47;go_wp2;go_ret;exact ⟨rfl,T.out.mod⟩
theorem F3_any (x:DAxis) (cs:List Value) (B:Nat) (w:World) (h:RAxis B w cs x):Calls Tryz.prog 49 #[.agg cs.toArray] w fun e w'=>e=.returned (.string x.name)/\Mod [] w w':=by
 obtain ⟨rfl,-⟩:=h;have T:=Hi (own1 w #[.string x.name,.int .i64 x.min,.int .i64 x.dflt,.int .i64 x.max] 76);have c0:=(T.out.at 0 rfl).cell 0;go_enter Tryz.func49,Tryz.ntmps49;go_wp2;go_ret;exact ⟨rfl,T.out.mod⟩
theorem F4_any (u:Int) (fg fc fl ff fx fr fn fv:Hd) (fb:Nat) (w:World) (hF:FoBox u fg fc fl ff fx fr fn fv fb w):Calls Tryz.prog 51 #[.pointer (some ⟨fb,0,none⟩)] w fun e w'=>e=.returned (.tuple #[.int .i64 (Ck.headN u fg.n),.int .i64 0])/\Mod [] w w':=by
 obtain ⟨tf,hfb⟩:=hF;unfold fontCells at hfb;have g0:=hfb.cell 0;have g1:=hfb.cell 1;have g2:=hfb.cell 2;have g3:=hfb.cell 3;have g4:=hfb.cell 4;have g5:=hfb.cell 5;have g6:=hfb.cell 6;have g7:=hfb.cell 7;have g8:=hfb.cell 8;simp only [gA,gZ,gS] at g0 g1 g2 g3 g4 g5 g6 g7 g8;have HC:=Hi (head_any u fg fc fl ff fx fr fn fv w);unfold fontCells at HC;clear hfb;go_enter Tryz.func51,Tryz.ntmps51;go_wp2_with fail;have hc:=HC.out;refine Calls.mono hc ?_;rintro e w1 ⟨rfl,m1⟩;have HM:=Hi m1;clear m1 hc HC g0 g1 g2 g3 g4 g5 g6 g7 g8;go_wp2;go_ret2;exact ⟨rfl,HM.out⟩
theorem F8_any (u:Int) (fg fc fl ff fx fr fn fv:Hd) (idx:Value) (B fb:Nat) (cs:List Value) (l:DLookup) (lk:List DLookup) (w:World) (h:RLookup B w cs l) (hL:Rows 3 RLookup B w (.slice fl.a fl.n fl.c) lk) (hF:FoBox u fg fc fl ff fx fr fn fv fb w):Calls Tryz.prog 61 #[idx,.agg cs.toArray,.pointer (some ⟨fb,0,none⟩)] w fun e w'=>e=.returned (.int .i64 (Ck.lookup fg.n lk l))/\Mod [] w w':=by
 have hh:=h;obtain ⟨v2,rfl,-⟩:=hh;have T:=Hi (own1 w #[.int .i64 l.kind,.bool l.ignore,v2] 57);have a0:=(T.out.at 0 rfl).cell 0;have a1:=(T.out.at 0 rfl).cell 1;have a2:=(T.out.at 0 rfl).cell 2;have HC:=Hi (lookup_any u fg fc fl ff fx fr fn fv _ l lk B _ (RLookup.stay _ _ _ _ _ h (T.out.mod.above B)) (hL.mod RLookup.stay T.out.mod))
 replace hF:=hF.kept T.out.mod
 obtain ⟨tf,hfb⟩:=hF;unfold fontCells at hfb;have g0:=hfb.cell 0;have g1:=hfb.cell 1;have g2:=hfb.cell 2;have g3:=hfb.cell 3;have g4:=hfb.cell 4;have g5:=hfb.cell 5;have g6:=hfb.cell 6;have g7:=hfb.cell 7;have g8:=hfb.cell 8;simp only [gA,gZ,gS] at g0 g1 g2 g3 g4 g5 g6 g7 g8;unfold fontCells at HC;generalize Ck.lookup fg.n lk l=D at *
 clear hfb h hL;go_enter Tryz.func61,Tryz.ntmps61;go_wp2_with fail;have hc:=HC.out;refine Calls.mono hc ?_;rintro e w1 ⟨rfl,m1⟩;have HM:=Hi (T.out.mod.then m1);clear m1 hc HC T a0 a1 a2 g0 g1 g2 g3 g4 g5 g6 g7 g8;go_wp2;go_ret;exact ⟨rfl,HM.out⟩
theorem F11_any (u:Int) (fg fc fl ff fx fr fn fv:Hd) (idx:Value) (B fb:Nat) (cs:List Value) (x:DRegion) (w:World) (h:RRegion B w cs x) (hF:FoBox u fg fc fl ff fx fr fn fv fb w):Calls Tryz.prog 70 #[idx,.agg cs.toArray,.pointer (some ⟨fb,0,none⟩)] w fun e w'=>e=.returned (.int .i64 (Ck.region fx.n x))/\Mod [] w w':=by
 obtain ⟨v0,rfl,h0⟩:=h;obtain ⟨o,d,rfl,-⟩:=h0.form;have T:=Hi (own1 w #[.slice o x.tents.length d] 79);have a0:=(T.out.at 0 rfl).cell 0;have HC:=Hi (region_any o x.tents.length d fx.n x.tents B _ (h0.mod RTent.stay T.out.mod))
 replace hF:=hF.kept T.out.mod
 obtain ⟨tf,hfb⟩:=hF;unfold fontCells at hfb;have g0:=hfb.cell 0;have g1:=hfb.cell 1;have g2:=hfb.cell 2;have g3:=hfb.cell 3;have g4:=hfb.cell 4;have g5:=hfb.cell 5;have g6:=hfb.cell 6;have g7:=hfb.cell 7;have g8:=hfb.cell 8;simp only [gA,gZ,gS] at g0 g1 g2 g3 g4 g5 g6 g7 g8;obtain ⟨ts⟩:=x;simp only at HC ⊢;generalize Ck.region fx.n ⟨ts⟩=D at *
 clear hfb h0;go_enter Tryz.func70,Tryz.ntmps70;go_wp2_with fail;have hc:=HC.out;refine Calls.mono hc ?_;rintro e w1 ⟨rfl,m1⟩;have HM:=Hi (T.out.mod.then m1);clear m1 hc HC T a0 g0 g1 g2 g3 g4 g5 g6 g7 g8;go_wp2;go_ret;exact ⟨rfl,HM.out⟩
theorem F12_any (idx:Value) (oa:Option Addr) (n c:Nat) (l:List DIns) (B:Nat) (w:World) (h:Rows 2 RIns B w (.slice oa n c) l):Calls Tryz.prog 73 #[idx,.slice oa n c] w fun e w'=>e=.returned (.int .i64 (Ck.program l))/\Mod [] w w':=by
 have HC:=Hi (program_any oa n c l B w h);clear h;go_enter Tryz.func73,Tryz.ntmps73;go_wp2_with fail;have hc:=HC.out;refine Calls.mono hc ?_;rintro e w1 ⟨rfl,m1⟩;have HM:=Hi m1;clear m1 hc HC;go_wp2;go_ret;exact ⟨rfl,HM.out⟩
theorem F13_any (idx:Value) (x:Int) (hx:I64 x) (w:World):Calls Tryz.prog 76 #[idx,.int .i64 x] w fun e w'=>e=.returned (.int .i64 (Ck.when (!Ck.may x) 1))/\Mod [] w w':=by
 have T:=Hi (own1 w #[.int .i64 x] 3);have HR:=Hi (rows_ints (l:=[x]) (T.out.at 0 rfl) (show 1<=maxLen by decide) (by simp [hx]));clear hx;go_enter Tryz.func76,Tryz.ntmps76;go_wp2_with fail;refine (may_any _ _ _ [x] 0 _ HR.out).mono ?_;rintro e w1 ⟨rfl,rfl⟩;clear HR;go_wp2_with fail;refine (when_any _ 1 _).mono ?_;rintro e w2 ⟨rfl,rfl⟩;go_wp2;go_ret;exact ⟨by simp,T.out.mod⟩
theorem FM.first {α:Type} {nm:α->ByteArray} {l:List α} {m:List (ByteArray×Value)} (h:FM (l.map nm) l.length m) {x:α} (hx:x∈l):(Gm.look m (nm x)).getD (.int .i64 0)=.int .i64 ((Ck.firstOf nm l (nm x):Nat):Int):=by
 rw [h,if_pos]
 ·simp only [Option.getD_some,Ck.firstOf];rw [List.findIdx_map];rfl
 ·rw [List.take_of_length_le (by simp),List.any_eq_true];exact ⟨nm x,mM hx,by simp⟩
theorem F10_any (i:Nat) (x:DAxis) (l:List DAxis) (cs:List Value) (B nb b:Nat) (m:List (ByteArray×Value)) (w:World) (hx:l[i]?=some x) (h:RAxis B w cs x) (hn:w.cell? ⟨nb,0,none⟩=some (.map (some b))) (hG:Gm.GMap Value.string w b m) (hm:FM (l.map DAxis.name) l.length m) :
  Calls Tryz.prog 67 #[.int .i64 (i:Int),.agg cs.toArray,.pointer (some ⟨nb,0,none⟩)] w fun e w'=>e=.returned (.int .i64 (Ck.axis x (Ck.name (Ck.isName x.name) (decide (Ck.firstOf DAxis.name l x.name<i)))))/\Mod [] w w':=by
 obtain ⟨rfl,h0,h1,h2,h3⟩:=h;have hlk:=hm.first (List.mem_of_getElem? hx)
 have T:=Hi (own1 w #[.string x.name,.int .i64 x.min,.int .i64 x.dflt,.int .i64 x.max] 76);have AN:=fun W (m:Mod [] _ W)=>(m.cell (cell_lt ((T.out.mod.cell (p:=⟨nb,0,none⟩) (cell_lt hn) (by simp)).trans hn)) (by simp)).trans ((T.out.mod.cell (p:=⟨nb,0,none⟩) (cell_lt hn) (by simp)).trans hn)
 have hz:∀ W:World,(zeroValue 3).run Tryz.prog W=.ok (.int .i64 0) W:=fun W=>by kernel_rfl
 have AL:=fun W (m:Mod [] (w.alloc (.cells #[.string x.name,.int .i64 x.min,.int .i64 x.dflt,.int .i64 x.max] 76)) W)=>(Gm.run_look strKey ((hG.mod T.out.mod (by simp)).mod m (by simp)) Tryz.underlying89 (hz W) x.name false)
 simp only [Bool.false_eq_true,if_false,hlk] at AL;generalize Ck.firstOf DAxis.name l x.name=f at *
 have HN:=Hi (fun W=>isName_any x.name h0 W);generalize Ck.isName x.name=r at *
 have e1:decide ((f:Int)<(i:Int))=decide (f<i):=by rw [Bool.eq_iff_iff];simp
 generalize hq:decide (f<i)=q at *
 have HNF:=Hi (fun W=>nameFault_any r q W);generalize Ck.name r q=nm at *
 have HA:=Hi (fun W=>axis_any x.name x.min x.dflt x.max nm h1 h2 h3 W);obtain ⟨xn,xmi,xd,xma⟩:=x;simp only at *
 generalize Ck.axis ⟨xn,xmi,xd,xma⟩ nm=D at *
 clear hx hm hG hn h0 h1 h2 h3 hlk;go_enter Tryz.func67,Tryz.ntmps67;go_upto_region 1 with fail;generalize w.alloc (.cells #[.string xn,.int .i64 xmi,.int .i64 xd,.int .i64 xma] 76)=W0 at *
 have AF:=(T.out.at 0 rfl).every;refine wp_region_mask 12 [true,true,true,true,true,true,true,true,true,true,true,true] [] (by kernel_rfl) (by kernel_rfl) (by simp) ?_;simp only [pickM]
 iterate 3
  refine sv ?_
 refine sc (a':=?_) (fun w' hw' K Q hK=>?_) ?_ ?_;rotate_left
 ·go_wp2_with fail;refine ((calls_same HN.out) _ hw').mono ?_;rintro e w'' ⟨rfl,m''⟩;go_wp2;exact hK _ m''
 ·rfl
 iterate 6
  refine sv ?_
 refine sc (a':=?_) (fun w' hw' K Q hK=>?_) ?_ ?_;rotate_left
 ·go_wp2_with fail;refine ((calls_same HNF.out) _ hw').mono ?_;rintro e w'' ⟨rfl,m''⟩;go_wp2;exact hK _ m''
 ·rfl
 refine sc (a':=?_) (fun w' hw' K Q hK=>?_) ?_ ?_;rotate_left
 ·go_wp2_with fail;refine ((calls_mod HA.out) _ hw').mono ?_;rintro e w'' ⟨rfl,m''⟩;go_wp2;exact hK _ m''
 ·rfl
 refine steady_done ?_;refine lates_end (fun w' hw' _=>?_);simp only [qS,qZ];go_wp2;go_ret;exact ⟨rfl,T.out.mod.then hw'⟩
def AncFn (N0:Nat) (mark:Bool) (v:Value) (w:World):Prop:=∃ b2 b3 mb t2 t3,v=.func (.func 143) #[] #[.pointer (some ⟨b2,0,none⟩),.pointer (some ⟨b3,0,none⟩)]/\N0<=mb/\Blk w b2 #[.bool mark] t2/\Blk w b3 #[.map (some mb)] t3/\Gm.GMap encH w mb []
theorem AncFn.stays {N0:Nat} {mark:Bool} {v:Value}:Stays (AncFn N0 mark v):=fun w w' ⟨b2,b3,mb,t2,t3,h,hn,h1,h2,h3⟩ m=>⟨b2,b3,mb,t2,t3,h,hn,h1.kept m (by simp),h2.kept m (by simp),h3.mod m (by simp)⟩
def DelFn (N0:Nat) (regions points:Int) (v:Value) (w:World):Prop:=∃ b2 b3 b4 t2 t3,v=.func (.func 146) #[] #[.pointer (some ⟨b2,0,none⟩),.pointer (some ⟨b3,0,none⟩),.pointer (some ⟨b4,0,none⟩)]/\N0<=b4/\Blk w b2 #[.int .i64 regions] t2/\Blk w b3 #[.int .i64 points] t3/\Blk w b4 #[.int .i64 0,.int .i64 0] 191
theorem DelFn.stays {N0:Nat} {r p:Int} {v:Value}:Stays (DelFn N0 r p v):=fun w w' ⟨b2,b3,b4,t2,t3,h,hn,h1,h2,h3⟩ m=>⟨b2,b3,b4,t2,t3,h,hn,h1.kept m (by simp),h2.kept m (by simp),h3.kept m (by simp)⟩
def AncLk (N0:Nat) (mark:Bool) (sl:Value) (v:Value) (w:World):Prop:=∃ v2,AncFn N0 mark v2 w/\LookFn 141 sl (.int .i64 ((16:Nat):Int)) v2 v w
theorem AncLk.stays {N0:Nat} {mark:Bool} {sl v:Value}:Stays (AncLk N0 mark sl v):=fun w w' ⟨v2,h1,h2⟩ m=>⟨v2,AncFn.stays _ _ h1 m,LookFn.stays _ _ h2 m⟩
def DelLk (N0:Nat) (r p:Int) (sl:Value) (v:Value) (w:World):Prop:=∃ v2,DelFn N0 r p v2 w/\LookFn 144 sl (.int .i64 ((400:Nat):Int)) v2 v w
theorem DelLk.stays {N0:Nat} {r p:Int} {sl v:Value}:Stays (DelLk N0 r p sl v):=fun w w' ⟨v2,h1,h2⟩ m=>⟨v2,DelFn.stays _ _ h1 m,LookFn.stays _ _ h2 m⟩
theorem AncFn.elim {N0:Nat} {mark:Bool} {v:Value} {w:World} {C:Prop} (h:AncFn N0 mark v w) (k:∀ b2 b3,v=.func (.func 143) #[] #[.pointer (some ⟨b2,0,none⟩),.pointer (some ⟨b3,0,none⟩)]->AncFn N0 mark (.func (.func 143) #[] #[.pointer (some ⟨b2,0,none⟩),.pointer (some ⟨b3,0,none⟩)]) w->C):C:=by
 have h':=h;obtain ⟨b2,b3,_,_,_,rfl,-⟩:=h';exact k b2 b3 rfl h
theorem DelFn.elim {N0:Nat} {r p:Int} {v:Value} {w:World} {C:Prop} (h:DelFn N0 r p v w) (k:∀ b2 b3 b4,v=.func (.func 146) #[] #[.pointer (some ⟨b2,0,none⟩),.pointer (some ⟨b3,0,none⟩),.pointer (some ⟨b4,0,none⟩)]->DelFn N0 r p (.func (.func 146) #[] #[.pointer (some ⟨b2,0,none⟩),.pointer (some ⟨b3,0,none⟩),.pointer (some ⟨b4,0,none⟩)]) w->C):C:=by
 have h':=h;obtain ⟨b2,b3,b4,_,_,rfl,-⟩:=h';exact k b2 b3 b4 rfl h
theorem reK {f:Nat} {a:Array Value} {w:World} {T:Value->World->Prop} (h:Calls Tryz.prog f a w fun e w'=>(∃ v,e=.returned v/\T v w')/\Mod [] w w'):Calls Tryz.prog f a w fun e w'=>∃ v,e=.returned v/\T v w'/\Mod [] w w' :=
 h.mono fun _ _ ⟨⟨v,h1,h2⟩,h3⟩=>⟨v,h1,h2,h3⟩
theorem anchors_k (N0:Nat) (mark:Bool) (w:World) (hn:N0<=w.heap.size):Calls Tryz.prog 89 #[.bool mark] w fun e w'=>∃ v,e=.returned v/\AncFn N0 mark v w'/\Mod [] w w' :=
 (anchors_any mark w).mono fun _ _ ⟨⟨b2,b3,mb,t2,t3,h1,h2,h3,h4,h5,_,_⟩,m⟩=>⟨_,h1,⟨b2,b3,mb,t2,t3,rfl,nT hn h2,h3,h4,h5⟩,m⟩
theorem deltas_k (N0:Nat) (r p:Int) (w:World) (hn:N0<=w.heap.size):Calls Tryz.prog 91 #[.int .i64 r,.int .i64 p] w fun e w'=>∃ v,e=.returned v/\DelFn N0 r p v w'/\Mod [] w w' :=
 (deltas_any r p w).mono fun _ _ ⟨⟨b2,b3,b4,t2,t3,h1,h2,h3,h4,h5,_,_⟩,m⟩=>⟨_,h1,⟨b2,b3,b4,t2,t3,rfl,nT hn h2,h3,h4,h5⟩,m⟩
theorem ancLk_k {N0:Nat} {mark:Bool} {w:World} {b2 b3:Nat} {o:Option Addr} {n c:Nat} (h:AncFn N0 mark (.func (.func 143) #[] #[.pointer (some ⟨b2,0,none⟩),.pointer (some ⟨b3,0,none⟩)]) w) :
  Calls Tryz.prog 88 #[.slice o n c,.int .i64 16,.func (.func 143) #[] #[.pointer (some ⟨b2,0,none⟩),.pointer (some ⟨b3,0,none⟩)]] w fun e w'=>∃ v,e=.returned v/\AncLk N0 mark (.slice o n c) v w'/\Mod [] w w' :=
 (some_Anchor o n c 16 143 _ w).mono fun _ _ ⟨⟨v,h1,h2⟩,m⟩=>⟨v,h1,⟨_,AncFn.stays _ _ h m,h2⟩,m⟩
theorem delLk_k {N0:Nat} {r p:Int} {w:World} {b2 b3 b4:Nat} {o:Option Addr} {n c:Nat} (h:DelFn N0 r p (.func (.func 146) #[] #[.pointer (some ⟨b2,0,none⟩),.pointer (some ⟨b3,0,none⟩),.pointer (some ⟨b4,0,none⟩)]) w) :
  Calls Tryz.prog 90 #[.slice o n c,.int .i64 400,.func (.func 146) #[] #[.pointer (some ⟨b2,0,none⟩),.pointer (some ⟨b3,0,none⟩),.pointer (some ⟨b4,0,none⟩)]] w fun e w'=>∃ v,e=.returned v/\DelLk N0 r p (.slice o n c) v w'/\Mod [] w w' :=
 (some_Delta o n c 400 146 _ w).mono fun _ _ ⟨⟨v,h1,h2⟩,m⟩=>⟨v,h1,⟨_,DelFn.stays _ _ h m,h2⟩,m⟩
set_option maxRecDepth 100000 in
theorem glyph_any (u:Int) (fg fc fl ff fx fr fn fv:Hd) (cs:List Value) (g:DGlyph) (nm:Int) (B:Nat) (w:World) (h:RGlyph B w cs g) :
  Calls Tryz.prog 27 #[.agg (fontCells u fg fc fl ff fx fr fn fv),.agg cs.toArray,.int .i64 nm] w fun e w'=>e=.returned (.int .i64 (Ck.glyph fg.n fr.n g nm))/\Mod [] w w':=by
 have HR:=Hi h;obtain ⟨v3,v4,v5,v6,v7,v8,rfl,-,-,h3,h4,h5,h6,h7,h8⟩:=h;obtain ⟨o3,d3,rfl,-⟩:=h3.form;obtain ⟨o4,d4,rfl,-⟩:=h4.form;obtain ⟨o5,d5,rfl,-⟩:=h5.form;obtain ⟨o6,d6,rfl,-⟩:=h6.form;obtain ⟨o7,d7,rfl,-⟩:=h7.form;obtain ⟨o8,d8,rfl,-⟩:=h8.form;have T:=Hi (own3 w (fontCells u fg fc fl ff fx fr fn fv) 32 #[.string g.name,.int .i64 g.adv,.bool g.mark,.slice o3 g.pts.length d3,.slice o4 g.ends.length d4,.slice o5 g.parts.length d5,.slice o6 g.anchors.length d6,.slice o7 g.deltas.length d7,.slice o8 g.hint.length d8] 46 #[.int .i64 nm] 61);have H5:=Hi (h5.mod RPart.stay T.out.mod);have H6:=Hi (h6.mod RAnchor.stay T.out.mod);have H7:=Hi (h7.mod RDelta.stay T.out.mod);clear h3 h4 h5 h6 h7 h8;have HRW:=Hi (RGlyph.stay _ _ _ _ _ HR.out (T.out.mod.above B));unfold fontCells at T H5 H6 H7 HRW ⊢;go_enter Tryz.func27,Tryz.ntmps27;go_upto_region 1 with fail;generalize ((w.alloc (.cells #[.int .i64 u,.slice fg.a fg.n fg.c,.slice fc.a fc.n fc.c,.slice fl.a fl.n fl.c,.slice ff.a ff.n ff.c,.slice fx.a fx.n fx.c,.slice fr.a fr.n fr.c,.slice fn.a fn.n fn.c,.slice fv.a fv.n fv.c] 32)).alloc (.cells #[.string g.name,.int .i64 g.adv,.bool g.mark,.slice o3 g.pts.length d3,.slice o4 g.ends.length d4,.slice o5 g.parts.length d5,.slice o6 g.anchors.length d6,.slice o7 g.deltas.length d7,.slice o8 g.hint.length d8] 46)).alloc (.cells #[.int .i64 nm] 61)=W0 at *
 have hmf:∀ (fn:Fn) (first cap:Array Value) (w:World),(Instr.makeFunc fn first cap).run Tryz.prog w=.ok (.func fn first cap) w:=fun _ _ _ _=>rfl
 have AF:=(T.out.at 0 rfl).every;have AG:=(T.out.at 1 rfl).every;have AE:=(T.out.at 2 rfl).every;refine Ch.wp_region_chain [(28,27),(29,28)] ?l'1 24 [true,true,true,true,true,false,true,true,true,true,false,false,true,true,true,true,true,true,true,true,true,false,false,true] [(5,LookFn 139 (.slice o5 g.parts.length d5) (.int .i64 ((8:Nat):Int)) (.func (.func 86) #[] #[.pointer (some ⟨w.heap.size,0,none⟩)])),(10,AncFn W0.heap.size g.mark),(11,AncLk W0.heap.size g.mark (.slice o6 g.anchors.length d6)),(21,DelFn W0.heap.size (fr.n:Int) (g.pts.length:Int)),(22,DelLk W0.heap.size (fr.n:Int) (g.pts.length:Int) (.slice o7 g.deltas.length d7))] [] (by kernel_rfl) ?hl1 ?hB1 ?hT1 ?hsl1 ?hAl1 ?hQ1 ?main1
 case hl1=>simp only [Ch.waitsFor,waitFor,List.modify_succ_cons,List.modify_zero_cons];exact rfl
 case hB1=>kernel_rfl
 case hT1=>simp [AncFn.stays,AncLk.stays,DelFn.stays,DelLk.stays,LookFn.stays]
 case hsl1=>kernel_rfl
 case hAl1=>(intro i hi;cases hi)
 case hQ1=>(intro _ _ d _ _ h;cases d <;> exact h)
 simp only [pickM]
 iterate 19
  refine sv ?_
 refine steady_done ?_;refine Ch.chain_go (f:=?_) rfl rfl (fun v=>by simp only [Act.put];(try simp only [List.setIfInBounds_toArray]);(try simp only [List.set_cons_succ,List.set_cons_zero]);exact rfl) (fun w' hw' hF K Q hK=>?_) (fun kv1=>?_)
 ·clear hF;go_wp2_with fail;refine (reK (some_Part o5 _ d5 8 86 _ w')).mono ?_;rintro e w'' ⟨v,rfl,hv,mm⟩;go_wp2;exact hK _ _ mm hv
 refine Ch.chain_go (f:=?_) rfl rfl (fun v=>by simp only [Act.put];(try simp only [List.setIfInBounds_toArray]);(try simp only [List.set_cons_succ,List.set_cons_zero]);exact rfl) (fun w' hw' hF K Q hK=>?_) (fun kv2=>?_)
 ·clear hF;go_wp2_with fail;refine (anchors_k W0.heap.size g.mark w' hw'.size).mono ?_;rintro e w'' ⟨v,rfl,hv,mm⟩;go_wp2;exact hK _ _ mm hv
 refine Ch.chain_go (f:=?_) rfl rfl (fun v=>by simp only [Act.put];(try simp only [List.setIfInBounds_toArray]);(try simp only [List.set_cons_succ,List.set_cons_zero]);exact rfl) (fun w' hw' hF K Q hK=>?_) (fun kv3=>?_)
 ·refine AncFn.elim (hF.2) (fun ab am he hA=>?_);subst he;clear hF;go_wp2_with fail;refine (ancLk_k hA).mono ?_;rintro e w'' ⟨v,rfl,hv,mm⟩;go_wp2;exact hK _ _ mm hv
 refine Ch.chain_go (f:=?_) rfl rfl (fun v=>by simp only [Act.put];(try simp only [List.setIfInBounds_toArray]);(try simp only [List.set_cons_succ,List.set_cons_zero]);exact rfl) (fun w' hw' hF K Q hK=>?_) (fun kv4=>?_)
 ·clear hF;go_wp2_with fail;refine (deltas_k W0.heap.size (fr.n:Int) (g.pts.length:Int) w' hw'.size).mono ?_;rintro e w'' ⟨v,rfl,hv,mm⟩;go_wp2;exact hK _ _ mm hv
 refine Ch.chain_go (f:=?_) rfl rfl (fun v=>by simp only [Act.put];(try simp only [List.setIfInBounds_toArray]);(try simp only [List.set_cons_succ,List.set_cons_zero]);exact rfl) (fun w' hw' hF K Q hK=>?_) (fun kv5=>?_)
 ·refine DelFn.elim (hF.2) (fun dr dp da he hD=>?_);subst he;clear hF;go_wp2_with fail;refine (delLk_k hD).mono ?_;rintro e w'' ⟨v,rfl,hv,mm⟩;go_wp2;exact hK _ _ mm hv
 refine Ch.chain_end ?_;refine lates_end (fun hD w' hw' hF=>?_);simp only [qS,qZ];obtain ⟨⟨⟨⟨⟨-,h1⟩,-⟩,⟨v2,h2,h3⟩⟩,-⟩,⟨v4,h4,h5⟩⟩:=hF;have H1:=Hi h1;have H23:=Hi (And.intro h2 h3);have H45:=Hi (And.intro h4 h5);obtain ⟨p0,p1,p2,_,_,_,rfl,-⟩:=h1;obtain ⟨a0,a1,a2,_,_,_,rfl,-⟩:=h3;obtain ⟨e0,e1,e2,_,_,_,rfl,-⟩:=h5;have HW:=Hi hw';clear h2 h4 hw' hD AF AG AE hmf;go_wp2_with fail;obtain ⟨ab,am,mb,tb,tm,rfl,hn,B2,B3,G⟩:=H23.out.1;obtain ⟨dr,dp,da,tr,tp,rfl,hn4,C2,C3,C4⟩:=H45.out.1
 have al:Mod [] w' (w'.alloc (.cells #[.func (.func 82) #[] #[.pointer (some ⟨w.heap.size+1+1,0,none⟩)],.func (.func 83) #[] #[.pointer (some ⟨w.heap.size+1,0,none⟩)],.func (.func 139) #[] #[.pointer (some ⟨p0,0,none⟩),.pointer (some ⟨p1,0,none⟩),.pointer (some ⟨p2,0,none⟩)],
  .func (.func 141) #[] #[.pointer (some ⟨a0,0,none⟩),.pointer (some ⟨a1,0,none⟩),.pointer (some ⟨a2,0,none⟩)],.func (.func 144) #[] #[.pointer (some ⟨e0,0,none⟩),.pointer (some ⟨e1,0,none⟩),.pointer (some ⟨e2,0,none⟩)],.func (.func 92) #[] #[.pointer (some ⟨w.heap.size+1,0,none⟩)]] 117)):=mR.alloc _
 have hW:=HW.out.then al
 refine (glyph_first (u:=u) (fg:=fg) (fc:=fc) (fl:=fl) (ff:=ff) (fx:=fx) (fr:=fr) (fn:=fn) (fv:=fv) (g:=g) (nm:=nm) (W0:=W0) (B:=B) (mb:=mb) (da:=da)
  ⟨hW,hn,hn4,⟨_,(T.out.at 0 rfl).kept hW (by simp)⟩,⟨_,_,(T.out.at 1 rfl).kept hW (by simp),HRW.out⟩,⟨_,(T.out.at 2 rfl).kept hW (by simp)⟩,⟨o5,d5,LookFn.stays _ _ H1.out al,H5.out⟩,⟨o6,d6,LookFn.stays _ _ H23.out.2 al,H6.out⟩,⟨o7,d7,LookFn.stays _ _ H45.out.2 al,H7.out⟩,
   ⟨_,B2.kept al (by simp)⟩,⟨_,B3.kept al (by simp)⟩,G.mod al (by simp),⟨_,C2.kept al (by simp)⟩,⟨_,C3.kept al (by simp)⟩,C4.kept al (by simp)⟩ w'.heap.size _ _ (Blk.new w' _ _)).mono ?_
 rintro e w'' ⟨rfl,M⟩;have HM:=Hi (T.out.mod.then (hW.trans (l:=[]) M fun x hx hlt=>by simp at hx;rcases hx with rfl | rfl <;> omega));clear M al hW B2 B3 G C2 C3 C4 H1 H23 H45 H5 H6 H7 HRW T HR HW;go_wp2;go_ret;exact ⟨rfl,HM.out⟩
theorem F5_any (u:Int) (fg fc fl ff fx fr fn fv:Hd) (i:Nat) (x:DGlyph) (l:List DGlyph) (cs:List Value) (B fb nb b:Nat) (m:List (ByteArray×Value)) (w:World) (hx:l[i]?=some x) (h:RGlyph B w cs x) (hF:FoBox u fg fc fl ff fx fr fn fv fb w) (hn:w.cell? ⟨nb,0,none⟩=some (.map (some b))) (hG:Gm.GMap Value.string w b m) (hm:FM (l.map DGlyph.name) l.length m) :
  Calls Tryz.prog 54 #[.int .i64 (i:Int),.agg cs.toArray,.pointer (some ⟨fb,0,none⟩),.pointer (some ⟨nb,0,none⟩)] w fun e w'=>e=.returned (.int .i64 (Ck.glyph fg.n fr.n x (Ck.name (Ck.isName x.name) (decide (Ck.firstOf DGlyph.name l x.name<i)))))/\Mod [] w w':=by
 have hh:=h;obtain ⟨v3,v4,v5,v6,v7,v8,rfl,h0,-⟩:=h;have hlk:=hm.first (List.mem_of_getElem? hx)
 have T:=Hi (own1 w #[.string x.name,.int .i64 x.adv,.bool x.mark,v3,v4,v5,v6,v7,v8] 46);have AN:=fun W (m:Mod [] _ W)=>(m.cell (cell_lt ((T.out.mod.cell (p:=⟨nb,0,none⟩) (cell_lt hn) (by simp)).trans hn)) (by simp)).trans ((T.out.mod.cell (p:=⟨nb,0,none⟩) (cell_lt hn) (by simp)).trans hn)
 have hz:∀ W:World,(zeroValue 3).run Tryz.prog W=.ok (.int .i64 0) W:=fun W=>by kernel_rfl
 have AL:=fun W (m:Mod [] (w.alloc (.cells #[.string x.name,.int .i64 x.adv,.bool x.mark,v3,v4,v5,v6,v7,v8] 46)) W)=>(Gm.run_look strKey ((hG.mod T.out.mod (by simp)).mod m (by simp)) Tryz.underlying89 (hz W) x.name false)
 simp only [Bool.false_eq_true,if_false,hlk] at AL;generalize Ck.firstOf DGlyph.name l x.name=f at *
 have HN:=Hi (fun W=>isName_any x.name h0 W);generalize Ck.isName x.name=r at *
 have e1:decide ((f:Int)<(i:Int))=decide (f<i):=by rw [Bool.eq_iff_iff];simp
 generalize hq:decide (f<i)=q at *
 have HNF:=Hi (fun W=>nameFault_any r q W);generalize Ck.name r q=nm at *
 have HA:=Hi (fun W (m:Mod [] (w.alloc (.cells #[.string x.name,.int .i64 x.adv,.bool x.mark,v3,v4,v5,v6,v7,v8] 46)) W)=>glyph_any u fg fc fl ff fx fr fn fv _ x nm B W (RGlyph.stay _ _ _ _ _ hh ((T.out.mod.then m).above B)));generalize Ck.glyph fg.n fr.n x nm=D at *
 obtain ⟨tf,hfb⟩:=hF;have AFo:=(hfb.kept T.out.mod (by simp)).every;unfold fontCells at AFo HA;generalize x.name=xn at *
 clear hx hm hG hn h0 hlk hh hfb;go_enter Tryz.func54,Tryz.ntmps54;go_upto_region 1 with fail;generalize w.alloc (.cells #[.string xn,.int .i64 x.adv,.bool x.mark,v3,v4,v5,v6,v7,v8] 46)=W0 at *
 have AF:=(T.out.at 0 rfl).every;refine wp_region_mask 13 [true,true,true,true,true,true,true,true,true,true,true,true,true] [] (by kernel_rfl) (by kernel_rfl) (by simp) ?_;simp only [pickM]
 iterate 4
  refine sv ?_
 refine sc (a':=?_) (fun w' hw' K Q hK=>?_) ?_ ?_;rotate_left
 ·go_wp2_with fail;refine ((calls_same HN.out) _ hw').mono ?_;rintro e w'' ⟨rfl,m''⟩;go_wp2;exact hK _ m''
 ·rfl
 iterate 6
  refine sv ?_
 refine sc (a':=?_) (fun w' hw' K Q hK=>?_) ?_ ?_;rotate_left
 ·go_wp2_with fail;refine ((calls_same HNF.out) _ hw').mono ?_;rintro e w'' ⟨rfl,m''⟩;go_wp2;exact hK _ m''
 ·rfl
 refine sc (a':=?_) (fun w' hw' K Q hK=>?_) ?_ ?_;rotate_left
 ·go_wp2_with fail;refine ((fun W m=>HA.out W m) _ hw').mono ?_;rintro e w'' ⟨rfl,m''⟩;go_wp2;exact hK _ m''
 ·rfl
 refine steady_done ?_;refine lates_end (fun w' hw' _=>?_);simp only [qS,qZ];go_wp2;go_ret;exact ⟨rfl,T.out.mod.then hw'⟩
theorem F9_any (u:Int) (fg fc fl ff fx fr fn fv:Hd) (i:Nat) (x:DFeature) (l:List DFeature) (cs:List Value) (B fb nb b:Nat) (m:List (ByteArray×Value)) (w:World) (hx:l[i]?=some x) (h:RFeature B w cs x) (hF:FoBox u fg fc fl ff fx fr fn fv fb w) (hn:w.cell? ⟨nb,0,none⟩=some (.map (some b))) (hG:Gm.GMap Value.string w b m) (hm:FM (l.map DFeature.name) l.length m) :
  Calls Tryz.prog 63 #[.int .i64 (i:Int),.agg cs.toArray,.pointer (some ⟨fb,0,none⟩),.pointer (some ⟨nb,0,none⟩)] w fun e w'=>e=.returned (.int .i64 (Ck.feature fl.n x (Ck.name (Ck.isLetters x.name) (decide (Ck.firstOf DFeature.name l x.name<i)))))/\Mod [] w w':=by
 have hh:=h;obtain ⟨v1,rfl,h0,-⟩:=h;have hlk:=hm.first (List.mem_of_getElem? hx)
 have T:=Hi (own1 w #[.string x.name,v1] 88);have AN:=fun W (m:Mod [] _ W)=>(m.cell (cell_lt ((T.out.mod.cell (p:=⟨nb,0,none⟩) (cell_lt hn) (by simp)).trans hn)) (by simp)).trans ((T.out.mod.cell (p:=⟨nb,0,none⟩) (cell_lt hn) (by simp)).trans hn)
 have hz:∀ W:World,(zeroValue 3).run Tryz.prog W=.ok (.int .i64 0) W:=fun W=>by kernel_rfl
 have AL:=fun W (m:Mod [] (w.alloc (.cells #[.string x.name,v1] 88)) W)=>(Gm.run_look strKey ((hG.mod T.out.mod (by simp)).mod m (by simp)) Tryz.underlying89 (hz W) x.name false)
 simp only [Bool.false_eq_true,if_false,hlk] at AL;generalize Ck.firstOf DFeature.name l x.name=f at *
 have HN:=Hi (fun W=>isLetters_any x.name h0 W);generalize Ck.isLetters x.name=r at *
 have e1:decide ((f:Int)<(i:Int))=decide (f<i):=by rw [Bool.eq_iff_iff];simp
 generalize hq:decide (f<i)=q at *
 have HNF:=Hi (fun W=>nameFault_any r q W);generalize Ck.name r q=nm at *
 have HA:=Hi (fun W (m:Mod [] (w.alloc (.cells #[.string x.name,v1] 88)) W)=>feature_any u fg fc fl ff fx fr fn fv _ x nm B W (RFeature.stay _ _ _ _ _ hh ((T.out.mod.then m).above B)));generalize Ck.feature fl.n x nm=D at *
 obtain ⟨tf,hfb⟩:=hF;have AFo:=(hfb.kept T.out.mod (by simp)).every;unfold fontCells at AFo HA;generalize x.name=xn at *
 clear hx hm hG hn h0 hlk hh hfb;go_enter Tryz.func63,Tryz.ntmps63;go_upto_region 1 with fail;generalize w.alloc (.cells #[.string xn,v1] 88)=W0 at *
 have AF:=(T.out.at 0 rfl).every;refine wp_region_mask 13 [true,true,true,true,true,true,true,true,true,true,true,true,true] [] (by kernel_rfl) (by kernel_rfl) (by simp) ?_;simp only [pickM]
 iterate 4
  refine sv ?_
 refine sc (a':=?_) (fun w' hw' K Q hK=>?_) ?_ ?_;rotate_left
 ·go_wp2_with fail;refine ((calls_same HN.out) _ hw').mono ?_;rintro e w'' ⟨rfl,m''⟩;go_wp2;exact hK _ m''
 ·rfl
 iterate 6
  refine sv ?_
 refine sc (a':=?_) (fun w' hw' K Q hK=>?_) ?_ ?_;rotate_left
 ·go_wp2_with fail;refine ((calls_same HNF.out) _ hw').mono ?_;rintro e w'' ⟨rfl,m''⟩;go_wp2;exact hK _ m''
 ·rfl
 refine sc (a':=?_) (fun w' hw' K Q hK=>?_) ?_ ?_;rotate_left
 ·go_wp2_with fail;refine ((fun W m=>HA.out W m) _ hw').mono ?_;rintro e w'' ⟨rfl,m''⟩;go_wp2;exact hK _ m''
 ·rfl
 refine steady_done ?_;refine lates_end (fun w' hw' _=>?_);simp only [qS,qZ];go_wp2;go_ret;exact ⟨rfl,T.out.mod.then hw'⟩
theorem F7_any (u:Int) (fg fc fl ff fx fr fn fv:Hd) (i:Nat) (x:DChar) (l:List DChar) (cs:List Value) (B fb:Nat) (w:World) (hx:l[i]?=some x) (h:RChar B w cs x) (hC:Rows 2 RChar B w (.slice fc.a fc.n fc.c) l) (hF:FoBox u fg fc fl ff fx fr fn fv fb w) :
  Calls Tryz.prog 58 #[.int .i64 (i:Int),.agg cs.toArray,.pointer (some ⟨fb,0,none⟩)] w fun e w'=>e=.returned (.int .i64 (Ck.char fg.n x (Ck.late l i x)))/\Mod [] w w':=by
 obtain ⟨rfl,-,-⟩:=h;have T:=Hi (own1 w #[.int .i64 x.rune,.int .i64 x.glyph] 37);have hil:i<l.length:=(gI.1 hx).1;obtain ⟨ca,cn,cc⟩:=fc;simp only at hC;obtain ⟨_,_,he,hml⟩:=hC.form;have hn:cn=l.length:=by cases he;rfl
 obtain ⟨tf,hfb⟩:=hF;have HC:=Hi (hC.mod RChar.stay T.out.mod);subst hn;have AFo:=(hfb.kept T.out.mod (by simp)).every;have HCH:=Hi (fun late W=>char_any u fg ⟨ca,l.length,cc⟩ fl ff fx fr fn fv x.rune x.glyph late W);obtain ⟨xr,xg⟩:=x;simp only at HCH T HC AFo ⊢;obtain ⟨D,hD⟩:∃ D,Ck.late l i ⟨xr,xg⟩=D:=⟨_,rfl⟩
 rw [hD];have HD:=Hi hD;clear hD hfb hC he hx;unfold Ck.late at HD;have hml':l.length<=9223372036854775807:=hml
 by_cases h0:0<i
 case neg =>
  obtain rfl:i=0:=by omega
  obtain rfl:false=D:=HD.out;have k1:decide ((0:Int)<((0:Nat):Int))=false:=by decide
  unfold fontCells at AFo HCH;clear HD h0 hml hml' HC hil;go_enter Tryz.func58,Tryz.ntmps58;go_upto_region 1 with fail;generalize w.alloc (.cells #[.int .i64 xr,.int .i64 xg] 37)=W0 at *
  have AF:=(T.out.at 0 rfl).every;refine wp_region_mask 17 [true,true,true,true,true,true,true,true,true,true,true,true,true,true,true,true,true] [] (by kernel_rfl) (by kernel_rfl) (by simp) ?_;simp only [pickM]
  iterate 5
   refine sv ?_
  refine steady_pass (by kernel_rfl) (by kernel_rfl) ?_;refine steady_pass (by kernel_rfl) (by kernel_rfl) ?_;refine steady_pass (by kernel_rfl) (by kernel_rfl) ?_;refine steady_pass (by kernel_rfl) (by kernel_rfl) ?_;refine steady_pass (by kernel_rfl) (by kernel_rfl) ?_;refine steady_pass (by kernel_rfl) (by kernel_rfl) ?_;refine steady_pass (by kernel_rfl) (by kernel_rfl) ?_;refine steady_pass (by kernel_rfl) (by kernel_rfl) ?_;refine steady_pass (by kernel_rfl) (by kernel_rfl) ?_;refine steady_pass (by kernel_rfl) (by kernel_rfl) ?_;refine sv ?_;refine sc (a':=?_) (fun w' hw' K Q hK=>?_) ?_ ?_;rotate_left
  ·go_wp2_with fail;refine ((calls_mod (HCH.out false)) _ hw').mono ?_;rintro e w'' ⟨rfl,m''⟩;go_wp2;exact hK _ m''
  ·rfl
  refine steady_done ?_;refine lates_end (fun w' hw' _=>?_);simp only [qS,qZ];go_wp2;go_ret;exact ⟨rfl,T.out.mod.then hw'⟩
 have k1:decide ((0:Int)<(i:Int))=true:=dT (by omega);have k2:decide (0<i)=true:=dT h0;have hj:i - 1<l.length:=by omega
 have ej:IntKind.i64.wrap ((i:Int) - 1)=((i - 1:Nat):Int):=by rw [show (i:Int) - 1=((i - 1:Nat):Int) by omega];exact IntWalk.i64_in _ (by omega)
 rw [k2,gE hj,Bool.true_and] at HD;simp only at HD;obtain ⟨a,rfl,-,cs,-,hc0,hcj,rfl,-⟩:=HC.out.at (i - 1) hj;have a0:=hc0 (by decide);simp only [gZ] at a0;have A0:=fun W (m:Mod [] _ W)=>(m.cell (cell_lt a0) (by simp)).trans a0
 have k4:(0:Int)<=((i - 1:Nat):Int):=by omega
 have k5:((i - 1:Nat):Int)<(l.length:Int):=by omega
 generalize l[i - 1]=y at *
 generalize i - 1=j at *
 have k6:=HD.out;unfold fontCells at AFo HCH;clear HD h0 hml hml' HC hil hc0 hcj a0 hj;go_enter Tryz.func58,Tryz.ntmps58;go_upto_region 1 with fail;generalize w.alloc (.cells #[.int .i64 xr,.int .i64 xg] 37)=W0 at *
 have AF:=(T.out.at 0 rfl).every;refine wp_region_mask 17 [true,true,true,true,true,true,true,true,true,true,true,true,true,true,true,true,true] [] (by kernel_rfl) (by kernel_rfl) (by simp) ?_;simp only [pickM]
 iterate 16
  refine sv ?_
 refine sc (a':=?_) (fun w' hw' K Q hK=>?_) ?_ ?_;rotate_left
 ·go_wp2_with fail;refine ((calls_mod (HCH.out D)) _ hw').mono ?_;rintro e w'' ⟨rfl,m''⟩;go_wp2;exact hK _ m''
 ·rfl
 refine steady_done ?_;refine lates_end (fun w' hw' _=>?_);simp only [qS,qZ];go_wp2;go_ret;exact ⟨rfl,T.out.mod.then hw'⟩
theorem fontLook_Glyph {B fb nb b n c b0 b1 b2:Nat} {oa:Option Addr} {l:List DGlyph} {lk:List DLookup} {m:List (ByteArray×Value)} {w:World} (u:Int) (fg fc fl ff fx fr fn fv:Hd) (hF:FoBox u fg fc fl ff fx fr fn fv fb w) (hn:w.cell? ⟨nb,0,none⟩=some (.map (some b))) (hG:Gm.GMap Value.string w b m) (hm:FM (l.map DGlyph.name) l.length m) (hr:Rows 9 RGlyph B w (.slice oa n c) l)
  (hb:w.cell? ⟨b0,0,none⟩=some (.slice oa n c)/\w.cell? ⟨b1,0,none⟩=some (.int .i64 ((400:Nat):Int))/\w.cell? ⟨b2,0,none⟩=some (.func (.func 54) #[] #[.pointer (some ⟨fb,0,none⟩),.pointer (some ⟨nb,0,none⟩)])) :
  Calls Tryz.prog 108 #[.pointer (some ⟨b0,0,none⟩),.pointer (some ⟨b1,0,none⟩),.pointer (some ⟨b2,0,none⟩)] w fun e w'=>e=.returned (.tuple #[.int .i64 (Ck.some 400 (fun i x=>Ck.glyph fg.n fr.n x (Ck.name (Ck.isName x.name) (decide (Ck.firstOf DGlyph.name l x.name<i)))) l).1,.int .i64 ((Ck.some 400 (fun i x=>Ck.glyph fg.n fr.n x (Ck.name (Ck.isName x.name) (decide (Ck.firstOf DGlyph.name l x.name<i)))) l).2:Int)])/\Mod [] w w':=by
 have NM:∀ {W:World},Mod [] w W->W.cell? ⟨nb,0,none⟩=some (.map (some b)):=fun mW=>(mW.cell (p:=⟨nb,0,none⟩) (cell_lt hn) (by simp)).trans hn
 exact look_Glyph (F:=[]) (J:=fun _ W=>Mod [] w W) (fn:=54) (caps:=#[.pointer (some ⟨fb,0,none⟩),.pointer (some ⟨nb,0,none⟩)]) (f:=fun i x=>Ck.glyph fg.n fr.n x (Ck.name (Ck.isName x.name) (decide (Ck.firstOf DGlyph.name l x.name<i)))) (mod_stays w) (fun _ W mW=>hr.mod RGlyph.stay mW) (fun i x cs W hi mW hr=>pure_call (F5_any u fg fc fl ff fx fr fn fv i x l cs B fb nb b m W hi hr (hF.kept mW) (NM mW) (hG.mod mW (by simp)) hm) mW) (fun a w=>by kernel_rfl) b0 b1 b2 w mR hb
theorem fontLook_Char {B fb nb b n c b0 b1 b2:Nat} {oa:Option Addr} {l:List DChar} {lk:List DLookup} {m:List (ByteArray×Value)} {w:World} (u:Int) (fg fc fl ff fx fr fn fv:Hd) (hF:FoBox u fg fc fl ff fx fr fn fv fb w) (hC:Rows 2 RChar B w (.slice fc.a fc.n fc.c) l) (hr:Rows 2 RChar B w (.slice oa n c) l)
  (hb:w.cell? ⟨b0,0,none⟩=some (.slice oa n c)/\w.cell? ⟨b1,0,none⟩=some (.int .i64 ((1000:Nat):Int))/\w.cell? ⟨b2,0,none⟩=some (.func (.func 58) #[] #[.pointer (some ⟨fb,0,none⟩)])) :
  Calls Tryz.prog 116 #[.pointer (some ⟨b0,0,none⟩),.pointer (some ⟨b1,0,none⟩),.pointer (some ⟨b2,0,none⟩)] w fun e w'=>e=.returned (.tuple #[.int .i64 (Ck.some 1000 (fun i x=>Ck.char fg.n x (Ck.late l i x)) l).1,.int .i64 ((Ck.some 1000 (fun i x=>Ck.char fg.n x (Ck.late l i x)) l).2:Int)])/\Mod [] w w':=by
 exact look_Char (F:=[]) (J:=fun _ W=>Mod [] w W) (fn:=58) (caps:=#[.pointer (some ⟨fb,0,none⟩)]) (f:=fun i x=>Ck.char fg.n x (Ck.late l i x)) (mod_stays w) (fun _ W mW=>hr.mod RChar.stay mW) (fun i x cs W hi mW hr=>pure_call (F7_any u fg fc fl ff fx fr fn fv i x l cs B fb W hi hr (hC.mod RChar.stay mW) (hF.kept mW)) mW) (fun a w=>by kernel_rfl) b0 b1 b2 w mR hb
theorem fontLook_Lookup {B fb nb b n c b0 b1 b2:Nat} {oa:Option Addr} {l:List DLookup} {lk:List DLookup} {m:List (ByteArray×Value)} {w:World} (u:Int) (fg fc fl ff fx fr fn fv:Hd) (hF:FoBox u fg fc fl ff fx fr fn fv fb w) (hL:Rows 3 RLookup B w (.slice fl.a fl.n fl.c) lk) (hr:Rows 3 RLookup B w (.slice oa n c) l)
  (hb:w.cell? ⟨b0,0,none⟩=some (.slice oa n c)/\w.cell? ⟨b1,0,none⟩=some (.int .i64 ((40:Nat):Int))/\w.cell? ⟨b2,0,none⟩=some (.func (.func 61) #[] #[.pointer (some ⟨fb,0,none⟩)])) :
  Calls Tryz.prog 118 #[.pointer (some ⟨b0,0,none⟩),.pointer (some ⟨b1,0,none⟩),.pointer (some ⟨b2,0,none⟩)] w fun e w'=>e=.returned (.tuple #[.int .i64 (Ck.some 40 (fun _ x=>Ck.lookup fg.n lk x) l).1,.int .i64 ((Ck.some 40 (fun _ x=>Ck.lookup fg.n lk x) l).2:Int)])/\Mod [] w w':=by
 exact look_Lookup (F:=[]) (J:=fun _ W=>Mod [] w W) (fn:=61) (caps:=#[.pointer (some ⟨fb,0,none⟩)]) (f:=fun _ x=>Ck.lookup fg.n lk x) (mod_stays w) (fun _ W mW=>hr.mod RLookup.stay mW) (fun i x cs W hi mW hr=>pure_call (F8_any u fg fc fl ff fx fr fn fv _ B fb cs x lk W hr (hL.mod RLookup.stay mW) (hF.kept mW)) mW) (fun a w=>by kernel_rfl) b0 b1 b2 w mR hb
theorem fontLook_Feature {B fb nb b n c b0 b1 b2:Nat} {oa:Option Addr} {l:List DFeature} {lk:List DLookup} {m:List (ByteArray×Value)} {w:World} (u:Int) (fg fc fl ff fx fr fn fv:Hd) (hF:FoBox u fg fc fl ff fx fr fn fv fb w) (hn:w.cell? ⟨nb,0,none⟩=some (.map (some b))) (hG:Gm.GMap Value.string w b m) (hm:FM (l.map DFeature.name) l.length m) (hr:Rows 2 RFeature B w (.slice oa n c) l)
  (hb:w.cell? ⟨b0,0,none⟩=some (.slice oa n c)/\w.cell? ⟨b1,0,none⟩=some (.int .i64 ((20:Nat):Int))/\w.cell? ⟨b2,0,none⟩=some (.func (.func 63) #[] #[.pointer (some ⟨fb,0,none⟩),.pointer (some ⟨nb,0,none⟩)])) :
  Calls Tryz.prog 120 #[.pointer (some ⟨b0,0,none⟩),.pointer (some ⟨b1,0,none⟩),.pointer (some ⟨b2,0,none⟩)] w fun e w'=>e=.returned (.tuple #[.int .i64 (Ck.some 20 (fun i x=>Ck.feature fl.n x (Ck.name (Ck.isLetters x.name) (decide (Ck.firstOf DFeature.name l x.name<i)))) l).1,.int .i64 ((Ck.some 20 (fun i x=>Ck.feature fl.n x (Ck.name (Ck.isLetters x.name) (decide (Ck.firstOf DFeature.name l x.name<i)))) l).2:Int)])/\Mod [] w w':=by
 have NM:∀ {W:World},Mod [] w W->W.cell? ⟨nb,0,none⟩=some (.map (some b)):=fun mW=>(mW.cell (p:=⟨nb,0,none⟩) (cell_lt hn) (by simp)).trans hn
 exact look_Feature (F:=[]) (J:=fun _ W=>Mod [] w W) (fn:=63) (caps:=#[.pointer (some ⟨fb,0,none⟩),.pointer (some ⟨nb,0,none⟩)]) (f:=fun i x=>Ck.feature fl.n x (Ck.name (Ck.isLetters x.name) (decide (Ck.firstOf DFeature.name l x.name<i)))) (mod_stays w) (fun _ W mW=>hr.mod RFeature.stay mW) (fun i x cs W hi mW hr=>pure_call (F9_any u fg fc fl ff fx fr fn fv i x l cs B fb nb b m W hi hr (hF.kept mW) (NM mW) (hG.mod mW (by simp)) hm) mW) (fun a w=>by kernel_rfl) b0 b1 b2 w mR hb
theorem fontLook_Axis {B fb nb b n c b0 b1 b2:Nat} {oa:Option Addr} {l:List DAxis} {lk:List DLookup} {m:List (ByteArray×Value)} {w:World} (hn:w.cell? ⟨nb,0,none⟩=some (.map (some b))) (hG:Gm.GMap Value.string w b m) (hm:FM (l.map DAxis.name) l.length m) (hr:Rows 4 RAxis B w (.slice oa n c) l)
  (hb:w.cell? ⟨b0,0,none⟩=some (.slice oa n c)/\w.cell? ⟨b1,0,none⟩=some (.int .i64 ((3:Nat):Int))/\w.cell? ⟨b2,0,none⟩=some (.func (.func 67) #[] #[.pointer (some ⟨nb,0,none⟩)])) :
  Calls Tryz.prog 123 #[.pointer (some ⟨b0,0,none⟩),.pointer (some ⟨b1,0,none⟩),.pointer (some ⟨b2,0,none⟩)] w fun e w'=>e=.returned (.tuple #[.int .i64 (Ck.some 3 (fun i x=>Ck.axis x (Ck.name (Ck.isName x.name) (decide (Ck.firstOf DAxis.name l x.name<i)))) l).1,.int .i64 ((Ck.some 3 (fun i x=>Ck.axis x (Ck.name (Ck.isName x.name) (decide (Ck.firstOf DAxis.name l x.name<i)))) l).2:Int)])/\Mod [] w w':=by
 have NM:∀ {W:World},Mod [] w W->W.cell? ⟨nb,0,none⟩=some (.map (some b)):=fun mW=>(mW.cell (p:=⟨nb,0,none⟩) (cell_lt hn) (by simp)).trans hn
 exact look_Axis (F:=[]) (J:=fun _ W=>Mod [] w W) (fn:=67) (caps:=#[.pointer (some ⟨nb,0,none⟩)]) (f:=fun i x=>Ck.axis x (Ck.name (Ck.isName x.name) (decide (Ck.firstOf DAxis.name l x.name<i)))) (mod_stays w) (fun _ W mW=>hr.mod RAxis.stay mW) (fun i x cs W hi mW hr=>pure_call (F10_any i x l cs B nb b m W hi hr (NM mW) (hG.mod mW (by simp)) hm) mW) (fun a w=>by kernel_rfl) b0 b1 b2 w mR hb
theorem fontLook_Region {B fb nb b n c b0 b1 b2:Nat} {oa:Option Addr} {l:List DRegion} {lk:List DLookup} {m:List (ByteArray×Value)} {w:World} (u:Int) (fg fc fl ff fx fr fn fv:Hd) (hF:FoBox u fg fc fl ff fx fr fn fv fb w) (hr:Rows 1 RRegion B w (.slice oa n c) l)
  (hb:w.cell? ⟨b0,0,none⟩=some (.slice oa n c)/\w.cell? ⟨b1,0,none⟩=some (.int .i64 ((16:Nat):Int))/\w.cell? ⟨b2,0,none⟩=some (.func (.func 70) #[] #[.pointer (some ⟨fb,0,none⟩)])) :
  Calls Tryz.prog 125 #[.pointer (some ⟨b0,0,none⟩),.pointer (some ⟨b1,0,none⟩),.pointer (some ⟨b2,0,none⟩)] w fun e w'=>e=.returned (.tuple #[.int .i64 (Ck.some 16 (fun _ x=>Ck.region fx.n x) l).1,.int .i64 ((Ck.some 16 (fun _ x=>Ck.region fx.n x) l).2:Int)])/\Mod [] w w':=by
 exact look_Region (F:=[]) (J:=fun _ W=>Mod [] w W) (fn:=70) (caps:=#[.pointer (some ⟨fb,0,none⟩)]) (f:=fun _ x=>Ck.region fx.n x) (mod_stays w) (fun _ W mW=>hr.mod RRegion.stay mW) (fun i x cs W hi mW hr=>pure_call (F11_any u fg fc fl ff fx fr fn fv _ B fb cs x W hr (hF.kept mW)) mW) (fun a w=>by kernel_rfl) b0 b1 b2 w mR hb
theorem fontLook_Code {B fb nb b n c b0 b1 b2:Nat} {oa:Option Addr} {l:List (List DIns)} {lk:List DLookup} {m:List (ByteArray×Value)} {w:World} (hr:Rows 1 RCode B w (.slice oa n c) l)
  (hb:w.cell? ⟨b0,0,none⟩=some (.slice oa n c)/\w.cell? ⟨b1,0,none⟩=some (.int .i64 ((20:Nat):Int))/\w.cell? ⟨b2,0,none⟩=some (.func (.func 73) #[] #[])) :
  Calls Tryz.prog 129 #[.pointer (some ⟨b0,0,none⟩),.pointer (some ⟨b1,0,none⟩),.pointer (some ⟨b2,0,none⟩)] w fun e w'=>e=.returned (.tuple #[.int .i64 (Ck.some 20 (fun _ x=>Ck.program x) l).1,.int .i64 ((Ck.some 20 (fun _ x=>Ck.program x) l).2:Int)])/\Mod [] w w':=by
 exact look_Code (F:=[]) (J:=fun _ W=>Mod [] w W) (fn:=73) (caps:=#[]) (f:=fun _ x=>Ck.program x) (mod_stays w) (fun _ W mW=>hr.mod RCode.stay mW) (fun i x cs W hi mW hr=>by
   obtain ⟨v,rfl,hr⟩:=hr;obtain ⟨o,d,rfl,-⟩:=hr.form
   exact pure_call (F12_any _ o x.length d x B W hr) mW) (fun a w=>by kernel_rfl) b0 b1 b2 w mR hb
theorem fontLook_Int {B fb nb b n c b0 b1 b2:Nat} {oa:Option Addr} {l:List Int} {lk:List DLookup} {m:List (ByteArray×Value)} {w:World} (hr:Rows 1 RInt B w (.slice oa n c) l)
  (hb:w.cell? ⟨b0,0,none⟩=some (.slice oa n c)/\w.cell? ⟨b1,0,none⟩=some (.int .i64 ((64:Nat):Int))/\w.cell? ⟨b2,0,none⟩=some (.func (.func 76) #[] #[])) :
  Calls Tryz.prog 133 #[.pointer (some ⟨b0,0,none⟩),.pointer (some ⟨b1,0,none⟩),.pointer (some ⟨b2,0,none⟩)] w fun e w'=>e=.returned (.tuple #[.int .i64 (Ck.some 64 (fun _ x=>Ck.when (!Ck.may x) 1) l).1,.int .i64 ((Ck.some 64 (fun _ x=>Ck.when (!Ck.may x) 1) l).2:Int)])/\Mod [] w w':=by
 exact look_Int (F:=[]) (J:=fun _ W=>Mod [] w W) (fn:=76) (caps:=#[]) (f:=fun _ x=>Ck.when (!Ck.may x) 1) (mod_stays w) (fun _ W mW=>hr.mod RInt.stay mW) (fun i x cs W hi mW hr=>by
   obtain ⟨rfl,hx⟩:=hr
   exact pure_call (F13_any _ x hx W) mW) (fun a w=>by kernel_rfl) b0 b1 b2 w mR hb
def Ck.fontLooks (u:Int) (fg fl fx fr:Hd) (comp:Ck.Got) (gl:List DGlyph) (ch:List DChar) (lk:List DLookup) (fe:List DFeature) (ax:List DAxis) (rg:List DRegion) (fu:List (List DIns)) (cv:List Int):List Ck.Got :=
 [(Ck.headN u fg.n,0),Ck.some 400 (fun i x=>Ck.glyph fg.n fr.n x (Ck.name (Ck.isName x.name) (decide (Ck.firstOf DGlyph.name gl x.name<i)))) gl,comp,Ck.some 1000 (fun i x=>Ck.char fg.n x (Ck.late ch i x)) ch,Ck.some 40 (fun _ x=>Ck.lookup fg.n lk x) lk,Ck.some 20 (fun i x=>Ck.feature fl.n x (Ck.name (Ck.isLetters x.name) (decide (Ck.firstOf DFeature.name fe x.name<i)))) fe,Ck.some 3 (fun i x=>Ck.axis x (Ck.name (Ck.isName x.name) (decide (Ck.firstOf DAxis.name ax x.name<i)))) ax,Ck.some 16 (fun _ x=>Ck.region fx.n x) rg,Ck.some 20 (fun _ x=>Ck.program x) fu,Ck.some 64 (fun _ x=>Ck.when (!Ck.may x) 1) cv]
theorem font_first {u:Int} {fg fc fl ff fx fr fn fv:Hd} {comp:Ck.Got} {gl:List DGlyph} {ch:List DChar} {lk:List DLookup} {fe:List DFeature} {ax:List DAxis} {rg:List DRegion} {fu:List (List DIns)} {cv:List Int} {B fb ng nf na bg bf ba:Nat} {mg mf ma:List (ByteArray×Value)} {LGlyph LChar LLookup LFeature LAxis LRegion LCode LInt:Value} {w:World} (hF:FoBox u fg fc fl ff fx fr fn fv fb w)
  (hng:w.cell? ⟨ng,0,none⟩=some (.map (some bg))) (hGg:Gm.GMap Value.string w bg mg) (hmg:FM (gl.map DGlyph.name) gl.length mg)
  (hnf:w.cell? ⟨nf,0,none⟩=some (.map (some bf))) (hGf:Gm.GMap Value.string w bf mf) (hmf:FM (fe.map DFeature.name) fe.length mf)
  (hna:w.cell? ⟨na,0,none⟩=some (.map (some ba))) (hGa:Gm.GMap Value.string w ba ma) (hma:FM (ax.map DAxis.name) ax.length ma)
  (hGlyph:LookFn 108 (.slice fg.a fg.n fg.c) (.int .i64 ((400:Nat):Int)) (.func (.func 54) #[] #[.pointer (some ⟨fb,0,none⟩),.pointer (some ⟨ng,0,none⟩)]) LGlyph w) (rGlyph:Rows 9 RGlyph B w (.slice fg.a fg.n fg.c) gl)
  (hChar:LookFn 116 (.slice fc.a fc.n fc.c) (.int .i64 ((1000:Nat):Int)) (.func (.func 58) #[] #[.pointer (some ⟨fb,0,none⟩)]) LChar w) (rChar:Rows 2 RChar B w (.slice fc.a fc.n fc.c) ch)
  (hLookup:LookFn 118 (.slice fl.a fl.n fl.c) (.int .i64 ((40:Nat):Int)) (.func (.func 61) #[] #[.pointer (some ⟨fb,0,none⟩)]) LLookup w) (rLookup:Rows 3 RLookup B w (.slice fl.a fl.n fl.c) lk)
  (hFeature:LookFn 120 (.slice ff.a ff.n ff.c) (.int .i64 ((20:Nat):Int)) (.func (.func 63) #[] #[.pointer (some ⟨fb,0,none⟩),.pointer (some ⟨nf,0,none⟩)]) LFeature w) (rFeature:Rows 2 RFeature B w (.slice ff.a ff.n ff.c) fe)
  (hAxis:LookFn 123 (.slice fx.a fx.n fx.c) (.int .i64 ((3:Nat):Int)) (.func (.func 67) #[] #[.pointer (some ⟨na,0,none⟩)]) LAxis w) (rAxis:Rows 4 RAxis B w (.slice fx.a fx.n fx.c) ax)
  (hRegion:LookFn 125 (.slice fr.a fr.n fr.c) (.int .i64 ((16:Nat):Int)) (.func (.func 70) #[] #[.pointer (some ⟨fb,0,none⟩)]) LRegion w) (rRegion:Rows 1 RRegion B w (.slice fr.a fr.n fr.c) rg)
  (hCode:LookFn 129 (.slice fn.a fn.n fn.c) (.int .i64 ((20:Nat):Int)) (.func (.func 73) #[] #[]) LCode w) (rCode:Rows 1 RCode B w (.slice fn.a fn.n fn.c) fu)
  (hInt:LookFn 133 (.slice fv.a fv.n fv.c) (.int .i64 ((64:Nat):Int)) (.func (.func 76) #[] #[]) LInt w) (rInt:Rows 1 RInt B w (.slice fv.a fv.n fv.c) cv)
  (hcomp:∀ W,Mod [] w W->Calls Tryz.prog 55 #[.pointer (some ⟨fb,0,none⟩)] W fun e w'=>e=.returned (.tuple #[.int .i64 comp.1,.int .i64 (comp.2:Int)])/\Mod [] W w')
  (sb ts c:Nat) (hs:Blk w sb #[.func (.func 51) #[] #[.pointer (some ⟨fb,0,none⟩)],LGlyph,.func (.func 55) #[] #[.pointer (some ⟨fb,0,none⟩)],LChar,LLookup,LFeature,LAxis,LRegion,LCode,LInt] ts) :
  Calls Tryz.prog 50 #[.slice (some ⟨sb,0,none⟩) 10 c] w fun e w'=>e=.returned (.tuple #[.int .i64 (Ck.first (Ck.fontLooks u fg fl fx fr comp gl ch lk fe ax rg fu cv)).1,.int .i64 ((Ck.first (Ck.fontLooks u fg fl fx fr comp gl ch lk fe ax rg fu cv)).2:Int)])/\Mod [] w w':=by
 obtain ⟨p0_0,p0_1,p0_2,_,_,_,rfl,p0_A,p0_B,p0_C⟩:=hGlyph;obtain ⟨p1_0,p1_1,p1_2,_,_,_,rfl,p1_A,p1_B,p1_C⟩:=hChar;obtain ⟨p2_0,p2_1,p2_2,_,_,_,rfl,p2_A,p2_B,p2_C⟩:=hLookup;obtain ⟨p3_0,p3_1,p3_2,_,_,_,rfl,p3_A,p3_B,p3_C⟩:=hFeature;obtain ⟨p4_0,p4_1,p4_2,_,_,_,rfl,p4_A,p4_B,p4_C⟩:=hAxis;obtain ⟨p5_0,p5_1,p5_2,_,_,_,rfl,p5_A,p5_B,p5_C⟩:=hRegion;obtain ⟨p6_0,p6_1,p6_2,_,_,_,rfl,p6_A,p6_B,p6_C⟩:=hCode;obtain ⟨p7_0,p7_1,p7_2,_,_,_,rfl,p7_A,p7_B,p7_C⟩:=hInt
 refine (first_any (F:=[]) (K:=10) (fn:=fun k=>[51,108,55,116,118,120,123,125,129,133].getD k 0)
  (caps:=fun k=>([#[.pointer (some ⟨fb,0,none⟩)],#[.pointer (some ⟨p0_0,0,none⟩),.pointer (some ⟨p0_1,0,none⟩),.pointer (some ⟨p0_2,0,none⟩)],#[.pointer (some ⟨fb,0,none⟩)],#[.pointer (some ⟨p1_0,0,none⟩),.pointer (some ⟨p1_1,0,none⟩),.pointer (some ⟨p1_2,0,none⟩)],#[.pointer (some ⟨p2_0,0,none⟩),.pointer (some ⟨p2_1,0,none⟩),.pointer (some ⟨p2_2,0,none⟩)],#[.pointer (some ⟨p3_0,0,none⟩),.pointer (some ⟨p3_1,0,none⟩),.pointer (some ⟨p3_2,0,none⟩)],#[.pointer (some ⟨p4_0,0,none⟩),.pointer (some ⟨p4_1,0,none⟩),.pointer (some ⟨p4_2,0,none⟩)],#[.pointer (some ⟨p5_0,0,none⟩),.pointer (some ⟨p5_1,0,none⟩),.pointer (some ⟨p5_2,0,none⟩)],#[.pointer (some ⟨p6_0,0,none⟩),.pointer (some ⟨p6_1,0,none⟩),.pointer (some ⟨p6_2,0,none⟩)],#[.pointer (some ⟨p7_0,0,none⟩),.pointer (some ⟨p7_1,0,none⟩),.pointer (some ⟨p7_2,0,none⟩)]]:List (Array Value)).getD k #[])
  (G:=fun k=>(Ck.fontLooks u fg fl fx fr comp gl ch lk fe ax rg fu cv).getD k (0,0)) (J:=fun _ W=>Mod [] w W) (Z:=fun _ W=>Mod [] w W)
  sb c w ⟨?call,?cf⟩ (by decide) ?hF ?hJ ?hZ ?hc mR).mono fun e w' h=>FirstIs.list (Gs:=(Ck.fontLooks u fg fl fx fr comp gl ch lk fe ax rg fu cv)) h (fun h=>h) (fun _ h=>h)
 case cf =>
  intro k hk a W;have q0:(callFunc 51 a).run Tryz.prog W=.ok (.enter 51 a) W:=by kernel_rfl
  have q1:(callFunc 108 a).run Tryz.prog W=.ok (.enter 108 a) W:=by kernel_rfl
  have q2:(callFunc 55 a).run Tryz.prog W=.ok (.enter 55 a) W:=by kernel_rfl
  have q3:(callFunc 116 a).run Tryz.prog W=.ok (.enter 116 a) W:=by kernel_rfl
  have q4:(callFunc 118 a).run Tryz.prog W=.ok (.enter 118 a) W:=by kernel_rfl
  have q5:(callFunc 120 a).run Tryz.prog W=.ok (.enter 120 a) W:=by kernel_rfl
  have q6:(callFunc 123 a).run Tryz.prog W=.ok (.enter 123 a) W:=by kernel_rfl
  have q7:(callFunc 125 a).run Tryz.prog W=.ok (.enter 125 a) W:=by kernel_rfl
  have q8:(callFunc 129 a).run Tryz.prog W=.ok (.enter 129 a) W:=by kernel_rfl
  have q9:(callFunc 133 a).run Tryz.prog W=.ok (.enter 133 a) W:=by kernel_rfl
  match k,hk with
  | 0,_=>simp only [List.getD_cons_zero,List.getD_cons_succ];exact q0
  | 1,_=>simp only [List.getD_cons_zero,List.getD_cons_succ];exact q1
  | 2,_=>simp only [List.getD_cons_zero,List.getD_cons_succ];exact q2
  | 3,_=>simp only [List.getD_cons_zero,List.getD_cons_succ];exact q3
  | 4,_=>simp only [List.getD_cons_zero,List.getD_cons_succ];exact q4
  | 5,_=>simp only [List.getD_cons_zero,List.getD_cons_succ];exact q5
  | 6,_=>simp only [List.getD_cons_zero,List.getD_cons_succ];exact q6
  | 7,_=>simp only [List.getD_cons_zero,List.getD_cons_succ];exact q7
  | 8,_=>simp only [List.getD_cons_zero,List.getD_cons_succ];exact q8
  | 9,_=>simp only [List.getD_cons_zero,List.getD_cons_succ];exact q9
 case hF=>intro x hx;cases hx
 case hJ=>exact fun k W W' h b=>h.below' b
 case hZ=>exact fun k W W' h b=>h.below' b
 case hc =>
  intro k W hk h;have q:=hs.kept h (by simp);have:=q.cell k;rw [this]
  match k,hk with
  | 0,_=>rfl
  | 1,_=>rfl
  | 2,_=>rfl
  | 3,_=>rfl
  | 4,_=>rfl
  | 5,_=>rfl
  | 6,_=>rfl
  | 7,_=>rfl
  | 8,_=>rfl
  | 9,_=>rfl
 case call =>
  intro k W hk' h;have fin:∀ {e:Ending} {W':World} {g:Int×Nat},e=.returned (.tuple #[.int .i64 g.1,.int .i64 (g.2:Int)])/\Mod [] W W' ->
    e=.returned (.tuple #[.int .i64 g.1,.int .i64 (g.2:Int)])/\Mod [] W W'/\(g.1=0->Mod [] w W')/\(g.1≠0->Mod [] w W'):=fun q =>
   ⟨q.1,q.2,fun _=>h.then q.2,fun _=>h.then q.2⟩
  have NM:∀ {nb b:Nat},w.cell? ⟨nb,0,none⟩=some (.map (some b))->W.cell? ⟨nb,0,none⟩=some (.map (some b)):=fun {nb b} hn=>(h.cell (p:=⟨nb,0,none⟩) (cell_lt hn) (by simp)).trans hn
  have K3:∀ {b0 b1 b2 t0 t1 t2:Nat} {x y z:Value},Blk w b0 #[x] t0->Blk w b1 #[y] t1->Blk w b2 #[z] t2->W.cell? ⟨b0,0,none⟩=some x/\W.cell? ⟨b1,0,none⟩=some y/\W.cell? ⟨b2,0,none⟩=some z:=fun h0 h1 h2 =>
   ⟨(h0.kept h (by simp)).cell 0,(h1.kept h (by simp)).cell 0,(h2.kept h (by simp)).cell 0⟩
  match k,hk' with
  | 0,_=>exact (F4_any u fg fc fl ff fx fr fn fv fb W (hF.kept h)).mono fun e W' q=>fin (g:=(Ck.headN u fg.n,0)) q
  | 2,_=>exact (hcomp W h).mono fun e W' q=>fin q
  | 1,_=>exact (fontLook_Glyph (lk:=lk) u fg fc fl ff fx fr fn fv (hF.kept h) (NM hng) (hGg.mod h (by simp)) hmg (rGlyph.mod RGlyph.stay h) (K3 p0_A p0_B p0_C)).mono fun e W' q=>fin q
  | 3,_=>exact (fontLook_Char (lk:=lk) (m:=[]) (nb:=0) (b:=0) u fg fc fl ff fx fr fn fv (hF.kept h) (rChar.mod RChar.stay h) (rChar.mod RChar.stay h) (K3 p1_A p1_B p1_C)).mono fun e W' q=>fin q
  | 4,_=>exact (fontLook_Lookup (m:=[]) (nb:=0) (b:=0) u fg fc fl ff fx fr fn fv (hF.kept h) (rLookup.mod RLookup.stay h) (rLookup.mod RLookup.stay h) (K3 p2_A p2_B p2_C)).mono fun e W' q=>fin q
  | 5,_=>exact (fontLook_Feature (lk:=lk) u fg fc fl ff fx fr fn fv (hF.kept h) (NM hnf) (hGf.mod h (by simp)) hmf (rFeature.mod RFeature.stay h) (K3 p3_A p3_B p3_C)).mono fun e W' q=>fin q
  | 6,_=>exact (fontLook_Axis (lk:=lk) (fb:=0) (NM hna) (hGa.mod h (by simp)) hma (rAxis.mod RAxis.stay h) (K3 p4_A p4_B p4_C)).mono fun e W' q=>fin q
  | 7,_=>exact (fontLook_Region (lk:=lk) (m:=[]) (nb:=0) (b:=0) u fg fc fl ff fx fr fn fv (hF.kept h) (rRegion.mod RRegion.stay h) (K3 p5_A p5_B p5_C)).mono fun e W' q=>fin q
  | 8,_=>exact (fontLook_Code (lk:=lk) (fb:=0) (m:=[]) (nb:=0) (b:=0)  (rCode.mod RCode.stay h) (K3 p6_A p6_B p6_C)).mono fun e W' q=>fin q
  | 9,_=>exact (fontLook_Int (lk:=lk) (fb:=0) (m:=[]) (nb:=0) (b:=0)  (rInt.mod RInt.stay h) (K3 p7_A p7_B p7_C)).mono fun e W' q=>fin q
theorem F6_any (u:Int) (fg fc fl ff fx fr fn fv:Hd) (comp:Ck.Got) (fb:Nat) (w:World) (hF:FoBox u fg fc fl ff fx fr fn fv fb w)
  (hc:Calls Tryz.prog 56 #[.agg (fontCells u fg fc fl ff fx fr fn fv)] w fun e w'=>e=.returned (.tuple #[.int .i64 comp.1,.int .i64 (comp.2:Int)])/\Mod [] w w') :
  Calls Tryz.prog 55 #[.pointer (some ⟨fb,0,none⟩)] w fun e w'=>e=.returned (.tuple #[.int .i64 comp.1,.int .i64 (comp.2:Int)])/\Mod [] w w':=by
 obtain ⟨tf,hfb⟩:=hF;have HC:=Hi hc;clear hc;unfold fontCells at hfb HC;have g0:=hfb.cell 0;have g1:=hfb.cell 1;have g2:=hfb.cell 2;have g3:=hfb.cell 3;have g4:=hfb.cell 4;have g5:=hfb.cell 5;have g6:=hfb.cell 6;have g7:=hfb.cell 7;have g8:=hfb.cell 8;simp only [gA,gZ,gS] at g0 g1 g2 g3 g4 g5 g6 g7 g8;obtain ⟨c1,c2⟩:=comp;simp only at HC ⊢;clear hfb;go_enter Tryz.func55,Tryz.ntmps55;go_wp2_with fail;have hc:=HC.out;refine Calls.mono hc ?_;rintro e w1 ⟨rfl,m1⟩;have HM:=Hi m1;clear m1 hc HC g0 g1 g2 g3 g4 g5 g6 g7 g8;go_wp2;go_ret2;exact ⟨rfl,HM.out⟩
set_option maxRecDepth 100000 in
theorem font_any {u:Int} {fg fc fl ff fx fr fn fv:Hd} {comp:Ck.Got} {gl:List DGlyph} {ch:List DChar} {lk:List DLookup} {fe:List DFeature} {ax:List DAxis} {rg:List DRegion} {fu:List (List DIns)} {cv:List Int} {B:Nat} (w:World)
  (rGlyph:Rows 9 RGlyph B w (.slice fg.a fg.n fg.c) gl)
  (rChar:Rows 2 RChar B w (.slice fc.a fc.n fc.c) ch)
  (rLookup:Rows 3 RLookup B w (.slice fl.a fl.n fl.c) lk)
  (rFeature:Rows 2 RFeature B w (.slice ff.a ff.n ff.c) fe)
  (rAxis:Rows 4 RAxis B w (.slice fx.a fx.n fx.c) ax)
  (rRegion:Rows 1 RRegion B w (.slice fr.a fr.n fr.c) rg)
  (rCode:Rows 1 RCode B w (.slice fn.a fn.n fn.c) fu)
  (rInt:Rows 1 RInt B w (.slice fv.a fv.n fv.c) cv)
  (hcomp:∀ W,Mod [] w W->Calls Tryz.prog 56 #[.agg (fontCells u fg fc fl ff fx fr fn fv)] W fun e w'=>e=.returned (.tuple #[.int .i64 comp.1,.int .i64 (comp.2:Int)])/\Mod [] W w') :
  Calls Tryz.prog 18 #[.agg (fontCells u fg fc fl ff fx fr fn fv)] w fun e w'=>e=.returned (.tuple #[.int .i64 (Ck.first (Ck.fontLooks u fg fl fx fr comp gl ch lk fe ax rg fu cv)).1,.int .i64 ((Ck.first (Ck.fontLooks u fg fl fx fr comp gl ch lk fe ax rg fu cv)).2:Int)])/\Mod [] w w':=by
 have HCO:=Hi hcomp;have HGlyph:=Hi rGlyph;have HChar:=Hi rChar;have HLookup:=Hi rLookup;have HFeature:=Hi rFeature;have HAxis:=Hi rAxis;have HRegion:=Hi rRegion;have HCode:=Hi rCode;have HInt:=Hi rInt;have T:=Hi (own1 w (fontCells u fg fc fl ff fx fr fn fv) 32);have C1:∀ (a:Array Value) (w:World),(callFunc 45 a).run Tryz.prog w=.ok (.enter 45 a) w:=fun a w=>by kernel_rfl
 have C2:∀ (a:Array Value) (w:World),(callFunc 47 a).run Tryz.prog w=.ok (.enter 47 a) w:=fun a w=>by kernel_rfl
 have C3:∀ (a:Array Value) (w:World),(callFunc 49 a).run Tryz.prog w=.ok (.enter 49 a) w:=fun a w=>by kernel_rfl
 have HK:=Hi (And.intro C1 (And.intro C2 C3));obtain ⟨D,hD⟩:∃ D,Ck.first (Ck.fontLooks u fg fl fx fr comp gl ch lk fe ax rg fu cv)=D:=⟨_,rfl⟩
 rw [hD];have HD:=Hi hD;have HB:=Hi (show ((fontCells u fg fc fl ff fx fr fn fv):Array Value)=#[.int .i64 u,.slice fg.a fg.n fg.c,.slice fc.a fc.n fc.c,.slice fl.a fl.n fl.c,.slice ff.a ff.n ff.c,.slice fx.a fx.n fx.c,.slice fr.a fr.n fr.c,.slice fn.a fn.n fn.c,.slice fv.a fv.n fv.c] from rfl);clear hcomp hD C1 C2 C3 rGlyph rChar rLookup rFeature rAxis rRegion rCode rInt;go_enter Tryz.func18,Tryz.ntmps18;unfold fontCells at T ⊢;have a0:=(T.out.at 0 rfl).cell 0;have a1:=(T.out.at 0 rfl).cell 1;have a2:=(T.out.at 0 rfl).cell 2;have a3:=(T.out.at 0 rfl).cell 3;have a4:=(T.out.at 0 rfl).cell 4;have a5:=(T.out.at 0 rfl).cell 5;have a6:=(T.out.at 0 rfl).cell 6;have a7:=(T.out.at 0 rfl).cell 7;have a8:=(T.out.at 0 rfl).cell 8;simp only [gA,gZ,gS] at a0 a1 a2 a3 a4 a5 a6 a7 a8;have HF:=Hi (firsts_Glyph (fn:=45) (w.alloc (.cells #[.int .i64 u,.slice fg.a fg.n fg.c,.slice fc.a fc.n fc.c,.slice fl.a fl.n fl.c,.slice ff.a ff.n ff.c,.slice fx.a fx.n fx.c,.slice fr.a fr.n fr.c,.slice fn.a fn.n fn.c,.slice fv.a fv.n fv.c] 32)) (HGlyph.out.mod RGlyph.stay T.out.mod) (fun x cs W h=>F1_any x cs _ W h) HK.out.1);go_wp2_with fail;refine HF.out.mono ?_;rintro e w1 ⟨⟨bg,mg,rfl,hbg,hGg,hmg⟩,m1⟩;have T1:=Hi ((T.out.call m1).alloc #[.map (some bg)] 89);simp only [List.cons_append,List.nil_append] at T1;have T2:Hid (Mod [] w1 (w1.alloc (.cells #[.map (some bg)] 89))):=(Mod.refl [] w1).alloc _;have Gg:=Hi (hGg.mod T2.out (by simp));have Mg:=Hi hmg;obtain ⟨ng,hng⟩:∃ x,x=w1.heap.size:=⟨_,rfl⟩
 rw [<- hng] at T1;clear T HF hbg hGg hmg m1 a0 a1 a2 a3 a4 a5 a6 a7 a8;have T:=T1;clear T1 T2;go_upto_region 2 with fail;rw [<- hng];clear hng;generalize w1.alloc (.cells #[.map (some bg)] 89)=W1 at *
 have a0:=(T.out.at 0 rfl).cell 0;have a1:=(T.out.at 0 rfl).cell 1;have a2:=(T.out.at 0 rfl).cell 2;have a3:=(T.out.at 0 rfl).cell 3;have a4:=(T.out.at 0 rfl).cell 4;have a5:=(T.out.at 0 rfl).cell 5;have a6:=(T.out.at 0 rfl).cell 6;have a7:=(T.out.at 0 rfl).cell 7;have a8:=(T.out.at 0 rfl).cell 8;simp only [gA,gZ,gS] at a0 a1 a2 a3 a4 a5 a6 a7 a8;have HF:=Hi (firsts_Feature (fn:=47) W1 (HFeature.out.mod RFeature.stay T.out.mod) (fun x cs W h=>F2_any x cs _ W h) HK.out.2.1);go_wp2_with fail;refine HF.out.mono ?_;rintro e w2 ⟨⟨bf,mf,rfl,hbf,hGf,hmf⟩,m1⟩;have T1:=Hi ((T.out.call m1).alloc #[.map (some bf)] 89);simp only [List.cons_append,List.nil_append] at T1;have T2:Hid (Mod [] w2 (w2.alloc (.cells #[.map (some bf)] 89))):=(Mod.refl [] w2).alloc _;have Gf:=Hi (hGf.mod T2.out (by simp));have Mf:=Hi hmf;have Gg':=Hi ((Gg.out.mod m1 (by simp)).mod T2.out (by simp));clear Gg;have Gg:=Gg';clear Gg';obtain ⟨nf,hnf⟩:∃ x,x=w2.heap.size:=⟨_,rfl⟩
 rw [<- hnf] at T1;clear T HF hbf hGf hmf m1 a0 a1 a2 a3 a4 a5 a6 a7 a8;have T:=T1;clear T1 T2;go_upto_region 3 with fail;rw [<- hnf];clear hnf;generalize w2.alloc (.cells #[.map (some bf)] 89)=W2 at *
 have a0:=(T.out.at 0 rfl).cell 0;have a1:=(T.out.at 0 rfl).cell 1;have a2:=(T.out.at 0 rfl).cell 2;have a3:=(T.out.at 0 rfl).cell 3;have a4:=(T.out.at 0 rfl).cell 4;have a5:=(T.out.at 0 rfl).cell 5;have a6:=(T.out.at 0 rfl).cell 6;have a7:=(T.out.at 0 rfl).cell 7;have a8:=(T.out.at 0 rfl).cell 8;simp only [gA,gZ,gS] at a0 a1 a2 a3 a4 a5 a6 a7 a8;have HF:=Hi (firsts_Axis (fn:=49) W2 (HAxis.out.mod RAxis.stay T.out.mod) (fun x cs W h=>F3_any x cs _ W h) HK.out.2.2);go_wp2_with fail;refine HF.out.mono ?_;rintro e w3 ⟨⟨ba,ma,rfl,hba,hGa,hma⟩,m1⟩;have T1:=Hi ((T.out.call m1).alloc #[.map (some ba)] 89);simp only [List.cons_append,List.nil_append] at T1;have T2:Hid (Mod [] w3 (w3.alloc (.cells #[.map (some ba)] 89))):=(Mod.refl [] w3).alloc _;have Ga:=Hi (hGa.mod T2.out (by simp));have Ma:=Hi hma;have Gg':=Hi ((Gg.out.mod m1 (by simp)).mod T2.out (by simp));clear Gg;have Gg:=Gg';clear Gg';have Gf':=Hi ((Gf.out.mod m1 (by simp)).mod T2.out (by simp));clear Gf;have Gf:=Gf';clear Gf';obtain ⟨na,hna⟩:∃ x,x=w3.heap.size:=⟨_,rfl⟩
 rw [<- hna] at T1;clear T HF hba hGa hma m1 a0 a1 a2 a3 a4 a5 a6 a7 a8;have T:=T1;clear T1 T2;go_upto_region 4 with fail;rw [<- hna];clear hna;generalize w3.alloc (.cells #[.map (some ba)] 89)=W3 at *
 have hmf:∀ (fn:Fn) (first cap:Array Value) (w:World),(Instr.makeFunc fn first cap).run Tryz.prog w=.ok (.func fn first cap) w:=fun _ _ _ _=>rfl
 have AF:=(T.out.at 0 rfl).every;have AN:=(T.out.at 1 rfl).every;have AM:=(T.out.at 2 rfl).every;have AX:=(T.out.at 3 rfl).every;refine Ch.wp_region_chain [(35,34)] ?l'1 32 [true,true,true,true,false,true,true,true,true,false,true,true,true,false,true,true,true,false,true,true,true,false,true,true,true,false,true,true,false,true,true,false] [(4,LookFn 108 (.slice fg.a fg.n fg.c) (.int .i64 ((400:Nat):Int)) (.func (.func 54) #[] #[.pointer (some ⟨w.heap.size,0,none⟩),.pointer (some ⟨ng,0,none⟩)])),(9,LookFn 116 (.slice fc.a fc.n fc.c) (.int .i64 ((1000:Nat):Int)) (.func (.func 58) #[] #[.pointer (some ⟨w.heap.size,0,none⟩)])),(13,LookFn 118 (.slice fl.a fl.n fl.c) (.int .i64 ((40:Nat):Int)) (.func (.func 61) #[] #[.pointer (some ⟨w.heap.size,0,none⟩)])),(17,LookFn 120 (.slice ff.a ff.n ff.c) (.int .i64 ((20:Nat):Int)) (.func (.func 63) #[] #[.pointer (some ⟨w.heap.size,0,none⟩),.pointer (some ⟨nf,0,none⟩)])),(21,LookFn 123 (.slice fx.a fx.n fx.c) (.int .i64 ((3:Nat):Int)) (.func (.func 67) #[] #[.pointer (some ⟨na,0,none⟩)])),(25,LookFn 125 (.slice fr.a fr.n fr.c) (.int .i64 ((16:Nat):Int)) (.func (.func 70) #[] #[.pointer (some ⟨w.heap.size,0,none⟩)])),(28,LookFn 129 (.slice fn.a fn.n fn.c) (.int .i64 ((20:Nat):Int)) (.func (.func 73) #[] #[])),(31,LookFn 133 (.slice fv.a fv.n fv.c) (.int .i64 ((64:Nat):Int)) (.func (.func 76) #[] #[]))] [] (by kernel_rfl) ?hl1 ?hB1 ?hT1 ?hsl1 ?hAl1 ?hQ1 ?main1
 case hl1=>simp only [Ch.waitsFor,waitFor,List.modify_succ_cons,List.modify_zero_cons];exact rfl
 case hB1=>kernel_rfl
 case hT1=>simp [LookFn.stays]
 case hsl1=>kernel_rfl
 case hAl1=>(intro i hi;cases hi)
 case hQ1=>(intro _ _ d _ _ h;cases d <;> exact h)
 simp only [pickM]
 iterate 24
  refine sv ?_
 refine steady_done ?_;refine Ch.chain_go (f:=?_) rfl rfl (fun v=>by simp only [Act.put];(try simp only [List.setIfInBounds_toArray]);(try simp only [List.set_cons_succ,List.set_cons_zero]);exact rfl) (fun w' hw' hF K Q hK=>?_) (fun kv1=>?_)
 ·clear hF;go_wp2_with fail;refine (reK (some_Glyph fg.a fg.n fg.c 400 54 _ w')).mono ?_;rintro e w'' ⟨v,rfl,hv,mm⟩;go_wp2;exact hK _ _ mm hv
 refine Ch.chain_go (f:=?_) rfl rfl (fun v=>by simp only [Act.put];(try simp only [List.setIfInBounds_toArray]);(try simp only [List.set_cons_succ,List.set_cons_zero]);exact rfl) (fun w' hw' hF K Q hK=>?_) (fun kv2=>?_)
 ·clear hF;go_wp2_with fail;refine (reK (some_Char fc.a fc.n fc.c 1000 58 _ w')).mono ?_;rintro e w'' ⟨v,rfl,hv,mm⟩;go_wp2;exact hK _ _ mm hv
 refine Ch.chain_go (f:=?_) rfl rfl (fun v=>by simp only [Act.put];(try simp only [List.setIfInBounds_toArray]);(try simp only [List.set_cons_succ,List.set_cons_zero]);exact rfl) (fun w' hw' hF K Q hK=>?_) (fun kv3=>?_)
 ·clear hF;go_wp2_with fail;refine (reK (some_Lookup fl.a fl.n fl.c 40 61 _ w')).mono ?_;rintro e w'' ⟨v,rfl,hv,mm⟩;go_wp2;exact hK _ _ mm hv
 refine Ch.chain_go (f:=?_) rfl rfl (fun v=>by simp only [Act.put];(try simp only [List.setIfInBounds_toArray]);(try simp only [List.set_cons_succ,List.set_cons_zero]);exact rfl) (fun w' hw' hF K Q hK=>?_) (fun kv4=>?_)
 ·clear hF;go_wp2_with fail;refine (reK (some_Feature ff.a ff.n ff.c 20 63 _ w')).mono ?_;rintro e w'' ⟨v,rfl,hv,mm⟩;go_wp2;exact hK _ _ mm hv
 refine Ch.chain_go (f:=?_) rfl rfl (fun v=>by simp only [Act.put];(try simp only [List.setIfInBounds_toArray]);(try simp only [List.set_cons_succ,List.set_cons_zero]);exact rfl) (fun w' hw' hF K Q hK=>?_) (fun kv5=>?_)
 ·clear hF;go_wp2_with fail;refine (reK (some_Axis fx.a fx.n fx.c 3 67 _ w')).mono ?_;rintro e w'' ⟨v,rfl,hv,mm⟩;go_wp2;exact hK _ _ mm hv
 refine Ch.chain_go (f:=?_) rfl rfl (fun v=>by simp only [Act.put];(try simp only [List.setIfInBounds_toArray]);(try simp only [List.set_cons_succ,List.set_cons_zero]);exact rfl) (fun w' hw' hF K Q hK=>?_) (fun kv6=>?_)
 ·clear hF;go_wp2_with fail;refine (reK (some_Region fr.a fr.n fr.c 16 70 _ w')).mono ?_;rintro e w'' ⟨v,rfl,hv,mm⟩;go_wp2;exact hK _ _ mm hv
 refine Ch.chain_go (f:=?_) rfl rfl (fun v=>by simp only [Act.put];(try simp only [List.setIfInBounds_toArray]);(try simp only [List.set_cons_succ,List.set_cons_zero]);exact rfl) (fun w' hw' hF K Q hK=>?_) (fun kv7=>?_)
 ·clear hF;go_wp2_with fail;refine (reK (some_Code fn.a fn.n fn.c 20 73 _ w')).mono ?_;rintro e w'' ⟨v,rfl,hv,mm⟩;go_wp2;exact hK _ _ mm hv
 refine Ch.chain_go (f:=?_) rfl rfl (fun v=>by simp only [Act.put];(try simp only [List.setIfInBounds_toArray]);(try simp only [List.set_cons_succ,List.set_cons_zero]);exact rfl) (fun w' hw' hF K Q hK=>?_) (fun kv8=>?_)
 ·clear hF;go_wp2_with fail;refine (reK (some_Int fv.a fv.n fv.c 64 76 _ w')).mono ?_;rintro e w'' ⟨v,rfl,hv,mm⟩;go_wp2;exact hK _ _ mm hv
 refine Ch.chain_end ?_;refine lates_end (fun hD w' hw' hF=>?_);simp only [qS,qZ];obtain ⟨⟨⟨⟨⟨⟨⟨⟨-,h1⟩,h2⟩,h3⟩,h4⟩,h5⟩,h6⟩,h7⟩,h8⟩:=hF;have H1:=Hi h1;have H2:=Hi h2;have H3:=Hi h3;have H4:=Hi h4;have H5:=Hi h5;have H6:=Hi h6;have H7:=Hi h7;have H8:=Hi h8;obtain ⟨p10,p11,p12,_,_,_,rfl,-⟩:=h1;obtain ⟨p20,p21,p22,_,_,_,rfl,-⟩:=h2;obtain ⟨p30,p31,p32,_,_,_,rfl,-⟩:=h3;obtain ⟨p40,p41,p42,_,_,_,rfl,-⟩:=h4;obtain ⟨p50,p51,p52,_,_,_,rfl,-⟩:=h5;obtain ⟨p60,p61,p62,_,_,_,rfl,-⟩:=h6;obtain ⟨p70,p71,p72,_,_,_,rfl,-⟩:=h7;obtain ⟨p80,p81,p82,_,_,_,rfl,-⟩:=h8;have HW:=Hi hw';clear hw' AF AN AM AX hmf;go_wp2_with fail;have al:Mod [] w' (w'.alloc (.cells #[.func (.func 51) #[] #[.pointer (some ⟨w.heap.size,0,none⟩)],.func (.func 108) #[] #[.pointer (some ⟨p10,0,none⟩),.pointer (some ⟨p11,0,none⟩),.pointer (some ⟨p12,0,none⟩)],.func (.func 55) #[] #[.pointer (some ⟨w.heap.size,0,none⟩)],.func (.func 116) #[] #[.pointer (some ⟨p20,0,none⟩),.pointer (some ⟨p21,0,none⟩),.pointer (some ⟨p22,0,none⟩)],.func (.func 118) #[] #[.pointer (some ⟨p30,0,none⟩),.pointer (some ⟨p31,0,none⟩),.pointer (some ⟨p32,0,none⟩)],.func (.func 120) #[] #[.pointer (some ⟨p40,0,none⟩),.pointer (some ⟨p41,0,none⟩),.pointer (some ⟨p42,0,none⟩)],.func (.func 123) #[] #[.pointer (some ⟨p50,0,none⟩),.pointer (some ⟨p51,0,none⟩),.pointer (some ⟨p52,0,none⟩)],.func (.func 125) #[] #[.pointer (some ⟨p60,0,none⟩),.pointer (some ⟨p61,0,none⟩),.pointer (some ⟨p62,0,none⟩)],.func (.func 129) #[] #[.pointer (some ⟨p70,0,none⟩),.pointer (some ⟨p71,0,none⟩),.pointer (some ⟨p72,0,none⟩)],.func (.func 133) #[] #[.pointer (some ⟨p80,0,none⟩),.pointer (some ⟨p81,0,none⟩),.pointer (some ⟨p82,0,none⟩)]] 117)):=mR.alloc _;have hW:=HW.out.then al
 refine (font_first (u:=u) (fg:=fg) (fc:=fc) (fl:=fl) (ff:=ff) (fx:=fx) (fr:=fr) (fn:=fn) (fv:=fv) (comp:=comp) (B:=B) (bg:=bg) (bf:=bf) (ba:=ba) (mg:=mg) (mf:=mf) (ma:=ma)
  ⟨_,(T.out.at 0 rfl).kept hW (by simp)⟩ (((T.out.at 1 rfl).kept hW (by simp)).cell 0) (Gg.out.mod hW (by simp)) Mg.out (((T.out.at 2 rfl).kept hW (by simp)).cell 0) (Gf.out.mod hW (by simp)) Mf.out (((T.out.at 3 rfl).kept hW (by simp)).cell 0) (Ga.out.mod hW (by simp)) Ma.out
  (LookFn.stays _ _ H1.out al) ((HGlyph.out.mod RGlyph.stay T.out.mod).mod RGlyph.stay hW)
  (LookFn.stays _ _ H2.out al) ((HChar.out.mod RChar.stay T.out.mod).mod RChar.stay hW)
  (LookFn.stays _ _ H3.out al) ((HLookup.out.mod RLookup.stay T.out.mod).mod RLookup.stay hW)
  (LookFn.stays _ _ H4.out al) ((HFeature.out.mod RFeature.stay T.out.mod).mod RFeature.stay hW)
  (LookFn.stays _ _ H5.out al) ((HAxis.out.mod RAxis.stay T.out.mod).mod RAxis.stay hW)
  (LookFn.stays _ _ H6.out al) ((HRegion.out.mod RRegion.stay T.out.mod).mod RRegion.stay hW)
  (LookFn.stays _ _ H7.out al) ((HCode.out.mod RCode.stay T.out.mod).mod RCode.stay hW)
  (LookFn.stays _ _ H8.out al) ((HInt.out.mod RInt.stay T.out.mod).mod RInt.stay hW)
  (fun W m=>F6_any u fg fc fl ff fx fr fn fv comp _ W ⟨_,((T.out.at 0 rfl).kept hW (by simp)).kept m (by simp)⟩ (HCO.out W (T.out.mod.then (hW.then m)))) w'.heap.size _ _ (Blk.new w' _ _)).mono ?_
 rintro e w'' ⟨rfl,M⟩;have HM:=Hi (T.out.mod.then (hW.then M));rw [HD.out];obtain ⟨D1,D2⟩:=D;simp only;clear M al hW HW T HD HB HK HCO H1 H2 H3 H4 H5 H6 H7 H8 HGlyph HChar HLookup HFeature HAxis HRegion HCode HInt Gg Gf Ga Mg Mf Ma;go_wp2;go_ret2;exact ⟨rfl,HM.out⟩
theorem Right_any (u:Int) (fg fc fl ff fx fr fn fv:Hd) (got:Ck.Got) (w:World)
  (hc:∀ W,Mod [] w W->Calls Tryz.prog 18 #[.agg (fontCells u fg fc fl ff fx fr fn fv)] W fun e w'=>e=.returned (.tuple #[.int .i64 got.1,.int .i64 (got.2:Int)])/\Mod [] W w') :
  Calls Tryz.prog 10 #[.agg (fontCells u fg fc fl ff fx fr fn fv)] w fun e w'=>e=.returned (.bool (decide (got.1=0)))/\Mod [] w w':=by
 have T:=Hi (own1 w (fontCells u fg fc fl ff fx fr fn fv) 32);have HC:=Hi (hc _ T.out.mod);clear hc;obtain ⟨g1,g2⟩:=got;unfold fontCells at T HC ⊢;obtain ⟨b,k0,k1,k2⟩:=neqf g1 0;simp only at HC k0 k1 k2 ⊢;rw [k1];have a0:=(T.out.at 0 rfl).cell 0;have a1:=(T.out.at 0 rfl).cell 1;have a2:=(T.out.at 0 rfl).cell 2;have a3:=(T.out.at 0 rfl).cell 3;have a4:=(T.out.at 0 rfl).cell 4;have a5:=(T.out.at 0 rfl).cell 5;have a6:=(T.out.at 0 rfl).cell 6;have a7:=(T.out.at 0 rfl).cell 7;have a8:=(T.out.at 0 rfl).cell 8;go_enter Tryz.func10,Tryz.ntmps10;go_wp2_with fail;have hc:=HC.out;refine Calls.mono hc ?_;rintro e w1 ⟨rfl,m1⟩;have HM:=Hi (T.out.mod.then m1);clear m1 hc HC T a0 a1 a2 a3 a4 a5 a6 a7 a8;go_wp2;go_ret;exact ⟨rfl,HM.out⟩
end Go.Proofs.YthheaflbbficgaaGreat

/- The chapter's example comes out: by the contracts of vary's functions. -/
import Derived.Test.YtlkkhkbafahchaaGBase
import Derived.Test.YtlkkhkbafahchaaGRing
import Derived.Test.YtlkkhkbafahchaaGTop
import Derived.Handy
set_option linter.all false
namespace Go.Proofs.Ytlkkhkbafahchaa
open Go.RowKit
set_option maxRecDepth 100000
def exName:ByteArray:=⟨#[97]⟩
def exAx:ByteArray:=⟨#[119]⟩
def exD0:DDelta:=⟨0,-1,-20,0⟩
def exD1:DDelta:=⟨0,0,10,3⟩
def exG (ds:List DDelta):DGlyph:=⟨exName,5,false,[⟨7,0,false⟩,⟨0,0,false⟩],[1],[],[],ds,[]⟩
def exR:DRegion:=⟨[⟨0,64,64⟩]⟩
def exA:DAxis:=⟨exAx,100,400,900⟩
def exF (ds:List DDelta):DFont:=⟨1000,[exG ds],[],[],[],[exA],[exR],[],[]⟩
def exGC (n:Nat) (o k:Nat):Array Value:=#[.string exName,.int .i64 5,.bool false,.slice (some ⟨n+1,0,none⟩) 2 2,.slice (some ⟨n+2,0,none⟩) 1 1,.slice none 0 0,.slice none 0 0,.slice (some ⟨n+3,o,none⟩) k k,.slice none 0 0]
structure VF (W:World) (n o k:Nat) (w:World):Prop where
 p:Blk w (n+1) #[.int .i64 7,.int .i64 0,.bool false,.int .i64 0,.int .i64 0,.bool false] 67
 e:Blk w (n+2) #[.int .i64 1] 3
 d:Blk w (n+3) #[.int .i64 0,.int .i64 (-1),.int .i64 (-20),.int .i64 0,.int .i64 0,.int .i64 0,.int .i64 10,.int .i64 3] 95
 g:Blk w (n+4) (exGC n o k) 51
 a:Blk w (n+5) #[.string exAx,.int .i64 100,.int .i64 400,.int .i64 900] 56
 t:Blk w (n+6) #[.int .i64 0,.int .i64 64,.int .i64 64] 38
 r:Blk w (n+7) #[.slice (some ⟨n+6,0,none⟩) 1 1] 36
 mod:Mod [] W w
 ord:W.heap.size<=n
theorem VF.stays {W:World} {n o k:Nat}:Stays (VF W n o k):=fun w w' h m=>⟨h.p.kept m (by simp),h.e.kept m (by simp),h.d.kept m (by simp),h.g.kept m (by simp),h.a.kept m (by simp),h.t.kept m (by simp),h.r.kept m (by simp),h.mod.then m,h.ord⟩
def exC (n:Nat):Array Value:=fontCells 1000 ⟨some ⟨n+4,0,none⟩,1,1⟩ ⟨none,0,0⟩ ⟨none,0,0⟩ ⟨none,0,0⟩ ⟨some ⟨n+5,0,none⟩,1,1⟩ ⟨some ⟨n+7,0,none⟩,1,1⟩ ⟨none,0,0⟩ ⟨none,0,0⟩
theorem rows_at {α:Type} {k B b o n c:Nat} {R:Nat->World->List Value->α->Prop} {w:World} {cs:Array Value} {t:TypeId} {l:List α} (h:Blk w b cs t) (hb:B<=b) (hl:l.length=n) (hm:n<=maxLen)
  (hr:∀ i (hi:i<l.length),∃ e:List Value,e.length=k/\(∀ j,j<k->cs[o+i*k+j]?=e[j]?)/\R B w e l[i]):Rows k R B w (.slice (some ⟨b,o,none⟩) n c) l:=by
 subst hl;refine ⟨_,_,rfl,hm,fun i hi=>⟨_,rfl,hb,?_⟩⟩;obtain ⟨e,h1,h2,h3⟩:=hr i hi;refine ⟨e,h1,fun j hj=>?_,h3⟩;rw [addr_add_add];have e1:(⟨b,o,none⟩:Addr).add (i*k+j)=⟨b,o+i*k+j,none⟩:=by unfold Addr.add;split <;> simp_all;omega
 rw [e1,h.cell];exact h2 j hj
theorem i64s (n:Int) (h:-1000000<=n/\n<=1000000):I64 n:=by unfold I64;omega
theorem VF.glyphs {W:World} {n o k:Nat} {w:World} {ds:List DDelta} (h:VF W n o k w) (hd:Rows 4 RDelta 0 w (.slice (some ⟨n+3,o,none⟩) k k) ds):Rows 9 RGlyph 0 w (.slice (some ⟨n+4,0,none⟩) 1 1) [exG ds]:=by
 refine rows_at h.g (Nat.zero_le _) rfl (by decide) fun i hi=>?_
 obtain rfl:i=0:=Nat.lt_one_iff.1 hi;refine ⟨(exGC n o k).toList,rfl,fun j _=>by simp,_,_,_,_,_,_,rfl,by show 1<=maxLen;decide,i64s 5 (by decide),?_,?_,Rows.nil w,Rows.nil w,hd,Rows.nil w⟩
 ·refine rows_at h.p (Nat.zero_le _) rfl (by decide) fun i hi=>?_
  match i,hi with
  | 0,_=>exact ⟨[.int .i64 7,.int .i64 0,.bool false],rfl,fun j hj=>by match j,hj with | 0,_=>rfl | 1,_=>rfl | 2,_=>rfl,rfl,i64s 7 (by decide),i64s 0 (by decide)⟩
  | 1,_=>exact ⟨[.int .i64 0,.int .i64 0,.bool false],rfl,fun j hj=>by match j,hj with | 0,_=>rfl | 1,_=>rfl | 2,_=>rfl,rfl,i64s 0 (by decide),i64s 0 (by decide)⟩
 ·refine rows_at h.e (Nat.zero_le _) rfl (by decide) fun i hi=>?_
  obtain rfl:i=0:=Nat.lt_one_iff.1 hi;exact ⟨[.int .i64 1],rfl,fun j hj=>by match j,hj with | 0,_=>rfl,rfl,i64s 1 (by decide)⟩
theorem VF.axes {W:World} {n o k:Nat} {w:World} (h:VF W n o k w):Rows 4 RAxis 0 w (.slice (some ⟨n+5,0,none⟩) 1 1) [exA]:=by
 refine rows_at h.a (Nat.zero_le _) rfl (by decide) fun i hi=>?_
 obtain rfl:i=0:=Nat.lt_one_iff.1 hi;exact ⟨[.string exAx,.int .i64 100,.int .i64 400,.int .i64 900],rfl,fun j _=>by simp,rfl,by show 1<=maxLen;decide,i64s 100 (by decide),i64s 400 (by decide),i64s 900 (by decide)⟩
theorem VF.tents {W:World} {n o k:Nat} {w:World} (h:VF W n o k w):Rows 3 RTent 0 w (.slice (some ⟨n+6,0,none⟩) 1 1) [⟨0,64,64⟩]:=by
 refine rows_at h.t (Nat.zero_le _) rfl (by decide) fun i hi=>?_
 obtain rfl:i=0:=Nat.lt_one_iff.1 hi;exact ⟨[.int .i64 0,.int .i64 64,.int .i64 64],rfl,fun j _=>by simp,rfl,i64s 0 (by decide),i64s 64 (by decide),i64s 64 (by decide)⟩
theorem VF.regions {W:World} {n o k:Nat} {w:World} (h:VF W n o k w):Rows 1 RRegion 0 w (.slice (some ⟨n+7,0,none⟩) 1 1) [exR]:=by
 refine rows_at h.r (Nat.zero_le _) rfl (by decide) fun i hi=>?_
 obtain rfl:i=0:=Nat.lt_one_iff.1 hi;exact ⟨[.slice (some ⟨n+6,0,none⟩) 1 1],rfl,fun j _=>by simp,_,rfl,h.tents⟩
theorem VF.full {W:World} {n:Nat} {w:World} (h:VF W n 0 2 w):Rows 4 RDelta 0 w (.slice (some ⟨n+3,0,none⟩) 2 2) [exD0,exD1]:=by
 refine rows_at h.d (Nat.zero_le _) rfl (by decide) fun i hi=>?_
 match i,hi with
 | 0,_=>exact ⟨[.int .i64 0,.int .i64 (-1),.int .i64 (-20),.int .i64 0],rfl,fun j hj=>by match j,hj with | 0,_=>rfl | 1,_=>rfl | 2,_=>rfl | 3,_=>rfl,rfl,i64s 0 (by decide),i64s (-1) (by decide),i64s (-20) (by decide),i64s 0 (by decide)⟩
 | 1,_=>exact ⟨[.int .i64 0,.int .i64 0,.int .i64 10,.int .i64 3],rfl,fun j hj=>by match j,hj with | 0,_=>rfl | 1,_=>rfl | 2,_=>rfl | 3,_=>rfl,rfl,i64s 0 (by decide),i64s 0 (by decide),i64s 10 (by decide),i64s 3 (by decide)⟩
theorem VF.less {W:World} {n:Nat} {w:World} (h:VF W n 4 1 w):Rows 4 RDelta 0 w (.slice (some ⟨n+3,4,none⟩) 1 1) [exD1]:=by
 refine rows_at h.d (Nat.zero_le _) rfl (by decide) fun i hi=>?_
 obtain rfl:i=0:=Nat.lt_one_iff.1 hi;exact ⟨[.int .i64 0,.int .i64 0,.int .i64 10,.int .i64 3],rfl,fun j hj=>by match j,hj with | 0,_=>rfl | 1,_=>rfl | 2,_=>rfl | 3,_=>rfl,rfl,i64s 0 (by decide),i64s 0 (by decide),i64s 10 (by decide),i64s 3 (by decide)⟩
theorem VF.font {W:World} {n o k:Nat} {w:World} {ds:List DDelta} (h:VF W n o k w) (hd:Rows 4 RDelta 0 w (.slice (some ⟨n+3,o,none⟩) k k) ds):RFont 0 w (exC n).toList (exF ds) :=
 ⟨_,_,_,_,_,_,_,_,rfl,i64s 1000 (by decide),h.glyphs hd,Rows.nil w,Rows.nil w,Rows.nil w,h.axes,h.regions,Rows.nil w,Rows.nil w⟩
theorem place_one (w:World) (v:Int) (hv:-1000000<=v/\v<=1000000):Rows 1 RInt 0 (w.alloc (.cells #[.int .i64 v] 3)) (.slice (some ⟨w.heap.size,0,none⟩) 1 1) [v]:=by
 refine rows_at (Blk.new w #[.int .i64 v] 3) (Nat.zero_le _) rfl (by decide) fun i hi=>?_
 obtain rfl:i=0:=Nat.lt_one_iff.1 hi;exact ⟨[.int .i64 v],rfl,fun j hj=>by match j,hj with | 0,_=>rfl,rfl,i64s _ hv⟩
-- what comes out, in plain numbers
theorem ex_n650:Vr.normR [exA] [650]=.ok [(1,2)]:=by
 unfold Vr.normR;refine (if_pos rfl).trans ((if_pos ⟨⟨by decide,by decide,by decide,by decide,by decide,by decide⟩,trivial⟩).trans ?_);exact congrArg Except.ok (by decide +kernel)
theorem ex_n250:Vr.normR [exA] [250]=.ok [(-1,2)]:=by
 unfold Vr.normR;refine (if_pos rfl).trans ((if_pos ⟨⟨by decide,by decide,by decide,by decide,by decide,by decide⟩,trivial⟩).trans ?_);exact congrArg Except.ok (by decide +kernel)
theorem ex_n900:Vr.normR [exA] [900]=.ok [(1,1)]:=by
 unfold Vr.normR;refine (if_pos rfl).trans ((if_pos ⟨⟨by decide,by decide,by decide,by decide,by decide,by decide⟩,trivial⟩).trans ?_);exact congrArg Except.ok (by decide +kernel)
theorem ex_n901:Vr.normR [exA] [901]=.error 60:=by
 unfold Vr.normR;exact (if_pos rfl).trans (if_neg fun h=>absurd h.1.2.2.2.2.2 (by show ¬ (901:Int)<=900;decide))
theorem ex_n0:Vr.normR [exA] []=.error 1:=by
 unfold Vr.normR;rw [if_neg (by decide)]
def exO (x y:Int):DGlyph:=⟨exName,5,false,[⟨x,y,false⟩,⟨0,0,false⟩],[1],[],[],[],[]⟩
theorem ex_g650:Vr.atGlyph [exA] [exR] [650] (exG [exD1])=.ok (exO 12 2):=by
 unfold Vr.atGlyph;rw [ex_n650];kernel_rfl
theorem ex_g250:Vr.atGlyph [exA] [exR] [250] (exG [exD1])=.ok (exO 7 0):=by
 unfold Vr.atGlyph;rw [ex_n250];kernel_rfl
theorem ex_over:Vr.atGlyph [exA] [exR] [650] (exG [exD0,exD1])=.error 3:=by
 unfold Vr.atGlyph;rw [ex_n650];kernel_rfl
theorem ex_f900:Vr.fontR (exF [exD1]) [900]=.ok ⟨1000,[exO 17 3],[],[],[],[],[],[],[]⟩:=by
 unfold Vr.fontR;rw [show (exF [exD1]).axes=[exA] from rfl,ex_n900];kernel_rfl
theorem ex_fac:Vr.factorR [⟨0,64,64⟩] [(1,2)]=(1,2):=by decide +kernel
theorem Blk.newAt {w:World} {n:Nat} (h:w.heap.size=n) (cs:Array Value) (t:TypeId):Blk (w.alloc (.cells cs t)) n cs t:=by subst h;exact Blk.new w cs t
set_option maxHeartbeats 4000000 in
theorem exfont_any (w:World):Calls Try.prog 9 #[] w fun e w'=>e=.returned (.agg (exC w.heap.size))/\VF w w.heap.size 0 2 w':=by
 go_enter Try.func9,Try.ntmps9;go_wp2_with fail;go_returns;obtain ⟨n,hn⟩:∃ n,n=w.heap.size:=⟨_,rfl⟩
 rw [<- hn];exact ⟨rfl,(((((((Blk.newAt (by simp [hn]) _ _).alloc _).alloc _).alloc _).alloc _).alloc _).alloc _),((((((Blk.newAt (by simp [hn]) _ _).alloc _).alloc _).alloc _).alloc _).alloc _),(((((Blk.newAt (by simp [hn]) _ _).alloc _).alloc _).alloc _).alloc _),((((Blk.newAt (by simp [hn]) _ _).alloc _).alloc _).alloc _),(((Blk.newAt (by simp [hn]) _ _).alloc _).alloc _),((Blk.newAt (by simp [hn]) _ _).alloc _),(Blk.newAt (by simp [hn]) _ _),((((((((Mod.refl [] w).alloc _).alloc _).alloc _).alloc _).alloc _).alloc _).alloc _).alloc _,by rw [hn];exact Nat.le_refl _⟩
theorem VF.set {W:World} {n:Nat} {w:World} (h:VF W n 0 2 w):VF W n 4 1 (w.setCell ⟨n+4,7,none⟩ (.slice (some ⟨n+3,4,none⟩) 1 1)) :=
 ⟨h.p.other (by show n+4≠n+1;omega) _,h.e.other (by show n+4≠n+2;omega) _,h.d.other (by show n+4≠n+3;omega) _,h.g.set 7 _,h.a.other (by show n+4≠n+5;omega) _,h.t.other (by show n+4≠n+6;omega) _,h.r.other (by show n+4≠n+7;omega) _,h.mod.setNew (by show W.heap.size<=n+4;have:=h.ord;omega) _,h.ord⟩
theorem VF.normal {W:World} {n o k:Nat} {w:World} (h:VF W n o k w) (x:Int) (hx:-1000000<=x/\x<=1000000):Calls Try.prog 10 #[.agg (exC n),.slice (some ⟨w.heap.size,0,none⟩) 1 1] (w.alloc (.cells #[.int .i64 x] 3)) (NormRes (Vr.normR [exA] [x]) (w.alloc (.cells #[.int .i64 x] 3))) :=
 normal_any 1000 _ _ _ _ ⟨some ⟨n+5,0,none⟩,1,1⟩ _ _ _ ⟨some ⟨w.heap.size,0,none⟩,1,1⟩ [exA] [x] 0 0 _ (VF.stays _ _ h ((Mod.refl _ _).alloc _)).axes (by decide) (place_one w x hx)
theorem VF.nothing {W:World} {n o k:Nat} {w:World} (h:VF W n o k w):Calls Try.prog 10 #[.agg (exC n),.slice none 0 0] w (NormRes (Vr.normR [exA] []) w) :=
 normal_any 1000 _ _ _ _ ⟨some ⟨n+5,0,none⟩,1,1⟩ _ _ _ ⟨none,0,0⟩ [exA] [] 0 0 _ h.axes (by decide) (Rows.nil w)
theorem exG_small (ds:List DDelta) (h:ds.length<=2):GSmall (exG ds):=⟨show 2*24<=140737488351232 by decide,show 1*8<=140737488351232 by decide,Nat.zero_le _,Nat.zero_le _,by show ds.length*32<=_;omega,Nat.zero_le _⟩
theorem VF.glyph {W:World} {n o k:Nat} {w:World} {ds:List DDelta} (h:VF W n o k w) (hd:∀ w,VF W n o k w->Rows 4 RDelta 0 w (.slice (some ⟨n+3,o,none⟩) k k) ds) (hl:ds.length<=2) (x:Int) (hx:-1000000<=x/\x<=1000000) :
  Calls Try.prog 11 #[.agg (exC n),.int .i64 0,.slice (some ⟨w.heap.size,0,none⟩) 1 1] (w.alloc (.cells #[.int .i64 x] 3)) (VGRes (Vr.atGlyph [exA] [exR] [x] (exG ds)) (w.alloc (.cells #[.int .i64 x] 3))) :=
 have h2:=VF.stays _ _ h ((Mod.refl _ _).alloc (.cells #[.int .i64 x] 3))
 vglyph_any 1000 ⟨some ⟨n+4,0,none⟩,1,1⟩ _ _ _ ⟨some ⟨n+5,0,none⟩,1,1⟩ ⟨some ⟨n+7,0,none⟩,1,1⟩ _ _ ⟨some ⟨w.heap.size,0,none⟩,1,1⟩ [exG ds] [exR] [exA] [x] 0 0 _ 0 (exG ds) rfl (h2.glyphs (hd _ h2)) h2.regions h2.axes (by decide) (place_one w x hx) (exG_small ds hl)
theorem VF.inst {W:World} {n:Nat} {w:World} (h:VF W n 4 1 w) (x:Int) (hx:-1000000<=x/\x<=1000000) :
  Calls Try.prog 6 #[.agg (exC n),.slice (some ⟨w.heap.size,0,none⟩) 1 1] (w.alloc (.cells #[.int .i64 x] 3)) (VFRes (Vr.fontR (exF [exD1]) [x]) (w.alloc (.cells #[.int .i64 x] 3))) :=
 have h2:=VF.stays _ _ h ((Mod.refl _ _).alloc (.cells #[.int .i64 x] 3))
 vfont_any 1000 _ _ _ _ _ _ _ _ ⟨some ⟨w.heap.size,0,none⟩,1,1⟩ (exF [exD1]) rfl [x] 0 0 _ (h2.font h2.less) (by decide) (place_one w x hx)
  ⟨⟨by decide,fun g hg=>by
    obtain rfl:g=exG [exD1]:=by simpa [exF] using hg
    exact exG_small _ (by decide)⟩,by decide,⟨by decide,fun _ h=>by cases h⟩,⟨by decide,fun _ h=>by cases h⟩,by decide,by decide⟩
structure ES (W:World) (n fb:Nat) (w:World):Prop where
 b:Blk w fb (exC n) 31
 f:VF W n 4 1 w
theorem ES.stays {W:World} {n fb:Nat}:Stays (ES W n fb):=fun w w' h m=>⟨h.b.kept m (by simp),VF.stays _ _ h.f m⟩
theorem ES.cells {W:World} {n fb:Nat} {w:World} (h:ES W n fb w):w.cell? ⟨fb,0,none⟩=some (.int .i64 1000)/\w.cell? ⟨fb,1,none⟩=some (.slice (some ⟨n+4,0,none⟩) 1 1)/\w.cell? ⟨fb,2,none⟩=some (.slice none 0 0)/\w.cell? ⟨fb,3,none⟩=some (.slice none 0 0)/\w.cell? ⟨fb,4,none⟩=some (.slice none 0 0)/\w.cell? ⟨fb,5,none⟩=some (.slice (some ⟨n+5,0,none⟩) 1 1)/\w.cell? ⟨fb,6,none⟩=some (.slice (some ⟨n+7,0,none⟩) 1 1)/\w.cell? ⟨fb,7,none⟩=some (.slice none 0 0)/\w.cell? ⟨fb,8,none⟩=some (.slice none 0 0) :=
 ⟨h.b.cell 0,h.b.cell 1,h.b.cell 2,h.b.cell 3,h.b.cell 4,h.b.cell 5,h.b.cell 6,h.b.cell 7,h.b.cell 8⟩
theorem at0 (a:Addr):a.add 0=a:=by unfold Addr.add;split <;> simp_all
theorem rat_cells {w:World} {h:Hd} {p:Int×Int} (hr:Rows 2 RRat 0 w (.slice h.a h.n h.c) [p]):∃ a c,h=⟨some a,1,c⟩/\w.cell? a=some (.int .i64 p.1)/\w.cell? ⟨a.block,a.off+1,none⟩=some (.int .i64 p.2):=by
 obtain ⟨oa,n,c⟩:=h;obtain ⟨_,_,e,-⟩:=hr.form;cases e;obtain ⟨a,rfl,-,cs,-,h0,hj,rfl,-⟩:=hr.at 0 (Nat.zero_lt_succ _);exact ⟨a,c,rfl,by simpa [at0] using h0 (by decide),by simpa [at0] using hj 1 (by decide) (by decide)⟩
theorem point_cells {w:World} {v:Value} {p q:DPoint} (hr:Rows 3 RPoint 0 w v [p,q]):∃ a c,v=.slice (some a) 2 c/\w.cell? a=some (.int .i64 p.x)/\w.cell? ⟨a.block,a.off+1,none⟩=some (.int .i64 p.y)/\w.cell? ⟨a.block,a.off+2,none⟩=some (.bool p.on):=by
 obtain ⟨oa,c,rfl,-⟩:=hr.form;obtain ⟨a,rfl,-,cs,-,h0,hj,rfl,-⟩:=hr.at 0 (Nat.zero_lt_succ _);exact ⟨a,c,rfl,by simpa [at0] using h0 (by decide),by simpa [at0] using hj 1 (by decide) (by decide),by simpa [at0] using hj 2 (by decide) (by decide)⟩
theorem out_form {B:Nat} {w:World} {cs:List Value} {x y:Int} (h:RGlyph B w cs (exO x y)):∃ a c oe ce og cg oh ch oi ci oj cj,cs=[.string exName,.int .i64 5,.bool false,.slice (some a) 2 c,.slice oe 1 ce,.slice og 0 cg,.slice oh 0 ch,.slice oi 0 ci,.slice oj 0 cj] /\
  w.cell? a=some (.int .i64 x)/\w.cell? ⟨a.block,a.off+1,none⟩=some (.int .i64 y)/\w.cell? ⟨a.block,a.off+2,none⟩=some (.bool false):=by
 obtain ⟨v3,v4,v5,v6,v7,v8,rfl,-,-,h3,h4,h5,h6,h7,h8⟩:=h;obtain ⟨a,c,rfl,p⟩:=point_cells (h3.lower RPoint.lower (Nat.zero_le _));obtain ⟨oe,ce,rfl,-⟩:=h4.form;obtain ⟨og,cg,rfl,-⟩:=h5.form;obtain ⟨oh,ch,rfl,-⟩:=h6.form;obtain ⟨oi,ci,rfl,-⟩:=h7.form;obtain ⟨oj,cj,rfl,-⟩:=h8.form;exact ⟨a,c,oe,ce,og,cg,oh,ch,oi,ci,oj,cj,rfl,p⟩
theorem inst_form {B:Nat} {w:World} {cs:List Value} {x y:Int} (h:RFont B w cs ⟨1000,[exO x y],[],[],[],[],[],[],[]⟩):∃ ga gc c2 d2 c3 d3 c4 d4 c5 d5 c6 d6 c7 d7 c8 d8 a c oi ci,cs=[.int .i64 1000,.slice (some ga) 1 gc,.slice c2 0 d2,.slice c3 0 d3,.slice c4 0 d4,.slice c5 0 d5,.slice c6 0 d6,.slice c7 0 d7,.slice c8 0 d8] /\
  w.cell? ⟨ga.block,ga.off+3,none⟩=some (.slice (some a) 2 c)/\w.cell? ⟨ga.block,ga.off+7,none⟩=some (.slice oi 0 ci) /\
  w.cell? a=some (.int .i64 x)/\w.cell? ⟨a.block,a.off+1,none⟩=some (.int .i64 y)/\w.cell? ⟨a.block,a.off+2,none⟩=some (.bool false):=by
 obtain ⟨v1,v2,v3,v4,v5,v6,v7,v8,rfl,-,h1,h2,h3,h4,h5,h6,h7,h8⟩:=h;obtain ⟨_,gc,rfl,-⟩:=h1.form;obtain ⟨c2,d2,rfl,-⟩:=h2.form;obtain ⟨c3,d3,rfl,-⟩:=h3.form;obtain ⟨c4,d4,rfl,-⟩:=h4.form;obtain ⟨c5,d5,rfl,-⟩:=h5.form;obtain ⟨c6,d6,rfl,-⟩:=h6.form;obtain ⟨c7,d7,rfl,-⟩:=h7.form;obtain ⟨c8,d8,rfl,-⟩:=h8.form;obtain ⟨ga,rfl,-,cs,-,-,hj,hG⟩:=h1.at 0 (Nat.zero_lt_succ _);obtain ⟨a,c,oe,ce,og,cg,oh,ch,oi,ci,oj,cj,rfl,p⟩:=out_form hG;exact ⟨ga,gc,c2,d2,c3,d3,c4,d4,c5,d5,c6,d6,c7,d7,c8,d8,a,c,oi,ci,rfl,by simpa [at0] using hj 3 (by decide) (by decide),by simpa [at0] using hj 7 (by decide) (by decide),p⟩
set_option maxHeartbeats 8000000 in
theorem varied_true (w:World):Calls Try.prog 5 #[] w fun e w'=>e=.returned (.bool true)/\Below w.heap.size w w':=by
 go_enter Try.func5,Try.ntmps5;go_wp2_with fail;refine (exfont_any _).mono ?_;rintro e w1 ⟨rfl,hF⟩;have HF:=Hi hF;obtain ⟨n,hn⟩:∃ n,n=w.heap.size:=⟨_,rfl⟩
 rw [<- hn] at HF ⊢;clear hF hn;unfold exC fontCells;simp only;go_upto_region 2 with fail;have al:Mod [] w1 (w1.alloc (.cells (exC n) 31)):=(Mod.refl _ _).alloc _;have HF2:=Hi (VF.stays _ _ HF.out al);have HB:=Hi (Blk.new w1 (exC n) 31);have HO:Hid (w1.heap.size≠n+4):=Nat.ne_of_gt HF.out.g.lt;clear al HF;unfold exC fontCells at HF2 HB;simp only at HF2 HB;generalize w1.alloc (.cells #[.int .i64 1000,.slice (some ⟨n+4,0,none⟩) 1 1,.slice none 0 0,.slice none 0 0,.slice none 0 0,.slice (some ⟨n+5,0,none⟩) 1 1,.slice (some ⟨n+7,0,none⟩) 1 1,.slice none 0 0,.slice none 0 0] 31)=w2 at *
 generalize w1.heap.size=fb at *
 have A0:=HB.out.every;have A1:=HF2.out.g.every;unfold exGC at A1;refine wp_region_mask 10 [true,true,true,true,true,true,true,true,true,true] [] (by kernel_rfl) (by kernel_rfl) (by simp) ?_;simp only [pickM]
 iterate 10
  refine sv ?_
 refine steady_done ?_;refine lates_end (fun w' hw' _=>?_);simp only [List.drop_succ_cons,List.drop_zero];have f7:=(VF.stays _ _ HF2.out hw').g.frozen 7;have d7:w'.cell? ⟨n+4,7,none⟩=some (.slice (some ⟨n+3,0,none⟩) 2 2):=(VF.stays _ _ HF2.out hw').g.cell 7;clear A0 A1;go_upto_region 3 with fail;clear f7 d7;have HS:Hid (ES w n fb (w'.setCell ⟨n+4,7,none⟩ (.slice (some ⟨n+3,4,none⟩) 1 1))):=⟨(HB.out.kept hw' (by simp)).other (by show n+4≠fb;exact HO.out.symm) _,(VF.stays _ _ HF2.out hw').set⟩
 clear hw' HF2 HB HO;generalize w'.setCell ⟨n+4,7,none⟩ (.slice (some ⟨n+3,4,none⟩) 1 1)=w3 at *
 obtain ⟨q0,q1,q2,q3,q4,q5,q6,q7,q8⟩:=HS.out.cells;have C:=HS.out.f.normal 650 (by decide);rw [ex_n650] at C;unfold exC fontCells at C;simp only at C;have HC:=Hi C;clear C;go_wp2_with fail;refine HC.out.mono ?_;rintro e w4 ⟨m4,hd,rfl,hR⟩;obtain ⟨ra,rc,rfl,r0,r1⟩:=rat_cells hR;have HS4:=Hi (ES.stays _ _ HS.out (((Mod.refl _ _).alloc (.cells #[.int .i64 650] 3)).then m4));have HR:Hid (w4.cell? ra=some (.int .i64 1)/\w4.cell? ⟨ra.block,ra.off+1,none⟩=some (.int .i64 2)/\Rows 2 RRat 0 w4 (.slice (some ra) 1 rc) [(1,2)]):=⟨r0,r1,hR⟩
 clear q0 q1 q2 q3 q4 q5 q6 q7 q8 HC m4 r0 r1 hR HS;go_upto_region 4 with fail;obtain ⟨q0,q1,q2,q3,q4,q5,q6,q7,q8⟩:=HS4.out.cells;have C:=HS4.out.f.nothing;rw [ex_n0] at C;unfold exC fontCells at C;simp only at C;have HC:=Hi C;clear C;go_wp2_with fail;refine HC.out.mono ?_;rintro e w5 ⟨m5,-,rfl⟩;have HS5:=Hi (ES.stays _ _ HS4.out m5);have M5:=Hi m5;clear q0 q1 q2 q3 q4 q5 q6 q7 q8 HC m5 HS4;go_upto_region 5 with fail;obtain ⟨q0,q1,q2,q3,q4,q5,q6,q7,q8⟩:=HS5.out.cells;have C:=HS5.out.f.normal 901 (by decide);rw [ex_n901] at C;unfold exC fontCells at C;simp only at C;have HC:=Hi C;clear C;go_wp2_with fail;refine HC.out.mono ?_;rintro e w6 ⟨m6,-,rfl⟩;have m6':=((Mod.refl _ _).alloc (.cells #[.int .i64 901] 3)).then m6
 have HS6:=Hi (ES.stays _ _ HS5.out m6');have M6:=Hi (M5.out.then m6');clear q0 q1 q2 q3 q4 q5 q6 q7 q8 HC m6 m6' HS5 M5;go_upto_region 6 with fail;obtain ⟨q0,q1,q2,q3,q4,q5,q6,q7,q8⟩:=HS6.out.cells;have C:=HS6.out.f.glyph (fun w h=>h.less) (by decide) 650 (by decide);rw [ex_g650] at C;unfold exC fontCells at C;simp only at C;have HC:=Hi C;clear C;go_wp2_with fail;refine HC.out.mono ?_;rintro e w7 ⟨m7,cs,rfl,hG⟩;obtain ⟨pa,pc,pe,pf,pg,ph,pi,pj,pk,pl,pm,pn,rfl,p0,p1,p2⟩:=out_form hG;have m7':=(((Mod.refl _ _).alloc (.cells #[.int .i64 650] 3)).then m7).alloc (.cells #[.string exName,.int .i64 5,.bool false,.slice (some pa) 2 pc,.slice pe 1 pf,.slice pg 0 ph,.slice pi 0 pj,.slice pk 0 pl,.slice pm 0 pn] 51);have HS7:=Hi (ES.stays _ _ HS6.out m7');have M7:=Hi (M6.out.then m7');have HP:Hid ((w7.alloc (.cells #[.string exName,.int .i64 5,.bool false,.slice (some pa) 2 pc,.slice pe 1 pf,.slice pg 0 ph,.slice pi 0 pj,.slice pk 0 pl,.slice pm 0 pn] 51)).cell? pa=some (.int .i64 12)/\(w7.alloc (.cells #[.string exName,.int .i64 5,.bool false,.slice (some pa) 2 pc,.slice pe 1 pf,.slice pg 0 ph,.slice pi 0 pj,.slice pk 0 pl,.slice pm 0 pn] 51)).cell? ⟨pa.block,pa.off+1,none⟩=some (.int .i64 2)/\(w7.alloc (.cells #[.string exName,.int .i64 5,.bool false,.slice (some pa) 2 pc,.slice pe 1 pf,.slice pg 0 ph,.slice pi 0 pj,.slice pk 0 pl,.slice pm 0 pn] 51)).cell? ⟨pa.block,pa.off+2,none⟩=some (.bool false)):=⟨cell_stays ((Mod.refl _ _).alloc _) p0,cell_stays ((Mod.refl _ _).alloc _) p1,cell_stays ((Mod.refl _ _).alloc _) p2⟩
 have HA:=Hi (Blk.new w7 #[.string exName,.int .i64 5,.bool false,.slice (some pa) 2 pc,.slice pe 1 pf,.slice pg 0 ph,.slice pi 0 pj,.slice pk 0 pl,.slice pm 0 pn] 51);clear q0 q1 q2 q3 q4 q5 q6 q7 q8 HC m7 m7' p0 p1 p2 HS6 M6 hG;go_upto_region 7 with fail;generalize w7.alloc (.cells #[.string exName,.int .i64 5,.bool false,.slice (some pa) 2 pc,.slice pe 1 pf,.slice pg 0 ph,.slice pi 0 pj,.slice pk 0 pl,.slice pm 0 pn] 51)=w8 at *
 generalize w7.heap.size=ab at *
 obtain ⟨q0,q1,q2,q3,q4,q5,q6,q7,q8⟩:=HS7.out.cells;have C:=HS7.out.f.glyph (fun w h=>h.less) (by decide) 250 (by decide);rw [ex_g250] at C;unfold exC fontCells at C;simp only at C;have HC:=Hi C;clear C;go_wp2_with fail;refine HC.out.mono ?_;rintro e w9 ⟨m9,cs,rfl,hG⟩;obtain ⟨ua,uc,ue,uf,ug,uh,ui,uj,uk,ul,um,un,rfl,p0,p1,p2⟩:=out_form hG;have m9':=(((Mod.refl _ _).alloc (.cells #[.int .i64 250] 3)).then m9).alloc (.cells #[.string exName,.int .i64 5,.bool false,.slice (some ua) 2 uc,.slice ue 1 uf,.slice ug 0 uh,.slice ui 0 uj,.slice uk 0 ul,.slice um 0 un] 51);have HS9:=Hi (ES.stays _ _ HS7.out m9');have M9:=Hi (M7.out.then m9');have M89:=Hi m9';have HU:Hid ((w9.alloc (.cells #[.string exName,.int .i64 5,.bool false,.slice (some ua) 2 uc,.slice ue 1 uf,.slice ug 0 uh,.slice ui 0 uj,.slice uk 0 ul,.slice um 0 un] 51)).cell? ua=some (.int .i64 7)/\(w9.alloc (.cells #[.string exName,.int .i64 5,.bool false,.slice (some ua) 2 uc,.slice ue 1 uf,.slice ug 0 uh,.slice ui 0 uj,.slice uk 0 ul,.slice um 0 un] 51)).cell? ⟨ua.block,ua.off+1,none⟩=some (.int .i64 0)/\(w9.alloc (.cells #[.string exName,.int .i64 5,.bool false,.slice (some ua) 2 uc,.slice ue 1 uf,.slice ug 0 uh,.slice ui 0 uj,.slice uk 0 ul,.slice um 0 un] 51)).cell? ⟨ua.block,ua.off+2,none⟩=some (.bool false)):=⟨cell_stays ((Mod.refl _ _).alloc _) p0,cell_stays ((Mod.refl _ _).alloc _) p1,cell_stays ((Mod.refl _ _).alloc _) p2⟩
 have HB:=Hi (Blk.new w9 #[.string exName,.int .i64 5,.bool false,.slice (some ua) 2 uc,.slice ue 1 uf,.slice ug 0 uh,.slice ui 0 uj,.slice uk 0 ul,.slice um 0 un] 51);clear q0 q1 q2 q3 q4 q5 q6 q7 q8 HC m9 m9' p0 p1 p2 HS7 M7 hG;go_upto_region 8 with fail;generalize w9.alloc (.cells #[.string exName,.int .i64 5,.bool false,.slice (some ua) 2 uc,.slice ue 1 uf,.slice ug 0 uh,.slice ui 0 uj,.slice uk 0 ul,.slice um 0 un] 51)=w10 at *
 generalize w9.heap.size=bb at *
 go_wp2_with fail;refine (exfont_any _).mono ?_;rintro e w11 ⟨rfl,hF⟩;have C:=hF.glyph (fun w h=>h.full) (by decide) 650 (by decide);rw [ex_over] at C;unfold exC fontCells at C;simp only at C;have HC:=Hi C;have MF:=Hi hF.mod;clear C hF;unfold exC fontCells;simp only;go_wp2_with fail;refine HC.out.mono ?_;rintro e w12 ⟨m12,rfl⟩;unfold zeroGlyphL;have m12':=((MF.out.alloc (.cells #[.int .i64 650] 3)).then m12).alloc (.cells #[.string ⟨#[]⟩,.int .i64 0,.bool false,.slice none 0 0,.slice none 0 0,.slice none 0 0,.slice none 0 0,.slice none 0 0,.slice none 0 0] 51);have HS12:=Hi (ES.stays _ _ HS9.out m12');have M12:=Hi (M9.out.then m12');have M812:=Hi (M89.out.then m12');have M102:=Hi m12';clear HC m12 m12' HS9 M9 M89 MF;go_upto_region 9 with fail;generalize w12.alloc (.cells #[.string ⟨#[]⟩,.int .i64 0,.bool false,.slice none 0 0,.slice none 0 0,.slice none 0 0,.slice none 0 0,.slice none 0 0,.slice none 0 0] 51)=w13 at *
 generalize w12.heap.size=cb at *
 obtain ⟨q0,q1,q2,q3,q4,q5,q6,q7,q8⟩:=HS12.out.cells;have C:=HS12.out.f.inst 900 (by decide);rw [ex_f900] at C;unfold exC fontCells at C;simp only at C;have HC:=Hi C;clear C;go_wp2_with fail;refine HC.out.mono ?_;rintro e w14 ⟨m14,cs,rfl,hI⟩;obtain ⟨ga,gc,c2,d2,c3,d3,c4,d4,c5,d5,c6,d6,c7,d7,c8,d8,za,zc,zo,zd,rfl,g3,g7,p0,p1,p2⟩:=inst_form hI;have al:Mod [] w14 (w14.alloc (.cells #[.int .i64 1000,.slice (some ga) 1 gc,.slice c2 0 d2,.slice c3 0 d3,.slice c4 0 d4,.slice c5 0 d5,.slice c6 0 d6,.slice c7 0 d7,.slice c8 0 d8] 31)):=(Mod.refl _ _).alloc _;have m14':=(((Mod.refl _ _).alloc (.cells #[.int .i64 900] 3)).then m14).then al
 have HS:=Hi (ES.stays _ _ HS12.out m14');have M4:=Hi (M12.out.then m14');have M8:=Hi (M812.out.then m14');have M10:=Hi (M102.out.then m14');have HZ:Hid ((w14.alloc (.cells #[.int .i64 1000,.slice (some ga) 1 gc,.slice c2 0 d2,.slice c3 0 d3,.slice c4 0 d4,.slice c5 0 d5,.slice c6 0 d6,.slice c7 0 d7,.slice c8 0 d8] 31)).cell? ⟨ga.block,ga.off+3,none⟩=some (.slice (some za) 2 zc)/\(w14.alloc (.cells #[.int .i64 1000,.slice (some ga) 1 gc,.slice c2 0 d2,.slice c3 0 d3,.slice c4 0 d4,.slice c5 0 d5,.slice c6 0 d6,.slice c7 0 d7,.slice c8 0 d8] 31)).cell? ⟨ga.block,ga.off+7,none⟩=some (.slice zo 0 zd)/\(w14.alloc (.cells #[.int .i64 1000,.slice (some ga) 1 gc,.slice c2 0 d2,.slice c3 0 d3,.slice c4 0 d4,.slice c5 0 d5,.slice c6 0 d6,.slice c7 0 d7,.slice c8 0 d8] 31)).cell? za=some (.int .i64 17)/\(w14.alloc (.cells #[.int .i64 1000,.slice (some ga) 1 gc,.slice c2 0 d2,.slice c3 0 d3,.slice c4 0 d4,.slice c5 0 d5,.slice c6 0 d6,.slice c7 0 d7,.slice c8 0 d8] 31)).cell? ⟨za.block,za.off+1,none⟩=some (.int .i64 3)/\(w14.alloc (.cells #[.int .i64 1000,.slice (some ga) 1 gc,.slice c2 0 d2,.slice c3 0 d3,.slice c4 0 d4,.slice c5 0 d5,.slice c6 0 d6,.slice c7 0 d7,.slice c8 0 d8] 31)).cell? ⟨za.block,za.off+2,none⟩=some (.bool false)):=⟨cell_stays al g3,cell_stays al g7,cell_stays al p0,cell_stays al p1,cell_stays al p2⟩
 have HI:=Hi (Blk.new w14 #[.int .i64 1000,.slice (some ga) 1 gc,.slice c2 0 d2,.slice c3 0 d3,.slice c4 0 d4,.slice c5 0 d5,.slice c6 0 d6,.slice c7 0 d7,.slice c8 0 d8] 31);clear q0 q1 q2 q3 q4 q5 q6 q7 q8 HC m14 m14' al g3 g7 p0 p1 p2 HS12 M12 M812 M102 hI;go_upto_region 10 with fail;generalize w14.alloc (.cells #[.int .i64 1000,.slice (some ga) 1 gc,.slice c2 0 d2,.slice c3 0 d3,.slice c4 0 d4,.slice c5 0 d5,.slice c6 0 d6,.slice c7 0 d7,.slice c8 0 d8] 31)=w15 at *
 generalize w14.heap.size=ib at *
 have HAB:=Hi (HA.out.kept M8.out (by simp));have HBB:=Hi (HB.out.kept M10.out (by simp));have a3:w15.cell? ⟨ab,3,none⟩=some (.slice (some pa) 2 pc):=HAB.out.cell 3;have b3:w15.cell? ⟨bb,3,none⟩=some (.slice (some ua) 2 uc):=HBB.out.cell 3;have i1:w15.cell? ⟨ib,1,none⟩=some (.slice (some ga) 1 gc):=HI.out.cell 1;obtain ⟨g3,g7,z0,z1,z2⟩:=HZ.out;have HZ2:=Hi g7;clear g7 z0 z1 z2 HA HB;go_upto_region 12 with fail;clear a3 b3 i1 g3;obtain ⟨g3,-,z0,z1,z2⟩:=HZ.out;have HR2:=Hi (And.intro (cell_stays M4.out HR.out.1) (cell_stays M4.out HR.out.2.1));have R0:∀ W,Mod [] w15 W->W.cell? ra=some (.int .i64 1):=fun W m=>cell_stays m HR2.out.1
 have R1:∀ W,Mod [] w15 W->W.cell? ⟨ra.block,ra.off+1,none⟩=some (.int .i64 2):=fun W m=>cell_stays m HR2.out.2
 have P0:∀ W,Mod [] w15 W->W.cell? pa=some (.int .i64 12):=fun W m=>cell_stays m (cell_stays M8.out HP.out.1)
 have P1:∀ W,Mod [] w15 W->W.cell? ⟨pa.block,pa.off+1,none⟩=some (.int .i64 2):=fun W m=>cell_stays m (cell_stays M8.out HP.out.2.1)
 have P2:∀ W,Mod [] w15 W->W.cell? ⟨pa.block,pa.off+2,none⟩=some (.bool false):=fun W m=>cell_stays m (cell_stays M8.out HP.out.2.2)
 have U0:∀ W,Mod [] w15 W->W.cell? ua=some (.int .i64 7):=fun W m=>cell_stays m (cell_stays M10.out HU.out.1)
 have U1:∀ W,Mod [] w15 W->W.cell? ⟨ua.block,ua.off+1,none⟩=some (.int .i64 0):=fun W m=>cell_stays m (cell_stays M10.out HU.out.2.1)
 have U2:∀ W,Mod [] w15 W->W.cell? ⟨ua.block,ua.off+2,none⟩=some (.bool false):=fun W m=>cell_stays m (cell_stays M10.out HU.out.2.2)
 have Z0:∀ W,Mod [] w15 W->W.cell? za=some (.int .i64 17):=fun W m=>cell_stays m z0
 have Z1:∀ W,Mod [] w15 W->W.cell? ⟨za.block,za.off+1,none⟩=some (.int .i64 3):=fun W m=>cell_stays m z1
 have Z2:∀ W,Mod [] w15 W->W.cell? ⟨za.block,za.off+2,none⟩=some (.bool false):=fun W m=>cell_stays m z2
 have G3:∀ W,Mod [] w15 W->W.cell? ⟨ga.block,ga.off+3,none⟩=some (.slice (some za) 2 zc):=fun W m=>cell_stays m g3
 have G7:∀ W,Mod [] w15 W->W.cell? ⟨ga.block,ga.off+7,none⟩=some (.slice zo 0 zd):=fun W m=>cell_stays m HZ2.out
 have A3:∀ W,Mod [] w15 W->W.cell? ⟨ab,3,none⟩=some (.slice (some pa) 2 pc):=fun W m=>cell_stays m (HAB.out.cell 3)
 have B3:∀ W,Mod [] w15 W->W.cell? ⟨bb,3,none⟩=some (.slice (some ua) 2 uc):=fun W m=>cell_stays m (HBB.out.cell 3)
 have I1:∀ W,Mod [] w15 W->W.cell? ⟨ib,1,none⟩=some (.slice (some ga) 1 gc):=fun W m=>cell_stays m (HI.out.cell 1)
 have I5:∀ W,Mod [] w15 W->W.cell? ⟨ib,5,none⟩=some (.slice c5 0 d5):=fun W m=>cell_stays m (HI.out.cell 5)
 have F6:∀ W,Mod [] w15 W->W.cell? ⟨fb,6,none⟩=some (.slice (some ⟨n+7,0,none⟩) 1 1):=fun W m=>cell_stays m (HS.out.b.cell 6)
 have T0:∀ W,Mod [] w15 W->W.cell? ⟨n+7,0,none⟩=some (.slice (some ⟨n+6,0,none⟩) 1 1):=fun W m=>cell_stays m (HS.out.f.r.cell 0)
 have HM:=Hi HS.out.f.mod;have CF:=Hi (fun W (m:Mod [] w15 W)=>ex_fac ▸ factor_any [⟨0,64,64⟩] [(1,2)] (.slice (some ⟨n+6,0,none⟩) 1 1) (.slice (some ra) 1 rc) 0 0 W (VF.stays _ _ HS.out.f m).tents ((HR.out.2.2.mod RRat.stay M4.out).mod RRat.stay m));clear g3 z0 z1 z2 HZ HZ2 HR HR2 HP HU HI HAB HBB HS M4 M8 M10
 as_aux_lemma =>
  refine wp_region_mask 94 [true,true,true,true,true,true,true,true,true,true,true,true,true,true,true,true,true,true,true,true,true,true,true,true,true,true,true,true,true,true,true,true,true,true,true,true,true,true,true,true,true,true,true,true,true,true,true,true,true,true,true,true,true,true,true,true,true,true,true,true,true,true,true,true,true,true,true,true,true,true,true,true,true,true,true,true,true,true,true,true,true,true,true,true,true,true,true,true,true,true,true,true,true,true] [] (by kernel_rfl) (text_ok (by kernel_rfl)) (by simp) ?_;simp only [pickM]
  as_aux_lemma =>
   iterate 15
    refine sv ?_
   refine sc (a':=?_) (fun w' hw' K Q hK=>?_) ?_ ?_;rotate_left
   ·go_wp2_with fail;refine ((fun W m=>CF.out W m) _ hw').mono ?_;rintro e w'' ⟨rfl,m''⟩;go_wp2_with fail;exact hK _ m''
   ·rfl
   as_aux_lemma =>
    iterate 16
     refine sv ?_
    as_aux_lemma =>
     iterate 16
      refine sv ?_
     as_aux_lemma =>
      iterate 16
       refine sv ?_
      as_aux_lemma =>
       iterate 16
        refine sv ?_
       as_aux_lemma =>
        iterate 14
         refine sv ?_
        refine steady_done ?_;refine lates_end (fun w' hw' _=>?_);simp only [List.append_eq,List.cons_append,List.nil_append,List.drop_succ_cons,List.drop_zero];have HE:=Hi (HM.out.then hw');clear R0 R1 P0 P1 P2 U0 U1 U2 Z0 Z1 Z2 G3 G7 A3 B3 I1 I5 F6 T0 hw' CF HM;go_wp2_with fail;go_ret;exact ⟨rfl,HE.out.to_below⟩
end Go.Proofs.Ytlkkhkbafahchaa

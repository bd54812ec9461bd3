/- MkMadeS, MkMadeP, MkMadeA, MkMadeB, MkMadeC, MkMadeD, MkMadeE, MkMade. -/
import Derived.Test.YthheaflbbficgaaGreatGBase
import Derived.Test.YthheaflbbficgaaGreatGRul
import Derived.Test.YthheaflbbficgaaGreatGGly
import Derived.Test.YthheaflbbficgaaGreatGRing
set_option linter.all false
namespace Go.Proofs.YthheaflbbficgaaGreat
open Go.RowKit
set_option maxRecDepth 100000
structure MR (S:Bl) (w:World) (f:MF) (F:DFont):Prop where
 gl:SRows 9 SGlyph S w f.gl F.glyphs
 ch:SRows 2 SChar S w f.ch F.chars
 lk:SRows 3 SLookup S w f.lk F.lookups
 ft:SRows 2 SFeature S w f.ft F.features
 ax:SRows 4 SAxis S w f.ax F.axes
 rg:SRows 1 SRegion S w f.rg F.regions
 fn:SRows 1 SCode S w f.fn F.funcs
 cv:SRows 1 SInt S w f.cv F.cvt
theorem MR.same {S:Bl} {w w':World} {f:MF} {F:DFont} (h:MR S w f F) (m:SameB S w w'):MR S w' f F :=
 ⟨h.gl.same SGlyph.stay m,h.ch.same SChar.stay m,h.lk.same SLookup.stay m,h.ft.same SFeature.stay m,h.ax.same SAxis.stay m,h.rg.same SRegion.stay m,h.fn.same SCode.stay m,h.cv.same SInt.stay m⟩
theorem MR.weak {S S':Bl} {w:World} {f:MF} {F:DFont} (h:MR S w f F) (k:∀ b,b<w.heap.size->S b->S' b):MR S' w f F :=
 ⟨h.gl.weak (by decide) SGlyph.weak k,h.ch.weak (by decide) SChar.weak k,h.lk.weak (by decide) SLookup.weak k,h.ft.weak (by decide) SFeature.weak k,h.ax.weak (by decide) SAxis.weak k,h.rg.weak (by decide) SRegion.weak k,h.fn.weak (by decide) SCode.weak k,h.cv.weak (by decide) SInt.weak k⟩
def zeroF:Array Value:=#[.int .i64 0,nilV,nilV,nilV,nilV,nilV,nilV,nilV,nilV]
structure MD (W:World) (rb m:Nat) (sv:Value) (l:List Int) (f f0:MF) (F:DFont) (B:Nat) (s:Mk.S) (w:World):Prop where
 mkr:MK m sv l f s w
 mod:Mod [] W w
 res:Blk w rb zeroF 32
 rows:MR (fun b=>m<b/\b<B) w f0 F
 ord:W.heap.size<=rb/\rb<m/\m<B/\B<=w.heap.size
section
variable {W:World} {rb m:Nat} {sv:Value} {l:List Int} {f f' f0:MF} {F:DFont} {B B':Nat} {s s':Mk.S} {w w':World} {u:Value}
theorem MD.stays:Stays (MD W rb m sv l f f0 F B s):=fun w w' h k =>
 ⟨MK.stays _ _ h.mkr k,h.mod.then k,h.res.kept k (by simp),h.rows.same (k.same0 _),h.ord.1,h.ord.2.1,h.ord.2.2.1,nT h.ord.2.2.2 k.size⟩
theorem Mod.news {F:List Nat} {w a b:World} (h:Mod [] w a) (k:Mod F a b) (hF:∀ x∈F,w.heap.size<=x):Mod [] w b :=
 ⟨k.os.trans h.os,k.tape.trans h.tape,k.output.trans h.output,nT h.size k.size,fun x hx hn=>(k.block x (Nat.lt_of_lt_of_le hx h.size) (fun hm=>by have:=hF x hm;omega)).trans (h.block x hx hn)⟩
theorem MD.callO {o:List Nat} (h:MD W rb m sv l f f0 F B s w) (k:MK m sv l f' s' w') (k2:Mod (m::o) w w') (ho:∀ b∈o,B<=b):MD W rb m sv l f' f0 F B s' w':=by
 have h1:=h.ord;refine ⟨k,h.mod.news k2 (fun x hx=>?_),h.res.kept k2 (fun hx=>?_),h.rows.same (k2.sameB fun x hx hs=>?_),h1.1,h1.2.1,h1.2.2.1,nT h1.2.2.2 k2.size⟩
 ·rcases List.mem_cons.1 hx with rfl | hx
  ·omega
  ·have:=ho x hx;omega
 ·rcases List.mem_cons.1 hx with rfl | hx
  ·omega
  ·have:=ho _ hx;omega
 ·rcases List.mem_cons.1 hx with rfl | hx
  ·omega
  ·have:=ho x hx;omega
theorem MD.call (h:MD W rb m sv l f f0 F B s w) (k:MK m sv l f' s' w') (k2:Mod [m] w w'):MD W rb m sv l f' f0 F B s' w':=h.callO k k2 (by simp)
theorem MD.grown (h:MD W rb m sv l f f0 F B s w) (k:w.grownBy w' u.ownBlock) (hu:∀ b,u.ownBlock=some b->B<=b):MD W rb m sv l f f0 F B s w':=by
 have h1:=h.ord;exact ⟨h.mkr.grown k fun b hb=>by have:=hu b hb;omega,h.mod.grew k fun b hb=>by have:=hu b hb;omega,h.res.grew k fun hb=>by have:=hu _ hb;omega,h.rows.same (SameB.grown k fun b hb hs=>by have:=hu b hb;omega),h1.1,h1.2.1,h1.2.2.1,nT h1.2.2.2 k.size⟩
theorem MD.put (h:MD W rb m sv l f f0 F B s w) (i:Nat) (v:Value) (he:∀ p lp,(mkC sv p f lp).setIfInBounds i v=mkC sv p f' lp):MD W rb m sv l f' f0 F B s (w.setCell ⟨m,i,none⟩ v):=by
 have h1:=h.ord;have hb:=h.mkr.blk.set i v;rw [he] at hb;exact ⟨⟨hb,h.mkr.num.same SInt.stay (SameB.set w (by simp) _),h.mkr.suf,h.mkr.lp0,h.mkr.lp1⟩,h.mod.setNew (p:=⟨m,i,none⟩) (by show W.heap.size<=m;omega) _,h.res.other (by show m≠rb;omega) _,h.rows.same (SameB.set w (by simp) _),h1.1,h1.2.1,h1.2.2.1,by simpa using h1.2.2.2⟩
theorem MD.reU (h:MD W rb m sv l f f0 F B s w) (x:Value):MD W rb m sv l f { f0 with u:=x } F B s w :=
 ⟨h.mkr,h.mod,h.res,⟨h.rows.gl,h.rows.ch,h.rows.lk,h.rows.ft,h.rows.ax,h.rows.rg,h.rows.fn,h.rows.cv⟩,h.ord⟩
theorem MD.lps (h:MD W rb m sv l f f0 F B s w) (x:Int) (hx0:0<=x) (hx1:x<=1000000):MD W rb m sv l f f0 F B ⟨s.r,x⟩ (w.setCell ⟨m,11,none⟩ (.int .i64 x)):=by
 have h1:=h.ord;exact ⟨⟨h.mkr.blk.set 11 _,h.mkr.num.same SInt.stay (SameB.set w (by simp) _),h.mkr.suf,hx0,hx1⟩,h.mod.setNew (p:=⟨m,11,none⟩) (by show W.heap.size<=m;omega) _,h.res.other (by show m≠rb;omega) _,h.rows.same (SameB.set w (by simp) _),h1.1,h1.2.1,h1.2.2.1,by simpa using h1.2.2.2⟩
theorem MD.up (h:MD W rb m sv l f f0 F B s w) (h1:B<=B') (h2:B'<=w.heap.size):MD W rb m sv l f f0 F B' s w :=
 ⟨h.mkr,h.mod,h.res,h.rows.weak fun b _ hb=>⟨hb.1,by omega⟩,h.ord.1,h.ord.2.1,by have:=h.ord;omega,h2⟩
theorem MD.set (h:MD W rb m sv l f f0 F B s w) {p:Addr} (hp:B<=p.block) (x:Value):MD W rb m sv l f f0 F B s (w.setCell p x):=by
 have h1:=h.ord;exact ⟨h.mkr.set (by omega) _,h.mod.setNew (by omega) _,h.res.other (by omega) _,h.rows.same (SameB.set w (by omega) _),h1.1,h1.2.1,h1.2.2.1,by simpa using h1.2.2.2⟩
end
def zMF:MF:=⟨.int .i64 0,nilV,nilV,nilV,nilV,nilV,nilV,nilV,nilV⟩
def zDF (u:Int):DFont:=⟨u,[],[],[],[],[],[],[],[]⟩
theorem MD.start (w:World) (sv:Value) (l:List Int) (u:Int) (hs:SRows 1 SInt (fun b=>b<w.heap.size) w sv l) :
  MD w w.heap.size (w.heap.size+1) sv l zMF zMF (zDF u) (w.heap.size+2) ⟨l,0⟩ ((w.alloc (.cells zeroF 32)).alloc (.cells (mkC sv 0 zMF 0) 72)):=by
 have m1:Mod [] w (w.alloc (.cells zeroF 32)):=mR.alloc _;have m2:Mod [] (w.alloc (.cells zeroF 32)) ((w.alloc (.cells zeroF 32)).alloc (.cells (mkC sv 0 zMF 0) 72)):=mR.alloc _;have hb:Blk ((w.alloc (.cells zeroF 32)).alloc (.cells (mkC sv 0 zMF 0) 72)) (w.heap.size+1) (mkC sv (l.length - l.length) zMF 0) 72:=by
  have:=Blk.new (w.alloc (.cells zeroF 32)) (mkC sv 0 zMF 0) 72;rw [Nat.sub_self];simpa using this
 refine ⟨⟨hb,((hs.mod SInt.stay (m1.then m2))).weak (by decide) SInt.weak fun b _ h=>by omega,⟨[],rfl⟩,Int.le_refl _,by show (0:Int)<=1000000;decide⟩,m1.then m2,(Blk.new w zeroF 32).kept m2 (by simp),?_,⟨nR _,by omega,by omega,by simp⟩⟩;exact ⟨SRows.nil _,SRows.nil _,SRows.nil _,SRows.nil _,SRows.nil _,SRows.nil _,SRows.nil _,SRows.nil _⟩
structure MG {α:Type} (W:World) (rb m:Nat) (sv:Value) (l:List Int) (f f0:MF) (F:DFont) (B:Nat) (e:TypeId) (k:Nat) (R:Bl->World->List Value->α->Prop) (S:Bl) (v:Value) (L:List α) (s:Mk.S) (w:World):Prop where
 d:MD W rb m sv l f f0 F B s w
 g:Grow B e k R S v L w
 sb:∀ b,S b->m<b
section
variable {α:Type} {W:World} {rb m:Nat} {sv:Value} {l:List Int} {f f' f0:MF} {F:DFont} {B:Nat} {e:TypeId} {k:Nat} {R:Bl->World->List Value->α->Prop} {S S':Bl} {v v' u:Value} {L L':List α} {s s':Mk.S} {w w':World}
theorem MG.stays (hR:SStay R):Stays (MG W rb m sv l f f0 F B e k R S v L s):=fun w w' h k=>⟨MD.stays _ _ h.d k,h.g.mod hR k,h.sb⟩
theorem MG.call (hR:SStay R) (h:MG W rb m sv l f f0 F B e k R S v L s w) (k1:MK m sv l f s' w') (k2:Mod [m] w w'):MG W rb m sv l f f0 F B e k R S v L s' w':=by
 have h1:=h.d.ord;exact ⟨h.d.call k1 k2,h.g.kept hR k2 (fun b hb he=>by have h7:b=m:=mI.1 hb;have:=(h.g.lt b he).1;omega) (fun b hb hs=>by have h7:b=m:=mI.1 hb;have:=h.sb b hs;omega),h.sb⟩
theorem MG.push (h:MG W rb m sv l f f0 F B e k R S v L s w) (hG:Grow B e k R S v' L' w') (g:w.grownBy w' v.ownBlock):MG W rb m sv l f f0 F B e k R S v' L' s w' :=
 ⟨h.d.grown g fun b hb=>(h.g.lt b hb).1,hG,h.sb⟩
theorem MG.store (hR:SStay R) (h:MG W rb m sv l f f0 F B e k R S v L s w) (i:Nat) (x:Value) (he:∀ p lp,(mkC sv p f lp).setIfInBounds i x=mkC sv p f' lp):MG W rb m sv l f' f0 F B e k R S v L s (w.setCell ⟨m,i,none⟩ x):=by
 have h1:=h.d.ord;exact ⟨h.d.put i x he,h.g.set hR (fun hb=>by have h9:B<=m:=(h.g.lt _ hb).1;omega) (fun hs=>by have h9:m<m:=h.sb _ hs;omega) x,h.sb⟩
theorem MG.lps (hR:SStay R) (h:MG W rb m sv l f f0 F B e k R S v L s w) (x:Int) (hx0:0<=x) (hx1:x<=1000000):MG W rb m sv l f f0 F B e k R S v L ⟨s.r,x⟩ (w.setCell ⟨m,11,none⟩ (.int .i64 x)):=by
 have h1:=h.d.ord;exact ⟨h.d.lps x hx0 hx1,h.g.set hR (fun hb=>by have h9:B<=m:=(h.g.lt _ hb).1;omega) (fun hs=>by have h9:m<m:=h.sb _ hs;omega) _,h.sb⟩
theorem MG.set (hR:SStay R) (h:MG W rb m sv l f f0 F B e k R S v L s w) {p:Addr} (hp:B<=p.block) (h1:v.ownBlock≠some p.block) (h2:¬ S p.block) (x:Value):MG W rb m sv l f f0 F B e k R S v L s (w.setCell p x) :=
 ⟨h.d.set hp x,h.g.set hR h1 h2 x,h.sb⟩
theorem MG.setN (hR:SStay R) {b:Nat} (hp:B<=b) (h1:v.ownBlock≠some b) (h2:¬ S b):∀ (vs:List Value) (i:Nat) (w:World),MG W rb m sv l f f0 F B e k R S v L s w->MG W rb m sv l f f0 F B e k R S v L s (setN w b i vs)
 | [],_,_,h=>h
 | x::r,i,_,h=>MG.setN hR hp h1 h2 r (i+1) _ (h.set hR (p:=⟨b,i,none⟩) hp h1 h2 x)
theorem MG.weak (hW:SWeak R) (h:MG W rb m sv l f f0 F B e k R S v L s w) (hS:∀ b,b<w.heap.size->S b->S' b) (hb:∀ b,S' b->m<b):MG W rb m sv l f f0 F B e k R S' v L s w:=⟨h.d,h.g.weak hW hS,hb⟩
theorem MG.rows (hk:0<k) (hW:SWeak R) (h:MG W rb m sv l f f0 F B e k R S v L s w):SRows k R (fun b=>m<b/\b<w.heap.size) w v L:=by
 have h1:=h.d.ord;exact h.g.done hk hW (fun b h2 h3=>⟨h.sb b h3,h2⟩) fun b hb=>by have:=h.g.lt b hb;omega
theorem MG.start (hS:∀ b,S b->m<b) (h:MD W rb m sv l f f0 F B s w):MG W rb m sv l f f0 F w.heap.size e k R S nilV ([]:List α) s w:=⟨h.up h.ord.2.2.2 (nR _),Grow.nil,hS⟩
theorem MG.done (h:MG W rb m sv l f f0 F B e k R S v L s w) {F':DFont} (hr:MR (fun b=>m<b/\b<w.heap.size) w f0 F->MR (fun b=>m<b/\b<w.heap.size) w f F'):MD W rb m sv l f f F' w.heap.size s w:=by
 have h1:=h.d.up h.d.ord.2.2.2 (nR _);exact ⟨h1.mkr,h1.mod,h1.res,hr h1.rows,h1.ord⟩
end
section
variable {W:World} {rb m:Nat} {sv:Value} {l:List Int} {f0:MF} {F:DFont} {B:Nat} {e:TypeId} {S:Bl} {v:Value} {s:Mk.S} {w:World}
theorem MG.doneAx {L:List DAxis} (h:MG W rb m sv l { f0 with ax:=v } f0 F B e 4 SAxis S v L s w):MD W rb m sv l { f0 with ax:=v } { f0 with ax:=v } { F with axes:=L } w.heap.size s w :=
 h.done fun r=>⟨r.gl,r.ch,r.lk,r.ft,h.rows (by decide) SAxis.weak,r.rg,r.fn,r.cv⟩
theorem MG.doneRg {L:List DRegion} (h:MG W rb m sv l { f0 with rg:=v } f0 F B e 1 SRegion S v L s w):MD W rb m sv l { f0 with rg:=v } { f0 with rg:=v } { F with regions:=L } w.heap.size s w :=
 h.done fun r=>⟨r.gl,r.ch,r.lk,r.ft,r.ax,h.rows (by decide) SRegion.weak,r.fn,r.cv⟩
theorem MG.doneFn {L:List (List DIns)} (h:MG W rb m sv l { f0 with fn:=v } f0 F B e 1 SCode S v L s w):MD W rb m sv l { f0 with fn:=v } { f0 with fn:=v } { F with funcs:=L } w.heap.size s w :=
 h.done fun r=>⟨r.gl,r.ch,r.lk,r.ft,r.ax,r.rg,h.rows (by decide) SCode.weak,r.cv⟩
theorem MG.doneCv {L:List Int} (h:MG W rb m sv l { f0 with cv:=v } f0 F B e 1 SInt S v L s w):MD W rb m sv l { f0 with cv:=v } { f0 with cv:=v } { F with cvt:=L } w.heap.size s w :=
 h.done fun r=>⟨r.gl,r.ch,r.lk,r.ft,r.ax,r.rg,r.fn,h.rows (by decide) SInt.weak⟩
theorem MG.doneGl {L:List DGlyph} (h:MG W rb m sv l { f0 with gl:=v } f0 F B e 9 SGlyph S v L s w):MD W rb m sv l { f0 with gl:=v } { f0 with gl:=v } { F with glyphs:=L } w.heap.size s w :=
 h.done fun r=>⟨h.rows (by decide) SGlyph.weak,r.ch,r.lk,r.ft,r.ax,r.rg,r.fn,r.cv⟩
theorem MG.doneCh {L:List DChar} (h:MG W rb m sv l { f0 with ch:=v } f0 F B e 2 SChar S v L s w):MD W rb m sv l { f0 with ch:=v } { f0 with ch:=v } { F with chars:=L } w.heap.size s w :=
 h.done fun r=>⟨r.gl,h.rows (by decide) SChar.weak,r.lk,r.ft,r.ax,r.rg,r.fn,r.cv⟩
theorem MG.doneFt {L:List DFeature} (h:MG W rb m sv l { f0 with ft:=v } f0 F B e 2 SFeature S v L s w):MD W rb m sv l { f0 with ft:=v } { f0 with ft:=v } { F with features:=L } w.heap.size s w :=
 h.done fun r=>⟨r.gl,r.ch,r.lk,h.rows (by decide) SFeature.weak,r.ax,r.rg,r.fn,r.cv⟩
end
def MGv {α:Type} (W:World) (rb m:Nat) (sv:Value) (l:List Int) (f f0:MF) (F:DFont) (B:Nat) (e:TypeId) (k:Nat) (R:Bl->World->List Value->α->Prop) (S:Bl) (n:Nat) (L:List α) (s:Mk.S) (v:Value) (w:World):Prop:=(∃ (oa:Option Addr) (ca:Nat),v=.slice oa n ca)/\MG W rb m sv l f f0 F B e k R S v L s w
theorem MGv.stays {α:Type} {W:World} {rb m:Nat} {sv:Value} {l:List Int} {f f0:MF} {F:DFont} {B:Nat} {e:TypeId} {k:Nat} {R:Bl->World->List Value->α->Prop} {S:Bl} {n:Nat} {L:List α} {s:Mk.S} (hR:SStay R) (v:Value):Stays (MGv W rb m sv l f f0 F B e k R S n L s v):=fun w w' h k=>⟨h.1,MG.stays hR _ _ h.2 k⟩
theorem MG.pushV {α:Type} {W:World} {rb m:Nat} {sv:Value} {l:List Int} {f f0:MF} {F:DFont} {B:Nat} {e:TypeId} {k:Nat} {R:Bl->World->List Value->α->Prop} {S:Bl} {v v':Value} {L:List α} {x:α} {s:Mk.S} {w w':World} (h:MG W rb m sv l f f0 F B e k R S v L s w) (hG:Grow B e k R S v' (L++[x]) w') (g:w.grownBy w' v.ownBlock):MGv W rb m sv l f f0 F B e k R S (L.length+1) (L++[x]) s v' w' :=
 ⟨by obtain ⟨oa,c,he⟩:=hG.form;exact ⟨oa,c,by rw [he,List.length_append];rfl⟩,h.push hG g⟩
theorem MG.other {α:Type} {W:World} {rb m:Nat} {sv:Value} {l:List Int} {f f0:MF} {F:DFont} {B:Nat} {e:TypeId} {k:Nat} {R:Bl->World->List Value->α->Prop} {S:Bl} {v u:Value} {L:List α} {s:Mk.S} {w w':World} (hR:SStay R) (h:MG W rb m sv l f f0 F B e k R S v L s w) (g:w.grownBy w' u.ownBlock) (h1:v.ownBlock=none∨v.ownBlock≠u.ownBlock) (h2:∀ b,u.ownBlock=some b->B<=b/\¬ S b):MG W rb m sv l f f0 F B e k R S v L s w' :=
 ⟨h.d.grown g fun b hb=>(h2 b hb).1,h.g.other hR g h1 fun b hb=>(h2 b hb).2,h.sb⟩
theorem Blk.mkj {m:Nat} {sv:Value} {l:List Int} {f:MF} {o:List Nat} {w W:World} {b:Nat} {c:Array Value} {t:TypeId} (h:Blk w b c t) (k:MkJ m sv l f o w W) (h1:b≠m) (h2:b ∉ o) (j:Nat):W.cell? ⟨b,j,none⟩=c[j]? :=
 (h.kept k.1 (by intro hm;rcases List.mem_cons.1 hm with hm | hm;exact h1 hm;exact h2 hm)).cell j
def RowP {α:Type} (B k:Nat) (R:Bl->World->List Value->α->Prop) (v:Value) (r:List α) (Post:World->Prop) (w:World):Prop:=SRows k R (fun b=>B<=b) w v r/\Post w
theorem RowP.stays {α:Type} {B k:Nat} {R:Bl->World->List Value->α->Prop} {v:Value} {r:List α} {Post:World->Prop} (hR:SStay R) (hP:Stays Post):Stays (RowP B k R v r Post):=fun w w' h k=>⟨h.1.mod hR k,hP _ _ h.2 k⟩
def RowV {α:Type} (B k:Nat) (R:Bl->World->List Value->α->Prop) (r:List α) (Post:World->Prop) (v:Value) (w:World):Prop:=(∃ (oh:Option Addr) (ch:Nat),v=.slice oh r.length ch)/\RowP B k R v r Post w
theorem RowV.stays {α:Type} {B k:Nat} {R:Bl->World->List Value->α->Prop} {r:List α} {Post:World->Prop} (hR:SStay R) (hP:Stays Post) (v:Value):Stays (RowV B k R r Post v):=fun w w' h k=>⟨h.1,RowP.stays hR hP _ _ h.2 k⟩
def NewRow {α:Type} (N B k:Nat) (R:Bl->World->List Value->α->Prop) (t:TypeId) (r:List α) (Post:World->Prop) (v:Value) (w:World):Prop:=∃ nb oh ch,v=.slice (some ⟨nb,0,none⟩) 1 1/\N<=nb/\Blk w nb #[.slice oh r.length ch] t/\RowP B k R (.slice oh r.length ch) r Post w
theorem NewRow.stays {α:Type} {N B k:Nat} {R:Bl->World->List Value->α->Prop} {t:TypeId} {r:List α} {Post:World->Prop} (hR:SStay R) (hP:Stays Post) (v:Value):Stays (NewRow N B k R t r Post v):=fun w w' ⟨nb,oh,ch,h0,h1,h2,h3⟩ k=>⟨nb,oh,ch,h0,h1,h2.kept k (by simp),RowP.stays hR hP _ _ h3 k⟩
theorem SRows.newer {α:Type} {k a b:Nat} {R:Bl->World->List Value->α->Prop} {v:Value} {r:List α} {w:World} (hk:0<k) (hW:SWeak R) (h:SRows k R (fun x=>b<=x) w v r) (hab:a<=b):SRows k R (fun x=>a<=x) w v r:=h.weak hk hW fun x _ hx=>nT hab hx
theorem SRows.apart {α:Type} {B k m:Nat} {R:Bl->World->List Value->α->Prop} {v u:Value} {r:List α} {w:World} (hk:0<k) (hW:SWeak R) (h:SRows k R (fun b=>B<=b) w v r) (hm:m<B) (hu:∀ b,u.ownBlock=some b->b<B):SRows k R (fun b=>m<b/\u.ownBlock≠some b) w v r :=
 h.weak hk hW fun b _ hb=>⟨by omega,fun he=>by have:=hu b he;omega⟩
theorem MD.setLk {W:World} {rb m:Nat} {sv:Value} {l:List Int} {f:MF} {F:DFont} {B:Nat} {s s':Mk.S} {w w':World} {v':Value} {L:List DLookup} (h:MD W rb m sv l f f F B s w) (k:MK m sv l (f.withLk v') s' w') (k2:Mod [m] w w') (hS:SRows 3 SLookup (fun b=>w.heap.size<=b) w' v' L):MD W rb m sv l (f.withLk v') (f.withLk v') { F with lookups:=L } w'.heap.size s' w':=by
 have h1:=h.call k k2;have h2:=h1.up h1.ord.2.2.2 (nR _);have h3:=h.ord;have r:=h2.rows;exact ⟨h2.mkr,h2.mod,h2.res,⟨r.gl,r.ch,hS.weak (by decide) SLookup.weak fun b h5 h6=>⟨by omega,h5⟩,r.ft,r.ax,r.rg,r.fn,r.cv⟩,h2.ord⟩
structure FtSt (W:World) (rb m:Nat) (sv:Value) (l:List Int) (f f0:MF) (F:DFont) (B:Nat) (vr:Value) (L:List DFeature) (C0:Nat) (vt:Value) (T:List Int) (s:Mk.S) (w:World):Prop where
 g:MG W rb m sv l f f0 F B 88 2 SFeature (fun b=>m<b/\b<C0) vr L s w
 gr:Grow C0 3 1 SInt (fun _=>False) vt T w
 sz:C0<=w.heap.size
 lt:B<=C0/\∀ b,vr.ownBlock=some b->b<C0
section
variable {W:World} {rb m:Nat} {sv:Value} {l:List Int} {f f0:MF} {F:DFont} {B:Nat} {vr:Value} {L:List DFeature} {C0:Nat} {vt vt':Value} {T:List Int} {s s':Mk.S} {w w':World}
theorem FtSt.start (h:MG W rb m sv l f f0 F B 88 2 SFeature (fun b=>m<b) vr L s w):FtSt W rb m sv l f f0 F B vr L w.heap.size nilV [] s w :=
 ⟨h.weak SFeature.weak (fun b h1 h2=>⟨h2,h1⟩) fun b hb=>hb.1,Grow.nil,nR _,⟨h.d.ord.2.2.2,fun b hb=>(h.g.lt b hb).2⟩⟩
theorem FtSt.stays:Stays (FtSt W rb m sv l f f0 F B vr L C0 vt T s):=fun w w' h k=>⟨MG.stays SFeature.stay _ _ h.g k,h.gr.mod SInt.stay k,nT h.sz k.size,h.lt⟩
theorem FtSt.call (h:FtSt W rb m sv l f f0 F B vr L C0 vt T s w) (k1:MK m sv l f s' w') (k2:Mod [m] w w'):FtSt W rb m sv l f f0 F B vr L C0 vt T s' w':=by
 have h1:=h.g.d.ord;have h2:=h.lt;exact ⟨h.g.call SFeature.stay k1 k2,h.gr.keptB SInt.stay k2 (by simp;omega) (fun _ h=>h.elim),nT h.sz k2.size,h.lt⟩
theorem FtSt.push {x:Int} (h:FtSt W rb m sv l f f0 F B vr L C0 vt T s w) (hG:Grow C0 3 1 SInt (fun _=>False) vt' (T++[x]) w') (k:w.grownBy w' vt.ownBlock):FtSt W rb m sv l f f0 F B vr L C0 vt' (T++[x]) s w':=by
 have h2:=h.lt;have h3:=h.gr.lt;exact ⟨h.g.other SFeature.stay k (h.g.g.ne h.gr (by decide)) fun b hb=>⟨by have:=(h3 b hb).1;omega,fun hs=>by have:=(h3 b hb).1;omega⟩,hG,nT h.sz k.size,h.lt⟩
theorem FtSt.fin (h:FtSt W rb m sv l f f0 F B vr L C0 vt T s w):MG W rb m sv l f f0 F B 88 2 SFeature (fun b=>m<b) vr L s w:=h.g.weak SFeature.weak (fun b _ hb=>hb.1) fun b hb=>hb
theorem FtSt.one (nm:ByteArray) (h:FtSt W rb m sv l f f0 F B vr L C0 vt T s w):∀ u∈[[Value.string nm,vt]].flatten,u.oneCell'=true:=by
 intro u hu;simp only [List.flatten_cons,List.flatten_nil,List.append_nil,List.mem_cons,List.not_mem_nil,or_false] at hu;obtain ⟨oa,c,he⟩:=h.gr.form;rcases hu with rfl | rfl
 ·rfl
 ·rw [he];rfl
theorem FtSt.elem {nm:ByteArray} (hn:nm.size<=maxLen) (h:FtSt W rb m sv l f f0 F B vr L C0 vt T s w):Elems 2 SFeature (fun b=>m<b/\vr.ownBlock≠some b) w [[.string nm,vt]] [⟨nm,T⟩]:=by
 have h1:=h.g.d.ord;have h2:=h.lt;refine Elems.one rfl ⟨vt,rfl,hn,h.gr.done (by decide) SInt.weak (fun _ _ h=>h.elim) fun b hb=>⟨by have:=(h.gr.lt b hb).1;omega,fun he=>?_⟩⟩;have h3:=h2.2 b he;have h4:=(h.gr.lt b hb).1;omega
end
theorem MD.blkKept {W:World} {rb m:Nat} {sv:Value} {l:List Int} {f f0:MF} {F:DFont} {B:Nat} {s:Mk.S} {w w':World} (_h:MD W rb m sv l f f0 F B s w) {b:Nat} {c:Array Value} {t:TypeId} (hb:Blk w b c t) (hm:b≠m) (k2:Mod [m] w w'):Blk w' b c t:=hb.kept k2 (by simpa using hm)
structure RgSt (W:World) (rb m:Nat) (sv:Value) (l:List Int) (f f0:MF) (F:DFont) (B:Nat) (vr:Value) (L:List DRegion) (gb C0:Nat) (vt:Value) (T:List DTent) (s:Mk.S) (w:World):Prop where
 g:MG W rb m sv l f f0 F B 79 1 SRegion (fun b=>m<b/\b<gb) vr L s w
 blk:Blk w gb #[vt] 79
 gr:Grow C0 81 3 STent (fun _=>False) vt T w
 lt:B<=gb/\gb<C0/\∀ b,vr.ownBlock=some b->b<gb
section
variable {W:World} {rb m:Nat} {sv:Value} {l:List Int} {f f0:MF} {F:DFont} {B:Nat} {vr:Value} {L:List DRegion} {gb C0:Nat} {vt vt':Value} {T:List DTent} {s s':Mk.S} {w w':World}
theorem RgSt.start (h:MG W rb m sv l f f0 F B 79 1 SRegion (fun b=>m<b) vr L s w):RgSt W rb m sv l f f0 F B vr L w.heap.size (w.heap.size+1) nilV [] s (w.alloc (.cells #[nilV] 79)):=by
 have al:Mod [] w (w.alloc (.cells #[nilV] 79)):=mR.alloc _;exact ⟨MG.stays SRegion.stay _ _ (h.weak SRegion.weak (fun b h1 h2=>⟨h2,h1⟩) fun b hb=>hb.1) al,Blk.new _ _ _,Grow.nil,⟨h.d.ord.2.2.2,Nat.lt_succ_self _,fun b hb=>(h.g.lt b hb).2⟩⟩
theorem RgSt.stays:Stays (RgSt W rb m sv l f f0 F B vr L gb C0 vt T s):=fun w w' h k=>⟨MG.stays SRegion.stay _ _ h.g k,h.blk.kept k (by simp),h.gr.mod STent.stay k,h.lt⟩
theorem RgSt.call (h:RgSt W rb m sv l f f0 F B vr L gb C0 vt T s w) (k1:MK m sv l f s' w') (k2:Mod [m] w w'):RgSt W rb m sv l f f0 F B vr L gb C0 vt T s' w':=by
 have h1:=h.g.d.ord;have h2:=h.lt;exact ⟨h.g.call SRegion.stay k1 k2,h.blk.kept k2 (by simp;omega),h.gr.keptB STent.stay k2 (by simp;omega) (fun _ h=>h.elim),h.lt⟩
theorem RgSt.push {x:DTent} (h:RgSt W rb m sv l f f0 F B vr L gb C0 vt T s w) (hG:Grow C0 81 3 STent (fun _=>False) vt' (T++[x]) w') (k:w.grownBy w' vt.ownBlock):MG W rb m sv l f f0 F B 79 1 SRegion (fun b=>m<b/\b<gb) vr L s w'/\Blk w' gb #[vt] 79:=by
 have h1:=h.g.d.ord;have h2:=h.lt;have h3:=h.gr.lt;exact ⟨h.g.other SRegion.stay k (h.g.g.ne h.gr (by decide)) fun b hb=>⟨by have:=(h3 b hb).1;omega,fun hs=>by have:=(h3 b hb).1;omega⟩,h.blk.grew k fun hb=>by have:=(h3 _ hb).1;omega⟩
theorem RgSt.store (h:MG W rb m sv l f f0 F B 79 1 SRegion (fun b=>m<b/\b<gb) vr L s w/\Blk w gb #[vt] 79) (hG:Grow C0 81 3 STent (fun _=>False) vt' T w) (hl:B<=gb/\gb<C0/\∀ b,vr.ownBlock=some b->b<gb):RgSt W rb m sv l f f0 F B vr L gb C0 vt' T s (w.setCell ⟨gb,0,none⟩ vt') :=
 ⟨h.1.set SRegion.stay (p:=⟨gb,0,none⟩) hl.1 (fun he=>Nat.lt_irrefl _ (hl.2.2 _ he)) (fun hs=>Nat.lt_irrefl _ hs.2) vt',h.2.set 0 vt',hG.set STent.stay (fun he=>by have:C0<=gb:=(hG.lt _ he).1;omega) (fun h=>h) vt',hl⟩
theorem RgSt.fin (h:RgSt W rb m sv l f f0 F B vr L gb C0 vt T s w):MG W rb m sv l f f0 F B 79 1 SRegion (fun b=>m<b) vr L s w:=h.g.weak SRegion.weak (fun b _ hb=>hb.1) fun b hb=>hb
theorem RgSt.one (h:RgSt W rb m sv l f f0 F B vr L gb C0 vt T s w):∀ u∈[[vt]].flatten,u.oneCell'=true:=by
 intro u hu;simp only [List.flatten_cons,List.flatten_nil,List.append_nil,List.mem_cons,List.not_mem_nil,or_false] at hu;obtain ⟨oa,c,he⟩:=h.gr.form;subst hu;rw [he];rfl
theorem RgSt.elem (h:RgSt W rb m sv l f f0 F B vr L gb C0 vt T s w):Elems 1 SRegion (fun b=>m<b/\vr.ownBlock≠some b) w [[vt]] [⟨T⟩]:=by
 have h1:=h.g.d.ord;have h2:=h.lt;refine Elems.one rfl ⟨vt,rfl,h.gr.done (by decide) STent.weak (fun _ _ h=>h.elim) fun b hb=>⟨by have:=(h.gr.lt b hb).1;omega,fun he=>?_⟩⟩;have h3:=h2.2.2 b he;have h4:=(h.gr.lt b hb).1;omega
end
def axF:Nat->List DAxis->Mk.M (List DAxis):=fun i l s=>Mk.bind (Mk.next 3 s) fun a s=>Mk.bind (Mk.next 4 s) fun b s=>(l++[⟨(⟨#[97,120]⟩:ByteArray)++Mk.letter i,0 - a*100,0,b*100⟩],s)
theorem Mk.axes_eq (k:Nat) (s:Mk.S):Mk.axes k s=Mk.rep k axF [] s:=rfl
theorem axC_elem {S:Bl} {w:World} {n:ByteArray} {a b:Int} (hn:n.size<=maxLen) (ha:0<=a/\a<3) (hb:0<=b/\b<4):SAxis S w [.string n,.int .i64 (-(a*100)),.int .i64 0,.int .i64 (b*100)] ⟨n,-(a*100),0,b*100⟩ :=
 ⟨rfl,hn,I64.of (x:=-(a*100)) (by omega) (by omega),I64.of (x:=0) (by omega) (by omega),I64.of (x:=b*100) (by omega) (by omega)⟩
def unitsA:Array Value:=#[.int .i64 1000,.int .i64 1024,.int .i64 100,.int .i64 2048]
theorem unitsA_at (Q:Nat) (h:Q<4):unitsA[Q]?=some (.int .i64 (Mk.units.getD Q 0)):=by
 match Q,h with
 | 0,_=>rfl
 | 1,_=>rfl
 | 2,_=>rfl
 | 3,_=>rfl
def tnF:Nat->List DTent->Mk.M (List DTent):=fun _ l s=>Mk.bind (Mk.next 5 s) fun t s=>(l++[Mk.tents.getD t.toNat ⟨0,0,0⟩],s)
def rgF (k:Nat):Nat->List DRegion->Mk.M (List DRegion):=fun _ l s=>Mk.bind (Mk.region k s) fun x s=>(l++[x],s)
def tentsA:Array Value:=#[.int .i64 0,.int .i64 64,.int .i64 64,.int .i64 0,.int .i64 32,.int .i64 64,.int .i64 (-64),.int .i64 (-64),.int .i64 0,.int .i64 (-1),.int .i64 0,.int .i64 5,.int .i64 10,.int .i64 32,.int .i64 50]
def tentQ (Q:Nat):DTent:=Mk.tents.getD Q ⟨0,0,0⟩
theorem tentsA_at (Q:Nat) (h:Q<5):tentsA[Q*3]?=some (.int .i64 (tentQ Q).start)/\tentsA[Q*3+1]?=some (.int .i64 (tentQ Q).peak)/\tentsA[Q*3+2]?=some (.int .i64 (tentQ Q).stop)/\I64 (tentQ Q).start/\I64 (tentQ Q).peak/\I64 (tentQ Q).stop:=by
 match Q,h with
 | 0,_=>exact ⟨rfl,rfl,rfl,I64.of (by decide) (by decide),I64.of (by decide) (by decide),I64.of (by decide) (by decide)⟩
 | 1,_=>exact ⟨rfl,rfl,rfl,I64.of (by decide) (by decide),I64.of (by decide) (by decide),I64.of (by decide) (by decide)⟩
 | 2,_=>exact ⟨rfl,rfl,rfl,I64.of (by decide) (by decide),I64.of (by decide) (by decide),I64.of (by decide) (by decide)⟩
 | 3,_=>exact ⟨rfl,rfl,rfl,I64.of (by decide) (by decide),I64.of (by decide) (by decide),I64.of (by decide) (by decide)⟩
 | 4,_=>exact ⟨rfl,rfl,rfl,I64.of (by decide) (by decide),I64.of (by decide) (by decide),I64.of (by decide) (by decide)⟩
def fnF:Nat->List (List DIns)->Mk.M (List (List DIns)):=fun i l s=>Mk.bind (Mk.hint 6 i 4 ⟨s.r,0⟩) fun h s=>(l++[h],s)
def cvF:Nat->List Int->Mk.M (List Int):=fun _ l s=>Mk.bind (Mk.next 500 s) fun x s=>(l++[x - 100],s)
def glF (nr nf:Nat):Nat->List DGlyph->Mk.M (List DGlyph):=fun i l s=>Mk.bind (Mk.glyph i nr nf s) fun g s=>(l++[g],s)
theorem rep_len {α:Type} {f:Nat->List α->Mk.M (List α)} (hf:∀ i L s,(f i L s).1.length=L.length+1) (n:Nat) (s:Mk.S):(Mk.rep n f [] s).1.length=n :=
 Mk.rep_inv (f:=f) (fun i L=>L.length=i) rfl fun i L s _ h=>by rw [hf,h]
theorem regions_len (k:Nat) (s:Mk.S):(Mk.regions k s).1.length<=20:=by
 unfold Mk.regions
 split
 ·have h1:=Mk.next_lt 4 s (by decide);have h2:=rep_len (f:=rgF k) (fun _ _ _=>List.length_append) (Mk.next 4 s).1.toNat (Mk.next 4 s).2;have h3:((Mk.bind (Mk.next 4 s) fun n s=>Mk.rep n.toNat (rgF k) [] s).1).length=(Mk.next 4 s).1.toNat:=h2;refine nT (Nat.le_of_eq h3) ?_;omega
 ·exact Nat.zero_le _
def chF (n:Nat):Nat->List DChar->Mk.M (List DChar):=fun i l s=>Mk.bind (Mk.next 4 s) fun z s=>if 0<z then Mk.bind (Mk.next n s) fun g s=>(l++[⟨Mk.runes.getD i 0,g⟩],s) else (l,s)
def ftR:Nat->List Int->Mk.M (List Int):=fun k row s=>Mk.bind (Mk.next 3 s) fun z s=>(if z=0 then row++[(k:Int)] else row,s)
def ftF (n:Nat):Nat->List DFeature->Mk.M (List DFeature):=fun i l s=>Mk.bind (Mk.rep n ftR [] s) fun row s=>Mk.bind (Mk.next 2 s) fun z s=>(if z=0 then l++[⟨Mk.names.getD i ByteArray.empty,row⟩] else l,s)
def runesA:Array Value:=#[.int .i64 97,.int .i64 98,.int .i64 99,.int .i64 102,.int .i64 105,.int .i64 108,.int .i64 57345,.int .i64 57346,.int .i64 57601,.int .i64 57602,.int .i64 57603,.int .i64 57857,.int .i64 57861,.int .i64 58113,.int .i64 58114,.int .i64 58369]
theorem runesA_at:∀ (i:Nat),i<16->runesA[i]?=some (.int .i64 (Mk.runes.getD i 0))/\I64 (Mk.runes.getD i 0)
 | 0,_=>⟨rfl,I64.of (by decide) (by decide)⟩
 | 1,_=>⟨rfl,I64.of (by decide) (by decide)⟩
 | 2,_=>⟨rfl,I64.of (by decide) (by decide)⟩
 | 3,_=>⟨rfl,I64.of (by decide) (by decide)⟩
 | 4,_=>⟨rfl,I64.of (by decide) (by decide)⟩
 | 5,_=>⟨rfl,I64.of (by decide) (by decide)⟩
 | 6,_=>⟨rfl,I64.of (by decide) (by decide)⟩
 | 7,_=>⟨rfl,I64.of (by decide) (by decide)⟩
 | 8,_=>⟨rfl,I64.of (by decide) (by decide)⟩
 | 9,_=>⟨rfl,I64.of (by decide) (by decide)⟩
 | 10,_=>⟨rfl,I64.of (by decide) (by decide)⟩
 | 11,_=>⟨rfl,I64.of (by decide) (by decide)⟩
 | 12,_=>⟨rfl,I64.of (by decide) (by decide)⟩
 | 13,_=>⟨rfl,I64.of (by decide) (by decide)⟩
 | 14,_=>⟨rfl,I64.of (by decide) (by decide)⟩
 | 15,_=>⟨rfl,I64.of (by decide) (by decide)⟩
 | n+16,h=>by omega
def namesA:Array Value:=(Mk.names.map Value.string).toArray
theorem namesA_at:∀ (i:Nat),i<8->namesA[i]?=some (.string (Mk.names.getD i ByteArray.empty))/\(Mk.names.getD i ByteArray.empty).size<=maxLen
 | 0,_=>⟨rfl,by decide⟩
 | 1,_=>⟨rfl,by decide⟩
 | 2,_=>⟨rfl,by decide⟩
 | 3,_=>⟨rfl,by decide⟩
 | 4,_=>⟨rfl,by decide⟩
 | 5,_=>⟨rfl,by decide⟩
 | 6,_=>⟨rfl,by decide⟩
 | 7,_=>⟨rfl,by decide⟩
 | n+8,h=>by omega
theorem runes_any (w:World):Calls Tryz.prog 22 #[] w fun e w'=>∃ b,e=.returned (.slice (some ⟨b,0,none⟩) 16 16)/\w.heap.size<=b/\Blk w' b runesA 3/\Mod [] w w':=by
 go_enter Tryz.func22,Tryz.ntmps22;go_wp2;go_ret;exact ⟨_,rfl,nR _,Blk.new _ _ _,mR.alloc _⟩
theorem names_any (w:World):Calls Tryz.prog 24 #[] w fun e w'=>∃ b,e=.returned (.slice (some ⟨b,0,none⟩) 8 8)/\w.heap.size<=b/\Blk w' b namesA 9/\Mod [] w w':=by
 go_enter Tryz.func24,Tryz.ntmps24;go_wp2;go_ret;exact ⟨_,rfl,nR _,Blk.new _ _ _,mR.alloc _⟩
theorem lookups_len (n:Nat) (s:Mk.S):(Mk.lookups n s).1.length<=100:=by
 obtain ⟨k,s1,h1⟩:∃ a b,Mk.next 7 s=(a,b):=⟨_,_,rfl⟩
 obtain ⟨⟨D,C⟩,s2,h2⟩:∃ a b,Mk.rep k.toNat lk1F ([],[]) s1=(a,b):=⟨_,_,rfl⟩
 rw [Mk.lookups_eq h1 h2];have i1:=next_in (by decide) h1;have h3:=lk1_inv k.toNat s1;rw [h2] at h3;have h4:D.length=k.toNat:=h3.1;have h5:=Mk.rep_inv (f:=lk2F n D C) (a:=[]) (s:=s2) (n:=D.length) (fun i (r:List DLookup)=>r.length<=i) (nR _) fun i r s _ h=>by
  unfold lk2F
  split
  ·exact Nat.le_succ_of_le h
  ·split
   ·simp;exact h
   ·show (r++[_]).length<=i+1;simp;exact h
 omega
theorem made_eq {l:List Int} {U KA KF KC KG:Nat} {kg:Int} {s1 s2 s3 s4 s5 s6 s7 s8 s9 s10 s11 s12 s13:Mk.S} {AX:List DAxis} {RG:List DRegion} {FN:List (List DIns)} {CV:List Int} {GL:List DGlyph} {CH:List DChar} {LK:List DLookup} {FT:List DFeature}
  (h1:Mk.next 4 ⟨l,0⟩=((U:Int),s1)) (h2:Mk.next 3 s1=((KA:Int),s2)) (h3:Mk.rep KA axF [] s2=(AX,s3)) (h4:Mk.regions KA s3=(RG,s4)) (h5:Mk.next 3 s4=((KF:Int),s5)) (h6:Mk.rep KF fnF [] s5=(FN,s6)) (h7:Mk.next 4 s6=((KC:Int),s7)) (h8:Mk.rep KC cvF [] s7=(CV,s8))
  (h9:Mk.next 9 s8=(kg,s9)) (hKG:2+kg=(KG:Int)) (h10:Mk.rep KG (glF RG.length FN.length) [] s9=(GL,s10)) (h11:Mk.rep 16 (chF KG) [] s10=(CH,s11)) (h12:Mk.lookups KG s11=(LK,s12)) (h13:Mk.rep 8 (ftF LK.length) [] s12=(FT,s13)) :
  Mk.made l=⟨Mk.units.getD U 0,GL,CH,LK,FT,AX,RG,FN,CV⟩:=by
 have hgl:GL.length=KG:=by
  have a1:=rep_len (f:=glF RG.length FN.length) (fun _ _ _=>List.length_append) KG s9;rw [h10] at a1;exact a1
 subst hgl
 show (Mk.bind (Mk.next 4 ⟨l,0⟩) fun u s=>Mk.bind (Mk.next 3 s) fun k s=>Mk.bind (Mk.rep k.toNat axF [] s) fun ax s=>Mk.bind (Mk.regions k.toNat s) fun rg s=>Mk.bind (Mk.next 3 s) fun kf s=>Mk.bind (Mk.rep kf.toNat fnF [] s) fun fn s =>
  Mk.bind (Mk.next 4 s) fun kc s=>Mk.bind (Mk.rep kc.toNat cvF [] s) fun cv s=>Mk.bind (Mk.next 9 s) fun kg s=>Mk.bind (Mk.rep (2+kg).toNat (glF rg.length fn.length) [] s) fun gl s =>
  Mk.bind (Mk.rep 16 (chF gl.length) [] s) fun ch s=>Mk.bind (Mk.lookups gl.length s) fun lk s=>Mk.bind (Mk.rep 8 (ftF lk.length) [] s) fun ft s=>((⟨Mk.units.getD u.toNat 0,gl,ch,lk,ft,ax,rg,fn,cv⟩,s):DFont×Mk.S)).1=_
 rw [Mk.bind_eq h1,Mk.bind_eq h2,Int.toNat_natCast,Int.toNat_natCast,Mk.bind_eq h3,Mk.bind_eq h4,Mk.bind_eq h5,Int.toNat_natCast,Mk.bind_eq h6,Mk.bind_eq h7,Int.toNat_natCast,Mk.bind_eq h8,Mk.bind_eq h9,hKG,Int.toNat_natCast,Mk.bind_eq h10,Mk.bind_eq h11,Mk.bind_eq h12,Mk.bind_eq h13]
theorem units_I64 (Q:Nat):I64 (Mk.units.getD Q 0):=by
 match Q with
 | 0=>exact I64.of (by decide) (by decide)
 | 1=>exact I64.of (by decide) (by decide)
 | 2=>exact I64.of (by decide) (by decide)
 | 3=>exact I64.of (by decide) (by decide)
 | n+4=>exact I64.of (x:=0) (by decide) (by decide)
set_option maxHeartbeats 8000000
theorem st_axes {w:World} {rb m:Nat} {sv:Value} {l:List Int} {unit:Int} {KA B1:Nat} {AX:List DAxis} {s2 s3:Mk.S} {w4:World} {x0 x1 x6 x7 x8 x9 x10 x11 x12 x13 x14 x15 x16 x17 x18 x19 x20 x21 x22 x23 x24 x25 x26 x27 x28 x29 x30 x31 x32 x33 x34 x35 x36 x37 x38 x39 x40 x41 x42 x43 x44 x45 x46 x47 x48 x49 x50 x51 x52 x53 x54 x55 x56 x57 x58 x59 x60 x61 x62 x63 x64 x65 x66 x67 x68 x69 x70 x71 x72 x73 x74 x75 x76 x77 x78 x79 x80 x81 x82 x83 x84 x85 x86 x87 x88 x89 x90 x91 x92 x93 x94 x95 x96 x97 x98 x99 x100 x101 x102 x103 x104 x105 x106 x107 x108 x109 x110 x111 x112 x113 x114 x115 x116 x117 x118 x119 x120 x121 x122 x123 x124 x125 x126 x127 x128 x129 x130 x131 x132 x133 x134 x135 x136 x137 x138 x139 x140 x141 x142 x143 x144 x145 x146 x147 x148 x149 x150 x151 x152 x153 x154 x155 x156 x157 x158 x159 x160 x161 x162 x163 x164 x165 x166 x167 x168 x169 x170 x171 x172 x173 x174 x175 x176 x177 x178 x179 x180 x181 x182 x183 x184 x185 x186 x187 x188 x189 x190 x191 x192 x193 x194 x195 x196 x197 x198 x199 x200 x201 x202 x203 x204 x205 x206 x207 x208 x209 x210 x211 x212 x213 x214 x215 x216 x217 x218 x219 x220 x221 x222 x223 x224 x225 x226 x227 x228 x229 x230 x231 x232 x233 x234 x235 x236 x237 x238 x239 x240 x241 x242 x243 x244 x245:Value}
  (H3:Hid (Mk.rep KA axF [] s2=(AX,s3)))
  (HKA:Hid (KA<3))
  (HG0:Hid (MG w rb m sv l (MF.mk (.int .i64 unit) nilV nilV nilV nilV nilV nilV nilV nilV) (MF.mk (.int .i64 unit) nilV nilV nilV nilV nilV nilV nilV nilV) (DFont.mk unit [] [] [] [] [] [] [] []) B1 76 4 SAxis (fun _=>False) (.slice none 0 0) ([]:List DAxis) s2 w4))
  {J K':Act->World->Prop} {Q':Exit->Act->World->Prop}
  (h1:∀ (a':Act) (w':World),(∃ u5 u6 u34 u35 u36 u37 u38 u39 u40 u41 u42 u43 u44 u45 u46 u47 u48 u49 u50 u51 u52 u53 u54 u55 u56 u57 u58 u59 u60 u61 u62 u63 u64 u65 u66 u67 u68 u69 u70 u71 u72 u73 u74 u75 u76 u77 u78 u79 u80 u81 u82 u83 u84 u85 u86 u87 u88 u89 u90 u91 u92 u93 u94 u95 u96 u97 u98 u99 u100 u101 u102 u103 u104 u105 u106 u107 u108 u109 u110 u111 u112 u113 u114 u115 u116 u117 u118 u119 u120 u121 u122 u123 u124 u125 u126 u127 u128 u129 u130 u131 u132 u133 u134 u135 u136 u137 u138 u139 u140 u141 u142 u143 u144 u145 u146 u147 u148 u149 u150 u151 u152 u153 u154 u155 u156 u157 u158 u159 u160 u161 u162 u163 u164 u165 u166 u167 u168 u169 u170 u171 u172 u173 u174 u175 u176 u177 u178 u179 u180 u181 u182 u183 u184 u185 u186 u187 u188 u189 u190 u191 u192 u193 u194 u195 u196 u197 u198 u199 u200 u201 u202 u203 u204 u205 u206 u207 u208 u209 u210 u211 u212 u213 u214 u215 u216 u217 u218 u219 u220 u221 u222 u223 u224 u225 u226 u227 u228 u229 u230 u231 u232 u233 u234 u235 u236 u237 u238 u239 u240 u241 u242 u243 u244 u245:Value,(∃ (oa:Option Addr) (ca:Nat),Hid (MD w rb m sv l (MF.mk (.int .i64 unit) nilV nilV nilV nilV (.slice oa AX.length ca) nilV nilV nilV) (MF.mk (.int .i64 unit) nilV nilV nilV nilV (.slice oa AX.length ca) nilV nilV nilV) (DFont.mk unit [] [] [] [] AX [] [] []) w'.heap.size s3 w'))/\a'={ tmps:=(x0::x1::.pointer (some ⟨rb,0,none⟩)::.pointer (some ⟨m,0,none⟩)::.int .i64 (KA:Int)::u5::u6::x7::x8::x9::x10::x11::x12::x13::x14::x15::x16::x17::x18::x19::x20::x21::x22::x23::x24::x25::x26::x27::x28::x29::x30::x31::x32::x33::u34::u35::u36::u37::u38::u39::u40::u41::u42::u43::u44::u45::u46::u47::u48::u49::u50::u51::u52::u53::u54::u55::u56::u57::u58::u59::u60::u61::u62::u63::u64::u65::u66::u67::u68::u69::u70::u71::u72::u73::u74::u75::u76::u77::u78::u79::u80::u81::u82::u83::u84::u85::u86::u87::u88::u89::u90::u91::u92::u93::u94::u95::u96::u97::u98::u99::u100::u101::u102::u103::u104::u105::u106::u107::u108::u109::u110::u111::u112::u113::u114::u115::u116::u117::u118::u119::u120::u121::u122::u123::u124::u125::u126::u127::u128::u129::u130::u131::u132::u133::u134::u135::u136::u137::u138::u139::u140::u141::u142::u143::u144::u145::u146::u147::u148::u149::u150::u151::u152::u153::u154::u155::u156::u157::u158::u159::u160::u161::u162::u163::u164::u165::u166::u167::u168::u169::u170::u171::u172::u173::u174::u175::u176::u177::u178::u179::u180::u181::u182::u183::u184::u185::u186::u187::u188::u189::u190::u191::u192::u193::u194::u195::u196::u197::u198::u199::u200::u201::u202::u203::u204::u205::u206::u207::u208::u209::u210::u211::u212::u213::u214::u215::u216::u217::u218::u219::u220::u221::u222::u223::u224::u225::u226::u227::u228::u229::u230::u231::u232::u233::u234::u235::u236::u237::u238::u239::u240::u241::u242::u243::u244::u245::[]).toArray,defers:=[] })->J a' w')
  (h2:∀ (a':Act) (w':World),Met J a' w'->K' a' w') :
  Code.wp Tryz.prog ((findB 0 ((Tryz.f7).body.getD .skip)).getD .skip) (Exit.then K' Q') { tmps:=(x0::x1::.pointer (some ⟨rb,0,none⟩)::.pointer (some ⟨m,0,none⟩)::.int .i64 (KA:Int)::.int .i64 0::x6::x7::x8::x9::x10::x11::x12::x13::x14::x15::x16::x17::x18::x19::x20::x21::x22::x23::x24::x25::x26::x27::x28::x29::x30::x31::x32::x33::x34::x35::x36::x37::x38::x39::x40::x41::x42::x43::x44::x45::x46::x47::x48::x49::x50::x51::x52::x53::x54::x55::x56::x57::x58::x59::x60::x61::x62::x63::x64::x65::x66::x67::x68::x69::x70::x71::x72::x73::x74::x75::x76::x77::x78::x79::x80::x81::x82::x83::x84::x85::x86::x87::x88::x89::x90::x91::x92::x93::x94::x95::x96::x97::x98::x99::x100::x101::x102::x103::x104::x105::x106::x107::x108::x109::x110::x111::x112::x113::x114::x115::x116::x117::x118::x119::x120::x121::x122::x123::x124::x125::x126::x127::x128::x129::x130::x131::x132::x133::x134::x135::x136::x137::x138::x139::x140::x141::x142::x143::x144::x145::x146::x147::x148::x149::x150::x151::x152::x153::x154::x155::x156::x157::x158::x159::x160::x161::x162::x163::x164::x165::x166::x167::x168::x169::x170::x171::x172::x173::x174::x175::x176::x177::x178::x179::x180::x181::x182::x183::x184::x185::x186::x187::x188::x189::x190::x191::x192::x193::x194::x195::x196::x197::x198::x199::x200::x201::x202::x203::x204::x205::x206::x207::x208::x209::x210::x211::x212::x213::x214::x215::x216::x217::x218::x219::x220::x221::x222::x223::x224::x225::x226::x227::x228::x229::x230::x231::x232::x233::x234::x235::x236::x237::x238::x239::x240::x241::x242::x243::x244::x245::[]).toArray,defers:=[] } w4:=by
 have CN:=Hi (fun f st x st' n h1 h2 e=>next_at m sv l f st n h1 h2 (r:=x) (s':=st') e);obtain ⟨xq0,xqi,xqz0,xqz1,xqz2⟩:=info_parts inf_Axis
 conv=>arg 2;whnf
 go_wp2_with fail
 go_loopg [5,6] KA (fun gk v5 v6 wr=>∃ (i:Nat) (L:List DAxis) (st:Mk.S) (oa:Option Addr) (ca:Nat),v5=.int .i64 (i:Int)/\Hid (i+gk=KA)/\Hid (Mk.rep i axF [] s2=(L,st))/\Hid (L.length=i)/\Hid (MG w rb m sv l (MF.mk (.int .i64 unit) nilV nilV nilV nilV (.slice oa L.length ca) nilV nilV nilV) (MF.mk (.int .i64 unit) nilV nilV nilV nilV nilV nilV nilV nilV) (DFont.mk unit [] [] [] [] [] [] [] []) B1 76 4 SAxis (fun _=>False) (.slice oa L.length ca) L st wr))
 case atStart=>exact ⟨0,[],s2,none,0,rfl,by show 0+KA=KA;omega,rfl,rfl,HG0.out⟩
 case round =>
  obtain ⟨i,L,st,oa,ca,rfl,hi5,HR,HL,HS⟩:=hrel;clear HG0
  by_cases hin:i<KA
  case neg =>
   obtain rfl:i=KA:=by have:=hi5.out;omega
   have k1:decide ((i:Int)<(i:Int))=false:=dF (by omega);obtain ⟨rfl,rfl⟩:L=AX/\st=s3:=by have h9:=H3.out;rw [HR.out] at h9;simpa using h9
   go_wp2;go_meet
   case rel=>exact ⟨oa,ca,MG.doneAx (f0:=(MF.mk (.int .i64 unit) nilV nilV nilV nilV nilV nilV nilV nilV)) (F:=(DFont.mk unit [] [] [] [] [] [] [] [])) HS.out⟩
  have k1:decide ((i:Int)<(KA:Int))=true:=dT (by omega);have k2:(i:Int)<(KA:Int):=by omega
  have hi3:i<3:=by have:=HKA.out;omega
  have ei:IntKind.i64.wrap ((i:Int)+1)=(i:Int)+1:=wrapi (by omega) (by omega);obtain ⟨a,t1,ha⟩:∃ a b,Mk.next 3 st=(a,b):=⟨_,_,rfl⟩
  obtain ⟨b,t2,hb⟩:∃ a b,Mk.next 4 t1=(a,b):=⟨_,_,rfl⟩
  have ia:=next_in (by decide) ha;have ib:=next_in (by decide) hb;have a1:IntKind.i64.wrap (a*100)=a*100:=wrapi (by omega) (by omega);have a2:wrap64 (-(a*100))=-(a*100):=IntWalk.wrap64_in _ ⟨by omega,by omega⟩;have a3:IntKind.i64.wrap (-(a*100))=-(a*100):=wrapi (by omega) (by omega);have b1:IntKind.i64.wrap (b*100)=b*100:=wrapi (by omega) (by omega);have n1:IntKind.i64.wrap (97+(i:Int))=97+(i:Int):=wrapi (by omega) (by omega);have n2:IntKind.u8.wrap (97+(i:Int))=97+(i:Int):=by rw [IntKind.wrap_u8];omega
  have CA:=Hi (CN.out (MF.mk (.int .i64 unit) nilV nilV nilV nilV (.slice oa L.length ca) nilV nilV nilV) st a t1 3 (by decide) (by decide) ha);have CB:=Hi (CN.out (MF.mk (.int .i64 unit) nilV nilV nilV nilV (.slice oa L.length ca) nilV nilV nilV) t1 b t2 4 (by decide) (by decide) hb);have HX:Hid (axF i L st=(L++[⟨(⟨#[97,120]⟩:ByteArray)++Mk.letter i,-(a*100),0,b*100⟩],t2)):=by unfold axF;rw [Mk.bind_eq ha,Mk.bind_eq hb,Int.zero_sub];exact rfl
  have HIA:=Hi ia;have HIB:=Hi ib;have HIN:=Hi hin;have HI3:=Hi hi3;have HWR:Hid (m<wr.heap.size):=by have:=HS.out.d.mkr.blk.lt;exact this
  have HIK:∀ w' w'':World,Mod [m] wr w'->Mod [] w' w''->Mod [m] wr w'':=fun _ _ h k=>h.then (k.more (by simp))
  clear ha hb ia ib hin hi3;go_upto_region 7 with fail;refine Sa.wp_region_sa (I:=Mod [m] wr) (J:=Mod [m]) (F0:=MG w rb m sv l (MF.mk (.int .i64 unit) nilV nilV nilV nilV (.slice oa L.length ca) nilV nilV nilV) (MF.mk (.int .i64 unit) nilV nilV nilV nilV nilV nilV nilV nilV) (DFont.mk unit [] [] [] [] [] [] [] []) B1 76 4 SAxis (fun _=>False) (.slice oa L.length ca) L st) HIK (fun _ _ k=>k.more (by simp)) 15 [(0,Sa.Tok.v),(1,Sa.Tok.v),(2,Sa.Tok.v),(6,Sa.Tok.v),(7,Sa.Tok.x (MG w rb m sv l (MF.mk (.int .i64 unit) nilV nilV nilV nilV (.slice oa L.length ca) nilV nilV nilV) (MF.mk (.int .i64 unit) nilV nilV nilV nilV nilV nilV nilV nilV) (DFont.mk unit [] [] [] [] [] [] [] []) B1 76 4 SAxis (fun _=>False) (.slice oa L.length ca) L t1)),(8,Sa.Tok.v),(9,Sa.Tok.v),(10,Sa.Tok.v),(11,Sa.Tok.x (MG w rb m sv l (MF.mk (.int .i64 unit) nilV nilV nilV nilV (.slice oa L.length ca) nilV nilV nilV) (MF.mk (.int .i64 unit) nilV nilV nilV nilV nilV nilV nilV nilV) (DFont.mk unit [] [] [] [] [] [] [] []) B1 76 4 SAxis (fun _=>False) (.slice oa L.length ca) L t2)),(12,Sa.Tok.v),(3,Sa.Tok.al (fun b=>.slice (some ⟨b,0,none⟩) 1 1) (fun b w'=>wr.heap.size<=b/\Blk w' b #[.int .u8 (97+(i:Int))] 5)),(4,Sa.Tok.v),(5,Sa.Tok.v),(13,Sa.Tok.v),(14,Sa.Tok.al (fun b=>.pointer (some ⟨b,0,none⟩)) (fun b w'=>wr.heap.size<=b/\Blk w' b #[.string ByteArray.empty,.int .i64 0,.int .i64 0,.int .i64 0] 76))] [(0,0),(1,0),(2,0),(6,0),(7,1),(8,0),(9,0),(10,0),(11,1),(12,0),(3,2),(4,0),(5,0),(13,0),(14,2)] rfl (by kernel_rfl) (by kernel_rfl) ?hGd58 (mR.drew) (MG.stays SAxis.stay) (MG.stays SAxis.stay _ _ HS.out (mR.drew)) ?mainA58
  case hGd58 =>
   intro p hp;simp only [List.mem_cons,List.not_mem_nil,or_false] at hp;rcases hp with rfl | rfl | rfl | rfl | rfl | rfl | rfl | rfl | rfl | rfl | rfl | rfl | rfl | rfl | rfl <;> first | exact True.intro | exact (MG.stays SAxis.stay) | exact (fun b w1 w2 h k=>⟨h.1,h.2.kept k (by have:=HWR.out;simp;omega)⟩)
  iterate 4 refine Sa.vv ?_
  refine Sa.x_go (a':=?_) rfl (by kernel_rfl) (fun w' hw' hF K Q hK=>?_) ?_ ?_;rotate_left
  ·go_wp2_with fail;refine (CA.out w' hF.d.mkr).mono ?_;rintro e w'' ⟨rfl,K',M'⟩;go_wp2;exact hK _ (hw'.then M') M' (hF.call SAxis.stay K' M')
  ·kernel_rfl
  iterate 3 refine Sa.vv ?_
  refine Sa.x_go (a':=?_) rfl (by kernel_rfl) (fun w' hw' hF K Q hK=>?_) ?_ ?_;rotate_left
  ·go_wp2_with fail;refine (CB.out w' hF.d.mkr).mono ?_;rintro e w'' ⟨rfl,K',M'⟩;go_wp2;exact hK _ (hw'.then M') M' (hF.call SAxis.stay K' M')
  ·kernel_rfl
  refine Sa.vv ?_;refine Sa.a_go (f:=?_) rfl (by kernel_rfl) (fun v=>by simp only [Act.put];(try simp only [List.setIfInBounds_toArray]);(try simp only [List.set_cons_succ,List.set_cons_zero]);exact rfl) (fun w' hw' K Q hK=>?_) (fun bA3=>?_)
  ·go_wp2;exact hK w'.heap.size _ (mR.alloc _) ⟨hw'.size,Blk.new _ _ _⟩
  refine Sa.v_go (a':=?_) rfl (by kernel_rfl) (fun w' hw' hG K Q hK=>?_) ?_ ?_;rotate_left
  ·have AC:=letter_conv (n:=i) hG.2.2 (by have:=HI3.out;omega);go_wp2;exact hK _ mR
  ·kernel_rfl
  iterate 2 refine Sa.vv ?_
  refine Sa.a_go (f:=?_) rfl (by kernel_rfl) (fun v=>by simp only [Act.put];(try simp only [List.setIfInBounds_toArray]);(try simp only [List.set_cons_succ,List.set_cons_zero]);exact rfl) (fun w' hw' K Q hK=>?_) (fun bA14=>?_)
  ·go_wp2;exact hK w'.heap.size _ (mR.alloc _) ⟨hw'.size,Blk.new _ _ _⟩
  refine Sa.nil_go ?_;intro w' hw' hF hG;simp only [qS,qZ];have HAO:Hid (B1<=bA14/\(Value.slice oa L.length ca).ownBlock≠some bA14/\bA14≠m/\bA14 ∉ (Value.slice oa L.length ca).ownBlock.toList):=by
   have h5:=HS.out.d.ord;have h6:=hG.2.1;have h7:=HWR.out;have h8:(Value.slice oa L.length ca).ownBlock≠some bA14:=fun he=>by have:=(HS.out.g.lt _ he).2;omega
   exact ⟨by omega,h8,by omega,fun hm=>h8 (by simpa using hm)⟩
  have HAB:=Hi hG.2.2;have c0:=hG.2.2.cell 0;have c1:=hG.2.2.cell 1;have c2:=hG.2.2.cell 2;have c3:=hG.2.2.cell 3;have f0:=hG.2.2.frozen 0;have f1:=hG.2.2.frozen 1;have f2:=hG.2.2.frozen 2;have f3:=hG.2.2.frozen 3;have HS1:=Hi hF;generalize bA14=ab at *
  clear hF hG hw' CA CB HIK HS;go_upto_region 8 with fail;have XF:((((w'.setCell ⟨ab,0,none⟩ (.string ((⟨#[97,120]⟩:ByteArray)++Mk.letter i))).setCell ⟨ab,1,none⟩ (.int .i64 (-(a*100)))).setCell ⟨ab,2,none⟩ (.int .i64 0)).setCell ⟨ab,3,none⟩ (.int .i64 (b*100)))=setN w' (ab) (0) [.string ((⟨#[97,120]⟩:ByteArray)++Mk.letter i),.int .i64 (-(a*100)),.int .i64 0,.int .i64 (b*100)]:=rfl;rw [XF];clear XF;have HB2:Hid (Blk _ ab #[.string ((⟨#[97,120]⟩:ByteArray)++Mk.letter i),.int .i64 (-(a*100)),.int .i64 0,.int .i64 (b*100)] 76):=HAB.out.over [.string ((⟨#[97,120]⟩:ByteArray)++Mk.letter i),.int .i64 (-(a*100)),.int .i64 0,.int .i64 (b*100)] rfl;have HS2:=Hi (MG.setN SAxis.stay HAO.out.1 HAO.out.2.1 (fun h=>h) [.string ((⟨#[97,120]⟩:ByteArray)++Mk.letter i),.int .i64 (-(a*100)),.int .i64 0,.int .i64 (b*100)] 0 w' HS1.out);clear c0 c1 c2 c3 f0 f1 f2 f3 HAB HS1;generalize setN w' ab 0 [.string ((⟨#[97,120]⟩:ByteArray)++Mk.letter i),.int .i64 (-(a*100)),.int .i64 0,.int .i64 (b*100)]=w5 at *
  have B7:∀ W,MkJ m sv l (MF.mk (.int .i64 unit) nilV nilV nilV nilV (.slice oa L.length ca) nilV nilV nilV) (Value.slice oa L.length ca).ownBlock.toList w5 W->W.cell? ⟨m,7,none⟩=some (.slice oa L.length ca):=fun W k=>k.2.elim fun _ h9=>h9.blk.cell 7
  have A0:∀ W,MkJ m sv l (MF.mk (.int .i64 unit) nilV nilV nilV nilV (.slice oa L.length ca) nilV nilV nilV) (Value.slice oa L.length ca).ownBlock.toList w5 W->W.cell? ⟨ab,0,none⟩=some (.string ((⟨#[97,120]⟩:ByteArray)++Mk.letter i)):=fun W k=>HB2.out.mkj k HAO.out.2.2.1 HAO.out.2.2.2 0
  have A1:∀ W,MkJ m sv l (MF.mk (.int .i64 unit) nilV nilV nilV nilV (.slice oa L.length ca) nilV nilV nilV) (Value.slice oa L.length ca).ownBlock.toList w5 W->W.cell? ⟨ab,1,none⟩=some (.int .i64 (-(a*100))):=fun W k=>HB2.out.mkj k HAO.out.2.2.1 HAO.out.2.2.2 1
  have A2:∀ W,MkJ m sv l (MF.mk (.int .i64 unit) nilV nilV nilV nilV (.slice oa L.length ca) nilV nilV nilV) (Value.slice oa L.length ca).ownBlock.toList w5 W->W.cell? ⟨ab,2,none⟩=some (.int .i64 0):=fun W k=>HB2.out.mkj k HAO.out.2.2.1 HAO.out.2.2.2 2
  have A3:∀ W,MkJ m sv l (MF.mk (.int .i64 unit) nilV nilV nilV nilV (.slice oa L.length ca) nilV nilV nilV) (Value.slice oa L.length ca).ownBlock.toList w5 W->W.cell? ⟨ab,3,none⟩=some (.int .i64 (b*100)):=fun W k=>HB2.out.mkj k HAO.out.2.2.1 HAO.out.2.2.2 3
  have HI0:MkJ m sv l (MF.mk (.int .i64 unit) nilV nilV nilV nilV (.slice oa L.length ca) nilV nilV nilV) (Value.slice oa L.length ca).ownBlock.toList w5 w5.drew:=⟨((Mod.refl [] w5).drew).more (by simp),_,MK.stays _ _ HS2.out.d.mkr (mR.drew)⟩
  have HLB:Hid (L.length+1<=maxLen/\(L.length+1)*40<=140737488355328):=by have h4:=HL.out;have h5:=HI3.out;refine ⟨?_,?_⟩;unfold maxLen;omega;omega
  have HXS:Hid (((⟨#[97,120]⟩:ByteArray)++Mk.letter i).size<=maxLen):=by show 3<=maxLen;decide
  obtain ⟨nx,hnx⟩:∃ x:ByteArray,x=(⟨#[97,120]⟩:ByteArray)++Mk.letter i:=⟨_,rfl⟩
  rw [<- hnx] at HX HB2 HXS A0;clear hnx HAO;refine Sw.wp_region_sw (I:=MkJ m sv l (MF.mk (.int .i64 unit) nilV nilV nilV nilV (.slice oa L.length ca) nilV nilV nilV) (Value.slice oa L.length ca).ownBlock.toList w5) (F0:=MG w rb m sv l (MF.mk (.int .i64 unit) nilV nilV nilV nilV (.slice oa L.length ca) nilV nilV nilV) (MF.mk (.int .i64 unit) nilV nilV nilV nilV nilV nilV nilV nilV) (DFont.mk unit [] [] [] [] [] [] [] []) B1 76 4 SAxis (fun _=>False) (.slice oa L.length ca) L t2) MkJ.then 9 [(0,none),(1,none),(2,none),(3,none),(4,none),(5,none),(6,none),(7,some (NewAnd w5.heap.size #[.string nx,.int .i64 (-(a*100)),.int .i64 0,.int .i64 (b*100)] 76 1 (MG w rb m sv l (MF.mk (.int .i64 unit) nilV nilV nilV nilV (.slice oa L.length ca) nilV nilV nilV) (MF.mk (.int .i64 unit) nilV nilV nilV nilV nilV nilV nilV nilV) (DFont.mk unit [] [] [] [] [] [] [] []) B1 76 4 SAxis (fun _=>False) (.slice oa L.length ca) L t2))),(8,some (MGv w rb m sv l (MF.mk (.int .i64 unit) nilV nilV nilV nilV (.slice oa L.length ca) nilV nilV nilV) (MF.mk (.int .i64 unit) nilV nilV nilV nilV nilV nilV nilV nilV) (DFont.mk unit [] [] [] [] [] [] [] []) B1 76 4 SAxis (fun _=>False) (L.length+1) (L++[⟨nx,-(a*100),0,b*100⟩]) t2))] (by kernel_rfl) (by kernel_rfl) (Sq.nodup_of (by kernel_rfl)) ?hTS181 HI0 (MG.stays SAxis.stay) (MG.stays SAxis.stay _ _ HS2.out (mR.drew)) ?mainS181
  case hTS181 =>
   intro p hp T hT v;simp only [List.mem_cons,List.not_mem_nil,or_false] at hp;rcases hp with rfl | rfl | rfl | rfl | rfl | rfl | rfl | rfl | rfl <;> first | (cases hT;done) | (cases hT;first | exact MGv.stays SAxis.stay _ | exact NewAnd.stays (MG.stays SAxis.stay) _)
  iterate 7 refine Sw.vv HI0 ?_
  refine Sw.xx (fun w' hw' hF K Q hK=>?_) (fun kv hkv=>?_)
  ·go_wp2;exact hK _ _ (MkJ.then _ _ hw' (mR.alloc _)) ⟨⟨_,rfl,hw'.1.size,Blk.new _ _ _⟩,MG.stays SAxis.stay _ _ hF (mR.alloc _)⟩
  obtain ⟨_,_,⟨nb,rfl,hnb,_⟩,_⟩:=hkv;refine Sw.xx (fun w' hw' hF K Q hK=>?_) (fun kv hkv=>?_)
  ·obtain ⟨⟨b9,he9,-,hB⟩,hO⟩:=hF;cases he9;refine oper_push (v:=.slice oa L.length ca) (k:=4) (e:=76) (base:=B1) (l:=L) (l':=[⟨nx,-(a*100),0,b*100⟩]) rfl _ _ 28 rfl xq0 _ 40 Tryz.underlying28 xqi xqz0 xqz1 xqz2 rfl (by decide) SAxis.stay SAxis.weak rfl hO.g ⟨nb,0,none⟩ _ _ [[.string nx,.int .i64 (-(a*100)),.int .i64 0,.int .i64 (b*100)]] rfl rfl (Elems.one rfl (axC_elem HXS.out ⟨HIA.out.1,HIA.out.2.1⟩ ⟨HIB.out.1,HIB.out.2.1⟩)) (fun j u hu=>blk_news hB rfl hu) (by simp [Value.oneCell']) HLB.out.1 HLB.out.2 (nT hO.d.ord.2.2.2 (nR _)) (fun v' w'' hGP hgr _=>?_);exact hK _ _ (hw'.grew hgr (hO.push hGP hgr).d.mkr) (hO.pushV hGP hgr)
  obtain ⟨_,_,⟨ov,cv,rfl⟩,_⟩:=hkv;refine Sw.nil_go ?_;intro w' hw' hF;simp only [qS,qZ];obtain ⟨⟨ov2,cv2,he9⟩,hO⟩:=hF;cases he9;have HNL:Hid ((L++[(⟨nx,-(a*100),0,b*100⟩:DAxis)]).length=L.length+1):=by show _=_;simp
  have c7:w'.cell? ⟨m,7,none⟩=some (.slice oa L.length ca):=hO.d.mkr.blk.cell 7;have f7:=hO.d.mkr.blk.frozen 7;have HS3:=Hi (hO.store SAxis.stay (f':=(MF.mk (.int .i64 unit) nilV nilV nilV nilV (.slice ov (L.length+1) cv) nilV nilV nilV)) 7 (.slice ov (L.length+1) cv) (fun _ _=>rfl));clear hO hw' HS2 A0 A1 A2 A3 B7 HI0 HB2;go_wp2;go_roundg (gk - 1)
  case measure=>have:=hi5.out;have:=HIN.out;omega
  case rel =>
   refine ⟨i+1,L++[⟨nx,-(a*100),0,b*100⟩],t2,ov,cv,by rw [Int.natCast_add];rfl,?_,?_,?_,by rw [HNL.out];exact HS3.out⟩
   ·have:=hi5.out;have:=HIN.out;show i+1+(gk - 1)=KA;omega
   ·show Mk.rep (i+1) axF [] s2=_;rw [Mk.rep_next HR.out];exact HX.out
   ·have:=HL.out;show (L++[(_:DAxis)]).length=i+1;rw [HNL.out];omega
theorem st_regions {w:World} {rb m:Nat} {sv:Value} {l:List Int} {unit:Int} {KA B2:Nat} {AX:List DAxis} {RG:List DRegion} {s3 s4:Mk.S} {vax:Value} {wc:World} {b66:Bool} (hb:b66=decide (0<KA)) {x0 x1 x5 x6 x7 x8 x9 x10 x11 x12 x13 x14 x15 x16 x17 x18 x19 x20 x21 x22 x23 x24 x25 x26 x27 x28 x29 x30 x31 x32 x33 x34 x35 x36 x37 x38 x39 x40 x41 x42 x43 x44 x45 x46 x47 x48 x49 x50 x51 x52 x53 x54 x55 x56 x57 x58 x59 x60 x61 x62 x63 x64 x65 x67 x68 x69 x70 x71 x72 x73 x74 x75 x76 x77 x78 x79 x80 x81 x82 x83 x84 x85 x86 x87 x88 x89 x90 x91 x92 x93 x94 x95 x96 x97 x98 x99 x100 x101 x102 x103 x104 x105 x106 x107 x108 x109 x110 x111 x112 x113 x114 x115 x116 x117 x118 x119 x120 x121 x122 x123 x124 x125 x126 x127 x128 x129 x130 x131 x132 x133 x134 x135 x136 x137 x138 x139 x140 x141 x142 x143 x144 x145 x146 x147 x148 x149 x150 x151 x152 x153 x154 x155 x156 x157 x158 x159 x160 x161 x162 x163 x164 x165 x166 x167 x168 x169 x170 x171 x172 x173 x174 x175 x176 x177 x178 x179 x180 x181 x182 x183 x184 x185 x186 x187 x188 x189 x190 x191 x192 x193 x194 x195 x196 x197 x198 x199 x200 x201 x202 x203 x204 x205 x206 x207 x208 x209 x210 x211 x212 x213 x214 x215 x216 x217 x218 x219 x220 x221 x222 x223 x224 x225 x226 x227 x228 x229 x230 x231 x232 x233 x234 x235 x236 x237 x238 x239 x240 x241 x242 x243 x244 x245:Value}
  (H4:Hid (Mk.regions KA s3=(RG,s4)))
  (HKA:Hid (KA<3))
  (HG1:Hid (MG w rb m sv l (MF.mk (.int .i64 unit) nilV nilV nilV nilV vax nilV nilV nilV) (MF.mk (.int .i64 unit) nilV nilV nilV nilV vax nilV nilV nilV) (DFont.mk unit [] [] [] [] AX [] [] []) B2 79 1 SRegion (fun b=>m<b) (.slice none 0 0) ([]:List DRegion) s3 wc))
  {J K':Act->World->Prop} {Q':Exit->Act->World->Prop}
  (h1:∀ (a':Act) (w':World),(∃ u7 u8 u9 u10 u66 u67 u68 u69 u70 u71 u72 u73 u74 u75 u76 u77 u78 u79 u80 u81 u82 u83 u84 u85 u86 u87 u88 u89 u90 u91 u92 u93 u94 u95 u96 u97 u98 u99 u100 u101 u102 u103 u104 u105 u106 u107 u108 u109 u110 u111 u112 u113 u114 u115 u116 u117 u118 u119 u120 u121 u122 u123 u124 u125 u126 u127 u128 u129 u130 u131 u132 u133 u134 u135 u136 u137 u138 u139 u140 u141 u142 u143 u144 u145 u146 u147 u148 u149 u150 u151 u152 u153 u154 u155 u156 u157 u158 u159 u160 u161 u162 u163 u164 u165 u166 u167 u168 u169 u170 u171 u172 u173 u174 u175 u176 u177 u178 u179 u180 u181 u182 u183 u184 u185 u186 u187 u188 u189 u190 u191 u192 u193 u194 u195 u196 u197 u198 u199 u200 u201 u202 u203 u204 u205 u206 u207 u208 u209 u210 u211 u212 u213 u214 u215 u216 u217 u218 u219 u220 u221 u222 u223 u224 u225 u226 u227 u228 u229 u230 u231 u232 u233 u234 u235 u236 u237 u238 u239 u240 u241 u242 u243 u244 u245:Value,(∃ (oa:Option Addr) (ca:Nat),Hid (MD w rb m sv l (MF.mk (.int .i64 unit) nilV nilV nilV nilV vax (.slice oa RG.length ca) nilV nilV) (MF.mk (.int .i64 unit) nilV nilV nilV nilV vax (.slice oa RG.length ca) nilV nilV) (DFont.mk unit [] [] [] [] AX RG [] []) w'.heap.size s4 w'))/\a'={ tmps:=(x0::x1::.pointer (some ⟨rb,0,none⟩)::.pointer (some ⟨m,0,none⟩)::.int .i64 (KA:Int)::x5::x6::u7::u8::u9::u10::x11::x12::x13::x14::x15::x16::x17::x18::x19::x20::x21::x22::x23::x24::x25::x26::x27::x28::x29::x30::x31::x32::x33::x34::x35::x36::x37::x38::x39::x40::x41::x42::x43::x44::x45::x46::x47::x48::x49::x50::x51::x52::x53::x54::x55::x56::x57::x58::x59::x60::x61::x62::x63::x64::x65::u66::u67::u68::u69::u70::u71::u72::u73::u74::u75::u76::u77::u78::u79::u80::u81::u82::u83::u84::u85::u86::u87::u88::u89::u90::u91::u92::u93::u94::u95::u96::u97::u98::u99::u100::u101::u102::u103::u104::u105::u106::u107::u108::u109::u110::u111::u112::u113::u114::u115::u116::u117::u118::u119::u120::u121::u122::u123::u124::u125::u126::u127::u128::u129::u130::u131::u132::u133::u134::u135::u136::u137::u138::u139::u140::u141::u142::u143::u144::u145::u146::u147::u148::u149::u150::u151::u152::u153::u154::u155::u156::u157::u158::u159::u160::u161::u162::u163::u164::u165::u166::u167::u168::u169::u170::u171::u172::u173::u174::u175::u176::u177::u178::u179::u180::u181::u182::u183::u184::u185::u186::u187::u188::u189::u190::u191::u192::u193::u194::u195::u196::u197::u198::u199::u200::u201::u202::u203::u204::u205::u206::u207::u208::u209::u210::u211::u212::u213::u214::u215::u216::u217::u218::u219::u220::u221::u222::u223::u224::u225::u226::u227::u228::u229::u230::u231::u232::u233::u234::u235::u236::u237::u238::u239::u240::u241::u242::u243::u244::u245::[]).toArray,defers:=[] })->J a' w')
  (h2:∀ (a':Act) (w':World),Met J a' w'->K' a' w')
  {c66:Code} (hc:c66=(findC 66 ((Tryz.f7).body.getD .skip)).getD .skip) :
  Code.wp Tryz.prog c66 (Exit.then K' Q') { tmps:=(x0::x1::.pointer (some ⟨rb,0,none⟩)::.pointer (some ⟨m,0,none⟩)::.int .i64 (KA:Int)::x5::x6::x7::x8::x9::x10::x11::x12::x13::x14::x15::x16::x17::x18::x19::x20::x21::x22::x23::x24::x25::x26::x27::x28::x29::x30::x31::x32::x33::x34::x35::x36::x37::x38::x39::x40::x41::x42::x43::x44::x45::x46::x47::x48::x49::x50::x51::x52::x53::x54::x55::x56::x57::x58::x59::x60::x61::x62::x63::x64::x65::.bool b66::x67::x68::x69::x70::x71::x72::x73::x74::x75::x76::x77::x78::x79::x80::x81::x82::x83::x84::x85::x86::x87::x88::x89::x90::x91::x92::x93::x94::x95::x96::x97::x98::x99::x100::x101::x102::x103::x104::x105::x106::x107::x108::x109::x110::x111::x112::x113::x114::x115::x116::x117::x118::x119::x120::x121::x122::x123::x124::x125::x126::x127::x128::x129::x130::x131::x132::x133::x134::x135::x136::x137::x138::x139::x140::x141::x142::x143::x144::x145::x146::x147::x148::x149::x150::x151::x152::x153::x154::x155::x156::x157::x158::x159::x160::x161::x162::x163::x164::x165::x166::x167::x168::x169::x170::x171::x172::x173::x174::x175::x176::x177::x178::x179::x180::x181::x182::x183::x184::x185::x186::x187::x188::x189::x190::x191::x192::x193::x194::x195::x196::x197::x198::x199::x200::x201::x202::x203::x204::x205::x206::x207::x208::x209::x210::x211::x212::x213::x214::x215::x216::x217::x218::x219::x220::x221::x222::x223::x224::x225::x226::x227::x228::x229::x230::x231::x232::x233::x234::x235::x236::x237::x238::x239::x240::x241::x242::x243::x244::x245::[]).toArray,defers:=[] } wc:=by
 have CN:=Hi (fun f st x st' n h1 h2 e=>next_at m sv l f st n h1 h2 (r:=x) (s':=st') e);obtain ⟨yq0,yqi,yqz0,yqz1,yqz2⟩:=info_parts inf_Region;obtain ⟨tq0,tqi,tqz0,tqz1,tqz2⟩:=info_parts inf_Tent;subst hb;rw [hc];clear hc
 conv=>arg 2;whnf
 by_cases hk0:KA=0
 ·subst hk0;have k1:decide ((0:Int)<((0:Nat):Int))=false:=rfl;have k0:decide (0<0)=false:=rfl;obtain ⟨rfl,rfl⟩:RG=[]/\s4=s3:=by have h9:=H4.out;unfold Mk.regions at h9;simpa [eq_comm] using h9
  go_wp2;go_meet
  case rel=>exact ⟨none,0,MG.doneRg (f0:=(MF.mk (.int .i64 unit) nilV nilV nilV nilV vax nilV nilV nilV)) (F:=(DFont.mk unit [] [] [] [] AX [] [] [])) HG1.out⟩
 have k1:decide ((0:Int)<(KA:Int))=true:=dT (by omega);have k2:(0:Int)<(KA:Int):=by omega
 have k0:decide (0<KA)=true:=dT (by omega);obtain ⟨nr,r1,hr⟩:∃ a b,Mk.next 4 s3=(a,b):=⟨_,_,rfl⟩
 have ir:=next_in (by decide) hr;obtain ⟨NR,rfl⟩:∃ K:Nat,nr=K:=⟨nr.toNat,by omega⟩
 have HRR:Hid (Mk.rep NR (rgF KA) [] r1=(RG,s4)):=by
  have h9:=H4.out;unfold Mk.regions at h9;rw [if_pos (by omega),Mk.bind_eq hr,Int.toNat_natCast] at h9;exact h9
 have HNR:Hid (NR<4):=by show NR<4;omega
 have CR:=Hi (CN.out (MF.mk (.int .i64 unit) nilV nilV nilV nilV vax nilV nilV nilV) s3 NR r1 4 (by decide) (by decide) hr _ HG1.out.d.mkr);clear hk0 hr ir H4;go_wp2_with fail;refine CR.out.mono ?_;rintro e w5 ⟨rfl,K2,M2⟩;have HG2:=Hi (HG1.out.call SRegion.stay K2 M2);clear K2 M2 CR HG1;go_wp2_with fail
 go_loopg [8,9,10] NR (fun gk v8 v9 v10 wr=>∃ (i:Nat) (L:List DRegion) (st:Mk.S) (oa:Option Addr) (ca:Nat),v8=.int .i64 (i:Int)/\Hid (i+gk=NR)/\Hid (Mk.rep i (rgF KA) [] r1=(L,st))/\Hid (L.length=i)/\Hid (MG w rb m sv l (MF.mk (.int .i64 unit) nilV nilV nilV nilV vax (.slice oa L.length ca) nilV nilV) (MF.mk (.int .i64 unit) nilV nilV nilV nilV vax nilV nilV nilV) (DFont.mk unit [] [] [] [] AX [] [] []) B2 79 1 SRegion (fun b=>m<b) (.slice oa L.length ca) L st wr))
 case atStart=>exact ⟨0,[],r1,none,0,rfl,by show 0+NR=NR;omega,rfl,rfl,HG2.out⟩
 case round =>
  obtain ⟨i,L,st,oa,ca,rfl,hi5,HR,HL,HS⟩:=hrel;clear HG2
  by_cases hin:i<NR
  case neg =>
   obtain rfl:i=NR:=by have:=hi5.out;omega
   have k3:decide ((i:Int)<(i:Int))=false:=dF (by omega);obtain ⟨rfl,rfl⟩:L=RG/\st=s4:=by have h9:=HRR.out;rw [HR.out] at h9;simpa using h9
   go_wp2;go_meet
   case rel=>exact ⟨oa,ca,MG.doneRg (f0:=(MF.mk (.int .i64 unit) nilV nilV nilV nilV vax nilV nilV nilV)) (F:=(DFont.mk unit [] [] [] [] AX [] [] [])) HS.out⟩
  have k3:decide ((i:Int)<(NR:Int))=true:=dT (by omega);have k4:(i:Int)<(NR:Int):=by omega
  have hi3:i<4:=by have:=HNR.out;omega
  have ei:IntKind.i64.wrap ((i:Int)+1)=(i:Int)+1:=wrapi (by omega) (by omega);obtain ⟨TT,t1,hT⟩:∃ a b,Mk.rep KA tnF [] st=(a,b):=⟨_,_,rfl⟩
  have HX:Hid (rgF KA i L st=(L++[⟨TT⟩],t1)):=by
   unfold rgF;have h9:Mk.region KA st=(⟨TT⟩,t1):=by unfold Mk.region;exact (Mk.bind_eq hT _).trans rfl
   rw [Mk.bind_eq h9];exact rfl
  have HT:=Hi hT;have HIN:=Hi hin;have HI3:=Hi hi3;have HR0:=Hi (RgSt.start HS.out);clear hT hin hi3 HS;go_upto_block 4 with fail;rw [show wr.alloc (.cells #[.slice none 0 0] 79)=wr.alloc (.cells #[nilV] 79) from rfl];generalize wr.alloc (.cells #[nilV] 79)=w6 at *
  generalize wr.heap.size=gb at *
  generalize gk=G at *
  go_cut [10] from 74 to 93 (fun v10 wx=>∃ (ot:Option Addr) (ct:Nat),Hid (RgSt w rb m sv l (MF.mk (.int .i64 unit) nilV nilV nilV nilV vax (.slice oa L.length ca) nilV nilV) (MF.mk (.int .i64 unit) nilV nilV nilV nilV vax nilV nilV nilV) (DFont.mk unit [] [] [] [] AX [] [] []) B2 (.slice oa L.length ca) L gb (gb+1) (.slice ot TT.length ct) TT t1 wx))
  case first =>
   go_wp2_with fail
   go_loopg [10] KA (fun gj v10 ws=>∃ (j:Nat) (T:List DTent) (su:Mk.S) (ot:Option Addr) (ct:Nat),v10=.int .i64 (j:Int)/\Hid (j+gj=KA)/\Hid (Mk.rep j tnF [] st=(T,su))/\Hid (T.length=j)/\Hid (RgSt w rb m sv l (MF.mk (.int .i64 unit) nilV nilV nilV nilV vax (.slice oa L.length ca) nilV nilV) (MF.mk (.int .i64 unit) nilV nilV nilV nilV vax nilV nilV nilV) (DFont.mk unit [] [] [] [] AX [] [] []) B2 (.slice oa L.length ca) L gb (gb+1) (.slice ot T.length ct) T su ws))
   case atStart=>exact ⟨0,[],st,none,0,rfl,by show 0+KA=KA;omega,rfl,rfl,HR0.out⟩
   case round =>
    obtain ⟨j,T,su,ot,ct,rfl,hj5,HRT,HTL,HS⟩:=hrel;clear HR0
    by_cases hjn:j<KA
    case neg =>
     obtain rfl:j=KA:=by have:=hj5.out;omega
     have k5:decide ((j:Int)<(j:Int))=false:=dF (by omega);obtain ⟨rfl,rfl⟩:T=TT/\su=t1:=by have h9:=HT.out;rw [HRT.out] at h9;simpa using h9
     go_wp2;go_meet
     case rel=>exact ⟨ot,ct,HS⟩
    have k5:decide ((j:Int)<(KA:Int))=true:=dT (by omega);have k6:(j:Int)<(KA:Int):=by omega
    have hj3:j<3:=by have:=HKA.out;omega
    have ej:IntKind.i64.wrap ((j:Int)+1)=(j:Int)+1:=wrapi (by omega) (by omega);obtain ⟨q,su1,hq⟩:∃ a b,Mk.next 5 su=(a,b):=⟨_,_,rfl⟩
    have iq:=next_in (by decide) hq;obtain ⟨qn,rfl⟩:∃ K:Nat,q=K:=⟨q.toNat,by omega⟩
    have q1:(0:Int)<=(qn:Int):=by omega
    have q2:(qn:Int)<5:=by omega
    have HTA:=Hi (tentsA_at qn (by omega));have HXT:Hid (tnF j T su=(T++[tentQ qn],su1)):=by unfold tnF;rw [Mk.bind_eq hq,Int.toNat_natCast];exact rfl
    have CQ:=Hi (CN.out (MF.mk (.int .i64 unit) nilV nilV nilV nilV vax (.slice oa L.length ca) nilV nilV) su qn su1 5 (by decide) (by decide) hq);have HJN:=Hi hjn;have HJ3:=Hi hj3;have HWS:Hid (m<wr.heap.size/\gb<wr.heap.size):=by have h7:=HS.out.g.d.mkr.blk.lt;have h8:=HS.out.blk.lt;exact ⟨h7,h8⟩
    have G0:∀ W,Mod [m] wr W->W.cell? ⟨gb,0,none⟩=some (.slice ot T.length ct):=fun W k=>(HS.out.blk.kept k (by have:=HS.out.g.d.ord;have:=HS.out.lt;simp;omega)).cell 0
    have HIK:∀ w' w'':World,Mod [m] wr w'->Mod [] w' w''->Mod [m] wr w'':=fun _ _ h k=>h.then (k.more (by simp))
    generalize tentQ qn=dq at *
    clear hq iq hjn hj3;go_upto_region 18 with fail;refine Sa.wp_region_sa (I:=Mod [m] wr) (J:=Mod [m]) (F0:=RgSt w rb m sv l (MF.mk (.int .i64 unit) nilV nilV nilV nilV vax (.slice oa L.length ca) nilV nilV) (MF.mk (.int .i64 unit) nilV nilV nilV nilV vax nilV nilV nilV) (DFont.mk unit [] [] [] [] AX [] [] []) B2 (.slice oa L.length ca) L gb (gb+1) (.slice ot T.length ct) T su) HIK (fun _ _ k=>k.more (by simp)) 13 [(0,Sa.Tok.v),(1,Sa.Tok.v),(2,Sa.Tok.v),(3,Sa.Tok.v),(4,Sa.Tok.v),(5,Sa.Tok.v),(6,Sa.Tok.v),(8,Sa.Tok.v),(9,Sa.Tok.x (RgSt w rb m sv l (MF.mk (.int .i64 unit) nilV nilV nilV nilV vax (.slice oa L.length ca) nilV nilV) (MF.mk (.int .i64 unit) nilV nilV nilV nilV vax nilV nilV nilV) (DFont.mk unit [] [] [] [] AX [] [] []) B2 (.slice oa L.length ca) L gb (gb+1) (.slice ot T.length ct) T su1)),(7,Sa.Tok.al (fun b=>.slice (some ⟨b,0,none⟩) 5 5) (fun b w'=>wr.heap.size<=b/\Blk w' b tentsA 81)),(10,Sa.Tok.v),(11,Sa.Tok.v),(12,Sa.Tok.al (fun b=>.slice (some ⟨b,0,none⟩) 1 1) (fun b w'=>wr.heap.size<=b/\Blk w' b #[.int .i64 dq.start,.int .i64 dq.peak,.int .i64 dq.stop] 81))] [(0,0),(1,0),(2,0),(3,0),(4,0),(5,0),(6,0),(8,0),(9,1),(7,2),(10,0),(11,0),(12,2)] rfl (by kernel_rfl) (by kernel_rfl) ?hGd121 (mR.drew) RgSt.stays (RgSt.stays _ _ HS.out (mR.drew)) ?mainA121
    case hGd121 =>
     intro p hp;simp only [List.mem_cons,List.not_mem_nil,or_false] at hp;rcases hp with rfl | rfl | rfl | rfl | rfl | rfl | rfl | rfl | rfl | rfl | rfl | rfl | rfl <;> first | exact True.intro | exact (fun b w1 w2 h k=>⟨h.1,h.2.kept k (by have:=HWS.out;simp;omega)⟩) | exact RgSt.stays
    iterate 8 refine Sa.vv ?_
    refine Sa.x_go (a':=?_) rfl (by kernel_rfl) (fun w' hw' hF K Q hK=>?_) ?_ ?_;rotate_left
    ·go_wp2_with fail;refine (CQ.out w' hF.g.d.mkr).mono ?_;rintro e w'' ⟨rfl,K',M'⟩;go_wp2;exact hK _ (hw'.then M') M' (hF.call K' M')
    ·kernel_rfl
    refine Sa.a_go (f:=?_) rfl (by kernel_rfl) (fun v=>by simp only [Act.put];(try simp only [List.setIfInBounds_toArray]);(try simp only [List.set_cons_succ,List.set_cons_zero]);exact rfl) (fun w' hw' K Q hK=>?_) (fun bA7=>?_)
    ·go_wp2;exact hK w'.heap.size _ (mR.alloc _) ⟨hw'.size,Blk.new _ tentsA _⟩
    refine Sa.vv ?_;refine Sa.v_go (a':=?_) rfl (by kernel_rfl) (fun w' hw' hG K Q hK=>?_) ?_ ?_;rotate_left
    ·have AC0:=(hG.2.2.cell (qn*3)).trans HTA.out.1;have AC1:=(hG.2.2.cell (qn*3+1)).trans HTA.out.2.1;have AC2:=(hG.2.2.cell (qn*3+2)).trans HTA.out.2.2.1;go_wp2;exact hK _ mR
    ·kernel_rfl
    refine Sa.a_go (f:=?_) rfl (by kernel_rfl) (fun v=>by simp only [Act.put];(try simp only [List.setIfInBounds_toArray]);(try simp only [List.set_cons_succ,List.set_cons_zero]);exact rfl) (fun w' hw' K Q hK=>?_) (fun bA12=>?_)
    ·go_wp2;exact hK w'.heap.size _ (mR.alloc _) ⟨hw'.size,Blk.new _ _ _⟩
    refine Sa.nil_go ?_;intro w' hw' hF hG;simp only [qS,qZ];have HAO:Hid (wr.heap.size<=bA12/\Blk w' bA12 #[.int .i64 dq.start,.int .i64 dq.peak,.int .i64 dq.stop] 81):=⟨hG.2.1,hG.2.2⟩
    have HS1:=Hi hF;clear hF hG hw' CQ HIK HS G0 HWS;generalize bA12=nb at *
    have HLB:Hid (T.length+1<=maxLen/\(T.length+1)*24<=140737488355328):=by have h4:=HTL.out;have h5:=HJ3.out;refine ⟨?_,?_⟩;unfold maxLen;omega;omega
    go_wp2_with (at_builtin;refine wpList_push (k:=3) (e:=81) (base:=gb+1) (l:=T) (l':=[dq]) rfl _ _ 77 rfl tq0 _ 24 Tryz.underlying77 tqi tqz0 tqz1 tqz2 rfl (by decide) STent.stay STent.weak rfl HS1.out.gr ⟨nb,0,none⟩ _ _ [[.int .i64 dq.start,.int .i64 dq.peak,.int .i64 dq.stop]] rfl rfl (Elems.one rfl ⟨rfl,HTA.out.2.2.2⟩) (fun j u hu=>blk_news HAO.out.2 rfl hu) (by simp [Value.oneCell']) HLB.out.1 HLB.out.2 (Nat.succ_le_of_lt HS1.out.blk.lt) ?_);intro v' w7 hGP hgr _;have HP:=Hi (HS1.out.push hGP hgr);have HLT:=Hi HS1.out.lt;obtain ⟨ot',ct',hv⟩:=hGP.form;have hnl:(T++[dq]).length=T.length+1:=by simp
    rw [hnl] at hv;subst hv;have HGP:=Hi hGP;have g0:w7.cell? ⟨gb,0,none⟩=some (.slice ot T.length ct):=HP.out.2.cell 0;have g1:w7.frozen? ⟨gb,0,none⟩=false:=HP.out.2.frozen 0;have HNL:=Hi hnl;clear hGP hgr HS1 HAO hnl;go_wp2;go_roundg (gk - 1)
    case measure=>have:=hj5.out;have:=HJN.out;omega
    case rel =>
     refine ⟨j+1,T++[dq],su1,ot',ct',by rw [Int.natCast_add];rfl,?_,?_,?_,by rw [HNL.out];exact RgSt.store HP.out HGP.out HLT.out⟩
     ·have:=hj5.out;have:=HJN.out;show j+1+(gk - 1)=KA;omega
     ·show Mk.rep (j+1) tnF [] st=_;rw [Mk.rep_next HRT.out];exact HXT.out
     ·have:=HTL.out;show (T++[(_:DTent)]).length=j+1;rw [HNL.out];omega
  case rest =>
  obtain ⟨ot,ct,HS⟩:=hcut;clear HR0 HT;generalize (Value.slice ot TT.length ct)=vt at *
  have HSB:Hid (gb≠m/\gb ∉ (Value.slice oa L.length ca).ownBlock.toList):=by
   have h5:=HS.out.g.d.ord;have h6:=HS.out.lt;exact ⟨by omega,fun hm=>Nat.lt_irrefl _ (h6.2.2 _ (by simpa using hm))⟩
  have B8:∀ W,MkJ m sv l (MF.mk (.int .i64 unit) nilV nilV nilV nilV vax (.slice oa L.length ca) nilV nilV) (Value.slice oa L.length ca).ownBlock.toList wc W->W.cell? ⟨m,8,none⟩=some (.slice oa L.length ca):=fun W k=>k.2.elim fun _ h9=>h9.blk.cell 8
  have A0:∀ W,MkJ m sv l (MF.mk (.int .i64 unit) nilV nilV nilV nilV vax (.slice oa L.length ca) nilV nilV) (Value.slice oa L.length ca).ownBlock.toList wc W->W.cell? ⟨gb,0,none⟩=some vt:=fun W k=>HS.out.blk.mkj k HSB.out.1 HSB.out.2 0
  have HI0:MkJ m sv l (MF.mk (.int .i64 unit) nilV nilV nilV nilV vax (.slice oa L.length ca) nilV nilV) (Value.slice oa L.length ca).ownBlock.toList wc wc.drew:=⟨((Mod.refl [] wc).drew).more (by simp),_,MK.stays _ _ HS.out.g.d.mkr (mR.drew)⟩
  have HLB:Hid (L.length+1<=maxLen/\(L.length+1)*24<=140737488355328):=by have h4:=HL.out;have h5:=HI3.out;refine ⟨?_,?_⟩;unfold maxLen;omega;omega
  go_upto_region 19 with fail;refine Sw.wp_region_sw (I:=MkJ m sv l (MF.mk (.int .i64 unit) nilV nilV nilV nilV vax (.slice oa L.length ca) nilV nilV) (Value.slice oa L.length ca).ownBlock.toList wc) (F0:=RgSt w rb m sv l (MF.mk (.int .i64 unit) nilV nilV nilV nilV vax (.slice oa L.length ca) nilV nilV) (MF.mk (.int .i64 unit) nilV nilV nilV nilV vax nilV nilV nilV) (DFont.mk unit [] [] [] [] AX [] [] []) B2 (.slice oa L.length ca) L gb (gb+1) vt TT t1) MkJ.then 9 [(0,none),(1,none),(2,none),(3,none),(4,none),(5,none),(6,none),(7,some (NewAnd wc.heap.size #[vt] 79 1 (RgSt w rb m sv l (MF.mk (.int .i64 unit) nilV nilV nilV nilV vax (.slice oa L.length ca) nilV nilV) (MF.mk (.int .i64 unit) nilV nilV nilV nilV vax nilV nilV nilV) (DFont.mk unit [] [] [] [] AX [] [] []) B2 (.slice oa L.length ca) L gb (gb+1) vt TT t1))),(8,some (MGv w rb m sv l (MF.mk (.int .i64 unit) nilV nilV nilV nilV vax (.slice oa L.length ca) nilV nilV) (MF.mk (.int .i64 unit) nilV nilV nilV nilV vax nilV nilV nilV) (DFont.mk unit [] [] [] [] AX [] [] []) B2 79 1 SRegion (fun b=>m<b) (L.length+1) (L++[⟨TT⟩]) t1))] (by kernel_rfl) (by kernel_rfl) (Sq.nodup_of (by kernel_rfl)) ?hTS235 HI0 RgSt.stays (RgSt.stays _ _ HS.out (mR.drew)) ?mainS235
  case hTS235 =>
   intro p hp T hT v;simp only [List.mem_cons,List.not_mem_nil,or_false] at hp;rcases hp with rfl | rfl | rfl | rfl | rfl | rfl | rfl | rfl | rfl <;> first | (cases hT;done) | (cases hT;first | exact MGv.stays SRegion.stay _ | exact NewAnd.stays RgSt.stays _)
  iterate 7 refine Sw.vv HI0 ?_
  refine Sw.xx (fun w' hw' hF K Q hK=>?_) (fun kv hkv=>?_)
  ·go_wp2;exact hK _ _ (MkJ.then _ _ hw' (mR.alloc _)) ⟨⟨_,rfl,hw'.1.size,Blk.new _ _ _⟩,RgSt.stays _ _ hF (mR.alloc _)⟩
  obtain ⟨_,_,⟨nb,rfl,hnb,_⟩,_⟩:=hkv;refine Sw.xx (fun w' hw' hF K Q hK=>?_) (fun kv hkv=>?_)
  ·obtain ⟨⟨b9,he9,-,hB⟩,hO⟩:=hF;cases he9;refine oper_push (v:=.slice oa L.length ca) (k:=1) (e:=79) (base:=B2) (l:=L) (l':=[⟨TT⟩]) rfl _ _ 29 rfl yq0 _ 24 Tryz.underlying29 yqi yqz0 yqz1 yqz2 rfl (by decide) SRegion.stay SRegion.weak rfl hO.fin.g ⟨nb,0,none⟩ _ _ [[vt]] rfl rfl hO.elem (fun j u hu=>blk_news hB rfl hu) hO.one HLB.out.1 HLB.out.2 (nT hO.g.d.ord.2.2.2 (nR _)) (fun v' w'' hGP hgr _=>?_);exact hK _ _ (hw'.grew hgr (hO.fin.push hGP hgr).d.mkr) (hO.fin.pushV hGP hgr)
  obtain ⟨_,_,⟨ov,cv,rfl⟩,_⟩:=hkv;refine Sw.nil_go ?_;intro w' hw' hF;simp only [qS,qZ];obtain ⟨⟨ov2,cv2,he9⟩,hO⟩:=hF;cases he9;have HNL:Hid ((L++[(⟨TT⟩:DRegion)]).length=L.length+1):=by show _=_;simp
  have c8:w'.cell? ⟨m,8,none⟩=some (.slice oa L.length ca):=hO.d.mkr.blk.cell 8;have f8:=hO.d.mkr.blk.frozen 8;have HS3:=Hi (hO.store SRegion.stay (f':=(MF.mk (.int .i64 unit) nilV nilV nilV nilV vax (.slice ov (L.length+1) cv) nilV nilV)) 8 (.slice ov (L.length+1) cv) (fun _ _=>rfl));clear hO hw' HS A0 B8 HI0;go_wp2;go_roundg (G - 1)
  case measure=>have:=hi5.out;have:=HIN.out;omega
  case rel =>
   refine ⟨i+1,L++[⟨TT⟩],t1,ov,cv,by rw [Int.natCast_add];rfl,?_,?_,?_,by rw [HNL.out];exact HS3.out⟩
   ·have:=hi5.out;have:=HIN.out;show i+1+(G - 1)=NR;omega
   ·show Mk.rep (i+1) (rgF KA) [] r1=_;rw [Mk.rep_next HR.out];exact HX.out
   ·have:=HL.out;show (L++[(_:DRegion)]).length=i+1;rw [HNL.out];omega
theorem st_funcs {w:World} {rb m:Nat} {sv:Value} {l:List Int} {unit:Int} {KF B3:Nat} {AX:List DAxis} {RG:List DRegion} {FN:List (List DIns)} {s5 s6:Mk.S} {vax vrg:Value} {w5:World} {x0 x1 x5 x6 x7 x8 x9 x10 x12 x13 x14 x15 x16 x17 x18 x19 x20 x21 x22 x23 x24 x25 x26 x27 x28 x29 x30 x31 x32 x33 x34 x35 x36 x37 x38 x39 x40 x41 x42 x43 x44 x45 x46 x47 x48 x49 x50 x51 x52 x53 x54 x55 x56 x57 x58 x59 x60 x61 x62 x63 x64 x65 x66 x67 x68 x69 x70 x71 x72 x73 x74 x75 x76 x77 x78 x79 x80 x81 x82 x83 x84 x85 x86 x87 x88 x89 x90 x91 x92 x93 x94 x95 x96 x97 x98 x99 x100 x101 x102 x103 x104 x105 x106 x107 x108 x109 x110 x111 x112 x113 x114 x115 x116 x117 x118 x119 x120 x121 x122 x123 x124 x125 x126 x127 x128 x129 x130 x131 x132 x133 x134 x135 x136 x137 x138 x139 x140 x141 x142 x143 x144 x145 x146 x147 x148 x149 x150 x151 x152 x153 x154 x155 x156 x157 x158 x159 x160 x161 x162 x163 x164 x165 x166 x167 x168 x169 x170 x171 x172 x173 x174 x175 x176 x177 x178 x179 x180 x181 x182 x183 x184 x185 x186 x187 x188 x189 x190 x191 x192 x193 x194 x195 x196 x197 x198 x199 x200 x201 x202 x203 x204 x205 x206 x207 x208 x209 x210 x211 x212 x213 x214 x215 x216 x217 x218 x219 x220 x221 x222 x223 x224 x225 x226 x227 x228 x229 x230 x231 x232 x233 x234 x235 x236 x237 x238 x239 x240 x241 x242 x243 x244 x245:Value}
  (H6:Hid (Mk.rep KF fnF [] s5=(FN,s6)))
  (HKF:Hid (KF<3))
  (HG2:Hid (MG w rb m sv l (MF.mk (.int .i64 unit) nilV nilV nilV nilV vax vrg nilV nilV) (MF.mk (.int .i64 unit) nilV nilV nilV nilV vax vrg nilV nilV) (DFont.mk unit [] [] [] [] AX RG [] []) B3 44 1 SCode (fun b=>m<b) (.slice none 0 0) ([]:List (List DIns)) s5 w5))
  {J K':Act->World->Prop} {Q':Exit->Act->World->Prop}
  (h1:∀ (a':Act) (w':World),(∃ u11 u108 u109 u110 u111 u112 u113 u114 u115 u116 u117 u118 u119 u120 u121 u122 u123 u124 u125 u126 u127 u128 u129 u130 u131 u132 u133 u134 u135 u136 u137 u138 u139 u140 u141 u142 u143 u144 u145 u146 u147 u148 u149 u150 u151 u152 u153 u154 u155 u156 u157 u158 u159 u160 u161 u162 u163 u164 u165 u166 u167 u168 u169 u170 u171 u172 u173 u174 u175 u176 u177 u178 u179 u180 u181 u182 u183 u184 u185 u186 u187 u188 u189 u190 u191 u192 u193 u194 u195 u196 u197 u198 u199 u200 u201 u202 u203 u204 u205 u206 u207 u208 u209 u210 u211 u212 u213 u214 u215 u216 u217 u218 u219 u220 u221 u222 u223 u224 u225 u226 u227 u228 u229 u230 u231 u232 u233 u234 u235 u236 u237 u238 u239 u240 u241 u242 u243 u244 u245:Value,(∃ (oa:Option Addr) (ca:Nat),Hid (MD w rb m sv l (MF.mk (.int .i64 unit) nilV nilV nilV nilV vax vrg (.slice oa FN.length ca) nilV) (MF.mk (.int .i64 unit) nilV nilV nilV nilV vax vrg (.slice oa FN.length ca) nilV) (DFont.mk unit [] [] [] [] AX RG FN []) w'.heap.size s6 w'))/\a'={ tmps:=(x0::x1::.pointer (some ⟨rb,0,none⟩)::.pointer (some ⟨m,0,none⟩)::.int .i64 (KF:Int)::x5::x6::x7::x8::x9::x10::u11::x12::x13::x14::x15::x16::x17::x18::x19::x20::x21::x22::x23::x24::x25::x26::x27::x28::x29::x30::x31::x32::x33::x34::x35::x36::x37::x38::x39::x40::x41::x42::x43::x44::x45::x46::x47::x48::x49::x50::x51::x52::x53::x54::x55::x56::x57::x58::x59::x60::x61::x62::x63::x64::x65::x66::x67::x68::x69::x70::x71::x72::x73::x74::x75::x76::x77::x78::x79::x80::x81::x82::x83::x84::x85::x86::x87::x88::x89::x90::x91::x92::x93::x94::x95::x96::x97::x98::x99::x100::x101::x102::x103::x104::x105::x106::x107::u108::u109::u110::u111::u112::u113::u114::u115::u116::u117::u118::u119::u120::u121::u122::u123::u124::u125::u126::u127::u128::u129::u130::u131::u132::u133::u134::u135::u136::u137::u138::u139::u140::u141::u142::u143::u144::u145::u146::u147::u148::u149::u150::u151::u152::u153::u154::u155::u156::u157::u158::u159::u160::u161::u162::u163::u164::u165::u166::u167::u168::u169::u170::u171::u172::u173::u174::u175::u176::u177::u178::u179::u180::u181::u182::u183::u184::u185::u186::u187::u188::u189::u190::u191::u192::u193::u194::u195::u196::u197::u198::u199::u200::u201::u202::u203::u204::u205::u206::u207::u208::u209::u210::u211::u212::u213::u214::u215::u216::u217::u218::u219::u220::u221::u222::u223::u224::u225::u226::u227::u228::u229::u230::u231::u232::u233::u234::u235::u236::u237::u238::u239::u240::u241::u242::u243::u244::u245::[]).toArray,defers:=[] })->J a' w')
  (h2:∀ (a':Act) (w':World),Met J a' w'->K' a' w') :
  Code.wp Tryz.prog ((findB 6 ((Tryz.f7).body.getD .skip)).getD .skip) (Exit.then K' Q') { tmps:=(x0::x1::.pointer (some ⟨rb,0,none⟩)::.pointer (some ⟨m,0,none⟩)::.int .i64 (KF:Int)::x5::x6::x7::x8::x9::x10::.int .i64 0::x12::x13::x14::x15::x16::x17::x18::x19::x20::x21::x22::x23::x24::x25::x26::x27::x28::x29::x30::x31::x32::x33::x34::x35::x36::x37::x38::x39::x40::x41::x42::x43::x44::x45::x46::x47::x48::x49::x50::x51::x52::x53::x54::x55::x56::x57::x58::x59::x60::x61::x62::x63::x64::x65::x66::x67::x68::x69::x70::x71::x72::x73::x74::x75::x76::x77::x78::x79::x80::x81::x82::x83::x84::x85::x86::x87::x88::x89::x90::x91::x92::x93::x94::x95::x96::x97::x98::x99::x100::x101::x102::x103::x104::x105::x106::x107::x108::x109::x110::x111::x112::x113::x114::x115::x116::x117::x118::x119::x120::x121::x122::x123::x124::x125::x126::x127::x128::x129::x130::x131::x132::x133::x134::x135::x136::x137::x138::x139::x140::x141::x142::x143::x144::x145::x146::x147::x148::x149::x150::x151::x152::x153::x154::x155::x156::x157::x158::x159::x160::x161::x162::x163::x164::x165::x166::x167::x168::x169::x170::x171::x172::x173::x174::x175::x176::x177::x178::x179::x180::x181::x182::x183::x184::x185::x186::x187::x188::x189::x190::x191::x192::x193::x194::x195::x196::x197::x198::x199::x200::x201::x202::x203::x204::x205::x206::x207::x208::x209::x210::x211::x212::x213::x214::x215::x216::x217::x218::x219::x220::x221::x222::x223::x224::x225::x226::x227::x228::x229::x230::x231::x232::x233::x234::x235::x236::x237::x238::x239::x240::x241::x242::x243::x244::x245::[]).toArray,defers:=[] } w5:=by
 have CN:=Hi (fun f st x st' n h1 h2 e=>next_at m sv l f st n h1 h2 (r:=x) (s':=st') e);obtain ⟨cq0,cqi,cqz0,cqz1,cqz2⟩:=info_parts inf_Code
 conv=>arg 2;whnf
 go_wp2_with fail
 go_loopg [11] KF (fun gk v11 wr=>∃ (i:Nat) (L:List (List DIns)) (st:Mk.S) (oa:Option Addr) (ca:Nat),v11=.int .i64 (i:Int)/\Hid (i+gk=KF)/\Hid (Mk.rep i fnF [] s5=(L,st))/\Hid (L.length=i)/\Hid (MG w rb m sv l (MF.mk (.int .i64 unit) nilV nilV nilV nilV vax vrg (.slice oa L.length ca) nilV) (MF.mk (.int .i64 unit) nilV nilV nilV nilV vax vrg nilV nilV) (DFont.mk unit [] [] [] [] AX RG [] []) B3 44 1 SCode (fun b=>m<b) (.slice oa L.length ca) L st wr))
 case atStart=>exact ⟨0,[],s5,none,0,rfl,by show 0+KF=KF;omega,rfl,rfl,HG2.out⟩
 case round =>
  obtain ⟨i,L,st,oa,ca,rfl,hi5,HR,HL,HS⟩:=hrel;clear HG2
  by_cases hin:i<KF
  case neg =>
   obtain rfl:i=KF:=by have:=hi5.out;omega
   have k1:decide ((i:Int)<(i:Int))=false:=dF (by omega);obtain ⟨rfl,rfl⟩:L=FN/\st=s6:=by have h9:=H6.out;rw [HR.out] at h9;simpa using h9
   go_wp2;go_meet
   case rel=>exact ⟨oa,ca,MG.doneFn (f0:=(MF.mk (.int .i64 unit) nilV nilV nilV nilV vax vrg nilV nilV)) (F:=(DFont.mk unit [] [] [] [] AX RG [] [])) HS.out⟩
  have k1:decide ((i:Int)<(KF:Int))=true:=dT (by omega);have k2:(i:Int)<(KF:Int):=by omega
  have hi3:i<3:=by have:=HKF.out;omega
  have ei:IntKind.i64.wrap ((i:Int)+1)=(i:Int)+1:=wrapi (by omega) (by omega);obtain ⟨hc,t1,hh⟩:∃ a b,Mk.hint 6 i 4 ⟨st.r,0⟩=(a,b):=⟨_,_,rfl⟩
  have CH:=Hi (hint_at m sv l (MF.mk (.int .i64 unit) nilV nilV nilV nilV vax vrg (.slice oa L.length ca) nilV) ⟨st.r,0⟩ 6 i 4 (by decide) (by decide) (by omega) (by omega) (by decide) (by decide) hh);have HX:Hid (fnF i L st=(L++[hc],t1)):=by unfold fnF;rw [Mk.bind_eq hh];exact rfl
  have HIN:=Hi hin;have HI3:=Hi hi3;have c11:wr.cell? ⟨m,11,none⟩=some (.int .i64 st.lp):=HS.out.d.mkr.blk.cell 11;have f11:wr.frozen? ⟨m,11,none⟩=false:=HS.out.d.mkr.blk.frozen 11;have HS1:=Hi (HS.out.lps SCode.stay 0 (by decide) (by decide));have HLT:=Hi HS.out.g.lt;clear hh hin hi3 HS;go_upto_region 25 with fail;have HW:Hid (m<wr.heap.size/\(wr.setCell ⟨m,11,none⟩ (.int .i64 0)).heap.size=wr.heap.size):=⟨by have h9:=HS1.out.d.mkr.blk.lt;simpa using h9,by simp⟩
  generalize wr.setCell ⟨m,11,none⟩ (.int .i64 0)=w6 at *
  generalize wr.heap.size=N0 at *
  clear c11 f11;have B9:∀ W,MkJ m sv l (MF.mk (.int .i64 unit) nilV nilV nilV nilV vax vrg (.slice oa L.length ca) nilV) (Value.slice oa L.length ca).ownBlock.toList w6 W->W.cell? ⟨m,9,none⟩=some (.slice oa L.length ca):=fun W k=>k.2.elim fun _ h9=>h9.blk.cell 9
  have HI0:MkJ m sv l (MF.mk (.int .i64 unit) nilV nilV nilV nilV vax vrg (.slice oa L.length ca) nilV) (Value.slice oa L.length ca).ownBlock.toList w6 w6.drew:=⟨((Mod.refl [] w6).drew).more (by simp),_,MK.stays _ _ HS1.out.d.mkr (mR.drew)⟩
  have HLB:Hid (L.length+1<=maxLen/\(L.length+1)*24<=140737488355328):=by have h4:=HL.out;have h5:=HI3.out;refine ⟨?_,?_⟩;unfold maxLen;omega;omega
  refine Sw.wp_region_sw (I:=MkJ m sv l (MF.mk (.int .i64 unit) nilV nilV nilV nilV vax vrg (.slice oa L.length ca) nilV) (Value.slice oa L.length ca).ownBlock.toList w6) (F0:=MG w rb m sv l (MF.mk (.int .i64 unit) nilV nilV nilV nilV vax vrg (.slice oa L.length ca) nilV) (MF.mk (.int .i64 unit) nilV nilV nilV nilV vax vrg nilV nilV) (DFont.mk unit [] [] [] [] AX RG [] []) B3 44 1 SCode (fun b=>m<b) (.slice oa L.length ca) L ⟨st.r,0⟩) MkJ.then 11 [(0,none),(1,none),(2,none),(3,none),(4,none),(5,none),(6,none),(7,none),(8,some (RowV N0 2 SIns hc (MG w rb m sv l (MF.mk (.int .i64 unit) nilV nilV nilV nilV vax vrg (.slice oa L.length ca) nilV) (MF.mk (.int .i64 unit) nilV nilV nilV nilV vax vrg nilV nilV) (DFont.mk unit [] [] [] [] AX RG [] []) B3 44 1 SCode (fun b=>m<b) (.slice oa L.length ca) L t1))),(9,some (NewRow w6.heap.size N0 2 SIns 44 hc (MG w rb m sv l (MF.mk (.int .i64 unit) nilV nilV nilV nilV vax vrg (.slice oa L.length ca) nilV) (MF.mk (.int .i64 unit) nilV nilV nilV nilV vax vrg nilV nilV) (DFont.mk unit [] [] [] [] AX RG [] []) B3 44 1 SCode (fun b=>m<b) (.slice oa L.length ca) L t1))),(10,some (MGv w rb m sv l (MF.mk (.int .i64 unit) nilV nilV nilV nilV vax vrg (.slice oa L.length ca) nilV) (MF.mk (.int .i64 unit) nilV nilV nilV nilV vax vrg nilV nilV) (DFont.mk unit [] [] [] [] AX RG [] []) B3 44 1 SCode (fun b=>m<b) (L.length+1) (L++[hc]) t1))] (by kernel_rfl) (by kernel_rfl) (Sq.nodup_of (by kernel_rfl)) ?hTS55 HI0 (MG.stays SCode.stay) (MG.stays SCode.stay _ _ HS1.out (mR.drew)) ?mainS55
  case hTS55 =>
   intro p hp T hT v;simp only [List.mem_cons,List.not_mem_nil,or_false] at hp;rcases hp with rfl | rfl | rfl | rfl | rfl | rfl | rfl | rfl | rfl | rfl | rfl <;> first | (cases hT;done) | (cases hT;first | exact MGv.stays SCode.stay _ | exact NewRow.stays SIns.stay (MG.stays SCode.stay) _ | exact RowV.stays SIns.stay (MG.stays SCode.stay) _)
  iterate 8 refine Sw.vv HI0 ?_
  refine Sw.xx (fun w' hw' hF K Q hK=>?_) (fun kv hkv=>?_)
  ·go_wp2_with fail;refine (CH.out w' hF.d.mkr).mono ?_;rintro e w'' ⟨v,rfl,hv,K',M'⟩;obtain ⟨oh,ch,rfl,-⟩:=hv.form;go_wp2;exact hK _ _ ⟨hw'.1.then (M'.more (by simp)),_,K'⟩ ⟨⟨oh,ch,rfl⟩,hv.newer (by decide) SIns.weak (nT (Nat.le_of_eq HW.out.2.symm) hw'.1.size),hF.call SCode.stay K' M'⟩
  obtain ⟨_,_,⟨oh,ch,rfl⟩,_⟩:=hkv;refine Sw.xx (fun w' hw' hF K Q hK=>?_) (fun kv hkv=>?_)
  ·go_wp2_with fail;obtain ⟨⟨_,_,he9⟩,hF2⟩:=hF;cases he9;exact hK _ _ (MkJ.then _ _ hw' (mR.alloc _)) ⟨_,_,_,rfl,hw'.1.size,Blk.new _ _ _,RowP.stays SIns.stay (MG.stays SCode.stay) _ _ hF2 (mR.alloc _)⟩
  obtain ⟨_,_,nb,oh9,ch9,rfl,_⟩:=hkv;refine Sw.xx (fun w' hw' hF K Q hK=>?_) (fun kv hkv=>?_)
  ·obtain ⟨b9,oh9,ch9,he9,-,hB,hrow,hO⟩:=hF;cases he9;refine oper_push (v:=.slice oa L.length ca) (k:=1) (e:=44) (base:=B3) (l:=L) (l':=[hc]) rfl _ _ 30 rfl cq0 _ 24 Tryz.underlying30 cqi cqz0 cqz1 cqz2 rfl (by decide) SCode.stay SCode.weak rfl hO.g ⟨nb,0,none⟩ _ _ [[.slice oh9 hc.length ch9]] rfl rfl (Elems.one rfl ⟨_,rfl,hrow.apart (by decide) SIns.weak HW.out.1 fun b hb=>(HLT.out b hb).2⟩) (fun j u hu=>blk_news hB rfl hu) (by simp [Value.oneCell']) HLB.out.1 HLB.out.2 (nT hO.d.ord.2.2.2 (nR _)) (fun v' w'' hGP hgr _=>?_);exact hK _ _ (hw'.grew hgr (hO.push hGP hgr).d.mkr) (hO.pushV hGP hgr)
  obtain ⟨_,_,⟨ov,cv,rfl⟩,_⟩:=hkv;refine Sw.nil_go ?_;intro w' hw' hF;simp only [qS,qZ];obtain ⟨⟨ov2,cv2,he9⟩,hO⟩:=hF;cases he9;have HNL:Hid ((L++[hc]).length=L.length+1):=by show _=_;simp
  have c9:w'.cell? ⟨m,9,none⟩=some (.slice oa L.length ca):=hO.d.mkr.blk.cell 9;have f9:=hO.d.mkr.blk.frozen 9;have HS3:=Hi (hO.store SCode.stay (f':=(MF.mk (.int .i64 unit) nilV nilV nilV nilV vax vrg (.slice ov (L.length+1) cv) nilV)) 9 (.slice ov (L.length+1) cv) (fun _ _=>rfl));clear hO hw' HS1 B9 HI0 CH;go_wp2;go_roundg (gk - 1)
  case measure=>have:=hi5.out;have:=HIN.out;omega
  case rel =>
   refine ⟨i+1,L++[hc],t1,ov,cv,by rw [Int.natCast_add];rfl,?_,?_,?_,by rw [HNL.out];exact HS3.out⟩
   ·have:=hi5.out;have:=HIN.out;show i+1+(gk - 1)=KF;omega
   ·show Mk.rep (i+1) fnF [] s5=_;rw [Mk.rep_next HR.out];exact HX.out
   ·have:=HL.out;show (L++[(_:List DIns)]).length=i+1;rw [HNL.out];omega
theorem st_cvt {w:World} {rb m:Nat} {sv:Value} {l:List Int} {unit:Int} {KC B4:Nat} {AX:List DAxis} {RG:List DRegion} {FN:List (List DIns)} {CV:List Int} {s7 s8:Mk.S} {vax vrg vfn:Value} {w7:World} {x0 x1 x5 x6 x7 x8 x9 x10 x11 x13 x14 x15 x16 x17 x18 x19 x20 x21 x22 x23 x24 x25 x26 x27 x28 x29 x30 x31 x32 x33 x34 x35 x36 x37 x38 x39 x40 x41 x42 x43 x44 x45 x46 x47 x48 x49 x50 x51 x52 x53 x54 x55 x56 x57 x58 x59 x60 x61 x62 x63 x64 x65 x66 x67 x68 x69 x70 x71 x72 x73 x74 x75 x76 x77 x78 x79 x80 x81 x82 x83 x84 x85 x86 x87 x88 x89 x90 x91 x92 x93 x94 x95 x96 x97 x98 x99 x100 x101 x102 x103 x104 x105 x106 x107 x108 x109 x110 x111 x112 x113 x114 x115 x116 x117 x118 x119 x120 x121 x122 x123 x124 x125 x126 x127 x128 x129 x130 x131 x132 x133 x134 x135 x136 x137 x138 x139 x140 x141 x142 x143 x144 x145 x146 x147 x148 x149 x150 x151 x152 x153 x154 x155 x156 x157 x158 x159 x160 x161 x162 x163 x164 x165 x166 x167 x168 x169 x170 x171 x172 x173 x174 x175 x176 x177 x178 x179 x180 x181 x182 x183 x184 x185 x186 x187 x188 x189 x190 x191 x192 x193 x194 x195 x196 x197 x198 x199 x200 x201 x202 x203 x204 x205 x206 x207 x208 x209 x210 x211 x212 x213 x214 x215 x216 x217 x218 x219 x220 x221 x222 x223 x224 x225 x226 x227 x228 x229 x230 x231 x232 x233 x234 x235 x236 x237 x238 x239 x240 x241 x242 x243 x244 x245:Value}
  (H8:Hid (Mk.rep KC cvF [] s7=(CV,s8)))
  (HKC:Hid (KC<4))
  (HG3:Hid (MG w rb m sv l (MF.mk (.int .i64 unit) nilV nilV nilV nilV vax vrg vfn nilV) (MF.mk (.int .i64 unit) nilV nilV nilV nilV vax vrg vfn nilV) (DFont.mk unit [] [] [] [] AX RG FN []) B4 3 1 SInt (fun _=>False) (.slice none 0 0) ([]:List Int) s7 w7))
  {J K':Act->World->Prop} {Q':Exit->Act->World->Prop}
  (h1:∀ (a':Act) (w':World),(∃ u12 u132 u133 u134 u135 u136 u137 u138 u139 u140 u141 u142 u143 u144 u145 u146 u147 u148 u149 u150 u151 u152 u153 u154 u155 u156 u157 u158 u159 u160 u161 u162 u163 u164 u165 u166 u167 u168 u169 u170 u171 u172 u173 u174 u175 u176 u177 u178 u179 u180 u181 u182 u183 u184 u185 u186 u187 u188 u189 u190 u191 u192 u193 u194 u195 u196 u197 u198 u199 u200 u201 u202 u203 u204 u205 u206 u207 u208 u209 u210 u211 u212 u213 u214 u215 u216 u217 u218 u219 u220 u221 u222 u223 u224 u225 u226 u227 u228 u229 u230 u231 u232 u233 u234 u235 u236 u237 u238 u239 u240 u241 u242 u243 u244 u245:Value,(∃ (oa:Option Addr) (ca:Nat),Hid (MD w rb m sv l (MF.mk (.int .i64 unit) nilV nilV nilV nilV vax vrg vfn (.slice oa CV.length ca)) (MF.mk (.int .i64 unit) nilV nilV nilV nilV vax vrg vfn (.slice oa CV.length ca)) (DFont.mk unit [] [] [] [] AX RG FN CV) w'.heap.size s8 w'))/\a'={ tmps:=(x0::x1::.pointer (some ⟨rb,0,none⟩)::.pointer (some ⟨m,0,none⟩)::.int .i64 (KC:Int)::x5::x6::x7::x8::x9::x10::x11::u12::x13::x14::x15::x16::x17::x18::x19::x20::x21::x22::x23::x24::x25::x26::x27::x28::x29::x30::x31::x32::x33::x34::x35::x36::x37::x38::x39::x40::x41::x42::x43::x44::x45::x46::x47::x48::x49::x50::x51::x52::x53::x54::x55::x56::x57::x58::x59::x60::x61::x62::x63::x64::x65::x66::x67::x68::x69::x70::x71::x72::x73::x74::x75::x76::x77::x78::x79::x80::x81::x82::x83::x84::x85::x86::x87::x88::x89::x90::x91::x92::x93::x94::x95::x96::x97::x98::x99::x100::x101::x102::x103::x104::x105::x106::x107::x108::x109::x110::x111::x112::x113::x114::x115::x116::x117::x118::x119::x120::x121::x122::x123::x124::x125::x126::x127::x128::x129::x130::x131::u132::u133::u134::u135::u136::u137::u138::u139::u140::u141::u142::u143::u144::u145::u146::u147::u148::u149::u150::u151::u152::u153::u154::u155::u156::u157::u158::u159::u160::u161::u162::u163::u164::u165::u166::u167::u168::u169::u170::u171::u172::u173::u174::u175::u176::u177::u178::u179::u180::u181::u182::u183::u184::u185::u186::u187::u188::u189::u190::u191::u192::u193::u194::u195::u196::u197::u198::u199::u200::u201::u202::u203::u204::u205::u206::u207::u208::u209::u210::u211::u212::u213::u214::u215::u216::u217::u218::u219::u220::u221::u222::u223::u224::u225::u226::u227::u228::u229::u230::u231::u232::u233::u234::u235::u236::u237::u238::u239::u240::u241::u242::u243::u244::u245::[]).toArray,defers:=[] })->J a' w')
  (h2:∀ (a':Act) (w':World),Met J a' w'->K' a' w') :
  Code.wp Tryz.prog ((findB 8 ((Tryz.f7).body.getD .skip)).getD .skip) (Exit.then K' Q') { tmps:=(x0::x1::.pointer (some ⟨rb,0,none⟩)::.pointer (some ⟨m,0,none⟩)::.int .i64 (KC:Int)::x5::x6::x7::x8::x9::x10::x11::.int .i64 0::x13::x14::x15::x16::x17::x18::x19::x20::x21::x22::x23::x24::x25::x26::x27::x28::x29::x30::x31::x32::x33::x34::x35::x36::x37::x38::x39::x40::x41::x42::x43::x44::x45::x46::x47::x48::x49::x50::x51::x52::x53::x54::x55::x56::x57::x58::x59::x60::x61::x62::x63::x64::x65::x66::x67::x68::x69::x70::x71::x72::x73::x74::x75::x76::x77::x78::x79::x80::x81::x82::x83::x84::x85::x86::x87::x88::x89::x90::x91::x92::x93::x94::x95::x96::x97::x98::x99::x100::x101::x102::x103::x104::x105::x106::x107::x108::x109::x110::x111::x112::x113::x114::x115::x116::x117::x118::x119::x120::x121::x122::x123::x124::x125::x126::x127::x128::x129::x130::x131::x132::x133::x134::x135::x136::x137::x138::x139::x140::x141::x142::x143::x144::x145::x146::x147::x148::x149::x150::x151::x152::x153::x154::x155::x156::x157::x158::x159::x160::x161::x162::x163::x164::x165::x166::x167::x168::x169::x170::x171::x172::x173::x174::x175::x176::x177::x178::x179::x180::x181::x182::x183::x184::x185::x186::x187::x188::x189::x190::x191::x192::x193::x194::x195::x196::x197::x198::x199::x200::x201::x202::x203::x204::x205::x206::x207::x208::x209::x210::x211::x212::x213::x214::x215::x216::x217::x218::x219::x220::x221::x222::x223::x224::x225::x226::x227::x228::x229::x230::x231::x232::x233::x234::x235::x236::x237::x238::x239::x240::x241::x242::x243::x244::x245::[]).toArray,defers:=[] } w7:=by
 have CN:=Hi (fun f st x st' n h1 h2 e=>next_at m sv l f st n h1 h2 (r:=x) (s':=st') e);obtain ⟨iq0,iqi,iqz0,iqz1,iqz2⟩:=info_parts inf_Int
 conv=>arg 2;whnf
 go_wp2_with fail
 go_loopg [12] KC (fun gk v12 wr=>∃ (i:Nat) (L:List Int) (st:Mk.S) (oa:Option Addr) (ca:Nat),v12=.int .i64 (i:Int)/\Hid (i+gk=KC)/\Hid (Mk.rep i cvF [] s7=(L,st))/\Hid (L.length=i)/\Hid (MG w rb m sv l (MF.mk (.int .i64 unit) nilV nilV nilV nilV vax vrg vfn (.slice oa L.length ca)) (MF.mk (.int .i64 unit) nilV nilV nilV nilV vax vrg vfn nilV) (DFont.mk unit [] [] [] [] AX RG FN []) B4 3 1 SInt (fun _=>False) (.slice oa L.length ca) L st wr))
 case atStart=>exact ⟨0,[],s7,none,0,rfl,by show 0+KC=KC;omega,rfl,rfl,HG3.out⟩
 case round =>
  obtain ⟨i,L,st,oa,ca,rfl,hi5,HR,HL,HS⟩:=hrel;clear HG3
  by_cases hin:i<KC
  case neg =>
   obtain rfl:i=KC:=by have:=hi5.out;omega
   have k1:decide ((i:Int)<(i:Int))=false:=dF (by omega);obtain ⟨rfl,rfl⟩:L=CV/\st=s8:=by have h9:=H8.out;rw [HR.out] at h9;simpa using h9
   go_wp2;go_meet
   case rel=>exact ⟨oa,ca,MG.doneCv (f0:=(MF.mk (.int .i64 unit) nilV nilV nilV nilV vax vrg vfn nilV)) (F:=(DFont.mk unit [] [] [] [] AX RG FN [])) HS.out⟩
  have k1:decide ((i:Int)<(KC:Int))=true:=dT (by omega);have k2:(i:Int)<(KC:Int):=by omega
  have hi3:i<4:=by have:=HKC.out;omega
  have ei:IntKind.i64.wrap ((i:Int)+1)=(i:Int)+1:=wrapi (by omega) (by omega);obtain ⟨x,t1,hx⟩:∃ a b,Mk.next 500 st=(a,b):=⟨_,_,rfl⟩
  have ix:=next_in (by decide) hx;have x1:IntKind.i64.wrap (x - 100)=x - 100:=wrapi (by omega) (by omega);have CX:=Hi (CN.out (MF.mk (.int .i64 unit) nilV nilV nilV nilV vax vrg vfn (.slice oa L.length ca)) st x t1 500 (by decide) (by decide) hx);have HX:Hid (cvF i L st=(L++[x - 100],t1)):=by unfold cvF;rw [Mk.bind_eq hx];exact rfl
  have HXI:Hid (I64 (x - 100)):=I64.of (by omega) (by omega);have HIN:=Hi hin;have HI3:=Hi hi3;clear hx ix hin hi3;have B10:∀ W,MkJ m sv l (MF.mk (.int .i64 unit) nilV nilV nilV nilV vax vrg vfn (.slice oa L.length ca)) (Value.slice oa L.length ca).ownBlock.toList wr W->W.cell? ⟨m,10,none⟩=some (.slice oa L.length ca):=fun W k=>k.2.elim fun _ h9=>h9.blk.cell 10
  have HI0:MkJ m sv l (MF.mk (.int .i64 unit) nilV nilV nilV nilV vax vrg vfn (.slice oa L.length ca)) (Value.slice oa L.length ca).ownBlock.toList wr wr.drew:=⟨((Mod.refl [] wr).drew).more (by simp),_,MK.stays _ _ HS.out.d.mkr (mR.drew)⟩
  have HLB:Hid (L.length+1<=maxLen/\(L.length+1)*8<=140737488355328):=by have h4:=HL.out;have h5:=HI3.out;refine ⟨?_,?_⟩;unfold maxLen;omega;omega
  go_upto_region 30 with fail;refine Sw.wp_region_sw (I:=MkJ m sv l (MF.mk (.int .i64 unit) nilV nilV nilV nilV vax vrg vfn (.slice oa L.length ca)) (Value.slice oa L.length ca).ownBlock.toList wr) (F0:=MG w rb m sv l (MF.mk (.int .i64 unit) nilV nilV nilV nilV vax vrg vfn (.slice oa L.length ca)) (MF.mk (.int .i64 unit) nilV nilV nilV nilV vax vrg vfn nilV) (DFont.mk unit [] [] [] [] AX RG FN []) B4 3 1 SInt (fun _=>False) (.slice oa L.length ca) L st) MkJ.then 11 [(0,none),(1,none),(2,none),(3,none),(4,none),(5,none),(6,none),(7,some (Rg.Know (MG w rb m sv l (MF.mk (.int .i64 unit) nilV nilV nilV nilV vax vrg vfn (.slice oa L.length ca)) (MF.mk (.int .i64 unit) nilV nilV nilV nilV vax vrg vfn nilV) (DFont.mk unit [] [] [] [] AX RG FN []) B4 3 1 SInt (fun _=>False) (.slice oa L.length ca) L t1) (.int .i64 x))),(8,none),(9,some (NewAnd wr.heap.size #[.int .i64 (x - 100)] 3 1 (MG w rb m sv l (MF.mk (.int .i64 unit) nilV nilV nilV nilV vax vrg vfn (.slice oa L.length ca)) (MF.mk (.int .i64 unit) nilV nilV nilV nilV vax vrg vfn nilV) (DFont.mk unit [] [] [] [] AX RG FN []) B4 3 1 SInt (fun _=>False) (.slice oa L.length ca) L t1))),(10,some (MGv w rb m sv l (MF.mk (.int .i64 unit) nilV nilV nilV nilV vax vrg vfn (.slice oa L.length ca)) (MF.mk (.int .i64 unit) nilV nilV nilV nilV vax vrg vfn nilV) (DFont.mk unit [] [] [] [] AX RG FN []) B4 3 1 SInt (fun _=>False) (L.length+1) (L++[x - 100]) t1))] (by kernel_rfl) (by kernel_rfl) (Sq.nodup_of (by kernel_rfl)) ?hTS184 HI0 (MG.stays SInt.stay) (MG.stays SInt.stay _ _ HS.out (mR.drew)) ?mainS184
  case hTS184 =>
   intro p hp T hT v;simp only [List.mem_cons,List.not_mem_nil,or_false] at hp;rcases hp with rfl | rfl | rfl | rfl | rfl | rfl | rfl | rfl | rfl | rfl | rfl <;> first | (cases hT;done) | (cases hT;first | exact MGv.stays SInt.stay _ | exact NewAnd.stays (MG.stays SInt.stay) _ | exact Rg.know_stays (MG.stays SInt.stay) _ _)
  iterate 7 refine Sw.vv HI0 ?_
  refine Sw.xx (fun w' hw' hF K Q hK=>?_) (fun kv hkv=>?_)
  ·go_wp2_with fail;refine (CX.out w' hF.d.mkr).mono ?_;rintro e w'' ⟨rfl,K',M'⟩;go_wp2;exact hK _ _ ⟨hw'.1.then (M'.more (by simp)),_,K'⟩ ⟨rfl,hF.call SInt.stay K' M'⟩
  obtain ⟨_,_,rfl,_⟩:=hkv;refine Sw.vv HI0 ?_;refine Sw.xx (fun w' hw' hF K Q hK=>?_) (fun kv hkv=>?_)
  ·go_wp2;exact hK _ _ (MkJ.then _ _ hw' (mR.alloc _)) ⟨⟨_,rfl,hw'.1.size,Blk.new _ _ _⟩,MG.stays SInt.stay _ _ hF.2 (mR.alloc _)⟩
  obtain ⟨_,_,⟨nb,rfl,hnb,_⟩,_⟩:=hkv;refine Sw.xx (fun w' hw' hF K Q hK=>?_) (fun kv hkv=>?_)
  ·obtain ⟨⟨b9,he9,-,hB⟩,hO⟩:=hF;cases he9;refine oper_push (v:=.slice oa L.length ca) (k:=1) (e:=3) (base:=B4) (l:=L) (l':=[x - 100]) rfl _ _ 22 rfl iq0 _ 8 Tryz.underlying22 iqi iqz0 iqz1 iqz2 rfl (by decide) SInt.stay SInt.weak rfl hO.g ⟨nb,0,none⟩ _ _ [[.int .i64 (x - 100)]] rfl rfl (Elems.one rfl ⟨rfl,HXI.out⟩) (fun j u hu=>blk_news hB rfl hu) (by simp [Value.oneCell']) HLB.out.1 HLB.out.2 (nT hO.d.ord.2.2.2 (nR _)) (fun v' w'' hGP hgr _=>?_);exact hK _ _ (hw'.grew hgr (hO.push hGP hgr).d.mkr) (hO.pushV hGP hgr)
  obtain ⟨_,_,⟨ov,cv,rfl⟩,_⟩:=hkv;refine Sw.nil_go ?_;intro w' hw' hF;simp only [qS,qZ];obtain ⟨⟨ov2,cv2,he9⟩,hO⟩:=hF;cases he9;have HNL:Hid ((L++[x - 100]).length=L.length+1):=by show _=_;simp
  have c10:w'.cell? ⟨m,10,none⟩=some (.slice oa L.length ca):=hO.d.mkr.blk.cell 10;have f10:=hO.d.mkr.blk.frozen 10;have HS3:=Hi (hO.store SInt.stay (f':=(MF.mk (.int .i64 unit) nilV nilV nilV nilV vax vrg vfn (.slice ov (L.length+1) cv))) 10 (.slice ov (L.length+1) cv) (fun _ _=>rfl));clear hO hw' HS B10 HI0 CX;go_wp2;go_roundg (gk - 1)
  case measure=>have:=hi5.out;have:=HIN.out;omega
  case rel =>
   refine ⟨i+1,L++[x - 100],t1,ov,cv,by rw [Int.natCast_add];rfl,?_,?_,?_,by rw [HNL.out];exact HS3.out⟩
   ·have:=hi5.out;have:=HIN.out;show i+1+(gk - 1)=KC;omega
   ·show Mk.rep (i+1) cvF [] s7=_;rw [Mk.rep_next HR.out];exact HX.out
   ·have:=HL.out;show (L++[(_:Int)]).length=i+1;rw [HNL.out];omega
theorem st_glyphs {w:World} {rb m:Nat} {sv:Value} {l:List Int} {unit:Int} {KG B5:Nat} {AX:List DAxis} {RG:List DRegion} {FN:List (List DIns)} {CV:List Int} {GL:List DGlyph} {s9 s10:Mk.S} {oy oy2:Option Addr} {cy cy2:Nat} {vax vrg vfn vcv:Value} {w8:World} {x0 x1 x5 x6 x7 x8 x9 x10 x11 x12 x14 x15 x16 x17 x18 x19 x20 x21 x22 x23 x24 x25 x26 x27 x28 x29 x30 x31 x32 x33 x34 x35 x36 x37 x38 x39 x40 x41 x42 x43 x44 x45 x46 x47 x48 x49 x50 x51 x52 x53 x54 x55 x56 x57 x58 x59 x60 x61 x62 x63 x64 x65 x66 x67 x68 x69 x70 x71 x72 x73 x74 x75 x76 x77 x78 x79 x80 x81 x82 x83 x84 x85 x86 x87 x88 x89 x90 x91 x92 x93 x94 x95 x96 x97 x98 x99 x100 x101 x102 x103 x104 x105 x106 x107 x108 x109 x110 x111 x112 x113 x114 x115 x116 x117 x118 x119 x120 x121 x122 x123 x124 x125 x126 x127 x128 x129 x130 x131 x132 x133 x134 x135 x136 x137 x138 x139 x140 x141 x142 x143 x144 x145 x146 x147 x148 x149 x150 x151 x152 x153 x154 x155 x156 x157 x158 x159 x160 x161 x162 x163 x164 x165 x166 x167 x168 x169 x170 x171 x172 x173 x174 x175 x176 x177 x178 x179 x180 x181 x182 x183 x184 x185 x186 x187 x188 x189 x190 x191 x192 x193 x194 x195 x196 x197 x198 x199 x200 x201 x202 x203 x204 x205 x206 x207 x208 x209 x210 x211 x212 x213 x214 x215 x216 x217 x218 x219 x220 x221 x222 x223 x224 x225 x226 x227 x228 x229 x230 x231 x232 x233 x234 x235 x236 x237 x238 x239 x240 x241 x242 x243 x244 x245:Value}
  (H10:Hid (Mk.rep KG (glF RG.length FN.length) [] s9=(GL,s10)))
  (HKG:Hid (2<=KG/\KG<=10))
  (HRFL:Hid (RG.length<=20/\FN.length<=100))
  (HVRG:Hid (vrg=.slice oy RG.length cy))
  (HVFN:Hid (vfn=.slice oy2 FN.length cy2))
  (HG4:Hid (MG w rb m sv l (MF.mk (.int .i64 unit) nilV nilV nilV nilV vax vrg vfn vcv) (MF.mk (.int .i64 unit) nilV nilV nilV nilV vax vrg vfn vcv) (DFont.mk unit [] [] [] [] AX RG FN CV) B5 46 9 SGlyph (fun b=>m<b) (.slice none 0 0) ([]:List DGlyph) s9 w8))
  {J K':Act->World->Prop} {Q':Exit->Act->World->Prop}
  (h1:∀ (a':Act) (w':World),(∃ u13 u154 u155 u156 u157 u158 u159 u160 u161 u162 u163 u164 u165 u166 u167 u168 u169 u170 u171 u172 u173 u174 u175 u176 u177 u178 u179 u180 u181 u182 u183 u184 u185 u186 u187 u188 u189 u190 u191 u192 u193 u194 u195 u196 u197 u198 u199 u200 u201 u202 u203 u204 u205 u206 u207 u208 u209 u210 u211 u212 u213 u214 u215 u216 u217 u218 u219 u220 u221 u222 u223 u224 u225 u226 u227 u228 u229 u230 u231 u232 u233 u234 u235 u236 u237 u238 u239 u240 u241 u242 u243 u244 u245:Value,(∃ (oa:Option Addr) (ca:Nat),Hid (MD w rb m sv l (MF.mk (.int .i64 unit) (.slice oa KG ca) nilV nilV nilV vax vrg vfn vcv) (MF.mk (.int .i64 unit) (.slice oa KG ca) nilV nilV nilV vax vrg vfn vcv) (DFont.mk unit GL [] [] [] AX RG FN CV) w'.heap.size s10 w'))/\a'={ tmps:=(x0::x1::.pointer (some ⟨rb,0,none⟩)::.pointer (some ⟨m,0,none⟩)::.int .i64 (KG:Int)::x5::x6::x7::x8::x9::x10::x11::x12::u13::x14::x15::x16::x17::x18::x19::x20::x21::x22::x23::x24::x25::x26::x27::x28::x29::x30::x31::x32::x33::x34::x35::x36::x37::x38::x39::x40::x41::x42::x43::x44::x45::x46::x47::x48::x49::x50::x51::x52::x53::x54::x55::x56::x57::x58::x59::x60::x61::x62::x63::x64::x65::x66::x67::x68::x69::x70::x71::x72::x73::x74::x75::x76::x77::x78::x79::x80::x81::x82::x83::x84::x85::x86::x87::x88::x89::x90::x91::x92::x93::x94::x95::x96::x97::x98::x99::x100::x101::x102::x103::x104::x105::x106::x107::x108::x109::x110::x111::x112::x113::x114::x115::x116::x117::x118::x119::x120::x121::x122::x123::x124::x125::x126::x127::x128::x129::x130::x131::x132::x133::x134::x135::x136::x137::x138::x139::x140::x141::x142::x143::x144::x145::x146::x147::x148::x149::x150::x151::x152::x153::u154::u155::u156::u157::u158::u159::u160::u161::u162::u163::u164::u165::u166::u167::u168::u169::u170::u171::u172::u173::u174::u175::u176::u177::u178::u179::u180::u181::u182::u183::u184::u185::u186::u187::u188::u189::u190::u191::u192::u193::u194::u195::u196::u197::u198::u199::u200::u201::u202::u203::u204::u205::u206::u207::u208::u209::u210::u211::u212::u213::u214::u215::u216::u217::u218::u219::u220::u221::u222::u223::u224::u225::u226::u227::u228::u229::u230::u231::u232::u233::u234::u235::u236::u237::u238::u239::u240::u241::u242::u243::u244::u245::[]).toArray,defers:=[] })->J a' w')
  (h2:∀ (a':Act) (w':World),Met J a' w'->K' a' w') :
  Code.wp Tryz.prog ((findB 10 ((Tryz.f7).body.getD .skip)).getD .skip) (Exit.then K' Q') { tmps:=(x0::x1::.pointer (some ⟨rb,0,none⟩)::.pointer (some ⟨m,0,none⟩)::.int .i64 (KG:Int)::x5::x6::x7::x8::x9::x10::x11::x12::.int .i64 0::x14::x15::x16::x17::x18::x19::x20::x21::x22::x23::x24::x25::x26::x27::x28::x29::x30::x31::x32::x33::x34::x35::x36::x37::x38::x39::x40::x41::x42::x43::x44::x45::x46::x47::x48::x49::x50::x51::x52::x53::x54::x55::x56::x57::x58::x59::x60::x61::x62::x63::x64::x65::x66::x67::x68::x69::x70::x71::x72::x73::x74::x75::x76::x77::x78::x79::x80::x81::x82::x83::x84::x85::x86::x87::x88::x89::x90::x91::x92::x93::x94::x95::x96::x97::x98::x99::x100::x101::x102::x103::x104::x105::x106::x107::x108::x109::x110::x111::x112::x113::x114::x115::x116::x117::x118::x119::x120::x121::x122::x123::x124::x125::x126::x127::x128::x129::x130::x131::x132::x133::x134::x135::x136::x137::x138::x139::x140::x141::x142::x143::x144::x145::x146::x147::x148::x149::x150::x151::x152::x153::x154::x155::x156::x157::x158::x159::x160::x161::x162::x163::x164::x165::x166::x167::x168::x169::x170::x171::x172::x173::x174::x175::x176::x177::x178::x179::x180::x181::x182::x183::x184::x185::x186::x187::x188::x189::x190::x191::x192::x193::x194::x195::x196::x197::x198::x199::x200::x201::x202::x203::x204::x205::x206::x207::x208::x209::x210::x211::x212::x213::x214::x215::x216::x217::x218::x219::x220::x221::x222::x223::x224::x225::x226::x227::x228::x229::x230::x231::x232::x233::x234::x235::x236::x237::x238::x239::x240::x241::x242::x243::x244::x245::[]).toArray,defers:=[] } w8:=by
 have CN:=Hi (fun f st x st' n h1 h2 e=>next_at m sv l f st n h1 h2 (r:=x) (s':=st') e)
 conv=>arg 2;whnf
 go_wp2_with fail
 go_loopg [13] KG (fun gk v13 wr=>∃ (i:Nat) (L:List DGlyph) (st:Mk.S) (oa:Option Addr) (ca:Nat),v13=.int .i64 (i:Int)/\Hid (i+gk=KG)/\Hid (Mk.rep i (glF RG.length FN.length) [] s9=(L,st))/\Hid (L.length=i)/\Hid (MG w rb m sv l (MF.mk (.int .i64 unit) (.slice oa L.length ca) nilV nilV nilV vax vrg vfn vcv) (MF.mk (.int .i64 unit) nilV nilV nilV nilV vax vrg vfn vcv) (DFont.mk unit [] [] [] [] AX RG FN CV) B5 46 9 SGlyph (fun b=>m<b) (.slice oa L.length ca) L st wr))
 case atStart=>exact ⟨0,[],s9,none,0,rfl,by show 0+KG=KG;omega,rfl,rfl,HG4.out⟩
 case round =>
  obtain ⟨i,L,st,oa,ca,rfl,hi5,HR,HL,HS⟩:=hrel;clear HG4
  by_cases hin:i<KG
  case neg =>
   obtain rfl:i=KG:=by have:=hi5.out;omega
   have k1:decide ((i:Int)<(i:Int))=false:=dF (by omega);obtain ⟨rfl,rfl⟩:L=GL/\st=s10:=by have h9:=H10.out;rw [HR.out] at h9;simpa using h9
   have HSD:Hid (MD w rb m sv l (MF.mk (.int .i64 unit) (.slice oa i ca) nilV nilV nilV vax vrg vfn vcv) (MF.mk (.int .i64 unit) (.slice oa i ca) nilV nilV nilV vax vrg vfn vcv) (DFont.mk unit L [] [] [] AX RG FN CV) wr.heap.size st wr):=by
    have h8:=MG.doneGl (f0:=(MF.mk (.int .i64 unit) nilV nilV nilV nilV vax vrg vfn vcv)) (F:=(DFont.mk unit [] [] [] [] AX RG FN CV)) HS.out;rw [HL.out] at h8;exact h8
   go_wp2;go_meet
   case rel=>exact ⟨oa,ca,HSD⟩
  have k1:decide ((i:Int)<(KG:Int))=true:=dT (by omega);have k2:(i:Int)<(KG:Int):=by omega
  have hi3:i<20:=by have:=HKG.out;omega
  have ei:IntKind.i64.wrap ((i:Int)+1)=(i:Int)+1:=wrapi (by omega) (by omega);obtain ⟨x,t1,hx⟩:∃ a b,Mk.glyph i RG.length FN.length st=(a,b):=⟨_,_,rfl⟩
  have CX:=Hi (glyph_at m B5 sv l (MF.mk (.int .i64 unit) (.slice oa L.length ca) nilV nilV nilV vax vrg vfn vcv) st i RG.length FN.length (by omega) HRFL.out.1 HRFL.out.2 HVRG.out HVFN.out (L:=L) (by have:=HL.out;omega) hx wr HS.out.d.mkr ⟨HS.out.d.ord.2.2.1,HS.out.d.ord.2.2.2⟩ HS.out.g);have HX:Hid (glF RG.length FN.length i L st=(L++[x],t1)):=by unfold glF;rw [Mk.bind_eq hx];exact rfl
  have HIN:=Hi hin;clear hx hin hi3;go_wp2_with fail;refine CX.out.mono ?_;rintro e w9 ⟨v',rfl,hG',K',M'⟩;have HS3:Hid (MG w rb m sv l (MF.mk (.int .i64 unit) v' nilV nilV nilV vax vrg vfn vcv) (MF.mk (.int .i64 unit) nilV nilV nilV nilV vax vrg vfn vcv) (DFont.mk unit [] [] [] [] AX RG FN CV) B5 46 9 SGlyph (fun b=>m<b) v' (L++[x]) t1 w9) :=
   ⟨HS.out.d.callO K' M' (fun b hb=>(HS.out.g.lt b (by simpa using hb)).1),hG',fun _ h=>h⟩
  obtain ⟨ov,cv,rfl⟩:=hG'.form;clear hG' K' M' CX HS;go_wp2;go_roundg (gk - 1)
  case measure=>have:=hi5.out;have:=HIN.out;omega
  case rel =>
   refine ⟨i+1,L++[x],t1,ov,cv,by rw [Int.natCast_add];rfl,?_,?_,?_,HS3.out⟩
   ·have:=hi5.out;have:=HIN.out;show i+1+(gk - 1)=KG;omega
   ·show Mk.rep (i+1) (glF RG.length FN.length) [] s9=_;rw [Mk.rep_next HR.out];exact HX.out
   ·have:=HL.out;show (L++[(_:DGlyph)]).length=i+1;simp;omega
theorem st_chars {w:World} {rb m:Nat} {sv:Value} {l:List Int} {unit:Int} {KG B6 ub cg:Nat} {og:Option Addr} {AX:List DAxis} {RG:List DRegion} {FN:List (List DIns)} {CV:List Int} {GL:List DGlyph} {CH:List DChar} {s10 s11:Mk.S} {vax vrg vfn vcv:Value} {w9:World} {x0 x1 x4 x5 x6 x7 x8 x9 x10 x11 x12 x13 x16 x17 x18 x19 x20 x21 x22 x23 x24 x25 x26 x27 x28 x29 x30 x31 x32 x33 x34 x35 x36 x37 x38 x39 x40 x41 x42 x43 x44 x45 x46 x47 x48 x49 x50 x51 x52 x53 x54 x55 x56 x57 x58 x59 x60 x61 x62 x63 x64 x65 x66 x67 x68 x69 x70 x71 x72 x73 x74 x75 x76 x77 x78 x79 x80 x81 x82 x83 x84 x85 x86 x87 x88 x89 x90 x91 x92 x93 x94 x95 x96 x97 x98 x99 x100 x101 x102 x103 x104 x105 x106 x107 x108 x109 x110 x111 x112 x113 x114 x115 x116 x117 x118 x119 x120 x121 x122 x123 x124 x125 x126 x127 x128 x129 x130 x131 x132 x133 x134 x135 x136 x137 x138 x139 x140 x141 x142 x143 x144 x145 x146 x147 x148 x149 x150 x151 x152 x153 x154 x155 x156 x157 x158 x159 x160 x161 x162 x163 x164 x165 x166 x167 x168 x169 x170 x171 x172 x173 x174 x175 x176 x177 x178 x179 x180 x181 x182 x183 x184 x185 x186 x187 x188 x189 x190 x191 x192 x193 x194 x195 x196 x197 x198 x199 x200 x201 x202 x203 x204 x205 x206 x207 x208 x209 x210 x211 x212 x213 x214 x215 x216 x217 x218 x219 x220 x221 x222 x223 x224 x225 x226 x227 x228 x229 x230 x231 x232 x233 x234 x235 x236 x237 x238 x239 x240 x241 x242 x243 x244 x245:Value}
  (H11:Hid (Mk.rep 16 (chF KG) [] s10=(CH,s11)))
  (HKG:Hid (2<=KG/\KG<=10))
  (HUB:Hid (Blk w9 ub runesA 3/\ub≠m))
  (HUL:Hid (ub<B6))
  (HG5:Hid (MG w rb m sv l (MF.mk (.int .i64 unit) (.slice og KG cg) nilV nilV nilV vax vrg vfn vcv) (MF.mk (.int .i64 unit) (.slice og KG cg) nilV nilV nilV vax vrg vfn vcv) (DFont.mk unit GL [] [] [] AX RG FN CV) B6 37 2 SChar (fun _=>False) (.slice none 0 0) ([]:List DChar) s10 w9))
  {J K':Act->World->Prop} {Q':Exit->Act->World->Prop}
  (h1:∀ (a':Act) (w':World),(∃ u15 u163 u164 u165 u166 u167 u168 u169 u170 u171 u172 u173 u174 u175 u176 u177 u178 u179 u180 u181 u182 u183 u184 u185 u186 u187 u188 u189 u190 u191 u192 u193 u194 u195 u196 u197 u198 u199 u200 u201 u202 u203 u204 u205 u206 u207 u208 u209 u210 u211 u212 u213 u214 u215 u216 u217 u218 u219 u220 u221 u222 u223 u224 u225 u226 u227 u228 u229 u230 u231 u232 u233 u234 u235 u236 u237 u238 u239 u240 u241 u242 u243 u244 u245:Value,(∃ (oa:Option Addr) (ca:Nat),Hid (MD w rb m sv l (MF.mk (.int .i64 unit) (.slice og KG cg) (.slice oa CH.length ca) nilV nilV vax vrg vfn vcv) (MF.mk (.int .i64 unit) (.slice og KG cg) (.slice oa CH.length ca) nilV nilV vax vrg vfn vcv) (DFont.mk unit GL CH [] [] AX RG FN CV) w'.heap.size s11 w'))/\a'={ tmps:=(x0::x1::.pointer (some ⟨rb,0,none⟩)::.pointer (some ⟨m,0,none⟩)::x4::x5::x6::x7::x8::x9::x10::x11::x12::x13::.slice (some ⟨ub,0,none⟩) 16 16::u15::x16::x17::x18::x19::x20::x21::x22::x23::x24::x25::x26::x27::x28::x29::x30::x31::x32::x33::x34::x35::x36::x37::x38::x39::x40::x41::x42::x43::x44::x45::x46::x47::x48::x49::x50::x51::x52::x53::x54::x55::x56::x57::x58::x59::x60::x61::x62::x63::x64::x65::x66::x67::x68::x69::x70::x71::x72::x73::x74::x75::x76::x77::x78::x79::x80::x81::x82::x83::x84::x85::x86::x87::x88::x89::x90::x91::x92::x93::x94::x95::x96::x97::x98::x99::x100::x101::x102::x103::x104::x105::x106::x107::x108::x109::x110::x111::x112::x113::x114::x115::x116::x117::x118::x119::x120::x121::x122::x123::x124::x125::x126::x127::x128::x129::x130::x131::x132::x133::x134::x135::x136::x137::x138::x139::x140::x141::x142::x143::x144::x145::x146::x147::x148::x149::x150::x151::x152::x153::x154::x155::x156::x157::x158::x159::x160::x161::x162::u163::u164::u165::u166::u167::u168::u169::u170::u171::u172::u173::u174::u175::u176::u177::u178::u179::u180::u181::u182::u183::u184::u185::u186::u187::u188::u189::u190::u191::u192::u193::u194::u195::u196::u197::u198::u199::u200::u201::u202::u203::u204::u205::u206::u207::u208::u209::u210::u211::u212::u213::u214::u215::u216::u217::u218::u219::u220::u221::u222::u223::u224::u225::u226::u227::u228::u229::u230::u231::u232::u233::u234::u235::u236::u237::u238::u239::u240::u241::u242::u243::u244::u245::[]).toArray,defers:=[] })->J a' w')
  (h2:∀ (a':Act) (w':World),Met J a' w'->K' a' w') :
  Code.wp Tryz.prog ((findB 12 ((Tryz.f7).body.getD .skip)).getD .skip) (Exit.then K' Q') { tmps:=(x0::x1::.pointer (some ⟨rb,0,none⟩)::.pointer (some ⟨m,0,none⟩)::x4::x5::x6::x7::x8::x9::x10::x11::x12::x13::.slice (some ⟨ub,0,none⟩) 16 16::.int .i64 0::x16::x17::x18::x19::x20::x21::x22::x23::x24::x25::x26::x27::x28::x29::x30::x31::x32::x33::x34::x35::x36::x37::x38::x39::x40::x41::x42::x43::x44::x45::x46::x47::x48::x49::x50::x51::x52::x53::x54::x55::x56::x57::x58::x59::x60::x61::x62::x63::x64::x65::x66::x67::x68::x69::x70::x71::x72::x73::x74::x75::x76::x77::x78::x79::x80::x81::x82::x83::x84::x85::x86::x87::x88::x89::x90::x91::x92::x93::x94::x95::x96::x97::x98::x99::x100::x101::x102::x103::x104::x105::x106::x107::x108::x109::x110::x111::x112::x113::x114::x115::x116::x117::x118::x119::x120::x121::x122::x123::x124::x125::x126::x127::x128::x129::x130::x131::x132::x133::x134::x135::x136::x137::x138::x139::x140::x141::x142::x143::x144::x145::x146::x147::x148::x149::x150::x151::x152::x153::x154::x155::x156::x157::x158::x159::x160::x161::x162::x163::x164::x165::x166::x167::x168::x169::x170::x171::x172::x173::x174::x175::x176::x177::x178::x179::x180::x181::x182::x183::x184::x185::x186::x187::x188::x189::x190::x191::x192::x193::x194::x195::x196::x197::x198::x199::x200::x201::x202::x203::x204::x205::x206::x207::x208::x209::x210::x211::x212::x213::x214::x215::x216::x217::x218::x219::x220::x221::x222::x223::x224::x225::x226::x227::x228::x229::x230::x231::x232::x233::x234::x235::x236::x237::x238::x239::x240::x241::x242::x243::x244::x245::[]).toArray,defers:=[] } w9:=by
 have CN:=Hi (fun f st x st' n h1 h2 e=>next_at m sv l f st n h1 h2 (r:=x) (s':=st') e);obtain ⟨hq0,hqi,hqz0,hqz1,hqz2⟩:=info_parts inf_Char
 conv=>arg 2;whnf
 go_wp2_with fail
 go_loopg [15] 16 (fun gk v15 wr=>∃ (i:Nat) (L:List DChar) (st:Mk.S) (oa:Option Addr) (ca:Nat),v15=.int .i64 (i:Int)/\Hid (i+gk=16)/\Hid (Mk.rep i (chF KG) [] s10=(L,st))/\Hid (L.length<=i)/\Hid (Blk wr ub runesA 3)/\Hid (MG w rb m sv l (MF.mk (.int .i64 unit) (.slice og KG cg) (.slice oa L.length ca) nilV nilV vax vrg vfn vcv) (MF.mk (.int .i64 unit) (.slice og KG cg) nilV nilV nilV vax vrg vfn vcv) (DFont.mk unit GL [] [] [] AX RG FN CV) B6 37 2 SChar (fun _=>False) (.slice oa L.length ca) L st wr))
 case atStart=>exact ⟨0,[],s10,none,0,rfl,by show 0+16=16;omega,rfl,nR _,HUB.out.1,HG5.out⟩
 case round =>
  obtain ⟨i,L,st,oa,ca,rfl,hi5,HR,HL,HUW,HS⟩:=hrel;clear HG5
  by_cases hin:i<16
  case neg =>
   obtain rfl:i=16:=by have:=hi5.out;omega
   have k1:decide (((16:Nat):Int)<16)=false:=rfl;obtain ⟨rfl,rfl⟩:L=CH/\st=s11:=by have h9:=H11.out;rw [HR.out] at h9;simpa using h9
   go_wp2;go_meet
   case rel=>exact ⟨oa,ca,MG.doneCh (f0:=(MF.mk (.int .i64 unit) (.slice og KG cg) nilV nilV nilV vax vrg vfn vcv)) (F:=(DFont.mk unit GL [] [] [] AX RG FN CV)) HS.out⟩
  have k1:decide ((i:Int)<16)=true:=dT (by omega);have k2:(i:Int)<16:=by omega
  have k3:(0:Int)<=(i:Int):=by omega
  have ei:IntKind.i64.wrap ((i:Int)+1)=(i:Int)+1:=wrapi (by omega) (by omega);obtain ⟨z,t1,hz⟩:∃ a b,Mk.next 4 st=(a,b):=⟨_,_,rfl⟩
  have iz:=next_in (by decide) hz;have CZ:=Hi (CN.out (MF.mk (.int .i64 unit) (.slice og KG cg) (.slice oa L.length ca) nilV nilV vax vrg vfn vcv) st z t1 4 (by decide) (by decide) hz wr HS.out.d.mkr);have HZ:=Hi hz;have HIN:=Hi hin;clear hz hin;go_wp2_with fail;refine CZ.out.mono ?_;rintro e w10 ⟨rfl,K2,M2⟩;have HUX:=Hi (HS.out.d.blkKept HUW.out HUB.out.2 M2);have HS1:=Hi (HS.out.call SChar.stay K2 M2);clear K2 M2 CZ HS HUW
  by_cases hz0:0<z
  case neg =>
   have k4:decide (0<z)=false:=dF hz0;have HX:Hid (chF KG i L st=(L,t1)):=by unfold chF;rw [Mk.bind_eq HZ.out,if_neg hz0];exact rfl
   clear hz0 iz;go_wp2;go_roundg (gk - 1)
   case measure=>have:=hi5.out;have:=HIN.out;omega
   case rel =>
    refine ⟨i+1,L,t1,oa,ca,by rw [Int.natCast_add];rfl,?_,?_,?_,HUX,HS1.out⟩
    ·have:=hi5.out;have:=HIN.out;show i+1+(gk - 1)=16;omega
    ·show Mk.rep (i+1) (chF KG) [] s10=_;rw [Mk.rep_next HR.out];exact HX.out
    ·have:=HL.out;show L.length<=i+1;omega
  have k4:decide (0<z)=true:=dT hz0;obtain ⟨x,t2,hx⟩:∃ a b,Mk.next KG t1=(a,b):=⟨_,_,rfl⟩
  have hKG0:(0:Int)<(KG:Int):=by have:=HKG.out;omega
  have hKG1:(KG:Int)<=1000000:=by have:=HKG.out;omega
  have ix:=next_in hKG0 hx;have CX:=Hi (CN.out (MF.mk (.int .i64 unit) (.slice og KG cg) (.slice oa L.length ca) nilV nilV vax vrg vfn vcv) t1 x t2 KG hKG0 hKG1 hx);have hru:=runesA_at i HIN.out;obtain ⟨ru,hrv⟩:∃ ru,ru=Mk.runes.getD i 0:=⟨_,rfl⟩
  rw [<- hrv] at hru;have HX:Hid (chF KG i L st=(L++[⟨ru,x⟩],t2)):=by rw [hrv];unfold chF;rw [Mk.bind_eq HZ.out,if_pos hz0,Mk.bind_eq hx];exact rfl
  have HXI:Hid (I64 ru/\I64 x):=⟨hru.2,I64.of (by omega) (by have:=HKG.out;omega)⟩
  have HRU:=Hi hru.1;clear hz0 iz hx ix hru hrv hKG0 hKG1;have B4:∀ W,MkJ m sv l (MF.mk (.int .i64 unit) (.slice og KG cg) (.slice oa L.length ca) nilV nilV vax vrg vfn vcv) (Value.slice oa L.length ca).ownBlock.toList w10 W->W.cell? ⟨m,4,none⟩=some (.slice oa L.length ca):=fun W k=>k.2.elim fun _ h9=>h9.blk.cell 4
  have B3:∀ W,MkJ m sv l (MF.mk (.int .i64 unit) (.slice og KG cg) (.slice oa L.length ca) nilV nilV vax vrg vfn vcv) (Value.slice oa L.length ca).ownBlock.toList w10 W->W.cell? ⟨m,3,none⟩=some (.slice og KG cg):=fun W k=>k.2.elim fun _ h9=>h9.blk.cell 3
  have HNO:Hid (ub ∉ (Value.slice oa L.length ca).ownBlock.toList):=fun hm=>by have h8:=(HS1.out.g.lt ub (by simpa using hm)).1;have h9:=HUL.out;omega
  have A0:∀ W,MkJ m sv l (MF.mk (.int .i64 unit) (.slice og KG cg) (.slice oa L.length ca) nilV nilV vax vrg vfn vcv) (Value.slice oa L.length ca).ownBlock.toList w10 W->W.cell? ⟨ub,i,none⟩=some (.int .i64 ru):=fun W k=>(HUX.out.mkj k HUB.out.2 HNO.out i).trans HRU.out
  have HI0:MkJ m sv l (MF.mk (.int .i64 unit) (.slice og KG cg) (.slice oa L.length ca) nilV nilV vax vrg vfn vcv) (Value.slice oa L.length ca).ownBlock.toList w10 w10.drew:=⟨((Mod.refl [] w10).drew).more (by simp),_,MK.stays _ _ HS1.out.d.mkr (mR.drew)⟩
  have HLB:Hid (L.length+1<=maxLen/\(L.length+1)*16<=140737488355328):=by have h4:=HL.out;have h5:=HIN.out;refine ⟨?_,?_⟩;unfold maxLen;omega;omega
  go_upto_region 41 with fail;refine Sw.wp_region_sw (I:=MkJ m sv l (MF.mk (.int .i64 unit) (.slice og KG cg) (.slice oa L.length ca) nilV nilV vax vrg vfn vcv) (Value.slice oa L.length ca).ownBlock.toList w10) (F0:=MG w rb m sv l (MF.mk (.int .i64 unit) (.slice og KG cg) (.slice oa L.length ca) nilV nilV vax vrg vfn vcv) (MF.mk (.int .i64 unit) (.slice og KG cg) nilV nilV nilV vax vrg vfn vcv) (DFont.mk unit GL [] [] [] AX RG FN CV) B6 37 2 SChar (fun _=>False) (.slice oa L.length ca) L t1) MkJ.then 21 [(0,none),(1,none),(2,none),(3,none),(4,none),(5,none),(6,none),(7,none),(8,none),(9,none),(10,none),(11,none),(12,none),(13,none),(14,none),(15,none),(16,none),(17,some (Rg.Know (MG w rb m sv l (MF.mk (.int .i64 unit) (.slice og KG cg) (.slice oa L.length ca) nilV nilV vax vrg vfn vcv) (MF.mk (.int .i64 unit) (.slice og KG cg) nilV nilV nilV vax vrg vfn vcv) (DFont.mk unit GL [] [] [] AX RG FN CV) B6 37 2 SChar (fun _=>False) (.slice oa L.length ca) L t2) (.int .i64 x))),(18,none),(19,some (NewAnd w10.heap.size #[.int .i64 ru,.int .i64 x] 37 1 (MG w rb m sv l (MF.mk (.int .i64 unit) (.slice og KG cg) (.slice oa L.length ca) nilV nilV vax vrg vfn vcv) (MF.mk (.int .i64 unit) (.slice og KG cg) nilV nilV nilV vax vrg vfn vcv) (DFont.mk unit GL [] [] [] AX RG FN CV) B6 37 2 SChar (fun _=>False) (.slice oa L.length ca) L t2))),(20,some (MGv w rb m sv l (MF.mk (.int .i64 unit) (.slice og KG cg) (.slice oa L.length ca) nilV nilV vax vrg vfn vcv) (MF.mk (.int .i64 unit) (.slice og KG cg) nilV nilV nilV vax vrg vfn vcv) (DFont.mk unit GL [] [] [] AX RG FN CV) B6 37 2 SChar (fun _=>False) (L.length+1) (L++[⟨ru,x⟩]) t2))] (by kernel_rfl) (by kernel_rfl) (Sq.nodup_of (by kernel_rfl)) ?hTS86 HI0 (MG.stays SChar.stay) (MG.stays SChar.stay _ _ HS1.out (mR.drew)) ?mainS86
  case hTS86 =>
   intro p hp T hT v;simp only [List.mem_cons,List.not_mem_nil,or_false] at hp;rcases hp with rfl | rfl | rfl | rfl | rfl | rfl | rfl | rfl | rfl | rfl | rfl | rfl | rfl | rfl | rfl | rfl | rfl | rfl | rfl | rfl | rfl <;> first | (cases hT;done) | (cases hT;first | exact MGv.stays SChar.stay _ | exact NewAnd.stays (MG.stays SChar.stay) _ | exact Rg.know_stays (MG.stays SChar.stay) _ _)
  iterate 17 refine Sw.vv HI0 ?_
  refine Sw.xx (fun w' hw' hF K Q hK=>?_) (fun kv hkv=>?_)
  ·go_wp2_with fail;refine (CX.out w' hF.d.mkr).mono ?_;rintro e w'' ⟨rfl,K',M'⟩;go_wp2;exact hK _ _ ⟨hw'.1.then (M'.more (by simp)),_,K'⟩ ⟨rfl,hF.call SChar.stay K' M'⟩
  obtain ⟨_,_,rfl,_⟩:=hkv;refine Sw.vv HI0 ?_;refine Sw.xx (fun w' hw' hF K Q hK=>?_) (fun kv hkv=>?_)
  ·go_wp2;exact hK _ _ (MkJ.then _ _ hw' (mR.alloc _)) ⟨⟨_,rfl,hw'.1.size,Blk.new _ _ _⟩,MG.stays SChar.stay _ _ hF.2 (mR.alloc _)⟩
  obtain ⟨_,_,⟨nb,rfl,hnb,_⟩,_⟩:=hkv;refine Sw.xx (fun w' hw' hF K Q hK=>?_) (fun kv hkv=>?_)
  ·obtain ⟨⟨b9,he9,-,hB⟩,hO⟩:=hF;cases he9;refine oper_push (v:=.slice oa L.length ca) (k:=2) (e:=37) (base:=B6) (l:=L) (l':=[⟨ru,x⟩]) rfl _ _ 25 rfl hq0 _ 16 Tryz.underlying25 hqi hqz0 hqz1 hqz2 rfl (by decide) SChar.stay SChar.weak rfl hO.g ⟨nb,0,none⟩ _ _ [[.int .i64 ru,.int .i64 x]] rfl rfl (Elems.one rfl ⟨rfl,HXI.out.1,HXI.out.2⟩) (fun j u hu=>blk_news hB rfl hu) (by simp [Value.oneCell']) HLB.out.1 HLB.out.2 (nT hO.d.ord.2.2.2 (nR _)) (fun v' w'' hGP hgr _=>?_);exact hK _ _ (hw'.grew hgr (hO.push hGP hgr).d.mkr) (hO.pushV hGP hgr)
  obtain ⟨_,_,⟨ov,cv,rfl⟩,_⟩:=hkv;refine Sw.nil_go ?_;intro w' hw' hF;simp only [qS,qZ];obtain ⟨⟨ov2,cv2,he9⟩,hO⟩:=hF;cases he9;have HNL:Hid ((L++[(⟨ru,x⟩:DChar)]).length=L.length+1):=by show _=_;simp
  have c4:w'.cell? ⟨m,4,none⟩=some (.slice oa L.length ca):=hO.d.mkr.blk.cell 4;have f4:=hO.d.mkr.blk.frozen 4;have HUY:Hid (Blk (w'.setCell ⟨m,4,none⟩ (.slice ov (L.length+1) cv)) ub runesA 3):=(HUX.out.kept hw'.1 (by intro hm;rcases List.mem_cons.1 hm with hm | hm;exact HUB.out.2 hm;exact HNO.out hm)).other (by show m≠ub;exact fun h=>HUB.out.2 h.symm) _;have HS3:=Hi (hO.store SChar.stay (f':=(MF.mk (.int .i64 unit) (.slice og KG cg) (.slice ov (L.length+1) cv) nilV nilV vax vrg vfn vcv)) 4 (.slice ov (L.length+1) cv) (fun _ _=>rfl));clear hO hw' HS1 B3 B4 A0 HI0 CX;go_wp2;go_roundg (gk - 1)
  case measure=>have:=hi5.out;have:=HIN.out;omega
  case rel =>
   refine ⟨i+1,L++[⟨ru,x⟩],t2,ov,cv,by rw [Int.natCast_add];rfl,?_,?_,?_,HUY,by rw [HNL.out];exact HS3.out⟩
   ·have:=hi5.out;have:=HIN.out;show i+1+(gk - 1)=16;omega
   ·show Mk.rep (i+1) (chF KG) [] s10=_;rw [Mk.rep_next HR.out];exact HX.out
   ·have:=HL.out;show (L++[(_:DChar)]).length<=i+1;rw [HNL.out];omega
theorem st_feats {w:World} {rb m:Nat} {sv:Value} {l:List Int} {unit:Int} {KG B7 ub cg cl:Nat} {og ol:Option Addr} {AX:List DAxis} {RG:List DRegion} {FN:List (List DIns)} {CV:List Int} {GL:List DGlyph} {CH:List DChar} {LK:List DLookup} {FT:List DFeature} {s12 s13:Mk.S} {vax vrg vfn vcv vch:Value} {w12:World} {x0 x1 x4 x5 x6 x7 x8 x9 x10 x11 x12 x13 x14 x15 x18 x19 x20 x21 x22 x23 x24 x25 x26 x27 x28 x29 x30 x31 x32 x33 x34 x35 x36 x37 x38 x39 x40 x41 x42 x43 x44 x45 x46 x47 x48 x49 x50 x51 x52 x53 x54 x55 x56 x57 x58 x59 x60 x61 x62 x63 x64 x65 x66 x67 x68 x69 x70 x71 x72 x73 x74 x75 x76 x77 x78 x79 x80 x81 x82 x83 x84 x85 x86 x87 x88 x89 x90 x91 x92 x93 x94 x95 x96 x97 x98 x99 x100 x101 x102 x103 x104 x105 x106 x107 x108 x109 x110 x111 x112 x113 x114 x115 x116 x117 x118 x119 x120 x121 x122 x123 x124 x125 x126 x127 x128 x129 x130 x131 x132 x133 x134 x135 x136 x137 x138 x139 x140 x141 x142 x143 x144 x145 x146 x147 x148 x149 x150 x151 x152 x153 x154 x155 x156 x157 x158 x159 x160 x161 x162 x163 x164 x165 x166 x167 x168 x169 x170 x171 x172 x173 x174 x175 x176 x177 x178 x179 x180 x181 x182 x183 x184 x185 x186 x187 x188 x189 x190 x191 x192 x193 x194 x195 x196 x197 x198 x199 x200 x201 x202 x203 x204 x205 x206 x207 x208 x209 x210 x211 x212 x213 x214 x215 x216 x217 x218 x219 x220 x221 x222 x223 x224 x225 x226 x227 x228 x229 x230 x231 x232 x233 x234 x235 x236 x237 x238 x239 x240 x241 x242 x243 x244 x245:Value}
  (H13:Hid (Mk.rep 8 (ftF LK.length) [] s12=(FT,s13)))
  (HLKL:Hid (LK.length<=100))
  (HUB:Hid (Blk w12 ub namesA 9/\ub≠m))
  (HUL:Hid (ub<B7))
  (HG6:Hid (MG w rb m sv l (MF.mk (.int .i64 unit) (.slice og KG cg) vch (.slice ol LK.length cl) nilV vax vrg vfn vcv) (MF.mk (.int .i64 unit) (.slice og KG cg) vch (.slice ol LK.length cl) nilV vax vrg vfn vcv) (DFont.mk unit GL CH LK [] AX RG FN CV) B7 88 2 SFeature (fun b=>m<b) (.slice none 0 0) ([]:List DFeature) s12 w12))
  {J K':Act->World->Prop} {Q':Exit->Act->World->Prop}
  (h1:∀ (a':Act) (w':World),(∃ u17 u18 u19 u199 u200 u201 u202 u203 u204 u205 u206 u207 u208 u209 u210 u211 u212 u213 u214 u215 u216 u217 u218 u219 u220 u221 u222 u223 u224 u225 u226 u227 u228 u229 u230 u231 u232 u233 u234 u235 u236 u237 u238 u239 u240 u241 u242 u243 u244 u245:Value,(∃ (oa:Option Addr) (ca:Nat),Hid (MD w rb m sv l (MF.mk (.int .i64 unit) (.slice og KG cg) vch (.slice ol LK.length cl) (.slice oa FT.length ca) vax vrg vfn vcv) (MF.mk (.int .i64 unit) (.slice og KG cg) vch (.slice ol LK.length cl) (.slice oa FT.length ca) vax vrg vfn vcv) (DFont.mk unit GL CH LK FT AX RG FN CV) w'.heap.size s13 w'))/\a'={ tmps:=(x0::x1::.pointer (some ⟨rb,0,none⟩)::.pointer (some ⟨m,0,none⟩)::x4::x5::x6::x7::x8::x9::x10::x11::x12::x13::x14::x15::.slice (some ⟨ub,0,none⟩) 8 8::u17::u18::u19::x20::x21::x22::x23::x24::x25::x26::x27::x28::x29::x30::x31::x32::x33::x34::x35::x36::x37::x38::x39::x40::x41::x42::x43::x44::x45::x46::x47::x48::x49::x50::x51::x52::x53::x54::x55::x56::x57::x58::x59::x60::x61::x62::x63::x64::x65::x66::x67::x68::x69::x70::x71::x72::x73::x74::x75::x76::x77::x78::x79::x80::x81::x82::x83::x84::x85::x86::x87::x88::x89::x90::x91::x92::x93::x94::x95::x96::x97::x98::x99::x100::x101::x102::x103::x104::x105::x106::x107::x108::x109::x110::x111::x112::x113::x114::x115::x116::x117::x118::x119::x120::x121::x122::x123::x124::x125::x126::x127::x128::x129::x130::x131::x132::x133::x134::x135::x136::x137::x138::x139::x140::x141::x142::x143::x144::x145::x146::x147::x148::x149::x150::x151::x152::x153::x154::x155::x156::x157::x158::x159::x160::x161::x162::x163::x164::x165::x166::x167::x168::x169::x170::x171::x172::x173::x174::x175::x176::x177::x178::x179::x180::x181::x182::x183::x184::x185::x186::x187::x188::x189::x190::x191::x192::x193::x194::x195::x196::x197::x198::u199::u200::u201::u202::u203::u204::u205::u206::u207::u208::u209::u210::u211::u212::u213::u214::u215::u216::u217::u218::u219::u220::u221::u222::u223::u224::u225::u226::u227::u228::u229::u230::u231::u232::u233::u234::u235::u236::u237::u238::u239::u240::u241::u242::u243::u244::u245::[]).toArray,defers:=[] })->J a' w')
  (h2:∀ (a':Act) (w':World),Met J a' w'->K' a' w') :
  Code.wp Tryz.prog ((findB 14 ((Tryz.f7).body.getD .skip)).getD .skip) (Exit.then K' Q') { tmps:=(x0::x1::.pointer (some ⟨rb,0,none⟩)::.pointer (some ⟨m,0,none⟩)::x4::x5::x6::x7::x8::x9::x10::x11::x12::x13::x14::x15::.slice (some ⟨ub,0,none⟩) 8 8::.int .i64 0::x18::x19::x20::x21::x22::x23::x24::x25::x26::x27::x28::x29::x30::x31::x32::x33::x34::x35::x36::x37::x38::x39::x40::x41::x42::x43::x44::x45::x46::x47::x48::x49::x50::x51::x52::x53::x54::x55::x56::x57::x58::x59::x60::x61::x62::x63::x64::x65::x66::x67::x68::x69::x70::x71::x72::x73::x74::x75::x76::x77::x78::x79::x80::x81::x82::x83::x84::x85::x86::x87::x88::x89::x90::x91::x92::x93::x94::x95::x96::x97::x98::x99::x100::x101::x102::x103::x104::x105::x106::x107::x108::x109::x110::x111::x112::x113::x114::x115::x116::x117::x118::x119::x120::x121::x122::x123::x124::x125::x126::x127::x128::x129::x130::x131::x132::x133::x134::x135::x136::x137::x138::x139::x140::x141::x142::x143::x144::x145::x146::x147::x148::x149::x150::x151::x152::x153::x154::x155::x156::x157::x158::x159::x160::x161::x162::x163::x164::x165::x166::x167::x168::x169::x170::x171::x172::x173::x174::x175::x176::x177::x178::x179::x180::x181::x182::x183::x184::x185::x186::x187::x188::x189::x190::x191::x192::x193::x194::x195::x196::x197::x198::x199::x200::x201::x202::x203::x204::x205::x206::x207::x208::x209::x210::x211::x212::x213::x214::x215::x216::x217::x218::x219::x220::x221::x222::x223::x224::x225::x226::x227::x228::x229::x230::x231::x232::x233::x234::x235::x236::x237::x238::x239::x240::x241::x242::x243::x244::x245::[]).toArray,defers:=[] } w12:=by
 have CN:=Hi (fun f st x st' n h1 h2 e=>next_at m sv l f st n h1 h2 (r:=x) (s':=st') e);obtain ⟨fq0,fqi,fqz0,fqz1,fqz2⟩:=info_parts inf_Feature;obtain ⟨iq0,iqi,iqz0,iqz1,iqz2⟩:=info_parts inf_Int
 conv=>arg 2;whnf
 go_wp2_with fail
 go_loopg [17,18,19] 8 (fun gk v17 v18 v19 wr=>∃ (i:Nat) (L:List DFeature) (st:Mk.S) (oa:Option Addr) (ca:Nat),v17=.int .i64 (i:Int)/\Hid (i+gk=8)/\Hid (Mk.rep i (ftF LK.length) [] s12=(L,st))/\Hid (L.length<=i)/\Hid (Blk wr ub namesA 9)/\Hid (MG w rb m sv l (MF.mk (.int .i64 unit) (.slice og KG cg) vch (.slice ol LK.length cl) (.slice oa L.length ca) vax vrg vfn vcv) (MF.mk (.int .i64 unit) (.slice og KG cg) vch (.slice ol LK.length cl) nilV vax vrg vfn vcv) (DFont.mk unit GL CH LK [] AX RG FN CV) B7 88 2 SFeature (fun b=>m<b) (.slice oa L.length ca) L st wr))
 case atStart=>exact ⟨0,[],s12,none,0,rfl,by show 0+8=8;omega,rfl,nR _,HUB.out.1,HG6.out⟩
 case round =>
  obtain ⟨i,L,st,oa,ca,rfl,hi5,HR,HL,HUW,HS⟩:=hrel;clear HG6
  by_cases hin:i<8
  case neg =>
   obtain rfl:i=8:=by have:=hi5.out;omega
   have k1:decide (((8:Nat):Int)<8)=false:=rfl;obtain ⟨rfl,rfl⟩:L=FT/\st=s13:=by have h9:=H13.out;rw [HR.out] at h9;simpa using h9
   go_wp2;go_meet
   case rel=>exact ⟨oa,ca,MG.doneFt (f0:=(MF.mk (.int .i64 unit) (.slice og KG cg) vch (.slice ol LK.length cl) nilV vax vrg vfn vcv)) (F:=(DFont.mk unit GL CH LK [] AX RG FN CV)) HS.out⟩
  have k1:decide ((i:Int)<8)=true:=dT (by omega);have k2:(i:Int)<8:=by omega
  have k3:(0:Int)<=(i:Int):=by omega
  have ei:IntKind.i64.wrap ((i:Int)+1)=(i:Int)+1:=wrapi (by omega) (by omega);obtain ⟨TT,t1,hT⟩:∃ a b,Mk.rep LK.length ftR [] st=(a,b):=⟨_,_,rfl⟩
  have HT:=Hi hT;have HTL:Hid (TT.length<=LK.length):=by
   have a1:=Mk.rep_inv (f:=ftR) (a:=[]) (s:=st) (n:=LK.length) (fun i (r:List Int)=>r.length<=i) (nR _) fun i r s _ h=>by
    show (if _ then _ else _:List Int).length<=i+1
    split
    ·simp;exact h
    ·exact Nat.le_succ_of_le h
   rw [hT] at a1;exact a1
  have HIN:=Hi hin;have HF0:=Hi (FtSt.start HS.out);clear hT hin HS;generalize gk=G at *
  generalize wr.heap.size=C0 at HF0;go_upto_block 16 with fail
  go_cut [18,19] from 205 to 221 (fun v18 v19 wx=>∃ (ot:Option Addr) (ct:Nat),v18=.slice ot TT.length ct/\Hid (Blk wx ub namesA 9)/\Hid (FtSt w rb m sv l (MF.mk (.int .i64 unit) (.slice og KG cg) vch (.slice ol LK.length cl) (.slice oa L.length ca) vax vrg vfn vcv) (MF.mk (.int .i64 unit) (.slice og KG cg) vch (.slice ol LK.length cl) nilV vax vrg vfn vcv) (DFont.mk unit GL CH LK [] AX RG FN CV) B7 (.slice oa L.length ca) L C0 (.slice ot TT.length ct) TT t1 wx))
  case first =>
   go_wp2_with fail
   go_loopg [18,19] LK.length (fun gj v18 v19 ws=>∃ (j:Nat) (T:List Int) (su:Mk.S) (ot:Option Addr) (ct:Nat),v18=.slice ot T.length ct/\v19=.int .i64 (j:Int)/\Hid (j+gj=LK.length)/\Hid (Mk.rep j ftR [] st=(T,su))/\Hid (T.length<=j)/\Hid (Blk ws ub namesA 9)/\Hid (FtSt w rb m sv l (MF.mk (.int .i64 unit) (.slice og KG cg) vch (.slice ol LK.length cl) (.slice oa L.length ca) vax vrg vfn vcv) (MF.mk (.int .i64 unit) (.slice og KG cg) vch (.slice ol LK.length cl) nilV vax vrg vfn vcv) (DFont.mk unit GL CH LK [] AX RG FN CV) B7 (.slice oa L.length ca) L C0 (.slice ot T.length ct) T su ws))
   case atStart=>exact ⟨0,[],st,none,0,rfl,rfl,by show 0+LK.length=LK.length;omega,rfl,nR _,HUW.out,HF0.out⟩
   case round =>
    obtain ⟨j,T,su,ot,ct,rfl,rfl,hj5,HRT,HTT,HUX,HS⟩:=hrel;clear HF0 HUW;have c5:wr.cell? ⟨m,5,none⟩=some (.slice ol LK.length cl):=HS.out.g.d.mkr.blk.cell 5
    by_cases hjn:j<LK.length
    case neg =>
     have hj9:j=LK.length:=by have:=hj5.out;omega
     have k5:decide ((j:Int)<(LK.length:Int))=false:=dF (by omega);obtain ⟨rfl,rfl⟩:T=TT/\su=t1:=by have h9:=HT.out;rw [<- hj9,HRT.out] at h9;simpa using h9
     have HJ9:=Hi hj9;clear hj9;go_wp2;go_meet
     case rel=>exact ⟨ot,ct,rfl,HUX,HS⟩
    have k5:decide ((j:Int)<(LK.length:Int))=true:=dT (by omega);have k6:(j:Int)<(LK.length:Int):=by omega
    have hj3:j<100:=by have:=HLKL.out;omega
    have ej:IntKind.i64.wrap ((j:Int)+1)=(j:Int)+1:=wrapi (by omega) (by omega);obtain ⟨z,su1,hz⟩:∃ a b,Mk.next 3 su=(a,b):=⟨_,_,rfl⟩
    have CZ:=Hi (CN.out (MF.mk (.int .i64 unit) (.slice og KG cg) vch (.slice ol LK.length cl) (.slice oa L.length ca) vax vrg vfn vcv) su z su1 3 (by decide) (by decide) hz wr HS.out.g.d.mkr);have HZ:=Hi hz;have HJN:=Hi hjn;have HJ3:=Hi hj3;clear hz hjn hj3;go_wp2_with fail;refine CZ.out.mono ?_;rintro e w13 ⟨rfl,K2,M2⟩;have HUY:=Hi (HS.out.g.d.blkKept HUX.out HUB.out.2 M2);have HS1:=Hi (HS.out.call K2 M2);clear K2 M2 CZ HS HUX c5
    by_cases hz0:z=0
    case neg =>
     have k7:(z == 0)=false:=beq_false_of_ne hz0;have k8:decide (z=0)=false:=dF hz0;have HXT:Hid (ftR j T su=(T,su1)):=by unfold ftR;rw [Mk.bind_eq HZ.out,if_neg hz0];exact rfl
     go_wp2;go_roundg (gk - 1)
     case measure=>have:=hj5.out;have:=HJN.out;omega
     case rel =>
      refine ⟨j+1,T,su1,ot,ct,rfl,by rw [Int.natCast_add];rfl,?_,?_,?_,HUY,HS1.out⟩
      ·have:=hj5.out;have:=HJN.out;show j+1+(gk - 1)=LK.length;omega
      ·show Mk.rep (j+1) ftR [] st=_;rw [Mk.rep_next HRT.out];exact HXT.out
      ·have:=HTT.out;show T.length<=j+1;omega
    subst hz0;have HXT:Hid (ftR j T su=(T++[(j:Int)],su1)):=by unfold ftR;rw [Mk.bind_eq HZ.out,if_pos rfl];exact rfl
    have al:Mod [] w13 (w13.alloc (.cells #[.int .i64 (j:Int)] 3)):=mR.alloc _;have HS2:=Hi (FtSt.stays _ _ HS1.out al);have HUZ:Hid (Blk (w13.alloc (.cells #[.int .i64 (j:Int)] 3)) ub namesA 9):=HUY.out.kept al (by simp);have HCL:Hid (C0<=(w13.alloc (.cells #[.int .i64 (j:Int)] 3)).heap.size):=nT HS1.out.sz al.size;clear HS1 HUY al HZ;go_wp2_with (at_builtin;refine wpList_push (k:=1) (e:=3) (base:=C0) (l:=T) (l':=[(j:Int)]) rfl _ _ 22 rfl iq0 _ 8 Tryz.underlying22 iqi iqz0 iqz1 iqz2 rfl (by decide) SInt.stay SInt.weak rfl HS2.out.gr ⟨w13.heap.size,0,none⟩ _ _ [[.int .i64 (j:Int)]] rfl rfl (Elems.one rfl ⟨rfl,?_⟩) (fun q u hu=>blk_news (Blk.new w13 #[.int .i64 (j:Int)] 3) rfl hu) (by simp [Value.oneCell']) ?_ ?_ HCL.out ?_)
    ·exact I64.of (by omega) (by have:=HJ3.out;omega)
    ·have h4:=HTT.out;have h5:=HJ3.out;unfold maxLen;simp;omega
    ·have h4:=HTT.out;have h5:=HJ3.out;simp;omega
    intro v' w14 hGP hgr _;obtain ⟨ot',ct',rfl⟩:=hGP.form;have HNL:Hid ((T++[(j:Int)]).length=T.length+1):=by show _=_;simp
    have HUV:Hid (Blk w14 ub namesA 9):=HUZ.out.grew hgr fun hb=>by have h8:=(HS2.out.gr.lt ub hb).1;have h9:=HUL.out;have h7:=HS2.out.lt.1;omega
    have HS3:=Hi (HS2.out.push hGP hgr);clear hGP hgr HS2 HUZ HCL;go_wp2;go_roundg (gk - 1)
    case measure=>have:=hj5.out;have:=HJN.out;omega
    case rel =>
     refine ⟨j+1,T++[(j:Int)],su1,ot',ct',rfl,by rw [Int.natCast_add];rfl,?_,?_,?_,HUV,HS3.out⟩
     ·have:=hj5.out;have:=HJN.out;show j+1+(gk - 1)=LK.length;omega
     ·show Mk.rep (j+1) ftR [] st=_;rw [Mk.rep_next HRT.out];exact HXT.out
     ·have:=HTT.out;show (T++[(_:Int)]).length<=j+1;rw [HNL.out];omega
  case rest =>
  obtain ⟨ot,ct,rfl,HUX,HS⟩:=hcut;clear HF0 HUW;obtain ⟨z,t2,hz⟩:∃ a b,Mk.next 2 t1=(a,b):=⟨_,_,rfl⟩
  have CZ:=Hi (CN.out (MF.mk (.int .i64 unit) (.slice og KG cg) vch (.slice ol LK.length cl) (.slice oa L.length ca) vax vrg vfn vcv) t1 z t2 2 (by decide) (by decide) hz wc HS.out.g.d.mkr);have HX:Hid (ftF LK.length i L st=(if z=0 then L++[⟨Mk.names.getD i ByteArray.empty,TT⟩] else L,t2)):=by unfold ftF;rw [Mk.bind_eq HT.out,Mk.bind_eq hz];exact rfl
  clear hz HT;go_wp2_with fail;refine CZ.out.mono ?_;rintro e w15 ⟨rfl,K2,M2⟩;have HUY:=Hi (HS.out.g.d.blkKept HUX.out HUB.out.2 M2);have HS1:=Hi (HS.out.call K2 M2);clear K2 M2 CZ HS HUX
  by_cases hz0:z=0
  case neg =>
   have k7:(z == 0)=false:=beq_false_of_ne hz0;have k8:decide (z=0)=false:=dF hz0;rw [if_neg hz0] at HX;go_wp2;go_roundg (G - 1)
   case measure=>have:=hi5.out;have:=HIN.out;omega
   case rel =>
    refine ⟨i+1,L,t2,oa,ca,by rw [Int.natCast_add];rfl,?_,?_,?_,HUY,HS1.out.fin⟩
    ·have:=hi5.out;have:=HIN.out;show i+1+(G - 1)=8;omega
    ·show Mk.rep (i+1) (ftF LK.length) [] s12=_;rw [Mk.rep_next HR.out];exact HX.out
    ·have:=HL.out;show L.length<=i+1;omega
  subst hz0;rw [if_pos rfl] at HX;have hnm:=namesA_at i HIN.out;obtain ⟨nm,hnv⟩:∃ nm,nm=Mk.names.getD i ByteArray.empty:=⟨_,rfl⟩
  rw [<- hnv] at hnm HX;have HNM:=Hi hnm;clear hnm hnv;have HNO:Hid (ub ∉ (Value.slice oa L.length ca).ownBlock.toList):=fun hm=>by have h8:=(HS1.out.g.g.lt ub (by simpa using hm)).1;have h9:=HUL.out;omega
  have B6:∀ W,MkJ m sv l (MF.mk (.int .i64 unit) (.slice og KG cg) vch (.slice ol LK.length cl) (.slice oa L.length ca) vax vrg vfn vcv) (Value.slice oa L.length ca).ownBlock.toList w15 W->W.cell? ⟨m,6,none⟩=some (.slice oa L.length ca):=fun W k=>k.2.elim fun _ h9=>h9.blk.cell 6
  have A0:∀ W,MkJ m sv l (MF.mk (.int .i64 unit) (.slice og KG cg) vch (.slice ol LK.length cl) (.slice oa L.length ca) vax vrg vfn vcv) (Value.slice oa L.length ca).ownBlock.toList w15 W->W.cell? ⟨ub,i,none⟩=some (.string nm):=fun W k=>(HUY.out.mkj k HUB.out.2 HNO.out i).trans HNM.out.1
  have HI0:MkJ m sv l (MF.mk (.int .i64 unit) (.slice og KG cg) vch (.slice ol LK.length cl) (.slice oa L.length ca) vax vrg vfn vcv) (Value.slice oa L.length ca).ownBlock.toList w15 w15.drew:=⟨((Mod.refl [] w15).drew).more (by simp),_,MK.stays _ _ HS1.out.g.d.mkr (mR.drew)⟩
  have HLB:Hid (L.length+1<=maxLen/\(L.length+1)*40<=140737488355328):=by have h4:=HL.out;have h5:=HIN.out;refine ⟨?_,?_⟩;unfold maxLen;omega;omega
  go_upto_region 54 with fail;refine Sw.wp_region_sw (I:=MkJ m sv l (MF.mk (.int .i64 unit) (.slice og KG cg) vch (.slice ol LK.length cl) (.slice oa L.length ca) vax vrg vfn vcv) (Value.slice oa L.length ca).ownBlock.toList w15) (F0:=FtSt w rb m sv l (MF.mk (.int .i64 unit) (.slice og KG cg) vch (.slice ol LK.length cl) (.slice oa L.length ca) vax vrg vfn vcv) (MF.mk (.int .i64 unit) (.slice og KG cg) vch (.slice ol LK.length cl) nilV vax vrg vfn vcv) (DFont.mk unit GL CH LK [] AX RG FN CV) B7 (.slice oa L.length ca) L C0 (.slice ot TT.length ct) TT t2) MkJ.then 14 [(0,none),(1,none),(2,none),(3,none),(4,none),(5,none),(6,none),(7,none),(8,none),(9,none),(10,none),(11,none),(12,some (NewAnd w15.heap.size #[.string nm,(.slice ot TT.length ct)] 88 1 (FtSt w rb m sv l (MF.mk (.int .i64 unit) (.slice og KG cg) vch (.slice ol LK.length cl) (.slice oa L.length ca) vax vrg vfn vcv) (MF.mk (.int .i64 unit) (.slice og KG cg) vch (.slice ol LK.length cl) nilV vax vrg vfn vcv) (DFont.mk unit GL CH LK [] AX RG FN CV) B7 (.slice oa L.length ca) L C0 (.slice ot TT.length ct) TT t2))),(13,some (MGv w rb m sv l (MF.mk (.int .i64 unit) (.slice og KG cg) vch (.slice ol LK.length cl) (.slice oa L.length ca) vax vrg vfn vcv) (MF.mk (.int .i64 unit) (.slice og KG cg) vch (.slice ol LK.length cl) nilV vax vrg vfn vcv) (DFont.mk unit GL CH LK [] AX RG FN CV) B7 88 2 SFeature (fun b=>m<b) (L.length+1) (L++[⟨nm,TT⟩]) t2))] (by kernel_rfl) (by kernel_rfl) (Sq.nodup_of (by kernel_rfl)) ?hTS174 HI0 FtSt.stays (FtSt.stays _ _ HS1.out (mR.drew)) ?mainS174
  case hTS174 =>
   intro p hp T hT v;simp only [List.mem_cons,List.not_mem_nil,or_false] at hp;rcases hp with rfl | rfl | rfl | rfl | rfl | rfl | rfl | rfl | rfl | rfl | rfl | rfl | rfl | rfl <;> first | (cases hT;done) | (cases hT;first | exact MGv.stays SFeature.stay _ | exact NewAnd.stays FtSt.stays _)
  iterate 12 refine Sw.vv HI0 ?_
  refine Sw.xx (fun w' hw' hF K Q hK=>?_) (fun kv hkv=>?_)
  ·go_wp2;exact hK _ _ (MkJ.then _ _ hw' (mR.alloc _)) ⟨⟨_,rfl,hw'.1.size,Blk.new _ _ _⟩,FtSt.stays _ _ hF (mR.alloc _)⟩
  obtain ⟨_,_,⟨nb,rfl,hnb,_⟩,_⟩:=hkv;refine Sw.xx (fun w' hw' hF K Q hK=>?_) (fun kv hkv=>?_)
  ·obtain ⟨⟨b9,he9,-,hB⟩,hO⟩:=hF;cases he9;refine oper_push (v:=.slice oa L.length ca) (k:=2) (e:=88) (base:=B7) (l:=L) (l':=[⟨nm,TT⟩]) rfl _ _ 27 rfl fq0 _ 40 Tryz.underlying27 fqi fqz0 fqz1 fqz2 rfl (by decide) SFeature.stay SFeature.weak rfl hO.fin.g ⟨nb,0,none⟩ _ _ [[.string nm,(.slice ot TT.length ct)]] rfl rfl (hO.elem HNM.out.2) (fun j u hu=>blk_news hB rfl hu) (hO.one nm) HLB.out.1 HLB.out.2 (nT hO.g.d.ord.2.2.2 (nR _)) (fun v' w'' hGP hgr _=>?_);exact hK _ _ (hw'.grew hgr (hO.fin.push hGP hgr).d.mkr) (hO.fin.pushV hGP hgr)
  obtain ⟨_,_,⟨ov,cv,rfl⟩,_⟩:=hkv;refine Sw.nil_go ?_;intro w' hw' hF;simp only [qS,qZ];obtain ⟨⟨ov2,cv2,he9⟩,hO⟩:=hF;cases he9;have HNL:Hid ((L++[(⟨nm,TT⟩:DFeature)]).length=L.length+1):=by show _=_;simp
  have c6:w'.cell? ⟨m,6,none⟩=some (.slice oa L.length ca):=hO.d.mkr.blk.cell 6;have f6:=hO.d.mkr.blk.frozen 6;have HUV:Hid (Blk (w'.setCell ⟨m,6,none⟩ (.slice ov (L.length+1) cv)) ub namesA 9):=(HUY.out.kept hw'.1 (by intro hm;rcases List.mem_cons.1 hm with hm | hm;exact HUB.out.2 hm;exact HNO.out hm)).other (by show m≠ub;exact fun h=>HUB.out.2 h.symm) _;have HS3:=Hi (hO.store SFeature.stay (f':=(MF.mk (.int .i64 unit) (.slice og KG cg) vch (.slice ol LK.length cl) (.slice ov (L.length+1) cv) vax vrg vfn vcv)) 6 (.slice ov (L.length+1) cv) (fun _ _=>rfl));clear hO hw' HS1 B6 A0 HI0 HUY;go_wp2;go_roundg (G - 1)
  case measure=>have:=hi5.out;have:=HIN.out;omega
  case rel =>
   refine ⟨i+1,L++[⟨nm,TT⟩],t2,ov,cv,by rw [Int.natCast_add];rfl,?_,?_,?_,HUV,by rw [HNL.out];exact HS3.out⟩
   ·have:=hi5.out;have:=HIN.out;show i+1+(G - 1)=8;omega
   ·show Mk.rep (i+1) (ftF LK.length) [] s12=_;rw [Mk.rep_next HR.out];exact HX.out
   ·have:=HL.out;show (L++[(_:DFeature)]).length<=i+1;rw [HNL.out];omega
theorem made_any (l:List Int) (sv:Value) (w:World) (hs:SRows 1 SInt (fun b=>b<w.heap.size) w sv l) :
  Calls Tryz.prog 7 #[sv] w fun e w'=>∃ cs,e=.returned (.agg cs)/\SFont (fun b=>w.heap.size<=b) w' cs.toList (Mk.made l)/\Mod [] w w':=by
 obtain ⟨u,s1,h1⟩:∃ a b,Mk.next 4 ⟨l,0⟩=(a,b):=⟨_,_,rfl⟩
 obtain ⟨ka,s2,h2⟩:∃ a b,Mk.next 3 s1=(a,b):=⟨_,_,rfl⟩
 obtain ⟨AX,s3,h3⟩:∃ a b,Mk.axes ka.toNat s2=(a,b):=⟨_,_,rfl⟩
 obtain ⟨RG,s4,h4⟩:∃ a b,Mk.regions ka.toNat s3=(a,b):=⟨_,_,rfl⟩
 obtain ⟨kf,s5,h5⟩:∃ a b,Mk.next 3 s4=(a,b):=⟨_,_,rfl⟩
 obtain ⟨FN,s6,h6⟩:∃ a b,Mk.rep kf.toNat fnF [] s5=(a,b):=⟨_,_,rfl⟩
 obtain ⟨kc,s7,h7⟩:∃ a b,Mk.next 4 s6=(a,b):=⟨_,_,rfl⟩
 obtain ⟨CV,s8,h8⟩:∃ a b,Mk.rep kc.toNat cvF [] s7=(a,b):=⟨_,_,rfl⟩
 obtain ⟨kg,s9,h9⟩:∃ a b,Mk.next 9 s8=(a,b):=⟨_,_,rfl⟩
 obtain ⟨GL,s10,h10⟩:∃ a b,Mk.rep (2+kg).toNat (glF RG.length FN.length) [] s9=(a,b):=⟨_,_,rfl⟩
 have i9:=next_in (by decide) h9;obtain ⟨CH,s11,h11⟩:∃ a b,Mk.rep 16 (chF ((2+kg).toNat:Nat)) [] s10=(a,b):=⟨_,_,rfl⟩
 obtain ⟨LK,s12,h12⟩:∃ a b,Mk.lookups ((2+kg).toNat:Nat) s11=(a,b):=⟨_,_,rfl⟩
 obtain ⟨FT,s13,h13⟩:∃ a b,Mk.rep 8 (ftF LK.length) [] s12=(a,b):=⟨_,_,rfl⟩
 have i1:=next_in (by decide) h1;have i5:=next_in (by decide) h5;have i7:=next_in (by decide) h7;have i2:=next_in (by decide) h2;obtain ⟨U,rfl⟩:∃ K:Nat,u=K:=⟨u.toNat,by omega⟩
 obtain ⟨KA,rfl⟩:∃ K:Nat,ka=K:=⟨ka.toNat,by omega⟩
 obtain ⟨KF,rfl⟩:∃ K:Nat,kf=K:=⟨kf.toNat,by omega⟩
 obtain ⟨KC,rfl⟩:∃ K:Nat,kc=K:=⟨kc.toNat,by omega⟩
 obtain ⟨KG,hKG⟩:∃ K:Nat,2+kg=K:=⟨(2+kg).toNat,by omega⟩
 have eg:IntKind.i64.wrap (2+kg)=(KG:Int):=by rw [wrapi (by omega) (by omega)];exact hKG
 rw [hKG] at h10 h11 h12;rw [Int.toNat_natCast] at h3 h4 h6 h8 h10 h11 h12;have HRFL:Hid (RG.length<=20/\FN.length<=100):=by
  have a1:=regions_len KA s3;have a2:=rep_len (f:=fnF) (fun _ _ _=>List.length_append) KF s5;rw [h4] at a1;rw [h6] at a2;exact ⟨a1,by show FN.length<=100;have:FN.length=KF:=a2;omega⟩
 rw [Mk.axes_eq] at h3;obtain ⟨oa0,cap0,rfl,-⟩:=hs.form;have CN:=Hi (fun f st x st' n h1 h2 e=>next_at (w.heap.size+1) (.slice oa0 l.length cap0) l f st n h1 h2 (r:=x) (s':=st') e);have H1:=Hi h1;have H2:=Hi h2;have H3:=Hi h3;have H4:=Hi h4;have H5:=Hi h5;have H6:=Hi h6;have H7:=Hi h7;have H8:=Hi h8;have H9:=Hi h9;have H10:=Hi h10;have HMD:Hid (Mk.made l=⟨Mk.units.getD U 0,GL,CH,LK,FT,AX,RG,FN,CV⟩):=made_eq h1 h2 h3 h4 h5 h6 h7 h8 h9 hKG h10 h11 h12 h13;have HUI:Hid (I64 (Mk.units.getD U 0)):=units_I64 U;have H11:=Hi h11;have H12:=Hi h12;have H13:=Hi h13;have HU:Hid (U<4):=by show U<4;omega
 have HKG:Hid (2<=KG/\KG<=10):=by show 2<=KG/\KG<=10;omega
 have HKA:Hid (KA<3):=by show KA<3;omega
 have HKF:Hid (KF<3):=by show KF<3;omega
 have HKC:Hid (KC<4):=by show KC<4;omega
 have HD:=Hi (MD.start w (.slice oa0 l.length cap0) l (Mk.units.getD U 0) hs);have u1:(0:Int)<=(U:Int):=by omega
 have u2:(U:Int)<4:=by omega
 clear h1 h2 h3 h4 h5 h6 h7 h8 h9 h10 h11 h12 h13 i1 i2 i5 i7 i9 hKG hs;go_enter Tryz.func7,Tryz.ntmps7;go_upto_region 2 with fail;rw [show ((w.alloc (.cells #[.int .i64 0,.slice none 0 0,.slice none 0 0,.slice none 0 0,.slice none 0 0,.slice none 0 0,.slice none 0 0,.slice none 0 0,.slice none 0 0] 32)).alloc (.cells #[.slice oa0 l.length cap0,.int .i64 0,.int .i64 0,.slice none 0 0,.slice none 0 0,.slice none 0 0,.slice none 0 0,.slice none 0 0,.slice none 0 0,.slice none 0 0,.slice none 0 0,.int .i64 0] 72))=((w.alloc (.cells zeroF 32)).alloc (.cells (mkC (.slice oa0 l.length cap0) 0 zMF 0) 72)) from rfl];generalize ((w.alloc (.cells zeroF 32)).alloc (.cells (mkC (.slice oa0 l.length cap0) 0 zMF 0) 72))=w0 at *
 generalize (Value.slice oa0 l.length cap0)=sv at *
 generalize w.heap.size+2=B0 at *
 generalize w.heap.size+1=m at *
 generalize w.heap.size=rb at *
 have HD1:=Hi (MD.stays _ _ HD.out (show Mod [] w0 (w0.alloc (.cells unitsA 3)) from mR.alloc _));have C1:=Hi (CN.out zMF ⟨l,0⟩ U s1 4 (by decide) (by decide) H1.out _ HD1.out.mkr);have HA:=Hi (Blk.new w0 unitsA 3);have HUA:=Hi (unitsA_at U HU.out);have HMW:Hid (m<w0.heap.size):=by have:=HD.out.ord;show m<w0.heap.size;omega
 generalize Mk.units.getD U 0=unit at *
 clear HD;go_wp2_with fail;rw [show w0.alloc (.cells #[.int .i64 1000,.int .i64 1024,.int .i64 100,.int .i64 2048] 3)=w0.alloc (.cells unitsA 3) from rfl];refine C1.out.mono ?_;rintro e w2 ⟨rfl,K2,M2⟩;have HD2:=Hi (HD1.out.call K2 M2);have ac:w2.cell? ⟨w0.heap.size,U,none⟩=some (.int .i64 unit):=((HA.out.kept M2 (by have:=HMW.out;simp;omega)).cell U).trans HUA.out;have c2:w2.cell? ⟨m,2,none⟩=some (.int .i64 0):=HD2.out.mkr.blk.cell 2;have f2:w2.frozen? ⟨m,2,none⟩=false:=HD2.out.mkr.blk.frozen 2;clear K2 M2 HD1 C1 HA HUA;go_upto_region 3 with fail;have HD3:=Hi (HD2.out.put (f':={ zMF with u:=.int .i64 unit }) 2 (.int .i64 unit) (fun _ _=>rfl));generalize w2.setCell ⟨m,2,none⟩ (.int .i64 unit)=w3 at *
 have HF1:Hid (∃ f:MF,f={ zMF with u:=.int .i64 unit }):=⟨_,rfl⟩
 obtain ⟨f1,hf1⟩:=HF1.out;rw [<- hf1] at HD3;have HF1:=Hi hf1;clear hf1;clear ac c2 f2 HD2 HMW;have C2:=Hi (CN.out f1 s1 KA s2 3 (by decide) (by decide) H2.out _ HD3.out.mkr);go_wp2_with fail;refine C2.out.mono ?_;rintro e w4 ⟨rfl,K2,M2⟩;have HD4:=Hi (HD3.out.call K2 M2);clear K2 M2 HD3 C2;obtain ⟨xq0,xqi,xqz0,xqz1,xqz2⟩:=info_parts inf_Axis;go_upto_block 0 with fail;have HG0:Hid (MG w rb m sv l (MF.mk (.int .i64 unit) nilV nilV nilV nilV nilV nilV nilV nilV) (MF.mk (.int .i64 unit) nilV nilV nilV nilV nilV nilV nilV nilV) (DFont.mk unit [] [] [] [] [] [] [] []) w4.heap.size 76 4 SAxis (fun _=>False) (.slice none 0 0) ([]:List DAxis) s2 w4):=by
  have h9:=HD4.out;rw [HF1.out] at h9;exact MG.start (fun _ h=>h.elim) (h9.reU (.int .i64 unit))
 have HMB:Hid (m<w4.heap.size):=by have:=HD4.out.ord;show m<w4.heap.size;omega
 clear HD4 HF1;generalize w4.heap.size=B1 at *
 go_cut [5,6] from 34 (fun v5 v6 wx=>∃ (oa:Option Addr) (ca:Nat),Hid (MD w rb m sv l (MF.mk (.int .i64 unit) nilV nilV nilV nilV (.slice oa AX.length ca) nilV nilV nilV) (MF.mk (.int .i64 unit) nilV nilV nilV nilV (.slice oa AX.length ca) nilV nilV nilV) (DFont.mk unit [] [] [] [] AX [] [] []) wx.heap.size s3 wx))
 case first =>
  rename_i J K' h1 h2;exact st_axes H3 HKA HG0 h1 h2
 case rest =>
 obtain ⟨ox,cx,HD5⟩:=hcut;generalize (Value.slice ox AX.length cx)=vax at *
 clear HG0 H3 xqi;obtain ⟨yq0,yqi,yqz0,yqz1,yqz2⟩:=info_parts inf_Region;obtain ⟨tq0,tqi,tqz0,tqz1,tqz2⟩:=info_parts inf_Tent;have HG1:Hid (MG w rb m sv l (MF.mk (.int .i64 unit) nilV nilV nilV nilV vax nilV nilV nilV) (MF.mk (.int .i64 unit) nilV nilV nilV nilV vax nilV nilV nilV) (DFont.mk unit [] [] [] [] AX [] [] []) wc.heap.size 79 1 SRegion (fun b=>m<b) (.slice none 0 0) ([]:List DRegion) s3 wc):=MG.start (fun _ h=>h) HD5.out;generalize wc.heap.size=B2 at *
 clear HD5;go_upto_if 66 with fail
 go_cut [7,8,9,10,66] from 67 (fun v7 v8 v9 v10 v66 wx=>∃ (oa:Option Addr) (ca:Nat),Hid (MD w rb m sv l (MF.mk (.int .i64 unit) nilV nilV nilV nilV vax (.slice oa RG.length ca) nilV nilV) (MF.mk (.int .i64 unit) nilV nilV nilV nilV vax (.slice oa RG.length ca) nilV nilV) (DFont.mk unit [] [] [] [] AX RG [] []) wx.heap.size s4 wx))
 case first =>
  rename_i J K' h1 h2;exact st_regions rfl H4 HKA HG1 h1 h2 (by kernel_rfl)
 case rest =>
 obtain ⟨oy,cy,HD6⟩:=hcut;clear HG1 H4 tqi yqi;obtain ⟨vrg,hvrg⟩:∃ v,v=Value.slice oy RG.length cy:=⟨_,rfl⟩
 have HVRG:=Hi hvrg;rw [<- hvrg] at HD6;clear hvrg;obtain ⟨cq0,cqi,cqz0,cqz1,cqz2⟩:=info_parts inf_Code;have C20:=Hi (CN.out (MF.mk (.int .i64 unit) nilV nilV nilV nilV vax vrg nilV nilV) s4 KF s5 3 (by decide) (by decide) H5.out _ HD6.out.mkr);go_wp2_with fail;refine C20.out.mono ?_;rintro e w5 ⟨rfl,K2,M2⟩;have HD7:=Hi (HD6.out.call K2 M2);clear K2 M2 C20 HD6;go_upto_block 6 with fail;have HG2:Hid (MG w rb m sv l (MF.mk (.int .i64 unit) nilV nilV nilV nilV vax vrg nilV nilV) (MF.mk (.int .i64 unit) nilV nilV nilV nilV vax vrg nilV nilV) (DFont.mk unit [] [] [] [] AX RG [] []) w5.heap.size 44 1 SCode (fun b=>m<b) (.slice none 0 0) ([]:List (List DIns)) s5 w5):=MG.start (fun _ h=>h) HD7.out;generalize w5.heap.size=B3 at *
 clear HD7
 go_cut [11] from 108 (fun v11 wx=>∃ (oa:Option Addr) (ca:Nat),Hid (MD w rb m sv l (MF.mk (.int .i64 unit) nilV nilV nilV nilV vax vrg (.slice oa FN.length ca) nilV) (MF.mk (.int .i64 unit) nilV nilV nilV nilV vax vrg (.slice oa FN.length ca) nilV) (DFont.mk unit [] [] [] [] AX RG FN []) wx.heap.size s6 wx))
 case first =>
  rename_i J K' h1 h2;exact st_funcs H6 HKF HG2 h1 h2
 case rest =>
 obtain ⟨oy,cy,HD8⟩:=hcut;clear HG2 H6 H5 H2 HKF;obtain ⟨vfn,hvfn⟩:∃ v,v=Value.slice oy FN.length cy:=⟨_,rfl⟩
 have HVFN:=Hi hvfn;rw [<- hvfn] at HD8;clear hvfn;obtain ⟨iq0,iqi,iqz0,iqz1,iqz2⟩:=info_parts inf_Int;have C30:=Hi (CN.out (MF.mk (.int .i64 unit) nilV nilV nilV nilV vax vrg vfn nilV) s6 KC s7 4 (by decide) (by decide) H7.out _ HD8.out.mkr);go_wp2_with fail;refine C30.out.mono ?_;rintro e w7 ⟨rfl,K2,M2⟩;have HD9:=Hi (HD8.out.call K2 M2);clear K2 M2 C30 HD8;go_upto_block 8 with fail;have HG3:Hid (MG w rb m sv l (MF.mk (.int .i64 unit) nilV nilV nilV nilV vax vrg vfn nilV) (MF.mk (.int .i64 unit) nilV nilV nilV nilV vax vrg vfn nilV) (DFont.mk unit [] [] [] [] AX RG FN []) w7.heap.size 3 1 SInt (fun _=>False) (.slice none 0 0) ([]:List Int) s7 w7):=MG.start (fun _ h=>h.elim) HD9.out;generalize w7.heap.size=B4 at *
 clear HD9
 go_cut [12] from 132 (fun v12 wx=>∃ (oa:Option Addr) (ca:Nat),Hid (MD w rb m sv l (MF.mk (.int .i64 unit) nilV nilV nilV nilV vax vrg vfn (.slice oa CV.length ca)) (MF.mk (.int .i64 unit) nilV nilV nilV nilV vax vrg vfn (.slice oa CV.length ca)) (DFont.mk unit [] [] [] [] AX RG FN CV) wx.heap.size s8 wx))
 case first =>
  rename_i J K' h1 h2;exact st_cvt H8 HKC HG3 h1 h2
 case rest =>
 obtain ⟨oz,cz,HD10⟩:=hcut;generalize (Value.slice oz CV.length cz)=vcv at *
 clear HG3 H8 H7 HKC;have C40:=Hi (CN.out (MF.mk (.int .i64 unit) nilV nilV nilV nilV vax vrg vfn vcv) s8 kg s9 9 (by decide) (by decide) H9.out _ HD10.out.mkr);go_wp2_with fail;refine C40.out.mono ?_;rintro e w8 ⟨rfl,K2,M2⟩;have HD11:=Hi (HD10.out.call K2 M2);clear K2 M2 C40 HD10;go_upto_block 10 with fail;have HG4:Hid (MG w rb m sv l (MF.mk (.int .i64 unit) nilV nilV nilV nilV vax vrg vfn vcv) (MF.mk (.int .i64 unit) nilV nilV nilV nilV vax vrg vfn vcv) (DFont.mk unit [] [] [] [] AX RG FN CV) w8.heap.size 46 9 SGlyph (fun b=>m<b) (.slice none 0 0) ([]:List DGlyph) s9 w8):=MG.start (fun _ h=>h) HD11.out;generalize w8.heap.size=B5 at *
 clear HD11
 go_cut [13] from 154 (fun v13 wx=>∃ (oa:Option Addr) (ca:Nat),Hid (MD w rb m sv l (MF.mk (.int .i64 unit) (.slice oa KG ca) nilV nilV nilV vax vrg vfn vcv) (MF.mk (.int .i64 unit) (.slice oa KG ca) nilV nilV nilV vax vrg vfn vcv) (DFont.mk unit GL [] [] [] AX RG FN CV) wx.heap.size s10 wx))
 case first =>
  rename_i J K' h1 h2;exact st_glyphs H10 HKG HRFL HVRG HVFN HG4 h1 h2
 case rest =>
 obtain ⟨og,cg,HD12⟩:=hcut;have HGL:Hid (GL.length=KG):=by
  have a1:=rep_len (f:=glF RG.length FN.length) (fun _ _ _=>List.length_append) KG s9;rw [H10.out] at a1;exact a1
 clear HG4 H10 H9 HVRG HVFN HRFL;obtain ⟨hq0,hqi,hqz0,hqz1,hqz2⟩:=info_parts inf_Char;go_wp2_with fail;refine (runes_any wc).mono ?_;rintro e w9 ⟨ub,rfl,hub,hB,M2⟩;have HD13:=Hi (MD.stays _ _ HD12.out M2);have HUB:Hid (Blk w9 ub runesA 3/\ub≠m):=⟨hB,by have h8:=HD12.out.ord;omega⟩
 have HUL:=Hi hB.lt;clear hub hB M2 HD12;go_upto_block 12 with fail;have HG5:Hid (MG w rb m sv l (MF.mk (.int .i64 unit) (.slice og KG cg) nilV nilV nilV vax vrg vfn vcv) (MF.mk (.int .i64 unit) (.slice og KG cg) nilV nilV nilV vax vrg vfn vcv) (DFont.mk unit GL [] [] [] AX RG FN CV) w9.heap.size 37 2 SChar (fun _=>False) (.slice none 0 0) ([]:List DChar) s10 w9):=MG.start (fun _ h=>h.elim) HD13.out;generalize w9.heap.size=B6 at *
 clear HD13
 go_cut [15] from 163 (fun v15 wx=>∃ (oa:Option Addr) (ca:Nat),Hid (MD w rb m sv l (MF.mk (.int .i64 unit) (.slice og KG cg) (.slice oa CH.length ca) nilV nilV vax vrg vfn vcv) (MF.mk (.int .i64 unit) (.slice og KG cg) (.slice oa CH.length ca) nilV nilV vax vrg vfn vcv) (DFont.mk unit GL CH [] [] AX RG FN CV) wx.heap.size s11 wx))
 case first =>
  rename_i J K' h1 h2;exact st_chars H11 HKG HUB HUL HG5 h1 h2
 case rest =>
 obtain ⟨oc,cc,HD14⟩:=hcut;generalize (Value.slice oc CH.length cc)=vch at *
 clear HG5 H11 HUB HUL hqi;have HLKL:Hid (LK.length<=100):=by
  have a1:=lookups_len KG s11;rw [H12.out] at a1;exact a1
 have CLK:=Hi (lookups_at m sv l (MF.mk (.int .i64 unit) (.slice og KG cg) vch nilV nilV vax vrg vfn vcv) s11 KG (by have:=HKG.out;omega) (by have:=HKG.out;omega) rfl rfl H12.out wc HD14.out.mkr);obtain ⟨fq0,fqi,fqz0,fqz1,fqz2⟩:=info_parts inf_Feature;go_wp2_with fail;refine CLK.out.mono ?_;rintro e w11 ⟨v',rfl,hv,K',M'⟩;obtain ⟨ol,cl,rfl,-⟩:=hv.form;have HD15:Hid (MD w rb m sv l (MF.mk (.int .i64 unit) (.slice og KG cg) vch (.slice ol LK.length cl) nilV vax vrg vfn vcv) (MF.mk (.int .i64 unit) (.slice og KG cg) vch (.slice ol LK.length cl) nilV vax vrg vfn vcv) (DFont.mk unit GL CH LK [] AX RG FN CV) w11.heap.size s12 w11):=HD14.out.setLk K' M' hv;clear hv K' M' CLK HD14 H12;go_wp2_with fail;refine (names_any w11).mono ?_;rintro e w12 ⟨ub,rfl,hub,hB,M2⟩;have HD16:=Hi (MD.stays _ _ HD15.out M2);have HUB:Hid (Blk w12 ub namesA 9/\ub≠m):=⟨hB,by have h8:=HD15.out.ord;omega⟩
 have HUL:=Hi hB.lt;clear hub hB M2 HD15;go_upto_block 14 with fail;have HG6:Hid (MG w rb m sv l (MF.mk (.int .i64 unit) (.slice og KG cg) vch (.slice ol LK.length cl) nilV vax vrg vfn vcv) (MF.mk (.int .i64 unit) (.slice og KG cg) vch (.slice ol LK.length cl) nilV vax vrg vfn vcv) (DFont.mk unit GL CH LK [] AX RG FN CV) w12.heap.size 88 2 SFeature (fun b=>m<b) (.slice none 0 0) ([]:List DFeature) s12 w12):=MG.start (fun _ h=>h) HD16.out;generalize w12.heap.size=B7 at *
 clear HD16
 go_cut [17,18,19] from 199 (fun v17 v18 v19 wx=>∃ (oa:Option Addr) (ca:Nat),Hid (MD w rb m sv l (MF.mk (.int .i64 unit) (.slice og KG cg) vch (.slice ol LK.length cl) (.slice oa FT.length ca) vax vrg vfn vcv) (MF.mk (.int .i64 unit) (.slice og KG cg) vch (.slice ol LK.length cl) (.slice oa FT.length ca) vax vrg vfn vcv) (DFont.mk unit GL CH LK FT AX RG FN CV) wx.heap.size s13 wx))
 case first =>
  rename_i J K' h1 h2;exact st_feats H13 HLKL HUB HUL HG6 h1 h2
 case rest =>
 obtain ⟨oa,ca,HD17⟩:=hcut;generalize (Value.slice oa FT.length ca)=vft at *
 clear HG6 H13 HUB HUL HLKL fqi iqi;have hf:=HD17.out.rows;obtain ⟨a1,b1,e1,-⟩:=hf.gl.form;have e1':KG=GL.length:=by cases e1;rfl
 obtain ⟨a2,b2,e2,-⟩:=hf.ch.form;obtain ⟨a3,b3,e3,-⟩:=hf.ft.form;obtain ⟨a4,b4,e4,-⟩:=hf.ax.form;obtain ⟨a5,b5,e5,-⟩:=hf.rg.form;obtain ⟨a6,b6,e6,-⟩:=hf.fn.form;obtain ⟨a7,b7,e7,-⟩:=hf.cv.form;have e2:vch=.slice a2 CH.length b2:=e2;have e3:vft=.slice a3 FT.length b3:=e3;have e4:vax=.slice a4 AX.length b4:=e4;have e5:vrg=.slice a5 RG.length b5:=e5;have e6:vfn=.slice a6 FN.length b6:=e6;have e7:vcv=.slice a7 CV.length b7:=e7;clear e1 e1' hf;subst e2 e3 e4 e5 e6 e7;have d2:wc.cell? ⟨m,2,none⟩=some (.int .i64 unit):=HD17.out.mkr.blk.cell 2;have d3:wc.cell? ⟨m,3,none⟩=some (.slice og KG cg):=HD17.out.mkr.blk.cell 3;have d4:wc.cell? ⟨m,4,none⟩=some (.slice a2 CH.length b2):=HD17.out.mkr.blk.cell 4;have d5:wc.cell? ⟨m,5,none⟩=some (.slice ol LK.length cl):=HD17.out.mkr.blk.cell 5;have d6:wc.cell? ⟨m,6,none⟩=some (.slice a3 FT.length b3):=HD17.out.mkr.blk.cell 6;have d7:wc.cell? ⟨m,7,none⟩=some (.slice a4 AX.length b4):=HD17.out.mkr.blk.cell 7;have d8:wc.cell? ⟨m,8,none⟩=some (.slice a5 RG.length b5):=HD17.out.mkr.blk.cell 8;have d9:wc.cell? ⟨m,9,none⟩=some (.slice a6 FN.length b6):=HD17.out.mkr.blk.cell 9;have d10:wc.cell? ⟨m,10,none⟩=some (.slice a7 CV.length b7):=HD17.out.mkr.blk.cell 10;have r0:wc.cell? ⟨rb,0,none⟩=some (.int .i64 0):=HD17.out.res.cell 0;have r1:wc.cell? ⟨rb,1,none⟩=some (.slice none 0 0):=HD17.out.res.cell 1;have r2:wc.cell? ⟨rb,2,none⟩=some (.slice none 0 0):=HD17.out.res.cell 2;have r3:wc.cell? ⟨rb,3,none⟩=some (.slice none 0 0):=HD17.out.res.cell 3;have r4:wc.cell? ⟨rb,4,none⟩=some (.slice none 0 0):=HD17.out.res.cell 4;have r5:wc.cell? ⟨rb,5,none⟩=some (.slice none 0 0):=HD17.out.res.cell 5;have r6:wc.cell? ⟨rb,6,none⟩=some (.slice none 0 0):=HD17.out.res.cell 6;have r7:wc.cell? ⟨rb,7,none⟩=some (.slice none 0 0):=HD17.out.res.cell 7;have r8:wc.cell? ⟨rb,8,none⟩=some (.slice none 0 0):=HD17.out.res.cell 8;have q0:=HD17.out.res.frozen 0;have q1:=HD17.out.res.frozen 1;have q2:=HD17.out.res.frozen 2;have q3:=HD17.out.res.frozen 3;have q4:=HD17.out.res.frozen 4;have q5:=HD17.out.res.frozen 5;have q6:=HD17.out.res.frozen 6;have q7:=HD17.out.res.frozen 7;have q8:=HD17.out.res.frozen 8;go_wp2_with fail;have XF:(((((((((wc.setCell ⟨rb,0,none⟩ (.int .i64 unit)).setCell ⟨rb,1,none⟩ (.slice og KG cg)).setCell ⟨rb,2,none⟩ (.slice a2 CH.length b2)).setCell ⟨rb,3,none⟩ (.slice ol LK.length cl)).setCell ⟨rb,4,none⟩ (.slice a3 FT.length b3)).setCell ⟨rb,5,none⟩ (.slice a4 AX.length b4)).setCell ⟨rb,6,none⟩ (.slice a5 RG.length b5)).setCell ⟨rb,7,none⟩ (.slice a6 FN.length b6)).setCell ⟨rb,8,none⟩ (.slice a7 CV.length b7))=setN wc (rb) (0) [.int .i64 unit,.slice og KG cg,.slice a2 CH.length b2,.slice ol LK.length cl,.slice a3 FT.length b3,.slice a4 AX.length b4,.slice a5 RG.length b5,.slice a6 FN.length b6,.slice a7 CV.length b7]:=rfl;rw [XF];clear XF;have HB:Blk (setN wc rb 0 [.int .i64 unit,.slice og KG cg,.slice a2 CH.length b2,.slice ol LK.length cl,.slice a3 FT.length b3,.slice a4 AX.length b4,.slice a5 RG.length b5,.slice a6 FN.length b6,.slice a7 CV.length b7]) rb #[.int .i64 unit,.slice og KG cg,.slice a2 CH.length b2,.slice ol LK.length cl,.slice a3 FT.length b3,.slice a4 AX.length b4,.slice a5 RG.length b5,.slice a6 FN.length b6,.slice a7 CV.length b7] 32:=HD17.out.res.over [.int .i64 unit,.slice og KG cg,.slice a2 CH.length b2,.slice ol LK.length cl,.slice a3 FT.length b3,.slice a4 AX.length b4,.slice a5 RG.length b5,.slice a6 FN.length b6,.slice a7 CV.length b7] rfl;have HOT:SameB (fun b=>m<b/\b<wc.heap.size) wc (setN wc rb 0 [.int .i64 unit,.slice og KG cg,.slice a2 CH.length b2,.slice ol LK.length cl,.slice a3 FT.length b3,.slice a4 AX.length b4,.slice a5 RG.length b5,.slice a6 FN.length b6,.slice a7 CV.length b7]):=fun b hb _=>setN_other (by have:=HD17.out.ord;omega) _ _ _
 have HMO:Mod [] w (setN wc rb 0 [.int .i64 unit,.slice og KG cg,.slice a2 CH.length b2,.slice ol LK.length cl,.slice a3 FT.length b3,.slice a4 AX.length b4,.slice a5 RG.length b5,.slice a6 FN.length b6,.slice a7 CV.length b7]):=setN_mod HD17.out.ord.1 _ _ _ HD17.out.mod;clear d2 d3 d4 d5 d6 d7 d8 d9 d10 r0 r1 r2 r3 r4 r5 r6 r7 r8 q0 q1 q2 q3 q4 q5 q6 q7 q8;generalize (setN wc rb 0 [.int .i64 unit,.slice og KG cg,.slice a2 CH.length b2,.slice ol LK.length cl,.slice a3 FT.length b3,.slice a4 AX.length b4,.slice a5 RG.length b5,.slice a6 FN.length b6,.slice a7 CV.length b7])=wf at *
 have f0:wf.cell? ⟨rb,0,none⟩=some (.int .i64 unit):=HB.cell 0;have f1:wf.cell? ⟨rb,1,none⟩=some (.slice og KG cg):=HB.cell 1;have f2:wf.cell? ⟨rb,2,none⟩=some (.slice a2 CH.length b2):=HB.cell 2;have f3:wf.cell? ⟨rb,3,none⟩=some (.slice ol LK.length cl):=HB.cell 3;have f4:wf.cell? ⟨rb,4,none⟩=some (.slice a3 FT.length b3):=HB.cell 4;have f5:wf.cell? ⟨rb,5,none⟩=some (.slice a4 AX.length b4):=HB.cell 5;have f6:wf.cell? ⟨rb,6,none⟩=some (.slice a5 RG.length b5):=HB.cell 6;have f7:wf.cell? ⟨rb,7,none⟩=some (.slice a6 FN.length b6):=HB.cell 7;have f8:wf.cell? ⟨rb,8,none⟩=some (.slice a7 CV.length b7):=HB.cell 8;refine bodyPost_ret (v:=.agg #[.int .i64 unit,.slice og KG cg,.slice a2 CH.length b2,.slice ol LK.length cl,.slice a3 FT.length b3,.slice a4 AX.length b4,.slice a5 RG.length b5,.slice a6 FN.length b6,.slice a7 CV.length b7]) (by simp [results,Tryz.results7,go_sem,f0,f1,f2,f3,f4,f5,f6,f7,f8];try rfl) rfl ?_;refine ⟨_,rfl,?_,HMO⟩;have hr:=(HD17.out.rows.same HOT).weak (S':=fun b=>w.heap.size<=b) fun b _ hb=>by have:=HD17.out.ord;omega
 rw [HMD.out];exact ⟨_,_,_,_,_,_,_,_,rfl,HUI.out,hr.gl,hr.ch,hr.lk,hr.ft,hr.ax,hr.rg,hr.fn,hr.cv⟩
end Go.Proofs.YthheaflbbficgaaGreat

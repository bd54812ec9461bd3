/- MkMadeS, MkMadeP, MkMadeA, MkMadeB, MkMadeC, MkMadeD, MkMadeE, MkMade. -/
import Derived.Test.YthheaflbbficgaaGreatGBase
import Derived.Test.YthheaflbbficgaaGreatGRul
import Derived.Test.YthheaflbbficgaaGreatGGly
import Derived.Test.YthheaflbbficgaaGreatGRing
set_option linter.all false
namespace Go.Proofs.YthheaflbbficgaaGreat
open Go.RowKit
set_option maxRecDepth 100000
def ky (v:Value):Prop:=∀ o n c,v=.slice o n c->n<=c
theorem qN:ky ae:=λo n c h=>by unfold ae at h;injection h with _ h2 h3;omega
theorem aH.cap {α:Type} {base k:Nat} {e:TypeId} {R:Bl->World->List Value->α->Prop} {S:Bl} {v:Value} {l:List α} {w:World} (h:aH base e k R S v l w):ky v:=by
 obtain ⟨css,⟨-,h⟩,-⟩:=h;rintro o n c rfl;rcases h with ⟨h,-⟩ | ⟨g,cap,cur,h,-,-,h1,-⟩
 ·injection h with _ h2 h3;omega
 ·injection h with _ h2 h3;omega
structure MR (S:Bl) (w:World) (f:MF) (F:aD):Prop where
 gl:az 9 bO S w f.gl F.glyphs
 ch:az 2 cV S w f.ch F.chars
 lk:az 3 bc S w f.lk F.lookups
 ft:az 2 aU S w f.ft F.features
 ax:az 4 bX S w f.ax F.axes
 rg:az 1 aY S w f.rg F.regions
 fn:az 1 cT S w f.fn F.funcs
 cv:az 1 aF S w f.cv F.cvt
 cg:ky f.gl
 cf:ky f.ft
theorem MR.same {S:Bl} {w w':World} {f:MF} {F:aD} (h:MR S w f F) (m:bC S w w'):MR S w' f F :=
 ⟨h.gl.same bO.stay m,h.ch.same cV.stay m,h.lk.same bc.stay m,h.ft.same aU.stay m,h.ax.same bX.stay m,h.rg.same aY.stay m,h.fn.same cT.stay m,h.cv.same aF.stay m,h.cg,h.cf⟩
theorem MR.weak {S S':Bl} {w:World} {f:MF} {F:aD} (h:MR S w f F) (k:∀ b,b<w.heap.size->S b->S' b):MR S' w f F :=
 ⟨h.gl.weak zd bO.weak k,h.ch.weak zd cV.weak k,h.lk.weak zd bc.weak k,h.ft.weak zd aU.weak k,h.ax.weak zd bX.weak k,h.rg.weak zd aY.weak k,h.fn.weak zd cT.weak k,h.cv.weak zd aF.weak k,h.cg,h.cf⟩
def ki:Array Value:=#[.int .i64 0,ae,ae,ae,ae,ae,ae,ae,ae]
structure MD (W:World) (rb m:Nat) (sv:Value) (l:List Int) (f f0:MF) (F:aD) (B:Nat) (s:Mk.S) (w:World):Prop where
 mkr:MK m sv l f s w
 mod:Mod [] W w
 res:Blk w rb ki 32
 rows:MR (λb=>m<b/\b<B) w f0 F
 ord:W.heap.size<=rb/\rb<m/\m<B/\B<=w.heap.size
section
variable {W:World} {rb m:Nat} {sv:Value} {l:List Int} {f f' f0:MF} {F:aD} {B B':Nat} {s s':Mk.S} {w w':World} {u:Value}
theorem MD.stays:aG (MD W rb m sv l f f0 F B s):=λw w' h k =>
 ⟨MK.stays _ _ h.mkr k,h.mod.then k,h.res.kept k zk,h.rows.same (k.same0 _),h.ord.1,h.ord.2.1,h.ord.2.2.1,nT h.ord.2.2.2 k.size⟩
theorem Mod.news {F:List Nat} {w a b:World} (h:Mod [] w a) (k:Mod F a b) (hF:∀ x∈F,w.heap.size<=x):Mod [] w b :=
 ⟨k.os.trans h.os,k.tape.trans h.tape,k.output.trans h.output,nT h.size k.size,λx hx hn=>(k.block x (Nat.lt_of_lt_of_le hx h.size) (λhm=>by have:=hF x hm;omega)).trans (h.block x hx hn)⟩
theorem MD.DG {o:List Nat} (h:MD W rb m sv l f f0 F B s w) (k:MK m sv l f' s' w') (k2:Mod (m::o) w w') (ho:∀ b∈o,B<=b):MD W rb m sv l f' f0 F B s' w':=by
 have h1:=h.ord;refine ⟨k,h.mod.news k2 (λx hx=>?_),h.res.kept k2 (λhx=>?_),h.rows.same (k2.jM λx hx hs=>?_),h1.1,h1.2.1,h1.2.2.1,nT h1.2.2.2 k2.size⟩
 ·rcases List.mem_cons.1 hx with rfl | hx
  ·omega
  ·have:=ho x hx;omega
 ·rcases List.mem_cons.1 hx with rfl | hx
  ·omega
  ·have:=ho _ hx;omega
 ·rcases List.mem_cons.1 hx with rfl | hx
  ·omega
  ·have:=ho x hx;omega
theorem MD.call (h:MD W rb m sv l f f0 F B s w) (k:MK m sv l f' s' w') (k2:Mod [m] w w'):MD W rb m sv l f' f0 F B s' w':=h.DG k k2 zk
theorem MD.grown (h:MD W rb m sv l f f0 F B s w) (k:w.grownBy w' u.ownBlock) (hu:∀ b,u.ownBlock=some b->B<=b):MD W rb m sv l f f0 F B s w':=by
 have h1:=h.ord;exact ⟨h.mkr.grown k λb hb=>by have:=hu b hb;omega,h.mod.grew k λb hb=>by have:=hu b hb;omega,h.res.grew k λhb=>by have:=hu _ hb;omega,h.rows.same (bC.grown k λb hb hs=>by have:=hu b hb;omega),h1.1,h1.2.1,h1.2.2.1,nT h1.2.2.2 k.size⟩
theorem MD.put (h:MD W rb m sv l f f0 F B s w) (i:Nat) (v:Value) (he:∀ p lp,(mkC sv p f lp).setIfInBounds i v=mkC sv p f' lp):MD W rb m sv l f' f0 F B s (w.setCell ⟨m,i,none⟩ v):=by
 have h1:=h.ord;have hb:=h.mkr.blk.set i v;rw [he] at hb;exact ⟨⟨hb,h.mkr.num.same aF.stay (bC.set w zk _),h.mkr.suf,h.mkr.lp0,h.mkr.lp1⟩,h.mod.eT (p:=⟨m,i,none⟩) (by show W.heap.size<=m;omega) _,h.res.other (by show m≠rb;omega) _,h.rows.same (bC.set w zk _),h1.1,h1.2.1,h1.2.2.1,by simpa using h1.2.2.2⟩
theorem MD.reU (h:MD W rb m sv l f f0 F B s w) (x:Value):MD W rb m sv l f { f0 with u:=x } F B s w :=
 ⟨h.mkr,h.mod,h.res,⟨h.rows.gl,h.rows.ch,h.rows.lk,h.rows.ft,h.rows.ax,h.rows.rg,h.rows.fn,h.rows.cv,h.rows.cg,h.rows.cf⟩,h.ord⟩
theorem MD.lps (h:MD W rb m sv l f f0 F B s w) (x:Int) (hx0:0<=x) (hx1:x<=1000000):MD W rb m sv l f f0 F B ⟨s.r,x⟩ (w.setCell ⟨m,11,none⟩ (.int .i64 x)):=by
 have h1:=h.ord;exact ⟨⟨h.mkr.blk.set 11 _,h.mkr.num.same aF.stay (bC.set w zk _),h.mkr.suf,hx0,hx1⟩,h.mod.eT (p:=⟨m,11,none⟩) (by show W.heap.size<=m;omega) _,h.res.other (by show m≠rb;omega) _,h.rows.same (bC.set w zk _),h1.1,h1.2.1,h1.2.2.1,by simpa using h1.2.2.2⟩
theorem MD.up (h:MD W rb m sv l f f0 F B s w) (h1:B<=B') (h2:B'<=w.heap.size):MD W rb m sv l f f0 F B' s w :=
 ⟨h.mkr,h.mod,h.res,h.rows.weak λb _ hb=>⟨hb.1,by omega⟩,h.ord.1,h.ord.2.1,by have:=h.ord;omega,h2⟩
theorem MD.set (h:MD W rb m sv l f f0 F B s w) {p:Addr} (hp:B<=p.block) (x:Value):MD W rb m sv l f f0 F B s (w.setCell p x):=by
 have h1:=h.ord;exact ⟨h.mkr.set zo _,h.mod.eT zo _,h.res.other zo _,h.rows.same (bC.set w zo _),h1.1,h1.2.1,h1.2.2.1,by simpa using h1.2.2.2⟩
end
def zMF:MF:=⟨.int .i64 0,ae,ae,ae,ae,ae,ae,ae,ae⟩
def zDF (u:Int):aD:=⟨u,[],[],[],[],[],[],[],[]⟩
theorem MD.start (w:World) (sv:Value) (l:List Int) (u:Int) (hs:az 1 aF (λb=>b<w.heap.size) w sv l) :
  MD w w.heap.size (w.heap.size+1) sv l zMF zMF (zDF u) (w.heap.size+2) ⟨l,0⟩ ((w.alloc (.cells ki 32)).alloc (.cells (mkC sv 0 zMF 0) 72)):=by
 have m1:Mod [] w (w.alloc (.cells ki 32)):=mR.alloc _;have m2:Mod [] (w.alloc (.cells ki 32)) ((w.alloc (.cells ki 32)).alloc (.cells (mkC sv 0 zMF 0) 72)):=mR.alloc _;have hb:Blk ((w.alloc (.cells ki 32)).alloc (.cells (mkC sv 0 zMF 0) 72)) (w.heap.size+1) (mkC sv (l.length - l.length) zMF 0) 72:=by
  have:=Blk.new (w.alloc (.cells ki 32)) (mkC sv 0 zMF 0) 72;rw [Nat.sub_self];simpa using this
 refine ⟨⟨hb,((hs.mod aF.stay (m1.then m2))).weak zd aF.weak λb _ h=>by omega,⟨[],rfl⟩,Int.le_refl _,by show (0:Int)<=1000000;decide⟩,m1.then m2,(Blk.new w ki 32).kept m2 zk,?_,⟨nR _,by omega,by omega,by simp⟩⟩;exact ⟨az.nil _,az.nil _,az.nil _,az.nil _,az.nil _,az.nil _,az.nil _,az.nil _,qN,qN⟩
structure MG {α:Type} (W:World) (rb m:Nat) (sv:Value) (l:List Int) (f f0:MF) (F:aD) (B:Nat) (e:TypeId) (k:Nat) (R:Bl->World->List Value->α->Prop) (S:Bl) (v:Value) (L:List α) (s:Mk.S) (w:World):Prop where
 d:MD W rb m sv l f f0 F B s w
 g:aH B e k R S v L w
 sb:∀ b,S b->m<b
section
variable {α:Type} {W:World} {rb m:Nat} {sv:Value} {l:List Int} {f f' f0:MF} {F:aD} {B:Nat} {e:TypeId} {k:Nat} {R:Bl->World->List Value->α->Prop} {S S':Bl} {v v' u:Value} {L L':List α} {s s':Mk.S} {w w':World}
theorem MG.stays (hR:bI R):aG (MG W rb m sv l f f0 F B e k R S v L s):=λw w' h k=>⟨MD.stays _ _ h.d k,h.g.mod hR k,h.sb⟩
theorem MG.call (hR:bI R) (h:MG W rb m sv l f f0 F B e k R S v L s w) (k1:MK m sv l f s' w') (k2:Mod [m] w w'):MG W rb m sv l f f0 F B e k R S v L s' w':=by
 have h1:=h.d.ord;exact ⟨h.d.call k1 k2,h.g.kept hR k2 (λb hb he=>by have h7:b=m:=mI.1 hb;have:=(h.g.lt b he).1;omega) (λb hb hs=>by have h7:b=m:=mI.1 hb;have:=h.sb b hs;omega),h.sb⟩
theorem MG.push (h:MG W rb m sv l f f0 F B e k R S v L s w) (hG:aH B e k R S v' L' w') (g:w.grownBy w' v.ownBlock):MG W rb m sv l f f0 F B e k R S v' L' s w' :=
 ⟨h.d.grown g λb hb=>(h.g.lt b hb).1,hG,h.sb⟩
theorem MG.store (hR:bI R) (h:MG W rb m sv l f f0 F B e k R S v L s w) (i:Nat) (x:Value) (he:∀ p lp,(mkC sv p f lp).setIfInBounds i x=mkC sv p f' lp):MG W rb m sv l f' f0 F B e k R S v L s (w.setCell ⟨m,i,none⟩ x):=by
 have h1:=h.d.ord;exact ⟨h.d.put i x he,h.g.set hR (λhb=>by have h9:B<=m:=(h.g.lt _ hb).1;omega) (λhs=>by have h9:m<m:=h.sb _ hs;omega) x,h.sb⟩
theorem MG.lps (hR:bI R) (h:MG W rb m sv l f f0 F B e k R S v L s w) (x:Int) (hx0:0<=x) (hx1:x<=1000000):MG W rb m sv l f f0 F B e k R S v L ⟨s.r,x⟩ (w.setCell ⟨m,11,none⟩ (.int .i64 x)):=by
 have h1:=h.d.ord;exact ⟨h.d.lps x hx0 hx1,h.g.set hR (λhb=>by have h9:B<=m:=(h.g.lt _ hb).1;omega) (λhs=>by have h9:m<m:=h.sb _ hs;omega) _,h.sb⟩
theorem MG.set (hR:bI R) (h:MG W rb m sv l f f0 F B e k R S v L s w) {p:Addr} (hp:B<=p.block) (h1:v.ownBlock≠some p.block) (h2:¬ S p.block) (x:Value):MG W rb m sv l f f0 F B e k R S v L s (w.setCell p x) :=
 ⟨h.d.set hp x,h.g.set hR h1 h2 x,h.sb⟩
theorem MG.ec (hR:bI R) {b:Nat} (hp:B<=b) (h1:v.ownBlock≠some b) (h2:¬ S b):∀ (vs:List Value) (i:Nat) (w:World),MG W rb m sv l f f0 F B e k R S v L s w->MG W rb m sv l f f0 F B e k R S v L s (ec w b i vs)
 | [],_,_,h=>h
 | x::r,i,_,h=>MG.ec hR hp h1 h2 r (i+1) _ (h.set hR (p:=⟨b,i,none⟩) hp h1 h2 x)
theorem MG.weak (hW:bW R) (h:MG W rb m sv l f f0 F B e k R S v L s w) (hS:∀ b,b<w.heap.size->S b->S' b) (hb:∀ b,S' b->m<b):MG W rb m sv l f f0 F B e k R S' v L s w:=⟨h.d,h.g.weak hW hS,hb⟩
theorem MG.rows (hk:0<k) (hW:bW R) (h:MG W rb m sv l f f0 F B e k R S v L s w):az k R (λb=>m<b/\b<w.heap.size) w v L:=by
 have h1:=h.d.ord;exact h.g.done hk hW (λb h2 h3=>⟨h.sb b h3,h2⟩) λb hb=>by have:=h.g.lt b hb;omega
theorem MG.start (hS:∀ b,S b->m<b) (h:MD W rb m sv l f f0 F B s w):MG W rb m sv l f f0 F w.heap.size e k R S ae ([]:List α) s w:=⟨h.up h.ord.2.2.2 (nR _),aH.nil,hS⟩
theorem MG.done (h:MG W rb m sv l f f0 F B e k R S v L s w) {F':aD} (hr:MR (λb=>m<b/\b<w.heap.size) w f0 F->MR (λb=>m<b/\b<w.heap.size) w f F'):MD W rb m sv l f f F' w.heap.size s w:=by
 have h1:=h.d.up h.d.ord.2.2.2 (nR _);exact ⟨h1.mkr,h1.mod,h1.res,hr h1.rows,h1.ord⟩
end
section
variable {W:World} {rb m:Nat} {sv:Value} {l:List Int} {f0:MF} {F:aD} {B:Nat} {e:TypeId} {S:Bl} {v:Value} {s:Mk.S} {w:World}
theorem MG.Ea {L:List bB} (h:MG W rb m sv l { f0 with ax:=v } f0 F B e 4 bX S v L s w):MD W rb m sv l { f0 with ax:=v } { f0 with ax:=v } { F with axes:=L } w.heap.size s w :=
 h.done λr=>⟨r.gl,r.ch,r.lk,r.ft,h.rows zd bX.weak,r.rg,r.fn,r.cv,r.cg,r.cf⟩
theorem MG.zN {L:List bv} (h:MG W rb m sv l { f0 with rg:=v } f0 F B e 1 aY S v L s w):MD W rb m sv l { f0 with rg:=v } { f0 with rg:=v } { F with regions:=L } w.heap.size s w :=
 h.done λr=>⟨r.gl,r.ch,r.lk,r.ft,r.ax,h.rows zd aY.weak,r.fn,r.cv,r.cg,r.cf⟩
theorem MG.doneFn {L:List (List bS)} (h:MG W rb m sv l { f0 with fn:=v } f0 F B e 1 cT S v L s w):MD W rb m sv l { f0 with fn:=v } { f0 with fn:=v } { F with funcs:=L } w.heap.size s w :=
 h.done λr=>⟨r.gl,r.ch,r.lk,r.ft,r.ax,r.rg,h.rows zd cT.weak,r.cv,r.cg,r.cf⟩
theorem MG.D8 {L:List Int} (h:MG W rb m sv l { f0 with cv:=v } f0 F B e 1 aF S v L s w):MD W rb m sv l { f0 with cv:=v } { f0 with cv:=v } { F with cvt:=L } w.heap.size s w :=
 h.done λr=>⟨r.gl,r.ch,r.lk,r.ft,r.ax,r.rg,r.fn,h.rows zd aF.weak,r.cg,r.cf⟩
theorem MG.D6 {L:List av} (h:MG W rb m sv l { f0 with gl:=v } f0 F B e 9 bO S v L s w):MD W rb m sv l { f0 with gl:=v } { f0 with gl:=v } { F with glyphs:=L } w.heap.size s w :=
 h.done λr=>⟨h.rows zd bO.weak,r.ch,r.lk,r.ft,r.ax,r.rg,r.fn,r.cv,h.g.cap,r.cf⟩
theorem MG.D9 {L:List dc} (h:MG W rb m sv l { f0 with ch:=v } f0 F B e 2 cV S v L s w):MD W rb m sv l { f0 with ch:=v } { f0 with ch:=v } { F with chars:=L } w.heap.size s w :=
 h.done λr=>⟨r.gl,h.rows zd cV.weak,r.lk,r.ft,r.ax,r.rg,r.fn,r.cv,r.cg,r.cf⟩
theorem MG.D7 {L:List aA} (h:MG W rb m sv l { f0 with ft:=v } f0 F B e 2 aU S v L s w):MD W rb m sv l { f0 with ft:=v } { f0 with ft:=v } { F with features:=L } w.heap.size s w :=
 h.done λr=>⟨r.gl,r.ch,r.lk,h.rows zd aU.weak,r.ax,r.rg,r.fn,r.cv,r.cg,h.g.cap⟩
end
def MGv {α:Type} (W:World) (rb m:Nat) (sv:Value) (l:List Int) (f f0:MF) (F:aD) (B:Nat) (e:TypeId) (k:Nat) (R:Bl->World->List Value->α->Prop) (S:Bl) (n:Nat) (L:List α) (s:Mk.S) (v:Value) (w:World):Prop:=(∃ (oa:Option Addr) (ca:Nat),v=.slice oa n ca)/\MG W rb m sv l f f0 F B e k R S v L s w
theorem MGv.stays {α:Type} {W:World} {rb m:Nat} {sv:Value} {l:List Int} {f f0:MF} {F:aD} {B:Nat} {e:TypeId} {k:Nat} {R:Bl->World->List Value->α->Prop} {S:Bl} {n:Nat} {L:List α} {s:Mk.S} (hR:bI R) (v:Value):aG (MGv W rb m sv l f f0 F B e k R S n L s v):=λw w' h k=>⟨h.1,MG.stays hR _ _ h.2 k⟩
theorem MG.p9 {α:Type} {W:World} {rb m:Nat} {sv:Value} {l:List Int} {f f0:MF} {F:aD} {B:Nat} {e:TypeId} {k:Nat} {R:Bl->World->List Value->α->Prop} {S:Bl} {v v':Value} {L:List α} {x:α} {s:Mk.S} {w w':World} (h:MG W rb m sv l f f0 F B e k R S v L s w) (hG:aH B e k R S v' (L++[x]) w') (g:w.grownBy w' v.ownBlock):MGv W rb m sv l f f0 F B e k R S (L.length+1) (L++[x]) s v' w' :=
 ⟨by obtain ⟨oa,c,he⟩:=hG.form;exact ⟨oa,c,by rw [he,List.length_append];rfl⟩,h.push hG g⟩
theorem MG.other {α:Type} {W:World} {rb m:Nat} {sv:Value} {l:List Int} {f f0:MF} {F:aD} {B:Nat} {e:TypeId} {k:Nat} {R:Bl->World->List Value->α->Prop} {S:Bl} {v u:Value} {L:List α} {s:Mk.S} {w w':World} (hR:bI R) (h:MG W rb m sv l f f0 F B e k R S v L s w) (g:w.grownBy w' u.ownBlock) (h1:v.ownBlock=none∨v.ownBlock≠u.ownBlock) (h2:∀ b,u.ownBlock=some b->B<=b/\¬ S b):MG W rb m sv l f f0 F B e k R S v L s w' :=
 ⟨h.d.grown g λb hb=>(h2 b hb).1,h.g.other hR g h1 λb hb=>(h2 b hb).2,h.sb⟩
theorem Blk.mkj {m:Nat} {sv:Value} {l:List Int} {f:MF} {o:List Nat} {w W:World} {b:Nat} {c:Array Value} {t:TypeId} (h:Blk w b c t) (k:MkJ m sv l f o w W) (h1:b≠m) (h2:b ∉ o) (j:Nat):W.cell? ⟨b,j,none⟩=c[j]? :=
 (h.kept k.1 (by intro hm;rcases List.mem_cons.1 hm with hm | hm;exact h1 hm;exact h2 hm)).cell j
def uI {α:Type} (B k:Nat) (R:Bl->World->List Value->α->Prop) (v:Value) (r:List α) (Post:World->Prop) (w:World):Prop:=az k R (λb=>B<=b) w v r/\Post w
theorem uI.stays {α:Type} {B k:Nat} {R:Bl->World->List Value->α->Prop} {v:Value} {r:List α} {Post:World->Prop} (hR:bI R) (hP:aG Post):aG (uI B k R v r Post):=λw w' h k=>⟨h.1.mod hR k,hP _ _ h.2 k⟩
def Ci {α:Type} (B k:Nat) (R:Bl->World->List Value->α->Prop) (r:List α) (Post:World->Prop) (v:Value) (w:World):Prop:=(∃ (oh:Option Addr) (ch:Nat),v=.slice oh r.length ch)/\uI B k R v r Post w
theorem Ci.stays {α:Type} {B k:Nat} {R:Bl->World->List Value->α->Prop} {r:List α} {Post:World->Prop} (hR:bI R) (hP:aG Post) (v:Value):aG (Ci B k R r Post v):=λw w' h k=>⟨h.1,uI.stays hR hP _ _ h.2 k⟩
def rh {α:Type} (N B k:Nat) (R:Bl->World->List Value->α->Prop) (t:TypeId) (r:List α) (Post:World->Prop) (v:Value) (w:World):Prop:=∃ nb oh ch,v=.slice (some ⟨nb,0,none⟩) 1 1/\N<=nb/\Blk w nb #[.slice oh r.length ch] t/\uI B k R (.slice oh r.length ch) r Post w
theorem rh.stays {α:Type} {N B k:Nat} {R:Bl->World->List Value->α->Prop} {t:TypeId} {r:List α} {Post:World->Prop} (hR:bI R) (hP:aG Post) (v:Value):aG (rh N B k R t r Post v):=λw w' ⟨nb,oh,ch,h0,h1,h2,h3⟩ k=>⟨nb,oh,ch,h0,h1,h2.kept k zk,uI.stays hR hP _ _ h3 k⟩
theorem az.newer {α:Type} {k a b:Nat} {R:Bl->World->List Value->α->Prop} {v:Value} {r:List α} {w:World} (hk:0<k) (hW:bW R) (h:az k R (λx=>b<=x) w v r) (hab:a<=b):az k R (λx=>a<=x) w v r:=h.weak hk hW λx _ hx=>nT hab hx
theorem az.apart {α:Type} {B k m:Nat} {R:Bl->World->List Value->α->Prop} {v u:Value} {r:List α} {w:World} (hk:0<k) (hW:bW R) (h:az k R (λb=>B<=b) w v r) (hm:m<B) (hu:∀ b,u.ownBlock=some b->b<B):az k R (λb=>m<b/\u.ownBlock≠some b) w v r :=
 h.weak hk hW λb _ hb=>⟨by omega,λhe=>by have:=hu b he;omega⟩
theorem MD.Ez {W:World} {rb m:Nat} {sv:Value} {l:List Int} {f:MF} {F:aD} {B:Nat} {s s':Mk.S} {w w':World} {v':Value} {L:List ar} (h:MD W rb m sv l f f F B s w) (k:MK m sv l (f.eo v') s' w') (k2:Mod [m] w w') (hS:az 3 bc (λb=>w.heap.size<=b) w' v' L):MD W rb m sv l (f.eo v') (f.eo v') { F with lookups:=L } w'.heap.size s' w':=by
 have h1:=h.call k k2;have h2:=h1.up h1.ord.2.2.2 (nR _);have h3:=h.ord;have r:=h2.rows;exact ⟨h2.mkr,h2.mod,h2.res,⟨r.gl,r.ch,hS.weak zd bc.weak λb h5 h6=>⟨by omega,h5⟩,r.ft,r.ax,r.rg,r.fn,r.cv,r.cg,r.cf⟩,h2.ord⟩
structure gt (W:World) (rb m:Nat) (sv:Value) (l:List Int) (f f0:MF) (F:aD) (B:Nat) (vr:Value) (L:List aA) (C0:Nat) (vt:Value) (T:List Int) (s:Mk.S) (w:World):Prop where
 g:MG W rb m sv l f f0 F B 88 2 aU (λb=>m<b/\b<C0) vr L s w
 gr:aH C0 3 1 aF (λ_=>False) vt T w
 sz:C0<=w.heap.size
 lt:B<=C0/\∀ b,vr.ownBlock=some b->b<C0
section
variable {W:World} {rb m:Nat} {sv:Value} {l:List Int} {f f0:MF} {F:aD} {B:Nat} {vr:Value} {L:List aA} {C0:Nat} {vt vt':Value} {T:List Int} {s s':Mk.S} {w w':World}
theorem gt.start (h:MG W rb m sv l f f0 F B 88 2 aU (λb=>m<b) vr L s w):gt W rb m sv l f f0 F B vr L w.heap.size ae [] s w :=
 ⟨h.weak aU.weak (λb h1 h2=>⟨h2,h1⟩) λb hb=>hb.1,aH.nil,nR _,⟨h.d.ord.2.2.2,λb hb=>(h.g.lt b hb).2⟩⟩
theorem gt.stays:aG (gt W rb m sv l f f0 F B vr L C0 vt T s):=λw w' h k=>⟨MG.stays aU.stay _ _ h.g k,h.gr.mod aF.stay k,nT h.sz k.size,h.lt⟩
theorem gt.call (h:gt W rb m sv l f f0 F B vr L C0 vt T s w) (k1:MK m sv l f s' w') (k2:Mod [m] w w'):gt W rb m sv l f f0 F B vr L C0 vt T s' w':=by
 have h1:=h.g.d.ord;have h2:=h.lt;exact ⟨h.g.call aU.stay k1 k2,h.gr.gW aF.stay k2 zqa (λ_ h=>h.elim),nT h.sz k2.size,h.lt⟩
theorem gt.push {x:Int} (h:gt W rb m sv l f f0 F B vr L C0 vt T s w) (hG:aH C0 3 1 aF (λ_=>False) vt' (T++[x]) w') (k:w.grownBy w' vt.ownBlock):gt W rb m sv l f f0 F B vr L C0 vt' (T++[x]) s w':=by
 have h2:=h.lt;have h3:=h.gr.lt;exact ⟨h.g.other aU.stay k (h.g.g.ne h.gr zd) λb hb=>⟨by have:=(h3 b hb).1;omega,λhs=>by have:=(h3 b hb).1;omega⟩,hG,nT h.sz k.size,h.lt⟩
theorem gt.fin (h:gt W rb m sv l f f0 F B vr L C0 vt T s w):MG W rb m sv l f f0 F B 88 2 aU (λb=>m<b) vr L s w:=h.g.weak aU.weak (λb _ hb=>hb.1) λb hb=>hb
theorem gt.one (nm:ByteArray) (h:gt W rb m sv l f f0 F B vr L C0 vt T s w):∀ u∈[[Value.string nm,vt]].flatten,u.oneCell'=true:=by
 intro u hu;simp only [List.flatten_cons,List.flatten_nil,List.append_nil,List.mem_cons,List.not_mem_nil,or_false] at hu;obtain ⟨oa,c,he⟩:=h.gr.form;rcases hu with rfl | rfl
 ·rfl
 ·rw [he];rfl
theorem gt.elem {nm:ByteArray} (hn:nm.size<=maxLen) (h:gt W rb m sv l f f0 F B vr L C0 vt T s w):aP 2 aU (λb=>m<b/\vr.ownBlock≠some b) w [[.string nm,vt]] [⟨nm,T⟩]:=by
 have h1:=h.g.d.ord;have h2:=h.lt;refine aP.one rfl ⟨vt,rfl,hn,h.gr.done zd aF.weak (λ_ _ h=>h.elim) λb hb=>⟨by have:=(h.gr.lt b hb).1;omega,λhe=>?_⟩⟩;have h3:=h2.2 b he;have h4:=(h.gr.lt b hb).1;omega
end
theorem MD.rG {W:World} {rb m:Nat} {sv:Value} {l:List Int} {f f0:MF} {F:aD} {B:Nat} {s:Mk.S} {w w':World} (_h:MD W rb m sv l f f0 F B s w) {b:Nat} {c:Array Value} {t:TypeId} (hb:Blk w b c t) (hm:b≠m) (k2:Mod [m] w w'):Blk w' b c t:=hb.kept k2 zqq
structure eV (W:World) (rb m:Nat) (sv:Value) (l:List Int) (f f0:MF) (F:aD) (B:Nat) (vr:Value) (L:List bv) (gb C0:Nat) (vt:Value) (T:List gv) (s:Mk.S) (w:World):Prop where
 g:MG W rb m sv l f f0 F B 79 1 aY (λb=>m<b/\b<gb) vr L s w
 blk:Blk w gb #[vt] 79
 gr:aH C0 81 3 fI (λ_=>False) vt T w
 lt:B<=gb/\gb<C0/\∀ b,vr.ownBlock=some b->b<gb
section
variable {W:World} {rb m:Nat} {sv:Value} {l:List Int} {f f0:MF} {F:aD} {B:Nat} {vr:Value} {L:List bv} {gb C0:Nat} {vt vt':Value} {T:List gv} {s s':Mk.S} {w w':World}
theorem eV.start (h:MG W rb m sv l f f0 F B 79 1 aY (λb=>m<b) vr L s w):eV W rb m sv l f f0 F B vr L w.heap.size (w.heap.size+1) ae [] s (w.alloc (.cells #[ae] 79)):=by
 have al:Mod [] w (w.alloc (.cells #[ae] 79)):=mR.alloc _;exact ⟨MG.stays aY.stay _ _ (h.weak aY.weak (λb h1 h2=>⟨h2,h1⟩) λb hb=>hb.1) al,Blk.new _ _ _,aH.nil,⟨h.d.ord.2.2.2,Nat.lt_succ_self _,λb hb=>(h.g.lt b hb).2⟩⟩
theorem eV.stays:aG (eV W rb m sv l f f0 F B vr L gb C0 vt T s):=λw w' h k=>⟨MG.stays aY.stay _ _ h.g k,h.blk.kept k zk,h.gr.mod fI.stay k,h.lt⟩
theorem eV.call (h:eV W rb m sv l f f0 F B vr L gb C0 vt T s w) (k1:MK m sv l f s' w') (k2:Mod [m] w w'):eV W rb m sv l f f0 F B vr L gb C0 vt T s' w':=by
 have h1:=h.g.d.ord;have h2:=h.lt;exact ⟨h.g.call aY.stay k1 k2,h.blk.kept k2 zqa,h.gr.gW fI.stay k2 zqa (λ_ h=>h.elim),h.lt⟩
theorem eV.push {x:gv} (h:eV W rb m sv l f f0 F B vr L gb C0 vt T s w) (hG:aH C0 81 3 fI (λ_=>False) vt' (T++[x]) w') (k:w.grownBy w' vt.ownBlock):MG W rb m sv l f f0 F B 79 1 aY (λb=>m<b/\b<gb) vr L s w'/\Blk w' gb #[vt] 79:=by
 have h1:=h.g.d.ord;have h2:=h.lt;have h3:=h.gr.lt;exact ⟨h.g.other aY.stay k (h.g.g.ne h.gr zd) λb hb=>⟨by have:=(h3 b hb).1;omega,λhs=>by have:=(h3 b hb).1;omega⟩,h.blk.grew k λhb=>by have:=(h3 _ hb).1;omega⟩
theorem eV.store (h:MG W rb m sv l f f0 F B 79 1 aY (λb=>m<b/\b<gb) vr L s w/\Blk w gb #[vt] 79) (hG:aH C0 81 3 fI (λ_=>False) vt' T w) (hl:B<=gb/\gb<C0/\∀ b,vr.ownBlock=some b->b<gb):eV W rb m sv l f f0 F B vr L gb C0 vt' T s (w.setCell ⟨gb,0,none⟩ vt') :=
 ⟨h.1.set aY.stay (p:=⟨gb,0,none⟩) hl.1 (λhe=>Nat.lt_irrefl _ (hl.2.2 _ he)) (λhs=>Nat.lt_irrefl _ hs.2) vt',h.2.set 0 vt',hG.set fI.stay (λhe=>by have:C0<=gb:=(hG.lt _ he).1;omega) (λh=>h) vt',hl⟩
theorem eV.fin (h:eV W rb m sv l f f0 F B vr L gb C0 vt T s w):MG W rb m sv l f f0 F B 79 1 aY (λb=>m<b) vr L s w:=h.g.weak aY.weak (λb _ hb=>hb.1) λb hb=>hb
theorem eV.one (h:eV W rb m sv l f f0 F B vr L gb C0 vt T s w):∀ u∈[[vt]].flatten,u.oneCell'=true:=by
 intro u hu;simp only [List.flatten_cons,List.flatten_nil,List.append_nil,List.mem_cons,List.not_mem_nil,or_false] at hu;obtain ⟨oa,c,he⟩:=h.gr.form;subst hu;rw [he];rfl
theorem eV.elem (h:eV W rb m sv l f f0 F B vr L gb C0 vt T s w):aP 1 aY (λb=>m<b/\vr.ownBlock≠some b) w [[vt]] [⟨T⟩]:=by
 have h1:=h.g.d.ord;have h2:=h.lt;refine aP.one rfl ⟨vt,rfl,h.gr.done zd fI.weak (λ_ _ h=>h.elim) λb hb=>⟨by have:=(h.gr.lt b hb).1;omega,λhe=>?_⟩⟩;have h3:=h2.2.2 b he;have h4:=(h.gr.lt b hb).1;omega
end
def axF:Nat->List bB->Mk.M (List bB):=λi l s=>Mk.bind (Mk.next 3 s) λa s=>Mk.bind (Mk.next 4 s) λb s=>(l++[⟨(⟨#[97,120]⟩:ByteArray)++Mk.letter i,0 - a*100,0,b*100⟩],s)
theorem Mk.ll (k:Nat) (s:Mk.S):Mk.axes k s=Mk.rep k axF [] s:=rfl
theorem BS {S:Bl} {w:World} {n:ByteArray} {a b:Int} (hn:n.size<=maxLen) (ha:0<=a/\a<3) (hb:0<=b/\b<4):bX S w [.string n,.int .i64 (-(a*100)),.int .i64 0,.int .i64 (b*100)] ⟨n,-(a*100),0,b*100⟩ :=
 ⟨rfl,hn,I64.of (x:=-(a*100)) zo zo,I64.of (x:=0) zo zo,I64.of (x:=b*100) zo zo⟩
def qU:Array Value:=#[.int .i64 1000,.int .i64 1024,.int .i64 100,.int .i64 2048]
theorem xC (Q:Nat) (h:Q<4):qU[Q]?=some (.int .i64 (Mk.units.getD Q 0)):=by
 match Q,h with
 | 0,_=>rfl
 | 1,_=>rfl
 | 2,_=>rfl
 | 3,_=>rfl
def tnF:Nat->List gv->Mk.M (List gv):=λ_ l s=>Mk.bind (Mk.next 5 s) λt s=>(l++[Mk.tents.getD t.toNat ⟨0,0,0⟩],s)
def rgF (k:Nat):Nat->List bv->Mk.M (List bv):=λ_ l s=>Mk.bind (Mk.region k s) λx s=>(l++[x],s)
def nQ:Array Value:=#[.int .i64 0,.int .i64 64,.int .i64 64,.int .i64 0,.int .i64 32,.int .i64 64,.int .i64 (-64),.int .i64 (-64),.int .i64 0,.int .i64 (-1),.int .i64 0,.int .i64 5,.int .i64 10,.int .i64 32,.int .i64 50]
def mC (Q:Nat):gv:=Mk.tents.getD Q ⟨0,0,0⟩
theorem xF (Q:Nat) (h:Q<5):nQ[Q*3]?=some (.int .i64 (mC Q).start)/\nQ[Q*3+1]?=some (.int .i64 (mC Q).peak)/\nQ[Q*3+2]?=some (.int .i64 (mC Q).stop)/\I64 (mC Q).start/\I64 (mC Q).peak/\I64 (mC Q).stop:=by
 match Q,h with
 | 0,_=>exact ⟨rfl,rfl,rfl,I64.of zd zd,I64.of zd zd,I64.of zd zd⟩
 | 1,_=>exact ⟨rfl,rfl,rfl,I64.of zd zd,I64.of zd zd,I64.of zd zd⟩
 | 2,_=>exact ⟨rfl,rfl,rfl,I64.of zd zd,I64.of zd zd,I64.of zd zd⟩
 | 3,_=>exact ⟨rfl,rfl,rfl,I64.of zd zd,I64.of zd zd,I64.of zd zd⟩
 | 4,_=>exact ⟨rfl,rfl,rfl,I64.of zd zd,I64.of zd zd,I64.of zd zd⟩
def fnF:Nat->List (List bS)->Mk.M (List (List bS)):=λi l s=>Mk.bind (Mk.hint 6 i 4 ⟨s.r,0⟩) λh s=>(l++[h],s)
def cvF:Nat->List Int->Mk.M (List Int):=λ_ l s=>Mk.bind (Mk.next 500 s) λx s=>(l++[x - 100],s)
def glF (nr nf:Nat):Nat->List av->Mk.M (List av):=λi l s=>Mk.bind (Mk.glyph i nr nf s) λg s=>(l++[g],s)
theorem dG {α:Type} {f:Nat->List α->Mk.M (List α)} (hf:∀ i L s,(f i L s).1.length=L.length+1) (n:Nat) (s:Mk.S):(Mk.rep n f [] s).1.length=n :=
 Mk.bH (f:=f) (λi L=>L.length=i) rfl λi L s _ h=>by rw [hf,h]
theorem t7 (k:Nat) (s:Mk.S):(Mk.regions k s).1.length<=20:=by
 unfold Mk.regions
 split
 ·have h1:=Mk.gg 4 s zd;have h2:=dG (f:=rgF k) (λ_ _ _=>List.length_append) (Mk.next 4 s).1.toNat (Mk.next 4 s).2;have h3:((Mk.bind (Mk.next 4 s) λn s=>Mk.rep n.toNat (rgF k) [] s).1).length=(Mk.next 4 s).1.toNat:=h2;refine nT (Nat.le_of_eq h3) ?_;omega
 ·exact Nat.zero_le _
def chF (n:Nat):Nat->List dc->Mk.M (List dc):=λi l s=>Mk.bind (Mk.next 4 s) λz s=>if 0<z then Mk.bind (Mk.next n s) λg s=>(l++[⟨Mk.runes.getD i 0,g⟩],s) else (l,s)
def ftR:Nat->List Int->Mk.M (List Int):=λk row s=>Mk.bind (Mk.next 3 s) λz s=>(if z=0 then row++[(k:Int)] else row,s)
def ftF (n:Nat):Nat->List aA->Mk.M (List aA):=λi l s=>Mk.bind (Mk.rep n ftR [] s) λrow s=>Mk.bind (Mk.next 2 s) λz s=>(if z=0 then l++[⟨Mk.names.getD i ByteArray.empty,row⟩] else l,s)
def lS:Array Value:=#[.int .i64 97,.int .i64 98,.int .i64 99,.int .i64 102,.int .i64 105,.int .i64 108,.int .i64 57345,.int .i64 57346,.int .i64 57601,.int .i64 57602,.int .i64 57603,.int .i64 57857,.int .i64 57861,.int .i64 58113,.int .i64 58114,.int .i64 58369]
theorem xV:∀ (i:Nat),i<16->lS[i]?=some (.int .i64 (Mk.runes.getD i 0))/\I64 (Mk.runes.getD i 0)
 | 0,_=>⟨rfl,I64.of zd zd⟩
 | 1,_=>⟨rfl,I64.of zd zd⟩
 | 2,_=>⟨rfl,I64.of zd zd⟩
 | 3,_=>⟨rfl,I64.of zd zd⟩
 | 4,_=>⟨rfl,I64.of zd zd⟩
 | 5,_=>⟨rfl,I64.of zd zd⟩
 | 6,_=>⟨rfl,I64.of zd zd⟩
 | 7,_=>⟨rfl,I64.of zd zd⟩
 | 8,_=>⟨rfl,I64.of zd zd⟩
 | 9,_=>⟨rfl,I64.of zd zd⟩
 | 10,_=>⟨rfl,I64.of zd zd⟩
 | 11,_=>⟨rfl,I64.of zd zd⟩
 | 12,_=>⟨rfl,I64.of zd zd⟩
 | 13,_=>⟨rfl,I64.of zd zd⟩
 | 14,_=>⟨rfl,I64.of zd zd⟩
 | 15,_=>⟨rfl,I64.of zd zd⟩
 | n+16,h=>by omega
def iR:Array Value:=(Mk.names.map Value.string).toArray
theorem yG:∀ (i:Nat),i<8->iR[i]?=some (.string (Mk.names.getD i ByteArray.empty))/\(Mk.names.getD i ByteArray.empty).size<=maxLen
 | 0,_=>⟨rfl,by decide⟩
 | 1,_=>⟨rfl,by decide⟩
 | 2,_=>⟨rfl,by decide⟩
 | 3,_=>⟨rfl,by decide⟩
 | 4,_=>⟨rfl,by decide⟩
 | 5,_=>⟨rfl,by decide⟩
 | 6,_=>⟨rfl,by decide⟩
 | 7,_=>⟨rfl,by decide⟩
 | n+8,h=>by omega
theorem xU (w:World):Calls Tryz.prog 22 #[] w λe w'=>∃ b,e=.returned (.slice (some ⟨b,0,none⟩) 16 16)/\w.heap.size<=b/\Blk w' b lS 3/\Mod [] w w':=by
 go_enter Tryz.func22,Tryz.ntmps22;go_wp2;go_ret;exact ⟨_,rfl,nR _,Blk.new _ _ _,mR.alloc _⟩
theorem yF (w:World):Calls Tryz.prog 24 #[] w λe w'=>∃ b,e=.returned (.slice (some ⟨b,0,none⟩) 8 8)/\w.heap.size<=b/\Blk w' b iR 9/\Mod [] w w':=by
 go_enter Tryz.func24,Tryz.ntmps24;go_wp2;go_ret;exact ⟨_,rfl,nR _,Blk.new _ _ _,mR.alloc _⟩
theorem mQ (n:Nat) (s:Mk.S):(Mk.lookups n s).1.length<=100:=by
 obtain ⟨k,s1,h1⟩:∃ a b,Mk.next 7 s=(a,b):=⟨_,_,rfl⟩
 obtain ⟨⟨D,C⟩,s2,h2⟩:∃ a b,Mk.rep k.toNat lk1F ([],[]) s1=(a,b):=⟨_,_,rfl⟩
 rw [Mk.jA h1 h2];have i1:=ay zd h1;have h3:=nC k.toNat s1;rw [h2] at h3;have h4:D.length=k.toNat:=h3.1;have h5:=Mk.bH (f:=lk2F n D C) (a:=[]) (s:=s2) (n:=D.length) (λi (r:List ar)=>r.length<=i) (nR _) λi r s _ h=>by
  unfold lk2F
  split
  ·exact Nat.le_succ_of_le h
  ·split
   ·simp;exact h
   ·show (r++[_]).length<=i+1;simp;exact h
 omega
theorem ry {l:List Int} {U KA KF KC KG:Nat} {kg:Int} {s1 s2 s3 s4 s5 s6 s7 s8 s9 s10 s11 s12 s13:Mk.S} {AX:List bB} {RG:List bv} {FN:List (List bS)} {CV:List Int} {GL:List av} {CH:List dc} {LK:List ar} {FT:List aA}
  (h1:Mk.next 4 ⟨l,0⟩=((U:Int),s1)) (h2:Mk.next 3 s1=((KA:Int),s2)) (h3:Mk.rep KA axF [] s2=(AX,s3)) (h4:Mk.regions KA s3=(RG,s4)) (h5:Mk.next 3 s4=((KF:Int),s5)) (h6:Mk.rep KF fnF [] s5=(FN,s6)) (h7:Mk.next 4 s6=((KC:Int),s7)) (h8:Mk.rep KC cvF [] s7=(CV,s8))
  (h9:Mk.next 9 s8=(kg,s9)) (hKG:2+kg=(KG:Int)) (h10:Mk.rep KG (glF RG.length FN.length) [] s9=(GL,s10)) (h11:Mk.rep 16 (chF KG) [] s10=(CH,s11)) (h12:Mk.lookups KG s11=(LK,s12)) (h13:Mk.rep 8 (ftF LK.length) [] s12=(FT,s13)) :
  Mk.made l=⟨Mk.units.getD U 0,GL,CH,LK,FT,AX,RG,FN,CV⟩:=by
 have hgl:GL.length=KG:=by
  have a1:=dG (f:=glF RG.length FN.length) (λ_ _ _=>List.length_append) KG s9;rw [h10] at a1;exact a1
 subst hgl
 show (Mk.bind (Mk.next 4 ⟨l,0⟩) λu s=>Mk.bind (Mk.next 3 s) λk s=>Mk.bind (Mk.rep k.toNat axF [] s) λax s=>Mk.bind (Mk.regions k.toNat s) λrg s=>Mk.bind (Mk.next 3 s) λkf s=>Mk.bind (Mk.rep kf.toNat fnF [] s) λfn s =>
  Mk.bind (Mk.next 4 s) λkc s=>Mk.bind (Mk.rep kc.toNat cvF [] s) λcv s=>Mk.bind (Mk.next 9 s) λkg s=>Mk.bind (Mk.rep (2+kg).toNat (glF rg.length fn.length) [] s) λgl s =>
  Mk.bind (Mk.rep 16 (chF gl.length) [] s) λch s=>Mk.bind (Mk.lookups gl.length s) λlk s=>Mk.bind (Mk.rep 8 (ftF lk.length) [] s) λft s=>((⟨Mk.units.getD u.toNat 0,gl,ch,lk,ft,ax,rg,fn,cv⟩,s):aD×Mk.S)).1=_
 rw [Mk.ai h1,Mk.ai h2,Int.toNat_natCast,Int.toNat_natCast,Mk.ai h3,Mk.ai h4,Mk.ai h5,Int.toNat_natCast,Mk.ai h6,Mk.ai h7,Int.toNat_natCast,Mk.ai h8,Mk.ai h9,hKG,Int.toNat_natCast,Mk.ai h10,Mk.ai h11,Mk.ai h12,Mk.ai h13]
theorem qf (Q:Nat):I64 (Mk.units.getD Q 0):=by
 match Q with
 | 0=>exact I64.of zd zd
 | 1=>exact I64.of zd zd
 | 2=>exact I64.of zd zd
 | 3=>exact I64.of zd zd
 | n+4=>exact I64.of (x:=0) zd zd
set_option maxHeartbeats 8000000
theorem Ct {w:World} {rb m:Nat} {sv:Value} {l:List Int} {unit:Int} {KA B1:Nat} {AX:List bB} {s2 s3:Mk.S} {w4:World} {x0 x1 x6 x7 x8 x9 x10 x11 x12 x13 x14 x15 x16 x17 x18 x19 x20 x21 x22 x23 x24 x25 x26 x27 x28 x29 x30 x31 x32 x33 x34 x35 x36 x37 x38 x39 x40 x41 x42 x43 x44 x45 x46 x47 x48 x49 x50 x51 x52 x53 x54 x55 x56 x57 x58 x59 x60 x61 x62 x63 x64 x65 x66 x67 x68 x69 x70 x71 x72 x73 x74 x75 x76 x77 x78 x79 x80 x81 x82 x83 x84 x85 x86 x87 x88 x89 x90 x91 x92 x93 x94 x95 x96 x97 x98 x99 x100 x101 x102 x103 x104 x105 x106 x107 x108 x109 x110 x111 x112 x113 x114 x115 x116 x117 x118 x119 x120 x121 x122 x123 x124 x125 x126 x127 x128 x129 x130 x131 x132 x133 x134 x135 x136 x137 x138 x139 x140 x141 x142 x143 x144 x145 x146 x147 x148 x149 x150 x151 x152 x153 x154 x155 x156 x157 x158 x159 x160 x161 x162 x163 x164 x165 x166 x167 x168 x169 x170 x171 x172 x173 x174 x175 x176 x177 x178 x179 x180 x181 x182 x183 x184 x185 x186 x187 x188 x189 x190 x191 x192 x193 x194 x195 x196 x197 x198 x199 x200 x201 x202 x203 x204 x205 x206 x207 x208 x209 x210 x211 x212 x213 x214 x215 x216 x217 x218 x219 x220 x221 x222 x223 x224 x225 x226 x227 x228 x229 x230 x231 x232 x233 x234 x235 x236 x237 x238 x239 x240 x241 x242 x243 x244 x245:Value}
  (H3:Hy (Mk.rep KA axF [] s2=(AX,s3)))
  (HKA:Hy (KA<3))
  (HG0:Hy (MG w rb m sv l (MF.mk (.int .i64 unit) ae ae ae ae ae ae ae ae) (MF.mk (.int .i64 unit) ae ae ae ae ae ae ae ae) (aD.mk unit [] [] [] [] [] [] [] []) B1 76 4 bX (λ_=>False) (.slice none 0 0) ([]:List bB) s2 w4))
  {J K':Act->World->Prop} {Q':Exit->Act->World->Prop}
  (h1:∀ (a':Act) (w':World),(∃ u5 u6 u34 u35 u36 u37 u38 u39 u40 u41 u42 u43 u44 u45 u46 u47 u48 u49 u50 u51 u52 u53 u54 u55 u56 u57 u58 u59 u60 u61 u62 u63 u64 u65 u66 u67 u68 u69 u70 u71 u72 u73 u74 u75 u76 u77 u78 u79 u80 u81 u82 u83 u84 u85 u86 u87 u88 u89 u90 u91 u92 u93 u94 u95 u96 u97 u98 u99 u100 u101 u102 u103 u104 u105 u106 u107 u108 u109 u110 u111 u112 u113 u114 u115 u116 u117 u118 u119 u120 u121 u122 u123 u124 u125 u126 u127 u128 u129 u130 u131 u132 u133 u134 u135 u136 u137 u138 u139 u140 u141 u142 u143 u144 u145 u146 u147 u148 u149 u150 u151 u152 u153 u154 u155 u156 u157 u158 u159 u160 u161 u162 u163 u164 u165 u166 u167 u168 u169 u170 u171 u172 u173 u174 u175 u176 u177 u178 u179 u180 u181 u182 u183 u184 u185 u186 u187 u188 u189 u190 u191 u192 u193 u194 u195 u196 u197 u198 u199 u200 u201 u202 u203 u204 u205 u206 u207 u208 u209 u210 u211 u212 u213 u214 u215 u216 u217 u218 u219 u220 u221 u222 u223 u224 u225 u226 u227 u228 u229 u230 u231 u232 u233 u234 u235 u236 u237 u238 u239 u240 u241 u242 u243 u244 u245:Value,(∃ (oa:Option Addr) (ca:Nat),Hy (MD w rb m sv l (MF.mk (.int .i64 unit) ae ae ae ae (.slice oa AX.length ca) ae ae ae) (MF.mk (.int .i64 unit) ae ae ae ae (.slice oa AX.length ca) ae ae ae) (aD.mk unit [] [] [] [] AX [] [] []) w'.heap.size s3 w'))/\a'={ tmps:=(x0::x1::.pointer (some ⟨rb,0,none⟩)::.pointer (some ⟨m,0,none⟩)::.int .i64 (KA:Int)::u5::u6::x7::x8::x9::x10::x11::x12::x13::x14::x15::x16::x17::x18::x19::x20::x21::x22::x23::x24::x25::x26::x27::x28::x29::x30::x31::x32::x33::u34::u35::u36::u37::u38::u39::u40::u41::u42::u43::u44::u45::u46::u47::u48::u49::u50::u51::u52::u53::u54::u55::u56::u57::u58::u59::u60::u61::u62::u63::u64::u65::u66::u67::u68::u69::u70::u71::u72::u73::u74::u75::u76::u77::u78::u79::u80::u81::u82::u83::u84::u85::u86::u87::u88::u89::u90::u91::u92::u93::u94::u95::u96::u97::u98::u99::u100::u101::u102::u103::u104::u105::u106::u107::u108::u109::u110::u111::u112::u113::u114::u115::u116::u117::u118::u119::u120::u121::u122::u123::u124::u125::u126::u127::u128::u129::u130::u131::u132::u133::u134::u135::u136::u137::u138::u139::u140::u141::u142::u143::u144::u145::u146::u147::u148::u149::u150::u151::u152::u153::u154::u155::u156::u157::u158::u159::u160::u161::u162::u163::u164::u165::u166::u167::u168::u169::u170::u171::u172::u173::u174::u175::u176::u177::u178::u179::u180::u181::u182::u183::u184::u185::u186::u187::u188::u189::u190::u191::u192::u193::u194::u195::u196::u197::u198::u199::u200::u201::u202::u203::u204::u205::u206::u207::u208::u209::u210::u211::u212::u213::u214::u215::u216::u217::u218::u219::u220::u221::u222::u223::u224::u225::u226::u227::u228::u229::u230::u231::u232::u233::u234::u235::u236::u237::u238::u239::u240::u241::u242::u243::u244::u245::[]).toArray,defers:=[] })->J a' w')
  (h2:∀ (a':Act) (w':World),Met J a' w'->K' a' w') :
  Code.wp Tryz.prog ((iW 0 ((Tryz.f7).body.getD .skip)).getD .skip) (Exit.then K' Q') { tmps:=(x0::x1::.pointer (some ⟨rb,0,none⟩)::.pointer (some ⟨m,0,none⟩)::.int .i64 (KA:Int)::.int .i64 0::x6::x7::x8::x9::x10::x11::x12::x13::x14::x15::x16::x17::x18::x19::x20::x21::x22::x23::x24::x25::x26::x27::x28::x29::x30::x31::x32::x33::x34::x35::x36::x37::x38::x39::x40::x41::x42::x43::x44::x45::x46::x47::x48::x49::x50::x51::x52::x53::x54::x55::x56::x57::x58::x59::x60::x61::x62::x63::x64::x65::x66::x67::x68::x69::x70::x71::x72::x73::x74::x75::x76::x77::x78::x79::x80::x81::x82::x83::x84::x85::x86::x87::x88::x89::x90::x91::x92::x93::x94::x95::x96::x97::x98::x99::x100::x101::x102::x103::x104::x105::x106::x107::x108::x109::x110::x111::x112::x113::x114::x115::x116::x117::x118::x119::x120::x121::x122::x123::x124::x125::x126::x127::x128::x129::x130::x131::x132::x133::x134::x135::x136::x137::x138::x139::x140::x141::x142::x143::x144::x145::x146::x147::x148::x149::x150::x151::x152::x153::x154::x155::x156::x157::x158::x159::x160::x161::x162::x163::x164::x165::x166::x167::x168::x169::x170::x171::x172::x173::x174::x175::x176::x177::x178::x179::x180::x181::x182::x183::x184::x185::x186::x187::x188::x189::x190::x191::x192::x193::x194::x195::x196::x197::x198::x199::x200::x201::x202::x203::x204::x205::x206::x207::x208::x209::x210::x211::x212::x213::x214::x215::x216::x217::x218::x219::x220::x221::x222::x223::x224::x225::x226::x227::x228::x229::x230::x231::x232::x233::x234::x235::x236::x237::x238::x239::x240::x241::x242::x243::x244::x245::[]).toArray,defers:=[] } w4:=by
 have CN:=Hi (λf st x st' n h1 h2 e=>bF m sv l f st n h1 h2 (r:=x) (s':=st') e);obtain ⟨xq0,xqi,xqz0,xqz1,xqz2⟩:=info_parts tu
 conv=>arg 2;whnf
 go_wp2_with fail
 go_loopg [5,6] KA (λgk v5 v6 wr=>∃ (i:Nat) (L:List bB) (st:Mk.S) (oa:Option Addr) (ca:Nat),v5=.int .i64 (i:Int)/\Hy (i+gk=KA)/\Hy (Mk.rep i axF [] s2=(L,st))/\Hy (L.length=i)/\Hy (MG w rb m sv l (MF.mk (.int .i64 unit) ae ae ae ae (.slice oa L.length ca) ae ae ae) (MF.mk (.int .i64 unit) ae ae ae ae ae ae ae ae) (aD.mk unit [] [] [] [] [] [] [] []) B1 76 4 bX (λ_=>False) (.slice oa L.length ca) L st wr))
 case atStart=>exact ⟨0,[],s2,none,0,rfl,by show 0+KA=KA;omega,rfl,rfl,HG0.o⟩
 case round =>
  obtain ⟨i,L,st,oa,ca,rfl,hi5,HR,HL,HS⟩:=hrel;clear HG0
  by_cases hin:i<KA
  case neg =>
   obtain rfl:i=KA:=by have:=hi5.o;omega
   have k1:=dF (p:=(i:Int)<i) zo;obtain ⟨rfl,rfl⟩:L=AX/\st=s3:=by have h9:=H3.o;rw [HR.o] at h9;simpa using h9
   go_wp2;go_meet
   case rel=>exact ⟨oa,ca,MG.Ea (f0:=(MF.mk (.int .i64 unit) ae ae ae ae ae ae ae ae)) (F:=(aD.mk unit [] [] [] [] [] [] [] [])) HS.o⟩
  have k1:=dT (p:=(i:Int)<KA) zo;have k2:(i:Int)<KA:=zo;have hi3:i<3:=by have:=HKA.o;omega
  have ei:IntKind.i64.wrap ((i:Int)+1)=(i:Int)+1:=wrapi zo zo;obtain ⟨a,t1,ha⟩:∃ a b,Mk.next 3 st=(a,b):=⟨_,_,rfl⟩
  obtain ⟨b,t2,hb⟩:∃ a b,Mk.next 4 t1=(a,b):=⟨_,_,rfl⟩
  have ia:=ay zd ha;have ib:=ay zd hb;have a1:IntKind.i64.wrap (a*100)=a*100:=wrapi zo zo;have a2:wrap64 (-(a*100))=-(a*100):=IntWalk.wrap64_in _ ⟨by omega,by omega⟩;have a3:IntKind.i64.wrap (-(a*100))=-(a*100):=wrapi zo zo;have b1:IntKind.i64.wrap (b*100)=b*100:=wrapi zo zo;have n1:IntKind.i64.wrap (97+(i:Int))=97+(i:Int):=wrapi zo zo;have n2:IntKind.u8.wrap (97+(i:Int))=97+(i:Int):=by rw [IntKind.wrap_u8];omega
  have CA:=Hi (CN.o (MF.mk (.int .i64 unit) ae ae ae ae (.slice oa L.length ca) ae ae ae) st a t1 3 zd zd ha);have CB:=Hi (CN.o (MF.mk (.int .i64 unit) ae ae ae ae (.slice oa L.length ca) ae ae ae) t1 b t2 4 zd zd hb);have HX:Hy (axF i L st=(L++[⟨(⟨#[97,120]⟩:ByteArray)++Mk.letter i,-(a*100),0,b*100⟩],t2)):=by unfold axF;rw [Mk.ai ha,Mk.ai hb,Int.zero_sub];exact rfl
  have HIA:=Hi ia;have HIB:=Hi ib;have HIN:=Hi hin;have HI3:=Hi hi3;have HWR:Hy (m<wr.heap.size):=by have:=HS.o.d.mkr.blk.lt;exact this
  have HIK:∀ w' w'':World,Mod [m] wr w'->Mod [] w' w''->Mod [m] wr w'':=λ_ _ h k=>h.then (k.more zk)
  clear ha hb ia ib hin hi3;go_upto_region 7 with fail;refine Sa.jH (I:=Mod [m] wr) (J:=Mod [m]) (F0:=MG w rb m sv l (MF.mk (.int .i64 unit) ae ae ae ae (.slice oa L.length ca) ae ae ae) (MF.mk (.int .i64 unit) ae ae ae ae ae ae ae ae) (aD.mk unit [] [] [] [] [] [] [] []) B1 76 4 bX (λ_=>False) (.slice oa L.length ca) L st) HIK (λ_ _ k=>k.more zk) 15 [(0,Sa.Tok.v),(1,Sa.Tok.v),(2,Sa.Tok.v),(6,Sa.Tok.v),(7,Sa.Tok.x (MG w rb m sv l (MF.mk (.int .i64 unit) ae ae ae ae (.slice oa L.length ca) ae ae ae) (MF.mk (.int .i64 unit) ae ae ae ae ae ae ae ae) (aD.mk unit [] [] [] [] [] [] [] []) B1 76 4 bX (λ_=>False) (.slice oa L.length ca) L t1)),(8,Sa.Tok.v),(9,Sa.Tok.v),(10,Sa.Tok.v),(11,Sa.Tok.x (MG w rb m sv l (MF.mk (.int .i64 unit) ae ae ae ae (.slice oa L.length ca) ae ae ae) (MF.mk (.int .i64 unit) ae ae ae ae ae ae ae ae) (aD.mk unit [] [] [] [] [] [] [] []) B1 76 4 bX (λ_=>False) (.slice oa L.length ca) L t2)),(12,Sa.Tok.v),(3,Sa.Tok.al (λb=>.slice (some ⟨b,0,none⟩) 1 1) (λb w'=>wr.heap.size<=b/\Blk w' b #[.int .u8 (97+(i:Int))] 5)),(4,Sa.Tok.v),(5,Sa.Tok.v),(13,Sa.Tok.v),(14,Sa.Tok.al (λb=>.pointer (some ⟨b,0,none⟩)) (λb w'=>wr.heap.size<=b/\Blk w' b #[.string ByteArray.empty,.int .i64 0,.int .i64 0,.int .i64 0] 76))] [(0,0),(1,0),(2,0),(6,0),(7,1),(8,0),(9,0),(10,0),(11,1),(12,0),(3,2),(4,0),(5,0),(13,0),(14,2)] rfl zt zt ?hGd58 (mR.drew) (MG.stays bX.stay) (MG.stays bX.stay _ _ HS.o (mR.drew)) ?mainA58
  case hGd58 =>
   intro p hp;simp only [List.mem_cons,List.not_mem_nil,or_false] at hp;rcases hp with rfl | rfl | rfl | rfl | rfl | rfl | rfl | rfl | rfl | rfl | rfl | rfl | rfl | rfl | rfl <;> first | exact True.intro | exact (MG.stays bX.stay) | exact (λb w1 w2 h k=>⟨h.1,h.2.kept k (by have:=HWR.o;simp;omega)⟩)
  iterate 4 refine Sa.vv ?_
  refine Sa.pO (a':=?_) rfl zt (λw' hw' hF K Q hK=>?_) ?_ ?_;rotate_left
  ·go_wp2_with fail;refine (CA.o w' hF.d.mkr).mono ?_;rintro e w'' ⟨rfl,K',M'⟩;go_wp2;exact hK _ (hw'.then M') M' (hF.call bX.stay K' M')
  ·kernel_rfl
  iterate 3 refine Sa.vv ?_
  refine Sa.pO (a':=?_) rfl zt (λw' hw' hF K Q hK=>?_) ?_ ?_;rotate_left
  ·go_wp2_with fail;refine (CB.o w' hF.d.mkr).mono ?_;rintro e w'' ⟨rfl,K',M'⟩;go_wp2;exact hK _ (hw'.then M') M' (hF.call bX.stay K' M')
  ·kernel_rfl
  refine Sa.vv ?_;refine Sa.xz (f:=?_) rfl zt (λv=>by simp only [Act.put];(try simp only [List.setIfInBounds_toArray]);(try simp only [List.set_cons_succ,List.set_cons_zero]);exact rfl) (λw' hw' K Q hK=>?_) (λbA3=>?_)
  ·go_wp2;exact hK w'.heap.size _ (mR.alloc _) ⟨hw'.size,Blk.new _ _ _⟩
  refine Sa.qR (a':=?_) rfl zt (λw' hw' hG K Q hK=>?_) ?_ ?_;rotate_left
  ·have AC:=mS (n:=i) hG.2.2 (by have:=HI3.o;omega);go_wp2;exact hK _ mR
  ·kernel_rfl
  iterate 2 refine Sa.vv ?_
  refine Sa.xz (f:=?_) rfl zt (λv=>by simp only [Act.put];(try simp only [List.setIfInBounds_toArray]);(try simp only [List.set_cons_succ,List.set_cons_zero]);exact rfl) (λw' hw' K Q hK=>?_) (λbA14=>?_)
  ·go_wp2;exact hK w'.heap.size _ (mR.alloc _) ⟨hw'.size,Blk.new _ _ _⟩
  refine Sa.bJ ?_;intro w' hw' hF hG;simp only [qS,qZ];have HAO:Hy (B1<=bA14/\(Value.slice oa L.length ca).ownBlock≠some bA14/\bA14≠m/\bA14 ∉ (Value.slice oa L.length ca).ownBlock.toList):=by
   have h5:=HS.o.d.ord;have h6:=hG.2.1;have h7:=HWR.o;have h8:(Value.slice oa L.length ca).ownBlock≠some bA14:=λhe=>by have:=(HS.o.g.lt _ he).2;omega
   exact ⟨by omega,h8,by omega,λhm=>h8 zqq⟩
  have HAB:=Hi hG.2.2;have c0:=hG.2.2.cell 0;have c1:=hG.2.2.cell 1;have c2:=hG.2.2.cell 2;have c3:=hG.2.2.cell 3;have f0:=hG.2.2.frozen 0;have f1:=hG.2.2.frozen 1;have f2:=hG.2.2.frozen 2;have f3:=hG.2.2.frozen 3;have HS1:=Hi hF;generalize bA14=ab at *
  clear hF hG hw' CA CB HIK HS;go_upto_region 8 with fail;have XF:((((w'.setCell ⟨ab,0,none⟩ (.string ((⟨#[97,120]⟩:ByteArray)++Mk.letter i))).setCell ⟨ab,1,none⟩ (.int .i64 (-(a*100)))).setCell ⟨ab,2,none⟩ (.int .i64 0)).setCell ⟨ab,3,none⟩ (.int .i64 (b*100)))=ec w' (ab) (0) [.string ((⟨#[97,120]⟩:ByteArray)++Mk.letter i),.int .i64 (-(a*100)),.int .i64 0,.int .i64 (b*100)]:=rfl;rw [XF];clear XF;have HB2:Hy (Blk _ ab #[.string ((⟨#[97,120]⟩:ByteArray)++Mk.letter i),.int .i64 (-(a*100)),.int .i64 0,.int .i64 (b*100)] 76):=HAB.o.over [.string ((⟨#[97,120]⟩:ByteArray)++Mk.letter i),.int .i64 (-(a*100)),.int .i64 0,.int .i64 (b*100)] rfl;have HS2:=Hi (MG.ec bX.stay HAO.o.1 HAO.o.2.1 (λh=>h) [.string ((⟨#[97,120]⟩:ByteArray)++Mk.letter i),.int .i64 (-(a*100)),.int .i64 0,.int .i64 (b*100)] 0 w' HS1.o);clear c0 c1 c2 c3 f0 f1 f2 f3 HAB HS1;generalize ec w' ab 0 [.string ((⟨#[97,120]⟩:ByteArray)++Mk.letter i),.int .i64 (-(a*100)),.int .i64 0,.int .i64 (b*100)]=w5 at *
  have B7:∀ W,MkJ m sv l (MF.mk (.int .i64 unit) ae ae ae ae (.slice oa L.length ca) ae ae ae) (Value.slice oa L.length ca).ownBlock.toList w5 W->W.cell? ⟨m,7,none⟩=some (.slice oa L.length ca):=λW k=>k.2.elim λ_ h9=>h9.blk.cell 7
  have A0:∀ W,MkJ m sv l (MF.mk (.int .i64 unit) ae ae ae ae (.slice oa L.length ca) ae ae ae) (Value.slice oa L.length ca).ownBlock.toList w5 W->W.cell? ⟨ab,0,none⟩=some (.string ((⟨#[97,120]⟩:ByteArray)++Mk.letter i)):=λW k=>HB2.o.mkj k HAO.o.2.2.1 HAO.o.2.2.2 0
  have A1:∀ W,MkJ m sv l (MF.mk (.int .i64 unit) ae ae ae ae (.slice oa L.length ca) ae ae ae) (Value.slice oa L.length ca).ownBlock.toList w5 W->W.cell? ⟨ab,1,none⟩=some (.int .i64 (-(a*100))):=λW k=>HB2.o.mkj k HAO.o.2.2.1 HAO.o.2.2.2 1
  have A2:∀ W,MkJ m sv l (MF.mk (.int .i64 unit) ae ae ae ae (.slice oa L.length ca) ae ae ae) (Value.slice oa L.length ca).ownBlock.toList w5 W->W.cell? ⟨ab,2,none⟩=some (.int .i64 0):=λW k=>HB2.o.mkj k HAO.o.2.2.1 HAO.o.2.2.2 2
  have A3:∀ W,MkJ m sv l (MF.mk (.int .i64 unit) ae ae ae ae (.slice oa L.length ca) ae ae ae) (Value.slice oa L.length ca).ownBlock.toList w5 W->W.cell? ⟨ab,3,none⟩=some (.int .i64 (b*100)):=λW k=>HB2.o.mkj k HAO.o.2.2.1 HAO.o.2.2.2 3
  have HI0:MkJ m sv l (MF.mk (.int .i64 unit) ae ae ae ae (.slice oa L.length ca) ae ae ae) (Value.slice oa L.length ca).ownBlock.toList w5 w5.drew:=⟨((Mod.refl [] w5).drew).more zk,_,MK.stays _ _ HS2.o.d.mkr (mR.drew)⟩
  have HLB:Hy (L.length+1<=maxLen/\(L.length+1)*40<=140737488355328):=by have h4:=HL.o;have h5:=HI3.o;refine ⟨?_,?_⟩;unfold maxLen;omega;omega
  have HXS:Hy (((⟨#[97,120]⟩:ByteArray)++Mk.letter i).size<=maxLen):=by show 3<=maxLen;decide
  obtain ⟨nx,hnx⟩:∃ x:ByteArray,x=(⟨#[97,120]⟩:ByteArray)++Mk.letter i:=⟨_,rfl⟩
  rw [<- hnx] at HX HB2 HXS A0;clear hnx HAO;refine Sw.aL (I:=MkJ m sv l (MF.mk (.int .i64 unit) ae ae ae ae (.slice oa L.length ca) ae ae ae) (Value.slice oa L.length ca).ownBlock.toList w5) (F0:=MG w rb m sv l (MF.mk (.int .i64 unit) ae ae ae ae (.slice oa L.length ca) ae ae ae) (MF.mk (.int .i64 unit) ae ae ae ae ae ae ae ae) (aD.mk unit [] [] [] [] [] [] [] []) B1 76 4 bX (λ_=>False) (.slice oa L.length ca) L t2) MkJ.then 9 [(0,none),(1,none),(2,none),(3,none),(4,none),(5,none),(6,none),(7,some (bK w5.heap.size #[.string nx,.int .i64 (-(a*100)),.int .i64 0,.int .i64 (b*100)] 76 1 (MG w rb m sv l (MF.mk (.int .i64 unit) ae ae ae ae (.slice oa L.length ca) ae ae ae) (MF.mk (.int .i64 unit) ae ae ae ae ae ae ae ae) (aD.mk unit [] [] [] [] [] [] [] []) B1 76 4 bX (λ_=>False) (.slice oa L.length ca) L t2))),(8,some (MGv w rb m sv l (MF.mk (.int .i64 unit) ae ae ae ae (.slice oa L.length ca) ae ae ae) (MF.mk (.int .i64 unit) ae ae ae ae ae ae ae ae) (aD.mk unit [] [] [] [] [] [] [] []) B1 76 4 bX (λ_=>False) (L.length+1) (L++[⟨nx,-(a*100),0,b*100⟩]) t2))] zt zt (Sq.aW zt) ?hTS181 HI0 (MG.stays bX.stay) (MG.stays bX.stay _ _ HS2.o (mR.drew)) ?mainS181
  case hTS181 =>
   intro p hp T hT v;simp only [List.mem_cons,List.not_mem_nil,or_false] at hp;rcases hp with rfl | rfl | rfl | rfl | rfl | rfl | rfl | rfl | rfl <;> first | (cases hT;done) | (cases hT;first | exact MGv.stays bX.stay _ | exact bK.stays (MG.stays bX.stay) _)
  iterate 7 refine Sw.vv HI0 ?_
  refine Sw.xx (λw' hw' hF K Q hK=>?_) (λkv hkv=>?_)
  ·go_wp2;exact hK _ _ (MkJ.then _ _ hw' (mR.alloc _)) ⟨⟨_,rfl,hw'.1.size,Blk.new _ _ _⟩,MG.stays bX.stay _ _ hF (mR.alloc _)⟩
  obtain ⟨_,_,⟨nb,rfl,hnb,_⟩,_⟩:=hkv;refine Sw.xx (λw' hw' hF K Q hK=>?_) (λkv hkv=>?_)
  ·obtain ⟨⟨b9,he9,-,hB⟩,hO⟩:=hF;cases he9;refine eN (v:=.slice oa L.length ca) (k:=4) (e:=76) (base:=B1) (l:=L) (l':=[⟨nx,-(a*100),0,b*100⟩]) rfl _ _ 28 rfl xq0 _ 40 Tryz.underlying28 xqi xqz0 xqz1 xqz2 rfl zd bX.stay bX.weak rfl hO.g ⟨nb,0,none⟩ _ _ [[.string nx,.int .i64 (-(a*100)),.int .i64 0,.int .i64 (b*100)]] rfl rfl (aP.one rfl (BS HXS.o ⟨HIA.o.1,HIA.o.2.1⟩ ⟨HIB.o.1,HIB.o.2.1⟩)) (λj u hu=>bi hB rfl hu) zqb HLB.o.1 HLB.o.2 (nT hO.d.ord.2.2.2 (nR _)) (λv' w'' hGP hgr _=>?_);exact hK _ _ (hw'.grew hgr (hO.push hGP hgr).d.mkr) (hO.p9 hGP hgr)
  obtain ⟨_,_,⟨ov,cv,rfl⟩,_⟩:=hkv;refine Sw.bJ ?_;intro w' hw' hF;simp only [qS,qZ];obtain ⟨⟨ov2,cv2,he9⟩,hO⟩:=hF;cases he9;have HNL:Hy ((L++[(⟨nx,-(a*100),0,b*100⟩:bB)]).length=L.length+1):=by show _=_;simp
  have c7:w'.cell? ⟨m,7,none⟩=some (.slice oa L.length ca):=hO.d.mkr.blk.cell 7;have f7:=hO.d.mkr.blk.frozen 7;have HS3:=Hi (hO.store bX.stay (f':=(MF.mk (.int .i64 unit) ae ae ae ae (.slice ov (L.length+1) cv) ae ae ae)) 7 (.slice ov (L.length+1) cv) (λ_ _=>rfl));clear hO hw' HS2 A0 A1 A2 A3 B7 HI0 HB2;go_wp2;go_roundg (gk - 1)
  case measure=>have:=hi5.o;have:=HIN.o;omega
  case rel =>
   refine ⟨i+1,L++[⟨nx,-(a*100),0,b*100⟩],t2,ov,cv,by rw [Int.natCast_add];rfl,?_,?_,?_,by rw [HNL.o];exact HS3.o⟩
   ·have:=hi5.o;have:=HIN.o;show i+1+(gk - 1)=KA;omega
   ·show Mk.rep (i+1) axF [] s2=_;rw [Mk.aR HR.o];exact HX.o
   ·have:=HL.o;show (L++[(_:bB)]).length=i+1;rw [HNL.o];omega
theorem vk {w:World} {rb m:Nat} {sv:Value} {l:List Int} {unit:Int} {KA B2:Nat} {AX:List bB} {RG:List bv} {s3 s4:Mk.S} {vax:Value} {wc:World} {b66:Bool} (hb:b66=decide (0<KA)) {x0 x1 x5 x6 x7 x8 x9 x10 x11 x12 x13 x14 x15 x16 x17 x18 x19 x20 x21 x22 x23 x24 x25 x26 x27 x28 x29 x30 x31 x32 x33 x34 x35 x36 x37 x38 x39 x40 x41 x42 x43 x44 x45 x46 x47 x48 x49 x50 x51 x52 x53 x54 x55 x56 x57 x58 x59 x60 x61 x62 x63 x64 x65 x67 x68 x69 x70 x71 x72 x73 x74 x75 x76 x77 x78 x79 x80 x81 x82 x83 x84 x85 x86 x87 x88 x89 x90 x91 x92 x93 x94 x95 x96 x97 x98 x99 x100 x101 x102 x103 x104 x105 x106 x107 x108 x109 x110 x111 x112 x113 x114 x115 x116 x117 x118 x119 x120 x121 x122 x123 x124 x125 x126 x127 x128 x129 x130 x131 x132 x133 x134 x135 x136 x137 x138 x139 x140 x141 x142 x143 x144 x145 x146 x147 x148 x149 x150 x151 x152 x153 x154 x155 x156 x157 x158 x159 x160 x161 x162 x163 x164 x165 x166 x167 x168 x169 x170 x171 x172 x173 x174 x175 x176 x177 x178 x179 x180 x181 x182 x183 x184 x185 x186 x187 x188 x189 x190 x191 x192 x193 x194 x195 x196 x197 x198 x199 x200 x201 x202 x203 x204 x205 x206 x207 x208 x209 x210 x211 x212 x213 x214 x215 x216 x217 x218 x219 x220 x221 x222 x223 x224 x225 x226 x227 x228 x229 x230 x231 x232 x233 x234 x235 x236 x237 x238 x239 x240 x241 x242 x243 x244 x245:Value}
  (H4:Hy (Mk.regions KA s3=(RG,s4)))
  (HKA:Hy (KA<3))
  (HG1:Hy (MG w rb m sv l (MF.mk (.int .i64 unit) ae ae ae ae vax ae ae ae) (MF.mk (.int .i64 unit) ae ae ae ae vax ae ae ae) (aD.mk unit [] [] [] [] AX [] [] []) B2 79 1 aY (λb=>m<b) (.slice none 0 0) ([]:List bv) s3 wc))
  {J K':Act->World->Prop} {Q':Exit->Act->World->Prop}
  (h1:∀ (a':Act) (w':World),(∃ u7 u8 u9 u10 u66 u67 u68 u69 u70 u71 u72 u73 u74 u75 u76 u77 u78 u79 u80 u81 u82 u83 u84 u85 u86 u87 u88 u89 u90 u91 u92 u93 u94 u95 u96 u97 u98 u99 u100 u101 u102 u103 u104 u105 u106 u107 u108 u109 u110 u111 u112 u113 u114 u115 u116 u117 u118 u119 u120 u121 u122 u123 u124 u125 u126 u127 u128 u129 u130 u131 u132 u133 u134 u135 u136 u137 u138 u139 u140 u141 u142 u143 u144 u145 u146 u147 u148 u149 u150 u151 u152 u153 u154 u155 u156 u157 u158 u159 u160 u161 u162 u163 u164 u165 u166 u167 u168 u169 u170 u171 u172 u173 u174 u175 u176 u177 u178 u179 u180 u181 u182 u183 u184 u185 u186 u187 u188 u189 u190 u191 u192 u193 u194 u195 u196 u197 u198 u199 u200 u201 u202 u203 u204 u205 u206 u207 u208 u209 u210 u211 u212 u213 u214 u215 u216 u217 u218 u219 u220 u221 u222 u223 u224 u225 u226 u227 u228 u229 u230 u231 u232 u233 u234 u235 u236 u237 u238 u239 u240 u241 u242 u243 u244 u245:Value,(∃ (oa:Option Addr) (ca:Nat),Hy (MD w rb m sv l (MF.mk (.int .i64 unit) ae ae ae ae vax (.slice oa RG.length ca) ae ae) (MF.mk (.int .i64 unit) ae ae ae ae vax (.slice oa RG.length ca) ae ae) (aD.mk unit [] [] [] [] AX RG [] []) w'.heap.size s4 w'))/\a'={ tmps:=(x0::x1::.pointer (some ⟨rb,0,none⟩)::.pointer (some ⟨m,0,none⟩)::.int .i64 (KA:Int)::x5::x6::u7::u8::u9::u10::x11::x12::x13::x14::x15::x16::x17::x18::x19::x20::x21::x22::x23::x24::x25::x26::x27::x28::x29::x30::x31::x32::x33::x34::x35::x36::x37::x38::x39::x40::x41::x42::x43::x44::x45::x46::x47::x48::x49::x50::x51::x52::x53::x54::x55::x56::x57::x58::x59::x60::x61::x62::x63::x64::x65::u66::u67::u68::u69::u70::u71::u72::u73::u74::u75::u76::u77::u78::u79::u80::u81::u82::u83::u84::u85::u86::u87::u88::u89::u90::u91::u92::u93::u94::u95::u96::u97::u98::u99::u100::u101::u102::u103::u104::u105::u106::u107::u108::u109::u110::u111::u112::u113::u114::u115::u116::u117::u118::u119::u120::u121::u122::u123::u124::u125::u126::u127::u128::u129::u130::u131::u132::u133::u134::u135::u136::u137::u138::u139::u140::u141::u142::u143::u144::u145::u146::u147::u148::u149::u150::u151::u152::u153::u154::u155::u156::u157::u158::u159::u160::u161::u162::u163::u164::u165::u166::u167::u168::u169::u170::u171::u172::u173::u174::u175::u176::u177::u178::u179::u180::u181::u182::u183::u184::u185::u186::u187::u188::u189::u190::u191::u192::u193::u194::u195::u196::u197::u198::u199::u200::u201::u202::u203::u204::u205::u206::u207::u208::u209::u210::u211::u212::u213::u214::u215::u216::u217::u218::u219::u220::u221::u222::u223::u224::u225::u226::u227::u228::u229::u230::u231::u232::u233::u234::u235::u236::u237::u238::u239::u240::u241::u242::u243::u244::u245::[]).toArray,defers:=[] })->J a' w')
  (h2:∀ (a':Act) (w':World),Met J a' w'->K' a' w')
  {c66:Code} (hc:c66=(kq 66 ((Tryz.f7).body.getD .skip)).getD .skip) :
  Code.wp Tryz.prog c66 (Exit.then K' Q') { tmps:=(x0::x1::.pointer (some ⟨rb,0,none⟩)::.pointer (some ⟨m,0,none⟩)::.int .i64 (KA:Int)::x5::x6::x7::x8::x9::x10::x11::x12::x13::x14::x15::x16::x17::x18::x19::x20::x21::x22::x23::x24::x25::x26::x27::x28::x29::x30::x31::x32::x33::x34::x35::x36::x37::x38::x39::x40::x41::x42::x43::x44::x45::x46::x47::x48::x49::x50::x51::x52::x53::x54::x55::x56::x57::x58::x59::x60::x61::x62::x63::x64::x65::.bool b66::x67::x68::x69::x70::x71::x72::x73::x74::x75::x76::x77::x78::x79::x80::x81::x82::x83::x84::x85::x86::x87::x88::x89::x90::x91::x92::x93::x94::x95::x96::x97::x98::x99::x100::x101::x102::x103::x104::x105::x106::x107::x108::x109::x110::x111::x112::x113::x114::x115::x116::x117::x118::x119::x120::x121::x122::x123::x124::x125::x126::x127::x128::x129::x130::x131::x132::x133::x134::x135::x136::x137::x138::x139::x140::x141::x142::x143::x144::x145::x146::x147::x148::x149::x150::x151::x152::x153::x154::x155::x156::x157::x158::x159::x160::x161::x162::x163::x164::x165::x166::x167::x168::x169::x170::x171::x172::x173::x174::x175::x176::x177::x178::x179::x180::x181::x182::x183::x184::x185::x186::x187::x188::x189::x190::x191::x192::x193::x194::x195::x196::x197::x198::x199::x200::x201::x202::x203::x204::x205::x206::x207::x208::x209::x210::x211::x212::x213::x214::x215::x216::x217::x218::x219::x220::x221::x222::x223::x224::x225::x226::x227::x228::x229::x230::x231::x232::x233::x234::x235::x236::x237::x238::x239::x240::x241::x242::x243::x244::x245::[]).toArray,defers:=[] } wc:=by
 have CN:=Hi (λf st x st' n h1 h2 e=>bF m sv l f st n h1 h2 (r:=x) (s':=st') e);obtain ⟨yq0,yqi,yqz0,yqz1,yqz2⟩:=info_parts pr;obtain ⟨tq0,tqi,tqz0,tqz1,tqz2⟩:=info_parts td;subst hb;rw [hc];clear hc
 conv=>arg 2;whnf
 by_cases hk0:KA=0
 ·subst hk0;have k1:decide ((0:Int)<((0:Nat):Int))=false:=rfl;have k0:decide (0<0)=false:=rfl;obtain ⟨rfl,rfl⟩:RG=[]/\s4=s3:=by have h9:=H4.o;unfold Mk.regions at h9;simpa [eq_comm] using h9
  go_wp2;go_meet
  case rel=>exact ⟨none,0,MG.zN (f0:=(MF.mk (.int .i64 unit) ae ae ae ae vax ae ae ae)) (F:=(aD.mk unit [] [] [] [] AX [] [] [])) HG1.o⟩
 have k1:=dT (p:=(0:Int)<KA) zo;have k2:(0:Int)<KA:=zo;have k0:=dT (p:=0<KA) zo;obtain ⟨nr,r1,hr⟩:∃ a b,Mk.next 4 s3=(a,b):=⟨_,_,rfl⟩
 have ir:=ay zd hr;obtain ⟨NR,rfl⟩:∃ K:Nat,nr=K:=⟨nr.toNat,by omega⟩
 have HRR:Hy (Mk.rep NR (rgF KA) [] r1=(RG,s4)):=by
  have h9:=H4.o;unfold Mk.regions at h9;rw [if_pos zo,Mk.ai hr,Int.toNat_natCast] at h9;exact h9
 have HNR:Hy (NR<4):=by show NR<4;omega
 have CR:=Hi (CN.o (MF.mk (.int .i64 unit) ae ae ae ae vax ae ae ae) s3 NR r1 4 zd zd hr _ HG1.o.d.mkr);clear hk0 hr ir H4;go_wp2_with fail;refine CR.o.mono ?_;rintro e w5 ⟨rfl,K2,M2⟩;have HG2:=Hi (HG1.o.call aY.stay K2 M2);clear K2 M2 CR HG1;go_wp2_with fail
 go_loopg [8,9,10] NR (λgk v8 v9 v10 wr=>∃ (i:Nat) (L:List bv) (st:Mk.S) (oa:Option Addr) (ca:Nat),v8=.int .i64 (i:Int)/\Hy (i+gk=NR)/\Hy (Mk.rep i (rgF KA) [] r1=(L,st))/\Hy (L.length=i)/\Hy (MG w rb m sv l (MF.mk (.int .i64 unit) ae ae ae ae vax (.slice oa L.length ca) ae ae) (MF.mk (.int .i64 unit) ae ae ae ae vax ae ae ae) (aD.mk unit [] [] [] [] AX [] [] []) B2 79 1 aY (λb=>m<b) (.slice oa L.length ca) L st wr))
 case atStart=>exact ⟨0,[],r1,none,0,rfl,by show 0+NR=NR;omega,rfl,rfl,HG2.o⟩
 case round =>
  obtain ⟨i,L,st,oa,ca,rfl,hi5,HR,HL,HS⟩:=hrel;clear HG2
  by_cases hin:i<NR
  case neg =>
   obtain rfl:i=NR:=by have:=hi5.o;omega
   have k3:=dF (p:=(i:Int)<i) zo;obtain ⟨rfl,rfl⟩:L=RG/\st=s4:=by have h9:=HRR.o;rw [HR.o] at h9;simpa using h9
   go_wp2;go_meet
   case rel=>exact ⟨oa,ca,MG.zN (f0:=(MF.mk (.int .i64 unit) ae ae ae ae vax ae ae ae)) (F:=(aD.mk unit [] [] [] [] AX [] [] [])) HS.o⟩
  have k3:=dT (p:=(i:Int)<NR) zo;have k4:(i:Int)<NR:=zo;have hi3:i<4:=by have:=HNR.o;omega
  have ei:IntKind.i64.wrap ((i:Int)+1)=(i:Int)+1:=wrapi zo zo;obtain ⟨TT,t1,hT⟩:∃ a b,Mk.rep KA tnF [] st=(a,b):=⟨_,_,rfl⟩
  have HX:Hy (rgF KA i L st=(L++[⟨TT⟩],t1)):=by
   unfold rgF;have h9:Mk.region KA st=(⟨TT⟩,t1):=by unfold Mk.region;exact (Mk.ai hT _).trans rfl
   rw [Mk.ai h9];exact rfl
  have HT:=Hi hT;have HIN:=Hi hin;have HI3:=Hi hi3;have HR0:=Hi (eV.start HS.o);clear hT hin hi3 HS;go_upto_block 4 with fail;rw [show wr.alloc (.cells #[.slice none 0 0] 79)=wr.alloc (.cells #[ae] 79) from rfl];generalize wr.alloc (.cells #[ae] 79)=w6 at *
  generalize wr.heap.size=gb at *
  generalize gk=G at *
  go_cut [10] from 74 to 93 (λv10 wx=>∃ (ot:Option Addr) (ct:Nat),Hy (eV w rb m sv l (MF.mk (.int .i64 unit) ae ae ae ae vax (.slice oa L.length ca) ae ae) (MF.mk (.int .i64 unit) ae ae ae ae vax ae ae ae) (aD.mk unit [] [] [] [] AX [] [] []) B2 (.slice oa L.length ca) L gb (gb+1) (.slice ot TT.length ct) TT t1 wx))
  case first =>
   go_wp2_with fail
   go_loopg [10] KA (λgj v10 ws=>∃ (j:Nat) (T:List gv) (su:Mk.S) (ot:Option Addr) (ct:Nat),v10=.int .i64 (j:Int)/\Hy (j+gj=KA)/\Hy (Mk.rep j tnF [] st=(T,su))/\Hy (T.length=j)/\Hy (eV w rb m sv l (MF.mk (.int .i64 unit) ae ae ae ae vax (.slice oa L.length ca) ae ae) (MF.mk (.int .i64 unit) ae ae ae ae vax ae ae ae) (aD.mk unit [] [] [] [] AX [] [] []) B2 (.slice oa L.length ca) L gb (gb+1) (.slice ot T.length ct) T su ws))
   case atStart=>exact ⟨0,[],st,none,0,rfl,by show 0+KA=KA;omega,rfl,rfl,HR0.o⟩
   case round =>
    obtain ⟨j,T,su,ot,ct,rfl,hj5,HRT,HTL,HS⟩:=hrel;clear HR0
    by_cases hjn:j<KA
    case neg =>
     obtain rfl:j=KA:=by have:=hj5.o;omega
     have k5:=dF (p:=(j:Int)<j) zo;obtain ⟨rfl,rfl⟩:T=TT/\su=t1:=by have h9:=HT.o;rw [HRT.o] at h9;simpa using h9
     go_wp2;go_meet
     case rel=>exact ⟨ot,ct,HS⟩
    have k5:=dT (p:=(j:Int)<KA) zo;have k6:(j:Int)<KA:=zo;have hj3:j<3:=by have:=HKA.o;omega
    have ej:IntKind.i64.wrap ((j:Int)+1)=(j:Int)+1:=wrapi zo zo;obtain ⟨q,su1,hq⟩:∃ a b,Mk.next 5 su=(a,b):=⟨_,_,rfl⟩
    have iq:=ay zd hq;obtain ⟨qn,rfl⟩:∃ K:Nat,q=K:=⟨q.toNat,by omega⟩
    have q1:(0:Int)<=qn:=zo;have q2:(qn:Int)<5:=zo;have HTA:=Hi (xF qn zo);have HXT:Hy (tnF j T su=(T++[mC qn],su1)):=by unfold tnF;rw [Mk.ai hq,Int.toNat_natCast];exact rfl
    have CQ:=Hi (CN.o (MF.mk (.int .i64 unit) ae ae ae ae vax (.slice oa L.length ca) ae ae) su qn su1 5 zd zd hq);have HJN:=Hi hjn;have HJ3:=Hi hj3;have HWS:Hy (m<wr.heap.size/\gb<wr.heap.size):=by have h7:=HS.o.g.d.mkr.blk.lt;have h8:=HS.o.blk.lt;exact ⟨h7,h8⟩
    have G0:∀ W,Mod [m] wr W->W.cell? ⟨gb,0,none⟩=some (.slice ot T.length ct):=λW k=>(HS.o.blk.kept k (by have:=HS.o.g.d.ord;have:=HS.o.lt;simp;omega)).cell 0
    have HIK:∀ w' w'':World,Mod [m] wr w'->Mod [] w' w''->Mod [m] wr w'':=λ_ _ h k=>h.then (k.more zk)
    generalize mC qn=dq at *
    clear hq iq hjn hj3;go_upto_region 18 with fail;refine Sa.jH (I:=Mod [m] wr) (J:=Mod [m]) (F0:=eV w rb m sv l (MF.mk (.int .i64 unit) ae ae ae ae vax (.slice oa L.length ca) ae ae) (MF.mk (.int .i64 unit) ae ae ae ae vax ae ae ae) (aD.mk unit [] [] [] [] AX [] [] []) B2 (.slice oa L.length ca) L gb (gb+1) (.slice ot T.length ct) T su) HIK (λ_ _ k=>k.more zk) 13 [(0,Sa.Tok.v),(1,Sa.Tok.v),(2,Sa.Tok.v),(3,Sa.Tok.v),(4,Sa.Tok.v),(5,Sa.Tok.v),(6,Sa.Tok.v),(8,Sa.Tok.v),(9,Sa.Tok.x (eV w rb m sv l (MF.mk (.int .i64 unit) ae ae ae ae vax (.slice oa L.length ca) ae ae) (MF.mk (.int .i64 unit) ae ae ae ae vax ae ae ae) (aD.mk unit [] [] [] [] AX [] [] []) B2 (.slice oa L.length ca) L gb (gb+1) (.slice ot T.length ct) T su1)),(7,Sa.Tok.al (λb=>.slice (some ⟨b,0,none⟩) 5 5) (λb w'=>wr.heap.size<=b/\Blk w' b nQ 81)),(10,Sa.Tok.v),(11,Sa.Tok.v),(12,Sa.Tok.al (λb=>.slice (some ⟨b,0,none⟩) 1 1) (λb w'=>wr.heap.size<=b/\Blk w' b #[.int .i64 dq.start,.int .i64 dq.peak,.int .i64 dq.stop] 81))] [(0,0),(1,0),(2,0),(3,0),(4,0),(5,0),(6,0),(8,0),(9,1),(7,2),(10,0),(11,0),(12,2)] rfl zt zt ?hGd121 (mR.drew) eV.stays (eV.stays _ _ HS.o (mR.drew)) ?mainA121
    case hGd121 =>
     intro p hp;simp only [List.mem_cons,List.not_mem_nil,or_false] at hp;rcases hp with rfl | rfl | rfl | rfl | rfl | rfl | rfl | rfl | rfl | rfl | rfl | rfl | rfl <;> first | exact True.intro | exact (λb w1 w2 h k=>⟨h.1,h.2.kept k (by have:=HWS.o;simp;omega)⟩) | exact eV.stays
    iterate 8 refine Sa.vv ?_
    refine Sa.pO (a':=?_) rfl zt (λw' hw' hF K Q hK=>?_) ?_ ?_;rotate_left
    ·go_wp2_with fail;refine (CQ.o w' hF.g.d.mkr).mono ?_;rintro e w'' ⟨rfl,K',M'⟩;go_wp2;exact hK _ (hw'.then M') M' (hF.call K' M')
    ·kernel_rfl
    refine Sa.xz (f:=?_) rfl zt (λv=>by simp only [Act.put];(try simp only [List.setIfInBounds_toArray]);(try simp only [List.set_cons_succ,List.set_cons_zero]);exact rfl) (λw' hw' K Q hK=>?_) (λbA7=>?_)
    ·go_wp2;exact hK w'.heap.size _ (mR.alloc _) ⟨hw'.size,Blk.new _ nQ _⟩
    refine Sa.vv ?_;refine Sa.qR (a':=?_) rfl zt (λw' hw' hG K Q hK=>?_) ?_ ?_;rotate_left
    ·have AC0:=(hG.2.2.cell (qn*3)).trans HTA.o.1;have AC1:=(hG.2.2.cell (qn*3+1)).trans HTA.o.2.1;have AC2:=(hG.2.2.cell (qn*3+2)).trans HTA.o.2.2.1;go_wp2;exact hK _ mR
    ·kernel_rfl
    refine Sa.xz (f:=?_) rfl zt (λv=>by simp only [Act.put];(try simp only [List.setIfInBounds_toArray]);(try simp only [List.set_cons_succ,List.set_cons_zero]);exact rfl) (λw' hw' K Q hK=>?_) (λbA12=>?_)
    ·go_wp2;exact hK w'.heap.size _ (mR.alloc _) ⟨hw'.size,Blk.new _ _ _⟩
    refine Sa.bJ ?_;intro w' hw' hF hG;simp only [qS,qZ];have HAO:Hy (wr.heap.size<=bA12/\Blk w' bA12 #[.int .i64 dq.start,.int .i64 dq.peak,.int .i64 dq.stop] 81):=⟨hG.2.1,hG.2.2⟩
    have HS1:=Hi hF;clear hF hG hw' CQ HIK HS G0 HWS;generalize bA12=nb at *
    have HLB:Hy (T.length+1<=maxLen/\(T.length+1)*24<=140737488355328):=by have h4:=HTL.o;have h5:=HJ3.o;refine ⟨?_,?_⟩;unfold maxLen;omega;omega
    go_wp2_with (at_builtin;refine aO (k:=3) (e:=81) (base:=gb+1) (l:=T) (l':=[dq]) rfl _ _ 77 rfl tq0 _ 24 Tryz.underlying77 tqi tqz0 tqz1 tqz2 rfl zd fI.stay fI.weak rfl HS1.o.gr ⟨nb,0,none⟩ _ _ [[.int .i64 dq.start,.int .i64 dq.peak,.int .i64 dq.stop]] rfl rfl (aP.one rfl ⟨rfl,HTA.o.2.2.2⟩) (λj u hu=>bi HAO.o.2 rfl hu) zqb HLB.o.1 HLB.o.2 (Nat.succ_le_of_lt HS1.o.blk.lt) ?_);intro v' w7 hGP hgr _;have HP:=Hi (HS1.o.push hGP hgr);have HLT:=Hi HS1.o.lt;obtain ⟨ot',ct',hv⟩:=hGP.form;have hnl:(T++[dq]).length=T.length+1:=by simp
    rw [hnl] at hv;subst hv;have HGP:=Hi hGP;have g0:w7.cell? ⟨gb,0,none⟩=some (.slice ot T.length ct):=HP.o.2.cell 0;have g1:w7.frozen? ⟨gb,0,none⟩=false:=HP.o.2.frozen 0;have HNL:=Hi hnl;clear hGP hgr HS1 HAO hnl;go_wp2;go_roundg (gk - 1)
    case measure=>have:=hj5.o;have:=HJN.o;omega
    case rel =>
     refine ⟨j+1,T++[dq],su1,ot',ct',by rw [Int.natCast_add];rfl,?_,?_,?_,by rw [HNL.o];exact eV.store HP.o HGP.o HLT.o⟩
     ·have:=hj5.o;have:=HJN.o;show j+1+(gk - 1)=KA;omega
     ·show Mk.rep (j+1) tnF [] st=_;rw [Mk.aR HRT.o];exact HXT.o
     ·have:=HTL.o;show (T++[(_:gv)]).length=j+1;rw [HNL.o];omega
  case rest =>
  obtain ⟨ot,ct,HS⟩:=hcut;clear HR0 HT;generalize (Value.slice ot TT.length ct)=vt at *
  have HSB:Hy (gb≠m/\gb ∉ (Value.slice oa L.length ca).ownBlock.toList):=by
   have h5:=HS.o.g.d.ord;have h6:=HS.o.lt;exact ⟨by omega,λhm=>Nat.lt_irrefl _ (h6.2.2 _ zqq)⟩
  have B8:∀ W,MkJ m sv l (MF.mk (.int .i64 unit) ae ae ae ae vax (.slice oa L.length ca) ae ae) (Value.slice oa L.length ca).ownBlock.toList wc W->W.cell? ⟨m,8,none⟩=some (.slice oa L.length ca):=λW k=>k.2.elim λ_ h9=>h9.blk.cell 8
  have A0:∀ W,MkJ m sv l (MF.mk (.int .i64 unit) ae ae ae ae vax (.slice oa L.length ca) ae ae) (Value.slice oa L.length ca).ownBlock.toList wc W->W.cell? ⟨gb,0,none⟩=some vt:=λW k=>HS.o.blk.mkj k HSB.o.1 HSB.o.2 0
  have HI0:MkJ m sv l (MF.mk (.int .i64 unit) ae ae ae ae vax (.slice oa L.length ca) ae ae) (Value.slice oa L.length ca).ownBlock.toList wc wc.drew:=⟨((Mod.refl [] wc).drew).more zk,_,MK.stays _ _ HS.o.g.d.mkr (mR.drew)⟩
  have HLB:Hy (L.length+1<=maxLen/\(L.length+1)*24<=140737488355328):=by have h4:=HL.o;have h5:=HI3.o;refine ⟨?_,?_⟩;unfold maxLen;omega;omega
  go_upto_region 19 with fail;refine Sw.aL (I:=MkJ m sv l (MF.mk (.int .i64 unit) ae ae ae ae vax (.slice oa L.length ca) ae ae) (Value.slice oa L.length ca).ownBlock.toList wc) (F0:=eV w rb m sv l (MF.mk (.int .i64 unit) ae ae ae ae vax (.slice oa L.length ca) ae ae) (MF.mk (.int .i64 unit) ae ae ae ae vax ae ae ae) (aD.mk unit [] [] [] [] AX [] [] []) B2 (.slice oa L.length ca) L gb (gb+1) vt TT t1) MkJ.then 9 [(0,none),(1,none),(2,none),(3,none),(4,none),(5,none),(6,none),(7,some (bK wc.heap.size #[vt] 79 1 (eV w rb m sv l (MF.mk (.int .i64 unit) ae ae ae ae vax (.slice oa L.length ca) ae ae) (MF.mk (.int .i64 unit) ae ae ae ae vax ae ae ae) (aD.mk unit [] [] [] [] AX [] [] []) B2 (.slice oa L.length ca) L gb (gb+1) vt TT t1))),(8,some (MGv w rb m sv l (MF.mk (.int .i64 unit) ae ae ae ae vax (.slice oa L.length ca) ae ae) (MF.mk (.int .i64 unit) ae ae ae ae vax ae ae ae) (aD.mk unit [] [] [] [] AX [] [] []) B2 79 1 aY (λb=>m<b) (L.length+1) (L++[⟨TT⟩]) t1))] zt zt (Sq.aW zt) ?hTS235 HI0 eV.stays (eV.stays _ _ HS.o (mR.drew)) ?mainS235
  case hTS235 =>
   intro p hp T hT v;simp only [List.mem_cons,List.not_mem_nil,or_false] at hp;rcases hp with rfl | rfl | rfl | rfl | rfl | rfl | rfl | rfl | rfl <;> first | (cases hT;done) | (cases hT;first | exact MGv.stays aY.stay _ | exact bK.stays eV.stays _)
  iterate 7 refine Sw.vv HI0 ?_
  refine Sw.xx (λw' hw' hF K Q hK=>?_) (λkv hkv=>?_)
  ·go_wp2;exact hK _ _ (MkJ.then _ _ hw' (mR.alloc _)) ⟨⟨_,rfl,hw'.1.size,Blk.new _ _ _⟩,eV.stays _ _ hF (mR.alloc _)⟩
  obtain ⟨_,_,⟨nb,rfl,hnb,_⟩,_⟩:=hkv;refine Sw.xx (λw' hw' hF K Q hK=>?_) (λkv hkv=>?_)
  ·obtain ⟨⟨b9,he9,-,hB⟩,hO⟩:=hF;cases he9;refine eN (v:=.slice oa L.length ca) (k:=1) (e:=79) (base:=B2) (l:=L) (l':=[⟨TT⟩]) rfl _ _ 29 rfl yq0 _ 24 Tryz.underlying29 yqi yqz0 yqz1 yqz2 rfl zd aY.stay aY.weak rfl hO.fin.g ⟨nb,0,none⟩ _ _ [[vt]] rfl rfl hO.elem (λj u hu=>bi hB rfl hu) hO.one HLB.o.1 HLB.o.2 (nT hO.g.d.ord.2.2.2 (nR _)) (λv' w'' hGP hgr _=>?_);exact hK _ _ (hw'.grew hgr (hO.fin.push hGP hgr).d.mkr) (hO.fin.p9 hGP hgr)
  obtain ⟨_,_,⟨ov,cv,rfl⟩,_⟩:=hkv;refine Sw.bJ ?_;intro w' hw' hF;simp only [qS,qZ];obtain ⟨⟨ov2,cv2,he9⟩,hO⟩:=hF;cases he9;have HNL:Hy ((L++[(⟨TT⟩:bv)]).length=L.length+1):=by show _=_;simp
  have c8:w'.cell? ⟨m,8,none⟩=some (.slice oa L.length ca):=hO.d.mkr.blk.cell 8;have f8:=hO.d.mkr.blk.frozen 8;have HS3:=Hi (hO.store aY.stay (f':=(MF.mk (.int .i64 unit) ae ae ae ae vax (.slice ov (L.length+1) cv) ae ae)) 8 (.slice ov (L.length+1) cv) (λ_ _=>rfl));clear hO hw' HS A0 B8 HI0;go_wp2;go_roundg (G - 1)
  case measure=>have:=hi5.o;have:=HIN.o;omega
  case rel =>
   refine ⟨i+1,L++[⟨TT⟩],t1,ov,cv,by rw [Int.natCast_add];rfl,?_,?_,?_,by rw [HNL.o];exact HS3.o⟩
   ·have:=hi5.o;have:=HIN.o;show i+1+(G - 1)=NR;omega
   ·show Mk.rep (i+1) (rgF KA) [] r1=_;rw [Mk.aR HR.o];exact HX.o
   ·have:=HL.o;show (L++[(_:bv)]).length=i+1;rw [HNL.o];omega
theorem zY {w:World} {rb m:Nat} {sv:Value} {l:List Int} {unit:Int} {KF B3:Nat} {AX:List bB} {RG:List bv} {FN:List (List bS)} {s5 s6:Mk.S} {vax vrg:Value} {w5:World} {x0 x1 x5 x6 x7 x8 x9 x10 x12 x13 x14 x15 x16 x17 x18 x19 x20 x21 x22 x23 x24 x25 x26 x27 x28 x29 x30 x31 x32 x33 x34 x35 x36 x37 x38 x39 x40 x41 x42 x43 x44 x45 x46 x47 x48 x49 x50 x51 x52 x53 x54 x55 x56 x57 x58 x59 x60 x61 x62 x63 x64 x65 x66 x67 x68 x69 x70 x71 x72 x73 x74 x75 x76 x77 x78 x79 x80 x81 x82 x83 x84 x85 x86 x87 x88 x89 x90 x91 x92 x93 x94 x95 x96 x97 x98 x99 x100 x101 x102 x103 x104 x105 x106 x107 x108 x109 x110 x111 x112 x113 x114 x115 x116 x117 x118 x119 x120 x121 x122 x123 x124 x125 x126 x127 x128 x129 x130 x131 x132 x133 x134 x135 x136 x137 x138 x139 x140 x141 x142 x143 x144 x145 x146 x147 x148 x149 x150 x151 x152 x153 x154 x155 x156 x157 x158 x159 x160 x161 x162 x163 x164 x165 x166 x167 x168 x169 x170 x171 x172 x173 x174 x175 x176 x177 x178 x179 x180 x181 x182 x183 x184 x185 x186 x187 x188 x189 x190 x191 x192 x193 x194 x195 x196 x197 x198 x199 x200 x201 x202 x203 x204 x205 x206 x207 x208 x209 x210 x211 x212 x213 x214 x215 x216 x217 x218 x219 x220 x221 x222 x223 x224 x225 x226 x227 x228 x229 x230 x231 x232 x233 x234 x235 x236 x237 x238 x239 x240 x241 x242 x243 x244 x245:Value}
  (H6:Hy (Mk.rep KF fnF [] s5=(FN,s6)))
  (HKF:Hy (KF<3))
  (HG2:Hy (MG w rb m sv l (MF.mk (.int .i64 unit) ae ae ae ae vax vrg ae ae) (MF.mk (.int .i64 unit) ae ae ae ae vax vrg ae ae) (aD.mk unit [] [] [] [] AX RG [] []) B3 44 1 cT (λb=>m<b) (.slice none 0 0) ([]:List (List bS)) s5 w5))
  {J K':Act->World->Prop} {Q':Exit->Act->World->Prop}
  (h1:∀ (a':Act) (w':World),(∃ u11 u108 u109 u110 u111 u112 u113 u114 u115 u116 u117 u118 u119 u120 u121 u122 u123 u124 u125 u126 u127 u128 u129 u130 u131 u132 u133 u134 u135 u136 u137 u138 u139 u140 u141 u142 u143 u144 u145 u146 u147 u148 u149 u150 u151 u152 u153 u154 u155 u156 u157 u158 u159 u160 u161 u162 u163 u164 u165 u166 u167 u168 u169 u170 u171 u172 u173 u174 u175 u176 u177 u178 u179 u180 u181 u182 u183 u184 u185 u186 u187 u188 u189 u190 u191 u192 u193 u194 u195 u196 u197 u198 u199 u200 u201 u202 u203 u204 u205 u206 u207 u208 u209 u210 u211 u212 u213 u214 u215 u216 u217 u218 u219 u220 u221 u222 u223 u224 u225 u226 u227 u228 u229 u230 u231 u232 u233 u234 u235 u236 u237 u238 u239 u240 u241 u242 u243 u244 u245:Value,(∃ (oa:Option Addr) (ca:Nat),Hy (MD w rb m sv l (MF.mk (.int .i64 unit) ae ae ae ae vax vrg (.slice oa FN.length ca) ae) (MF.mk (.int .i64 unit) ae ae ae ae vax vrg (.slice oa FN.length ca) ae) (aD.mk unit [] [] [] [] AX RG FN []) w'.heap.size s6 w'))/\a'={ tmps:=(x0::x1::.pointer (some ⟨rb,0,none⟩)::.pointer (some ⟨m,0,none⟩)::.int .i64 (KF:Int)::x5::x6::x7::x8::x9::x10::u11::x12::x13::x14::x15::x16::x17::x18::x19::x20::x21::x22::x23::x24::x25::x26::x27::x28::x29::x30::x31::x32::x33::x34::x35::x36::x37::x38::x39::x40::x41::x42::x43::x44::x45::x46::x47::x48::x49::x50::x51::x52::x53::x54::x55::x56::x57::x58::x59::x60::x61::x62::x63::x64::x65::x66::x67::x68::x69::x70::x71::x72::x73::x74::x75::x76::x77::x78::x79::x80::x81::x82::x83::x84::x85::x86::x87::x88::x89::x90::x91::x92::x93::x94::x95::x96::x97::x98::x99::x100::x101::x102::x103::x104::x105::x106::x107::u108::u109::u110::u111::u112::u113::u114::u115::u116::u117::u118::u119::u120::u121::u122::u123::u124::u125::u126::u127::u128::u129::u130::u131::u132::u133::u134::u135::u136::u137::u138::u139::u140::u141::u142::u143::u144::u145::u146::u147::u148::u149::u150::u151::u152::u153::u154::u155::u156::u157::u158::u159::u160::u161::u162::u163::u164::u165::u166::u167::u168::u169::u170::u171::u172::u173::u174::u175::u176::u177::u178::u179::u180::u181::u182::u183::u184::u185::u186::u187::u188::u189::u190::u191::u192::u193::u194::u195::u196::u197::u198::u199::u200::u201::u202::u203::u204::u205::u206::u207::u208::u209::u210::u211::u212::u213::u214::u215::u216::u217::u218::u219::u220::u221::u222::u223::u224::u225::u226::u227::u228::u229::u230::u231::u232::u233::u234::u235::u236::u237::u238::u239::u240::u241::u242::u243::u244::u245::[]).toArray,defers:=[] })->J a' w')
  (h2:∀ (a':Act) (w':World),Met J a' w'->K' a' w') :
  Code.wp Tryz.prog ((iW 6 ((Tryz.f7).body.getD .skip)).getD .skip) (Exit.then K' Q') { tmps:=(x0::x1::.pointer (some ⟨rb,0,none⟩)::.pointer (some ⟨m,0,none⟩)::.int .i64 (KF:Int)::x5::x6::x7::x8::x9::x10::.int .i64 0::x12::x13::x14::x15::x16::x17::x18::x19::x20::x21::x22::x23::x24::x25::x26::x27::x28::x29::x30::x31::x32::x33::x34::x35::x36::x37::x38::x39::x40::x41::x42::x43::x44::x45::x46::x47::x48::x49::x50::x51::x52::x53::x54::x55::x56::x57::x58::x59::x60::x61::x62::x63::x64::x65::x66::x67::x68::x69::x70::x71::x72::x73::x74::x75::x76::x77::x78::x79::x80::x81::x82::x83::x84::x85::x86::x87::x88::x89::x90::x91::x92::x93::x94::x95::x96::x97::x98::x99::x100::x101::x102::x103::x104::x105::x106::x107::x108::x109::x110::x111::x112::x113::x114::x115::x116::x117::x118::x119::x120::x121::x122::x123::x124::x125::x126::x127::x128::x129::x130::x131::x132::x133::x134::x135::x136::x137::x138::x139::x140::x141::x142::x143::x144::x145::x146::x147::x148::x149::x150::x151::x152::x153::x154::x155::x156::x157::x158::x159::x160::x161::x162::x163::x164::x165::x166::x167::x168::x169::x170::x171::x172::x173::x174::x175::x176::x177::x178::x179::x180::x181::x182::x183::x184::x185::x186::x187::x188::x189::x190::x191::x192::x193::x194::x195::x196::x197::x198::x199::x200::x201::x202::x203::x204::x205::x206::x207::x208::x209::x210::x211::x212::x213::x214::x215::x216::x217::x218::x219::x220::x221::x222::x223::x224::x225::x226::x227::x228::x229::x230::x231::x232::x233::x234::x235::x236::x237::x238::x239::x240::x241::x242::x243::x244::x245::[]).toArray,defers:=[] } w5:=by
 have CN:=Hi (λf st x st' n h1 h2 e=>bF m sv l f st n h1 h2 (r:=x) (s':=st') e);obtain ⟨cq0,cqi,cqz0,cqz1,cqz2⟩:=info_parts tn
 conv=>arg 2;whnf
 go_wp2_with fail
 go_loopg [11] KF (λgk v11 wr=>∃ (i:Nat) (L:List (List bS)) (st:Mk.S) (oa:Option Addr) (ca:Nat),v11=.int .i64 (i:Int)/\Hy (i+gk=KF)/\Hy (Mk.rep i fnF [] s5=(L,st))/\Hy (L.length=i)/\Hy (MG w rb m sv l (MF.mk (.int .i64 unit) ae ae ae ae vax vrg (.slice oa L.length ca) ae) (MF.mk (.int .i64 unit) ae ae ae ae vax vrg ae ae) (aD.mk unit [] [] [] [] AX RG [] []) B3 44 1 cT (λb=>m<b) (.slice oa L.length ca) L st wr))
 case atStart=>exact ⟨0,[],s5,none,0,rfl,by show 0+KF=KF;omega,rfl,rfl,HG2.o⟩
 case round =>
  obtain ⟨i,L,st,oa,ca,rfl,hi5,HR,HL,HS⟩:=hrel;clear HG2
  by_cases hin:i<KF
  case neg =>
   obtain rfl:i=KF:=by have:=hi5.o;omega
   have k1:=dF (p:=(i:Int)<i) zo;obtain ⟨rfl,rfl⟩:L=FN/\st=s6:=by have h9:=H6.o;rw [HR.o] at h9;simpa using h9
   go_wp2;go_meet
   case rel=>exact ⟨oa,ca,MG.doneFn (f0:=(MF.mk (.int .i64 unit) ae ae ae ae vax vrg ae ae)) (F:=(aD.mk unit [] [] [] [] AX RG [] [])) HS.o⟩
  have k1:=dT (p:=(i:Int)<KF) zo;have k2:(i:Int)<KF:=zo;have hi3:i<3:=by have:=HKF.o;omega
  have ei:IntKind.i64.wrap ((i:Int)+1)=(i:Int)+1:=wrapi zo zo;obtain ⟨hc,t1,hh⟩:∃ a b,Mk.hint 6 i 4 ⟨st.r,0⟩=(a,b):=⟨_,_,rfl⟩
  have CH:=Hi (xm m sv l (MF.mk (.int .i64 unit) ae ae ae ae vax vrg (.slice oa L.length ca) ae) ⟨st.r,0⟩ 6 i 4 zd zd zo zo zd zd hh);have HX:Hy (fnF i L st=(L++[hc],t1)):=by unfold fnF;rw [Mk.ai hh];exact rfl
  have HIN:=Hi hin;have HI3:=Hi hi3;have c11:wr.cell? ⟨m,11,none⟩=some (.int .i64 st.lp):=HS.o.d.mkr.blk.cell 11;have f11:wr.frozen? ⟨m,11,none⟩=false:=HS.o.d.mkr.blk.frozen 11;have HS1:=Hi (HS.o.lps cT.stay 0 zd zd);have HLT:=Hi HS.o.g.lt;clear hh hin hi3 HS;go_upto_region 25 with fail;have HW:Hy (m<wr.heap.size/\(wr.setCell ⟨m,11,none⟩ (.int .i64 0)).heap.size=wr.heap.size):=⟨by have h9:=HS1.o.d.mkr.blk.lt;simpa using h9,by simp⟩
  generalize wr.setCell ⟨m,11,none⟩ (.int .i64 0)=w6 at *
  generalize wr.heap.size=N0 at *
  clear c11 f11;have B9:∀ W,MkJ m sv l (MF.mk (.int .i64 unit) ae ae ae ae vax vrg (.slice oa L.length ca) ae) (Value.slice oa L.length ca).ownBlock.toList w6 W->W.cell? ⟨m,9,none⟩=some (.slice oa L.length ca):=λW k=>k.2.elim λ_ h9=>h9.blk.cell 9
  have HI0:MkJ m sv l (MF.mk (.int .i64 unit) ae ae ae ae vax vrg (.slice oa L.length ca) ae) (Value.slice oa L.length ca).ownBlock.toList w6 w6.drew:=⟨((Mod.refl [] w6).drew).more zk,_,MK.stays _ _ HS1.o.d.mkr (mR.drew)⟩
  have HLB:Hy (L.length+1<=maxLen/\(L.length+1)*24<=140737488355328):=by have h4:=HL.o;have h5:=HI3.o;refine ⟨?_,?_⟩;unfold maxLen;omega;omega
  refine Sw.aL (I:=MkJ m sv l (MF.mk (.int .i64 unit) ae ae ae ae vax vrg (.slice oa L.length ca) ae) (Value.slice oa L.length ca).ownBlock.toList w6) (F0:=MG w rb m sv l (MF.mk (.int .i64 unit) ae ae ae ae vax vrg (.slice oa L.length ca) ae) (MF.mk (.int .i64 unit) ae ae ae ae vax vrg ae ae) (aD.mk unit [] [] [] [] AX RG [] []) B3 44 1 cT (λb=>m<b) (.slice oa L.length ca) L ⟨st.r,0⟩) MkJ.then 11 [(0,none),(1,none),(2,none),(3,none),(4,none),(5,none),(6,none),(7,none),(8,some (Ci N0 2 eA hc (MG w rb m sv l (MF.mk (.int .i64 unit) ae ae ae ae vax vrg (.slice oa L.length ca) ae) (MF.mk (.int .i64 unit) ae ae ae ae vax vrg ae ae) (aD.mk unit [] [] [] [] AX RG [] []) B3 44 1 cT (λb=>m<b) (.slice oa L.length ca) L t1))),(9,some (rh w6.heap.size N0 2 eA 44 hc (MG w rb m sv l (MF.mk (.int .i64 unit) ae ae ae ae vax vrg (.slice oa L.length ca) ae) (MF.mk (.int .i64 unit) ae ae ae ae vax vrg ae ae) (aD.mk unit [] [] [] [] AX RG [] []) B3 44 1 cT (λb=>m<b) (.slice oa L.length ca) L t1))),(10,some (MGv w rb m sv l (MF.mk (.int .i64 unit) ae ae ae ae vax vrg (.slice oa L.length ca) ae) (MF.mk (.int .i64 unit) ae ae ae ae vax vrg ae ae) (aD.mk unit [] [] [] [] AX RG [] []) B3 44 1 cT (λb=>m<b) (L.length+1) (L++[hc]) t1))] zt zt (Sq.aW zt) ?hTS55 HI0 (MG.stays cT.stay) (MG.stays cT.stay _ _ HS1.o (mR.drew)) ?mainS55
  case hTS55 =>
   intro p hp T hT v;simp only [List.mem_cons,List.not_mem_nil,or_false] at hp;rcases hp with rfl | rfl | rfl | rfl | rfl | rfl | rfl | rfl | rfl | rfl | rfl <;> first | (cases hT;done) | (cases hT;first | exact MGv.stays cT.stay _ | exact rh.stays eA.stay (MG.stays cT.stay) _ | exact Ci.stays eA.stay (MG.stays cT.stay) _)
  iterate 8 refine Sw.vv HI0 ?_
  refine Sw.xx (λw' hw' hF K Q hK=>?_) (λkv hkv=>?_)
  ·go_wp2_with fail;refine (CH.o w' hF.d.mkr).mono ?_;rintro e w'' ⟨v,rfl,hv,K',M'⟩;obtain ⟨oh,ch,rfl,-⟩:=hv.form;go_wp2;exact hK _ _ ⟨hw'.1.then (M'.more zk),_,K'⟩ ⟨⟨oh,ch,rfl⟩,hv.newer zd eA.weak (nT (Nat.le_of_eq HW.o.2.symm) hw'.1.size),hF.call cT.stay K' M'⟩
  obtain ⟨_,_,⟨oh,ch,rfl⟩,_⟩:=hkv;refine Sw.xx (λw' hw' hF K Q hK=>?_) (λkv hkv=>?_)
  ·go_wp2_with fail;obtain ⟨⟨_,_,he9⟩,hF2⟩:=hF;cases he9;exact hK _ _ (MkJ.then _ _ hw' (mR.alloc _)) ⟨_,_,_,rfl,hw'.1.size,Blk.new _ _ _,uI.stays eA.stay (MG.stays cT.stay) _ _ hF2 (mR.alloc _)⟩
  obtain ⟨_,_,nb,oh9,ch9,rfl,_⟩:=hkv;refine Sw.xx (λw' hw' hF K Q hK=>?_) (λkv hkv=>?_)
  ·obtain ⟨b9,oh9,ch9,he9,-,hB,hrow,hO⟩:=hF;cases he9;refine eN (v:=.slice oa L.length ca) (k:=1) (e:=44) (base:=B3) (l:=L) (l':=[hc]) rfl _ _ 30 rfl cq0 _ 24 Tryz.underlying30 cqi cqz0 cqz1 cqz2 rfl zd cT.stay cT.weak rfl hO.g ⟨nb,0,none⟩ _ _ [[.slice oh9 hc.length ch9]] rfl rfl (aP.one rfl ⟨_,rfl,hrow.apart zd eA.weak HW.o.1 λb hb=>(HLT.o b hb).2⟩) (λj u hu=>bi hB rfl hu) zqb HLB.o.1 HLB.o.2 (nT hO.d.ord.2.2.2 (nR _)) (λv' w'' hGP hgr _=>?_);exact hK _ _ (hw'.grew hgr (hO.push hGP hgr).d.mkr) (hO.p9 hGP hgr)
  obtain ⟨_,_,⟨ov,cv,rfl⟩,_⟩:=hkv;refine Sw.bJ ?_;intro w' hw' hF;simp only [qS,qZ];obtain ⟨⟨ov2,cv2,he9⟩,hO⟩:=hF;cases he9;have HNL:Hy ((L++[hc]).length=L.length+1):=by show _=_;simp
  have c9:w'.cell? ⟨m,9,none⟩=some (.slice oa L.length ca):=hO.d.mkr.blk.cell 9;have f9:=hO.d.mkr.blk.frozen 9;have HS3:=Hi (hO.store cT.stay (f':=(MF.mk (.int .i64 unit) ae ae ae ae vax vrg (.slice ov (L.length+1) cv) ae)) 9 (.slice ov (L.length+1) cv) (λ_ _=>rfl));clear hO hw' HS1 B9 HI0 CH;go_wp2;go_roundg (gk - 1)
  case measure=>have:=hi5.o;have:=HIN.o;omega
  case rel =>
   refine ⟨i+1,L++[hc],t1,ov,cv,by rw [Int.natCast_add];rfl,?_,?_,?_,by rw [HNL.o];exact HS3.o⟩
   ·have:=hi5.o;have:=HIN.o;show i+1+(gk - 1)=KF;omega
   ·show Mk.rep (i+1) fnF [] s5=_;rw [Mk.aR HR.o];exact HX.o
   ·have:=HL.o;show (L++[(_:List bS)]).length=i+1;rw [HNL.o];omega
theorem DN {w:World} {rb m:Nat} {sv:Value} {l:List Int} {unit:Int} {KC B4:Nat} {AX:List bB} {RG:List bv} {FN:List (List bS)} {CV:List Int} {s7 s8:Mk.S} {vax vrg vfn:Value} {w7:World} {x0 x1 x5 x6 x7 x8 x9 x10 x11 x13 x14 x15 x16 x17 x18 x19 x20 x21 x22 x23 x24 x25 x26 x27 x28 x29 x30 x31 x32 x33 x34 x35 x36 x37 x38 x39 x40 x41 x42 x43 x44 x45 x46 x47 x48 x49 x50 x51 x52 x53 x54 x55 x56 x57 x58 x59 x60 x61 x62 x63 x64 x65 x66 x67 x68 x69 x70 x71 x72 x73 x74 x75 x76 x77 x78 x79 x80 x81 x82 x83 x84 x85 x86 x87 x88 x89 x90 x91 x92 x93 x94 x95 x96 x97 x98 x99 x100 x101 x102 x103 x104 x105 x106 x107 x108 x109 x110 x111 x112 x113 x114 x115 x116 x117 x118 x119 x120 x121 x122 x123 x124 x125 x126 x127 x128 x129 x130 x131 x132 x133 x134 x135 x136 x137 x138 x139 x140 x141 x142 x143 x144 x145 x146 x147 x148 x149 x150 x151 x152 x153 x154 x155 x156 x157 x158 x159 x160 x161 x162 x163 x164 x165 x166 x167 x168 x169 x170 x171 x172 x173 x174 x175 x176 x177 x178 x179 x180 x181 x182 x183 x184 x185 x186 x187 x188 x189 x190 x191 x192 x193 x194 x195 x196 x197 x198 x199 x200 x201 x202 x203 x204 x205 x206 x207 x208 x209 x210 x211 x212 x213 x214 x215 x216 x217 x218 x219 x220 x221 x222 x223 x224 x225 x226 x227 x228 x229 x230 x231 x232 x233 x234 x235 x236 x237 x238 x239 x240 x241 x242 x243 x244 x245:Value}
  (H8:Hy (Mk.rep KC cvF [] s7=(CV,s8)))
  (HKC:Hy (KC<4))
  (HG3:Hy (MG w rb m sv l (MF.mk (.int .i64 unit) ae ae ae ae vax vrg vfn ae) (MF.mk (.int .i64 unit) ae ae ae ae vax vrg vfn ae) (aD.mk unit [] [] [] [] AX RG FN []) B4 3 1 aF (λ_=>False) (.slice none 0 0) ([]:List Int) s7 w7))
  {J K':Act->World->Prop} {Q':Exit->Act->World->Prop}
  (h1:∀ (a':Act) (w':World),(∃ u12 u132 u133 u134 u135 u136 u137 u138 u139 u140 u141 u142 u143 u144 u145 u146 u147 u148 u149 u150 u151 u152 u153 u154 u155 u156 u157 u158 u159 u160 u161 u162 u163 u164 u165 u166 u167 u168 u169 u170 u171 u172 u173 u174 u175 u176 u177 u178 u179 u180 u181 u182 u183 u184 u185 u186 u187 u188 u189 u190 u191 u192 u193 u194 u195 u196 u197 u198 u199 u200 u201 u202 u203 u204 u205 u206 u207 u208 u209 u210 u211 u212 u213 u214 u215 u216 u217 u218 u219 u220 u221 u222 u223 u224 u225 u226 u227 u228 u229 u230 u231 u232 u233 u234 u235 u236 u237 u238 u239 u240 u241 u242 u243 u244 u245:Value,(∃ (oa:Option Addr) (ca:Nat),Hy (MD w rb m sv l (MF.mk (.int .i64 unit) ae ae ae ae vax vrg vfn (.slice oa CV.length ca)) (MF.mk (.int .i64 unit) ae ae ae ae vax vrg vfn (.slice oa CV.length ca)) (aD.mk unit [] [] [] [] AX RG FN CV) w'.heap.size s8 w'))/\a'={ tmps:=(x0::x1::.pointer (some ⟨rb,0,none⟩)::.pointer (some ⟨m,0,none⟩)::.int .i64 (KC:Int)::x5::x6::x7::x8::x9::x10::x11::u12::x13::x14::x15::x16::x17::x18::x19::x20::x21::x22::x23::x24::x25::x26::x27::x28::x29::x30::x31::x32::x33::x34::x35::x36::x37::x38::x39::x40::x41::x42::x43::x44::x45::x46::x47::x48::x49::x50::x51::x52::x53::x54::x55::x56::x57::x58::x59::x60::x61::x62::x63::x64::x65::x66::x67::x68::x69::x70::x71::x72::x73::x74::x75::x76::x77::x78::x79::x80::x81::x82::x83::x84::x85::x86::x87::x88::x89::x90::x91::x92::x93::x94::x95::x96::x97::x98::x99::x100::x101::x102::x103::x104::x105::x106::x107::x108::x109::x110::x111::x112::x113::x114::x115::x116::x117::x118::x119::x120::x121::x122::x123::x124::x125::x126::x127::x128::x129::x130::x131::u132::u133::u134::u135::u136::u137::u138::u139::u140::u141::u142::u143::u144::u145::u146::u147::u148::u149::u150::u151::u152::u153::u154::u155::u156::u157::u158::u159::u160::u161::u162::u163::u164::u165::u166::u167::u168::u169::u170::u171::u172::u173::u174::u175::u176::u177::u178::u179::u180::u181::u182::u183::u184::u185::u186::u187::u188::u189::u190::u191::u192::u193::u194::u195::u196::u197::u198::u199::u200::u201::u202::u203::u204::u205::u206::u207::u208::u209::u210::u211::u212::u213::u214::u215::u216::u217::u218::u219::u220::u221::u222::u223::u224::u225::u226::u227::u228::u229::u230::u231::u232::u233::u234::u235::u236::u237::u238::u239::u240::u241::u242::u243::u244::u245::[]).toArray,defers:=[] })->J a' w')
  (h2:∀ (a':Act) (w':World),Met J a' w'->K' a' w') :
  Code.wp Tryz.prog ((iW 8 ((Tryz.f7).body.getD .skip)).getD .skip) (Exit.then K' Q') { tmps:=(x0::x1::.pointer (some ⟨rb,0,none⟩)::.pointer (some ⟨m,0,none⟩)::.int .i64 (KC:Int)::x5::x6::x7::x8::x9::x10::x11::.int .i64 0::x13::x14::x15::x16::x17::x18::x19::x20::x21::x22::x23::x24::x25::x26::x27::x28::x29::x30::x31::x32::x33::x34::x35::x36::x37::x38::x39::x40::x41::x42::x43::x44::x45::x46::x47::x48::x49::x50::x51::x52::x53::x54::x55::x56::x57::x58::x59::x60::x61::x62::x63::x64::x65::x66::x67::x68::x69::x70::x71::x72::x73::x74::x75::x76::x77::x78::x79::x80::x81::x82::x83::x84::x85::x86::x87::x88::x89::x90::x91::x92::x93::x94::x95::x96::x97::x98::x99::x100::x101::x102::x103::x104::x105::x106::x107::x108::x109::x110::x111::x112::x113::x114::x115::x116::x117::x118::x119::x120::x121::x122::x123::x124::x125::x126::x127::x128::x129::x130::x131::x132::x133::x134::x135::x136::x137::x138::x139::x140::x141::x142::x143::x144::x145::x146::x147::x148::x149::x150::x151::x152::x153::x154::x155::x156::x157::x158::x159::x160::x161::x162::x163::x164::x165::x166::x167::x168::x169::x170::x171::x172::x173::x174::x175::x176::x177::x178::x179::x180::x181::x182::x183::x184::x185::x186::x187::x188::x189::x190::x191::x192::x193::x194::x195::x196::x197::x198::x199::x200::x201::x202::x203::x204::x205::x206::x207::x208::x209::x210::x211::x212::x213::x214::x215::x216::x217::x218::x219::x220::x221::x222::x223::x224::x225::x226::x227::x228::x229::x230::x231::x232::x233::x234::x235::x236::x237::x238::x239::x240::x241::x242::x243::x244::x245::[]).toArray,defers:=[] } w7:=by
 have CN:=Hi (λf st x st' n h1 h2 e=>bF m sv l f st n h1 h2 (r:=x) (s':=st') e);obtain ⟨iq0,iqi,iqz0,iqz1,iqz2⟩:=info_parts gN
 conv=>arg 2;whnf
 go_wp2_with fail
 go_loopg [12] KC (λgk v12 wr=>∃ (i:Nat) (L:List Int) (st:Mk.S) (oa:Option Addr) (ca:Nat),v12=.int .i64 (i:Int)/\Hy (i+gk=KC)/\Hy (Mk.rep i cvF [] s7=(L,st))/\Hy (L.length=i)/\Hy (MG w rb m sv l (MF.mk (.int .i64 unit) ae ae ae ae vax vrg vfn (.slice oa L.length ca)) (MF.mk (.int .i64 unit) ae ae ae ae vax vrg vfn ae) (aD.mk unit [] [] [] [] AX RG FN []) B4 3 1 aF (λ_=>False) (.slice oa L.length ca) L st wr))
 case atStart=>exact ⟨0,[],s7,none,0,rfl,by show 0+KC=KC;omega,rfl,rfl,HG3.o⟩
 case round =>
  obtain ⟨i,L,st,oa,ca,rfl,hi5,HR,HL,HS⟩:=hrel;clear HG3
  by_cases hin:i<KC
  case neg =>
   obtain rfl:i=KC:=by have:=hi5.o;omega
   have k1:=dF (p:=(i:Int)<i) zo;obtain ⟨rfl,rfl⟩:L=CV/\st=s8:=by have h9:=H8.o;rw [HR.o] at h9;simpa using h9
   go_wp2;go_meet
   case rel=>exact ⟨oa,ca,MG.D8 (f0:=(MF.mk (.int .i64 unit) ae ae ae ae vax vrg vfn ae)) (F:=(aD.mk unit [] [] [] [] AX RG FN [])) HS.o⟩
  have k1:=dT (p:=(i:Int)<KC) zo;have k2:(i:Int)<KC:=zo;have hi3:i<4:=by have:=HKC.o;omega
  have ei:IntKind.i64.wrap ((i:Int)+1)=(i:Int)+1:=wrapi zo zo;obtain ⟨x,t1,hx⟩:∃ a b,Mk.next 500 st=(a,b):=⟨_,_,rfl⟩
  have ix:=ay zd hx;have x1:IntKind.i64.wrap (x - 100)=x - 100:=wrapi zo zo;have CX:=Hi (CN.o (MF.mk (.int .i64 unit) ae ae ae ae vax vrg vfn (.slice oa L.length ca)) st x t1 500 zd zd hx);have HX:Hy (cvF i L st=(L++[x - 100],t1)):=by unfold cvF;rw [Mk.ai hx];exact rfl
  have HXI:Hy (I64 (x - 100)):=I64.of zo zo;have HIN:=Hi hin;have HI3:=Hi hi3;clear hx ix hin hi3;have B10:∀ W,MkJ m sv l (MF.mk (.int .i64 unit) ae ae ae ae vax vrg vfn (.slice oa L.length ca)) (Value.slice oa L.length ca).ownBlock.toList wr W->W.cell? ⟨m,10,none⟩=some (.slice oa L.length ca):=λW k=>k.2.elim λ_ h9=>h9.blk.cell 10
  have HI0:MkJ m sv l (MF.mk (.int .i64 unit) ae ae ae ae vax vrg vfn (.slice oa L.length ca)) (Value.slice oa L.length ca).ownBlock.toList wr wr.drew:=⟨((Mod.refl [] wr).drew).more zk,_,MK.stays _ _ HS.o.d.mkr (mR.drew)⟩
  have HLB:Hy (L.length+1<=maxLen/\(L.length+1)*8<=140737488355328):=by have h4:=HL.o;have h5:=HI3.o;refine ⟨?_,?_⟩;unfold maxLen;omega;omega
  go_upto_region 30 with fail;refine Sw.aL (I:=MkJ m sv l (MF.mk (.int .i64 unit) ae ae ae ae vax vrg vfn (.slice oa L.length ca)) (Value.slice oa L.length ca).ownBlock.toList wr) (F0:=MG w rb m sv l (MF.mk (.int .i64 unit) ae ae ae ae vax vrg vfn (.slice oa L.length ca)) (MF.mk (.int .i64 unit) ae ae ae ae vax vrg vfn ae) (aD.mk unit [] [] [] [] AX RG FN []) B4 3 1 aF (λ_=>False) (.slice oa L.length ca) L st) MkJ.then 11 [(0,none),(1,none),(2,none),(3,none),(4,none),(5,none),(6,none),(7,some (Rg.iU (MG w rb m sv l (MF.mk (.int .i64 unit) ae ae ae ae vax vrg vfn (.slice oa L.length ca)) (MF.mk (.int .i64 unit) ae ae ae ae vax vrg vfn ae) (aD.mk unit [] [] [] [] AX RG FN []) B4 3 1 aF (λ_=>False) (.slice oa L.length ca) L t1) (.int .i64 x))),(8,none),(9,some (bK wr.heap.size #[.int .i64 (x - 100)] 3 1 (MG w rb m sv l (MF.mk (.int .i64 unit) ae ae ae ae vax vrg vfn (.slice oa L.length ca)) (MF.mk (.int .i64 unit) ae ae ae ae vax vrg vfn ae) (aD.mk unit [] [] [] [] AX RG FN []) B4 3 1 aF (λ_=>False) (.slice oa L.length ca) L t1))),(10,some (MGv w rb m sv l (MF.mk (.int .i64 unit) ae ae ae ae vax vrg vfn (.slice oa L.length ca)) (MF.mk (.int .i64 unit) ae ae ae ae vax vrg vfn ae) (aD.mk unit [] [] [] [] AX RG FN []) B4 3 1 aF (λ_=>False) (L.length+1) (L++[x - 100]) t1))] zt zt (Sq.aW zt) ?hTS184 HI0 (MG.stays aF.stay) (MG.stays aF.stay _ _ HS.o (mR.drew)) ?mainS184
  case hTS184 =>
   intro p hp T hT v;simp only [List.mem_cons,List.not_mem_nil,or_false] at hp;rcases hp with rfl | rfl | rfl | rfl | rfl | rfl | rfl | rfl | rfl | rfl | rfl <;> first | (cases hT;done) | (cases hT;first | exact MGv.stays aF.stay _ | exact bK.stays (MG.stays aF.stay) _ | exact Rg.cZ (MG.stays aF.stay) _ _)
  iterate 7 refine Sw.vv HI0 ?_
  refine Sw.xx (λw' hw' hF K Q hK=>?_) (λkv hkv=>?_)
  ·go_wp2_with fail;refine (CX.o w' hF.d.mkr).mono ?_;rintro e w'' ⟨rfl,K',M'⟩;go_wp2;exact hK _ _ ⟨hw'.1.then (M'.more zk),_,K'⟩ ⟨rfl,hF.call aF.stay K' M'⟩
  obtain ⟨_,_,rfl,_⟩:=hkv;refine Sw.vv HI0 ?_;refine Sw.xx (λw' hw' hF K Q hK=>?_) (λkv hkv=>?_)
  ·go_wp2;exact hK _ _ (MkJ.then _ _ hw' (mR.alloc _)) ⟨⟨_,rfl,hw'.1.size,Blk.new _ _ _⟩,MG.stays aF.stay _ _ hF.2 (mR.alloc _)⟩
  obtain ⟨_,_,⟨nb,rfl,hnb,_⟩,_⟩:=hkv;refine Sw.xx (λw' hw' hF K Q hK=>?_) (λkv hkv=>?_)
  ·obtain ⟨⟨b9,he9,-,hB⟩,hO⟩:=hF;cases he9;refine eN (v:=.slice oa L.length ca) (k:=1) (e:=3) (base:=B4) (l:=L) (l':=[x - 100]) rfl _ _ 22 rfl iq0 _ 8 Tryz.underlying22 iqi iqz0 iqz1 iqz2 rfl zd aF.stay aF.weak rfl hO.g ⟨nb,0,none⟩ _ _ [[.int .i64 (x - 100)]] rfl rfl (aP.one rfl ⟨rfl,HXI.o⟩) (λj u hu=>bi hB rfl hu) zqb HLB.o.1 HLB.o.2 (nT hO.d.ord.2.2.2 (nR _)) (λv' w'' hGP hgr _=>?_);exact hK _ _ (hw'.grew hgr (hO.push hGP hgr).d.mkr) (hO.p9 hGP hgr)
  obtain ⟨_,_,⟨ov,cv,rfl⟩,_⟩:=hkv;refine Sw.bJ ?_;intro w' hw' hF;simp only [qS,qZ];obtain ⟨⟨ov2,cv2,he9⟩,hO⟩:=hF;cases he9;have HNL:Hy ((L++[x - 100]).length=L.length+1):=by show _=_;simp
  have c10:w'.cell? ⟨m,10,none⟩=some (.slice oa L.length ca):=hO.d.mkr.blk.cell 10;have f10:=hO.d.mkr.blk.frozen 10;have HS3:=Hi (hO.store aF.stay (f':=(MF.mk (.int .i64 unit) ae ae ae ae vax vrg vfn (.slice ov (L.length+1) cv))) 10 (.slice ov (L.length+1) cv) (λ_ _=>rfl));clear hO hw' HS B10 HI0 CX;go_wp2;go_roundg (gk - 1)
  case measure=>have:=hi5.o;have:=HIN.o;omega
  case rel =>
   refine ⟨i+1,L++[x - 100],t1,ov,cv,by rw [Int.natCast_add];rfl,?_,?_,?_,by rw [HNL.o];exact HS3.o⟩
   ·have:=hi5.o;have:=HIN.o;show i+1+(gk - 1)=KC;omega
   ·show Mk.rep (i+1) cvF [] s7=_;rw [Mk.aR HR.o];exact HX.o
   ·have:=HL.o;show (L++[(_:Int)]).length=i+1;rw [HNL.o];omega
theorem xN {w:World} {rb m:Nat} {sv:Value} {l:List Int} {unit:Int} {KG B5:Nat} {AX:List bB} {RG:List bv} {FN:List (List bS)} {CV:List Int} {GL:List av} {s9 s10:Mk.S} {oy oy2:Option Addr} {cy cy2:Nat} {vax vrg vfn vcv:Value} {w8:World} {x0 x1 x5 x6 x7 x8 x9 x10 x11 x12 x14 x15 x16 x17 x18 x19 x20 x21 x22 x23 x24 x25 x26 x27 x28 x29 x30 x31 x32 x33 x34 x35 x36 x37 x38 x39 x40 x41 x42 x43 x44 x45 x46 x47 x48 x49 x50 x51 x52 x53 x54 x55 x56 x57 x58 x59 x60 x61 x62 x63 x64 x65 x66 x67 x68 x69 x70 x71 x72 x73 x74 x75 x76 x77 x78 x79 x80 x81 x82 x83 x84 x85 x86 x87 x88 x89 x90 x91 x92 x93 x94 x95 x96 x97 x98 x99 x100 x101 x102 x103 x104 x105 x106 x107 x108 x109 x110 x111 x112 x113 x114 x115 x116 x117 x118 x119 x120 x121 x122 x123 x124 x125 x126 x127 x128 x129 x130 x131 x132 x133 x134 x135 x136 x137 x138 x139 x140 x141 x142 x143 x144 x145 x146 x147 x148 x149 x150 x151 x152 x153 x154 x155 x156 x157 x158 x159 x160 x161 x162 x163 x164 x165 x166 x167 x168 x169 x170 x171 x172 x173 x174 x175 x176 x177 x178 x179 x180 x181 x182 x183 x184 x185 x186 x187 x188 x189 x190 x191 x192 x193 x194 x195 x196 x197 x198 x199 x200 x201 x202 x203 x204 x205 x206 x207 x208 x209 x210 x211 x212 x213 x214 x215 x216 x217 x218 x219 x220 x221 x222 x223 x224 x225 x226 x227 x228 x229 x230 x231 x232 x233 x234 x235 x236 x237 x238 x239 x240 x241 x242 x243 x244 x245:Value}
  (H10:Hy (Mk.rep KG (glF RG.length FN.length) [] s9=(GL,s10)))
  (HKG:Hy (2<=KG/\KG<=10))
  (HRFL:Hy (RG.length<=20/\FN.length<=100))
  (HVRG:Hy (vrg=.slice oy RG.length cy))
  (HVFN:Hy (vfn=.slice oy2 FN.length cy2))
  (HG4:Hy (MG w rb m sv l (MF.mk (.int .i64 unit) ae ae ae ae vax vrg vfn vcv) (MF.mk (.int .i64 unit) ae ae ae ae vax vrg vfn vcv) (aD.mk unit [] [] [] [] AX RG FN CV) B5 46 9 bO (λb=>m<b) (.slice none 0 0) ([]:List av) s9 w8))
  {J K':Act->World->Prop} {Q':Exit->Act->World->Prop}
  (h1:∀ (a':Act) (w':World),(∃ u13 u154 u155 u156 u157 u158 u159 u160 u161 u162 u163 u164 u165 u166 u167 u168 u169 u170 u171 u172 u173 u174 u175 u176 u177 u178 u179 u180 u181 u182 u183 u184 u185 u186 u187 u188 u189 u190 u191 u192 u193 u194 u195 u196 u197 u198 u199 u200 u201 u202 u203 u204 u205 u206 u207 u208 u209 u210 u211 u212 u213 u214 u215 u216 u217 u218 u219 u220 u221 u222 u223 u224 u225 u226 u227 u228 u229 u230 u231 u232 u233 u234 u235 u236 u237 u238 u239 u240 u241 u242 u243 u244 u245:Value,(∃ (oa:Option Addr) (ca:Nat),Hy (MD w rb m sv l (MF.mk (.int .i64 unit) (.slice oa KG ca) ae ae ae vax vrg vfn vcv) (MF.mk (.int .i64 unit) (.slice oa KG ca) ae ae ae vax vrg vfn vcv) (aD.mk unit GL [] [] [] AX RG FN CV) w'.heap.size s10 w'))/\a'={ tmps:=(x0::x1::.pointer (some ⟨rb,0,none⟩)::.pointer (some ⟨m,0,none⟩)::.int .i64 (KG:Int)::x5::x6::x7::x8::x9::x10::x11::x12::u13::x14::x15::x16::x17::x18::x19::x20::x21::x22::x23::x24::x25::x26::x27::x28::x29::x30::x31::x32::x33::x34::x35::x36::x37::x38::x39::x40::x41::x42::x43::x44::x45::x46::x47::x48::x49::x50::x51::x52::x53::x54::x55::x56::x57::x58::x59::x60::x61::x62::x63::x64::x65::x66::x67::x68::x69::x70::x71::x72::x73::x74::x75::x76::x77::x78::x79::x80::x81::x82::x83::x84::x85::x86::x87::x88::x89::x90::x91::x92::x93::x94::x95::x96::x97::x98::x99::x100::x101::x102::x103::x104::x105::x106::x107::x108::x109::x110::x111::x112::x113::x114::x115::x116::x117::x118::x119::x120::x121::x122::x123::x124::x125::x126::x127::x128::x129::x130::x131::x132::x133::x134::x135::x136::x137::x138::x139::x140::x141::x142::x143::x144::x145::x146::x147::x148::x149::x150::x151::x152::x153::u154::u155::u156::u157::u158::u159::u160::u161::u162::u163::u164::u165::u166::u167::u168::u169::u170::u171::u172::u173::u174::u175::u176::u177::u178::u179::u180::u181::u182::u183::u184::u185::u186::u187::u188::u189::u190::u191::u192::u193::u194::u195::u196::u197::u198::u199::u200::u201::u202::u203::u204::u205::u206::u207::u208::u209::u210::u211::u212::u213::u214::u215::u216::u217::u218::u219::u220::u221::u222::u223::u224::u225::u226::u227::u228::u229::u230::u231::u232::u233::u234::u235::u236::u237::u238::u239::u240::u241::u242::u243::u244::u245::[]).toArray,defers:=[] })->J a' w')
  (h2:∀ (a':Act) (w':World),Met J a' w'->K' a' w') :
  Code.wp Tryz.prog ((iW 10 ((Tryz.f7).body.getD .skip)).getD .skip) (Exit.then K' Q') { tmps:=(x0::x1::.pointer (some ⟨rb,0,none⟩)::.pointer (some ⟨m,0,none⟩)::.int .i64 (KG:Int)::x5::x6::x7::x8::x9::x10::x11::x12::.int .i64 0::x14::x15::x16::x17::x18::x19::x20::x21::x22::x23::x24::x25::x26::x27::x28::x29::x30::x31::x32::x33::x34::x35::x36::x37::x38::x39::x40::x41::x42::x43::x44::x45::x46::x47::x48::x49::x50::x51::x52::x53::x54::x55::x56::x57::x58::x59::x60::x61::x62::x63::x64::x65::x66::x67::x68::x69::x70::x71::x72::x73::x74::x75::x76::x77::x78::x79::x80::x81::x82::x83::x84::x85::x86::x87::x88::x89::x90::x91::x92::x93::x94::x95::x96::x97::x98::x99::x100::x101::x102::x103::x104::x105::x106::x107::x108::x109::x110::x111::x112::x113::x114::x115::x116::x117::x118::x119::x120::x121::x122::x123::x124::x125::x126::x127::x128::x129::x130::x131::x132::x133::x134::x135::x136::x137::x138::x139::x140::x141::x142::x143::x144::x145::x146::x147::x148::x149::x150::x151::x152::x153::x154::x155::x156::x157::x158::x159::x160::x161::x162::x163::x164::x165::x166::x167::x168::x169::x170::x171::x172::x173::x174::x175::x176::x177::x178::x179::x180::x181::x182::x183::x184::x185::x186::x187::x188::x189::x190::x191::x192::x193::x194::x195::x196::x197::x198::x199::x200::x201::x202::x203::x204::x205::x206::x207::x208::x209::x210::x211::x212::x213::x214::x215::x216::x217::x218::x219::x220::x221::x222::x223::x224::x225::x226::x227::x228::x229::x230::x231::x232::x233::x234::x235::x236::x237::x238::x239::x240::x241::x242::x243::x244::x245::[]).toArray,defers:=[] } w8:=by
 have CN:=Hi (λf st x st' n h1 h2 e=>bF m sv l f st n h1 h2 (r:=x) (s':=st') e)
 conv=>arg 2;whnf
 go_wp2_with fail
 go_loopg [13] KG (λgk v13 wr=>∃ (i:Nat) (L:List av) (st:Mk.S) (oa:Option Addr) (ca:Nat),v13=.int .i64 (i:Int)/\Hy (i+gk=KG)/\Hy (Mk.rep i (glF RG.length FN.length) [] s9=(L,st))/\Hy (L.length=i)/\Hy (MG w rb m sv l (MF.mk (.int .i64 unit) (.slice oa L.length ca) ae ae ae vax vrg vfn vcv) (MF.mk (.int .i64 unit) ae ae ae ae vax vrg vfn vcv) (aD.mk unit [] [] [] [] AX RG FN CV) B5 46 9 bO (λb=>m<b) (.slice oa L.length ca) L st wr))
 case atStart=>exact ⟨0,[],s9,none,0,rfl,by show 0+KG=KG;omega,rfl,rfl,HG4.o⟩
 case round =>
  obtain ⟨i,L,st,oa,ca,rfl,hi5,HR,HL,HS⟩:=hrel;clear HG4
  by_cases hin:i<KG
  case neg =>
   obtain rfl:i=KG:=by have:=hi5.o;omega
   have k1:=dF (p:=(i:Int)<i) zo;obtain ⟨rfl,rfl⟩:L=GL/\st=s10:=by have h9:=H10.o;rw [HR.o] at h9;simpa using h9
   have HSD:Hy (MD w rb m sv l (MF.mk (.int .i64 unit) (.slice oa i ca) ae ae ae vax vrg vfn vcv) (MF.mk (.int .i64 unit) (.slice oa i ca) ae ae ae vax vrg vfn vcv) (aD.mk unit L [] [] [] AX RG FN CV) wr.heap.size st wr):=by
    have h8:=MG.D6 (f0:=(MF.mk (.int .i64 unit) ae ae ae ae vax vrg vfn vcv)) (F:=(aD.mk unit [] [] [] [] AX RG FN CV)) HS.o;rw [HL.o] at h8;exact h8
   go_wp2;go_meet
   case rel=>exact ⟨oa,ca,HSD⟩
  have k1:=dT (p:=(i:Int)<KG) zo;have k2:(i:Int)<KG:=zo;have hi3:i<20:=by have:=HKG.o;omega
  have ei:IntKind.i64.wrap ((i:Int)+1)=(i:Int)+1:=wrapi zo zo;obtain ⟨x,t1,hx⟩:∃ a b,Mk.glyph i RG.length FN.length st=(a,b):=⟨_,_,rfl⟩
  have CX:=Hi (BC m B5 sv l (MF.mk (.int .i64 unit) (.slice oa L.length ca) ae ae ae vax vrg vfn vcv) st i RG.length FN.length zo HRFL.o.1 HRFL.o.2 HVRG.o HVFN.o (L:=L) zqc hx wr HS.o.d.mkr ⟨HS.o.d.ord.2.2.1,HS.o.d.ord.2.2.2⟩ HS.o.g);have HX:Hy (glF RG.length FN.length i L st=(L++[x],t1)):=by unfold glF;rw [Mk.ai hx];exact rfl
  have HIN:=Hi hin;clear hx hin hi3;go_wp2_with fail;refine CX.o.mono ?_;rintro e w9 ⟨v',rfl,hG',K',M'⟩;have HS3:Hy (MG w rb m sv l (MF.mk (.int .i64 unit) v' ae ae ae vax vrg vfn vcv) (MF.mk (.int .i64 unit) ae ae ae ae vax vrg vfn vcv) (aD.mk unit [] [] [] [] AX RG FN CV) B5 46 9 bO (λb=>m<b) v' (L++[x]) t1 w9) :=
   ⟨HS.o.d.DG K' M' (λb hb=>(HS.o.g.lt b (by simpa using hb)).1),hG',λ_ h=>h⟩
  obtain ⟨ov,cv,rfl⟩:=hG'.form;clear hG' K' M' CX HS;go_wp2;go_roundg (gk - 1)
  case measure=>have:=hi5.o;have:=HIN.o;omega
  case rel =>
   refine ⟨i+1,L++[x],t1,ov,cv,by rw [Int.natCast_add];rfl,?_,?_,?_,HS3.o⟩
   ·have:=hi5.o;have:=HIN.o;show i+1+(gk - 1)=KG;omega
   ·show Mk.rep (i+1) (glF RG.length FN.length) [] s9=_;rw [Mk.aR HR.o];exact HX.o
   ·have:=HL.o;show (L++[(_:av)]).length=i+1;simp;omega
theorem Aa {w:World} {rb m:Nat} {sv:Value} {l:List Int} {unit:Int} {KG B6 ub cg:Nat} {og:Option Addr} {AX:List bB} {RG:List bv} {FN:List (List bS)} {CV:List Int} {GL:List av} {CH:List dc} {s10 s11:Mk.S} {vax vrg vfn vcv:Value} {w9:World} {x0 x1 x4 x5 x6 x7 x8 x9 x10 x11 x12 x13 x16 x17 x18 x19 x20 x21 x22 x23 x24 x25 x26 x27 x28 x29 x30 x31 x32 x33 x34 x35 x36 x37 x38 x39 x40 x41 x42 x43 x44 x45 x46 x47 x48 x49 x50 x51 x52 x53 x54 x55 x56 x57 x58 x59 x60 x61 x62 x63 x64 x65 x66 x67 x68 x69 x70 x71 x72 x73 x74 x75 x76 x77 x78 x79 x80 x81 x82 x83 x84 x85 x86 x87 x88 x89 x90 x91 x92 x93 x94 x95 x96 x97 x98 x99 x100 x101 x102 x103 x104 x105 x106 x107 x108 x109 x110 x111 x112 x113 x114 x115 x116 x117 x118 x119 x120 x121 x122 x123 x124 x125 x126 x127 x128 x129 x130 x131 x132 x133 x134 x135 x136 x137 x138 x139 x140 x141 x142 x143 x144 x145 x146 x147 x148 x149 x150 x151 x152 x153 x154 x155 x156 x157 x158 x159 x160 x161 x162 x163 x164 x165 x166 x167 x168 x169 x170 x171 x172 x173 x174 x175 x176 x177 x178 x179 x180 x181 x182 x183 x184 x185 x186 x187 x188 x189 x190 x191 x192 x193 x194 x195 x196 x197 x198 x199 x200 x201 x202 x203 x204 x205 x206 x207 x208 x209 x210 x211 x212 x213 x214 x215 x216 x217 x218 x219 x220 x221 x222 x223 x224 x225 x226 x227 x228 x229 x230 x231 x232 x233 x234 x235 x236 x237 x238 x239 x240 x241 x242 x243 x244 x245:Value}
  (H11:Hy (Mk.rep 16 (chF KG) [] s10=(CH,s11)))
  (HKG:Hy (2<=KG/\KG<=10))
  (HUB:Hy (Blk w9 ub lS 3/\ub≠m))
  (HUL:Hy (ub<B6))
  (HG5:Hy (MG w rb m sv l (MF.mk (.int .i64 unit) (.slice og KG cg) ae ae ae vax vrg vfn vcv) (MF.mk (.int .i64 unit) (.slice og KG cg) ae ae ae vax vrg vfn vcv) (aD.mk unit GL [] [] [] AX RG FN CV) B6 37 2 cV (λ_=>False) (.slice none 0 0) ([]:List dc) s10 w9))
  {J K':Act->World->Prop} {Q':Exit->Act->World->Prop}
  (h1:∀ (a':Act) (w':World),(∃ u15 u163 u164 u165 u166 u167 u168 u169 u170 u171 u172 u173 u174 u175 u176 u177 u178 u179 u180 u181 u182 u183 u184 u185 u186 u187 u188 u189 u190 u191 u192 u193 u194 u195 u196 u197 u198 u199 u200 u201 u202 u203 u204 u205 u206 u207 u208 u209 u210 u211 u212 u213 u214 u215 u216 u217 u218 u219 u220 u221 u222 u223 u224 u225 u226 u227 u228 u229 u230 u231 u232 u233 u234 u235 u236 u237 u238 u239 u240 u241 u242 u243 u244 u245:Value,(∃ (oa:Option Addr) (ca:Nat),Hy (MD w rb m sv l (MF.mk (.int .i64 unit) (.slice og KG cg) (.slice oa CH.length ca) ae ae vax vrg vfn vcv) (MF.mk (.int .i64 unit) (.slice og KG cg) (.slice oa CH.length ca) ae ae vax vrg vfn vcv) (aD.mk unit GL CH [] [] AX RG FN CV) w'.heap.size s11 w'))/\a'={ tmps:=(x0::x1::.pointer (some ⟨rb,0,none⟩)::.pointer (some ⟨m,0,none⟩)::x4::x5::x6::x7::x8::x9::x10::x11::x12::x13::.slice (some ⟨ub,0,none⟩) 16 16::u15::x16::x17::x18::x19::x20::x21::x22::x23::x24::x25::x26::x27::x28::x29::x30::x31::x32::x33::x34::x35::x36::x37::x38::x39::x40::x41::x42::x43::x44::x45::x46::x47::x48::x49::x50::x51::x52::x53::x54::x55::x56::x57::x58::x59::x60::x61::x62::x63::x64::x65::x66::x67::x68::x69::x70::x71::x72::x73::x74::x75::x76::x77::x78::x79::x80::x81::x82::x83::x84::x85::x86::x87::x88::x89::x90::x91::x92::x93::x94::x95::x96::x97::x98::x99::x100::x101::x102::x103::x104::x105::x106::x107::x108::x109::x110::x111::x112::x113::x114::x115::x116::x117::x118::x119::x120::x121::x122::x123::x124::x125::x126::x127::x128::x129::x130::x131::x132::x133::x134::x135::x136::x137::x138::x139::x140::x141::x142::x143::x144::x145::x146::x147::x148::x149::x150::x151::x152::x153::x154::x155::x156::x157::x158::x159::x160::x161::x162::u163::u164::u165::u166::u167::u168::u169::u170::u171::u172::u173::u174::u175::u176::u177::u178::u179::u180::u181::u182::u183::u184::u185::u186::u187::u188::u189::u190::u191::u192::u193::u194::u195::u196::u197::u198::u199::u200::u201::u202::u203::u204::u205::u206::u207::u208::u209::u210::u211::u212::u213::u214::u215::u216::u217::u218::u219::u220::u221::u222::u223::u224::u225::u226::u227::u228::u229::u230::u231::u232::u233::u234::u235::u236::u237::u238::u239::u240::u241::u242::u243::u244::u245::[]).toArray,defers:=[] })->J a' w')
  (h2:∀ (a':Act) (w':World),Met J a' w'->K' a' w') :
  Code.wp Tryz.prog ((iW 12 ((Tryz.f7).body.getD .skip)).getD .skip) (Exit.then K' Q') { tmps:=(x0::x1::.pointer (some ⟨rb,0,none⟩)::.pointer (some ⟨m,0,none⟩)::x4::x5::x6::x7::x8::x9::x10::x11::x12::x13::.slice (some ⟨ub,0,none⟩) 16 16::.int .i64 0::x16::x17::x18::x19::x20::x21::x22::x23::x24::x25::x26::x27::x28::x29::x30::x31::x32::x33::x34::x35::x36::x37::x38::x39::x40::x41::x42::x43::x44::x45::x46::x47::x48::x49::x50::x51::x52::x53::x54::x55::x56::x57::x58::x59::x60::x61::x62::x63::x64::x65::x66::x67::x68::x69::x70::x71::x72::x73::x74::x75::x76::x77::x78::x79::x80::x81::x82::x83::x84::x85::x86::x87::x88::x89::x90::x91::x92::x93::x94::x95::x96::x97::x98::x99::x100::x101::x102::x103::x104::x105::x106::x107::x108::x109::x110::x111::x112::x113::x114::x115::x116::x117::x118::x119::x120::x121::x122::x123::x124::x125::x126::x127::x128::x129::x130::x131::x132::x133::x134::x135::x136::x137::x138::x139::x140::x141::x142::x143::x144::x145::x146::x147::x148::x149::x150::x151::x152::x153::x154::x155::x156::x157::x158::x159::x160::x161::x162::x163::x164::x165::x166::x167::x168::x169::x170::x171::x172::x173::x174::x175::x176::x177::x178::x179::x180::x181::x182::x183::x184::x185::x186::x187::x188::x189::x190::x191::x192::x193::x194::x195::x196::x197::x198::x199::x200::x201::x202::x203::x204::x205::x206::x207::x208::x209::x210::x211::x212::x213::x214::x215::x216::x217::x218::x219::x220::x221::x222::x223::x224::x225::x226::x227::x228::x229::x230::x231::x232::x233::x234::x235::x236::x237::x238::x239::x240::x241::x242::x243::x244::x245::[]).toArray,defers:=[] } w9:=by
 have CN:=Hi (λf st x st' n h1 h2 e=>bF m sv l f st n h1 h2 (r:=x) (s':=st') e);obtain ⟨hq0,hqi,hqz0,hqz1,hqz2⟩:=info_parts tq
 conv=>arg 2;whnf
 go_wp2_with fail
 go_loopg [15] 16 (λgk v15 wr=>∃ (i:Nat) (L:List dc) (st:Mk.S) (oa:Option Addr) (ca:Nat),v15=.int .i64 (i:Int)/\Hy (i+gk=16)/\Hy (Mk.rep i (chF KG) [] s10=(L,st))/\Hy (L.length<=i)/\Hy (Blk wr ub lS 3)/\Hy (MG w rb m sv l (MF.mk (.int .i64 unit) (.slice og KG cg) (.slice oa L.length ca) ae ae vax vrg vfn vcv) (MF.mk (.int .i64 unit) (.slice og KG cg) ae ae ae vax vrg vfn vcv) (aD.mk unit GL [] [] [] AX RG FN CV) B6 37 2 cV (λ_=>False) (.slice oa L.length ca) L st wr))
 case atStart=>exact ⟨0,[],s10,none,0,rfl,by show 0+16=16;omega,rfl,nR _,HUB.o.1,HG5.o⟩
 case round =>
  obtain ⟨i,L,st,oa,ca,rfl,hi5,HR,HL,HUW,HS⟩:=hrel;clear HG5
  by_cases hin:i<16
  case neg =>
   obtain rfl:i=16:=by have:=hi5.o;omega
   have k1:decide (((16:Nat):Int)<16)=false:=rfl;obtain ⟨rfl,rfl⟩:L=CH/\st=s11:=by have h9:=H11.o;rw [HR.o] at h9;simpa using h9
   go_wp2;go_meet
   case rel=>exact ⟨oa,ca,MG.D9 (f0:=(MF.mk (.int .i64 unit) (.slice og KG cg) ae ae ae vax vrg vfn vcv)) (F:=(aD.mk unit GL [] [] [] AX RG FN CV)) HS.o⟩
  have k1:=dT (p:=(i:Int)<16) zo;have k2:(i:Int)<16:=zo;have k3:(0:Int)<=i:=zo;have ei:IntKind.i64.wrap ((i:Int)+1)=(i:Int)+1:=wrapi zo zo;obtain ⟨z,t1,hz⟩:∃ a b,Mk.next 4 st=(a,b):=⟨_,_,rfl⟩
  have iz:=ay zd hz;have CZ:=Hi (CN.o (MF.mk (.int .i64 unit) (.slice og KG cg) (.slice oa L.length ca) ae ae vax vrg vfn vcv) st z t1 4 zd zd hz wr HS.o.d.mkr);have HZ:=Hi hz;have HIN:=Hi hin;clear hz hin;go_wp2_with fail;refine CZ.o.mono ?_;rintro e w10 ⟨rfl,K2,M2⟩;have HUX:=Hi (HS.o.d.rG HUW.o HUB.o.2 M2);have HS1:=Hi (HS.o.call cV.stay K2 M2);clear K2 M2 CZ HS HUW
  by_cases hz0:0<z
  case neg =>
   have k4:=dF (p:=0<z) hz0;have HX:Hy (chF KG i L st=(L,t1)):=by unfold chF;rw [Mk.ai HZ.o,if_neg hz0];exact rfl
   clear hz0 iz;go_wp2;go_roundg (gk - 1)
   case measure=>have:=hi5.o;have:=HIN.o;omega
   case rel =>
    refine ⟨i+1,L,t1,oa,ca,by rw [Int.natCast_add];rfl,?_,?_,?_,HUX,HS1.o⟩
    ·have:=hi5.o;have:=HIN.o;show i+1+(gk - 1)=16;omega
    ·show Mk.rep (i+1) (chF KG) [] s10=_;rw [Mk.aR HR.o];exact HX.o
    ·have:=HL.o;show L.length<=i+1;omega
  have k4:=dT (p:=0<z) hz0;obtain ⟨x,t2,hx⟩:∃ a b,Mk.next KG t1=(a,b):=⟨_,_,rfl⟩
  have hKG0:(0:Int)<KG:=by have:=HKG.o;omega
  have hKG1:(KG:Int)<=1000000:=by have:=HKG.o;omega
  have ix:=ay hKG0 hx;have CX:=Hi (CN.o (MF.mk (.int .i64 unit) (.slice og KG cg) (.slice oa L.length ca) ae ae vax vrg vfn vcv) t1 x t2 KG hKG0 hKG1 hx);have hru:=xV i HIN.o;obtain ⟨ru,hrv⟩:∃ ru,ru=Mk.runes.getD i 0:=⟨_,rfl⟩
  rw [<- hrv] at hru;have HX:Hy (chF KG i L st=(L++[⟨ru,x⟩],t2)):=by rw [hrv];unfold chF;rw [Mk.ai HZ.o,if_pos hz0,Mk.ai hx];exact rfl
  have HXI:Hy (I64 ru/\I64 x):=⟨hru.2,I64.of zo (by have:=HKG.o;omega)⟩
  have HRU:=Hi hru.1;clear hz0 iz hx ix hru hrv hKG0 hKG1;have B4:∀ W,MkJ m sv l (MF.mk (.int .i64 unit) (.slice og KG cg) (.slice oa L.length ca) ae ae vax vrg vfn vcv) (Value.slice oa L.length ca).ownBlock.toList w10 W->W.cell? ⟨m,4,none⟩=some (.slice oa L.length ca):=λW k=>k.2.elim λ_ h9=>h9.blk.cell 4
  have B3:∀ W,MkJ m sv l (MF.mk (.int .i64 unit) (.slice og KG cg) (.slice oa L.length ca) ae ae vax vrg vfn vcv) (Value.slice oa L.length ca).ownBlock.toList w10 W->W.cell? ⟨m,3,none⟩=some (.slice og KG cg):=λW k=>k.2.elim λ_ h9=>h9.blk.cell 3
  have HNO:Hy (ub ∉ (Value.slice oa L.length ca).ownBlock.toList):=λhm=>by have h8:=(HS1.o.g.lt ub zqq).1;have h9:=HUL.o;omega
  have A0:∀ W,MkJ m sv l (MF.mk (.int .i64 unit) (.slice og KG cg) (.slice oa L.length ca) ae ae vax vrg vfn vcv) (Value.slice oa L.length ca).ownBlock.toList w10 W->W.cell? ⟨ub,i,none⟩=some (.int .i64 ru):=λW k=>(HUX.o.mkj k HUB.o.2 HNO.o i).trans HRU.o
  have HI0:MkJ m sv l (MF.mk (.int .i64 unit) (.slice og KG cg) (.slice oa L.length ca) ae ae vax vrg vfn vcv) (Value.slice oa L.length ca).ownBlock.toList w10 w10.drew:=⟨((Mod.refl [] w10).drew).more zk,_,MK.stays _ _ HS1.o.d.mkr (mR.drew)⟩
  have HLB:Hy (L.length+1<=maxLen/\(L.length+1)*16<=140737488355328):=by have h4:=HL.o;have h5:=HIN.o;refine ⟨?_,?_⟩;unfold maxLen;omega;omega
  go_upto_region 41 with fail;refine Sw.aL (I:=MkJ m sv l (MF.mk (.int .i64 unit) (.slice og KG cg) (.slice oa L.length ca) ae ae vax vrg vfn vcv) (Value.slice oa L.length ca).ownBlock.toList w10) (F0:=MG w rb m sv l (MF.mk (.int .i64 unit) (.slice og KG cg) (.slice oa L.length ca) ae ae vax vrg vfn vcv) (MF.mk (.int .i64 unit) (.slice og KG cg) ae ae ae vax vrg vfn vcv) (aD.mk unit GL [] [] [] AX RG FN CV) B6 37 2 cV (λ_=>False) (.slice oa L.length ca) L t1) MkJ.then 21 [(0,none),(1,none),(2,none),(3,none),(4,none),(5,none),(6,none),(7,none),(8,none),(9,none),(10,none),(11,none),(12,none),(13,none),(14,none),(15,none),(16,none),(17,some (Rg.iU (MG w rb m sv l (MF.mk (.int .i64 unit) (.slice og KG cg) (.slice oa L.length ca) ae ae vax vrg vfn vcv) (MF.mk (.int .i64 unit) (.slice og KG cg) ae ae ae vax vrg vfn vcv) (aD.mk unit GL [] [] [] AX RG FN CV) B6 37 2 cV (λ_=>False) (.slice oa L.length ca) L t2) (.int .i64 x))),(18,none),(19,some (bK w10.heap.size #[.int .i64 ru,.int .i64 x] 37 1 (MG w rb m sv l (MF.mk (.int .i64 unit) (.slice og KG cg) (.slice oa L.length ca) ae ae vax vrg vfn vcv) (MF.mk (.int .i64 unit) (.slice og KG cg) ae ae ae vax vrg vfn vcv) (aD.mk unit GL [] [] [] AX RG FN CV) B6 37 2 cV (λ_=>False) (.slice oa L.length ca) L t2))),(20,some (MGv w rb m sv l (MF.mk (.int .i64 unit) (.slice og KG cg) (.slice oa L.length ca) ae ae vax vrg vfn vcv) (MF.mk (.int .i64 unit) (.slice og KG cg) ae ae ae vax vrg vfn vcv) (aD.mk unit GL [] [] [] AX RG FN CV) B6 37 2 cV (λ_=>False) (L.length+1) (L++[⟨ru,x⟩]) t2))] zt zt (Sq.aW zt) ?hTS86 HI0 (MG.stays cV.stay) (MG.stays cV.stay _ _ HS1.o (mR.drew)) ?mainS86
  case hTS86 =>
   intro p hp T hT v;simp only [List.mem_cons,List.not_mem_nil,or_false] at hp;rcases hp with rfl | rfl | rfl | rfl | rfl | rfl | rfl | rfl | rfl | rfl | rfl | rfl | rfl | rfl | rfl | rfl | rfl | rfl | rfl | rfl | rfl <;> first | (cases hT;done) | (cases hT;first | exact MGv.stays cV.stay _ | exact bK.stays (MG.stays cV.stay) _ | exact Rg.cZ (MG.stays cV.stay) _ _)
  iterate 17 refine Sw.vv HI0 ?_
  refine Sw.xx (λw' hw' hF K Q hK=>?_) (λkv hkv=>?_)
  ·go_wp2_with fail;refine (CX.o w' hF.d.mkr).mono ?_;rintro e w'' ⟨rfl,K',M'⟩;go_wp2;exact hK _ _ ⟨hw'.1.then (M'.more zk),_,K'⟩ ⟨rfl,hF.call cV.stay K' M'⟩
  obtain ⟨_,_,rfl,_⟩:=hkv;refine Sw.vv HI0 ?_;refine Sw.xx (λw' hw' hF K Q hK=>?_) (λkv hkv=>?_)
  ·go_wp2;exact hK _ _ (MkJ.then _ _ hw' (mR.alloc _)) ⟨⟨_,rfl,hw'.1.size,Blk.new _ _ _⟩,MG.stays cV.stay _ _ hF.2 (mR.alloc _)⟩
  obtain ⟨_,_,⟨nb,rfl,hnb,_⟩,_⟩:=hkv;refine Sw.xx (λw' hw' hF K Q hK=>?_) (λkv hkv=>?_)
  ·obtain ⟨⟨b9,he9,-,hB⟩,hO⟩:=hF;cases he9;refine eN (v:=.slice oa L.length ca) (k:=2) (e:=37) (base:=B6) (l:=L) (l':=[⟨ru,x⟩]) rfl _ _ 25 rfl hq0 _ 16 Tryz.underlying25 hqi hqz0 hqz1 hqz2 rfl zd cV.stay cV.weak rfl hO.g ⟨nb,0,none⟩ _ _ [[.int .i64 ru,.int .i64 x]] rfl rfl (aP.one rfl ⟨rfl,HXI.o.1,HXI.o.2⟩) (λj u hu=>bi hB rfl hu) zqb HLB.o.1 HLB.o.2 (nT hO.d.ord.2.2.2 (nR _)) (λv' w'' hGP hgr _=>?_);exact hK _ _ (hw'.grew hgr (hO.push hGP hgr).d.mkr) (hO.p9 hGP hgr)
  obtain ⟨_,_,⟨ov,cv,rfl⟩,_⟩:=hkv;refine Sw.bJ ?_;intro w' hw' hF;simp only [qS,qZ];obtain ⟨⟨ov2,cv2,he9⟩,hO⟩:=hF;cases he9;have HNL:Hy ((L++[(⟨ru,x⟩:dc)]).length=L.length+1):=by show _=_;simp
  have c4:w'.cell? ⟨m,4,none⟩=some (.slice oa L.length ca):=hO.d.mkr.blk.cell 4;have f4:=hO.d.mkr.blk.frozen 4;have HUY:Hy (Blk (w'.setCell ⟨m,4,none⟩ (.slice ov (L.length+1) cv)) ub lS 3):=(HUX.o.kept hw'.1 zqn).other (by show m≠ub;exact λh=>HUB.o.2 h.symm) _;have HS3:=Hi (hO.store cV.stay (f':=(MF.mk (.int .i64 unit) (.slice og KG cg) (.slice ov (L.length+1) cv) ae ae vax vrg vfn vcv)) 4 (.slice ov (L.length+1) cv) (λ_ _=>rfl));clear hO hw' HS1 B3 B4 A0 HI0 CX;go_wp2;go_roundg (gk - 1)
  case measure=>have:=hi5.o;have:=HIN.o;omega
  case rel =>
   refine ⟨i+1,L++[⟨ru,x⟩],t2,ov,cv,by rw [Int.natCast_add];rfl,?_,?_,?_,HUY,by rw [HNL.o];exact HS3.o⟩
   ·have:=hi5.o;have:=HIN.o;show i+1+(gk - 1)=16;omega
   ·show Mk.rep (i+1) (chF KG) [] s10=_;rw [Mk.aR HR.o];exact HX.o
   ·have:=HL.o;show (L++[(_:dc)]).length<=i+1;rw [HNL.o];omega
theorem zZ {w:World} {rb m:Nat} {sv:Value} {l:List Int} {unit:Int} {KG B7 ub cg cl:Nat} {og ol:Option Addr} {AX:List bB} {RG:List bv} {FN:List (List bS)} {CV:List Int} {GL:List av} {CH:List dc} {LK:List ar} {FT:List aA} {s12 s13:Mk.S} {vax vrg vfn vcv vch:Value} {w12:World} {x0 x1 x4 x5 x6 x7 x8 x9 x10 x11 x12 x13 x14 x15 x18 x19 x20 x21 x22 x23 x24 x25 x26 x27 x28 x29 x30 x31 x32 x33 x34 x35 x36 x37 x38 x39 x40 x41 x42 x43 x44 x45 x46 x47 x48 x49 x50 x51 x52 x53 x54 x55 x56 x57 x58 x59 x60 x61 x62 x63 x64 x65 x66 x67 x68 x69 x70 x71 x72 x73 x74 x75 x76 x77 x78 x79 x80 x81 x82 x83 x84 x85 x86 x87 x88 x89 x90 x91 x92 x93 x94 x95 x96 x97 x98 x99 x100 x101 x102 x103 x104 x105 x106 x107 x108 x109 x110 x111 x112 x113 x114 x115 x116 x117 x118 x119 x120 x121 x122 x123 x124 x125 x126 x127 x128 x129 x130 x131 x132 x133 x134 x135 x136 x137 x138 x139 x140 x141 x142 x143 x144 x145 x146 x147 x148 x149 x150 x151 x152 x153 x154 x155 x156 x157 x158 x159 x160 x161 x162 x163 x164 x165 x166 x167 x168 x169 x170 x171 x172 x173 x174 x175 x176 x177 x178 x179 x180 x181 x182 x183 x184 x185 x186 x187 x188 x189 x190 x191 x192 x193 x194 x195 x196 x197 x198 x199 x200 x201 x202 x203 x204 x205 x206 x207 x208 x209 x210 x211 x212 x213 x214 x215 x216 x217 x218 x219 x220 x221 x222 x223 x224 x225 x226 x227 x228 x229 x230 x231 x232 x233 x234 x235 x236 x237 x238 x239 x240 x241 x242 x243 x244 x245:Value}
  (H13:Hy (Mk.rep 8 (ftF LK.length) [] s12=(FT,s13)))
  (HLKL:Hy (LK.length<=100))
  (HUB:Hy (Blk w12 ub iR 9/\ub≠m))
  (HUL:Hy (ub<B7))
  (HG6:Hy (MG w rb m sv l (MF.mk (.int .i64 unit) (.slice og KG cg) vch (.slice ol LK.length cl) ae vax vrg vfn vcv) (MF.mk (.int .i64 unit) (.slice og KG cg) vch (.slice ol LK.length cl) ae vax vrg vfn vcv) (aD.mk unit GL CH LK [] AX RG FN CV) B7 88 2 aU (λb=>m<b) (.slice none 0 0) ([]:List aA) s12 w12))
  {J K':Act->World->Prop} {Q':Exit->Act->World->Prop}
  (h1:∀ (a':Act) (w':World),(∃ u17 u18 u19 u199 u200 u201 u202 u203 u204 u205 u206 u207 u208 u209 u210 u211 u212 u213 u214 u215 u216 u217 u218 u219 u220 u221 u222 u223 u224 u225 u226 u227 u228 u229 u230 u231 u232 u233 u234 u235 u236 u237 u238 u239 u240 u241 u242 u243 u244 u245:Value,(∃ (oa:Option Addr) (ca:Nat),Hy (MD w rb m sv l (MF.mk (.int .i64 unit) (.slice og KG cg) vch (.slice ol LK.length cl) (.slice oa FT.length ca) vax vrg vfn vcv) (MF.mk (.int .i64 unit) (.slice og KG cg) vch (.slice ol LK.length cl) (.slice oa FT.length ca) vax vrg vfn vcv) (aD.mk unit GL CH LK FT AX RG FN CV) w'.heap.size s13 w'))/\a'={ tmps:=(x0::x1::.pointer (some ⟨rb,0,none⟩)::.pointer (some ⟨m,0,none⟩)::x4::x5::x6::x7::x8::x9::x10::x11::x12::x13::x14::x15::.slice (some ⟨ub,0,none⟩) 8 8::u17::u18::u19::x20::x21::x22::x23::x24::x25::x26::x27::x28::x29::x30::x31::x32::x33::x34::x35::x36::x37::x38::x39::x40::x41::x42::x43::x44::x45::x46::x47::x48::x49::x50::x51::x52::x53::x54::x55::x56::x57::x58::x59::x60::x61::x62::x63::x64::x65::x66::x67::x68::x69::x70::x71::x72::x73::x74::x75::x76::x77::x78::x79::x80::x81::x82::x83::x84::x85::x86::x87::x88::x89::x90::x91::x92::x93::x94::x95::x96::x97::x98::x99::x100::x101::x102::x103::x104::x105::x106::x107::x108::x109::x110::x111::x112::x113::x114::x115::x116::x117::x118::x119::x120::x121::x122::x123::x124::x125::x126::x127::x128::x129::x130::x131::x132::x133::x134::x135::x136::x137::x138::x139::x140::x141::x142::x143::x144::x145::x146::x147::x148::x149::x150::x151::x152::x153::x154::x155::x156::x157::x158::x159::x160::x161::x162::x163::x164::x165::x166::x167::x168::x169::x170::x171::x172::x173::x174::x175::x176::x177::x178::x179::x180::x181::x182::x183::x184::x185::x186::x187::x188::x189::x190::x191::x192::x193::x194::x195::x196::x197::x198::u199::u200::u201::u202::u203::u204::u205::u206::u207::u208::u209::u210::u211::u212::u213::u214::u215::u216::u217::u218::u219::u220::u221::u222::u223::u224::u225::u226::u227::u228::u229::u230::u231::u232::u233::u234::u235::u236::u237::u238::u239::u240::u241::u242::u243::u244::u245::[]).toArray,defers:=[] })->J a' w')
  (h2:∀ (a':Act) (w':World),Met J a' w'->K' a' w') :
  Code.wp Tryz.prog ((iW 14 ((Tryz.f7).body.getD .skip)).getD .skip) (Exit.then K' Q') { tmps:=(x0::x1::.pointer (some ⟨rb,0,none⟩)::.pointer (some ⟨m,0,none⟩)::x4::x5::x6::x7::x8::x9::x10::x11::x12::x13::x14::x15::.slice (some ⟨ub,0,none⟩) 8 8::.int .i64 0::x18::x19::x20::x21::x22::x23::x24::x25::x26::x27::x28::x29::x30::x31::x32::x33::x34::x35::x36::x37::x38::x39::x40::x41::x42::x43::x44::x45::x46::x47::x48::x49::x50::x51::x52::x53::x54::x55::x56::x57::x58::x59::x60::x61::x62::x63::x64::x65::x66::x67::x68::x69::x70::x71::x72::x73::x74::x75::x76::x77::x78::x79::x80::x81::x82::x83::x84::x85::x86::x87::x88::x89::x90::x91::x92::x93::x94::x95::x96::x97::x98::x99::x100::x101::x102::x103::x104::x105::x106::x107::x108::x109::x110::x111::x112::x113::x114::x115::x116::x117::x118::x119::x120::x121::x122::x123::x124::x125::x126::x127::x128::x129::x130::x131::x132::x133::x134::x135::x136::x137::x138::x139::x140::x141::x142::x143::x144::x145::x146::x147::x148::x149::x150::x151::x152::x153::x154::x155::x156::x157::x158::x159::x160::x161::x162::x163::x164::x165::x166::x167::x168::x169::x170::x171::x172::x173::x174::x175::x176::x177::x178::x179::x180::x181::x182::x183::x184::x185::x186::x187::x188::x189::x190::x191::x192::x193::x194::x195::x196::x197::x198::x199::x200::x201::x202::x203::x204::x205::x206::x207::x208::x209::x210::x211::x212::x213::x214::x215::x216::x217::x218::x219::x220::x221::x222::x223::x224::x225::x226::x227::x228::x229::x230::x231::x232::x233::x234::x235::x236::x237::x238::x239::x240::x241::x242::x243::x244::x245::[]).toArray,defers:=[] } w12:=by
 have CN:=Hi (λf st x st' n h1 h2 e=>bF m sv l f st n h1 h2 (r:=x) (s':=st') e);obtain ⟨fq0,fqi,fqz0,fqz1,fqz2⟩:=info_parts mU;obtain ⟨iq0,iqi,iqz0,iqz1,iqz2⟩:=info_parts gN
 conv=>arg 2;whnf
 go_wp2_with fail
 go_loopg [17,18,19] 8 (λgk v17 v18 v19 wr=>∃ (i:Nat) (L:List aA) (st:Mk.S) (oa:Option Addr) (ca:Nat),v17=.int .i64 (i:Int)/\Hy (i+gk=8)/\Hy (Mk.rep i (ftF LK.length) [] s12=(L,st))/\Hy (L.length<=i)/\Hy (Blk wr ub iR 9)/\Hy (MG w rb m sv l (MF.mk (.int .i64 unit) (.slice og KG cg) vch (.slice ol LK.length cl) (.slice oa L.length ca) vax vrg vfn vcv) (MF.mk (.int .i64 unit) (.slice og KG cg) vch (.slice ol LK.length cl) ae vax vrg vfn vcv) (aD.mk unit GL CH LK [] AX RG FN CV) B7 88 2 aU (λb=>m<b) (.slice oa L.length ca) L st wr))
 case atStart=>exact ⟨0,[],s12,none,0,rfl,by show 0+8=8;omega,rfl,nR _,HUB.o.1,HG6.o⟩
 case round =>
  obtain ⟨i,L,st,oa,ca,rfl,hi5,HR,HL,HUW,HS⟩:=hrel;clear HG6
  by_cases hin:i<8
  case neg =>
   obtain rfl:i=8:=by have:=hi5.o;omega
   have k1:decide (((8:Nat):Int)<8)=false:=rfl;obtain ⟨rfl,rfl⟩:L=FT/\st=s13:=by have h9:=H13.o;rw [HR.o] at h9;simpa using h9
   go_wp2;go_meet
   case rel=>exact ⟨oa,ca,MG.D7 (f0:=(MF.mk (.int .i64 unit) (.slice og KG cg) vch (.slice ol LK.length cl) ae vax vrg vfn vcv)) (F:=(aD.mk unit GL CH LK [] AX RG FN CV)) HS.o⟩
  have k1:=dT (p:=(i:Int)<8) zo;have k2:(i:Int)<8:=zo;have k3:(0:Int)<=i:=zo;have ei:IntKind.i64.wrap ((i:Int)+1)=(i:Int)+1:=wrapi zo zo;obtain ⟨TT,t1,hT⟩:∃ a b,Mk.rep LK.length ftR [] st=(a,b):=⟨_,_,rfl⟩
  have HT:=Hi hT;have HTL:Hy (TT.length<=LK.length):=by
   have a1:=Mk.bH (f:=ftR) (a:=[]) (s:=st) (n:=LK.length) (λi (r:List Int)=>r.length<=i) (nR _) λi r s _ h=>by
    show (if _ then _ else _:List Int).length<=i+1
    split
    ·simp;exact h
    ·exact Nat.le_succ_of_le h
   rw [hT] at a1;exact a1
  have HIN:=Hi hin;have HF0:=Hi (gt.start HS.o);clear hT hin HS;generalize gk=G at *
  generalize wr.heap.size=C0 at HF0;go_upto_block 16 with fail
  go_cut [18,19] from 205 to 221 (λv18 v19 wx=>∃ (ot:Option Addr) (ct:Nat),v18=.slice ot TT.length ct/\Hy (Blk wx ub iR 9)/\Hy (gt w rb m sv l (MF.mk (.int .i64 unit) (.slice og KG cg) vch (.slice ol LK.length cl) (.slice oa L.length ca) vax vrg vfn vcv) (MF.mk (.int .i64 unit) (.slice og KG cg) vch (.slice ol LK.length cl) ae vax vrg vfn vcv) (aD.mk unit GL CH LK [] AX RG FN CV) B7 (.slice oa L.length ca) L C0 (.slice ot TT.length ct) TT t1 wx))
  case first =>
   go_wp2_with fail
   go_loopg [18,19] LK.length (λgj v18 v19 ws=>∃ (j:Nat) (T:List Int) (su:Mk.S) (ot:Option Addr) (ct:Nat),v18=.slice ot T.length ct/\v19=.int .i64 (j:Int)/\Hy (j+gj=LK.length)/\Hy (Mk.rep j ftR [] st=(T,su))/\Hy (T.length<=j)/\Hy (Blk ws ub iR 9)/\Hy (gt w rb m sv l (MF.mk (.int .i64 unit) (.slice og KG cg) vch (.slice ol LK.length cl) (.slice oa L.length ca) vax vrg vfn vcv) (MF.mk (.int .i64 unit) (.slice og KG cg) vch (.slice ol LK.length cl) ae vax vrg vfn vcv) (aD.mk unit GL CH LK [] AX RG FN CV) B7 (.slice oa L.length ca) L C0 (.slice ot T.length ct) T su ws))
   case atStart=>exact ⟨0,[],st,none,0,rfl,rfl,by show 0+LK.length=LK.length;omega,rfl,nR _,HUW.o,HF0.o⟩
   case round =>
    obtain ⟨j,T,su,ot,ct,rfl,rfl,hj5,HRT,HTT,HUX,HS⟩:=hrel;clear HF0 HUW;have c5:wr.cell? ⟨m,5,none⟩=some (.slice ol LK.length cl):=HS.o.g.d.mkr.blk.cell 5
    by_cases hjn:j<LK.length
    case neg =>
     have hj9:j=LK.length:=by have:=hj5.o;omega
     have k5:=dF (p:=(j:Int)<LK.length) zo;obtain ⟨rfl,rfl⟩:T=TT/\su=t1:=by have h9:=HT.o;rw [<- hj9,HRT.o] at h9;simpa using h9
     have HJ9:=Hi hj9;clear hj9;go_wp2;go_meet
     case rel=>exact ⟨ot,ct,rfl,HUX,HS⟩
    have k5:=dT (p:=(j:Int)<LK.length) zo;have k6:(j:Int)<LK.length:=zo;have hj3:j<100:=by have:=HLKL.o;omega
    have ej:IntKind.i64.wrap ((j:Int)+1)=(j:Int)+1:=wrapi zo zo;obtain ⟨z,su1,hz⟩:∃ a b,Mk.next 3 su=(a,b):=⟨_,_,rfl⟩
    have CZ:=Hi (CN.o (MF.mk (.int .i64 unit) (.slice og KG cg) vch (.slice ol LK.length cl) (.slice oa L.length ca) vax vrg vfn vcv) su z su1 3 zd zd hz wr HS.o.g.d.mkr);have HZ:=Hi hz;have HJN:=Hi hjn;have HJ3:=Hi hj3;clear hz hjn hj3;go_wp2_with fail;refine CZ.o.mono ?_;rintro e w13 ⟨rfl,K2,M2⟩;have HUY:=Hi (HS.o.g.d.rG HUX.o HUB.o.2 M2);have HS1:=Hi (HS.o.call K2 M2);clear K2 M2 CZ HS HUX c5
    by_cases hz0:z=0
    case neg =>
     have k7:(z == 0)=false:=beq_false_of_ne hz0;have k8:=dF (p:=z=0) hz0;have HXT:Hy (ftR j T su=(T,su1)):=by unfold ftR;rw [Mk.ai HZ.o,if_neg hz0];exact rfl
     go_wp2;go_roundg (gk - 1)
     case measure=>have:=hj5.o;have:=HJN.o;omega
     case rel =>
      refine ⟨j+1,T,su1,ot,ct,rfl,by rw [Int.natCast_add];rfl,?_,?_,?_,HUY,HS1.o⟩
      ·have:=hj5.o;have:=HJN.o;show j+1+(gk - 1)=LK.length;omega
      ·show Mk.rep (j+1) ftR [] st=_;rw [Mk.aR HRT.o];exact HXT.o
      ·have:=HTT.o;show T.length<=j+1;omega
    subst hz0;have HXT:Hy (ftR j T su=(T++[(j:Int)],su1)):=by unfold ftR;rw [Mk.ai HZ.o,if_pos rfl];exact rfl
    have al:Mod [] w13 (w13.alloc (.cells #[.int .i64 (j:Int)] 3)):=mR.alloc _;have HS2:=Hi (gt.stays _ _ HS1.o al);have HUZ:Hy (Blk (w13.alloc (.cells #[.int .i64 (j:Int)] 3)) ub iR 9):=HUY.o.kept al zk;have HCL:Hy (C0<=(w13.alloc (.cells #[.int .i64 (j:Int)] 3)).heap.size):=nT HS1.o.sz al.size;clear HS1 HUY al HZ;go_wp2_with (at_builtin;refine aO (k:=1) (e:=3) (base:=C0) (l:=T) (l':=[(j:Int)]) rfl _ _ 22 rfl iq0 _ 8 Tryz.underlying22 iqi iqz0 iqz1 iqz2 rfl zd aF.stay aF.weak rfl HS2.o.gr ⟨w13.heap.size,0,none⟩ _ _ [[.int .i64 (j:Int)]] rfl rfl (aP.one rfl ⟨rfl,?_⟩) (λq u hu=>bi (Blk.new w13 #[.int .i64 (j:Int)] 3) rfl hu) zqb ?_ ?_ HCL.o ?_)
    ·exact I64.of zo (by have:=HJ3.o;omega)
    ·have h4:=HTT.o;have h5:=HJ3.o;unfold maxLen;simp;omega
    ·have h4:=HTT.o;have h5:=HJ3.o;simp;omega
    intro v' w14 hGP hgr _;obtain ⟨ot',ct',rfl⟩:=hGP.form;have HNL:Hy ((T++[(j:Int)]).length=T.length+1):=by show _=_;simp
    have HUV:Hy (Blk w14 ub iR 9):=HUZ.o.grew hgr λhb=>by have h8:=(HS2.o.gr.lt ub hb).1;have h9:=HUL.o;have h7:=HS2.o.lt.1;omega
    have HS3:=Hi (HS2.o.push hGP hgr);clear hGP hgr HS2 HUZ HCL;go_wp2;go_roundg (gk - 1)
    case measure=>have:=hj5.o;have:=HJN.o;omega
    case rel =>
     refine ⟨j+1,T++[(j:Int)],su1,ot',ct',rfl,by rw [Int.natCast_add];rfl,?_,?_,?_,HUV,HS3.o⟩
     ·have:=hj5.o;have:=HJN.o;show j+1+(gk - 1)=LK.length;omega
     ·show Mk.rep (j+1) ftR [] st=_;rw [Mk.aR HRT.o];exact HXT.o
     ·have:=HTT.o;show (T++[(_:Int)]).length<=j+1;rw [HNL.o];omega
  case rest =>
  obtain ⟨ot,ct,rfl,HUX,HS⟩:=hcut;clear HF0 HUW;obtain ⟨z,t2,hz⟩:∃ a b,Mk.next 2 t1=(a,b):=⟨_,_,rfl⟩
  have CZ:=Hi (CN.o (MF.mk (.int .i64 unit) (.slice og KG cg) vch (.slice ol LK.length cl) (.slice oa L.length ca) vax vrg vfn vcv) t1 z t2 2 zd zd hz wc HS.o.g.d.mkr);have HX:Hy (ftF LK.length i L st=(if z=0 then L++[⟨Mk.names.getD i ByteArray.empty,TT⟩] else L,t2)):=by unfold ftF;rw [Mk.ai HT.o,Mk.ai hz];exact rfl
  clear hz HT;go_wp2_with fail;refine CZ.o.mono ?_;rintro e w15 ⟨rfl,K2,M2⟩;have HUY:=Hi (HS.o.g.d.rG HUX.o HUB.o.2 M2);have HS1:=Hi (HS.o.call K2 M2);clear K2 M2 CZ HS HUX
  by_cases hz0:z=0
  case neg =>
   have k7:(z == 0)=false:=beq_false_of_ne hz0;have k8:=dF (p:=z=0) hz0;rw [if_neg hz0] at HX;go_wp2;go_roundg (G - 1)
   case measure=>have:=hi5.o;have:=HIN.o;omega
   case rel =>
    refine ⟨i+1,L,t2,oa,ca,by rw [Int.natCast_add];rfl,?_,?_,?_,HUY,HS1.o.fin⟩
    ·have:=hi5.o;have:=HIN.o;show i+1+(G - 1)=8;omega
    ·show Mk.rep (i+1) (ftF LK.length) [] s12=_;rw [Mk.aR HR.o];exact HX.o
    ·have:=HL.o;show L.length<=i+1;omega
  subst hz0;rw [if_pos rfl] at HX;have hnm:=yG i HIN.o;obtain ⟨nm,hnv⟩:∃ nm,nm=Mk.names.getD i ByteArray.empty:=⟨_,rfl⟩
  rw [<- hnv] at hnm HX;have HNM:=Hi hnm;clear hnm hnv;have HNO:Hy (ub ∉ (Value.slice oa L.length ca).ownBlock.toList):=λhm=>by have h8:=(HS1.o.g.g.lt ub zqq).1;have h9:=HUL.o;omega
  have B6:∀ W,MkJ m sv l (MF.mk (.int .i64 unit) (.slice og KG cg) vch (.slice ol LK.length cl) (.slice oa L.length ca) vax vrg vfn vcv) (Value.slice oa L.length ca).ownBlock.toList w15 W->W.cell? ⟨m,6,none⟩=some (.slice oa L.length ca):=λW k=>k.2.elim λ_ h9=>h9.blk.cell 6
  have A0:∀ W,MkJ m sv l (MF.mk (.int .i64 unit) (.slice og KG cg) vch (.slice ol LK.length cl) (.slice oa L.length ca) vax vrg vfn vcv) (Value.slice oa L.length ca).ownBlock.toList w15 W->W.cell? ⟨ub,i,none⟩=some (.string nm):=λW k=>(HUY.o.mkj k HUB.o.2 HNO.o i).trans HNM.o.1
  have HI0:MkJ m sv l (MF.mk (.int .i64 unit) (.slice og KG cg) vch (.slice ol LK.length cl) (.slice oa L.length ca) vax vrg vfn vcv) (Value.slice oa L.length ca).ownBlock.toList w15 w15.drew:=⟨((Mod.refl [] w15).drew).more zk,_,MK.stays _ _ HS1.o.g.d.mkr (mR.drew)⟩
  have HLB:Hy (L.length+1<=maxLen/\(L.length+1)*40<=140737488355328):=by have h4:=HL.o;have h5:=HIN.o;refine ⟨?_,?_⟩;unfold maxLen;omega;omega
  go_upto_region 54 with fail;refine Sw.aL (I:=MkJ m sv l (MF.mk (.int .i64 unit) (.slice og KG cg) vch (.slice ol LK.length cl) (.slice oa L.length ca) vax vrg vfn vcv) (Value.slice oa L.length ca).ownBlock.toList w15) (F0:=gt w rb m sv l (MF.mk (.int .i64 unit) (.slice og KG cg) vch (.slice ol LK.length cl) (.slice oa L.length ca) vax vrg vfn vcv) (MF.mk (.int .i64 unit) (.slice og KG cg) vch (.slice ol LK.length cl) ae vax vrg vfn vcv) (aD.mk unit GL CH LK [] AX RG FN CV) B7 (.slice oa L.length ca) L C0 (.slice ot TT.length ct) TT t2) MkJ.then 14 [(0,none),(1,none),(2,none),(3,none),(4,none),(5,none),(6,none),(7,none),(8,none),(9,none),(10,none),(11,none),(12,some (bK w15.heap.size #[.string nm,(.slice ot TT.length ct)] 88 1 (gt w rb m sv l (MF.mk (.int .i64 unit) (.slice og KG cg) vch (.slice ol LK.length cl) (.slice oa L.length ca) vax vrg vfn vcv) (MF.mk (.int .i64 unit) (.slice og KG cg) vch (.slice ol LK.length cl) ae vax vrg vfn vcv) (aD.mk unit GL CH LK [] AX RG FN CV) B7 (.slice oa L.length ca) L C0 (.slice ot TT.length ct) TT t2))),(13,some (MGv w rb m sv l (MF.mk (.int .i64 unit) (.slice og KG cg) vch (.slice ol LK.length cl) (.slice oa L.length ca) vax vrg vfn vcv) (MF.mk (.int .i64 unit) (.slice og KG cg) vch (.slice ol LK.length cl) ae vax vrg vfn vcv) (aD.mk unit GL CH LK [] AX RG FN CV) B7 88 2 aU (λb=>m<b) (L.length+1) (L++[⟨nm,TT⟩]) t2))] zt zt (Sq.aW zt) ?hTS174 HI0 gt.stays (gt.stays _ _ HS1.o (mR.drew)) ?mainS174
  case hTS174 =>
   intro p hp T hT v;simp only [List.mem_cons,List.not_mem_nil,or_false] at hp;rcases hp with rfl | rfl | rfl | rfl | rfl | rfl | rfl | rfl | rfl | rfl | rfl | rfl | rfl | rfl <;> first | (cases hT;done) | (cases hT;first | exact MGv.stays aU.stay _ | exact bK.stays gt.stays _)
  iterate 12 refine Sw.vv HI0 ?_
  refine Sw.xx (λw' hw' hF K Q hK=>?_) (λkv hkv=>?_)
  ·go_wp2;exact hK _ _ (MkJ.then _ _ hw' (mR.alloc _)) ⟨⟨_,rfl,hw'.1.size,Blk.new _ _ _⟩,gt.stays _ _ hF (mR.alloc _)⟩
  obtain ⟨_,_,⟨nb,rfl,hnb,_⟩,_⟩:=hkv;refine Sw.xx (λw' hw' hF K Q hK=>?_) (λkv hkv=>?_)
  ·obtain ⟨⟨b9,he9,-,hB⟩,hO⟩:=hF;cases he9;refine eN (v:=.slice oa L.length ca) (k:=2) (e:=88) (base:=B7) (l:=L) (l':=[⟨nm,TT⟩]) rfl _ _ 27 rfl fq0 _ 40 Tryz.underlying27 fqi fqz0 fqz1 fqz2 rfl zd aU.stay aU.weak rfl hO.fin.g ⟨nb,0,none⟩ _ _ [[.string nm,(.slice ot TT.length ct)]] rfl rfl (hO.elem HNM.o.2) (λj u hu=>bi hB rfl hu) (hO.one nm) HLB.o.1 HLB.o.2 (nT hO.g.d.ord.2.2.2 (nR _)) (λv' w'' hGP hgr _=>?_);exact hK _ _ (hw'.grew hgr (hO.fin.push hGP hgr).d.mkr) (hO.fin.p9 hGP hgr)
  obtain ⟨_,_,⟨ov,cv,rfl⟩,_⟩:=hkv;refine Sw.bJ ?_;intro w' hw' hF;simp only [qS,qZ];obtain ⟨⟨ov2,cv2,he9⟩,hO⟩:=hF;cases he9;have HNL:Hy ((L++[(⟨nm,TT⟩:aA)]).length=L.length+1):=by show _=_;simp
  have c6:w'.cell? ⟨m,6,none⟩=some (.slice oa L.length ca):=hO.d.mkr.blk.cell 6;have f6:=hO.d.mkr.blk.frozen 6;have HUV:Hy (Blk (w'.setCell ⟨m,6,none⟩ (.slice ov (L.length+1) cv)) ub iR 9):=(HUY.o.kept hw'.1 zqn).other (by show m≠ub;exact λh=>HUB.o.2 h.symm) _;have HS3:=Hi (hO.store aU.stay (f':=(MF.mk (.int .i64 unit) (.slice og KG cg) vch (.slice ol LK.length cl) (.slice ov (L.length+1) cv) vax vrg vfn vcv)) 6 (.slice ov (L.length+1) cv) (λ_ _=>rfl));clear hO hw' HS1 B6 A0 HI0 HUY;go_wp2;go_roundg (G - 1)
  case measure=>have:=hi5.o;have:=HIN.o;omega
  case rel =>
   refine ⟨i+1,L++[⟨nm,TT⟩],t2,ov,cv,by rw [Int.natCast_add];rfl,?_,?_,?_,HUV,by rw [HNL.o];exact HS3.o⟩
   ·have:=hi5.o;have:=HIN.o;show i+1+(G - 1)=8;omega
   ·show Mk.rep (i+1) (ftF LK.length) [] s12=_;rw [Mk.aR HR.o];exact HX.o
   ·have:=HL.o;show (L++[(_:aA)]).length<=i+1;rw [HNL.o];omega
theorem A9 (l:List Int) (sv:Value) (w:World) (hs:az 1 aF (λb=>b<w.heap.size) w sv l) :
  Calls Tryz.prog 7 #[sv] w λe w'=>∃ cs,e=.returned (.agg cs)/\kw (λb=>w.heap.size<=b) w' cs.toList (Mk.made l)/\(ky (cs.toList.getD 1 ae)/\ky (cs.toList.getD 4 ae))/\Mod [] w w':=by
 obtain ⟨u,s1,h1⟩:∃ a b,Mk.next 4 ⟨l,0⟩=(a,b):=⟨_,_,rfl⟩
 obtain ⟨ka,s2,h2⟩:∃ a b,Mk.next 3 s1=(a,b):=⟨_,_,rfl⟩
 obtain ⟨AX,s3,h3⟩:∃ a b,Mk.axes ka.toNat s2=(a,b):=⟨_,_,rfl⟩
 obtain ⟨RG,s4,h4⟩:∃ a b,Mk.regions ka.toNat s3=(a,b):=⟨_,_,rfl⟩
 obtain ⟨kf,s5,h5⟩:∃ a b,Mk.next 3 s4=(a,b):=⟨_,_,rfl⟩
 obtain ⟨FN,s6,h6⟩:∃ a b,Mk.rep kf.toNat fnF [] s5=(a,b):=⟨_,_,rfl⟩
 obtain ⟨kc,s7,h7⟩:∃ a b,Mk.next 4 s6=(a,b):=⟨_,_,rfl⟩
 obtain ⟨CV,s8,h8⟩:∃ a b,Mk.rep kc.toNat cvF [] s7=(a,b):=⟨_,_,rfl⟩
 obtain ⟨kg,s9,h9⟩:∃ a b,Mk.next 9 s8=(a,b):=⟨_,_,rfl⟩
 obtain ⟨GL,s10,h10⟩:∃ a b,Mk.rep (2+kg).toNat (glF RG.length FN.length) [] s9=(a,b):=⟨_,_,rfl⟩
 have i9:=ay zd h9;obtain ⟨CH,s11,h11⟩:∃ a b,Mk.rep 16 (chF ((2+kg).toNat:Nat)) [] s10=(a,b):=⟨_,_,rfl⟩
 obtain ⟨LK,s12,h12⟩:∃ a b,Mk.lookups ((2+kg).toNat:Nat) s11=(a,b):=⟨_,_,rfl⟩
 obtain ⟨FT,s13,h13⟩:∃ a b,Mk.rep 8 (ftF LK.length) [] s12=(a,b):=⟨_,_,rfl⟩
 have i1:=ay zd h1;have i5:=ay zd h5;have i7:=ay zd h7;have i2:=ay zd h2;obtain ⟨U,rfl⟩:∃ K:Nat,u=K:=⟨u.toNat,by omega⟩
 obtain ⟨KA,rfl⟩:∃ K:Nat,ka=K:=⟨ka.toNat,by omega⟩
 obtain ⟨KF,rfl⟩:∃ K:Nat,kf=K:=⟨kf.toNat,by omega⟩
 obtain ⟨KC,rfl⟩:∃ K:Nat,kc=K:=⟨kc.toNat,by omega⟩
 obtain ⟨KG,hKG⟩:∃ K:Nat,2+kg=K:=⟨(2+kg).toNat,by omega⟩
 have eg:IntKind.i64.wrap (2+kg)=(KG:Int):=by rw [wrapi zo zo];exact hKG
 rw [hKG] at h10 h11 h12;rw [Int.toNat_natCast] at h3 h4 h6 h8 h10 h11 h12;have HRFL:Hy (RG.length<=20/\FN.length<=100):=by
  have a1:=t7 KA s3;have a2:=dG (f:=fnF) (λ_ _ _=>List.length_append) KF s5;rw [h4] at a1;rw [h6] at a2;exact ⟨a1,by show FN.length<=100;have:FN.length=KF:=a2;omega⟩
 rw [Mk.ll] at h3;obtain ⟨oa0,cap0,rfl,-⟩:=hs.form;have CN:=Hi (λf st x st' n h1 h2 e=>bF (w.heap.size+1) (.slice oa0 l.length cap0) l f st n h1 h2 (r:=x) (s':=st') e);have H1:=Hi h1;have H2:=Hi h2;have H3:=Hi h3;have H4:=Hi h4;have H5:=Hi h5;have H6:=Hi h6;have H7:=Hi h7;have H8:=Hi h8;have H9:=Hi h9;have H10:=Hi h10;have HMD:Hy (Mk.made l=⟨Mk.units.getD U 0,GL,CH,LK,FT,AX,RG,FN,CV⟩):=ry h1 h2 h3 h4 h5 h6 h7 h8 h9 hKG h10 h11 h12 h13;have HUI:Hy (I64 (Mk.units.getD U 0)):=qf U;have H11:=Hi h11;have H12:=Hi h12;have H13:=Hi h13;have HU:Hy (U<4):=by show U<4;omega
 have HKG:Hy (2<=KG/\KG<=10):=by show 2<=KG/\KG<=10;omega
 have HKA:Hy (KA<3):=by show KA<3;omega
 have HKF:Hy (KF<3):=by show KF<3;omega
 have HKC:Hy (KC<4):=by show KC<4;omega
 have HD:=Hi (MD.start w (.slice oa0 l.length cap0) l (Mk.units.getD U 0) hs);have u1:(0:Int)<=U:=zo;have u2:(U:Int)<4:=zo;clear h1 h2 h3 h4 h5 h6 h7 h8 h9 h10 h11 h12 h13 i1 i2 i5 i7 i9 hKG hs;go_enter Tryz.func7,Tryz.ntmps7;go_upto_region 2 with fail;rw [show ((w.alloc (.cells #[.int .i64 0,.slice none 0 0,.slice none 0 0,.slice none 0 0,.slice none 0 0,.slice none 0 0,.slice none 0 0,.slice none 0 0,.slice none 0 0] 32)).alloc (.cells #[.slice oa0 l.length cap0,.int .i64 0,.int .i64 0,.slice none 0 0,.slice none 0 0,.slice none 0 0,.slice none 0 0,.slice none 0 0,.slice none 0 0,.slice none 0 0,.slice none 0 0,.int .i64 0] 72))=((w.alloc (.cells ki 32)).alloc (.cells (mkC (.slice oa0 l.length cap0) 0 zMF 0) 72)) from rfl];generalize ((w.alloc (.cells ki 32)).alloc (.cells (mkC (.slice oa0 l.length cap0) 0 zMF 0) 72))=w0 at *
 generalize (Value.slice oa0 l.length cap0)=sv at *
 generalize w.heap.size+2=B0 at *
 generalize w.heap.size+1=m at *
 generalize w.heap.size=rb at *
 have HD1:=Hi (MD.stays _ _ HD.o (show Mod [] w0 (w0.alloc (.cells qU 3)) from mR.alloc _));have C1:=Hi (CN.o zMF ⟨l,0⟩ U s1 4 zd zd H1.o _ HD1.o.mkr);have HA:=Hi (Blk.new w0 qU 3);have HUA:=Hi (xC U HU.o);have HMW:Hy (m<w0.heap.size):=by have:=HD.o.ord;show m<w0.heap.size;omega
 generalize Mk.units.getD U 0=unit at *
 clear HD;go_wp2_with fail;rw [show w0.alloc (.cells #[.int .i64 1000,.int .i64 1024,.int .i64 100,.int .i64 2048] 3)=w0.alloc (.cells qU 3) from rfl];refine C1.o.mono ?_;rintro e w2 ⟨rfl,K2,M2⟩;have HD2:=Hi (HD1.o.call K2 M2);have ac:w2.cell? ⟨w0.heap.size,U,none⟩=some (.int .i64 unit):=((HA.o.kept M2 (by have:=HMW.o;simp;omega)).cell U).trans HUA.o;have c2:w2.cell? ⟨m,2,none⟩=some (.int .i64 0):=HD2.o.mkr.blk.cell 2;have f2:w2.frozen? ⟨m,2,none⟩=false:=HD2.o.mkr.blk.frozen 2;clear K2 M2 HD1 C1 HA HUA;go_upto_region 3 with fail;have HD3:=Hi (HD2.o.put (f':={ zMF with u:=.int .i64 unit }) 2 (.int .i64 unit) (λ_ _=>rfl));generalize w2.setCell ⟨m,2,none⟩ (.int .i64 unit)=w3 at *
 have HF1:Hy (∃ f:MF,f={ zMF with u:=.int .i64 unit }):=⟨_,rfl⟩
 obtain ⟨f1,hf1⟩:=HF1.o;rw [<- hf1] at HD3;have HF1:=Hi hf1;clear hf1;clear ac c2 f2 HD2 HMW;have C2:=Hi (CN.o f1 s1 KA s2 3 zd zd H2.o _ HD3.o.mkr);go_wp2_with fail;refine C2.o.mono ?_;rintro e w4 ⟨rfl,K2,M2⟩;have HD4:=Hi (HD3.o.call K2 M2);clear K2 M2 HD3 C2;obtain ⟨xq0,xqi,xqz0,xqz1,xqz2⟩:=info_parts tu;go_upto_block 0 with fail;have HG0:Hy (MG w rb m sv l (MF.mk (.int .i64 unit) ae ae ae ae ae ae ae ae) (MF.mk (.int .i64 unit) ae ae ae ae ae ae ae ae) (aD.mk unit [] [] [] [] [] [] [] []) w4.heap.size 76 4 bX (λ_=>False) (.slice none 0 0) ([]:List bB) s2 w4):=by
  have h9:=HD4.o;rw [HF1.o] at h9;exact MG.start (λ_ h=>h.elim) (h9.reU (.int .i64 unit))
 have HMB:Hy (m<w4.heap.size):=by have:=HD4.o.ord;show m<w4.heap.size;omega
 clear HD4 HF1;generalize w4.heap.size=B1 at *
 go_cut [5,6] from 34 (λv5 v6 wx=>∃ (oa:Option Addr) (ca:Nat),Hy (MD w rb m sv l (MF.mk (.int .i64 unit) ae ae ae ae (.slice oa AX.length ca) ae ae ae) (MF.mk (.int .i64 unit) ae ae ae ae (.slice oa AX.length ca) ae ae ae) (aD.mk unit [] [] [] [] AX [] [] []) wx.heap.size s3 wx))
 case first =>
  rename_i J K' h1 h2;exact Ct H3 HKA HG0 h1 h2
 case rest =>
 obtain ⟨ox,cx,HD5⟩:=hcut;generalize (Value.slice ox AX.length cx)=vax at *
 clear HG0 H3 xqi;obtain ⟨yq0,yqi,yqz0,yqz1,yqz2⟩:=info_parts pr;obtain ⟨tq0,tqi,tqz0,tqz1,tqz2⟩:=info_parts td;have HG1:Hy (MG w rb m sv l (MF.mk (.int .i64 unit) ae ae ae ae vax ae ae ae) (MF.mk (.int .i64 unit) ae ae ae ae vax ae ae ae) (aD.mk unit [] [] [] [] AX [] [] []) wc.heap.size 79 1 aY (λb=>m<b) (.slice none 0 0) ([]:List bv) s3 wc):=MG.start (λ_ h=>h) HD5.o;generalize wc.heap.size=B2 at *
 clear HD5;go_upto_if 66 with fail
 go_cut [7,8,9,10,66] from 67 (λv7 v8 v9 v10 v66 wx=>∃ (oa:Option Addr) (ca:Nat),Hy (MD w rb m sv l (MF.mk (.int .i64 unit) ae ae ae ae vax (.slice oa RG.length ca) ae ae) (MF.mk (.int .i64 unit) ae ae ae ae vax (.slice oa RG.length ca) ae ae) (aD.mk unit [] [] [] [] AX RG [] []) wx.heap.size s4 wx))
 case first =>
  rename_i J K' h1 h2;exact vk rfl H4 HKA HG1 h1 h2 zt
 case rest =>
 obtain ⟨oy,cy,HD6⟩:=hcut;clear HG1 H4 tqi yqi;obtain ⟨vrg,hvrg⟩:∃ v,v=Value.slice oy RG.length cy:=⟨_,rfl⟩
 have HVRG:=Hi hvrg;rw [<- hvrg] at HD6;clear hvrg;obtain ⟨cq0,cqi,cqz0,cqz1,cqz2⟩:=info_parts tn;have C20:=Hi (CN.o (MF.mk (.int .i64 unit) ae ae ae ae vax vrg ae ae) s4 KF s5 3 zd zd H5.o _ HD6.o.mkr);go_wp2_with fail;refine C20.o.mono ?_;rintro e w5 ⟨rfl,K2,M2⟩;have HD7:=Hi (HD6.o.call K2 M2);clear K2 M2 C20 HD6;go_upto_block 6 with fail;have HG2:Hy (MG w rb m sv l (MF.mk (.int .i64 unit) ae ae ae ae vax vrg ae ae) (MF.mk (.int .i64 unit) ae ae ae ae vax vrg ae ae) (aD.mk unit [] [] [] [] AX RG [] []) w5.heap.size 44 1 cT (λb=>m<b) (.slice none 0 0) ([]:List (List bS)) s5 w5):=MG.start (λ_ h=>h) HD7.o;generalize w5.heap.size=B3 at *
 clear HD7
 go_cut [11] from 108 (λv11 wx=>∃ (oa:Option Addr) (ca:Nat),Hy (MD w rb m sv l (MF.mk (.int .i64 unit) ae ae ae ae vax vrg (.slice oa FN.length ca) ae) (MF.mk (.int .i64 unit) ae ae ae ae vax vrg (.slice oa FN.length ca) ae) (aD.mk unit [] [] [] [] AX RG FN []) wx.heap.size s6 wx))
 case first =>
  rename_i J K' h1 h2;exact zY H6 HKF HG2 h1 h2
 case rest =>
 obtain ⟨oy,cy,HD8⟩:=hcut;clear HG2 H6 H5 H2 HKF;obtain ⟨vfn,hvfn⟩:∃ v,v=Value.slice oy FN.length cy:=⟨_,rfl⟩
 have HVFN:=Hi hvfn;rw [<- hvfn] at HD8;clear hvfn;obtain ⟨iq0,iqi,iqz0,iqz1,iqz2⟩:=info_parts gN;have C30:=Hi (CN.o (MF.mk (.int .i64 unit) ae ae ae ae vax vrg vfn ae) s6 KC s7 4 zd zd H7.o _ HD8.o.mkr);go_wp2_with fail;refine C30.o.mono ?_;rintro e w7 ⟨rfl,K2,M2⟩;have HD9:=Hi (HD8.o.call K2 M2);clear K2 M2 C30 HD8;go_upto_block 8 with fail;have HG3:Hy (MG w rb m sv l (MF.mk (.int .i64 unit) ae ae ae ae vax vrg vfn ae) (MF.mk (.int .i64 unit) ae ae ae ae vax vrg vfn ae) (aD.mk unit [] [] [] [] AX RG FN []) w7.heap.size 3 1 aF (λ_=>False) (.slice none 0 0) ([]:List Int) s7 w7):=MG.start (λ_ h=>h.elim) HD9.o;generalize w7.heap.size=B4 at *
 clear HD9
 go_cut [12] from 132 (λv12 wx=>∃ (oa:Option Addr) (ca:Nat),Hy (MD w rb m sv l (MF.mk (.int .i64 unit) ae ae ae ae vax vrg vfn (.slice oa CV.length ca)) (MF.mk (.int .i64 unit) ae ae ae ae vax vrg vfn (.slice oa CV.length ca)) (aD.mk unit [] [] [] [] AX RG FN CV) wx.heap.size s8 wx))
 case first =>
  rename_i J K' h1 h2;exact DN H8 HKC HG3 h1 h2
 case rest =>
 obtain ⟨oz,cz,HD10⟩:=hcut;generalize (Value.slice oz CV.length cz)=vcv at *
 clear HG3 H8 H7 HKC;have C40:=Hi (CN.o (MF.mk (.int .i64 unit) ae ae ae ae vax vrg vfn vcv) s8 kg s9 9 zd zd H9.o _ HD10.o.mkr);go_wp2_with fail;refine C40.o.mono ?_;rintro e w8 ⟨rfl,K2,M2⟩;have HD11:=Hi (HD10.o.call K2 M2);clear K2 M2 C40 HD10;go_upto_block 10 with fail;have HG4:Hy (MG w rb m sv l (MF.mk (.int .i64 unit) ae ae ae ae vax vrg vfn vcv) (MF.mk (.int .i64 unit) ae ae ae ae vax vrg vfn vcv) (aD.mk unit [] [] [] [] AX RG FN CV) w8.heap.size 46 9 bO (λb=>m<b) (.slice none 0 0) ([]:List av) s9 w8):=MG.start (λ_ h=>h) HD11.o;generalize w8.heap.size=B5 at *
 clear HD11
 go_cut [13] from 154 (λv13 wx=>∃ (oa:Option Addr) (ca:Nat),Hy (MD w rb m sv l (MF.mk (.int .i64 unit) (.slice oa KG ca) ae ae ae vax vrg vfn vcv) (MF.mk (.int .i64 unit) (.slice oa KG ca) ae ae ae vax vrg vfn vcv) (aD.mk unit GL [] [] [] AX RG FN CV) wx.heap.size s10 wx))
 case first =>
  rename_i J K' h1 h2;exact xN H10 HKG HRFL HVRG HVFN HG4 h1 h2
 case rest =>
 obtain ⟨og,cg,HD12⟩:=hcut;have HGL:Hy (GL.length=KG):=by
  have a1:=dG (f:=glF RG.length FN.length) (λ_ _ _=>List.length_append) KG s9;rw [H10.o] at a1;exact a1
 clear HG4 H10 H9 HVRG HVFN HRFL;obtain ⟨hq0,hqi,hqz0,hqz1,hqz2⟩:=info_parts tq;go_wp2_with fail;refine (xU wc).mono ?_;rintro e w9 ⟨ub,rfl,hub,hB,M2⟩;have HD13:=Hi (MD.stays _ _ HD12.o M2);have HUB:Hy (Blk w9 ub lS 3/\ub≠m):=⟨hB,by have h8:=HD12.o.ord;omega⟩
 have HUL:=Hi hB.lt;clear hub hB M2 HD12;go_upto_block 12 with fail;have HG5:Hy (MG w rb m sv l (MF.mk (.int .i64 unit) (.slice og KG cg) ae ae ae vax vrg vfn vcv) (MF.mk (.int .i64 unit) (.slice og KG cg) ae ae ae vax vrg vfn vcv) (aD.mk unit GL [] [] [] AX RG FN CV) w9.heap.size 37 2 cV (λ_=>False) (.slice none 0 0) ([]:List dc) s10 w9):=MG.start (λ_ h=>h.elim) HD13.o;generalize w9.heap.size=B6 at *
 clear HD13
 go_cut [15] from 163 (λv15 wx=>∃ (oa:Option Addr) (ca:Nat),Hy (MD w rb m sv l (MF.mk (.int .i64 unit) (.slice og KG cg) (.slice oa CH.length ca) ae ae vax vrg vfn vcv) (MF.mk (.int .i64 unit) (.slice og KG cg) (.slice oa CH.length ca) ae ae vax vrg vfn vcv) (aD.mk unit GL CH [] [] AX RG FN CV) wx.heap.size s11 wx))
 case first =>
  rename_i J K' h1 h2;exact Aa H11 HKG HUB HUL HG5 h1 h2
 case rest =>
 obtain ⟨oc,cc,HD14⟩:=hcut;generalize (Value.slice oc CH.length cc)=vch at *
 clear HG5 H11 HUB HUL hqi;have HLKL:Hy (LK.length<=100):=by
  have a1:=mQ KG s11;rw [H12.o] at a1;exact a1
 have CLK:=Hi (vY m sv l (MF.mk (.int .i64 unit) (.slice og KG cg) vch ae ae vax vrg vfn vcv) s11 KG (by have:=HKG.o;omega) (by have:=HKG.o;omega) rfl rfl H12.o wc HD14.o.mkr);obtain ⟨fq0,fqi,fqz0,fqz1,fqz2⟩:=info_parts mU;go_wp2_with fail;refine CLK.o.mono ?_;rintro e w11 ⟨v',rfl,hv,K',M'⟩;obtain ⟨ol,cl,rfl,-⟩:=hv.form;have HD15:Hy (MD w rb m sv l (MF.mk (.int .i64 unit) (.slice og KG cg) vch (.slice ol LK.length cl) ae vax vrg vfn vcv) (MF.mk (.int .i64 unit) (.slice og KG cg) vch (.slice ol LK.length cl) ae vax vrg vfn vcv) (aD.mk unit GL CH LK [] AX RG FN CV) w11.heap.size s12 w11):=HD14.o.Ez K' M' hv;clear hv K' M' CLK HD14 H12;go_wp2_with fail;refine (yF w11).mono ?_;rintro e w12 ⟨ub,rfl,hub,hB,M2⟩;have HD16:=Hi (MD.stays _ _ HD15.o M2);have HUB:Hy (Blk w12 ub iR 9/\ub≠m):=⟨hB,by have h8:=HD15.o.ord;omega⟩
 have HUL:=Hi hB.lt;clear hub hB M2 HD15;go_upto_block 14 with fail;have HG6:Hy (MG w rb m sv l (MF.mk (.int .i64 unit) (.slice og KG cg) vch (.slice ol LK.length cl) ae vax vrg vfn vcv) (MF.mk (.int .i64 unit) (.slice og KG cg) vch (.slice ol LK.length cl) ae vax vrg vfn vcv) (aD.mk unit GL CH LK [] AX RG FN CV) w12.heap.size 88 2 aU (λb=>m<b) (.slice none 0 0) ([]:List aA) s12 w12):=MG.start (λ_ h=>h) HD16.o;generalize w12.heap.size=B7 at *
 clear HD16
 go_cut [17,18,19] from 199 (λv17 v18 v19 wx=>∃ (oa:Option Addr) (ca:Nat),Hy (MD w rb m sv l (MF.mk (.int .i64 unit) (.slice og KG cg) vch (.slice ol LK.length cl) (.slice oa FT.length ca) vax vrg vfn vcv) (MF.mk (.int .i64 unit) (.slice og KG cg) vch (.slice ol LK.length cl) (.slice oa FT.length ca) vax vrg vfn vcv) (aD.mk unit GL CH LK FT AX RG FN CV) wx.heap.size s13 wx))
 case first =>
  rename_i J K' h1 h2;exact zZ H13 HLKL HUB HUL HG6 h1 h2
 case rest =>
 obtain ⟨oa,ca,HD17⟩:=hcut;generalize (Value.slice oa FT.length ca)=vft at *
 clear HG6 H13 HUB HUL HLKL fqi iqi;have hf:=HD17.o.rows;obtain ⟨a1,b1,e1,-⟩:=hf.gl.form;have e1':KG=GL.length:=by cases e1;rfl
 obtain ⟨a2,b2,e2,-⟩:=hf.ch.form;obtain ⟨a3,b3,e3,-⟩:=hf.ft.form;obtain ⟨a4,b4,e4,-⟩:=hf.ax.form;obtain ⟨a5,b5,e5,-⟩:=hf.rg.form;obtain ⟨a6,b6,e6,-⟩:=hf.fn.form;obtain ⟨a7,b7,e7,-⟩:=hf.cv.form;have e2:vch=.slice a2 CH.length b2:=e2;have e3:vft=.slice a3 FT.length b3:=e3;have e4:vax=.slice a4 AX.length b4:=e4;have e5:vrg=.slice a5 RG.length b5:=e5;have e6:vfn=.slice a6 FN.length b6:=e6;have e7:vcv=.slice a7 CV.length b7:=e7;clear e1 e1' hf;subst e2 e3 e4 e5 e6 e7;have d2:wc.cell? ⟨m,2,none⟩=some (.int .i64 unit):=HD17.o.mkr.blk.cell 2;have d3:wc.cell? ⟨m,3,none⟩=some (.slice og KG cg):=HD17.o.mkr.blk.cell 3;have d4:wc.cell? ⟨m,4,none⟩=some (.slice a2 CH.length b2):=HD17.o.mkr.blk.cell 4;have d5:wc.cell? ⟨m,5,none⟩=some (.slice ol LK.length cl):=HD17.o.mkr.blk.cell 5;have d6:wc.cell? ⟨m,6,none⟩=some (.slice a3 FT.length b3):=HD17.o.mkr.blk.cell 6;have d7:wc.cell? ⟨m,7,none⟩=some (.slice a4 AX.length b4):=HD17.o.mkr.blk.cell 7;have d8:wc.cell? ⟨m,8,none⟩=some (.slice a5 RG.length b5):=HD17.o.mkr.blk.cell 8;have d9:wc.cell? ⟨m,9,none⟩=some (.slice a6 FN.length b6):=HD17.o.mkr.blk.cell 9;have d10:wc.cell? ⟨m,10,none⟩=some (.slice a7 CV.length b7):=HD17.o.mkr.blk.cell 10;have r0:wc.cell? ⟨rb,0,none⟩=some (.int .i64 0):=HD17.o.res.cell 0;have r1:wc.cell? ⟨rb,1,none⟩=some (.slice none 0 0):=HD17.o.res.cell 1;have r2:wc.cell? ⟨rb,2,none⟩=some (.slice none 0 0):=HD17.o.res.cell 2;have r3:wc.cell? ⟨rb,3,none⟩=some (.slice none 0 0):=HD17.o.res.cell 3;have r4:wc.cell? ⟨rb,4,none⟩=some (.slice none 0 0):=HD17.o.res.cell 4;have r5:wc.cell? ⟨rb,5,none⟩=some (.slice none 0 0):=HD17.o.res.cell 5;have r6:wc.cell? ⟨rb,6,none⟩=some (.slice none 0 0):=HD17.o.res.cell 6;have r7:wc.cell? ⟨rb,7,none⟩=some (.slice none 0 0):=HD17.o.res.cell 7;have r8:wc.cell? ⟨rb,8,none⟩=some (.slice none 0 0):=HD17.o.res.cell 8;have q0:=HD17.o.res.frozen 0;have q1:=HD17.o.res.frozen 1;have q2:=HD17.o.res.frozen 2;have q3:=HD17.o.res.frozen 3;have q4:=HD17.o.res.frozen 4;have q5:=HD17.o.res.frozen 5;have q6:=HD17.o.res.frozen 6;have q7:=HD17.o.res.frozen 7;have q8:=HD17.o.res.frozen 8;go_wp2_with fail;have XF:(((((((((wc.setCell ⟨rb,0,none⟩ (.int .i64 unit)).setCell ⟨rb,1,none⟩ (.slice og KG cg)).setCell ⟨rb,2,none⟩ (.slice a2 CH.length b2)).setCell ⟨rb,3,none⟩ (.slice ol LK.length cl)).setCell ⟨rb,4,none⟩ (.slice a3 FT.length b3)).setCell ⟨rb,5,none⟩ (.slice a4 AX.length b4)).setCell ⟨rb,6,none⟩ (.slice a5 RG.length b5)).setCell ⟨rb,7,none⟩ (.slice a6 FN.length b6)).setCell ⟨rb,8,none⟩ (.slice a7 CV.length b7))=ec wc (rb) (0) [.int .i64 unit,.slice og KG cg,.slice a2 CH.length b2,.slice ol LK.length cl,.slice a3 FT.length b3,.slice a4 AX.length b4,.slice a5 RG.length b5,.slice a6 FN.length b6,.slice a7 CV.length b7]:=rfl;rw [XF];clear XF;have HB:Blk (ec wc rb 0 [.int .i64 unit,.slice og KG cg,.slice a2 CH.length b2,.slice ol LK.length cl,.slice a3 FT.length b3,.slice a4 AX.length b4,.slice a5 RG.length b5,.slice a6 FN.length b6,.slice a7 CV.length b7]) rb #[.int .i64 unit,.slice og KG cg,.slice a2 CH.length b2,.slice ol LK.length cl,.slice a3 FT.length b3,.slice a4 AX.length b4,.slice a5 RG.length b5,.slice a6 FN.length b6,.slice a7 CV.length b7] 32:=HD17.o.res.over [.int .i64 unit,.slice og KG cg,.slice a2 CH.length b2,.slice ol LK.length cl,.slice a3 FT.length b3,.slice a4 AX.length b4,.slice a5 RG.length b5,.slice a6 FN.length b6,.slice a7 CV.length b7] rfl;have HOT:bC (λb=>m<b/\b<wc.heap.size) wc (ec wc rb 0 [.int .i64 unit,.slice og KG cg,.slice a2 CH.length b2,.slice ol LK.length cl,.slice a3 FT.length b3,.slice a4 AX.length b4,.slice a5 RG.length b5,.slice a6 FN.length b6,.slice a7 CV.length b7]):=λb hb _=>oQ (by have:=HD17.o.ord;omega) _ _ _
 have HMO:Mod [] w (ec wc rb 0 [.int .i64 unit,.slice og KG cg,.slice a2 CH.length b2,.slice ol LK.length cl,.slice a3 FT.length b3,.slice a4 AX.length b4,.slice a5 RG.length b5,.slice a6 FN.length b6,.slice a7 CV.length b7]):=sH HD17.o.ord.1 _ _ _ HD17.o.mod;clear d2 d3 d4 d5 d6 d7 d8 d9 d10 r0 r1 r2 r3 r4 r5 r6 r7 r8 q0 q1 q2 q3 q4 q5 q6 q7 q8;generalize (ec wc rb 0 [.int .i64 unit,.slice og KG cg,.slice a2 CH.length b2,.slice ol LK.length cl,.slice a3 FT.length b3,.slice a4 AX.length b4,.slice a5 RG.length b5,.slice a6 FN.length b6,.slice a7 CV.length b7])=wf at *
 have f0:wf.cell? ⟨rb,0,none⟩=some (.int .i64 unit):=HB.cell 0;have f1:wf.cell? ⟨rb,1,none⟩=some (.slice og KG cg):=HB.cell 1;have f2:wf.cell? ⟨rb,2,none⟩=some (.slice a2 CH.length b2):=HB.cell 2;have f3:wf.cell? ⟨rb,3,none⟩=some (.slice ol LK.length cl):=HB.cell 3;have f4:wf.cell? ⟨rb,4,none⟩=some (.slice a3 FT.length b3):=HB.cell 4;have f5:wf.cell? ⟨rb,5,none⟩=some (.slice a4 AX.length b4):=HB.cell 5;have f6:wf.cell? ⟨rb,6,none⟩=some (.slice a5 RG.length b5):=HB.cell 6;have f7:wf.cell? ⟨rb,7,none⟩=some (.slice a6 FN.length b6):=HB.cell 7;have f8:wf.cell? ⟨rb,8,none⟩=some (.slice a7 CV.length b7):=HB.cell 8;refine bodyPost_ret (v:=.agg #[.int .i64 unit,.slice og KG cg,.slice a2 CH.length b2,.slice ol LK.length cl,.slice a3 FT.length b3,.slice a4 AX.length b4,.slice a5 RG.length b5,.slice a6 FN.length b6,.slice a7 CV.length b7]) (by simp [results,Tryz.results7,go_sem,f0,f1,f2,f3,f4,f5,f6,f7,f8];try rfl) rfl ?_;refine ⟨_,rfl,?_,⟨HD17.o.rows.cg,HD17.o.rows.cf⟩,HMO⟩;have hr:=(HD17.o.rows.same HOT).weak (S':=λb=>w.heap.size<=b) λb _ hb=>by have:=HD17.o.ord;omega
 rw [HMD.o];exact ⟨_,_,_,_,_,_,_,_,rfl,HUI.o,hr.gl,hr.ch,hr.lk,hr.ft,hr.ax,hr.rg,hr.fn,hr.cv⟩
end Go.Proofs.YthheaflbbficgaaGreat

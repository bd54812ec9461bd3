/- CkPlain, RangeF, Hd, GMap, RoundSw, FontHds. -/
import Derived.Test.YthheaflbbficgaaGreatGBase
import Derived.RangeFuncNested
import Derived.RangeFuncBound
import Derived.RangeFuncCalls
import Derived.RangeFuncLeaves
import Derived.TacticsInMore
import Derived.OwnWalkIn
import Derived.MapKept
import Derived.Maps.RangeRun
import Derived.Test.YthheaflbbficgaaGreatGRing
import Derived.OrdersIn
import Derived.TacticsIn
set_option linter.all false
namespace Go.Proofs.YthheaflbbficgaaGreat
namespace Ck
abbrev Got:=Int×Nat
def first:List Got->Got
 | []=>(0,0)
 | g::l=>if g.1=0 then first l else g
def bz {α:Type} (f:Nat->α->Int):Nat->List α->Got
 | _,[]=>(0,0)
 | i,x::l=>if f i x=0 then bz f (i+1) l else (f i x,i)
def each {α:Type} (f:Nat->α->Int) (l:List α):Got:=bz f 0 l
def some {α:Type} (most:Nat) (f:Nat->α->Int) (l:List α):Got:=if most<l.length then (2,0) else each f l
def when (b:Bool) (e:Int):Int:=if b then e else 0
def name (right taken:Bool):Int:=if !right then 23 else if taken then 24 else 0
def gh (x:Int):Bool:=(decide (65<=x) && decide (x<=90)) || (decide (97<=x) && decide (x<=122))
def letter (c:UInt8):Bool:=gh (c.toNat:Int)
def nN (i:Nat) (x:Int):Bool:=(gh x || x == 95 || x == 46) || (decide (0<i) && ((decide (48<=x) && decide (x<=57)) || x == 45))
def nameAt (i:Nat) (c:UInt8):Bool:=nN i (c.toNat:Int)
def eM (f:Nat->UInt8->Bool):Nat->List UInt8->Bool
 | _,[]=>true
 | i,c::l=>f i c && eM f (i+1) l
def bZ (s:ByteArray):Bool:=decide (1<=s.size) && decide (s.size<=16) && eM nameAt 0 s.data.toList
def br (s:ByteArray):Bool:=decide (1<=s.size) && decide (s.size<=8) && eM (λ_ c=>letter c) 0 s.data.toList
def may (x:Int):Bool:=decide (-16384<=x) && decide (x<=16384)
def bo (n:Nat) (g:Int):Bool:=decide (0<=g) && decide (g<n)
def aK {α:Type} (nm:α->ByteArray) (l:List α) (s:ByteArray):Nat:=l.findIdx λx=>decide (nm x=s)
def ins (i:bS):Int:=if i.op<1∨39<i.op then 50 else if i.a < -999999999∨999999999<i.a then 3 else 0
def program (l:List bS):Int:=(some 200 (λ_ i=>ins i) l).1
def point (p:bV):Int:=when (!(may p.x && may p.y)) 30
def bN (n:Nat):Int->List Int->Bool
 | last,[]=>last == (n:Int) - 1
 | last,e::l=>!(decide ((n:Int)<=e) || decide (e<last+2)) && bN n e l
def contours (pts:List bV) (ends:List Int):Bool :=
 !(decide (200<pts.length) || decide (40<ends.length)) && pts.all (λp=>may p.x && may p.y) && bN pts.length (-1) ends
def shape (g:av):Int :=
 if g.adv<0∨16384<g.adv then 1 else if 200<g.pts.length∨40<g.ends.length then 2
 else if (each (λ_ p=>point p) g.pts).1≠0 then (each (λ_ p=>point p) g.pts).1 else when (!contours g.pts g.ends) 31
def part (n:Nat) (p:cK):Int:=if !bo n p.glyph then 32 else when (!(may p.x && may p.y)) 30
def iG (mark met:Bool) (a:bh):Int :=
 when (decide (a.kind<1) || decide (4<a.kind) || decide (a.cls<0) || decide (15<a.cls) || (a.kind == 3 || a.kind == 4) && a.cls != 0 || !(may a.x && may a.y) || (a.kind == 2 && !mark) || met) 35
def anchor (mark:Bool) (met:List bh) (a:bh):Int:=iG mark (met.any λb=>b.kind == a.kind && b.cls == a.cls) a
def delta (regions points:Nat) (n:Nat) (ahead:Int×Int) (d:co):Int :=
 if d.region<0∨(regions:Int)<=d.region then 61
 else if d.point < -1∨(points:Int)<=d.point∨!(may d.x && may d.y)∨(d.point=-1/\d.y≠0) then 30
 else if 0<n/\(d.region<ahead.1∨(d.region=ahead.1/\d.point<=ahead.2)) then 24 else 0
def char (n:Nat) (c:dc) (late:Bool):Int:=if c.rune<0∨1114111<c.rune then 1 else if !bo n c.glyph then 32 else when late 24
def axis (a:bB) (nm:Int):Int:=if nm≠0 then nm else when (!((may a.min && may a.dflt && may a.max) && decide (a.min<=a.dflt) && decide (a.dflt<=a.max))) 60
def tent (t:gv):Int :=
 when (!(decide (-64<=t.start) && decide (t.start<=t.peak) && decide (t.peak<=t.stop) && decide (t.stop<=64)) || (decide (t.start<0) && decide (0<t.stop) && t.peak != 0)) 61
def region (axes:Nat) (r:bv):Int:=if r.tents.length≠axes then 61 else (each (λ_ t=>tent t) r.tents).1
def feature (n:Nat) (x:aA) (nm:Int):Int :=
 if nm≠0 then nm else (each (λi l=>when (decide (l<0) || decide ((n:Int)<=l) || (decide (0<i) && decide (l<=x.lookups.getD (i - 1) 0))) 43) x.lookups).1
def anchors (mark:Bool) (l:List bh):Got:=some 16 (λi a=>anchor mark (l.take i) a) l
def ij (l:List co):Nat->Int×Int
 | 0=>(0,0)
 | i+1=>match l[i]? with | Option.some d=>(d.region,d.point) | Option.none=>(0,0)
def deltas (regions points:Nat) (l:List co):Got:=some 400 (λi d=>delta regions points i (ij l i) d) l
def glyph (n regions:Nat) (g:av) (nm:Int):Int :=
 (first [(nm,0),(shape g,0),some 8 (λ_ p=>part n p) g.parts,anchors g.mark g.anchors,deltas regions g.pts.length g.deltas,(program g.hint,0)]).1
def rows (kind:Int) (r:aN):Int :=
 if 6<r.back.length∨6<r.ins.length∨6<r.ahead.length then 2
 else when (if kind=1∨kind=2∨kind=5 then r.ins.length != 1 else if kind=6 then r.ins.length != 2 || decide (0<r.back.length) || decide (0<r.ahead.length) else r.ins.length == 0) 40
def rising:List Int->Bool
 | a::b::l=>decide (a<b) && rising (b::l)
 | _=>true
def cQ (n:Nat) (l:List Int):Bool:=decide (0<l.length) && rising l && bo n (l.getD 0 0) && bo n (l.getD (l.length - 1) 0)
def cP (kind:Int) (r:aN):Bool :=
 if kind=1∨kind=5 then r.o.length == (r.ins.getD 0 []).length else if kind=2 then decide (r.o.length<=6) else if kind=3 then r.o.length == 1 else r.o.length == 0
def call (lk:List ar) (ins:Nat) (c:dY):Int :=
 if c.pos<0∨(ins:Int)<=c.pos then 40 else if c.lookup<0∨(lk.length:Int)<=c.lookup then 42
 else match lk[c.lookup.toNat]? with | Option.some l=>when (decide (l.kind<1) || decide (4<l.kind)) 42 | Option.none=>42
def calls (lk:List ar) (kind:Int) (r:aN):Int :=
 if 6<r.calls.length then 2 else if 0<r.calls.length/\kind≠4 then 40 else (each (λ_ c=>call lk r.ins.length c) r.calls).1
def rule (n:Nat) (lk:List ar) (kind:Int) (r:aN):Int :=
 (first [(rows kind r,0),each (λ_ l=>when (!cQ n l) 41) (r.back++r.ins++r.ahead),(when (!cP kind r) 40,0),each (λ_ g=>when (!bo n g) 32) r.o,
  (calls lk kind r,0),(when (!may r.x) 1,0),(when (r.x != 0 && kind != 6) 40,0)]).1
def lookup (n:Nat) (lk:List ar) (l:ar):Int :=
 if l.kind<1∨8<l.kind then 42
 else (first [(when (decide (60<l.rules.length)) 2,0),(when ((l.kind == 7 || l.kind == 8) && decide (0<l.rules.length)) 40,0),each (λ_ r=>rule n lk l.kind r) l.rules]).1
def mD (u:Int) (n:Nat):Int:=if u<16∨4096<u then 1 else if n=0 then 32 else 0
def head (f:aD):Int:=mD f.unit f.glyphs.length
def late (l:List dc) (i:Nat) (c:dc):Bool:=decide (0<i) && (match l[i - 1]? with | Option.some d=>decide (c.rune<=d.rune) | Option.none=>false)
def glyphs (f:aD):Got:=some 400 (λn g=>glyph f.glyphs.length f.regions.length g (name (bZ g.name) (decide (aK av.name f.glyphs g.name<n)))) f.glyphs
def font (comp:Got) (f:aD):Got :=
 first [(head f,0),glyphs f,comp,some 1000 (λn c=>char f.glyphs.length c (late f.chars n c)) f.chars,
  some 40 (λ_ l=>lookup f.glyphs.length f.lookups l) f.lookups,
  some 20 (λn x=>feature f.lookups.length x (name (br x.name) (decide (aK aA.name f.features x.name<n)))) f.features,
  some 3 (λn a=>axis a (name (bZ a.name) (decide (aK bB.name f.axes a.name<n)))) f.axes,
  some 16 (λ_ r=>region f.axes.length r) f.regions,some 20 (λ_ l=>program l) f.funcs,some 64 (λ_ x=>when (!may x) 1) f.cvt]
end Ck
open Go.RowKit
namespace Rf
variable {P:Program}
theorem Mod.putObj {F:List Nat} {w W:World} (m:Mod F w W) {r:Nat} (hr:r<w.heap.size->r∈F) (o:Obj):Mod F w (W.putObj r o) :=
 ⟨m.os,m.tape,m.output,by show _<=(W.heap.setIfInBounds r o).size;simp;exact m.size,λk hk hn=>(World.putObj_heap_other (λe=>hn (by subst e;exact hr hk))).trans (m.block k hk hn)⟩
structure Rec (rec:LoopState->Option Code->Loop) (l D:Nat) (st:LoopState) (pe:Option Code) (W:World):Prop where
 lp:W.heap[l]?=some (.loop (rec st pe))
 df:W.heap[D]?=some (.deferred (some []))
theorem Rec.kept {rec:LoopState->Option Code->Loop} {l D:Nat} {st:LoopState} {pe:Option Code} {F:List Nat} {W W':World} (h:Rec rec l D st pe W) (m:Mod F W W') (hl:l ∉ F) (hD:D ∉ F):Rec rec l D st pe W' :=
 ⟨(m.block l (Array.getElem?_eq_some_iff.1 h.lp).1 hl).trans h.lp,(m.block D (Array.getElem?_eq_some_iff.1 h.df).1 hD).trans h.df⟩
theorem Rec.ltl {rec:LoopState->Option Code->Loop} {l D:Nat} {st:LoopState} {pe:Option Code} {W:World} (h:Rec rec l D st pe W):l<W.heap.size:=(Array.getElem?_eq_some_iff.1 h.lp).1
theorem Rec.ltD {rec:LoopState->Option Code->Loop} {l D:Nat} {st:LoopState} {pe:Option Code} {W:World} (h:Rec rec l D st pe W):D<W.heap.size:=(Array.getElem?_eq_some_iff.1 h.df).1
theorem Rec.put {rec:LoopState->Option Code->Loop} {l D:Nat} {st:LoopState} {pe:Option Code} {W:World} (h:Rec rec l D st pe W) (hne:D≠l) (st':LoopState) (pe':Option Code):Rec rec l D st' pe' (W.putObj l (.loop (rec st' pe'))) :=
 ⟨World.putObj_heap_same h.ltl,(World.putObj_heap_other hne).trans h.df⟩
def EA (rec:LoopState->Option Code->Loop) (l D:Nat) (R:Ending->World->Prop):Exit->Act->World->Prop
 | .normal,_,W=>Rec rec l D .busy none W/\R (.returned (.bool true)) (W.putObj l (.loop (rec .ready none)))
 | .ret,_,W=>Rec rec l D .busy none W/\R (.returned (.bool false)) (W.putObj l (.loop (rec .done (some .ret))))
 | .exit id,_,W=>Rec rec l D .busy none W/\R (.returned (.bool false)) (W.putObj l (.loop (rec .done (some (.exit id)))))
 | .goto t,_,W=>Rec rec l D .busy none W/\R (.returned (.bool false)) (W.putObj l (.loop (rec .done (some (.goto t)))))
 | .panic _,_,_=>False
 | .outgrown,_,_=>False
theorem lm {α:Type} {g:Operand} {ps:Array Tmp} {assign body:Code} {Q:Exit->Act->World->Prop} {a:Act} {w:World} {gf:Nat} {lb:Array Value} {encs:α->Array Value} (Ax:World->α->Act->World->Prop)
  (hg:a.eval g=.func (.func gf) #[] lb) (eg:∀ args w,(callFunc gf args).run P w=.ok (.enter gf args) w) (hps:∀ x,(encs x).size=ps.size)
  (hassign:∀ (l:Nat) (x:α) (W:World) (K:Act->World->Prop),(∀ a' W',Ax W x a' W'->K a' W') ->
   assign.wpIn (Fence.wide.inRound l) 0 P (Exit.then K (λ_ _ _=>False)) { tmps:=(ps.zip (encs x)).foldl (λt (p,v)=>t.setIfInBounds p v) a.tmps,defers:=[] } W)
  (h:∀ (rec:LoopState->Option Code->Loop) (l D:Nat) (W1:World),D=w.heap.size->l=w.heap.size+1->W1.heap.size=w.heap.size+2->Mod [] w W1->Rec rec l D .ready none W1 ->
   (∀ (x:α) (W:World) (R:Ending->World->Prop),Rec rec l D .ready none W ->
    (∀ a' W',Ax W x a' W'->Rec rec l D .ready none W'/\(Rec rec l D .busy none (W'.putObj l (.loop (rec .busy none)))->body.wpIn (Fence.wide.inRound l) 0 P (EA rec l D R) a' (W'.putObj l (.loop (rec .busy none))))) ->
    YieldAt Fence.wide 0 P l (encs x) W R) ->
   Calls P gf (#[.func (.yield l) #[] #[]]++lb) W1 λe W'=>∃ v,e=.returned v /\
    ((Rec rec l D .ready none W'/\∀ W4,W4=W'.putObj l (.loop (rec .exhausted none))->W4.heap[D]?=some (.deferred (some []))->Q .normal { a with defers:={ target:=.collected D,args:=#[] }::a.defers } W4) ∨
     ∃ c,Rec rec l D .done (some c) W'/\∀ W4,W4=W'.putObj l (.loop (rec .exhausted (some c)))->W4.heap[D]?=some (.deferred (some []))->c.wp P Q { a with defers:={ target:=.collected D,args:=#[] }::a.defers } W4)) :
  (Code.rangeFunc g ps assign body).wp P Q a w:=by
 refine wpIn_wide.1 (wpIn_rangeFunc (n:=1) ?_);intro fn _;obtain ⟨rec,hrec⟩:∃ rec:LoopState->Option Code->Loop,rec=λst pe=>{ state:=st,pending:=pe,fn,tmps:=a.tmps,params:=ps,assign,body,defers:=w.heap.size }:=⟨_,rfl⟩
 have hL1:((w.alloc (.deferred (some []))).alloc (.loop (rec .ready none))).heap[w.heap.size+1]?=some (.loop (rec .ready none)):=by
  have:=World.alloc_heap_new (w.alloc (.deferred (some []))) (.loop (rec .ready none));rwa [World.size_alloc] at this
 have hK1:((w.alloc (.deferred (some []))).alloc (.loop (rec .ready none))).heap[w.heap.size]?=some (.deferred (some [])) :=
  (Below.heap_alloc _ _ _ zk).trans (World.alloc_heap_new w _)
 have hne:w.heap.size≠w.heap.size+1:=zo;obtain ⟨W1,hW1⟩:∃ W1,(w.alloc (.deferred (some []))).alloc (.loop (rec .ready none))=W1:=⟨_,rfl⟩
 have hs1:W1.heap.size=w.heap.size+2:=by rw [<- hW1];simp
 have hm1:Mod [] w W1:=by rw [<- hW1];exact ((Mod.refl [] w).alloc _).alloc _
 rw [hW1] at hL1 hK1
 refine ⟨w.heap.size+1,[{ target:=.collected w.heap.size,args:=#[] }],W1,{ target:=.fn (.func gf) lb,args:=#[.func (.yield (w.heap.size+1)) #[] #[]] },W1,gf,
  #[.func (.yield (w.heap.size+1)) #[] #[]]++lb,W1,?_,?_,?_,?_,λh=>(by cases h),?_⟩
 ·rw [<- hW1,hrec];exact run_enterLoop_outer _ _ _ _ _
 ·simp only [resolve,hg];simp [go_sem]
 ·intro f' hf';trivial
 ·simp [invoke,go_sem,eg]
 ·refine callsIn_wide.2 ((h rec (w.heap.size+1) w.heap.size _ rfl rfl hs1 hm1 ⟨hL1,hK1⟩ ?_).mono ?_)
  ·intro x W R hR hb;have hy:=run_yield (P:=P) (args:=encs x) hR.lp (by rw [hrec];exact hps x);rw [hrec] at hy;refine ⟨fn,_,assign,body,hy,roundIn_of_wpIn trivial (hassign _ x W _ λa' W' hA=>?_)⟩;obtain ⟨hR',hb'⟩:=hb a' W' hA;have hbg:=run_beginRound (P:=P) hR'.lp (by rw [hrec]);have e1:({ rec .ready none with state:=.busy }:Loop)=rec .busy none:=by rw [hrec]
   rw [e1] at hbg;refine ⟨_,hbg,wpIn_mono (hb' (hR'.put hne .busy none)) ?_⟩;have fin:∀ (jump:Option Code) (W3:World),Rec rec (w.heap.size+1) w.heap.size .busy none W3->(Instr.endRound (w.heap.size+1) jump).run P W3=.ok (.bool jump.isNone) (W3.putObj (w.heap.size+1) (.loop (rec (if jump.isNone then .ready else .done) jump))):=λjump W3 h3=>by
    have:=run_endRound (P:=P) jump h3.lp;rw [hrec] at this ⊢;exact this
   rintro e a3 W3 hp;cases e with
   | normal=>exact ⟨_,_,fin none W3 hp.1,hp.2⟩
   | ret=>exact ⟨_,_,fin (some .ret) W3 hp.1,hp.2⟩
   | exit id=>exact ⟨_,_,fin (some (.exit id)) W3 hp.1,hp.2⟩
   | goto t=>exact ⟨_,_,fin (some (.goto t)) W3 hp.1,hp.2⟩
   | panic ch=>exact hp.elim
   | outgrown=>exact hp.elim
  ·rintro e W2 ⟨v,rfl,⟨hR,hq⟩ | ⟨c,hR,hq⟩⟩
   ·have hend:=run_endLoop (P:=P) hR.lp (by rw [hrec];simp);have e1:({ rec .ready none with state:=.exhausted }:Loop)=rec .exhausted none:=by rw [hrec]
    have e2:(rec .ready none).pending=none:=by rw [hrec]
    rw [e1,e2] at hend;exact ⟨none,_,hend,hq _ rfl ((World.putObj_heap_other hne).trans hR.df)⟩
   ·have hend:=run_endLoop (P:=P) hR.lp (by rw [hrec];simp);have e1:({ rec .done (some c) with state:=.exhausted }:Loop)=rec .exhausted (some c):=by rw [hrec]
    have e2:(rec .done (some c)).pending=some c:=by rw [hrec]
    rw [e1,e2] at hend;exact ⟨some c,_,hend,wpIn_wide.2 (hq _ rfl ((World.putObj_heap_other hne).trans hR.df))⟩
theorem fT {f:FuncId} {fn:Func} {c:Code} {args:Array Value} {w:World} {R:Ending->World->Prop} (hf:P.funcs[f]?=some fn) (hb:fn.body=some c)
  (h:c.wp P (bodyPostM Fence.wide 1 P fn R) { tmps:=args++Array.replicate (fn.ntmps - args.size) undef,defers:=[] } w):Calls P f args w R :=
 callsIn_wide.1 (callsIn_of_wp_marks hf hb trivial (wpIn_wide.2 h))
end Rf
structure Hd where
 a:Option Addr
 n:Nat
 c:Nat
def Hd.v (h:Hd):Value:=.slice h.a h.n h.c
def af (u:Int) (g c l fe ax rg fu cv:Hd):Array Value:=#[.int .i64 u,.slice g.a g.n g.c,.slice c.a c.n c.c,.slice l.a l.n l.c,.slice fe.a fe.n fe.c,.slice ax.a ax.n ax.c,.slice rg.a rg.n rg.c,.slice fu.a fu.n fu.c,.slice cv.a cv.n cv.c]
open Go.RowKit Go.MapKept
open Go.ChangeMaps (setBlock)
namespace Gm
structure gP (P:Program) (kt:TypeId) {β:Type} (enc:β->Value):Prop where
 inj:∀ a b,enc a=enc b->a=b
 check:∀ (e:Bool) (w:World) (k:β),(Instr.checkKey e 10000 kt (enc k)).run P w=.ok () w
 stays:∀ (w:World) (k:β),(Instr.keyThatStays (enc k) (enc k)).run P w=.ok (enc k) w
 find:∀ (w:World) (k:β) (es:List MapEntry),(∀ x∈es,∃ a,x.key=enc a) ->
  ((Instr.findKey kt (enc k) es).run P w=.ok none w/\∀ x∈es,x.key≠enc k)∨∃ j e,(Instr.findKey kt (enc k) es).run P w=.ok (some (j,e.val)) w/\es[j]?=some e/\e.key=enc k
theorem gP.plain {P:Program} {kt:TypeId} {β:Type} {enc:β->Value} {d:TypeDesc} (hk:P.underlying kt=some d) (hd:∀ a,IsKey d (enc a)) (inj:∀ a b,enc a=enc b->a=b)
  (hs:∀ (w:World) (k:β),(Instr.keyThatStays (enc k) (enc k)).run P w=.ok (enc k) w):gP P kt enc:=by
 refine ⟨inj,λe w k=>run_checkKey hk (hd k) e 9999,hs,λw k es h=>?_⟩;rcases findNow_spec (hd k) es 0 (λx hx=>by obtain ⟨a,ha⟩:=h x hx;rw [ha];exact hd a) with ⟨h1,h2⟩ | ⟨j,e,h1,h2,h3⟩
 ·exact .inl ⟨run_findKey hk h1,h2⟩
 ·rw [Nat.zero_add] at h1;exact .inr ⟨j,e,run_findKey hk h1,h2,h3⟩
variable {β:Type} [DecidableEq β]
def cJ (enc:β->Value) (w:World) (b:Nat) (m:List (β×Value)):Prop :=
 ∃ es clock,w.heap[b]?=some (.map es clock)/\es.toList.map (λe=>(e.key,e.val))=m.map (λp=>(enc p.1,p.2))/\Stamped es clock
def look (m:List (β×Value)) (k:β):Option Value:=(m.find? λp=>decide (p.1=k)).map (·.2)
def put (m:List (β×Value)) (k:β) (v:Value):List (β×Value):=if (m.find? λp=>decide (p.1=k)).isSome then m.map (λp=>if p.1=k then (k,v) else p) else m++[(k,v)]
variable {enc:β->Value} {w w':World} {b:Nat} {m:List (β×Value)}
theorem cJ.lt (h:cJ enc w b m):b<w.heap.size:=by
 obtain ⟨es,c,h,_⟩:=h;exact (Array.getElem?_eq_some_iff.1 h).1
theorem cJ.of (h:cJ enc w b m) (hb:w'.heap[b]?=w.heap[b]?):cJ enc w' b m:=by
 obtain ⟨es,c,h1,h2⟩:=h;exact ⟨es,c,hb.trans h1,h2⟩
theorem cJ.mod {F:List Nat} (h:cJ enc w b m) (hm:Mod F w w') (hn:b ∉ F):cJ enc w' b m:=h.of (hm.block b h.lt hn)
theorem cJ.new (enc:β->Value) (w:World):cJ enc (w.alloc (.map #[] 0)) w.heap.size []:=⟨#[],0,by show (w.heap.push _)[w.heap.size]?=_;simp,rfl,by simp [Stamped]⟩
theorem cJ.keys (h:cJ enc w b m):(m.map (·.1)).Nodup:=by
 obtain ⟨es,c,_,h2,_,_,h3⟩:=h;have e:es.toList.map (·.key)=m.map (λp=>enc p.1):=by
  have:=congrArg (List.map Prod.fst) h2;simpa [List.map_map,Function.comp_def] using this
 rw [e] at h3;have:(m.map (·.1)).map enc=m.map (λp=>enc p.1):=by simp [List.map_map,Function.comp_def]
 rw [<- this] at h3;exact (List.pairwise_map.1 h3).imp (λh e=>h (by rw [e]))
theorem Bh {es:List MapEntry} (h2:es.map (λe=>(e.key,e.val))=m.map (λp=>(enc p.1,p.2))):∀ x∈es,∃ a,x.key=enc a:=λx hx=>by
 have:(x.key,x.val)∈m.map (λp=>(enc p.1,p.2)):=by rw [<- h2];exact mM (f:=λe:MapEntry=>(e.key,e.val)) hx
 obtain ⟨p,_,hp⟩:=List.mem_map.1 this;exact ⟨p.1,(congrArg Prod.fst hp).symm⟩
section
variable {P:Program} {t kt et:TypeId} (L:gP P kt enc)
include L
theorem qK (w:World) {es:List MapEntry} (h2:es.map (λe=>(e.key,e.val))=m.map (λp=>(enc p.1,p.2))) (k:β) :
  ((Instr.findKey kt (enc k) es).run P w=.ok none w/\m.find? (λp=>decide (p.1=k))=none/\∀ x∈es,x.key≠enc k) ∨
  ∃ j e,(Instr.findKey kt (enc k) es).run P w=.ok (some (j,e.val)) w/\es[j]?=some e/\e.key=enc k/\m[j]?=some (k,e.val):=by
 rcases L.find w k es (Bh h2) with ⟨h1,h3⟩ | ⟨j,e,h1,h3,h4⟩
 ·left;refine ⟨h1,List.find?_eq_none.2 λp hp he=>?_,h3⟩;have:(enc p.1,p.2)∈es.map (λe=>(e.key,e.val)):=by rw [h2];exact mM (f:=λp:β×Value=>(enc p.1,p.2)) hp
  obtain ⟨e,he2,hee⟩:=List.mem_map.1 this;have hpk:p.1=k:=by simpa using he
  exact h3 e he2 (by have:=congrArg Prod.fst hee;simp only at this;rw [this,hpk])
 ·right;refine ⟨j,e,h1,h3,h4,?_⟩;have h5:(es.map (λe=>(e.key,e.val)))[j]?=some (e.key,e.val):=by rw [List.getElem?_map,h3];rfl
  rw [h2,List.getElem?_map] at h5;cases hm:m[j]? with
  | none=>rw [hm] at h5;cases h5
  | some p =>
   rw [hm,h4] at h5;simp only [Option.map_some,Option.some.injEq,Prod.mk.injEq] at h5;obtain ⟨p1,p2⟩:=p;simp only at h5;rw [L.inj _ _ h5.1,h5.2]
omit L in
theorem pw {m:List (β×Value)} (hn:(m.map (·.1)).Nodup) {j:Nat} {k:β} {v:Value} (h:m[j]?=some (k,v)):m.find? (λp=>decide (p.1=k))=some (k,v):=by
 induction m generalizing j with
 | nil=>simp at h
 | cons p r ih =>
  simp only [List.map_cons,List.nodup_cons] at hn;cases j with
  | zero=>simp only [gZ,Option.some.injEq] at h;subst h;simp
  | succ j =>
   simp only [gS] at h;have hne:p.1≠k:=λe=>hn.1 (by rw [e];exact List.mem_map.2 ⟨(k,v),List.mem_of_getElem? h,rfl⟩)
   rw [List.find?_cons_of_neg zpg];exact ih hn.2 h
theorem cH (h:cJ enc w b m) (ht:P.underlying t=some (.map kt et)) {z:Value} (hz:(zeroValue et).run P w=.ok z w) (k:β) (ok:Bool) :
  (Instr.lookup t (.map (some b)) (enc k) ok).run P w=.ok (if ok then .tuple #[(look m k).getD z,.bool (look m k).isSome] else (look m k).getD z) w:=by
 have hn:=h.keys;obtain ⟨es,c,h1,h2,h3⟩:=h;have hck:=L.check es.isEmpty w k;have hg:=Go.MapKept.run_getObj_map (P:=P) h1;unfold Instr.lookup look;rcases qK L w h2 k with ⟨hf,h5,-⟩ | ⟨j,e,hf,h5,h6,h7⟩
 ·simp only [Sem.run_bind,run_underlying ht,Result.andThen_ok,hg,Sem.run_pure,hck,hf,hz,h5];cases ok <;> rfl
 ·rw [pw hn h7];simp only [Sem.run_bind,run_underlying ht,Result.andThen_ok,hg,Sem.run_pure,hck,hf];cases ok <;> rfl
omit L in
theorem DU {m:List (β×Value)} {j:Nat} {k:β} {v u:Value} (hn:(m.map (·.1)).Nodup) (h:m[j]?=some (k,u)):∀ q,(m.map λp=>if p.1=k then (k,v) else p)[q]?=if q=j then some (k,v) else m[q]?:=by
 intro q;rw [List.getElem?_map]
 by_cases hq:q=j
 ·subst hq;rw [h,if_pos rfl];simp
 ·rw [if_neg hq];cases hm:m[q]? with
  | none=>rfl
  | some p =>
   have hne:p.1≠k:=λe=>hq (by
    have h1:(m.map (·.1))[q]?=some k:=by rw [List.getElem?_map,hm];simp [e]
    have h2:(m.map (·.1))[j]?=some k:=by rw [List.getElem?_map,h];rfl
    have l1:=(gI.1 h1).1;have l2:=(gI.1 h2).1;have e1:=(gI.1 h1).2;have e2:=(gI.1 h2).2;rcases Nat.lt_trichotomy q j with hlt | heq | hgt
    ·exact absurd (e1.trans e2.symm) (List.pairwise_iff_getElem.1 hn q j l1 l2 hlt)
    ·exact heq
    ·exact absurd (e2.trans e1.symm) (List.pairwise_iff_getElem.1 hn j q l2 l1 hgt))
   simp [hne]
theorem iE (h:cJ enc w b m) (ht:P.underlying t=some (.map kt et)) (k:β) (v:Value) :
  ∃ w',(Instr.mapUpdate t (.map (some b)) (enc k) v).run P w=.ok () w'/\cJ enc w' b (put m k v)/\w'.os=w.os/\w'.tape=w.tape/\w'.output=w.output/\w'.heap.size=w.heap.size/\∀ b',b'≠b->w'.heap[b']?=w.heap[b']?:=by
 have hn:=h.keys;have hlt:=h.lt;obtain ⟨es,c,h1,h2,h3⟩:=h;have hg:=Go.MapKept.run_getObj_map (P:=P) h1;have hck:=L.check false w k;have hso:=λo=>Go.MapKept.run_setObj_map (P:=P) o h1
 unfold Instr.mapUpdate;rcases qK L w h2 k with ⟨hf,h5,hk3⟩ | ⟨j,e,hf,h5,h6,h7⟩
 ·refine ⟨{ w with heap:=w.heap.setIfInBounds b (.map (es.push { key:=enc k,val:=v,born:=c }) (c+1)) },?_,?_,rfl,rfl,rfl,by simp,λb' hb=>(heap_set h1).2 b' hb⟩
  ·simp only [Sem.run_bind,run_underlying ht,Result.andThen_ok,hg,hck,hf,hso]
  ·refine ⟨_,_,(heap_set h1).1,?_,stamped_push h3 λx hx he=>?_⟩
   ·unfold put;rw [h5];simp [h2]
   ·exact hk3 x hx he
 ·have hej:es[j]?=some e:=by simpa using h5
  have hst:∀ w:World,(Instr.keyThatStays (((es[j]?).map (·.key)).getD (enc k)) (enc k)).run P w=.ok (enc k) w:=λw=>by
   rw [hej];simp only [Option.map_some,Option.getD_some,h6];exact L.stays w k
  refine ⟨{ w with heap:=w.heap.setIfInBounds b (.map (es.modify j λe=>{ e with key:=enc k,val:=v }) c) },?_,?_,rfl,rfl,rfl,by simp,λb' hb=>(heap_set h1).2 b' hb⟩
  ·simp only [Sem.run_bind,run_underlying ht,Result.andThen_ok,hg,hck,hf,hst,hso]
  ·refine ⟨_,_,(heap_set h1).1,?_,stamped_modify h3 j _ (λ_ _=>rfl) λx hx hxe=>?_⟩
   ·unfold put;rw [pw hn h7];simp only [Option.isSome_some,if_true];apply List.ext_getElem?;intro q;rw [List.getElem?_map,List.getElem?_map,DU hn h7 q];have h8:(es.toList.map λe=>(e.key,e.val))[q]?=(m.map λp=>(enc p.1,p.2))[q]?:=by rw [h2]
    rw [List.getElem?_map,List.getElem?_map] at h8;rw [show (es.modify j λe=>{ e with key:=enc k,val:=v }).toList[q]?=if j=q then (es[q]?).map (λe=>{ e with key:=enc k,val:=v }) else es[q]? by rw [Array.toList_modify,List.getElem?_modify];by_cases hjq:j=q <;> simp [hjq]]
    by_cases hq:q=j
    ·subst hq;simp [hej]
    ·rw [if_neg (λe=>hq e.symm),if_neg hq];simpa using h8
   ·rw [hej] at hxe;cases hxe;exact h6.symm
end
end Gm
section
variable {P:Program}
def jN (Q:Exit->Act->World->Prop):Exit->Act->World->Prop
 | .outgrown,_,_=>False
 | e,a,w=>Q e a w
theorem AR {Q:Exit->Act->World->Prop}:∀ e a w,jN Q e a w->Q e a w:=λe a w h=>by
 cases e <;> first | exact h | exact h.elim
theorem vE {row:String} {args:Array Value} {w:World} {R:Value->World->Prop} {l n:Nat} (h:Go.Rows P row args w R):RowsIn (Fence.wide.inRound l) n P row args w R :=
 λc cs _=>let ⟨v,w',r,s⟩:=h c cs;⟨v,w',r,stepsIn_wide.2 s⟩
theorem vT {o:Oper} {a:Act} {w:World} {K:Act->World->Prop} {Q:Exit->Act->World->Prop} {l n:Nat} (hd:∀ c,o.op≠.defer c) (h:o.wp P a w K Q):o.wpIn (Fence.wide.inRound l) n P a w K Q:=by
 refine ⟨λ_ _=>trivial,?_⟩;unfold Oper.wp at h;rw [Oper.semAt_eq _ _ _ hd];generalize (execOp a.eval o).run P w=r at *
 cases r with
 | ok x w' =>
  cases x <;> simp only [Oper.upon] at h <;> simp only [Oper.uponIn] <;>
   first
    | exact h
    | exact ⟨λhh=>by simp [Fence.wide] at hh,CallsIn.inRound l (callsIn_wide.2 h)⟩
    | exact ⟨λhh=>by simp [Fence.wide] at hh,vE h⟩
 | halt x w'=>cases x <;> simp only [Oper.upon] at h <;> simp only [Oper.uponIn] <;> exact h
def lh (ops:Array Oper):Bool:=ops.all λo=>match o.op with | .defer _=>false | _=>true
theorem AP {ops:Array Oper} {Q:Exit->Act->World->Prop} {i:Nat} {K:Act->World->Prop} {a:Act} {w:World} {l n:Nat} (hd:lh ops=true) (h:wpOp P ops (jN Q) i K a w):wpOpIn (Fence.wide.inRound l) n P ops (jN Q) i K a w:=by
 unfold wpOp at h;unfold wpOpIn;cases ho:ops[i]? with
 | none=>rw [ho] at h;exact h
 | some o =>
  rw [ho] at h;simp only at h ⊢
  by_cases hw:Region.wanted o (yielded ops a.tmps)=true
  ·rw [if_pos hw] at h ⊢;refine vT (λc hc=>?_) (h.resolve_right λhh=>?_)
   ·have h1:=Array.all_eq_true.1 hd i (Array.getElem?_eq_some_iff.1 ho).1;rw [(Array.getElem?_eq_some_iff.1 ho).2] at h1;rw [hc] at h1;cases h1
   ·obtain ⟨-,a',w',h2⟩:=hh;exact h2
  ·rw [if_neg hw] at h ⊢;exact ⟨λ_ _=>trivial,h⟩
theorem qP {ops:Array Oper} {Q:Exit->Act->World->Prop} {md:Region.Mode} {l n:Nat} (hd:lh ops=true):∀ (fuel:Nat) (listed:Array Bool) (a:Act) (w:World),wpAny P md ops (jN Q) fuel listed a w->wpAnyIn (Fence.wide.inRound l) n P md ops (jN Q) fuel listed a w
 | 0,_,_,_,h=>h
 | fuel+1,listed,a,w,h=>⟨h.1,λi hi=>wpOpIn_mono (λa' w' h'=>qP hd fuel _ a' w' h') (AP hd (h.2 i hi))⟩
theorem rO {id:Nat} {ops:Array Oper} {Q:Exit->Act->World->Prop} {a:Act} {w:World} {l n:Nat} (hm:P.follows .mixedOrders=true) (hd:lh ops=true)
  (h:wpAny P .any ops (jN Q) ops.size (Array.replicate ops.size false) a { w with drawn:=w.drawn+1 }):(Code.region id ops true).wpIn (Fence.wide.inRound l) n P Q a w :=
 wpIn_mono (wpIn_region_any hm (qP hd _ _ _ _ h)) AR
namespace Sn
variable {I:World->Prop}
theorem eJ (hI:∀ w w',I w->Mod [] w w'->I w') {id:Nat} {Q:Exit->Act->World->Prop} {a:Act} {w:World} {l:List Oper} {lp d:Nat} (n:Nat) (toks:List (Nat×Option ez))
  (hm:P.follows .mixedOrders=true) (hB:(Region.noSelect l.toArray && decide (n<=l.length) && decide (toks.length=n) && Region.fH .any l.toArray n && mz .any l.toArray n (toks.map λp=>(p.1,p.2.isSome)) (Array.replicate l.toArray.size false) && lh l.toArray)=true)
  (hn:(toks.map (·.1)).Nodup) (hT:∀ p∈toks,∀ T,p.2=some T->∀ v F,aG F->aG (T v F)) (hw:I w.drew) {F0:World->Prop} (hF0:aG F0) (hw0:F0 w.drew)
  (h:dL P l.toArray I (λa' F=>∀ w',I w'->F w'->wpList P l.toArray (jN Q) (l.drop n) a' w') toks a F0) :
  (Code.region id l.toArray true).wpIn (Fence.wide.inRound lp) d P Q a w:=by
 simp only [Bool.and_eq_true,decide_eq_true_eq] at hB;obtain ⟨⟨⟨⟨⟨hsel,hnl⟩,hlen⟩,ht⟩,hB'⟩,hdf⟩:=hB;have inv0:HeadInv .any l.toArray n (Array.replicate l.toArray.size false) :=
  ⟨by simp,λj oj _ hl=>zqk,λt _ ht=>getD_in zpc (getD_replicate_false _ _)⟩
 have H:=iJ (P:=P) (I:=I) (L:=qb toks) hsel ht toks _ a _ inv0 hB' (ml toks hn) h.o;refine rO hm hdf ?_;have hdl:(l.drop n).length=l.toArray.size - n:=by simp
 have hfin:=dJ hI (P:=P) (md:=.any) (ops:=l.toArray) (Q:=jN Q) (g:=l.toArray.size - n) (λi T hi v F hF=>hT _ (pq hi) T rfl v F hF) (λlisted a F w' hw hF hf=>by
  have:=wpAny_of_seq (md:=.any) (Q':=jN Q) (l.drop n) n listed a w' (λj=>by simp [List.getElem?_drop]) zqz (hf.2 w' hw hF)
  rwa [hdl] at this) _ _ _ _ w.drew hF0 hw hw0 H
 have hl2:toks.length+(l.toArray.size - n)=l.toArray.size:=by simp;omega
 rwa [hl2] at hfin
end Sn
namespace Sw
variable {I:World->Prop}
theorem eJ (hI:∀ w w',I w->Mod [] w w'->I w') {id:Nat} {Q:Exit->Act->World->Prop} {a:Act} {w:World} {l:List Oper} {lp d:Nat} (n:Nat) (toks:List (Nat×Option ez))
  (hm:P.follows .mixedOrders=true) (hB:(Region.noSelect l.toArray && decide (n<=l.length) && decide (toks.length=n) && Region.fH .any l.toArray n && Sn.mz .any l.toArray n (toks.map λp=>(p.1,p.2.isSome)) (Array.replicate l.toArray.size false) && lh l.toArray)=true)
  (hn:(toks.map (·.1)).Nodup) (hT:∀ p∈toks,∀ T,p.2=some T->∀ v,aG (T v)) (hw:I w.drew) {F0:World->Prop} (hF0:aG F0) (hw0:F0 w.drew)
  (h:dL P l.toArray I (λa' F=>∀ w',I w'->F w'->wpList P l.toArray (jN Q) (l.drop n) a' w') toks a F0) :
  (Code.region id l.toArray true).wpIn (Fence.wide.inRound lp) d P Q a w :=
 Sn.eJ hI n (up toks) hm zqt (by rw [zK];exact hn) (sE hT) hw hF0 hw0 h.o
end Sw
end
theorem hdS {k:Nat} {α:Type} {R:Bl->World->List Value->α->Prop} {S:Bl} {w:World} {v:Value} {l:List α} (h:az k R S w v l):∃ d:Hd,v=.slice d.a d.n d.c:=by
 obtain ⟨oa,c,e,_⟩:=h.form;exact ⟨⟨oa,_,c⟩,e⟩
theorem BD {S:Bl} {w:World} {cs:Array Value} {F:aD} (h:kw S w cs.toList F):∃ g c lk fe ax rg fu cv:Hd,cs=af F.unit g c lk fe ax rg fu cv:=by
 obtain ⟨w1,w2,w3,w4,w5,w6,w7,w8,he,hu,h1,h2,h3,h4,h5,h6,h7,h8⟩:=h;obtain ⟨d1,rfl⟩:=hdS h1;obtain ⟨d2,rfl⟩:=hdS h2;obtain ⟨d3,rfl⟩:=hdS h3;obtain ⟨d4,rfl⟩:=hdS h4;obtain ⟨d5,rfl⟩:=hdS h5;obtain ⟨d6,rfl⟩:=hdS h6;obtain ⟨d7,rfl⟩:=hdS h7;obtain ⟨d8,rfl⟩:=hdS h8;exact ⟨d1,d2,d3,d4,d5,d6,d7,d8,by rw [<- Array.toArray_toList (xs:=cs),he];rfl⟩
theorem kw.hds {S:Bl} {w:World} {F:aD} {u:Int} {g c l fe ax rg fu cv:Hd} (h:kw S w (af u g c l fe ax rg fu cv).toList F) :
  u=F.unit/\az 9 bO S w (.slice g.a g.n g.c) F.glyphs/\az 2 cV S w (.slice c.a c.n c.c) F.chars/\az 3 bc S w (.slice l.a l.n l.c) F.lookups/\az 2 aU S w (.slice fe.a fe.n fe.c) F.features/\az 4 bX S w (.slice ax.a ax.n ax.c) F.axes/\az 1 aY S w (.slice rg.a rg.n rg.c) F.regions/\az 1 cT S w (.slice fu.a fu.n fu.c) F.funcs/\az 1 aF S w (.slice cv.a cv.n cv.c) F.cvt:=by
 obtain ⟨v1,v2,v3,v4,v5,v6,v7,v8,hcs,hu,h1,h2,h3,h4,h5,h6,h7,h8⟩:=h;simp only [af,List.cons.injEq,and_true] at hcs;obtain ⟨e0,rfl,rfl,rfl,rfl,rfl,rfl,rfl,rfl⟩:=hcs;exact ⟨by simpa using e0,h1,h2,h3,h4,h5,h6,h7,h8⟩
theorem az.n {k:Nat} {α:Type} {R:Bl->World->List Value->α->Prop} {S:Bl} {w:World} {a:Option Addr} {n c:Nat} {l:List α} (h:az k R S w (.slice a n c) l):n=l.length:=by
 obtain ⟨oa,cp,e,_⟩:=h.form;cases e;rfl
end Go.Proofs.YthheaflbbficgaaGreat

/- Backward, RoundOne, OrderOne, ComposedOne, AwakeC. -/
import Derived.Test.YthheaflbbficgaaGreatGBase
import Derived.Test.YthheaflbbficgaaGreatGCo
import Derived.Test.YthheaflbbficgaaGreatGRing
import Derived.Test.YthheaflbbficgaaGreatGCp
import Derived.Test.YthheaflbbficgaaGreatGRf
import Derived.LoopN
import Derived.LoopNIn
import Derived.Sort.CutIn
import Derived.Test.YthheaflbbficgaaGreatGCf
set_option linter.all false
namespace Go.Proofs.YthheaflbbficgaaGreat
set_option maxHeartbeats 8000000
open Go.RowKit
attribute [local go_sem] Oper.semAt_some
theorem BQ (oa:Option Addr) (n c:Nat) (w:World):Calls Tryz.prog 181 #[.slice oa n c] w λe w'=>(∃ b,e=.returned (.func (.func 188) #[] #[.pointer (some ⟨b,0,none⟩)])/\Blk w' b #[.slice oa n c] 22/\w.heap.size<=b)/\Mod [] w w':=by
 have T:=Hi (own1 w #[.slice oa n c] 22);go_enter Tryz.func181,Tryz.ntmps181;go_wp2;go_ret;exact ⟨⟨_,rfl,T.o.at 0 rfl,T.o.ge 0 rfl⟩,T.o.mod⟩
set_option maxRecDepth 100000 in
theorem zx {b g c l:Nat} {x:Int} {Q:World->Prop} (w:World) (hb:Blk w b #[.slice (some ⟨g,0,none⟩) 1 c] 22) (hg:w.cell? ⟨g,0,none⟩=some (.int .i64 x))
  (hY:YieldAt Fence.wide 0 Tryz.prog l #[.int .i64 0,.int .i64 x] w λe W'=>e=.returned (.bool true)/\Q W') :
  Calls Tryz.prog 188 #[.func (.yield l) #[] #[],.pointer (some ⟨b,0,none⟩)] w λe w'=>e=.returned (.tuple #[])/\Q w':=by
 have c0:=hb.cell 0;simp only [gA,gZ] at c0;have HY:=Hi hY;clear hY hb;go_enter Tryz.func188,Tryz.ntmps188;go_wp2_with fail
 go_loopg [3] 1 (λgk v3 wr=>(gk=1/\v3=.int .i64 0/\wr=w)∨(gk=0/\v3=.int .i64 (-1)/\Hy (Q wr)))
 case atStart=>exact .inl ⟨rfl,rfl,rfl⟩
 case round =>
  rcases hrel with ⟨rfl,rfl,rfl⟩ | ⟨rfl,rfl,HQ⟩
  ·go_upto_region 3 with fail;obtain ⟨fn',tmps',as',bo',hy,hR⟩:=HY.o;refine (wpIn_wide (n:=1)).1 ?_
   gi_wp2
   refine hR.mono ?_;rintro e w3 ⟨rfl,hr⟩;have HR:=Hi hr;have e1:IntKind.i64.wrap ((0:Int) - 1)=-1:=zd;clear hr hy hR c0 hg
   gi_wp2
   go_wp2;go_roundg 0
   case measure=>exact Nat.one_pos
   case rel=>exact .inr ⟨rfl,rfl,HR.o⟩
  ·have k1:decide ((0:Int)<=-1)=false:=zd;go_wp2_with fail;refine bodyPost_end (results_none rfl _ _ _) rfl ?_;exact ⟨rfl,HQ.o⟩
attribute [local go_sem] Oper.semAt_some
theorem Own.other {w0 w w':World} {l:List (Nat×Array Value×TypeId)} {F:List Nat} (S:Own w0 w l) (m:Mod F w w') (hF:∀ b∈F,w0.heap.size<=b) (hn:∀ p∈l,p.1 ∉ F):Own w0 w' l :=
 ⟨S.mod.trans m (λb hb hlt=>absurd (hF b hb) zo),λp hp=>⟨(S.blk p hp).1,(S.blk p hp).2.kept m (hn p hp)⟩,S.nodup⟩
theorem xf {w:World} {base:Nat} {v:Value} {x:Int} {k:Nat} (h:w.ownsRow base 3 1 v (k+1) (ints [x])):∃ g c,v=.slice (some ⟨g,0,none⟩) 1 c/\base<=g/\w.cell? ⟨g,0,none⟩=some (.int .i64 x):=by
 obtain rfl:k=0:=by have h1:=h.1;unfold ints at h1;simp at h1;omega
 rcases h.2 with ⟨-,h1⟩ | ⟨g,cap,cur,rfl,-⟩
 ·omega
 ·exact ⟨g,cap,rfl,(h.lt g rfl).1,by rw [uP h zo];rfl⟩
theorem lJ {Q:Exit->Act->World->Prop} {a:Act} {w:World} (h:Q .normal a w):jN Q .normal a w:=h
theorem mK:aG (λ_=>True):=λ_ _ _ _=>True.intro
theorem BA (p:cK) (x:av) (hx:x.parts=[p]) (hp:p.glyph=0) {s:Lf.S} (h:Lf.Goes 1 (eI [x]) 1 s):s.told=[0]:=by
 have e0:eI [x] 0=[0]:=by unfold eI;simp [hx,hp]
 have h1:Lf.Goes 1 (eI [x]) 1 ⟨[],λq=>if q=0 then true else false,[0]⟩:=by
  refine .next .start zd ?_;have en:Lf.enter 1 ((0:Nat):Int) ⟨[],λ_=>false,[]⟩=⟨[(0,0)],λq=>if q=0 then true else false,[]⟩:=rfl;rw [en];refine .step (g:=0) (k:=0) (ws:=[]) rfl ?_;have st:Lf.step 1 (eI [x]) 0 0 [] ⟨[(0,0)],λq=>if q=0 then true else false,[]⟩=⟨[(0,1)],λq=>if q=0 then true else false,[]⟩:=by
   unfold Lf.step;rw [e0];rfl
  rw [st];refine .step (g:=0) (k:=1) (ws:=[]) rfl ?_;have st2:Lf.step 1 (eI [x]) 0 1 [] ⟨[(0,1)],λq=>if q=0 then true else false,[]⟩=⟨[],λq=>if q=0 then true else false,[0]⟩:=by
   unfold Lf.step;rw [e0];rfl
  rw [st2];exact .done rfl
 rw [h.det h1]
set_option maxRecDepth 100000 in
theorem ym (u:Int) (fg fc fl ff fx fr fn fv:Hd) (x:av) (p:cK) (B:Nat) (w:World) (hr:Rows 9 aI B w (.slice fg.a fg.n fg.c) [x]) (hx:x.parts=[p]) (hp:p.glyph=0) :
  Calls Tryz.prog 169 #[.agg (af u fg fc fl ff fx fr fn fv)] w λe w'=>e=.returned (.int .i64 0)/\Mod [] w w':=by
 have HR:=Hi hr;have HXP:=Hi (And.intro hx hp);have HNG:Hy (fg.n=1):=by obtain ⟨_,_,he,-⟩:=hr.form;injection he with _ h _
 have T1:=own2 w (af u fg fc fl ff fx fr fn fv) 32 #[.int .i64 1] 3;have al1:Mod [] ((w.alloc (.cells (af u fg fc fl ff fx fr fn fv) 32)).alloc (.cells #[.int .i64 1] 3)) (((w.alloc (.cells (af u fg fc fl ff fx fr fn fv) 32)).alloc (.cells #[.int .i64 1] 3)).alloc (.map #[] 0)):=(Mod.refl [] _).alloc _;have T2:=Hi ((T1.call al1).alloc #[.map (some (w.heap.size+2))] 212);have G0:=Hi ((Gm.cJ.new (Value.int .i64) ((w.alloc (.cells (af u fg fc fl ff fx fr fn fv) 32)).alloc (.cells #[.int .i64 1] 3))).mod ((Mod.refl [] _).alloc (.cells #[.map (some (w.heap.size+2))] 212)) zk);simp only [List.cons_append,List.nil_append,World.size_alloc,Nat.add_assoc,Nat.reduceAdd] at T2 G0;have a1:=(((own1 w (af u fg fc fl ff fx fr fn fv) 32).at 0 rfl)).cell 1;unfold af at T2 a1 G0 ⊢;simp only [gA,gZ,gS] at a1;rw [HNG.o] at a1 T2 G0;have hm1:∀ W:World,(Instr.makeMap 212 none).run Tryz.prog W=.ok (.map (some W.heap.size)) (W.alloc (.map #[] 0)):=λW=>by kernel_rfl
 clear hr hx hp al1 T1;refine Rf.fT Tryz.func169 rfl ?_;simp only [Tryz.ntmps169,List.size_toArray,List.length_cons,List.length_nil,Nat.reduceAdd,Nat.reduceSub,Array.replicate_succ,Array.replicate_zero,List.push_toArray,List.append_toArray,List.nil_append,List.cons_append];rw [HNG.o];go_upto_region 3 with fail;clear hm1 a1;simp only [Nat.add_assoc,Nat.reduceAdd];generalize ((((w.alloc _).alloc _).alloc _).alloc _)=w0 at *
 obtain ⟨N,hN⟩:∃ N,N=w.heap.size:=⟨_,rfl⟩
 rw [<- hN] at T2 G0 ⊢;have HN:=Hi hN;clear hN;have a1:=(T2.o.at 0 rfl).cell 1;simp only [gA,gZ,gS] at a1;go_wp2_with fail;clear a1;refine wp_loop_rounds 2 ?_;rw [rounds_succ];generalize hKr:Code.rounds _ _ _ 1=Kr;have HKr:=Hi hKr;clear hKr;have T3:=Hi (T2.o.alloc #[.int .i64 0] 3);have G1:=Hi (G0.o.mod ((Mod.refl [] w0).alloc (.cells #[.int .i64 0] 3)) zk);simp only [List.cons_append,List.nil_append] at T3;have HNB:Hy (N+4<=w0.heap.size):=by have h1:=T2.o.lt 2 rfl;show N+4<=w0.heap.size;omega
 clear T2 G0;go_upto_region 6 with fail;generalize w0.alloc (.cells #[.int .i64 0] 3)=w1 at *
 generalize w0.heap.size=b5 at *
 have f0:=(T3.o.at 0 rfl).cell 0;have f1:=(T3.o.at 0 rfl).cell 1;have f2:=(T3.o.at 0 rfl).cell 2;have f3:=(T3.o.at 0 rfl).cell 3;have f4:=(T3.o.at 0 rfl).cell 4;have f5:=(T3.o.at 0 rfl).cell 5;have f6:=(T3.o.at 0 rfl).cell 6;have f7:=(T3.o.at 0 rfl).cell 7;have f8:=(T3.o.at 0 rfl).cell 8;have g0:=(T3.o.at 3 rfl).cell 0;simp only [gA,gZ,gS] at f0 f1 f2 f3 f4 f5 f6 f7 f8 g0;have hX:=qv u fg fc fl ff fx fr fn fv 0 w1;unfold af at hX;rw [HNG.o] at hX;have HX:=Hi hX;clear hX;go_wp2_with fail;refine HX.o.mono ?_;rintro e w2 ⟨⟨b2,b3,rfl,hb2,hb3,hg2,hg3⟩,m2⟩;have T4:=Hi (T3.o.call m2);have G2:=Hi (G1.o.mod m2 zk);have BB:=Hi (And.intro hb2 hb3);have HB2:Hy (N+5<=b2):=by have h1:=T3.o.lt 3 rfl;show N+5<=b2;have:=HNB.o;omega
 clear m2 hb2 hb3 hg2 hg3 f0 f1 f2 f3 f4 f5 f6 f7 f8 g0 HX T3 G1;go_wp2_with fail;refine Rf.lm (α:=cK) (gf:=184) (lb:=#[.pointer (some ⟨b2,0,none⟩),.pointer (some ⟨b3,0,none⟩)]) (encs:=λp=>#[.agg #[.int .i64 p.glyph,.int .i64 p.x,.int .i64 p.y]])
  (λW p a' W'=>W'=W.alloc (.cells #[.int .i64 p.glyph,.int .i64 p.x,.int .i64 p.y] 69)/\a'=⟨List.toArray (.agg #[.int .i64 u,.slice fg.a 1 fg.c,.slice fc.a fc.n fc.c,.slice fl.a fl.n fl.c,.slice ff.a ff.n ff.c,.slice fx.a fx.n fx.c,.slice fr.a fr.n fr.c,.slice fn.a fn.n fn.c,.slice fv.a fv.n fv.c]::.pointer (some ⟨N,0,none⟩)::.int .i64 0::.pointer (some ⟨N+1,0,none⟩)::.pointer (some ⟨N+3,0,none⟩)::.pointer (some ⟨b5,0,none⟩)::.pointer (some ⟨W.heap.size,0,none⟩)::undef::undef::undef::undef::undef::undef::undef::.pointer (some ⟨N,1,none⟩)::.slice fg.a 1 fg.c::.int .i64 1::.map (some (N+2))::.pointer (some ⟨N,1,none⟩)::.slice fg.a 1 fg.c::.int .i64 1::.int .i64 0::.bool true::.int .i64 0::.agg #[.int .i64 u,.slice fg.a 1 fg.c,.slice fc.a fc.n fc.c,.slice fl.a fl.n fl.c,.slice ff.a ff.n ff.c,.slice fx.a fx.n fx.c,.slice fr.a fr.n fr.c,.slice fn.a fn.n fn.c,.slice fv.a fv.n fv.c]::.int .i64 0::.func (.func 184) #[] #[.pointer (some ⟨b2,0,none⟩),.pointer (some ⟨b3,0,none⟩)]::.agg #[.int .i64 p.glyph,.int .i64 p.x,.int .i64 p.y]::undef::undef::undef::undef::undef::undef::undef::undef::undef::undef::undef::undef::undef::undef::undef::undef::undef::undef::undef::undef::undef::undef::undef::undef::undef::undef::undef::undef::undef::undef::undef::undef::undef::undef::undef::undef::undef::undef::undef::undef::undef::undef::undef::undef::undef::undef::undef::undef::undef::undef::undef::undef::undef::undef::undef::undef::undef::undef::undef::undef::undef::undef::undef::undef::undef::undef::undef::[]),[]⟩)
  rfl (λargs w=>by kernel_rfl) (λ_=>rfl) ?assign ?main
 case assign =>
  intro l p W KK hK
  gi_wp2
  try exact hK _ _ ⟨rfl,rfl⟩
 case main =>
  intro rec l D W1 hD hl hs hm hR hround;have HLD:Hy (D=w2.heap.size/\l=w2.heap.size+1/\W1.heap.size=w2.heap.size+2/\b5<w2.heap.size/\b2<w2.heap.size):=⟨hD,hl,hs,T4.o.lt 3 rfl,BB.o.1.lt⟩
  have T5:=Hi (T4.o.call hm);have G3:=Hi (G2.o.mod hm zk);have BB3:=Hi (And.intro (BB.o.1.kept hm zk) (BB.o.2.kept hm zk));have HRD:=Hi hround;have HRC:=Hi hR;clear hm hD hl hs hround hR T4 G2 BB
  refine (o9 (J:=λk W=>(k=0/\(Own w W [(N,#[.int .i64 u,.slice fg.a 1 fg.c,.slice fc.a fc.n fc.c,.slice fl.a fl.n fl.c,.slice ff.a ff.n ff.c,.slice fx.a fx.n fx.c,.slice fr.a fr.n fr.c,.slice fn.a fn.n fn.c,.slice fv.a fv.n fv.c],32),(N+1,#[.int .i64 1],3),(N+3,#[.map (some (N+2))],212),(b5,#[.int .i64 0],3)]/\Gm.cJ (Value.int .i64) W (N+2) []/\Rf.Rec rec l D .ready none W/\Blk W b2 #[.int .i64 u,.slice fg.a 1 fg.c,.slice fc.a fc.n fc.c,.slice fl.a fl.n fl.c,.slice ff.a ff.n ff.c,.slice fx.a fx.n fx.c,.slice fr.a fr.n fr.c,.slice fn.a fn.n fn.c,.slice fv.a fv.n fv.c] 32))∨(k=1/\(∃ g c,Own w W [(N,#[.int .i64 u,.slice fg.a 1 fg.c,.slice fc.a fc.n fc.c,.slice fl.a fl.n fl.c,.slice ff.a ff.n ff.c,.slice fx.a fx.n fx.c,.slice fr.a fr.n fr.c,.slice fn.a fn.n fn.c,.slice fv.a fv.n fv.c],32),(N+1,#[.int .i64 0],3),(N+3,#[.map (some (N+2))],212),(b5,#[.int .i64 0],3)]/\Gm.cJ (Value.int .i64) W (N+2) [((0:Int),.slice (some ⟨g,0,none⟩) 1 c)]/\W.cell? ⟨g,0,none⟩=some (.int .i64 0)/\Rf.Rec rec l D .ready none W/\Blk W b2 #[.int .i64 u,.slice fg.a 1 fg.c,.slice fc.a fc.n fc.c,.slice fl.a fl.n fl.c,.slice ff.a ff.n ff.c,.slice fx.a fx.n fx.c,.slice fr.a fr.n fr.c,.slice fn.a fn.n fn.c,.slice fv.a fv.n fv.c] 32)))
   (u:=u) (fg:=fg) (fc:=fc) (fl:=fl) (ff:=ff) (fx:=fx) (fr:=fr) (fn:=fn) (fv:=fv) (g:=0) (gl:=[x]) (x:=x) w W1 rfl HR.o BB3.o.2 ?hS ?hB ?hM ?hN ?hY ?h0).mono ?after
  case hS =>
   intro k W W' h m;rcases h with ⟨rfl,h1,h2,h3,h4⟩ | ⟨rfl,g,c,h1,h2,h3,h4,h5⟩
   ·exact .inl ⟨rfl,h1.call m,h2.mod m zk,h3.kept m zk zk,h4.kept m zk⟩
   ·exact .inr ⟨rfl,g,c,h1.call m,h2.mod m zk,aj m h3,h4.kept m zk zk,h5.kept m zk⟩
  case hB =>
   intro k W h;unfold af;rw [HNG.o];rcases h with ⟨_,_,_,_,h⟩ | ⟨_,_,_,_,_,_,_,h⟩ <;> exact h
  case hM =>
   intro k W h;rcases h with ⟨_,h,_⟩ | ⟨_,_,_,h,_⟩ <;> exact h.mod
  case h0=>exact .inl ⟨rfl,T5.o,G3.o,HRC.o,BB3.o.1⟩
  case hN =>
   intro k W q hk hq h;exfalso;have h1:q=p:=by
    rw [HXP.o.1] at hk;cases k with
    | zero=>exact (Option.some.inj hk).symm
    | succ k=>simp at hk
   rw [h1,HXP.o.2,HNG.o] at hq;cases hq
  case hY =>
   intro k W q hk hq h;obtain ⟨rfl,rfl⟩:k=0/\q=p:=by
    rw [HXP.o.1] at hk;cases k with
    | zero=>exact ⟨rfl,(Option.some.inj hk).symm⟩
    | succ k=>simp at hk
   clear hk hq;rcases h with ⟨-,h1,h2,h3,h4⟩ | ⟨h0,-⟩
   case inr=>cases h0
   refine HRD.o q W _ h3 ?_;rintro a' W' ⟨rfl,rfl⟩;have hq0:=HXP.o.2;rw [hq0];have al:Mod [] W (W.alloc (.cells #[.int .i64 0,.int .i64 q.x,.int .i64 q.y] 69)):=(Mod.refl [] W).alloc _;refine ⟨h3.kept al zk zk,λhbusy=>?_⟩;have hld:=HLD.o;have hnb:=HNB.o;have hb2:=HB2.o;have hwn:=HN.o;have h5l:=h1.lt 3 rfl;have hll:=h3.ltl;have k3:Mod [l] (W.alloc (.cells #[.int .i64 0,.int .i64 q.x,.int .i64 q.y] 69)) ((W.alloc (.cells #[.int .i64 0,.int .i64 q.x,.int .i64 q.y] 69)).putObj l (.loop (rec .busy none))):=Rf.Mod.putObj mR (λ_=>by simp) _;have B6:=Hi ((Blk.new W #[.int .i64 0,.int .i64 q.x,.int .i64 q.y] 69).kept k3 zqa);have T6:=Hi (Own.other (h1.call al) k3 (λb hb=>by rw [mI.1 hb];omega) zqa);have G6:=Hi ((h2.mod al zk).mod k3 zqa);have B26:=Hi ((h4.kept al zk).kept k3 zqa);have HB6:=Hi hbusy;have HLW:=Hi (show l<W.heap.size/\b5<W.heap.size/\l≠D/\D<W.heap.size from ⟨hll,h5l,by omega,h3.ltD⟩);clear al hbusy h1 h2 h3 h4 k3 hld hnb hb2 hwn h5l hll hq0;generalize (W.alloc (.cells #[.int .i64 0,.int .i64 q.x,.int .i64 q.y] 69)).putObj l (.loop (rec .busy none))=W3 at *
   generalize W.heap.size=b6 at *
   have HSZ:Hy (N+4<=W3.heap.size):=by have h6:=T6.o.lt 2 rfl;show N+4<=W3.heap.size;omega
   have A1:∀ W,Mod [] W3 W->W.cell? ⟨N+3,0,none⟩=some (.map (some (N+2))):=λW m=>(T6.o.at 2 rfl).every W m 0
   have A2:∀ W,Mod [] W3 W->W.cell? ⟨b6,0,none⟩=some (.int .i64 0):=λW m=>B6.o.every W m 0
   have A3:∀ W,Mod [] W3 W->W.cell? ⟨b5,0,none⟩=some (.int .i64 0):=λW m=>(T6.o.at 3 rfl).every W m 0
   have A4:∀ W,Mod [] W3 W->(Instr.lookup 212 (.map (some (N+2))) (.int .i64 0) false).run Tryz.prog W=.ok (.slice none 0 0) W:=λW m=>by
    have h6:=Gm.cH eG (G6.o.mod m zk) Tryz.underlying212 (z:=.slice none 0 0) zt (0:Int) false;simp only [Bool.false_eq_true,if_false] at h6;rw [h6];rfl
   gi_upto_region 8 with fail
   refine Sw.eJ (I:=Mod [] W3) (F0:=(λ_=>True)) (λ_ _ h k=>h.then k) 10 [(0,none),(1,none),(2,none),(3,none),(4,none),(5,none),(6,none),(7,none),(8,some ((λkx W=>∃ b,kx=.slice (some ⟨b,0,none⟩) 1 1/\Blk W b #[.int .i64 0] 3))),(9,some ((λkx W=>∃ g c,kx=.slice (some ⟨g,0,none⟩) 1 c/\N+4<=g/\W.cell? ⟨g,0,none⟩=some (.int .i64 0))))] zt zt (Sq.aW zt) ?hTS196 ((Mod.refl [] W3).drew) mK True.intro ?mainS196
   case hTS196 =>
    intro p hp T hT v;simp only [List.mem_cons,List.not_mem_nil,or_false] at hp;rcases hp with rfl | rfl | rfl | rfl | rfl | rfl | rfl | rfl | rfl | rfl <;> first | (cases hT;done) | (cases hT;first | exact (λW W' ⟨b,h0,h1⟩ m=>⟨b,h0,h1.kept m zk⟩) | exact (λW W' ⟨g,c,h0,hn,h1⟩ m=>⟨g,c,h0,hn,aj m h1⟩))
   iterate 8 refine Sw.vv (w0:=W3.drew) ((Mod.refl [] W3).drew) ?_
   refine Sw.xx (λw' hw' hF K Q hK=>?_) (λkv hkv=>?_)
   ·go_wp2;exact hK _ _ (hw'.alloc _) ⟨_,rfl,Blk.new _ _ _⟩
   obtain ⟨_,_,nb,rfl,_⟩:=hkv;refine Sw.xx (λw' hw' hF K Q hK=>?_) (λkv hkv=>?_)
   ·obtain ⟨b8,he8,hB⟩:=hF;cases he8;refine oE (base:=N+4) (v:=.slice none 0 0) (xs:=[]) (y:=0) rfl _ _ rfl Tryz.underlying22 rfl (World.ownsRow_nil _ (N+4) 3 1) rfl hB zd (nT HSZ.o hw'.size) (λv' w'' hGP hgr hbk=>?_);obtain ⟨g9,c9,rfl,hn9,hc9⟩:=xf hGP;exact hK _ _ (hw'.then (Mod.dQ hgr)) ⟨g9,c9,rfl,hn9,hc9⟩
   obtain ⟨_,_,g9,c9,rfl,_⟩:=hkv;refine Sw.bJ ?_;intro w' hw' hF;simp only [qS,qZ];obtain ⟨gq,cq,he9,hn9,hc9⟩:=hF;cases he9;have T7:=T6.o.call hw';have G7:=G6.o.mod hw' zk;obtain ⟨W5,hmu,hG5,o1,o2,o3,o4,o5⟩:=Gm.iE eG G7 Tryz.underlying212 (0:Int) (.slice (some ⟨g9,0,none⟩) 1 c9);have k5:Mod [N+2] w' W5:=⟨o1,o2,o3,by rw [o4];exact nR _,λq _ hn=>o5 q (λe=>hn (by rw [e];simp))⟩
   have nbd:∀ (b:Nat) (cs:Array Value) (t:TypeId),Blk w' b cs t->b ∉ [N+2]:=λb cs t h hm=>by
    have e:=mI.1 hm;obtain ⟨es,cl,h7,_⟩:=G7;unfold Blk at h;rw [e,h7] at h;cases h
   have T8:=Hi (Own.other T7 k5 (λb hb=>by rw [mI.1 hb];have:=HN.o;omega) (λq hq hm=>nbd _ _ _ (T7.blk q hq).2 hm));have HG8:=Hi hG5;have B68:=Hi ((B6.o.kept hw' zk).kept k5 (nbd _ _ _ (B6.o.kept hw' zk)));have B28:=Hi ((B26.o.kept hw' zk).kept k5 (nbd _ _ _ (B26.o.kept hw' zk)));have hg9l:g9 ∉ [N+2]:=λhm=>by
    have e:=mI.1 hm;obtain ⟨es,cl,h7,_⟩:=G7;unfold World.cell? at hc9;rw [e] at hc9;simp [h7] at hc9
   have HN9:=Hi hn9;have HC9:=Hi ((k5.cell (p:=⟨g9,0,none⟩) (aV hc9) hg9l).trans hc9);have HB8:=Hi ((HB6.o.kept hw' zk zk).kept k5 (by have:=HLD.o;have:=HB2.o;have:=HNB.o;simp;omega) (by have:=HLD.o;have:=HB2.o;simp;omega));have c6:=B68.o.cell 0;have c5:=(T8.o.at 3 rfl).cell 0;have c1:=(T8.o.at 1 rfl).cell 0;have f1:=(T8.o.at 1 rfl).frozen 0;simp only [gA,gZ,gS] at c6 c5 c1;clear T7 G7 hG5 o1 o2 o3 o4 o5 k5 nbd hg9l hw' hc9 A1 A2 A3 A4 T6 G6 B6 B26 HB6;go_wp2_with fail;refine lJ ?_;clear hmu
   gi_wp2
   have hn9:=HN9.o;have k6:Mod [N+1] W5 (W5.setCell ⟨N+1,0,none⟩ (.int .i64 0)):=mR.setCell (p:=⟨N+1,0,none⟩) (λ_=>by simp) _;have k7:Mod [l] (W5.setCell ⟨N+1,0,none⟩ (.int .i64 0)) ((W5.setCell ⟨N+1,0,none⟩ (.int .i64 0)).putObj l (.loop (rec .ready none))):=Rf.Mod.putObj mR (λ_=>by simp) _;have hld:=HLD.o;have hlw:=HLW.o;have hnb:=HNB.o;have hb2:=HB2.o;have hwn:=HN.o;have T9:=T8.o.set 1 rfl 0 (.int .i64 0);have HB9:=HB8.o.kept k6 zqa zqa;refine ⟨HB9,rfl,Own.other T9 k7 (λb hb=>by rw [mI.1 hb];omega) zqa,g9,⟨c9,(HG8.o.mod k6 zk).mod k7 zqa⟩,?_,HB9.put (λe=>hlw.2.2.1 e.symm) .ready none,(B28.o.kept k6 zqa).kept k7 zqa⟩
   rw [k7.cell (p:=⟨g9,0,none⟩) (by rw [fP];exact aV HC9.o) (by
    intro hm;have e:=mI.1 hm;have h7:=HB9.lp;have h8:=HC9.o;have h9:g9=l:=e;have h10:=(k6.cell (p:=⟨g9,0,none⟩) (aV HC9.o) zqa).trans h8;unfold World.cell? at h10;rw [h9] at h10
    simp [h7] at h10),k6.cell (p:=⟨g9,0,none⟩) (aV HC9.o) zqa]
   exact HC9.o
  case after =>
   rintro e W' ⟨rfl,hJ⟩;have hlen:x.parts.length=1:=by rw [HXP.o.1];rfl
   rw [hlen] at hJ;rcases hJ with ⟨h0,-⟩ | ⟨-,g9,c9,h1,h2,h3,h4,h5⟩
   ·cases h0
   refine ⟨_,rfl,.inl ⟨h4,?_⟩⟩;rintro W4 hW4 hdf;have k6:Mod [l] W' W4:=by rw [hW4];exact Rf.Mod.putObj mR (λ_=>by simp) _
   have hld:=HLD.o;have hnb:=HNB.o;have hwn:=HN.o;have T10:=Hi (Own.other h1 k6 (λb hb=>by rw [mI.1 hb];omega) zqa);have G10:=Hi (h2.mod k6 zqa);have hgl:g9 ∉ [l]:=λhm=>by
    have e:=mI.1 hm;have h7:=h4.lp;have h10:=h3;unfold World.cell? at h10;rw [e] at h10;simp [h7] at h10
   have C10:=Hi ((k6.cell (p:=⟨g9,0,none⟩) (aV h3) hgl).trans h3);have M10:=Hi ((Mks.nil W4).cons hdf zk);clear hW4 hdf k6 hld hnb hwn hgl h1 h2 h3 h4 h5 hlen;go_wp2_with fail;rw [<- HKr.o,rounds_succ];clear HKr;have hm2:∀ W:World,(Instr.makeMap 221 none).run Tryz.prog W=.ok (.map (some W.heap.size)) (W.alloc (.map #[] 0)):=λW=>by kernel_rfl
   have T11:=Hi ((T10.o.call ((Mod.refl [] W4).alloc (.map #[] 0))).alloc #[.map (some W4.heap.size)] 221);have GB:=Hi ((Gm.cJ.new (Value.int .i64) W4).mod ((Mod.refl [] (W4.alloc (.map #[] 0))).alloc (.cells #[.map (some W4.heap.size)] 221)) zk);have al:Mod [] W4 ((W4.alloc (.map #[] 0)).alloc (.cells #[.map (some W4.heap.size)] 221)):=((Mod.refl [] W4).alloc _).alloc _;have G11:=Hi (G10.o.mod al zk);have C11:=Hi (aj al C10.o);have M11:=Hi (Mks.stays _ _ M10.o al);have HGB:Hy (N+5<=W4.heap.size/\b5<W4.heap.size/\g9<W4.heap.size/\D<W4.heap.size/\N+4<=D):=⟨by have h7:=T10.o.lt 3 rfl;have h8:=HNB.o;omega,T10.o.lt 3 rfl,aV C10.o,M10.o.lt D zk,by have h7:=HLD.o;have h8:=HNB.o;omega⟩
   simp only [List.cons_append,List.nil_append,World.size_alloc] at T11;go_upto_region 13 with fail;clear hm2 al T10 G10 C10 M10;generalize (W4.alloc (.map #[] 0)).alloc (.cells #[.map (some W4.heap.size)] 221)=w6 at *
   generalize W4.heap.size=gb at *
   have f0:=(T11.o.at 0 rfl).cell 0;have f1:=(T11.o.at 0 rfl).cell 1;have f2:=(T11.o.at 0 rfl).cell 2;have f3:=(T11.o.at 0 rfl).cell 3;have f4:=(T11.o.at 0 rfl).cell 4;have f5:=(T11.o.at 0 rfl).cell 5;have f6:=(T11.o.at 0 rfl).cell 6;have f7:=(T11.o.at 0 rfl).cell 7;have f8:=(T11.o.at 0 rfl).cell 8;simp only [gA,gZ,gS] at f0 f1 f2 f3 f4 f5 f6 f7 f8;have hX:=Bf u fg fc fl ff fx fr fn fv [x] B w6 (HR.o.mod aI.stay T11.o.mod) zk (λy hy=>by rw [mI.1 hy,HXP.o.1];simp);unfold af at hX;rw [HNG.o] at hX;have HX:=Hi hX;clear hX;go_wp2_with fail;refine HX.o.mono ?_;rintro e w7 ⟨⟨v,s,rfl,hgo,-,-,hown⟩,m7⟩;have htold:s.told=[0]:=BA p x HXP.o.1 HXP.o.2 hgo;rw [htold] at hown;obtain ⟨gl,cl,rfl,-,hcl⟩:=xf hown;have CL:=Hi hcl;have T12:=Hi (T11.o.call m7);have GB2:=Hi (GB.o.mod m7 zk);have G12:=Hi (G11.o.mod m7 zk);have C12:=Hi (aj m7 C11.o);have M12:=Hi (Mks.stays _ _ M11.o m7);clear hgo htold hown hcl m7 HX f0 f1 f2 f3 f4 f5 f6 f7 f8 T11 GB G11 C11 M11;have HX:=Hi (BQ (some ⟨gl,0,none⟩) 1 cl w7);go_wp2_with fail;refine HX.o.mono ?_;rintro e w8 ⟨⟨bb,rfl,hbb,-⟩,m8⟩;have CL2:=Hi (aj m8 CL.o);have T13:=Hi (T12.o.call m8);have GB3:=Hi (GB2.o.mod m8 zk);have G13:=Hi (G12.o.mod m8 zk);have C13:=Hi (aj m8 C12.o);have M13:=Hi (Mks.stays _ _ M12.o m8);have BB8:=Hi hbb;clear hbb m8 HX CL T12 GB2 G12 C12 M12;go_wp2_with fail;refine Rf.lm (α:=Unit) (gf:=188) (lb:=#[.pointer (some ⟨bb,0,none⟩)]) (encs:=λ_=>#[.int .i64 0,.int .i64 0])
    (λW _ a' W'=>W'=W/\a'=⟨List.toArray (.agg #[.int .i64 u,.slice fg.a 1 fg.c,.slice fc.a fc.n fc.c,.slice fl.a fl.n fl.c,.slice ff.a ff.n ff.c,.slice fx.a fx.n fx.c,.slice fr.a fr.n fr.c,.slice fn.a fn.n fn.c,.slice fv.a fv.n fv.c]::.pointer (some ⟨N,0,none⟩)::.int .i64 0::.pointer (some ⟨N+1,0,none⟩)::.pointer (some ⟨N+3,0,none⟩)::.pointer (some ⟨b5,0,none⟩)::undef::.pointer (some ⟨gb+1,0,none⟩)::undef::.int .i64 0::undef::undef::undef::undef::.pointer (some ⟨N,1,none⟩)::.slice fg.a 1 fg.c::.int .i64 1::.map (some (N+2))::.pointer (some ⟨N,1,none⟩)::.slice fg.a 1 fg.c::.int .i64 1::.int .i64 1::.bool false::.int .i64 0::.agg #[.int .i64 u,.slice fg.a 1 fg.c,.slice fc.a fc.n fc.c,.slice fl.a fl.n fl.c,.slice ff.a ff.n ff.c,.slice fx.a fx.n fx.c,.slice fr.a fr.n fr.c,.slice fn.a fn.n fn.c,.slice fv.a fv.n fv.c]::.int .i64 0::.func (.func 184) #[] #[.pointer (some ⟨b2,0,none⟩),.pointer (some ⟨b3,0,none⟩)]::undef::undef::undef::undef::undef::undef::undef::undef::undef::undef::undef::undef::undef::undef::undef::undef::undef::undef::.int .i64 1::.map (some gb)::.agg #[.int .i64 u,.slice fg.a 1 fg.c,.slice fc.a fc.n fc.c,.slice fl.a fl.n fl.c,.slice ff.a ff.n ff.c,.slice fx.a fx.n fx.c,.slice fr.a fr.n fr.c,.slice fn.a fn.n fn.c,.slice fv.a fv.n fv.c]::.slice (some ⟨gl,0,none⟩) 1 cl::.func (.func 188) #[] #[.pointer (some ⟨bb,0,none⟩)]::.int .i64 0::.int .i64 0::undef::undef::undef::undef::undef::undef::undef::undef::undef::undef::undef::undef::undef::undef::undef::undef::undef::undef::undef::undef::undef::undef::undef::undef::undef::undef::undef::undef::undef::undef::undef::undef::undef::undef::undef::undef::undef::undef::undef::undef::undef::undef::undef::[]),[]⟩)
    rfl (λargs w=>by kernel_rfl) (λ_=>rfl) ?assign2 ?main2
   case assign2 =>
    intro l p W KK hK
    gi_wp2
    try exact hK _ _ ⟨rfl,rfl⟩
   case main2 =>
    intro rec2 l2 D2 W1 hD hl hs hm hR hround;have HLD2:Hy (D2=w8.heap.size/\l2=w8.heap.size+1/\W1.heap.size=w8.heap.size+2/\gb+1<w8.heap.size):=⟨hD,hl,hs,T13.o.lt 4 rfl⟩
    have T14:=Hi (T13.o.call hm);have GB4:=Hi (GB3.o.mod hm zk);have G14:=Hi (G13.o.mod hm zk);have C14:=Hi (aj hm C13.o);have CL3:=Hi (aj hm CL2.o);have M14:=Hi (Mks.stays _ _ M13.o hm);have HRD2:=Hi hround;have HRC2:=Hi hR;have HM8:=Hi M13.o.lt;refine (zx (b:=bb) (g:=gl) (c:=cl) (x:=0) (Q:=λW=>Rf.Rec rec2 l2 D2 .ready none W/\Own w W [(N,#[.int .i64 u,.slice fg.a 1 fg.c,.slice fc.a fc.n fc.c,.slice fl.a fl.n fl.c,.slice ff.a ff.n ff.c,.slice fx.a fx.n fx.c,.slice fr.a fr.n fr.c,.slice fn.a fn.n fn.c,.slice fv.a fv.n fv.c],32),(N+1,#[.int .i64 0],3)]/\Mks [D] W) W1 (BB8.o.kept hm zk) CL3.o ?hY2).mono ?after2
    case hY2 =>
     refine HRD2.o () W1 _ HRC2.o ?_;rintro a' W' ⟨rfl,rfl⟩;refine ⟨HRC2.o,λhbusy=>?_⟩;have hld:=HLD2.o;have hgb:=HGB.o;have hwn:=HN.o;have hnb:=HNB.o;have hdl:=HM8.o D zk;have h9l:=aV C13.o;have b5l:=T13.o.lt 3 rfl;have k3:Mod [l2] W' (W'.putObj l2 (.loop (rec2 .busy none))):=Rf.Mod.putObj mR (λ_=>by simp) _;have T15:=Hi (Own.other T14.o k3 (λb hb=>by rw [mI.1 hb];omega) zqa);have GB5:=GB4.o.mod k3 zqa;have G15:=Hi (G14.o.mod k3 zqa);have C15:=Hi ((k3.cell (p:=⟨g9,0,none⟩) (aV C14.o) zqa).trans C14.o);have M15:=Hi (M14.o.kept k3 zqa);have HB5:=Hi hbusy;generalize W'.putObj l2 (.loop (rec2 .busy none))=W3 at *
     have c7:=(T15.o.at 4 rfl).cell 0;simp only [gA,gZ] at c7;have hz:∀ W:World,(zeroValue 4).run Tryz.prog W=.ok (.bool false) W:=λW=>by kernel_rfl
     have hlk:=Gm.cH eG GB5 Tryz.underlying221 (hz W3) (0:Int) false;simp only [Bool.false_eq_true,if_false] at hlk;rw [show (Gm.look ([]:List (Int×Value)) 0).getD (.bool false)=.bool false from rfl] at hlk;obtain ⟨W4,hmu,hG6,o1,o2,o3,o4,o5⟩:=Gm.iE eG GB5 Tryz.underlying221 (0:Int) (.bool true);have k4:Mod [gb] W3 W4:=⟨o1,o2,o3,by rw [o4];exact nR _,λq _ hn=>o5 q (λe=>hn (by rw [e];simp))⟩
     have T16:=Own.other T15.o k4 (λb hb=>by rw [mI.1 hb];omega) zqa;have G16:=G15.o.mod k4 zqa;have C16:=(k4.cell (p:=⟨g9,0,none⟩) (aV C15.o) zqa).trans C15.o;have M16:=M15.o.kept k4 zqa;have HB6:=HB5.o.kept k4 zqa zqa;have al:Mod [] W4 (W4.alloc (.cells #[.int .i64 0] 3)):=(Mod.refl [] W4).alloc _;have T17:=Hi (T16.call al);have G17:=Hi (G16.mod al zk);have GB7:=Hi (hG6.mod al zk);have C17:=Hi (aj al C16);have M17:=Hi (Mks.stays _ _ M16 al);have HB7:=Hi (HB6.kept al zk zk);have BG:=Hi (Blk.new W4 #[.int .i64 0] 3);clear hbusy hld hgb hwn hnb hdl h9l b5l k3 GB5 hz hG6 o1 o2 o3 o4 o5 k4 T16 G16 C16 M16 HB6 al T15 G15 C15 M15 HB5
     gi_upto_region 18 with fail
     clear c7 hlk hmu;generalize W4.alloc (.cells #[.int .i64 0] 3)=w9 at *
     generalize W4.heap.size=gr at *
     gi_wp2
     refine wpIn_loop_rounds 2 ?_;rw [roundsIn_succ];generalize hKr2:Code.roundsIn _ _ _ _ _ 1=Kr2;have HKr2:=Hi hKr2;clear hKr2
     gi_upto_region 21 with fail
     have c3:=(T17.o.at 2 rfl).every;have A1:∀ W,Mod [] w9 W->W.cell? ⟨N+3,0,none⟩=some (.map (some (N+2))):=λW m=>c3 W m 0
     have A2:∀ W,Mod [] w9 W->W.cell? ⟨gr,0,none⟩=some (.int .i64 0):=λW m=>BG.o.every W m 0
     have A4:∀ W,Mod [] w9 W->(Instr.lookup 212 (.map (some (N+2))) (.int .i64 0) false).run Tryz.prog W=.ok (.slice (some ⟨g9,0,none⟩) 1 c9) W:=λW m=>by
      have h6:=Gm.cH eG (G17.o.mod m zk) Tryz.underlying212 (z:=.slice none 0 0) zt (0:Int) false;simp only [Bool.false_eq_true,if_false] at h6;rw [h6];rfl
     clear c3;refine Sw.eJ (I:=Mod [] w9) (F0:=(λ_=>True)) (λ_ _ h k=>h.then k) 8 [(0,none),(1,none),(2,none),(3,none),(4,none),(5,none),(6,none),(7,none)] zt zt (Sq.aW zt) ?hTS473 ((Mod.refl [] w9).drew) mK True.intro ?mainS473
     case hTS473 =>
      intro p hp T hT v;simp only [List.mem_cons,List.not_mem_nil,or_false] at hp;rcases hp with rfl | rfl | rfl | rfl | rfl | rfl | rfl | rfl <;> first | (cases hT;done) | (cases hT;first | exact True.intro)
     iterate 8 refine Sw.vv (w0:=w9.drew) ((Mod.refl [] w9).drew) ?_
     refine Sw.bJ ?_;intro w' hw' hF;simp only [qS,qZ];clear A1 A2 A4;have T18:=Hi (T17.o.call hw');have GB8:=Hi (GB7.o.mod hw' zk);have C18:=aj hw' C17.o;have M18:=Hi (Mks.stays _ _ M17.o hw');have HB8:=Hi (HB7.o.kept hw' zk zk);clear hw' hF T17 G17 GB7 C17 M17 HB7 BG;go_wp2_with fail;refine lJ ?_;have c7:=(T18.o.at 4 rfl).cell 0;simp only [gA,gZ] at c7;have hz:∀ W:World,(zeroValue 4).run Tryz.prog W=.ok (.bool false) W:=λW=>by kernel_rfl
     have hlk:=Gm.cH eG GB8.o Tryz.underlying221 (hz w') (0:Int) false;simp only [Bool.false_eq_true,if_false] at hlk;rw [show (Gm.look (Gm.put ([]:List (Int×Value)) 0 (.bool true)) 0).getD (.bool false)=.bool true from rfl] at hlk;clear hz
     gi_wp2
     refine wpIn_loop_rounds 2 ?_;rw [roundsIn_succ];generalize hKr3:Code.roundsIn _ _ _ _ _ 1=Kr3;have HKr3:=Hi hKr3;clear hKr3
     gi_wp2
     rw [<- HKr3.o,roundsIn_succ];clear HKr3 Kr3
     gi_wp2
     rw [<- HKr2.o,roundsIn_succ];clear HKr2
     gi_wp2
     have hld:=HLD2.o;have hgb:=HGB.o;have hwn:=HN.o;have hdl:=HM8.o D zk;have k7:Mod [l2] w' (w'.putObj l2 (.loop (rec2 .ready none))):=Rf.Mod.putObj mR (λ_=>by simp) _;have hb0:=T18.o.at 0 rfl;have hb1:=T18.o.at 1 rfl;refine ⟨HB8.o,rfl,HB8.o.put zo .ready none,⟨T18.o.mod.trans k7 (λb hb hlt=>by have:=mI.1 hb;omega),λq hq=>?_,by simp⟩,M18.o.kept k7 zqa⟩;simp only [List.mem_cons,List.not_mem_nil,or_false] at hq;rcases hq with rfl | rfl
     ·exact ⟨by show w.heap.size<=N;omega,hb0.kept k7 zqa⟩
     ·exact ⟨by show w.heap.size<=N+1;omega,hb1.kept k7 zqa⟩
    case after2 =>
     rintro e W' ⟨rfl,h1,h2,h3⟩;refine ⟨_,rfl,.inl ⟨h1,?_⟩⟩;rintro W4 hW4 hdf;have hld:=HLD2.o;have hgb:=HGB.o;have hwn:=HN.o;have hdl:=HM8.o D zk;have k6:Mod [l2] W' W4:=by rw [hW4];exact Rf.Mod.putObj mR (λ_=>by simp) _
     have T20:=Hi (Own.other h2 k6 (λb hb=>by rw [mI.1 hb];omega) zqa);have M20:=Hi ((h3.kept k6 zqa).cons hdf zqa);have HDD:Hy (w.heap.size<=D/\w.heap.size<=D2):=⟨by omega,by omega⟩
     clear hW4 hdf hld hgb hwn hdl k6 h1 h2 h3;have c1:=(T20.o.at 1 rfl).cell 0;simp only [gA,gZ] at c1;go_wp2_with fail;refine M20.o.leaves ?_;refine ⟨_,?_,rfl,jJ _ _ T20.o.mod (λb hb hlt=>?_)⟩
     ·simp [results,Tryz.f169,go_sem]
     ·exfalso;have h9:=HDD.o;simp only [List.mem_cons,List.not_mem_nil,or_false] at hb;rcases hb with rfl | rfl <;> omega
theorem Bd {x:av} {p:cK} (hx:x.parts=[p]) (hp:p.glyph=0) {L:List Nat} (h:Ln.Ok [x].length (Ln.partsOf [x]) L):L=[]:=by
 have e0:Ln.partsOf [x] 0=[0]:=by unfold Ln.partsOf Ln.here;simp [hx,hp,eU]
 cases L with
 | nil=>rfl
 | cons y r =>
  exfalso;have h1:=h.lt y zk;obtain rfl:y=0:=by simpa using h1
  have h2:=h.ahead [] 0 r rfl 0 (by rw [e0];simp);cases h2
set_option maxRecDepth 100000 in
theorem yC (u:Int) (fg fc fl ff fx fr fn fv:Hd) (x:av) (p:cK) (B:Nat) (w:World) (hr:Rows 9 aI B w (.slice fg.a fg.n fg.c) [x]) (hx:x.parts=[p]) (hp0:p.glyph=0) :
  Calls Tryz.prog 110 #[.agg (af u fg fc fl ff fx fr fn fv)] w λe w'=>e=.returned (.tuple #[.slice none 0 0,.int .i64 0,.int .i64 33])/\Mod [] w w':=by
 obtain ⟨gl,hgl⟩:∃ gl,gl=[x]:=⟨_,rfl⟩
 have hr0:=hr;rw [<- hgl] at hr;have hn:gl.length<=1000:=by rw [hgl];simp
 have hp:∀ y∈gl,y.parts.length<=100:=λy hy=>by rw [hgl] at hy;rw [mI.1 hy,hx];simp
 have hfull:∀ L,Ln.Ok gl.length (Ln.partsOf gl) L->L=[]:=λL h=>Bd hx hp0 (by rw [hgl] at h;exact h)
 have HR:=Hi hr;have HR0:=Hi (And.intro hr0 (And.intro hx (And.intro hp0 (show gl.length=1 by rw [hgl];rfl))));clear hgl hr0 hx hp0;have HN:=Hi (And.intro hn (And.intro hp hfull));obtain ⟨n,hnn⟩:∃ n,n=gl.length:=⟨_,rfl⟩
 have hng:fg.n=gl.length:=by obtain ⟨_,_,he,-⟩:=hr.form;injection he with _ h _
 have HNG:Hy (fg.n=n):=by show _=_;rw [hng,hnn]
 have HNN:=Hi hnn;have T:=Hi (own1 w (af u fg fc fl ff fx fr fn fv) 32);have hmk:∀ W:World,(Instr.makeSlice 22 (.int .i64 (n:Int)) (.int .i64 (n:Int))).run Tryz.prog W=.ok (.slice (some ⟨W.heap.size,0,none⟩) n n) (W.alloc (.cells (eR n λ_=>0) 3)):=λW=>j5 W n zo
 unfold af at T ⊢;have a1:=(T.o.at 0 rfl).cell 1;simp only [gA,gZ,gS] at a1;rw [HNG.o] at a1 T;clear hr hn hp hfull hnn hng;have T1:=Hi (T.o.alloc (eR n λ_=>0) 3);simp only [List.cons_append,List.nil_append,World.size_alloc] at T1;go_enter Tryz.func110,Tryz.ntmps110;rw [HNG.o];go_upto_region 2 with fail;clear hmk a1 T;generalize (w.alloc _).alloc _=w1 at *
 obtain ⟨b,hb⟩:∃ b,b=w.heap.size+1:=⟨_,rfl⟩
 rw [<- hb] at T1 ⊢;clear hb;go_wp2_with fail
 go_loopg [14] n (λgk v14 wr=>∃ i:Nat,v14=.int .i64 (i:Int)/\Hy (i+gk=n)/\Hy (Own w wr [(w.heap.size,#[.int .i64 u,.slice fg.a n fg.c,.slice fc.a fc.n fc.c,.slice fl.a fl.n fl.c,.slice ff.a ff.n ff.c,.slice fx.a fx.n fx.c,.slice fr.a fr.n fr.c,.slice fn.a fn.n fn.c,.slice fv.a fv.n fv.c],32),(b,eR n (λj=>if j<i then j else 0),3)]))
 case atStart=>exact ⟨0,rfl,by show 0+n=n;omega,T1.o⟩
 case round =>
  obtain ⟨i,rfl,hi,T2⟩:=hrel;clear T1
  by_cases hin:i<n
  case neg =>
   obtain rfl:n=i:=by have:=hi.o;omega
   have k1:=dF (p:=(n:Int)<n) zo;have a0:=(T2.o.at 0 rfl).cell 0;have a1:=(T2.o.at 0 rfl).cell 1;have a2:=(T2.o.at 0 rfl).cell 2;have a3:=(T2.o.at 0 rfl).cell 3;have a4:=(T2.o.at 0 rfl).cell 4;have a5:=(T2.o.at 0 rfl).cell 5;have a6:=(T2.o.at 0 rfl).cell 6;have a7:=(T2.o.at 0 rfl).cell 7;have a8:=(T2.o.at 0 rfl).cell 8;simp only [gA,gZ,gS] at a0 a1 a2 a3 a4 a5 a6 a7 a8;have hn1:n<=1000:=by rw [HNN.o];exact HN.o.1
   have hrows:=iK (T2.o.at 1 rfl) zo (λi hi=>by show (if i<n then i else 0)<=_;split <;> omega);have hlist:((List.range n).map λi=>(((if i<n then i else 0:Nat)):Int))=nats (List.range gl.length):=by
    rw [<- HNN.o];unfold nats;exact List.map_congr_left λx hx=>by rw [if_pos (List.mem_range.1 hx)]
   rw [hlist] at hrows;have hX:=sX u fg fc fl ff fx fr fn fv gl 0 n (some ⟨b,0,none⟩) wr ((HR.o.mod aI.stay T2.o.mod).lower aI.lower (Nat.zero_le _)) (by rw [<- HNN.o];rw [<- HNN.o] at hrows;exact hrows) HN.o.1 HN.o.2.1;unfold af at hX;rw [HNG.o,<- HNN.o] at hX;have HX:=Hi hX;clear hX hrows hlist hin hi;go_wp2_with fail;refine HX.o.mono ?_;rintro e w2 ⟨v,L,rfl,hok,hown,m2⟩;have hlen:L=[]:=HN.o.2.2 L (by rw [<- HNN.o];exact hok);have hn1':n=1:=by rw [HNN.o];exact HR0.o.2.2.2
   obtain ⟨ov,cv,rfl⟩:=eX hown;rw [hlen];simp only [List.length_nil];have T3:=Hi (T2.o.call m2);have hX:=ym u fg fc fl ff fx fr fn fv x p B w2 (HR0.o.1.mod aI.stay (T2.o.mod.then m2)) HR0.o.2.1 HR0.o.2.2.1;unfold af at hX;rw [HNG.o] at hX;have HX2:=Hi hX;have a0:=(T3.o.at 0 rfl).cell 0;have a1:=(T3.o.at 0 rfl).cell 1;have a2:=(T3.o.at 0 rfl).cell 2;have a3:=(T3.o.at 0 rfl).cell 3;have a4:=(T3.o.at 0 rfl).cell 4;have a5:=(T3.o.at 0 rfl).cell 5;have a6:=(T3.o.at 0 rfl).cell 6;have a7:=(T3.o.at 0 rfl).cell 7;have a8:=(T3.o.at 0 rfl).cell 8;simp only [gA,gZ,gS] at a0 a1 a2 a3 a4 a5 a6 a7 a8;have k2:=dT (p:=((0:Nat):Int)<(n:Int)) zo;have k2':decide ((0:Int)<n)=true:=dT zo;have k3:=dT (p:=0<n) zo;clear hok hown m2 hlen HX hn1 hn1' hX T2;go_wp2_with fail;refine HX2.o.mono ?_;rintro e w3 ⟨rfl,m3⟩;have HM:=Hi (T3.o.mod.then m3);clear m3 HX2 T3 a0 a1 a2 a3 a4 a5 a6 a7 a8;go_wp2_with fail;refine bodyPost_ret (v:=.tuple #[.slice none 0 0,.int .i64 0,.int .i64 33]) (by simp [results,Tryz.f110,go_sem]) rfl ?_;exact ⟨rfl,HM.o⟩
  have k1:=dT (p:=(i:Int)<n) zo;have k2:(0:Int)<=i:=zo;have k3:(i:Int)<n:=zo;have k4:=dT (p:=i<n) hin;have c0:=(T2.o.at 1 rfl).cell i;rw [eL _ hin] at c0;have f0:=(T2.o.at 1 rfl).frozen i;have T3:=Hi (T2.o.set 1 rfl i (.int .i64 (i:Int)));have hcc:(eR n (λj=>if j<i then j else 0)).setIfInBounds i (.int .i64 (i:Int))=eR n (λj=>if j<i+1 then j else 0):=by
   rw [iY]
   congr 1
   funext j
   unfold Cp.upd
   by_cases hj:j=i
   ·subst hj;simp
   ·rw [if_neg hj];show (if j<i then j else 0)=_
    by_cases h2:j<i
    ·rw [if_pos h2,if_pos zo]
    ·rw [if_neg h2,if_neg zo]
  rw [hcc] at T3;simp only [List.set_cons_zero,List.set_cons_succ] at T3;have ei:IntKind.i64.wrap ((i:Int)+1)=(i:Int)+1:=IntWalk.i64_in _ (by have:=HN.o.1;have:=HNN.o;omega);have HIN:=Hi hin;clear hcc hin;go_wp2;go_roundg (gk - 1)
  case measure=>have:=hi.o;have:=HIN.o;omega
  case rel=>exact ⟨i+1,by rw [Int.natCast_add];rfl,by have:=hi.o;have:=HIN.o;show i+1+(gk - 1)=n;omega,T3.o⟩
theorem sj (u:Int) (fg fc fl ff fx fr fn fv:Hd) (x:av) (p:cK) (B:Nat) (w:World) (hr:Rows 9 aI B w (.slice fg.a fg.n fg.c) [x]) (hx:x.parts=[p]) (hp0:p.glyph=0) :
  Calls Tryz.prog 56 #[.agg (af u fg fc fl ff fx fr fn fv)] w λe w'=>e=.returned (.tuple #[.int .i64 33,.int .i64 0])/\Mod [] w w':=by
 have T:=Hi (own1 w (af u fg fc fl ff fx fr fn fv) 32);have hX:=yC u fg fc fl ff fx fr fn fv x p B _ (hr.mod aI.stay T.o.mod) hx hp0;have HX:=Hi hX;unfold af at T HX ⊢;have a0:=(T.o.at 0 rfl).cell 0;have a1:=(T.o.at 0 rfl).cell 1;have a2:=(T.o.at 0 rfl).cell 2;have a3:=(T.o.at 0 rfl).cell 3;have a4:=(T.o.at 0 rfl).cell 4;have a5:=(T.o.at 0 rfl).cell 5;have a6:=(T.o.at 0 rfl).cell 6;have a7:=(T.o.at 0 rfl).cell 7;have a8:=(T.o.at 0 rfl).cell 8;simp only [gA,gZ,gS] at a0 a1 a2 a3 a4 a5 a6 a7 a8;clear hr hx hp0 hX;go_enter Tryz.func56,Tryz.ntmps56;go_wp2_with fail;refine HX.o.mono ?_;rintro e w1 ⟨rfl,m1⟩;have HM:=Hi (T.o.mod.then m1);clear m1 HX T a0 a1 a2 a3 a4 a5 a6 a7 a8;go_wp2;go_ret2;exact ⟨rfl,HM.o⟩
theorem lY {α:Type} {k B b c:Nat} {R:Nat->World->List Value->α->Prop} {w:World} {cs:List Value} {t:TypeId} {x:α} (h:Blk w b cs.toArray t) (hk:cs.length=k) (hR:R B w cs x) (hB:B<=b) :
  Rows k R B w (.slice (some ⟨b,0,none⟩) 1 c) [x]:=by
 refine ⟨some ⟨b,0,none⟩,c,rfl,by show 1<=maxLen;decide,λi hi=>⟨_,rfl,hB,cs,hk,λj hj=>?_,?_⟩⟩
 ·obtain rfl:i=0:=by simpa using hi
  have e1:((⟨b,0,none⟩:Addr).add (0*k)).add j=⟨b,j,none⟩:=by unfold Addr.add;simp;omega
  rw [e1,h.cell];simp
 ·obtain rfl:i=0:=by simpa using hi
  exact hR
def notdef:ByteArray:=⟨#[46,110,111,116,100,101,102]⟩
def aw0:av:=⟨notdef,0,false,[],[],[],[],[],[]⟩
def aw1:av:=⟨notdef,0,false,[],[],[⟨0,0,0⟩],[],[],[]⟩
def dN:Hd:=⟨none,0,0⟩
theorem zz (fg:Hd) (h:fg.n=1):Ck.first (Ck.dU 1000 fg dN dN dN (Ck.first (Ck.gm ((List.range [aw0].length).map λi=>(((λ_=>0:Nat->Nat) i:Nat):Int)) ((List.range [aw0].length).map λi=>(((λ_=>0:Nat->Nat) i:Nat):Int)))) [aw0] [] [] [] [] [] [] [])=(0,0):=by
 obtain ⟨a,n,c⟩:=fg;simp only at h;subst h;kernel_rfl
theorem BW (fg:Hd) (h:fg.n=1):Ck.first (Ck.dU 1000 fg dN dN dN (33,0) [aw1] [] [] [] [] [] [] [])=(33,0):=by
 obtain ⟨a,n,c⟩:=fg;simp only at h;subst h;kernel_rfl
theorem sw:I64 0:=by unfold I64;decide
theorem BV {W:World} {b:Nat} (h:Blk W b (List.toArray [.string notdef,.int .i64 0,.bool false,.slice none 0 0,.slice none 0 0,.slice none 0 0,.slice none 0 0,.slice none 0 0,.slice none 0 0]) 46) :
  Calls Tryz.prog 18 #[.agg (af 1000 ⟨some ⟨b,0,none⟩,1,1⟩ dN dN dN dN dN dN dN)] W λe w'=>e=.returned (.tuple #[.int .i64 0,.int .i64 0])/\Mod [] W w':=by
 have hg:Rows 9 aI 0 W (.slice (some ⟨b,0,none⟩) 1 1) [aw0]:=lY h rfl ⟨_,_,_,_,_,_,rfl,by show 7<=maxLen;decide,sw,Rows.nil W,Rows.nil W,Rows.nil W,Rows.nil W,Rows.nil W,Rows.nil W⟩ (Nat.zero_le _);have hP:∀ g,Ln.partsOf [aw0] g=[]:=by
  intro g;unfold Ln.partsOf Ln.here;cases g with
  | zero=>rfl
  | succ g=>rfl
 have hE:Cp.Eqs [aw0].length (Ln.partsOf [aw0]) (λ_=>0) (λ_=>0) (λ_=>0):=⟨λg _=>by rw [hP];rfl,λg _=>by rw [hP];rfl⟩
 have hc:=λW' (m:Mod [] W W')=>lO 1000 ⟨some ⟨b,0,none⟩,1,1⟩ dN dN dN dN dN dN dN [aw0] 0 W' (hg.mod aI.stay m) zd (by intro x hx;rw [mI.1 hx];decide) (λL hL=>Cp.kB hL (λg _ p hp=>by rw [hP] at hp;cases hp))
  (by intro x hx p hp;rw [mI.1 hx] at hp;cases hp) _ _ _ hE (by intro g x hx;cases g with | zero=>cases hx;rfl | succ g=>cases hx) (λ_=>by decide) (λ_=>by decide) (λ_=>by decide)
 have hf:=oM W hg (Rows.nil W) (Rows.nil W) (Rows.nil W) (Rows.nil W) (Rows.nil W) (Rows.nil W) (Rows.nil W) hc;rw [zz _ rfl] at hf;exact hf
theorem BU {W:World} {b c:Nat} (h:Blk W b (List.toArray [.string notdef,.int .i64 0,.bool false,.slice none 0 0,.slice none 0 0,.slice (some ⟨c,0,none⟩) 1 1,.slice none 0 0,.slice none 0 0,.slice none 0 0]) 46)
  (h2:Blk W c (List.toArray [.int .i64 0,.int .i64 0,.int .i64 0]) 69) :
  Calls Tryz.prog 18 #[.agg (af 1000 ⟨some ⟨b,0,none⟩,1,1⟩ dN dN dN dN dN dN dN)] W λe w'=>e=.returned (.tuple #[.int .i64 33,.int .i64 0])/\Mod [] W w':=by
 have hp:Rows 3 eE 0 W (.slice (some ⟨c,0,none⟩) 1 1) [⟨0,0,0⟩]:=lY h2 rfl ⟨rfl,sw,sw,sw⟩ (Nat.zero_le _);have hg:Rows 9 aI 0 W (.slice (some ⟨b,0,none⟩) 1 1) [aw1]:=lY h rfl ⟨_,_,_,_,_,_,rfl,by show 7<=maxLen;decide,sw,Rows.nil W,Rows.nil W,hp,Rows.nil W,Rows.nil W,Rows.nil W⟩ (Nat.zero_le _);have hc:=λW' (m:Mod [] W W')=>sj 1000 ⟨some ⟨b,0,none⟩,1,1⟩ dN dN dN dN dN dN dN aw1 ⟨0,0,0⟩ 0 W' (hg.mod aI.stay m) rfl rfl
 have hf:=oM W (comp:=(33,0)) hg (Rows.nil W) (Rows.nil W) (Rows.nil W) (Rows.nil W) (Rows.nil W) (Rows.nil W) (Rows.nil W) hc;rw [BW _ rfl] at hf;exact hf
theorem zy (w:World):Calls Tryz.prog 6 #[] w λe w'=>e=.returned (.bool true)/\Mod [] w w':=by
 have T:=Hi (own2 w (List.toArray [.string notdef,.int .i64 0,.bool false,.slice none 0 0,.slice none 0 0,.slice none 0 0,.slice none 0 0,.slice none 0 0,.slice none 0 0]) 46 (af 1000 ⟨some ⟨w.heap.size,0,none⟩,1,1⟩ dN dN dN dN dN dN dN) 32);go_enter Tryz.func6,Tryz.ntmps6;go_wp2_with fail;refine (BV (T.o.at 0 rfl)).mono ?_;rintro e w1 ⟨rfl,m1⟩;have T1:=Hi (T.o.call m1);generalize w.heap.size+1=bf at *
 generalize w.heap.size=bg at *
 unfold af dN at T1;have A1:=(T1.o.at 1 rfl)
 have a1:=A1.cell 1;have a2:=(T1.o.at 0 rfl).every;clear T m1;have T2:=Hi (T1.o.alloc (List.toArray [.int .i64 0,.int .i64 0,.int .i64 0]) 69);have T3:=Hi (T2.o.set 0 rfl 5 (.slice (some ⟨w1.heap.size,0,none⟩) 1 1));simp only [List.cons_append,List.nil_append,List.set_cons_zero] at T2 T3;clear A1 a1 a2;have a1:=(T1.o.at 1 rfl).cell 1;have b2:=(T2.o.at 0 rfl).cell 5;have b3:=(T2.o.at 0 rfl).frozen;have c0:=(T3.o.at 1 rfl).cell 0;have c1:=(T3.o.at 1 rfl).cell 1;have c2:=(T3.o.at 1 rfl).cell 2;have c3:=(T3.o.at 1 rfl).cell 3;have c4:=(T3.o.at 1 rfl).cell 4;have c5:=(T3.o.at 1 rfl).cell 5;have c6:=(T3.o.at 1 rfl).cell 6;have c7:=(T3.o.at 1 rfl).cell 7;have c8:=(T3.o.at 1 rfl).cell 8;simp only [gA,gZ,gS] at a1 b2 c0 c1 c2 c3 c4 c5 c6 c7 c8;go_wp2_with fail;have T4:=T3.o.at 0 rfl;refine (BU T4 (T3.o.at 2 rfl)).mono ?_;rintro e w2 ⟨rfl,m2⟩;have HM:=Hi (T3.o.mod.then m2);clear T1 T2 T3 T4 a1 b2 b3 c0 c1 c2 c3 c4 c5 c6 c7 c8 m2;go_wp2;go_ret;exact ⟨rfl,HM.o⟩
end Go.Proofs.YthheaflbbficgaaGreat

/- Backward, RoundOne, OrderOne, ComposedOne, AwakeC. -/
import Derived.Test.YthheaflbbficgaaGreatGBase
import Derived.Test.YthheaflbbficgaaGreatGCo
import Derived.Test.YthheaflbbficgaaGreatGRing
import Derived.Test.YthheaflbbficgaaGreatGCp
import Derived.Test.YthheaflbbficgaaGreatGRf
import Derived.LoopN
import Derived.LoopNIn
import Derived.Sort.CutIn
import Derived.Test.YthheaflbbficgaaGreatGCf
set_option linter.all false
namespace Go.Proofs.YthheaflbbficgaaGreat
set_option maxHeartbeats 8000000
open Go.RowKit
attribute [local go_sem] Oper.semAt_some
theorem back_any (oa:Option Addr) (n c:Nat) (w:World):Calls Tryz.prog 181 #[.slice oa n c] w fun e w'=>(∃ b,e=.returned (.func (.func 188) #[] #[.pointer (some ⟨b,0,none⟩)])/\Blk w' b #[.slice oa n c] 22/\w.heap.size<=b)/\Mod [] w w':=by
 have T:=Hi (own1 w #[.slice oa n c] 22);go_enter Tryz.func181,Tryz.ntmps181;go_wp2;go_ret;exact ⟨⟨_,rfl,T.out.at 0 rfl,T.out.ge 0 rfl⟩,T.out.mod⟩
set_option maxRecDepth 100000 in
theorem back1_one {b g c l:Nat} {x:Int} {Q:World->Prop} (w:World) (hb:Blk w b #[.slice (some ⟨g,0,none⟩) 1 c] 22) (hg:w.cell? ⟨g,0,none⟩=some (.int .i64 x))
  (hY:YieldAt Fence.wide 0 Tryz.prog l #[.int .i64 0,.int .i64 x] w fun e W'=>e=.returned (.bool true)/\Q W') :
  Calls Tryz.prog 188 #[.func (.yield l) #[] #[],.pointer (some ⟨b,0,none⟩)] w fun e w'=>e=.returned (.tuple #[])/\Q w':=by
 have c0:=hb.cell 0;simp only [gA,gZ] at c0;have HY:=Hi hY;clear hY hb;go_enter Tryz.func188,Tryz.ntmps188;go_wp2_with fail
 go_loopg [3] 1 (fun gk v3 wr=>(gk=1/\v3=.int .i64 0/\wr=w)∨(gk=0/\v3=.int .i64 (-1)/\Hid (Q wr)))
 case atStart=>exact .inl ⟨rfl,rfl,rfl⟩
 case round =>
  rcases hrel with ⟨rfl,rfl,rfl⟩ | ⟨rfl,rfl,HQ⟩
  ·go_upto_region 3 with fail;obtain ⟨fn',tmps',as',bo',hy,hR⟩:=HY.out;refine (wpIn_wide (n:=1)).1 ?_
   gi_wp2
   refine hR.mono ?_;rintro e w3 ⟨rfl,hr⟩;have HR:=Hi hr;have e1:IntKind.i64.wrap ((0:Int) - 1)=-1:=by decide
   clear hr hy hR c0 hg
   gi_wp2
   go_wp2;go_roundg 0
   case measure=>exact Nat.one_pos
   case rel=>exact .inr ⟨rfl,rfl,HR.out⟩
  ·have k1:decide ((0:Int)<=-1)=false:=by decide
   go_wp2_with fail;refine bodyPost_end (results_none rfl _ _ _) rfl ?_;exact ⟨rfl,HQ.out⟩
attribute [local go_sem] Oper.semAt_some
theorem Own.other {w0 w w':World} {l:List (Nat×Array Value×TypeId)} {F:List Nat} (S:Own w0 w l) (m:Mod F w w') (hF:∀ b∈F,w0.heap.size<=b) (hn:∀ p∈l,p.1 ∉ F):Own w0 w' l :=
 ⟨S.mod.trans m (fun b hb hlt=>absurd (hF b hb) (by omega)),fun p hp=>⟨(S.blk p hp).1,(S.blk p hp).2.kept m (hn p hp)⟩,S.nodup⟩
theorem own_one {w:World} {base:Nat} {v:Value} {x:Int} {k:Nat} (h:w.ownsRow base 3 1 v (k+1) (ints [x])):∃ g c,v=.slice (some ⟨g,0,none⟩) 1 c/\base<=g/\w.cell? ⟨g,0,none⟩=some (.int .i64 x):=by
 obtain rfl:k=0:=by have h1:=h.1;unfold ints at h1;simp at h1;omega
 rcases h.2 with ⟨-,h1⟩ | ⟨g,cap,cur,rfl,-⟩
 ·omega
 ·exact ⟨g,cap,rfl,(h.lt g rfl).1,by rw [own_at h (by omega)];rfl⟩
theorem noOut_normal {Q:Exit->Act->World->Prop} {a:Act} {w:World} (h:Q .normal a w):noOut Q .normal a w:=h
theorem true_stays1:Stays (fun _=>True):=fun _ _ _ _=>True.intro
theorem goes_one (p:DPart) (x:DGlyph) (hx:x.parts=[p]) (hp:p.glyph=0) {s:Lf.S} (h:Lf.Goes 1 (rawParts [x]) 1 s):s.told=[0]:=by
 have e0:rawParts [x] 0=[0]:=by unfold rawParts;simp [hx,hp]
 have h1:Lf.Goes 1 (rawParts [x]) 1 ⟨[],fun q=>if q=0 then true else false,[0]⟩:=by
  refine .next .start (by decide) ?_;have en:Lf.enter 1 ((0:Nat):Int) ⟨[],fun _=>false,[]⟩=⟨[(0,0)],fun q=>if q=0 then true else false,[]⟩:=rfl;rw [en];refine .step (g:=0) (k:=0) (ws:=[]) rfl ?_;have st:Lf.step 1 (rawParts [x]) 0 0 [] ⟨[(0,0)],fun q=>if q=0 then true else false,[]⟩=⟨[(0,1)],fun q=>if q=0 then true else false,[]⟩:=by
   unfold Lf.step;rw [e0];rfl
  rw [st];refine .step (g:=0) (k:=1) (ws:=[]) rfl ?_;have st2:Lf.step 1 (rawParts [x]) 0 1 [] ⟨[(0,1)],fun q=>if q=0 then true else false,[]⟩=⟨[],fun q=>if q=0 then true else false,[0]⟩:=by
   unfold Lf.step;rw [e0];rfl
  rw [st2];exact .done rfl
 rw [h.det h1]
set_option maxRecDepth 100000 in
theorem round_one (u:Int) (fg fc fl ff fx fr fn fv:Hd) (x:DGlyph) (p:DPart) (B:Nat) (w:World) (hr:Rows 9 RGlyph B w (.slice fg.a fg.n fg.c) [x]) (hx:x.parts=[p]) (hp:p.glyph=0) :
  Calls Tryz.prog 169 #[.agg (fontCells u fg fc fl ff fx fr fn fv)] w fun e w'=>e=.returned (.int .i64 0)/\Mod [] w w':=by
 have HR:=Hi hr;have HXP:=Hi (And.intro hx hp);have HNG:Hid (fg.n=1):=by obtain ⟨_,_,he,-⟩:=hr.form;injection he with _ h _
 have T1:=own2 w (fontCells u fg fc fl ff fx fr fn fv) 32 #[.int .i64 1] 3;have al1:Mod [] ((w.alloc (.cells (fontCells u fg fc fl ff fx fr fn fv) 32)).alloc (.cells #[.int .i64 1] 3)) (((w.alloc (.cells (fontCells u fg fc fl ff fx fr fn fv) 32)).alloc (.cells #[.int .i64 1] 3)).alloc (.map #[] 0)):=(Mod.refl [] _).alloc _;have T2:=Hi ((T1.call al1).alloc #[.map (some (w.heap.size+2))] 212);have G0:=Hi ((Gm.GMap.new (Value.int .i64) ((w.alloc (.cells (fontCells u fg fc fl ff fx fr fn fv) 32)).alloc (.cells #[.int .i64 1] 3))).mod ((Mod.refl [] _).alloc (.cells #[.map (some (w.heap.size+2))] 212)) (by simp));simp only [List.cons_append,List.nil_append,World.size_alloc,Nat.add_assoc,Nat.reduceAdd] at T2 G0;have a1:=(((own1 w (fontCells u fg fc fl ff fx fr fn fv) 32).at 0 rfl)).cell 1;unfold fontCells at T2 a1 G0 ⊢;simp only [gA,gZ,gS] at a1;rw [HNG.out] at a1 T2 G0;have hm1:∀ W:World,(Instr.makeMap 212 none).run Tryz.prog W=.ok (.map (some W.heap.size)) (W.alloc (.map #[] 0)):=fun W=>by kernel_rfl
 clear hr hx hp al1 T1;refine Rf.calls_of_wp_marks Tryz.func169 rfl ?_;simp only [Tryz.ntmps169,List.size_toArray,List.length_cons,List.length_nil,Nat.reduceAdd,Nat.reduceSub,Array.replicate_succ,Array.replicate_zero,List.push_toArray,List.append_toArray,List.nil_append,List.cons_append];rw [HNG.out];go_upto_region 3 with fail;clear hm1 a1;simp only [Nat.add_assoc,Nat.reduceAdd];generalize ((((w.alloc _).alloc _).alloc _).alloc _)=w0 at *
 obtain ⟨N,hN⟩:∃ N,N=w.heap.size:=⟨_,rfl⟩
 rw [<- hN] at T2 G0 ⊢;have HN:=Hi hN;clear hN;have a1:=(T2.out.at 0 rfl).cell 1;simp only [gA,gZ,gS] at a1;go_wp2_with fail;clear a1;refine wp_loop_rounds 2 ?_;rw [rounds_succ];generalize hKr:Code.rounds _ _ _ 1=Kr;have HKr:=Hi hKr;clear hKr;have T3:=Hi (T2.out.alloc #[.int .i64 0] 3);have G1:=Hi (G0.out.mod ((Mod.refl [] w0).alloc (.cells #[.int .i64 0] 3)) (by simp));simp only [List.cons_append,List.nil_append] at T3;have HNB:Hid (N+4<=w0.heap.size):=by have h1:=T2.out.lt 2 rfl;show N+4<=w0.heap.size;omega
 clear T2 G0;go_upto_region 6 with fail;generalize w0.alloc (.cells #[.int .i64 0] 3)=w1 at *
 generalize w0.heap.size=b5 at *
 have f0:=(T3.out.at 0 rfl).cell 0;have f1:=(T3.out.at 0 rfl).cell 1;have f2:=(T3.out.at 0 rfl).cell 2;have f3:=(T3.out.at 0 rfl).cell 3;have f4:=(T3.out.at 0 rfl).cell 4;have f5:=(T3.out.at 0 rfl).cell 5;have f6:=(T3.out.at 0 rfl).cell 6;have f7:=(T3.out.at 0 rfl).cell 7;have f8:=(T3.out.at 0 rfl).cell 8;have g0:=(T3.out.at 3 rfl).cell 0;simp only [gA,gZ,gS] at f0 f1 f2 f3 f4 f5 f6 f7 f8 g0;have hX:=parts_any u fg fc fl ff fx fr fn fv 0 w1;unfold fontCells at hX;rw [HNG.out] at hX;have HX:=Hi hX;clear hX;go_wp2_with fail;refine HX.out.mono ?_;rintro e w2 ⟨⟨b2,b3,rfl,hb2,hb3,hg2,hg3⟩,m2⟩;have T4:=Hi (T3.out.call m2);have G2:=Hi (G1.out.mod m2 (by simp));have BB:=Hi (And.intro hb2 hb3);have HB2:Hid (N+5<=b2):=by have h1:=T3.out.lt 3 rfl;show N+5<=b2;have:=HNB.out;omega
 clear m2 hb2 hb3 hg2 hg3 f0 f1 f2 f3 f4 f5 f6 f7 f8 g0 HX T3 G1;go_wp2_with fail;refine Rf.wp_range (α:=DPart) (gf:=184) (lb:=#[.pointer (some ⟨b2,0,none⟩),.pointer (some ⟨b3,0,none⟩)]) (encs:=fun p=>#[.agg #[.int .i64 p.glyph,.int .i64 p.x,.int .i64 p.y]])
  (fun W p a' W'=>W'=W.alloc (.cells #[.int .i64 p.glyph,.int .i64 p.x,.int .i64 p.y] 69)/\a'=⟨List.toArray (.agg #[.int .i64 u,.slice fg.a 1 fg.c,.slice fc.a fc.n fc.c,.slice fl.a fl.n fl.c,.slice ff.a ff.n ff.c,.slice fx.a fx.n fx.c,.slice fr.a fr.n fr.c,.slice fn.a fn.n fn.c,.slice fv.a fv.n fv.c]::.pointer (some ⟨N,0,none⟩)::.int .i64 0::.pointer (some ⟨N+1,0,none⟩)::.pointer (some ⟨N+3,0,none⟩)::.pointer (some ⟨b5,0,none⟩)::.pointer (some ⟨W.heap.size,0,none⟩)::undef::undef::undef::undef::undef::undef::undef::.pointer (some ⟨N,1,none⟩)::.slice fg.a 1 fg.c::.int .i64 1::.map (some (N+2))::.pointer (some ⟨N,1,none⟩)::.slice fg.a 1 fg.c::.int .i64 1::.int .i64 0::.bool true::.int .i64 0::.agg #[.int .i64 u,.slice fg.a 1 fg.c,.slice fc.a fc.n fc.c,.slice fl.a fl.n fl.c,.slice ff.a ff.n ff.c,.slice fx.a fx.n fx.c,.slice fr.a fr.n fr.c,.slice fn.a fn.n fn.c,.slice fv.a fv.n fv.c]::.int .i64 0::.func (.func 184) #[] #[.pointer (some ⟨b2,0,none⟩),.pointer (some ⟨b3,0,none⟩)]::.agg #[.int .i64 p.glyph,.int .i64 p.x,.int .i64 p.y]::undef::undef::undef::undef::undef::undef::undef::undef::undef::undef::undef::undef::undef::undef::undef::undef::undef::undef::undef::undef::undef::undef::undef::undef::undef::undef::undef::undef::undef::undef::undef::undef::undef::undef::undef::undef::undef::undef::undef::undef::undef::undef::undef::undef::undef::undef::undef::undef::undef::undef::undef::undef::undef::undef::undef::undef::undef::undef::undef::undef::undef::undef::undef::undef::undef::undef::undef::[]),[]⟩)
  rfl (fun args w=>by kernel_rfl) (fun _=>rfl) ?assign ?main
 case assign =>
  intro l p W KK hK
  gi_wp2
  try exact hK _ _ ⟨rfl,rfl⟩
 case main =>
  intro rec l D W1 hD hl hs hm hR hround;have HLD:Hid (D=w2.heap.size/\l=w2.heap.size+1/\W1.heap.size=w2.heap.size+2/\b5<w2.heap.size/\b2<w2.heap.size):=⟨hD,hl,hs,T4.out.lt 3 rfl,BB.out.1.lt⟩
  have T5:=Hi (T4.out.call hm);have G3:=Hi (G2.out.mod hm (by simp));have BB3:=Hi (And.intro (BB.out.1.kept hm (by simp)) (BB.out.2.kept hm (by simp)));have HRD:=Hi hround;have HRC:=Hi hR;clear hm hD hl hs hround hR T4 G2 BB
  refine (parts1_any (J:=fun k W=>(k=0/\(Own w W [(N,#[.int .i64 u,.slice fg.a 1 fg.c,.slice fc.a fc.n fc.c,.slice fl.a fl.n fl.c,.slice ff.a ff.n ff.c,.slice fx.a fx.n fx.c,.slice fr.a fr.n fr.c,.slice fn.a fn.n fn.c,.slice fv.a fv.n fv.c],32),(N+1,#[.int .i64 1],3),(N+3,#[.map (some (N+2))],212),(b5,#[.int .i64 0],3)]/\Gm.GMap (Value.int .i64) W (N+2) []/\Rf.Rec rec l D .ready none W/\Blk W b2 #[.int .i64 u,.slice fg.a 1 fg.c,.slice fc.a fc.n fc.c,.slice fl.a fl.n fl.c,.slice ff.a ff.n ff.c,.slice fx.a fx.n fx.c,.slice fr.a fr.n fr.c,.slice fn.a fn.n fn.c,.slice fv.a fv.n fv.c] 32))∨(k=1/\(∃ g c,Own w W [(N,#[.int .i64 u,.slice fg.a 1 fg.c,.slice fc.a fc.n fc.c,.slice fl.a fl.n fl.c,.slice ff.a ff.n ff.c,.slice fx.a fx.n fx.c,.slice fr.a fr.n fr.c,.slice fn.a fn.n fn.c,.slice fv.a fv.n fv.c],32),(N+1,#[.int .i64 0],3),(N+3,#[.map (some (N+2))],212),(b5,#[.int .i64 0],3)]/\Gm.GMap (Value.int .i64) W (N+2) [((0:Int),.slice (some ⟨g,0,none⟩) 1 c)]/\W.cell? ⟨g,0,none⟩=some (.int .i64 0)/\Rf.Rec rec l D .ready none W/\Blk W b2 #[.int .i64 u,.slice fg.a 1 fg.c,.slice fc.a fc.n fc.c,.slice fl.a fl.n fl.c,.slice ff.a ff.n ff.c,.slice fx.a fx.n fx.c,.slice fr.a fr.n fr.c,.slice fn.a fn.n fn.c,.slice fv.a fv.n fv.c] 32)))
   (u:=u) (fg:=fg) (fc:=fc) (fl:=fl) (ff:=ff) (fx:=fx) (fr:=fr) (fn:=fn) (fv:=fv) (g:=0) (gl:=[x]) (x:=x) w W1 rfl HR.out BB3.out.2 ?hS ?hB ?hM ?hN ?hY ?h0).mono ?after
  case hS =>
   intro k W W' h m;rcases h with ⟨rfl,h1,h2,h3,h4⟩ | ⟨rfl,g,c,h1,h2,h3,h4,h5⟩
   ·exact .inl ⟨rfl,h1.call m,h2.mod m (by simp),h3.kept m (by simp) (by simp),h4.kept m (by simp)⟩
   ·exact .inr ⟨rfl,g,c,h1.call m,h2.mod m (by simp),cell_stays m h3,h4.kept m (by simp) (by simp),h5.kept m (by simp)⟩
  case hB =>
   intro k W h;unfold fontCells;rw [HNG.out];rcases h with ⟨_,_,_,_,h⟩ | ⟨_,_,_,_,_,_,_,h⟩ <;> exact h
  case hM =>
   intro k W h;rcases h with ⟨_,h,_⟩ | ⟨_,_,_,h,_⟩ <;> exact h.mod
  case h0=>exact .inl ⟨rfl,T5.out,G3.out,HRC.out,BB3.out.1⟩
  case hN =>
   intro k W q hk hq h;exfalso;have h1:q=p:=by
    rw [HXP.out.1] at hk;cases k with
    | zero=>exact (Option.some.inj hk).symm
    | succ k=>simp at hk
   rw [h1,HXP.out.2,HNG.out] at hq;cases hq
  case hY =>
   intro k W q hk hq h;obtain ⟨rfl,rfl⟩:k=0/\q=p:=by
    rw [HXP.out.1] at hk;cases k with
    | zero=>exact ⟨rfl,(Option.some.inj hk).symm⟩
    | succ k=>simp at hk
   clear hk hq;rcases h with ⟨-,h1,h2,h3,h4⟩ | ⟨h0,-⟩
   case inr=>cases h0
   refine HRD.out q W _ h3 ?_;rintro a' W' ⟨rfl,rfl⟩;have hq0:=HXP.out.2;rw [hq0];have al:Mod [] W (W.alloc (.cells #[.int .i64 0,.int .i64 q.x,.int .i64 q.y] 69)):=(Mod.refl [] W).alloc _;refine ⟨h3.kept al (by simp) (by simp),fun hbusy=>?_⟩;have hld:=HLD.out;have hnb:=HNB.out;have hb2:=HB2.out;have hwn:=HN.out;have h5l:=h1.lt 3 rfl;have hll:=h3.ltl;have k3:Mod [l] (W.alloc (.cells #[.int .i64 0,.int .i64 q.x,.int .i64 q.y] 69)) ((W.alloc (.cells #[.int .i64 0,.int .i64 q.x,.int .i64 q.y] 69)).putObj l (.loop (rec .busy none))):=Rf.Mod.putObj mR (fun _=>by simp) _;have B6:=Hi ((Blk.new W #[.int .i64 0,.int .i64 q.x,.int .i64 q.y] 69).kept k3 (by simp;omega));have T6:=Hi (Own.other (h1.call al) k3 (fun b hb=>by rw [mI.1 hb];omega) (by simp;omega));have G6:=Hi ((h2.mod al (by simp)).mod k3 (by simp;omega));have B26:=Hi ((h4.kept al (by simp)).kept k3 (by simp;omega));have HB6:=Hi hbusy;have HLW:=Hi (show l<W.heap.size/\b5<W.heap.size/\l≠D/\D<W.heap.size from ⟨hll,h5l,by omega,h3.ltD⟩);clear al hbusy h1 h2 h3 h4 k3 hld hnb hb2 hwn h5l hll hq0;generalize (W.alloc (.cells #[.int .i64 0,.int .i64 q.x,.int .i64 q.y] 69)).putObj l (.loop (rec .busy none))=W3 at *
   generalize W.heap.size=b6 at *
   have HSZ:Hid (N+4<=W3.heap.size):=by have h6:=T6.out.lt 2 rfl;show N+4<=W3.heap.size;omega
   have A1:∀ W,Mod [] W3 W->W.cell? ⟨N+3,0,none⟩=some (.map (some (N+2))):=fun W m=>(T6.out.at 2 rfl).every W m 0
   have A2:∀ W,Mod [] W3 W->W.cell? ⟨b6,0,none⟩=some (.int .i64 0):=fun W m=>B6.out.every W m 0
   have A3:∀ W,Mod [] W3 W->W.cell? ⟨b5,0,none⟩=some (.int .i64 0):=fun W m=>(T6.out.at 3 rfl).every W m 0
   have A4:∀ W,Mod [] W3 W->(Instr.lookup 212 (.map (some (N+2))) (.int .i64 0) false).run Tryz.prog W=.ok (.slice none 0 0) W:=fun W m=>by
    have h6:=Gm.run_look intKey (G6.out.mod m (by simp)) Tryz.underlying212 (z:=.slice none 0 0) (by kernel_rfl) (0:Int) false;simp only [Bool.false_eq_true,if_false] at h6;rw [h6];rfl
   gi_upto_region 8 with fail
   refine Sw.wpIn_region_sw (I:=Mod [] W3) (F0:=(fun _=>True)) (fun _ _ h k=>h.then k) 10 [(0,none),(1,none),(2,none),(3,none),(4,none),(5,none),(6,none),(7,none),(8,some ((fun kx W=>∃ b,kx=.slice (some ⟨b,0,none⟩) 1 1/\Blk W b #[.int .i64 0] 3))),(9,some ((fun kx W=>∃ g c,kx=.slice (some ⟨g,0,none⟩) 1 c/\N+4<=g/\W.cell? ⟨g,0,none⟩=some (.int .i64 0))))] (by kernel_rfl) (by kernel_rfl) (Sq.nodup_of (by kernel_rfl)) ?hTS196 ((Mod.refl [] W3).drew) true_stays1 True.intro ?mainS196
   case hTS196 =>
    intro p hp T hT v;simp only [List.mem_cons,List.not_mem_nil,or_false] at hp;rcases hp with rfl | rfl | rfl | rfl | rfl | rfl | rfl | rfl | rfl | rfl <;> first | (cases hT;done) | (cases hT;first | exact (fun W W' ⟨b,h0,h1⟩ m=>⟨b,h0,h1.kept m (by simp)⟩) | exact (fun W W' ⟨g,c,h0,hn,h1⟩ m=>⟨g,c,h0,hn,cell_stays m h1⟩))
   iterate 8 refine Sw.vv (w0:=W3.drew) ((Mod.refl [] W3).drew) ?_
   refine Sw.xx (fun w' hw' hF K Q hK=>?_) (fun kv hkv=>?_)
   ·go_wp2;exact hK _ _ (hw'.alloc _) ⟨_,rfl,Blk.new _ _ _⟩
   obtain ⟨_,_,nb,rfl,_⟩:=hkv;refine Sw.xx (fun w' hw' hF K Q hK=>?_) (fun kv hkv=>?_)
   ·obtain ⟨b8,he8,hB⟩:=hF;cases he8;refine oper_add (base:=N+4) (v:=.slice none 0 0) (xs:=[]) (y:=0) rfl _ _ rfl Tryz.underlying22 rfl (World.ownsRow_nil _ (N+4) 3 1) rfl hB (by decide) (nT HSZ.out hw'.size) (fun v' w'' hGP hgr hbk=>?_);obtain ⟨g9,c9,rfl,hn9,hc9⟩:=own_one hGP;exact hK _ _ (hw'.then (Mod.ofGrown hgr)) ⟨g9,c9,rfl,hn9,hc9⟩
   obtain ⟨_,_,g9,c9,rfl,_⟩:=hkv;refine Sw.nil_go ?_;intro w' hw' hF;simp only [qS,qZ];obtain ⟨gq,cq,he9,hn9,hc9⟩:=hF;cases he9;have T7:=T6.out.call hw';have G7:=G6.out.mod hw' (by simp);obtain ⟨W5,hmu,hG5,o1,o2,o3,o4,o5⟩:=Gm.run_put intKey G7 Tryz.underlying212 (0:Int) (.slice (some ⟨g9,0,none⟩) 1 c9);have k5:Mod [N+2] w' W5:=⟨o1,o2,o3,by rw [o4];exact nR _,fun q _ hn=>o5 q (fun e=>hn (by rw [e];simp))⟩
   have nbd:∀ (b:Nat) (cs:Array Value) (t:TypeId),Blk w' b cs t->b ∉ [N+2]:=fun b cs t h hm=>by
    have e:=mI.1 hm;obtain ⟨es,cl,h7,_⟩:=G7;unfold Blk at h;rw [e,h7] at h;cases h
   have T8:=Hi (Own.other T7 k5 (fun b hb=>by rw [mI.1 hb];have:=HN.out;omega) (fun q hq hm=>nbd _ _ _ (T7.blk q hq).2 hm));have HG8:=Hi hG5;have B68:=Hi ((B6.out.kept hw' (by simp)).kept k5 (nbd _ _ _ (B6.out.kept hw' (by simp))));have B28:=Hi ((B26.out.kept hw' (by simp)).kept k5 (nbd _ _ _ (B26.out.kept hw' (by simp))));have hg9l:g9 ∉ [N+2]:=fun hm=>by
    have e:=mI.1 hm;obtain ⟨es,cl,h7,_⟩:=G7;unfold World.cell? at hc9;rw [e] at hc9;simp [h7] at hc9
   have HN9:=Hi hn9;have HC9:=Hi ((k5.cell (p:=⟨g9,0,none⟩) (cell_lt hc9) hg9l).trans hc9);have HB8:=Hi ((HB6.out.kept hw' (by simp) (by simp)).kept k5 (by have:=HLD.out;have:=HB2.out;have:=HNB.out;simp;omega) (by have:=HLD.out;have:=HB2.out;simp;omega));have c6:=B68.out.cell 0;have c5:=(T8.out.at 3 rfl).cell 0;have c1:=(T8.out.at 1 rfl).cell 0;have f1:=(T8.out.at 1 rfl).frozen 0;simp only [gA,gZ,gS] at c6 c5 c1;clear T7 G7 hG5 o1 o2 o3 o4 o5 k5 nbd hg9l hw' hc9 A1 A2 A3 A4 T6 G6 B6 B26 HB6;go_wp2_with fail;refine noOut_normal ?_;clear hmu
   gi_wp2
   have hn9:=HN9.out;have k6:Mod [N+1] W5 (W5.setCell ⟨N+1,0,none⟩ (.int .i64 0)):=mR.setCell (p:=⟨N+1,0,none⟩) (fun _=>by simp) _;have k7:Mod [l] (W5.setCell ⟨N+1,0,none⟩ (.int .i64 0)) ((W5.setCell ⟨N+1,0,none⟩ (.int .i64 0)).putObj l (.loop (rec .ready none))):=Rf.Mod.putObj mR (fun _=>by simp) _;have hld:=HLD.out;have hlw:=HLW.out;have hnb:=HNB.out;have hb2:=HB2.out;have hwn:=HN.out;have T9:=T8.out.set 1 rfl 0 (.int .i64 0);have HB9:=HB8.out.kept k6 (by simp;omega) (by simp;omega);refine ⟨HB9,rfl,Own.other T9 k7 (fun b hb=>by rw [mI.1 hb];omega) (by simp;omega),g9,⟨c9,(HG8.out.mod k6 (by simp)).mod k7 (by simp;omega)⟩,?_,HB9.put (fun e=>hlw.2.2.1 e.symm) .ready none,(B28.out.kept k6 (by simp;omega)).kept k7 (by simp;omega)⟩
   rw [k7.cell (p:=⟨g9,0,none⟩) (by rw [setCell_size];exact cell_lt HC9.out) (by
    intro hm;have e:=mI.1 hm;have h7:=HB9.lp;have h8:=HC9.out;have h9:g9=l:=e;have h10:=(k6.cell (p:=⟨g9,0,none⟩) (cell_lt HC9.out) (by simp;omega)).trans h8;unfold World.cell? at h10;rw [h9] at h10
    simp [h7] at h10),k6.cell (p:=⟨g9,0,none⟩) (cell_lt HC9.out) (by simp;omega)]
   exact HC9.out
  case after =>
   rintro e W' ⟨rfl,hJ⟩;have hlen:x.parts.length=1:=by rw [HXP.out.1];rfl
   rw [hlen] at hJ;rcases hJ with ⟨h0,-⟩ | ⟨-,g9,c9,h1,h2,h3,h4,h5⟩
   ·cases h0
   refine ⟨_,rfl,.inl ⟨h4,?_⟩⟩;rintro W4 hW4 hdf;have k6:Mod [l] W' W4:=by rw [hW4];exact Rf.Mod.putObj mR (fun _=>by simp) _
   have hld:=HLD.out;have hnb:=HNB.out;have hwn:=HN.out;have T10:=Hi (Own.other h1 k6 (fun b hb=>by rw [mI.1 hb];omega) (by simp;omega));have G10:=Hi (h2.mod k6 (by simp;omega));have hgl:g9 ∉ [l]:=fun hm=>by
    have e:=mI.1 hm;have h7:=h4.lp;have h10:=h3;unfold World.cell? at h10;rw [e] at h10;simp [h7] at h10
   have C10:=Hi ((k6.cell (p:=⟨g9,0,none⟩) (cell_lt h3) hgl).trans h3);have M10:=Hi ((Mks.nil W4).cons hdf (by simp));clear hW4 hdf k6 hld hnb hwn hgl h1 h2 h3 h4 h5 hlen;go_wp2_with fail;rw [<- HKr.out,rounds_succ];clear HKr;have hm2:∀ W:World,(Instr.makeMap 221 none).run Tryz.prog W=.ok (.map (some W.heap.size)) (W.alloc (.map #[] 0)):=fun W=>by kernel_rfl
   have T11:=Hi ((T10.out.call ((Mod.refl [] W4).alloc (.map #[] 0))).alloc #[.map (some W4.heap.size)] 221);have GB:=Hi ((Gm.GMap.new (Value.int .i64) W4).mod ((Mod.refl [] (W4.alloc (.map #[] 0))).alloc (.cells #[.map (some W4.heap.size)] 221)) (by simp));have al:Mod [] W4 ((W4.alloc (.map #[] 0)).alloc (.cells #[.map (some W4.heap.size)] 221)):=((Mod.refl [] W4).alloc _).alloc _;have G11:=Hi (G10.out.mod al (by simp));have C11:=Hi (cell_stays al C10.out);have M11:=Hi (Mks.stays _ _ M10.out al);have HGB:Hid (N+5<=W4.heap.size/\b5<W4.heap.size/\g9<W4.heap.size/\D<W4.heap.size/\N+4<=D):=⟨by have h7:=T10.out.lt 3 rfl;have h8:=HNB.out;omega,T10.out.lt 3 rfl,cell_lt C10.out,M10.out.lt D (by simp),by have h7:=HLD.out;have h8:=HNB.out;omega⟩
   simp only [List.cons_append,List.nil_append,World.size_alloc] at T11;go_upto_region 13 with fail;clear hm2 al T10 G10 C10 M10;generalize (W4.alloc (.map #[] 0)).alloc (.cells #[.map (some W4.heap.size)] 221)=w6 at *
   generalize W4.heap.size=gb at *
   have f0:=(T11.out.at 0 rfl).cell 0;have f1:=(T11.out.at 0 rfl).cell 1;have f2:=(T11.out.at 0 rfl).cell 2;have f3:=(T11.out.at 0 rfl).cell 3;have f4:=(T11.out.at 0 rfl).cell 4;have f5:=(T11.out.at 0 rfl).cell 5;have f6:=(T11.out.at 0 rfl).cell 6;have f7:=(T11.out.at 0 rfl).cell 7;have f8:=(T11.out.at 0 rfl).cell 8;simp only [gA,gZ,gS] at f0 f1 f2 f3 f4 f5 f6 f7 f8;have hX:=left_any u fg fc fl ff fx fr fn fv [x] B w6 (HR.out.mod RGlyph.stay T11.out.mod) (by simp) (fun y hy=>by rw [mI.1 hy,HXP.out.1];simp);unfold fontCells at hX;rw [HNG.out] at hX;have HX:=Hi hX;clear hX;go_wp2_with fail;refine HX.out.mono ?_;rintro e w7 ⟨⟨v,s,rfl,hgo,-,-,hown⟩,m7⟩;have htold:s.told=[0]:=goes_one p x HXP.out.1 HXP.out.2 hgo;rw [htold] at hown;obtain ⟨gl,cl,rfl,-,hcl⟩:=own_one hown;have CL:=Hi hcl;have T12:=Hi (T11.out.call m7);have GB2:=Hi (GB.out.mod m7 (by simp));have G12:=Hi (G11.out.mod m7 (by simp));have C12:=Hi (cell_stays m7 C11.out);have M12:=Hi (Mks.stays _ _ M11.out m7);clear hgo htold hown hcl m7 HX f0 f1 f2 f3 f4 f5 f6 f7 f8 T11 GB G11 C11 M11;have HX:=Hi (back_any (some ⟨gl,0,none⟩) 1 cl w7);go_wp2_with fail;refine HX.out.mono ?_;rintro e w8 ⟨⟨bb,rfl,hbb,-⟩,m8⟩;have CL2:=Hi (cell_stays m8 CL.out);have T13:=Hi (T12.out.call m8);have GB3:=Hi (GB2.out.mod m8 (by simp));have G13:=Hi (G12.out.mod m8 (by simp));have C13:=Hi (cell_stays m8 C12.out);have M13:=Hi (Mks.stays _ _ M12.out m8);have BB8:=Hi hbb;clear hbb m8 HX CL T12 GB2 G12 C12 M12;go_wp2_with fail;refine Rf.wp_range (α:=Unit) (gf:=188) (lb:=#[.pointer (some ⟨bb,0,none⟩)]) (encs:=fun _=>#[.int .i64 0,.int .i64 0])
    (fun W _ a' W'=>W'=W/\a'=⟨List.toArray (.agg #[.int .i64 u,.slice fg.a 1 fg.c,.slice fc.a fc.n fc.c,.slice fl.a fl.n fl.c,.slice ff.a ff.n ff.c,.slice fx.a fx.n fx.c,.slice fr.a fr.n fr.c,.slice fn.a fn.n fn.c,.slice fv.a fv.n fv.c]::.pointer (some ⟨N,0,none⟩)::.int .i64 0::.pointer (some ⟨N+1,0,none⟩)::.pointer (some ⟨N+3,0,none⟩)::.pointer (some ⟨b5,0,none⟩)::undef::.pointer (some ⟨gb+1,0,none⟩)::undef::.int .i64 0::undef::undef::undef::undef::.pointer (some ⟨N,1,none⟩)::.slice fg.a 1 fg.c::.int .i64 1::.map (some (N+2))::.pointer (some ⟨N,1,none⟩)::.slice fg.a 1 fg.c::.int .i64 1::.int .i64 1::.bool false::.int .i64 0::.agg #[.int .i64 u,.slice fg.a 1 fg.c,.slice fc.a fc.n fc.c,.slice fl.a fl.n fl.c,.slice ff.a ff.n ff.c,.slice fx.a fx.n fx.c,.slice fr.a fr.n fr.c,.slice fn.a fn.n fn.c,.slice fv.a fv.n fv.c]::.int .i64 0::.func (.func 184) #[] #[.pointer (some ⟨b2,0,none⟩),.pointer (some ⟨b3,0,none⟩)]::undef::undef::undef::undef::undef::undef::undef::undef::undef::undef::undef::undef::undef::undef::undef::undef::undef::undef::.int .i64 1::.map (some gb)::.agg #[.int .i64 u,.slice fg.a 1 fg.c,.slice fc.a fc.n fc.c,.slice fl.a fl.n fl.c,.slice ff.a ff.n ff.c,.slice fx.a fx.n fx.c,.slice fr.a fr.n fr.c,.slice fn.a fn.n fn.c,.slice fv.a fv.n fv.c]::.slice (some ⟨gl,0,none⟩) 1 cl::.func (.func 188) #[] #[.pointer (some ⟨bb,0,none⟩)]::.int .i64 0::.int .i64 0::undef::undef::undef::undef::undef::undef::undef::undef::undef::undef::undef::undef::undef::undef::undef::undef::undef::undef::undef::undef::undef::undef::undef::undef::undef::undef::undef::undef::undef::undef::undef::undef::undef::undef::undef::undef::undef::undef::undef::undef::undef::undef::undef::[]),[]⟩)
    rfl (fun args w=>by kernel_rfl) (fun _=>rfl) ?assign2 ?main2
   case assign2 =>
    intro l p W KK hK
    gi_wp2
    try exact hK _ _ ⟨rfl,rfl⟩
   case main2 =>
    intro rec2 l2 D2 W1 hD hl hs hm hR hround;have HLD2:Hid (D2=w8.heap.size/\l2=w8.heap.size+1/\W1.heap.size=w8.heap.size+2/\gb+1<w8.heap.size):=⟨hD,hl,hs,T13.out.lt 4 rfl⟩
    have T14:=Hi (T13.out.call hm);have GB4:=Hi (GB3.out.mod hm (by simp));have G14:=Hi (G13.out.mod hm (by simp));have C14:=Hi (cell_stays hm C13.out);have CL3:=Hi (cell_stays hm CL2.out);have M14:=Hi (Mks.stays _ _ M13.out hm);have HRD2:=Hi hround;have HRC2:=Hi hR;have HM8:=Hi M13.out.lt;refine (back1_one (b:=bb) (g:=gl) (c:=cl) (x:=0) (Q:=fun W=>Rf.Rec rec2 l2 D2 .ready none W/\Own w W [(N,#[.int .i64 u,.slice fg.a 1 fg.c,.slice fc.a fc.n fc.c,.slice fl.a fl.n fl.c,.slice ff.a ff.n ff.c,.slice fx.a fx.n fx.c,.slice fr.a fr.n fr.c,.slice fn.a fn.n fn.c,.slice fv.a fv.n fv.c],32),(N+1,#[.int .i64 0],3)]/\Mks [D] W) W1 (BB8.out.kept hm (by simp)) CL3.out ?hY2).mono ?after2
    case hY2 =>
     refine HRD2.out () W1 _ HRC2.out ?_;rintro a' W' ⟨rfl,rfl⟩;refine ⟨HRC2.out,fun hbusy=>?_⟩;have hld:=HLD2.out;have hgb:=HGB.out;have hwn:=HN.out;have hnb:=HNB.out;have hdl:=HM8.out D (by simp);have h9l:=cell_lt C13.out;have b5l:=T13.out.lt 3 rfl;have k3:Mod [l2] W' (W'.putObj l2 (.loop (rec2 .busy none))):=Rf.Mod.putObj mR (fun _=>by simp) _;have T15:=Hi (Own.other T14.out k3 (fun b hb=>by rw [mI.1 hb];omega) (by simp;omega));have GB5:=GB4.out.mod k3 (by simp;omega);have G15:=Hi (G14.out.mod k3 (by simp;omega));have C15:=Hi ((k3.cell (p:=⟨g9,0,none⟩) (cell_lt C14.out) (by simp;omega)).trans C14.out);have M15:=Hi (M14.out.kept k3 (by simp;omega));have HB5:=Hi hbusy;generalize W'.putObj l2 (.loop (rec2 .busy none))=W3 at *
     have c7:=(T15.out.at 4 rfl).cell 0;simp only [gA,gZ] at c7;have hz:∀ W:World,(zeroValue 4).run Tryz.prog W=.ok (.bool false) W:=fun W=>by kernel_rfl
     have hlk:=Gm.run_look intKey GB5 Tryz.underlying221 (hz W3) (0:Int) false;simp only [Bool.false_eq_true,if_false] at hlk;rw [show (Gm.look ([]:List (Int×Value)) 0).getD (.bool false)=.bool false from rfl] at hlk;obtain ⟨W4,hmu,hG6,o1,o2,o3,o4,o5⟩:=Gm.run_put intKey GB5 Tryz.underlying221 (0:Int) (.bool true);have k4:Mod [gb] W3 W4:=⟨o1,o2,o3,by rw [o4];exact nR _,fun q _ hn=>o5 q (fun e=>hn (by rw [e];simp))⟩
     have T16:=Own.other T15.out k4 (fun b hb=>by rw [mI.1 hb];omega) (by simp;omega);have G16:=G15.out.mod k4 (by simp;omega);have C16:=(k4.cell (p:=⟨g9,0,none⟩) (cell_lt C15.out) (by simp;omega)).trans C15.out;have M16:=M15.out.kept k4 (by simp;omega);have HB6:=HB5.out.kept k4 (by simp;omega) (by simp;omega);have al:Mod [] W4 (W4.alloc (.cells #[.int .i64 0] 3)):=(Mod.refl [] W4).alloc _;have T17:=Hi (T16.call al);have G17:=Hi (G16.mod al (by simp));have GB7:=Hi (hG6.mod al (by simp));have C17:=Hi (cell_stays al C16);have M17:=Hi (Mks.stays _ _ M16 al);have HB7:=Hi (HB6.kept al (by simp) (by simp));have BG:=Hi (Blk.new W4 #[.int .i64 0] 3);clear hbusy hld hgb hwn hnb hdl h9l b5l k3 GB5 hz hG6 o1 o2 o3 o4 o5 k4 T16 G16 C16 M16 HB6 al T15 G15 C15 M15 HB5
     gi_upto_region 18 with fail
     clear c7 hlk hmu;generalize W4.alloc (.cells #[.int .i64 0] 3)=w9 at *
     generalize W4.heap.size=gr at *
     gi_wp2
     refine wpIn_loop_rounds 2 ?_;rw [roundsIn_succ];generalize hKr2:Code.roundsIn _ _ _ _ _ 1=Kr2;have HKr2:=Hi hKr2;clear hKr2
     gi_upto_region 21 with fail
     have c3:=(T17.out.at 2 rfl).every;have A1:∀ W,Mod [] w9 W->W.cell? ⟨N+3,0,none⟩=some (.map (some (N+2))):=fun W m=>c3 W m 0
     have A2:∀ W,Mod [] w9 W->W.cell? ⟨gr,0,none⟩=some (.int .i64 0):=fun W m=>BG.out.every W m 0
     have A4:∀ W,Mod [] w9 W->(Instr.lookup 212 (.map (some (N+2))) (.int .i64 0) false).run Tryz.prog W=.ok (.slice (some ⟨g9,0,none⟩) 1 c9) W:=fun W m=>by
      have h6:=Gm.run_look intKey (G17.out.mod m (by simp)) Tryz.underlying212 (z:=.slice none 0 0) (by kernel_rfl) (0:Int) false;simp only [Bool.false_eq_true,if_false] at h6;rw [h6];rfl
     clear c3;refine Sw.wpIn_region_sw (I:=Mod [] w9) (F0:=(fun _=>True)) (fun _ _ h k=>h.then k) 8 [(0,none),(1,none),(2,none),(3,none),(4,none),(5,none),(6,none),(7,none)] (by kernel_rfl) (by kernel_rfl) (Sq.nodup_of (by kernel_rfl)) ?hTS473 ((Mod.refl [] w9).drew) true_stays1 True.intro ?mainS473
     case hTS473 =>
      intro p hp T hT v;simp only [List.mem_cons,List.not_mem_nil,or_false] at hp;rcases hp with rfl | rfl | rfl | rfl | rfl | rfl | rfl | rfl <;> first | (cases hT;done) | (cases hT;first | exact True.intro)
     iterate 8 refine Sw.vv (w0:=w9.drew) ((Mod.refl [] w9).drew) ?_
     refine Sw.nil_go ?_;intro w' hw' hF;simp only [qS,qZ];clear A1 A2 A4;have T18:=Hi (T17.out.call hw');have GB8:=Hi (GB7.out.mod hw' (by simp));have C18:=cell_stays hw' C17.out;have M18:=Hi (Mks.stays _ _ M17.out hw');have HB8:=Hi (HB7.out.kept hw' (by simp) (by simp));clear hw' hF T17 G17 GB7 C17 M17 HB7 BG;go_wp2_with fail;refine noOut_normal ?_;have c7:=(T18.out.at 4 rfl).cell 0;simp only [gA,gZ] at c7;have hz:∀ W:World,(zeroValue 4).run Tryz.prog W=.ok (.bool false) W:=fun W=>by kernel_rfl
     have hlk:=Gm.run_look intKey GB8.out Tryz.underlying221 (hz w') (0:Int) false;simp only [Bool.false_eq_true,if_false] at hlk;rw [show (Gm.look (Gm.put ([]:List (Int×Value)) 0 (.bool true)) 0).getD (.bool false)=.bool true from rfl] at hlk;clear hz
     gi_wp2
     refine wpIn_loop_rounds 2 ?_;rw [roundsIn_succ];generalize hKr3:Code.roundsIn _ _ _ _ _ 1=Kr3;have HKr3:=Hi hKr3;clear hKr3
     gi_wp2
     rw [<- HKr3.out,roundsIn_succ];clear HKr3 Kr3
     gi_wp2
     rw [<- HKr2.out,roundsIn_succ];clear HKr2
     gi_wp2
     have hld:=HLD2.out;have hgb:=HGB.out;have hwn:=HN.out;have hdl:=HM8.out D (by simp);have k7:Mod [l2] w' (w'.putObj l2 (.loop (rec2 .ready none))):=Rf.Mod.putObj mR (fun _=>by simp) _;have hb0:=T18.out.at 0 rfl;have hb1:=T18.out.at 1 rfl;refine ⟨HB8.out,rfl,HB8.out.put (by omega) .ready none,⟨T18.out.mod.trans k7 (fun b hb hlt=>by have:=mI.1 hb;omega),fun q hq=>?_,by simp⟩,M18.out.kept k7 (by simp;omega)⟩;simp only [List.mem_cons,List.not_mem_nil,or_false] at hq;rcases hq with rfl | rfl
     ·exact ⟨by show w.heap.size<=N;omega,hb0.kept k7 (by simp;omega)⟩
     ·exact ⟨by show w.heap.size<=N+1;omega,hb1.kept k7 (by simp;omega)⟩
    case after2 =>
     rintro e W' ⟨rfl,h1,h2,h3⟩;refine ⟨_,rfl,.inl ⟨h1,?_⟩⟩;rintro W4 hW4 hdf;have hld:=HLD2.out;have hgb:=HGB.out;have hwn:=HN.out;have hdl:=HM8.out D (by simp);have k6:Mod [l2] W' W4:=by rw [hW4];exact Rf.Mod.putObj mR (fun _=>by simp) _
     have T20:=Hi (Own.other h2 k6 (fun b hb=>by rw [mI.1 hb];omega) (by simp;omega));have M20:=Hi ((h3.kept k6 (by simp;omega)).cons hdf (by simp;omega));have HDD:Hid (w.heap.size<=D/\w.heap.size<=D2):=⟨by omega,by omega⟩
     clear hW4 hdf hld hgb hwn hdl k6 h1 h2 h3;have c1:=(T20.out.at 1 rfl).cell 0;simp only [gA,gZ] at c1;go_wp2_with fail;refine M20.out.leaves ?_;refine ⟨_,?_,rfl,mod_closeAll _ _ T20.out.mod (fun b hb hlt=>?_)⟩
     ·simp [results,Tryz.f169,go_sem]
     ·exfalso;have h9:=HDD.out;simp only [List.mem_cons,List.not_mem_nil,or_false] at hb;rcases hb with rfl | rfl <;> omega
theorem line_one {x:DGlyph} {p:DPart} (hx:x.parts=[p]) (hp:p.glyph=0) {L:List Nat} (h:Ln.Ok [x].length (Ln.partsOf [x]) L):L=[]:=by
 have e0:Ln.partsOf [x] 0=[0]:=by unfold Ln.partsOf Ln.here;simp [hx,hp,isIn]
 cases L with
 | nil=>rfl
 | cons y r =>
  exfalso;have h1:=h.lt y (by simp);obtain rfl:y=0:=by simpa using h1
  have h2:=h.ahead [] 0 r rfl 0 (by rw [e0];simp);cases h2
set_option maxRecDepth 100000 in
theorem order_one (u:Int) (fg fc fl ff fx fr fn fv:Hd) (x:DGlyph) (p:DPart) (B:Nat) (w:World) (hr:Rows 9 RGlyph B w (.slice fg.a fg.n fg.c) [x]) (hx:x.parts=[p]) (hp0:p.glyph=0) :
  Calls Tryz.prog 110 #[.agg (fontCells u fg fc fl ff fx fr fn fv)] w fun e w'=>e=.returned (.tuple #[.slice none 0 0,.int .i64 0,.int .i64 33])/\Mod [] w w':=by
 obtain ⟨gl,hgl⟩:∃ gl,gl=[x]:=⟨_,rfl⟩
 have hr0:=hr;rw [<- hgl] at hr;have hn:gl.length<=1000:=by rw [hgl];simp
 have hp:∀ y∈gl,y.parts.length<=100:=fun y hy=>by rw [hgl] at hy;rw [mI.1 hy,hx];simp
 have hfull:∀ L,Ln.Ok gl.length (Ln.partsOf gl) L->L=[]:=fun L h=>line_one hx hp0 (by rw [hgl] at h;exact h)
 have HR:=Hi hr;have HR0:=Hi (And.intro hr0 (And.intro hx (And.intro hp0 (show gl.length=1 by rw [hgl];rfl))));clear hgl hr0 hx hp0;have HN:=Hi (And.intro hn (And.intro hp hfull));obtain ⟨n,hnn⟩:∃ n,n=gl.length:=⟨_,rfl⟩
 have hng:fg.n=gl.length:=by obtain ⟨_,_,he,-⟩:=hr.form;injection he with _ h _
 have HNG:Hid (fg.n=n):=by show _=_;rw [hng,hnn]
 have HNN:=Hi hnn;have T:=Hi (own1 w (fontCells u fg fc fl ff fx fr fn fv) 32);have hmk:∀ W:World,(Instr.makeSlice 22 (.int .i64 (n:Int)) (.int .i64 (n:Int))).run Tryz.prog W=.ok (.slice (some ⟨W.heap.size,0,none⟩) n n) (W.alloc (.cells (numC n fun _=>0) 3)):=fun W=>make_ints W n (by omega)
 unfold fontCells at T ⊢;have a1:=(T.out.at 0 rfl).cell 1;simp only [gA,gZ,gS] at a1;rw [HNG.out] at a1 T;clear hr hn hp hfull hnn hng;have T1:=Hi (T.out.alloc (numC n fun _=>0) 3);simp only [List.cons_append,List.nil_append,World.size_alloc] at T1;go_enter Tryz.func110,Tryz.ntmps110;rw [HNG.out];go_upto_region 2 with fail;clear hmk a1 T;generalize (w.alloc _).alloc _=w1 at *
 obtain ⟨b,hb⟩:∃ b,b=w.heap.size+1:=⟨_,rfl⟩
 rw [<- hb] at T1 ⊢;clear hb;go_wp2_with fail
 go_loopg [14] n (fun gk v14 wr=>∃ i:Nat,v14=.int .i64 (i:Int)/\Hid (i+gk=n)/\Hid (Own w wr [(w.heap.size,#[.int .i64 u,.slice fg.a n fg.c,.slice fc.a fc.n fc.c,.slice fl.a fl.n fl.c,.slice ff.a ff.n ff.c,.slice fx.a fx.n fx.c,.slice fr.a fr.n fr.c,.slice fn.a fn.n fn.c,.slice fv.a fv.n fv.c],32),(b,numC n (fun j=>if j<i then j else 0),3)]))
 case atStart=>exact ⟨0,rfl,by show 0+n=n;omega,T1.out⟩
 case round =>
  obtain ⟨i,rfl,hi,T2⟩:=hrel;clear T1
  by_cases hin:i<n
  case neg =>
   obtain rfl:n=i:=by have:=hi.out;omega
   have k1:decide ((n:Int)<(n:Int))=false:=dF (by omega);have a0:=(T2.out.at 0 rfl).cell 0;have a1:=(T2.out.at 0 rfl).cell 1;have a2:=(T2.out.at 0 rfl).cell 2;have a3:=(T2.out.at 0 rfl).cell 3;have a4:=(T2.out.at 0 rfl).cell 4;have a5:=(T2.out.at 0 rfl).cell 5;have a6:=(T2.out.at 0 rfl).cell 6;have a7:=(T2.out.at 0 rfl).cell 7;have a8:=(T2.out.at 0 rfl).cell 8;simp only [gA,gZ,gS] at a0 a1 a2 a3 a4 a5 a6 a7 a8;have hn1:n<=1000:=by rw [HNN.out];exact HN.out.1
   have hrows:=rows_of_blk (T2.out.at 1 rfl) (by omega) (fun i hi=>by show (if i<n then i else 0)<=_;split <;> omega);have hlist:((List.range n).map fun i=>(((if i<n then i else 0:Nat)):Int))=nats (List.range gl.length):=by
    rw [<- HNN.out];unfold nats;exact List.map_congr_left fun x hx=>by rw [if_pos (List.mem_range.1 hx)]
   rw [hlist] at hrows;have hX:=line_any u fg fc fl ff fx fr fn fv gl 0 n (some ⟨b,0,none⟩) wr ((HR.out.mod RGlyph.stay T2.out.mod).lower RGlyph.lower (Nat.zero_le _)) (by rw [<- HNN.out];rw [<- HNN.out] at hrows;exact hrows) HN.out.1 HN.out.2.1;unfold fontCells at hX;rw [HNG.out,<- HNN.out] at hX;have HX:=Hi hX;clear hX hrows hlist hin hi;go_wp2_with fail;refine HX.out.mono ?_;rintro e w2 ⟨v,L,rfl,hok,hown,m2⟩;have hlen:L=[]:=HN.out.2.2 L (by rw [<- HNN.out];exact hok);have hn1':n=1:=by rw [HNN.out];exact HR0.out.2.2.2
   obtain ⟨ov,cv,rfl⟩:=own_form hown;rw [hlen];simp only [List.length_nil];have T3:=Hi (T2.out.call m2);have hX:=round_one u fg fc fl ff fx fr fn fv x p B w2 (HR0.out.1.mod RGlyph.stay (T2.out.mod.then m2)) HR0.out.2.1 HR0.out.2.2.1;unfold fontCells at hX;rw [HNG.out] at hX;have HX2:=Hi hX;have a0:=(T3.out.at 0 rfl).cell 0;have a1:=(T3.out.at 0 rfl).cell 1;have a2:=(T3.out.at 0 rfl).cell 2;have a3:=(T3.out.at 0 rfl).cell 3;have a4:=(T3.out.at 0 rfl).cell 4;have a5:=(T3.out.at 0 rfl).cell 5;have a6:=(T3.out.at 0 rfl).cell 6;have a7:=(T3.out.at 0 rfl).cell 7;have a8:=(T3.out.at 0 rfl).cell 8;simp only [gA,gZ,gS] at a0 a1 a2 a3 a4 a5 a6 a7 a8;have k2:decide (((0:Nat):Int)<(n:Int))=true:=dT (by omega);have k2':decide ((0:Int)<(n:Int))=true:=dT (by omega);have k3:decide (0<n)=true:=dT (by omega);clear hok hown m2 hlen HX hn1 hn1' hX T2;go_wp2_with fail;refine HX2.out.mono ?_;rintro e w3 ⟨rfl,m3⟩;have HM:=Hi (T3.out.mod.then m3);clear m3 HX2 T3 a0 a1 a2 a3 a4 a5 a6 a7 a8;go_wp2_with fail;refine bodyPost_ret (v:=.tuple #[.slice none 0 0,.int .i64 0,.int .i64 33]) (by simp [results,Tryz.f110,go_sem]) rfl ?_;exact ⟨rfl,HM.out⟩
  have k1:decide ((i:Int)<(n:Int))=true:=dT (by omega);have k2:(0:Int)<=i:=by omega
  have k3:(i:Int)<(n:Int):=by omega
  have k4:decide (i<n)=true:=dT hin;have c0:=(T2.out.at 1 rfl).cell i;rw [numC_at _ hin] at c0;have f0:=(T2.out.at 1 rfl).frozen i;have T3:=Hi (T2.out.set 1 rfl i (.int .i64 (i:Int)));have hcc:(numC n (fun j=>if j<i then j else 0)).setIfInBounds i (.int .i64 (i:Int))=numC n (fun j=>if j<i+1 then j else 0):=by
   rw [numC_set]
   congr 1
   funext j
   unfold Cp.upd
   by_cases hj:j=i
   ·subst hj;simp
   ·rw [if_neg hj];show (if j<i then j else 0)=_
    by_cases h2:j<i
    ·rw [if_pos h2,if_pos (by omega)]
    ·rw [if_neg h2,if_neg (by omega)]
  rw [hcc] at T3;simp only [List.set_cons_zero,List.set_cons_succ] at T3;have ei:IntKind.i64.wrap ((i:Int)+1)=(i:Int)+1:=IntWalk.i64_in _ (by have:=HN.out.1;have:=HNN.out;omega);have HIN:=Hi hin;clear hcc hin;go_wp2;go_roundg (gk - 1)
  case measure=>have:=hi.out;have:=HIN.out;omega
  case rel=>exact ⟨i+1,by rw [Int.natCast_add];rfl,by have:=hi.out;have:=HIN.out;show i+1+(gk - 1)=n;omega,T3.out⟩
theorem composed_one (u:Int) (fg fc fl ff fx fr fn fv:Hd) (x:DGlyph) (p:DPart) (B:Nat) (w:World) (hr:Rows 9 RGlyph B w (.slice fg.a fg.n fg.c) [x]) (hx:x.parts=[p]) (hp0:p.glyph=0) :
  Calls Tryz.prog 56 #[.agg (fontCells u fg fc fl ff fx fr fn fv)] w fun e w'=>e=.returned (.tuple #[.int .i64 33,.int .i64 0])/\Mod [] w w':=by
 have T:=Hi (own1 w (fontCells u fg fc fl ff fx fr fn fv) 32);have hX:=order_one u fg fc fl ff fx fr fn fv x p B _ (hr.mod RGlyph.stay T.out.mod) hx hp0;have HX:=Hi hX;unfold fontCells at T HX ⊢;have a0:=(T.out.at 0 rfl).cell 0;have a1:=(T.out.at 0 rfl).cell 1;have a2:=(T.out.at 0 rfl).cell 2;have a3:=(T.out.at 0 rfl).cell 3;have a4:=(T.out.at 0 rfl).cell 4;have a5:=(T.out.at 0 rfl).cell 5;have a6:=(T.out.at 0 rfl).cell 6;have a7:=(T.out.at 0 rfl).cell 7;have a8:=(T.out.at 0 rfl).cell 8;simp only [gA,gZ,gS] at a0 a1 a2 a3 a4 a5 a6 a7 a8;clear hr hx hp0 hX;go_enter Tryz.func56,Tryz.ntmps56;go_wp2_with fail;refine HX.out.mono ?_;rintro e w1 ⟨rfl,m1⟩;have HM:=Hi (T.out.mod.then m1);clear m1 HX T a0 a1 a2 a3 a4 a5 a6 a7 a8;go_wp2;go_ret2;exact ⟨rfl,HM.out⟩
theorem rows_blk1 {α:Type} {k B b c:Nat} {R:Nat->World->List Value->α->Prop} {w:World} {cs:List Value} {t:TypeId} {x:α} (h:Blk w b cs.toArray t) (hk:cs.length=k) (hR:R B w cs x) (hB:B<=b) :
  Rows k R B w (.slice (some ⟨b,0,none⟩) 1 c) [x]:=by
 refine ⟨some ⟨b,0,none⟩,c,rfl,by show 1<=maxLen;decide,fun i hi=>⟨_,rfl,hB,cs,hk,fun j hj=>?_,?_⟩⟩
 ·obtain rfl:i=0:=by simpa using hi
  have e1:((⟨b,0,none⟩:Addr).add (0*k)).add j=⟨b,j,none⟩:=by unfold Addr.add;simp;omega
  rw [e1,h.cell];simp
 ·obtain rfl:i=0:=by simpa using hi
  exact hR
def notdef:ByteArray:=⟨#[46,110,111,116,100,101,102]⟩
def aw0:DGlyph:=⟨notdef,0,false,[],[],[],[],[],[]⟩
def aw1:DGlyph:=⟨notdef,0,false,[],[],[⟨0,0,0⟩],[],[],[]⟩
def nilH:Hd:=⟨none,0,0⟩
theorem aw0_right (fg:Hd) (h:fg.n=1):Ck.first (Ck.fontLooks 1000 fg nilH nilH nilH (Ck.first (Ck.compRes ((List.range [aw0].length).map fun i=>(((fun _=>0:Nat->Nat) i:Nat):Int)) ((List.range [aw0].length).map fun i=>(((fun _=>0:Nat->Nat) i:Nat):Int)))) [aw0] [] [] [] [] [] [] [])=(0,0):=by
 obtain ⟨a,n,c⟩:=fg;simp only at h;subst h;kernel_rfl
theorem aw1_loop (fg:Hd) (h:fg.n=1):Ck.first (Ck.fontLooks 1000 fg nilH nilH nilH (33,0) [aw1] [] [] [] [] [] [] [])=(33,0):=by
 obtain ⟨a,n,c⟩:=fg;simp only at h;subst h;kernel_rfl
theorem i64_0:I64 0:=by unfold I64;decide
theorem aw_call0 {W:World} {b:Nat} (h:Blk W b (List.toArray [.string notdef,.int .i64 0,.bool false,.slice none 0 0,.slice none 0 0,.slice none 0 0,.slice none 0 0,.slice none 0 0,.slice none 0 0]) 46) :
  Calls Tryz.prog 18 #[.agg (fontCells 1000 ⟨some ⟨b,0,none⟩,1,1⟩ nilH nilH nilH nilH nilH nilH nilH)] W fun e w'=>e=.returned (.tuple #[.int .i64 0,.int .i64 0])/\Mod [] W w':=by
 have hg:Rows 9 RGlyph 0 W (.slice (some ⟨b,0,none⟩) 1 1) [aw0]:=rows_blk1 h rfl ⟨_,_,_,_,_,_,rfl,by show 7<=maxLen;decide,i64_0,Rows.nil W,Rows.nil W,Rows.nil W,Rows.nil W,Rows.nil W,Rows.nil W⟩ (Nat.zero_le _);have hP:∀ g,Ln.partsOf [aw0] g=[]:=by
  intro g;unfold Ln.partsOf Ln.here;cases g with
  | zero=>rfl
  | succ g=>rfl
 have hE:Cp.Eqs [aw0].length (Ln.partsOf [aw0]) (fun _=>0) (fun _=>0) (fun _=>0):=⟨fun g _=>by rw [hP];rfl,fun g _=>by rw [hP];rfl⟩
 have hc:=fun W' (m:Mod [] W W')=>composed_any 1000 ⟨some ⟨b,0,none⟩,1,1⟩ nilH nilH nilH nilH nilH nilH nilH [aw0] 0 W' (hg.mod RGlyph.stay m) (by decide) (by intro x hx;rw [mI.1 hx];decide) (fun L hL=>Cp.full_of_lower hL (fun g _ p hp=>by rw [hP] at hp;cases hp))
  (by intro x hx p hp;rw [mI.1 hx] at hp;cases hp) _ _ _ hE (by intro g x hx;cases g with | zero=>cases hx;rfl | succ g=>cases hx) (fun _=>by decide) (fun _=>by decide) (fun _=>by decide)
 have hf:=font_any W hg (Rows.nil W) (Rows.nil W) (Rows.nil W) (Rows.nil W) (Rows.nil W) (Rows.nil W) (Rows.nil W) hc;rw [aw0_right _ rfl] at hf;exact hf
theorem aw_call1 {W:World} {b c:Nat} (h:Blk W b (List.toArray [.string notdef,.int .i64 0,.bool false,.slice none 0 0,.slice none 0 0,.slice (some ⟨c,0,none⟩) 1 1,.slice none 0 0,.slice none 0 0,.slice none 0 0]) 46)
  (h2:Blk W c (List.toArray [.int .i64 0,.int .i64 0,.int .i64 0]) 69) :
  Calls Tryz.prog 18 #[.agg (fontCells 1000 ⟨some ⟨b,0,none⟩,1,1⟩ nilH nilH nilH nilH nilH nilH nilH)] W fun e w'=>e=.returned (.tuple #[.int .i64 33,.int .i64 0])/\Mod [] W w':=by
 have hp:Rows 3 RPart 0 W (.slice (some ⟨c,0,none⟩) 1 1) [⟨0,0,0⟩]:=rows_blk1 h2 rfl ⟨rfl,i64_0,i64_0,i64_0⟩ (Nat.zero_le _);have hg:Rows 9 RGlyph 0 W (.slice (some ⟨b,0,none⟩) 1 1) [aw1]:=rows_blk1 h rfl ⟨_,_,_,_,_,_,rfl,by show 7<=maxLen;decide,i64_0,Rows.nil W,Rows.nil W,hp,Rows.nil W,Rows.nil W,Rows.nil W⟩ (Nat.zero_le _);have hc:=fun W' (m:Mod [] W W')=>composed_one 1000 ⟨some ⟨b,0,none⟩,1,1⟩ nilH nilH nilH nilH nilH nilH nilH aw1 ⟨0,0,0⟩ 0 W' (hg.mod RGlyph.stay m) rfl rfl
 have hf:=font_any W (comp:=(33,0)) hg (Rows.nil W) (Rows.nil W) (Rows.nil W) (Rows.nil W) (Rows.nil W) (Rows.nil W) (Rows.nil W) hc;rw [aw1_loop _ rfl] at hf;exact hf
theorem awake_any (w:World):Calls Tryz.prog 6 #[] w fun e w'=>e=.returned (.bool true)/\Mod [] w w':=by
 have T:=Hi (own2 w (List.toArray [.string notdef,.int .i64 0,.bool false,.slice none 0 0,.slice none 0 0,.slice none 0 0,.slice none 0 0,.slice none 0 0,.slice none 0 0]) 46 (fontCells 1000 ⟨some ⟨w.heap.size,0,none⟩,1,1⟩ nilH nilH nilH nilH nilH nilH nilH) 32);go_enter Tryz.func6,Tryz.ntmps6;go_wp2_with fail;refine (aw_call0 (T.out.at 0 rfl)).mono ?_;rintro e w1 ⟨rfl,m1⟩;have T1:=Hi (T.out.call m1);generalize w.heap.size+1=bf at *
 generalize w.heap.size=bg at *
 unfold fontCells nilH at T1;have A1:=(T1.out.at 1 rfl)
 have a1:=A1.cell 1;have a2:=(T1.out.at 0 rfl).every;clear T m1;have T2:=Hi (T1.out.alloc (List.toArray [.int .i64 0,.int .i64 0,.int .i64 0]) 69);have T3:=Hi (T2.out.set 0 rfl 5 (.slice (some ⟨w1.heap.size,0,none⟩) 1 1));simp only [List.cons_append,List.nil_append,List.set_cons_zero] at T2 T3;clear A1 a1 a2;have a1:=(T1.out.at 1 rfl).cell 1;have b2:=(T2.out.at 0 rfl).cell 5;have b3:=(T2.out.at 0 rfl).frozen;have c0:=(T3.out.at 1 rfl).cell 0;have c1:=(T3.out.at 1 rfl).cell 1;have c2:=(T3.out.at 1 rfl).cell 2;have c3:=(T3.out.at 1 rfl).cell 3;have c4:=(T3.out.at 1 rfl).cell 4;have c5:=(T3.out.at 1 rfl).cell 5;have c6:=(T3.out.at 1 rfl).cell 6;have c7:=(T3.out.at 1 rfl).cell 7;have c8:=(T3.out.at 1 rfl).cell 8;simp only [gA,gZ,gS] at a1 b2 c0 c1 c2 c3 c4 c5 c6 c7 c8;go_wp2_with fail;have T4:=T3.out.at 0 rfl;refine (aw_call1 T4 (T3.out.at 2 rfl)).mono ?_;rintro e w2 ⟨rfl,m2⟩;have HM:=Hi (T3.out.mod.then m2);clear T1 T2 T3 T4 a1 b2 b3 c0 c1 c2 c3 c4 c5 c6 c7 c8 m2;go_wp2;go_ret;exact ⟨rfl,HM.out⟩
end Go.Proofs.YthheaflbbficgaaGreat

/- CompSt, Order, ComposedC, Composed, LeftPlain, LeftSt, LeftEnter, Left. -/
import Derived.Test.YthheaflbbficgaaGreatGBase
import Derived.Test.YthheaflbbficgaaGreatGCo
import Derived.Laws.MakeOwn
import Derived.Test.YthheaflbbficgaaGreatGCl
import Derived.Test.YthheaflbbficgaaGreatGRing
set_option linter.all false
namespace Go.Proofs.YthheaflbbficgaaGreat
open Go.RowKit
def eR (n:Nat) (f:Nat->Nat):Array Value:=((List.range n).map λi=>Value.int .i64 (f i:Int)).toArray
theorem eL {n:Nat} (f:Nat->Nat) {i:Nat} (hi:i<n):(eR n f)[i]?=some (.int .i64 (f i:Int)):=by
 unfold eR;simp [hi]
theorem iY (n:Nat) (f:Nat->Nat) (i x:Nat):(eR n f).setIfInBounds i (.int .i64 (x:Int))=eR n (Cp.upd f i x):=by
 unfold eR Cp.upd;apply Array.ext';simp only [List.setIfInBounds_toArray];apply List.ext_getElem?;intro j;rw [List.getElem?_set]
 by_cases hj:i=j
 ·subst hj
  by_cases hn:i<n
  ·simp [hn]
  ·simp [hn]
 ·rw [if_neg hj,List.getElem?_map,List.getElem?_map]
  by_cases hn:j<n
  ·rw [List.getElem?_range hn];simp [show ¬ j=i from λe=>hj e.symm]
  ·rw [List.getElem?_eq_none zqa];rfl
theorem j5 (w:World) (n:Nat) (hn:n<=1000000):(Instr.makeSlice 22 (.int .i64 (n:Int)) (.int .i64 (n:Int))).run Tryz.prog w=.ok (.slice (some ⟨w.heap.size,0,none⟩) n n) (w.alloc (.cells (eR n λ_=>0) 3)):=by
 obtain ⟨i0,hi,hz0,hz1,hz2⟩:=info_parts gN;have h:=run_make (P:=Tryz.prog) w 22 3 i0 (.int .i64 0) Tryz.underlying22 hi hz0 .i64 .i64 (n:Int) (n:Int) zo (Int.le_refl _) (by rw [hz2];omega) zo;rw [Int.toNat_natCast,hz1,Nat.mul_one] at h;have e:madeCells (Value.int .i64 0).cells n=eR n λ_=>0:=by
  unfold eR;apply Array.ext';apply List.ext_getElem
  ·simp [size_madeCells]
  ·intro i h1 h2;simp [madeCells,Nat.mod_one,Value.cells]
 rw [h,e]
theorem iK {w:World} {b n:Nat} {f:Nat->Nat} (h:Blk w b (eR n f) 3) (hn:n<=1000000) (hf:∀ i,i<n->f i<=1000000000) :
  Rows 1 bn 0 w (.slice (some ⟨b,0,none⟩) n n) ((List.range n).map λi=>((f i:Nat):Int)):=by
 refine ⟨some ⟨b,0,none⟩,n,by simp,by simp;unfold maxLen;omega,λi hi=>⟨_,rfl,Nat.zero_le _,[.int .i64 (f i:Int)],rfl,λj hj=>?_,?_⟩⟩
 ·have hi':i<n:=by simpa using hi
  obtain rfl:j=0:=zo;have e1:((⟨b,0,none⟩:Addr).add (i*1)).add 0=⟨b,i,none⟩:=by unfold Addr.add;simp;omega
  rw [e1,h.cell,eL f hi'];rfl
 ·have hi':i<n:=by simpa using hi
  have h1:=hf i hi';refine ⟨by simp,?_⟩;unfold I64;simp;omega
theorem tZ {w:World} {base n:Nat} {v:Value} {xs:List Int} (h:w.ownsRow base 3 1 v n (ints xs)) (hn:n=xs.length) (hx:∀ x∈xs,I64 x):Rows 1 bn 0 w v xs:=by
 subst hn;rcases h.2 with ⟨rfl,hn⟩ | ⟨g,cap,cur,rfl,hb,hg,hc,hm,hs,ht⟩
 ·obtain rfl:=List.eq_nil_of_length_eq_zero hn;exact Rows.nil w
 ·refine ⟨_,cap,rfl,nT hc hm,λi hi=>⟨_,rfl,Nat.zero_le _,[.int .i64 xs[i]],rfl,λj hj=>?_,rfl,hx _ (List.getElem_mem hi)⟩⟩;obtain rfl:j=0:=zo;have e1:((⟨g,0,none⟩:Addr).add (i*1)).add 0=⟨g,i,none⟩:=by unfold Addr.add;simp;omega
  have h2:=uP h hi;rw [e1,h2,ints_at hi];rfl
set_option maxHeartbeats 8000000
theorem Bs {l:List Nat} {n:Nat} (hn:n<=1000000) (h:∀ x∈l,x<n):∀ x∈nats l,I64 x:=λx hx=>by
 obtain ⟨y,hy,rfl⟩:=List.mem_map.1 hx;have:=h y hy;unfold I64;omega
set_option maxRecDepth 100000 in
theorem yD (u:Int) (fg fc fl ff fx fr fn fv:Hd) (gl:List av) (B:Nat) (w:World) (hr:Rows 9 aI B w (.slice fg.a fg.n fg.c) gl) (hn:gl.length<=1000) (hp:∀ x∈gl,x.parts.length<=100)
  (hfull:∀ L,Ln.Ok gl.length (Ln.partsOf gl) L->L.length=gl.length) :
  Calls Tryz.prog 110 #[.agg (af u fg fc fl ff fx fr fn fv)] w λe w'=>(∃ oa c L,e=.returned (.tuple #[.slice oa gl.length c,.int .i64 0,.int .i64 0])/\Ln.Ok gl.length (Ln.partsOf gl) L/\L.length=gl.length/\Rows 1 bn 0 w' (.slice oa gl.length c) (nats L))/\Mod [] w w':=by
 have HR:=Hi hr;have HN:=Hi (And.intro hn (And.intro hp hfull));obtain ⟨n,hnn⟩:∃ n,n=gl.length:=⟨_,rfl⟩
 have hng:fg.n=gl.length:=by obtain ⟨_,_,he,-⟩:=hr.form;injection he with _ h _
 have HNG:Hy (fg.n=n):=by show _=_;rw [hng,hnn]
 rw [<- hnn];have HNN:=Hi hnn;have T:=Hi (own1 w (af u fg fc fl ff fx fr fn fv) 32);have hmk:∀ W:World,(Instr.makeSlice 22 (.int .i64 (n:Int)) (.int .i64 (n:Int))).run Tryz.prog W=.ok (.slice (some ⟨W.heap.size,0,none⟩) n n) (W.alloc (.cells (eR n λ_=>0) 3)):=λW=>j5 W n zo
 unfold af at T ⊢;have a1:=(T.o.at 0 rfl).cell 1;simp only [gA,gZ,gS] at a1;rw [HNG.o] at a1 T;clear hr hn hp hfull hnn hng;have T1:=Hi (T.o.alloc (eR n λ_=>0) 3);simp only [List.cons_append,List.nil_append,World.size_alloc] at T1;go_enter Tryz.func110,Tryz.ntmps110;rw [HNG.o];go_upto_region 2 with fail;clear hmk a1 T;generalize (w.alloc _).alloc _=w1 at *
 obtain ⟨b,hb⟩:∃ b,b=w.heap.size+1:=⟨_,rfl⟩
 rw [<- hb] at T1 ⊢;clear hb;go_wp2_with fail
 go_loopg [14] n (λgk v14 wr=>∃ i:Nat,v14=.int .i64 (i:Int)/\Hy (i+gk=n)/\Hy (Own w wr [(w.heap.size,#[.int .i64 u,.slice fg.a n fg.c,.slice fc.a fc.n fc.c,.slice fl.a fl.n fl.c,.slice ff.a ff.n ff.c,.slice fx.a fx.n fx.c,.slice fr.a fr.n fr.c,.slice fn.a fn.n fn.c,.slice fv.a fv.n fv.c],32),(b,eR n (λj=>if j<i then j else 0),3)]))
 case atStart=>exact ⟨0,rfl,by show 0+n=n;omega,T1.o⟩
 case round =>
  obtain ⟨i,rfl,hi,T2⟩:=hrel;clear T1
  by_cases hin:i<n
  case neg =>
   obtain rfl:n=i:=by have:=hi.o;omega
   have k1:=dF (p:=(n:Int)<n) zo;have a0:=(T2.o.at 0 rfl).cell 0;have a1:=(T2.o.at 0 rfl).cell 1;have a2:=(T2.o.at 0 rfl).cell 2;have a3:=(T2.o.at 0 rfl).cell 3;have a4:=(T2.o.at 0 rfl).cell 4;have a5:=(T2.o.at 0 rfl).cell 5;have a6:=(T2.o.at 0 rfl).cell 6;have a7:=(T2.o.at 0 rfl).cell 7;have a8:=(T2.o.at 0 rfl).cell 8;simp only [gA,gZ,gS] at a0 a1 a2 a3 a4 a5 a6 a7 a8;have hn1:n<=1000:=by rw [HNN.o];exact HN.o.1
   have hrows:=iK (T2.o.at 1 rfl) zo (λi hi=>by show (if i<n then i else 0)<=_;split <;> omega);have hlist:((List.range n).map λi=>(((if i<n then i else 0:Nat)):Int))=nats (List.range gl.length):=by
    rw [<- HNN.o];unfold nats;exact List.map_congr_left λx hx=>by rw [if_pos (List.mem_range.1 hx)]
   rw [hlist] at hrows;have hX:=sX u fg fc fl ff fx fr fn fv gl 0 n (some ⟨b,0,none⟩) wr ((HR.o.mod aI.stay T2.o.mod).lower aI.lower (Nat.zero_le _)) (by rw [<- HNN.o];rw [<- HNN.o] at hrows;exact hrows) HN.o.1 HN.o.2.1;unfold af at hX;rw [HNG.o,<- HNN.o] at hX;have HX:=Hi hX;clear hX hrows hlist hin hi;go_wp2_with fail;refine HX.o.mono ?_;rintro e w2 ⟨v,L,rfl,hok,hown,m2⟩;have hlen:L.length=n:=by rw [HNN.o];exact HN.o.2.2 L (by rw [<- HNN.o];exact hok)
   obtain ⟨ov,cv,rfl⟩:=eX hown;rw [hlen] at hown;have HO:=Hi hok;have HRW:=Hi (tZ hown (by rw [bj,hlen]) (Bs (n:=n) zo hok.lt));have HM:=Hi (T2.o.mod.then m2);have HLL:=Hi hlen;rw [hlen];have k2:=dF (p:=(n:Int)<n) zo;have k3:=dF (p:=n<n) zo;clear hok hown m2 hlen HX a0 a1 a2 a3 a4 a5 a6 a7 a8 hn1;go_wp2_with fail;refine bodyPost_ret (v:=.tuple #[.slice ov n cv,.int .i64 0,.int .i64 0]) (by simp [results,Tryz.f110,go_sem]) rfl ?_;exact ⟨⟨ov,cv,L,rfl,HO.o,HLL.o,HRW.o⟩,HM.o⟩
  have k1:=dT (p:=(i:Int)<n) zo;have k2:(0:Int)<=i:=zo;have k3:(i:Int)<n:=zo;have k4:=dT (p:=i<n) hin;have c0:=(T2.o.at 1 rfl).cell i;rw [eL _ hin] at c0;have f0:=(T2.o.at 1 rfl).frozen i;have T3:=Hi (T2.o.set 1 rfl i (.int .i64 (i:Int)));have hcc:(eR n (λj=>if j<i then j else 0)).setIfInBounds i (.int .i64 (i:Int))=eR n (λj=>if j<i+1 then j else 0):=by
   rw [iY]
   congr 1
   funext j
   unfold Cp.upd
   by_cases hj:j=i
   ·subst hj;simp
   ·rw [if_neg hj];show (if j<i then j else 0)=_
    by_cases h2:j<i
    ·rw [if_pos h2,if_pos zo]
    ·rw [if_neg h2,if_neg zo]
  rw [hcc] at T3;simp only [List.set_cons_zero,List.set_cons_succ] at T3;have ei:IntKind.i64.wrap ((i:Int)+1)=(i:Int)+1:=IntWalk.i64_in _ (by have:=HN.o.1;have:=HNN.o;omega);have HIN:=Hi hin;clear hcc hin;go_wp2;go_roundg (gk - 1)
  case measure=>have:=hi.o;have:=HIN.o;omega
  case rel=>exact ⟨i+1,by rw [Int.natCast_add];rfl,by have:=hi.o;have:=HIN.o;show i+1+(gk - 1)=n;omega,T3.o⟩
def Ck.jr (d:Int):Int:=Ck.when (decide (4<d)) 34
def Ck.jq (q:Int):Int:=Ck.when (decide (1001<=q)) 2
theorem Dn (i:Int) (d:Int) (w:World):Calls Tryz.prog 113 #[.int .i64 i,.int .i64 d] w λe w'=>e=.returned (.int .i64 (Ck.jr d))/\w=w':=by
 have HX:=Hi (cE (decide (4<d)) 34 w);unfold Ck.jr;generalize Ck.when (decide (4<d)) 34=r at *
 obtain ⟨b,hb⟩:∃ b,decide (4<d)=b:=⟨_,rfl⟩
 rw [hb] at HX;go_enter Tryz.func113,Tryz.ntmps113;go_wp2_with fail;refine HX.o.mono ?_;rintro e w1 ⟨rfl,rfl⟩;clear hb;go_wp2;go_ret;exact ⟨rfl,rfl⟩
theorem Dl (i:Int) (d:Int) (w:World):Calls Tryz.prog 115 #[.int .i64 i,.int .i64 d] w λe w'=>e=.returned (.int .i64 (Ck.jq d))/\w=w':=by
 have HX:=Hi (cE (decide (1001<=d)) 2 w);unfold Ck.jq;generalize Ck.when (decide (1001<=d)) 2=r at *
 obtain ⟨b,hb⟩:∃ b,decide (1001<=d)=b:=⟨_,rfl⟩
 rw [hb] at HX;go_enter Tryz.func115,Tryz.ntmps115;go_wp2_with fail;refine HX.o.mono ?_;rintro e w1 ⟨rfl,rfl⟩;clear hb;go_wp2;go_ret;exact ⟨rfl,rfl⟩
theorem Ec {b n cc:Nat} {o:Option Addr} {B:Nat} {l:List Int} (w:World) (hb:w.cell? ⟨b,0,none⟩=some (.slice o n cc)) (hr:Rows 1 bn B w (.slice o n cc) l) :
  Calls Tryz.prog 111 #[.pointer (some ⟨b,0,none⟩)] w λe w'=>e=.returned (.tuple #[.int .i64 (Ck.each (λ_ d=>Ck.jr d) l).1,.int .i64 ((Ck.each (λ_ d=>Ck.jr d) l).2:Int)])/\Mod [] w w':=by
 have HC:=Hi (jT (F:=[]) (J:=λ_ W=>Mod [] w W) (fn:=113) (caps:=#[]) (f:=λ_ d=>Ck.jr d) (bM _) (λ_ W m=>hr.mod bn.stay m) (λi y cs W hi m hr=>by
   obtain ⟨rfl,-⟩:=hr
   exact bL ((Dn (i:Int) y W).mono λe w' h=>⟨h.1,h.2 ▸ mR⟩) m)
  (λa w=>by kernel_rfl) _ mR)
 clear hr;go_enter Tryz.func111,Tryz.ntmps111;go_wp2_with fail;refine HC.o.mono ?_;rintro e w1 ⟨rfl,m1⟩;have HM:=Hi m1;clear m1 hb HC;go_wp2;go_ret2;exact ⟨rfl,HM.o⟩
theorem Eb {b n cc:Nat} {o:Option Addr} {B:Nat} {l:List Int} (w:World) (hb:w.cell? ⟨b,0,none⟩=some (.slice o n cc)) (hr:Rows 1 bn B w (.slice o n cc) l) :
  Calls Tryz.prog 114 #[.pointer (some ⟨b,0,none⟩)] w λe w'=>e=.returned (.tuple #[.int .i64 (Ck.each (λ_ d=>Ck.jq d) l).1,.int .i64 ((Ck.each (λ_ d=>Ck.jq d) l).2:Int)])/\Mod [] w w':=by
 have HC:=Hi (jT (F:=[]) (J:=λ_ W=>Mod [] w W) (fn:=115) (caps:=#[]) (f:=λ_ d=>Ck.jq d) (bM _) (λ_ W m=>hr.mod bn.stay m) (λi y cs W hi m hr=>by
   obtain ⟨rfl,-⟩:=hr
   exact bL ((Dl (i:Int) y W).mono λe w' h=>⟨h.1,h.2 ▸ mR⟩) m)
  (λa w=>by kernel_rfl) _ mR)
 clear hr;go_enter Tryz.func114,Tryz.ntmps114;go_wp2_with fail;refine HC.o.mono ?_;rintro e w1 ⟨rfl,m1⟩;have HM:=Hi m1;clear m1 hb HC;go_wp2;go_ret2;exact ⟨rfl,HM.o⟩
def Ck.gm (ld lq:List Int):List Ck.Got:=[Ck.each (λ_ d=>Ck.jr d) ld,Ck.each (λ_ d=>Ck.jq d) lq]
theorem wK {bd bq nd nq cd cq sb ts c:Nat} {od oq:Option Addr} {B:Nat} {ld lq:List Int} (w:World) (hd:w.cell? ⟨bd,0,none⟩=some (.slice od nd cd)) (rd:Rows 1 bn B w (.slice od nd cd) ld)
  (hq:w.cell? ⟨bq,0,none⟩=some (.slice oq nq cq)) (rq:Rows 1 bn B w (.slice oq nq cq) lq) (hs:Blk w sb #[.func (.func 111) #[] #[.pointer (some ⟨bd,0,none⟩)],.func (.func 114) #[] #[.pointer (some ⟨bq,0,none⟩)]] ts) :
  Calls Tryz.prog 50 #[.slice (some ⟨sb,0,none⟩) 2 c] w λe w'=>e=.returned (.tuple #[.int .i64 (Ck.first (Ck.gm ld lq)).1,.int .i64 ((Ck.first (Ck.gm ld lq)).2:Int)])/\Mod [] w w':=by
 refine (jj (F:=[]) (K:=2) (fn:=λk=>[111,114].getD k 0) (caps:=λk=>([#[.pointer (some ⟨bd,0,none⟩)],#[.pointer (some ⟨bq,0,none⟩)]]:List (Array Value)).getD k #[])
  (G:=λk=>(Ck.gm ld lq).getD k (0,0)) (J:=λ_ W=>Mod [] w W) (Z:=λ_ W=>Mod [] w W)
  sb c w ⟨?call,?cf⟩ zd ?hF ?hJ ?hZ ?hc mR).mono λe w' h=>iH.list (Gs:=Ck.gm ld lq) h (λh=>h) (λ_ h=>h)
 case cf =>
  intro k hk a W;have q0:(callFunc 111 a).run Tryz.prog W=.ok (.enter 111 a) W:=zt;have q1:(callFunc 114 a).run Tryz.prog W=.ok (.enter 114 a) W:=zt
  match k,hk with
  | 0,_=>simp only [List.getD_cons_zero,List.getD_cons_succ];exact q0
  | 1,_=>simp only [List.getD_cons_zero,List.getD_cons_succ];exact q1
 case hF=>intro x hx;cases hx
 case hJ=>exact λk W W' h b=>h.below' b
 case hZ=>exact λk W W' h b=>h.below' b
 case hc =>
  intro k W hk h;have q:=hs.kept h zk;have:=q.cell k;rw [this]
  match k,hk with
  | 0,_=>rfl
  | 1,_=>rfl
 case call =>
  intro k W hk' h;have fin:∀ {e:Ending} {W':World} {g:Int×Nat},e=.returned (.tuple #[.int .i64 g.1,.int .i64 (g.2:Int)])/\Mod [] W W' ->
    e=.returned (.tuple #[.int .i64 g.1,.int .i64 (g.2:Int)])/\Mod [] W W'/\(g.1=0->Mod [] w W')/\(g.1≠0->Mod [] w W'):=λq =>
   ⟨q.1,q.2,λ_=>h.then q.2,λ_=>h.then q.2⟩
  match k,hk' with
  | 0,_=>exact (Ec W (aj h hd) (rd.mod bn.stay h)).mono λe W' q=>fin q
  | 1,_=>exact (Eb W (aj h hq) (rq.mod bn.stay h)).mono λe W' q=>fin q
theorem pv {α:Type} (f:Nat->Nat->Nat) (g:α->Nat) (a:Nat) (l:List α) {k:Nat} (hk:k<l.length):((l.take (k+1)).map g).foldl f a=f (((l.take k).map g).foldl f a) (g l[k]):=by
 rw [List.take_succ_eq_append_getElem hk,List.map_append,List.foldl_append];rfl
theorem tC {D:Nat->Nat} {c:Nat} (hD:∀ p,D p<=c):∀ (l:List Nat) (a:Nat),a<=c+1->l.foldl (Cp.ko D) a<=c+1
 | [],a,h=>h
 | p::l,a,h=>tC hD l _ (by unfold Cp.ko;have:=hD p;omega)
theorem tB {Q:Nat->Nat} {c:Nat} (hc:1001<=c):∀ (l:List Nat) (a:Nat),a<=c->l.foldl (Cp.km Q) a<=c
 | [],a,h=>h
 | p::l,a,h=>tB hc l _ (by unfold Cp.km;omega)
theorem tz {n:Nat} {l:List cK} (h:∀ p∈l,eU n p.glyph=true):Ln.here n l=l.map λp=>p.glyph.toNat:=by
 unfold Ln.here;rw [List.filter_eq_self.2 h]
set_option maxRecDepth 100000 in
theorem lO (u:Int) (fg fc fl ff fx fr fn fv:Hd) (gl:List av) (B:Nat) (w:World) (hr:Rows 9 aI B w (.slice fg.a fg.n fg.c) gl) (hn:gl.length<=1000) (hp:∀ x∈gl,x.parts.length<=100)
  (hfull:∀ L,Ln.Ok gl.length (Ln.partsOf gl) L->L.length=gl.length) (hall:∀ x∈gl,∀ p∈x.parts,eU gl.length p.glyph=true) (D Q own:Nat->Nat) (hE:Cp.Eqs gl.length (Ln.partsOf gl) own D Q)
  (hown:∀ g x,gl[g]?=some x->own g=x.pts.length) (hD:∀ g,D g<=1000000) (hQ:∀ g,Q g<=1000000) (ho:∀ g,own g<=1000000) :
  Calls Tryz.prog 56 #[.agg (af u fg fc fl ff fx fr fn fv)] w λe w'=>e=.returned (.tuple #[.int .i64 (Ck.first (Ck.gm ((List.range gl.length).map λi=>((D i:Nat):Int)) ((List.range gl.length).map λi=>((Q i:Nat):Int)))).1,.int .i64 ((Ck.first (Ck.gm ((List.range gl.length).map λi=>((D i:Nat):Int)) ((List.range gl.length).map λi=>((Q i:Nat):Int)))).2:Int)])/\Mod [] w w':=by
 have HR:=Hi hr;have HN:=Hi (And.intro hn (And.intro hp (And.intro hfull hall)));have HE:=Hi (And.intro hE (And.intro hown (And.intro hD (And.intro hQ ho))));obtain ⟨n,hnn⟩:∃ n,n=gl.length:=⟨_,rfl⟩
 have hng:fg.n=gl.length:=by obtain ⟨_,_,he,-⟩:=hr.form;injection he with _ h _
 have HNG:Hy (fg.n=n):=by show _=_;rw [hng,hnn]
 rw [<- hnn];have HNN:=Hi hnn;have HN1:Hy (n<=1000):=by show _<=_;rw [hnn];exact hn
 obtain ⟨C,hC⟩:∃ C,Ck.first (Ck.gm ((List.range n).map λi=>((D i:Nat):Int)) ((List.range n).map λi=>((Q i:Nat):Int)))=C:=⟨_,rfl⟩
 rw [hC];have HC:=Hi hC;have T:=Hi (own1 w (af u fg fc fl ff fx fr fn fv) 32);have hmk:∀ W:World,(Instr.makeSlice 22 (.int .i64 (n:Int)) (.int .i64 (n:Int))).run Tryz.prog W=.ok (.slice (some ⟨W.heap.size,0,none⟩) n n) (W.alloc (.cells (eR n λ_=>0) 3)):=λW=>j5 W n zo
 have hX:=yD u fg fc fl ff fx fr fn fv gl B _ (HR.o.mod aI.stay T.o.mod) hn hp hfull;unfold af at T hX ⊢;rw [<- hnn] at hX;have HX:=Hi hX;have a0:=(T.o.at 0 rfl).cell 0;have a1:=(T.o.at 0 rfl).cell 1;have a2:=(T.o.at 0 rfl).cell 2;have a3:=(T.o.at 0 rfl).cell 3;have a4:=(T.o.at 0 rfl).cell 4;have a5:=(T.o.at 0 rfl).cell 5;have a6:=(T.o.at 0 rfl).cell 6;have a7:=(T.o.at 0 rfl).cell 7;have a8:=(T.o.at 0 rfl).cell 8;simp only [gA,gZ,gS] at a0 a1 a2 a3 a4 a5 a6 a7 a8;rw [HNG.o] at a1 T HX;clear hr hn hp hfull hall hE hown hD hQ ho hnn hng hC hX;go_enter Tryz.func56,Tryz.ntmps56;rw [HNG.o];go_wp2_with fail;refine HX.o.mono ?_;rintro e w2 ⟨⟨oa,c,L,rfl,hok,hlen,hL⟩,m2⟩;have HOK:=Hi (And.intro hok hlen);have HL:=Hi hL;have FB:=Hi ((T.o.at 0 rfl).kept m2 zk);have HM2:=Hi (T.o.mod.then m2);clear hok hlen hL m2 a0 a1 a2 a3 a4 a5 a6 a7 a8 T HX;obtain ⟨fb,hfb⟩:∃ fb,fb=w.heap.size:=⟨_,rfl⟩
 rw [<- hfb] at FB ⊢;clear hfb;have a1:=FB.o.cell 1;simp only [gA,gZ,gS] at a1;have T1:=Hi (own2 w2 (eR n λ_=>0) 3 #[.slice (some ⟨w2.heap.size,0,none⟩) n n] 22);have T2:=Hi ((T1.o.alloc (eR n λ_=>0) 3).alloc #[.slice (some ⟨w2.heap.size+2,0,none⟩) n n] 22);simp only [List.cons_append,List.nil_append,World.size_alloc,Nat.add_assoc,Nat.reduceAdd] at T2;have FB1:=Hi (FB.o.kept T1.o.mod zk);have b1:=FB1.o.cell 1;simp only [gA,gZ,gS] at b1;go_upto_region 6 with fail;clear T1 FB1 b1 a1 hmk;simp only [Nat.add_assoc,Nat.reduceAdd];generalize (((w2.alloc _).alloc _).alloc _).alloc _=W0 at *
 obtain ⟨db,hdb⟩:∃ db,db=w2.heap.size:=⟨_,rfl⟩
 rw [<- hdb] at T2 ⊢;clear hdb;have T3:Hy (Own w2 W0 [(db,eR n (Cp.part L 0 D),3),(db+1,#[.slice (some ⟨db,0,none⟩) n n],22),(db+2,eR n (Cp.part L 0 Q),3),(db+3,#[.slice (some ⟨db+2,0,none⟩) n n],22)]):=by
  rw [Cp.qw,Cp.qw];exact T2.o
 clear T2;go_wp2_with fail
 go_loopg [33] n (λgk v33 wr=>∃ i:Nat,v33=.int .i64 (i:Int)/\Hy (i+gk=n)/\Hy (Own w2 wr [(db,eR n (Cp.part L i D),3),(db+1,#[.slice (some ⟨db,0,none⟩) n n],22),(db+2,eR n (Cp.part L i Q),3),(db+3,#[.slice (some ⟨db+2,0,none⟩) n n],22)]))
 case atStart=>exact ⟨0,rfl,by show 0+n=n;omega,T3.o⟩
 case round =>
  obtain ⟨i,rfl,hi,T4⟩:=hrel;clear T3
  by_cases hin:i<n
  case neg =>
   obtain rfl:n=i:=by have:=hi.o;omega
   have k1:=dF (p:=(n:Int)<n) zo;clear hin hi;have eD:((List.range n).map λi=>((Cp.part L n D i:Nat):Int))=(List.range n).map λi=>((D i:Nat):Int):=List.map_congr_left λg hg=>by
    have h1:=Cp.sT (F:=D) (Cp.mT (by rw [HNN.o] at *;exact HOK.o.1) (by rw [<- HNN.o];exact HOK.o.2)) (g:=g) (by rw [<- HNN.o];exact List.mem_range.1 hg);rw [HOK.o.2] at h1;rw [h1]
   have eQ:((List.range n).map λi=>((Cp.part L n Q i:Nat):Int))=(List.range n).map λi=>((Q i:Nat):Int):=List.map_congr_left λg hg=>by
    have h1:=Cp.sT (F:=Q) (Cp.mT (by rw [HNN.o] at *;exact HOK.o.1) (by rw [<- HNN.o];exact HOK.o.2)) (g:=g) (by rw [<- HNN.o];exact List.mem_range.1 hg);rw [HOK.o.2] at h1;rw [h1]
   have al:Mod [] wr (wr.alloc (.cells #[.func (.func 111) #[] #[.pointer (some ⟨db+1,0,none⟩)],.func (.func 114) #[] #[.pointer (some ⟨db+3,0,none⟩)]] 117)):=(Mod.refl [] wr).alloc _
   have rD:=iK ((T4.o.at 0 rfl).kept al zk) (by have:=HN1.o;omega) (λi hi=>by
    unfold Cp.part
    split
    ·have:=HE.o.2.2.1 i;omega
    ·omega)
   have rQ:=iK ((T4.o.at 2 rfl).kept al zk) (by have:=HN1.o;omega) (λi hi=>by
    unfold Cp.part
    split
    ·have:=HE.o.2.2.2.1 i;omega
    ·omega)
   rw [eD] at rD;rw [eQ] at rQ;have HX:=Hi (wK (c:=2) _ (((T4.o.at 1 rfl).kept al zk).cell 0) rD (((T4.o.at 3 rfl).kept al zk).cell 0) rQ (Blk.new wr _ 117));have HM4:=Hi ((HM2.o.then T4.o.mod).then al);rw [HC.o] at HX;obtain ⟨C1,C2⟩:=C;simp only at HX ⊢;clear eD eQ al rD rQ HC;go_wp2_with fail;refine HX.o.mono ?_;rintro e w3 ⟨rfl,m3⟩;have HM:=Hi (HM4.o.then m3);clear m3 HX HM4 T4;go_wp2;go_ret2;exact ⟨rfl,HM.o⟩
  have k1:=dT (p:=(i:Int)<n) zo;have k2:(0:Int)<=i:=zo;have k3:(i:Int)<n:=zo;have k4:=dT (p:=i<n) hin;have hiL:i<L.length:=by rw [HOK.o.2];exact hin
  obtain ⟨la,rfl,-,cs,-,hc0,-,hx⟩:=(HL.o.mod bn.stay T4.o.mod).at i (by rw [bj];exact hiL);have hxi:(nats L)[i]'(by rw [bj];exact hiL)=((L[i]:Nat):Int):=by unfold nats;simp
  rw [hxi] at hx;obtain ⟨rfl,-⟩:=hx;have c0:=hc0 zd;simp only [gZ,Nat.mul_one] at c0;obtain ⟨x,hx⟩:∃ x,x=L[i]:=⟨_,rfl⟩
  rw [<- hx] at c0;have hxn:x<n:=by rw [hx];exact HOK.o.1.lt _ (List.getElem_mem hiL)
  have hxg:x<gl.length:=by rw [<- HNN.o];exact hxn
  obtain ⟨ag,hag,-,cg,-,hg0,hgj,hgx⟩:=(HR.o.mod aI.stay HM2.o).at x hxg;have hgl:gl[x]?=some gl[x]:=gE hxg;generalize gl[x]=G at *
  obtain ⟨v3,v4,v5,v6,v7,v8,rfl,-,-,y3,y4,y5,y6,y7,y8⟩:=hgx;obtain ⟨o3,d3,rfl,-⟩:=y3.form;obtain ⟨o5,d5,rfl,-⟩:=y5.form;have g3:=hgj 3 zd zd;have g5:=hgj 5 zd zd;simp only [gZ,gS] at g3 g5;have HPX:=Hi y5;have HXI:=Hi (show L[i]?=some x/\i<n/\x<n/\gl[x]?=some G from ⟨by rw [gE hiL,hx],hin,hxn,hgl⟩);have f1:=FB.o.cell 1;simp only [gA,gZ,gS] at f1;rw [hag] at f1;have F1:∀ W,Mod [] wr W->W.cell? ⟨fb,1,none⟩=some (.slice (some ag) n fg.c):=λW m=>aj (T4.o.mod.then m) f1
  have G3:∀ W,Mod [] wr W->W.cell? ⟨(ag.add (x*9)).block,(ag.add (x*9)).off+3,none⟩=some (.slice o3 G.pts.length d3):=λW m=>aj (T4.o.mod.then m) g3
  have P8:=(T4.o.at 3 rfl).every;have q2:(0:Int)<=x:=zo;have q3:(x:Int)<n:=zo;have HF1:=Hi f1;have HG5:=Hi g5;clear hx hiL hin hxi hc0 hxn hxg hag hg0 hgj hgl y3 y4 y5 y6 y7 y8 g3 g5 f1;go_upto_region 9 with fail;clear c0;refine ak 11 [true,true,true,true,true,true,true,true,true,true,true] [] zt zt zk ?_;simp only [aQ]
  iterate 11
   refine sv ?_
  refine au ?_;refine aB (λw' hw' _=>?_);simp only [qS,qZ];have T5:=Hi ((T4.o.call hw').set 2 rfl x (.int .i64 (G.pts.length:Int)));have c0:=((T4.o.call hw').at 2 rfl).cell x;rw [eL _ HXI.o.2.2.1] at c0;have f0:=((T4.o.call hw').at 2 rfl).frozen x;rw [iY] at T5;simp only [List.set_cons_zero,List.set_cons_succ] at T5;have hpd:Cp.part L i D=Cp.upd (Cp.part L i D) x 0:=by
   funext g
   unfold Cp.upd
   by_cases hg:g=x
   ·rw [if_pos hg,hg];have h1:=gI.1 HXI.o.1;have h2:=Cp.yz HOK.o.1 h1.1 D;rw [h1.2] at h2;exact h2
   ·rw [if_neg hg]
  rw [hpd] at T5;have HPL:Hy (G.parts.length<=100/\(∀ p∈G.parts,eU n p.glyph=true)/\own x=G.pts.length):=⟨HN.o.2.1 G (List.mem_of_getElem? HXI.o.2.2.2),by rw [HNN.o];exact HN.o.2.2.2 G (List.mem_of_getElem? HXI.o.2.2.2),HE.o.2.1 x G HXI.o.2.2.2⟩
  have G5:=aj T5.o.mod HG5.o;have f1:=aj T5.o.mod HF1.o;clear F1 G3 P8 hw' hpd;go_upto_region 10 with fail;clear c0 f0;generalize w'.setCell _ _=w5 at *
  go_wp2_with fail;clear G5 f1;obtain ⟨pn,hpn⟩:∃ pn,pn=G.parts.length:=⟨_,rfl⟩
  rw [<- hpn];have HPN:=Hi hpn;clear hpn;have T6:Hy (Own w2 w5 [(db,eR n (Cp.upd (Cp.part L i D) x (((G.parts.take 0).map λp=>p.glyph.toNat).foldl (Cp.ko D) 0)),3),(db+1,#[.slice (some ⟨db,0,none⟩) n n],22),(db+2,eR n (Cp.upd (Cp.part L i Q) x (((G.parts.take 0).map λp=>p.glyph.toNat).foldl (Cp.km Q) (own x))),3),(db+3,#[.slice (some ⟨db+2,0,none⟩) n n],22)]):=by
   rw [HPL.o.2.2];exact T5.o
  clear T5 T4
  go_loopg [55] pn (λgk v55 wr=>∃ k:Nat,v55=.int .i64 (k:Int)/\Hy (k+gk=pn)/\Hy (Own w2 wr [(db,eR n (Cp.upd (Cp.part L i D) x (((G.parts.take k).map λp=>p.glyph.toNat).foldl (Cp.ko D) 0)),3),(db+1,#[.slice (some ⟨db,0,none⟩) n n],22),(db+2,eR n (Cp.upd (Cp.part L i Q) x (((G.parts.take k).map λp=>p.glyph.toNat).foldl (Cp.km Q) (own x))),3),(db+3,#[.slice (some ⟨db+2,0,none⟩) n n],22)]))
  case atStart=>exact ⟨0,rfl,by show 0+pn=pn;omega,T6.o⟩
  case round =>
   obtain ⟨k,rfl,hk,T7⟩:=hrel;clear T6
   by_cases hkn:k<pn
   case neg =>
    obtain rfl:pn=k:=by have:=hk.o;omega
    have k5:=dF (p:=(pn:Int)<pn) zo;have hpo:Ln.partsOf gl x=(G.parts.take pn).map λp=>p.glyph.toNat:=by
     rw [Ln.jy HXI.o.2.2.2,HPN.o,List.take_length];exact tz (by rw [<- HNN.o];exact HPL.o.2.1)
    have hxg2:x<gl.length:=by rw [<- HNN.o];exact HXI.o.2.2.1
    have eD:=HE.o.1.deep x hxg2;have eQ:=HE.o.1.pts x hxg2;rw [hpo] at eD eQ;rw [<- eD,<- eQ] at T7;have h1:=gI.1 HXI.o.1;have sD:=Cp.qy D h1.1;have sQ:=Cp.qy Q h1.1;rw [h1.2] at sD sQ;rw [<- sD,<- sQ] at T7;have HT8:=Hi T7.o;have ei:IntKind.i64.wrap ((i:Int)+1)=(i:Int)+1:=IntWalk.i64_in _ (by have:=HXI.o.2.1;have:=HN1.o;omega);clear hpo hxg2 eD eQ h1 sD sQ T7 hkn;go_wp2;go_roundg (n - (i+1))
    case measure=>have:=hi.o;have:=HXI.o.2.1;omega
    case rel=>exact ⟨i+1,by rw [Int.natCast_add];rfl,by have:=HXI.o.2.1;show i+1+(n - (i+1))=n;omega,HT8.o⟩
   have k5:=dT (p:=(k:Int)<pn) zo;have k6:(0:Int)<=k:=zo;have k7:(k:Int)<pn:=zo;have k8:=dT (p:=k<pn) hkn;have hkl:k<G.parts.length:=by rw [<- HPN.o];exact hkn
   have y5:=HPX.o;rw [<- HPN.o] at y5;obtain ⟨pa,rfl,-,cp,-,hp0,hpj,hpx⟩:=(y5.mod eE.stay T7.o.mod).at k hkl;have hpin:=HPL.o.2.1 _ (List.getElem_mem hkl);have sD:=pv (Cp.ko D) (λp:cK=>p.glyph.toNat) 0 G.parts hkl;have sQ:=pv (Cp.km Q) (λp:cK=>p.glyph.toNat) (own x) G.parts hkl;have hpm:G.parts[k].glyph.toNat∈Ln.partsOf gl x:=by
    rw [Ln.jy HXI.o.2.2.2,tz (by rw [<- HNN.o];exact HPL.o.2.1)];exact mM (f:=λp:cK=>p.glyph.toNat) (List.getElem_mem hkl)
   generalize G.parts[k]=p at *
   obtain ⟨rfl,-,-,-⟩:=hpx;have d0:=hp0 zd;have d1:=hpj 1 zd zd;have d2:=hpj 2 zd zd;simp only [gZ,gS] at d0 d1 d2
   obtain ⟨q,hq⟩:∃ q:Nat,p.glyph=(q:Int):=⟨p.glyph.toNat,by
    unfold eU at hpin;simp only [Bool.and_eq_true,decide_eq_true_eq] at hpin
    omega⟩
   have hqn:q<n:=by
    unfold eU at hpin;simp only [Bool.and_eq_true,decide_eq_true_eq] at hpin;omega
   have hqt:p.glyph.toNat=q:=zo;rw [hqt] at sD sQ hpm;have h1:=gI.1 HXI.o.1;have hqx:q≠x:=by have h2:=Cp.CU HOK.o.1 h1.1 (p:=q) (by rw [h1.2];exact hpm);rw [h1.2] at h2;exact h2
   have pD:Cp.part L i D q=D q:=Cp.qz HOK.o.1 h1.1 (by rw [h1.2];exact hpm) D;have pQ:Cp.part L i Q q=Q q:=Cp.qz HOK.o.1 h1.1 (by rw [h1.2];exact hpm) Q;have bD:=tC HE.o.2.2.1 ((G.parts.take k).map λp=>p.glyph.toNat) 0 zo;have bQ:=tB (Q:=Q) (c:=1000000) zo ((G.parts.take k).map λp=>p.glyph.toNat) (own x) (HE.o.2.2.2.2 x);have HS:=Hi (And.intro sD (And.intro sQ (And.intro hqn (And.intro hqx (And.intro pD (And.intro pQ (And.intro bD (And.intro bQ hkn))))))));have bDq:=HE.o.2.2.1 q;have bQq:=HE.o.2.2.2.1 q;obtain ⟨dx,hdx⟩:∃ dx,dx=((G.parts.take k).map λp=>p.glyph.toNat).foldl (Cp.ko D) 0:=⟨_,rfl⟩
   obtain ⟨qx,hqx2⟩:∃ qx,qx=((G.parts.take k).map λp=>p.glyph.toNat).foldl (Cp.km Q) (own x):=⟨_,rfl⟩
   rw [<- hdx,<- hqx2] at T7;rw [<- hdx] at bD;rw [<- hqx2] at bQ;have HDX:=Hi (And.intro hdx hqx2);obtain ⟨dq,hdq⟩:∃ dq,dq=D q:=⟨_,rfl⟩
   obtain ⟨qq,hqq⟩:∃ qq,qq=Q q:=⟨_,rfl⟩
   rw [<- hdq] at bDq;rw [<- hqq] at bQq;have HDQ:=Hi (And.intro hdq hqq);have ek:IntKind.i64.wrap ((k:Int)+1)=(k:Int)+1:=IntWalk.i64_in _ (by have:=HPL.o.1;have:=HPN.o;omega);obtain ⟨mb,hmb⟩:∃ mb:Int,mb=(dq:Int)+1:=⟨_,rfl⟩
   obtain ⟨mx,hmx⟩:∃ mx,mx=max dx (dq+1):=⟨_,rfl⟩
   obtain ⟨nb,hnb⟩:∃ nb:Int,nb=(qx:Int)+(qq:Int):=⟨_,rfl⟩
   obtain ⟨mn,hmn⟩:∃ mn,mn=min (qx+qq) 1001:=⟨_,rfl⟩
   have e1:IntKind.i64.wrap ((dq:Int)+1)=mb:=by rw [hmb];exact IntWalk.i64_in _ zo
   have e2:IntKind.i64.wrap ((qx:Int)+(qq:Int))=nb:=by rw [hnb];exact IntWalk.i64_in _ zo
   have e3:(if (dx:Int)<mb then mb else (dx:Int))=(mx:Int):=by rw [hmb,hmx];split <;> omega
   have e4:(if (1001:Int)<nb then (1001:Int) else nb)=(mn:Int):=by rw [hnb,hmn];split <;> omega
   have HMX:=Hi (And.intro hmx hmn);have HNE:Hy (wr.heap.size≠db):=by have h1:=T7.o.lt 0 rfl;show wr.heap.size≠db;omega
   have BX:=Hi (Blk.new wr #[.int .i64 p.glyph,.int .i64 p.x,.int .i64 p.y] 69);have T8:=Hi (T7.o.call ((Mod.refl [] wr).alloc (.cells #[.int .i64 p.glyph,.int .i64 p.x,.int .i64 p.y] 69)));rw [hq] at BX d0 T8;have HQ:=Hi hq;clear hkn hkl y5 hp0 hpj hpin sD sQ hpm hqn hqt h1 hqx pD pQ bD bQ bDq bQq hdx hqx2 hdq hqq T7 hmb hmx hnb hmn;go_upto_region 13 with fail;clear d0 d1 d2 hq;generalize wr.alloc (.cells #[.int .i64 (q:Int),.int .i64 p.x,.int .i64 p.y] 69)=W1 at *
   generalize wr.heap.size=b12 at *
   have A7:=(T8.o.at 1 rfl).every;have B0:=BX.o.every;have ADx:∀ W,Mod [] W1 W->W.cell? ⟨db,x,none⟩=some (.int .i64 (dx:Int)):=λW m=>by
    rw [(T8.o.at 0 rfl).every W m x,eL _ HXI.o.2.2.1,Cp.upd_same]
   have ADq:∀ W,Mod [] W1 W->W.cell? ⟨db,q,none⟩=some (.int .i64 (dq:Int)):=λW m=>by
    rw [(T8.o.at 0 rfl).every W m q,eL _ HS.o.2.2.1,Cp.qe _ _ HS.o.2.2.2.1,HS.o.2.2.2.2.1,HDQ.o.1]
   have q4:(0:Int)<=q:=zo;have q5:(q:Int)<n:=by have:=HS.o.2.2.1;omega
   refine ak 14 [true,true,true,true,true,true,true,true,true,true,true,true,true,true] [] zt zt zk ?_;simp only [aQ]
   iterate 14
    refine sv ?_
   refine au ?_;refine aB (λw' hw' _=>?_);simp only [qS,qZ];have T9:=Hi ((T8.o.call hw').set 0 rfl x (.int .i64 (mx:Int)));have c0:=((T8.o.call hw').at 0 rfl).cell x;rw [eL _ HXI.o.2.2.1] at c0;have f0:=((T8.o.call hw').at 0 rfl).frozen x;rw [iY,Cp.wY] at T9;simp only [List.set_cons_zero] at T9;have BX2:=Hi ((BX.o.kept hw' zk));rw [Cp.upd_same] at c0;clear A7 B0 ADx ADq hw' BX T8;go_upto_region 14 with fail;clear c0 f0;have BX3:=Hi (BX2.o.other (a:=⟨db,x,none⟩) (λe=>HNE.o e.symm) (.int .i64 (mx:Int)));generalize w'.setCell _ _=W2 at *
   have A8:=(T9.o.at 3 rfl).every;have B0:=BX3.o.every;have AQx:∀ W,Mod [] W2 W->W.cell? ⟨db+2,x,none⟩=some (.int .i64 (qx:Int)):=λW m=>by
    rw [(T9.o.at 2 rfl).every W m x,eL _ HXI.o.2.2.1,Cp.upd_same]
   have AQq:∀ W,Mod [] W2 W->W.cell? ⟨db+2,q,none⟩=some (.int .i64 (qq:Int)):=λW m=>by
    rw [(T9.o.at 2 rfl).every W m q,eL _ HS.o.2.2.1,Cp.qe _ _ HS.o.2.2.2.1,HS.o.2.2.2.2.2.1,HDQ.o.2]
   refine ak 14 [true,true,true,true,true,true,true,true,true,true,true,true,true,true] [] zt zt zk ?_;simp only [aQ]
   iterate 14
    refine sv ?_
   refine au ?_;refine aB (λw'' hw'' _=>?_);simp only [qS,qZ];have T10:=Hi ((T9.o.call hw'').set 2 rfl x (.int .i64 (mn:Int)));have c0:=((T9.o.call hw'').at 2 rfl).cell x;rw [eL _ HXI.o.2.2.1,Cp.upd_same] at c0;have f0:=((T9.o.call hw'').at 2 rfl).frozen x;rw [iY,Cp.wY] at T10;simp only [List.set_cons_zero,List.set_cons_succ] at T10;have fD:mx=((G.parts.take (k+1)).map λp=>p.glyph.toNat).foldl (Cp.ko D) 0:=by rw [HS.o.1,<- HDX.o.1,HMX.o.1,HDQ.o.1];rfl
   have fQ:mn=((G.parts.take (k+1)).map λp=>p.glyph.toNat).foldl (Cp.km Q) (own x):=by rw [HS.o.2.1,<- HDX.o.2,HMX.o.2,HDQ.o.2];rfl
   have HF:=Hi (And.intro fD fQ);clear A8 B0 AQx AQq hw'' BX3 T9 BX2 fD fQ;go_wp2;go_roundg (pn - (k+1))
   case measure=>have:=hk.o;have:=HS.o.2.2.2.2.2.2.2.2;omega
   case rel=>exact ⟨k+1,by rw [Int.natCast_add];rfl,by have:=HS.o.2.2.2.2.2.2.2.2;show k+1+(pn - (k+1))=pn;omega,by rw [<- HF.o.1,<- HF.o.2];exact T10.o⟩
namespace Lf
structure S where
 way:List (Nat×Nat)
 met:Nat->Bool
 told:List Nat
def eU (n:Nat) (g:Int):Bool:=decide (0<=g) && decide (g<n)
def enter (n:Nat) (g:Int) (s:S):S:=if eU n g && !s.met g.toNat then ⟨s.way++[(g.toNat,0)],λq=>if q=g.toNat then true else s.met q,s.told⟩ else s
def step (n:Nat) (P:Nat->List Int) (g k:Nat) (ws:List (Nat×Nat)) (s:S):S :=
 if k=(P g).length then ⟨ws,s.met,s.told++[g]⟩ else enter n ((P g).getD k 0) ⟨ws++[(g,k+1)],s.met,s.told⟩
inductive Run (n:Nat) (P:Nat->List Int):S->S->Prop
 | done {s:S}:s.way=[]->Run n P s s
 | step {s t:S} {g k:Nat} {ws:List (Nat×Nat)}:s.way=ws++[(g,k)]->Run n P (step n P g k ws s) t->Run n P s t
inductive Goes (n:Nat) (P:Nat->List Int):Nat->S->Prop
 | start:Goes n P 0 ⟨[],λ_=>false,[]⟩
 | next {i:Nat} {s t:S}:Goes n P i s->i<n->Run n P (enter n (i:Int) s) t->Goes n P (i+1) t
theorem Run.det {n:Nat} {P:Nat->List Int} {s t:S} (h:Run n P s t):∀ {t'},Run n P s t'->t=t':=by
 induction h with
 | done h0 =>
  intro t' h';cases h' with
  | done=>rfl
  | step h1=>rw [h0] at h1;simp at h1
 | step h0 _ ih =>
  intro t' h';cases h' with
  | done h1=>rw [h1] at h0;simp at h0
  | step h1 h2 =>
   rw [h0] at h1;obtain ⟨rfl,h3⟩:=List.append_inj' h1 rfl;simp only [List.cons.injEq,and_true,Prod.mk.injEq] at h3;obtain ⟨rfl,rfl⟩:=h3;exact ih h2
theorem Goes.det {n:Nat} {P:Nat->List Int} {i:Nat} {s:S} (h:Goes n P i s):∀ {s'},Goes n P i s'->s=s':=by
 induction h with
 | start=>intro s' h';cases h';rfl
 | next _ _ h2 ih =>
  intro s' h';cases h' with
  | next h3 _ h4=>have:=ih h3;subst this;exact h2.det h4
structure Ok (n:Nat) (P:Nat->List Int) (s:S):Prop where
 lt:∀ x∈s.way,x.1<n/\x.2<=(P x.1).length
 tl:∀ x∈s.told,x<n
def debt (P:Nat->List Int) (met:Nat->Bool) (g:Nat):Nat:=cond (met g) 0 (2+(P g).length)
def owed (n:Nat) (P:Nat->List Int) (met:Nat->Bool):Nat:=((List.range n).map (debt P met)).sum
def left (P:Nat->List Int) (way:List (Nat×Nat)):Nat:=(way.map λx=>(P x.1).length - x.2+1).sum
def mu (n:Nat) (P:Nat->List Int) (s:S):Nat:=owed n P s.met+left P s.way
theorem j6 (P:Nat->List Int) (way:List (Nat×Nat)) (g k:Nat):left P (way++[(g,k)])=left P way+((P g).length - k+1):=by
 unfold left;rw [List.map_append,List.sum_append];simp
theorem yA {n:Nat} {P:Nat->List Int} {met:Nat->Bool} {g:Nat} (hg:g<n) (hm:met g=false):owed n P met=owed n P (λq=>if q=g then true else met q)+(2+(P g).length):=by
 have h1:debt P met g=2+(P g).length:=by unfold debt;rw [hm];rfl
 have h2:debt P (λq=>if q=g then true else met q) g=0:=by unfold debt;simp
 have h3:∀ q,q≠g->debt P (λq=>if q=g then true else met q) q=debt P met q:=λq hq=>by unfold debt;simp [hq]
 unfold owed
 induction n with
 | zero=>omega
 | succ n ih =>
  rw [List.range_succ,List.map_append,List.map_append,List.sum_append,List.sum_append];simp only [List.map_cons,List.map_nil,List.sum_cons,List.sum_nil,Nat.add_zero]
  by_cases h:g=n
  ·subst h;rw [h1,h2,List.map_congr_left λq hq=>h3 q (by have:=List.mem_range.1 hq;omega)];omega
  ·rw [h3 n (λe=>h e.symm)];have:=ih zo;omega
theorem tG {n:Nat} {P:Nat->List Int} (g:Int) (s:S):mu n P (enter n g s)<=mu n P s:=by
 unfold enter
 split
 ·rename_i h;simp only [Bool.and_eq_true,Bool.not_eq_true',eU,decide_eq_true_eq] at h;unfold mu;rw [j6,yA (P:=P) (g:=g.toNat) (met:=s.met) (n:=n) zo h.2];simp only;omega
 ·exact nR _
theorem tF {n:Nat} {P:Nat->List Int} (g:Int) {s:S} (h:Ok n P s):Ok n P (enter n g s):=by
 unfold enter
 split
 ·rename_i hh;simp only [Bool.and_eq_true,Bool.not_eq_true',eU,decide_eq_true_eq] at hh;refine ⟨λx hx=>?_,h.tl⟩;rcases List.mem_append.1 hx with hx | hx
  ·exact h.lt x hx
  ·rw [mI.1 hx];exact ⟨by show g.toNat<n;omega,Nat.zero_le _⟩
 ·exact h
theorem rk {n:Nat} {P:Nat->List Int} {s:S} {g k:Nat} {ws:List (Nat×Nat)} (h:Ok n P s) (hw:s.way=ws++[(g,k)]):mu n P (step n P g k ws s)<mu n P s:=by
 unfold step
 split
 ·rename_i hk;unfold mu;rw [hw,j6];simp only;omega
 ·rename_i hk;have h1:=h.lt (g,k) (by rw [hw];simp);refine Nat.lt_of_le_of_lt (tG _ _) ?_;unfold mu;rw [hw,j6,j6];have:=h1.2;simp only at this ⊢;omega
theorem step_ok {n:Nat} {P:Nat->List Int} {s:S} {g k:Nat} {ws:List (Nat×Nat)} (h:Ok n P s) (hw:s.way=ws++[(g,k)]):Ok n P (step n P g k ws s):=by
 have h1:=h.lt (g,k) (by rw [hw];simp);unfold step
 split
 ·refine ⟨λx hx=>h.lt x (by rw [hw];exact List.mem_append_left _ hx),λx hx=>?_⟩;rcases List.mem_append.1 hx with hx | hx
  ·exact h.tl x hx
  ·rw [mI.1 hx];exact h1.1
 ·rename_i hk;refine tF _ ⟨λx hx=>?_,h.tl⟩;rcases List.mem_append.1 hx with hx | hx
  ·exact h.lt x (by rw [hw];exact List.mem_append_left _ hx)
  ·rw [mI.1 hx];have h2:k<=(P g).length:=h1.2;exact ⟨h1.1,by show k+1<=(P g).length;omega⟩
theorem pB (n:Nat) (g:Int) (s:S):(enter n g s).told=s.told:=by unfold enter;split <;> rfl
theorem xJ (n:Nat) (P:Nat->List Int) (g k:Nat) (ws:List (Nat×Nat)) (s:S):(step n P g k ws s).told.length<=s.told.length+1:=by
 unfold step
 split
 ·simp
 ·rw [pB];simp
theorem zJ (P:Nat->List Int):∀ way:List (Nat×Nat),way.length<=left P way
 | []=>nR _
 | x::r=>by
  have:=zJ P r;unfold left at *
  simp only [List.map_cons,List.sum_cons,List.length_cons];omega
theorem C9 {P:Nat->List Int} {c:Nat} (hP:∀ g,(P g).length<=c) (n:Nat) (met:Nat->Bool):owed n P met<=n*(2+c):=by
 unfold owed
 induction n with
 | zero=>simp
 | succ n ih =>
  rw [List.range_succ,List.map_append,List.sum_append,Nat.add_mul,Nat.one_mul];simp only [List.map_cons,List.map_nil,List.sum_cons,List.sum_nil,Nat.add_zero];have h1:debt P met n<=2+c:=by
   unfold debt;have:=hP n;cases met n <;> simp;omega
  omega
structure Few (n:Nat) (P:Nat->List Int) (c:Nat) (s:S):Prop where
 ok:Ok n P s
 few:s.told.length+mu n P s<=c
theorem Few.start {n:Nat} {P:Nat->List Int} {c:Nat} (hP:∀ g,(P g).length<=c):Few n P (n*(2+c)) ⟨[],λ_=>false,[]⟩ :=
 ⟨⟨λx hx=>(by cases hx),λx hx=>(by cases hx)⟩,by have:=C9 hP n (λ_=>false);unfold mu left;simp;omega⟩
theorem Few.enter {n:Nat} {P:Nat->List Int} {c:Nat} {s:S} (h:Few n P c s) (g:Int):Few n P c (enter n g s) :=
 ⟨tF g h.ok,by rw [pB];have:=tG (n:=n) (P:=P) g s;have:=h.few;omega⟩
theorem Few.step {n:Nat} {P:Nat->List Int} {c:Nat} {s:S} {g k:Nat} {ws:List (Nat×Nat)} (h:Few n P c s) (hw:s.way=ws++[(g,k)]):Few n P c (step n P g k ws s) :=
 ⟨step_ok h.ok hw,by have:=xJ n P g k ws s;have:=rk h.ok hw;have:=h.few;omega⟩
theorem Few.told {n:Nat} {P:Nat->List Int} {c:Nat} {s:S} (h:Few n P c s):s.told.length<=c:=by have:=h.few;omega
theorem Few.way {n:Nat} {P:Nat->List Int} {c:Nat} {s:S} (h:Few n P c s):s.way.length<=c:=by have h1:=h.few;have h2:=zJ P s.way;unfold mu at h1;omega
end Lf
theorem Bo:(Tryz.prog.info? 238).map (λi=>(i.zero,i.size,i.bytes))=some (some (.agg #[.int .i64 0,.int .i64 0]),2,16):=by kernel_rfl
theorem AH {w:World} {base g c n i k:Nat} {e:TypeId} {xs:List Value} (h:w.ownsRow base e k (.slice (some ⟨g,0,none⟩) n c) n xs) (u:Value) :
  (w.setCell ⟨g,i,none⟩ u).ownsRow base e k (.slice (some ⟨g,0,none⟩) n c) n (xs.set i u):=by
 refine ⟨by rw [List.length_set];exact h.1,?_⟩;rcases h.2 with ⟨hv,-⟩ | ⟨g',cap,cur,hv,hb,hg,hc,hm,hs,ht⟩
 ·cases hv
 ·cases hv;refine .inr ⟨g,c,cur.setIfInBounds i u,rfl,hb,Blk.set (w:=w) hg i u,hc,hm,by rw [Array.size_setIfInBounds];exact hs,?_⟩;rw [Array.toList_setIfInBounds,List.take_set,ht]
theorem AJ {w:World} {base n m c k:Nat} {oa:Option Addr} {e:TypeId} {xs:List Value} (h:w.ownsRow base e k (.slice oa n c) n xs) (hm:m<=n) :
  w.ownsRow base e k (.slice oa m c) m (xs.take (m*k)):=by
 have hl:=h.1;have hmk:m*k<=n*k:=Nat.mul_le_mul_right _ hm;refine ⟨by rw [List.length_take];omega,?_⟩;rcases h.2 with ⟨hv,hn⟩ | ⟨g',cap,cur,hv,hb,hg,hc,hm',hs,ht⟩
 ·cases hv;obtain rfl:m=0:=zo;exact .inl ⟨rfl,rfl⟩
 ·cases hv;refine .inr ⟨g',c,cur,rfl,hb,hg,by omega,hm',hs,?_⟩;rw [<- ht,List.take_take]
  congr 1;omega
theorem rp {w:World} {base g n c k:Nat} {e:TypeId} {xs:List Value} (h:w.ownsRow base e k (.slice (some ⟨g,0,none⟩) n c) n xs) {i:Nat} (hi:i<n*k):w.cell? ⟨g,i,none⟩=xs[i]?:=by
 rcases h.2 with ⟨hv,-⟩ | ⟨g',cap,cur,hv,hb,hg,hc,hm,hs,ht⟩
 ·cases hv
 ·cases hv;have hB:Blk w g cur e:=hg;rw [hB.cell,<- ht,List.getElem?_take,if_pos zo];simp
def stops (l:List (Nat×Nat)):List Value:=l.flatMap λx=>[.int .i64 (x.1:Int),.int .i64 (x.2:Int)]
theorem gR (l:List (Nat×Nat)):(stops l).length=l.length*2:=by
 unfold stops
 induction l with
 | nil=>rfl
 | cons a r ih=>rw [List.flatMap_cons,List.length_append,ih];simp;omega
theorem iA (l:List (Nat×Nat)) (g k:Nat):stops (l++[(g,k)])=stops l++[.int .i64 (g:Int),.int .i64 (k:Int)]:=by unfold stops;rw [List.flatMap_append];simp
theorem Aj {base b c:Nat} {t ty:TypeId} {v:Value} {l:List (Nat×Nat)} {w:World} {g k:Nat} (ht:Tryz.prog.underlying t=some (.slice 238)) (h:w.ownsRow base 238 2 v l.length (stops l)) (hB:Blk w b #[.int .i64 (g:Int),.int .i64 (k:Int)] 238)
  (hn:l.length<=1000000) (hbase:base<=w.heap.size):∃ v' w',(Builtin.append_ #[t,t] ty #[v,.slice (some ⟨b,0,none⟩) 1 c]).run Tryz.prog w=.ok v' w' /\
   w'.ownsRow base 238 2 v' (l.length+1) (stops (l++[(g,k)]))/\w.grownBy w' v.ownBlock/\(v'.ownBlock=v.ownBlock∨v'.ownBlock=some w.heap.size):=by
 obtain ⟨i0,hi,hz0,hz1,hz2⟩:=info_parts Bo;have hnews:∀ (j:Nat) (u:Value),[Value.int .i64 (g:Int),Value.int .i64 (k:Int)][j]?=some u->w.cell? ((⟨b,0,none⟩:Addr).add j)=some u:=λj u hu=>by
  have e1:(⟨b,0,none⟩:Addr).add j=⟨b,j,none⟩:=by unfold Addr.add;split <;> simp_all
  rw [e1,hB.cell,<- hu];simp
 have one:∀ u∈[Value.int .i64 (g:Int),Value.int .i64 (k:Int)],u.oneCell'=true:=λu hu=>by
  simp only [List.mem_cons,List.not_mem_nil,or_false] at hu;rcases hu with rfl | rfl <;> rfl
 obtain ⟨v',w',hr,h2,h3,_⟩:=run_append_own (P:=Tryz.prog) w base t ty 238 i0 _ 2 16 ht hi hz0 hz1 hz2 rfl zd v l.length (stops l) h ⟨b,0,none⟩ 1 c [.int .i64 (g:Int),.int .i64 (k:Int)] rfl hnews one zqy zo hbase;have hbk:=fR (P:=Tryz.prog) t ty 238 i0 _ 2 16 ht hi hz0 hz1 hz2 rfl v l.length (stops l) h ⟨b,0,none⟩ 1 c [.int .i64 (g:Int),.int .i64 (k:Int)] rfl hnews one zqy zo hr;refine ⟨v',w',hr,?_,h3,hbk⟩;rw [iA];exact h2
theorem tP {base b c:Nat} {t:TypeId} {v:Value} {l:List (Nat×Nat)} {w:World} {g k:Nat} {ops:Array Oper} {rest:List Oper} {o:Oper} {a:Act} {Q:Exit->Act->World->Prop} (hgd:o.guard=none) (s x:Operand)
  (ho:o.op=.call { callee:=.builtin .append,args:=#[s,x],argTypes:=#[t,t] }) (ht:Tryz.prog.underlying t=some (.slice 238)) (hs:a.eval s=v) (h:w.ownsRow base 238 2 v l.length (stops l))
  (hx:a.eval x=.slice (some ⟨b,0,none⟩) 1 c) (hB:Blk w b #[.int .i64 (g:Int),.int .i64 (k:Int)] 238) (hn:l.length<=1000000) (hbase:base<=w.heap.size)
  (hK:∀ v' w',w'.ownsRow base 238 2 v' (l.length+1) (stops (l++[(g,k)]))->w.grownBy w' v.ownBlock->(v'.ownBlock=v.ownBlock∨v'.ownBlock=some w.heap.size)->wpList Tryz.prog ops Q rest (a.put o.dst v') w'):wpList Tryz.prog ops Q (o::rest) a w:=by
 obtain ⟨v',w',hr,h2,h3,h4⟩:=Aj (ty:=o.type) (c:=c) ht h hB hn hbase;refine wpList_plain hgd λK hKK=>?_
 unfold Oper.wp execOp;simp only [ho,resolve,invoke,builtin,Sem.run_bind,Sem.run_pure,Result.andThen_ok,List.map_toArray,List.map_cons,List.map_nil,hs,hx,hr];exact hKK _ _ (hK v' w' h2 h3 h4)
structure LfS (W:World) (N:Nat) (fc:Array Value) (s:Lf.S) (wv tv:Value) (w:World):Prop where
 hN:N=W.heap.size
 mod:Mod [] W w
 font:Blk w N fc 32
 mbx:Blk w (N+2) #[.map (some (N+1))] 221
 wbx:Blk w (N+3) #[wv] 236
 met:∃ m,Gm.cJ (Value.int .i64) w (N+1) m/\∀ g:Nat,(Gm.look m (g:Int)).getD (.bool false)=.bool (s.met g)
 wrow:w.ownsRow (N+4) 238 2 wv s.way.length (stops s.way)
 trow:w.ownsRow (N+4) 3 1 tv s.told.length (ints (nats s.told))
 ne:wv.ownBlock=none∨wv.ownBlock≠tv.ownBlock
 base:N+4<=w.heap.size
section
variable {W:World} {N:Nat} {fc:Array Value} {s:Lf.S} {wv tv:Value} {w w':World}
theorem je {base:Nat} {e:TypeId} {k n:Nat} {v:Value} {xs:List Value} {F:List Nat} (h:w.ownsRow base e k v n xs) (m:Mod F w w') (hF:∀ b∈F,v.ownBlock≠some b):w'.ownsRow base e k v n xs:=by
 refine ⟨h.1,?_⟩;rcases h.2 with hh | ⟨g,cap,cur,hv,hbg,hg,h3⟩
 ·exact .inl hh
 ·refine .inr ⟨g,cap,cur,hv,hbg,?_,h3⟩;have hob:v.ownBlock=some g:=by rw [hv];rfl
  rw [m.block g (h.lt g hob).2 λhm=>hF g hm hob];exact hg
theorem LfS.step (h:LfS W N fc s wv tv w) (m:Mod [] w w'):LfS W N fc s wv tv w':=by
 obtain ⟨m1,hm1,hm2⟩:=h.met;exact ⟨h.hN,h.mod.then m,h.font.kept m zk,h.mbx.kept m zk,h.wbx.kept m zk,⟨m1,hm1.mod m zk,hm2⟩,gw h.wrow m,gw h.trow m,h.ne,nT h.base m.size⟩
theorem LfS.wge (h:LfS W N fc s wv tv w):∀ b,wv.ownBlock=some b->N+4<=b/\b<w.heap.size:=λb hb=>h.wrow.lt b hb
theorem LfS.tge (h:LfS W N fc s wv tv w):∀ b,tv.ownBlock=some b->N+4<=b/\b<w.heap.size:=λb hb=>h.trow.lt b hb
theorem LfS.meet (h:LfS W N fc s wv tv w) (g:Nat) {m:List (Int×Value)} (hm:Gm.cJ (Value.int .i64) w (N+1) m/\∀ g:Nat,(Gm.look m (g:Int)).getD (.bool false)=.bool (s.met g))
  (hG:Gm.cJ (Value.int .i64) w' (N+1) (Gm.put m (g:Int) (.bool true))) (k:Mod [N+1] w w'):LfS W N fc ⟨s.way,λq=>if q=g then true else s.met q,s.told⟩ wv tv w':=by
 have hN:=h.hN
 refine ⟨h.hN,h.mod.trans k (λb hb hlt=>by simp at hb;omega),h.font.kept k zk,h.mbx.kept k zk,h.wbx.kept k zk,⟨_,hG,λq=>?_⟩,
  je h.wrow k (λb hb e=>by have:=(h.wge b e).1;simp at hb;omega),je h.trow k (λb hb e=>by have:=(h.tge b e).1;simp at hb;omega),h.ne,nT h.base k.size⟩
 show _=Value.bool (if q=g then true else s.met q);rw [Gm.ly]
 by_cases hq:q=g
 ·rw [if_pos (by rw [hq]),if_pos hq];rfl
 ·rw [if_neg zo,if_neg hq];exact hm.2 q
theorem LfS.go {F:List Nat} (h:LfS W N fc s wv tv w) (way:List (Nat×Nat)) {v':Value} (k:Mod F w w') (hF:∀ x∈F,x=N+3∨wv.ownBlock=some x) (hr:Blk w' (N+3) #[v'] 236) (ho:w'.ownsRow (N+4) 238 2 v' way.length (stops way))
  (hb:v'.ownBlock=wv.ownBlock∨∃ g,v'.ownBlock=some g/\w.heap.size<=g):LfS W N fc ⟨way,s.met,s.told⟩ v' tv w':=by
 have hN:=h.hN;have ge:∀ x∈F,x=N+3∨N+4<=x:=λx hx=>(hF x hx).imp id λe=>(h.wge x e).1
 have nin:∀ k,k<N+3->k ∉ F:=λk hk hm=>by have:=ge k hm;omega
 obtain ⟨m1,hm1,hm2⟩:=h.met;refine ⟨h.hN,h.mod.trans k (λx hx hlt=>by have:=ge x hx;omega),h.font.kept k (nin _ zo),h.mbx.kept k (nin _ zo),hr,⟨m1,hm1.mod k (nin _ zo),hm2⟩,ho,je h.trow k (λb hb e=>?_),?_,nT h.base k.size⟩
 ·rcases hF b hb with h1 | h1
  ·have:=(h.tge b e).1;omega
  ·rcases h.ne with h2 | h2
   ·rw [h2] at h1;cases h1
   ·exact h2 (by rw [h1,e])
 ·rcases hb with hb | ⟨g,hb,hg⟩
  ·rw [hb];exact h.ne
  ·right;rw [hb];intro e;have:=(h.tge g e.symm).2;omega
theorem LfS.tell {F:List Nat} (h:LfS W N fc s wv tv w) (L:List Nat) {v':Value} (k:Mod F w w') (hF:∀ x∈F,tv.ownBlock=some x) (ho:w'.ownsRow (N+4) 3 1 v' L.length (ints (nats L)))
  (hb:v'.ownBlock=tv.ownBlock∨∃ g,v'.ownBlock=some g/\w.heap.size<=g):LfS W N fc ⟨s.way,s.met,L⟩ wv v' w':=by
 have hN:=h.hN;have ge:∀ x∈F,N+4<=x:=λx hx=>(h.tge x (hF x hx)).1
 have nin:∀ k,k<N+4->k ∉ F:=λk hk hm=>by have:=ge k hm;omega
 obtain ⟨m1,hm1,hm2⟩:=h.met;refine ⟨h.hN,h.mod.trans k (λx hx hlt=>by have:=ge x hx;omega),h.font.kept k (nin _ zo),h.mbx.kept k (nin _ zo),h.wbx.kept k (nin _ zo),⟨m1,hm1.mod k (nin _ zo),hm2⟩,je h.wrow k (λb hb e=>?_),ho,?_,nT h.base k.size⟩
 ·rcases h.ne with h2 | h2
  ·rw [h2] at e;cases e
  ·exact h2 (by rw [e,hF b hb])
 ·rcases hb with hb | ⟨g,hb,hg⟩
  ·rw [hb];exact h.ne
  ·cases hw:wv.ownBlock with
   | none=>exact .inl rfl
   | some b=>right;rw [hb];intro e;injection e with e;have:=(h.wge b hw).2;omega
theorem LfS.push (h:LfS W N fc s wv tv w) (g k:Nat) {v':Value} (hG:w'.ownsRow (N+4) 238 2 v' (s.way.length+1) (stops (s.way++[(g,k)]))) (gr:w.grownBy w' wv.ownBlock)
  (hb:v'.ownBlock=wv.ownBlock∨v'.ownBlock=some w.heap.size):LfS W N fc ⟨s.way++[(g,k)],s.met,s.told⟩ v' tv (w'.setCell ⟨N+3,0,none⟩ v'):=by
 have h5:=h.wbx.lt;have hbx:=h.wbx.kept (Mod.dQ gr) (λhm=>by have:=(h.wge _ zqq).1;omega);have hne:v'.ownBlock≠some (N+3):=λe=>by
  rcases hb with hb | hb
  ·have:=(h.wge (N+3) (by rw [<- hb,e])).1;omega
  ·rw [hb] at e;injection e with e;omega
 refine h.go (F:=(N+3)::wv.ownBlock.toList) (s.way++[(g,k)]) (((Mod.dQ gr).more λx hx _=>List.mem_cons_of_mem _ hx).setCell (p:=⟨N+3,0,none⟩) (λ_=>by simp) v') (λx hx=>?_) (hbx.set 0 v') ?_ (hb.imp id λe=>⟨_,e,nR _⟩)
 ·rcases List.mem_cons.1 hx with rfl | hx
  ·exact .inl rfl
  ·exact .inr (by simpa using hx)
 ·rw [List.length_append];refine hG.kept (row:=some (N+3)) ⟨rfl,rfl,rfl,by simp,λk hk hn=>Below.heap_setCell w' _ _ k (λhe=>hn (by rw [he]))⟩ (.inr hne)
end
theorem LfS.start (w:World) (fc:Array Value):LfS w w.heap.size fc ⟨[],λ_=>false,[]⟩ nK nK
  ((((w.alloc (.cells fc 32)).alloc (.map #[] 0)).alloc (.cells #[.map (some (w.heap.size+1))] 221)).alloc (.cells #[.slice none 0 0] 236)):=by
 have b0:=Blk.new w fc 32;have m0:Mod [] w (w.alloc (.cells fc 32)):=(Mod.refl [] w).alloc _;have s0:(w.alloc (.cells fc 32)).heap.size=w.heap.size+1:=by simp
 generalize w.alloc (.cells fc 32)=w0 at *
 have b1:=Gm.cJ.new (Value.int .i64) w0;have m1:Mod [] w0 (w0.alloc (.map #[] 0)):=(Mod.refl [] w0).alloc _;have s1:(w0.alloc (.map #[] 0)).heap.size=w.heap.size+2:=by simp;omega
 generalize w0.alloc (.map #[] 0)=w1 at *
 have b2:=Blk.new w1 #[.map (some (w.heap.size+1))] 221;have m2:Mod [] w1 (w1.alloc (.cells #[.map (some (w.heap.size+1))] 221)):=(Mod.refl [] w1).alloc _;have s2:(w1.alloc (.cells #[.map (some (w.heap.size+1))] 221)).heap.size=w.heap.size+3:=by simp;omega
 generalize w1.alloc (.cells #[.map (some (w.heap.size+1))] 221)=w2 at *
 have b3:=Blk.new w2 #[.slice none 0 0] 236;have m3:Mod [] w2 (w2.alloc (.cells #[.slice none 0 0] 236)):=(Mod.refl [] w2).alloc _;have s3:(w2.alloc (.cells #[.slice none 0 0] 236)).heap.size=w.heap.size+4:=by simp;omega
 generalize w2.alloc (.cells #[.slice none 0 0] 236)=w3 at *
 have z:∀ {a b c:World},Mod [] a b->Mod [] b c->Mod [] a c:=λh k=>h.then k
 rw [s0] at b1;rw [s1] at b2;rw [s2] at b3
 exact ⟨rfl,z m0 (z m1 (z m2 m3)),b0.kept (z m1 (z m2 m3)) zk,b2.kept m3 zk,b3,⟨[],b1.mod (z m2 m3) zk,λg=>by simp [Gm.look]⟩,
  World.ownsRow_nil _ _ 238 2,World.ownsRow_nil _ _ 3 1,.inl rfl,by omega⟩
theorem nZ (ws:List (Nat×Nat)) (g k:Nat):(stops (ws++[(g,k)]))[ws.length*2]?=some (.int .i64 (g:Int))/\(stops (ws++[(g,k)]))[ws.length*2+1]?=some (.int .i64 (k:Int)):=by
 rw [iA];constructor
 ·rw [List.getElem?_append_right zqu,gR,Nat.sub_self];rfl
 ·rw [List.getElem?_append_right zqu,gR,show ws.length*2+1 - ws.length*2=1 by omega];rfl
theorem xI (ws:List (Nat×Nat)) (g k j:Nat):(stops (ws++[(g,k)])).set (ws.length*2+1) (.int .i64 (j:Int))=stops (ws++[(g,j)]):=by
 rw [iA,iA,List.set_append_right _ _ zqu,gR,show ws.length*2+1 - ws.length*2=1 by omega];rfl
theorem vj (ws:List (Nat×Nat)) (g k:Nat):(stops (ws++[(g,k)])).take (ws.length*2)=stops ws:=by
 rw [iA,List.take_append_of_le_length zqu,List.take_of_length_le zqu]
def eI (gl:List av) (g:Nat):List Int:=match gl[g]? with | some x=>x.parts.map cK.glyph | none=>[]
theorem t8 {gl:List av} {g:Nat} {x:av} (h:gl[g]?=some x):eI gl g=x.parts.map cK.glyph:=by unfold eI;rw [h]
set_option maxRecDepth 100000 in
theorem qL {u:Int} {fg fc fl ff fx fr fn fv:Hd} {W:World} {N:Nat} {s:Lf.S} {wv tv:Value} (g:Int) (w:World) (h:LfS W N (af u fg fc fl ff fx fr fn fv) s wv tv w) (hl:s.way.length<=1000000) :
  Calls Tryz.prog 189 #[.int .i64 g,.pointer (some ⟨N,0,none⟩),.pointer (some ⟨N+2,0,none⟩),.pointer (some ⟨N+3,0,none⟩)] w λe w'=>e=.returned (.tuple #[])/\∃ wv',LfS W N (af u fg fc fl ff fx fr fn fv) (Lf.enter fg.n g s) wv' tv w':=by
 have H:=Hi h;have HL:=Hi hl;have z:=h.font;unfold af at z;have f0:=z.cell 0;have f1:=z.cell 1;have f2:=z.cell 2;have f3:=z.cell 3;have f4:=z.cell 4;have f5:=z.cell 5;have f6:=z.cell 6;have f7:=z.cell 7;have f8:=z.cell 8;simp only [gA,gZ,gS] at f0 f1 f2 f3 f4 f5 f6 f7 f8;have HX:=Hi (qg u fg fc fl ff fx fr fn fv g w);unfold af at HX;obtain ⟨b,hb⟩:∃ b,eU fg.n g=b:=⟨_,rfl⟩
 rw [hb] at HX;have HB:=Hi hb;clear h hl z hb;cases b with
 | false =>
  have HE:Hy (Lf.enter fg.n g s=s):=by
   show _=_;unfold Lf.enter;rw [show Lf.eU fg.n g=false from HB.o];rfl
  go_enter Tryz.func189,Tryz.ntmps189;go_wp2_with fail;refine HX.o.mono ?_;rintro e w1 ⟨rfl,m1⟩;have H1:=Hi (H.o.step m1);clear m1 HX H f0 f1 f2 f3 f4 f5 f6 f7 f8;go_wp2_with fail;refine bodyPost_end (results_none rfl _ _ _) rfl ?_;exact ⟨rfl,wv,by rw [HE.o];exact H1.o⟩
 | true =>
  obtain ⟨q,rfl⟩:∃ q:Nat,g=(q:Int):=⟨g.toNat,by
   have h6:=HB.o;unfold eU at h6;simp only [Bool.and_eq_true,decide_eq_true_eq] at h6
   omega⟩
  obtain ⟨mt,hmt⟩:∃ mt,s.met q=mt:=⟨_,rfl⟩
  have HMT:=Hi hmt;have hlk:∀ W1,Mod [] w W1->(Instr.lookup 221 (.map (some (N+1))) (.int .i64 (q:Int)) false).run Tryz.prog W1=.ok (.bool mt) W1:=λW1 m=>by
   obtain ⟨m1,hm1⟩:=(H.o.step m).met;have hz:∀ W:World,(zeroValue 4).run Tryz.prog W=.ok (.bool false) W:=λW=>by kernel_rfl
   have h6:=Gm.cH eG hm1.1 Tryz.underlying221 (hz W1) (q:Int) false;simp only [Bool.false_eq_true,if_false] at h6;rw [h6,hm1.2 q,hmt]
  clear hmt;go_enter Tryz.func189,Tryz.ntmps189;go_wp2_with fail;refine HX.o.mono ?_;rintro e w1 ⟨rfl,m1⟩;have H1:=Hi (H.o.step m1);have hlk1:=hlk w1 m1;clear m1 HX H f0 f1 f2 f3 f4 f5 f6 f7 f8 hlk;have c2:=H1.o.mbx.cell 0;have c3:=H1.o.wbx.cell 0;simp only [gA,gZ] at c2 c3;cases mt with
  | true =>
   have HE:Hy (Lf.enter fg.n (q:Int) s=s):=by
    show _=_;unfold Lf.enter;rw [Int.toNat_natCast,HMT.o];simp
   go_wp2_with fail;refine bodyPost_end (results_none rfl _ _ _) rfl ?_;exact ⟨rfl,wv,by rw [HE.o];exact H1.o⟩
  | false =>
   have HE:Hy (Lf.enter fg.n (q:Int) s=⟨s.way++[(q,0)],λy=>if y=q then true else s.met y,s.told⟩):=by
    show _=_;unfold Lf.enter;rw [Int.toNat_natCast,HMT.o,show Lf.eU fg.n (q:Int)=true from HB.o];rfl
   obtain ⟨m1,hm1⟩:=H1.o.met;obtain ⟨w4,hup,hG4,o1,o2,o3,o4,o5⟩:=Gm.iE eG hm1.1 Tryz.underlying221 (q:Int) (.bool true);have kk4:Mod [N+1] w1 w4:=⟨o1,o2,o3,by rw [o4];exact nR _,λq _ hn=>o5 q (λe=>hn (by rw [e];simp))⟩
   have H2:=Hi (H1.o.meet q hm1 hG4 kk4);have c4:=H2.o.wbx.cell 0;simp only [gA,gZ] at c4;have H3:=Hi (H2.o.step ((Mod.refl [] w4).alloc (.cells #[.int .i64 (q:Int),.int .i64 ((0:Nat):Int)] 238)));have HO:=Hi H3.o.wrow;have HBk:=Hi (Blk.new w4 #[.int .i64 (q:Int),.int .i64 ((0:Nat):Int)] 238);clear hm1 hG4 o1 o2 o3 o4 o5 kk4 H1;go_wp2_with (at_builtin;refine tP (base:=N+4) (v:=wv) (l:=s.way) (g:=q) (k:=0) rfl _ _ rfl Tryz.underlying236 rfl HO.o rfl HBk.o HL.o H3.o.base ?_);intro v9 w9 hG9 hg9 hb9;have hbx:=H3.o.wbx.kept (Mod.dQ hg9) (λhm=>by have:=(H3.o.wge _ zqq).1;omega);have c5:=hbx.cell 0;have f5:=hbx.frozen 0;simp only [gA,gZ] at c5;have H9:=Hi (H3.o.push q 0 hG9 hg9 zpf);obtain ⟨ov,cv,rfl⟩:=eX hG9;clear hG9 hg9 hb9 hbx H3 HO HBk H2 c2 c3 c4 hup hlk1;go_wp2_with fail;refine bodyPost_end (results_none rfl _ _ _) rfl ?_;exact ⟨rfl,_,by rw [HE.o];exact H9.o⟩
structure LA (wl g n:Nat):Prop where
 i0:wl*2<(wl+1)*2
 i1:wl*2+1<(wl+1)*2
 e1:((wl+1:Nat):Int) - 1=(wl:Int)
 e2:IntKind.i64.wrap (wl:Int)=(wl:Int)
 e3:wrap64 (wl:Int)=(wl:Int)
 k6:(0:Int)<=wl
 k7:(wl:Int)<((wl+1:Nat):Int)
 k7':(wl:Int)<wl+1
 k8:(0:Int)<=g
 k9:(g:Int)<n
 k5:decide ((0:Int)<((wl+1:Nat):Int))=true
 k5':decide ((0:Int)<wl+1)=true
theorem LA.of {wl g n c:Nat} (h1:wl+1<=c) (h2:c<=102000) (hg:g<n):LA wl g n :=
 ⟨by omega,by omega,by omega,IntWalk.i64_in _ zo,IntWalk.wrap64_in _ zo,by omega,by omega,by omega,by omega,by omega,dT zo,dT zo⟩
structure LB (k m:Nat):Prop where
 e4:IntKind.i64.wrap ((k:Int)+1)=(k:Int)+1
 e5:IntKind.i64.wrap (((k+1:Nat):Int) - 1)=(k:Int)
 e6:wrap64 (k:Int)=(k:Int)
 q0:(0:Int)<=k
 q1:(k:Int)<m
 n1:decide ((k:Int)=(m:Int))=false
 n2:((k:Int) == (m:Int))=false
 n3:decide (k=m)=false
 n4:¬ ((k:Int)=(m:Int))
theorem LB.of {k m:Nat} (h1:k<m) (h2:m<=100):LB k m :=
 ⟨IntWalk.i64_in _ zo,by rw [Int.natCast_add];simp only [Int.natCast_one,Int.add_sub_cancel];exact IntWalk.i64_in _ zo,IntWalk.wrap64_in _ zo,by omega,by omega,dF zo,by simp;omega,dF zo,by omega⟩
set_option maxRecDepth 100000 in
theorem Bf (u:Int) (fg fc fl ff fx fr fn fv:Hd) (gl:List av) (B:Nat) (w:World) (hr:Rows 9 aI B w (.slice fg.a fg.n fg.c) gl) (hn:gl.length<=1000) (hp:∀ x∈gl,x.parts.length<=100) :
  Calls Tryz.prog 182 #[.agg (af u fg fc fl ff fx fr fn fv)] w λe w'=>(∃ v s,e=.returned v/\Lf.Goes gl.length (eI gl) gl.length s/\s.told.length<=1000000/\(∀ x∈s.told,x<gl.length)/\w'.ownsRow w.heap.size 3 1 v s.told.length (ints (nats s.told)))/\Mod [] w w':=by
 have HR:=Hi hr;obtain ⟨n,hnn⟩:∃ n,n=gl.length:=⟨_,rfl⟩
 have HNG:Hy (fg.n=n):=by obtain ⟨_,_,he,-⟩:=hr.form;injection he with _ h _;show fg.n=n;rw [h,hnn]
 rw [<- hnn] at hn ⊢;have HN:=Hi (And.intro hn (And.intro hp hnn));obtain ⟨P,hP⟩:∃ P,P=eI gl:=⟨_,rfl⟩
 rw [<- hP];have HPP:=Hi hP;have HPL:Hy (∀ g,(P g).length<=100):=λg=>by
  rw [hP];unfold eI;cases hx:gl[g]? with
  | none=>exact Nat.zero_le _
  | some x=>rw [List.length_map];exact HN.o.2.1 x (List.mem_of_getElem? hx)
 clear hP;have HLS:=Hi (LfS.start w (af u fg fc fl ff fx fr fn fv));have hm1:∀ W:World,(Instr.makeMap 221 none).run Tryz.prog W=.ok (.map (some W.heap.size)) (W.alloc (.map #[] 0)):=λW=>by kernel_rfl
 have hmf:∀ (fn:Fn) (first cap:Array Value) (w:World),(Instr.makeFunc fn first cap).run Tryz.prog w=.ok (.func fn first cap) w:=λ_ _ _ _=>rfl
 clear hr hn hp hnn;go_enter Tryz.func182,Tryz.ntmps182;go_upto_region 4 with fail;clear hm1;obtain ⟨N,hN⟩:∃ N,N=w.heap.size:=⟨_,rfl⟩
 rw [<- hN] at HLS ⊢;simp only [Nat.add_assoc,Nat.reduceAdd] at HLS ⊢;generalize ((((w.alloc _).alloc _).alloc _).alloc _)=w0 at *
 have HNW:=Hi hN;clear hN;have f1:=HLS.o.font.cell 1;unfold af at f1 ⊢;simp only [gA,gZ,gS] at f1;rw [HNG.o] at f1;go_wp2_with fail;clear f1 hmf;obtain ⟨c,hc⟩:∃ c,c=n*(2+100):=⟨_,rfl⟩
 have HC:Hy (c<=102000):=by have:=HN.o.1;show c<=_;omega
 have HF0:Hy (Lf.Few n P c ⟨[],λ_=>false,[]⟩):=by rw [hc];exact Lf.Few.start HPL.o
 clear hc
 go_loopg [3,15] n (λgk v3 v15 wr=>∃ (i:Nat) (s:Lf.S) (wv:Value),v15=.int .i64 (i:Int)/\Hy (i+gk=n)/\Hy (LfS w N #[.int .i64 u,.slice fg.a fg.n fg.c,.slice fc.a fc.n fc.c,.slice fl.a fl.n fl.c,.slice ff.a ff.n ff.c,.slice fx.a fx.n fx.c,.slice fr.a fr.n fr.c,.slice fn.a fn.n fn.c,.slice fv.a fv.n fv.c] s wv v3 wr)/\Hy (Lf.Goes n P i s)/\Hy (s.way=[])/\Hy (Lf.Few n P c s))
 case atStart=>exact ⟨0,_,_,rfl,by show 0+n=n;omega,HLS.o,Lf.Goes.start,rfl,HF0.o⟩
 case round =>
  obtain ⟨i,s,wv,rfl,hi,HS,HG,HW,HF⟩:=hrel;clear HLS HF0
  by_cases hin:i<n
  case neg =>
   obtain rfl:n=i:=by have:=hi.o;omega
   have k1:=dF (p:=(n:Int)<n) zo;clear hi hin;go_wp2;go_ret;exact ⟨⟨_,s,rfl,HG.o,by have:=HF.o.told;have:=HC.o;omega,HF.o.ok.tl,pg HS.o.trow (by have:=HS.o.hN;omega)⟩,HS.o.mod⟩
  have k1:=dT (p:=(i:Int)<n) zo;have k4:=dT (p:=i<n) hin;have hX:=qL (u:=u) (fg:=fg) (fc:=fc) (fl:=fl) (ff:=ff) (fx:=fx) (fr:=fr) (fn:=fn) (fv:=fv) (i:Int) wr HS.o (by have:=HF.o.way;have:=HC.o;omega);rw [HNG.o] at hX;have HX:=Hi hX;have hcf:∀ (a:Array Value) (w:World),(callFunc 189 a).run Tryz.prog w=.ok (.enter 189 a) w:=λa w=>by kernel_rfl
  have HIN:=Hi hin;clear hX hin;go_wp2_with fail;refine HX.o.mono ?_;rintro e w1 ⟨rfl,wv1,hS1⟩;have HS1:=Hi hS1;have HF1:=Hi (HF.o.enter (i:Int));obtain ⟨s1,hs1⟩:∃ s1,s1=Lf.enter n (i:Int) s:=⟨_,rfl⟩
  rw [<- hs1] at HS1 HF1;have HE1:=Hi hs1;clear hS1 hs1 HX HS HF;go_wp2_with fail;obtain ⟨go,hgo⟩:∃ g,g=gk:=⟨_,rfl⟩
  rw [<- hgo] at hi;have HGO:=Hi hgo;clear hgo
  go_loopg [3] (Lf.mu n P s1) (λgk v3 wr=>∃ (s2:Lf.S) (wv2:Value),Hy (Lf.mu n P s2=gk)/\Hy (LfS w N #[.int .i64 u,.slice fg.a fg.n fg.c,.slice fc.a fc.n fc.c,.slice fl.a fl.n fl.c,.slice ff.a ff.n ff.c,.slice fx.a fx.n fx.c,.slice fr.a fr.n fr.c,.slice fn.a fn.n fn.c,.slice fv.a fv.n fv.c] s2 wv2 v3 wr)/\Hy (Lf.Few n P c s2)/\Hy (∀ t,Lf.Run n P s2 t->Lf.Run n P s1 t))
  case atStart=>exact ⟨s1,wv1,rfl,HS1.o,HF1.o,λ_ h=>h⟩
  case round =>
   obtain ⟨s2,wv2,hmu,HS2,HF2,HRN⟩:=hrel;clear HS1 HF1;obtain ⟨ow,cw,hwv⟩:=eX HS2.o.wrow;have c3:=HS2.o.wbx.cell 0;simp only [gA,gZ] at c3;rw [hwv] at c3;have HWV:=Hi hwv;clear hwv;rcases List.eq_nil_or_concat s2.way with hw0 | ⟨ws,gk2,hw0⟩
   ·rw [hw0] at c3;simp only [List.length_nil] at c3;have ei:IntKind.i64.wrap ((i:Int)+1)=(i:Int)+1:=IntWalk.i64_in _ (by have:=HIN.o;have:=HN.o.1;omega);have HW0:=Hi hw0;have k5:decide ((0:Int)<((0:Nat):Int))=false:=zd;clear hw0;go_wp2;go_roundg (n - (i+1))
    case measure=>have:=hi.o;have:=HIN.o;have:=HGO.o;omega
    case rel=>exact ⟨i+1,s2,wv2,by rw [Int.natCast_add];rfl,by have:=HIN.o;show i+1+(n - (i+1))=n;omega,HS2.o,.next HG.o HIN.o (by rw [<- HE1.o];exact HRN.o s2 (.done HW0.o)),HW0.o,HF2.o⟩
   ·obtain ⟨g,k⟩:=gk2;rw [List.concat_eq_append] at hw0;have hgk:=HF2.o.ok.lt (g,k) (by rw [hw0];simp);have hgn:g<n:=hgk.1;have hkn:k<=(P g).length:=hgk.2;have hgg:g<gl.length:=by rw [<- HN.o.2.2];exact hgn
    obtain ⟨ag,hag,-,cs,-,hg0,hgj,hgx⟩:=HR.o.at g hgg;have hgl:gl[g]?=some gl[g]:=gE hgg;generalize gl[g]=G at *
    obtain ⟨v3,v4,v5,v6,v7,v8,rfl,-,-,y3,y4,y5,y6,y7,y8⟩:=hgx;obtain ⟨o5,d5,rfl,-⟩:=y5.form;have g5:=hgj 5 zd zd;simp only [gZ,gS] at g5;have G5:=aj HS2.o.mod g5;have hPg:P g=G.parts.map cK.glyph:=by rw [HPP.o];exact t8 hgl
    have f1:=HS2.o.font.cell 1;simp only [gA,gZ,gS] at f1;rw [hag,HNG.o] at f1;have hrow:=HS2.o.wrow;rw [HWV.o,hw0] at hrow;obtain ⟨wl,hwl⟩:∃ wl,wl=ws.length:=⟨_,rfl⟩
    have hlen:(ws++[(g,k)]).length=wl+1:=by rw [hwl];simp
    rw [hlen] at hrow;rw [hw0,hlen] at c3;obtain ⟨g0,rfl⟩:∃ g0,ow=some ⟨g0,0,none⟩:=by
     rcases hrow.2 with ⟨h1,h2⟩ | ⟨g0,cap,cur,h1,-⟩
     ·exact absurd h2 (Nat.succ_ne_zero _)
     ·exact ⟨g0,(Value.slice.inj h1).1⟩
    have hwc:wl+1<=c:=by have h1:=HF2.o.way;rw [hw0,hlen] at h1;exact h1
    have LAF:=LA.of hwc HC.o hgn;have cg:=rp hrow (i:=wl*2) LAF.i0;have ck:=rp hrow (i:=wl*2+1) LAF.i1;rw [hwl,(nZ ws g k).1,<- hwl] at cg;rw [hwl,(nZ ws g k).2,<- hwl] at ck;have fk:wr.frozen? ⟨g0,wl*2+1,none⟩=false:=by
     rcases hrow.2 with ⟨h1,h2⟩ | ⟨g',cap,cur,h1,h2,h3,-⟩
     ·cases h1
     ·cases h1;have hB:Blk wr g0 cur 238:=h3;exact hB.frozen _
    have e1:=LAF.e1;have e2:=LAF.e2;have e3:=LAF.e3;have k6:=LAF.k6;have k7:=LAF.k7;have k7':=LAF.k7';have k8:=LAF.k8;have k9:=LAF.k9;have k5:=LAF.k5;have k5':=LAF.k5';have HGK:=Hi (And.intro hw0 (And.intro hwl (And.intro hlen (And.intro hgn (And.intro hkn (And.intro hPg hgl))))));have HY:=Hi y5;have HGR:=Hi hrow;clear hw0 hwl hlen hgn hkn hPg hgl hgk hgg hg0 hgj hag y3 y4 y5 y6 y7 y8 g5 hrow hwc LAF;go_upto_region 11 with fail
    go_quiet (fail)
    have m9:Mod [] wr (wr.drewN nq):=mR.drewN _;have HS3:=Hi (HS2.o.step m9);have cg3:=aj m9 cg;have ck3:=aj m9 ck;have c33:=aj m9 c3;have fk3:(wr.drewN nq).frozen? ⟨g0,wl*2+1,none⟩=false:=fk;have HGR3:=Hi (gw HGR.o m9);clear m9 cg ck c3 fk HGR HS2 G5 f1;generalize wr.drewN nq=w2 at *
    have hpl:(P g).length=G.parts.length:=by rw [HGK.o.2.2.2.2.2.1,List.length_map]
    by_cases hk:k=G.parts.length
    ·have HKE:Hy (k=(P g).length):=by show k=_;rw [hpl];exact hk
     rw [<- hk];have HNX:Hy (Lf.step n P g k ws s2=⟨ws,s2.met,s2.told++[g]⟩):=by show _=_;unfold Lf.step;rw [if_pos HKE.o]
     have HF3:=Hi (HF2.o.step HGK.o.1);have HMU:=Hi (Lf.rk HF2.o.ok HGK.o.1);have HRX:Hy (∀ t,Lf.Run n P (Lf.step n P g k ws s2) t->Lf.Run n P s1 t):=λt ht=>HRN.o t (.step HGK.o.1 ht)
     clear hk hpl;have al:Mod [] w2 (w2.alloc (.cells #[.int .i64 (g:Int)] 3)):=(Mod.refl [] w2).alloc _;have hO5:=gw HS3.o.trow al;rw [<- bj s2.told] at hO5;have HO5:=Hi hO5;clear hO5;have HB5:=Hi (Blk.new w2 #[.int .i64 (g:Int)] 3);have HS4:=Hi (HS3.o.step al);have HG4:=Hi (gw HGR3.o al);have HTL:Hy ((nats s2.told).length<=1000000):=by show _<=_;rw [bj];exact nT HF2.o.told (nT HC.o zd)
     clear al HS3 HGR3;go_wp2_with (at_builtin;refine kK (base:=N+4) (v:=u3) (xs:=nats s2.told) (y:=(g:Int)) rfl _ _ rfl Tryz.underlying22 rfl HO5.o rfl HB5.o HTL.o HS4.o.base ?_);intro v9 w9 hG9 hg9 hb9;have HS5:=Hi (HS4.o.tell (s2.told++[g]) (Mod.dQ hg9) (λx hx=>by simpa using hx) (by rw [j4,List.length_append];rw [bj] at hG9;exact hG9) (hb9.imp id λe=>⟨_,e,by rw [World.size_alloc];exact nR _⟩))
     have HG5:=Hi (je HG4.o (Mod.dQ hg9) (λb hb e=>by
      have h1:u3.ownBlock=some b:=by simpa using hb
      have h2:wv2.ownBlock=some b:=by rw [HWV.o];exact e
      rcases HS4.o.ne with h3 | h3
      ·rw [h3] at h2;cases h2
      ·exact h3 (by rw [h2,h1])))
     have c4:=HS5.o.wbx.cell 0;have f4:=HS5.o.wbx.frozen 0;simp only [gA,gZ] at c4;rw [HWV.o,HGK.o.1,HGK.o.2.2.1] at c4;have HCT:=AJ HG5.o (m:=wl) (Nat.le_succ _);rw [HGK.o.2.1,vj,<- HGK.o.2.1] at HCT;have ob:(Value.slice (some ⟨g0,0,none⟩) wl cw).ownBlock≠some (N+3):=λe=>by have h1:=(HCT.lt _ e).1;exact Nat.lt_irrefl _ (Nat.lt_of_lt_of_le (Nat.lt_succ_self (N+3)) h1)
     have HS6:=Hi (HS5.o.go (F:=[N+3]) ws (v':=.slice (some ⟨g0,0,none⟩) wl cw) ((Mod.refl [N+3] w9).setCell (p:=⟨N+3,0,none⟩) (λ_=>by simp) (.slice (some ⟨g0,0,none⟩) wl cw)) (λx hx=>.inl (by simpa using hx)) (HS5.o.wbx.set 0 _)
      (by rw [<- HGK.o.2.1];exact HCT.kept (row:=some (N+3)) ⟨rfl,rfl,rfl,by simp,λk hk hn=>Below.heap_setCell w9 _ _ k (λhe=>hn (by rw [he]))⟩ (.inr ob)) (.inl (by rw [HWV.o];rfl)))
     have hwc:(wl:Int)<=cw:=by
      rcases HG5.o.2 with ⟨h1,-⟩ | ⟨g',cap,cur,h1,h2,h3,h4,-⟩
      ·cases h1
      ·cases h1;exact Int.ofNat_le.2 (nT (Nat.le_succ _) h4)
     clear hG9 hg9 hb9 HO5 HB5 HS4 HG4 HS5 HG5 HCT ob cg3 ck3 c33 fk3;go_wp2;go_roundg (Lf.mu n P (Lf.step n P g k ws s2))
     case measure=>have:=HMU.o;have:=hmu.o;rw [<- hmu.o];exact HMU.o
     case rel=>exact ⟨_,_,rfl,by rw [HNX.o];exact HS6.o,HF3.o,HRX.o⟩
    ·have hkl:k<G.parts.length:=Nat.lt_of_le_of_ne (by rw [<- hpl];exact HGK.o.2.2.2.2.1) hk;have LBF:=LB.of hkl (HN.o.2.1 G (List.mem_of_getElem? HGK.o.2.2.2.2.2.2));obtain ⟨pa,rfl,-,cp,-,hp0,-,hpx⟩:=HY.o.at k hkl;have hgx:(P g).getD k 0=G.parts[k].glyph:=by rw [HGK.o.2.2.2.2.2.1,List.getD_eq_getElem?_getD,List.getElem?_map,gE hkl];rfl
     generalize G.parts[k]=pt at *
     obtain ⟨rfl,-,-,-⟩:=hpx;have d0:=hp0 zd;simp only [gZ] at d0;have HNX:Hy (Lf.step n P g k ws s2=Lf.enter n pt.glyph ⟨ws++[(g,k+1)],s2.met,s2.told⟩):=by
      show _=_;unfold Lf.step;rw [if_neg (by rw [hpl];exact hk),hgx]
     have HF3:=Hi (HF2.o.step HGK.o.1);have HMU:=Hi (Lf.rk HF2.o.ok HGK.o.1);have HRX:Hy (∀ t,Lf.Run n P (Lf.step n P g k ws s2) t->Lf.Run n P s1 t):=λt ht=>HRN.o t (.step HGK.o.1 ht)
     have n1:=LBF.n1;have n2:=LBF.n2;have n3:=LBF.n3;have n4:=LBF.n4;have e4:=LBF.e4;have e5:=LBF.e5;have e6:=LBF.e6;have q0:=LBF.q0;have q1:=LBF.q1;have hge:N+4<=g0:=(HGR3.o.lt g0 rfl).1;have hlw:ws.length+1<=1000000:=by
      have h1:=HF2.o.way;rw [HGK.o.1,List.length_append] at h1;exact nT h1 (nT HC.o zd)
     have hset:=AH HGR3.o (i:=wl*2+1) (.int .i64 ((k+1:Nat):Int));rw [HGK.o.2.1,xI,<- HGK.o.2.1] at hset;have hat:=rp hset (i:=wl*2+1) zo;rw [HGK.o.2.1,(nZ ws g (k+1)).2,<- HGK.o.2.1] at hat;have hS5:=HS3.o.go (F:=[g0]) (ws++[(g,k+1)]) (v':=wv2) ((Mod.refl [g0] w2).setCell (p:=⟨g0,wl*2+1,none⟩) (λ_=>by simp) (.int .i64 ((k+1:Nat):Int))) (λx hx=>.inr (by rw [HWV.o,mI.1 hx];rfl))
      (by
       rw [HWV.o,HGK.o.1,HGK.o.2.2.1];have h1:=HS3.o.wbx;rw [HWV.o,HGK.o.1,HGK.o.2.2.1] at h1
       exact h1.other (a:=⟨g0,wl*2+1,none⟩) (λe=>by have h2:g0=N+3:=e;omega) _)
      (by rw [HWV.o,HGK.o.1,HGK.o.2.2.1,show (ws++[(g,k+1)]).length=wl+1 by rw [HGK.o.2.1];simp];exact hset) (.inl rfl)
     have HS5:=Hi hS5;have hX:=qL (u:=u) (fg:=fg) (fc:=fc) (fl:=fl) (ff:=ff) (fx:=fx) (fr:=fr) (fn:=fn) (fv:=fv) pt.glyph _ hS5 (by rw [List.length_append];exact hlw);rw [HNG.o] at hX;have D0:=aj hS5.mod d0;simp only [Int.natCast_add,Int.natCast_one] at hX D0 hat HS5 e5;have HX:=Hi hX;clear hX hS5 hset hge hlw hkl hk hpl hgx hp0 d0 LBF HS3 HGR3;go_upto_region 16 with fail;clear ck3 cg3 c33 fk3;generalize w2.setCell _ _=w5 at *
     go_wp2_with fail;refine HX.o.mono ?_;rintro e w6 ⟨rfl,wv6,hS6⟩;have HS6:=Hi hS6;clear hS6 HX HS5 hat D0;go_wp2;go_roundg (Lf.mu n P (Lf.step n P g k ws s2))
     case measure=>rw [<- hmu.o];exact HMU.o
     case rel=>exact ⟨_,_,rfl,by rw [HNX.o];exact HS6.o,HF3.o,HRX.o⟩
end Go.Proofs.YthheaflbbficgaaGreat

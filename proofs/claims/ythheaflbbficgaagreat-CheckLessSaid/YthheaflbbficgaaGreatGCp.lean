/- CompSt, Order, ComposedC, Composed, LeftPlain, LeftSt, LeftEnter, Left. -/
import Derived.Test.YthheaflbbficgaaGreatGBase
import Derived.Test.YthheaflbbficgaaGreatGCo
import Derived.Laws.MakeOwn
import Derived.Test.YthheaflbbficgaaGreatGCl
import Derived.Test.YthheaflbbficgaaGreatGRing
set_option linter.all false
namespace Go.Proofs.YthheaflbbficgaaGreat
open Go.RowKit
def numC (n:Nat) (f:Nat->Nat):Array Value:=((List.range n).map fun i=>Value.int .i64 (f i:Int)).toArray
theorem numC_at {n:Nat} (f:Nat->Nat) {i:Nat} (hi:i<n):(numC n f)[i]?=some (.int .i64 (f i:Int)):=by
 unfold numC;simp [hi]
theorem numC_set (n:Nat) (f:Nat->Nat) (i x:Nat):(numC n f).setIfInBounds i (.int .i64 (x:Int))=numC n (Cp.upd f i x):=by
 unfold numC Cp.upd;apply Array.ext';simp only [List.setIfInBounds_toArray];apply List.ext_getElem?;intro j;rw [List.getElem?_set]
 by_cases hj:i=j
 ·subst hj
  by_cases hn:i<n
  ·simp [hn]
  ·simp [hn]
 ·rw [if_neg hj,List.getElem?_map,List.getElem?_map]
  by_cases hn:j<n
  ·rw [List.getElem?_range hn];simp [show ¬ j=i from fun e=>hj e.symm]
  ·rw [List.getElem?_eq_none (by simp;omega)];rfl
theorem make_ints (w:World) (n:Nat) (hn:n<=1000000):(Instr.makeSlice 22 (.int .i64 (n:Int)) (.int .i64 (n:Int))).run Tryz.prog w=.ok (.slice (some ⟨w.heap.size,0,none⟩) n n) (w.alloc (.cells (numC n fun _=>0) 3)):=by
 obtain ⟨i0,hi,hz0,hz1,hz2⟩:=info_parts inf_Int;have h:=run_make (P:=Tryz.prog) w 22 3 i0 (.int .i64 0) Tryz.underlying22 hi hz0 .i64 .i64 (n:Int) (n:Int) (by omega) (Int.le_refl _) (by rw [hz2];omega) (by omega);rw [Int.toNat_natCast,hz1,Nat.mul_one] at h;have e:madeCells (Value.int .i64 0).cells n=numC n fun _=>0:=by
  unfold numC;apply Array.ext';apply List.ext_getElem
  ·simp [size_madeCells]
  ·intro i h1 h2;simp [madeCells,Nat.mod_one,Value.cells]
 rw [h,e]
theorem rows_of_blk {w:World} {b n:Nat} {f:Nat->Nat} (h:Blk w b (numC n f) 3) (hn:n<=1000000) (hf:∀ i,i<n->f i<=1000000000) :
  Rows 1 RInt 0 w (.slice (some ⟨b,0,none⟩) n n) ((List.range n).map fun i=>((f i:Nat):Int)):=by
 refine ⟨some ⟨b,0,none⟩,n,by simp,by simp;unfold maxLen;omega,fun i hi=>⟨_,rfl,Nat.zero_le _,[.int .i64 (f i:Int)],rfl,fun j hj=>?_,?_⟩⟩
 ·have hi':i<n:=by simpa using hi
  obtain rfl:j=0:=by omega
  have e1:((⟨b,0,none⟩:Addr).add (i*1)).add 0=⟨b,i,none⟩:=by unfold Addr.add;simp;omega
  rw [e1,h.cell,numC_at f hi'];rfl
 ·have hi':i<n:=by simpa using hi
  have h1:=hf i hi';refine ⟨by simp,?_⟩;unfold I64;simp;omega
theorem rows_of_own {w:World} {base n:Nat} {v:Value} {xs:List Int} (h:w.ownsRow base 3 1 v n (ints xs)) (hn:n=xs.length) (hx:∀ x∈xs,I64 x):Rows 1 RInt 0 w v xs:=by
 subst hn;rcases h.2 with ⟨rfl,hn⟩ | ⟨g,cap,cur,rfl,hb,hg,hc,hm,hs,ht⟩
 ·obtain rfl:=List.eq_nil_of_length_eq_zero hn;exact Rows.nil w
 ·refine ⟨_,cap,rfl,nT hc hm,fun i hi=>⟨_,rfl,Nat.zero_le _,[.int .i64 xs[i]],rfl,fun j hj=>?_,rfl,hx _ (List.getElem_mem hi)⟩⟩;obtain rfl:j=0:=by omega
  have e1:((⟨g,0,none⟩:Addr).add (i*1)).add 0=⟨g,i,none⟩:=by unfold Addr.add;simp;omega
  have h2:=own_at h hi;rw [e1,h2,ints_at hi];rfl
set_option maxHeartbeats 8000000
theorem i64_nats {l:List Nat} {n:Nat} (hn:n<=1000000) (h:∀ x∈l,x<n):∀ x∈nats l,I64 x:=fun x hx=>by
 obtain ⟨y,hy,rfl⟩:=List.mem_map.1 hx;have:=h y hy;unfold I64;omega
set_option maxRecDepth 100000 in
theorem order_any (u:Int) (fg fc fl ff fx fr fn fv:Hd) (gl:List DGlyph) (B:Nat) (w:World) (hr:Rows 9 RGlyph B w (.slice fg.a fg.n fg.c) gl) (hn:gl.length<=1000) (hp:∀ x∈gl,x.parts.length<=100)
  (hfull:∀ L,Ln.Ok gl.length (Ln.partsOf gl) L->L.length=gl.length) :
  Calls Tryz.prog 110 #[.agg (fontCells u fg fc fl ff fx fr fn fv)] w fun e w'=>(∃ oa c L,e=.returned (.tuple #[.slice oa gl.length c,.int .i64 0,.int .i64 0])/\Ln.Ok gl.length (Ln.partsOf gl) L/\L.length=gl.length/\Rows 1 RInt 0 w' (.slice oa gl.length c) (nats L))/\Mod [] w w':=by
 have HR:=Hi hr;have HN:=Hi (And.intro hn (And.intro hp hfull));obtain ⟨n,hnn⟩:∃ n,n=gl.length:=⟨_,rfl⟩
 have hng:fg.n=gl.length:=by obtain ⟨_,_,he,-⟩:=hr.form;injection he with _ h _
 have HNG:Hid (fg.n=n):=by show _=_;rw [hng,hnn]
 rw [<- hnn];have HNN:=Hi hnn;have T:=Hi (own1 w (fontCells u fg fc fl ff fx fr fn fv) 32);have hmk:∀ W:World,(Instr.makeSlice 22 (.int .i64 (n:Int)) (.int .i64 (n:Int))).run Tryz.prog W=.ok (.slice (some ⟨W.heap.size,0,none⟩) n n) (W.alloc (.cells (numC n fun _=>0) 3)):=fun W=>make_ints W n (by omega)
 unfold fontCells at T ⊢;have a1:=(T.out.at 0 rfl).cell 1;simp only [gA,gZ,gS] at a1;rw [HNG.out] at a1 T;clear hr hn hp hfull hnn hng;have T1:=Hi (T.out.alloc (numC n fun _=>0) 3);simp only [List.cons_append,List.nil_append,World.size_alloc] at T1;go_enter Tryz.func110,Tryz.ntmps110;rw [HNG.out];go_upto_region 2 with fail;clear hmk a1 T;generalize (w.alloc _).alloc _=w1 at *
 obtain ⟨b,hb⟩:∃ b,b=w.heap.size+1:=⟨_,rfl⟩
 rw [<- hb] at T1 ⊢;clear hb;go_wp2_with fail
 go_loopg [14] n (fun gk v14 wr=>∃ i:Nat,v14=.int .i64 (i:Int)/\Hid (i+gk=n)/\Hid (Own w wr [(w.heap.size,#[.int .i64 u,.slice fg.a n fg.c,.slice fc.a fc.n fc.c,.slice fl.a fl.n fl.c,.slice ff.a ff.n ff.c,.slice fx.a fx.n fx.c,.slice fr.a fr.n fr.c,.slice fn.a fn.n fn.c,.slice fv.a fv.n fv.c],32),(b,numC n (fun j=>if j<i then j else 0),3)]))
 case atStart=>exact ⟨0,rfl,by show 0+n=n;omega,T1.out⟩
 case round =>
  obtain ⟨i,rfl,hi,T2⟩:=hrel;clear T1
  by_cases hin:i<n
  case neg =>
   obtain rfl:n=i:=by have:=hi.out;omega
   have k1:decide ((n:Int)<(n:Int))=false:=dF (by omega);have a0:=(T2.out.at 0 rfl).cell 0;have a1:=(T2.out.at 0 rfl).cell 1;have a2:=(T2.out.at 0 rfl).cell 2;have a3:=(T2.out.at 0 rfl).cell 3;have a4:=(T2.out.at 0 rfl).cell 4;have a5:=(T2.out.at 0 rfl).cell 5;have a6:=(T2.out.at 0 rfl).cell 6;have a7:=(T2.out.at 0 rfl).cell 7;have a8:=(T2.out.at 0 rfl).cell 8;simp only [gA,gZ,gS] at a0 a1 a2 a3 a4 a5 a6 a7 a8;have hn1:n<=1000:=by rw [HNN.out];exact HN.out.1
   have hrows:=rows_of_blk (T2.out.at 1 rfl) (by omega) (fun i hi=>by show (if i<n then i else 0)<=_;split <;> omega);have hlist:((List.range n).map fun i=>(((if i<n then i else 0:Nat)):Int))=nats (List.range gl.length):=by
    rw [<- HNN.out];unfold nats;exact List.map_congr_left fun x hx=>by rw [if_pos (List.mem_range.1 hx)]
   rw [hlist] at hrows;have hX:=line_any u fg fc fl ff fx fr fn fv gl 0 n (some ⟨b,0,none⟩) wr ((HR.out.mod RGlyph.stay T2.out.mod).lower RGlyph.lower (Nat.zero_le _)) (by rw [<- HNN.out];rw [<- HNN.out] at hrows;exact hrows) HN.out.1 HN.out.2.1;unfold fontCells at hX;rw [HNG.out,<- HNN.out] at hX;have HX:=Hi hX;clear hX hrows hlist hin hi;go_wp2_with fail;refine HX.out.mono ?_;rintro e w2 ⟨v,L,rfl,hok,hown,m2⟩;have hlen:L.length=n:=by rw [HNN.out];exact HN.out.2.2 L (by rw [<- HNN.out];exact hok)
   obtain ⟨ov,cv,rfl⟩:=own_form hown;rw [hlen] at hown;have HO:=Hi hok;have HRW:=Hi (rows_of_own hown (by rw [nats_length,hlen]) (i64_nats (n:=n) (by omega) hok.lt));have HM:=Hi (T2.out.mod.then m2);have HLL:=Hi hlen;rw [hlen];have k2:decide ((n:Int)<(n:Int))=false:=dF (by omega);have k3:decide (n<n)=false:=dF (by omega);clear hok hown m2 hlen HX a0 a1 a2 a3 a4 a5 a6 a7 a8 hn1;go_wp2_with fail;refine bodyPost_ret (v:=.tuple #[.slice ov n cv,.int .i64 0,.int .i64 0]) (by simp [results,Tryz.f110,go_sem]) rfl ?_;exact ⟨⟨ov,cv,L,rfl,HO.out,HLL.out,HRW.out⟩,HM.out⟩
  have k1:decide ((i:Int)<(n:Int))=true:=dT (by omega);have k2:(0:Int)<=i:=by omega
  have k3:(i:Int)<(n:Int):=by omega
  have k4:decide (i<n)=true:=dT hin;have c0:=(T2.out.at 1 rfl).cell i;rw [numC_at _ hin] at c0;have f0:=(T2.out.at 1 rfl).frozen i;have T3:=Hi (T2.out.set 1 rfl i (.int .i64 (i:Int)));have hcc:(numC n (fun j=>if j<i then j else 0)).setIfInBounds i (.int .i64 (i:Int))=numC n (fun j=>if j<i+1 then j else 0):=by
   rw [numC_set]
   congr 1
   funext j
   unfold Cp.upd
   by_cases hj:j=i
   ·subst hj;simp
   ·rw [if_neg hj];show (if j<i then j else 0)=_
    by_cases h2:j<i
    ·rw [if_pos h2,if_pos (by omega)]
    ·rw [if_neg h2,if_neg (by omega)]
  rw [hcc] at T3;simp only [List.set_cons_zero,List.set_cons_succ] at T3;have ei:IntKind.i64.wrap ((i:Int)+1)=(i:Int)+1:=IntWalk.i64_in _ (by have:=HN.out.1;have:=HNN.out;omega);have HIN:=Hi hin;clear hcc hin;go_wp2;go_roundg (gk - 1)
  case measure=>have:=hi.out;have:=HIN.out;omega
  case rel=>exact ⟨i+1,by rw [Int.natCast_add];rfl,by have:=hi.out;have:=HIN.out;show i+1+(gk - 1)=n;omega,T3.out⟩
def Ck.deepOk (d:Int):Int:=Ck.when (decide (4<d)) 34
def Ck.manyOk (q:Int):Int:=Ck.when (decide (1001<=q)) 2
theorem c11_any (i:Int) (d:Int) (w:World):Calls Tryz.prog 113 #[.int .i64 i,.int .i64 d] w fun e w'=>e=.returned (.int .i64 (Ck.deepOk d))/\w=w':=by
 have HX:=Hi (when_any (decide (4<d)) 34 w);unfold Ck.deepOk;generalize Ck.when (decide (4<d)) 34=r at *
 obtain ⟨b,hb⟩:∃ b,decide (4<d)=b:=⟨_,rfl⟩
 rw [hb] at HX;go_enter Tryz.func113,Tryz.ntmps113;go_wp2_with fail;refine HX.out.mono ?_;rintro e w1 ⟨rfl,rfl⟩;clear hb;go_wp2;go_ret;exact ⟨rfl,rfl⟩
theorem c21_any (i:Int) (d:Int) (w:World):Calls Tryz.prog 115 #[.int .i64 i,.int .i64 d] w fun e w'=>e=.returned (.int .i64 (Ck.manyOk d))/\w=w':=by
 have HX:=Hi (when_any (decide (1001<=d)) 2 w);unfold Ck.manyOk;generalize Ck.when (decide (1001<=d)) 2=r at *
 obtain ⟨b,hb⟩:∃ b,decide (1001<=d)=b:=⟨_,rfl⟩
 rw [hb] at HX;go_enter Tryz.func115,Tryz.ntmps115;go_wp2_with fail;refine HX.out.mono ?_;rintro e w1 ⟨rfl,rfl⟩;clear hb;go_wp2;go_ret;exact ⟨rfl,rfl⟩
theorem c1_any {b n cc:Nat} {o:Option Addr} {B:Nat} {l:List Int} (w:World) (hb:w.cell? ⟨b,0,none⟩=some (.slice o n cc)) (hr:Rows 1 RInt B w (.slice o n cc) l) :
  Calls Tryz.prog 111 #[.pointer (some ⟨b,0,none⟩)] w fun e w'=>e=.returned (.tuple #[.int .i64 (Ck.each (fun _ d=>Ck.deepOk d) l).1,.int .i64 ((Ck.each (fun _ d=>Ck.deepOk d) l).2:Int)])/\Mod [] w w':=by
 have HC:=Hi (each_Int (F:=[]) (J:=fun _ W=>Mod [] w W) (fn:=113) (caps:=#[]) (f:=fun _ d=>Ck.deepOk d) (mod_stays _) (fun _ W m=>hr.mod RInt.stay m) (fun i y cs W hi m hr=>by
   obtain ⟨rfl,-⟩:=hr
   exact pure_call ((c11_any (i:Int) y W).mono fun e w' h=>⟨h.1,h.2 ▸ mR⟩) m)
  (fun a w=>by kernel_rfl) _ mR)
 clear hr;go_enter Tryz.func111,Tryz.ntmps111;go_wp2_with fail;refine HC.out.mono ?_;rintro e w1 ⟨rfl,m1⟩;have HM:=Hi m1;clear m1 hb HC;go_wp2;go_ret2;exact ⟨rfl,HM.out⟩
theorem c2_any {b n cc:Nat} {o:Option Addr} {B:Nat} {l:List Int} (w:World) (hb:w.cell? ⟨b,0,none⟩=some (.slice o n cc)) (hr:Rows 1 RInt B w (.slice o n cc) l) :
  Calls Tryz.prog 114 #[.pointer (some ⟨b,0,none⟩)] w fun e w'=>e=.returned (.tuple #[.int .i64 (Ck.each (fun _ d=>Ck.manyOk d) l).1,.int .i64 ((Ck.each (fun _ d=>Ck.manyOk d) l).2:Int)])/\Mod [] w w':=by
 have HC:=Hi (each_Int (F:=[]) (J:=fun _ W=>Mod [] w W) (fn:=115) (caps:=#[]) (f:=fun _ d=>Ck.manyOk d) (mod_stays _) (fun _ W m=>hr.mod RInt.stay m) (fun i y cs W hi m hr=>by
   obtain ⟨rfl,-⟩:=hr
   exact pure_call ((c21_any (i:Int) y W).mono fun e w' h=>⟨h.1,h.2 ▸ mR⟩) m)
  (fun a w=>by kernel_rfl) _ mR)
 clear hr;go_enter Tryz.func114,Tryz.ntmps114;go_wp2_with fail;refine HC.out.mono ?_;rintro e w1 ⟨rfl,m1⟩;have HM:=Hi m1;clear m1 hb HC;go_wp2;go_ret2;exact ⟨rfl,HM.out⟩
def Ck.compRes (ld lq:List Int):List Ck.Got:=[Ck.each (fun _ d=>Ck.deepOk d) ld,Ck.each (fun _ d=>Ck.manyOk d) lq]
theorem comp_first {bd bq nd nq cd cq sb ts c:Nat} {od oq:Option Addr} {B:Nat} {ld lq:List Int} (w:World) (hd:w.cell? ⟨bd,0,none⟩=some (.slice od nd cd)) (rd:Rows 1 RInt B w (.slice od nd cd) ld)
  (hq:w.cell? ⟨bq,0,none⟩=some (.slice oq nq cq)) (rq:Rows 1 RInt B w (.slice oq nq cq) lq) (hs:Blk w sb #[.func (.func 111) #[] #[.pointer (some ⟨bd,0,none⟩)],.func (.func 114) #[] #[.pointer (some ⟨bq,0,none⟩)]] ts) :
  Calls Tryz.prog 50 #[.slice (some ⟨sb,0,none⟩) 2 c] w fun e w'=>e=.returned (.tuple #[.int .i64 (Ck.first (Ck.compRes ld lq)).1,.int .i64 ((Ck.first (Ck.compRes ld lq)).2:Int)])/\Mod [] w w':=by
 refine (first_any (F:=[]) (K:=2) (fn:=fun k=>[111,114].getD k 0) (caps:=fun k=>([#[.pointer (some ⟨bd,0,none⟩)],#[.pointer (some ⟨bq,0,none⟩)]]:List (Array Value)).getD k #[])
  (G:=fun k=>(Ck.compRes ld lq).getD k (0,0)) (J:=fun _ W=>Mod [] w W) (Z:=fun _ W=>Mod [] w W)
  sb c w ⟨?call,?cf⟩ (by decide) ?hF ?hJ ?hZ ?hc mR).mono fun e w' h=>FirstIs.list (Gs:=Ck.compRes ld lq) h (fun h=>h) (fun _ h=>h)
 case cf =>
  intro k hk a W;have q0:(callFunc 111 a).run Tryz.prog W=.ok (.enter 111 a) W:=by kernel_rfl
  have q1:(callFunc 114 a).run Tryz.prog W=.ok (.enter 114 a) W:=by kernel_rfl
  match k,hk with
  | 0,_=>simp only [List.getD_cons_zero,List.getD_cons_succ];exact q0
  | 1,_=>simp only [List.getD_cons_zero,List.getD_cons_succ];exact q1
 case hF=>intro x hx;cases hx
 case hJ=>exact fun k W W' h b=>h.below' b
 case hZ=>exact fun k W W' h b=>h.below' b
 case hc =>
  intro k W hk h;have q:=hs.kept h (by simp);have:=q.cell k;rw [this]
  match k,hk with
  | 0,_=>rfl
  | 1,_=>rfl
 case call =>
  intro k W hk' h;have fin:∀ {e:Ending} {W':World} {g:Int×Nat},e=.returned (.tuple #[.int .i64 g.1,.int .i64 (g.2:Int)])/\Mod [] W W' ->
    e=.returned (.tuple #[.int .i64 g.1,.int .i64 (g.2:Int)])/\Mod [] W W'/\(g.1=0->Mod [] w W')/\(g.1≠0->Mod [] w W'):=fun q =>
   ⟨q.1,q.2,fun _=>h.then q.2,fun _=>h.then q.2⟩
  match k,hk' with
  | 0,_=>exact (c1_any W (cell_stays h hd) (rd.mod RInt.stay h)).mono fun e W' q=>fin q
  | 1,_=>exact (c2_any W (cell_stays h hq) (rq.mod RInt.stay h)).mono fun e W' q=>fin q
theorem foldl_take {α:Type} (f:Nat->Nat->Nat) (g:α->Nat) (a:Nat) (l:List α) {k:Nat} (hk:k<l.length):((l.take (k+1)).map g).foldl f a=f (((l.take k).map g).foldl f a) (g l[k]):=by
 rw [List.take_succ_eq_append_getElem hk,List.map_append,List.foldl_append];rfl
theorem foldD_le {D:Nat->Nat} {c:Nat} (hD:∀ p,D p<=c):∀ (l:List Nat) (a:Nat),a<=c+1->l.foldl (Cp.stepD D) a<=c+1
 | [],a,h=>h
 | p::l,a,h=>foldD_le hD l _ (by unfold Cp.stepD;have:=hD p;omega)
theorem foldQ_le {Q:Nat->Nat} {c:Nat} (hc:1001<=c):∀ (l:List Nat) (a:Nat),a<=c->l.foldl (Cp.stepQ Q) a<=c
 | [],a,h=>h
 | p::l,a,h=>foldQ_le hc l _ (by unfold Cp.stepQ;omega)
theorem here_all {n:Nat} {l:List DPart} (h:∀ p∈l,isIn n p.glyph=true):Ln.here n l=l.map fun p=>p.glyph.toNat:=by
 unfold Ln.here;rw [List.filter_eq_self.2 h]
set_option maxRecDepth 100000 in
theorem composed_any (u:Int) (fg fc fl ff fx fr fn fv:Hd) (gl:List DGlyph) (B:Nat) (w:World) (hr:Rows 9 RGlyph B w (.slice fg.a fg.n fg.c) gl) (hn:gl.length<=1000) (hp:∀ x∈gl,x.parts.length<=100)
  (hfull:∀ L,Ln.Ok gl.length (Ln.partsOf gl) L->L.length=gl.length) (hall:∀ x∈gl,∀ p∈x.parts,isIn gl.length p.glyph=true) (D Q own:Nat->Nat) (hE:Cp.Eqs gl.length (Ln.partsOf gl) own D Q)
  (hown:∀ g x,gl[g]?=some x->own g=x.pts.length) (hD:∀ g,D g<=1000000) (hQ:∀ g,Q g<=1000000) (ho:∀ g,own g<=1000000) :
  Calls Tryz.prog 56 #[.agg (fontCells u fg fc fl ff fx fr fn fv)] w fun e w'=>e=.returned (.tuple #[.int .i64 (Ck.first (Ck.compRes ((List.range gl.length).map fun i=>((D i:Nat):Int)) ((List.range gl.length).map fun i=>((Q i:Nat):Int)))).1,.int .i64 ((Ck.first (Ck.compRes ((List.range gl.length).map fun i=>((D i:Nat):Int)) ((List.range gl.length).map fun i=>((Q i:Nat):Int)))).2:Int)])/\Mod [] w w':=by
 have HR:=Hi hr;have HN:=Hi (And.intro hn (And.intro hp (And.intro hfull hall)));have HE:=Hi (And.intro hE (And.intro hown (And.intro hD (And.intro hQ ho))));obtain ⟨n,hnn⟩:∃ n,n=gl.length:=⟨_,rfl⟩
 have hng:fg.n=gl.length:=by obtain ⟨_,_,he,-⟩:=hr.form;injection he with _ h _
 have HNG:Hid (fg.n=n):=by show _=_;rw [hng,hnn]
 rw [<- hnn];have HNN:=Hi hnn;have HN1:Hid (n<=1000):=by show _<=_;rw [hnn];exact hn
 obtain ⟨C,hC⟩:∃ C,Ck.first (Ck.compRes ((List.range n).map fun i=>((D i:Nat):Int)) ((List.range n).map fun i=>((Q i:Nat):Int)))=C:=⟨_,rfl⟩
 rw [hC];have HC:=Hi hC;have T:=Hi (own1 w (fontCells u fg fc fl ff fx fr fn fv) 32);have hmk:∀ W:World,(Instr.makeSlice 22 (.int .i64 (n:Int)) (.int .i64 (n:Int))).run Tryz.prog W=.ok (.slice (some ⟨W.heap.size,0,none⟩) n n) (W.alloc (.cells (numC n fun _=>0) 3)):=fun W=>make_ints W n (by omega)
 have hX:=order_any u fg fc fl ff fx fr fn fv gl B _ (HR.out.mod RGlyph.stay T.out.mod) hn hp hfull;unfold fontCells at T hX ⊢;rw [<- hnn] at hX;have HX:=Hi hX;have a0:=(T.out.at 0 rfl).cell 0;have a1:=(T.out.at 0 rfl).cell 1;have a2:=(T.out.at 0 rfl).cell 2;have a3:=(T.out.at 0 rfl).cell 3;have a4:=(T.out.at 0 rfl).cell 4;have a5:=(T.out.at 0 rfl).cell 5;have a6:=(T.out.at 0 rfl).cell 6;have a7:=(T.out.at 0 rfl).cell 7;have a8:=(T.out.at 0 rfl).cell 8;simp only [gA,gZ,gS] at a0 a1 a2 a3 a4 a5 a6 a7 a8;rw [HNG.out] at a1 T HX;clear hr hn hp hfull hall hE hown hD hQ ho hnn hng hC hX;go_enter Tryz.func56,Tryz.ntmps56;rw [HNG.out];go_wp2_with fail;refine HX.out.mono ?_;rintro e w2 ⟨⟨oa,c,L,rfl,hok,hlen,hL⟩,m2⟩;have HOK:=Hi (And.intro hok hlen);have HL:=Hi hL;have FB:=Hi ((T.out.at 0 rfl).kept m2 (by simp));have HM2:=Hi (T.out.mod.then m2);clear hok hlen hL m2 a0 a1 a2 a3 a4 a5 a6 a7 a8 T HX;obtain ⟨fb,hfb⟩:∃ fb,fb=w.heap.size:=⟨_,rfl⟩
 rw [<- hfb] at FB ⊢;clear hfb;have a1:=FB.out.cell 1;simp only [gA,gZ,gS] at a1;have T1:=Hi (own2 w2 (numC n fun _=>0) 3 #[.slice (some ⟨w2.heap.size,0,none⟩) n n] 22);have T2:=Hi ((T1.out.alloc (numC n fun _=>0) 3).alloc #[.slice (some ⟨w2.heap.size+2,0,none⟩) n n] 22);simp only [List.cons_append,List.nil_append,World.size_alloc,Nat.add_assoc,Nat.reduceAdd] at T2;have FB1:=Hi (FB.out.kept T1.out.mod (by simp));have b1:=FB1.out.cell 1;simp only [gA,gZ,gS] at b1;go_upto_region 6 with fail;clear T1 FB1 b1 a1 hmk;simp only [Nat.add_assoc,Nat.reduceAdd];generalize (((w2.alloc _).alloc _).alloc _).alloc _=W0 at *
 obtain ⟨db,hdb⟩:∃ db,db=w2.heap.size:=⟨_,rfl⟩
 rw [<- hdb] at T2 ⊢;clear hdb;have T3:Hid (Own w2 W0 [(db,numC n (Cp.part L 0 D),3),(db+1,#[.slice (some ⟨db,0,none⟩) n n],22),(db+2,numC n (Cp.part L 0 Q),3),(db+3,#[.slice (some ⟨db+2,0,none⟩) n n],22)]):=by
  rw [Cp.part_zero,Cp.part_zero];exact T2.out
 clear T2;go_wp2_with fail
 go_loopg [33] n (fun gk v33 wr=>∃ i:Nat,v33=.int .i64 (i:Int)/\Hid (i+gk=n)/\Hid (Own w2 wr [(db,numC n (Cp.part L i D),3),(db+1,#[.slice (some ⟨db,0,none⟩) n n],22),(db+2,numC n (Cp.part L i Q),3),(db+3,#[.slice (some ⟨db+2,0,none⟩) n n],22)]))
 case atStart=>exact ⟨0,rfl,by show 0+n=n;omega,T3.out⟩
 case round =>
  obtain ⟨i,rfl,hi,T4⟩:=hrel;clear T3
  by_cases hin:i<n
  case neg =>
   obtain rfl:n=i:=by have:=hi.out;omega
   have k1:decide ((n:Int)<(n:Int))=false:=dF (by omega);clear hin hi;have eD:((List.range n).map fun i=>((Cp.part L n D i:Nat):Int))=(List.range n).map fun i=>((D i:Nat):Int):=List.map_congr_left fun g hg=>by
    have h1:=Cp.part_all (F:=D) (Cp.length_full (by rw [HNN.out] at *;exact HOK.out.1) (by rw [<- HNN.out];exact HOK.out.2)) (g:=g) (by rw [<- HNN.out];exact List.mem_range.1 hg);rw [HOK.out.2] at h1;rw [h1]
   have eQ:((List.range n).map fun i=>((Cp.part L n Q i:Nat):Int))=(List.range n).map fun i=>((Q i:Nat):Int):=List.map_congr_left fun g hg=>by
    have h1:=Cp.part_all (F:=Q) (Cp.length_full (by rw [HNN.out] at *;exact HOK.out.1) (by rw [<- HNN.out];exact HOK.out.2)) (g:=g) (by rw [<- HNN.out];exact List.mem_range.1 hg);rw [HOK.out.2] at h1;rw [h1]
   have al:Mod [] wr (wr.alloc (.cells #[.func (.func 111) #[] #[.pointer (some ⟨db+1,0,none⟩)],.func (.func 114) #[] #[.pointer (some ⟨db+3,0,none⟩)]] 117)):=(Mod.refl [] wr).alloc _
   have rD:=rows_of_blk ((T4.out.at 0 rfl).kept al (by simp)) (by have:=HN1.out;omega) (fun i hi=>by
    unfold Cp.part
    split
    ·have:=HE.out.2.2.1 i;omega
    ·omega)
   have rQ:=rows_of_blk ((T4.out.at 2 rfl).kept al (by simp)) (by have:=HN1.out;omega) (fun i hi=>by
    unfold Cp.part
    split
    ·have:=HE.out.2.2.2.1 i;omega
    ·omega)
   rw [eD] at rD;rw [eQ] at rQ;have HX:=Hi (comp_first (c:=2) _ (((T4.out.at 1 rfl).kept al (by simp)).cell 0) rD (((T4.out.at 3 rfl).kept al (by simp)).cell 0) rQ (Blk.new wr _ 117));have HM4:=Hi ((HM2.out.then T4.out.mod).then al);rw [HC.out] at HX;obtain ⟨C1,C2⟩:=C;simp only at HX ⊢;clear eD eQ al rD rQ HC;go_wp2_with fail;refine HX.out.mono ?_;rintro e w3 ⟨rfl,m3⟩;have HM:=Hi (HM4.out.then m3);clear m3 HX HM4 T4;go_wp2;go_ret2;exact ⟨rfl,HM.out⟩
  have k1:decide ((i:Int)<(n:Int))=true:=dT (by omega);have k2:(0:Int)<=i:=by omega
  have k3:(i:Int)<(n:Int):=by omega
  have k4:decide (i<n)=true:=dT hin;have hiL:i<L.length:=by rw [HOK.out.2];exact hin
  obtain ⟨la,rfl,-,cs,-,hc0,-,hx⟩:=(HL.out.mod RInt.stay T4.out.mod).at i (by rw [nats_length];exact hiL);have hxi:(nats L)[i]'(by rw [nats_length];exact hiL)=((L[i]:Nat):Int):=by unfold nats;simp
  rw [hxi] at hx;obtain ⟨rfl,-⟩:=hx;have c0:=hc0 (by decide);simp only [gZ,Nat.mul_one] at c0;obtain ⟨x,hx⟩:∃ x,x=L[i]:=⟨_,rfl⟩
  rw [<- hx] at c0;have hxn:x<n:=by rw [hx];exact HOK.out.1.lt _ (List.getElem_mem hiL)
  have hxg:x<gl.length:=by rw [<- HNN.out];exact hxn
  obtain ⟨ag,hag,-,cg,-,hg0,hgj,hgx⟩:=(HR.out.mod RGlyph.stay HM2.out).at x hxg;have hgl:gl[x]?=some gl[x]:=gE hxg;generalize gl[x]=G at *
  obtain ⟨v3,v4,v5,v6,v7,v8,rfl,-,-,y3,y4,y5,y6,y7,y8⟩:=hgx;obtain ⟨o3,d3,rfl,-⟩:=y3.form;obtain ⟨o5,d5,rfl,-⟩:=y5.form;have g3:=hgj 3 (by decide) (by decide);have g5:=hgj 5 (by decide) (by decide);simp only [gZ,gS] at g3 g5;have HPX:=Hi y5;have HXI:=Hi (show L[i]?=some x/\i<n/\x<n/\gl[x]?=some G from ⟨by rw [gE hiL,hx],hin,hxn,hgl⟩);have f1:=FB.out.cell 1;simp only [gA,gZ,gS] at f1;rw [hag] at f1;have F1:∀ W,Mod [] wr W->W.cell? ⟨fb,1,none⟩=some (.slice (some ag) n fg.c):=fun W m=>cell_stays (T4.out.mod.then m) f1
  have G3:∀ W,Mod [] wr W->W.cell? ⟨(ag.add (x*9)).block,(ag.add (x*9)).off+3,none⟩=some (.slice o3 G.pts.length d3):=fun W m=>cell_stays (T4.out.mod.then m) g3
  have P8:=(T4.out.at 3 rfl).every;have q2:(0:Int)<=x:=by omega
  have q3:(x:Int)<(n:Int):=by omega
  have HF1:=Hi f1;have HG5:=Hi g5;clear hx hiL hin hxi hc0 hxn hxg hag hg0 hgj hgl y3 y4 y5 y6 y7 y8 g3 g5 f1;go_upto_region 9 with fail;clear c0;refine wp_region_mask 11 [true,true,true,true,true,true,true,true,true,true,true] [] (by kernel_rfl) (by kernel_rfl) (by simp) ?_;simp only [pickM]
  iterate 11
   refine sv ?_
  refine steady_done ?_;refine lates_end (fun w' hw' _=>?_);simp only [qS,qZ];have T5:=Hi ((T4.out.call hw').set 2 rfl x (.int .i64 (G.pts.length:Int)));have c0:=((T4.out.call hw').at 2 rfl).cell x;rw [numC_at _ HXI.out.2.2.1] at c0;have f0:=((T4.out.call hw').at 2 rfl).frozen x;rw [numC_set] at T5;simp only [List.set_cons_zero,List.set_cons_succ] at T5;have hpd:Cp.part L i D=Cp.upd (Cp.part L i D) x 0:=by
   funext g
   unfold Cp.upd
   by_cases hg:g=x
   ·rw [if_pos hg,hg];have h1:=gI.1 HXI.out.1;have h2:=Cp.part_here HOK.out.1 h1.1 D;rw [h1.2] at h2;exact h2
   ·rw [if_neg hg]
  rw [hpd] at T5;have HPL:Hid (G.parts.length<=100/\(∀ p∈G.parts,isIn n p.glyph=true)/\own x=G.pts.length):=⟨HN.out.2.1 G (List.mem_of_getElem? HXI.out.2.2.2),by rw [HNN.out];exact HN.out.2.2.2 G (List.mem_of_getElem? HXI.out.2.2.2),HE.out.2.1 x G HXI.out.2.2.2⟩
  have G5:=cell_stays T5.out.mod HG5.out;have f1:=cell_stays T5.out.mod HF1.out;clear F1 G3 P8 hw' hpd;go_upto_region 10 with fail;clear c0 f0;generalize w'.setCell _ _=w5 at *
  go_wp2_with fail;clear G5 f1;obtain ⟨pn,hpn⟩:∃ pn,pn=G.parts.length:=⟨_,rfl⟩
  rw [<- hpn];have HPN:=Hi hpn;clear hpn;have T6:Hid (Own w2 w5 [(db,numC n (Cp.upd (Cp.part L i D) x (((G.parts.take 0).map fun p=>p.glyph.toNat).foldl (Cp.stepD D) 0)),3),(db+1,#[.slice (some ⟨db,0,none⟩) n n],22),(db+2,numC n (Cp.upd (Cp.part L i Q) x (((G.parts.take 0).map fun p=>p.glyph.toNat).foldl (Cp.stepQ Q) (own x))),3),(db+3,#[.slice (some ⟨db+2,0,none⟩) n n],22)]):=by
   rw [HPL.out.2.2];exact T5.out
  clear T5 T4
  go_loopg [55] pn (fun gk v55 wr=>∃ k:Nat,v55=.int .i64 (k:Int)/\Hid (k+gk=pn)/\Hid (Own w2 wr [(db,numC n (Cp.upd (Cp.part L i D) x (((G.parts.take k).map fun p=>p.glyph.toNat).foldl (Cp.stepD D) 0)),3),(db+1,#[.slice (some ⟨db,0,none⟩) n n],22),(db+2,numC n (Cp.upd (Cp.part L i Q) x (((G.parts.take k).map fun p=>p.glyph.toNat).foldl (Cp.stepQ Q) (own x))),3),(db+3,#[.slice (some ⟨db+2,0,none⟩) n n],22)]))
  case atStart=>exact ⟨0,rfl,by show 0+pn=pn;omega,T6.out⟩
  case round =>
   obtain ⟨k,rfl,hk,T7⟩:=hrel;clear T6
   by_cases hkn:k<pn
   case neg =>
    obtain rfl:pn=k:=by have:=hk.out;omega
    have k5:decide ((pn:Int)<(pn:Int))=false:=dF (by omega);have hpo:Ln.partsOf gl x=(G.parts.take pn).map fun p=>p.glyph.toNat:=by
     rw [Ln.partsOf_at HXI.out.2.2.2,HPN.out,List.take_length];exact here_all (by rw [<- HNN.out];exact HPL.out.2.1)
    have hxg2:x<gl.length:=by rw [<- HNN.out];exact HXI.out.2.2.1
    have eD:=HE.out.1.deep x hxg2;have eQ:=HE.out.1.pts x hxg2;rw [hpo] at eD eQ;rw [<- eD,<- eQ] at T7;have h1:=gI.1 HXI.out.1;have sD:=Cp.part_succ D h1.1;have sQ:=Cp.part_succ Q h1.1;rw [h1.2] at sD sQ;rw [<- sD,<- sQ] at T7;have HT8:=Hi T7.out;have ei:IntKind.i64.wrap ((i:Int)+1)=(i:Int)+1:=IntWalk.i64_in _ (by have:=HXI.out.2.1;have:=HN1.out;omega);clear hpo hxg2 eD eQ h1 sD sQ T7 hkn;go_wp2;go_roundg (n - (i+1))
    case measure=>have:=hi.out;have:=HXI.out.2.1;omega
    case rel=>exact ⟨i+1,by rw [Int.natCast_add];rfl,by have:=HXI.out.2.1;show i+1+(n - (i+1))=n;omega,HT8.out⟩
   have k5:decide ((k:Int)<(pn:Int))=true:=dT (by omega);have k6:(0:Int)<=k:=by omega
   have k7:(k:Int)<(pn:Int):=by omega
   have k8:decide (k<pn)=true:=dT hkn;have hkl:k<G.parts.length:=by rw [<- HPN.out];exact hkn
   have y5:=HPX.out;rw [<- HPN.out] at y5;obtain ⟨pa,rfl,-,cp,-,hp0,hpj,hpx⟩:=(y5.mod RPart.stay T7.out.mod).at k hkl;have hpin:=HPL.out.2.1 _ (List.getElem_mem hkl);have sD:=foldl_take (Cp.stepD D) (fun p:DPart=>p.glyph.toNat) 0 G.parts hkl;have sQ:=foldl_take (Cp.stepQ Q) (fun p:DPart=>p.glyph.toNat) (own x) G.parts hkl;have hpm:G.parts[k].glyph.toNat∈Ln.partsOf gl x:=by
    rw [Ln.partsOf_at HXI.out.2.2.2,here_all (by rw [<- HNN.out];exact HPL.out.2.1)];exact mM (f:=fun p:DPart=>p.glyph.toNat) (List.getElem_mem hkl)
   generalize G.parts[k]=p at *
   obtain ⟨rfl,-,-,-⟩:=hpx;have d0:=hp0 (by decide);have d1:=hpj 1 (by decide) (by decide);have d2:=hpj 2 (by decide) (by decide);simp only [gZ,gS] at d0 d1 d2
   obtain ⟨q,hq⟩:∃ q:Nat,p.glyph=(q:Int):=⟨p.glyph.toNat,by
    unfold isIn at hpin;simp only [Bool.and_eq_true,decide_eq_true_eq] at hpin
    omega⟩
   have hqn:q<n:=by
    unfold isIn at hpin;simp only [Bool.and_eq_true,decide_eq_true_eq] at hpin;omega
   have hqt:p.glyph.toNat=q:=by omega
   rw [hqt] at sD sQ hpm;have h1:=gI.1 HXI.out.1;have hqx:q≠x:=by have h2:=Cp.part_ne HOK.out.1 h1.1 (p:=q) (by rw [h1.2];exact hpm);rw [h1.2] at h2;exact h2
   have pD:Cp.part L i D q=D q:=Cp.part_part HOK.out.1 h1.1 (by rw [h1.2];exact hpm) D;have pQ:Cp.part L i Q q=Q q:=Cp.part_part HOK.out.1 h1.1 (by rw [h1.2];exact hpm) Q;have bD:=foldD_le HE.out.2.2.1 ((G.parts.take k).map fun p=>p.glyph.toNat) 0 (by omega);have bQ:=foldQ_le (Q:=Q) (c:=1000000) (by omega) ((G.parts.take k).map fun p=>p.glyph.toNat) (own x) (HE.out.2.2.2.2 x);have HS:=Hi (And.intro sD (And.intro sQ (And.intro hqn (And.intro hqx (And.intro pD (And.intro pQ (And.intro bD (And.intro bQ hkn))))))));have bDq:=HE.out.2.2.1 q;have bQq:=HE.out.2.2.2.1 q;obtain ⟨dx,hdx⟩:∃ dx,dx=((G.parts.take k).map fun p=>p.glyph.toNat).foldl (Cp.stepD D) 0:=⟨_,rfl⟩
   obtain ⟨qx,hqx2⟩:∃ qx,qx=((G.parts.take k).map fun p=>p.glyph.toNat).foldl (Cp.stepQ Q) (own x):=⟨_,rfl⟩
   rw [<- hdx,<- hqx2] at T7;rw [<- hdx] at bD;rw [<- hqx2] at bQ;have HDX:=Hi (And.intro hdx hqx2);obtain ⟨dq,hdq⟩:∃ dq,dq=D q:=⟨_,rfl⟩
   obtain ⟨qq,hqq⟩:∃ qq,qq=Q q:=⟨_,rfl⟩
   rw [<- hdq] at bDq;rw [<- hqq] at bQq;have HDQ:=Hi (And.intro hdq hqq);have ek:IntKind.i64.wrap ((k:Int)+1)=(k:Int)+1:=IntWalk.i64_in _ (by have:=HPL.out.1;have:=HPN.out;omega);obtain ⟨mb,hmb⟩:∃ mb:Int,mb=(dq:Int)+1:=⟨_,rfl⟩
   obtain ⟨mx,hmx⟩:∃ mx,mx=max dx (dq+1):=⟨_,rfl⟩
   obtain ⟨nb,hnb⟩:∃ nb:Int,nb=(qx:Int)+(qq:Int):=⟨_,rfl⟩
   obtain ⟨mn,hmn⟩:∃ mn,mn=min (qx+qq) 1001:=⟨_,rfl⟩
   have e1:IntKind.i64.wrap ((dq:Int)+1)=mb:=by rw [hmb];exact IntWalk.i64_in _ (by omega)
   have e2:IntKind.i64.wrap ((qx:Int)+(qq:Int))=nb:=by rw [hnb];exact IntWalk.i64_in _ (by omega)
   have e3:(if (dx:Int)<mb then mb else (dx:Int))=(mx:Int):=by rw [hmb,hmx];split <;> omega
   have e4:(if (1001:Int)<nb then (1001:Int) else nb)=(mn:Int):=by rw [hnb,hmn];split <;> omega
   have HMX:=Hi (And.intro hmx hmn);have HNE:Hid (wr.heap.size≠db):=by have h1:=T7.out.lt 0 rfl;show wr.heap.size≠db;omega
   have BX:=Hi (Blk.new wr #[.int .i64 p.glyph,.int .i64 p.x,.int .i64 p.y] 69);have T8:=Hi (T7.out.call ((Mod.refl [] wr).alloc (.cells #[.int .i64 p.glyph,.int .i64 p.x,.int .i64 p.y] 69)));rw [hq] at BX d0 T8;have HQ:=Hi hq;clear hkn hkl y5 hp0 hpj hpin sD sQ hpm hqn hqt h1 hqx pD pQ bD bQ bDq bQq hdx hqx2 hdq hqq T7 hmb hmx hnb hmn;go_upto_region 13 with fail;clear d0 d1 d2 hq;generalize wr.alloc (.cells #[.int .i64 (q:Int),.int .i64 p.x,.int .i64 p.y] 69)=W1 at *
   generalize wr.heap.size=b12 at *
   have A7:=(T8.out.at 1 rfl).every;have B0:=BX.out.every;have ADx:∀ W,Mod [] W1 W->W.cell? ⟨db,x,none⟩=some (.int .i64 (dx:Int)):=fun W m=>by
    rw [(T8.out.at 0 rfl).every W m x,numC_at _ HXI.out.2.2.1,Cp.upd_same]
   have ADq:∀ W,Mod [] W1 W->W.cell? ⟨db,q,none⟩=some (.int .i64 (dq:Int)):=fun W m=>by
    rw [(T8.out.at 0 rfl).every W m q,numC_at _ HS.out.2.2.1,Cp.upd_other _ _ HS.out.2.2.2.1,HS.out.2.2.2.2.1,HDQ.out.1]
   have q4:(0:Int)<=q:=by omega
   have q5:(q:Int)<(n:Int):=by have:=HS.out.2.2.1;omega
   refine wp_region_mask 14 [true,true,true,true,true,true,true,true,true,true,true,true,true,true] [] (by kernel_rfl) (by kernel_rfl) (by simp) ?_;simp only [pickM]
   iterate 14
    refine sv ?_
   refine steady_done ?_;refine lates_end (fun w' hw' _=>?_);simp only [qS,qZ];have T9:=Hi ((T8.out.call hw').set 0 rfl x (.int .i64 (mx:Int)));have c0:=((T8.out.call hw').at 0 rfl).cell x;rw [numC_at _ HXI.out.2.2.1] at c0;have f0:=((T8.out.call hw').at 0 rfl).frozen x;rw [numC_set,Cp.upd_upd] at T9;simp only [List.set_cons_zero] at T9;have BX2:=Hi ((BX.out.kept hw' (by simp)));rw [Cp.upd_same] at c0;clear A7 B0 ADx ADq hw' BX T8;go_upto_region 14 with fail;clear c0 f0;have BX3:=Hi (BX2.out.other (a:=⟨db,x,none⟩) (fun e=>HNE.out e.symm) (.int .i64 (mx:Int)));generalize w'.setCell _ _=W2 at *
   have A8:=(T9.out.at 3 rfl).every;have B0:=BX3.out.every;have AQx:∀ W,Mod [] W2 W->W.cell? ⟨db+2,x,none⟩=some (.int .i64 (qx:Int)):=fun W m=>by
    rw [(T9.out.at 2 rfl).every W m x,numC_at _ HXI.out.2.2.1,Cp.upd_same]
   have AQq:∀ W,Mod [] W2 W->W.cell? ⟨db+2,q,none⟩=some (.int .i64 (qq:Int)):=fun W m=>by
    rw [(T9.out.at 2 rfl).every W m q,numC_at _ HS.out.2.2.1,Cp.upd_other _ _ HS.out.2.2.2.1,HS.out.2.2.2.2.2.1,HDQ.out.2]
   refine wp_region_mask 14 [true,true,true,true,true,true,true,true,true,true,true,true,true,true] [] (by kernel_rfl) (by kernel_rfl) (by simp) ?_;simp only [pickM]
   iterate 14
    refine sv ?_
   refine steady_done ?_;refine lates_end (fun w'' hw'' _=>?_);simp only [qS,qZ];have T10:=Hi ((T9.out.call hw'').set 2 rfl x (.int .i64 (mn:Int)));have c0:=((T9.out.call hw'').at 2 rfl).cell x;rw [numC_at _ HXI.out.2.2.1,Cp.upd_same] at c0;have f0:=((T9.out.call hw'').at 2 rfl).frozen x;rw [numC_set,Cp.upd_upd] at T10;simp only [List.set_cons_zero,List.set_cons_succ] at T10;have fD:mx=((G.parts.take (k+1)).map fun p=>p.glyph.toNat).foldl (Cp.stepD D) 0:=by rw [HS.out.1,<- HDX.out.1,HMX.out.1,HDQ.out.1];rfl
   have fQ:mn=((G.parts.take (k+1)).map fun p=>p.glyph.toNat).foldl (Cp.stepQ Q) (own x):=by rw [HS.out.2.1,<- HDX.out.2,HMX.out.2,HDQ.out.2];rfl
   have HF:=Hi (And.intro fD fQ);clear A8 B0 AQx AQq hw'' BX3 T9 BX2 fD fQ;go_wp2;go_roundg (pn - (k+1))
   case measure=>have:=hk.out;have:=HS.out.2.2.2.2.2.2.2.2;omega
   case rel=>exact ⟨k+1,by rw [Int.natCast_add];rfl,by have:=HS.out.2.2.2.2.2.2.2.2;show k+1+(pn - (k+1))=pn;omega,by rw [<- HF.out.1,<- HF.out.2];exact T10.out⟩
namespace Lf
structure S where
 way:List (Nat×Nat)
 met:Nat->Bool
 told:List Nat
def isIn (n:Nat) (g:Int):Bool:=decide (0<=g) && decide (g<n)
def enter (n:Nat) (g:Int) (s:S):S:=if isIn n g && !s.met g.toNat then ⟨s.way++[(g.toNat,0)],fun q=>if q=g.toNat then true else s.met q,s.told⟩ else s
def step (n:Nat) (P:Nat->List Int) (g k:Nat) (ws:List (Nat×Nat)) (s:S):S :=
 if k=(P g).length then ⟨ws,s.met,s.told++[g]⟩ else enter n ((P g).getD k 0) ⟨ws++[(g,k+1)],s.met,s.told⟩
inductive Run (n:Nat) (P:Nat->List Int):S->S->Prop
 | done {s:S}:s.way=[]->Run n P s s
 | step {s t:S} {g k:Nat} {ws:List (Nat×Nat)}:s.way=ws++[(g,k)]->Run n P (step n P g k ws s) t->Run n P s t
inductive Goes (n:Nat) (P:Nat->List Int):Nat->S->Prop
 | start:Goes n P 0 ⟨[],fun _=>false,[]⟩
 | next {i:Nat} {s t:S}:Goes n P i s->i<n->Run n P (enter n (i:Int) s) t->Goes n P (i+1) t
theorem Run.det {n:Nat} {P:Nat->List Int} {s t:S} (h:Run n P s t):∀ {t'},Run n P s t'->t=t':=by
 induction h with
 | done h0 =>
  intro t' h';cases h' with
  | done=>rfl
  | step h1=>rw [h0] at h1;simp at h1
 | step h0 _ ih =>
  intro t' h';cases h' with
  | done h1=>rw [h1] at h0;simp at h0
  | step h1 h2 =>
   rw [h0] at h1;obtain ⟨rfl,h3⟩:=List.append_inj' h1 rfl;simp only [List.cons.injEq,and_true,Prod.mk.injEq] at h3;obtain ⟨rfl,rfl⟩:=h3;exact ih h2
theorem Goes.det {n:Nat} {P:Nat->List Int} {i:Nat} {s:S} (h:Goes n P i s):∀ {s'},Goes n P i s'->s=s':=by
 induction h with
 | start=>intro s' h';cases h';rfl
 | next _ _ h2 ih =>
  intro s' h';cases h' with
  | next h3 _ h4=>have:=ih h3;subst this;exact h2.det h4
structure Ok (n:Nat) (P:Nat->List Int) (s:S):Prop where
 lt:∀ x∈s.way,x.1<n/\x.2<=(P x.1).length
 tl:∀ x∈s.told,x<n
def debt (P:Nat->List Int) (met:Nat->Bool) (g:Nat):Nat:=cond (met g) 0 (2+(P g).length)
def owed (n:Nat) (P:Nat->List Int) (met:Nat->Bool):Nat:=((List.range n).map (debt P met)).sum
def left (P:Nat->List Int) (way:List (Nat×Nat)):Nat:=(way.map fun x=>(P x.1).length - x.2+1).sum
def mu (n:Nat) (P:Nat->List Int) (s:S):Nat:=owed n P s.met+left P s.way
theorem left_snoc (P:Nat->List Int) (way:List (Nat×Nat)) (g k:Nat):left P (way++[(g,k)])=left P way+((P g).length - k+1):=by
 unfold left;rw [List.map_append,List.sum_append];simp
theorem owed_meet {n:Nat} {P:Nat->List Int} {met:Nat->Bool} {g:Nat} (hg:g<n) (hm:met g=false):owed n P met=owed n P (fun q=>if q=g then true else met q)+(2+(P g).length):=by
 have h1:debt P met g=2+(P g).length:=by unfold debt;rw [hm];rfl
 have h2:debt P (fun q=>if q=g then true else met q) g=0:=by unfold debt;simp
 have h3:∀ q,q≠g->debt P (fun q=>if q=g then true else met q) q=debt P met q:=fun q hq=>by unfold debt;simp [hq]
 unfold owed
 induction n with
 | zero=>omega
 | succ n ih =>
  rw [List.range_succ,List.map_append,List.map_append,List.sum_append,List.sum_append];simp only [List.map_cons,List.map_nil,List.sum_cons,List.sum_nil,Nat.add_zero]
  by_cases h:g=n
  ·subst h;rw [h1,h2,List.map_congr_left fun q hq=>h3 q (by have:=List.mem_range.1 hq;omega)];omega
  ·rw [h3 n (fun e=>h e.symm)];have:=ih (by omega);omega
theorem enter_mu {n:Nat} {P:Nat->List Int} (g:Int) (s:S):mu n P (enter n g s)<=mu n P s:=by
 unfold enter
 split
 ·rename_i h;simp only [Bool.and_eq_true,Bool.not_eq_true',isIn,decide_eq_true_eq] at h;unfold mu;rw [left_snoc,owed_meet (P:=P) (g:=g.toNat) (met:=s.met) (n:=n) (by omega) h.2];simp only;omega
 ·exact nR _
theorem enter_ok {n:Nat} {P:Nat->List Int} (g:Int) {s:S} (h:Ok n P s):Ok n P (enter n g s):=by
 unfold enter
 split
 ·rename_i hh;simp only [Bool.and_eq_true,Bool.not_eq_true',isIn,decide_eq_true_eq] at hh;refine ⟨fun x hx=>?_,h.tl⟩;rcases List.mem_append.1 hx with hx | hx
  ·exact h.lt x hx
  ·rw [mI.1 hx];exact ⟨by show g.toNat<n;omega,Nat.zero_le _⟩
 ·exact h
theorem step_mu {n:Nat} {P:Nat->List Int} {s:S} {g k:Nat} {ws:List (Nat×Nat)} (h:Ok n P s) (hw:s.way=ws++[(g,k)]):mu n P (step n P g k ws s)<mu n P s:=by
 unfold step
 split
 ·rename_i hk;unfold mu;rw [hw,left_snoc];simp only;omega
 ·rename_i hk;have h1:=h.lt (g,k) (by rw [hw];simp);refine Nat.lt_of_le_of_lt (enter_mu _ _) ?_;unfold mu;rw [hw,left_snoc,left_snoc];have:=h1.2;simp only at this ⊢;omega
theorem step_ok {n:Nat} {P:Nat->List Int} {s:S} {g k:Nat} {ws:List (Nat×Nat)} (h:Ok n P s) (hw:s.way=ws++[(g,k)]):Ok n P (step n P g k ws s):=by
 have h1:=h.lt (g,k) (by rw [hw];simp);unfold step
 split
 ·refine ⟨fun x hx=>h.lt x (by rw [hw];exact List.mem_append_left _ hx),fun x hx=>?_⟩;rcases List.mem_append.1 hx with hx | hx
  ·exact h.tl x hx
  ·rw [mI.1 hx];exact h1.1
 ·rename_i hk;refine enter_ok _ ⟨fun x hx=>?_,h.tl⟩;rcases List.mem_append.1 hx with hx | hx
  ·exact h.lt x (by rw [hw];exact List.mem_append_left _ hx)
  ·rw [mI.1 hx];have h2:k<=(P g).length:=h1.2;exact ⟨h1.1,by show k+1<=(P g).length;omega⟩
theorem enter_told (n:Nat) (g:Int) (s:S):(enter n g s).told=s.told:=by unfold enter;split <;> rfl
theorem step_told (n:Nat) (P:Nat->List Int) (g k:Nat) (ws:List (Nat×Nat)) (s:S):(step n P g k ws s).told.length<=s.told.length+1:=by
 unfold step
 split
 ·simp
 ·rw [enter_told];simp
theorem way_le (P:Nat->List Int):∀ way:List (Nat×Nat),way.length<=left P way
 | []=>nR _
 | x::r=>by
  have:=way_le P r;unfold left at *
  simp only [List.map_cons,List.sum_cons,List.length_cons];omega
theorem owed_le {P:Nat->List Int} {c:Nat} (hP:∀ g,(P g).length<=c) (n:Nat) (met:Nat->Bool):owed n P met<=n*(2+c):=by
 unfold owed
 induction n with
 | zero=>simp
 | succ n ih =>
  rw [List.range_succ,List.map_append,List.sum_append,Nat.add_mul,Nat.one_mul];simp only [List.map_cons,List.map_nil,List.sum_cons,List.sum_nil,Nat.add_zero];have h1:debt P met n<=2+c:=by
   unfold debt;have:=hP n;cases met n <;> simp;omega
  omega
structure Few (n:Nat) (P:Nat->List Int) (c:Nat) (s:S):Prop where
 ok:Ok n P s
 few:s.told.length+mu n P s<=c
theorem Few.start {n:Nat} {P:Nat->List Int} {c:Nat} (hP:∀ g,(P g).length<=c):Few n P (n*(2+c)) ⟨[],fun _=>false,[]⟩ :=
 ⟨⟨fun x hx=>(by cases hx),fun x hx=>(by cases hx)⟩,by have:=owed_le hP n (fun _=>false);unfold mu left;simp;omega⟩
theorem Few.enter {n:Nat} {P:Nat->List Int} {c:Nat} {s:S} (h:Few n P c s) (g:Int):Few n P c (enter n g s) :=
 ⟨enter_ok g h.ok,by rw [enter_told];have:=enter_mu (n:=n) (P:=P) g s;have:=h.few;omega⟩
theorem Few.step {n:Nat} {P:Nat->List Int} {c:Nat} {s:S} {g k:Nat} {ws:List (Nat×Nat)} (h:Few n P c s) (hw:s.way=ws++[(g,k)]):Few n P c (step n P g k ws s) :=
 ⟨step_ok h.ok hw,by have:=step_told n P g k ws s;have:=step_mu h.ok hw;have:=h.few;omega⟩
theorem Few.told {n:Nat} {P:Nat->List Int} {c:Nat} {s:S} (h:Few n P c s):s.told.length<=c:=by have:=h.few;omega
theorem Few.way {n:Nat} {P:Nat->List Int} {c:Nat} {s:S} (h:Few n P c s):s.way.length<=c:=by have h1:=h.few;have h2:=way_le P s.way;unfold mu at h1;omega
end Lf
theorem inf_Stop:(Tryz.prog.info? 238).map (fun i=>(i.zero,i.size,i.bytes))=some (some (.agg #[.int .i64 0,.int .i64 0]),2,16):=by kernel_rfl
theorem ownk_set {w:World} {base g c n i k:Nat} {e:TypeId} {xs:List Value} (h:w.ownsRow base e k (.slice (some ⟨g,0,none⟩) n c) n xs) (u:Value) :
  (w.setCell ⟨g,i,none⟩ u).ownsRow base e k (.slice (some ⟨g,0,none⟩) n c) n (xs.set i u):=by
 refine ⟨by rw [List.length_set];exact h.1,?_⟩;rcases h.2 with ⟨hv,-⟩ | ⟨g',cap,cur,hv,hb,hg,hc,hm,hs,ht⟩
 ·cases hv
 ·cases hv;refine .inr ⟨g,c,cur.setIfInBounds i u,rfl,hb,Blk.set (w:=w) hg i u,hc,hm,by rw [Array.size_setIfInBounds];exact hs,?_⟩;rw [Array.toList_setIfInBounds,List.take_set,ht]
theorem ownk_cut {w:World} {base n m c k:Nat} {oa:Option Addr} {e:TypeId} {xs:List Value} (h:w.ownsRow base e k (.slice oa n c) n xs) (hm:m<=n) :
  w.ownsRow base e k (.slice oa m c) m (xs.take (m*k)):=by
 have hl:=h.1;have hmk:m*k<=n*k:=Nat.mul_le_mul_right _ hm;refine ⟨by rw [List.length_take];omega,?_⟩;rcases h.2 with ⟨hv,hn⟩ | ⟨g',cap,cur,hv,hb,hg,hc,hm',hs,ht⟩
 ·cases hv;obtain rfl:m=0:=by omega
  exact .inl ⟨rfl,rfl⟩
 ·cases hv;refine .inr ⟨g',c,cur,rfl,hb,hg,by omega,hm',hs,?_⟩;rw [<- ht,List.take_take]
  congr 1;omega
theorem ownk_at {w:World} {base g n c k:Nat} {e:TypeId} {xs:List Value} (h:w.ownsRow base e k (.slice (some ⟨g,0,none⟩) n c) n xs) {i:Nat} (hi:i<n*k):w.cell? ⟨g,i,none⟩=xs[i]?:=by
 rcases h.2 with ⟨hv,-⟩ | ⟨g',cap,cur,hv,hb,hg,hc,hm,hs,ht⟩
 ·cases hv
 ·cases hv;have hB:Blk w g cur e:=hg;rw [hB.cell,<- ht,List.getElem?_take,if_pos (by omega)];simp
def stops (l:List (Nat×Nat)):List Value:=l.flatMap fun x=>[.int .i64 (x.1:Int),.int .i64 (x.2:Int)]
theorem stops_length (l:List (Nat×Nat)):(stops l).length=l.length*2:=by
 unfold stops
 induction l with
 | nil=>rfl
 | cons a r ih=>rw [List.flatMap_cons,List.length_append,ih];simp;omega
theorem stops_snoc (l:List (Nat×Nat)) (g k:Nat):stops (l++[(g,k)])=stops l++[.int .i64 (g:Int),.int .i64 (k:Int)]:=by unfold stops;rw [List.flatMap_append];simp
theorem run_addS {base b c:Nat} {t ty:TypeId} {v:Value} {l:List (Nat×Nat)} {w:World} {g k:Nat} (ht:Tryz.prog.underlying t=some (.slice 238)) (h:w.ownsRow base 238 2 v l.length (stops l)) (hB:Blk w b #[.int .i64 (g:Int),.int .i64 (k:Int)] 238)
  (hn:l.length<=1000000) (hbase:base<=w.heap.size):∃ v' w',(Builtin.append_ #[t,t] ty #[v,.slice (some ⟨b,0,none⟩) 1 c]).run Tryz.prog w=.ok v' w' /\
   w'.ownsRow base 238 2 v' (l.length+1) (stops (l++[(g,k)]))/\w.grownBy w' v.ownBlock/\(v'.ownBlock=v.ownBlock∨v'.ownBlock=some w.heap.size):=by
 obtain ⟨i0,hi,hz0,hz1,hz2⟩:=info_parts inf_Stop;have hnews:∀ (j:Nat) (u:Value),[Value.int .i64 (g:Int),Value.int .i64 (k:Int)][j]?=some u->w.cell? ((⟨b,0,none⟩:Addr).add j)=some u:=fun j u hu=>by
  have e1:(⟨b,0,none⟩:Addr).add j=⟨b,j,none⟩:=by unfold Addr.add;split <;> simp_all
  rw [e1,hB.cell,<- hu];simp
 have one:∀ u∈[Value.int .i64 (g:Int),Value.int .i64 (k:Int)],u.oneCell'=true:=fun u hu=>by
  simp only [List.mem_cons,List.not_mem_nil,or_false] at hu;rcases hu with rfl | rfl <;> rfl
 obtain ⟨v',w',hr,h2,h3,_⟩:=run_append_own (P:=Tryz.prog) w base t ty 238 i0 _ 2 16 ht hi hz0 hz1 hz2 rfl (by decide) v l.length (stops l) h ⟨b,0,none⟩ 1 c [.int .i64 (g:Int),.int .i64 (k:Int)] rfl hnews one (by unfold maxLen;omega) (by omega) hbase;have hbk:=append_block (P:=Tryz.prog) t ty 238 i0 _ 2 16 ht hi hz0 hz1 hz2 rfl v l.length (stops l) h ⟨b,0,none⟩ 1 c [.int .i64 (g:Int),.int .i64 (k:Int)] rfl hnews one (by unfold maxLen;omega) (by omega) hr;refine ⟨v',w',hr,?_,h3,hbk⟩;rw [stops_snoc];exact h2
theorem wpList_addS {base b c:Nat} {t:TypeId} {v:Value} {l:List (Nat×Nat)} {w:World} {g k:Nat} {ops:Array Oper} {rest:List Oper} {o:Oper} {a:Act} {Q:Exit->Act->World->Prop} (hgd:o.guard=none) (s x:Operand)
  (ho:o.op=.call { callee:=.builtin .append,args:=#[s,x],argTypes:=#[t,t] }) (ht:Tryz.prog.underlying t=some (.slice 238)) (hs:a.eval s=v) (h:w.ownsRow base 238 2 v l.length (stops l))
  (hx:a.eval x=.slice (some ⟨b,0,none⟩) 1 c) (hB:Blk w b #[.int .i64 (g:Int),.int .i64 (k:Int)] 238) (hn:l.length<=1000000) (hbase:base<=w.heap.size)
  (hK:∀ v' w',w'.ownsRow base 238 2 v' (l.length+1) (stops (l++[(g,k)]))->w.grownBy w' v.ownBlock->(v'.ownBlock=v.ownBlock∨v'.ownBlock=some w.heap.size)->wpList Tryz.prog ops Q rest (a.put o.dst v') w'):wpList Tryz.prog ops Q (o::rest) a w:=by
 obtain ⟨v',w',hr,h2,h3,h4⟩:=run_addS (ty:=o.type) (c:=c) ht h hB hn hbase;refine wpList_plain hgd fun K hKK=>?_
 unfold Oper.wp execOp;simp only [ho,resolve,invoke,builtin,Sem.run_bind,Sem.run_pure,Result.andThen_ok,List.map_toArray,List.map_cons,List.map_nil,hs,hx,hr];exact hKK _ _ (hK v' w' h2 h3 h4)
structure LfS (W:World) (N:Nat) (fc:Array Value) (s:Lf.S) (wv tv:Value) (w:World):Prop where
 hN:N=W.heap.size
 mod:Mod [] W w
 font:Blk w N fc 32
 mbx:Blk w (N+2) #[.map (some (N+1))] 221
 wbx:Blk w (N+3) #[wv] 236
 met:∃ m,Gm.GMap (Value.int .i64) w (N+1) m/\∀ g:Nat,(Gm.look m (g:Int)).getD (.bool false)=.bool (s.met g)
 wrow:w.ownsRow (N+4) 238 2 wv s.way.length (stops s.way)
 trow:w.ownsRow (N+4) 3 1 tv s.told.length (ints (nats s.told))
 ne:wv.ownBlock=none∨wv.ownBlock≠tv.ownBlock
 base:N+4<=w.heap.size
section
variable {W:World} {N:Nat} {fc:Array Value} {s:Lf.S} {wv tv:Value} {w w':World}
theorem owns_keep {base:Nat} {e:TypeId} {k n:Nat} {v:Value} {xs:List Value} {F:List Nat} (h:w.ownsRow base e k v n xs) (m:Mod F w w') (hF:∀ b∈F,v.ownBlock≠some b):w'.ownsRow base e k v n xs:=by
 refine ⟨h.1,?_⟩;rcases h.2 with hh | ⟨g,cap,cur,hv,hbg,hg,h3⟩
 ·exact .inl hh
 ·refine .inr ⟨g,cap,cur,hv,hbg,?_,h3⟩;have hob:v.ownBlock=some g:=by rw [hv];rfl
  rw [m.block g (h.lt g hob).2 fun hm=>hF g hm hob];exact hg
theorem LfS.step (h:LfS W N fc s wv tv w) (m:Mod [] w w'):LfS W N fc s wv tv w':=by
 obtain ⟨m1,hm1,hm2⟩:=h.met;exact ⟨h.hN,h.mod.then m,h.font.kept m (by simp),h.mbx.kept m (by simp),h.wbx.kept m (by simp),⟨m1,hm1.mod m (by simp),hm2⟩,owns_mod h.wrow m,owns_mod h.trow m,h.ne,nT h.base m.size⟩
theorem LfS.wge (h:LfS W N fc s wv tv w):∀ b,wv.ownBlock=some b->N+4<=b/\b<w.heap.size:=fun b hb=>h.wrow.lt b hb
theorem LfS.tge (h:LfS W N fc s wv tv w):∀ b,tv.ownBlock=some b->N+4<=b/\b<w.heap.size:=fun b hb=>h.trow.lt b hb
theorem LfS.meet (h:LfS W N fc s wv tv w) (g:Nat) {m:List (Int×Value)} (hm:Gm.GMap (Value.int .i64) w (N+1) m/\∀ g:Nat,(Gm.look m (g:Int)).getD (.bool false)=.bool (s.met g))
  (hG:Gm.GMap (Value.int .i64) w' (N+1) (Gm.put m (g:Int) (.bool true))) (k:Mod [N+1] w w'):LfS W N fc ⟨s.way,fun q=>if q=g then true else s.met q,s.told⟩ wv tv w':=by
 have hN:=h.hN
 refine ⟨h.hN,h.mod.trans k (fun b hb hlt=>by simp at hb;omega),h.font.kept k (by simp),h.mbx.kept k (by simp),h.wbx.kept k (by simp),⟨_,hG,fun q=>?_⟩,
  owns_keep h.wrow k (fun b hb e=>by have:=(h.wge b e).1;simp at hb;omega),owns_keep h.trow k (fun b hb e=>by have:=(h.tge b e).1;simp at hb;omega),h.ne,nT h.base k.size⟩
 show _=Value.bool (if q=g then true else s.met q);rw [Gm.look_put]
 by_cases hq:q=g
 ·rw [if_pos (by rw [hq]),if_pos hq];rfl
 ·rw [if_neg (by omega),if_neg hq];exact hm.2 q
theorem LfS.go {F:List Nat} (h:LfS W N fc s wv tv w) (way:List (Nat×Nat)) {v':Value} (k:Mod F w w') (hF:∀ x∈F,x=N+3∨wv.ownBlock=some x) (hr:Blk w' (N+3) #[v'] 236) (ho:w'.ownsRow (N+4) 238 2 v' way.length (stops way))
  (hb:v'.ownBlock=wv.ownBlock∨∃ g,v'.ownBlock=some g/\w.heap.size<=g):LfS W N fc ⟨way,s.met,s.told⟩ v' tv w':=by
 have hN:=h.hN;have ge:∀ x∈F,x=N+3∨N+4<=x:=fun x hx=>(hF x hx).imp id fun e=>(h.wge x e).1
 have nin:∀ k,k<N+3->k ∉ F:=fun k hk hm=>by have:=ge k hm;omega
 obtain ⟨m1,hm1,hm2⟩:=h.met;refine ⟨h.hN,h.mod.trans k (fun x hx hlt=>by have:=ge x hx;omega),h.font.kept k (nin _ (by omega)),h.mbx.kept k (nin _ (by omega)),hr,⟨m1,hm1.mod k (nin _ (by omega)),hm2⟩,ho,owns_keep h.trow k (fun b hb e=>?_),?_,nT h.base k.size⟩
 ·rcases hF b hb with h1 | h1
  ·have:=(h.tge b e).1;omega
  ·rcases h.ne with h2 | h2
   ·rw [h2] at h1;cases h1
   ·exact h2 (by rw [h1,e])
 ·rcases hb with hb | ⟨g,hb,hg⟩
  ·rw [hb];exact h.ne
  ·right;rw [hb];intro e;have:=(h.tge g e.symm).2;omega
theorem LfS.tell {F:List Nat} (h:LfS W N fc s wv tv w) (L:List Nat) {v':Value} (k:Mod F w w') (hF:∀ x∈F,tv.ownBlock=some x) (ho:w'.ownsRow (N+4) 3 1 v' L.length (ints (nats L)))
  (hb:v'.ownBlock=tv.ownBlock∨∃ g,v'.ownBlock=some g/\w.heap.size<=g):LfS W N fc ⟨s.way,s.met,L⟩ wv v' w':=by
 have hN:=h.hN;have ge:∀ x∈F,N+4<=x:=fun x hx=>(h.tge x (hF x hx)).1
 have nin:∀ k,k<N+4->k ∉ F:=fun k hk hm=>by have:=ge k hm;omega
 obtain ⟨m1,hm1,hm2⟩:=h.met;refine ⟨h.hN,h.mod.trans k (fun x hx hlt=>by have:=ge x hx;omega),h.font.kept k (nin _ (by omega)),h.mbx.kept k (nin _ (by omega)),h.wbx.kept k (nin _ (by omega)),⟨m1,hm1.mod k (nin _ (by omega)),hm2⟩,owns_keep h.wrow k (fun b hb e=>?_),ho,?_,nT h.base k.size⟩
 ·rcases h.ne with h2 | h2
  ·rw [h2] at e;cases e
  ·exact h2 (by rw [e,hF b hb])
 ·rcases hb with hb | ⟨g,hb,hg⟩
  ·rw [hb];exact h.ne
  ·cases hw:wv.ownBlock with
   | none=>exact .inl rfl
   | some b=>right;rw [hb];intro e;injection e with e;have:=(h.wge b hw).2;omega
theorem LfS.push (h:LfS W N fc s wv tv w) (g k:Nat) {v':Value} (hG:w'.ownsRow (N+4) 238 2 v' (s.way.length+1) (stops (s.way++[(g,k)]))) (gr:w.grownBy w' wv.ownBlock)
  (hb:v'.ownBlock=wv.ownBlock∨v'.ownBlock=some w.heap.size):LfS W N fc ⟨s.way++[(g,k)],s.met,s.told⟩ v' tv (w'.setCell ⟨N+3,0,none⟩ v'):=by
 have h5:=h.wbx.lt;have hbx:=h.wbx.kept (Mod.ofGrown gr) (fun hm=>by have:=(h.wge _ (by simpa using hm)).1;omega);have hne:v'.ownBlock≠some (N+3):=fun e=>by
  rcases hb with hb | hb
  ·have:=(h.wge (N+3) (by rw [<- hb,e])).1;omega
  ·rw [hb] at e;injection e with e;omega
 refine h.go (F:=(N+3)::wv.ownBlock.toList) (s.way++[(g,k)]) (((Mod.ofGrown gr).more fun x hx _=>List.mem_cons_of_mem _ hx).setCell (p:=⟨N+3,0,none⟩) (fun _=>by simp) v') (fun x hx=>?_) (hbx.set 0 v') ?_ (hb.imp id fun e=>⟨_,e,nR _⟩)
 ·rcases List.mem_cons.1 hx with rfl | hx
  ·exact .inl rfl
  ·exact .inr (by simpa using hx)
 ·rw [List.length_append];refine hG.kept (row:=some (N+3)) ⟨rfl,rfl,rfl,by simp,fun k hk hn=>Below.heap_setCell w' _ _ k (fun he=>hn (by rw [he]))⟩ (.inr hne)
end
theorem LfS.start (w:World) (fc:Array Value):LfS w w.heap.size fc ⟨[],fun _=>false,[]⟩ nilS nilS
  ((((w.alloc (.cells fc 32)).alloc (.map #[] 0)).alloc (.cells #[.map (some (w.heap.size+1))] 221)).alloc (.cells #[.slice none 0 0] 236)):=by
 have b0:=Blk.new w fc 32;have m0:Mod [] w (w.alloc (.cells fc 32)):=(Mod.refl [] w).alloc _;have s0:(w.alloc (.cells fc 32)).heap.size=w.heap.size+1:=by simp
 generalize w.alloc (.cells fc 32)=w0 at *
 have b1:=Gm.GMap.new (Value.int .i64) w0;have m1:Mod [] w0 (w0.alloc (.map #[] 0)):=(Mod.refl [] w0).alloc _;have s1:(w0.alloc (.map #[] 0)).heap.size=w.heap.size+2:=by simp;omega
 generalize w0.alloc (.map #[] 0)=w1 at *
 have b2:=Blk.new w1 #[.map (some (w.heap.size+1))] 221;have m2:Mod [] w1 (w1.alloc (.cells #[.map (some (w.heap.size+1))] 221)):=(Mod.refl [] w1).alloc _;have s2:(w1.alloc (.cells #[.map (some (w.heap.size+1))] 221)).heap.size=w.heap.size+3:=by simp;omega
 generalize w1.alloc (.cells #[.map (some (w.heap.size+1))] 221)=w2 at *
 have b3:=Blk.new w2 #[.slice none 0 0] 236;have m3:Mod [] w2 (w2.alloc (.cells #[.slice none 0 0] 236)):=(Mod.refl [] w2).alloc _;have s3:(w2.alloc (.cells #[.slice none 0 0] 236)).heap.size=w.heap.size+4:=by simp;omega
 generalize w2.alloc (.cells #[.slice none 0 0] 236)=w3 at *
 have z:∀ {a b c:World},Mod [] a b->Mod [] b c->Mod [] a c:=fun h k=>h.then k
 rw [s0] at b1;rw [s1] at b2;rw [s2] at b3
 exact ⟨rfl,z m0 (z m1 (z m2 m3)),b0.kept (z m1 (z m2 m3)) (by simp),b2.kept m3 (by simp),b3,⟨[],b1.mod (z m2 m3) (by simp),fun g=>by simp [Gm.look]⟩,
  World.ownsRow_nil _ _ 238 2,World.ownsRow_nil _ _ 3 1,.inl rfl,by omega⟩
theorem stops_at (ws:List (Nat×Nat)) (g k:Nat):(stops (ws++[(g,k)]))[ws.length*2]?=some (.int .i64 (g:Int))/\(stops (ws++[(g,k)]))[ws.length*2+1]?=some (.int .i64 (k:Int)):=by
 rw [stops_snoc];constructor
 ·rw [List.getElem?_append_right (by rw [stops_length];omega),stops_length,Nat.sub_self];rfl
 ·rw [List.getElem?_append_right (by rw [stops_length];omega),stops_length,show ws.length*2+1 - ws.length*2=1 by omega];rfl
theorem stops_set (ws:List (Nat×Nat)) (g k j:Nat):(stops (ws++[(g,k)])).set (ws.length*2+1) (.int .i64 (j:Int))=stops (ws++[(g,j)]):=by
 rw [stops_snoc,stops_snoc,List.set_append_right _ _ (by rw [stops_length];omega),stops_length,show ws.length*2+1 - ws.length*2=1 by omega];rfl
theorem stops_take (ws:List (Nat×Nat)) (g k:Nat):(stops (ws++[(g,k)])).take (ws.length*2)=stops ws:=by
 rw [stops_snoc,List.take_append_of_le_length (by rw [stops_length];omega),List.take_of_length_le (by rw [stops_length];omega)]
def rawParts (gl:List DGlyph) (g:Nat):List Int:=match gl[g]? with | some x=>x.parts.map DPart.glyph | none=>[]
theorem rawParts_at {gl:List DGlyph} {g:Nat} {x:DGlyph} (h:gl[g]?=some x):rawParts gl g=x.parts.map DPart.glyph:=by unfold rawParts;rw [h]
set_option maxRecDepth 100000 in
theorem enter_any {u:Int} {fg fc fl ff fx fr fn fv:Hd} {W:World} {N:Nat} {s:Lf.S} {wv tv:Value} (g:Int) (w:World) (h:LfS W N (fontCells u fg fc fl ff fx fr fn fv) s wv tv w) (hl:s.way.length<=1000000) :
  Calls Tryz.prog 189 #[.int .i64 g,.pointer (some ⟨N,0,none⟩),.pointer (some ⟨N+2,0,none⟩),.pointer (some ⟨N+3,0,none⟩)] w fun e w'=>e=.returned (.tuple #[])/\∃ wv',LfS W N (fontCells u fg fc fl ff fx fr fn fv) (Lf.enter fg.n g s) wv' tv w':=by
 have H:=Hi h;have HL:=Hi hl;have z:=h.font;unfold fontCells at z;have f0:=z.cell 0;have f1:=z.cell 1;have f2:=z.cell 2;have f3:=z.cell 3;have f4:=z.cell 4;have f5:=z.cell 5;have f6:=z.cell 6;have f7:=z.cell 7;have f8:=z.cell 8;simp only [gA,gZ,gS] at f0 f1 f2 f3 f4 f5 f6 f7 f8;have HX:=Hi (there_any u fg fc fl ff fx fr fn fv g w);unfold fontCells at HX;obtain ⟨b,hb⟩:∃ b,isIn fg.n g=b:=⟨_,rfl⟩
 rw [hb] at HX;have HB:=Hi hb;clear h hl z hb;cases b with
 | false =>
  have HE:Hid (Lf.enter fg.n g s=s):=by
   show _=_;unfold Lf.enter;rw [show Lf.isIn fg.n g=false from HB.out];rfl
  go_enter Tryz.func189,Tryz.ntmps189;go_wp2_with fail;refine HX.out.mono ?_;rintro e w1 ⟨rfl,m1⟩;have H1:=Hi (H.out.step m1);clear m1 HX H f0 f1 f2 f3 f4 f5 f6 f7 f8;go_wp2_with fail;refine bodyPost_end (results_none rfl _ _ _) rfl ?_;exact ⟨rfl,wv,by rw [HE.out];exact H1.out⟩
 | true =>
  obtain ⟨q,rfl⟩:∃ q:Nat,g=(q:Int):=⟨g.toNat,by
   have h6:=HB.out;unfold isIn at h6;simp only [Bool.and_eq_true,decide_eq_true_eq] at h6
   omega⟩
  obtain ⟨mt,hmt⟩:∃ mt,s.met q=mt:=⟨_,rfl⟩
  have HMT:=Hi hmt;have hlk:∀ W1,Mod [] w W1->(Instr.lookup 221 (.map (some (N+1))) (.int .i64 (q:Int)) false).run Tryz.prog W1=.ok (.bool mt) W1:=fun W1 m=>by
   obtain ⟨m1,hm1⟩:=(H.out.step m).met;have hz:∀ W:World,(zeroValue 4).run Tryz.prog W=.ok (.bool false) W:=fun W=>by kernel_rfl
   have h6:=Gm.run_look intKey hm1.1 Tryz.underlying221 (hz W1) (q:Int) false;simp only [Bool.false_eq_true,if_false] at h6;rw [h6,hm1.2 q,hmt]
  clear hmt;go_enter Tryz.func189,Tryz.ntmps189;go_wp2_with fail;refine HX.out.mono ?_;rintro e w1 ⟨rfl,m1⟩;have H1:=Hi (H.out.step m1);have hlk1:=hlk w1 m1;clear m1 HX H f0 f1 f2 f3 f4 f5 f6 f7 f8 hlk;have c2:=H1.out.mbx.cell 0;have c3:=H1.out.wbx.cell 0;simp only [gA,gZ] at c2 c3;cases mt with
  | true =>
   have HE:Hid (Lf.enter fg.n (q:Int) s=s):=by
    show _=_;unfold Lf.enter;rw [Int.toNat_natCast,HMT.out];simp
   go_wp2_with fail;refine bodyPost_end (results_none rfl _ _ _) rfl ?_;exact ⟨rfl,wv,by rw [HE.out];exact H1.out⟩
  | false =>
   have HE:Hid (Lf.enter fg.n (q:Int) s=⟨s.way++[(q,0)],fun y=>if y=q then true else s.met y,s.told⟩):=by
    show _=_;unfold Lf.enter;rw [Int.toNat_natCast,HMT.out,show Lf.isIn fg.n (q:Int)=true from HB.out];rfl
   obtain ⟨m1,hm1⟩:=H1.out.met;obtain ⟨w4,hup,hG4,o1,o2,o3,o4,o5⟩:=Gm.run_put intKey hm1.1 Tryz.underlying221 (q:Int) (.bool true);have kk4:Mod [N+1] w1 w4:=⟨o1,o2,o3,by rw [o4];exact nR _,fun q _ hn=>o5 q (fun e=>hn (by rw [e];simp))⟩
   have H2:=Hi (H1.out.meet q hm1 hG4 kk4);have c4:=H2.out.wbx.cell 0;simp only [gA,gZ] at c4;have H3:=Hi (H2.out.step ((Mod.refl [] w4).alloc (.cells #[.int .i64 (q:Int),.int .i64 ((0:Nat):Int)] 238)));have HO:=Hi H3.out.wrow;have HBk:=Hi (Blk.new w4 #[.int .i64 (q:Int),.int .i64 ((0:Nat):Int)] 238);clear hm1 hG4 o1 o2 o3 o4 o5 kk4 H1;go_wp2_with (at_builtin;refine wpList_addS (base:=N+4) (v:=wv) (l:=s.way) (g:=q) (k:=0) rfl _ _ rfl Tryz.underlying236 rfl HO.out rfl HBk.out HL.out H3.out.base ?_);intro v9 w9 hG9 hg9 hb9;have hbx:=H3.out.wbx.kept (Mod.ofGrown hg9) (fun hm=>by have:=(H3.out.wge _ (by simpa using hm)).1;omega);have c5:=hbx.cell 0;have f5:=hbx.frozen 0;simp only [gA,gZ] at c5;have H9:=Hi (H3.out.push q 0 hG9 hg9 (by rw [World.size_alloc];exact hb9));obtain ⟨ov,cv,rfl⟩:=own_form hG9;clear hG9 hg9 hb9 hbx H3 HO HBk H2 c2 c3 c4 hup hlk1;go_wp2_with fail;refine bodyPost_end (results_none rfl _ _ _) rfl ?_;exact ⟨rfl,_,by rw [HE.out];exact H9.out⟩
structure LA (wl g n:Nat):Prop where
 i0:wl*2<(wl+1)*2
 i1:wl*2+1<(wl+1)*2
 e1:((wl+1:Nat):Int) - 1=(wl:Int)
 e2:IntKind.i64.wrap (wl:Int)=(wl:Int)
 e3:wrap64 (wl:Int)=(wl:Int)
 k6:(0:Int)<=wl
 k7:(wl:Int)<((wl+1:Nat):Int)
 k7':(wl:Int)<(wl:Int)+1
 k8:(0:Int)<=g
 k9:(g:Int)<(n:Int)
 k5:decide ((0:Int)<((wl+1:Nat):Int))=true
 k5':decide ((0:Int)<(wl:Int)+1)=true
theorem LA.of {wl g n c:Nat} (h1:wl+1<=c) (h2:c<=102000) (hg:g<n):LA wl g n :=
 ⟨by omega,by omega,by omega,IntWalk.i64_in _ (by omega),IntWalk.wrap64_in _ (by omega),by omega,by omega,by omega,by omega,by omega,dT (by omega),dT (by omega)⟩
structure LB (k m:Nat):Prop where
 e4:IntKind.i64.wrap ((k:Int)+1)=(k:Int)+1
 e5:IntKind.i64.wrap (((k+1:Nat):Int) - 1)=(k:Int)
 e6:wrap64 (k:Int)=(k:Int)
 q0:(0:Int)<=k
 q1:(k:Int)<(m:Int)
 n1:decide ((k:Int)=(m:Int))=false
 n2:((k:Int) == (m:Int))=false
 n3:decide (k=m)=false
 n4:¬ ((k:Int)=(m:Int))
theorem LB.of {k m:Nat} (h1:k<m) (h2:m<=100):LB k m :=
 ⟨IntWalk.i64_in _ (by omega),by rw [Int.natCast_add];simp only [Int.natCast_one,Int.add_sub_cancel];exact IntWalk.i64_in _ (by omega),IntWalk.wrap64_in _ (by omega),by omega,by omega,dF (by omega),by simp;omega,dF (by omega),by omega⟩
set_option maxRecDepth 100000 in
theorem left_any (u:Int) (fg fc fl ff fx fr fn fv:Hd) (gl:List DGlyph) (B:Nat) (w:World) (hr:Rows 9 RGlyph B w (.slice fg.a fg.n fg.c) gl) (hn:gl.length<=1000) (hp:∀ x∈gl,x.parts.length<=100) :
  Calls Tryz.prog 182 #[.agg (fontCells u fg fc fl ff fx fr fn fv)] w fun e w'=>(∃ v s,e=.returned v/\Lf.Goes gl.length (rawParts gl) gl.length s/\s.told.length<=1000000/\(∀ x∈s.told,x<gl.length)/\w'.ownsRow w.heap.size 3 1 v s.told.length (ints (nats s.told)))/\Mod [] w w':=by
 have HR:=Hi hr;obtain ⟨n,hnn⟩:∃ n,n=gl.length:=⟨_,rfl⟩
 have HNG:Hid (fg.n=n):=by obtain ⟨_,_,he,-⟩:=hr.form;injection he with _ h _;show fg.n=n;rw [h,hnn]
 rw [<- hnn] at hn ⊢;have HN:=Hi (And.intro hn (And.intro hp hnn));obtain ⟨P,hP⟩:∃ P,P=rawParts gl:=⟨_,rfl⟩
 rw [<- hP];have HPP:=Hi hP;have HPL:Hid (∀ g,(P g).length<=100):=fun g=>by
  rw [hP];unfold rawParts;cases hx:gl[g]? with
  | none=>exact Nat.zero_le _
  | some x=>rw [List.length_map];exact HN.out.2.1 x (List.mem_of_getElem? hx)
 clear hP;have HLS:=Hi (LfS.start w (fontCells u fg fc fl ff fx fr fn fv));have hm1:∀ W:World,(Instr.makeMap 221 none).run Tryz.prog W=.ok (.map (some W.heap.size)) (W.alloc (.map #[] 0)):=fun W=>by kernel_rfl
 have hmf:∀ (fn:Fn) (first cap:Array Value) (w:World),(Instr.makeFunc fn first cap).run Tryz.prog w=.ok (.func fn first cap) w:=fun _ _ _ _=>rfl
 clear hr hn hp hnn;go_enter Tryz.func182,Tryz.ntmps182;go_upto_region 4 with fail;clear hm1;obtain ⟨N,hN⟩:∃ N,N=w.heap.size:=⟨_,rfl⟩
 rw [<- hN] at HLS ⊢;simp only [Nat.add_assoc,Nat.reduceAdd] at HLS ⊢;generalize ((((w.alloc _).alloc _).alloc _).alloc _)=w0 at *
 have HNW:=Hi hN;clear hN;have f1:=HLS.out.font.cell 1;unfold fontCells at f1 ⊢;simp only [gA,gZ,gS] at f1;rw [HNG.out] at f1;go_wp2_with fail;clear f1 hmf;obtain ⟨c,hc⟩:∃ c,c=n*(2+100):=⟨_,rfl⟩
 have HC:Hid (c<=102000):=by have:=HN.out.1;show c<=_;omega
 have HF0:Hid (Lf.Few n P c ⟨[],fun _=>false,[]⟩):=by rw [hc];exact Lf.Few.start HPL.out
 clear hc
 go_loopg [3,15] n (fun gk v3 v15 wr=>∃ (i:Nat) (s:Lf.S) (wv:Value),v15=.int .i64 (i:Int)/\Hid (i+gk=n)/\Hid (LfS w N #[.int .i64 u,.slice fg.a fg.n fg.c,.slice fc.a fc.n fc.c,.slice fl.a fl.n fl.c,.slice ff.a ff.n ff.c,.slice fx.a fx.n fx.c,.slice fr.a fr.n fr.c,.slice fn.a fn.n fn.c,.slice fv.a fv.n fv.c] s wv v3 wr)/\Hid (Lf.Goes n P i s)/\Hid (s.way=[])/\Hid (Lf.Few n P c s))
 case atStart=>exact ⟨0,_,_,rfl,by show 0+n=n;omega,HLS.out,Lf.Goes.start,rfl,HF0.out⟩
 case round =>
  obtain ⟨i,s,wv,rfl,hi,HS,HG,HW,HF⟩:=hrel;clear HLS HF0
  by_cases hin:i<n
  case neg =>
   obtain rfl:n=i:=by have:=hi.out;omega
   have k1:decide ((n:Int)<(n:Int))=false:=dF (by omega);clear hi hin;go_wp2;go_ret;exact ⟨⟨_,s,rfl,HG.out,by have:=HF.out.told;have:=HC.out;omega,HF.out.ok.tl,owns_lower HS.out.trow (by have:=HS.out.hN;omega)⟩,HS.out.mod⟩
  have k1:decide ((i:Int)<(n:Int))=true:=dT (by omega);have k4:decide (i<n)=true:=dT hin;have hX:=enter_any (u:=u) (fg:=fg) (fc:=fc) (fl:=fl) (ff:=ff) (fx:=fx) (fr:=fr) (fn:=fn) (fv:=fv) (i:Int) wr HS.out (by have:=HF.out.way;have:=HC.out;omega);rw [HNG.out] at hX;have HX:=Hi hX;have hcf:∀ (a:Array Value) (w:World),(callFunc 189 a).run Tryz.prog w=.ok (.enter 189 a) w:=fun a w=>by kernel_rfl
  have HIN:=Hi hin;clear hX hin;go_wp2_with fail;refine HX.out.mono ?_;rintro e w1 ⟨rfl,wv1,hS1⟩;have HS1:=Hi hS1;have HF1:=Hi (HF.out.enter (i:Int));obtain ⟨s1,hs1⟩:∃ s1,s1=Lf.enter n (i:Int) s:=⟨_,rfl⟩
  rw [<- hs1] at HS1 HF1;have HE1:=Hi hs1;clear hS1 hs1 HX HS HF;go_wp2_with fail;obtain ⟨go,hgo⟩:∃ g,g=gk:=⟨_,rfl⟩
  rw [<- hgo] at hi;have HGO:=Hi hgo;clear hgo
  go_loopg [3] (Lf.mu n P s1) (fun gk v3 wr=>∃ (s2:Lf.S) (wv2:Value),Hid (Lf.mu n P s2=gk)/\Hid (LfS w N #[.int .i64 u,.slice fg.a fg.n fg.c,.slice fc.a fc.n fc.c,.slice fl.a fl.n fl.c,.slice ff.a ff.n ff.c,.slice fx.a fx.n fx.c,.slice fr.a fr.n fr.c,.slice fn.a fn.n fn.c,.slice fv.a fv.n fv.c] s2 wv2 v3 wr)/\Hid (Lf.Few n P c s2)/\Hid (∀ t,Lf.Run n P s2 t->Lf.Run n P s1 t))
  case atStart=>exact ⟨s1,wv1,rfl,HS1.out,HF1.out,fun _ h=>h⟩
  case round =>
   obtain ⟨s2,wv2,hmu,HS2,HF2,HRN⟩:=hrel;clear HS1 HF1;obtain ⟨ow,cw,hwv⟩:=own_form HS2.out.wrow;have c3:=HS2.out.wbx.cell 0;simp only [gA,gZ] at c3;rw [hwv] at c3;have HWV:=Hi hwv;clear hwv;rcases List.eq_nil_or_concat s2.way with hw0 | ⟨ws,gk2,hw0⟩
   ·rw [hw0] at c3;simp only [List.length_nil] at c3;have ei:IntKind.i64.wrap ((i:Int)+1)=(i:Int)+1:=IntWalk.i64_in _ (by have:=HIN.out;have:=HN.out.1;omega);have HW0:=Hi hw0;have k5:decide ((0:Int)<((0:Nat):Int))=false:=by decide
    clear hw0;go_wp2;go_roundg (n - (i+1))
    case measure=>have:=hi.out;have:=HIN.out;have:=HGO.out;omega
    case rel=>exact ⟨i+1,s2,wv2,by rw [Int.natCast_add];rfl,by have:=HIN.out;show i+1+(n - (i+1))=n;omega,HS2.out,.next HG.out HIN.out (by rw [<- HE1.out];exact HRN.out s2 (.done HW0.out)),HW0.out,HF2.out⟩
   ·obtain ⟨g,k⟩:=gk2;rw [List.concat_eq_append] at hw0;have hgk:=HF2.out.ok.lt (g,k) (by rw [hw0];simp);have hgn:g<n:=hgk.1;have hkn:k<=(P g).length:=hgk.2;have hgg:g<gl.length:=by rw [<- HN.out.2.2];exact hgn
    obtain ⟨ag,hag,-,cs,-,hg0,hgj,hgx⟩:=HR.out.at g hgg;have hgl:gl[g]?=some gl[g]:=gE hgg;generalize gl[g]=G at *
    obtain ⟨v3,v4,v5,v6,v7,v8,rfl,-,-,y3,y4,y5,y6,y7,y8⟩:=hgx;obtain ⟨o5,d5,rfl,-⟩:=y5.form;have g5:=hgj 5 (by decide) (by decide);simp only [gZ,gS] at g5;have G5:=cell_stays HS2.out.mod g5;have hPg:P g=G.parts.map DPart.glyph:=by rw [HPP.out];exact rawParts_at hgl
    have f1:=HS2.out.font.cell 1;simp only [gA,gZ,gS] at f1;rw [hag,HNG.out] at f1;have hrow:=HS2.out.wrow;rw [HWV.out,hw0] at hrow;obtain ⟨wl,hwl⟩:∃ wl,wl=ws.length:=⟨_,rfl⟩
    have hlen:(ws++[(g,k)]).length=wl+1:=by rw [hwl];simp
    rw [hlen] at hrow;rw [hw0,hlen] at c3;obtain ⟨g0,rfl⟩:∃ g0,ow=some ⟨g0,0,none⟩:=by
     rcases hrow.2 with ⟨h1,h2⟩ | ⟨g0,cap,cur,h1,-⟩
     ·exact absurd h2 (Nat.succ_ne_zero _)
     ·exact ⟨g0,(Value.slice.inj h1).1⟩
    have hwc:wl+1<=c:=by have h1:=HF2.out.way;rw [hw0,hlen] at h1;exact h1
    have LAF:=LA.of hwc HC.out hgn;have cg:=ownk_at hrow (i:=wl*2) LAF.i0;have ck:=ownk_at hrow (i:=wl*2+1) LAF.i1;rw [hwl,(stops_at ws g k).1,<- hwl] at cg;rw [hwl,(stops_at ws g k).2,<- hwl] at ck;have fk:wr.frozen? ⟨g0,wl*2+1,none⟩=false:=by
     rcases hrow.2 with ⟨h1,h2⟩ | ⟨g',cap,cur,h1,h2,h3,-⟩
     ·cases h1
     ·cases h1;have hB:Blk wr g0 cur 238:=h3;exact hB.frozen _
    have e1:=LAF.e1;have e2:=LAF.e2;have e3:=LAF.e3;have k6:=LAF.k6;have k7:=LAF.k7;have k7':=LAF.k7';have k8:=LAF.k8;have k9:=LAF.k9;have k5:=LAF.k5;have k5':=LAF.k5';have HGK:=Hi (And.intro hw0 (And.intro hwl (And.intro hlen (And.intro hgn (And.intro hkn (And.intro hPg hgl))))));have HY:=Hi y5;have HGR:=Hi hrow;clear hw0 hwl hlen hgn hkn hPg hgl hgk hgg hg0 hgj hag y3 y4 y5 y6 y7 y8 g5 hrow hwc LAF;go_upto_region 11 with fail
    go_quiet (fail)
    have m9:Mod [] wr (wr.drewN nq):=mR.drewN _;have HS3:=Hi (HS2.out.step m9);have cg3:=cell_stays m9 cg;have ck3:=cell_stays m9 ck;have c33:=cell_stays m9 c3;have fk3:(wr.drewN nq).frozen? ⟨g0,wl*2+1,none⟩=false:=fk;have HGR3:=Hi (owns_mod HGR.out m9);clear m9 cg ck c3 fk HGR HS2 G5 f1;generalize wr.drewN nq=w2 at *
    have hpl:(P g).length=G.parts.length:=by rw [HGK.out.2.2.2.2.2.1,List.length_map]
    by_cases hk:k=G.parts.length
    ·have HKE:Hid (k=(P g).length):=by show k=_;rw [hpl];exact hk
     rw [<- hk];have HNX:Hid (Lf.step n P g k ws s2=⟨ws,s2.met,s2.told++[g]⟩):=by show _=_;unfold Lf.step;rw [if_pos HKE.out]
     have HF3:=Hi (HF2.out.step HGK.out.1);have HMU:=Hi (Lf.step_mu HF2.out.ok HGK.out.1);have HRX:Hid (∀ t,Lf.Run n P (Lf.step n P g k ws s2) t->Lf.Run n P s1 t):=fun t ht=>HRN.out t (.step HGK.out.1 ht)
     clear hk hpl;have al:Mod [] w2 (w2.alloc (.cells #[.int .i64 (g:Int)] 3)):=(Mod.refl [] w2).alloc _;have hO5:=owns_mod HS3.out.trow al;rw [<- nats_length s2.told] at hO5;have HO5:=Hi hO5;clear hO5;have HB5:=Hi (Blk.new w2 #[.int .i64 (g:Int)] 3);have HS4:=Hi (HS3.out.step al);have HG4:=Hi (owns_mod HGR3.out al);have HTL:Hid ((nats s2.told).length<=1000000):=by show _<=_;rw [nats_length];exact nT HF2.out.told (nT HC.out (by decide))
     clear al HS3 HGR3;go_wp2_with (at_builtin;refine wpList_add (base:=N+4) (v:=u3) (xs:=nats s2.told) (y:=(g:Int)) rfl _ _ rfl Tryz.underlying22 rfl HO5.out rfl HB5.out HTL.out HS4.out.base ?_);intro v9 w9 hG9 hg9 hb9;have HS5:=Hi (HS4.out.tell (s2.told++[g]) (Mod.ofGrown hg9) (fun x hx=>by simpa using hx) (by rw [nats_snoc,List.length_append];rw [nats_length] at hG9;exact hG9) (hb9.imp id fun e=>⟨_,e,by rw [World.size_alloc];exact nR _⟩))
     have HG5:=Hi (owns_keep HG4.out (Mod.ofGrown hg9) (fun b hb e=>by
      have h1:u3.ownBlock=some b:=by simpa using hb
      have h2:wv2.ownBlock=some b:=by rw [HWV.out];exact e
      rcases HS4.out.ne with h3 | h3
      ·rw [h3] at h2;cases h2
      ·exact h3 (by rw [h2,h1])))
     have c4:=HS5.out.wbx.cell 0;have f4:=HS5.out.wbx.frozen 0;simp only [gA,gZ] at c4;rw [HWV.out,HGK.out.1,HGK.out.2.2.1] at c4;have HCT:=ownk_cut HG5.out (m:=wl) (Nat.le_succ _);rw [HGK.out.2.1,stops_take,<- HGK.out.2.1] at HCT;have ob:(Value.slice (some ⟨g0,0,none⟩) wl cw).ownBlock≠some (N+3):=fun e=>by have h1:=(HCT.lt _ e).1;exact Nat.lt_irrefl _ (Nat.lt_of_lt_of_le (Nat.lt_succ_self (N+3)) h1)
     have HS6:=Hi (HS5.out.go (F:=[N+3]) ws (v':=.slice (some ⟨g0,0,none⟩) wl cw) ((Mod.refl [N+3] w9).setCell (p:=⟨N+3,0,none⟩) (fun _=>by simp) (.slice (some ⟨g0,0,none⟩) wl cw)) (fun x hx=>.inl (by simpa using hx)) (HS5.out.wbx.set 0 _)
      (by rw [<- HGK.out.2.1];exact HCT.kept (row:=some (N+3)) ⟨rfl,rfl,rfl,by simp,fun k hk hn=>Below.heap_setCell w9 _ _ k (fun he=>hn (by rw [he]))⟩ (.inr ob)) (.inl (by rw [HWV.out];rfl)))
     have hwc:(wl:Int)<=(cw:Int):=by
      rcases HG5.out.2 with ⟨h1,-⟩ | ⟨g',cap,cur,h1,h2,h3,h4,-⟩
      ·cases h1
      ·cases h1;exact Int.ofNat_le.2 (nT (Nat.le_succ _) h4)
     clear hG9 hg9 hb9 HO5 HB5 HS4 HG4 HS5 HG5 HCT ob cg3 ck3 c33 fk3;go_wp2;go_roundg (Lf.mu n P (Lf.step n P g k ws s2))
     case measure=>have:=HMU.out;have:=hmu.out;rw [<- hmu.out];exact HMU.out
     case rel=>exact ⟨_,_,rfl,by rw [HNX.out];exact HS6.out,HF3.out,HRX.out⟩
    ·have hkl:k<G.parts.length:=Nat.lt_of_le_of_ne (by rw [<- hpl];exact HGK.out.2.2.2.2.1) hk;have LBF:=LB.of hkl (HN.out.2.1 G (List.mem_of_getElem? HGK.out.2.2.2.2.2.2));obtain ⟨pa,rfl,-,cp,-,hp0,-,hpx⟩:=HY.out.at k hkl;have hgx:(P g).getD k 0=G.parts[k].glyph:=by rw [HGK.out.2.2.2.2.2.1,List.getD_eq_getElem?_getD,List.getElem?_map,gE hkl];rfl
     generalize G.parts[k]=pt at *
     obtain ⟨rfl,-,-,-⟩:=hpx;have d0:=hp0 (by decide);simp only [gZ] at d0;have HNX:Hid (Lf.step n P g k ws s2=Lf.enter n pt.glyph ⟨ws++[(g,k+1)],s2.met,s2.told⟩):=by
      show _=_;unfold Lf.step;rw [if_neg (by rw [hpl];exact hk),hgx]
     have HF3:=Hi (HF2.out.step HGK.out.1);have HMU:=Hi (Lf.step_mu HF2.out.ok HGK.out.1);have HRX:Hid (∀ t,Lf.Run n P (Lf.step n P g k ws s2) t->Lf.Run n P s1 t):=fun t ht=>HRN.out t (.step HGK.out.1 ht)
     have n1:=LBF.n1;have n2:=LBF.n2;have n3:=LBF.n3;have n4:=LBF.n4;have e4:=LBF.e4;have e5:=LBF.e5;have e6:=LBF.e6;have q0:=LBF.q0;have q1:=LBF.q1;have hge:N+4<=g0:=(HGR3.out.lt g0 rfl).1;have hlw:ws.length+1<=1000000:=by
      have h1:=HF2.out.way;rw [HGK.out.1,List.length_append] at h1;exact nT h1 (nT HC.out (by decide))
     have hset:=ownk_set HGR3.out (i:=wl*2+1) (.int .i64 ((k+1:Nat):Int));rw [HGK.out.2.1,stops_set,<- HGK.out.2.1] at hset;have hat:=ownk_at hset (i:=wl*2+1) (by omega);rw [HGK.out.2.1,(stops_at ws g (k+1)).2,<- HGK.out.2.1] at hat;have hS5:=HS3.out.go (F:=[g0]) (ws++[(g,k+1)]) (v':=wv2) ((Mod.refl [g0] w2).setCell (p:=⟨g0,wl*2+1,none⟩) (fun _=>by simp) (.int .i64 ((k+1:Nat):Int))) (fun x hx=>.inr (by rw [HWV.out,mI.1 hx];rfl))
      (by
        rw [HWV.out,HGK.out.1,HGK.out.2.2.1]
        have h1:=HS3.out.wbx
        rw [HWV.out,HGK.out.1,HGK.out.2.2.1] at h1
        exact h1.other (a:=⟨g0,wl*2+1,none⟩) (fun e=>by have h2:g0=N+3:=e;omega) _)
      (by rw [HWV.out,HGK.out.1,HGK.out.2.2.1,show (ws++[(g,k+1)]).length=wl+1 by rw [HGK.out.2.1];simp];exact hset) (.inl rfl)
     have HS5:=Hi hS5;have hX:=enter_any (u:=u) (fg:=fg) (fc:=fc) (fl:=fl) (ff:=ff) (fx:=fx) (fr:=fr) (fn:=fn) (fv:=fv) pt.glyph _ hS5 (by rw [List.length_append];exact hlw);rw [HNG.out] at hX;have D0:=cell_stays hS5.mod d0;simp only [Int.natCast_add,Int.natCast_one] at hX D0 hat HS5 e5;have HX:=Hi hX;clear hX hS5 hset hge hlw hkl hk hpl hgx hp0 d0 LBF HS3 HGR3;go_upto_region 16 with fail;clear ck3 cg3 c33 fk3;generalize w2.setCell _ _=w5 at *
     go_wp2_with fail;refine HX.out.mono ?_;rintro e w6 ⟨rfl,wv6,hS6⟩;have HS6:=Hi hS6;clear hS6 HX HS5 hat D0;go_wp2;go_roundg (Lf.mu n P (Lf.step n P g k ws s2))
     case measure=>rw [<- hmu.out];exact HMU.out
     case rel=>exact ⟨_,_,rfl,by rw [HNX.out];exact HS6.out,HF3.out,HRX.out⟩
end Go.Proofs.YthheaflbbficgaaGreat

/- OpenFont, VaryBig, VarySame, VaryPairs, VaryNormal2, VaryNormal3, VaryTop, VaryTop2, VaryRows2, VaryLooks2, VaryLooks, VaryTop3, VaryTop4. -/
import Derived.Test.YtlkkhkbafahchaaGBase
import Derived.ProofKit
import Derived.OpenShut
import Derived.Lib.SmallJoins
import Derived.Deep.LoopGhost
import Derived.Deep.QuietTactic
import Derived.BigQuiet
import Derived.RegionTactic
import Derived.IntWalk
import Derived.Laws.AppendOwn
import Derived.Test.YtlkkhkbafahchaaGRing
import Derived.Test.YtlkkhkbafahchaaGFac
import Derived.Test.YtlkkhkbafahchaaGGlv
set_option linter.all false
namespace Go.Proofs.Ytlkkhkbafahchaa
open Go.ChangeShapes Go.WideShapes Go.ChangeAt Go.RowKit Go.Joins
section
variable {H:Type} {enc:TypeId×Value->H} {W:World} {base:Nat} {sp:Nat->Bool} {held:Bool}
end
open Go.RowKit
theorem cell_kept {w w':World} {a:Addr} {v:Value} (m:Mod [] w w') (h:w.cell? a=some v):w'.cell? a=some v:=by
 have hb:a.block<w.heap.size:=by
  rcases Nat.lt_or_ge a.block w.heap.size with h' | h'
  ·exact h'
  ·exfalso;have:w.cell? a=none:=by unfold World.cell?;rw [show w.heap[a.block]?=none by simp;exact h']
   rw [this] at h;cases h
 exact (m.cell (p:=a) hb (by simp)).trans h
def PairsAt (w:World) (v:Value) (l:List (Int×Int)):Prop:=∃ oa cap,v=.slice oa l.length cap/\∀ i (h:i<l.length),∃ b,oa=some ⟨b,0,none⟩/\w.cell? ⟨b,i*2,none⟩=some (.int .i64 l[i].1)/\w.cell? ⟨b,i*2+1,none⟩=some (.int .i64 l[i].2)
def flatP (l:List (Int×Int)):List Value:=l.flatMap fun p=>[.int .i64 p.1,.int .i64 p.2]
theorem flatP_snoc (l:List (Int×Int)) (p:Int×Int):flatP (l++[p])=flatP l++[.int .i64 p.1,.int .i64 p.2]:=by unfold flatP;rw [List.flatMap_append];simp
theorem flatP_at:∀ (l:List (Int×Int)) (i:Nat) (h:i<l.length),(flatP l)[i*2]?=some (.int .i64 l[i].1)/\(flatP l)[i*2+1]?=some (.int .i64 l[i].2)
 | p::r,0,_=>⟨rfl,rfl⟩
 | p::r,i+1,h=>by
  have ih:=flatP_at r i (by simpa using h);have e:flatP (p::r)=.int .i64 p.1::.int .i64 p.2::flatP r:=rfl;rw [e,show (i+1)*2=i*2+1+1 by omega,List.getElem?_cons_succ,List.getElem?_cons_succ,List.getElem?_cons_succ,List.getElem?_cons_succ];exact ih
theorem pairs_of_owns {w:World} {B:Nat} {v:Value} {l:List (Int×Int)} (h:w.ownsRow B 64 2 v l.length (flatP l)):PairsAt w v l:=by
 rcases h.2 with ⟨rfl,hn⟩ | ⟨g,cap,cur,rfl,_,hg,_,_,_,ht⟩
 ·exact ⟨none,0,by rw [hn],fun i hi=>by omega⟩
 ·refine ⟨some ⟨g,0,none⟩,cap,rfl,fun i hi=>⟨g,rfl,?_⟩⟩;obtain ⟨h1,h2⟩:=flatP_at l i hi;rw [<- ht,List.getElem?_take,if_pos (by omega)] at h1 h2;exact ⟨by simpa [World.cell?,hg] using h1,by simpa [World.cell?,hg] using h2⟩
structure Ax where
 s:ByteArray
 l:Int
 d:Int
 m:Int
def AxesAt (W:World) (oa:Option Addr) (ys:List Ax):Prop:=∀ i (h:i<ys.length),∃ a:Addr,oa=some a/\W.cell? ((a.add (i*4)).add 0)=some (.string ys[i].s)/\W.cell? ((a.add (i*4)).add 1)=some (.int .i64 ys[i].l)/\W.cell? ((a.add (i*4)).add 2)=some (.int .i64 ys[i].d)/\W.cell? ((a.add (i*4)).add 3)=some (.int .i64 ys[i].m)
def PlaceAt (W:World) (oa:Option Addr) (xs:List Int):Prop:=∀ i (h:i<xs.length),∃ a:Addr,oa=some a/\W.cell? (a.add i)=some (.int .i64 xs[i])
theorem AxesAt.mod {W W':World} {oa:Option Addr} {ys:List Ax} (h:AxesAt W oa ys) (m:Mod [] W W'):AxesAt W' oa ys:=fun i hi=>by
 obtain ⟨a,ha,h0,h1,h2,h3⟩:=h i hi;exact ⟨a,ha,cell_kept m h0,cell_kept m h1,cell_kept m h2,cell_kept m h3⟩
theorem PlaceAt.mod {W W':World} {oa:Option Addr} {xs:List Int} (h:PlaceAt W oa xs) (m:Mod [] W W'):PlaceAt W' oa xs:=fun i hi=>by
 obtain ⟨a,ha,h0⟩:=h i hi;exact ⟨a,ha,cell_kept m h0⟩
def Vr.places:List Int->List Ax->List (Int×Int)
 | x::xs,a::ys=>Vr.alongR x a.l a.d a.m::Vr.places xs ys
 | _,_=>[]
def Vr.allOn:List Int->List Ax->Prop
 | x::xs,a::ys=>Vr.onAxis x a.l a.d a.m/\Vr.allOn xs ys
 | _,_=>True
theorem cells_two_at {w:World} {b:Nat} {x y:Value} {t:TypeId} (h:Blk w b #[x,y] t):∀ (j:Nat) (u:Value),[x,y][j]?=some u->w.cell? (Addr.add ⟨b,0,none⟩ j)=some u
 | 0,u,e=>by have:=h.cell 0;simp [Addr.add] at this e ⊢;rw [this,e]
 | 1,u,e=>by have:=h.cell 1;simp [Addr.add] at this e ⊢;rw [this,e]
 | j+2,u,e=>by simp at e
theorem pairs_of_owns2 {w:World} {B:Nat} {v:Value} {n:Nat} {l:List (Int×Int)} (h:w.ownsRow B 64 2 v n (flatP l)) (hn:n=l.length):PairsAt w v l:=by subst hn;exact pairs_of_owns h
theorem places_length:∀ (xs:List Int) (ys:List Ax),(Vr.places xs ys).length=min xs.length ys.length
 | [],_=>by simp [Vr.places]
 | x::xs,[]=>by simp [Vr.places]
 | x::xs,a::ys=>by simp only [Vr.places,List.length_cons,places_length xs ys];omega
theorem places_at:∀ (xs:List Int) (ys:List Ax) (i:Nat) (h1:i<xs.length) (h2:i<ys.length),(Vr.places xs ys)[i]?=some (Vr.alongR xs[i] ys[i].l ys[i].d ys[i].m)
 | x::xs,a::ys,0,_,_=>rfl
 | x::xs,a::ys,i+1,h1,h2=>by
  simp only [Vr.places,List.getElem?_cons_succ,List.getElem_cons_succ];exact places_at xs ys i (by simpa using h1) (by simpa using h2)
theorem allOn_at:∀ (xs:List Int) (ys:List Ax) (i:Nat) (h1:i<xs.length) (h2:i<ys.length),Vr.allOn xs ys->Vr.onAxis xs[i] ys[i].l ys[i].d ys[i].m
 | x::xs,a::ys,0,_,_,h=>h.1
 | x::xs,a::ys,i+1,h1,h2,h=>allOn_at xs ys i (by simpa using h1) (by simpa using h2) h.2
theorem Try.info_Ratio:(Try.prog.info? 64).map (fun i=>(i.zero,i.size,i.bytes))=some (some (.agg #[.int .i64 0,.int .i64 0]),2,16):=by kernel_rfl
set_option maxRecDepth 100000 in
set_option maxHeartbeats 4000000 in
theorem normal_yes (u:Int) (g c l fe ax rg fu cv:Hd) (pa:Option Addr) (pc:Nat) (xs:List Int) (ys:List Ax) (w:World) (hx:xs.length=ax.n) (ha:ys.length=ax.n) (h6:ax.n<=6)
  (hX:PlaceAt w pa xs) (hA:AxesAt w ax.a ys) (hOn:Vr.allOn xs ys) :
  Calls Try.prog 10 #[.agg (fontCells u g c l fe ax rg fu cv),.slice pa xs.length pc] w fun e w'=>∃ v,e=.returned (.tuple #[v,.int .i64 0])/\Mod [] w w'/\PairsAt w' v (Vr.places xs ys):=by
 have hmf:∀ (fn:Fn) (first cap:Array Value) (w:World),(Instr.makeFunc fn first cap).run Try.prog w=.ok (.func fn first cap) w:=fun _ _ _ _=>rfl
 obtain ⟨axa,axn,axc⟩:=ax;simp only at hx ha h6 hA;obtain ⟨i0,hti,hz0,hz1,hz2⟩:=info_parts Try.info_Ratio;unfold fontCells;have T:=Hi (own3 w (fontCells u g c l fe ⟨axa,axn,axc⟩ rg fu cv) 31 #[.slice none 0 0] 58 #[.int .i64 0] 40);have k1:(((xs.length:Nat):Int) != (axn:Int))=false:=by simp;omega
 have k1':(((xs.length:Nat):Int) == (axn:Int))=true:=by simp;omega
 have HA:=Hi hA;have HX:=Hi hX;have HO:=Hi hOn;have HL:=Hi (And.intro hx (And.intro ha h6));clear hA hX hOn hx ha h6;go_enter_defers Try.func10,Try.ntmps10;go_upto_region 4 with fail;unfold fontCells at T;generalize ((w.alloc (.cells #[.int .i64 u,.slice g.a g.n g.c,.slice c.a c.n c.c,.slice l.a l.n l.c,.slice fe.a fe.n fe.c,.slice axa axn axc,.slice rg.a rg.n rg.c,.slice fu.a fu.n fu.c,.slice cv.a cv.n cv.c] 31)).alloc (.cells #[.slice none 0 0] 58)).alloc (.cells #[.int .i64 0] 40)=W0 at *
 go_wp2_with fail
 go_loopg [18] xs.length (fun gk i18 wr=>∃ i:Nat,i18=.int .i64 (i:Int)/\Hid (i+gk=xs.length)/\Hid (∃ v,Own w wr [(w.heap.size,#[.int .i64 u,.slice g.a g.n g.c,.slice c.a c.n c.c,.slice l.a l.n l.c,.slice fe.a fe.n fe.c,.slice axa axn axc,.slice rg.a rg.n rg.c,.slice fu.a fu.n fu.c,.slice cv.a cv.n cv.c],31),(w.heap.size+1,#[v],58),(w.heap.size+1+1,#[.int .i64 0],40)]/\wr.ownsRow (w.heap.size+3) 64 2 v i (flatP ((Vr.places xs ys).take i))))
 case atStart=>exact ⟨0,rfl,by show 0+xs.length=xs.length;omega,.slice none 0 0,T.out,World.ownsRow_nil _ _ _ _⟩
 case round =>
  obtain ⟨i,rfl,hi,HV⟩:=hrel;obtain ⟨v,TT,hR⟩:=HV.out;obtain ⟨va,vc,rfl⟩:=own_form hR;have TT:=Hi TT;have HR:=Hi hR;clear HV hR T
  by_cases hn:i=xs.length
  ·subst hn;have p0:wr.cell? ⟨w.heap.size+1,0,none⟩=some (.slice va xs.length vc):=by rw [(TT.out.at 1 rfl).cell];rfl
   have p1:=(TT.out.at 1 rfl).frozen 0;have q0:wr.cell? ⟨w.heap.size+1+1,0,none⟩=some (.int .i64 0):=by rw [(TT.out.at 2 rfl).cell];rfl
   have q1:=(TT.out.at 2 rfl).frozen 0;go_wp2_with fail;obtain ⟨hx1,hx2,hx3⟩:=HL.out;rw [List.take_of_length_le (by rw [places_length];omega)] at HR;have T2:=Hi ((TT.out.set 1 rfl 0 (.slice va xs.length vc)).set 2 rfl 0 (.int .i64 0));have HP:=Hi (pairs_of_owns2 (owns_set (owns_set HR.out (p:=⟨w.heap.size+1,0,none⟩) (by simp) (.slice va xs.length vc)) (p:=⟨w.heap.size+1+1,0,none⟩) (by simp) (.int .i64 0)) (by rw [places_length];omega));have r0:((wr.setCell ⟨w.heap.size+1,0,none⟩ (.slice va xs.length vc)).setCell ⟨w.heap.size+1+1,0,none⟩ (.int .i64 0)).cell? ⟨w.heap.size+1,0,none⟩=some (.slice va xs.length vc):=by rw [(T2.out.at 1 rfl).cell];rfl
   have r1:((wr.setCell ⟨w.heap.size+1,0,none⟩ (.slice va xs.length vc)).setCell ⟨w.heap.size+1+1,0,none⟩ (.int .i64 0)).cell? ⟨w.heap.size+1+1,0,none⟩=some (.int .i64 0):=by rw [(T2.out.at 2 rfl).cell];rfl
   generalize (wr.setCell ⟨w.heap.size+1,0,none⟩ (.slice va xs.length vc)).setCell ⟨w.heap.size+1+1,0,none⟩ (.int .i64 0)=W9 at *
   clear p0 p1 q0 q1;refine leaves_cons (f:=26) (args:=#[.pointer (some ⟨w.heap.size+1,0,none⟩),.pointer (some ⟨w.heap.size+1+1,0,none⟩)]) (by simp) (by simp [go_sem]) ?_;refine (nor1_idle _ _ _).mono ?_;rintro e u' w'' ⟨rfl,rfl,rfl⟩;simp [Leaves,settle,results,Try.results10,go_sem,r0,r1];exact ⟨T2.out.mod,HP.out⟩
  ·have hlt:i<xs.length:=by have:=hi.out;omega
   have hlt2:(i:Int)<(xs.length:Int):=by omega
   have h0:(0:Int)<=(i:Int):=by omega
   have hiy:i<ys.length:=by have:=HL.out;omega
   obtain ⟨a,rfl,x0⟩:=HX.out.mod TT.out.mod i hlt;obtain ⟨b,rfl,a0,a1,a2,a3⟩:=HA.out.mod TT.out.mod i hiy;have p0:wr.cell? ⟨w.heap.size+1,0,none⟩=some (.slice va i vc):=by rw [(TT.out.at 1 rfl).cell];rfl
   have HOi:=Hi (allOn_at xs ys i hlt hiy HO.out);have HPi:=Hi (places_at xs ys i hlt hiy);have HAl:=Hi (fun W=>along_yes ys[i].s xs[i] ys[i].l ys[i].d ys[i].m W HOi.out);generalize Vr.alongR xs[i] ys[i].l ys[i].d ys[i].m=rr at *
   obtain ⟨ra,rb⟩:=rr;clear HOi;generalize xs[i]=x at *
   generalize ys[i].s=sx at *
   generalize ys[i].l=lx at *
   generalize ys[i].d=dx at *
   generalize ys[i].m=mx at *
   simp only [show ∀ q:Addr,q.add 0=q from fun q=>by simp [Addr.add],show ∀ q:Addr,q.add 1=⟨q.block,q.off+1,none⟩ from fun q=>by simp [Addr.add],show ∀ q:Addr,q.add 2=⟨q.block,q.off+2,none⟩ from fun q=>by simp [Addr.add],show ∀ q:Addr,q.add 3=⟨q.block,q.off+3,none⟩ from fun q=>by simp [Addr.add]] at a0 a1 a2 a3;simp only at HAl;have A0:=(TT.out.at 0 rfl).every;have A1:=(TT.out.at 1 rfl).every;have Y0:∀ W,Mod [] wr W->W.cell? (b.add (i*4))=some (.string sx):=fun W m=>cell_kept m a0
   have Y1:∀ W,Mod [] wr W->W.cell? ⟨(b.add (i*4)).block,(b.add (i*4)).off+1,none⟩=some (.int .i64 lx):=fun W m=>cell_kept m a1
   have Y2:∀ W,Mod [] wr W->W.cell? ⟨(b.add (i*4)).block,(b.add (i*4)).off+2,none⟩=some (.int .i64 dx):=fun W m=>cell_kept m a2
   have Y3:∀ W,Mod [] wr W->W.cell? ⟨(b.add (i*4)).block,(b.add (i*4)).off+3,none⟩=some (.int .i64 mx):=fun W m=>cell_kept m a3
   have hb2:(i:Int)<(axn:Int):=by have:=HL.out;omega
   go_upto_region 7 with fail;clear a0 a1 a2 a3 x0 p0;refine wp_region_mask 9 [true,true,true,true,true,true,true,true,false] [(8,NewSl wr.heap.size #[.int .i64 ra,.int .i64 rb] 64 1)] (by kernel_rfl) (by kernel_rfl) (by simp [NewSl.stays]) ?_;simp only [pickM]
   iterate 7
    refine sv ?_
   refine sc (a':=?_) (fun w' hw' K Q hK=>?_) ?_ ?_;rotate_left
   ·go_wp2_with fail;refine ((calls_mod HAl.out) _ hw').mono ?_;rintro e w'' ⟨rfl,m''⟩;go_wp2_with fail;exact hK _ m''
   ·rfl
   refine steady_done ?_;refine lates_one rfl rfl (late_slice ?_) (fun sv w' hw' hF=>?_)
   ·intro w';go_simp
   obtain ⟨-,b8,rfl,hb8,B8⟩:=hF;simp only [List.drop_succ_cons,List.drop_zero];have T3:=Hi (TT.out.call hw');have HR3:=Hi (owns_mod HR.out hw');clear A0 A1 Y0 Y1 Y2 Y3 HAl TT HR hw';go_wp2_with (at_builtin;refine wpList_append_own _ rfl _ _ 58 rfl (w.heap.size+3) 64 i0 (.agg #[.int .i64 0,.int .i64 0]) 2 16 Try.underlying58 hti hz0 hz1 hz2 rfl (by decide) _ _ _ rfl HR3.out ⟨b8,0,none⟩ 1 1 [.int .i64 ra,.int .i64 rb] rfl rfl ?_ ?_ ?_ ?_ ?_ ?_)
   ·exact cells_two_at B8
   ·simp [Value.oneCell']
   ·have:=HL.out;unfold maxLen;omega
   ·have:=HL.out;omega
   ·have:=(T3.out.at 2 rfl).lt;simp at this ⊢;omega
   intro v' w1 hown' hgrow _;obtain ⟨va',vc',rfl⟩:=own_form hown';have T4:=Hi (Own.grown T3.out hgrow (fun k hk=>(HR3.out.lt k hk).1) (by omega) (by simp));have HR4:=Hi hown';clear hown' hgrow T3 HR3;have p0:=(T4.out.at 1 rfl).cell 0;have p1:=(T4.out.at 1 rfl).frozen 0;have e1:IntKind.i64.wrap ((i:Int)+1)=(i:Int)+1:=IntWalk.i64_in _ (by have:=HL.out;omega);have T5:=Hi (T4.out.set 1 rfl 0 (.slice va' (i+1) vc'));have HR5:=Hi (owns_set HR4.out (p:=⟨w.heap.size+1,0,none⟩) (by simp) (.slice va' (i+1) vc'));go_wp2_with fail;go_roundg (gk - 1)
   case measure=>have:=hi.out;omega
   case rel =>
    refine ⟨i+1,by rw [Int.natCast_add];rfl,?_,_,T5.out,?_⟩
    ·have:=hi.out;show i+1+(gk - 1)=xs.length;omega
    ·rw [List.take_add_one,HPi.out];simp only [Option.toList_some];rw [flatP_snoc];exact HR5.out
set_option maxRecDepth 100000 in
set_option maxHeartbeats 4000000 in
theorem normal_no (u:Int) (g c l fe ax rg fu cv:Hd) (pa:Option Addr) (pc:Nat) (xs:List Int) (ys:List Ax) (w:World) (hx:xs.length=ax.n) (ha:ys.length=ax.n) (h6:ax.n<=6)
  (hX:PlaceAt w pa xs) (hA:AxesAt w ax.a ys) (hOn:¬ Vr.allOn xs ys) :
  Calls Try.prog 10 #[.agg (fontCells u g c l fe ax rg fu cv),.slice pa xs.length pc] w fun e w'=>e=.returned (.tuple #[.slice none 0 0,.int .i64 60])/\Mod [] w w':=by
 have hmf:∀ (fn:Fn) (first cap:Array Value) (w:World),(Instr.makeFunc fn first cap).run Try.prog w=.ok (.func fn first cap) w:=fun _ _ _ _=>rfl
 obtain ⟨axa,axn,axc⟩:=ax;simp only at hx ha h6 hA;obtain ⟨i0,hti,hz0,hz1,hz2⟩:=info_parts Try.info_Ratio;unfold fontCells;have T:=Hi (own3 w (fontCells u g c l fe ⟨axa,axn,axc⟩ rg fu cv) 31 #[.slice none 0 0] 58 #[.int .i64 0] 40);have k1:(((xs.length:Nat):Int) != (axn:Int))=false:=by simp;omega
 have k1':(((xs.length:Nat):Int) == (axn:Int))=true:=by simp;omega
 have HA:=Hi hA;have HX:=Hi hX;have HO:=Hi hOn;have HL:=Hi (And.intro hx (And.intro ha h6));clear hA hX hOn hx ha h6;go_enter_defers Try.func10,Try.ntmps10;go_upto_region 4 with fail;unfold fontCells at T;generalize ((w.alloc (.cells #[.int .i64 u,.slice g.a g.n g.c,.slice c.a c.n c.c,.slice l.a l.n l.c,.slice fe.a fe.n fe.c,.slice axa axn axc,.slice rg.a rg.n rg.c,.slice fu.a fu.n fu.c,.slice cv.a cv.n cv.c] 31)).alloc (.cells #[.slice none 0 0] 58)).alloc (.cells #[.int .i64 0] 40)=W0 at *
 go_wp2_with fail
 go_loopg [18] xs.length (fun gk i18 wr=>∃ i:Nat,i18=.int .i64 (i:Int)/\Hid (i+gk=xs.length)/\Hid (∃ v,Own w wr [(w.heap.size,#[.int .i64 u,.slice g.a g.n g.c,.slice c.a c.n c.c,.slice l.a l.n l.c,.slice fe.a fe.n fe.c,.slice axa axn axc,.slice rg.a rg.n rg.c,.slice fu.a fu.n fu.c,.slice cv.a cv.n cv.c],31),(w.heap.size+1,#[v],58),(w.heap.size+1+1,#[.int .i64 0],40)]/\wr.ownsRow (w.heap.size+3) 64 2 v i (flatP ((Vr.places xs ys).take i))/\¬ Vr.allOn (xs.drop i) (ys.drop i)))
 case atStart=>exact ⟨0,rfl,by show 0+xs.length=xs.length;omega,.slice none 0 0,T.out,World.ownsRow_nil _ _ _ _,HO.out⟩
 case round =>
  obtain ⟨i,rfl,hi,HV⟩:=hrel;obtain ⟨v,TT,hR,hO⟩:=HV.out;obtain ⟨va,vc,rfl⟩:=own_form hR;have TT:=Hi TT;have HR:=Hi hR;have HO:=Hi hO;clear HV hR T hO
  by_cases hn:i=xs.length
  ·exact absurd (show Vr.allOn (xs.drop i) (ys.drop i) by rw [hn,List.drop_length];exact trivial) HO.out
  ·have hlt:i<xs.length:=by have:=hi.out;omega
   have hlt2:(i:Int)<(xs.length:Int):=by omega
   have h0:(0:Int)<=(i:Int):=by omega
   have hiy:i<ys.length:=by have:=HL.out;omega
   obtain ⟨a,rfl,x0⟩:=HX.out.mod TT.out.mod i hlt;obtain ⟨b,rfl,a0,a1,a2,a3⟩:=HA.out.mod TT.out.mod i hiy;have p0:wr.cell? ⟨w.heap.size+1,0,none⟩=some (.slice va i vc):=by rw [(TT.out.at 1 rfl).cell];rfl
   by_cases hon:Vr.onAxis xs[i] ys[i].l ys[i].d ys[i].m
   case neg =>
    have HAl:=Hi (fun W=>along_no ys[i].s xs[i] ys[i].l ys[i].d ys[i].m W hon);clear hon HO;generalize xs[i]=x at *
    generalize ys[i].s=sx at *
    generalize ys[i].l=lx at *
    generalize ys[i].d=dx at *
    generalize ys[i].m=mx at *
    simp only [show ∀ q:Addr,q.add 0=q from fun q=>by simp [Addr.add],show ∀ q:Addr,q.add 1=⟨q.block,q.off+1,none⟩ from fun q=>by simp [Addr.add],show ∀ q:Addr,q.add 2=⟨q.block,q.off+2,none⟩ from fun q=>by simp [Addr.add],show ∀ q:Addr,q.add 3=⟨q.block,q.off+3,none⟩ from fun q=>by simp [Addr.add]] at a0 a1 a2 a3;have p5:wr.cell? ⟨w.heap.size,5,none⟩=some (.slice (some b) axn axc):=by rw [(TT.out.at 0 rfl).cell];rfl
    have hb2:(i:Int)<(axn:Int):=by have:=HL.out;omega
    go_upto_region 7 with fail;clear x0;have A0:=(TT.out.at 0 rfl).every;have A1:=(TT.out.at 1 rfl).every;have Y0:∀ W,Mod [] wr W->W.cell? (b.add (i*4))=some (.string sx):=fun W m=>cell_kept m a0
    have Y1:∀ W,Mod [] wr W->W.cell? ⟨(b.add (i*4)).block,(b.add (i*4)).off+1,none⟩=some (.int .i64 lx):=fun W m=>cell_kept m a1
    have Y2:∀ W,Mod [] wr W->W.cell? ⟨(b.add (i*4)).block,(b.add (i*4)).off+2,none⟩=some (.int .i64 dx):=fun W m=>cell_kept m a2
    have Y3:∀ W,Mod [] wr W->W.cell? ⟨(b.add (i*4)).block,(b.add (i*4)).off+3,none⟩=some (.int .i64 mx):=fun W m=>cell_kept m a3
    clear a0 a1 a2 a3 p0 p5;refine Dm.wp_region_doom [true,true,true,true,true,true,true,false,false,false,false] [] 7 (fun c _=>c=[{ v:=.iface 40 (.int .i64 60),recovered:=false }]) (by kernel_rfl) rfl rfl (by kernel_rfl) ?hAlD70 ?hQ ?mainD70
    case hAlD70=>(intro i hi;cases hi)
    case mainD70 =>
     simp only [pickM]
     iterate 7
      refine sv ?_
     refine steady_done ?_;intro w' hw';go_wp2_with fail;refine (HAl.out _).mono ?_;rintro e w4 ⟨rfl,m4⟩;go_wp2_with fail;exact hw'.then m4
    case hQ =>
     intro c a' w' hG hm hc;subst hc;have s4:=hG.slot 4 (by kernel_rfl);have s5:=hG.slot 5 (by kernel_rfl);have hd:=hG.defers;simp only [List.getElem?_toArray,List.getElem?_cons_succ,List.getElem?_cons_zero] at s4 s5;have T2:=Hi (((TT.out.call hm).set 1 rfl 0 (.slice none 0 0)).set 2 rfl 0 (.int .i64 60));have B1:=(TT.out.call hm).at 1 rfl;have B2:=(TT.out.call hm).at 2 rfl;simp only [Exit.inBlock,Exit.then];change bodyPostD _ _ _ _ _ _;unfold bodyPostD;simp only;rw [hd];simp only;refine leaves_cons (f:=26) (args:=#[.pointer (some ⟨w.heap.size+1,0,none⟩),.pointer (some ⟨w.heap.size+1+1,0,none⟩)]) (by simp) (by simp [go_sem]) ?_;refine (nor1_panic (w.heap.size+1) (w.heap.size+1+1) _ _ 60 [] _ (by omega) B1 B2).mono ?_;rintro e u' w'' ⟨rfl,rfl,rfl⟩;have r0:=(T2.out.at 1 rfl).cell 0;have r1:=(T2.out.at 2 rfl).cell 0;have HM:=Hi T2.out.mod;simp at r0 r1;clear T2 B1 B2;generalize (w'.setCell ⟨w.heap.size+1,0,none⟩ (.slice none 0 0)).setCell ⟨w.heap.size+1+1,0,none⟩ (.int .i64 60)=W2 at *
     simp [Leaves,settle,results,Try.results10,go_sem,r0,r1,s4,s5];exact HM.out
   have HOi:=Hi hon;have HON:=Hi (show ¬ Vr.allOn (xs.drop (i+1)) (ys.drop (i+1)) from fun h=>HO.out (by rw [List.drop_eq_getElem_cons hlt,List.drop_eq_getElem_cons hiy];exact ⟨hon,h⟩));clear hon;have HPi:=Hi (places_at xs ys i hlt hiy);have HAl:=Hi (fun W=>along_yes ys[i].s xs[i] ys[i].l ys[i].d ys[i].m W HOi.out);generalize Vr.alongR xs[i] ys[i].l ys[i].d ys[i].m=rr at *
   obtain ⟨ra,rb⟩:=rr;clear HOi;generalize xs[i]=x at *
   generalize ys[i].s=sx at *
   generalize ys[i].l=lx at *
   generalize ys[i].d=dx at *
   generalize ys[i].m=mx at *
   simp only [show ∀ q:Addr,q.add 0=q from fun q=>by simp [Addr.add],show ∀ q:Addr,q.add 1=⟨q.block,q.off+1,none⟩ from fun q=>by simp [Addr.add],show ∀ q:Addr,q.add 2=⟨q.block,q.off+2,none⟩ from fun q=>by simp [Addr.add],show ∀ q:Addr,q.add 3=⟨q.block,q.off+3,none⟩ from fun q=>by simp [Addr.add]] at a0 a1 a2 a3;simp only at HAl;have A0:=(TT.out.at 0 rfl).every;have A1:=(TT.out.at 1 rfl).every;have Y0:∀ W,Mod [] wr W->W.cell? (b.add (i*4))=some (.string sx):=fun W m=>cell_kept m a0
   have Y1:∀ W,Mod [] wr W->W.cell? ⟨(b.add (i*4)).block,(b.add (i*4)).off+1,none⟩=some (.int .i64 lx):=fun W m=>cell_kept m a1
   have Y2:∀ W,Mod [] wr W->W.cell? ⟨(b.add (i*4)).block,(b.add (i*4)).off+2,none⟩=some (.int .i64 dx):=fun W m=>cell_kept m a2
   have Y3:∀ W,Mod [] wr W->W.cell? ⟨(b.add (i*4)).block,(b.add (i*4)).off+3,none⟩=some (.int .i64 mx):=fun W m=>cell_kept m a3
   have hb2:(i:Int)<(axn:Int):=by have:=HL.out;omega
   go_upto_region 7 with fail;clear a0 a1 a2 a3 x0 p0;refine wp_region_mask 9 [true,true,true,true,true,true,true,true,false] [(8,NewSl wr.heap.size #[.int .i64 ra,.int .i64 rb] 64 1)] (by kernel_rfl) (by kernel_rfl) (by simp [NewSl.stays]) ?_;simp only [pickM]
   iterate 7
    refine sv ?_
   refine sc (a':=?_) (fun w' hw' K Q hK=>?_) ?_ ?_;rotate_left
   ·go_wp2_with fail;refine ((calls_mod HAl.out) _ hw').mono ?_;rintro e w'' ⟨rfl,m''⟩;go_wp2_with fail;exact hK _ m''
   ·rfl
   refine steady_done ?_;refine lates_one rfl rfl (late_slice ?_) (fun sv w' hw' hF=>?_)
   ·intro w';go_simp
   obtain ⟨-,b8,rfl,hb8,B8⟩:=hF;simp only [List.drop_succ_cons,List.drop_zero];have T3:=Hi (TT.out.call hw');have HR3:=Hi (owns_mod HR.out hw');clear A0 A1 Y0 Y1 Y2 Y3 HAl TT HR hw';go_wp2_with (at_builtin;refine wpList_append_own _ rfl _ _ 58 rfl (w.heap.size+3) 64 i0 (.agg #[.int .i64 0,.int .i64 0]) 2 16 Try.underlying58 hti hz0 hz1 hz2 rfl (by decide) _ _ _ rfl HR3.out ⟨b8,0,none⟩ 1 1 [.int .i64 ra,.int .i64 rb] rfl rfl ?_ ?_ ?_ ?_ ?_ ?_)
   ·exact cells_two_at B8
   ·simp [Value.oneCell']
   ·have:=HL.out;unfold maxLen;omega
   ·have:=HL.out;omega
   ·have:=(T3.out.at 2 rfl).lt;simp at this ⊢;omega
   intro v' w1 hown' hgrow _;obtain ⟨va',vc',rfl⟩:=own_form hown';have T4:=Hi (Own.grown T3.out hgrow (fun k hk=>(HR3.out.lt k hk).1) (by omega) (by simp));have HR4:=Hi hown';clear hown' hgrow T3 HR3;have p0:=(T4.out.at 1 rfl).cell 0;have p1:=(T4.out.at 1 rfl).frozen 0;have e1:IntKind.i64.wrap ((i:Int)+1)=(i:Int)+1:=IntWalk.i64_in _ (by have:=HL.out;omega);have T5:=Hi (T4.out.set 1 rfl 0 (.slice va' (i+1) vc'));have HR5:=Hi (owns_set HR4.out (p:=⟨w.heap.size+1,0,none⟩) (by simp) (.slice va' (i+1) vc'));go_wp2_with fail;go_roundg (gk - 1)
   case measure=>have:=hi.out;omega
   case rel =>
    refine ⟨i+1,by rw [Int.natCast_add];rfl,?_,_,T5.out,?_,HON.out⟩
    ·have:=hi.out;show i+1+(gk - 1)=xs.length;omega
    ·rw [List.take_add_one,HPi.out];simp only [Option.toList_some];rw [flatP_snoc];exact HR5.out
theorem tell_right {n d:Int} (hd:d≠0) (h1:n.natAbs<=9223372036854775807) (h2:d.natAbs<=9223372036854775807):Rat.rightB (Rat.tell n d).1 (Rat.tell n d).2.1=true/\I64 (Rat.tell n d).1/\I64 (Rat.tell n d).2.1:=by
 have h3:=Rat.tell_some h1 h2;obtain ⟨⟨a,b,c⟩,he⟩:∃ r,Rat.tell n d=r:=⟨_,rfl⟩
 rw [he] at h3 ⊢;simp only at h3;subst h3;obtain ⟨k1,k2,k3,k4,k5⟩:=Rat.tell_told hd he;refine ⟨k1,?_,?_⟩ <;> (unfold I64;simp only;omega)
theorem alongR_right {v l d m:Int} (h:Vr.onAxis v l d m):Rat.rightB (Vr.alongR v l d m).1 (Vr.alongR v l d m).2=true/\I64 (Vr.alongR v l d m).1/\I64 (Vr.alongR v l d m).2:=by
 obtain ⟨h1,h2,h3,h4,h5,h6⟩:=h;unfold Vr.alongR
 split
 ·exact tell_right (by omega) (by omega) (by omega)
 ·split
  ·exact tell_right (by omega) (by omega) (by omega)
  ·refine ⟨by decide,?_,?_⟩ <;> (unfold I64;simp only;omega)
theorem places_right:∀ (xs:List Int) (ys:List Ax),Vr.allOn xs ys->∀ p∈Vr.places xs ys,Rat.rightB p.1 p.2=true/\I64 p.1/\I64 p.2
 | [],_,_,p,hp=>by simp [Vr.places] at hp
 | _::_,[],_,p,hp=>by simp [Vr.places] at hp
 | x::xs,a::ys,h,p,hp=>by
  unfold Vr.places at hp;rcases List.mem_cons.1 hp with rfl | hp
  ·exact alongR_right h.1
  ·exact places_right xs ys h.2 p hp
theorem rats_of_pairs {w:World} {v:Value} {l:List (Int×Int)} (h:PairsAt w v l) (hl:l.length<=maxLen) (hr:∀ p∈l,Rat.rightB p.1 p.2=true/\I64 p.1/\I64 p.2):Rows 2 RRat 0 w v l:=by
 obtain ⟨oa,cap,rfl,h⟩:=h;refine ⟨oa,cap,rfl,hl,fun i hi=>?_⟩;obtain ⟨b,rfl,h0,h1⟩:=h i hi;refine ⟨_,rfl,Nat.zero_le _,[.int .i64 l[i].1,.int .i64 l[i].2],rfl,fun j hj=>?_,rfl,hr _ (List.getElem_mem hi)⟩;rw [addr_add_add];have e:(⟨b,0,Option.none⟩:Addr).add (i*2+j)=⟨b,i*2+j,Option.none⟩:=by unfold Addr.add;split <;> simp_all
 rw [e];rcases j with _ | _ | j
 ·exact h0
 ·exact h1
 ·omega
def axOf (d:DAxis):Ax:=⟨d.name,d.min,d.dflt,d.max⟩
theorem axes_rows {B:Nat} {w:World} {oa:Option Addr} {n c:Nat} {l:List DAxis} (h:Rows 4 RAxis B w (.slice oa n c) l):AxesAt w oa (l.map axOf):=by
 obtain ⟨oa',c',he,_,h⟩:=h;cases he;intro i hi;rw [List.length_map] at hi;obtain ⟨a,ha,_,cs,_,hc,rfl,_⟩:=h i hi;refine ⟨a,ha,?_⟩;simp only [List.getElem_map,axOf];exact ⟨hc 0 (by omega),hc 1 (by omega),hc 2 (by omega),hc 3 (by omega)⟩
theorem place_rows {B:Nat} {w:World} {oa:Option Addr} {n c:Nat} {l:List Int} (h:Rows 1 RInt B w (.slice oa n c) l):PlaceAt w oa l:=by
 obtain ⟨oa',c',he,_,h⟩:=h;cases he;intro i hi;obtain ⟨a,ha,_,cs,_,hc,rfl,_⟩:=h i hi;refine ⟨a,ha,?_⟩;have:=hc 0 (by omega);rw [addr_add_add,Nat.add_zero,Nat.mul_one] at this;exact this
open Classical in
noncomputable def Vr.normR (axes:List DAxis) (xs:List Int):Except Int (List (Int×Int)) :=
 if xs.length=axes.length then (if Vr.allOn xs (axes.map axOf) then .ok (Vr.places xs (axes.map axOf)) else .error 60) else .error 1
def NormRes (r:Except Int (List (Int×Int))) (w:World) (e:Ending) (w':World):Prop :=
 Mod [] w w'/\match r with
 | .ok l=>∃ h:Hd,e=.returned (.tuple #[.slice h.a h.n h.c,.int .i64 0])/\Rows 2 RRat 0 w' (.slice h.a h.n h.c) l
 | .error k=>k≠0/\e=.returned (.tuple #[.slice none 0 0,.int .i64 k])
theorem normal_any (u:Int) (g c l fe ax rg fu cv pl:Hd) (axes:List DAxis) (xs:List Int) (B B2:Nat) (w:World) (hA:Rows 4 RAxis B w (.slice ax.a ax.n ax.c) axes) (h6:axes.length<=6) (hP:Rows 1 RInt B2 w (.slice pl.a pl.n pl.c) xs) :
  Calls Try.prog 10 #[.agg (fontCells u g c l fe ax rg fu cv),.slice pl.a pl.n pl.c] w (NormRes (Vr.normR axes xs) w):=by
 have hA':=axes_rows hA;have hP':=place_rows hP;have han:ax.n=axes.length:=by obtain ⟨_,_,he,_⟩:=hA;simp at he;omega
 have hpn:pl.n=xs.length:=by obtain ⟨_,_,he,_⟩:=hP;simp at he;omega
 have hml:=hP.form;obtain ⟨_,_,_,hml⟩:=hml;obtain ⟨pa,pn,pc⟩:=pl;simp only at hpn hP' ⊢;subst hpn;unfold Vr.normR
 by_cases h1:xs.length=axes.length
 ·rw [if_pos h1]
  by_cases h2:Vr.allOn xs (axes.map axOf)
  ·rw [if_pos h2];refine (normal_yes u g c l fe ax rg fu cv pa pc xs (axes.map axOf) w (by omega) (by simp [han]) (by omega) hP' hA' h2).mono ?_;rintro e w' ⟨v,rfl,m,hv⟩;obtain ⟨oa,cap,he,_⟩:=id hv;have hr:=rats_of_pairs hv (by rw [places_length];simp;omega) (places_right _ _ h2);subst he;exact ⟨m,⟨oa,_,cap⟩,rfl,hr⟩
  ·rw [if_neg h2];refine (normal_no u g c l fe ax rg fu cv pa pc xs (axes.map axOf) w (by omega) (by simp [han]) (by omega) hP' hA' h2).mono ?_;rintro e w' ⟨rfl,m⟩;exact ⟨m,by decide,rfl⟩
 ·rw [if_neg h1];refine (normal_arg u g c l fe ax rg fu cv pa xs.length pc w (by omega)).mono ?_;rintro e w' ⟨rfl,m⟩;exact ⟨m,by decide,rfl⟩
set_option maxRecDepth 100000
noncomputable def Vr.atGlyph (axes:List DAxis) (regs:List DRegion) (xs:List Int) (gl:DGlyph):Except Int DGlyph :=
 match Vr.normR axes xs with
 | .error k=>.error k
 | .ok at'=>Vr.glyphR regs at' gl
def VGRes (r:Except Int DGlyph) (w:World) (e:Ending) (w':World):Prop :=
 Mod [] w w'/\match r with
 | .ok g=>∃ cs,e=.returned (.tuple #[.agg cs.toArray,.int .i64 0])/\RGlyph w.heap.size w' cs g
 | .error k=>e=.returned (.tuple #[.agg zeroGlyphL.toArray,.int .i64 k])
theorem FacMap.new (w:World) (regs:List DRegion) (xs:List (Int×Int)):FacMap (w.alloc (.map #[] 0)) w.heap.size regs xs:=⟨[],IMap.new w,by simp⟩
theorem vg_ret (Q:Ending->World->Prop) (tb:Nat) (x0 x1 x2 x3 x4 x5 x6 x7 x8 y:Value) (a:Act) (W:World) (B:Blk W tb #[x0,x1,x2,x3,x4,x5,x6,x7,x8] 51)
  (s6:a.tmps[6]?=some (.pointer (some ⟨tb,0,none⟩))) (s7:a.tmps[7]?=some y) (hd:a.defers=[]) (hQ:Q (.returned (.tuple #[.agg #[x0,x1,x2,x3,x4,x5,x6,x7,x8],y])) W) :
  bodyPost Try.prog Try.f11 Q .ret a W:=by
 have r0:=B.cell 0;have r1:=B.cell 1;have r2:=B.cell 2;have r3:=B.cell 3;have r4:=B.cell 4;have r5:=B.cell 5;have r6:=B.cell 6;have r7:=B.cell 7;have r8:=B.cell 8;simp only [List.getElem?_toArray,List.getElem?_cons_zero,List.getElem?_cons_succ] at r0 r1 r2 r3 r4 r5 r6 r7 r8;exact bodyPost_ret (v:=.tuple #[.agg #[x0,x1,x2,x3,x4,x5,x6,x7,x8],y]) (by simp [results,Try.results11,go_sem,r0,r1,r2,r3,r4,r5,r6,r7,r8,s6,s7]) hd hQ
theorem Rows.elem {α:Type} {k B:Nat} {R:Nat->World->List Value->α->Prop} {w:World} {oa:Option Addr} {n cap:Nat} {l:List α} (h:Rows k R B w (.slice oa n cap) l) {i:Nat} {x:α} (hx:l[i]?=some x) :
  ∃ a:Addr,oa=some a/\B<=a.block/\∃ cs,cs.length=k/\(0<k->w.cell? (a.add (i*k))=cs[0]?)/\(∀ j,0<j->j<k->w.cell? ⟨(a.add (i*k)).block,(a.add (i*k)).off+j,Option.none⟩=cs[j]?)/\R B w cs x:=by
 obtain ⟨hi,rfl⟩:=List.getElem?_eq_some_iff.1 hx;exact h.at i hi
set_option maxHeartbeats 8000000 in
theorem vglyph_any (u:Int) (g c l fe ax rg fu cv pl:Hd) (glyphs:List DGlyph) (regs:List DRegion) (axes:List DAxis) (xs:List Int) (B B2:Nat) (w:World) (i:Nat) (gl:DGlyph) (hgl:glyphs[i]?=some gl)
  (hGl:Rows 9 RGlyph B w (.slice g.a g.n g.c) glyphs) (hR:Rows 1 RRegion B w (.slice rg.a rg.n rg.c) regs) (hA:Rows 4 RAxis B w (.slice ax.a ax.n ax.c) axes) (h6:axes.length<=6) (hP:Rows 1 RInt B2 w (.slice pl.a pl.n pl.c) xs) (hs:GSmall gl) :
  Calls Try.prog 11 #[.agg (fontCells u g c l fe ax rg fu cv),.int .i64 (i:Int),.slice pl.a pl.n pl.c] w (VGRes (Vr.atGlyph axes regs xs gl) w):=by
 obtain ⟨hi,hge⟩:=List.getElem?_eq_some_iff.1 hgl;have hgn:g.n=glyphs.length:=by obtain ⟨_,_,he,_⟩:=hGl;simp at he;omega
 have HNO:=Hi (fun W (m:Mod [] w W)=>normal_any u g c l fe ax rg fu cv pl axes xs B B2 W (hA.mod RAxis.stay m) h6 (hP.mod RInt.stay m));have T:=Hi (own2 w (fontCells u g c l fe ax rg fu cv) 31 zeroGlyphL.toArray 51);have MA:=Hi (((Mod.refl [] w).alloc (.cells (fontCells u g c l fe ax rg fu cv) 31)).alloc (.cells zeroGlyphL.toArray 51));have HGL:=Hi hGl;have HRG:=Hi hR;have HS:=Hi hs;have e1:decide ((i:Int)<0)=false:=decide_eq_false (by omega);have e2:decide ((glyphs.length:Int)<=(i:Int))=false:=decide_eq_false (by omega);have hi0:(0:Int)<=(i:Int):=by omega
 have hi1:(i:Int)<(glyphs.length:Int):=by omega
 have HI:=Hi hgl;obtain ⟨ga,gn,gcc⟩:=g;simp only at hgn;subst hgn;clear hgl hGl hR hA h6 hP hs hi hge;unfold fontCells zeroGlyphL at *
 simp only at T HNO MA HGL ⊢;go_enter Try.func11,Try.ntmps11;go_upto_region 1 with fail;generalize (w.alloc (.cells #[.int .i64 u,.slice ga glyphs.length gcc,.slice c.a c.n c.c,.slice l.a l.n l.c,.slice fe.a fe.n fe.c,.slice ax.a ax.n ax.c,.slice rg.a rg.n rg.c,.slice fu.a fu.n fu.c,.slice cv.a cv.n cv.c] 31)).alloc (.cells #[.string ⟨#[]⟩,.int .i64 0,.bool false,.slice none 0 0,.slice none 0 0,.slice none 0 0,.slice none 0 0,.slice none 0 0,.slice none 0 0] 51)=W0 at *
 have f1:W0.cell? ⟨w.heap.size,1,none⟩=some (.slice ga glyphs.length gcc):=by rw [(T.out.at 0 rfl).cell];rfl
 go_upto_region 3 with fail;clear f1;have F:=fun k=>(T.out.at 0 rfl).cell k
 go_wp2_with fail;refine (HNO.out _ MA.out).mono ?_;rintro e W1 ⟨m1,hr⟩;clear F;have T1:=Hi (T.out.call m1);have HM1:=Hi (MA.out.then m1);cases hn:Vr.normR axes xs with
 | error k =>
  rw [hn] at hr;obtain ⟨hk,rfl⟩:=hr;have hk':(k == 0)=false:=by simpa using hk
  have k1:(k != 0)=true:=by simpa using hk
  have hat:Vr.atGlyph axes regs xs gl=.error k:=by unfold Vr.atGlyph;rw [hn]
  rw [hat];have z:=fun k=>(T1.out.at 1 rfl).cell k
  have zf:=fun k=>(T1.out.at 1 rfl).frozen k
  have HAT:=Hi hat;clear hat;have T2:=Hi (setN_mod (w0:=w) (b:=w.heap.size+1) (by omega) zeroGlyphL 0 W1 HM1.out);have B2:=Hi ((T1.out.at 1 rfl).over zeroGlyphL rfl);go_wp2_with fail;exact vg_ret _ (w.heap.size+1) _ _ _ _ _ _ _ _ _ _ _ _ B2.out rfl rfl rfl (by rw [HAT.out];exact ⟨T2.out,rfl⟩)
 | ok at' =>
  rw [hn] at hr;obtain ⟨⟨ha,hnn,hc⟩,rfl,hX⟩:=hr;simp only at hX;have HAT:=Hi (show Vr.atGlyph axes regs xs gl=Vr.glyphR regs at' gl by unfold Vr.atGlyph;rw [hn]);have HX:=Hi hX;clear hX hn m1;have q0:=(T1.out.at 0 rfl).cell 0;have q1:=(T1.out.at 0 rfl).cell 1;have q2:=(T1.out.at 0 rfl).cell 2;have q3:=(T1.out.at 0 rfl).cell 3;have q4:=(T1.out.at 0 rfl).cell 4;have q5:=(T1.out.at 0 rfl).cell 5;have q6:=(T1.out.at 0 rfl).cell 6;have q7:=(T1.out.at 0 rfl).cell 7;have q8:=(T1.out.at 0 rfl).cell 8;simp only [List.getElem?_toArray,List.getElem?_cons_zero,List.getElem?_cons_succ] at q0 q1 q2 q3 q4 q5 q6 q7 q8;have hmm:(Instr.makeMap 68 none).run Try.prog W1=.ok (.map (some W1.heap.size)) (W1.alloc (.map #[] 0)):=rfl;go_upto_region 7 with fail;clear hmm;have mM:Mod [] W1 ((W1.alloc (.map #[] 0)).alloc (.cells #[.int .i64 u,.slice ga glyphs.length gcc,.slice c.a c.n c.c,.slice l.a l.n l.c,.slice fe.a fe.n fe.c,.slice ax.a ax.n ax.c,.slice rg.a rg.n rg.c,.slice fu.a fu.n fu.c,.slice cv.a cv.n cv.c,.slice ha hnn hc,.map (some W1.heap.size)] 70)):=((Mod.refl [] W1).alloc _).alloc _;have HFM:=Hi ((FacMap.new W1 regs at').mod ((Mod.refl [] (W1.alloc (.map #[] 0))).alloc (.cells #[.int .i64 u,.slice ga glyphs.length gcc,.slice c.a c.n c.c,.slice l.a l.n l.c,.slice fe.a fe.n fe.c,.slice ax.a ax.n ax.c,.slice rg.a rg.n rg.c,.slice fu.a fu.n fu.c,.slice cv.a cv.n cv.c,.slice ha hnn hc,.map (some W1.heap.size)] 70)));have hsb:(W1.alloc (.map #[] 0)).heap.size=W1.heap.size+1:=by show (W1.heap.push _).size=_;simp
  have bs:=Blk.new (W1.alloc (.map #[] 0)) #[.int .i64 u,.slice ga glyphs.length gcc,.slice c.a c.n c.c,.slice l.a l.n l.c,.slice fe.a fe.n fe.c,.slice ax.a ax.n ax.c,.slice rg.a rg.n rg.c,.slice fu.a fu.n fu.c,.slice cv.a cv.n cv.c,.slice ha hnn hc,.map (some W1.heap.size)] 70;rw [hsb] at bs;have BS:=Hi bs;have HMM:=Hi mM;have T3:=Hi (T1.out.call mM);have hfw:w.heap.size+2<=W1.heap.size:=by have:=(T1.out.at 1 rfl).lt;omega
  have HBB:=Hi hfw;clear mM hfw hsb bs q0 q1 q2 q3 q4 q5 q6 q7 q8;generalize (W1.alloc (.map #[] 0)).alloc (.cells #[.int .i64 u,.slice ga glyphs.length gcc,.slice c.a c.n c.c,.slice l.a l.n l.c,.slice fe.a fe.n fe.c,.slice ax.a ax.n ax.c,.slice rg.a rg.n rg.c,.slice fu.a fu.n fu.c,.slice cv.a cv.n cv.c,.slice ha hnn hc,.map (some W1.heap.size)] 70)=W3 at *
  obtain ⟨a,rfl,-,cs,-,hc0,hcj,hG⟩:=(HGL.out.mod RGlyph.stay HM1.out).elem HI.out;have HGY:=Hi (fun W (m:Mod [] W1 W) (f:FacMap W W1.heap.size regs at')=>glyph_any u ⟨some a,glyphs.length,gcc⟩ c l fe ax rg fu cv ⟨ha,hnn,hc⟩ W1.heap.size regs at' gl cs B 0 B W1 W m (Nat.le_refl _) (HRG.out.mod RRegion.stay HM1.out) HX.out hG HS.out f);obtain ⟨v3,v4,v5,v6,v7,v8,rfl,hn,had,h3,h4,h5,h6,h7,h8⟩:=hG;have c0:=hc0 (by decide);have c1:=hcj 1 (by decide) (by decide);have c2:=hcj 2 (by decide) (by decide);have c3:=hcj 3 (by decide) (by decide);have c4:=hcj 4 (by decide) (by decide);have c5:=hcj 5 (by decide) (by decide);have c6:=hcj 6 (by decide) (by decide);have c7:=hcj 7 (by decide) (by decide);have c8:=hcj 8 (by decide) (by decide);simp only [List.getElem?_cons_zero,List.getElem?_cons_succ] at c0 c1 c2 c3 c4 c5 c6 c7 c8;have Y0:∀ W,Mod [] W3 W->W.cell? (a.add (i*9))=some (.string gl.name):=fun W m=>cell_stays (HMM.out.then m) c0
  have Y1:∀ W,Mod [] W3 W->W.cell? ⟨(a.add (i*9)).block,(a.add (i*9)).off+1,none⟩=some (.int .i64 gl.adv):=fun W m=>cell_stays (HMM.out.then m) c1
  have Y2:∀ W,Mod [] W3 W->W.cell? ⟨(a.add (i*9)).block,(a.add (i*9)).off+2,none⟩=some (.bool gl.mark):=fun W m=>cell_stays (HMM.out.then m) c2
  have Y3:∀ W,Mod [] W3 W->W.cell? ⟨(a.add (i*9)).block,(a.add (i*9)).off+3,none⟩=some v3:=fun W m=>cell_stays (HMM.out.then m) c3
  have Y4:∀ W,Mod [] W3 W->W.cell? ⟨(a.add (i*9)).block,(a.add (i*9)).off+4,none⟩=some v4:=fun W m=>cell_stays (HMM.out.then m) c4
  have Y5:∀ W,Mod [] W3 W->W.cell? ⟨(a.add (i*9)).block,(a.add (i*9)).off+5,none⟩=some v5:=fun W m=>cell_stays (HMM.out.then m) c5
  have Y6:∀ W,Mod [] W3 W->W.cell? ⟨(a.add (i*9)).block,(a.add (i*9)).off+6,none⟩=some v6:=fun W m=>cell_stays (HMM.out.then m) c6
  have Y7:∀ W,Mod [] W3 W->W.cell? ⟨(a.add (i*9)).block,(a.add (i*9)).off+7,none⟩=some v7:=fun W m=>cell_stays (HMM.out.then m) c7
  have Y8:∀ W,Mod [] W3 W->W.cell? ⟨(a.add (i*9)).block,(a.add (i*9)).off+8,none⟩=some v8:=fun W m=>cell_stays (HMM.out.then m) c8
  clear c0 c1 c2 c3 c4 c5 c6 c7 c8 hc0 hcj hn had h3 h4 h5 h6 h7 h8;have A0:=fun W (mW:Mod [] W3 W) k=>BS.out.every W mW k
  have A1:=fun W (mW:Mod [] W3 W) k=>(T3.out.at 0 rfl).every W mW k
  unfold spotCells at HGY;simp only at HGY;refine calm_of ?_;refine Ch.wp_region_chain [(8,7)] ?l'1 6 [true,true,true,true,true,true] [] [] (by kernel_rfl) ?hl1 ?hB1 ?hT1 ?hsl1 ?hAl1 ?hQ1 ?main1
  case hl1=>simp only [Ch.waitsFor,waitFor,List.modify_succ_cons,List.modify_zero_cons];exact rfl
  case hB1=>kernel_rfl
  case hT1=>simp []
  case hsl1=>kernel_rfl
  case hAl1=>(intro i hi;cases hi)
  case hQ1=>(intro _ _ d _ _ h;cases d <;> exact h)
  simp only [pickM]
  iterate 6
   refine sv ?_
  refine steady_done ?_;refine Ch.chain_end ?_;refine lates_end (fun hD w' hw' hF=>?_);simp only [List.drop_succ_cons,List.drop_zero];have HM3:=Hi (HMM.out.then hw');have HF3:=Hi (HFM.out.mod hw');have T4:=Hi (T3.out.call hw');clear Y0 Y1 Y2 Y3 Y4 Y5 Y6 Y7 Y8 A0 A1 hF hD hw';go_wp2_with fail;refine (HGY.out _ HM3.out HF3.out).mono ?_;rintro e W5 ⟨m5,-,hr5⟩
  have T5:=Hi (T4.out.off (T4.out.mod.trans m5 (fun x hx hlt=>by have:=HBB.out;simp at hx;omega)) (fun p hp=>m5.block p.1 ((T4.out.blk p hp).2.lt) (fun hm=>by
   have:=HBB.out;simp at hm;simp only [List.mem_cons,List.not_mem_nil,or_false] at hp
   rcases hp with rfl | rfl <;> simp at hm <;> omega)))
  have HSZ:=Hi (show w.heap.size+2<=w'.heap.size by have:=HBB.out;have:=HM3.out.size;omega);cases hg:Vr.glyphR regs at' gl with
  | error k =>
   rw [hg] at hr5;obtain rfl:e=.returned (.tuple #[.agg zeroGlyphL.toArray,.int .i64 k]):=hr5;have HAT2:=Hi (HAT.out.trans hg);have T6:=Hi (setN_mod (w0:=w) (b:=w.heap.size+1) (by omega) zeroGlyphL 0 W5 T5.out.mod);have B6:=Hi ((T5.out.at 1 rfl).over zeroGlyphL rfl);have z0:=(T5.out.at 1 rfl).cell 0;have z1:=(T5.out.at 1 rfl).cell 1;have z2:=(T5.out.at 1 rfl).cell 2;have z3:=(T5.out.at 1 rfl).cell 3;have z4:=(T5.out.at 1 rfl).cell 4;have z5:=(T5.out.at 1 rfl).cell 5;have z6:=(T5.out.at 1 rfl).cell 6;have z7:=(T5.out.at 1 rfl).cell 7;have z8:=(T5.out.at 1 rfl).cell 8;have zf:=fun k=>(T5.out.at 1 rfl).frozen k
   simp only [List.getElem?_toArray,List.getElem?_cons_zero,List.getElem?_cons_succ] at z0 z1 z2 z3 z4 z5 z6 z7 z8;clear hg m5 HAT HGY HM3 HF3 T4;unfold zeroGlyphL;go_wp2_with fail;refine calm_normal ?_;go_wp2_with fail;exact vg_ret _ (w.heap.size+1) _ _ _ _ _ _ _ _ _ _ _ _ B6.out rfl rfl rfl (by rw [HAT2.out];exact ⟨T6.out,rfl⟩)
  | ok g' =>
   rw [hg] at hr5;obtain ⟨cs,rfl,hG⟩:=hr5;obtain ⟨x3,x4,x5,x6,x7,x8,rfl,hgn,hga,r3,r4,r5,r6,r7,r8⟩:=hG;obtain ⟨p3,k3,rfl,-⟩:=r3.form;obtain ⟨p4,k4,rfl,-⟩:=r4.form;obtain ⟨p5,k5,rfl,-⟩:=r5.form;obtain ⟨p6,k6,rfl,-⟩:=r6.form;obtain ⟨p7,k7,rfl,-⟩:=r7.form;obtain ⟨p8,k8,rfl,-⟩:=r8.form;have HAT2:=Hi (HAT.out.trans hg);have HG:=Hi (show RGlyph w'.heap.size W5 [.string g'.name,.int .i64 g'.adv,.bool g'.mark,.slice p3 g'.pts.length k3,.slice p4 g'.ends.length k4,.slice p5 g'.parts.length k5,.slice p6 g'.anchors.length k6,.slice p7 g'.deltas.length k7,.slice p8 g'.hint.length k8] g' from ⟨_,_,_,_,_,_,rfl,hgn,hga,r3,r4,r5,r6,r7,r8⟩);have T6:=Hi (setN_mod (w0:=w) (b:=w.heap.size+1) (by omega) [.string g'.name,.int .i64 g'.adv,.bool g'.mark,.slice p3 g'.pts.length k3,.slice p4 g'.ends.length k4,.slice p5 g'.parts.length k5,.slice p6 g'.anchors.length k6,.slice p7 g'.deltas.length k7,.slice p8 g'.hint.length k8] 0 W5 T5.out.mod);have B6:=Hi ((T5.out.at 1 rfl).over [.string g'.name,.int .i64 g'.adv,.bool g'.mark,.slice p3 g'.pts.length k3,.slice p4 g'.ends.length k4,.slice p5 g'.parts.length k5,.slice p6 g'.anchors.length k6,.slice p7 g'.deltas.length k7,.slice p8 g'.hint.length k8] rfl);have HA:=Hi (setN_above (b:=w.heap.size+1) (B:=w'.heap.size) (by have:=HSZ.out;omega) [.string g'.name,.int .i64 g'.adv,.bool g'.mark,.slice p3 g'.pts.length k3,.slice p4 g'.ends.length k4,.slice p5 g'.parts.length k5,.slice p6 g'.anchors.length k6,.slice p7 g'.deltas.length k7,.slice p8 g'.hint.length k8] 0 W5);have z0:=(T5.out.at 1 rfl).cell 0;have z1:=(T5.out.at 1 rfl).cell 1;have z2:=(T5.out.at 1 rfl).cell 2;have z3:=(T5.out.at 1 rfl).cell 3;have z4:=(T5.out.at 1 rfl).cell 4;have z5:=(T5.out.at 1 rfl).cell 5;have z6:=(T5.out.at 1 rfl).cell 6;have z7:=(T5.out.at 1 rfl).cell 7;have z8:=(T5.out.at 1 rfl).cell 8;have zf:=fun k=>(T5.out.at 1 rfl).frozen k
   simp only [List.getElem?_toArray,List.getElem?_cons_zero,List.getElem?_cons_succ] at z0 z1 z2 z3 z4 z5 z6 z7 z8;clear hg m5 HAT HGY HM3 HF3 T4 hgn hga r3 r4 r5 r6 r7 r8;go_wp2_with fail;refine calm_normal ?_;go_wp2_with fail;exact vg_ret _ (w.heap.size+1) _ _ _ _ _ _ _ _ _ _ _ _ B6.out rfl rfl rfl (by rw [HAT2.out];exact ⟨T6.out,_,rfl,RGlyph.lower _ _ _ _ _ (RGlyph.stay _ _ _ _ _ HG.out HA.out) (by have:=HSZ.out;omega)⟩)
theorem Try.rowsinfo_Int:(Try.prog.info? 22).map (fun i=>(i.zero,i.size,i.bytes))=some (some (.slice none 0 0),1,24):=by kernel_rfl
set_option maxHeartbeats 1000000 in
theorem rows_Int (v:Value) (l:List (List Int)) (B:Nat) (w:World) (h:Rows 1 RSet B w v l) (hl:l.length*24<=140737488351232) (hll:∀ x∈l,x.length*8<=140737488351232) :
  Calls Try.prog 40 #[v] w fun e w'=>∃ u,e=.returned u/\Mod [] w w'/\Rows 1 RSet w.heap.size w' u l:=by
 obtain ⟨oa,cap,rfl,hm⟩:=h.form;obtain ⟨i0,hi,hz0,hz1,hz2⟩:=info_parts Try.rowsinfo_Int;have hmk:=fun W=>run_make (P:=Try.prog) W 114 22 i0 (.slice none 0 0) Try.underlying114 hi hz0 .i64 .i64 (l.length:Int) (l.length:Int) (by omega) (by omega) (by rw [hz2];omega) (by omega)
 rw [hz1] at hmk;simp only [Int.toNat_natCast] at hmk;generalize hmc:madeCells (Value.slice none 0 0).cells (l.length*1)=mc at hmk;have HSZ:Hid (mc.size=l.length*1):=by rw [<- hmc];exact size_made _ _
 have HR:=Hi h;have HL:=Hi (And.intro hl (And.intro hll hm));clear h hl hll hmc hm;go_enter Try.func40,Try.ntmps40;go_upto_region 3 with fail;have F:=Hi (Fill.start (k:=1) (R:=RSet) (B:=w.heap.size+1) (l:=l) (Blk.new w mc 22) HSZ.out);have M:=Hi ((Mod.refl [] w).alloc (.cells mc 22));generalize w.alloc (.cells mc 22)=W0 at *
 clear hmk HSZ
 go_loopg [10] l.length (fun gk s10 wr=>∃ i:Nat,s10=.int .i64 (i:Int)/\Hid (i+gk=l.length)/\Hid (Mod [] w wr/\w.heap.size<wr.heap.size/\Fill 1 RSet (w.heap.size+1) wr w.heap.size 22 l i))
 case atStart=>exact ⟨0,rfl,by show 0+l.length=l.length;omega,M.out,by obtain ⟨c,B,_⟩:=F.out;exact B.lt,F.out⟩
 case round =>
  obtain ⟨i,rfl,hi,HV⟩:=hrel;clear F M
  by_cases hn:i=l.length
  ·subst hn;go_wp2_with fail;go_ret;exact ⟨_,rfl,HV.out.1,HV.out.2.2.done RSet.lower HL.out.2.2 (Nat.le_refl _) (by omega)⟩
  ·have hlt:i<l.length:=by have:=hi.out;omega
   have hlt2:(i:Int)<(l.length:Int):=by omega
   have h0:(0:Int)<=(i:Int):=by omega
   obtain ⟨a,rfl,hB,cs,hk,hc0,-,rv,rfl,hrv⟩:=(HR.out.mod RSet.stay HV.out.1).at i hlt;have c0:wr.cell? (a.add (i*1))=some rv:=hc0 (by decide);rw [Nat.mul_one] at c0;obtain ⟨pa,pc,rfl,hpm⟩:=hrv.form;have HC:=Hi (copy_Int _ _ _ wr hrv (HL.out.2.1 _ (List.getElem_mem hlt)));have HRV:=Hi hrv;have e1:IntKind.i64.wrap ((i:Int)+1)=(i:Int)+1:=IntWalk.i64_in _ (by have:=HL.out.1;omega);clear hrv hB hk hc0 hn;go_wp2_with fail;refine HC.out.mono ?_;intro e w1 hcr;obtain ⟨u,rfl,m1,hu⟩:=copied_Int HRV.out hcr;have HU:=Hi hu;have HV1:=Hi (And.intro (HV.out.1.then m1) (And.intro (Nat.lt_of_lt_of_le HV.out.2.1 m1.size) (HV.out.2.2.mod RSet.stay m1)));obtain ⟨oldv,q0,q1⟩:=HV1.out.2.2.cell (q:=i) (by omega);obtain ⟨ua,uc,rfl,hum⟩:=hu.form;clear hcr m1 hu HC HRV hum hpm;go_wp2_with fail;have HF:=Hi (HV1.out.2.2.set1 RSet.stay hlt (v:=.slice ua (l[i]).length uc) ⟨_,rfl,HU.out.lower RInt.lower (Nat.succ_le_of_lt HV.out.2.1)⟩ (Nat.lt_succ_self _));have HM:=Hi (HV1.out.1.setNew (p:=⟨w.heap.size,i,none⟩) (Nat.le_refl _) (.slice ua (l[i]).length uc));go_roundg (gk - 1)
   case measure=>have:=hi.out;omega
   case rel =>
    refine ⟨i+1,by rw [Int.natCast_add];rfl,?_,HM.out,?_,HF.out⟩
    ·have:=hi.out;show i+1+(gk - 1)=l.length;omega
    ·rw [setCell_size];exact HV1.out.2.1
theorem Try.rowsinfo_Ins:(Try.prog.info? 49).map (fun i=>(i.zero,i.size,i.bytes))=some (some (.slice none 0 0),1,24):=by kernel_rfl
set_option maxHeartbeats 1000000 in
theorem rows_Ins (v:Value) (l:List (List DIns)) (B:Nat) (w:World) (h:Rows 1 RCode B w v l) (hl:l.length*24<=140737488351232) (hll:∀ x∈l,x.length*16<=140737488351232) :
  Calls Try.prog 17 #[v] w fun e w'=>∃ u,e=.returned u/\Mod [] w w'/\Rows 1 RCode w.heap.size w' u l:=by
 obtain ⟨oa,cap,rfl,hm⟩:=h.form;obtain ⟨i0,hi,hz0,hz1,hz2⟩:=info_parts Try.rowsinfo_Ins;have hmk:=fun W=>run_make (P:=Try.prog) W 29 49 i0 (.slice none 0 0) Try.underlying29 hi hz0 .i64 .i64 (l.length:Int) (l.length:Int) (by omega) (by omega) (by rw [hz2];omega) (by omega)
 rw [hz1] at hmk;simp only [Int.toNat_natCast] at hmk;generalize hmc:madeCells (Value.slice none 0 0).cells (l.length*1)=mc at hmk;have HSZ:Hid (mc.size=l.length*1):=by rw [<- hmc];exact size_made _ _
 have HR:=Hi h;have HL:=Hi (And.intro hl (And.intro hll hm));clear h hl hll hmc hm;go_enter Try.func17,Try.ntmps17;go_upto_region 3 with fail;have F:=Hi (Fill.start (k:=1) (R:=RCode) (B:=w.heap.size+1) (l:=l) (Blk.new w mc 49) HSZ.out);have M:=Hi ((Mod.refl [] w).alloc (.cells mc 49));generalize w.alloc (.cells mc 49)=W0 at *
 clear hmk HSZ
 go_loopg [10] l.length (fun gk s10 wr=>∃ i:Nat,s10=.int .i64 (i:Int)/\Hid (i+gk=l.length)/\Hid (Mod [] w wr/\w.heap.size<wr.heap.size/\Fill 1 RCode (w.heap.size+1) wr w.heap.size 49 l i))
 case atStart=>exact ⟨0,rfl,by show 0+l.length=l.length;omega,M.out,by obtain ⟨c,B,_⟩:=F.out;exact B.lt,F.out⟩
 case round =>
  obtain ⟨i,rfl,hi,HV⟩:=hrel;clear F M
  by_cases hn:i=l.length
  ·subst hn;go_wp2_with fail;go_ret;exact ⟨_,rfl,HV.out.1,HV.out.2.2.done RCode.lower HL.out.2.2 (Nat.le_refl _) (by omega)⟩
  ·have hlt:i<l.length:=by have:=hi.out;omega
   have hlt2:(i:Int)<(l.length:Int):=by omega
   have h0:(0:Int)<=(i:Int):=by omega
   obtain ⟨a,rfl,hB,cs,hk,hc0,-,rv,rfl,hrv⟩:=(HR.out.mod RCode.stay HV.out.1).at i hlt;have c0:wr.cell? (a.add (i*1))=some rv:=hc0 (by decide);rw [Nat.mul_one] at c0;obtain ⟨pa,pc,rfl,hpm⟩:=hrv.form;have HC:=Hi (copy_Ins _ _ _ wr hrv (HL.out.2.1 _ (List.getElem_mem hlt)));have HRV:=Hi hrv;have e1:IntKind.i64.wrap ((i:Int)+1)=(i:Int)+1:=IntWalk.i64_in _ (by have:=HL.out.1;omega);clear hrv hB hk hc0 hn;go_wp2_with fail;refine HC.out.mono ?_;intro e w1 hcr;obtain ⟨u,rfl,m1,hu⟩:=copied_Ins HRV.out hcr;have HU:=Hi hu;have HV1:=Hi (And.intro (HV.out.1.then m1) (And.intro (Nat.lt_of_lt_of_le HV.out.2.1 m1.size) (HV.out.2.2.mod RCode.stay m1)));obtain ⟨oldv,q0,q1⟩:=HV1.out.2.2.cell (q:=i) (by omega);obtain ⟨ua,uc,rfl,hum⟩:=hu.form;clear hcr m1 hu HC HRV hum hpm;go_wp2_with fail;have HF:=Hi (HV1.out.2.2.set1 RCode.stay hlt (v:=.slice ua (l[i]).length uc) ⟨_,rfl,HU.out.lower RIns.lower (Nat.succ_le_of_lt HV.out.2.1)⟩ (Nat.lt_succ_self _));have HM:=Hi (HV1.out.1.setNew (p:=⟨w.heap.size,i,none⟩) (Nat.le_refl _) (.slice ua (l[i]).length uc));go_roundg (gk - 1)
   case measure=>have:=hi.out;omega
   case rel =>
    refine ⟨i+1,by rw [Int.natCast_add];rfl,?_,HM.out,?_,HF.out⟩
    ·have:=hi.out;show i+1+(gk - 1)=l.length;omega
    ·rw [setCell_size];exact HV1.out.2.1
theorem Try.lookinfo:(Try.prog.info? 113).map (fun i=>(i.zero,i.size,i.bytes))=some (some (.agg #[.int .i64 0,.bool false,.slice none 0 0]),3,40):=by kernel_rfl
theorem Try.ruleinfo:(Try.prog.info? 117).map (fun i=>(i.zero,i.size,i.bytes))=some (some (.agg #[.slice none 0 0,.slice none 0 0,.slice none 0 0,.slice none 0 0,.slice none 0 0,.int .i64 0]),6,128):=by kernel_rfl
def RuleSmall (r:DRule):Prop:=(r.back.length*24<=140737488351232/\∀ x∈r.back,x.length*8<=140737488351232)/\(r.ins.length*24<=140737488351232/\∀ x∈r.ins,x.length*8<=140737488351232)/\(r.ahead.length*24<=140737488351232/\∀ x∈r.ahead,x.length*8<=140737488351232)/\r.out.length*8<=140737488351232/\r.calls.length*16<=140737488351232
theorem rows_Int_f (v:Value) (l:List (List Int)) (B B0:Nat) (w:World) (h:Rows 1 RSet B w v l) (hl:l.length*24<=140737488351232/\∀ x∈l,x.length*8<=140737488351232) (hB:B0<=w.heap.size) :
  Calls Try.prog 40 #[v] w fun e w'=>∃ u,e=.returned u/\FRows 1 RSet B0 l u w'/\Mod [] w w' :=
 (rows_Int v l B w h hl.1 hl.2).mono fun e w' ⟨u,he,m,hr⟩=>⟨u,he,hr.lower RSet.lower hB,m⟩
set_option maxHeartbeats 8000000 in
theorem lookups_any (v : Value) (l : List DLookup) (B : Nat) (w : World) (h : Rows 3 RLookup B w v l) (hl : l.length * 40 <= 140737488351232) (hll : ∀ x ∈ l, x.rules.length * 128 <= 140737488351232 /\ ∀ r ∈ x.rules, RuleSmall r) :
    Calls Try.prog 15 #[v] w fun e w' => ∃ u, e = .returned u /\ Mod [] w w' /\ Rows 3 RLookup w.heap.size w' u l := by
  obtain ⟨oa, cap, rfl, hm⟩ := h.form
  obtain ⟨i0, hi, hz0, hz1, hz2⟩ := info_parts Try.lookinfo
  have hmk := fun W => run_make (P := Try.prog) W 25 113 i0 (.agg #[.int .i64 0, .bool false, .slice none 0 0]) Try.underlying25 hi hz0 .i64 .i64 (l.length : Int) (l.length : Int) (by omega) (by omega) (by rw [hz2]; omega) (by omega)
  rw [hz1] at hmk
  simp only [Int.toNat_natCast] at hmk
  generalize hmc : madeCells (Value.agg #[.int .i64 0, .bool false, .slice none 0 0]).cells (l.length * 3) = mc at hmk
  have HSZ : Hid (mc.size = l.length * 3) := by rw [<- hmc]; exact size_made _ _
  have HR := Hi h
  have HL := Hi (And.intro hl (And.intro hll hm))
  clear h hl hll hmc hm
  go_enter Try.func15, Try.ntmps15
  go_upto_region 3 with fail
  have F := Hi (Fill.start (k := 3) (R := RLookup) (B := w.heap.size + 1) (l := l) (Blk.new w mc 113) HSZ.out)
  have M := Hi ((Mod.refl [] w).alloc (.cells mc 113))
  generalize w.alloc (.cells mc 113) = W0 at *
  clear hmk HSZ hi hz0 hz1 hz2 i0
  go_loopg [13] l.length (fun gk s13 wr => ∃ i : Nat, s13 = .int .i64 (i : Int) /\ Hid (i + gk = l.length) /\ Hid (Mod [] w wr /\ w.heap.size < wr.heap.size /\ Fill 3 RLookup (w.heap.size + 1) wr w.heap.size 113 l i))
  case atStart => exact ⟨0, rfl, by show 0 + l.length = l.length; omega, M.out, by obtain ⟨c, B, _⟩ := F.out; exact B.lt, F.out⟩
  case round =>
    obtain ⟨i, rfl, hi, HV⟩ := hrel
    clear F M
    by_cases hn : i = l.length
    · subst hn
      go_wp2_with fail
      go_ret
      exact ⟨_, rfl, HV.out.1, HV.out.2.2.done RLookup.lower HL.out.2.2 (Nat.le_refl _) (by omega)⟩
    · have hlt : i < l.length := by have := hi.out; omega
      have hlt2 : (i : Int) < (l.length : Int) := by omega
      have h0 : (0 : Int) <= (i : Int) := by omega
      obtain ⟨a, rfl, hB, cs, hk, hc0, hcj, rv, rfl, hki, hrv⟩ := HR.out.at i hlt
      have c0 := hc0 (by decide)
      have c1 := hcj 1 (by decide) (by decide)
      have c2 := hcj 2 (by decide) (by decide)
      simp only [List.getElem?_cons_zero, List.getElem?_cons_succ] at c0 c1 c2
      have c0 := cell_stays HV.out.1 c0
      have c1 := cell_stays HV.out.1 c1
      have c2 := cell_stays HV.out.1 c2
      obtain ⟨pa, pc, rfl, hpm⟩ := hrv.form
      have HRV := Hi hrv
      have HKI := Hi hki
      have HLL := Hi (HL.out.2.1 _ (List.getElem_mem hlt))
      have e1 : IntKind.i64.wrap ((i : Int) + 1) = (i : Int) + 1 := IntWalk.i64_in _ (by have := HL.out.1; omega)
      have HDX : Hid (l[i] = ⟨(l[i]).kind, (l[i]).ignore, (l[i]).rules⟩) := rfl
      generalize (l[i]).kind = kd at *
      generalize (l[i]).ignore = ig at *
      generalize (l[i]).rules = rs at *
      clear hrv hB hk hc0 hcj hn hki
      have T := Hi (((Own.start w).call HV.out.1).alloc #[.int .i64 kd, .bool ig, .slice pa rs.length pc] 113)
      have HV1 := Hi (HV.out.2.2.mod RLookup.stay ((Mod.refl _ _).alloc (.cells #[.int .i64 kd, .bool ig, .slice pa rs.length pc] 113)))
      have HSZ : Hid (w.heap.size < wr.heap.size) := HV.out.2.1
      obtain ⟨j0, hj, hy0, hy1, hy2⟩ := info_parts Try.ruleinfo
      have hmk := fun W => run_make (P := Try.prog) W 111 117 j0 (.agg #[.slice none 0 0, .slice none 0 0, .slice none 0 0, .slice none 0 0, .slice none 0 0, .int .i64 0]) Try.underlying111 hj hy0 .i64 .i64 (rs.length : Int) (rs.length : Int) (by omega) (by omega) (by rw [hy2]; have := HLL.out.1; omega) (by have := HLL.out.1; omega)
      rw [hy1] at hmk
      simp only [Int.toNat_natCast] at hmk
      generalize hmc : madeCells (Value.agg #[.slice none 0 0, .slice none 0 0, .slice none 0 0, .slice none 0 0, .slice none 0 0, .int .i64 0]).cells (rs.length * 6) = mc at hmk
      have HSM : Hid (mc.size = rs.length * 6) := by rw [<- hmc]; exact size_made _ _
      clear hmc hj hy0 hy1 hy2 j0
      go_upto_region 5 with fail
      generalize wr.alloc (.cells #[.int .i64 kd, .bool ig, .slice pa rs.length pc] 113) = W1 at *
      generalize wr.heap.size = b5 at *
      clear c0 c1 c2 HV
      have A0 := (T.out.at 0 rfl).every
      refine Sq.wp_region_toks 11 [(0, none), (1, none), (2, none), (3, none), (4, none), (5, none), (6, none), (7, none), (8, none), (9, some (NewSl W1.heap.size mc 117 rs.length)), (10, none)] (by kernel_rfl) (by kernel_rfl) (Sq.nodup_of (by kernel_rfl)) ?hTS79 ?mainS79
      case hTS79 =>
        intro p hp T hT v
        simp only [List.mem_cons, List.not_mem_nil, or_false] at hp
        rcases hp with rfl | rfl | rfl | rfl | rfl | rfl | rfl | rfl | rfl | rfl | rfl <;> first | (cases hT; done) | (cases hT; first | exact NewSl.stays _ _ _ _ _)
      iterate 9 refine Sq.vv ?_
      refine Sq.k_go (f := ?_) rfl rfl (fun v => by simp only [Act.put]; (try simp only [List.setIfInBounds_toArray]); (try simp only [List.set_cons_succ, List.set_cons_zero]); exact rfl) (fun w' hw' hF K Q hK => ?_) (fun kv9 hkv9 => ?_)
      · clear hF
        go_wp2_with fail
        exact hK _ _ ((Mod.refl _ _).alloc _) (⟨_, rfl, hw'.size, Blk.new _ _ _⟩)
      obtain ⟨_, -, b2, rfl, -, -⟩ := hkv9
      refine Sq.vv ?_
      refine Sq.nil_go ?_
      intro w' hw' hF
      simp only [List.drop_succ_cons, List.drop_zero]
      obtain ⟨-, b2', hb2e, hb2, B2⟩ := hF
      obtain rfl : b2 = b2' := by simpa using hb2e
      have T2 := Hi (T.out.call hw')
      have F2 := Hi (HV1.out.mod RLookup.stay hw')
      have hs1 : w.heap.size + 1 <= W1.heap.size := by have := (T.out.at 0 rfl).lt; have := HSZ.out; omega
      have hs2 : b5 < W1.heap.size := (T.out.at 0 rfl).lt
      obtain ⟨o0, q0, q1⟩ := F2.out.cell (q := i * 3) (by omega)
      obtain ⟨o1, q2, q3⟩ := F2.out.cell (q := i * 3 + 1) (by omega)
      obtain ⟨o2, q4, q5⟩ := F2.out.cell (q := i * 3 + 2) (by omega)
      have HB2 := Hi B2
      have HW := Hi hw'
      clear hb2e B2 hw' A0 T hmk
      go_upto_region 6 with fail
      have XF : (((w'.setCell ⟨w.heap.size, i * 3, none⟩ (.int .i64 kd)).setCell ⟨w.heap.size, i * 3 + 1, none⟩ (.bool ig)).setCell ⟨w.heap.size, i * 3 + 2, none⟩ (.slice (some ⟨b2, 0, none⟩) rs.length rs.length)) = setN w' (w.heap.size) (i * 3) [.int .i64 kd, .bool ig, .slice (some ⟨b2, 0, none⟩) rs.length rs.length] := rfl
      rw [XF]
      clear XF
      obtain ⟨c, cB, cs, c3⟩ := HV1.out
      have HC := Hi (And.intro cs c3)
      have cB2 := cB.kept HW.out (by simp)
      have M3 := Hi (setN_mod (w0 := w) (b := w.heap.size) (Nat.le_refl _) [.int .i64 kd, .bool ig, .slice (some ⟨b2, 0, none⟩) rs.length rs.length] (i * 3) w' T2.out.mod)
      have A3 := Hi (((HW.out.above (w.heap.size + 1)).then HW.out.size (setN_above (b := w.heap.size) (Nat.lt_succ_self _) [.int .i64 kd, .bool ig, .slice (some ⟨b2, 0, none⟩) rs.length rs.length] (i * 3) w')))
      have C3 := Hi (setN_blk [.int .i64 kd, .bool ig, .slice (some ⟨b2, 0, none⟩) rs.length rs.length] (i * 3) w' c cB2)
      have D3 := Hi (show Blk (setN w' w.heap.size (i * 3) [.int .i64 kd, .bool ig, .slice (some ⟨b2, 0, none⟩) rs.length rs.length]) b5 #[.int .i64 kd, .bool ig, .slice pa rs.length pc] 113 from (setN_other (by have := HSZ.out; omega) _ _ _).trans (T2.out.at 0 rfl))
      have E3 := Hi (show Blk (setN w' w.heap.size (i * 3) [.int .i64 kd, .bool ig, .slice (some ⟨b2, 0, none⟩) rs.length rs.length]) b2 mc 117 from (setN_other (by omega) _ _ _).trans HB2.out)
      have S3 := Hi (show w'.heap.size <= (setN w' w.heap.size (i * 3) [.int .i64 kd, .bool ig, .slice (some ⟨b2, 0, none⟩) rs.length rs.length]).heap.size by rw [setN_size]; exact Nat.le_refl _)
      have cell2 : (putN c (i * 3) [.int .i64 kd, .bool ig, .slice (some ⟨b2, 0, none⟩) rs.length rs.length])[i * 3 + 2]? = some (.slice (some ⟨b2, 0, none⟩) rs.length rs.length) := by
        rw [putN_in _ _ 2 _ (by simp) (by rw [cs]; show i * 3 + 3 <= l.length * 3; omega)]; rfl
      have HCC := Hi cell2
      generalize hpc : putN c (i * 3) [.int .i64 kd, .bool ig, .slice (some ⟨b2, 0, none⟩) rs.length rs.length] = pc3 at *
      have HPC := Hi hpc
      generalize setN w' w.heap.size (i * 3) [.int .i64 kd, .bool ig, .slice (some ⟨b2, 0, none⟩) rs.length rs.length] = W3 at *
      have F3 := Hi (Fill.start (k := 6) (R := RRule) (B := b2 + 1) (l := rs) E3.out HSM.out)
      have d2 : W3.cell? ⟨b5, 2, none⟩ = some (.slice pa rs.length pc) := D3.out.cell 2
      clear q0 q1 q2 q3 q4 q5 cB cs c3 cB2 cell2 hpc E3 HSM HB2
      go_wp2_with fail
      clear d2
      generalize gk = gko at *
      go_loopg [33] rs.length (fun gk2 s33 w2 => ∃ j : Nat, s33 = .int .i64 (j : Int) /\ Hid (j + gk2 = rs.length) /\ Hid (Mod [] w w2 /\ Above (w.heap.size + 1) W1 w2 /\ W1.heap.size <= w2.heap.size /\ b2 < w2.heap.size /\ Blk w2 w.heap.size pc3 113 /\ Fill 6 RRule (b2 + 1) w2 b2 117 rs j))
      case atStart =>
        refine ⟨0, rfl, by show 0 + rs.length = rs.length; omega, M3.out, A3.out, Nat.le_trans HW.out.size S3.out, ?_, C3.out, F3.out⟩
        obtain ⟨_, B, _⟩ := F3.out
        exact B.lt
      case round =>
        obtain ⟨j, rfl, hj, HI⟩ := hrel
        clear M3 A3 C3 D3 S3 F3
        by_cases hjn : j = rs.length
        · subst hjn
          go_wp2_with fail
          obtain ⟨g1, g2, g3, g4, g5, g6⟩ := HI.out
          have HFN := Hi (Fill.after (k := 3) (R := RLookup) (B := w.heap.size + 1) (t := 113) (b := w.heap.size) (i := i) (cs := [.int .i64 kd, .bool ig, .slice (some ⟨b2, 0, none⟩) rs.length rs.length]) RLookup.stay HC.out.1 HC.out.2 hlt g2 (by rw [HPC.out]; exact g5) rfl (by
            rw [HDX.out]
            exact ⟨_, rfl, HKI.out, g6.done RRule.lower (by have := HLL.out.1; have : (140737488351232 : Nat) <= maxLen := by decide
                                                            omega) (by omega) (by omega)⟩))
          have HM := Hi g1
          have HSS := Hi (show w.heap.size < wr.heap.size by omega)
          go_roundg (gko - 1)
          case measure => have := hi.out; omega
          case rel =>
            refine ⟨i + 1, by rw [Int.natCast_add]; rfl, ?_, HM.out, HSS.out, HFN.out⟩
            have := hi.out; show i + 1 + (gko - 1) = l.length; omega
        · have hjt : j < rs.length := by have := hj.out; omega
          have hjt2 : (j : Int) < (rs.length : Int) := by omega
          have hj0 : (0 : Int) <= (j : Int) := by omega
          obtain ⟨g1, g2, g3, g4, g5, g6⟩ := HI.out
          have hrr : Rows 6 RRule B wr (.slice pa rs.length pc) rs := HRV.out.mod RRule.stay g1
          obtain ⟨a2, rfl, -, cs2, hk2, hd0, hdj, v0, v1, v2, v3, v4, rfl, r0, r1, r2, r3, r4, rx⟩ := hrr.at j hjt
          have c0 := hd0 (by decide)
          have c1 := hdj 1 (by decide) (by decide)
          have c2 := hdj 2 (by decide) (by decide)
          have c3 := hdj 3 (by decide) (by decide)
          have c4 := hdj 4 (by decide) (by decide)
          have c5 := hdj 5 (by decide) (by decide)
          simp only [List.getElem?_cons_zero, List.getElem?_cons_succ] at c0 c1 c2 c3 c4 c5
          obtain ⟨n0, m0, rfl, -⟩ := r0.form
          obtain ⟨n1, m1, rfl, -⟩ := r1.form
          obtain ⟨n2, m2, rfl, -⟩ := r2.form
          obtain ⟨n3, m3, rfl, -⟩ := r3.form
          obtain ⟨n4, m4, rfl, -⟩ := r4.form
          have HRR := Hi (And.intro r0 (And.intro r1 (And.intro r2 (And.intro r3 (And.intro r4 rx)))))
          have HSM := Hi (HLL.out.2 _ (List.getElem_mem hjt))
          unfold RuleSmall at HSM
          have HDJ : Hid (rs[j] = ⟨(rs[j]).back, (rs[j]).ins, (rs[j]).ahead, (rs[j]).out, (rs[j]).calls, (rs[j]).x⟩) := rfl
          generalize (rs[j]).back = rb at *
          generalize (rs[j]).ins = ri at *
          generalize (rs[j]).ahead = ra at *
          generalize (rs[j]).out = ro at *
          generalize (rs[j]).calls = rc at *
          generalize (rs[j]).x = rxx at *
          have e2 : IntKind.i64.wrap ((j : Int) + 1) = (j : Int) + 1 := IntWalk.i64_in _ (by have := HLL.out.1; omega)
          have TJ := Hi (((Own.start w).call g1).alloc #[.slice n0 rb.length m0, .slice n1 ri.length m1, .slice n2 ra.length m2, .slice n3 ro.length m3, .slice n4 rc.length m4, .int .i64 rxx] 117)
          have HG := Hi (And.intro g2 (And.intro g3 (And.intro g4 (And.intro g5 g6))))
          clear r0 r1 r2 r3 r4 rx hrr hk2 hd0 hdj hjn g1 g2 g3 g4 g5 g6
          go_upto_region 9 with fail
          have HG1 := Hi (show Above (w.heap.size + 1) W1 (wr.alloc (.cells #[.slice n0 rb.length m0, .slice n1 ri.length m1, .slice n2 ra.length m2, .slice n3 ro.length m3, .slice n4 rc.length m4, .int .i64 rxx] 117)) /\ b2 < wr.heap.size /\ W1.heap.size <= wr.heap.size /\ Blk (wr.alloc (.cells #[.slice n0 rb.length m0, .slice n1 ri.length m1, .slice n2 ra.length m2, .slice n3 ro.length m3, .slice n4 rc.length m4, .int .i64 rxx] 117)) w.heap.size pc3 113 /\ Fill 6 RRule (b2 + 1) (wr.alloc (.cells #[.slice n0 rb.length m0, .slice n1 ri.length m1, .slice n2 ra.length m2, .slice n3 ro.length m3, .slice n4 rc.length m4, .int .i64 rxx] 117)) b2 117 rs j from
            ⟨HG.out.1.then HG.out.2.1 (((Mod.refl _ _).alloc _).above _), HG.out.2.2.1, HG.out.2.1, HG.out.2.2.2.1.alloc _, HG.out.2.2.2.2.mod RRule.stay ((Mod.refl _ _).alloc _)⟩)
          have HR1 := Hi (fun W (m : Mod [] (wr.alloc (.cells #[.slice n0 rb.length m0, .slice n1 ri.length m1, .slice n2 ra.length m2, .slice n3 ro.length m3, .slice n4 rc.length m4, .int .i64 rxx] 117)) W) => ((Mod.refl [] wr).alloc (.cells #[.slice n0 rb.length m0, .slice n1 ri.length m1, .slice n2 ra.length m2, .slice n3 ro.length m3, .slice n4 rc.length m4, .int .i64 rxx] 117)).then m)
          have hb7 : b2 + 1 <= wr.heap.size := HG.out.2.2.1
          have hb8 : wr.heap.size < (wr.alloc (.cells #[.slice n0 rb.length m0, .slice n1 ri.length m1, .slice n2 ra.length m2, .slice n3 ro.length m3, .slice n4 rc.length m4, .int .i64 rxx] 117)).heap.size := by simp
          generalize wr.alloc (.cells #[.slice n0 rb.length m0, .slice n1 ri.length m1, .slice n2 ra.length m2, .slice n3 ro.length m3, .slice n4 rc.length m4, .int .i64 rxx] 117) = WB at *
          have HB7 := Hi (And.intro hb7 hb8)
          generalize hb7e : wr.heap.size = b7 at *
          clear c0 c1 c2 c3 c4 c5 HG hb7 hb8
          have A0 := (TJ.out.at 0 rfl).every
          have E2 : ∀ W, Mod [] WB W -> W.cell? ⟨w.heap.size, i * 3 + 2, none⟩ = some (.slice (some ⟨b2, 0, none⟩) rs.length rs.length) := fun W m => by rw [(HG1.out.2.2.2.1.kept m (by simp)).cell]; exact HCC.out
          refine Sq.wp_region_toks 24 [(0, none), (1, none), (2, none), (3, none), (4, none), (5, none), (6, none), (7, none), (9, none), (10, none), (12, none), (13, none), (15, none), (16, none), (18, none), (19, none), (21, none), (22, none), (8, some (FRows 1 RSet WB.heap.size rb)), (11, some (FRows 1 RSet WB.heap.size ri)), (14, some (FRows 1 RSet WB.heap.size ra)), (17, some (FRows 1 RInt WB.heap.size ro)), (20, some (FRows 2 RCall WB.heap.size rc)), (23, none)] (by kernel_rfl) (by kernel_rfl) (Sq.nodup_of (by kernel_rfl)) ?hTS243 ?mainS243
          case hTS243 =>
            intro p hp T hT v
            simp only [List.mem_cons, List.not_mem_nil, or_false] at hp
            rcases hp with rfl | rfl | rfl | rfl | rfl | rfl | rfl | rfl | rfl | rfl | rfl | rfl | rfl | rfl | rfl | rfl | rfl | rfl | rfl | rfl | rfl | rfl | rfl | rfl <;> first | (cases hT; done) | (cases hT; first | exact FRows.stays RCall.stay _ | exact FRows.stays RInt.stay _ | exact FRows.stays RSet.stay _)
          iterate 18 refine Sq.vv ?_
          refine Sq.k_go (f := ?_) rfl rfl (fun v => by simp only [Act.put]; (try simp only [List.setIfInBounds_toArray]); (try simp only [List.set_cons_succ, List.set_cons_zero]); exact rfl) (fun w' hw' hF K Q hK => ?_) (fun kv8 hkv8 => ?_)
          · clear hF
            go_wp2_with fail
            refine (rows_Int_f _ _ _ _ _ (HRR.out.1.mod RSet.stay (HR1.out _ hw')) HSM.out.1 hw'.size).mono ?_
            rintro e w'' ⟨v, rfl, hv, mm⟩
            go_wp2_with fail
            exact hK _ _ mm hv
          obtain ⟨_, -, q⟩ := hkv8; obtain ⟨x0, y0, rfl⟩ := q.form; clear q
          refine Sq.k_go (f := ?_) rfl rfl (fun v => by simp only [Act.put]; (try simp only [List.setIfInBounds_toArray]); (try simp only [List.set_cons_succ, List.set_cons_zero]); exact rfl) (fun w' hw' hF K Q hK => ?_) (fun kv11 hkv11 => ?_)
          · clear hF
            go_wp2_with fail
            refine (rows_Int_f _ _ _ _ _ (HRR.out.2.1.mod RSet.stay (HR1.out _ hw')) HSM.out.2.1 hw'.size).mono ?_
            rintro e w'' ⟨v, rfl, hv, mm⟩
            go_wp2_with fail
            exact hK _ _ mm hv
          obtain ⟨_, -, q⟩ := hkv11; obtain ⟨x1, y1, rfl⟩ := q.form; clear q
          refine Sq.k_go (f := ?_) rfl rfl (fun v => by simp only [Act.put]; (try simp only [List.setIfInBounds_toArray]); (try simp only [List.set_cons_succ, List.set_cons_zero]); exact rfl) (fun w' hw' hF K Q hK => ?_) (fun kv14 hkv14 => ?_)
          · clear hF
            go_wp2_with fail
            refine (rows_Int_f _ _ _ _ _ (HRR.out.2.2.1.mod RSet.stay (HR1.out _ hw')) HSM.out.2.2.1 hw'.size).mono ?_
            rintro e w'' ⟨v, rfl, hv, mm⟩
            go_wp2_with fail
            exact hK _ _ mm hv
          obtain ⟨_, -, q⟩ := hkv14; obtain ⟨x2, y2, rfl⟩ := q.form; clear q
          refine Sq.k_go (f := ?_) rfl rfl (fun v => by simp only [Act.put]; (try simp only [List.setIfInBounds_toArray]); (try simp only [List.set_cons_succ, List.set_cons_zero]); exact rfl) (fun w' hw' hF K Q hK => ?_) (fun kv17 hkv17 => ?_)
          · clear hF
            go_wp2_with fail
            refine (fcopy_Int _ _ _ _ _ (HRR.out.2.2.2.1.mod RInt.stay (HR1.out _ hw')) HSM.out.2.2.2.1 hw'.size).mono ?_
            rintro e w'' ⟨v, rfl, hv, mm⟩
            go_wp2_with fail
            exact hK _ _ mm hv
          obtain ⟨_, -, q⟩ := hkv17; obtain ⟨x3, y3, rfl⟩ := q.form; clear q
          refine Sq.k_go (f := ?_) rfl rfl (fun v => by simp only [Act.put]; (try simp only [List.setIfInBounds_toArray]); (try simp only [List.set_cons_succ, List.set_cons_zero]); exact rfl) (fun w' hw' hF K Q hK => ?_) (fun kv20 hkv20 => ?_)
          · clear hF
            go_wp2_with fail
            refine (fcopy_Call _ _ _ _ _ (HRR.out.2.2.2.2.1.mod RCall.stay (HR1.out _ hw')) HSM.out.2.2.2.2 hw'.size).mono ?_
            rintro e w'' ⟨v, rfl, hv, mm⟩
            go_wp2_with fail
            exact hK _ _ mm hv
          obtain ⟨_, -, q⟩ := hkv20; obtain ⟨x4, y4, rfl⟩ := q.form; clear q
          refine Sq.vv ?_
          refine Sq.nil_go ?_
          intro w' hw' hF
          simp only [List.drop_succ_cons, List.drop_zero]
          have HF := Hi hF
          have HW2 := Hi hw'
          have TJ2 := Hi (TJ.out.call hw')
          have F4 := Hi (HG1.out.2.2.2.2.mod RRule.stay hw')
          have HRX := Hi HRR.out.2.2.2.2.2
          clear hF hw' A0 E2 HR1 HRR TJ
          obtain ⟨o0, q0, z0⟩ := F4.out.cell (q := j * 6) (by omega)
          obtain ⟨o1, q1, z1⟩ := F4.out.cell (q := j * 6 + 1) (by omega)
          obtain ⟨o2, q2, z2⟩ := F4.out.cell (q := j * 6 + 2) (by omega)
          obtain ⟨o3, q3, z3⟩ := F4.out.cell (q := j * 6 + 3) (by omega)
          obtain ⟨o4, q4, z4⟩ := F4.out.cell (q := j * 6 + 4) (by omega)
          obtain ⟨o5, q5, z5⟩ := F4.out.cell (q := j * 6 + 5) (by omega)
          go_wp2_with fail
          have XF : ((((((w'.setCell ⟨b2, j * 6, none⟩ (.slice x0 rb.length y0)).setCell ⟨b2, j * 6 + 1, none⟩ (.slice x1 ri.length y1)).setCell ⟨b2, j * 6 + 2, none⟩ (.slice x2 ra.length y2)).setCell ⟨b2, j * 6 + 3, none⟩ (.slice x3 ro.length y3)).setCell ⟨b2, j * 6 + 4, none⟩ (.slice x4 rc.length y4)).setCell ⟨b2, j * 6 + 5, none⟩ (.int .i64 rxx)) = setN w' (b2) (j * 6) [.slice x0 rb.length y0, .slice x1 ri.length y1, .slice x2 ra.length y2, .slice x3 ro.length y3, .slice x4 rc.length y4, .int .i64 rxx] := rfl
          rw [XF]
          clear XF
          clear q0 q1 q2 q3 q4 q5 z0 z1 z2 z3 z4 z5
          obtain ⟨⟨⟨⟨⟨-, k0⟩, k1⟩, k2⟩, k3⟩, k4⟩ := HF.out
          have hlo : b2 + 1 <= WB.heap.size := by have := HB7.out; omega
          have HFJ := Hi (F4.out.setK RRule.stay hjt (cs := [.slice x0 rb.length y0, .slice x1 ri.length y1, .slice x2 ra.length y2, .slice x3 ro.length y3, .slice x4 rc.length y4, .int .i64 rxx]) rfl (by
            rw [HDJ.out]
            exact ⟨_, _, _, _, _, rfl, Rows.lower RSet.lower k0 hlo, Rows.lower RSet.lower k1 hlo, Rows.lower RSet.lower k2 hlo, Rows.lower RInt.lower k3 hlo, Rows.lower RCall.lower k4 hlo, HRX.out⟩) (Nat.lt_succ_self _))
          have HM := Hi (setN_mod (w0 := w) (b := b2) (by omega) [.slice x0 rb.length y0, .slice x1 ri.length y1, .slice x2 ra.length y2, .slice x3 ro.length y3, .slice x4 rc.length y4, .int .i64 rxx] (j * 6) w' TJ2.out.mod)
          have HO := Hi (fun k (hk : k ≠ b2) => setN_other hk [.slice x0 rb.length y0, .slice x1 ri.length y1, .slice x2 ra.length y2, .slice x3 ro.length y3, .slice x4 rc.length y4, .int .i64 rxx] (j * 6) w')
          have HS := Hi (setN_size (b := b2) [.slice x0 rb.length y0, .slice x1 ri.length y1, .slice x2 ra.length y2, .slice x3 ro.length y3, .slice x4 rc.length y4, .int .i64 rxx] (j * 6) w')
          generalize setN w' b2 (j * 6) [.slice x0 rb.length y0, .slice x1 ri.length y1, .slice x2 ra.length y2, .slice x3 ro.length y3, .slice x4 rc.length y4, .int .i64 rxx] = W9 at *
          go_roundg (gk - 1)
          case measure => have := hj.out; omega
          case rel =>
            have hws := HW2.out.size
            have hsz := HS.out
            have hb7 := HB7.out
            refine ⟨j + 1, by rw [Int.natCast_add]; rfl, ?_, HM.out, fun k hk hlt' => ?_, by have := HG1.out.2.2.1; omega, by omega, ?_, HFJ.out⟩
            · have := hj.out; show j + 1 + (gk - 1) = rs.length; omega
            · rw [HO.out k (by omega)]
              exact (HG1.out.1.then (by have := HG1.out.2.2.1; omega) (HW2.out.above _)) k hk hlt'
            · exact (HO.out _ (by omega)).trans (HG1.out.2.2.2.1.kept HW2.out (by simp))
theorem Try.featinfo:(Try.prog.info? 93).map (fun i=>(i.zero,i.size,i.bytes))=some (some (.agg #[.string ⟨#[]⟩,.slice none 0 0]),2,40):=by kernel_rfl
set_option maxHeartbeats 2000000 in
theorem features_any (v:Value) (l:List DFeature) (B:Nat) (w:World) (h:Rows 2 RFeature B w v l) (hl:l.length*40<=140737488351232) (hll:∀ x∈l,x.lookups.length*8<=140737488351232) :
  Calls Try.prog 16 #[v] w fun e w'=>∃ u,e=.returned u/\Mod [] w w'/\Rows 2 RFeature w.heap.size w' u l:=by
 obtain ⟨oa,cap,rfl,hm⟩:=h.form;obtain ⟨i0,hi,hz0,hz1,hz2⟩:=info_parts Try.featinfo;have hmk:=fun W=>run_make (P:=Try.prog) W 26 93 i0 (.agg #[.string ⟨#[]⟩,.slice none 0 0]) Try.underlying26 hi hz0 .i64 .i64 (l.length:Int) (l.length:Int) (by omega) (by omega) (by rw [hz2];omega) (by omega)
 rw [hz1] at hmk;simp only [Int.toNat_natCast] at hmk;generalize hmc:madeCells (Value.agg #[.string ⟨#[]⟩,.slice none 0 0]).cells (l.length*2)=mc at hmk;have HSZ:Hid (mc.size=l.length*2):=by rw [<- hmc];exact size_made _ _
 have HR:=Hi h;have HL:=Hi (And.intro hl (And.intro hll hm));clear h hl hll hmc hm;go_enter Try.func16,Try.ntmps16;go_upto_region 3 with fail;have F:=Hi (Fill.start (k:=2) (R:=RFeature) (B:=w.heap.size+1) (l:=l) (Blk.new w mc 93) HSZ.out);have M:=Hi ((Mod.refl [] w).alloc (.cells mc 93));generalize w.alloc (.cells mc 93)=W0 at *
 clear hmk HSZ
 go_loopg [11] l.length (fun gk s11 wr=>∃ i:Nat,s11=.int .i64 (i:Int)/\Hid (i+gk=l.length)/\Hid (Mod [] w wr/\w.heap.size<wr.heap.size/\Fill 2 RFeature (w.heap.size+1) wr w.heap.size 93 l i))
 case atStart=>exact ⟨0,rfl,by show 0+l.length=l.length;omega,M.out,by obtain ⟨c,B,_⟩:=F.out;exact B.lt,F.out⟩
 case round =>
  obtain ⟨i,rfl,hi,HV⟩:=hrel;clear F M
  by_cases hn:i=l.length
  ·subst hn;go_wp2_with fail;go_ret;exact ⟨_,rfl,HV.out.1,HV.out.2.2.done RFeature.lower HL.out.2.2 (Nat.le_refl _) (by omega)⟩
  ·have hlt:i<l.length:=by have:=hi.out;omega
   have hlt2:(i:Int)<(l.length:Int):=by omega
   have h0:(0:Int)<=(i:Int):=by omega
   obtain ⟨a,rfl,hB,cs,hk,hc0,hcj,rv,rfl,hnm,hrv⟩:=(HR.out.mod RFeature.stay HV.out.1).at i hlt;have c0:=hc0 (by decide);have c1:=hcj 1 (by decide) (by decide);simp only [List.getElem?_cons_zero,List.getElem?_cons_succ] at c0 c1;obtain ⟨pa,pc,rfl,hpm⟩:=hrv.form;have HRV:=Hi hrv;have HNM:=Hi hnm;have HLL:=Hi (HL.out.2.1 _ (List.getElem_mem hlt));have e1:IntKind.i64.wrap ((i:Int)+1)=(i:Int)+1:=IntWalk.i64_in _ (by have:=HL.out.1;omega);have HDX:Hid (l[i]=⟨(l[i]).name,(l[i]).lookups⟩):=rfl;generalize (l[i]).name=nm at *
   generalize (l[i]).lookups=lk at *
   clear hrv hB hk hc0 hcj hn hnm;have T:=Hi (((Own.start w).call HV.out.1).alloc #[.string nm,.slice pa lk.length pc] 93);have HV1:=Hi (HV.out.2.2.mod RFeature.stay ((Mod.refl _ _).alloc (.cells #[.string nm,.slice pa lk.length pc] 93)));have HRV1:=Hi (HRV.out.mod RInt.stay ((Mod.refl _ _).alloc (.cells #[.string nm,.slice pa lk.length pc] 93)));have HSZ:Hid (w.heap.size<wr.heap.size):=HV.out.2.1;go_upto_region 5 with fail;generalize wr.alloc (.cells #[.string nm,.slice pa lk.length pc] 93)=W1 at *
   generalize wr.heap.size=b5 at *
   clear c0 c1 HV;have A0:=(T.out.at 0 rfl).every;refine Sq.wp_region_toks 8 [(0,none),(1,none),(2,none),(3,none),(4,none),(5,none),(6,some (FRows 1 RInt W1.heap.size lk)),(7,none)] (by kernel_rfl) (by kernel_rfl) (Sq.nodup_of (by kernel_rfl)) ?hTS62 ?mainS62
   case hTS62 =>
    intro p hp T hT v;simp only [List.mem_cons,List.not_mem_nil,or_false] at hp;rcases hp with rfl | rfl | rfl | rfl | rfl | rfl | rfl | rfl <;> first | (cases hT;done) | (cases hT;first | exact FRows.stays RInt.stay _)
   iterate 6 refine Sq.vv ?_
   refine Sq.k_go (f:=?_) rfl rfl (fun v=>by simp only [Act.put];(try simp only [List.setIfInBounds_toArray]);(try simp only [List.set_cons_succ,List.set_cons_zero]);exact rfl) (fun w' hw' hF K Q hK=>?_) (fun kv6 hkv6=>?_)
   ·clear hF;go_wp2_with fail;refine (fcopy_Int _ _ _ _ _ (HRV1.out.mod RInt.stay hw') HLL.out hw'.size).mono ?_;rintro e w'' ⟨v,rfl,hv,mm⟩;go_wp2_with fail;exact hK _ _ mm hv
   obtain ⟨_,-,q⟩:=hkv6;obtain ⟨u,e,rfl⟩:=q.form;clear q;refine Sq.vv ?_;refine Sq.nil_go ?_;intro w' hw' hF;simp only [List.drop_succ_cons,List.drop_zero];obtain ⟨-,hu⟩:=hF;have HU:=Hi (show Rows 1 RInt W1.heap.size w' (.slice u lk.length e) lk from hu);have T2:=Hi (T.out.call hw');have F2:=Hi (HV1.out.mod RFeature.stay hw');have hs1:w.heap.size+1<=W1.heap.size:=by have:=(T.out.at 0 rfl).lt;have:=HSZ.out;omega
   obtain ⟨o0,q0,q1⟩:=F2.out.cell (q:=i*2) (by omega);obtain ⟨o1,q2,q3⟩:=F2.out.cell (q:=i*2+1) (by omega);clear hu hw' A0 T HV1 HRV HRV1;go_wp2_with fail;have XF:((w'.setCell ⟨w.heap.size,i*2,none⟩ (.string nm)).setCell ⟨w.heap.size,i*2+1,none⟩ (.slice u lk.length e))=setN w' (w.heap.size) (i*2) [.string nm,.slice u lk.length e]:=rfl;rw [XF];clear XF;have HF:=Hi (F2.out.setK RFeature.stay hlt (cs:=[.string nm,.slice u lk.length e]) rfl (by rw [HDX.out];exact ⟨_,rfl,HNM.out,HU.out.lower RInt.lower hs1⟩) (Nat.lt_succ_self _));have HM:=Hi (setN_mod (w0:=w) (b:=w.heap.size) (Nat.le_refl _) [.string nm,.slice u lk.length e] (i*2) w' T2.out.mod);have HS:=Hi (show w.heap.size<(setN w' w.heap.size (i*2) [.string nm,.slice u lk.length e]).heap.size by rw [setN_size];have:=(T2.out.at 0 rfl).lt;have:=(T2.out.ge 0 rfl);omega);generalize setN w' w.heap.size (i*2) [.string nm,.slice u lk.length e]=W9 at *
   clear q0 q1 q2 q3;go_roundg (gk - 1)
   case measure=>have:=hi.out;omega
   case rel =>
    refine ⟨i+1,by rw [Int.natCast_add];rfl,?_,HM.out,HS.out,HF.out⟩;have:=hi.out;show i+1+(gk - 1)=l.length;omega
theorem shiftsR_ne {regs:List DRegion} {xs:List (Int×Int)} {np:Nat}:∀ (ds:List DDelta) (m:List (Int×Sh)) (k:Int),Vr.shiftsR regs xs np ds m=.error k->k≠0
 | [],m,k,h=>by unfold Vr.shiftsR at h;cases h
 | d::ds,m,k,h=>by
  unfold Vr.shiftsR at h;cases hs:Vr.shiftStep regs xs np m d with
  | error e =>
   rw [hs] at h;cases h;unfold Vr.shiftStep at hs
   split at hs
   ·split at hs
    ·split at hs
     ·cases hs;decide
     ·split at hs
      ·cases hs;decide
      ·cases hs
    ·cases hs;decide
   ·cases hs;decide
  | ok m' =>
   rw [hs] at h;exact shiftsR_ne ds m' k h
theorem glyphR_ne {regs:List DRegion} {xs:List (Int×Int)} {g:DGlyph} {k:Int} (h:Vr.glyphR regs xs g=.error k):k≠0:=by
 unfold Vr.glyphR at h;cases hs:Vr.shiftsR regs xs g.pts.length g.deltas [] with
 | error e =>
  rw [hs] at h;cases h;exact shiftsR_ne _ _ _ hs
 | ok m =>
  rw [hs] at h;simp only at h
  split at h
  ·cases h;decide
  ·split at h
   ·cases h;decide
   ·cases h
def Vr.outG (regs:List DRegion) (xs:List (Int×Int)) (g:DGlyph):DGlyph:=match Vr.glyphR regs xs g with | .ok x=>x | .error _=>g
def Vr.fontGs (regs:List DRegion) (xs:List (Int×Int)):List DGlyph->Except Int (List DGlyph)
 | []=>.ok []
 | g::r=>match Vr.glyphR regs xs g with
  | .error k=>.error k
  | .ok x=>match Vr.fontGs regs xs r with
   | .error k=>.error k
   | .ok l=>.ok (x::l)
theorem fontGs_err {regs:List DRegion} {xs:List (Int×Int)} {k:Int}:∀ (gs:List DGlyph) (i:Nat) (g:DGlyph),gs[i]?=some g->(∀ j x,j<i->gs[j]?=some x->∃ y,Vr.glyphR regs xs x=.ok y)->Vr.glyphR regs xs g=.error k->Vr.fontGs regs xs gs=.error k
 | [],i,g,h,_,_=>by simp at h
 | x::r,0,g,h,_,he=>by
  simp at h;subst h;unfold Vr.fontGs;rw [he]
 | x::r,i+1,g,h,ha,he=>by
  obtain ⟨y,hy⟩:=ha 0 x (by omega) rfl;have ih:=fontGs_err r i g (by simpa using h) (fun j z hj hz=>ha (j+1) z (by omega) (by simpa using hz)) he;unfold Vr.fontGs;rw [hy];simp only;rw [ih]
theorem fontGs_ok {regs:List DRegion} {xs:List (Int×Int)}:∀ (gs:List DGlyph),(∀ x∈gs,∃ y,Vr.glyphR regs xs x=.ok y)->Vr.fontGs regs xs gs=.ok (gs.map (Vr.outG regs xs))
 | [],_=>rfl
 | x::r,h=>by
  obtain ⟨y,hy⟩:=h x (by simp);unfold Vr.fontGs;rw [hy];simp only;rw [fontGs_ok r fun z hz=>h z (by simp [hz])];simp only [List.map_cons,Vr.outG,hy]
noncomputable def Vr.fontR (F:DFont) (xs:List Int):Except Int DFont :=
 match Vr.normR F.axes xs with
 | .error k=>.error k
 | .ok at'=>match Vr.fontGs F.regions at' F.glyphs with
  | .error k=>.error k
  | .ok gs=>.ok { F with glyphs:=gs,axes:=[],regions:=[] }
def zeroFontL:List Value:=[.int .i64 0,.slice none 0 0,.slice none 0 0,.slice none 0 0,.slice none 0 0,.slice none 0 0,.slice none 0 0,.slice none 0 0,.slice none 0 0]
def VFRes (r:Except Int DFont) (w:World) (e:Ending) (w':World):Prop :=
 Mod [] w w'/\match r with
 | .ok F=>∃ cs,e=.returned (.tuple #[.agg cs.toArray,.int .i64 0])/\RFont w.heap.size w' cs F
 | .error k=>e=.returned (.tuple #[.agg zeroFontL.toArray,.int .i64 k])
def FSmall (F:DFont):Prop:=(F.glyphs.length*176<=140737488351232/\∀ g∈F.glyphs,GSmall g)/\F.chars.length*16<=140737488351232/\(F.lookups.length*40<=140737488351232/\∀ x∈F.lookups,x.rules.length*128<=140737488351232/\∀ r∈x.rules,RuleSmall r)/\(F.features.length*40<=140737488351232/\∀ x∈F.features,x.lookups.length*8<=140737488351232)/\(F.funcs.length*24<=140737488351232/\∀ x∈F.funcs,x.length*16<=140737488351232)/\F.cvt.length*8<=140737488351232
section
variable {α:Type} {k B:Nat} {R:Nat->World->List Value->α->Prop} {w w':World} {b:Nat} {t:TypeId} {l:List α} {i:Nat}
theorem Fill.aboveB (hR:Stay R) (h:Fill k R B w b t l i) (m:Above B w w') (hb:w'.heap[b]?=w.heap[b]?):Fill k R B w' b t l i:=by
 obtain ⟨c,h1,h2,h3⟩:=h;refine ⟨c,hb.trans h1,h2,fun j hj hi=>?_⟩;obtain ⟨cs,h4,h5,h6⟩:=h3 j hj hi;exact ⟨cs,h4,h5,hR _ _ _ _ _ h6 m⟩
theorem Fill.lt (h:Fill k R B w b t l i):b<w.heap.size:=by
 obtain ⟨c,h1,_⟩:=h;exact h1.lt
end
theorem above_of {F:List Nat} {B:Nat} {w w':World} (m:Mod F w w') (hF:∀ x∈F,x<B):Above B w w':=fun k hk hlt=>m.block k hlt fun h=>by have:=hF k h;omega
theorem lookups_f (v:Value) (l:List DLookup) (B B0:Nat) (w:World) (h:Rows 3 RLookup B w v l) (hl:l.length*40<=140737488351232) (hll:∀ x∈l,x.rules.length*128<=140737488351232/\∀ r∈x.rules,RuleSmall r) (hB:B0<=w.heap.size) :
  Calls Try.prog 15 #[v] w fun e w'=>∃ u,e=.returned u/\FRows 3 RLookup B0 l u w'/\Mod [] w w' :=
 (lookups_any v l B w h hl hll).mono fun e w' ⟨u,he,m,hr⟩=>⟨u,he,hr.lower RLookup.lower hB,m⟩
theorem features_f (v:Value) (l:List DFeature) (B B0:Nat) (w:World) (h:Rows 2 RFeature B w v l) (hl:l.length*40<=140737488351232) (hll:∀ x∈l,x.lookups.length*8<=140737488351232) (hB:B0<=w.heap.size) :
  Calls Try.prog 16 #[v] w fun e w'=>∃ u,e=.returned u/\FRows 2 RFeature B0 l u w'/\Mod [] w w' :=
 (features_any v l B w h hl hll).mono fun e w' ⟨u,he,m,hr⟩=>⟨u,he,hr.lower RFeature.lower hB,m⟩
theorem rows_Ins_f (v:Value) (l:List (List DIns)) (B B0:Nat) (w:World) (h:Rows 1 RCode B w v l) (hl:l.length*24<=140737488351232/\∀ x∈l,x.length*16<=140737488351232) (hB:B0<=w.heap.size) :
  Calls Try.prog 17 #[v] w fun e w'=>∃ u,e=.returned u/\FRows 1 RCode B0 l u w'/\Mod [] w w' :=
 (rows_Ins v l B w h hl.1 hl.2).mono fun e w' ⟨u,he,m,hr⟩=>⟨u,he,hr.lower RCode.lower hB,m⟩
theorem chars_f (v:Value) (l:List DChar) (B B0:Nat) (w:World) (h:Rows 2 RChar B w v l) (hl:l.length*16<=140737488351232) (hB:B0<=w.heap.size) :
  Calls Try.prog 14 #[v] w fun e w'=>∃ u,e=.returned u/\FRows 2 RChar B0 l u w'/\Mod [] w w' :=
 (copy_Char v l B w h hl).mono fun e w' hc=>by
  obtain ⟨u,he,m,hr⟩:=copied_Char h hc;exact ⟨u,he,hr.lower RChar.lower hB,m⟩
theorem cvt_f (v:Value) (l:List Int) (B B0:Nat) (w:World) (h:Rows 1 RInt B w v l) (hl:l.length*8<=140737488351232) (hB:B0<=w.heap.size) :
  Calls Try.prog 18 #[v] w fun e w'=>∃ u,e=.returned u/\FRows 1 RInt B0 l u w'/\Mod [] w w' :=
 (copy_Int v l B w h hl).mono fun e w' hc=>by
  obtain ⟨u,he,m,hr⟩:=copied_Int h hc;exact ⟨u,he,hr.lower RInt.lower hB,m⟩
theorem Try.glyphinfo:(Try.prog.info? 51).map (fun i=>(i.zero,i.size,i.bytes))=some (some (.agg zeroGlyphL.toArray),9,176):=by kernel_rfl
theorem vf_ret (Q:Ending->World->Prop) (tb:Nat) (x0 x1 x2 x3 x4 x5 x6 x7 x8 y:Value) (a:Act) (W:World) (B:Blk W tb #[x0,x1,x2,x3,x4,x5,x6,x7,x8] 31)
  (s4:a.tmps[4]?=some (.pointer (some ⟨tb,0,none⟩))) (s5:a.tmps[5]?=some y) (hd:a.defers=[]) (hQ:Q (.returned (.tuple #[.agg #[x0,x1,x2,x3,x4,x5,x6,x7,x8],y])) W) :
  bodyPost Try.prog Try.f6 Q .ret a W:=by
 have r0:=B.cell 0;have r1:=B.cell 1;have r2:=B.cell 2;have r3:=B.cell 3;have r4:=B.cell 4;have r5:=B.cell 5;have r6:=B.cell 6;have r7:=B.cell 7;have r8:=B.cell 8;simp only [List.getElem?_toArray,List.getElem?_cons_zero,List.getElem?_cons_succ] at r0 r1 r2 r3 r4 r5 r6 r7 r8;exact bodyPost_ret (v:=.tuple #[.agg #[x0,x1,x2,x3,x4,x5,x6,x7,x8],y]) (by simp [results,Try.results6,go_sem,r0,r1,r2,r3,r4,r5,r6,r7,r8,s4,s5]) hd hQ
set_option maxHeartbeats 8000000 in
theorem vfont_any (u:Int) (g c l fe ax rg fu cv pl:Hd) (F:DFont) (hu:u=F.unit) (xs:List Int) (B B2:Nat) (w:World) (hF:RFont B w (fontCells u g c l fe ax rg fu cv).toList F) (h6:F.axes.length<=6) (hP:Rows 1 RInt B2 w (.slice pl.a pl.n pl.c) xs) (hs:FSmall F) :
  Calls Try.prog 6 #[.agg (fontCells u g c l fe ax rg fu cv),.slice pl.a pl.n pl.c] w (VFRes (Vr.fontR F xs) w):=by
 obtain ⟨w1,w2,w3,w4,w5,w6,w7,w8,hc,hu',hGl,hCh,hLo,hFe,hAx,hRe,hFu,hCv⟩:=hF;unfold fontCells at hc;simp only [List.cons.injEq,and_true] at hc;obtain ⟨-,rfl,rfl,rfl,rfl,rfl,rfl,rfl,rfl⟩:=hc;obtain ⟨unit,glyphs,chars,looks,feats,axes,regs,funcs,cvt⟩:=F;simp only at *
 subst hu;obtain ⟨⟨hs1,hs2⟩,hs3,hs4,hs5,hs6,hs7⟩:=hs;simp only at hs1 hs2 hs3 hs4 hs5 hs6 hs7;have hgn:g.n=glyphs.length:=by obtain ⟨_,_,he,_⟩:=hGl;simp at he;omega
 have HNO:=Hi (fun W (m:Mod [] w W)=>normal_any u g c l fe ax rg fu cv pl axes xs B B2 W (hAx.mod RAxis.stay m) h6 (hP.mod RInt.stay m));have T:=Hi (own2 w (fontCells u g c l fe ax rg fu cv) 31 zeroFontL.toArray 31);have MA:=Hi (((Mod.refl [] w).alloc (.cells (fontCells u g c l fe ax rg fu cv) 31)).alloc (.cells zeroFontL.toArray 31));have HGL:=Hi hGl;have HRG:=Hi hRe;have HR5:=Hi (And.intro hCh (And.intro hLo (And.intro hFe (And.intro hFu hCv))));have HS:=Hi (And.intro hs1 hs2);have HS5:=Hi (And.intro hs3 (And.intro hs4 (And.intro hs5 (And.intro hs6 hs7))));have HU:=Hi hu';obtain ⟨i0,hti,hz0,hz1,hz2⟩:=info_parts Try.glyphinfo;obtain ⟨ga,gn,gcc⟩:=g;simp only at hgn;subst hgn;have hmk:=fun W=>run_make (P:=Try.prog) W 23 51 i0 (.agg zeroGlyphL.toArray) Try.underlying23 hti hz0 .i64 .i64 (glyphs.length:Int) (glyphs.length:Int) (by omega) (by omega) (by rw [hz2];omega) (by omega)
 rw [hz1] at hmk;simp only [Int.toNat_natCast] at hmk;generalize hmc:madeCells (.agg zeroGlyphL.toArray:Value).cells (glyphs.length*9)=mc at hmk;have HSZ:Hid (mc.size=glyphs.length*9):=by rw [<- hmc];exact size_made _ _
 clear hGl hCh hLo hFe hAx hRe hFu hCv h6 hP hs1 hs2 hs3 hs4 hs5 hs6 hs7 hu' hmc hti hz0 hz1 hz2 i0;unfold fontCells zeroFontL at *
 simp only at T HNO MA HGL ⊢;go_enter Try.func6,Try.ntmps6;go_upto_region 1 with fail;generalize (w.alloc (.cells #[.int .i64 u,.slice ga glyphs.length gcc,.slice c.a c.n c.c,.slice l.a l.n l.c,.slice fe.a fe.n fe.c,.slice ax.a ax.n ax.c,.slice rg.a rg.n rg.c,.slice fu.a fu.n fu.c,.slice cv.a cv.n cv.c] 31)).alloc (.cells #[.int .i64 0,.slice none 0 0,.slice none 0 0,.slice none 0 0,.slice none 0 0,.slice none 0 0,.slice none 0 0,.slice none 0 0,.slice none 0 0] 31)=W0 at *
 have q0:=(T.out.at 0 rfl).cell 0;have q1:=(T.out.at 0 rfl).cell 1;have q2:=(T.out.at 0 rfl).cell 2;have q3:=(T.out.at 0 rfl).cell 3;have q4:=(T.out.at 0 rfl).cell 4;have q5:=(T.out.at 0 rfl).cell 5;have q6:=(T.out.at 0 rfl).cell 6;have q7:=(T.out.at 0 rfl).cell 7;have q8:=(T.out.at 0 rfl).cell 8;simp only [List.getElem?_toArray,List.getElem?_cons_zero,List.getElem?_cons_succ] at q0 q1 q2 q3 q4 q5 q6 q7 q8;go_wp2_with fail;refine (HNO.out _ MA.out).mono ?_;rintro e W1 ⟨m1,hr⟩;clear q0 q1 q2 q3 q4 q5 q6 q7 q8;have T1:=Hi (T.out.call m1);have HM1:=Hi (MA.out.then m1);cases hn:Vr.normR axes xs with
 | error k =>
  rw [hn] at hr;obtain ⟨hk,rfl⟩:=hr;have hk':(k == 0)=false:=by simpa using hk
  have k1:(k != 0)=true:=by simpa using hk
  have HAT:=Hi (show Vr.fontR ⟨u,glyphs,chars,looks,feats,axes,regs,funcs,cvt⟩ xs=.error k by unfold Vr.fontR;simp only;rw [hn]);have z:=fun k=>(T1.out.at 1 rfl).cell k
  have zf:=fun k=>(T1.out.at 1 rfl).frozen k
  have T2:=Hi (setN_mod (w0:=w) (b:=w.heap.size+1) (by omega) zeroFontL 0 W1 HM1.out);have B2:=Hi ((T1.out.at 1 rfl).over zeroFontL rfl);clear hmk hn;go_wp2_with fail;exact vf_ret _ (w.heap.size+1) _ _ _ _ _ _ _ _ _ _ _ _ B2.out rfl rfl rfl (by rw [HAT.out];exact ⟨T2.out,rfl⟩)
 | ok at' =>
  rw [hn] at hr;obtain ⟨⟨ha,hnn,hc⟩,rfl,hX⟩:=hr;simp only at hX;have HX:=Hi hX;have HNR:=Hi hn;clear hX hn m1;have q0:=(T1.out.at 0 rfl).cell 0;have q1:=(T1.out.at 0 rfl).cell 1;have q2:=(T1.out.at 0 rfl).cell 2;have q3:=(T1.out.at 0 rfl).cell 3;have q4:=(T1.out.at 0 rfl).cell 4;have q5:=(T1.out.at 0 rfl).cell 5;have q6:=(T1.out.at 0 rfl).cell 6;have q7:=(T1.out.at 0 rfl).cell 7;have q8:=(T1.out.at 0 rfl).cell 8;simp only [List.getElem?_toArray,List.getElem?_cons_zero,List.getElem?_cons_succ] at q0 q1 q2 q3 q4 q5 q6 q7 q8;have hmm:(Instr.makeMap 68 none).run Try.prog W1=.ok (.map (some W1.heap.size)) (W1.alloc (.map #[] 0)):=rfl;go_upto_region 5 with fail;clear hmm;have mM:Mod [] W1 ((W1.alloc (.map #[] 0)).alloc (.cells #[.int .i64 u,.slice ga glyphs.length gcc,.slice c.a c.n c.c,.slice l.a l.n l.c,.slice fe.a fe.n fe.c,.slice ax.a ax.n ax.c,.slice rg.a rg.n rg.c,.slice fu.a fu.n fu.c,.slice cv.a cv.n cv.c,.slice ha hnn hc,.map (some W1.heap.size)] 70)):=((Mod.refl [] W1).alloc _).alloc _;have HFM:=Hi ((FacMap.new W1 regs at').mod ((Mod.refl [] (W1.alloc (.map #[] 0))).alloc (.cells #[.int .i64 u,.slice ga glyphs.length gcc,.slice c.a c.n c.c,.slice l.a l.n l.c,.slice fe.a fe.n fe.c,.slice ax.a ax.n ax.c,.slice rg.a rg.n rg.c,.slice fu.a fu.n fu.c,.slice cv.a cv.n cv.c,.slice ha hnn hc,.map (some W1.heap.size)] 70)));have T2:=Hi (T1.out.call ((Mod.refl [] W1).alloc (.map #[] 0)));have T3:=Hi (T2.out.alloc #[.int .i64 u,.slice ga glyphs.length gcc,.slice c.a c.n c.c,.slice l.a l.n l.c,.slice fe.a fe.n fe.c,.slice ax.a ax.n ax.c,.slice rg.a rg.n rg.c,.slice fu.a fu.n fu.c,.slice cv.a cv.n cv.c,.slice ha hnn hc,.map (some W1.heap.size)] 70);have hsb:(W1.alloc (.map #[] 0)).heap.size=W1.heap.size+1:=by show (W1.heap.push _).size=_;simp
  have HMM:=Hi mM;have HBB:=Hi (show w.heap.size+2<=W1.heap.size by have:=(T1.out.at 1 rfl).lt;omega);have h3:=T3.out;rw [hsb] at h3;clear T3;have T3:=Hi h3;clear mM hsb h3 T2 q0 q1 q2 q3 q4 q5 q6 q7 q8;generalize (W1.alloc (.map #[] 0)).alloc (.cells #[.int .i64 u,.slice ga glyphs.length gcc,.slice c.a c.n c.c,.slice l.a l.n l.c,.slice fe.a fe.n fe.c,.slice ax.a ax.n ax.c,.slice rg.a rg.n rg.c,.slice fu.a fu.n fu.c,.slice cv.a cv.n cv.c,.slice ha hnn hc,.map (some W1.heap.size)] 70)=W3 at *
  have f1:W3.cell? ⟨w.heap.size,1,none⟩=some (.slice ga glyphs.length gcc):=by rw [(T3.out.at 0 rfl).cell];rfl
  go_upto_region 6 with fail;clear f1 hmk;obtain ⟨outs,houts⟩:∃ outs,glyphs.map (Vr.outG regs at')=outs:=⟨_,rfl⟩
  have HOL:=Hi (show outs.length=glyphs.length by rw [<- houts,List.length_map]);have HOU:=Hi houts;clear houts;have FI:=Hi (Fill.start (k:=9) (R:=RGlyph) (B:=W3.heap.size+1) (l:=outs) (Blk.new W3 mc 51) (by rw [HOL.out];exact HSZ.out));have T4:=Hi (T3.out.call ((Mod.refl [] W3).alloc (.cells mc 51)));have HM4:=Hi (HMM.out.then ((Mod.refl [] W3).alloc (.cells mc 51)));have HF4:=Hi (HFM.out.mod ((Mod.refl [] W3).alloc (.cells mc 51)));have HGB:=Hi (show W1.heap.size+2<=W3.heap.size by have:=(T3.out.at 2 rfl).lt;omega);clear HFM HMM T3 HSZ;generalize W3.alloc (.cells mc 51)=W4 at *
  generalize W3.heap.size=gb at *
  have f1:W4.cell? ⟨w.heap.size,1,none⟩=some (.slice ga glyphs.length gcc):=by rw [(T4.out.at 0 rfl).cell];rfl
  go_wp2_with fail;clear f1
  go_loopg [33] glyphs.length (fun gk i33 wr=>∃ i:Nat,i33=.int .i64 (i:Int)/\Hid (i+gk=glyphs.length)/\Hid (Own w wr [(w.heap.size,#[.int .i64 u,.slice ga glyphs.length gcc,.slice c.a c.n c.c,.slice l.a l.n l.c,.slice fe.a fe.n fe.c,.slice ax.a ax.n ax.c,.slice rg.a rg.n rg.c,.slice fu.a fu.n fu.c,.slice cv.a cv.n cv.c],31),(w.heap.size+1,#[.int .i64 0,.slice none 0 0,.slice none 0 0,.slice none 0 0,.slice none 0 0,.slice none 0 0,.slice none 0 0,.slice none 0 0,.slice none 0 0],31),(W1.heap.size+1,#[.int .i64 u,.slice ga glyphs.length gcc,.slice c.a c.n c.c,.slice l.a l.n l.c,.slice fe.a fe.n fe.c,.slice ax.a ax.n ax.c,.slice rg.a rg.n rg.c,.slice fu.a fu.n fu.c,.slice cv.a cv.n cv.c,.slice ha hnn hc,.map (some W1.heap.size)],70)]/\Mod [] W1 wr/\FacMap wr W1.heap.size regs at'/\Fill 9 RGlyph (gb+1) wr gb 51 outs i/\∀ j x,j<i->glyphs[j]?=some x->∃ y,Vr.glyphR regs at' x=.ok y))
  case atStart=>exact ⟨0,rfl,by show 0+glyphs.length=glyphs.length;omega,T4.out,HM4.out,HF4.out,FI.out,fun j x h=>absurd h (Nat.not_lt_zero j)⟩
  case round =>
   obtain ⟨i,rfl,hi,HI⟩:=hrel;clear T4 HM4 HF4 FI
   by_cases hin:i<glyphs.length
   case neg =>
    have hiN:i=glyphs.length:=by have:=hi.out;omega
    subst hiN;have k1:decide ((glyphs.length:Int)<(glyphs.length:Int))=false:=decide_eq_false (by omega);obtain ⟨I1,I2,I3,I4,I5⟩:=HI.out;have T5:=Hi I1;have F5:=Hi I4;have HOK:=Hi I5;clear I1 I2 I3 I4 I5 HI hin;go_upto_region 13 with fail;have A0:=(T5.out.at 0 rfl).every;refine Sq.wp_region_toks 18 [(0,none),(1,none),(2,none),(3,none),(4,none),(6,none),(7,none),(9,none),(10,none),(12,none),(13,none),(15,none),(16,none),(5,some (FRows 2 RChar wr.heap.size chars)),(8,some (FRows 3 RLookup wr.heap.size looks)),(11,some (FRows 2 RFeature wr.heap.size feats)),(14,some (FRows 1 RCode wr.heap.size funcs)),(17,some (FRows 1 RInt wr.heap.size cvt))] (by kernel_rfl) (by kernel_rfl) (Sq.nodup_of (by kernel_rfl)) ?hTS158 ?mainS158
    case hTS158 =>
     intro p hp T hT v;simp only [List.mem_cons,List.not_mem_nil,or_false] at hp;rcases hp with rfl | rfl | rfl | rfl | rfl | rfl | rfl | rfl | rfl | rfl | rfl | rfl | rfl | rfl | rfl | rfl | rfl | rfl <;> first | (cases hT;done) | (cases hT;first | exact FRows.stays RChar.stay _ | exact FRows.stays RCode.stay _ | exact FRows.stays RFeature.stay _ | exact FRows.stays RInt.stay _ | exact FRows.stays RLookup.stay _)
    iterate 13 refine Sq.vv ?_
    refine Sq.k_go (f:=?_) rfl rfl (fun v=>by simp only [Act.put];(try simp only [List.setIfInBounds_toArray]);(try simp only [List.set_cons_succ,List.set_cons_zero]);exact rfl) (fun w' hw' hF K Q hK=>?_) (fun kv5 hkv5=>?_)
    ·clear hF;go_wp2_with fail;refine (chars_f _ _ _ _ _ (HR5.out.1.mod RChar.stay (T5.out.mod.then hw')) HS5.out.1 hw'.size).mono ?_;rintro e w'' ⟨v,rfl,hv,mm⟩;go_wp2_with fail;exact hK _ _ mm hv
    obtain ⟨_,-,q⟩:=hkv5;obtain ⟨a2,b2,rfl⟩:=q.form;clear q;refine Sq.k_go (f:=?_) rfl rfl (fun v=>by simp only [Act.put];(try simp only [List.setIfInBounds_toArray]);(try simp only [List.set_cons_succ,List.set_cons_zero]);exact rfl) (fun w' hw' hF K Q hK=>?_) (fun kv8 hkv8=>?_)
    ·clear hF;go_wp2_with fail;refine (lookups_f _ _ _ _ _ (HR5.out.2.1.mod RLookup.stay (T5.out.mod.then hw')) HS5.out.2.1.1 HS5.out.2.1.2 hw'.size).mono ?_;rintro e w'' ⟨v,rfl,hv,mm⟩;go_wp2_with fail;exact hK _ _ mm hv
    obtain ⟨_,-,q⟩:=hkv8;obtain ⟨a3,b3,rfl⟩:=q.form;clear q;refine Sq.k_go (f:=?_) rfl rfl (fun v=>by simp only [Act.put];(try simp only [List.setIfInBounds_toArray]);(try simp only [List.set_cons_succ,List.set_cons_zero]);exact rfl) (fun w' hw' hF K Q hK=>?_) (fun kv11 hkv11=>?_)
    ·clear hF;go_wp2_with fail;refine (features_f _ _ _ _ _ (HR5.out.2.2.1.mod RFeature.stay (T5.out.mod.then hw')) HS5.out.2.2.1.1 HS5.out.2.2.1.2 hw'.size).mono ?_;rintro e w'' ⟨v,rfl,hv,mm⟩;go_wp2_with fail;exact hK _ _ mm hv
    obtain ⟨_,-,q⟩:=hkv11;obtain ⟨a4,b4,rfl⟩:=q.form;clear q;refine Sq.k_go (f:=?_) rfl rfl (fun v=>by simp only [Act.put];(try simp only [List.setIfInBounds_toArray]);(try simp only [List.set_cons_succ,List.set_cons_zero]);exact rfl) (fun w' hw' hF K Q hK=>?_) (fun kv14 hkv14=>?_)
    ·clear hF;go_wp2_with fail;refine (rows_Ins_f _ _ _ _ _ (HR5.out.2.2.2.1.mod RCode.stay (T5.out.mod.then hw')) HS5.out.2.2.2.1 hw'.size).mono ?_;rintro e w'' ⟨v,rfl,hv,mm⟩;go_wp2_with fail;exact hK _ _ mm hv
    obtain ⟨_,-,q⟩:=hkv14;obtain ⟨a7,b7,rfl⟩:=q.form;clear q;refine Sq.k_go (f:=?_) rfl rfl (fun v=>by simp only [Act.put];(try simp only [List.setIfInBounds_toArray]);(try simp only [List.set_cons_succ,List.set_cons_zero]);exact rfl) (fun w' hw' hF K Q hK=>?_) (fun kv17 hkv17=>?_)
    ·clear hF;go_wp2_with fail;refine (cvt_f _ _ _ _ _ (HR5.out.2.2.2.2.mod RInt.stay (T5.out.mod.then hw')) HS5.out.2.2.2.2 hw'.size).mono ?_;rintro e w'' ⟨v,rfl,hv,mm⟩;go_wp2_with fail;exact hK _ _ mm hv
    obtain ⟨_,-,q⟩:=hkv17;obtain ⟨a8,b8,rfl⟩:=q.form;clear q;refine Sq.nil_go ?_;intro w' hw' hF;simp only [List.drop_succ_cons,List.drop_zero];have HF:=Hi hF;have T6:=Hi (T5.out.call hw');have F6:=Hi (F5.out.mod RGlyph.stay hw');have HSW:=Hi (show W1.heap.size+2<=wr.heap.size/\gb<wr.heap.size from ⟨by have:=(T5.out.at 2 rfl).lt;omega,F5.out.lt⟩);clear hF hw' A0;have z:=fun k=>(T6.out.at 1 rfl).cell k
    have zf:=fun k=>(T6.out.at 1 rfl).frozen k
    go_wp2_with fail;clear z zf;have XF:(((((((((w'.setCell ⟨w.heap.size+1,0,none⟩ (.int .i64 u)).setCell ⟨w.heap.size+1,1,none⟩ (.slice (some ⟨gb,0,none⟩) glyphs.length glyphs.length)).setCell ⟨w.heap.size+1,2,none⟩ (.slice a2 chars.length b2)).setCell ⟨w.heap.size+1,3,none⟩ (.slice a3 looks.length b3)).setCell ⟨w.heap.size+1,4,none⟩ (.slice a4 feats.length b4)).setCell ⟨w.heap.size+1,5,none⟩ (.slice none 0 0)).setCell ⟨w.heap.size+1,6,none⟩ (.slice none 0 0)).setCell ⟨w.heap.size+1,7,none⟩ (.slice a7 funcs.length b7)).setCell ⟨w.heap.size+1,8,none⟩ (.slice a8 cvt.length b8))=setN w' (w.heap.size+1) (0) [.int .i64 u,.slice (some ⟨gb,0,none⟩) glyphs.length glyphs.length,.slice a2 chars.length b2,.slice a3 looks.length b3,.slice a4 feats.length b4,.slice none 0 0,.slice none 0 0,.slice a7 funcs.length b7,.slice a8 cvt.length b8]:=rfl;rw [XF];clear XF;have B9:=Hi ((T6.out.at 1 rfl).over [.int .i64 u,.slice (some ⟨gb,0,none⟩) glyphs.length glyphs.length,.slice a2 chars.length b2,.slice a3 looks.length b3,.slice a4 feats.length b4,.slice none 0 0,.slice none 0 0,.slice a7 funcs.length b7,.slice a8 cvt.length b8] rfl);have M9:=Hi (setN_mod (w0:=w) (b:=w.heap.size+1) (by omega) [.int .i64 u,.slice (some ⟨gb,0,none⟩) glyphs.length glyphs.length,.slice a2 chars.length b2,.slice a3 looks.length b3,.slice a4 feats.length b4,.slice none 0 0,.slice none 0 0,.slice a7 funcs.length b7,.slice a8 cvt.length b8] 0 w' T6.out.mod);have A9:=Hi (setN_above (b:=w.heap.size+1) (B:=w.heap.size+2) (by omega) [.int .i64 u,.slice (some ⟨gb,0,none⟩) glyphs.length glyphs.length,.slice a2 chars.length b2,.slice a3 looks.length b3,.slice a4 feats.length b4,.slice none 0 0,.slice none 0 0,.slice a7 funcs.length b7,.slice a8 cvt.length b8] 0 w');have F9:=Hi (F6.out.aboveB RGlyph.stay (w':=setN w' (w.heap.size+1) 0 [.int .i64 u,.slice (some ⟨gb,0,none⟩) glyphs.length glyphs.length,.slice a2 chars.length b2,.slice a3 looks.length b3,.slice a4 feats.length b4,.slice none 0 0,.slice none 0 0,.slice a7 funcs.length b7,.slice a8 cvt.length b8]) (fun k hk hl=>A9.out k (by have:=HBB.out;have:=HGB.out;omega) hl) (setN_other (by have:=HBB.out;have:=HGB.out;omega) _ _ _));generalize setN w' (w.heap.size+1) 0 [.int .i64 u,.slice (some ⟨gb,0,none⟩) glyphs.length glyphs.length,.slice a2 chars.length b2,.slice a3 looks.length b3,.slice a4 feats.length b4,.slice none 0 0,.slice none 0 0,.slice a7 funcs.length b7,.slice a8 cvt.length b8]=W9 at *
    obtain ⟨⟨⟨⟨⟨-,k2⟩,k3⟩,k4⟩,k7⟩,k8⟩:=HF.out;have hw2:w.heap.size+2<=wr.heap.size:=by have:=HBB.out;have:=HSW.out.1;omega
    have hAb:∀ k,wr.heap.size<=k->k<w'.heap.size->W9.heap[k]?=w'.heap[k]?:=fun k hk hl=>A9.out k (by omega) hl
    refine vf_ret _ (w.heap.size+1) _ _ _ _ _ _ _ _ _ _ _ _ B9.out rfl rfl rfl ?_;have HFE:Vr.fontR ⟨u,glyphs,chars,looks,feats,axes,regs,funcs,cvt⟩ xs=.ok ⟨u,outs,chars,looks,feats,[],[],funcs,cvt⟩:=by
     unfold Vr.fontR;simp only;rw [HNR.out];simp only
     rw [fontGs_ok glyphs (fun x hx=>by
      obtain ⟨j,hj,hje⟩:=List.getElem_of_mem hx
      exact HOK.out j x hj (by rw [List.getElem?_eq_getElem hj,hje])),HOU.out]
    rw [HFE];refine ⟨M9.out,_,rfl,_,_,_,_,_,_,_,_,rfl,HU.out,?_,(k2.above RChar.stay hAb).lower RChar.lower (by omega),(k3.above RLookup.stay hAb).lower RLookup.lower (by omega),(k4.above RFeature.stay hAb).lower RFeature.lower (by omega),Rows.nil _,Rows.nil _,(k7.above RCode.stay hAb).lower RCode.lower (by omega),(k8.above RInt.stay hAb).lower RInt.lower (by omega)⟩;have hfd:=F9.out;rw [<- HOL.out] at hfd;have hml:outs.length<=maxLen:=by
     rw [HOL.out];have h1:=HS.out.1;have h2:(140737488351232:Nat)<=maxLen:=by decide
     omega
    have hwg:w.heap.size<=gb:=by have:=HBB.out;have:=HGB.out;omega
    have:=hfd.done (B':=w.heap.size) (cap:=glyphs.length) RGlyph.lower hml hwg (Nat.le_succ_of_le hwg);rw [HOL.out] at this;exact this
   have k1:decide ((i:Int)<(glyphs.length:Int))=true:=decide_eq_true (by omega);have k2:(0:Int)<=i:=by omega
   have k3:(i:Int)<(glyphs.length:Int):=by omega
   obtain ⟨I1,I2,I3,I4,I5⟩:=HI.out;have HI5:=Hi I4.lt;obtain ⟨gl,hgl⟩:∃ gl,glyphs[i]?=some gl:=⟨_,List.getElem?_eq_getElem hin⟩
   have hsm:=HS.out.2 gl (List.mem_of_getElem? hgl);obtain ⟨a,rfl,-,cs,-,hc0,hcj,hG⟩:=(HGL.out.mod RGlyph.stay HM1.out).elem hgl;have HGY:=Hi (fun W (m:Mod [] W1 W) (f:FacMap W W1.heap.size regs at')=>glyph_any u ⟨some a,glyphs.length,gcc⟩ c l fe ax rg fu cv ⟨ha,hnn,hc⟩ W1.heap.size regs at' gl cs B 0 B W1 W m (Nat.le_refl _) (HRG.out.mod RRegion.stay HM1.out) HX.out hG hsm f);obtain ⟨v3,v4,v5,v6,v7,v8,rfl,hn,had,h3,h4,h5,h6,h7,h8⟩:=hG;obtain ⟨o3,x3,rfl,-⟩:=h3.form;obtain ⟨o4,x4,rfl,-⟩:=h4.form;obtain ⟨o5,x5,rfl,-⟩:=h5.form;obtain ⟨o6,x6,rfl,-⟩:=h6.form;obtain ⟨o7,x7,rfl,-⟩:=h7.form;obtain ⟨o8,x8,rfl,-⟩:=h8.form;have c0:=hc0 (by decide);have c1:=hcj 1 (by decide) (by decide);have c2:=hcj 2 (by decide) (by decide);have c3:=hcj 3 (by decide) (by decide);have c4:=hcj 4 (by decide) (by decide);have c5:=hcj 5 (by decide) (by decide);have c6:=hcj 6 (by decide) (by decide);have c7:=hcj 7 (by decide) (by decide);have c8:=hcj 8 (by decide) (by decide);simp only [List.getElem?_cons_zero,List.getElem?_cons_succ] at c0 c1 c2 c3 c4 c5 c6 c7 c8
   replace c0:=cell_stays I2 c0
   replace c1:=cell_stays I2 c1
   replace c2:=cell_stays I2 c2
   replace c3:=cell_stays I2 c3
   replace c4:=cell_stays I2 c4
   replace c5:=cell_stays I2 c5
   replace c6:=cell_stays I2 c6
   replace c7:=cell_stays I2 c7
   replace c8:=cell_stays I2 c8
   have HGI:=Hi hgl;have mAl:Mod [] wr (wr.alloc (.cells #[.string gl.name,.int .i64 gl.adv,.bool gl.mark,.slice o3 gl.pts.length x3,.slice o4 gl.ends.length x4,.slice o5 gl.parts.length x5,.slice o6 gl.anchors.length x6,.slice o7 gl.deltas.length x7,.slice o8 gl.hint.length x8] 51)):=(Mod.refl [] wr).alloc _;have T5:=Hi (I1.alloc #[.string gl.name,.int .i64 gl.adv,.bool gl.mark,.slice o3 gl.pts.length x3,.slice o4 gl.ends.length x4,.slice o5 gl.parts.length x5,.slice o6 gl.anchors.length x6,.slice o7 gl.deltas.length x7,.slice o8 gl.hint.length x8] 51);have HM5:=Hi (I2.then mAl);have HF5:=Hi (I3.mod mAl);have FI5:=Hi (I4.mod RGlyph.stay mAl);have HOK:=Hi I5;unfold spotCells at HGY;simp only at HGY;clear I1 I2 I3 I4 I5 HI hc0 hcj hn had h3 h4 h5 h6 h7 h8 mAl hsm hgl hin;go_upto_region 9 with fail;clear c0 c1 c2 c3 c4 c5 c6 c7 c8;have HSZ5:=Hi (show gb+1<=(wr.alloc (.cells #[.string gl.name,.int .i64 gl.adv,.bool gl.mark,.slice o3 gl.pts.length x3,.slice o4 gl.ends.length x4,.slice o5 gl.parts.length x5,.slice o6 gl.anchors.length x6,.slice o7 gl.deltas.length x7,.slice o8 gl.hint.length x8] 51)).heap.size from FI5.out.lt);generalize wr.alloc (.cells #[.string gl.name,.int .i64 gl.adv,.bool gl.mark,.slice o3 gl.pts.length x3,.slice o4 gl.ends.length x4,.slice o5 gl.parts.length x5,.slice o6 gl.anchors.length x6,.slice o7 gl.deltas.length x7,.slice o8 gl.hint.length x8] 51)=W5 at *
   have s0:=(T5.out.at 2 rfl).cell 0;have s1:=(T5.out.at 2 rfl).cell 1;have s2:=(T5.out.at 2 rfl).cell 2;have s3:=(T5.out.at 2 rfl).cell 3;have s4:=(T5.out.at 2 rfl).cell 4;have s5:=(T5.out.at 2 rfl).cell 5;have s6:=(T5.out.at 2 rfl).cell 6;have s7:=(T5.out.at 2 rfl).cell 7;have s8:=(T5.out.at 2 rfl).cell 8;have s9:=(T5.out.at 2 rfl).cell 9;have s10:=(T5.out.at 2 rfl).cell 10;have t0:=(T5.out.at 3 rfl).cell 0;have t1:=(T5.out.at 3 rfl).cell 1;have t2:=(T5.out.at 3 rfl).cell 2;have t3:=(T5.out.at 3 rfl).cell 3;have t4:=(T5.out.at 3 rfl).cell 4;have t5:=(T5.out.at 3 rfl).cell 5;have t6:=(T5.out.at 3 rfl).cell 6;have t7:=(T5.out.at 3 rfl).cell 7;have t8:=(T5.out.at 3 rfl).cell 8;simp only [List.getElem?_toArray,List.getElem?_cons_zero,List.getElem?_cons_succ] at s0 s1 s2 s3 s4 s5 s6 s7 s8 s9 s10 t0 t1 t2 t3 t4 t5 t6 t7 t8;go_wp2_with fail;refine (HGY.out _ HM5.out HF5.out).mono ?_;rintro e W6 ⟨m6,hf6,hr6⟩;clear s0 s1 s2 s3 s4 s5 s6 s7 s8 s9 s10 t0 t1 t2 t3 t4 t5 t6 t7 t8
   have T6:=Hi (T5.out.off (T5.out.mod.trans m6 (fun x hx hlt=>by have:=HBB.out;simp at hx;omega)) (fun p hp=>m6.block p.1 ((T5.out.blk p hp).2.lt) (fun hm=>by
    have:=HBB.out;have:=HGB.out;have:=HI5.out;simp at hm;simp only [List.cons_append,List.nil_append,List.mem_cons,List.not_mem_nil,or_false] at hp
    rcases hp with rfl | rfl | rfl | rfl <;> simp at hm <;> omega)))
   have FI6:=Hi (FI5.out.aboveB RGlyph.stay (above_of m6 (fun x hx=>by have:=HGB.out;simp at hx;omega)) (m6.block gb FI5.out.lt (by have:=HGB.out;simp;omega)));have HM6:=Hi (HM5.out.trans m6 (fun x hx hlt=>by simp at hx;omega));have HF6:=Hi hf6;have hiL:i*9+8<outs.length*9:=by rw [HOL.out];omega
   obtain ⟨y0,z0,e0⟩:=FI6.out.cell (q:=i*9) (by omega);obtain ⟨y1,z1,e1⟩:=FI6.out.cell (q:=i*9+1) (by omega);obtain ⟨y2,z2,e2⟩:=FI6.out.cell (q:=i*9+2) (by omega);obtain ⟨y3,z3,e3⟩:=FI6.out.cell (q:=i*9+3) (by omega);obtain ⟨y4,z4,e4⟩:=FI6.out.cell (q:=i*9+4) (by omega);obtain ⟨y5,z5,e5⟩:=FI6.out.cell (q:=i*9+5) (by omega);obtain ⟨y6,z6,e6⟩:=FI6.out.cell (q:=i*9+6) (by omega);obtain ⟨y7,z7,e7⟩:=FI6.out.cell (q:=i*9+7) (by omega);obtain ⟨y8,z8,e8⟩:=FI6.out.cell (q:=i*9+8) (by omega);clear m6 hf6 T5 FI5 HM5 HF5 HGY;cases hg:Vr.glyphR regs at' gl with
   | error k =>
    rw [hg] at hr6;obtain rfl:e=.returned (.tuple #[.agg zeroGlyphL.toArray,.int .i64 k]):=hr6;have hk:=glyphR_ne hg;have hk':(k == 0)=false:=by simpa using hk
    have kk1:(k != 0)=true:=by simpa using hk
    have HFE:=Hi (show Vr.fontR ⟨u,glyphs,chars,looks,feats,axes,regs,funcs,cvt⟩ xs=.error k by
     unfold Vr.fontR;simp only;rw [HNR.out];simp only
     rw [fontGs_err glyphs i gl HGI.out HOK.out hg])
    have T7:=Hi (T6.out.off (w':=setN W6 gb (i*9) [.string ⟨#[]⟩,.int .i64 0,.bool false,.slice none 0 0,.slice none 0 0,.slice none 0 0,.slice none 0 0,.slice none 0 0,.slice none 0 0]) (setN_mod (w0:=w) (b:=gb) (by have:=HBB.out;have:=HGB.out;omega) _ _ W6 T6.out.mod) (fun p hp=>setN_other (by
     have:=HBB.out;have:=HGB.out;have:=HI5.out;simp only [List.cons_append,List.nil_append,List.mem_cons,List.not_mem_nil,or_false] at hp
     rcases hp with rfl | rfl | rfl | rfl <;> simp <;> omega) _ _ _))
    clear hg hk HOK HGI;unfold zeroGlyphL;go_upto_region 11 with fail;have XF:(((((((((W6.setCell ⟨gb,i*9,none⟩ (.string ⟨#[]⟩)).setCell ⟨gb,i*9+1,none⟩ (.int .i64 0)).setCell ⟨gb,i*9+2,none⟩ (.bool false)).setCell ⟨gb,i*9+3,none⟩ (.slice none 0 0)).setCell ⟨gb,i*9+4,none⟩ (.slice none 0 0)).setCell ⟨gb,i*9+5,none⟩ (.slice none 0 0)).setCell ⟨gb,i*9+6,none⟩ (.slice none 0 0)).setCell ⟨gb,i*9+7,none⟩ (.slice none 0 0)).setCell ⟨gb,i*9+8,none⟩ (.slice none 0 0))=setN W6 (gb) (i*9) [.string ⟨#[]⟩,.int .i64 0,.bool false,.slice none 0 0,.slice none 0 0,.slice none 0 0,.slice none 0 0,.slice none 0 0,.slice none 0 0]:=rfl;rw [XF];clear XF;generalize setN W6 gb (i*9) [.string ⟨#[]⟩,.int .i64 0,.bool false,.slice none 0 0,.slice none 0 0,.slice none 0 0,.slice none 0 0,.slice none 0 0,.slice none 0 0]=W7 at *
    have T8:=Hi (setN_mod (w0:=w) (b:=w.heap.size+1) (by omega) zeroFontL 0 W7 T7.out.mod);have B8:=Hi ((T7.out.at 1 rfl).over zeroFontL rfl);have z:=fun k=>(T7.out.at 1 rfl).cell k
    have zf:=fun k=>(T7.out.at 1 rfl).frozen k
    clear y0 y1 y2 y3 y4 y5 y6 y7 y8 z0 z1 z2 z3 z4 z5 z6 z7 z8 e0 e1 e2 e3 e4 e5 e6 e7 e8;go_wp2_with fail;exact vf_ret _ (w.heap.size+1) _ _ _ _ _ _ _ _ _ _ _ _ B8.out rfl rfl rfl (by rw [HFE.out];exact ⟨T8.out,rfl⟩)
   | ok g' =>
    rw [hg] at hr6;obtain ⟨cs',rfl,hG⟩:=hr6;obtain ⟨v3',v4',v5',v6',v7',v8',rfl,hgn,hga,r3,r4,r5,r6,r7,r8⟩:=hG;obtain ⟨p3,k3,rfl,-⟩:=r3.form;obtain ⟨p4,k4,rfl,-⟩:=r4.form;obtain ⟨p5,k5,rfl,-⟩:=r5.form;obtain ⟨p6,k6,rfl,-⟩:=r6.form;obtain ⟨p7,k7,rfl,-⟩:=r7.form;obtain ⟨p8,k8,rfl,-⟩:=r8.form;have hG':RGlyph (gb+1) W6 [.string g'.name,.int .i64 g'.adv,.bool g'.mark,.slice p3 g'.pts.length k3,.slice p4 g'.ends.length k4,.slice p5 g'.parts.length k5,.slice p6 g'.anchors.length k6,.slice p7 g'.deltas.length k7,.slice p8 g'.hint.length k8] g':=RGlyph.lower _ _ _ _ _ (show RGlyph W5.heap.size W6 [.string g'.name,.int .i64 g'.adv,.bool g'.mark,.slice p3 g'.pts.length k3,.slice p4 g'.ends.length k4,.slice p5 g'.parts.length k5,.slice p6 g'.anchors.length k6,.slice p7 g'.deltas.length k7,.slice p8 g'.hint.length k8] g' from ⟨_,_,_,_,_,_,rfl,hgn,hga,r3,r4,r5,r6,r7,r8⟩) HSZ5.out;have hio:i<outs.length:=by rw [HOL.out];omega
    have hoi:outs[i]=g':=by
     have h1:outs[i]?=some g':=by
      rw [<- HOU.out,List.getElem?_map,HGI.out];simp only [Option.map_some,Vr.outG,hg]
     rw [List.getElem?_eq_getElem hio] at h1;simpa using h1
    have FI7:=Hi (FI6.out.setK RGlyph.stay hio (cs:=[.string g'.name,.int .i64 g'.adv,.bool g'.mark,.slice p3 g'.pts.length k3,.slice p4 g'.ends.length k4,.slice p5 g'.parts.length k5,.slice p6 g'.anchors.length k6,.slice p7 g'.deltas.length k7,.slice p8 g'.hint.length k8]) rfl (by rw [hoi];exact hG') (Nat.lt_succ_self _))
    have T7:=Hi (T6.out.off (w':=setN W6 gb (i*9) [.string g'.name,.int .i64 g'.adv,.bool g'.mark,.slice p3 g'.pts.length k3,.slice p4 g'.ends.length k4,.slice p5 g'.parts.length k5,.slice p6 g'.anchors.length k6,.slice p7 g'.deltas.length k7,.slice p8 g'.hint.length k8]) (setN_mod (w0:=w) (b:=gb) (by have:=HBB.out;have:=HGB.out;omega) _ _ W6 T6.out.mod) (fun p hp=>setN_other (by
     have:=HBB.out;have:=HGB.out;have:=HI5.out;simp only [List.cons_append,List.nil_append,List.mem_cons,List.not_mem_nil,or_false] at hp
     rcases hp with rfl | rfl | rfl | rfl <;> simp <;> omega) _ _ _))
    have HM7:=Hi (setN_mod (w0:=W1) (b:=gb) (by have:=HGB.out;omega) [.string g'.name,.int .i64 g'.adv,.bool g'.mark,.slice p3 g'.pts.length k3,.slice p4 g'.ends.length k4,.slice p5 g'.parts.length k5,.slice p6 g'.anchors.length k6,.slice p7 g'.deltas.length k7,.slice p8 g'.hint.length k8] (i*9) W6 HM6.out);have HF7:=Hi (HF6.out.of (w':=setN W6 gb (i*9) [.string g'.name,.int .i64 g'.adv,.bool g'.mark,.slice p3 g'.pts.length k3,.slice p4 g'.ends.length k4,.slice p5 g'.parts.length k5,.slice p6 g'.anchors.length k6,.slice p7 g'.deltas.length k7,.slice p8 g'.hint.length k8]) (setN_other (by have:=HGB.out;omega) _ _ _))
    have HOK7:=Hi (show ∀ j x,j<i+1->glyphs[j]?=some x->∃ y,Vr.glyphR regs at' x=.ok y from fun j x hj hx=>by
     rcases Nat.lt_or_ge j i with h | h
     ·exact HOK.out j x h hx
     ·obtain rfl:j=i:=by omega
      rw [HGI.out] at hx;cases hx
      exact ⟨g',hg⟩)
    have ei:IntKind.i64.wrap ((i:Int)+1)=(i:Int)+1:=IntWalk.i64_in _ (by have:=HS.out.1;omega);clear hg hG' hio hoi hgn hga r3 r4 r5 r6 r7 r8 HGI HOK;go_upto_region 10 with fail;have XF:(((((((((W6.setCell ⟨gb,i*9,none⟩ (.string g'.name)).setCell ⟨gb,i*9+1,none⟩ (.int .i64 g'.adv)).setCell ⟨gb,i*9+2,none⟩ (.bool g'.mark)).setCell ⟨gb,i*9+3,none⟩ (.slice p3 g'.pts.length k3)).setCell ⟨gb,i*9+4,none⟩ (.slice p4 g'.ends.length k4)).setCell ⟨gb,i*9+5,none⟩ (.slice p5 g'.parts.length k5)).setCell ⟨gb,i*9+6,none⟩ (.slice p6 g'.anchors.length k6)).setCell ⟨gb,i*9+7,none⟩ (.slice p7 g'.deltas.length k7)).setCell ⟨gb,i*9+8,none⟩ (.slice p8 g'.hint.length k8))=setN W6 (gb) (i*9) [.string g'.name,.int .i64 g'.adv,.bool g'.mark,.slice p3 g'.pts.length k3,.slice p4 g'.ends.length k4,.slice p5 g'.parts.length k5,.slice p6 g'.anchors.length k6,.slice p7 g'.deltas.length k7,.slice p8 g'.hint.length k8]:=rfl;rw [XF];clear XF;generalize setN W6 gb (i*9) [.string g'.name,.int .i64 g'.adv,.bool g'.mark,.slice p3 g'.pts.length k3,.slice p4 g'.ends.length k4,.slice p5 g'.parts.length k5,.slice p6 g'.anchors.length k6,.slice p7 g'.deltas.length k7,.slice p8 g'.hint.length k8]=W7 at *
    clear y0 y1 y2 y3 y4 y5 y6 y7 y8 z0 z1 z2 z3 z4 z5 z6 z7 z8 e0 e1 e2 e3 e4 e5 e6 e7 e8;go_wp2_with fail;go_roundg (gk - 1)
    case measure=>have:=hi.out;omega
    case rel=>exact ⟨i+1,by rw [Int.natCast_add];rfl,by have:=hi.out;show i+1+(gk - 1)=glyphs.length;omega,T7.out.left,HM7.out,HF7.out,FI7.out,HOK7.out⟩
end Go.Proofs.Ytlkkhkbafahchaa

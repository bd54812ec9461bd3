/- CkFirst, CkLeaf, CkLeaf2, CkLeaf3, CkLook, CkSets, CkDelta, CkMaps, CkAnchor, CkFeat, CkGlyph, CkIsSet, CkOut, CkCall, CkRule, CkGrow, CkConcat, CkRule2, CkRule3, CkLookup, CkLookupE, CkFirsts. -/
import Derived.Test.YthheaflbbficgaaGreatGBase
import Derived.Test.YthheaflbbficgaaGreatGEa
import Derived.Test.YthheaflbbficgaaGreatGRf
import Derived.BigQuiet
import Derived.DeepKeys3
import Derived.Test.YthheaflbbficgaaGreatGRing
import Derived.Lib.AppendZeros
import Derived.Laws.AppendOwnNone
set_option linter.all false
namespace Go.Proofs.YthheaflbbficgaaGreat
set_option maxHeartbeats 8000000
open Go.RowKit
attribute [local go_sem] Oper.semAt_some
theorem wz (oa:Option Addr) (n c:Nat) (w:World):Calls Tryz.prog 107 #[.slice oa n c] w λe w'=>(∃ b t,e=.returned (.func (.func 167) #[] #[.pointer (some ⟨b,0,none⟩)])/\Blk w' b #[.slice oa n c] t)/\Mod [] w w':=by
 go_enter Tryz.func107,Tryz.ntmps107;go_wp2;go_ret;exact ⟨⟨_,_,rfl,Blk.new w _ _⟩,(Mod.refl [] w).alloc _⟩
structure Looks (F:List Nat) (K:Nat) (fn:Nat->Nat) (caps:Nat->Array Value) (G:Nat->Ck.Got) (J Z:Nat->World->Prop):Prop where
 call:∀ k w,k<K->J k w->Calls Tryz.prog (fn k) (caps k) w λe w'=>e=.returned (.tuple #[.int .i64 (G k).1,.int .i64 ((G k).2:Int)])/\Mod F w w'/\((G k).1=0->J (k+1) w')/\((G k).1≠0->Z k w')
 cf:∀ k,k<K->∀ (a:Array Value) (w:World),(callFunc (fn k) a).run Tryz.prog w=.ok (.enter (fn k) a) w
theorem uq {F:List Nat} {K:Nat} {fn:Nat->Nat} {caps:Nat->Array Value} {G:Nat->Ck.Got} {J Z R:Nat->World->Prop} (hL:Looks F K fn caps G J Z) (hK:K<=100) (b b0 c l:Nat)
  (hc:∀ k w,k<K->J k w->w.cell? ⟨b,k,none⟩=some (.func (.func (fn k)) #[] (caps k)))
  (hY:∀ k W,k<K->Z k W->(G k).1≠0->(∀ j,j<k->(G j).1=0)->YieldAt Fence.wide 0 Tryz.prog l #[.int .i64 (G k).1,.int .i64 ((G k).2:Int)] W λe W'=>e=.returned (.bool false)/\R k W')
  (w:World) (h0:J 0 w) (hb:w.cell? ⟨b0,0,none⟩=some (.slice (some ⟨b,0,none⟩) K c)) :
  Calls Tryz.prog 167 #[.func (.yield l) #[] #[],.pointer (some ⟨b0,0,none⟩)] w λe w'=>e=.returned (.tuple #[])/\((J K w'/\∀ j,j<K->(G j).1=0)∨∃ k,k<K/\(G k).1≠0/\(∀ j,j<k->(G j).1=0)/\R k w'):=by
 have HL:=Hi hL;have HC:=Hi hc;have HY:=Hi hY;have HK:=Hi hK;have H0:=Hi h0;clear hL hc hY h0 hK;go_enter Tryz.func167,Tryz.ntmps167;go_wp2_with fail
 go_loopg [9] K (λgk v9 wr=>∃ k:Nat,v9=.int .i64 (k:Int)/\Hy (k+gk=K)/\Hy (J k wr)/\Hy (∀ j,j<k->(G j).1=0))
 case atStart=>exact ⟨0,rfl,by show 0+K=K;omega,H0.o,λj hj=>absurd hj (Nat.not_lt_zero j)⟩
 case round =>
  obtain ⟨k,rfl,hi,HJ,HZ⟩:=hrel;clear H0
  by_cases hin:k<K
  case neg =>
   obtain rfl:k=K:=by have:=hi.o;omega
   have k1:=dF (p:=(k:Int)<k) zo;go_wp2_with fail
   go_end0
   exact ⟨rfl,.inl ⟨HJ.o,HZ.o⟩⟩
  have k1:=dT (p:=(k:Int)<K) zo;have k2:(0:Int)<=k:=zo;have k3:(k:Int)<K:=zo;have c0:=HC.o k wr hin HJ.o;have hcf:=HL.o.cf k hin;have HX:=Hi (HL.o.call k wr hin HJ.o);have HN:=Hi hin;have ei:IntKind.i64.wrap ((k:Int)+1)=(k:Int)+1:=IntWalk.i64_in _ zqw;clear hin;go_wp2_with fail;refine HX.o.mono ?_;rintro e w2 ⟨rfl,-,hj,hz⟩;clear hcf c0 HX HJ
  by_cases hg:(G k).1=0
  case pos =>
   have HJ2:=Hi (hj hg);have HZ2:Hy (∀ j,j<k+1->(G j).1=0):=λj h=>by
    rcases Nat.lt_succ_iff_lt_or_eq.1 h with h | rfl
    ·exact HZ.o j h
    ·exact hg
   rw [hg];generalize (G k).2=q;clear hj hz hg HZ;go_wp2;go_roundg (gk - 1)
   case measure=>have:=hi.o;have:=HN.o;omega
   case rel=>exact ⟨k+1,by rw [Int.natCast_add];rfl,by have:=hi.o;have:=HN.o;show k+1+(gk - 1)=K;omega,HJ2.o,HZ2.o⟩
  obtain ⟨fn',tmps',as',bo',hy,hR⟩:=HY.o k w2 HN.o (hz hg) hg HZ.o;have HG:=Hi hg;have z1:((G k).1 != 0)=true:=by simpa using hg
  have z2:=dF (p:=(G k).1=0) hg;have z3:((G k).1 == 0)=false:=by simpa using hg
  clear hj hz hg;go_upto_region 4 with fail;refine (wpIn_wide (n:=1)).1 ?_
  gi_wp2
  refine hR.mono ?_;rintro e w3 ⟨rfl,hr⟩;have HR:=Hi hr;clear hr hy hR z1 z2 z3
  gi_wp2
  go_wp2_with fail;refine bodyPost_ret (results_none rfl _ _ _) rfl ?_;exact ⟨rfl,.inr ⟨k,HN.o,HG.o,HZ.o,HR.o⟩⟩
theorem eO {B:Nat} {W:World} {l:Nat} (h:B<=l) (o:Obj):Below B W (W.putObj l o) :=
 ⟨rfl,rfl,rfl,by show _<=(W.heap.setIfInBounds l o).size;simp,λk hk=>World.putObj_heap_other zo⟩
theorem Blk.putObj {W:World} {b l:Nat} {cs:Array Value} {t:TypeId} (h:Blk W b cs t) (hne:b≠l) (o:Obj):Blk (W.putObj l o) b cs t:=(World.putObj_heap_other hne).trans h
theorem qJ {B D:Nat} {W5:World} {x y:Int} {u0 u1 u4 u5 u6 u7 u8 u9 u10 u11:Value} {R:Ending->World->Prop} (hd:W5.heap[D]?=some (.deferred (some []))) (p0:Blk W5 B #[.int .i64 x] 61) (p1:Blk W5 (B+1) #[.int .i64 y] 3) (hBD:B+1<D)
  (hR:R (.returned (.tuple #[.int .i64 x,.int .i64 y])) (W5.putObj D (.deferred none))) :
  bodyPostM Fence.wide 1 Tryz.prog Tryz.f50 R .ret ⟨#[u0,u1,.pointer (some ⟨B,0,none⟩),.pointer (some ⟨B+1,0,none⟩),u4,u5,u6,u7,u8,u9,u10,u11],[{ target:=.collected D,args:=#[] }]⟩ W5:=by
 have c0:=(p0.putObj (show B≠D by omega) (.deferred none)).cell 0;have c1:=(p1.putObj (show B+1≠D by omega) (.deferred none)).cell 0;simp only [gA,gZ] at c0 c1;refine ⟨by simp,.inl ⟨_,_,rfl,run_takeDeferred hd,?_⟩⟩;refine ⟨_,?_,hR⟩;simp [results,Tryz.f50,go_sem,c0,c1]
def iH (K:Nat) (G:Nat->Ck.Got) (J Z:Nat->World->Prop) (e:Ending) (w:World):Prop :=
 (e=.returned (.tuple #[.int .i64 0,.int .i64 0])/\(∀ j,j<K->(G j).1=0)/\J K w) ∨
 ∃ k,k<K/\(G k).1≠0/\(∀ j,j<k->(G j).1=0)/\e=.returned (.tuple #[.int .i64 (G k).1,.int .i64 ((G k).2:Int)])/\Z k w
theorem jj {F:List Nat} {K:Nat} {fn:Nat->Nat} {caps:Nat->Array Value} {G:Nat->Ck.Got} {J Z:Nat->World->Prop} (b c:Nat) (w:World) (hL:Looks F K fn caps G J Z) (hK:K<=100)
  (hF:∀ x∈F,x<w.heap.size) (hJ:∀ k W W',J k W->Below w.heap.size W W'->J k W') (hZ:∀ k W W',Z k W->Below w.heap.size W W'->Z k W')
  (hc:∀ k w,k<K->J k w->w.cell? ⟨b,k,none⟩=some (.func (.func (fn k)) #[] (caps k))) (h0:J 0 w) :
  Calls Tryz.prog 50 #[.slice (some ⟨b,0,none⟩) K c] w (iH K G J Z):=by
 have HL:=Hi hL;have HC:=Hi hc;have HF:=Hi hF;have HJ:=Hi hJ;have HZ:=Hi hZ;have HK:=Hi hK;have H0:=Hi h0;have T:=Hi (own2 w #[.int .i64 0] 61 #[.int .i64 0] 3);clear hL hc hF hJ hZ h0 hK;refine Rf.fT Tryz.func50 rfl ?_;simp only [Tryz.ntmps50,List.size_toArray,List.length_cons,List.length_nil,Nat.reduceAdd,Nat.reduceSub,Array.replicate_succ,Array.replicate_zero,List.push_toArray,List.append_toArray,List.nil_append,List.cons_append];go_wp2_with fail;refine (wz _ _ _ _).mono ?_;rintro e w1 ⟨⟨b0,t,rfl,hB⟩,m1⟩;have HB:=Hi hB;have HT:=Hi (T.o.call m1);clear hB m1 T;go_wp2_with fail;obtain ⟨B,hBs⟩:∃ B,B=w.heap.size:=⟨_,rfl⟩
 rw [<- hBs] at HT ⊢;have HBs:=Hi hBs;clear hBs;refine Rf.lm (α:=Nat) (gf:=167) (lb:=#[.pointer (some ⟨b0,0,none⟩)]) (encs:=λk=>#[.int .i64 (G k).1,.int .i64 ((G k).2:Int)])
  (λW k a' W'=>W'=W/\a'=⟨#[.slice (some ⟨b,0,none⟩) K c,undef,.pointer (some ⟨B,0,none⟩),.pointer (some ⟨B+1,0,none⟩),.int .i64 (G k).1,.int .i64 ((G k).2:Int),.slice (some ⟨b,0,none⟩) K c,.func (.func 167) #[] #[.pointer (some ⟨b0,0,none⟩)],.int .i64 (G k).1,.int .i64 ((G k).2:Int),undef,undef],[]⟩)
  rfl (λargs w=>by kernel_rfl) (λ_=>rfl) ?assign ?main
 case assign =>
  intro l k W KK hK
  gi_wp2
 case main =>
  intro rec l D W1 hD hl hs hm hR hround;have hb1:B+1<w1.heap.size:=(HT.o.at 1 rfl).lt;have nF:∀ x,B<=x->x ∉ F:=λx hx h=>by have:=HF.o x h;have:=HBs.o;omega
  have bl:Below w.heap.size w W1:=(HT.o.mod.then hm).sF
  refine (uq (F:=F) (G:=G) (fn:=fn) (caps:=caps) (J:=λk W=>J k W/\Rf.Rec rec l D .ready none W/\Blk W B #[.int .i64 0] 61/\Blk W (B+1) #[.int .i64 0] 3) (Z:=λk W=>Z k W/\Rf.Rec rec l D .ready none W/\Blk W B #[.int .i64 0] 61/\Blk W (B+1) #[.int .i64 0] 3)
   (R:=λk W=>Z k W/\Rf.Rec rec l D .done (some .ret) W/\Blk W B #[.int .i64 (G k).1] 61/\Blk W (B+1) #[.int .i64 ((G k).2:Int)] 3)
   ⟨λk W hk h=>((HL.o.call k W hk h.1).mono ?_),HL.o.cf⟩ HK.o b b0 c l (λk W hk h=>HC.o k W hk h.1) ?_ W1 ⟨HJ.o 0 w W1 H0.o bl,hR,(HT.o.at 0 rfl).kept hm zk,(HT.o.at 1 rfl).kept hm zk⟩ ((HB.o.kept hm zk).cell 0)).mono ?_
  ·rintro e W' ⟨rfl,m,hj,hz⟩;have k1:=h.2.1.kept m (nF l zo) (nF D zo);have k2:=h.2.2.1.kept m (nF B zo);have k3:=h.2.2.2.kept m (nF (B+1) zo);exact ⟨rfl,m,λhg=>⟨hj hg,k1,k2,k3⟩,λhg=>⟨hz hg,k1,k2,k3⟩⟩
  ·rintro k W hk ⟨hz,hrec,p0,p1⟩ hg hlt;refine hround k W _ hrec ?_;rintro a' W' ⟨rfl,rfl⟩;refine ⟨hrec,λhbusy=>?_⟩;have q0:=Hi (p0.putObj (show B≠l by omega) (.loop (rec .busy none)));have q1:=Hi (p1.putObj (show B+1≠l by omega) (.loop (rec .busy none)));have hz2:=Hi (HZ.o k _ _ hz (eO (show w.heap.size<=l by have:=HBs.o;omega) (.loop (rec .busy none))));have HR:=Hi hbusy;have hll:=Hi (show B+1<l/\B+1<D/\B=w.heap.size/\D≠l from ⟨by omega,by omega,HBs.o,by omega⟩);clear hbusy hz p0 p1 hrec hround hD hl hs hm hR hb1 bl nF;generalize W'.putObj l (.loop (rec .busy none))=W2 at *
   have c0:=q0.o.cell 0;have f0:=q0.o.frozen 0;have c1:=q1.o.cell 0;have f1:=q1.o.frozen 0;simp only [gA,gZ] at c0 c1
   gi_wp2
   have m2:Mod [B,B+1] W2 ((W2.setCell ⟨B,0,none⟩ (.int .i64 (G k).1)).setCell ⟨B+1,0,none⟩ (.int .i64 ((G k).2:Int))) :=
    (mR.setCell (p:=⟨B,0,none⟩) (λ_=>by simp) _).setCell (p:=⟨B+1,0,none⟩) (λ_=>by simp) _
   have hb:=HR.o.kept m2 zpb zpb;have z0:=(q0.o.set 0 (.int .i64 (G k).1)).other (a:=⟨B+1,0,none⟩) (by show B+1≠B;omega) (.int .i64 ((G k).2:Int));have z1:=(q1.o.other (a:=⟨B,0,none⟩) (by show B≠B+1;omega) (.int .i64 (G k).1)).set 0 (.int .i64 ((G k).2:Int));have hlt:=hll.o;exact ⟨hb,rfl,HZ.o k _ _ hz2.o ((m2.below (B:=w.heap.size) (by have:=q0.o.lt;omega) zqa).trans (eO zo _)),hb.put hlt.2.2.2 _ _,z0.putObj zo _,z1.putObj zo _⟩
  ·rintro e W' ⟨rfl,⟨⟨hj,hrec,p0,p1⟩,hall⟩ | ⟨k,hk,hg,hlt,hz,hrec,p0,p1⟩⟩
   ·refine ⟨_,rfl,.inl ⟨hrec,?_⟩⟩;rintro W4 hW4 hdf;have q0:Hy (Blk W4 B #[.int .i64 0] 61):=by rw [hW4];exact p0.putObj zo _
    have q1:Hy (Blk W4 (B+1) #[.int .i64 0] 3):=by rw [hW4];exact p1.putObj zo _
    have hj4:=Hi (HJ.o K _ W4 hj (by rw [hW4];exact eO (by have:=HBs.o;omega) _));have HDF:=Hi hdf;have HA:=Hi hall;have hll:=Hi (show B+1<D/\B=w.heap.size from ⟨by omega,HBs.o⟩);clear hW4 hdf hall hj p0 p1 hrec hround hD hl hs hm hR hb1 bl nF;have c0:=q0.o.cell 0;have f0:=q0.o.frozen 0;have c1:=q1.o.cell 0;have f1:=q1.o.frozen 0;simp only [gA,gZ] at c0 c1;go_wp2_with fail;have m2:Mod [B,B+1] W4 ((W4.setCell ⟨B,0,none⟩ (.int .i64 0)).setCell ⟨B+1,0,none⟩ (.int .i64 0)) :=
     (mR.setCell (p:=⟨B,0,none⟩) (λ_=>by simp) _).setCell (p:=⟨B+1,0,none⟩) (λ_=>by simp) _
    have hd:((W4.setCell ⟨B,0,none⟩ (.int .i64 0)).setCell ⟨B+1,0,none⟩ (.int .i64 0)).heap[D]?=some (.deferred (some [])) :=
     (m2.block D (Array.getElem?_eq_some_iff.1 HDF.o).1 zpb).trans HDF.o
    have z0:=(q0.o.set 0 (.int .i64 0)).other (a:=⟨B+1,0,none⟩) (by show B+1≠B;omega) (.int .i64 0);have z1:=(q1.o.other (a:=⟨B,0,none⟩) (by show B≠B+1;omega) (.int .i64 0)).set 0 (.int .i64 0);exact qJ hd z0 z1 hll.o.1 (.inl ⟨rfl,HA.o,HJ.o _ _ _ hj4.o ((m2.below (B:=w.heap.size) (by have:=q0.o.lt;have:=hll.o;omega) zpb).trans (eO (by have:=hll.o;omega) _))⟩)
   ·refine ⟨_,rfl,.inr ⟨.ret,hrec,?_⟩⟩;rintro W4 hW4 hdf;have q0:Hy (Blk W4 B #[.int .i64 (G k).1] 61):=by rw [hW4];exact p0.putObj zo _
    have q1:Hy (Blk W4 (B+1) #[.int .i64 ((G k).2:Int)] 3):=by rw [hW4];exact p1.putObj zo _
    have hz4:=Hi (HZ.o k _ W4 hz (by rw [hW4];exact eO (by have:=HBs.o;omega) _));have HDF:=Hi hdf;have HA:=Hi (And.intro hk (And.intro hg hlt));have hll:=Hi (show B+1<D/\B=w.heap.size from ⟨by omega,HBs.o⟩);clear hW4 hdf hlt hg hk hz p0 p1 hrec hround hD hl hs hm hR hb1 bl nF;go_wp2_with fail;exact qJ HDF.o q0.o q1.o hll.o.1 (.inr ⟨k,HA.o.1,HA.o.2.1,HA.o.2.2,rfl,HZ.o k _ _ hz4.o (eO (by have:=hll.o;omega) _)⟩)
theorem cE (b:Bool) (e:Int) (w:World):Calls Tryz.prog 77 #[.bool b,.int .i64 e] w λx w'=>x=.returned (.int .i64 (Ck.when b e))/\w=w':=by
 cases b <;> (go_enter Tryz.func77,Tryz.ntmps77;go_wp2;go_ret;exact ⟨rfl,rfl⟩)
theorem eZ (r t:Bool) (w:World):Calls Tryz.prog 28 #[.bool r,.bool t] w λx w'=>x=.returned (.int .i64 (Ck.name r t))/\w=w':=by
 cases r <;> cases t <;> (go_enter Tryz.func28,Tryz.ntmps28;go_wp2;go_ret;exact ⟨rfl,rfl⟩)
theorem and3 (a b c:Bool):a=false∨(a=true/\b=false)∨(a=true/\b=true/\c=false)∨(a=true/\b=true/\c=true):=by cases a <;> cases b <;> cases c <;> simp
theorem and4 (a b c d:Bool):a=false∨(a=true/\b=false)∨(a=true/\b=true/\c=false)∨(a=true/\b=true/\c=true/\d=false)∨(a=true/\b=true/\c=true/\d=true):=by cases a <;> cases b <;> cases c <;> cases d <;> simp
theorem bits (p:Prop) [Decidable p]:∃ b,decide p=b:=⟨_,rfl⟩
theorem lK (x:Int) (w:World):Calls Tryz.prog 93 #[.int .u8 x] w λe w'=>e=.returned (.bool (Ck.gh x))/\w=w':=by
 unfold Ck.gh;obtain ⟨a,ha⟩:=bits ((65:Int)<=x);obtain ⟨b,hb⟩:=bits (x<=(90:Int));obtain ⟨c,hc⟩:=bits ((97:Int)<=x);obtain ⟨d,hd⟩:=bits (x<=(122:Int));simp only [ha,hb,hc,hd];cases a <;> cases b <;> cases c <;> cases d <;> (go_enter Tryz.func93,Tryz.ntmps93;go_wp2;go_ret;exact ⟨rfl,rfl⟩)
theorem iM (u:Int) (g c l fe ax rg fn cv:Hd) (x:Int) (w:World):Calls Tryz.prog 87 #[.agg (af u g c l fe ax rg fn cv),.int .i64 x] w λe w'=>e=.returned (.bool (Ck.bo g.n x))/\Mod [] w w':=by
 obtain ⟨ga,gn,gc⟩:=g;unfold af Ck.bo;simp only;obtain ⟨a,ha⟩:=bits ((0:Int)<=x);obtain ⟨b,hb⟩:=bits (x<(gn:Int));simp only [ha,hb];have T:=Hi (own1 w #[.int .i64 u,.slice ga gn gc,.slice c.a c.n c.c,.slice l.a l.n l.c,.slice fe.a fe.n fe.c,.slice ax.a ax.n ax.c,.slice rg.a rg.n rg.c,.slice fn.a fn.n fn.c,.slice cv.a cv.n cv.c] 32);have c1:=(T.o.at 0 rfl).cell 1;cases a <;> cases b <;> (go_enter Tryz.func87,Tryz.ntmps87;go_wp2;go_ret;exact ⟨rfl,T.o.mod⟩)
theorem Bv (u:Int) (g c l fe ax rg fn cv:Hd) (w:World):Calls Tryz.prog 52 #[.agg (af u g c l fe ax rg fn cv)] w λe w'=>e=.returned (.int .i64 (Ck.mD u g.n))/\Mod [] w w':=by
 obtain ⟨ga,gn,gc⟩:=g;unfold af Ck.mD;simp only;have T:=Hi (own1 w #[.int .i64 u,.slice ga gn gc,.slice c.a c.n c.c,.slice l.a l.n l.c,.slice fe.a fe.n fe.c,.slice ax.a ax.n ax.c,.slice rg.a rg.n rg.c,.slice fn.a fn.n fn.c,.slice cv.a cv.n cv.c] 32);have c0:=(T.o.at 0 rfl).cell 0;have c1:=(T.o.at 0 rfl).cell 1
 by_cases h1:u<16
 ·have k1:=dT (p:=u<(16:Int)) h1;rw [if_pos (.inl h1)];go_enter Tryz.func52,Tryz.ntmps52;go_wp2;go_ret;exact ⟨rfl,T.o.mod⟩
 have k1:=dF (p:=u<(16:Int)) h1
 by_cases h2:(4096:Int)<u
 ·have k2:=dT (p:=(4096:Int)<u) h2;rw [if_pos (.inr h2)];go_enter Tryz.func52,Tryz.ntmps52;go_wp2;go_ret;exact ⟨rfl,T.o.mod⟩
 have k2:=dF (p:=(4096:Int)<u) h2;rw [if_neg zo]
 by_cases h3:gn=0
 ·subst h3;rw [if_pos rfl];go_enter Tryz.func52,Tryz.ntmps52;go_wp2;go_ret;exact ⟨rfl,T.o.mod⟩
 have k3:=dF (p:=(gn:Int)=0) zo;have k4:¬ (gn:Int)=0:=zo;have k5:((gn:Int) == 0)=false:=beq_false_of_ne k4;rw [if_neg h3];go_enter Tryz.func52,Tryz.ntmps52;go_wp2;go_ret;exact ⟨rfl,T.o.mod⟩
theorem BO (u:Int) (g c l fe ax rg fn cv:Hd) (r x:Int) (late:Bool) (w:World):Calls Tryz.prog 59 #[.agg (af u g c l fe ax rg fn cv),.agg #[.int .i64 r,.int .i64 x],.bool late] w λe w'=>e=.returned (.int .i64 (Ck.char g.n ⟨r,x⟩ late))/\Mod [] w w':=by
 have HG:=Hi (λW=>iM u g c l fe ax rg fn cv x W);obtain ⟨ga,gn,gc⟩:=g;unfold af at HG ⊢;unfold Ck.char;simp only at HG ⊢;have T:=Hi (own2 w #[.int .i64 u,.slice ga gn gc,.slice c.a c.n c.c,.slice l.a l.n l.c,.slice fe.a fe.n fe.c,.slice ax.a ax.n ax.c,.slice rg.a rg.n rg.c,.slice fn.a fn.n fn.c,.slice cv.a cv.n cv.c] 32 #[.int .i64 r,.int .i64 x] 37);have a0:=(T.o.at 1 rfl).cell 0;have a1:=(T.o.at 1 rfl).cell 1
 by_cases h1:r<0
 ·have k1:=dT (p:=r<(0:Int)) h1;rw [if_pos (.inl h1)];go_enter Tryz.func59,Tryz.ntmps59;go_wp2;go_ret;exact ⟨rfl,T.o.mod⟩
 have k1:=dF (p:=r<(0:Int)) h1
 by_cases h2:(1114111:Int)<r
 ·have k2:=dT (p:=(1114111:Int)<r) h2;rw [if_pos (.inr h2)];go_enter Tryz.func59,Tryz.ntmps59;go_wp2;go_ret;exact ⟨rfl,T.o.mod⟩
 have k2:=dF (p:=(1114111:Int)<r) h2;rw [if_neg zo];have c0:=(T.o.at 0 rfl).cell 0;have c1:=(T.o.at 0 rfl).cell 1;have c2:=(T.o.at 0 rfl).cell 2;have c3:=(T.o.at 0 rfl).cell 3;have c4:=(T.o.at 0 rfl).cell 4;have c5:=(T.o.at 0 rfl).cell 5;have c6:=(T.o.at 0 rfl).cell 6;have c7:=(T.o.at 0 rfl).cell 7;have c8:=(T.o.at 0 rfl).cell 8;generalize Ck.bo gn x=b at *
 go_enter Tryz.func59,Tryz.ntmps59;go_wp2_with fail;refine (HG.o _).mono ?_;rintro e w1 ⟨rfl,m1⟩;have HM:=Hi (T.o.mod.then m1);clear c0 c1 c2 c3 c4 c5 c6 c7 c8 a0 a1 T m1 HG;cases b
 ·go_wp2;go_ret;exact ⟨rfl,HM.o⟩
 go_wp2_with fail;refine (cE late 24 _).mono ?_;rintro e w2 ⟨rfl,rfl⟩;go_wp2;go_ret;exact ⟨rfl,HM.o⟩
theorem Df (v:Value) (o a:Int) (w:World):Calls Tryz.prog 132 #[v,.agg #[.int .i64 o,.int .i64 a]] w λe w'=>e=.returned (.int .i64 (Ck.ins ⟨o,a⟩))/\Mod [] w w':=by
 unfold Ck.ins;simp only;have T:=Hi (own1 w #[.int .i64 o,.int .i64 a] 48);have a0:=(T.o.at 0 rfl).cell 0;have a1:=(T.o.at 0 rfl).cell 1
 by_cases h1:o<1
 ·have k1:=dT (p:=o<(1:Int)) h1;rw [if_pos (.inl h1)];go_enter Tryz.func132,Tryz.ntmps132;go_wp2;go_ret;exact ⟨rfl,T.o.mod⟩
 have k1:=dF (p:=o<(1:Int)) h1
 by_cases h2:(39:Int)<o
 ·have k2:=dT (p:=(39:Int)<o) h2;rw [if_pos (.inr h2)];go_enter Tryz.func132,Tryz.ntmps132;go_wp2;go_ret;exact ⟨rfl,T.o.mod⟩
 have k2:=dF (p:=(39:Int)<o) h2;rw [if_neg zo]
 by_cases h3:a < -999999999
 ·have k3:=dT (p:=a<(-999999999:Int)) h3;rw [if_pos (.inl h3)];go_enter Tryz.func132,Tryz.ntmps132;go_wp2;go_ret;exact ⟨rfl,T.o.mod⟩
 have k3:=dF (p:=a<(-999999999:Int)) h3
 by_cases h4:(999999999:Int)<a
 ·have k4:=dT (p:=(999999999:Int)<a) h4;rw [if_pos (.inr h4)];go_enter Tryz.func132,Tryz.ntmps132;go_wp2;go_ret;exact ⟨rfl,T.o.mod⟩
 have k4:=dF (p:=(999999999:Int)<a) h4;rw [if_neg zo];go_enter Tryz.func132,Tryz.ntmps132;go_wp2;go_ret;exact ⟨rfl,T.o.mod⟩
theorem zV (v:Value) (s p e:Int) (w:World):Calls Tryz.prog 128 #[v,.agg #[.int .i64 s,.int .i64 p,.int .i64 e]] w λx w'=>x=.returned (.int .i64 (Ck.tent ⟨s,p,e⟩))/\Mod [] w w':=by
 unfold Ck.tent;simp only;have T:=Hi (own1 w #[.int .i64 s,.int .i64 p,.int .i64 e] 81);have a0:=(T.o.at 0 rfl).cell 0;have a1:=(T.o.at 0 rfl).cell 1;have a2:=(T.o.at 0 rfl).cell 2;obtain ⟨b1,h1⟩:=bits ((-64:Int)<=s);obtain ⟨b2,h2⟩:=bits (s<=p);obtain ⟨b3,h3⟩:=bits (p<=e);obtain ⟨b4,h4⟩:=bits (e<=(64:Int));obtain ⟨b5,h5⟩:=bits (s<(0:Int));obtain ⟨b6,h6⟩:=bits ((0:Int)<e);obtain ⟨b7,h7⟩:∃ b,(p != 0)=b:=⟨_,rfl⟩
 simp only [h1,h2,h3,h4,h5,h6,h7];have HW:=Hi (λb W=>cE b 61 W);generalize Ck.when=ff at *
 go_enter Tryz.func128,Tryz.ntmps128;rcases and4 b1 b2 b3 b4 with rfl | ⟨rfl,rfl⟩ | ⟨rfl,rfl,rfl⟩ | ⟨rfl,rfl,rfl,rfl⟩ | ⟨rfl,rfl,rfl,rfl⟩ <;> rcases and3 b5 b6 b7 with rfl | ⟨rfl,rfl⟩ | ⟨rfl,rfl,rfl⟩ | ⟨rfl,rfl,rfl⟩ <;>
  (go_wp2_with fail;refine (HW.o _ _).mono ?_;rintro e w1 ⟨rfl,rfl⟩;go_wp2;go_ret;exact ⟨rfl,T.o.mod⟩)
theorem bL {fn:Nat} {args:Array Value} {W w:World} {v:Int} (h:Calls Tryz.prog fn args w λe w'=>e=.returned (.int .i64 v)/\Mod [] w w') (m:Mod [] W w):Calls Tryz.prog fn args w λe w'=>e=.returned (.int .i64 v)/\Mod [] w w'/\(v=0->Mod [] W w') :=
 h.mono λ_ _ h=>⟨h.1,h.2,λ_=>m.then h.2⟩
theorem bM (W:World):∀ _:Nat,aG (λw=>Mod [] W w):=λ_ _ _ h m=>h.then m
theorem nocaps {a:Array Value}:a ++ #[]=a:=by simp
theorem xE (oa:Option Addr) (n c:Nat) (ts:List gv) (B:Nat) (w:World) (h:Rows 3 iX B w (.slice oa n c) ts) :
  Calls Tryz.prog 127 #[.slice oa n c,.func (.func 128) #[] #[]] w λe w'=>e=.returned (.tuple #[.int .i64 (Ck.each (λ_ t=>Ck.tent t) ts).1,.int .i64 ((Ck.each (λ_ t=>Ck.tent t) ts).2:Int)])/\Mod [] w w' :=
 za (J:=λ_ W=>Mod [] w W) (bM w) (λ_ W m=>h.mod iX.stay m) (λi x cs W _ m hr=>by
  obtain ⟨rfl,-⟩:=hr;rw [nocaps]
  exact bL (zV _ x.start x.peak x.stop W) m) (λa w=>by kernel_rfl) w mR
theorem vK (oa:Option Addr) (n c axes:Nat) (ts:List gv) (B:Nat) (w:World) (h:Rows 3 iX B w (.slice oa n c) ts) :
  Calls Tryz.prog 71 #[.agg #[.slice oa n c],.int .i64 (axes:Int)] w λx w'=>x=.returned (.int .i64 (Ck.region axes ⟨ts⟩))/\Mod [] w w':=by
 obtain ⟨_,_,he,-⟩:=h.form;obtain rfl:n=ts.length:=by cases he;rfl
 unfold Ck.region;simp only;have T:=Hi (own1 w #[.slice oa ts.length c] 79);have HC:=Hi (xE oa _ c ts B _ (h.mod iX.stay T.o.mod));have a0:=(T.o.at 0 rfl).cell 0;clear he h
 by_cases h1:ts.length=axes
 ·subst h1;rw [if_neg zk];go_enter Tryz.func71,Tryz.ntmps71;go_wp2_with fail;refine HC.o.mono ?_;rintro e w1 ⟨rfl,m1⟩;have HM:=Hi (T.o.mod.then m1);clear m1 a0 T HC;go_wp2;go_ret;exact ⟨rfl,HM.o⟩
 have k1:=dF (p:=(ts.length:Int)=(axes:Int)) zo;have k2:¬ (ts.length:Int)=(axes:Int):=zo;have k3:((ts.length:Int) != (axes:Int))=true:=by simp;omega
 rw [if_pos h1];clear h1 HC;go_enter Tryz.func71,Tryz.ntmps71;go_wp2;go_ret;exact ⟨rfl,T.o.mod⟩
theorem mO (oa:Option Addr) (n c:Nat) (l:List bS) (B:Nat) (w:World) (h:Rows 2 jm B w (.slice oa n c) l) :
  Calls Tryz.prog 74 #[.slice oa n c] w λx w'=>x=.returned (.int .i64 (Ck.program l))/\Mod [] w w':=by
 have HR:=Hi h;clear h;unfold Ck.program;go_enter Tryz.func74,Tryz.ntmps74;go_wp2_with fail;refine (Ad oa n c 200 132 #[] w).mono ?_;rintro e w1 ⟨⟨v,rfl,b0,b1,b2,t0,t1,t2,rfl,B0,B1,B2⟩,m1⟩
 have HC:=Hi (Bc (F:=[]) (J:=λ_ W=>Mod [] w1 W) (fn:=132) (caps:=#[]) (f:=λ_ i=>Ck.ins i) (most:=200) (bM w1) (λ_ W m=>(HR.o.mod jm.stay m1).mod jm.stay m) (λi x cs W _ m hr=>by
  obtain ⟨rfl,-⟩:=hr;rw [nocaps]
  exact bL (Df _ x.op x.a W) m) (λa w=>by kernel_rfl) b0 b1 b2 w1 mR ⟨B0.cell 0,B1.cell 0,B2.cell 0⟩)
 have HM:=Hi m1;clear B0 B1 B2 m1 HR;go_wp2_with fail;refine HC.o.mono ?_;rintro e w2 ⟨rfl,m2⟩;have HM2:=Hi (HM.o.then m2);clear m2 HM HC;go_wp2;go_ret;exact ⟨rfl,HM2.o⟩
theorem tM {α:Type} {f:α->Bool} {l:List α} {i:Nat} (hi:i<l.length) (h:(l.take i).all f=true):(l.take (i+1)).all f=f l[i]:=by
 rw [List.take_succ_eq_append_getElem hi,List.all_append,h];simp
theorem qQ {α:Type} {f:α->Bool} {l:List α} {i:Nat} (hi:i<l.length) (h:f l[i]=false):l.all f=false:=by
 rw [List.all_eq_false];exact ⟨l[i],List.getElem_mem hi,by simp [h]⟩
theorem jv (oa:Option Addr) (n c:Nat) (l:List Int) (B:Nat) (w:World) (h:Rows 1 bn B w (.slice oa n c) l) :
  Calls Tryz.prog 78 #[.slice oa n c] w λe w'=>e=.returned (.bool (l.all Ck.may))/\w=w':=by
 obtain ⟨_,_,he,hml⟩:=h.form;obtain rfl:n=l.length:=by cases he;rfl
 clear he;have HML:=Hi (show l.length<=9223372036854775807 from hml);have HR:=Hi h;clear h hml;go_enter Tryz.func78,Tryz.ntmps78;go_wp2_with fail
 go_loopg [7] l.length (λgk v wr=>∃ i:Nat,v=.int .i64 (i:Int)/\Hy (i+gk=l.length)/\wr=w/\Hy ((l.take i).all Ck.may=true))
 case atStart=>exact ⟨0,rfl,by show 0+l.length=l.length;omega,rfl,by simp [Hy]⟩
 case round =>
  obtain ⟨i,rfl,hi,rfl,HE⟩:=hrel
  by_cases hin:i<l.length
  case neg =>
   obtain rfl:i=l.length:=by have:=hi.o;omega
   have k1:=dF (p:=(l.length:Int)<l.length) zo;have hF:=HE.o;rw [List.take_length] at hF;have HF:=Hi hF;clear hF;go_wp2;go_ret;rw [HF.o];exact ⟨rfl,rfl⟩
  have k1:=dT (p:=(i:Int)<l.length) zo;have k2:(0:Int)<=i:=zo;have k3:(i:Int)<l.length:=zo;have k4:=dT (p:=i<l.length) hin;have HN1:=Hi (λh:Ck.may l[i]=false=>qQ hin h);have HN2:=Hi (λh:Ck.may l[i]=true=>(tM hin HE.o).trans h);obtain ⟨a,rfl,-,cs,-,hc0,hcj,rfl,-⟩:=HR.o.at i hin;generalize l[i]=x at *
  have c0:=hc0 zd;simp only [Nat.mul_one,gZ] at c0;have ei:IntKind.i64.wrap ((i:Int)+1)=(i:Int)+1:=IntWalk.i64_in _ zqh;clear hc0 hcj hin
  by_cases h1:x < -16384
  ·have z1:=dT (p:=x<(-16384:Int)) h1;have HX:=Hi (HN1.o (by unfold Ck.may;rw [dF zo];rfl));go_wp2;go_ret;rw [HX.o];exact ⟨rfl,rfl⟩
  have z1:=dF (p:=x<(-16384:Int)) h1
  by_cases h2:(16384:Int)<x
  ·have z2:=dT (p:=(16384:Int)<x) h2;have HX:=Hi (HN1.o (by unfold Ck.may;rw [dF (p:=x<=16384) zo,Bool.and_false]));go_wp2;go_ret;rw [HX.o];exact ⟨rfl,rfl⟩
  have z2:=dF (p:=(16384:Int)<x) h2;have HE2:=Hi (HN2.o (by unfold Ck.may;rw [dT zo,dT zo];rfl));clear h1 h2 HN1 HN2 HE;go_wp2;go_roundg (gk - 1)
  case measure=>have:=hi.o;omega
  case rel=>exact ⟨i+1,by rw [Int.natCast_add];rfl,by have:=hi.o;show i+1+(gk - 1)=l.length;omega,rfl,HE2.o⟩
theorem oO (x:Int) (w:World):Calls Tryz.prog 172 #[.int .i64 x] w λe w'=>e=.returned (.bool (Ck.may x))/\w=w':=by
 unfold Ck.may;obtain ⟨a,ha⟩:=bits ((-16384:Int)<=x);obtain ⟨b,hb⟩:=bits (x<=(16384:Int));simp only [ha,hb];cases a <;> cases b <;> (go_enter Tryz.func172,Tryz.ntmps172;go_wp2;go_ret;exact ⟨rfl,rfl⟩)
theorem Ck.zP {f:Nat->UInt8->Bool} {l:List UInt8} {i:Nat} (hi:i<l.length) (h:f i l[i]=true):Ck.eM f i (l.drop i)=Ck.eM f (i+1) (l.drop (i+1)):=by
 rw [List.drop_eq_getElem_cons hi];conv=>lhs;unfold Ck.eM
 rw [h];rfl
theorem Ck.tL {f:Nat->UInt8->Bool} {l:List UInt8} {i:Nat} (hi:i<l.length) (h:f i l[i]=false):Ck.eM f i (l.drop i)=false:=by
 rw [List.drop_eq_getElem_cons hi];unfold Ck.eM;rw [h];rfl
theorem kA (s:ByteArray) (hs:s.size<=maxLen) (w:World):Calls Tryz.prog 65 #[.string s] w λe w'=>e=.returned (.bool (Ck.br s))/\w=w':=by
 unfold Ck.br
 by_cases h1:(s.size:Int)<1
 ·have k1:=dT (p:=(s.size:Int)<(1:Int)) h1;rw [dF (p:=1<=s.size) zo];go_enter Tryz.func65,Tryz.ntmps65;go_wp2;go_ret;exact ⟨rfl,rfl⟩
 have k1:=dF (p:=(s.size:Int)<(1:Int)) h1
 by_cases h2:(8:Int)<s.size
 ·have k2:=dT (p:=(8:Int)<s.size) h2;rw [dF (p:=s.size<=8) zo,Bool.and_false,Bool.false_and];go_enter Tryz.func65,Tryz.ntmps65;go_wp2;go_ret;exact ⟨rfl,rfl⟩
 have k2:=dF (p:=(8:Int)<s.size) h2;rw [dT (p:=1<=s.size) zo,dT (p:=s.size<=8) zo];have HS:=Hi (show s.size<=8 by omega);have HLN:=Hi (show s.data.toList.length=s.size from rfl);clear h1 h2 hs;go_enter Tryz.func65,Tryz.ntmps65;go_wp2_with fail
 go_loopg [14] s.size (λgk v wr=>∃ i:Nat,v=.int .i64 (i:Int)/\Hy (i+gk=s.size)/\wr=w/\Hy (Ck.eM (λ_ c=>Ck.letter c) 0 s.data.toList=Ck.eM (λ_ c=>Ck.letter c) i (s.data.toList.drop i)))
 case atStart=>exact ⟨0,rfl,by show 0+s.size=s.size;omega,rfl,rfl⟩
 case round =>
  obtain ⟨i,rfl,hi,rfl,HE⟩:=hrel
  by_cases hin:i<s.size
  case neg =>
   obtain rfl:i=s.size:=by have:=hi.o;omega
   have k3:=dF (p:=(s.size:Int)<s.size) zo;have hF:=HE.o
   conv at hF=>rhs;rw [<- HLN.o,List.drop_length]
   have HF:=Hi hF;clear hF;go_wp2;go_ret;rw [HF.o];exact ⟨rfl,rfl⟩
  have k3:=dT (p:=(i:Int)<s.size) zo;have k4:(0:Int)<=i:=zo;have k5:(i:Int)<s.size:=zo;have ei:IntKind.i64.wrap ((i:Int)+1)=(i:Int)+1:=IntWalk.i64_in _ (by have:=HS.o;omega);have HN1:=Hi (λh:Ck.gh (s[i].toNat:Int)=false=>HE.o.trans (Ck.tL (f:=λ_ c=>Ck.letter c) (show i<s.data.toList.length from hin) h));have HN2:=Hi (λh:Ck.gh (s[i].toNat:Int)=true=>HE.o.trans (Ck.zP (f:=λ_ c=>Ck.letter c) (show i<s.data.toList.length from hin) h));go_upto_region 6 with fail;go_wp2_with fail;refine (lK _ _).mono ?_;rintro e w1 ⟨rfl,rfl⟩;generalize Ck.gh (s[i].toNat:Int)=b at *
  cases b
  ·have HX:=Hi (HN1.o rfl);clear HN1 HN2 HE;go_wp2;go_ret;rw [HX.o];exact ⟨rfl,rfl⟩
  have HX:=Hi (HN2.o rfl);clear HN1 HN2 HE;go_wp2;go_roundg (gk - 1)
  case measure=>have:=hi.o;omega
  case rel=>exact ⟨i+1,by rw [Int.natCast_add];rfl,by have:=hi.o;show i+1+(gk - 1)=s.size;omega,rfl,HX.o⟩
theorem kP (s:ByteArray) (hs:s.size<=maxLen) (w:World):Calls Tryz.prog 29 #[.string s] w λe w'=>e=.returned (.bool (Ck.bZ s))/\w=w':=by
 unfold Ck.bZ
 by_cases h1:(s.size:Int)<1
 ·have k1:=dT (p:=(s.size:Int)<(1:Int)) h1;rw [dF (p:=1<=s.size) zo];go_enter Tryz.func29,Tryz.ntmps29;go_wp2;go_ret;exact ⟨rfl,rfl⟩
 have k1:=dF (p:=(s.size:Int)<(1:Int)) h1
 by_cases h2:(16:Int)<s.size
 ·have k2:=dT (p:=(16:Int)<s.size) h2;rw [dF (p:=s.size<=16) zo,Bool.and_false,Bool.false_and];go_enter Tryz.func29,Tryz.ntmps29;go_wp2;go_ret;exact ⟨rfl,rfl⟩
 have k2:=dF (p:=(16:Int)<s.size) h2;rw [dT (p:=1<=s.size) zo,dT (p:=s.size<=16) zo];have HS:=Hi (show s.size<=16 by omega);have HLN:=Hi (show s.data.toList.length=s.size from rfl);clear h1 h2 hs;go_enter Tryz.func29,Tryz.ntmps29;go_wp2_with fail
 go_loopg [17] s.size (λgk v wr=>∃ i:Nat,v=.int .i64 (i:Int)/\Hy (i+gk=s.size)/\wr=w/\Hy (Ck.eM Ck.nameAt 0 s.data.toList=Ck.eM Ck.nameAt i (s.data.toList.drop i)))
 case atStart=>exact ⟨0,rfl,by show 0+s.size=s.size;omega,rfl,rfl⟩
 case round =>
  obtain ⟨i,rfl,hi,rfl,HE⟩:=hrel
  by_cases hin:i<s.size
  case neg =>
   obtain rfl:i=s.size:=by have:=hi.o;omega
   have k3:=dF (p:=(s.size:Int)<s.size) zo;have hF:=HE.o
   conv at hF=>rhs;rw [<- HLN.o,List.drop_length]
   have HF:=Hi hF;clear hF;go_wp2;go_ret;rw [HF.o];exact ⟨rfl,rfl⟩
  have k3:=dT (p:=(i:Int)<s.size) zo;have k4:(0:Int)<=i:=zo;have k5:(i:Int)<s.size:=zo;have ei:IntKind.i64.wrap ((i:Int)+1)=(i:Int)+1:=IntWalk.i64_in _ (by have:=HS.o;omega);have HN1:=Hi (λh:Ck.nN i (s[i].toNat:Int)=false=>HE.o.trans (Ck.tL (f:=Ck.nameAt) (show i<s.data.toList.length from hin) h));have HN2:=Hi (λh:Ck.nN i (s[i].toNat:Int)=true=>HE.o.trans (Ck.zP (f:=Ck.nameAt) (show i<s.data.toList.length from hin) h));go_upto_region 7 with fail;generalize hx:(s[i].toNat:Int)=x at *
  clear hx hin;go_wp2_with fail;refine (lK _ _).mono ?_;rintro e w1 ⟨rfl,rfl⟩;obtain ⟨b1,h1⟩:∃ b,Ck.gh x=b:=⟨_,rfl⟩
  obtain ⟨b2,h2⟩:∃ b,(x == 95)=b:=⟨_,rfl⟩
  obtain ⟨b3,h3⟩:∃ b,(x == 46)=b:=⟨_,rfl⟩
  obtain ⟨b4,h4'⟩:∃ b,decide (0<i)=b:=⟨_,rfl⟩
  have h4:decide ((0:Int)<i)=b4:=by rw [<- h4'];simp
  obtain ⟨b5,h5⟩:=bits ((48:Int)<=x);obtain ⟨b6,h6⟩:=bits (x<=(57:Int));obtain ⟨b7,h7⟩:∃ b,(x == 45)=b:=⟨_,rfl⟩
  obtain ⟨N,hN⟩:∃ N,Ck.nN i x=N:=⟨_,rfl⟩
  rw [hN] at HN1 HN2;unfold Ck.nN at hN;rw [h1,h2,h3,h4',h5,h6,h7] at hN;have g2:decide (x=95)=b2:=by rw [<- h2];rfl
  have g3:decide (x=46)=b3:=by rw [<- h3];rfl
  have g7:decide (x=45)=b7:=by rw [<- h7];rfl
  rw [h1];clear h1 HE;cases N with
  | false =>
   have HX:=Hi (HN1.o rfl);clear HN1 HN2;simp only [Bool.or_eq_false_iff] at hN;obtain ⟨⟨⟨rfl,rfl⟩,rfl⟩,hN⟩:=hN;have hN:b4=false∨(b4=true/\b5=false/\b7=false)∨(b4=true/\b5=true/\b6=false/\b7=false):=by revert hN;cases b4 <;> cases b5 <;> cases b6 <;> cases b7 <;> simp
   rcases hN with rfl | ⟨rfl,rfl,rfl⟩ | ⟨rfl,rfl,rfl,rfl⟩ <;> (go_wp2;go_ret;rw [HX.o];exact ⟨rfl,rfl⟩)
  | true =>
   have HX:=Hi (HN2.o rfl);clear HN1 HN2;have hF:(b4=false)∨(b4=true/\b5=true/\b6=true)∨(b4=true/\b5=false)∨(b4=true/\b5=true/\b6=false):=by cases b4 <;> cases b5 <;> cases b6 <;> simp
   have hB:b1=true∨(b1=false/\b2=true)∨(b1=false/\b2=false):=by cases b1 <;> cases b2 <;> simp
   rcases hB with rfl | ⟨rfl,rfl⟩ | ⟨rfl,rfl⟩ <;> rcases hF with rfl | ⟨rfl,rfl,rfl⟩ | ⟨rfl,rfl⟩ | ⟨rfl,rfl,rfl⟩ <;> cases b3 <;> cases b7 <;> first | (exfalso;simp at hN;done) | skip
   all_goals
    clear hN
    go_wp2
    go_roundg (gk - 1)
    case measure=>have:=hi.o;omega
    case rel=>exact ⟨i+1,by rw [Int.natCast_add];rfl,by have:=hi.o;show i+1+(gk - 1)=s.size;omega,rfl,HX.o⟩
theorem fB {w:World} {b t:Nat} {l:List Int} (h:Blk w b (l.map (Value.int .i64)).toArray t) (hm:l.length<=maxLen) (hI:∀ x∈l,I64 x):Rows 1 bn 0 w (.slice (some ⟨b,0,none⟩) l.length l.length) l:=by
 refine ⟨_,_,rfl,hm,λi hi=>⟨_,rfl,Nat.zero_le _,[.int .i64 l[i]],rfl,λj hj=>?_,rfl,hI _ (List.getElem_mem hi)⟩⟩;obtain rfl:j=0:=Nat.lt_one_iff.1 hj;have e1:((⟨b,0,none⟩:Addr).add (i*1)).add 0=⟨b,i,none⟩:=by
  unfold Addr.add;simp;omega
 rw [e1,h.cell];simp [hi]
theorem yu (v:Value) (x y:Int) (on:Bool) (hx:I64 x) (hy:I64 y) (w:World):Calls Tryz.prog 137 #[v,.agg #[.int .i64 x,.int .i64 y,.bool on]] w λe w'=>e=.returned (.int .i64 (Ck.point ⟨x,y,on⟩))/\Mod [] w w':=by
 have T:=Hi (own2 w #[.int .i64 x,.int .i64 y,.bool on] 97 #[.int .i64 x,.int .i64 y] 3);have HR:=Hi (fB (l:=[x,y]) (T.o.at 1 rfl) (show 2<=maxLen by decide) (by simp [hx,hy]));have a0:=(own1 w #[.int .i64 x,.int .i64 y,.bool on] 97).at 0 rfl;have c0:=a0.cell 0;have c1:=a0.cell 1;clear a0 hx hy;go_enter Tryz.func137,Tryz.ntmps137;go_wp2_with fail;refine (jv _ _ _ [x,y] 0 _ HR.o).mono ?_;rintro e w1 ⟨rfl,rfl⟩;clear c0 c1 HR;go_wp2_with fail;refine (cE _ 30 _).mono ?_;rintro e w2 ⟨rfl,rfl⟩;go_wp2;go_ret;exact ⟨by unfold Ck.point;simp,T.o.mod⟩
def Ck.ptB (p:bV):Bool:=Ck.may p.x && Ck.may p.y
theorem Ck.rC {n:Nat} {last:Int} {l:List Int} {i:Nat} (hi:i<l.length) (h1:¬ (n:Int)<=l[i]) (h2:¬ l[i]<last+2):Ck.bN n last (l.drop i)=Ck.bN n l[i] (l.drop (i+1)):=by
 rw [List.drop_eq_getElem_cons hi];conv=>lhs;unfold Ck.bN
 rw [dF h1,dF h2];rfl
theorem Ck.yZ {n:Nat} {last:Int} {l:List Int} {i:Nat} (hi:i<l.length) (h:(n:Int)<=l[i]∨l[i]<last+2):Ck.bN n last (l.drop i)=false:=by
 rw [List.drop_eq_getElem_cons hi];unfold Ck.bN;rcases h with h | h
 ·rw [dT h];rfl
 ·rw [dT h,Bool.or_true];rfl
theorem vS (oa oe:Option Addr) (n c m d:Nat) (pts:List bV) (ends:List Int) (B:Nat) (w:World) (h:Rows 3 eH B w (.slice oa n c) pts) (he:Rows 1 bn B w (.slice oe m d) ends) :
  Calls Tryz.prog 138 #[.agg #[.slice oa n c,.slice oe m d]] w λe w'=>e=.returned (.bool (Ck.contours pts ends))/\Mod [] w w':=by
 obtain ⟨_,_,hq,hml⟩:=h.form;obtain rfl:n=pts.length:=by cases hq;rfl
 clear hq;obtain ⟨_,_,hq,hme⟩:=he.form;obtain rfl:m=ends.length:=by cases hq;rfl
 clear hq;unfold Ck.contours;have T:=Hi (own1 w #[.slice oa pts.length c,.slice oe ends.length d] 40);have c0:=(T.o.at 0 rfl).cell 0;have c1:=(T.o.at 0 rfl).cell 1
 by_cases h1:(200:Int)<pts.length
 ·have k1:=dT (p:=(200:Int)<pts.length) h1;rw [dT (p:=200<pts.length) zo];go_enter Tryz.func138,Tryz.ntmps138;go_wp2;go_ret;exact ⟨rfl,T.o.mod⟩
 have k1:=dF (p:=(200:Int)<pts.length) h1
 by_cases h2:(40:Int)<ends.length
 ·have k2:=dT (p:=(40:Int)<ends.length) h2;rw [dT (p:=40<ends.length) zo,Bool.or_true];go_enter Tryz.func138,Tryz.ntmps138;go_wp2;go_ret;exact ⟨rfl,T.o.mod⟩
 have k2:=dF (p:=(40:Int)<ends.length) h2;rw [dF (p:=200<pts.length) zo,dF (p:=40<ends.length) zo];have HB:=Hi (show pts.length<=200/\ends.length<=40 by omega);have HP:=Hi h;have HE:=Hi he;clear h1 h2 h he hml hme;have HV:=Hi (show (!(false || false) && (pts.all λp=>Ck.may p.x && Ck.may p.y) && Ck.bN pts.length (-1) ends)=(pts.all Ck.ptB && Ck.bN pts.length (-1) ends) from rfl);rw [HV.o];clear HV;go_enter Tryz.func138,Tryz.ntmps138;go_wp2_with fail
 go_loopg [21] pts.length (λgk v wr=>∃ i:Nat,v=.int .i64 (i:Int)/\Hy (i+gk=pts.length)/\Hy (Own w wr [(w.heap.size,#[.slice oa pts.length c,.slice oe ends.length d],40)])/\Hy ((pts.take i).all Ck.ptB=true))
 case atStart=>exact ⟨0,rfl,by show 0+pts.length=pts.length;omega,T.o,by simp [Hy]⟩
 case round =>
  obtain ⟨i,rfl,hi,HT,HZ⟩:=hrel;clear T c0 c1
  by_cases hin:i<pts.length
  case neg =>
   obtain rfl:i=pts.length:=by have:=hi.o;omega
   have k3:=dF (p:=(pts.length:Int)<pts.length) zo;have hF:=HZ.o;rw [List.take_length] at hF;have HF:=Hi hF;have c0:=(HT.o.at 0 rfl).cell 0;have c1:=(HT.o.at 0 rfl).cell 1;clear hF HZ hin hi;go_wp2_with fail
   go_loopg [5,39] ends.length (λgk v u wx=>∃ (j:Nat) (last:Int),v=.int .i64 last/\u=.int .i64 (j:Int)/\Hy (j+gk=ends.length)/\wx=wr/\Hy (-1<=last/\last<=200)/\Hy (Ck.bN pts.length (-1) ends=Ck.bN pts.length last (ends.drop j)))
   case atStart=>exact ⟨0,-1,rfl,rfl,by show 0+ends.length=ends.length;omega,rfl,by simp [Hy],rfl⟩
   case round =>
    obtain ⟨j,last,rfl,rfl,hj,rfl,HL,HX⟩:=hrel;have e1:IntKind.i64.wrap ((pts.length:Int) - 1)=(pts.length:Int) - 1:=IntWalk.i64_in _ (by have:=HB.o;omega)
    by_cases hjn:j<ends.length
    case neg =>
     obtain rfl:j=ends.length:=by have:=hj.o;omega
     have k4:=dF (p:=(ends.length:Int)<ends.length) zo;have hG:=HX.o;rw [List.drop_length] at hG;rw [show Ck.bN pts.length last []=(last == (pts.length:Int) - 1) from rfl] at hG;obtain ⟨b,hb⟩:∃ b,(last == (pts.length:Int) - 1)=b:=⟨_,rfl⟩
     rw [hb] at hG;have hb2:decide (last=(pts.length:Int) - 1)=b:=by rw [<- hb];rfl
     have HG:=Hi hG;clear hG HX hjn;go_wp2;go_ret;rw [HF.o,HG.o];exact ⟨rfl,HT.o.mod⟩
    have k4:=dT (p:=(j:Int)<ends.length) zo;have k5:(0:Int)<=j:=zo;have k6:(j:Int)<ends.length:=zo;have k7:=dT (p:=j<ends.length) hjn;have HN1:=Hi (λh=>HX.o.trans (Ck.yZ (n:=pts.length) (last:=last) hjn h));have HN2:=Hi (λh h'=>HX.o.trans (Ck.rC (n:=pts.length) (last:=last) hjn h h'));obtain ⟨a,rfl,-,cs,-,hc0,hcj,rfl,-⟩:=(HE.o.mod bn.stay HT.o.mod).at j hjn;generalize ends[j]=x at *
    have d0:=hc0 zd;simp only [Nat.mul_one,gZ] at d0;have ei:IntKind.i64.wrap ((j:Int)+1)=(j:Int)+1:=IntWalk.i64_in _ (by have:=HB.o;omega);have el:IntKind.i64.wrap (last+2)=last+2:=IntWalk.i64_in _ zqc;clear hc0 hcj hjn
    by_cases h1:(pts.length:Int)<=x
    ·have z1:=dT (p:=(pts.length:Int)<=x) h1;have HG:=Hi (HN1.o (.inl h1));clear h1 HN1 HN2 HX;go_wp2;go_ret;rw [HF.o,HG.o];exact ⟨rfl,HT.o.mod⟩
    have z1:=dF (p:=(pts.length:Int)<=x) h1
    by_cases h2:x<last+2
    ·have z2:=dT (p:=x<last+2) h2;have HG:=Hi (HN1.o (.inr h2));clear h1 h2 HN1 HN2 HX;go_wp2;go_ret;rw [HF.o,HG.o];exact ⟨rfl,HT.o.mod⟩
    have z2:=dF (p:=x<last+2) h2;have HG:=Hi (HN2.o h1 h2);have HL2:Hy (-1<=x/\x<=200):=by have:=HL.o;have:=HB.o;exact ⟨by omega,by omega⟩
    clear h1 h2 HN1 HN2 HX;go_wp2;go_roundg (gk - 1)
    case measure=>have:=hj.o;omega
    case rel=>exact ⟨j+1,x,rfl,by rw [Int.natCast_add];rfl,by have:=hj.o;show j+1+(gk - 1)=ends.length;omega,rfl,HL2.o,HG.o⟩
  have k3:=dT (p:=(i:Int)<pts.length) zo;have k4:(0:Int)<=i:=zo;have k5:(i:Int)<pts.length:=zo;have k6:=dT (p:=i<pts.length) hin;have HN1:=Hi (λh:(Ck.may pts[i].x && Ck.may pts[i].y)=false=>qQ (f:=Ck.ptB) hin h);have HN2:=Hi (λh:(Ck.may pts[i].x && Ck.may pts[i].y)=true=>(tM (f:=Ck.ptB) hin HZ.o).trans h);obtain ⟨a,rfl,-,cs,-,hc0,hcj,rfl,-⟩:=(HP.o.mod eH.stay HT.o.mod).at i hin;generalize pts[i]=p at *
  have d0:=hc0 zd;have d1:=hcj 1 zd zd;have d2:=hcj 2 zd zd;simp only [gZ,gS] at d0 d1 d2;have ei:IntKind.i64.wrap ((i:Int)+1)=(i:Int)+1:=IntWalk.i64_in _ (by have:=HB.o;omega);clear hc0 hcj hin;have HA:=Hi (Blk.new wr #[.int .i64 p.x,.int .i64 p.y,.bool p.on] 97);have HT2:=Hi (HT.o.call (mR.alloc (.cells #[.int .i64 p.x,.int .i64 p.y,.bool p.on] 97)));go_upto_region 6 with fail;generalize wr.alloc (.cells #[.int .i64 p.x,.int .i64 p.y,.bool p.on] 97)=w1 at *
  generalize wr.heap.size=pb at *
  have q0:=HA.o.cell 0;have q1:=HA.o.cell 1;clear d0 d1 d2;go_wp2_with fail;refine (oO _ _).mono ?_;rintro e w2 ⟨rfl,rfl⟩;generalize Ck.may p.x=bx at *
  cases bx
  ·have HG:=Hi (HN1.o rfl);clear HN1 HN2;go_wp2;go_ret;rw [HG.o];exact ⟨rfl,HT2.o.mod⟩
  go_wp2_with fail;refine (oO _ _).mono ?_;rintro e w3 ⟨rfl,rfl⟩;generalize Ck.may p.y=by' at *
  cases by'
  ·have HG:=Hi (HN1.o rfl);clear HN1 HN2;go_wp2;go_ret;rw [HG.o];exact ⟨rfl,HT2.o.mod⟩
  have HG:=Hi (HN2.o rfl);clear HN1 HN2 HZ q0 q1;go_wp2;go_roundg (gk - 1)
  case measure=>have:=hi.o;omega
  case rel=>exact ⟨i+1,by rw [Int.natCast_add];rfl,by have:=hi.o;show i+1+(gk - 1)=pts.length;omega,HT2.o,HG.o⟩
theorem vM (oa:Option Addr) (n c:Nat) (l:List bV) (B:Nat) (w:World) (h:Rows 3 eH B w (.slice oa n c) l) :
  Calls Tryz.prog 136 #[.slice oa n c,.func (.func 137) #[] #[]] w λe w'=>e=.returned (.tuple #[.int .i64 (Ck.each (λ_ p=>Ck.point p) l).1,.int .i64 ((Ck.each (λ_ p=>Ck.point p) l).2:Int)])/\Mod [] w w' :=
 wB (J:=λ_ W=>Mod [] w W) (bM w) (λ_ W m=>h.mod eH.stay m) (λi x cs W _ m hr=>by
  obtain ⟨rfl,hx,hy⟩:=hr;rw [nocaps]
  exact bL (yu _ x.x x.y x.on hx hy W) m) (λa w=>by kernel_rfl) w mR
theorem xS (cs:List Value) (g:av) (B:Nat) (w:World) (h:aI B w cs g):Calls Tryz.prog 84 #[.agg cs.toArray] w λe w'=>e=.returned (.int .i64 (Ck.shape g))/\Mod [] w w':=by
 obtain ⟨v3,v4,v5,v6,v7,v8,rfl,-,-,h3,h4,h5,h6,h7,h8⟩:=h;obtain ⟨o3,d3,rfl,-⟩:=h3.form;obtain ⟨o4,d4,rfl,-⟩:=h4.form;obtain ⟨o5,d5,rfl,-⟩:=h5.form;obtain ⟨o6,d6,rfl,-⟩:=h6.form;obtain ⟨o7,d7,rfl,-⟩:=h7.form;obtain ⟨o8,d8,rfl,-⟩:=h8.form;have HP:=Hi h3;have HE:=Hi h4;clear h3 h4 h5 h6 h7 h8;unfold Ck.shape;obtain ⟨nm,adv,mk,pts,ends,parts,anc,del,hint⟩:=g;simp only at HP HE ⊢;have T:=Hi (own1 w #[.string nm,.int .i64 adv,.bool mk,.slice o3 pts.length d3,.slice o4 ends.length d4,.slice o5 parts.length d5,.slice o6 anc.length d6,.slice o7 del.length d7,.slice o8 hint.length d8] 46);have c1:=(T.o.at 0 rfl).cell 1;have c3:=(T.o.at 0 rfl).cell 3;have c4:=(T.o.at 0 rfl).cell 4
 by_cases h1:adv<0
 ·have k1:=dT (p:=adv<(0:Int)) h1;rw [if_pos (.inl h1)];go_enter Tryz.func84,Tryz.ntmps84;go_wp2;go_ret;exact ⟨rfl,T.o.mod⟩
 have k1:=dF (p:=adv<(0:Int)) h1
 by_cases h2:(16384:Int)<adv
 ·have k2:=dT (p:=(16384:Int)<adv) h2;rw [if_pos (.inr h2)];go_enter Tryz.func84,Tryz.ntmps84;go_wp2;go_ret;exact ⟨rfl,T.o.mod⟩
 have k2:=dF (p:=(16384:Int)<adv) h2;rw [if_neg zo]
 by_cases h3:(200:Int)<pts.length
 ·have k3:=dT (p:=(200:Int)<pts.length) h3;rw [if_pos (.inl zo)];go_enter Tryz.func84,Tryz.ntmps84;go_wp2;go_ret;exact ⟨rfl,T.o.mod⟩
 have k3:=dF (p:=(200:Int)<pts.length) h3
 by_cases h4:(40:Int)<ends.length
 ·have k4:=dT (p:=(40:Int)<ends.length) h4;rw [if_pos (.inr zo)];go_enter Tryz.func84,Tryz.ntmps84;go_wp2;go_ret;exact ⟨rfl,T.o.mod⟩
 have k4:=dF (p:=(40:Int)<ends.length) h4;rw [if_neg zo];have HC:=Hi (vM o3 _ d3 pts B _ (HP.o.mod eH.stay T.o.mod));clear h1 h2 h3 h4;generalize hg:Ck.each (λ_ p=>Ck.point p) pts=got at *
 clear hg;obtain ⟨e,k⟩:=got;simp only at HC ⊢
 by_cases hz:e=0
 ·subst hz;rw [if_neg zk];go_enter Tryz.func84,Tryz.ntmps84;go_wp2_with fail;refine HC.o.mono ?_;rintro x w1 ⟨rfl,m1⟩;have HT:=Hi (T.o.call m1);clear c1 c3 c4 T m1 HC;have c3:=(HT.o.at 0 rfl).cell 3;have c4:=(HT.o.at 0 rfl).cell 4;go_wp2_with fail;refine (vS o3 o4 _ d3 _ d4 pts ends B w1 (HP.o.mod eH.stay HT.o.mod) (HE.o.mod bn.stay HT.o.mod)).mono ?_;rintro x w2 ⟨rfl,m2⟩;have HM:=Hi (HT.o.mod.then m2);clear c3 c4 m2 HT;go_wp2_with fail;refine (cE _ 31 _).mono ?_;rintro x w3 ⟨rfl,rfl⟩;go_wp2;go_ret;exact ⟨rfl,HM.o⟩
 rw [if_pos hz];have z1:(e != 0)=true:=by simpa using hz
 have z2:=dF (p:=e=0) hz;have z3:(e == 0)=false:=by simpa using hz
 clear hz;go_enter Tryz.func84,Tryz.ntmps84;go_wp2_with fail;refine HC.o.mono ?_;rintro x w1 ⟨rfl,m1⟩;have HM:=Hi (T.o.mod.then m1);clear c1 c3 c4 T m1 HC;go_wp2;go_ret;exact ⟨rfl,HM.o⟩
theorem BR (nm:ByteArray) (mi df ma e:Int) (h1:I64 mi) (h2:I64 df) (h3:I64 ma) (w:World):Calls Tryz.prog 68 #[.agg #[.string nm,.int .i64 mi,.int .i64 df,.int .i64 ma],.int .i64 e] w λx w'=>x=.returned (.int .i64 (Ck.axis ⟨nm,mi,df,ma⟩ e))/\Mod [] w w':=by
 unfold Ck.axis;simp only;have T1:=own1 w #[.string nm,.int .i64 mi,.int .i64 df,.int .i64 ma] 76;have c1:=(T1.at 0 rfl).cell 1;have c2:=(T1.at 0 rfl).cell 2;have c3:=(T1.at 0 rfl).cell 3;have HM1:=Hi T1.mod;clear T1
 by_cases hz:e=0
 case neg =>
  rw [if_pos hz];have z1:(e != 0)=true:=by simpa using hz
  have z2:=dF (p:=e=0) hz;have z3:(e == 0)=false:=by simpa using hz
  clear hz;go_enter Tryz.func68,Tryz.ntmps68;go_wp2;go_ret;exact ⟨rfl,HM1.o⟩
 subst hz;rw [if_neg zk];have T:=Hi (own2 w #[.string nm,.int .i64 mi,.int .i64 df,.int .i64 ma] 76 #[.int .i64 mi,.int .i64 df,.int .i64 ma] 3);have HR:=Hi (fB (l:=[mi,df,ma]) (T.o.at 1 rfl) (show 3<=maxLen by decide) (by simp [h1,h2,h3]));clear h1 h2 h3;go_enter Tryz.func68,Tryz.ntmps68;go_wp2_with fail;refine (jv _ _ _ [mi,df,ma] 0 _ HR.o).mono ?_;rintro x w1 ⟨rfl,rfl⟩;have d1:=(T.o.at 0 rfl).cell 1;have d2:=(T.o.at 0 rfl).cell 2;have d3:=(T.o.at 0 rfl).cell 3;have HA:=Hi (show [mi,df,ma].all Ck.may=(Ck.may mi && Ck.may df && Ck.may ma) by simp [Bool.and_assoc]);rw [HA.o];clear HA c1 c2 c3 HR;obtain ⟨b1,g1⟩:∃ b,(Ck.may mi && Ck.may df && Ck.may ma)=b:=⟨_,rfl⟩
 rw [g1];obtain ⟨b2,g2⟩:=bits (mi<=df);obtain ⟨b3,g3⟩:=bits (df<=ma);have HV:=Hi (show Ck.when (!((Ck.may mi && Ck.may df && Ck.may ma) && decide (mi<=df) && decide (df<=ma))) 60=Ck.when (!(b1 && b2 && b3)) 60 by rw [g1,g2,g3]);clear g1;rcases and3 b1 b2 b3 with rfl | ⟨rfl,rfl⟩ | ⟨rfl,rfl,rfl⟩ | ⟨rfl,rfl,rfl⟩ <;>
  (go_wp2_with fail;refine (cE _ 60 _).mono ?_;rintro x w2 ⟨rfl,rfl⟩;go_wp2;go_ret;rw [HV.o];exact ⟨rfl,T.o.mod⟩)
theorem neqf (x y:Int):∃ b,(x != y)=b/\decide (x=y)=!b/\(x == y)=!b:=by
 by_cases h:x=y
 ·subst h;exact ⟨false,by simp,by simp,by simp⟩
 ·exact ⟨true,by simp [h],by simp [h],by simp [h]⟩
theorem nneq (n:Nat) (k:Nat):((n:Int) != (k:Int))=(n != k):=by
 rw [Bool.eq_iff_iff];simp;omega
theorem Ao (kind:Int) (cs:List Value) (r:aN) (B:Nat) (w:World) (h:dW B w cs r):Calls Tryz.prog 153 #[.int .i64 kind,.agg cs.toArray] w λe w'=>e=.returned (.int .i64 (Ck.rows kind r))/\Mod [] w w':=by
 obtain ⟨v0,v1,v2,v3,v4,rfl,h0,h1,h2,h3,h4,-⟩:=h;obtain ⟨o0,d0,rfl,-⟩:=h0.form;obtain ⟨o1,d1,rfl,-⟩:=h1.form;obtain ⟨o2,d2,rfl,-⟩:=h2.form;obtain ⟨o3,d3,rfl,-⟩:=h3.form;obtain ⟨o4,d4,rfl,-⟩:=h4.form;clear h0 h1 h2 h3 h4;have T:=Hi (own1 w #[.slice o0 r.back.length d0,.slice o1 r.ins.length d1,.slice o2 r.ahead.length d2,.slice o3 r.o.length d3,.slice o4 r.calls.length d4,.int .i64 r.x] 54);have c0:=(T.o.at 0 rfl).cell 0;have c1:=(T.o.at 0 rfl).cell 1;have c2:=(T.o.at 0 rfl).cell 2;obtain ⟨D,hD⟩:∃ D,Ck.rows kind r=D:=⟨_,rfl⟩
 rw [hD];have HD:=Hi hD;clear hD;unfold Ck.rows at HD;obtain ⟨back,ins,ahead,out,calls,x⟩:=r;simp only at HD c0 c1 c2 T ⊢
 by_cases h1:(6:Int)<back.length
 ·have k1:=dT (p:=(6:Int)<back.length) h1;obtain rfl:(2:Int)=D:=by have:=HD.o;rwa [if_pos (.inl zo)] at this
  go_enter Tryz.func153,Tryz.ntmps153;go_wp2;go_ret;exact ⟨rfl,T.o.mod⟩
 have k1:=dF (p:=(6:Int)<back.length) h1
 by_cases h2:(6:Int)<ins.length
 ·have k2:=dT (p:=(6:Int)<ins.length) h2;obtain rfl:(2:Int)=D:=by have:=HD.o;rwa [if_pos (.inr (.inl zo))] at this
  go_enter Tryz.func153,Tryz.ntmps153;go_wp2;go_ret;exact ⟨rfl,T.o.mod⟩
 have k2:=dF (p:=(6:Int)<ins.length) h2
 by_cases h3:(6:Int)<ahead.length
 ·have k3:=dT (p:=(6:Int)<ahead.length) h3;obtain rfl:(2:Int)=D:=by have:=HD.o;rwa [if_pos (.inr (.inr zo))] at this
  go_enter Tryz.func153,Tryz.ntmps153;go_wp2;go_ret;exact ⟨rfl,T.o.mod⟩
 have k3:=dF (p:=(6:Int)<ahead.length) h3;have HD2:=HD.o;rw [if_neg zo] at HD2;clear HD h1 h2 h3;have HD:=Hi HD2;clear HD2;have HW:=Hi (λb W=>cE b 40 W);obtain ⟨b0,n0,n1,n2⟩:=neqf (ins.length:Int) 0
 by_cases h1:kind=1∨kind=2∨kind=5
 ·have HD2:=HD.o;rw [if_pos h1] at HD2;obtain ⟨b1,m0,m1,m2⟩:=neqf (ins.length:Int) 1;have e1:(ins.length != 1)=b1:=by rw [<- m0];exact (nneq ins.length 1).symm
  rw [e1] at HD2;clear HD;have HD:=Hi HD2;clear HD2;rcases h1 with rfl | rfl | rfl <;>
   (go_enter Tryz.func153,Tryz.ntmps153;go_wp2_with fail;refine (HW.o _ _).mono ?_;rintro e w1 ⟨rfl,rfl⟩;go_wp2;go_ret;exact ⟨by rw [<- HD.o] <;> rfl,T.o.mod⟩)
 have HD2:=HD.o;rw [if_neg h1] at HD2;clear HD;have HD:=Hi HD2;clear HD2;have q1:¬ kind=1:=λh=>h1 (.inl h)
 have q2:¬ kind=2:=λh=>h1 (.inr (.inl h))
 have q5:¬ kind=5:=λh=>h1 (.inr (.inr h))
 clear h1
 by_cases h6:kind=6
 ·subst h6;clear q1 q2 q5;have HD2:=HD.o;rw [if_pos rfl] at HD2;obtain ⟨b1,m0,m1,m2⟩:=neqf (ins.length:Int) 2;have e1:(ins.length != 2)=b1:=by rw [<- m0];exact (nneq ins.length 2).symm
  obtain ⟨b2,g2⟩:=bits ((0:Int)<back.length);obtain ⟨b3,g3⟩:=bits ((0:Int)<ahead.length);have g4:decide (0<back.length)=b2:=by rw [<- g2];simp
  have g5:decide (0<ahead.length)=b3:=by rw [<- g3];simp
  rw [e1,g4,g5] at HD2;clear HD;have HD:=Hi HD2;clear HD2 e1;have hb:b1=true∨(b1=false/\b2=true)∨(b1=false/\b2=false):=by cases b1 <;> cases b2 <;> simp
  rcases hb with rfl | ⟨rfl,rfl⟩ | ⟨rfl,rfl⟩ <;> cases b3 <;>
   (go_enter Tryz.func153,Tryz.ntmps153;go_wp2_with fail;refine (HW.o _ _).mono ?_;rintro e w1 ⟨rfl,rfl⟩;go_wp2;go_ret;exact ⟨by rw [<- HD.o] <;> first | rfl | simp,T.o.mod⟩)
 have HD2:=HD.o;rw [if_neg h6] at HD2;have e1:(ins.length == 0)=!b0:=by have:=nneq ins.length 0;rw [<- n0];simp only [bne] at this ⊢;rw [Bool.not_not];exact (Bool.not_inj this).symm
 rw [e1] at HD2;clear HD;have HD:=Hi HD2;clear HD2 e1;have p1:=dF (p:=kind=1) q1;have p2:=dF (p:=kind=2) q2;have p5:=dF (p:=kind=5) q5;have p6:=dF (p:=kind=6) h6;have r1:(kind == 1)=false:=beq_false_of_ne q1;have r2:(kind == 2)=false:=beq_false_of_ne q2;have r5:(kind == 5)=false:=beq_false_of_ne q5;have r6:(kind == 6)=false:=beq_false_of_ne h6;clear q1 q2 q5 h6;go_enter Tryz.func153,Tryz.ntmps153;go_wp2_with fail;refine (HW.o _ _).mono ?_;rintro e w1 ⟨rfl,rfl⟩;go_wp2;go_ret;exact ⟨by rw [<- HD.o] <;> rfl,T.o.mod⟩
theorem yn {l:List Int} {j:Nat} (h:j+1<l.length):Ck.rising (l.drop j)=(decide (l[j]<l[j+1]) && Ck.rising (l.drop (j+1))):=by
 rw [List.drop_eq_getElem_cons (show j<l.length by omega),List.drop_eq_getElem_cons h];rfl
theorem vG {l:List Int} {j:Nat} (h:l.length<=j+1):Ck.rising (l.drop j)=true:=by
 by_cases hj:j<l.length
 ·rw [List.drop_eq_getElem_cons hj,List.drop_eq_nil_of_le h];rfl
 ·rw [List.drop_eq_nil_of_le zo];rfl
theorem rK (oa:Option Addr) (n c:Nat) (l:List Int) (B:Nat) (w:World) (h:Rows 1 bn B w (.slice oa n c) l) :
  Calls Tryz.prog 174 #[.slice oa n c] w λe w'=>e=.returned (.bool (Ck.rising l))/\Mod [] w w':=by
 obtain ⟨_,_,he,hml⟩:=h.form;obtain rfl:n=l.length:=by cases he;rfl
 clear he;have HML:=Hi (show l.length<=9223372036854775807 from hml);have HR:=Hi h;clear h hml;go_enter Tryz.func174,Tryz.ntmps174;go_wp2_with fail
 go_loopg [3] l.length (λgk v wr=>∃ i j:Nat,v=.int .i64 (i:Int)/\Hy (i=j+1)/\Hy (i+gk=l.length+1)/\Hy (Mod [] w wr)/\Hy (Ck.rising l=Ck.rising (l.drop j)))
 case atStart=>exact ⟨1,0,rfl,rfl,by show 1+l.length=l.length+1;omega,mR,rfl⟩
 case round =>
  obtain ⟨i,j,rfl,hij,hi,HM,HE⟩:=hrel
  by_cases hin:i<l.length
  case neg =>
   have k1:=dF (p:=(i:Int)<l.length) zo;have k2:=dF (p:=i<l.length) hin;have HF:=Hi (HE.o.trans (vG (by have:=hij.o;omega)));clear hin;go_wp2;go_ret;rw [HF.o];exact ⟨rfl,HM.o⟩
  have k1:=dT (p:=(i:Int)<l.length) zo;have k6:=dT (p:=i<l.length) hin;have k2:(0:Int)<=i:=zo;have k3:(i:Int)<l.length:=zo;have hjn:j+1<l.length:=by have:=hij.o;omega
  have k4:(0:Int)<=j:=zo;have k5:(j:Int)<l.length:=zo;have ei:IntKind.i64.wrap ((i:Int)+1)=(i:Int)+1:=IntWalk.i64_in _ zqh;have ej:IntKind.i64.wrap ((i:Int) - 1)=(j:Int):=by rw [show (i:Int) - 1=j by have:=hij.o;omega];exact IntWalk.i64_in _ zqh
  have HG:=Hi (HE.o.trans (yn hjn));have HR2:=Hi (HR.o.mod bn.stay HM.o);obtain ⟨a,rfl,-,cs,-,hc0,hcj,rfl,-⟩:=HR2.o.at i hin;obtain ⟨a2,ha2,-,cs2,-,hd0,hdj,rfl,-⟩:=HR2.o.at j zo;obtain rfl:a=a2:=by injection ha2
  have c0:=hc0 zd;have c1:=hd0 zd;simp only [Nat.mul_one,gZ] at c0 c1;have HX:Hy (l[i]=l[j+1]):=by have:=hij.o;subst this;exact rfl
  generalize hx:l[i]=x at *
  generalize hy:l[j]=y at *
  generalize hz:l[j+1]=z at *
  clear hx hy hz hc0 hcj hd0 hdj hin hjn ha2 HE
  by_cases h1:x<=y
  ·have z1:=dT (p:=x<=y) h1;have HF:=Hi (HG.o.trans (by rw [dF (by have:=HX.o;omega),Bool.false_and]));clear h1;go_upto_region 4 with fail
   go_quiet (fail)
   go_wp2;go_ret;rw [HF.o];exact ⟨rfl,HM.o.drewN _⟩
  have z1:=dF (p:=x<=y) h1;have HE2:=Hi (HG.o.trans (by rw [dT (by have:=HX.o;omega),Bool.true_and]));clear h1 HG;go_upto_region 4 with fail
  go_quiet (fail)
  go_wp2;go_roundg (gk - 1)
  case measure=>have:=hi.o;omega
  case rel=>exact ⟨i+1,j+1,by rw [Int.natCast_add];rfl,by have:=hij.o;show i+1=j+1+1;omega,by have:=hi.o;show i+1+(gk - 1)=l.length+1;omega,HM.o.drewN _,HE2.o⟩
theorem wO (a b c d:Int) (w:World):Calls Tryz.prog 147 #[.agg #[.int .i64 a,.int .i64 b],.agg #[.int .i64 c,.int .i64 d]] w λe w'=>e=.returned (.bool (decide (a<c) || (decide (a=c) && decide (b<d))))/\Mod [] w w':=by
 have T:=Hi (own2 w #[.int .i64 a,.int .i64 b] 191 #[.int .i64 c,.int .i64 d] 191);have c0:=(T.o.at 0 rfl).cell 0;have c1:=(T.o.at 0 rfl).cell 1;have d0:=(T.o.at 1 rfl).cell 0;have d1:=(T.o.at 1 rfl).cell 1;obtain ⟨b1,h1⟩:=bits (a<c);obtain ⟨b2,h2⟩:=bits (a=c);obtain ⟨b3,h3⟩:=bits (b<d);have h4:(a == c)=b2:=by rw [<- h2];rfl
 simp only [h1,h2,h3];cases b1 <;> cases b2 <;> cases b3 <;> (go_enter Tryz.func147,Tryz.ntmps147;go_wp2;go_ret;exact ⟨rfl,T.o.mod⟩)
theorem Ck.wF {n:Nat} (hn:0<n) {rg r0 pt p0:Int} (hne:¬ (rg=r0/\pt=p0)) :
  (if 0<n/\(rg<r0∨rg=r0/\pt<=p0) then (24:Int) else 0)=if (decide (rg<r0) || (decide (rg=r0) && decide (pt<p0)))=true then 24 else 0:=by
 have h:(0<n/\(rg<r0∨rg=r0/\pt<=p0))↔(decide (rg<r0) || (decide (rg=r0) && decide (pt<p0)))=true:=by
  simp only [Bool.or_eq_true,Bool.and_eq_true,decide_eq_true_eq];omega
 by_cases c:0<n/\(rg<r0∨rg=r0/\pt<=p0)
 ·rw [if_pos c,if_pos (h.1 c)]
 ·rw [if_neg c,if_neg λk=>c (h.2 k)]
theorem wG (n regions points:Nat) (rg pt x y r0 p0:Int) (b2 b3 b4:Nat) (w:World) (hx:I64 x) (hy:I64 y) (h2:w.cell? ⟨b2,0,none⟩=some (.int .i64 (regions:Int))) (h3:w.cell? ⟨b3,0,none⟩=some (.int .i64 (points:Int)))
  (h4:Blk w b4 #[.int .i64 r0,.int .i64 p0] 191) :
  Calls Tryz.prog 146 #[.int .i64 (n:Int),.agg #[.int .i64 rg,.int .i64 pt,.int .i64 x,.int .i64 y],.pointer (some ⟨b2,0,none⟩),.pointer (some ⟨b3,0,none⟩),.pointer (some ⟨b4,0,none⟩)] w λe w' =>
   e=.returned (.int .i64 (Ck.delta regions points n (r0,p0) ⟨rg,pt,x,y⟩))/\Mod [b4] w w'/\(Ck.delta regions points n (r0,p0) ⟨rg,pt,x,y⟩=0->Blk w' b4 #[.int .i64 rg,.int .i64 pt] 191):=by
 have T:=Hi (own2 w #[.int .i64 rg,.int .i64 pt,.int .i64 x,.int .i64 y] 147 #[.int .i64 rg,.int .i64 pt] 191);obtain ⟨D,hD⟩:∃ D,Ck.delta regions points n (r0,p0) ⟨rg,pt,x,y⟩=D:=⟨_,rfl⟩
 rw [hD];have HD:=Hi hD;have H2:=Hi h2;have H3:=Hi h3;have H4:=Hi h4;have HXY:=Hi (And.intro hx hy);clear hD h2 h3 h4 hx hy;unfold Ck.delta at HD;simp only at HD;go_enter Tryz.func146,Tryz.ntmps146;go_upto_region 2 with fail;have al:=T.o.mod;have e2:=aj al H2.o;have e3:=aj al H3.o;have HB:=Hi (H4.o.kept al zk);have HBL:=Hi H4.o.lt;clear al H2 H3 H4;generalize (w.alloc (.cells #[.int .i64 rg,.int .i64 pt,.int .i64 x,.int .i64 y] 147)).alloc (.cells #[.int .i64 rg,.int .i64 pt] 191)=W0 at *
 have d0:=(T.o.at 0 rfl).cell 0;have d1:=(T.o.at 0 rfl).cell 1;have d2:=(T.o.at 0 rfl).cell 2;have d3:=(T.o.at 0 rfl).cell 3;simp only [gA,gZ,gS] at d0 d1 d2 d3
 by_cases h1:rg<0
 ·have k1:=dT (p:=rg<(0:Int)) h1;obtain rfl:(61:Int)=D:=by have:=HD.o;rwa [if_pos (.inl h1)] at this
  go_wp2;go_ret;first | exact ⟨rfl,T.o.mod.more zk,λh=>absurd h zd⟩ | exact ⟨rfl,T.o.mod.more zk⟩
 have k1:=dF (p:=rg<(0:Int)) h1
 by_cases h2:(regions:Int)<=rg
 ·have k2:=dT (p:=(regions:Int)<=rg) h2;obtain rfl:(61:Int)=D:=by have:=HD.o;rwa [if_pos (.inr h2)] at this
  go_wp2;go_ret;first | exact ⟨rfl,T.o.mod.more zk,λh=>absurd h zd⟩ | exact ⟨rfl,T.o.mod.more zk⟩
 have k2:=dF (p:=(regions:Int)<=rg) h2;have HD2:=HD.o;rw [if_neg zo] at HD2;have HD:=Hi HD2;clear HD2
 by_cases h3:pt < -1
 ·have k3:=dT (p:=pt<(-1:Int)) h3;obtain rfl:(30:Int)=D:=by have:=HD.o;rwa [if_pos (.inl h3)] at this
  clear h1 h2 h3;go_wp2;go_ret;first | exact ⟨rfl,T.o.mod.more zk,λh=>absurd h zd⟩ | exact ⟨rfl,T.o.mod.more zk⟩
 have k3:=dF (p:=pt<(-1:Int)) h3
 by_cases h4:(points:Int)<=pt
 ·have k4:=dT (p:=(points:Int)<=pt) h4;obtain rfl:(30:Int)=D:=by have:=HD.o;rwa [if_pos (.inr (.inl h4))] at this
  clear h1 h2 h3 h4;go_wp2;go_ret;first | exact ⟨rfl,T.o.mod.more zk,λh=>absurd h zd⟩ | exact ⟨rfl,T.o.mod.more zk⟩
 have k4:=dF (p:=(points:Int)<=pt) h4;have HP:=Hi (And.intro h3 h4);clear h1 h2 h3 h4;go_upto_region 5 with fail;have HT2:=Hi (T.o.alloc #[.int .i64 x,.int .i64 y] 3);go_wp2_with fail;refine (jv _ _ _ [x,y] 0 _ (fB (l:=[x,y]) (HT2.o.at 2 rfl) (show 2<=maxLen by decide) (by simp [HXY.o.1,HXY.o.2]))).mono ?_;rintro e w1 ⟨rfl,rfl⟩;have HB2:=Hi (HB.o.kept ((Mod.refl [] W0).alloc (.cells #[.int .i64 x,.int .i64 y] 3)) zk);have HA:=Hi (show [x,y].all Ck.may=(Ck.may x && Ck.may y) by simp);rw [HA.o];clear d0 d1 d2 d3 HA T HB e2 e3;generalize W0.alloc (.cells #[.int .i64 x,.int .i64 y] 3)=W1 at *
 generalize (Ck.may x && Ck.may y)=bm at *
 have d1:=(HT2.o.at 0 rfl).cell 1;have d3:=(HT2.o.at 0 rfl).cell 3;have s0:=(HT2.o.at 1 rfl).cell 0;have s1:=(HT2.o.at 1 rfl).cell 1;simp only [gA,gZ,gS] at d1 d3 s0 s1;cases bm
 ·obtain rfl:(30:Int)=D:=by have:=HD.o;rwa [if_pos (.inr (.inr (.inl rfl)))] at this
  go_wp2;go_ret;first | exact ⟨rfl,HT2.o.mod.more zk,λh=>absurd h zd⟩ | exact ⟨rfl,HT2.o.mod.more zk⟩
 obtain ⟨b1,g1⟩:=bits (pt=-1);obtain ⟨b2',g2⟩:∃ b,(y != 0)=b:=⟨_,rfl⟩
 have g3:(pt == -1)=b1:=by rw [<- g1];rfl
 have g4:decide (y=0)=!b2':=by rw [<- g2];by_cases h:y=0 <;> simp [h]
 by_cases hbad:b1=true/\b2'=true
 ·obtain ⟨rfl,rfl⟩:=hbad;obtain rfl:(30:Int)=D:=by have:=HD.o;rwa [if_pos (.inr (.inr (.inr ⟨of_decide_eq_true g1,by simpa using g2⟩)))] at this
  go_wp2;go_ret;first | exact ⟨rfl,HT2.o.mod.more zk,λh=>absurd h zd⟩ | exact ⟨rfl,HT2.o.mod.more zk⟩
 have HD2:=HD.o
 rw [if_neg (by
  have hp:=HP.o;rintro (h | h | h | ⟨h,h'⟩)
  ·have:=hp.1;omega
  ·have:=hp.2;omega
  ·simp at h
  ·exact hbad ⟨by rw [<- g1];exact dT h,by rw [<- g2];simpa using h'⟩)] at HD2
 have HD:=Hi HD2;clear HD2;have a0:=HB2.o.cell 0;have a1:=HB2.o.cell 1;have f0:=HB2.o.frozen 0;have f1:=HB2.o.frozen 1;simp only [gA,gZ,gS] at a0 a1;have hgo:b1=false∨(b1=true/\b2'=false):=by cases b1 <;> cases b2' <;> simp_all
 have HFin:Hy (∀ W,W=((W1.setCell ⟨b4,0,none⟩ (.int .i64 rg)).setCell ⟨b4,1,none⟩ (.int .i64 pt))->Mod [b4] w W/\Blk W b4 #[.int .i64 rg,.int .i64 pt] 191):=by
  rintro W rfl;exact ⟨((HT2.o.mod.more zk).setCell (p:=⟨b4,0,none⟩) (λ_=>by simp) _).setCell (p:=⟨b4,1,none⟩) (λ_=>by simp) _,(HB2.o.set 0 (.int .i64 rg)).set 1 (.int .i64 pt)⟩
 by_cases hn:n=0
 ·subst hn;obtain rfl:(0:Int)=D:=by have:=HD.o;rwa [if_neg zk] at this
  have k5:decide ((0:Int)<((0:Nat):Int))=false:=by simp
  clear hbad;rcases hgo with rfl | ⟨rfl,rfl⟩ <;>
   (go_wp2;go_ret;have:=HFin.o _ rfl;first | exact ⟨rfl,this.1,λ_=>this.2⟩ | exact ⟨rfl,this⟩)
 have k5:=dT (p:=(0:Int)<n) zo;have k6:=dT (p:=0<n) zo;have HN:=Hi (show 0<n by omega);clear hn hbad;obtain ⟨q1,e1⟩:=bits (rg=r0);obtain ⟨q2,e2⟩:=bits (pt=p0);have e3:(rg == r0)=q1:=by rw [<- e1];rfl
 have e4:(pt == p0)=q2:=by rw [<- e2];rfl
 have HQ:=Hi (And.intro e1 e2)
 by_cases hq:q1=true/\q2=true
 ·obtain ⟨rfl,rfl⟩:=hq;obtain rfl:(24:Int)=D:=by
   have:=HD.o;rwa [if_pos ⟨HN.o,.inr ⟨of_decide_eq_true e1,by have:=of_decide_eq_true e2;omega⟩⟩] at this
  rcases hgo with rfl | ⟨rfl,rfl⟩ <;>
   (go_wp2;go_ret;first | exact ⟨rfl,HT2.o.mod.more zk,λh=>absurd h zd⟩ | exact ⟨rfl,HT2.o.mod.more zk⟩)
 have hq':q1=false∨(q1=true/\q2=false):=by cases q1 <;> cases q2 <;> simp_all
 obtain ⟨v,hv⟩:∃ v,(decide (rg<r0) || (decide (rg=r0) && decide (pt<p0)))=v:=⟨_,rfl⟩
 have HV:=Hi (λW=>wO rg pt r0 p0 W);rw [hv] at HV;have HD3:Hy (D=if v=true then 24 else 0):=by
  rw [<- HD.o,<- hv];exact Ck.wF HN.o λh=>hq ⟨by rw [<- HQ.o.1];exact dT h.1,by rw [<- HQ.o.2];exact dT h.2⟩
 clear hq hv HD;rcases hgo with rfl | ⟨rfl,rfl⟩ <;> rcases hq' with rfl | ⟨rfl,rfl⟩
 all_goals
  go_wp2_with fail
  refine (HV.o _).mono ?_
  rintro e w2 ⟨rfl,m2⟩
  have HT3:=Hi (HT2.o.call m2)
  have HB3:=Hi (HB2.o.kept m2 zk)
  clear m2 a0 a1 f0 f1 HFin s0 s1 d1 d3
  have s0:=(HT3.o.at 1 rfl).cell 0
  have s1:=(HT3.o.at 1 rfl).cell 1
  have f0:=HB3.o.frozen 0
  have f1:=HB3.o.frozen 1
  have a0:=HB3.o.cell 0
  have a1:=HB3.o.cell 1
  simp only [gA,gZ,gS] at s0 s1 a0 a1
  cases v with
  | true =>
   obtain rfl:D=24:=HD3.o;go_wp2;go_ret;first | exact ⟨rfl,HT3.o.mod.more zk,λh=>absurd h zd⟩ | exact ⟨rfl,HT3.o.mod.more zk⟩
  | false =>
   obtain rfl:D=0:=HD3.o;go_wp2;go_ret;have m3:Mod [b4] w ((w2.setCell ⟨b4,0,none⟩ (.int .i64 rg)).setCell ⟨b4,1,none⟩ (.int .i64 pt)):=((HT3.o.mod.more zk).setCell (p:=⟨b4,0,none⟩) (λ_=>by simp) _).setCell (p:=⟨b4,1,none⟩) (λ_=>by simp) _;have b3':=(HB3.o.set 0 (.int .i64 rg)).set 1 (.int .i64 pt)
   first | exact ⟨rfl,m3,λ_=>b3'⟩ | exact ⟨rfl,m3,b3'⟩
open Go.RowKit Go.MapKept
theorem kF:Gm.gP Tryz.prog 9 Value.string :=
 Gm.gP.plain (d:=.string) Tryz.underlying9 (λ_=>True.intro) (λa b h=>by cases h;rfl) (λw k=>by simp [Instr.keyThatStays,Instr.sameBits,show (k == k)=true from (bytes_beq k k).2 rfl])
abbrev HK:={ p:Int×Int // I64 p.1/\I64 p.2 }
def kD (p:HK):Value:=.agg #[.int .i64 p.1.1,.int .i64 p.1.2]
theorem sW (d:Nat) {n:Int} (h:(Lit.int .i64 n).wf=true):Tryz.prog.keyLits (d+1) 3 [.int .i64 n]=some [.int .i64 n]:=by
 unfold Program.keyLits;rw [Tryz.underlying3];simp [h]
theorem yO (d:Nat) {a b:Int} (h1:(Lit.int .i64 a).wf=true) (h2:(Lit.int .i64 b).wf=true):Tryz.prog.keyLits (d+2) 188 [.int .i64 a,.int .i64 b]=some [.int .i64 a,.int .i64 b]:=by
 unfold Program.keyLits;rw [Tryz.underlying188];simp only;rw [if_pos ⟨by kernel_rfl,by kernel_rfl⟩];have e:Tryz.prog.cellsOf 3=1:=zt;simp [e,sW d h1,sW d h2]
theorem jB (p:HK):∃ l,keyOf Tryz.prog 188 (kD p)=some l:=by
 have h1:(Lit.int .i64 p.1.1).wf=true:=WalkArith.wf_i64 p.2.1;have h2:(Lit.int .i64 p.1.2).wf=true:=WalkArith.wf_i64 p.2.2;have h0:1<=Tryz.prog.types.size:=by decide +kernel
 obtain ⟨d,hd⟩:∃ d,Tryz.prog.types.size+1=d+2:=⟨Tryz.prog.types.size - 1,by omega⟩
 unfold keyOf;rw [Tryz.underlying188];simp only;rw [if_pos zt,hd];exact ⟨_,by rw [show (kD p).cells.toList=[.int .i64 p.1.1,.int .i64 p.1.2] from rfl,yO d h1 h2];rfl⟩
theorem xk:Gm.gP Tryz.prog 188 kD:=by
 have L:WideMaps.KeyLaw Tryz.prog 188:=deep_law (m:=2) zd zt zt zt;refine ⟨λa b h=>?_,λe w k=>?_,λw k=>?_,λw k es h=>?_⟩
 ·unfold kD at h;simp at h;exact Subtype.ext (Prod.ext h.1 h.2)
 ·obtain ⟨l,hl⟩:=jB k;exact L.check w e hl
 ·obtain ⟨l,hl⟩:=jB k;exact L.stays w hl
 ·obtain ⟨l,hl⟩:=jB k;exact L.find w hl es λx hx=>by obtain ⟨a,ha⟩:=h x hx;rw [ha];exact jB a
theorem wE (regions points:Int) (w:World):Calls Tryz.prog 91 #[.int .i64 regions,.int .i64 points] w λe w' =>
  (∃ b2 b3 b4 t2 t3,e=.returned (.func (.func 146) #[] #[.pointer (some ⟨b2,0,none⟩),.pointer (some ⟨b3,0,none⟩),.pointer (some ⟨b4,0,none⟩)])/\w.heap.size<=b4/\Blk w' b2 #[.int .i64 regions] t2/\Blk w' b3 #[.int .i64 points] t3/\Blk w' b4 #[.int .i64 0,.int .i64 0] 191/\b2≠b4/\b3≠b4)/\Mod [] w w':=by
 have T:=Hi (own3 w #[.int .i64 regions] 3 #[.int .i64 points] 3 #[.int .i64 0,.int .i64 0] 191);go_enter Tryz.func91,Tryz.ntmps91;go_wp2;go_ret;exact ⟨⟨_,_,_,_,_,rfl,by omega,T.o.at 0 rfl,T.o.at 1 rfl,T.o.at 2 rfl,by omega,by omega⟩,T.o.mod⟩
theorem uE (mark:Bool) (w:World):Calls Tryz.prog 89 #[.bool mark] w λe w' =>
  (∃ b2 b3 mb t2 t3,e=.returned (.func (.func 143) #[] #[.pointer (some ⟨b2,0,none⟩),.pointer (some ⟨b3,0,none⟩)])/\w.heap.size<=mb/\Blk w' b2 #[.bool mark] t2/\Blk w' b3 #[.map (some mb)] t3/\Gm.cJ kD w' mb []/\b2≠mb/\b3≠mb)/\Mod [] w w':=by
 have T:=Hi (own1 w #[.bool mark] 4);have hmk:∀ W:World,(Instr.makeMap 186 none).run Tryz.prog W=.ok (.map (some W.heap.size)) (W.alloc (.map #[] 0)):=λW=>by kernel_rfl
 go_enter Tryz.func89,Tryz.ntmps89;go_wp2;go_ret;have g:=Gm.cJ.new kD (w.alloc (.cells #[.bool mark] 4));rw [World.size_alloc] at g;have b:=Blk.new ((w.alloc (.cells #[.bool mark] 4)).alloc (.map #[] 0)) #[.map (some (w.heap.size+1))] 186;rw [World.size_alloc,World.size_alloc] at b;exact ⟨⟨_,_,_,_,_,rfl,by omega,((T.o.at 0 rfl).alloc _).alloc _,b,g.mod ((Mod.refl [] _).alloc _) zk,by omega,by omega⟩,(T.o.mod.alloc _).alloc _⟩
def AM (l:List bh) (i:Nat) (m:List (HK×Value)):Prop:=∀ k:HK,Gm.look m k=if (l.take i).any (λb=>b.kind == k.1.1 && b.cls == k.1.2) then some (.bool true) else none
theorem AM.start (l:List bh):AM l 0 []:=λs=>by simp [Gm.look]
theorem AM.add {l:List bh} {i:Nat} {m:List (HK×Value)} (h:AM l i m) (hi:i<l.length) (k:HK) (hk:k.1=(l[i].kind,l[i].cls)) (hs:((l.take i).any λb=>b.kind == k.1.1 && b.cls == k.1.2)=false) :
  AM l (i+1) (Gm.put m k (.bool true)):=λs=>by
 have hn:m.find? (λp=>decide (p.1=k))=none:=by
  have h1:=h k;rw [hs] at h1;unfold Gm.look at h1;cases hh:m.find? (λp=>decide (p.1=k)) with
  | none=>rfl
  | some p=>rw [hh] at h1;cases h1
 have hp:Gm.look (Gm.put m k (.bool true)) s=if k=s then (Gm.look m s).or (some (.bool true)) else Gm.look m s:=by
  unfold Gm.put Gm.look;rw [hn];simp only [Option.isSome_none,Bool.false_eq_true,if_false,List.find?_append]
  by_cases he:k=s
  ·rw [if_pos he];cases m.find? (λp=>decide (p.1=s)) with
   | none=>simp [he]
   | some p=>simp
  ·rw [if_neg he];cases m.find? (λp=>decide (p.1=s)) with
   | none=>simp [he]
   | some p=>simp
 rw [hp,List.take_succ_eq_append_getElem hi,List.any_append,h s];simp only [List.any_cons,List.any_nil,Bool.or_false]
 by_cases he:k=s
 ·subst he;rw [if_pos rfl,hs,hk];simp
 ·have hb:(l[i].kind == s.1.1 && l[i].cls == s.1.2)=false:=by
   cases hh:(l[i].kind == s.1.1 && l[i].cls == s.1.2) with
   | false=>rfl
   | true =>
    exfalso;simp at hh;exact he (Subtype.ext (by rw [hk,hh.1,hh.2]))
  rw [if_neg he,hb,Bool.or_false]
theorem uG (idx:Value) (kind cls x y:Int) (mark:Bool) (b2 b3 mb t3:Nat) (m:List (HK×Value)) (mt:Bool) (w:World) (hk:I64 kind) (hc:I64 cls) (hx:I64 x) (hy:I64 y) (h2:w.cell? ⟨b2,0,none⟩=some (.bool mark)) (h3:Blk w b3 #[.map (some mb)] t3)
  (hG:Gm.cJ kD w mb m) (hmt:Gm.look m ⟨(kind,cls),hk,hc⟩=if mt then some (.bool true) else none) :
  Calls Tryz.prog 143 #[idx,.agg #[.int .i64 kind,.int .i64 cls,.int .i64 x,.int .i64 y],.pointer (some ⟨b2,0,none⟩),.pointer (some ⟨b3,0,none⟩)] w λe w' =>
   e=.returned (.int .i64 (Ck.iG mark mt ⟨kind,cls,x,y⟩))/\Mod [mb] w w'/\(Ck.iG mark mt ⟨kind,cls,x,y⟩=0->Gm.cJ kD w' mb (Gm.put m ⟨(kind,cls),hk,hc⟩ (.bool true))):=by
 have T:=Hi (own2 w #[.int .i64 kind,.int .i64 cls,.int .i64 x,.int .i64 y] 145 #[.int .i64 kind,.int .i64 cls] 188);obtain ⟨D,hD⟩:∃ D,Ck.iG mark mt ⟨kind,cls,x,y⟩=D:=⟨_,rfl⟩
 rw [hD];have HD:=Hi hD;have H2:=Hi h2;have H3:=Hi h3;have HG:=Hi hG;have HMT:=Hi hmt;have HXY:=Hi (And.intro hx hy);have hz:∀ W:World,(zeroValue 4).run Tryz.prog W=.ok (.bool false) W:=λW=>by kernel_rfl
 have HZ:=Hi hz;clear hD h2 h3 hG hmt hx hy hz;unfold Ck.iG at HD;simp only at HD;go_enter Tryz.func143,Tryz.ntmps143;go_upto_region 2 with fail;have al:=T.o.mod;have e2:=aj al H2.o;have HB3:=Hi (H3.o.kept al zk);have HG1:=Hi (HG.o.mod al zk);clear al H2 H3 HG;generalize (w.alloc (.cells #[.int .i64 kind,.int .i64 cls,.int .i64 x,.int .i64 y] 145)).alloc (.cells #[.int .i64 kind,.int .i64 cls] 188)=W0 at *
 have d0:=(T.o.at 0 rfl).cell 0;have d1:=(T.o.at 0 rfl).cell 1;have d2:=(T.o.at 0 rfl).cell 2;have d3:=(T.o.at 0 rfl).cell 3;simp only [gA,gZ,gS] at d0 d1 d2 d3;obtain ⟨a1,k1⟩:=bits (kind<1);obtain ⟨a2,k2⟩:=bits (4<kind);obtain ⟨a3,k3⟩:=bits (cls<0);obtain ⟨a4,k4⟩:=bits (15<cls);obtain ⟨a5,k5⟩:=bits (kind=3);obtain ⟨a6,k6⟩:=bits (kind=4);obtain ⟨a7,k7⟩:∃ b,(cls != 0)=b:=⟨_,rfl⟩
 obtain ⟨a8,k8⟩:=bits (kind=2);have g5:(kind == 3)=a5:=by rw [<- k5];rfl
 have g6:(kind == 4)=a6:=by rw [<- k6];rfl
 have g8:(kind == 2)=a8:=by rw [<- k8];rfl
 have g7:decide (cls=0)=!a7:=by rw [<- k7];by_cases h:cls=0 <;> simp [h]
 rw [k1,k2,k3,k4,g5,g6,k7,g8] at HD;have HL:=Hi (λW h=>Gm.cH xk (w:=W) (b:=mb) (m:=m) h Tryz.underlying186 (HZ.o W) ⟨(kind,cls),hk,hc⟩ false);simp only [Bool.false_eq_true,if_false] at HL;have HLV:Hy ((Gm.look m ⟨(kind,cls),hk,hc⟩).getD (.bool false)=.bool mt):=by rw [HMT.o];cases mt <;> rfl
 rw [HLV.o] at HL;clear HLV HMT;cases a1
 case true=>cases a5 <;> cases a6 <;> (obtain rfl:(35:Int)=D:=(by have:=HD.o;simpa [Ck.when] using this);go_wp2;go_ret;first | exact ⟨rfl,T.o.mod.more zk,λh=>absurd h zd⟩ | exact ⟨rfl,T.o.mod.more zk⟩)
 cases a2
 case true=>cases a5 <;> cases a6 <;> (obtain rfl:(35:Int)=D:=(by have:=HD.o;simpa [Ck.when] using this);go_wp2;go_ret;first | exact ⟨rfl,T.o.mod.more zk,λh=>absurd h zd⟩ | exact ⟨rfl,T.o.mod.more zk⟩)
 cases a3
 case true=>cases a5 <;> cases a6 <;> (obtain rfl:(35:Int)=D:=(by have:=HD.o;simpa [Ck.when] using this);go_wp2;go_ret;first | exact ⟨rfl,T.o.mod.more zk,λh=>absurd h zd⟩ | exact ⟨rfl,T.o.mod.more zk⟩)
 cases a4
 case true=>cases a5 <;> cases a6 <;> (obtain rfl:(35:Int)=D:=(by have:=HD.o;simpa [Ck.when] using this);go_wp2;go_ret;first | exact ⟨rfl,T.o.mod.more zk,λh=>absurd h zd⟩ | exact ⟨rfl,T.o.mod.more zk⟩)
 by_cases hj:((a5 || a6) && a7)=true
 ·have hj:(a5=true/\a7=true)∨(a5=false/\a6=true/\a7=true):=by revert hj;cases a5 <;> cases a6 <;> cases a7 <;> simp
  rcases hj with ⟨rfl,rfl⟩ | ⟨rfl,rfl,rfl⟩ <;>
  (obtain rfl:(35:Int)=D:=(by have:=HD.o;simpa [Ck.when] using this);go_wp2;go_ret;first | exact ⟨rfl,T.o.mod.more zk,λh=>absurd h zd⟩ | exact ⟨rfl,T.o.mod.more zk⟩)
 have hj:(a5=false/\a6=false)∨(a5=true/\a7=false)∨(a5=false/\a6=true/\a7=false):=by revert hj;cases a5 <;> cases a6 <;> cases a7 <;> simp
 rcases hj with ⟨rfl,rfl⟩ | ⟨rfl,rfl⟩ | ⟨rfl,rfl,rfl⟩
 all_goals
  go_upto_region 6 with fail
  have HT2:=Hi (T.o.alloc #[.int .i64 x,.int .i64 y] 3)
  have al:Mod [] W0 (W0.alloc (.cells #[.int .i64 x,.int .i64 y] 3)):=mR.alloc _
  have HB4:=Hi (HB3.o.kept al zk)
  have HG2:=Hi (HG1.o.mod al zk)
  have e2':=aj al e2
  go_wp2_with fail
  refine (jv _ _ _ [x,y] 0 _ (fB (l:=[x,y]) (HT2.o.at 2 rfl) (show 2<=maxLen by decide) (by simp [HXY.o.1,HXY.o.2]))).mono ?_
  rintro e w1 ⟨rfl,rfl⟩
  have HA:=Hi (show [x,y].all Ck.may=(Ck.may x && Ck.may y) by simp)
  rw [HA.o]
  clear d0 d1 d2 d3 HA T HB3 HG1 e2 al
  generalize W0.alloc (.cells #[.int .i64 x,.int .i64 y] 3)=W1 at *
  generalize (Ck.may x && Ck.may y)=bm at *
  have d0:=(HT2.o.at 0 rfl).cell 0
  have d1:=(HT2.o.at 0 rfl).cell 1
  have s0:=(HT2.o.at 1 rfl).cell 0
  have s1:=(HT2.o.at 1 rfl).cell 1
  have p3:=HB4.o.cell 0
  simp only [gA,gZ,gS] at d0 d1 s0 s1 p3
  cases bm
  case false=>(obtain rfl:(35:Int)=D:=(by have:=HD.o;simpa [Ck.when] using this);go_wp2;go_ret;first | exact ⟨rfl,HT2.o.mod.more zk,λh=>absurd h zd⟩ | exact ⟨rfl,HT2.o.mod.more zk⟩)
  by_cases hm:(a8 && !mark)=true
  ·have hm:a8=true/\mark=false:=by simpa using hm
   obtain ⟨rfl,rfl⟩:=hm
   (obtain rfl:(35:Int)=D:=(by have:=HD.o;simpa [Ck.when] using this);go_wp2;go_ret;first | exact ⟨rfl,HT2.o.mod.more zk,λh=>absurd h zd⟩ | exact ⟨rfl,HT2.o.mod.more zk⟩)
  have hm:a8=false∨(a8=true/\mark=true):=by revert hm;cases a8 <;> cases mark <;> simp
  have hlk:=HL.o W1 HG2.o
  change (Instr.lookup 186 (.map (some mb)) (.agg #[.int .i64 kind,.int .i64 cls]) false).run Tryz.prog W1=_ at hlk
  obtain ⟨W5,hmu,hM5,o1,o2,o3,o4,o5⟩:=Gm.iE xk HG2.o Tryz.underlying186 ⟨(kind,cls),hk,hc⟩ (.bool true)
  change (Instr.mapUpdate 186 (.map (some mb)) (.agg #[.int .i64 kind,.int .i64 cls]) (.bool true)).run Tryz.prog W1=_ at hmu
  have HM5:=Hi (show Mod [mb] w W5/\Gm.cJ kD W5 mb (Gm.put m ⟨(kind,cls),hk,hc⟩ (.bool true)) from
   ⟨⟨o1.trans HT2.o.mod.os,o2.trans HT2.o.mod.tape,o3.trans HT2.o.mod.output,by rw [o4];exact HT2.o.mod.size,λq hq hn=>(o5 q (by simpa using hn)).trans (HT2.o.mod.block q hq zk)⟩,hM5⟩)
  clear o1 o2 o3 o4 o5 hM5
  cases mt
  case true=>rcases hm with rfl | ⟨rfl,rfl⟩ <;> (obtain rfl:(35:Int)=D:=(by have:=HD.o;simpa [Ck.when] using this);go_wp2;go_ret;first | exact ⟨rfl,HT2.o.mod.more zk,λh=>absurd h zd⟩ | exact ⟨rfl,HT2.o.mod.more zk⟩)
  rcases hm with rfl | ⟨rfl,rfl⟩ <;>
   (obtain rfl:(0:Int)=D:=(by have:=HD.o;simpa [Ck.when] using this);go_wp2;go_ret;first | exact ⟨rfl,HM5.o.1,λ_=>HM5.o.2⟩ | exact ⟨rfl,HM5.o⟩)
def Ck.feat1 (n:Nat) (vs:List Int) (i:Nat) (l:Int):Int:=Ck.when (decide (l<0) || decide ((n:Int)<=l) || (decide (0<i) && decide (l<=vs.getD (i - 1) 0))) 43
theorem rZ (i:Nat) (x:Int) (n lc m c B fb xb:Nat) (lo oa:Option Addr) (vs:List Int) (w:World) (hi:i<vs.length) (h1:w.cell? ⟨fb,3,none⟩=some (.slice lo n lc)) (h2:w.cell? ⟨xb,1,none⟩=some (.slice oa m c)) (hv:Rows 1 bn B w (.slice oa m c) vs) :
  Calls Tryz.prog 122 #[.int .i64 (i:Int),.int .i64 x,.pointer (some ⟨fb,0,none⟩),.pointer (some ⟨xb,0,none⟩)] w λe w'=>e=.returned (.int .i64 (Ck.feat1 n vs i x))/\Mod [] w w':=by
 obtain ⟨_,_,he,hml⟩:=hv.form;obtain rfl:m=vs.length:=by cases he;rfl
 have HML:=Hi (show vs.length<=9223372036854775807 from hml);have HI:=Hi hi;have HV:=Hi hv;clear he hml hv hi;unfold Ck.feat1;have HW:=Hi (λb W=>cE b 43 W);obtain ⟨b1,k1⟩:=bits (x<0);obtain ⟨b2,k2⟩:=bits ((n:Int)<=x);cases i with
 | zero =>
  rw [k1,k2];have k5:decide ((0:Int)<((0:Nat):Int))=false:=by simp
  have k6:decide (0<0)=false:=by simp
  rw [k6,Bool.false_and,Bool.or_false];have hb:b1=true∨(b1=false/\b2=true)∨(b1=false/\b2=false):=by cases b1 <;> cases b2 <;> simp
  rcases hb with rfl | ⟨rfl,rfl⟩ | ⟨rfl,rfl⟩ <;>
   (go_enter Tryz.func122,Tryz.ntmps122;go_wp2_with fail;refine (HW.o _ _).mono ?_;rintro e w1 ⟨rfl,rfl⟩;go_wp2;go_ret;exact ⟨rfl,mR⟩)
 | succ j =>
  have hj:j<vs.length:=by have:=HI.o;omega
  obtain ⟨a,rfl,-,cs,-,hc0,hcj,rfl,-⟩:=HV.o.at j hj;have hg:vs.getD (j+1 - 1) 0=vs[j]:=by rw [Nat.add_sub_cancel,List.getD_eq_getElem?_getD,gE hj];rfl
  rw [hg];generalize vs[j]=y at *
  have d0:=hc0 zd;simp only [Nat.mul_one,gZ] at d0;have e1:IntKind.i64.wrap (((j+1:Nat):Int) - 1)=(j:Int):=by rw [Int.natCast_add];show IntKind.i64.wrap ((j:Int)+1 - 1)=j;rw [Int.add_sub_cancel];exact IntWalk.i64_in _ zqh
  have e2:IntKind.i64.wrap (((j:Int)+1) - 1)=(j:Int):=by rw [Int.add_sub_cancel];exact IntWalk.i64_in _ zqh
  have e6:wrap64 (j:Int)=(j:Int):=IntWalk.wrap64_in _ zqh;have e3:(0:Int)<=j:=zo;have e4:(j:Int)<vs.length:=zo;have e5:=dT (p:=j<vs.length) hj;have k5:=dT (p:=(0:Int)<((j+1:Nat):Int)) zo;have k6:=dT (p:=0<j+1) zo;have k7:=dT (p:=(0:Int)<j+1) zo;obtain ⟨b3,k3⟩:=bits (x<=y);rw [k1,k2,k3,k6,Bool.true_and];clear hc0 hcj hg hj;have hb:b1=true∨(b1=false/\b2=true)∨(b1=false/\b2=false):=by cases b1 <;> cases b2 <;> simp
  rcases hb with rfl | ⟨rfl,rfl⟩ | ⟨rfl,rfl⟩ <;>
   (go_enter Tryz.func122,Tryz.ntmps122;go_wp2_with fail;refine (HW.o _ _).mono ?_;rintro e w1 ⟨rfl,rfl⟩;go_wp2;go_ret;exact ⟨rfl,mR⟩)
theorem AB (idx:Value) (gx x y:Int) (fb tf:Nat) (u:Int) (g c l fe ax rg fn cv:Hd) (w:World) (hx:I64 x) (hy:I64 y) (hB:Blk w fb (af u g c l fe ax rg fn cv) tf) :
  Calls Tryz.prog 86 #[idx,.agg #[.int .i64 gx,.int .i64 x,.int .i64 y],.pointer (some ⟨fb,0,none⟩)] w λe w'=>e=.returned (.int .i64 (Ck.part g.n ⟨gx,x,y⟩))/\Mod [] w w':=by
 have HG:=Hi (λW=>iM u g c l fe ax rg fn cv gx W);have T:=Hi (own1 w #[.int .i64 gx,.int .i64 x,.int .i64 y] 69);have HB:=Hi (hB.kept T.o.mod zk);have HXY:=Hi (And.intro hx hy);clear hB hx hy;obtain ⟨D,hD⟩:∃ D,Ck.part g.n ⟨gx,x,y⟩=D:=⟨_,rfl⟩
 rw [hD];have HD:=Hi hD;clear hD;unfold Ck.part at HD;simp only at HD;unfold af at HG HB;go_enter Tryz.func86,Tryz.ntmps86;go_upto_region 1 with fail;generalize w.alloc (.cells #[.int .i64 gx,.int .i64 x,.int .i64 y] 69)=W0 at *
 have a0:=(T.o.at 0 rfl).cell 0;have f0:=HB.o.cell 0;have f1:=HB.o.cell 1;have f2:=HB.o.cell 2;have f3:=HB.o.cell 3;have f4:=HB.o.cell 4;have f5:=HB.o.cell 5;have f6:=HB.o.cell 6;have f7:=HB.o.cell 7;have f8:=HB.o.cell 8;simp only [gA,gZ,gS] at a0 f0 f1 f2 f3 f4 f5 f6 f7 f8;go_wp2_with fail;refine (HG.o _).mono ?_;rintro e w1 ⟨rfl,m1⟩;have HT:=Hi (T.o.call m1);clear a0 f0 f1 f2 f3 f4 f5 f6 f7 f8 HB m1 T HG;obtain ⟨gb,hgb⟩:∃ b,Ck.bo g.n gx=b:=⟨_,rfl⟩
 have HGB:=Hi hgb;rw [hgb];clear hgb;cases gb with
 | false =>
  obtain rfl:(32:Int)=D:=by have:=HD.o;rw [HGB.o] at this;exact this
  go_wp2;go_ret;exact ⟨rfl,HT.o.mod⟩
 | true =>
  have HT2:=Hi (HT.o.alloc #[.int .i64 x,.int .i64 y] 3);have a1:=(HT.o.at 0 rfl).cell 1;have a2:=(HT.o.at 0 rfl).cell 2;simp only [gA,gZ,gS] at a1 a2;go_wp2_with fail;refine (jv _ _ _ [x,y] 0 _ (fB (l:=[x,y]) (HT2.o.at 1 rfl) (show 2<=maxLen by decide) (by simp [HXY.o.1,HXY.o.2]))).mono ?_;rintro e w2 ⟨rfl,rfl⟩;have HA:=Hi (show [x,y].all Ck.may=(Ck.may x && Ck.may y) by simp);rw [HA.o];clear a1 a2 HA;go_wp2_with fail;refine (cE _ 30 _).mono ?_;rintro e w3 ⟨rfl,rfl⟩;obtain rfl:Ck.when (!(Ck.may x && Ck.may y)) 30=D:=by have:=HD.o;rw [HGB.o] at this;exact this
  go_wp2;go_ret;exact ⟨by simp,HT2.o.mod⟩
theorem Ck.wy (n:Nat) (x:aA) (nm:Int):Ck.feature n x nm=if nm≠0 then nm else (Ck.each (Ck.feat1 n x.lookups) x.lookups).1:=rfl
theorem mX (u:Int) (g c l fe ax rg fn cv:Hd) (cs:List Value) (x:aA) (nm:Int) (B:Nat) (w:World) (h:aZ B w cs x) :
  Calls Tryz.prog 64 #[.agg (af u g c l fe ax rg fn cv),.agg cs.toArray,.int .i64 nm] w λe w'=>e=.returned (.int .i64 (Ck.feature l.n x nm))/\Mod [] w w':=by
 obtain ⟨v1,rfl,-,h1⟩:=h;obtain ⟨oa,d,rfl,-⟩:=h1.form;have T:=Hi (own2 w (af u g c l fe ax rg fn cv) 32 #[.string x.name,.slice oa x.lookups.length d] 88);have HV:=Hi (h1.mod bn.stay T.o.mod);clear h1;rw [Ck.wy]
 by_cases hz:nm=0
 case neg =>
  rw [if_pos hz];have z1:(nm != 0)=true:=by simpa using hz
  have z2:=dF (p:=nm=0) hz;have z3:(nm == 0)=false:=by simpa using hz
  unfold af at T ⊢;clear hz;go_enter Tryz.func64,Tryz.ntmps64;go_wp2;go_ret;exact ⟨rfl,T.o.mod⟩
 subst hz;rw [if_neg zk]
 have HC:=Hi (jT (F:=[]) (J:=λ_ W=>Mod [] ((w.alloc (.cells (af u g c l fe ax rg fn cv) 32)).alloc (.cells #[.string x.name,.slice oa x.lookups.length d] 88)) W) (fn:=122) (caps:=#[.pointer (some ⟨w.heap.size,0,none⟩),.pointer (some ⟨w.heap.size+1,0,none⟩)])
  (f:=Ck.feat1 l.n x.lookups) (bM _) (λ_ W m=>HV.o.mod bn.stay m) (λi y cs W hi m hr=>by
   obtain ⟨rfl,-⟩:=hr;have hil:i<x.lookups.length:=(gI.1 hi).1
   exact bL (rZ i y l.n l.c x.lookups.length d B w.heap.size (w.heap.size+1) l.a oa x.lookups W hil (((T.o.at 0 rfl).kept m zk).cell 3) (((T.o.at 1 rfl).kept m zk).cell 1) (HV.o.mod bn.stay m)) m)
  (λa w=>by kernel_rfl) _ mR)
 have a1:=(T.o.at 1 rfl).cell 1;simp only [gA,gZ,gS] at a1;unfold af at T HC a1 ⊢;clear HV;go_enter Tryz.func64,Tryz.ntmps64;go_wp2_with fail;refine HC.o.mono ?_;rintro e w2 ⟨rfl,m2⟩;have HM:=Hi (T.o.mod.then m2);clear m2 a1 T HC;go_wp2;go_ret;exact ⟨rfl,HM.o⟩
theorem yY {Gs:List Ck.Got} {k:Nat} (hk:k<Gs.length) (hne:(Gs.getD k (0,0)).1≠0) (hz:∀ j,j<k->(Gs.getD j (0,0)).1=0):Ck.first Gs=Gs.getD k (0,0):=by
 induction Gs generalizing k with
 | nil=>simp at hk
 | cons g l ih =>
  unfold Ck.first
  cases k with
  | zero=>rw [if_neg zpg];rfl
  | succ k =>
   rw [if_pos (by simpa using hz 0 zo)];exact ih (by simpa using hk) zpg λj hj=>by simpa using hz (j+1) zo
theorem yX {Gs:List Ck.Got} (hz:∀ j,j<Gs.length->(Gs.getD j (0,0)).1=0):Ck.first Gs=(0,0):=by
 induction Gs with
 | nil=>rfl
 | cons g l ih =>
  unfold Ck.first
  rw [if_pos (by simpa using hz 0 zk)];exact ih λj hj=>by simpa using hz (j+1) (by simpa using hj)
theorem iH.list {Gs:List Ck.Got} {J Z:Nat->World->Prop} {e:Ending} {w:World} {R:World->Prop} (h:iH Gs.length (λk=>Gs.getD k (0,0)) J Z e w) (hJ:J Gs.length w->R w) (hZ:∀ k,Z k w->R w) :
  e=.returned (.tuple #[.int .i64 (Ck.first Gs).1,.int .i64 ((Ck.first Gs).2:Int)])/\R w:=by
 rcases h with ⟨rfl,hz,hj⟩ | ⟨k,hk,hne,hz,rfl,hq⟩
 ·rw [yX hz];exact ⟨rfl,hJ hj⟩
 ·rw [yY hk hne hz];exact ⟨rfl,hZ k hq⟩
theorem Mod.below' {F:List Nat} {a b c:World} (h:Mod F a b) (k:Below a.heap.size b c):Mod F a c:=⟨k.os.trans h.os,k.tape.trans h.tape,k.output.trans h.output,nT h.size k.size,λx hx hn=>(k.block x hx).trans (h.block x hx hn)⟩
theorem D5 (eb:Nat) (nm:Int) (w:World) (h:w.cell? ⟨eb,0,none⟩=some (.int .i64 nm)):Calls Tryz.prog 82 #[.pointer (some ⟨eb,0,none⟩)] w λe w'=>e=.returned (.tuple #[.int .i64 nm,.int .i64 0])/\Mod [] w w':=by
 go_enter Tryz.func82,Tryz.ntmps82;go_wp2;go_ret2;exact ⟨rfl,mR⟩
def Ev (B gb:Nat) (g:av) (w:World):Prop:=∃ cs t,Blk w gb (cs:List Value).toArray t/\aI B w cs g
theorem D4 (B gb:Nat) (g:av) (w:World) (h:Ev B gb g w):Calls Tryz.prog 83 #[.pointer (some ⟨gb,0,none⟩)] w λe w'=>e=.returned (.tuple #[.int .i64 (Ck.shape g),.int .i64 0])/\Mod [] w w':=by
 obtain ⟨cs,t,hb,hr⟩:=h;have HS:=Hi (xS cs g B w hr);obtain ⟨v3,v4,v5,v6,v7,v8,rfl,-⟩:=hr;have f0:=hb.cell 0;have f1:=hb.cell 1;have f2:=hb.cell 2;have f3:=hb.cell 3;have f4:=hb.cell 4;have f5:=hb.cell 5;have f6:=hb.cell 6;have f7:=hb.cell 7;have f8:=hb.cell 8;simp only [gA,gZ,gS] at f0 f1 f2 f3 f4 f5 f6 f7 f8;clear hb;go_enter Tryz.func83,Tryz.ntmps83;go_wp2_with fail;refine HS.o.mono ?_;rintro e w1 ⟨rfl,m1⟩;have HM:=Hi m1;clear f0 f1 f2 f3 f4 f5 f6 f7 f8 m1 HS;go_wp2;go_ret2;exact ⟨rfl,HM.o⟩
theorem DZ (B gb:Nat) (g:av) (w:World) (h:Ev B gb g w):Calls Tryz.prog 92 #[.pointer (some ⟨gb,0,none⟩)] w λe w'=>e=.returned (.tuple #[.int .i64 (Ck.program g.hint),.int .i64 0])/\Mod [] w w':=by
 obtain ⟨cs,t,hb,hr⟩:=h;obtain ⟨v3,v4,v5,v6,v7,v8,rfl,-,-,-,-,-,-,-,h8⟩:=hr;obtain ⟨o8,d8,rfl,-⟩:=h8.form;have HS:=Hi (mO o8 _ d8 g.hint B w h8);have f8:=hb.cell 8;simp only [gA,gZ,gS] at f8;clear hb h8;go_enter Tryz.func92,Tryz.ntmps92;go_wp2_with fail;refine HS.o.mono ?_;rintro e w1 ⟨rfl,m1⟩;have HM:=Hi m1;clear f8 m1 HS;go_wp2;go_ret2;exact ⟨rfl,HM.o⟩
theorem Blk.ne {w:World} {a b t t':Nat} {cs cs':Array Value} (h:Blk w a cs t) (k:Blk w b cs' t') (hne:cs.size≠cs'.size):a≠b:=λe=>by
 subst e;unfold Blk at h k;rw [h] at k;cases k;exact hne rfl
theorem Blk.wT {β:Type} {enc:β->Value} {w:World} {a b t:Nat} {cs:Array Value} {m:List (β×Value)} (h:Blk w a cs t) (k:Gm.cJ enc w b m):a≠b:=λe=>by
 subst e;obtain ⟨es,c,k,-⟩:=k;unfold Blk at h;rw [h] at k;cases k
structure GSt (u:Int) (fg fc fl ff fx fr fn fv:Hd) (g:av) (nm:Int) (B fb gb eb:Nat) (lp la ld:Value) (ab am mb dr dp da:Nat) (W0 w:World):Prop where
 mod:Mod [] W0 w
 mbn:W0.heap.size<=mb
 dan:W0.heap.size<=da
 hfb:∃ t,Blk w fb (af u fg fc fl ff fx fr fn fv) t
 hgb:∃ cs t,Blk w gb (cs:List Value).toArray t/\aI B W0 cs g
 heb:∃ t,Blk w eb #[.int .i64 nm] t
 hlp:∃ o c,bw 139 (.slice o g.parts.length c) (.int .i64 ((8:Nat):Int)) (.func (.func 86) #[] #[.pointer (some ⟨fb,0,none⟩)]) lp w/\Rows 3 eE B W0 (.slice o g.parts.length c) g.parts
 hla:∃ o c,bw 141 (.slice o g.anchors.length c) (.int .i64 ((16:Nat):Int)) (.func (.func 143) #[] #[.pointer (some ⟨ab,0,none⟩),.pointer (some ⟨am,0,none⟩)]) la w/\Rows 4 dD B W0 (.slice o g.anchors.length c) g.anchors
 hld:∃ o c,bw 144 (.slice o g.deltas.length c) (.int .i64 ((400:Nat):Int)) (.func (.func 146) #[] #[.pointer (some ⟨dr,0,none⟩),.pointer (some ⟨dp,0,none⟩),.pointer (some ⟨da,0,none⟩)]) ld w/\Rows 4 er B W0 (.slice o g.deltas.length c) g.deltas
 hab:∃ t,Blk w ab #[.bool g.mark] t
 ham:∃ t,Blk w am #[.map (some mb)] t
 hmb:Gm.cJ kD w mb []
 hdr:∃ t,Blk w dr #[.int .i64 (fr.n:Int)] t
 hdp:∃ t,Blk w dp #[.int .i64 (g.pts.length:Int)] t
 hda:Blk w da #[.int .i64 0,.int .i64 0] 191
theorem Ck.uF {mark met:Bool} {a:bh} (h:Ck.iG mark met a=0):met=false:=by
 cases met with
 | false=>rfl
 | true=>unfold Ck.iG at h;rw [Bool.or_true] at h;cases h
theorem pW {u:Int} {fg fc fl ff fx fr fn fv:Hd} {ps:List cK} {o:Option Addr} {c B fb tf b0 b1 b2:Nat} {w:World} (hfb:Blk w fb (af u fg fc fl ff fx fr fn fv) tf) (hr:Rows 3 eE B w (.slice o ps.length c) ps)
  (hb:w.cell? ⟨b0,0,none⟩=some (.slice o ps.length c)/\w.cell? ⟨b1,0,none⟩=some (.int .i64 ((8:Nat):Int))/\w.cell? ⟨b2,0,none⟩=some (.func (.func 86) #[] #[.pointer (some ⟨fb,0,none⟩)])) :
  Calls Tryz.prog 139 #[.pointer (some ⟨b0,0,none⟩),.pointer (some ⟨b1,0,none⟩),.pointer (some ⟨b2,0,none⟩)] w λe w'=>e=.returned (.tuple #[.int .i64 (Ck.some 8 (λ_ p=>Ck.part fg.n p) ps).1,.int .i64 ((Ck.some 8 (λ_ p=>Ck.part fg.n p) ps).2:Int)])/\Mod [] w w' :=
 yJ (J:=λ_ W=>Mod [] w W) (bM w) (λ_ W m=>hr.mod eE.stay m) (λi x cs W _ m h=>by
  obtain ⟨rfl,-,hx,hy⟩:=h
  exact bL (AB _ x.glyph x.x x.y fb tf u fg fc fl ff fx fr fn fv W hx hy (hfb.kept m zk)) m) (λa w=>by kernel_rfl) b0 b1 b2 w mR hb
theorem nu {l:List bh} {mark:Bool} {o:Option Addr} {c B b0 b1 b2 ab am mb tb tm:Nat} {W0 w:World} (m0:Mod [] W0 w) (hn:W0.heap.size<=mb) (hab:Blk w ab #[.bool mark] tb) (ham:Blk w am #[.map (some mb)] tm) (hmb:Gm.cJ kD w mb []) (hr:Rows 4 dD B W0 (.slice o l.length c) l)
  (hb:w.cell? ⟨b0,0,none⟩=some (.slice o l.length c)/\w.cell? ⟨b1,0,none⟩=some (.int .i64 ((16:Nat):Int))/\w.cell? ⟨b2,0,none⟩=some (.func (.func 143) #[] #[.pointer (some ⟨ab,0,none⟩),.pointer (some ⟨am,0,none⟩)])) :
  Calls Tryz.prog 141 #[.pointer (some ⟨b0,0,none⟩),.pointer (some ⟨b1,0,none⟩),.pointer (some ⟨b2,0,none⟩)] w λe w'=>e=.returned (.tuple #[.int .i64 (Ck.anchors mark l).1,.int .i64 ((Ck.anchors mark l).2:Int)])/\Mod [mb] w w' :=
 have n1:=hab.wT hmb
 have n2:=ham.wT hmb
 ui (F:=[mb]) (J:=λi W=>Mod [mb] w W/\∃ m,Gm.cJ kD W mb m/\AM l i m) (f:=λi a=>Ck.anchor mark (l.take i) a)
  (λi W W' h m=>⟨h.1.then (m.more zk),h.2.elim λk hk=>⟨k,hk.1.mod m zk,hk.2⟩⟩)
  (λ_ W h=>hr.mod dD.stay (m0.trans h.1 (λx hx hlt=>by simp at hx;omega)))
  (λi x cs W hi h hq=>by
   obtain ⟨mW,m,hG,hA⟩:=h;obtain ⟨rfl,hk,hc,hx,hy⟩:=hq;have hil:i<l.length:=(gI.1 hi).1;have hix:l[i]=x:=(gI.1 hi).2;refine (uG _ x.kind x.cls x.x x.y mark ab am mb tm m ((l.take i).any λb=>b.kind == x.kind && b.cls == x.cls) W hk hc hx hy ((hab.kept mW (by simpa using n1)).cell 0) (ham.kept mW (by simpa using n2)) hG (hA _)).mono ?_;rintro e W' ⟨rfl,m',h0⟩
   refine ⟨rfl,m',λhz=>⟨mW.then m',_,h0 hz,hA.add hil _ (by rw [hix]) (Ck.uF hz)⟩⟩)
  (λa w=>by kernel_rfl) b0 b1 b2 w ⟨mR,[],hmb,AM.start l⟩ hb
theorem pJ {l:List co} {regions points:Nat} {o:Option Addr} {c B b0 b1 b2 dr dp da tr tp:Nat} {W0 w:World} (m0:Mod [] W0 w) (hn:W0.heap.size<=da) (hdr:Blk w dr #[.int .i64 (regions:Int)] tr) (hdp:Blk w dp #[.int .i64 (points:Int)] tp) (hda:Blk w da #[.int .i64 0,.int .i64 0] 191) (hr:Rows 4 er B W0 (.slice o l.length c) l)
  (hb:w.cell? ⟨b0,0,none⟩=some (.slice o l.length c)/\w.cell? ⟨b1,0,none⟩=some (.int .i64 ((400:Nat):Int))/\w.cell? ⟨b2,0,none⟩=some (.func (.func 146) #[] #[.pointer (some ⟨dr,0,none⟩),.pointer (some ⟨dp,0,none⟩),.pointer (some ⟨da,0,none⟩)])) :
  Calls Tryz.prog 144 #[.pointer (some ⟨b0,0,none⟩),.pointer (some ⟨b1,0,none⟩),.pointer (some ⟨b2,0,none⟩)] w λe w'=>e=.returned (.tuple #[.int .i64 (Ck.deltas regions points l).1,.int .i64 ((Ck.deltas regions points l).2:Int)])/\Mod [da] w w' :=
 have n1:=hdr.ne hda zk
 have n2:=hdp.ne hda zk
 wj (F:=[da]) (J:=λi W=>Mod [da] w W/\Blk W da #[.int .i64 (Ck.ij l i).1,.int .i64 (Ck.ij l i).2] 191) (f:=λi d=>Ck.delta regions points i (Ck.ij l i) d)
  (λi W W' h m=>⟨h.1.then (m.more zk),h.2.kept m zk⟩)
  (λ_ W h=>hr.mod er.stay (m0.trans h.1 (λx hx hlt=>by simp at hx;omega)))
  (λi x cs W hi h hq=>by
   obtain ⟨mW,hB⟩:=h;obtain ⟨rfl,-,-,hx,hy⟩:=hq;refine (wG i regions points x.region x.point x.x x.y _ _ dr dp da W hx hy ((hdr.kept mW (by simpa using n1)).cell 0) ((hdp.kept mW (by simpa using n2)).cell 0) hB).mono ?_;rintro e W' ⟨rfl,m',h0⟩;refine ⟨rfl,m',λhz=>⟨mW.then m',?_⟩⟩;have:=h0 hz;rw [show Ck.ij l (i+1)=(x.region,x.point) by simp only [Ck.ij,hi]]
   exact this)
  (λa w=>by kernel_rfl) b0 b1 b2 w ⟨mR,hda⟩ hb
def Ck.looks (n regions:Nat) (g:av) (nm:Int):List Ck.Got :=
 [(nm,0),(Ck.shape g,0),Ck.some 8 (λ_ p=>Ck.part n p) g.parts,Ck.anchors g.mark g.anchors,Ck.deltas regions g.pts.length g.deltas,(Ck.program g.hint,0)]
theorem um {u:Int} {fg fc fl ff fx fr fn fv:Hd} {g:av} {nm:Int} {B fb gb eb:Nat} {lp la ld:Value} {ab am mb dr dp da:Nat} {W0 w:World} (S:GSt u fg fc fl ff fx fr fn fv g nm B fb gb eb lp la ld ab am mb dr dp da W0 w)
  (sb ts c:Nat) (hs:Blk w sb #[.func (.func 82) #[] #[.pointer (some ⟨eb,0,none⟩)],.func (.func 83) #[] #[.pointer (some ⟨gb,0,none⟩)],lp,la,ld,.func (.func 92) #[] #[.pointer (some ⟨gb,0,none⟩)]] ts) :
  Calls Tryz.prog 50 #[.slice (some ⟨sb,0,none⟩) 6 c] w λe w'=>e=.returned (.tuple #[.int .i64 (Ck.first (Ck.looks fg.n fr.n g nm)).1,.int .i64 ((Ck.first (Ck.looks fg.n fr.n g nm)).2:Int)])/\Mod [mb,da] w w':=by
 obtain ⟨tf,hfb⟩:=S.hfb;obtain ⟨gcs,tg,hgb,hgr⟩:=S.hgb;obtain ⟨te,heb⟩:=S.heb;obtain ⟨o1,c1,⟨p0,p1,p2,tp0,tp1,tp2,rfl,P0,P1,P2⟩,hP⟩:=S.hlp;obtain ⟨o2,c2,⟨a0,a1,a2,ta0,ta1,ta2,rfl,A0,A1,A2⟩,hA⟩:=S.hla;obtain ⟨o3,c3,⟨d0,d1,d2,td0,td1,td2,rfl,D0,D1,D2⟩,hD⟩:=S.hld;obtain ⟨tab,hab⟩:=S.hab;obtain ⟨tam,ham⟩:=S.ham;obtain ⟨tdr,hdr⟩:=S.hdr;obtain ⟨tdp,hdp⟩:=S.hdp;have m0:=S.mod;have hmb:=S.hmb;have hda:=S.hda;have hgz:gcs.toArray.size≠2:=by
  obtain ⟨v3,v4,v5,v6,v7,v8,rfl,-⟩:=hgr;simp
 have W0m:∀ {W:World},Mod [mb,da] w W->Mod [] W0 W:=λm=>m0.trans m (λx hx hlt=>by
  have h1:=S.mbn;have h2:=S.dan;simp at hx
  rcases hx with rfl | rfl <;> omega)
 have kp:∀ {b t:Nat} {cs:Array Value} {W:World},Blk w b cs t->cs.size≠2->Mod [mb,da] w W->Blk W b cs t:=λhb hz m=>hb.kept m (by
  have h1:=hb.wT hmb;have h2:=hb.ne hda (by simpa using hz)
  simp [h1,h2])
 refine (jj (F:=[mb,da]) (K:=6) (fn:=λk=>[82,83,139,141,144,92].getD k 0)
  (caps:=λk=>([#[.pointer (some ⟨eb,0,none⟩)],#[.pointer (some ⟨gb,0,none⟩)],#[.pointer (some ⟨p0,0,none⟩),.pointer (some ⟨p1,0,none⟩),.pointer (some ⟨p2,0,none⟩)],#[.pointer (some ⟨a0,0,none⟩),.pointer (some ⟨a1,0,none⟩),.pointer (some ⟨a2,0,none⟩)],
   #[.pointer (some ⟨d0,0,none⟩),.pointer (some ⟨d1,0,none⟩),.pointer (some ⟨d2,0,none⟩)],#[.pointer (some ⟨gb,0,none⟩)]]:List (Array Value)).getD k #[])
  (G:=λk=>(Ck.looks fg.n fr.n g nm).getD k (0,0)) (J:=λk W=>Mod [mb,da] w W/\(k<=3->Gm.cJ kD W mb [])/\(k<=4->Blk W da #[.int .i64 0,.int .i64 0] 191)) (Z:=λ_ W=>Mod [mb,da] w W)
  sb c w ⟨?call,?cf⟩ zd ?hF ?hJ ?hZ ?hc ⟨mR,λ_=>hmb,λ_=>hda⟩).mono λe w' h=>iH.list (Gs:=Ck.looks fg.n fr.n g nm) h (λh=>h.1) (λ_ h=>h)
 case cf =>
  intro k hk a W;have q0:(callFunc 82 a).run Tryz.prog W=.ok (.enter 82 a) W:=zt;have q1:(callFunc 83 a).run Tryz.prog W=.ok (.enter 83 a) W:=zt;have q2:(callFunc 139 a).run Tryz.prog W=.ok (.enter 139 a) W:=zt;have q3:(callFunc 141 a).run Tryz.prog W=.ok (.enter 141 a) W:=zt;have q4:(callFunc 144 a).run Tryz.prog W=.ok (.enter 144 a) W:=zt;have q5:(callFunc 92 a).run Tryz.prog W=.ok (.enter 92 a) W:=zt
  match k,hk with
  | 0,_=>simp only [List.getD_cons_zero,List.getD_cons_succ];exact q0
  | 1,_=>simp only [List.getD_cons_zero,List.getD_cons_succ];exact q1
  | 2,_=>simp only [List.getD_cons_zero,List.getD_cons_succ];exact q2
  | 3,_=>simp only [List.getD_cons_zero,List.getD_cons_succ];exact q3
  | 4,_=>simp only [List.getD_cons_zero,List.getD_cons_succ];exact q4
  | 5,_=>simp only [List.getD_cons_zero,List.getD_cons_succ];exact q5
 case hF =>
  intro x hx;simp at hx;rcases hx with rfl | rfl
  ·exact hmb.lt
  ·exact hda.lt
 case hJ=>exact λk W W' h b=>⟨h.1.below' b,λhk=>(h.2.1 hk).of (b.block _ hmb.lt),λhk=>(b.block _ hda.lt).trans (h.2.2 hk)⟩
 case hZ=>exact λk W W' h b=>h.below' b
 case hc =>
  intro k W hk h;have q:=kp hs zk h.1;have:=q.cell k;rw [this]
  match k,hk with
  | 0,_=>rfl
  | 1,_=>rfl
  | 2,_=>rfl
  | 3,_=>rfl
  | 4,_=>rfl
  | 5,_=>rfl
 case call =>
  intro k W hk h;have nx:∀ {W':World},Mod [] W W'->(Mod [mb,da] w W'/\(k+1<=3->Gm.cJ kD W' mb [])/\(k+1<=4->Blk W' da #[.int .i64 0,.int .i64 0] 191)):=λm =>
   ⟨h.1.then (m.more zk),λhk=>(h.2.1 zo).mod m zk,λhk=>(h.2.2 zo).kept m zk⟩
  match k,hk with
  | 0,_=>exact (D5 eb nm W ((kp heb zk h.1).cell 0)).mono λe W' q=>⟨q.1,q.2.more zk,λ_=>nx q.2,λ_=>(nx q.2).1⟩
  | 1,_=>exact (D4 B gb g W ⟨gcs,tg,kp hgb hgz h.1,aI.stay _ _ _ _ _ hgr ((W0m h.1).above B)⟩).mono λe W' q=>⟨q.1,q.2.more zk,λ_=>nx q.2,λ_=>(nx q.2).1⟩
  | 2,_=>exact (pW (kp hfb (by simp [af]) h.1) (hP.mod eE.stay (W0m h.1)) ⟨(kp P0 zk h.1).cell 0,(kp P1 zk h.1).cell 0,(kp P2 zk h.1).cell 0⟩).mono λe W' q=>⟨q.1,q.2.more zk,λ_=>nx q.2,λ_=>(nx q.2).1⟩
  | 3,_ =>
   refine (nu (W0m h.1) S.mbn (kp hab zk h.1) (kp ham zk h.1) (h.2.1 zo) hA ⟨(kp A0 zk h.1).cell 0,(kp A1 zk h.1).cell 0,(kp A2 zk h.1).cell 0⟩).mono λe W' q=>?_
   have hne:da≠mb:=λe=>(hda.wT hmb) e
   have m2:=q.2.more (l':=[mb,da]) zk;exact ⟨q.1,m2,λ_=>⟨h.1.then m2,λhk=>absurd hk zo,λ_=>(h.2.2 zo).kept q.2 zpg⟩,λ_=>h.1.then m2⟩
  | 4,_ =>
   refine (pJ (W0m h.1) S.dan (kp hdr zk h.1) (kp hdp zk h.1) (h.2.2 zo) hD ⟨(kp D0 zk h.1).cell 0,(kp D1 zk h.1).cell 0,(kp D2 zk h.1).cell 0⟩).mono λe W' q=>?_
   have m2:=q.2.more (l':=[mb,da]) zk;exact ⟨q.1,m2,λ_=>⟨h.1.then m2,λhk=>absurd hk zo,λhk=>absurd hk zo⟩,λ_=>h.1.then m2⟩
  | 5,_=>exact (DZ B gb g W ⟨gcs,tg,kp hgb hgz h.1,aI.stay _ _ _ _ _ hgr ((W0m h.1).above B)⟩).mono λe W' q=>⟨q.1,q.2.more zk,λ_=>nx q.2,λ_=>(nx q.2).1⟩
theorem gB {a:Addr} {n c B:Nat} {l:List Int} {W0:World} (h:Rows 1 bn B W0 (.slice (some a) n c) l) (i:Nat) (hi:i<l.length) (W:World) (m:Mod [] W0 W):W.cell? (a.add i)=some (.int .i64 l[i]):=by
 obtain ⟨a2,ha2,-,cs2,-,hd0,hdj,rfl,-⟩:=(h.mod bn.stay m).at i hi;obtain rfl:a=a2:=by injection ha2
 have c1:=hd0 zd;simpa only [Nat.mul_one,gZ] using c1
theorem yR (u:Int) (fg fc fl ff fx fr fn fv:Hd) (oa:Option Addr) (n c:Nat) (l:List Int) (B:Nat) (w:World) (h:Rows 1 bn B w (.slice oa n c) l) :
  Calls Tryz.prog 158 #[.agg (af u fg fc fl ff fx fr fn fv),.slice oa n c] w λe w'=>e=.returned (.bool (Ck.cQ fg.n l))/\Mod [] w w':=by
 obtain ⟨_,_,he,hml⟩:=h.form;obtain rfl:n=l.length:=by cases he;rfl
 clear he;have HML:=Hi (show l.length<=9223372036854775807 from hml);have HG:=Hi (λgx W=>iM u fg fc fl ff fx fr fn fv gx W);have T:=Hi (own1 w (af u fg fc fl ff fx fr fn fv) 32);have HR:=Hi (h.mod bn.stay T.o.mod);have HS:=Hi (λW m=>rK oa l.length c l B W (HR.o.mod bn.stay m));clear h hml;obtain ⟨D,hD⟩:∃ D,Ck.cQ fg.n l=D:=⟨_,rfl⟩
 rw [hD];have HD:=Hi hD;clear hD;unfold Ck.cQ at HD;unfold af at HG T HR HS ⊢
 by_cases h0:0<l.length
 case neg =>
  have k1:=dF (p:=(0:Int)<l.length) zo;have k2:=dF (p:=0<l.length) h0;obtain rfl:false=D:=by have:=HD.o;rwa [k2,Bool.false_and,Bool.false_and,Bool.false_and] at this
  clear HD h0;go_enter Tryz.func158,Tryz.ntmps158;go_upto_region 1 with fail;generalize w.alloc (.cells #[.int .i64 u,.slice fg.a fg.n fg.c,.slice fc.a fc.n fc.c,.slice fl.a fl.n fl.c,.slice ff.a ff.n ff.c,.slice fx.a fx.n fx.c,.slice fr.a fr.n fr.c,.slice fn.a fn.n fn.c,.slice fv.a fv.n fv.c] 32)=W0 at *
  refine ak 24 [true,true,true,true,true,true,true,true,true,true,true,true,true,true,true,true,true,true,true,true,true,true,true,true] [] zt zt zk ?_;simp only [aQ]
  iterate 4
   refine sv ?_
  iterate 2 refine sp ?_
  iterate 2
   refine sv ?_
  iterate 5 refine sp ?_
  iterate 2
   refine sv ?_
  iterate 8 refine sp ?_
  refine sv ?_;refine au ?_;refine aB (λw' hw' _=>?_);simp only [qS,qZ];go_wp2;go_ret;exact ⟨rfl,T.o.mod.then hw'⟩
 have k1:=dT (p:=(0:Int)<l.length) zo;have k2:=dT (p:=0<l.length) h0
 by_cases h1:Ck.rising l=true
 case neg =>
  obtain rfl:false=D:=by have:=HD.o;rwa [Bool.eq_false_iff.2 h1,Bool.and_false,Bool.false_and,Bool.false_and] at this
  rw [Bool.eq_false_iff.2 h1] at HS;clear HD h0 h1;go_enter Tryz.func158,Tryz.ntmps158;go_upto_region 1 with fail;generalize w.alloc (.cells #[.int .i64 u,.slice fg.a fg.n fg.c,.slice fc.a fc.n fc.c,.slice fl.a fl.n fl.c,.slice ff.a ff.n ff.c,.slice fx.a fx.n fx.c,.slice fr.a fr.n fr.c,.slice fn.a fn.n fn.c,.slice fv.a fv.n fv.c] 32)=W0 at *
  refine ak 24 [true,true,true,true,true,true,true,true,true,true,true,true,true,true,true,true,true,true,true,true,true,true,true,true] [] zt zt zk ?_;simp only [aQ]
  iterate 5
   refine sv ?_
  refine sk (λW m=>HS.o W m) ?_
  iterate 2
   refine sv ?_
  iterate 5 refine sp ?_
  iterate 2
   refine sv ?_
  iterate 8 refine sp ?_
  refine sv ?_;refine au ?_;refine aB (λw' hw' _=>?_);simp only [qS,qZ];go_wp2;go_ret;exact ⟨rfl,T.o.mod.then hw'⟩
 rw [h1] at HS;have j1:l.length - 1<l.length:=zo;have e0:l.getD 0 0=l[0]:=by rw [List.getD_eq_getElem?_getD,gE h0];rfl
 have e1:l.getD (l.length - 1) 0=l[l.length - 1]:=by rw [List.getD_eq_getElem?_getD,gE j1];rfl
 rw [h1,k2,e0,e1] at HD;have ej:IntKind.i64.wrap ((l.length:Int) - 1)=((l.length - 1:Nat):Int):=by rw [show (l.length:Int) - 1=((l.length - 1:Nat):Int) by omega];exact IntWalk.i64_in _ zqh
 have k4:(0:Int)<=((l.length - 1:Nat):Int):=zo;have k5:((l.length - 1:Nat):Int)<(l.length:Int):=zo;have k6:(0:Int)<l.length:=zo;obtain ⟨a,rfl,-⟩:=HR.o.at 0 h0;have A0:=λW m=>(congrArg (World.cell? W) (show a.add 0=a by simp [Addr.add])).symm.trans (gB HR.o 0 h0 W m)
 have A1:=gB HR.o (l.length - 1) j1;generalize l[0]=x at *
 generalize l[l.length - 1]=y at *
 generalize l.length - 1=j at *
 have HG0:=Hi (λW=>HG.o x W);have HG1:=Hi (λW=>HG.o y W);clear HG h0 h1 j1 e0 e1;generalize Ck.bo fg.n x=bx at *
 generalize Ck.bo fg.n y=by' at *
 cases bx with
 | false =>
  obtain rfl:false=D:=by simpa using HD.o
  clear HD;go_enter Tryz.func158,Tryz.ntmps158;go_upto_region 1 with fail;generalize w.alloc (.cells #[.int .i64 u,.slice fg.a fg.n fg.c,.slice fc.a fc.n fc.c,.slice fl.a fl.n fl.c,.slice ff.a ff.n ff.c,.slice fx.a fx.n fx.c,.slice fr.a fr.n fr.c,.slice fn.a fn.n fn.c,.slice fv.a fv.n fv.c] 32)=W0 at *
  have AF:=(T.o.at 0 rfl).every;refine ak 24 [true,true,true,true,true,true,true,true,true,true,true,true,true,true,true,true,true,true,true,true,true,true,true,true] [] zt zt zk ?_;simp only [aQ]
  iterate 5
   refine sv ?_
  refine sk (λW m=>HS.o W m) ?_
  iterate 6
   refine sv ?_
  refine sk (λW m=>HG0.o W) ?_
  iterate 2
   refine sv ?_
  iterate 8 refine sp ?_
  refine sv ?_;refine au ?_;refine aB (λw' hw' _=>?_);simp only [qS,qZ];go_wp2;go_ret;exact ⟨rfl,T.o.mod.then hw'⟩
 | true =>
  obtain rfl:by'=D:=by simpa using HD.o
  clear HD;go_enter Tryz.func158,Tryz.ntmps158;go_upto_region 1 with fail;generalize w.alloc (.cells #[.int .i64 u,.slice fg.a fg.n fg.c,.slice fc.a fc.n fc.c,.slice fl.a fl.n fl.c,.slice ff.a ff.n ff.c,.slice fx.a fx.n fx.c,.slice fr.a fr.n fr.c,.slice fn.a fn.n fn.c,.slice fv.a fv.n fv.c] 32)=W0 at *
  have AF:=(T.o.at 0 rfl).every;refine ak 24 [true,true,true,true,true,true,true,true,true,true,true,true,true,true,true,true,true,true,true,true,true,true,true,true] [] zt zt zk ?_;simp only [aQ]
  iterate 5
   refine sv ?_
  refine sk (λW m=>HS.o W m) ?_
  iterate 6
   refine sv ?_
  refine sk (λW m=>HG0.o W) ?_
  iterate 9
   refine sv ?_
  refine sk (λW m=>HG1.o W) ?_;refine sv ?_;refine au ?_;refine aB (λw' hw' _=>?_);simp only [qS,qZ];go_wp2;go_ret;exact ⟨rfl,T.o.mod.then hw'⟩
theorem sG {oa:Option Addr} {n c B:Nat} {l:List (List Int)} {W0:World} (h:Rows 1 eW B W0 (.slice oa n c) l) (i:Nat) (hi:i<l.length) :
  ∃ a:Addr,oa=some a/\∃ o d,∀ W,Mod [] W0 W->W.cell? (a.add i)=some (.slice o l[i].length d):=by
 obtain ⟨a,ha,-,cs,-,hc0,-,v,rfl,hv⟩:=h.at i hi;obtain ⟨o,d,rfl,-⟩:=hv.form;have c0:=hc0 zd;simp only [Nat.mul_one,gZ] at c0;exact ⟨a,ha,o,d,λW m=>(m.cell (aV c0) zk).trans c0⟩
theorem beqn (n:Nat) (k:Nat):((n:Int) == (k:Int))=(n == k):=by
 rw [Bool.eq_iff_iff];simp;omega
theorem deqn (n:Nat) (k:Nat):decide ((n:Int)=(k:Int))=(n == k):=by
 rw [Bool.eq_iff_iff];simp;omega
theorem rM (kind:Int) (cs:List Value) (r:aN) (B:Nat) (w:World) (h:dW B w cs r) (hk:kind=1∨kind=5->0<r.ins.length) :
  Calls Tryz.prog 160 #[.int .i64 kind,.agg cs.toArray] w λe w'=>e=.returned (.bool (Ck.cP kind r))/\Mod [] w w':=by
 obtain ⟨v0,v1,v2,v3,v4,rfl,h0,h1,h2,h3,h4,-⟩:=h;obtain ⟨o0,d0,rfl,-⟩:=h0.form;obtain ⟨o1,d1,rfl,-⟩:=h1.form;obtain ⟨o2,d2,rfl,-⟩:=h2.form;obtain ⟨o3,d3,rfl,-⟩:=h3.form;obtain ⟨o4,d4,rfl,-⟩:=h4.form;have T:=Hi (own1 w #[.slice o0 r.back.length d0,.slice o1 r.ins.length d1,.slice o2 r.ahead.length d2,.slice o3 r.o.length d3,.slice o4 r.calls.length d4,.int .i64 r.x] 54);have H1:=Hi (h1.mod eW.stay T.o.mod);clear h0 h1 h2 h3 h4;obtain ⟨D,hD⟩:∃ D,Ck.cP kind r=D:=⟨_,rfl⟩
 rw [hD];have HD:=Hi hD;clear hD;unfold Ck.cP at HD;obtain ⟨back,ins,ahead,out,calls,x⟩:=r;simp only at HD T H1 hk ⊢;have c3:=(T.o.at 0 rfl).cell 3
 by_cases q:kind=1∨kind=5
 ·have hl:=hk q;have e0:ins.getD 0 []=ins[0]:=by rw [List.getD_eq_getElem?_getD,gE hl];rfl
  rw [if_pos q,e0] at HD;have k6:(0:Int)<ins.length:=zo;obtain ⟨a,rfl,o,c,A0⟩:=sG H1.o 0 hl;have A0:=λW m=>(congrArg (World.cell? W) (show a.add 0=a by simp [Addr.add])).symm.trans (A0 W m)
  generalize ins[0]=s at *
  have e1:=beqn out.length s.length;have e2:=deqn out.length s.length;have e3:decide (out.length=s.length)=(out.length == s.length):=by rw [Bool.eq_iff_iff];simp
  generalize (out.length == s.length)=D1 at *
  obtain rfl:D1=D:=HD.o;clear HD hk hl e0 H1 c3
  rcases q with rfl | rfl <;> (
   go_enter Tryz.func160,Tryz.ntmps160
   go_upto_region 4 with fail
   generalize w.alloc (.cells #[.slice o0 back.length d0,.slice (some a) ins.length d1,.slice o2 ahead.length d2,.slice o3 out.length d3,.slice o4 calls.length d4,.int .i64 x] 54)=W0 at *
   have AF:=(T.o.at 0 rfl).every
   refine ak 9 [true,true,true,true,true,true,true,true,true] [] zt zt zk ?_
   simp only [aQ]
   iterate 9
    refine sv ?_
   refine au ?_
   refine aB (λw' hw' _=>?_)
   simp only [qS,qZ]
   go_wp2
   go_ret
   exact ⟨rfl,T.o.mod.then hw'⟩)
 rw [if_neg q] at HD;clear hk;have q1:¬ kind=1:=λh=>q (.inl h)
 have q5:¬ kind=5:=λh=>q (.inr h)
 clear q
 by_cases h2:kind=2
 ·subst h2;rw [if_pos rfl] at HD;obtain ⟨b,g⟩:=bits ((out.length:Int)<=6);have g2:decide (out.length<=6)=b:=by rw [<- g,Bool.eq_iff_iff];simp;omega
  rw [g2] at HD;obtain rfl:b=D:=HD.o;clear HD q1 q5;go_enter Tryz.func160,Tryz.ntmps160;go_wp2;go_ret;exact ⟨rfl,T.o.mod⟩
 rw [if_neg h2] at HD
 by_cases h3:kind=3
 ·subst h3;rw [if_pos rfl] at HD;have e1:((out.length:Int) == 1)=(out.length == 1):=beqn out.length 1;have e2:decide ((out.length:Int)=1)=(out.length == 1):=deqn out.length 1;generalize (out.length == 1)=b at *
  obtain rfl:b=D:=HD.o;clear HD q1 q5 h2;go_enter Tryz.func160,Tryz.ntmps160;go_wp2;go_ret;exact ⟨rfl,T.o.mod⟩
 rw [if_neg h3] at HD;have e1:((out.length:Int) == 0)=(out.length == 0):=beqn out.length 0;have e2:decide ((out.length:Int)=0)=(out.length == 0):=deqn out.length 0;generalize (out.length == 0)=b at *
 obtain rfl:b=D:=HD.o;have p1:=dF (p:=kind=1) q1;have p2:=dF (p:=kind=2) h2;have p5:=dF (p:=kind=5) q5;have p3:=dF (p:=kind=3) h3;have r1:(kind == 1)=false:=beq_false_of_ne q1;have r2:(kind == 2)=false:=beq_false_of_ne h2;have r5:(kind == 5)=false:=beq_false_of_ne q5;have r3:(kind == 3)=false:=beq_false_of_ne h3;clear q1 h2 q5 h3 HD;go_enter Tryz.func160,Tryz.ntmps160;go_wp2;go_ret;exact ⟨rfl,T.o.mod⟩
theorem zv (idx:Value) (p q:Int) (m n d1 dl B rb fb:Nat) (o1 ol:Option Addr) (lk:List ar) (w:World) (h2:w.cell? ⟨rb,1,none⟩=some (.slice o1 m d1)) (h3:w.cell? ⟨fb,3,none⟩=some (.slice ol n dl))
  (hL:Rows 3 aJ B w (.slice ol n dl) lk) :
  Calls Tryz.prog 176 #[idx,.agg #[.int .i64 p,.int .i64 q],.pointer (some ⟨rb,0,none⟩),.pointer (some ⟨fb,0,none⟩)] w λe w'=>e=.returned (.int .i64 (Ck.call lk m ⟨p,q⟩))/\Mod [] w w':=by
 obtain ⟨_,_,he,hml⟩:=hL.form;obtain rfl:n=lk.length:=by cases he;rfl
 clear he hml;have T:=Hi (own1 w #[.int .i64 p,.int .i64 q] 51);have H2:=Hi h2;have H3:=Hi h3;have HL:=Hi (hL.mod aJ.stay T.o.mod);have c0:=(T.o.at 0 rfl).cell 0;have c1:=(T.o.at 0 rfl).cell 1;have c2:=(T.o.mod.cell (p:=⟨rb,1,none⟩) (aV h2) zk).trans h2;have c3:=(T.o.mod.cell (p:=⟨fb,3,none⟩) (aV h3) zk).trans h3;clear h2 h3 hL;obtain ⟨D,hD⟩:∃ D,Ck.call lk m ⟨p,q⟩=D:=⟨_,rfl⟩
 rw [hD];have HD:=Hi hD;clear hD;unfold Ck.call at HD;simp only at HD
 by_cases h1:p<0
 ·have k1:=dT (p:=p<(0:Int)) h1;obtain rfl:(40:Int)=D:=by have:=HD.o;rwa [if_pos (.inl h1)] at this
  clear HD h1;go_enter Tryz.func176,Tryz.ntmps176;go_wp2;go_ret;exact ⟨rfl,T.o.mod⟩
 have k1:=dF (p:=p<(0:Int)) h1
 by_cases h2:(m:Int)<=p
 ·have k2:=dT (p:=(m:Int)<=p) h2;obtain rfl:(40:Int)=D:=by have:=HD.o;rwa [if_pos (.inr h2)] at this
  clear HD h1 h2;go_enter Tryz.func176,Tryz.ntmps176;go_wp2;go_ret;exact ⟨rfl,T.o.mod⟩
 have k2:=dF (p:=(m:Int)<=p) h2;rw [if_neg zo] at HD;clear h1 h2
 by_cases h3:q<0
 ·have k3:=dT (p:=q<(0:Int)) h3;obtain rfl:(42:Int)=D:=by have:=HD.o;rwa [if_pos (.inl h3)] at this
  clear HD h3;go_enter Tryz.func176,Tryz.ntmps176;go_wp2;go_ret;exact ⟨rfl,T.o.mod⟩
 have k3:=dF (p:=q<(0:Int)) h3
 by_cases h4:(lk.length:Int)<=q
 ·have k4:=dT (p:=(lk.length:Int)<=q) h4;obtain rfl:(42:Int)=D:=by have:=HD.o;rwa [if_pos (.inr h4)] at this
  clear HD h3 h4;go_enter Tryz.func176,Tryz.ntmps176;go_wp2;go_ret;exact ⟨rfl,T.o.mod⟩
 have k4:=dF (p:=(lk.length:Int)<=q) h4;rw [if_neg zo] at HD;obtain ⟨k,rfl⟩:∃ k:Nat,q=k:=⟨q.toNat,by omega⟩
 have hk:k<lk.length:=zo;rw [Int.toNat_natCast,gE hk] at HD;simp only at HD;obtain ⟨a,rfl,-,cs,-,hc0,hcj,v2,rfl,-,-⟩:=HL.o.at k hk;have a0:=hc0 zd;simp only [gZ] at a0;generalize lk[k]=x at *
 obtain ⟨b1,g1⟩:=bits (x.kind<(1:Int));obtain ⟨b2,g2⟩:=bits ((4:Int)<x.kind);have k5:(0:Int)<=k:=zo;have k6:(k:Int)<lk.length:=zo;have k7:=dT (p:=k<lk.length) hk;have k8:=dF (p:=lk.length<=k) zo;rw [g1,g2] at HD;have HW:=Hi (λb W=>cE b 42 W);clear hc0 hcj h3 h4 hk;cases b1 <;> cases b2 <;>
  (go_enter Tryz.func176,Tryz.ntmps176;go_wp2_with fail;refine (HW.o _ _).mono ?_;rintro e w1 ⟨rfl,rfl⟩;go_wp2;go_ret;exact ⟨by rw [<- HD.o] <;> rfl,T.o.mod⟩)
theorem zu (u:Int) (fg fc fl ff fx fr fn fv:Hd) (kind:Int) (cs:List Value) (r:aN) (lk:List ar) (B:Nat) (w:World) (h:dW B w cs r) (hL:Rows 3 aJ B w (.slice fl.a fl.n fl.c) lk) :
  Calls Tryz.prog 164 #[.agg (af u fg fc fl ff fx fr fn fv),.int .i64 kind,.agg cs.toArray] w λe w'=>e=.returned (.int .i64 (Ck.calls lk kind r))/\Mod [] w w':=by
 obtain ⟨v0,v1,v2,v3,v4,rfl,h0,h1,h2,h3,h4,-⟩:=h;obtain ⟨o0,d0,rfl,-⟩:=h0.form;obtain ⟨o1,d1,rfl,-⟩:=h1.form;obtain ⟨o2,d2,rfl,-⟩:=h2.form;obtain ⟨o3,d3,rfl,-⟩:=h3.form;obtain ⟨o4,d4,rfl,-⟩:=h4.form;have T:=Hi (own2 w (af u fg fc fl ff fx fr fn fv) 32 #[.slice o0 r.back.length d0,.slice o1 r.ins.length d1,.slice o2 r.ahead.length d2,.slice o3 r.o.length d3,.slice o4 r.calls.length d4,.int .i64 r.x] 54);have H4:=Hi (h4.mod iC.stay T.o.mod);have HL:=Hi (hL.mod aJ.stay T.o.mod);clear h0 h1 h2 h3 h4 hL;obtain ⟨D,hD⟩:∃ D,Ck.calls lk kind r=D:=⟨_,rfl⟩
 rw [hD];have HD:=Hi hD;clear hD;unfold Ck.calls at HD;have c4:=(T.o.at 1 rfl).cell 4;simp only [gA,gZ,gS] at c4;obtain ⟨back,ins,ahead,out,calls,x⟩:=r;simp only at HD T H4 c4 ⊢
 by_cases q1:(6:Int)<calls.length
 ·have k1:=dT (p:=(6:Int)<calls.length) q1;obtain rfl:(2:Int)=D:=by have:=HD.o;rwa [if_pos zo] at this
  unfold af at T c4 ⊢;clear q1 HD H4 HL;go_enter Tryz.func164,Tryz.ntmps164;go_wp2;go_ret;exact ⟨rfl,T.o.mod⟩
 have k1:=dF (p:=(6:Int)<calls.length) q1;rw [if_neg zo] at HD
 by_cases q2:(0:Int)<calls.length/\kind≠4
 ·have k2:=dT (p:=(0:Int)<calls.length) q2.1;have k3:=dT (p:=0<calls.length) zo;have k4:(kind != 4)=true:=by simpa using q2.2
  have k5:=dF (p:=kind=4) q2.2;have k6:(kind == 4)=false:=by simpa using q2.2
  obtain rfl:(40:Int)=D:=by have:=HD.o;rwa [if_pos ⟨by omega,q2.2⟩] at this
  unfold af at T c4 ⊢;clear q1 q2 HD H4 HL;go_enter Tryz.func164,Tryz.ntmps164;go_wp2;go_ret;exact ⟨rfl,T.o.mod⟩
 rw [if_neg zo] at HD
 have HC:=Hi (zg (F:=[]) (J:=λ_ W=>Mod [] ((w.alloc (.cells (af u fg fc fl ff fx fr fn fv) 32)).alloc (.cells #[.slice o0 back.length d0,.slice o1 ins.length d1,.slice o2 ahead.length d2,.slice o3 out.length d3,.slice o4 calls.length d4,.int .i64 x] 54)) W) (fn:=176) (caps:=#[.pointer (some ⟨w.heap.size+1,0,none⟩),.pointer (some ⟨w.heap.size,0,none⟩)])
  (f:=λ_ c=>Ck.call lk ins.length c) (bM _) (λ_ W m=>H4.o.mod iC.stay m) (λi y cs W hi m hr=>by
   obtain ⟨rfl,-,-⟩:=hr
   exact bL (zv _ y.pos y.lookup ins.length fl.n d1 fl.c B (w.heap.size+1) w.heap.size o1 fl.a lk W (((T.o.at 1 rfl).kept m zk).cell 1) (((T.o.at 0 rfl).kept m zk).cell 3) (HL.o.mod aJ.stay m)) m)
  (λa w=>by kernel_rfl) _ mR)
 unfold af at T HC c4 ⊢;clear HL H4
 by_cases q3:(0:Int)<calls.length
 ·have k2:=dT (p:=(0:Int)<calls.length) q3;have k3:=dT (p:=0<calls.length) zo;obtain rfl:kind=4:=by
   by_cases h:kind=4
   ·exact h
   ·exact absurd ⟨q3,h⟩ q2
  clear q1 q2 q3;go_enter Tryz.func164,Tryz.ntmps164;go_wp2_with fail;refine HC.o.mono ?_;rintro e w2 ⟨rfl,m2⟩;have HM:=Hi (T.o.mod.then m2);clear m2 c4 T HC;go_wp2;go_ret;exact ⟨by rw [<- HD.o] <;> rfl,HM.o⟩
 have k2:=dF (p:=(0:Int)<calls.length) q3;have k3:=dF (p:=0<calls.length) zo;clear q1 q2 q3;go_enter Tryz.func164,Tryz.ntmps164;go_wp2_with fail;refine HC.o.mono ?_;rintro e w2 ⟨rfl,m2⟩;have HM:=Hi (T.o.mod.then m2);clear m2 c4 T HC;go_wp2;go_ret;exact ⟨by rw [<- HD.o] <;> rfl,HM.o⟩
def jO (B rb:Nat) (r:aN) (w:World):Prop:=∃ (cs:List Value) (t:Nat),Blk w rb cs.toArray t/\dW B w cs r
def ef (u:Int) (fg fc fl ff fx fr fn fv:Hd) (fb:Nat) (w:World):Prop:=∃ t,Blk w fb (af u fg fc fl ff fx fr fn fv) t
theorem jO.kept {B rb:Nat} {r:aN} {w w':World} (h:jO B rb r w) (m:Mod [] w w'):jO B rb r w':=h.elim λcs h=>h.elim λt h=>⟨cs,t,h.1.kept m zk,dW.stay _ _ _ _ _ h.2 (m.above B)⟩
theorem ef.kept {u:Int} {fg fc fl ff fx fr fn fv:Hd} {fb:Nat} {w w':World} (h:ef u fg fc fl ff fx fr fn fv fb w) (m:Mod [] w w'):ef u fg fc fl ff fx fr fn fv fb w':=h.elim λt h=>⟨t,h.kept m zk⟩
theorem yc (B kb rb:Nat) (kind:Int) (r:aN) (w:World) (hk:w.cell? ⟨kb,0,none⟩=some (.int .i64 kind)) (hR:jO B rb r w) :
  Calls Tryz.prog 152 #[.pointer (some ⟨kb,0,none⟩),.pointer (some ⟨rb,0,none⟩)] w λe w'=>e=.returned (.tuple #[.int .i64 (Ck.rows kind r),.int .i64 0])/\Mod [] w w':=by
 obtain ⟨cs,t,hb,hr⟩:=hR;have HRR:=Hi hr;obtain ⟨v0,v1,v2,v3,v4,rfl,h0,h1,h2,h3,h4,h5⟩:=hr;have f0:=hb.cell 0;have f1:=hb.cell 1;have f2:=hb.cell 2;have f3:=hb.cell 3;have f4:=hb.cell 4;have f5:=hb.cell 5;simp only [gA,gZ,gS] at f0 f1 f2 f3 f4 f5;clear hb h0 h1 h2 h3 h4 h5;have HC:=Hi (Ao kind _ r B w HRR.o);clear HRR;go_enter Tryz.func152,Tryz.ntmps152;go_wp2_with fail;refine HC.o.mono ?_;rintro e w1 ⟨rfl,m1⟩;have HM:=Hi m1;clear m1 f0 f1 f2 f3 f4 f5 hk HC;go_wp2;go_ret2;exact ⟨rfl,HM.o⟩
theorem ya (B kb rb:Nat) (kind:Int) (r:aN) (w:World) (hi:kind=1∨kind=5->0<r.ins.length) (hk:w.cell? ⟨kb,0,none⟩=some (.int .i64 kind)) (hR:jO B rb r w) :
  Calls Tryz.prog 159 #[.pointer (some ⟨kb,0,none⟩),.pointer (some ⟨rb,0,none⟩)] w λe w'=>e=.returned (.tuple #[.int .i64 (Ck.when (!Ck.cP kind r) 40),.int .i64 0])/\Mod [] w w':=by
 obtain ⟨cs,t,hb,hr⟩:=hR;have HRR:=Hi hr;obtain ⟨v0,v1,v2,v3,v4,rfl,h0,h1,h2,h3,h4,h5⟩:=hr;have f0:=hb.cell 0;have f1:=hb.cell 1;have f2:=hb.cell 2;have f3:=hb.cell 3;have f4:=hb.cell 4;have f5:=hb.cell 5;simp only [gA,gZ,gS] at f0 f1 f2 f3 f4 f5;clear hb h0 h1 h2 h3 h4 h5;have HC:=Hi (rM kind _ r B w HRR.o hi);have HW:=Hi (λb W=>cE b 40 W);clear HRR hi;generalize Ck.cP kind r=b at *
 go_enter Tryz.func159,Tryz.ntmps159;go_wp2_with fail;refine HC.o.mono ?_;rintro e w1 ⟨rfl,m1⟩;have HM:=Hi m1;clear m1 f0 f1 f2 f3 f4 f5 hk HC;go_wp2_with fail;refine (HW.o _ _).mono ?_;rintro e w2 ⟨rfl,rfl⟩;go_wp2;go_ret2;exact ⟨rfl,HM.o⟩
theorem xY (u:Int) (fg fc fl ff fx fr fn fv:Hd) (B kb rb fb:Nat) (kind:Int) (r:aN) (lk:List ar) (w:World) (hL:Rows 3 aJ B w (.slice fl.a fl.n fl.c) lk) (hF:ef u fg fc fl ff fx fr fn fv fb w) (hk:w.cell? ⟨kb,0,none⟩=some (.int .i64 kind)) (hR:jO B rb r w) :
  Calls Tryz.prog 163 #[.pointer (some ⟨fb,0,none⟩),.pointer (some ⟨kb,0,none⟩),.pointer (some ⟨rb,0,none⟩)] w λe w'=>e=.returned (.tuple #[.int .i64 (Ck.calls lk kind r),.int .i64 0])/\Mod [] w w':=by
 obtain ⟨cs,t,hb,hr⟩:=hR;have HRR:=Hi hr;obtain ⟨v0,v1,v2,v3,v4,rfl,h0,h1,h2,h3,h4,h5⟩:=hr;have f0:=hb.cell 0;have f1:=hb.cell 1;have f2:=hb.cell 2;have f3:=hb.cell 3;have f4:=hb.cell 4;have f5:=hb.cell 5;simp only [gA,gZ,gS] at f0 f1 f2 f3 f4 f5;have HC:=Hi (zu u fg fc fl ff fx fr fn fv kind _ r lk B w HRR.o hL);unfold af at HC;clear hb h0 h1 h2 h3 h4 h5 HRR hL;obtain ⟨tf,hfb⟩:=hF;unfold af at hfb;have g0:=hfb.cell 0;have g1:=hfb.cell 1;have g2:=hfb.cell 2;have g3:=hfb.cell 3;have g4:=hfb.cell 4;have g5:=hfb.cell 5;have g6:=hfb.cell 6;have g7:=hfb.cell 7;have g8:=hfb.cell 8;simp only [gA,gZ,gS] at g0 g1 g2 g3 g4 g5 g6 g7 g8;clear hfb;go_enter Tryz.func163,Tryz.ntmps163;go_wp2_with fail;refine HC.o.mono ?_;rintro e w1 ⟨rfl,m1⟩;have HM:=Hi m1;clear m1 f0 f1 f2 f3 f4 f5 g0 g1 g2 g3 g4 g5 g6 g7 g8 hk HC;go_wp2;go_ret2;exact ⟨rfl,HM.o⟩
theorem xW (B kb rb:Nat) (kind:Int) (r:aN) (w:World) (hk:w.cell? ⟨kb,0,none⟩=some (.int .i64 kind)) (hR:jO B rb r w) :
  Calls Tryz.prog 166 #[.pointer (some ⟨rb,0,none⟩),.pointer (some ⟨kb,0,none⟩)] w λe w'=>e=.returned (.tuple #[.int .i64 (Ck.when (r.x != 0 && kind != 6) 40),.int .i64 0])/\Mod [] w w':=by
 obtain ⟨cs,t,hb,hr⟩:=hR;have HRR:=Hi hr;obtain ⟨v0,v1,v2,v3,v4,rfl,h0,h1,h2,h3,h4,h5⟩:=hr;have f0:=hb.cell 0;have f1:=hb.cell 1;have f2:=hb.cell 2;have f3:=hb.cell 3;have f4:=hb.cell 4;have f5:=hb.cell 5;simp only [gA,gZ,gS] at f0 f1 f2 f3 f4 f5;clear hb h0 h1 h2 h3 h4 h5 HRR f0 f1 f2 f3 f4;have HW:=Hi (λb W=>cE b 40 W);obtain ⟨b1,n0,n1,n2⟩:=neqf r.x 0;obtain ⟨b2,m0,m1,m2⟩:=neqf kind 6;simp only [n0,m0];cases b1 <;> cases b2 <;>
  (go_enter Tryz.func166,Tryz.ntmps166;go_wp2_with fail;refine (HW.o _ _).mono ?_;rintro e w1 ⟨rfl,rfl⟩;go_wp2;go_ret2;exact ⟨rfl,mR⟩)
theorem vB (u:Int) (fg fc fl ff fx fr fn fv:Hd) (fb:Nat) (idx:Value) (x:Int) (w:World) (hF:ef u fg fc fl ff fx fr fn fv fb w) :
  Calls Tryz.prog 162 #[idx,.int .i64 x,.pointer (some ⟨fb,0,none⟩)] w λe w'=>e=.returned (.int .i64 (Ck.when (!Ck.bo fg.n x) 32))/\Mod [] w w':=by
 obtain ⟨tf,hfb⟩:=hF;unfold af at hfb;have g0:=hfb.cell 0;have g1:=hfb.cell 1;have g2:=hfb.cell 2;have g3:=hfb.cell 3;have g4:=hfb.cell 4;have g5:=hfb.cell 5;have g6:=hfb.cell 6;have g7:=hfb.cell 7;have g8:=hfb.cell 8;simp only [gA,gZ,gS] at g0 g1 g2 g3 g4 g5 g6 g7 g8;clear hfb;have HC:=Hi (iM u fg fc fl ff fx fr fn fv x w);have HW:=Hi (λb W=>cE b 32 W);unfold af at HC;generalize Ck.bo fg.n x=b at *
 go_enter Tryz.func162,Tryz.ntmps162;go_wp2_with fail;refine HC.o.mono ?_;rintro e w1 ⟨rfl,m1⟩;have HM:=Hi m1;clear m1 g0 g1 g2 g3 g4 g5 g6 g7 g8 HC;go_wp2_with fail;refine (HW.o _ _).mono ?_;rintro e w2 ⟨rfl,rfl⟩;go_wp2;go_ret;exact ⟨rfl,HM.o⟩
theorem vC (u:Int) (fg fc fl ff fx fr fn fv:Hd) (fb:Nat) (idx:Value) (oa:Option Addr) (n c B:Nat) (l:List Int) (w:World) (hr:Rows 1 bn B w (.slice oa n c) l) (hF:ef u fg fc fl ff fx fr fn fv fb w) :
  Calls Tryz.prog 157 #[idx,.slice oa n c,.pointer (some ⟨fb,0,none⟩)] w λe w'=>e=.returned (.int .i64 (Ck.when (!Ck.cQ fg.n l) 41))/\Mod [] w w':=by
 obtain ⟨tf,hfb⟩:=hF;unfold af at hfb;have g0:=hfb.cell 0;have g1:=hfb.cell 1;have g2:=hfb.cell 2;have g3:=hfb.cell 3;have g4:=hfb.cell 4;have g5:=hfb.cell 5;have g6:=hfb.cell 6;have g7:=hfb.cell 7;have g8:=hfb.cell 8;simp only [gA,gZ,gS] at g0 g1 g2 g3 g4 g5 g6 g7 g8;clear hfb;have HC:=Hi (yR u fg fc fl ff fx fr fn fv oa n c l B w hr);have HW:=Hi (λb W=>cE b 41 W);clear hr;unfold af at HC;generalize Ck.cQ fg.n l=b at *
 go_enter Tryz.func157,Tryz.ntmps157;go_wp2_with fail;refine HC.o.mono ?_;rintro e w1 ⟨rfl,m1⟩;have HM:=Hi m1;clear m1 g0 g1 g2 g3 g4 g5 g6 g7 g8 HC;go_wp2_with fail;refine (HW.o _ _).mono ?_;rintro e w2 ⟨rfl,rfl⟩;go_wp2;go_ret;exact ⟨rfl,HM.o⟩
theorem xZ (u:Int) (fg fc fl ff fx fr fn fv:Hd) (B rb fb:Nat) (r:aN) (w:World) (hF:ef u fg fc fl ff fx fr fn fv fb w) (hR:jO B rb r w) :
  Calls Tryz.prog 161 #[.pointer (some ⟨rb,0,none⟩),.pointer (some ⟨fb,0,none⟩)] w λe w'=>e=.returned (.tuple #[.int .i64 (Ck.each (λ_ g=>Ck.when (!Ck.bo fg.n g) 32) r.o).1,.int .i64 ((Ck.each (λ_ g=>Ck.when (!Ck.bo fg.n g) 32) r.o).2:Int)])/\Mod [] w w':=by
 obtain ⟨cs,t,hb,hr⟩:=hR;have HRR:=Hi hr;obtain ⟨v0,v1,v2,v3,v4,rfl,h0,h1,h2,h3,h4,h5⟩:=hr;have f0:=hb.cell 0;have f1:=hb.cell 1;have f2:=hb.cell 2;have f3:=hb.cell 3;have f4:=hb.cell 4;have f5:=hb.cell 5;simp only [gA,gZ,gS] at f0 f1 f2 f3 f4 f5;obtain ⟨o3,d3,rfl,-⟩:=h3.form
 have HC:=Hi (jT (F:=[]) (J:=λ_ W=>Mod [] w W) (fn:=162) (caps:=#[.pointer (some ⟨fb,0,none⟩)])
  (f:=λ_ g=>Ck.when (!Ck.bo fg.n g) 32) (bM _) (λ_ W m=>h3.mod bn.stay m) (λi y cs W hi m hr=>by
   obtain ⟨rfl,-⟩:=hr
   exact bL (vB u fg fc fl ff fx fr fn fv fb _ y W (hF.kept m)) m)
  (λa w=>by kernel_rfl) _ mR)
 clear hb h0 h1 h2 h3 h4 h5 HRR f0 f1 f2 f4 f5;go_enter Tryz.func161,Tryz.ntmps161;go_wp2_with fail;refine HC.o.mono ?_;rintro e w1 ⟨rfl,m1⟩;have HM:=Hi m1;clear m1 f3 HC;go_wp2;go_ret2;exact ⟨rfl,HM.o⟩
theorem xX (B rb:Nat) (r:aN) (w:World) (hR:jO B rb r w) :
  Calls Tryz.prog 165 #[.pointer (some ⟨rb,0,none⟩)] w λe w'=>e=.returned (.tuple #[.int .i64 (Ck.when (!Ck.may r.x) 1),.int .i64 0])/\Mod [] w w':=by
 obtain ⟨cs,t,hb,hr⟩:=hR;have HRR:=Hi hr;obtain ⟨v0,v1,v2,v3,v4,rfl,h0,h1,h2,h3,h4,h5⟩:=hr;have f0:=hb.cell 0;have f1:=hb.cell 1;have f2:=hb.cell 2;have f3:=hb.cell 3;have f4:=hb.cell 4;have f5:=hb.cell 5;simp only [gA,gZ,gS] at f0 f1 f2 f3 f4 f5;have T:=Hi (own1 w #[.int .i64 r.x] 3);have HR:=Hi (fB (l:=[r.x]) (T.o.at 0 rfl) (show 1<=maxLen by decide) (by simp [h5]));clear hb h0 h1 h2 h3 h4 h5 HRR f0 f1 f2 f3 f4;go_enter Tryz.func165,Tryz.ntmps165;go_wp2_with fail;refine (jv _ _ _ [r.x] 0 _ HR.o).mono ?_;rintro e w1 ⟨rfl,rfl⟩;clear f5 HR;go_wp2_with fail;refine (cE _ 1 _).mono ?_;rintro e w2 ⟨rfl,rfl⟩;go_wp2;go_ret2;exact ⟨by simp,T.o.mod⟩
def RV (S:Bl) (w:World) (cs:List Value) (x:Value):Prop:=cs=[x]
theorem RV.stay:bI RV:=λ_ _ _ _ _ h _=>h
theorem RV.weak:bW RV:=λ_ _ _ _ _ h _=>h
theorem Bw (k:Nat) (hk:k<=1000) (w:World) :
  Calls Tryz.prog 173 #[.slice none 0 0,.int .i64 (k:Int)] w λe w'=>∃ v,e=.returned v/\aH w.heap.size 22 1 RV (λ_=>True) v [] w'/\Mod [] w w':=by
 obtain ⟨i0,hi,hz0,hz1,hz2⟩:=info_parts j0;have HI:=Hi (And.intro hi (And.intro hz0 (And.intro hz1 hz2)));clear hi hz0 hz1 hz2;have k1:=dF (p:=(k:Int)<(0:Int)) zo;have e1:IntKind.i64.wrap ((k:Int) - 0)=(k:Int):=by rw [Int.sub_zero];exact IntWalk.i64_in _ zo
 have e2:IntKind.i64.wrap (k:Int)=(k:Int):=IntWalk.i64_in _ zo
 by_cases h0:0<k
 case neg =>
  have k2:=dF (p:=(0:Int)<k) zo;have k3:=dF (p:=0<k) h0;clear h0 hk;go_enter Tryz.func173,Tryz.ntmps173;go_wp2;go_ret;exact ⟨_,rfl,aH.nil,mR⟩
 have k2:=dT (p:=(0:Int)<k) zo;have k3:=dT (p:=0<k) h0;have HK:=Hi (And.intro h0 hk);clear h0 hk;have a1:0<i0.size:=by rw [HI.o.2.2.1];exact Nat.one_pos
 have a2:k*i0.bytes<=281474976710656:=by rw [HI.o.2.2.2];have:=HK.o.2;omega
 have a3:((k:Int))<=9223372036854775807:=by have:=HK.o.2;omega
 have HA:=λty=>Lib.run_append_nil_zeros (P:=Tryz.prog) w 49 3 ty 22 i0 (.slice none 0 0) .i64 .i64 zt zt HI.o.1 HI.o.2.1 k HK.o.1 a1 a3 a2
 clear a1 a2 a3
 have HG:=Hi (show aH w.heap.size 22 1 RV (λ_=>True) (.slice (some ⟨w.heap.size,0,none⟩) 0 (grownCap w k 0 22)) [] (w.drew.alloc (.cells (Builtin.zeroCells (Value.slice none 0 0).cells k++Builtin.zeroCells (Value.slice none 0 0).cells (grownCap w k 0 22 - k)) 22)) from
  ⟨[],⟨rfl,.inr ⟨w.heap.size,_,_,rfl,nR _,Blk.new _ _ _,Nat.zero_le _,grownCap_le_maxLen _ _ _ _ (by have:=HK.o.2;unfold maxLen;omega),by
   rw [Array.size_append,size_zeroCells,size_zeroCells,<- Nat.add_mul,Nat.add_sub_cancel' (grownCap_ge _ _ _ _)];rfl,by simp⟩⟩,aP.nil⟩)
 have HM:=Hi (show Mod [] w (w.drew.alloc (.cells (Builtin.zeroCells (Value.slice none 0 0).cells k++Builtin.zeroCells (Value.slice none 0 0).cells (grownCap w k 0 22 - k)) 22)) from (mR.drew).alloc _);generalize grownCap w k 0 22=C at *
 go_enter Tryz.func173,Tryz.ntmps173;go_wp2_with (at_builtin;refine Lib.wpList_append_run w rfl _ _ _ _ rfl _ _ rfl rfl _ _ (HA _) ?_);clear HA;go_wp2;go_ret;exact ⟨_,rfl,HG.o,HM.o⟩
def qT {α β:Type} (R:α->β->Prop) (V:List α) (L:List β):Prop:=V.length=L.length/\∀ (i:Nat) v x,V[i]?=some v->L[i]?=some x->R v x
theorem qT.append {α β:Type} {R:α->β->Prop} {V V':List α} {L L':List β} (h:qT R V L) (h':qT R V' L'):qT R (V++V') (L++L'):=by
 refine ⟨by rw [List.length_append,List.length_append,h.1,h'.1],λi v x hv hx=>?_⟩
 by_cases hi:i<V.length
 ·rw [List.getElem?_append_left hi] at hv;rw [List.getElem?_append_left (by rw [<- h.1];exact hi)] at hx;exact h.2 i v x hv hx
 ·rw [List.getElem?_append_right zo] at hv;rw [List.getElem?_append_right (by rw [<- h.1];omega),<- h.1] at hx;exact h'.2 _ v x hv hx
theorem om {oa:Option Addr} {n c B:Nat} {l:List (List Int)} {w:World} (h:Rows 1 eW B w (.slice oa n c) l) :
  ∃ vs:List Value,vs.length=l.length/\(∀ ad,oa=some ad->∀ j u,vs[j]?=some u->w.cell? (ad.add j)=some u)/\(∀ u∈vs,u.oneCell'=true)/\qT (λv x=>Rows 1 bn B w v x) vs l:=by
 have H:∀ i,∃ v:Value,∀ (hi:i<l.length),(∀ ad,oa=some ad->w.cell? (ad.add i)=some v)/\v.oneCell'=true/\Rows 1 bn B w v l[i]:=by
  intro i
  by_cases hi:i<l.length
  ·obtain ⟨a,ha,-,cs,-,hc0,-,v,rfl,hv⟩:=h.at i hi;have c0:=hc0 zd;simp only [Nat.mul_one,gZ] at c0;refine ⟨v,λ_=>⟨λad had=>?_,?_,hv⟩⟩
   ·obtain rfl:a=ad:=by rw [ha] at had;injection had
    exact c0
   ·obtain ⟨o,d,rfl,-⟩:=hv.form;rfl
  ·exact ⟨.bool false,λh=>absurd h hi⟩
 obtain ⟨f,hf⟩:=Classical.axiomOfChoice H;have hg:∀ j u,((List.range l.length).map f)[j]?=some u->j<l.length/\u=f j:=by
  intro j u hu
  by_cases hj:j<l.length
  ·rw [List.getElem?_map,List.getElem?_range hj] at hu;exact ⟨hj,by injection hu with hu;exact hu.symm⟩
  ·rw [List.getElem?_eq_none zqa] at hu;cases hu
 refine ⟨(List.range l.length).map f,by simp,λad had j u hu=>?_,λu hu=>?_,by simp,λi v x hv hx=>?_⟩
 ·obtain ⟨hj,rfl⟩:=hg j u hu;exact (hf j hj).1 ad had
 ·obtain ⟨j,hj,rfl⟩:=List.mem_iff_getElem.1 hu;obtain ⟨hj',e⟩:=hg j _ (gE hj);rw [e];exact (hf j hj').2.1
 ·obtain ⟨hj,rfl⟩:=hg i v hv;obtain ⟨_,rfl⟩:=gI.1 hx;exact (hf i hj).2.2
theorem Cu {base:Nat} {v:Value} {V:List Value} {L:List (List Int)} {S:Bl} {w:World} (h:aH base 22 1 RV S v V w) (hb:qT (λv x=>Rows 1 bn 0 w v x) V L) (hm:V.length<=maxLen):Rows 1 eW 0 w v L:=by
 have hf:=h.form;obtain ⟨oa,c,rfl⟩:=hf;rw [hb.1];refine ⟨oa,c,rfl,by rw [<- hb.1];exact hm,λi hi=>?_⟩;have hv:i<V.length:=by rw [hb.1];exact hi
 obtain ⟨g,c',cs,he,hk,hR,hc⟩:=h.at i hv;obtain ⟨rfl,-,-⟩:oa=some ⟨g,0,none⟩/\V.length=V.length/\c=c':=by injection he with h1 h2 h3;exact ⟨h1,rfl,h3⟩
 refine ⟨_,rfl,Nat.zero_le _,cs,hk,λj hj=>?_,?_⟩
 ·obtain rfl:j=0:=zo;have:=hc 0 zd;rw [<- this]
  congr 1
  unfold Addr.add;simp;exact λh=>h.symm
 ·exact ⟨V[i],hR,hb.2 i _ _ (gE hv) (gE hi)⟩
theorem run_append_none' {P:Program} {w:World} {base:Nat} (t ty e:TypeId) (i:TypeInfo) (size:Nat) (ht:P.underlying t=some (.slice e)) (hi:P.info? e=some i)
  (v:Value) (n c:Nat) (xs:List Value) (hown:w.ownsRow base e size v n xs):(Builtin.append_ #[t,t] ty #[v,.slice none 0 c]).run P w=.ok v w:=by
 rcases hown.2 with ⟨rfl,rfl⟩ | ⟨g,cap,cur,rfl,_,_,hnc,_⟩
 ·simp [Builtin.append_,run_underlying ht,sizeOf,typeInfo,hi,Builtin.lenOf,Builtin.firstCells]
 ·simp [Builtin.append_,run_underlying ht,sizeOf,typeInfo,hi,Builtin.lenOf,Builtin.firstCells,hnc,storeCells]
theorem kJ {ops:Array Oper} {rest:List Oper} {o:Oper} {a:Act} {Q:Exit->Act->World->Prop} (hgd:o.guard=none) (s x:Operand)
  (ho:o.op=.call { callee:=.builtin .append,args:=#[s,x],argTypes:=#[49,49] }) {w0 w:World} {v:Value} {V vs:List Value} {B:Nat} {l:List (List Int)} {oa:Option Addr} {n c:Nat}
  (hs:a.eval s=v) (h:aH w0.heap.size 22 1 RV (λ_=>True) v V w) (hM:Mod [] w0 w) (hx:a.eval x=.slice oa n c) (hn:n=l.length) (hvs:vs.length=l.length) (hr:Rows 1 eW B w (.slice oa n c) l)
  (hc:∀ ad,oa=some ad->∀ j u,vs[j]?=some u->w.cell? (ad.add j)=some u) (h1:∀ u∈vs,u.oneCell'=true) (hsz:V.length+n<=100000)
  (hK:∀ v' w',aH w0.heap.size 22 1 RV (λ_=>True) v' (V++vs) w'->Mod [] w0 w'->wpList Tryz.prog ops Q rest (a.put o.dst v') w'):wpList Tryz.prog ops Q (o::rest) a w:=by
 obtain ⟨i0,hi,hz0,hz1,hz2⟩:=info_parts j0;cases oa with
 | none =>
  obtain rfl:n=0:=by
   rcases Nat.eq_zero_or_pos n with h | h
   ·exact h
   ·obtain ⟨ad,h5,-⟩:=hr.at 0 zo;cases h5
  obtain rfl:vs=[]:=List.eq_nil_of_length_eq_zero zo;rw [List.append_nil] at hK;obtain ⟨css,hown,hE⟩:=id h;exact Lib.wpList_append_run w hgd s x _ _ ho v _ hs hx v w (run_append_none' (P:=Tryz.prog) 49 o.type 22 i0 1 Tryz.underlying49 hi v V.length c css.flatten hown) (hK v w h hM)
 | some ad =>
  have hfl:∀ (l:List Value),(l.map λx=>[x]).flatten=l:=λl=>by induction l with
   | nil=>rfl
   | cons x r ih=>simp [ih]
  refine aO (k:=1) (e:=22) (base:=w0.heap.size) (l:=V) (l':=vs) (S:=λ_=>True) (R:=RV) hgd s x 49 ho i0 _ 24 Tryz.underlying49 hi hz0 hz1 hz2 rfl zd RV.stay RV.weak hs h ad n c (vs.map λx=>[x]) hx zo
   ⟨by simp,λi h1 h2=>?_⟩ ?_ ?_ zqy zo hM.size ?_
  ·exact ⟨by simp,by simp [RV]⟩
  ·rw [hfl];exact hc ad rfl
  ·rw [hfl];exact h1
  ·intro v' w' hG hg hb;exact hK v' w' hG (hM.grew hg λk hk=>(h.lt k hk).1)
theorem qT.imp' {B:Nat} {w w':World} {V:List Value} {L:List (List Int)} (h:qT (λv x=>Rows 1 bn B w v x) V L) (m:Mod [] w w'):qT (λv x=>Rows 1 bn 0 w' v x) V L :=
 ⟨h.1,λi v x hv hx=>((h.2 i v x hv hx).mod bn.stay m).lower bn.lower (Nat.zero_le _)⟩
theorem wJ (B b t c:Nat) (o0 o1 o2:Option Addr) (n0 n1 n2 d0 d1 d2:Nat) (l0 l1 l2:List (List Int)) (w:World) (hb:Blk w b #[.slice o0 n0 d0,.slice o1 n1 d1,.slice o2 n2 d2] t)
  (h0:Rows 1 eW B w (.slice o0 n0 d0) l0) (h1:Rows 1 eW B w (.slice o1 n1 d1) l1) (h2:Rows 1 eW B w (.slice o2 n2 d2) l2) (k0:n0<=6) (k1:n1<=6) (k2:n2<=6) :
  Calls Tryz.prog 156 #[.slice (some ⟨b,0,none⟩) 3 c] w λe w'=>∃ v,e=.returned v/\Rows 1 eW 0 w' v (l0++l1++l2)/\Mod [] w w':=by
 have q0:n0=l0.length:=by obtain ⟨_,_,he,-⟩:=h0.form;cases he;rfl
 have q1:n1=l1.length:=by obtain ⟨_,_,he,-⟩:=h1.form;cases he;rfl
 have q2:n2=l2.length:=by obtain ⟨_,_,he,-⟩:=h2.form;cases he;rfl
 obtain ⟨V0,hv0,hc0,ho0,hB0⟩:=om h0;obtain ⟨V1,hv1,hc1,ho1,hB1⟩:=om h1;obtain ⟨V2,hv2,hc2,ho2,hB2⟩:=om h2;have X0:=Hi (And.intro q0 (And.intro hv0 (And.intro h0 (And.intro hc0 (And.intro ho0 hB0)))));have X1:=Hi (And.intro q1 (And.intro hv1 (And.intro h1 (And.intro hc1 (And.intro ho1 hB1)))));have X2:=Hi (And.intro q2 (And.intro hv2 (And.intro h2 (And.intro hc2 (And.intro ho2 hB2)))));have HK:=Hi (And.intro k0 (And.intro k1 k2));have HB:=Hi hb;have c0:=hb.cell 0;have c1:=hb.cell 1;have c2:=hb.cell 2;simp only [gA,gZ,gS] at c0 c1 c2;have e0:IntKind.i64.wrap ((0:Int)+(n0:Int))=(n0:Int):=by rw [Int.zero_add];exact IntWalk.i64_in _ zo
 have e0':IntKind.i64.wrap (n0:Int)=(n0:Int):=IntWalk.i64_in _ zo;have e1:IntKind.i64.wrap ((n0:Int)+(n1:Int))=((n0+n1:Nat):Int):=by rw [<- Int.natCast_add];exact IntWalk.i64_in _ zo
 have e2:IntKind.i64.wrap (((n0+n1:Nat):Int)+(n2:Int))=((n0+n1+n2:Nat):Int):=by rw [<- Int.natCast_add];exact IntWalk.i64_in _ zo
 have z0:=dF (p:=(n0:Int)<(0:Int)) zo;have z1:=dF (p:=((n0+n1:Nat):Int)<(0:Int)) zo;have z2:=dF (p:=((n0+n1+n2:Nat):Int)<(0:Int)) zo;clear q0 q1 q2 hv0 hc0 ho0 hB0 hv1 hc1 ho1 hB1 hv2 hc2 ho2 hB2 h0 h1 h2 k0 k1 k2 hb;generalize hm1:n0+n1=m1 at *
 generalize hm2:m1+n2=m2 at *
 have HM12:=Hi (And.intro hm1 hm2);clear hm1 hm2;go_enter Tryz.func156,Tryz.ntmps156;go_wp2_with fail
 go_loopg [3,11] 3 (λgk s v wr=>wr=w/\((gk=3/\s=.int .i64 0/\v=.int .i64 0)∨(gk=2/\s=.int .i64 (n0:Int)/\v=.int .i64 1)∨(gk=1/\s=.int .i64 (m1:Int)/\v=.int .i64 2)∨(gk=0/\s=.int .i64 (m2:Int)/\v=.int .i64 3)))
 case atStart=>exact ⟨rfl,.inl ⟨rfl,rfl,rfl⟩⟩
 case round =>
  obtain ⟨rfl,hrel⟩:=hrel;rcases hrel with ⟨rfl,rfl,rfl⟩ | ⟨rfl,rfl,rfl⟩ | ⟨rfl,rfl,rfl⟩ | ⟨rfl,rfl,rfl⟩
  ·go_wp2;go_roundg 2
   case measure=>omega
   case rel=>exact ⟨rfl,.inr (.inl ⟨rfl,rfl,rfl⟩)⟩
  ·go_wp2;go_roundg 1
   case measure=>omega
   case rel=>exact ⟨rfl,.inr (.inr (.inl ⟨rfl,rfl,rfl⟩))⟩
  ·go_wp2;go_roundg 0
   case measure=>omega
   case rel=>exact ⟨rfl,.inr (.inr (.inr ⟨rfl,rfl,rfl⟩))⟩
  ·have HG:=Hi (Bw m2 (by have:=HM12.o;have:=HK.o;omega) wr);go_wp2_with fail;refine HG.o.mono ?_;rintro e w1 ⟨v,rfl,hG,hM⟩;have HG1:=Hi hG;have HM1:=Hi hM;clear HG c0 c1 c2 hG hM;go_wp2_with fail
   go_loopg [6,27] 3 (λgk s v wr2=>∃ V,Hy (aH wr.heap.size 22 1 RV (λ_=>True) s V wr2)/\Hy (Mod [] wr wr2)/\((gk=3/\V=[]/\v=.int .i64 0)∨(gk=2/\V=V0/\v=.int .i64 1)∨(gk=1/\V=V0++V1/\v=.int .i64 2)∨(gk=0/\V=V0++V1++V2/\v=.int .i64 3)))
   case atStart=>exact ⟨[],HG1.o,HM1.o,.inl ⟨rfl,rfl,rfl⟩⟩
   clear HG1 HM1;obtain ⟨V,HG2,HM2,hrel⟩:=hrel;rcases hrel with ⟨rfl,hV,rfl⟩ | ⟨rfl,hV,rfl⟩ | ⟨rfl,hV,rfl⟩ | ⟨rfl,hV,rfl⟩
   ·rw [hV] at HG2;clear hV;have m0:=HM2.o;have r:=X0.o.2.2.1.mod eW.stay m0;have hcc:=λad (he:o0=some ad) j u (hu:V0[j]?=some u)=>(m0.cell (p:=ad.add j) (aV (X0.o.2.2.2.1 ad he j u hu)) zk).trans (X0.o.2.2.2.1 ad he j u hu)
    have c:=(HB.o.kept m0 zk).cell 0;simp only [gA,gZ,gS] at c;have hsz:([]:List Value).length+n0<=100000:=by have:=HK.o;have:=X0.o.1;have:=X0.o.2.1;have:=X1.o.1;have:=X1.o.2.1;simp;try omega
    have HC:=Hi (And.intro r (And.intro hcc hsz));clear m0 r hcc hsz;go_wp2_with (at_builtin;refine kJ rfl _ _ rfl rfl HG2.o HM2.o rfl X0.o.1 X0.o.2.1 HC.o.1 HC.o.2.1 X0.o.2.2.2.2.1 HC.o.2.2 ?_);intro v' w3 hG3 hM3;clear c HG2 HM2 HC;go_wp2;go_roundg 2
    case measure=>omega
    case rel=>exact ⟨_,hG3,hM3,.inr (.inl ⟨rfl,by first | rfl | simp,rfl⟩)⟩
   ·rw [hV] at HG2;clear hV;have m0:=HM2.o;have r:=X1.o.2.2.1.mod eW.stay m0;have hcc:=λad (he:o1=some ad) j u (hu:V1[j]?=some u)=>(m0.cell (p:=ad.add j) (aV (X1.o.2.2.2.1 ad he j u hu)) zk).trans (X1.o.2.2.2.1 ad he j u hu)
    have c:=(HB.o.kept m0 zk).cell 1;simp only [gA,gZ,gS] at c;have hsz:V0.length+n1<=100000:=by have:=HK.o;have:=X0.o.1;have:=X0.o.2.1;have:=X1.o.1;have:=X1.o.2.1;simp;try omega
    have HC:=Hi (And.intro r (And.intro hcc hsz));clear m0 r hcc hsz;go_wp2_with (at_builtin;refine kJ rfl _ _ rfl rfl HG2.o HM2.o rfl X1.o.1 X1.o.2.1 HC.o.1 HC.o.2.1 X1.o.2.2.2.2.1 HC.o.2.2 ?_);intro v' w3 hG3 hM3;clear c HG2 HM2 HC;go_wp2;go_roundg 1
    case measure=>omega
    case rel=>exact ⟨_,hG3,hM3,.inr (.inr (.inl ⟨rfl,by first | rfl | simp,rfl⟩))⟩
   ·rw [hV] at HG2;clear hV;have m0:=HM2.o;have r:=X2.o.2.2.1.mod eW.stay m0;have hcc:=λad (he:o2=some ad) j u (hu:V2[j]?=some u)=>(m0.cell (p:=ad.add j) (aV (X2.o.2.2.2.1 ad he j u hu)) zk).trans (X2.o.2.2.2.1 ad he j u hu)
    have c:=(HB.o.kept m0 zk).cell 2;simp only [gA,gZ,gS] at c;have hsz:(V0++V1).length+n2<=100000:=by have:=HK.o;have:=X0.o.1;have:=X0.o.2.1;have:=X1.o.1;have:=X1.o.2.1;simp;try omega
    have HC:=Hi (And.intro r (And.intro hcc hsz));clear m0 r hcc hsz;go_wp2_with (at_builtin;refine kJ rfl _ _ rfl rfl HG2.o HM2.o rfl X2.o.1 X2.o.2.1 HC.o.1 HC.o.2.1 X2.o.2.2.2.2.1 HC.o.2.2 ?_);intro v' w3 hG3 hM3;clear c HG2 HM2 HC;go_wp2;go_roundg 0
    case measure=>omega
    case rel=>exact ⟨_,hG3,hM3,.inr (.inr (.inr ⟨rfl,by first | rfl | simp,rfl⟩))⟩
   ·rw [hV] at HG2;clear hV;go_wp2;go_ret
    exact ⟨_,rfl,Cu HG2.o (((X0.o.2.2.2.2.2.imp' HM2.o).append (X1.o.2.2.2.2.2.imp' HM2.o)).append (X2.o.2.2.2.2.2.imp' HM2.o)) (by
     have:=HK.o;have:=X0.o.1;have:=X0.o.2.1;have:=X1.o.1;have:=X1.o.2.1;have:=X2.o.1;have:=X2.o.2.1;unfold maxLen;simp;omega),HM2.o⟩
theorem yb (u:Int) (fg fc fl ff fx fr fn fv:Hd) (B rb fb:Nat) (r:aN) (w:World) (hF:ef u fg fc fl ff fx fr fn fv fb w) (hR:jO B rb r w) (hl:r.back.length<=6/\r.ins.length<=6/\r.ahead.length<=6) :
  Calls Tryz.prog 154 #[.pointer (some ⟨rb,0,none⟩),.pointer (some ⟨fb,0,none⟩)] w λe w'=>e=.returned (.tuple #[.int .i64 (Ck.each (λ_ l=>Ck.when (!Ck.cQ fg.n l) 41) (r.back++r.ins++r.ahead)).1,.int .i64 ((Ck.each (λ_ l=>Ck.when (!Ck.cQ fg.n l) 41) (r.back++r.ins++r.ahead)).2:Int)])/\Mod [] w w':=by
 obtain ⟨cs,t,hb,hr⟩:=hR;obtain ⟨v0,v1,v2,v3,v4,rfl,h0,h1,h2,h3,h4,h5⟩:=hr;have f0:=hb.cell 0;have f1:=hb.cell 1;have f2:=hb.cell 2;simp only [gA,gZ,gS] at f0 f1 f2;obtain ⟨o0,d0,rfl,-⟩:=h0.form;obtain ⟨o1,d1,rfl,-⟩:=h1.form;obtain ⟨o2,d2,rfl,-⟩:=h2.form;have T:=Hi (own1 w #[.slice o0 r.back.length d0,.slice o1 r.ins.length d1,.slice o2 r.ahead.length d2] 49);have HC:=Hi (wJ B w.heap.size 49 3 o0 o1 o2 r.back.length r.ins.length r.ahead.length d0 d1 d2 r.back r.ins r.ahead _ (T.o.at 0 rfl) (h0.mod eW.stay T.o.mod) (h1.mod eW.stay T.o.mod) (h2.mod eW.stay T.o.mod) hl.1 hl.2.1 hl.2.2);have HF:=Hi hF;generalize r.back++r.ins++r.ahead=L at *
 clear hb h0 h1 h2 h3 h4 h5 hl hF;go_enter Tryz.func154,Tryz.ntmps154;go_wp2_with fail;generalize w.alloc (.cells #[.slice o0 r.back.length d0,.slice o1 r.ins.length d1,.slice o2 r.ahead.length d2] 49)=W0 at *
 have hc:=HC.o;clear HC;refine Calls.mono hc ?_;rintro e w1 ⟨v,rfl,hv,m1⟩;obtain ⟨oa,c,rfl,-⟩:=hv.form;have HV:=Hi hv;have HM:=Hi (T.o.mod.then m1)
 have HE:=Hi (BF (F:=[]) (J:=λ_ W=>Mod [] w1 W) (fn:=157) (caps:=#[.pointer (some ⟨fb,0,none⟩)])
  (f:=λ_ l=>Ck.when (!Ck.cQ fg.n l) 41) (bM _) (λ_ W m=>HV.o.mod eW.stay m) (λi y cs W hi m hr=>by
   obtain ⟨vr,rfl,hr⟩:=hr;obtain ⟨oy,dy,rfl,-⟩:=hr.form
   exact bL (vC u fg fc fl ff fx fr fn fv fb _ oy y.length dy 0 y W hr (HF.o.kept (HM.o.then m))) m)
  (λa w=>by kernel_rfl) _ mR)
 clear m1 hv hc f0 f1 f2 T;go_wp2_with fail;have he:=HE.o;clear HE;refine he.mono ?_;rintro e w2 ⟨rfl,m2⟩;have HM2:=Hi (HM.o.then m2);clear m2 he HM HV;go_wp2;go_ret2;exact ⟨rfl,HM2.o⟩
theorem ql {kind:Int} {r:aN} (h:Ck.rows kind r=0):(r.back.length<=6/\r.ins.length<=6/\r.ahead.length<=6)/\(kind=1∨kind=5->0<r.ins.length):=by
 unfold Ck.rows at h
 by_cases h1:6<r.back.length∨6<r.ins.length∨6<r.ahead.length
 ·rw [if_pos h1] at h;cases h
 rw [if_neg h1] at h;refine ⟨by omega,λhk=>?_⟩;rw [if_pos (by rcases hk with h | h <;> simp [h])] at h
 by_cases h2:r.ins.length=1
 ·omega
 ·rw [show (r.ins.length != 1)=true by simpa using h2] at h;cases h
def Ck.gT (n:Nat) (lk:List ar) (kind:Int) (r:aN):List Ck.Got :=
 [(Ck.rows kind r,0),Ck.each (λ_ l=>Ck.when (!Ck.cQ n l) 41) (r.back++r.ins++r.ahead),(Ck.when (!Ck.cP kind r) 40,0),Ck.each (λ_ g=>Ck.when (!Ck.bo n g) 32) r.o,
  (Ck.calls lk kind r,0),(Ck.when (!Ck.may r.x) 1,0),(Ck.when (r.x != 0 && kind != 6) 40,0)]
theorem vA {u:Int} {fg fc fl ff fx fr fn fv:Hd} {kind:Int} {r:aN} {lk:List ar} {B fb kb rb tk:Nat} {w:World} (hF:ef u fg fc fl ff fx fr fn fv fb w) (hk:Blk w kb #[.int .i64 kind] tk) (hR:jO B rb r w)
  (hL:Rows 3 aJ B w (.slice fl.a fl.n fl.c) lk) (sb ts c:Nat) (hs:Blk w sb #[.func (.func 152) #[] #[.pointer (some ⟨kb,0,none⟩),.pointer (some ⟨rb,0,none⟩)],.func (.func 154) #[] #[.pointer (some ⟨rb,0,none⟩),.pointer (some ⟨fb,0,none⟩)],
   .func (.func 159) #[] #[.pointer (some ⟨kb,0,none⟩),.pointer (some ⟨rb,0,none⟩)],.func (.func 161) #[] #[.pointer (some ⟨rb,0,none⟩),.pointer (some ⟨fb,0,none⟩)],.func (.func 163) #[] #[.pointer (some ⟨fb,0,none⟩),.pointer (some ⟨kb,0,none⟩),.pointer (some ⟨rb,0,none⟩)],
   .func (.func 165) #[] #[.pointer (some ⟨rb,0,none⟩)],.func (.func 166) #[] #[.pointer (some ⟨rb,0,none⟩),.pointer (some ⟨kb,0,none⟩)]] ts) :
  Calls Tryz.prog 50 #[.slice (some ⟨sb,0,none⟩) 7 c] w λe w'=>e=.returned (.tuple #[.int .i64 (Ck.first (Ck.gT fg.n lk kind r)).1,.int .i64 ((Ck.first (Ck.gT fg.n lk kind r)).2:Int)])/\Mod [] w w':=by
 refine (jj (F:=[]) (K:=7) (fn:=λk=>[152,154,159,161,163,165,166].getD k 0)
  (caps:=λk=>([#[.pointer (some ⟨kb,0,none⟩),.pointer (some ⟨rb,0,none⟩)],#[.pointer (some ⟨rb,0,none⟩),.pointer (some ⟨fb,0,none⟩)],#[.pointer (some ⟨kb,0,none⟩),.pointer (some ⟨rb,0,none⟩)],#[.pointer (some ⟨rb,0,none⟩),.pointer (some ⟨fb,0,none⟩)],
   #[.pointer (some ⟨fb,0,none⟩),.pointer (some ⟨kb,0,none⟩),.pointer (some ⟨rb,0,none⟩)],#[.pointer (some ⟨rb,0,none⟩)],#[.pointer (some ⟨rb,0,none⟩),.pointer (some ⟨kb,0,none⟩)]]:List (Array Value)).getD k #[])
  (G:=λk=>(Ck.gT fg.n lk kind r).getD k (0,0)) (J:=λk W=>Mod [] w W/\(1<=k->Ck.rows kind r=0)) (Z:=λ_ W=>Mod [] w W)
  sb c w ⟨?call,?cf⟩ zd ?hF ?hJ ?hZ ?hc ⟨mR,λh=>absurd h zd⟩).mono λe w' h=>iH.list (Gs:=Ck.gT fg.n lk kind r) h (λh=>h.1) (λ_ h=>h)
 case cf =>
  intro k hk a W;have q0:(callFunc 152 a).run Tryz.prog W=.ok (.enter 152 a) W:=zt;have q1:(callFunc 154 a).run Tryz.prog W=.ok (.enter 154 a) W:=zt;have q2:(callFunc 159 a).run Tryz.prog W=.ok (.enter 159 a) W:=zt;have q3:(callFunc 161 a).run Tryz.prog W=.ok (.enter 161 a) W:=zt;have q4:(callFunc 163 a).run Tryz.prog W=.ok (.enter 163 a) W:=zt;have q5:(callFunc 165 a).run Tryz.prog W=.ok (.enter 165 a) W:=zt;have q6:(callFunc 166 a).run Tryz.prog W=.ok (.enter 166 a) W:=zt
  match k,hk with
  | 0,_=>simp only [List.getD_cons_zero,List.getD_cons_succ];exact q0
  | 1,_=>simp only [List.getD_cons_zero,List.getD_cons_succ];exact q1
  | 2,_=>simp only [List.getD_cons_zero,List.getD_cons_succ];exact q2
  | 3,_=>simp only [List.getD_cons_zero,List.getD_cons_succ];exact q3
  | 4,_=>simp only [List.getD_cons_zero,List.getD_cons_succ];exact q4
  | 5,_=>simp only [List.getD_cons_zero,List.getD_cons_succ];exact q5
  | 6,_=>simp only [List.getD_cons_zero,List.getD_cons_succ];exact q6
 case hF=>intro x hx;cases hx
 case hJ=>exact λk W W' h b=>⟨h.1.below' b,h.2⟩
 case hZ=>exact λk W W' h b=>h.below' b
 case hc =>
  intro k W hk h;have q:=hs.kept h.1 zk;have:=q.cell k;rw [this]
  match k,hk with
  | 0,_=>rfl
  | 1,_=>rfl
  | 2,_=>rfl
  | 3,_=>rfl
  | 4,_=>rfl
  | 5,_=>rfl
  | 6,_=>rfl
 case call =>
  intro k W hk' h;have fin:∀ {e:Ending} {W':World} {g:Int×Nat},e=.returned (.tuple #[.int .i64 g.1,.int .i64 (g.2:Int)])/\Mod [] W W'->(1<=k+1->g.1=0->Ck.rows kind r=0) ->
    e=.returned (.tuple #[.int .i64 g.1,.int .i64 (g.2:Int)])/\Mod [] W W'/\(g.1=0->Mod [] w W'/\(1<=k+1->Ck.rows kind r=0))/\(g.1≠0->Mod [] w W'):=λq hz =>
   ⟨q.1,q.2,λh0=>⟨h.1.then q.2,λhk=>hz hk h0⟩,λ_=>h.1.then q.2⟩
  have ck:=(hk.kept h.1 zk).cell 0
  match k,hk' with
  | 0,_=>exact (yc B kb rb kind r W ck (hR.kept h.1)).mono λe W' q=>fin (g:=(Ck.rows kind r,0)) q (λ_ h0=>h0)
  | 1,_=>exact (yb u fg fc fl ff fx fr fn fv B rb fb r W (hF.kept h.1) (hR.kept h.1) (ql (h.2 zo)).1).mono λe W' q=>fin q (λ_ _=>h.2 zo)
  | 2,_=>exact (ya B kb rb kind r W (ql (h.2 zo)).2 ck (hR.kept h.1)).mono λe W' q=>fin (g:=(Ck.when (!Ck.cP kind r) 40,0)) q (λ_ _=>h.2 zo)
  | 3,_=>exact (xZ u fg fc fl ff fx fr fn fv B rb fb r W (hF.kept h.1) (hR.kept h.1)).mono λe W' q=>fin q (λ_ _=>h.2 zo)
  | 4,_=>exact (xY u fg fc fl ff fx fr fn fv B kb rb fb kind r lk W (hL.mod aJ.stay h.1) (hF.kept h.1) ck (hR.kept h.1)).mono λe W' q=>fin (g:=(Ck.calls lk kind r,0)) q (λ_ _=>h.2 zo)
  | 5,_=>exact (xX B rb r W (hR.kept h.1)).mono λe W' q=>fin (g:=(Ck.when (!Ck.may r.x) 1,0)) q (λ_ _=>h.2 zo)
  | 6,_=>exact (xW B kb rb kind r W ck (hR.kept h.1)).mono λe W' q=>fin (g:=(Ck.when (r.x != 0 && kind != 6) 40,0)) q (λ_ _=>h.2 zo)
theorem Ck.vy (n:Nat) (lk:List ar) (kind:Int) (r:aN):Ck.rule n lk kind r=(Ck.first (Ck.gT n lk kind r)).1:=rfl
theorem Al (u:Int) (fg fc fl ff fx fr fn fv:Hd) (kind:Int) (cs:List Value) (r:aN) (lk:List ar) (B:Nat) (w:World) (h:dW B w cs r) (hL:Rows 3 aJ B w (.slice fl.a fl.n fl.c) lk) :
  Calls Tryz.prog 105 #[.agg (af u fg fc fl ff fx fr fn fv),.int .i64 kind,.agg cs.toArray] w λe w'=>e=.returned (.int .i64 (Ck.rule fg.n lk kind r))/\Mod [] w w':=by
 have HR:=Hi h;have hL':=hL;obtain ⟨v0,v1,v2,v3,v4,rfl,h0,h1,h2,h3,h4,-⟩:=h;obtain ⟨o0,d0,rfl,-⟩:=h0.form;obtain ⟨o1,d1,rfl,-⟩:=h1.form;obtain ⟨o2,d2,rfl,-⟩:=h2.form;obtain ⟨o3,d3,rfl,-⟩:=h3.form;obtain ⟨o4,d4,rfl,-⟩:=h4.form;clear h0 h1 h2 h3 h4;have T:=Hi (own3 w (af u fg fc fl ff fx fr fn fv) 32 #[.int .i64 kind] 3 #[.slice o0 r.back.length d0,.slice o1 r.ins.length d1,.slice o2 r.ahead.length d2,.slice o3 r.o.length d3,.slice o4 r.calls.length d4,.int .i64 r.x] 54);rw [Ck.vy];have HRW:=Hi (dW.stay _ _ _ _ _ HR.o (T.o.mod.above B));have HL:=Hi (hL.mod aJ.stay T.o.mod);clear hL hL' HR;have hmf:∀ (fn:Fn) (first cap:Array Value) (w:World),(Instr.makeFunc fn first cap).run Tryz.prog w=.ok (.func fn first cap) w:=λ_ _ _ _=>rfl
 have HFi:=Hi (λW (m:Mod [] (((w.alloc (.cells (af u fg fc fl ff fx fr fn fv) 32)).alloc (.cells #[.int .i64 kind] 3)).alloc (.cells #[.slice o0 r.back.length d0,.slice o1 r.ins.length d1,.slice o2 r.ahead.length d2,.slice o3 r.o.length d3,.slice o4 r.calls.length d4,.int .i64 r.x] 54)) W) =>
  vA (u:=u) (fg:=fg) (fc:=fc) (fl:=fl) (ff:=ff) (fx:=fx) (fr:=fr) (fn:=fn) (fv:=fv) (kind:=kind) (r:=r) (lk:=lk) (B:=B) (fb:=w.heap.size) (kb:=w.heap.size+1) (rb:=w.heap.size+1+1) (w:=W)
   ⟨_,(T.o.at 0 rfl).kept m zk⟩ ((T.o.at 1 rfl).kept m zk) ⟨_,_,(T.o.at 2 rfl).kept m zk,dW.stay _ _ _ _ _ HRW.o (m.above B)⟩ (HL.o.mod aJ.stay m))
 generalize Ck.first (Ck.gT fg.n lk kind r)=G at *
 obtain ⟨g1,g2⟩:=G;simp only at HFi ⊢;unfold af at T HFi ⊢;clear HRW HL;go_enter Tryz.func105,Tryz.ntmps105;go_upto_region 1 with fail;generalize ((w.alloc (.cells #[.int .i64 u,.slice fg.a fg.n fg.c,.slice fc.a fc.n fc.c,.slice fl.a fl.n fl.c,.slice ff.a ff.n ff.c,.slice fx.a fx.n fx.c,.slice fr.a fr.n fr.c,.slice fn.a fn.n fn.c,.slice fv.a fv.n fv.c] 32)).alloc (.cells #[.int .i64 kind] 3)).alloc (.cells #[.slice o0 r.back.length d0,.slice o1 r.ins.length d1,.slice o2 r.ahead.length d2,.slice o3 r.o.length d3,.slice o4 r.calls.length d4,.int .i64 r.x] 54)=W0 at *
 go_wp2_with fail
 have hW:=(Mod.refl [] W0).alloc (.cells #[.func (.func 152) #[] #[.pointer (some ⟨w.heap.size+1,0,none⟩),.pointer (some ⟨w.heap.size+1+1,0,none⟩)],.func (.func 154) #[] #[.pointer (some ⟨w.heap.size+1+1,0,none⟩),.pointer (some ⟨w.heap.size,0,none⟩)],
   .func (.func 159) #[] #[.pointer (some ⟨w.heap.size+1,0,none⟩),.pointer (some ⟨w.heap.size+1+1,0,none⟩)],.func (.func 161) #[] #[.pointer (some ⟨w.heap.size+1+1,0,none⟩),.pointer (some ⟨w.heap.size,0,none⟩)],.func (.func 163) #[] #[.pointer (some ⟨w.heap.size,0,none⟩),.pointer (some ⟨w.heap.size+1,0,none⟩),.pointer (some ⟨w.heap.size+1+1,0,none⟩)],
   .func (.func 165) #[] #[.pointer (some ⟨w.heap.size+1+1,0,none⟩)],.func (.func 166) #[] #[.pointer (some ⟨w.heap.size+1+1,0,none⟩),.pointer (some ⟨w.heap.size+1,0,none⟩)]] 117)
 have hc:=HFi.o _ hW W0.heap.size _ 7 (Blk.new W0 _ _);have HM0:=Hi (T.o.mod.then hW);clear HFi hmf T hW;refine Calls.mono hc ?_;rintro e w2 ⟨rfl,m2⟩;have HM:=Hi (HM0.o.then m2);clear m2 hc HM0;go_wp2;go_ret;exact ⟨rfl,HM.o⟩
def mG (B lb:Nat) (l:ar) (w:World):Prop:=∃ (cs:List Value) (t:Nat),Blk w lb cs.toArray t/\aJ B w cs l
theorem mG.kept {B lb:Nat} {l:ar} {w w':World} (h:mG B lb l w) (m:Mod [] w w'):mG B lb l w':=h.elim λcs h=>h.elim λt h=>⟨cs,t,h.1.kept m zk,aJ.stay _ _ _ _ _ h.2 (m.above B)⟩
theorem uf (B lb:Nat) (l:ar) (w:World) (hR:mG B lb l w):Calls Tryz.prog 100 #[.pointer (some ⟨lb,0,none⟩)] w λe w'=>e=.returned (.tuple #[.int .i64 (Ck.when (decide (60<l.rules.length)) 2),.int .i64 0])/\Mod [] w w':=by
 obtain ⟨cs,t,hb,v2,rfl,h0,h2⟩:=hR;obtain ⟨o2,d2,rfl,-⟩:=h2.form;have f2:=hb.cell 2;simp only [gA,gZ,gS] at f2;have HW:=Hi (λb W=>cE b 2 W);have e1:decide ((60:Int)<l.rules.length)=decide (60<l.rules.length):=by rw [Bool.eq_iff_iff];simp;omega
 generalize decide (60<l.rules.length)=b at *
 clear hb h2;go_enter Tryz.func100,Tryz.ntmps100;go_wp2_with fail;refine (HW.o _ _).mono ?_;rintro e w1 ⟨rfl,rfl⟩;go_wp2;go_ret2;exact ⟨rfl,mR⟩
theorem ue (B lb bb:Nat) (by':Bool) (l:ar) (w:World) (hk:w.cell? ⟨bb,0,none⟩=some (.bool by')) (hR:mG B lb l w):Calls Tryz.prog 101 #[.pointer (some ⟨bb,0,none⟩),.pointer (some ⟨lb,0,none⟩)] w λe w'=>e=.returned (.tuple #[.int .i64 (Ck.when (by' && decide (0<l.rules.length)) 40),.int .i64 0])/\Mod [] w w':=by
 obtain ⟨cs,t,hb,v2,rfl,h0,h2⟩:=hR;obtain ⟨o2,d2,rfl,-⟩:=h2.form;have f2:=hb.cell 2;simp only [gA,gZ,gS] at f2;have HW:=Hi (λb W=>cE b 40 W);have e1:decide ((0:Int)<l.rules.length)=decide (0<l.rules.length):=by rw [Bool.eq_iff_iff];simp
 generalize hq:decide (0<l.rules.length)=b at *
 clear hb h2;cases by' <;> cases b <;>
  (go_enter Tryz.func101,Tryz.ntmps101;go_wp2_with fail;refine (HW.o _ _).mono ?_;rintro e w1 ⟨rfl,rfl⟩;go_wp2;go_ret2;exact ⟨rfl,mR⟩)
theorem rU (u:Int) (fg fc fl ff fx fr fn fv:Hd) (idx:Value) (B fb lb:Nat) (l:ar) (cs:List Value) (r:aN) (lk:List ar) (w:World) (h:dW B w cs r) (hL:Rows 3 aJ B w (.slice fl.a fl.n fl.c) lk) (hF:ef u fg fc fl ff fx fr fn fv fb w) (hR:mG B lb l w) :
  Calls Tryz.prog 104 #[idx,.agg cs.toArray,.pointer (some ⟨fb,0,none⟩),.pointer (some ⟨lb,0,none⟩)] w λe w'=>e=.returned (.int .i64 (Ck.rule fg.n lk l.kind r))/\Mod [] w w':=by
 obtain ⟨cl,t,hb,v2,rfl,h0,h2⟩:=hR;have hh:=h;obtain ⟨v0,v1,w2,v3,v4,rfl,-⟩:=hh;have T:=Hi (own1 w #[v0,v1,w2,v3,v4,.int .i64 r.x] 54);have a0:=(T.o.at 0 rfl).cell 0;have a1:=(T.o.at 0 rfl).cell 1;have a2:=(T.o.at 0 rfl).cell 2;have a3:=(T.o.at 0 rfl).cell 3;have a4:=(T.o.at 0 rfl).cell 4;have a5:=(T.o.at 0 rfl).cell 5;have l0:=(hb.kept T.o.mod zk).cell 0;obtain ⟨tf,hfb⟩:=hF;have g:=hfb.kept T.o.mod zk;have HC:=Hi (Al u fg fc fl ff fx fr fn fv l.kind _ r lk B _ (dW.stay _ _ _ _ _ h (T.o.mod.above B)) (hL.mod aJ.stay T.o.mod));unfold af at g HC;have g0:=g.cell 0;have g1:=g.cell 1;have g2:=g.cell 2;have g3:=g.cell 3;have g4:=g.cell 4;have g5:=g.cell 5;have g6:=g.cell 6;have g7:=g.cell 7;have g8:=g.cell 8;simp only [gA,gZ,gS] at g0 g1 g2 g3 g4 g5 g6 g7 g8 l0 a0 a1 a2 a3 a4 a5;generalize Ck.rule fg.n lk l.kind r=G at *
 clear g hfb hb h2 h0 h hL;go_enter Tryz.func104,Tryz.ntmps104;go_wp2_with fail;have hc:=HC.o;refine Calls.mono hc ?_;rintro e w3 ⟨rfl,m3⟩;have HM:=Hi (T.o.mod.then m3);clear m3 hc HC T g0 g1 g2 g3 g4 g5 g6 g7 g8 l0 a0 a1 a2 a3 a4 a5;go_wp2;go_ret;exact ⟨rfl,HM.o⟩
theorem ud (u:Int) (fg fc fl ff fx fr fn fv:Hd) (B fb lb:Nat) (l:ar) (lk:List ar) (w:World) (hL:Rows 3 aJ B w (.slice fl.a fl.n fl.c) lk) (hF:ef u fg fc fl ff fx fr fn fv fb w) (hR:mG B lb l w) :
  Calls Tryz.prog 102 #[.pointer (some ⟨lb,0,none⟩),.pointer (some ⟨fb,0,none⟩)] w λe w'=>e=.returned (.tuple #[.int .i64 (Ck.each (λ_ r=>Ck.rule fg.n lk l.kind r) l.rules).1,.int .i64 ((Ck.each (λ_ r=>Ck.rule fg.n lk l.kind r) l.rules).2:Int)])/\Mod [] w w':=by
 have hR':=hR;obtain ⟨cl,t,hb,v2,rfl,h0,h2⟩:=hR;obtain ⟨o2,d2,rfl,-⟩:=h2.form;have f2:=hb.cell 2;simp only [gA,gZ,gS] at f2
 have HC:=Hi (zb (F:=[]) (J:=λ_ W=>Mod [] w W) (fn:=104) (caps:=#[.pointer (some ⟨fb,0,none⟩),.pointer (some ⟨lb,0,none⟩)])
  (f:=λ_ r=>Ck.rule fg.n lk l.kind r) (bM _) (λ_ W m=>h2.mod dW.stay m) (λi y cs W hi m hr =>
   bL (rU u fg fc fl ff fx fr fn fv _ B fb lb l cs y lk W hr (hL.mod aJ.stay m) (hF.kept m) (hR'.kept m)) m)
  (λa w=>by kernel_rfl) _ mR)
 clear hb h0 h2 hR' hL hF;go_enter Tryz.func102,Tryz.ntmps102;go_wp2_with fail;have hc:=HC.o;refine Calls.mono hc ?_;rintro e w1 ⟨rfl,m1⟩;have HM:=Hi m1;clear m1 f2 HC hc;go_wp2;go_ret2;exact ⟨rfl,HM.o⟩
def Ck.fE (n:Nat) (lk:List ar) (l:ar):List Ck.Got :=
 [(Ck.when (decide (60<l.rules.length)) 2,0),(Ck.when ((l.kind == 7 || l.kind == 8) && decide (0<l.rules.length)) 40,0),Ck.each (λ_ r=>Ck.rule n lk l.kind r) l.rules]
theorem rT {u:Int} {fg fc fl ff fx fr fn fv:Hd} {l:ar} {lk:List ar} {B fb bb lb tb:Nat} {w:World} (hF:ef u fg fc fl ff fx fr fn fv fb w) (hk:Blk w bb #[.bool (l.kind == 7 || l.kind == 8)] tb) (hR:mG B lb l w)
  (hL:Rows 3 aJ B w (.slice fl.a fl.n fl.c) lk) (sb ts c:Nat) (hs:Blk w sb #[.func (.func 100) #[] #[.pointer (some ⟨lb,0,none⟩)],.func (.func 101) #[] #[.pointer (some ⟨bb,0,none⟩),.pointer (some ⟨lb,0,none⟩)],
   .func (.func 102) #[] #[.pointer (some ⟨lb,0,none⟩),.pointer (some ⟨fb,0,none⟩)]] ts) :
  Calls Tryz.prog 50 #[.slice (some ⟨sb,0,none⟩) 3 c] w λe w'=>e=.returned (.tuple #[.int .i64 (Ck.first (Ck.fE fg.n lk l)).1,.int .i64 ((Ck.first (Ck.fE fg.n lk l)).2:Int)])/\Mod [] w w':=by
 refine (jj (F:=[]) (K:=3) (fn:=λk=>[100,101,102].getD k 0)
  (caps:=λk=>([#[.pointer (some ⟨lb,0,none⟩)],#[.pointer (some ⟨bb,0,none⟩),.pointer (some ⟨lb,0,none⟩)],#[.pointer (some ⟨lb,0,none⟩),.pointer (some ⟨fb,0,none⟩)]]:List (Array Value)).getD k #[])
  (G:=λk=>(Ck.fE fg.n lk l).getD k (0,0)) (J:=λ_ W=>Mod [] w W) (Z:=λ_ W=>Mod [] w W)
  sb c w ⟨?call,?cf⟩ zd ?hF ?hJ ?hZ ?hc mR).mono λe w' h=>iH.list (Gs:=Ck.fE fg.n lk l) h (λh=>h) (λ_ h=>h)
 case cf =>
  intro k hk a W;have q0:(callFunc 100 a).run Tryz.prog W=.ok (.enter 100 a) W:=zt;have q1:(callFunc 101 a).run Tryz.prog W=.ok (.enter 101 a) W:=zt;have q2:(callFunc 102 a).run Tryz.prog W=.ok (.enter 102 a) W:=zt
  match k,hk with
  | 0,_=>simp only [List.getD_cons_zero,List.getD_cons_succ];exact q0
  | 1,_=>simp only [List.getD_cons_zero,List.getD_cons_succ];exact q1
  | 2,_=>simp only [List.getD_cons_zero,List.getD_cons_succ];exact q2
 case hF=>intro x hx;cases hx
 case hJ=>exact λk W W' h b=>h.below' b
 case hZ=>exact λk W W' h b=>h.below' b
 case hc =>
  intro k W hk h;have q:=hs.kept h zk;have:=q.cell k;rw [this]
  match k,hk with
  | 0,_=>rfl
  | 1,_=>rfl
  | 2,_=>rfl
 case call =>
  intro k W hk' h;have fin:∀ {e:Ending} {W':World} {g:Int×Nat},e=.returned (.tuple #[.int .i64 g.1,.int .i64 (g.2:Int)])/\Mod [] W W' ->
    e=.returned (.tuple #[.int .i64 g.1,.int .i64 (g.2:Int)])/\Mod [] W W'/\(g.1=0->Mod [] w W')/\(g.1≠0->Mod [] w W'):=λq =>
   ⟨q.1,q.2,λ_=>h.then q.2,λ_=>h.then q.2⟩
  match k,hk' with
  | 0,_=>exact (uf B lb l W (hR.kept h)).mono λe W' q=>fin (g:=(Ck.when (decide (60<l.rules.length)) 2,0)) q
  | 1,_=>exact (ue B lb bb _ l W ((hk.kept h zk).cell 0) (hR.kept h)).mono λe W' q=>fin (g:=(Ck.when ((l.kind == 7 || l.kind == 8) && decide (0<l.rules.length)) 40,0)) q
  | 2,_=>exact (ud u fg fc fl ff fx fr fn fv B fb lb l lk W (hL.mod aJ.stay h) (hF.kept h) (hR.kept h)).mono λe W' q=>fin q
theorem Ck.rR (n:Nat) (lk:List ar) (l:ar):Ck.lookup n lk l=if l.kind<1∨8<l.kind then 42 else (Ck.first (Ck.fE n lk l)).1:=rfl
theorem pp (u:Int) (fg fc fl ff fx fr fn fv:Hd) (cs:List Value) (l:ar) (lk:List ar) (B:Nat) (w:World) (h:aJ B w cs l) (hL:Rows 3 aJ B w (.slice fl.a fl.n fl.c) lk) :
  Calls Tryz.prog 41 #[.agg (af u fg fc fl ff fx fr fn fv),.agg cs.toArray] w λe w'=>e=.returned (.int .i64 (Ck.lookup fg.n lk l))/\Mod [] w w':=by
 have HR:=Hi h;obtain ⟨v2,rfl,-,h2⟩:=h;obtain ⟨o2,d2,rfl,-⟩:=h2.form;rw [Ck.rR];have T:=Hi (own2 w (af u fg fc fl ff fx fr fn fv) 32 #[.int .i64 l.kind,.bool l.ignore,.slice o2 l.rules.length d2] 57);have c0:=(T.o.at 1 rfl).cell 0;simp only [gA,gZ,gS] at c0
 by_cases q1:l.kind<1
 ·have k1:=dT (p:=l.kind<(1:Int)) q1;rw [if_pos (.inl q1)];unfold af at T c0 ⊢;clear q1 HR hL h2;go_enter Tryz.func41,Tryz.ntmps41;go_wp2;go_ret;exact ⟨rfl,T.o.mod⟩
 have k1:=dF (p:=l.kind<(1:Int)) q1
 by_cases q2:8<l.kind
 ·have k2:=dT (p:=(8:Int)<l.kind) q2;rw [if_pos (.inr q2)];unfold af at T c0 ⊢;clear q1 q2 HR hL h2;go_enter Tryz.func41,Tryz.ntmps41;go_wp2;go_ret;exact ⟨rfl,T.o.mod⟩
 have k2:=dF (p:=(8:Int)<l.kind) q2;rw [if_neg zo];have T3:=Hi (own3 w (af u fg fc fl ff fx fr fn fv) 32 #[.int .i64 l.kind,.bool l.ignore,.slice o2 l.rules.length d2] 57 #[.bool (l.kind == 7 || l.kind == 8)] 4)
 have HFi:=Hi (λW (m:Mod [] (((w.alloc (.cells (af u fg fc fl ff fx fr fn fv) 32)).alloc (.cells #[.int .i64 l.kind,.bool l.ignore,.slice o2 l.rules.length d2] 57)).alloc (.cells #[.bool (l.kind == 7 || l.kind == 8)] 4)) W) =>
  rT (u:=u) (fg:=fg) (fc:=fc) (fl:=fl) (ff:=ff) (fx:=fx) (fr:=fr) (fn:=fn) (fv:=fv) (l:=l) (lk:=lk) (B:=B) (fb:=w.heap.size) (lb:=w.heap.size+1) (bb:=w.heap.size+1+1) (w:=W)
   ⟨_,(T3.o.at 0 rfl).kept m zk⟩ ((T3.o.at 2 rfl).kept m zk) ⟨_,_,(T3.o.at 1 rfl).kept m zk,aJ.stay _ _ _ _ _ HR.o ((T3.o.mod.then m).above B)⟩ ((hL.mod aJ.stay T3.o.mod).mod aJ.stay m))
 have M3:=Hi T3.o.mod;generalize Ck.first (Ck.fE fg.n lk l)=G at *
 obtain ⟨g1,g2⟩:=G;simp only at HFi ⊢;unfold af at T HFi M3 c0 ⊢;clear hL h2 HR T3 q1 q2;obtain ⟨b7,a7,a7',a7''⟩:=neqf l.kind 7;obtain ⟨b8,a8,a8',a8''⟩:=neqf l.kind 8;rw [a7'',a8''] at HFi M3;cases b7 with
 | false =>
  simp only [Bool.not_false,Bool.true_or] at HFi M3 a7' a7'';clear a8 a8' a8'';have hsz:(((w.alloc (.cells #[.int .i64 u,.slice fg.a fg.n fg.c,.slice fc.a fc.n fc.c,.slice fl.a fl.n fl.c,.slice ff.a ff.n ff.c,.slice fx.a fx.n fx.c,.slice fr.a fr.n fr.c,.slice fn.a fn.n fn.c,.slice fv.a fv.n fv.c] 32)).alloc (.cells #[.int .i64 l.kind,.bool l.ignore,.slice o2 l.rules.length d2] 57)).alloc (.cells #[.bool true] 4)).heap.size=w.heap.size+1+1+1:=by simp
  go_enter Tryz.func41,Tryz.ntmps41;go_wp2_with fail;generalize ((w.alloc (.cells #[.int .i64 u,.slice fg.a fg.n fg.c,.slice fc.a fc.n fc.c,.slice fl.a fl.n fl.c,.slice ff.a ff.n ff.c,.slice fx.a fx.n fx.c,.slice fr.a fr.n fr.c,.slice fn.a fn.n fn.c,.slice fv.a fv.n fv.c] 32)).alloc (.cells #[.int .i64 l.kind,.bool l.ignore,.slice o2 l.rules.length d2] 57)).alloc (.cells #[.bool true] 4)=W0 at *
  have hW:=(Mod.refl [] W0).alloc (.cells #[.func (.func 100) #[] #[.pointer (some ⟨w.heap.size+1,0,none⟩)],.func (.func 101) #[] #[.pointer (some ⟨w.heap.size+1+1,0,none⟩),.pointer (some ⟨w.heap.size+1,0,none⟩)],
   .func (.func 102) #[] #[.pointer (some ⟨w.heap.size+1,0,none⟩),.pointer (some ⟨w.heap.size,0,none⟩)]] 117)
  have hc:=HFi.o _ hW W0.heap.size _ 3 (Blk.new W0 _ _);rw [hsz] at hc;have HM0:=Hi (M3.o.then hW);clear HFi T hW M3 hsz;refine Calls.mono hc ?_;rintro e w2 ⟨rfl,m2⟩;have HM:=Hi (HM0.o.then m2);clear m2 hc HM0;go_wp2;go_ret;exact ⟨rfl,HM.o⟩
 | true =>
  simp only [Bool.not_true,Bool.false_or] at HFi M3 a7' a7'';generalize (!b8)=b9 at *
  have hsz:(((w.alloc (.cells #[.int .i64 u,.slice fg.a fg.n fg.c,.slice fc.a fc.n fc.c,.slice fl.a fl.n fl.c,.slice ff.a ff.n ff.c,.slice fx.a fx.n fx.c,.slice fr.a fr.n fr.c,.slice fn.a fn.n fn.c,.slice fv.a fv.n fv.c] 32)).alloc (.cells #[.int .i64 l.kind,.bool l.ignore,.slice o2 l.rules.length d2] 57)).alloc (.cells #[.bool b9] 4)).heap.size=w.heap.size+1+1+1:=by simp
  go_enter Tryz.func41,Tryz.ntmps41;go_wp2_with fail;generalize ((w.alloc (.cells #[.int .i64 u,.slice fg.a fg.n fg.c,.slice fc.a fc.n fc.c,.slice fl.a fl.n fl.c,.slice ff.a ff.n ff.c,.slice fx.a fx.n fx.c,.slice fr.a fr.n fr.c,.slice fn.a fn.n fn.c,.slice fv.a fv.n fv.c] 32)).alloc (.cells #[.int .i64 l.kind,.bool l.ignore,.slice o2 l.rules.length d2] 57)).alloc (.cells #[.bool b9] 4)=W0 at *
  have hW:=(Mod.refl [] W0).alloc (.cells #[.func (.func 100) #[] #[.pointer (some ⟨w.heap.size+1,0,none⟩)],.func (.func 101) #[] #[.pointer (some ⟨w.heap.size+1+1,0,none⟩),.pointer (some ⟨w.heap.size+1,0,none⟩)],
   .func (.func 102) #[] #[.pointer (some ⟨w.heap.size+1,0,none⟩),.pointer (some ⟨w.heap.size,0,none⟩)]] 117)
  have hc:=HFi.o _ hW W0.heap.size _ 3 (Blk.new W0 _ _);rw [hsz] at hc;have HM0:=Hi (M3.o.then hW);clear HFi T hW M3 hsz;refine Calls.mono hc ?_;rintro e w2 ⟨rfl,m2⟩;have HM:=Hi (HM0.o.then m2);clear m2 hc HM0;go_wp2;go_ret;exact ⟨rfl,HM.o⟩
def Ck.lU (n:Nat) (lk:List ar) (k:Int):Int:=if k<0∨(lk.length:Int)<=k then 1 else match lk[k.toNat]? with | Option.some l=>Ck.lookup n lk l | Option.none=>1
theorem pH (u:Int) (fg fc fl ff fx fr fn fv:Hd) (lk:List ar) (k:Int) (B:Nat) (w:World) (hL:Rows 3 aJ B w (.slice fl.a fl.n fl.c) lk) :
  Calls Tryz.prog 16 #[.agg (af u fg fc fl ff fx fr fn fv),.int .i64 k] w λe w'=>e=.returned (.int .i64 (Ck.lU fg.n lk k))/\Mod [] w w':=by
 obtain ⟨la,ln,lc⟩:=fl;simp only at hL;obtain ⟨_,_,he,hml⟩:=hL.form;obtain rfl:ln=lk.length:=by cases he;rfl
 clear he hml;have T:=Hi (own1 w (af u fg fc ⟨la,lk.length,lc⟩ ff fx fr fn fv) 32);have c3:=(T.o.at 0 rfl).cell 3;have HL:=Hi (hL.mod aJ.stay T.o.mod);obtain ⟨D,hD⟩:∃ D,Ck.lU fg.n lk k=D:=⟨_,rfl⟩
 rw [hD];have HD:=Hi hD;clear hD hL;unfold Ck.lU at HD
 by_cases q1:k<0
 ·have k1:=dT (p:=k<(0:Int)) q1;obtain rfl:(1:Int)=D:=by have:=HD.o;rwa [if_pos (.inl q1)] at this
  unfold af at T c3 ⊢;clear q1 HL HD;go_enter Tryz.func16,Tryz.ntmps16;go_wp2;go_ret;exact ⟨rfl,T.o.mod⟩
 have k1:=dF (p:=k<(0:Int)) q1
 by_cases q2:(lk.length:Int)<=k
 ·have k2:=dT (p:=(lk.length:Int)<=k) q2;obtain rfl:(1:Int)=D:=by have:=HD.o;rwa [if_pos (.inr q2)] at this
  unfold af at T c3 ⊢;clear q1 q2 HL HD;go_enter Tryz.func16,Tryz.ntmps16;go_wp2;go_ret;exact ⟨rfl,T.o.mod⟩
 have k2:=dF (p:=(lk.length:Int)<=k) q2;rw [if_neg zo] at HD;obtain ⟨i,rfl⟩:∃ i:Nat,k=i:=⟨k.toNat,by omega⟩
 have hi:i<lk.length:=zo;rw [Int.toNat_natCast,gE hi] at HD;simp only at HD;obtain ⟨a,rfl,-,cs,-,hc0,hcj,hr⟩:=HL.o.at i hi;have HC:=Hi (λW (m:Mod [] (w.alloc (.cells (af u fg fc ⟨some a,lk.length,lc⟩ ff fx fr fn fv) 32)) W)=>pp u fg fc ⟨some a,lk.length,lc⟩ ff fx fr fn fv cs lk[i] lk B W (aJ.stay _ _ _ _ _ hr (m.above B)) (HL.o.mod aJ.stay m));obtain ⟨v2,rfl,-,-⟩:=hr;have a0:=hc0 zd;have a1:=hcj 1 zd zd;have a2:=hcj 2 zd zd;simp only [gZ,gS] at a0 a1 a2;have A0:=λW (m:Mod [] _ W)=>(m.cell (aV a0) zk).trans a0
 have A1:=λW (m:Mod [] _ W)=>(m.cell (aV a1) zk).trans a1
 have A2:=λW (m:Mod [] _ W)=>(m.cell (aV a2) zk).trans a2
 rw [HD.o] at HC;generalize lk[i]=x at *
 have k5:(0:Int)<=i:=zo;have k6:(i:Int)<lk.length:=zo;have k7:=dT (p:=i<lk.length) hi;have k8:=dF (p:=lk.length<=i) zo;clear hc0 hcj a0 a1 a2 q1 q2 hi HD HL;unfold af at T HC A0 A1 A2 c3 ⊢;go_enter Tryz.func16,Tryz.ntmps16;go_upto_region 3 with fail;generalize w.alloc (.cells #[.int .i64 u,.slice fg.a fg.n fg.c,.slice fc.a fc.n fc.c,.slice (some a) lk.length lc,.slice ff.a ff.n ff.c,.slice fx.a fx.n fx.c,.slice fr.a fr.n fr.c,.slice fn.a fn.n fn.c,.slice fv.a fv.n fv.c] 32)=W0 at *
 have AF:=(T.o.at 0 rfl).every;refine ak 7 [true,true,true,true,true,true,true] [] zt zt zk ?_;simp only [aQ]
 iterate 6
  refine sv ?_
 refine sk (λW m=>HC.o W m) ?_;refine au ?_;refine aB (λw' hw' _=>?_);simp only [qS,qZ];go_wp2;go_ret;exact ⟨rfl,T.o.mod.then hw'⟩
set_option maxRecDepth 100000
def FM (ns:List ByteArray) (i:Nat) (m:List (ByteArray×Value)):Prop:=∀ s,Gm.look m s=if (ns.take i).any (λx=>decide (x=s)) then some (.int .i64 ((ns.findIdx (λx=>decide (x=s)):Nat):Int)) else none
theorem FM.start (ns:List ByteArray):FM ns 0 []:=λs=>by simp [Gm.look]
theorem FM.skip {ns:List ByteArray} {i:Nat} {m:List (ByteArray×Value)} (h:FM ns i m) (hi:i<ns.length) (hs:(Gm.look m ns[i]).isSome=true):FM ns (i+1) m:=λs=>by
 have h1:=h ns[i];have h2:((ns.take i).any λx=>decide (x=ns[i]))=true:=by
  cases hh:(ns.take i).any λx=>decide (x=ns[i]) with
  | true=>rfl
  | false=>rw [hh] at h1;rw [h1] at hs;cases hs
 rw [List.take_succ_eq_append_getElem hi,List.any_append,h s];simp only [List.any_cons,List.any_nil,Bool.or_false]
 by_cases he:ns[i]=s
 ·subst he;rw [h2];simp
 ·rw [dF he,Bool.or_false]
theorem FM.add {ns:List ByteArray} {i:Nat} {m:List (ByteArray×Value)} (h:FM ns i m) (hi:i<ns.length) (hs:(Gm.look m ns[i]).isSome=false):FM ns (i+1) (Gm.put m ns[i] (.int .i64 (i:Int))):=λs=>by
 have hn:m.find? (λp=>decide (p.1=ns[i]))=none:=by
  unfold Gm.look at hs;cases hh:m.find? (λp=>decide (p.1=ns[i])) with
  | none=>rfl
  | some p=>rw [hh] at hs;cases hs
 have h2:((ns.take i).any λx=>decide (x=ns[i]))=false:=by
  cases hh:(ns.take i).any λx=>decide (x=ns[i]) with
  | false=>rfl
  | true=>have h1:=h ns[i];rw [hh] at h1;rw [h1] at hs;cases hs
 have hp:Gm.look (Gm.put m ns[i] (.int .i64 (i:Int))) s=if ns[i]=s then (Gm.look m s).or (some (.int .i64 (i:Int))) else Gm.look m s:=by
  unfold Gm.put Gm.look;rw [hn];simp only [Option.isSome_none,Bool.false_eq_true,if_false,List.find?_append]
  by_cases he:ns[i]=s
  ·rw [if_pos he];cases m.find? (λp=>decide (p.1=s)) with
   | none=>simp [he]
   | some p=>simp
  ·rw [if_neg he];cases m.find? (λp=>decide (p.1=s)) with
   | none=>simp [he]
   | some p=>simp
 rw [hp,List.take_succ_eq_append_getElem hi,List.any_append];simp only [List.any_cons,List.any_nil,Bool.or_false]
 by_cases he:ns[i]=s
 ·subst he;have h1:=h ns[i];rw [h2] at h1;have hb:=dT (p:=ns[i]=ns[i]) rfl;rw [if_pos rfl,h1,h2,hb];have hx:ns.findIdx (λx=>decide (x=ns[i]))=i:=by
   refine (List.findIdx_eq hi).2 ⟨hb,λj hj=>?_⟩;rw [List.any_eq_false] at h2;have:=h2 ns[j] (List.mem_take_iff_getElem.2 ⟨j,by omega,rfl⟩);simpa using this
  rw [hx];rfl
 ·rw [if_neg he,h s];rw [dF he,Bool.or_false]
abbrev nI {α:Type} (k:Nat) (R:Nat->World->List Value->α->Prop) (nm:α->ByteArray) (id:FuncId):Prop:=∀ {fn:Nat} {oa:Option Addr} {n c B:Nat} {l:List α} (w:World) (h:Rows k R B w (.slice oa n c) l)
  (hf:∀ x cs W,R B W cs x->Calls Tryz.prog fn #[.agg cs.toArray] W λe W'=>e=.returned (.string (nm x))/\Mod [] W W')
  (hcf:∀ (a:Array Value) (w:World),(callFunc fn a).run Tryz.prog w=.ok (.enter fn a) w),
  Calls Tryz.prog id #[.slice oa n c,.func (.func fn) #[] #[]] w λe w'=>(∃ b m,e=.returned (.map (some b))/\w.heap.size<=b/\Gm.cJ Value.string w' b m/\FM (l.map nm) l.length m)/\Mod [] w w'
theorem kQ {α:Type} {k:Nat} {R:Nat->World->List Value->α->Prop} {id:FuncId} {g:Func} (T:ETy Tryz.f48 28 76 113 k R id g) (nm:α->ByteArray):nI k R nm id:=by
 intro fn oa n c B l w h hf hcf;obtain ⟨mt,hfn,hx,hu,⟨z,hz,hV⟩,hi,hZ,hA,hI⟩:=T.o;have hst:=T.st;have HK0:=Hi T.hk;have HO:=Hi (T.one B);have HTI:=Hi hi;have HI:=Hi (hI c l.length);have HZ2:=Hi hz;have HST:=Hi hst;clear T hi hI hz hst;obtain ⟨_,_,he,hml⟩:=h.form;obtain rfl:n=l.length:=by cases he;rfl
 clear he;have HML:=Hi (show l.length<=9223372036854775807 from hml);have HR:=Hi h;have HF:=Hi hf;have HG0:=Hi (Gm.cJ.new Value.string w);have HM0:=Hi ((Mod.refl [] w).alloc (.map #[] 0));have hzi:∀ W:World,(zeroValue 3).run Tryz.prog W=.ok (.int .i64 0) W:=λW=>by kernel_rfl
 have HZ:=Hi hzi;have hmk:(Instr.makeMap 89 none).run Tryz.prog w=.ok (.map (some w.heap.size)) (w.alloc (.map #[] 0)):=zt;clear h hf hml hzi;have hnt:(jQ mt g Tryz.f48).ntmps=35:=Tryz.ntmps48;go_enter hfn,hnt;simp only [iQ,qV,Cc,List.map_toArray,List.map_cons,List.map_nil,hx,ne_eq,Nat.reduceEqDiff,not_false_eq_true];clear hnt hfn hx;go_wp2_with fail;clear hmk;obtain ⟨mb,hmb⟩:∃ mb,mb=w.heap.size:=⟨_,rfl⟩
 rw [<- hmb] at HG0 ⊢;have HMB:=Hi hmb;clear hmb;generalize w.alloc (.map #[] 0)=w0 at *
 go_loopg [13] l.length (λgk v13 wr=>∃ (i:Nat) (m:List (ByteArray×Value)),v13=.int .i64 (i:Int)/\Hy (i+gk=l.length)/\Hy (Gm.cJ Value.string wr mb m)/\Hy (FM (l.map nm) i m)/\Hy (Mod [] w wr))
 case atStart=>exact ⟨0,[],rfl,by show 0+l.length=l.length;omega,HG0.o,FM.start _,HM0.o⟩
 case round =>
  obtain ⟨i,m,rfl,hi,HG,HFM,HW⟩:=hrel;clear HG0 HM0
  by_cases hin:i<l.length
  case neg =>
   obtain rfl:i=l.length:=by have:=hi.o;omega
   have k1:=dF (p:=(l.length:Int)<l.length) zo;go_wp2;go_ret;exact ⟨⟨mb,m,rfl,by rw [HMB.o];exact nR _,HG.o,HFM.o⟩,HW.o⟩
  have k1:=dT (p:=(i:Int)<l.length) zo;have k2:(0:Int)<=i:=zo;have k3:(i:Int)<l.length:=zo;have k4:=dT (p:=i<l.length) hin;have HIN:=Hi (show i<(l.map nm).length by simpa using hin);have HNM:=Hi (show (l.map nm)[i]'HIN.o=nm l[i] by simp);obtain ⟨a,rfl,-,cs,hk,hc0,hcj,hx⟩:=(HR.o.mod HST.o HW.o).at i hin;generalize l[i]=x at *
  have hL:=oT (w:=wr) (a:=a) (i:=i) hk HK0.o hc0 hcj;have g1:=HI.o a i wr hin;have ei:IntKind.i64.wrap ((i:Int)+1)=(i:Int)+1:=IntWalk.i64_in _ zqh;have al:Mod [] wr (wr.alloc (.cells cs.toArray (mt 76))):=mR.alloc _;have HX:=Hi (λW (m:Mod [] (wr.alloc (.cells cs.toArray (mt 76))) W)=>HF.o x _ W (HST.o _ _ _ _ _ hx ((al.then m).above B)));have HB:=Hi (Blk.new wr cs.toArray (mt 76));have HW1:=Hi (HW.o.then al);have HG1:=Hi (HG.o.mod al zk);have HOX:=Hi (HO.o _ _ _ hx);clear hc0 hcj hx al hin HW HG;have hSt:(storeCells ⟨wr.heap.size,0,none⟩ cs 0).run Tryz.prog (wr.alloc (.cells z (mt 76)))=.ok () (wr.alloc (.cells cs.toArray (mt 76))):=by
   have:=run_storeCells_new (P:=Tryz.prog) wr (mt 76) z cs.toArray (by rw [HTI.o];simp [hk]) (by simp [hk,HZ2.o]) HOX.o;simpa using this
  have HCK:=Hi (show cs.toArray.size=k by simp [hk]);go_upto_region 5 with fail;clear hSt hL hV hk;generalize wr.alloc (.cells cs.toArray (mt 76))=w1 at *
  generalize wr.heap.size=b7 at *
  have hLd:=HB.o.loads HCK.o;go_wp2_with fail;refine (HX.o w1 mR).mono ?_;rintro e w2 ⟨rfl,m2⟩;have HG2:=Hi (HG1.o.mod m2 zk);have HW2:=Hi (HW1.o.then m2);have HB2:=Hi (HB.o.kept m2 zk);have HM2:=Hi m2;have hlk:=Gm.cH kF HG2.o Tryz.underlying89 (HZ.o w2) (nm x) true;simp only [if_true] at hlk;obtain ⟨bs,hbs⟩:∃ b,(Gm.look m (nm x)).isSome=b:=⟨_,rfl⟩
  rw [hbs] at hlk;have HBS:=Hi hbs;clear hbs m2 hLd HG1 HW1 HB;generalize (Gm.look m (nm x)).getD (Value.int .i64 0)=lv at *
  cases bs with
  | true =>
   have HFM2:=Hi (HFM.o.skip HIN.o (by rw [HNM.o];exact HBS.o));go_wp2;go_roundg (gk - 1)
   case measure=>have:=hi.o;have:=HIN.o;simp at this;omega
   case rel=>exact ⟨i+1,m,by rw [Int.natCast_add];rfl,by have:=hi.o;have:=HIN.o;simp at this;show i+1+(gk - 1)=l.length;omega,HG2.o,HFM2.o,HW2.o⟩
  | false =>
   have hfm:=HFM.o.add HIN.o (by rw [HNM.o];exact HBS.o);rw [HNM.o] at hfm;have HFM2:=Hi hfm;clear hfm;go_upto_region 7 with fail;clear hlk;have hLd:=HB2.o.loads HCK.o;go_wp2_with fail;refine (HX.o w2 HM2.o).mono ?_;rintro e w3 ⟨rfl,m3⟩;have HW3:=Hi (HW2.o.then m3);obtain ⟨W5,hmu,hM5,o1,o2,o3,o4,o5⟩:=Gm.iE kF (HG2.o.mod m3 zk) Tryz.underlying89 (nm x) (.int .i64 (i:Int));have HG5:=Hi hM5;have HW5:Hy (Mod [] w W5):=by
    have h:=HW3.o;exact ⟨o1.trans h.os,o2.trans h.tape,o3.trans h.output,by rw [o4];exact h.size,λq hq hn=>(o5 q (by rw [HMB.o];omega)).trans (h.block q hq hn)⟩
   clear m3 hLd hM5 o1 o2 o3 o4 o5 HX;go_wp2;go_roundg (gk - 1)
   case measure=>have:=hi.o;have:=HIN.o;simp at this;omega
   case rel=>exact ⟨i+1,_,by rw [Int.natCast_add];rfl,by have:=hi.o;have:=HIN.o;simp at this;show i+1+(gk - 1)=l.length;omega,HG5.o,HFM2.o,HW5.o⟩
theorem lL:nI 9 aI (·.name) 25:=kQ (ETy.of Tryz.func25 aI.stay zqm) _
theorem jX:nI 2 aZ (·.name) 46:=kQ (ETy.of Tryz.func46 aZ.stay (by rintro _ _ _ _ ⟨_,rfl,-,h⟩;simp [oS,h.one])) _
theorem uo:nI 4 eP (·.name) 48:=kQ (ETy.of Tryz.func48 eP.stay) _
end Go.Proofs.YthheaflbbficgaaGreat

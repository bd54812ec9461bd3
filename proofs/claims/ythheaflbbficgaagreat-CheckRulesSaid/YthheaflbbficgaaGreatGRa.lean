/- RfKit, RfLeaf, RfAnchors, RfProgs, RfName, RfAxes, RfFeat, RfChars, RfReach, RfDeeps, RfDeltas, RfEnds, RfFirst, RfFlat, RfShape, RfSet, RfSetP, RfSets, RfOuts, RfLookup, RfLooks, RfParts, RfGlyph, RfGlyphs, RfFont. -/
import Derived.Test.YthheaflbbficgaaGreatGBase
import Derived.Test.YthheaflbbficgaaGreatGCl
import Derived.Deep.CutBlock
import Derived.Test.YthheaflbbficgaaGreatGEa
import Derived.Test.YthheaflbbficgaaGreatGRing
import Derived.Test.YthheaflbbficgaaGreatGRf
import Derived.Test.YthheaflbbficgaaGreatGCp
import Derived.Test.YthheaflbbficgaaGreatGLs
import Derived.Test.YthheaflbbficgaaGreatGMr
set_option linter.all false
namespace Go.Proofs.YthheaflbbficgaaGreat
open Go.RowKit
theorem Rf.lf {i n:Nat} (h:i<n) (hn:n<=9223372036854775807):decide ((i:Int)<n)=true/\(0:Int)<=i/\(i:Int)<n/\decide (i<n)=true/\IntKind.i64.wrap ((i:Int)+1)=(i:Int)+1 :=
 ⟨dT zo,by omega,by omega,dT h,IntWalk.i64_in _ zo⟩
theorem Rf.lz (n:Nat):decide ((n:Int)<n)=false:=dF zo
theorem Rf.nx {i gk n:Nat} (h:Hy (i+gk=n)) (hn:i<n):i+1+(gk - 1)=n:=by have:=h.o;omega
theorem Rf.ms {i gk n:Nat} (h:Hy (i+gk=n)) (hn:i<n):gk - 1<gk:=by have:=h.o;omega
theorem Rf.eqb {x y:Int} (h:x≠y):(x == y)=false/\(x != y)=true/\decide (x=y)=false:=⟨by simp [h],by simp [h],dF h⟩
theorem Own.front {w0 w:World} {l k:List (Nat×Array Value×TypeId)} (S:Own w0 w (l++k)):Own w0 w l:=⟨S.mod,λp hp=>S.blk p (List.mem_append_left _ hp),by have:=S.nodup;rw [List.map_append] at this;exact (List.nodup_append.1 this).1⟩
set_option maxHeartbeats 8000000
theorem eh (x:Int) (w:World):Calls Tryz.prog 31 #[.int .i64 x] w λe w'=>e=.returned (.bool (Ck.may x))/\w=w':=by
 unfold Ck.may;obtain ⟨a,ha⟩:=bits ((-16384:Int)<=x);obtain ⟨b,hb⟩:=bits (x<=(16384:Int));simp only [ha,hb];cases a <;> cases b <;> (go_enter Tryz.func31,Tryz.ntmps31;go_wp2;go_ret;exact ⟨rfl,rfl⟩)
theorem sJ (oa:Option Addr) (n c B:Nat) (l:List bS) (w:World) (h:Rows 2 jm B w (.slice oa n c) l) :
  Calls Tryz.prog 37 #[.slice oa n c] w λe w'=>e=.returned (.int .i64 (Ck.program l))/\w=w':=by
 obtain ⟨_,_,he,hml⟩:=h.form;obtain rfl:n=l.length:=by cases he;rfl
 clear he;have HML:=Hi (show l.length<=9223372036854775807 from hml);have HR:=Hi h;clear h hml
 by_cases hm:(200:Int)<l.length
 ·have k0:=dT (p:=(200:Int)<l.length) hm;have HX:Hy (Ck.program l=2):=by show _=_;unfold Ck.program Ck.some;rw [if_pos zo]
  clear hm;go_enter Tryz.func37,Tryz.ntmps37;go_wp2;go_ret;rw [HX.o];exact ⟨rfl,rfl⟩
 have k0:=dF (p:=(200:Int)<l.length) hm;obtain ⟨D,hD⟩:∃ D,Ck.program l=D:=⟨_,rfl⟩
 rw [hD];have HD:Hy ((Ck.bz (λ_ i=>Ck.ins i) 0 (l.drop 0)).1=D):=by show _=_;rw [<- hD];unfold Ck.program Ck.some Ck.each;rw [if_neg zo];rfl
 clear hD hm;go_enter Tryz.func37,Tryz.ntmps37;go_wp2_with fail
 go_loopg [3] l.length (λgk v wr=>∃ i:Nat,v=.int .i64 (i:Int)/\Hy (i+gk=l.length)/\wr=w/\Hy ((Ck.bz (λ_ i=>Ck.ins i) i (l.drop i)).1=D))
 case atStart=>exact ⟨0,rfl,by show 0+l.length=l.length;omega,rfl,HD.o⟩
 case round =>
  obtain ⟨i,rfl,hi,rfl,HE⟩:=hrel;clear HD
  by_cases hin:i<l.length
  case neg =>
   obtain rfl:i=l.length:=by have:=hi.o;omega
   have k1:=dF (p:=(l.length:Int)<l.length) zo;have hF:=HE.o;rw [Ck.dH] at hF;have HF:=Hi hF;clear hF;go_wp2;go_ret;rw [<- HF.o];exact ⟨rfl,rfl⟩
  have k1:=dT (p:=(i:Int)<l.length) zo;have k2:(0:Int)<=i:=zo;have k3:(i:Int)<l.length:=zo;have k4:=dT (p:=i<l.length) hin;have HN1:=Hi (λh:Ck.ins l[i]≠0=>(congrArg (·.1) (Ck.dt (f:=λ_ i=>Ck.ins i) hin h)).symm.trans HE.o);have HN2:=Hi (λh:Ck.ins l[i]=0=>(congrArg (·.1) (Ck.dZ (f:=λ_ i=>Ck.ins i) hin h)).symm.trans HE.o);obtain ⟨a,rfl,-,cs,-,hc0,hcj,rfl,-⟩:=HR.o.at i hin;generalize l[i]=x at *
  have c0:=hc0 zd;have c1:=hcj 1 zd zd;simp only [gZ,gS] at c0 c1;have ei:IntKind.i64.wrap ((i:Int)+1)=(i:Int)+1:=IntWalk.i64_in _ zqh;obtain ⟨op,aa⟩:=x;simp only at c0 c1;clear hc0 hcj hin
  by_cases h1:op<1
  ·have z1:=dT (p:=op<(1:Int)) h1;have HX:=Hi ((show (50:Int)=Ck.ins ⟨op,aa⟩ by unfold Ck.ins;rw [if_pos (.inl h1)]).trans (HN1.o (by unfold Ck.ins;rw [if_pos (.inl h1)];decide)));clear h1 HN1 HN2 HE;go_wp2;go_ret;rw [<- HX.o];exact ⟨rfl,rfl⟩
  have z1:=dF (p:=op<(1:Int)) h1
  by_cases h2:(39:Int)<op
  ·have z2:=dT (p:=(39:Int)<op) h2;have HX:=Hi ((show (50:Int)=Ck.ins ⟨op,aa⟩ by unfold Ck.ins;rw [if_pos (.inr h2)]).trans (HN1.o (by unfold Ck.ins;rw [if_pos (.inr h2)];decide)));clear h1 h2 HN1 HN2 HE;go_wp2;go_ret;rw [<- HX.o];exact ⟨rfl,rfl⟩
  have z2:=dF (p:=(39:Int)<op) h2;have hn:¬ (op<1∨39<op):=zo
  by_cases h3:aa < -999999999
  ·have z3:=dT (p:=aa<(-999999999:Int)) h3;have HX:=Hi ((show (3:Int)=Ck.ins ⟨op,aa⟩ by unfold Ck.ins;rw [if_neg hn,if_pos (.inl h3)]).trans (HN1.o (by unfold Ck.ins;rw [if_neg hn,if_pos (.inl h3)];decide)));clear h1 h2 h3 hn HN1 HN2 HE;go_wp2;go_ret;rw [<- HX.o];exact ⟨rfl,rfl⟩
  have z3:=dF (p:=aa<(-999999999:Int)) h3
  by_cases h4:(999999999:Int)<aa
  ·have z4:=dT (p:=(999999999:Int)<aa) h4;have HX:=Hi ((show (3:Int)=Ck.ins ⟨op,aa⟩ by unfold Ck.ins;rw [if_neg hn,if_pos (.inr h4)]).trans (HN1.o (by unfold Ck.ins;rw [if_neg hn,if_pos (.inr h4)];decide)));clear h1 h2 h3 h4 hn HN1 HN2 HE;go_wp2;go_ret;rw [<- HX.o];exact ⟨rfl,rfl⟩
  have z4:=dF (p:=(999999999:Int)<aa) h4;have HE2:=Hi (HN2.o (by unfold Ck.ins;rw [if_neg hn,if_neg zqg]));clear h1 h2 h3 h4 hn HN1 HN2 HE;go_wp2;go_roundg (gk - 1)
  case measure=>have:=hi.o;omega
  case rel=>exact ⟨i+1,by rw [Int.natCast_add];rfl,by have:=hi.o;show i+1+(gk - 1)=l.length;omega,rfl,HE2.o⟩
theorem or3 (a b c:Bool):a=true∨(a=false/\b=true)∨(a=false/\b=false/\c=true)∨(a=false/\b=false/\c=false):=by cases a <;> cases b <;> cases c <;> simp
def Rf.tent (t:gv):Bool:=decide (-64<=t.start) && decide (t.start<=t.peak) && decide (t.peak<=t.stop) && decide (t.stop<=64) && (t.peak == 0 || decide (0<=t.start) || decide (t.stop<=0))
theorem Rf.Cs (t:gv):Rf.tent t=decide (Ck.tent t=0):=by
 unfold Rf.tent Ck.tent Ck.when
 by_cases h1:(-64:Int)<=t.start <;> by_cases h2:t.start<=t.peak <;> by_cases h3:t.peak<=t.stop <;> by_cases h4:t.stop<=(64:Int) <;> by_cases h5:t.start<0 <;> by_cases h6:(0:Int)<t.stop <;> by_cases h7:t.peak=0 <;> simp [h1,h2,h3,h4,h5,h6,h7] <;> omega
theorem ye (s p e:Int) (w:World):Calls Tryz.prog 151 #[.agg #[.int .i64 s,.int .i64 p,.int .i64 e]] w λx w'=>x=.returned (.bool (Rf.tent ⟨s,p,e⟩))/\Mod [] w w':=by
 unfold Rf.tent;simp only;have T:=Hi (own1 w #[.int .i64 s,.int .i64 p,.int .i64 e] 81);have a0:=(T.o.at 0 rfl).cell 0;have a1:=(T.o.at 0 rfl).cell 1;have a2:=(T.o.at 0 rfl).cell 2;obtain ⟨b1,h1⟩:=bits ((-64:Int)<=s);obtain ⟨b2,h2⟩:=bits (s<=p);obtain ⟨b3,h3⟩:=bits (p<=e);obtain ⟨b4,h4⟩:=bits (e<=(64:Int));obtain ⟨b5,h5⟩:∃ b,(p == 0)=b:=⟨_,rfl⟩
 obtain ⟨b6,h6⟩:=bits ((0:Int)<=s);obtain ⟨b7,h7⟩:=bits (e<=(0:Int));simp only [h1,h2,h3,h4,h5,h6,h7];go_enter Tryz.func151,Tryz.ntmps151;rcases and4 b1 b2 b3 b4 with rfl | ⟨rfl,rfl⟩ | ⟨rfl,rfl,rfl⟩ | ⟨rfl,rfl,rfl,rfl⟩ | ⟨rfl,rfl,rfl,rfl⟩ <;> rcases or3 b5 b6 b7 with rfl | ⟨rfl,rfl⟩ | ⟨rfl,rfl,rfl⟩ | ⟨rfl,rfl,rfl⟩ <;>
  (go_wp2;go_ret;exact ⟨rfl,T.o.mod⟩)
set_option maxRecDepth 100000
theorem Rf.mY {α:Type} {f:Nat->α->Int}:∀ {l:List α} {k:Nat},Ck.bz f k l=(0,0)->∀ i (h:i<l.length),f (k+i) l[i]=0
 | x::l,k,h,i,hi=>by
  unfold Ck.bz at h
  by_cases h0:f k x=0
  ·cases i with
   | zero=>exact h0
   | succ i =>
    rw [if_pos h0] at h;have:=Rf.mY h i zql;rwa [show k+1+i=k+(i+1) by omega] at this
  ·rw [if_neg h0] at h;exact absurd (congrArg Prod.fst h) h0
theorem Rf.nE {α:Type} {f:Nat->α->Int} {l:List α} (h:Ck.each f l=(0,0)) (i:Nat) (hi:i<l.length):f i l[i]=0:=by
 have:=Rf.mY h i hi;rwa [Nat.zero_add] at this
theorem Rf.lN {α:Type} {f:Nat->α->Int}:∀ {l:List α} {k:Nat},(Ck.bz f k l).1=0->Ck.bz f k l=(0,0)
 | [],_,_=>rfl
 | x::l,k,h=>by
  unfold Ck.bz at h ⊢
  by_cases h0:f k x=0
  ·rw [if_pos h0] at h ⊢;exact Rf.lN h
  ·rw [if_neg h0] at h;exact absurd h h0
theorem Rf.eY {α:Type} {f:Nat->α->Int} {l:List α} (h:(Ck.each f l).1=0):Ck.each f l=(0,0):=Rf.lN h
theorem Rf.dn {α:Type} {m:Nat} {f:Nat->α->Int} {l:List α} (h:Ck.some m f l=(0,0)):l.length<=m/\∀ i (hi:i<l.length),f i l[i]=0:=by
 unfold Ck.some at h
 by_cases hm:m<l.length
 ·rw [if_pos hm] at h;exact absurd (congrArg Prod.fst h) zd
 ·rw [if_neg hm] at h;exact ⟨by omega,Rf.nE h⟩
theorem Rf.iD {b:Bool} {e:Int} (he:e≠0) (h:Ck.when b e=0):b=false:=by
 cases b
 ·rfl
 ·exact absurd h he
theorem Rf.zB {mark:Bool} {l:List bh} (h:Ck.anchors mark l=(0,0)) (i:Nat) (hi:i<l.length):1<=l[i].kind/\l[i].kind<=4/\0<=l[i].cls/\l[i].cls<=15/\(2<l[i].kind->l[i].cls=0)/\Ck.may l[i].x=true/\Ck.may l[i].y=true/\(l[i].kind=2->mark=true)/\∀ j (hj:j<i),l[j].kind≠l[i].kind∨l[j].cls≠l[i].cls:=by
 have h1:=Rf.iD zd ((Rf.dn h).2 i hi);simp only [Bool.or_eq_false_iff,Bool.and_eq_false_iff,decide_eq_false_iff_not,Bool.not_eq_false',bne_eq_false_iff_eq,beq_eq_false_iff_ne,List.any_eq_false,Bool.and_eq_true,beq_iff_eq,not_and] at h1;obtain ⟨⟨⟨⟨⟨⟨⟨a1,a2⟩,a3⟩,a4⟩,a5⟩,a6⟩,a7⟩,a8⟩:=h1;refine ⟨by omega,by omega,by omega,by omega,λh2=>?_,a6.1,a6.2,λh2=>?_,λj hj=>?_⟩
 ·rcases a5 with a5 | a5
  ·omega
  ·exact a5
 ·rcases a7 with a7 | a7
  ·exact absurd h2 a7
  ·exact a7
 ·have:=a8 l[j] (List.mem_take_iff_getElem.2 ⟨j,by omega,rfl⟩)
  by_cases h3:l[j].kind=l[i].kind
  ·exact .inr (this h3)
  ·exact .inl h3
theorem ua (v0 v1 v3 v4 v5 v7 v8:Value) (mark:Bool) (oa:Option Addr) (n c B:Nat) (l:List bh) (w:World) (h:Rows 4 dD B w (.slice oa n c) l) (hp:Ck.anchors mark l=(0,0)) :
  Calls Tryz.prog 35 #[.agg #[v0,v1,.bool mark,v3,v4,v5,.slice oa n c,v7,v8]] w λe w'=>e=.returned (.int .i64 0)/\Mod [] w w':=by
 obtain ⟨_,_,hq,hme⟩:=h.form;obtain rfl:n=l.length:=by cases hq;rfl
 clear hq hme;have T:=Hi (own1 w #[v0,v1,.bool mark,v3,v4,v5,.slice oa l.length c,v7,v8] 46);have HR:=Hi (λW (k:Mod [] w W)=>h.mod dD.stay k);have hl:=(Rf.dn hp).1;have HL:=Hi hl;have HP:=Hi (λi hi=>Rf.zB hp i hi);have k0:=dF (p:=(16:Int)<l.length) zo;clear h hl hp;go_enter Tryz.func35,Tryz.ntmps35;go_upto_block 3 with fail;go_wp2_with fail;generalize w.alloc _=w1 at *
 generalize w.heap.size=fb at *
 go_loopg [3] l.length (λgk v wr=>∃ i:Nat,v=.int .i64 (i:Int)/\Hy (i+gk=l.length)/\Hy (Own w wr [(fb,#[v0,v1,.bool mark,v3,v4,v5,.slice oa l.length c,v7,v8],46)]))
 case atStart=>exact ⟨0,rfl,by show 0+l.length=l.length;omega,T.o⟩
 case round =>
  obtain ⟨i,rfl,hi,HT⟩:=hrel;clear T;have d5:=(HT.o.at 0 rfl).cell 6
  by_cases hin:i<l.length
  case neg =>
   obtain rfl:i=l.length:=by have:=hi.o;omega
   have k1:=Rf.lz l.length;clear hin hi;go_wp2;go_ret;exact ⟨rfl,HT.o.mod⟩
  obtain ⟨k1,k2,k3,k4,ei⟩:=Rf.lf hin zqc;have HI:=Hi (And.intro (And.intro (Rf.ms hi hin) (Rf.nx hi hin)) hin);obtain ⟨h1,h2,h3,h4,h5,h6,h7,h8,h9⟩:=HP.o i hin;obtain ⟨a,rfl,-,cs,-,hc0,hcj,rfl,-⟩:=(HR.o wr HT.o.mod).at i hin;generalize l[i]=x at *
  have c0:=hc0 zd;have c1:=hcj 1 zd zd;have c2:=hcj 2 zd zd;have c3:=hcj 3 zd zd;simp only [gZ,gS] at c0 c1 c2 c3;obtain ⟨kd,cl,px,py⟩:=x;simp only at c0 c1 c2 c3 h1 h2 h3 h4 h5 h6 h7 h8 h9;have z1:=dF (p:=kd<(1:Int)) zo;have z2:=dF (p:=(4:Int)<kd) zo;have z3:=dF (p:=cl<(0:Int)) zo;have z4:=dF (p:=(15:Int)<cl) zo;obtain ⟨b1,hb1⟩:=bits ((2:Int)<kd);obtain ⟨b2,hb2⟩:=bits (kd=(2:Int));have hb3:(kd == 2)=b2:=by rw [<- hb2];rfl
  have hb:(b1=false/\b2=false)∨(b1=false/\b2=true/\mark=true)∨(b1=true/\b2=false/\cl=0):=by
   rw [<- hb1,<- hb2];simp only [decide_eq_true_eq,decide_eq_false_iff_not]
   by_cases q:2<kd
   ·exact .inr (.inr ⟨q,by omega,h5 q⟩)
   ·by_cases q2:kd=2
    ·exact .inr (.inl ⟨q,q2,h8 q2⟩)
    ·exact .inl ⟨q,q2⟩
  have H3:=Hi h6;have H4:=Hi h7;have H9:Hy (∀ (j:Nat) (hj:j<i) (hjl:j<l.length),(l[j]'hjl).kind≠kd∨(l[j]'hjl).cls≠cl):=λj hj hjl=>h9 j hj
  have HB:=Hi hb;clear hc0 hcj h9 hin hi h1 h2 h3 h4 h5 h6 h7 h8 hb;go_upto_region 7 with fail;have HT2:=Hi (HT.o.alloc #[.int .i64 kd,.int .i64 cl,.int .i64 px,.int .i64 py] 145);clear c0 c1 c2 c3 d5;generalize wr.alloc _=W1 at *
  generalize wr.heap.size=pb at *
  have e0:=(HT2.o.at 1 rfl).cell 0;have e1:=(HT2.o.at 1 rfl).cell 1;have ex:=(HT2.o.at 1 rfl).cell 2;have ey:=(HT2.o.at 1 rfl).cell 3;have em:=(HT2.o.at 0 rfl).cell 2;simp only [gA,gZ,gS] at e0 e1 ex ey em;go_wp2_with fail;refine (eh _ _).mono ?_;rintro e w2 ⟨rfl,rfl⟩;rw [H3.o];go_wp2_with fail;refine (eh _ _).mono ?_;rintro e w2 ⟨rfl,rfl⟩;rw [H4.o];have HBo:=HB.o;clear HB H3 H4;rcases HBo with ⟨rfl,rfl⟩ | ⟨rfl,rfl,rfl⟩ | ⟨rfl,rfl,rfl⟩
  all_goals
   go_upto_block 11 with fail
   go_wp2_with fail
   have HI2:=Hi HI.o.2
   generalize gk=g0 at *
   generalize wr=wo at *
   go_loopg [7] i (λgj v wx=>∃ j:Nat,v=.int .i64 (j:Int)/\Hy (j+gj=i)/\Hy (Own w wx [(fb,#[v0,v1,.bool _,v3,v4,v5,.slice (some a) l.length c,v7,v8],46),(pb,#[.int .i64 kd,.int .i64 _,.int .i64 px,.int .i64 py],145)]))
   case atStart=>exact ⟨0,rfl,by show 0+i=i;omega,HT2.o⟩
   case round =>
    obtain ⟨j,rfl,hj,HJ⟩:=hrel;have f6:=(HJ.o.at 0 rfl).cell 6
    by_cases hjn:j<i
    case neg =>
     obtain rfl:j=i:=by have:=hj.o;omega
     have k5:=Rf.lz j;clear hj hjn;go_wp2;go_roundg (g0 - 1)
     case measure=>exact HI.o.1.1
     case rel=>exact ⟨j+1,by rw [Int.natCast_add];rfl,HI.o.1.2,⟨HJ.o.mod,λp hp=>HJ.o.blk p (List.mem_append_left _ hp),by simp⟩⟩
    obtain ⟨q1,q2,q3,q4,qi⟩:=Rf.lf hjn (by have:=HL.o;have:=HI2.o;omega);have HJI:=Hi (And.intro (Rf.ms hj hjn) (Rf.nx hj hjn));have hjl:j<l.length:=Nat.lt_trans hjn HI2.o;have q5:(j:Int)<l.length:=zo;have hx:=H9.o j hjn hjl;obtain ⟨a',ha',-,cs,-,hc0,hcj,rfl,-⟩:=(HR.o wr HJ.o.mod).at j hjl;generalize l[j]=y at *
    obtain ⟨kj,cj,xj,yj⟩:=y;simp only at hx hc0 hcj;have c0:=hc0 zd;have c1:=hcj 1 zd zd;simp only [gZ,gS] at c0 c1;obtain rfl:a'=a:=by simpa using ha'.symm
    have A0:∀ W,Mod [] wr W->W.cell? (a'.add (j*4))=some (.int .i64 kj):=λW m=>aj m c0
    have A1:∀ W,Mod [] wr W->W.cell? ⟨(a'.add (j*4)).block,(a'.add (j*4)).off+1,none⟩=some (.int .i64 cj):=λW m=>aj m c1
    have A2:=(HJ.o.at 0 rfl).every;have A3:=(HJ.o.at 1 rfl).every;clear hc0 hcj c0 c1 ha' hj hjn hjl f6
    by_cases hk:kj=kd
    case neg =>
     obtain ⟨y1,y2,y3⟩:=Rf.eqb hk;clear hk hx;go_upto_region 14 with fail;refine ak 20 [true,true,true,true,true,true,true,true,true,true,true,true,true,true,true,true,true,true,true,true] [] zt zt zk ?_;simp only [aQ]
     iterate 10
      refine sv ?_
     iterate 9 refine su ?_
     refine sv ?_;refine au ?_;refine aB (λw' hw' _=>?_);simp only [qS,qZ];clear A0 A1 A2 A3;go_wp2;go_roundg (gk - 1)
     case measure=>exact HJI.o.1
     case rel=>exact ⟨j+1,by rw [Int.natCast_add];rfl,HJI.o.2,HJ.o.call hw'⟩
    subst hk;obtain ⟨y1,y2,y3⟩:=Rf.eqb (hx.resolve_left zk);clear hx;go_upto_region 14 with fail;refine ak 20 [true,true,true,true,true,true,true,true,true,true,true,true,true,true,true,true,true,true,true,true] [] zt zt zk ?_;simp only [aQ]
    iterate 20
     refine sv ?_
    refine au ?_;refine aB (λw' hw' _=>?_);simp only [qS,qZ];clear A0 A1 A2 A3;go_wp2;go_roundg (gk - 1)
    case measure=>exact HJI.o.1
    case rel=>exact ⟨j+1,by rw [Int.natCast_add];rfl,HJI.o.2,HJ.o.call hw'⟩
def gM (e at_:Int):Value:=.agg #[.int .i64 e,.int .i64 at_]
theorem Own.got {w0 W:World} {l:List (Nat×Array Value×TypeId)} {b:Nat} {x y x' y':Value} {t:TypeId} (S:Own w0 W l) (k:Nat) (hk:l[k]?=some (b,#[x,y],t)) :
  ((W.setCell ⟨b,0,none⟩ x').setCell ⟨b,1,none⟩ y').cell? ⟨b,0,none⟩=some x'/\((W.setCell ⟨b,0,none⟩ x').setCell ⟨b,1,none⟩ y').cell? ⟨b,1,none⟩=some y'/\Mod [] w0 ((W.setCell ⟨b,0,none⟩ x').setCell ⟨b,1,none⟩ y'):=by
 have hl:=(gI.1 hk).1;have S1:=S.set k hk 0 x';have hk1:(l.set k (b,(#[x,y]:Array Value).setIfInBounds 0 x',t))[k]?=some (b,#[x',y],t):=by simp [hl]
 have S2:=S1.set k hk1 1 y';have hk2:((l.set k (b,(#[x,y]:Array Value).setIfInBounds 0 x',t)).set k (b,(#[x',y]:Array Value).setIfInBounds 1 y',t))[k]?=some (b,#[x',y'],t):=by simp [hl]
 have B:=S2.at k hk2;exact ⟨B.cell 0,B.cell 1,S2.mod⟩
theorem yh (u:Int) (fg fc fl ff fx fr fn fv:Hd) (fu:List (List bS)) (cv:List Int) (w:World) (h:Rows 1 gK 0 w (.slice fn.a fn.n fn.c) fu) (hv:Rows 1 bn 0 w (.slice fv.a fv.n fv.c) cv)
  (hp:Ck.some 20 (λ_ x=>Ck.program x) fu=(0,0)) (hq:Ck.some 64 (λ_ x=>Ck.when (!Ck.may x) 1) cv=(0,0)) :
  Calls Tryz.prog 98 #[.agg (af u fg fc fl ff fx fr fn fv)] w λe w'=>e=.returned (gM 0 0)/\Mod [] w w':=by
 obtain ⟨na,nn,nc⟩:=fn;obtain ⟨va,vn,vc⟩:=fv;obtain ⟨_,_,he,-⟩:=h.form;obtain rfl:nn=fu.length:=by cases he;rfl
 clear he;obtain ⟨_,_,he,-⟩:=hv.form;obtain rfl:vn=cv.length:=by cases he;rfl
 clear he;have T:=Hi (own2 w (af u fg fc fl ff fx fr ⟨na,fu.length,nc⟩ ⟨va,cv.length,vc⟩) 32 #[.int .i64 0,.int .i64 0] 104);have HR:=Hi (λW (k:Mod [] w W)=>h.mod gK.stay k);have HV:=Hi (λW (k:Mod [] w W)=>hv.mod bn.stay k);obtain ⟨l1,p1⟩:=Rf.dn hp;obtain ⟨l2,p2⟩:=Rf.dn hq;have HL:=Hi (And.intro l1 l2);have HP:=Hi p1;have HQ:=Hi p2;have k1:=dF (p:=(20:Int)<fu.length) zo;have k2:=dF (p:=(64:Int)<cv.length) zo;clear h hv hp hq l1 l2 p1 p2;unfold af at T ⊢;simp only at T ⊢;go_enter Tryz.func98,Tryz.ntmps98;go_upto_block 3 with fail;go_wp2_with fail;generalize (w.alloc _).alloc _=w1 at *
 generalize w.heap.size=fb at *
 have d7:=(T.o.at 0 rfl).cell 7;have d8:=(T.o.at 0 rfl).cell 8;simp only [gA,gZ,gS] at d7 d8
 go_loopg [3] fu.length (λgk v wr=>∃ i:Nat,v=.int .i64 (i:Int)/\Hy (i+gk=fu.length)/\wr=w1)
 case atStart=>exact ⟨0,rfl,by show 0+fu.length=fu.length;omega,rfl⟩
 case round =>
  obtain ⟨i,rfl,hi,rfl⟩:=hrel
  by_cases hin:i<fu.length
  case pos =>
   obtain ⟨q1,q2,q3,q4,ei⟩:=Rf.lf hin zqc;have HI:=Hi (And.intro (Rf.ms hi hin) (Rf.nx hi hin));have hx:=HP.o i hin;obtain ⟨a,rfl,-,cs,-,hc0,hcj,v,rfl,hr⟩:=(HR.o wr T.o.mod).at i hin;generalize fu[i]=x at *
   obtain ⟨o,c,rfl,-⟩:=hr.form;have c0:=hc0 zd;simp only [gZ,Nat.mul_one] at c0;have CO:=Hi (sJ _ _ _ _ _ _ hr);rw [hx] at CO;clear hc0 hcj hi hin hx hr;go_wp2_with fail;refine CO.o.mono ?_;rintro e w2 ⟨rfl,rfl⟩;go_wp2;go_roundg (gk - 1)
   case measure=>exact HI.o.1
   case rel=>exact ⟨i+1,by rw [Int.natCast_add];rfl,HI.o.2,rfl⟩
  obtain rfl:i=fu.length:=by have:=hi.o;omega
  have q1:=Rf.lz fu.length;clear hi hin;go_wp2_with fail;generalize wr=W2 at *
  go_loopg [5] cv.length (λgk v wx=>∃ i:Nat,v=.int .i64 (i:Int)/\Hy (i+gk=cv.length)/\wx=W2)
  case atStart=>exact ⟨0,rfl,by show 0+cv.length=cv.length;omega,rfl⟩
  case round =>
   obtain ⟨i,rfl,hi,rfl⟩:=hrel
   by_cases hin:i<cv.length
   case pos =>
    obtain ⟨q1,q2,q3,q4,ei⟩:=Rf.lf hin zqc;have HI:=Hi (And.intro (Rf.ms hi hin) (Rf.nx hi hin));have hx:=Rf.iD zd (HQ.o i hin);obtain ⟨a,rfl,-,cs,-,hc0,hcj,rfl,-⟩:=(HV.o wr T.o.mod).at i hin;generalize cv[i]=x at *
    have c0:=hc0 zd;simp only [gZ,Nat.mul_one] at c0;have HM:=Hi hx;clear hc0 hcj hi hin hx;go_wp2_with fail;refine (eh _ _).mono ?_;rintro e w2 ⟨rfl,rfl⟩;rw [show Ck.may x=true by simpa using HM.o];go_wp2;go_roundg (gk - 1)
    case measure=>exact HI.o.1
    case rel=>exact ⟨i+1,by rw [Int.natCast_add];rfl,HI.o.2,rfl⟩
   obtain rfl:i=cv.length:=by have:=hi.o;omega
   have q2:=Rf.lz cv.length;have b0:=(T.o.at 1 rfl).cell 0;have b1:=(T.o.at 1 rfl).cell 1;have f0:=(T.o.at 1 rfl).frozen 0;have f1:=(T.o.at 1 rfl).frozen 1;simp only [gA,gZ,gS] at b0 b1;obtain ⟨r0,r1,hm⟩:=T.o.got (x':=.int .i64 0) (y':=.int .i64 0) 1 rfl;have HM:=Hi hm;clear hi hin hm;go_wp2_with fail;exact bodyPost_ret (v:=gM 0 0) (by simp [results,Tryz.results98,go_sem,gM,r0,r1]) rfl ⟨rfl,HM.o⟩
theorem Rf.uU {f:Nat->UInt8->Bool}:∀ {l:List UInt8} {k:Nat},Ck.eM f k l=true->∀ i (h:i<l.length),f (k+i) l[i]=true
 | c::l,k,h,0,_=>(Bool.and_eq_true_iff.1 h).1
 | c::l,k,h,i+1,hi=>by
  have:=Rf.uU (Bool.and_eq_true_iff.1 h).2 i zql;rwa [show k+1+i=k+(i+1) by omega] at this
theorem Rf.uL {a b:ByteArray} (h:a≠b):(a.toList == b.toList)=false:=beq_eq_false_iff_ne.2 λe=>h (by
 rw [ByteArray.toList_eq,ByteArray.toList_eq] at e
 exact congrArg ByteArray.mk (Array.toList_inj.1 e))
theorem Rf.Dc {i:Nat} {x:Int} (h:Ck.nN i x=true):(97<=x/\x<=122)∨(65<=x/\x<=90)∨x=95∨x=46∨(0<i/\48<=x/\x<=57)∨(0<i/\x=45):=by
 unfold Ck.nN Ck.gh at h;simp only [Bool.or_eq_true,Bool.and_eq_true,decide_eq_true_eq,beq_iff_eq] at h;omega
theorem sK (s:ByteArray) (h:Ck.bZ s=true) (w:World):Calls Tryz.prog 30 #[.string s] w λe w'=>e=.returned (.bool true)/\w=w':=by
 unfold Ck.bZ at h;simp only [Bool.and_eq_true,decide_eq_true_eq] at h;obtain ⟨⟨h1,h2⟩,h3⟩:=h;have HS:=Hi (And.intro h1 h2);have HX:=Hi (λi (hi:i<s.size)=>Rf.Dc (x:=(s[i].toNat:Int)) (by have:=Rf.uU h3 i hi;rwa [Nat.zero_add] at this));have e0:=dT (p:=(s.size:Int)<=16) zo;have e2:s.toList.isEmpty=false:=by rw [ByteArray.toList_eq];cases hl:s.data.toList with | nil=>exact absurd (show s.size=0 from congrArg List.length hl) zo | cons _ _=>rfl
 clear h1 h2 h3;go_enter Tryz.func30,Tryz.ntmps30;go_wp2_with fail
 go_loopg [3] s.size (λgk v wr=>∃ i:Nat,v=.int .i64 (i:Int)/\Hy (i+gk=s.size)/\wr=w)
 case atStart=>exact ⟨0,rfl,by show 0+s.size=s.size;omega,rfl⟩
 case round =>
  obtain ⟨i,rfl,hi,rfl⟩:=hrel
  by_cases hin:i<s.size
  case neg =>
   obtain rfl:i=s.size:=by have:=hi.o;omega
   have k1:=Rf.lz s.size;go_wp2;go_ret;exact ⟨rfl,rfl⟩
  obtain ⟨k1,k2,k3,k4,ei⟩:=Rf.lf hin (by have:=HS.o;omega);have HI:=Hi (And.intro (Rf.ms hi hin) (Rf.nx hi hin));have hc:=HX.o i hin;clear hi;go_upto_region 5 with fail;generalize hx:(s[i].toNat:Int)=x at *
  clear hx hin k2 k3 k4;obtain ⟨z1,h1⟩:=bits ((97:Int)<=x);obtain ⟨z2,h2⟩:=bits (x<=(122:Int));obtain ⟨z3,h3⟩:=bits ((65:Int)<=x);obtain ⟨z4,h4⟩:=bits (x<=(90:Int));have hq:(z1=true/\z2=true)∨(z1=false/\z3=true/\z4=true)∨x=95∨x=46∨(0<i/\z1=false/\z3=false/\decide (x<(48:Int))=false/\decide ((57:Int)<x)=false/\x≠95/\x≠46)∨(0<i/\x=45):=by
   rw [<- h1,<- h2,<- h3,<- h4];simp only [decide_eq_true_eq,decide_eq_false_iff_not];omega
  clear hc;have fin:=λh:0<i=>Rf.eqb (x:=(i:Int)) (y:=0) zo
  rcases hq with ⟨rfl,rfl⟩ | ⟨rfl,rfl,rfl⟩ | rfl | rfl | ⟨h0,rfl,rfl,y1,y2,y3,y4⟩ | ⟨h0,rfl⟩
  case' inr.inr.inl=>clear h1 h2 h3 h4
  case' inr.inr.inr.inl=>clear h1 h2 h3 h4
  case' inr.inr.inr.inr.inl =>
   obtain ⟨f1,f2,f3⟩:=fin h0;obtain ⟨f4,f5,f6⟩:=Rf.eqb y3;obtain ⟨f7,f8,f9⟩:=Rf.eqb y4;clear fin h0 y3 y4
  case' inr.inr.inr.inr.inr =>
   obtain ⟨f1,f2,f3⟩:=fin h0;clear fin h0 h1 h2 h3 h4
  all_goals
   go_wp2
   go_roundg (gk - 1)
   case measure=>exact HI.o.1
   case rel=>exact ⟨i+1,by rw [Int.natCast_add];rfl,HI.o.2,rfl⟩
theorem Rf.xh {α:Type} {nm:α->ByteArray} {l:List α} {s:ByteArray} {b:Bool} {i:Nat} (h:Ck.name b (decide (Ck.aK nm l s<i))=0):b=true/\∀ j (hj:j<i) (hl:j<l.length),nm l[j]≠s:=by
 unfold Ck.name at h;cases b
 ·exact absurd h zk
 refine ⟨rfl,λj hj hl e=>?_⟩
 by_cases q:Ck.aK nm l s<i
 ·rw [dT q] at h;exact absurd h zk
 ·have hlt:j<l.findIdx λx=>decide (nm x=s):=by unfold Ck.aK at q;omega
  have:=List.not_of_lt_findIdx hlt;simp [e] at this
theorem Rf.Dp {l:List bB} (h:Ck.some 3 (λi x=>Ck.axis x (Ck.name (Ck.bZ x.name) (decide (Ck.aK bB.name l x.name<i)))) l=(0,0)) (i:Nat) (hi:i<l.length) :
  Ck.bZ l[i].name=true/\Ck.may l[i].min=true/\Ck.may l[i].max=true/\l[i].min<=l[i].dflt/\l[i].dflt<=l[i].max/\∀ j (hj:j<i),l[j].name≠l[i].name:=by
 have h1:=(Rf.dn h).2 i hi;unfold Ck.axis at h1
 by_cases q:Ck.name (Ck.bZ l[i].name) (decide (Ck.aK bB.name l l[i].name<i))=0
 ·rw [if_neg (by rw [q];simp)] at h1;have h2:=Rf.iD zd h1;obtain ⟨n1,n2⟩:=Rf.xh q;simp only [Bool.not_eq_false',Bool.and_eq_true,decide_eq_true_eq] at h2;exact ⟨n1,h2.1.1.1.1,h2.1.1.2,h2.1.2,h2.2,λj hj=>n2 j hj zo⟩
 ·rw [if_pos q] at h1;exact absurd h1 q
theorem Rf.l9 {n:Nat} {l:List bv} (h:Ck.some 16 (λ_ x=>Ck.region n x) l=(0,0)) (i:Nat) (hi:i<l.length):l[i].tents.length=n/\∀ k (hk:k<l[i].tents.length),Rf.tent l[i].tents[k]=true:=by
 have h1:=(Rf.dn h).2 i hi;unfold Ck.region at h1
 by_cases q:l[i].tents.length≠n
 ·rw [if_pos q] at h1;exact absurd h1 zd
 rw [if_neg q] at h1;refine ⟨by omega,λk hk=>?_⟩;have h2:Ck.each (λ_ t=>Ck.tent t) l[i].tents=(0,0):=Rf.eY h1;rw [Rf.Cs,dT (Rf.nE h2 k hk)]
theorem Ar (u:Int) (fg fc fl ff fx fr fn fv:Hd) (l:List bB) (rs:List bv) (w:World) (h:Rows 4 eP 0 w (.slice fx.a fx.n fx.c) l) (hr:Rows 1 dC 0 w (.slice fr.a fr.n fr.c) rs)
  (hp:Ck.some 3 (λi x=>Ck.axis x (Ck.name (Ck.bZ x.name) (decide (Ck.aK bB.name l x.name<i)))) l=(0,0)) (hq:Ck.some 16 (λ_ x=>Ck.region l.length x) rs=(0,0)) :
  Calls Tryz.prog 97 #[.agg (af u fg fc fl ff fx fr fn fv)] w λe w'=>e=.returned (gM 0 0)/\Mod [] w w':=by
 obtain ⟨oa,n,c⟩:=fx;obtain ⟨ra,rn,rc⟩:=fr;obtain ⟨_,_,he,-⟩:=h.form;obtain rfl:n=l.length:=by cases he;rfl
 clear he;obtain ⟨_,_,he,-⟩:=hr.form;obtain rfl:rn=rs.length:=by cases he;rfl
 clear he;have T:=Hi (own2 w (af u fg fc fl ff ⟨oa,l.length,c⟩ ⟨ra,rs.length,rc⟩ fn fv) 32 #[.int .i64 0,.int .i64 0] 104);have HR:=Hi (λW (k:Mod [] w W)=>h.mod eP.stay k);have HS:=Hi (λW (k:Mod [] w W)=>hr.mod dC.stay k);have l1:=(Rf.dn hp).1;have l2:=(Rf.dn hq).1;have HL:=Hi (And.intro l1 l2);have HP:=Hi (λi hi=>Rf.Dp hp i hi);have HQ:=Hi (λi hi=>Rf.l9 hq i hi);have k0:=dF (p:=(3:Int)<l.length) zo;have kr:=dF (p:=(16:Int)<rs.length) zo;clear h hr hp hq l1 l2;unfold af at T ⊢;simp only at T ⊢;go_enter Tryz.func97,Tryz.ntmps97;go_upto_block 3 with fail;go_wp2_with fail;generalize (w.alloc _).alloc _=w1 at *
 generalize w.heap.size=fb at *
 go_loopg [3] l.length (λgk v wr=>∃ i:Nat,v=.int .i64 (i:Int)/\Hy (i+gk=l.length)/\Hy (Own w wr [(fb,#[.int .i64 u,.slice fg.a fg.n fg.c,.slice fc.a fc.n fc.c,.slice fl.a fl.n fl.c,.slice ff.a ff.n ff.c,.slice oa l.length c,.slice ra rs.length rc,.slice fn.a fn.n fn.c,.slice fv.a fv.n fv.c],32),(fb+1,#[.int .i64 0,.int .i64 0],104)]))
 case atStart=>exact ⟨0,rfl,by show 0+l.length=l.length;omega,T.o⟩
 case round =>
  obtain ⟨i,rfl,hi,HT⟩:=hrel;clear T;have d5:=(HT.o.at 0 rfl).cell 5;have d6:=(HT.o.at 0 rfl).cell 6;simp only [gA,gZ,gS] at d5 d6
  by_cases hin:i<l.length
  case pos =>
   obtain ⟨k1,k2,k3,k4,ei⟩:=Rf.lf hin zqc;have HI:=Hi (And.intro (And.intro (Rf.ms hi hin) (Rf.nx hi hin)) hin);obtain ⟨h1,h2,h3,h4,h5,h9⟩:=HP.o i hin;obtain ⟨a,rfl,-,cs,-,hc0,hcj,rfl,-⟩:=(HR.o wr HT.o.mod).at i hin;generalize l[i]=x at *
   have c0:=hc0 zd;have c1:=hcj 1 zd zd;have c2:=hcj 2 zd zd;have c3:=hcj 3 zd zd;simp only [gZ,gS] at c0 c1 c2 c3;obtain ⟨nm,mi,df,ma⟩:=x;simp only at c0 c1 c2 c3 h1 h2 h3 h4 h5 h9;have z1:=dF (p:=df<mi) zo;have z2:=dF (p:=ma<df) zo;have CN:=Hi (λW=>sK nm h1 W);have H2:=Hi (And.intro h2 h3);have H9:Hy (∀ (j:Nat) (hj:j<i) (hjl:j<l.length),(l[j]'hjl).name≠nm):=λj hj hjl=>h9 j hj
   clear hc0 hcj h9 hin hi h1 h2 h3 h4 h5;go_upto_region 7 with fail;have HT2:=Hi (HT.o.alloc #[.string nm,.int .i64 mi,.int .i64 df,.int .i64 ma] 76);clear c0 c1 c2 c3 d5 d6 HT;generalize wr.alloc _=W1 at *
   generalize wr.heap.size=pb at *
   have e0:=(HT2.o.at 2 rfl).cell 0;simp only [gA,gZ,gS] at e0;go_wp2_with fail;refine (CN.o _).mono ?_;rintro e w2 ⟨rfl,rfl⟩;go_wp2_with fail;clear e0;generalize gk=g0 at *
   generalize wr=wo at *
   go_loopg [6] i (λgj v wx=>∃ j:Nat,v=.int .i64 (j:Int)/\Hy (j+gj=i)/\Hy (Own w wx [(fb,#[.int .i64 u,.slice fg.a fg.n fg.c,.slice fc.a fc.n fc.c,.slice fl.a fl.n fl.c,.slice ff.a ff.n ff.c,.slice (some a) l.length c,.slice ra rs.length rc,.slice fn.a fn.n fn.c,.slice fv.a fv.n fv.c],32),(fb+1,#[.int .i64 0,.int .i64 0],104),(pb,#[.string nm,.int .i64 mi,.int .i64 df,.int .i64 ma],76)]))
   case atStart=>exact ⟨0,rfl,by show 0+i=i;omega,HT2.o⟩
   case round =>
    obtain ⟨j,rfl,hj,HJ⟩:=hrel;clear HT2
    by_cases hjn:j<i
    case pos =>
     obtain ⟨q1,q2,q3,q4,qi⟩:=Rf.lf hjn (by have:=HL.o;have:=HI.o.2;omega);have HJI:=Hi (And.intro (Rf.ms hj hjn) (Rf.nx hj hjn));have hjl:j<l.length:=Nat.lt_trans hjn HI.o.2;have q5:(j:Int)<l.length:=zo;have hx:=H9.o j hjn hjl;obtain ⟨a',ha',-,cs,-,hc0,-,rfl,-⟩:=(HR.o wr HJ.o.mod).at j hjl;obtain rfl:a'=a:=by simpa using ha'.symm
     generalize l[j].name=nj at *
     have c0:=hc0 zd;simp only [gZ,gS] at c0;have A0:=λW (k:Mod [] wr W)=>aj k c0
     have A1:=(HJ.o.at 0 rfl).every;have A2:=(HJ.o.at 2 rfl).every;have y1:=Rf.uL hx;clear hc0 c0 ha' hj hjn hjl hx;go_upto_region 13 with fail;refine ak 9 [true,true,true,true,true,true,true,true,true] [] zt zt zk ?_;simp only [aQ]
     iterate 9
      refine sv ?_
     refine au ?_;refine aB (λw' hw' _=>?_);simp only [qS,qZ];clear A0 A1 A2;go_wp2;go_roundg (gk - 1)
     case measure=>exact HJI.o.1
     case rel=>exact ⟨j+1,by rw [Int.natCast_add];rfl,HJI.o.2,HJ.o.call hw'⟩
    obtain rfl:j=i:=by have:=hj.o;omega
    have q1:=Rf.lz j;have f1:=(HJ.o.at 2 rfl).cell 1;have f2:=(HJ.o.at 2 rfl).cell 2;have f3:=(HJ.o.at 2 rfl).cell 3;simp only [gA,gZ,gS] at f1 f2 f3;clear hj hjn;go_wp2_with fail;refine (eh _ _).mono ?_;rintro e w2 ⟨rfl,rfl⟩;rw [H2.o.1];go_wp2_with fail;refine (eh _ _).mono ?_;rintro e w2 ⟨rfl,rfl⟩;rw [H2.o.2];go_wp2;go_roundg (g0 - 1)
    case measure=>exact HI.o.1.1
    case rel=>exact ⟨j+1,by rw [Int.natCast_add];rfl,HI.o.1.2,Own.front (l:=[_,_]) (k:=[_]) HJ.o⟩
  obtain rfl:i=l.length:=by have:=hi.o;omega
  have k1:=Rf.lz l.length;clear hi hin;go_wp2_with fail;clear d5 d6;generalize wr=wo at *
  go_loopg [9] rs.length (λgk v wx=>∃ i:Nat,v=.int .i64 (i:Int)/\Hy (i+gk=rs.length)/\Hy (Own w wx [(fb,#[.int .i64 u,.slice fg.a fg.n fg.c,.slice fc.a fc.n fc.c,.slice fl.a fl.n fl.c,.slice ff.a ff.n ff.c,.slice oa l.length c,.slice ra rs.length rc,.slice fn.a fn.n fn.c,.slice fv.a fv.n fv.c],32),(fb+1,#[.int .i64 0,.int .i64 0],104)]))
  case atStart=>exact ⟨0,rfl,by show 0+rs.length=rs.length;omega,HT.o⟩
  case round =>
   obtain ⟨i,rfl,hi,HJ⟩:=hrel;clear HT;have d5:=(HJ.o.at 0 rfl).cell 5;have d6:=(HJ.o.at 0 rfl).cell 6;simp only [gA,gZ,gS] at d5 d6
   by_cases hin:i<rs.length
   case neg =>
    obtain rfl:i=rs.length:=by have:=hi.o;omega
    have k1:=Rf.lz rs.length;have b0:=(HJ.o.at 1 rfl).cell 0;have b1:=(HJ.o.at 1 rfl).cell 1;have f0:=(HJ.o.at 1 rfl).frozen 0;have f1:=(HJ.o.at 1 rfl).frozen 1;simp only [gA,gZ,gS] at b0 b1;obtain ⟨r0,r1,hm⟩:=HJ.o.got (x':=.int .i64 0) (y':=.int .i64 0) 1 rfl;have HM:=Hi hm;clear hi hin hm;go_wp2_with fail;exact bodyPost_ret (v:=gM 0 0) (by simp [results,Tryz.results97,go_sem,gM,r0,r1]) rfl ⟨rfl,HM.o⟩
   obtain ⟨k1,k2,k3,k4,ei⟩:=Rf.lf hin zqc;have HI:=Hi (And.intro (And.intro (Rf.ms hi hin) (Rf.nx hi hin)) hin);obtain ⟨h1,h2⟩:=HQ.o i hin;obtain ⟨a,rfl,-,cs,-,hc0,-,v0,rfl,hts⟩:=(HS.o wr HJ.o.mod).at i hin;generalize rs[i].tents=ts at *
   obtain ⟨ta,tc,rfl,-⟩:=hts.form;have c0:=hc0 zd;simp only [gZ,Nat.mul_one] at c0;have A0:=λW (k:Mod [] wr W)=>aj k c0
   have HC0:=Hi A0;have A1:=(HJ.o.at 0 rfl).every;have y1:((ts.length:Int) != (l.length:Int))=false:=by simp [h1]
   have y2:decide ((ts.length:Int)=(l.length:Int))=true:=by simp [h1]
   have HH:=Hi (And.intro h1 h2);have HTS:=Hi (λW (k:Mod [] wr W)=>hts.mod iX.stay k);clear hc0 hi hin h1 h2 hts;go_upto_region 24 with fail;refine ak 11 [true,true,true,true,true,true,true,true,true,true,true] [] zt zt zk ?_;simp only [aQ]
   iterate 11
    refine sv ?_
   refine au ?_;refine aB (λw' hw' _=>?_);simp only [qS,qZ];have HJ2:=Hi (HJ.o.call hw');have HTS2:=Hi (λW (k:Mod [] w' W)=>HTS.o W (hw'.then k));have c9:=HC0.o _ hw';clear A0 A1 d5 d6 c0 hw' HTS HC0 HJ;generalize gk=g0 at *
   generalize wr=wo at *
   go_wp2_with fail
   go_loopg [10] l.length (λgj v wx=>∃ k:Nat,v=.int .i64 (k:Int)/\Hy (k+gj=l.length)/\Hy (Mod [] w' wx))
   case atStart=>exact ⟨0,rfl,by show 0+l.length=l.length;omega,mR⟩
   case round =>
    obtain ⟨k,rfl,hk,HM⟩:=hrel;have d5:=((HJ2.o.call HM.o).at 0 rfl).cell 5;have d6:=((HJ2.o.call HM.o).at 0 rfl).cell 6;simp only [gA,gZ,gS] at d5 d6
    by_cases hkn:k<l.length
    case neg =>
     obtain rfl:k=l.length:=by have:=hk.o;omega
     have q5:=Rf.lz l.length;clear hk hkn c9;go_wp2;go_roundg (g0 - 1)
     case measure=>exact HI.o.1.1
     case rel=>exact ⟨i+1,by rw [Int.natCast_add];rfl,HI.o.1.2,HJ2.o.call HM.o⟩
    obtain ⟨q1,q2,q3,q4,qi⟩:=Rf.lf hkn zqc;have HKI:=Hi (And.intro (Rf.ms hk hkn) (Rf.nx hk hkn));have c8:=aj HM.o c9;have htk:k<ts.length:=by have:=HH.o.1;omega
    have q5:(k:Int)<ts.length:=zo;have ht:=HH.o.2 k htk;obtain ⟨b,rfl,-,cs,-,hc0,hcj,rfl,-⟩:=(HTS2.o wr HM.o).at k htk;generalize ts[k]=t at *
    obtain ⟨ts0,tp,te⟩:=t;have c0:=hc0 zd;have c1:=hcj 1 zd zd;have c2:=hcj 2 zd zd;simp only [gZ,gS] at c0 c1 c2;have HT:=Hi ht;clear hc0 hcj hk hkn htk ht c9;go_wp2_with fail;refine (ye _ _ _ _).mono ?_;rintro e w2 ⟨rfl,m2⟩;rw [HT.o];have HM2:=Hi (HM.o.then m2);clear c0 c1 c2 c8 d5 d6 m2;go_wp2;go_roundg (gk - 1)
    case measure=>exact HKI.o.1
    case rel=>exact ⟨k+1,by rw [Int.natCast_add];rfl,HKI.o.2,HM2.o⟩
def Rf.EJ (n:Nat) (l:List Int):Prop:=∀ k (hk:k<l.length),0<=l[k]/\l[k]<n/\∀ m (hm:m+1=k),l[m]<l[k]
theorem Rf.pA {n:Nat} {l:List aA} (h:Ck.some 20 (λi x=>Ck.feature n x (Ck.name (Ck.br x.name) (decide (Ck.aK aA.name l x.name<i)))) l=(0,0)) (i:Nat) (hi:i<l.length) :
  Ck.br l[i].name=true/\(∀ j (hj:j<i),l[j].name≠l[i].name)/\Rf.EJ n l[i].lookups:=by
 have h1:=(Rf.dn h).2 i hi;unfold Ck.feature at h1
 by_cases q:Ck.name (Ck.br l[i].name) (decide (Ck.aK aA.name l l[i].name<i))=0
 ·rw [if_neg (by rw [q];simp)] at h1;obtain ⟨n1,n2⟩:=Rf.xh q;refine ⟨n1,λj hj=>n2 j hj zo,λk hk=>?_⟩;have h2:=Rf.iD zd (Rf.nE (Rf.eY h1) k hk);simp only [Bool.or_eq_false_iff,decide_eq_false_iff_not,Bool.and_eq_false_iff] at h2;refine ⟨by omega,by omega,λm hm=>?_⟩;subst hm;have h3:=h2.2.resolve_left zo;rw [Nat.add_sub_cancel,List.getD_eq_getElem?_getD,gE zo,Option.getD_some] at h3;omega
 ·rw [if_pos q] at h1;exact absurd h1 q
theorem Rf.yP {c:UInt8} (h:Ck.letter c=true):(97<=(c.toNat:Int)/\(c.toNat:Int)<=122)∨(65<=(c.toNat:Int)/\(c.toNat:Int)<=90):=by
 unfold Ck.letter Ck.gh at h;simp only [Bool.or_eq_true,Bool.and_eq_true,decide_eq_true_eq] at h;omega
theorem yq (u:Int) (fg fc fl ff fx fr fn fv:Hd) (i:Int) (hi:i<0∨(ff.n:Int)<=i) (w:World) :
  Calls Tryz.prog 40 #[.agg (af u fg fc fl ff fx fr fn fv),.int .i64 i] w λe w'=>e=.returned (.int .i64 1)/\Mod [] w w':=by
 have T:=Hi (own1 w (af u fg fc fl ff fx fr fn fv) 32);unfold af at T ⊢;have c1:=(T.o.at 0 rfl).cell 4;simp only [gA,gZ,gS] at c1;obtain ⟨b1,h1⟩:=bits (i<(0:Int));cases b1
 case true =>
  clear c1;go_enter Tryz.func40,Tryz.ntmps40;go_wp2;go_ret;exact ⟨rfl,T.o.mod⟩
 have h2:=dT (p:=(ff.n:Int)<=i) (hi.resolve_left (of_decide_eq_false h1));clear hi;go_enter Tryz.func40,Tryz.ntmps40;go_wp2;go_ret;exact ⟨rfl,T.o.mod⟩
theorem sL (u:Int) (fg fc fl ff fx fr fn fv:Hd) (l:List aA) (w:World) (h:Rows 2 aZ 0 w (.slice ff.a ff.n ff.c) l) (i:Nat) (hi:i<l.length)
  (hp:Ck.some 20 (λi x=>Ck.feature fl.n x (Ck.name (Ck.br x.name) (decide (Ck.aK aA.name l x.name<i)))) l=(0,0)) :
  Calls Tryz.prog 40 #[.agg (af u fg fc fl ff fx fr fn fv),.int .i64 (i:Int)] w λe w'=>e=.returned (.int .i64 0)/\Mod [] w w':=by
 obtain ⟨ga,gn,gc⟩:=ff;obtain ⟨la,ln,lc⟩:=fl;obtain ⟨_,_,hq,-⟩:=h.form;obtain rfl:gn=l.length:=by cases hq;rfl
 clear hq;have T:=Hi (own1 w (af u fg fc ⟨la,ln,lc⟩ ⟨ga,l.length,gc⟩ fx fr fn fv) 32);obtain ⟨a,rfl,-,cs,-,hc0,hcj,v1,rfl,-,rl⟩:=h.at i hi;have HR:=Hi (λW (k:Mod [] w W)=>h.mod aZ.stay k);obtain ⟨hn,hd,hk⟩:=Rf.pA hp i hi;have hll:=(Rf.dn hp).1;have H9:Hy (∀ (j:Nat) (hj:j<i) (hjl:j<l.length),(l[j]'hjl).name≠l[i].name):=λj hj _=>hd j hj
 obtain ⟨g,hg⟩:∃ g,l[i]=g:=⟨_,rfl⟩
 rw [hg] at hn H9 hc0 hcj rl hk;obtain ⟨nm,lk⟩:=g;simp only at hn H9 hc0 hcj rl hk;obtain ⟨o1,d1,rfl,l1⟩:=rl.form;unfold Ck.br at hn;simp only [Bool.and_eq_true,decide_eq_true_eq] at hn;have k1:=dF (p:=(i:Int)<(0:Int)) zo;have k2:=dF (p:=(l.length:Int)<=i) zo;have k3:(0:Int)<=i:=zo;have k4:(i:Int)<l.length:=zo;have k5:=dF (p:=(nm.size:Int)<(1:Int)) zo;have k6:=dF (p:=(8:Int)<nm.size) zo;have HX:=Hi (λp (hp:p<nm.size)=>Rf.yP (c:=nm[p]) (Rf.uU hn.2 p hp));have HS:=Hi hn.1.2;have HK:=Hi hk;have HRL:=Hi (λW (k:Mod [] w W)=>rl.mod bn.stay k);have HLL:=Hi hll;have HIL:=Hi hi;have HLN:=Hi (show lk.length<=9223372036854775807 from l1);have c0:=hc0 zd;have c1:=hcj 1 zd zd;simp only [gZ,gS] at c0 c1;have HC:=Hi (And.intro c0 c1);clear c0 c1 hc0 hcj rl l1 hn hd hk hp h hg hi hll;unfold af at T ⊢;simp only at T ⊢;go_enter Tryz.func40,Tryz.ntmps40;go_upto_region 3 with fail;obtain ⟨c0,c1⟩:=HC.o
 replace c0:=aj T.o.mod c0
 replace c1:=aj T.o.mod c1
 clear HC;generalize w.alloc _=w1 at *
 generalize w.heap.size=fb at *
 have e1:=(T.o.at 0 rfl).cell 4;simp only [gA,gZ,gS] at e1;go_upto_region 4 with fail;have HT2:=Hi (T.o.alloc #[.string nm,.slice o1 lk.length d1] 88);clear c0 c1 e1 T;generalize w1.alloc _=W1 at *
 generalize w1.heap.size=gb at *
 have f0:=(HT2.o.at 1 rfl).cell 0;simp only [gA,gZ,gS] at f0;go_wp2_with fail
 go_loopg [6] nm.size (λgk v wr=>∃ p:Nat,v=.int .i64 (p:Int)/\Hy (p+gk=nm.size)/\wr=W1)
 case atStart=>exact ⟨0,rfl,by show 0+nm.size=nm.size;omega,rfl⟩
 case round =>
  obtain ⟨p,rfl,hp,rfl⟩:=hrel
  by_cases hpn:p<nm.size
  case pos =>
   obtain ⟨q1,q2,q3,q4,qi⟩:=Rf.lf hpn (by have:=HS.o;omega);have HI:=Hi (And.intro (Rf.ms hp hpn) (Rf.nx hp hpn));have hc:=HX.o p hpn;clear hp;go_upto_region 10 with fail;generalize hx:(nm[p].toNat:Int)=x at *
   clear hx hpn q2 q3 q4;rcases hc with ⟨h1,h2⟩ | ⟨h1,h2⟩
   ·have z1:=dF (p:=x<(97:Int)) zo;have z2:=dF (p:=(122:Int)<x) zo;clear h1 h2;go_wp2;go_roundg (gk - 1)
    case measure=>exact HI.o.1
    case rel=>exact ⟨p+1,by rw [Int.natCast_add];rfl,HI.o.2,rfl⟩
   ·have z1:=dT (p:=x<(97:Int)) zo;have z2:=dF (p:=x<(65:Int)) zo;have z3:=dF (p:=(90:Int)<x) zo;clear h1 h2;go_wp2;go_roundg (gk - 1)
    case measure=>exact HI.o.1
    case rel=>exact ⟨p+1,by rw [Int.natCast_add];rfl,HI.o.2,rfl⟩
  obtain rfl:p=nm.size:=by have:=hp.o;omega
  have q1:=Rf.lz nm.size;clear hp hpn;go_wp2_with fail;clear f0 q1;generalize wr=W2 at *
  go_loopg [8] i (λgk v wx=>∃ j:Nat,v=.int .i64 (j:Int)/\Hy (j+gk=i)/\Hy (Own w wx [(fb,#[.int .i64 u,.slice fg.a fg.n fg.c,.slice fc.a fc.n fc.c,.slice la ln lc,.slice (some a) l.length gc,.slice fx.a fx.n fx.c,.slice fr.a fr.n fr.c,.slice fn.a fn.n fn.c,.slice fv.a fv.n fv.c],32),(gb,#[.string nm,.slice o1 lk.length d1],88)]))
  case atStart=>exact ⟨0,rfl,by show 0+i=i;omega,HT2.o⟩
  case round =>
   obtain ⟨j,rfl,hj,HJ⟩:=hrel;clear HT2
   by_cases hjn:j<i
   case pos =>
    obtain ⟨q1,q2,q3,q4,qi⟩:=Rf.lf hjn (by have:=HLL.o;have:=HIL.o;omega);have HJI:=Hi (And.intro (Rf.ms hj hjn) (Rf.nx hj hjn));have hjl:j<l.length:=Nat.lt_trans hjn HIL.o;have q5:(j:Int)<l.length:=zo;have hx:=H9.o j hjn hjl;obtain ⟨a',ha',-,cs,-,hc0,-,x3,rfl,-⟩:=(HR.o wr HJ.o.mod).at j hjl;obtain rfl:a'=a:=by simpa using ha'.symm
    generalize l[j].name=nj at *
    have c0:=hc0 zd;simp only [gZ,gS] at c0;have A0:=λW (k:Mod [] wr W)=>aj k c0
    have A1:=(HJ.o.at 0 rfl).every;have A2:=(HJ.o.at 1 rfl).every;have y1:=Rf.uL hx;clear hc0 c0 ha' hj hjn hjl hx;go_upto_region 15 with fail;refine ak 9 [true,true,true,true,true,true,true,true,true] [] zt zt zk ?_;simp only [aQ]
    iterate 9
     refine sv ?_
    refine au ?_;refine aB (λw' hw' _=>?_);simp only [qS,qZ];clear A0 A1 A2;go_wp2;go_roundg (gk - 1)
    case measure=>exact HJI.o.1
    case rel=>exact ⟨j+1,by rw [Int.natCast_add];rfl,HJI.o.2,HJ.o.call hw'⟩
   obtain rfl:j=i:=by have:=hj.o;omega
   have q1:=Rf.lz j;clear hj hjn;go_wp2_with fail;generalize wr=W3 at *
   go_loopg [9] lk.length (λgk v wx=>∃ p:Nat,v=.int .i64 (p:Int)/\Hy (p+gk=lk.length)/\Hy (Own w wx [(fb,#[.int .i64 u,.slice fg.a fg.n fg.c,.slice fc.a fc.n fc.c,.slice la ln lc,.slice (some a) l.length gc,.slice fx.a fx.n fx.c,.slice fr.a fr.n fr.c,.slice fn.a fn.n fn.c,.slice fv.a fv.n fv.c],32),(gb,#[.string nm,.slice o1 lk.length d1],88)]))
   case atStart=>exact ⟨0,rfl,by show 0+lk.length=lk.length;omega,HJ.o⟩
   case round =>
    obtain ⟨p,rfl,hp,HK2⟩:=hrel;clear HJ;have f1:=(HK2.o.at 1 rfl).cell 1;have f3:=(HK2.o.at 0 rfl).cell 3;simp only [gA,gZ,gS] at f1 f3
    by_cases hpn:p<lk.length
    case neg =>
     obtain rfl:p=lk.length:=by have:=hp.o;omega
     have q1:=Rf.lz lk.length;clear hp hpn;go_wp2;go_ret;exact ⟨rfl,HK2.o.mod⟩
    obtain ⟨q1,q2,q3,q4,qi⟩:=Rf.lf hpn HLN.o;have HI:=Hi (And.intro (And.intro (Rf.ms hp hpn) (Rf.nx hp hpn)) hpn);obtain ⟨h1,h2,h3⟩:=HK.o p hpn;obtain ⟨b,rfl,-⟩:=(HRL.o wr HK2.o.mod).at p hpn;obtain ⟨x,hx⟩:∃ x,lk[p]=x:=⟨_,rfl⟩
    have A0:∀ W,Mod [] wr W->W.cell? (b.add p)=some (.int .i64 x):=λW m=>by rw [<- hx];exact gB (HRL.o wr HK2.o.mod) p hpn W m
    rw [hx] at h1 h2 h3;have A1:=(HK2.o.at 0 rfl).every;have A2:=(HK2.o.at 1 rfl).every;have z1:=dF (p:=x<(0:Int)) zo;have z2:=dF (p:=(ln:Int)<=x) zo
    by_cases h0:p=0
    case pos =>
     have z3:=dF (p:=(0:Int)<p) zo;have z4:=dF (p:=0<p) zo;clear hp hpn hx h0 h1 h2 h3;go_upto_region 20 with fail;refine ak 35 [true,true,true,true,true,true,true,true,true,true,true,true,true,true,true,true,true,true,true,true,true,true,true,true,true,true,true,true,true,true,true,true,true,true,true] [] zt zt zk ?_;simp only [aQ]
     iterate 21
      refine sv ?_
     iterate 12 refine su ?_
     iterate 2
      refine sv ?_
     refine au ?_;refine aB (λw' hw' _=>?_);simp only [qS,qZ];clear A0 A1 A2 f1 f3;go_wp2;go_roundg (gk - 1)
     case measure=>exact HI.o.1.1
     case rel=>exact ⟨p+1,by rw [Int.natCast_add];rfl,HI.o.1.2,HK2.o.call hw'⟩
    obtain ⟨m,hm⟩:∃ m,m+1=p:=⟨p - 1,by omega⟩
    have hml:m<lk.length:=zo;obtain ⟨y,hy⟩:∃ y,lk[m]=y:=⟨_,rfl⟩
    have A3:∀ W,Mod [] wr W->W.cell? (b.add m)=some (.int .i64 y):=λW k=>by rw [<- hy];exact gB (HRL.o wr HK2.o.mod) m hml W k
    have h4:=h3 m hm;rw [hy] at h4;have z3:=dT (p:=(0:Int)<p) zo;have z4:=dT (p:=0<p) zo;have z5:=dF (p:=x<=y) zo;have eS:IntKind.i64.wrap ((p:Int) - 1)=(m:Int):=by rw [show (p:Int) - 1=(m:Int) by omega];exact IntWalk.i64_in _ (by have:=HLN.o;omega)
    have q5:(0:Int)<=m:=zo;have q6:(m:Int)<lk.length:=zo;clear hp hpn hx h0 h1 h2 h3 h4 hm hml hy;go_upto_region 20 with fail;refine ak 35 [true,true,true,true,true,true,true,true,true,true,true,true,true,true,true,true,true,true,true,true,true,true,true,true,true,true,true,true,true,true,true,true,true,true,true] [] zt zt zk ?_;simp only [aQ]
    iterate 35
     refine sv ?_
    refine au ?_;refine aB (λw' hw' _=>?_);simp only [qS,qZ];clear A0 A1 A2 A3 f1 f3;go_wp2;go_roundg (gk - 1)
    case measure=>exact HI.o.1.1
    case rel=>exact ⟨p+1,by rw [Int.natCast_add];rfl,HI.o.1.2,HK2.o.call hw'⟩
theorem Rf.Dk {n:Nat} {l:List dc} (h:Ck.some 1000 (λi x=>Ck.char n x (Ck.late l i x)) l=(0,0)) (i:Nat) (hi:i<l.length):0<=l[i].rune/\l[i].rune<=1114111/\0<=l[i].glyph/\l[i].glyph<n/\∀ j (hj:j+1=i),l[j].rune<l[i].rune:=by
 have h1:=(Rf.dn h).2 i hi;unfold Ck.char at h1;have n1:¬ (l[i].rune<0∨1114111<l[i].rune):=λk=>by rw [if_pos k] at h1;exact absurd h1 zd
 rw [if_neg n1] at h1;have n2:¬ (!Ck.bo n l[i].glyph)=true:=λk=>by rw [if_pos k] at h1;exact absurd h1 zd
 rw [if_neg n2] at h1;have n3:=Rf.iD zd h1;simp only [Ck.bo,Bool.not_eq_true,Bool.not_eq_false',Bool.and_eq_true,decide_eq_true_eq] at n2;refine ⟨by omega,by omega,n2.1,n2.2,λj hj=>?_⟩;subst hj;unfold Ck.late at n3;rw [dT (by omega:0<j+1),Bool.true_and,Nat.add_sub_cancel,gE zo] at n3;simp only [decide_eq_false_iff_not] at n3;omega
theorem yt (u:Int) (fg fc fl ff fx fr fn fv:Hd) (l:List dc) (w:World) (h:Rows 2 eF 0 w (.slice fc.a fc.n fc.c) l) (hp:Ck.some 1000 (λi x=>Ck.char fg.n x (Ck.late l i x)) l=(0,0)) :
  Calls Tryz.prog 95 #[.agg (af u fg fc fl ff fx fr fn fv)] w λe w'=>e=.returned (gM 0 0)/\Mod [] w w':=by
 obtain ⟨oa,n,c⟩:=fc;obtain ⟨_,_,he,-⟩:=h.form;obtain rfl:n=l.length:=by cases he;rfl
 clear he;have T:=Hi (own2 w (af u fg ⟨oa,l.length,c⟩ fl ff fx fr fn fv) 32 #[.int .i64 0,.int .i64 0] 104);have HR:=Hi (λW (k:Mod [] w W)=>h.mod eF.stay k);have hl:=(Rf.dn hp).1;have HL:=Hi hl;have HP:=Hi (λi hi=>Rf.Dk hp i hi);have k0:=dF (p:=(1000:Int)<l.length) zo;clear h hl hp;unfold af at T ⊢;obtain ⟨ga,gn,gc⟩:=fg;simp only at T HP ⊢;go_enter Tryz.func95,Tryz.ntmps95;go_upto_block 3 with fail;go_wp2_with fail;generalize (w.alloc _).alloc _=w1 at *
 generalize w.heap.size=fb at *
 go_loopg [3] l.length (λgk v wr=>∃ i:Nat,v=.int .i64 (i:Int)/\Hy (i+gk=l.length)/\Hy (Own w wr [(fb,#[.int .i64 u,.slice ga gn gc,.slice oa l.length c,.slice fl.a fl.n fl.c,.slice ff.a ff.n ff.c,.slice fx.a fx.n fx.c,.slice fr.a fr.n fr.c,.slice fn.a fn.n fn.c,.slice fv.a fv.n fv.c],32),(fb+1,#[.int .i64 0,.int .i64 0],104)]))
 case atStart=>exact ⟨0,rfl,by show 0+l.length=l.length;omega,T.o⟩
 case round =>
  obtain ⟨i,rfl,hi,HT⟩:=hrel;clear T;have d5:=(HT.o.at 0 rfl).cell 2;simp only [gA,gZ,gS] at d5
  by_cases hin:i<l.length
  case neg =>
   obtain rfl:i=l.length:=by have:=hi.o;omega
   have k1:=Rf.lz l.length;have b0:=(HT.o.at 1 rfl).cell 0;have b1:=(HT.o.at 1 rfl).cell 1;have f0:=(HT.o.at 1 rfl).frozen 0;have f1:=(HT.o.at 1 rfl).frozen 1;simp only [gA,gZ,gS] at b0 b1;obtain ⟨r0,r1,hm⟩:=HT.o.got (x':=.int .i64 0) (y':=.int .i64 0) 1 rfl;have HM:=Hi hm;clear hi hin hm;go_wp2_with fail;exact bodyPost_ret (v:=gM 0 0) (by simp [results,Tryz.results95,go_sem,gM,r0,r1]) rfl ⟨rfl,HM.o⟩
  obtain ⟨k1,k2,k3,k4,ei⟩:=Rf.lf hin zqc;have HI:=Hi (And.intro (And.intro (Rf.ms hi hin) (Rf.nx hi hin)) hin);obtain ⟨h1,h2,h3,h4,h9⟩:=HP.o i hin;obtain ⟨a,rfl,-,cs,-,hc0,hcj,rfl,-⟩:=(HR.o wr HT.o.mod).at i hin;generalize l[i]=x at *
  have c0:=hc0 zd;have c1:=hcj 1 zd zd;simp only [gZ,gS] at c0 c1;obtain ⟨rn,gy⟩:=x;simp only at c0 c1 h1 h2 h3 h4 h9;have z1:=dF (p:=rn<(0:Int)) zo;have z2:=dF (p:=(1114111:Int)<rn) zo;have z3:=dF (p:=gy<(0:Int)) zo;have z4:=dF (p:=(gn:Int)<=gy) zo;have H9:Hy (∀ (j:Nat) (hj:j+1=i) (hjl:j<l.length),(l[j]'hjl).rune<rn):=λj hj hjl=>h9 j hj
  clear hc0 hcj h9 hin hi h1 h2 h3 h4;go_upto_region 7 with fail;have HT2:=Hi (HT.o.alloc #[.int .i64 rn,.int .i64 gy] 37);have HTN:=Hi HT2.o.front;clear c0 c1 d5 HT;generalize wr.alloc _=W1 at *
  generalize wr.heap.size=pb at *
  have e0:=(HT2.o.at 2 rfl).cell 0;have e1:=(HT2.o.at 2 rfl).cell 1;have em:=(HT2.o.at 0 rfl).cell 1;have en:=(HT2.o.at 0 rfl).cell 2;simp only [gA,gZ,gS] at e0 e1 em en;go_upto_region 11 with fail;clear e0 e1 em en;have A2:=(HT2.o.at 0 rfl).every;have A3:=(HT2.o.at 2 rfl).every
  by_cases h0:i=0
  case pos =>
   have z5:=dF (p:=(0:Int)<i) zo;have z6:=dF (p:=0<i) zo;clear h0;refine ak 14 [true,true,true,true,true,true,true,true,true,true,true,true,true,true] [] zt zt zk ?_;simp only [aQ]
   iterate 3
    refine sv ?_
   iterate 10 refine su ?_
   refine sv ?_;refine au ?_;refine aB (λw' hw' _=>?_);simp only [qS,qZ];clear A2 A3;go_wp2;go_roundg (gk - 1)
   case measure=>exact HI.o.1.1
   case rel=>exact ⟨i+1,by rw [Int.natCast_add];rfl,HI.o.1.2,HTN.o.call hw'⟩
  obtain ⟨m,hm⟩:∃ m,m+1=i:=⟨i - 1,by omega⟩
  have hml:m<l.length:=by have:=HI.o.2;omega
  have hx:=H9.o m hm hml;obtain ⟨a',ha',-,cs,-,hc0,-,rfl,-⟩:=(HR.o _ HT2.o.mod).at m hml;generalize l[m]=y at *
  obtain ⟨rj,gj⟩:=y;simp only at hx hc0;have c0:=hc0 zd;simp only [gZ,gS] at c0;obtain rfl:a'=a:=by simpa using ha'.symm
  have A0:=λW (k:Mod [] _ W)=>aj k c0
  have z5:=dT (p:=(0:Int)<i) zo;have z6:=dT (p:=0<i) zo;have eS:IntKind.i64.wrap ((i:Int) - 1)=(m:Int):=by rw [show (i:Int) - 1=(m:Int) by omega];exact IntWalk.i64_in _ zqc
  have q5:(0:Int)<=m:=zo;have q6:(m:Int)<l.length:=zo;have q7:=dF (p:=rn<=rj) zo;clear hc0 c0 ha' h0 hml hm hx;refine ak 14 [true,true,true,true,true,true,true,true,true,true,true,true,true,true] [] zt zt zk ?_;simp only [aQ]
  iterate 14
   refine sv ?_
  refine au ?_;refine aB (λw' hw' _=>?_);simp only [qS,qZ];clear A0 A2 A3;go_wp2;go_roundg (gk - 1)
  case measure=>exact HI.o.1.1
  case rel=>exact ⟨i+1,by rw [Int.natCast_add];rfl,HI.o.1.2,HTN.o.call hw'⟩
def noC (n:Nat):Array Value:=Array.replicate n (.bool false)
theorem DV {n i:Nat} (h:i<n):(noC n)[i]?=some (.bool false):=by simp [noC,h]
def Rf.Low (gl:List av):Prop:=(∀ i (hi:i<gl.length),gl[i].parts=[]∨(1<i/\∃ x y,gl[i].parts=[⟨1,x,y⟩]))/\∀ (h1:1<gl.length),gl[1].parts=[]
theorem mL (u:Int) (fg fc fl ff fx fr fn fv:Hd) (gl:List av) (i:Nat) (tt:Int) (v:Value) (w:World) (h:Rows 9 aI 0 w (.slice fg.a fg.n fg.c) gl) (hi:i<gl.length) (hp:gl[i].parts=[]) :
  Calls Tryz.prog 148 #[.agg (af u fg fc fl ff fx fr fn fv),.int .i64 (i:Int),.int .i64 tt,v] w λe w'=>e=.returned (.bool false)/\Mod [] w w':=by
 obtain ⟨ga,gn,gc⟩:=fg;obtain ⟨_,_,hq,-⟩:=h.form;obtain rfl:gn=gl.length:=by cases hq;rfl
 clear hq;have T:=Hi (own1 w (af u ⟨ga,gl.length,gc⟩ fc fl ff fx fr fn fv) 32);obtain ⟨a,rfl,-,cs,-,hc0,hcj,v3,v4,v5,v6,v7,v8,rfl,-,-,-,-,r5,-⟩:=(h.mod aI.stay T.o.mod).at i hi;rw [hp] at r5;obtain ⟨o5,d5,rfl,-⟩:=r5.form;have c5:=hcj 5 zd zd;simp only [gZ,gS] at c5;have k3:(0:Int)<=i:=zo;have k4:(i:Int)<gl.length:=zo;clear hc0 hcj hp h hi r5;unfold af at T c5 ⊢;have e1:=(T.o.at 0 rfl).cell 1;simp only [gA,gZ,gS,List.length_nil] at T c5 e1 ⊢;go_enter Tryz.func148,Tryz.ntmps148;go_upto_block 0 with fail;generalize w.alloc _=w1 at *
 generalize w.heap.size=fb at *
 go_wp2_with fail
 go_loopg [9] 0 (λgk v wr=>v=.int .i64 0/\wr=w1)
 case atStart=>exact ⟨rfl,rfl⟩
 case round =>
  obtain ⟨rfl,rfl⟩:=hrel;go_wp2;go_ret;exact ⟨rfl,T.o.mod⟩
theorem yg (u:Int) (fg fc fl ff fx fr fn fv:Hd) (gl:List av) (i tb:Nat) (w:World) (hR:∀ W,Mod [tb] w W->Rows 9 aI 0 W (.slice fg.a fg.n fg.c) gl) (hi:i<gl.length) (hL:Rf.Low gl) (hB:Blk w tb (noC gl.length) 4) :
  Calls Tryz.prog 148 #[.agg (af u fg fc fl ff fx fr fn fv),.int .i64 (i:Int),.int .i64 (i:Int),.slice (some ⟨tb,0,none⟩) gl.length gl.length] w λe w'=>e=.returned (.bool false)/\Mod [tb] w w':=by
 rcases hL.1 i hi with hp | ⟨h1,x,y,hp⟩
 ·exact (mL u fg fc fl ff fx fr fn fv gl i i _ w (hR w mR) hi hp).mono λ_ _ ⟨he,m⟩=>⟨he,m.more zk⟩
 have h1l:1<gl.length:=zo;obtain ⟨ga,gn,gc⟩:=fg;obtain ⟨_,_,hq,-⟩:=(hR w mR).form;obtain rfl:gn=gl.length:=by cases hq;rfl
 clear hq;have hbt:=hB.lt;have CL:=Hi (λW (m:Mod [tb] w W)=>mL u ⟨ga,gl.length,gc⟩ fc fl ff fx fr fn fv gl 1 i (.slice (some ⟨tb,0,none⟩) gl.length gl.length) W (hR W m) h1l (hL.2 h1l));have T:=Hi (own1 w (af u ⟨ga,gl.length,gc⟩ fc fl ff fx fr fn fv) 32);have HD:Hy (∀ W,Mod [tb] w W->∃ (a:Addr) (o5:Addr) (d5:Nat),ga=some a/\W.cell? ⟨(a.add (i*9)).block,(a.add (i*9)).off+5,none⟩=some (.slice (some o5) 1 d5)/\W.cell? o5=some (.int .i64 1)):=λW m=>by
  obtain ⟨a,rfl,-,cs,-,hc0,hcj,v3,v4,v5,v6,v7,v8,rfl,-,-,-,-,r5,-⟩:=(hR W m).at i hi;rw [hp] at r5;obtain ⟨o5,d5,rfl,-⟩:=r5.form;obtain ⟨b,rfl,-,cs,-,hb0,-,rfl,-⟩:=r5.at 0 zk;refine ⟨a,b,d5,rfl,hcj 5 zd zd,?_⟩;have:=hb0 zd;simpa [Addr.add] using this
 have k3:(0:Int)<=i:=zo;have k4:(i:Int)<gl.length:=zo;have k5:(1:Int)<gl.length:=zo;obtain ⟨y1,y2,y3⟩:=Rf.eqb (x:=(1:Int)) (y:=(i:Int)) zo;have HH:=Hi (And.intro h1l hbt);have HB:=Hi (hB.kept T.o.mod zk);clear hR hL hp hi h1 h1l hbt hB;unfold af at T CL HB ⊢;simp only at T CL HB ⊢;go_enter Tryz.func148,Tryz.ntmps148;go_upto_block 0 with fail;have HF:Hy (w.heap.size≠tb):=by have:=HH.o.2;show _≠_;omega
 generalize w.alloc _=w1 at *
 generalize w.heap.size=fb at *
 go_wp2_with fail
 go_loopg [9] 1 (λgk v wr=>Hy (Mod [tb] w wr)/\Hy (Blk wr fb #[.int .i64 u,.slice ga gl.length gc,.slice fc.a fc.n fc.c,.slice fl.a fl.n fl.c,.slice ff.a ff.n ff.c,.slice fx.a fx.n fx.c,.slice fr.a fr.n fr.c,.slice fn.a fn.n fn.c,.slice fv.a fv.n fv.c] 32)/\((v=.int .i64 0/\Hy (gk=1)/\Hy (Blk wr tb (noC gl.length) 4))∨v=.int .i64 1))
 case atStart=>exact ⟨T.o.mod.more zk,T.o.at 0 rfl,.inl ⟨rfl,rfl,HB.o⟩⟩
 case round =>
  obtain ⟨HM,HFB,hv⟩:=hrel;clear HB T;obtain ⟨a,o5,d5,rfl,c5,cp⟩:=HD.o wr HM.o;have e1:=HFB.o.cell 1;simp only [gA,gZ,gS] at e1;rcases hv with ⟨rfl,hgk,HB⟩ | rfl
  ·have b1:=HB.o.cell 1;rw [DV HH.o.1] at b1;have f1:=HB.o.frozen 1;go_upto_region 9 with fail;have HFB2:=Hi (HFB.o.other (a:=⟨tb,1,none⟩) (λh=>HF.o h.symm) (.bool true));have HM2:=Hi (HM.o.setCell (p:=⟨tb,1,none⟩) (λ_=>by simp) (.bool true));clear b1 f1 e1 c5 cp HM HB HFB;generalize wr.setCell _ _=W2 at *
   have q0:=HFB2.o.cell 0;have q1:=HFB2.o.cell 1;have q2:=HFB2.o.cell 2;have q3:=HFB2.o.cell 3;have q4:=HFB2.o.cell 4;have q5:=HFB2.o.cell 5;have q6:=HFB2.o.cell 6;have q7:=HFB2.o.cell 7;have q8:=HFB2.o.cell 8;simp only [gA,gZ,gS] at q0 q1 q2 q3 q4 q5 q6 q7 q8;go_wp2_with fail;refine (CL.o W2 HM2.o).mono ?_;rintro e w3 ⟨rfl,m3⟩;have HFB3:=Hi (HFB2.o.kept m3 zk);have HM3:=Hi (HM2.o.then (m3.more zk));clear m3 q0 q1 q2 q3 q4 q5 q6 q7 q8;go_wp2;go_roundg (gk - 1)
   case measure=>have:=hgk.o;omega
   case rel=>exact ⟨HM3.o,HFB3.o,.inr rfl⟩
  ·go_wp2;go_ret;exact ⟨rfl,HM.o⟩
theorem Cp.DK {f:Nat->Nat} {i x m:Nat} (h:∀ j,f j<=m) (hx:x<=m):∀ j,Cp.upd f i x j<=m:=λj=>by
 unfold Cp.upd;split
 ·exact hx
 ·exact h j
theorem Cp.upd_ne {f:Nat->Nat} {i x j:Nat} (h:j≠i):Cp.upd f i x j=f j:=by unfold Cp.upd;rw [if_neg h]
theorem yr (u:Int) (fg fc fl ff fx fr fn fv:Hd) (gl:List av) (w:World) (h:Rows 9 aI 0 w (.slice fg.a fg.n fg.c) gl) (hn:gl.length<=1000) (hL:Rf.Low gl) :
  Calls Tryz.prog 149 #[.agg (af u fg fc fl ff fx fr fn fv)] w λe w'=>∃ (db:Nat) (f:Nat->Nat),e=.returned (.slice (some ⟨db,0,none⟩) gl.length gl.length)/\Blk w' db (eR gl.length f) 3/\w.heap.size<=db/\(∀ j,f j<=1)/\Mod [] w w':=by
 obtain ⟨ga,gn,gc⟩:=fg;obtain ⟨_,_,hq,-⟩:=h.form;obtain rfl:gn=gl.length:=by cases hq;rfl
 clear hq;have T:=Hi (own1 w (af u ⟨ga,gl.length,gc⟩ fc fl ff fx fr fn fv) 32);have HD:Hy (∀ i,i<gl.length->∃ (a:Addr) (pl:Nat) (o5:Option Addr) (d5:Nat),ga=some a/\(∀ W,Mod [] w W->W.cell? ⟨(a.add (i*9)).block,(a.add (i*9)).off+5,none⟩=some (.slice o5 pl d5))/\(pl=0∨(pl=1/\1<i/\∃ b,o5=some b/\∀ W,Mod [] w W->W.cell? b=some (.int .i64 1)))):=λi hi=>by
  obtain ⟨a,rfl,-,cs,-,hc0,hcj,v3,v4,v5,v6,v7,v8,rfl,-,-,-,-,r5,-⟩:=h.at i hi;rcases hL.1 i hi with hp | ⟨h1,x,y,hp⟩
  ·rw [hp] at r5;obtain ⟨o5,d5,rfl,-⟩:=r5.form;exact ⟨a,0,o5,d5,rfl,λW m=>aj m (hcj 5 zd zd),.inl rfl⟩
  ·rw [hp] at r5;obtain ⟨o5,d5,rfl,-⟩:=r5.form;obtain ⟨b,rfl,-,cs,-,hb0,-,rfl,-⟩:=r5.at 0 zk;refine ⟨a,1,some b,d5,rfl,λW m=>aj m (hcj 5 zd zd),.inr ⟨rfl,h1,b,rfl,λW m=>aj m ?_⟩⟩;have:=hb0 zd;simpa [Addr.add] using this
 have HN:=Hi hn;have hmk:=λW=>j5 W gl.length zo
 clear h hL hn;unfold af at T ⊢;simp only at T ⊢;have e1:=(T.o.at 0 rfl).cell 1;simp only [gA,gZ,gS] at e1;generalize gl.length=n at *
 go_enter Tryz.func149,Tryz.ntmps149;go_upto_block 2 with fail;have HT0:=Hi (T.o.alloc (eR n λ_=>0) 3);simp only [List.cons_append,List.nil_append,World.size_alloc] at HT0;clear hmk e1 T;generalize (w.alloc _).alloc _=w1 at *
 generalize w.heap.size+1=db at *
 generalize w.heap.size=fb at *
 obtain ⟨IV,hIV⟩:∃ IV:World->Prop,IV=λwr=>∃ f:Nat->Nat,Own w wr [(fb,#[.int .i64 u,.slice ga n gc,.slice fc.a fc.n fc.c,.slice fl.a fl.n fl.c,.slice ff.a ff.n ff.c,.slice fx.a fx.n fx.c,.slice fr.a fr.n fr.c,.slice fn.a fn.n fn.c,.slice fv.a fv.n fv.c],32),(db,eR n f,3)]/\(∀ j,f j<=1)/\f 1=0:=⟨_,rfl⟩
 have HI0:Hy (IV w1):=by rw [hIV];exact ⟨_,HT0.o,λ_=>Nat.zero_le _,rfl⟩
 have HIV:=Hi hIV;clear hIV HT0;go_wp2_with fail
 go_loopg [4] n (λgk v wr=>∃ r:Nat,v=.int .i64 (r:Int)/\Hy (r+gk=n)/\Hy (IV wr))
 case atStart=>exact ⟨0,rfl,by show 0+n=n;omega,HI0.o⟩
 case round =>
  obtain ⟨r,rfl,hr,HI⟩:=hrel;clear HI0;have hI:=HI.o;rw [HIV.o] at hI;obtain ⟨f,hT,hf⟩:=hI;have HT:=Hi hT;have HF:=Hi hf;have e1:=(HT.o.at 0 rfl).cell 1;simp only [gA,gZ,gS] at e1;clear hT hf
  by_cases hrn:r<n
  case neg =>
   obtain rfl:r=n:=by have:=hr.o;omega
   have k1:=Rf.lz r;clear hr hrn;go_wp2;go_ret;exact ⟨db,f,rfl,HT.o.at 1 rfl,HT.o.ge 1 rfl,HF.o.1,HT.o.mod⟩
  obtain ⟨k1,k2,k3,k4,ei⟩:=Rf.lf hrn zqf;have HRI:=Hi (And.intro (Rf.ms hr hrn) (Rf.nx hr hrn));clear hr hrn k3 HT HF;go_wp2_with fail;clear e1;generalize gk=g0 at *
  generalize wr=wo at *
  go_loopg [5] n (λgj v wr=>∃ i:Nat,v=.int .i64 (i:Int)/\Hy (i+gj=n)/\Hy (IV wr))
  case atStart=>exact ⟨0,rfl,by show 0+n=n;omega,HI.o⟩
  case round =>
   obtain ⟨i,rfl,hi,HJ⟩:=hrel;clear HI;have hI:=HJ.o;rw [HIV.o] at hI;obtain ⟨f,hT,hf⟩:=hI;have HT:=Hi hT;have HF:=Hi hf;have e1:=(HT.o.at 0 rfl).cell 1;simp only [gA,gZ,gS] at e1;clear hT hf
   by_cases hin:i<n
   case neg =>
    obtain rfl:i=n:=by have:=hi.o;omega
    have k5:=Rf.lz i;clear hi hin;go_wp2;go_roundg (g0 - 1)
    case measure=>exact HRI.o.1
    case rel=>exact ⟨r+1,by rw [Int.natCast_add];rfl,HRI.o.2,HJ.o⟩
   obtain ⟨q1,q2,q3,q4,qi⟩:=Rf.lf hin zqf;have HII:=Hi (And.intro (And.intro (Rf.ms hi hin) (Rf.nx hi hin)) hin);obtain ⟨a,pl,o5,d5,rfl,hc5,hpl⟩:=HD.o i hin;have c5:=hc5 wr HT.o.mod;have HC5:=Hi hc5;clear hi hc5;rcases hpl with rfl | ⟨rfl,h1i,b,rfl,hcp⟩
   ·clear hin;go_wp2_with fail;generalize gk=g1 at *
    generalize wr=wi at *
    go_loopg [6] 0 (λgj v wr=>v=.int .i64 0/\wr=wi)
    case atStart=>exact ⟨rfl,rfl⟩
    case round =>
     obtain ⟨rfl,rfl⟩:=hrel;go_wp2;go_roundg (g1 - 1)
     case measure=>exact HII.o.1.1
     case rel=>exact ⟨i+1,by rw [Int.natCast_add];rfl,HII.o.1.2,HJ.o⟩
   ·have cp:=hcp wr HT.o.mod;have HCP:=Hi (And.intro h1i hin);have k1n:(1:Int)<n:=zo;clear hcp hin h1i;go_wp2_with fail;clear e1 c5;generalize gk=g1 at *
    generalize wr=wi at *
    go_loopg [6] 1 (λgj v wr=>(v=.int .i64 0/\Hy (gj=1)/\wr=wi)∨(v=.int .i64 1/\Hy (IV wr)))
    case atStart=>exact .inl ⟨rfl,rfl,rfl⟩
    case round =>
     rcases hrel with ⟨rfl,hgj,rfl⟩ | ⟨rfl,HV⟩
     ·have b0:=(HT.o.at 1 rfl).cell i;rw [eL f HCP.o.2] at b0;have b1:=(HT.o.at 1 rfl).cell 1;rw [eL f (by have:=HCP.o;omega),HF.o.2] at b1;have A0:=λW (k:Mod [] wr W)=>HC5.o W (HT.o.mod.then k)
      have A1:=(HT.o.at 0 rfl).every;have A2:=λW (k:Mod [] wr W)=>aj k cp
      have A3:=λW (k:Mod [] wr W)=>aj k b0
      have A4:=λW (k:Mod [] wr W)=>aj k b1
      have c5:=HC5.o wr HT.o.mod;have e1:=(HT.o.at 0 rfl).cell 1;simp only [gA,gZ,gS,Int.natCast_zero] at e1 A4;have hfi:f i=0∨f i=1:=by have:=HF.o.1 i;omega
      clear b0 b1 cp;go_upto_region 11 with fail;rcases hfi with hfi | hfi
      all_goals
       rw [hfi] at A3
       simp only [Int.natCast_zero,Int.natCast_one] at A3
       clear hfi
       refine ak 22 [true,true,true,true,true,true,true,true,true,true,true,true,true,true,true,true,true,true,true,true,true,true] [] zt zt zk ?_
       simp only [aQ]
       iterate 22
        refine sv ?_
       refine au ?_
       refine aB (λw' hw' _=>?_)
       simp only [qS,qZ]
       have hc:=A3 _ hw'
       have HT2:=Hi (HT.o.call hw')
       have hz:=(HT2.o.at 1 rfl).frozen i
       have HS:=Hi (HT2.o.set 1 rfl i (.int .i64 ((1:Nat):Int)))
       rw [iY] at HS
       clear A0 A1 A2 A3 A4 e1 c5 HT
       go_wp2
       go_roundg (gk - 1)
       case measure=>have:=hgj.o;omega
       case rel =>
        refine .inr ⟨rfl,?_⟩;rw [HIV.o];exact ⟨_,HS.o,Cp.DK HF.o.1 (nR 1),(Cp.upd_ne (by have:=HCP.o.1;omega)).trans HF.o.2⟩
     ·have hV:=HV.o;rw [HIV.o] at hV;obtain ⟨f',hT',-⟩:=hV;have HT':=Hi hT';have c5:=HC5.o wr HT'.o.mod;have e1:=(HT'.o.at 0 rfl).cell 1;simp only [gA,gZ,gS] at e1;clear hT' cp HT HF;go_wp2;go_roundg (g1 - 1)
      case measure=>exact HII.o.1.1
      case rel=>exact ⟨i+1,by rw [Int.natCast_add];rfl,HII.o.1.2,HV.o⟩
theorem Rf.BL {nr np:Nat} {l:List co} (h:Ck.deltas nr np l=(0,0)) (i:Nat) (hi:i<l.length):0<=l[i].region/\l[i].region<nr/\-1<=l[i].point/\l[i].point<np/\Ck.may l[i].x=true/\Ck.may l[i].y=true/\(l[i].point=-1->l[i].y=0)/\∀ j (hj:j+1=i),l[j].region<=l[i].region/\(l[i].region=l[j].region->l[j].point<l[i].point):=by
 have h1:=(Rf.dn h).2 i hi;unfold Ck.delta at h1;have n1:¬ (l[i].region<0∨(nr:Int)<=l[i].region):=λk=>by rw [if_pos k] at h1;exact absurd h1 zd
 rw [if_neg n1] at h1;have n2:¬ (l[i].point < -1∨(np:Int)<=l[i].point∨(!(Ck.may l[i].x && Ck.may l[i].y))=true∨(l[i].point=-1/\l[i].y≠0)):=λk=>by rw [if_pos k] at h1;exact absurd h1 zd
 rw [if_neg n2] at h1;have n3:¬ (0<i/\(l[i].region<(Ck.ij l i).fst∨(l[i].region=(Ck.ij l i).fst/\l[i].point<=(Ck.ij l i).snd))):=λk=>by rw [if_pos k] at h1;exact absurd h1 zd
 simp only [not_or,Bool.not_eq_true,Bool.not_eq_false',Bool.and_eq_true,not_and,ne_eq,Decidable.not_not] at n2;refine ⟨by omega,by omega,by omega,by omega,n2.2.2.1.1,n2.2.2.1.2,n2.2.2.2,λj hj=>?_⟩;subst hj;have hs:Ck.ij l (j+1)=(l[j].region,l[j].point):=by show (match l[j]? with | Option.some d=>((d.region,d.point):Int×Int) | Option.none=>(0,0))=_;rw [gE zo]
 rw [hs] at n3;exact ⟨by by_cases q:l[j+1].region<l[j].region;exact (n3 ⟨by omega,.inl q⟩).elim;omega,λe=>by by_cases q:l[j+1].point<=l[j].point;exact (n3 ⟨by omega,.inr ⟨e,q⟩⟩).elim;omega⟩
theorem vL (u:Int) (fg fc fl ff fx fr fn fv:Hd) (v0 v1 v2 v4 v5 v6 v8:Value) (op:Option Addr) (np cp:Nat) (oa:Option Addr) (n c B:Nat) (l:List co) (w:World) (h:Rows 4 er B w (.slice oa n c) l) (hp:Ck.deltas fr.n np l=(0,0)) :
  Calls Tryz.prog 36 #[.agg (af u fg fc fl ff fx fr fn fv),.agg #[v0,v1,v2,.slice op np cp,v4,v5,v6,.slice oa n c,v8]] w λe w'=>e=.returned (.int .i64 0)/\Mod [] w w':=by
 obtain ⟨_,_,hq,hme⟩:=h.form;obtain rfl:n=l.length:=by cases hq;rfl
 clear hq hme;have T:=Hi (own2 w (af u fg fc fl ff fx fr fn fv) 32 #[v0,v1,v2,.slice op np cp,v4,v5,v6,.slice oa l.length c,v8] 46);have HR:=Hi (λW (k:Mod [] w W)=>h.mod er.stay k);have hl:=(Rf.dn hp).1;have HL:=Hi hl;have HP:=Hi (λi hi=>Rf.BL hp i hi);have k0:=dF (p:=(400:Int)<l.length) zo;clear h hl hp;unfold af at T ⊢;obtain ⟨ra,rn,rc⟩:=fr;simp only at T HP ⊢;go_enter Tryz.func36,Tryz.ntmps36;go_upto_block 3 with fail;go_wp2_with fail;generalize (w.alloc _).alloc _=w1 at *
 generalize w.heap.size=fb at *
 go_loopg [5] l.length (λgk v wr=>∃ i:Nat,v=.int .i64 (i:Int)/\Hy (i+gk=l.length)/\Hy (Own w wr [(fb,#[.int .i64 u,.slice fg.a fg.n fg.c,.slice fc.a fc.n fc.c,.slice fl.a fl.n fl.c,.slice ff.a ff.n ff.c,.slice fx.a fx.n fx.c,.slice ra rn rc,.slice fn.a fn.n fn.c,.slice fv.a fv.n fv.c],32),(fb+1,#[v0,v1,v2,.slice op np cp,v4,v5,v6,.slice oa l.length c,v8],46)]))
 case atStart=>exact ⟨0,rfl,by show 0+l.length=l.length;omega,T.o⟩
 case round =>
  obtain ⟨i,rfl,hi,HT⟩:=hrel;clear T;have d5:=(HT.o.at 1 rfl).cell 7
  by_cases hin:i<l.length
  case neg =>
   obtain rfl:i=l.length:=by have:=hi.o;omega
   have k1:=Rf.lz l.length;clear hin hi;go_wp2;go_ret;exact ⟨rfl,HT.o.mod⟩
  obtain ⟨k1,k2,k3,k4,ei⟩:=Rf.lf hin zqc;have HI:=Hi (And.intro (And.intro (Rf.ms hi hin) (Rf.nx hi hin)) hin);obtain ⟨h1,h2,h3,h4,h6,h7,h8,h9⟩:=HP.o i hin;have hr:=(HR.o wr HT.o.mod).at i hin;obtain ⟨a,rfl,-,cs,-,hc0,hcj,rfl,-⟩:=hr;generalize l[i]=x at *
  have c0:=hc0 zd;have c1:=hcj 1 zd zd;have c2:=hcj 2 zd zd;have c3:=hcj 3 zd zd;simp only [gZ,gS] at c0 c1 c2 c3;obtain ⟨rg,pt,px,py⟩:=x;simp only at c0 c1 c2 c3 h1 h2 h3 h4 h6 h7 h8 h9;have z1:=dF (p:=rg<(0:Int)) zo;have z2:=dF (p:=(rn:Int)<=rg) zo;have z3:=dF (p:=pt<(-1:Int)) zo;have z4:=dF (p:=(np:Int)<=pt) zo;have hb:pt≠-1∨(pt=-1/\py=0):=by
   by_cases q:pt=-1
   ·exact .inr ⟨q,h8 q⟩
   ·exact .inl q
  have H3:=Hi h6;have H4:=Hi h7;have H9:Hy (∀ (j:Nat) (hj:j+1=i) (hjl:j<l.length),(l[j]'hjl).region<=rg/\(rg=(l[j]'hjl).region->(l[j]'hjl).point<pt)):=λj hj hjl=>h9 j hj
  have HB:=Hi hb;clear hc0 hcj h9 hin hi h1 h2 h3 h4 h6 h7 h8 hb;go_upto_region 7 with fail;have HT2:=Hi (HT.o.alloc #[.int .i64 rg,.int .i64 pt,.int .i64 px,.int .i64 py] 147);clear c0 c1 c2 c3 d5;generalize wr.alloc _=W1 at *
  generalize wr.heap.size=pb at *
  have e0:=(HT2.o.at 2 rfl).cell 0;have e1:=(HT2.o.at 2 rfl).cell 1;have ex:=(HT2.o.at 2 rfl).cell 2;have ey:=(HT2.o.at 2 rfl).cell 3;have em:=(HT2.o.at 0 rfl).cell 6;have en:=(HT2.o.at 1 rfl).cell 3;simp only [gA,gZ,gS] at e0 e1 ex ey em en;go_wp2_with fail;refine (eh _ _).mono ?_;rintro e w2 ⟨rfl,rfl⟩;rw [H3.o];go_wp2_with fail;refine (eh _ _).mono ?_;rintro e w2 ⟨rfl,rfl⟩;rw [H4.o];have HBo:=HB.o;clear HB H3 H4;have HTN:=Hi HT2.o.front;have HI2:=Hi HI.o.2;rcases HBo with hne | ⟨rfl,rfl⟩
  case' inl =>
   obtain ⟨y1,y2,y3⟩:=Rf.eqb hne;clear hne
  all_goals
   go_upto_region 13 with fail
   clear e0 e1 ex ey em en
   by_cases h0:i=0
   case pos =>
    have z5:=dF (p:=(0:Int)<i) zo;have z6:=dF (p:=0<i) zo;clear h0;refine ak 38 [true,true,true,true,true,true,true,true,true,true,true,true,true,true,true,true,true,true,true,true,true,true,true,true,true,true,true,true,true,true,true,true,true,true,true,true,true,true] [] zt zt zk ?_;simp only [aQ]
    iterate 3
     refine sv ?_
    iterate 34 refine su ?_
    refine sv ?_;refine au ?_;refine aB (λw' hw' _=>?_);simp only [qS,qZ];go_wp2;go_roundg (gk - 1)
    case measure=>exact HI.o.1.1
    case rel=>exact ⟨i+1,by rw [Int.natCast_add];rfl,HI.o.1.2,HTN.o.call hw'⟩
   obtain ⟨m,hm⟩:∃ m,m+1=i:=⟨i - 1,by omega⟩
   have hml:m<l.length:=by have:=HI2.o;omega
   have hx:=H9.o m hm hml
   have hr:=(HR.o _ HT2.o.mod).at m hml
   obtain ⟨a',ha',-,cs,-,hc0,hcj,rfl,-⟩:=hr
   generalize l[m]=y at *
   obtain ⟨rj,pj,xj,yj⟩:=y
   simp only at hx hc0 hcj
   have c0:=hc0 zd
   have c1:=hcj 1 zd zd
   simp only [gZ,gS] at c0 c1
   obtain rfl:a'=a:=by simpa using ha'.symm
   have A0:=λW (k:Mod [] _ W)=>aj k c0
   have A1:=λW (k:Mod [] _ W)=>aj k c1
   have A2:=(HT2.o.at 1 rfl).every
   have A3:=(HT2.o.at 2 rfl).every
   have z5:=dT (p:=(0:Int)<i) zo
   have z6:=dT (p:=0<i) zo
   have eS:IntKind.i64.wrap ((i:Int) - 1)=(m:Int):=by rw [show (i:Int) - 1=(m:Int) by omega];exact IntWalk.i64_in _ zqc
   have q5:(0:Int)<=m:=zo
   have q6:(m:Int)<l.length:=zo
   have q7:=dF (p:=rg<rj) zo
   clear hc0 hcj c0 c1 ha' h0 hml hm
   by_cases he:rg=rj
   case neg =>
    obtain ⟨y4,y5,y6⟩:=Rf.eqb he;clear he hx;refine ak 38 [true,true,true,true,true,true,true,true,true,true,true,true,true,true,true,true,true,true,true,true,true,true,true,true,true,true,true,true,true,true,true,true,true,true,true,true,true,true] [] zt zt zk ?_;simp only [aQ]
    iterate 25
     refine sv ?_
    iterate 10 refine su ?_
    iterate 3
     refine sv ?_
    refine au ?_;refine aB (λw' hw' _=>?_);simp only [qS,qZ];clear A0 A1 A2 A3;go_wp2;go_roundg (gk - 1)
    case measure=>exact HI.o.1.1
    case rel=>exact ⟨i+1,by rw [Int.natCast_add];rfl,HI.o.1.2,HTN.o.call hw'⟩
   subst he
   have q8:=dF (Int.not_le.2 (hx.2 rfl))
   clear hx
   refine ak 38 [true,true,true,true,true,true,true,true,true,true,true,true,true,true,true,true,true,true,true,true,true,true,true,true,true,true,true,true,true,true,true,true,true,true,true,true,true,true] [] zt zt zk ?_
   simp only [aQ]
   iterate 38
    refine sv ?_
   refine au ?_
   refine aB (λw' hw' _=>?_)
   simp only [qS,qZ]
   clear A0 A1 A2 A3
   go_wp2
   go_roundg (gk - 1)
   case measure=>exact HI.o.1.1
   case rel=>exact ⟨i+1,by rw [Int.natCast_add];rfl,HI.o.1.2,HTN.o.call hw'⟩
theorem Rf.rC {n:Nat} {last x:Int} {l:List Int} (h:Ck.bN n last (x::l)=true):x<(n:Int)/\last+2<=x/\Ck.bN n x l=true:=by
 unfold Ck.bN at h;simp only [Bool.and_eq_true,Bool.not_eq_true',Bool.or_eq_false_iff,decide_eq_false_iff_not] at h;exact ⟨by omega,by omega,h.2⟩
theorem Aq (oa oe:Option Addr) (n c m d:Nat) (ends:List Int) (B:Nat) (w:World) (he:Rows 1 bn B w (.slice oe m d) ends) (hn:n<=200) (hok:Ck.bN n (-1) ends=true) :
  Calls Tryz.prog 32 #[.agg #[.slice oa n c,.slice oe m d]] w λe w'=>e=.returned (.bool true)/\Mod [] w w':=by
 obtain ⟨_,_,hq,hme⟩:=he.form;obtain rfl:m=ends.length:=by cases hq;rfl
 clear hq;have HME:=Hi (show ends.length<=9223372036854775807 from hme);have T:=Hi (own1 w #[.slice oa n c,.slice oe ends.length d] 40);have HR:=Hi (λW (k:Mod [] w W)=>he.mod bn.stay k);have HN:=Hi hn;have HO:=Hi hok;clear he hme hn hok;go_enter Tryz.func32,Tryz.ntmps32;go_upto_block 0 with fail;generalize w.alloc _=w1 at *
 generalize w.heap.size=fb at *
 go_wp2_with fail
 go_loopg [3,4] ends.length (λgk u v wr=>∃ (i:Nat) (last:Int),v=.int .i64 (i:Int)/\u=.int .i64 last/\Hy (i+gk=ends.length)/\Hy (Own w wr [(fb,#[.slice oa n c,.slice oe ends.length d],40)])/\Hy (Ck.bN n last (ends.drop i)=true)/\Hy (-1<=last/\last<200))
 case atStart=>exact ⟨0,-1,rfl,rfl,by show 0+ends.length=ends.length;omega,T.o,HO.o,by decide,by decide⟩
 case round =>
  obtain ⟨i,last,rfl,rfl,hi,HT,HE,HL⟩:=hrel;clear T;have A1:=(HT.o.at 0 rfl).every;have c0:=(HT.o.at 0 rfl).cell 0;have c1:=(HT.o.at 0 rfl).cell 1
  by_cases hin:i<ends.length
  case neg =>
   obtain rfl:i=ends.length:=by have:=hi.o;omega
   have k1:=Rf.lz ends.length;have hE:=HE.o;rw [List.drop_length] at hE;unfold Ck.bN at hE;obtain rfl:last=(n:Int) - 1:=by simpa using hE
   have ew:IntKind.i64.wrap ((n:Int) - 1)=(n:Int) - 1:=IntWalk.i64_in _ zqf;clear hE hin hi;go_wp2;go_ret;exact ⟨by simp,HT.o.mod⟩
  obtain ⟨k1,k2,k3,k4,ei⟩:=Rf.lf hin HME.o;have HI:=Hi (And.intro (Rf.ms hi hin) (Rf.nx hi hin));obtain ⟨a,rfl,-⟩:=(HR.o wr HT.o.mod).at i hin;have hE:=HE.o;rw [List.drop_eq_getElem_cons hin] at hE;obtain ⟨x,hx⟩:∃ x,ends[i]=x:=⟨_,rfl⟩
  have A0:∀ W,Mod [] wr W->W.cell? (a.add i)=some (.int .i64 x):=λW m=>by rw [<- hx];exact gB (HR.o wr HT.o.mod) i hin W m
  rw [hx] at hE;obtain ⟨h1,h2,h3⟩:=Rf.rC hE;have HE2:=Hi h3;have hl:=HL.o;have HL2:Hy (-1<=x/\x<200):=⟨by omega,by have:=HN.o;omega⟩
  have z1:=dF (p:=x<(0:Int)) zo;have z2:=dF (p:=(n:Int)<=x) zo;have z3:=dF (p:=x<last+2) zo;have e2:IntKind.i64.wrap (last+2)=last+2:=IntWalk.i64_in _ zo;clear hi hE hx h1 h2 h3 hl hin HE;go_upto_region 5 with fail;refine ak 27 [true,true,true,true,true,true,true,true,true,true,true,true,true,true,true,true,true,true,true,true,true,true,true,true,true,true,true] [] zt zt zk ?_;simp only [aQ]
  iterate 27
   refine sv ?_
  refine au ?_;refine aB (λw' hw' _=>?_);simp only [qS,qZ];have c3:=((HT.o.call hw').at 0 rfl).cell 1;have c2:=A0 _ hw';clear A0 A1 c0 c1;go_wp2;go_roundg (gk - 1)
  case measure=>exact HI.o.1
  case rel=>exact ⟨i+1,x,by rw [Int.natCast_add];rfl,rfl,HI.o.2,HT.o.call hw',HE2.o,HL2.o⟩
def Rf.first:List Int->Int
 | []=>0
 | x::l=>if x=0 then Rf.first l else x
theorem Rf.ww {l:List Int} {i:Nat} (hi:i<l.length) (h:l[i]≠0):Rf.first (l.drop i)=l[i]:=by
 rw [List.drop_eq_getElem_cons hi];unfold Rf.first;rw [if_neg h]
theorem Rf.BE {l:List Int} {i:Nat} (hi:i<l.length) (h:l[i]=0):Rf.first (l.drop i)=Rf.first (l.drop (i+1)):=by
 rw [List.drop_eq_getElem_cons hi];conv=>lhs;unfold Rf.first
 rw [if_pos h]
theorem vJ (oa:Option Addr) (n c B:Nat) (l:List Int) (w:World) (h:Rows 1 bn B w (.slice oa n c) l) :
  Calls Tryz.prog 33 #[.slice oa n c] w λe w'=>e=.returned (.int .i64 (Rf.first l))/\w=w':=by
 obtain ⟨_,_,he,hml⟩:=h.form;obtain rfl:n=l.length:=by cases he;rfl
 clear he;have HML:=Hi (show l.length<=9223372036854775807 from hml);have HR:=Hi h;clear h hml;obtain ⟨D,hD⟩:∃ D,Rf.first l=D:=⟨_,rfl⟩
 rw [hD];have HD:Hy (Rf.first (l.drop 0)=D):=hD;clear hD;go_enter Tryz.func33,Tryz.ntmps33;go_wp2_with fail
 go_loopg [3] l.length (λgk v wr=>∃ i:Nat,v=.int .i64 (i:Int)/\Hy (i+gk=l.length)/\wr=w/\Hy (Rf.first (l.drop i)=D))
 case atStart=>exact ⟨0,rfl,by show 0+l.length=l.length;omega,rfl,HD.o⟩
 case round =>
  obtain ⟨i,rfl,hi,rfl,HE⟩:=hrel;clear HD
  by_cases hin:i<l.length
  case neg =>
   obtain rfl:i=l.length:=by have:=hi.o;omega
   have k1:=dF (p:=(l.length:Int)<l.length) zo;have hF:=HE.o;rw [List.drop_length] at hF;have HF:=Hi hF;clear hF;go_wp2;go_ret;rw [<- HF.o];exact ⟨rfl,rfl⟩
  have k1:=dT (p:=(i:Int)<l.length) zo;have k2:(0:Int)<=i:=zo;have k3:(i:Int)<l.length:=zo;have k4:=dT (p:=i<l.length) hin;have HN1:=Hi (λh:l[i]≠0=>(Rf.ww hin h).symm.trans HE.o);have HN2:=Hi (λh:l[i]=0=>(Rf.BE hin h).symm.trans HE.o);obtain ⟨a,rfl,-,cs,-,hc0,hcj,rfl,-⟩:=HR.o.at i hin;generalize l[i]=x at *
  have c0:=hc0 zd;simp only [Nat.mul_one,gZ] at c0;have ei:IntKind.i64.wrap ((i:Int)+1)=(i:Int)+1:=IntWalk.i64_in _ zqh;clear hc0 hcj hin
  by_cases h1:x=0
  case neg =>
   have z1:(x != 0)=true:=by simp [h1]
   have z2:=dF (p:=x=0) h1;have HX:=Hi (HN1.o h1);clear h1 HN1 HN2 HE;go_wp2;go_ret;rw [<- HX.o];exact ⟨rfl,rfl⟩
  subst h1;have HE2:=Hi (HN2.o rfl);clear HN1 HN2 HE;go_wp2;go_roundg (gk - 1)
  case measure=>have:=hi.o;omega
  case rel=>exact ⟨i+1,by rw [Int.natCast_add];rfl,by have:=hi.o;show i+1+(gk - 1)=l.length;omega,rfl,HE2.o⟩
theorem oV (u:Int) (fg fc fl ff fx fr fn fv:Hd) (gl:List av) (i:Nat) (w:World) (h:Rows 9 aI 0 w (.slice fg.a fg.n fg.c) gl) (hi:i<gl.length) (hp:gl[i].parts=[]) :
  Calls Tryz.prog 150 #[.agg (af u fg fc fl ff fx fr fn fv),.int .i64 (i:Int)] w λe w'=>e=.returned (.int .i64 (gl[i].pts.length:Int))/\Mod [] w w':=by
 obtain ⟨ga,gn,gc⟩:=fg;obtain ⟨_,_,hq,-⟩:=h.form;obtain rfl:gn=gl.length:=by cases hq;rfl
 clear hq;have T:=Hi (own1 w (af u ⟨ga,gl.length,gc⟩ fc fl ff fx fr fn fv) 32);obtain ⟨a,rfl,-,cs,-,hc0,hcj,v3,v4,v5,v6,v7,v8,rfl,-,-,r3,-,r5,-⟩:=(h.mod aI.stay T.o.mod).at i hi;rw [hp] at r5;obtain ⟨o5,d5,rfl,-⟩:=r5.form;obtain ⟨o3,d3,rfl,-⟩:=r3.form;have c5:=hcj 5 zd zd;have c3:=hcj 3 zd zd;simp only [gZ,gS] at c5 c3;have k3:(0:Int)<=i:=zo;have k4:(i:Int)<gl.length:=zo;generalize gl[i].pts.length=pn at *
 clear hc0 hcj hp h hi r5 r3;unfold af at T c5 c3 ⊢;have e1:=(T.o.at 0 rfl).cell 1;simp only [gA,gZ,gS,List.length_nil] at T c5 c3 e1 ⊢;go_enter Tryz.func150,Tryz.ntmps150;go_upto_block 2 with fail;generalize w.alloc _=w1 at *
 generalize w.heap.size=fb at *
 go_wp2_with fail
 go_loopg [5,6] 0 (λgk s v wr=>s=.int .i64 (pn:Int)/\v=.int .i64 0/\wr=w1)
 case atStart=>exact ⟨rfl,rfl,rfl⟩
 case round =>
  obtain ⟨rfl,rfl,rfl⟩:=hrel;go_wp2;go_ret;exact ⟨rfl,T.o.mod⟩
theorem Ap (u:Int) (fg fc fl ff fx fr fn fv:Hd) (gl:List av) (i:Nat) (w:World) (h:Rows 9 aI 0 w (.slice fg.a fg.n fg.c) gl) (hi:i<gl.length) (hL:Rf.Low gl) (hP:∀ g∈gl,g.pts.length<=10) :
  Calls Tryz.prog 150 #[.agg (af u fg fc fl ff fx fr fn fv),.int .i64 (i:Int)] w λe w'=>(∃ q:Nat,q<=20/\e=.returned (.int .i64 (q:Int)))/\Mod [] w w':=by
 have hpi:=hP _ (List.getElem_mem hi);rcases hL.1 i hi with hp | ⟨h1,x,y,hp⟩
 ·exact (oV u fg fc fl ff fx fr fn fv gl i w h hi hp).mono λ_ _ ⟨he,m⟩=>⟨⟨_,by omega,he⟩,m⟩
 have h1l:1<gl.length:=zo;have hp1:=hP _ (List.getElem_mem h1l);obtain ⟨ga,gn,gc⟩:=fg;obtain ⟨_,_,hq,-⟩:=h.form;obtain rfl:gn=gl.length:=by cases hq;rfl
 clear hq;have CL:=Hi (λW (m:Mod [] w W)=>oV u ⟨ga,gl.length,gc⟩ fc fl ff fx fr fn fv gl 1 W (h.mod aI.stay m) h1l (hL.2 h1l));have T:=Hi (own1 w (af u ⟨ga,gl.length,gc⟩ fc fl ff fx fr fn fv) 32);have HD:Hy (∀ W,Mod [] w W->∃ (a:Addr) (o3:Option Addr) (d3:Nat) (o5:Addr) (d5:Nat),ga=some a/\W.cell? ⟨(a.add (i*9)).block,(a.add (i*9)).off+3,none⟩=some (.slice o3 gl[i].pts.length d3)/\W.cell? ⟨(a.add (i*9)).block,(a.add (i*9)).off+5,none⟩=some (.slice (some o5) 1 d5)/\W.cell? o5=some (.int .i64 1)):=λW m=>by
  obtain ⟨a,rfl,-,cs,-,hc0,hcj,v3,v4,v5,v6,v7,v8,rfl,-,-,r3,-,r5,-⟩:=(h.mod aI.stay m).at i hi;rw [hp] at r5;obtain ⟨o5,d5,rfl,-⟩:=r5.form;obtain ⟨o3,d3,rfl,-⟩:=r3.form;obtain ⟨b,rfl,-,cs,-,hb0,-,rfl,-⟩:=r5.at 0 zk;refine ⟨a,o3,d3,b,d5,rfl,hcj 3 zd zd,hcj 5 zd zd,?_⟩;have:=hb0 zd;simpa [Addr.add] using this
 have k3:(0:Int)<=i:=zo;have k4:(i:Int)<gl.length:=zo;have k5:(1:Int)<gl.length:=zo;have HQ:=Hi (And.intro hpi hp1);have ew:IntKind.i64.wrap ((gl[i].pts.length:Int)+(gl[1].pts.length:Int))=(gl[i].pts.length:Int)+(gl[1].pts.length:Int):=IntWalk.i64_in _ zo;generalize gl[i].pts.length=pi at *
 generalize gl[1].pts.length=p1 at *
 clear h hL hp hi h1 h1l hP hpi hp1;unfold af at T CL ⊢;simp only at T CL ⊢;obtain ⟨a,o3,d3,o5,d5,rfl,c3,c5,cp⟩:=HD.o _ T.o.mod;have e1:=(T.o.at 0 rfl).cell 1;simp only [gA,gZ,gS] at e1;go_enter Tryz.func150,Tryz.ntmps150;go_upto_block 2 with fail;generalize w.alloc _=w1 at *
 generalize w.heap.size=fb at *
 go_wp2_with fail;clear c3 c5 cp e1
 go_loopg [5,6] 1 (λgk s v wr=>Hy (Own w wr [(fb,#[.int .i64 u,.slice (some a) gl.length gc,.slice fc.a fc.n fc.c,.slice fl.a fl.n fl.c,.slice ff.a ff.n ff.c,.slice fx.a fx.n fx.c,.slice fr.a fr.n fr.c,.slice fn.a fn.n fn.c,.slice fv.a fv.n fv.c],32)])/\((v=.int .i64 0/\s=.int .i64 (pi:Int)/\Hy (gk=1))∨(v=.int .i64 1/\s=.int .i64 ((pi:Int)+(p1:Int)))))
 case atStart=>exact ⟨T.o,.inl ⟨rfl,rfl,rfl⟩⟩
 case round =>
  obtain ⟨HT,hv⟩:=hrel;clear T;obtain ⟨a',o3,d3,o5,d5,ha,c3,c5,cp⟩:=HD.o wr HT.o.mod;obtain rfl:a'=a:=by simpa using ha.symm
  clear ha;have e1:=(HT.o.at 0 rfl).cell 1;simp only [gA,gZ,gS] at e1;rcases hv with ⟨rfl,rfl,hgk⟩ | ⟨rfl,rfl⟩
  ·have A0:=λW (k:Mod [] wr W)=>aj k c5
   have A1:=(HT.o.at 0 rfl).every;have A2:=λW (k:Mod [] wr W)=>aj k cp
   have CL2:=Hi (λW (k:Mod [] wr W)=>CL.o W (HT.o.mod.then k));go_upto_region 5 with fail;refine ak 14 [true,true,true,true,true,true,true,true,true,true,true,true,true,true] [] zt zt zk ?_;simp only [aQ]
   iterate 12
    refine sv ?_
   refine sk (CL2.o) ?_;refine sv ?_;refine au ?_;refine aB (λw' hw' _=>?_);simp only [qS,qZ];clear A0 A1 A2 e1 c3 c5 cp;go_wp2;go_roundg (gk - 1)
   case measure=>have:=hgk.o;omega
   case rel=>exact ⟨HT.o.call hw',.inr ⟨rfl,rfl⟩⟩
  ·go_wp2;go_ret;exact ⟨⟨pi+p1,by have:=HQ.o;omega,by rw [Int.natCast_add];rfl⟩,HT.o.mod⟩
theorem eqf {x y:Int} {b:Bool} (h:decide (x=y)=b):(x == y)=b/\(x != y)=!b:=by
 by_cases e:x=y
 ·subst e;simp at h;subst h;simp
 ·simp [e] at h;subst h;simp [e]
theorem shape5 (a c d e:Bool):a=true∨(a=false/\c=false)∨(a=false/\c=true/\d=false)∨(a=false/\c=true/\d=true/\e=true)∨(a=false/\c=true/\d=true/\e=false):=by cases a <;> cases c <;> cases d <;> cases e <;> simp
theorem shape6 (a b c d e:Bool):a=true∨(a=false/\b=false)∨(a=false/\b=true/\c=false)∨(a=false/\b=true/\c=true/\d=false)∨(a=false/\b=true/\c=true/\d=true/\e=true)∨(a=false/\b=true/\c=true/\d=true/\e=false):=by cases a <;> cases b <;> cases c <;> cases d <;> cases e <;> simp
theorem vD (kind:Int) (cs:List Value) (r:aN) (B:Nat) (w:World) (h:dW B w cs r):Calls Tryz.prog 42 #[.int .i64 kind,.agg cs.toArray] w λe w'=>e=.returned (.int .i64 (Ck.rows kind r))/\Mod [] w w':=by
 obtain ⟨v0,v1,v2,v3,v4,rfl,h0,h1,h2,h3,h4,-⟩:=h;have hm0:=h0.form;obtain ⟨o0,d0,rfl,l0⟩:=h0.form;obtain ⟨o1,d1,rfl,-⟩:=h1.form;obtain ⟨o2,d2,rfl,l2⟩:=h2.form;obtain ⟨o3,d3,rfl,-⟩:=h3.form;obtain ⟨o4,d4,rfl,-⟩:=h4.form;clear h0 h1 h2 h3 h4 hm0;have T:=Hi (own1 w #[.slice o0 r.back.length d0,.slice o1 r.ins.length d1,.slice o2 r.ahead.length d2,.slice o3 r.o.length d3,.slice o4 r.calls.length d4,.int .i64 r.x] 54);have c0:=(T.o.at 0 rfl).cell 0;have c1:=(T.o.at 0 rfl).cell 1;have c2:=(T.o.at 0 rfl).cell 2;obtain ⟨D,hD⟩:∃ D,Ck.rows kind r=D:=⟨_,rfl⟩
 rw [hD];have HD:=Hi hD;clear hD;unfold Ck.rows at HD;obtain ⟨back,ins,ahead,out,calls,x⟩:=r;simp only at HD c0 c1 c2 T ⊢
 by_cases h1:(6:Int)<back.length
 ·have k1:=dT (p:=(6:Int)<back.length) h1;obtain rfl:(2:Int)=D:=by have:=HD.o;rwa [if_pos (.inl zo)] at this
  go_enter Tryz.func42,Tryz.ntmps42;go_wp2;go_ret;exact ⟨rfl,T.o.mod⟩
 have k1:=dF (p:=(6:Int)<back.length) h1
 by_cases h2:(6:Int)<ins.length
 ·have k2:=dT (p:=(6:Int)<ins.length) h2;obtain rfl:(2:Int)=D:=by have:=HD.o;rwa [if_pos (.inr (.inl zo))] at this
  go_enter Tryz.func42,Tryz.ntmps42;go_wp2;go_ret;exact ⟨rfl,T.o.mod⟩
 have k2:=dF (p:=(6:Int)<ins.length) h2
 by_cases h3:(6:Int)<ahead.length
 ·have k3:=dT (p:=(6:Int)<ahead.length) h3;obtain rfl:(2:Int)=D:=by have:=HD.o;rwa [if_pos (.inr (.inr zo))] at this
  go_enter Tryz.func42,Tryz.ntmps42;go_wp2;go_ret;exact ⟨rfl,T.o.mod⟩
 have k3:=dF (p:=(6:Int)<ahead.length) h3;have HD2:=HD.o;rw [if_neg zo] at HD2;have HL:=Hi (And.intro h1 h3);clear HD h1 h2 h3;have HD:=Hi HD2;clear HD2;obtain ⟨e1,f1⟩:∃ b,decide (kind=1)=b:=⟨_,rfl⟩
 obtain ⟨e2,f2⟩:∃ b,decide (kind=2)=b:=⟨_,rfl⟩
 obtain ⟨e5,f5⟩:∃ b,decide (kind=5)=b:=⟨_,rfl⟩
 obtain ⟨e6,f6⟩:∃ b,decide (kind=6)=b:=⟨_,rfl⟩
 obtain ⟨z0,g0⟩:∃ b,decide ((ins.length:Int)=0)=b:=⟨_,rfl⟩
 obtain ⟨z1,g1⟩:∃ b,decide ((ins.length:Int)=1)=b:=⟨_,rfl⟩
 obtain ⟨z2,g2⟩:∃ b,decide ((ins.length:Int)=2)=b:=⟨_,rfl⟩
 obtain ⟨s,gs⟩:∃ b,decide ((0:Int)<back.length+(ahead.length:Int))=b:=⟨_,rfl⟩
 have ew:IntKind.i64.wrap ((back.length:Int)+(ahead.length:Int))=(back.length:Int)+(ahead.length:Int):=IntWalk.i64_in _ zqc;have HV:Hy (D=if z0 || ((e1 || e2 || e5) && !z1) || (e6 && (!z2 || s)) then 40 else 0):=by
  show _=_;rw [<- HD.o,<- f1,<- f2,<- f5,<- f6,<- g0,<- g1,<- g2,<- gs];unfold Ck.when
  by_cases q1:kind=1∨kind=2∨kind=5
  ·rw [if_pos q1];have q6:kind≠6:=zo;have q0:(decide (kind=1) || decide (kind=2) || decide (kind=5))=true:=by simpa [or_assoc] using q1
   rw [q0,dF q6,Bool.false_and,Bool.or_false,Bool.true_and]
   by_cases y:ins.length=1
   ·simp [y]
   ·have:(ins.length:Int)≠1:=by omega
    simp [y,this]
  ·rw [if_neg q1];have q0:(decide (kind=1) || decide (kind=2) || decide (kind=5))=false:=by simpa [and_assoc] using q1
   rw [q0,Bool.false_and,Bool.or_false]
   by_cases q6:kind=6
   ·rw [if_pos q6,dT q6,Bool.true_and]
    by_cases y:ins.length=2 <;> by_cases y2:0<back.length <;> by_cases y3:0<ahead.length <;> simp [y,y2,y3] <;> omega
   ·rw [if_neg q6,dF q6,Bool.false_and,Bool.or_false]
    by_cases y:ins.length=0
    ·simp [y]
    ·have:(ins.length:Int)≠0:=by omega
     simp [y,this]
 clear HD;obtain ⟨f1a,f1b⟩:=eqf f1;obtain ⟨f2a,f2b⟩:=eqf f2;obtain ⟨f5a,f5b⟩:=eqf f5;obtain ⟨f6a,f6b⟩:=eqf f6;obtain ⟨g0a,g0b⟩:=eqf g0;obtain ⟨g1a,g1b⟩:=eqf g1;obtain ⟨g2a,g2b⟩:=eqf g2;go_enter Tryz.func42,Tryz.ntmps42;rcases or3 e1 e2 e5 with rfl | ⟨rfl,rfl⟩ | ⟨rfl,rfl,rfl⟩ | ⟨rfl,rfl,rfl⟩
 ·rcases shape6 z0 z1 e6 z2 s with rfl | ⟨rfl,rfl⟩ | ⟨rfl,rfl,rfl⟩ | ⟨rfl,rfl,rfl,rfl⟩ | ⟨rfl,rfl,rfl,rfl,rfl⟩ | ⟨rfl,rfl,rfl,rfl,rfl⟩ <;> (go_wp2;go_ret;rw [HV.o];exact ⟨rfl,T.o.mod⟩)
 ·rcases shape6 z0 z1 e6 z2 s with rfl | ⟨rfl,rfl⟩ | ⟨rfl,rfl,rfl⟩ | ⟨rfl,rfl,rfl,rfl⟩ | ⟨rfl,rfl,rfl,rfl,rfl⟩ | ⟨rfl,rfl,rfl,rfl,rfl⟩ <;> (go_wp2;go_ret;rw [HV.o];exact ⟨rfl,T.o.mod⟩)
 ·rcases shape6 z0 z1 e6 z2 s with rfl | ⟨rfl,rfl⟩ | ⟨rfl,rfl,rfl⟩ | ⟨rfl,rfl,rfl,rfl⟩ | ⟨rfl,rfl,rfl,rfl,rfl⟩ | ⟨rfl,rfl,rfl,rfl,rfl⟩ <;> (go_wp2;go_ret;rw [HV.o];exact ⟨rfl,T.o.mod⟩)
 ·rcases shape5 z0 e6 z2 s with rfl | ⟨rfl,rfl⟩ | ⟨rfl,rfl,rfl⟩ | ⟨rfl,rfl,rfl,rfl⟩ | ⟨rfl,rfl,rfl,rfl⟩ <;> (go_wp2;go_ret;rw [HV.o];exact ⟨rfl,T.o.mod⟩)
def Rf.iV (n:Nat) (l:List Int) (i:Nat):Bool:=decide (0<=l.getD i 0) && decide (l.getD i 0<n) && (i == 0 || decide (l.getD (i - 1) 0<l.getD i 0))
def Rf.cQ (n:Nat) (l:List Int):Bool:=(List.range l.length).all (Rf.iV n l) && decide (0<l.length)
theorem Rf.rr {n:Nat} {l:List Int} {i:Nat} (hi:i<l.length) (h:Rf.iV n l i=false):Rf.cQ n l=false:=by
 unfold Rf.cQ;rw [show (List.range l.length).all (Rf.iV n l)=false from List.all_eq_false.2 ⟨i,List.mem_range.2 hi,by rw [h];decide⟩];rfl
theorem Rf.DY {n:Nat} {l:List Int} (h:∀ i,i<l.length->Rf.iV n l i=true):Rf.cQ n l=decide (0<l.length):=by
 unfold Rf.cQ;rw [List.all_eq_true.2 λi hi=>h i (List.mem_range.1 hi),Bool.true_and]
theorem Am (u:Int) (fg fc fl ff fx fr fn fv:Hd) (oa:Option Addr) (n c:Nat) (l:List Int) (B:Nat) (w:World) (h:Rows 1 bn B w (.slice oa n c) l) :
  Calls Tryz.prog 106 #[.agg (af u fg fc fl ff fx fr fn fv),.slice oa n c] w λe w'=>e=.returned (.bool (Rf.cQ fg.n l))/\Mod [] w w':=by
 obtain ⟨_,_,he,hml⟩:=h.form;obtain rfl:n=l.length:=by cases he;rfl
 clear he;have HML:=Hi (show l.length<=9223372036854775807 from hml);have T:=Hi (own1 w (af u fg fc fl ff fx fr fn fv) 32);have HR:=Hi (λW (m:Mod [] w W)=>h.mod bn.stay m);clear h hml;obtain ⟨D,hD⟩:∃ D,Rf.cQ fg.n l=D:=⟨_,rfl⟩
 rw [hD];have HD:=Hi hD;clear hD;unfold af at T ⊢;obtain ⟨ga,gn,gc⟩:=fg;simp only at T HD ⊢;go_enter Tryz.func106,Tryz.ntmps106;go_upto_block 0 with fail;generalize w.alloc _=w1 at *
 generalize w.heap.size=fb at *
 go_wp2_with fail
 go_loopg [5] l.length (λgk v wr=>∃ i:Nat,v=.int .i64 (i:Int)/\Hy (i+gk=l.length)/\Hy (Own w wr [(fb,#[.int .i64 u,.slice ga gn gc,.slice fc.a fc.n fc.c,.slice fl.a fl.n fl.c,.slice ff.a ff.n ff.c,.slice fx.a fx.n fx.c,.slice fr.a fr.n fr.c,.slice fn.a fn.n fn.c,.slice fv.a fv.n fv.c],32)])/\Hy (∀ j,j<i->Rf.iV gn l j=true))
 case atStart=>exact ⟨0,rfl,by show 0+l.length=l.length;omega,T.o,λj hj=>by omega⟩
 case round =>
  obtain ⟨i,rfl,hi,HT,HE⟩:=hrel;clear T
  by_cases hin:i<l.length
  case neg =>
   obtain rfl:i=l.length:=by have:=hi.o;omega
   have k1:=dF (p:=(l.length:Int)<l.length) zo;have hF:=HD.o;rw [Rf.DY HE.o] at hF;obtain ⟨b,hb⟩:=bits (0<l.length);have hb2:decide ((0:Int)<l.length)=b:=by rw [<- hb];exact decide_eq_decide.2 zo
   obtain rfl:b=D:=by rw [<- hb];exact hF
   clear hF hin hi HE HD;go_wp2;go_ret;exact ⟨rfl,HT.o.mod⟩
  have k1:=dT (p:=(i:Int)<l.length) zo;have k2:(0:Int)<=i:=zo;have k3:(i:Int)<l.length:=zo;have k4:=dT (p:=i<l.length) hin;have ei:IntKind.i64.wrap ((i:Int)+1)=(i:Int)+1:=IntWalk.i64_in _ zqh;obtain ⟨a,rfl,-⟩:=(HR.o wr HT.o.mod).at i hin;obtain ⟨x,hx⟩:∃ x,l[i]=x:=⟨_,rfl⟩
  have hxd:l.getD i 0=x:=by rw [List.getD_eq_getElem?_getD,gE hin,Option.getD_some,hx]
  have A0:∀ W,Mod [] wr W->W.cell? (a.add i)=some (.int .i64 x):=λW m=>by rw [<- hx];exact gB (HR.o wr HT.o.mod) i hin W m
  have A1:=(HT.o.at 0 rfl).every;have HXD:=Hi (And.intro hxd hin);clear hx hxd hin
  by_cases h1:x<0
  case pos =>
   have z1:=dT (p:=x<(0:Int)) h1;obtain rfl:false=D:=by rw [<- HD.o];exact (Rf.rr HXD.o.2 (by unfold Rf.iV;rw [HXD.o.1,dF zo];rfl)).symm
   clear h1 HD HE hi;go_upto_region 4 with fail;refine ak 31 [true,true,true,true,true,true,true,true,true,true,true,true,true,true,true,true,true,true,true,true,true,true,true,true,true,true,true,true,true,true,true] [] zt zt zk ?_;simp only [aQ]
   iterate 6
    refine sv ?_
   iterate 8 refine su ?_
   iterate 2
    refine sv ?_
   iterate 14 refine su ?_
   refine sv ?_;refine au ?_;refine aB (λw' hw' _=>?_);simp only [qS,qZ];go_wp2;go_ret;exact ⟨rfl,HT.o.mod.then hw'⟩
  have z1:=dF (p:=x<(0:Int)) h1
  by_cases h2:(gn:Int)<=x
  case pos =>
   have z2:=dT (p:=(gn:Int)<=x) h2;obtain rfl:false=D:=by rw [<- HD.o];exact (Rf.rr HXD.o.2 (by unfold Rf.iV;rw [HXD.o.1,dF (p:=x<(gn:Int)) zo,Bool.and_false,Bool.false_and])).symm
   clear h1 h2 HD HE hi;go_upto_region 4 with fail;refine ak 31 [true,true,true,true,true,true,true,true,true,true,true,true,true,true,true,true,true,true,true,true,true,true,true,true,true,true,true,true,true,true,true] [] zt zt zk ?_;simp only [aQ]
   iterate 16
    refine sv ?_
   iterate 14 refine su ?_
   refine sv ?_;refine au ?_;refine aB (λw' hw' _=>?_);simp only [qS,qZ];go_wp2;go_ret;exact ⟨rfl,HT.o.mod.then hw'⟩
  have z2:=dF (p:=(gn:Int)<=x) h2
  by_cases h3:i=0
  case pos =>
   have z3:=dF (p:=(0:Int)<i) zo;have z4:=dF (p:=0<i) zo;have HE2:Hy (∀ j,j<i+1->Rf.iV gn l j=true):=λj hj=>by
    by_cases hji:j<i
    ·exact HE.o j hji
    ·obtain rfl:j=i:=zo;unfold Rf.iV;rw [HXD.o.1,dT zo,dT zo,h3];rfl
   have HI:=Hi (And.intro HXD.o.2 hi.o);clear h1 h2 h3 HE hi;go_upto_region 4 with fail;refine ak 31 [true,true,true,true,true,true,true,true,true,true,true,true,true,true,true,true,true,true,true,true,true,true,true,true,true,true,true,true,true,true,true] [] zt zt zk ?_;simp only [aQ]
   iterate 19
    refine sv ?_
   iterate 10 refine su ?_
   iterate 2
    refine sv ?_
   refine au ?_;refine aB (λw' hw' _=>?_);simp only [qS,qZ];go_wp2;go_roundg (gk - 1)
   case measure=>have:=HI.o;omega
   case rel=>exact ⟨i+1,by rw [Int.natCast_add];rfl,by have:=HI.o;show i+1+(gk - 1)=l.length;omega,HT.o.call hw',HE2.o⟩
  obtain ⟨m,hm⟩:∃ m,m+1=i:=⟨i - 1,by omega⟩
  have hml:m<l.length:=by have:=HXD.o.2;omega
  obtain ⟨y,hy⟩:∃ y,l[m]=y:=⟨_,rfl⟩
  have hyd:l.getD (i - 1) 0=y:=by rw [show i - 1=m by omega,List.getD_eq_getElem?_getD,gE hml,Option.getD_some,hy]
  have A2:∀ W,Mod [] wr W->W.cell? (a.add m)=some (.int .i64 y):=λW k=>by rw [<- hy];exact gB (HR.o wr HT.o.mod) m hml W k
  have z3:=dT (p:=(0:Int)<i) zo;have z4:=dT (p:=0<i) zo;have eS:IntKind.i64.wrap ((i:Int) - 1)=(m:Int):=by rw [show (i:Int) - 1=(m:Int) by omega];exact IntWalk.i64_in _ zqh
  have k5:(0:Int)<=m:=zo;have k6:(m:Int)<l.length:=zo;have HY:=Hi (And.intro hyd hm);clear hy hyd hm hml
  by_cases h4:x<=y
  case pos =>
   have z5:=dT (p:=x<=y) h4;obtain rfl:false=D:=by rw [<- HD.o];exact (Rf.rr HXD.o.2 (by unfold Rf.iV;rw [HXD.o.1,HY.o.1,dF (p:=y<x) zo,show (i == 0)=false by simpa using h3,Bool.or_false,Bool.and_false])).symm
   clear h1 h2 h3 h4 HD HE hi;go_upto_region 4 with fail;refine ak 31 [true,true,true,true,true,true,true,true,true,true,true,true,true,true,true,true,true,true,true,true,true,true,true,true,true,true,true,true,true,true,true] [] zt zt zk ?_;simp only [aQ]
   iterate 31
    refine sv ?_
   refine au ?_;refine aB (λw' hw' _=>?_);simp only [qS,qZ];go_wp2;go_ret;exact ⟨rfl,HT.o.mod.then hw'⟩
  have z5:=dF (p:=x<=y) h4;have HE2:Hy (∀ j,j<i+1->Rf.iV gn l j=true):=λj hj=>by
   by_cases hji:j<i
   ·exact HE.o j hji
   ·obtain rfl:j=i:=zo;unfold Rf.iV;rw [HXD.o.1,HY.o.1,dT (p:=y<x) zo,dT zo,dT zo,Bool.or_true];rfl
  have HI:=Hi (And.intro HXD.o.2 hi.o);clear h1 h2 h3 h4 HE hi;go_upto_region 4 with fail;refine ak 31 [true,true,true,true,true,true,true,true,true,true,true,true,true,true,true,true,true,true,true,true,true,true,true,true,true,true,true,true,true,true,true] [] zt zt zk ?_;simp only [aQ]
  iterate 31
   refine sv ?_
  refine au ?_;refine aB (λw' hw' _=>?_);simp only [qS,qZ];go_wp2;go_roundg (gk - 1)
  case measure=>have:=HI.o;omega
  case rel=>exact ⟨i+1,by rw [Int.natCast_add];rfl,by have:=HI.o;show i+1+(gk - 1)=l.length;omega,HT.o.call hw',HE2.o⟩
theorem Ck.oU:∀ (l:List Int),Ck.rising l=true↔∀ i,i+1<l.length->l.getD i 0<l.getD (i+1) 0
 | []=>by simp [Ck.rising]
 | [a]=>by simp [Ck.rising]
 | a::b::l=>by
  unfold Ck.rising;rw [Bool.and_eq_true,decide_eq_true_eq,Ck.oU (b::l)];constructor
  ·rintro ⟨h1,h2⟩ i hi;cases i with
   | zero=>exact h1
   | succ i=>exact h2 i zql
  ·intro h;exact ⟨h 0 zk,λi hi=>h (i+1) zql⟩
theorem Ck.lZ {l:List Int} (h:∀ i,i+1<l.length->l.getD i 0<l.getD (i+1) 0) (i:Nat):∀ k,i+k<l.length->l.getD i 0<=l.getD (i+k) 0
 | 0,_=>Int.le_refl _
 | k+1,hk=>by
  have h1:=Ck.lZ h i k zo;have h2:=h (i+k) zo;rw [show i+(k+1)=i+k+1 by omega];omega
theorem Rf.DR (n:Nat) (l:List Int):Rf.cQ n l=Ck.cQ n l:=by
 unfold Rf.cQ Ck.cQ Ck.bo;rw [Bool.eq_iff_iff];simp only [Bool.and_eq_true,decide_eq_true_eq,List.all_eq_true,List.mem_range,Rf.iV,Bool.or_eq_true,beq_iff_eq,Ck.oU];constructor
 ·rintro ⟨h,h0⟩;refine ⟨⟨⟨h0,λi hi=>?_⟩,(h 0 h0).1⟩,(h (l.length - 1) zo).1⟩;rcases (h (i+1) hi).2 with h1 | h1
  ·omega
  ·exact h1
 ·rintro ⟨⟨⟨h0,h1⟩,h2,h3⟩,h4,h5⟩;refine ⟨λi hi=>⟨⟨?_,?_⟩,?_⟩,h0⟩
  ·have:=Ck.lZ h1 0 i zo;rw [Nat.zero_add] at this;omega
  ·have:=Ck.lZ h1 i (l.length - 1 - i) zo;rw [show i+(l.length - 1 - i)=l.length - 1 by omega] at this;omega
  ·by_cases hz:i=0
   ·exact .inl hz
   ·have:=h1 (i - 1) zo;rw [show i - 1+1=i by omega] at this;exact .inr this
theorem one_set:pR aM:=by
 rintro S w cs x ⟨v,rfl,h⟩ u hu;obtain ⟨o,c,rfl,-⟩:=h.form;rw [mI.1 hu];rfl
theorem fq {k:Nat} {α:Type} {R:Nat->World->List Value->α->Prop} {R':Bl->World->List Value->α->Prop} (hk:0<k) (hW:bW R') (hN:zG R R') {B:Nat} {w:World} {v:Value} {l:List α} (h:Rows k R B w v l):az k R' (λb=>b<w.heap.size) w v l :=
 (h.new hN).weak hk hW λb hb _=>hb
theorem yf (u:Int) (fg fc fl ff fx fr fn fv:Hd) (cs:List Value) (r:aN) (B:Nat) (w:World) (h:dW B w cs r) (k0:r.back.length<=6) (k1:r.ins.length<=6) (k2:r.ahead.length<=6) :
  Calls Tryz.prog 43 #[.agg (af u fg fc fl ff fx fr fn fv),.agg cs.toArray] w λe w'=>e=.returned (.int .i64 (Ck.each (λ_ l=>Ck.when (!Ck.cQ fg.n l) 41) (r.back++r.ins++r.ahead)).1)/\Mod [] w w':=by
 obtain ⟨v0,v1,v2,v3,v4,rfl,h0,h1,h2,-⟩:=h;obtain ⟨o0,d0,rfl,-⟩:=h0.form;obtain ⟨o1,d1,rfl,-⟩:=h1.form;obtain ⟨o2,d2,rfl,-⟩:=h2.form;obtain ⟨back,ins,ahead,out,calls,x⟩:=r;simp only at h0 h1 h2 k0 k1 k2 ⊢;have T:=Hi (own2 w (af u fg fc fl ff fx fr fn fv) 32 #[.slice o0 back.length d0,.slice o1 ins.length d1,.slice o2 ahead.length d2,v3,v4,.int .i64 x] 54);have H0:=Hi (λW (k:Mod [] w W)=>fq zd aM.weak aM.new (h0.mod eW.stay k));have H1:=Hi (λW (k:Mod [] w W)=>fq zd aM.weak aM.new (h1.mod eW.stay k));have H2:=Hi (λW (k:Mod [] w W)=>fq zd aM.weak aM.new (h2.mod eW.stay k));have HK:=Hi (And.intro k0 (And.intro k1 k2));obtain ⟨D,hD⟩:∃ D,(Ck.each (λ_ l=>Ck.when (!Ck.cQ fg.n l) 41) (back++ins++ahead)).1=D:=⟨_,rfl⟩
 rw [hD];have HD:Hy ((Ck.bz (λ_ l=>Ck.when (!Ck.cQ fg.n l) 41) 0 ((back++ins++ahead).drop 0)).1=D):=hD;have CS:=Hi (λoa n c (l:List Int) W (hl:Rows 1 bn 0 W (.slice oa n c) l)=>Am u fg fc fl ff fx fr fn fv oa n c l 0 W hl);clear hD h0 h1 h2 k0 k1 k2;unfold af at T CS ⊢;obtain ⟨ga,gn,gc⟩:=fg;simp only at T CS HD ⊢;go_enter Tryz.func43,Tryz.ntmps43;go_upto_region 1 with fail;generalize (w.alloc _).alloc _=wr at *
 generalize w.heap.size=fb at *
 have A1:=(T.o.at 1 rfl).every;have G0:=Hi (λW (k:Mod [] wr W)=>H0.o W (T.o.mod.then k));have G1:=Hi (λW (k:Mod [] wr W)=>H1.o W (T.o.mod.then k));have G2:=Hi (λW (k:Mod [] wr W)=>H2.o W (T.o.mod.then k));obtain ⟨ii0,ii,iz0,iz1,iz2⟩:=info_parts j0
 have HM:=Hi (show back.length<=maxLen/\back.length*24<=140737488355328/\back.length+ins.length<=maxLen/\(back.length+ins.length)*24<=140737488355328/\(back++ins).length+ahead.length<=maxLen/\((back++ins).length+ahead.length)*24<=140737488355328 by
  have:=HK.o;simp only [List.length_append];unfold maxLen;omega)
 have hcv:∀ {v:Value} {l:List (List Int)} {W W':World},aH wr.heap.size 22 1 aM (λb=>b<wr.heap.size) v l W->∀ cs y,aM (λb=>b<wr.heap.size) W cs y->aM (λb=>b<wr.heap.size/\v.ownBlock≠some b) W cs y:=λhG cs y hy=>aM.weak _ _ _ _ _ hy λb _ hb=>⟨hb,λe=>by have:=(hG.lt b e).1;omega⟩
 have HCV:=Hi (λ(v:Value) (l:List (List Int)) (W:World) (hG:aH wr.heap.size 22 1 aM (λb=>b<wr.heap.size) v l W)=>hcv (W':=W) hG);have G0':=Hi (λW (k:Mod [] wr W)=>(G0.o wr mR).mod aM.stay k);have G1':=Hi (λW (k:Mod [] wr W)=>(G1.o wr mR).mod aM.stay k);have G2':=Hi (λW (k:Mod [] wr W)=>(G2.o wr mR).mod aM.stay k);clear hcv G0 G1 G2 H0 H1 H2;refine Sn.aL (I:=Mod [] wr) (F0:=(λ_=>True)) (λ_ _ h k=>h.then k) 10 [(1,none),(2,none),(4,none),(5,none),(7,none),(8,none),(0,some ((λv _ w=>kX wr.heap.size 22 0 #[] v w))),(3,some ((λv _ w=>im wr.heap.size 22 1 aM (λb=>b<wr.heap.size) back back.length v w))),(6,some ((λv _ w=>im wr.heap.size 22 1 aM (λb=>b<wr.heap.size) (back++ins) (back++ins).length v w))),(9,some ((λv _ w=>im wr.heap.size 22 1 aM (λb=>b<wr.heap.size) (back++ins++ahead) (back++ins++ahead).length v w)))] zt zt (Sq.aW zt) ?hTS57 ((Mod.refl [] wr).drew) (λ_ _ _ _=>trivial) trivial ?mainS57
 case hTS57 =>
  intro p hp T hT v F9 hF9;simp only [List.mem_cons,List.not_mem_nil,or_false] at hp;rcases hp with rfl | rfl | rfl | rfl | rfl | rfl | rfl | rfl | rfl | rfl <;> first | (cases hT;done) | (cases hT;first | exact im.stays aM.stay v | exact kX.stays v)
 iterate 6 refine Sn.vv (w0:=wr.drew) ((Mod.refl [] wr).drew) ?_
 refine Sn.kV (g:=?_) 8 _ rfl zt rfl (λv=>by simp only [List.set_cons_succ,List.set_cons_zero];exact rfl) (λw' hw' hF K Q hK=>?_) (λkv hkv=>?_)
 ·go_wp2;exact hK _ _ (hw'.alloc _) ⟨_,rfl,Blk.new _ _ _,hw'.size⟩
 obtain ⟨w9',h9,b9,rfl,h91,hb9⟩:=hkv;clear h91 h9 w9';refine Sn.kV (g:=?_) 11 _ rfl zt rfl (λv=>by simp only [List.set_cons_succ,List.set_cons_zero];exact rfl) (λw' hw' hF K Q hK=>?_) (λkv hkv=>?_)
 ·obtain ⟨b8,he8,hB,_⟩:=hF;cases he8;refine qA (base:=wr.heap.size) (k:=1) (e:=22) (S:=λb=>b<wr.heap.size) (l':=back) rfl _ _ rfl Tryz.underlying49 ii iz0 iz1 iz2 rfl zd aM.stay aM.weak one_set b9 rfl rfl (G0'.o w' hw') (λcs y h=>aM.weak _ _ _ _ _ h λb _ hb=>⟨hb,by simp [Value.ownBlock]⟩) HM.o.1 HM.o.2.1 hw'.size (λv' w'' hcp m=>?_);have hgr:=hcp.grow hb9 (hB.kept m zk);exact hK _ _ (hw'.then m) ⟨hgr.form,hgr⟩
 obtain ⟨w9',h9,⟨oh,ch,rfl⟩,h91⟩:=hkv;clear h91 h9 w9';refine Sn.kV (g:=?_) 14 _ rfl zt rfl (λv=>by simp only [List.set_cons_succ,List.set_cons_zero];exact rfl) (λw' hw' hF K Q hK=>?_) (λkv hkv=>?_)
 ·refine sU (base:=wr.heap.size) (v:=.slice oh back.length ch) (l:=back) (l':=ins) rfl _ _ rfl Tryz.underlying49 ii iz0 iz1 iz2 rfl zd aM.stay aM.weak one_set rfl hF.2 rfl (G1'.o w' hw') (HCV.o _ _ _ hF.2) HM.o.2.2.1 HM.o.2.2.2.1 hw'.size (λv' w'' hG hg hbk=>?_);exact hK _ _ (hw'.grew hg λb hb=>(hF.2.lt b hb).1) ⟨hG.form,hG⟩
 obtain ⟨w9',h9,⟨oi,ci,rfl⟩,h91⟩:=hkv;clear h91 h9 w9';refine Sn.kV (g:=?_) 17 _ rfl zt rfl (λv=>by simp only [List.set_cons_succ,List.set_cons_zero];exact rfl) (λw' hw' hF K Q hK=>?_) (λkv hkv=>?_)
 ·refine sU (base:=wr.heap.size) (v:=.slice oi (back++ins).length ci) (l:=back++ins) (l':=ahead) rfl _ _ rfl Tryz.underlying49 ii iz0 iz1 iz2 rfl zd aM.stay aM.weak one_set rfl hF.2 rfl (G2'.o w' hw') (HCV.o _ _ _ hF.2) HM.o.2.2.2.2.1 HM.o.2.2.2.2.2 hw'.size (λv' w'' hG hg hbk=>?_);exact hK _ _ (hw'.grew hg λb hb=>(hF.2.lt b hb).1) ⟨hG.form,hG⟩
 obtain ⟨w9',h9,⟨oj,cj,rfl⟩,h91⟩:=hkv;clear h91 h9 w9';refine Sn.bJ ?_;intro w' hw' hF;simp only [qS,qZ];have hA:=(hF.2.done (S':=λ_=>True) zd aM.weak (λ_ _ _=>trivial) (λ_ _=>trivial)).old (B:=0) zd aM.old (λ_ _ _=>Nat.zero_le _);have HA:=Hi (λW (k:Mod [] w' W)=>hA.mod eW.stay k);have HT2:=Hi (T.o.call hw');have HLL:=Hi (show (back++ins++ahead).length<=18 by have:=HK.o;simp only [List.length_append];omega);clear hA hF hw' hb9 A1 G0' G1' G2' HCV HM HK T;generalize wr=wo at *
 generalize back++ins++ahead=L at *
 generalize (back++ins).length=n1 at *
 go_wp2_with fail
 go_loopg [6] L.length (λgk v wx=>∃ i:Nat,v=.int .i64 (i:Int)/\Hy (i+gk=L.length)/\Hy (Mod [] w' wx)/\Hy ((Ck.bz (λ_ l=>Ck.when (!Ck.cQ gn l) 41) i (L.drop i)).1=D))
 case atStart=>exact ⟨0,rfl,by show 0+L.length=L.length;omega,mR,HD.o⟩
 case round =>
  obtain ⟨i,rfl,hi,HM,HE⟩:=hrel;clear HD
  by_cases hin:i<L.length
  case neg =>
   obtain rfl:i=L.length:=by have:=hi.o;omega
   have k1:=Rf.lz L.length;have hE:=HE.o;rw [Ck.dH] at hE;have HE2:=Hi hE;clear hE hin hi;go_wp2;go_ret;rw [<- HE2.o];exact ⟨rfl,(HT2.o.call HM.o).mod⟩
  obtain ⟨k1,k2,k3,k4,ei⟩:=Rf.lf hin (by have:=HLL.o;omega);have HI:=Hi (And.intro (Rf.ms hi hin) (Rf.nx hi hin));obtain ⟨b,hb⟩:∃ b,Ck.cQ gn L[i]=b:=⟨_,rfl⟩
  have HN1:=Hi (λh:Ck.when (!Ck.cQ gn L[i]) 41≠0=>(congrArg (·.1) (Ck.dt (f:=λ_ l=>Ck.when (!Ck.cQ gn l) 41) hin h)).symm.trans HE.o);have HN2:=Hi (λh:Ck.when (!Ck.cQ gn L[i]) 41=0=>(congrArg (·.1) (Ck.dZ (f:=λ_ l=>Ck.when (!Ck.cQ gn l) 41) hin h)).symm.trans HE.o);obtain ⟨a,rfl,-,cs,-,hc0,-,v,rfl,hv⟩:=(HA.o wr HM.o).at i hin;obtain ⟨o,c,rfl,-⟩:=hv.form;have c0:=hc0 zd;simp only [gZ,Nat.mul_one] at c0;have A0:=λW (k:Mod [] wr W)=>aj k c0
  have A1:=((HT2.o.call HM.o).at 0 rfl).every;have C:=Hi (λW (k:Mod [] wr W)=>CS.o _ _ _ _ W ((hv.mod bn.stay k).lower bn.lower (Nat.zero_le _)));rw [hb] at HN1 HN2;rw [Rf.DR,hb] at C;generalize L[i]=x at *
  clear hc0 c0 hv hi hin hb HE;go_upto_region 5 with fail;refine ak 6 [true,true,true,true,true,true] [] zt zt zk ?_;simp only [aQ]
  iterate 5
   refine sv ?_
  refine sk (C.o) ?_;refine au ?_;refine aB (λw'' hw'' _=>?_);simp only [qS,qZ];have HM2:=Hi (HM.o.then hw'');clear A0 A1 C hw'';cases b
  case false =>
   have HX:=Hi (HN1.o zd);clear HN1 HN2;go_wp2;go_ret;rw [<- HX.o];exact ⟨rfl,(HT2.o.call HM2.o).mod⟩
  have HX:=Hi (HN2.o rfl);clear HN1 HN2;go_wp2;go_roundg (gk - 1)
  case measure=>exact HI.o.1
  case rel=>exact ⟨i+1,by rw [Int.natCast_add];rfl,HI.o.2,HM2.o,HX.o⟩
def Rf.outs4 (kind x:Int):Int:=(Ck.first [(Ck.when (!Ck.may x) 1,0),(Ck.when (x != 0 && kind != 6) 40,0)]).1
def Rf.outs3 (lk:List ar) (kind:Int) (r:aN):Int:=if Ck.calls lk kind r=0 then Rf.outs4 kind r.x else Ck.calls lk kind r
def Rf.outs2 (n:Nat) (lk:List ar) (kind:Int) (r:aN):Int:=if (Ck.each (λ_ g=>Ck.when (!Ck.bo n g) 32) r.o).1=0 then Rf.outs3 lk kind r else (Ck.each (λ_ g=>Ck.when (!Ck.bo n g) 32) r.o).1
def Rf.outs (n:Nat) (lk:List ar) (kind:Int) (r:aN):Int:=if Ck.cP kind r=true then Rf.outs2 n lk kind r else 40
theorem Rf.yB (kind:Int) (r:aN):(!Ck.cP kind r)=if kind=1∨kind=5 then (r.o.length != (r.ins.getD 0 []).length) else if kind=2 then decide (6<r.o.length) else if kind=3 then r.o.length != 1 else decide (0<r.o.length):=by
 unfold Ck.cP
 split
 ·rfl
 split
 ·rw [Bool.eq_iff_iff];simp
 split
 ·rfl
 ·cases r.o <;> simp
theorem yl (u:Int) (fg fc fl ff fx fr fn fv:Hd) (kind:Int) (cs:List Value) (r:aN) (lk:List ar) (w:World) (h:dW 0 w cs r) (hlk:Rows 3 aJ 0 w (.slice fl.a fl.n fl.c) lk) (hin:0<r.ins.length) :
  Calls Tryz.prog 44 #[.agg (af u fg fc fl ff fx fr fn fv),.int .i64 kind,.agg cs.toArray] w λe w'=>e=.returned (.int .i64 (Rf.outs fg.n lk kind r))/\Mod [] w w':=by
 obtain ⟨v0,v1,v2,v3,v4,rfl,h0,h1,h2,h3,h4,h5⟩:=h;obtain ⟨o1,d1,rfl,l1⟩:=h1.form;obtain ⟨o3,d3,rfl,l3⟩:=h3.form;obtain ⟨o4,d4,rfl,l4⟩:=h4.form;obtain ⟨la,ln,lc⟩:=fl;obtain ⟨_,_,hq,-⟩:=hlk.form;obtain rfl:ln=lk.length:=by cases hq;rfl
 clear hq;obtain ⟨back,ins,ahead,out,calls,x⟩:=r;simp only at h0 h1 h2 h3 h4 h5 hin l1 l3 l4 ⊢;obtain ⟨D,hD⟩:∃ D,Rf.outs fg.n lk kind ⟨back,ins,ahead,out,calls,x⟩=D:=⟨_,rfl⟩
 rw [hD];have HD:=Hi hD;obtain ⟨b,hb⟩:∃ b,(!Ck.cP kind ⟨back,ins,ahead,out,calls,x⟩)=b:=⟨_,rfl⟩
 have HB:=Hi hb;rw [Rf.yB] at hb;simp only at hb;have HW:=Hi hb;have T:=Hi (own2 w (af u fg fc ⟨la,lk.length,lc⟩ ff fx fr fn fv) 32 #[v0,.slice o1 ins.length d1,v2,.slice o3 out.length d3,.slice o4 calls.length d4,.int .i64 x] 54);have HLK:=Hi (λW (k:Mod [] w W)=>hlk.mod aJ.stay k);have H1:=Hi (λW (k:Mod [] w W)=>h1.mod eW.stay k);have H3:=Hi (λW (k:Mod [] w W)=>h3.mod bn.stay k);have H4:=Hi (λW (k:Mod [] w W)=>h4.mod iC.stay k);have HL3:=Hi (show out.length<=9223372036854775807 from l3);have HIN:=Hi hin;clear hD hb h0 h1 h2 h3 h4 h5 hlk hin l1 l3 l4;unfold af at T ⊢;obtain ⟨ga,gn,gc⟩:=fg;simp only at T HD ⊢;obtain ⟨z0,hz0⟩:∃ z,decide ((0:Int)<out.length)=z:=⟨_,rfl⟩
 have hz1:decide (0<out.length)=z0:=by rw [<- hz0];exact decide_eq_decide.2 zo
 go_enter Tryz.func44,Tryz.ntmps44;go_upto_region 1 with fail;generalize (w.alloc _).alloc _=W0 at *
 generalize w.heap.size=fb at *
 have c1:=(T.o.at 1 rfl).cell 1;have c3:=(T.o.at 1 rfl).cell 3;simp only [gA,gZ,gS] at c1 c3;go_upto_block 0 with fail
 go_cut [8] from 18 to 36 (λv wx=>v=.bool b/\wx=W0)
 case first =>
  have hb:=HW.o
  by_cases q:kind=1∨kind=5
  ·have hl:=HIN.o;have e0:ins.getD 0 []=ins[0]:=by rw [List.getD_eq_getElem?_getD,gE hl];rfl
   rw [if_pos q,e0] at hb;have k6:(0:Int)<ins.length:=zo;obtain ⟨a,rfl,o,c,A0⟩:=sG (H1.o W0 T.o.mod) 0 hl;have c9:=(congrArg (World.cell? W0) (show a.add 0=a by simp [Addr.add])).symm.trans (A0 W0 mR);generalize ins[0]=s at *
   have e1:((out.length:Int) != (s.length:Int))=b:=by rw [<- hb];unfold bne;rw [beqn]
   have e2:(out.length != s.length)=b:=hb;clear hb hl e0 A0;rcases q with rfl | rfl <;> (go_wp2;go_meet;exact ⟨rfl,rfl⟩)
  rw [if_neg q] at hb;obtain ⟨y1,y2,y3⟩:=Rf.eqb (x:=kind) (y:=1) zo;obtain ⟨y4,y5,y6⟩:=Rf.eqb (x:=kind) (y:=5) zo
  by_cases q2:kind=2
  ·rw [if_pos q2] at hb;subst q2;have e1:decide ((6:Int)<out.length)=b:=by rw [<- hb];exact decide_eq_decide.2 zo
   clear hb q y1 y2 y3 y4 y5 y6;go_wp2;go_meet;exact ⟨rfl,rfl⟩
  rw [if_neg q2] at hb;obtain ⟨y7,y8,y9⟩:=Rf.eqb q2
  by_cases q3:kind=3
  ·rw [if_pos q3] at hb;subst q3;have e1:((out.length:Int) != 1)=b:=by rw [<- hb];unfold bne;exact congrArg _ (beqn out.length 1)
   have e2:(out.length != 1)=b:=hb;clear hb q q2 y1 y2 y3 y4 y5 y6 y7 y8 y9;go_wp2;go_meet;exact ⟨rfl,rfl⟩
  rw [if_neg q3] at hb;obtain ⟨x7,x8,x9⟩:=Rf.eqb q3;obtain rfl:z0=b:=hz1.symm.trans hb;clear hb q q2 q3;go_wp2;go_meet;exact ⟨rfl,rfl⟩
 case rest =>
 obtain ⟨rfl,rfl⟩:=hcut;have c3:=(T.o.at 1 rfl).cell 3;simp only [gA,gZ,gS] at c3;have hB:=HB.o;clear HW c1 hz0 hz1 HB HIN;cases b
 case true =>
  have hD:=HD.o;unfold Rf.outs at hD;rw [if_neg (by simpa using hB)] at hD;have HX:=Hi hD;clear hD hB HD;go_wp2;go_ret;rw [<- HX.o];exact ⟨rfl,T.o.mod⟩
 have hD:=HD.o;unfold Rf.outs at hD;rw [if_pos (by simpa using hB)] at hD;have HD:=Hi hD;clear hD hB;go_wp2_with fail;clear c3
 go_loopg [9] out.length (λgk v wx=>∃ i:Nat,v=.int .i64 (i:Int)/\Hy (i+gk=out.length)/\Hy (Own w wx [(fb,#[.int .i64 u,.slice ga gn gc,.slice fc.a fc.n fc.c,.slice la lk.length lc,.slice ff.a ff.n ff.c,.slice fx.a fx.n fx.c,.slice fr.a fr.n fr.c,.slice fn.a fn.n fn.c,.slice fv.a fv.n fv.c],32),(fb+1,#[v0,.slice o1 ins.length d1,v2,.slice o3 out.length d3,.slice o4 calls.length d4,.int .i64 x],54)])/\Hy (Ck.bz (λ_ g=>Ck.when (!Ck.bo gn g) 32) i (out.drop i)=Ck.each (λ_ g=>Ck.when (!Ck.bo gn g) 32) out))
 case atStart=>exact ⟨0,rfl,by show 0+out.length=out.length;omega,T.o,rfl⟩
 case round =>
  obtain ⟨i,rfl,hi,HT,HE⟩:=hrel;clear T
  by_cases hin:i<out.length
  case pos =>
   obtain ⟨k1,k2,k3,k4,ei⟩:=Rf.lf hin HL3.o;have HI:=Hi (And.intro (Rf.ms hi hin) (Rf.nx hi hin));have HN1:=Hi (λh:Ck.when (!Ck.bo gn out[i]) 32≠0=>(Ck.dt (f:=λ_ g=>Ck.when (!Ck.bo gn g) 32) hin h).symm.trans HE.o);have HN2:=Hi (λh:Ck.when (!Ck.bo gn out[i]) 32=0=>(Ck.dZ (f:=λ_ g=>Ck.when (!Ck.bo gn g) 32) hin h).symm.trans HE.o);obtain ⟨a,rfl,-⟩:=(H3.o wr HT.o.mod).at i hin;obtain ⟨g,hg⟩:∃ g,out[i]=g:=⟨_,rfl⟩
   have A0:∀ W,Mod [] wr W->W.cell? (a.add i)=some (.int .i64 g):=λW m=>by rw [<- hg];exact gB (H3.o wr HT.o.mod) i hin W m
   have A1:=(HT.o.at 0 rfl).every;have A2:=(HT.o.at 1 rfl).every;rw [hg] at HN1 HN2
   by_cases hgl:0<=g/\g<(gn:Int)
   case pos =>
    have z1:=dF (p:=g<(0:Int)) zo;have z2:=dF (p:=(gn:Int)<=g) zo;have HX:=Hi (HN2.o (by unfold Ck.bo;rw [dT hgl.1,dT hgl.2];rfl));clear hi hin hg hgl HN1 HN2 HE;go_upto_region 16 with fail;refine ak 17 [true,true,true,true,true,true,true,true,true,true,true,true,true,true,true,true,true] [] zt zt zk ?_;simp only [aQ]
    iterate 17
     refine sv ?_
    refine au ?_;refine aB (λw' hw' _=>?_);simp only [qS,qZ];clear A0 A1 A2;go_wp2;go_roundg (gk - 1)
    case measure=>exact HI.o.1
    case rel=>exact ⟨i+1,by rw [Int.natCast_add];rfl,HI.o.2,HT.o.call hw',HX.o⟩
   have h32:Ck.when (!Ck.bo gn g) 32=32:=by unfold Ck.bo;rw [show (decide (0<=g) && decide (g<(gn:Int)))=false by simpa using hgl];rfl
   have hX:=HN1.o (by rw [h32];decide);rw [h32] at hX;have hY:=HD.o;unfold Rf.outs2 at hY;simp only at hY;rw [<- hX] at hY;have HX:=Hi (show (32:Int)=D from hY);clear hX hY h32 hi hin hg HN1 HN2 HE
   by_cases h0:g<0
   case pos =>
    have z1:=dT (p:=g<(0:Int)) h0;clear h0 hgl;go_upto_region 16 with fail;refine ak 17 [true,true,true,true,true,true,true,true,true,true,true,true,true,true,true,true,true] [] zt zt zk ?_;simp only [aQ]
    iterate 7
     refine sv ?_
    iterate 9 refine su ?_
    refine sv ?_;refine au ?_;refine aB (λw' hw' _=>?_);simp only [qS,qZ];clear A0 A1 A2;go_wp2;go_ret;rw [<- HX.o];exact ⟨rfl,(HT.o.call hw').mod⟩
   have z1:=dF (p:=g<(0:Int)) h0;have z2:=dT (p:=(gn:Int)<=g) zo;clear h0 hgl;go_upto_region 16 with fail;refine ak 17 [true,true,true,true,true,true,true,true,true,true,true,true,true,true,true,true,true] [] zt zt zk ?_;simp only [aQ]
   iterate 17
    refine sv ?_
   refine au ?_;refine aB (λw' hw' _=>?_);simp only [qS,qZ];clear A0 A1 A2;go_wp2;go_ret;rw [<- HX.o];exact ⟨rfl,(HT.o.call hw').mod⟩
  obtain rfl:i=out.length:=by have:=hi.o;omega
  have k1:=Rf.lz out.length;have hE:=HE.o;rw [Ck.dH] at hE;have hY:=HD.o;unfold Rf.outs2 at hY;simp only at hY;rw [<- hE] at hY;have HD:=Hi (show Rf.outs3 lk kind ⟨back,ins,ahead,out,calls,x⟩=D from hY);clear hE hY hi hin HE;have c4:=(HT.o.at 1 rfl).cell 4;simp only [gA,gZ,gS] at c4
  by_cases q6:6<calls.length
  case pos =>
   have z1:=dT (p:=(6:Int)<calls.length) zo;have hc:Ck.calls lk kind ⟨back,ins,ahead,out,calls,x⟩=2:=by unfold Ck.calls;rw [if_pos q6]
   have hD:=HD.o;unfold Rf.outs3 at hD;rw [hc] at hD;have HX:=Hi (show (2:Int)=D from hD);clear hc hD q6 HD;go_wp2;go_ret;rw [<- HX.o];exact ⟨rfl,HT.o.mod⟩
  have z1:=dF (p:=(6:Int)<calls.length) zo
  by_cases q0:0<calls.length/\kind≠4
  case pos =>
   have z2:=dT (p:=(0:Int)<calls.length) zo;have z3:=dT (p:=0<calls.length) q0.1;obtain ⟨y1,y2,y3⟩:=Rf.eqb q0.2;have hc:Ck.calls lk kind ⟨back,ins,ahead,out,calls,x⟩=40:=by unfold Ck.calls;rw [if_neg q6,if_pos q0]
   have hD:=HD.o;unfold Rf.outs3 at hD;rw [hc] at hD;have HX:=Hi (show (40:Int)=D from hD);clear hc hD q6 q0 HD;go_wp2;go_ret;rw [<- HX.o];exact ⟨rfl,HT.o.mod⟩
  have hc:Ck.calls lk kind ⟨back,ins,ahead,out,calls,x⟩=(Ck.each (λ_ c=>Ck.call lk ins.length c) calls).1:=by unfold Ck.calls;rw [if_neg q6,if_neg q0]
  have hD:=HD.o;unfold Rf.outs3 at hD;rw [hc] at hD;simp only at hD;have HD:=Hi hD;have HC6:=Hi (show calls.length<=6 by omega);have hq:decide ((0:Int)<calls.length)=false∨(decide ((0:Int)<calls.length)=true/\kind=4):=by
   by_cases e:0<calls.length
   ·exact .inr ⟨dT zo,by omega⟩
   ·exact .inl (dF zo)
  have hd0:decide (0<calls.length)=decide ((0:Int)<calls.length):=decide_eq_decide.2 zo;clear hc hD q6 q0;generalize wr=wo at *
  rcases hq with z2 | ⟨z2,hk4⟩
  case' inr =>
   have y0:(kind != 4)=false:=by simp [hk4]
   have y9:=dT (p:=kind=4) hk4;clear hk4
  all_goals
   rw [z2] at hd0
   go_wp2_with fail
   clear z2 hd0 c4
   go_loopg [10] calls.length (λgk v wx=>∃ j:Nat,v=.int .i64 (j:Int)/\Hy (j+gk=calls.length)/\Hy (Own w wx [(fb,#[.int .i64 u,.slice ga gn gc,.slice fc.a fc.n fc.c,.slice la lk.length lc,.slice ff.a ff.n ff.c,.slice fx.a fx.n fx.c,.slice fr.a fr.n fr.c,.slice fn.a fn.n fn.c,.slice fv.a fv.n fv.c],32),(fb+1,#[v0,.slice o1 ins.length d1,v2,.slice o3 out.length d3,.slice o4 calls.length d4,.int .i64 x],54)])/\Hy (Ck.bz (λ_ c=>Ck.call lk ins.length c) j (calls.drop j)=Ck.each (λ_ c=>Ck.call lk ins.length c) calls))
   case atStart=>exact ⟨0,rfl,by show 0+calls.length=calls.length;omega,HT.o,rfl⟩
   case round =>
    obtain ⟨j,rfl,hj,HJ,HE⟩:=hrel;clear HT;have c4:=(HJ.o.at 1 rfl).cell 4;simp only [gA,gZ,gS] at c4
    by_cases hjn:j<calls.length
    case neg =>
     obtain rfl:j=calls.length:=by have:=hj.o;omega
     have k2:=Rf.lz calls.length;have hE:=HE.o;rw [Ck.dH] at hE;have hD:=HD.o;rw [<- hE] at hD;have HD:=Hi (show Rf.outs4 kind x=D from hD);have c5:=(HJ.o.at 1 rfl).cell 5;simp only [gA,gZ,gS] at c5;clear hE hD hj hjn HE;go_wp2_with fail;refine (eh _ _).mono ?_;rintro e w2 ⟨rfl,rfl⟩;have hD:=HD.o;unfold Rf.outs4 Ck.when at hD;rcases hm:Ck.may x with _ | _
     ·rw [hm] at hD;have HX:=Hi (show (1:Int)=D from hD);clear hD hm;go_wp2;go_ret;rw [<- HX.o];exact ⟨rfl,HJ.o.mod⟩
     rw [hm] at hD;clear hm
     by_cases hx:x=0
     ·subst hx;have HX:=Hi (show (0:Int)=D from hD);clear hD;go_wp2;go_ret;rw [<- HX.o];exact ⟨rfl,HJ.o.mod⟩
     obtain ⟨x1,x2,x3⟩:=Rf.eqb hx
     by_cases hk:kind=6
     ·have x4:(kind != 6)=false:=by simp [hk]
      have x5:=dT (p:=kind=6) hk;rw [x2,x4] at hD;have HX:=Hi (show (0:Int)=D from hD);clear hD hk hx;go_wp2;go_ret;rw [<- HX.o];exact ⟨rfl,HJ.o.mod⟩
     obtain ⟨x4,x5,x6⟩:=Rf.eqb hk;rw [x2,x5] at hD;have HX:=Hi (show (40:Int)=D from hD);clear hD hk hx;go_wp2;go_ret;rw [<- HX.o];exact ⟨rfl,HJ.o.mod⟩
    obtain ⟨k2,k3,k4,k5,ej⟩:=Rf.lf hjn (by have:=HC6.o;omega);have HI:=Hi (And.intro (Rf.ms hj hjn) (Rf.nx hj hjn));have HN2:=Hi (λh:Ck.call lk ins.length calls[j]=0=>(Ck.dZ (f:=λ_ c=>Ck.call lk ins.length c) hjn h).symm.trans HE.o);have HN1:Hy (∀ e,Ck.call lk ins.length calls[j]=e->e≠0->e=D):=λe he h0=>by
     have h1:=(Ck.dt (f:=λ_ c=>Ck.call lk ins.length c) hjn (by rw [he];exact h0)).symm.trans HE.o;have h2:=HD.o;rw [<- h1,if_neg (show ¬ Ck.call lk ins.length calls[j]=0 by rw [he];exact h0)] at h2;rw [<- he];exact h2
    obtain ⟨a,rfl,-,cs,-,hc0,hcj,rfl,-⟩:=(H4.o wr HJ.o.mod).at j hjn;generalize calls[j]=cl at *
    have c0:=hc0 zd;have c1:=hcj 1 zd zd;simp only [gZ,gS] at c0 c1;obtain ⟨ps,lq⟩:=cl;simp only at c0 c1;clear hc0 hcj hj hjn HE;go_upto_region 26 with fail;have HT2:=Hi (HJ.o.alloc #[.int .i64 ps,.int .i64 lq] 51);have HTN:=Hi HT2.o.front;clear c0 c1 c4 HJ;generalize wr.alloc _=W1 at *
    generalize wr.heap.size=pb at *
    have e0:=(HT2.o.at 2 rfl).cell 0;have e1:=(HT2.o.at 2 rfl).cell 1;have em:=(HT2.o.at 1 rfl).cell 1;have en:=(HT2.o.at 0 rfl).cell 3;simp only [gA,gZ,gS] at e0 e1 em en
    by_cases p1:ps<0
    case pos =>
     have z1:=dT (p:=ps<(0:Int)) p1;have HX:=Hi (HN1.o 40 (by unfold Ck.call;rw [if_pos (.inl p1)]) zd);clear p1 HN1 HN2;go_wp2;go_ret;rw [<- HX.o];exact ⟨rfl,HT2.o.mod⟩
    have z2:=dF (p:=ps<(0:Int)) p1
    by_cases p2:(ins.length:Int)<=ps
    case pos =>
     have z3:=dT (p:=(ins.length:Int)<=ps) p2;have HX:=Hi (HN1.o 40 (by unfold Ck.call;rw [if_pos (.inr p2)]) zd);clear p1 p2 HN1 HN2;go_wp2;go_ret;rw [<- HX.o];exact ⟨rfl,HT2.o.mod⟩
    have z3:=dF (p:=(ins.length:Int)<=ps) p2;have hps:¬ (ps<0∨(ins.length:Int)<=ps):=zo
    by_cases p3:lq<0
    case pos =>
     have z4:=dT (p:=lq<(0:Int)) p3;have HX:=Hi (HN1.o 42 (by unfold Ck.call;rw [if_neg hps,if_pos (.inl p3)]) zd);clear p1 p2 p3 hps HN1 HN2;go_wp2;go_ret;rw [<- HX.o];exact ⟨rfl,HT2.o.mod⟩
    have z4:=dF (p:=lq<(0:Int)) p3
    by_cases p4:(lk.length:Int)<=lq
    case pos =>
     have z5:=dT (p:=(lk.length:Int)<=lq) p4;have HX:=Hi (HN1.o 42 (by unfold Ck.call;rw [if_neg hps,if_pos (.inr p4)]) zd);clear p1 p2 p3 p4 hps HN1 HN2;go_wp2;go_ret;rw [<- HX.o];exact ⟨rfl,HT2.o.mod⟩
    have z5:=dF (p:=(lk.length:Int)<=lq) p4;obtain ⟨m,rfl⟩:∃ m:Nat,lq=(m:Int):=⟨lq.toNat,by omega⟩
    have hm:m<lk.length:=zo;have q5:(0:Int)<=m:=zo;have q6:(m:Int)<lk.length:=zo;have hck:Ck.call lk ins.length ⟨ps,(m:Int)⟩=Ck.when (decide (lk[m].kind<1) || decide (4<lk[m].kind)) 42:=by
     unfold Ck.call;rw [if_neg hps,if_neg zqg];simp only [Int.toNat_natCast];rw [gE hm]
    obtain ⟨a',rfl,-,cs,-,hc0,-,v9,rfl,-⟩:=(HLK.o W1 HT2.o.mod).at m hm;generalize lk[m].kind=kd at *
    have c9:=hc0 zd;simp only [gZ] at c9;rw [hck] at HN1 HN2;clear p1 p2 p3 p4 hps hc0 hm hck
    by_cases p5:kd<1
    case pos =>
     have z6:=dT (p:=kd<(1:Int)) p5;have HX:=Hi (HN1.o 42 (by rw [z6];rfl) zd);clear p5 HN1 HN2;go_wp2;go_ret;rw [<- HX.o];exact ⟨rfl,HT2.o.mod⟩
    have z6:=dF (p:=kd<(1:Int)) p5
    by_cases p6:(4:Int)<kd
    case pos =>
     have z7:=dT (p:=(4:Int)<kd) p6;have HX:=Hi (HN1.o 42 (by rw [z6,z7];rfl) zd);clear p5 p6 HN1 HN2;go_wp2;go_ret;rw [<- HX.o];exact ⟨rfl,HT2.o.mod⟩
    have z7:=dF (p:=(4:Int)<kd) p6;have HX:=Hi (HN2.o (by rw [z6,z7];rfl));clear p5 p6 HN1 HN2;go_wp2;go_roundg (gk - 1)
    case measure=>exact HI.o.1
    case rel=>exact ⟨j+1,by rw [Int.natCast_add];rfl,HI.o.2,HTN.o,HX.o⟩
def Rf.sr (n:Nat) (r:aN):Int:=(Ck.each (λ_ l=>Ck.when (!Ck.cQ n l) 41) (r.back++r.ins++r.ahead)).1
def Rf.rule (n:Nat) (lk:List ar) (kind:Int) (r:aN):Int:=if Ck.rows kind r=0 then (if Rf.sr n r=0 then Rf.outs n lk kind r else Rf.sr n r) else Ck.rows kind r
def Rf.rules (n:Nat) (lk:List ar) (l:ar):Int:=(Ck.each (λ_ r=>Rf.rule n lk l.kind r) l.rules).1
def Rf.lookup (n:Nat) (lk:List ar) (l:ar):Int:=if l.kind<1∨8<l.kind then 42 else if 60<l.rules.length then 2 else if 0<l.rules.length/\7<=l.kind then 40 else Rf.rules n lk l
theorem Rf.Cy {kind:Int} {r:aN} (h:Ck.rows kind r=0):r.back.length<=6/\r.ins.length<=6/\r.ahead.length<=6/\0<r.ins.length:=by
 unfold Ck.rows at h
 by_cases h1:6<r.back.length∨6<r.ins.length∨6<r.ahead.length
 ·rw [if_pos h1] at h;exact absurd h zd
 rw [if_neg h1] at h;have h2:=Rf.iD zd h;refine ⟨by omega,by omega,by omega,?_⟩;rcases Nat.eq_zero_or_pos r.ins.length with e | e
 ·rw [e] at h2
  split at h2
  ·exact absurd h2 zd
  split at h2
  ·exact absurd h2 zk
  ·exact absurd h2 zd
 ·exact e
theorem Rf.xq (g:Ck.Got) (l:List Ck.Got):(Ck.first (g::l)).1=if g.1=0 then (Ck.first l).1 else g.1:=by
 show (if g.1=0 then Ck.first l else g).1=_
 split <;> rfl
theorem Rf.qI:(Ck.first []).1=0:=rfl
theorem Rf.Bi (a:Int):(if a=0 then 0 else a)=a:=by split <;> simp_all
theorem Rf.Cw (n:Nat) (lk:List ar) (kind:Int) (r:aN):Rf.rule n lk kind r=Ck.rule n lk kind r:=by
 unfold Rf.rule Ck.rule Rf.sr Rf.outs Rf.outs2 Rf.outs3 Rf.outs4;simp only [Rf.xq,Rf.qI];cases Ck.cP kind r <;> simp [Ck.when]
theorem Rf.qB (n:Nat) (lk:List ar) (l:ar):Rf.lookup n lk l=Ck.lookup n lk l:=by
 unfold Rf.lookup Ck.lookup Rf.rules;have e:(λ(_:Nat) r=>Rf.rule n lk l.kind r)=λ_ r=>Ck.rule n lk l.kind r:=by funext _ r;exact Rf.Cw n lk l.kind r
 rw [e]
 by_cases h1:l.kind<1∨8<l.kind
 ·rw [if_pos h1,if_pos h1]
 rw [if_neg h1,if_neg h1];simp only [Rf.xq,Rf.qI,Rf.Bi]
 by_cases h2:60<l.rules.length
 ·rw [if_pos h2,dT h2];rfl
 rw [if_neg h2,dF h2,if_pos (show Ck.when false 2=0 from rfl)]
 by_cases h3:0<l.rules.length/\7<=l.kind
 ·rw [if_pos h3,dT h3.1,show ((l.kind == 7 || l.kind == 8))=true by simp;omega];rfl
 ·rw [if_neg h3,show ((l.kind == 7 || l.kind == 8) && decide (0<l.rules.length))=false by
   rw [Bool.eq_false_iff];intro h;simp at h;exact h3 ⟨h.2,by omega⟩]
  rfl
theorem t6 (u:Int) (fg fc fl ff fx fr fn fv:Hd) (i:Int) (hi:i<0∨(fl.n:Int)<=i) (w:World) :
  Calls Tryz.prog 17 #[.agg (af u fg fc fl ff fx fr fn fv),.int .i64 i] w λe w'=>e=.returned (.int .i64 1)/\Mod [] w w':=by
 have T:=Hi (own1 w (af u fg fc fl ff fx fr fn fv) 32);unfold af at T ⊢;have c1:=(T.o.at 0 rfl).cell 3;simp only [gA,gZ,gS] at c1;obtain ⟨b1,h1⟩:=bits (i<(0:Int));cases b1
 case true =>
  clear c1;go_enter Tryz.func17,Tryz.ntmps17;go_wp2;go_ret;exact ⟨rfl,T.o.mod⟩
 have h2:=dT (p:=(fl.n:Int)<=i) (hi.resolve_left (of_decide_eq_false h1));clear hi;go_enter Tryz.func17,Tryz.ntmps17;go_wp2;go_ret;exact ⟨rfl,T.o.mod⟩
theorem mN (u:Int) (fg fc fl ff fx fr fn fv:Hd) (lk:List ar) (w:World) (h:Rows 3 aJ 0 w (.slice fl.a fl.n fl.c) lk) (i:Nat) (hi:i<lk.length) :
  Calls Tryz.prog 17 #[.agg (af u fg fc fl ff fx fr fn fv),.int .i64 (i:Int)] w λe w'=>e=.returned (.int .i64 (Rf.lookup fg.n lk lk[i]))/\Mod [] w w':=by
 obtain ⟨ga,gn,gc⟩:=fl;obtain ⟨_,_,hq,-⟩:=h.form;obtain rfl:gn=lk.length:=by cases hq;rfl
 clear hq;have T:=Hi (own1 w (af u fg fc ⟨ga,lk.length,gc⟩ ff fx fr fn fv) 32);obtain ⟨a,rfl,-,cs,-,hc0,hcj,v2,rfl,-,hr⟩:=h.at i hi;have HLK:=Hi (λW (k:Mod [] w W)=>h.mod aJ.stay k);obtain ⟨l,hl⟩:∃ l,lk[i]=l:=⟨_,rfl⟩
 rw [hl] at hc0 hcj hr ⊢;obtain ⟨o2,d2,rfl,-⟩:=hr.form;obtain ⟨D,hD⟩:∃ D,Rf.lookup fg.n lk l=D:=⟨_,rfl⟩
 rw [hD];have HD:=Hi hD;have HR:=Hi (λW (k:Mod [] w W)=>hr.mod dW.stay k);have k1:=dF (p:=(i:Int)<(0:Int)) zo;have k2:=dF (p:=(lk.length:Int)<=i) zo;have k3:(0:Int)<=i:=zo;have k4:(i:Int)<lk.length:=zo;have c0:=hc0 zd;have c1:=hcj 1 zd zd;have c2:=hcj 2 zd zd;simp only [gZ,gS] at c0 c1 c2;have HC:=Hi (And.intro c0 (And.intro c1 c2));have CH:=Hi (λcs r W (hr:dW 0 W cs r)=>vD l.kind cs r 0 W hr);have CS:=Hi (λcs r W (hr:dW 0 W cs r) k0 k1 k2=>yf u fg fc ⟨some a,lk.length,gc⟩ ff fx fr fn fv cs r 0 W hr k0 k1 k2);have CO:=Hi (λcs r W (m:Mod [] w W) (hr:dW 0 W cs r) k0=>yl u fg fc ⟨some a,lk.length,gc⟩ ff fx fr fn fv l.kind cs r lk W hr (h.mod aJ.stay m) k0);clear c0 c1 c2 hc0 hcj hr h hi hl hD;unfold af at T CS CO ⊢;obtain ⟨ka,kn,kc⟩:=fg;simp only at T CS CO HD ⊢;obtain ⟨kind,ign,rules⟩:=l;simp only at HC HR CH CO HD;go_enter Tryz.func17,Tryz.ntmps17;go_upto_region 3 with fail;obtain ⟨c0,c1,c2⟩:=HC.o
 replace c0:=aj T.o.mod c0
 replace c1:=aj T.o.mod c1
 replace c2:=aj T.o.mod c2
 clear HC;generalize w.alloc _=w1 at *
 generalize w.heap.size=fb at *
 have e1:=(T.o.at 0 rfl).cell 3;simp only [gA,gZ,gS] at e1;go_upto_region 4 with fail;have HT2:=Hi (T.o.alloc #[.int .i64 kind,.bool ign,.slice o2 rules.length d2] 57);clear c0 c1 c2 e1 T;generalize w1.alloc _=W1 at *
 generalize w1.heap.size=gb at *
 have f0:=(HT2.o.at 1 rfl).cell 0;have f2:=(HT2.o.at 1 rfl).cell 2;simp only [gA,gZ,gS] at f0 f2;have hD:=HD.o;unfold Rf.lookup at hD;simp only at hD
 by_cases q1:kind<1
 ·have z1:=dT (p:=kind<(1:Int)) q1;rw [if_pos (.inl q1)] at hD;have HX:=Hi hD;clear hD q1;go_wp2;go_ret;rw [<- HX.o];exact ⟨rfl,HT2.o.mod⟩
 have z1:=dF (p:=kind<(1:Int)) q1
 by_cases q2:(8:Int)<kind
 ·have z2:=dT (p:=(8:Int)<kind) q2;rw [if_pos (.inr q2)] at hD;have HX:=Hi hD;clear hD q1 q2;go_wp2;go_ret;rw [<- HX.o];exact ⟨rfl,HT2.o.mod⟩
 have z2:=dF (p:=(8:Int)<kind) q2;rw [if_neg zo] at hD
 by_cases q3:60<rules.length
 ·have z3:=dT (p:=(60:Int)<rules.length) zo;rw [if_pos q3] at hD;have HX:=Hi hD;clear hD q1 q2 q3;go_wp2;go_ret;rw [<- HX.o];exact ⟨rfl,HT2.o.mod⟩
 have z3:=dF (p:=(60:Int)<rules.length) zo;rw [if_neg q3] at hD;have HL:=Hi (show rules.length<=60 by omega);have hq:(0<rules.length/\7<=kind)∨(decide ((0:Int)<rules.length)=true/\decide (0<rules.length)=true/\decide ((7:Int)<=kind)=false/\¬ (0<rules.length/\7<=kind))∨(decide ((0:Int)<rules.length)=false/\decide (0<rules.length)=false/\¬ (0<rules.length/\7<=kind)):=by
  simp only [decide_eq_true_eq,decide_eq_false_iff_not];omega
 clear q1 q2 q3;have hq2:¬ (0<rules.length/\7<=kind)->Hy (Rf.rules kn lk ⟨kind,ign,rules⟩=D):=λh=>by rw [if_neg h] at hD;exact hD
 rcases hq with q4 | ⟨z4,z5,z6,q4⟩ | ⟨z4,z5,q4⟩
 ·have z4:=dT (p:=(0:Int)<rules.length) zo;have z5:=dT (p:=0<rules.length) q4.1;have z6:=dT (p:=(7:Int)<=kind) q4.2;rw [if_pos q4] at hD;have HX:=Hi hD;clear hD q4 hq2;go_wp2;go_ret;rw [<- HX.o];exact ⟨rfl,HT2.o.mod⟩
 all_goals
  have HD:=hq2 q4
  clear hD hq2 q4
  go_wp2_with fail
  clear z4 z5 f0 f2
  unfold Rf.rules at HD
  simp only at HD
  go_loopg [6] rules.length (λgk v wr=>∃ i:Nat,v=.int .i64 (i:Int)/\Hy (i+gk=rules.length)/\Hy (Mod [] W1 wr)/\Hy ((Ck.bz (λ_ r=>Rf.rule kn lk kind r) i (rules.drop i)).1=D))
  case atStart=>exact ⟨0,rfl,by show 0+rules.length=rules.length;omega,mR,HD.o⟩
  case round =>
   obtain ⟨j,rfl,hj,HM,HE⟩:=hrel;have f2:=((HT2.o.call HM.o).at 1 rfl).cell 2;simp only [gA,gZ,gS] at f2
   by_cases hjn:j<rules.length
   case neg =>
    obtain rfl:j=rules.length:=by have:=hj.o;omega
    have q1:=Rf.lz rules.length;have hE:=HE.o;rw [Ck.dH] at hE;have HX:=Hi hE;clear hE hj hjn;go_wp2;go_ret;rw [<- HX.o];exact ⟨rfl,(HT2.o.call HM.o).mod⟩
   obtain ⟨q1,q2,q3,q4,qi⟩:=Rf.lf hjn zqc;have HI:=Hi (And.intro (Rf.ms hj hjn) (Rf.nx hj hjn));have HN1:Hy (∀ e,Rf.rule kn lk kind rules[j]=e->e≠0->e=D):=λe he h0=>he ▸ (congrArg (·.1) (Ck.dt (f:=λ_ r=>Rf.rule kn lk kind r) hjn (by rw [he];exact h0))).symm.trans HE.o
   have HN2:=Hi (λh:Rf.rule kn lk kind rules[j]=0=>(congrArg (·.1) (Ck.dZ (f:=λ_ r=>Rf.rule kn lk kind r) hjn h)).symm.trans HE.o);obtain ⟨b,rfl,-,cs,-,hc0,hcj,hrr⟩:=(HR.o wr (HT2.o.mod.then HM.o)).at j hjn;generalize rules[j]=r at *
   obtain ⟨v0,v1,v2,v3,v4,rfl,-⟩:=id hrr;have c0:=hc0 zd;have c1:=hcj 1 zd zd;have c2:=hcj 2 zd zd;have c3:=hcj 3 zd zd;have c4:=hcj 4 zd zd;have c5:=hcj 5 zd zd;simp only [gZ,gS] at c0 c1 c2 c3 c4 c5;have HRR:=Hi (λW (k:Mod [] wr W)=>dW.stay _ _ _ _ _ hrr (k.above 0));have HC:=Hi (And.intro c0 (And.intro c1 (And.intro c2 (And.intro c3 (And.intro c4 c5)))));have HT3:=Hi (HT2.o.call HM.o);generalize hxr:r.x=xr at *
   obtain ⟨e1,he1⟩:∃ e,Ck.rows kind r=e:=⟨_,rfl⟩
   have C1:=Hi (λW (k:Mod [] wr W)=>CH.o _ r W (HRR.o W k));rw [he1] at C1;have HE1:=Hi he1;have A1:=(HT3.o.at 1 rfl).every;have B0:=λW (k:Mod [] wr W)=>aj k c0
   have B1:=λW (k:Mod [] wr W)=>aj k c1
   have B2:=λW (k:Mod [] wr W)=>aj k c2
   have B3:=λW (k:Mod [] wr W)=>aj k c3
   have B4:=λW (k:Mod [] wr W)=>aj k c4
   have B5:=λW (k:Mod [] wr W)=>aj k c5
   clear hc0 hcj c0 c1 c2 c3 c4 c5 hj hjn hrr HE he1 hxr;go_upto_region 13 with fail;refine ak 8 [true,true,true,true,true,true,true,true] [] zt zt zk ?_;simp only [aQ]
   iterate 7
    refine sv ?_
   refine sk (C1.o) ?_;refine au ?_;refine aB (λw2 hw2 _=>?_);simp only [qS,qZ];have HM2:=Hi (hw2);clear A1 B0 B1 B2 B3 B4 B5 C1 f2 hw2
   by_cases h1:e1=0
   case neg =>
    obtain ⟨y1,y2,y3⟩:=Rf.eqb h1;have HX:=Hi (HN1.o e1 (by unfold Rf.rule;rw [if_neg (by rw [HE1.o];exact h1)];exact HE1.o) h1);clear h1 HN1 HN2;go_wp2;go_ret;rw [<- HX.o];exact ⟨rfl,(HT3.o.call HM2.o).mod⟩
   subst h1;obtain ⟨b6,i6,a6,i0⟩:=Rf.Cy HE1.o;have C2:=Hi (λW (k:Mod [] w2 W)=>CS.o _ r W (HRR.o W (HM2.o.then k)) b6 i6 a6);have HI0:=Hi i0;obtain ⟨e2,he2⟩:∃ e,Rf.sr kn r=e:=⟨_,rfl⟩
   have HE2:=Hi he2;unfold Rf.sr at he2;rw [he2] at C2;have A0:=((HT3.o.call HM2.o).at 0 rfl).every;have A1:=((HT3.o.call HM2.o).at 1 rfl).every;have B0:=λW (k:Mod [] w2 W)=>aj (HM2.o.then k) HC.o.1
   have B1:=λW (k:Mod [] w2 W)=>aj (HM2.o.then k) HC.o.2.1
   have B2:=λW (k:Mod [] w2 W)=>aj (HM2.o.then k) HC.o.2.2.1
   have B3:=λW (k:Mod [] w2 W)=>aj (HM2.o.then k) HC.o.2.2.2.1
   have B4:=λW (k:Mod [] w2 W)=>aj (HM2.o.then k) HC.o.2.2.2.2.1
   have B5:=λW (k:Mod [] w2 W)=>aj (HM2.o.then k) HC.o.2.2.2.2.2
   clear he2 b6 i6 a6 i0;go_upto_region 15 with fail;refine ak 7 [true,true,true,true,true,true,true] [] zt zt zk ?_;simp only [aQ]
   iterate 6
    refine sv ?_
   refine sk (C2.o) ?_;refine au ?_;refine aB (λw3 hw3 _=>?_);simp only [qS,qZ];have HM3:=Hi (HM2.o.then hw3);clear A0 A1 B0 B1 B2 B3 B4 B5 C2 hw3
   by_cases h2:e2=0
   case neg =>
    obtain ⟨y1,y2,y3⟩:=Rf.eqb h2;have HX:=Hi (HN1.o e2 (by unfold Rf.rule;rw [if_pos HE1.o,if_neg (by rw [HE2.o];exact h2)];exact HE2.o) h2);clear h2 HN1 HN2;go_wp2;go_ret;rw [<- HX.o];exact ⟨rfl,(HT3.o.call HM3.o).mod⟩
   subst h2;have C3:=Hi (λW (k:Mod [] w3 W)=>CO.o _ r W (((HT3.o.call HM3.o).mod).then k) (HRR.o W (HM3.o.then k)) HI0.o);obtain ⟨e3,he3⟩:∃ e,Rf.outs kn lk kind r=e:=⟨_,rfl⟩
   have HE3:=Hi he3;rw [he3] at C3;have A0:=((HT3.o.call HM3.o).at 0 rfl).every;have A1:=((HT3.o.call HM3.o).at 1 rfl).every;have B0:=λW (k:Mod [] w3 W)=>aj (HM3.o.then k) HC.o.1
   have B1:=λW (k:Mod [] w3 W)=>aj (HM3.o.then k) HC.o.2.1
   have B2:=λW (k:Mod [] w3 W)=>aj (HM3.o.then k) HC.o.2.2.1
   have B3:=λW (k:Mod [] w3 W)=>aj (HM3.o.then k) HC.o.2.2.2.1
   have B4:=λW (k:Mod [] w3 W)=>aj (HM3.o.then k) HC.o.2.2.2.2.1
   have B5:=λW (k:Mod [] w3 W)=>aj (HM3.o.then k) HC.o.2.2.2.2.2
   have hrule:Rf.rule kn lk kind r=e3:=by unfold Rf.rule;rw [if_pos HE1.o,if_pos HE2.o];exact HE3.o
   have HRU:=Hi hrule;clear he3 hrule;go_upto_region 17 with fail;refine ak 9 [true,true,true,true,true,true,true,true,true] [] zt zt zk ?_;simp only [aQ]
   iterate 8
    refine sv ?_
   refine sk (C3.o) ?_;refine au ?_;refine aB (λw4 hw4 _=>?_);simp only [qS,qZ];have HM4:=Hi (HM3.o.then hw4);clear A0 A1 B0 B1 B2 B3 B4 B5 C3 hw4
   by_cases h3:e3=0
   case neg =>
    obtain ⟨y1,y2,y3⟩:=Rf.eqb h3;have HX:=Hi (HN1.o e3 HRU.o h3);clear h3 HN1 HN2;go_wp2;go_ret;rw [<- HX.o];exact ⟨rfl,(HT3.o.call HM4.o).mod⟩
   subst h3;have HX:=Hi (HN2.o HRU.o);clear HN1 HN2;go_wp2;go_roundg (gk - 1)
   case measure=>exact HI.o.1
   case rel=>exact ⟨j+1,by rw [Int.natCast_add];rfl,HI.o.2,HM.o.then HM4.o,HX.o⟩
def Rf.looks (n:Nat) (lk:List ar):Ck.Got:=Ck.each (λ_ l=>Rf.lookup n lk l) lk
theorem Own.got2 {w0 W:World} {l:List (Nat×Array Value×TypeId)} {b:Nat} {x y x' y':Value} {t:TypeId} (S:Own w0 W l) (k:Nat) (hk:l[k]?=some (b,#[x,y],t)) :
  Own w0 ((W.setCell ⟨b,0,none⟩ x').setCell ⟨b,1,none⟩ y') (l.set k (b,#[x',y'],t)):=by
 have hl:=(gI.1 hk).1;have S1:=S.set k hk 0 x';have hk1:(l.set k (b,(#[x,y]:Array Value).setIfInBounds 0 x',t))[k]?=some (b,#[x',y],t):=by simp [hl]
 have S2:=S1.set k hk1 1 y';rw [List.set_set] at S2;exact S2.to zk
theorem vF (u:Int) (fg fc fl ff fx fr fn fv:Hd) (lk:List ar) (l:List aA) (w:World) (h:Rows 3 aJ 0 w (.slice fl.a fl.n fl.c) lk) (hf:Rows 2 aZ 0 w (.slice ff.a ff.n ff.c) l) (hn:lk.length<=40)
  (hp:Ck.some 20 (λi x=>Ck.feature fl.n x (Ck.name (Ck.br x.name) (decide (Ck.aK aA.name l x.name<i)))) l=(0,0)) :
  Calls Tryz.prog 96 #[.agg (af u fg fc fl ff fx fr fn fv)] w λe w'=>e=.returned (gM (Rf.looks fg.n lk).1 ((Rf.looks fg.n lk).2:Int))/\Mod [] w w':=by
 have hk0:fl.n=lk.length:=by obtain ⟨_,_,he,_⟩:=h.form;simp at he;exact he.2.1
 have hf0:ff.n=l.length:=by obtain ⟨_,_,he,_⟩:=hf.form;simp at he;exact he.2.1
 have CL:=Hi (λi (hi:i<lk.length) W (m:Mod [] w W)=>mN u fg fc fl ff fx fr fn fv lk W (h.mod aJ.stay m) i hi);have CF:=Hi (λi (hi:i<l.length) W (m:Mod [] w W)=>sL u fg fc fl ff fx fr fn fv l W (hf.mod aZ.stay m) i hi hp);have l2:=(Rf.dn hp).1;have T:=Hi (own2 w (af u fg fc fl ff fx fr fn fv) 32 #[.int .i64 0,.int .i64 0] 104);have HL:=Hi (And.intro hn l2);have k1:=dF (p:=(40:Int)<lk.length) zo;have k2:=dF (p:=(20:Int)<l.length) zo;obtain ⟨E,hE⟩:∃ E,Rf.looks fg.n lk=E:=⟨_,rfl⟩
 rw [hE];have HE:Hy (Ck.bz (λ_ l=>Rf.lookup fg.n lk l) 0 (lk.drop 0)=E):=hE;clear h hf hn hp l2 hE;unfold af at T CL CF ⊢;obtain ⟨ka,kn,kc⟩:=fl;obtain ⟨fa,fnn,fcc⟩:=ff;simp only at T CL CF hk0 hf0 ⊢;subst hk0;subst hf0;go_enter Tryz.func96,Tryz.ntmps96;go_upto_block 3 with fail;go_wp2_with fail;generalize (w.alloc _).alloc _=w1 at *
 generalize w.heap.size=fb at *
 go_loopg [3] lk.length (λgk v wr=>∃ i:Nat,v=.int .i64 (i:Int)/\Hy (i+gk=lk.length)/\Hy (Own w wr [(fb,#[.int .i64 u,.slice fg.a fg.n fg.c,.slice fc.a fc.n fc.c,.slice ka lk.length kc,.slice fa l.length fcc,.slice fx.a fx.n fx.c,.slice fr.a fr.n fr.c,.slice fn.a fn.n fn.c,.slice fv.a fv.n fv.c],32),(fb+1,#[.int .i64 0,.int .i64 0],104)])/\Hy (Ck.bz (λ_ l=>Rf.lookup fg.n lk l) i (lk.drop i)=E))
 case atStart=>exact ⟨0,rfl,by show 0+lk.length=lk.length;omega,T.o,HE.o⟩
 case round =>
  obtain ⟨i,rfl,hi,HT,HX⟩:=hrel;clear T HE;have A:=(HT.o.at 0 rfl).cell
  by_cases hin:i<lk.length
  case pos =>
   obtain ⟨q1,q2,q3,q4,ei⟩:=Rf.lf hin zqc;have HI:=Hi (And.intro (Rf.ms hi hin) (Rf.nx hi hin));have C:=Hi (CL.o i hin wr HT.o.mod);have HN0:∀ e,Rf.lookup fg.n lk lk[i]=e->e≠0->(e,i)=E:=λe he h0=>by
    have:=(Ck.dt (f:=λ_ l=>Rf.lookup fg.n lk l) hin (by rw [he];exact h0)).symm.trans HX.o;rw [he] at this;exact this
   have HN2:=Hi (λh:Rf.lookup fg.n lk lk[i]=0=>(Ck.dZ (f:=λ_ l=>Rf.lookup fg.n lk l) hin h).symm.trans HX.o);obtain ⟨e,he⟩:∃ e,Rf.lookup fg.n lk lk[i]=e:=⟨_,rfl⟩
   rw [he] at C HN2;have hn1:=HN0 e he;have HN1:=Hi hn1;clear HN0 he hn1 HX;clear hi hin;go_wp2_with fail;refine C.o.mono ?_;rintro e' w2 ⟨rfl,m2⟩;have HT2:=Hi (HT.o.call m2);clear A m2 C HT
   by_cases h0:e=0
   ·subst h0;have HX:=Hi (HN2.o rfl);clear HN1 HN2;go_wp2;go_roundg (gk - 1)
    case measure=>exact HI.o.1
    case rel=>exact ⟨i+1,by rw [Int.natCast_add];rfl,HI.o.2,HT2.o,HX.o⟩
   obtain ⟨y1,y2,y3⟩:=Rf.eqb h0;have HX:=Hi (HN1.o h0);have b0:=(HT2.o.at 1 rfl).cell 0;have b1:=(HT2.o.at 1 rfl).cell 1;have f0:=(HT2.o.at 1 rfl).frozen 0;have f1:=(HT2.o.at 1 rfl).frozen 1;simp only [gA,gZ,gS] at b0 b1;obtain ⟨r0,r1,hm⟩:=HT2.o.got (x':=.int .i64 e) (y':=.int .i64 (i:Int)) 1 rfl;have HM:=Hi hm;clear h0 HN1 HN2 hm;go_wp2_with fail;rw [<- HX.o];exact bodyPost_ret (v:=gM e i) (by simp [results,Tryz.results96,go_sem,gM,r0,r1]) rfl ⟨rfl,HM.o⟩
  obtain rfl:i=lk.length:=by have:=hi.o;omega
  have q1:=Rf.lz lk.length;have hX:=HX.o;rw [Ck.dH] at hX;have HX:=Hi hX;clear hi hin hX;go_wp2_with fail;clear A;generalize wr=wo at *
  go_loopg [5] l.length (λgk v wr=>∃ i:Nat,v=.int .i64 (i:Int)/\Hy (i+gk=l.length)/\Hy (Own w wr [(fb,#[.int .i64 u,.slice fg.a fg.n fg.c,.slice fc.a fc.n fc.c,.slice ka lk.length kc,.slice fa l.length fcc,.slice fx.a fx.n fx.c,.slice fr.a fr.n fr.c,.slice fn.a fn.n fn.c,.slice fv.a fv.n fv.c],32),(fb+1,#[.int .i64 0,.int .i64 0],104)]))
  case atStart=>exact ⟨0,rfl,by show 0+l.length=l.length;omega,HT.o⟩
  case round =>
   obtain ⟨i,rfl,hi,HJ⟩:=hrel;clear HT;have A:=(HJ.o.at 0 rfl).cell
   by_cases hin:i<l.length
   case pos =>
    obtain ⟨q1,q2,q3,q4,ei⟩:=Rf.lf hin zqc;have HI:=Hi (And.intro (Rf.ms hi hin) (Rf.nx hi hin));have C:=Hi (CF.o i hin wr HJ.o.mod);clear hi hin;go_wp2_with fail;refine C.o.mono ?_;rintro e w2 ⟨rfl,m2⟩;have HJ2:=Hi (HJ.o.call m2);clear A m2 C;go_wp2;go_roundg (gk - 1)
    case measure=>exact HI.o.1
    case rel=>exact ⟨i+1,by rw [Int.natCast_add];rfl,HI.o.2,HJ2.o⟩
   obtain rfl:i=l.length:=by have:=hi.o;omega
   have q2:=Rf.lz l.length;have b0:=(HJ.o.at 1 rfl).cell 0;have b1:=(HJ.o.at 1 rfl).cell 1;have f0:=(HJ.o.at 1 rfl).frozen 0;have f1:=(HJ.o.at 1 rfl).frozen 1;simp only [gA,gZ,gS] at b0 b1;obtain ⟨r0,r1,hm⟩:=HJ.o.got (x':=.int .i64 0) (y':=.int .i64 0) 1 rfl;have HM:=Hi hm;clear hi hin hm;go_wp2_with fail;rw [<- HX.o];exact bodyPost_ret (v:=gM 0 0) (by simp [results,Tryz.results96,go_sem,gM,r0,r1]) rfl ⟨rfl,HM.o⟩
theorem Rf.CW {n:Nat} {p:cK} (h:Ck.part n p=0):0<=p.glyph/\p.glyph<n/\Ck.may p.x=true/\Ck.may p.y=true:=by
 unfold Ck.part Ck.bo Ck.when at h
 by_cases h1:(decide (0<=p.glyph) && decide (p.glyph<n))=true
 ·rw [h1] at h
  by_cases h2:(Ck.may p.x && Ck.may p.y)=true
  ·simp only [Bool.and_eq_true,decide_eq_true_eq] at h1 h2;exact ⟨h1.1,h1.2,h2.1,h2.2⟩
  ·simp [h2] at h
 ·simp [h1] at h
theorem yi (u:Int) (fg fc fl ff fx fr fn fv:Hd) (v0 v1 v2 v3 v4 v6 v7 v8:Value) (oa:Option Addr) (n c B:Nat) (l:List cK) (w:World) (h:Rows 3 eE B w (.slice oa n c) l) (hl:l.length<=8) (hp:∀ p∈l,Ck.part fg.n p=0) :
  Calls Tryz.prog 34 #[.agg (af u fg fc fl ff fx fr fn fv),.agg #[v0,v1,v2,v3,v4,.slice oa n c,v6,v7,v8]] w λe w'=>e=.returned (.int .i64 0)/\Mod [] w w':=by
 obtain ⟨_,_,hq,hme⟩:=h.form;obtain rfl:n=l.length:=by cases hq;rfl
 clear hq hme;have T:=Hi (own2 w (af u fg fc fl ff fx fr fn fv) 32 #[v0,v1,v2,v3,v4,.slice oa l.length c,v6,v7,v8] 46);have HR:=Hi (λW (k:Mod [] w W)=>h.mod eE.stay k);have HL:=Hi hl;have HP:=Hi (λi (hi:i<l.length)=>Rf.CW (hp _ (List.getElem_mem hi)));have k0:=dF (p:=(8:Int)<l.length) zo;clear h hl hp;unfold af at T ⊢;obtain ⟨ga,gn,gc⟩:=fg;simp only at T HP ⊢;go_enter Tryz.func34,Tryz.ntmps34;go_upto_block 3 with fail;go_wp2_with fail;generalize (w.alloc _).alloc _=w1 at *
 generalize w.heap.size=fb at *
 go_loopg [5] l.length (λgk v wr=>∃ i:Nat,v=.int .i64 (i:Int)/\Hy (i+gk=l.length)/\Hy (Own w wr [(fb,#[.int .i64 u,.slice ga gn gc,.slice fc.a fc.n fc.c,.slice fl.a fl.n fl.c,.slice ff.a ff.n ff.c,.slice fx.a fx.n fx.c,.slice fr.a fr.n fr.c,.slice fn.a fn.n fn.c,.slice fv.a fv.n fv.c],32),(fb+1,#[v0,v1,v2,v3,v4,.slice oa l.length c,v6,v7,v8],46)]))
 case atStart=>exact ⟨0,rfl,by show 0+l.length=l.length;omega,T.o⟩
 case round =>
  obtain ⟨i,rfl,hi,HT⟩:=hrel;clear T;have d5:=(HT.o.at 1 rfl).cell 5
  by_cases hin:i<l.length
  case neg =>
   obtain rfl:i=l.length:=by have:=hi.o;omega
   have k1:=Rf.lz l.length;clear hin hi;go_wp2;go_ret;exact ⟨rfl,HT.o.mod⟩
  obtain ⟨k1,k2,k3,k4,ei⟩:=Rf.lf hin zqc;have HI:=Hi (And.intro (Rf.ms hi hin) (Rf.nx hi hin));have hx:=HP.o i hin;obtain ⟨a,rfl,-,cs,-,hc0,hcj,rfl,-⟩:=(HR.o wr HT.o.mod).at i hin;generalize l[i]=x at *
  have c0:=hc0 zd;have c1:=hcj 1 zd zd;have c2:=hcj 2 zd zd;simp only [gZ,gS] at c0 c1 c2;obtain ⟨g,px,py⟩:=x;simp only at c0 c1 c2 hx;obtain ⟨h1,h2,h3,h4⟩:=hx;have z1:=dF (p:=g<(0:Int)) zo;have z2:=dF (p:=(gn:Int)<=g) zo;have H3:=Hi h3;have H4:=Hi h4;clear hc0 hcj hin hi h1 h2 h3 h4;go_upto_region 7 with fail;have HT2:=Hi (HT.o.alloc #[.int .i64 g,.int .i64 px,.int .i64 py] 69);have HT3:=Hi (HT.o.call ((Mod.refl [] wr).alloc (.cells #[.int .i64 g,.int .i64 px,.int .i64 py] 69)));clear c0 c1 c2 d5;generalize wr.alloc _=W1 at *
  generalize wr.heap.size=pb at *
  have c1:=(HT.o.at 0 rfl).cell 1;have e1:=(HT3.o.at 0 rfl).cell 1;have e0:=(HT2.o.at 2 rfl).cell 0;have ex:=(HT2.o.at 2 rfl).cell 1;have ey:=(HT2.o.at 2 rfl).cell 2;simp only [gA,gZ,gS] at e1 e0 ex ey;go_wp2_with fail;refine (eh _ _).mono ?_;rintro e w2 ⟨rfl,rfl⟩;rw [H3.o];go_wp2_with fail;refine (eh _ _).mono ?_;rintro e w2 ⟨rfl,rfl⟩;rw [H4.o];go_wp2;go_roundg (gk - 1)
  case measure=>exact HI.o.1
  case rel=>exact ⟨i+1,by rw [Int.natCast_add];rfl,HI.o.2,HT3.o⟩
theorem Rf.Ae {g:av} (h:Ck.shape g=0):0<=g.adv/\g.adv<=16384/\g.pts.length<=200/\g.ends.length<=40/\(∀ i (hi:i<g.pts.length),Ck.may g.pts[i].x=true/\Ck.may g.pts[i].y=true)/\Ck.bN g.pts.length (-1) g.ends=true:=by
 unfold Ck.shape at h
 by_cases n1:g.adv<0∨16384<g.adv
 ·rw [if_pos n1] at h;exact absurd h zd
 rw [if_neg n1] at h
 by_cases n2:200<g.pts.length∨40<g.ends.length
 ·rw [if_pos n2] at h;exact absurd h zd
 rw [if_neg n2] at h
 by_cases n3:(Ck.each (λ_ p=>Ck.point p) g.pts).1≠0
 ·rw [if_pos n3] at h;exact absurd h n3
 rw [if_neg n3] at h;have h2:=Rf.iD zd h;rw [Bool.not_eq_false'] at h2;unfold Ck.contours at h2;simp only [Bool.and_eq_true,List.all_eq_true] at h2;exact ⟨by omega,by omega,by omega,by omega,λi hi=>h2.1.2 _ (List.getElem_mem hi),h2.2⟩
theorem vI (u:Int) (fg fc fl ff fx fr fn fv:Hd) (i:Int) (hi:i<0∨(fg.n:Int)<=i) (w:World) :
  Calls Tryz.prog 13 #[.agg (af u fg fc fl ff fx fr fn fv),.int .i64 i] w λe w'=>e=.returned (.int .i64 1)/\Mod [] w w':=by
 have T:=Hi (own1 w (af u fg fc fl ff fx fr fn fv) 32);unfold af at T ⊢;have c1:=(T.o.at 0 rfl).cell 1;simp only [gA,gZ,gS] at c1;obtain ⟨b1,h1⟩:=bits (i<(0:Int));cases b1
 case true =>
  clear c1;go_enter Tryz.func13,Tryz.ntmps13;go_wp2;go_ret;exact ⟨rfl,T.o.mod⟩
 have h2:=dT (p:=(fg.n:Int)<=i) (hi.resolve_left (of_decide_eq_false h1));clear hi;go_enter Tryz.func13,Tryz.ntmps13;go_wp2;go_ret;exact ⟨rfl,T.o.mod⟩
theorem qo (u:Int) (fg fc fl ff fx fr fn fv:Hd) (gl:List av) (w:World) (h:Rows 9 aI 0 w (.slice fg.a fg.n fg.c) gl) (i:Nat) (hi:i<gl.length) (hG:Mr.Gl gl.length fr.n gl[i]) (hN:∀ j (hj:j<i),gl[j].name≠gl[i].name) :
  Calls Tryz.prog 13 #[.agg (af u fg fc fl ff fx fr fn fv),.int .i64 (i:Int)] w λe w'=>e=.returned (.int .i64 0)/\Mod [] w w':=by
 obtain ⟨ga,gn,gc⟩:=fg;obtain ⟨_,_,hq,hme⟩:=h.form;obtain rfl:gn=gl.length:=by cases hq;rfl
 clear hq;have HME:=Hi (show gl.length<=9223372036854775807 from hme);have T:=Hi (own1 w (af u ⟨ga,gl.length,gc⟩ fc fl ff fx fr fn fv) 32);obtain ⟨a,rfl,-,cs,-,hc0,hcj,v3,v4,v5,v6,v7,v8,rfl,-,-,r3,r4,r5,r6,r7,r8⟩:=h.at i hi;have HR:=Hi (λW (k:Mod [] w W)=>h.mod aI.stay k);have H9:Hy (∀ (j:Nat) (hj:j<i) (hjl:j<gl.length),(gl[j]'hjl).name≠gl[i].name):=λj hj _=>hN j hj
 obtain ⟨g,hg⟩:∃ g,gl[i]=g:=⟨_,rfl⟩
 rw [hg] at hG H9 hc0 hcj r3 r4 r5 r6 r7 r8;obtain ⟨o3,d3,rfl,l3⟩:=r3.form;obtain ⟨o4,d4,rfl,l4⟩:=r4.form;obtain ⟨o5,d5,rfl,l5⟩:=r5.form;obtain ⟨o6,d6,rfl,l6⟩:=r6.form;obtain ⟨o7,d7,rfl,l7⟩:=r7.form;obtain ⟨o8,d8,rfl,l8⟩:=r8.form;obtain ⟨s1,s2,s3,s4,s5,s6⟩:=Rf.Ae hG.shape;have k1:=dF (p:=(i:Int)<(0:Int)) zo;have k2:=dF (p:=(gl.length:Int)<=i) zo;have k3:(0:Int)<=i:=zo;have k4:(i:Int)<gl.length:=zo;have k5:=dF (p:=g.adv<(0:Int)) zo;have k6:=dF (p:=(16384:Int)<g.adv) zo;have k7:=dF (p:=(200:Int)<g.pts.length) zo;have k8:=dF (p:=(40:Int)<g.ends.length) zo;have CN:=Hi (λW=>sK g.name hG.name W);have CE:=Hi (λW (k:Mod [] w W)=>Aq o3 o4 g.pts.length d3 g.ends.length d4 g.ends 0 W (r4.mod bn.stay k) s3 s6);have CP:=Hi (λW (k:Mod [] w W)=>yi u ⟨some a,gl.length,gc⟩ fc fl ff fx fr fn fv (.string g.name) (.int .i64 g.adv) (.bool g.mark) (.slice o3 g.pts.length d3) (.slice o4 g.ends.length d4) (.slice o6 g.anchors.length d6) (.slice o7 g.deltas.length d7) (.slice o8 g.hint.length d8) o5 g.parts.length d5 0 g.parts W (r5.mod eE.stay k) (by have:=hG.parl;omega) hG.par);have CA:=Hi (λW (k:Mod [] w W)=>ua (.string g.name) (.int .i64 g.adv) (.slice o3 g.pts.length d3) (.slice o4 g.ends.length d4) (.slice o5 g.parts.length d5) (.slice o7 g.deltas.length d7) (.slice o8 g.hint.length d8) g.mark o6 g.anchors.length d6 0 g.anchors W (r6.mod dD.stay k) hG.anc);have CD:=Hi (λW (k:Mod [] w W)=>vL u ⟨some a,gl.length,gc⟩ fc fl ff fx fr fn fv (.string g.name) (.int .i64 g.adv) (.bool g.mark) (.slice o4 g.ends.length d4) (.slice o5 g.parts.length d5) (.slice o6 g.anchors.length d6) (.slice o8 g.hint.length d8) o3 g.pts.length d3 o7 g.deltas.length d7 0 g.deltas W (r7.mod er.stay k) hG.del);have hpz:Ck.program g.hint=0:=Mr.jI (by have:=hG.hinl;omega) hG.hint;have CO:=Hi (λW (k:Mod [] w W)=>sJ o8 g.hint.length d8 0 g.hint W (r8.mod jm.stay k));rw [hpz] at CO;have HPT:=Hi (λW (k:Mod [] w W)=>r3.mod eH.stay k);have HPM:=Hi s5;have HLP:=Hi s3;have c0:=hc0 zd;have c1:=hcj 1 zd zd;have c2:=hcj 2 zd zd;have c3:=hcj 3 zd zd;have c4:=hcj 4 zd zd;have c5:=hcj 5 zd zd;have c6:=hcj 6 zd zd;have c7:=hcj 7 zd zd;have c8:=hcj 8 zd zd;simp only [gZ,gS] at c0 c1 c2 c3 c4 c5 c6 c7 c8;have HC:=Hi (And.intro c0 (And.intro c1 (And.intro c2 (And.intro c3 (And.intro c4 (And.intro c5 (And.intro c6 (And.intro c7 c8))))))));have HIL:=Hi hi;clear c0 c1 c2 c3 c4 c5 c6 c7 c8 hc0 hcj r3 r4 r5 r6 r7 r8 l3 l4 l5 l6 l7 l8 s1 s2 s3 s4 s5 s6 hG hN h hpz hg hi hme;unfold af at T CP CD ⊢;simp only at T CP CD ⊢;go_enter Tryz.func13,Tryz.ntmps13;go_upto_region 3 with fail;have am:=T.o.mod;obtain ⟨c0,c1,c2,c3,c4,c5,c6,c7,c8⟩:=HC.o
 replace c0:=aj am c0
 replace c1:=aj am c1
 replace c2:=aj am c2
 replace c3:=aj am c3
 replace c4:=aj am c4
 replace c5:=aj am c5
 replace c6:=aj am c6
 replace c7:=aj am c7
 replace c8:=aj am c8
 clear am HC;generalize w.alloc _=w1 at *
 generalize w.heap.size=fb at *
 have e1:=(T.o.at 0 rfl).cell 1;simp only [gA,gZ,gS] at e1;go_upto_region 4 with fail;have HT2:=Hi (T.o.alloc #[.string g.name,.int .i64 g.adv,.bool g.mark,.slice o3 g.pts.length d3,.slice o4 g.ends.length d4,.slice o5 g.parts.length d5,.slice o6 g.anchors.length d6,.slice o7 g.deltas.length d7,.slice o8 g.hint.length d8] 46);clear c0 c1 c2 c3 c4 c5 c6 c7 c8 e1 T;generalize w1.alloc _=W1 at *
 generalize w1.heap.size=gb at *
 have f0:=(HT2.o.at 1 rfl).cell 0;simp only [gA,gZ,gS] at f0;go_wp2_with fail;refine (CN.o _).mono ?_;rintro e w2 ⟨rfl,rfl⟩;go_wp2_with fail;clear f0
 go_loopg [7] i (λgk v wr=>∃ j:Nat,v=.int .i64 (j:Int)/\Hy (j+gk=i)/\Hy (Own w wr [(fb,#[.int .i64 u,.slice (some a) gl.length gc,.slice fc.a fc.n fc.c,.slice fl.a fl.n fl.c,.slice ff.a ff.n ff.c,.slice fx.a fx.n fx.c,.slice fr.a fr.n fr.c,.slice fn.a fn.n fn.c,.slice fv.a fv.n fv.c],32),(gb,#[.string g.name,.int .i64 g.adv,.bool g.mark,.slice o3 g.pts.length d3,.slice o4 g.ends.length d4,.slice o5 g.parts.length d5,.slice o6 g.anchors.length d6,.slice o7 g.deltas.length d7,.slice o8 g.hint.length d8],46)]))
 case atStart=>exact ⟨0,rfl,by show 0+i=i;omega,HT2.o⟩
 case round =>
  obtain ⟨j,rfl,hj,HJ⟩:=hrel;clear HT2
  by_cases hjn:j<i
  case pos =>
   obtain ⟨q1,q2,q3,q4,qi⟩:=Rf.lf hjn (by have:=HME.o;have:=HIL.o;omega);have HJI:=Hi (And.intro (Rf.ms hj hjn) (Rf.nx hj hjn));have hjl:j<gl.length:=Nat.lt_trans hjn HIL.o;have q5:(j:Int)<gl.length:=zo;have hx:=H9.o j hjn hjl;obtain ⟨a',ha',-,cs,-,hc0,-,x3,x4,x5,x6,x7,x8,rfl,-⟩:=(HR.o wr HJ.o.mod).at j hjl;obtain rfl:a'=a:=by simpa using ha'.symm
   generalize gl[j].name=nm at *
   have c0:=hc0 zd;simp only [gZ,gS] at c0;have A0:∀ W,Mod [] wr W->W.cell? (a'.add (j*9))=some (.string nm):=λW m=>aj m c0
   have A1:=(HJ.o.at 0 rfl).every;have A2:=(HJ.o.at 1 rfl).every;have y1:=Rf.uL hx;clear hc0 c0 ha' hj hjn hjl hx;go_upto_region 10 with fail;refine ak 9 [true,true,true,true,true,true,true,true,true] [] zt zt zk ?_;simp only [aQ]
   iterate 9
    refine sv ?_
   refine au ?_;refine aB (λw' hw' _=>?_);simp only [qS,qZ];clear A0 A1 A2;go_wp2;go_roundg (gk - 1)
   case measure=>exact HJI.o.1
   case rel=>exact ⟨j+1,by rw [Int.natCast_add];rfl,HJI.o.2,HJ.o.call hw'⟩
  obtain rfl:j=i:=by have:=hj.o;omega
  have q1:=Rf.lz j;have f1:=(HJ.o.at 1 rfl).cell 1;have f3:=(HJ.o.at 1 rfl).cell 3;have f4:=(HJ.o.at 1 rfl).cell 4;simp only [gA,gZ,gS] at f1 f3 f4;clear hj hjn;go_wp2_with fail;clear f1;generalize wr=W2 at *
  go_loopg [8] g.pts.length (λgk v wx=>∃ p:Nat,v=.int .i64 (p:Int)/\Hy (p+gk=g.pts.length)/\wx=W2)
  case atStart=>exact ⟨0,rfl,by show 0+g.pts.length=g.pts.length;omega,rfl⟩
  case round =>
   obtain ⟨p,rfl,hp,rfl⟩:=hrel
   by_cases hpn:p<g.pts.length
   case pos =>
    obtain ⟨q1,q2,q3,q4,qi⟩:=Rf.lf hpn (by have:=HLP.o;omega);have HJI:=Hi (And.intro (Rf.ms hp hpn) (Rf.nx hp hpn));have hm:=HPM.o p hpn;obtain ⟨b,rfl,-,cs,-,hc0,hcj,rfl,-⟩:=(HPT.o wr HJ.o.mod).at p hpn;generalize g.pts[p]=x at *
    obtain ⟨px,py,po⟩:=x;have c0:=hc0 zd;have c1:=hcj 1 zd zd;simp only [gZ,gS] at c0 c1;have HM:=Hi hm;clear hc0 hcj hp hpn hm;go_wp2_with fail;refine (eh _ _).mono ?_;rintro e w2 ⟨rfl,rfl⟩;rw [HM.o.1];go_wp2_with fail;refine (eh _ _).mono ?_;rintro e w2 ⟨rfl,rfl⟩;rw [HM.o.2];go_wp2;go_roundg (gk - 1)
    case measure=>exact HJI.o.1
    case rel=>exact ⟨p+1,by rw [Int.natCast_add];rfl,HJI.o.2,rfl⟩
   obtain rfl:p=g.pts.length:=by have:=hp.o;omega
   have q2:=Rf.lz g.pts.length;clear hp hpn;go_wp2_with fail;refine (CE.o _ HJ.o.mod).mono ?_;rintro e w3 ⟨rfl,m3⟩;have HJ3:=Hi (HJ.o.call m3);go_upto_region 26 with fail;clear f3 f4;have A1:=(HJ3.o.at 0 rfl).every;have A2:=(HJ3.o.at 1 rfl).every;have DP:=λW (k:Mod [] w3 W)=>CP.o W (HJ3.o.mod.then k)
   have DA:=λW (k:Mod [] w3 W)=>CA.o W (HJ3.o.mod.then k)
   have DD:=λW (k:Mod [] w3 W)=>CD.o W (HJ3.o.mod.then k)
   have DO:=λW (k:Mod [] w3 W)=>(CO.o W (HJ3.o.mod.then k)).mono (R':=λe w'=>e=.returned (.int .i64 0)/\Mod [] W w') λ_ _ ⟨he,hw⟩=>⟨he,hw ▸ mR⟩
   clear CP CA CD CO;have CP:=Hi DP;have CA:=Hi DA;have CD:=Hi DD;have CO:=Hi DO;clear DP DA DD DO;refine ak 11 [true,true,true,true,true,true,true,true,true,true,true] [] zt zt zk ?_;simp only [aQ]
   iterate 2
    refine sv ?_
   refine sk (CP.o) ?_;refine sv ?_;refine sk (CA.o) ?_
   iterate 2
    refine sv ?_
   refine sk (CD.o) ?_
   iterate 2
    refine sv ?_
   refine sk (CO.o) ?_;refine au ?_;refine aB (λw' hw' _=>?_);simp only [qS,qZ];clear A1 A2;go_wp2_with fail;refine (vJ _ _ _ 0 [0,0,0,0] _ (fB (l:=[0,0,0,0]) (Blk.new w' #[.int .i64 0,.int .i64 0,.int .i64 0,.int .i64 0] 61) zd (by simp [I64]))).mono ?_;rintro e w4 ⟨rfl,rfl⟩;go_wp2;go_ret;exact ⟨rfl,(HJ3.o.mod.then hw').alloc _⟩
theorem Br:(Tryz.prog.info? 4).map (λi=>(i.zero,i.size,i.bytes))=some (some (.bool false),1,1):=by kernel_rfl
theorem vW (w:World) (n:Nat) (hn:n<=1000000):(Instr.makeSlice 194 (.int .i64 (n:Int)) (.int .i64 (n:Int))).run Tryz.prog w=.ok (.slice (some ⟨w.heap.size,0,none⟩) n n) (w.alloc (.cells (noC n) 4)):=by
 obtain ⟨i0,hi,hz0,hz1,hz2⟩:=info_parts Br;have h:=run_make (P:=Tryz.prog) w 194 4 i0 (.bool false) Tryz.underlying194 hi hz0 .i64 .i64 (n:Int) (n:Int) zo (Int.le_refl _) (by rw [hz2];omega) zo;rw [Int.toNat_natCast,hz1,Nat.mul_one] at h;have e:madeCells (Value.bool false).cells n=noC n:=by
  unfold noC;apply Array.ext';apply List.ext_getElem
  ·simp [size_madeCells]
  ·intro i h1 h2;simp [madeCells,Nat.mod_one,Value.cells]
 rw [h,e]
theorem vH (u:Int) (fg fc fl ff fx fr fn fv:Hd) (gl:List av) (w:World) (h:Rows 9 aI 0 w (.slice fg.a fg.n fg.c) gl) (hl:1<=gl.length/\gl.length<=400) (hG:∀ i (hi:i<gl.length),Mr.Gl gl.length fr.n gl[i])
  (hN:∀ i (hi:i<gl.length),∀ j (hj:j<i),gl[j].name≠gl[i].name) (hL:Rf.Low gl) :
  Calls Tryz.prog 94 #[.agg (af u fg fc fl ff fx fr fn fv)] w λe w'=>e=.returned (gM 0 0)/\Mod [] w w':=by
 have hF:fg.n=gl.length:=by obtain ⟨_,_,he,_⟩:=h.form;simp at he;exact he.2.1
 have CG:=Hi (λi (hi:i<gl.length) W (m:Mod [] w W)=>qo u fg fc fl ff fx fr fn fv gl W (h.mod aI.stay m) i hi (hG i hi) (hN i hi));have CR:=Hi (λi (hi:i<gl.length) tb W (m:∀ W',Mod [tb] W W'->Mod [] w W') (hB:Blk W tb (noC gl.length) 4)=>yg u fg fc fl ff fx fr fn fv gl i tb W (λW' m'=>h.mod aI.stay (m W' m')) hi hL hB);have CD:=Hi (λW (m:Mod [] w W)=>yr u fg fc fl ff fx fr fn fv gl W (h.mod aI.stay m) zo hL);have CF:=Hi (λi (hi:i<gl.length) W (m:Mod [] w W)=>Ap u fg fc fl ff fx fr fn fv gl i W (h.mod aI.stay m) hi hL (λg hg=>by obtain ⟨k,hk,rfl⟩:=List.getElem_of_mem hg;exact (hG k hk).ptl));have hmk:=λW=>vW W gl.length zo
 have T:=Hi (own2 w (af u fg fc fl ff fx fr fn fv) 32 #[.int .i64 0,.int .i64 0] 104);have HL:=Hi hl;obtain ⟨y1,y2,y3⟩:=Rf.eqb (x:=(gl.length:Int)) (y:=0) zo;have k0:=dF (p:=(400:Int)<gl.length) zo;clear h hl hG hN hL;unfold af at T CG CR CD CF ⊢;obtain ⟨ga,gn,gc⟩:=fg;simp only at T CG CR CD CF hF ⊢;subst hF;generalize gl.length=n at *
 go_enter Tryz.func94,Tryz.ntmps94;go_upto_block 5 with fail;go_wp2_with fail;generalize (w.alloc _).alloc _=w1 at *
 obtain ⟨fb,hfb⟩:∃ fb,w.heap.size=fb:=⟨_,rfl⟩
 have HFB:=Hi hfb;rw [hfb] at T ⊢;clear hfb
 go_loopg [3] n (λgk v wr=>∃ i:Nat,v=.int .i64 (i:Int)/\Hy (i+gk=n)/\Hy (Own w wr [(fb,#[.int .i64 u,.slice ga n gc,.slice fc.a fc.n fc.c,.slice fl.a fl.n fl.c,.slice ff.a ff.n ff.c,.slice fx.a fx.n fx.c,.slice fr.a fr.n fr.c,.slice fn.a fn.n fn.c,.slice fv.a fv.n fv.c],32),(fb+1,#[.int .i64 0,.int .i64 0],104)]))
 case atStart=>exact ⟨0,rfl,by show 0+n=n;omega,T.o⟩
 case round =>
  obtain ⟨i,rfl,hi,HT⟩:=hrel;clear T;have A:=(HT.o.at 0 rfl).cell
  by_cases hin:i<n
  case pos =>
   obtain ⟨k1,k2,k3,k4,ei⟩:=Rf.lf hin zqc;have HI:=Hi (And.intro (Rf.ms hi hin) (Rf.nx hi hin));have C:=Hi (CG.o i hin wr HT.o.mod);clear hi hin;go_wp2_with fail;refine C.o.mono ?_;rintro e w2 ⟨rfl,m2⟩;have HT2:=Hi (HT.o.call m2);clear A m2 C;go_wp2;go_roundg (gk - 1)
   case measure=>exact HI.o.1
   case rel=>exact ⟨i+1,by rw [Int.natCast_add];rfl,HI.o.2,HT2.o⟩
  obtain rfl:i=n:=by have:=hi.o;omega
  have k1:=Rf.lz i;clear hi hin;go_wp2_with fail;clear A;generalize wr=wo at *
  go_loopg [5] i (λgk v wr=>∃ j:Nat,v=.int .i64 (j:Int)/\Hy (j+gk=i)/\Hy (Own w wr [(fb,#[.int .i64 u,.slice ga i gc,.slice fc.a fc.n fc.c,.slice fl.a fl.n fl.c,.slice ff.a ff.n ff.c,.slice fx.a fx.n fx.c,.slice fr.a fr.n fr.c,.slice fn.a fn.n fn.c,.slice fv.a fv.n fv.c],32),(fb+1,#[.int .i64 0,.int .i64 0],104)]))
  case atStart=>exact ⟨0,rfl,by show 0+i=i;omega,HT.o⟩
  case round =>
   obtain ⟨j,rfl,hj,HJ⟩:=hrel;clear HT;have A:=(HJ.o.at 0 rfl).cell
   by_cases hjn:j<i
   case pos =>
    obtain ⟨q1,k2,k3,k4,ei⟩:=Rf.lf hjn zqc;have HI:=Hi (And.intro (And.intro (Rf.ms hj hjn) (Rf.nx hj hjn)) hjn);have A1:=(HJ.o.at 0 rfl).every;clear hj hjn;go_upto_region 14 with fail;refine ak 7 [true,true,true,true,true,true,false] [(6,jP wr.heap.size (noC i) 4 i)] zt zt (by simp [jP.stays]) ?_;simp only [aQ]
    iterate 6
     refine sv ?_
    refine au ?_;refine mm rfl rfl (kO ?_) (λv w' hw'=>?_)
    ·intro w';go_simp
    rintro ⟨-,tb,rfl,htb,hB⟩;simp only [qS,qZ];have HJ2:=Hi (HJ.o.call hw');have HTB:Hy (∀ {w'':World},Mod [tb] w' w''->Mod [] w w''/\Mod [] wr w''):=λm'=>⟨HJ2.o.mod.trans m' (λx hx hlt=>by rw [mI.1 hx] at hlt;have:=HJ.o.mod.size;omega),hw'.trans m' (λx hx hlt=>by rw [mI.1 hx] at hlt;omega)⟩
    have C:=Hi (CR.o j HI.o.2 tb w' (λW' m'=>(HTB.o m').1) hB);clear A A1 hw' hB htb;go_wp2_with fail;refine C.o.mono ?_;rintro e w3 ⟨rfl,m3⟩;have HJ3:=Hi (HJ.o.call (HTB.o m3).2);clear m3 C;go_wp2;go_roundg (gk - 1)
    case measure=>exact HI.o.1.1
    case rel=>exact ⟨j+1,by rw [Int.natCast_add];rfl,HI.o.1.2,HJ3.o⟩
   obtain rfl:j=i:=by have:=hj.o;omega
   have C:=Hi (CD.o wr HJ.o.mod);clear hj hjn hmk;go_wp2_with fail;refine C.o.mono ?_;rintro e w3 ⟨db,f,rfl,hdb,hge,hf,m3⟩;have HDB:=Hi hdb;have HF:=Hi (And.intro hf (nT HJ.o.mod.size hge));have HJ3:=Hi (HJ.o.call m3);clear A C hdb hf hge m3;go_wp2_with fail;generalize wr=wp at *
   go_loopg [8] j (λgk v wr=>∃ p:Nat,v=.int .i64 (p:Int)/\Hy (p+gk=j)/\wr=w3)
   case atStart=>exact ⟨0,rfl,by show 0+j=j;omega,rfl⟩
   case round =>
    obtain ⟨p,rfl,hp,rfl⟩:=hrel
    by_cases hpn:p<j
    case pos =>
     obtain ⟨q1,k2,k3,k4,ei⟩:=Rf.lf hpn zqc;have HI:=Hi (And.intro (Rf.ms hp hpn) (Rf.nx hp hpn));have c:=HDB.o.cell p;rw [eL f hpn] at c;have z:=dF (show ¬ ((4:Int)<(f p:Int)) by have:=HF.o.1 p;omega);generalize f p=q at *
     clear hp hpn;go_wp2;go_roundg (gk - 1)
     case measure=>exact HI.o.1
     case rel=>exact ⟨p+1,by rw [Int.natCast_add];rfl,HI.o.2,rfl⟩
    obtain rfl:p=j:=by have:=hp.o;omega
    clear hp hpn;go_wp2_with fail;generalize wr=wq at *
    go_loopg [9] p (λgk v wr=>∃ j:Nat,v=.int .i64 (j:Int)/\Hy (j+gk=p)/\Hy (Own w wr [(fb,#[.int .i64 u,.slice ga p gc,.slice fc.a fc.n fc.c,.slice fl.a fl.n fl.c,.slice ff.a ff.n ff.c,.slice fx.a fx.n fx.c,.slice fr.a fr.n fr.c,.slice fn.a fn.n fn.c,.slice fv.a fv.n fv.c],32),(fb+1,#[.int .i64 0,.int .i64 0],104)]))
    case atStart=>exact ⟨0,rfl,by show 0+p=p;omega,HJ3.o⟩
    case round =>
     obtain ⟨j,rfl,hj,HJ⟩:=hrel;have A:=(HJ.o.at 0 rfl).cell
     by_cases hjn:j<p
     case pos =>
      obtain ⟨q1,k2,k3,k4,ei⟩:=Rf.lf hjn zqc;have HI:=Hi (And.intro (Rf.ms hj hjn) (Rf.nx hj hjn));have C:=Hi (CF.o j hjn wr HJ.o.mod);clear hj hjn;go_wp2_with fail;refine C.o.mono ?_;rintro e w4 ⟨⟨q,hq,rfl⟩,m4⟩;have z:=dF (show ¬ ((1000:Int)<q) by omega);have HJ4:=Hi (HJ.o.call m4);clear A C hq m4;go_wp2;go_roundg (gk - 1)
      case measure=>exact HI.o.1
      case rel=>exact ⟨j+1,by rw [Int.natCast_add];rfl,HI.o.2,HJ4.o⟩
     obtain rfl:j=p:=by have:=hj.o;omega
     have b0:=(HJ.o.at 1 rfl).cell 0;have b1:=(HJ.o.at 1 rfl).cell 1;have f0:=(HJ.o.at 1 rfl).frozen 0;have f1:=(HJ.o.at 1 rfl).frozen 1;simp only [gA,gZ,gS] at b0 b1;obtain ⟨r0,r1,hm⟩:=HJ.o.got (x':=.int .i64 0) (y':=.int .i64 0) 1 rfl;have HM:=Hi hm;clear hj hjn hm;go_wp2_with fail;exact bodyPost_ret (v:=gM 0 0) (by simp [results,Tryz.results94,go_sem,gM,r0,r1]) rfl ⟨rfl,HM.o⟩
structure Rf.In (w:World) (fg fc fl ff fx fr fn fv:Hd) (F:aD):Prop where
 gl:Rows 9 aI 0 w (.slice fg.a fg.n fg.c) F.glyphs
 ch:Rows 2 eF 0 w (.slice fc.a fc.n fc.c) F.chars
 lk:Rows 3 aJ 0 w (.slice fl.a fl.n fl.c) F.lookups
 ft:Rows 2 aZ 0 w (.slice ff.a ff.n ff.c) F.features
 ax:Rows 4 eP 0 w (.slice fx.a fx.n fx.c) F.axes
 rg:Rows 1 dC 0 w (.slice fr.a fr.n fr.c) F.regions
 fn:Rows 1 gK 0 w (.slice fn.a fn.n fn.c) F.funcs
 cv:Rows 1 bn 0 w (.slice fv.a fv.n fv.c) F.cvt
theorem Rf.In.mod {w w':World} {fg fc fl ff fx fr fn fv:Hd} {F:aD} (h:Rf.In w fg fc fl ff fx fr fn fv F) (m:Mod [] w w'):Rf.In w' fg fc fl ff fx fr fn fv F :=
 ⟨h.gl.mod aI.stay m,h.ch.mod eF.stay m,h.lk.mod aJ.stay m,h.ft.mod aZ.stay m,h.ax.mod eP.stay m,h.rg.mod dC.stay m,h.fn.mod gK.stay m,h.cv.mod bn.stay m⟩
structure Rf.FL (F:aD):Prop where
 unit:16<=F.unit/\F.unit<=4096
 gll:1<=F.glyphs.length/\F.glyphs.length<=400
 gl:∀ i (hi:i<F.glyphs.length),Mr.Gl F.glyphs.length F.regions.length F.glyphs[i]
 gn:∀ i (hi:i<F.glyphs.length),∀ j (hj:j<i),F.glyphs[j].name≠F.glyphs[i].name
 low:Rf.Low F.glyphs
 ch:Ck.some 1000 (λi x=>Ck.char F.glyphs.length x (Ck.late F.chars i x)) F.chars=(0,0)
 lkl:F.lookups.length<=40
 ft:Ck.some 20 (λi x=>Ck.feature F.lookups.length x (Ck.name (Ck.br x.name) (decide (Ck.aK aA.name F.features x.name<i)))) F.features=(0,0)
 ax:Ck.some 3 (λi x=>Ck.axis x (Ck.name (Ck.bZ x.name) (decide (Ck.aK bB.name F.axes x.name<i)))) F.axes=(0,0)
 rg:Ck.some 16 (λ_ x=>Ck.region F.axes.length x) F.regions=(0,0)
 fn:Ck.some 20 (λ_ x=>Ck.program x) F.funcs=(0,0)
 cv:Ck.some 64 (λ_ x=>Ck.when (!Ck.may x) 1) F.cvt=(0,0)
theorem ep {α:Type} {k:Nat} {R:Nat->World->List Value->α->Prop} {B:Nat} {w:World} {oa:Option Addr} {n c:Nat} {l:List α} (h:Rows k R B w (.slice oa n c) l):n=l.length:=by
 obtain ⟨_,_,he,_⟩:=h.form;simp at he;exact he.2.1
theorem yo (fg fc fl ff fx fr fn fv:Hd) (F:aD) (w:World) (h:Rf.In w fg fc fl ff fx fr fn fv F) (hF:Rf.FL F) :
  Calls Tryz.prog 38 #[.agg (af F.unit fg fc fl ff fx fr fn fv)] w λe w'=>e=.returned (gM (Rf.looks F.glyphs.length F.lookups).1 ((Rf.looks F.glyphs.length F.lookups).2:Int))/\Mod [] w w':=by
 have e1:=ep h.gl;have e3:=ep h.lk;have e5:=ep h.ax;have e6:=ep h.rg;have CG:=Hi (λW (m:Mod [] w W)=>vH F.unit fg fc fl ff fx fr fn fv F.glyphs W (h.mod m).gl hF.gll (by rw [e6];exact hF.gl) hF.gn hF.low);have CC:=Hi (λW (m:Mod [] w W)=>yt F.unit fg fc fl ff fx fr fn fv F.chars W (h.mod m).ch (by rw [e1];exact hF.ch));have CL:=Hi (λW (m:Mod [] w W)=>vF F.unit fg fc fl ff fx fr fn fv F.lookups F.features W (h.mod m).lk (h.mod m).ft hF.lkl (by rw [e3];exact hF.ft));have CX:=Hi (λW (m:Mod [] w W)=>Ar F.unit fg fc fl ff fx fr fn fv F.axes F.regions W (h.mod m).ax (h.mod m).rg hF.ax hF.rg);have CP:=Hi (λW (m:Mod [] w W)=>yh F.unit fg fc fl ff fx fr fn fv F.funcs F.cvt W (h.mod m).fn (h.mod m).cv hF.fn hF.cv);rw [e1] at CL;have T:=Hi (own2 w (af F.unit fg fc fl ff fx fr fn fv) 32 #[.int .i64 0,.int .i64 0] 104);have k1:=dF (p:=F.unit<(16:Int)) (by have:=hF.unit;omega);have k2:=dF (p:=(4096:Int)<F.unit) (by have:=hF.unit;omega);have hE0:(Rf.looks F.glyphs.length F.lookups).1=0->Rf.looks F.glyphs.length F.lookups=(0,0):=λh=>Rf.eY h
 generalize Rf.looks F.glyphs.length F.lookups=E at *
 generalize F.unit=u at *
 clear h hF e1 e3 e5 e6;unfold af at T CG CC CL CX CP ⊢;obtain ⟨e,at_⟩:=E;simp only at CL hE0 ⊢;have HE0:Hy (e=0->at_=0):=λh=>(Prod.mk.inj (hE0 h)).2
 clear hE0;go_enter Tryz.func38,Tryz.ntmps38;go_upto_region 1 with fail;generalize (w.alloc _).alloc _=w1 at *
 generalize w.heap.size=fb at *
 have A:=(T.o.at 0 rfl).cell;go_wp2_with fail;refine (CG.o _ T.o.mod).mono ?_;rintro x w2 ⟨rfl,m2⟩;have T2:=Hi ((T.o.call m2).alloc #[.int .i64 0,.int .i64 0] 104);clear T CG m2 A;unfold gM;go_upto_region 4 with fail;generalize w2.alloc _=w3 at *
 generalize w2.heap.size=gb at *
 have A:=(T2.o.at 0 rfl).cell;have b0:=(T2.o.at 2 rfl).cell 0;have b1:=(T2.o.at 2 rfl).cell 1;simp only [gA,gZ,gS] at b0 b1;go_wp2_with fail;refine (CC.o _ T2.o.mod).mono ?_;rintro x v2 ⟨rfl,m2⟩;have S2:=Hi (T2.o.call m2);clear T2 CC m2 A b0 b1;have b0:=(S2.o.at 2 rfl).cell 0;have b1:=(S2.o.at 2 rfl).cell 1;have f0:=(S2.o.at 2 rfl).frozen 0;have f1:=(S2.o.at 2 rfl).frozen 1;have T3:=Hi (S2.o.got2 (x':=.int .i64 0) (y':=.int .i64 0) 2 rfl);simp only [gA,gZ,gS] at b0 b1;simp only [List.cons_append,List.nil_append,List.set_cons_succ,List.set_cons_zero] at T3;unfold gM;go_upto_region 6 with fail;clear b0 b1 f0 f1 S2;generalize (v2.setCell _ _).setCell _ _=u2 at *
 have A:=(T3.o.at 0 rfl).cell;have b0:=(T3.o.at 2 rfl).cell 0;have b1:=(T3.o.at 2 rfl).cell 1;simp only [gA,gZ,gS] at b0 b1;go_wp2_with fail;refine (CL.o _ T3.o.mod).mono ?_;rintro x v3 ⟨rfl,m3⟩;have S3:=Hi (T3.o.call m3);clear T3 CL m3 A b0 b1;have b0:=(S3.o.at 2 rfl).cell 0;have b1:=(S3.o.at 2 rfl).cell 1;have f0:=(S3.o.at 2 rfl).frozen 0;have f1:=(S3.o.at 2 rfl).frozen 1;have T4:=Hi (S3.o.got2 (x':=.int .i64 e) (y':=.int .i64 (at_:Int)) 2 rfl);simp only [gA,gZ,gS] at b0 b1;simp only [List.cons_append,List.nil_append,List.set_cons_succ,List.set_cons_zero] at T4;unfold gM;go_upto_region 8 with fail;clear b0 b1 f0 f1 S3;generalize (v3.setCell _ _).setCell _ _=u3 at *
 have A:=(T4.o.at 0 rfl).cell;have b0:=(T4.o.at 2 rfl).cell 0;have b1:=(T4.o.at 2 rfl).cell 1;simp only [gA,gZ,gS] at b0 b1
 by_cases h0:e=0
 case neg =>
  obtain ⟨y1,y2,y3⟩:=Rf.eqb h0;have g0:=(T4.o.at 1 rfl).cell 0;have g1:=(T4.o.at 1 rfl).cell 1;have f0:=(T4.o.at 1 rfl).frozen 0;have f1:=(T4.o.at 1 rfl).frozen 1;simp only [gA,gZ,gS] at g0 g1;obtain ⟨r0,r1,hm⟩:=T4.o.got (x':=.int .i64 e) (y':=.int .i64 (at_:Int)) 1 rfl;have HM:=Hi hm;clear h0 hm;go_wp2_with fail;exact bodyPost_ret (v:=.agg #[.int .i64 e,.int .i64 (at_:Int)]) (by simp [results,Tryz.results38,go_sem,r0,r1]) rfl ⟨rfl,HM.o⟩
 subst h0;obtain rfl:=HE0.o rfl;simp only [Int.natCast_zero] at b1 T4 ⊢;go_wp2_with fail;refine (CX.o _ T4.o.mod).mono ?_;rintro x v4 ⟨rfl,m4⟩;have S4:=Hi (T4.o.call m4);clear T4 CX m4 A b0 b1;have b0:=(S4.o.at 2 rfl).cell 0;have b1:=(S4.o.at 2 rfl).cell 1;have f0:=(S4.o.at 2 rfl).frozen 0;have f1:=(S4.o.at 2 rfl).frozen 1;have T5:=Hi (S4.o.got2 (x':=.int .i64 0) (y':=.int .i64 0) 2 rfl);simp only [gA,gZ,gS] at b0 b1;simp only [List.cons_append,List.nil_append,List.set_cons_succ,List.set_cons_zero] at T5;unfold gM;go_upto_region 10 with fail;clear b0 b1 f0 f1 S4;generalize (v4.setCell _ _).setCell _ _=u4 at *
 have A:=(T5.o.at 0 rfl).cell;have b0:=(T5.o.at 2 rfl).cell 0;have b1:=(T5.o.at 2 rfl).cell 1;simp only [gA,gZ,gS] at b0 b1;go_wp2_with fail;refine (CP.o _ T5.o.mod).mono ?_;rintro x v5 ⟨rfl,m5⟩;have S5:=Hi (T5.o.call m5);clear T5 CP m5 A b0 b1;have b0:=(S5.o.at 2 rfl).cell 0;have b1:=(S5.o.at 2 rfl).cell 1;have f0:=(S5.o.at 2 rfl).frozen 0;have f1:=(S5.o.at 2 rfl).frozen 1;have T6:=Hi (S5.o.got2 (x':=.int .i64 0) (y':=.int .i64 0) 2 rfl);simp only [gA,gZ,gS] at b0 b1;simp only [List.cons_append,List.nil_append,List.set_cons_succ,List.set_cons_zero] at T6;unfold gM;go_upto_region 12 with fail;clear b0 b1 f0 f1 S5;generalize (v5.setCell _ _).setCell _ _=u5 at *
 have A:=(T6.o.at 0 rfl).cell;have b0:=(T6.o.at 2 rfl).cell 0;have b1:=(T6.o.at 2 rfl).cell 1;simp only [gA,gZ,gS] at b0 b1;have g0:=(T6.o.at 1 rfl).cell 0;have g1:=(T6.o.at 1 rfl).cell 1;have f0:=(T6.o.at 1 rfl).frozen 0;have f1:=(T6.o.at 1 rfl).frozen 1;simp only [gA,gZ,gS] at g0 g1;obtain ⟨r0,r1,hm⟩:=T6.o.got (x':=.int .i64 0) (y':=.int .i64 0) 1 rfl;have HM:=Hi hm;clear hm;go_wp2_with fail;exact bodyPost_ret (v:=.agg #[.int .i64 0,.int .i64 0]) (by simp [results,Tryz.results38,go_sem,r0,r1]) rfl ⟨rfl,HM.o⟩
end Go.Proofs.YthheaflbbficgaaGreat

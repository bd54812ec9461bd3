/- check: each looks at things one by one. Printed by gen_each.py. -/
import Derived.Test.YthheaflbbficgaaGreatGBase
import Derived.Test.YthheaflbbficgaaGreatGRf
import Derived.Test.YthheaflbbficgaaGreatGRing
import Derived.Deep.LoopGhost
import Derived.Deep.Cut
import Derived.IntWalk
set_option linter.all false
namespace Go.Proofs.YthheaflbbficgaaGreat
set_option maxHeartbeats 8000000
open Go.RowKit
theorem Ck.eachFrom_stop {α:Type} {f:Nat->α->Int} {l:List α} {i:Nat} (hi:i<l.length) (h:f i l[i]≠0):Ck.eachFrom f i (l.drop i)=(f i l[i],i):=by
 rw [List.drop_eq_getElem_cons hi];unfold Ck.eachFrom;rw [if_neg h]
theorem Ck.eachFrom_go {α:Type} {f:Nat->α->Int} {l:List α} {i:Nat} (hi:i<l.length) (h:f i l[i]=0):Ck.eachFrom f i (l.drop i)=Ck.eachFrom f (i+1) (l.drop (i+1)):=by
 rw [List.drop_eq_getElem_cons hi];conv=>lhs;unfold Ck.eachFrom
 rw [if_pos h]
theorem Ck.eachFrom_end {α:Type} {f:Nat->α->Int} {l:List α}:Ck.eachFrom f l.length (l.drop l.length)=(0,0):=by rw [List.drop_length];rfl
theorem each_Point {F:List Nat} {J:Nat->World->Prop} {fn:Nat} {caps:Array Value} {oa:Option Addr} {n c B:Nat} {l:List DPoint} {f:Nat->DPoint->Int} (hS:∀ i,Stays (J i)) (hR:∀ i w,J i w->Rows 3 RPoint B w (.slice oa n c) l)
  (hf:∀ i x cs w,l[i]?=some x->J i w->RPoint B w cs x->Calls Tryz.prog fn (#[.int .i64 (i:Int),.agg cs.toArray]++caps) w fun e w'=>e=.returned (.int .i64 (f i x))/\Mod F w w'/\(f i x=0->J (i+1) w')) (hcf:∀ (a:Array Value) (w:World),(callFunc fn a).run Tryz.prog w=.ok (.enter fn a) w) (w:World) (h0:J 0 w) :
  Calls Tryz.prog 136 #[.slice oa n c,.func (.func fn) #[] caps] w fun e w'=>e=.returned (.tuple #[.int .i64 (Ck.each f l).1,.int .i64 ((Ck.each f l).2:Int)])/\Mod F w w':=by
 obtain ⟨_,_,he,hml⟩:=(hR 0 w h0).form;obtain rfl:n=l.length:=by cases he;rfl
 clear he;have HML:=Hi (show l.length<=9223372036854775807 from hml);have HR:=Hi hR;have HS:=Hi hS;have HF:=Hi hf;have H0:=Hi h0;have HM:=Hi (Mod.refl F w);clear hR hf h0 hS hml;go_enter Tryz.func136,Tryz.ntmps136;go_wp2_with fail
 go_loopg [11] l.length (fun gk v11 wr=>∃ i:Nat,v11=.int .i64 (i:Int)/\Hid (i+gk=l.length)/\Hid (J i wr)/\Hid (Mod F w wr)/\Hid (Ck.each f l=Ck.eachFrom f i (l.drop i)))
 case atStart=>exact ⟨0,rfl,by show 0+l.length=l.length;omega,H0.out,HM.out,rfl⟩
 case round =>
  obtain ⟨i,rfl,hi,HJ,HW,HE⟩:=hrel;clear HM H0
  by_cases hin:i<l.length
  case neg =>
   obtain rfl:i=l.length:=by have:=hi.out;omega
   have k1:decide ((l.length:Int)<(l.length:Int))=false:=dF (by omega);go_wp2;go_ret2;rw [HE.out,Ck.eachFrom_end];exact ⟨rfl,HW.out⟩
  have k1:decide ((i:Int)<(l.length:Int))=true:=dT (by omega);have k2:(0:Int)<=i:=by omega
  have k3:(i:Int)<(l.length:Int):=by omega
  have k4:decide (i<l.length)=true:=dT hin;have HN1:=Hi (fun h=>HE.out.trans (Ck.eachFrom_stop (f:=f) hin h));have HN2:=Hi (fun h=>HE.out.trans (Ck.eachFrom_go (f:=f) hin h));have HGI:=Hi (gE hin);obtain ⟨a,rfl,-,cs,-,hc0,hcj,hx⟩:=(HR.out i wr HJ.out).at i hin;generalize l[i]=x at *
  obtain ⟨rfl,-⟩:=id hx;have c0:=hc0 (by decide);have c1:=hcj 1 (by decide) (by decide);have c2:=hcj 2 (by decide) (by decide);simp only [gZ,gS] at c0 c1 c2;have HX:=Hi (HF.out i x _ wr HGI.out HJ.out hx);have ei:IntKind.i64.wrap ((i:Int)+1)=(i:Int)+1:=IntWalk.i64_in _ (by have:=HML.out;omega);have al:Mod [] wr (wr.alloc (.cells #[.int .i64 x.x,.int .i64 x.y,.bool x.on] 97)):=mR.alloc _;have HX:=Hi (HF.out i x _ _ HGI.out (HS.out i _ _ HJ.out al) (RPoint.stay _ _ _ _ _ hx (al.above B)));have HB:=Hi (Blk.new wr #[.int .i64 x.x,.int .i64 x.y,.bool x.on] 97);have HA:=Hi al;clear hc0 hcj hx al hin;go_upto_region 4 with fail;generalize wr.alloc (.cells #[.int .i64 x.x,.int .i64 x.y,.bool x.on] 97)=w1 at *
  have q0:=HB.out.cell 0;have q1:=HB.out.cell 1;have q2:=HB.out.cell 2;simp only [gA,gZ,gS] at q0 q1 q2;generalize wr.heap.size=b7 at *
  clear c0 c1 c2 HJ HB;go_wp2_with fail;refine HX.out.mono ?_;rintro e w2 ⟨rfl,m2,j2⟩;have HW2:=Hi ((HW.out.then (HA.out.more (by simp))).then m2);have HJ2:=Hi j2;clear m2 j2 HX HGI q0 q1 q2 HA
  by_cases hz:f i x=0
  case neg =>
   have z1:(f i x != 0)=true:=by simpa using hz
   have z2:decide (f i x=0)=false:=dF hz;have z3:(f i x == 0)=false:=by simpa using hz
   have HE2:=Hi (HN1.out hz);generalize f i x=e at *
   go_wp2;go_ret2;rw [HE2.out];exact ⟨rfl,HW2.out⟩
  have HE2:=Hi (HN2.out hz);have HJ3:=Hi (HJ2.out hz);rw [hz];clear HE HJ2 hz HN1 HN2;go_wp2;go_roundg (gk - 1)
  case measure=>have:=hi.out;omega
  case rel=>exact ⟨i+1,by rw [Int.natCast_add];rfl,by have:=hi.out;show i+1+(gk - 1)=l.length;omega,HJ3.out,HW2.out,HE2.out⟩
theorem each_Part {F:List Nat} {J:Nat->World->Prop} {fn:Nat} {caps:Array Value} {oa:Option Addr} {n c B:Nat} {l:List DPart} {f:Nat->DPart->Int} (hS:∀ i,Stays (J i)) (hR:∀ i w,J i w->Rows 3 RPart B w (.slice oa n c) l)
  (hf:∀ i x cs w,l[i]?=some x->J i w->RPart B w cs x->Calls Tryz.prog fn (#[.int .i64 (i:Int),.agg cs.toArray]++caps) w fun e w'=>e=.returned (.int .i64 (f i x))/\Mod F w w'/\(f i x=0->J (i+1) w')) (hcf:∀ (a:Array Value) (w:World),(callFunc fn a).run Tryz.prog w=.ok (.enter fn a) w) (w:World) (h0:J 0 w) :
  Calls Tryz.prog 140 #[.slice oa n c,.func (.func fn) #[] caps] w fun e w'=>e=.returned (.tuple #[.int .i64 (Ck.each f l).1,.int .i64 ((Ck.each f l).2:Int)])/\Mod F w w':=by
 obtain ⟨_,_,he,hml⟩:=(hR 0 w h0).form;obtain rfl:n=l.length:=by cases he;rfl
 clear he;have HML:=Hi (show l.length<=9223372036854775807 from hml);have HR:=Hi hR;have HS:=Hi hS;have HF:=Hi hf;have H0:=Hi h0;have HM:=Hi (Mod.refl F w);clear hR hf h0 hS hml;go_enter Tryz.func140,Tryz.ntmps140;go_wp2_with fail
 go_loopg [11] l.length (fun gk v11 wr=>∃ i:Nat,v11=.int .i64 (i:Int)/\Hid (i+gk=l.length)/\Hid (J i wr)/\Hid (Mod F w wr)/\Hid (Ck.each f l=Ck.eachFrom f i (l.drop i)))
 case atStart=>exact ⟨0,rfl,by show 0+l.length=l.length;omega,H0.out,HM.out,rfl⟩
 case round =>
  obtain ⟨i,rfl,hi,HJ,HW,HE⟩:=hrel;clear HM H0
  by_cases hin:i<l.length
  case neg =>
   obtain rfl:i=l.length:=by have:=hi.out;omega
   have k1:decide ((l.length:Int)<(l.length:Int))=false:=dF (by omega);go_wp2;go_ret2;rw [HE.out,Ck.eachFrom_end];exact ⟨rfl,HW.out⟩
  have k1:decide ((i:Int)<(l.length:Int))=true:=dT (by omega);have k2:(0:Int)<=i:=by omega
  have k3:(i:Int)<(l.length:Int):=by omega
  have k4:decide (i<l.length)=true:=dT hin;have HN1:=Hi (fun h=>HE.out.trans (Ck.eachFrom_stop (f:=f) hin h));have HN2:=Hi (fun h=>HE.out.trans (Ck.eachFrom_go (f:=f) hin h));have HGI:=Hi (gE hin);obtain ⟨a,rfl,-,cs,-,hc0,hcj,hx⟩:=(HR.out i wr HJ.out).at i hin;generalize l[i]=x at *
  obtain ⟨rfl,-⟩:=id hx;have c0:=hc0 (by decide);have c1:=hcj 1 (by decide) (by decide);have c2:=hcj 2 (by decide) (by decide);simp only [gZ,gS] at c0 c1 c2;have HX:=Hi (HF.out i x _ wr HGI.out HJ.out hx);have ei:IntKind.i64.wrap ((i:Int)+1)=(i:Int)+1:=IntWalk.i64_in _ (by have:=HML.out;omega);have al:Mod [] wr (wr.alloc (.cells #[.int .i64 x.glyph,.int .i64 x.x,.int .i64 x.y] 69)):=mR.alloc _;have HX:=Hi (HF.out i x _ _ HGI.out (HS.out i _ _ HJ.out al) (RPart.stay _ _ _ _ _ hx (al.above B)));have HB:=Hi (Blk.new wr #[.int .i64 x.glyph,.int .i64 x.x,.int .i64 x.y] 69);have HA:=Hi al;clear hc0 hcj hx al hin;go_upto_region 4 with fail;generalize wr.alloc (.cells #[.int .i64 x.glyph,.int .i64 x.x,.int .i64 x.y] 69)=w1 at *
  have q0:=HB.out.cell 0;have q1:=HB.out.cell 1;have q2:=HB.out.cell 2;simp only [gA,gZ,gS] at q0 q1 q2;generalize wr.heap.size=b7 at *
  clear c0 c1 c2 HJ HB;go_wp2_with fail;refine HX.out.mono ?_;rintro e w2 ⟨rfl,m2,j2⟩;have HW2:=Hi ((HW.out.then (HA.out.more (by simp))).then m2);have HJ2:=Hi j2;clear m2 j2 HX HGI q0 q1 q2 HA
  by_cases hz:f i x=0
  case neg =>
   have z1:(f i x != 0)=true:=by simpa using hz
   have z2:decide (f i x=0)=false:=dF hz;have z3:(f i x == 0)=false:=by simpa using hz
   have HE2:=Hi (HN1.out hz);generalize f i x=e at *
   go_wp2;go_ret2;rw [HE2.out];exact ⟨rfl,HW2.out⟩
  have HE2:=Hi (HN2.out hz);have HJ3:=Hi (HJ2.out hz);rw [hz];clear HE HJ2 hz HN1 HN2;go_wp2;go_roundg (gk - 1)
  case measure=>have:=hi.out;omega
  case rel=>exact ⟨i+1,by rw [Int.natCast_add];rfl,by have:=hi.out;show i+1+(gk - 1)=l.length;omega,HJ3.out,HW2.out,HE2.out⟩
theorem each_Anchor {F:List Nat} {J:Nat->World->Prop} {fn:Nat} {caps:Array Value} {oa:Option Addr} {n c B:Nat} {l:List DAnchor} {f:Nat->DAnchor->Int} (hS:∀ i,Stays (J i)) (hR:∀ i w,J i w->Rows 4 RAnchor B w (.slice oa n c) l)
  (hf:∀ i x cs w,l[i]?=some x->J i w->RAnchor B w cs x->Calls Tryz.prog fn (#[.int .i64 (i:Int),.agg cs.toArray]++caps) w fun e w'=>e=.returned (.int .i64 (f i x))/\Mod F w w'/\(f i x=0->J (i+1) w')) (hcf:∀ (a:Array Value) (w:World),(callFunc fn a).run Tryz.prog w=.ok (.enter fn a) w) (w:World) (h0:J 0 w) :
  Calls Tryz.prog 142 #[.slice oa n c,.func (.func fn) #[] caps] w fun e w'=>e=.returned (.tuple #[.int .i64 (Ck.each f l).1,.int .i64 ((Ck.each f l).2:Int)])/\Mod F w w':=by
 obtain ⟨_,_,he,hml⟩:=(hR 0 w h0).form;obtain rfl:n=l.length:=by cases he;rfl
 clear he;have HML:=Hi (show l.length<=9223372036854775807 from hml);have HR:=Hi hR;have HS:=Hi hS;have HF:=Hi hf;have H0:=Hi h0;have HM:=Hi (Mod.refl F w);clear hR hf h0 hS hml;go_enter Tryz.func142,Tryz.ntmps142;go_wp2_with fail
 go_loopg [11] l.length (fun gk v11 wr=>∃ i:Nat,v11=.int .i64 (i:Int)/\Hid (i+gk=l.length)/\Hid (J i wr)/\Hid (Mod F w wr)/\Hid (Ck.each f l=Ck.eachFrom f i (l.drop i)))
 case atStart=>exact ⟨0,rfl,by show 0+l.length=l.length;omega,H0.out,HM.out,rfl⟩
 case round =>
  obtain ⟨i,rfl,hi,HJ,HW,HE⟩:=hrel;clear HM H0
  by_cases hin:i<l.length
  case neg =>
   obtain rfl:i=l.length:=by have:=hi.out;omega
   have k1:decide ((l.length:Int)<(l.length:Int))=false:=dF (by omega);go_wp2;go_ret2;rw [HE.out,Ck.eachFrom_end];exact ⟨rfl,HW.out⟩
  have k1:decide ((i:Int)<(l.length:Int))=true:=dT (by omega);have k2:(0:Int)<=i:=by omega
  have k3:(i:Int)<(l.length:Int):=by omega
  have k4:decide (i<l.length)=true:=dT hin;have HN1:=Hi (fun h=>HE.out.trans (Ck.eachFrom_stop (f:=f) hin h));have HN2:=Hi (fun h=>HE.out.trans (Ck.eachFrom_go (f:=f) hin h));have HGI:=Hi (gE hin);obtain ⟨a,rfl,-,cs,-,hc0,hcj,hx⟩:=(HR.out i wr HJ.out).at i hin;generalize l[i]=x at *
  obtain ⟨rfl,-⟩:=id hx;have c0:=hc0 (by decide);have c1:=hcj 1 (by decide) (by decide);have c2:=hcj 2 (by decide) (by decide);have c3:=hcj 3 (by decide) (by decide);simp only [gZ,gS] at c0 c1 c2 c3;have HX:=Hi (HF.out i x _ wr HGI.out HJ.out hx);have ei:IntKind.i64.wrap ((i:Int)+1)=(i:Int)+1:=IntWalk.i64_in _ (by have:=HML.out;omega);have al:Mod [] wr (wr.alloc (.cells #[.int .i64 x.kind,.int .i64 x.cls,.int .i64 x.x,.int .i64 x.y] 145)):=mR.alloc _;have HX:=Hi (HF.out i x _ _ HGI.out (HS.out i _ _ HJ.out al) (RAnchor.stay _ _ _ _ _ hx (al.above B)));have HB:=Hi (Blk.new wr #[.int .i64 x.kind,.int .i64 x.cls,.int .i64 x.x,.int .i64 x.y] 145);have HA:=Hi al;clear hc0 hcj hx al hin;go_upto_region 4 with fail;generalize wr.alloc (.cells #[.int .i64 x.kind,.int .i64 x.cls,.int .i64 x.x,.int .i64 x.y] 145)=w1 at *
  have q0:=HB.out.cell 0;have q1:=HB.out.cell 1;have q2:=HB.out.cell 2;have q3:=HB.out.cell 3;simp only [gA,gZ,gS] at q0 q1 q2 q3;generalize wr.heap.size=b7 at *
  clear c0 c1 c2 c3 HJ HB;go_wp2_with fail;refine HX.out.mono ?_;rintro e w2 ⟨rfl,m2,j2⟩;have HW2:=Hi ((HW.out.then (HA.out.more (by simp))).then m2);have HJ2:=Hi j2;clear m2 j2 HX HGI q0 q1 q2 q3 HA
  by_cases hz:f i x=0
  case neg =>
   have z1:(f i x != 0)=true:=by simpa using hz
   have z2:decide (f i x=0)=false:=dF hz;have z3:(f i x == 0)=false:=by simpa using hz
   have HE2:=Hi (HN1.out hz);generalize f i x=e at *
   go_wp2;go_ret2;rw [HE2.out];exact ⟨rfl,HW2.out⟩
  have HE2:=Hi (HN2.out hz);have HJ3:=Hi (HJ2.out hz);rw [hz];clear HE HJ2 hz HN1 HN2;go_wp2;go_roundg (gk - 1)
  case measure=>have:=hi.out;omega
  case rel=>exact ⟨i+1,by rw [Int.natCast_add];rfl,by have:=hi.out;show i+1+(gk - 1)=l.length;omega,HJ3.out,HW2.out,HE2.out⟩
theorem each_Delta {F:List Nat} {J:Nat->World->Prop} {fn:Nat} {caps:Array Value} {oa:Option Addr} {n c B:Nat} {l:List DDelta} {f:Nat->DDelta->Int} (hS:∀ i,Stays (J i)) (hR:∀ i w,J i w->Rows 4 RDelta B w (.slice oa n c) l)
  (hf:∀ i x cs w,l[i]?=some x->J i w->RDelta B w cs x->Calls Tryz.prog fn (#[.int .i64 (i:Int),.agg cs.toArray]++caps) w fun e w'=>e=.returned (.int .i64 (f i x))/\Mod F w w'/\(f i x=0->J (i+1) w')) (hcf:∀ (a:Array Value) (w:World),(callFunc fn a).run Tryz.prog w=.ok (.enter fn a) w) (w:World) (h0:J 0 w) :
  Calls Tryz.prog 145 #[.slice oa n c,.func (.func fn) #[] caps] w fun e w'=>e=.returned (.tuple #[.int .i64 (Ck.each f l).1,.int .i64 ((Ck.each f l).2:Int)])/\Mod F w w':=by
 obtain ⟨_,_,he,hml⟩:=(hR 0 w h0).form;obtain rfl:n=l.length:=by cases he;rfl
 clear he;have HML:=Hi (show l.length<=9223372036854775807 from hml);have HR:=Hi hR;have HS:=Hi hS;have HF:=Hi hf;have H0:=Hi h0;have HM:=Hi (Mod.refl F w);clear hR hf h0 hS hml;go_enter Tryz.func145,Tryz.ntmps145;go_wp2_with fail
 go_loopg [11] l.length (fun gk v11 wr=>∃ i:Nat,v11=.int .i64 (i:Int)/\Hid (i+gk=l.length)/\Hid (J i wr)/\Hid (Mod F w wr)/\Hid (Ck.each f l=Ck.eachFrom f i (l.drop i)))
 case atStart=>exact ⟨0,rfl,by show 0+l.length=l.length;omega,H0.out,HM.out,rfl⟩
 case round =>
  obtain ⟨i,rfl,hi,HJ,HW,HE⟩:=hrel;clear HM H0
  by_cases hin:i<l.length
  case neg =>
   obtain rfl:i=l.length:=by have:=hi.out;omega
   have k1:decide ((l.length:Int)<(l.length:Int))=false:=dF (by omega);go_wp2;go_ret2;rw [HE.out,Ck.eachFrom_end];exact ⟨rfl,HW.out⟩
  have k1:decide ((i:Int)<(l.length:Int))=true:=dT (by omega);have k2:(0:Int)<=i:=by omega
  have k3:(i:Int)<(l.length:Int):=by omega
  have k4:decide (i<l.length)=true:=dT hin;have HN1:=Hi (fun h=>HE.out.trans (Ck.eachFrom_stop (f:=f) hin h));have HN2:=Hi (fun h=>HE.out.trans (Ck.eachFrom_go (f:=f) hin h));have HGI:=Hi (gE hin);obtain ⟨a,rfl,-,cs,-,hc0,hcj,hx⟩:=(HR.out i wr HJ.out).at i hin;generalize l[i]=x at *
  obtain ⟨rfl,-⟩:=id hx;have c0:=hc0 (by decide);have c1:=hcj 1 (by decide) (by decide);have c2:=hcj 2 (by decide) (by decide);have c3:=hcj 3 (by decide) (by decide);simp only [gZ,gS] at c0 c1 c2 c3;have HX:=Hi (HF.out i x _ wr HGI.out HJ.out hx);have ei:IntKind.i64.wrap ((i:Int)+1)=(i:Int)+1:=IntWalk.i64_in _ (by have:=HML.out;omega);have al:Mod [] wr (wr.alloc (.cells #[.int .i64 x.region,.int .i64 x.point,.int .i64 x.x,.int .i64 x.y] 147)):=mR.alloc _;have HX:=Hi (HF.out i x _ _ HGI.out (HS.out i _ _ HJ.out al) (RDelta.stay _ _ _ _ _ hx (al.above B)));have HB:=Hi (Blk.new wr #[.int .i64 x.region,.int .i64 x.point,.int .i64 x.x,.int .i64 x.y] 147);have HA:=Hi al;clear hc0 hcj hx al hin;go_upto_region 4 with fail;generalize wr.alloc (.cells #[.int .i64 x.region,.int .i64 x.point,.int .i64 x.x,.int .i64 x.y] 147)=w1 at *
  have q0:=HB.out.cell 0;have q1:=HB.out.cell 1;have q2:=HB.out.cell 2;have q3:=HB.out.cell 3;simp only [gA,gZ,gS] at q0 q1 q2 q3;generalize wr.heap.size=b7 at *
  clear c0 c1 c2 c3 HJ HB;go_wp2_with fail;refine HX.out.mono ?_;rintro e w2 ⟨rfl,m2,j2⟩;have HW2:=Hi ((HW.out.then (HA.out.more (by simp))).then m2);have HJ2:=Hi j2;clear m2 j2 HX HGI q0 q1 q2 q3 HA
  by_cases hz:f i x=0
  case neg =>
   have z1:(f i x != 0)=true:=by simpa using hz
   have z2:decide (f i x=0)=false:=dF hz;have z3:(f i x == 0)=false:=by simpa using hz
   have HE2:=Hi (HN1.out hz);generalize f i x=e at *
   go_wp2;go_ret2;rw [HE2.out];exact ⟨rfl,HW2.out⟩
  have HE2:=Hi (HN2.out hz);have HJ3:=Hi (HJ2.out hz);rw [hz];clear HE HJ2 hz HN1 HN2;go_wp2;go_roundg (gk - 1)
  case measure=>have:=hi.out;omega
  case rel=>exact ⟨i+1,by rw [Int.natCast_add];rfl,by have:=hi.out;show i+1+(gk - 1)=l.length;omega,HJ3.out,HW2.out,HE2.out⟩
theorem each_Ins {F:List Nat} {J:Nat->World->Prop} {fn:Nat} {caps:Array Value} {oa:Option Addr} {n c B:Nat} {l:List DIns} {f:Nat->DIns->Int} (hS:∀ i,Stays (J i)) (hR:∀ i w,J i w->Rows 2 RIns B w (.slice oa n c) l)
  (hf:∀ i x cs w,l[i]?=some x->J i w->RIns B w cs x->Calls Tryz.prog fn (#[.int .i64 (i:Int),.agg cs.toArray]++caps) w fun e w'=>e=.returned (.int .i64 (f i x))/\Mod F w w'/\(f i x=0->J (i+1) w')) (hcf:∀ (a:Array Value) (w:World),(callFunc fn a).run Tryz.prog w=.ok (.enter fn a) w) (w:World) (h0:J 0 w) :
  Calls Tryz.prog 171 #[.slice oa n c,.func (.func fn) #[] caps] w fun e w'=>e=.returned (.tuple #[.int .i64 (Ck.each f l).1,.int .i64 ((Ck.each f l).2:Int)])/\Mod F w w':=by
 obtain ⟨_,_,he,hml⟩:=(hR 0 w h0).form;obtain rfl:n=l.length:=by cases he;rfl
 clear he;have HML:=Hi (show l.length<=9223372036854775807 from hml);have HR:=Hi hR;have HS:=Hi hS;have HF:=Hi hf;have H0:=Hi h0;have HM:=Hi (Mod.refl F w);clear hR hf h0 hS hml;go_enter Tryz.func171,Tryz.ntmps171;go_wp2_with fail
 go_loopg [11] l.length (fun gk v11 wr=>∃ i:Nat,v11=.int .i64 (i:Int)/\Hid (i+gk=l.length)/\Hid (J i wr)/\Hid (Mod F w wr)/\Hid (Ck.each f l=Ck.eachFrom f i (l.drop i)))
 case atStart=>exact ⟨0,rfl,by show 0+l.length=l.length;omega,H0.out,HM.out,rfl⟩
 case round =>
  obtain ⟨i,rfl,hi,HJ,HW,HE⟩:=hrel;clear HM H0
  by_cases hin:i<l.length
  case neg =>
   obtain rfl:i=l.length:=by have:=hi.out;omega
   have k1:decide ((l.length:Int)<(l.length:Int))=false:=dF (by omega);go_wp2;go_ret2;rw [HE.out,Ck.eachFrom_end];exact ⟨rfl,HW.out⟩
  have k1:decide ((i:Int)<(l.length:Int))=true:=dT (by omega);have k2:(0:Int)<=i:=by omega
  have k3:(i:Int)<(l.length:Int):=by omega
  have k4:decide (i<l.length)=true:=dT hin;have HN1:=Hi (fun h=>HE.out.trans (Ck.eachFrom_stop (f:=f) hin h));have HN2:=Hi (fun h=>HE.out.trans (Ck.eachFrom_go (f:=f) hin h));have HGI:=Hi (gE hin);obtain ⟨a,rfl,-,cs,-,hc0,hcj,hx⟩:=(HR.out i wr HJ.out).at i hin;generalize l[i]=x at *
  obtain ⟨rfl,-⟩:=id hx;have c0:=hc0 (by decide);have c1:=hcj 1 (by decide) (by decide);simp only [gZ,gS] at c0 c1;have HX:=Hi (HF.out i x _ wr HGI.out HJ.out hx);have ei:IntKind.i64.wrap ((i:Int)+1)=(i:Int)+1:=IntWalk.i64_in _ (by have:=HML.out;omega);have al:Mod [] wr (wr.alloc (.cells #[.int .i64 x.op,.int .i64 x.a] 48)):=mR.alloc _;have HX:=Hi (HF.out i x _ _ HGI.out (HS.out i _ _ HJ.out al) (RIns.stay _ _ _ _ _ hx (al.above B)));have HB:=Hi (Blk.new wr #[.int .i64 x.op,.int .i64 x.a] 48);have HA:=Hi al;clear hc0 hcj hx al hin;go_upto_region 4 with fail;generalize wr.alloc (.cells #[.int .i64 x.op,.int .i64 x.a] 48)=w1 at *
  have q0:=HB.out.cell 0;have q1:=HB.out.cell 1;simp only [gA,gZ,gS] at q0 q1;generalize wr.heap.size=b7 at *
  clear c0 c1 HJ HB;go_wp2_with fail;refine HX.out.mono ?_;rintro e w2 ⟨rfl,m2,j2⟩;have HW2:=Hi ((HW.out.then (HA.out.more (by simp))).then m2);have HJ2:=Hi j2;clear m2 j2 HX HGI q0 q1 HA
  by_cases hz:f i x=0
  case neg =>
   have z1:(f i x != 0)=true:=by simpa using hz
   have z2:decide (f i x=0)=false:=dF hz;have z3:(f i x == 0)=false:=by simpa using hz
   have HE2:=Hi (HN1.out hz);generalize f i x=e at *
   go_wp2;go_ret2;rw [HE2.out];exact ⟨rfl,HW2.out⟩
  have HE2:=Hi (HN2.out hz);have HJ3:=Hi (HJ2.out hz);rw [hz];clear HE HJ2 hz HN1 HN2;go_wp2;go_roundg (gk - 1)
  case measure=>have:=hi.out;omega
  case rel=>exact ⟨i+1,by rw [Int.natCast_add];rfl,by have:=hi.out;show i+1+(gk - 1)=l.length;omega,HJ3.out,HW2.out,HE2.out⟩
theorem each_Char {F:List Nat} {J:Nat->World->Prop} {fn:Nat} {caps:Array Value} {oa:Option Addr} {n c B:Nat} {l:List DChar} {f:Nat->DChar->Int} (hS:∀ i,Stays (J i)) (hR:∀ i w,J i w->Rows 2 RChar B w (.slice oa n c) l)
  (hf:∀ i x cs w,l[i]?=some x->J i w->RChar B w cs x->Calls Tryz.prog fn (#[.int .i64 (i:Int),.agg cs.toArray]++caps) w fun e w'=>e=.returned (.int .i64 (f i x))/\Mod F w w'/\(f i x=0->J (i+1) w')) (hcf:∀ (a:Array Value) (w:World),(callFunc fn a).run Tryz.prog w=.ok (.enter fn a) w) (w:World) (h0:J 0 w) :
  Calls Tryz.prog 117 #[.slice oa n c,.func (.func fn) #[] caps] w fun e w'=>e=.returned (.tuple #[.int .i64 (Ck.each f l).1,.int .i64 ((Ck.each f l).2:Int)])/\Mod F w w':=by
 obtain ⟨_,_,he,hml⟩:=(hR 0 w h0).form;obtain rfl:n=l.length:=by cases he;rfl
 clear he;have HML:=Hi (show l.length<=9223372036854775807 from hml);have HR:=Hi hR;have HS:=Hi hS;have HF:=Hi hf;have H0:=Hi h0;have HM:=Hi (Mod.refl F w);clear hR hf h0 hS hml;go_enter Tryz.func117,Tryz.ntmps117;go_wp2_with fail
 go_loopg [11] l.length (fun gk v11 wr=>∃ i:Nat,v11=.int .i64 (i:Int)/\Hid (i+gk=l.length)/\Hid (J i wr)/\Hid (Mod F w wr)/\Hid (Ck.each f l=Ck.eachFrom f i (l.drop i)))
 case atStart=>exact ⟨0,rfl,by show 0+l.length=l.length;omega,H0.out,HM.out,rfl⟩
 case round =>
  obtain ⟨i,rfl,hi,HJ,HW,HE⟩:=hrel;clear HM H0
  by_cases hin:i<l.length
  case neg =>
   obtain rfl:i=l.length:=by have:=hi.out;omega
   have k1:decide ((l.length:Int)<(l.length:Int))=false:=dF (by omega);go_wp2;go_ret2;rw [HE.out,Ck.eachFrom_end];exact ⟨rfl,HW.out⟩
  have k1:decide ((i:Int)<(l.length:Int))=true:=dT (by omega);have k2:(0:Int)<=i:=by omega
  have k3:(i:Int)<(l.length:Int):=by omega
  have k4:decide (i<l.length)=true:=dT hin;have HN1:=Hi (fun h=>HE.out.trans (Ck.eachFrom_stop (f:=f) hin h));have HN2:=Hi (fun h=>HE.out.trans (Ck.eachFrom_go (f:=f) hin h));have HGI:=Hi (gE hin);obtain ⟨a,rfl,-,cs,-,hc0,hcj,hx⟩:=(HR.out i wr HJ.out).at i hin;generalize l[i]=x at *
  obtain ⟨rfl,-⟩:=id hx;have c0:=hc0 (by decide);have c1:=hcj 1 (by decide) (by decide);simp only [gZ,gS] at c0 c1;have HX:=Hi (HF.out i x _ wr HGI.out HJ.out hx);have ei:IntKind.i64.wrap ((i:Int)+1)=(i:Int)+1:=IntWalk.i64_in _ (by have:=HML.out;omega);have al:Mod [] wr (wr.alloc (.cells #[.int .i64 x.rune,.int .i64 x.glyph] 37)):=mR.alloc _;have HX:=Hi (HF.out i x _ _ HGI.out (HS.out i _ _ HJ.out al) (RChar.stay _ _ _ _ _ hx (al.above B)));have HB:=Hi (Blk.new wr #[.int .i64 x.rune,.int .i64 x.glyph] 37);have HA:=Hi al;clear hc0 hcj hx al hin;go_upto_region 4 with fail;generalize wr.alloc (.cells #[.int .i64 x.rune,.int .i64 x.glyph] 37)=w1 at *
  have q0:=HB.out.cell 0;have q1:=HB.out.cell 1;simp only [gA,gZ,gS] at q0 q1;generalize wr.heap.size=b7 at *
  clear c0 c1 HJ HB;go_wp2_with fail;refine HX.out.mono ?_;rintro e w2 ⟨rfl,m2,j2⟩;have HW2:=Hi ((HW.out.then (HA.out.more (by simp))).then m2);have HJ2:=Hi j2;clear m2 j2 HX HGI q0 q1 HA
  by_cases hz:f i x=0
  case neg =>
   have z1:(f i x != 0)=true:=by simpa using hz
   have z2:decide (f i x=0)=false:=dF hz;have z3:(f i x == 0)=false:=by simpa using hz
   have HE2:=Hi (HN1.out hz);generalize f i x=e at *
   go_wp2;go_ret2;rw [HE2.out];exact ⟨rfl,HW2.out⟩
  have HE2:=Hi (HN2.out hz);have HJ3:=Hi (HJ2.out hz);rw [hz];clear HE HJ2 hz HN1 HN2;go_wp2;go_roundg (gk - 1)
  case measure=>have:=hi.out;omega
  case rel=>exact ⟨i+1,by rw [Int.natCast_add];rfl,by have:=hi.out;show i+1+(gk - 1)=l.length;omega,HJ3.out,HW2.out,HE2.out⟩
theorem each_Call {F:List Nat} {J:Nat->World->Prop} {fn:Nat} {caps:Array Value} {oa:Option Addr} {n c B:Nat} {l:List DCall} {f:Nat->DCall->Int} (hS:∀ i,Stays (J i)) (hR:∀ i w,J i w->Rows 2 RCall B w (.slice oa n c) l)
  (hf:∀ i x cs w,l[i]?=some x->J i w->RCall B w cs x->Calls Tryz.prog fn (#[.int .i64 (i:Int),.agg cs.toArray]++caps) w fun e w'=>e=.returned (.int .i64 (f i x))/\Mod F w w'/\(f i x=0->J (i+1) w')) (hcf:∀ (a:Array Value) (w:World),(callFunc fn a).run Tryz.prog w=.ok (.enter fn a) w) (w:World) (h0:J 0 w) :
  Calls Tryz.prog 175 #[.slice oa n c,.func (.func fn) #[] caps] w fun e w'=>e=.returned (.tuple #[.int .i64 (Ck.each f l).1,.int .i64 ((Ck.each f l).2:Int)])/\Mod F w w':=by
 obtain ⟨_,_,he,hml⟩:=(hR 0 w h0).form;obtain rfl:n=l.length:=by cases he;rfl
 clear he;have HML:=Hi (show l.length<=9223372036854775807 from hml);have HR:=Hi hR;have HS:=Hi hS;have HF:=Hi hf;have H0:=Hi h0;have HM:=Hi (Mod.refl F w);clear hR hf h0 hS hml;go_enter Tryz.func175,Tryz.ntmps175;go_wp2_with fail
 go_loopg [11] l.length (fun gk v11 wr=>∃ i:Nat,v11=.int .i64 (i:Int)/\Hid (i+gk=l.length)/\Hid (J i wr)/\Hid (Mod F w wr)/\Hid (Ck.each f l=Ck.eachFrom f i (l.drop i)))
 case atStart=>exact ⟨0,rfl,by show 0+l.length=l.length;omega,H0.out,HM.out,rfl⟩
 case round =>
  obtain ⟨i,rfl,hi,HJ,HW,HE⟩:=hrel;clear HM H0
  by_cases hin:i<l.length
  case neg =>
   obtain rfl:i=l.length:=by have:=hi.out;omega
   have k1:decide ((l.length:Int)<(l.length:Int))=false:=dF (by omega);go_wp2;go_ret2;rw [HE.out,Ck.eachFrom_end];exact ⟨rfl,HW.out⟩
  have k1:decide ((i:Int)<(l.length:Int))=true:=dT (by omega);have k2:(0:Int)<=i:=by omega
  have k3:(i:Int)<(l.length:Int):=by omega
  have k4:decide (i<l.length)=true:=dT hin;have HN1:=Hi (fun h=>HE.out.trans (Ck.eachFrom_stop (f:=f) hin h));have HN2:=Hi (fun h=>HE.out.trans (Ck.eachFrom_go (f:=f) hin h));have HGI:=Hi (gE hin);obtain ⟨a,rfl,-,cs,-,hc0,hcj,hx⟩:=(HR.out i wr HJ.out).at i hin;generalize l[i]=x at *
  obtain ⟨rfl,-⟩:=id hx;have c0:=hc0 (by decide);have c1:=hcj 1 (by decide) (by decide);simp only [gZ,gS] at c0 c1;have HX:=Hi (HF.out i x _ wr HGI.out HJ.out hx);have ei:IntKind.i64.wrap ((i:Int)+1)=(i:Int)+1:=IntWalk.i64_in _ (by have:=HML.out;omega);have al:Mod [] wr (wr.alloc (.cells #[.int .i64 x.pos,.int .i64 x.lookup] 51)):=mR.alloc _;have HX:=Hi (HF.out i x _ _ HGI.out (HS.out i _ _ HJ.out al) (RCall.stay _ _ _ _ _ hx (al.above B)));have HB:=Hi (Blk.new wr #[.int .i64 x.pos,.int .i64 x.lookup] 51);have HA:=Hi al;clear hc0 hcj hx al hin;go_upto_region 4 with fail;generalize wr.alloc (.cells #[.int .i64 x.pos,.int .i64 x.lookup] 51)=w1 at *
  have q0:=HB.out.cell 0;have q1:=HB.out.cell 1;simp only [gA,gZ,gS] at q0 q1;generalize wr.heap.size=b7 at *
  clear c0 c1 HJ HB;go_wp2_with fail;refine HX.out.mono ?_;rintro e w2 ⟨rfl,m2,j2⟩;have HW2:=Hi ((HW.out.then (HA.out.more (by simp))).then m2);have HJ2:=Hi j2;clear m2 j2 HX HGI q0 q1 HA
  by_cases hz:f i x=0
  case neg =>
   have z1:(f i x != 0)=true:=by simpa using hz
   have z2:decide (f i x=0)=false:=dF hz;have z3:(f i x == 0)=false:=by simpa using hz
   have HE2:=Hi (HN1.out hz);generalize f i x=e at *
   go_wp2;go_ret2;rw [HE2.out];exact ⟨rfl,HW2.out⟩
  have HE2:=Hi (HN2.out hz);have HJ3:=Hi (HJ2.out hz);rw [hz];clear HE HJ2 hz HN1 HN2;go_wp2;go_roundg (gk - 1)
  case measure=>have:=hi.out;omega
  case rel=>exact ⟨i+1,by rw [Int.natCast_add];rfl,by have:=hi.out;show i+1+(gk - 1)=l.length;omega,HJ3.out,HW2.out,HE2.out⟩
theorem each_Tent {F:List Nat} {J:Nat->World->Prop} {fn:Nat} {caps:Array Value} {oa:Option Addr} {n c B:Nat} {l:List DTent} {f:Nat->DTent->Int} (hS:∀ i,Stays (J i)) (hR:∀ i w,J i w->Rows 3 RTent B w (.slice oa n c) l)
  (hf:∀ i x cs w,l[i]?=some x->J i w->RTent B w cs x->Calls Tryz.prog fn (#[.int .i64 (i:Int),.agg cs.toArray]++caps) w fun e w'=>e=.returned (.int .i64 (f i x))/\Mod F w w'/\(f i x=0->J (i+1) w')) (hcf:∀ (a:Array Value) (w:World),(callFunc fn a).run Tryz.prog w=.ok (.enter fn a) w) (w:World) (h0:J 0 w) :
  Calls Tryz.prog 127 #[.slice oa n c,.func (.func fn) #[] caps] w fun e w'=>e=.returned (.tuple #[.int .i64 (Ck.each f l).1,.int .i64 ((Ck.each f l).2:Int)])/\Mod F w w':=by
 obtain ⟨_,_,he,hml⟩:=(hR 0 w h0).form;obtain rfl:n=l.length:=by cases he;rfl
 clear he;have HML:=Hi (show l.length<=9223372036854775807 from hml);have HR:=Hi hR;have HS:=Hi hS;have HF:=Hi hf;have H0:=Hi h0;have HM:=Hi (Mod.refl F w);clear hR hf h0 hS hml;go_enter Tryz.func127,Tryz.ntmps127;go_wp2_with fail
 go_loopg [11] l.length (fun gk v11 wr=>∃ i:Nat,v11=.int .i64 (i:Int)/\Hid (i+gk=l.length)/\Hid (J i wr)/\Hid (Mod F w wr)/\Hid (Ck.each f l=Ck.eachFrom f i (l.drop i)))
 case atStart=>exact ⟨0,rfl,by show 0+l.length=l.length;omega,H0.out,HM.out,rfl⟩
 case round =>
  obtain ⟨i,rfl,hi,HJ,HW,HE⟩:=hrel;clear HM H0
  by_cases hin:i<l.length
  case neg =>
   obtain rfl:i=l.length:=by have:=hi.out;omega
   have k1:decide ((l.length:Int)<(l.length:Int))=false:=dF (by omega);go_wp2;go_ret2;rw [HE.out,Ck.eachFrom_end];exact ⟨rfl,HW.out⟩
  have k1:decide ((i:Int)<(l.length:Int))=true:=dT (by omega);have k2:(0:Int)<=i:=by omega
  have k3:(i:Int)<(l.length:Int):=by omega
  have k4:decide (i<l.length)=true:=dT hin;have HN1:=Hi (fun h=>HE.out.trans (Ck.eachFrom_stop (f:=f) hin h));have HN2:=Hi (fun h=>HE.out.trans (Ck.eachFrom_go (f:=f) hin h));have HGI:=Hi (gE hin);obtain ⟨a,rfl,-,cs,-,hc0,hcj,hx⟩:=(HR.out i wr HJ.out).at i hin;generalize l[i]=x at *
  obtain ⟨rfl,-⟩:=id hx;have c0:=hc0 (by decide);have c1:=hcj 1 (by decide) (by decide);have c2:=hcj 2 (by decide) (by decide);simp only [gZ,gS] at c0 c1 c2;have HX:=Hi (HF.out i x _ wr HGI.out HJ.out hx);have ei:IntKind.i64.wrap ((i:Int)+1)=(i:Int)+1:=IntWalk.i64_in _ (by have:=HML.out;omega);have al:Mod [] wr (wr.alloc (.cells #[.int .i64 x.start,.int .i64 x.peak,.int .i64 x.stop] 81)):=mR.alloc _;have HX:=Hi (HF.out i x _ _ HGI.out (HS.out i _ _ HJ.out al) (RTent.stay _ _ _ _ _ hx (al.above B)));have HB:=Hi (Blk.new wr #[.int .i64 x.start,.int .i64 x.peak,.int .i64 x.stop] 81);have HA:=Hi al;clear hc0 hcj hx al hin;go_upto_region 4 with fail;generalize wr.alloc (.cells #[.int .i64 x.start,.int .i64 x.peak,.int .i64 x.stop] 81)=w1 at *
  have q0:=HB.out.cell 0;have q1:=HB.out.cell 1;have q2:=HB.out.cell 2;simp only [gA,gZ,gS] at q0 q1 q2;generalize wr.heap.size=b7 at *
  clear c0 c1 c2 HJ HB;go_wp2_with fail;refine HX.out.mono ?_;rintro e w2 ⟨rfl,m2,j2⟩;have HW2:=Hi ((HW.out.then (HA.out.more (by simp))).then m2);have HJ2:=Hi j2;clear m2 j2 HX HGI q0 q1 q2 HA
  by_cases hz:f i x=0
  case neg =>
   have z1:(f i x != 0)=true:=by simpa using hz
   have z2:decide (f i x=0)=false:=dF hz;have z3:(f i x == 0)=false:=by simpa using hz
   have HE2:=Hi (HN1.out hz);generalize f i x=e at *
   go_wp2;go_ret2;rw [HE2.out];exact ⟨rfl,HW2.out⟩
  have HE2:=Hi (HN2.out hz);have HJ3:=Hi (HJ2.out hz);rw [hz];clear HE HJ2 hz HN1 HN2;go_wp2;go_roundg (gk - 1)
  case measure=>have:=hi.out;omega
  case rel=>exact ⟨i+1,by rw [Int.natCast_add];rfl,by have:=hi.out;show i+1+(gk - 1)=l.length;omega,HJ3.out,HW2.out,HE2.out⟩
theorem each_Axis {F:List Nat} {J:Nat->World->Prop} {fn:Nat} {caps:Array Value} {oa:Option Addr} {n c B:Nat} {l:List DAxis} {f:Nat->DAxis->Int} (hS:∀ i,Stays (J i)) (hR:∀ i w,J i w->Rows 4 RAxis B w (.slice oa n c) l)
  (hf:∀ i x cs w,l[i]?=some x->J i w->RAxis B w cs x->Calls Tryz.prog fn (#[.int .i64 (i:Int),.agg cs.toArray]++caps) w fun e w'=>e=.returned (.int .i64 (f i x))/\Mod F w w'/\(f i x=0->J (i+1) w')) (hcf:∀ (a:Array Value) (w:World),(callFunc fn a).run Tryz.prog w=.ok (.enter fn a) w) (w:World) (h0:J 0 w) :
  Calls Tryz.prog 124 #[.slice oa n c,.func (.func fn) #[] caps] w fun e w'=>e=.returned (.tuple #[.int .i64 (Ck.each f l).1,.int .i64 ((Ck.each f l).2:Int)])/\Mod F w w':=by
 obtain ⟨_,_,he,hml⟩:=(hR 0 w h0).form;obtain rfl:n=l.length:=by cases he;rfl
 clear he;have HML:=Hi (show l.length<=9223372036854775807 from hml);have HR:=Hi hR;have HS:=Hi hS;have HF:=Hi hf;have H0:=Hi h0;have HM:=Hi (Mod.refl F w);clear hR hf h0 hS hml;go_enter Tryz.func124,Tryz.ntmps124;go_wp2_with fail
 go_loopg [11] l.length (fun gk v11 wr=>∃ i:Nat,v11=.int .i64 (i:Int)/\Hid (i+gk=l.length)/\Hid (J i wr)/\Hid (Mod F w wr)/\Hid (Ck.each f l=Ck.eachFrom f i (l.drop i)))
 case atStart=>exact ⟨0,rfl,by show 0+l.length=l.length;omega,H0.out,HM.out,rfl⟩
 case round =>
  obtain ⟨i,rfl,hi,HJ,HW,HE⟩:=hrel;clear HM H0
  by_cases hin:i<l.length
  case neg =>
   obtain rfl:i=l.length:=by have:=hi.out;omega
   have k1:decide ((l.length:Int)<(l.length:Int))=false:=dF (by omega);go_wp2;go_ret2;rw [HE.out,Ck.eachFrom_end];exact ⟨rfl,HW.out⟩
  have k1:decide ((i:Int)<(l.length:Int))=true:=dT (by omega);have k2:(0:Int)<=i:=by omega
  have k3:(i:Int)<(l.length:Int):=by omega
  have k4:decide (i<l.length)=true:=dT hin;have HN1:=Hi (fun h=>HE.out.trans (Ck.eachFrom_stop (f:=f) hin h));have HN2:=Hi (fun h=>HE.out.trans (Ck.eachFrom_go (f:=f) hin h));have HGI:=Hi (gE hin);obtain ⟨a,rfl,-,cs,-,hc0,hcj,hx⟩:=(HR.out i wr HJ.out).at i hin;generalize l[i]=x at *
  obtain ⟨rfl,-⟩:=id hx;have c0:=hc0 (by decide);have c1:=hcj 1 (by decide) (by decide);have c2:=hcj 2 (by decide) (by decide);have c3:=hcj 3 (by decide) (by decide);simp only [gZ,gS] at c0 c1 c2 c3;have HX:=Hi (HF.out i x _ wr HGI.out HJ.out hx);have ei:IntKind.i64.wrap ((i:Int)+1)=(i:Int)+1:=IntWalk.i64_in _ (by have:=HML.out;omega);have al:Mod [] wr (wr.alloc (.cells #[.string x.name,.int .i64 x.min,.int .i64 x.dflt,.int .i64 x.max] 76)):=mR.alloc _;have HX:=Hi (HF.out i x _ _ HGI.out (HS.out i _ _ HJ.out al) (RAxis.stay _ _ _ _ _ hx (al.above B)));have HB:=Hi (Blk.new wr #[.string x.name,.int .i64 x.min,.int .i64 x.dflt,.int .i64 x.max] 76);have HA:=Hi al;clear hc0 hcj hx al hin;go_upto_region 4 with fail;generalize wr.alloc (.cells #[.string x.name,.int .i64 x.min,.int .i64 x.dflt,.int .i64 x.max] 76)=w1 at *
  have q0:=HB.out.cell 0;have q1:=HB.out.cell 1;have q2:=HB.out.cell 2;have q3:=HB.out.cell 3;simp only [gA,gZ,gS] at q0 q1 q2 q3;generalize wr.heap.size=b7 at *
  clear c0 c1 c2 c3 HJ HB;go_wp2_with fail;refine HX.out.mono ?_;rintro e w2 ⟨rfl,m2,j2⟩;have HW2:=Hi ((HW.out.then (HA.out.more (by simp))).then m2);have HJ2:=Hi j2;clear m2 j2 HX HGI q0 q1 q2 q3 HA
  by_cases hz:f i x=0
  case neg =>
   have z1:(f i x != 0)=true:=by simpa using hz
   have z2:decide (f i x=0)=false:=dF hz;have z3:(f i x == 0)=false:=by simpa using hz
   have HE2:=Hi (HN1.out hz);generalize f i x=e at *
   go_wp2;go_ret2;rw [HE2.out];exact ⟨rfl,HW2.out⟩
  have HE2:=Hi (HN2.out hz);have HJ3:=Hi (HJ2.out hz);rw [hz];clear HE HJ2 hz HN1 HN2;go_wp2;go_roundg (gk - 1)
  case measure=>have:=hi.out;omega
  case rel=>exact ⟨i+1,by rw [Int.natCast_add];rfl,by have:=hi.out;show i+1+(gk - 1)=l.length;omega,HJ3.out,HW2.out,HE2.out⟩
theorem each_Feature {F:List Nat} {J:Nat->World->Prop} {fn:Nat} {caps:Array Value} {oa:Option Addr} {n c B:Nat} {l:List DFeature} {f:Nat->DFeature->Int} (hS:∀ i,Stays (J i)) (hR:∀ i w,J i w->Rows 2 RFeature B w (.slice oa n c) l)
  (hf:∀ i x cs w,l[i]?=some x->J i w->RFeature B w cs x->Calls Tryz.prog fn (#[.int .i64 (i:Int),.agg cs.toArray]++caps) w fun e w'=>e=.returned (.int .i64 (f i x))/\Mod F w w'/\(f i x=0->J (i+1) w')) (hcf:∀ (a:Array Value) (w:World),(callFunc fn a).run Tryz.prog w=.ok (.enter fn a) w) (w:World) (h0:J 0 w) :
  Calls Tryz.prog 121 #[.slice oa n c,.func (.func fn) #[] caps] w fun e w'=>e=.returned (.tuple #[.int .i64 (Ck.each f l).1,.int .i64 ((Ck.each f l).2:Int)])/\Mod F w w':=by
 obtain ⟨_,_,he,hml⟩:=(hR 0 w h0).form;obtain rfl:n=l.length:=by cases he;rfl
 clear he;have HML:=Hi (show l.length<=9223372036854775807 from hml);have HR:=Hi hR;have HS:=Hi hS;have HF:=Hi hf;have H0:=Hi h0;have HM:=Hi (Mod.refl F w);clear hR hf h0 hS hml;go_enter Tryz.func121,Tryz.ntmps121;go_wp2_with fail
 go_loopg [11] l.length (fun gk v11 wr=>∃ i:Nat,v11=.int .i64 (i:Int)/\Hid (i+gk=l.length)/\Hid (J i wr)/\Hid (Mod F w wr)/\Hid (Ck.each f l=Ck.eachFrom f i (l.drop i)))
 case atStart=>exact ⟨0,rfl,by show 0+l.length=l.length;omega,H0.out,HM.out,rfl⟩
 case round =>
  obtain ⟨i,rfl,hi,HJ,HW,HE⟩:=hrel;clear HM H0
  by_cases hin:i<l.length
  case neg =>
   obtain rfl:i=l.length:=by have:=hi.out;omega
   have k1:decide ((l.length:Int)<(l.length:Int))=false:=dF (by omega);go_wp2;go_ret2;rw [HE.out,Ck.eachFrom_end];exact ⟨rfl,HW.out⟩
  have k1:decide ((i:Int)<(l.length:Int))=true:=dT (by omega);have k2:(0:Int)<=i:=by omega
  have k3:(i:Int)<(l.length:Int):=by omega
  have k4:decide (i<l.length)=true:=dT hin;have HN1:=Hi (fun h=>HE.out.trans (Ck.eachFrom_stop (f:=f) hin h));have HN2:=Hi (fun h=>HE.out.trans (Ck.eachFrom_go (f:=f) hin h));have HGI:=Hi (gE hin);obtain ⟨a,rfl,-,cs,-,hc0,hcj,hx⟩:=(HR.out i wr HJ.out).at i hin;generalize l[i]=x at *
  obtain ⟨v1,rfl,-,y1⟩:=id hx;obtain ⟨o1,d1,rfl,-⟩:=y1.form;have c0:=hc0 (by decide);have c1:=hcj 1 (by decide) (by decide);simp only [gZ,gS] at c0 c1;clear y1;have HX:=Hi (HF.out i x _ wr HGI.out HJ.out hx);have ei:IntKind.i64.wrap ((i:Int)+1)=(i:Int)+1:=IntWalk.i64_in _ (by have:=HML.out;omega);have al:Mod [] wr (wr.alloc (.cells #[.string x.name,.slice o1 x.lookups.length d1] 88)):=mR.alloc _;have HX:=Hi (HF.out i x _ _ HGI.out (HS.out i _ _ HJ.out al) (RFeature.stay _ _ _ _ _ hx (al.above B)));have HB:=Hi (Blk.new wr #[.string x.name,.slice o1 x.lookups.length d1] 88);have HA:=Hi al;clear hc0 hcj hx al hin;go_upto_region 4 with fail;generalize wr.alloc (.cells #[.string x.name,.slice o1 x.lookups.length d1] 88)=w1 at *
  have q0:=HB.out.cell 0;have q1:=HB.out.cell 1;simp only [gA,gZ,gS] at q0 q1;generalize wr.heap.size=b7 at *
  clear c0 c1 HJ HB;go_wp2_with fail;refine HX.out.mono ?_;rintro e w2 ⟨rfl,m2,j2⟩;have HW2:=Hi ((HW.out.then (HA.out.more (by simp))).then m2);have HJ2:=Hi j2;clear m2 j2 HX HGI q0 q1 HA
  by_cases hz:f i x=0
  case neg =>
   have z1:(f i x != 0)=true:=by simpa using hz
   have z2:decide (f i x=0)=false:=dF hz;have z3:(f i x == 0)=false:=by simpa using hz
   have HE2:=Hi (HN1.out hz);generalize f i x=e at *
   go_wp2;go_ret2;rw [HE2.out];exact ⟨rfl,HW2.out⟩
  have HE2:=Hi (HN2.out hz);have HJ3:=Hi (HJ2.out hz);rw [hz];clear HE HJ2 hz HN1 HN2;go_wp2;go_roundg (gk - 1)
  case measure=>have:=hi.out;omega
  case rel=>exact ⟨i+1,by rw [Int.natCast_add];rfl,by have:=hi.out;show i+1+(gk - 1)=l.length;omega,HJ3.out,HW2.out,HE2.out⟩
theorem each_Rule {F:List Nat} {J:Nat->World->Prop} {fn:Nat} {caps:Array Value} {oa:Option Addr} {n c B:Nat} {l:List DRule} {f:Nat->DRule->Int} (hS:∀ i,Stays (J i)) (hR:∀ i w,J i w->Rows 6 RRule B w (.slice oa n c) l)
  (hf:∀ i x cs w,l[i]?=some x->J i w->RRule B w cs x->Calls Tryz.prog fn (#[.int .i64 (i:Int),.agg cs.toArray]++caps) w fun e w'=>e=.returned (.int .i64 (f i x))/\Mod F w w'/\(f i x=0->J (i+1) w')) (hcf:∀ (a:Array Value) (w:World),(callFunc fn a).run Tryz.prog w=.ok (.enter fn a) w) (w:World) (h0:J 0 w) :
  Calls Tryz.prog 103 #[.slice oa n c,.func (.func fn) #[] caps] w fun e w'=>e=.returned (.tuple #[.int .i64 (Ck.each f l).1,.int .i64 ((Ck.each f l).2:Int)])/\Mod F w w':=by
 obtain ⟨_,_,he,hml⟩:=(hR 0 w h0).form;obtain rfl:n=l.length:=by cases he;rfl
 clear he;have HML:=Hi (show l.length<=9223372036854775807 from hml);have HR:=Hi hR;have HS:=Hi hS;have HF:=Hi hf;have H0:=Hi h0;have HM:=Hi (Mod.refl F w);clear hR hf h0 hS hml;go_enter Tryz.func103,Tryz.ntmps103;go_wp2_with fail
 go_loopg [11] l.length (fun gk v11 wr=>∃ i:Nat,v11=.int .i64 (i:Int)/\Hid (i+gk=l.length)/\Hid (J i wr)/\Hid (Mod F w wr)/\Hid (Ck.each f l=Ck.eachFrom f i (l.drop i)))
 case atStart=>exact ⟨0,rfl,by show 0+l.length=l.length;omega,H0.out,HM.out,rfl⟩
 case round =>
  obtain ⟨i,rfl,hi,HJ,HW,HE⟩:=hrel;clear HM H0
  by_cases hin:i<l.length
  case neg =>
   obtain rfl:i=l.length:=by have:=hi.out;omega
   have k1:decide ((l.length:Int)<(l.length:Int))=false:=dF (by omega);go_wp2;go_ret2;rw [HE.out,Ck.eachFrom_end];exact ⟨rfl,HW.out⟩
  have k1:decide ((i:Int)<(l.length:Int))=true:=dT (by omega);have k2:(0:Int)<=i:=by omega
  have k3:(i:Int)<(l.length:Int):=by omega
  have k4:decide (i<l.length)=true:=dT hin;have HN1:=Hi (fun h=>HE.out.trans (Ck.eachFrom_stop (f:=f) hin h));have HN2:=Hi (fun h=>HE.out.trans (Ck.eachFrom_go (f:=f) hin h));have HGI:=Hi (gE hin);obtain ⟨a,rfl,-,cs,-,hc0,hcj,hx⟩:=(HR.out i wr HJ.out).at i hin;generalize l[i]=x at *
  obtain ⟨v0,v1,v2,v3,v4,rfl,y0,y1,y2,y3,y4,-⟩:=id hx;obtain ⟨o0,d0,rfl,-⟩:=y0.form;obtain ⟨o1,d1,rfl,-⟩:=y1.form;obtain ⟨o2,d2,rfl,-⟩:=y2.form;obtain ⟨o3,d3,rfl,-⟩:=y3.form;obtain ⟨o4,d4,rfl,-⟩:=y4.form;have c0:=hc0 (by decide);have c1:=hcj 1 (by decide) (by decide);have c2:=hcj 2 (by decide) (by decide);have c3:=hcj 3 (by decide) (by decide);have c4:=hcj 4 (by decide) (by decide);have c5:=hcj 5 (by decide) (by decide);simp only [gZ,gS] at c0 c1 c2 c3 c4 c5;clear y0 y1 y2 y3 y4;have HX:=Hi (HF.out i x _ wr HGI.out HJ.out hx);have ei:IntKind.i64.wrap ((i:Int)+1)=(i:Int)+1:=IntWalk.i64_in _ (by have:=HML.out;omega);have al:Mod [] wr (wr.alloc (.cells #[.slice o0 x.back.length d0,.slice o1 x.ins.length d1,.slice o2 x.ahead.length d2,.slice o3 x.out.length d3,.slice o4 x.calls.length d4,.int .i64 x.x] 54)):=mR.alloc _;have HX:=Hi (HF.out i x _ _ HGI.out (HS.out i _ _ HJ.out al) (RRule.stay _ _ _ _ _ hx (al.above B)));have HB:=Hi (Blk.new wr #[.slice o0 x.back.length d0,.slice o1 x.ins.length d1,.slice o2 x.ahead.length d2,.slice o3 x.out.length d3,.slice o4 x.calls.length d4,.int .i64 x.x] 54);have HA:=Hi al;clear hc0 hcj hx al hin;go_upto_region 4 with fail;generalize wr.alloc (.cells #[.slice o0 x.back.length d0,.slice o1 x.ins.length d1,.slice o2 x.ahead.length d2,.slice o3 x.out.length d3,.slice o4 x.calls.length d4,.int .i64 x.x] 54)=w1 at *
  have q0:=HB.out.cell 0;have q1:=HB.out.cell 1;have q2:=HB.out.cell 2;have q3:=HB.out.cell 3;have q4:=HB.out.cell 4;have q5:=HB.out.cell 5;simp only [gA,gZ,gS] at q0 q1 q2 q3 q4 q5;generalize wr.heap.size=b7 at *
  clear c0 c1 c2 c3 c4 c5 HJ HB;go_wp2_with fail;refine HX.out.mono ?_;rintro e w2 ⟨rfl,m2,j2⟩;have HW2:=Hi ((HW.out.then (HA.out.more (by simp))).then m2);have HJ2:=Hi j2;clear m2 j2 HX HGI q0 q1 q2 q3 q4 q5 HA
  by_cases hz:f i x=0
  case neg =>
   have z1:(f i x != 0)=true:=by simpa using hz
   have z2:decide (f i x=0)=false:=dF hz;have z3:(f i x == 0)=false:=by simpa using hz
   have HE2:=Hi (HN1.out hz);generalize f i x=e at *
   go_wp2;go_ret2;rw [HE2.out];exact ⟨rfl,HW2.out⟩
  have HE2:=Hi (HN2.out hz);have HJ3:=Hi (HJ2.out hz);rw [hz];clear HE HJ2 hz HN1 HN2;go_wp2;go_roundg (gk - 1)
  case measure=>have:=hi.out;omega
  case rel=>exact ⟨i+1,by rw [Int.natCast_add];rfl,by have:=hi.out;show i+1+(gk - 1)=l.length;omega,HJ3.out,HW2.out,HE2.out⟩
theorem each_Lookup {F:List Nat} {J:Nat->World->Prop} {fn:Nat} {caps:Array Value} {oa:Option Addr} {n c B:Nat} {l:List DLookup} {f:Nat->DLookup->Int} (hS:∀ i,Stays (J i)) (hR:∀ i w,J i w->Rows 3 RLookup B w (.slice oa n c) l)
  (hf:∀ i x cs w,l[i]?=some x->J i w->RLookup B w cs x->Calls Tryz.prog fn (#[.int .i64 (i:Int),.agg cs.toArray]++caps) w fun e w'=>e=.returned (.int .i64 (f i x))/\Mod F w w'/\(f i x=0->J (i+1) w')) (hcf:∀ (a:Array Value) (w:World),(callFunc fn a).run Tryz.prog w=.ok (.enter fn a) w) (w:World) (h0:J 0 w) :
  Calls Tryz.prog 119 #[.slice oa n c,.func (.func fn) #[] caps] w fun e w'=>e=.returned (.tuple #[.int .i64 (Ck.each f l).1,.int .i64 ((Ck.each f l).2:Int)])/\Mod F w w':=by
 obtain ⟨_,_,he,hml⟩:=(hR 0 w h0).form;obtain rfl:n=l.length:=by cases he;rfl
 clear he;have HML:=Hi (show l.length<=9223372036854775807 from hml);have HR:=Hi hR;have HS:=Hi hS;have HF:=Hi hf;have H0:=Hi h0;have HM:=Hi (Mod.refl F w);clear hR hf h0 hS hml;go_enter Tryz.func119,Tryz.ntmps119;go_wp2_with fail
 go_loopg [11] l.length (fun gk v11 wr=>∃ i:Nat,v11=.int .i64 (i:Int)/\Hid (i+gk=l.length)/\Hid (J i wr)/\Hid (Mod F w wr)/\Hid (Ck.each f l=Ck.eachFrom f i (l.drop i)))
 case atStart=>exact ⟨0,rfl,by show 0+l.length=l.length;omega,H0.out,HM.out,rfl⟩
 case round =>
  obtain ⟨i,rfl,hi,HJ,HW,HE⟩:=hrel;clear HM H0
  by_cases hin:i<l.length
  case neg =>
   obtain rfl:i=l.length:=by have:=hi.out;omega
   have k1:decide ((l.length:Int)<(l.length:Int))=false:=dF (by omega);go_wp2;go_ret2;rw [HE.out,Ck.eachFrom_end];exact ⟨rfl,HW.out⟩
  have k1:decide ((i:Int)<(l.length:Int))=true:=dT (by omega);have k2:(0:Int)<=i:=by omega
  have k3:(i:Int)<(l.length:Int):=by omega
  have k4:decide (i<l.length)=true:=dT hin;have HN1:=Hi (fun h=>HE.out.trans (Ck.eachFrom_stop (f:=f) hin h));have HN2:=Hi (fun h=>HE.out.trans (Ck.eachFrom_go (f:=f) hin h));have HGI:=Hi (gE hin);obtain ⟨a,rfl,-,cs,-,hc0,hcj,hx⟩:=(HR.out i wr HJ.out).at i hin;generalize l[i]=x at *
  obtain ⟨v2,rfl,-,y2⟩:=id hx;obtain ⟨o2,d2,rfl,-⟩:=y2.form;have c0:=hc0 (by decide);have c1:=hcj 1 (by decide) (by decide);have c2:=hcj 2 (by decide) (by decide);simp only [gZ,gS] at c0 c1 c2;clear y2;have HX:=Hi (HF.out i x _ wr HGI.out HJ.out hx);have ei:IntKind.i64.wrap ((i:Int)+1)=(i:Int)+1:=IntWalk.i64_in _ (by have:=HML.out;omega);have al:Mod [] wr (wr.alloc (.cells #[.int .i64 x.kind,.bool x.ignore,.slice o2 x.rules.length d2] 57)):=mR.alloc _;have HX:=Hi (HF.out i x _ _ HGI.out (HS.out i _ _ HJ.out al) (RLookup.stay _ _ _ _ _ hx (al.above B)));have HB:=Hi (Blk.new wr #[.int .i64 x.kind,.bool x.ignore,.slice o2 x.rules.length d2] 57);have HA:=Hi al;clear hc0 hcj hx al hin;go_upto_region 4 with fail;generalize wr.alloc (.cells #[.int .i64 x.kind,.bool x.ignore,.slice o2 x.rules.length d2] 57)=w1 at *
  have q0:=HB.out.cell 0;have q1:=HB.out.cell 1;have q2:=HB.out.cell 2;simp only [gA,gZ,gS] at q0 q1 q2;generalize wr.heap.size=b7 at *
  clear c0 c1 c2 HJ HB;go_wp2_with fail;refine HX.out.mono ?_;rintro e w2 ⟨rfl,m2,j2⟩;have HW2:=Hi ((HW.out.then (HA.out.more (by simp))).then m2);have HJ2:=Hi j2;clear m2 j2 HX HGI q0 q1 q2 HA
  by_cases hz:f i x=0
  case neg =>
   have z1:(f i x != 0)=true:=by simpa using hz
   have z2:decide (f i x=0)=false:=dF hz;have z3:(f i x == 0)=false:=by simpa using hz
   have HE2:=Hi (HN1.out hz);generalize f i x=e at *
   go_wp2;go_ret2;rw [HE2.out];exact ⟨rfl,HW2.out⟩
  have HE2:=Hi (HN2.out hz);have HJ3:=Hi (HJ2.out hz);rw [hz];clear HE HJ2 hz HN1 HN2;go_wp2;go_roundg (gk - 1)
  case measure=>have:=hi.out;omega
  case rel=>exact ⟨i+1,by rw [Int.natCast_add];rfl,by have:=hi.out;show i+1+(gk - 1)=l.length;omega,HJ3.out,HW2.out,HE2.out⟩
theorem each_Glyph {F:List Nat} {J:Nat->World->Prop} {fn:Nat} {caps:Array Value} {oa:Option Addr} {n c B:Nat} {l:List DGlyph} {f:Nat->DGlyph->Int} (hS:∀ i,Stays (J i)) (hR:∀ i w,J i w->Rows 9 RGlyph B w (.slice oa n c) l)
  (hf:∀ i x cs w,l[i]?=some x->J i w->RGlyph B w cs x->Calls Tryz.prog fn (#[.int .i64 (i:Int),.agg cs.toArray]++caps) w fun e w'=>e=.returned (.int .i64 (f i x))/\Mod F w w'/\(f i x=0->J (i+1) w')) (hcf:∀ (a:Array Value) (w:World),(callFunc fn a).run Tryz.prog w=.ok (.enter fn a) w) (w:World) (h0:J 0 w) :
  Calls Tryz.prog 109 #[.slice oa n c,.func (.func fn) #[] caps] w fun e w'=>e=.returned (.tuple #[.int .i64 (Ck.each f l).1,.int .i64 ((Ck.each f l).2:Int)])/\Mod F w w':=by
 obtain ⟨_,_,he,hml⟩:=(hR 0 w h0).form;obtain rfl:n=l.length:=by cases he;rfl
 clear he;have HML:=Hi (show l.length<=9223372036854775807 from hml);have HR:=Hi hR;have HS:=Hi hS;have HF:=Hi hf;have H0:=Hi h0;have HM:=Hi (Mod.refl F w);clear hR hf h0 hS hml;go_enter Tryz.func109,Tryz.ntmps109;go_wp2_with fail
 go_loopg [11] l.length (fun gk v11 wr=>∃ i:Nat,v11=.int .i64 (i:Int)/\Hid (i+gk=l.length)/\Hid (J i wr)/\Hid (Mod F w wr)/\Hid (Ck.each f l=Ck.eachFrom f i (l.drop i)))
 case atStart=>exact ⟨0,rfl,by show 0+l.length=l.length;omega,H0.out,HM.out,rfl⟩
 case round =>
  obtain ⟨i,rfl,hi,HJ,HW,HE⟩:=hrel;clear HM H0
  by_cases hin:i<l.length
  case neg =>
   obtain rfl:i=l.length:=by have:=hi.out;omega
   have k1:decide ((l.length:Int)<(l.length:Int))=false:=dF (by omega);go_wp2;go_ret2;rw [HE.out,Ck.eachFrom_end];exact ⟨rfl,HW.out⟩
  have k1:decide ((i:Int)<(l.length:Int))=true:=dT (by omega);have k2:(0:Int)<=i:=by omega
  have k3:(i:Int)<(l.length:Int):=by omega
  have k4:decide (i<l.length)=true:=dT hin;have HN1:=Hi (fun h=>HE.out.trans (Ck.eachFrom_stop (f:=f) hin h));have HN2:=Hi (fun h=>HE.out.trans (Ck.eachFrom_go (f:=f) hin h));have HGI:=Hi (gE hin);obtain ⟨a,rfl,-,cs,-,hc0,hcj,hx⟩:=(HR.out i wr HJ.out).at i hin;generalize l[i]=x at *
  obtain ⟨v3,v4,v5,v6,v7,v8,rfl,-,-,y3,y4,y5,y6,y7,y8⟩:=id hx;obtain ⟨o3,d3,rfl,-⟩:=y3.form;obtain ⟨o4,d4,rfl,-⟩:=y4.form;obtain ⟨o5,d5,rfl,-⟩:=y5.form;obtain ⟨o6,d6,rfl,-⟩:=y6.form;obtain ⟨o7,d7,rfl,-⟩:=y7.form;obtain ⟨o8,d8,rfl,-⟩:=y8.form;have c0:=hc0 (by decide);have c1:=hcj 1 (by decide) (by decide);have c2:=hcj 2 (by decide) (by decide);have c3:=hcj 3 (by decide) (by decide);have c4:=hcj 4 (by decide) (by decide);have c5:=hcj 5 (by decide) (by decide);have c6:=hcj 6 (by decide) (by decide);have c7:=hcj 7 (by decide) (by decide);have c8:=hcj 8 (by decide) (by decide);simp only [gZ,gS] at c0 c1 c2 c3 c4 c5 c6 c7 c8;clear y3 y4 y5 y6 y7 y8;have HX:=Hi (HF.out i x _ wr HGI.out HJ.out hx);have ei:IntKind.i64.wrap ((i:Int)+1)=(i:Int)+1:=IntWalk.i64_in _ (by have:=HML.out;omega);have al:Mod [] wr (wr.alloc (.cells #[.string x.name,.int .i64 x.adv,.bool x.mark,.slice o3 x.pts.length d3,.slice o4 x.ends.length d4,.slice o5 x.parts.length d5,.slice o6 x.anchors.length d6,.slice o7 x.deltas.length d7,.slice o8 x.hint.length d8] 46)):=mR.alloc _;have HX:=Hi (HF.out i x _ _ HGI.out (HS.out i _ _ HJ.out al) (RGlyph.stay _ _ _ _ _ hx (al.above B)));have HB:=Hi (Blk.new wr #[.string x.name,.int .i64 x.adv,.bool x.mark,.slice o3 x.pts.length d3,.slice o4 x.ends.length d4,.slice o5 x.parts.length d5,.slice o6 x.anchors.length d6,.slice o7 x.deltas.length d7,.slice o8 x.hint.length d8] 46);have HA:=Hi al;clear hc0 hcj hx al hin;go_upto_region 4 with fail;generalize wr.alloc (.cells #[.string x.name,.int .i64 x.adv,.bool x.mark,.slice o3 x.pts.length d3,.slice o4 x.ends.length d4,.slice o5 x.parts.length d5,.slice o6 x.anchors.length d6,.slice o7 x.deltas.length d7,.slice o8 x.hint.length d8] 46)=w1 at *
  have q0:=HB.out.cell 0;have q1:=HB.out.cell 1;have q2:=HB.out.cell 2;have q3:=HB.out.cell 3;have q4:=HB.out.cell 4;have q5:=HB.out.cell 5;have q6:=HB.out.cell 6;have q7:=HB.out.cell 7;have q8:=HB.out.cell 8;simp only [gA,gZ,gS] at q0 q1 q2 q3 q4 q5 q6 q7 q8;generalize wr.heap.size=b7 at *
  clear c0 c1 c2 c3 c4 c5 c6 c7 c8 HJ HB;go_wp2_with fail;refine HX.out.mono ?_;rintro e w2 ⟨rfl,m2,j2⟩;have HW2:=Hi ((HW.out.then (HA.out.more (by simp))).then m2);have HJ2:=Hi j2;clear m2 j2 HX HGI q0 q1 q2 q3 q4 q5 q6 q7 q8 HA
  by_cases hz:f i x=0
  case neg =>
   have z1:(f i x != 0)=true:=by simpa using hz
   have z2:decide (f i x=0)=false:=dF hz;have z3:(f i x == 0)=false:=by simpa using hz
   have HE2:=Hi (HN1.out hz);generalize f i x=e at *
   go_wp2;go_ret2;rw [HE2.out];exact ⟨rfl,HW2.out⟩
  have HE2:=Hi (HN2.out hz);have HJ3:=Hi (HJ2.out hz);rw [hz];clear HE HJ2 hz HN1 HN2;go_wp2;go_roundg (gk - 1)
  case measure=>have:=hi.out;omega
  case rel=>exact ⟨i+1,by rw [Int.natCast_add];rfl,by have:=hi.out;show i+1+(gk - 1)=l.length;omega,HJ3.out,HW2.out,HE2.out⟩
theorem each_Region {F:List Nat} {J:Nat->World->Prop} {fn:Nat} {caps:Array Value} {oa:Option Addr} {n c B:Nat} {l:List DRegion} {f:Nat->DRegion->Int} (hS:∀ i,Stays (J i)) (hR:∀ i w,J i w->Rows 1 RRegion B w (.slice oa n c) l)
  (hf:∀ i x cs w,l[i]?=some x->J i w->RRegion B w cs x->Calls Tryz.prog fn (#[.int .i64 (i:Int),.agg cs.toArray]++caps) w fun e w'=>e=.returned (.int .i64 (f i x))/\Mod F w w'/\(f i x=0->J (i+1) w')) (hcf:∀ (a:Array Value) (w:World),(callFunc fn a).run Tryz.prog w=.ok (.enter fn a) w) (w:World) (h0:J 0 w) :
  Calls Tryz.prog 126 #[.slice oa n c,.func (.func fn) #[] caps] w fun e w'=>e=.returned (.tuple #[.int .i64 (Ck.each f l).1,.int .i64 ((Ck.each f l).2:Int)])/\Mod F w w':=by
 obtain ⟨_,_,he,hml⟩:=(hR 0 w h0).form;obtain rfl:n=l.length:=by cases he;rfl
 clear he;have HML:=Hi (show l.length<=9223372036854775807 from hml);have HR:=Hi hR;have HS:=Hi hS;have HF:=Hi hf;have H0:=Hi h0;have HM:=Hi (Mod.refl F w);clear hR hf h0 hS hml;go_enter Tryz.func126,Tryz.ntmps126;go_wp2_with fail
 go_loopg [11] l.length (fun gk v11 wr=>∃ i:Nat,v11=.int .i64 (i:Int)/\Hid (i+gk=l.length)/\Hid (J i wr)/\Hid (Mod F w wr)/\Hid (Ck.each f l=Ck.eachFrom f i (l.drop i)))
 case atStart=>exact ⟨0,rfl,by show 0+l.length=l.length;omega,H0.out,HM.out,rfl⟩
 case round =>
  obtain ⟨i,rfl,hi,HJ,HW,HE⟩:=hrel;clear HM H0
  by_cases hin:i<l.length
  case neg =>
   obtain rfl:i=l.length:=by have:=hi.out;omega
   have k1:decide ((l.length:Int)<(l.length:Int))=false:=dF (by omega);go_wp2;go_ret2;rw [HE.out,Ck.eachFrom_end];exact ⟨rfl,HW.out⟩
  have k1:decide ((i:Int)<(l.length:Int))=true:=dT (by omega);have k2:(0:Int)<=i:=by omega
  have k3:(i:Int)<(l.length:Int):=by omega
  have k4:decide (i<l.length)=true:=dT hin;have HN1:=Hi (fun h=>HE.out.trans (Ck.eachFrom_stop (f:=f) hin h));have HN2:=Hi (fun h=>HE.out.trans (Ck.eachFrom_go (f:=f) hin h));have HGI:=Hi (gE hin);obtain ⟨a,rfl,-,cs,-,hc0,hcj,hx⟩:=(HR.out i wr HJ.out).at i hin;generalize l[i]=x at *
  obtain ⟨v0,rfl,y0⟩:=id hx;obtain ⟨o0,d0,rfl,-⟩:=y0.form;have c0:=hc0 (by decide);simp only [Nat.mul_one,gZ,gS] at c0;clear y0;have HX:=Hi (HF.out i x _ wr HGI.out HJ.out hx);have ei:IntKind.i64.wrap ((i:Int)+1)=(i:Int)+1:=IntWalk.i64_in _ (by have:=HML.out;omega);have al:Mod [] wr (wr.alloc (.cells #[.slice o0 x.tents.length d0] 79)):=mR.alloc _;have HX:=Hi (HF.out i x _ _ HGI.out (HS.out i _ _ HJ.out al) (RRegion.stay _ _ _ _ _ hx (al.above B)));have HB:=Hi (Blk.new wr #[.slice o0 x.tents.length d0] 79);have HA:=Hi al;clear hc0 hcj hx al hin;go_upto_region 4 with fail;generalize wr.alloc (.cells #[.slice o0 x.tents.length d0] 79)=w1 at *
  have q0:=HB.out.cell 0;simp only [gA,gZ,gS] at q0;generalize wr.heap.size=b7 at *
  clear c0 HJ HB;go_wp2_with fail;refine HX.out.mono ?_;rintro e w2 ⟨rfl,m2,j2⟩;have HW2:=Hi ((HW.out.then (HA.out.more (by simp))).then m2);have HJ2:=Hi j2;clear m2 j2 HX HGI q0 HA
  by_cases hz:f i x=0
  case neg =>
   have z1:(f i x != 0)=true:=by simpa using hz
   have z2:decide (f i x=0)=false:=dF hz;have z3:(f i x == 0)=false:=by simpa using hz
   have HE2:=Hi (HN1.out hz);generalize f i x=e at *
   go_wp2;go_ret2;rw [HE2.out];exact ⟨rfl,HW2.out⟩
  have HE2:=Hi (HN2.out hz);have HJ3:=Hi (HJ2.out hz);rw [hz];clear HE HJ2 hz HN1 HN2;go_wp2;go_roundg (gk - 1)
  case measure=>have:=hi.out;omega
  case rel=>exact ⟨i+1,by rw [Int.natCast_add];rfl,by have:=hi.out;show i+1+(gk - 1)=l.length;omega,HJ3.out,HW2.out,HE2.out⟩
theorem each_Int {F:List Nat} {J:Nat->World->Prop} {fn:Nat} {caps:Array Value} {oa:Option Addr} {n c B:Nat} {l:List Int} {f:Nat->Int->Int} (hS:∀ i,Stays (J i)) (hR:∀ i w,J i w->Rows 1 RInt B w (.slice oa n c) l)
  (hf:∀ i x cs w,l[i]?=some x->J i w->RInt B w cs x->Calls Tryz.prog fn (#[.int .i64 (i:Int),cs.headD undef]++caps) w fun e w'=>e=.returned (.int .i64 (f i x))/\Mod F w w'/\(f i x=0->J (i+1) w')) (hcf:∀ (a:Array Value) (w:World),(callFunc fn a).run Tryz.prog w=.ok (.enter fn a) w) (w:World) (h0:J 0 w) :
  Calls Tryz.prog 112 #[.slice oa n c,.func (.func fn) #[] caps] w fun e w'=>e=.returned (.tuple #[.int .i64 (Ck.each f l).1,.int .i64 ((Ck.each f l).2:Int)])/\Mod F w w':=by
 obtain ⟨_,_,he,hml⟩:=(hR 0 w h0).form;obtain rfl:n=l.length:=by cases he;rfl
 clear he;have HML:=Hi (show l.length<=9223372036854775807 from hml);have HR:=Hi hR;have HS:=Hi hS;have HF:=Hi hf;have H0:=Hi h0;have HM:=Hi (Mod.refl F w);clear hR hf h0 hS hml;go_enter Tryz.func112,Tryz.ntmps112;go_wp2_with fail
 go_loopg [11] l.length (fun gk v11 wr=>∃ i:Nat,v11=.int .i64 (i:Int)/\Hid (i+gk=l.length)/\Hid (J i wr)/\Hid (Mod F w wr)/\Hid (Ck.each f l=Ck.eachFrom f i (l.drop i)))
 case atStart=>exact ⟨0,rfl,by show 0+l.length=l.length;omega,H0.out,HM.out,rfl⟩
 case round =>
  obtain ⟨i,rfl,hi,HJ,HW,HE⟩:=hrel;clear HM H0
  by_cases hin:i<l.length
  case neg =>
   obtain rfl:i=l.length:=by have:=hi.out;omega
   have k1:decide ((l.length:Int)<(l.length:Int))=false:=dF (by omega);go_wp2;go_ret2;rw [HE.out,Ck.eachFrom_end];exact ⟨rfl,HW.out⟩
  have k1:decide ((i:Int)<(l.length:Int))=true:=dT (by omega);have k2:(0:Int)<=i:=by omega
  have k3:(i:Int)<(l.length:Int):=by omega
  have k4:decide (i<l.length)=true:=dT hin;have HN1:=Hi (fun h=>HE.out.trans (Ck.eachFrom_stop (f:=f) hin h));have HN2:=Hi (fun h=>HE.out.trans (Ck.eachFrom_go (f:=f) hin h));have HGI:=Hi (gE hin);obtain ⟨a,rfl,-,cs,-,hc0,hcj,hx⟩:=(HR.out i wr HJ.out).at i hin;generalize l[i]=x at *
  obtain ⟨rfl,-⟩:=id hx;have c0:=hc0 (by decide);simp only [Nat.mul_one,gZ,gS] at c0;have HX:=Hi (HF.out i x _ wr HGI.out HJ.out hx);have ei:IntKind.i64.wrap ((i:Int)+1)=(i:Int)+1:=IntWalk.i64_in _ (by have:=HML.out;omega);clear hc0 hcj hx hin;go_wp2_with fail;refine HX.out.mono ?_;rintro e w2 ⟨rfl,m2,j2⟩;have HW2:=Hi ((HW.out).then m2);have HJ2:=Hi j2;clear m2 j2 HX HGI c0 HJ
  by_cases hz:f i x=0
  case neg =>
   have z1:(f i x != 0)=true:=by simpa using hz
   have z2:decide (f i x=0)=false:=dF hz;have z3:(f i x == 0)=false:=by simpa using hz
   have HE2:=Hi (HN1.out hz);generalize f i x=e at *
   go_wp2;go_ret2;rw [HE2.out];exact ⟨rfl,HW2.out⟩
  have HE2:=Hi (HN2.out hz);have HJ3:=Hi (HJ2.out hz);rw [hz];clear HE HJ2 hz HN1 HN2;go_wp2;go_roundg (gk - 1)
  case measure=>have:=hi.out;omega
  case rel=>exact ⟨i+1,by rw [Int.natCast_add];rfl,by have:=hi.out;show i+1+(gk - 1)=l.length;omega,HJ3.out,HW2.out,HE2.out⟩
theorem each_Set {F:List Nat} {J:Nat->World->Prop} {fn:Nat} {caps:Array Value} {oa:Option Addr} {n c B:Nat} {l:List (List Int)} {f:Nat->(List Int)->Int} (hS:∀ i,Stays (J i)) (hR:∀ i w,J i w->Rows 1 RSet B w (.slice oa n c) l)
  (hf:∀ i x cs w,l[i]?=some x->J i w->RSet B w cs x->Calls Tryz.prog fn (#[.int .i64 (i:Int),cs.headD undef]++caps) w fun e w'=>e=.returned (.int .i64 (f i x))/\Mod F w w'/\(f i x=0->J (i+1) w')) (hcf:∀ (a:Array Value) (w:World),(callFunc fn a).run Tryz.prog w=.ok (.enter fn a) w) (w:World) (h0:J 0 w) :
  Calls Tryz.prog 155 #[.slice oa n c,.func (.func fn) #[] caps] w fun e w'=>e=.returned (.tuple #[.int .i64 (Ck.each f l).1,.int .i64 ((Ck.each f l).2:Int)])/\Mod F w w':=by
 obtain ⟨_,_,he,hml⟩:=(hR 0 w h0).form;obtain rfl:n=l.length:=by cases he;rfl
 clear he;have HML:=Hi (show l.length<=9223372036854775807 from hml);have HR:=Hi hR;have HS:=Hi hS;have HF:=Hi hf;have H0:=Hi h0;have HM:=Hi (Mod.refl F w);clear hR hf h0 hS hml;go_enter Tryz.func155,Tryz.ntmps155;go_wp2_with fail
 go_loopg [11] l.length (fun gk v11 wr=>∃ i:Nat,v11=.int .i64 (i:Int)/\Hid (i+gk=l.length)/\Hid (J i wr)/\Hid (Mod F w wr)/\Hid (Ck.each f l=Ck.eachFrom f i (l.drop i)))
 case atStart=>exact ⟨0,rfl,by show 0+l.length=l.length;omega,H0.out,HM.out,rfl⟩
 case round =>
  obtain ⟨i,rfl,hi,HJ,HW,HE⟩:=hrel;clear HM H0
  by_cases hin:i<l.length
  case neg =>
   obtain rfl:i=l.length:=by have:=hi.out;omega
   have k1:decide ((l.length:Int)<(l.length:Int))=false:=dF (by omega);go_wp2;go_ret2;rw [HE.out,Ck.eachFrom_end];exact ⟨rfl,HW.out⟩
  have k1:decide ((i:Int)<(l.length:Int))=true:=dT (by omega);have k2:(0:Int)<=i:=by omega
  have k3:(i:Int)<(l.length:Int):=by omega
  have k4:decide (i<l.length)=true:=dT hin;have HN1:=Hi (fun h=>HE.out.trans (Ck.eachFrom_stop (f:=f) hin h));have HN2:=Hi (fun h=>HE.out.trans (Ck.eachFrom_go (f:=f) hin h));have HGI:=Hi (gE hin);obtain ⟨a,rfl,-,cs,-,hc0,hcj,hx⟩:=(HR.out i wr HJ.out).at i hin;generalize l[i]=x at *
  obtain ⟨v0,rfl,y0⟩:=id hx;obtain ⟨o0,d0,rfl,-⟩:=y0.form;have c0:=hc0 (by decide);simp only [Nat.mul_one,gZ,gS] at c0;clear y0;have HX:=Hi (HF.out i x _ wr HGI.out HJ.out hx);have ei:IntKind.i64.wrap ((i:Int)+1)=(i:Int)+1:=IntWalk.i64_in _ (by have:=HML.out;omega);clear hc0 hcj hx hin;go_wp2_with fail;refine HX.out.mono ?_;rintro e w2 ⟨rfl,m2,j2⟩;have HW2:=Hi ((HW.out).then m2);have HJ2:=Hi j2;clear m2 j2 HX HGI c0 HJ
  by_cases hz:f i x=0
  case neg =>
   have z1:(f i x != 0)=true:=by simpa using hz
   have z2:decide (f i x=0)=false:=dF hz;have z3:(f i x == 0)=false:=by simpa using hz
   have HE2:=Hi (HN1.out hz);generalize f i x=e at *
   go_wp2;go_ret2;rw [HE2.out];exact ⟨rfl,HW2.out⟩
  have HE2:=Hi (HN2.out hz);have HJ3:=Hi (HJ2.out hz);rw [hz];clear HE HJ2 hz HN1 HN2;go_wp2;go_roundg (gk - 1)
  case measure=>have:=hi.out;omega
  case rel=>exact ⟨i+1,by rw [Int.natCast_add];rfl,by have:=hi.out;show i+1+(gk - 1)=l.length;omega,HJ3.out,HW2.out,HE2.out⟩
theorem each_Code {F:List Nat} {J:Nat->World->Prop} {fn:Nat} {caps:Array Value} {oa:Option Addr} {n c B:Nat} {l:List (List DIns)} {f:Nat->(List DIns)->Int} (hS:∀ i,Stays (J i)) (hR:∀ i w,J i w->Rows 1 RCode B w (.slice oa n c) l)
  (hf:∀ i x cs w,l[i]?=some x->J i w->RCode B w cs x->Calls Tryz.prog fn (#[.int .i64 (i:Int),cs.headD undef]++caps) w fun e w'=>e=.returned (.int .i64 (f i x))/\Mod F w w'/\(f i x=0->J (i+1) w')) (hcf:∀ (a:Array Value) (w:World),(callFunc fn a).run Tryz.prog w=.ok (.enter fn a) w) (w:World) (h0:J 0 w) :
  Calls Tryz.prog 130 #[.slice oa n c,.func (.func fn) #[] caps] w fun e w'=>e=.returned (.tuple #[.int .i64 (Ck.each f l).1,.int .i64 ((Ck.each f l).2:Int)])/\Mod F w w':=by
 obtain ⟨_,_,he,hml⟩:=(hR 0 w h0).form;obtain rfl:n=l.length:=by cases he;rfl
 clear he;have HML:=Hi (show l.length<=9223372036854775807 from hml);have HR:=Hi hR;have HS:=Hi hS;have HF:=Hi hf;have H0:=Hi h0;have HM:=Hi (Mod.refl F w);clear hR hf h0 hS hml;go_enter Tryz.func130,Tryz.ntmps130;go_wp2_with fail
 go_loopg [11] l.length (fun gk v11 wr=>∃ i:Nat,v11=.int .i64 (i:Int)/\Hid (i+gk=l.length)/\Hid (J i wr)/\Hid (Mod F w wr)/\Hid (Ck.each f l=Ck.eachFrom f i (l.drop i)))
 case atStart=>exact ⟨0,rfl,by show 0+l.length=l.length;omega,H0.out,HM.out,rfl⟩
 case round =>
  obtain ⟨i,rfl,hi,HJ,HW,HE⟩:=hrel;clear HM H0
  by_cases hin:i<l.length
  case neg =>
   obtain rfl:i=l.length:=by have:=hi.out;omega
   have k1:decide ((l.length:Int)<(l.length:Int))=false:=dF (by omega);go_wp2;go_ret2;rw [HE.out,Ck.eachFrom_end];exact ⟨rfl,HW.out⟩
  have k1:decide ((i:Int)<(l.length:Int))=true:=dT (by omega);have k2:(0:Int)<=i:=by omega
  have k3:(i:Int)<(l.length:Int):=by omega
  have k4:decide (i<l.length)=true:=dT hin;have HN1:=Hi (fun h=>HE.out.trans (Ck.eachFrom_stop (f:=f) hin h));have HN2:=Hi (fun h=>HE.out.trans (Ck.eachFrom_go (f:=f) hin h));have HGI:=Hi (gE hin);obtain ⟨a,rfl,-,cs,-,hc0,hcj,hx⟩:=(HR.out i wr HJ.out).at i hin;generalize l[i]=x at *
  obtain ⟨v0,rfl,y0⟩:=id hx;obtain ⟨o0,d0,rfl,-⟩:=y0.form;have c0:=hc0 (by decide);simp only [Nat.mul_one,gZ,gS] at c0;clear y0;have HX:=Hi (HF.out i x _ wr HGI.out HJ.out hx);have ei:IntKind.i64.wrap ((i:Int)+1)=(i:Int)+1:=IntWalk.i64_in _ (by have:=HML.out;omega);clear hc0 hcj hx hin;go_wp2_with fail;refine HX.out.mono ?_;rintro e w2 ⟨rfl,m2,j2⟩;have HW2:=Hi ((HW.out).then m2);have HJ2:=Hi j2;clear m2 j2 HX HGI c0 HJ
  by_cases hz:f i x=0
  case neg =>
   have z1:(f i x != 0)=true:=by simpa using hz
   have z2:decide (f i x=0)=false:=dF hz;have z3:(f i x == 0)=false:=by simpa using hz
   have HE2:=Hi (HN1.out hz);generalize f i x=e at *
   go_wp2;go_ret2;rw [HE2.out];exact ⟨rfl,HW2.out⟩
  have HE2:=Hi (HN2.out hz);have HJ3:=Hi (HJ2.out hz);rw [hz];clear HE HJ2 hz HN1 HN2;go_wp2;go_roundg (gk - 1)
  case measure=>have:=hi.out;omega
  case rel=>exact ⟨i+1,by rw [Int.natCast_add];rfl,by have:=hi.out;show i+1+(gk - 1)=l.length;omega,HJ3.out,HW2.out,HE2.out⟩
end Go.Proofs.YthheaflbbficgaaGreat

/- check: some is a look at whether there are too many things, and at each of them. Printed by gen_some.py. -/
import Derived.Test.YthheaflbbficgaaGreatGBase
import Derived.Test.YthheaflbbficgaaGreatGEa
set_option linter.all false
namespace Go.Proofs.YthheaflbbficgaaGreat
set_option maxHeartbeats 8000000
open Go.RowKit
def LookFn (f:Nat) (s most fv:Value) (v:Value) (w:World):Prop:=∃ b0 b1 b2 t0 t1 t2,v=.func (.func f) #[] #[.pointer (some ⟨b0,0,none⟩),.pointer (some ⟨b1,0,none⟩),.pointer (some ⟨b2,0,none⟩)]/\Blk w b0 #[s] t0/\Blk w b1 #[most] t1/\Blk w b2 #[fv] t2
theorem LookFn.stays {f:Nat} {s most fv v:Value}:Stays (LookFn f s most fv v):=fun w w' ⟨b0,b1,b2,t0,t1,t2,h,h0,h1,h2⟩ m=>⟨b0,b1,b2,t0,t1,t2,h,h0.kept m (by simp),h1.kept m (by simp),h2.kept m (by simp)⟩
theorem some_Part (oa:Option Addr) (n c most fn:Nat) (caps:Array Value) (w:World):Calls Tryz.prog 85 #[.slice oa n c,.int .i64 (most:Int),.func (.func fn) #[] caps] w fun e w'=>(∃ v,e=.returned v/\LookFn 139 (.slice oa n c) (.int .i64 (most:Int)) (.func (.func fn) #[] caps) v w')/\Mod [] w w':=by
 go_enter Tryz.func85,Tryz.ntmps85;go_wp2;go_ret;exact have T:=own3 w _ _ _ _ _ _;⟨⟨_,rfl,_,_,_,_,_,_,rfl,T.at 0 rfl,T.at 1 rfl,T.at 2 rfl⟩,T.mod⟩
theorem look_Part {F:List Nat} {J:Nat->World->Prop} {fn:Nat} {caps:Array Value} {oa:Option Addr} {n c B most:Nat} {l:List DPart} {f:Nat->DPart->Int} (hS:∀ i,Stays (J i)) (hR:∀ i w,J i w->Rows 3 RPart B w (.slice oa n c) l)
  (hf:∀ i x cs w,l[i]?=some x->J i w->RPart B w cs x->Calls Tryz.prog fn (#[.int .i64 (i:Int),.agg cs.toArray]++caps) w fun e w'=>e=.returned (.int .i64 (f i x))/\Mod F w w'/\(f i x=0->J (i+1) w'))
  (hcf:∀ (a:Array Value) (w:World),(callFunc fn a).run Tryz.prog w=.ok (.enter fn a) w) (b0 b1 b2:Nat) (w:World) (h0:J 0 w)
  (hb:w.cell? ⟨b0,0,none⟩=some (.slice oa n c)/\w.cell? ⟨b1,0,none⟩=some (.int .i64 (most:Int))/\w.cell? ⟨b2,0,none⟩=some (.func (.func fn) #[] caps)) :
  Calls Tryz.prog 139 #[.pointer (some ⟨b0,0,none⟩),.pointer (some ⟨b1,0,none⟩),.pointer (some ⟨b2,0,none⟩)] w fun e w'=>e=.returned (.tuple #[.int .i64 (Ck.some most f l).1,.int .i64 ((Ck.some most f l).2:Int)])/\Mod F w w':=by
 obtain ⟨_,_,he,hml⟩:=(hR 0 w h0).form;obtain rfl:n=l.length:=by cases he;rfl
 have HC:=Hi (each_Part hS hR hf hcf w h0);obtain ⟨c0,c1,c2⟩:=hb;clear he hml hS hR hf hcf h0;go_enter Tryz.func139,Tryz.ntmps139
 by_cases hm:most<l.length
 ·have k1:decide ((most:Int)<(l.length:Int))=true:=dT (by omega);have k2:(most:Int)<(l.length:Int):=by omega
  unfold Ck.some;rw [if_pos hm];clear HC;go_wp2;go_ret2;exact ⟨rfl,mR⟩
 have k1:decide ((most:Int)<(l.length:Int))=false:=dF (by omega);have k2:¬ (most:Int)<(l.length:Int):=by omega
 unfold Ck.some;rw [if_neg hm];go_wp2_with fail;refine HC.out.mono ?_;rintro e w2 ⟨rfl,m2⟩;have HM:=Hi m2;clear m2 HC c0 c1 c2 hm;go_wp2;go_ret2;exact ⟨rfl,HM.out⟩
theorem some_Anchor (oa:Option Addr) (n c most fn:Nat) (caps:Array Value) (w:World):Calls Tryz.prog 88 #[.slice oa n c,.int .i64 (most:Int),.func (.func fn) #[] caps] w fun e w'=>(∃ v,e=.returned v/\LookFn 141 (.slice oa n c) (.int .i64 (most:Int)) (.func (.func fn) #[] caps) v w')/\Mod [] w w':=by
 go_enter Tryz.func88,Tryz.ntmps88;go_wp2;go_ret;exact have T:=own3 w _ _ _ _ _ _;⟨⟨_,rfl,_,_,_,_,_,_,rfl,T.at 0 rfl,T.at 1 rfl,T.at 2 rfl⟩,T.mod⟩
theorem look_Anchor {F:List Nat} {J:Nat->World->Prop} {fn:Nat} {caps:Array Value} {oa:Option Addr} {n c B most:Nat} {l:List DAnchor} {f:Nat->DAnchor->Int} (hS:∀ i,Stays (J i)) (hR:∀ i w,J i w->Rows 4 RAnchor B w (.slice oa n c) l)
  (hf:∀ i x cs w,l[i]?=some x->J i w->RAnchor B w cs x->Calls Tryz.prog fn (#[.int .i64 (i:Int),.agg cs.toArray]++caps) w fun e w'=>e=.returned (.int .i64 (f i x))/\Mod F w w'/\(f i x=0->J (i+1) w'))
  (hcf:∀ (a:Array Value) (w:World),(callFunc fn a).run Tryz.prog w=.ok (.enter fn a) w) (b0 b1 b2:Nat) (w:World) (h0:J 0 w)
  (hb:w.cell? ⟨b0,0,none⟩=some (.slice oa n c)/\w.cell? ⟨b1,0,none⟩=some (.int .i64 (most:Int))/\w.cell? ⟨b2,0,none⟩=some (.func (.func fn) #[] caps)) :
  Calls Tryz.prog 141 #[.pointer (some ⟨b0,0,none⟩),.pointer (some ⟨b1,0,none⟩),.pointer (some ⟨b2,0,none⟩)] w fun e w'=>e=.returned (.tuple #[.int .i64 (Ck.some most f l).1,.int .i64 ((Ck.some most f l).2:Int)])/\Mod F w w':=by
 obtain ⟨_,_,he,hml⟩:=(hR 0 w h0).form;obtain rfl:n=l.length:=by cases he;rfl
 have HC:=Hi (each_Anchor hS hR hf hcf w h0);obtain ⟨c0,c1,c2⟩:=hb;clear he hml hS hR hf hcf h0;go_enter Tryz.func141,Tryz.ntmps141
 by_cases hm:most<l.length
 ·have k1:decide ((most:Int)<(l.length:Int))=true:=dT (by omega);have k2:(most:Int)<(l.length:Int):=by omega
  unfold Ck.some;rw [if_pos hm];clear HC;go_wp2;go_ret2;exact ⟨rfl,mR⟩
 have k1:decide ((most:Int)<(l.length:Int))=false:=dF (by omega);have k2:¬ (most:Int)<(l.length:Int):=by omega
 unfold Ck.some;rw [if_neg hm];go_wp2_with fail;refine HC.out.mono ?_;rintro e w2 ⟨rfl,m2⟩;have HM:=Hi m2;clear m2 HC c0 c1 c2 hm;go_wp2;go_ret2;exact ⟨rfl,HM.out⟩
theorem some_Delta (oa:Option Addr) (n c most fn:Nat) (caps:Array Value) (w:World):Calls Tryz.prog 90 #[.slice oa n c,.int .i64 (most:Int),.func (.func fn) #[] caps] w fun e w'=>(∃ v,e=.returned v/\LookFn 144 (.slice oa n c) (.int .i64 (most:Int)) (.func (.func fn) #[] caps) v w')/\Mod [] w w':=by
 go_enter Tryz.func90,Tryz.ntmps90;go_wp2;go_ret;exact have T:=own3 w _ _ _ _ _ _;⟨⟨_,rfl,_,_,_,_,_,_,rfl,T.at 0 rfl,T.at 1 rfl,T.at 2 rfl⟩,T.mod⟩
theorem look_Delta {F:List Nat} {J:Nat->World->Prop} {fn:Nat} {caps:Array Value} {oa:Option Addr} {n c B most:Nat} {l:List DDelta} {f:Nat->DDelta->Int} (hS:∀ i,Stays (J i)) (hR:∀ i w,J i w->Rows 4 RDelta B w (.slice oa n c) l)
  (hf:∀ i x cs w,l[i]?=some x->J i w->RDelta B w cs x->Calls Tryz.prog fn (#[.int .i64 (i:Int),.agg cs.toArray]++caps) w fun e w'=>e=.returned (.int .i64 (f i x))/\Mod F w w'/\(f i x=0->J (i+1) w'))
  (hcf:∀ (a:Array Value) (w:World),(callFunc fn a).run Tryz.prog w=.ok (.enter fn a) w) (b0 b1 b2:Nat) (w:World) (h0:J 0 w)
  (hb:w.cell? ⟨b0,0,none⟩=some (.slice oa n c)/\w.cell? ⟨b1,0,none⟩=some (.int .i64 (most:Int))/\w.cell? ⟨b2,0,none⟩=some (.func (.func fn) #[] caps)) :
  Calls Tryz.prog 144 #[.pointer (some ⟨b0,0,none⟩),.pointer (some ⟨b1,0,none⟩),.pointer (some ⟨b2,0,none⟩)] w fun e w'=>e=.returned (.tuple #[.int .i64 (Ck.some most f l).1,.int .i64 ((Ck.some most f l).2:Int)])/\Mod F w w':=by
 obtain ⟨_,_,he,hml⟩:=(hR 0 w h0).form;obtain rfl:n=l.length:=by cases he;rfl
 have HC:=Hi (each_Delta hS hR hf hcf w h0);obtain ⟨c0,c1,c2⟩:=hb;clear he hml hS hR hf hcf h0;go_enter Tryz.func144,Tryz.ntmps144
 by_cases hm:most<l.length
 ·have k1:decide ((most:Int)<(l.length:Int))=true:=dT (by omega);have k2:(most:Int)<(l.length:Int):=by omega
  unfold Ck.some;rw [if_pos hm];clear HC;go_wp2;go_ret2;exact ⟨rfl,mR⟩
 have k1:decide ((most:Int)<(l.length:Int))=false:=dF (by omega);have k2:¬ (most:Int)<(l.length:Int):=by omega
 unfold Ck.some;rw [if_neg hm];go_wp2_with fail;refine HC.out.mono ?_;rintro e w2 ⟨rfl,m2⟩;have HM:=Hi m2;clear m2 HC c0 c1 c2 hm;go_wp2;go_ret2;exact ⟨rfl,HM.out⟩
theorem some_Ins (oa:Option Addr) (n c most fn:Nat) (caps:Array Value) (w:World):Calls Tryz.prog 131 #[.slice oa n c,.int .i64 (most:Int),.func (.func fn) #[] caps] w fun e w'=>(∃ v,e=.returned v/\LookFn 170 (.slice oa n c) (.int .i64 (most:Int)) (.func (.func fn) #[] caps) v w')/\Mod [] w w':=by
 go_enter Tryz.func131,Tryz.ntmps131;go_wp2;go_ret;exact have T:=own3 w _ _ _ _ _ _;⟨⟨_,rfl,_,_,_,_,_,_,rfl,T.at 0 rfl,T.at 1 rfl,T.at 2 rfl⟩,T.mod⟩
theorem look_Ins {F:List Nat} {J:Nat->World->Prop} {fn:Nat} {caps:Array Value} {oa:Option Addr} {n c B most:Nat} {l:List DIns} {f:Nat->DIns->Int} (hS:∀ i,Stays (J i)) (hR:∀ i w,J i w->Rows 2 RIns B w (.slice oa n c) l)
  (hf:∀ i x cs w,l[i]?=some x->J i w->RIns B w cs x->Calls Tryz.prog fn (#[.int .i64 (i:Int),.agg cs.toArray]++caps) w fun e w'=>e=.returned (.int .i64 (f i x))/\Mod F w w'/\(f i x=0->J (i+1) w'))
  (hcf:∀ (a:Array Value) (w:World),(callFunc fn a).run Tryz.prog w=.ok (.enter fn a) w) (b0 b1 b2:Nat) (w:World) (h0:J 0 w)
  (hb:w.cell? ⟨b0,0,none⟩=some (.slice oa n c)/\w.cell? ⟨b1,0,none⟩=some (.int .i64 (most:Int))/\w.cell? ⟨b2,0,none⟩=some (.func (.func fn) #[] caps)) :
  Calls Tryz.prog 170 #[.pointer (some ⟨b0,0,none⟩),.pointer (some ⟨b1,0,none⟩),.pointer (some ⟨b2,0,none⟩)] w fun e w'=>e=.returned (.tuple #[.int .i64 (Ck.some most f l).1,.int .i64 ((Ck.some most f l).2:Int)])/\Mod F w w':=by
 obtain ⟨_,_,he,hml⟩:=(hR 0 w h0).form;obtain rfl:n=l.length:=by cases he;rfl
 have HC:=Hi (each_Ins hS hR hf hcf w h0);obtain ⟨c0,c1,c2⟩:=hb;clear he hml hS hR hf hcf h0;go_enter Tryz.func170,Tryz.ntmps170
 by_cases hm:most<l.length
 ·have k1:decide ((most:Int)<(l.length:Int))=true:=dT (by omega);have k2:(most:Int)<(l.length:Int):=by omega
  unfold Ck.some;rw [if_pos hm];clear HC;go_wp2;go_ret2;exact ⟨rfl,mR⟩
 have k1:decide ((most:Int)<(l.length:Int))=false:=dF (by omega);have k2:¬ (most:Int)<(l.length:Int):=by omega
 unfold Ck.some;rw [if_neg hm];go_wp2_with fail;refine HC.out.mono ?_;rintro e w2 ⟨rfl,m2⟩;have HM:=Hi m2;clear m2 HC c0 c1 c2 hm;go_wp2;go_ret2;exact ⟨rfl,HM.out⟩
theorem some_Char (oa:Option Addr) (n c most fn:Nat) (caps:Array Value) (w:World):Calls Tryz.prog 57 #[.slice oa n c,.int .i64 (most:Int),.func (.func fn) #[] caps] w fun e w'=>(∃ v,e=.returned v/\LookFn 116 (.slice oa n c) (.int .i64 (most:Int)) (.func (.func fn) #[] caps) v w')/\Mod [] w w':=by
 go_enter Tryz.func57,Tryz.ntmps57;go_wp2;go_ret;exact have T:=own3 w _ _ _ _ _ _;⟨⟨_,rfl,_,_,_,_,_,_,rfl,T.at 0 rfl,T.at 1 rfl,T.at 2 rfl⟩,T.mod⟩
theorem look_Char {F:List Nat} {J:Nat->World->Prop} {fn:Nat} {caps:Array Value} {oa:Option Addr} {n c B most:Nat} {l:List DChar} {f:Nat->DChar->Int} (hS:∀ i,Stays (J i)) (hR:∀ i w,J i w->Rows 2 RChar B w (.slice oa n c) l)
  (hf:∀ i x cs w,l[i]?=some x->J i w->RChar B w cs x->Calls Tryz.prog fn (#[.int .i64 (i:Int),.agg cs.toArray]++caps) w fun e w'=>e=.returned (.int .i64 (f i x))/\Mod F w w'/\(f i x=0->J (i+1) w'))
  (hcf:∀ (a:Array Value) (w:World),(callFunc fn a).run Tryz.prog w=.ok (.enter fn a) w) (b0 b1 b2:Nat) (w:World) (h0:J 0 w)
  (hb:w.cell? ⟨b0,0,none⟩=some (.slice oa n c)/\w.cell? ⟨b1,0,none⟩=some (.int .i64 (most:Int))/\w.cell? ⟨b2,0,none⟩=some (.func (.func fn) #[] caps)) :
  Calls Tryz.prog 116 #[.pointer (some ⟨b0,0,none⟩),.pointer (some ⟨b1,0,none⟩),.pointer (some ⟨b2,0,none⟩)] w fun e w'=>e=.returned (.tuple #[.int .i64 (Ck.some most f l).1,.int .i64 ((Ck.some most f l).2:Int)])/\Mod F w w':=by
 obtain ⟨_,_,he,hml⟩:=(hR 0 w h0).form;obtain rfl:n=l.length:=by cases he;rfl
 have HC:=Hi (each_Char hS hR hf hcf w h0);obtain ⟨c0,c1,c2⟩:=hb;clear he hml hS hR hf hcf h0;go_enter Tryz.func116,Tryz.ntmps116
 by_cases hm:most<l.length
 ·have k1:decide ((most:Int)<(l.length:Int))=true:=dT (by omega);have k2:(most:Int)<(l.length:Int):=by omega
  unfold Ck.some;rw [if_pos hm];clear HC;go_wp2;go_ret2;exact ⟨rfl,mR⟩
 have k1:decide ((most:Int)<(l.length:Int))=false:=dF (by omega);have k2:¬ (most:Int)<(l.length:Int):=by omega
 unfold Ck.some;rw [if_neg hm];go_wp2_with fail;refine HC.out.mono ?_;rintro e w2 ⟨rfl,m2⟩;have HM:=Hi m2;clear m2 HC c0 c1 c2 hm;go_wp2;go_ret2;exact ⟨rfl,HM.out⟩
theorem some_Axis (oa:Option Addr) (n c most fn:Nat) (caps:Array Value) (w:World):Calls Tryz.prog 66 #[.slice oa n c,.int .i64 (most:Int),.func (.func fn) #[] caps] w fun e w'=>(∃ v,e=.returned v/\LookFn 123 (.slice oa n c) (.int .i64 (most:Int)) (.func (.func fn) #[] caps) v w')/\Mod [] w w':=by
 go_enter Tryz.func66,Tryz.ntmps66;go_wp2;go_ret;exact have T:=own3 w _ _ _ _ _ _;⟨⟨_,rfl,_,_,_,_,_,_,rfl,T.at 0 rfl,T.at 1 rfl,T.at 2 rfl⟩,T.mod⟩
theorem look_Axis {F:List Nat} {J:Nat->World->Prop} {fn:Nat} {caps:Array Value} {oa:Option Addr} {n c B most:Nat} {l:List DAxis} {f:Nat->DAxis->Int} (hS:∀ i,Stays (J i)) (hR:∀ i w,J i w->Rows 4 RAxis B w (.slice oa n c) l)
  (hf:∀ i x cs w,l[i]?=some x->J i w->RAxis B w cs x->Calls Tryz.prog fn (#[.int .i64 (i:Int),.agg cs.toArray]++caps) w fun e w'=>e=.returned (.int .i64 (f i x))/\Mod F w w'/\(f i x=0->J (i+1) w'))
  (hcf:∀ (a:Array Value) (w:World),(callFunc fn a).run Tryz.prog w=.ok (.enter fn a) w) (b0 b1 b2:Nat) (w:World) (h0:J 0 w)
  (hb:w.cell? ⟨b0,0,none⟩=some (.slice oa n c)/\w.cell? ⟨b1,0,none⟩=some (.int .i64 (most:Int))/\w.cell? ⟨b2,0,none⟩=some (.func (.func fn) #[] caps)) :
  Calls Tryz.prog 123 #[.pointer (some ⟨b0,0,none⟩),.pointer (some ⟨b1,0,none⟩),.pointer (some ⟨b2,0,none⟩)] w fun e w'=>e=.returned (.tuple #[.int .i64 (Ck.some most f l).1,.int .i64 ((Ck.some most f l).2:Int)])/\Mod F w w':=by
 obtain ⟨_,_,he,hml⟩:=(hR 0 w h0).form;obtain rfl:n=l.length:=by cases he;rfl
 have HC:=Hi (each_Axis hS hR hf hcf w h0);obtain ⟨c0,c1,c2⟩:=hb;clear he hml hS hR hf hcf h0;go_enter Tryz.func123,Tryz.ntmps123
 by_cases hm:most<l.length
 ·have k1:decide ((most:Int)<(l.length:Int))=true:=dT (by omega);have k2:(most:Int)<(l.length:Int):=by omega
  unfold Ck.some;rw [if_pos hm];clear HC;go_wp2;go_ret2;exact ⟨rfl,mR⟩
 have k1:decide ((most:Int)<(l.length:Int))=false:=dF (by omega);have k2:¬ (most:Int)<(l.length:Int):=by omega
 unfold Ck.some;rw [if_neg hm];go_wp2_with fail;refine HC.out.mono ?_;rintro e w2 ⟨rfl,m2⟩;have HM:=Hi m2;clear m2 HC c0 c1 c2 hm;go_wp2;go_ret2;exact ⟨rfl,HM.out⟩
theorem some_Feature (oa:Option Addr) (n c most fn:Nat) (caps:Array Value) (w:World):Calls Tryz.prog 62 #[.slice oa n c,.int .i64 (most:Int),.func (.func fn) #[] caps] w fun e w'=>(∃ v,e=.returned v/\LookFn 120 (.slice oa n c) (.int .i64 (most:Int)) (.func (.func fn) #[] caps) v w')/\Mod [] w w':=by
 go_enter Tryz.func62,Tryz.ntmps62;go_wp2;go_ret;exact have T:=own3 w _ _ _ _ _ _;⟨⟨_,rfl,_,_,_,_,_,_,rfl,T.at 0 rfl,T.at 1 rfl,T.at 2 rfl⟩,T.mod⟩
theorem look_Feature {F:List Nat} {J:Nat->World->Prop} {fn:Nat} {caps:Array Value} {oa:Option Addr} {n c B most:Nat} {l:List DFeature} {f:Nat->DFeature->Int} (hS:∀ i,Stays (J i)) (hR:∀ i w,J i w->Rows 2 RFeature B w (.slice oa n c) l)
  (hf:∀ i x cs w,l[i]?=some x->J i w->RFeature B w cs x->Calls Tryz.prog fn (#[.int .i64 (i:Int),.agg cs.toArray]++caps) w fun e w'=>e=.returned (.int .i64 (f i x))/\Mod F w w'/\(f i x=0->J (i+1) w'))
  (hcf:∀ (a:Array Value) (w:World),(callFunc fn a).run Tryz.prog w=.ok (.enter fn a) w) (b0 b1 b2:Nat) (w:World) (h0:J 0 w)
  (hb:w.cell? ⟨b0,0,none⟩=some (.slice oa n c)/\w.cell? ⟨b1,0,none⟩=some (.int .i64 (most:Int))/\w.cell? ⟨b2,0,none⟩=some (.func (.func fn) #[] caps)) :
  Calls Tryz.prog 120 #[.pointer (some ⟨b0,0,none⟩),.pointer (some ⟨b1,0,none⟩),.pointer (some ⟨b2,0,none⟩)] w fun e w'=>e=.returned (.tuple #[.int .i64 (Ck.some most f l).1,.int .i64 ((Ck.some most f l).2:Int)])/\Mod F w w':=by
 obtain ⟨_,_,he,hml⟩:=(hR 0 w h0).form;obtain rfl:n=l.length:=by cases he;rfl
 have HC:=Hi (each_Feature hS hR hf hcf w h0);obtain ⟨c0,c1,c2⟩:=hb;clear he hml hS hR hf hcf h0;go_enter Tryz.func120,Tryz.ntmps120
 by_cases hm:most<l.length
 ·have k1:decide ((most:Int)<(l.length:Int))=true:=dT (by omega);have k2:(most:Int)<(l.length:Int):=by omega
  unfold Ck.some;rw [if_pos hm];clear HC;go_wp2;go_ret2;exact ⟨rfl,mR⟩
 have k1:decide ((most:Int)<(l.length:Int))=false:=dF (by omega);have k2:¬ (most:Int)<(l.length:Int):=by omega
 unfold Ck.some;rw [if_neg hm];go_wp2_with fail;refine HC.out.mono ?_;rintro e w2 ⟨rfl,m2⟩;have HM:=Hi m2;clear m2 HC c0 c1 c2 hm;go_wp2;go_ret2;exact ⟨rfl,HM.out⟩
theorem some_Lookup (oa:Option Addr) (n c most fn:Nat) (caps:Array Value) (w:World):Calls Tryz.prog 60 #[.slice oa n c,.int .i64 (most:Int),.func (.func fn) #[] caps] w fun e w'=>(∃ v,e=.returned v/\LookFn 118 (.slice oa n c) (.int .i64 (most:Int)) (.func (.func fn) #[] caps) v w')/\Mod [] w w':=by
 go_enter Tryz.func60,Tryz.ntmps60;go_wp2;go_ret;exact have T:=own3 w _ _ _ _ _ _;⟨⟨_,rfl,_,_,_,_,_,_,rfl,T.at 0 rfl,T.at 1 rfl,T.at 2 rfl⟩,T.mod⟩
theorem look_Lookup {F:List Nat} {J:Nat->World->Prop} {fn:Nat} {caps:Array Value} {oa:Option Addr} {n c B most:Nat} {l:List DLookup} {f:Nat->DLookup->Int} (hS:∀ i,Stays (J i)) (hR:∀ i w,J i w->Rows 3 RLookup B w (.slice oa n c) l)
  (hf:∀ i x cs w,l[i]?=some x->J i w->RLookup B w cs x->Calls Tryz.prog fn (#[.int .i64 (i:Int),.agg cs.toArray]++caps) w fun e w'=>e=.returned (.int .i64 (f i x))/\Mod F w w'/\(f i x=0->J (i+1) w'))
  (hcf:∀ (a:Array Value) (w:World),(callFunc fn a).run Tryz.prog w=.ok (.enter fn a) w) (b0 b1 b2:Nat) (w:World) (h0:J 0 w)
  (hb:w.cell? ⟨b0,0,none⟩=some (.slice oa n c)/\w.cell? ⟨b1,0,none⟩=some (.int .i64 (most:Int))/\w.cell? ⟨b2,0,none⟩=some (.func (.func fn) #[] caps)) :
  Calls Tryz.prog 118 #[.pointer (some ⟨b0,0,none⟩),.pointer (some ⟨b1,0,none⟩),.pointer (some ⟨b2,0,none⟩)] w fun e w'=>e=.returned (.tuple #[.int .i64 (Ck.some most f l).1,.int .i64 ((Ck.some most f l).2:Int)])/\Mod F w w':=by
 obtain ⟨_,_,he,hml⟩:=(hR 0 w h0).form;obtain rfl:n=l.length:=by cases he;rfl
 have HC:=Hi (each_Lookup hS hR hf hcf w h0);obtain ⟨c0,c1,c2⟩:=hb;clear he hml hS hR hf hcf h0;go_enter Tryz.func118,Tryz.ntmps118
 by_cases hm:most<l.length
 ·have k1:decide ((most:Int)<(l.length:Int))=true:=dT (by omega);have k2:(most:Int)<(l.length:Int):=by omega
  unfold Ck.some;rw [if_pos hm];clear HC;go_wp2;go_ret2;exact ⟨rfl,mR⟩
 have k1:decide ((most:Int)<(l.length:Int))=false:=dF (by omega);have k2:¬ (most:Int)<(l.length:Int):=by omega
 unfold Ck.some;rw [if_neg hm];go_wp2_with fail;refine HC.out.mono ?_;rintro e w2 ⟨rfl,m2⟩;have HM:=Hi m2;clear m2 HC c0 c1 c2 hm;go_wp2;go_ret2;exact ⟨rfl,HM.out⟩
theorem some_Glyph (oa:Option Addr) (n c most fn:Nat) (caps:Array Value) (w:World):Calls Tryz.prog 53 #[.slice oa n c,.int .i64 (most:Int),.func (.func fn) #[] caps] w fun e w'=>(∃ v,e=.returned v/\LookFn 108 (.slice oa n c) (.int .i64 (most:Int)) (.func (.func fn) #[] caps) v w')/\Mod [] w w':=by
 go_enter Tryz.func53,Tryz.ntmps53;go_wp2;go_ret;exact have T:=own3 w _ _ _ _ _ _;⟨⟨_,rfl,_,_,_,_,_,_,rfl,T.at 0 rfl,T.at 1 rfl,T.at 2 rfl⟩,T.mod⟩
theorem look_Glyph {F:List Nat} {J:Nat->World->Prop} {fn:Nat} {caps:Array Value} {oa:Option Addr} {n c B most:Nat} {l:List DGlyph} {f:Nat->DGlyph->Int} (hS:∀ i,Stays (J i)) (hR:∀ i w,J i w->Rows 9 RGlyph B w (.slice oa n c) l)
  (hf:∀ i x cs w,l[i]?=some x->J i w->RGlyph B w cs x->Calls Tryz.prog fn (#[.int .i64 (i:Int),.agg cs.toArray]++caps) w fun e w'=>e=.returned (.int .i64 (f i x))/\Mod F w w'/\(f i x=0->J (i+1) w'))
  (hcf:∀ (a:Array Value) (w:World),(callFunc fn a).run Tryz.prog w=.ok (.enter fn a) w) (b0 b1 b2:Nat) (w:World) (h0:J 0 w)
  (hb:w.cell? ⟨b0,0,none⟩=some (.slice oa n c)/\w.cell? ⟨b1,0,none⟩=some (.int .i64 (most:Int))/\w.cell? ⟨b2,0,none⟩=some (.func (.func fn) #[] caps)) :
  Calls Tryz.prog 108 #[.pointer (some ⟨b0,0,none⟩),.pointer (some ⟨b1,0,none⟩),.pointer (some ⟨b2,0,none⟩)] w fun e w'=>e=.returned (.tuple #[.int .i64 (Ck.some most f l).1,.int .i64 ((Ck.some most f l).2:Int)])/\Mod F w w':=by
 obtain ⟨_,_,he,hml⟩:=(hR 0 w h0).form;obtain rfl:n=l.length:=by cases he;rfl
 have HC:=Hi (each_Glyph hS hR hf hcf w h0);obtain ⟨c0,c1,c2⟩:=hb;clear he hml hS hR hf hcf h0;go_enter Tryz.func108,Tryz.ntmps108
 by_cases hm:most<l.length
 ·have k1:decide ((most:Int)<(l.length:Int))=true:=dT (by omega);have k2:(most:Int)<(l.length:Int):=by omega
  unfold Ck.some;rw [if_pos hm];clear HC;go_wp2;go_ret2;exact ⟨rfl,mR⟩
 have k1:decide ((most:Int)<(l.length:Int))=false:=dF (by omega);have k2:¬ (most:Int)<(l.length:Int):=by omega
 unfold Ck.some;rw [if_neg hm];go_wp2_with fail;refine HC.out.mono ?_;rintro e w2 ⟨rfl,m2⟩;have HM:=Hi m2;clear m2 HC c0 c1 c2 hm;go_wp2;go_ret2;exact ⟨rfl,HM.out⟩
theorem some_Region (oa:Option Addr) (n c most fn:Nat) (caps:Array Value) (w:World):Calls Tryz.prog 69 #[.slice oa n c,.int .i64 (most:Int),.func (.func fn) #[] caps] w fun e w'=>(∃ v,e=.returned v/\LookFn 125 (.slice oa n c) (.int .i64 (most:Int)) (.func (.func fn) #[] caps) v w')/\Mod [] w w':=by
 go_enter Tryz.func69,Tryz.ntmps69;go_wp2;go_ret;exact have T:=own3 w _ _ _ _ _ _;⟨⟨_,rfl,_,_,_,_,_,_,rfl,T.at 0 rfl,T.at 1 rfl,T.at 2 rfl⟩,T.mod⟩
theorem look_Region {F:List Nat} {J:Nat->World->Prop} {fn:Nat} {caps:Array Value} {oa:Option Addr} {n c B most:Nat} {l:List DRegion} {f:Nat->DRegion->Int} (hS:∀ i,Stays (J i)) (hR:∀ i w,J i w->Rows 1 RRegion B w (.slice oa n c) l)
  (hf:∀ i x cs w,l[i]?=some x->J i w->RRegion B w cs x->Calls Tryz.prog fn (#[.int .i64 (i:Int),.agg cs.toArray]++caps) w fun e w'=>e=.returned (.int .i64 (f i x))/\Mod F w w'/\(f i x=0->J (i+1) w'))
  (hcf:∀ (a:Array Value) (w:World),(callFunc fn a).run Tryz.prog w=.ok (.enter fn a) w) (b0 b1 b2:Nat) (w:World) (h0:J 0 w)
  (hb:w.cell? ⟨b0,0,none⟩=some (.slice oa n c)/\w.cell? ⟨b1,0,none⟩=some (.int .i64 (most:Int))/\w.cell? ⟨b2,0,none⟩=some (.func (.func fn) #[] caps)) :
  Calls Tryz.prog 125 #[.pointer (some ⟨b0,0,none⟩),.pointer (some ⟨b1,0,none⟩),.pointer (some ⟨b2,0,none⟩)] w fun e w'=>e=.returned (.tuple #[.int .i64 (Ck.some most f l).1,.int .i64 ((Ck.some most f l).2:Int)])/\Mod F w w':=by
 obtain ⟨_,_,he,hml⟩:=(hR 0 w h0).form;obtain rfl:n=l.length:=by cases he;rfl
 have HC:=Hi (each_Region hS hR hf hcf w h0);obtain ⟨c0,c1,c2⟩:=hb;clear he hml hS hR hf hcf h0;go_enter Tryz.func125,Tryz.ntmps125
 by_cases hm:most<l.length
 ·have k1:decide ((most:Int)<(l.length:Int))=true:=dT (by omega);have k2:(most:Int)<(l.length:Int):=by omega
  unfold Ck.some;rw [if_pos hm];clear HC;go_wp2;go_ret2;exact ⟨rfl,mR⟩
 have k1:decide ((most:Int)<(l.length:Int))=false:=dF (by omega);have k2:¬ (most:Int)<(l.length:Int):=by omega
 unfold Ck.some;rw [if_neg hm];go_wp2_with fail;refine HC.out.mono ?_;rintro e w2 ⟨rfl,m2⟩;have HM:=Hi m2;clear m2 HC c0 c1 c2 hm;go_wp2;go_ret2;exact ⟨rfl,HM.out⟩
theorem some_Int (oa:Option Addr) (n c most fn:Nat) (caps:Array Value) (w:World):Calls Tryz.prog 75 #[.slice oa n c,.int .i64 (most:Int),.func (.func fn) #[] caps] w fun e w'=>(∃ v,e=.returned v/\LookFn 133 (.slice oa n c) (.int .i64 (most:Int)) (.func (.func fn) #[] caps) v w')/\Mod [] w w':=by
 go_enter Tryz.func75,Tryz.ntmps75;go_wp2;go_ret;exact have T:=own3 w _ _ _ _ _ _;⟨⟨_,rfl,_,_,_,_,_,_,rfl,T.at 0 rfl,T.at 1 rfl,T.at 2 rfl⟩,T.mod⟩
theorem look_Int {F:List Nat} {J:Nat->World->Prop} {fn:Nat} {caps:Array Value} {oa:Option Addr} {n c B most:Nat} {l:List Int} {f:Nat->Int->Int} (hS:∀ i,Stays (J i)) (hR:∀ i w,J i w->Rows 1 RInt B w (.slice oa n c) l)
  (hf:∀ i x cs w,l[i]?=some x->J i w->RInt B w cs x->Calls Tryz.prog fn (#[.int .i64 (i:Int),cs.headD undef]++caps) w fun e w'=>e=.returned (.int .i64 (f i x))/\Mod F w w'/\(f i x=0->J (i+1) w'))
  (hcf:∀ (a:Array Value) (w:World),(callFunc fn a).run Tryz.prog w=.ok (.enter fn a) w) (b0 b1 b2:Nat) (w:World) (h0:J 0 w)
  (hb:w.cell? ⟨b0,0,none⟩=some (.slice oa n c)/\w.cell? ⟨b1,0,none⟩=some (.int .i64 (most:Int))/\w.cell? ⟨b2,0,none⟩=some (.func (.func fn) #[] caps)) :
  Calls Tryz.prog 133 #[.pointer (some ⟨b0,0,none⟩),.pointer (some ⟨b1,0,none⟩),.pointer (some ⟨b2,0,none⟩)] w fun e w'=>e=.returned (.tuple #[.int .i64 (Ck.some most f l).1,.int .i64 ((Ck.some most f l).2:Int)])/\Mod F w w':=by
 obtain ⟨_,_,he,hml⟩:=(hR 0 w h0).form;obtain rfl:n=l.length:=by cases he;rfl
 have HC:=Hi (each_Int hS hR hf hcf w h0);obtain ⟨c0,c1,c2⟩:=hb;clear he hml hS hR hf hcf h0;go_enter Tryz.func133,Tryz.ntmps133
 by_cases hm:most<l.length
 ·have k1:decide ((most:Int)<(l.length:Int))=true:=dT (by omega);have k2:(most:Int)<(l.length:Int):=by omega
  unfold Ck.some;rw [if_pos hm];clear HC;go_wp2;go_ret2;exact ⟨rfl,mR⟩
 have k1:decide ((most:Int)<(l.length:Int))=false:=dF (by omega);have k2:¬ (most:Int)<(l.length:Int):=by omega
 unfold Ck.some;rw [if_neg hm];go_wp2_with fail;refine HC.out.mono ?_;rintro e w2 ⟨rfl,m2⟩;have HM:=Hi m2;clear m2 HC c0 c1 c2 hm;go_wp2;go_ret2;exact ⟨rfl,HM.out⟩
theorem some_Code (oa:Option Addr) (n c most fn:Nat) (caps:Array Value) (w:World):Calls Tryz.prog 72 #[.slice oa n c,.int .i64 (most:Int),.func (.func fn) #[] caps] w fun e w'=>(∃ v,e=.returned v/\LookFn 129 (.slice oa n c) (.int .i64 (most:Int)) (.func (.func fn) #[] caps) v w')/\Mod [] w w':=by
 go_enter Tryz.func72,Tryz.ntmps72;go_wp2;go_ret;exact have T:=own3 w _ _ _ _ _ _;⟨⟨_,rfl,_,_,_,_,_,_,rfl,T.at 0 rfl,T.at 1 rfl,T.at 2 rfl⟩,T.mod⟩
theorem look_Code {F:List Nat} {J:Nat->World->Prop} {fn:Nat} {caps:Array Value} {oa:Option Addr} {n c B most:Nat} {l:List (List DIns)} {f:Nat->(List DIns)->Int} (hS:∀ i,Stays (J i)) (hR:∀ i w,J i w->Rows 1 RCode B w (.slice oa n c) l)
  (hf:∀ i x cs w,l[i]?=some x->J i w->RCode B w cs x->Calls Tryz.prog fn (#[.int .i64 (i:Int),cs.headD undef]++caps) w fun e w'=>e=.returned (.int .i64 (f i x))/\Mod F w w'/\(f i x=0->J (i+1) w'))
  (hcf:∀ (a:Array Value) (w:World),(callFunc fn a).run Tryz.prog w=.ok (.enter fn a) w) (b0 b1 b2:Nat) (w:World) (h0:J 0 w)
  (hb:w.cell? ⟨b0,0,none⟩=some (.slice oa n c)/\w.cell? ⟨b1,0,none⟩=some (.int .i64 (most:Int))/\w.cell? ⟨b2,0,none⟩=some (.func (.func fn) #[] caps)) :
  Calls Tryz.prog 129 #[.pointer (some ⟨b0,0,none⟩),.pointer (some ⟨b1,0,none⟩),.pointer (some ⟨b2,0,none⟩)] w fun e w'=>e=.returned (.tuple #[.int .i64 (Ck.some most f l).1,.int .i64 ((Ck.some most f l).2:Int)])/\Mod F w w':=by
 obtain ⟨_,_,he,hml⟩:=(hR 0 w h0).form;obtain rfl:n=l.length:=by cases he;rfl
 have HC:=Hi (each_Code hS hR hf hcf w h0);obtain ⟨c0,c1,c2⟩:=hb;clear he hml hS hR hf hcf h0;go_enter Tryz.func129,Tryz.ntmps129
 by_cases hm:most<l.length
 ·have k1:decide ((most:Int)<(l.length:Int))=true:=dT (by omega);have k2:(most:Int)<(l.length:Int):=by omega
  unfold Ck.some;rw [if_pos hm];clear HC;go_wp2;go_ret2;exact ⟨rfl,mR⟩
 have k1:decide ((most:Int)<(l.length:Int))=false:=dF (by omega);have k2:¬ (most:Int)<(l.length:Int):=by omega
 unfold Ck.some;rw [if_neg hm];go_wp2_with fail;refine HC.out.mono ?_;rintro e w2 ⟨rfl,m2⟩;have HM:=Hi m2;clear m2 HC c0 c1 c2 hm;go_wp2;go_ret2;exact ⟨rfl,HM.out⟩
end Go.Proofs.YthheaflbbficgaaGreat

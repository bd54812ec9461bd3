/- Bits64, DivPlain, Div64b, RatBase, RatSum, RatMake, RatRight, RatCut, RatScale, RatMul, RatPlain, RatAdd, RatMore, RatTell. -/
import Derived.Test.YtlkkhkbafahchaaGBase
import Derived.Test.YtlkkhkbafahchaaRows
import Derived.WalkKit
import Derived.WalkSpells
import Derived.WalkLawsBesides
import Derived.Lib.Hide
import Derived.Lib.Mul64
import Derived.Laws.Bits64b
import Derived.Laws.MathBits
import Derived.Shelf.Spec.BitsCarry
import Derived.Shelf.Small.Bits
import Derived.Lib.BitFns
import Derived.Deep.QuietTactic
import Derived.BigQuiet
import Derived.Deep.DeepCutAuto
import Derived.Deep.CutBlock
import Derived.Deep.RegionHeld3
import Derived.Deep.RegionWith
import Derived.IntWalk
set_option linter.all false
namespace Go.Proofs.Ytlkkhkbafahchaa
open Go.RowKit
theorem add64_run (x y c:Nat) (hc:c<=1) (w:World) :
  (callFunc 81 #[.int .u64 x,.int .u64 y,.int .u64 c]).run Try.prog w =
   .ok (.value (.tuple #[.int .u64 (((x+y+c) % 18446744073709551616:Nat):Int),.int .u64 (((x+y+c) / 18446744073709551616:Nat):Int)])) w:=by
 rw [run_callFunc_extern Try.func81 (by kernel_rfl) (by kernel_rfl) (by kernel_rfl) (e:=add64Entry) (by kernel_rfl),run_add64 x y c (by omega) (by omega) (by omega) (by omega)];simp only [Result.andThen]
 congr 5 <;> omega
theorem sub64_run (x y b:Nat) (hb:b<=1) (w:World) :
  (callFunc 82 #[.int .u64 x,.int .u64 y,.int .u64 b]).run Try.prog w =
   .ok (.value (.tuple #[.int .u64 (((x+18446744073709551616 - y - b) % 18446744073709551616:Nat):Int),.int .u64 ((if x<y+b then 1 else 0:Nat):Int)])) w:=by
 rw [run_callFunc_extern Try.func82 (by kernel_rfl) (by kernel_rfl) (by kernel_rfl) (e:=sub64Entry) (by kernel_rfl),run_sub64 x y b hb];rfl
/- The kit's laying of its own contract of LeadingZeros64 at this program (written by the kit's lay-plain). -/
def lays134_ren:Go.Shelf.Ren:=⟨fun | 134=>78 | 129=>83 | n=>n,fun | 53=>140 | 3=>3 | 4=>4 | 46=>172 | 5=>5 | 9=>9 | n=>n,fun | n=>n⟩
theorem lays134:Go.Proofs.Lays.n134 Try.prog lays134_ren:={
 mixed:=by kernel_rfl
 f129:=Try.func83.trans (congrArg some (by kernel_rfl))
 f134:=Try.func78.trans (congrArg some (by kernel_rfl))
 t3:=Try.underlying3
 a3:=Try.isAgg3
 z3:=Try.sizeOf3
 v3:=Try.zeroValue3
 t4:=Try.underlying4
 a4:=Try.isAgg4
 z4:=Try.sizeOf4
 v4:=Try.zeroValue4
 t5:=Try.underlying5
 a5:=Try.isAgg5
 z5:=Try.sizeOf5
 v5:=Try.zeroValue5
 t9:=Try.underlying9
 a9:=Try.isAgg9
 z9:=Try.sizeOf9
 v9:=Try.zeroValue9
 t46:=Try.underlying172
 a46:=Try.isAgg172
 z46:=Try.sizeOf172
 v46:=Try.zeroValue172
 t53:=Try.underlying140
 a53:=Try.isAgg140
 z53:=Try.sizeOf140
 v53:=Try.zeroValue140 }
theorem lz64_any (x:Nat) (hx:x<18446744073709551616) (w:World) :
  Calls Try.prog 78 #[.int .u64 x] w fun e w'=>e=.returned (.int .i64 (64 - (Lib.bitLen x:Int)))/\w=w' :=
 (Any.bits_LeadingZeros64 lays134 x w (by omega) (by omega)).mono fun _ _ ⟨he,hw⟩=>⟨by rw [he,Int.toNat_natCast],hw.symm⟩
namespace Bits
theorem maskN (a:Nat) (ha:a<18446744073709551616):bits .and .u64 (a:Int) 4294967295=((a % 4294967296:Nat):Int):=by
 have h:=bits_and_u64_nat a 4294967295 ha (by omega);have e:a &&& 4294967295=a % 4294967296:=Nat.and_two_pow_sub_one_eq_mod a 32;rw [e] at h;exact h
theorem divN (a:Nat):(a:Int) / 4294967296=((a / 4294967296:Nat):Int):=by omega
theorem mulN (a b:Nat):(a:Int)*(b:Int)=((a*b:Nat):Int):=(Int.natCast_mul a b).symm
theorem addN (a b:Nat):(a:Int)+(b:Int)=((a+b:Nat):Int):=(Int.natCast_add a b).symm
theorem wrapN (a:Nat) (ha:a<18446744073709551616):IntKind.u64.wrap (a:Int)=(a:Int):=by rw [IntKind.wrap_u64];omega
theorem wrapM (a:Nat):IntKind.u64.wrap (a:Int)=((a % 18446744073709551616:Nat):Int):=by rw [IntKind.wrap_u64];omega
end Bits
set_option maxHeartbeats 1000000 in
theorem mul64_any (x y:Nat) (hx:x<18446744073709551616) (hy:y<18446744073709551616) (w:World) :
  Calls Try.prog 79 #[.int .u64 x,.int .u64 y] w fun e w'=>e=.returned (.tuple #[.int .u64 ((x*y / 18446744073709551616:Nat):Int),.int .u64 ((x*y % 18446744073709551616:Nat):Int)])/\w=w':=by
 obtain ⟨bd,bt,bw,hhi⟩:=Lib.mul64_hi x y hx hy;have ba:=Lib.half_mul_le (a:=x / 4294967296) (b:=y / 4294967296) (by omega) (by omega);have bb:=Lib.half_mul_le (a:=x / 4294967296) (b:=y % 4294967296) (by omega) (by omega);have bc:=Lib.half_mul_le (a:=x % 4294967296) (b:=y / 4294967296) (by omega) (by omega);have ba':x / 4294967296*(y / 4294967296)<18446744073709551616:=by omega
 have bb':x / 4294967296*(y % 4294967296)<18446744073709551616:=by omega
 have bc':x % 4294967296*(y / 4294967296)<18446744073709551616:=by omega
 have bh1:x / 4294967296*(y / 4294967296)+(x / 4294967296*(y % 4294967296)+x % 4294967296*(y % 4294967296) / 4294967296) / 4294967296<18446744073709551616:=by omega
 have bh:x / 4294967296*(y / 4294967296)+(x / 4294967296*(y % 4294967296)+x % 4294967296*(y % 4294967296) / 4294967296) / 4294967296+((x / 4294967296*(y % 4294967296)+x % 4294967296*(y % 4294967296) / 4294967296) % 4294967296+x % 4294967296*(y / 4294967296)) / 4294967296<18446744073709551616:=by
  rw [hhi];have:x*y<18446744073709551616*18446744073709551616:=Nat.mul_lt_mul'' hx hy;exact Nat.div_lt_of_lt_mul this
 have BD:=Hi bd;have BT:=Hi bt;have BW:=Hi bw;have HH:=Hi hhi;have BA:=Hi ba';have BB:=Hi bb';have BC:=Hi bc';have BH1:=Hi bh1;have BH:=Hi bh;clear bd bt bw hhi ba bb bc ba' bb' bc' bh1 bh;go_enter Try.func79,Try.ntmps79;go_wp2;simp only [Bits.maskN x hx,Bits.maskN y hy,Bits.divN,Bits.mulN,Bits.addN,Bits.wrapN _ BD.out,Bits.wrapN _ BB.out,Bits.wrapN _ BT.out,Bits.maskN _ BT.out,Bits.wrapN _ BC.out,Bits.wrapN _ BW.out,Bits.wrapN _ BA.out,Bits.wrapN _ BH1.out,Bits.wrapN _ BH.out,Bits.wrapM];rw [HH.out];go_ret2;exact ⟨rfl,rfl⟩
namespace Dv
theorem step_le (Y y1 y0 u v q r:Nat) (hY:Y=y1*4294967296+y0) (hu:q*y1+r=u) (h:q*y0<=4294967296*r+v):q*Y<=u*4294967296+v:=by
 subst hY;subst hu;rw [Nat.mul_add,Nat.add_mul,<- Nat.mul_assoc];omega
theorem step_gt (Y y1 y0 u v q r:Nat) (hY:Y=y1*4294967296+y0) (hu:q*y1+r=u) (h:4294967296*r+v<q*y0):u*4294967296+v<q*Y:=by
 subst hY;subst hu;rw [Nat.mul_add,Nat.add_mul,<- Nat.mul_assoc];omega
theorem step_end (Y y1 y0 u v q r:Nat) (hY:Y=y1*4294967296+y0) (hY0:0<Y) (hu:q*y1+r=u) (h:q*y0<=4294967296*r+v) (hge:(u*4294967296+v) / Y<=q) :
  q=(u*4294967296+v) / Y:=by
 have h1:=step_le Y y1 y0 u v q r hY hu h;have h2:q<=(u*4294967296+v) / Y:=(Nat.le_div_iff_mul_le hY0).2 h1;omega
theorem step_break (Y y1 y0 u v q r:Nat) (hY:Y=y1*4294967296+y0) (hY0:0<Y) (h0:y0<4294967296) (hu:q*y1+r=u) (hr:4294967296<=r) (hq:q<=4294967296) (hge:(u*4294967296+v) / Y<=q) :
  q=(u*4294967296+v) / Y:=by
 refine step_end Y y1 y0 u v q r hY hY0 hu ?_ hge;have:q*y0<=4294967296*y0:=Nat.mul_le_mul_right _ hq;omega
theorem step_down_big (Y u v q:Nat) (hY0:0<Y) (hu:u<Y) (hv:v<4294967296) (hq:4294967296<=q):(u*4294967296+v) / Y<=q - 1:=by
 have:(u*4294967296+v) / Y<4294967296:=by
  rw [Nat.div_lt_iff_lt_mul hY0];have:(u+1)*4294967296<=Y*4294967296:=Nat.mul_le_mul_right _ hu;rw [Nat.mul_comm 4294967296 Y];omega
 omega
theorem step_down (Y y1 y0 u v q r:Nat) (hY:Y=y1*4294967296+y0) (hY0:0<Y) (hu:q*y1+r=u) (h:4294967296*r+v<q*y0):(u*4294967296+v) / Y<=q - 1:=by
 have h1:=step_gt Y y1 y0 u v q r hY hu h;have h2:(u*4294967296+v) / Y<q:=(Nat.div_lt_iff_lt_mul hY0).2 h1;omega
theorem step_start (Y y1 y0 u v:Nat) (hY:Y=y1*4294967296+y0) (h1:0<y1) (hv:v<4294967296):(u*4294967296+v) / Y<=u / y1:=by
 have hY0:0<Y:=by omega
 have hlt:u*4294967296+v<(u / y1+1)*Y:=by
  have h2:u<(u / y1+1)*y1:=by
   have:=Nat.div_add_mod u y1;have:=Nat.mod_lt u h1;rw [Nat.add_mul,Nat.mul_comm (u / y1)];omega
  generalize u / y1+1=k at *
  subst hY;rw [Nat.mul_add,<- Nat.mul_assoc];have:(u+1)*4294967296<=k*y1*4294967296:=Nat.mul_le_mul_right _ h2;omega
 have:=(Nat.div_lt_iff_lt_mul hY0).2 hlt;omega
theorem two_steps (Y u v1 v0:Nat) (hY0:0<Y) :
  (u*18446744073709551616+(v1*4294967296+v0)) / Y=(u*4294967296+v1) / Y*4294967296+((u*4294967296+v1) % Y*4294967296+v0) / Y /\
  (u*18446744073709551616+(v1*4294967296+v0)) % Y=((u*4294967296+v1) % Y*4294967296+v0) % Y:=by
 have e:u*18446744073709551616+(v1*4294967296+v0)=((u*4294967296+v1) % Y*4294967296+v0)+Y*((u*4294967296+v1) / Y*4294967296):=by
  have:=Nat.div_add_mod (u*4294967296+v1) Y;generalize (u*4294967296+v1) / Y=a at *
  generalize (u*4294967296+v1) % Y=b at *
  rw [<- Nat.mul_assoc];generalize Y*a=c at *
  omega
 rw [e,Nat.add_mul_div_left _ _ hY0,Nat.add_mul_mod_self_left];omega
theorem shift_div (x y p:Nat) (hp:0<p):(x*p) / (y*p)=x / y/\(x*p) % (y*p) / p=x % y:=by
 refine ⟨Nat.mul_div_mul_right _ _ hp,?_⟩;rw [Nat.mul_mod_mul_right];exact Nat.mul_div_cancel _ hp
theorem bl (x:Nat):0<x->x<18446744073709551616->2 ^ (Lib.bitLen x - 1)<=x/\x<2 ^ Lib.bitLen x/\1<=Lib.bitLen x:=by
 induction x using Nat.strongRecOn with
 | ind x ih =>
  intro h0 hx;rcases Nat.lt_or_ge x 2 with h | h
  ·have:x=1:=by omega
   subst this;have e:Lib.bitLen 1=1:=by decide +kernel
   rw [e];decide
  ·have hb:=Lib.bitLen_half x (by omega) hx;obtain ⟨h1,h2,h3⟩:=ih (x / 2) (by omega) (by omega) (by omega);rw [hb];have e1:1+Lib.bitLen (x / 2) - 1=(Lib.bitLen (x / 2) - 1)+1:=by omega
   refine ⟨?_,?_,by omega⟩
   ·rw [e1,Nat.pow_succ];omega
   ·rw [Nat.add_comm 1,Nat.pow_succ];omega
theorem lz (x:Nat) (h0:0<x) (hx:x<18446744073709551616):∃ s:Nat,s<=63/\(64 - (Lib.bitLen x:Int))=(s:Int)/\9223372036854775808<=x*2 ^ s/\x*2 ^ s<18446744073709551616:=by
 obtain ⟨h1,h2,h3⟩:=bl x h0 hx;have h4:=Lib.bitLen_le x 64 (Nat.le_refl _) hx;refine ⟨64 - Lib.bitLen x,by omega,by omega,?_,?_⟩
 ·have:=Nat.mul_le_mul_right (2 ^ (64 - Lib.bitLen x)) h1;rw [<- Nat.pow_add,show Lib.bitLen x - 1+(64 - Lib.bitLen x)=63 by omega] at this;exact this
 ·have:=(Nat.mul_lt_mul_right (a:=2 ^ (64 - Lib.bitLen x)) (Nat.two_pow_pos _)).2 h2;rw [<- Nat.pow_add,show Lib.bitLen x+(64 - Lib.bitLen x)=64 by omega] at this;exact this
theorem q_bound (Y y1 y0 u q r:Nat) (hY:Y=y1*4294967296+y0) (h1:2147483648<=y1) (h0:y0<4294967296) (hu:u<Y) (h:q*y1+r=u):q<=4294967297:=by
 rcases Nat.lt_or_ge 4294967297 q with hq | hq
 ·exfalso;have:4294967298*y1<=q*y1:=Nat.mul_le_mul_right _ hq;omega
 ·exact hq
theorem q_down (q y1 r u:Nat) (hq:1<=q) (h:q*y1+r=u):(q - 1)*y1+(r+y1)=u:=by
 obtain ⟨k,rfl⟩:∃ k,q=k+1:=⟨q - 1,by omega⟩
 rw [Nat.add_mul] at h;rw [show k+1 - 1=k by omega];omega
theorem left_mod (Y u v Q:Nat) (hQ:Q=(u*4294967296+v) / Y) (hY:Y<18446744073709551616) (hY0:0<Y) :
  ((((u:Int)*4294967296 % 18446744073709551616+v) % 18446744073709551616 - (Q:Int)*Y % 18446744073709551616) % 18446744073709551616)=(((u*4294967296+v) % Y:Nat):Int):=by
 have h1:=Nat.div_add_mod (u*4294967296+v) Y;have h2:=Nat.mod_lt (u*4294967296+v) hY0;rw [<- hQ] at h1;generalize (u*4294967296+v) % Y=R at *
 rw [Nat.mul_comm] at h1;have h3:(Q:Int)*Y=((Q*Y:Nat):Int):=(Int.natCast_mul Q Y).symm;rw [h3];generalize Q*Y=z at *
 omega
theorem shift_low (lo s:Nat) (hs:s<=63) (hl:lo<18446744073709551616):lo / 2 ^ (64 - s)<2 ^ s/\lo*2 ^ s=lo / 2 ^ (64 - s)*18446744073709551616+lo*2 ^ s % 18446744073709551616:=by
 have hp:2 ^ (64 - s)*2 ^ s=18446744073709551616:=by rw [<- Nat.pow_add,show 64 - s+s=64 by omega]
 have hp1:0<2 ^ (64 - s):=Nat.two_pow_pos _;have hp2:0<2 ^ s:=Nat.two_pow_pos _;constructor
 ·rw [Nat.div_lt_iff_lt_mul hp1,Nat.mul_comm,hp];exact hl
 ·have e:lo*2 ^ s / 18446744073709551616=lo / 2 ^ (64 - s):=by
   rw [<- hp];exact Nat.mul_div_mul_right _ _ hp2
  rw [<- e,Nat.mul_comm (lo*2 ^ s / 18446744073709551616)];exact (Nat.div_add_mod _ _).symm
theorem high_lt (hi lo y s:Nat) (hs:s<=63) (hlt:hi<y) (hl:lo<18446744073709551616):hi*2 ^ s+lo / 2 ^ (64 - s)<y*2 ^ s:=by
 have h1:=(shift_low lo s hs hl).1;have h2:(hi+1)*2 ^ s<=y*2 ^ s:=Nat.mul_le_mul_right _ hlt;rw [Nat.add_mul] at h2;omega
theorem all (hi lo y s Y U L v1 v0 Q1 R1 Q0 R0:Nat) (hs:s<=63) (hl:lo<18446744073709551616) (hy0:0<Y) (hY:Y=y*2 ^ s) (hU:U=hi*2 ^ s+lo / 2 ^ (64 - s)) (hL:L=lo*2 ^ s % 18446744073709551616)
  (hLs:L=v1*4294967296+v0) (h1:Q1=(U*4294967296+v1) / Y) (h2:R1=(U*4294967296+v1) % Y) (h3:Q0=(R1*4294967296+v0) / Y) (h4:R0=(R1*4294967296+v0) % Y) :
  (hi*18446744073709551616+lo) / y=Q1*4294967296+Q0/\(hi*18446744073709551616+lo) % y=R0 / 2 ^ s:=by
 have hp2:0<2 ^ s:=Nat.two_pow_pos _;have e:U*18446744073709551616+(v1*4294967296+v0)=(hi*18446744073709551616+lo)*2 ^ s:=by
  rw [<- hLs,hU,hL,Nat.add_mul,Nat.add_mul,Nat.add_assoc,<- (shift_low lo s hs hl).2,Nat.mul_right_comm]
 obtain ⟨t1,t2⟩:=two_steps Y U v1 v0 hy0;rw [<- h1,<- h2,<- h3] at t1;rw [<- h2,<- h4] at t2;rw [e,hY] at t1 t2;obtain ⟨u1,u2⟩:=shift_div (hi*18446744073709551616+lo) y (2 ^ s) hp2;rw [u1] at t1;rw [t2] at u2;exact ⟨t1,u2.symm⟩
end Dv
set_option maxHeartbeats 1000000 in
theorem div64_low (lo y:Nat) (h0:0<y) (_hy:y<18446744073709551616) (_hl:lo<18446744073709551616) (w:World) :
  Calls Try.prog 57 #[.int .u64 0,.int .u64 lo,.int .u64 y] w fun e w'=>e=.returned (.tuple #[.int .u64 ((lo / y:Nat):Int),.int .u64 ((lo % y:Nat):Int)])/\∃ n,w'=w.drewN n:=by
 have d1:((y:Int) == 0)=false:=by simp;omega
 have d2:decide ((y:Int)<=0)=false:=by simp;omega
 go_enter Try.func57,Try.ntmps57;go_wp2_with fail
 go_quiet (fail)
 go_wp2_with fail;go_ret2;have e1:IntKind.u64.wrap ((lo:Int) / (y:Int))=((lo / y:Nat):Int):=by
  rw [<- Int.natCast_ediv,Bits.wrapN _ (Nat.lt_of_le_of_lt (Nat.div_le_self _ _) _hl)]
 have e2:(lo:Int) % (y:Int)=((lo % y:Nat):Int):=(Int.natCast_emod lo y).symm;rw [<- e1,<- e2];exact ⟨rfl,_,rfl⟩
set_option maxRecDepth 100000 in
set_option maxHeartbeats 4000000 in
theorem div64_high (hi lo y:Nat) (h0:0<hi) (hlt:hi<y) (hy:y<18446744073709551616) (hl:lo<18446744073709551616) (w:World) :
  Calls Try.prog 57 #[.int .u64 hi,.int .u64 lo,.int .u64 y] w fun e w'=>e=.returned (.tuple #[.int .u64 (((hi*18446744073709551616+lo) / y:Nat):Int),.int .u64 (((hi*18446744073709551616+lo) % y:Nat):Int)])/\∃ n,w'=w.drewN n:=by
 have d1:((y:Int) == 0)=false:=by simp;omega
 have d2:decide ((y:Int)<=hi)=false:=by simp;omega
 have d3:((hi:Int) == 0)=false:=by simp;omega
 obtain ⟨s,hs,es,hy1,hy2⟩:=Dv.lz y (by omega) hy;have ES:=Hi es;clear es;obtain ⟨Y,hY⟩:∃ Y,Y=y*2 ^ s:=⟨_,rfl⟩
 obtain ⟨U,hU⟩:∃ U,U=hi*2 ^ s+lo / 2 ^ (64 - s):=⟨_,rfl⟩
 obtain ⟨L,hL⟩:∃ L,L=lo*2 ^ s % 18446744073709551616:=⟨_,rfl⟩
 obtain ⟨y1,hy1d⟩:∃ y1,y1=Y / 4294967296:=⟨_,rfl⟩
 obtain ⟨y0,hy0d⟩:∃ y0,y0=Y % 4294967296:=⟨_,rfl⟩
 obtain ⟨v1,hv1d⟩:∃ v1,v1=L / 4294967296:=⟨_,rfl⟩
 obtain ⟨v0,hv0d⟩:∃ v0,v0=L % 4294967296:=⟨_,rfl⟩
 have hUY:U<Y:=by rw [hU,hY];exact Dv.high_lt hi lo y s hs hlt hl
 have hY64:Y<18446744073709551616:=by rw [hY];exact hy2
 have hY63:9223372036854775808<=Y:=by rw [hY];exact hy1
 have hL64:L<18446744073709551616:=by omega
 have r1:IntKind.u64.wrap ((y:Int)*2 ^ s)=(Y:Int):=by
  rw [show (y:Int)*2 ^ s=((y*2 ^ s:Nat):Int) by rw [Int.natCast_mul,Int.natCast_pow];rfl,<- hY,Bits.wrapN _ hY64]
 have r2:bits BinOp.and IntKind.u64 (Y:Int) 4294967295=(y0:Int):=by rw [Bits.maskN _ hY64,hy0d]
 have r3:(Y:Int) / 4294967296=(y1:Int):=by omega
 have r4:IntKind.u64.wrap ((lo:Int)*2 ^ s)=(L:Int):=by
  rw [show (lo:Int)*2 ^ s=((lo*2 ^ s:Nat):Int) by rw [Int.natCast_mul,Int.natCast_pow];rfl,Bits.wrapM,<- hL]
 have r5:(L:Int) / 4294967296=(v1:Int):=by omega
 have r6:bits BinOp.and IntKind.u64 (L:Int) 4294967295=(v0:Int):=by rw [Bits.maskN _ hL64,hv0d]
 have r7:bits BinOp.or IntKind.u64 (IntKind.u64.wrap ((hi:Int)*2 ^ s)) ((lo:Int) / 2 ^ (64 - s))=(U:Int):=by
  have hlo:=(Dv.shift_low lo s hs hl).1;have hh0:hi*2 ^ s<=U:=by rw [hU];exact Nat.le_add_right _ _
  have hh:hi*2 ^ s<18446744073709551616:=by omega
  have hs2:(2:Nat) ^ s<=2 ^ 63:=Nat.pow_le_pow_right (by omega) hs
  rw [show (hi:Int)*2 ^ s=((hi*2 ^ s:Nat):Int) by rw [Int.natCast_mul,Int.natCast_pow];rfl,Bits.wrapN _ hh,
   show (lo:Int) / 2 ^ (64 - s)=((lo / 2 ^ (64 - s):Nat):Int) by rw [Int.natCast_ediv,Int.natCast_pow];rfl,
   u64_or_nat _ _ hh (by omega),nat_join s _ _ (Nat.mul_mod_left _ _) hlo,hU]
 have b1:2147483648<=y1:=by omega
 have b2:y1<4294967296:=by omega
 have b3:y0<4294967296:=by omega
 have b4:v1<4294967296:=by omega
 have b5:v0<4294967296:=by omega
 have HYs:=Hi (show Y=y1*4294967296+y0 by omega);have HLs:=Hi (show L=v1*4294967296+v0 by omega);have HY:=Hi hY;have HU:=Hi hU;have HL:=Hi hL;clear hY hU hL hy1d hy0d hv1d hv0d hy1 hy2;obtain ⟨qa,hqa⟩:∃ qa,qa=U / y1:=⟨_,rfl⟩
 obtain ⟨ra,hra⟩:∃ ra,ra=U % y1:=⟨_,rfl⟩
 obtain ⟨m1,hm1⟩:∃ m1,m1=qa*y1:=⟨_,rfl⟩
 have hsum:m1+ra=U:=by rw [hm1,hqa,hra,Nat.mul_comm];exact Nat.div_add_mod U y1
 have hrl:ra<y1:=by rw [hra];exact Nat.mod_lt _ (by omega)
 have r8:IntKind.u64.wrap ((U:Int) / (y1:Int))=(qa:Int):=by
  rw [<- Int.natCast_ediv,<- hqa,Bits.wrapN _ (by rw [hqa];exact Nat.lt_of_le_of_lt (Nat.div_le_self _ _) (by omega))]
 have r9:IntKind.u64.wrap ((qa:Int)*(y1:Int))=(m1:Int):=by
  rw [<- Int.natCast_mul,<- hm1,Bits.wrapN _ (by omega)]
 have r10:IntKind.u64.wrap ((U:Int) - (m1:Int))=(ra:Int):=by rw [IntKind.wrap_u64];omega
 obtain ⟨Q1,hQ1⟩:∃ Q1,Q1=(U*4294967296+v1) / Y:=⟨_,rfl⟩
 have HQ1:=Hi hQ1;have HST:=Hi (show Q1<=qa by rw [hQ1,hqa];exact Dv.step_start Y y1 y0 U v1 HYs.out (by omega) b4);have HM:=Hi (show qa*y1+ra=U by rw [<- hm1];exact hsum);obtain ⟨R1,hR1⟩:∃ R1,R1=(U*4294967296+v1) % Y:=⟨_,rfl⟩
 have hR1Y:R1<Y:=by rw [hR1];exact Nat.mod_lt _ (by omega)
 have HUY:=Hi hUY;have HR1Y:=Hi hR1Y;have s1:IntKind.u64.wrap (IntKind.u64.wrap (IntKind.u64.wrap ((U:Int)*4294967296)+(v1:Int)) - IntKind.u64.wrap ((Q1:Int)*(Y:Int)))=(R1:Int):=by
  rw [IntKind.wrap_u64,IntKind.wrap_u64,IntKind.wrap_u64,IntKind.wrap_u64,hR1];exact Dv.left_mod Y U v1 Q1 hQ1 hY64 (by omega)
 obtain ⟨qb,hqb⟩:∃ qb,qb=R1 / y1:=⟨_,rfl⟩
 obtain ⟨rb,hrb⟩:∃ rb,rb=R1 % y1:=⟨_,rfl⟩
 obtain ⟨m2,hm2⟩:∃ m2,m2=qb*y1:=⟨_,rfl⟩
 have hsum2:m2+rb=R1:=by rw [hm2,hqb,hrb,Nat.mul_comm];exact Nat.div_add_mod R1 y1
 have hrl2:rb<y1:=by rw [hrb];exact Nat.mod_lt _ (by omega)
 have hqas:qa<18446744073709551616:=by rw [hqa];exact Nat.lt_of_le_of_lt (Nat.div_le_self _ _) (by omega)
 have hqbs:qb<18446744073709551616:=by rw [hqb];exact Nat.lt_of_le_of_lt (Nat.div_le_self _ _) (by omega)
 have s2:IntKind.u64.wrap ((R1:Int) / (y1:Int))=(qb:Int):=by rw [<- Int.natCast_ediv,<- hqb,Bits.wrapN _ hqbs]
 have s3:IntKind.u64.wrap ((qb:Int)*(y1:Int))=(m2:Int):=by rw [<- Int.natCast_mul,<- hm2,Bits.wrapN _ (by omega)]
 have s4:IntKind.u64.wrap ((R1:Int) - (m2:Int))=(rb:Int):=by rw [IntKind.wrap_u64];omega
 obtain ⟨Q0,hQ0⟩:∃ Q0,Q0=(R1*4294967296+v0) / Y:=⟨_,rfl⟩
 obtain ⟨R0,hR0⟩:∃ R0,R0=(R1*4294967296+v0) % Y:=⟨_,rfl⟩
 have HQ0:=Hi hQ0;have HR1:=Hi hR1;have HR0:=Hi hR0;have HST2:=Hi (show Q0<=qb by rw [hQ0,hqb];exact Dv.step_start Y y1 y0 R1 v0 HYs.out (by omega) b5);have HM2:=Hi (show qb*y1+rb=R1 by rw [<- hm2];exact hsum2);have s5:IntKind.u64.wrap (IntKind.u64.wrap (IntKind.u64.wrap ((R1:Int)*4294967296)+(v0:Int)) - IntKind.u64.wrap ((Q0:Int)*(Y:Int)))=(R0:Int):=by
  rw [IntKind.wrap_u64,IntKind.wrap_u64,IntKind.wrap_u64,IntKind.wrap_u64,hR0];exact Dv.left_mod Y R1 v0 Q0 hQ0 hY64 (by omega)
 have s6:True:=trivial;have s7:True:=trivial;clear hqa hra hm1 hsum hQ1 hqb hrb hm2 hsum2 hQ0 hR0 hR1 hUY hR1Y;go_enter Try.func57,Try.ntmps57;go_wp2_with fail;refine (lz64_any y hy _).mono ?_;rintro e w1 ⟨rfl,rfl⟩;rw [ES.out];go_upto_block 0 with fail
 go_cut [15,16] (fun a _ wx=>a=.int .u64 (Q1:Int)/\wx=w)
 case first =>
  clear r1 r2 r3 r4 r5 r6 r7 r8 r9 r10 d1 d2 d3 ES HY HU HL HLs;go_wp2_with fail
  go_loop [15,16] (fun a b=>∃ q r:Nat,a=.int .u64 q/\b=.int .u64 r/\r<4294967296/\Q1<=q/\q<18446744073709551616/\Hid (q*y1+r=U)) (fun a _=>(intOf a).toNat)
  case atStart=>exact ⟨qa,ra,rfl,rfl,by omega,HST.out,by omega,HM.out⟩
  case round =>
   obtain ⟨q,r,rfl,rfl,hr,hq,hq64,HQ⟩:=hrel;have hqb:q<=4294967297:=Dv.q_bound Y y1 y0 U q r HYs.out b1 b3 HUY.out HQ.out;clear HST HM
   by_cases hB:4294967296<=q
   ·have dB:decide ((4294967296:Int)<=q)=true:=by simp;omega
    have HDN:=Hi (HQ1.out ▸ Dv.step_down_big Y U v1 q (by omega) HUY.out b4 hB);have HQ':Hid ((q - 1)*y1+(r+y1)=U):=Dv.q_down q y1 r U (by omega) HQ.out
    by_cases hbr:r+y1<4294967296
    ·have dC:decide ((4294967296:Int)<=(r:Int)+y1)=false:=by simp;omega
     go_wp2_with fail
     go_round
     case rel=>exact ⟨q - 1,r+y1,by go_num,by go_num,hbr,HDN.out,by omega,HQ'⟩
     case measure=>simp [intOf];omega
    ·have dC:decide ((4294967296:Int)<=(r:Int)+y1)=true:=by simp;omega
     have HE:=Hi (Dv.step_break Y y1 y0 U v1 (q - 1) (r+y1) HYs.out (by omega) b3 HQ'.out (by omega) (by omega) (HQ1.out ▸ HDN.out));go_wp2_with fail;go_meet;exact ⟨by rw [HQ1.out,<- HE.out];go_num,rfl⟩
   ·have dB:decide ((4294967296:Int)<=q)=false:=by simp;omega
    obtain ⟨P,hP⟩:∃ P,P=q*y0:=⟨_,rfl⟩
    have hPb:P<18446744073709551616:=by
     have:q*y0<=4294967295*4294967295:=Nat.mul_le_mul (by omega) (by omega);omega
    have hwP:IntKind.u64.wrap ((q:Int)*(y0:Int))=(P:Int):=by rw [<- Int.natCast_mul,<- hP,Bits.wrapN _ hPb]
    have HP:=Hi hP;clear hP
    by_cases hgt:4294967296*r+v1<P
    ·have dG:decide (4294967296*(r:Int)+v1<P)=true:=by simp;omega
     have HDN:=Hi (HQ1.out ▸ Dv.step_down Y y1 y0 U v1 q r HYs.out (by omega) HQ.out (by rw [<- HP.out];exact hgt));have HQ':Hid ((q - 1)*y1+(r+y1)=U):=Dv.q_down q y1 r U (by rcases Nat.eq_zero_or_pos q with h | h;(rw [HP.out,h] at hgt;omega);exact h) HQ.out;have hq1:1<=q:=by rcases Nat.eq_zero_or_pos q with h | h;(rw [HP.out,h] at hgt;omega);exact h
     by_cases hbr:r+y1<4294967296
     ·have dC:decide ((4294967296:Int)<=(r:Int)+y1)=false:=by simp;omega
      go_wp2_with fail
      go_round
      case rel=>exact ⟨q - 1,r+y1,by go_num,by go_num,hbr,HDN.out,by omega,HQ'⟩
      case measure=>simp [intOf];omega
     ·have dC:decide ((4294967296:Int)<=(r:Int)+y1)=true:=by simp;omega
      have HE:=Hi (Dv.step_break Y y1 y0 U v1 (q - 1) (r+y1) HYs.out (by omega) b3 HQ'.out (by omega) (by omega) (HQ1.out ▸ HDN.out));go_wp2_with fail;go_meet;exact ⟨by rw [HQ1.out,<- HE.out];go_num,rfl⟩
    ·have dG:decide (4294967296*(r:Int)+v1<P)=false:=by simp;omega
     have HE:=Hi (Dv.step_end Y y1 y0 U v1 q r HYs.out (by omega) HQ.out (by rw [<- HP.out];omega) (HQ1.out ▸ hq));go_wp2_with fail;go_meet;exact ⟨by rw [HQ1.out,<- HE.out],rfl⟩
 case rest =>
  obtain ⟨rfl,rfl⟩:=hcut;go_upto_block 2 with fail
  go_cut [18,16] (fun a _ wx=>a=.int .u64 (Q0:Int)/\wx=wc)
  case first =>
   clear r1 r2 r3 r4 r5 r6 r7 r8 r9 r10 s1 s2 s3 s4 s5 s6 s7 d1 d2 d3 ES HY HU HL HLs;go_wp2_with fail
   go_loop [18,16] (fun a b=>∃ q r:Nat,a=.int .u64 q/\b=.int .u64 r/\r<4294967296/\Q0<=q/\q<18446744073709551616/\Hid (q*y1+r=R1)) (fun a _=>(intOf a).toNat)
   case atStart=>exact ⟨qb,rb,rfl,rfl,by omega,HST2.out,by omega,HM2.out⟩
   case round =>
    obtain ⟨q,r,rfl,rfl,hr,hq,hq64,HQ⟩:=hrel;have hqb:q<=4294967297:=Dv.q_bound Y y1 y0 R1 q r HYs.out b1 b3 HR1Y.out HQ.out;clear HST2 HM2
    by_cases hB:4294967296<=q
    ·have dB:decide ((4294967296:Int)<=q)=true:=by simp;omega
     have HDN:=Hi (HQ0.out ▸ Dv.step_down_big Y R1 v0 q (by omega) HR1Y.out b5 hB);have HQ':Hid ((q - 1)*y1+(r+y1)=R1):=Dv.q_down q y1 r R1 (by omega) HQ.out
     by_cases hbr:r+y1<4294967296
     ·have dC:decide ((4294967296:Int)<=(r:Int)+y1)=false:=by simp;omega
      go_wp2_with fail
      go_round
      case rel=>exact ⟨q - 1,r+y1,by go_num,by go_num,hbr,HDN.out,by omega,HQ'⟩
      case measure=>simp [intOf];omega
     ·have dC:decide ((4294967296:Int)<=(r:Int)+y1)=true:=by simp;omega
      have HE:=Hi (Dv.step_break Y y1 y0 R1 v0 (q - 1) (r+y1) HYs.out (by omega) b3 HQ'.out (by omega) (by omega) (HQ0.out ▸ HDN.out));go_wp2_with fail;go_meet;exact ⟨by rw [HQ0.out,<- HE.out];go_num,rfl⟩
    ·have dB:decide ((4294967296:Int)<=q)=false:=by simp;omega
     obtain ⟨P,hP⟩:∃ P,P=q*y0:=⟨_,rfl⟩
     have hPb:P<18446744073709551616:=by
      have:q*y0<=4294967295*4294967295:=Nat.mul_le_mul (by omega) (by omega);omega
     have hwP:IntKind.u64.wrap ((q:Int)*(y0:Int))=(P:Int):=by rw [<- Int.natCast_mul,<- hP,Bits.wrapN _ hPb]
     have HP:=Hi hP;clear hP
     by_cases hgt:4294967296*r+v0<P
     ·have dG:decide (4294967296*(r:Int)+v0<P)=true:=by simp;omega
      have HDN:=Hi (HQ0.out ▸ Dv.step_down Y y1 y0 R1 v0 q r HYs.out (by omega) HQ.out (by rw [<- HP.out];exact hgt));have HQ':Hid ((q - 1)*y1+(r+y1)=R1):=Dv.q_down q y1 r R1 (by rcases Nat.eq_zero_or_pos q with h | h;(rw [HP.out,h] at hgt;omega);exact h) HQ.out;have hq1:1<=q:=by rcases Nat.eq_zero_or_pos q with h | h;(rw [HP.out,h] at hgt;omega);exact h
      by_cases hbr:r+y1<4294967296
      ·have dC:decide ((4294967296:Int)<=(r:Int)+y1)=false:=by simp;omega
       go_wp2_with fail
       go_round
       case rel=>exact ⟨q - 1,r+y1,by go_num,by go_num,hbr,HDN.out,by omega,HQ'⟩
       case measure=>simp [intOf];omega
      ·have dC:decide ((4294967296:Int)<=(r:Int)+y1)=true:=by simp;omega
       have HE:=Hi (Dv.step_break Y y1 y0 R1 v0 (q - 1) (r+y1) HYs.out (by omega) b3 HQ'.out (by omega) (by omega) (HQ0.out ▸ HDN.out));go_wp2_with fail;go_meet;exact ⟨by rw [HQ0.out,<- HE.out];go_num,rfl⟩
     ·have dG:decide (4294967296*(r:Int)+v0<P)=false:=by simp;omega
      have HE:=Hi (Dv.step_end Y y1 y0 R1 v0 q r HYs.out (by omega) HQ.out (by rw [<- HP.out];omega) (HQ0.out ▸ hq));go_wp2_with fail;go_meet;exact ⟨by rw [HQ0.out,<- HE.out],rfl⟩
  case rest =>
   obtain ⟨rfl,rfl⟩:=hcut;obtain ⟨t1,t2⟩:=Dv.all hi lo y s Y U L v1 v0 Q1 R1 Q0 R0 hs hl (by omega) HY.out HU.out HL.out HLs.out HQ1.out HR1.out HQ0.out HR0.out;have T1:=Hi t1;have T2:=Hi t2;have hq64:(hi*18446744073709551616+lo) / y<18446744073709551616:=by
    rw [Nat.div_lt_iff_lt_mul (by omega)];have:(hi+1)*18446744073709551616<=y*18446744073709551616:=Nat.mul_le_mul_right _ hlt;rw [Nat.mul_comm 18446744073709551616 y];omega
   rw [t1] at hq64;have hw:(Q1:Int)*4294967296+(Q0:Int)=((Q1*4294967296+Q0:Nat):Int):=by omega
   have hr:(R0:Int) / 2 ^ s=((R0 / 2 ^ s:Nat):Int):=by rw [Int.natCast_ediv,Int.natCast_pow];rfl
   clear t1 t2;have HW:=Hi hw;have HR:=Hi hr;clear hw hr;go_wp2_with fail;go_ret2;rw [T1.out,T2.out,<- HW.out,<- HR.out];exact ⟨rfl,0,rfl⟩
theorem div64_any (hi lo y:Nat) (hlt:hi<y) (hy:y<18446744073709551616) (hl:lo<18446744073709551616) (w:World) :
  Calls Try.prog 57 #[.int .u64 hi,.int .u64 lo,.int .u64 y] w fun e w'=>e=.returned (.tuple #[.int .u64 (((hi*18446744073709551616+lo) / y:Nat):Int),.int .u64 (((hi*18446744073709551616+lo) % y:Nat):Int)])/\∃ n,w'=w.drewN n:=by
 rcases Nat.eq_zero_or_pos hi with h | h
 ·subst h;rw [Nat.zero_mul,Nat.zero_add];exact div64_low lo y hlt hy hl w
 ·exact div64_high hi lo y h hlt hy hl w
set_option maxHeartbeats 400000 in
theorem size_any (n:Int) (w:World) (h1:-9223372036854775808<=n) (h2:n<=9223372036854775807) :
  Calls Try.prog 60 #[.int .i64 n] w fun e w'=>e=.returned (.int .u64 (n.natAbs:Int))/\w=w':=by
 by_cases h:n<0
 ·have hw:IntKind.u64.wrap (-IntKind.u64.wrap n)=(n.natAbs:Int):=by rw [IntKind.wrap_u64,IntKind.wrap_u64];omega
  have HW:=Hi hw;clear hw;go_enter Try.func60,Try.ntmps60;go_wp2;go_ret;rw [<- HW.out];exact ⟨rfl,rfl⟩
 ·have hw:n=(n.natAbs:Int):=by omega
  have HW:=Hi hw;clear hw;go_enter Try.func60,Try.ntmps60;go_wp2;go_ret;rw [<- HW.out];exact ⟨rfl,rfl⟩
set_option maxHeartbeats 400000 in
theorem divisor_any (a b:Nat) (w:World) (ha:a<18446744073709551616) (hb:b<18446744073709551616) :
  Calls Try.prog 53 #[.int .u64 a,.int .u64 b] w fun e w'=>e=.returned (.int .u64 ((Nat.gcd a b:Nat):Int))/\∃ n,w'=w.drewN n:=by
 go_enter Try.func53,Try.ntmps53;go_wp2
 go_loopw [0,1] (fun x y wr=>∃ p q n:Nat,x=.int .u64 p/\y=.int .u64 q/\p<18446744073709551616/\q<18446744073709551616/\Hid (Nat.gcd p q=Nat.gcd a b)/\wr=w.drewN n) (fun _ y _=>(intOf y).toNat)
 case atStart=>exact ⟨a,b,0,rfl,rfl,ha,hb,rfl,rfl⟩
 case round =>
  obtain ⟨p,q,n,rfl,rfl,hp,hq,HG,rfl⟩:=hrel;rcases Nat.eq_zero_or_pos q with h0 | h0
  ·have hq0:((q:Int) != 0)=false:=by simp [h0]
   have HE:Hid (Nat.gcd a b=p):=by rw [<- HG.out,h0,Nat.gcd_zero_right];exact rfl
   clear h0;go_wp2;go_ret;rw [HE.out];exact ⟨rfl,_,rfl⟩
  ·have hq0:((q:Int) != 0)=true:=by simp;omega
   have HE:Hid (Nat.gcd q (p % q)=Nat.gcd a b):=by
    rw [Nat.gcd_comm q (p % q),<- Nat.gcd_rec q p,Nat.gcd_comm q p];exact HG.out
   have hlt:=Nat.mod_lt p h0;have hm:(p:Int) % (q:Int)=((p % q:Nat):Int):=(Int.natCast_emod p q).symm;go_wp2_with fail
   go_quiet (fail)
   go_wp2_with fail
   go_roundw
   case rel=>exact ⟨q,p % q,_,rfl,rfl,hq,by omega,HE.out,World.drewN_drewN _ _ _⟩
   case measure=>simp [intOf];omega
set_option maxHeartbeats 400000 in
theorem product_any (a b:Nat) (w:World) (ha:a<18446744073709551616) (hb:b<18446744073709551616) :
  Calls Try.prog 59 #[.int .u64 a,.int .u64 b] w fun e w'=>e=.returned (.agg #[.int .u64 ((a*b / 18446744073709551616:Nat):Int),.int .u64 ((a*b % 18446744073709551616:Nat):Int)])/\Mod [] w w':=by
 go_enter Try.func59,Try.ntmps59;go_wp2_with fail;refine (mul64_any a b ha hb _).mono ?_;rintro e w1 ⟨rfl,rfl⟩;go_wp2_with fail;refine bodyPost_ret (v:=.agg #[.int .u64 ((a*b / 18446744073709551616:Nat):Int),.int .u64 ((a*b % 18446744073709551616:Nat):Int)]) (by simp [results,Try.results59,go_sem]) rfl ⟨rfl,?_⟩;exact (Mod.refl _ _).alloc _
def lt2 (h l h' l':Nat):Bool:=decide (h<h'∨h=h'/\l<l')
set_option maxHeartbeats 400000 in
theorem less_any (h l h' l':Nat) (w:World) :
  Calls Try.prog 76 #[.agg #[.int .u64 h,.int .u64 l],.agg #[.int .u64 h',.int .u64 l']] w fun e w'=>e=.returned (.bool (lt2 h l h' l'))/\Mod [] w w':=by
 have M:=Hi (((Mod.refl [] w).alloc (.cells #[.int .u64 h,.int .u64 l] 143)).alloc (.cells #[.int .u64 h',.int .u64 l'] 143))
 by_cases h1:h<h'
 ·have HD:=Hi (show lt2 h l h' l'=true by simp [lt2,h1]);have d1:decide (h<h')=true:=by simp;omega
  go_enter Try.func76,Try.ntmps76;go_wp2_with fail;go_ret;exact ⟨by rw [HD.out];rfl,M.out⟩
 ·have d1:decide (h<h')=false:=by simp;omega
  by_cases h2:h=h'
  ·have d2:((h:Int) == h')=true:=by simp;omega
   have HD:=Hi (show lt2 h l h' l'=decide (l<l') by simp [lt2,h2]);clear h1 h2;go_enter Try.func76,Try.ntmps76;go_wp2_with fail;go_ret;exact ⟨by rw [HD.out];rfl,M.out⟩
  ·have d2:((h:Int) == h')=false:=by simp;omega
   have HD:=Hi (show lt2 h l h' l'=false by simp [lt2,h1,h2]);clear h1 h2;go_enter Try.func76,Try.ntmps76;go_wp2_with fail;go_ret;exact ⟨by rw [HD.out];rfl,M.out⟩
set_option maxHeartbeats 400000 in
theorem times_any (n:Int) (b:Nat) (w:World) (h1:-9223372036854775808<=n) (h2:n<=9223372036854775807) (hb:b<18446744073709551616) :
  Calls Try.prog 55 #[.int .i64 n,.int .u64 b] w fun e w'=>e=.returned (.agg #[.int .u64 ((n.natAbs*b / 18446744073709551616:Nat):Int),.int .u64 ((n.natAbs*b % 18446744073709551616:Nat):Int),.bool (decide (n<0))])/\Mod [] w w':=by
 have M0:=Hi ((Mod.refl [] w).alloc (.cells #[.int .u64 0,.int .u64 0,.bool false] 145));go_enter Try.func55,Try.ntmps55;go_wp2_with fail;refine (size_any n _ h1 h2).mono ?_;rintro e w1 ⟨rfl,rfl⟩;go_wp2_with fail;refine (product_any n.natAbs b _ (by omega) hb).mono ?_;rintro e w1 ⟨rfl,m1⟩;obtain ⟨k0,k1,k2,z0,z1,z2,ks⟩:=res3 (by simp) m1;have M1:=Hi (M0.out.then m1);clear m1;generalize ex:((n.natAbs*b / 18446744073709551616:Nat):Int)=x at *
 generalize ey:((n.natAbs*b % 18446744073709551616:Nat):Int)=y at *
 have EX:=Hi ex;have EY:=Hi ey;clear ex ey;go_wp2_with fail;refine bodyPost_ret (v:=.agg #[.int .u64 x,.int .u64 y,.bool (decide (n<0))]) (by simp [results,Try.results55,go_sem,k0,k1,k2]) rfl ⟨by rw [EX.out,EY.out],?_⟩;exact ((M1.out.setNew (by simp) _).setNew (by simp) _).setNew (by simp) _
set_option maxHeartbeats 400000 in
theorem minus_any (h l h' l':Nat) (w:World) :
  Calls Try.prog 77 #[.agg #[.int .u64 h,.int .u64 l],.agg #[.int .u64 h',.int .u64 l']] w fun e w'=>e=.returned (.agg #[.int .u64 (((h+18446744073709551616 - h' - (if l<l' then 1 else 0)) % 18446744073709551616:Nat):Int),.int .u64 (((l+18446744073709551616 - l') % 18446744073709551616:Nat):Int)])/\Mod [] w w':=by
 have M0:=Hi ((((Mod.refl [] w).alloc (.cells #[.int .u64 h,.int .u64 l] 143)).alloc (.cells #[.int .u64 h',.int .u64 l'] 143)).alloc (.cells #[.int .u64 (((h+18446744073709551616 - h' - (if l<l' then 1 else 0)) % 18446744073709551616:Nat):Int),.int .u64 (((l+18446744073709551616 - l') % 18446744073709551616:Nat):Int)] 143));have hs1:∀ w,(callFunc 82 #[.int .u64 l,.int .u64 l',.int .u64 0]).run Try.prog w=.ok (.value (.tuple #[.int .u64 (((l+18446744073709551616 - l') % 18446744073709551616:Nat):Int),.int .u64 ((if l<l' then 1 else 0:Nat):Int)])) w:=fun w=>sub64_run l l' 0 (by omega) w
 have hs2:=fun w=>sub64_run h h' (if l<l' then 1 else 0) (by split <;> omega) w
 generalize ex:(l+18446744073709551616 - l') % 18446744073709551616=x at *
 generalize eb:(if l<l' then 1 else 0)=b at *
 generalize ey:(h+18446744073709551616 - h' - b) % 18446744073709551616=y at *
 generalize (if h<h'+b then 1 else 0)=c at *
 have EX:=Hi ex;have EY:=Hi ey;have EB:=Hi eb;clear ex ey eb;go_enter Try.func77,Try.ntmps77;go_wp2_with fail;refine bodyPost_ret (v:=.agg #[.int .u64 y,.int .u64 x]) (by simp [results,Try.results77,go_sem]) rfl ⟨rfl,M0.out⟩
set_option maxHeartbeats 400000 in
theorem plus_any (h l h' l':Nat) (w:World) (hl:l<18446744073709551616) (hl':l'<18446744073709551616) :
  Calls Try.prog 75 #[.agg #[.int .u64 h,.int .u64 l],.agg #[.int .u64 h',.int .u64 l']] w fun e w'=>e=.returned (.agg #[.int .u64 (((h+h'+(l+l') / 18446744073709551616) % 18446744073709551616:Nat):Int),.int .u64 (((l+l') % 18446744073709551616:Nat):Int)])/\Mod [] w w':=by
 have M0:=Hi ((((Mod.refl [] w).alloc (.cells #[.int .u64 h,.int .u64 l] 143)).alloc (.cells #[.int .u64 h',.int .u64 l'] 143)).alloc (.cells #[.int .u64 (((h+h'+(l+l') / 18446744073709551616) % 18446744073709551616:Nat):Int),.int .u64 (((l+l') % 18446744073709551616:Nat):Int)] 143));have hs1:∀ w,(callFunc 81 #[.int .u64 l,.int .u64 l',.int .u64 0]).run Try.prog w=.ok (.value (.tuple #[.int .u64 (((l+l') % 18446744073709551616:Nat):Int),.int .u64 (((l+l') / 18446744073709551616:Nat):Int)])) w:=fun w=>add64_run l l' 0 (by omega) w
 have hs2:=fun w=>add64_run h h' ((l+l') / 18446744073709551616) (by omega) w
 generalize ex:(l+l') % 18446744073709551616=x at *
 generalize eb:(l+l') / 18446744073709551616=b at *
 generalize ey:(h+h'+b) % 18446744073709551616=y at *
 generalize (h+h'+b) / 18446744073709551616=c at *
 have EX:=Hi ex;have EY:=Hi ey;have EB:=Hi eb;clear ex ey eb;go_enter Try.func75,Try.ntmps75;go_wp2_with fail;refine bodyPost_ret (v:=.agg #[.int .u64 y,.int .u64 x]) (by simp [results,Try.results75,go_sem]) rfl ⟨rfl,M0.out⟩
namespace Rat
def pl (h l h' l':Nat):Nat×Nat:=((h+h'+(l+l') / 18446744073709551616) % 18446744073709551616,(l+l') % 18446744073709551616)
def mi (h l h' l':Nat):Nat×Nat:=((h+18446744073709551616 - h' - (if l<l' then 1 else 0)) % 18446744073709551616,(l+18446744073709551616 - l') % 18446744073709551616)
def sumW (h l:Nat) (m:Bool) (h' l':Nat) (m':Bool):(Nat×Nat)×Bool :=
 if m=m' then (pl h l h' l',m) else if lt2 h l h' l' then (mi h' l' h l,m') else (mi h l h' l',m)
end Rat
theorem minus_mi (h l h' l':Nat) (w:World) :
  Calls Try.prog 77 #[.agg #[.int .u64 h,.int .u64 l],.agg #[.int .u64 h',.int .u64 l']] w fun e w'=>e=.returned (.agg #[.int .u64 ((Rat.mi h l h' l').1:Int),.int .u64 ((Rat.mi h l h' l').2:Int)])/\Mod [] w w':=minus_any h l h' l' w
theorem plus_pl (h l h' l':Nat) (w:World) (hl:l<18446744073709551616) (hl':l'<18446744073709551616) :
  Calls Try.prog 75 #[.agg #[.int .u64 h,.int .u64 l],.agg #[.int .u64 h',.int .u64 l']] w fun e w'=>e=.returned (.agg #[.int .u64 ((Rat.pl h l h' l').1:Int),.int .u64 ((Rat.pl h l h' l').2:Int)])/\Mod [] w w':=plus_any h l h' l' w hl hl'
theorem sum_start (w:World) (h l:Nat) (m:Bool) (h' l':Nat) (m':Bool):∃ W:World,((w.alloc (.cells #[.int .u64 h,.int .u64 l,.bool m] 145)).alloc (.cells #[.int .u64 h',.int .u64 l',.bool m'] 145)).alloc (.cells #[.int .u64 0,.int .u64 0,.bool false] 145)=W/\Mod [] w W /\
  Blk W w.heap.size #[.int .u64 h,.int .u64 l,.bool m] 145/\Blk W (w.heap.size+1) #[.int .u64 h',.int .u64 l',.bool m'] 145/\Blk W (w.heap.size+1+1) #[.int .u64 0,.int .u64 0,.bool false] 145:=by
 refine ⟨_,rfl,(((Mod.refl [] w).alloc _).alloc _).alloc _,((Blk.new w _ _).alloc _).alloc _,?_,?_⟩
 ·have:=(Blk.new (w.alloc (.cells #[.int .u64 h,.int .u64 l,.bool m] 145)) #[.int .u64 h',.int .u64 l',.bool m'] 145).alloc (.cells #[.int .u64 0,.int .u64 0,.bool false] 145);simpa using this
 ·have:=Blk.new ((w.alloc (.cells #[.int .u64 h,.int .u64 l,.bool m] 145)).alloc (.cells #[.int .u64 h',.int .u64 l',.bool m'] 145)) #[.int .u64 0,.int .u64 0,.bool false] 145;simpa using this
set_option maxHeartbeats 2000000 in
theorem sum_any (h l:Nat) (m:Bool) (h' l':Nat) (m':Bool) (w:World) (hl:l<18446744073709551616) (hl':l'<18446744073709551616) :
  Calls Try.prog 54 #[.agg #[.int .u64 h,.int .u64 l,.bool m],.agg #[.int .u64 h',.int .u64 l',.bool m']] w fun e w' =>
   e=.returned (.agg #[.int .u64 (((Rat.sumW h l m h' l' m').1.1:Nat):Int),.int .u64 (((Rat.sumW h l m h' l' m').1.2:Nat):Int),.bool (Rat.sumW h l m h' l' m').2])/\Mod [] w w':=by
 by_cases hm:m=m'
 ·subst hm;have HS:=Hi (show Rat.sumW h l m h' l' m=(Rat.pl h l h' l',m) by unfold Rat.sumW;rw [if_pos rfl]);have hmm:(m == m)=true:=by cases m <;> rfl
  obtain ⟨W,eW,M0,ba,bb,br⟩:=sum_start w h l m h' l' m;have EW:=Hi eW;have BA:=Hi ba;have BB:=Hi bb;have BR:=Hi br;have HM:=Hi M0;have hsz:=M0.size;clear eW ba bb br M0;go_enter Try.func54,Try.ntmps54;go_wp2_with fail;rw [EW.out];generalize hn0:w.heap.size=n0 at *
  have HN0:=Hi hn0;clear hn0;obtain ⟨a0,a1,a2,-,-,-⟩:=BA.out.three;obtain ⟨b0,b1,-,-,-,-⟩:=BB.out.three
  go_region_held3 (fun w'=>w'.cell? ⟨n0,0,none⟩=some (.int .u64 h)/\w'.cell? ⟨n0,1,none⟩=some (.int .u64 l)/\w'.cell? ⟨n0,2,none⟩=some (.bool m)/\w'.cell? ⟨n0+1,0,none⟩=some (.int .u64 h')/\w'.cell? ⟨n0+1,1,none⟩=some (.int .u64 l')) (first | exact ⟨BA.out.cell 0,BA.out.cell 1,BA.out.cell 2,BB.out.cell 0,BB.out.cell 1⟩ | exact ⟨(BA.out.drew.kept m1 (by simp)).cell 0,(BA.out.drew.kept m1 (by simp)).cell 1,(BA.out.drew.kept m1 (by simp)).cell 2,(BB.out.drew.kept m1 (by simp)).cell 0,(BB.out.drew.kept m1 (by simp)).cell 1⟩ | exact ⟨((((BA.out.drew.kept m1 (by simp)).other (by simp;try omega) _).other (by simp;try omega) _).other (by simp;try omega) _).cell 0,((((BA.out.drew.kept m1 (by simp)).other (by simp;try omega) _).other (by simp;try omega) _).other (by simp;try omega) _).cell 1,((((BA.out.drew.kept m1 (by simp)).other (by simp;try omega) _).other (by simp;try omega) _).other (by simp;try omega) _).cell 2,((((BB.out.drew.kept m1 (by simp)).other (by simp;try omega) _).other (by simp;try omega) _).other (by simp;try omega) _).cell 0,((((BB.out.drew.kept m1 (by simp)).other (by simp;try omega) _).other (by simp;try omega) _).other (by simp;try omega) _).cell 1⟩) (first | (go_at_call 75;refine (plus_pl h l h' l' _ hl hl').mono ?_;rintro e w1 ⟨rfl,m1⟩;obtain ⟨r0,r1,r2,z0,z1,z2⟩:=(BR.out.drew.kept m1 (by simp)).three))
  have MM:Mod [] w w1:=HM.out.drew.then m1
  go_wp2_with fail;refine bodyPost_ret (v:=.agg #[.int .u64 (((Rat.sumW h l m h' l' m).1.1:Nat):Int),.int .u64 (((Rat.sumW h l m h' l' m).1.2:Nat):Int),.bool (Rat.sumW h l m h' l' m).2]) ?_ rfl ⟨rfl,?_⟩
  ·rw [HS.out];simp [results,Try.results54,go_sem,r0,r1,r2]
  ·have hle:w.heap.size<=n0+1+1:=by have:=HN0.out;omega
   exact ((MM.setNew hle _).setNew hle _).setNew hle _
 ·have hmm:(m == m')=false:=by simpa using hm
  have HSW:Hid (Rat.sumW h l m h' l' m'=if lt2 h l h' l' then (Rat.mi h' l' h l,m') else (Rat.mi h l h' l',m)):=by unfold Rat.sumW;rw [if_neg hm];exact rfl
  clear hm;obtain ⟨W,eW,M0,ba,bb,br⟩:=sum_start w h l m h' l' m';have EW:=Hi eW;have BA:=Hi ba;have BB:=Hi bb;have BR:=Hi br;have HM:=Hi M0;have hsz:=M0.size;clear eW ba bb br M0;go_enter Try.func54,Try.ntmps54;go_wp2_with fail;rw [EW.out];generalize hn0:w.heap.size=n0 at *
  have HN0:=Hi hn0;clear hn0;have HLess:=Hi (less_any h l h' l' W);obtain ⟨a0,a1,a2,za0,za1,za2⟩:=BA.out.three;obtain ⟨b0,b1,b2,zb0,zb1,zb2⟩:=BB.out.three;go_wp2_with fail;refine HLess.out.mono ?_;rintro e w0 ⟨rfl,m0⟩;have BA0:=Hi (BA.out.kept m0 (by simp));have BB0:=Hi (BB.out.kept m0 (by simp));have BR0:=Hi (BR.out.kept m0 (by simp));have HM0:=Hi (HM.out.then m0);clear a0 a1 a2 za0 za1 za2 b0 b1 b2 zb0 zb1 zb2 m0 BA BB BR HM HLess;cases hlt:lt2 h l h' l' with
  | true =>
   have HS:Hid (Rat.sumW h l m h' l' m'=(Rat.mi h' l' h l,m')):=by rw [HSW.out,hlt];exact rfl
   clear hlt HSW;obtain ⟨a0,a1,a2,za0,za1,za2⟩:=BA0.out.three;obtain ⟨b0,b1,b2,zb0,zb1,zb2⟩:=BB0.out.three;go_wp2_with fail;have BA:Hid (Blk ((((((w0.setCell ⟨n0,0,none⟩ (.int .u64 h')).setCell ⟨n0,1,none⟩ (.int .u64 l')).setCell ⟨n0,2,none⟩ (.bool m')).setCell ⟨n0+1,0,none⟩ (.int .u64 h)).setCell ⟨n0+1,1,none⟩ (.int .u64 l)).setCell ⟨n0+1,2,none⟩ (.bool m)) n0 #[.int .u64 h',.int .u64 l',.bool m'] 145) :=
    ((((((BA0.out.set 0 _).set 1 _).set 2 _).other (by simp) _).other (by simp) _).other (by simp) _)
   have BB:Hid (Blk ((((((w0.setCell ⟨n0,0,none⟩ (.int .u64 h')).setCell ⟨n0,1,none⟩ (.int .u64 l')).setCell ⟨n0,2,none⟩ (.bool m')).setCell ⟨n0+1,0,none⟩ (.int .u64 h)).setCell ⟨n0+1,1,none⟩ (.int .u64 l)).setCell ⟨n0+1,2,none⟩ (.bool m)) (n0+1) #[.int .u64 h,.int .u64 l,.bool m] 145) :=
    ((((((BB0.out.other (by simp) _).other (by simp) _).other (by simp) _).set 0 _).set 1 _).set 2 _)
   have BR:Hid (Blk ((((((w0.setCell ⟨n0,0,none⟩ (.int .u64 h')).setCell ⟨n0,1,none⟩ (.int .u64 l')).setCell ⟨n0,2,none⟩ (.bool m')).setCell ⟨n0+1,0,none⟩ (.int .u64 h)).setCell ⟨n0+1,1,none⟩ (.int .u64 l)).setCell ⟨n0+1,2,none⟩ (.bool m)) (n0+1+1) #[.int .u64 0,.int .u64 0,.bool false] 145) :=
    ((((((BR0.out.other (by simp;try omega) _).other (by simp;try omega) _).other (by simp;try omega) _).other (by simp) _).other (by simp) _).other (by simp) _)
   have hle0:w.heap.size<=n0:=by have:=HN0.out;omega
   have hle1:w.heap.size<=n0+1:=by omega
   have HM:Hid (Mod [] w ((((((w0.setCell ⟨n0,0,none⟩ (.int .u64 h')).setCell ⟨n0,1,none⟩ (.int .u64 l')).setCell ⟨n0,2,none⟩ (.bool m')).setCell ⟨n0+1,0,none⟩ (.int .u64 h)).setCell ⟨n0+1,1,none⟩ (.int .u64 l)).setCell ⟨n0+1,2,none⟩ (.bool m))):=(((((HM0.out.setNew hle0 _).setNew hle0 _).setNew hle0 _).setNew hle1 _).setNew hle1 _).setNew hle1 _;clear a0 a1 a2 za0 za1 za2 b0 b1 b2 zb0 zb1 zb2 BA0 BB0 BR0 HM0;generalize (((((w0.setCell ⟨n0,0,none⟩ (.int .u64 h')).setCell ⟨n0,1,none⟩ (.int .u64 l')).setCell ⟨n0,2,none⟩ (.bool m')).setCell ⟨n0+1,0,none⟩ (.int .u64 h)).setCell ⟨n0+1,1,none⟩ (.int .u64 l)).setCell ⟨n0+1,2,none⟩ (.bool m)=W1 at *
   obtain ⟨a0,a1,a2,-,-,-⟩:=BA.out.three;obtain ⟨b0,b1,-,-,-,-⟩:=BB.out.three
   go_region_held3 (fun w'=>w'.cell? ⟨n0,0,none⟩=some (.int .u64 h')/\w'.cell? ⟨n0,1,none⟩=some (.int .u64 l')/\w'.cell? ⟨n0,2,none⟩=some (.bool m')/\w'.cell? ⟨n0+1,0,none⟩=some (.int .u64 h)/\w'.cell? ⟨n0+1,1,none⟩=some (.int .u64 l)) (first | exact ⟨BA.out.cell 0,BA.out.cell 1,BA.out.cell 2,BB.out.cell 0,BB.out.cell 1⟩ | exact ⟨(BA.out.drew.kept m1 (by simp)).cell 0,(BA.out.drew.kept m1 (by simp)).cell 1,(BA.out.drew.kept m1 (by simp)).cell 2,(BB.out.drew.kept m1 (by simp)).cell 0,(BB.out.drew.kept m1 (by simp)).cell 1⟩ | exact ⟨((((BA.out.drew.kept m1 (by simp)).other (by simp;try omega) _).other (by simp;try omega) _).other (by simp;try omega) _).cell 0,((((BA.out.drew.kept m1 (by simp)).other (by simp;try omega) _).other (by simp;try omega) _).other (by simp;try omega) _).cell 1,((((BA.out.drew.kept m1 (by simp)).other (by simp;try omega) _).other (by simp;try omega) _).other (by simp;try omega) _).cell 2,((((BB.out.drew.kept m1 (by simp)).other (by simp;try omega) _).other (by simp;try omega) _).other (by simp;try omega) _).cell 0,((((BB.out.drew.kept m1 (by simp)).other (by simp;try omega) _).other (by simp;try omega) _).other (by simp;try omega) _).cell 1⟩) (first | (go_at_call 77;refine (minus_mi h' l' h l _).mono ?_;rintro e w1 ⟨rfl,m1⟩;obtain ⟨r0,r1,r2,z0,z1,z2⟩:=(BR.out.drew.kept m1 (by simp)).three))
   have MM:Mod [] w w1:=HM.out.drew.then m1
   go_wp2_with fail;refine bodyPost_ret (v:=.agg #[.int .u64 (((Rat.sumW h l m h' l' m').1.1:Nat):Int),.int .u64 (((Rat.sumW h l m h' l' m').1.2:Nat):Int),.bool (Rat.sumW h l m h' l' m').2]) ?_ rfl ⟨rfl,?_⟩
   ·rw [HS.out];simp [results,Try.results54,go_sem,r0,r1,r2]
   ·have hle:w.heap.size<=n0+1+1:=by have:=HN0.out;omega
    exact ((MM.setNew hle _).setNew hle _).setNew hle _
  | false =>
   have HS:Hid (Rat.sumW h l m h' l' m'=(Rat.mi h l h' l',m)):=by rw [HSW.out,hlt];exact rfl
   clear hlt HSW;have BA:=BA0;have BB:=BB0;have BR:=BR0;have HM:=HM0;clear BA0 BB0 BR0 HM0;go_wp2_with fail;obtain ⟨a0,a1,a2,-,-,-⟩:=BA.out.three;obtain ⟨b0,b1,-,-,-,-⟩:=BB.out.three
   go_region_held3 (fun w'=>w'.cell? ⟨n0,0,none⟩=some (.int .u64 h)/\w'.cell? ⟨n0,1,none⟩=some (.int .u64 l)/\w'.cell? ⟨n0,2,none⟩=some (.bool m)/\w'.cell? ⟨n0+1,0,none⟩=some (.int .u64 h')/\w'.cell? ⟨n0+1,1,none⟩=some (.int .u64 l')) (first | exact ⟨BA.out.cell 0,BA.out.cell 1,BA.out.cell 2,BB.out.cell 0,BB.out.cell 1⟩ | exact ⟨(BA.out.drew.kept m1 (by simp)).cell 0,(BA.out.drew.kept m1 (by simp)).cell 1,(BA.out.drew.kept m1 (by simp)).cell 2,(BB.out.drew.kept m1 (by simp)).cell 0,(BB.out.drew.kept m1 (by simp)).cell 1⟩ | exact ⟨((((BA.out.drew.kept m1 (by simp)).other (by simp;try omega) _).other (by simp;try omega) _).other (by simp;try omega) _).cell 0,((((BA.out.drew.kept m1 (by simp)).other (by simp;try omega) _).other (by simp;try omega) _).other (by simp;try omega) _).cell 1,((((BA.out.drew.kept m1 (by simp)).other (by simp;try omega) _).other (by simp;try omega) _).other (by simp;try omega) _).cell 2,((((BB.out.drew.kept m1 (by simp)).other (by simp;try omega) _).other (by simp;try omega) _).other (by simp;try omega) _).cell 0,((((BB.out.drew.kept m1 (by simp)).other (by simp;try omega) _).other (by simp;try omega) _).other (by simp;try omega) _).cell 1⟩) (first | (go_at_call 77;refine (minus_mi h l h' l' _).mono ?_;rintro e w1 ⟨rfl,m1⟩;obtain ⟨r0,r1,r2,z0,z1,z2⟩:=(BR.out.drew.kept m1 (by simp)).three))
   have MM:Mod [] w w1:=HM.out.drew.then m1
   go_wp2_with fail;refine bodyPost_ret (v:=.agg #[.int .u64 (((Rat.sumW h l m h' l' m').1.1:Nat):Int),.int .u64 (((Rat.sumW h l m h' l' m').1.2:Nat):Int),.bool (Rat.sumW h l m h' l' m').2]) ?_ rfl ⟨rfl,?_⟩
   ·rw [HS.out];simp [results,Try.results54,go_sem,r0,r1,r2]
   ·have hle:w.heap.size<=n0+1+1:=by have:=HN0.out;omega
    exact ((MM.setNew hle _).setNew hle _).setNew hle _
namespace Rat
def toldR (m:Bool) (n d:Nat):Int×Int×Bool :=
 if n<=9223372036854775807/\d<=9223372036854775807 then ((if m then -(n:Int) else n),(d:Int),true) else (0,0,false)
end Rat
set_option maxHeartbeats 1000000 in
theorem told_gen (m:Bool) (h l h' l' NA NB:Nat) (w:World) (hl:l<18446744073709551616) (hl':l'<18446744073709551616) (eA:NA=h*18446744073709551616+l) (eB:NB=h'*18446744073709551616+l') :
  Calls Try.prog 58 #[.bool m,.agg #[.int .u64 h,.int .u64 l],.agg #[.int .u64 h',.int .u64 l']] w fun e w' =>
   e=.returned (.tuple #[.agg #[.int .i64 (Rat.toldR m NA NB).1,.int .i64 (Rat.toldR m NA NB).2.1],.bool (Rat.toldR m NA NB).2.2])/\Mod [] w w':=by
 have MN:Hid (∀ a b,Mod [] w (((w.alloc (.cells #[.int .u64 h,.int .u64 l] 143)).alloc (.cells #[.int .u64 h',.int .u64 l'] 143)).alloc (.cells #[a,b] 64))):=fun a b=>(((Mod.refl [] w).alloc _).alloc _).alloc _
 have MY:Hid (∀ a b c d,Mod [] w ((((w.alloc (.cells #[.int .u64 h,.int .u64 l] 143)).alloc (.cells #[.int .u64 h',.int .u64 l'] 143)).alloc (.cells #[a,b] 64)).alloc (.cells #[c,d] 64))):=fun a b c d=>((((Mod.refl [] w).alloc _).alloc _).alloc _).alloc _
 by_cases hb:h=0/\l<=9223372036854775807/\h'=0/\l'<=9223372036854775807
 ·obtain ⟨h1,h2,h3,h4⟩:=hb
  have HT:=Hi (show Rat.toldR m NA NB=((if m then -(l:Int) else l),(l':Int),true) by
   have e1:NA=l:=by omega
   have e2:NB=l':=by omega
   unfold Rat.toldR;rw [e1,e2,if_pos ⟨h2,h4⟩])
  have d1:decide ((0:Int)<h)=false:=by simp;omega
  have d3:decide ((0:Int)<h')=false:=by simp;omega
  have d1':decide (0<h)=false:=by simp;omega
  have d3':decide (0<h')=false:=by simp;omega
  have d2:decide ((9223372036854775807:Int)<l)=false:=by simp;omega
  have d4:decide ((9223372036854775807:Int)<l')=false:=by simp;omega
  clear h1 h3 eA eB;cases m with
  | true =>
   go_enter Try.func58,Try.ntmps58;go_wp2_with fail;refine bodyPost_ret (v:=.tuple #[.agg #[.int .i64 (-(l:Int)),.int .i64 l'],.bool true]) (by simp [results,Try.results58,go_sem]) rfl ⟨by rw [HT.out];rfl,MY.out _ _ _ _⟩
  | false =>
   go_enter Try.func58,Try.ntmps58;go_wp2_with fail;refine bodyPost_ret (v:=.tuple #[.agg #[.int .i64 (l:Int),.int .i64 l'],.bool true]) (by simp [results,Try.results58,go_sem]) rfl ⟨by rw [HT.out];rfl,MY.out _ _ _ _⟩
 ·have HT:=Hi (show Rat.toldR m NA NB=(0,0,false) by unfold Rat.toldR;rw [if_neg (by omega)]);clear eA eB
  by_cases c1:0<h
  ·have d1:decide ((0:Int)<h)=true:=by simp;omega
   have d1':decide (0<h)=true:=by simp;omega
   clear hb;go_enter Try.func58,Try.ntmps58;go_wp2_with fail;refine bodyPost_ret (v:=.tuple #[.agg #[.int .i64 0,.int .i64 0],.bool false]) (by simp [results,Try.results58,go_sem]) rfl ⟨by rw [HT.out],MN.out _ _⟩
  ·have d1:decide ((0:Int)<h)=false:=by simp;omega
   have d1':decide (0<h)=false:=by simp;omega
   by_cases c2:9223372036854775807<l
   ·have d2:decide ((9223372036854775807:Int)<l)=true:=by simp;omega
    clear hb;go_enter Try.func58,Try.ntmps58;go_wp2_with fail;refine bodyPost_ret (v:=.tuple #[.agg #[.int .i64 0,.int .i64 0],.bool false]) (by simp [results,Try.results58,go_sem]) rfl ⟨by rw [HT.out],MN.out _ _⟩
   ·have d2:decide ((9223372036854775807:Int)<l)=false:=by simp;omega
    by_cases c3:0<h'
    ·have d3:decide ((0:Int)<h')=true:=by simp;omega
     have d3':decide (0<h')=true:=by simp;omega
     clear hb;go_enter Try.func58,Try.ntmps58;go_wp2_with fail;refine bodyPost_ret (v:=.tuple #[.agg #[.int .i64 0,.int .i64 0],.bool false]) (by simp [results,Try.results58,go_sem]) rfl ⟨by rw [HT.out],MN.out _ _⟩
    ·have d3:decide ((0:Int)<h')=false:=by simp;omega
     have d3':decide (0<h')=false:=by simp;omega
     have d4:decide ((9223372036854775807:Int)<l')=true:=by simp;omega
     clear hb;go_enter Try.func58,Try.ntmps58;go_wp2_with fail;refine bodyPost_ret (v:=.tuple #[.agg #[.int .i64 0,.int .i64 0],.bool false]) (by simp [results,Try.results58,go_sem]) rfl ⟨by rw [HT.out],MN.out _ _⟩
theorem told0 (m:Bool) (l l':Nat) (w:World) (hl:l<18446744073709551616) (hl':l'<18446744073709551616) :
  Calls Try.prog 58 #[.bool m,.agg #[.int .u64 0,.int .u64 l],.agg #[.int .u64 0,.int .u64 l']] w fun e w' =>
   e=.returned (.tuple #[.agg #[.int .i64 (Rat.toldR m l l').1,.int .i64 (Rat.toldR m l l').2.1],.bool (Rat.toldR m l l').2.2])/\Mod [] w w' :=
 told_gen m 0 l 0 l' l l' w hl hl' (by omega) (by omega)
namespace Rat
def makeR (n d:Int):Int×Int×Bool :=
 if d=0 then (0,0,false) else toldR (decide (n<0) != decide (d<0)) (n.natAbs / Nat.gcd n.natAbs d.natAbs) (d.natAbs / Nat.gcd n.natAbs d.natAbs)
end Rat
set_option maxHeartbeats 1000000 in
theorem make_any (n d:Int) (w:World) (hn:-9223372036854775808<=n/\n<=9223372036854775807) (hd:-9223372036854775808<=d/\d<=9223372036854775807) :
  Calls Try.prog 51 #[.int .i64 n,.int .i64 d] w fun e w' =>
   e=.returned (.tuple #[.agg #[.int .i64 (Rat.makeR n d).1,.int .i64 (Rat.makeR n d).2.1],.bool (Rat.makeR n d).2.2])/\Mod [] w w':=by
 have M0:=Hi ((Mod.refl [] w).alloc (.cells #[.int .i64 0,.int .i64 0] 64))
 by_cases h0:d=0
 ·have d0:(d == 0)=true:=by simpa using h0
  have HT:=Hi (show Rat.makeR n d=(0,0,false) by unfold Rat.makeR;rw [if_pos h0]);clear h0;go_enter Try.func51,Try.ntmps51;go_wp2_with fail;refine bodyPost_ret (v:=.tuple #[.agg #[.int .i64 0,.int .i64 0],.bool false]) (by simp [results,Try.results51,go_sem]) rfl ⟨by rw [HT.out],M0.out⟩
 ·have d0:(d == 0)=false:=by simpa using h0
  have HT:=Hi (show Rat.makeR n d=Rat.toldR (decide (n<0) != decide (d<0)) (n.natAbs / Nat.gcd n.natAbs d.natAbs) (d.natAbs / Nat.gcd n.natAbs d.natAbs) by unfold Rat.makeR;rw [if_neg h0]);have hg:0<Nat.gcd n.natAbs d.natAbs:=Nat.gcd_pos_of_pos_right _ (by omega);have hgA:Nat.gcd n.natAbs d.natAbs<=d.natAbs:=Nat.gcd_le_right _ (by omega);have ha:n.natAbs<18446744073709551616:=by omega
  have hb:d.natAbs<18446744073709551616:=by omega
  have HD:=Hi (fun W=>divisor_any n.natAbs d.natAbs W ha hb);have HSn:=Hi (fun W=>size_any n W hn.1 hn.2);have HSd:=Hi (fun W=>size_any d W hd.1 hd.2);clear h0;generalize Nat.gcd n.natAbs d.natAbs=g at *
  generalize n.natAbs=x at *
  generalize d.natAbs=y at *
  obtain ⟨qa,hqa⟩:∃ qa,qa=x / g:=⟨_,rfl⟩
  obtain ⟨qb,hqb⟩:∃ qb,qb=y / g:=⟨_,rfl⟩
  have hqa1:qa<18446744073709551616:=by rw [hqa];exact Nat.lt_of_le_of_lt (Nat.div_le_self _ _) ha
  have hqb1:qb<18446744073709551616:=by rw [hqb];exact Nat.lt_of_le_of_lt (Nat.div_le_self _ _) hb
  have r1:IntKind.u64.wrap ((x:Int) / (g:Int))=(qa:Int):=by rw [<- Int.natCast_ediv,<- hqa,Bits.wrapN _ hqa1]
  have r2:IntKind.u64.wrap ((y:Int) / (g:Int))=(qb:Int):=by rw [<- Int.natCast_ediv,<- hqb,Bits.wrapN _ hqb1]
  have g0:((g:Int) == 0)=false:=by simp;omega
  have g1:(0:Int)<g:=by omega
  have g2:¬ g=0:=by omega
  have g3:¬ (g:Int)=0:=by omega
  have t1:IntKind.u64.wrap ((x:Int).tdiv (g:Int))=(qa:Int):=by rw [Int.tdiv_eq_ediv_of_nonneg (by omega)];exact r1
  have t2:IntKind.u64.wrap ((y:Int).tdiv (g:Int))=(qb:Int):=by rw [Int.tdiv_eq_ediv_of_nonneg (by omega)];exact r2
  rw [<- hqa,<- hqb] at HT;have EQ:=Hi hqa;clear hqa hqb;go_enter Try.func51,Try.ntmps51;go_wp2_with fail;refine (HSn.out _).mono ?_;rintro e w1 ⟨rfl,rfl⟩;go_wp2_with fail;refine (HSd.out _).mono ?_;rintro e w1 ⟨rfl,rfl⟩;go_wp2_with fail;refine (HD.out _).mono ?_;rintro e w1 ⟨rfl,k1,rfl⟩;have BR:=Hi ((Blk.new w #[.int .i64 0,.int .i64 0] 64).drewN k1);have M1:=Hi (M0.out.drewN k1);clear M0;generalize (w.alloc (.cells #[.int .i64 0,.int .i64 0] 64)).drewN k1=W at *
  go_wp2_with fail
  go_region_held3 (fun _=>True) (trivial) (first | (go_at_call_of 60 (Value.int IntKind.i64 n);refine (HSn.out _).mono ?_;rintro e w1 ⟨rfl,rfl⟩) | (go_at_call_of 60 (Value.int IntKind.i64 d);refine (HSd.out _).mono ?_;rintro e w1 ⟨rfl,rfl⟩) | (go_at_call 58;refine (told0 _ qa qb _ hqa1 hqb1).mono ?_;rintro e w1 ⟨rfl,m1⟩;obtain ⟨r0,r1,z0,z1⟩:=(BR.out.drew.kept m1 (by simp)).two))
  have M2:=M1.out.drew.then m1
  go_wp2_with fail;refine bodyPost_ret (v:=.tuple #[.agg #[.int .i64 (Rat.toldR (!(decide (n<0) == decide (d<0))) qa qb).1,.int .i64 (Rat.toldR (!(decide (n<0) == decide (d<0))) qa qb).2.1],.bool (Rat.toldR (!(decide (n<0) == decide (d<0))) qa qb).2.2]) (by simp [results,Try.results51,go_sem,r0,r1]) rfl ⟨by rw [HT.out];rfl,?_⟩;exact (M2.setNew (by simp) _).setNew (by simp) _
theorem quiet_left {P:Program} {f:FuncId} {args:Array Value} {w:World} {n:Nat} {v:Value}
  (h:Calls P f args (w.drewN n) fun e w'=>e=.returned v/\w.drewN n=w'):Calls P f args (w.drewN n) fun e w''=>e=.returned v/\∃ m,w''=w.drewN m :=
 h.mono fun _ _ ⟨he,hm⟩=>⟨he,n,hm.symm⟩
namespace Rat
def rightB (N D:Int):Bool:=decide (0<D/\N≠-9223372036854775808/\Nat.gcd N.natAbs D.natAbs=1)
end Rat
set_option maxHeartbeats 1000000 in
theorem right_any (N D:Int) (w:World) (hn:-9223372036854775808<=N/\N<=9223372036854775807) (hd:-9223372036854775808<=D/\D<=9223372036854775807) :
  Calls Try.prog 52 #[.agg #[.int .i64 N,.int .i64 D]] w fun e w'=>e=.returned (.bool (Rat.rightB N D))/\Mod [] w w':=by
 have M0:=Hi ((Mod.refl [] w).alloc (.cells #[.int .i64 N,.int .i64 D] 64))
 by_cases h1:0<D
 ·have d1:decide (0<D)=true:=by simpa using h1
  by_cases h2:N=-9223372036854775808
  ·have d2:(N != -9223372036854775808)=false:=by simp [h2]
   have HR:=Hi (show Rat.rightB N D=false by unfold Rat.rightB;simp [h2]);clear h2;go_enter Try.func52,Try.ntmps52;go_wp2_with fail
   go_quiet (fail)
   go_wp2_with fail;go_ret;exact ⟨by rw [HR.out];rfl,M0.out.drewN _⟩
  ·have d2:(N != -9223372036854775808)=true:=by simpa using h2
   have HR:=Hi (show Rat.rightB N D=(((Nat.gcd N.natAbs D.natAbs:Nat):Int) == 1) by
    unfold Rat.rightB;rw [Bool.eq_iff_iff];simp [h1,h2];omega)
   have HD:=Hi (fun W=>divisor_any N.natAbs D.natAbs W (by omega) (by omega));have HSn:=Hi (fun W=>size_any N W hn.1 hn.2);have hDw:IntKind.u64.wrap D=(D.natAbs:Int):=by rw [IntKind.wrap_u64];omega
   clear h2;generalize Nat.gcd N.natAbs D.natAbs=g at *
   generalize N.natAbs=x at *
   generalize D.natAbs=y at *
   go_enter Try.func52,Try.ntmps52;go_wp2_with fail
   go_quiet ((first | (go_at_call 60;exact quiet_left (HSn.out _)) | (go_at_call 53;exact Calls.quiet_of (HD.out _))))
   go_wp2_with fail;go_ret;exact ⟨by rw [HR.out];rfl,M0.out.drewN _⟩
 ·have d1:decide (0<D)=false:=by simpa using h1
  have HR:=Hi (show Rat.rightB N D=false by unfold Rat.rightB;simp [h1]);clear h1;go_enter Try.func52,Try.ntmps52;go_wp2_with fail
  go_quiet (fail)
  go_wp2_with fail;go_ret;exact ⟨by rw [HR.out];rfl,M0.out.drewN _⟩
theorem rem_eq (hi lo y:Nat):(hi % y*18446744073709551616+lo) % y=(hi*18446744073709551616+lo) % y:=by
 rw [Nat.add_mod,Nat.mul_mod,Nat.mod_mod,<- Nat.mul_mod,<- Nat.add_mod]
set_option maxHeartbeats 400000 in
theorem rem64_gen (hi lo y hm q r:Nat) (hy0:0<y) (hmd:hm=hi % y) (HD:Hid (∀ W:World,Calls Try.prog 57 #[.int .u64 hm,.int .u64 lo,.int .u64 y] W fun e w'=>e=.returned (.tuple #[.int .u64 q,.int .u64 r])/\∃ n,w'=W.drewN n)) (w:World) :
  Calls Try.prog 56 #[.int .u64 hi,.int .u64 lo,.int .u64 y] w fun e w'=>e=.returned (.int .u64 r)/\∃ n,w'=w.drewN n:=by
 have hmm:(hi:Int) % (y:Int)=(hm:Int):=by rw [hmd];exact (Int.natCast_emod hi y).symm
 have g0:((y:Int) == 0)=false:=by simp;omega
 clear hmd;go_enter Try.func56,Try.ntmps56;go_wp2_with fail;refine (HD.out _).mono ?_;rintro e w1 ⟨rfl,k,rfl⟩;go_wp2_with fail;go_ret;exact ⟨rfl,k,rfl⟩
theorem rem64_any (hi lo y:Nat) (hy0:0<y) (hy:y<18446744073709551616) (hl:lo<18446744073709551616) (w:World) :
  Calls Try.prog 56 #[.int .u64 hi,.int .u64 lo,.int .u64 y] w fun e w'=>e=.returned (.int .u64 (((hi*18446744073709551616+lo) % y:Nat):Int))/\∃ n,w'=w.drewN n:=by
 rw [<- rem_eq hi lo y];exact rem64_gen hi lo y (hi % y) _ _ hy0 rfl (fun W=>div64_any (hi % y) lo y (Nat.mod_lt _ hy0) hy hl W) w
namespace Rat
def cutR (m:Bool) (A y:Nat) (g:Nat->Bool):Int×Bool :=
 if A / 18446744073709551616 ≥ y∨9223372036854775808<A / y then (0,false)
 else if m=true/\A / y+(if g (A % y) then 1 else 0)<=9223372036854775808 then (-((A / y+(if g (A % y) then 1 else 0):Nat):Int),true)
 else if m=false/\A / y+(if g (A % y) then 1 else 0)<9223372036854775808 then (((A / y+(if g (A % y) then 1 else 0):Nat):Int),true)
 else (0,false)
def near (m:Bool) (y r:Nat):Bool:=if m then decide (y - r<r) else decide (y - r<=r)
def ends (m:Bool) (q:Nat):Int×Bool :=
 if m=true/\q<=9223372036854775808 then (-(q:Int),true) else if m=false/\q<9223372036854775808 then ((q:Int),true) else (0,false)
theorem cutR_ends (m:Bool) (A y:Nat) (g:Nat->Bool) (h1:A / 18446744073709551616<y) (h2:A / y<=9223372036854775808):cutR m A y g=ends m (A / y+(if g (A % y) then 1 else 0)):=by
 unfold cutR ends;rw [if_neg (by omega)]
end Rat
set_option maxHeartbeats 400000 in
theorem near1_any (m:Bool) (y r:Nat) (a b:Nat) (w:World) (hr:r<=y) (hy:y<18446744073709551616) (ha:w.cell? ⟨a,0,none⟩=some (.bool m)) (hb:w.cell? ⟨b,0,none⟩=some (.int .u64 y)) :
  Calls Try.prog 80 #[.int .u64 r,.pointer (some ⟨a,0,none⟩),.pointer (some ⟨b,0,none⟩)] w fun e w'=>e=.returned (.bool (Rat.near m y r))/\w=w':=by
 cases m with
 | true =>
  have HN:Hid (Rat.near true y r=decide ((y:Int) - r<r)):=by show decide _=decide _;congr 1;apply propext;omega
  go_enter Try.func80,Try.ntmps80;go_wp2_with fail;go_ret;exact ⟨by rw [HN.out];rfl,rfl⟩
 | false =>
  have HN:Hid (Rat.near false y r=decide ((y:Int) - r<=r)):=by show decide _=decide _;congr 1;apply propext;omega
  go_enter Try.func80,Try.ntmps80;go_wp2_with fail;go_ret;exact ⟨by rw [HN.out];rfl,rfl⟩
set_option maxHeartbeats 400000 in
theorem nearest_any (m:Bool) (y:Nat) (w:World) :
  Calls Try.prog 70 #[.bool m,.int .u64 y] w fun e w'=>e=.returned (.func (.func 80) #[] #[.pointer (some ⟨w.heap.size,0,none⟩),.pointer (some ⟨w.heap.size+1,0,none⟩)]) /\
   Blk w' w.heap.size #[.bool m] 4/\Blk w' (w.heap.size+1) #[.int .u64 y] 140/\Mod [] w w':=by
 have B1:=Hi ((Blk.new w #[.bool m] 4).alloc (.cells #[.int .u64 y] 140));have B2:Hid (Blk ((w.alloc (.cells #[.bool m] 4)).alloc (.cells #[.int .u64 y] 140)) (w.heap.size+1) #[.int .u64 y] 140):=by
  have:=Blk.new (w.alloc (.cells #[.bool m] 4)) #[.int .u64 y] 140;rw [show (w.alloc (.cells #[.bool m] 4)).heap.size=w.heap.size+1 by simp] at this;exact this
 have M:=Hi (((Mod.refl [] w).alloc (.cells #[.bool m] 4)).alloc (.cells #[.int .u64 y] 140));go_enter Try.func70,Try.ntmps70;go_wp2_with fail;go_ret;exact ⟨rfl,B1.out,B2.out,M.out⟩
set_option maxHeartbeats 2000000 in
theorem cutNear_gen (h l:Nat) (m:Bool) (y q r:Nat) (a b:Nat) (gr:Bool) (w:World) (hh:h<y) (hq:q<18446744073709551616)
  (HD:Hid (∀ W:World,Calls Try.prog 57 #[.int .u64 h,.int .u64 l,.int .u64 y] W fun e w'=>e=.returned (.tuple #[.int .u64 q,.int .u64 r])/\∃ n,w'=W.drewN n))
  (HG:Hid (∀ W:World,Mod [] w W->Calls Try.prog 80 #[.int .u64 r,.pointer (some ⟨a,0,none⟩),.pointer (some ⟨b,0,none⟩)] W fun e w'=>e=.returned (.bool gr)/\W=w')) (R:Int×Bool) (HR:Hid (R=if 9223372036854775808<q then (0,false) else Rat.ends m (q+(if gr then 1 else 0)))) :
  Calls Try.prog 69 #[.agg #[.int .u64 h,.int .u64 l,.bool m],.int .u64 y,.func (.func 80) #[] #[.pointer (some ⟨a,0,none⟩),.pointer (some ⟨b,0,none⟩)]] w fun e w' =>
   e=.returned (.tuple #[.int .i64 R.1,.bool R.2])/\Mod [] w w':=by
 have M0:=Hi ((Mod.refl [] w).alloc (.cells #[.int .u64 h,.int .u64 l,.bool m] 145));have dh:decide (y<=h)=false:=by simp;omega
 by_cases h9:9223372036854775808<q
 ·have d9:decide ((9223372036854775808:Int)<q)=true:=by simp;omega
  have HE:Hid (R=(0,false)):=by rw [HR.out,if_pos h9];exact rfl
  clear HR;go_enter Try.func69,Try.ntmps69;go_wp2_with fail;refine (HD.out _).mono ?_;rintro e w1 ⟨rfl,k,rfl⟩;go_wp2_with fail;go_ret2;rw [HE.out];exact ⟨rfl,M0.out.drewN k⟩
 ·have d9:decide ((9223372036854775808:Int)<q)=false:=by simp;omega
  have HR2:=Hi (HR.out.trans (if_neg h9));clear HR;cases m with
  | true =>
   cases gr with
   | true =>
    by_cases hc:(q+1)<=9223372036854775808
    ·have dc:decide (((q:Int)+1)<=9223372036854775808)=true:=by simp;omega
     have HE:Hid (R=(wrap64 (IntKind.u64.wrap (-((q:Int)+1))),true)):=by
      have hv:wrap64 (IntKind.u64.wrap (-((q:Int)+1)))=-((q:Int)+1):=by rw [IntKind.wrap_u64];unfold wrap64;omega
      rw [hv];rw [HR2.out];show Rat.ends true (q+1)=_;unfold Rat.ends;rw [if_pos ⟨rfl,hc⟩];rw [show ((q+1:Nat):Int)=(q:Int)+1 from by omega]
     clear HR2;go_enter Try.func69,Try.ntmps69;go_wp2_with fail;refine (HD.out _).mono ?_;rintro e w1 ⟨rfl,k,rfl⟩;go_wp2_with fail;refine (HG.out _ (M0.out.drewN k)).mono ?_;rintro e w1 ⟨rfl,rfl⟩;go_wp2_with fail;go_ret2;rw [HE.out];exact ⟨rfl,M0.out.drewN k⟩
    ·have dc:decide (((q:Int)+1)<=9223372036854775808)=false:=by simp;omega
     have HE:Hid (R=(0,false)):=by
      rw [HR2.out];show Rat.ends true (q+1)=_;unfold Rat.ends;rw [if_neg (fun h=>hc h.2),if_neg (by simp)]
     clear HR2;go_enter Try.func69,Try.ntmps69;go_wp2_with fail;refine (HD.out _).mono ?_;rintro e w1 ⟨rfl,k,rfl⟩;go_wp2_with fail;refine (HG.out _ (M0.out.drewN k)).mono ?_;rintro e w1 ⟨rfl,rfl⟩;go_wp2_with fail;go_ret2;rw [HE.out];exact ⟨rfl,M0.out.drewN k⟩
   | false =>
    by_cases hc:q<=9223372036854775808
    ·have dc:decide ((q:Int)<=9223372036854775808)=true:=by simp;omega
     have HE:Hid (R=(wrap64 (IntKind.u64.wrap (-(q:Int))),true)):=by
      have hv:wrap64 (IntKind.u64.wrap (-(q:Int)))=-(q:Int):=by rw [IntKind.wrap_u64];unfold wrap64;omega
      rw [hv];rw [HR2.out];show Rat.ends true q=_;unfold Rat.ends;rw [if_pos ⟨rfl,hc⟩]
     clear HR2;go_enter Try.func69,Try.ntmps69;go_wp2_with fail;refine (HD.out _).mono ?_;rintro e w1 ⟨rfl,k,rfl⟩;go_wp2_with fail;refine (HG.out _ (M0.out.drewN k)).mono ?_;rintro e w1 ⟨rfl,rfl⟩;go_wp2_with fail;go_ret2;rw [HE.out];exact ⟨rfl,M0.out.drewN k⟩
    ·exact absurd (by omega) hc
  | false =>
   cases gr with
   | true =>
    by_cases hc:(q+1)<9223372036854775808
    ·have dc:decide (((q:Int)+1)<9223372036854775808)=true:=by simp;omega
     have HE:Hid (R=(((q:Int)+1),true)):=by
      rw [HR2.out];show Rat.ends false (q+1)=_;unfold Rat.ends;rw [if_neg (by simp),if_pos ⟨rfl,hc⟩];rw [show ((q+1:Nat):Int)=(q:Int)+1 from by omega]
     clear HR2;go_enter Try.func69,Try.ntmps69;go_wp2_with fail;refine (HD.out _).mono ?_;rintro e w1 ⟨rfl,k,rfl⟩;go_wp2_with fail;refine (HG.out _ (M0.out.drewN k)).mono ?_;rintro e w1 ⟨rfl,rfl⟩;go_wp2_with fail;go_ret2;rw [HE.out];exact ⟨rfl,M0.out.drewN k⟩
    ·have dc:decide (((q:Int)+1)<9223372036854775808)=false:=by simp;omega
     have HE:Hid (R=(0,false)):=by
      rw [HR2.out];show Rat.ends false (q+1)=_;unfold Rat.ends;rw [if_neg (by simp),if_neg (fun h=>hc h.2)]
     clear HR2;go_enter Try.func69,Try.ntmps69;go_wp2_with fail;refine (HD.out _).mono ?_;rintro e w1 ⟨rfl,k,rfl⟩;go_wp2_with fail;refine (HG.out _ (M0.out.drewN k)).mono ?_;rintro e w1 ⟨rfl,rfl⟩;go_wp2_with fail;go_ret2;rw [HE.out];exact ⟨rfl,M0.out.drewN k⟩
   | false =>
    by_cases hc:q<9223372036854775808
    ·have dc:decide ((q:Int)<9223372036854775808)=true:=by simp;omega
     have HE:Hid (R=((q:Int),true)):=by
      rw [HR2.out];show Rat.ends false q=_;unfold Rat.ends;rw [if_neg (by simp),if_pos ⟨rfl,hc⟩]
     clear HR2;go_enter Try.func69,Try.ntmps69;go_wp2_with fail;refine (HD.out _).mono ?_;rintro e w1 ⟨rfl,k,rfl⟩;go_wp2_with fail;refine (HG.out _ (M0.out.drewN k)).mono ?_;rintro e w1 ⟨rfl,rfl⟩;go_wp2_with fail;go_ret2;rw [HE.out];exact ⟨rfl,M0.out.drewN k⟩
    ·have dc:decide ((q:Int)<9223372036854775808)=false:=by simp;omega
     have HE:Hid (R=(0,false)):=by
      rw [HR2.out];show Rat.ends false q=_;unfold Rat.ends;rw [if_neg (by simp),if_neg (fun h=>hc h.2)]
     clear HR2;go_enter Try.func69,Try.ntmps69;go_wp2_with fail;refine (HD.out _).mono ?_;rintro e w1 ⟨rfl,k,rfl⟩;go_wp2_with fail;refine (HG.out _ (M0.out.drewN k)).mono ?_;rintro e w1 ⟨rfl,rfl⟩;go_wp2_with fail;go_ret2;rw [HE.out];exact ⟨rfl,M0.out.drewN k⟩
set_option maxHeartbeats 400000 in
theorem cut_over (h l:Nat) (m:Bool) (y:Nat) (F:Value) (w:World) (hh:y<=h) :
  Calls Try.prog 69 #[.agg #[.int .u64 h,.int .u64 l,.bool m],.int .u64 y,F] w fun e w'=>e=.returned (.tuple #[.int .i64 0,.bool false])/\Mod [] w w':=by
 have M0:=Hi ((Mod.refl [] w).alloc (.cells #[.int .u64 h,.int .u64 l,.bool m] 145));have dh:decide (y<=h)=true:=by simp;omega
 go_enter Try.func69,Try.ntmps69;go_wp2_with fail;go_ret2;exact ⟨rfl,M0.out⟩
theorem words (h l A:Nat) (hl:l<18446744073709551616) (hA:A=h*18446744073709551616+l):A / 18446744073709551616=h:=by omega
theorem cut_near (h l:Nat) (m:Bool) (y a b A:Nat) (w:World) (hl:l<18446744073709551616) (hA:A=h*18446744073709551616+l) (h0:0<y) (hy:y<18446744073709551616)
  (Ba:Blk w a #[.bool m] 4) (Bb:Blk w b #[.int .u64 y] 140) :
  Calls Try.prog 69 #[.agg #[.int .u64 h,.int .u64 l,.bool m],.int .u64 y,.func (.func 80) #[] #[.pointer (some ⟨a,0,none⟩),.pointer (some ⟨b,0,none⟩)]] w fun e w' =>
   e=.returned (.tuple #[.int .i64 (Rat.cutR m A y (Rat.near m y)).1,.bool (Rat.cutR m A y (Rat.near m y)).2])/\Mod [] w w':=by
 have hw:=words h l A hl hA
 by_cases hh:y<=h
 ·rw [show Rat.cutR m A y (Rat.near m y)=(0,false) by unfold Rat.cutR;rw [if_pos (Or.inl (by rw [hw];exact hh))]];exact cut_over h l m y _ w hh
 ·have hq:A / y<18446744073709551616:=by
   rw [Nat.div_lt_iff_lt_mul h0,hA];have:(h+1)*18446744073709551616<=y*18446744073709551616:=Nat.mul_le_mul_right _ (by omega);rw [Nat.mul_comm 18446744073709551616 y];omega
  refine cutNear_gen h l m y (A / y) (A % y) a b (Rat.near m y (A % y)) w (by omega) hq ?_ ?_ _ ?_
  ·rw [hA];exact fun W=>div64_any h l y (by omega) hy hl W
  ·exact fun W mW=>near1_any m y (A % y) a b W (Nat.le_of_lt (Nat.mod_lt _ h0)) hy ((Ba.kept mW (by simp)).cell 0) ((Bb.kept mW (by simp)).cell 0)
  ·show _=_
   by_cases h9:9223372036854775808<A / y
   ·rw [if_pos h9];unfold Rat.cutR;rw [if_pos (Or.inr h9)]
   ·rw [if_neg h9,Rat.cutR_ends m A y _ (by rw [hw];omega) (by omega)]
namespace Rat
def roundR (N D:Int):Int:=if rightB N D then (cutR (decide (N<0)) N.natAbs D.natAbs (near (decide (N<0)) D.natAbs)).1 else 0
end Rat
theorem times1 (n:Int) (w:World) (h1:-9223372036854775808<=n) (h2:n<=9223372036854775807) :
  Calls Try.prog 55 #[.int .i64 n,.int .u64 1] w fun e w'=>e=.returned (.agg #[.int .u64 0,.int .u64 (n.natAbs:Int),.bool (decide (n<0))])/\Mod [] w w':=by
 refine (times_any n 1 w h1 h2 (by omega)).mono fun e w' ⟨he,hm⟩=>⟨?_,hm⟩
 rw [he,Nat.mul_one,Nat.div_eq_of_lt (by omega),Nat.mod_eq_of_lt (by omega)];rfl
theorem cut_near0 (l:Nat) (m:Bool) (y a b:Nat) (w:World) (hl:l<18446744073709551616) (h0:0<y) (hy:y<18446744073709551616)
  (Ba:Blk w a #[.bool m] 4) (Bb:Blk w b #[.int .u64 y] 140) :
  Calls Try.prog 69 #[.agg #[.int .u64 0,.int .u64 l,.bool m],.int .u64 y,.func (.func 80) #[] #[.pointer (some ⟨a,0,none⟩),.pointer (some ⟨b,0,none⟩)]] w fun e w' =>
   e=.returned (.tuple #[.int .i64 (Rat.cutR m l y (Rat.near m y)).1,.bool (Rat.cutR m l y (Rat.near m y)).2])/\Mod [] w w' :=
 cut_near 0 l m y a b l w hl (by omega) h0 hy Ba Bb
theorem rightB_pos {N D:Int} (h:Rat.rightB N D=true):0<D/\N≠-9223372036854775808:=by
 unfold Rat.rightB at h;simp at h;exact ⟨h.1,h.2.1⟩
set_option maxHeartbeats 1000000 in
theorem round_any (N D:Int) (w:World) (hn:-9223372036854775808<=N/\N<=9223372036854775807) (hd:-9223372036854775808<=D/\D<=9223372036854775807) :
  Calls Try.prog 38 #[.agg #[.int .i64 N,.int .i64 D]] w fun e w'=>e=.returned (.int .i64 (Rat.roundR N D))/\Mod [] w w':=by
 have M0:=Hi ((Mod.refl [] w).alloc (.cells #[.int .i64 N,.int .i64 D] 64));have B0:=Hi (Blk.new w #[.int .i64 N,.int .i64 D] 64);have HRi:=Hi (fun W=>right_any N D W hn hd);cases hr:Rat.rightB N D with
 | false =>
  have HF:=Hi (show Rat.roundR N D=0 by unfold Rat.roundR;rw [hr];rfl);rw [hr] at HRi;clear hr;go_enter Try.func38,Try.ntmps38;go_wp2_with fail;refine (HRi.out _).mono ?_;rintro e w1 ⟨rfl,m1⟩;go_wp2_with fail;go_ret;exact ⟨by rw [HF.out];rfl,M0.out.then m1⟩
 | true =>
  obtain ⟨hD0,hN0⟩:=rightB_pos hr;have HF:=Hi (show Rat.roundR N D=(Rat.cutR (decide (N<0)) N.natAbs D.natAbs (Rat.near (decide (N<0)) D.natAbs)).1 by unfold Rat.roundR;rw [hr];rfl);rw [hr] at HRi;have HT:=Hi (fun W=>times1 N W hn.1 hn.2);have hDw:IntKind.u64.wrap D=(D.natAbs:Int):=by rw [IntKind.wrap_u64];omega
  have hy0:0<D.natAbs:=by omega
  have hy1:D.natAbs<18446744073709551616:=by omega
  have hl1:N.natAbs<18446744073709551616:=by omega
  clear hr hN0;generalize D.natAbs=y at *
  generalize N.natAbs=x at *
  generalize decide (N<0)=mm at *
  go_enter Try.func38,Try.ntmps38;go_wp2_with fail;refine (HRi.out _).mono ?_;rintro e w1 ⟨rfl,m1⟩;have M1:=Hi (M0.out.then m1);have B1:=Hi (B0.out.kept m1 (by simp));obtain ⟨n0,n1,-,-⟩:=B1.out.two;clear m1 M0 B0;go_wp2_with fail;refine (HT.out _).mono ?_;rintro e w2 ⟨rfl,m2⟩;have M2:=Hi (M1.out.then m2);have B2:=Hi (B1.out.kept m2 (by simp));clear n0 n1 m2 M1 B1;obtain ⟨n0,n1,-,-⟩:=B2.out.two;have M3:=Hi (M2.out.alloc (.cells #[.int .u64 0,.int .u64 x,.bool mm] 145));have B3:=Hi (Blk.new w2 #[.int .u64 0,.int .u64 x,.bool mm] 145);have hlt:=B2.out.lt;go_wp2_with fail;have BK:=B2.out.alloc (.cells #[.int .u64 0,.int .u64 x,.bool mm] 145);generalize w2.alloc (.cells #[.int .u64 0,.int .u64 x,.bool mm] 145)=W at *
  have BB:Hid (Blk W w.heap.size #[.int .i64 N,.int .i64 D] 64):=BK;obtain ⟨c0,c1,c2,-,-,-⟩:=B3.out.three;obtain ⟨e0,e1,-,-⟩:=BB.out.two;clear n0 n1;generalize w2.heap.size=bs at *
  generalize w.heap.size=br at *
  go_region_held3 (fun w'=>w'.cell? ⟨bs,0,none⟩=some (.int .u64 0)/\w'.cell? ⟨bs,1,none⟩=some (.int .u64 x)/\w'.cell? ⟨bs,2,none⟩=some (.bool mm)/\w'.cell? ⟨br,1,none⟩=some (.int .i64 D)) (first | exact ⟨c0,c1,c2,e1⟩ | exact ⟨(B3.out.drew.kept m3 (by simp)).cell 0,(B3.out.drew.kept m3 (by simp)).cell 1,(B3.out.drew.kept m3 (by simp)).cell 2,(BB.out.drew.kept m3 (by simp)).cell 1⟩ | exact ⟨((B3.out.drew.kept m3 (by simp)).kept m4 (by simp)).cell 0,((B3.out.drew.kept m3 (by simp)).kept m4 (by simp)).cell 1,((B3.out.drew.kept m3 (by simp)).kept m4 (by simp)).cell 2,((BB.out.drew.kept m3 (by simp)).kept m4 (by simp)).cell 1⟩) (first | (go_at_call 70;refine (nearest_any mm y _).mono ?_;rintro e w3 ⟨rfl,ba,bb,m3⟩) | (go_at_call 69;refine (cut_near0 x mm y _ _ _ hl1 hy0 hy1 ba bb).mono ?_;rintro e w4 ⟨rfl,m4⟩))
  have M4:=Hi ((M3.out.drew.then m3).then m4);clear ba bb m3 m4;generalize Rat.cutR mm x y (Rat.near mm y)=R at *
  go_wp2_with fail;go_ret;exact ⟨by rw [HF.out];rfl,M4.out⟩
namespace Rat
def mulR (a b c d:Int):Int×Int×Bool :=
 if rightB a b=true/\rightB c d=true then toldR (!(decide (a<0) == decide (c<0))) (a.natAbs / Nat.gcd a.natAbs d.natAbs*(c.natAbs / Nat.gcd c.natAbs b.natAbs)) (b.natAbs / Nat.gcd c.natAbs b.natAbs*(d.natAbs / Nat.gcd a.natAbs d.natAbs)) else (0,0,false)
end Rat
theorem boxes3 (w:World) (x y u v r s:Value) (t t' t'':TypeId) :
  Blk (((w.alloc (.cells #[x,y] t)).alloc (.cells #[u,v] t')).alloc (.cells #[r,s] t'')) w.heap.size #[x,y] t /\
  Blk (((w.alloc (.cells #[x,y] t)).alloc (.cells #[u,v] t')).alloc (.cells #[r,s] t'')) (w.heap.size+1) #[u,v] t' /\
  Blk (((w.alloc (.cells #[x,y] t)).alloc (.cells #[u,v] t')).alloc (.cells #[r,s] t'')) (w.heap.size+2) #[r,s] t'':=by
 refine ⟨((Blk.new w _ t).alloc _).alloc _,?_,?_⟩
 ·have h:=(Blk.new (w.alloc (.cells #[x,y] t)) #[u,v] t').alloc (.cells #[r,s] t'');simpa using h
 ·have h:=Blk.new ((w.alloc (.cells #[x,y] t)).alloc (.cells #[u,v] t')) #[r,s] t'';simpa using h
set_option maxHeartbeats 1000000 in
theorem mul_any (a b c d:Int) (w:World) (ha:-9223372036854775808<=a/\a<=9223372036854775807) (hb:-9223372036854775808<=b/\b<=9223372036854775807)
  (hc:-9223372036854775808<=c/\c<=9223372036854775807) (hd:-9223372036854775808<=d/\d<=9223372036854775807) :
  Calls Try.prog 33 #[.agg #[.int .i64 a,.int .i64 b],.agg #[.int .i64 c,.int .i64 d]] w fun e w' =>
   e=.returned (.tuple #[.agg #[.int .i64 (Rat.mulR a b c d).1,.int .i64 (Rat.mulR a b c d).2.1],.bool (Rat.mulR a b c d).2.2])/\Mod [] w w':=by
 have M0:=Hi ((((Mod.refl [] w).alloc (.cells #[.int .i64 a,.int .i64 b] 64)).alloc (.cells #[.int .i64 c,.int .i64 d] 64)).alloc (.cells #[.int .i64 0,.int .i64 0] 64));have B0:=Hi (boxes3 w (.int .i64 a) (.int .i64 b) (.int .i64 c) (.int .i64 d) (.int .i64 0) (.int .i64 0) 64 64 64);have HRa:=Hi (fun W=>right_any a b W ha hb);have HRc:=Hi (fun W=>right_any c d W hc hd);cases hr:Rat.rightB a b with
 | false =>
  have HF:=Hi (show Rat.mulR a b c d=(0,0,false) by unfold Rat.mulR;rw [hr];rfl);rw [hr] at HRa;clear hr HRc;go_enter Try.func33,Try.ntmps33;go_wp2_with fail;refine (HRa.out _).mono ?_;rintro e w1 ⟨rfl,m1⟩;have M1:=Hi (M0.out.then m1);obtain ⟨r0,r1,z0,z1⟩:=(B0.out.2.2.kept m1 (by simp)).two;clear m1;go_wp2_with fail;refine bodyPost_ret (v:=.tuple #[.agg #[.int .i64 0,.int .i64 0],.bool false]) (by simp [results,Try.results33,go_sem,r0,r1]) rfl ⟨by rw [HF.out],?_⟩;exact (M1.out.setNew (by simp <;> omega) _).setNew (by simp <;> omega) _
 | true =>
  obtain ⟨hb0,ha0⟩:=rightB_pos hr;rw [hr] at HRa;cases hq:Rat.rightB c d with
  | false =>
   have HF:=Hi (show Rat.mulR a b c d=(0,0,false) by unfold Rat.mulR;rw [hq,if_neg (by simp)]);rw [hq] at HRc;clear hr hq;go_enter Try.func33,Try.ntmps33;go_wp2_with fail;refine (HRa.out _).mono ?_;rintro e w1 ⟨rfl,m1⟩;have M1:=Hi (M0.out.then m1);have BC:=Hi (B0.out.2.1.kept m1 (by simp));have BR:=Hi (B0.out.2.2.kept m1 (by simp));obtain ⟨c0,c1,-,-⟩:=BC.out.two;clear m1;go_wp2_with fail;refine (HRc.out _).mono ?_;rintro e w2 ⟨rfl,m2⟩;have M2:=Hi (M1.out.then m2);obtain ⟨r0,r1,z0,z1⟩:=(BR.out.kept m2 (by simp)).two;clear m2 c0 c1;go_wp2_with fail;refine bodyPost_ret (v:=.tuple #[.agg #[.int .i64 0,.int .i64 0],.bool false]) (by simp [results,Try.results33,go_sem,r0,r1]) rfl ⟨by rw [HF.out],?_⟩;exact (M2.out.setNew (by simp <;> omega) _).setNew (by simp <;> omega) _
  | true =>
   obtain ⟨hd0,hc0⟩:=rightB_pos hq;rw [hq] at HRc;have HF:=Hi (show Rat.mulR a b c d=Rat.toldR (!(decide (a<0) == decide (c<0))) (a.natAbs / Nat.gcd a.natAbs d.natAbs*(c.natAbs / Nat.gcd c.natAbs b.natAbs)) (b.natAbs / Nat.gcd c.natAbs b.natAbs*(d.natAbs / Nat.gcd a.natAbs d.natAbs)) by unfold Rat.mulR;rw [if_pos ⟨hr,hq⟩]);have HSa:=Hi (fun W=>size_any a W ha.1 ha.2);have HSc:=Hi (fun W=>size_any c W hc.1 hc.2);have HSa2:=Hi (fun W=>(size_any a W ha.1 ha.2).mono fun _ _ h=>And.imp_right Eq.symm h);have HSc2:=Hi (fun W=>(size_any c W hc.1 hc.2).mono fun _ _ h=>And.imp_right Eq.symm h);have hbw:IntKind.u64.wrap b=(b.natAbs:Int):=by rw [IntKind.wrap_u64];omega
   have hdw:IntKind.u64.wrap d=(d.natAbs:Int):=by rw [IntKind.wrap_u64];omega
   have HD1:=Hi (fun W=>divisor_any a.natAbs d.natAbs W (by omega) (by omega));have HD2:=Hi (fun W=>divisor_any c.natAbs b.natAbs W (by omega) (by omega));have hf0:0<Nat.gcd a.natAbs d.natAbs:=Nat.gcd_pos_of_pos_right _ (by omega);have hs0:0<Nat.gcd c.natAbs b.natAbs:=Nat.gcd_pos_of_pos_right _ (by omega);have hx:a.natAbs<18446744073709551616:=by omega
   have hy:b.natAbs<18446744073709551616:=by omega
   have hu:c.natAbs<18446744073709551616:=by omega
   have hv:d.natAbs<18446744073709551616:=by omega
   clear hr hq ha0 hb0 hc0 hd0;generalize Nat.gcd a.natAbs d.natAbs=f at *
   generalize Nat.gcd c.natAbs b.natAbs=s at *
   generalize a.natAbs=x at *
   generalize b.natAbs=y at *
   generalize c.natAbs=u at *
   generalize d.natAbs=v at *
   obtain ⟨qx,hqx⟩:∃ q,q=x / f:=⟨_,rfl⟩
   obtain ⟨qy,hqy⟩:∃ q,q=y / s:=⟨_,rfl⟩
   obtain ⟨qu,hqu⟩:∃ q,q=u / s:=⟨_,rfl⟩
   obtain ⟨qv,hqv⟩:∃ q,q=v / f:=⟨_,rfl⟩
   rw [<- hqx,<- hqy,<- hqu,<- hqv] at HF;have lx:qx<18446744073709551616:=by rw [hqx];exact Nat.lt_of_le_of_lt (Nat.div_le_self _ _) hx
   have ly:qy<18446744073709551616:=by rw [hqy];exact Nat.lt_of_le_of_lt (Nat.div_le_self _ _) hy
   have lu:qu<18446744073709551616:=by rw [hqu];exact Nat.lt_of_le_of_lt (Nat.div_le_self _ _) hu
   have lv:qv<18446744073709551616:=by rw [hqv];exact Nat.lt_of_le_of_lt (Nat.div_le_self _ _) hv
   have tx:IntKind.u64.wrap ((x:Int).tdiv (f:Int))=(qx:Int):=by rw [Int.tdiv_eq_ediv_of_nonneg (by omega),<- Int.natCast_ediv,<- hqx,Bits.wrapN _ lx]
   have ty:IntKind.u64.wrap ((y:Int).tdiv (s:Int))=(qy:Int):=by rw [Int.tdiv_eq_ediv_of_nonneg (by omega),<- Int.natCast_ediv,<- hqy,Bits.wrapN _ ly]
   have tu:IntKind.u64.wrap ((u:Int).tdiv (s:Int))=(qu:Int):=by rw [Int.tdiv_eq_ediv_of_nonneg (by omega),<- Int.natCast_ediv,<- hqu,Bits.wrapN _ lu]
   have tv:IntKind.u64.wrap ((v:Int).tdiv (f:Int))=(qv:Int):=by rw [Int.tdiv_eq_ediv_of_nonneg (by omega),<- Int.natCast_ediv,<- hqv,Bits.wrapN _ lv]
   have rx:IntKind.u64.wrap ((x:Int) / (f:Int))=(qx:Int):=by rw [<- Int.natCast_ediv,<- hqx,Bits.wrapN _ lx]
   have ry:IntKind.u64.wrap ((y:Int) / (s:Int))=(qy:Int):=by rw [<- Int.natCast_ediv,<- hqy,Bits.wrapN _ ly]
   have ru:IntKind.u64.wrap ((u:Int) / (s:Int))=(qu:Int):=by rw [<- Int.natCast_ediv,<- hqu,Bits.wrapN _ lu]
   have rv:IntKind.u64.wrap ((v:Int) / (f:Int))=(qv:Int):=by rw [<- Int.natCast_ediv,<- hqv,Bits.wrapN _ lv]
   have f2:¬ f=0:=by omega
   have s2:¬ s=0:=by omega
   have HP1:=Hi (fun W=>product_any qx qu W lx lu);have HP2:=Hi (fun W=>product_any qy qv W ly lv);obtain ⟨A,hA⟩:∃ A,A=qx*qu:=⟨_,rfl⟩
   obtain ⟨D,hD⟩:∃ D,D=qy*qv:=⟨_,rfl⟩
   rw [<- hA] at HP1 HF;rw [<- hD] at HP2 HF;obtain ⟨h,hh⟩:∃ h,h=A / 18446744073709551616:=⟨_,rfl⟩
   obtain ⟨l,hl⟩:∃ l,l=A % 18446744073709551616:=⟨_,rfl⟩
   obtain ⟨h',hh'⟩:∃ h,h=D / 18446744073709551616:=⟨_,rfl⟩
   obtain ⟨l',hl'⟩:∃ l,l=D % 18446744073709551616:=⟨_,rfl⟩
   rw [<- hh,<- hl] at HP1;rw [<- hh',<- hl'] at HP2;have hl1:l<18446744073709551616:=by omega
   have hl1':l'<18446744073709551616:=by omega
   have HA:=Hi (show A=h*18446744073709551616+l by omega);have HD:=Hi (show D=h'*18446744073709551616+l' by omega);clear hA hD hh hl hh' hl' hqx hqy hqu hqv;go_enter Try.func33,Try.ntmps33;go_wp2_with fail;refine (HRa.out _).mono ?_;rintro e w1 ⟨rfl,m1⟩;have M1:=Hi (M0.out.then m1);have BA:=Hi (B0.out.1.kept m1 (by simp));have BC:=Hi (B0.out.2.1.kept m1 (by simp));have BR:=Hi (B0.out.2.2.kept m1 (by simp));obtain ⟨c0,c1,-,-⟩:=BC.out.two;clear m1 M0 B0;go_wp2_with fail;refine (HRc.out _).mono ?_;rintro e w2 ⟨rfl,m2⟩;have M2:=Hi (M1.out.then m2);have BA2:=Hi (BA.out.kept m2 (by simp));have BC2:=Hi (BC.out.kept m2 (by simp));have BR2:=Hi (BR.out.kept m2 (by simp));clear m2 c0 c1 BA BC BR M1;obtain ⟨a0,a1,-,-⟩:=BA2.out.two;obtain ⟨c0,c1,-,-⟩:=BC2.out.two;go_wp2_with fail
   go_quiet ((first | (go_at_call 60;exact quiet_left (HSa.out _)) | (go_at_call 53;exact Calls.quiet_of (HD1.out _))))
   have BA3:=Hi (BA2.out.drewN nq);have BC3:=Hi (BC2.out.drewN nq);have BR3:=Hi (BR2.out.drewN nq);have M3:=Hi (M2.out.drewN nq);clear a0 a1 c0 c1 BA2 BC2 BR2 M2;generalize w2.drewN nq=W2 at *
   clear nq;obtain ⟨a0,a1,-,-⟩:=BA3.out.two;obtain ⟨c0,c1,-,-⟩:=BC3.out.two;go_wp2_with fail
   go_quiet ((first | (go_at_call 60;exact quiet_left (HSc.out _)) | (go_at_call 53;exact Calls.quiet_of (HD2.out _))))
   have BA4:=Hi (BA3.out.drewN nq);have BC4:=Hi (BC3.out.drewN nq);have BR4:=Hi (BR3.out.drewN nq);have M4:=Hi (M3.out.drewN nq);clear a0 a1 c0 c1 BA3 BC3 BR3 M3;generalize W2.drewN nq=W at *
   clear nq;go_wp2_with fail;have A0:∀ w',Mod [] W w'->w'.cell? ⟨w.heap.size,0,none⟩=some (.int .i64 a):=BA4.out.ever 0;have C0:∀ w',Mod [] W w'->w'.cell? ⟨w.heap.size+1,0,none⟩=some (.int .i64 c):=BC4.out.ever 0;refine wp_region_mono 12 [0,1,2,3,4,5,6,7,8,9,10] [(11,NewBlk W.heap.size #[.int .u64 0,.int .u64 0] 143)] (by kernel_rfl) (by kernel_rfl) (by simp [NewBlk.stays]) ?_;refine steady_val (v:=?_) rfl (by rfl) ?_ (fun K hK=>?_);rotate_left
   ·intro w' hw';go_simp;(try with_reducible rfl)
   go_simp;refine hK _ ?_;clear hK K;refine steady_val (v:=?_) rfl (by rfl) ?_ (fun K hK=>?_);rotate_left
   ·intro w' hw';go_simp;(try with_reducible rfl)
   go_simp;refine hK _ ?_;clear hK K;refine steady_call (calls_same HSa.out) rfl (by rfl) ?_ (fun K hK=>?_)
   ·intro w' hw';go_simp
   go_simp;refine hK _ ?_;clear hK K;refine steady_val (v:=?_) rfl (by rfl) ?_ (fun K hK=>?_);rotate_left
   ·intro w' hw';go_simp;(try with_reducible rfl)
   go_simp;refine hK _ ?_;clear hK K;refine steady_val (v:=?_) rfl (by rfl) ?_ (fun K hK=>?_);rotate_left
   ·intro w' hw';go_simp;(try with_reducible rfl)
   go_simp;refine hK _ ?_;clear hK K;refine steady_val (v:=?_) rfl (by rfl) ?_ (fun K hK=>?_);rotate_left
   ·intro w' hw';go_simp;(try with_reducible rfl)
   go_simp;refine hK _ ?_;clear hK K;refine steady_val (v:=?_) rfl (by rfl) ?_ (fun K hK=>?_);rotate_left
   ·intro w' hw';go_simp;(try with_reducible rfl)
   go_simp;refine hK _ ?_;clear hK K;refine steady_call (calls_same HSc.out) rfl (by rfl) ?_ (fun K hK=>?_)
   ·intro w' hw';go_simp
   go_simp;refine hK _ ?_;clear hK K;refine steady_val (v:=?_) rfl (by rfl) ?_ (fun K hK=>?_);rotate_left
   ·intro w' hw';go_simp;(try with_reducible rfl)
   go_simp;refine hK _ ?_;clear hK K;refine steady_val (v:=?_) rfl (by rfl) ?_ (fun K hK=>?_);rotate_left
   ·intro w' hw';go_simp;(try with_reducible rfl)
   go_simp;refine hK _ ?_;clear hK K;refine steady_call (calls_mod HP1.out) rfl (by rfl) ?_ (fun K hK=>?_)
   ·intro w' hw';go_simp
   go_simp;refine hK _ ?_;clear hK K;refine steady_end ?_;refine lates_one rfl rfl (late_alloc ?_) (fun v w' hw'=>?_)
   ·intro w';go_simp
   rintro ⟨-,b8,rfl,hb8,B8⟩;simp only [List.drop_succ_cons,List.drop_zero];have hlt:=BR4.out.lt;have N0:=Hi (show w.heap.size<=b8/\b8≠w.heap.size/\b8≠w.heap.size+1/\b8≠w.heap.size+2 by have:=M4.out.size;omega);obtain ⟨s0,s1,z0,z1⟩:=B8.two;clear A0 C0;go_wp2_with fail;have BA5:=Hi (((BA4.out.kept hw' (by simp)).other (a:=⟨b8,0,none⟩) N0.out.2.1 (.int .u64 h)).other (a:=⟨b8,1,none⟩) N0.out.2.1 (.int .u64 l));have BC5:=Hi (((BC4.out.kept hw' (by simp)).other (a:=⟨b8,0,none⟩) N0.out.2.2.1 (.int .u64 h)).other (a:=⟨b8,1,none⟩) N0.out.2.2.1 (.int .u64 l));have BR5:=Hi (((BR4.out.kept hw' (by simp)).other (a:=⟨b8,0,none⟩) N0.out.2.2.2 (.int .u64 h)).other (a:=⟨b8,1,none⟩) N0.out.2.2.2 (.int .u64 l));have B5:Hid (Blk ((w'.setCell ⟨b8,0,none⟩ (.int .u64 h)).setCell ⟨b8,1,none⟩ (.int .u64 l)) b8 #[.int .u64 h,.int .u64 l] 143):=(B8.set 0 _).set 1 _;have M5:=Hi (((M4.out.then hw').setNew (p:=⟨b8,0,none⟩) N0.out.1 (.int .u64 h)).setNew (p:=⟨b8,1,none⟩) N0.out.1 (.int .u64 l));clear s0 s1 z0 z1 B8 hw' BA4 BC4 BR4 M4;generalize (w'.setCell ⟨b8,0,none⟩ (.int .u64 h)).setCell ⟨b8,1,none⟩ (.int .u64 l)=W5 at *
   have A1:∀ w',Mod [] W5 w'->w'.cell? ⟨w.heap.size,1,none⟩=some (.int .i64 b):=BA5.out.ever 1;have C1:∀ w',Mod [] W5 w'->w'.cell? ⟨w.heap.size+1,1,none⟩=some (.int .i64 d):=BC5.out.ever 1;refine wp_region_mono 12 [0,1,2,3,4,5,6,7,8,9,10] [(11,NewBlk W5.heap.size #[.int .u64 0,.int .u64 0] 143)] (by kernel_rfl) (by kernel_rfl) (by simp [NewBlk.stays]) ?_;refine steady_val (v:=?_) rfl (by rfl) ?_ (fun K hK=>?_);rotate_left
   ·intro w' hw';go_simp;(try with_reducible rfl)
   go_simp;refine hK _ ?_;clear hK K;refine steady_val (v:=?_) rfl (by rfl) ?_ (fun K hK=>?_);rotate_left
   ·intro w' hw';go_simp;(try with_reducible rfl)
   go_simp;refine hK _ ?_;clear hK K;refine steady_val (v:=?_) rfl (by rfl) ?_ (fun K hK=>?_);rotate_left
   ·intro w' hw';go_simp;(try with_reducible rfl)
   go_simp;refine hK _ ?_;clear hK K;refine steady_val (v:=?_) rfl (by rfl) ?_ (fun K hK=>?_);rotate_left
   ·intro w' hw';go_simp;(try with_reducible rfl)
   go_simp;refine hK _ ?_;clear hK K;refine steady_val (v:=?_) rfl (by rfl) ?_ (fun K hK=>?_);rotate_left
   ·intro w' hw';go_simp;(try with_reducible rfl)
   go_simp;refine hK _ ?_;clear hK K;refine steady_val (v:=?_) rfl (by rfl) ?_ (fun K hK=>?_);rotate_left
   ·intro w' hw';go_simp;(try with_reducible rfl)
   go_simp;refine hK _ ?_;clear hK K;refine steady_val (v:=?_) rfl (by rfl) ?_ (fun K hK=>?_);rotate_left
   ·intro w' hw';go_simp;(try with_reducible rfl)
   go_simp;refine hK _ ?_;clear hK K;refine steady_val (v:=?_) rfl (by rfl) ?_ (fun K hK=>?_);rotate_left
   ·intro w' hw';go_simp;(try with_reducible rfl)
   go_simp;refine hK _ ?_;clear hK K;refine steady_val (v:=?_) rfl (by rfl) ?_ (fun K hK=>?_);rotate_left
   ·intro w' hw';go_simp;(try with_reducible rfl)
   go_simp;refine hK _ ?_;clear hK K;refine steady_val (v:=?_) rfl (by rfl) ?_ (fun K hK=>?_);rotate_left
   ·intro w' hw';go_simp;(try with_reducible rfl)
   go_simp;refine hK _ ?_;clear hK K;refine steady_call (calls_mod HP2.out) rfl (by rfl) ?_ (fun K hK=>?_)
   ·intro w' hw';go_simp
   go_simp;refine hK _ ?_;clear hK K;refine steady_end ?_;refine lates_one rfl rfl (late_alloc ?_) (fun v w' hw'=>?_)
   ·intro w';go_simp
   rintro ⟨-,b9,rfl,hb9,B9⟩;simp only [List.drop_succ_cons,List.drop_zero];have hlt9:=B5.out.lt;have hlt5:=BR5.out.lt;have N1:=Hi (show w.heap.size<=b9/\b9≠w.heap.size/\b9≠w.heap.size+1/\b9≠w.heap.size+2/\b9≠b8 by have:=M5.out.size;omega);obtain ⟨s0,s1,z0,z1⟩:=B9.two;clear A1 C1;go_upto_region 7 with fail;have BA6:=Hi (((BA5.out.kept hw' (by simp)).other (a:=⟨b9,0,none⟩) N1.out.2.1 (.int .u64 h')).other (a:=⟨b9,1,none⟩) N1.out.2.1 (.int .u64 l'));have BC6:=Hi (((BC5.out.kept hw' (by simp)).other (a:=⟨b9,0,none⟩) N1.out.2.2.1 (.int .u64 h')).other (a:=⟨b9,1,none⟩) N1.out.2.2.1 (.int .u64 l'));have BR6:=Hi (((BR5.out.kept hw' (by simp)).other (a:=⟨b9,0,none⟩) N1.out.2.2.2.1 (.int .u64 h')).other (a:=⟨b9,1,none⟩) N1.out.2.2.2.1 (.int .u64 l'));have B6:=Hi (((B5.out.kept hw' (by simp)).other (a:=⟨b9,0,none⟩) N1.out.2.2.2.2 (.int .u64 h')).other (a:=⟨b9,1,none⟩) N1.out.2.2.2.2 (.int .u64 l'));have B7:Hid (Blk ((w'.setCell ⟨b9,0,none⟩ (.int .u64 h')).setCell ⟨b9,1,none⟩ (.int .u64 l')) b9 #[.int .u64 h',.int .u64 l'] 143):=(B9.set 0 _).set 1 _;have M6:=Hi (((M5.out.then hw').setNew (p:=⟨b9,0,none⟩) N1.out.1 (.int .u64 h')).setNew (p:=⟨b9,1,none⟩) N1.out.1 (.int .u64 l'));clear s0 s1 z0 z1 B9 hw' BA5 BC5 BR5 M5 B5;generalize (w'.setCell ⟨b9,0,none⟩ (.int .u64 h')).setCell ⟨b9,1,none⟩ (.int .u64 l')=W6 at *
   obtain ⟨a0,-,-,-⟩:=BA6.out.two;obtain ⟨c0,-,-,-⟩:=BC6.out.two;obtain ⟨p0,p1,-,-⟩:=B6.out.two;obtain ⟨q0,q1,-,-⟩:=B7.out.two;go_wp2_with fail;refine (told_gen _ h l h' l' A D _ hl1 hl1' HA.out HD.out).mono ?_;rintro e w7 ⟨rfl,m7⟩;have M7:=Hi (M6.out.then m7);obtain ⟨r0,r1,z0,z1⟩:=(BR6.out.kept m7 (by simp)).two;rw [<- HF.out];clear m7 a0 c0 p0 p1 q0 q1;generalize eR:Rat.mulR a b c d=R at *
   have ER:=Hi eR;clear eR;go_wp2_with fail;refine bodyPost_ret (v:=.tuple #[.agg #[.int .i64 R.1,.int .i64 R.2.1],.bool R.2.2]) (by simp [results,Try.results33,go_sem,r0,r1]) rfl ⟨by rw [ER.out],?_⟩;exact (M7.out.setNew (by simp <;> omega) _).setNew (by simp <;> omega) _
namespace Rat
def sg (m:Bool) (n:Nat):Int:=if m then -(n:Int) else n
theorem pl_num (x y:Nat) (hb:x+y<340282366920938463463374607431768211456):pl (x / 18446744073709551616) (x % 18446744073709551616) (y / 18446744073709551616) (y % 18446744073709551616)=((x+y) / 18446744073709551616,(x+y) % 18446744073709551616):=by
 unfold pl;refine Prod.ext ?_ ?_ <;> dsimp only <;> omega
theorem mi_num (x y:Nat) (hb:x<340282366920938463463374607431768211456) (hy:y<=x):mi (x / 18446744073709551616) (x % 18446744073709551616) (y / 18446744073709551616) (y % 18446744073709551616)=((x - y) / 18446744073709551616,(x - y) % 18446744073709551616):=by
 unfold mi;refine Prod.ext ?_ ?_ <;> dsimp only
 ·split <;> omega
 ·omega
theorem lt2_num (x y:Nat):lt2 (x / 18446744073709551616) (x % 18446744073709551616) (y / 18446744073709551616) (y % 18446744073709551616)=decide (x<y):=by
 unfold lt2;rw [Bool.eq_iff_iff,decide_eq_true_eq,decide_eq_true_eq];omega
theorem sumW_num (x y:Nat) (m m':Bool) (s:Int) (hs:s=sg m x+sg m' y) (hb:x+y<340282366920938463463374607431768211456) :
  ∃ f,sumW (x / 18446744073709551616) (x % 18446744073709551616) m (y / 18446744073709551616) (y % 18446744073709551616) m'=((s.natAbs / 18446744073709551616,s.natAbs % 18446744073709551616),f)/\sg f s.natAbs=s:=by
 unfold sumW;rw [lt2_num,pl_num x y hb]
 by_cases hm:m=m'
 ·subst hm;rw [if_pos rfl];have:s.natAbs=x+y:=by cases m <;> simp only [sg,if_true,if_false,Bool.false_eq_true] at hs <;> omega
  exact ⟨m,by rw [this],by rw [this,hs];cases m <;> simp [sg];omega⟩
 ·rw [if_neg hm]
  by_cases hlt:x<y
  ·rw [if_pos (by simpa using hlt),mi_num y x (by omega) (by omega)];have:s.natAbs=y - x:=by rw [hs];cases m <;> cases m' <;> first | exact absurd rfl hm | (simp only [sg,if_true,if_false,Bool.false_eq_true];omega)
   exact ⟨m',by rw [this],by rw [this,hs];cases m <;> cases m' <;> first | exact absurd rfl hm | (simp only [sg,if_true,if_false,Bool.false_eq_true];omega)⟩
  ·rw [if_neg (by simpa using hlt),mi_num x y (by omega) (by omega)];have:s.natAbs=x - y:=by rw [hs];cases m <;> cases m' <;> first | exact absurd rfl hm | (simp only [sg,if_true,if_false,Bool.false_eq_true];omega)
   exact ⟨m,by rw [this],by rw [this,hs];cases m <;> cases m' <;> first | exact absurd rfl hm | (simp only [sg,if_true,if_false,Bool.false_eq_true];omega)⟩
theorem sg_div {f:Bool} {s:Int} (h:sg f s.natAbs=s) (k:Nat):sg f (s.natAbs / k)=sg (decide (s<0)) (s.natAbs / k):=by
 by_cases h0:s=0
 ·subst h0;simp [sg]
 ·have:f=decide (s<0):=by
   cases f <;> simp only [sg,if_true,if_false,Bool.false_eq_true] at h
   ·symm;rw [decide_eq_false_iff_not];omega
   ·symm;rw [decide_eq_true_eq];omega
  rw [this]
theorem toldR_sg (m:Bool) (n d:Nat):toldR m n d=if n<=9223372036854775807/\d<=9223372036854775807 then (sg m n,(d:Int),true) else (0,0,false):=rfl
theorem toldR_flag {f:Bool} {s:Int} (h:sg f s.natAbs=s) (k d:Nat):toldR f (s.natAbs / k) d=toldR (decide (s<0)) (s.natAbs / k) d:=by
 rw [toldR_sg,toldR_sg,sg_div h]
def addS (a b c d:Int):Int:=a*((d.natAbs / Nat.gcd b.natAbs d.natAbs:Nat):Int)+c*((b.natAbs / Nat.gcd b.natAbs d.natAbs:Nat):Int)
def addG (a b c d:Int):Nat:=Nat.gcd ((addS a b c d).natAbs % Nat.gcd b.natAbs d.natAbs) (Nat.gcd b.natAbs d.natAbs)
def addR (a b c d:Int):Int×Int×Bool :=
 if rightB a b=true/\rightB c d=true/\(addS a b c d).natAbs / 18446744073709551616<addG a b c d then
  toldR (decide (addS a b c d<0)) ((addS a b c d).natAbs / addG a b c d) (b.natAbs / Nat.gcd b.natAbs d.natAbs*(d.natAbs / addG a b c d))
 else (0,0,false)
theorem sg_natAbs (a:Int) (n:Nat):sg (decide (a<0)) (a.natAbs*n)=a*n:=by
 by_cases h:a<0
 ·simp only [sg,h,decide_true,if_true];rw [Int.natCast_mul,<- Int.neg_mul]
  congr 1;omega
 ·simp only [sg,h,decide_false,Bool.false_eq_true,if_false];rw [Int.natCast_mul]
  congr 1;omega
def cmpR (a b c d:Int):Int:=if rightB a b=true/\rightB c d=true then (a*d - c*b).sign else 0
end Rat
set_option maxHeartbeats 1000000 in
theorem add_any (a b c d:Int) (w:World) (ha:-9223372036854775808<=a/\a<=9223372036854775807) (hb:-9223372036854775808<=b/\b<=9223372036854775807)
  (hc:-9223372036854775808<=c/\c<=9223372036854775807) (hd:-9223372036854775808<=d/\d<=9223372036854775807) :
  Calls Try.prog 31 #[.agg #[.int .i64 a,.int .i64 b],.agg #[.int .i64 c,.int .i64 d]] w fun e w' =>
   e=.returned (.tuple #[.agg #[.int .i64 (Rat.addR a b c d).1,.int .i64 (Rat.addR a b c d).2.1],.bool (Rat.addR a b c d).2.2])/\Mod [] w w':=by
 have S0:=Hi (own3 w #[.int .i64 a,.int .i64 b] 64 #[.int .i64 c,.int .i64 d] 64 #[.int .i64 0,.int .i64 0] 64);have HRa:=Hi (fun W=>right_any a b W ha hb);have HRc:=Hi (fun W=>right_any c d W hc hd);cases hr:Rat.rightB a b with
 | false =>
  have HF:=Hi (show Rat.addR a b c d=(0,0,false) by unfold Rat.addR;rw [hr];rfl);rw [hr] at HRa;clear hr HRc;go_enter Try.func31,Try.ntmps31;go_wp2_with fail;refine (HRa.out _).mono ?_;rintro e w1 ⟨rfl,m1⟩;have S1:=Hi (S0.out.call m1);obtain ⟨r0,r1,z0,z1⟩:=(S1.out.at 2 rfl).two;clear m1;go_wp2_with fail;refine bodyPost_ret (v:=.tuple #[.agg #[.int .i64 0,.int .i64 0],.bool false]) (by simp [results,Try.results31,go_sem,r0,r1]) rfl ⟨by rw [HF.out],?_⟩;exact (S1.out.mod.setNew (by simp <;> omega) _).setNew (by simp <;> omega) _
 | true =>
  obtain ⟨hb0,-⟩:=rightB_pos hr;rw [hr] at HRa;cases hq:Rat.rightB c d with
  | false =>
   have HF:=Hi (show Rat.addR a b c d=(0,0,false) by unfold Rat.addR;rw [hq,if_neg (by simp)]);rw [hq] at HRc;clear hr hq;go_enter Try.func31,Try.ntmps31;go_wp2_with fail;refine (HRa.out _).mono ?_;rintro e w1 ⟨rfl,m1⟩;have S1:=Hi (S0.out.call m1);obtain ⟨c0,c1,-,-⟩:=(S1.out.at 1 rfl).two;clear m1;go_wp2_with fail;refine (HRc.out _).mono ?_;rintro e w2 ⟨rfl,m2⟩;have S2:=Hi (S1.out.call m2);obtain ⟨r0,r1,z0,z1⟩:=(S2.out.at 2 rfl).two;clear m2 c0 c1;go_wp2_with fail;refine bodyPost_ret (v:=.tuple #[.agg #[.int .i64 0,.int .i64 0],.bool false]) (by simp [results,Try.results31,go_sem,r0,r1]) rfl ⟨by rw [HF.out],?_⟩;exact (S2.out.mod.setNew (by simp <;> omega) _).setNew (by simp <;> omega) _
  | true =>
   obtain ⟨hd0,-⟩:=rightB_pos hq;rw [hq] at HRc
   have HF:=Hi (show Rat.addR a b c d=if (Rat.addS a b c d).natAbs / 18446744073709551616<Rat.addG a b c d then
    Rat.toldR (decide (Rat.addS a b c d<0)) ((Rat.addS a b c d).natAbs / Rat.addG a b c d) (b.natAbs / Nat.gcd b.natAbs d.natAbs*(d.natAbs / Rat.addG a b c d)) else (0,0,false) by
     unfold Rat.addR;simp only [hr,hq,true_and])
   have hbw:IntKind.u64.wrap b=(b.natAbs:Int):=by rw [IntKind.wrap_u64];omega
   have hdw:IntKind.u64.wrap d=(d.natAbs:Int):=by rw [IntKind.wrap_u64];omega
   have hy:b.natAbs<9223372036854775808:=by omega
   have hv:d.natAbs<9223372036854775808:=by omega
   have HD1:=Hi (fun W=>divisor_any b.natAbs d.natAbs W (by omega) (by omega));have hg0:0<Nat.gcd b.natAbs d.natAbs:=Nat.gcd_pos_of_pos_right _ (by omega);have hgv:Nat.gcd b.natAbs d.natAbs<=d.natAbs:=Nat.gcd_le_right _ (by omega);have hS:Rat.addS a b c d=a*((d.natAbs / Nat.gcd b.natAbs d.natAbs:Nat):Int)+c*((b.natAbs / Nat.gcd b.natAbs d.natAbs:Nat):Int):=rfl;have hG:Rat.addG a b c d=Nat.gcd ((Rat.addS a b c d).natAbs % Nat.gcd b.natAbs d.natAbs) (Nat.gcd b.natAbs d.natAbs):=rfl;clear hr hq hb0 hd0;generalize Rat.addG a b c d=sh at *
   generalize Rat.addS a b c d=s at *
   generalize Nat.gcd b.natAbs d.natAbs=g at *
   generalize b.natAbs=y at *
   generalize d.natAbs=v at *
   obtain ⟨qy,hqy⟩:∃ q,q=y / g:=⟨_,rfl⟩
   obtain ⟨qv,hqv⟩:∃ q,q=v / g:=⟨_,rfl⟩
   rw [<- hqy,<- hqv] at hS;rw [<- hqy] at HF;have ly:qy<9223372036854775808:=by rw [hqy];exact Nat.lt_of_le_of_lt (Nat.div_le_self _ _) hy
   have lv:qv<9223372036854775808:=by rw [hqv];exact Nat.lt_of_le_of_lt (Nat.div_le_self _ _) hv
   have ry:IntKind.u64.wrap ((y:Int) / (g:Int))=(qy:Int):=by rw [<- Int.natCast_ediv,<- hqy,Bits.wrapN _ (by omega)]
   have rv:IntKind.u64.wrap ((v:Int) / (g:Int))=(qv:Int):=by rw [<- Int.natCast_ediv,<- hqv,Bits.wrapN _ (by omega)]
   have g2:¬ g=0:=by omega
   have HT1:=Hi (fun W=>times_any a qv W ha.1 ha.2 (by omega));have HT2:=Hi (fun W=>times_any c qy W hc.1 hc.2 (by omega));have hxa:a.natAbs*qv<=9223372036854775808*9223372036854775808:=Nat.mul_le_mul (by omega) (by omega);have hxc:c.natAbs*qy<=9223372036854775808*9223372036854775808:=Nat.mul_le_mul (by omega) (by omega);obtain ⟨f,hf1,hf2⟩:=Rat.sumW_num (a.natAbs*qv) (c.natAbs*qy) (decide (a<0)) (decide (c<0)) s (by rw [Rat.sg_natAbs,Rat.sg_natAbs];exact hS) (by omega);have HSum:=Hi (fun W=>sum_any (a.natAbs*qv / 18446744073709551616) (a.natAbs*qv % 18446744073709551616) (decide (a<0)) (c.natAbs*qy / 18446744073709551616) (c.natAbs*qy % 18446744073709551616) (decide (c<0)) W (Nat.mod_lt _ (by omega)) (Nat.mod_lt _ (by omega)));rw [hf1] at HSum;have HFl:=Hi (Rat.toldR_flag hf2 sh);clear hf1 hf2 hxa hxc hS hqy hqv;generalize a.natAbs*qv / 18446744073709551616=xh at *
   generalize a.natAbs*qv % 18446744073709551616=xl at *
   generalize c.natAbs*qy / 18446744073709551616=yh at *
   generalize c.natAbs*qy % 18446744073709551616=yl at *
   generalize s.natAbs=n at *
   obtain ⟨nh,hnh⟩:∃ q,q=n / 18446744073709551616:=⟨_,rfl⟩
   obtain ⟨nl,hnl⟩:∃ q,q=n % 18446744073709551616:=⟨_,rfl⟩
   rw [<- hnh] at HF;have hnl1:nl<18446744073709551616:=by omega
   have hn:nh*18446744073709551616+nl=n:=by omega
   have HRem:=Hi (fun W=>rem64_any nh nl g (by omega) (by omega) hnl1 W);rw [hn] at HRem;have HD2:=Hi (fun W=>divisor_any (n % g) g W (Nat.lt_of_lt_of_le (Nat.mod_lt _ hg0) (by omega)) (by omega));rw [<- hG] at HD2;have hs0:0<sh:=by rw [hG];exact Nat.gcd_pos_of_pos_right _ hg0
   have hsg:sh<=g:=by rw [hG];exact Nat.gcd_le_right _ hg0
   have HSum2:Hid (∀ W:World,Calls Try.prog 54 #[.agg #[.int .u64 xh,.int .u64 xl,.bool (decide (a<0))],.agg #[.int .u64 yh,.int .u64 yl,.bool (decide (c<0))]] W fun e w' =>
    e=.returned (.agg #[.int .u64 nh,.int .u64 nl,.bool f])/\Mod [] W w'):=by rw [hnh,hnl];exact HSum.out
   have HDv:=Hi (fun (h:nh<sh) W=>div64_any nh nl sh h (by omega) hnl1 W);rw [hn] at HDv
   have Hwh:=Hi (show nh<sh->n / sh<18446744073709551616 from fun h=>by
    rw [Nat.div_lt_iff_lt_mul hs0,<- hn];have:=Nat.mul_le_mul_left 18446744073709551616 (show nh+1<=sh from h)
    omega)
   clear HSum hnh hnl hn hG;generalize n % g=rm at *
   generalize n / sh=wh at *
   generalize n % sh=wr at *
   obtain ⟨qs,hqs⟩:∃ q,q=v / sh:=⟨_,rfl⟩
   rw [<- hqs] at HF;have ls:qs<9223372036854775808:=by rw [hqs];exact Nat.lt_of_le_of_lt (Nat.div_le_self _ _) hv
   have rs:IntKind.u64.wrap ((v:Int) / (sh:Int))=(qs:Int):=by rw [<- Int.natCast_ediv,<- hqs,Bits.wrapN _ (by omega)]
   have sh2:¬ sh=0:=by omega
   have HP:=Hi (fun W=>product_any qy qs W (by omega) (by omega));obtain ⟨D,hD⟩:∃ D,D=qy*qs:=⟨_,rfl⟩
   rw [<- hD] at HP HF;obtain ⟨h',hh'⟩:∃ h,h=D / 18446744073709551616:=⟨_,rfl⟩
   obtain ⟨l',hl'⟩:∃ l,l=D % 18446744073709551616:=⟨_,rfl⟩
   rw [<- hh',<- hl'] at HP;have hl1':l'<18446744073709551616:=by omega
   have HDD:=Hi (show D=h'*18446744073709551616+l' by omega);clear hD hh' hl' hqs;go_enter Try.func31,Try.ntmps31;go_wp2_with fail;refine (HRa.out _).mono ?_;rintro e w1 ⟨rfl,m1⟩;have S1:=Hi (S0.out.call m1);obtain ⟨c0,c1,-,-⟩:=(S1.out.at 1 rfl).two;clear m1 S0;go_wp2_with fail;refine (HRc.out _).mono ?_;rintro e w2 ⟨rfl,m2⟩;have S2:=Hi (S1.out.call m2);clear m2 c0 c1 S1;obtain ⟨-,a1,-,-⟩:=(S2.out.at 0 rfl).two;obtain ⟨-,c1,-,-⟩:=(S2.out.at 1 rfl).two;go_wp2_with fail;refine (HD1.out _).mono ?_;rintro e w3 ⟨rfl,k3,rfl⟩;have S3:=Hi (S2.out.drewN k3);clear a1 c1 S2;generalize w2.drewN k3=W3 at *
   obtain ⟨-,a1,-,-⟩:=(S3.out.at 0 rfl).two;obtain ⟨-,c1,-,-⟩:=(S3.out.at 1 rfl).two;go_wp2_with fail
   go_quiet (fail)
   have S4:=Hi (S3.out.drewN nq);clear a1 c1 S3;generalize W3.drewN nq=W4 at *
   clear nq;go_wp2_with fail;have A0:=(S4.out.at 0 rfl).every;have C0:=(S4.out.at 1 rfl).every;refine wp_region_mono 10 [0,1,2,3,4,5,6,7,8] [(9,NewBlk W4.heap.size #[.int .u64 0,.int .u64 0,.bool false] 145)] (by kernel_rfl) (by kernel_rfl) (by simp [NewBlk.stays]) ?_;refine steady_val (v:=?_) rfl (by rfl) ?_ (fun K hK=>?_);rotate_left
   ·intro w' hw';go_simp;(try with_reducible rfl)
   go_simp;refine hK _ ?_;clear hK K;refine steady_val (v:=?_) rfl (by rfl) ?_ (fun K hK=>?_);rotate_left
   ·intro w' hw';go_simp;(try with_reducible rfl)
   go_simp;refine hK _ ?_;clear hK K;refine steady_val (v:=?_) rfl (by rfl) ?_ (fun K hK=>?_);rotate_left
   ·intro w' hw';go_simp;(try with_reducible rfl)
   go_simp;refine hK _ ?_;clear hK K;refine steady_call (calls_mod HT1.out) rfl (by rfl) ?_ (fun K hK=>?_)
   ·intro w' hw';go_simp
   go_simp;refine hK _ ?_;clear hK K;refine steady_val (v:=?_) rfl (by rfl) ?_ (fun K hK=>?_);rotate_left
   ·intro w' hw';go_simp;(try with_reducible rfl)
   go_simp;refine hK _ ?_;clear hK K;refine steady_val (v:=?_) rfl (by rfl) ?_ (fun K hK=>?_);rotate_left
   ·intro w' hw';go_simp;(try with_reducible rfl)
   go_simp;refine hK _ ?_;clear hK K;refine steady_val (v:=?_) rfl (by rfl) ?_ (fun K hK=>?_);rotate_left
   ·intro w' hw';go_simp;(try with_reducible rfl)
   go_simp;refine hK _ ?_;clear hK K;refine steady_call (calls_mod HT2.out) rfl (by rfl) ?_ (fun K hK=>?_)
   ·intro w' hw';go_simp
   go_simp;refine hK _ ?_;clear hK K;refine steady_call (calls_mod HSum2.out) rfl (by rfl) ?_ (fun K hK=>?_)
   ·intro w' hw';go_simp
   go_simp;refine hK _ ?_;clear hK K;refine steady_end ?_;refine lates_one rfl rfl (late_alloc ?_) (fun v w' hw'=>?_)
   ·intro w';go_simp
   rintro ⟨-,b9,rfl,hb9,B9⟩;simp only [List.drop_succ_cons,List.drop_zero];have S5:=Hi (S4.out.new hw' hb9 B9);obtain ⟨s0,s1,s2,z0,z1,z2⟩:=B9.three;clear A0 C0 hw' hb9 B9 S4;go_upto_region 6 with fail
   have S6:Hid (Own w (((w'.setCell ⟨b9,0,none⟩ (.int .u64 nh)).setCell ⟨b9,1,none⟩ (.int .u64 nl)).setCell ⟨b9,2,none⟩ (.bool f))
    [(w.heap.size,#[.int .i64 a,.int .i64 b],64),(w.heap.size+1,#[.int .i64 c,.int .i64 d],64),(w.heap.size+1+1,#[.int .i64 0,.int .i64 0],64),(b9,#[.int .u64 nh,.int .u64 nl,.bool f],145)]) :=
    ((S5.out.set 3 rfl 0 _).set 3 rfl 1 _).set 3 rfl 2 _
   clear s0 s1 s2 z0 z1 z2 S5;generalize ((w'.setCell ⟨b9,0,none⟩ (.int .u64 nh)).setCell ⟨b9,1,none⟩ (.int .u64 nl)).setCell ⟨b9,2,none⟩ (.bool f)=W6 at *
   obtain ⟨s0,s1,-,-,-,-⟩:=(S6.out.at 3 rfl).three;go_wp2_with fail;refine (HRem.out _).mono ?_;rintro e w7 ⟨rfl,k7,rfl⟩;have S7:=Hi (S6.out.drewN k7);clear s0 s1 S6;generalize W6.drewN k7=W7 at *
   go_wp2_with fail;refine (HD2.out _).mono ?_;rintro e w8 ⟨rfl,k8,rfl⟩;have S8:=Hi (S7.out.drewN k8);clear S7;generalize W7.drewN k8=W8 at *
   obtain ⟨s0,s1,-,-,-,-⟩:=(S8.out.at 3 rfl).three
   by_cases hlt:nh<sh
   ·have dlt:decide (sh<=nh)=false:=by simpa using hlt
    have HV:=Hi (HDv.out hlt);have hwh:=Hwh.out hlt;have HF2:Hid (Rat.addR a b c d=Rat.toldR f wh D):=by rw [HF.out,if_pos hlt,<- HFl.out D];exact rfl
    clear hlt HF HDv Hwh HFl;go_wp2_with fail;refine (HV.out _).mono ?_;rintro e w9 ⟨rfl,k9,rfl⟩;have S9:=Hi (S8.out.drewN k9);clear s0 s1 S8;generalize W8.drewN k9=W9 at *
    go_wp2_with fail;have C1:=(S9.out.at 1 rfl).every;have F1:=(S9.out.at 3 rfl).every;have HTd:=Hi (fun W=>told_gen f 0 wh h' l' wh D W hwh hl1' (by omega) HDD.out);rw [<- HF2.out] at HTd;generalize eR:Rat.addR a b c d=R at *
    have ER:=Hi eR;clear eR;refine wp_region_mono 14 [0,1,2,3,4,5,6,7,8,9,10,11,12,13] [] (by kernel_rfl) (by kernel_rfl) (by simp) ?_;refine steady_val (v:=?_) rfl (by rfl) ?_ (fun K hK=>?_);rotate_left
    ·intro w' hw';go_simp;(try with_reducible rfl)
    go_simp;refine hK _ ?_;clear hK K;refine steady_val (v:=?_) rfl (by rfl) ?_ (fun K hK=>?_);rotate_left
    ·intro w' hw';go_simp;(try with_reducible rfl)
    go_simp;refine hK _ ?_;clear hK K;refine steady_val (v:=?_) rfl (by rfl) ?_ (fun K hK=>?_);rotate_left
    ·intro w' hw';go_simp;(try with_reducible rfl)
    go_simp;refine hK _ ?_;clear hK K;refine steady_val (v:=?_) rfl (by rfl) ?_ (fun K hK=>?_);rotate_left
    ·intro w' hw';go_simp;(try with_reducible rfl)
    go_simp;refine hK _ ?_;clear hK K;refine steady_val (v:=?_) rfl (by rfl) ?_ (fun K hK=>?_);rotate_left
    ·intro w' hw';go_simp;(try with_reducible rfl)
    go_simp;refine hK _ ?_;clear hK K;refine steady_val (v:=?_) rfl (by rfl) ?_ (fun K hK=>?_);rotate_left
    ·intro w' hw';go_simp;(try with_reducible rfl)
    go_simp;refine hK _ ?_;clear hK K;refine steady_val (v:=?_) rfl (by rfl) ?_ (fun K hK=>?_);rotate_left
    ·intro w' hw';go_simp;(try with_reducible rfl)
    go_simp;refine hK _ ?_;clear hK K;refine steady_val (v:=?_) rfl (by rfl) ?_ (fun K hK=>?_);rotate_left
    ·intro w' hw';go_simp;(try with_reducible rfl)
    go_simp;refine hK _ ?_;clear hK K;refine steady_val (v:=?_) rfl (by rfl) ?_ (fun K hK=>?_);rotate_left
    ·intro w' hw';go_simp;(try with_reducible rfl)
    go_simp;refine hK _ ?_;clear hK K;refine steady_val (v:=?_) rfl (by rfl) ?_ (fun K hK=>?_);rotate_left
    ·intro w' hw';go_simp;(try with_reducible rfl)
    go_simp;refine hK _ ?_;clear hK K;refine steady_call (calls_mod HP.out) rfl (by rfl) ?_ (fun K hK=>?_)
    ·intro w' hw';go_simp
    go_simp;refine hK _ ?_;clear hK K;refine steady_call (calls_mod HTd.out) rfl (by rfl) ?_ (fun K hK=>?_)
    ·intro w' hw';go_simp
    go_simp;refine hK _ ?_;clear hK K;refine steady_val (v:=?_) rfl (by rfl) ?_ (fun K hK=>?_);rotate_left
    ·intro w' hw';go_simp;(try with_reducible rfl)
    go_simp;refine hK _ ?_;clear hK K;refine steady_val (v:=?_) rfl (by rfl) ?_ (fun K hK=>?_);rotate_left
    ·intro w' hw';go_simp;(try with_reducible rfl)
    go_simp;refine hK _ ?_;clear hK K;refine steady_end ?_;refine lates_end (fun w' hw' _=>?_);simp only [List.drop_succ_cons,List.drop_zero];have S10:=Hi (S9.out.call hw');obtain ⟨r0,r1,z0,z1⟩:=(S10.out.at 2 rfl).two;have hge:=S10.out.ge 2 rfl;clear C1 F1 hw' S9;go_wp2_with fail;refine bodyPost_ret (v:=.tuple #[.agg #[.int .i64 R.1,.int .i64 R.2.1],.bool R.2.2]) (by simp [results,Try.results31,go_sem,r0,r1]) rfl ⟨by rw [ER.out],?_⟩;exact (S10.out.mod.setNew hge _).setNew hge _
   ·have dlt:decide (sh<=nh)=true:=by simpa using hlt
    have HF2:Hid (Rat.addR a b c d=(0,0,false)):=by rw [HF.out,if_neg hlt];exact rfl
    obtain ⟨r0,r1,z0,z1⟩:=(S8.out.at 2 rfl).two;have hge:=S8.out.ge 2 rfl;clear hlt HF HDv Hwh HFl;go_wp2_with fail;refine bodyPost_ret (v:=.tuple #[.agg #[.int .i64 0,.int .i64 0],.bool false]) (by simp [results,Try.results31,go_sem,r0,r1]) rfl ⟨by rw [HF2.out],?_⟩;exact (S8.out.mod.setNew hge _).setNew hge _
namespace Rat
def subR (a b c d:Int):Int×Int×Bool:=if rightB c d=true then addR a b (-c) d else (0,0,false)
def divR (a b c d:Int):Int×Int×Bool:=if rightB c d=true/\c≠0 then (if c<0 then mulR a b (-d) (-c) else mulR a b d c) else (0,0,false)
end Rat
set_option maxHeartbeats 1000000 in
theorem sub_any (a b c d:Int) (w:World) (ha:-9223372036854775808<=a/\a<=9223372036854775807) (hb:-9223372036854775808<=b/\b<=9223372036854775807)
  (hc:-9223372036854775808<=c/\c<=9223372036854775807) (hd:-9223372036854775808<=d/\d<=9223372036854775807) :
  Calls Try.prog 63 #[.agg #[.int .i64 a,.int .i64 b],.agg #[.int .i64 c,.int .i64 d]] w fun e w' =>
   e=.returned (.tuple #[.agg #[.int .i64 (Rat.subR a b c d).1,.int .i64 (Rat.subR a b c d).2.1],.bool (Rat.subR a b c d).2.2])/\Mod [] w w':=by
 have S0:=Hi (own3 w #[.int .i64 a,.int .i64 b] 64 #[.int .i64 c,.int .i64 d] 64 #[.int .i64 0,.int .i64 0] 64);have HRc:=Hi (fun W=>right_any c d W hc hd);cases hr:Rat.rightB c d with
 | false =>
  have HF:=Hi (show Rat.subR a b c d=(0,0,false) by unfold Rat.subR;rw [hr];rfl);rw [hr] at HRc;clear hr;go_enter Try.func63,Try.ntmps63;go_wp2_with fail;refine (HRc.out _).mono ?_;rintro e w1 ⟨rfl,m1⟩;have S1:=Hi (S0.out.call m1);obtain ⟨r0,r1,z0,z1⟩:=(S1.out.at 2 rfl).two;have hge:=S1.out.ge 2 rfl;clear m1 S0;go_wp2_with fail;refine bodyPost_ret (v:=.tuple #[.agg #[.int .i64 0,.int .i64 0],.bool false]) (by simp [results,Try.results63,go_sem,r0,r1]) rfl ⟨by rw [HF.out],?_⟩;exact (S1.out.mod.setNew hge _).setNew hge _
 | true =>
  obtain ⟨-,hc0⟩:=rightB_pos hr;have hc1:-9223372036854775807<=c:=by omega
  have HF:=Hi (show Rat.subR a b c d=Rat.addR a b (-c) d by unfold Rat.subR;rw [if_pos hr]);rw [hr] at HRc;clear hr hc0;have HA:=Hi (fun W=>add_any a b (-c) d W ha hb (by omega) hd);rw [<- HF.out] at HA;generalize Rat.subR a b c d=R at *
  clear HF;go_enter Try.func63,Try.ntmps63;go_wp2_with fail;refine (HRc.out _).mono ?_;rintro e w1 ⟨rfl,m1⟩;have S1:=Hi (S0.out.call m1);obtain ⟨a0,a1,-,-⟩:=(S1.out.at 0 rfl).two;obtain ⟨c0,c1,-,-⟩:=(S1.out.at 1 rfl).two;clear m1 S0;go_wp2_with fail;refine (HA.out _).mono ?_;rintro e w2 ⟨rfl,m2⟩;have S2:=Hi (S1.out.call m2);obtain ⟨r0,r1,z0,z1⟩:=(S2.out.at 2 rfl).two;have hge:=S2.out.ge 2 rfl;clear m2 S1 a0 a1 c0 c1;go_wp2_with fail;refine bodyPost_ret (v:=.tuple #[.agg #[.int .i64 R.1,.int .i64 R.2.1],.bool R.2.2]) (by simp [results,Try.results63,go_sem,r0,r1]) rfl ⟨rfl,?_⟩;exact (S2.out.mod.setNew hge _).setNew hge _
set_option maxHeartbeats 1000000 in
theorem div_any (a b c d:Int) (w:World) (ha:-9223372036854775808<=a/\a<=9223372036854775807) (hb:-9223372036854775808<=b/\b<=9223372036854775807)
  (hc:-9223372036854775808<=c/\c<=9223372036854775807) (hd:-9223372036854775808<=d/\d<=9223372036854775807) :
  Calls Try.prog 62 #[.agg #[.int .i64 a,.int .i64 b],.agg #[.int .i64 c,.int .i64 d]] w fun e w' =>
   e=.returned (.tuple #[.agg #[.int .i64 (Rat.divR a b c d).1,.int .i64 (Rat.divR a b c d).2.1],.bool (Rat.divR a b c d).2.2])/\Mod [] w w':=by
 have S0:=Hi (own3 w #[.int .i64 a,.int .i64 b] 64 #[.int .i64 c,.int .i64 d] 64 #[.int .i64 0,.int .i64 0] 64);have HRc:=Hi (fun W=>right_any c d W hc hd);cases hr:Rat.rightB c d with
 | false =>
  have HF:=Hi (show Rat.divR a b c d=(0,0,false) by unfold Rat.divR;rw [hr];simp);rw [hr] at HRc;clear hr;go_enter Try.func62,Try.ntmps62;go_wp2_with fail;refine (HRc.out _).mono ?_;rintro e w1 ⟨rfl,m1⟩;have S1:=Hi (S0.out.call m1);obtain ⟨r0,r1,z0,z1⟩:=(S1.out.at 2 rfl).two;have hge:=S1.out.ge 2 rfl;clear m1 S0;go_wp2_with fail;refine bodyPost_ret (v:=.tuple #[.agg #[.int .i64 0,.int .i64 0],.bool false]) (by simp [results,Try.results62,go_sem,r0,r1]) rfl ⟨by rw [HF.out],?_⟩;exact (S1.out.mod.setNew hge _).setNew hge _
 | true =>
  obtain ⟨hd0,hc0⟩:=rightB_pos hr;have hc1:-9223372036854775807<=c:=by omega
  rw [hr] at HRc
  by_cases hz:c=0
  ·have HF:=Hi (show Rat.divR a b c d=(0,0,false) by unfold Rat.divR;rw [if_neg (by simp [hz])]);have d0:(c == 0)=true:=by simpa using hz
   clear hr hc0 hz;go_enter Try.func62,Try.ntmps62;go_wp2_with fail;refine (HRc.out _).mono ?_;rintro e w1 ⟨rfl,m1⟩;have S1:=Hi (S0.out.call m1);obtain ⟨r0,r1,z0,z1⟩:=(S1.out.at 2 rfl).two;obtain ⟨c0,c1,-,-⟩:=(S1.out.at 1 rfl).two;have hge:=S1.out.ge 2 rfl;clear m1 S0;go_wp2_with fail;refine bodyPost_ret (v:=.tuple #[.agg #[.int .i64 0,.int .i64 0],.bool false]) (by simp [results,Try.results62,go_sem,r0,r1]) rfl ⟨by rw [HF.out],?_⟩;exact (S1.out.mod.setNew hge _).setNew hge _
  ·have d0:(c == 0)=false:=by simpa using hz
   by_cases hn:c<0
   ·have HF:=Hi (show Rat.divR a b c d=Rat.mulR a b (-d) (-c) by unfold Rat.divR;rw [if_pos ⟨hr,hz⟩,if_pos hn]);have d1:decide (c<0)=true:=by simpa using hn
    have HA:=Hi (fun W=>mul_any a b (-d) (-c) W ha hb (by omega) (by omega));rw [<- HF.out] at HA;generalize Rat.divR a b c d=R at *
    clear HF hr hc0 hz hn;go_enter Try.func62,Try.ntmps62;go_wp2_with fail;refine (HRc.out _).mono ?_;rintro e w1 ⟨rfl,m1⟩;have S1:=Hi (S0.out.call m1);obtain ⟨c0,c1,-,-⟩:=(S1.out.at 1 rfl).two;have SN:=Hi (S1.out.alloc #[.int .i64 (-d),.int .i64 (-c)] 64);obtain ⟨a0,a1,-,-⟩:=(S1.out.at 0 rfl).two;have hl1:=S1.out.lt 1 rfl;have hl0:=S1.out.lt 0 rfl;clear m1 S0;go_wp2_with fail;refine (HA.out _).mono ?_;rintro e w2 ⟨rfl,m2⟩;have S2:=Hi (SN.out.call m2);obtain ⟨r0,r1,z0,z1⟩:=(S2.out.at 2 rfl).two;have hge:=S2.out.ge 2 rfl;clear m2 S1 a0 a1 c0 c1;go_wp2_with fail;refine bodyPost_ret (v:=.tuple #[.agg #[.int .i64 R.1,.int .i64 R.2.1],.bool R.2.2]) (by simp [results,Try.results62,go_sem,r0,r1]) rfl ⟨rfl,?_⟩;exact (S2.out.mod.setNew hge _).setNew hge _
   ·have HF:=Hi (show Rat.divR a b c d=Rat.mulR a b d c by unfold Rat.divR;rw [if_pos ⟨hr,hz⟩,if_neg hn]);have d1:decide (c<0)=false:=by simpa using hn
    have HA:=Hi (fun W=>mul_any a b d c W ha hb (by omega) (by omega));rw [<- HF.out] at HA;generalize Rat.divR a b c d=R at *
    clear HF hr hc0 hz;go_enter Try.func62,Try.ntmps62;go_wp2_with fail;refine (HRc.out _).mono ?_;rintro e w1 ⟨rfl,m1⟩;have S1:=Hi (S0.out.call m1);obtain ⟨c0,c1,-,-⟩:=(S1.out.at 1 rfl).two;have SN:=Hi (S1.out.alloc #[.int .i64 d,.int .i64 c] 64);obtain ⟨a0,a1,-,-⟩:=(S1.out.at 0 rfl).two;have hl1:=S1.out.lt 1 rfl;have hl0:=S1.out.lt 0 rfl;clear m1 S0;go_wp2_with fail;refine (HA.out _).mono ?_;rintro e w2 ⟨rfl,m2⟩;have S2:=Hi (SN.out.call m2);obtain ⟨r0,r1,z0,z1⟩:=(S2.out.at 2 rfl).two;have hge:=S2.out.ge 2 rfl;clear m2 S1 a0 a1 c0 c1;go_wp2_with fail;refine bodyPost_ret (v:=.tuple #[.agg #[.int .i64 R.1,.int .i64 R.2.1],.bool R.2.2]) (by simp [results,Try.results62,go_sem,r0,r1]) rfl ⟨rfl,?_⟩;exact (S2.out.mod.setNew hge _).setNew hge _
theorem eqWide (w:World) (a b a' b':Int):(Op.equalIn 10000 143 (.agg #[.int .u64 a,.int .u64 b]) (.agg #[.int .u64 a',.int .u64 b'])).run Try.prog w=.ok ((a == a') && (b == b')) w:=by
 rw [Op.equalIn];simp [run_underlying Try.underlying143,go_sem,Std.Legacy.Range.forIn_eq_forIn_range',Std.Legacy.Range.size,List.range']
 by_cases h1:a=a' <;> by_cases h2:b=b' <;> simp [h1,h2]
set_option maxHeartbeats 1000000 in
theorem cmp_any (a b c d:Int) (w:World) (ha:-9223372036854775808<=a/\a<=9223372036854775807) (hb:-9223372036854775808<=b/\b<=9223372036854775807)
  (hc:-9223372036854775808<=c/\c<=9223372036854775807) (hd:-9223372036854775808<=d/\d<=9223372036854775807) :
  Calls Try.prog 61 #[.agg #[.int .i64 a,.int .i64 b],.agg #[.int .i64 c,.int .i64 d]] w fun e w'=>e=.returned (.int .i64 (Rat.cmpR a b c d))/\Mod [] w w':=by
 have S0:=Hi (own2 w #[.int .i64 a,.int .i64 b] 64 #[.int .i64 c,.int .i64 d] 64);have HRa:=Hi (fun W=>right_any a b W ha hb);have HRc:=Hi (fun W=>right_any c d W hc hd);cases hr:Rat.rightB a b with
 | false =>
  have HF:=Hi (show Rat.cmpR a b c d=0 by unfold Rat.cmpR;rw [hr];rfl);rw [hr] at HRa;clear hr HRc;go_enter Try.func61,Try.ntmps61;go_wp2_with fail;refine (HRa.out _).mono ?_;rintro e w1 ⟨rfl,m1⟩;have S1:=Hi (S0.out.call m1);clear m1;go_wp2_with fail;go_ret;exact ⟨by rw [HF.out];rfl,S1.out.mod⟩
 | true =>
  obtain ⟨hb0,-⟩:=rightB_pos hr;rw [hr] at HRa;cases hq:Rat.rightB c d with
  | false =>
   have HF:=Hi (show Rat.cmpR a b c d=0 by unfold Rat.cmpR;rw [hq,if_neg (by simp)]);rw [hq] at HRc;clear hr hq;go_enter Try.func61,Try.ntmps61;go_wp2_with fail;refine (HRa.out _).mono ?_;rintro e w1 ⟨rfl,m1⟩;have S1:=Hi (S0.out.call m1);obtain ⟨c0,c1,-,-⟩:=(S1.out.at 1 rfl).two;clear m1 S0;go_wp2_with fail;refine (HRc.out _).mono ?_;rintro e w2 ⟨rfl,m2⟩;have S2:=Hi (S1.out.call m2);clear m2 c0 c1 S1;go_wp2_with fail;go_ret;exact ⟨by rw [HF.out];rfl,S2.out.mod⟩
  | true =>
   obtain ⟨hd0,hc0⟩:=rightB_pos hq;have hc1:-9223372036854775807<=c:=by omega
   have hcw:IntKind.i64.wrap (-c)=-c:=IntWalk.i64_in _ (by omega);rw [hq] at HRc;have HF:=Hi (show Rat.cmpR a b c d=(a*d - c*b).sign by unfold Rat.cmpR;rw [if_pos ⟨hr,hq⟩]);have hbw:IntKind.u64.wrap b=(b.natAbs:Int):=by rw [IntKind.wrap_u64];omega
   have hdw:IntKind.u64.wrap d=(d.natAbs:Int):=by rw [IntKind.wrap_u64];omega
   have hy:b.natAbs<9223372036854775808:=by omega
   have hv:d.natAbs<9223372036854775808:=by omega
   have HT1:=Hi (fun W=>times_any a d.natAbs W ha.1 ha.2 (by omega));have HT2:=Hi (fun W=>times_any (-c) b.natAbs W (by omega) (by omega) (by omega));have hxa:a.natAbs*d.natAbs<=9223372036854775808*9223372036854775808:=Nat.mul_le_mul (by omega) (by omega);have hxc:(-c).natAbs*b.natAbs<=9223372036854775808*9223372036854775808:=Nat.mul_le_mul (by omega) (by omega);obtain ⟨s,hs⟩:∃ s,s=a*d - c*b:=⟨_,rfl⟩
   obtain ⟨f,hf1,hf2⟩:=Rat.sumW_num (a.natAbs*d.natAbs) ((-c).natAbs*b.natAbs) (decide (a<0)) (decide (-c<0)) s (by
    rw [Rat.sg_natAbs,Rat.sg_natAbs,hs,Int.natAbs_of_nonneg (by omega),Int.natAbs_of_nonneg (by omega),Int.neg_mul,Int.sub_eq_add_neg]) (by omega)
   have HSum:=Hi (fun W=>sum_any (a.natAbs*d.natAbs / 18446744073709551616) (a.natAbs*d.natAbs % 18446744073709551616) (decide (a<0)) ((-c).natAbs*b.natAbs / 18446744073709551616) ((-c).natAbs*b.natAbs % 18446744073709551616) (decide (-c<0)) W (Nat.mod_lt _ (by omega)) (Nat.mod_lt _ (by omega)));rw [hf1] at HSum;rw [<- hs] at HF;have hn0:s.natAbs<340282366920938463463374607431768211456:=by
    have h1:s.natAbs<=(a*d).natAbs+(c*b).natAbs:=by rw [hs];exact Int.natAbs_sub_le _ _
    have h2:(a*d).natAbs=a.natAbs*d.natAbs:=Int.natAbs_mul _ _;have h3:(c*b).natAbs=(-c).natAbs*b.natAbs:=by rw [Int.natAbs_neg];exact Int.natAbs_mul _ _
    omega
   have hfs:(if s.natAbs / 18446744073709551616=0/\s.natAbs % 18446744073709551616=0 then (0:Int) else if f then -1 else 1)=s.sign:=by
    rcases Int.lt_trichotomy s 0 with h | h | h
    ·rw [if_neg (by omega),Int.sign_eq_neg_one_of_neg h];have:f=true:=by cases f <;> simp only [Rat.sg,if_true,if_false,Bool.false_eq_true] at hf2 <;> first | rfl | omega
     rw [this];rfl
    ·rw [if_pos (by omega),h];rfl
    ·rw [if_neg (by omega),Int.sign_eq_one_of_pos h];have:f=false:=by cases f <;> simp only [Rat.sg,if_true,if_false,Bool.false_eq_true] at hf2 <;> first | rfl | omega
     rw [this];rfl
   rw [<- hfs] at HF;clear hf1 hf2 hxa hxc hs hr hq hc0 hfs hn0;generalize a.natAbs*d.natAbs / 18446744073709551616=xh at *
   generalize a.natAbs*d.natAbs % 18446744073709551616=xl at *
   generalize (-c).natAbs*b.natAbs / 18446744073709551616=yh at *
   generalize (-c).natAbs*b.natAbs % 18446744073709551616=yl at *
   generalize b.natAbs=y at *
   generalize d.natAbs=v at *
   generalize s.natAbs / 18446744073709551616=nh at *
   generalize s.natAbs % 18446744073709551616=nl at *
   go_enter Try.func61,Try.ntmps61;go_wp2_with fail;refine (HRa.out _).mono ?_;rintro e w1 ⟨rfl,m1⟩;have S1:=Hi (S0.out.call m1);obtain ⟨c0,c1,-,-⟩:=(S1.out.at 1 rfl).two;clear m1 S0;go_wp2_with fail;refine (HRc.out _).mono ?_;rintro e w2 ⟨rfl,m2⟩;have S2:=Hi (S1.out.call m2);clear m2 c0 c1 S1;go_wp2_with fail;have A0:=(S2.out.at 0 rfl).every;have C0:=(S2.out.at 1 rfl).every;refine wp_region_mono 15 [0,1,2,3,4,5,6,7,8,9,10,11,12,13] [(14,NewBlk w2.heap.size #[.int .u64 0,.int .u64 0,.bool false] 145)] (by kernel_rfl) (by kernel_rfl) (by simp [NewBlk.stays]) ?_;refine steady_val (v:=?_) rfl (by rfl) ?_ (fun K hK=>?_);rotate_left
   ·intro w' hw';go_simp;(try with_reducible rfl)
   go_simp;refine hK _ ?_;clear hK K;refine steady_val (v:=?_) rfl (by rfl) ?_ (fun K hK=>?_);rotate_left
   ·intro w' hw';go_simp;(try with_reducible rfl)
   go_simp;refine hK _ ?_;clear hK K;refine steady_val (v:=?_) rfl (by rfl) ?_ (fun K hK=>?_);rotate_left
   ·intro w' hw';go_simp;(try with_reducible rfl)
   go_simp;refine hK _ ?_;clear hK K;refine steady_val (v:=?_) rfl (by rfl) ?_ (fun K hK=>?_);rotate_left
   ·intro w' hw';go_simp;(try with_reducible rfl)
   go_simp;refine hK _ ?_;clear hK K;refine steady_val (v:=?_) rfl (by rfl) ?_ (fun K hK=>?_);rotate_left
   ·intro w' hw';go_simp;(try with_reducible rfl)
   go_simp;refine hK _ ?_;clear hK K;refine steady_call (calls_mod HT1.out) rfl (by rfl) ?_ (fun K hK=>?_)
   ·intro w' hw';go_simp
   go_simp;refine hK _ ?_;clear hK K;refine steady_val (v:=?_) rfl (by rfl) ?_ (fun K hK=>?_);rotate_left
   ·intro w' hw';go_simp;(try with_reducible rfl)
   go_simp;refine hK _ ?_;clear hK K;refine steady_val (v:=?_) rfl (by rfl) ?_ (fun K hK=>?_);rotate_left
   ·intro w' hw';go_simp;(try with_reducible rfl)
   go_simp;refine hK _ ?_;clear hK K;refine steady_val (v:=?_) rfl (by rfl) ?_ (fun K hK=>?_);rotate_left
   ·intro w' hw';go_simp;(try with_reducible rfl)
   go_simp;refine hK _ ?_;clear hK K;refine steady_val (v:=?_) rfl (by rfl) ?_ (fun K hK=>?_);rotate_left
   ·intro w' hw';go_simp;(try with_reducible rfl)
   go_simp;refine hK _ ?_;clear hK K;refine steady_val (v:=?_) rfl (by rfl) ?_ (fun K hK=>?_);rotate_left
   ·intro w' hw';go_simp;(try with_reducible rfl)
   go_simp;refine hK _ ?_;clear hK K;refine steady_val (v:=?_) rfl (by rfl) ?_ (fun K hK=>?_);rotate_left
   ·intro w' hw';go_simp;(try with_reducible rfl)
   go_simp;refine hK _ ?_;clear hK K;refine steady_call (calls_mod HT2.out) rfl (by rfl) ?_ (fun K hK=>?_)
   ·intro w' hw';go_simp
   go_simp;refine hK _ ?_;clear hK K;refine steady_call (calls_mod HSum.out) rfl (by rfl) ?_ (fun K hK=>?_)
   ·intro w' hw';go_simp
   go_simp;refine hK _ ?_;clear hK K;refine steady_end ?_;refine lates_one rfl rfl (late_alloc ?_) (fun v w' hw'=>?_)
   ·intro w';go_simp
   rintro ⟨-,b9,rfl,hb9,B9⟩;simp only [List.drop_succ_cons,List.drop_zero];have S5:=Hi (S2.out.new hw' hb9 B9);obtain ⟨s0,s1,s2,z0,z1,z2⟩:=B9.three;clear A0 C0 hw' hb9 B9 S2;go_upto_region 4 with fail
   have S6:Hid (Own w (((w'.setCell ⟨b9,0,none⟩ (.int .u64 nh)).setCell ⟨b9,1,none⟩ (.int .u64 nl)).setCell ⟨b9,2,none⟩ (.bool f))
    [(w.heap.size,#[.int .i64 a,.int .i64 b],64),(w.heap.size+1,#[.int .i64 c,.int .i64 d],64),(b9,#[.int .u64 nh,.int .u64 nl,.bool f],145)]) :=
    ((S5.out.set 2 rfl 0 _).set 2 rfl 1 _).set 2 rfl 2 _
   clear s0 s1 s2 z0 z1 z2 S5;generalize ((w'.setCell ⟨b9,0,none⟩ (.int .u64 nh)).setCell ⟨b9,1,none⟩ (.int .u64 nl)).setCell ⟨b9,2,none⟩ (.bool f)=W6 at *
   obtain ⟨s0,s1,s2,-,-,-⟩:=(S6.out.at 2 rfl).three
   by_cases hz:nh=0/\nl=0
   ·have HF2:Hid (Rat.cmpR a b c d=0):=by rw [HF.out,if_pos hz];exact rfl
    have d1:((nh:Int) == 0)=true:=by simp;omega
    have d2:((nl:Int) == 0)=true:=by simp;omega
    have HE:∀ w,(Op.equalIn 10000 143 (.agg #[.int .u64 nh,.int .u64 nl]) (.agg #[.int .u64 0,.int .u64 0])).run Try.prog w=.ok true w:=fun w=>by rw [eqWide,d1,d2];rfl
    clear hz HF;go_wp2_with fail;go_ret;exact ⟨by rw [HF2.out];rfl,S6.out.mod⟩
   ·have HF2:Hid (Rat.cmpR a b c d=if f then -1 else 1):=by rw [HF.out,if_neg hz];exact rfl
    have d3:(((nh:Int) == 0) && ((nl:Int) == 0))=false:=by simp;omega
    have HE:∀ w,(Op.equalIn 10000 143 (.agg #[.int .u64 nh,.int .u64 nl]) (.agg #[.int .u64 0,.int .u64 0])).run Try.prog w=.ok false w:=fun w=>by rw [eqWide,d3]
    clear hz HF;cases f with
    | true =>
     go_wp2_with fail;go_ret;exact ⟨by rw [HF2.out];rfl,S6.out.mod⟩
    | false =>
     go_wp2_with fail;go_ret;exact ⟨by rw [HF2.out];rfl,S6.out.mod⟩
namespace Rat
def Is (N D n d:Int):Prop:=0<D/\Nat.Coprime N.natAbs D.natAbs/\N*d=n*D
def tell (n d:Int):Int×Int×Bool:=toldR (decide (n<0) != decide (d<0)) (n.natAbs / Nat.gcd n.natAbs d.natAbs) (d.natAbs / Nat.gcd n.natAbs d.natAbs)
theorem makeR_tell (n d:Int):makeR n d=if d=0 then (0,0,false) else tell n d:=rfl
theorem natAbs_sg (m:Bool) (p:Nat):(sg m p).natAbs=p:=by cases m <;> simp [sg]
theorem cross_unique {N D N' D':Int} (hD:0<D) (hD':0<D') (hc:Nat.Coprime N.natAbs D.natAbs) (hc':Nat.Coprime N'.natAbs D'.natAbs) (h:N*D'=N'*D):N=N'/\D=D':=by
 have h1:N.natAbs*D'.natAbs=N'.natAbs*D.natAbs:=by rw [<- Int.natAbs_mul,<- Int.natAbs_mul,h]
 have d1:D.natAbs ∣ D'.natAbs:=hc.symm.dvd_of_dvd_mul_left ⟨N'.natAbs,by rw [h1,Nat.mul_comm]⟩;have d2:D'.natAbs ∣ D.natAbs:=hc'.symm.dvd_of_dvd_mul_left ⟨N.natAbs,by rw [<- h1,Nat.mul_comm]⟩;have h2:D=D':=by have:=Nat.dvd_antisymm d1 d2;omega
 subst h2;exact ⟨Int.eq_of_mul_eq_mul_right (by omega) h,rfl⟩
theorem Is.cross {N D N' D' n d:Int} (h:Is N D n d) (h':Is N' D' n d) (hd:d≠0):N*D'=N'*D:=by
 obtain ⟨_,_,h1⟩:=h;obtain ⟨_,_,h2⟩:=h';refine Int.eq_of_mul_eq_mul_right hd ?_
 grind
theorem Is.unique {N D N' D' n d:Int} (h:Is N D n d) (h':Is N' D' n d) (hd:d≠0):N=N'/\D=D' :=
 cross_unique h.1 h'.1 h.2.1 h'.2.1 (h.cross h' hd)
theorem tell_is (n d:Int) (hd:d≠0) :
  Is (sg (decide (n<0) != decide (d<0)) (n.natAbs / Nat.gcd n.natAbs d.natAbs)) ((d.natAbs / Nat.gcd n.natAbs d.natAbs:Nat):Int) n d:=by
 have hg:0<Nat.gcd n.natAbs d.natAbs:=Nat.gcd_pos_of_pos_right _ (by omega);have hle:Nat.gcd n.natAbs d.natAbs<=d.natAbs:=Nat.gcd_le_right _ (by omega);obtain ⟨p,hp⟩:=Nat.gcd_dvd_left n.natAbs d.natAbs;obtain ⟨q,hq⟩:=Nat.gcd_dvd_right n.natAbs d.natAbs;have hc:=Nat.coprime_div_gcd_div_gcd hg;refine ⟨by have:=Nat.div_pos hle hg;omega,by rw [natAbs_sg];exact hc,?_⟩;generalize Nat.gcd n.natAbs d.natAbs=g at *
 have e1:n.natAbs / g=p:=by rw [hp];exact Nat.mul_div_cancel_left _ hg
 have e2:d.natAbs / g=q:=by rw [hq];exact Nat.mul_div_cancel_left _ hg
 rw [e1,e2]
 by_cases hn:n<0 <;> by_cases hd':d<0
 ·have f1:n=-((g:Int)*p):=by rw [<- Int.natCast_mul,<- hp];omega
  have f2:d=-((g:Int)*q):=by rw [<- Int.natCast_mul,<- hq];omega
  simp only [sg,hn,hd',decide_true,bne_self_eq_false,Bool.false_eq_true,if_false]
  grind
 ·have f1:n=-((g:Int)*p):=by rw [<- Int.natCast_mul,<- hp];omega
  have f2:d=(g:Int)*q:=by rw [<- Int.natCast_mul,<- hq];omega
  simp only [sg,hn,hd',decide_true,decide_false,Bool.true_bne,Bool.not_false,if_true]
  grind
 ·have f1:n=(g:Int)*p:=by rw [<- Int.natCast_mul,<- hp];omega
  have f2:d=-((g:Int)*q):=by rw [<- Int.natCast_mul,<- hq];omega
  simp only [sg,hn,hd',decide_true,decide_false,Bool.false_bne,if_true]
  grind
 ·have f1:n=(g:Int)*p:=by rw [<- Int.natCast_mul,<- hp];omega
  have f2:d=(g:Int)*q:=by rw [<- Int.natCast_mul,<- hq];omega
  simp only [sg,hn,hd',decide_false,bne_self_eq_false,Bool.false_eq_true,if_false]
  grind
theorem toldR_tell {m:Bool} {p q:Nat} {n d:Int} (h:Is (sg m p) (q:Int) n d) (hd:d≠0):toldR m p q=tell n d:=by
 have h':=tell_is n d hd;obtain ⟨e1,e2⟩:=h.unique h' hd;have e3:p=n.natAbs / Nat.gcd n.natAbs d.natAbs:=by have:=congrArg Int.natAbs e1;rwa [natAbs_sg,natAbs_sg] at this
 have e4:q=d.natAbs / Nat.gcd n.natAbs d.natAbs:=by omega
 unfold tell;rw [toldR_sg,toldR_sg,<- e1,<- e3,<- e4]
theorem tell_if {N D n d:Int} (h:Is N D n d) (hd:d≠0):tell n d=if N.natAbs<=9223372036854775807/\D.natAbs<=9223372036854775807 then (N,D,true) else (0,0,false):=by
 obtain ⟨e1,e2⟩:=h.unique (tell_is n d hd) hd;unfold tell;rw [toldR_sg,<- e1,<- e2];have e3:n.natAbs / Nat.gcd n.natAbs d.natAbs=N.natAbs:=by rw [e1,natAbs_sg]
 have e4:d.natAbs / Nat.gcd n.natAbs d.natAbs=D.natAbs:=by rw [e2];exact (Int.natAbs_natCast _).symm
 rw [e3,e4]
theorem rightB_iff (N D:Int):rightB N D=true↔0<D/\N≠-9223372036854775808/\Nat.Coprime N.natAbs D.natAbs:=by
 unfold rightB;rw [decide_eq_true_eq]
theorem tell_told {n d N D:Int} (hd:d≠0) (h:tell n d=(N,D,true)):rightB N D=true/\N*d=n*D/\0<D/\N.natAbs<=9223372036854775807/\D<=9223372036854775807:=by
 have hi:=tell_is n d hd;rw [tell_if hi hd] at h
 split at h
 ·rename_i hb;simp only [Prod.mk.injEq,and_true] at h;rw [h.1,h.2] at hi hb;exact ⟨(rightB_iff _ _).2 ⟨hi.1,by omega,hi.2.1⟩,hi.2.2,hi.1,hb.1,by have:=hi.1;omega⟩
 ·simp at h
theorem tell_of {n d N D:Int} (hd:d≠0) (hr:rightB N D=true) (h:N*d=n*D) (hN:N.natAbs<=9223372036854775807) (hD:D<=9223372036854775807):tell n d=(N,D,true):=by
 obtain ⟨h1,h2,h3⟩:=(rightB_iff _ _).1 hr;rw [tell_if ⟨h1,h3,h⟩ hd,if_pos ⟨hN,by omega⟩]
theorem tell_some {n d:Int} (hn:n.natAbs<=9223372036854775807) (hd:d.natAbs<=9223372036854775807):(tell n d).2.2=true:=by
 unfold tell;rw [toldR_sg,if_pos ⟨Nat.le_trans (Nat.div_le_self _ _) hn,Nat.le_trans (Nat.div_le_self _ _) hd⟩]
theorem tell_le {n d:Int}:(tell n d).1.natAbs<=n.natAbs/\(tell n d).2.1.natAbs<=d.natAbs:=by
 unfold tell;rw [toldR_sg]
 split
 ·simp only [natAbs_sg,Int.natAbs_natCast];exact ⟨Nat.div_le_self _ _,Nat.div_le_self _ _⟩
 ·simp
theorem cop_sum {k a c b d:Nat} {S:Int} {x y:Int} (hx:x.natAbs=a*d) (hy:y.natAbs=c*b) (hS:S=x+y) (hk:k ∣ S.natAbs) (hkb:k ∣ b) (ha:Nat.Coprime k a) (hd:Nat.Coprime k d):k=1:=by
 have h1:(k:Int) ∣ S:=Int.ofNat_dvd_left.2 hk;have h2:(k:Int) ∣ y:=Int.ofNat_dvd_left.2 (by rw [hy];exact Nat.dvd_trans hkb ⟨c,Nat.mul_comm _ _⟩);have h3:(k:Int) ∣ x:=by
  have:=Int.dvd_sub h1 h2;rwa [hS,Int.add_sub_cancel] at this
 have h4:k ∣ a*d:=by rw [<- hx];exact Int.ofNat_dvd_left.1 h3
 exact (ha.mul_right hd).eq_one_of_dvd h4
theorem addR_tell {a b c d:Int} (h:rightB a b=true) (h':rightB c d=true):addR a b c d=tell (a*d+c*b) (b*d):=by
 obtain ⟨hb,_,hab⟩:=(rightB_iff _ _).1 h;obtain ⟨hd,_,hcd⟩:=(rightB_iff _ _).1 h';have hbd:b*d≠0:=by have:=Int.mul_pos hb hd;omega
 have hg:0<Nat.gcd b.natAbs d.natAbs:=Nat.gcd_pos_of_pos_right _ (by omega);have cg:=Nat.coprime_div_gcd_div_gcd hg;obtain ⟨b',hb'⟩:=Nat.gcd_dvd_left b.natAbs d.natAbs;obtain ⟨d',hd'⟩:=Nat.gcd_dvd_right b.natAbs d.natAbs;have hS:addS a b c d=a*((d.natAbs / Nat.gcd b.natAbs d.natAbs:Nat):Int)+c*((b.natAbs / Nat.gcd b.natAbs d.natAbs:Nat):Int):=rfl;have hG:addG a b c d=Nat.gcd (addS a b c d).natAbs (Nat.gcd b.natAbs d.natAbs):=by
  unfold addG;rw [<- Nat.gcd_rec,Nat.gcd_comm]
 have hR:addR a b c d=if (addS a b c d).natAbs / 18446744073709551616<addG a b c d then toldR (decide (addS a b c d<0)) ((addS a b c d).natAbs / addG a b c d) (b.natAbs / Nat.gcd b.natAbs d.natAbs*(d.natAbs / addG a b c d)) else (0,0,false):=by
  unfold addR;simp only [h,h',true_and]
 rw [hR];clear hR;generalize addG a b c d=sh at *
 generalize addS a b c d=S at *
 generalize Nat.gcd b.natAbs d.natAbs=g at *
 have eb:b.natAbs / g=b':=by rw [hb'];exact Nat.mul_div_cancel_left _ hg
 have ed:d.natAbs / g=d':=by rw [hd'];exact Nat.mul_div_cancel_left _ hg
 rw [eb,ed] at hS cg;rw [eb];have hs0:0<sh:=by rw [hG];exact Nat.gcd_pos_of_pos_right _ hg
 have csg:Nat.Coprime (S.natAbs / sh) (g / sh):=by rw [hG];exact Nat.coprime_div_gcd_div_gcd (by rw [<- hG];exact hs0)
 obtain ⟨s',hs'⟩:sh ∣ S.natAbs:=by rw [hG];exact Nat.gcd_dvd_left _ _
 obtain ⟨g',hg'⟩:sh ∣ g:=by rw [hG];exact Nat.gcd_dvd_right _ _
 have es:S.natAbs / sh=s':=by rw [hs'];exact Nat.mul_div_cancel_left _ hs0
 have eg:g / sh=g':=by rw [hg'];exact Nat.mul_div_cancel_left _ hs0
 have ed2:d.natAbs / sh=g'*d':=by rw [hd',hg',Nat.mul_assoc];exact Nat.mul_div_cancel_left _ hs0
 rw [es,eg] at csg;rw [es,ed2];have hxa:(a*(d':Int)).natAbs=a.natAbs*d':=by rw [Int.natAbs_mul,Int.natAbs_natCast]
 have hxc:(c*(b':Int)).natAbs=c.natAbs*b':=by rw [Int.natAbs_mul,Int.natAbs_natCast]
 have hb0:b=(g:Int)*b':=by rw [<- Int.natCast_mul,<- hb'];omega
 have hd0:d=(g:Int)*d':=by rw [<- Int.natCast_mul,<- hd'];omega
 have hb1:0<b':=by rcases Nat.eq_zero_or_pos b' with h0 | h0;(rw [h0] at hb0;simp at hb0;omega);exact h0
 have hd1:0<d':=by rcases Nat.eq_zero_or_pos d' with h0 | h0;(rw [h0] at hd0;simp at hd0;omega);exact h0
 have hg1:0<g':=by rcases Nat.eq_zero_or_pos g' with h0 | h0;(rw [h0] at hg';omega);exact h0
 have hbb:b' ∣ b.natAbs:=⟨g,by rw [hb',Nat.mul_comm]⟩
 have hdd:d' ∣ d.natAbs:=⟨g,by rw [hd',Nat.mul_comm]⟩
 have csb:Nat.Coprime s' b':=by
  refine cop_sum (k:=Nat.gcd s' b') hxa hxc hS ?_ (Nat.gcd_dvd_right _ _) ?_ ?_
  ·exact Nat.dvd_trans (Nat.gcd_dvd_left _ _) ⟨sh,by rw [hs',Nat.mul_comm]⟩
  ·exact (hab.coprime_dvd_right (Nat.dvd_trans (Nat.gcd_dvd_right s' b') hbb)).symm
  ·exact cg.coprime_dvd_left (Nat.gcd_dvd_right _ _)
 have csd:Nat.Coprime s' d':=by
  refine cop_sum (k:=Nat.gcd s' d') (S:=S) hxc hxa (by rw [hS,Int.add_comm]) ?_ (Nat.gcd_dvd_right _ _) ?_ ?_
  ·exact Nat.dvd_trans (Nat.gcd_dvd_left _ _) ⟨sh,by rw [hs',Nat.mul_comm]⟩
  ·exact (hcd.coprime_dvd_right (Nat.dvd_trans (Nat.gcd_dvd_right s' d') hdd)).symm
  ·exact cg.symm.coprime_dvd_left (Nat.gcd_dvd_right _ _)
 have hI:Is (sg (decide (S<0)) s') ((b'*(g'*d'):Nat):Int) (a*d+c*b) (b*d):=by
  refine ⟨by have:=Nat.mul_pos hb1 (Nat.mul_pos hg1 hd1);omega,?_,?_⟩
  ·rw [natAbs_sg,Int.natAbs_natCast];exact csb.mul_right (csg.mul_right csd)
  ·have hs2:S=(sh:Int)*sg (decide (S<0)) s':=by
    by_cases hneg:S<0
    ·simp only [hneg,decide_true,sg,if_true];have:(S.natAbs:Int)=sh*s':=by rw [hs',Int.natCast_mul]
     grind
    ·simp only [hneg,decide_false,sg,Bool.false_eq_true,if_false];have:(S.natAbs:Int)=sh*s':=by rw [hs',Int.natCast_mul]
     grind
   have hg2:(g:Int)=sh*g':=by rw [hg',Int.natCast_mul]
   generalize sg (decide (S<0)) s'=t at *
   simp only [Int.natCast_mul];rw [hb0,hd0,hg2];have:a*(d':Int)+c*b'=sh*t:=by rw [<- hS];exact hs2
   grind
 split
 ·exact toldR_tell hI hbd
 ·rename_i hge;rw [tell_if hI hbd,if_neg];rw [natAbs_sg];have h1:sh<=S.natAbs / 18446744073709551616:=by omega
  have h2:sh*18446744073709551616<=S.natAbs:=by rw [Nat.le_div_iff_mul_le (by omega)] at h1;exact h1
  have h3:18446744073709551616<=s':=by rw [hs'] at h2;exact Nat.le_of_mul_le_mul_left h2 hs0
  omega
end Rat
end Go.Proofs.Ytlkkhkbafahchaa

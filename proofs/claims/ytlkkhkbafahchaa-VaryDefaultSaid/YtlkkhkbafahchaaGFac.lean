/- VaryLeaf, VaryAlong, VaryUnder, VaryGrown, VaryFactor, VaryNormal0, VaryNormal1, VaryUnder2, VaryFactor2, VarySpot, VaryGrown2. -/
import Derived.Test.YtlkkhkbafahchaaGBase
import Derived.Test.YtlkkhkbafahchaaGRing
import Derived.IntWalk
import Derived.WalkLawsBesides
import Derived.Deep.DeepCutAuto
import Derived.Test.YtlkkhkbafahchaaGRat
import Derived.Defers
import Derived.Recover
import Derived.Deep.LoopGhost
set_option linter.all false
namespace Go.Proofs.Ytlkkhkbafahchaa
open Go.RowKit
theorem must_ok (a b:Int) (w:World):Calls Try.prog 30 #[.agg #[.int .i64 a,.int .i64 b],.bool true] w fun e w'=>e=.returned (.agg #[.int .i64 a,.int .i64 b])/\Mod [] w w':=by
 have T:=Hi (own2 w #[.int .i64 a,.int .i64 b] 64 #[.int .i64 a,.int .i64 b] 64);have HM:=Hi T.out.mod;obtain ⟨r0,r1,-,-⟩:=(T.out.at 1 rfl).two;go_enter Try.func30,Try.ntmps30;go_wp2_with fail;exact bodyPost_ret (v:=.agg #[.int .i64 a,.int .i64 b]) (by simp [results,Try.results30,go_sem]) rfl ⟨rfl,HM.out⟩
theorem must_no (a b:Int) (w:World):Calls Try.prog 30 #[.agg #[.int .i64 a,.int .i64 b],.bool false] w fun e w'=>e=.panicked [{ v:=.iface 40 (.int .i64 3),recovered:=false }]/\Mod [] w w':=by
 have T:=Hi (own2 w #[.int .i64 a,.int .i64 b] 64 #[.int .i64 0,.int .i64 0] 64);have HM:=Hi T.out.mod;go_enter Try.func30,Try.ntmps30;go_wp2_with fail;exact ⟨rfl,rfl,HM.out⟩
theorem wholeV_any (n:Int) (w:World):Calls Try.prog 32 #[.int .i64 n] w fun e w'=>e=.returned (.agg #[.int .i64 n,.int .i64 1])/\Mod [] w w':=by
 have HM:=Hi (own1 w #[.int .i64 n,.int .i64 1] 64).mod;go_enter Try.func32,Try.ntmps32;go_wp2_with fail;exact bodyPost_ret (v:=.agg #[.int .i64 n,.int .i64 1]) (by simp [results,Try.results32,go_sem]) rfl ⟨rfl,HM.out⟩
def Vr.movedR (n by' least:Int):Option Int:=if least<=n+by'/\n+by'<=16384 then some (n+by') else none
set_option maxHeartbeats 1000000 in
theorem moved_yes (n b l:Int) (w:World) (hn:-9223372036854775808<=n/\n<=9223372036854775807) (hb:-9223372036854775808<=b/\b<=9223372036854775807) (hl:-16384<=l) (h:l<=n+b/\n+b<=16384) :
  Calls Try.prog 39 #[.int .i64 n,.int .i64 b,.int .i64 l] w fun e w'=>e=.returned (.int .i64 (n+b))/\w=w':=by
 obtain ⟨s,hs⟩:∃ s,s=n+b:=⟨_,rfl⟩
 have e1:IntKind.i64.wrap (n+b)=s:=by rw [hs];exact IntWalk.i64_in _ (by omega)
 have k1:(decide (0<=b) == decide (n<=s))=true:=by
  rw [beq_iff_eq,Bool.eq_iff_iff,decide_eq_true_eq,decide_eq_true_eq];omega
 have k2:decide (s<l)=false:=decide_eq_false (by omega);have k3:decide (16384<s)=false:=decide_eq_false (by omega);rw [<- hs];clear hn hb hl h hs;go_enter Try.func39,Try.ntmps39;go_wp2_with fail;go_ret;exact ⟨rfl,rfl⟩
set_option maxHeartbeats 1000000 in
theorem moved_no (n b l:Int) (w:World) (hn:-9223372036854775808<=n/\n<=9223372036854775807) (hb:-9223372036854775808<=b/\b<=9223372036854775807) (hl:-16384<=l) (h:¬ (l<=n+b/\n+b<=16384)) :
  Calls Try.prog 39 #[.int .i64 n,.int .i64 b,.int .i64 l] w fun e w'=>e=.panicked [{ v:=.iface 40 (.int .i64 3),recovered:=false }]/\w=w':=by
 obtain ⟨s,hs⟩:∃ s,s=IntKind.i64.wrap (n+b):=⟨_,rfl⟩
 have e1:IntKind.i64.wrap (n+b)=s:=hs.symm
 by_cases hr:-9223372036854775808<=n+b/\n+b<=9223372036854775807
 ·have e2:s=n+b:=by rw [hs];exact IntWalk.i64_in _ hr
  have k1:(decide (0<=b) == decide (n<=s))=true:=by
   rw [beq_iff_eq,Bool.eq_iff_iff,decide_eq_true_eq,decide_eq_true_eq];omega
  by_cases h2:s<l
  ·have k2:decide (s<l)=true:=decide_eq_true h2;clear hn hb hl h hs h2 e2 hr;go_enter Try.func39,Try.ntmps39;go_wp2_with fail;exact ⟨rfl,rfl,rfl⟩
  ·have k2:decide (s<l)=false:=decide_eq_false h2;have k3:decide (16384<s)=true:=decide_eq_true (by omega);clear hn hb hl h hs h2 e2 hr;go_enter Try.func39,Try.ntmps39;go_wp2_with fail;exact ⟨rfl,rfl,rfl⟩
 ·have k1:(decide (0<=b) == decide (n<=s))=false:=by
   rw [beq_eq_false_iff_ne];intro h1;rw [Bool.eq_iff_iff,decide_eq_true_eq,decide_eq_true_eq] at h1;rw [IntKind.wrap_i64] at hs;omega
  clear hn hb hl h hs hr;go_enter Try.func39,Try.ntmps39;go_wp2_with fail;exact ⟨rfl,rfl,rfl⟩
def Vr.alongR (v l d m:Int):Int×Int:=if v<d then ((Rat.tell (v - d) (d - l)).1,(Rat.tell (v - d) (d - l)).2.1) else if d<v then ((Rat.tell (v - d) (m - d)).1,(Rat.tell (v - d) (m - d)).2.1) else (0,1)
def Vr.onAxis (v l d m:Int):Prop:=-16384<=l/\l<=d/\d<=m/\m<=16384/\l<=v/\v<=m
theorem made_some {n d:Int} (hd:d≠0) (h1:n.natAbs<=9223372036854775807) (h2:d.natAbs<=9223372036854775807):Rat.makeR n d=((Rat.tell n d).1,(Rat.tell n d).2.1,true):=by
 rw [Rat.makeR_tell,if_neg hd];have:=Rat.tell_some h1 h2;obtain ⟨⟨a,b,c⟩,he⟩:∃ r,Rat.tell n d=r:=⟨_,rfl⟩
 rw [he] at this ⊢;simp only at this;subst this;rfl
theorem axisBlk {w:World} {b:Nat} {x y z u:Value} {t:TypeId} (h:Blk w b #[x,y,z,u] t):w.cell? ⟨b,1,none⟩=some y/\w.cell? ⟨b,2,none⟩=some z/\w.cell? ⟨b,3,none⟩=some u:=⟨by rw [h.cell];rfl,by rw [h.cell];rfl,by rw [h.cell];rfl⟩
set_option maxHeartbeats 2000000 in
theorem along_yes (s:ByteArray) (v l d m:Int) (w:World) (h:Vr.onAxis v l d m) :
  Calls Try.prog 28 #[.agg #[.string s,.int .i64 l,.int .i64 d,.int .i64 m],.int .i64 v] w fun e w'=>e=.returned (.agg #[.int .i64 (Vr.alongR v l d m).1,.int .i64 (Vr.alongR v l d m).2])/\Mod [] w w':=by
 obtain ⟨h1,h2,h3,h4,h5,h6⟩:=h;have T:=Hi (own2 w #[.string s,.int .i64 l,.int .i64 d,.int .i64 m] 56 #[.int .i64 0,.int .i64 0] 64);obtain ⟨p1,p2,p3⟩:=axisBlk (T.out.at 0 rfl);have k1:decide (l < -16384)=false:=decide_eq_false (by omega);have k2:decide (d<l)=false:=decide_eq_false (by omega);have k3:decide (m<d)=false:=decide_eq_false (by omega);have k4:decide (16384<m)=false:=decide_eq_false (by omega);have k5:decide (v<l)=false:=decide_eq_false (by omega);have k6:decide (m<v)=false:=decide_eq_false (by omega)
 by_cases hlt:v<d
 ·have k7:decide (v<d)=true:=decide_eq_true hlt;have hv:Vr.alongR v l d m=((Rat.tell (v - d) (d - l)).1,(Rat.tell (v - d) (d - l)).2.1):=by unfold Vr.alongR;rw [if_pos hlt]
  rw [hv];have HMk:=Hi (fun W=>make_any (v - d) (d - l) W (by omega) (by omega));rw [made_some (by omega) (by omega) (by omega)] at HMk;have e1:IntKind.i64.wrap (v - d)=v - d:=IntWalk.i64_in _ (by omega);have e2:IntKind.i64.wrap (d - l)=d - l:=IntWalk.i64_in _ (by omega);obtain ⟨x,hx⟩:∃ x,x=v - d:=⟨_,rfl⟩
  obtain ⟨y,hy⟩:∃ y,y=d - l:=⟨_,rfl⟩
  rw [<- hx,<- hy] at HMk ⊢;rw [<- hx] at e1;rw [<- hy] at e2;generalize (Rat.tell x y).1=ra at *
  generalize (Rat.tell x y).2.1=rb at *
  rw [hx] at e1;rw [hy] at e2;have e1':IntKind.i64.wrap (v - d)=x:=by rw [hx];exact e1
  have e2':IntKind.i64.wrap (d - l)=y:=by rw [hy];exact e2
  clear hv h1 h2 h3 h4 h5 h6 e1 e2 hx hy hlt;go_enter Try.func28,Try.ntmps28;go_wp2_with fail;refine (HMk.out _).mono ?_;rintro e w1 ⟨rfl,m1⟩;have T1:=Hi (T.out.call m1);clear m1 HMk T p1 p2 p3;go_wp2_with fail;refine (must_ok _ _ _).mono ?_;rintro e w2 ⟨rfl,m2⟩;have T2:=Hi (T1.out.call m2);clear m2 T1;obtain ⟨q0,q1,z0,z1⟩:=(T2.out.at 1 rfl).two;go_wp2_with fail;obtain ⟨r0,r1,M⟩:=told_end T2.out 1 rfl (.int .i64 ra) (.int .i64 rb);have HM:=Hi M;clear M z0 z1 q0 q1;generalize (w2.setCell ⟨w.heap.size+1,0,none⟩ (.int .i64 ra)).setCell ⟨w.heap.size+1,1,none⟩ (.int .i64 rb)=W3 at *
  exact bodyPost_ret (v:=.agg #[.int .i64 ra,.int .i64 rb]) (by simp [results,Try.results28,go_sem,r0,r1]) rfl ⟨rfl,HM.out⟩
 ·have k7:decide (v<d)=false:=decide_eq_false hlt
  by_cases hgt:d<v
  ·have k8:decide (d<v)=true:=decide_eq_true hgt;have hv:Vr.alongR v l d m=((Rat.tell (v - d) (m - d)).1,(Rat.tell (v - d) (m - d)).2.1):=by unfold Vr.alongR;rw [if_neg hlt,if_pos hgt]
   rw [hv];have HMk:=Hi (fun W=>make_any (v - d) (m - d) W (by omega) (by omega));rw [made_some (by omega) (by omega) (by omega)] at HMk;have e1:IntKind.i64.wrap (v - d)=v - d:=IntWalk.i64_in _ (by omega);have e2:IntKind.i64.wrap (m - d)=m - d:=IntWalk.i64_in _ (by omega);obtain ⟨x,hx⟩:∃ x,x=v - d:=⟨_,rfl⟩
   obtain ⟨y,hy⟩:∃ y,y=m - d:=⟨_,rfl⟩
   rw [<- hx,<- hy] at HMk ⊢;rw [<- hx] at e1;rw [<- hy] at e2;generalize (Rat.tell x y).1=ra at *
   generalize (Rat.tell x y).2.1=rb at *
   rw [hx] at e1;rw [hy] at e2;have e1':IntKind.i64.wrap (v - d)=x:=by rw [hx];exact e1
   have e2':IntKind.i64.wrap (m - d)=y:=by rw [hy];exact e2
   clear hv h1 h2 h3 h4 h5 h6 e1 e2 hx hy hlt hgt;go_enter Try.func28,Try.ntmps28;go_wp2_with fail;refine (HMk.out _).mono ?_;rintro e w1 ⟨rfl,m1⟩;have T1:=Hi (T.out.call m1);clear m1 HMk T p1 p2 p3;go_wp2_with fail;refine (must_ok _ _ _).mono ?_;rintro e w2 ⟨rfl,m2⟩;have T2:=Hi (T1.out.call m2);clear m2 T1;obtain ⟨q0,q1,z0,z1⟩:=(T2.out.at 1 rfl).two;go_wp2_with fail;obtain ⟨r0,r1,M⟩:=told_end T2.out 1 rfl (.int .i64 ra) (.int .i64 rb);have HM:=Hi M;clear M z0 z1 q0 q1;generalize (w2.setCell ⟨w.heap.size+1,0,none⟩ (.int .i64 ra)).setCell ⟨w.heap.size+1,1,none⟩ (.int .i64 rb)=W3 at *
   exact bodyPost_ret (v:=.agg #[.int .i64 ra,.int .i64 rb]) (by simp [results,Try.results28,go_sem,r0,r1]) rfl ⟨rfl,HM.out⟩
  ·have k8:decide (d<v)=false:=decide_eq_false hgt;have hv:Vr.alongR v l d m=(0,1):=by unfold Vr.alongR;rw [if_neg hlt,if_neg hgt]
   rw [hv];clear hv h1 h2 h3 h4 h5 h6 hlt hgt;go_enter Try.func28,Try.ntmps28;go_wp2_with fail;refine (wholeV_any _ _).mono ?_;rintro e w2 ⟨rfl,m2⟩;have T2:=Hi (T.out.call m2);clear m2 T p1 p2 p3;obtain ⟨q0,q1,z0,z1⟩:=(T2.out.at 1 rfl).two;go_wp2_with fail;obtain ⟨r0,r1,M⟩:=told_end T2.out 1 rfl (.int .i64 0) (.int .i64 1);have HM:=Hi M;clear M z0 z1 q0 q1;generalize (w2.setCell ⟨w.heap.size+1,0,none⟩ (.int .i64 0)).setCell ⟨w.heap.size+1,1,none⟩ (.int .i64 1)=W3 at *
   exact bodyPost_ret (v:=.agg #[.int .i64 0,.int .i64 1]) (by simp [results,Try.results28,go_sem,r0,r1]) rfl ⟨rfl,HM.out⟩
set_option maxHeartbeats 2000000 in
theorem along_no (s:ByteArray) (v l d m:Int) (w:World) (h:¬ Vr.onAxis v l d m) :
  Calls Try.prog 28 #[.agg #[.string s,.int .i64 l,.int .i64 d,.int .i64 m],.int .i64 v] w fun e w'=>e=.panicked [{ v:=.iface 40 (.int .i64 60),recovered:=false }]/\Mod [] w w':=by
 have T:=Hi (own2 w #[.string s,.int .i64 l,.int .i64 d,.int .i64 m] 56 #[.int .i64 0,.int .i64 0] 64);obtain ⟨p1,p2,p3⟩:=axisBlk (T.out.at 0 rfl);have HM:=Hi T.out.mod;unfold Vr.onAxis at h
 by_cases h0:l < -16384
 ·have k0:decide (l < -16384)=true:=decide_eq_true h0;clear h T h0;go_enter Try.func28,Try.ntmps28;go_wp2_with fail;exact ⟨rfl,rfl,HM.out⟩
 have k0:decide (l < -16384)=false:=decide_eq_false h0
 by_cases h1:d<l
 ·have k1:decide (d<l)=true:=decide_eq_true h1;clear h T h0 h1;go_enter Try.func28,Try.ntmps28;go_wp2_with fail;exact ⟨rfl,rfl,HM.out⟩
 have k1:decide (d<l)=false:=decide_eq_false h1
 by_cases h2:m<d
 ·have k2:decide (m<d)=true:=decide_eq_true h2;clear h T h0 h1 h2;go_enter Try.func28,Try.ntmps28;go_wp2_with fail;exact ⟨rfl,rfl,HM.out⟩
 have k2:decide (m<d)=false:=decide_eq_false h2
 by_cases h3:16384<m
 ·have k3:decide (16384<m)=true:=decide_eq_true h3;clear h T h0 h1 h2 h3;go_enter Try.func28,Try.ntmps28;go_wp2_with fail;exact ⟨rfl,rfl,HM.out⟩
 have k3:decide (16384<m)=false:=decide_eq_false h3
 by_cases h4:v<l
 ·have k4:decide (v<l)=true:=decide_eq_true h4;clear h T h0 h1 h2 h3 h4;go_enter Try.func28,Try.ntmps28;go_wp2_with fail;exact ⟨rfl,rfl,HM.out⟩
 have k4:decide (v<l)=false:=decide_eq_false h4
 by_cases h5:m<v
 ·have k5:decide (m<v)=true:=decide_eq_true h5;clear h T h0 h1 h2 h3 h4 h5;go_enter Try.func28,Try.ntmps28;go_wp2_with fail;exact ⟨rfl,rfl,HM.out⟩
 have k5:decide (m<v)=false:=decide_eq_false h5;exact absurd ⟨by omega,by omega,by omega,by omega,by omega,by omega⟩ h
theorem tentBlk {w:World} {b:Nat} {x y z:Value} {t:TypeId} (h:Blk w b #[x,y,z] t):w.cell? ⟨b,0,none⟩=some x/\w.cell? ⟨b,1,none⟩=some y/\w.cell? ⟨b,2,none⟩=some z:=⟨by rw [h.cell];rfl,by rw [h.cell];rfl,by rw [h.cell];rfl⟩
def Vr.by64 (n:Int):Int×Int:=((Rat.tell n 64).1,(Rat.tell n 64).2.1)
theorem by64_make (n:Int) (h:-9223372036854775807<=n/\n<=9223372036854775807):Rat.makeR n 64=((Vr.by64 n).1,(Vr.by64 n).2,true):=made_some (by omega) (by omega) (by omega)
theorem by64_in (n:Int) (h:-9223372036854775807<=n/\n<=9223372036854775807):(-9223372036854775807<=(Vr.by64 n).1/\(Vr.by64 n).1<=9223372036854775807)/\(-9223372036854775807<=(Vr.by64 n).2/\(Vr.by64 n).2<=9223372036854775807):=by
 have:=Rat.tell_le (n:=n) (d:=64);unfold Vr.by64;simp only;omega
def Vr.quot (a b:Int×Int×Bool):Option (Int×Int) :=
 if a.2.2=true/\b.2.2=true/\(Rat.divR a.1 a.2.1 b.1 b.2.1).2.2=true then some ((Rat.divR a.1 a.2.1 b.1 b.2.1).1,(Rat.divR a.1 a.2.1 b.1 b.2.1).2.1) else none
def Vr.underR (s p e n d:Int):Option (Int×Int) :=
 if p=0∨Rat.cmpR n d (Vr.by64 p).1 (Vr.by64 p).2=0 then some (1,1)
 else if Rat.cmpR n d (Vr.by64 s).1 (Vr.by64 s).2<=0∨0<=Rat.cmpR n d (Vr.by64 e).1 (Vr.by64 e).2 then some (0,1)
 else if Rat.cmpR n d (Vr.by64 p).1 (Vr.by64 p).2<0 then Vr.quot (Rat.subR n d (Vr.by64 s).1 (Vr.by64 s).2) (Rat.subR (Vr.by64 p).1 (Vr.by64 p).2 (Vr.by64 s).1 (Vr.by64 s).2)
 else Vr.quot (Rat.subR (Vr.by64 e).1 (Vr.by64 e).2 n d) (Rat.subR (Vr.by64 e).1 (Vr.by64 e).2 (Vr.by64 p).1 (Vr.by64 p).2)
theorem subR_in (a b c d:Int):(-9223372036854775807<=(Rat.subR a b c d).1/\(Rat.subR a b c d).1<=9223372036854775807)/\(-9223372036854775807<=(Rat.subR a b c d).2.1/\(Rat.subR a b c d).2.1<=9223372036854775807):=by
 have key:∀ m n d,(-9223372036854775807<=(Rat.toldR m n d).1/\(Rat.toldR m n d).1<=9223372036854775807)/\(-9223372036854775807<=(Rat.toldR m n d).2.1/\(Rat.toldR m n d).2.1<=9223372036854775807):=fun m n d=>by
  rw [Rat.toldR_sg]
  split
  ·rename_i h;have h1:(Rat.sg m n).natAbs=n:=Rat.natAbs_sg m n;simp only;omega
  ·simp
 unfold Rat.subR
 split
 ·unfold Rat.addR
  split
  ·exact key _ _ _
  ·simp
 ·simp
theorem make_one (n:Int) (h:-9223372036854775807<=n/\n<=9223372036854775807):Rat.makeR n 1=(n,1,true):=by
 rw [Rat.makeR_tell,if_neg (by omega)];exact Rat.tell_of (by omega) ((Rat.rightB_iff _ _).2 ⟨by omega,by omega,by simp [Nat.Coprime]⟩) rfl (by omega) (by omega)
theorem fac1_idle (p:Addr) (w:World):CallsD Try.prog 29 #[.pointer (some p)] .returning w fun e u' w'=>e=.returned (.tuple #[])/\u'=.returning/\w'=w:=by
 refine callsD_of_wpS Try.func29 rfl fun c₀ cs hu=>?_
 apply wpS_seq;apply wpS_region;simp [wpOpsS,go_sem,recoverD,hu,Try.ntmps29,Exit.thenS];refine wpS_cond (t:=false) (by simp [Act.eval,Array.replicate]) ?_;simp only [Bool.false_eq_true,if_false];refine wpS_of_wp (wp_skip ?_);cases c₀
 simp_all [bodyPostS,results,Try.results29]
theorem fac1_panic (b:Nat) (x y:Value) (u:TypeId) (pv:Value) (older:List PanicEntry) (w:World) (B:Blk w b #[x,y] 64) :
  CallsD Try.prog 29 #[.pointer (some ⟨b,0,none⟩)] (.panicking ({ v:=.iface u pv,recovered:=false }::older)) w fun e u' w' =>
   e=.returned (.tuple #[])/\u'=.panicking ({ v:=.iface u pv,recovered:=true }::older)/\w'=(w.setCell ⟨b,0,none⟩ (.int .i64 0)).setCell ⟨b,1,none⟩ (.int .i64 0):=by
 obtain ⟨c0,c1,z0,z1⟩:=B.two;refine callsD_of_wpS Try.func29 rfl fun c₀ cs hu=>?_
 apply wpS_seq;apply wpS_region;simp [wpOpsS,go_sem,recoverD,hu,Try.ntmps29,Exit.thenS];refine wpS_cond (t:=true) (by simp [Act.eval,Array.replicate]) ?_;simp only [if_true];apply wpS_region;simp [wpOpsS,go_sem,c0,c1,z0,z1,bodyPostS,results,Try.results29]
def TentsAt (w:World) (b o:Nat) (ts:List (Int×Int×Int)):Prop:=b<w.heap.size/\∀ i (h:i<ts.length),w.cell? ⟨b,o+i*3,none⟩=some (.int .i64 ts[i].1)/\w.cell? ⟨b,o+i*3+1,none⟩=some (.int .i64 ts[i].2.1)/\w.cell? ⟨b,o+i*3+2,none⟩=some (.int .i64 ts[i].2.2)
def RatsAt (w:World) (b o:Nat) (xs:List (Int×Int)):Prop:=b<w.heap.size/\∀ i (h:i<xs.length),w.cell? ⟨b,o+i*2,none⟩=some (.int .i64 xs[i].1)/\w.cell? ⟨b,o+i*2+1,none⟩=some (.int .i64 xs[i].2)
theorem TentsAt.mod {w w':World} {b o:Nat} {ts:List (Int×Int×Int)} (h:TentsAt w b o ts) (m:Mod [] w w'):TentsAt w' b o ts :=
 ⟨Nat.lt_of_lt_of_le h.1 m.size,fun i hi=>by
  obtain ⟨h1,h2,h3⟩:=h.2 i hi
  exact ⟨(m.cell (p:=⟨b,o+i*3,none⟩) h.1 (by simp)).trans h1,(m.cell (p:=⟨b,o+i*3+1,none⟩) h.1 (by simp)).trans h2,(m.cell (p:=⟨b,o+i*3+2,none⟩) h.1 (by simp)).trans h3⟩⟩
theorem RatsAt.mod {w w':World} {b o:Nat} {xs:List (Int×Int)} (h:RatsAt w b o xs) (m:Mod [] w w'):RatsAt w' b o xs :=
 ⟨Nat.lt_of_lt_of_le h.1 m.size,fun i hi=>by
  obtain ⟨h1,h2⟩:=h.2 i hi
  exact ⟨(m.cell (p:=⟨b,o+i*2,none⟩) h.1 (by simp)).trans h1,(m.cell (p:=⟨b,o+i*2+1,none⟩) h.1 (by simp)).trans h2⟩⟩
theorem add_zero {a b:Int} (h:Rat.rightB a b=true) (ha:a<=9223372036854775807) (ha':-9223372036854775808<=a) (hb:b<=9223372036854775807):Rat.addR a b 0 1=(a,b,true):=by
 obtain ⟨h1,h2,h3⟩:=(Rat.rightB_iff _ _).1 h;rw [Rat.addR_tell h ((Rat.rightB_iff _ _).2 ⟨by omega,by omega,by simp [Nat.Coprime]⟩)];exact Rat.tell_of (by omega) h (by simp) (by omega) hb
def Vr.prodR:List (Int×Int×Int)->List (Int×Int)->Int×Int->Option (Int×Int)
 | t::ts,x::xs,f=>match Vr.underR t.1 t.2.1 t.2.2 x.1 x.2 with
  | some u=>if (Rat.mulR f.1 f.2 u.1 u.2).2.2=true then Vr.prodR ts xs ((Rat.mulR f.1 f.2 u.1 u.2).1,(Rat.mulR f.1 f.2 u.1 u.2).2.1) else none
  | none=>none
 | _,_,f=>some f
theorem toldR_in (m:Bool) (n d:Nat):(-9223372036854775807<=(Rat.toldR m n d).1/\(Rat.toldR m n d).1<=9223372036854775807)/\(-9223372036854775807<=(Rat.toldR m n d).2.1/\(Rat.toldR m n d).2.1<=9223372036854775807):=by
 rw [Rat.toldR_sg]
 split
 ·rename_i h;have h1:(Rat.sg m n).natAbs=n:=Rat.natAbs_sg m n;simp only;omega
 ·simp
theorem mulR_in (a b c d:Int):(-9223372036854775807<=(Rat.mulR a b c d).1/\(Rat.mulR a b c d).1<=9223372036854775807)/\(-9223372036854775807<=(Rat.mulR a b c d).2.1/\(Rat.mulR a b c d).2.1<=9223372036854775807):=by
 unfold Rat.mulR
 split
 ·exact toldR_in _ _ _
 ·simp
theorem divR_in (a b c d:Int):(-9223372036854775807<=(Rat.divR a b c d).1/\(Rat.divR a b c d).1<=9223372036854775807)/\(-9223372036854775807<=(Rat.divR a b c d).2.1/\(Rat.divR a b c d).2.1<=9223372036854775807):=by
 unfold Rat.divR
 split
 ·split <;> exact mulR_in _ _ _ _
 ·simp
theorem quot_in {a b:Int×Int×Bool} {u:Int×Int} (h:Vr.quot a b=some u):(-9223372036854775807<=u.1/\u.1<=9223372036854775807)/\(-9223372036854775807<=u.2/\u.2<=9223372036854775807):=by
 unfold Vr.quot at h
 split at h
 ·have:=Option.some.inj h;subst this;exact divR_in _ _ _ _
 ·cases h
theorem under_in {s p e n d:Int} {u:Int×Int} (h:Vr.underR s p e n d=some u):(-9223372036854775807<=u.1/\u.1<=9223372036854775807)/\(-9223372036854775807<=u.2/\u.2<=9223372036854775807):=by
 unfold Vr.underR at h
 split at h
 ·have:=Option.some.inj h;subst this;simp
 ·split at h
  ·have:=Option.some.inj h;subst this;simp
  ·split at h <;> exact quot_in h
set_option maxRecDepth 20000 in
theorem reason_any (n:Int) (w:World):Calls Try.prog 27 #[.iface 40 (.int .i64 n)] w fun e w'=>e=.returned (.int .i64 n)/\w=w':=by
 have hta:∀ w:World,(Instr.typeAssert (.iface 40 (.int .i64 n)) 20 40 true).run Try.prog w=.ok (.tuple #[.int .i64 n,.bool true]) w:=fun w=>by kernel_rfl
 go_enter Try.func27,Try.ntmps27;go_wp2_with fail;go_ret;exact ⟨rfl,rfl⟩
theorem nor1_idle (p q:Addr) (w:World):CallsD Try.prog 26 #[.pointer (some p),.pointer (some q)] .returning w fun e u' w'=>e=.returned (.tuple #[])/\u'=.returning/\w'=w:=by
 refine callsD_of_wpS Try.func26 rfl fun c₀ cs hu=>?_
 apply wpS_seq;apply wpS_region;simp [wpOpsS,go_sem,recoverD,hu,Try.ntmps26,Exit.thenS];refine wpS_of_wp ?_;go_wp2_with fail;cases c₀
 simp_all [bodyPostS,results,Try.results26]
theorem nor1_panic (p q:Nat) (x y:Value) (n:Int) (older:List PanicEntry) (w:World) (hpq:p≠q) (B:Blk w p #[x] 58) (C:Blk w q #[y] 40) :
  CallsD Try.prog 26 #[.pointer (some ⟨p,0,none⟩),.pointer (some ⟨q,0,none⟩)] (.panicking ({ v:=.iface 40 (.int .i64 n),recovered:=false }::older)) w fun e u' w' =>
   e=.returned (.tuple #[])/\u'=.panicking ({ v:=.iface 40 (.int .i64 n),recovered:=true }::older)/\w'=(w.setCell ⟨p,0,none⟩ (.slice none 0 0)).setCell ⟨q,0,none⟩ (.int .i64 n):=by
 have b0:=B.cell 0;have b1:=B.frozen 0;have c0:=C.cell 0;have c1:=C.frozen 0;simp at b0 c0;refine callsD_of_wpS Try.func26 rfl fun c₀ cs hu=>?_
 apply wpS_seq;apply wpS_region;simp [wpOpsS,go_sem,recoverD,hu,Try.ntmps26,Exit.thenS];refine wpS_of_wp ?_;go_wp2_with fail;refine (reason_any n _).mono ?_;rintro e w1 ⟨rfl,rfl⟩;go_wp2_with fail;simp [bodyPostS,results,Try.results26]
structure Hd where
 a:Option Addr
 n:Nat
 c:Nat
def Hd.v (h:Hd):Value:=.slice h.a h.n h.c
def fontCells (u:Int) (g c l fe ax rg fu cv:Hd):Array Value:=#[.int .i64 u,.slice g.a g.n g.c,.slice c.a c.n c.c,.slice l.a l.n l.c,.slice fe.a fe.n fe.c,.slice ax.a ax.n ax.c,.slice rg.a rg.n rg.c,.slice fu.a fu.n fu.c,.slice cv.a cv.n cv.c]
set_option maxHeartbeats 2000000 in
theorem normal_arg (u:Int) (g c l fe ax rg fu cv:Hd) (pa:Option Addr) (pn pc:Nat) (w:World) (hne:pn≠ax.n) :
  Calls Try.prog 10 #[.agg (fontCells u g c l fe ax rg fu cv),.slice pa pn pc] w fun e w'=>e=.returned (.tuple #[.slice none 0 0,.int .i64 1])/\Mod [] w w':=by
 have hmf:∀ (fn:Fn) (first cap:Array Value) (w:World),(Instr.makeFunc fn first cap).run Try.prog w=.ok (.func fn first cap) w:=fun _ _ _ _=>rfl
 unfold fontCells;have T:=Hi (own3 w (fontCells u g c l fe ax rg fu cv) 31 #[.slice none 0 0] 58 #[.int .i64 0] 40);have k1:(((pn:Int)) != (ax.n:Int))=true:=by simp;omega
 have k1':((pn:Int) == (ax.n:Int))=false:=by simp;omega
 clear hne;go_enter_defers Try.func10,Try.ntmps10;go_wp2_with fail;have T2:=Hi ((T.out.set 1 rfl 0 (.slice none 0 0)).set 2 rfl 0 (.int .i64 1));have B1:=T.out.at 1 rfl;have B2:=T.out.at 2 rfl;unfold fontCells at T2 B1 B2;clear T;generalize ((w.alloc (.cells #[.int .i64 u,.slice g.a g.n g.c,.slice c.a c.n c.c,.slice l.a l.n l.c,.slice fe.a fe.n fe.c,.slice ax.a ax.n ax.c,.slice rg.a rg.n rg.c,.slice fu.a fu.n fu.c,.slice cv.a cv.n cv.c] 31)).alloc (.cells #[.slice none 0 0] 58)).alloc (.cells #[.int .i64 0] 40)=W0 at *
 refine leaves_cons (f:=26) (args:=#[.pointer (some ⟨w.heap.size+1,0,none⟩),.pointer (some ⟨w.heap.size+1+1,0,none⟩)]) (by simp) (by simp [go_sem]) ?_;refine (nor1_panic (w.heap.size+1) (w.heap.size+1+1) _ _ 1 [] _ (by omega) B1 B2).mono ?_;rintro e u' w'' ⟨rfl,rfl,rfl⟩;have r0:=(T2.out.at 1 rfl).cell 0;have r1:=(T2.out.at 2 rfl).cell 0;have HM:=Hi T2.out.mod;simp at r0 r1;clear T2 B1 B2;generalize (W0.setCell ⟨w.heap.size+1,0,none⟩ (.slice none 0 0)).setCell ⟨w.heap.size+1+1,0,none⟩ (.int .i64 1)=W2 at *
 simp [Leaves,settle,results,Try.results10,go_sem,r0,r1];exact HM.out
theorem by64_make2 (n:Int) (h:-9223372036854775808<=n/\n<=9223372036854775807):Rat.makeR n 64=((Vr.by64 n).1,(Vr.by64 n).2,true):=by
 by_cases h0:n=-9223372036854775808
 ·subst h0;decide +kernel
 ·exact by64_make n (by omega)
theorem by64_in2 (n:Int) (h:-9223372036854775808<=n/\n<=9223372036854775807):(-9223372036854775807<=(Vr.by64 n).1/\(Vr.by64 n).1<=9223372036854775807)/\(-9223372036854775807<=(Vr.by64 n).2/\(Vr.by64 n).2<=9223372036854775807):=by
 by_cases h0:n=-9223372036854775808
 ·subst h0;decide +kernel
 ·exact by64_in n (by omega)
def UnderRes (r:Option (Int×Int)) (w:World) (e:Ending) (w':World):Prop :=
 match r with
 | some r=>e=.returned (.agg #[.int .i64 r.1,.int .i64 r.2])/\Mod [] w w'
 | none=>e=.panicked [{ v:=.iface 40 (.int .i64 3),recovered:=false }]/\Mod [] w w'
set_option maxHeartbeats 16000000 in
theorem under_any (s p e n d:Int) (w:World) (hs:-9223372036854775808<=s/\s<=9223372036854775807) (hp:-9223372036854775808<=p/\p<=9223372036854775807) (he:-9223372036854775808<=e/\e<=9223372036854775807)
  (hn:-9223372036854775808<=n/\n<=9223372036854775807) (hd:-9223372036854775808<=d/\d<=9223372036854775807) :
  Calls Try.prog 34 #[.agg #[.int .i64 s,.int .i64 p,.int .i64 e],.agg #[.int .i64 n,.int .i64 d]] w (UnderRes (Vr.underR s p e n d) w):=by
 obtain ⟨rr,hr⟩:∃ rr,Vr.underR s p e n d=rr:=⟨_,rfl⟩
 rw [hr];have T:=Hi (own3 w #[.int .i64 s,.int .i64 p,.int .i64 e] 38 #[.int .i64 n,.int .i64 d] 64 #[.int .i64 0,.int .i64 0] 64);have is:=by64_in2 s hs;have ip:=by64_in2 p hp;have ie:=by64_in2 e he;have M5:=Hi (fun W=>make_any s 64 W (by omega) (by omega));rw [by64_make2 s hs] at M5;have M6:=Hi (fun W=>make_any p 64 W (by omega) (by omega));rw [by64_make2 p hp] at M6;have M7:=Hi (fun W=>make_any e 64 W (by omega) (by omega));rw [by64_make2 e he] at M7;have C1:=Hi (fun W=>cmp_any n d (Vr.by64 p).1 (Vr.by64 p).2 W hn hd (by omega) (by omega));have C2:=Hi (fun W=>cmp_any n d (Vr.by64 s).1 (Vr.by64 s).2 W hn hd (by omega) (by omega));have C3:=Hi (fun W=>cmp_any n d (Vr.by64 e).1 (Vr.by64 e).2 W hn hd (by omega) (by omega));have S1:=Hi (fun W=>sub_any n d (Vr.by64 s).1 (Vr.by64 s).2 W hn hd (by omega) (by omega));have S2:=Hi (fun W=>sub_any (Vr.by64 p).1 (Vr.by64 p).2 (Vr.by64 s).1 (Vr.by64 s).2 W (by omega) (by omega) (by omega) (by omega));have S3:=Hi (fun W=>sub_any (Vr.by64 e).1 (Vr.by64 e).2 n d W (by omega) (by omega) hn hd);have S4:=Hi (fun W=>sub_any (Vr.by64 e).1 (Vr.by64 e).2 (Vr.by64 p).1 (Vr.by64 p).2 W (by omega) (by omega) (by omega) (by omega));have D1:=Hi (fun W a b c d (ha:-9223372036854775807<=a/\a<=9223372036854775807) (hb:-9223372036854775807<=b/\b<=9223372036854775807) (hc:-9223372036854775807<=c/\c<=9223372036854775807) (hd:-9223372036854775807<=d/\d<=9223372036854775807)=>div_any a b c d W (by omega) (by omega) (by omega) (by omega));have I1:=Hi (subR_in n d (Vr.by64 s).1 (Vr.by64 s).2);have I2:=Hi (subR_in (Vr.by64 p).1 (Vr.by64 p).2 (Vr.by64 s).1 (Vr.by64 s).2);have I3:=Hi (subR_in (Vr.by64 e).1 (Vr.by64 e).2 n d);have I4:=Hi (subR_in (Vr.by64 e).1 (Vr.by64 e).2 (Vr.by64 p).1 (Vr.by64 p).2);unfold Vr.underR at hr;generalize Rat.cmpR n d (Vr.by64 p).1 (Vr.by64 p).2=c1 at *
 generalize Rat.cmpR n d (Vr.by64 s).1 (Vr.by64 s).2=c2 at *
 generalize Rat.cmpR n d (Vr.by64 e).1 (Vr.by64 e).2=c3 at *
 generalize Rat.subR n d (Vr.by64 s).1 (Vr.by64 s).2=u1 at *
 generalize Rat.subR (Vr.by64 p).1 (Vr.by64 p).2 (Vr.by64 s).1 (Vr.by64 s).2=u2 at *
 generalize Rat.subR (Vr.by64 e).1 (Vr.by64 e).2 n d=u3 at *
 generalize Rat.subR (Vr.by64 e).1 (Vr.by64 e).2 (Vr.by64 p).1 (Vr.by64 p).2=u4 at *
 generalize (Vr.by64 s).1=sa at *
 generalize (Vr.by64 s).2=sb at *
 generalize (Vr.by64 p).1=pa at *
 generalize (Vr.by64 p).2=pb at *
 generalize (Vr.by64 e).1=ea at *
 generalize (Vr.by64 e).2=eb at *
 have HR:=Hi hr;clear hr hs hp he hn hd is ip ie;go_enter Try.func34,Try.ntmps34;obtain ⟨p0,p1,p2⟩:=tentBlk (T.out.at 0 rfl);go_wp2_with fail;refine (M5.out _).mono ?_;rintro e' wa5 ⟨rfl,ma5⟩;have U5:=Hi (T.out.call ma5);clear ma5 T p0 p1 p2 M5;go_wp2_with fail;refine (must_ok _ _ _).mono ?_;rintro e' wb5 ⟨rfl,mb5⟩;have T5:=Hi ((U5.out.call mb5).alloc #[.int .i64 sa,.int .i64 sb] 64);clear mb5 U5;go_upto_region 2 with fail;generalize wb5.alloc (.cells #[.int .i64 sa,.int .i64 sb] 64)=W5 at *
 generalize wb5.heap.size=b5 at *
 obtain ⟨p0,p1,p2⟩:=tentBlk (T5.out.at 0 rfl);go_wp2_with fail;refine (M6.out _).mono ?_;rintro e' wa6 ⟨rfl,ma6⟩;have U6:=Hi (T5.out.call ma6);clear ma6 T5 p0 p1 p2 M6;go_wp2_with fail;refine (must_ok _ _ _).mono ?_;rintro e' wb6 ⟨rfl,mb6⟩;have T6:=Hi ((U6.out.call mb6).alloc #[.int .i64 pa,.int .i64 pb] 64);clear mb6 U6;go_upto_region 3 with fail;generalize wb6.alloc (.cells #[.int .i64 pa,.int .i64 pb] 64)=W6 at *
 generalize wb6.heap.size=b6 at *
 obtain ⟨p0,p1,p2⟩:=tentBlk (T6.out.at 0 rfl);go_wp2_with fail;refine (M7.out _).mono ?_;rintro e' wa7 ⟨rfl,ma7⟩;have U7:=Hi (T6.out.call ma7);clear ma7 T6 p0 p1 p2 M7;go_wp2_with fail;refine (must_ok _ _ _).mono ?_;rintro e' wb7 ⟨rfl,mb7⟩;have T7:=Hi ((U7.out.call mb7).alloc #[.int .i64 ea,.int .i64 eb] 64);clear mb7 U7;go_upto_region 4 with fail;generalize wb7.alloc (.cells #[.int .i64 ea,.int .i64 eb] 64)=W7 at *
 generalize wb7.heap.size=b7 at *
 by_cases h0:p=0
 ·have k0:(p == 0)=true:=by simpa using h0
  have HV:Hid (rr=some (1,1)):=Hi (by have:=HR.out;rw [if_pos (.inl h0)] at this;exact this.symm);clear h0 HR;obtain ⟨o0,o1,o2⟩:=tentBlk (T7.out.at 0 rfl);obtain ⟨p0,p1,-,-⟩:=(T7.out.at 1 rfl).two;obtain ⟨q0,q1,-,-⟩:=(T7.out.at 4 rfl).two;go_wp2_with fail;refine (wholeV_any _ _).mono ?_;rintro e' wz ⟨rfl,mz⟩;have TZ:=Hi (T7.out.call mz);clear mz T7 p0 p1 q0 q1 o0 o1 o2;obtain ⟨q0,q1,z0,z1⟩:=(TZ.out.at 2 rfl).two;go_wp2_with fail;obtain ⟨r0,r1,M⟩:=told_end TZ.out 2 rfl (.int .i64 1) (.int .i64 1);have HM:=Hi M;clear M z0 z1 q0 q1;generalize (wz.setCell ⟨w.heap.size+1+1,0,none⟩ (.int .i64 1)).setCell ⟨w.heap.size+1+1,1,none⟩ (.int .i64 1)=W9 at *
  have hv:rr=some (1,1):=HV.out;exact bodyPost_ret (v:=.agg #[.int .i64 1,.int .i64 1]) (by simp [results,Try.results34,go_sem,r0,r1]) rfl (by rw [hv];exact ⟨rfl,HM.out⟩)
 ·have k0:(p == 0)=false:=by simpa using h0
  by_cases h1:c1=0
  ·have k1:(c1 == 0)=true:=by simpa using h1
   have HV:Hid (rr=some (1,1)):=Hi (by have:=HR.out;rw [if_pos (.inr h1)] at this;exact this.symm);clear h0 h1 HR;obtain ⟨o0,o1,o2⟩:=tentBlk (T7.out.at 0 rfl);obtain ⟨p0,p1,-,-⟩:=(T7.out.at 1 rfl).two;obtain ⟨q0,q1,-,-⟩:=(T7.out.at 4 rfl).two;go_wp2_with fail;refine (C1.out _).mono ?_;rintro e' wc ⟨rfl,mc⟩;have T8:=Hi (T7.out.call mc);clear mc T7;go_wp2_with fail;refine (wholeV_any _ _).mono ?_;rintro e' wz ⟨rfl,mz⟩;have TZ:=Hi (T8.out.call mz);clear mz T8 p0 p1 q0 q1 o0 o1 o2;obtain ⟨q0,q1,z0,z1⟩:=(TZ.out.at 2 rfl).two;go_wp2_with fail;obtain ⟨r0,r1,M⟩:=told_end TZ.out 2 rfl (.int .i64 1) (.int .i64 1);have HM:=Hi M;clear M z0 z1 q0 q1;generalize (wz.setCell ⟨w.heap.size+1+1,0,none⟩ (.int .i64 1)).setCell ⟨w.heap.size+1+1,1,none⟩ (.int .i64 1)=W9 at *
   have hv:rr=some (1,1):=HV.out;exact bodyPost_ret (v:=.agg #[.int .i64 1,.int .i64 1]) (by simp [results,Try.results34,go_sem,r0,r1]) rfl (by rw [hv];exact ⟨rfl,HM.out⟩)
  ·have k1:(c1 == 0)=false:=by simpa using h1
   obtain ⟨o0,o1,o2⟩:=tentBlk (T7.out.at 0 rfl);obtain ⟨p0,p1,-,-⟩:=(T7.out.at 1 rfl).two;obtain ⟨q0,q1,-,-⟩:=(T7.out.at 4 rfl).two;go_wp2_with fail;refine (C1.out _).mono ?_;rintro e' wc ⟨rfl,mc⟩;have T8:=Hi (T7.out.call mc);clear mc T7 o0 o1 o2 p0 p1 q0 q1;obtain ⟨o0,o1,o2⟩:=tentBlk (T8.out.at 0 rfl);obtain ⟨p0,p1,-,-⟩:=(T8.out.at 1 rfl).two;obtain ⟨q0,q1,-,-⟩:=(T8.out.at 3 rfl).two;go_wp2_with fail;refine (C2.out _).mono ?_;rintro e' wd ⟨rfl,md⟩;have T9:=Hi (T8.out.call md);clear md T8 o0 o1 o2 p0 p1 q0 q1
   by_cases h2:c2<=0
   ·have k2:decide (c2<=0)=true:=decide_eq_true h2;have HV:Hid (rr=some (0,1)):=Hi (by have:=HR.out;rw [if_neg (fun h=>h.elim h0 h1),if_pos (.inl h2)] at this;exact this.symm);clear h0 h1 h2 HR;obtain ⟨o0,o1,o2⟩:=tentBlk (T9.out.at 0 rfl);obtain ⟨p0,p1,-,-⟩:=(T9.out.at 1 rfl).two;obtain ⟨q0,q1,-,-⟩:=(T9.out.at 4 rfl).two;go_wp2_with fail;refine (wholeV_any _ _).mono ?_;rintro e' wz ⟨rfl,mz⟩;have TZ:=Hi (T9.out.call mz);clear mz T9 p0 p1 q0 q1 o0 o1 o2;obtain ⟨q0,q1,z0,z1⟩:=(TZ.out.at 2 rfl).two;go_wp2_with fail;obtain ⟨r0,r1,M⟩:=told_end TZ.out 2 rfl (.int .i64 0) (.int .i64 1);have HM:=Hi M;clear M z0 z1 q0 q1;generalize (wz.setCell ⟨w.heap.size+1+1,0,none⟩ (.int .i64 0)).setCell ⟨w.heap.size+1+1,1,none⟩ (.int .i64 1)=W9 at *
    have hv:rr=some (0,1):=HV.out;exact bodyPost_ret (v:=.agg #[.int .i64 0,.int .i64 1]) (by simp [results,Try.results34,go_sem,r0,r1]) rfl (by rw [hv];exact ⟨rfl,HM.out⟩)
   ·have k2:decide (c2<=0)=false:=decide_eq_false h2;obtain ⟨o0,o1,o2⟩:=tentBlk (T9.out.at 0 rfl);obtain ⟨p0,p1,-,-⟩:=(T9.out.at 1 rfl).two;obtain ⟨q0,q1,-,-⟩:=(T9.out.at 5 rfl).two;go_wp2_with fail;refine (C3.out _).mono ?_;rintro e' wf ⟨rfl,mf⟩;have T10:=Hi (T9.out.call mf);clear mf T9 o0 o1 o2 p0 p1 q0 q1
    by_cases h3:0<=c3
    ·have k3:decide (0<=c3)=true:=decide_eq_true h3;have HV:Hid (rr=some (0,1)):=Hi (by have:=HR.out;rw [if_neg (fun h=>h.elim h0 h1),if_pos (.inr h3)] at this;exact this.symm);clear h0 h1 h2 h3 HR;obtain ⟨o0,o1,o2⟩:=tentBlk (T10.out.at 0 rfl);obtain ⟨p0,p1,-,-⟩:=(T10.out.at 1 rfl).two;obtain ⟨q0,q1,-,-⟩:=(T10.out.at 4 rfl).two;go_wp2_with fail;refine (wholeV_any _ _).mono ?_;rintro e' wz ⟨rfl,mz⟩;have TZ:=Hi (T10.out.call mz);clear mz T10 p0 p1 q0 q1 o0 o1 o2;obtain ⟨q0,q1,z0,z1⟩:=(TZ.out.at 2 rfl).two;go_wp2_with fail;obtain ⟨r0,r1,M⟩:=told_end TZ.out 2 rfl (.int .i64 0) (.int .i64 1);have HM:=Hi M;clear M z0 z1 q0 q1;generalize (wz.setCell ⟨w.heap.size+1+1,0,none⟩ (.int .i64 0)).setCell ⟨w.heap.size+1+1,1,none⟩ (.int .i64 1)=W9 at *
     have hv:rr=some (0,1):=HV.out;exact bodyPost_ret (v:=.agg #[.int .i64 0,.int .i64 1]) (by simp [results,Try.results34,go_sem,r0,r1]) rfl (by rw [hv];exact ⟨rfl,HM.out⟩)
    ·have k3:decide (0<=c3)=false:=decide_eq_false h3;obtain ⟨o0,o1,o2⟩:=tentBlk (T10.out.at 0 rfl);obtain ⟨p0,p1,-,-⟩:=(T10.out.at 1 rfl).two;obtain ⟨q0,q1,-,-⟩:=(T10.out.at 4 rfl).two;go_wp2_with fail;refine (C1.out _).mono ?_;rintro e' wg ⟨rfl,mg⟩;have T11:=Hi (T10.out.call mg);clear mg T10 o0 o1 o2 p0 p1 q0 q1
     by_cases h4:c1<0
     ·have k4:decide (c1<0)=true:=decide_eq_true h4;have hq:=HR.out;rw [if_neg (fun h=>h.elim h0 h1),if_neg (show ¬ (c2<=0∨0<=c3) by omega),if_pos h4] at hq;unfold Vr.quot at hq
      split at hq
      ·rename_i hq2;obtain ⟨xa,xb,xc⟩:=u1;obtain ⟨ya,yb,yc⟩:=u2;simp only at hq hq2;obtain ⟨rfl,rfl,hq3⟩:=hq2;have DD:=Hi (fun W=>D1.out W xa xb ya yb I1.out.1 I1.out.2 I2.out.1 I2.out.2);obtain ⟨⟨da,db,dc⟩,hdv⟩:∃ t,Rat.divR xa xb ya yb=t:=⟨_,rfl⟩
       rw [hdv] at DD hq hq3;simp only at hq hq3;subst hq3;have HV:Hid (rr=some (da,db)):=Hi hq.symm;have HA:=Hi (fun W=>must_ok xa xb W);have HB:=Hi (fun W=>must_ok ya yb W);have HC:=Hi (fun W=>must_ok da db W);clear h0 h1 h2 h3 h4 hq HR hdv;go_upto_region 9 with fail;have A1:=(T11.out.at 1 rfl).every;have A3:=(T11.out.at 3 rfl).every;have A4:=(T11.out.at 4 rfl).every;have A5:=(T11.out.at 5 rfl).every;refine wp_region_mask 16 [true,true,true,true,true,true,true,true,true,true,true,true,true,true,true,true] [] (by kernel_rfl) (by kernel_rfl) (by simp) ?_;simp only [pickM]
       iterate 2
        refine sv ?_
       refine sc (a':=?_) (fun w' hw' K Q hK=>?_) ?_ ?_;rotate_left
       ·go_wp2_with fail;refine ((calls_mod S1.out) _ hw').mono ?_;rintro e w'' ⟨rfl,m''⟩;go_wp2_with fail;exact hK _ m''
       ·rfl
       iterate 2
        refine sv ?_
       refine sc (a':=?_) (fun w' hw' K Q hK=>?_) ?_ ?_;rotate_left
       ·go_wp2_with fail;refine ((calls_mod HA.out) _ hw').mono ?_;rintro e w'' ⟨rfl,m''⟩;go_wp2_with fail;exact hK _ m''
       ·rfl
       iterate 2
        refine sv ?_
       refine sc (a':=?_) (fun w' hw' K Q hK=>?_) ?_ ?_;rotate_left
       ·go_wp2_with fail;refine ((calls_mod S2.out) _ hw').mono ?_;rintro e w'' ⟨rfl,m''⟩;go_wp2_with fail;exact hK _ m''
       ·rfl
       iterate 2
        refine sv ?_
       refine sc (a':=?_) (fun w' hw' K Q hK=>?_) ?_ ?_;rotate_left
       ·go_wp2_with fail;refine ((calls_mod HB.out) _ hw').mono ?_;rintro e w'' ⟨rfl,m''⟩;go_wp2_with fail;exact hK _ m''
       ·rfl
       refine sc (a':=?_) (fun w' hw' K Q hK=>?_) ?_ ?_;rotate_left
       ·go_wp2_with fail;refine ((calls_mod DD.out) _ hw').mono ?_;rintro e w'' ⟨rfl,m''⟩;go_wp2_with fail;exact hK _ m''
       ·rfl
       iterate 2
        refine sv ?_
       refine sc (a':=?_) (fun w' hw' K Q hK=>?_) ?_ ?_;rotate_left
       ·go_wp2_with fail;refine ((calls_mod HC.out) _ hw').mono ?_;rintro e w'' ⟨rfl,m''⟩;go_wp2_with fail;exact hK _ m''
       ·rfl
       refine steady_done ?_;refine lates_end (fun w' hw' _=>?_);simp only [List.drop_succ_cons,List.drop_zero];have TZ:=Hi (T11.out.call hw');clear A1 A3 A4 A5 T11 hw';obtain ⟨q0,q1,z0,z1⟩:=(TZ.out.at 2 rfl).two;go_wp2_with fail;obtain ⟨r0,r1,M⟩:=told_end TZ.out 2 rfl (.int .i64 da) (.int .i64 db);have HM:=Hi M;clear M z0 z1 q0 q1;generalize (w'.setCell ⟨w.heap.size+1+1,0,none⟩ (.int .i64 da)).setCell ⟨w.heap.size+1+1,1,none⟩ (.int .i64 db)=W9 at *
       have hv:rr=some (da,db):=HV.out;exact bodyPost_ret (v:=.agg #[.int .i64 da,.int .i64 db]) (by simp [results,Try.results34,go_sem,r0,r1]) rfl (by rw [hv];exact ⟨rfl,HM.out⟩)
      ·rename_i hq2;subst hq;obtain ⟨xa,xb,xc⟩:=u1;obtain ⟨ya,yb,yc⟩:=u2;simp only at hq2;clear h0 h1 h2 h3 h4 HR;cases xc with
       | false =>
        have HN:=Hi (fun W=>must_no xa xb W);clear hq2;go_upto_region 9 with fail;have A1:=(T11.out.at 1 rfl).every;have A3:=(T11.out.at 3 rfl).every;have A4:=(T11.out.at 4 rfl).every;have A5:=(T11.out.at 5 rfl).every;refine Dm.wp_region_doom [true,true,true,true,true,false,true,true,false,false,false,false,false,false,false,false,false] [] 5 (fun c _=>c=[{ v:=.iface 40 (.int .i64 3),recovered:=false }]) (by kernel_rfl) rfl rfl (by kernel_rfl) ?hAlD389 ?hQ ?mainD389
        case hAlD389=>(intro i hi;cases hi)
        case mainD389 =>
         simp only [pickM]
         iterate 2
          refine sv ?_
         refine sc (a':=?_) (fun w' hw' K Q hK=>?_) ?_ ?_;rotate_left
         ·go_wp2_with fail;refine ((calls_mod S1.out) _ hw').mono ?_;rintro e w'' ⟨rfl,m''⟩;go_wp2_with fail;exact hK _ m''
         ·rfl
         iterate 4
          refine sv ?_
         refine steady_done ?_;intro w' hw';go_wp2_with fail;refine (HN.out _).mono ?_;rintro e' w4 ⟨rfl,m4⟩;go_wp2_with fail;exact hw'.then m4
        case hQ =>
         intro c a' w' hG hm hc;subst hc;exact ⟨hG.defers,rfl,T11.out.mod.then hm⟩
       | true =>
        have HA:=Hi (fun W=>must_ok xa xb W);cases yc with
        | false =>
         have HN:=Hi (fun W=>must_no ya yb W);clear hq2;go_upto_region 9 with fail;have A1:=(T11.out.at 1 rfl).every;have A3:=(T11.out.at 3 rfl).every;have A4:=(T11.out.at 4 rfl).every;have A5:=(T11.out.at 5 rfl).every;refine Dm.wp_region_doom [true,true,true,true,true,true,true,true,true,true,true,false,false,false,false,false,false] [] 11 (fun c _=>c=[{ v:=.iface 40 (.int .i64 3),recovered:=false }]) (by kernel_rfl) rfl rfl (by kernel_rfl) ?hAlD454 ?hQ ?mainD454
         case hAlD454=>(intro i hi;cases hi)
         case mainD454 =>
          simp only [pickM]
          iterate 2
           refine sv ?_
          refine sc (a':=?_) (fun w' hw' K Q hK=>?_) ?_ ?_;rotate_left
          ·go_wp2_with fail;refine ((calls_mod S1.out) _ hw').mono ?_;rintro e w'' ⟨rfl,m''⟩;go_wp2_with fail;exact hK _ m''
          ·rfl
          iterate 2
           refine sv ?_
          refine sc (a':=?_) (fun w' hw' K Q hK=>?_) ?_ ?_;rotate_left
          ·go_wp2_with fail;refine ((calls_mod HA.out) _ hw').mono ?_;rintro e w'' ⟨rfl,m''⟩;go_wp2_with fail;exact hK _ m''
          ·rfl
          iterate 2
           refine sv ?_
          refine sc (a':=?_) (fun w' hw' K Q hK=>?_) ?_ ?_;rotate_left
          ·go_wp2_with fail;refine ((calls_mod S2.out) _ hw').mono ?_;rintro e w'' ⟨rfl,m''⟩;go_wp2_with fail;exact hK _ m''
          ·rfl
          iterate 2
           refine sv ?_
          refine steady_done ?_;intro w' hw';go_wp2_with fail;refine (HN.out _).mono ?_;rintro e' w4 ⟨rfl,m4⟩;go_wp2_with fail;exact hw'.then m4
         case hQ =>
          intro c a' w' hG hm hc;subst hc;exact ⟨hG.defers,rfl,T11.out.mod.then hm⟩
        | true =>
         have HB:=Hi (fun W=>must_ok ya yb W);have DD:=Hi (fun W=>D1.out W xa xb ya yb I1.out.1 I1.out.2 I2.out.1 I2.out.2);obtain ⟨⟨da,db,dc⟩,hdv⟩:∃ t,Rat.divR xa xb ya yb=t:=⟨_,rfl⟩
         rw [hdv] at DD hq2;simp only [true_and] at hq2;obtain rfl:dc=false:=by simpa using hq2
         have HN:=Hi (fun W=>must_no da db W);clear hq2 hdv;go_upto_region 9 with fail;have A1:=(T11.out.at 1 rfl).every;have A3:=(T11.out.at 3 rfl).every;have A4:=(T11.out.at 4 rfl).every;have A5:=(T11.out.at 5 rfl).every;refine Dm.wp_region_doom [true,true,true,true,true,true,true,true,true,true,true,true,true,true,true,false,false] [] 15 (fun c _=>c=[{ v:=.iface 40 (.int .i64 3),recovered:=false }]) (by kernel_rfl) rfl rfl (by kernel_rfl) ?hAlD550 ?hQ ?mainD550
         case hAlD550=>(intro i hi;cases hi)
         case mainD550 =>
          simp only [pickM]
          iterate 2
           refine sv ?_
          refine sc (a':=?_) (fun w' hw' K Q hK=>?_) ?_ ?_;rotate_left
          ·go_wp2_with fail;refine ((calls_mod S1.out) _ hw').mono ?_;rintro e w'' ⟨rfl,m''⟩;go_wp2_with fail;exact hK _ m''
          ·rfl
          iterate 2
           refine sv ?_
          refine sc (a':=?_) (fun w' hw' K Q hK=>?_) ?_ ?_;rotate_left
          ·go_wp2_with fail;refine ((calls_mod HA.out) _ hw').mono ?_;rintro e w'' ⟨rfl,m''⟩;go_wp2_with fail;exact hK _ m''
          ·rfl
          iterate 2
           refine sv ?_
          refine sc (a':=?_) (fun w' hw' K Q hK=>?_) ?_ ?_;rotate_left
          ·go_wp2_with fail;refine ((calls_mod S2.out) _ hw').mono ?_;rintro e w'' ⟨rfl,m''⟩;go_wp2_with fail;exact hK _ m''
          ·rfl
          iterate 2
           refine sv ?_
          refine sc (a':=?_) (fun w' hw' K Q hK=>?_) ?_ ?_;rotate_left
          ·go_wp2_with fail;refine ((calls_mod HB.out) _ hw').mono ?_;rintro e w'' ⟨rfl,m''⟩;go_wp2_with fail;exact hK _ m''
          ·rfl
          refine sc (a':=?_) (fun w' hw' K Q hK=>?_) ?_ ?_;rotate_left
          ·go_wp2_with fail;refine ((calls_mod DD.out) _ hw').mono ?_;rintro e w'' ⟨rfl,m''⟩;go_wp2_with fail;exact hK _ m''
          ·rfl
          iterate 2
           refine sv ?_
          refine steady_done ?_;intro w' hw';go_wp2_with fail;refine (HN.out _).mono ?_;rintro e' w4 ⟨rfl,m4⟩;go_wp2_with fail;exact hw'.then m4
         case hQ =>
          intro c a' w' hG hm hc;subst hc;exact ⟨hG.defers,rfl,T11.out.mod.then hm⟩
     ·have k4:decide (c1<0)=false:=decide_eq_false h4;have hq:=HR.out;rw [if_neg (fun h=>h.elim h0 h1),if_neg (show ¬ (c2<=0∨0<=c3) by omega),if_neg h4] at hq;unfold Vr.quot at hq
      split at hq
      ·rename_i hq2;obtain ⟨xa,xb,xc⟩:=u3;obtain ⟨ya,yb,yc⟩:=u4;simp only at hq hq2;obtain ⟨rfl,rfl,hq3⟩:=hq2;have DD:=Hi (fun W=>D1.out W xa xb ya yb I3.out.1 I3.out.2 I4.out.1 I4.out.2);obtain ⟨⟨da,db,dc⟩,hdv⟩:∃ t,Rat.divR xa xb ya yb=t:=⟨_,rfl⟩
       rw [hdv] at DD hq hq3;simp only at hq hq3;subst hq3;have HV:Hid (rr=some (da,db)):=Hi hq.symm;have HA:=Hi (fun W=>must_ok xa xb W);have HB:=Hi (fun W=>must_ok ya yb W);have HC:=Hi (fun W=>must_ok da db W);clear h0 h1 h2 h3 h4 hq HR hdv;go_upto_region 10 with fail;have A1:=(T11.out.at 1 rfl).every;have A3:=(T11.out.at 3 rfl).every;have A4:=(T11.out.at 4 rfl).every;have A5:=(T11.out.at 5 rfl).every;refine wp_region_mask 16 [true,true,true,true,true,true,true,true,true,true,true,true,true,true,true,true] [] (by kernel_rfl) (by kernel_rfl) (by simp) ?_;simp only [pickM]
       iterate 2
        refine sv ?_
       refine sc (a':=?_) (fun w' hw' K Q hK=>?_) ?_ ?_;rotate_left
       ·go_wp2_with fail;refine ((calls_mod S3.out) _ hw').mono ?_;rintro e w'' ⟨rfl,m''⟩;go_wp2_with fail;exact hK _ m''
       ·rfl
       iterate 2
        refine sv ?_
       refine sc (a':=?_) (fun w' hw' K Q hK=>?_) ?_ ?_;rotate_left
       ·go_wp2_with fail;refine ((calls_mod HA.out) _ hw').mono ?_;rintro e w'' ⟨rfl,m''⟩;go_wp2_with fail;exact hK _ m''
       ·rfl
       iterate 2
        refine sv ?_
       refine sc (a':=?_) (fun w' hw' K Q hK=>?_) ?_ ?_;rotate_left
       ·go_wp2_with fail;refine ((calls_mod S4.out) _ hw').mono ?_;rintro e w'' ⟨rfl,m''⟩;go_wp2_with fail;exact hK _ m''
       ·rfl
       iterate 2
        refine sv ?_
       refine sc (a':=?_) (fun w' hw' K Q hK=>?_) ?_ ?_;rotate_left
       ·go_wp2_with fail;refine ((calls_mod HB.out) _ hw').mono ?_;rintro e w'' ⟨rfl,m''⟩;go_wp2_with fail;exact hK _ m''
       ·rfl
       refine sc (a':=?_) (fun w' hw' K Q hK=>?_) ?_ ?_;rotate_left
       ·go_wp2_with fail;refine ((calls_mod DD.out) _ hw').mono ?_;rintro e w'' ⟨rfl,m''⟩;go_wp2_with fail;exact hK _ m''
       ·rfl
       iterate 2
        refine sv ?_
       refine sc (a':=?_) (fun w' hw' K Q hK=>?_) ?_ ?_;rotate_left
       ·go_wp2_with fail;refine ((calls_mod HC.out) _ hw').mono ?_;rintro e w'' ⟨rfl,m''⟩;go_wp2_with fail;exact hK _ m''
       ·rfl
       refine steady_done ?_;refine lates_end (fun w' hw' _=>?_);simp only [List.drop_succ_cons,List.drop_zero];have TZ:=Hi (T11.out.call hw');clear A1 A3 A4 A5 T11 hw';obtain ⟨q0,q1,z0,z1⟩:=(TZ.out.at 2 rfl).two;go_wp2_with fail;obtain ⟨r0,r1,M⟩:=told_end TZ.out 2 rfl (.int .i64 da) (.int .i64 db);have HM:=Hi M;clear M z0 z1 q0 q1;generalize (w'.setCell ⟨w.heap.size+1+1,0,none⟩ (.int .i64 da)).setCell ⟨w.heap.size+1+1,1,none⟩ (.int .i64 db)=W9 at *
       have hv:rr=some (da,db):=HV.out;exact bodyPost_ret (v:=.agg #[.int .i64 da,.int .i64 db]) (by simp [results,Try.results34,go_sem,r0,r1]) rfl (by rw [hv];exact ⟨rfl,HM.out⟩)
      ·rename_i hq2;subst hq;obtain ⟨xa,xb,xc⟩:=u3;obtain ⟨ya,yb,yc⟩:=u4;simp only at hq2;clear h0 h1 h2 h3 h4 HR;cases xc with
       | false =>
        have HN:=Hi (fun W=>must_no xa xb W);clear hq2;go_upto_region 10 with fail;have A1:=(T11.out.at 1 rfl).every;have A3:=(T11.out.at 3 rfl).every;have A4:=(T11.out.at 4 rfl).every;have A5:=(T11.out.at 5 rfl).every;refine Dm.wp_region_doom [true,true,true,true,true,false,true,true,false,false,false,false,false,false,false,false,false] [] 5 (fun c _=>c=[{ v:=.iface 40 (.int .i64 3),recovered:=false }]) (by kernel_rfl) rfl rfl (by kernel_rfl) ?hAlD819 ?hQ ?mainD819
        case hAlD819=>(intro i hi;cases hi)
        case mainD819 =>
         simp only [pickM]
         iterate 2
          refine sv ?_
         refine sc (a':=?_) (fun w' hw' K Q hK=>?_) ?_ ?_;rotate_left
         ·go_wp2_with fail;refine ((calls_mod S3.out) _ hw').mono ?_;rintro e w'' ⟨rfl,m''⟩;go_wp2_with fail;exact hK _ m''
         ·rfl
         iterate 4
          refine sv ?_
         refine steady_done ?_;intro w' hw';go_wp2_with fail;refine (HN.out _).mono ?_;rintro e' w4 ⟨rfl,m4⟩;go_wp2_with fail;exact hw'.then m4
        case hQ =>
         intro c a' w' hG hm hc;subst hc;exact ⟨hG.defers,rfl,T11.out.mod.then hm⟩
       | true =>
        have HA:=Hi (fun W=>must_ok xa xb W);cases yc with
        | false =>
         have HN:=Hi (fun W=>must_no ya yb W);clear hq2;go_upto_region 10 with fail;have A1:=(T11.out.at 1 rfl).every;have A3:=(T11.out.at 3 rfl).every;have A4:=(T11.out.at 4 rfl).every;have A5:=(T11.out.at 5 rfl).every;refine Dm.wp_region_doom [true,true,true,true,true,true,true,true,true,true,true,false,false,false,false,false,false] [] 11 (fun c _=>c=[{ v:=.iface 40 (.int .i64 3),recovered:=false }]) (by kernel_rfl) rfl rfl (by kernel_rfl) ?hAlD884 ?hQ ?mainD884
         case hAlD884=>(intro i hi;cases hi)
         case mainD884 =>
          simp only [pickM]
          iterate 2
           refine sv ?_
          refine sc (a':=?_) (fun w' hw' K Q hK=>?_) ?_ ?_;rotate_left
          ·go_wp2_with fail;refine ((calls_mod S3.out) _ hw').mono ?_;rintro e w'' ⟨rfl,m''⟩;go_wp2_with fail;exact hK _ m''
          ·rfl
          iterate 2
           refine sv ?_
          refine sc (a':=?_) (fun w' hw' K Q hK=>?_) ?_ ?_;rotate_left
          ·go_wp2_with fail;refine ((calls_mod HA.out) _ hw').mono ?_;rintro e w'' ⟨rfl,m''⟩;go_wp2_with fail;exact hK _ m''
          ·rfl
          iterate 2
           refine sv ?_
          refine sc (a':=?_) (fun w' hw' K Q hK=>?_) ?_ ?_;rotate_left
          ·go_wp2_with fail;refine ((calls_mod S4.out) _ hw').mono ?_;rintro e w'' ⟨rfl,m''⟩;go_wp2_with fail;exact hK _ m''
          ·rfl
          iterate 2
           refine sv ?_
          refine steady_done ?_;intro w' hw';go_wp2_with fail;refine (HN.out _).mono ?_;rintro e' w4 ⟨rfl,m4⟩;go_wp2_with fail;exact hw'.then m4
         case hQ =>
          intro c a' w' hG hm hc;subst hc;exact ⟨hG.defers,rfl,T11.out.mod.then hm⟩
        | true =>
         have HB:=Hi (fun W=>must_ok ya yb W);have DD:=Hi (fun W=>D1.out W xa xb ya yb I3.out.1 I3.out.2 I4.out.1 I4.out.2);obtain ⟨⟨da,db,dc⟩,hdv⟩:∃ t,Rat.divR xa xb ya yb=t:=⟨_,rfl⟩
         rw [hdv] at DD hq2;simp only [true_and] at hq2;obtain rfl:dc=false:=by simpa using hq2
         have HN:=Hi (fun W=>must_no da db W);clear hq2 hdv;go_upto_region 10 with fail;have A1:=(T11.out.at 1 rfl).every;have A3:=(T11.out.at 3 rfl).every;have A4:=(T11.out.at 4 rfl).every;have A5:=(T11.out.at 5 rfl).every;refine Dm.wp_region_doom [true,true,true,true,true,true,true,true,true,true,true,true,true,true,true,false,false] [] 15 (fun c _=>c=[{ v:=.iface 40 (.int .i64 3),recovered:=false }]) (by kernel_rfl) rfl rfl (by kernel_rfl) ?hAlD980 ?hQ ?mainD980
         case hAlD980=>(intro i hi;cases hi)
         case mainD980 =>
          simp only [pickM]
          iterate 2
           refine sv ?_
          refine sc (a':=?_) (fun w' hw' K Q hK=>?_) ?_ ?_;rotate_left
          ·go_wp2_with fail;refine ((calls_mod S3.out) _ hw').mono ?_;rintro e w'' ⟨rfl,m''⟩;go_wp2_with fail;exact hK _ m''
          ·rfl
          iterate 2
           refine sv ?_
          refine sc (a':=?_) (fun w' hw' K Q hK=>?_) ?_ ?_;rotate_left
          ·go_wp2_with fail;refine ((calls_mod HA.out) _ hw').mono ?_;rintro e w'' ⟨rfl,m''⟩;go_wp2_with fail;exact hK _ m''
          ·rfl
          iterate 2
           refine sv ?_
          refine sc (a':=?_) (fun w' hw' K Q hK=>?_) ?_ ?_;rotate_left
          ·go_wp2_with fail;refine ((calls_mod S4.out) _ hw').mono ?_;rintro e w'' ⟨rfl,m''⟩;go_wp2_with fail;exact hK _ m''
          ·rfl
          iterate 2
           refine sv ?_
          refine sc (a':=?_) (fun w' hw' K Q hK=>?_) ?_ ?_;rotate_left
          ·go_wp2_with fail;refine ((calls_mod HB.out) _ hw').mono ?_;rintro e w'' ⟨rfl,m''⟩;go_wp2_with fail;exact hK _ m''
          ·rfl
          refine sc (a':=?_) (fun w' hw' K Q hK=>?_) ?_ ?_;rotate_left
          ·go_wp2_with fail;refine ((calls_mod DD.out) _ hw').mono ?_;rintro e w'' ⟨rfl,m''⟩;go_wp2_with fail;exact hK _ m''
          ·rfl
          iterate 2
           refine sv ?_
          refine steady_done ?_;intro w' hw';go_wp2_with fail;refine (HN.out _).mono ?_;rintro e' w4 ⟨rfl,m4⟩;go_wp2_with fail;exact hw'.then m4
         case hQ =>
          intro c a' w' hG hm hc;subst hc;exact ⟨hG.defers,rfl,T11.out.mod.then hm⟩
set_option maxRecDepth 100000
def RRat (B:Nat) (w:World) (cs:List Value) (x:Int×Int):Prop:=cs=[.int .i64 x.1,.int .i64 x.2]/\Rat.rightB x.1 x.2=true/\I64 x.1/\I64 x.2
theorem RRat.stay:Stay RRat:=fun _ _ _ _ _ h _=>h
theorem RRat.lower:Lower RRat:=fun _ _ _ _ _ h _=>h
def triple (t:DTent):Int×Int×Int:=(t.start,t.peak,t.stop)
def Vr.factorR (ts:List DTent) (xs:List (Int×Int)):Int×Int:=if ts.length=xs.length then (Vr.prodR (ts.map triple) xs (1,1)).getD (0,0) else (0,0)
theorem prod_at {ts:List DTent} {xs:List (Int×Int)} {f:Int×Int} {j:Nat} (h1:j<ts.length) (h2:j<xs.length):Vr.prodR ((ts.map triple).drop j) (xs.drop j) f =
  match Vr.underR (ts[j]).start (ts[j]).peak (ts[j]).stop xs[j].1 xs[j].2 with
  | some u=>if (Rat.mulR f.1 f.2 u.1 u.2).2.2=true then Vr.prodR ((ts.map triple).drop (j+1)) (xs.drop (j+1)) ((Rat.mulR f.1 f.2 u.1 u.2).1,(Rat.mulR f.1 f.2 u.1 u.2).2.1) else none
  | none=>none:=by
 rw [List.drop_eq_getElem_cons (l:=ts.map triple) (by simpa using h1),List.drop_eq_getElem_cons h2,List.getElem_map];rfl
set_option maxHeartbeats 8000000 in
theorem factor_any (ts:List DTent) (xs:List (Int×Int)) (v av:Value) (B B2:Nat) (w:World) (hT:Rows 3 RTent B w v ts) (hX:Rows 2 RRat B2 w av xs) :
  Calls Try.prog 12 #[.agg #[v],av] w fun e w'=>e=.returned (.agg #[.int .i64 (Vr.factorR ts xs).1,.int .i64 (Vr.factorR ts xs).2])/\Mod [] w w':=by
 have hmf:∀ (fn:Fn) (first cap:Array Value) (w:World),(Instr.makeFunc fn first cap).run Try.prog w=.ok (.func fn first cap) w:=fun _ _ _ _=>rfl
 obtain ⟨ta,tc,rfl,htm⟩:=hT.form;obtain ⟨xa,xc,rfl,hxm⟩:=hX.form;have HT:=Hi hT;have HX:=Hi hX;have hml:maxLen<=9223372036854775807:=by decide
 have HN:=Hi (And.intro (Nat.le_trans htm hml) (Nat.le_trans hxm hml));clear hT hX htm hxm hml;have T:=Hi (own2 w #[.slice ta ts.length tc] 36 #[.int .i64 0,.int .i64 0] 64)
 by_cases hl:ts.length=xs.length
 case neg =>
  have hv:Vr.factorR ts xs=(0,0):=by unfold Vr.factorR;rw [if_neg hl]
  rw [hv];have k1:(((ts.length:Int)) != (xs.length:Int))=true:=by simp;omega
  have k1':((ts.length:Int) == (xs.length:Int))=false:=by simp;omega
  clear hl hv;go_enter_defers Try.func12,Try.ntmps12;go_wp2_with fail;refine leaves_cons (f:=29) (args:=#[.pointer (some ⟨w.heap.size+1,0,none⟩)]) (by simp) (by simp [go_sem]) ?_;refine (fac1_panic (w.heap.size+1) _ _ _ _ [] _ (T.out.at 1 rfl)).mono ?_;rintro e u' w'' ⟨rfl,rfl,rfl⟩;obtain ⟨r0,r1,M⟩:=told_end T.out 1 rfl (.int .i64 0) (.int .i64 0);have HM:=Hi M;generalize (((w.alloc (.cells #[.slice ta ts.length tc] 36)).alloc (.cells #[.int .i64 0,.int .i64 0] 64)).setCell ⟨w.heap.size+1,0,none⟩ (.int .i64 0)).setCell ⟨w.heap.size+1,1,none⟩ (.int .i64 0)=W9 at *
  simp [Leaves,settle,results,Try.results12,go_sem,r0,r1];exact HM.out
 have hv:Vr.factorR ts xs=(Vr.prodR (ts.map triple) xs (1,1)).getD (0,0):=by unfold Vr.factorR;rw [if_pos hl]
 rw [hv];have k1:(((ts.length:Int)) != (xs.length:Int))=false:=by simp;omega
 have k1':((ts.length:Int) == (xs.length:Int))=true:=by simp;omega
 have HL:=Hi hl;obtain ⟨res,hres⟩:∃ res,Vr.prodR (ts.map triple) xs (1,1)=res:=⟨_,rfl⟩
 have HP:=Hi hres;rw [hres];clear hl hv hres;go_enter_defers Try.func12,Try.ntmps12;go_upto_region 4 with fail;generalize (w.alloc (.cells #[.slice ta ts.length tc] 36)).alloc (.cells #[.int .i64 0,.int .i64 0] 64)=W0 at *
 clear k1 k1';go_wp2_with fail
 go_loopg [19] xs.length (fun gk i wr=>∃ k:Nat,Hid (k+gk=xs.length)/\i=.int .i64 (k:Int)/\Hid (Own w wr [(w.heap.size,#[.slice ta ts.length tc],36),(w.heap.size+1,#[.int .i64 0,.int .i64 0],64)]))
 case atStart=>exact ⟨0,by show 0+xs.length=xs.length;omega,rfl,T.out⟩
 case round =>
  obtain ⟨k,hk,rfl,HTT⟩:=hrel;clear T
  by_cases hkN:k<xs.length
  ·have k1:decide ((k:Int)<(xs.length:Int))=true:=decide_eq_true (by omega);have k2:(0:Int)<=k:=by omega
   have k3:(k:Int)<(xs.length:Int):=by omega
   obtain ⟨a,rfl,-,cs,-,hc0,hcj,rfl,hr,hi1,hi2⟩:=(HX.out.mod RRat.stay HTT.out.mod).at k hkN;have c0:=hc0 (by decide);have c1:=hcj 1 (by decide) (by decide);simp only [List.getElem?_cons_zero,List.getElem?_cons_succ] at c0 c1;unfold I64 at hi1 hi2;have HA:=Hi (fun W=>add_any xs[k].1 xs[k].2 0 1 W hi1 hi2 (by omega) (by omega));rw [add_zero hr hi1.2 hi1.1 hi2.2] at HA;have HM:=Hi (fun W=>must_ok xs[k].1 xs[k].2 W);have HW:=Hi (fun W=>wholeV_any 0 W);generalize xs[k].1=xa' at *
   generalize xs[k].2=xb at *
   clear hr hi1 hi2 hc0 hcj;have T1:=Hi (HTT.out.alloc #[.int .i64 xa',.int .i64 xb] 64);have e1:IntKind.i64.wrap ((k:Int)+1)=(k:Int)+1:=IntWalk.i64_in _ (by have:=HN.out;omega);clear HTT hkN;go_upto_region 7 with fail;generalize wr.alloc (.cells #[.int .i64 xa',.int .i64 xb] 64)=W1 at *
   generalize wr.heap.size=b6 at *
   have A2:=(T1.out.at 2 rfl).every;refine wp_region_mask 6 [true,true,true,true,true,true] [] (by kernel_rfl) (by kernel_rfl) (by simp) ?_;simp only [pickM];refine sv ?_;refine sc (a':=?_) (fun w' hw' K Q hK=>?_) ?_ ?_;rotate_left
   ·go_wp2_with fail;refine ((calls_mod HW.out) _ hw').mono ?_;rintro e w'' ⟨rfl,m''⟩;go_wp2_with fail;exact hK _ m''
   ·rfl
   refine sc (a':=?_) (fun w' hw' K Q hK=>?_) ?_ ?_;rotate_left
   ·go_wp2_with fail;refine ((calls_mod HA.out) _ hw').mono ?_;rintro e w'' ⟨rfl,m''⟩;go_wp2_with fail;exact hK _ m''
   ·rfl
   iterate 2
    refine sv ?_
   refine sc (a':=?_) (fun w' hw' K Q hK=>?_) ?_ ?_;rotate_left
   ·go_wp2_with fail;refine ((calls_mod HM.out) _ hw').mono ?_;rintro e w'' ⟨rfl,m''⟩;go_wp2_with fail;exact hK _ m''
   ·rfl
   refine steady_done ?_;refine lates_end (fun w' hw' _=>?_);simp only [List.drop_succ_cons,List.drop_zero];have T2:=Hi (Own.left (l':=[(b6,#[.int .i64 xa',.int .i64 xb],64)]) (T1.out.call hw'));clear A2 hw' T1 HA HM HW c0 c1;go_wp2_with fail;go_roundg (gk - 1)
   case measure=>have:=hk.out;omega
   case rel=>exact ⟨k+1,by have:=hk.out;show k+1+(gk - 1)=xs.length;omega,by rw [Int.natCast_add];rfl,T2.out⟩
  ·have hkN':k=xs.length:=by have:=hk.out;omega
   subst hkN';have k1:decide ((xs.length:Int)<(xs.length:Int))=false:=decide_eq_false (by omega);go_upto_region 9 with fail;clear k1 hkN hk;go_wp2_with fail;refine (wholeV_any _ _).mono ?_;rintro e w2 ⟨rfl,m2⟩;have T2:=Hi (HTT.out.call m2);clear m2 HTT;have T3:=Hi ((T2.out.set 1 rfl 0 (.int .i64 1)).set 1 rfl 1 (.int .i64 1));obtain ⟨q0,q1,z0,z1⟩:=(T2.out.at 1 rfl).two;go_upto_region 10 with fail;generalize (w2.setCell ⟨w.heap.size+1,0,none⟩ (.int .i64 1)).setCell ⟨w.heap.size+1,1,none⟩ (.int .i64 1)=W3 at *
   clear q0 q1 z0 z1 T2;have p0:W3.cell? ⟨w.heap.size,0,none⟩=some (.slice ta ts.length tc):=by rw [(T3.out.at 0 rfl).cell];rfl
   go_wp2_with fail;clear p0;generalize gk=gko at *
   go_loopg [34] ts.length (fun gk i wr=>∃ (j:Nat) (ga gb:Int),Hid (j+gk=ts.length)/\i=.int .i64 (j:Int)/\Hid (Own w wr [(w.heap.size,#[.slice ta ts.length tc],36),(w.heap.size+1,#[.int .i64 ga,.int .i64 gb],64)]/\Vr.prodR ((ts.map triple).drop j) (xs.drop j) (ga,gb)=res/\(-9223372036854775807<=ga/\ga<=9223372036854775807)/\(-9223372036854775807<=gb/\gb<=9223372036854775807)))
   case atStart=>exact ⟨0,1,1,by show 0+ts.length=ts.length;omega,rfl,T3.out,HP.out,by omega,by omega⟩
   case round =>
    obtain ⟨j,ga,gb,hj,rfl,HTT⟩:=hrel;clear T3
    by_cases hjN:j<ts.length
    ·have k1:decide ((j:Int)<(ts.length:Int))=true:=decide_eq_true (by omega);have k2:(0:Int)<=j:=by omega
     have k4:(j:Int)<(ts.length:Int):=by omega
     have hjx:j<xs.length:=by have:=HL.out;omega
     have k3:(j:Int)<(xs.length:Int):=by omega
     obtain ⟨T4,hpr,hga,hgb⟩:=HTT.out;have T4:=Hi T4;obtain ⟨a3,rfl,-,cs3,-,hd0,hdj,rfl,ht1,ht2,ht3⟩:=(HT.out.mod RTent.stay T4.out.mod).at j hjN;have c0:=hd0 (by decide);have c1:=hdj 1 (by decide) (by decide);have c2:=hdj 2 (by decide) (by decide);obtain ⟨a2,rfl,-,cs,-,hc0,hcj,rfl,hr,hi1,hi2⟩:=(HX.out.mod RRat.stay T4.out.mod).at j hjx;have x0:=hc0 (by decide);have x1:=hcj 1 (by decide) (by decide);simp only [List.getElem?_cons_zero,List.getElem?_cons_succ] at c0 c1 c2 x0 x1;unfold I64 at hi1 hi2 ht1 ht2 ht3;have HU:=Hi (fun W=>under_any _ _ _ _ _ W ht1 ht2 ht3 hi1 hi2);have HPR:=prod_at (f:=(ga,gb)) hjN hjx;rw [hpr] at HPR;have hui:=fun (u:Int×Int) (hu:Vr.underR (ts[j]).start (ts[j]).peak (ts[j]).stop xs[j].1 xs[j].2=some u)=>under_in hu
     generalize Vr.underR (ts[j]).start (ts[j]).peak (ts[j]).stop xs[j].1 xs[j].2=ur at *
     have x0':∀ W,Mod [] wr W->W.cell? (a2.add (j*2))=some (.int .i64 xs[j].1):=fun W m=>cell_stays m x0
     have x1':∀ W,Mod [] wr W->W.cell? ⟨(a2.add (j*2)).block,(a2.add (j*2)).off+1,none⟩=some (.int .i64 xs[j].2):=fun W m=>cell_stays m x1
     generalize xs[j].1=xa' at *
     generalize xs[j].2=xb at *
     generalize (ts[j]).start=t0 at *
     generalize (ts[j]).peak=t1 at *
     generalize (ts[j]).stop=t2 at *
     clear hi1 hi2 ht1 ht2 ht3 hr hd0 hdj hc0 hcj HTT x0 x1;have T5:=Hi (T4.out.alloc #[.int .i64 t0,.int .i64 t1,.int .i64 t2] 38);have mAl:Mod [] wr (wr.alloc (.cells #[.int .i64 t0,.int .i64 t1,.int .i64 t2] 38)):=(Mod.refl _ _).alloc _;clear T4;go_upto_region 13 with fail;have X0:∀ W,Mod [] (wr.alloc (.cells #[.int .i64 t0,.int .i64 t1,.int .i64 t2] 38)) W->W.cell? (a2.add (j*2))=some (.int .i64 xa'):=fun W m=>x0' W (mAl.then m)
     have X1:∀ W,Mod [] (wr.alloc (.cells #[.int .i64 t0,.int .i64 t1,.int .i64 t2] 38)) W->W.cell? ⟨(a2.add (j*2)).block,(a2.add (j*2)).off+1,none⟩=some (.int .i64 xb):=fun W m=>x1' W (mAl.then m)
     generalize wr.alloc (.cells #[.int .i64 t0,.int .i64 t1,.int .i64 t2] 38)=W5 at *
     generalize wr.heap.size=b8 at *
     clear c0 c1 c2 x0' x1' mAl;have A1:=(T5.out.at 1 rfl).every;have A2:=(T5.out.at 2 rfl).every;cases ur with
     | none =>
      simp only at HPR;subst HPR;have HU':=Hi (show ∀ W,Calls Try.prog 34 #[.agg #[.int .i64 t0,.int .i64 t1,.int .i64 t2],.agg #[.int .i64 xa',.int .i64 xb]] W fun e w'=>e=.panicked [{ v:=.iface 40 (.int .i64 3),recovered:=false }]/\Mod [] W w' from HU.out);clear hpr hga hgb hui HU;refine Dm.wp_region_doom [true,true,true,true,true,true,false,false,false,false,false,false] [] 6 (fun c _=>c=[{ v:=.iface 40 (.int .i64 3),recovered:=false }]) (by kernel_rfl) rfl rfl (by kernel_rfl) ?hAlD217 ?hQ ?mainD217
      case hAlD217=>(intro i hi;cases hi)
      case mainD217 =>
       simp only [pickM]
       iterate 6
        refine sv ?_
       refine steady_done ?_;intro w' hw';go_wp2_with fail;refine (HU'.out _).mono ?_;rintro e w4 ⟨rfl,m4⟩;go_wp2_with fail;exact hw'.then m4
      case hQ =>
       intro c a' w' hG hm hc;subst hc;have s4:=hG.slot 4 (by kernel_rfl);have hd:=hG.defers;simp only [List.getElem?_toArray,List.getElem?_cons_succ,List.getElem?_cons_zero] at s4;have T6:=Hi (T5.out.call hm);simp only [Exit.inBlock,Exit.then];change bodyPostD _ _ _ _ _ _;unfold bodyPostD;simp only;rw [hd];simp only;refine leaves_cons (f:=29) (args:=#[.pointer (some ⟨w.heap.size+1,0,none⟩)]) (by simp) (by simp [go_sem]) ?_;refine (fac1_panic (w.heap.size+1) _ _ _ _ [] _ (T6.out.at 1 rfl)).mono ?_;rintro e u' w'' ⟨rfl,rfl,rfl⟩;obtain ⟨r0,r1,M⟩:=told_end T6.out 1 rfl (.int .i64 0) (.int .i64 0);have HM:=Hi M;generalize (w'.setCell ⟨w.heap.size+1,0,none⟩ (.int .i64 0)).setCell ⟨w.heap.size+1,1,none⟩ (.int .i64 0)=W9 at *
       simp [Leaves,settle,results,Try.results12,go_sem,r0,r1,s4];exact HM.out
     | some u =>
      obtain ⟨ua,ub⟩:=u;have hin:=hui (ua,ub) rfl;have HU':=Hi (show ∀ W,Calls Try.prog 34 #[.agg #[.int .i64 t0,.int .i64 t1,.int .i64 t2],.agg #[.int .i64 xa',.int .i64 xb]] W fun e w'=>e=.returned (.agg #[.int .i64 ua,.int .i64 ub])/\Mod [] W w' from HU.out);simp only at hin HPR;have HMu:=Hi (fun W=>mul_any ga gb ua ub W (by omega) (by omega) (by omega) (by omega));have hmi:=mulR_in ga gb ua ub;obtain ⟨⟨na,nb,nc⟩,hmv⟩:∃ t,Rat.mulR ga gb ua ub=t:=⟨_,rfl⟩
      rw [hmv] at HPR HMu hmi;simp only at HPR hmi;clear hpr hga hgb hui hin HU hmv;cases nc with
      | false =>
       simp only [Bool.false_eq_true,if_false] at HPR;subst HPR;have HN:=Hi (fun W=>must_no na nb W);refine Dm.wp_region_doom [true,true,true,true,true,true,true,true,true,true,false,false] [] 10 (fun c _=>c=[{ v:=.iface 40 (.int .i64 3),recovered:=false }]) (by kernel_rfl) rfl rfl (by kernel_rfl) ?hAlD295 ?hQ ?mainD295
       case hAlD295=>(intro i hi;cases hi)
       case mainD295 =>
        simp only [pickM]
        iterate 6
         refine sv ?_
        refine sc (a':=?_) (fun w' hw' K Q hK=>?_) ?_ ?_;rotate_left
        ·go_wp2_with fail;refine ((calls_mod HU'.out) _ hw').mono ?_;rintro e w'' ⟨rfl,m''⟩;go_wp2_with fail;exact hK _ m''
        ·rfl
        refine sc (a':=?_) (fun w' hw' K Q hK=>?_) ?_ ?_;rotate_left
        ·go_wp2_with fail;refine ((calls_mod HMu.out) _ hw').mono ?_;rintro e w'' ⟨rfl,m''⟩;go_wp2_with fail;exact hK _ m''
        ·rfl
        iterate 2
         refine sv ?_
        refine steady_done ?_;intro w' hw';go_wp2_with fail;refine (HN.out _).mono ?_;rintro e w4 ⟨rfl,m4⟩;go_wp2_with fail;exact hw'.then m4
       case hQ =>
        intro c a' w' hG hm hc;subst hc;have s4:=hG.slot 4 (by kernel_rfl);have hd:=hG.defers;simp only [List.getElem?_toArray,List.getElem?_cons_succ,List.getElem?_cons_zero] at s4;have T6:=Hi (T5.out.call hm);simp only [Exit.inBlock,Exit.then];change bodyPostD _ _ _ _ _ _;unfold bodyPostD;simp only;rw [hd];simp only;refine leaves_cons (f:=29) (args:=#[.pointer (some ⟨w.heap.size+1,0,none⟩)]) (by simp) (by simp [go_sem]) ?_;refine (fac1_panic (w.heap.size+1) _ _ _ _ [] _ (T6.out.at 1 rfl)).mono ?_;rintro e u' w'' ⟨rfl,rfl,rfl⟩;obtain ⟨r0,r1,M⟩:=told_end T6.out 1 rfl (.int .i64 0) (.int .i64 0);have HM:=Hi M;generalize (w'.setCell ⟨w.heap.size+1,0,none⟩ (.int .i64 0)).setCell ⟨w.heap.size+1,1,none⟩ (.int .i64 0)=W9 at *
        simp [Leaves,settle,results,Try.results12,go_sem,r0,r1,s4];exact HM.out
      | true =>
       simp only [if_true] at HPR;have HNX:=Hi (And.intro HPR.symm hmi);have HMm:=Hi (fun W=>must_ok na nb W);clear HPR hmi;refine wp_region_mask 11 [true,true,true,true,true,true,true,true,true,true,true] [] (by kernel_rfl) (by kernel_rfl) (by simp) ?_;simp only [pickM]
       iterate 6
        refine sv ?_
       refine sc (a':=?_) (fun w' hw' K Q hK=>?_) ?_ ?_;rotate_left
       ·go_wp2_with fail;refine ((calls_mod HU'.out) _ hw').mono ?_;rintro e w'' ⟨rfl,m''⟩;go_wp2_with fail;exact hK _ m''
       ·rfl
       refine sc (a':=?_) (fun w' hw' K Q hK=>?_) ?_ ?_;rotate_left
       ·go_wp2_with fail;refine ((calls_mod HMu.out) _ hw').mono ?_;rintro e w'' ⟨rfl,m''⟩;go_wp2_with fail;exact hK _ m''
       ·rfl
       iterate 2
        refine sv ?_
       refine sc (a':=?_) (fun w' hw' K Q hK=>?_) ?_ ?_;rotate_left
       ·go_wp2_with fail;refine ((calls_mod HMm.out) _ hw').mono ?_;rintro e w'' ⟨rfl,m''⟩;go_wp2_with fail;exact hK _ m''
       ·rfl
       refine steady_done ?_;refine lates_end (fun w' hw' _=>?_);simp only [List.drop_succ_cons,List.drop_zero];have T6:=Hi (T5.out.call hw');clear A1 A2 X0 X1 hw' T5 HU' HMu HMm;have T7:=Hi (Own.left (l:=[(w.heap.size,#[.slice (some a3) ts.length tc],36),(w.heap.size+1,#[.int .i64 na,.int .i64 nb],64)]) (l':=[(b8,#[.int .i64 t0,.int .i64 t1,.int .i64 t2],38)]) ((T6.out.set 1 rfl 0 (.int .i64 na)).set 1 rfl 1 (.int .i64 nb)));obtain ⟨q0,q1,z0,z1⟩:=(T6.out.at 1 rfl).two;go_upto_region 14 with fail;generalize (w'.setCell ⟨w.heap.size+1,0,none⟩ (.int .i64 na)).setCell ⟨w.heap.size+1,1,none⟩ (.int .i64 nb)=W7 at *
       clear q0 q1 z0 z1 T6;have e1:IntKind.i64.wrap ((j:Int)+1)=(j:Int)+1:=IntWalk.i64_in _ (by have:=HN.out;omega);go_wp2_with fail;go_roundg (gk - 1)
       case measure=>have:=hj.out;omega
       case rel=>exact ⟨j+1,na,nb,by have:=hj.out;show j+1+(gk - 1)=ts.length;omega,by rw [Int.natCast_add];rfl,T7.out,HNX.out.1,HNX.out.2.1,HNX.out.2.2⟩
    ·have hjN':j=ts.length:=by have:=hj.out;omega
     subst hjN';have k1:decide ((ts.length:Int)<(ts.length:Int))=false:=decide_eq_false (by omega);obtain ⟨T4,hpr,hga,hgb⟩:=HTT.out;have T4:=Hi T4;have hfin:res=some (ga,gb):=by
      rw [<- hpr,List.drop_eq_nil_of_le (by simp)];unfold Vr.prodR;rfl
     subst hfin;clear hpr hga hgb HTT;obtain ⟨q0,q1,z0,z1⟩:=(T4.out.at 1 rfl).two;go_wp2_with fail;obtain ⟨r0,r1,M⟩:=told_end T4.out 1 rfl (.int .i64 ga) (.int .i64 gb);have HM:=Hi M;clear M z0 z1 q0 q1 T4;generalize (wr.setCell ⟨w.heap.size+1,0,none⟩ (.int .i64 ga)).setCell ⟨w.heap.size+1,1,none⟩ (.int .i64 gb)=W9 at *
     refine leaves_cons (f:=29) (args:=#[.pointer (some ⟨w.heap.size+1,0,none⟩)]) (by simp) (by simp [go_sem]) ?_;refine (fac1_idle _ _).mono ?_;rintro e u' w'' ⟨rfl,rfl,rfl⟩;simp [Leaves,settle,results,Try.results12,go_sem,r0,r1];exact HM.out
theorem Try.und_FMap:Try.prog.underlying 68=some (.map 3 64):=by kernel_rfl
theorem Try.zero_Ratio (w:World):(zeroValue 64).run Try.prog w=.ok (.agg #[.int .i64 0,.int .i64 0]) w:=by kernel_rfl
def ratV (x:Int×Int):Value:=.agg #[.int .i64 x.1,.int .i64 x.2]
def FacMap (w:World) (fb:Nat) (regs:List DRegion) (xs:List (Int×Int)):Prop :=
 ∃ m,IMap w fb m/\∀ p∈m,∃ i:Nat,∃ h:i<regs.length,p.1=(i:Int)/\p.2=ratV (Vr.factorR (regs[i]).tents xs)
theorem FacMap.mod {w w':World} {fb:Nat} {regs:List DRegion} {xs:List (Int×Int)} (h:FacMap w fb regs xs) (m:Mod [] w w'):FacMap w' fb regs xs:=by
 obtain ⟨q,h1,h2⟩:=h;exact ⟨q,h1.mod m,h2⟩
theorem FacMap.of {w w':World} {fb:Nat} {regs:List DRegion} {xs:List (Int×Int)} (h:FacMap w fb regs xs) (m:w'.heap[fb]?=w.heap[fb]?):FacMap w' fb regs xs:=by
 obtain ⟨q,h1,h2⟩:=h;exact ⟨q,h1.of m,h2⟩
def spotCells (u:Int) (g c l fe ax rg fu cv at':Hd) (fb:Nat):Array Value:=#[.int .i64 u,.slice g.a g.n g.c,.slice c.a c.n c.c,.slice l.a l.n l.c,.slice fe.a fe.n fe.c,.slice ax.a ax.n ax.c,.slice rg.a rg.n rg.c,.slice fu.a fu.n fu.c,.slice cv.a cv.n cv.c,.slice at'.a at'.n at'.c,.map (some fb)]
theorem look_fac {m : List (Int × Value)} {regs : List DRegion} {xs : List (Int × Int)} (h : ∀ p ∈ m, ∃ i : Nat, ∃ h : i < regs.length, p.1 = (i : Int) /\ p.2 = ratV (Vr.factorR (regs[i]).tents xs)) {i : Nat} (hi : i < regs.length) {v : Value} (hv : lookM m (i : Int) = some v) : v = ratV (Vr.factorR (regs[i]).tents xs) := by
  unfold lookM at hv
  cases hf : m.find? (fun p => p.1 == (i : Int)) with
  | none => rw [hf] at hv; cases hv
  | some p =>
    rw [hf] at hv
    simp only [Option.map_some, Option.some.injEq] at hv
    have h1 := List.find?_some hf
    have h2 := List.mem_of_find?_eq_some hf
    obtain ⟨k, hk, e1, e2⟩ := h p h2
    have : k = i := by have : (k : Int) = (i : Int) := by rw [<- e1]; simpa using h1
                       omega
    subst this
    rw [<- hv, e2]
theorem put_fac {m:List (Int×Value)} {regs:List DRegion} {xs:List (Int×Int)} (h:∀ p∈m,∃ i:Nat,∃ h:i<regs.length,p.1=(i:Int)/\p.2=ratV (Vr.factorR (regs[i]).tents xs)) {i:Nat} (hi:i<regs.length) :
  ∀ p∈putM m (i:Int) (ratV (Vr.factorR (regs[i]).tents xs)),∃ i:Nat,∃ h:i<regs.length,p.1=(i:Int)/\p.2=ratV (Vr.factorR (regs[i]).tents xs):=by
 intro p hp;unfold putM at hp
 split at hp
 ·obtain ⟨q,hq,rfl⟩:=List.mem_map.1 hp
  split
  ·exact ⟨i,hi,rfl,rfl⟩
  ·exact h q hq
 ·rcases List.mem_append.1 hp with hp | hp
  ·exact h p hp
  ·obtain rfl:=List.mem_singleton.1 hp;exact ⟨i,hi,rfl,rfl⟩
set_option maxHeartbeats 4000000 in
theorem sfactor_any (u:Int) (g c l fe ax rg fu cv at':Hd) (fb:Nat) (regs:List DRegion) (xs:List (Int×Int)) (B B2:Nat) (w0 w:World) (hm:Mod [] w0 w) (hfb:w0.heap.size<=fb) (i:Nat) (hi:i<regs.length)
  (hR:Rows 1 RRegion B w0 (.slice rg.a rg.n rg.c) regs) (hX:Rows 2 RRat B2 w (.slice at'.a at'.n at'.c) xs) (hF:FacMap w fb regs xs) :
  Calls Try.prog 67 #[.agg (spotCells u g c l fe ax rg fu cv at' fb),.int .i64 (i:Int)] w fun e w'=>e=.returned (ratV (Vr.factorR (regs[i]).tents xs))/\Mod [fb] w w'/\FacMap w' fb regs xs:=by
 obtain ⟨rga,rgn,rgc⟩:=rg;obtain ⟨ata,atn,atc⟩:=at';simp only at hR hX;obtain ⟨m,hM,hmm⟩:=hF;have hrn:rgn=regs.length:=by obtain ⟨oa,cap,he,_⟩:=hR;cases he;rfl
 have han:atn=xs.length:=by obtain ⟨oa,cap,he,_⟩:=hX;cases he;rfl
 subst hrn han;have hfl:fb<w.heap.size:=hM.lt;have T:=Hi (own2 w (spotCells u g c l fe ax ⟨rga,regs.length,rgc⟩ fu cv ⟨ata,xs.length,atc⟩ fb) 70 #[.int .i64 0,.int .i64 0] 64);obtain ⟨a,rfl,-,cs,-,hc0,-,tv,rfl,hTr⟩:=(hR.mod RRegion.stay hm).at i hi;have c0:=hc0 (by decide);simp only [List.getElem?_cons_zero] at c0;rw [Nat.mul_one] at c0;have hi0:(0:Int)<=(i:Int):=by omega
 have hi1:(i:Int)<(regs.length:Int):=by omega
 have HF:=Hi (fun W (mW:Mod [] w W)=>factor_any (regs[i]).tents xs tv (.slice ata xs.length atc) B B2 W (hTr.mod RTent.stay mW) (hX.mod RRat.stay mW));have HMM:=Hi (And.intro hmm hi);have hL:∀ W,Mod [] w W->(Instr.lookup 68 (.map (some fb)) (.int .i64 (i:Int)) true).run Try.prog W=.ok (.tuple #[(lookM m (i:Int)).getD (.agg #[.int .i64 0,.int .i64 0]),.bool (lookM m (i:Int)).isSome]) W:=fun W mW=>run_look (hM.mod mW) Try.und_FMap Try.underlying3 (Try.zero_Ratio W) (i:Int) true
 obtain ⟨ta,tc,rfl,-⟩:=hTr.form;unfold spotCells at T ⊢;unfold ratV;simp only at T ⊢;cases hlk:lookM m (i:Int) with
 | some v =>
  have hv:=look_fac hmm hi hlk;rw [hlk,hv] at hL;unfold ratV at hL;simp only [Option.getD_some,Option.isSome_some] at hL;generalize Vr.factorR (regs[i]).tents xs=fr at *
  obtain ⟨fa,fb'⟩:=fr;simp only at hL HF;have HM:=Hi (And.intro hM hmm);clear hM hmm hm hR hX hTr hc0 hlk hv;go_enter Try.func67,Try.ntmps67;go_upto_region 1 with fail;have hL1:=hL _ T.out.mod;generalize (w.alloc (.cells #[.int .i64 u,.slice g.a g.n g.c,.slice c.a c.n c.c,.slice l.a l.n l.c,.slice fe.a fe.n fe.c,.slice ax.a ax.n ax.c,.slice (some a) regs.length rgc,.slice fu.a fu.n fu.c,.slice cv.a cv.n cv.c,.slice ata xs.length atc,.map (some fb)] 70)).alloc (.cells #[.int .i64 0,.int .i64 0] 64)=W0 at *
  have p10:W0.cell? ⟨w.heap.size,10,none⟩=some (.map (some fb)):=by rw [(T.out.at 0 rfl).cell];rfl
  have T2:=Hi (T.out.alloc #[.int .i64 fa,.int .i64 fb'] 64);go_upto_region 2 with fail;generalize W0.alloc (.cells #[.int .i64 fa,.int .i64 fb'] 64)=W2 at *
  generalize W0.heap.size=b5 at *
  clear T p10 hL1 hL HF c0;obtain ⟨q0,q1,z0,z1⟩:=(T2.out.at 1 rfl).two;obtain ⟨p0,p1,-,-⟩:=(T2.out.at 2 rfl).two;go_wp2_with fail;obtain ⟨r0,r1,M⟩:=told_end T2.out 1 rfl (.int .i64 fa) (.int .i64 fb');have HMd:=Hi M;clear M p0 p1 q0 q1 z0 z1;generalize (W2.setCell ⟨w.heap.size+1,0,none⟩ (.int .i64 fa)).setCell ⟨w.heap.size+1,1,none⟩ (.int .i64 fb')=W9 at *
  exact bodyPost_ret (v:=.agg #[.int .i64 fa,.int .i64 fb']) (by simp [results,Try.results67,go_sem,r0,r1]) rfl ⟨rfl,HMd.out.more (by simp),(FacMap.mod ⟨m,HM.out.1,HM.out.2⟩ HMd.out)⟩
 | none =>
  rw [hlk] at hL;simp only [Option.getD_none,Option.isSome_none] at hL;have HPF:=Hi (put_fac hmm hi);unfold ratV at HPF;generalize Vr.factorR (regs[i]).tents xs=fr at *
  obtain ⟨fa,fb'⟩:=fr;simp only at HF HPF;have HM:=Hi (And.intro hM hmm);clear hM hmm hm hR hX hTr hc0 hlk;go_enter Try.func67,Try.ntmps67;go_upto_region 1 with fail;have hL1:=hL _ T.out.mod;generalize (w.alloc (.cells #[.int .i64 u,.slice g.a g.n g.c,.slice c.a c.n c.c,.slice l.a l.n l.c,.slice fe.a fe.n fe.c,.slice ax.a ax.n ax.c,.slice (some a) regs.length rgc,.slice fu.a fu.n fu.c,.slice cv.a cv.n cv.c,.slice ata xs.length atc,.map (some fb)] 70)).alloc (.cells #[.int .i64 0,.int .i64 0] 64)=W0 at *
  have p10:W0.cell? ⟨w.heap.size,10,none⟩=some (.map (some fb)):=by rw [(T.out.at 0 rfl).cell];rfl
  have T2:=Hi (T.out.alloc #[.int .i64 0,.int .i64 0] 64);go_upto_region 4 with fail;generalize W0.alloc (.cells #[.int .i64 0,.int .i64 0] 64)=W2 at *
  generalize W0.heap.size=b5 at *
  clear T p10 hL1 hL;have A0:=(T2.out.at 0 rfl).every;have Y0:∀ W,Mod [] W2 W->W.cell? (a.add i)=some (.slice ta (regs[i]).tents.length tc):=fun W mW=>cell_stays (T2.out.mod.then mW) c0
  have HF2:=Hi (fun W (mW:Mod [] W2 W)=>HF.out W (T2.out.mod.then mW));clear c0 HF;refine wp_region_mask 10 [true,true,true,true,true,true,true,true,true,false] [(9,NewBlk W2.heap.size #[.int .i64 0,.int .i64 0] 64)] (by kernel_rfl) (by kernel_rfl) (by simp [NewBlk.stays]) ?_;simp only [pickM]
  iterate 8
   refine sv ?_
  refine sc (a':=?_) (fun w' hw' K Q hK=>?_) ?_ ?_;rotate_left
  ·go_wp2_with fail;refine ((HF2.out) _ hw').mono ?_;rintro e w'' ⟨rfl,m''⟩;go_wp2_with fail;exact hK _ m''
  ·rfl
  refine steady_done ?_;refine lates_one rfl rfl (late_alloc ?_) (fun v7 w' hw' hF=>?_)
  ·intro w';go_simp
  obtain ⟨-,b7,rfl,hb7,B7⟩:=hF;simp only [List.drop_succ_cons,List.drop_zero];have T3:=Hi (T2.out.new hw' hb7 B7);clear A0 Y0 HF2 T2 hw' B7;have T4:=Hi ((T3.out.set 3 rfl 0 (.int .i64 fa)).set 3 rfl 1 (.int .i64 fb'));obtain ⟨q0,q1,z0,z1⟩:=(T3.out.at 3 rfl).two;go_upto_region 5 with fail;generalize (w'.setCell ⟨b7,0,none⟩ (.int .i64 fa)).setCell ⟨b7,1,none⟩ (.int .i64 fb')=W4 at *
  clear q0 q1 z0 z1 T3;obtain ⟨q0,q1,z0,z1⟩:=(T4.out.at 3 rfl).two;have p10:W4.cell? ⟨w.heap.size,10,none⟩=some (.map (some fb)):=by rw [(T4.out.at 0 rfl).cell];rfl
  obtain ⟨W5,hmu,hM5,o1,o2,o3,o4,o5⟩:=run_put (P:=Try.prog) (HM.out.1.mod T4.out.mod) Try.und_FMap Try.underlying3 (i:Int) (.agg #[.int .i64 fa,.int .i64 fb']);go_upto_region 6 with fail;have bne1:w.heap.size+1≠fb:=by omega
  have bge7:=T4.out.ge 3 rfl;have bne7:b7≠fb:=by omega
  have HB7:Blk W5 b7 #[.int .i64 fa,.int .i64 fb'] 64:=(o5 b7 bne7).trans (T4.out.at 3 rfl);have HB1:Blk W5 (w.heap.size+1) #[.int .i64 0,.int .i64 0] 64:=(o5 _ bne1).trans (T4.out.at 1 rfl);have HM5:Mod [fb] w W5:=⟨o1.trans T4.out.mod.os,o2.trans T4.out.mod.tape,o3.trans T4.out.mod.output,by have:=T4.out.mod.size;omega,fun k hk hn=>by rw [o5 k (by simpa using hn)];exact T4.out.mod.block k hk (by simp)⟩
  have HM5':=Hi HM5;have HFM:=Hi (show FacMap W5 fb regs xs from ⟨_,hM5,by have:=HPF.out;unfold ratV;exact this⟩);clear hmu hM5 o1 o2 o3 o4 o5 q0 q1 z0 z1 p10 T4 HM5;obtain ⟨q0,q1,z0,z1⟩:=HB1.two;obtain ⟨p0,p1,-,-⟩:=HB7.two;have T6:=Hi ((HB1.set 0 (.int .i64 fa)).set 1 (.int .i64 fb'));have HM6:=Hi ((HM5'.out.setNew (p:=⟨w.heap.size+1,0,none⟩) (by simp) (.int .i64 fa)).setNew (p:=⟨w.heap.size+1,1,none⟩) (by simp) (.int .i64 fb'));have HFM6:=Hi (HFM.out.of (w':=(W5.setCell ⟨w.heap.size+1,0,none⟩ (.int .i64 fa)).setCell ⟨w.heap.size+1,1,none⟩ (.int .i64 fb')) (by rw [Below.heap_setCell _ _ _ _ (Ne.symm bne1),Below.heap_setCell _ _ _ _ (Ne.symm bne1)]));clear HB1 HB7;go_wp2_with fail;clear p0 p1 q0 q1 z0 z1;generalize (W5.setCell ⟨w.heap.size+1,0,none⟩ (.int .i64 fa)).setCell ⟨w.heap.size+1,1,none⟩ (.int .i64 fb')=W9 at *
  have r0:=T6.out.cell 0;have r1:=T6.out.cell 1;simp at r0 r1;exact bodyPost_ret (v:=.agg #[.int .i64 fa,.int .i64 fb']) (by simp [results,Try.results67,go_sem,r0,r1]) rfl ⟨rfl,HM6.out,HFM6.out⟩
def Vr.grownR (s:Int×Int) (n:Int) (f:Int×Int):Option (Int×Int) :=
 if (Rat.makeR n 1).2.2=true then
  if (Rat.mulR (Rat.makeR n 1).1 (Rat.makeR n 1).2.1 f.1 f.2).2.2=true then
   if (Rat.addR s.1 s.2 (Rat.mulR (Rat.makeR n 1).1 (Rat.makeR n 1).2.1 f.1 f.2).1 (Rat.mulR (Rat.makeR n 1).1 (Rat.makeR n 1).2.1 f.1 f.2).2.1).2.2=true then
    some ((Rat.addR s.1 s.2 (Rat.mulR (Rat.makeR n 1).1 (Rat.makeR n 1).2.1 f.1 f.2).1 (Rat.mulR (Rat.makeR n 1).1 (Rat.makeR n 1).2.1 f.1 f.2).2.1).1,(Rat.addR s.1 s.2 (Rat.mulR (Rat.makeR n 1).1 (Rat.makeR n 1).2.1 f.1 f.2).1 (Rat.mulR (Rat.makeR n 1).1 (Rat.makeR n 1).2.1 f.1 f.2).2.1).2.1)
   else none
  else none
 else none
theorem makeR_one_in (n:Int) (h:I64 n):(Rat.makeR n 1).1=n/\(Rat.makeR n 1).2.1=1∨(Rat.makeR n 1).2.2=false:=by
 by_cases h0:n=-9223372036854775808
 ·subst h0;right;decide +kernel
 ·left;unfold I64 at h;rw [make_one n (by omega)];exact ⟨rfl,rfl⟩
theorem addR_in (a b c d:Int):(-9223372036854775807<=(Rat.addR a b c d).1/\(Rat.addR a b c d).1<=9223372036854775807)/\(-9223372036854775807<=(Rat.addR a b c d).2.1/\(Rat.addR a b c d).2.1<=9223372036854775807):=by
 unfold Rat.addR
 split
 ·exact toldR_in _ _ _
 ·simp
theorem grownR_in {s:Int×Int} {n:Int} {f r:Int×Int} (h:Vr.grownR s n f=some r):I64 r.1/\I64 r.2:=by
 unfold Vr.grownR at h
 split at h
 ·split at h
  ·split at h
   ·have e:=Option.some.inj h;subst e;have:=addR_in s.1 s.2 (Rat.mulR (Rat.makeR n 1).1 (Rat.makeR n 1).2.1 f.1 f.2).1 (Rat.mulR (Rat.makeR n 1).1 (Rat.makeR n 1).2.1 f.1 f.2).2.1;unfold I64;simp only;omega
   ·cases h
  ·cases h
 ·cases h
set_option maxHeartbeats 4000000 in
theorem grown_any (sa sb n fa fb:Int) (w:World) (h1:I64 sa) (h2:I64 sb) (h3:I64 n) (h4:I64 fa) (h5:I64 fb) :
  Calls Try.prog 68 #[.agg #[.int .i64 sa,.int .i64 sb],.int .i64 n,.agg #[.int .i64 fa,.int .i64 fb]] w (UnderRes (Vr.grownR (sa,sb) n (fa,fb)) w):=by
 obtain ⟨rr,hr⟩:∃ rr,Vr.grownR (sa,sb) n (fa,fb)=rr:=⟨_,rfl⟩
 rw [hr];unfold Vr.grownR at hr;simp only at hr;have T:=Hi (own3 w #[.int .i64 sa,.int .i64 sb] 64 #[.int .i64 fa,.int .i64 fb] 64 #[.int .i64 0,.int .i64 0] 64);have HMk:=Hi (fun W=>make_any n 1 W h3 (by omega));have hin:=makeR_one_in n h3;unfold I64 at h1 h2 h3 h4 h5;generalize Rat.makeR n 1=mk at *
 obtain ⟨ma,mb,mc⟩:=mk;simp only at hr hin;cases mc with
 | false =>
  simp only [Bool.false_eq_true,if_false] at hr;subst hr;have HN:=Hi (fun W=>must_no ma mb W);clear h1 h2 h3 h4 h5 hin;go_enter Try.func68,Try.ntmps68;go_upto_region 1 with fail;generalize ((w.alloc (.cells #[.int .i64 sa,.int .i64 sb] 64)).alloc (.cells #[.int .i64 fa,.int .i64 fb] 64)).alloc (.cells #[.int .i64 0,.int .i64 0] 64)=W0 at *
  have A1:=(T.out.at 1 rfl).every;refine Dm.wp_region_doom [true,true,true,true,false,true,false,false,false,false,false,false] [10] 4 (fun c _=>c=[{ v:=.iface 40 (.int .i64 3),recovered:=false }]) (by kernel_rfl) rfl rfl (by kernel_rfl) ?hAlD69 ?hQ ?mainD69
  case hAlD69=>(intro i hi;simp only [List.mem_cons,List.not_mem_nil,or_false] at hi;rcases hi with rfl <;> (intro o ho;obtain rfl:=Option.some.inj ho;first | exact ⟨#[.int .i64 0,.int .i64 0],64,fun ρ w=>by go_simp⟩))
  case mainD69 =>
   simp only [pickM];refine sv ?_;refine sc (a':=?_) (fun w' hw' K Q hK=>?_) ?_ ?_;rotate_left
   ·go_wp2_with fail;refine ((calls_mod HMk.out) _ hw').mono ?_;rintro e w'' ⟨rfl,m''⟩;go_wp2_with fail;exact hK _ m''
   ·rfl
   iterate 3
    refine sv ?_
   refine steady_done ?_;intro w' hw';go_wp2_with fail;refine (HN.out _).mono ?_;rintro e w4 ⟨rfl,m4⟩;go_wp2_with fail;exact hw'.then m4
  case hQ =>
   intro c a' w' hG hm hc;subst hc;exact ⟨hG.defers,rfl,T.out.mod.then hm⟩
 | true =>
  obtain ⟨rfl,rfl⟩:=hin.resolve_right (by simp);simp only [if_true] at hr;have HMu:=Hi (fun W=>mul_any ma 1 fa fb W (by omega) (by omega) h4 h5);have hmi:=mulR_in ma 1 fa fb;have HA:=Hi (fun W=>must_ok ma 1 W);generalize Rat.mulR ma 1 fa fb=mu at *
  obtain ⟨pa,pb,pc⟩:=mu;simp only at hr hmi;cases pc with
  | false =>
   simp only [Bool.false_eq_true,if_false] at hr;subst hr;have HN:=Hi (fun W=>must_no pa pb W);clear h1 h2 h3 h4 h5 hin hmi;go_enter Try.func68,Try.ntmps68;go_upto_region 1 with fail;generalize ((w.alloc (.cells #[.int .i64 sa,.int .i64 sb] 64)).alloc (.cells #[.int .i64 fa,.int .i64 fb] 64)).alloc (.cells #[.int .i64 0,.int .i64 0] 64)=W0 at *
   have A1:=(T.out.at 1 rfl).every;refine Dm.wp_region_doom [true,true,true,true,true,true,true,true,true,false,false,false] [10] 9 (fun c _=>c=[{ v:=.iface 40 (.int .i64 3),recovered:=false }]) (by kernel_rfl) rfl rfl (by kernel_rfl) ?hAlD132 ?hQ ?mainD132
   case hAlD132=>(intro i hi;simp only [List.mem_cons,List.not_mem_nil,or_false] at hi;rcases hi with rfl <;> (intro o ho;obtain rfl:=Option.some.inj ho;first | exact ⟨#[.int .i64 0,.int .i64 0],64,fun ρ w=>by go_simp⟩))
   case mainD132 =>
    simp only [pickM];refine sv ?_;refine sc (a':=?_) (fun w' hw' K Q hK=>?_) ?_ ?_;rotate_left
    ·go_wp2_with fail;refine ((calls_mod HMk.out) _ hw').mono ?_;rintro e w'' ⟨rfl,m''⟩;go_wp2_with fail;exact hK _ m''
    ·rfl
    iterate 2
     refine sv ?_
    refine sc (a':=?_) (fun w' hw' K Q hK=>?_) ?_ ?_;rotate_left
    ·go_wp2_with fail;refine ((calls_mod HA.out) _ hw').mono ?_;rintro e w'' ⟨rfl,m''⟩;go_wp2_with fail;exact hK _ m''
    ·rfl
    refine sv ?_;refine sc (a':=?_) (fun w' hw' K Q hK=>?_) ?_ ?_;rotate_left
    ·go_wp2_with fail;refine ((calls_mod HMu.out) _ hw').mono ?_;rintro e w'' ⟨rfl,m''⟩;go_wp2_with fail;exact hK _ m''
    ·rfl
    iterate 2
     refine sv ?_
    refine steady_done ?_;intro w' hw';go_wp2_with fail;refine (HN.out _).mono ?_;rintro e w4 ⟨rfl,m4⟩;go_wp2_with fail;exact hw'.then m4
   case hQ =>
    intro c a' w' hG hm hc;subst hc;exact ⟨hG.defers,rfl,T.out.mod.then hm⟩
  | true =>
   simp only [if_true] at hr;have HAd:=Hi (fun W=>add_any sa sb pa pb W h1 h2 (by omega) (by omega));have HB:=Hi (fun W=>must_ok pa pb W);generalize Rat.addR sa sb pa pb=ad at *
   obtain ⟨ra,rb,rc⟩:=ad;simp only at hr;clear h1 h2 h3 h4 h5 hin hmi;go_enter Try.func68,Try.ntmps68;go_upto_region 1 with fail;generalize ((w.alloc (.cells #[.int .i64 sa,.int .i64 sb] 64)).alloc (.cells #[.int .i64 fa,.int .i64 fb] 64)).alloc (.cells #[.int .i64 0,.int .i64 0] 64)=W0 at *
   have A1:=(T.out.at 1 rfl).every;refine wp_region_mask 11 [true,true,true,true,true,true,true,true,true,true,false] [(10,NewBlk W0.heap.size #[.int .i64 0,.int .i64 0] 64)] (by kernel_rfl) (by kernel_rfl) (by simp [NewBlk.stays]) ?_;simp only [pickM];refine sv ?_;refine sc (a':=?_) (fun w' hw' K Q hK=>?_) ?_ ?_;rotate_left
   ·go_wp2_with fail;refine ((calls_mod HMk.out) _ hw').mono ?_;rintro e w'' ⟨rfl,m''⟩;go_wp2_with fail;exact hK _ m''
   ·rfl
   iterate 2
    refine sv ?_
   refine sc (a':=?_) (fun w' hw' K Q hK=>?_) ?_ ?_;rotate_left
   ·go_wp2_with fail;refine ((calls_mod HA.out) _ hw').mono ?_;rintro e w'' ⟨rfl,m''⟩;go_wp2_with fail;exact hK _ m''
   ·rfl
   refine sv ?_;refine sc (a':=?_) (fun w' hw' K Q hK=>?_) ?_ ?_;rotate_left
   ·go_wp2_with fail;refine ((calls_mod HMu.out) _ hw').mono ?_;rintro e w'' ⟨rfl,m''⟩;go_wp2_with fail;exact hK _ m''
   ·rfl
   iterate 2
    refine sv ?_
   refine sc (a':=?_) (fun w' hw' K Q hK=>?_) ?_ ?_;rotate_left
   ·go_wp2_with fail;refine ((calls_mod HB.out) _ hw').mono ?_;rintro e w'' ⟨rfl,m''⟩;go_wp2_with fail;exact hK _ m''
   ·rfl
   refine steady_done ?_;refine lates_one rfl rfl (late_alloc ?_) (fun v w' hw'=>?_)
   ·intro w';go_simp
   rintro ⟨-,b7,rfl,hb7,B7⟩;simp only [List.drop_succ_cons,List.drop_zero];have T2:=Hi (T.out.new hw' hb7 B7);have T3:=Hi ((T2.out.set 3 rfl 0 (.int .i64 pa)).set 3 rfl 1 (.int .i64 pb));obtain ⟨q0,q1,z0,z1⟩:=B7.two;clear B7 hb7 hw' T A1 HMk HMu HA HB;go_upto_region 2 with fail;generalize (w'.setCell ⟨b7,0,none⟩ (.int .i64 pa)).setCell ⟨b7,1,none⟩ (.int .i64 pb)=W3 at *
   clear q0 q1 z0 z1 T2;obtain ⟨p0,p1,-,-⟩:=(T3.out.at 0 rfl).two;obtain ⟨q0,q1,-,-⟩:=(T3.out.at 3 rfl).two;go_wp2_with fail;refine (HAd.out _).mono ?_;rintro e w4 ⟨rfl,m4⟩;have T4:=Hi (T3.out.call m4);clear m4 T3 p0 p1 q0 q1 HAd;go_wp2_with fail;cases rc with
   | false =>
    simp only [Bool.false_eq_true,if_false] at hr;subst hr;refine (must_no _ _ _).mono ?_;rintro e w5 ⟨rfl,m5⟩;go_wp2_with fail;exact ⟨rfl,rfl,(T4.out.call m5).mod⟩
   | true =>
    simp only [if_true] at hr;subst hr;refine (must_ok _ _ _).mono ?_;rintro e w5 ⟨rfl,m5⟩;have T5:=Hi (T4.out.call m5);clear m5 T4;obtain ⟨q0,q1,z0,z1⟩:=(T5.out.at 2 rfl).two;go_wp2_with fail;obtain ⟨r0,r1,M⟩:=told_end T5.out 2 rfl (.int .i64 ra) (.int .i64 rb);have HM:=Hi M;clear M z0 z1 q0 q1;generalize (w5.setCell ⟨w.heap.size+1+1,0,none⟩ (.int .i64 ra)).setCell ⟨w.heap.size+1+1,1,none⟩ (.int .i64 rb)=W9 at *
    exact bodyPost_ret (v:=.agg #[.int .i64 ra,.int .i64 rb]) (by simp [results,Try.results68,go_sem,r0,r1]) rfl ⟨rfl,HM.out⟩
end Go.Proofs.Ytlkkhkbafahchaa

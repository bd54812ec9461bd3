/- MkNext, MkSet, MkOutline, MkGlyphS, MkPiece, MkHint, MkGlyph. -/
import Derived.Test.YthheaflbbficgaaGreatGBase
import Derived.Test.YthheaflbbficgaaGreatGRing
import Derived.Deep.CutBlock
set_option linter.all false
namespace Go.Proofs.YthheaflbbficgaaGreat
set_option maxHeartbeats 8000000
open Go.RowKit
set_option maxRecDepth 100000
theorem oN {α β:Type} (f:α->List β) (l:List α):(l.map f).flatten=l.flatMap f:=by rw [List.flatMap_def]
theorem bi {w:World} {b:Nat} {cs:Array Value} {t:TypeId} {news:List Value} (h:Blk w b cs t) (e:cs.toList=news) {j:Nat} {u:Value} (hu:news[j]?=some u):w.cell? ((⟨b,0,none⟩:Addr).add j)=some u:=by
 have e1:(⟨b,0,none⟩:Addr).add j=⟨b,j,none⟩:=by unfold Addr.add;split <;> simp_all
 rw [e1,h.cell,<- hu,<- e,Array.getElem?_toList]
theorem jf {S:Bl} (w:World):∀ b,b<w.heap.size->(λ_=>False:Bl) b->S b:=λ_ _ h=>h.elim
theorem Mk.aR {α:Type} {n:Nat} {f:Nat->α->Mk.M α} {a b:α} {s t:Mk.S} (h:Mk.rep n f a s=(b,t)):Mk.rep (n+1) f a s=f n b t:=by rw [Mk.sN,h]
structure MF where
 u:Value
 gl:Value
 ch:Value
 lk:Value
 ft:Value
 ax:Value
 rg:Value
 fn:Value
 cv:Value
def mkC (sv:Value) (p:Nat) (f:MF) (lp:Int):Array Value:=#[sv,.int .i64 (p:Int),f.u,f.gl,f.ch,f.lk,f.ft,f.ax,f.rg,f.fn,f.cv,.int .i64 lp]
structure MK (m:Nat) (sv:Value) (l:List Int) (f:MF) (s:Mk.S) (w:World):Prop where
 blk:Blk w m (mkC sv (l.length - s.r.length) f s.lp) 72
 num:az 1 aF (· < m) w sv l
 suf:∃ p,l=p++s.r
 lp0:0<=s.lp
 lp1:s.lp<=1000000
theorem MK.stays {m:Nat} {sv:Value} {l:List Int} {f:MF} {s:Mk.S}:aG (MK m sv l f s):=λw w' h k=>⟨h.blk.kept k zk,h.num.mod aF.stay k,h.suf,h.lp0,h.lp1⟩
theorem MK.grown {m:Nat} {sv:Value} {l:List Int} {f:MF} {s:Mk.S} {w w':World} {row:Option Nat} (h:MK m sv l f s w) (g:w.grownBy w' row) (hr:∀ k,row=some k->m<k):MK m sv l f s w' :=
 ⟨h.blk.grew g (λhe=>by have:=hr m he;omega),h.num.same aF.stay (bC.grown g λk hk=>by have:=hr k hk;omega),h.suf,h.lp0,h.lp1⟩
theorem MK.set {m:Nat} {sv:Value} {l:List Int} {f:MF} {s:Mk.S} {w:World} (h:MK m sv l f s w) {p:Addr} (hp:m<p.block) (u:Value):MK m sv l f s (w.setCell p u) :=
 ⟨h.blk.other zo u,h.num.same aF.stay (bC.set w zo u),h.suf,h.lp0,h.lp1⟩
theorem Mk.Da (n:Int) (s:Mk.S):(Mk.next n s).2.lp=s.lp:=by unfold Mk.next;split <;> rfl
theorem Mk.jZ (n:Int) (s:Mk.S) (hn:0<n):0<=(Mk.next n s).1:=by
 unfold Mk.next;split
 ·exact Int.le_refl 0
 ·exact Int.emod_nonneg _ zo
theorem Mk.gg (n:Int) (s:Mk.S) (hn:0<n):(Mk.next n s).1<n:=by
 unfold Mk.next;split
 ·exact hn
 ·exact Int.emod_lt_of_pos _ hn
theorem vf (x n:Int) (hn:0<n):(x.tmod n+n).tmod n=x % n:=by
 have h1:=Int.emod_nonneg x (b:=n) zo;have h2:=Int.emod_lt_of_pos x hn;rw [Int.tmod_eq_emod (a:=x)]
 split
 ·rw [Int.tmod_eq_emod_of_nonneg zo];simp
 ·have e:(n.natAbs:Int)=n:=zo;rw [e,Int.tmod_eq_emod_of_nonneg zo];simp
theorem kL (x n:Int) (hn:0<n):-n<x.tmod n/\x.tmod n<n:=by
 have h1:=Int.emod_nonneg x (b:=n) zo;have h2:=Int.emod_lt_of_pos x hn;rw [Int.tmod_eq_emod (a:=x)]
 split <;> omega
theorem AU (m:Nat) (sv:Value) (l:List Int) (f:MF) (s:Mk.S) (w:World) (h:MK m sv l f s w) (n:Int) (hn:0<n) (hb:n<=1000000) :
  Calls Tryz.prog 19 #[.pointer (some ⟨m,0,none⟩),.int .i64 n] w λe w'=>e=.returned (.int .i64 (Mk.next n s).1)/\MK m sv l f (Mk.next n s).2 w'/\Mod [m] w w':=by
 obtain ⟨p,hp⟩:=h.suf;obtain ⟨oa,cap,rfl,hlen⟩:=h.num.form;have HM:=Hi h;have B0:∀ W,Mod [] w W->W.cell? ⟨m,0,none⟩=some (.slice oa l.length cap):=λW k=>(MK.stays _ _ h k).blk.cell 0
 have B1:∀ W,Mod [] w W->W.cell? ⟨m,1,none⟩=some (.int .i64 ((l.length - s.r.length:Nat):Int)):=λW k=>(MK.stays _ _ h k).blk.cell 1
 have hsl:s.r.length<=l.length:=by rw [hp];simp
 have HB:=Hi hb;clear hb;rcases hs:s.r with _ | ⟨x,r⟩
 ·have e1:Mk.next n s=(0,s):=by unfold Mk.next;rw [hs]
  rw [e1];rw [hs] at B1;simp only [List.length_nil,Nat.sub_zero] at B1;have k1:=dT (p:=(l.length:Int)<=l.length) (Int.le_refl _);clear hp hs e1 h hsl;go_enter Tryz.func19,Tryz.ntmps19;go_upto_region 1 with fail;refine ak 10 [true,true,true,true,true,true,true,true,true,true] [] zt zt zk ?_;simp only [aQ]
  iterate 10
   refine sv ?_
  refine au ?_;refine aB (λw' hw' _=>?_);simp only [qS,qZ];have HW:=Hi hw';clear hw' B0 B1;go_wp2;go_ret;exact ⟨rfl,MK.stays _ _ HM.o HW.o,HW.o.more zk⟩
 ·have e1:Mk.next n s=(x % n,⟨r,s.lp⟩):=by unfold Mk.next;rw [hs]
  rw [e1];have hr:s.r.length=r.length+1:=by rw [hs];rfl
  obtain ⟨q,hq⟩:∃ q,l.length - s.r.length=q/\q<l.length:=⟨_,rfl,by omega⟩
  rw [hq.1] at B1;have hlq:l[q]'hq.2=x:=by
   have:l[q]?=some x:=by
    rw [hp,hs,List.getElem?_append_right (by have:=hq.1;rw [hp,hs] at this;simp at this;omega)];have:=hq.1;rw [hp,hs] at this;simp at this;rw [show q - p.length=0 by omega];rfl
   rw [gE hq.2] at this;exact Option.some.inj this
  obtain ⟨a,rfl,ham,cs,-,hc0,-,hcs,hx⟩:=h.num.at q hq.2;rw [hlq] at hcs hx;subst hcs;have c0:=hc0 zd;simp only [gZ,Nat.mul_one] at c0;have C0:∀ W,Mod [] w W->W.cell? (a.add q)=some (.int .i64 x):=λW k=>aj k c0
  have k1:=dF (p:=(l.length:Int)<=q) (by have:=hq.2;omega);have k2:(0:Int)<=q:=zo;have k3:(q:Int)<l.length:=by have:=hq.2;omega
  have HQ:=Hi hq;have HSUF:=Hi (show ∃ p,l=p++r from ⟨p++[x],by rw [hp,hs];simp⟩);have HR:=Hi hr;have HSL:=Hi hsl;clear hc0 c0 hq hlq hp hs hr e1 ham h hsl hx;go_enter Tryz.func19,Tryz.ntmps19;go_upto_region 1 with fail;refine ak 10 [true,true,true,true,true,true,true,true,true,true] [] zt zt zk ?_;simp only [aQ]
  iterate 10
   refine sv ?_
  refine au ?_;refine aB (λw1 hw1 _=>?_);simp only [qS,qZ];have C1:∀ W,Mod [] w1 W->W.cell? (a.add q)=some (.int .i64 x):=λW k=>C0 W (hw1.then k)
  have D0:∀ W,Mod [] w1 W->W.cell? ⟨m,0,none⟩=some (.slice (some a) l.length cap):=λW k=>B0 W (hw1.then k)
  have D1:∀ W,Mod [] w1 W->W.cell? ⟨m,1,none⟩=some (.int .i64 (q:Int)):=λW k=>B1 W (hw1.then k)
  have HW1:=Hi hw1;clear hw1 C0 B0 B1;go_upto_region 3 with fail;refine ak 11 [true,true,true,true,true,true,true,true,true,true,true] [] zt zt zk ?_;simp only [aQ]
  iterate 11
   refine sv ?_
  refine au ?_;refine aB (λw2 hw2 _=>?_);simp only [qS,qZ];have D2:=D1 w2 hw2;have HW2:=Hi (HW1.o.then hw2);have F2:w2.frozen? ⟨m,1,none⟩=false:=(MK.stays _ _ HM.o HW2.o).blk.frozen 1;clear hw2 C1 D0 D1 HW1;have ei:IntKind.i64.wrap ((q:Int)+1)=(q:Int)+1:=IntWalk.i64_in _ (by have:=HQ.o.2;unfold maxLen at hlen;omega);have hn0:¬ n=0:=zo;have z1:IntKind.i64.wrap (x.tmod n)=x.tmod n:=IntWalk.i64_in _ (by have:=kL x n hn;have:=HB.o;omega);have z2:IntKind.i64.wrap (x.tmod n+n)=x.tmod n+n:=IntWalk.i64_in _ (by have:=kL x n hn;have:=HB.o;omega);have z3:IntKind.i64.wrap ((x.tmod n+n).tmod n)=(x.tmod n+n).tmod n:=IntWalk.i64_in _ (by have:=kL (x.tmod n+n) n hn;have:=HB.o;omega);go_wp2;go_ret;have h2:=MK.stays _ _ HM.o HW2.o;refine ⟨by rw [vf x n hn];rfl,⟨?_,?_,HSUF.o,h2.lp0,h2.lp1⟩,?_⟩
  ·have h3:=h2.blk.set 1 (.int .i64 ((q:Int)+1));have h4:l.length - s.r.length=q:=HQ.o.1;have h5:l.length - r.length=q+1:=by have h8:s.r.length=r.length+1:=HR.o;have h9:q<l.length:=HQ.o.2;have h7:s.r.length<=l.length:=HSL.o;omega
   rw [h4] at h3;show Blk _ _ (mkC _ (l.length - r.length) f s.lp) _;rw [h5];exact h3
  ·exact h2.num.same aF.stay (bC.set w2 zk _)
  ·exact (HW2.o.more zk).setCell (λ_=>by simp) _
theorem I64.of {x:Int} (h1:-1000000000<=x) (h2:x<=1000000000):I64 x:=by unfold I64;omega
theorem Mk.ai {α β:Type} {x:α×Mk.S} {a:α} {s:Mk.S} (h:x=(a,s)) (f:α->Mk.M β):Mk.bind x f=f a s:=by rw [h];rfl
theorem bF (m:Nat) (sv:Value) (l:List Int) (f:MF) (s:Mk.S) (n:Int) (hn:0<n) (hb:n<=1000000) {r:Int} {s':Mk.S} (he:Mk.next n s=(r,s')) (w:World) (h:MK m sv l f s w) :
  Calls Tryz.prog 19 #[.pointer (some ⟨m,0,none⟩),.int .i64 n] w λe w'=>e=.returned (.int .i64 r)/\MK m sv l f s' w'/\Mod [m] w w':=by
 have:=AU m sv l f s w h n hn hb;rw [he] at this;exact this
theorem ay {n:Int} {s s':Mk.S} {r:Int} (hn:0<n) (he:Mk.next n s=(r,s')):0<=r/\r<n/\s'.lp=s.lp:=by
 have h1:=Mk.jZ n s hn;have h2:=Mk.gg n s hn;have h3:=Mk.Da n s;rw [he] at h1 h2 h3;exact ⟨h1,h2,h3⟩
def nV (x:Int):List Value:=[.int .i64 x]
theorem pE:∀ (l:List Int),∀ u∈(l.map nV).flatten,u.oneCell'=true:=by
 intro l u hu;rw [oN,List.mem_flatMap] at hu;obtain ⟨d,_,hd⟩:=hu;simp [nV] at hd;subst hd;rfl
theorem uN (m : Nat) (sv : Value) (l : List Int) (f : MF) (s : Mk.S) (n : Nat) (hn : 0 < n) (hn1 : n <= 100000) {og : Option Addr} {cg : Nat} (hgl : f.gl = .slice og n cg) {rl : List Int} {rs : Mk.S} (he : Mk.set n s = (rl, rs)) (w : World) (h : MK m sv l f s w) :
    Calls Tryz.prog 134 #[.pointer (some ⟨m, 0, none⟩)] w λe w' => ∃ v, e = .returned v /\ az 1 aF (λb => w.heap.size <= b) w' v rl /\ MK m sv l f rs w' /\ Mod [m] w w' := by
  obtain ⟨a, s1, h1⟩ : ∃ a b, Mk.next n s = (a, b) := ⟨_, _, rfl⟩
  unfold Mk.set at he
  rw [Mk.ai h1] at he
  have C1 := Hi (bF m sv l f s n zo zo h1 w h)
  have i1 := ay zo h1
  obtain ⟨A, rfl⟩ : ∃ A : Nat, a = A := ⟨a.toNat, by omega⟩
  have hA : A < n :=zo
  have HE := Hi he
  have HA := Hi hA
  have CP := Hi (λst x st' e => bF m sv l f st 3 zd zd (r := x) (s' := st') e)
  have c3 : ∀ W, Mod [] w W -> W.cell? ⟨m, 3, none⟩ = some (.slice og n cg) := λW k => ((MK.stays _ _ h k).blk.cell 3).trans (congrArg some hgl)
  have b3 := c3 w mR
  have ea : IntKind.i64.wrap ((A : Int) + 1) = (A : Int) + 1 := IntWalk.i64_in _ zo
  have HMW := Hi h.blk.lt
  have HN := Hi hn1
  clear h1 he h i1 hn1 hgl hA c3
  obtain ⟨i0, hi, hz0, hz1, hz2⟩ := info_parts gN
  go_enter Tryz.func134, Tryz.ntmps134
  go_wp2_with fail
  refine C1.o.mono ?_
  rintro e w1 ⟨rfl, K1, M1⟩
  have HK := Hi K1
  have HM := Hi M1
  clear K1 M1 C1 b3
  go_wp2_with fail
  have HA2 := Hi (show I64 A from I64.of (by have := HN.o; have := HA.o; omega) (by have := HN.o; have := HA.o; omega))
  have HG1 : Hy (aH w.heap.size 3 1 aF (λ_ => False) (.slice (some ⟨w1.heap.size, 0, none⟩) 1 1) [(A : Int)] (w1.alloc (.cells #[.int .i64 (A : Int)] 3))) :=
    aH.made (l := [(A : Int)]) (css := [nV A]) aF.weak HM.o.size (Blk.new _ _ _) rfl (aP.one rfl ⟨rfl, HA2.o⟩) (λ_ _ h => h.elim) (by simp [maxLen])
  have HK1 := Hi (MK.stays _ _ HK.o (mR.alloc (.cells #[.int .i64 (A : Int)] 3)))
  have HM1 := Hi (HM.o.alloc (.cells #[.int .i64 (A : Int)] 3))
  clear HK HM
  generalize w1.alloc (.cells #[.int .i64 (A : Int)] 3) = w2 at *
  generalize some (⟨w1.heap.size, 0, none⟩ : Addr) = oa1 at *
  go_loopg [5, 6] (n - 1 - A) (λgk v5 i6 wr => ∃ (i : Nat) (L : List Int) (st : Mk.S) (oa : Option Addr) (cap : Nat), v5 = .slice oa L.length cap /\ i6 = .int .i64 (i : Int) /\ Hy (i + gk = n) /\ Hy (Mk.nJ n gk i L st = (rl, rs)) /\ Hy (L.length <= 4) /\ Hy (MK m sv l f st wr /\ Mod [m] w wr /\ aH w.heap.size 3 1 aF (λ_ => False) v5 L wr))
  case atStart =>
    refine ⟨A + 1, [(A : Int)], s1, oa1, 1, rfl, by rw [Int.natCast_add]; rfl, ?_, ?_, by show (1 : Nat) <= 4; decide, HK1.o, HM1.o, HG1.o⟩
    · have := HA.o; show A + 1 + (n - 1 - A) = n; omega
    · have h9 := HE.o
      have e9 : ((n : Int) - 1 - (A : Int)).toNat = n - 1 - A := by have := HA.o; omega
      rw [e9] at h9
      exact h9
  case round =>
    obtain ⟨i, L, st, oa, cap, rfl, rfl, hi5, HR, HL, HS⟩ := hrel
    clear HK1 HM1 HG1
    have stop : Mk.nJ n gk i L st = (L, st) -> L = rl /\ st = rs := λh => by have h9 := HR.o; rw [h] at h9; simpa using h9
    by_cases hin : i < n
    case neg =>
      obtain rfl : i = n := by have := hi5.o; omega
      have k1 : decide ((i : Int) < (i : Int)) = false := dF zo
      obtain ⟨rfl, rfl⟩ := stop (by have := hi5.o; obtain rfl : gk = 0 :=zo
                                    rfl)
      clear stop
      go_wp2
      go_ret
      exact ⟨_, rfl, HS.o.2.2.done zd aF.weak (jf _) (λb hb => (HS.o.2.2.lt b hb).1), HS.o.1, HS.o.2.1⟩
    have k1 : decide ((i : Int) < (n : Int)) = true := dT zo
    have k2 : (i : Int) < (n : Int) :=zo
    obtain ⟨g, rfl⟩ : ∃ g, gk = g + 1 := ⟨gk - 1, by have := hi5.o; omega⟩
    by_cases h4 : L.length < 4
    case neg =>
      have k3 : decide ((L.length : Int) < 4) = false := dF zo
      have k4 : ¬ (L.length : Int) < 4 :=zo
      obtain ⟨rfl, rfl⟩ := stop (by unfold Mk.nJ; rw [if_neg zo])
      clear stop h4
      go_wp2
      go_ret
      exact ⟨_, rfl, HS.o.2.2.done zd aF.weak (jf _) (λb hb => (HS.o.2.2.lt b hb).1), HS.o.1, HS.o.2.1⟩
    have k3 : decide ((L.length : Int) < 4) = true := dT zo
    have k4 : (L.length : Int) < 4 :=zo
    have ei : IntKind.i64.wrap ((i : Int) + 1) = (i : Int) + 1 := IntWalk.i64_in _ (by have := HN.o; omega)
    obtain ⟨z, st', hz⟩ : ∃ a b, Mk.next 3 st = (a, b) := ⟨_, _, rfl⟩
    have HR2 : Hy (Mk.nJ n g (i + 1) (if z = 0 then L ++ [(i : Int)] else L) st' = (rl, rs)) := by
      have h9 := HR.o
      unfold Mk.nJ at h9
      rw [if_pos ⟨k2, h4⟩, Mk.ai hz] at h9
      exact h9
    have CX := Hi (CP.o st z st' hz wr HS.o.1)
    have HIN := Hi hin
    have HL4 := Hi h4
    clear hz hin h4 stop HR
    go_wp2_with fail
    refine CX.o.mono ?_
    rintro e w3 ⟨rfl, K2, M2⟩
    have HG := Hi (HS.o.2.2.gW aF.stay M2 (by simpa using HMW.o) zk)
    have HK2 := Hi K2
    have HM2 := Hi (HS.o.2.1.then M2)
    clear K2 M2 HS CX
    by_cases hz : z = 0
    case neg =>
      rw [if_neg hz] at HR2
      have k6 : decide (z = 0) = false := dF hz
      go_wp2
      go_roundg g
      case measure => omega
      case rel => exact ⟨i + 1, L, st', oa, cap, rfl, by rw [Int.natCast_add]; rfl, by have := hi5.o; show i + 1 + g = n; omega, by rw [Int.natCast_add]; exact HR2.o, HL.o, HK2.o, HM2.o, HG.o⟩
    subst hz
    rw [if_pos rfl] at HR2
    go_wp2_with (at_builtin; refine aO (k := 1) (e := 3) (base := w.heap.size) (l := L) (l' := [(i : Int)]) rfl _ _ 22 rfl i0 _ 8 Tryz.underlying22 hi hz0 hz1 hz2 rfl zd aF.stay aF.weak rfl (HG.o.mod aF.stay (mR.alloc _)) ⟨w3.heap.size, 0, none⟩ _ _ [nV i] rfl rfl (aP.one rfl ⟨rfl, ?_⟩) ?_ (pE [(i : Int)]) ?_ ?_ ?_ ?_)
    · exact I64.of zo (by have := HN.o; have := HIN.o; omega)
    · exact λj u hu => bi (Blk.new w3 #[.int .i64 (i : Int)] 3) rfl hu
    · have h4 := HL4.o; unfold maxLen; simp; omega
    · have h4 := HL4.o; simp; omega
    · have := HM2.o.size; simp; omega
    intro v' w4 hG hgr _
    obtain ⟨oa', c', rfl⟩ := hG.form
    have HS3 : Hy (MK m sv l f st' w4 /\ Mod [m] w w4 /\ aH w.heap.size 3 1 aF (λ_ => False) (.slice oa' (L ++ [(i : Int)]).length c') (L ++ [(i : Int)]) w4) := by
      have hlt := HG.o.lt
      refine ⟨(MK.stays _ _ HK2.o (mR.alloc _)).grown hgr λg hg => ?_, (HM2.o.alloc _).grew hgr λg hg => (hlt g hg).1, hG⟩
      have := (hlt g hg).1; have := HMW.o; omega
    clear hG hgr HG HK2 HM2
    go_wp2
    go_roundg g
    case measure => omega
    case rel =>
      refine ⟨i + 1, L ++ [(i : Int)], st', oa', c', rfl, by rw [Int.natCast_add]; rfl, ?_, by rw [Int.natCast_add]; exact HR2.o, ?_, HS3.o⟩
      · have := hi5.o; show i + 1 + g = n; omega
      · have h4 := HL4.o; show (L ++ [(i : Int)]).length <= 4; rw [List.length_append]; simp; omega
def wU (d:bV):List Value:=[.int .i64 d.x,.int .i64 d.y,.bool d.on]
structure cG (W:World) (m:Nat) (sv:Value) (l:List Int) (f:MF) (rb ob:Nat) (s:Mk.S) (o:dm) (vp ve:Value) (w:World):Prop where
 mkr:MK m sv l f s w
 mod:Mod [m] W w
 rblk:Blk w rb #[.slice none 0 0,.slice none 0 0] 40
 oblk:Blk w ob #[vp,ve] 40
 pts:aH (W.heap.size+2) 97 3 bT (λ_=>False) vp o.pts w
 ends:aH (W.heap.size+2) 3 1 aF (λ_=>False) ve o.ends w
 ord:m<W.heap.size/\rb=W.heap.size/\ob=W.heap.size+1
theorem cG.stays {W:World} {m:Nat} {sv:Value} {l:List Int} {f:MF} {rb ob:Nat} {s:Mk.S} {o:dm} {vp ve:Value}:aG (cG W m sv l f rb ob s o vp ve):=λw w' h k =>
 ⟨MK.stays _ _ h.mkr k,h.mod.then (k.more zk),h.rblk.kept k zk,h.oblk.kept k zk,h.pts.mod bT.stay k,h.ends.mod aF.stay k,h.ord⟩
theorem cG.call {W:World} {m:Nat} {sv:Value} {l:List Int} {f:MF} {rb ob:Nat} {s s':Mk.S} {o:dm} {vp ve:Value} {w w':World} (h:cG W m sv l f rb ob s o vp ve w) (k:MK m sv l f s' w') (k2:Mod [m] w w'):cG W m sv l f rb ob s' o vp ve w':=by
 have h1:=h.ord;exact ⟨k,h.mod.then k2,h.rblk.kept k2 zqa,h.oblk.kept k2 zqa,h.pts.gW bT.stay k2 zqa (λ_ h=>h.elim),h.ends.gW aF.stay k2 zqa (λ_ h=>h.elim),h.ord⟩
def bK (B:Nat) (cs:Array Value) (t:TypeId) (n:Nat) (Post:World->Prop) (v:Value) (w:World):Prop:=jP B cs t n v w/\Post w
theorem bK.stays {B:Nat} {cs:Array Value} {t:TypeId} {n:Nat} {Post:World->Prop} (hP:aG Post) (v:Value):aG (bK B cs t n Post v):=λw w' h k=>⟨jP.stays _ _ _ _ _ _ _ h.1 k,hP _ _ h.2 k⟩
section
variable {W:World} {m:Nat} {sv:Value} {l:List Int} {f:MF} {rb ob:Nat} {s s':Mk.S} {o:dm} {vp ve v':Value} {w w':World}
theorem cG.Dz {d:bV} (h:cG W m sv l f rb ob s o vp ve w) (hG:aH (W.heap.size+2) 97 3 bT (λ_=>False) v' (o.pts++[d]) w') (g:w.grownBy w' vp.ownBlock) :
  cG W m sv l f rb ob s ⟨o.pts++[d],o.ends⟩ v' ve (w'.setCell ⟨ob,0,none⟩ v'):=by
 have h1:=h.ord;have h2:∀ k,vp.ownBlock=some k->W.heap.size+2<=k:=λk hk=>(h.pts.lt k hk).1
 have h3:∀ k,v'.ownBlock=some k->W.heap.size+2<=k:=λk hk=>(hG.lt k hk).1
 have h4:∀ k,ve.ownBlock=some k->W.heap.size+2<=k:=λk hk=>(h.ends.lt k hk).1
 refine ⟨(h.mkr.grown g λk hk=>by have:=h2 k hk;omega).set (by show m<ob;omega) _,(h.mod.grew g λk hk=>by have:=h2 k hk;omega).eT (p:=⟨ob,0,none⟩) zpa _,?_,?_,?_,?_,h.ord⟩
 ·exact (h.rblk.grew g λhk=>by have:=h2 _ hk;omega).other (by show ob≠rb;omega) _
 ·exact (h.oblk.grew g λhk=>by have:=h2 _ hk;omega).set 0 v'
 ·exact hG.set bT.stay (λhk=>by have:=h3 _ hk;simp at this;omega) (λh=>h) _
 ·exact (h.ends.other aF.stay g (h.ends.ne h.pts zd) (λ_ _ h=>h)).set aF.stay (λhk=>by have:=h4 _ hk;simp at this;omega) (λh=>h) _
theorem cG.EB {d:Int} (h:cG W m sv l f rb ob s o vp ve w) (hG:aH (W.heap.size+2) 3 1 aF (λ_=>False) v' (o.ends++[d]) w') (g:w.grownBy w' ve.ownBlock) :
  cG W m sv l f rb ob s ⟨o.pts,o.ends++[d]⟩ vp v' (w'.setCell ⟨ob,1,none⟩ v'):=by
 have h1:=h.ord;have h2:∀ k,ve.ownBlock=some k->W.heap.size+2<=k:=λk hk=>(h.ends.lt k hk).1
 have h3:∀ k,v'.ownBlock=some k->W.heap.size+2<=k:=λk hk=>(hG.lt k hk).1
 have h4:∀ k,vp.ownBlock=some k->W.heap.size+2<=k:=λk hk=>(h.pts.lt k hk).1
 refine ⟨(h.mkr.grown g λk hk=>by have:=h2 k hk;omega).set (by show m<ob;omega) _,(h.mod.grew g λk hk=>by have:=h2 k hk;omega).eT (p:=⟨ob,1,none⟩) zpa _,?_,?_,?_,?_,h.ord⟩
 ·exact (h.rblk.grew g λhk=>by have:=h2 _ hk;omega).other (by show ob≠rb;omega) _
 ·exact (h.oblk.grew g λhk=>by have:=h2 _ hk;omega).set 1 v'
 ·exact (h.pts.other bT.stay g (h.pts.ne h.ends zd) (λ_ _ h=>h)).set bT.stay (λhk=>by have:=h4 _ hk;simp at this;omega) (λh=>h) _
 ·exact hG.set aF.stay (λhk=>by have:=h3 _ hk;simp at this;omega) (λh=>h) _
end
def ptF:Nat->List bV->Mk.M (List bV):=λp l s=>Mk.bind (Mk.point p s) λd s=>(l++[d],s)
def DJ:Nat->dm->Mk.M dm:=λ_ o s=>Mk.contour o s
theorem Mk.wI {o:dm} {k:Int} {s s1:Mk.S} (h:Mk.next 4 s=(k,s1)) {pts:List bV} {s2:Mk.S} (h2:Mk.rep (2+k).toNat ptF o.pts s1=(pts,s2)):Mk.contour o s=(⟨pts,o.ends++[(pts.length:Int) - 1]⟩,s2):=by
 unfold Mk.contour;rw [Mk.ai h];show Mk.bind (Mk.rep (2+k).toNat ptF o.pts s1) _=_;rw [Mk.ai h2]
theorem wrapi {x:Int} (h1:-1000000000000<=x) (h2:x<=1000000000000):IntKind.i64.wrap x=x:=IntWalk.i64_in _ zo
theorem vR (m:Nat) (sv:Value) (l:List Int) (f:MF) (s:Mk.S) {ro:dm} {rs:Mk.S} (he:Mk.outline s=(ro,rs)) (w:World) (h:MK m sv l f s w) :
  Calls Tryz.prog 80 #[.pointer (some ⟨m,0,none⟩)] w λe w'=>∃ cs,e=.returned (.agg cs.toArray)/\Cb (λb=>w.heap.size<=b) w' cs ro/\MK m sv l f rs w'/\Mod [m] w w':=by
 obtain ⟨k,s1,h1⟩:∃ a b,Mk.next 3 s=(a,b):=⟨_,_,rfl⟩
 unfold Mk.outline at he;rw [Mk.ai h1] at he;have C1:=Hi (λst x st' n h1 h2 e=>bF m sv l f st n h1 h2 (r:=x) (s':=st') e);have i1:=ay zo h1;obtain ⟨K,rfl⟩:∃ K:Nat,k=K:=⟨k.toNat,by omega⟩
 have HK0:=Hi (show K<3 by omega);rw [Int.toNat_natCast] at he;have HE:=Hi he;have H0:Hy (cG w m sv l f w.heap.size (w.heap.size+1) s ⟨[],[]⟩ (.slice none 0 0) (.slice none 0 0) ((w.alloc (.cells #[.slice none 0 0,.slice none 0 0] 40)).alloc (.cells #[.slice none 0 0,.slice none 0 0] 40))):=by
  have m1:=(Mod.refl [] w).alloc (.cells #[.slice none 0 0,.slice none 0 0] 40);have m2:=m1.alloc (.cells #[.slice none 0 0,.slice none 0 0] 40);refine ⟨MK.stays _ _ h m2,m2.more zk,(Blk.new w _ _).kept ((Mod.refl [] _).alloc _) zk,?_,aH.nil,aH.nil,h.blk.lt,rfl,rfl⟩;have:=Blk.new (w.alloc (.cells #[.slice none 0 0,.slice none 0 0] 40)) #[.slice none 0 0,.slice none 0 0] 40;simpa using this
 have CN:=Hi (C1.o s K s1 3 zd zd h1);clear h1 he h i1;obtain ⟨i0,hi,hz0,hz1,hz2⟩:=info_parts gN;obtain ⟨p0,pi,pz0,pz1,pz2⟩:=info_parts yT;go_enter Tryz.func80,Tryz.ntmps80;go_wp2_with fail;generalize (w.alloc (.cells #[.slice none 0 0,.slice none 0 0] 40)).alloc (.cells #[.slice none 0 0,.slice none 0 0] 40)=w0 at *
 refine (CN.o w0 H0.o.mkr).mono ?_;rintro e w1 ⟨rfl,K1,M1⟩;have H1:=Hi (H0.o.call K1 M1);have HRB:=Hi (show w.heap.size=w.heap.size from rfl);clear K1 M1 CN H0;generalize hrb:w.heap.size=rb at H1 ⊢;generalize hob:rb+1=ob at H1 ⊢;clear hrb hob HRB;go_wp2_with fail
 go_loopg [5] K (λgk i5 wr=>∃ (i:Nat) (o:dm) (st:Mk.S) (oa:Option Addr) (ca:Nat) (oe:Option Addr) (ce:Nat),i5=.int .i64 (i:Int)/\Hy (i+gk=K)/\Hy (Mk.rep i DJ ⟨[],[]⟩ s1=(o,st))/\Hy (o.pts.length<=5*i/\o.ends.length=i)/\Hy (cG w m sv l f rb ob st o (.slice oa o.pts.length ca) (.slice oe o.ends.length ce) wr))
 case atStart=>exact ⟨0,⟨[],[]⟩,s1,none,0,none,0,rfl,by show 0+K=K;omega,rfl,⟨nR _,rfl⟩,H1.o⟩
 case round =>
  obtain ⟨i,o,st,oa,ca,oe,ce,rfl,hi5,HR,HL,HS⟩:=hrel;clear H1
  by_cases hin:i<K
  case neg =>
   obtain rfl:i=K:=by have:=hi5.o;omega
   have k1:=dF (p:=(i:Int)<i) zo;obtain ⟨rfl,rfl⟩:o=ro/\st=rs:=by
    have h9:=HE.o;change Mk.rep i DJ ⟨[],[]⟩ s1=(ro,rs) at h9;rw [HR.o] at h9;simpa using h9
   have b0:=HS.o.oblk.cell 0;have b1:=HS.o.oblk.cell 1;have q0:=HS.o.rblk.cell 0;have q1:=HS.o.rblk.cell 1;have g0:=HS.o.rblk.frozen 0;have g1:=HS.o.rblk.frozen 1;have HRB2:=Hi ((HS.o.rblk.set 0 (.slice oa o.pts.length ca)).set 1 (.slice oe o.ends.length ce));go_wp2_with fail;have HS2:=HS.o;have h3:=HS2.ord;have r0:=HRB2.o.cell 0;have r1:=HRB2.o.cell 1;have hp:az 3 bT (λb=>w.heap.size+2<=b) wr (.slice oa o.pts.length ca) o.pts:=HS2.pts.done zd bT.weak (jf _) (λb hb=>(HS2.pts.lt b hb).1);have hq:az 1 aF (λb=>w.heap.size+2<=b) wr (.slice oe o.ends.length ce) o.ends:=HS2.ends.done zd aF.weak (jf _) (λb hb=>(HS2.ends.lt b hb).1);have hp2:=((hp.same bT.stay (bC.set wr (p:=⟨rb,0,none⟩) zqa (.slice oa o.pts.length ca))).same bT.stay (bC.set _ (p:=⟨rb,1,none⟩) zqa (.slice oe o.ends.length ce))).weak zd bT.weak (S':=λb=>w.heap.size<=b) (λb _ h=>by omega);have hq2:=((hq.same aF.stay (bC.set wr (p:=⟨rb,0,none⟩) zqa (.slice oa o.pts.length ca))).same aF.stay (bC.set _ (p:=⟨rb,1,none⟩) zqa (.slice oe o.ends.length ce))).weak zd aF.weak (S':=λb=>w.heap.size<=b) (λb _ h=>by omega)
   exact bodyPost_ret (v:=.agg #[.slice oa o.pts.length ca,.slice oe o.ends.length ce]) (by simp [results,Tryz.results80,go_sem,r0,r1]) rfl ⟨[.slice oa o.pts.length ca,.slice oe o.ends.length ce],rfl,⟨_,_,rfl,hp2,hq2⟩,(HS2.mkr.set (p:=⟨rb,0,none⟩) (by show m<rb;omega) _).set (p:=⟨rb,1,none⟩) (by show m<rb;omega) _,
    (HS2.mod.eT (p:=⟨rb,0,none⟩) (by show w.heap.size<=rb;omega) _).eT (p:=⟨rb,1,none⟩) (by show w.heap.size<=rb;omega) _⟩
  have k1:=dT (p:=(i:Int)<K) zo;have k2:(i:Int)<K:=zo;have ei:IntKind.i64.wrap ((i:Int)+1)=(i:Int)+1:=wrapi zo (by have:=HK0.o;omega);obtain ⟨kk,st1,hk⟩:∃ a b,Mk.next 4 st=(a,b):=⟨_,_,rfl⟩
  have CK:=Hi (C1.o st kk st1 4 zd zd hk wr HS.o.mkr);have ik:=ay zd hk;obtain ⟨q,hq⟩:∃ q:Nat,2+kk=(q:Int):=⟨(2+kk).toNat,by omega⟩
  have ek:IntKind.i64.wrap (2+kk)=(q:Int):=by rw [wrapi zo zo];exact hq
  have hq5:q<=5/\2<=q:=zo;obtain ⟨pts,st2,hpts⟩:∃ a b,Mk.rep q ptF o.pts st1=(a,b):=⟨_,_,rfl⟩
  have HC:Hy (Mk.contour o st=(⟨pts,o.ends++[(pts.length:Int) - 1]⟩,st2)):=Mk.wI hk (by rw [hq,Int.toNat_natCast];exact hpts);have HIN:=Hi hin;have HP:=Hi hpts;have HQ:=Hi hq5;clear hk ik hq hpts hin hq5;go_wp2_with fail;refine CK.o.mono ?_;rintro e w2 ⟨rfl,K2,M2⟩;have HS2:=Hi (HS.o.call K2 M2);clear K2 M2 HS CK;go_wp2_with fail;generalize gk=G at *
  go_loopg [7] q (λgj p7 ws=>∃ (p:Nat) (L:List bV) (su:Mk.S) (oa:Option Addr) (ca:Nat),p7=.int .i64 (p:Int)/\Hy (p+gj=q)/\Hy (Mk.rep p ptF o.pts st1=(L,su))/\Hy (L.length=o.pts.length+p)/\Hy (cG w m sv l f rb ob su ⟨L,o.ends⟩ (.slice oa L.length ca) (.slice oe o.ends.length ce) ws))
  case atStart=>exact ⟨0,o.pts,st1,oa,ca,rfl,by show 0+q=q;omega,rfl,rfl,HS2.o⟩
  case round =>
   obtain ⟨p,L,su,oa,ca,rfl,hp5,HR2,HL2,HS⟩:=hrel;clear HS2
   by_cases hpq:p<q
   case neg =>
    obtain rfl:p=q:=by have:=hp5.o;omega
    have k3:=dF (p:=(p:Int)<p) zo;obtain ⟨rfl,rfl⟩:L=pts/\su=st2:=by have h9:=HP.o;rw [HR2.o] at h9;simpa using h9
    have b0:=HS.o.oblk.cell 0;have b1:=HS.o.oblk.cell 1;have g1:=HS.o.oblk.frozen 1;have e3:IntKind.i64.wrap ((L.length:Int) - 1)=(L.length:Int) - 1:=wrapi zo zqr;have hm0:=(Mod.refl [] wr).alloc (.cells #[.int .i64 ((L.length:Int) - 1)] 3);have HS3:=Hi (cG.stays _ _ HS.o hm0);clear hm0 HS;go_wp2_with (at_builtin;refine aO (k:=1) (e:=3) (base:=w.heap.size+2) (l:=o.ends) (l':=[(L.length:Int) - 1]) rfl _ _ 22 rfl i0 _ 8 Tryz.underlying22 hi hz0 hz1 hz2 rfl zd aF.stay aF.weak rfl HS3.o.ends ⟨wr.heap.size,0,none⟩ _ _ [nV ((L.length:Int) - 1)] rfl rfl (aP.one rfl ⟨rfl,?_⟩) ?_ (pE [(L.length:Int) - 1]) ?_ ?_ ?_ ?_)
    ·exact I64.of zo zqr
    ·exact λj u hu=>bi (Blk.new wr #[.int .i64 ((L.length:Int) - 1)] 3) rfl hu
    ·have h4:=HL.o.2;have h5:=HK0.o;have h6:=HIN.o;unfold maxLen;simp;omega
    ·have h4:=HL.o.2;have h5:=HK0.o;have h6:=HIN.o;simp;omega
    ·have h6:=HS3.o.oblk.lt;have:=HS3.o.ord;omega
    intro v' w4 hG hgr _;obtain ⟨oe',ce',rfl⟩:=hG.form;have hne:(o.ends++[(L.length:Int) - 1]).length=o.ends.length+1:=by simp
    rw [hne] at hG;have HNE:=Hi hne;clear hne;have HS4:=Hi (HS3.o.EB hG hgr);have g1':w4.frozen? ⟨ob,1,none⟩=false:=(HS3.o.oblk.grew hgr (λhk=>by have:=(HS3.o.ends.lt _ hk).1;have:=HS3.o.ord;omega)).frozen 1;have g1c:w4.cell? ⟨ob,1,none⟩=some (.slice oe o.ends.length ce):=(HS3.o.oblk.grew hgr (λhk=>by have:=(HS3.o.ends.lt _ hk).1;have:=HS3.o.ord;omega)).cell 1;clear hG hgr HS3 g1 b0 b1;go_wp2;go_roundg (G - 1)
    case measure=>have:=hi5.o;omega
    case rel =>
     refine ⟨i+1,⟨L,o.ends++[(L.length:Int) - 1]⟩,su,oa,ca,oe',ce',by rw [Int.natCast_add];rfl,?_,?_,?_,by show cG w m sv l f rb ob su _ _ (.slice oe' (o.ends++[(L.length:Int) - 1]).length ce') _;rw [HNE.o];exact HS4.o⟩
     ·have:=hi5.o;have:=HIN.o;show i+1+(G - 1)=K;omega
     ·show Mk.rep (i+1) DJ ⟨[],[]⟩ s1=_;rw [Mk.aR HR.o];exact HC.o
     ·have h1:=HL.o;have h2:=HL2.o;have h3:=HQ.o;refine ⟨?_,?_⟩
      ·show L.length<=5*(i+1);omega
      ·show (o.ends++[(L.length:Int) - 1]).length=i+1;rw [List.length_append];simp;omega
   have k3:=dT (p:=(p:Int)<q) zo;have k4:(p:Int)<q:=zo;have e4:IntKind.i64.wrap ((p:Int)+1)=(p:Int)+1:=wrapi zo (by have:=HQ.o.1;omega);obtain ⟨x,t1,hx⟩:∃ a b,Mk.next 21 su=(a,b):=⟨_,_,rfl⟩
   obtain ⟨y,t2,hy⟩:∃ a b,Mk.next 21 t1=(a,b):=⟨_,_,rfl⟩
   have ix:=ay zd hx;have iy:=ay zd hy;have x1:IntKind.i64.wrap (x*50)=x*50:=wrapi zo zo;have x2:IntKind.i64.wrap (x*50 - 100)=x*50 - 100:=wrapi zo zo;have y1:IntKind.i64.wrap (y*50)=y*50:=wrapi zo zo;have y2:IntKind.i64.wrap (y*50 - 200)=y*50 - 200:=wrapi zo zo;have CX:=Hi (C1.o su x t1 21 zd zd hx);have CY:=Hi (C1.o t1 y t2 21 zd zd hy);have HXY:Hy (I64 (x*50 - 100)/\I64 (y*50 - 200)):=⟨I64.of zo zo,I64.of zo zo⟩
   have B0:∀ W,Mod [m] wr W->W.cell? ⟨ob,0,none⟩=some (.slice oa L.length ca):=λW k=>(HS.o.oblk.kept k (by have:=HS.o.ord;simp;omega)).cell 0
   have HPQ:=Hi hpq;clear ix iy hpq;go_upto_region 10 with fail
   by_cases hp0:p=0
   ·subst hp0;have HD:Hy (ptF 0 L su=(L++[⟨x*50 - 100,y*50 - 200,true⟩],t2)):=by unfold ptF Mk.point;rw [Mk.ai hx,Mk.ai hy];rfl
    clear hx hy;refine Sw.aL (I:=Mod [m] wr) (F0:=cG w m sv l f rb ob su ⟨L,o.ends⟩ (.slice oa L.length ca) (.slice oe o.ends.length ce)) (λ_ _ h k=>h.then (k.more zk)) 19 [(0,none),(1,none),(2,none),(6,none),(10,none),(11,none),(3,some (Rg.iU (cG w m sv l f rb ob t1 ⟨L,o.ends⟩ (.slice oa L.length ca) (.slice oe o.ends.length ce)) (.int .i64 x))),(4,none),(5,none),(7,some (Rg.iU (cG w m sv l f rb ob t2 ⟨L,o.ends⟩ (.slice oa L.length ca) (.slice oe o.ends.length ce)) (.int .i64 y))),(8,none),(9,none),(12,none),(13,none),(14,none),(15,none),(16,none),(17,none),(18,some (bK wr.heap.size #[.int .i64 (x*50 - 100),.int .i64 (y*50 - 200),.bool true] 97 1 (cG w m sv l f rb ob t2 ⟨L,o.ends⟩ (.slice oa L.length ca) (.slice oe o.ends.length ce))))] zt zt (Sq.aW zt) ?hTS213 (mR.drew) cG.stays (cG.stays _ _ HS.o (mR.drew)) ?mainS213
    case hTS213 =>
     intro p hp T hT v;simp only [List.mem_cons,List.not_mem_nil,or_false] at hp;rcases hp with rfl | rfl | rfl | rfl | rfl | rfl | rfl | rfl | rfl | rfl | rfl | rfl | rfl | rfl | rfl | rfl | rfl | rfl | rfl <;> first | (cases hT;done) | (cases hT;first | exact bK.stays cG.stays _ | exact Rg.cZ cG.stays _ _)
    iterate 6 refine Sw.vv (w0:=wr.drew) (mR.drew) ?_
    refine Sw.xx (λw' hw' hF K Q hK=>?_) (λkv hkv=>?_)
    ·go_wp2_with fail;refine (CX.o w' hF.mkr).mono ?_;rintro e w'' ⟨rfl,K',M'⟩;go_wp2;exact hK _ _ (hw'.then M') ⟨rfl,hF.call K' M'⟩
    obtain ⟨_,_,rfl,_⟩:=hkv
    iterate 2 refine Sw.vv (w0:=wr.drew) (mR.drew) ?_
    refine Sw.xx (λw' hw' hF K Q hK=>?_) (λkv hkv=>?_)
    ·go_wp2_with fail;refine (CY.o w' hF.2.mkr).mono ?_;rintro e w'' ⟨rfl,K',M'⟩;go_wp2;exact hK _ _ (hw'.then M') ⟨rfl,hF.2.call K' M'⟩
    obtain ⟨_,_,rfl,_⟩:=hkv
    iterate 3 refine Sw.vv (w0:=wr.drew) (mR.drew) ?_
    refine Sw.zF rfl zt zqe ?_;refine Sw.zF rfl zt zqe ?_;refine Sw.zF rfl zt zqe ?_
    iterate 2 refine Sw.vv (w0:=wr.drew) (mR.drew) ?_
    refine Sw.xx (λw' hw' hF K Q hK=>?_) (λkv hkv=>?_)
    ·go_wp2;exact hK _ _ (hw'.alloc _) ⟨⟨_,rfl,hw'.size,Blk.new _ _ _⟩,cG.stays _ _ hF.2 (mR.alloc _)⟩
    obtain ⟨_,_,⟨nb,rfl,hnb,_⟩,_⟩:=hkv;refine Sw.bJ ?_;intro w' hw' hF;simp only [qS,qZ];obtain ⟨⟨b2,he2,-,hB⟩,hO⟩:=hF;cases he2;have HB:=Hi hB;have HO:=Hi hO;clear hB hO hw' B0 HS CX CY;go_wp2_with (at_builtin;refine aO (k:=3) (e:=97) (base:=w.heap.size+2) (l:=L) (l':=[⟨x*50 - 100,y*50 - 200,true⟩]) rfl _ _ 38 rfl p0 _ 24 Tryz.underlying38 pi pz0 pz1 pz2 rfl zd bT.stay bT.weak rfl HO.o.pts ⟨nb,0,none⟩ _ _ [wU ⟨x*50 - 100,y*50 - 200,true⟩] rfl rfl (aP.one rfl ⟨rfl,HXY.o⟩) (λj u hu=>bi HB.o rfl hu) (by simp [wU,Value.oneCell']) ?_ ?_ ?_ ?_)
    ·have h4:=HL2.o;have h5:=HK0.o;have h6:=HIN.o;have h7:=HL.o.1;have h8:=HQ.o;have h9:=HPQ.o;unfold maxLen;simp;omega
    ·have h4:=HL2.o;have h5:=HK0.o;have h6:=HIN.o;have h7:=HL.o.1;have h8:=HQ.o;have h9:=HPQ.o;simp;omega
    ·have h6:=HO.o.oblk.lt;have:=HO.o.ord;omega
    intro v' w4 hG hgr _;obtain ⟨oa',ca',rfl⟩:=hG.form;have hnl:(L++[(⟨x*50 - 100,y*50 - 200,true⟩:bV)]).length=L.length+1:=by simp
    rw [hnl] at hG;have HNL:=Hi hnl;clear hnl;have HS4:=Hi (HO.o.Dz hG hgr);have g0':w4.frozen? ⟨ob,0,none⟩=false:=(HO.o.oblk.grew hgr (λhk=>by have:=(HO.o.pts.lt _ hk).1;have:=HO.o.ord;omega)).frozen 0;have g0c:w4.cell? ⟨ob,0,none⟩=some (.slice oa L.length ca):=(HO.o.oblk.grew hgr (λhk=>by have:=(HO.o.pts.lt _ hk).1;have:=HO.o.ord;omega)).cell 0;clear hG hgr HO HB;go_wp2;go_roundg (gk - 1)
    case measure=>have:=hp5.o;omega
    case rel =>
     refine ⟨0+1,L++[⟨x*50 - 100,y*50 - 200,true⟩],t2,oa',ca',by rw [Int.natCast_add];rfl,?_,?_,?_,by show cG w m sv l f rb ob t2 _ (.slice oa' (L++[(⟨x*50 - 100,y*50 - 200,true⟩:bV)]).length ca') _ _;rw [HNL.o];exact HS4.o⟩
     ·have:=hp5.o;have:=HPQ.o;show 0+1+(gk - 1)=q;omega
     ·show Mk.rep (0+1) ptF o.pts st1=_;rw [Mk.aR HR2.o];exact HD.o
     ·have h1:=HL2.o;show (L++[(⟨x*50 - 100,y*50 - 200,true⟩:bV)]).length=o.pts.length+(0+1);rw [List.length_append];simp;omega
   ·obtain ⟨z,t3,hz⟩:∃ a b,Mk.next 4 t2=(a,b):=⟨_,_,rfl⟩
    have CZ:=Hi (C1.o t2 z t3 4 zd zd hz);have HD:Hy (ptF p L su=(L++[⟨x*50 - 100,y*50 - 200,decide (0<z)⟩],t3)):=by unfold ptF Mk.point;rw [Mk.ai hx,Mk.ai hy,if_neg hp0,Mk.ai hz];rfl
    have kp:¬ (p:Int)=0:=zo;have kp2:=dF (p:=(p:Int)=0) kp;have kp3:((p:Int) == 0)=false:=beq_false_of_ne kp;clear hx hy hz hp0;refine Sw.aL (I:=Mod [m] wr) (F0:=cG w m sv l f rb ob su ⟨L,o.ends⟩ (.slice oa L.length ca) (.slice oe o.ends.length ce)) (λ_ _ h k=>h.then (k.more zk)) 19 [(0,none),(1,none),(2,none),(6,none),(10,none),(11,none),(3,some (Rg.iU (cG w m sv l f rb ob t1 ⟨L,o.ends⟩ (.slice oa L.length ca) (.slice oe o.ends.length ce)) (.int .i64 x))),(4,none),(5,none),(7,some (Rg.iU (cG w m sv l f rb ob t2 ⟨L,o.ends⟩ (.slice oa L.length ca) (.slice oe o.ends.length ce)) (.int .i64 y))),(8,none),(9,none),(12,none),(13,none),(14,some (Rg.iU (cG w m sv l f rb ob t3 ⟨L,o.ends⟩ (.slice oa L.length ca) (.slice oe o.ends.length ce)) (.int .i64 z))),(15,none),(16,none),(17,none),(18,some (bK wr.heap.size #[.int .i64 (x*50 - 100),.int .i64 (y*50 - 200),.bool (decide (0<z))] 97 1 (cG w m sv l f rb ob t3 ⟨L,o.ends⟩ (.slice oa L.length ca) (.slice oe o.ends.length ce))))] zt zt (Sq.aW zt) ?hTS343 (mR.drew) cG.stays (cG.stays _ _ HS.o (mR.drew)) ?mainS343
    case hTS343 =>
     intro p hp T hT v;simp only [List.mem_cons,List.not_mem_nil,or_false] at hp;rcases hp with rfl | rfl | rfl | rfl | rfl | rfl | rfl | rfl | rfl | rfl | rfl | rfl | rfl | rfl | rfl | rfl | rfl | rfl | rfl <;> first | (cases hT;done) | (cases hT;first | exact bK.stays cG.stays _ | exact Rg.cZ cG.stays _ _)
    iterate 6 refine Sw.vv (w0:=wr.drew) (mR.drew) ?_
    refine Sw.xx (λw' hw' hF K Q hK=>?_) (λkv hkv=>?_)
    ·go_wp2_with fail;refine (CX.o w' hF.mkr).mono ?_;rintro e w'' ⟨rfl,K',M'⟩;go_wp2;exact hK _ _ (hw'.then M') ⟨rfl,hF.call K' M'⟩
    obtain ⟨_,_,rfl,_⟩:=hkv
    iterate 2 refine Sw.vv (w0:=wr.drew) (mR.drew) ?_
    refine Sw.xx (λw' hw' hF K Q hK=>?_) (λkv hkv=>?_)
    ·go_wp2_with fail;refine (CY.o w' hF.2.mkr).mono ?_;rintro e w'' ⟨rfl,K',M'⟩;go_wp2;exact hK _ _ (hw'.then M') ⟨rfl,hF.2.call K' M'⟩
    obtain ⟨_,_,rfl,_⟩:=hkv
    iterate 4 refine Sw.vv (w0:=wr.drew) (mR.drew) ?_
    refine Sw.xx (λw' hw' hF K Q hK=>?_) (λkv hkv=>?_)
    ·go_wp2_with fail;refine (CZ.o w' hF.2.mkr).mono ?_;rintro e w'' ⟨rfl,K',M'⟩;go_wp2;exact hK _ _ (hw'.then M') ⟨rfl,hF.2.call K' M'⟩
    obtain ⟨_,_,rfl,_⟩:=hkv
    iterate 3 refine Sw.vv (w0:=wr.drew) (mR.drew) ?_
    refine Sw.xx (λw' hw' hF K Q hK=>?_) (λkv hkv=>?_)
    ·go_wp2;exact hK _ _ (hw'.alloc _) ⟨⟨_,rfl,hw'.size,Blk.new _ _ _⟩,cG.stays _ _ hF.2 (mR.alloc _)⟩
    obtain ⟨_,_,⟨nb,rfl,hnb,_⟩,_⟩:=hkv;refine Sw.bJ ?_;intro w' hw' hF;simp only [qS,qZ];obtain ⟨⟨b2,he2,-,hB⟩,hO⟩:=hF;cases he2;have HB:=Hi hB;have HO:=Hi hO;clear hB hO hw' B0 HS CX CY CZ;go_wp2_with (at_builtin;refine aO (k:=3) (e:=97) (base:=w.heap.size+2) (l:=L) (l':=[⟨x*50 - 100,y*50 - 200,decide (0<z)⟩]) rfl _ _ 38 rfl p0 _ 24 Tryz.underlying38 pi pz0 pz1 pz2 rfl zd bT.stay bT.weak rfl HO.o.pts ⟨nb,0,none⟩ _ _ [wU ⟨x*50 - 100,y*50 - 200,decide (0<z)⟩] rfl rfl (aP.one rfl ⟨rfl,HXY.o⟩) (λj u hu=>bi HB.o rfl hu) (by simp [wU,Value.oneCell']) ?_ ?_ ?_ ?_)
    ·have h4:=HL2.o;have h5:=HK0.o;have h6:=HIN.o;have h7:=HL.o.1;have h8:=HQ.o;have h9:=HPQ.o;unfold maxLen;simp;omega
    ·have h4:=HL2.o;have h5:=HK0.o;have h6:=HIN.o;have h7:=HL.o.1;have h8:=HQ.o;have h9:=HPQ.o;simp;omega
    ·have h6:=HO.o.oblk.lt;have:=HO.o.ord;omega
    intro v' w4 hG hgr _;obtain ⟨oa',ca',rfl⟩:=hG.form;have hnl:(L++[(⟨x*50 - 100,y*50 - 200,decide (0<z)⟩:bV)]).length=L.length+1:=by simp
    rw [hnl] at hG;have HNL:=Hi hnl;clear hnl;have HS4:=Hi (HO.o.Dz hG hgr);have g0':w4.frozen? ⟨ob,0,none⟩=false:=(HO.o.oblk.grew hgr (λhk=>by have:=(HO.o.pts.lt _ hk).1;have:=HO.o.ord;omega)).frozen 0;have g0c:w4.cell? ⟨ob,0,none⟩=some (.slice oa L.length ca):=(HO.o.oblk.grew hgr (λhk=>by have:=(HO.o.pts.lt _ hk).1;have:=HO.o.ord;omega)).cell 0;clear hG hgr HO HB;go_wp2;go_roundg (gk - 1)
    case measure=>have:=hp5.o;omega
    case rel =>
     refine ⟨p+1,L++[⟨x*50 - 100,y*50 - 200,decide (0<z)⟩],t3,oa',ca',by rw [Int.natCast_add];rfl,?_,?_,?_,by show cG w m sv l f rb ob t3 _ (.slice oa' (L++[(⟨x*50 - 100,y*50 - 200,decide (0<z)⟩:bV)]).length ca') _ _;rw [HNL.o];exact HS4.o⟩
     ·have:=hp5.o;have:=HPQ.o;show p+1+(gk - 1)=q;omega
     ·show Mk.rep (p+1) ptF o.pts st1=_;rw [Mk.aR HR2.o];exact HD.o
     ·have h1:=HL2.o;show (L++[(⟨x*50 - 100,y*50 - 200,decide (0<z)⟩:bV)]).length=o.pts.length+(p+1);rw [List.length_append];simp;omega
def gC (nm:ByteArray) (adv:Int) (mk:Bool) (vp ve vr va vd vh:Value):Array Value:=#[.string nm,.int .i64 adv,.bool mk,vp,ve,vr,va,vd,vh]
structure kH (S:Bl) (w:World) (g:av) (vp ve vr va vd vh:Value):Prop where
 pts:az 3 bT S w vp g.pts
 ends:az 1 aF S w ve g.ends
 parts:az 3 fV S w vr g.parts
 anch:az 4 bU S w va g.anchors
 delt:az 4 dz S w vd g.deltas
 hint:az 2 eA S w vh g.hint
section
variable {S S':Bl} {w w':World} {g:av} {vp ve vr va vd vh:Value}
theorem kH.same (h:kH S w g vp ve vr va vd vh) (m:bC S w w'):kH S w' g vp ve vr va vd vh:=⟨h.pts.same bT.stay m,h.ends.same aF.stay m,h.parts.same fV.stay m,h.anch.same bU.stay m,h.delt.same dz.stay m,h.hint.same eA.stay m⟩
theorem kH.weak (h:kH S w g vp ve vr va vd vh) (k:∀ b,b<w.heap.size->S b->S' b):kH S' w g vp ve vr va vd vh:=⟨h.pts.weak zd bT.weak k,h.ends.weak zd aF.weak k,h.parts.weak zd fV.weak k,h.anch.weak zd bU.weak k,h.delt.weak zd dz.weak k,h.hint.weak zd eA.weak k⟩
end
structure bA (W:World) (m:Nat) (sv:Value) (l:List Int) (f:MF) (gb B:Nat) (s:Mk.S) (c:Array Value) (g:av) (vp ve vr va vd vh:Value) (w:World):Prop where
 mkr:MK m sv l f s w
 mod:Mod [m] W w
 blk:Blk w gb c 46
 rows:kH (λb=>gb<b/\b<B) w g vp ve vr va vd vh
 ord:m<W.heap.size/\W.heap.size<=gb/\gb<B/\B<=w.heap.size
section
variable {W:World} {m:Nat} {sv:Value} {l:List Int} {f:MF} {gb B B':Nat} {s s':Mk.S} {c:Array Value} {g:av} {vp ve vr va vd vh u:Value} {w w':World}
theorem bA.stays:aG (bA W m sv l f gb B s c g vp ve vr va vd vh):=λw w' h k =>
 ⟨MK.stays _ _ h.mkr k,h.mod.then (k.more zk),h.blk.kept k zk,h.rows.same (k.same0 _),h.ord.1,h.ord.2.1,h.ord.2.2.1,nT h.ord.2.2.2 k.size⟩
theorem bA.call (h:bA W m sv l f gb B s c g vp ve vr va vd vh w) (k:MK m sv l f s' w') (k2:Mod [m] w w'):bA W m sv l f gb B s' c g vp ve vr va vd vh w':=by
 have h1:=h.ord;exact ⟨k,h.mod.then k2,h.blk.kept k2 zqa,h.rows.same (k2.jM zqv),h1.1,h1.2.1,h1.2.2.1,nT h1.2.2.2 k2.size⟩
theorem bA.set (h:bA W m sv l f gb B s c g vp ve vr va vd vh w) (i:Nat) (x:Value):bA W m sv l f gb B s (c.setIfInBounds i x) g vp ve vr va vd vh (w.setCell ⟨gb,i,none⟩ x):=by
 have h1:=h.ord;exact ⟨h.mkr.set (by show m<gb;omega) _,h.mod.eT (p:=⟨gb,i,none⟩) (by show W.heap.size<=gb;omega) _,h.blk.set i x,h.rows.same (bC.set w zk _),h1.1,h1.2.1,h1.2.2.1,by simpa using h1.2.2.2⟩
theorem bA.grown (h:bA W m sv l f gb B s c g vp ve vr va vd vh w) (k:w.grownBy w' u.ownBlock) (hu:∀ b,u.ownBlock=some b->B<=b):bA W m sv l f gb B s c g vp ve vr va vd vh w':=by
 have h1:=h.ord;exact ⟨h.mkr.grown k λb hb=>by have:=hu b hb;omega,h.mod.grew k λb hb=>by have:=hu b hb;omega,h.blk.grew k λhb=>by have:=hu _ hb;omega,h.rows.same (bC.grown k λb hb hs=>by have:=hu b hb;omega),h1.1,h1.2.1,h1.2.2.1,nT h1.2.2.2 k.size⟩
theorem bA.up (h:bA W m sv l f gb B s c g vp ve vr va vd vh w) (h1:B<=B') (h2:B'<=w.heap.size):bA W m sv l f gb B' s c g vp ve vr va vd vh w :=
 ⟨h.mkr,h.mod,h.blk,h.rows.weak λb _ hb=>⟨hb.1,by omega⟩,h.ord.1,h.ord.2.1,by have:=h.ord;omega,h2⟩
theorem bA.gcell (h:bA W m sv l f gb B s c g vp ve vr va vd vh w) {w':World} (k:Mod [m] w w') (i:Nat):w'.cell? ⟨gb,i,none⟩=c[i]?:=by
 have h1:=h.ord;exact (h.blk.kept k zqa).cell i
end
section
variable {W:World} {m:Nat} {sv:Value} {l:List Int} {f:MF} {gb B:Nat} {s:Mk.S} {c:Array Value} {g:av} {vp ve vr va vd vh u v:Value} {w:World}
theorem sx {α:Type} {k:Nat} {e:TypeId} {R:Bl->World->List Value->α->Prop} {ps:List α} (hk:0<k) (hW:bW R) (h1:gb<B) (hG:aH B e k R (λ_=>False) v ps w):az k R (λb=>gb<b/\b<w.heap.size) w v ps :=
 hG.done hk hW (λ_ _ h=>h.elim) λb hb=>by have:=hG.lt b hb;omega
theorem bA.yy {ps:List cK} (h:bA W m sv l f gb B s c g vp ve u va vd vh w) (hG:aH B 69 3 fV (λ_=>False) v ps w):bA W m sv l f gb w.heap.size s c { g with parts:=ps } vp ve v va vd vh w:=by
 have h1:=h.up h.ord.2.2.2 (nR _);exact ⟨h1.mkr,h1.mod,h1.blk,⟨h1.rows.pts,h1.rows.ends,sx zd fV.weak h.ord.2.2.1 hG,h1.rows.anch,h1.rows.delt,h1.rows.hint⟩,h1.ord⟩
theorem bA.Ca {ps:List bh} (h:bA W m sv l f gb B s c g vp ve vr u vd vh w) (hG:aH B 145 4 bU (λ_=>False) v ps w):bA W m sv l f gb w.heap.size s c { g with anchors:=ps } vp ve vr v vd vh w:=by
 have h1:=h.up h.ord.2.2.2 (nR _);exact ⟨h1.mkr,h1.mod,h1.blk,⟨h1.rows.pts,h1.rows.ends,h1.rows.parts,sx zd bU.weak h.ord.2.2.1 hG,h1.rows.delt,h1.rows.hint⟩,h1.ord⟩
theorem bA.BM {ps:List co} (h:bA W m sv l f gb B s c g vp ve vr va u vh w) (hG:aH B 147 4 dz (λ_=>False) v ps w):bA W m sv l f gb w.heap.size s c { g with deltas:=ps } vp ve vr va v vh w:=by
 have h1:=h.up h.ord.2.2.2 (nR _);exact ⟨h1.mkr,h1.mod,h1.blk,⟨h1.rows.pts,h1.rows.ends,h1.rows.parts,h1.rows.anch,sx zd dz.weak h.ord.2.2.1 hG,h1.rows.hint⟩,h1.ord⟩
theorem bA.lps (h:bA W m sv l f gb B s c g vp ve vr va vd vh w) (x:Int) (h0:0<=x) (h1:x<=1000000):bA W m sv l f gb B ⟨s.r,x⟩ c g vp ve vr va vd vh (w.setCell ⟨m,11,none⟩ (.int .i64 x)):=by
 have h2:=h.ord;refine ⟨⟨h.mkr.blk.set 11 _,h.mkr.num.same aF.stay (bC.set w zk _),h.mkr.suf,h0,h1⟩,h.mod.setCell (p:=⟨m,11,none⟩) (λ_=>by simp) _,h.blk.other (by show m≠gb;omega) _,h.rows.same (bC.set w zqa _),h2.1,h2.2.1,h2.2.2.1,by simpa using h2.2.2.2⟩
theorem bA.Bu {ps:List bS} {s':Mk.S} {w':World} (h:bA W m sv l f gb B s c g vp ve vr va vd u w) (k:MK m sv l f s' w') (k2:Mod [m] w w') (hS:az 2 eA (λb=>w.heap.size<=b) w' v ps):bA W m sv l f gb w'.heap.size s' c { g with hint:=ps } vp ve vr va vd v w':=by
 have h1:=(h.call k k2)
 have h2:=h1.up h1.ord.2.2.2 (nR _);have h3:=h.ord;exact ⟨h2.mkr,h2.mod,h2.blk,⟨h2.rows.pts,h2.rows.ends,h2.rows.parts,h2.rows.anch,h2.rows.delt,hS.weak zd eA.weak λb h4 h5=>⟨by omega,h4⟩⟩,h2.ord⟩
end
theorem bA.lQ {W:World} {m:Nat} {sv:Value} {l:List Int} {f:MF} {gb B:Nat} {s:Mk.S} {g:av} {vp ve vr va vd vh:Value}:∀ (vs:List Value) (i:Nat) (c:Array Value) (w:World),bA W m sv l f gb B s c g vp ve vr va vd vh w->bA W m sv l f gb B s (lQ c i vs) g vp ve vr va vd vh (ec w gb i vs)
 | [],_,_,_,h=>h
 | v::r,i,c,w,h=>bA.lQ r (i+1) _ _ (h.set i v)
theorem bA.over {W:World} {m:Nat} {sv:Value} {l:List Int} {f:MF} {gb B:Nat} {s:Mk.S} {c:Array Value} {g:av} {vp ve vr va vd vh:Value} {w:World} (h:bA W m sv l f gb B s c g vp ve vr va vd vh w) (vs:List Value) (hl:vs.length=c.size):bA W m sv l f gb B s vs.toArray g vp ve vr va vd vh (ec w gb 0 vs):=by
 have:=bA.lQ vs 0 c w h;rwa [sS vs c hl] at this
structure fG (W:World) (m:Nat) (sv:Value) (l:List Int) (f:MF) (gb B:Nat) (c:Array Value) (g:av) (vp ve vr va vd vh:Value) (kb:Nat) (kc:Array Value) (kt:TypeId) (vz:Value) (L:List bh) (s:Mk.S) (w:World):Prop where
 gl:bA W m sv l f gb B s c g vp ve vr va vd vh w
 gr:aH B 145 4 bU (λ_=>False) vz L w
 kbl:Blk w kb kc kt
 lt:gb<kb/\kb<B
section
variable {W:World} {m:Nat} {sv:Value} {l:List Int} {f:MF} {gb B:Nat} {c:Array Value} {g:av} {vp ve vr va vd vh:Value} {kb:Nat} {kc:Array Value} {kt:TypeId} {vz:Value} {L:List bh} {s s':Mk.S} {w w':World}
theorem fG.stays:aG (fG W m sv l f gb B c g vp ve vr va vd vh kb kc kt vz L s):=λw w' h k=>⟨bA.stays _ _ h.gl k,h.gr.mod bU.stay k,h.kbl.kept k zk,h.lt⟩
theorem fG.call (h:fG W m sv l f gb B c g vp ve vr va vd vh kb kc kt vz L s w) (k:MK m sv l f s' w') (k2:Mod [m] w w'):fG W m sv l f gb B c g vp ve vr va vd vh kb kc kt vz L s' w':=by
 have h1:=h.gl.ord;have h2:=h.lt;exact ⟨h.gl.call k k2,h.gr.gW bU.stay k2 zqa (λ_ h=>h.elim),h.kbl.kept k2 zqa,h.lt⟩
theorem fG.kcell (h:fG W m sv l f gb B c g vp ve vr va vd vh kb kc kt vz L s w) (k:Mod [m] w w') (i:Nat):w'.cell? ⟨kb,i,none⟩=kc[i]?:=by
 have h1:=h.gl.ord;have h2:=h.lt;exact (h.kbl.kept k zqa).cell i
theorem fG.push {d:bh} {v':Value} (h:fG W m sv l f gb B c g vp ve vr va vd vh kb kc kt vz L s w) (hG:aH B 145 4 bU (λ_=>False) v' (L++[d]) w') (k:w.grownBy w' vz.ownBlock):fG W m sv l f gb B (c.setIfInBounds 6 v') g vp ve vr va vd vh kb kc kt v' (L++[d]) s (w'.setCell ⟨gb,6,none⟩ v'):=by
 have h1:=h.gl.ord;have h2:=h.lt;refine ⟨(h.gl.grown k λb hb=>(h.gr.lt b hb).1).set 6 v',hG.set bU.stay (λhb=>by have h9:B<=gb:=(hG.lt _ hb).1;omega) (λh=>h) _,(h.kbl.grew k λhb=>by have:=(h.gr.lt _ hb).1;omega).other (by show gb≠kb;omega) _,h.lt⟩
end
structure kU (W:World) (m:Nat) (sv:Value) (l:List Int) (f:MF) (gb B:Nat) (c:Array Value) (g:av) (vp ve vr va vd vh:Value) (vz:Value) (L:List co) (s:Mk.S) (w:World):Prop where
 gl:bA W m sv l f gb B s c g vp ve vr va vd vh w
 gr:aH B 147 4 dz (λ_=>False) vz L w
section
variable {W:World} {m:Nat} {sv:Value} {l:List Int} {f:MF} {gb B:Nat} {c:Array Value} {g:av} {vp ve vr va vd vh:Value} {vz:Value} {L:List co} {s s':Mk.S} {w w':World}
theorem kU.stays:aG (kU W m sv l f gb B c g vp ve vr va vd vh vz L s):=λw w' h k=>⟨bA.stays _ _ h.gl k,h.gr.mod dz.stay k⟩
theorem kU.call (h:kU W m sv l f gb B c g vp ve vr va vd vh vz L s w) (k:MK m sv l f s' w') (k2:Mod [m] w w'):kU W m sv l f gb B c g vp ve vr va vd vh vz L s' w':=by
 have h1:=h.gl.ord;exact ⟨h.gl.call k k2,h.gr.gW dz.stay k2 zqa (λ_ h=>h.elim)⟩
theorem kU.push {d:co} {v':Value} (h:kU W m sv l f gb B c g vp ve vr va vd vh vz L s w) (hG:aH B 147 4 dz (λ_=>False) v' (L++[d]) w') (k:w.grownBy w' vz.ownBlock):kU W m sv l f gb B (c.setIfInBounds 7 v') g vp ve vr va vd vh v' (L++[d]) s (w'.setCell ⟨gb,7,none⟩ v'):=by
 have h1:=h.gl.ord;exact ⟨(h.gl.grown k λb hb=>(h.gr.lt b hb).1).set 7 v',hG.set dz.stay (λhb=>by have h9:B<=gb:=(hG.lt _ hb).1;omega) (λh=>h) _⟩
end
theorem mS {w:World} {b n:Nat} (h:Blk w b #[.int .u8 ((97+n:Nat):Int)] 5) (hn:n<100):(convert 74 9 (.slice (some ⟨b,0,none⟩) 1 1)).run Tryz.prog w=.ok (.string (Mk.letter n)) w :=
 wH (P:=Tryz.prog) w 74 9 5 ⟨b,0,none⟩ 1 [UInt8.ofNat (97+n)] zt zt zt λj u hj=>by
  have e1:(⟨b,0,none⟩:Addr).add j=⟨b,j,none⟩:=by unfold Addr.add;split <;> simp_all
  rw [e1,h.cell]
  match j,hj with
  | 0,hj =>
   simp at hj;subst hj;simp [bcell];omega
def nW (d:bS):List Value:=[.int .i64 d.op,.int .i64 d.a]
def Eg (B:Nat) (l:List bS) (v:Value) (w:World):Prop:=∃ b,v=.slice (some ⟨b,0,none⟩) l.length l.length/\B<=b/\Blk w b (l.flatMap nW).toArray 48
theorem Az (m:Nat) (sv:Value) (l:List Int) (f:MF) (s:Mk.S) (n funcs:Int) (hn:0<=n) (hn1:n<=100000) (hf:0<=funcs) (hf1:funcs<=100000) {rl:List bS} {rs:Mk.S} (he:Mk.piece n funcs s=(rl,rs)) (w:World) (h:MK m sv l f s w) :
  Calls Tryz.prog 79 #[.pointer (some ⟨m,0,none⟩),.int .i64 n,.int .i64 funcs] w λe w'=>∃ v,e=.returned v/\Eg w.heap.size rl v w'/\MK m sv l f rs w'/\Mod [m] w w':=by
 obtain ⟨p,s1,h1⟩:∃ a b,Mk.next (n+1) s=(a,b):=⟨_,_,rfl⟩
 obtain ⟨q,s2,h2⟩:∃ a b,Mk.next (n+1) s1=(a,b):=⟨_,_,rfl⟩
 obtain ⟨a,s3,h3⟩:∃ a b,Mk.next 2 s2=(a,b):=⟨_,_,rfl⟩
 obtain ⟨c,s4,h4⟩:∃ a b,Mk.next 12 s3=(a,b):=⟨_,_,rfl⟩
 unfold Mk.piece at he;rw [Mk.ai h1,Mk.ai h2,Mk.ai h3,Mk.ai h4] at he;have C1:=Hi (bF m sv l f s (n+1) zo zo h1 w h);have C2:=Hi (bF m sv l f s1 (n+1) zo zo h2);have C3:=Hi (bF m sv l f s2 2 zo zo h3);have C4:=Hi (bF m sv l f s3 12 zo zo h4);have i4:=ay zo h4;have HE:=Hi he;have ei:IntKind.i64.wrap (n+1)=n+1:=IntWalk.i64_in _ zo;have HN:=Hi hn1;have HF:=Hi hf1;clear h1 h2 h3 h4 he h hn1 hf1;go_enter Tryz.func79,Tryz.ntmps79;go_wp2_with fail;refine C1.o.mono ?_;rintro e w1 ⟨rfl,K1,M1⟩;go_wp2_with fail;refine (C2.o w1 K1).mono ?_;rintro e w2 ⟨rfl,K2,M2⟩;go_wp2_with fail;refine (C3.o w2 K2).mono ?_;rintro e w3 ⟨rfl,K3,M3⟩;go_wp2_with fail;refine (C4.o w3 K3).mono ?_;rintro e w4 ⟨rfl,K4,M4⟩;have HK:=Hi K4;have HM:=Hi (((M1.then M2).then M3).then M4);clear C1 C2 C3 C4 K1 K2 K3 K4 M1 M2 M3 M4;have hc:c=0∨c=1∨c=2∨c=3∨c=4∨c=5∨c=6∨c=7∨c=8∨c=9∨c=10∨c=11:=zo;clear i4;rcases hc with rfl | rfl | rfl | rfl | rfl | rfl | rfl | rfl | rfl | rfl | rfl | rfl
 ·
  obtain ⟨rfl,rfl⟩:[⟨22,a⟩,⟨23,a⟩]=rl/\s4=rs:=by simpa [Mk.dI,Mk.rest] using HE.o
  go_wp2;go_ret;exact ⟨_,rfl,⟨_,rfl,HM.o.size,Blk.new _ _ _⟩,MK.stays _ _ HK.o (mR.alloc _),HM.o.alloc _⟩
 ·
  obtain ⟨x,s5,h5⟩:∃ a b,Mk.next 6 s4=(a,b):=⟨_,_,rfl⟩
  have C5:=Hi (bF m sv l f s4 6 zd zd h5 w4 HK.o);have i5:=ay zd h5;obtain ⟨rfl,rfl⟩:[⟨24,x⟩]=rl/\s5=rs:=by
   have h9:=HE.o;simpa [Mk.dI,Mk.ai h5] using h9
  clear h5;go_wp2_with fail;refine C5.o.mono ?_;rintro e w5 ⟨rfl,K5,M5⟩;have HK5:=Hi K5;have HM5:=Hi (HM.o.then M5);clear K5 M5 C5 HM HK i5;go_wp2;go_ret;exact ⟨_,rfl,⟨_,rfl,HM5.o.size,Blk.new _ _ _⟩,MK.stays _ _ HK5.o (mR.alloc _),HM5.o.alloc _⟩
 ·
  obtain ⟨rfl,rfl⟩:[⟨1,p⟩,⟨1,p⟩,⟨29,0⟩,⟨15,0⟩,⟨32,0⟩]=rl/\s4=rs:=by simpa [Mk.dI,Mk.rest] using HE.o
  go_wp2;go_ret;exact ⟨_,rfl,⟨_,rfl,HM.o.size,Blk.new _ _ _⟩,MK.stays _ _ HK.o (mR.alloc _),HM.o.alloc _⟩
 ·
  obtain ⟨rfl,rfl⟩:[⟨1,p⟩,⟨1,p⟩,⟨29,0⟩,⟨15,0⟩,⟨32,0⟩]=rl/\s4=rs:=by simpa [Mk.dI,Mk.rest] using HE.o
  go_wp2;go_ret;exact ⟨_,rfl,⟨_,rfl,HM.o.size,Blk.new _ _ _⟩,MK.stays _ _ HK.o (mR.alloc _),HM.o.alloc _⟩
 ·
  obtain ⟨x,s5,h5⟩:∃ a b,Mk.next 200 s4=(a,b):=⟨_,_,rfl⟩
  have C5:=Hi (bF m sv l f s4 200 zd zd h5 w4 HK.o);have i5:=ay zd h5;obtain ⟨rfl,rfl⟩:[⟨1,p⟩,⟨1,x - 100⟩,⟨31,0⟩]=rl/\s5=rs:=by
   have h9:=HE.o;simpa [Mk.dI,Mk.ai h5] using h9
  have e5:IntKind.i64.wrap (x - 100)=x - 100:=IntWalk.i64_in _ zo;clear h5;go_wp2_with fail;refine C5.o.mono ?_;rintro e w5 ⟨rfl,K5,M5⟩;have HK5:=Hi K5;have HM5:=Hi (HM.o.then M5);clear K5 M5 C5 HM HK i5;go_wp2;go_ret;exact ⟨_,rfl,⟨_,rfl,HM5.o.size,Blk.new _ _ _⟩,MK.stays _ _ HK5.o (mR.alloc _),HM5.o.alloc _⟩
 ·
  obtain ⟨rfl,rfl⟩:[⟨1,p⟩,⟨1,q⟩,⟨33,0⟩]=rl/\s4=rs:=by simpa [Mk.dI,Mk.rest] using HE.o
  go_wp2;go_ret;exact ⟨_,rfl,⟨_,rfl,HM.o.size,Blk.new _ _ _⟩,MK.stays _ _ HK.o (mR.alloc _),HM.o.alloc _⟩
 ·
  obtain ⟨rfl,rfl⟩:[⟨34,a⟩]=rl/\s4=rs:=by simpa [Mk.dI,Mk.rest] using HE.o
  go_wp2;go_ret;exact ⟨_,rfl,⟨_,rfl,HM.o.size,Blk.new _ _ _⟩,MK.stays _ _ HK.o (mR.alloc _),HM.o.alloc _⟩
 ·
  obtain ⟨rfl,rfl⟩:[⟨1,a⟩,⟨1,q⟩,⟨25,0⟩,⟨1,3⟩,⟨5,0⟩,⟨26,0⟩]=rl/\s4=rs:=by simpa [Mk.dI,Mk.rest] using HE.o
  go_wp2;go_ret;exact ⟨_,rfl,⟨_,rfl,HM.o.size,Blk.new _ _ _⟩,MK.stays _ _ HK.o (mR.alloc _),HM.o.alloc _⟩
 ·
  by_cases hfz:0<funcs
  ·have HFZ:=Hi hfz;obtain ⟨x,s5,h5⟩:∃ a b,Mk.next funcs s4=(a,b):=⟨_,_,rfl⟩
   have C5:=Hi (bF m sv l f s4 funcs zo (by have:=HF.o;omega) h5 w4 HK.o);have i5:=ay zo h5;obtain ⟨rfl,rfl⟩:[⟨37,x⟩]=rl/\s5=rs:=by
    have h9:=HE.o;simpa [Mk.dI,Mk.ai h5,HFZ.o] using h9
   clear h5;go_wp2_with fail;refine C5.o.mono ?_;rintro e w5 ⟨rfl,K5,M5⟩;have HK5:=Hi K5;have HM5:=Hi (HM.o.then M5);clear K5 M5 C5 HM HK i5;go_wp2;go_ret;exact ⟨_,rfl,⟨_,rfl,HM5.o.size,Blk.new _ _ _⟩,MK.stays _ _ HK5.o (mR.alloc _),HM5.o.alloc _⟩
  ·have HFZ:=Hi hfz;obtain ⟨rfl,rfl⟩:[⟨39,0⟩,⟨1,16⟩,⟨17,0⟩,⟨36,2⟩,⟨1,q⟩,⟨2,0⟩]=rl/\s4=rs:=by
    have h9:=HE.o;simpa [Mk.dI,Mk.rest,HFZ.o] using h9
   go_wp2;go_ret;exact ⟨_,rfl,⟨_,rfl,HM.o.size,Blk.new _ _ _⟩,MK.stays _ _ HK.o (mR.alloc _),HM.o.alloc _⟩
 ·
  have b3:∀ W,Mod [] w4 W->W.cell? ⟨m,11,none⟩=some (.int .i64 s4.lp):=λW k=>(MK.stays _ _ HK.o k).blk.cell 11
  have f3:w4.frozen? ⟨m,11,none⟩=false:=HK.o.blk.frozen 11;have b4:=b3 w4 mR
  by_cases hfz:0<funcs
  ·have HFZ:=Hi hfz
   by_cases hlp:0<s4.lp
   ·have HLP:=Hi hlp;have h0:=HK.o.lp0;have h1:=HK.o.lp1;have e6:IntKind.i64.wrap (s4.lp - 1)=s4.lp - 1:=IntWalk.i64_in _ zo;have HK4:Hy (MK m sv l f ⟨s4.r,s4.lp - 1⟩ (w4.setCell ⟨m,11,none⟩ (.int .i64 (s4.lp - 1)))):=⟨HK.o.blk.set 11 _,HK.o.num.same aF.stay (bC.set w4 zk _),HK.o.suf,by show (0:Int)<=s4.lp - 1;omega,by show s4.lp - 1<=1000000;omega⟩
    have HM4:=Hi (HM.o.setCell (p:=⟨m,11,none⟩) (λ_=>by simp) (.int .i64 (s4.lp - 1)));obtain ⟨x,s5,h5⟩:∃ a b,Mk.next 5 ⟨s4.r,s4.lp - 1⟩=(a,b):=⟨_,_,rfl⟩
    obtain ⟨y,s6,h6⟩:∃ a b,Mk.next funcs s5=(a,b):=⟨_,_,rfl⟩
    have C5:=Hi (bF m sv l f _ 5 zd zd h5);have C6:=Hi (bF m sv l f _ funcs zo (by have:=HF.o;omega) h6);obtain ⟨rfl,rfl⟩:[⟨1,x⟩,⟨38,y⟩]=rl/\s6=rs:=by
     have h9:=HE.o;simpa [Mk.dI,HFZ.o,HLP.o,Mk.ai h5,Mk.ai h6] using h9
    clear h5 h6 h0 h1 b3 HM HK;go_wp2_with fail;refine (C5.o _ HK4.o).mono ?_;rintro e w5 ⟨rfl,K5,M5⟩;have HK5:=Hi K5;have HM5:=Hi (HM4.o.then M5);clear K5 M5 C5 HM4 HK4;go_wp2_with fail;refine (C6.o _ HK5.o).mono ?_;rintro e w6 ⟨rfl,K6,M6⟩;have HK6:=Hi K6;have HM6:=Hi (HM5.o.then M6);clear K6 M6 C6 HM5 HK5;go_wp2;go_ret;exact ⟨_,rfl,⟨_,rfl,HM6.o.size,Blk.new _ _ _⟩,MK.stays _ _ HK6.o (mR.alloc _),HM6.o.alloc _⟩
   ·have HLP:=Hi hlp;obtain ⟨rfl,rfl⟩:[⟨39,0⟩,⟨1,16⟩,⟨17,0⟩,⟨36,2⟩,⟨1,q⟩,⟨2,0⟩]=rl/\s4=rs:=by
     have h9:=HE.o;simpa [Mk.dI,Mk.rest,HLP.o] using h9
    go_wp2;go_ret;exact ⟨_,rfl,⟨_,rfl,HM.o.size,Blk.new _ _ _⟩,MK.stays _ _ HK.o (mR.alloc _),HM.o.alloc _⟩
  ·have HFZ:=Hi hfz;obtain ⟨rfl,rfl⟩:[⟨39,0⟩,⟨1,16⟩,⟨17,0⟩,⟨36,2⟩,⟨1,q⟩,⟨2,0⟩]=rl/\s4=rs:=by
    have h9:=HE.o;simpa [Mk.dI,Mk.rest,HFZ.o] using h9
   go_wp2;go_ret;exact ⟨_,rfl,⟨_,rfl,HM.o.size,Blk.new _ _ _⟩,MK.stays _ _ HK.o (mR.alloc _),HM.o.alloc _⟩
 ·
  obtain ⟨rfl,rfl⟩:[⟨1,p⟩,⟨30,0⟩,⟨1,q⟩,⟨29,0⟩,⟨16,0⟩,⟨36,3⟩,⟨1,q⟩,⟨1,64⟩,⟨31,0⟩]=rl/\s4=rs:=by simpa [Mk.dI,Mk.rest] using HE.o
  go_wp2;go_ret;exact ⟨_,rfl,⟨_,rfl,HM.o.size,Blk.new _ _ _⟩,MK.stays _ _ HK.o (mR.alloc _),HM.o.alloc _⟩
 ·
  obtain ⟨rfl,rfl⟩:[⟨39,0⟩,⟨1,16⟩,⟨17,0⟩,⟨36,2⟩,⟨1,q⟩,⟨2,0⟩]=rl/\s4=rs:=by simpa [Mk.dI,Mk.rest] using HE.o
  go_wp2;go_ret;exact ⟨_,rfl,⟨_,rfl,HM.o.size,Blk.new _ _ _⟩,MK.stays _ _ HK.o (mR.alloc _),HM.o.alloc _⟩
theorem xi {α:Type} (P:α->Prop) {c:Prop} [Decidable c] {x y:α} (h1:c->P x) (h2:¬ c->P y):P (if c then x else y):=by
 split
 ·rename_i h;exact h1 h
 ·rename_i h;exact h2 h
theorem Mk.vO (p q a funcs c:Int) (s:Mk.S):(Mk.dI p q a funcs c s).1.length<=9/\0<(Mk.dI p q a funcs c s).1.length:=by
 unfold Mk.dI
 repeat' refine xi (λr:List bS×Mk.S=>r.1.length<=9/\0<r.1.length) (λ_=>?_) (λ_=>?_)
 all_goals simp [Mk.bind,Mk.rest]
theorem Mk.qu (n funcs:Int) (s:Mk.S):(Mk.piece n funcs s).1.length<=9/\0<(Mk.piece n funcs s).1.length:=Mk.vO _ _ _ _ _ _
theorem Mk.yv (n funcs:Int) (s:Mk.S) (hn:0<=n) (hn1:n<=100000) (hf:0<=funcs) (hf1:funcs<=100000):∀ d∈(Mk.piece n funcs s).1,1<=d.op/\d.op<=39/\-100000<=d.a/\d.a<=100000:=by
 obtain ⟨p,s1,h1⟩:∃ a b,Mk.next (n+1) s=(a,b):=⟨_,_,rfl⟩
 obtain ⟨q,s2,h2⟩:∃ a b,Mk.next (n+1) s1=(a,b):=⟨_,_,rfl⟩
 obtain ⟨a,s3,h3⟩:∃ a b,Mk.next 2 s2=(a,b):=⟨_,_,rfl⟩
 obtain ⟨c,s4,h4⟩:∃ a b,Mk.next 12 s3=(a,b):=⟨_,_,rfl⟩
 have i1:=ay zo h1;have i2:=ay zo h2;have i3:=ay zo h3;unfold Mk.piece;rw [Mk.ai h1,Mk.ai h2,Mk.ai h3,Mk.ai h4];clear h1 h2 h3 h4;have k6:=Mk.jZ 6 s4 zo;have k6':=Mk.gg 6 s4 zo;have k2:=Mk.jZ 200 s4 zo;have k2':=Mk.gg 200 s4 zo;have k5:=Mk.jZ 5 ⟨s4.r,s4.lp - 1⟩ zo;have k5':=Mk.gg 5 ⟨s4.r,s4.lp - 1⟩ zo;have kf:0<funcs->∀ s,0<=(Mk.next funcs s).1/\(Mk.next funcs s).1<funcs:=λh s=>⟨Mk.jZ funcs s h,Mk.gg funcs s h⟩
 unfold Mk.dI
 repeat' refine xi (λr:List bS×Mk.S=>∀ d∈r.1,1<=d.op/\d.op<=39/\-100000<=d.a/\d.a<=100000) (λ_=>?_) (λ_=>?_)
 all_goals simp only [Mk.bind,Mk.rest,List.forall_mem_cons,List.not_mem_nil,false_implies,implies_true,and_true]
 all_goals try omega
 ·rename_i h1;have:=kf h1 s4;omega
 ·rename_i h1;have:=kf h1.1 (Mk.next 5 ⟨s4.r,s4.lp - 1⟩).2;omega
theorem r9 {B:Bl} {w:World}:∀ {l:List bS},(∀ d∈l,I64 d.op/\I64 d.a)->aP 2 eA B w (l.map nW) l:=by
 intro l h;refine ⟨by simp,λi h1 h2=>?_⟩;rw [List.getElem_map];exact ⟨rfl,rfl,(h _ (List.getElem_mem h2)).1,(h _ (List.getElem_mem h2)).2⟩
theorem wA:∀ (l:List bS),∀ u∈(l.map nW).flatten,u.oneCell'=true:=by
 intro l u hu;rw [oN,List.mem_flatMap] at hu;obtain ⟨d,_,hd⟩:=hu;simp [nW] at hd;rcases hd with rfl | rfl <;> rfl
def qc (n funcs:Int):Nat->List bS->Mk.M (List bS):=λ_ l s=>Mk.bind (Mk.piece n funcs s) λx s=>(l++x,s)
theorem Mk.rA {n funcs most k:Int} {s s1:Mk.S} (h:Mk.next most s=(k,s1)):Mk.hint n funcs most s=Mk.rep k.toNat (qc n funcs) [] s1:=by unfold Mk.hint;rw [Mk.ai h];rfl
theorem xm (m:Nat) (sv:Value) (l:List Int) (f:MF) (s:Mk.S) (n funcs most:Int) (hn:0<=n) (hn1:n<=100000) (hf:0<=funcs) (hf1:funcs<=100000) (hm:0<most) (hm1:most<=1000) {rl:List bS} {rs:Mk.S} (he:Mk.hint n funcs most s=(rl,rs)) (w:World) (h:MK m sv l f s w) :
  Calls Tryz.prog 20 #[.pointer (some ⟨m,0,none⟩),.int .i64 n,.int .i64 funcs,.int .i64 most] w λe w'=>∃ v,e=.returned v/\az 2 eA (λb=>w.heap.size<=b) w' v rl/\MK m sv l f rs w'/\Mod [m] w w':=by
 obtain ⟨k,s1,h1⟩:∃ a b,Mk.next most s=(a,b):=⟨_,_,rfl⟩
 rw [Mk.rA h1] at he;have C1:=Hi (bF m sv l f s most hm zo h1 w h);have i1:=ay hm h1;obtain ⟨K,rfl⟩:∃ K:Nat,k=K:=⟨k.toNat,by omega⟩
 have hK:K<1000:=zo;have HK0:=Hi hK;rw [Int.toNat_natCast] at he;have HE:=Hi he;have CP:=Hi (λst x st' e=>Az m sv l f st n funcs hn hn1 hf hf1 (rl:=x) (rs:=st') e);have CI:=Hi (λst=>Mk.yv n funcs st hn hn1 hf hf1);have hmw:m<w.heap.size:=h.blk.lt;have HMW:=Hi hmw;clear h1 he h i1 hn hn1 hf hf1 hm hm1 hmw hK;obtain ⟨i0,hi,hz0,hz1,hz2⟩:=info_parts Dh;go_enter Tryz.func20,Tryz.ntmps20;go_wp2_with fail;refine C1.o.mono ?_;rintro e w1 ⟨rfl,K1,M1⟩;have HK:=Hi K1;have HM:=Hi M1;clear K1 M1 C1;go_wp2_with fail
 go_loopg [9,11] K (λgk v9 i11 wr=>∃ (i:Nat) (L:List bS) (st:Mk.S) (oa:Option Addr) (cap:Nat),v9=.slice oa L.length cap/\i11=.int .i64 (i:Int)/\Hy (i+gk=K)/\Hy (Mk.rep i (qc n funcs) [] s1=(L,st))/\Hy (L.length<=9*i)/\Hy (MK m sv l f st wr/\Mod [m] w wr/\aH w.heap.size 48 2 eA (λ_=>False) v9 L wr))
 case atStart=>exact ⟨0,[],s1,none,0,rfl,rfl,by show 0+K=K;omega,rfl,nR _,HK.o,HM.o,aH.nil⟩
 case round =>
  obtain ⟨i,L,st,oa,cap,rfl,rfl,hi5,HR,HL,HS⟩:=hrel;clear HK HM
  by_cases hin:i<K
  case neg =>
   obtain rfl:i=K:=by have:=hi5.o;omega
   have k1:=dF (p:=(i:Int)<i) zo;obtain ⟨rfl,rfl⟩:L=rl/\st=rs:=by have h9:=HE.o;rw [HR.o] at h9;simpa using h9
   go_wp2;go_ret;exact ⟨_,rfl,HS.o.2.2.done zd eA.weak (jf _) (λb hb=>(HS.o.2.2.lt b hb).1),HS.o.1,HS.o.2.1⟩
  have k1:=dT (p:=(i:Int)<K) zo;have k2:(i:Int)<K:=zo;have ei:IntKind.i64.wrap ((i:Int)+1)=(i:Int)+1:=IntWalk.i64_in _ (by have:=HK0.o;omega);obtain ⟨x,st',hx⟩:∃ a b,Mk.piece n funcs st=(a,b):=⟨_,_,rfl⟩
  have HX:=Hi hx;have CX:=Hi (CP.o st x st' hx wr HS.o.1);have HIN:=Hi hin;clear hx hin;go_wp2_with fail;refine CX.o.mono ?_;rintro e w2 ⟨v,rfl,⟨b,rfl,hb,hB⟩,K2,M2⟩;have hg2:aH w.heap.size 48 2 eA (λ_=>False) (.slice oa L.length cap) L w2:=HS.o.2.2.gW eA.stay M2 (by simpa using HMW.o) zk;have HG:=Hi hg2;have HK2:=Hi K2;have HM2:=Hi (HS.o.2.1.then M2);have HB:=Hi hB;have HC:=Hi (CI.o st);have HN:=Hi (Mk.qu n funcs st);rw [HX.o] at HC HN;clear hg2 K2 M2 hB HS CX hb;go_wp2_with (at_builtin;refine aO (k:=2) (e:=48) (base:=w.heap.size) (l:=L) (l':=x) rfl _ _ 44 rfl i0 _ 16 Tryz.underlying44 hi hz0 hz1 hz2 rfl zd eA.stay eA.weak rfl HG.o ⟨b,0,none⟩ _ _ (x.map nW) rfl rfl (r9 λd hd=>?_) ?_ (wA x) ?_ ?_ ?_ ?_)
  ·have:=HC.o d hd;exact ⟨I64.of zo zo,I64.of zo zo⟩
  ·exact λj u hu=>bi HB.o (by rw [oN]) hu
  ·have h1:=HL.o;have h2:=HN.o.1;have h3:=HK0.o;have h4:=HIN.o;unfold maxLen;omega
  ·have h1:=HL.o;have h2:=HN.o.1;have h3:=HK0.o;have h4:=HIN.o;omega
  ·exact HM2.o.size
  intro v' w3 hG hgr _;obtain ⟨oa',c',rfl⟩:=hG.form;have HS3:Hy (MK m sv l f st' w3/\Mod [m] w w3/\aH w.heap.size 48 2 eA (λ_=>False) (.slice oa' (L++x).length c') (L++x) w3):=by
   have hlt:=HG.o.lt;refine ⟨HK2.o.grown hgr λg hg=>?_,HM2.o.grew hgr λg hg=>(hlt g hg).1,hG⟩;have:=(hlt g hg).1;have:=HMW.o;omega
  clear hG hgr HG HK2 HM2 HB HC;go_wp2;go_roundg (gk - 1)
  case measure=>have:=hi5.o;omega
  case rel =>
   refine ⟨i+1,L++x,st',oa',c',rfl,by rw [Int.natCast_add];rfl,?_,?_,?_,HS3.o⟩
   ·have:=hi5.o;have:=HIN.o;show i+1+(gk - 1)=K;omega
   ·show Mk.rep (i+1) (qc n funcs) [] s1=_;rw [Mk.aR HR.o];unfold qc;rw [Mk.ai HX.o]
   ·have h1:=HL.o;have h2:=HN.o.1;show (L++x).length<=9*(i+1);rw [List.length_append];omega
def gz:av:=⟨ByteArray.empty,0,false,[],[],[],[],[],[]⟩
def anK (c:Int) (i:Nat):Int×Int:=[(1,0),(1,1),(3,0),(4,0),(2,c)].getD i (0,0)
def anC (c:Int):Array Value:=#[.int .i64 1,.int .i64 0,.int .i64 1,.int .i64 1,.int .i64 3,.int .i64 0,.int .i64 4,.int .i64 0,.int .i64 2,.int .i64 c]
def anF (c:Int) (mark:Bool):Nat->List bh->Mk.M (List bh):=λi l s=>Mk.bind (Mk.next 3 s) λz s =>
 if z=0/\((anK c i).1≠2∨mark=true) then Mk.bind (Mk.next 21 s) λx s=>Mk.bind (Mk.next 21 s) λy s=>(l++[⟨(anK c i).1,(anK c i).2,x*50,y*50 - 200⟩],s) else (l,s)
theorem nX (c:Int) (i:Nat) (h:i<5):(anC c)[i*2]?=some (.int .i64 (anK c i).1)/\(anC c)[i*2+1]?=some (.int .i64 (anK c i).2):=by
 match i,h with
 | 0,_=>exact ⟨rfl,rfl⟩
 | 1,_=>exact ⟨rfl,rfl⟩
 | 2,_=>exact ⟨rfl,rfl⟩
 | 3,_=>exact ⟨rfl,rfl⟩
 | 4,_=>exact ⟨rfl,rfl⟩
theorem xu (c:Int) (hc:I64 c) (i:Nat):I64 (anK c i).1/\I64 (anK c i).2:=by
 match i with
 | 0=>show I64 1/\I64 0;exact ⟨by unfold I64;omega,by unfold I64;omega⟩
 | 1=>show I64 1/\I64 1;exact ⟨by unfold I64;omega,by unfold I64;omega⟩
 | 2=>show I64 3/\I64 0;exact ⟨by unfold I64;omega,by unfold I64;omega⟩
 | 3=>show I64 4/\I64 0;exact ⟨by unfold I64;omega,by unfold I64;omega⟩
 | 4=>show I64 2/\I64 c;exact ⟨by unfold I64;omega,hc⟩
 | n+5=>show I64 0/\I64 0;exact ⟨by unfold I64;omega,by unfold I64;omega⟩
abbrev ae:Value:=.slice none 0 0
theorem lR {α:Type} {k:Nat} {R:Bl->World->List Value->α->Prop} {S:Bl} {w:World} {v:Value} {l:List α} (h:az k R S w v l):v.oneCell'=true:=by
 obtain ⟨_,_,rfl,_⟩:=h.form;rfl
theorem eN {P:Program} {α:Type} {base k:Nat} {e:TypeId} {R:Bl->World->List Value->α->Prop} {S:Bl} {l l':List α} {v:Value} {w:World} {o:Oper} {a:Act} {K:Act->World->Prop} {Q:Exit->Act->World->Prop} (hgd:o.guard=none) (s x:Operand) (t:TypeId)
  (ho:o.op=.call { callee:=.builtin .append,args:=#[s,x],argTypes:=#[t,t] })
  (i:TypeInfo) (z:Value) (bytes:Nat) (ht:P.underlying t=some (.slice e)) (hi:P.info? e=some i) (hz:i.zero=some z)
  (hsize:i.size=k) (hby:i.bytes=bytes) (hzs:z.cells.size=k) (hsz:0<k)
  (hR:bI R) (hW:bW R) (hs:a.eval s=v) (h:aH base e k R S v l w)
  (ad:Addr) (m c:Nat) (css':List (List Value)) (hx:a.eval x=.slice (some ad) m c) (hm:m=l'.length) (hE:aP k R (λb=>S b/\v.ownBlock≠some b) w css' l') (hnews:∀ j u,css'.flatten[j]?=some u->w.cell? (ad.add j)=some u) (h1:∀ u∈css'.flatten,u.oneCell'=true)
  (h63:l.length+m<=maxLen) (hbytes:(l.length+m)*bytes<=140737488355328) (hbase:base<=w.heap.size)
  (hK:∀ v' w',aH base e k R S v' (l++l') w'->w.grownBy w' v.ownBlock->(v'.ownBlock=v.ownBlock∨v'.ownBlock=some w.heap.size)->K (a.put o.dst v') w'):o.wp P a w K Q:=by
 obtain ⟨css,hown,hE0⟩:=id h;have hl:css'.flatten.length=m*k:=by rw [hE.flat,hm]
 obtain ⟨v',w',hr,h2,h3,_⟩:=run_append_own (P:=P) w base t o.type e i z k bytes ht hi hz hsize hby hzs hsz v l.length css.flatten hown ad m c css'.flatten hl hnews h1 h63 hbytes hbase;have hbk:=fR (P:=P) t o.type e i z k bytes ht hi hz hsize hby hzs v l.length css.flatten hown ad m c css'.flatten hl hnews h1 h63 hbytes hr;have hg:aH base e k R S v' (l++l') w':=by
  refine h.push hR hW (css':=css') hE (λxs hxs=>?_) h3 hbk;have:xs=css.flatten:=by
   rcases hown.2 with ⟨rfl,hn⟩ | ⟨g,cap,cur,rfl,_,hg,_,_,_,hq⟩
   ·have h5:=hxs.1;have h6:=hown.1;rw [hn] at h5 h6;have h7:xs=[]:=List.eq_nil_of_length_eq_zero (by simpa using h5);have h8:css.flatten=[]:=List.eq_nil_of_length_eq_zero (by rw [h6];simp);rw [h7,h8]
   ·rcases hxs.2 with ⟨hv,_⟩ | ⟨g',cap',cur',hv,_,hg',_,_,_,hq'⟩
    ·cases hv
    ·cases hv;rw [hg] at hg';cases hg';rw [<- hq,<- hq']
  rw [this,<- hm];exact h2
 unfold Oper.wp execOp;simp only [ho,resolve,invoke,builtin,Sem.run_bind,Sem.run_pure,Result.andThen_ok,List.map_toArray,List.map_cons,List.map_nil,hs,hx,hr];exact hK v' w' hg h3 hbk
def lA (W:World) (m bs:Nat) (sv:Value) (l:List Int) (f:MF) (L:List av) (s:Mk.S) (v:Value) (w:World):Prop :=
 ∃ (ov:Option Addr) (cv:Nat),v=.slice ov L.length cv/\aH bs 46 9 bO (λb=>m<b) v L w/\MK m sv l f s w/\Mod (m::f.gl.ownBlock.toList) W w
theorem lA.stays {W:World} {m bs:Nat} {sv:Value} {l:List Int} {f:MF} {L:List av} {s:Mk.S} (v:Value):aG (lA W m bs sv l f L s v):=λw w' ⟨ov,cv,h0,h1,h2,h3⟩ k=>⟨ov,cv,h0,h1.mod bO.stay k,MK.stays _ _ h2 k,h3.then (k.more zk)⟩
theorem bA.elem {W:World} {m bs:Nat} {sv:Value} {l:List Int} {f:MF} {gb B:Nat} {s:Mk.S} {c:Array Value} {g:av} {vp ve vr va vd vh:Value} {w:World} {L:List av} {nm:ByteArray} {nn:Int} {mk:Bool} (h:bA W m sv l f gb B s c g vp ve vr va vd vh w) (hG:aH bs 46 9 bO (λb=>m<b) f.gl L W) (hnm:nm.size<=maxLen) (hnn:I64 nn) :
  aP 9 bO (λb=>m<b/\f.gl.ownBlock≠some b) w [[.string nm,.int .i64 nn,.bool mk,vp,ve,vr,va,vd,vh]] [⟨nm,nn,mk,g.pts,g.ends,g.parts,g.anchors,g.deltas,g.hint⟩]:=by
 have h1:=h.ord;have h2:=hG.lt;have h3:=h.rows.weak (S':=λb=>m<b/\f.gl.ownBlock≠some b) λb _ hb=>⟨by omega,λhe=>by have:=h2 b he;omega⟩
 exact aP.one rfl ⟨_,_,_,_,_,_,rfl,hnm,hnn,h3.pts,h3.ends,h3.parts,h3.anch,h3.delt,h3.hint⟩
theorem bA.one {W:World} {m:Nat} {sv:Value} {l:List Int} {f:MF} {gb B:Nat} {s:Mk.S} {c:Array Value} {g:av} {vp ve vr va vd vh:Value} {w:World} (nm:ByteArray) (nn:Int) (mk:Bool) (h:bA W m sv l f gb B s c g vp ve vr va vd vh w):∀ u∈[[Value.string nm,.int .i64 nn,.bool mk,vp,ve,vr,va,vd,vh]].flatten,u.oneCell'=true:=by
 have h3:=h.rows;intro u hu;simp only [List.flatten_cons,List.flatten_nil,List.append_nil,List.mem_cons,List.not_mem_nil,or_false] at hu;rcases hu with rfl | rfl | rfl | rfl | rfl | rfl | rfl | rfl | rfl
 ·rfl
 ·rfl
 ·rfl
 ·exact lR h3.pts
 ·exact lR h3.ends
 ·exact lR h3.parts
 ·exact lR h3.anch
 ·exact lR h3.delt
 ·exact lR h3.hint
theorem Dy {N m bs:Nat} {v:Value} {L:List av} {W:World} (hbs:m<bs/\bs<=N) (hG:aH bs 46 9 bO (λb=>m<b) v L W):∀ b,v.ownBlock=some b->m<b:=λb he=>by
 have h8:=(hG.lt b he).1;omega
theorem Cz {N m bs:Nat} {v:Value} {L:List av} {W w:World} (hbs:m<bs/\bs<=N) (hG:aH bs 46 9 bO (λb=>m<b) v L W) (k:Mod [m] W w):aH bs 46 9 bO (λb=>m<b) v L w :=
 hG.kept bO.stay k (λb hb he=>by have h7:b=m:=mI.1 hb;have h8:=Dy hbs hG b he;omega) (λb hb hs=>by have h7:b=m:=mI.1 hb;omega)
def MkI (m:Nat) (sv:Value) (l:List Int) (f:MF) (w W:World):Prop:=Mod [m] w W/\∃ s,MK m sv l f s W
theorem MkI.then {m:Nat} {sv:Value} {l:List Int} {f:MF} {w:World} (a b:World) (h:MkI m sv l f w a) (k:Mod [] a b):MkI m sv l f w b:=⟨h.1.then (k.more zk),h.2.elim λs hs=>⟨s,MK.stays _ _ hs k⟩⟩
def ri (W:World) (m:Nat) (sv:Value) (l:List Int) (f:MF) (gb:Nat) (s:Mk.S) (c:Array Value) (g:av) (vp ve vr va vd:Value) (n:Nat) (v:Value) (w:World):Prop:=∃ (oh:Option Addr) (ch B:Nat),v=.slice oh n ch/\bA W m sv l f gb B s c g vp ve vr va vd v w
theorem ri.stays {W:World} {m:Nat} {sv:Value} {l:List Int} {f:MF} {gb:Nat} {s:Mk.S} {c:Array Value} {g:av} {vp ve vr va vd:Value} {n:Nat} (v:Value):aG (ri W m sv l f gb s c g vp ve vr va vd n v):=λw w' ⟨oh,ch,B,h1,h2⟩ k=>⟨oh,ch,B,h1,bA.stays _ _ h2 k⟩
theorem Mod.xo {F:List Nat} {w a b:World} {row:Option Nat} (h:Mod F w a) (g:a.grownBy b row):Mod (F++row.toList) w b :=
 ⟨g.os.trans h.os,g.tape.trans h.tape,g.output.trans h.output,nT h.size g.size,λk hk hn=>(g.block k (Nat.lt_of_lt_of_le hk h.size) (λhe=>hn (by simp [<- he]))).trans (h.block k hk (λhm=>hn (by simp [hm])))⟩
theorem Mod.Bz {w a b:World} {row:Option Nat} (h:Mod row.toList w a) (g:a.grownBy b row):Mod row.toList w b :=
 ⟨g.os.trans h.os,g.tape.trans h.tape,g.output.trans h.output,nT h.size g.size,λk hk hn=>(g.block k (Nat.lt_of_lt_of_le hk h.size) (λhe=>hn (by simp [<- he]))).trans (h.block k hk hn)⟩
def deP (r:Nat):Nat->List co->Mk.M (List co):=λp l s=>Mk.bind (Mk.next 3 s) λz s=>if z=0 then Mk.bind (Mk.next 41 s) λx s=>(if p=0 then (l++[⟨r,-1,x - 20,0⟩],s) else Mk.bind (Mk.next 41 s) λy s=>(l++[⟨r,(p:Int) - 1,x - 20,y - 20⟩],s)) else (l,s)
def deR (pts:Nat):Nat->List co->Mk.M (List co):=λr l s=>Mk.rep (pts+1) (deP r) l s
theorem Mk.bH {α:Type} {f:Nat->α->Mk.M α} (I:Nat->α->Prop) {a:α} {s:Mk.S} {n:Nat} (h0:I 0 a) (hs:∀ i b s,i<n->I i b->I (i+1) (f i b s).1):I n (Mk.rep n f a s).1:=by
 have:∀ k,k<=n->I k (Mk.rep k f a s).1:=by
  intro k
  induction k with
  | zero=>exact λ_=>h0
  | succ k ih=>intro h;rw [Mk.sN];exact hs k _ _ h (ih zo)
 exact this n (nR _)
theorem mP (s:Mk.S):(Mk.outline s).1.pts.length<=10:=by
 unfold Mk.outline;have h1:=Mk.gg 3 s zd;show (Mk.rep (Mk.next 3 s).1.toNat (λ_ o s=>Mk.contour o s) ⟨[],[]⟩ (Mk.next 3 s).2).1.pts.length<=10;have h2:=Mk.bH (f:=λ_ o s=>Mk.contour o s) (a:=⟨[],[]⟩) (s:=(Mk.next 3 s).2) (n:=(Mk.next 3 s).1.toNat) (λi (o:dm)=>o.pts.length<=5*i) (nR _) λi o s hi h=>by
  unfold Mk.contour Mk.bind;have h3:=Mk.gg 4 s zd;have h4:=Mk.bH (f:=λp l s=>((l++[(Mk.point p s).1],(Mk.point p s).2):List bV×Mk.S)) (a:=o.pts) (s:=(Mk.next 4 s).2) (n:=(2+(Mk.next 4 s).1).toNat) (λi (l:List bV)=>l.length<=o.pts.length+i) (nR _) λi l s hi h=>by
   simp;omega
  refine nT h4 ?_;omega
 omega
theorem BC (m bs:Nat) (sv:Value) (l:List Int) (f:MF) (s:Mk.S) (n nr nf:Nat) (hn:n<=20) (hnr:nr<=20) (hnf:nf<=100) {oR oF:Option Addr} {cR cF:Nat} (hrg:f.rg=.slice oR nr cR) (hfn:f.fn=.slice oF nf cF) {L:List av} (hL:L.length<=100)
  {rg:av} {rs:Mk.S} (he:Mk.glyph n nr nf s=(rg,rs)) (w:World) (h:MK m sv l f s w) (hbs:m<bs/\bs<=w.heap.size) (hG:aH bs 46 9 bO (λb=>m<b) f.gl L w) :
  Calls Tryz.prog 21 #[.pointer (some ⟨m,0,none⟩),.int .i64 (n:Int)] w λe w'=>∃ v',e=.returned (.tuple #[])/\aH bs 46 9 bO (λb=>m<b) v' (L++[rg]) w'/\MK m sv l { f with gl:=v' } rs w'/\Mod (m::f.gl.ownBlock.toList) w w':=by
 have HBS:=Hi hbs;clear hbs;obtain ⟨a,s1,h1⟩:∃ a b,Mk.next 19 s=(a,b):=⟨_,_,rfl⟩
 obtain ⟨k,s2,h2⟩:∃ a b,Mk.next 4 s1=(a,b):=⟨_,_,rfl⟩
 obtain ⟨o,s3,h3⟩:∃ a b,Mk.outline s2=(a,b):=⟨_,_,rfl⟩
 unfold Mk.glyph at he;rw [Mk.ai h1,Mk.ai h2,Mk.ai h3] at he;have i1:=ay zd h1;have C1:=Hi (bF m sv l f s 19 zd zd h1);have C2:=Hi (bF m sv l f s1 4 zd zd h2);have C3:=Hi (vR m sv l f s2 h3);have CN:=Hi (λst x st' n h1 h2 e=>bF m sv l f st n h1 h2 (r:=x) (s':=st') e);have CH:=Hi (λst n q st' h1 h2 h3 h4 e=>xm m sv l f st n nf 6 h1 h2 h3 h4 zd zd (rl:=q) (rs:=st') e);have a1:IntKind.i64.wrap (a*50)=a*50:=wrapi zo zo;have a2:IntKind.i64.wrap (100+a*50)=100+a*50:=wrapi zo zo;have n1:IntKind.i64.wrap (97+(n:Int))=97+(n:Int):=wrapi zo zo;have n2:IntKind.u8.wrap (97+(n:Int))=97+(n:Int):=by rw [IntKind.wrap_u8];omega
 have HE:=Hi he;have HA:Hy (I64 (100+a*50)):=I64.of zo zo;have HPL:Hy (o.pts.length<=10):=by have:=mP s2;rw [h3] at this;exact this
 have HN:=Hi (And.intro hn (And.intro hnr hnf));have HRG:=Hi hrg;have HFN:=Hi hfn;have HG0:=Hi hG;have HL:=Hi hL;have HM0:=Hi h;have HMW:=Hi h.blk.lt;clear h1 h2 h3 he i1 hrg hfn hG h hn hnr hnf hL;obtain ⟨p0,pi,pz0,pz1,pz2⟩:=info_parts Bp;obtain ⟨aq0,aqi,aqz0,aqz1,aqz2⟩:=info_parts wm;obtain ⟨dq0,dqi,dqz0,dqz1,dqz2⟩:=info_parts yV;obtain ⟨eq0,eqi,eqz0,eqz1,eqz2⟩:=info_parts yU;go_enter Tryz.func21,Tryz.ntmps21;go_upto_region 0 with fail;have HIK:∀ w' w'':World,Mod [m] w w'->Mod [] w' w''->Mod [m] w w'':=λ_ _ h k=>h.then (k.more zk)
 refine Sa.jH (I:=Mod [m] w) (J:=Mod [m]) (F0:=MK m sv l f s) HIK (λ_ _ k=>k.more zk) 15 [(0,Sa.Tok.v),(1,Sa.Tok.v),(2,Sa.Tok.v),(6,Sa.Tok.v),(7,Sa.Tok.x (MK m sv l f s1)),(8,Sa.Tok.v),(9,Sa.Tok.v),(10,Sa.Tok.v),(11,Sa.Tok.x (MK m sv l f s2)),(12,Sa.Tok.v),(3,Sa.Tok.al (λb=>.slice (some ⟨b,0,none⟩) 1 1) (λb w'=>w.heap.size<=b/\Blk w' b #[.int .u8 (97+(n:Int))] 5)),(4,Sa.Tok.v),(5,Sa.Tok.v),(13,Sa.Tok.v),(14,Sa.Tok.al (λb=>.pointer (some ⟨b,0,none⟩)) (λb w'=>w.heap.size<=b/\Blk w' b (gC ByteArray.empty 0 false ae ae ae ae ae ae) 46))] [(0,0),(1,0),(2,0),(6,0),(7,1),(8,0),(9,0),(10,0),(11,1),(12,0),(3,2),(4,0),(5,0),(13,0),(14,2)] rfl zt zt ?hGd167 (mR.drew) MK.stays (MK.stays _ _ HM0.o (mR.drew)) ?mainA167
 case hGd167 =>
  intro p hp;simp only [List.mem_cons,List.not_mem_nil,or_false] at hp;rcases hp with rfl | rfl | rfl | rfl | rfl | rfl | rfl | rfl | rfl | rfl | rfl | rfl | rfl | rfl | rfl <;> first | exact True.intro | exact (λb w1 w2 h k=>⟨h.1,h.2.kept k (by have:=HMW.o;simp;omega)⟩) | exact MK.stays
 iterate 4 refine Sa.vv ?_
 refine Sa.pO (a':=?_) rfl zt (λw' hw' hF K Q hK=>?_) ?_ ?_;rotate_left
 ·go_wp2_with fail;refine (C1.o w' hF).mono ?_;rintro e w'' ⟨rfl,K',M'⟩;go_wp2;exact hK _ (hw'.then M') M' K'
 ·kernel_rfl
 iterate 3 refine Sa.vv ?_
 refine Sa.pO (a':=?_) rfl zt (λw' hw' hF K Q hK=>?_) ?_ ?_;rotate_left
 ·go_wp2_with fail;refine (C2.o w' hF).mono ?_;rintro e w'' ⟨rfl,K',M'⟩;go_wp2;exact hK _ (hw'.then M') M' K'
 ·kernel_rfl
 refine Sa.vv ?_;refine Sa.xz (f:=?_) rfl zt (λv=>by simp only [Act.put];(try simp only [List.setIfInBounds_toArray]);(try simp only [List.set_cons_succ,List.set_cons_zero]);exact rfl) (λw' hw' K Q hK=>?_) (λbA3=>?_)
 ·go_wp2;exact hK w'.heap.size _ (mR.alloc _) ⟨hw'.size,Blk.new _ _ _⟩
 refine Sa.qR (a':=?_) rfl zt (λw' hw' hG K Q hK=>?_) ?_ ?_;rotate_left
 ·have AC:=mS (n:=n) hG.2.2 (by have:=HN.o.1;omega);go_wp2;exact hK _ mR
 ·kernel_rfl
 iterate 2 refine Sa.vv ?_
 refine Sa.xz (f:=?_) rfl zt (λv=>by simp only [Act.put];(try simp only [List.setIfInBounds_toArray]);(try simp only [List.set_cons_succ,List.set_cons_zero]);exact rfl) (λw' hw' K Q hK=>?_) (λbA14=>?_)
 ·go_wp2;exact hK w'.heap.size _ (mR.alloc _) ⟨hw'.size,Blk.new _ _ _⟩
 refine Sa.bJ ?_;intro w' hw' hF hG;simp only [qS,qZ];have HS0:Hy (bA w m sv l f bA14 w'.heap.size s2 (gC ByteArray.empty 0 false ae ae ae ae ae ae) gz ae ae ae ae ae ae w') :=
  ⟨hF,hw',hG.2.2,⟨az.nil _,az.nil _,az.nil _,az.nil _,az.nil _,az.nil _⟩,HMW.o,hG.2.1,hG.2.2.lt,nR _⟩
 have gc:∀ i,i<9->(∃ v,w'.cell? ⟨bA14,i,none⟩=some v)/\w'.frozen? ⟨bA14,i,none⟩=false:=λi hi=>⟨⟨_,(hG.2.2.cell i).trans (Array.getElem?_eq_getElem (by simpa [gC] using hi))⟩,hG.2.2.frozen i⟩
 generalize w'.heap.size=B0 at HS0;generalize bA14=gb at *
 clear hF hG hw' C1 C2 HIK;obtain ⟨⟨q0,c0⟩,f0⟩:=gc 0 zd;obtain ⟨⟨q1,c1⟩,f1⟩:=gc 1 zd;obtain ⟨⟨q2,c2⟩,f2⟩:=gc 2 zd;obtain ⟨⟨q3,c3⟩,f3⟩:=gc 3 zd;obtain ⟨⟨q4,c4⟩,f4⟩:=gc 4 zd;obtain ⟨⟨q5,c5⟩,f5⟩:=gc 5 zd;obtain ⟨⟨q6,c6⟩,f6⟩:=gc 6 zd;obtain ⟨⟨q7,c7⟩,f7⟩:=gc 7 zd;obtain ⟨⟨q8,c8⟩,f8⟩:=gc 8 zd;clear gc;go_upto_region 1 with fail;have XF:(((((((((w'.setCell ⟨gb,0,none⟩ (.string ((⟨#[103]⟩:ByteArray)++Mk.letter n))).setCell ⟨gb,1,none⟩ (.int .i64 (100+a*50))).setCell ⟨gb,2,none⟩ (.bool (k == 0))).setCell ⟨gb,3,none⟩ (.slice none 0 0)).setCell ⟨gb,4,none⟩ (.slice none 0 0)).setCell ⟨gb,5,none⟩ (.slice none 0 0)).setCell ⟨gb,6,none⟩ (.slice none 0 0)).setCell ⟨gb,7,none⟩ (.slice none 0 0)).setCell ⟨gb,8,none⟩ (.slice none 0 0))=ec w' (gb) (0) [.string ((⟨#[103]⟩:ByteArray)++Mk.letter n),.int .i64 (100+a*50),.bool (k == 0),.slice none 0 0,.slice none 0 0,.slice none 0 0,.slice none 0 0,.slice none 0 0,.slice none 0 0]:=rfl;rw [XF];clear XF;have HS1:Hy (bA w m sv l f gb B0 s2 (gC (Mk.gname n) (100+a*50) (k == 0) ae ae ae ae ae ae) gz ae ae ae ae ae ae _):=HS0.o.over [.string ((⟨#[103]⟩:ByteArray)++Mk.letter n),.int .i64 (100+a*50),.bool (k == 0),.slice none 0 0,.slice none 0 0,.slice none 0 0,.slice none 0 0,.slice none 0 0,.slice none 0 0] rfl;clear HS0 c0 c1 c2 c3 c4 c5 c6 c7 c8 f0 f1 f2 f3 f4 f5 f6 f7 f8;generalize ec w' gb 0 [.string ((⟨#[103]⟩:ByteArray)++Mk.letter n),.int .i64 (100+a*50),.bool (k == 0),.slice none 0 0,.slice none 0 0,.slice none 0 0,.slice none 0 0,.slice none 0 0,.slice none 0 0]=w1 at *
 obtain ⟨nm,hnm⟩:∃ x:ByteArray,x=if n=0 then (⟨#[46,110,111,116,100,101,102]⟩:ByteArray) else Mk.gname n:=⟨_,rfl⟩
 obtain ⟨mk,hmk⟩:∃ x:Bool,x=(decide (n≠0) && decide (k=0)):=⟨_,rfl⟩
 have HNM:=Hi hnm;have HMK:=Hi hmk;clear hnm hmk;go_upto_if 25 with fail
 go_cut [] from 25 to 27 (λwx=>Hy (bA w m sv l f gb B0 s2 (gC nm (100+a*50) mk ae ae ae ae ae ae) gz ae ae ae ae ae ae wx))
 case first =>
  have c0:=HS1.o.blk.cell 0;have c2:=HS1.o.blk.cell 2;have f0:=HS1.o.blk.frozen 0;have f2:=HS1.o.blk.frozen 2
  by_cases hn0:n=0
  ·subst hn0;go_wp2;go_meet
   case rel =>
    have e1:nm=(⟨#[46,110,111,116,100,101,102]⟩:ByteArray):=by have:=HNM.o;simpa using this
    have e2:mk=false:=by have:=HMK.o;simpa using this
    rw [e1,e2];exact (HS1.o.set 0 (.string (⟨#[46,110,111,116,100,101,102]⟩:ByteArray))).set 2 (.bool false)
  ·have k0:=dF (p:=(n:Int)=0) zo;have k1:¬ (n:Int)=0:=zo;have k2:((n:Int) == 0)=false:=beq_false_of_ne k1;go_wp2;go_meet
   case rel =>
    have e1:nm=Mk.gname n:=by have:=HNM.o;rw [if_neg hn0] at this;exact this
    have e2:mk=(k == 0):=by have:=HMK.o;rw [this];simp [hn0];rfl
    rw [e1,e2];exact HS1.o
 case rest =>
  clear HS1;have HE2:=HE.o;rw [<- HMK.o,<- HNM.o] at HE2;have HE:=Hi HE2;clear HE2;go_wp2_with fail;refine (C3.o wc hcut.o.mkr).mono ?_;rintro e w2 ⟨cs,rfl,⟨vp,ve,rfl,hp,hq⟩,K2,M2⟩;obtain ⟨op,cp,rfl,-⟩:=hp.form;obtain ⟨oe,ce,rfl,-⟩:=hq.form;have hX:=hcut.o.call K2 M2;have hX2:bA w m sv l f gb w2.heap.size s3 (gC nm (100+a*50) mk ae ae ae ae ae ae) ⟨ByteArray.empty,0,false,o.pts,o.ends,[],[],[],[]⟩ (.slice op o.pts.length cp) (.slice oe o.ends.length ce) ae ae ae ae w2:=by
   have h0:=hX.ord;have h1:=hX.up (B':=w2.heap.size) h0.2.2.2 (nR _);have h2:gb<wc.heap.size:=hcut.o.blk.lt;exact ⟨h1.mkr,h1.mod,h1.blk,⟨hp.weak zd bT.weak λb h3 h4=>⟨by omega,h3⟩,hq.weak zd aF.weak λb h3 h4=>⟨by omega,h3⟩,az.nil _,az.nil _,az.nil _,az.nil _⟩,h1.ord⟩
  have HS2:=Hi hX2;have gc3:w2.cell? ⟨gb,3,none⟩=some (.slice none 0 0):=hX.blk.cell 3;have gc4:w2.cell? ⟨gb,4,none⟩=some (.slice none 0 0):=hX.blk.cell 4;have gf3:=hX.blk.frozen 3;have gf4:=hX.blk.frozen 4;clear hX hX2 hp hq K2 M2 hcut C3;go_upto_region 5 with fail;have HS3:Hy (bA w m sv l f gb w2.heap.size s3 (gC nm (100+a*50) mk (.slice op o.pts.length cp) (.slice oe o.ends.length ce) ae ae ae ae) ⟨ByteArray.empty,0,false,o.pts,o.ends,[],[],[],[]⟩ (.slice op o.pts.length cp) (.slice oe o.ends.length ce) ae ae ae ae ((w2.setCell ⟨gb,3,none⟩ (.slice op o.pts.length cp)).setCell ⟨gb,4,none⟩ (.slice oe o.ends.length ce))) :=
   (HS2.o.set 3 (.slice op o.pts.length cp)).set 4 (.slice oe o.ends.length ce)
  generalize (w2.setCell ⟨gb,3,none⟩ (.slice op o.pts.length cp)).setCell ⟨gb,4,none⟩ (.slice oe o.ends.length ce)=w3 at *
  generalize w2.heap.size=B2 at *
  clear HS2 gc3 gc4 gf3 gf4
  go_cut [37] from 31 to 37 (λv wx=>∃ (pz:Bool) (st:Mk.S),v=.bool pz/\Hy (Mk.parts n s3=if pz=true then Mk.kG st else ([],st))/\Hy (bA w m sv l f gb B2 st (gC nm (100+a*50) mk (.slice op o.pts.length cp) (.slice oe o.ends.length ce) ae ae ae ae) ⟨ByteArray.empty,0,false,o.pts,o.ends,[],[],[],[]⟩ (.slice op o.pts.length cp) (.slice oe o.ends.length ce) ae ae ae ae wx))
  case first =>
   by_cases hn1:1<n
   ·have k0:=dT (p:=(1:Int)<n) zo;have k1:(1:Int)<n:=zo;obtain ⟨z,s4,h4⟩:∃ a b,Mk.next 4 s3=(a,b):=⟨_,_,rfl⟩
    have C4:=Hi (CN.o s3 z s4 4 zd zd h4 w3 HS3.o.mkr);have HP:Hy (Mk.parts n s3=if (z == 0)=true then Mk.kG s4 else ([],s4)):=by
     unfold Mk.parts;rw [if_pos hn1,Mk.ai h4];simp only [beq_iff_eq];exact True.intro
    clear h4;go_wp2_with fail;refine C4.o.mono ?_;rintro e w4 ⟨rfl,K4,M4⟩;have HS4:=Hi (HS3.o.call K4 M4);clear K4 M4 C4;go_wp2;go_meet
    case rel=>exact ⟨z == 0,s4,rfl,HP,HS4⟩
   ·have k0:=dF (p:=(1:Int)<n) zo;have k1:¬ (1:Int)<n:=zo;have HP:Hy (Mk.parts n s3=if false=true then Mk.kG s3 else ([],s3)):=by
     unfold Mk.parts;rw [if_neg hn1];rfl
    go_wp2;go_meet
    case rel=>exact ⟨false,s3,rfl,HP,HS3⟩
  case rest =>
   obtain ⟨pz,st,rfl,HP,HS4⟩:=hcut;clear HS3;go_upto_if 37 with fail
   go_cut [] from 38 to 50 (λwx=>∃ (ps:List cK) (st':Mk.S) (oq:Option Addr) (cq:Nat) (B3:Nat),Hy (Mk.parts n s3=(ps,st'))/\Hy (bA w m sv l f gb B3 st' (gC nm (100+a*50) mk (.slice op o.pts.length cp) (.slice oe o.ends.length ce) (.slice oq ps.length cq) ae ae ae) ⟨ByteArray.empty,0,false,o.pts,o.ends,ps,[],[],[]⟩ (.slice op o.pts.length cp) (.slice oe o.ends.length ce) (.slice oq ps.length cq) ae ae ae wx))
   case first =>
    cases pz with
    | false =>
     go_wp2;go_meet
     case rel=>exact ⟨[],st,none,0,B2,HP,HS4⟩
    | true =>
     obtain ⟨x,t1,hx⟩:∃ a b,Mk.next 9 st=(a,b):=⟨_,_,rfl⟩
     obtain ⟨y,t2,hy⟩:∃ a b,Mk.next 5 t1=(a,b):=⟨_,_,rfl⟩
     have ix:=ay zd hx;have iy:=ay zd hy;have x1:IntKind.i64.wrap (x*50)=x*50:=wrapi zo zo;have x2:IntKind.i64.wrap (x*50 - 200)=x*50 - 200:=wrapi zo zo;have y1:IntKind.i64.wrap (y*50)=y*50:=wrapi zo zo;have CX:=Hi (CN.o st x t1 9 zd zd hx);have CY:=Hi (CN.o t1 y t2 5 zd zd hy);have HP2:Hy (Mk.parts n s3=([⟨1,x*50 - 200,y*50⟩],t2)):=by
      have:=HP.o;rw [if_pos rfl] at this;unfold Mk.kG at this;rw [Mk.ai hx,Mk.ai hy] at this;exact this
     have HI:Hy (I64 1/\I64 (x*50 - 200)/\I64 (y*50)):=⟨I64.of zo zo,I64.of zo zo,I64.of zo zo⟩
     have B0c:∀ W,Mod [m] wc W->W.cell? ⟨gb,5,none⟩=some (.slice none 0 0):=λW k=>HS4.o.gcell k 5
     clear hx hy ix iy HP;go_upto_region 6 with fail;refine Sw.aL (I:=Mod [m] wc) (F0:=bA w m sv l f gb B2 st (gC nm (100+a*50) mk (.slice op o.pts.length cp) (.slice oe o.ends.length ce) ae ae ae ae) ⟨ByteArray.empty,0,false,o.pts,o.ends,[],[],[],[]⟩ (.slice op o.pts.length cp) (.slice oe o.ends.length ce) ae ae ae ae) (λ_ _ h k=>h.then (k.more zk)) 11 [(0,none),(1,none),(2,none),(6,none),(3,some (Rg.iU (bA w m sv l f gb B2 t1 (gC nm (100+a*50) mk (.slice op o.pts.length cp) (.slice oe o.ends.length ce) ae ae ae ae) ⟨ByteArray.empty,0,false,o.pts,o.ends,[],[],[],[]⟩ (.slice op o.pts.length cp) (.slice oe o.ends.length ce) ae ae ae ae) (.int .i64 x))),(4,none),(5,none),(7,some (Rg.iU (bA w m sv l f gb B2 t2 (gC nm (100+a*50) mk (.slice op o.pts.length cp) (.slice oe o.ends.length ce) ae ae ae ae) ⟨ByteArray.empty,0,false,o.pts,o.ends,[],[],[],[]⟩ (.slice op o.pts.length cp) (.slice oe o.ends.length ce) ae ae ae ae) (.int .i64 y))),(8,none),(9,none),(10,some (bK wc.heap.size #[.int .i64 1,.int .i64 (x*50 - 200),.int .i64 (y*50)] 69 1 (bA w m sv l f gb B2 t2 (gC nm (100+a*50) mk (.slice op o.pts.length cp) (.slice oe o.ends.length ce) ae ae ae ae) ⟨ByteArray.empty,0,false,o.pts,o.ends,[],[],[],[]⟩ (.slice op o.pts.length cp) (.slice oe o.ends.length ce) ae ae ae ae)))] zt zt (Sq.aW zt) ?hTS392 (mR.drew) bA.stays (bA.stays _ _ HS4.o (mR.drew)) ?mainS392
     case hTS392 =>
      intro p hp T hT v;simp only [List.mem_cons,List.not_mem_nil,or_false] at hp;rcases hp with rfl | rfl | rfl | rfl | rfl | rfl | rfl | rfl | rfl | rfl | rfl <;> first | (cases hT;done) | (cases hT;first | exact bK.stays bA.stays _ | exact Rg.cZ bA.stays _ _)
     iterate 4 refine Sw.vv (w0:=wc.drew) (mR.drew) ?_
     refine Sw.xx (λw' hw' hF K Q hK=>?_) (λkv hkv=>?_)
     ·go_wp2_with fail;refine (CX.o w' hF.mkr).mono ?_;rintro e w'' ⟨rfl,K',M'⟩;go_wp2;exact hK _ _ (hw'.then M') ⟨rfl,hF.call K' M'⟩
     obtain ⟨_,_,rfl,_⟩:=hkv
     iterate 2 refine Sw.vv (w0:=wc.drew) (mR.drew) ?_
     refine Sw.xx (λw' hw' hF K Q hK=>?_) (λkv hkv=>?_)
     ·go_wp2_with fail;refine (CY.o w' hF.2.mkr).mono ?_;rintro e w'' ⟨rfl,K',M'⟩;go_wp2;exact hK _ _ (hw'.then M') ⟨rfl,hF.2.call K' M'⟩
     obtain ⟨_,_,rfl,_⟩:=hkv
     iterate 2 refine Sw.vv (w0:=wc.drew) (mR.drew) ?_
     refine Sw.xx (λw' hw' hF K Q hK=>?_) (λkv hkv=>?_)
     ·go_wp2;exact hK _ _ (hw'.alloc _) ⟨⟨_,rfl,hw'.size,Blk.new _ _ _⟩,bA.stays _ _ hF.2 (mR.alloc _)⟩
     obtain ⟨_,_,⟨nb,rfl,hnb,_⟩,_⟩:=hkv;refine Sw.bJ ?_;intro w' hw' hF;simp only [qS,qZ];obtain ⟨⟨b2,he2,-,hB⟩,hO⟩:=hF;cases he2;have HB:=Hi hB;have HO:=Hi hO;clear hB hO hw' B0c HS4 CX CY;go_wp2_with (at_builtin;refine aO (k:=3) (e:=69) (base:=B2) (l:=[]) (l':=[⟨1,x*50 - 200,y*50⟩]) rfl _ _ 41 rfl p0 _ 24 Tryz.underlying41 pi pz0 pz1 pz2 rfl zd fV.stay fV.weak rfl (aH.nil (S:=λ_=>False)) ⟨nb,0,none⟩ _ _ [[.int .i64 1,.int .i64 (x*50 - 200),.int .i64 (y*50)]] rfl rfl (aP.one rfl ⟨rfl,HI.o⟩) (λj u hu=>bi HB.o rfl hu) zqb ?_ ?_ ?_ ?_)
     ·simp [maxLen]
     ·simp
     ·exact HO.o.ord.2.2.2
     intro v' w4 hGP hgr _;obtain ⟨oq,cq,rfl⟩:=hGP.form;have HS5:=Hi (HO.o.grown hgr (λb hb=>by simp [Value.ownBlock] at hb));have g5c:w4.cell? ⟨gb,5,none⟩=some (.slice none 0 0):=HS5.o.blk.cell 5;have g5f:=HS5.o.blk.frozen 5;have HS6:=Hi ((HS5.o.set 5 (.slice oq 1 cq)).yy (v:=.slice oq 1 cq) (ps:=[⟨1,x*50 - 200,y*50⟩]) (hGP.set fV.stay (λhb=>by have h9:B2<=gb:=(hGP.lt _ hb).1;have:=HS5.o.ord;omega) (λh=>h) _));clear hGP hgr HO HB HS5;go_wp2;go_meet
     case rel=>exact ⟨[⟨1,x*50 - 200,y*50⟩],t2,oq,cq,_,HP2,HS6⟩
   case rest =>
    obtain ⟨ps,s4,oq,cq,B3,HP2,HS5⟩:=hcut;clear HS4 HP;have HE2:=HE.o;rw [Mk.ai HP2.o] at HE2;have HE:=Hi HE2;clear HE2 HP2;go_upto_region 7 with fail;obtain ⟨c,s5,h5⟩:∃ a b,Mk.next 2 s4=(a,b):=⟨_,_,rfl⟩
    have C5:=Hi (CN.o s4 c s5 2 zd zd h5 wc HS5.o.mkr);obtain ⟨an,s6,h6⟩:∃ a b,Mk.rep 5 (anF c mk) [] s5=(a,b):=⟨_,_,rfl⟩
    have HAN:Hy (Mk.anchors mk s4=(an,s6)):=by
     unfold Mk.anchors;rw [Mk.ai h5];exact h6
    have HE2:=HE.o;rw [Mk.ai HAN.o] at HE2;have HE:=Hi HE2;have H6:=Hi h6;have ic:=ay zd h5;have HIC:Hy (I64 c):=I64.of zo zo;clear HE2 HAN h5 h6 ic;go_wp2_with fail;refine C5.o.mono ?_;rintro e w4 ⟨rfl,K4,M4⟩;have hX:=HS5.o.call K4 M4;have hkb:=Blk.new w4 (anC c) 142;have hal:=(Mod.refl [] w4).alloc (.cells (anC c) 142);have HS6:Hy (bA w m sv l f gb (w4.alloc (.cells (anC c) 142)).heap.size s5 (gC nm (100+a*50) mk (.slice op o.pts.length cp) (.slice oe o.ends.length ce) (.slice oq ps.length cq) ae ae ae) ⟨ByteArray.empty,0,false,o.pts,o.ends,ps,[],[],[]⟩ (.slice op o.pts.length cp) (.slice oe o.ends.length ce) (.slice oq ps.length cq) ae ae ae (w4.alloc (.cells (anC c) 142))) :=
     (bA.stays _ _ hX hal).up (nT hX.ord.2.2.2 hal.size) (nR _)
    have HKB:Hy (Blk (w4.alloc (.cells (anC c) 142)) w4.heap.size (anC c) 142/\gb<w4.heap.size/\w4.heap.size<(w4.alloc (.cells (anC c) 142)).heap.size):=⟨hkb,by have:=hX.ord;omega,by simp⟩
    clear hX hkb hal K4 M4 C5 HS5;go_upto_region 8 with fail;rw [show w4.alloc (.cells #[.int .i64 1,.int .i64 0,.int .i64 1,.int .i64 1,.int .i64 3,.int .i64 0,.int .i64 4,.int .i64 0,.int .i64 2,.int .i64 c] 142)=w4.alloc (.cells (anC c) 142) from rfl];generalize w4.alloc (.cells (anC c) 142)=w5 at *
    generalize w4.heap.size=kb at *
    generalize w5.heap.size=B5 at *
    go_upto_block 0 with fail
    go_cut [6] from 59 to 100 (λv wx=>∃ (oz:Option Addr) (cz B6:Nat),v=.int .i64 5/\Hy (bA w m sv l f gb B6 s6 (gC nm (100+a*50) mk (.slice op o.pts.length cp) (.slice oe o.ends.length ce) (.slice oq ps.length cq) (.slice oz an.length cz) ae ae) ⟨ByteArray.empty,0,false,o.pts,o.ends,ps,an,[],[]⟩ (.slice op o.pts.length cp) (.slice oe o.ends.length ce) (.slice oq ps.length cq) (.slice oz an.length cz) ae ae wx))
    case first =>
     go_wp2_with fail
     go_loopg [6] 5 (λgk i6 wr=>∃ (i:Nat) (L:List bh) (st:Mk.S) (oz:Option Addr) (cz:Nat),i6=.int .i64 (i:Int)/\Hy (i+gk=5)/\Hy (Mk.rep i (anF c mk) [] s5=(L,st))/\Hy (L.length<=i)/\Hy (fG w m sv l f gb B5 (gC nm (100+a*50) mk (.slice op o.pts.length cp) (.slice oe o.ends.length ce) (.slice oq ps.length cq) (.slice oz L.length cz) ae ae) ⟨ByteArray.empty,0,false,o.pts,o.ends,ps,[],[],[]⟩ (.slice op o.pts.length cp) (.slice oe o.ends.length ce) (.slice oq ps.length cq) ae ae ae kb (anC c) 142 (.slice oz L.length cz) L st wr))
     case atStart=>exact ⟨0,[],s5,none,0,rfl,rfl,rfl,nR _,HS6.o,aH.nil,HKB.o.1,HKB.o.2⟩
     case round =>
      obtain ⟨i,L,st,oz,cz,rfl,hi5,HR,HLL,HS⟩:=hrel;clear HS6
      by_cases hin:i<5
      case neg =>
       obtain rfl:i=5:=by have:=hi5.o;omega
       obtain ⟨rfl,rfl⟩:L=an/\st=s6:=by have h9:=H6.o;rw [HR.o] at h9;simpa using h9
       have HS7:=Hi (HS.o.gl.Ca HS.o.gr);go_wp2;go_meet
       case rel=>exact ⟨oz,cz,_,rfl,HS7⟩
      have k1:=dT (p:=(i:Int)<5) zo;have k2:(i:Int)<5:=zo;have k3:(0:Int)<=i:=zo;have ei:IntKind.i64.wrap ((i:Int)+1)=(i:Int)+1:=wrapi zo zo;obtain ⟨z,st1,hz⟩:∃ a b,Mk.next 3 st=(a,b):=⟨_,_,rfl⟩
      have CZ:=Hi (CN.o st z st1 3 zd zd hz wr HS.o.gl.mkr);have HZ:=Hi hz;have HIN:=Hi hin;clear hz hin
      by_cases hz0:z=0
      case neg =>
       have HNX:Hy (anF c mk i L st=(L,st1)):=by unfold anF;rw [Mk.ai HZ.o,if_neg (λh=>hz0 h.1)];exact rfl
       have kz:(z == 0)=false:=beq_false_of_ne hz0;have kz2:=dF (p:=z=0) hz0;go_wp2_with fail;refine CZ.o.mono ?_;rintro e w6 ⟨rfl,K6,M6⟩;have HX:=Hi (HS.o.call K6 M6);clear K6 M6 HS CZ;go_wp2;go_roundg (gk - 1)
       case measure=>have:=hi5.o;omega
       case rel =>
        refine ⟨i+1,L,st1,oz,cz,by rw [Int.natCast_add];rfl,?_,?_,?_,HX.o⟩
        ·have:=hi5.o;have:=HIN.o;show i+1+(gk - 1)=5;omega
        ·show Mk.rep (i+1) (anF c mk) [] s5=_;rw [Mk.aR HR.o];exact HNX.o
        ·have:=HLL.o;show L.length<=i+1;omega
      subst hz0
      by_cases hk2:(anK c i).1=2
      case pos =>
       have HK2:=Hi hk2;clear hk2
       by_cases hmk:mk=true
       case neg =>
        have HNX:Hy (anF c mk i L st=(L,st1)):=by unfold anF;rw [Mk.ai HZ.o,if_neg (λh=>h.2.elim (λh=>h HK2.o) hmk)];exact rfl
        have hmk2:mk=false:=by simpa using hmk
        go_wp2_with fail;refine CZ.o.mono ?_;rintro e w6 ⟨rfl,K6,M6⟩;have HX:=Hi (HS.o.call K6 M6);have b1:∀ W,Mod [m] w6 W->W.cell? ⟨kb,i*2,none⟩=some (.int .i64 (anK c i).1):=λW k=>(HX.o.kcell k (i*2)).trans (nX c i HIN.o).1
        have b2:∀ W,Mod [m] w6 W->W.cell? ⟨gb,2,none⟩=some (.bool mk):=λW k=>HX.o.gl.gcell k 2
        have b1a:=b1 w6 mR;have b2a:=b2 w6 mR;rw [HK2.o] at b1a;rw [hmk2] at b2a;clear K6 M6 HS CZ;go_wp2;go_roundg (gk - 1)
        case measure=>have:=hi5.o;omega
        case rel =>
         refine ⟨i+1,L,st1,oz,cz,by rw [Int.natCast_add];rfl,?_,?_,?_,HX.o⟩
         ·have:=hi5.o;have:=HIN.o;show i+1+(gk - 1)=5;omega
         ·show Mk.rep (i+1) (anF c mk) [] s5=_;rw [Mk.aR HR.o];exact HNX.o
         ·have:=HLL.o;show L.length<=i+1;omega
       have HMT:=Hi hmk;go_wp2_with fail;refine CZ.o.mono ?_;rintro e w6 ⟨rfl,K6,M6⟩;have HX:=Hi (HS.o.call K6 M6);have b1:∀ W,Mod [m] w6 W->W.cell? ⟨kb,i*2,none⟩=some (.int .i64 (anK c i).1):=λW k=>(HX.o.kcell k (i*2)).trans (nX c i HIN.o).1
       have b2:∀ W,Mod [m] w6 W->W.cell? ⟨gb,2,none⟩=some (.bool mk):=λW k=>HX.o.gl.gcell k 2
       have b1a:=b1 w6 mR;have b2a:=b2 w6 mR;have b3:∀ W,Mod [m] w6 W->W.cell? ⟨kb,i*2+1,none⟩=some (.int .i64 (anK c i).2):=λW k=>(HX.o.kcell k (i*2+1)).trans (nX c i HIN.o).2
       have b6:∀ W,Mod [m] w6 W->W.cell? ⟨gb,6,none⟩=some (.slice oz L.length cz):=λW k=>HX.o.gl.gcell k 6
       rw [HK2.o] at b1a;rw [hmk] at b2a;have HKR:=Hi (xu c HIC.o i);obtain ⟨x,t1,hx⟩:∃ a b,Mk.next 21 st1=(a,b):=⟨_,_,rfl⟩
       obtain ⟨y,t2,hy⟩:∃ a b,Mk.next 21 t1=(a,b):=⟨_,_,rfl⟩
       have ix:=ay zd hx;have iy:=ay zd hy;have x1:IntKind.i64.wrap (x*50)=x*50:=wrapi zo zo;have y1:IntKind.i64.wrap (y*50)=y*50:=wrapi zo zo;have y2:IntKind.i64.wrap (y*50 - 200)=y*50 - 200:=wrapi zo zo;have CX:=Hi (CN.o st1 x t1 21 zd zd hx);have CY:=Hi (CN.o t1 y t2 21 zd zd hy);have HD:Hy (anF c mk i L st=(L++[⟨(anK c i).1,(anK c i).2,x*50,y*50 - 200⟩],t2)):=by unfold anF;rw [Mk.ai HZ.o,if_pos ⟨rfl,.inr hmk⟩,Mk.ai hx,Mk.ai hy];exact rfl
       have HI:Hy (I64 (x*50)/\I64 (y*50 - 200)):=⟨I64.of zo zo,I64.of zo zo⟩
       clear hx hy ix iy K6 M6 HS CZ HZ;generalize (anK c i).1=ka at *
       generalize (anK c i).2=kc at *
       go_upto_region 12 with fail;refine Sw.aL (I:=Mod [m] w6) (F0:=fG w m sv l f gb B5 (gC nm (100+a*50) mk (.slice op o.pts.length cp) (.slice oe o.ends.length ce) (.slice oq ps.length cq) (.slice oz L.length cz) ae ae) ⟨ByteArray.empty,0,false,o.pts,o.ends,ps,[],[],[]⟩ (.slice op o.pts.length cp) (.slice oe o.ends.length ce) (.slice oq ps.length cq) ae ae ae kb (anC c) 142 (.slice oz L.length cz) L st1) (λ_ _ h k=>h.then (k.more zk)) 21 [(0,none),(1,none),(2,none),(3,none),(4,none),(5,none),(6,none),(7,none),(8,none),(9,none),(10,none),(11,none),(12,none),(15,none),(13,some (Rg.iU (fG w m sv l f gb B5 (gC nm (100+a*50) mk (.slice op o.pts.length cp) (.slice oe o.ends.length ce) (.slice oq ps.length cq) (.slice oz L.length cz) ae ae) ⟨ByteArray.empty,0,false,o.pts,o.ends,ps,[],[],[]⟩ (.slice op o.pts.length cp) (.slice oe o.ends.length ce) (.slice oq ps.length cq) ae ae ae kb (anC c) 142 (.slice oz L.length cz) L t1) (.int .i64 x))),(14,none),(16,some (Rg.iU (fG w m sv l f gb B5 (gC nm (100+a*50) mk (.slice op o.pts.length cp) (.slice oe o.ends.length ce) (.slice oq ps.length cq) (.slice oz L.length cz) ae ae) ⟨ByteArray.empty,0,false,o.pts,o.ends,ps,[],[],[]⟩ (.slice op o.pts.length cp) (.slice oe o.ends.length ce) (.slice oq ps.length cq) ae ae ae kb (anC c) 142 (.slice oz L.length cz) L t2) (.int .i64 y))),(17,none),(18,none),(19,none),(20,some (bK w6.heap.size #[.int .i64 ka,.int .i64 kc,.int .i64 (x*50),.int .i64 (y*50 - 200)] 145 1 (fG w m sv l f gb B5 (gC nm (100+a*50) mk (.slice op o.pts.length cp) (.slice oe o.ends.length ce) (.slice oq ps.length cq) (.slice oz L.length cz) ae ae) ⟨ByteArray.empty,0,false,o.pts,o.ends,ps,[],[],[]⟩ (.slice op o.pts.length cp) (.slice oe o.ends.length ce) (.slice oq ps.length cq) ae ae ae kb (anC c) 142 (.slice oz L.length cz) L t2)))] zt zt (Sq.aW zt) ?hTS619 (mR.drew) fG.stays (fG.stays _ _ HX.o (mR.drew)) ?mainS619
       case hTS619 =>
        intro p hp T hT v;simp only [List.mem_cons,List.not_mem_nil,or_false] at hp;rcases hp with rfl | rfl | rfl | rfl | rfl | rfl | rfl | rfl | rfl | rfl | rfl | rfl | rfl | rfl | rfl | rfl | rfl | rfl | rfl | rfl | rfl <;> first | (cases hT;done) | (cases hT;first | exact bK.stays fG.stays _ | exact Rg.cZ fG.stays _ _)
       iterate 14 refine Sw.vv (w0:=w6.drew) (mR.drew) ?_
       refine Sw.xx (λw' hw' hF K Q hK=>?_) (λkv hkv=>?_)
       ·go_wp2_with fail;refine (CX.o w' hF.gl.mkr).mono ?_;rintro e w'' ⟨rfl,K',M'⟩;go_wp2;exact hK _ _ (hw'.then M') ⟨rfl,hF.call K' M'⟩
       obtain ⟨_,_,rfl,_⟩:=hkv;refine Sw.vv (w0:=w6.drew) (mR.drew) ?_;refine Sw.xx (λw' hw' hF K Q hK=>?_) (λkv hkv=>?_)
       ·go_wp2_with fail;refine (CY.o w' hF.2.gl.mkr).mono ?_;rintro e w'' ⟨rfl,K',M'⟩;go_wp2;exact hK _ _ (hw'.then M') ⟨rfl,hF.2.call K' M'⟩
       obtain ⟨_,_,rfl,_⟩:=hkv
       iterate 3 refine Sw.vv (w0:=w6.drew) (mR.drew) ?_
       refine Sw.xx (λw' hw' hF K Q hK=>?_) (λkv hkv=>?_)
       ·go_wp2;exact hK _ _ (hw'.alloc _) ⟨⟨_,rfl,hw'.size,Blk.new _ _ _⟩,fG.stays _ _ hF.2 (mR.alloc _)⟩
       obtain ⟨_,_,⟨nb,rfl,hnb,_⟩,_⟩:=hkv;refine Sw.bJ ?_;intro w' hw' hF;simp only [qS,qZ];obtain ⟨⟨b9,he9,-,hB⟩,hO⟩:=hF;cases he9;have HB:=Hi hB;have HO:=Hi hO;clear hB hO hw' b1 b2 b3 b6 b1a b2a HX CX CY;go_wp2_with (at_builtin;refine aO (k:=4) (e:=145) (base:=B5) (l:=L) (l':=[⟨ka,kc,x*50,y*50 - 200⟩]) rfl _ _ 42 rfl aq0 _ 32 Tryz.underlying42 aqi aqz0 aqz1 aqz2 rfl zd bU.stay bU.weak rfl HO.o.gr ⟨nb,0,none⟩ _ _ [[.int .i64 ka,.int .i64 kc,.int .i64 (x*50),.int .i64 (y*50 - 200)]] rfl rfl (aP.one rfl ⟨rfl,HKR.o.1,HKR.o.2,HI.o⟩) (λj u hu=>bi HB.o rfl hu) zqb ?_ ?_ ?_ ?_)
       ·have h4:=HLL.o;have h5:=HIN.o;unfold maxLen;simp;omega
       ·have h4:=HLL.o;have h5:=HIN.o;simp;omega
       ·exact HO.o.gl.ord.2.2.2
       intro v' w7 hGP hgr _;obtain ⟨oz',cz',rfl⟩:=hGP.form;have hnl:(L++[(⟨ka,kc,x*50,y*50 - 200⟩:bh)]).length=L.length+1:=by simp
       rw [hnl] at hGP;have HNL:=Hi hnl;clear hnl;have HS7:=Hi (HO.o.push hGP hgr);have g6c:w7.cell? ⟨gb,6,none⟩=some (.slice oz L.length cz):=(HO.o.gl.grown hgr λb hb=>(HO.o.gr.lt b hb).1).blk.cell 6;have g6f:=(HO.o.gl.grown hgr λb hb=>(HO.o.gr.lt b hb).1).blk.frozen 6;clear hGP hgr HO HB;go_wp2;go_roundg (gk - 1)
       case measure=>have:=hi5.o;omega
       case rel =>
        refine ⟨i+1,L++[⟨ka,kc,x*50,y*50 - 200⟩],t2,oz',cz',by rw [Int.natCast_add];rfl,?_,?_,?_,by rw [HNL.o];exact HS7.o⟩
        ·have:=hi5.o;have:=HIN.o;show i+1+(gk - 1)=5;omega
        ·show Mk.rep (i+1) (anF c mk) [] s5=_;rw [Mk.aR HR.o];exact HD.o
        ·have:=HLL.o;show (L++[(_:bh)]).length<=i+1;rw [HNL.o];omega
      have kk1:((anK c i).1 != 2)=true:=bne_iff_ne.2 hk2;have kk2:((anK c i).1 == 2)=false:=beq_false_of_ne hk2;go_wp2_with fail;refine CZ.o.mono ?_;rintro e w6 ⟨rfl,K6,M6⟩;have HX:=Hi (HS.o.call K6 M6);have b1:∀ W,Mod [m] w6 W->W.cell? ⟨kb,i*2,none⟩=some (.int .i64 (anK c i).1):=λW k=>(HX.o.kcell k (i*2)).trans (nX c i HIN.o).1
      have b2:∀ W,Mod [m] w6 W->W.cell? ⟨gb,2,none⟩=some (.bool mk):=λW k=>HX.o.gl.gcell k 2
      have b1a:=b1 w6 mR;have b2a:=b2 w6 mR;have b3:∀ W,Mod [m] w6 W->W.cell? ⟨kb,i*2+1,none⟩=some (.int .i64 (anK c i).2):=λW k=>(HX.o.kcell k (i*2+1)).trans (nX c i HIN.o).2
      have b6:∀ W,Mod [m] w6 W->W.cell? ⟨gb,6,none⟩=some (.slice oz L.length cz):=λW k=>HX.o.gl.gcell k 6
      have HKR:=Hi (xu c HIC.o i);obtain ⟨x,t1,hx⟩:∃ a b,Mk.next 21 st1=(a,b):=⟨_,_,rfl⟩
      obtain ⟨y,t2,hy⟩:∃ a b,Mk.next 21 t1=(a,b):=⟨_,_,rfl⟩
      have ix:=ay zd hx;have iy:=ay zd hy;have x1:IntKind.i64.wrap (x*50)=x*50:=wrapi zo zo;have y1:IntKind.i64.wrap (y*50)=y*50:=wrapi zo zo;have y2:IntKind.i64.wrap (y*50 - 200)=y*50 - 200:=wrapi zo zo;have CX:=Hi (CN.o st1 x t1 21 zd zd hx);have CY:=Hi (CN.o t1 y t2 21 zd zd hy);have HD:Hy (anF c mk i L st=(L++[⟨(anK c i).1,(anK c i).2,x*50,y*50 - 200⟩],t2)):=by unfold anF;rw [Mk.ai HZ.o,if_pos ⟨rfl,.inl hk2⟩,Mk.ai hx,Mk.ai hy];exact rfl
      have HI:Hy (I64 (x*50)/\I64 (y*50 - 200)):=⟨I64.of zo zo,I64.of zo zo⟩
      clear hx hy ix iy K6 M6 HS CZ HZ;generalize (anK c i).1=ka at *
      generalize (anK c i).2=kc at *
      go_upto_region 12 with fail;refine Sw.aL (I:=Mod [m] w6) (F0:=fG w m sv l f gb B5 (gC nm (100+a*50) mk (.slice op o.pts.length cp) (.slice oe o.ends.length ce) (.slice oq ps.length cq) (.slice oz L.length cz) ae ae) ⟨ByteArray.empty,0,false,o.pts,o.ends,ps,[],[],[]⟩ (.slice op o.pts.length cp) (.slice oe o.ends.length ce) (.slice oq ps.length cq) ae ae ae kb (anC c) 142 (.slice oz L.length cz) L st1) (λ_ _ h k=>h.then (k.more zk)) 21 [(0,none),(1,none),(2,none),(3,none),(4,none),(5,none),(6,none),(7,none),(8,none),(9,none),(10,none),(11,none),(12,none),(15,none),(13,some (Rg.iU (fG w m sv l f gb B5 (gC nm (100+a*50) mk (.slice op o.pts.length cp) (.slice oe o.ends.length ce) (.slice oq ps.length cq) (.slice oz L.length cz) ae ae) ⟨ByteArray.empty,0,false,o.pts,o.ends,ps,[],[],[]⟩ (.slice op o.pts.length cp) (.slice oe o.ends.length ce) (.slice oq ps.length cq) ae ae ae kb (anC c) 142 (.slice oz L.length cz) L t1) (.int .i64 x))),(14,none),(16,some (Rg.iU (fG w m sv l f gb B5 (gC nm (100+a*50) mk (.slice op o.pts.length cp) (.slice oe o.ends.length ce) (.slice oq ps.length cq) (.slice oz L.length cz) ae ae) ⟨ByteArray.empty,0,false,o.pts,o.ends,ps,[],[],[]⟩ (.slice op o.pts.length cp) (.slice oe o.ends.length ce) (.slice oq ps.length cq) ae ae ae kb (anC c) 142 (.slice oz L.length cz) L t2) (.int .i64 y))),(17,none),(18,none),(19,none),(20,some (bK w6.heap.size #[.int .i64 ka,.int .i64 kc,.int .i64 (x*50),.int .i64 (y*50 - 200)] 145 1 (fG w m sv l f gb B5 (gC nm (100+a*50) mk (.slice op o.pts.length cp) (.slice oe o.ends.length ce) (.slice oq ps.length cq) (.slice oz L.length cz) ae ae) ⟨ByteArray.empty,0,false,o.pts,o.ends,ps,[],[],[]⟩ (.slice op o.pts.length cp) (.slice oe o.ends.length ce) (.slice oq ps.length cq) ae ae ae kb (anC c) 142 (.slice oz L.length cz) L t2)))] zt zt (Sq.aW zt) ?hTS792 (mR.drew) fG.stays (fG.stays _ _ HX.o (mR.drew)) ?mainS792
      case hTS792 =>
       intro p hp T hT v;simp only [List.mem_cons,List.not_mem_nil,or_false] at hp;rcases hp with rfl | rfl | rfl | rfl | rfl | rfl | rfl | rfl | rfl | rfl | rfl | rfl | rfl | rfl | rfl | rfl | rfl | rfl | rfl | rfl | rfl <;> first | (cases hT;done) | (cases hT;first | exact bK.stays fG.stays _ | exact Rg.cZ fG.stays _ _)
      iterate 14 refine Sw.vv (w0:=w6.drew) (mR.drew) ?_
      refine Sw.xx (λw' hw' hF K Q hK=>?_) (λkv hkv=>?_)
      ·go_wp2_with fail;refine (CX.o w' hF.gl.mkr).mono ?_;rintro e w'' ⟨rfl,K',M'⟩;go_wp2;exact hK _ _ (hw'.then M') ⟨rfl,hF.call K' M'⟩
      obtain ⟨_,_,rfl,_⟩:=hkv;refine Sw.vv (w0:=w6.drew) (mR.drew) ?_;refine Sw.xx (λw' hw' hF K Q hK=>?_) (λkv hkv=>?_)
      ·go_wp2_with fail;refine (CY.o w' hF.2.gl.mkr).mono ?_;rintro e w'' ⟨rfl,K',M'⟩;go_wp2;exact hK _ _ (hw'.then M') ⟨rfl,hF.2.call K' M'⟩
      obtain ⟨_,_,rfl,_⟩:=hkv
      iterate 3 refine Sw.vv (w0:=w6.drew) (mR.drew) ?_
      refine Sw.xx (λw' hw' hF K Q hK=>?_) (λkv hkv=>?_)
      ·go_wp2;exact hK _ _ (hw'.alloc _) ⟨⟨_,rfl,hw'.size,Blk.new _ _ _⟩,fG.stays _ _ hF.2 (mR.alloc _)⟩
      obtain ⟨_,_,⟨nb,rfl,hnb,_⟩,_⟩:=hkv;refine Sw.bJ ?_;intro w' hw' hF;simp only [qS,qZ];obtain ⟨⟨b9,he9,-,hB⟩,hO⟩:=hF;cases he9;have HB:=Hi hB;have HO:=Hi hO;clear hB hO hw' b1 b2 b3 b6 b1a b2a HX CX CY;go_wp2_with (at_builtin;refine aO (k:=4) (e:=145) (base:=B5) (l:=L) (l':=[⟨ka,kc,x*50,y*50 - 200⟩]) rfl _ _ 42 rfl aq0 _ 32 Tryz.underlying42 aqi aqz0 aqz1 aqz2 rfl zd bU.stay bU.weak rfl HO.o.gr ⟨nb,0,none⟩ _ _ [[.int .i64 ka,.int .i64 kc,.int .i64 (x*50),.int .i64 (y*50 - 200)]] rfl rfl (aP.one rfl ⟨rfl,HKR.o.1,HKR.o.2,HI.o⟩) (λj u hu=>bi HB.o rfl hu) zqb ?_ ?_ ?_ ?_)
      ·have h4:=HLL.o;have h5:=HIN.o;unfold maxLen;simp;omega
      ·have h4:=HLL.o;have h5:=HIN.o;simp;omega
      ·exact HO.o.gl.ord.2.2.2
      intro v' w7 hGP hgr _;obtain ⟨oz',cz',rfl⟩:=hGP.form;have hnl:(L++[(⟨ka,kc,x*50,y*50 - 200⟩:bh)]).length=L.length+1:=by simp
      rw [hnl] at hGP;have HNL:=Hi hnl;clear hnl;have HS7:=Hi (HO.o.push hGP hgr);have g6c:w7.cell? ⟨gb,6,none⟩=some (.slice oz L.length cz):=(HO.o.gl.grown hgr λb hb=>(HO.o.gr.lt b hb).1).blk.cell 6;have g6f:=(HO.o.gl.grown hgr λb hb=>(HO.o.gr.lt b hb).1).blk.frozen 6;clear hGP hgr HO HB;go_wp2;go_roundg (gk - 1)
      case measure=>have:=hi5.o;omega
      case rel =>
       refine ⟨i+1,L++[⟨ka,kc,x*50,y*50 - 200⟩],t2,oz',cz',by rw [Int.natCast_add];rfl,?_,?_,?_,by rw [HNL.o];exact HS7.o⟩
       ·have:=hi5.o;have:=HIN.o;show i+1+(gk - 1)=5;omega
       ·show Mk.rep (i+1) (anF c mk) [] s5=_;rw [Mk.aR HR.o];exact HD.o
       ·have:=HLL.o;show (L++[(_:bh)]).length<=i+1;rw [HNL.o];omega
    case rest =>
     obtain ⟨oz,cz,B6,rfl,HS7⟩:=hcut;clear HS6 HKB H6 HIC;generalize (Value.slice oe o.ends.length ce)=ve at *
     generalize (Value.slice oq ps.length cq)=vr at *
     generalize (Value.slice oz an.length cz)=va at *
     obtain ⟨de,s7,h7⟩:∃ a b,Mk.rep nr (deR o.pts.length) [] s6=(a,b):=⟨_,_,rfl⟩
     have HE2:=HE.o;rw [Mk.ai (show Mk.deltas nr o.pts.length s6=(de,s7) from h7)] at HE2;have HE:=Hi HE2;have H7:=Hi h7;clear HE2 h7;go_upto_block 2 with fail
     go_cut [7,8,9] from 101 to 139 (λv7 v8 v9 wx=>∃ (od:Option Addr) (cd B7:Nat),Hy (bA w m sv l f gb B7 s7 (gC nm (100+a*50) mk (.slice op o.pts.length cp) ve vr va (.slice od de.length cd) ae) ⟨ByteArray.empty,0,false,o.pts,o.ends,ps,an,de,[]⟩ (.slice op o.pts.length cp) ve vr va (.slice od de.length cd) ae wx))
     case first =>
      go_wp2_with fail
      go_loopg [7] nr (λgk v7 wr=>∃ (i:Nat) (L:List co) (st:Mk.S) (od:Option Addr) (cd:Nat),v7=.int .i64 (i:Int)/\Hy (i+gk=nr)/\Hy (Mk.rep i (deR o.pts.length) [] s6=(L,st))/\Hy (L.length<=i*11)/\Hy (kU w m sv l f gb B6 (gC nm (100+a*50) mk (.slice op o.pts.length cp) ve vr va (.slice od L.length cd) ae) ⟨ByteArray.empty,0,false,o.pts,o.ends,ps,an,[],[]⟩ (.slice op o.pts.length cp) ve vr va ae ae (.slice od L.length cd) L st wr))
      case atStart=>exact ⟨0,[],s6,none,0,rfl,by show 0+nr=nr;omega,rfl,nR _,HS7.o,aH.nil⟩
      case round =>
       obtain ⟨i,L,st,od,cd,rfl,hi5,HR,HLL,HS⟩:=hrel;clear HS7;have b8:wr.cell? ⟨m,8,none⟩=some (.slice oR nr cR):=(HS.o.gl.mkr.blk.cell 8).trans (congrArg some HRG.o)
       by_cases hin:i<nr
       case neg =>
        obtain rfl:i=nr:=by have:=hi5.o;omega
        have k1:=dF (p:=(i:Int)<i) zo;obtain ⟨rfl,rfl⟩:L=de/\st=s7:=by have h9:=H7.o;rw [HR.o] at h9;simpa using h9
        have HS8:=Hi (HS.o.gl.BM HS.o.gr);go_wp2;go_meet
        case rel=>exact ⟨od,cd,_,HS8⟩
       have k1:=dT (p:=(i:Int)<nr) zo;have k2:(i:Int)<nr:=zo;have ei:IntKind.i64.wrap ((i:Int)+1)=(i:Int)+1:=wrapi zo zqf;obtain ⟨L1,st1,h1⟩:∃ a b,Mk.rep (o.pts.length+1) (deP i) L st=(a,b):=⟨_,_,rfl⟩
       have H1:=Hi h1;have HIN:=Hi hin;clear h1 hin;go_wp2_with fail;generalize gk=G at *
       go_loopg [8] (o.pts.length+1) (λgj v8 ws=>∃ (p:Nat) (q:Int) (L2:List co) (su:Mk.S) (od:Option Addr) (cd:Nat),v8=.int .i64 q/\Hy (q=(p:Int) - 1)/\Hy (p+gj=o.pts.length+1)/\Hy (Mk.rep p (deP i) L st=(L2,su))/\Hy (L2.length<=i*11+p)/\Hy (kU w m sv l f gb B6 (gC nm (100+a*50) mk (.slice op o.pts.length cp) ve vr va (.slice od L2.length cd) ae) ⟨ByteArray.empty,0,false,o.pts,o.ends,ps,an,[],[]⟩ (.slice op o.pts.length cp) ve vr va ae ae (.slice od L2.length cd) L2 su ws))
       case atStart=>exact ⟨0,-1,L,st,od,cd,rfl,rfl,by show 0+(o.pts.length+1)=_;omega,rfl,HLL.o,HS.o⟩
       case round =>
        obtain ⟨p,q,L2,su,od,cd,rfl,HQ,hp5,HR2,HLL2,HS9⟩:=hrel;clear HS b8;have b3:wr.cell? ⟨gb,3,none⟩=some (.slice op o.pts.length cp):=HS9.o.gl.blk.cell 3
        by_cases hp:p<o.pts.length+1
        case neg =>
         have k3:=dF (p:=q<(o.pts.length:Int)) zqx;have k4:¬ q<(o.pts.length:Int):=by have:=HQ.o;omega
         have hpe:p=o.pts.length+1:=by have:=hp5.o;omega
         obtain ⟨rfl,rfl⟩:L2=L1/\su=st1:=by have h9:=H1.o;rw [<- hpe,HR2.o] at h9;simpa using h9
         have HPE:=Hi hpe;clear hp hpe;go_wp2;go_roundg (G - 1)
         case measure=>have:=hi5.o;omega
         case rel =>
          refine ⟨i+1,L2,su,od,cd,by rw [Int.natCast_add];rfl,?_,?_,?_,HS9.o⟩
          ·have:=hi5.o;have:=HIN.o;show i+1+(G - 1)=nr;omega
          ·show Mk.rep (i+1) (deR o.pts.length) [] s6=_;rw [Mk.aR HR.o];exact H1.o
          ·have:=HLL2.o;have:=HPE.o;have:=HPL.o;show L2.length<=(i+1)*11;omega
        have k3:=dT (p:=q<(o.pts.length:Int)) zqx;have k4:q<(o.pts.length:Int):=by have:=HQ.o;omega
        have eq1:IntKind.i64.wrap (q+1)=q+1:=wrapi zqx (by have:=HQ.o;have:=HPL.o;omega);obtain ⟨z,t0,hz⟩:∃ a b,Mk.next 3 su=(a,b):=⟨_,_,rfl⟩
        have CZ:=Hi (CN.o su z t0 3 zd zd hz wr HS9.o.gl.mkr);have HZ:=Hi hz;have HP:=Hi hp;clear hz hp
        by_cases hz0:z=0
        case neg =>
         have HNX:Hy (deP i p L2 su=(L2,t0)):=by unfold deP;rw [Mk.ai HZ.o,if_neg hz0];exact rfl
         have kz:(z == 0)=false:=beq_false_of_ne hz0;have kz2:=dF (p:=z=0) hz0;go_wp2_with fail;refine CZ.o.mono ?_;rintro e w6 ⟨rfl,K6,M6⟩;have HX:=Hi (HS9.o.call K6 M6);clear K6 M6 HS9 CZ b3;go_wp2;go_roundg (gk - 1)
         case measure=>have:=hp5.o;have:=HP.o;omega
         case rel =>
          refine ⟨p+1,q+1,L2,t0,od,cd,rfl,?_,?_,?_,?_,HX.o⟩
          ·have:=HQ.o;show q+1=((p+1:Nat):Int) - 1;omega
          ·have:=hp5.o;have:=HP.o;show p+1+(gk - 1)=_;omega
          ·show Mk.rep (p+1) (deP i) L st=_;rw [Mk.aR HR2.o];exact HNX.o
          ·have:=HLL2.o;show L2.length<=i*11+(p+1);omega
        subst hz0;obtain ⟨x,t1,hx⟩:∃ a b,Mk.next 41 t0=(a,b):=⟨_,_,rfl⟩
        have ix:=ay zd hx;have x1:IntKind.i64.wrap (x - 20)=x - 20:=wrapi zo zo;have CX:=Hi (CN.o t0 x t1 41 zd zd hx);have HXI:Hy (I64 (x - 20)/\I64 (i:Int)/\I64 q):=⟨I64.of zo zo,I64.of zo (by have:=HIN.o;have:=HN.o;omega),I64.of zqx (by have:=HQ.o;have:=HP.o;have:=HPL.o;omega)⟩
        have HXN:=Hi hx;clear hx ix;go_wp2_with fail;refine CZ.o.mono ?_;rintro e w6 ⟨rfl,K6,M6⟩;have HX:=Hi (HS9.o.call K6 M6);have CX2:=Hi (CX.o w6 HX.o.gl.mkr);clear K6 M6 HS9 CZ b3 CX;go_wp2_with fail;refine CX2.o.mono ?_;rintro e w7 ⟨rfl,K7,M7⟩;have HX2:=Hi (HX.o.call K7 M7);clear K7 M7 HX CX2;go_upto_region 21 with fail;have HAL:Hy (Mod [] w7 (w7.alloc (.cells #[.int .i64 i,.int .i64 q,.int .i64 (x - 20),.int .i64 0] 147))):=(Mod.refl [] w7).alloc _;have HBX:Hy (Blk (w7.alloc (.cells #[.int .i64 i,.int .i64 q,.int .i64 (x - 20),.int .i64 0] 147)) w7.heap.size #[.int .i64 i,.int .i64 q,.int .i64 (x - 20),.int .i64 0] 147/\w7.heap.size<=w7.heap.size):=⟨Blk.new _ _ _,nR _⟩
        have hnb:∃ nb,nb=w7.heap.size:=⟨_,rfl⟩
        obtain ⟨nb,hnb⟩:=hnb;rw [<- hnb];rw [<- hnb] at HBX;have HNB:Hy (nb=w7.heap.size):=hnb;clear hnb;generalize w7.alloc (.cells #[.int .i64 i,.int .i64 q,.int .i64 (x - 20),.int .i64 0] 147)=w8 at *
        go_upto_if 129 with fail
        go_cut [] from 129 to 133 (λwx=>∃ (d:co) (t2:Mk.S),Hy (deP i p L2 su=(L2++[d],t2))/\Hy (I64 d.region/\I64 d.point/\I64 d.x/\I64 d.y)/\Hy (kU w m sv l f gb B6 (gC nm (100+a*50) mk (.slice op o.pts.length cp) ve vr va (.slice od L2.length cd) ae) ⟨ByteArray.empty,0,false,o.pts,o.ends,ps,an,[],[]⟩ (.slice op o.pts.length cp) ve vr va ae ae (.slice od L2.length cd) L2 t2 wx)/\Hy (Blk wx nb #[.int .i64 d.region,.int .i64 d.point,.int .i64 d.x,.int .i64 d.y] 147))
        case first =>
         by_cases hp0:p=0
         ·have k5:=dF (p:=(0:Int)<=q) zqx;have k6:¬ (0:Int)<=q:=by have:=HQ.o;omega
          go_wp2;go_meet
          case rel =>
           refine ⟨⟨i,q,x - 20,0⟩,t1,?_,⟨HXI.o.2.1,HXI.o.2.2,HXI.o.1,(I64.of zd zd:I64 0)⟩,kU.stays _ _ HX2.o HAL.o,HBX.o.1⟩;have:q=-1:=by have:=HQ.o;omega
           unfold deP;rw [Mk.ai HZ.o,if_pos rfl,Mk.ai HXN.o,if_pos hp0,this];exact rfl
         ·have k5:=dT (p:=(0:Int)<=q) zqx;have k6:(0:Int)<=q:=by have:=HQ.o;omega
          obtain ⟨y,t2,hy⟩:∃ a b,Mk.next 41 t1=(a,b):=⟨_,_,rfl⟩
          have iy:=ay zd hy;have y1:IntKind.i64.wrap (y - 20)=y - 20:=wrapi zo zo;have HYI:Hy (I64 (y - 20)):=I64.of zo zo;have CY:=Hi (CN.o t1 y t2 41 zd zd hy w8 (MK.stays _ _ HX2.o.gl.mkr HAL.o));have HYN:=Hi hy;clear hy iy;go_wp2_with fail;refine CY.o.mono ?_;rintro e w9 ⟨rfl,K9,M9⟩;have hbn:m<nb:=by have:=HNB.o;have:=HX2.o.gl.ord;omega
          have HB9:=Hi (HBX.o.1.kept M9 zqa);have c3:w9.cell? ⟨nb,3,none⟩=some (.int .i64 0):=HB9.o.cell 3;have f3:=HB9.o.frozen 3;have HX9:Hy (kU w m sv l f gb B6 (gC nm (100+a*50) mk (.slice op o.pts.length cp) ve vr va (.slice od L2.length cd) ae) ⟨ByteArray.empty,0,false,o.pts,o.ends,ps,an,[],[]⟩ (.slice op o.pts.length cp) ve vr va ae ae (.slice od L2.length cd) L2 t2 (w9.setCell ⟨nb,3,none⟩ (.int .i64 (y - 20)))) :=
           HX2.o.call (K9.set (p:=⟨nb,3,none⟩) hbn _) (((HAL.o.more zk).then M9).eT (p:=⟨nb,3,none⟩) (by have:=HNB.o;show w7.heap.size<=nb;omega) _)
          have HBY:=Hi (HB9.o.set 3 (.int .i64 (y - 20)));clear K9 M9 CY hbn;go_wp2;go_meet
          case rel =>
           refine ⟨⟨i,q,x - 20,y - 20⟩,t2,?_,⟨HXI.o.2.1,HXI.o.2.2,HXI.o.1,HYI.o⟩,HX9.o,HBY.o⟩;have:q=(p:Int) - 1:=HQ.o;unfold deP;rw [Mk.ai HZ.o,if_pos rfl,Mk.ai HXN.o,if_neg hp0,Mk.ai HYN.o,this];exact rfl
        case rest =>
         obtain ⟨d,t2,HD,HDI,HX9,HBD⟩:=hcut;clear HX2 HAL HBX HNB HXN HZ;have b7:wc.cell? ⟨gb,7,none⟩=some (.slice od L2.length cd):=HX9.o.gl.blk.cell 7;have d0:wc.cell? ⟨nb,0,none⟩=some (.int .i64 d.region):=HBD.o.cell 0;have d1:wc.cell? ⟨nb,1,none⟩=some (.int .i64 d.point):=HBD.o.cell 1;have d2:wc.cell? ⟨nb,2,none⟩=some (.int .i64 d.x):=HBD.o.cell 2;have d3:wc.cell? ⟨nb,3,none⟩=some (.int .i64 d.y):=HBD.o.cell 3;go_wp2_with (at_builtin;refine aO (k:=4) (e:=147) (base:=B6) (l:=L2) (l':=[d]) rfl _ _ 43 rfl dq0 _ 32 Tryz.underlying43 dqi dqz0 dqz1 dqz2 rfl zd dz.stay dz.weak rfl (HX9.o.gr.mod dz.stay (mR.alloc _)) ⟨wc.heap.size,0,none⟩ _ _ [[.int .i64 d.region,.int .i64 d.point,.int .i64 d.x,.int .i64 d.y]] rfl rfl (aP.one rfl ⟨rfl,HDI.o⟩) (λj u hu=>bi (Blk.new wc #[.int .i64 d.region,.int .i64 d.point,.int .i64 d.x,.int .i64 d.y] 147) rfl hu) zqb ?_ ?_ ?_ ?_)
         ·have h4:=HLL2.o;have h5:=HIN.o;have h6:=HP.o;have h7:=HPL.o;have h8:=HN.o;unfold maxLen;simp;omega
         ·have h4:=HLL2.o;have h5:=HIN.o;have h6:=HP.o;have h7:=HPL.o;have h8:=HN.o;simp;omega
         ·have:=HX9.o.gl.ord;simp;omega
         intro v' w9 hGP hgr _;obtain ⟨od',cd',rfl⟩:=hGP.form;have hnl:(L2++[d]).length=L2.length+1:=by simp
         rw [hnl] at hGP;have HNL:=Hi hnl;clear hnl;have hX:=kU.stays _ _ HX9.o (mR.alloc (.cells #[.int .i64 d.region,.int .i64 d.point,.int .i64 d.x,.int .i64 d.y] 147));have HXA:=Hi (hX.push hGP hgr);have g7c:w9.cell? ⟨gb,7,none⟩=some (.slice od L2.length cd):=(hX.gl.grown hgr λb hb=>(hX.gr.lt b hb).1).blk.cell 7;have g7f:=(hX.gl.grown hgr λb hb=>(hX.gr.lt b hb).1).blk.frozen 7;clear hGP hgr hX HX9 HBD b7 d0 d1 d2 d3;go_wp2;go_roundg (gk - 1)
         case measure=>have:=hp5.o;have:=HP.o;omega
         case rel =>
          refine ⟨p+1,q+1,L2++[d],t2,od',cd',rfl,?_,?_,?_,?_,by rw [HNL.o];exact HXA.o⟩
          ·have:=HQ.o;show q+1=((p+1:Nat):Int) - 1;omega
          ·have:=hp5.o;have:=HP.o;show p+1+(gk - 1)=_;omega
          ·show Mk.rep (p+1) (deP i) L st=_;rw [Mk.aR HR2.o];exact HD.o
          ·have:=HLL2.o;show (L2++[d]).length<=i*11+(p+1);rw [HNL.o];omega
     case rest =>
      obtain ⟨od,cd,B7,HS8⟩:=hcut;clear HS7 H7;generalize (Value.slice od de.length cd)=vd at *
      obtain ⟨hi,s8,h8⟩:∃ a b,Mk.hint o.pts.length nf 6 ⟨s7.r,2⟩=(a,b):=⟨_,_,rfl⟩
      have HE2:=HE.o;rw [Mk.ai h8] at HE2;obtain ⟨hrg1,hrs1⟩:rg=⟨nm,100+a*50,mk,o.pts,o.ends,ps,an,de,hi⟩/\s8=rs:=by simpa using And.intro (congrArg Prod.fst HE2).symm (congrArg Prod.snd HE2)
      subst hrs1;have HRG1:=Hi hrg1;have b11:wc.cell? ⟨m,11,none⟩=some (.int .i64 s7.lp):=HS8.o.mkr.blk.cell 11;have f11:wc.frozen? ⟨m,11,none⟩=false:=HS8.o.mkr.blk.frozen 11;have HS9:=Hi (HS8.o.lps 2 zd zd);have CHX:=Hi (CH.o ⟨s7.r,2⟩ o.pts.length hi s8 zo (by have:=HPL.o;omega) zo zqf h8);clear HE HE2 HS8 h8 CN CH hrg1;go_upto_region 25 with fail;generalize wc.setCell ⟨m,11,none⟩ (.int .i64 2)=wd at *
      have B3:∀ W,MkI m sv l f wd W->W.cell? ⟨gb,3,none⟩=some (.slice op o.pts.length cp):=λW k=>HS9.o.gcell k.1 3
      have B9:∀ W,MkI m sv l f wd W->W.cell? ⟨m,9,none⟩=some (.slice oF nf cF):=λW k=>k.2.elim λ_ h9=>(h9.blk.cell 9).trans (congrArg some HFN.o)
      have HI0:MkI m sv l f wd wd.drew:=⟨mR.drew,_,MK.stays _ _ HS9.o.mkr (mR.drew)⟩
      clear b11 f11;refine Sw.aL (I:=MkI m sv l f wd) (F0:=bA w m sv l f gb B7 ⟨s7.r,2⟩ (gC nm (100+a*50) mk (.slice op o.pts.length cp) ve vr va vd ae) ⟨ByteArray.empty,0,false,o.pts,o.ends,ps,an,de,[]⟩ (.slice op o.pts.length cp) ve vr va vd ae) MkI.then 12 [(0,none),(1,none),(2,none),(3,none),(4,none),(5,none),(6,none),(7,none),(8,none),(9,none),(10,none),(11,some (ri w m sv l f gb s8 (gC nm (100+a*50) mk (.slice op o.pts.length cp) ve vr va vd ae) ⟨ByteArray.empty,0,false,o.pts,o.ends,ps,an,de,hi⟩ (.slice op o.pts.length cp) ve vr va vd hi.length))] zt zt (Sq.aW zt) ?hTS1156 HI0 bA.stays (bA.stays _ _ HS9.o (mR.drew)) ?mainS1156
      case hTS1156 =>
       intro p hp T hT v;simp only [List.mem_cons,List.not_mem_nil,or_false] at hp;rcases hp with rfl | rfl | rfl | rfl | rfl | rfl | rfl | rfl | rfl | rfl | rfl | rfl <;> first | (cases hT;done) | (cases hT;first | exact ri.stays _)
      iterate 11 refine Sw.vv HI0 ?_
      refine Sw.xx (λw' hw' hF K Q hK=>?_) (λkv hkv=>?_)
      ·go_wp2_with fail;refine (CHX.o w' hF.mkr).mono ?_;rintro e w'' ⟨v,rfl,hv,K',M'⟩;obtain ⟨oh,ch,rfl,-⟩:=hv.form;go_wp2;exact hK _ _ ⟨hw'.1.then M',_,K'⟩ ⟨oh,ch,_,rfl,hF.Bu K' M' hv⟩
      obtain ⟨_,_,oh,ch,_,rfl,_⟩:=hkv;refine Sw.bJ ?_;intro w' hw' hF;simp only [qS,qZ];obtain ⟨oh9,ch9,B8,he9,hG9⟩:=hF;cases he9;have c8:w'.cell? ⟨gb,8,none⟩=some (.slice none 0 0):=hG9.blk.cell 8;have f8:=hG9.blk.frozen 8;have HSA:Hy (bA w m sv l f gb B8 s8 (gC nm (100+a*50) mk (.slice op o.pts.length cp) ve vr va vd (.slice oh hi.length ch)) ⟨ByteArray.empty,0,false,o.pts,o.ends,ps,an,de,hi⟩ (.slice op o.pts.length cp) ve vr va vd (.slice oh hi.length ch) (w'.setCell ⟨gb,8,none⟩ (.slice oh hi.length ch))):=hG9.set 8 (.slice oh hi.length ch);clear hG9 hw' HS9 B3 B9 CHX;go_upto_region 26 with fail;generalize w'.setCell ⟨gb,8,none⟩ (.slice oh hi.length ch)=we at *
      generalize (Value.slice oh hi.length ch)=vh at *
      generalize (Value.slice op o.pts.length cp)=vp at *
      clear c8 f8;obtain ⟨nn,hnn⟩:∃ x,x=100+a*50:=⟨_,rfl⟩
      rw [<- hnn] at HSA HA;have HNN:=Hi hnn;clear hnn;have HAG:∀ W,Mod f.gl.ownBlock.toList we W->∀ i,W.cell? ⟨gb,i,none⟩=(gC nm nn mk vp ve vr va vd vh)[i]?:=λW k i=>(HSA.o.blk.kept k (λhb=>by have:=(HG0.o.lt gb (by simpa using hb)).2;have:=HSA.o.ord;omega)).cell i
      have HAM:∀ W,Mod f.gl.ownBlock.toList we W->∀ i,W.cell? ⟨m,i,none⟩=(mkC sv (l.length - s8.r.length) f s8.lp)[i]?:=λW k i=>(HSA.o.mkr.blk.kept k (λhb=>by have:=(HG0.o.lt m (by simpa using hb)).1;have:=HBS.o;omega)).cell i
      have A0:∀ W,Mod f.gl.ownBlock.toList we W->W.cell? ⟨gb,0,none⟩=some (.string nm):=λW k=>HAG W k 0
      have A1:∀ W,Mod f.gl.ownBlock.toList we W->W.cell? ⟨gb,1,none⟩=some (.int .i64 nn):=λW k=>HAG W k 1
      have A2:∀ W,Mod f.gl.ownBlock.toList we W->W.cell? ⟨gb,2,none⟩=some (.bool mk):=λW k=>HAG W k 2
      have A3:∀ W,Mod f.gl.ownBlock.toList we W->W.cell? ⟨gb,3,none⟩=some vp:=λW k=>HAG W k 3
      have A4:∀ W,Mod f.gl.ownBlock.toList we W->W.cell? ⟨gb,4,none⟩=some ve:=λW k=>HAG W k 4
      have A5:∀ W,Mod f.gl.ownBlock.toList we W->W.cell? ⟨gb,5,none⟩=some vr:=λW k=>HAG W k 5
      have A6:∀ W,Mod f.gl.ownBlock.toList we W->W.cell? ⟨gb,6,none⟩=some va:=λW k=>HAG W k 6
      have A7:∀ W,Mod f.gl.ownBlock.toList we W->W.cell? ⟨gb,7,none⟩=some vd:=λW k=>HAG W k 7
      have A8:∀ W,Mod f.gl.ownBlock.toList we W->W.cell? ⟨gb,8,none⟩=some vh:=λW k=>HAG W k 8
      have B3:∀ W,Mod f.gl.ownBlock.toList we W->W.cell? ⟨m,3,none⟩=some f.gl:=λW k=>HAM W k 3
      have HNZ:Hy (nm.size<=maxLen):=by
       have h4:=HNM.o;show nm.size<=maxLen;rw [h4]
       split
       ·decide
       ·show 2<=maxLen;decide
      have HLB:Hy (L.length+1<=maxLen/\(L.length+1)*176<=140737488355328):=by have h4:=HL.o;refine ⟨?_,by omega⟩;unfold maxLen;omega
      clear HAG HAM;refine Sw.aL (I:=Mod f.gl.ownBlock.toList we) (F0:=bA w m sv l f gb B8 s8 (gC nm nn mk vp ve vr va vd vh) ⟨ByteArray.empty,0,false,o.pts,o.ends,ps,an,de,hi⟩ vp ve vr va vd vh) (λ_ _ h k=>h.then (k.more zk)) 9 [(0,none),(1,none),(2,none),(3,none),(4,none),(5,none),(6,none),(7,some (bK we.heap.size (gC nm nn mk vp ve vr va vd vh) 46 1 (bA w m sv l f gb B8 s8 (gC nm nn mk vp ve vr va vd vh) ⟨ByteArray.empty,0,false,o.pts,o.ends,ps,an,de,hi⟩ vp ve vr va vd vh))),(8,some (lA w m bs sv l f (L++[⟨nm,nn,mk,o.pts,o.ends,ps,an,de,hi⟩]) s8))] zt zt (Sq.aW zt) ?hTS1263 (((Mod.refl [] we).drew).more zk) bA.stays (bA.stays _ _ HSA.o (mR.drew)) ?mainS1263
      case hTS1263 =>
       intro p hp T hT v;simp only [List.mem_cons,List.not_mem_nil,or_false] at hp;rcases hp with rfl | rfl | rfl | rfl | rfl | rfl | rfl | rfl | rfl <;> first | (cases hT;done) | (cases hT;first | exact lA.stays _ | exact bK.stays bA.stays _)
      iterate 7 refine Sw.vv (w0:=we.drew) (((Mod.refl [] we).drew).more zk) ?_
      refine Sw.xx (λw' hw' hF K Q hK=>?_) (λkv hkv=>?_)
      ·go_wp2;exact hK _ _ (hw'.alloc _) ⟨⟨_,rfl,hw'.size,Blk.new _ _ _⟩,bA.stays _ _ hF (mR.alloc _)⟩
      obtain ⟨_,_,⟨nb,rfl,hnb,_⟩,_⟩:=hkv;refine Sw.xx (λw' hw' hF K Q hK=>?_) (λkv hkv=>?_)
      ·obtain ⟨⟨b9,he9,-,hB⟩,hO⟩:=hF;cases he9;refine eN (v:=f.gl) (k:=9) (e:=46) (base:=bs) (l:=L) (l':=[⟨nm,nn,mk,o.pts,o.ends,ps,an,de,hi⟩]) rfl _ _ 24 rfl eq0 _ 176 Tryz.underlying24 eqi eqz0 eqz1 eqz2 rfl zd bO.stay bO.weak rfl (Cz HBS.o HG0.o hO.mod) ⟨nb,0,none⟩ _ _ [[.string nm,.int .i64 nn,.bool mk,vp,ve,vr,va,vd,vh]] rfl rfl (hO.elem HG0.o HNZ.o HA.o) (λj u hu=>bi hB rfl hu) (hO.one nm nn mk) HLB.o.1 HLB.o.2 (nT HBS.o.2 hO.mod.size) (λv' w'' hGP (hgr:w'.grownBy w'' f.gl.ownBlock) _=>?_);obtain ⟨ov',cv',rfl⟩:=hGP.form;exact hK _ _ (hw'.Bz hgr) ⟨ov',cv',rfl,hGP,hO.mkr.grown hgr (Dy HBS.o HG0.o),hO.mod.xo hgr⟩
      obtain ⟨_,_,ov',cv',rfl,_⟩:=hkv;refine Sw.bJ ?_;intro w' hw' hF;simp only [qS,qZ];obtain ⟨ov,cv,he9,hGP,hm9,hMD⟩:=hF;cases he9;have hnl:(L++[(⟨nm,nn,mk,o.pts,o.ends,ps,an,de,hi⟩:av)]).length=L.length+1:=by simp
      rw [hnl] at hGP ⊢;clear hnl;have c3:w'.cell? ⟨m,3,none⟩=some f.gl:=hm9.blk.cell 3;have f3:=hm9.blk.frozen 3;have HGP:=Hi hGP;have HM9:=Hi hm9;have HMD:=Hi hMD;clear hGP hMD hm9 HSA A0 A1 A2 A3 A4 A5 A6 A7 A8 B3 hw';go_wp2_with fail;refine bodyPost_end (results_none rfl _ _ _) rfl ?_;refine ⟨.slice ov' (L.length+1) cv',rfl,?_,⟨HM9.o.blk.set 3 (.slice ov' (L.length+1) cv'),HM9.o.num.same aF.stay (bC.set w' zk _),HM9.o.suf,HM9.o.lp0,HM9.o.lp1⟩,HMD.o.setCell (p:=⟨m,3,none⟩) (λ_=>by simp) _⟩;rw [HRG1.o,<- HNN.o];exact HGP.o.set bO.stay (λhe=>by have h8:bs<=m:=(HGP.o.lt _ he).1;have h9:=HBS.o;omega) (λh=>Nat.lt_irrefl m h) _
end Go.Proofs.YthheaflbbficgaaGreat

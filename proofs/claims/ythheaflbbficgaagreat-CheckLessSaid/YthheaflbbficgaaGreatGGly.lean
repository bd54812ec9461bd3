/- MkNext, MkSet, MkOutline, MkGlyphS, MkPiece, MkHint, MkGlyph. -/
import Derived.Test.YthheaflbbficgaaGreatGBase
import Derived.Test.YthheaflbbficgaaGreatGRing
import Derived.Deep.CutBlock
set_option linter.all false
namespace Go.Proofs.YthheaflbbficgaaGreat
set_option maxHeartbeats 8000000
open Go.RowKit
set_option maxRecDepth 100000
theorem flat_map {α β:Type} (f:α->List β) (l:List α):(l.map f).flatten=l.flatMap f:=by rw [List.flatMap_def]
theorem blk_news {w:World} {b:Nat} {cs:Array Value} {t:TypeId} {news:List Value} (h:Blk w b cs t) (e:cs.toList=news) {j:Nat} {u:Value} (hu:news[j]?=some u):w.cell? ((⟨b,0,none⟩:Addr).add j)=some u:=by
 have e1:(⟨b,0,none⟩:Addr).add j=⟨b,j,none⟩:=by unfold Addr.add;split <;> simp_all
 rw [e1,h.cell,<- hu,<- e,Array.getElem?_toList]
theorem noBl_weak {S:Bl} (w:World):∀ b,b<w.heap.size->(fun _=>False:Bl) b->S b:=fun _ _ h=>h.elim
theorem Mk.rep_next {α:Type} {n:Nat} {f:Nat->α->Mk.M α} {a b:α} {s t:Mk.S} (h:Mk.rep n f a s=(b,t)):Mk.rep (n+1) f a s=f n b t:=by rw [Mk.rep_succ,h]
structure MF where
 u:Value
 gl:Value
 ch:Value
 lk:Value
 ft:Value
 ax:Value
 rg:Value
 fn:Value
 cv:Value
def mkC (sv:Value) (p:Nat) (f:MF) (lp:Int):Array Value:=#[sv,.int .i64 (p:Int),f.u,f.gl,f.ch,f.lk,f.ft,f.ax,f.rg,f.fn,f.cv,.int .i64 lp]
structure MK (m:Nat) (sv:Value) (l:List Int) (f:MF) (s:Mk.S) (w:World):Prop where
 blk:Blk w m (mkC sv (l.length - s.r.length) f s.lp) 72
 num:SRows 1 SInt (· < m) w sv l
 suf:∃ p,l=p++s.r
 lp0:0<=s.lp
 lp1:s.lp<=1000000
theorem MK.stays {m:Nat} {sv:Value} {l:List Int} {f:MF} {s:Mk.S}:Stays (MK m sv l f s):=fun w w' h k=>⟨h.blk.kept k (by simp),h.num.mod SInt.stay k,h.suf,h.lp0,h.lp1⟩
theorem MK.grown {m:Nat} {sv:Value} {l:List Int} {f:MF} {s:Mk.S} {w w':World} {row:Option Nat} (h:MK m sv l f s w) (g:w.grownBy w' row) (hr:∀ k,row=some k->m<k):MK m sv l f s w' :=
 ⟨h.blk.grew g (fun he=>by have:=hr m he;omega),h.num.same SInt.stay (SameB.grown g fun k hk=>by have:=hr k hk;omega),h.suf,h.lp0,h.lp1⟩
theorem MK.set {m:Nat} {sv:Value} {l:List Int} {f:MF} {s:Mk.S} {w:World} (h:MK m sv l f s w) {p:Addr} (hp:m<p.block) (u:Value):MK m sv l f s (w.setCell p u) :=
 ⟨h.blk.other (by omega) u,h.num.same SInt.stay (SameB.set w (by omega) u),h.suf,h.lp0,h.lp1⟩
theorem Mk.next_lp (n:Int) (s:Mk.S):(Mk.next n s).2.lp=s.lp:=by unfold Mk.next;split <;> rfl
theorem Mk.next_ge (n:Int) (s:Mk.S) (hn:0<n):0<=(Mk.next n s).1:=by
 unfold Mk.next;split
 ·exact Int.le_refl 0
 ·exact Int.emod_nonneg _ (by omega)
theorem Mk.next_lt (n:Int) (s:Mk.S) (hn:0<n):(Mk.next n s).1<n:=by
 unfold Mk.next;split
 ·exact hn
 ·exact Int.emod_lt_of_pos _ hn
theorem tmod_twice (x n:Int) (hn:0<n):(x.tmod n+n).tmod n=x % n:=by
 have h1:=Int.emod_nonneg x (b:=n) (by omega);have h2:=Int.emod_lt_of_pos x hn;rw [Int.tmod_eq_emod (a:=x)]
 split
 ·rw [Int.tmod_eq_emod_of_nonneg (by omega)];simp
 ·have e:(n.natAbs:Int)=n:=by omega
  rw [e,Int.tmod_eq_emod_of_nonneg (by omega)];simp
theorem tmod_range (x n:Int) (hn:0<n):-n<x.tmod n/\x.tmod n<n:=by
 have h1:=Int.emod_nonneg x (b:=n) (by omega);have h2:=Int.emod_lt_of_pos x hn;rw [Int.tmod_eq_emod (a:=x)]
 split <;> omega
theorem next_any (m:Nat) (sv:Value) (l:List Int) (f:MF) (s:Mk.S) (w:World) (h:MK m sv l f s w) (n:Int) (hn:0<n) (hb:n<=1000000) :
  Calls Tryz.prog 19 #[.pointer (some ⟨m,0,none⟩),.int .i64 n] w fun e w'=>e=.returned (.int .i64 (Mk.next n s).1)/\MK m sv l f (Mk.next n s).2 w'/\Mod [m] w w':=by
 obtain ⟨p,hp⟩:=h.suf;obtain ⟨oa,cap,rfl,hlen⟩:=h.num.form;have HM:=Hi h;have B0:∀ W,Mod [] w W->W.cell? ⟨m,0,none⟩=some (.slice oa l.length cap):=fun W k=>(MK.stays _ _ h k).blk.cell 0
 have B1:∀ W,Mod [] w W->W.cell? ⟨m,1,none⟩=some (.int .i64 ((l.length - s.r.length:Nat):Int)):=fun W k=>(MK.stays _ _ h k).blk.cell 1
 have hsl:s.r.length<=l.length:=by rw [hp];simp
 have HB:=Hi hb;clear hb;rcases hs:s.r with _ | ⟨x,r⟩
 ·have e1:Mk.next n s=(0,s):=by unfold Mk.next;rw [hs]
  rw [e1];rw [hs] at B1;simp only [List.length_nil,Nat.sub_zero] at B1;have k1:decide ((l.length:Int)<=(l.length:Int))=true:=dT (Int.le_refl _);clear hp hs e1 h hsl;go_enter Tryz.func19,Tryz.ntmps19;go_upto_region 1 with fail;refine wp_region_mask 10 [true,true,true,true,true,true,true,true,true,true] [] (by kernel_rfl) (by kernel_rfl) (by simp) ?_;simp only [pickM]
  iterate 10
   refine sv ?_
  refine steady_done ?_;refine lates_end (fun w' hw' _=>?_);simp only [qS,qZ];have HW:=Hi hw';clear hw' B0 B1;go_wp2;go_ret;exact ⟨rfl,MK.stays _ _ HM.out HW.out,HW.out.more (by simp)⟩
 ·have e1:Mk.next n s=(x % n,⟨r,s.lp⟩):=by unfold Mk.next;rw [hs]
  rw [e1];have hr:s.r.length=r.length+1:=by rw [hs];rfl
  obtain ⟨q,hq⟩:∃ q,l.length - s.r.length=q/\q<l.length:=⟨_,rfl,by omega⟩
  rw [hq.1] at B1;have hlq:l[q]'hq.2=x:=by
   have:l[q]?=some x:=by
    rw [hp,hs,List.getElem?_append_right (by have:=hq.1;rw [hp,hs] at this;simp at this;omega)];have:=hq.1;rw [hp,hs] at this;simp at this;rw [show q - p.length=0 by omega];rfl
   rw [gE hq.2] at this;exact Option.some.inj this
  obtain ⟨a,rfl,ham,cs,-,hc0,-,hcs,hx⟩:=h.num.at q hq.2;rw [hlq] at hcs hx;subst hcs;have c0:=hc0 (by decide);simp only [gZ,Nat.mul_one] at c0;have C0:∀ W,Mod [] w W->W.cell? (a.add q)=some (.int .i64 x):=fun W k=>cell_stays k c0
  have k1:decide ((l.length:Int)<=(q:Int))=false:=dF (by have:=hq.2;omega);have k2:(0:Int)<=q:=by omega
  have k3:(q:Int)<(l.length:Int):=by have:=hq.2;omega
  have HQ:=Hi hq;have HSUF:=Hi (show ∃ p,l=p++r from ⟨p++[x],by rw [hp,hs];simp⟩);have HR:=Hi hr;have HSL:=Hi hsl;clear hc0 c0 hq hlq hp hs hr e1 ham h hsl hx;go_enter Tryz.func19,Tryz.ntmps19;go_upto_region 1 with fail;refine wp_region_mask 10 [true,true,true,true,true,true,true,true,true,true] [] (by kernel_rfl) (by kernel_rfl) (by simp) ?_;simp only [pickM]
  iterate 10
   refine sv ?_
  refine steady_done ?_;refine lates_end (fun w1 hw1 _=>?_);simp only [qS,qZ];have C1:∀ W,Mod [] w1 W->W.cell? (a.add q)=some (.int .i64 x):=fun W k=>C0 W (hw1.then k)
  have D0:∀ W,Mod [] w1 W->W.cell? ⟨m,0,none⟩=some (.slice (some a) l.length cap):=fun W k=>B0 W (hw1.then k)
  have D1:∀ W,Mod [] w1 W->W.cell? ⟨m,1,none⟩=some (.int .i64 (q:Int)):=fun W k=>B1 W (hw1.then k)
  have HW1:=Hi hw1;clear hw1 C0 B0 B1;go_upto_region 3 with fail;refine wp_region_mask 11 [true,true,true,true,true,true,true,true,true,true,true] [] (by kernel_rfl) (by kernel_rfl) (by simp) ?_;simp only [pickM]
  iterate 11
   refine sv ?_
  refine steady_done ?_;refine lates_end (fun w2 hw2 _=>?_);simp only [qS,qZ];have D2:=D1 w2 hw2;have HW2:=Hi (HW1.out.then hw2);have F2:w2.frozen? ⟨m,1,none⟩=false:=(MK.stays _ _ HM.out HW2.out).blk.frozen 1;clear hw2 C1 D0 D1 HW1;have ei:IntKind.i64.wrap ((q:Int)+1)=(q:Int)+1:=IntWalk.i64_in _ (by have:=HQ.out.2;unfold maxLen at hlen;omega);have hn0:¬ n=0:=by omega
  have z1:IntKind.i64.wrap (x.tmod n)=x.tmod n:=IntWalk.i64_in _ (by have:=tmod_range x n hn;have:=HB.out;omega);have z2:IntKind.i64.wrap (x.tmod n+n)=x.tmod n+n:=IntWalk.i64_in _ (by have:=tmod_range x n hn;have:=HB.out;omega);have z3:IntKind.i64.wrap ((x.tmod n+n).tmod n)=(x.tmod n+n).tmod n:=IntWalk.i64_in _ (by have:=tmod_range (x.tmod n+n) n hn;have:=HB.out;omega);go_wp2;go_ret;have h2:=MK.stays _ _ HM.out HW2.out;refine ⟨by rw [tmod_twice x n hn];rfl,⟨?_,?_,HSUF.out,h2.lp0,h2.lp1⟩,?_⟩
  ·have h3:=h2.blk.set 1 (.int .i64 ((q:Int)+1));have h4:l.length - s.r.length=q:=HQ.out.1;have h5:l.length - r.length=q+1:=by have h8:s.r.length=r.length+1:=HR.out;have h9:q<l.length:=HQ.out.2;have h7:s.r.length<=l.length:=HSL.out;omega
   rw [h4] at h3;show Blk _ _ (mkC _ (l.length - r.length) f s.lp) _;rw [h5];exact h3
  ·exact h2.num.same SInt.stay (SameB.set w2 (by simp) _)
  ·exact (HW2.out.more (by simp)).setCell (fun _=>by simp) _
theorem I64.of {x:Int} (h1:-1000000000<=x) (h2:x<=1000000000):I64 x:=by unfold I64;omega
theorem Mk.bind_eq {α β:Type} {x:α×Mk.S} {a:α} {s:Mk.S} (h:x=(a,s)) (f:α->Mk.M β):Mk.bind x f=f a s:=by rw [h];rfl
theorem next_at (m:Nat) (sv:Value) (l:List Int) (f:MF) (s:Mk.S) (n:Int) (hn:0<n) (hb:n<=1000000) {r:Int} {s':Mk.S} (he:Mk.next n s=(r,s')) (w:World) (h:MK m sv l f s w) :
  Calls Tryz.prog 19 #[.pointer (some ⟨m,0,none⟩),.int .i64 n] w fun e w'=>e=.returned (.int .i64 r)/\MK m sv l f s' w'/\Mod [m] w w':=by
 have:=next_any m sv l f s w h n hn hb;rw [he] at this;exact this
theorem next_in {n:Int} {s s':Mk.S} {r:Int} (hn:0<n) (he:Mk.next n s=(r,s')):0<=r/\r<n/\s'.lp=s.lp:=by
 have h1:=Mk.next_ge n s hn;have h2:=Mk.next_lt n s hn;have h3:=Mk.next_lp n s;rw [he] at h1 h2 h3;exact ⟨h1,h2,h3⟩
def encInt (x:Int):List Value:=[.int .i64 x]
theorem encInt_one:∀ (l:List Int),∀ u∈(l.map encInt).flatten,u.oneCell'=true:=by
 intro l u hu;rw [flat_map,List.mem_flatMap] at hu;obtain ⟨d,_,hd⟩:=hu;simp [encInt] at hd;subst hd;rfl
theorem set_at (m : Nat) (sv : Value) (l : List Int) (f : MF) (s : Mk.S) (n : Nat) (hn : 0 < n) (hn1 : n <= 100000) {og : Option Addr} {cg : Nat} (hgl : f.gl = .slice og n cg) {rl : List Int} {rs : Mk.S} (he : Mk.set n s = (rl, rs)) (w : World) (h : MK m sv l f s w) :
    Calls Tryz.prog 134 #[.pointer (some ⟨m, 0, none⟩)] w fun e w' => ∃ v, e = .returned v /\ SRows 1 SInt (fun b => w.heap.size <= b) w' v rl /\ MK m sv l f rs w' /\ Mod [m] w w' := by
  obtain ⟨a, s1, h1⟩ : ∃ a b, Mk.next n s = (a, b) := ⟨_, _, rfl⟩
  unfold Mk.set at he
  rw [Mk.bind_eq h1] at he
  have C1 := Hi (next_at m sv l f s n (by omega) (by omega) h1 w h)
  have i1 := next_in (by omega) h1
  obtain ⟨A, rfl⟩ : ∃ A : Nat, a = A := ⟨a.toNat, by omega⟩
  have hA : A < n := by omega
  have HE := Hi he
  have HA := Hi hA
  have CP := Hi (fun st x st' e => next_at m sv l f st 3 (by decide) (by decide) (r := x) (s' := st') e)
  have c3 : ∀ W, Mod [] w W -> W.cell? ⟨m, 3, none⟩ = some (.slice og n cg) := fun W k => ((MK.stays _ _ h k).blk.cell 3).trans (congrArg some hgl)
  have b3 := c3 w mR
  have ea : IntKind.i64.wrap ((A : Int) + 1) = (A : Int) + 1 := IntWalk.i64_in _ (by omega)
  have HMW := Hi h.blk.lt
  have HN := Hi hn1
  clear h1 he h i1 hn1 hgl hA c3
  obtain ⟨i0, hi, hz0, hz1, hz2⟩ := info_parts inf_Int
  go_enter Tryz.func134, Tryz.ntmps134
  go_wp2_with fail
  refine C1.out.mono ?_
  rintro e w1 ⟨rfl, K1, M1⟩
  have HK := Hi K1
  have HM := Hi M1
  clear K1 M1 C1 b3
  go_wp2_with fail
  have HA2 := Hi (show I64 A from I64.of (by have := HN.out; have := HA.out; omega) (by have := HN.out; have := HA.out; omega))
  have HG1 : Hid (Grow w.heap.size 3 1 SInt (fun _ => False) (.slice (some ⟨w1.heap.size, 0, none⟩) 1 1) [(A : Int)] (w1.alloc (.cells #[.int .i64 (A : Int)] 3))) :=
    Grow.made (l := [(A : Int)]) (css := [encInt A]) SInt.weak HM.out.size (Blk.new _ _ _) rfl (Elems.one rfl ⟨rfl, HA2.out⟩) (fun _ _ h => h.elim) (by simp [maxLen])
  have HK1 := Hi (MK.stays _ _ HK.out (mR.alloc (.cells #[.int .i64 (A : Int)] 3)))
  have HM1 := Hi (HM.out.alloc (.cells #[.int .i64 (A : Int)] 3))
  clear HK HM
  generalize w1.alloc (.cells #[.int .i64 (A : Int)] 3) = w2 at *
  generalize some (⟨w1.heap.size, 0, none⟩ : Addr) = oa1 at *
  go_loopg [5, 6] (n - 1 - A) (fun gk v5 i6 wr => ∃ (i : Nat) (L : List Int) (st : Mk.S) (oa : Option Addr) (cap : Nat), v5 = .slice oa L.length cap /\ i6 = .int .i64 (i : Int) /\ Hid (i + gk = n) /\ Hid (Mk.setL n gk i L st = (rl, rs)) /\ Hid (L.length <= 4) /\ Hid (MK m sv l f st wr /\ Mod [m] w wr /\ Grow w.heap.size 3 1 SInt (fun _ => False) v5 L wr))
  case atStart =>
    refine ⟨A + 1, [(A : Int)], s1, oa1, 1, rfl, by rw [Int.natCast_add]; rfl, ?_, ?_, by show (1 : Nat) <= 4; decide, HK1.out, HM1.out, HG1.out⟩
    · have := HA.out; show A + 1 + (n - 1 - A) = n; omega
    · have h9 := HE.out
      have e9 : ((n : Int) - 1 - (A : Int)).toNat = n - 1 - A := by have := HA.out; omega
      rw [e9] at h9
      exact h9
  case round =>
    obtain ⟨i, L, st, oa, cap, rfl, rfl, hi5, HR, HL, HS⟩ := hrel
    clear HK1 HM1 HG1
    have stop : Mk.setL n gk i L st = (L, st) -> L = rl /\ st = rs := fun h => by have h9 := HR.out; rw [h] at h9; simpa using h9
    by_cases hin : i < n
    case neg =>
      obtain rfl : i = n := by have := hi5.out; omega
      have k1 : decide ((i : Int) < (i : Int)) = false := dF (by omega)
      obtain ⟨rfl, rfl⟩ := stop (by have := hi5.out; obtain rfl : gk = 0 := by omega
                                    rfl)
      clear stop
      go_wp2
      go_ret
      exact ⟨_, rfl, HS.out.2.2.done (by decide) SInt.weak (noBl_weak _) (fun b hb => (HS.out.2.2.lt b hb).1), HS.out.1, HS.out.2.1⟩
    have k1 : decide ((i : Int) < (n : Int)) = true := dT (by omega)
    have k2 : (i : Int) < (n : Int) := by omega
    obtain ⟨g, rfl⟩ : ∃ g, gk = g + 1 := ⟨gk - 1, by have := hi5.out; omega⟩
    by_cases h4 : L.length < 4
    case neg =>
      have k3 : decide ((L.length : Int) < 4) = false := dF (by omega)
      have k4 : ¬ (L.length : Int) < 4 := by omega
      obtain ⟨rfl, rfl⟩ := stop (by unfold Mk.setL; rw [if_neg (by omega)])
      clear stop h4
      go_wp2
      go_ret
      exact ⟨_, rfl, HS.out.2.2.done (by decide) SInt.weak (noBl_weak _) (fun b hb => (HS.out.2.2.lt b hb).1), HS.out.1, HS.out.2.1⟩
    have k3 : decide ((L.length : Int) < 4) = true := dT (by omega)
    have k4 : (L.length : Int) < 4 := by omega
    have ei : IntKind.i64.wrap ((i : Int) + 1) = (i : Int) + 1 := IntWalk.i64_in _ (by have := HN.out; omega)
    obtain ⟨z, st', hz⟩ : ∃ a b, Mk.next 3 st = (a, b) := ⟨_, _, rfl⟩
    have HR2 : Hid (Mk.setL n g (i + 1) (if z = 0 then L ++ [(i : Int)] else L) st' = (rl, rs)) := by
      have h9 := HR.out
      unfold Mk.setL at h9
      rw [if_pos ⟨k2, h4⟩, Mk.bind_eq hz] at h9
      exact h9
    have CX := Hi (CP.out st z st' hz wr HS.out.1)
    have HIN := Hi hin
    have HL4 := Hi h4
    clear hz hin h4 stop HR
    go_wp2_with fail
    refine CX.out.mono ?_
    rintro e w3 ⟨rfl, K2, M2⟩
    have HG := Hi (HS.out.2.2.keptB SInt.stay M2 (by simpa using HMW.out) (by simp))
    have HK2 := Hi K2
    have HM2 := Hi (HS.out.2.1.then M2)
    clear K2 M2 HS CX
    by_cases hz : z = 0
    case neg =>
      rw [if_neg hz] at HR2
      have k6 : decide (z = 0) = false := dF hz
      go_wp2
      go_roundg g
      case measure => omega
      case rel => exact ⟨i + 1, L, st', oa, cap, rfl, by rw [Int.natCast_add]; rfl, by have := hi5.out; show i + 1 + g = n; omega, by rw [Int.natCast_add]; exact HR2.out, HL.out, HK2.out, HM2.out, HG.out⟩
    subst hz
    rw [if_pos rfl] at HR2
    go_wp2_with (at_builtin; refine wpList_push (k := 1) (e := 3) (base := w.heap.size) (l := L) (l' := [(i : Int)]) rfl _ _ 22 rfl i0 _ 8 Tryz.underlying22 hi hz0 hz1 hz2 rfl (by decide) SInt.stay SInt.weak rfl (HG.out.mod SInt.stay (mR.alloc _)) ⟨w3.heap.size, 0, none⟩ _ _ [encInt i] rfl rfl (Elems.one rfl ⟨rfl, ?_⟩) ?_ (encInt_one [(i : Int)]) ?_ ?_ ?_ ?_)
    · exact I64.of (by omega) (by have := HN.out; have := HIN.out; omega)
    · exact fun j u hu => blk_news (Blk.new w3 #[.int .i64 (i : Int)] 3) rfl hu
    · have h4 := HL4.out; unfold maxLen; simp; omega
    · have h4 := HL4.out; simp; omega
    · have := HM2.out.size; simp; omega
    intro v' w4 hG hgr _
    obtain ⟨oa', c', rfl⟩ := hG.form
    have HS3 : Hid (MK m sv l f st' w4 /\ Mod [m] w w4 /\ Grow w.heap.size 3 1 SInt (fun _ => False) (.slice oa' (L ++ [(i : Int)]).length c') (L ++ [(i : Int)]) w4) := by
      have hlt := HG.out.lt
      refine ⟨(MK.stays _ _ HK2.out (mR.alloc _)).grown hgr fun g hg => ?_, (HM2.out.alloc _).grew hgr fun g hg => (hlt g hg).1, hG⟩
      have := (hlt g hg).1; have := HMW.out; omega
    clear hG hgr HG HK2 HM2
    go_wp2
    go_roundg g
    case measure => omega
    case rel =>
      refine ⟨i + 1, L ++ [(i : Int)], st', oa', c', rfl, by rw [Int.natCast_add]; rfl, ?_, by rw [Int.natCast_add]; exact HR2.out, ?_, HS3.out⟩
      · have := hi5.out; show i + 1 + g = n; omega
      · have h4 := HL4.out; show (L ++ [(i : Int)]).length <= 4; rw [List.length_append]; simp; omega
def encPt (d:DPoint):List Value:=[.int .i64 d.x,.int .i64 d.y,.bool d.on]
structure OutSt (W:World) (m:Nat) (sv:Value) (l:List Int) (f:MF) (rb ob:Nat) (s:Mk.S) (o:DOutline) (vp ve:Value) (w:World):Prop where
 mkr:MK m sv l f s w
 mod:Mod [m] W w
 rblk:Blk w rb #[.slice none 0 0,.slice none 0 0] 40
 oblk:Blk w ob #[vp,ve] 40
 pts:Grow (W.heap.size+2) 97 3 SPoint (fun _=>False) vp o.pts w
 ends:Grow (W.heap.size+2) 3 1 SInt (fun _=>False) ve o.ends w
 ord:m<W.heap.size/\rb=W.heap.size/\ob=W.heap.size+1
theorem OutSt.stays {W:World} {m:Nat} {sv:Value} {l:List Int} {f:MF} {rb ob:Nat} {s:Mk.S} {o:DOutline} {vp ve:Value}:Stays (OutSt W m sv l f rb ob s o vp ve):=fun w w' h k =>
 ⟨MK.stays _ _ h.mkr k,h.mod.then (k.more (by simp)),h.rblk.kept k (by simp),h.oblk.kept k (by simp),h.pts.mod SPoint.stay k,h.ends.mod SInt.stay k,h.ord⟩
theorem OutSt.call {W:World} {m:Nat} {sv:Value} {l:List Int} {f:MF} {rb ob:Nat} {s s':Mk.S} {o:DOutline} {vp ve:Value} {w w':World} (h:OutSt W m sv l f rb ob s o vp ve w) (k:MK m sv l f s' w') (k2:Mod [m] w w'):OutSt W m sv l f rb ob s' o vp ve w':=by
 have h1:=h.ord;exact ⟨k,h.mod.then k2,h.rblk.kept k2 (by simp;omega),h.oblk.kept k2 (by simp;omega),h.pts.keptB SPoint.stay k2 (by simp;omega) (fun _ h=>h.elim),h.ends.keptB SInt.stay k2 (by simp;omega) (fun _ h=>h.elim),h.ord⟩
def NewAnd (B:Nat) (cs:Array Value) (t:TypeId) (n:Nat) (Post:World->Prop) (v:Value) (w:World):Prop:=NewSl B cs t n v w/\Post w
theorem NewAnd.stays {B:Nat} {cs:Array Value} {t:TypeId} {n:Nat} {Post:World->Prop} (hP:Stays Post) (v:Value):Stays (NewAnd B cs t n Post v):=fun w w' h k=>⟨NewSl.stays _ _ _ _ _ _ _ h.1 k,hP _ _ h.2 k⟩
section
variable {W:World} {m:Nat} {sv:Value} {l:List Int} {f:MF} {rb ob:Nat} {s s':Mk.S} {o:DOutline} {vp ve v':Value} {w w':World}
theorem OutSt.pushP {d:DPoint} (h:OutSt W m sv l f rb ob s o vp ve w) (hG:Grow (W.heap.size+2) 97 3 SPoint (fun _=>False) v' (o.pts++[d]) w') (g:w.grownBy w' vp.ownBlock) :
  OutSt W m sv l f rb ob s ⟨o.pts++[d],o.ends⟩ v' ve (w'.setCell ⟨ob,0,none⟩ v'):=by
 have h1:=h.ord;have h2:∀ k,vp.ownBlock=some k->W.heap.size+2<=k:=fun k hk=>(h.pts.lt k hk).1
 have h3:∀ k,v'.ownBlock=some k->W.heap.size+2<=k:=fun k hk=>(hG.lt k hk).1
 have h4:∀ k,ve.ownBlock=some k->W.heap.size+2<=k:=fun k hk=>(h.ends.lt k hk).1
 refine ⟨(h.mkr.grown g fun k hk=>by have:=h2 k hk;omega).set (by show m<ob;omega) _,(h.mod.grew g fun k hk=>by have:=h2 k hk;omega).setNew (p:=⟨ob,0,none⟩) (by show W.heap.size<=ob;omega) _,?_,?_,?_,?_,h.ord⟩
 ·exact (h.rblk.grew g fun hk=>by have:=h2 _ hk;omega).other (by show ob≠rb;omega) _
 ·exact (h.oblk.grew g fun hk=>by have:=h2 _ hk;omega).set 0 v'
 ·exact hG.set SPoint.stay (fun hk=>by have:=h3 _ hk;simp at this;omega) (fun h=>h) _
 ·exact (h.ends.other SInt.stay g (h.ends.ne h.pts (by decide)) (fun _ _ h=>h)).set SInt.stay (fun hk=>by have:=h4 _ hk;simp at this;omega) (fun h=>h) _
theorem OutSt.pushE {d:Int} (h:OutSt W m sv l f rb ob s o vp ve w) (hG:Grow (W.heap.size+2) 3 1 SInt (fun _=>False) v' (o.ends++[d]) w') (g:w.grownBy w' ve.ownBlock) :
  OutSt W m sv l f rb ob s ⟨o.pts,o.ends++[d]⟩ vp v' (w'.setCell ⟨ob,1,none⟩ v'):=by
 have h1:=h.ord;have h2:∀ k,ve.ownBlock=some k->W.heap.size+2<=k:=fun k hk=>(h.ends.lt k hk).1
 have h3:∀ k,v'.ownBlock=some k->W.heap.size+2<=k:=fun k hk=>(hG.lt k hk).1
 have h4:∀ k,vp.ownBlock=some k->W.heap.size+2<=k:=fun k hk=>(h.pts.lt k hk).1
 refine ⟨(h.mkr.grown g fun k hk=>by have:=h2 k hk;omega).set (by show m<ob;omega) _,(h.mod.grew g fun k hk=>by have:=h2 k hk;omega).setNew (p:=⟨ob,1,none⟩) (by show W.heap.size<=ob;omega) _,?_,?_,?_,?_,h.ord⟩
 ·exact (h.rblk.grew g fun hk=>by have:=h2 _ hk;omega).other (by show ob≠rb;omega) _
 ·exact (h.oblk.grew g fun hk=>by have:=h2 _ hk;omega).set 1 v'
 ·exact (h.pts.other SPoint.stay g (h.pts.ne h.ends (by decide)) (fun _ _ h=>h)).set SPoint.stay (fun hk=>by have:=h4 _ hk;simp at this;omega) (fun h=>h) _
 ·exact hG.set SInt.stay (fun hk=>by have:=h3 _ hk;simp at this;omega) (fun h=>h) _
end
def ptF:Nat->List DPoint->Mk.M (List DPoint):=fun p l s=>Mk.bind (Mk.point p s) fun d s=>(l++[d],s)
def conF:Nat->DOutline->Mk.M DOutline:=fun _ o s=>Mk.contour o s
theorem Mk.contour_eq {o:DOutline} {k:Int} {s s1:Mk.S} (h:Mk.next 4 s=(k,s1)) {pts:List DPoint} {s2:Mk.S} (h2:Mk.rep (2+k).toNat ptF o.pts s1=(pts,s2)):Mk.contour o s=(⟨pts,o.ends++[(pts.length:Int) - 1]⟩,s2):=by
 unfold Mk.contour;rw [Mk.bind_eq h];show Mk.bind (Mk.rep (2+k).toNat ptF o.pts s1) _=_;rw [Mk.bind_eq h2]
theorem wrapi {x:Int} (h1:-1000000000000<=x) (h2:x<=1000000000000):IntKind.i64.wrap x=x:=IntWalk.i64_in _ (by omega)
theorem outline_at (m:Nat) (sv:Value) (l:List Int) (f:MF) (s:Mk.S) {ro:DOutline} {rs:Mk.S} (he:Mk.outline s=(ro,rs)) (w:World) (h:MK m sv l f s w) :
  Calls Tryz.prog 80 #[.pointer (some ⟨m,0,none⟩)] w fun e w'=>∃ cs,e=.returned (.agg cs.toArray)/\SOutline (fun b=>w.heap.size<=b) w' cs ro/\MK m sv l f rs w'/\Mod [m] w w':=by
 obtain ⟨k,s1,h1⟩:∃ a b,Mk.next 3 s=(a,b):=⟨_,_,rfl⟩
 unfold Mk.outline at he;rw [Mk.bind_eq h1] at he;have C1:=Hi (fun st x st' n h1 h2 e=>next_at m sv l f st n h1 h2 (r:=x) (s':=st') e);have i1:=next_in (by omega) h1;obtain ⟨K,rfl⟩:∃ K:Nat,k=K:=⟨k.toNat,by omega⟩
 have HK0:=Hi (show K<3 by omega);rw [Int.toNat_natCast] at he;have HE:=Hi he;have H0:Hid (OutSt w m sv l f w.heap.size (w.heap.size+1) s ⟨[],[]⟩ (.slice none 0 0) (.slice none 0 0) ((w.alloc (.cells #[.slice none 0 0,.slice none 0 0] 40)).alloc (.cells #[.slice none 0 0,.slice none 0 0] 40))):=by
  have m1:=(Mod.refl [] w).alloc (.cells #[.slice none 0 0,.slice none 0 0] 40);have m2:=m1.alloc (.cells #[.slice none 0 0,.slice none 0 0] 40);refine ⟨MK.stays _ _ h m2,m2.more (by simp),(Blk.new w _ _).kept ((Mod.refl [] _).alloc _) (by simp),?_,Grow.nil,Grow.nil,h.blk.lt,rfl,rfl⟩;have:=Blk.new (w.alloc (.cells #[.slice none 0 0,.slice none 0 0] 40)) #[.slice none 0 0,.slice none 0 0] 40;simpa using this
 have CN:=Hi (C1.out s K s1 3 (by decide) (by decide) h1);clear h1 he h i1;obtain ⟨i0,hi,hz0,hz1,hz2⟩:=info_parts inf_Int;obtain ⟨p0,pi,pz0,pz1,pz2⟩:=info_parts inf_Point;go_enter Tryz.func80,Tryz.ntmps80;go_wp2_with fail;generalize (w.alloc (.cells #[.slice none 0 0,.slice none 0 0] 40)).alloc (.cells #[.slice none 0 0,.slice none 0 0] 40)=w0 at *
 refine (CN.out w0 H0.out.mkr).mono ?_;rintro e w1 ⟨rfl,K1,M1⟩;have H1:=Hi (H0.out.call K1 M1);have HRB:=Hi (show w.heap.size=w.heap.size from rfl);clear K1 M1 CN H0;generalize hrb:w.heap.size=rb at H1 ⊢;generalize hob:rb+1=ob at H1 ⊢;clear hrb hob HRB;go_wp2_with fail
 go_loopg [5] K (fun gk i5 wr=>∃ (i:Nat) (o:DOutline) (st:Mk.S) (oa:Option Addr) (ca:Nat) (oe:Option Addr) (ce:Nat),i5=.int .i64 (i:Int)/\Hid (i+gk=K)/\Hid (Mk.rep i conF ⟨[],[]⟩ s1=(o,st))/\Hid (o.pts.length<=5*i/\o.ends.length=i)/\Hid (OutSt w m sv l f rb ob st o (.slice oa o.pts.length ca) (.slice oe o.ends.length ce) wr))
 case atStart=>exact ⟨0,⟨[],[]⟩,s1,none,0,none,0,rfl,by show 0+K=K;omega,rfl,⟨nR _,rfl⟩,H1.out⟩
 case round =>
  obtain ⟨i,o,st,oa,ca,oe,ce,rfl,hi5,HR,HL,HS⟩:=hrel;clear H1
  by_cases hin:i<K
  case neg =>
   obtain rfl:i=K:=by have:=hi5.out;omega
   have k1:decide ((i:Int)<(i:Int))=false:=dF (by omega);obtain ⟨rfl,rfl⟩:o=ro/\st=rs:=by
    have h9:=HE.out;change Mk.rep i conF ⟨[],[]⟩ s1=(ro,rs) at h9;rw [HR.out] at h9;simpa using h9
   have b0:=HS.out.oblk.cell 0;have b1:=HS.out.oblk.cell 1;have q0:=HS.out.rblk.cell 0;have q1:=HS.out.rblk.cell 1;have g0:=HS.out.rblk.frozen 0;have g1:=HS.out.rblk.frozen 1;have HRB2:=Hi ((HS.out.rblk.set 0 (.slice oa o.pts.length ca)).set 1 (.slice oe o.ends.length ce));go_wp2_with fail;have HS2:=HS.out;have h3:=HS2.ord;have r0:=HRB2.out.cell 0;have r1:=HRB2.out.cell 1;have hp:SRows 3 SPoint (fun b=>w.heap.size+2<=b) wr (.slice oa o.pts.length ca) o.pts:=HS2.pts.done (by decide) SPoint.weak (noBl_weak _) (fun b hb=>(HS2.pts.lt b hb).1);have hq:SRows 1 SInt (fun b=>w.heap.size+2<=b) wr (.slice oe o.ends.length ce) o.ends:=HS2.ends.done (by decide) SInt.weak (noBl_weak _) (fun b hb=>(HS2.ends.lt b hb).1);have hp2:=((hp.same SPoint.stay (SameB.set wr (p:=⟨rb,0,none⟩) (by simp;omega) (.slice oa o.pts.length ca))).same SPoint.stay (SameB.set _ (p:=⟨rb,1,none⟩) (by simp;omega) (.slice oe o.ends.length ce))).weak (by decide) SPoint.weak (S':=fun b=>w.heap.size<=b) (fun b _ h=>by omega);have hq2:=((hq.same SInt.stay (SameB.set wr (p:=⟨rb,0,none⟩) (by simp;omega) (.slice oa o.pts.length ca))).same SInt.stay (SameB.set _ (p:=⟨rb,1,none⟩) (by simp;omega) (.slice oe o.ends.length ce))).weak (by decide) SInt.weak (S':=fun b=>w.heap.size<=b) (fun b _ h=>by omega)
   exact bodyPost_ret (v:=.agg #[.slice oa o.pts.length ca,.slice oe o.ends.length ce]) (by simp [results,Tryz.results80,go_sem,r0,r1]) rfl ⟨[.slice oa o.pts.length ca,.slice oe o.ends.length ce],rfl,⟨_,_,rfl,hp2,hq2⟩,(HS2.mkr.set (p:=⟨rb,0,none⟩) (by show m<rb;omega) _).set (p:=⟨rb,1,none⟩) (by show m<rb;omega) _,
    (HS2.mod.setNew (p:=⟨rb,0,none⟩) (by show w.heap.size<=rb;omega) _).setNew (p:=⟨rb,1,none⟩) (by show w.heap.size<=rb;omega) _⟩
  have k1:decide ((i:Int)<(K:Int))=true:=dT (by omega);have k2:(i:Int)<(K:Int):=by omega
  have ei:IntKind.i64.wrap ((i:Int)+1)=(i:Int)+1:=wrapi (by omega) (by have:=HK0.out;omega);obtain ⟨kk,st1,hk⟩:∃ a b,Mk.next 4 st=(a,b):=⟨_,_,rfl⟩
  have CK:=Hi (C1.out st kk st1 4 (by decide) (by decide) hk wr HS.out.mkr);have ik:=next_in (by decide) hk;obtain ⟨q,hq⟩:∃ q:Nat,2+kk=(q:Int):=⟨(2+kk).toNat,by omega⟩
  have ek:IntKind.i64.wrap (2+kk)=(q:Int):=by rw [wrapi (by omega) (by omega)];exact hq
  have hq5:q<=5/\2<=q:=by omega
  obtain ⟨pts,st2,hpts⟩:∃ a b,Mk.rep q ptF o.pts st1=(a,b):=⟨_,_,rfl⟩
  have HC:Hid (Mk.contour o st=(⟨pts,o.ends++[(pts.length:Int) - 1]⟩,st2)):=Mk.contour_eq hk (by rw [hq,Int.toNat_natCast];exact hpts);have HIN:=Hi hin;have HP:=Hi hpts;have HQ:=Hi hq5;clear hk ik hq hpts hin hq5;go_wp2_with fail;refine CK.out.mono ?_;rintro e w2 ⟨rfl,K2,M2⟩;have HS2:=Hi (HS.out.call K2 M2);clear K2 M2 HS CK;go_wp2_with fail;generalize gk=G at *
  go_loopg [7] q (fun gj p7 ws=>∃ (p:Nat) (L:List DPoint) (su:Mk.S) (oa:Option Addr) (ca:Nat),p7=.int .i64 (p:Int)/\Hid (p+gj=q)/\Hid (Mk.rep p ptF o.pts st1=(L,su))/\Hid (L.length=o.pts.length+p)/\Hid (OutSt w m sv l f rb ob su ⟨L,o.ends⟩ (.slice oa L.length ca) (.slice oe o.ends.length ce) ws))
  case atStart=>exact ⟨0,o.pts,st1,oa,ca,rfl,by show 0+q=q;omega,rfl,rfl,HS2.out⟩
  case round =>
   obtain ⟨p,L,su,oa,ca,rfl,hp5,HR2,HL2,HS⟩:=hrel;clear HS2
   by_cases hpq:p<q
   case neg =>
    obtain rfl:p=q:=by have:=hp5.out;omega
    have k3:decide ((p:Int)<(p:Int))=false:=dF (by omega);obtain ⟨rfl,rfl⟩:L=pts/\su=st2:=by have h9:=HP.out;rw [HR2.out] at h9;simpa using h9
    have b0:=HS.out.oblk.cell 0;have b1:=HS.out.oblk.cell 1;have g1:=HS.out.oblk.frozen 1;have e3:IntKind.i64.wrap ((L.length:Int) - 1)=(L.length:Int) - 1:=wrapi (by omega) (by have:=HL2.out;have:=HL.out.1;have:=HQ.out.1;have:=HK0.out;have:=HIN.out;omega);have hm0:=(Mod.refl [] wr).alloc (.cells #[.int .i64 ((L.length:Int) - 1)] 3);have HS3:=Hi (OutSt.stays _ _ HS.out hm0);clear hm0 HS;go_wp2_with (at_builtin;refine wpList_push (k:=1) (e:=3) (base:=w.heap.size+2) (l:=o.ends) (l':=[(L.length:Int) - 1]) rfl _ _ 22 rfl i0 _ 8 Tryz.underlying22 hi hz0 hz1 hz2 rfl (by decide) SInt.stay SInt.weak rfl HS3.out.ends ⟨wr.heap.size,0,none⟩ _ _ [encInt ((L.length:Int) - 1)] rfl rfl (Elems.one rfl ⟨rfl,?_⟩) ?_ (encInt_one [(L.length:Int) - 1]) ?_ ?_ ?_ ?_)
    ·exact I64.of (by omega) (by have:=HL2.out;have:=HL.out.1;have:=HQ.out.1;have:=HK0.out;have:=HIN.out;omega)
    ·exact fun j u hu=>blk_news (Blk.new wr #[.int .i64 ((L.length:Int) - 1)] 3) rfl hu
    ·have h4:=HL.out.2;have h5:=HK0.out;have h6:=HIN.out;unfold maxLen;simp;omega
    ·have h4:=HL.out.2;have h5:=HK0.out;have h6:=HIN.out;simp;omega
    ·have h6:=HS3.out.oblk.lt;have:=HS3.out.ord;omega
    intro v' w4 hG hgr _;obtain ⟨oe',ce',rfl⟩:=hG.form;have hne:(o.ends++[(L.length:Int) - 1]).length=o.ends.length+1:=by simp
    rw [hne] at hG;have HNE:=Hi hne;clear hne;have HS4:=Hi (HS3.out.pushE hG hgr);have g1':w4.frozen? ⟨ob,1,none⟩=false:=(HS3.out.oblk.grew hgr (fun hk=>by have:=(HS3.out.ends.lt _ hk).1;have:=HS3.out.ord;omega)).frozen 1;have g1c:w4.cell? ⟨ob,1,none⟩=some (.slice oe o.ends.length ce):=(HS3.out.oblk.grew hgr (fun hk=>by have:=(HS3.out.ends.lt _ hk).1;have:=HS3.out.ord;omega)).cell 1;clear hG hgr HS3 g1 b0 b1;go_wp2;go_roundg (G - 1)
    case measure=>have:=hi5.out;omega
    case rel =>
     refine ⟨i+1,⟨L,o.ends++[(L.length:Int) - 1]⟩,su,oa,ca,oe',ce',by rw [Int.natCast_add];rfl,?_,?_,?_,by show OutSt w m sv l f rb ob su _ _ (.slice oe' (o.ends++[(L.length:Int) - 1]).length ce') _;rw [HNE.out];exact HS4.out⟩
     ·have:=hi5.out;have:=HIN.out;show i+1+(G - 1)=K;omega
     ·show Mk.rep (i+1) conF ⟨[],[]⟩ s1=_;rw [Mk.rep_next HR.out];exact HC.out
     ·have h1:=HL.out;have h2:=HL2.out;have h3:=HQ.out;refine ⟨?_,?_⟩
      ·show L.length<=5*(i+1);omega
      ·show (o.ends++[(L.length:Int) - 1]).length=i+1;rw [List.length_append];simp;omega
   have k3:decide ((p:Int)<(q:Int))=true:=dT (by omega);have k4:(p:Int)<(q:Int):=by omega
   have e4:IntKind.i64.wrap ((p:Int)+1)=(p:Int)+1:=wrapi (by omega) (by have:=HQ.out.1;omega);obtain ⟨x,t1,hx⟩:∃ a b,Mk.next 21 su=(a,b):=⟨_,_,rfl⟩
   obtain ⟨y,t2,hy⟩:∃ a b,Mk.next 21 t1=(a,b):=⟨_,_,rfl⟩
   have ix:=next_in (by decide) hx;have iy:=next_in (by decide) hy;have x1:IntKind.i64.wrap (x*50)=x*50:=wrapi (by omega) (by omega);have x2:IntKind.i64.wrap (x*50 - 100)=x*50 - 100:=wrapi (by omega) (by omega);have y1:IntKind.i64.wrap (y*50)=y*50:=wrapi (by omega) (by omega);have y2:IntKind.i64.wrap (y*50 - 200)=y*50 - 200:=wrapi (by omega) (by omega);have CX:=Hi (C1.out su x t1 21 (by decide) (by decide) hx);have CY:=Hi (C1.out t1 y t2 21 (by decide) (by decide) hy);have HXY:Hid (I64 (x*50 - 100)/\I64 (y*50 - 200)):=⟨I64.of (by omega) (by omega),I64.of (by omega) (by omega)⟩
   have B0:∀ W,Mod [m] wr W->W.cell? ⟨ob,0,none⟩=some (.slice oa L.length ca):=fun W k=>(HS.out.oblk.kept k (by have:=HS.out.ord;simp;omega)).cell 0
   have HPQ:=Hi hpq;clear ix iy hpq;go_upto_region 10 with fail
   by_cases hp0:p=0
   ·subst hp0;have HD:Hid (ptF 0 L su=(L++[⟨x*50 - 100,y*50 - 200,true⟩],t2)):=by unfold ptF Mk.point;rw [Mk.bind_eq hx,Mk.bind_eq hy];rfl
    clear hx hy;refine Sw.wp_region_sw (I:=Mod [m] wr) (F0:=OutSt w m sv l f rb ob su ⟨L,o.ends⟩ (.slice oa L.length ca) (.slice oe o.ends.length ce)) (fun _ _ h k=>h.then (k.more (by simp))) 19 [(0,none),(1,none),(2,none),(6,none),(10,none),(11,none),(3,some (Rg.Know (OutSt w m sv l f rb ob t1 ⟨L,o.ends⟩ (.slice oa L.length ca) (.slice oe o.ends.length ce)) (.int .i64 x))),(4,none),(5,none),(7,some (Rg.Know (OutSt w m sv l f rb ob t2 ⟨L,o.ends⟩ (.slice oa L.length ca) (.slice oe o.ends.length ce)) (.int .i64 y))),(8,none),(9,none),(12,none),(13,none),(14,none),(15,none),(16,none),(17,none),(18,some (NewAnd wr.heap.size #[.int .i64 (x*50 - 100),.int .i64 (y*50 - 200),.bool true] 97 1 (OutSt w m sv l f rb ob t2 ⟨L,o.ends⟩ (.slice oa L.length ca) (.slice oe o.ends.length ce))))] (by kernel_rfl) (by kernel_rfl) (Sq.nodup_of (by kernel_rfl)) ?hTS213 (mR.drew) OutSt.stays (OutSt.stays _ _ HS.out (mR.drew)) ?mainS213
    case hTS213 =>
     intro p hp T hT v;simp only [List.mem_cons,List.not_mem_nil,or_false] at hp;rcases hp with rfl | rfl | rfl | rfl | rfl | rfl | rfl | rfl | rfl | rfl | rfl | rfl | rfl | rfl | rfl | rfl | rfl | rfl | rfl <;> first | (cases hT;done) | (cases hT;first | exact NewAnd.stays OutSt.stays _ | exact Rg.know_stays OutSt.stays _ _)
    iterate 6 refine Sw.vv (w0:=wr.drew) (mR.drew) ?_
    refine Sw.xx (fun w' hw' hF K Q hK=>?_) (fun kv hkv=>?_)
    ·go_wp2_with fail;refine (CX.out w' hF.mkr).mono ?_;rintro e w'' ⟨rfl,K',M'⟩;go_wp2;exact hK _ _ (hw'.then M') ⟨rfl,hF.call K' M'⟩
    obtain ⟨_,_,rfl,_⟩:=hkv
    iterate 2 refine Sw.vv (w0:=wr.drew) (mR.drew) ?_
    refine Sw.xx (fun w' hw' hF K Q hK=>?_) (fun kv hkv=>?_)
    ·go_wp2_with fail;refine (CY.out w' hF.2.mkr).mono ?_;rintro e w'' ⟨rfl,K',M'⟩;go_wp2;exact hK _ _ (hw'.then M') ⟨rfl,hF.2.call K' M'⟩
    obtain ⟨_,_,rfl,_⟩:=hkv
    iterate 3 refine Sw.vv (w0:=wr.drew) (mR.drew) ?_
    refine Sw.p_go rfl (by kernel_rfl) (by simp only [Act.put];(try simp only [List.setIfInBounds_toArray]);(try simp only [List.set_cons_succ,List.set_cons_zero]);exact rfl) ?_;refine Sw.p_go rfl (by kernel_rfl) (by simp only [Act.put];(try simp only [List.setIfInBounds_toArray]);(try simp only [List.set_cons_succ,List.set_cons_zero]);exact rfl) ?_;refine Sw.p_go rfl (by kernel_rfl) (by simp only [Act.put];(try simp only [List.setIfInBounds_toArray]);(try simp only [List.set_cons_succ,List.set_cons_zero]);exact rfl) ?_
    iterate 2 refine Sw.vv (w0:=wr.drew) (mR.drew) ?_
    refine Sw.xx (fun w' hw' hF K Q hK=>?_) (fun kv hkv=>?_)
    ·go_wp2;exact hK _ _ (hw'.alloc _) ⟨⟨_,rfl,hw'.size,Blk.new _ _ _⟩,OutSt.stays _ _ hF.2 (mR.alloc _)⟩
    obtain ⟨_,_,⟨nb,rfl,hnb,_⟩,_⟩:=hkv;refine Sw.nil_go ?_;intro w' hw' hF;simp only [qS,qZ];obtain ⟨⟨b2,he2,-,hB⟩,hO⟩:=hF;cases he2;have HB:=Hi hB;have HO:=Hi hO;clear hB hO hw' B0 HS CX CY;go_wp2_with (at_builtin;refine wpList_push (k:=3) (e:=97) (base:=w.heap.size+2) (l:=L) (l':=[⟨x*50 - 100,y*50 - 200,true⟩]) rfl _ _ 38 rfl p0 _ 24 Tryz.underlying38 pi pz0 pz1 pz2 rfl (by decide) SPoint.stay SPoint.weak rfl HO.out.pts ⟨nb,0,none⟩ _ _ [encPt ⟨x*50 - 100,y*50 - 200,true⟩] rfl rfl (Elems.one rfl ⟨rfl,HXY.out⟩) (fun j u hu=>blk_news HB.out rfl hu) (by simp [encPt,Value.oneCell']) ?_ ?_ ?_ ?_)
    ·have h4:=HL2.out;have h5:=HK0.out;have h6:=HIN.out;have h7:=HL.out.1;have h8:=HQ.out;have h9:=HPQ.out;unfold maxLen;simp;omega
    ·have h4:=HL2.out;have h5:=HK0.out;have h6:=HIN.out;have h7:=HL.out.1;have h8:=HQ.out;have h9:=HPQ.out;simp;omega
    ·have h6:=HO.out.oblk.lt;have:=HO.out.ord;omega
    intro v' w4 hG hgr _;obtain ⟨oa',ca',rfl⟩:=hG.form;have hnl:(L++[(⟨x*50 - 100,y*50 - 200,true⟩:DPoint)]).length=L.length+1:=by simp
    rw [hnl] at hG;have HNL:=Hi hnl;clear hnl;have HS4:=Hi (HO.out.pushP hG hgr);have g0':w4.frozen? ⟨ob,0,none⟩=false:=(HO.out.oblk.grew hgr (fun hk=>by have:=(HO.out.pts.lt _ hk).1;have:=HO.out.ord;omega)).frozen 0;have g0c:w4.cell? ⟨ob,0,none⟩=some (.slice oa L.length ca):=(HO.out.oblk.grew hgr (fun hk=>by have:=(HO.out.pts.lt _ hk).1;have:=HO.out.ord;omega)).cell 0;clear hG hgr HO HB;go_wp2;go_roundg (gk - 1)
    case measure=>have:=hp5.out;omega
    case rel =>
     refine ⟨0+1,L++[⟨x*50 - 100,y*50 - 200,true⟩],t2,oa',ca',by rw [Int.natCast_add];rfl,?_,?_,?_,by show OutSt w m sv l f rb ob t2 _ (.slice oa' (L++[(⟨x*50 - 100,y*50 - 200,true⟩:DPoint)]).length ca') _ _;rw [HNL.out];exact HS4.out⟩
     ·have:=hp5.out;have:=HPQ.out;show 0+1+(gk - 1)=q;omega
     ·show Mk.rep (0+1) ptF o.pts st1=_;rw [Mk.rep_next HR2.out];exact HD.out
     ·have h1:=HL2.out;show (L++[(⟨x*50 - 100,y*50 - 200,true⟩:DPoint)]).length=o.pts.length+(0+1);rw [List.length_append];simp;omega
   ·obtain ⟨z,t3,hz⟩:∃ a b,Mk.next 4 t2=(a,b):=⟨_,_,rfl⟩
    have CZ:=Hi (C1.out t2 z t3 4 (by decide) (by decide) hz);have HD:Hid (ptF p L su=(L++[⟨x*50 - 100,y*50 - 200,decide (0<z)⟩],t3)):=by unfold ptF Mk.point;rw [Mk.bind_eq hx,Mk.bind_eq hy,if_neg hp0,Mk.bind_eq hz];rfl
    have kp:¬ (p:Int)=0:=by omega
    have kp2:decide ((p:Int)=0)=false:=dF kp;have kp3:((p:Int) == 0)=false:=beq_false_of_ne kp;clear hx hy hz hp0;refine Sw.wp_region_sw (I:=Mod [m] wr) (F0:=OutSt w m sv l f rb ob su ⟨L,o.ends⟩ (.slice oa L.length ca) (.slice oe o.ends.length ce)) (fun _ _ h k=>h.then (k.more (by simp))) 19 [(0,none),(1,none),(2,none),(6,none),(10,none),(11,none),(3,some (Rg.Know (OutSt w m sv l f rb ob t1 ⟨L,o.ends⟩ (.slice oa L.length ca) (.slice oe o.ends.length ce)) (.int .i64 x))),(4,none),(5,none),(7,some (Rg.Know (OutSt w m sv l f rb ob t2 ⟨L,o.ends⟩ (.slice oa L.length ca) (.slice oe o.ends.length ce)) (.int .i64 y))),(8,none),(9,none),(12,none),(13,none),(14,some (Rg.Know (OutSt w m sv l f rb ob t3 ⟨L,o.ends⟩ (.slice oa L.length ca) (.slice oe o.ends.length ce)) (.int .i64 z))),(15,none),(16,none),(17,none),(18,some (NewAnd wr.heap.size #[.int .i64 (x*50 - 100),.int .i64 (y*50 - 200),.bool (decide (0<z))] 97 1 (OutSt w m sv l f rb ob t3 ⟨L,o.ends⟩ (.slice oa L.length ca) (.slice oe o.ends.length ce))))] (by kernel_rfl) (by kernel_rfl) (Sq.nodup_of (by kernel_rfl)) ?hTS343 (mR.drew) OutSt.stays (OutSt.stays _ _ HS.out (mR.drew)) ?mainS343
    case hTS343 =>
     intro p hp T hT v;simp only [List.mem_cons,List.not_mem_nil,or_false] at hp;rcases hp with rfl | rfl | rfl | rfl | rfl | rfl | rfl | rfl | rfl | rfl | rfl | rfl | rfl | rfl | rfl | rfl | rfl | rfl | rfl <;> first | (cases hT;done) | (cases hT;first | exact NewAnd.stays OutSt.stays _ | exact Rg.know_stays OutSt.stays _ _)
    iterate 6 refine Sw.vv (w0:=wr.drew) (mR.drew) ?_
    refine Sw.xx (fun w' hw' hF K Q hK=>?_) (fun kv hkv=>?_)
    ·go_wp2_with fail;refine (CX.out w' hF.mkr).mono ?_;rintro e w'' ⟨rfl,K',M'⟩;go_wp2;exact hK _ _ (hw'.then M') ⟨rfl,hF.call K' M'⟩
    obtain ⟨_,_,rfl,_⟩:=hkv
    iterate 2 refine Sw.vv (w0:=wr.drew) (mR.drew) ?_
    refine Sw.xx (fun w' hw' hF K Q hK=>?_) (fun kv hkv=>?_)
    ·go_wp2_with fail;refine (CY.out w' hF.2.mkr).mono ?_;rintro e w'' ⟨rfl,K',M'⟩;go_wp2;exact hK _ _ (hw'.then M') ⟨rfl,hF.2.call K' M'⟩
    obtain ⟨_,_,rfl,_⟩:=hkv
    iterate 4 refine Sw.vv (w0:=wr.drew) (mR.drew) ?_
    refine Sw.xx (fun w' hw' hF K Q hK=>?_) (fun kv hkv=>?_)
    ·go_wp2_with fail;refine (CZ.out w' hF.2.mkr).mono ?_;rintro e w'' ⟨rfl,K',M'⟩;go_wp2;exact hK _ _ (hw'.then M') ⟨rfl,hF.2.call K' M'⟩
    obtain ⟨_,_,rfl,_⟩:=hkv
    iterate 3 refine Sw.vv (w0:=wr.drew) (mR.drew) ?_
    refine Sw.xx (fun w' hw' hF K Q hK=>?_) (fun kv hkv=>?_)
    ·go_wp2;exact hK _ _ (hw'.alloc _) ⟨⟨_,rfl,hw'.size,Blk.new _ _ _⟩,OutSt.stays _ _ hF.2 (mR.alloc _)⟩
    obtain ⟨_,_,⟨nb,rfl,hnb,_⟩,_⟩:=hkv;refine Sw.nil_go ?_;intro w' hw' hF;simp only [qS,qZ];obtain ⟨⟨b2,he2,-,hB⟩,hO⟩:=hF;cases he2;have HB:=Hi hB;have HO:=Hi hO;clear hB hO hw' B0 HS CX CY CZ;go_wp2_with (at_builtin;refine wpList_push (k:=3) (e:=97) (base:=w.heap.size+2) (l:=L) (l':=[⟨x*50 - 100,y*50 - 200,decide (0<z)⟩]) rfl _ _ 38 rfl p0 _ 24 Tryz.underlying38 pi pz0 pz1 pz2 rfl (by decide) SPoint.stay SPoint.weak rfl HO.out.pts ⟨nb,0,none⟩ _ _ [encPt ⟨x*50 - 100,y*50 - 200,decide (0<z)⟩] rfl rfl (Elems.one rfl ⟨rfl,HXY.out⟩) (fun j u hu=>blk_news HB.out rfl hu) (by simp [encPt,Value.oneCell']) ?_ ?_ ?_ ?_)
    ·have h4:=HL2.out;have h5:=HK0.out;have h6:=HIN.out;have h7:=HL.out.1;have h8:=HQ.out;have h9:=HPQ.out;unfold maxLen;simp;omega
    ·have h4:=HL2.out;have h5:=HK0.out;have h6:=HIN.out;have h7:=HL.out.1;have h8:=HQ.out;have h9:=HPQ.out;simp;omega
    ·have h6:=HO.out.oblk.lt;have:=HO.out.ord;omega
    intro v' w4 hG hgr _;obtain ⟨oa',ca',rfl⟩:=hG.form;have hnl:(L++[(⟨x*50 - 100,y*50 - 200,decide (0<z)⟩:DPoint)]).length=L.length+1:=by simp
    rw [hnl] at hG;have HNL:=Hi hnl;clear hnl;have HS4:=Hi (HO.out.pushP hG hgr);have g0':w4.frozen? ⟨ob,0,none⟩=false:=(HO.out.oblk.grew hgr (fun hk=>by have:=(HO.out.pts.lt _ hk).1;have:=HO.out.ord;omega)).frozen 0;have g0c:w4.cell? ⟨ob,0,none⟩=some (.slice oa L.length ca):=(HO.out.oblk.grew hgr (fun hk=>by have:=(HO.out.pts.lt _ hk).1;have:=HO.out.ord;omega)).cell 0;clear hG hgr HO HB;go_wp2;go_roundg (gk - 1)
    case measure=>have:=hp5.out;omega
    case rel =>
     refine ⟨p+1,L++[⟨x*50 - 100,y*50 - 200,decide (0<z)⟩],t3,oa',ca',by rw [Int.natCast_add];rfl,?_,?_,?_,by show OutSt w m sv l f rb ob t3 _ (.slice oa' (L++[(⟨x*50 - 100,y*50 - 200,decide (0<z)⟩:DPoint)]).length ca') _ _;rw [HNL.out];exact HS4.out⟩
     ·have:=hp5.out;have:=HPQ.out;show p+1+(gk - 1)=q;omega
     ·show Mk.rep (p+1) ptF o.pts st1=_;rw [Mk.rep_next HR2.out];exact HD.out
     ·have h1:=HL2.out;show (L++[(⟨x*50 - 100,y*50 - 200,decide (0<z)⟩:DPoint)]).length=o.pts.length+(p+1);rw [List.length_append];simp;omega
def gC (nm:ByteArray) (adv:Int) (mk:Bool) (vp ve vr va vd vh:Value):Array Value:=#[.string nm,.int .i64 adv,.bool mk,vp,ve,vr,va,vd,vh]
structure GlRows (S:Bl) (w:World) (g:DGlyph) (vp ve vr va vd vh:Value):Prop where
 pts:SRows 3 SPoint S w vp g.pts
 ends:SRows 1 SInt S w ve g.ends
 parts:SRows 3 SPart S w vr g.parts
 anch:SRows 4 SAnchor S w va g.anchors
 delt:SRows 4 SDelta S w vd g.deltas
 hint:SRows 2 SIns S w vh g.hint
section
variable {S S':Bl} {w w':World} {g:DGlyph} {vp ve vr va vd vh:Value}
theorem GlRows.same (h:GlRows S w g vp ve vr va vd vh) (m:SameB S w w'):GlRows S w' g vp ve vr va vd vh:=⟨h.pts.same SPoint.stay m,h.ends.same SInt.stay m,h.parts.same SPart.stay m,h.anch.same SAnchor.stay m,h.delt.same SDelta.stay m,h.hint.same SIns.stay m⟩
theorem GlRows.weak (h:GlRows S w g vp ve vr va vd vh) (k:∀ b,b<w.heap.size->S b->S' b):GlRows S' w g vp ve vr va vd vh:=⟨h.pts.weak (by decide) SPoint.weak k,h.ends.weak (by decide) SInt.weak k,h.parts.weak (by decide) SPart.weak k,h.anch.weak (by decide) SAnchor.weak k,h.delt.weak (by decide) SDelta.weak k,h.hint.weak (by decide) SIns.weak k⟩
end
structure GlSt (W:World) (m:Nat) (sv:Value) (l:List Int) (f:MF) (gb B:Nat) (s:Mk.S) (c:Array Value) (g:DGlyph) (vp ve vr va vd vh:Value) (w:World):Prop where
 mkr:MK m sv l f s w
 mod:Mod [m] W w
 blk:Blk w gb c 46
 rows:GlRows (fun b=>gb<b/\b<B) w g vp ve vr va vd vh
 ord:m<W.heap.size/\W.heap.size<=gb/\gb<B/\B<=w.heap.size
section
variable {W:World} {m:Nat} {sv:Value} {l:List Int} {f:MF} {gb B B':Nat} {s s':Mk.S} {c:Array Value} {g:DGlyph} {vp ve vr va vd vh u:Value} {w w':World}
theorem GlSt.stays:Stays (GlSt W m sv l f gb B s c g vp ve vr va vd vh):=fun w w' h k =>
 ⟨MK.stays _ _ h.mkr k,h.mod.then (k.more (by simp)),h.blk.kept k (by simp),h.rows.same (k.same0 _),h.ord.1,h.ord.2.1,h.ord.2.2.1,nT h.ord.2.2.2 k.size⟩
theorem GlSt.call (h:GlSt W m sv l f gb B s c g vp ve vr va vd vh w) (k:MK m sv l f s' w') (k2:Mod [m] w w'):GlSt W m sv l f gb B s' c g vp ve vr va vd vh w':=by
 have h1:=h.ord;exact ⟨k,h.mod.then k2,h.blk.kept k2 (by simp;omega),h.rows.same (k2.sameB (by intro x hx hs;simp at hx;omega)),h1.1,h1.2.1,h1.2.2.1,nT h1.2.2.2 k2.size⟩
theorem GlSt.set (h:GlSt W m sv l f gb B s c g vp ve vr va vd vh w) (i:Nat) (x:Value):GlSt W m sv l f gb B s (c.setIfInBounds i x) g vp ve vr va vd vh (w.setCell ⟨gb,i,none⟩ x):=by
 have h1:=h.ord;exact ⟨h.mkr.set (by show m<gb;omega) _,h.mod.setNew (p:=⟨gb,i,none⟩) (by show W.heap.size<=gb;omega) _,h.blk.set i x,h.rows.same (SameB.set w (by simp) _),h1.1,h1.2.1,h1.2.2.1,by simpa using h1.2.2.2⟩
theorem GlSt.grown (h:GlSt W m sv l f gb B s c g vp ve vr va vd vh w) (k:w.grownBy w' u.ownBlock) (hu:∀ b,u.ownBlock=some b->B<=b):GlSt W m sv l f gb B s c g vp ve vr va vd vh w':=by
 have h1:=h.ord;exact ⟨h.mkr.grown k fun b hb=>by have:=hu b hb;omega,h.mod.grew k fun b hb=>by have:=hu b hb;omega,h.blk.grew k fun hb=>by have:=hu _ hb;omega,h.rows.same (SameB.grown k fun b hb hs=>by have:=hu b hb;omega),h1.1,h1.2.1,h1.2.2.1,nT h1.2.2.2 k.size⟩
theorem GlSt.up (h:GlSt W m sv l f gb B s c g vp ve vr va vd vh w) (h1:B<=B') (h2:B'<=w.heap.size):GlSt W m sv l f gb B' s c g vp ve vr va vd vh w :=
 ⟨h.mkr,h.mod,h.blk,h.rows.weak fun b _ hb=>⟨hb.1,by omega⟩,h.ord.1,h.ord.2.1,by have:=h.ord;omega,h2⟩
theorem GlSt.gcell (h:GlSt W m sv l f gb B s c g vp ve vr va vd vh w) {w':World} (k:Mod [m] w w') (i:Nat):w'.cell? ⟨gb,i,none⟩=c[i]?:=by
 have h1:=h.ord;exact (h.blk.kept k (by simp;omega)).cell i
end
section
variable {W:World} {m:Nat} {sv:Value} {l:List Int} {f:MF} {gb B:Nat} {s:Mk.S} {c:Array Value} {g:DGlyph} {vp ve vr va vd vh u v:Value} {w:World}
theorem doneS {α:Type} {k:Nat} {e:TypeId} {R:Bl->World->List Value->α->Prop} {ps:List α} (hk:0<k) (hW:SWeak R) (h1:gb<B) (hG:Grow B e k R (fun _=>False) v ps w):SRows k R (fun b=>gb<b/\b<w.heap.size) w v ps :=
 hG.done hk hW (fun _ _ h=>h.elim) fun b hb=>by have:=hG.lt b hb;omega
theorem GlSt.partsDone {ps:List DPart} (h:GlSt W m sv l f gb B s c g vp ve u va vd vh w) (hG:Grow B 69 3 SPart (fun _=>False) v ps w):GlSt W m sv l f gb w.heap.size s c { g with parts:=ps } vp ve v va vd vh w:=by
 have h1:=h.up h.ord.2.2.2 (nR _);exact ⟨h1.mkr,h1.mod,h1.blk,⟨h1.rows.pts,h1.rows.ends,doneS (by decide) SPart.weak h.ord.2.2.1 hG,h1.rows.anch,h1.rows.delt,h1.rows.hint⟩,h1.ord⟩
theorem GlSt.anchDone {ps:List DAnchor} (h:GlSt W m sv l f gb B s c g vp ve vr u vd vh w) (hG:Grow B 145 4 SAnchor (fun _=>False) v ps w):GlSt W m sv l f gb w.heap.size s c { g with anchors:=ps } vp ve vr v vd vh w:=by
 have h1:=h.up h.ord.2.2.2 (nR _);exact ⟨h1.mkr,h1.mod,h1.blk,⟨h1.rows.pts,h1.rows.ends,h1.rows.parts,doneS (by decide) SAnchor.weak h.ord.2.2.1 hG,h1.rows.delt,h1.rows.hint⟩,h1.ord⟩
theorem GlSt.deltDone {ps:List DDelta} (h:GlSt W m sv l f gb B s c g vp ve vr va u vh w) (hG:Grow B 147 4 SDelta (fun _=>False) v ps w):GlSt W m sv l f gb w.heap.size s c { g with deltas:=ps } vp ve vr va v vh w:=by
 have h1:=h.up h.ord.2.2.2 (nR _);exact ⟨h1.mkr,h1.mod,h1.blk,⟨h1.rows.pts,h1.rows.ends,h1.rows.parts,h1.rows.anch,doneS (by decide) SDelta.weak h.ord.2.2.1 hG,h1.rows.hint⟩,h1.ord⟩
theorem GlSt.lps (h:GlSt W m sv l f gb B s c g vp ve vr va vd vh w) (x:Int) (h0:0<=x) (h1:x<=1000000):GlSt W m sv l f gb B ⟨s.r,x⟩ c g vp ve vr va vd vh (w.setCell ⟨m,11,none⟩ (.int .i64 x)):=by
 have h2:=h.ord;refine ⟨⟨h.mkr.blk.set 11 _,h.mkr.num.same SInt.stay (SameB.set w (by simp) _),h.mkr.suf,h0,h1⟩,h.mod.setCell (p:=⟨m,11,none⟩) (fun _=>by simp) _,h.blk.other (by show m≠gb;omega) _,h.rows.same (SameB.set w (by simp;omega) _),h2.1,h2.2.1,h2.2.2.1,by simpa using h2.2.2.2⟩
theorem GlSt.hintDone {ps:List DIns} {s':Mk.S} {w':World} (h:GlSt W m sv l f gb B s c g vp ve vr va vd u w) (k:MK m sv l f s' w') (k2:Mod [m] w w') (hS:SRows 2 SIns (fun b=>w.heap.size<=b) w' v ps):GlSt W m sv l f gb w'.heap.size s' c { g with hint:=ps } vp ve vr va vd v w':=by
 have h1:=(h.call k k2)
 have h2:=h1.up h1.ord.2.2.2 (nR _);have h3:=h.ord;exact ⟨h2.mkr,h2.mod,h2.blk,⟨h2.rows.pts,h2.rows.ends,h2.rows.parts,h2.rows.anch,h2.rows.delt,hS.weak (by decide) SIns.weak fun b h4 h5=>⟨by omega,h4⟩⟩,h2.ord⟩
end
theorem GlSt.putN {W:World} {m:Nat} {sv:Value} {l:List Int} {f:MF} {gb B:Nat} {s:Mk.S} {g:DGlyph} {vp ve vr va vd vh:Value}:∀ (vs:List Value) (i:Nat) (c:Array Value) (w:World),GlSt W m sv l f gb B s c g vp ve vr va vd vh w->GlSt W m sv l f gb B s (putN c i vs) g vp ve vr va vd vh (setN w gb i vs)
 | [],_,_,_,h=>h
 | v::r,i,c,w,h=>GlSt.putN r (i+1) _ _ (h.set i v)
theorem GlSt.over {W:World} {m:Nat} {sv:Value} {l:List Int} {f:MF} {gb B:Nat} {s:Mk.S} {c:Array Value} {g:DGlyph} {vp ve vr va vd vh:Value} {w:World} (h:GlSt W m sv l f gb B s c g vp ve vr va vd vh w) (vs:List Value) (hl:vs.length=c.size):GlSt W m sv l f gb B s vs.toArray g vp ve vr va vd vh (setN w gb 0 vs):=by
 have:=GlSt.putN vs 0 c w h;rwa [putN_all vs c hl] at this
structure AnSt (W:World) (m:Nat) (sv:Value) (l:List Int) (f:MF) (gb B:Nat) (c:Array Value) (g:DGlyph) (vp ve vr va vd vh:Value) (kb:Nat) (kc:Array Value) (kt:TypeId) (vz:Value) (L:List DAnchor) (s:Mk.S) (w:World):Prop where
 gl:GlSt W m sv l f gb B s c g vp ve vr va vd vh w
 gr:Grow B 145 4 SAnchor (fun _=>False) vz L w
 kbl:Blk w kb kc kt
 lt:gb<kb/\kb<B
section
variable {W:World} {m:Nat} {sv:Value} {l:List Int} {f:MF} {gb B:Nat} {c:Array Value} {g:DGlyph} {vp ve vr va vd vh:Value} {kb:Nat} {kc:Array Value} {kt:TypeId} {vz:Value} {L:List DAnchor} {s s':Mk.S} {w w':World}
theorem AnSt.stays:Stays (AnSt W m sv l f gb B c g vp ve vr va vd vh kb kc kt vz L s):=fun w w' h k=>⟨GlSt.stays _ _ h.gl k,h.gr.mod SAnchor.stay k,h.kbl.kept k (by simp),h.lt⟩
theorem AnSt.call (h:AnSt W m sv l f gb B c g vp ve vr va vd vh kb kc kt vz L s w) (k:MK m sv l f s' w') (k2:Mod [m] w w'):AnSt W m sv l f gb B c g vp ve vr va vd vh kb kc kt vz L s' w':=by
 have h1:=h.gl.ord;have h2:=h.lt;exact ⟨h.gl.call k k2,h.gr.keptB SAnchor.stay k2 (by simp;omega) (fun _ h=>h.elim),h.kbl.kept k2 (by simp;omega),h.lt⟩
theorem AnSt.kcell (h:AnSt W m sv l f gb B c g vp ve vr va vd vh kb kc kt vz L s w) (k:Mod [m] w w') (i:Nat):w'.cell? ⟨kb,i,none⟩=kc[i]?:=by
 have h1:=h.gl.ord;have h2:=h.lt;exact (h.kbl.kept k (by simp;omega)).cell i
theorem AnSt.push {d:DAnchor} {v':Value} (h:AnSt W m sv l f gb B c g vp ve vr va vd vh kb kc kt vz L s w) (hG:Grow B 145 4 SAnchor (fun _=>False) v' (L++[d]) w') (k:w.grownBy w' vz.ownBlock):AnSt W m sv l f gb B (c.setIfInBounds 6 v') g vp ve vr va vd vh kb kc kt v' (L++[d]) s (w'.setCell ⟨gb,6,none⟩ v'):=by
 have h1:=h.gl.ord;have h2:=h.lt;refine ⟨(h.gl.grown k fun b hb=>(h.gr.lt b hb).1).set 6 v',hG.set SAnchor.stay (fun hb=>by have h9:B<=gb:=(hG.lt _ hb).1;omega) (fun h=>h) _,(h.kbl.grew k fun hb=>by have:=(h.gr.lt _ hb).1;omega).other (by show gb≠kb;omega) _,h.lt⟩
end
structure DeSt (W:World) (m:Nat) (sv:Value) (l:List Int) (f:MF) (gb B:Nat) (c:Array Value) (g:DGlyph) (vp ve vr va vd vh:Value) (vz:Value) (L:List DDelta) (s:Mk.S) (w:World):Prop where
 gl:GlSt W m sv l f gb B s c g vp ve vr va vd vh w
 gr:Grow B 147 4 SDelta (fun _=>False) vz L w
section
variable {W:World} {m:Nat} {sv:Value} {l:List Int} {f:MF} {gb B:Nat} {c:Array Value} {g:DGlyph} {vp ve vr va vd vh:Value} {vz:Value} {L:List DDelta} {s s':Mk.S} {w w':World}
theorem DeSt.stays:Stays (DeSt W m sv l f gb B c g vp ve vr va vd vh vz L s):=fun w w' h k=>⟨GlSt.stays _ _ h.gl k,h.gr.mod SDelta.stay k⟩
theorem DeSt.call (h:DeSt W m sv l f gb B c g vp ve vr va vd vh vz L s w) (k:MK m sv l f s' w') (k2:Mod [m] w w'):DeSt W m sv l f gb B c g vp ve vr va vd vh vz L s' w':=by
 have h1:=h.gl.ord;exact ⟨h.gl.call k k2,h.gr.keptB SDelta.stay k2 (by simp;omega) (fun _ h=>h.elim)⟩
theorem DeSt.push {d:DDelta} {v':Value} (h:DeSt W m sv l f gb B c g vp ve vr va vd vh vz L s w) (hG:Grow B 147 4 SDelta (fun _=>False) v' (L++[d]) w') (k:w.grownBy w' vz.ownBlock):DeSt W m sv l f gb B (c.setIfInBounds 7 v') g vp ve vr va vd vh v' (L++[d]) s (w'.setCell ⟨gb,7,none⟩ v'):=by
 have h1:=h.gl.ord;exact ⟨(h.gl.grown k fun b hb=>(h.gr.lt b hb).1).set 7 v',hG.set SDelta.stay (fun hb=>by have h9:B<=gb:=(hG.lt _ hb).1;omega) (fun h=>h) _⟩
end
theorem letter_conv {w:World} {b n:Nat} (h:Blk w b #[.int .u8 ((97+n:Nat):Int)] 5) (hn:n<100):(convert 74 9 (.slice (some ⟨b,0,none⟩) 1 1)).run Tryz.prog w=.ok (.string (Mk.letter n)) w :=
 conv_bytes (P:=Tryz.prog) w 74 9 5 ⟨b,0,none⟩ 1 [UInt8.ofNat (97+n)] (by kernel_rfl) (by kernel_rfl) (by kernel_rfl) fun j u hj=>by
  have e1:(⟨b,0,none⟩:Addr).add j=⟨b,j,none⟩:=by unfold Addr.add;split <;> simp_all
  rw [e1,h.cell]
  match j,hj with
  | 0,hj =>
   simp at hj;subst hj;simp [bcell];omega
def encIns (d:DIns):List Value:=[.int .i64 d.op,.int .i64 d.a]
def NewIns (B:Nat) (l:List DIns) (v:Value) (w:World):Prop:=∃ b,v=.slice (some ⟨b,0,none⟩) l.length l.length/\B<=b/\Blk w b (l.flatMap encIns).toArray 48
theorem piece_at (m:Nat) (sv:Value) (l:List Int) (f:MF) (s:Mk.S) (n funcs:Int) (hn:0<=n) (hn1:n<=100000) (hf:0<=funcs) (hf1:funcs<=100000) {rl:List DIns} {rs:Mk.S} (he:Mk.piece n funcs s=(rl,rs)) (w:World) (h:MK m sv l f s w) :
  Calls Tryz.prog 79 #[.pointer (some ⟨m,0,none⟩),.int .i64 n,.int .i64 funcs] w fun e w'=>∃ v,e=.returned v/\NewIns w.heap.size rl v w'/\MK m sv l f rs w'/\Mod [m] w w':=by
 obtain ⟨p,s1,h1⟩:∃ a b,Mk.next (n+1) s=(a,b):=⟨_,_,rfl⟩
 obtain ⟨q,s2,h2⟩:∃ a b,Mk.next (n+1) s1=(a,b):=⟨_,_,rfl⟩
 obtain ⟨a,s3,h3⟩:∃ a b,Mk.next 2 s2=(a,b):=⟨_,_,rfl⟩
 obtain ⟨c,s4,h4⟩:∃ a b,Mk.next 12 s3=(a,b):=⟨_,_,rfl⟩
 unfold Mk.piece at he;rw [Mk.bind_eq h1,Mk.bind_eq h2,Mk.bind_eq h3,Mk.bind_eq h4] at he;have C1:=Hi (next_at m sv l f s (n+1) (by omega) (by omega) h1 w h);have C2:=Hi (next_at m sv l f s1 (n+1) (by omega) (by omega) h2);have C3:=Hi (next_at m sv l f s2 2 (by omega) (by omega) h3);have C4:=Hi (next_at m sv l f s3 12 (by omega) (by omega) h4);have i4:=next_in (by omega) h4;have HE:=Hi he;have ei:IntKind.i64.wrap (n+1)=n+1:=IntWalk.i64_in _ (by omega);have HN:=Hi hn1;have HF:=Hi hf1;clear h1 h2 h3 h4 he h hn1 hf1;go_enter Tryz.func79,Tryz.ntmps79;go_wp2_with fail;refine C1.out.mono ?_;rintro e w1 ⟨rfl,K1,M1⟩;go_wp2_with fail;refine (C2.out w1 K1).mono ?_;rintro e w2 ⟨rfl,K2,M2⟩;go_wp2_with fail;refine (C3.out w2 K2).mono ?_;rintro e w3 ⟨rfl,K3,M3⟩;go_wp2_with fail;refine (C4.out w3 K3).mono ?_;rintro e w4 ⟨rfl,K4,M4⟩;have HK:=Hi K4;have HM:=Hi (((M1.then M2).then M3).then M4);clear C1 C2 C3 C4 K1 K2 K3 K4 M1 M2 M3 M4;have hc:c=0∨c=1∨c=2∨c=3∨c=4∨c=5∨c=6∨c=7∨c=8∨c=9∨c=10∨c=11:=by omega
 clear i4;rcases hc with rfl | rfl | rfl | rfl | rfl | rfl | rfl | rfl | rfl | rfl | rfl | rfl
 ·
  obtain ⟨rfl,rfl⟩:[⟨22,a⟩,⟨23,a⟩]=rl/\s4=rs:=by simpa [Mk.pieceC,Mk.rest] using HE.out
  go_wp2;go_ret;exact ⟨_,rfl,⟨_,rfl,HM.out.size,Blk.new _ _ _⟩,MK.stays _ _ HK.out (mR.alloc _),HM.out.alloc _⟩
 ·
  obtain ⟨x,s5,h5⟩:∃ a b,Mk.next 6 s4=(a,b):=⟨_,_,rfl⟩
  have C5:=Hi (next_at m sv l f s4 6 (by decide) (by decide) h5 w4 HK.out);have i5:=next_in (by decide) h5;obtain ⟨rfl,rfl⟩:[⟨24,x⟩]=rl/\s5=rs:=by
   have h9:=HE.out;simpa [Mk.pieceC,Mk.bind_eq h5] using h9
  clear h5;go_wp2_with fail;refine C5.out.mono ?_;rintro e w5 ⟨rfl,K5,M5⟩;have HK5:=Hi K5;have HM5:=Hi (HM.out.then M5);clear K5 M5 C5 HM HK i5;go_wp2;go_ret;exact ⟨_,rfl,⟨_,rfl,HM5.out.size,Blk.new _ _ _⟩,MK.stays _ _ HK5.out (mR.alloc _),HM5.out.alloc _⟩
 ·
  obtain ⟨rfl,rfl⟩:[⟨1,p⟩,⟨1,p⟩,⟨29,0⟩,⟨15,0⟩,⟨32,0⟩]=rl/\s4=rs:=by simpa [Mk.pieceC,Mk.rest] using HE.out
  go_wp2;go_ret;exact ⟨_,rfl,⟨_,rfl,HM.out.size,Blk.new _ _ _⟩,MK.stays _ _ HK.out (mR.alloc _),HM.out.alloc _⟩
 ·
  obtain ⟨rfl,rfl⟩:[⟨1,p⟩,⟨1,p⟩,⟨29,0⟩,⟨15,0⟩,⟨32,0⟩]=rl/\s4=rs:=by simpa [Mk.pieceC,Mk.rest] using HE.out
  go_wp2;go_ret;exact ⟨_,rfl,⟨_,rfl,HM.out.size,Blk.new _ _ _⟩,MK.stays _ _ HK.out (mR.alloc _),HM.out.alloc _⟩
 ·
  obtain ⟨x,s5,h5⟩:∃ a b,Mk.next 200 s4=(a,b):=⟨_,_,rfl⟩
  have C5:=Hi (next_at m sv l f s4 200 (by decide) (by decide) h5 w4 HK.out);have i5:=next_in (by decide) h5;obtain ⟨rfl,rfl⟩:[⟨1,p⟩,⟨1,x - 100⟩,⟨31,0⟩]=rl/\s5=rs:=by
   have h9:=HE.out;simpa [Mk.pieceC,Mk.bind_eq h5] using h9
  have e5:IntKind.i64.wrap (x - 100)=x - 100:=IntWalk.i64_in _ (by omega);clear h5;go_wp2_with fail;refine C5.out.mono ?_;rintro e w5 ⟨rfl,K5,M5⟩;have HK5:=Hi K5;have HM5:=Hi (HM.out.then M5);clear K5 M5 C5 HM HK i5;go_wp2;go_ret;exact ⟨_,rfl,⟨_,rfl,HM5.out.size,Blk.new _ _ _⟩,MK.stays _ _ HK5.out (mR.alloc _),HM5.out.alloc _⟩
 ·
  obtain ⟨rfl,rfl⟩:[⟨1,p⟩,⟨1,q⟩,⟨33,0⟩]=rl/\s4=rs:=by simpa [Mk.pieceC,Mk.rest] using HE.out
  go_wp2;go_ret;exact ⟨_,rfl,⟨_,rfl,HM.out.size,Blk.new _ _ _⟩,MK.stays _ _ HK.out (mR.alloc _),HM.out.alloc _⟩
 ·
  obtain ⟨rfl,rfl⟩:[⟨34,a⟩]=rl/\s4=rs:=by simpa [Mk.pieceC,Mk.rest] using HE.out
  go_wp2;go_ret;exact ⟨_,rfl,⟨_,rfl,HM.out.size,Blk.new _ _ _⟩,MK.stays _ _ HK.out (mR.alloc _),HM.out.alloc _⟩
 ·
  obtain ⟨rfl,rfl⟩:[⟨1,a⟩,⟨1,q⟩,⟨25,0⟩,⟨1,3⟩,⟨5,0⟩,⟨26,0⟩]=rl/\s4=rs:=by simpa [Mk.pieceC,Mk.rest] using HE.out
  go_wp2;go_ret;exact ⟨_,rfl,⟨_,rfl,HM.out.size,Blk.new _ _ _⟩,MK.stays _ _ HK.out (mR.alloc _),HM.out.alloc _⟩
 ·
  by_cases hfz:0<funcs
  ·have HFZ:=Hi hfz;obtain ⟨x,s5,h5⟩:∃ a b,Mk.next funcs s4=(a,b):=⟨_,_,rfl⟩
   have C5:=Hi (next_at m sv l f s4 funcs (by omega) (by have:=HF.out;omega) h5 w4 HK.out);have i5:=next_in (by omega) h5;obtain ⟨rfl,rfl⟩:[⟨37,x⟩]=rl/\s5=rs:=by
    have h9:=HE.out;simpa [Mk.pieceC,Mk.bind_eq h5,HFZ.out] using h9
   clear h5;go_wp2_with fail;refine C5.out.mono ?_;rintro e w5 ⟨rfl,K5,M5⟩;have HK5:=Hi K5;have HM5:=Hi (HM.out.then M5);clear K5 M5 C5 HM HK i5;go_wp2;go_ret;exact ⟨_,rfl,⟨_,rfl,HM5.out.size,Blk.new _ _ _⟩,MK.stays _ _ HK5.out (mR.alloc _),HM5.out.alloc _⟩
  ·have HFZ:=Hi hfz;obtain ⟨rfl,rfl⟩:[⟨39,0⟩,⟨1,16⟩,⟨17,0⟩,⟨36,2⟩,⟨1,q⟩,⟨2,0⟩]=rl/\s4=rs:=by
    have h9:=HE.out;simpa [Mk.pieceC,Mk.rest,HFZ.out] using h9
   go_wp2;go_ret;exact ⟨_,rfl,⟨_,rfl,HM.out.size,Blk.new _ _ _⟩,MK.stays _ _ HK.out (mR.alloc _),HM.out.alloc _⟩
 ·
  have b3:∀ W,Mod [] w4 W->W.cell? ⟨m,11,none⟩=some (.int .i64 s4.lp):=fun W k=>(MK.stays _ _ HK.out k).blk.cell 11
  have f3:w4.frozen? ⟨m,11,none⟩=false:=HK.out.blk.frozen 11;have b4:=b3 w4 mR
  by_cases hfz:0<funcs
  ·have HFZ:=Hi hfz
   by_cases hlp:0<s4.lp
   ·have HLP:=Hi hlp;have h0:=HK.out.lp0;have h1:=HK.out.lp1;have e6:IntKind.i64.wrap (s4.lp - 1)=s4.lp - 1:=IntWalk.i64_in _ (by omega);have HK4:Hid (MK m sv l f ⟨s4.r,s4.lp - 1⟩ (w4.setCell ⟨m,11,none⟩ (.int .i64 (s4.lp - 1)))):=⟨HK.out.blk.set 11 _,HK.out.num.same SInt.stay (SameB.set w4 (by simp) _),HK.out.suf,by show (0:Int)<=s4.lp - 1;omega,by show s4.lp - 1<=1000000;omega⟩
    have HM4:=Hi (HM.out.setCell (p:=⟨m,11,none⟩) (fun _=>by simp) (.int .i64 (s4.lp - 1)));obtain ⟨x,s5,h5⟩:∃ a b,Mk.next 5 ⟨s4.r,s4.lp - 1⟩=(a,b):=⟨_,_,rfl⟩
    obtain ⟨y,s6,h6⟩:∃ a b,Mk.next funcs s5=(a,b):=⟨_,_,rfl⟩
    have C5:=Hi (next_at m sv l f _ 5 (by decide) (by decide) h5);have C6:=Hi (next_at m sv l f _ funcs (by omega) (by have:=HF.out;omega) h6);obtain ⟨rfl,rfl⟩:[⟨1,x⟩,⟨38,y⟩]=rl/\s6=rs:=by
     have h9:=HE.out;simpa [Mk.pieceC,HFZ.out,HLP.out,Mk.bind_eq h5,Mk.bind_eq h6] using h9
    clear h5 h6 h0 h1 b3 HM HK;go_wp2_with fail;refine (C5.out _ HK4.out).mono ?_;rintro e w5 ⟨rfl,K5,M5⟩;have HK5:=Hi K5;have HM5:=Hi (HM4.out.then M5);clear K5 M5 C5 HM4 HK4;go_wp2_with fail;refine (C6.out _ HK5.out).mono ?_;rintro e w6 ⟨rfl,K6,M6⟩;have HK6:=Hi K6;have HM6:=Hi (HM5.out.then M6);clear K6 M6 C6 HM5 HK5;go_wp2;go_ret;exact ⟨_,rfl,⟨_,rfl,HM6.out.size,Blk.new _ _ _⟩,MK.stays _ _ HK6.out (mR.alloc _),HM6.out.alloc _⟩
   ·have HLP:=Hi hlp;obtain ⟨rfl,rfl⟩:[⟨39,0⟩,⟨1,16⟩,⟨17,0⟩,⟨36,2⟩,⟨1,q⟩,⟨2,0⟩]=rl/\s4=rs:=by
     have h9:=HE.out;simpa [Mk.pieceC,Mk.rest,HLP.out] using h9
    go_wp2;go_ret;exact ⟨_,rfl,⟨_,rfl,HM.out.size,Blk.new _ _ _⟩,MK.stays _ _ HK.out (mR.alloc _),HM.out.alloc _⟩
  ·have HFZ:=Hi hfz;obtain ⟨rfl,rfl⟩:[⟨39,0⟩,⟨1,16⟩,⟨17,0⟩,⟨36,2⟩,⟨1,q⟩,⟨2,0⟩]=rl/\s4=rs:=by
    have h9:=HE.out;simpa [Mk.pieceC,Mk.rest,HFZ.out] using h9
   go_wp2;go_ret;exact ⟨_,rfl,⟨_,rfl,HM.out.size,Blk.new _ _ _⟩,MK.stays _ _ HK.out (mR.alloc _),HM.out.alloc _⟩
 ·
  obtain ⟨rfl,rfl⟩:[⟨1,p⟩,⟨30,0⟩,⟨1,q⟩,⟨29,0⟩,⟨16,0⟩,⟨36,3⟩,⟨1,q⟩,⟨1,64⟩,⟨31,0⟩]=rl/\s4=rs:=by simpa [Mk.pieceC,Mk.rest] using HE.out
  go_wp2;go_ret;exact ⟨_,rfl,⟨_,rfl,HM.out.size,Blk.new _ _ _⟩,MK.stays _ _ HK.out (mR.alloc _),HM.out.alloc _⟩
 ·
  obtain ⟨rfl,rfl⟩:[⟨39,0⟩,⟨1,16⟩,⟨17,0⟩,⟨36,2⟩,⟨1,q⟩,⟨2,0⟩]=rl/\s4=rs:=by simpa [Mk.pieceC,Mk.rest] using HE.out
  go_wp2;go_ret;exact ⟨_,rfl,⟨_,rfl,HM.out.size,Blk.new _ _ _⟩,MK.stays _ _ HK.out (mR.alloc _),HM.out.alloc _⟩
theorem ite_all {α:Type} (P:α->Prop) {c:Prop} [Decidable c] {x y:α} (h1:c->P x) (h2:¬ c->P y):P (if c then x else y):=by
 split
 ·rename_i h;exact h1 h
 ·rename_i h;exact h2 h
theorem Mk.pieceC_len (p q a funcs c:Int) (s:Mk.S):(Mk.pieceC p q a funcs c s).1.length<=9/\0<(Mk.pieceC p q a funcs c s).1.length:=by
 unfold Mk.pieceC
 repeat' refine ite_all (fun r:List DIns×Mk.S=>r.1.length<=9/\0<r.1.length) (fun _=>?_) (fun _=>?_)
 all_goals simp [Mk.bind,Mk.rest]
theorem Mk.piece_len (n funcs:Int) (s:Mk.S):(Mk.piece n funcs s).1.length<=9/\0<(Mk.piece n funcs s).1.length:=Mk.pieceC_len _ _ _ _ _ _
theorem Mk.piece_I64 (n funcs:Int) (s:Mk.S) (hn:0<=n) (hn1:n<=100000) (hf:0<=funcs) (hf1:funcs<=100000):∀ d∈(Mk.piece n funcs s).1,1<=d.op/\d.op<=39/\-100000<=d.a/\d.a<=100000:=by
 obtain ⟨p,s1,h1⟩:∃ a b,Mk.next (n+1) s=(a,b):=⟨_,_,rfl⟩
 obtain ⟨q,s2,h2⟩:∃ a b,Mk.next (n+1) s1=(a,b):=⟨_,_,rfl⟩
 obtain ⟨a,s3,h3⟩:∃ a b,Mk.next 2 s2=(a,b):=⟨_,_,rfl⟩
 obtain ⟨c,s4,h4⟩:∃ a b,Mk.next 12 s3=(a,b):=⟨_,_,rfl⟩
 have i1:=next_in (by omega) h1;have i2:=next_in (by omega) h2;have i3:=next_in (by omega) h3;unfold Mk.piece;rw [Mk.bind_eq h1,Mk.bind_eq h2,Mk.bind_eq h3,Mk.bind_eq h4];clear h1 h2 h3 h4;have k6:=Mk.next_ge 6 s4 (by omega);have k6':=Mk.next_lt 6 s4 (by omega);have k2:=Mk.next_ge 200 s4 (by omega);have k2':=Mk.next_lt 200 s4 (by omega);have k5:=Mk.next_ge 5 ⟨s4.r,s4.lp - 1⟩ (by omega);have k5':=Mk.next_lt 5 ⟨s4.r,s4.lp - 1⟩ (by omega);have kf:0<funcs->∀ s,0<=(Mk.next funcs s).1/\(Mk.next funcs s).1<funcs:=fun h s=>⟨Mk.next_ge funcs s h,Mk.next_lt funcs s h⟩
 unfold Mk.pieceC
 repeat' refine ite_all (fun r:List DIns×Mk.S=>∀ d∈r.1,1<=d.op/\d.op<=39/\-100000<=d.a/\d.a<=100000) (fun _=>?_) (fun _=>?_)
 all_goals simp only [Mk.bind,Mk.rest,List.forall_mem_cons,List.not_mem_nil,false_implies,implies_true,and_true]
 all_goals try omega
 ·rename_i h1;have:=kf h1 s4;omega
 ·rename_i h1;have:=kf h1.1 (Mk.next 5 ⟨s4.r,s4.lp - 1⟩).2;omega
theorem encIns_elems {B:Bl} {w:World}:∀ {l:List DIns},(∀ d∈l,I64 d.op/\I64 d.a)->Elems 2 SIns B w (l.map encIns) l:=by
 intro l h;refine ⟨by simp,fun i h1 h2=>?_⟩;rw [List.getElem_map];exact ⟨rfl,rfl,(h _ (List.getElem_mem h2)).1,(h _ (List.getElem_mem h2)).2⟩
theorem encIns_one:∀ (l:List DIns),∀ u∈(l.map encIns).flatten,u.oneCell'=true:=by
 intro l u hu;rw [flat_map,List.mem_flatMap] at hu;obtain ⟨d,_,hd⟩:=hu;simp [encIns] at hd;rcases hd with rfl | rfl <;> rfl
def hintF (n funcs:Int):Nat->List DIns->Mk.M (List DIns):=fun _ l s=>Mk.bind (Mk.piece n funcs s) fun x s=>(l++x,s)
theorem Mk.hint_eq {n funcs most k:Int} {s s1:Mk.S} (h:Mk.next most s=(k,s1)):Mk.hint n funcs most s=Mk.rep k.toNat (hintF n funcs) [] s1:=by unfold Mk.hint;rw [Mk.bind_eq h];rfl
theorem hint_at (m:Nat) (sv:Value) (l:List Int) (f:MF) (s:Mk.S) (n funcs most:Int) (hn:0<=n) (hn1:n<=100000) (hf:0<=funcs) (hf1:funcs<=100000) (hm:0<most) (hm1:most<=1000) {rl:List DIns} {rs:Mk.S} (he:Mk.hint n funcs most s=(rl,rs)) (w:World) (h:MK m sv l f s w) :
  Calls Tryz.prog 20 #[.pointer (some ⟨m,0,none⟩),.int .i64 n,.int .i64 funcs,.int .i64 most] w fun e w'=>∃ v,e=.returned v/\SRows 2 SIns (fun b=>w.heap.size<=b) w' v rl/\MK m sv l f rs w'/\Mod [m] w w':=by
 obtain ⟨k,s1,h1⟩:∃ a b,Mk.next most s=(a,b):=⟨_,_,rfl⟩
 rw [Mk.hint_eq h1] at he;have C1:=Hi (next_at m sv l f s most hm (by omega) h1 w h);have i1:=next_in hm h1;obtain ⟨K,rfl⟩:∃ K:Nat,k=K:=⟨k.toNat,by omega⟩
 have hK:K<1000:=by omega
 have HK0:=Hi hK;rw [Int.toNat_natCast] at he;have HE:=Hi he;have CP:=Hi (fun st x st' e=>piece_at m sv l f st n funcs hn hn1 hf hf1 (rl:=x) (rs:=st') e);have CI:=Hi (fun st=>Mk.piece_I64 n funcs st hn hn1 hf hf1);have hmw:m<w.heap.size:=h.blk.lt;have HMW:=Hi hmw;clear h1 he h i1 hn hn1 hf hf1 hm hm1 hmw hK;obtain ⟨i0,hi,hz0,hz1,hz2⟩:=info_parts inf_Ins;go_enter Tryz.func20,Tryz.ntmps20;go_wp2_with fail;refine C1.out.mono ?_;rintro e w1 ⟨rfl,K1,M1⟩;have HK:=Hi K1;have HM:=Hi M1;clear K1 M1 C1;go_wp2_with fail
 go_loopg [9,11] K (fun gk v9 i11 wr=>∃ (i:Nat) (L:List DIns) (st:Mk.S) (oa:Option Addr) (cap:Nat),v9=.slice oa L.length cap/\i11=.int .i64 (i:Int)/\Hid (i+gk=K)/\Hid (Mk.rep i (hintF n funcs) [] s1=(L,st))/\Hid (L.length<=9*i)/\Hid (MK m sv l f st wr/\Mod [m] w wr/\Grow w.heap.size 48 2 SIns (fun _=>False) v9 L wr))
 case atStart=>exact ⟨0,[],s1,none,0,rfl,rfl,by show 0+K=K;omega,rfl,nR _,HK.out,HM.out,Grow.nil⟩
 case round =>
  obtain ⟨i,L,st,oa,cap,rfl,rfl,hi5,HR,HL,HS⟩:=hrel;clear HK HM
  by_cases hin:i<K
  case neg =>
   obtain rfl:i=K:=by have:=hi5.out;omega
   have k1:decide ((i:Int)<(i:Int))=false:=dF (by omega);obtain ⟨rfl,rfl⟩:L=rl/\st=rs:=by have h9:=HE.out;rw [HR.out] at h9;simpa using h9
   go_wp2;go_ret;exact ⟨_,rfl,HS.out.2.2.done (by decide) SIns.weak (noBl_weak _) (fun b hb=>(HS.out.2.2.lt b hb).1),HS.out.1,HS.out.2.1⟩
  have k1:decide ((i:Int)<(K:Int))=true:=dT (by omega);have k2:(i:Int)<(K:Int):=by omega
  have ei:IntKind.i64.wrap ((i:Int)+1)=(i:Int)+1:=IntWalk.i64_in _ (by have:=HK0.out;omega);obtain ⟨x,st',hx⟩:∃ a b,Mk.piece n funcs st=(a,b):=⟨_,_,rfl⟩
  have HX:=Hi hx;have CX:=Hi (CP.out st x st' hx wr HS.out.1);have HIN:=Hi hin;clear hx hin;go_wp2_with fail;refine CX.out.mono ?_;rintro e w2 ⟨v,rfl,⟨b,rfl,hb,hB⟩,K2,M2⟩;have hg2:Grow w.heap.size 48 2 SIns (fun _=>False) (.slice oa L.length cap) L w2:=HS.out.2.2.keptB SIns.stay M2 (by simpa using HMW.out) (by simp);have HG:=Hi hg2;have HK2:=Hi K2;have HM2:=Hi (HS.out.2.1.then M2);have HB:=Hi hB;have HC:=Hi (CI.out st);have HN:=Hi (Mk.piece_len n funcs st);rw [HX.out] at HC HN;clear hg2 K2 M2 hB HS CX hb;go_wp2_with (at_builtin;refine wpList_push (k:=2) (e:=48) (base:=w.heap.size) (l:=L) (l':=x) rfl _ _ 44 rfl i0 _ 16 Tryz.underlying44 hi hz0 hz1 hz2 rfl (by decide) SIns.stay SIns.weak rfl HG.out ⟨b,0,none⟩ _ _ (x.map encIns) rfl rfl (encIns_elems fun d hd=>?_) ?_ (encIns_one x) ?_ ?_ ?_ ?_)
  ·have:=HC.out d hd;exact ⟨I64.of (by omega) (by omega),I64.of (by omega) (by omega)⟩
  ·exact fun j u hu=>blk_news HB.out (by rw [flat_map]) hu
  ·have h1:=HL.out;have h2:=HN.out.1;have h3:=HK0.out;have h4:=HIN.out;unfold maxLen;omega
  ·have h1:=HL.out;have h2:=HN.out.1;have h3:=HK0.out;have h4:=HIN.out;omega
  ·exact HM2.out.size
  intro v' w3 hG hgr _;obtain ⟨oa',c',rfl⟩:=hG.form;have HS3:Hid (MK m sv l f st' w3/\Mod [m] w w3/\Grow w.heap.size 48 2 SIns (fun _=>False) (.slice oa' (L++x).length c') (L++x) w3):=by
   have hlt:=HG.out.lt;refine ⟨HK2.out.grown hgr fun g hg=>?_,HM2.out.grew hgr fun g hg=>(hlt g hg).1,hG⟩;have:=(hlt g hg).1;have:=HMW.out;omega
  clear hG hgr HG HK2 HM2 HB HC;go_wp2;go_roundg (gk - 1)
  case measure=>have:=hi5.out;omega
  case rel =>
   refine ⟨i+1,L++x,st',oa',c',rfl,by rw [Int.natCast_add];rfl,?_,?_,?_,HS3.out⟩
   ·have:=hi5.out;have:=HIN.out;show i+1+(gk - 1)=K;omega
   ·show Mk.rep (i+1) (hintF n funcs) [] s1=_;rw [Mk.rep_next HR.out];unfold hintF;rw [Mk.bind_eq HX.out]
   ·have h1:=HL.out;have h2:=HN.out.1;show (L++x).length<=9*(i+1);rw [List.length_append];omega
def gz:DGlyph:=⟨ByteArray.empty,0,false,[],[],[],[],[],[]⟩
def anK (c:Int) (i:Nat):Int×Int:=[(1,0),(1,1),(3,0),(4,0),(2,c)].getD i (0,0)
def anC (c:Int):Array Value:=#[.int .i64 1,.int .i64 0,.int .i64 1,.int .i64 1,.int .i64 3,.int .i64 0,.int .i64 4,.int .i64 0,.int .i64 2,.int .i64 c]
def anF (c:Int) (mark:Bool):Nat->List DAnchor->Mk.M (List DAnchor):=fun i l s=>Mk.bind (Mk.next 3 s) fun z s =>
 if z=0/\((anK c i).1≠2∨mark=true) then Mk.bind (Mk.next 21 s) fun x s=>Mk.bind (Mk.next 21 s) fun y s=>(l++[⟨(anK c i).1,(anK c i).2,x*50,y*50 - 200⟩],s) else (l,s)
theorem anC_at (c:Int) (i:Nat) (h:i<5):(anC c)[i*2]?=some (.int .i64 (anK c i).1)/\(anC c)[i*2+1]?=some (.int .i64 (anK c i).2):=by
 match i,h with
 | 0,_=>exact ⟨rfl,rfl⟩
 | 1,_=>exact ⟨rfl,rfl⟩
 | 2,_=>exact ⟨rfl,rfl⟩
 | 3,_=>exact ⟨rfl,rfl⟩
 | 4,_=>exact ⟨rfl,rfl⟩
theorem anK_I64 (c:Int) (hc:I64 c) (i:Nat):I64 (anK c i).1/\I64 (anK c i).2:=by
 match i with
 | 0=>show I64 1/\I64 0;exact ⟨by unfold I64;omega,by unfold I64;omega⟩
 | 1=>show I64 1/\I64 1;exact ⟨by unfold I64;omega,by unfold I64;omega⟩
 | 2=>show I64 3/\I64 0;exact ⟨by unfold I64;omega,by unfold I64;omega⟩
 | 3=>show I64 4/\I64 0;exact ⟨by unfold I64;omega,by unfold I64;omega⟩
 | 4=>show I64 2/\I64 c;exact ⟨by unfold I64;omega,hc⟩
 | n+5=>show I64 0/\I64 0;exact ⟨by unfold I64;omega,by unfold I64;omega⟩
abbrev nilV:Value:=.slice none 0 0
theorem oneS {α:Type} {k:Nat} {R:Bl->World->List Value->α->Prop} {S:Bl} {w:World} {v:Value} {l:List α} (h:SRows k R S w v l):v.oneCell'=true:=by
 obtain ⟨_,_,rfl,_⟩:=h.form;rfl
theorem oper_push {P:Program} {α:Type} {base k:Nat} {e:TypeId} {R:Bl->World->List Value->α->Prop} {S:Bl} {l l':List α} {v:Value} {w:World} {o:Oper} {a:Act} {K:Act->World->Prop} {Q:Exit->Act->World->Prop} (hgd:o.guard=none) (s x:Operand) (t:TypeId)
  (ho:o.op=.call { callee:=.builtin .append,args:=#[s,x],argTypes:=#[t,t] })
  (i:TypeInfo) (z:Value) (bytes:Nat) (ht:P.underlying t=some (.slice e)) (hi:P.info? e=some i) (hz:i.zero=some z)
  (hsize:i.size=k) (hby:i.bytes=bytes) (hzs:z.cells.size=k) (hsz:0<k)
  (hR:SStay R) (hW:SWeak R) (hs:a.eval s=v) (h:Grow base e k R S v l w)
  (ad:Addr) (m c:Nat) (css':List (List Value)) (hx:a.eval x=.slice (some ad) m c) (hm:m=l'.length) (hE:Elems k R (fun b=>S b/\v.ownBlock≠some b) w css' l') (hnews:∀ j u,css'.flatten[j]?=some u->w.cell? (ad.add j)=some u) (h1:∀ u∈css'.flatten,u.oneCell'=true)
  (h63:l.length+m<=maxLen) (hbytes:(l.length+m)*bytes<=140737488355328) (hbase:base<=w.heap.size)
  (hK:∀ v' w',Grow base e k R S v' (l++l') w'->w.grownBy w' v.ownBlock->(v'.ownBlock=v.ownBlock∨v'.ownBlock=some w.heap.size)->K (a.put o.dst v') w'):o.wp P a w K Q:=by
 obtain ⟨css,hown,hE0⟩:=id h;have hl:css'.flatten.length=m*k:=by rw [hE.flat,hm]
 obtain ⟨v',w',hr,h2,h3,_⟩:=run_append_own (P:=P) w base t o.type e i z k bytes ht hi hz hsize hby hzs hsz v l.length css.flatten hown ad m c css'.flatten hl hnews h1 h63 hbytes hbase;have hbk:=append_block (P:=P) t o.type e i z k bytes ht hi hz hsize hby hzs v l.length css.flatten hown ad m c css'.flatten hl hnews h1 h63 hbytes hr;have hg:Grow base e k R S v' (l++l') w':=by
  refine h.push hR hW (css':=css') hE (fun xs hxs=>?_) h3 hbk;have:xs=css.flatten:=by
   rcases hown.2 with ⟨rfl,hn⟩ | ⟨g,cap,cur,rfl,_,hg,_,_,_,hq⟩
   ·have h5:=hxs.1;have h6:=hown.1;rw [hn] at h5 h6;have h7:xs=[]:=List.eq_nil_of_length_eq_zero (by simpa using h5);have h8:css.flatten=[]:=List.eq_nil_of_length_eq_zero (by rw [h6];simp);rw [h7,h8]
   ·rcases hxs.2 with ⟨hv,_⟩ | ⟨g',cap',cur',hv,_,hg',_,_,_,hq'⟩
    ·cases hv
    ·cases hv;rw [hg] at hg';cases hg';rw [<- hq,<- hq']
  rw [this,<- hm];exact h2
 unfold Oper.wp execOp;simp only [ho,resolve,invoke,builtin,Sem.run_bind,Sem.run_pure,Result.andThen_ok,List.map_toArray,List.map_cons,List.map_nil,hs,hx,hr];exact hK v' w' hg h3 hbk
def GlPushed (W:World) (m bs:Nat) (sv:Value) (l:List Int) (f:MF) (L:List DGlyph) (s:Mk.S) (v:Value) (w:World):Prop :=
 ∃ (ov:Option Addr) (cv:Nat),v=.slice ov L.length cv/\Grow bs 46 9 SGlyph (fun b=>m<b) v L w/\MK m sv l f s w/\Mod (m::f.gl.ownBlock.toList) W w
theorem GlPushed.stays {W:World} {m bs:Nat} {sv:Value} {l:List Int} {f:MF} {L:List DGlyph} {s:Mk.S} (v:Value):Stays (GlPushed W m bs sv l f L s v):=fun w w' ⟨ov,cv,h0,h1,h2,h3⟩ k=>⟨ov,cv,h0,h1.mod SGlyph.stay k,MK.stays _ _ h2 k,h3.then (k.more (by simp))⟩
theorem GlSt.elem {W:World} {m bs:Nat} {sv:Value} {l:List Int} {f:MF} {gb B:Nat} {s:Mk.S} {c:Array Value} {g:DGlyph} {vp ve vr va vd vh:Value} {w:World} {L:List DGlyph} {nm:ByteArray} {nn:Int} {mk:Bool} (h:GlSt W m sv l f gb B s c g vp ve vr va vd vh w) (hG:Grow bs 46 9 SGlyph (fun b=>m<b) f.gl L W) (hnm:nm.size<=maxLen) (hnn:I64 nn) :
  Elems 9 SGlyph (fun b=>m<b/\f.gl.ownBlock≠some b) w [[.string nm,.int .i64 nn,.bool mk,vp,ve,vr,va,vd,vh]] [⟨nm,nn,mk,g.pts,g.ends,g.parts,g.anchors,g.deltas,g.hint⟩]:=by
 have h1:=h.ord;have h2:=hG.lt;have h3:=h.rows.weak (S':=fun b=>m<b/\f.gl.ownBlock≠some b) fun b _ hb=>⟨by omega,fun he=>by have:=h2 b he;omega⟩
 exact Elems.one rfl ⟨_,_,_,_,_,_,rfl,hnm,hnn,h3.pts,h3.ends,h3.parts,h3.anch,h3.delt,h3.hint⟩
theorem GlSt.one {W:World} {m:Nat} {sv:Value} {l:List Int} {f:MF} {gb B:Nat} {s:Mk.S} {c:Array Value} {g:DGlyph} {vp ve vr va vd vh:Value} {w:World} (nm:ByteArray) (nn:Int) (mk:Bool) (h:GlSt W m sv l f gb B s c g vp ve vr va vd vh w):∀ u∈[[Value.string nm,.int .i64 nn,.bool mk,vp,ve,vr,va,vd,vh]].flatten,u.oneCell'=true:=by
 have h3:=h.rows;intro u hu;simp only [List.flatten_cons,List.flatten_nil,List.append_nil,List.mem_cons,List.not_mem_nil,or_false] at hu;rcases hu with rfl | rfl | rfl | rfl | rfl | rfl | rfl | rfl | rfl
 ·rfl
 ·rfl
 ·rfl
 ·exact oneS h3.pts
 ·exact oneS h3.ends
 ·exact oneS h3.parts
 ·exact oneS h3.anch
 ·exact oneS h3.delt
 ·exact oneS h3.hint
theorem rowLt {N m bs:Nat} {v:Value} {L:List DGlyph} {W:World} (hbs:m<bs/\bs<=N) (hG:Grow bs 46 9 SGlyph (fun b=>m<b) v L W):∀ b,v.ownBlock=some b->m<b:=fun b he=>by
 have h8:=(hG.lt b he).1;omega
theorem rowKept {N m bs:Nat} {v:Value} {L:List DGlyph} {W w:World} (hbs:m<bs/\bs<=N) (hG:Grow bs 46 9 SGlyph (fun b=>m<b) v L W) (k:Mod [m] W w):Grow bs 46 9 SGlyph (fun b=>m<b) v L w :=
 hG.kept SGlyph.stay k (fun b hb he=>by have h7:b=m:=mI.1 hb;have h8:=rowLt hbs hG b he;omega) (fun b hb hs=>by have h7:b=m:=mI.1 hb;omega)
def MkI (m:Nat) (sv:Value) (l:List Int) (f:MF) (w W:World):Prop:=Mod [m] w W/\∃ s,MK m sv l f s W
theorem MkI.then {m:Nat} {sv:Value} {l:List Int} {f:MF} {w:World} (a b:World) (h:MkI m sv l f w a) (k:Mod [] a b):MkI m sv l f w b:=⟨h.1.then (k.more (by simp)),h.2.elim fun s hs=>⟨s,MK.stays _ _ hs k⟩⟩
def GlHint (W:World) (m:Nat) (sv:Value) (l:List Int) (f:MF) (gb:Nat) (s:Mk.S) (c:Array Value) (g:DGlyph) (vp ve vr va vd:Value) (n:Nat) (v:Value) (w:World):Prop:=∃ (oh:Option Addr) (ch B:Nat),v=.slice oh n ch/\GlSt W m sv l f gb B s c g vp ve vr va vd v w
theorem GlHint.stays {W:World} {m:Nat} {sv:Value} {l:List Int} {f:MF} {gb:Nat} {s:Mk.S} {c:Array Value} {g:DGlyph} {vp ve vr va vd:Value} {n:Nat} (v:Value):Stays (GlHint W m sv l f gb s c g vp ve vr va vd n v):=fun w w' ⟨oh,ch,B,h1,h2⟩ k=>⟨oh,ch,B,h1,GlSt.stays _ _ h2 k⟩
theorem Mod.grewOld {F:List Nat} {w a b:World} {row:Option Nat} (h:Mod F w a) (g:a.grownBy b row):Mod (F++row.toList) w b :=
 ⟨g.os.trans h.os,g.tape.trans h.tape,g.output.trans h.output,nT h.size g.size,fun k hk hn=>(g.block k (Nat.lt_of_lt_of_le hk h.size) (fun he=>hn (by simp [<- he]))).trans (h.block k hk (fun hm=>hn (by simp [hm])))⟩
theorem Mod.grewSame {w a b:World} {row:Option Nat} (h:Mod row.toList w a) (g:a.grownBy b row):Mod row.toList w b :=
 ⟨g.os.trans h.os,g.tape.trans h.tape,g.output.trans h.output,nT h.size g.size,fun k hk hn=>(g.block k (Nat.lt_of_lt_of_le hk h.size) (fun he=>hn (by simp [<- he]))).trans (h.block k hk hn)⟩
def deP (r:Nat):Nat->List DDelta->Mk.M (List DDelta):=fun p l s=>Mk.bind (Mk.next 3 s) fun z s=>if z=0 then Mk.bind (Mk.next 41 s) fun x s=>(if p=0 then (l++[⟨r,-1,x - 20,0⟩],s) else Mk.bind (Mk.next 41 s) fun y s=>(l++[⟨r,(p:Int) - 1,x - 20,y - 20⟩],s)) else (l,s)
def deR (pts:Nat):Nat->List DDelta->Mk.M (List DDelta):=fun r l s=>Mk.rep (pts+1) (deP r) l s
theorem Mk.rep_inv {α:Type} {f:Nat->α->Mk.M α} (I:Nat->α->Prop) {a:α} {s:Mk.S} {n:Nat} (h0:I 0 a) (hs:∀ i b s,i<n->I i b->I (i+1) (f i b s).1):I n (Mk.rep n f a s).1:=by
 have:∀ k,k<=n->I k (Mk.rep k f a s).1:=by
  intro k
  induction k with
  | zero=>exact fun _=>h0
  | succ k ih=>intro h;rw [Mk.rep_succ];exact hs k _ _ h (ih (by omega))
 exact this n (nR _)
theorem outline_len (s:Mk.S):(Mk.outline s).1.pts.length<=10:=by
 unfold Mk.outline;have h1:=Mk.next_lt 3 s (by decide);show (Mk.rep (Mk.next 3 s).1.toNat (fun _ o s=>Mk.contour o s) ⟨[],[]⟩ (Mk.next 3 s).2).1.pts.length<=10;have h2:=Mk.rep_inv (f:=fun _ o s=>Mk.contour o s) (a:=⟨[],[]⟩) (s:=(Mk.next 3 s).2) (n:=(Mk.next 3 s).1.toNat) (fun i (o:DOutline)=>o.pts.length<=5*i) (nR _) fun i o s hi h=>by
  unfold Mk.contour Mk.bind;have h3:=Mk.next_lt 4 s (by decide);have h4:=Mk.rep_inv (f:=fun p l s=>((l++[(Mk.point p s).1],(Mk.point p s).2):List DPoint×Mk.S)) (a:=o.pts) (s:=(Mk.next 4 s).2) (n:=(2+(Mk.next 4 s).1).toNat) (fun i (l:List DPoint)=>l.length<=o.pts.length+i) (nR _) fun i l s hi h=>by
   simp;omega
  refine nT h4 ?_;omega
 omega
theorem glyph_at (m bs:Nat) (sv:Value) (l:List Int) (f:MF) (s:Mk.S) (n nr nf:Nat) (hn:n<=20) (hnr:nr<=20) (hnf:nf<=100) {oR oF:Option Addr} {cR cF:Nat} (hrg:f.rg=.slice oR nr cR) (hfn:f.fn=.slice oF nf cF) {L:List DGlyph} (hL:L.length<=100)
  {rg:DGlyph} {rs:Mk.S} (he:Mk.glyph n nr nf s=(rg,rs)) (w:World) (h:MK m sv l f s w) (hbs:m<bs/\bs<=w.heap.size) (hG:Grow bs 46 9 SGlyph (fun b=>m<b) f.gl L w) :
  Calls Tryz.prog 21 #[.pointer (some ⟨m,0,none⟩),.int .i64 (n:Int)] w fun e w'=>∃ v',e=.returned (.tuple #[])/\Grow bs 46 9 SGlyph (fun b=>m<b) v' (L++[rg]) w'/\MK m sv l { f with gl:=v' } rs w'/\Mod (m::f.gl.ownBlock.toList) w w':=by
 have HBS:=Hi hbs;clear hbs;obtain ⟨a,s1,h1⟩:∃ a b,Mk.next 19 s=(a,b):=⟨_,_,rfl⟩
 obtain ⟨k,s2,h2⟩:∃ a b,Mk.next 4 s1=(a,b):=⟨_,_,rfl⟩
 obtain ⟨o,s3,h3⟩:∃ a b,Mk.outline s2=(a,b):=⟨_,_,rfl⟩
 unfold Mk.glyph at he;rw [Mk.bind_eq h1,Mk.bind_eq h2,Mk.bind_eq h3] at he;have i1:=next_in (by decide) h1;have C1:=Hi (next_at m sv l f s 19 (by decide) (by decide) h1);have C2:=Hi (next_at m sv l f s1 4 (by decide) (by decide) h2);have C3:=Hi (outline_at m sv l f s2 h3);have CN:=Hi (fun st x st' n h1 h2 e=>next_at m sv l f st n h1 h2 (r:=x) (s':=st') e);have CH:=Hi (fun st n q st' h1 h2 h3 h4 e=>hint_at m sv l f st n nf 6 h1 h2 h3 h4 (by decide) (by decide) (rl:=q) (rs:=st') e);have a1:IntKind.i64.wrap (a*50)=a*50:=wrapi (by omega) (by omega);have a2:IntKind.i64.wrap (100+a*50)=100+a*50:=wrapi (by omega) (by omega);have n1:IntKind.i64.wrap (97+(n:Int))=97+(n:Int):=wrapi (by omega) (by omega);have n2:IntKind.u8.wrap (97+(n:Int))=97+(n:Int):=by rw [IntKind.wrap_u8];omega
 have HE:=Hi he;have HA:Hid (I64 (100+a*50)):=I64.of (by omega) (by omega);have HPL:Hid (o.pts.length<=10):=by have:=outline_len s2;rw [h3] at this;exact this
 have HN:=Hi (And.intro hn (And.intro hnr hnf));have HRG:=Hi hrg;have HFN:=Hi hfn;have HG0:=Hi hG;have HL:=Hi hL;have HM0:=Hi h;have HMW:=Hi h.blk.lt;clear h1 h2 h3 he i1 hrg hfn hG h hn hnr hnf hL;obtain ⟨p0,pi,pz0,pz1,pz2⟩:=info_parts inf_Part;obtain ⟨aq0,aqi,aqz0,aqz1,aqz2⟩:=info_parts inf_Anchor;obtain ⟨dq0,dqi,dqz0,dqz1,dqz2⟩:=info_parts inf_Delta;obtain ⟨eq0,eqi,eqz0,eqz1,eqz2⟩:=info_parts inf_Glyph;go_enter Tryz.func21,Tryz.ntmps21;go_upto_region 0 with fail;have HIK:∀ w' w'':World,Mod [m] w w'->Mod [] w' w''->Mod [m] w w'':=fun _ _ h k=>h.then (k.more (by simp))
 refine Sa.wp_region_sa (I:=Mod [m] w) (J:=Mod [m]) (F0:=MK m sv l f s) HIK (fun _ _ k=>k.more (by simp)) 15 [(0,Sa.Tok.v),(1,Sa.Tok.v),(2,Sa.Tok.v),(6,Sa.Tok.v),(7,Sa.Tok.x (MK m sv l f s1)),(8,Sa.Tok.v),(9,Sa.Tok.v),(10,Sa.Tok.v),(11,Sa.Tok.x (MK m sv l f s2)),(12,Sa.Tok.v),(3,Sa.Tok.al (fun b=>.slice (some ⟨b,0,none⟩) 1 1) (fun b w'=>w.heap.size<=b/\Blk w' b #[.int .u8 (97+(n:Int))] 5)),(4,Sa.Tok.v),(5,Sa.Tok.v),(13,Sa.Tok.v),(14,Sa.Tok.al (fun b=>.pointer (some ⟨b,0,none⟩)) (fun b w'=>w.heap.size<=b/\Blk w' b (gC ByteArray.empty 0 false nilV nilV nilV nilV nilV nilV) 46))] [(0,0),(1,0),(2,0),(6,0),(7,1),(8,0),(9,0),(10,0),(11,1),(12,0),(3,2),(4,0),(5,0),(13,0),(14,2)] rfl (by kernel_rfl) (by kernel_rfl) ?hGd167 (mR.drew) MK.stays (MK.stays _ _ HM0.out (mR.drew)) ?mainA167
 case hGd167 =>
  intro p hp;simp only [List.mem_cons,List.not_mem_nil,or_false] at hp;rcases hp with rfl | rfl | rfl | rfl | rfl | rfl | rfl | rfl | rfl | rfl | rfl | rfl | rfl | rfl | rfl <;> first | exact True.intro | exact (fun b w1 w2 h k=>⟨h.1,h.2.kept k (by have:=HMW.out;simp;omega)⟩) | exact MK.stays
 iterate 4 refine Sa.vv ?_
 refine Sa.x_go (a':=?_) rfl (by kernel_rfl) (fun w' hw' hF K Q hK=>?_) ?_ ?_;rotate_left
 ·go_wp2_with fail;refine (C1.out w' hF).mono ?_;rintro e w'' ⟨rfl,K',M'⟩;go_wp2;exact hK _ (hw'.then M') M' K'
 ·kernel_rfl
 iterate 3 refine Sa.vv ?_
 refine Sa.x_go (a':=?_) rfl (by kernel_rfl) (fun w' hw' hF K Q hK=>?_) ?_ ?_;rotate_left
 ·go_wp2_with fail;refine (C2.out w' hF).mono ?_;rintro e w'' ⟨rfl,K',M'⟩;go_wp2;exact hK _ (hw'.then M') M' K'
 ·kernel_rfl
 refine Sa.vv ?_;refine Sa.a_go (f:=?_) rfl (by kernel_rfl) (fun v=>by simp only [Act.put];(try simp only [List.setIfInBounds_toArray]);(try simp only [List.set_cons_succ,List.set_cons_zero]);exact rfl) (fun w' hw' K Q hK=>?_) (fun bA3=>?_)
 ·go_wp2;exact hK w'.heap.size _ (mR.alloc _) ⟨hw'.size,Blk.new _ _ _⟩
 refine Sa.v_go (a':=?_) rfl (by kernel_rfl) (fun w' hw' hG K Q hK=>?_) ?_ ?_;rotate_left
 ·have AC:=letter_conv (n:=n) hG.2.2 (by have:=HN.out.1;omega);go_wp2;exact hK _ mR
 ·kernel_rfl
 iterate 2 refine Sa.vv ?_
 refine Sa.a_go (f:=?_) rfl (by kernel_rfl) (fun v=>by simp only [Act.put];(try simp only [List.setIfInBounds_toArray]);(try simp only [List.set_cons_succ,List.set_cons_zero]);exact rfl) (fun w' hw' K Q hK=>?_) (fun bA14=>?_)
 ·go_wp2;exact hK w'.heap.size _ (mR.alloc _) ⟨hw'.size,Blk.new _ _ _⟩
 refine Sa.nil_go ?_;intro w' hw' hF hG;simp only [qS,qZ];have HS0:Hid (GlSt w m sv l f bA14 w'.heap.size s2 (gC ByteArray.empty 0 false nilV nilV nilV nilV nilV nilV) gz nilV nilV nilV nilV nilV nilV w') :=
  ⟨hF,hw',hG.2.2,⟨SRows.nil _,SRows.nil _,SRows.nil _,SRows.nil _,SRows.nil _,SRows.nil _⟩,HMW.out,hG.2.1,hG.2.2.lt,nR _⟩
 have gc:∀ i,i<9->(∃ v,w'.cell? ⟨bA14,i,none⟩=some v)/\w'.frozen? ⟨bA14,i,none⟩=false:=fun i hi=>⟨⟨_,(hG.2.2.cell i).trans (Array.getElem?_eq_getElem (by simpa [gC] using hi))⟩,hG.2.2.frozen i⟩
 generalize w'.heap.size=B0 at HS0;generalize bA14=gb at *
 clear hF hG hw' C1 C2 HIK;obtain ⟨⟨q0,c0⟩,f0⟩:=gc 0 (by decide);obtain ⟨⟨q1,c1⟩,f1⟩:=gc 1 (by decide);obtain ⟨⟨q2,c2⟩,f2⟩:=gc 2 (by decide);obtain ⟨⟨q3,c3⟩,f3⟩:=gc 3 (by decide);obtain ⟨⟨q4,c4⟩,f4⟩:=gc 4 (by decide);obtain ⟨⟨q5,c5⟩,f5⟩:=gc 5 (by decide);obtain ⟨⟨q6,c6⟩,f6⟩:=gc 6 (by decide);obtain ⟨⟨q7,c7⟩,f7⟩:=gc 7 (by decide);obtain ⟨⟨q8,c8⟩,f8⟩:=gc 8 (by decide);clear gc;go_upto_region 1 with fail;have XF:(((((((((w'.setCell ⟨gb,0,none⟩ (.string ((⟨#[103]⟩:ByteArray)++Mk.letter n))).setCell ⟨gb,1,none⟩ (.int .i64 (100+a*50))).setCell ⟨gb,2,none⟩ (.bool (k == 0))).setCell ⟨gb,3,none⟩ (.slice none 0 0)).setCell ⟨gb,4,none⟩ (.slice none 0 0)).setCell ⟨gb,5,none⟩ (.slice none 0 0)).setCell ⟨gb,6,none⟩ (.slice none 0 0)).setCell ⟨gb,7,none⟩ (.slice none 0 0)).setCell ⟨gb,8,none⟩ (.slice none 0 0))=setN w' (gb) (0) [.string ((⟨#[103]⟩:ByteArray)++Mk.letter n),.int .i64 (100+a*50),.bool (k == 0),.slice none 0 0,.slice none 0 0,.slice none 0 0,.slice none 0 0,.slice none 0 0,.slice none 0 0]:=rfl;rw [XF];clear XF;have HS1:Hid (GlSt w m sv l f gb B0 s2 (gC (Mk.gname n) (100+a*50) (k == 0) nilV nilV nilV nilV nilV nilV) gz nilV nilV nilV nilV nilV nilV _):=HS0.out.over [.string ((⟨#[103]⟩:ByteArray)++Mk.letter n),.int .i64 (100+a*50),.bool (k == 0),.slice none 0 0,.slice none 0 0,.slice none 0 0,.slice none 0 0,.slice none 0 0,.slice none 0 0] rfl;clear HS0 c0 c1 c2 c3 c4 c5 c6 c7 c8 f0 f1 f2 f3 f4 f5 f6 f7 f8;generalize setN w' gb 0 [.string ((⟨#[103]⟩:ByteArray)++Mk.letter n),.int .i64 (100+a*50),.bool (k == 0),.slice none 0 0,.slice none 0 0,.slice none 0 0,.slice none 0 0,.slice none 0 0,.slice none 0 0]=w1 at *
 obtain ⟨nm,hnm⟩:∃ x:ByteArray,x=if n=0 then (⟨#[46,110,111,116,100,101,102]⟩:ByteArray) else Mk.gname n:=⟨_,rfl⟩
 obtain ⟨mk,hmk⟩:∃ x:Bool,x=(decide (n≠0) && decide (k=0)):=⟨_,rfl⟩
 have HNM:=Hi hnm;have HMK:=Hi hmk;clear hnm hmk;go_upto_if 25 with fail
 go_cut [] from 25 to 27 (fun wx=>Hid (GlSt w m sv l f gb B0 s2 (gC nm (100+a*50) mk nilV nilV nilV nilV nilV nilV) gz nilV nilV nilV nilV nilV nilV wx))
 case first =>
  have c0:=HS1.out.blk.cell 0;have c2:=HS1.out.blk.cell 2;have f0:=HS1.out.blk.frozen 0;have f2:=HS1.out.blk.frozen 2
  by_cases hn0:n=0
  ·subst hn0;go_wp2;go_meet
   case rel =>
    have e1:nm=(⟨#[46,110,111,116,100,101,102]⟩:ByteArray):=by have:=HNM.out;simpa using this
    have e2:mk=false:=by have:=HMK.out;simpa using this
    rw [e1,e2];exact (HS1.out.set 0 (.string (⟨#[46,110,111,116,100,101,102]⟩:ByteArray))).set 2 (.bool false)
  ·have k0:decide ((n:Int)=0)=false:=dF (by omega);have k1:¬ (n:Int)=0:=by omega
   have k2:((n:Int) == 0)=false:=beq_false_of_ne k1;go_wp2;go_meet
   case rel =>
    have e1:nm=Mk.gname n:=by have:=HNM.out;rw [if_neg hn0] at this;exact this
    have e2:mk=(k == 0):=by have:=HMK.out;rw [this];simp [hn0];rfl
    rw [e1,e2];exact HS1.out
 case rest =>
  clear HS1;have HE2:=HE.out;rw [<- HMK.out,<- HNM.out] at HE2;have HE:=Hi HE2;clear HE2;go_wp2_with fail;refine (C3.out wc hcut.out.mkr).mono ?_;rintro e w2 ⟨cs,rfl,⟨vp,ve,rfl,hp,hq⟩,K2,M2⟩;obtain ⟨op,cp,rfl,-⟩:=hp.form;obtain ⟨oe,ce,rfl,-⟩:=hq.form;have hX:=hcut.out.call K2 M2;have hX2:GlSt w m sv l f gb w2.heap.size s3 (gC nm (100+a*50) mk nilV nilV nilV nilV nilV nilV) ⟨ByteArray.empty,0,false,o.pts,o.ends,[],[],[],[]⟩ (.slice op o.pts.length cp) (.slice oe o.ends.length ce) nilV nilV nilV nilV w2:=by
   have h0:=hX.ord;have h1:=hX.up (B':=w2.heap.size) h0.2.2.2 (nR _);have h2:gb<wc.heap.size:=hcut.out.blk.lt;exact ⟨h1.mkr,h1.mod,h1.blk,⟨hp.weak (by decide) SPoint.weak fun b h3 h4=>⟨by omega,h3⟩,hq.weak (by decide) SInt.weak fun b h3 h4=>⟨by omega,h3⟩,SRows.nil _,SRows.nil _,SRows.nil _,SRows.nil _⟩,h1.ord⟩
  have HS2:=Hi hX2;have gc3:w2.cell? ⟨gb,3,none⟩=some (.slice none 0 0):=hX.blk.cell 3;have gc4:w2.cell? ⟨gb,4,none⟩=some (.slice none 0 0):=hX.blk.cell 4;have gf3:=hX.blk.frozen 3;have gf4:=hX.blk.frozen 4;clear hX hX2 hp hq K2 M2 hcut C3;go_upto_region 5 with fail;have HS3:Hid (GlSt w m sv l f gb w2.heap.size s3 (gC nm (100+a*50) mk (.slice op o.pts.length cp) (.slice oe o.ends.length ce) nilV nilV nilV nilV) ⟨ByteArray.empty,0,false,o.pts,o.ends,[],[],[],[]⟩ (.slice op o.pts.length cp) (.slice oe o.ends.length ce) nilV nilV nilV nilV ((w2.setCell ⟨gb,3,none⟩ (.slice op o.pts.length cp)).setCell ⟨gb,4,none⟩ (.slice oe o.ends.length ce))) :=
   (HS2.out.set 3 (.slice op o.pts.length cp)).set 4 (.slice oe o.ends.length ce)
  generalize (w2.setCell ⟨gb,3,none⟩ (.slice op o.pts.length cp)).setCell ⟨gb,4,none⟩ (.slice oe o.ends.length ce)=w3 at *
  generalize w2.heap.size=B2 at *
  clear HS2 gc3 gc4 gf3 gf4
  go_cut [37] from 31 to 37 (fun v wx=>∃ (pz:Bool) (st:Mk.S),v=.bool pz/\Hid (Mk.parts n s3=if pz=true then Mk.partsY st else ([],st))/\Hid (GlSt w m sv l f gb B2 st (gC nm (100+a*50) mk (.slice op o.pts.length cp) (.slice oe o.ends.length ce) nilV nilV nilV nilV) ⟨ByteArray.empty,0,false,o.pts,o.ends,[],[],[],[]⟩ (.slice op o.pts.length cp) (.slice oe o.ends.length ce) nilV nilV nilV nilV wx))
  case first =>
   by_cases hn1:1<n
   ·have k0:decide ((1:Int)<(n:Int))=true:=dT (by omega);have k1:(1:Int)<(n:Int):=by omega
    obtain ⟨z,s4,h4⟩:∃ a b,Mk.next 4 s3=(a,b):=⟨_,_,rfl⟩
    have C4:=Hi (CN.out s3 z s4 4 (by decide) (by decide) h4 w3 HS3.out.mkr);have HP:Hid (Mk.parts n s3=if (z == 0)=true then Mk.partsY s4 else ([],s4)):=by
     unfold Mk.parts;rw [if_pos hn1,Mk.bind_eq h4];simp only [beq_iff_eq];exact True.intro
    clear h4;go_wp2_with fail;refine C4.out.mono ?_;rintro e w4 ⟨rfl,K4,M4⟩;have HS4:=Hi (HS3.out.call K4 M4);clear K4 M4 C4;go_wp2;go_meet
    case rel=>exact ⟨z == 0,s4,rfl,HP,HS4⟩
   ·have k0:decide ((1:Int)<(n:Int))=false:=dF (by omega);have k1:¬ (1:Int)<(n:Int):=by omega
    have HP:Hid (Mk.parts n s3=if false=true then Mk.partsY s3 else ([],s3)):=by
     unfold Mk.parts;rw [if_neg hn1];rfl
    go_wp2;go_meet
    case rel=>exact ⟨false,s3,rfl,HP,HS3⟩
  case rest =>
   obtain ⟨pz,st,rfl,HP,HS4⟩:=hcut;clear HS3;go_upto_if 37 with fail
   go_cut [] from 38 to 50 (fun wx=>∃ (ps:List DPart) (st':Mk.S) (oq:Option Addr) (cq:Nat) (B3:Nat),Hid (Mk.parts n s3=(ps,st'))/\Hid (GlSt w m sv l f gb B3 st' (gC nm (100+a*50) mk (.slice op o.pts.length cp) (.slice oe o.ends.length ce) (.slice oq ps.length cq) nilV nilV nilV) ⟨ByteArray.empty,0,false,o.pts,o.ends,ps,[],[],[]⟩ (.slice op o.pts.length cp) (.slice oe o.ends.length ce) (.slice oq ps.length cq) nilV nilV nilV wx))
   case first =>
    cases pz with
    | false =>
     go_wp2;go_meet
     case rel=>exact ⟨[],st,none,0,B2,HP,HS4⟩
    | true =>
     obtain ⟨x,t1,hx⟩:∃ a b,Mk.next 9 st=(a,b):=⟨_,_,rfl⟩
     obtain ⟨y,t2,hy⟩:∃ a b,Mk.next 5 t1=(a,b):=⟨_,_,rfl⟩
     have ix:=next_in (by decide) hx;have iy:=next_in (by decide) hy;have x1:IntKind.i64.wrap (x*50)=x*50:=wrapi (by omega) (by omega);have x2:IntKind.i64.wrap (x*50 - 200)=x*50 - 200:=wrapi (by omega) (by omega);have y1:IntKind.i64.wrap (y*50)=y*50:=wrapi (by omega) (by omega);have CX:=Hi (CN.out st x t1 9 (by decide) (by decide) hx);have CY:=Hi (CN.out t1 y t2 5 (by decide) (by decide) hy);have HP2:Hid (Mk.parts n s3=([⟨1,x*50 - 200,y*50⟩],t2)):=by
      have:=HP.out;rw [if_pos rfl] at this;unfold Mk.partsY at this;rw [Mk.bind_eq hx,Mk.bind_eq hy] at this;exact this
     have HI:Hid (I64 1/\I64 (x*50 - 200)/\I64 (y*50)):=⟨I64.of (by omega) (by omega),I64.of (by omega) (by omega),I64.of (by omega) (by omega)⟩
     have B0c:∀ W,Mod [m] wc W->W.cell? ⟨gb,5,none⟩=some (.slice none 0 0):=fun W k=>HS4.out.gcell k 5
     clear hx hy ix iy HP;go_upto_region 6 with fail;refine Sw.wp_region_sw (I:=Mod [m] wc) (F0:=GlSt w m sv l f gb B2 st (gC nm (100+a*50) mk (.slice op o.pts.length cp) (.slice oe o.ends.length ce) nilV nilV nilV nilV) ⟨ByteArray.empty,0,false,o.pts,o.ends,[],[],[],[]⟩ (.slice op o.pts.length cp) (.slice oe o.ends.length ce) nilV nilV nilV nilV) (fun _ _ h k=>h.then (k.more (by simp))) 11 [(0,none),(1,none),(2,none),(6,none),(3,some (Rg.Know (GlSt w m sv l f gb B2 t1 (gC nm (100+a*50) mk (.slice op o.pts.length cp) (.slice oe o.ends.length ce) nilV nilV nilV nilV) ⟨ByteArray.empty,0,false,o.pts,o.ends,[],[],[],[]⟩ (.slice op o.pts.length cp) (.slice oe o.ends.length ce) nilV nilV nilV nilV) (.int .i64 x))),(4,none),(5,none),(7,some (Rg.Know (GlSt w m sv l f gb B2 t2 (gC nm (100+a*50) mk (.slice op o.pts.length cp) (.slice oe o.ends.length ce) nilV nilV nilV nilV) ⟨ByteArray.empty,0,false,o.pts,o.ends,[],[],[],[]⟩ (.slice op o.pts.length cp) (.slice oe o.ends.length ce) nilV nilV nilV nilV) (.int .i64 y))),(8,none),(9,none),(10,some (NewAnd wc.heap.size #[.int .i64 1,.int .i64 (x*50 - 200),.int .i64 (y*50)] 69 1 (GlSt w m sv l f gb B2 t2 (gC nm (100+a*50) mk (.slice op o.pts.length cp) (.slice oe o.ends.length ce) nilV nilV nilV nilV) ⟨ByteArray.empty,0,false,o.pts,o.ends,[],[],[],[]⟩ (.slice op o.pts.length cp) (.slice oe o.ends.length ce) nilV nilV nilV nilV)))] (by kernel_rfl) (by kernel_rfl) (Sq.nodup_of (by kernel_rfl)) ?hTS392 (mR.drew) GlSt.stays (GlSt.stays _ _ HS4.out (mR.drew)) ?mainS392
     case hTS392 =>
      intro p hp T hT v;simp only [List.mem_cons,List.not_mem_nil,or_false] at hp;rcases hp with rfl | rfl | rfl | rfl | rfl | rfl | rfl | rfl | rfl | rfl | rfl <;> first | (cases hT;done) | (cases hT;first | exact NewAnd.stays GlSt.stays _ | exact Rg.know_stays GlSt.stays _ _)
     iterate 4 refine Sw.vv (w0:=wc.drew) (mR.drew) ?_
     refine Sw.xx (fun w' hw' hF K Q hK=>?_) (fun kv hkv=>?_)
     ·go_wp2_with fail;refine (CX.out w' hF.mkr).mono ?_;rintro e w'' ⟨rfl,K',M'⟩;go_wp2;exact hK _ _ (hw'.then M') ⟨rfl,hF.call K' M'⟩
     obtain ⟨_,_,rfl,_⟩:=hkv
     iterate 2 refine Sw.vv (w0:=wc.drew) (mR.drew) ?_
     refine Sw.xx (fun w' hw' hF K Q hK=>?_) (fun kv hkv=>?_)
     ·go_wp2_with fail;refine (CY.out w' hF.2.mkr).mono ?_;rintro e w'' ⟨rfl,K',M'⟩;go_wp2;exact hK _ _ (hw'.then M') ⟨rfl,hF.2.call K' M'⟩
     obtain ⟨_,_,rfl,_⟩:=hkv
     iterate 2 refine Sw.vv (w0:=wc.drew) (mR.drew) ?_
     refine Sw.xx (fun w' hw' hF K Q hK=>?_) (fun kv hkv=>?_)
     ·go_wp2;exact hK _ _ (hw'.alloc _) ⟨⟨_,rfl,hw'.size,Blk.new _ _ _⟩,GlSt.stays _ _ hF.2 (mR.alloc _)⟩
     obtain ⟨_,_,⟨nb,rfl,hnb,_⟩,_⟩:=hkv;refine Sw.nil_go ?_;intro w' hw' hF;simp only [qS,qZ];obtain ⟨⟨b2,he2,-,hB⟩,hO⟩:=hF;cases he2;have HB:=Hi hB;have HO:=Hi hO;clear hB hO hw' B0c HS4 CX CY;go_wp2_with (at_builtin;refine wpList_push (k:=3) (e:=69) (base:=B2) (l:=[]) (l':=[⟨1,x*50 - 200,y*50⟩]) rfl _ _ 41 rfl p0 _ 24 Tryz.underlying41 pi pz0 pz1 pz2 rfl (by decide) SPart.stay SPart.weak rfl (Grow.nil (S:=fun _=>False)) ⟨nb,0,none⟩ _ _ [[.int .i64 1,.int .i64 (x*50 - 200),.int .i64 (y*50)]] rfl rfl (Elems.one rfl ⟨rfl,HI.out⟩) (fun j u hu=>blk_news HB.out rfl hu) (by simp [Value.oneCell']) ?_ ?_ ?_ ?_)
     ·simp [maxLen]
     ·simp
     ·exact HO.out.ord.2.2.2
     intro v' w4 hGP hgr _;obtain ⟨oq,cq,rfl⟩:=hGP.form;have HS5:=Hi (HO.out.grown hgr (fun b hb=>by simp [Value.ownBlock] at hb));have g5c:w4.cell? ⟨gb,5,none⟩=some (.slice none 0 0):=HS5.out.blk.cell 5;have g5f:=HS5.out.blk.frozen 5;have HS6:=Hi ((HS5.out.set 5 (.slice oq 1 cq)).partsDone (v:=.slice oq 1 cq) (ps:=[⟨1,x*50 - 200,y*50⟩]) (hGP.set SPart.stay (fun hb=>by have h9:B2<=gb:=(hGP.lt _ hb).1;have:=HS5.out.ord;omega) (fun h=>h) _));clear hGP hgr HO HB HS5;go_wp2;go_meet
     case rel=>exact ⟨[⟨1,x*50 - 200,y*50⟩],t2,oq,cq,_,HP2,HS6⟩
   case rest =>
    obtain ⟨ps,s4,oq,cq,B3,HP2,HS5⟩:=hcut;clear HS4 HP;have HE2:=HE.out;rw [Mk.bind_eq HP2.out] at HE2;have HE:=Hi HE2;clear HE2 HP2;go_upto_region 7 with fail;obtain ⟨c,s5,h5⟩:∃ a b,Mk.next 2 s4=(a,b):=⟨_,_,rfl⟩
    have C5:=Hi (CN.out s4 c s5 2 (by decide) (by decide) h5 wc HS5.out.mkr);obtain ⟨an,s6,h6⟩:∃ a b,Mk.rep 5 (anF c mk) [] s5=(a,b):=⟨_,_,rfl⟩
    have HAN:Hid (Mk.anchors mk s4=(an,s6)):=by
     unfold Mk.anchors;rw [Mk.bind_eq h5];exact h6
    have HE2:=HE.out;rw [Mk.bind_eq HAN.out] at HE2;have HE:=Hi HE2;have H6:=Hi h6;have ic:=next_in (by decide) h5;have HIC:Hid (I64 c):=I64.of (by omega) (by omega);clear HE2 HAN h5 h6 ic;go_wp2_with fail;refine C5.out.mono ?_;rintro e w4 ⟨rfl,K4,M4⟩;have hX:=HS5.out.call K4 M4;have hkb:=Blk.new w4 (anC c) 142;have hal:=(Mod.refl [] w4).alloc (.cells (anC c) 142);have HS6:Hid (GlSt w m sv l f gb (w4.alloc (.cells (anC c) 142)).heap.size s5 (gC nm (100+a*50) mk (.slice op o.pts.length cp) (.slice oe o.ends.length ce) (.slice oq ps.length cq) nilV nilV nilV) ⟨ByteArray.empty,0,false,o.pts,o.ends,ps,[],[],[]⟩ (.slice op o.pts.length cp) (.slice oe o.ends.length ce) (.slice oq ps.length cq) nilV nilV nilV (w4.alloc (.cells (anC c) 142))) :=
     (GlSt.stays _ _ hX hal).up (nT hX.ord.2.2.2 hal.size) (nR _)
    have HKB:Hid (Blk (w4.alloc (.cells (anC c) 142)) w4.heap.size (anC c) 142/\gb<w4.heap.size/\w4.heap.size<(w4.alloc (.cells (anC c) 142)).heap.size):=⟨hkb,by have:=hX.ord;omega,by simp⟩
    clear hX hkb hal K4 M4 C5 HS5;go_upto_region 8 with fail;rw [show w4.alloc (.cells #[.int .i64 1,.int .i64 0,.int .i64 1,.int .i64 1,.int .i64 3,.int .i64 0,.int .i64 4,.int .i64 0,.int .i64 2,.int .i64 c] 142)=w4.alloc (.cells (anC c) 142) from rfl];generalize w4.alloc (.cells (anC c) 142)=w5 at *
    generalize w4.heap.size=kb at *
    generalize w5.heap.size=B5 at *
    go_upto_block 0 with fail
    go_cut [6] from 59 to 100 (fun v wx=>∃ (oz:Option Addr) (cz B6:Nat),v=.int .i64 5/\Hid (GlSt w m sv l f gb B6 s6 (gC nm (100+a*50) mk (.slice op o.pts.length cp) (.slice oe o.ends.length ce) (.slice oq ps.length cq) (.slice oz an.length cz) nilV nilV) ⟨ByteArray.empty,0,false,o.pts,o.ends,ps,an,[],[]⟩ (.slice op o.pts.length cp) (.slice oe o.ends.length ce) (.slice oq ps.length cq) (.slice oz an.length cz) nilV nilV wx))
    case first =>
     go_wp2_with fail
     go_loopg [6] 5 (fun gk i6 wr=>∃ (i:Nat) (L:List DAnchor) (st:Mk.S) (oz:Option Addr) (cz:Nat),i6=.int .i64 (i:Int)/\Hid (i+gk=5)/\Hid (Mk.rep i (anF c mk) [] s5=(L,st))/\Hid (L.length<=i)/\Hid (AnSt w m sv l f gb B5 (gC nm (100+a*50) mk (.slice op o.pts.length cp) (.slice oe o.ends.length ce) (.slice oq ps.length cq) (.slice oz L.length cz) nilV nilV) ⟨ByteArray.empty,0,false,o.pts,o.ends,ps,[],[],[]⟩ (.slice op o.pts.length cp) (.slice oe o.ends.length ce) (.slice oq ps.length cq) nilV nilV nilV kb (anC c) 142 (.slice oz L.length cz) L st wr))
     case atStart=>exact ⟨0,[],s5,none,0,rfl,rfl,rfl,nR _,HS6.out,Grow.nil,HKB.out.1,HKB.out.2⟩
     case round =>
      obtain ⟨i,L,st,oz,cz,rfl,hi5,HR,HLL,HS⟩:=hrel;clear HS6
      by_cases hin:i<5
      case neg =>
       obtain rfl:i=5:=by have:=hi5.out;omega
       obtain ⟨rfl,rfl⟩:L=an/\st=s6:=by have h9:=H6.out;rw [HR.out] at h9;simpa using h9
       have HS7:=Hi (HS.out.gl.anchDone HS.out.gr);go_wp2;go_meet
       case rel=>exact ⟨oz,cz,_,rfl,HS7⟩
      have k1:decide ((i:Int)<5)=true:=dT (by omega);have k2:(i:Int)<5:=by omega
      have k3:(0:Int)<=i:=by omega
      have ei:IntKind.i64.wrap ((i:Int)+1)=(i:Int)+1:=wrapi (by omega) (by omega);obtain ⟨z,st1,hz⟩:∃ a b,Mk.next 3 st=(a,b):=⟨_,_,rfl⟩
      have CZ:=Hi (CN.out st z st1 3 (by decide) (by decide) hz wr HS.out.gl.mkr);have HZ:=Hi hz;have HIN:=Hi hin;clear hz hin
      by_cases hz0:z=0
      case neg =>
       have HNX:Hid (anF c mk i L st=(L,st1)):=by unfold anF;rw [Mk.bind_eq HZ.out,if_neg (fun h=>hz0 h.1)];exact rfl
       have kz:(z == 0)=false:=beq_false_of_ne hz0;have kz2:decide (z=0)=false:=dF hz0;go_wp2_with fail;refine CZ.out.mono ?_;rintro e w6 ⟨rfl,K6,M6⟩;have HX:=Hi (HS.out.call K6 M6);clear K6 M6 HS CZ;go_wp2;go_roundg (gk - 1)
       case measure=>have:=hi5.out;omega
       case rel =>
        refine ⟨i+1,L,st1,oz,cz,by rw [Int.natCast_add];rfl,?_,?_,?_,HX.out⟩
        ·have:=hi5.out;have:=HIN.out;show i+1+(gk - 1)=5;omega
        ·show Mk.rep (i+1) (anF c mk) [] s5=_;rw [Mk.rep_next HR.out];exact HNX.out
        ·have:=HLL.out;show L.length<=i+1;omega
      subst hz0
      by_cases hk2:(anK c i).1=2
      case pos =>
       have HK2:=Hi hk2;clear hk2
       by_cases hmk:mk=true
       case neg =>
        have HNX:Hid (anF c mk i L st=(L,st1)):=by unfold anF;rw [Mk.bind_eq HZ.out,if_neg (fun h=>h.2.elim (fun h=>h HK2.out) hmk)];exact rfl
        have hmk2:mk=false:=by simpa using hmk
        go_wp2_with fail;refine CZ.out.mono ?_;rintro e w6 ⟨rfl,K6,M6⟩;have HX:=Hi (HS.out.call K6 M6);have b1:∀ W,Mod [m] w6 W->W.cell? ⟨kb,i*2,none⟩=some (.int .i64 (anK c i).1):=fun W k=>(HX.out.kcell k (i*2)).trans (anC_at c i HIN.out).1
        have b2:∀ W,Mod [m] w6 W->W.cell? ⟨gb,2,none⟩=some (.bool mk):=fun W k=>HX.out.gl.gcell k 2
        have b1a:=b1 w6 mR;have b2a:=b2 w6 mR;rw [HK2.out] at b1a;rw [hmk2] at b2a;clear K6 M6 HS CZ;go_wp2;go_roundg (gk - 1)
        case measure=>have:=hi5.out;omega
        case rel =>
         refine ⟨i+1,L,st1,oz,cz,by rw [Int.natCast_add];rfl,?_,?_,?_,HX.out⟩
         ·have:=hi5.out;have:=HIN.out;show i+1+(gk - 1)=5;omega
         ·show Mk.rep (i+1) (anF c mk) [] s5=_;rw [Mk.rep_next HR.out];exact HNX.out
         ·have:=HLL.out;show L.length<=i+1;omega
       have HMT:=Hi hmk;go_wp2_with fail;refine CZ.out.mono ?_;rintro e w6 ⟨rfl,K6,M6⟩;have HX:=Hi (HS.out.call K6 M6);have b1:∀ W,Mod [m] w6 W->W.cell? ⟨kb,i*2,none⟩=some (.int .i64 (anK c i).1):=fun W k=>(HX.out.kcell k (i*2)).trans (anC_at c i HIN.out).1
       have b2:∀ W,Mod [m] w6 W->W.cell? ⟨gb,2,none⟩=some (.bool mk):=fun W k=>HX.out.gl.gcell k 2
       have b1a:=b1 w6 mR;have b2a:=b2 w6 mR;have b3:∀ W,Mod [m] w6 W->W.cell? ⟨kb,i*2+1,none⟩=some (.int .i64 (anK c i).2):=fun W k=>(HX.out.kcell k (i*2+1)).trans (anC_at c i HIN.out).2
       have b6:∀ W,Mod [m] w6 W->W.cell? ⟨gb,6,none⟩=some (.slice oz L.length cz):=fun W k=>HX.out.gl.gcell k 6
       rw [HK2.out] at b1a;rw [hmk] at b2a;have HKR:=Hi (anK_I64 c HIC.out i);obtain ⟨x,t1,hx⟩:∃ a b,Mk.next 21 st1=(a,b):=⟨_,_,rfl⟩
       obtain ⟨y,t2,hy⟩:∃ a b,Mk.next 21 t1=(a,b):=⟨_,_,rfl⟩
       have ix:=next_in (by decide) hx;have iy:=next_in (by decide) hy;have x1:IntKind.i64.wrap (x*50)=x*50:=wrapi (by omega) (by omega);have y1:IntKind.i64.wrap (y*50)=y*50:=wrapi (by omega) (by omega);have y2:IntKind.i64.wrap (y*50 - 200)=y*50 - 200:=wrapi (by omega) (by omega);have CX:=Hi (CN.out st1 x t1 21 (by decide) (by decide) hx);have CY:=Hi (CN.out t1 y t2 21 (by decide) (by decide) hy);have HD:Hid (anF c mk i L st=(L++[⟨(anK c i).1,(anK c i).2,x*50,y*50 - 200⟩],t2)):=by unfold anF;rw [Mk.bind_eq HZ.out,if_pos ⟨rfl,.inr hmk⟩,Mk.bind_eq hx,Mk.bind_eq hy];exact rfl
       have HI:Hid (I64 (x*50)/\I64 (y*50 - 200)):=⟨I64.of (by omega) (by omega),I64.of (by omega) (by omega)⟩
       clear hx hy ix iy K6 M6 HS CZ HZ;generalize (anK c i).1=ka at *
       generalize (anK c i).2=kc at *
       go_upto_region 12 with fail;refine Sw.wp_region_sw (I:=Mod [m] w6) (F0:=AnSt w m sv l f gb B5 (gC nm (100+a*50) mk (.slice op o.pts.length cp) (.slice oe o.ends.length ce) (.slice oq ps.length cq) (.slice oz L.length cz) nilV nilV) ⟨ByteArray.empty,0,false,o.pts,o.ends,ps,[],[],[]⟩ (.slice op o.pts.length cp) (.slice oe o.ends.length ce) (.slice oq ps.length cq) nilV nilV nilV kb (anC c) 142 (.slice oz L.length cz) L st1) (fun _ _ h k=>h.then (k.more (by simp))) 21 [(0,none),(1,none),(2,none),(3,none),(4,none),(5,none),(6,none),(7,none),(8,none),(9,none),(10,none),(11,none),(12,none),(15,none),(13,some (Rg.Know (AnSt w m sv l f gb B5 (gC nm (100+a*50) mk (.slice op o.pts.length cp) (.slice oe o.ends.length ce) (.slice oq ps.length cq) (.slice oz L.length cz) nilV nilV) ⟨ByteArray.empty,0,false,o.pts,o.ends,ps,[],[],[]⟩ (.slice op o.pts.length cp) (.slice oe o.ends.length ce) (.slice oq ps.length cq) nilV nilV nilV kb (anC c) 142 (.slice oz L.length cz) L t1) (.int .i64 x))),(14,none),(16,some (Rg.Know (AnSt w m sv l f gb B5 (gC nm (100+a*50) mk (.slice op o.pts.length cp) (.slice oe o.ends.length ce) (.slice oq ps.length cq) (.slice oz L.length cz) nilV nilV) ⟨ByteArray.empty,0,false,o.pts,o.ends,ps,[],[],[]⟩ (.slice op o.pts.length cp) (.slice oe o.ends.length ce) (.slice oq ps.length cq) nilV nilV nilV kb (anC c) 142 (.slice oz L.length cz) L t2) (.int .i64 y))),(17,none),(18,none),(19,none),(20,some (NewAnd w6.heap.size #[.int .i64 ka,.int .i64 kc,.int .i64 (x*50),.int .i64 (y*50 - 200)] 145 1 (AnSt w m sv l f gb B5 (gC nm (100+a*50) mk (.slice op o.pts.length cp) (.slice oe o.ends.length ce) (.slice oq ps.length cq) (.slice oz L.length cz) nilV nilV) ⟨ByteArray.empty,0,false,o.pts,o.ends,ps,[],[],[]⟩ (.slice op o.pts.length cp) (.slice oe o.ends.length ce) (.slice oq ps.length cq) nilV nilV nilV kb (anC c) 142 (.slice oz L.length cz) L t2)))] (by kernel_rfl) (by kernel_rfl) (Sq.nodup_of (by kernel_rfl)) ?hTS619 (mR.drew) AnSt.stays (AnSt.stays _ _ HX.out (mR.drew)) ?mainS619
       case hTS619 =>
        intro p hp T hT v;simp only [List.mem_cons,List.not_mem_nil,or_false] at hp;rcases hp with rfl | rfl | rfl | rfl | rfl | rfl | rfl | rfl | rfl | rfl | rfl | rfl | rfl | rfl | rfl | rfl | rfl | rfl | rfl | rfl | rfl <;> first | (cases hT;done) | (cases hT;first | exact NewAnd.stays AnSt.stays _ | exact Rg.know_stays AnSt.stays _ _)
       iterate 14 refine Sw.vv (w0:=w6.drew) (mR.drew) ?_
       refine Sw.xx (fun w' hw' hF K Q hK=>?_) (fun kv hkv=>?_)
       ·go_wp2_with fail;refine (CX.out w' hF.gl.mkr).mono ?_;rintro e w'' ⟨rfl,K',M'⟩;go_wp2;exact hK _ _ (hw'.then M') ⟨rfl,hF.call K' M'⟩
       obtain ⟨_,_,rfl,_⟩:=hkv;refine Sw.vv (w0:=w6.drew) (mR.drew) ?_;refine Sw.xx (fun w' hw' hF K Q hK=>?_) (fun kv hkv=>?_)
       ·go_wp2_with fail;refine (CY.out w' hF.2.gl.mkr).mono ?_;rintro e w'' ⟨rfl,K',M'⟩;go_wp2;exact hK _ _ (hw'.then M') ⟨rfl,hF.2.call K' M'⟩
       obtain ⟨_,_,rfl,_⟩:=hkv
       iterate 3 refine Sw.vv (w0:=w6.drew) (mR.drew) ?_
       refine Sw.xx (fun w' hw' hF K Q hK=>?_) (fun kv hkv=>?_)
       ·go_wp2;exact hK _ _ (hw'.alloc _) ⟨⟨_,rfl,hw'.size,Blk.new _ _ _⟩,AnSt.stays _ _ hF.2 (mR.alloc _)⟩
       obtain ⟨_,_,⟨nb,rfl,hnb,_⟩,_⟩:=hkv;refine Sw.nil_go ?_;intro w' hw' hF;simp only [qS,qZ];obtain ⟨⟨b9,he9,-,hB⟩,hO⟩:=hF;cases he9;have HB:=Hi hB;have HO:=Hi hO;clear hB hO hw' b1 b2 b3 b6 b1a b2a HX CX CY;go_wp2_with (at_builtin;refine wpList_push (k:=4) (e:=145) (base:=B5) (l:=L) (l':=[⟨ka,kc,x*50,y*50 - 200⟩]) rfl _ _ 42 rfl aq0 _ 32 Tryz.underlying42 aqi aqz0 aqz1 aqz2 rfl (by decide) SAnchor.stay SAnchor.weak rfl HO.out.gr ⟨nb,0,none⟩ _ _ [[.int .i64 ka,.int .i64 kc,.int .i64 (x*50),.int .i64 (y*50 - 200)]] rfl rfl (Elems.one rfl ⟨rfl,HKR.out.1,HKR.out.2,HI.out⟩) (fun j u hu=>blk_news HB.out rfl hu) (by simp [Value.oneCell']) ?_ ?_ ?_ ?_)
       ·have h4:=HLL.out;have h5:=HIN.out;unfold maxLen;simp;omega
       ·have h4:=HLL.out;have h5:=HIN.out;simp;omega
       ·exact HO.out.gl.ord.2.2.2
       intro v' w7 hGP hgr _;obtain ⟨oz',cz',rfl⟩:=hGP.form;have hnl:(L++[(⟨ka,kc,x*50,y*50 - 200⟩:DAnchor)]).length=L.length+1:=by simp
       rw [hnl] at hGP;have HNL:=Hi hnl;clear hnl;have HS7:=Hi (HO.out.push hGP hgr);have g6c:w7.cell? ⟨gb,6,none⟩=some (.slice oz L.length cz):=(HO.out.gl.grown hgr fun b hb=>(HO.out.gr.lt b hb).1).blk.cell 6;have g6f:=(HO.out.gl.grown hgr fun b hb=>(HO.out.gr.lt b hb).1).blk.frozen 6;clear hGP hgr HO HB;go_wp2;go_roundg (gk - 1)
       case measure=>have:=hi5.out;omega
       case rel =>
        refine ⟨i+1,L++[⟨ka,kc,x*50,y*50 - 200⟩],t2,oz',cz',by rw [Int.natCast_add];rfl,?_,?_,?_,by rw [HNL.out];exact HS7.out⟩
        ·have:=hi5.out;have:=HIN.out;show i+1+(gk - 1)=5;omega
        ·show Mk.rep (i+1) (anF c mk) [] s5=_;rw [Mk.rep_next HR.out];exact HD.out
        ·have:=HLL.out;show (L++[(_:DAnchor)]).length<=i+1;rw [HNL.out];omega
      have kk1:((anK c i).1 != 2)=true:=bne_iff_ne.2 hk2;have kk2:((anK c i).1 == 2)=false:=beq_false_of_ne hk2;go_wp2_with fail;refine CZ.out.mono ?_;rintro e w6 ⟨rfl,K6,M6⟩;have HX:=Hi (HS.out.call K6 M6);have b1:∀ W,Mod [m] w6 W->W.cell? ⟨kb,i*2,none⟩=some (.int .i64 (anK c i).1):=fun W k=>(HX.out.kcell k (i*2)).trans (anC_at c i HIN.out).1
      have b2:∀ W,Mod [m] w6 W->W.cell? ⟨gb,2,none⟩=some (.bool mk):=fun W k=>HX.out.gl.gcell k 2
      have b1a:=b1 w6 mR;have b2a:=b2 w6 mR;have b3:∀ W,Mod [m] w6 W->W.cell? ⟨kb,i*2+1,none⟩=some (.int .i64 (anK c i).2):=fun W k=>(HX.out.kcell k (i*2+1)).trans (anC_at c i HIN.out).2
      have b6:∀ W,Mod [m] w6 W->W.cell? ⟨gb,6,none⟩=some (.slice oz L.length cz):=fun W k=>HX.out.gl.gcell k 6
      have HKR:=Hi (anK_I64 c HIC.out i);obtain ⟨x,t1,hx⟩:∃ a b,Mk.next 21 st1=(a,b):=⟨_,_,rfl⟩
      obtain ⟨y,t2,hy⟩:∃ a b,Mk.next 21 t1=(a,b):=⟨_,_,rfl⟩
      have ix:=next_in (by decide) hx;have iy:=next_in (by decide) hy;have x1:IntKind.i64.wrap (x*50)=x*50:=wrapi (by omega) (by omega);have y1:IntKind.i64.wrap (y*50)=y*50:=wrapi (by omega) (by omega);have y2:IntKind.i64.wrap (y*50 - 200)=y*50 - 200:=wrapi (by omega) (by omega);have CX:=Hi (CN.out st1 x t1 21 (by decide) (by decide) hx);have CY:=Hi (CN.out t1 y t2 21 (by decide) (by decide) hy);have HD:Hid (anF c mk i L st=(L++[⟨(anK c i).1,(anK c i).2,x*50,y*50 - 200⟩],t2)):=by unfold anF;rw [Mk.bind_eq HZ.out,if_pos ⟨rfl,.inl hk2⟩,Mk.bind_eq hx,Mk.bind_eq hy];exact rfl
      have HI:Hid (I64 (x*50)/\I64 (y*50 - 200)):=⟨I64.of (by omega) (by omega),I64.of (by omega) (by omega)⟩
      clear hx hy ix iy K6 M6 HS CZ HZ;generalize (anK c i).1=ka at *
      generalize (anK c i).2=kc at *
      go_upto_region 12 with fail;refine Sw.wp_region_sw (I:=Mod [m] w6) (F0:=AnSt w m sv l f gb B5 (gC nm (100+a*50) mk (.slice op o.pts.length cp) (.slice oe o.ends.length ce) (.slice oq ps.length cq) (.slice oz L.length cz) nilV nilV) ⟨ByteArray.empty,0,false,o.pts,o.ends,ps,[],[],[]⟩ (.slice op o.pts.length cp) (.slice oe o.ends.length ce) (.slice oq ps.length cq) nilV nilV nilV kb (anC c) 142 (.slice oz L.length cz) L st1) (fun _ _ h k=>h.then (k.more (by simp))) 21 [(0,none),(1,none),(2,none),(3,none),(4,none),(5,none),(6,none),(7,none),(8,none),(9,none),(10,none),(11,none),(12,none),(15,none),(13,some (Rg.Know (AnSt w m sv l f gb B5 (gC nm (100+a*50) mk (.slice op o.pts.length cp) (.slice oe o.ends.length ce) (.slice oq ps.length cq) (.slice oz L.length cz) nilV nilV) ⟨ByteArray.empty,0,false,o.pts,o.ends,ps,[],[],[]⟩ (.slice op o.pts.length cp) (.slice oe o.ends.length ce) (.slice oq ps.length cq) nilV nilV nilV kb (anC c) 142 (.slice oz L.length cz) L t1) (.int .i64 x))),(14,none),(16,some (Rg.Know (AnSt w m sv l f gb B5 (gC nm (100+a*50) mk (.slice op o.pts.length cp) (.slice oe o.ends.length ce) (.slice oq ps.length cq) (.slice oz L.length cz) nilV nilV) ⟨ByteArray.empty,0,false,o.pts,o.ends,ps,[],[],[]⟩ (.slice op o.pts.length cp) (.slice oe o.ends.length ce) (.slice oq ps.length cq) nilV nilV nilV kb (anC c) 142 (.slice oz L.length cz) L t2) (.int .i64 y))),(17,none),(18,none),(19,none),(20,some (NewAnd w6.heap.size #[.int .i64 ka,.int .i64 kc,.int .i64 (x*50),.int .i64 (y*50 - 200)] 145 1 (AnSt w m sv l f gb B5 (gC nm (100+a*50) mk (.slice op o.pts.length cp) (.slice oe o.ends.length ce) (.slice oq ps.length cq) (.slice oz L.length cz) nilV nilV) ⟨ByteArray.empty,0,false,o.pts,o.ends,ps,[],[],[]⟩ (.slice op o.pts.length cp) (.slice oe o.ends.length ce) (.slice oq ps.length cq) nilV nilV nilV kb (anC c) 142 (.slice oz L.length cz) L t2)))] (by kernel_rfl) (by kernel_rfl) (Sq.nodup_of (by kernel_rfl)) ?hTS792 (mR.drew) AnSt.stays (AnSt.stays _ _ HX.out (mR.drew)) ?mainS792
      case hTS792 =>
       intro p hp T hT v;simp only [List.mem_cons,List.not_mem_nil,or_false] at hp;rcases hp with rfl | rfl | rfl | rfl | rfl | rfl | rfl | rfl | rfl | rfl | rfl | rfl | rfl | rfl | rfl | rfl | rfl | rfl | rfl | rfl | rfl <;> first | (cases hT;done) | (cases hT;first | exact NewAnd.stays AnSt.stays _ | exact Rg.know_stays AnSt.stays _ _)
      iterate 14 refine Sw.vv (w0:=w6.drew) (mR.drew) ?_
      refine Sw.xx (fun w' hw' hF K Q hK=>?_) (fun kv hkv=>?_)
      ·go_wp2_with fail;refine (CX.out w' hF.gl.mkr).mono ?_;rintro e w'' ⟨rfl,K',M'⟩;go_wp2;exact hK _ _ (hw'.then M') ⟨rfl,hF.call K' M'⟩
      obtain ⟨_,_,rfl,_⟩:=hkv;refine Sw.vv (w0:=w6.drew) (mR.drew) ?_;refine Sw.xx (fun w' hw' hF K Q hK=>?_) (fun kv hkv=>?_)
      ·go_wp2_with fail;refine (CY.out w' hF.2.gl.mkr).mono ?_;rintro e w'' ⟨rfl,K',M'⟩;go_wp2;exact hK _ _ (hw'.then M') ⟨rfl,hF.2.call K' M'⟩
      obtain ⟨_,_,rfl,_⟩:=hkv
      iterate 3 refine Sw.vv (w0:=w6.drew) (mR.drew) ?_
      refine Sw.xx (fun w' hw' hF K Q hK=>?_) (fun kv hkv=>?_)
      ·go_wp2;exact hK _ _ (hw'.alloc _) ⟨⟨_,rfl,hw'.size,Blk.new _ _ _⟩,AnSt.stays _ _ hF.2 (mR.alloc _)⟩
      obtain ⟨_,_,⟨nb,rfl,hnb,_⟩,_⟩:=hkv;refine Sw.nil_go ?_;intro w' hw' hF;simp only [qS,qZ];obtain ⟨⟨b9,he9,-,hB⟩,hO⟩:=hF;cases he9;have HB:=Hi hB;have HO:=Hi hO;clear hB hO hw' b1 b2 b3 b6 b1a b2a HX CX CY;go_wp2_with (at_builtin;refine wpList_push (k:=4) (e:=145) (base:=B5) (l:=L) (l':=[⟨ka,kc,x*50,y*50 - 200⟩]) rfl _ _ 42 rfl aq0 _ 32 Tryz.underlying42 aqi aqz0 aqz1 aqz2 rfl (by decide) SAnchor.stay SAnchor.weak rfl HO.out.gr ⟨nb,0,none⟩ _ _ [[.int .i64 ka,.int .i64 kc,.int .i64 (x*50),.int .i64 (y*50 - 200)]] rfl rfl (Elems.one rfl ⟨rfl,HKR.out.1,HKR.out.2,HI.out⟩) (fun j u hu=>blk_news HB.out rfl hu) (by simp [Value.oneCell']) ?_ ?_ ?_ ?_)
      ·have h4:=HLL.out;have h5:=HIN.out;unfold maxLen;simp;omega
      ·have h4:=HLL.out;have h5:=HIN.out;simp;omega
      ·exact HO.out.gl.ord.2.2.2
      intro v' w7 hGP hgr _;obtain ⟨oz',cz',rfl⟩:=hGP.form;have hnl:(L++[(⟨ka,kc,x*50,y*50 - 200⟩:DAnchor)]).length=L.length+1:=by simp
      rw [hnl] at hGP;have HNL:=Hi hnl;clear hnl;have HS7:=Hi (HO.out.push hGP hgr);have g6c:w7.cell? ⟨gb,6,none⟩=some (.slice oz L.length cz):=(HO.out.gl.grown hgr fun b hb=>(HO.out.gr.lt b hb).1).blk.cell 6;have g6f:=(HO.out.gl.grown hgr fun b hb=>(HO.out.gr.lt b hb).1).blk.frozen 6;clear hGP hgr HO HB;go_wp2;go_roundg (gk - 1)
      case measure=>have:=hi5.out;omega
      case rel =>
       refine ⟨i+1,L++[⟨ka,kc,x*50,y*50 - 200⟩],t2,oz',cz',by rw [Int.natCast_add];rfl,?_,?_,?_,by rw [HNL.out];exact HS7.out⟩
       ·have:=hi5.out;have:=HIN.out;show i+1+(gk - 1)=5;omega
       ·show Mk.rep (i+1) (anF c mk) [] s5=_;rw [Mk.rep_next HR.out];exact HD.out
       ·have:=HLL.out;show (L++[(_:DAnchor)]).length<=i+1;rw [HNL.out];omega
    case rest =>
     obtain ⟨oz,cz,B6,rfl,HS7⟩:=hcut;clear HS6 HKB H6 HIC;generalize (Value.slice oe o.ends.length ce)=ve at *
     generalize (Value.slice oq ps.length cq)=vr at *
     generalize (Value.slice oz an.length cz)=va at *
     obtain ⟨de,s7,h7⟩:∃ a b,Mk.rep nr (deR o.pts.length) [] s6=(a,b):=⟨_,_,rfl⟩
     have HE2:=HE.out;rw [Mk.bind_eq (show Mk.deltas nr o.pts.length s6=(de,s7) from h7)] at HE2;have HE:=Hi HE2;have H7:=Hi h7;clear HE2 h7;go_upto_block 2 with fail
     go_cut [7,8,9] from 101 to 139 (fun v7 v8 v9 wx=>∃ (od:Option Addr) (cd B7:Nat),Hid (GlSt w m sv l f gb B7 s7 (gC nm (100+a*50) mk (.slice op o.pts.length cp) ve vr va (.slice od de.length cd) nilV) ⟨ByteArray.empty,0,false,o.pts,o.ends,ps,an,de,[]⟩ (.slice op o.pts.length cp) ve vr va (.slice od de.length cd) nilV wx))
     case first =>
      go_wp2_with fail
      go_loopg [7] nr (fun gk v7 wr=>∃ (i:Nat) (L:List DDelta) (st:Mk.S) (od:Option Addr) (cd:Nat),v7=.int .i64 (i:Int)/\Hid (i+gk=nr)/\Hid (Mk.rep i (deR o.pts.length) [] s6=(L,st))/\Hid (L.length<=i*11)/\Hid (DeSt w m sv l f gb B6 (gC nm (100+a*50) mk (.slice op o.pts.length cp) ve vr va (.slice od L.length cd) nilV) ⟨ByteArray.empty,0,false,o.pts,o.ends,ps,an,[],[]⟩ (.slice op o.pts.length cp) ve vr va nilV nilV (.slice od L.length cd) L st wr))
      case atStart=>exact ⟨0,[],s6,none,0,rfl,by show 0+nr=nr;omega,rfl,nR _,HS7.out,Grow.nil⟩
      case round =>
       obtain ⟨i,L,st,od,cd,rfl,hi5,HR,HLL,HS⟩:=hrel;clear HS7;have b8:wr.cell? ⟨m,8,none⟩=some (.slice oR nr cR):=(HS.out.gl.mkr.blk.cell 8).trans (congrArg some HRG.out)
       by_cases hin:i<nr
       case neg =>
        obtain rfl:i=nr:=by have:=hi5.out;omega
        have k1:decide ((i:Int)<(i:Int))=false:=dF (by omega);obtain ⟨rfl,rfl⟩:L=de/\st=s7:=by have h9:=H7.out;rw [HR.out] at h9;simpa using h9
        have HS8:=Hi (HS.out.gl.deltDone HS.out.gr);go_wp2;go_meet
        case rel=>exact ⟨od,cd,_,HS8⟩
       have k1:decide ((i:Int)<(nr:Int))=true:=dT (by omega);have k2:(i:Int)<(nr:Int):=by omega
       have ei:IntKind.i64.wrap ((i:Int)+1)=(i:Int)+1:=wrapi (by omega) (by have:=HN.out;omega);obtain ⟨L1,st1,h1⟩:∃ a b,Mk.rep (o.pts.length+1) (deP i) L st=(a,b):=⟨_,_,rfl⟩
       have H1:=Hi h1;have HIN:=Hi hin;clear h1 hin;go_wp2_with fail;generalize gk=G at *
       go_loopg [8] (o.pts.length+1) (fun gj v8 ws=>∃ (p:Nat) (q:Int) (L2:List DDelta) (su:Mk.S) (od:Option Addr) (cd:Nat),v8=.int .i64 q/\Hid (q=(p:Int) - 1)/\Hid (p+gj=o.pts.length+1)/\Hid (Mk.rep p (deP i) L st=(L2,su))/\Hid (L2.length<=i*11+p)/\Hid (DeSt w m sv l f gb B6 (gC nm (100+a*50) mk (.slice op o.pts.length cp) ve vr va (.slice od L2.length cd) nilV) ⟨ByteArray.empty,0,false,o.pts,o.ends,ps,an,[],[]⟩ (.slice op o.pts.length cp) ve vr va nilV nilV (.slice od L2.length cd) L2 su ws))
       case atStart=>exact ⟨0,-1,L,st,od,cd,rfl,rfl,by show 0+(o.pts.length+1)=_;omega,rfl,HLL.out,HS.out⟩
       case round =>
        obtain ⟨p,q,L2,su,od,cd,rfl,HQ,hp5,HR2,HLL2,HS9⟩:=hrel;clear HS b8;have b3:wr.cell? ⟨gb,3,none⟩=some (.slice op o.pts.length cp):=HS9.out.gl.blk.cell 3
        by_cases hp:p<o.pts.length+1
        case neg =>
         have k3:decide (q<(o.pts.length:Int))=false:=dF (by have:=HQ.out;omega);have k4:¬ q<(o.pts.length:Int):=by have:=HQ.out;omega
         have hpe:p=o.pts.length+1:=by have:=hp5.out;omega
         obtain ⟨rfl,rfl⟩:L2=L1/\su=st1:=by have h9:=H1.out;rw [<- hpe,HR2.out] at h9;simpa using h9
         have HPE:=Hi hpe;clear hp hpe;go_wp2;go_roundg (G - 1)
         case measure=>have:=hi5.out;omega
         case rel =>
          refine ⟨i+1,L2,su,od,cd,by rw [Int.natCast_add];rfl,?_,?_,?_,HS9.out⟩
          ·have:=hi5.out;have:=HIN.out;show i+1+(G - 1)=nr;omega
          ·show Mk.rep (i+1) (deR o.pts.length) [] s6=_;rw [Mk.rep_next HR.out];exact H1.out
          ·have:=HLL2.out;have:=HPE.out;have:=HPL.out;show L2.length<=(i+1)*11;omega
        have k3:decide (q<(o.pts.length:Int))=true:=dT (by have:=HQ.out;omega);have k4:q<(o.pts.length:Int):=by have:=HQ.out;omega
        have eq1:IntKind.i64.wrap (q+1)=q+1:=wrapi (by have:=HQ.out;omega) (by have:=HQ.out;have:=HPL.out;omega);obtain ⟨z,t0,hz⟩:∃ a b,Mk.next 3 su=(a,b):=⟨_,_,rfl⟩
        have CZ:=Hi (CN.out su z t0 3 (by decide) (by decide) hz wr HS9.out.gl.mkr);have HZ:=Hi hz;have HP:=Hi hp;clear hz hp
        by_cases hz0:z=0
        case neg =>
         have HNX:Hid (deP i p L2 su=(L2,t0)):=by unfold deP;rw [Mk.bind_eq HZ.out,if_neg hz0];exact rfl
         have kz:(z == 0)=false:=beq_false_of_ne hz0;have kz2:decide (z=0)=false:=dF hz0;go_wp2_with fail;refine CZ.out.mono ?_;rintro e w6 ⟨rfl,K6,M6⟩;have HX:=Hi (HS9.out.call K6 M6);clear K6 M6 HS9 CZ b3;go_wp2;go_roundg (gk - 1)
         case measure=>have:=hp5.out;have:=HP.out;omega
         case rel =>
          refine ⟨p+1,q+1,L2,t0,od,cd,rfl,?_,?_,?_,?_,HX.out⟩
          ·have:=HQ.out;show q+1=((p+1:Nat):Int) - 1;omega
          ·have:=hp5.out;have:=HP.out;show p+1+(gk - 1)=_;omega
          ·show Mk.rep (p+1) (deP i) L st=_;rw [Mk.rep_next HR2.out];exact HNX.out
          ·have:=HLL2.out;show L2.length<=i*11+(p+1);omega
        subst hz0;obtain ⟨x,t1,hx⟩:∃ a b,Mk.next 41 t0=(a,b):=⟨_,_,rfl⟩
        have ix:=next_in (by decide) hx;have x1:IntKind.i64.wrap (x - 20)=x - 20:=wrapi (by omega) (by omega);have CX:=Hi (CN.out t0 x t1 41 (by decide) (by decide) hx);have HXI:Hid (I64 (x - 20)/\I64 (i:Int)/\I64 q):=⟨I64.of (by omega) (by omega),I64.of (by omega) (by have:=HIN.out;have:=HN.out;omega),I64.of (by have:=HQ.out;omega) (by have:=HQ.out;have:=HP.out;have:=HPL.out;omega)⟩
        have HXN:=Hi hx;clear hx ix;go_wp2_with fail;refine CZ.out.mono ?_;rintro e w6 ⟨rfl,K6,M6⟩;have HX:=Hi (HS9.out.call K6 M6);have CX2:=Hi (CX.out w6 HX.out.gl.mkr);clear K6 M6 HS9 CZ b3 CX;go_wp2_with fail;refine CX2.out.mono ?_;rintro e w7 ⟨rfl,K7,M7⟩;have HX2:=Hi (HX.out.call K7 M7);clear K7 M7 HX CX2;go_upto_region 21 with fail;have HAL:Hid (Mod [] w7 (w7.alloc (.cells #[.int .i64 i,.int .i64 q,.int .i64 (x - 20),.int .i64 0] 147))):=(Mod.refl [] w7).alloc _;have HBX:Hid (Blk (w7.alloc (.cells #[.int .i64 i,.int .i64 q,.int .i64 (x - 20),.int .i64 0] 147)) w7.heap.size #[.int .i64 i,.int .i64 q,.int .i64 (x - 20),.int .i64 0] 147/\w7.heap.size<=w7.heap.size):=⟨Blk.new _ _ _,nR _⟩
        have hnb:∃ nb,nb=w7.heap.size:=⟨_,rfl⟩
        obtain ⟨nb,hnb⟩:=hnb;rw [<- hnb];rw [<- hnb] at HBX;have HNB:Hid (nb=w7.heap.size):=hnb;clear hnb;generalize w7.alloc (.cells #[.int .i64 i,.int .i64 q,.int .i64 (x - 20),.int .i64 0] 147)=w8 at *
        go_upto_if 129 with fail
        go_cut [] from 129 to 133 (fun wx=>∃ (d:DDelta) (t2:Mk.S),Hid (deP i p L2 su=(L2++[d],t2))/\Hid (I64 d.region/\I64 d.point/\I64 d.x/\I64 d.y)/\Hid (DeSt w m sv l f gb B6 (gC nm (100+a*50) mk (.slice op o.pts.length cp) ve vr va (.slice od L2.length cd) nilV) ⟨ByteArray.empty,0,false,o.pts,o.ends,ps,an,[],[]⟩ (.slice op o.pts.length cp) ve vr va nilV nilV (.slice od L2.length cd) L2 t2 wx)/\Hid (Blk wx nb #[.int .i64 d.region,.int .i64 d.point,.int .i64 d.x,.int .i64 d.y] 147))
        case first =>
         by_cases hp0:p=0
         ·have k5:decide ((0:Int)<=q)=false:=dF (by have:=HQ.out;omega);have k6:¬ (0:Int)<=q:=by have:=HQ.out;omega
          go_wp2;go_meet
          case rel =>
           refine ⟨⟨i,q,x - 20,0⟩,t1,?_,⟨HXI.out.2.1,HXI.out.2.2,HXI.out.1,(I64.of (by decide) (by decide):I64 0)⟩,DeSt.stays _ _ HX2.out HAL.out,HBX.out.1⟩;have:q=-1:=by have:=HQ.out;omega
           unfold deP;rw [Mk.bind_eq HZ.out,if_pos rfl,Mk.bind_eq HXN.out,if_pos hp0,this];exact rfl
         ·have k5:decide ((0:Int)<=q)=true:=dT (by have:=HQ.out;omega);have k6:(0:Int)<=q:=by have:=HQ.out;omega
          obtain ⟨y,t2,hy⟩:∃ a b,Mk.next 41 t1=(a,b):=⟨_,_,rfl⟩
          have iy:=next_in (by decide) hy;have y1:IntKind.i64.wrap (y - 20)=y - 20:=wrapi (by omega) (by omega);have HYI:Hid (I64 (y - 20)):=I64.of (by omega) (by omega);have CY:=Hi (CN.out t1 y t2 41 (by decide) (by decide) hy w8 (MK.stays _ _ HX2.out.gl.mkr HAL.out));have HYN:=Hi hy;clear hy iy;go_wp2_with fail;refine CY.out.mono ?_;rintro e w9 ⟨rfl,K9,M9⟩;have hbn:m<nb:=by have:=HNB.out;have:=HX2.out.gl.ord;omega
          have HB9:=Hi (HBX.out.1.kept M9 (by simp;omega));have c3:w9.cell? ⟨nb,3,none⟩=some (.int .i64 0):=HB9.out.cell 3;have f3:=HB9.out.frozen 3;have HX9:Hid (DeSt w m sv l f gb B6 (gC nm (100+a*50) mk (.slice op o.pts.length cp) ve vr va (.slice od L2.length cd) nilV) ⟨ByteArray.empty,0,false,o.pts,o.ends,ps,an,[],[]⟩ (.slice op o.pts.length cp) ve vr va nilV nilV (.slice od L2.length cd) L2 t2 (w9.setCell ⟨nb,3,none⟩ (.int .i64 (y - 20)))) :=
           HX2.out.call (K9.set (p:=⟨nb,3,none⟩) hbn _) (((HAL.out.more (by simp)).then M9).setNew (p:=⟨nb,3,none⟩) (by have:=HNB.out;show w7.heap.size<=nb;omega) _)
          have HBY:=Hi (HB9.out.set 3 (.int .i64 (y - 20)));clear K9 M9 CY hbn;go_wp2;go_meet
          case rel =>
           refine ⟨⟨i,q,x - 20,y - 20⟩,t2,?_,⟨HXI.out.2.1,HXI.out.2.2,HXI.out.1,HYI.out⟩,HX9.out,HBY.out⟩;have:q=(p:Int) - 1:=HQ.out;unfold deP;rw [Mk.bind_eq HZ.out,if_pos rfl,Mk.bind_eq HXN.out,if_neg hp0,Mk.bind_eq HYN.out,this];exact rfl
        case rest =>
         obtain ⟨d,t2,HD,HDI,HX9,HBD⟩:=hcut;clear HX2 HAL HBX HNB HXN HZ;have b7:wc.cell? ⟨gb,7,none⟩=some (.slice od L2.length cd):=HX9.out.gl.blk.cell 7;have d0:wc.cell? ⟨nb,0,none⟩=some (.int .i64 d.region):=HBD.out.cell 0;have d1:wc.cell? ⟨nb,1,none⟩=some (.int .i64 d.point):=HBD.out.cell 1;have d2:wc.cell? ⟨nb,2,none⟩=some (.int .i64 d.x):=HBD.out.cell 2;have d3:wc.cell? ⟨nb,3,none⟩=some (.int .i64 d.y):=HBD.out.cell 3;go_wp2_with (at_builtin;refine wpList_push (k:=4) (e:=147) (base:=B6) (l:=L2) (l':=[d]) rfl _ _ 43 rfl dq0 _ 32 Tryz.underlying43 dqi dqz0 dqz1 dqz2 rfl (by decide) SDelta.stay SDelta.weak rfl (HX9.out.gr.mod SDelta.stay (mR.alloc _)) ⟨wc.heap.size,0,none⟩ _ _ [[.int .i64 d.region,.int .i64 d.point,.int .i64 d.x,.int .i64 d.y]] rfl rfl (Elems.one rfl ⟨rfl,HDI.out⟩) (fun j u hu=>blk_news (Blk.new wc #[.int .i64 d.region,.int .i64 d.point,.int .i64 d.x,.int .i64 d.y] 147) rfl hu) (by simp [Value.oneCell']) ?_ ?_ ?_ ?_)
         ·have h4:=HLL2.out;have h5:=HIN.out;have h6:=HP.out;have h7:=HPL.out;have h8:=HN.out;unfold maxLen;simp;omega
         ·have h4:=HLL2.out;have h5:=HIN.out;have h6:=HP.out;have h7:=HPL.out;have h8:=HN.out;simp;omega
         ·have:=HX9.out.gl.ord;simp;omega
         intro v' w9 hGP hgr _;obtain ⟨od',cd',rfl⟩:=hGP.form;have hnl:(L2++[d]).length=L2.length+1:=by simp
         rw [hnl] at hGP;have HNL:=Hi hnl;clear hnl;have hX:=DeSt.stays _ _ HX9.out (mR.alloc (.cells #[.int .i64 d.region,.int .i64 d.point,.int .i64 d.x,.int .i64 d.y] 147));have HXA:=Hi (hX.push hGP hgr);have g7c:w9.cell? ⟨gb,7,none⟩=some (.slice od L2.length cd):=(hX.gl.grown hgr fun b hb=>(hX.gr.lt b hb).1).blk.cell 7;have g7f:=(hX.gl.grown hgr fun b hb=>(hX.gr.lt b hb).1).blk.frozen 7;clear hGP hgr hX HX9 HBD b7 d0 d1 d2 d3;go_wp2;go_roundg (gk - 1)
         case measure=>have:=hp5.out;have:=HP.out;omega
         case rel =>
          refine ⟨p+1,q+1,L2++[d],t2,od',cd',rfl,?_,?_,?_,?_,by rw [HNL.out];exact HXA.out⟩
          ·have:=HQ.out;show q+1=((p+1:Nat):Int) - 1;omega
          ·have:=hp5.out;have:=HP.out;show p+1+(gk - 1)=_;omega
          ·show Mk.rep (p+1) (deP i) L st=_;rw [Mk.rep_next HR2.out];exact HD.out
          ·have:=HLL2.out;show (L2++[d]).length<=i*11+(p+1);rw [HNL.out];omega
     case rest =>
      obtain ⟨od,cd,B7,HS8⟩:=hcut;clear HS7 H7;generalize (Value.slice od de.length cd)=vd at *
      obtain ⟨hi,s8,h8⟩:∃ a b,Mk.hint o.pts.length nf 6 ⟨s7.r,2⟩=(a,b):=⟨_,_,rfl⟩
      have HE2:=HE.out;rw [Mk.bind_eq h8] at HE2;obtain ⟨hrg1,hrs1⟩:rg=⟨nm,100+a*50,mk,o.pts,o.ends,ps,an,de,hi⟩/\s8=rs:=by simpa using And.intro (congrArg Prod.fst HE2).symm (congrArg Prod.snd HE2)
      subst hrs1;have HRG1:=Hi hrg1;have b11:wc.cell? ⟨m,11,none⟩=some (.int .i64 s7.lp):=HS8.out.mkr.blk.cell 11;have f11:wc.frozen? ⟨m,11,none⟩=false:=HS8.out.mkr.blk.frozen 11;have HS9:=Hi (HS8.out.lps 2 (by decide) (by decide));have CHX:=Hi (CH.out ⟨s7.r,2⟩ o.pts.length hi s8 (by omega) (by have:=HPL.out;omega) (by omega) (by have:=HN.out;omega) h8);clear HE HE2 HS8 h8 CN CH hrg1;go_upto_region 25 with fail;generalize wc.setCell ⟨m,11,none⟩ (.int .i64 2)=wd at *
      have B3:∀ W,MkI m sv l f wd W->W.cell? ⟨gb,3,none⟩=some (.slice op o.pts.length cp):=fun W k=>HS9.out.gcell k.1 3
      have B9:∀ W,MkI m sv l f wd W->W.cell? ⟨m,9,none⟩=some (.slice oF nf cF):=fun W k=>k.2.elim fun _ h9=>(h9.blk.cell 9).trans (congrArg some HFN.out)
      have HI0:MkI m sv l f wd wd.drew:=⟨mR.drew,_,MK.stays _ _ HS9.out.mkr (mR.drew)⟩
      clear b11 f11;refine Sw.wp_region_sw (I:=MkI m sv l f wd) (F0:=GlSt w m sv l f gb B7 ⟨s7.r,2⟩ (gC nm (100+a*50) mk (.slice op o.pts.length cp) ve vr va vd nilV) ⟨ByteArray.empty,0,false,o.pts,o.ends,ps,an,de,[]⟩ (.slice op o.pts.length cp) ve vr va vd nilV) MkI.then 12 [(0,none),(1,none),(2,none),(3,none),(4,none),(5,none),(6,none),(7,none),(8,none),(9,none),(10,none),(11,some (GlHint w m sv l f gb s8 (gC nm (100+a*50) mk (.slice op o.pts.length cp) ve vr va vd nilV) ⟨ByteArray.empty,0,false,o.pts,o.ends,ps,an,de,hi⟩ (.slice op o.pts.length cp) ve vr va vd hi.length))] (by kernel_rfl) (by kernel_rfl) (Sq.nodup_of (by kernel_rfl)) ?hTS1156 HI0 GlSt.stays (GlSt.stays _ _ HS9.out (mR.drew)) ?mainS1156
      case hTS1156 =>
       intro p hp T hT v;simp only [List.mem_cons,List.not_mem_nil,or_false] at hp;rcases hp with rfl | rfl | rfl | rfl | rfl | rfl | rfl | rfl | rfl | rfl | rfl | rfl <;> first | (cases hT;done) | (cases hT;first | exact GlHint.stays _)
      iterate 11 refine Sw.vv HI0 ?_
      refine Sw.xx (fun w' hw' hF K Q hK=>?_) (fun kv hkv=>?_)
      ·go_wp2_with fail;refine (CHX.out w' hF.mkr).mono ?_;rintro e w'' ⟨v,rfl,hv,K',M'⟩;obtain ⟨oh,ch,rfl,-⟩:=hv.form;go_wp2;exact hK _ _ ⟨hw'.1.then M',_,K'⟩ ⟨oh,ch,_,rfl,hF.hintDone K' M' hv⟩
      obtain ⟨_,_,oh,ch,_,rfl,_⟩:=hkv;refine Sw.nil_go ?_;intro w' hw' hF;simp only [qS,qZ];obtain ⟨oh9,ch9,B8,he9,hG9⟩:=hF;cases he9;have c8:w'.cell? ⟨gb,8,none⟩=some (.slice none 0 0):=hG9.blk.cell 8;have f8:=hG9.blk.frozen 8;have HSA:Hid (GlSt w m sv l f gb B8 s8 (gC nm (100+a*50) mk (.slice op o.pts.length cp) ve vr va vd (.slice oh hi.length ch)) ⟨ByteArray.empty,0,false,o.pts,o.ends,ps,an,de,hi⟩ (.slice op o.pts.length cp) ve vr va vd (.slice oh hi.length ch) (w'.setCell ⟨gb,8,none⟩ (.slice oh hi.length ch))):=hG9.set 8 (.slice oh hi.length ch);clear hG9 hw' HS9 B3 B9 CHX;go_upto_region 26 with fail;generalize w'.setCell ⟨gb,8,none⟩ (.slice oh hi.length ch)=we at *
      generalize (Value.slice oh hi.length ch)=vh at *
      generalize (Value.slice op o.pts.length cp)=vp at *
      clear c8 f8;obtain ⟨nn,hnn⟩:∃ x,x=100+a*50:=⟨_,rfl⟩
      rw [<- hnn] at HSA HA;have HNN:=Hi hnn;clear hnn;have HAG:∀ W,Mod f.gl.ownBlock.toList we W->∀ i,W.cell? ⟨gb,i,none⟩=(gC nm nn mk vp ve vr va vd vh)[i]?:=fun W k i=>(HSA.out.blk.kept k (fun hb=>by have:=(HG0.out.lt gb (by simpa using hb)).2;have:=HSA.out.ord;omega)).cell i
      have HAM:∀ W,Mod f.gl.ownBlock.toList we W->∀ i,W.cell? ⟨m,i,none⟩=(mkC sv (l.length - s8.r.length) f s8.lp)[i]?:=fun W k i=>(HSA.out.mkr.blk.kept k (fun hb=>by have:=(HG0.out.lt m (by simpa using hb)).1;have:=HBS.out;omega)).cell i
      have A0:∀ W,Mod f.gl.ownBlock.toList we W->W.cell? ⟨gb,0,none⟩=some (.string nm):=fun W k=>HAG W k 0
      have A1:∀ W,Mod f.gl.ownBlock.toList we W->W.cell? ⟨gb,1,none⟩=some (.int .i64 nn):=fun W k=>HAG W k 1
      have A2:∀ W,Mod f.gl.ownBlock.toList we W->W.cell? ⟨gb,2,none⟩=some (.bool mk):=fun W k=>HAG W k 2
      have A3:∀ W,Mod f.gl.ownBlock.toList we W->W.cell? ⟨gb,3,none⟩=some vp:=fun W k=>HAG W k 3
      have A4:∀ W,Mod f.gl.ownBlock.toList we W->W.cell? ⟨gb,4,none⟩=some ve:=fun W k=>HAG W k 4
      have A5:∀ W,Mod f.gl.ownBlock.toList we W->W.cell? ⟨gb,5,none⟩=some vr:=fun W k=>HAG W k 5
      have A6:∀ W,Mod f.gl.ownBlock.toList we W->W.cell? ⟨gb,6,none⟩=some va:=fun W k=>HAG W k 6
      have A7:∀ W,Mod f.gl.ownBlock.toList we W->W.cell? ⟨gb,7,none⟩=some vd:=fun W k=>HAG W k 7
      have A8:∀ W,Mod f.gl.ownBlock.toList we W->W.cell? ⟨gb,8,none⟩=some vh:=fun W k=>HAG W k 8
      have B3:∀ W,Mod f.gl.ownBlock.toList we W->W.cell? ⟨m,3,none⟩=some f.gl:=fun W k=>HAM W k 3
      have HNZ:Hid (nm.size<=maxLen):=by
       have h4:=HNM.out;show nm.size<=maxLen;rw [h4]
       split
       ·decide
       ·show 2<=maxLen;decide
      have HLB:Hid (L.length+1<=maxLen/\(L.length+1)*176<=140737488355328):=by have h4:=HL.out;refine ⟨?_,by omega⟩;unfold maxLen;omega
      clear HAG HAM;refine Sw.wp_region_sw (I:=Mod f.gl.ownBlock.toList we) (F0:=GlSt w m sv l f gb B8 s8 (gC nm nn mk vp ve vr va vd vh) ⟨ByteArray.empty,0,false,o.pts,o.ends,ps,an,de,hi⟩ vp ve vr va vd vh) (fun _ _ h k=>h.then (k.more (by simp))) 9 [(0,none),(1,none),(2,none),(3,none),(4,none),(5,none),(6,none),(7,some (NewAnd we.heap.size (gC nm nn mk vp ve vr va vd vh) 46 1 (GlSt w m sv l f gb B8 s8 (gC nm nn mk vp ve vr va vd vh) ⟨ByteArray.empty,0,false,o.pts,o.ends,ps,an,de,hi⟩ vp ve vr va vd vh))),(8,some (GlPushed w m bs sv l f (L++[⟨nm,nn,mk,o.pts,o.ends,ps,an,de,hi⟩]) s8))] (by kernel_rfl) (by kernel_rfl) (Sq.nodup_of (by kernel_rfl)) ?hTS1263 (((Mod.refl [] we).drew).more (by simp)) GlSt.stays (GlSt.stays _ _ HSA.out (mR.drew)) ?mainS1263
      case hTS1263 =>
       intro p hp T hT v;simp only [List.mem_cons,List.not_mem_nil,or_false] at hp;rcases hp with rfl | rfl | rfl | rfl | rfl | rfl | rfl | rfl | rfl <;> first | (cases hT;done) | (cases hT;first | exact GlPushed.stays _ | exact NewAnd.stays GlSt.stays _)
      iterate 7 refine Sw.vv (w0:=we.drew) (((Mod.refl [] we).drew).more (by simp)) ?_
      refine Sw.xx (fun w' hw' hF K Q hK=>?_) (fun kv hkv=>?_)
      ·go_wp2;exact hK _ _ (hw'.alloc _) ⟨⟨_,rfl,hw'.size,Blk.new _ _ _⟩,GlSt.stays _ _ hF (mR.alloc _)⟩
      obtain ⟨_,_,⟨nb,rfl,hnb,_⟩,_⟩:=hkv;refine Sw.xx (fun w' hw' hF K Q hK=>?_) (fun kv hkv=>?_)
      ·obtain ⟨⟨b9,he9,-,hB⟩,hO⟩:=hF;cases he9;refine oper_push (v:=f.gl) (k:=9) (e:=46) (base:=bs) (l:=L) (l':=[⟨nm,nn,mk,o.pts,o.ends,ps,an,de,hi⟩]) rfl _ _ 24 rfl eq0 _ 176 Tryz.underlying24 eqi eqz0 eqz1 eqz2 rfl (by decide) SGlyph.stay SGlyph.weak rfl (rowKept HBS.out HG0.out hO.mod) ⟨nb,0,none⟩ _ _ [[.string nm,.int .i64 nn,.bool mk,vp,ve,vr,va,vd,vh]] rfl rfl (hO.elem HG0.out HNZ.out HA.out) (fun j u hu=>blk_news hB rfl hu) (hO.one nm nn mk) HLB.out.1 HLB.out.2 (nT HBS.out.2 hO.mod.size) (fun v' w'' hGP (hgr:w'.grownBy w'' f.gl.ownBlock) _=>?_);obtain ⟨ov',cv',rfl⟩:=hGP.form;exact hK _ _ (hw'.grewSame hgr) ⟨ov',cv',rfl,hGP,hO.mkr.grown hgr (rowLt HBS.out HG0.out),hO.mod.grewOld hgr⟩
      obtain ⟨_,_,ov',cv',rfl,_⟩:=hkv;refine Sw.nil_go ?_;intro w' hw' hF;simp only [qS,qZ];obtain ⟨ov,cv,he9,hGP,hm9,hMD⟩:=hF;cases he9;have hnl:(L++[(⟨nm,nn,mk,o.pts,o.ends,ps,an,de,hi⟩:DGlyph)]).length=L.length+1:=by simp
      rw [hnl] at hGP ⊢;clear hnl;have c3:w'.cell? ⟨m,3,none⟩=some f.gl:=hm9.blk.cell 3;have f3:=hm9.blk.frozen 3;have HGP:=Hi hGP;have HM9:=Hi hm9;have HMD:=Hi hMD;clear hGP hMD hm9 HSA A0 A1 A2 A3 A4 A5 A6 A7 A8 B3 hw';go_wp2_with fail;refine bodyPost_end (results_none rfl _ _ _) rfl ?_;refine ⟨.slice ov' (L.length+1) cv',rfl,?_,⟨HM9.out.blk.set 3 (.slice ov' (L.length+1) cv'),HM9.out.num.same SInt.stay (SameB.set w' (by simp) _),HM9.out.suf,HM9.out.lp0,HM9.out.lp1⟩,HMD.out.setCell (p:=⟨m,3,none⟩) (fun _=>by simp) _⟩;rw [HRG1.out,<- HNN.out];exact HGP.out.set SGlyph.stay (fun he=>by have h8:bs<=m:=(HGP.out.lt _ he).1;have h9:=HBS.out;omega) (fun h=>Nat.lt_irrefl m h) _
end Go.Proofs.YthheaflbbficgaaGreat

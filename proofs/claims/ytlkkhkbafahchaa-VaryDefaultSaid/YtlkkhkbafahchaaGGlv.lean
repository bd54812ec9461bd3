/- VaryShifts, VaryGlyphP, VaryCopy, VaryStill, VaryGlyphI, VaryGlyph, VaryGlyph2. -/
import Derived.Test.YtlkkhkbafahchaaGBase
import Derived.Test.YtlkkhkbafahchaaGRing
import Derived.Test.YtlkkhkbafahchaaGFac
import Derived.Test.YtlkkhkbafahchaaGRat
set_option linter.all false
namespace Go.Proofs.Ytlkkhkbafahchaa
open Go.RowKit
set_option maxRecDepth 100000
theorem Try.und_SMap:Try.prog.underlying 104=some (.map 3 107):=by kernel_rfl
theorem Try.zero_Shift (w:World):(zeroValue 107).run Try.prog w=.ok (.agg #[.int .i64 0,.int .i64 0,.int .i64 0,.int .i64 0]) w:=by kernel_rfl
abbrev Sh:=(Int×Int)×(Int×Int)
def shV (x:Sh):Value:=.agg #[.int .i64 x.1.1,.int .i64 x.1.2,.int .i64 x.2.1,.int .i64 x.2.2]
def ShIn (x:Sh):Prop:=(I64 x.1.1/\I64 x.1.2)/\I64 x.2.1/\I64 x.2.2
def regTents (regs:List DRegion) (r:Int):List DTent:=((regs[r.toNat]?).map (·.tents)).getD []
def Vr.shiftStep (regs:List DRegion) (xs:List (Int×Int)) (np:Nat) (m:List (Int×Sh)) (d:DDelta):Except Int (List (Int×Sh)) :=
 if 0<=d.region/\d.region.toNat<regs.length then
  if -1<=d.point/\d.point<np then
   match Vr.grownR ((lookP m d.point).getD ((0,1),(0,1))).1 d.x (Vr.factorR (regTents regs d.region) xs) with
   | none=>.error 3
   | some a=>match Vr.grownR ((lookP m d.point).getD ((0,1),(0,1))).2 d.y (Vr.factorR (regTents regs d.region) xs) with
    | none=>.error 3
    | some b=>.ok (putP m d.point (a,b))
  else .error 30
 else .error 61
def Vr.shiftsR (regs:List DRegion) (xs:List (Int×Int)) (np:Nat):List DDelta->List (Int×Sh)->Except Int (List (Int×Sh))
 | [],m=>.ok m
 | d::ds,m=>match Vr.shiftStep regs xs np m d with
  | .error e=>.error e
  | .ok m'=>Vr.shiftsR regs xs np ds m'
theorem factorR_in (ts:List DTent) (xs:List (Int×Int)):I64 (Vr.factorR ts xs).1/\I64 (Vr.factorR ts xs).2:=by
 unfold Vr.factorR
 split
 ·have key:∀ (ts:List (Int×Int×Int)) (xs:List (Int×Int)) (f:Int×Int),(I64 f.1/\I64 f.2)->∀ r,Vr.prodR ts xs f=some r->I64 r.1/\I64 r.2:=by
   intro ts
   induction ts with
   | nil=>intro xs f hf r hr;unfold Vr.prodR at hr;cases hr;exact hf
   | cons t ts ih =>
    intro xs f hf r hr;cases xs with
    | nil=>unfold Vr.prodR at hr;cases hr;exact hf
    | cons x xs =>
     unfold Vr.prodR at hr
     split at hr
     ·split at hr
      ·rename_i u _ _;refine ih xs _ ?_ r hr;have:=mulR_in f.1 f.2 u.1 u.2;unfold I64;simp only;omega
      ·cases hr
     ·cases hr
  cases hp:Vr.prodR (ts.map triple) xs (1,1) with
  | none=>unfold I64;simp
  | some r=>exact key _ _ _ (by unfold I64;simp) r hp
 ·unfold I64;simp
theorem factor_in2 (ts:List DTent) (xs:List (Int×Int)):I64 (Vr.factorR ts xs).1/\I64 (Vr.factorR ts xs).2:=factorR_in ts xs
theorem look_in {m:List (Int×Sh)} (h:∀ p∈m,ShIn p.2) (k:Int):ShIn ((lookP m k).getD ((0,1),(0,1))):=by
 unfold lookP;cases hf:m.find? (fun p=>p.1 == k) with
 | none=>unfold ShIn I64;simp
 | some p=>exact h p (List.mem_of_find?_eq_some hf)
theorem put_in {m:List (Int×Sh)} (h:∀ p∈m,ShIn p.2) (k:Int) {v:Sh} (hv:ShIn v):∀ p∈putP m k v,ShIn p.2:=by
 intro p hp;unfold putP at hp
 split at hp
 ·obtain ⟨q,hq,rfl⟩:=List.mem_map.1 hp
  split
  ·exact hv
  ·exact h q hq
 ·rcases List.mem_append.1 hp with hp | hp
  ·exact h p hp
  ·obtain rfl:=List.mem_singleton.1 hp;exact hv
def ShiftsRes (r:Except Int (List (Int×Sh))) (fb:Nat) (regs:List DRegion) (xs:List (Int×Int)) (w:World) (e:Ending) (w':World):Prop :=
 Mod [fb] w w'/\FacMap w' fb regs xs/\match r with
 | .ok m=>∃ sb,e=.returned (.map (some sb))/\w.heap.size<=sb/\IMap w' sb (mapP shV m)/\∀ p∈m,ShIn p.2
 | .error k=>e=.panicked [{ v:=.iface 40 (.int .i64 k),recovered:=false }]
set_option maxHeartbeats 8000000 in
theorem shifts_any (u:Int) (g c l fe ax rg fu cv at':Hd) (fb:Nat) (regs:List DRegion) (xs:List (Int×Int)) (gl:DGlyph) (gc:List Value) (B B2 B3:Nat) (w0 w:World) (hm:Mod [] w0 w) (hfb:w0.heap.size<=fb)
  (hR:Rows 1 RRegion B w0 (.slice rg.a rg.n rg.c) regs) (hX:Rows 2 RRat B2 w0 (.slice at'.a at'.n at'.c) xs) (hG:RGlyph B3 w0 gc gl) (hF:FacMap w fb regs xs) :
  Calls Try.prog 37 #[.agg (spotCells u g c l fe ax rg fu cv at' fb),.agg gc.toArray] w (ShiftsRes (Vr.shiftsR regs xs gl.pts.length gl.deltas []) fb regs xs w):=by
 obtain ⟨rga,rgn,rgc⟩:=rg;obtain ⟨ata,atn,atc⟩:=at';simp only at hR hX;have hrn:rgn=regs.length:=by obtain ⟨oa,cap,he,_⟩:=hR;cases he;rfl
 have han:atn=xs.length:=by obtain ⟨oa,cap,he,_⟩:=hX;cases he;rfl
 subst hrn han;obtain ⟨v3,v4,v5,v6,v7,v8,rfl,hn,ha,h3,h4,h5,h6,h7,h8⟩:=hG;obtain ⟨o3,c3,rfl,-⟩:=h3.form;obtain ⟨o4,c4,rfl,-⟩:=h4.form;obtain ⟨o5,c5,rfl,-⟩:=h5.form;obtain ⟨o6,c6,rfl,-⟩:=h6.form;obtain ⟨o7,c7,rfl,hdm⟩:=h7.form;obtain ⟨o8,c8,rfl,-⟩:=h8.form;have hml:maxLen<=9223372036854775807:=by decide
 obtain ⟨name,adv,mark,pts,ends,parts,anchors,deltas,hint⟩:=gl;simp only at *
 have HDL:=Hi (Nat.le_trans hdm hml);have hfl:fb<w.heap.size:=by obtain ⟨m,h1,_⟩:=hF;exact h1.lt
 have T:=Hi (OwnF.of (F:=[fb]) (own2 w (spotCells u g c l fe ax ⟨rga,regs.length,rgc⟩ fu cv ⟨ata,xs.length,atc⟩ fb) 70 #[.string name,.int .i64 adv,.bool mark,.slice o3 pts.length c3,.slice o4 ends.length c4,.slice o5 parts.length c5,.slice o6 anchors.length c6,.slice o7 deltas.length c7,.slice o8 hint.length c8] 51) (by simpa using hfl));have HD:=Hi h7;have HFL:=Hi hfl;have HFB:=Hi hfb;have HM0:=Hi hm;have HRX:=Hi (And.intro hR hX);have HFAC:=Hi hF;clear h3 h4 h5 h6 h7 h8 hn ha hm hR hX hF hdm hml hfl hfb;unfold spotCells at T ⊢;simp only at T ⊢;obtain ⟨res,hres⟩:∃ res,Vr.shiftsR regs xs pts.length deltas []=res:=⟨_,rfl⟩
 have HRES:=Hi hres;rw [hres];clear hres;go_enter Try.func37,Try.ntmps37;go_upto_region 1 with fail;have HF0:=Hi (HFAC.out.mod (((Mod.refl [] w).alloc (.cells #[.int .i64 u,.slice g.a g.n g.c,.slice c.a c.n c.c,.slice l.a l.n l.c,.slice fe.a fe.n fe.c,.slice ax.a ax.n ax.c,.slice rga regs.length rgc,.slice fu.a fu.n fu.c,.slice cv.a cv.n cv.c,.slice ata xs.length atc,.map (some fb)] 70)).alloc (.cells #[.string name,.int .i64 adv,.bool mark,.slice o3 pts.length c3,.slice o4 ends.length c4,.slice o5 parts.length c5,.slice o6 anchors.length c6,.slice o7 deltas.length c7,.slice o8 hint.length c8] 51)));generalize (w.alloc (.cells #[.int .i64 u,.slice g.a g.n g.c,.slice c.a c.n c.c,.slice l.a l.n l.c,.slice fe.a fe.n fe.c,.slice ax.a ax.n ax.c,.slice rga regs.length rgc,.slice fu.a fu.n fu.c,.slice cv.a cv.n cv.c,.slice ata xs.length atc,.map (some fb)] 70)).alloc (.cells #[.string name,.int .i64 adv,.bool mark,.slice o3 pts.length c3,.slice o4 ends.length c4,.slice o5 parts.length c5,.slice o6 anchors.length c6,.slice o7 deltas.length c7,.slice o8 hint.length c8] 51)=W0 at *
 have hmm:(Instr.makeMap 104 none).run Try.prog W0=.ok (.map (some W0.heap.size)) (W0.alloc (.map #[] 0)):=rfl;have HIM:=Hi (IMap.new W0);have T1:=Hi (T.out.call ((Mod.refl _ _).alloc (.map #[] 0)));have HF1:=Hi (HF0.out.mod ((Mod.refl [] _).alloc (.map #[] 0)));have hmb:=T.out.lt 1 rfl;have HMB:=Hi (show w.heap.size+2<=W0.heap.size by omega);clear hmb;go_upto_region 2 with fail;generalize W0.alloc (.map #[] 0)=W1 at *
 generalize W0.heap.size=mb at *
 clear hmm T HF0 HFAC;have p6:W1.cell? ⟨w.heap.size+1,7,none⟩=some (.slice o7 deltas.length c7):=by rw [(T1.out.at 1 rfl).cell];rfl
 go_wp2_with fail;clear p6
 go_loopg [15] deltas.length (fun gk i wr=>∃ (j:Nat) (m:List (Int×Sh)),Hid (j+gk=deltas.length)/\i=.int .i64 (j:Int)/\Hid (OwnF [fb] w wr [(w.heap.size,#[.int .i64 u,.slice g.a g.n g.c,.slice c.a c.n c.c,.slice l.a l.n l.c,.slice fe.a fe.n fe.c,.slice ax.a ax.n ax.c,.slice rga regs.length rgc,.slice fu.a fu.n fu.c,.slice cv.a cv.n cv.c,.slice ata xs.length atc,.map (some fb)],70),(w.heap.size+1,#[.string name,.int .i64 adv,.bool mark,.slice o3 pts.length c3,.slice o4 ends.length c4,.slice o5 parts.length c5,.slice o6 anchors.length c6,.slice o7 deltas.length c7,.slice o8 hint.length c8],51)]/\IMap wr mb (mapP shV m)/\FacMap wr fb regs xs/\Vr.shiftsR regs xs pts.length (deltas.drop j) m=res/\∀ p∈m,ShIn p.2))
 case atStart=>exact ⟨0,[],by show 0+deltas.length=deltas.length;omega,rfl,T1.out,HIM.out,HF1.out,HRES.out,by simp⟩
 case round =>
  obtain ⟨j,m,hj,rfl,HI⟩:=hrel;clear T1 HIM HF1 HRES
  by_cases hjN:j<deltas.length
  case neg =>
   have hjN':j=deltas.length:=by have:=hj.out;omega
   subst hjN';have k1:decide ((deltas.length:Int)<(deltas.length:Int))=false:=decide_eq_false (by omega);go_wp2_with fail;go_ret;obtain ⟨g1,g2,g3,g4,g5⟩:=HI.out;have:res=.ok m:=by rw [<- g4,List.drop_length];rfl
   subst this;exact ⟨g1.mod,g3,mb,rfl,by have:=HMB.out;omega,g2,g5⟩
  have k1:decide ((j:Int)<(deltas.length:Int))=true:=decide_eq_true (by omega);have k2:(0:Int)<=j:=by omega
  have k3:(j:Int)<(deltas.length:Int):=by omega
  obtain ⟨g1,g2,g3,g4,g5⟩:=HI.out;have hm0:Mod [] w0 wr:=HM0.out.trans g1.mod (fun x hx hlt=>by simp at hx;subst hx;have:=HFB.out;omega);obtain ⟨a,rfl,-,cs,-,hc0,hcj,rfl,hi0,hi1,hi2,hi3⟩:=(HD.out.mod RDelta.stay hm0).at j hjN;have c0:=hc0 (by decide);have c1:=hcj 1 (by decide) (by decide);have c2:=hcj 2 (by decide) (by decide);have c3':=hcj 3 (by decide) (by decide);simp only [List.getElem?_cons_zero,List.getElem?_cons_succ] at c0 c1 c2 c3';have hstep:Vr.shiftsR regs xs pts.length (deltas.drop j) m=match Vr.shiftStep regs xs pts.length m (deltas[j]) with
    | .error e=>.error e
    | .ok m'=>Vr.shiftsR regs xs pts.length (deltas.drop (j+1)) m':=by rw [List.drop_eq_getElem_cons hjN];rfl
  rw [g4] at hstep;unfold Vr.shiftStep at hstep;have HIN:=Hi (And.intro hi0 (And.intro hi1 (And.intro hi2 hi3)));generalize (deltas[j]).region=dr at *
  generalize (deltas[j]).point=dp at *
  generalize (deltas[j]).x=dx at *
  generalize (deltas[j]).y=dy at *
  have HST:=Hi hstep;have HMW:=Hi hm0;have T2:=Hi (g1.alloc #[.int .i64 dr,.int .i64 dp,.int .i64 dx,.int .i64 dy] 95);have mAl:Mod [] wr (wr.alloc (.cells #[.int .i64 dr,.int .i64 dp,.int .i64 dx,.int .i64 dy] 95)):=(Mod.refl _ _).alloc _;have HX2:=Hi (And.intro (g2.mod mAl) (And.intro (g3.mod mAl) (And.intro g5 (HMW.out.then mAl))));clear g1 g2 g3 g4 g5 hm0 hc0 hcj hstep hi0 hi1 hi2 hi3 mAl HI hjN;go_upto_region 5 with fail;generalize wr.alloc (.cells #[.int .i64 dr,.int .i64 dp,.int .i64 dx,.int .i64 dy] 95)=W2 at *
  generalize wr.heap.size=bd at *
  clear c0 c1 c2 c3';have f6:W2.cell? ⟨w.heap.size,6,none⟩=some (.slice rga regs.length rgc):=by rw [(T2.out.at 0 rfl).cell];rfl
  have f3:W2.cell? ⟨w.heap.size+1,3,none⟩=some (.slice o3 pts.length c3):=by rw [(T2.out.at 1 rfl).cell];rfl
  have D0:=(T2.out.at 2 rfl).cell 0;have D1:=(T2.out.at 2 rfl).cell 1
  by_cases h1:dr<0
  ·have e1:decide (dr<0)=true:=decide_eq_true h1;go_wp2_with fail;obtain ⟨z1,z2,z3,z4⟩:=HX2.out;have:res=.error 61:=by have:=HST.out;rw [if_neg (by omega)] at this;exact this
   subst this;exact ⟨rfl,T2.out.mod,z2,rfl⟩
  have e1:decide (dr<0)=false:=decide_eq_false h1
  by_cases h2:(regs.length:Int)<=dr
  ·have e2:decide ((regs.length:Int)<=dr)=true:=decide_eq_true h2;go_wp2_with fail;obtain ⟨z1,z2,z3,z4⟩:=HX2.out;have:res=.error 61:=by have:=HST.out;rw [if_neg (by omega)] at this;exact this
   subst this;exact ⟨rfl,T2.out.mod,z2,rfl⟩
  have e2:decide ((regs.length:Int)<=dr)=false:=decide_eq_false h2
  by_cases h3:dp < -1
  ·have e3:decide (dp < -1)=true:=decide_eq_true h3;go_wp2_with fail;obtain ⟨z1,z2,z3,z4⟩:=HX2.out;have:res=.error 30:=by have:=HST.out;rw [if_pos (by omega),if_neg (by omega)] at this;exact this
   subst this;exact ⟨rfl,T2.out.mod,z2,rfl⟩
  have e3:decide (dp < -1)=false:=decide_eq_false h3
  by_cases h4:(pts.length:Int)<=dp
  ·have e4:decide ((pts.length:Int)<=dp)=true:=decide_eq_true h4;go_wp2_with fail;obtain ⟨z1,z2,z3,z4⟩:=HX2.out;have:res=.error 30:=by have:=HST.out;rw [if_pos (by omega),if_neg (by omega)] at this;exact this
   subst this;exact ⟨rfl,T2.out.mod,z2,rfl⟩
  have e4:decide ((pts.length:Int)<=dp)=false:=decide_eq_false h4;obtain ⟨ri,rfl⟩:∃ ri:Nat,dr=(ri:Int):=⟨dr.toNat,by omega⟩
  have hri:ri<regs.length:=by omega
  have hst:=HST.out;rw [if_pos (by omega),if_pos (by omega)] at hst;have hrt:regTents regs (ri:Int)=(regs[ri]).tents:=by unfold regTents;simp [hri]
  rw [hrt] at hst;have HSF:=Hi (sfactor_any u g c l fe ax ⟨rga,regs.length,rgc⟩ fu cv ⟨ata,xs.length,atc⟩ fb regs xs B B2 w0 W2 HX2.out.2.2.2 HFB.out ri hri HRX.out.1 (HRX.out.2.mod RRat.stay HX2.out.2.2.2) HX2.out.2.1);have hfi:=factor_in2 (regs[ri]).tents xs;unfold spotCells ratV at HSF;generalize Vr.factorR (regs[ri]).tents xs=fr at *
  obtain ⟨fa,fc⟩:=fr;have HST2:=Hi hst;have HFI:=Hi hfi;simp only at HSF;clear h1 h2 h3 h4 hst hrt HST hfi;go_upto_region 9 with fail;clear f6 f3 D0 D1 e1 e2 e3 e4;have S0:=fun k=>(T2.out.at 0 rfl).cell k
  have D0:=(T2.out.at 2 rfl).cell 0;go_wp2_with fail;refine HSF.out.mono ?_;rintro e w3 ⟨rfl,m3,hf3⟩;have T3:=Hi ((T2.out.callF m3).alloc #[.int .i64 fa,.int .i64 fc] 64);have hmbf:mb ∉ [fb]:=by have:=HMB.out;have:=HFL.out;simp;omega
  have mAl:Mod [] w3 (w3.alloc (.cells #[.int .i64 fa,.int .i64 fc] 64)):=(Mod.refl _ _).alloc _;have HX3:=Hi (And.intro ((HX2.out.1.modF m3 hmbf).mod mAl) (And.intro (hf3.mod mAl) HX2.out.2.2.1));clear S0 D0 T2 HX2 HSF m3 hf3 mAl hmbf;go_upto_region 10 with fail;generalize w3.alloc (.cells #[.int .i64 fa,.int .i64 fc] 64)=W3 at *
  generalize w3.heap.size=b8 at *
  have D1:=(T3.out.at 2 rfl).cell 1;have hlk:=run_look (P:=Try.prog) HX3.out.1 Try.und_SMap Try.underlying3 (Try.zero_Shift W3) dp true;rw [look_mapP] at hlk;have hsi:=look_in HX3.out.2.2 dp;cases hlp:lookP m dp with
  | some sh =>
   rw [hlp] at hlk hsi;have hst2:=HST2.out;rw [hlp] at hst2;simp only [Option.map_some,Option.getD_some,Option.isSome_some] at hlk hst2 hsi;obtain ⟨⟨xa,xb⟩,ya,yb⟩:=sh;unfold shV at hlk;simp only [if_true] at hlk hst2;clear HST2;have HST2:=Hi hst2;have HSI:=Hi hsi;have T4:=Hi (T3.out.alloc #[.int .i64 xa,.int .i64 xb,.int .i64 ya,.int .i64 yb] 107);have HX4:=Hi (And.intro (HX3.out.1.mod ((Mod.refl _ _).alloc (.cells #[.int .i64 xa,.int .i64 xb,.int .i64 ya,.int .i64 yb] 107))) (And.intro (HX3.out.2.1.mod ((Mod.refl _ _).alloc (.cells #[.int .i64 xa,.int .i64 xb,.int .i64 ya,.int .i64 yb] 107))) HX3.out.2.2));clear hst2 hsi T3 HX3;go_upto_region 11 with fail;generalize W3.alloc (.cells #[.int .i64 xa,.int .i64 xb,.int .i64 ya,.int .i64 yb] 107)=W4 at *
   generalize W3.heap.size=b9 at *
   clear D1 hlk;go_upto_region 13 with fail;have A0:=fun W (mW:Mod [] W4 W) k=>((T4.out.at 2 rfl).every W mW k)
   have A1:=fun W (mW:Mod [] W4 W) k=>((T4.out.at 3 rfl).every W mW k)
   have A2:=fun W (mW:Mod [] W4 W) k=>((T4.out.at 4 rfl).every W mW k)
   have HGX:=Hi (fun W=>grown_any xa xb dx fa fc W HSI.out.1.1 HSI.out.1.2 HIN.out.2.2.1 HFI.out.1 HFI.out.2);have HGY:=Hi (fun W=>grown_any ya yb dy fa fc W HSI.out.2.1 HSI.out.2.2 HIN.out.2.2.2 HFI.out.1 HFI.out.2);have hgx:=fun r h=>grownR_in (s:=(xa,xb)) (n:=dx) (f:=(fa,fc)) (r:=r) h
   have hgy:=fun r h=>grownR_in (s:=(ya,yb)) (n:=dy) (f:=(fa,fc)) (r:=r) h
   generalize Vr.grownR (xa,xb) dx (fa,fc)=gx at *
   generalize Vr.grownR (ya,yb) dy (fa,fc)=gy at *
   cases gx with
   | none =>
    have hr:res=.error 3:=HST2.out;subst hr;have HN:=Hi (show ∀ W,Calls Try.prog 68 #[.agg #[.int .i64 xa,.int .i64 xb],.int .i64 dx,.agg #[.int .i64 fa,.int .i64 fc]] W fun e w'=>e=.panicked [{ v:=.iface 40 (.int .i64 3),recovered:=false }]/\Mod [] W w' from HGX.out);clear HGX HGY hgx hgy HST2;refine Dm.wp_region_doom [true,true,true,true,true,true,true,true,false,true,true,true,true,true,false,false,false] [] 8 (fun c _=>c=[{ v:=.iface 40 (.int .i64 3),recovered:=false }]) (by kernel_rfl) rfl rfl (by kernel_rfl) ?hAlD287 ?hQ ?mainD287
    case hAlD287=>(intro i hi;cases hi)
    case mainD287 =>
     simp only [pickM]
     iterate 13
      refine sv ?_
     refine steady_done ?_;intro w' hw';go_wp2_with fail;refine (HN.out _).mono ?_;rintro e w4 ⟨rfl,m4⟩;go_wp2_with fail;exact hw'.then m4
    case hQ =>
     intro c' a' w' hG hm hc;subst hc;exact ⟨hG.defers,(T4.out.call hm).mod,HX4.out.2.1.mod hm,rfl⟩
   | some rx =>
    cases gy with
    | none =>
     have hr:res=.error 3:=HST2.out;subst hr;have HN:=Hi (show ∀ W,Calls Try.prog 68 #[.agg #[.int .i64 ya,.int .i64 yb],.int .i64 dy,.agg #[.int .i64 fa,.int .i64 fc]] W fun e w'=>e=.panicked [{ v:=.iface 40 (.int .i64 3),recovered:=false }]/\Mod [] W w' from HGY.out);have HK:=Hi (show ∀ W,Calls Try.prog 68 #[.agg #[.int .i64 xa,.int .i64 xb],.int .i64 dx,.agg #[.int .i64 fa,.int .i64 fc]] W fun e w'=>e=.returned (.agg #[.int .i64 rx.1,.int .i64 rx.2])/\Mod [] W w' from HGX.out);clear HGX HGY hgx hgy HST2;refine Dm.wp_region_doom [true,true,true,true,true,true,true,true,true,true,true,true,true,true,false,false,false] [] 14 (fun c _=>c=[{ v:=.iface 40 (.int .i64 3),recovered:=false }]) (by kernel_rfl) rfl rfl (by kernel_rfl) ?hAlD375 ?hQ ?mainD375
     case hAlD375=>(intro i hi;cases hi)
     case mainD375 =>
      simp only [pickM]
      iterate 8
       refine sv ?_
      refine sc (a':=?_) (fun w' hw' K Q hK=>?_) ?_ ?_;rotate_left
      ·go_wp2_with fail;refine ((calls_mod HK.out) _ hw').mono ?_;rintro e w'' ⟨rfl,m''⟩;go_wp2_with fail;exact hK _ m''
      ·rfl
      iterate 5
       refine sv ?_
      refine steady_done ?_;intro w' hw';go_wp2_with fail;refine (HN.out _).mono ?_;rintro e w4 ⟨rfl,m4⟩;go_wp2_with fail;exact hw'.then m4
     case hQ =>
      intro c' a' w' hG hm hc;subst hc;exact ⟨hG.defers,(T4.out.call hm).mod,HX4.out.2.1.mod hm,rfl⟩
    | some ry =>
     have HY:=Hi (show ∀ W,Calls Try.prog 68 #[.agg #[.int .i64 ya,.int .i64 yb],.int .i64 dy,.agg #[.int .i64 fa,.int .i64 fc]] W fun e w'=>e=.returned (.agg #[.int .i64 ry.1,.int .i64 ry.2])/\Mod [] W w' from HGY.out);have HK:=Hi (show ∀ W,Calls Try.prog 68 #[.agg #[.int .i64 xa,.int .i64 xb],.int .i64 dx,.agg #[.int .i64 fa,.int .i64 fc]] W fun e w'=>e=.returned (.agg #[.int .i64 rx.1,.int .i64 rx.2])/\Mod [] W w' from HGX.out);have HRI:=Hi (show ShIn (rx,ry) from ⟨hgx rx rfl,hgy ry rfl⟩);have HRES:=Hi (show res=Vr.shiftsR regs xs pts.length (deltas.drop (j+1)) (putP m dp (rx,ry)) from HST2.out);clear HGX HGY hgx hgy HST2;refine wp_region_mask 16 [true,true,true,true,true,true,true,true,true,true,true,true,true,true,true,true] [] (by kernel_rfl) (by kernel_rfl) (by simp) ?_;simp only [pickM]
     iterate 8
      refine sv ?_
     refine sc (a':=?_) (fun w' hw' K Q hK=>?_) ?_ ?_;rotate_left
     ·go_wp2_with fail;refine ((calls_mod HK.out) _ hw').mono ?_;rintro e w'' ⟨rfl,m''⟩;go_wp2_with fail;exact hK _ m''
     ·rfl
     iterate 5
      refine sv ?_
     refine sc (a':=?_) (fun w' hw' K Q hK=>?_) ?_ ?_;rotate_left
     ·go_wp2_with fail;refine ((calls_mod HY.out) _ hw').mono ?_;rintro e w'' ⟨rfl,m''⟩;go_wp2_with fail;exact hK _ m''
     ·rfl
     refine sv ?_;refine steady_done ?_;refine lates_end (fun w' hw' _=>?_);simp only [List.drop_succ_cons,List.drop_zero];have T5:=Hi (T4.out.call hw');have hgt:mb ∉ [fb]:=by have:=HMB.out;have:=HFL.out;simp;omega
     obtain ⟨W6,hmu,hM6,o1,o2,o3',o4',o5'⟩:=run_put (P:=Try.prog) (HX4.out.1.mod hw') Try.und_SMap Try.underlying3 dp (.agg #[.int .i64 rx.1,.int .i64 rx.2,.int .i64 ry.1,.int .i64 ry.2]);rw [show (Value.agg #[.int .i64 rx.1,.int .i64 rx.2,.int .i64 ry.1,.int .i64 ry.2])=shV (rx,ry) from rfl,put_mapP] at hM6;have HF5:=Hi ((HX4.out.2.1.mod hw').of (w':=W6) (o5' fb (by intro he;exact hgt (by simp [he]))));have HIN5:=Hi (put_in HX4.out.2.2 dp HRI.out);have HM6:=Hi hM6
     have T6:=Hi (show OwnF [fb] w W6 [(w.heap.size,#[.int .i64 u,.slice g.a g.n g.c,.slice c.a c.n c.c,.slice l.a l.n l.c,.slice fe.a fe.n fe.c,.slice ax.a ax.n ax.c,.slice rga regs.length rgc,.slice fu.a fu.n fu.c,.slice cv.a cv.n cv.c,.slice ata xs.length atc,.map (some fb)],70),(w.heap.size+1,#[.string name,.int .i64 adv,.bool mark,.slice o3 pts.length c3,.slice o4 ends.length c4,.slice o5 parts.length c5,.slice o6 anchors.length c6,.slice (some a) deltas.length c7,.slice o8 hint.length c8],51)] from by
      have S:=OwnF.left (l:=[(w.heap.size,#[.int .i64 u,.slice g.a g.n g.c,.slice c.a c.n c.c,.slice l.a l.n l.c,.slice fe.a fe.n fe.c,.slice ax.a ax.n ax.c,.slice rga regs.length rgc,.slice fu.a fu.n fu.c,.slice cv.a cv.n cv.c,.slice ata xs.length atc,.map (some fb)],70),(w.heap.size+1,#[.string name,.int .i64 adv,.bool mark,.slice o3 pts.length c3,.slice o4 ends.length c4,.slice o5 parts.length c5,.slice o6 anchors.length c6,.slice (some a) deltas.length c7,.slice o8 hint.length c8],51)]) (l':=[(bd,#[.int .i64 (ri:Int),.int .i64 dp,.int .i64 dx,.int .i64 dy],95),(b8,#[.int .i64 fa,.int .i64 fc],64),(b9,#[.int .i64 xa,.int .i64 xb,.int .i64 ya,.int .i64 yb],107)]) T5.out;refine S.off ⟨o1.trans S.mod.os,o2.trans S.mod.tape,o3'.trans S.mod.output,by have:=S.mod.size;omega,fun k hk hn=>?_⟩ fun p hp=>?_
      ·rw [o5' k (by have:=HMB.out;omega)];exact S.mod.block k hk hn
      ·refine o5' p.1 (fun he=>?_);have:=HMB.out;simp only [List.mem_cons,List.not_mem_nil,or_false] at hp
       rcases hp with rfl | rfl <;> simp at he <;> omega)
     clear A0 A1 A2 hw' T4 T5 HX4 HK HY hM6 o1 o2 o3' o4' o5' hgt;have e5:IntKind.i64.wrap ((j:Int)+1)=(j:Int)+1:=IntWalk.i64_in _ (by have:=HDL.out;omega);go_wp2_with fail;go_roundg (gk - 1)
     case measure=>have:=hj.out;omega
     case rel=>exact ⟨j+1,putP m dp (rx,ry),by have:=hj.out;show j+1+(gk - 1)=deltas.length;omega,by rw [Int.natCast_add];rfl,T6.out,HM6.out,HF5.out,HRES.out.symm,HIN5.out⟩
  | none =>
   rw [hlp] at hlk hsi;have hst2:=HST2.out;rw [hlp] at hst2;simp only [Option.map_none,Option.getD_none,Option.isSome_none] at hlk hst2 hsi;simp only [if_true] at hlk;clear HST2;have HSI:=Hi hsi;have HST2:=Hi hst2;have T4':=Hi (T3.out.alloc #[.int .i64 0,.int .i64 0,.int .i64 0,.int .i64 0] 107);have HX4':=Hi (And.intro (HX3.out.1.mod ((Mod.refl _ _).alloc (.cells #[.int .i64 0,.int .i64 0,.int .i64 0,.int .i64 0] 107))) (And.intro (HX3.out.2.1.mod ((Mod.refl _ _).alloc (.cells #[.int .i64 0,.int .i64 0,.int .i64 0,.int .i64 0] 107))) HX3.out.2.2));clear hst2 hsi T3 HX3;go_upto_region 11 with fail;generalize W3.alloc (.cells #[.int .i64 0,.int .i64 0,.int .i64 0,.int .i64 0] 107)=W3' at *
   generalize W3.heap.size=b9 at *
   clear D1 hlk;go_wp2_with fail;refine (wholeV_any _ _).mono ?_;rintro e w5 ⟨rfl,m5⟩;have T5:=Hi (T4'.out.call m5);have HX5:=Hi (And.intro (HX4'.out.1.mod m5) (And.intro (HX4'.out.2.1.mod m5) HX4'.out.2.2));clear T4' HX4' m5;go_wp2_with fail;refine (wholeV_any _ _).mono ?_;rintro e w6 ⟨rfl,m6⟩;have T6:=Hi (T5.out.call m6);have HX6:=Hi (And.intro (HX5.out.1.mod m6) (And.intro (HX5.out.2.1.mod m6) HX5.out.2.2));clear T5 HX5 m6;have B9:=T6.out.at 4 rfl;have q0:=B9.cell 0;have q1:=B9.cell 1;have q2:=B9.cell 2;have q3:=B9.cell 3;have z0:=fun k=>B9.frozen k
   have hb9:w.heap.size+2<=b9:=by have:=T6.out.ge 4 rfl;have:=T6.out.nodup;simp at this;have:=T6.out.ge 3 rfl;omega
   have T4:=Hi ((((T6.out.set 4 rfl 0 (.int .i64 0)).set 4 rfl 1 (.int .i64 1)).set 4 rfl 2 (.int .i64 0)).set 4 rfl 3 (.int .i64 1));clear B9;go_upto_region 13 with fail;have XF:((((w6.setCell ⟨b9,0,none⟩ (.int .i64 0)).setCell ⟨b9,1,none⟩ (.int .i64 1)).setCell ⟨b9,2,none⟩ (.int .i64 0)).setCell ⟨b9,3,none⟩ (.int .i64 1))=setN w6 (b9) (0) [.int .i64 0,.int .i64 1,.int .i64 0,.int .i64 1]:=rfl;rw [XF];clear XF;have XF:(((w6.setCell ⟨b9,0,none⟩ (.int .i64 0)).setCell ⟨b9,1,none⟩ (.int .i64 1)).setCell ⟨b9,2,none⟩ (.int .i64 0)).setCell ⟨b9,3,none⟩ (.int .i64 1)=setN w6 b9 0 [.int .i64 0,.int .i64 1,.int .i64 0,.int .i64 1]:=rfl;rw [XF] at T4;have hmb9:mb≠b9:=fun he=>by
    obtain ⟨es,ck,h1,_⟩:=HX6.out.1;have h2:=T6.out.at 4 rfl;unfold Blk at h2;rw [<- he,h1] at h2;cases h2
   have HX4:=Hi (And.intro (HX6.out.1.of (w':=setN w6 b9 0 [.int .i64 0,.int .i64 1,.int .i64 0,.int .i64 1]) (setN_other hmb9 _ _ _)) (And.intro (HX6.out.2.1.of (w':=setN w6 b9 0 [.int .i64 0,.int .i64 1,.int .i64 0,.int .i64 1]) (setN_other (by have:=HFL.out;omega) _ _ _)) HX6.out.2.2));generalize setN w6 b9 0 [.int .i64 0,.int .i64 1,.int .i64 0,.int .i64 1]=W4 at *
   clear XF q0 q1 q2 q3 z0 T6 HX6 hmb9;have A0:=fun W (mW:Mod [] W4 W) k=>((T4.out.at 2 rfl).every W mW k)
   have A1:=fun W (mW:Mod [] W4 W) k=>((T4.out.at 3 rfl).every W mW k)
   have A2:=fun W (mW:Mod [] W4 W) k=>((T4.out.at 4 rfl).every W mW k)
   have HGX:=Hi (fun W=>grown_any 0 1 dx fa fc W (by unfold I64;omega) (by unfold I64;omega) HIN.out.2.2.1 HFI.out.1 HFI.out.2);have HGY:=Hi (fun W=>grown_any 0 1 dy fa fc W (by unfold I64;omega) (by unfold I64;omega) HIN.out.2.2.2 HFI.out.1 HFI.out.2);have hgx:=fun r h=>grownR_in (s:=((0:Int),(1:Int))) (n:=dx) (f:=(fa,fc)) (r:=r) h
   have hgy:=fun r h=>grownR_in (s:=((0:Int),(1:Int))) (n:=dy) (f:=(fa,fc)) (r:=r) h
   generalize Vr.grownR (0,1) dx (fa,fc)=gx at *
   generalize Vr.grownR (0,1) dy (fa,fc)=gy at *
   cases gx with
   | none =>
    have hr:res=.error 3:=HST2.out;subst hr;have HN:=Hi (show ∀ W,Calls Try.prog 68 #[.agg #[.int .i64 0,.int .i64 1],.int .i64 dx,.agg #[.int .i64 fa,.int .i64 fc]] W fun e w'=>e=.panicked [{ v:=.iface 40 (.int .i64 3),recovered:=false }]/\Mod [] W w' from HGX.out);clear HGX HGY hgx hgy HST2;refine Dm.wp_region_doom [true,true,true,true,true,true,true,true,false,true,true,true,true,true,false,false,false] [] 8 (fun c _=>c=[{ v:=.iface 40 (.int .i64 3),recovered:=false }]) (by kernel_rfl) rfl rfl (by kernel_rfl) ?hAlD651 ?hQ ?mainD651
    case hAlD651=>(intro i hi;cases hi)
    case mainD651 =>
     simp only [pickM]
     iterate 13
      refine sv ?_
     refine steady_done ?_;intro w' hw';go_wp2_with fail;refine (HN.out _).mono ?_;rintro e w4 ⟨rfl,m4⟩;go_wp2_with fail;exact hw'.then m4
    case hQ =>
     intro c' a' w' hG hm hc;subst hc;exact ⟨hG.defers,(T4.out.call hm).mod,HX4.out.2.1.mod hm,rfl⟩
   | some rx =>
    cases gy with
    | none =>
     have hr:res=.error 3:=HST2.out;subst hr;have HN:=Hi (show ∀ W,Calls Try.prog 68 #[.agg #[.int .i64 0,.int .i64 1],.int .i64 dy,.agg #[.int .i64 fa,.int .i64 fc]] W fun e w'=>e=.panicked [{ v:=.iface 40 (.int .i64 3),recovered:=false }]/\Mod [] W w' from HGY.out);have HK:=Hi (show ∀ W,Calls Try.prog 68 #[.agg #[.int .i64 0,.int .i64 1],.int .i64 dx,.agg #[.int .i64 fa,.int .i64 fc]] W fun e w'=>e=.returned (.agg #[.int .i64 rx.1,.int .i64 rx.2])/\Mod [] W w' from HGX.out);clear HGX HGY hgx hgy HST2;refine Dm.wp_region_doom [true,true,true,true,true,true,true,true,true,true,true,true,true,true,false,false,false] [] 14 (fun c _=>c=[{ v:=.iface 40 (.int .i64 3),recovered:=false }]) (by kernel_rfl) rfl rfl (by kernel_rfl) ?hAlD739 ?hQ ?mainD739
     case hAlD739=>(intro i hi;cases hi)
     case mainD739 =>
      simp only [pickM]
      iterate 8
       refine sv ?_
      refine sc (a':=?_) (fun w' hw' K Q hK=>?_) ?_ ?_;rotate_left
      ·go_wp2_with fail;refine ((calls_mod HK.out) _ hw').mono ?_;rintro e w'' ⟨rfl,m''⟩;go_wp2_with fail;exact hK _ m''
      ·rfl
      iterate 5
       refine sv ?_
      refine steady_done ?_;intro w' hw';go_wp2_with fail;refine (HN.out _).mono ?_;rintro e w4 ⟨rfl,m4⟩;go_wp2_with fail;exact hw'.then m4
     case hQ =>
      intro c' a' w' hG hm hc;subst hc;exact ⟨hG.defers,(T4.out.call hm).mod,HX4.out.2.1.mod hm,rfl⟩
    | some ry =>
     have HY:=Hi (show ∀ W,Calls Try.prog 68 #[.agg #[.int .i64 0,.int .i64 1],.int .i64 dy,.agg #[.int .i64 fa,.int .i64 fc]] W fun e w'=>e=.returned (.agg #[.int .i64 ry.1,.int .i64 ry.2])/\Mod [] W w' from HGY.out);have HK:=Hi (show ∀ W,Calls Try.prog 68 #[.agg #[.int .i64 0,.int .i64 1],.int .i64 dx,.agg #[.int .i64 fa,.int .i64 fc]] W fun e w'=>e=.returned (.agg #[.int .i64 rx.1,.int .i64 rx.2])/\Mod [] W w' from HGX.out);have HRI:=Hi (show ShIn (rx,ry) from ⟨hgx rx rfl,hgy ry rfl⟩);have HRES:=Hi (show res=Vr.shiftsR regs xs pts.length (deltas.drop (j+1)) (putP m dp (rx,ry)) from HST2.out);clear HGX HGY hgx hgy HST2;refine wp_region_mask 16 [true,true,true,true,true,true,true,true,true,true,true,true,true,true,true,true] [] (by kernel_rfl) (by kernel_rfl) (by simp) ?_;simp only [pickM]
     iterate 8
      refine sv ?_
     refine sc (a':=?_) (fun w' hw' K Q hK=>?_) ?_ ?_;rotate_left
     ·go_wp2_with fail;refine ((calls_mod HK.out) _ hw').mono ?_;rintro e w'' ⟨rfl,m''⟩;go_wp2_with fail;exact hK _ m''
     ·rfl
     iterate 5
      refine sv ?_
     refine sc (a':=?_) (fun w' hw' K Q hK=>?_) ?_ ?_;rotate_left
     ·go_wp2_with fail;refine ((calls_mod HY.out) _ hw').mono ?_;rintro e w'' ⟨rfl,m''⟩;go_wp2_with fail;exact hK _ m''
     ·rfl
     refine sv ?_;refine steady_done ?_;refine lates_end (fun w' hw' _=>?_);simp only [List.drop_succ_cons,List.drop_zero];have T5:=Hi (T4.out.call hw');have hgt:mb ∉ [fb]:=by have:=HMB.out;have:=HFL.out;simp;omega
     obtain ⟨W6,hmu,hM6,o1,o2,o3',o4',o5'⟩:=run_put (P:=Try.prog) (HX4.out.1.mod hw') Try.und_SMap Try.underlying3 dp (.agg #[.int .i64 rx.1,.int .i64 rx.2,.int .i64 ry.1,.int .i64 ry.2]);rw [show (Value.agg #[.int .i64 rx.1,.int .i64 rx.2,.int .i64 ry.1,.int .i64 ry.2])=shV (rx,ry) from rfl,put_mapP] at hM6;have HF5:=Hi ((HX4.out.2.1.mod hw').of (w':=W6) (o5' fb (by intro he;exact hgt (by simp [he]))));have HIN5:=Hi (put_in HX4.out.2.2 dp HRI.out);have HM6:=Hi hM6
     have T6:=Hi (show OwnF [fb] w W6 [(w.heap.size,#[.int .i64 u,.slice g.a g.n g.c,.slice c.a c.n c.c,.slice l.a l.n l.c,.slice fe.a fe.n fe.c,.slice ax.a ax.n ax.c,.slice rga regs.length rgc,.slice fu.a fu.n fu.c,.slice cv.a cv.n cv.c,.slice ata xs.length atc,.map (some fb)],70),(w.heap.size+1,#[.string name,.int .i64 adv,.bool mark,.slice o3 pts.length c3,.slice o4 ends.length c4,.slice o5 parts.length c5,.slice o6 anchors.length c6,.slice (some a) deltas.length c7,.slice o8 hint.length c8],51)] from by
      have S:=OwnF.left (l:=[(w.heap.size,#[.int .i64 u,.slice g.a g.n g.c,.slice c.a c.n c.c,.slice l.a l.n l.c,.slice fe.a fe.n fe.c,.slice ax.a ax.n ax.c,.slice rga regs.length rgc,.slice fu.a fu.n fu.c,.slice cv.a cv.n cv.c,.slice ata xs.length atc,.map (some fb)],70),(w.heap.size+1,#[.string name,.int .i64 adv,.bool mark,.slice o3 pts.length c3,.slice o4 ends.length c4,.slice o5 parts.length c5,.slice o6 anchors.length c6,.slice (some a) deltas.length c7,.slice o8 hint.length c8],51)]) (l':=[(bd,#[.int .i64 (ri:Int),.int .i64 dp,.int .i64 dx,.int .i64 dy],95),(b8,#[.int .i64 fa,.int .i64 fc],64),(b9,#[.int .i64 0,.int .i64 1,.int .i64 0,.int .i64 1],107)]) T5.out;refine S.off ⟨o1.trans S.mod.os,o2.trans S.mod.tape,o3'.trans S.mod.output,by have:=S.mod.size;omega,fun k hk hn=>?_⟩ fun p hp=>?_
      ·rw [o5' k (by have:=HMB.out;omega)];exact S.mod.block k hk hn
      ·refine o5' p.1 (fun he=>?_);have:=HMB.out;simp only [List.mem_cons,List.not_mem_nil,or_false] at hp
       rcases hp with rfl | rfl <;> simp at he <;> omega)
     clear A0 A1 A2 hw' T4 T5 HX4 HK HY hM6 o1 o2 o3' o4' o5' hgt;have e5:IntKind.i64.wrap ((j:Int)+1)=(j:Int)+1:=IntWalk.i64_in _ (by have:=HDL.out;omega);go_wp2_with fail;go_roundg (gk - 1)
     case measure=>have:=hj.out;omega
     case rel=>exact ⟨j+1,putP m dp (rx,ry),by have:=hj.out;show j+1+(gk - 1)=deltas.length;omega,by rw [Int.natCast_add];rfl,T6.out,HM6.out,HF5.out,HRES.out.symm,HIN5.out⟩
theorem cutR_in (m:Bool) (A y:Nat) (g:Nat->Bool):I64 (Rat.cutR m A y g).1:=by
 unfold Rat.cutR I64;generalize A / y+(if g (A % y) then 1 else 0)=q
 by_cases h1:A / 18446744073709551616 ≥ y∨9223372036854775808<A / y
 ·rw [if_pos h1];simp
 ·rw [if_neg h1]
  by_cases h2:m=true/\q<=9223372036854775808
  ·rw [if_pos h2];simp only;omega
  ·rw [if_neg h2]
   by_cases h3:m=false/\q<9223372036854775808
   ·rw [if_pos h3];simp only;omega
   ·rw [if_neg h3];simp
theorem roundR_in (N D:Int):I64 (Rat.roundR N D):=by
 unfold Rat.roundR
 split
 ·exact cutR_in _ _ _ _
 ·unfold I64;simp
def Vr.ptR (m:List (Int×Sh)) (i:Nat) (p:DPoint):Option DPoint :=
 match lookP m (i:Int) with
 | none=>some p
 | some sh=>match Vr.movedR p.x (Rat.roundR sh.1.1 sh.1.2) (-16384) with
  | none=>none
  | some a=>match Vr.movedR p.y (Rat.roundR sh.2.1 sh.2.2) (-16384) with
   | none=>none
   | some b=>some ⟨a,b,p.on⟩
def Vr.advR (m:List (Int×Sh)) (adv:Int):Option Int :=
 match lookP m (-1) with
 | none=>some adv
 | some sh=>Vr.movedR adv (Rat.roundR sh.1.1 sh.1.2) 0
def Vr.ptsR (m:List (Int×Sh)):Nat->List DPoint->Option (List DPoint)
 | _,[]=>some []
 | i,p::r=>match Vr.ptR m i p with
  | none=>none
  | some q=>match Vr.ptsR m (i+1) r with
   | none=>none
   | some l=>some (q::l)
def Vr.glyphR (regs:List DRegion) (xs:List (Int×Int)) (g:DGlyph):Except Int DGlyph :=
 match Vr.shiftsR regs xs g.pts.length g.deltas [] with
 | .error e=>.error e
 | .ok m=>match Vr.advR m g.adv with
  | none=>.error 3
  | some a=>match Vr.ptsR m 0 g.pts with
   | none=>.error 3
   | some ps=>.ok { g with adv:=a,pts:=ps,deltas:=[] }
def Vr.curAdv (m:List (Int×Sh)) (D:List Int) (adv:Int):Int:=if -1∈D then (Vr.advR m adv).getD adv else adv
def Vr.curPt (m:List (Int×Sh)) (D:List Int) (i:Nat) (p:DPoint):DPoint:=if (i:Int)∈D then (Vr.ptR m i p).getD p else p
def Vr.curPts (m:List (Int×Sh)) (D:List Int) (pts:List DPoint):List DPoint:=pts.mapIdx fun i p=>Vr.curPt m D i p
def Vr.fine (m:List (Int×Sh)) (D:List Int) (adv:Int) (pts:List DPoint):Prop:=(-1∈D->Vr.advR m adv≠none)/\∀ i (h:i<pts.length),(i:Int)∈D->Vr.ptR m i pts[i]≠none
theorem curPts_length (m:List (Int×Sh)) (D:List Int) (pts:List DPoint):(Vr.curPts m D pts).length=pts.length:=by simp [Vr.curPts]
theorem curPts_at (m:List (Int×Sh)) (D:List Int) (pts:List DPoint) (i:Nat) (h:i<pts.length):(Vr.curPts m D pts)[i]?=some (Vr.curPt m D i pts[i]):=by simp [Vr.curPts,h]
theorem curPts_cons {m:List (Int×Sh)} {D:List Int} {pts:List DPoint} {i:Nat} (h:i<pts.length):Vr.curPts m ((i:Int)::D) pts=(Vr.curPts m D pts).set i ((Vr.ptR m i pts[i]).getD pts[i]):=by
 apply List.ext_getElem?;intro q;rw [List.getElem?_set];rcases Nat.lt_or_ge q pts.length with hq | hq
 ·rw [curPts_at m _ pts q hq,curPts_at m D pts q hq]
  by_cases hiq:i=q
  ·subst hiq;simp [Vr.curPt,curPts_length,h]
  ·rw [if_neg hiq];have:((q:Int)∈(i:Int)::D)↔((q:Int)∈D):=by
    rw [List.mem_cons];exact ⟨fun h=>h.resolve_left (by omega),.inr⟩
   simp only [Vr.curPt,this]
 ·rw [List.getElem?_eq_none (by rw [curPts_length];exact hq),List.getElem?_eq_none (by rw [curPts_length];exact hq)]
  by_cases hiq:i=q
  ·omega
  ·rw [if_neg hiq]
theorem curPts_neg {m:List (Int×Sh)} {D:List Int} {pts:List DPoint}:Vr.curPts m ((-1)::D) pts=Vr.curPts m D pts:=by
 unfold Vr.curPts
 congr 1
 funext i p
 unfold Vr.curPt;have:((i:Int)∈(-1:Int)::D)↔((i:Int)∈D):=by
  rw [List.mem_cons];exact ⟨fun h=>h.resolve_left (by omega),.inr⟩
 simp only [this]
theorem curAdv_pos {m:List (Int×Sh)} {D:List Int} {adv:Int} {i:Nat}:Vr.curAdv m ((i:Int)::D) adv=Vr.curAdv m D adv:=by
 unfold Vr.curAdv;have:((-1:Int)∈(i:Int)::D)↔((-1:Int)∈D):=by
  rw [List.mem_cons];exact ⟨fun h=>h.resolve_left (by omega),.inr⟩
 simp only [this]
theorem ptsR_none {m:List (Int×Sh)}:∀ (l:List DPoint) (s i:Nat) (h:i<l.length),Vr.ptR m (s+i) l[i]=none->Vr.ptsR m s l=none
 | p::r,s,0,_,hn=>by unfold Vr.ptsR;simp only [List.getElem_cons_zero,Nat.add_zero] at hn;rw [hn]
 | p::r,s,i+1,h,hn=>by
  have:=ptsR_none r (s+1) i (by simpa using h) (by rw [show s+1+i=s+(i+1) by omega];simpa using hn);unfold Vr.ptsR;cases Vr.ptR m s p with
  | none=>rfl
  | some q=>simp only [this]
theorem ptsR_some {m:List (Int×Sh)}:∀ (l:List DPoint) (s:Nat) (f:Nat->DPoint->DPoint),(∀ i (h:i<l.length),Vr.ptR m (s+i) l[i]=some (f i l[i]))->Vr.ptsR m s l=some (l.mapIdx f)
 | [],_,_,_=>rfl
 | p::r,s,f,h=>by
  have h0:=h 0 (by simp);simp only [Nat.add_zero,List.getElem_cons_zero] at h0;have ih:=ptsR_some r (s+1) (fun i=>f (i+1)) (fun i hi=>by have:=h (i+1) (by simpa using hi);rw [show s+1+i=s+(i+1) by omega];simpa using this);unfold Vr.ptsR;rw [h0,ih,List.mapIdx_cons]
theorem all_seen_glyph {m : List (Int × Sh)} {D : List Int} {adv : Int} {pts : List DPoint} (hf : Vr.fine m D adv pts) (hall : ∀ p ∈ m, p.1 ∈ D) : Vr.advR m adv = some (Vr.curAdv m D adv) /\ Vr.ptsR m 0 pts = some (Vr.curPts m D pts) := by
  have hno : ∀ k, k ∉ D -> lookP m k = none := fun k hk => by
    unfold lookP
    cases hf : m.find? (fun p => p.1 == k) with
    | none => rfl
    | some p =>
      have h1 := List.find?_some hf
      have h2 := List.mem_of_find?_eq_some hf
      exact absurd (hall p h2) (by have : p.1 = k := by simpa using h1
                                   rw [this]; exact hk)
  constructor
  · unfold Vr.curAdv
    by_cases h : (-1 : Int) ∈ D
    · rw [if_pos h]
      cases ha : Vr.advR m adv with
      | none => exact absurd ha (hf.1 h)
      | some a => rfl
    · rw [if_neg h]
      unfold Vr.advR
      rw [hno _ h]
  · refine ptsR_some pts 0 _ fun i hi => ?_
    rw [Nat.zero_add]
    unfold Vr.curPt
    by_cases h : (i : Int) ∈ D
    · rw [if_pos h]
      cases ha : Vr.ptR m i pts[i] with
      | none => exact absurd ha (hf.2 i hi h)
      | some a => rfl
    · rw [if_neg h]
      unfold Vr.ptR
      rw [hno _ h]
theorem shifts_keys {regs:List DRegion} {xs:List (Int×Int)} {np:Nat}:∀ (ds:List DDelta) (m r:List (Int×Sh)),(∀ p∈m,-1<=p.1/\p.1<np)->Vr.shiftsR regs xs np ds m=.ok r->∀ p∈r,-1<=p.1/\p.1<np
 | [],m,r,hm,h=>by unfold Vr.shiftsR at h;cases h;exact hm
 | d::ds,m,r,hm,h=>by
  unfold Vr.shiftsR at h;cases hs:Vr.shiftStep regs xs np m d with
  | error e=>rw [hs] at h;cases h
  | ok m' =>
   rw [hs] at h;refine shifts_keys ds m' r ?_ h;unfold Vr.shiftStep at hs
   split at hs
   ·split at hs
    ·rename_i hp
     split at hs
     ·cases hs
     ·split at hs
      ·cases hs
      ·cases hs;intro p hpm;unfold putP at hpm
       split at hpm
       ·obtain ⟨q,hq,rfl⟩:=List.mem_map.1 hpm
        split
        ·exact hp
        ·exact hm q hq
       ·rcases List.mem_append.1 hpm with h1 | h1
        ·exact hm p h1
        ·obtain rfl:=List.mem_singleton.1 h1;exact hp
    ·cases hs
   ·cases hs
theorem look_of_mem {m:List (Int×Sh)} (hn:(m.map (·.1)).Nodup) {k:Int} {v:Sh} (h:(k,v)∈m):lookP m k=some v:=by
 unfold lookP
 induction m with
 | nil=>cases h
 | cons p r ih =>
  simp only [List.map_cons,List.nodup_cons] at hn;rcases List.mem_cons.1 h with h | h
  ·subst h;simp
  ·have hne:p.1≠k:=fun e=>hn.1 (by rw [e];exact List.mem_map.2 ⟨(k,v),h,rfl⟩)
   rw [List.find?_cons_of_neg (by simpa using hne)];exact ih hn.2 h
def CopyRes (w:World) (t:TypeId) (cs:List Value) (n:Nat) (e:Ending) (w':World):Prop :=
 ∃ v,e=.returned v/\Mod [] w w'/\((n=0/\v=.slice none 0 0)∨∃ b,v=.slice (some ⟨b,0,none⟩) n n/\w.heap.size<=b/\Blk w' b cs.toArray t)
theorem Try.rowinfo_Int:(Try.prog.info? 3).map (fun i=>(i.zero,i.size,i.bytes))=some (some (.int .i64 0),1,8):=by kernel_rfl
theorem Try.rowsize_Int:(Try.prog.info? 3).map (·.size)=some 1:=by kernel_rfl
set_option maxHeartbeats 1000000 in
theorem row_Int (oa:Option Addr) (n cap:Nat) (cs:List Value) (w:World) (hlen:cs.length=n*1) (hc:∀ j u,cs[j]?=some u->∃ a:Addr,oa=some a/\w.cell? (a.add j)=some u) (h1:∀ u∈cs,u.oneCell'=true) (hn:n*8<=140737488351232) :
  Calls Try.prog 18 #[.slice oa n cap] w (CopyRes w 3 cs n):=by
 by_cases h0:n=0
 ·subst h0;go_enter Try.func18,Try.ntmps18;go_wp2_with fail;go_ret;exact ⟨_,rfl,Mod.refl _ _,.inl ⟨rfl,rfl⟩⟩
 ·have hne:((n:Int) == 0)=false:=by simpa using h0
  have hne':¬ ((n:Int)=0):=by omega
  obtain ⟨i0,hi,hz0,hz1,hz2⟩:=info_parts Try.rowinfo_Int;have hmk:=fun W=>run_make (P:=Try.prog) W 22 3 i0 (.int .i64 0) Try.underlying22 hi hz0 .i64 .i64 (n:Int) (n:Int) (by omega) (by omega) (by rw [hz2];omega) (by omega)
  rw [hz1] at hmk;simp only [Int.toNat_natCast] at hmk;generalize hmc:madeCells (.int .i64 0:Value).cells (n*1)=mc at hmk;have HSZ:Hid (mc.size=n*1):=by rw [<- hmc];exact size_made _ _
  have HC:=Hi hc;have H1:=Hi h1;have HL:=Hi hlen;obtain ⟨a,rfl⟩:∃ a,oa=some a:=by obtain ⟨a,e,_⟩:=hc 0 _ (List.getElem?_eq_getElem (show 0<cs.length by omega));exact ⟨a,e⟩
  clear hc h1 hlen hmc h0;go_enter Try.func18,Try.ntmps18;go_upto_region 4 with fail;have B:=Hi (Blk.new w mc 3);have M:=Hi ((Mod.refl [] w).alloc (.cells mc 3));have HC2:=Hi (fun j u (h:cs[j]?=some u)=>by obtain ⟨a',e,h2⟩:=HC.out j u h;cases e;exact cell_stays M.out h2);have hcp:=run_copy_new (P:=Try.prog) (w.alloc (.cells mc 3)) 22 22 3 3 w.heap.size n n a cap 1 mc 3 cs Try.underlying22 Try.rowsize_Int B.out HL.out HSZ.out HC2.out H1.out;have B2:=Hi (setRow_blk B.out cs.toArray);have M2:=Hi (setRow_mod M.out (Nat.le_refl _) cs.toArray);generalize (w.alloc (.cells mc 3)).setRow w.heap.size cs.toArray=w2 at *
  clear B M HC HC2 hmk;go_wp2_with fail;go_ret;exact ⟨_,rfl,M2.out,.inr ⟨_,rfl,Nat.le_refl _,B2.out⟩⟩
theorem Try.rowinfo_Char:(Try.prog.info? 74).map (fun i=>(i.zero,i.size,i.bytes))=some (some (.agg #[.int .i64 0,.int .i64 0]),2,16):=by kernel_rfl
theorem Try.rowsize_Char:(Try.prog.info? 74).map (·.size)=some 2:=by kernel_rfl
set_option maxHeartbeats 1000000 in
theorem row_Char (oa:Option Addr) (n cap:Nat) (cs:List Value) (w:World) (hlen:cs.length=n*2) (hc:∀ j u,cs[j]?=some u->∃ a:Addr,oa=some a/\w.cell? (a.add j)=some u) (h1:∀ u∈cs,u.oneCell'=true) (hn:n*16<=140737488351232) :
  Calls Try.prog 14 #[.slice oa n cap] w (CopyRes w 74 cs n):=by
 by_cases h0:n=0
 ·subst h0;go_enter Try.func14,Try.ntmps14;go_wp2_with fail;go_ret;exact ⟨_,rfl,Mod.refl _ _,.inl ⟨rfl,rfl⟩⟩
 ·have hne:((n:Int) == 0)=false:=by simpa using h0
  have hne':¬ ((n:Int)=0):=by omega
  obtain ⟨i0,hi,hz0,hz1,hz2⟩:=info_parts Try.rowinfo_Char;have hmk:=fun W=>run_make (P:=Try.prog) W 24 74 i0 (.agg #[.int .i64 0,.int .i64 0]) Try.underlying24 hi hz0 .i64 .i64 (n:Int) (n:Int) (by omega) (by omega) (by rw [hz2];omega) (by omega)
  rw [hz1] at hmk;simp only [Int.toNat_natCast] at hmk;generalize hmc:madeCells (.agg #[.int .i64 0,.int .i64 0]:Value).cells (n*2)=mc at hmk;have HSZ:Hid (mc.size=n*2):=by rw [<- hmc];exact size_made _ _
  have HC:=Hi hc;have H1:=Hi h1;have HL:=Hi hlen;obtain ⟨a,rfl⟩:∃ a,oa=some a:=by obtain ⟨a,e,_⟩:=hc 0 _ (List.getElem?_eq_getElem (show 0<cs.length by omega));exact ⟨a,e⟩
  clear hc h1 hlen hmc h0;go_enter Try.func14,Try.ntmps14;go_upto_region 4 with fail;have B:=Hi (Blk.new w mc 74);have M:=Hi ((Mod.refl [] w).alloc (.cells mc 74));have HC2:=Hi (fun j u (h:cs[j]?=some u)=>by obtain ⟨a',e,h2⟩:=HC.out j u h;cases e;exact cell_stays M.out h2);have hcp:=run_copy_new (P:=Try.prog) (w.alloc (.cells mc 74)) 24 24 3 74 w.heap.size n n a cap 2 mc 74 cs Try.underlying24 Try.rowsize_Char B.out HL.out HSZ.out HC2.out H1.out;have B2:=Hi (setRow_blk B.out cs.toArray);have M2:=Hi (setRow_mod M.out (Nat.le_refl _) cs.toArray);generalize (w.alloc (.cells mc 74)).setRow w.heap.size cs.toArray=w2 at *
  clear B M HC HC2 hmk;go_wp2_with fail;go_ret;exact ⟨_,rfl,M2.out,.inr ⟨_,rfl,Nat.le_refl _,B2.out⟩⟩
theorem Try.rowinfo_Call:(Try.prog.info? 121).map (fun i=>(i.zero,i.size,i.bytes))=some (some (.agg #[.int .i64 0,.int .i64 0]),2,16):=by kernel_rfl
theorem Try.rowsize_Call:(Try.prog.info? 121).map (·.size)=some 2:=by kernel_rfl
set_option maxHeartbeats 1000000 in
theorem row_Call (oa:Option Addr) (n cap:Nat) (cs:List Value) (w:World) (hlen:cs.length=n*2) (hc:∀ j u,cs[j]?=some u->∃ a:Addr,oa=some a/\w.cell? (a.add j)=some u) (h1:∀ u∈cs,u.oneCell'=true) (hn:n*16<=140737488351232) :
  Calls Try.prog 41 #[.slice oa n cap] w (CopyRes w 121 cs n):=by
 by_cases h0:n=0
 ·subst h0;go_enter Try.func41,Try.ntmps41;go_wp2_with fail;go_ret;exact ⟨_,rfl,Mod.refl _ _,.inl ⟨rfl,rfl⟩⟩
 ·have hne:((n:Int) == 0)=false:=by simpa using h0
  have hne':¬ ((n:Int)=0):=by omega
  obtain ⟨i0,hi,hz0,hz1,hz2⟩:=info_parts Try.rowinfo_Call;have hmk:=fun W=>run_make (P:=Try.prog) W 115 121 i0 (.agg #[.int .i64 0,.int .i64 0]) Try.underlying115 hi hz0 .i64 .i64 (n:Int) (n:Int) (by omega) (by omega) (by rw [hz2];omega) (by omega)
  rw [hz1] at hmk;simp only [Int.toNat_natCast] at hmk;generalize hmc:madeCells (.agg #[.int .i64 0,.int .i64 0]:Value).cells (n*2)=mc at hmk;have HSZ:Hid (mc.size=n*2):=by rw [<- hmc];exact size_made _ _
  have HC:=Hi hc;have H1:=Hi h1;have HL:=Hi hlen;obtain ⟨a,rfl⟩:∃ a,oa=some a:=by obtain ⟨a,e,_⟩:=hc 0 _ (List.getElem?_eq_getElem (show 0<cs.length by omega));exact ⟨a,e⟩
  clear hc h1 hlen hmc h0;go_enter Try.func41,Try.ntmps41;go_upto_region 4 with fail;have B:=Hi (Blk.new w mc 121);have M:=Hi ((Mod.refl [] w).alloc (.cells mc 121));have HC2:=Hi (fun j u (h:cs[j]?=some u)=>by obtain ⟨a',e,h2⟩:=HC.out j u h;cases e;exact cell_stays M.out h2);have hcp:=run_copy_new (P:=Try.prog) (w.alloc (.cells mc 121)) 115 115 3 121 w.heap.size n n a cap 2 mc 121 cs Try.underlying115 Try.rowsize_Call B.out HL.out HSZ.out HC2.out H1.out;have B2:=Hi (setRow_blk B.out cs.toArray);have M2:=Hi (setRow_mod M.out (Nat.le_refl _) cs.toArray);generalize (w.alloc (.cells mc 121)).setRow w.heap.size cs.toArray=w2 at *
  clear B M HC HC2 hmk;go_wp2_with fail;go_ret;exact ⟨_,rfl,M2.out,.inr ⟨_,rfl,Nat.le_refl _,B2.out⟩⟩
theorem Try.rowinfo_Ins:(Try.prog.info? 79).map (fun i=>(i.zero,i.size,i.bytes))=some (some (.agg #[.int .i64 0,.int .i64 0]),2,16):=by kernel_rfl
theorem Try.rowsize_Ins:(Try.prog.info? 79).map (·.size)=some 2:=by kernel_rfl
set_option maxHeartbeats 1000000 in
theorem row_Ins (oa:Option Addr) (n cap:Nat) (cs:List Value) (w:World) (hlen:cs.length=n*2) (hc:∀ j u,cs[j]?=some u->∃ a:Addr,oa=some a/\w.cell? (a.add j)=some u) (h1:∀ u∈cs,u.oneCell'=true) (hn:n*16<=140737488351232) :
  Calls Try.prog 42 #[.slice oa n cap] w (CopyRes w 79 cs n):=by
 by_cases h0:n=0
 ·subst h0;go_enter Try.func42,Try.ntmps42;go_wp2_with fail;go_ret;exact ⟨_,rfl,Mod.refl _ _,.inl ⟨rfl,rfl⟩⟩
 ·have hne:((n:Int) == 0)=false:=by simpa using h0
  have hne':¬ ((n:Int)=0):=by omega
  obtain ⟨i0,hi,hz0,hz1,hz2⟩:=info_parts Try.rowinfo_Ins;have hmk:=fun W=>run_make (P:=Try.prog) W 49 79 i0 (.agg #[.int .i64 0,.int .i64 0]) Try.underlying49 hi hz0 .i64 .i64 (n:Int) (n:Int) (by omega) (by omega) (by rw [hz2];omega) (by omega)
  rw [hz1] at hmk;simp only [Int.toNat_natCast] at hmk;generalize hmc:madeCells (.agg #[.int .i64 0,.int .i64 0]:Value).cells (n*2)=mc at hmk;have HSZ:Hid (mc.size=n*2):=by rw [<- hmc];exact size_made _ _
  have HC:=Hi hc;have H1:=Hi h1;have HL:=Hi hlen;obtain ⟨a,rfl⟩:∃ a,oa=some a:=by obtain ⟨a,e,_⟩:=hc 0 _ (List.getElem?_eq_getElem (show 0<cs.length by omega));exact ⟨a,e⟩
  clear hc h1 hlen hmc h0;go_enter Try.func42,Try.ntmps42;go_upto_region 4 with fail;have B:=Hi (Blk.new w mc 79);have M:=Hi ((Mod.refl [] w).alloc (.cells mc 79));have HC2:=Hi (fun j u (h:cs[j]?=some u)=>by obtain ⟨a',e,h2⟩:=HC.out j u h;cases e;exact cell_stays M.out h2);have hcp:=run_copy_new (P:=Try.prog) (w.alloc (.cells mc 79)) 49 49 3 79 w.heap.size n n a cap 2 mc 79 cs Try.underlying49 Try.rowsize_Ins B.out HL.out HSZ.out HC2.out H1.out;have B2:=Hi (setRow_blk B.out cs.toArray);have M2:=Hi (setRow_mod M.out (Nat.le_refl _) cs.toArray);generalize (w.alloc (.cells mc 79)).setRow w.heap.size cs.toArray=w2 at *
  clear B M HC HC2 hmk;go_wp2_with fail;go_ret;exact ⟨_,rfl,M2.out,.inr ⟨_,rfl,Nat.le_refl _,B2.out⟩⟩
theorem Try.rowinfo_Point:(Try.prog.info? 67).map (fun i=>(i.zero,i.size,i.bytes))=some (some (.agg #[.int .i64 0,.int .i64 0,.bool false]),3,24):=by kernel_rfl
theorem Try.rowsize_Point:(Try.prog.info? 67).map (·.size)=some 3:=by kernel_rfl
set_option maxHeartbeats 1000000 in
theorem row_Point (oa:Option Addr) (n cap:Nat) (cs:List Value) (w:World) (hlen:cs.length=n*3) (hc:∀ j u,cs[j]?=some u->∃ a:Addr,oa=some a/\w.cell? (a.add j)=some u) (h1:∀ u∈cs,u.oneCell'=true) (hn:n*24<=140737488351232) :
  Calls Try.prog 64 #[.slice oa n cap] w (CopyRes w 67 cs n):=by
 by_cases h0:n=0
 ·subst h0;go_enter Try.func64,Try.ntmps64;go_wp2_with fail;go_ret;exact ⟨_,rfl,Mod.refl _ _,.inl ⟨rfl,rfl⟩⟩
 ·have hne:((n:Int) == 0)=false:=by simpa using h0
  have hne':¬ ((n:Int)=0):=by omega
  obtain ⟨i0,hi,hz0,hz1,hz2⟩:=info_parts Try.rowinfo_Point;have hmk:=fun W=>run_make (P:=Try.prog) W 43 67 i0 (.agg #[.int .i64 0,.int .i64 0,.bool false]) Try.underlying43 hi hz0 .i64 .i64 (n:Int) (n:Int) (by omega) (by omega) (by rw [hz2];omega) (by omega)
  rw [hz1] at hmk;simp only [Int.toNat_natCast] at hmk;generalize hmc:madeCells (.agg #[.int .i64 0,.int .i64 0,.bool false]:Value).cells (n*3)=mc at hmk;have HSZ:Hid (mc.size=n*3):=by rw [<- hmc];exact size_made _ _
  have HC:=Hi hc;have H1:=Hi h1;have HL:=Hi hlen;obtain ⟨a,rfl⟩:∃ a,oa=some a:=by obtain ⟨a,e,_⟩:=hc 0 _ (List.getElem?_eq_getElem (show 0<cs.length by omega));exact ⟨a,e⟩
  clear hc h1 hlen hmc h0;go_enter Try.func64,Try.ntmps64;go_upto_region 4 with fail;have B:=Hi (Blk.new w mc 67);have M:=Hi ((Mod.refl [] w).alloc (.cells mc 67));have HC2:=Hi (fun j u (h:cs[j]?=some u)=>by obtain ⟨a',e,h2⟩:=HC.out j u h;cases e;exact cell_stays M.out h2);have hcp:=run_copy_new (P:=Try.prog) (w.alloc (.cells mc 67)) 43 43 3 67 w.heap.size n n a cap 3 mc 67 cs Try.underlying43 Try.rowsize_Point B.out HL.out HSZ.out HC2.out H1.out;have B2:=Hi (setRow_blk B.out cs.toArray);have M2:=Hi (setRow_mod M.out (Nat.le_refl _) cs.toArray);generalize (w.alloc (.cells mc 67)).setRow w.heap.size cs.toArray=w2 at *
  clear B M HC HC2 hmk;go_wp2_with fail;go_ret;exact ⟨_,rfl,M2.out,.inr ⟨_,rfl,Nat.le_refl _,B2.out⟩⟩
theorem Try.rowinfo_Part:(Try.prog.info? 131).map (fun i=>(i.zero,i.size,i.bytes))=some (some (.agg #[.int .i64 0,.int .i64 0,.int .i64 0]),3,24):=by kernel_rfl
theorem Try.rowsize_Part:(Try.prog.info? 131).map (·.size)=some 3:=by kernel_rfl
set_option maxHeartbeats 1000000 in
theorem row_Part (oa:Option Addr) (n cap:Nat) (cs:List Value) (w:World) (hlen:cs.length=n*3) (hc:∀ j u,cs[j]?=some u->∃ a:Addr,oa=some a/\w.cell? (a.add j)=some u) (h1:∀ u∈cs,u.oneCell'=true) (hn:n*24<=140737488351232) :
  Calls Try.prog 65 #[.slice oa n cap] w (CopyRes w 131 cs n):=by
 by_cases h0:n=0
 ·subst h0;go_enter Try.func65,Try.ntmps65;go_wp2_with fail;go_ret;exact ⟨_,rfl,Mod.refl _ _,.inl ⟨rfl,rfl⟩⟩
 ·have hne:((n:Int) == 0)=false:=by simpa using h0
  have hne':¬ ((n:Int)=0):=by omega
  obtain ⟨i0,hi,hz0,hz1,hz2⟩:=info_parts Try.rowinfo_Part;have hmk:=fun W=>run_make (P:=Try.prog) W 46 131 i0 (.agg #[.int .i64 0,.int .i64 0,.int .i64 0]) Try.underlying46 hi hz0 .i64 .i64 (n:Int) (n:Int) (by omega) (by omega) (by rw [hz2];omega) (by omega)
  rw [hz1] at hmk;simp only [Int.toNat_natCast] at hmk;generalize hmc:madeCells (.agg #[.int .i64 0,.int .i64 0,.int .i64 0]:Value).cells (n*3)=mc at hmk;have HSZ:Hid (mc.size=n*3):=by rw [<- hmc];exact size_made _ _
  have HC:=Hi hc;have H1:=Hi h1;have HL:=Hi hlen;obtain ⟨a,rfl⟩:∃ a,oa=some a:=by obtain ⟨a,e,_⟩:=hc 0 _ (List.getElem?_eq_getElem (show 0<cs.length by omega));exact ⟨a,e⟩
  clear hc h1 hlen hmc h0;go_enter Try.func65,Try.ntmps65;go_upto_region 4 with fail;have B:=Hi (Blk.new w mc 131);have M:=Hi ((Mod.refl [] w).alloc (.cells mc 131));have HC2:=Hi (fun j u (h:cs[j]?=some u)=>by obtain ⟨a',e,h2⟩:=HC.out j u h;cases e;exact cell_stays M.out h2);have hcp:=run_copy_new (P:=Try.prog) (w.alloc (.cells mc 131)) 46 46 3 131 w.heap.size n n a cap 3 mc 131 cs Try.underlying46 Try.rowsize_Part B.out HL.out HSZ.out HC2.out H1.out;have B2:=Hi (setRow_blk B.out cs.toArray);have M2:=Hi (setRow_mod M.out (Nat.le_refl _) cs.toArray);generalize (w.alloc (.cells mc 131)).setRow w.heap.size cs.toArray=w2 at *
  clear B M HC HC2 hmk;go_wp2_with fail;go_ret;exact ⟨_,rfl,M2.out,.inr ⟨_,rfl,Nat.le_refl _,B2.out⟩⟩
theorem Try.rowinfo_Anchor:(Try.prog.info? 135).map (fun i=>(i.zero,i.size,i.bytes))=some (some (.agg #[.int .i64 0,.int .i64 0,.int .i64 0,.int .i64 0]),4,32):=by kernel_rfl
theorem Try.rowsize_Anchor:(Try.prog.info? 135).map (·.size)=some 4:=by kernel_rfl
set_option maxHeartbeats 1000000 in
theorem row_Anchor (oa:Option Addr) (n cap:Nat) (cs:List Value) (w:World) (hlen:cs.length=n*4) (hc:∀ j u,cs[j]?=some u->∃ a:Addr,oa=some a/\w.cell? (a.add j)=some u) (h1:∀ u∈cs,u.oneCell'=true) (hn:n*32<=140737488351232) :
  Calls Try.prog 66 #[.slice oa n cap] w (CopyRes w 135 cs n):=by
 by_cases h0:n=0
 ·subst h0;go_enter Try.func66,Try.ntmps66;go_wp2_with fail;go_ret;exact ⟨_,rfl,Mod.refl _ _,.inl ⟨rfl,rfl⟩⟩
 ·have hne:((n:Int) == 0)=false:=by simpa using h0
  have hne':¬ ((n:Int)=0):=by omega
  obtain ⟨i0,hi,hz0,hz1,hz2⟩:=info_parts Try.rowinfo_Anchor;have hmk:=fun W=>run_make (P:=Try.prog) W 47 135 i0 (.agg #[.int .i64 0,.int .i64 0,.int .i64 0,.int .i64 0]) Try.underlying47 hi hz0 .i64 .i64 (n:Int) (n:Int) (by omega) (by omega) (by rw [hz2];omega) (by omega)
  rw [hz1] at hmk;simp only [Int.toNat_natCast] at hmk;generalize hmc:madeCells (.agg #[.int .i64 0,.int .i64 0,.int .i64 0,.int .i64 0]:Value).cells (n*4)=mc at hmk;have HSZ:Hid (mc.size=n*4):=by rw [<- hmc];exact size_made _ _
  have HC:=Hi hc;have H1:=Hi h1;have HL:=Hi hlen;obtain ⟨a,rfl⟩:∃ a,oa=some a:=by obtain ⟨a,e,_⟩:=hc 0 _ (List.getElem?_eq_getElem (show 0<cs.length by omega));exact ⟨a,e⟩
  clear hc h1 hlen hmc h0;go_enter Try.func66,Try.ntmps66;go_upto_region 4 with fail;have B:=Hi (Blk.new w mc 135);have M:=Hi ((Mod.refl [] w).alloc (.cells mc 135));have HC2:=Hi (fun j u (h:cs[j]?=some u)=>by obtain ⟨a',e,h2⟩:=HC.out j u h;cases e;exact cell_stays M.out h2);have hcp:=run_copy_new (P:=Try.prog) (w.alloc (.cells mc 135)) 47 47 3 135 w.heap.size n n a cap 4 mc 135 cs Try.underlying47 Try.rowsize_Anchor B.out HL.out HSZ.out HC2.out H1.out;have B2:=Hi (setRow_blk B.out cs.toArray);have M2:=Hi (setRow_mod M.out (Nat.le_refl _) cs.toArray);generalize (w.alloc (.cells mc 135)).setRow w.heap.size cs.toArray=w2 at *
  clear B M HC HC2 hmk;go_wp2_with fail;go_ret;exact ⟨_,rfl,M2.out,.inr ⟨_,rfl,Nat.le_refl _,B2.out⟩⟩
def encIntV (x:Int):List Value:=[.int .i64 x]
theorem encInt_len (x:Int):(encIntV x).length=1:=rfl
theorem encInt_of (B:Nat) (w:World) (cs:List Value) (x:Int) (h:RInt B w cs x):cs=encIntV x:=h.1
theorem encInt_to (B B':Nat) (w w':World) (cs:List Value) (x:Int) (h:RInt B w cs x):RInt B' w' (encIntV x) x:=⟨rfl,h.2⟩
theorem encIntV_one (l:List Int):∀ u∈l.flatMap encIntV,u.oneCell'=true:=by
 intro u hu;obtain ⟨x,_,hx⟩:=List.mem_flatMap.1 hu;simp only [encIntV,List.mem_cons,List.not_mem_nil,or_false] at hx;rcases hx with rfl <;> rfl
theorem copy_Int (v:Value) (l:List Int) (B:Nat) (w:World) (h:Rows 1 RInt B w v l) (hl:l.length*8<=140737488351232):Calls Try.prog 18 #[v] w (CopyRes w 3 (l.flatMap encIntV) l.length):=by
 obtain ⟨oa,cap,rfl,hm⟩:=h.form;obtain ⟨_,_,hc⟩:=rows_flat encInt_len encInt_of h;exact row_Int oa l.length cap _ w (flat_length encInt_len l) hc (encIntV_one l) hl
theorem copied_Int {w0 w w':World} {v:Value} {l:List Int} {B:Nat} {e:Ending} (h:Rows 1 RInt B w0 v l) (c:CopyRes w 3 (l.flatMap encIntV) l.length e w'):∃ u,e=.returned u/\Mod [] w w'/\Rows 1 RInt w.heap.size w' u l:=by
 obtain ⟨u,he,m,hu⟩:=c;refine ⟨u,he,m,?_⟩;obtain ⟨oa,cap,_,hm,hr⟩:=h;rcases hu with ⟨h0,rfl⟩ | ⟨b,rfl,hb,B⟩
 ·obtain rfl:=List.eq_nil_of_length_eq_zero h0;exact Rows.nil _
 ·exact rows_blk encInt_len hm (fun x hx=>by
   obtain ⟨i,hi,rfl⟩:=List.getElem_of_mem hx;obtain ⟨_,_,_,cs,_,_,hr⟩:=hr i hi
   exact encInt_to _ _ _ _ _ _ hr) hb B (by rw [<- flat_length encInt_len,List.take_length])
theorem fcopy_Int (v:Value) (l:List Int) (B B0:Nat) (w:World) (h:Rows 1 RInt B w v l) (hl:l.length*8<=140737488351232) (hB:B0<=w.heap.size):Calls Try.prog 18 #[v] w fun e w'=>∃ u,e=.returned u/\FRows 1 RInt B0 l u w'/\Mod [] w w' :=
 (copy_Int v l B w h hl).mono fun e w' c=>by
  obtain ⟨u,he,m,hr⟩:=copied_Int h c;exact ⟨u,he,hr.lower RInt.lower hB,m⟩
def encChar (x:DChar):List Value:=[.int .i64 x.rune,.int .i64 x.glyph]
theorem encChar_len (x:DChar):(encChar x).length=2:=rfl
theorem encChar_of (B:Nat) (w:World) (cs:List Value) (x:DChar) (h:RChar B w cs x):cs=encChar x:=h.1
theorem encChar_to (B B':Nat) (w w':World) (cs:List Value) (x:DChar) (h:RChar B w cs x):RChar B' w' (encChar x) x:=⟨rfl,h.2⟩
theorem encChar_one (l:List DChar):∀ u∈l.flatMap encChar,u.oneCell'=true:=by
 intro u hu;obtain ⟨x,_,hx⟩:=List.mem_flatMap.1 hu;simp only [encChar,List.mem_cons,List.not_mem_nil,or_false] at hx;rcases hx with rfl | rfl <;> rfl
theorem copy_Char (v:Value) (l:List DChar) (B:Nat) (w:World) (h:Rows 2 RChar B w v l) (hl:l.length*16<=140737488351232):Calls Try.prog 14 #[v] w (CopyRes w 74 (l.flatMap encChar) l.length):=by
 obtain ⟨oa,cap,rfl,hm⟩:=h.form;obtain ⟨_,_,hc⟩:=rows_flat encChar_len encChar_of h;exact row_Char oa l.length cap _ w (flat_length encChar_len l) hc (encChar_one l) hl
theorem copied_Char {w0 w w':World} {v:Value} {l:List DChar} {B:Nat} {e:Ending} (h:Rows 2 RChar B w0 v l) (c:CopyRes w 74 (l.flatMap encChar) l.length e w'):∃ u,e=.returned u/\Mod [] w w'/\Rows 2 RChar w.heap.size w' u l:=by
 obtain ⟨u,he,m,hu⟩:=c;refine ⟨u,he,m,?_⟩;obtain ⟨oa,cap,_,hm,hr⟩:=h;rcases hu with ⟨h0,rfl⟩ | ⟨b,rfl,hb,B⟩
 ·obtain rfl:=List.eq_nil_of_length_eq_zero h0;exact Rows.nil _
 ·exact rows_blk encChar_len hm (fun x hx=>by
   obtain ⟨i,hi,rfl⟩:=List.getElem_of_mem hx;obtain ⟨_,_,_,cs,_,_,hr⟩:=hr i hi
   exact encChar_to _ _ _ _ _ _ hr) hb B (by rw [<- flat_length encChar_len,List.take_length])
def encCall (x:DCall):List Value:=[.int .i64 x.pos,.int .i64 x.lookup]
theorem encCall_len (x:DCall):(encCall x).length=2:=rfl
theorem encCall_of (B:Nat) (w:World) (cs:List Value) (x:DCall) (h:RCall B w cs x):cs=encCall x:=h.1
theorem encCall_to (B B':Nat) (w w':World) (cs:List Value) (x:DCall) (h:RCall B w cs x):RCall B' w' (encCall x) x:=⟨rfl,h.2⟩
theorem encCall_one (l:List DCall):∀ u∈l.flatMap encCall,u.oneCell'=true:=by
 intro u hu;obtain ⟨x,_,hx⟩:=List.mem_flatMap.1 hu;simp only [encCall,List.mem_cons,List.not_mem_nil,or_false] at hx;rcases hx with rfl | rfl <;> rfl
theorem copy_Call (v:Value) (l:List DCall) (B:Nat) (w:World) (h:Rows 2 RCall B w v l) (hl:l.length*16<=140737488351232):Calls Try.prog 41 #[v] w (CopyRes w 121 (l.flatMap encCall) l.length):=by
 obtain ⟨oa,cap,rfl,hm⟩:=h.form;obtain ⟨_,_,hc⟩:=rows_flat encCall_len encCall_of h;exact row_Call oa l.length cap _ w (flat_length encCall_len l) hc (encCall_one l) hl
theorem copied_Call {w0 w w':World} {v:Value} {l:List DCall} {B:Nat} {e:Ending} (h:Rows 2 RCall B w0 v l) (c:CopyRes w 121 (l.flatMap encCall) l.length e w'):∃ u,e=.returned u/\Mod [] w w'/\Rows 2 RCall w.heap.size w' u l:=by
 obtain ⟨u,he,m,hu⟩:=c;refine ⟨u,he,m,?_⟩;obtain ⟨oa,cap,_,hm,hr⟩:=h;rcases hu with ⟨h0,rfl⟩ | ⟨b,rfl,hb,B⟩
 ·obtain rfl:=List.eq_nil_of_length_eq_zero h0;exact Rows.nil _
 ·exact rows_blk encCall_len hm (fun x hx=>by
   obtain ⟨i,hi,rfl⟩:=List.getElem_of_mem hx;obtain ⟨_,_,_,cs,_,_,hr⟩:=hr i hi
   exact encCall_to _ _ _ _ _ _ hr) hb B (by rw [<- flat_length encCall_len,List.take_length])
theorem fcopy_Call (v:Value) (l:List DCall) (B B0:Nat) (w:World) (h:Rows 2 RCall B w v l) (hl:l.length*16<=140737488351232) (hB:B0<=w.heap.size):Calls Try.prog 41 #[v] w fun e w'=>∃ u,e=.returned u/\FRows 2 RCall B0 l u w'/\Mod [] w w' :=
 (copy_Call v l B w h hl).mono fun e w' c=>by
  obtain ⟨u,he,m,hr⟩:=copied_Call h c;exact ⟨u,he,hr.lower RCall.lower hB,m⟩
def encInsV (x:DIns):List Value:=[.int .i64 x.op,.int .i64 x.a]
theorem encIns_len (x:DIns):(encInsV x).length=2:=rfl
theorem encIns_of (B:Nat) (w:World) (cs:List Value) (x:DIns) (h:RIns B w cs x):cs=encInsV x:=h.1
theorem encIns_to (B B':Nat) (w w':World) (cs:List Value) (x:DIns) (h:RIns B w cs x):RIns B' w' (encInsV x) x:=⟨rfl,h.2⟩
theorem encInsV_one (l:List DIns):∀ u∈l.flatMap encInsV,u.oneCell'=true:=by
 intro u hu;obtain ⟨x,_,hx⟩:=List.mem_flatMap.1 hu;simp only [encInsV,List.mem_cons,List.not_mem_nil,or_false] at hx;rcases hx with rfl | rfl <;> rfl
theorem copy_Ins (v:Value) (l:List DIns) (B:Nat) (w:World) (h:Rows 2 RIns B w v l) (hl:l.length*16<=140737488351232):Calls Try.prog 42 #[v] w (CopyRes w 79 (l.flatMap encInsV) l.length):=by
 obtain ⟨oa,cap,rfl,hm⟩:=h.form;obtain ⟨_,_,hc⟩:=rows_flat encIns_len encIns_of h;exact row_Ins oa l.length cap _ w (flat_length encIns_len l) hc (encInsV_one l) hl
theorem copied_Ins {w0 w w':World} {v:Value} {l:List DIns} {B:Nat} {e:Ending} (h:Rows 2 RIns B w0 v l) (c:CopyRes w 79 (l.flatMap encInsV) l.length e w'):∃ u,e=.returned u/\Mod [] w w'/\Rows 2 RIns w.heap.size w' u l:=by
 obtain ⟨u,he,m,hu⟩:=c;refine ⟨u,he,m,?_⟩;obtain ⟨oa,cap,_,hm,hr⟩:=h;rcases hu with ⟨h0,rfl⟩ | ⟨b,rfl,hb,B⟩
 ·obtain rfl:=List.eq_nil_of_length_eq_zero h0;exact Rows.nil _
 ·exact rows_blk encIns_len hm (fun x hx=>by
   obtain ⟨i,hi,rfl⟩:=List.getElem_of_mem hx;obtain ⟨_,_,_,cs,_,_,hr⟩:=hr i hi
   exact encIns_to _ _ _ _ _ _ hr) hb B (by rw [<- flat_length encIns_len,List.take_length])
def encPoint (x:DPoint):List Value:=[.int .i64 x.x,.int .i64 x.y,.bool x.on]
theorem encPoint_len (x:DPoint):(encPoint x).length=3:=rfl
theorem encPoint_of (B:Nat) (w:World) (cs:List Value) (x:DPoint) (h:RPoint B w cs x):cs=encPoint x:=h.1
theorem encPoint_to (B B':Nat) (w w':World) (cs:List Value) (x:DPoint) (h:RPoint B w cs x):RPoint B' w' (encPoint x) x:=⟨rfl,h.2⟩
theorem encPoint_one (l:List DPoint):∀ u∈l.flatMap encPoint,u.oneCell'=true:=by
 intro u hu;obtain ⟨x,_,hx⟩:=List.mem_flatMap.1 hu;simp only [encPoint,List.mem_cons,List.not_mem_nil,or_false] at hx;rcases hx with rfl | rfl | rfl <;> rfl
theorem copy_Point (v:Value) (l:List DPoint) (B:Nat) (w:World) (h:Rows 3 RPoint B w v l) (hl:l.length*24<=140737488351232):Calls Try.prog 64 #[v] w (CopyRes w 67 (l.flatMap encPoint) l.length):=by
 obtain ⟨oa,cap,rfl,hm⟩:=h.form;obtain ⟨_,_,hc⟩:=rows_flat encPoint_len encPoint_of h;exact row_Point oa l.length cap _ w (flat_length encPoint_len l) hc (encPoint_one l) hl
def encPart (x:DPart):List Value:=[.int .i64 x.glyph,.int .i64 x.x,.int .i64 x.y]
theorem encPart_len (x:DPart):(encPart x).length=3:=rfl
theorem encPart_of (B:Nat) (w:World) (cs:List Value) (x:DPart) (h:RPart B w cs x):cs=encPart x:=h.1
theorem encPart_to (B B':Nat) (w w':World) (cs:List Value) (x:DPart) (h:RPart B w cs x):RPart B' w' (encPart x) x:=⟨rfl,h.2⟩
theorem encPart_one (l:List DPart):∀ u∈l.flatMap encPart,u.oneCell'=true:=by
 intro u hu;obtain ⟨x,_,hx⟩:=List.mem_flatMap.1 hu;simp only [encPart,List.mem_cons,List.not_mem_nil,or_false] at hx;rcases hx with rfl | rfl | rfl <;> rfl
theorem copy_Part (v:Value) (l:List DPart) (B:Nat) (w:World) (h:Rows 3 RPart B w v l) (hl:l.length*24<=140737488351232):Calls Try.prog 65 #[v] w (CopyRes w 131 (l.flatMap encPart) l.length):=by
 obtain ⟨oa,cap,rfl,hm⟩:=h.form;obtain ⟨_,_,hc⟩:=rows_flat encPart_len encPart_of h;exact row_Part oa l.length cap _ w (flat_length encPart_len l) hc (encPart_one l) hl
def encAnchor (x:DAnchor):List Value:=[.int .i64 x.kind,.int .i64 x.cls,.int .i64 x.x,.int .i64 x.y]
theorem encAnchor_len (x:DAnchor):(encAnchor x).length=4:=rfl
theorem encAnchor_of (B:Nat) (w:World) (cs:List Value) (x:DAnchor) (h:RAnchor B w cs x):cs=encAnchor x:=h.1
theorem encAnchor_to (B B':Nat) (w w':World) (cs:List Value) (x:DAnchor) (h:RAnchor B w cs x):RAnchor B' w' (encAnchor x) x:=⟨rfl,h.2⟩
theorem encAnchor_one (l:List DAnchor):∀ u∈l.flatMap encAnchor,u.oneCell'=true:=by
 intro u hu;obtain ⟨x,_,hx⟩:=List.mem_flatMap.1 hu;simp only [encAnchor,List.mem_cons,List.not_mem_nil,or_false] at hx;rcases hx with rfl | rfl | rfl | rfl <;> rfl
theorem copy_Anchor (v:Value) (l:List DAnchor) (B:Nat) (w:World) (h:Rows 4 RAnchor B w v l) (hl:l.length*32<=140737488351232):Calls Try.prog 66 #[v] w (CopyRes w 135 (l.flatMap encAnchor) l.length):=by
 obtain ⟨oa,cap,rfl,hm⟩:=h.form;obtain ⟨_,_,hc⟩:=rows_flat encAnchor_len encAnchor_of h;exact row_Anchor oa l.length cap _ w (flat_length encAnchor_len l) hc (encAnchor_one l) hl
def CopyOut (B:Nat) (t:TypeId) (cs:List Value) (n:Nat) (v:Value) (w:World):Prop:=(n=0/\v=.slice none 0 0)∨∃ b,v=.slice (some ⟨b,0,none⟩) n n/\B<=b/\Blk w b cs.toArray t
theorem CopyOut.stays (B:Nat) (t:TypeId) (cs:List Value) (n:Nat) (v:Value):Stays (CopyOut B t cs n v):=fun _ _ h m=>by
 rcases h with h | ⟨b,h1,h2,h3⟩
 ·exact .inl h
 ·exact .inr ⟨b,h1,h2,h3.kept m (by simp)⟩
theorem CopyOut.above {B:Nat} {t:TypeId} {cs:List Value} {n:Nat} {v:Value} {w w':World} (h:CopyOut B t cs n v w) (m:Above B w w'):CopyOut B t cs n v w':=by
 rcases h with h | ⟨b,h1,h2,h3⟩
 ·exact .inl h
 ·exact .inr ⟨b,h1,h2,(m b h2 h3.lt).trans h3⟩
theorem CopyOut.lower {B B':Nat} {t:TypeId} {cs:List Value} {n:Nat} {v:Value} {w:World} (h:CopyOut B t cs n v w) (m:B'<=B):CopyOut B' t cs n v w:=by
 rcases h with h | ⟨b,h1,h2,h3⟩
 ·exact .inl h
 ·exact .inr ⟨b,h1,Nat.le_trans m h2,h3⟩
theorem CopyOut.form {B:Nat} {t:TypeId} {cs:List Value} {n:Nat} {v:Value} {w:World} (h:CopyOut B t cs n v w):∃ oa c,v=.slice oa n c:=by
 rcases h with ⟨rfl,h⟩ | ⟨b,h1,h2,h3⟩
 ·exact ⟨_,_,h⟩
 ·exact ⟨_,_,h1⟩
theorem copy_out {P:Program} {f:FuncId} {args:Array Value} {w0 w:World} {t:TypeId} {cs:List Value} {n:Nat} (h:Calls P f args w (CopyRes w t cs n)) (m:Mod [] w0 w) :
  Calls P f args w fun e w'=>∃ v,e=.returned v/\CopyOut w0.heap.size t cs n v w'/\Mod [] w w':=h.mono fun e w' ⟨v,he,hm,hv⟩=>⟨v,he,by
 rcases hv with h | ⟨b,h1,h2,h3⟩
 ·exact .inl h
 ·exact .inr ⟨b,h1,Nat.le_trans m.size h2,h3⟩,hm⟩
def Pair2 (P Q:Value->World->Prop) (v:Value) (w:World):Prop:=∃ a b,v=.agg #[a,b]/\P a w/\Q b w
theorem Pair2.stays {P Q:Value->World->Prop} (hP:∀ v,Stays (P v)) (hQ:∀ v,Stays (Q v)) (v:Value):Stays (Pair2 P Q v):=fun _ _ ⟨a,b,h,h1,h2⟩ m=>⟨a,b,h,hP _ _ _ h1 m,hQ _ _ _ h2 m⟩
def StillOut (B:Nat) (g:DGlyph) (v:Value) (w:World):Prop:=∃ u3 u4 u5 u6 u8,v=.agg #[.string g.name,.int .i64 g.adv,.bool g.mark,u3,u4,u5,u6,.slice none 0 0,u8] /\
 CopyOut B 67 (g.pts.flatMap encPoint) g.pts.length u3 w/\CopyOut B 3 (g.ends.flatMap encIntV) g.ends.length u4 w/\CopyOut B 131 (g.parts.flatMap encPart) g.parts.length u5 w/\CopyOut B 135 (g.anchors.flatMap encAnchor) g.anchors.length u6 w/\CopyOut B 79 (g.hint.flatMap encInsV) g.hint.length u8 w
def GSmall (g:DGlyph):Prop:=g.pts.length*24<=140737488351232/\g.ends.length*8<=140737488351232/\g.parts.length*24<=140737488351232/\g.anchors.length*32<=140737488351232/\g.deltas.length*32<=140737488351232/\g.hint.length*16<=140737488351232
set_option maxHeartbeats 4000000 in
theorem still_any (g:DGlyph) (B:Nat) (cs:List Value) (w:World) (h:RGlyph B w cs g) (hs:GSmall g) :
  Calls Try.prog 36 #[.agg cs.toArray] w fun e w'=>∃ v,e=.returned v/\Mod [] w w'/\StillOut w.heap.size g v w':=by
 obtain ⟨v3,v4,v5,v6,v7,v8,rfl,hn,ha,h3,h4,h5,h6,h7,h8⟩:=h;obtain ⟨s1,s2,s3,s4,s5,s6⟩:=hs;obtain ⟨o3,c3,rfl,-⟩:=h3.form;obtain ⟨o4,c4,rfl,-⟩:=h4.form;obtain ⟨o5,c5,rfl,-⟩:=h5.form;obtain ⟨o6,c6,rfl,-⟩:=h6.form;obtain ⟨o7,c7,rfl,-⟩:=h7.form;obtain ⟨o8,c8,rfl,-⟩:=h8.form;have H3:=Hi (fun W (m:Mod [] w W)=>copy_Point _ _ _ W (h3.mod RPoint.stay m) s1);have H4:=Hi (fun W (m:Mod [] w W)=>copy_Int _ _ _ W (h4.mod RInt.stay m) s2);have H5:=Hi (fun W (m:Mod [] w W)=>copy_Part _ _ _ W (h5.mod RPart.stay m) s3);have H6:=Hi (fun W (m:Mod [] w W)=>copy_Anchor _ _ _ W (h6.mod RAnchor.stay m) s4);have H8:=Hi (fun W (m:Mod [] w W)=>copy_Ins _ _ _ W (h8.mod RIns.stay m) s6);obtain ⟨name,adv,mark,pts,ends,parts,anchors,deltas,hint⟩:=g;simp only at *
 have T:=Hi (own2 w #[.string name,.int .i64 adv,.bool mark,.slice o3 pts.length c3,.slice o4 ends.length c4,.slice o5 parts.length c5,.slice o6 anchors.length c6,.slice o7 deltas.length c7,.slice o8 hint.length c8] 51 #[.string ⟨#[]⟩,.int .i64 0,.bool false,.slice none 0 0,.slice none 0 0,.slice none 0 0,.slice none 0 0,.slice none 0 0,.slice none 0 0] 51);clear h3 h4 h5 h6 h7 h8 hn ha s1 s2 s3 s4 s5 s6;go_enter Try.func36,Try.ntmps36;go_upto_region 1 with fail;generalize (w.alloc (.cells #[.string name,.int .i64 adv,.bool mark,.slice o3 pts.length c3,.slice o4 ends.length c4,.slice o5 parts.length c5,.slice o6 anchors.length c6,.slice o7 deltas.length c7,.slice o8 hint.length c8] 51)).alloc (.cells #[.string ⟨#[]⟩,.int .i64 0,.bool false,.slice none 0 0,.slice none 0 0,.slice none 0 0,.slice none 0 0,.slice none 0 0,.slice none 0 0] 51)=W0 at *
 have A0:=(T.out.at 0 rfl).every;refine Sq.wp_region_toks 24 [(0,none),(1,none),(2,none),(3,none),(4,none),(5,none),(6,none),(7,none),(8,none),(10,none),(11,none),(12,none),(15,none),(16,none),(18,none),(19,none),(21,none),(22,none),(9,some (CopyOut W0.heap.size 67 (pts.flatMap encPoint) pts.length)),(13,some (CopyOut W0.heap.size 3 (ends.flatMap encIntV) ends.length)),(14,none),(17,some (CopyOut W0.heap.size 131 (parts.flatMap encPart) parts.length)),(20,some (CopyOut W0.heap.size 135 (anchors.flatMap encAnchor) anchors.length)),(23,some (CopyOut W0.heap.size 79 (hint.flatMap encInsV) hint.length))] (by kernel_rfl) (by kernel_rfl) (Sq.nodup_of (by kernel_rfl)) ?hTS65 ?mainS65
 case hTS65 =>
  intro p hp T hT v;simp only [List.mem_cons,List.not_mem_nil,or_false] at hp;rcases hp with rfl | rfl | rfl | rfl | rfl | rfl | rfl | rfl | rfl | rfl | rfl | rfl | rfl | rfl | rfl | rfl | rfl | rfl | rfl | rfl | rfl | rfl | rfl | rfl <;> first | (cases hT;done) | (cases hT;first | exact CopyOut.stays _ _ _ _ _)
 iterate 18 refine Sq.vv ?_
 refine Sq.k_go (f:=?_) rfl rfl (fun v=>by simp only [Act.put];(try simp only [List.setIfInBounds_toArray]);(try simp only [List.set_cons_succ,List.set_cons_zero]);exact rfl) (fun w' hw' hF K Q hK=>?_) (fun kv9 hkv9=>?_)
 ·clear hF;go_wp2_with fail;refine (copy_out (H3.out _ (T.out.mod.then hw')) hw').mono ?_;rintro e w'' ⟨v,rfl,hv,mm⟩;go_wp2_with fail;exact hK _ _ mm hv
 obtain ⟨_,-,q3⟩:=hkv9;obtain ⟨u3,e3,rfl⟩:=q3.form;clear q3;refine Sq.k_go (f:=?_) rfl rfl (fun v=>by simp only [Act.put];(try simp only [List.setIfInBounds_toArray]);(try simp only [List.set_cons_succ,List.set_cons_zero]);exact rfl) (fun w' hw' hF K Q hK=>?_) (fun kv13 hkv13=>?_)
 ·clear hF;go_wp2_with fail;refine (copy_out (H4.out _ (T.out.mod.then hw')) hw').mono ?_;rintro e w'' ⟨v,rfl,hv,mm⟩;go_wp2_with fail;exact hK _ _ mm hv
 obtain ⟨_,-,q4⟩:=hkv13;obtain ⟨u4,e4,rfl⟩:=q4.form;clear q4;refine Sq.vv ?_;refine Sq.k_go (f:=?_) rfl rfl (fun v=>by simp only [Act.put];(try simp only [List.setIfInBounds_toArray]);(try simp only [List.set_cons_succ,List.set_cons_zero]);exact rfl) (fun w' hw' hF K Q hK=>?_) (fun kv17 hkv17=>?_)
 ·clear hF;go_wp2_with fail;refine (copy_out (H5.out _ (T.out.mod.then hw')) hw').mono ?_;rintro e w'' ⟨v,rfl,hv,mm⟩;go_wp2_with fail;exact hK _ _ mm hv
 obtain ⟨_,-,q5⟩:=hkv17;obtain ⟨u5,e5,rfl⟩:=q5.form;clear q5;refine Sq.k_go (f:=?_) rfl rfl (fun v=>by simp only [Act.put];(try simp only [List.setIfInBounds_toArray]);(try simp only [List.set_cons_succ,List.set_cons_zero]);exact rfl) (fun w' hw' hF K Q hK=>?_) (fun kv20 hkv20=>?_)
 ·clear hF;go_wp2_with fail;refine (copy_out (H6.out _ (T.out.mod.then hw')) hw').mono ?_;rintro e w'' ⟨v,rfl,hv,mm⟩;go_wp2_with fail;exact hK _ _ mm hv
 obtain ⟨_,-,q6⟩:=hkv20;obtain ⟨u6,e6,rfl⟩:=q6.form;clear q6;refine Sq.k_go (f:=?_) rfl rfl (fun v=>by simp only [Act.put];(try simp only [List.setIfInBounds_toArray]);(try simp only [List.set_cons_succ,List.set_cons_zero]);exact rfl) (fun w' hw' hF K Q hK=>?_) (fun kv23 hkv23=>?_)
 ·clear hF;go_wp2_with fail;refine (copy_out (H8.out _ (T.out.mod.then hw')) hw').mono ?_;rintro e w'' ⟨v,rfl,hv,mm⟩;go_wp2_with fail;exact hK _ _ mm hv
 obtain ⟨_,-,q8⟩:=hkv23;obtain ⟨u8,e8,rfl⟩:=q8.form;clear q8;refine Sq.nil_go ?_;intro w' hw' hF;simp only [List.drop_succ_cons,List.drop_zero];have HF:=Hi hF;have T1:=Hi (T.out.call hw');have hB2:w.heap.size+2<=W0.heap.size:=by have:=(T.out.at 1 rfl).lt;omega
 have HW:=Hi hw';clear hF hw' A0 T H3 H4 H5 H6 H8;have B1:=T1.out.at 1 rfl;have f0:=B1.cell 0;have f1:=B1.cell 1;have f2:=B1.cell 2;have f3:=B1.cell 3;have f4:=B1.cell 4;have f5:=B1.cell 5;have f6:=B1.cell 6;have f7:=B1.cell 7;have f8:=B1.cell 8;have g0:=fun i=>B1.frozen i
 clear B1;go_wp2_with fail;clear f0 f1 f2 f3 f4 f5 f6 f7 f8 g0;have XF:(((((((((w'.setCell ⟨w.heap.size+1,0,none⟩ (.string name)).setCell ⟨w.heap.size+1,1,none⟩ (.int .i64 adv)).setCell ⟨w.heap.size+1,2,none⟩ (.bool mark)).setCell ⟨w.heap.size+1,3,none⟩ (.slice u3 pts.length e3)).setCell ⟨w.heap.size+1,4,none⟩ (.slice u4 ends.length e4)).setCell ⟨w.heap.size+1,5,none⟩ (.slice u5 parts.length e5)).setCell ⟨w.heap.size+1,6,none⟩ (.slice u6 anchors.length e6)).setCell ⟨w.heap.size+1,7,none⟩ (.slice none 0 0)).setCell ⟨w.heap.size+1,8,none⟩ (.slice u8 hint.length e8))=setN w' (w.heap.size+1) (0) [.string name,.int .i64 adv,.bool mark,.slice u3 pts.length e3,.slice u4 ends.length e4,.slice u5 parts.length e5,.slice u6 anchors.length e6,.slice none 0 0,.slice u8 hint.length e8]:=rfl;rw [XF];clear XF;have B9:=(T1.out.at 1 rfl).over [.string name,.int .i64 adv,.bool mark,.slice u3 pts.length e3,.slice u4 ends.length e4,.slice u5 parts.length e5,.slice u6 anchors.length e6,.slice none 0 0,.slice u8 hint.length e8] rfl;have M9:=Hi (setN_mod (w0:=w) (b:=w.heap.size+1) (by omega) [.string name,.int .i64 adv,.bool mark,.slice u3 pts.length e3,.slice u4 ends.length e4,.slice u5 parts.length e5,.slice u6 anchors.length e6,.slice none 0 0,.slice u8 hint.length e8] 0 w' T1.out.mod);have A9:=Hi (setN_above (b:=w.heap.size+1) (B:=W0.heap.size) (by omega) [.string name,.int .i64 adv,.bool mark,.slice u3 pts.length e3,.slice u4 ends.length e4,.slice u5 parts.length e5,.slice u6 anchors.length e6,.slice none 0 0,.slice u8 hint.length e8] 0 w');generalize setN w' (w.heap.size+1) 0 [.string name,.int .i64 adv,.bool mark,.slice u3 pts.length e3,.slice u4 ends.length e4,.slice u5 parts.length e5,.slice u6 anchors.length e6,.slice none 0 0,.slice u8 hint.length e8]=W9 at *
 have r0:=B9.cell 0;have r1:=B9.cell 1;have r2:=B9.cell 2;have r3:=B9.cell 3;have r4:=B9.cell 4;have r5:=B9.cell 5;have r6:=B9.cell 6;have r7:=B9.cell 7;have r8:=B9.cell 8;simp only [List.getElem?_toArray,List.getElem?_cons_zero,List.getElem?_cons_succ] at r0 r1 r2 r3 r4 r5 r6 r7 r8;clear B9;obtain ⟨⟨⟨⟨⟨-,k3⟩,k4⟩,k5⟩,k6⟩,k8⟩:=HF.out;exact bodyPost_ret (v:=.agg #[.string name,.int .i64 adv,.bool mark,.slice u3 pts.length e3,.slice u4 ends.length e4,.slice u5 parts.length e5,.slice u6 anchors.length e6,.slice none 0 0,.slice u8 hint.length e8]) (by simp [results,Try.results36,go_sem,r0,r1,r2,r3,r4,r5,r6,r7,r8]) rfl
  ⟨_,rfl,M9.out,_,_,_,_,_,rfl,(k3.above A9.out).lower (by omega),(k4.above A9.out).lower (by omega),(k5.above A9.out).lower (by omega),(k6.above A9.out).lower (by omega),(k8.above A9.out).lower (by omega)⟩
theorem CopyOut.rows {α:Type} {k B B2:Nat} {R:Nat->World->List Value->α->Prop} {enc:α->List Value} {t:TypeId} {l:List α} {n:Nat} {v:Value} {w:World} (he:∀ x,(enc x).length=k) (hn:n=l.length) (hl:l.length<=maxLen) (hR:∀ x∈l,R B2 w (enc x) x) (hB:B2<=B) (h:CopyOut B t (l.flatMap enc) n v w):Rows k R B2 w v l:=by
 subst hn;rcases h with ⟨h0,rfl⟩ | ⟨b,rfl,hb,hB'⟩
 ·obtain rfl:l=[]:=List.eq_nil_of_length_eq_zero h0;exact Rows.nil w
 ·exact rows_blk he hl hR (Nat.le_trans hB hb) hB' (by rw [<- flat_length he,List.take_length])
theorem CopyOut.mod {B:Nat} {t:TypeId} {cs:List Value} {n:Nat} {v:Value} {w w':World} (h:CopyOut B t cs n v w) (m:Mod [] w w'):CopyOut B t cs n v w':=CopyOut.stays B t cs n v w w' h m
theorem CopyOut.of {B:Nat} {t:TypeId} {cs:List Value} {n:Nat} {v:Value} {w w':World} (h:CopyOut B t cs n v w) (m:∀ (b:Nat) (c:Array Value),B<=b->w.heap[b]?=some (.cells c t)->w'.heap[b]?=w.heap[b]?):CopyOut B t cs n v w':=by
 rcases h with h | ⟨b,h1,h2,h3⟩
 ·exact .inl h
 ·exact .inr ⟨b,h1,h2,(m b _ h2 h3).trans h3⟩
theorem rows_all {α:Type} {k B B2:Nat} {R:Nat->World->List Value->α->Prop} {enc:α->List Value} {l:List α} {oa:Option Addr} {n cap:Nat} {w w2:World} (h:Rows k R B w (.slice oa n cap) l) (hto:∀ cs x,R B w cs x->R B2 w2 (enc x) x):∀ x∈l,R B2 w2 (enc x) x:=by
 intro x hx;obtain ⟨i,hi,rfl⟩:=List.getElem_of_mem hx;obtain ⟨a,_,_,cs,_,_,_,hr⟩:=h.at i hi;exact hto cs _ hr
theorem flat_pt:∀ (ps:List DPoint) (i:Nat) (x y:Int) (h:i<ps.length),((ps.set i ⟨x,y,(ps[i]).on⟩).flatMap encPoint)=((ps.flatMap encPoint).set (i*3) (.int .i64 x)).set (i*3+1) (.int .i64 y)
 | p::r,0,x,y,_=>rfl
 | p::r,i+1,x,y,h=>by
  have ih:=flat_pt r i x y (by simpa using h);rw [show (i+1)*3=i*3+3 by omega];show encPoint p++_=((encPoint p++_).set _ _).set _ _;rw [show ((p::r)[i+1]).on=(r[i]'(by simpa using h)).on from rfl];simp only [encPoint,List.cons_append,List.nil_append,List.set_cons_succ];exact congrArg (fun l=>Value.int .i64 p.x::Value.int .i64 p.y::Value.bool p.on::l) ih
theorem curAdv_nil {m:List (Int×Sh)} {a:Int}:Vr.curAdv m [] a=a:=by unfold Vr.curAdv;rw [if_neg (by simp)]
theorem curPts_nil {m:List (Int×Sh)} {ps:List DPoint}:Vr.curPts m [] ps=ps:=by
 apply List.ext_getElem?;intro q;rcases Nat.lt_or_ge q ps.length with hq | hq
 ·rw [curPts_at m _ ps q hq,List.getElem?_eq_getElem hq];simp [Vr.curPt]
 ·rw [List.getElem?_eq_none (by rw [curPts_length];exact hq),List.getElem?_eq_none hq]
theorem fine_nil {m:List (Int×Sh)} {a:Int} {ps:List DPoint}:Vr.fine m [] a ps:=⟨fun h=>absurd h (by simp),fun i h hm=>absurd hm (by simp)⟩
def Calm (Q:Exit->Act->World->Prop) (e:Exit) (a:Act) (w:World):Prop:=match e with | .panic _=>False | e=>Q e a w
theorem calm_of {P:Program} {c:Code} {Q:Exit->Act->World->Prop} {a:Act} {w:World} (h:c.wp P (Calm Q) a w):c.wp P Q a w:=Code.wp_mono (fun e a w h=>by cases e <;> first | exact h | exact h.elim) h
theorem calm_normal {Q:Exit->Act->World->Prop} {a:Act} {w:World} (h:Q .normal a w):Calm Q .normal a w:=h
def toldCells (g:DGlyph) (a:Int) (o3 o4 o5 o6 o8:Option Addr) (c3 c4 c5 c6 c8:Nat):Array Value:=#[.string g.name,.int .i64 a,.bool g.mark,.slice o3 g.pts.length c3,.slice o4 g.ends.length c4,.slice o5 g.parts.length c5,.slice o6 g.anchors.length c6,.slice none 0 0,.slice o8 g.hint.length c8]
structure GlTold (B:Nat) (g:DGlyph) (ps:List DPoint) (o3 o4 o5 o6 o8:Option Addr) (c3 c4 c5 c6 c8:Nat) (w:World):Prop where
 len:ps.length=g.pts.length
 pts:CopyOut B 67 (ps.flatMap encPoint) g.pts.length (.slice o3 g.pts.length c3) w
 ends:CopyOut B 3 (g.ends.flatMap encIntV) g.ends.length (.slice o4 g.ends.length c4) w
 parts:CopyOut B 131 (g.parts.flatMap encPart) g.parts.length (.slice o5 g.parts.length c5) w
 anchors:CopyOut B 135 (g.anchors.flatMap encAnchor) g.anchors.length (.slice o6 g.anchors.length c6) w
 hint:CopyOut B 79 (g.hint.flatMap encInsV) g.hint.length (.slice o8 g.hint.length c8) w
structure GlI (w:World) (fb:Nat) (regs:List DRegion) (xs:List (Int×Int)) (sc gc:Array Value) (g:DGlyph) (M:List (Int×Value)) (mb rb:Nat) (o3 o4 o5 o6 o8:Option Addr) (c3 c4 c5 c6 c8:Nat) (a:Int) (ps:List DPoint) (D:List Int) (n:Nat) (wr:World):Prop where
 own:OwnF [fb] w wr [(w.heap.size,sc,70),(w.heap.size+1,gc,51),(w.heap.size+1+1,toldCells g a o3 o4 o5 o6 o8 c3 c4 c5 c6 c8,51),(w.heap.size+1+1+1,#[.int .i64 0],40)]
 rng:IRange wr mb rb M D n
 mbb:w.heap.size+4<=mb
 rbb:w.heap.size+4<=rb
 fac:FacMap wr fb regs xs
 told:GlTold (w.heap.size+4) g ps o3 o4 o5 o6 o8 c3 c4 c5 c6 c8 wr
section
variable {B:Nat} {w:World} {fb:Nat} {regs:List DRegion} {xs:List (Int×Int)} {sc gc:Array Value} {g:DGlyph} {M:List (Int×Value)} {mb rb:Nat} {o3 o4 o5 o6 o8:Option Addr} {c3 c4 c5 c6 c8:Nat} {a:Int} {ps:List DPoint} {D:List Int} {n:Nat} {wr w':World}
theorem GlTold.mod (h:GlTold B g ps o3 o4 o5 o6 o8 c3 c4 c5 c6 c8 wr) (m:Mod [] wr w'):GlTold B g ps o3 o4 o5 o6 o8 c3 c4 c5 c6 c8 w':=⟨h.len,h.pts.mod m,h.ends.mod m,h.parts.mod m,h.anchors.mod m,h.hint.mod m⟩
theorem GlTold.of (h:GlTold B g ps o3 o4 o5 o6 o8 c3 c4 c5 c6 c8 wr) (m:∀ (b:Nat) (c:Array Value) (t:TypeId),B<=b->wr.heap[b]?=some (.cells c t)->w'.heap[b]?=wr.heap[b]?):GlTold B g ps o3 o4 o5 o6 o8 c3 c4 c5 c6 c8 w' :=
 ⟨h.len,h.pts.of fun b c=>m b c _,h.ends.of fun b c=>m b c _,h.parts.of fun b c=>m b c _,h.anchors.of fun b c=>m b c _,h.hint.of fun b c=>m b c _⟩
theorem GlI.mod (h:GlI w fb regs xs sc gc g M mb rb o3 o4 o5 o6 o8 c3 c4 c5 c6 c8 a ps D n wr) (m:Mod [] wr w'):GlI w fb regs xs sc gc g M mb rb o3 o4 o5 o6 o8 c3 c4 c5 c6 c8 a ps D n w' :=
 ⟨h.own.call m,h.rng.mod m (by simp) (by simp),h.mbb,h.rbb,h.fac.mod m,h.told.mod m⟩
theorem GlI.step {D':List Int} {n':Nat} (h:GlI w fb regs xs sc gc g M mb rb o3 o4 o5 o6 o8 c3 c4 c5 c6 c8 a ps D n wr) (m:Mod [rb] wr w') (hr:IRange w' mb rb M D' n'):GlI w fb regs xs sc gc g M mb rb o3 o4 o5 o6 o8 c3 c4 c5 c6 c8 a ps D' n' w':=by
 have hrb:=h.rbb;have hfb:=h.own.old fb (by simp)
 have hblk:∀ (b:Nat) (c:Array Value) (t:TypeId),wr.heap[b]?=some (.cells c t)->w'.heap[b]?=wr.heap[b]?:=fun b c t hb=>m.block b (Array.getElem?_eq_some_iff.1 hb).1 (fun hm=>by
  simp at hm;obtain ⟨_,_,_,_,_,_,_,_,h4,_⟩:=h.rng;rw [<- hm,hb] at h4
  cases h4)
 refine ⟨h.own.off ⟨m.os.trans h.own.mod.os,m.tape.trans h.own.mod.tape,m.output.trans h.own.mod.output,Nat.le_trans h.own.mod.size m.size,fun k hk hn=>?_⟩ fun p hp=>hblk p.1 _ _ (h.own.blk p hp).2,hr,h.mbb,h.rbb,h.fac.of (m.block fb ?_ (by simp;omega)),h.told.of fun b c t _ hb=>hblk b c t hb⟩
 ·rw [m.block k (Nat.lt_of_lt_of_le hk h.own.mod.size) (by simp;omega)];exact h.own.mod.block k hk hn
 ·exact Nat.lt_of_lt_of_le hfb h.own.mod.size
theorem OwnF.over {F:List Nat} {w0 w:World} {l:List (Nat×Array Value×TypeId)} {b:Nat} {cs:Array Value} {t:TypeId} (S:OwnF F w0 w l) (k:Nat) (hk:l[k]?=some (b,cs,t)) (vs:List Value) (hl:vs.length=cs.size):OwnF F w0 (setN w b 0 vs) (l.set k (b,vs.toArray,t)):=by
 obtain ⟨hkl,hke⟩:=List.getElem?_eq_some_iff.1 hk;have hmap:(l.set k (b,vs.toArray,t)).map (·.1)=l.map (·.1):=by
  rw [List.map_set];apply List.ext_getElem?;intro j;rw [List.getElem?_set]
  split
  ·rename_i hj;subst hj;simp [hkl,hke]
  ·rfl
 have hge:=S.ge k hk;refine ⟨⟨?_,?_,?_,by rw [setN_size];exact S.mod.size,fun x hx hn=>by rw [setN_other (by omega)];exact S.mod.block x hx hn⟩,S.old,fun p hp=>?_,by rw [hmap];exact S.nodup⟩
 ·exact (setN_mod (w0:={ w with heap:=#[] }) (Nat.zero_le b) vs 0 w ⟨rfl,rfl,rfl,Nat.zero_le _,fun x hx=>absurd hx (Nat.not_lt_zero x)⟩).os.trans S.mod.os
 ·exact (setN_mod (w0:={ w with heap:=#[] }) (Nat.zero_le b) vs 0 w ⟨rfl,rfl,rfl,Nat.zero_le _,fun x hx=>absurd hx (Nat.not_lt_zero x)⟩).tape.trans S.mod.tape
 ·exact (setN_mod (w0:={ w with heap:=#[] }) (Nat.zero_le b) vs 0 w ⟨rfl,rfl,rfl,Nat.zero_le _,fun x hx=>absurd hx (Nat.not_lt_zero x)⟩).output.trans S.mod.output
 ·obtain ⟨j,hj⟩:=List.getElem?_of_mem hp;rw [List.getElem?_set] at hj
  split at hj
  ·rename_i hkj;subst hkj;simp only [Option.some.injEq] at hj;subst hj;exact ⟨hge,(S.at k hk).over vs hl⟩
  ·rename_i hkj;have hm:=List.mem_of_getElem? hj;refine ⟨(S.blk p hm).1,(setN_other (fun he=>?_) _ _ _).trans (S.blk p hm).2⟩;have hjl:j<l.length:=(List.getElem?_eq_some_iff.1 hj).1;have:=nodup_get S.nodup;rcases Nat.lt_or_ge k j with h | h
   ·exact this k j h (by simpa using hjl) (by simp only [List.getElem?_map,hk,hj,Option.map_some];rw [<- he])
   ·exact this j k (by omega) (by simpa using hkl) (by simp only [List.getElem?_map,hk,hj,Option.map_some];rw [<- he])
theorem other_cell {w:World} {b b' k:Nat} {v:Value} (hb:b'≠b):(w.setCell ⟨b,k,none⟩ v).heap[b']?=w.heap[b']?:=setN_other hb [v] k w
theorem GlI.adv (a':Int) (h:GlI w fb regs xs sc gc g M mb rb o3 o4 o5 o6 o8 c3 c4 c5 c6 c8 a ps D n wr):GlI w fb regs xs sc gc g M mb rb o3 o4 o5 o6 o8 c3 c4 c5 c6 c8 a' ps D n (wr.setCell ⟨w.heap.size+1+1,1,none⟩ (.int .i64 a')):=by
 have hfb:=h.own.old fb (by simp);have hmb:=h.mbb;have hrb:=h.rbb;exact ⟨h.own.set 2 rfl 1 (.int .i64 a'),h.rng.of (other_cell (by omega)) (other_cell (by omega)),h.mbb,h.rbb,h.fac.of (other_cell (by omega)),h.told.of fun b c t hb _=>other_cell (by omega)⟩
theorem GlI.pt (h:GlI w fb regs xs sc gc g M mb rb o3 o4 o5 o6 o8 c3 c4 c5 c6 c8 a ps D n wr) {i pb:Nat} (x y:Int) (hi:i<ps.length) (ho:o3=some ⟨pb,0,none⟩) :
  GlI w fb regs xs sc gc g M mb rb o3 o4 o5 o6 o8 c3 c4 c5 c6 c8 a (ps.set i ⟨x,y,(ps[i]).on⟩) D n ((wr.setCell ⟨pb,i*3,none⟩ (.int .i64 x)).setCell ⟨pb,i*3+1,none⟩ (.int .i64 y)):=by
 have hfb:=h.own.old fb (by simp);obtain ⟨pb',hpe,hpB,hP⟩:∃ b,Value.slice o3 g.pts.length c3=.slice (some ⟨b,0,none⟩) g.pts.length g.pts.length/\w.heap.size+4<=b/\Blk wr b (ps.flatMap encPoint).toArray 67:=by
  rcases h.told.pts with ⟨h0,_⟩ | h1
  ·have:=h.told.len;omega
  ·exact h1
 rw [ho] at hpe;obtain rfl:pb=pb':=by simp at hpe;exact hpe.1
 have other:∀ b:Nat,b≠pb->((wr.setCell ⟨pb,i*3,none⟩ (.int .i64 x)).setCell ⟨pb,i*3+1,none⟩ (.int .i64 y)).heap[b]?=wr.heap[b]?:=fun b hb=>(other_cell hb).trans (other_cell hb)
 have cellNe:∀ (b:Nat) (c:Array Value) (t:TypeId),wr.heap[b]?=some (.cells c t)->t≠67->b≠pb:=fun b c t hb ht he=>by
  subst he;unfold Blk at hP;rw [hb] at hP;simp at hP;exact ht hP.2
 have hmp:mb≠pb:=fun he=>by
  subst he;obtain ⟨_,_,_,_,_,h1,_⟩:=h.rng;unfold Blk at hP;rw [h1] at hP;cases hP
 have hrp:rb≠pb:=fun he=>by
  subst he;obtain ⟨_,_,_,_,_,_,_,_,h4,_⟩:=h.rng;unfold Blk at hP;rw [h4] at hP;cases hP
 have mp:=(h.own.mod.setNew (p:=⟨pb,i*3,none⟩) (show w.heap.size<=pb by omega) (.int .i64 x)).setNew (p:=⟨pb,i*3+1,none⟩) (show w.heap.size<=pb by omega) (.int .i64 y);refine ⟨h.own.off mp fun p hp=>other p.1 ?_,h.rng.of (other mb hmp) (other rb hrp),h.mbb,h.rbb,h.fac.of (other fb (by omega)),⟨by rw [List.length_set];exact h.told.len,.inr ⟨pb,?_,hpB,?_⟩,h.told.ends.of fun b c _ hb=>other b (cellNe b c _ hb (by decide)),h.told.parts.of fun b c _ hb=>other b (cellNe b c _ hb (by decide)),h.told.anchors.of fun b c _ hb=>other b (cellNe b c _ hb (by decide)),h.told.hint.of fun b c _ hb=>other b (cellNe b c _ hb (by decide))⟩⟩
 ·simp only [List.mem_cons,List.not_mem_nil,or_false] at hp;rcases hp with rfl | rfl | rfl | rfl <;> simp only <;> omega
 ·rw [ho,hpe]
 ·rw [flat_pt ps i x y hi];have:=(hP.set (i*3) (.int .i64 x)).set (i*3+1) (.int .i64 y);simpa using this
theorem GlI.pt' (h:GlI w fb regs xs sc gc g M mb rb o3 o4 o5 o6 o8 c3 c4 c5 c6 c8 a ps D n wr) {i pb:Nat} {p:DPoint} (x y:Int) (hi:ps[i]?=some p) (ho:o3=some ⟨pb,0,none⟩) :
  GlI w fb regs xs sc gc g M mb rb o3 o4 o5 o6 o8 c3 c4 c5 c6 c8 a (ps.set i ⟨x,y,p.on⟩) D n ((wr.setCell ⟨pb,i*3,none⟩ (.int .i64 x)).setCell ⟨pb,i*3+1,none⟩ (.int .i64 y)):=by
 obtain ⟨hl,rfl⟩:=List.getElem?_eq_some_iff.1 hi;exact h.pt x y hl ho
theorem moved_in {n b l r:Int} (hl:-16384<=l) (h:Vr.movedR n b l=some r):I64 r:=by
 unfold Vr.movedR at h
 split at h
 ·cases h;unfold I64;omega
 ·cases h
theorem curAdv_in {m:List (Int×Sh)} {a:Int} (h:I64 a):I64 (Vr.curAdv m D a):=by
 unfold Vr.curAdv Vr.advR
 split
 ·split
  ·exact h
  ·rename_i sh _;cases hm:Vr.movedR a (Rat.roundR sh.1.1 sh.1.2) 0 with
   | none=>exact h
   | some r=>exact moved_in (by omega) hm
 ·exact h
theorem ptR_in {m:List (Int×Sh)} {i:Nat} {p:DPoint} (h:I64 p.x/\I64 p.y):I64 ((Vr.ptR m i p).getD p).x/\I64 ((Vr.ptR m i p).getD p).y:=by
 unfold Vr.ptR
 split
 ·exact h
 ·split
  ·exact h
  ·rename_i h1
   split
   ·exact h
   ·rename_i h2;exact ⟨moved_in (by omega) h1,moved_in (by omega) h2⟩
theorem curPts_in {m:List (Int×Sh)} {ps:List DPoint} (h:∀ x∈ps,I64 x.x/\I64 x.y):∀ x∈Vr.curPts m D ps,I64 x.x/\I64 x.y:=by
 intro x hx;obtain ⟨i,hi,rfl⟩:=List.getElem_of_mem hx;have hi':i<ps.length:=by rw [curPts_length] at hi;exact hi
 have:=curPts_at m D ps i hi';rw [List.getElem?_eq_getElem hi] at this;simp only [Option.some.injEq] at this;rw [this];unfold Vr.curPt
 split
 ·exact ptR_in (h _ (List.getElem_mem hi'))
 ·exact h _ (List.getElem_mem hi')
theorem GlTold.glyph {B2:Nat} {W:World} (h:GlTold B g ps o3 o4 o5 o6 o8 c3 c4 c5 c6 c8 W) (hB:B2<=B) (hn:g.name.size<=maxLen) (ha:I64 a) (hp:∀ x∈ps,I64 x.x/\I64 x.y) {w1:World}
  (h4:∀ x∈g.ends,RInt 0 w1 (encIntV x) x) (h5:∀ x∈g.parts,RPart 0 w1 (encPart x) x) (h6:∀ x∈g.anchors,RAnchor 0 w1 (encAnchor x) x) (h8:∀ x∈g.hint,RIns 0 w1 (encInsV x) x)
  (l3:g.pts.length<=maxLen) (l4:g.ends.length<=maxLen) (l5:g.parts.length<=maxLen) (l6:g.anchors.length<=maxLen) (l8:g.hint.length<=maxLen) :
  RGlyph B2 W [.string g.name,.int .i64 a,.bool g.mark,.slice o3 g.pts.length c3,.slice o4 g.ends.length c4,.slice o5 g.parts.length c5,.slice o6 g.anchors.length c6,.slice none 0 0,.slice o8 g.hint.length c8] { g with adv:=a,pts:=ps,deltas:=[] } :=
 ⟨_,_,_,_,_,_,rfl,hn,ha,h.pts.rows encPoint_len h.len.symm (by rw [h.len];exact l3) (fun x hx=>⟨rfl,hp x hx⟩) hB,h.ends.rows encInt_len rfl l4 (fun x hx=>encInt_to 0 B2 w1 W _ x (h4 x hx)) hB,h.parts.rows encPart_len rfl l5 (fun x hx=>encPart_to 0 B2 w1 W _ x (h5 x hx)) hB,h.anchors.rows encAnchor_len rfl l6 (fun x hx=>encAnchor_to 0 B2 w1 W _ x (h6 x hx)) hB,Rows.nil _,h.hint.rows encIns_len rfl l8 (fun x hx=>encIns_to 0 B2 w1 W _ x (h8 x hx)) hB⟩
end
open Go.ChangeMaps (setBlock)
open Go.MapKept (Stamped)
def zeroGlyphL:List Value:=[.string ⟨#[]⟩,.int .i64 0,.bool false,.slice none 0 0,.slice none 0 0,.slice none 0 0,.slice none 0 0,.slice none 0 0,.slice none 0 0]
theorem gl1_idle (p q:Addr) (w:World):CallsD Try.prog 35 #[.pointer (some p),.pointer (some q)] .returning w fun e u' w'=>e=.returned (.tuple #[])/\u'=.returning/\w'=w:=by
 refine callsD_of_wpS Try.func35 rfl fun c₀ cs hu=>?_
 apply wpS_seq;apply wpS_region;simp [wpOpsS,go_sem,recoverD,hu,Try.ntmps35,Exit.thenS];refine wpS_of_wp ?_;go_wp2_with fail;cases c₀
 simp_all [bodyPostS,results,Try.results35]
theorem gl1_panic (p q:Nat) (cs:List Value) (hcs:cs.length=9) (y:Value) (n:Int) (older:List PanicEntry) (w:World) (hpq:q≠p) (B:Blk w p cs.toArray 51) (C:Blk w q #[y] 40) :
  CallsD Try.prog 35 #[.pointer (some ⟨p,0,none⟩),.pointer (some ⟨q,0,none⟩)] (.panicking ({ v:=.iface 40 (.int .i64 n),recovered:=false }::older)) w fun e u' w' =>
   e=.returned (.tuple #[])/\u'=.panicking ({ v:=.iface 40 (.int .i64 n),recovered:=true }::older)/\w'=(setN w p 0 zeroGlyphL).setCell ⟨q,0,none⟩ (.int .i64 n):=by
 have b0:∀ k,k<9->∃ v,w.cell? ⟨p,k,none⟩=some v:=fun k hk=>by
  rw [B.cell k];exact ⟨cs[k],by simp [hcs,hk]⟩
 obtain ⟨v0,f0⟩:=b0 0 (by omega);obtain ⟨v1,f1⟩:=b0 1 (by omega);obtain ⟨v2,f2⟩:=b0 2 (by omega);obtain ⟨v3,f3⟩:=b0 3 (by omega);obtain ⟨v4,f4⟩:=b0 4 (by omega);obtain ⟨v5,f5⟩:=b0 5 (by omega);obtain ⟨v6,f6⟩:=b0 6 (by omega);obtain ⟨v7,f7⟩:=b0 7 (by omega);obtain ⟨v8,f8⟩:=b0 8 (by omega);have b1:=fun k=>B.frozen k
 have c0:=C.cell 0;have c1:=C.frozen 0;simp at c0;clear b0;refine callsD_of_wpS Try.func35 rfl fun c₀ cs' hu=>?_
 apply wpS_seq;apply wpS_region;simp [wpOpsS,go_sem,recoverD,hu,Try.ntmps35,Exit.thenS];refine wpS_of_wp ?_;go_wp2_with fail;refine (reason_any n _).mono ?_;rintro e w1 ⟨rfl,rfl⟩;go_wp2_with fail;simp [bodyPostS,results,Try.results35];rfl
theorem gl_gives (Q:Ending->World->Prop) (tb eb:Nat) (k:Int) (cs:List Value) (hcs:cs.length=9) (y:Value) (a:Act) (W:World) (hne:eb≠tb) (B:Blk W tb cs.toArray 51) (C:Blk W eb #[y] 40)
  (hd:a.defers=[{ target:=.fn (.func 35) #[.pointer (some ⟨tb,0,none⟩),.pointer (some ⟨eb,0,none⟩)],args:=#[] }]) (s4:a.tmps[4]?=some (.pointer (some ⟨tb,0,none⟩))) (s5:a.tmps[5]?=some (.pointer (some ⟨eb,0,none⟩)))
  (hQ:Q (.returned (.tuple #[.agg zeroGlyphL.toArray,.int .i64 k])) ((setN W tb 0 zeroGlyphL).setCell ⟨eb,0,none⟩ (.int .i64 k))) :
  bodyPostD Try.prog Try.f13 Q (.panic [{ v:=.iface 40 (.int .i64 k),recovered:=false }]) a W:=by
 have B':=(B.over zeroGlyphL (by simp [hcs,zeroGlyphL]))
 have B2:Blk ((setN W tb 0 zeroGlyphL).setCell ⟨eb,0,none⟩ (.int .i64 k)) tb zeroGlyphL.toArray 51:=(setN_other (b:=eb) (b':=tb) (Ne.symm hne) [.int .i64 k] 0 _).trans B';have C2:Blk ((setN W tb 0 zeroGlyphL).setCell ⟨eb,0,none⟩ (.int .i64 k)) eb #[.int .i64 k] 40:=by
  have:=(show Blk (setN W tb 0 zeroGlyphL) eb #[y] 40 from (setN_other hne _ _ _).trans C).set 0 (.int .i64 k);simpa using this
 unfold bodyPostD;simp only;rw [hd];refine leaves_cons (f:=35) (args:=#[.pointer (some ⟨tb,0,none⟩),.pointer (some ⟨eb,0,none⟩)]) (by simp) (by simp [go_sem]) ?_;refine (gl1_panic tb eb cs hcs y k [] W hne B C).mono ?_;rintro e u' w'' ⟨rfl,rfl,rfl⟩;have r0:=B2.cell 0;have r1:=B2.cell 1;have r2:=B2.cell 2;have r3:=B2.cell 3;have r4:=B2.cell 4;have r5:=B2.cell 5;have r6:=B2.cell 6;have r7:=B2.cell 7;have r8:=B2.cell 8;have q0:=C2.cell 0;simp only [zeroGlyphL,List.getElem?_toArray,List.getElem?_cons_zero,List.getElem?_cons_succ] at r0 r1 r2 r3 r4 r5 r6 r7 r8 q0;clear B2 C2 B' B C;unfold zeroGlyphL at hQ ⊢;generalize (setN W tb 0 [.string ⟨#[]⟩,.int .i64 0,.bool false,.slice none 0 0,.slice none 0 0,.slice none 0 0,.slice none 0 0,.slice none 0 0,.slice none 0 0]).setCell ⟨eb,0,none⟩ (.int .i64 k)=W2 at *
 simp [Leaves,settle,results,Try.results13,go_sem,r0,r1,r2,r3,r4,r5,r6,r7,r8,q0,s4,s5];exact hQ
theorem gl_returns (Q:Ending->World->Prop) (tb eb:Nat) (x0 x1 x2 x3 x4 x5 x6 x7 x8 y:Value) (a:Act) (W:World) (B:Blk W tb #[x0,x1,x2,x3,x4,x5,x6,x7,x8] 51) (C:Blk W eb #[y] 40)
  (hd:a.defers=[{ target:=.fn (.func 35) #[.pointer (some ⟨tb,0,none⟩),.pointer (some ⟨eb,0,none⟩)],args:=#[] }]) (s4:a.tmps[4]?=some (.pointer (some ⟨tb,0,none⟩))) (s5:a.tmps[5]?=some (.pointer (some ⟨eb,0,none⟩)))
  (hQ:Q (.returned (.tuple #[.agg #[x0,x1,x2,x3,x4,x5,x6,x7,x8],y])) W) :
  bodyPostD Try.prog Try.f13 Q .ret a W:=by
 unfold bodyPostD;simp only;rw [hd];refine leaves_cons (f:=35) (args:=#[.pointer (some ⟨tb,0,none⟩),.pointer (some ⟨eb,0,none⟩)]) (by simp) (by simp [go_sem]) ?_;refine (gl1_idle _ _ _).mono ?_;rintro e u' w'' ⟨rfl,rfl,rfl⟩;have r0:=B.cell 0;have r1:=B.cell 1;have r2:=B.cell 2;have r3:=B.cell 3;have r4:=B.cell 4;have r5:=B.cell 5;have r6:=B.cell 6;have r7:=B.cell 7;have r8:=B.cell 8;have q0:=C.cell 0;simp only [List.getElem?_toArray,List.getElem?_cons_zero,List.getElem?_cons_succ] at r0 r1 r2 r3 r4 r5 r6 r7 r8 q0;simp [Leaves,settle,results,Try.results13,go_sem,r0,r1,r2,r3,r4,r5,r6,r7,r8,q0,s4,s5];exact hQ
theorem movedC_some {n b l r:Int} (w:World) (hn:I64 n) (hb:I64 b) (hl:-16384<=l) (h:Vr.movedR n b l=some r):Calls Try.prog 39 #[.int .i64 n,.int .i64 b,.int .i64 l] w fun e w'=>e=.returned (.int .i64 r)/\Mod [] w w':=by
 unfold Vr.movedR at h
 split at h
 ·rename_i hh;cases h;refine (moved_yes n b l w hn hb hl hh).mono ?_;rintro e w' ⟨rfl,rfl⟩;exact ⟨rfl,Mod.refl _ _⟩
 ·cases h
theorem movedC_none {n b l:Int} (w:World) (hn:I64 n) (hb:I64 b) (hl:-16384<=l) (h:Vr.movedR n b l=none):Calls Try.prog 39 #[.int .i64 n,.int .i64 b,.int .i64 l] w fun e w'=>e=.panicked [{ v:=.iface 40 (.int .i64 3),recovered:=false }]/\Mod [] w w':=by
 unfold Vr.movedR at h
 split at h
 ·cases h
 ·rename_i hh;refine (moved_no n b l w hn hb hl hh).mono ?_;rintro e w' ⟨rfl,rfl⟩;exact ⟨rfl,Mod.refl _ _⟩
open Go.ChangeMaps (setBlock)
def GlyphRes (r:Except Int DGlyph) (fb:Nat) (regs:List DRegion) (xs:List (Int×Int)) (w:World) (e:Ending) (w':World):Prop :=
 Mod [fb] w w'/\FacMap w' fb regs xs/\match r with
 | .ok g=>∃ cs,e=.returned (.tuple #[.agg cs.toArray,.int .i64 0])/\RGlyph w.heap.size w' cs g
 | .error k=>e=.returned (.tuple #[.agg zeroGlyphL.toArray,.int .i64 k])
theorem gl_gives_I {w:World} {fb:Nat} {regs:List DRegion} {xs:List (Int×Int)} {sc gc:Array Value} {g:DGlyph} {M:List (Int×Value)} {mb rb:Nat} {o3 o4 o5 o6 o8:Option Addr} {c3 c4 c5 c6 c8:Nat} {aa:Int} {ps:List DPoint} {D:List Int} {n:Nat} {W:World} {R:Except Int DGlyph} {k:Int} {a:Act}
  (h:GlI w fb regs xs sc gc g M mb rb o3 o4 o5 o6 o8 c3 c4 c5 c6 c8 aa ps D n W) (hres:R=.error k)
  (hd:a.defers=[{ target:=.fn (.func 35) #[.pointer (some ⟨w.heap.size+1+1,0,none⟩),.pointer (some ⟨w.heap.size+1+1+1,0,none⟩)],args:=#[] }]) (s4:a.tmps[4]?=some (.pointer (some ⟨w.heap.size+1+1,0,none⟩))) (s5:a.tmps[5]?=some (.pointer (some ⟨w.heap.size+1+1+1,0,none⟩))) :
  bodyPostD Try.prog Try.f13 (GlyphRes R fb regs xs w) (.panic [{ v:=.iface 40 (.int .i64 k),recovered:=false }]) a W:=by
 have hfl:=h.own.old fb (by simp);subst hres;refine gl_gives _ (w.heap.size+1+1) (w.heap.size+1+1+1) k _ rfl _ _ _ (by omega) (h.own.at 2 rfl) (h.own.at 3 rfl) hd s4 s5 ⟨?_,?_,rfl⟩
 ·exact (h.own.over 2 rfl zeroGlyphL rfl).mod.setNew (p:=⟨w.heap.size+1+1+1,0,none⟩) (show w.heap.size<=w.heap.size+1+1+1 by omega) _
 ·exact (h.fac.of (setN_other (by omega) _ _ _)).of (other_cell (by omega))
set_option maxHeartbeats 8000000 in
theorem glyph_any (u:Int) (g c l fe ax rg fu cv at':Hd) (fb:Nat) (regs:List DRegion) (xs:List (Int×Int)) (gl:DGlyph) (gc:List Value) (B B2 B3:Nat) (w0 w:World) (hm:Mod [] w0 w) (hfb:w0.heap.size<=fb)
  (hR:Rows 1 RRegion B w0 (.slice rg.a rg.n rg.c) regs) (hX:Rows 2 RRat B2 w0 (.slice at'.a at'.n at'.c) xs) (hG:RGlyph B3 w0 gc gl) (hs:GSmall gl) (hF:FacMap w fb regs xs) :
  Calls Try.prog 13 #[.agg (spotCells u g c l fe ax rg fu cv at' fb),.agg gc.toArray] w (GlyphRes (Vr.glyphR regs xs gl) fb regs xs w):=by
 have hmf:∀ (fn:Fn) (first cap:Array Value) (w:World),(Instr.makeFunc fn first cap).run Try.prog w=.ok (.func fn first cap) w:=fun _ _ _ _=>rfl
 have HST:=Hi (fun W (mW:Mod [] w0 W)=>still_any gl B3 gc W (by
  obtain ⟨v3,v4,v5,v6,v7,v8,e,hn,ha,h3,h4,h5,h6,h7,h8⟩:=hG
  exact ⟨v3,v4,v5,v6,v7,v8,e,hn,ha,h3.mod RPoint.stay mW,h4.mod RInt.stay mW,h5.mod RPart.stay mW,h6.mod RAnchor.stay mW,h7.mod RDelta.stay mW,h8.mod RIns.stay mW⟩) hs)
 have HSH:=Hi (fun W (mW:Mod [] w0 W) (f:FacMap W fb regs xs)=>shifts_any u g c l fe ax rg fu cv at' fb regs xs gl gc B B2 B3 w0 W mW hfb hR hX hG f);have HG:=Hi hG;obtain ⟨v3,v4,v5,v6,v7,v8,hgc,hn,ha,h3,h4,h5,h6,h7,h8⟩:=hG;obtain ⟨o3',c3',rfl,hp3⟩:=h3.form;obtain ⟨o4',c4',rfl,hp4⟩:=h4.form;obtain ⟨o5',c5',rfl,hp5⟩:=h5.form;obtain ⟨o6',c6',rfl,hp6⟩:=h6.form;obtain ⟨o7',c7',rfl,hp7⟩:=h7.form;obtain ⟨o8',c8',rfl,hp8⟩:=h8.form;have hfl:fb<w.heap.size:=by obtain ⟨m,h1,_⟩:=hF;exact h1.lt
 have HP3:=Hi (rows_all h3 (fun cs x hr=>encPoint_to B3 0 w0 w0 cs x hr));have HP4:=Hi (rows_all h4 (fun cs x hr=>encInt_to B3 0 w0 w0 cs x hr));have HP5:=Hi (rows_all h5 (fun cs x hr=>encPart_to B3 0 w0 w0 cs x hr));have HP6:=Hi (rows_all h6 (fun cs x hr=>encAnchor_to B3 0 w0 w0 cs x hr));have HP8:=Hi (rows_all h8 (fun cs x hr=>encIns_to B3 0 w0 w0 cs x hr));have HNA:=Hi (And.intro hn ha);have HLN:=Hi (And.intro hp3 (And.intro hp4 (And.intro hp5 (And.intro hp6 hp8))));subst hgc;have T:=Hi (OwnF.of (F:=[fb]) (own4 w (spotCells u g c l fe ax rg fu cv at' fb) 70 #[.string gl.name,.int .i64 gl.adv,.bool gl.mark,.slice o3' gl.pts.length c3',.slice o4' gl.ends.length c4',.slice o5' gl.parts.length c5',.slice o6' gl.anchors.length c6',.slice o7' gl.deltas.length c7',.slice o8' gl.hint.length c8'] 51 zeroGlyphL.toArray 51 #[.int .i64 0] 40) (by simpa using hfl));have HM0:=Hi hm;have HFL:=Hi hfl;have HFB:=Hi hfb;have mAl:=((((Mod.refl [] w).alloc (.cells (spotCells u g c l fe ax rg fu cv at' fb) 70)).alloc (.cells #[.string gl.name,.int .i64 gl.adv,.bool gl.mark,.slice o3' gl.pts.length c3',.slice o4' gl.ends.length c4',.slice o5' gl.parts.length c5',.slice o6' gl.anchors.length c6',.slice o7' gl.deltas.length c7',.slice o8' gl.hint.length c8'] 51)).alloc (.cells zeroGlyphL.toArray 51) |>.alloc (.cells #[.int .i64 0] 40))
 have HFAC:=Hi (hF.mod mAl);have HMW:=Hi (hm.then mAl);clear mAl hR hX h3 h4 h5 h6 h7 h8 hn ha hp3 hp4 hp5 hp6 hp7 hp8 hfl hfb hm hF hs;unfold spotCells zeroGlyphL at T HFAC HMW;unfold spotCells at HSH ⊢;go_enter_defers Try.func13,Try.ntmps13;go_upto_region 2 with fail;generalize (((w.alloc (.cells #[.int .i64 u,.slice g.a g.n g.c,.slice c.a c.n c.c,.slice l.a l.n l.c,.slice fe.a fe.n fe.c,.slice ax.a ax.n ax.c,.slice rg.a rg.n rg.c,.slice fu.a fu.n fu.c,.slice cv.a cv.n cv.c,.slice at'.a at'.n at'.c,.map (some fb)] 70)).alloc (.cells #[.string gl.name,.int .i64 gl.adv,.bool gl.mark,.slice o3' gl.pts.length c3',.slice o4' gl.ends.length c4',.slice o5' gl.parts.length c5',.slice o6' gl.anchors.length c6',.slice o7' gl.deltas.length c7',.slice o8' gl.hint.length c8'] 51)).alloc (.cells #[.string ⟨#[]⟩,.int .i64 0,.bool false,.slice none 0 0,.slice none 0 0,.slice none 0 0,.slice none 0 0,.slice none 0 0,.slice none 0 0] 51)).alloc (.cells #[.int .i64 0] 40)=W0 at *
 have g0:=(T.out.at 1 rfl).cell 0;have g1:=(T.out.at 1 rfl).cell 1;have g2:=(T.out.at 1 rfl).cell 2;have g3:=(T.out.at 1 rfl).cell 3;have g4:=(T.out.at 1 rfl).cell 4;have g5:=(T.out.at 1 rfl).cell 5;have g6:=(T.out.at 1 rfl).cell 6;have g7:=(T.out.at 1 rfl).cell 7;have g8:=(T.out.at 1 rfl).cell 8;simp only [List.getElem?_toArray,List.getElem?_cons_zero,List.getElem?_cons_succ] at g0 g1 g2 g3 g4 g5 g6 g7 g8;go_wp2_with fail;refine (HST.out _ HMW.out).mono ?_;rintro e W1 ⟨v,rfl,m1,u3,u4,u5,u6,u8,rfl,k3,k4,k5,k6,k8⟩;clear g0 g1 g2 g3 g4 g5 g6 g7 g8;have T1:=Hi (T.out.call m1);have HMW1:=Hi (HMW.out.then m1);have HF1:=Hi (HFAC.out.mod m1);have hB4:w.heap.size+4<=W0.heap.size:=by have:=(T.out.at 3 rfl).lt;omega
 have HB4:=Hi hB4;obtain ⟨o3,c3,rfl⟩:=k3.form;obtain ⟨o4,c4,rfl⟩:=k4.form;obtain ⟨o5,c5,rfl⟩:=k5.form;obtain ⟨o6,c6,rfl⟩:=k6.form;obtain ⟨o8,c8,rfl⟩:=k8.form;have HT1:=Hi (show GlTold (w.heap.size+4) gl gl.pts o3 o4 o5 o6 o8 c3 c4 c5 c6 c8 W1 from ⟨rfl,k3.lower hB4,k4.lower hB4,k5.lower hB4,k6.lower hB4,k8.lower hB4⟩);clear k3 k4 k5 k6 k8 m1 HMW T HFAC hB4;have z0:=(T1.out.at 2 rfl).cell 0;have z1:=(T1.out.at 2 rfl).cell 1;have z2:=(T1.out.at 2 rfl).cell 2;have z3:=(T1.out.at 2 rfl).cell 3;have z4:=(T1.out.at 2 rfl).cell 4;have z5:=(T1.out.at 2 rfl).cell 5;have z6:=(T1.out.at 2 rfl).cell 6;have z7:=(T1.out.at 2 rfl).cell 7;have z8:=(T1.out.at 2 rfl).cell 8;have zf:=fun k=>(T1.out.at 2 rfl).frozen k
 simp only [List.getElem?_toArray,List.getElem?_cons_zero,List.getElem?_cons_succ] at z0 z1 z2 z3 z4 z5 z6 z7 z8;go_upto_region 3 with fail;clear z0 z1 z2 z3 z4 z5 z6 z7 z8 zf;have XF:(((((((((W1.setCell ⟨w.heap.size+1+1,0,none⟩ (.string gl.name)).setCell ⟨w.heap.size+1+1,1,none⟩ (.int .i64 gl.adv)).setCell ⟨w.heap.size+1+1,2,none⟩ (.bool gl.mark)).setCell ⟨w.heap.size+1+1,3,none⟩ (.slice o3 gl.pts.length c3)).setCell ⟨w.heap.size+1+1,4,none⟩ (.slice o4 gl.ends.length c4)).setCell ⟨w.heap.size+1+1,5,none⟩ (.slice o5 gl.parts.length c5)).setCell ⟨w.heap.size+1+1,6,none⟩ (.slice o6 gl.anchors.length c6)).setCell ⟨w.heap.size+1+1,7,none⟩ (.slice none 0 0)).setCell ⟨w.heap.size+1+1,8,none⟩ (.slice o8 gl.hint.length c8))=setN W1 (w.heap.size+1+1) (0) [.string gl.name,.int .i64 gl.adv,.bool gl.mark,.slice o3 gl.pts.length c3,.slice o4 gl.ends.length c4,.slice o5 gl.parts.length c5,.slice o6 gl.anchors.length c6,.slice none 0 0,.slice o8 gl.hint.length c8]:=rfl;rw [XF];clear XF;have M2:=setN_mod (w0:=w) (b:=w.heap.size+1+1) (by omega) [.string gl.name,.int .i64 gl.adv,.bool gl.mark,.slice o3 gl.pts.length c3,.slice o4 gl.ends.length c4,.slice o5 gl.parts.length c5,.slice o6 gl.anchors.length c6,.slice none 0 0,.slice o8 gl.hint.length c8] 0 W1;have HX2:=Hi (setN_mod (w0:=w0) (b:=w.heap.size+1+1) (by have:=HM0.out.size;omega) [.string gl.name,.int .i64 gl.adv,.bool gl.mark,.slice o3 gl.pts.length c3,.slice o4 gl.ends.length c4,.slice o5 gl.parts.length c5,.slice o6 gl.anchors.length c6,.slice none 0 0,.slice o8 gl.hint.length c8] 0 W1 HMW1.out)
 have HB9:=Hi (show OwnF [fb] w (setN W1 (w.heap.size+1+1) 0 [.string gl.name,.int .i64 gl.adv,.bool gl.mark,.slice o3 gl.pts.length c3,.slice o4 gl.ends.length c4,.slice o5 gl.parts.length c5,.slice o6 gl.anchors.length c6,.slice none 0 0,.slice o8 gl.hint.length c8]) [(w.heap.size,#[.int .i64 u,.slice g.a g.n g.c,.slice c.a c.n c.c,.slice l.a l.n l.c,.slice fe.a fe.n fe.c,.slice ax.a ax.n ax.c,.slice rg.a rg.n rg.c,.slice fu.a fu.n fu.c,.slice cv.a cv.n cv.c,.slice at'.a at'.n at'.c,.map (some fb)],70),(w.heap.size+1,#[.string gl.name,.int .i64 gl.adv,.bool gl.mark,.slice o3' gl.pts.length c3',.slice o4' gl.ends.length c4',.slice o5' gl.parts.length c5',.slice o6' gl.anchors.length c6',.slice o7' gl.deltas.length c7',.slice o8' gl.hint.length c8'],51),(w.heap.size+1+1,toldCells gl gl.adv o3 o4 o5 o6 o8 c3 c4 c5 c6 c8,51),(w.heap.size+1+1+1,#[.int .i64 0],40)] from
  T1.out.over 2 rfl [.string gl.name,.int .i64 gl.adv,.bool gl.mark,.slice o3 gl.pts.length c3,.slice o4 gl.ends.length c4,.slice o5 gl.parts.length c5,.slice o6 gl.anchors.length c6,.slice none 0 0,.slice o8 gl.hint.length c8] rfl)
 have HT2:=Hi (HT1.out.of (w':=setN W1 (w.heap.size+1+1) 0 [.string gl.name,.int .i64 gl.adv,.bool gl.mark,.slice o3 gl.pts.length c3,.slice o4 gl.ends.length c4,.slice o5 gl.parts.length c5,.slice o6 gl.anchors.length c6,.slice none 0 0,.slice o8 gl.hint.length c8]) fun b c t hb _=>setN_other (by omega) _ _ _);have HF2:=Hi (HF1.out.of (w':=setN W1 (w.heap.size+1+1) 0 [.string gl.name,.int .i64 gl.adv,.bool gl.mark,.slice o3 gl.pts.length c3,.slice o4 gl.ends.length c4,.slice o5 gl.parts.length c5,.slice o6 gl.anchors.length c6,.slice none 0 0,.slice o8 gl.hint.length c8]) (setN_other (by have:=HFL.out;omega) _ _ _));generalize setN W1 (w.heap.size+1+1) 0 [.string gl.name,.int .i64 gl.adv,.bool gl.mark,.slice o3 gl.pts.length c3,.slice o4 gl.ends.length c4,.slice o5 gl.parts.length c5,.slice o6 gl.anchors.length c6,.slice none 0 0,.slice o8 gl.hint.length c8]=W2 at *
 clear M2 T1 HMW1 HF1 HT1;have S:=fun k=>(HB9.out.at 0 rfl).cell k
 have g0:=(HB9.out.at 1 rfl).cell 0;have g1:=(HB9.out.at 1 rfl).cell 1;have g2:=(HB9.out.at 1 rfl).cell 2;have g3:=(HB9.out.at 1 rfl).cell 3;have g4:=(HB9.out.at 1 rfl).cell 4;have g5:=(HB9.out.at 1 rfl).cell 5;have g6:=(HB9.out.at 1 rfl).cell 6;have g7:=(HB9.out.at 1 rfl).cell 7;have g8:=(HB9.out.at 1 rfl).cell 8;simp only [List.getElem?_toArray,List.getElem?_cons_zero,List.getElem?_cons_succ] at g0 g1 g2 g3 g4 g5 g6 g7 g8;go_wp2_with fail;refine (HSH.out _ HX2.out HF2.out).mono ?_;rintro e W3 ⟨m3,hf3,hr3⟩;clear S g0 g1 g2 g3 g4 g5 g6 g7 g8;cases hr:Vr.shiftsR regs xs gl.pts.length gl.deltas [] with
 | error k =>
  rw [hr] at hr3;obtain rfl:e=.panicked [{ v:=.iface 40 (.int .i64 k),recovered:=false }]:=hr3;have hres:Vr.glyphR regs xs gl=.error k:=by unfold Vr.glyphR;rw [hr]
  rw [hres];have T3:=HB9.out.callF m3;go_wp2_with fail;refine gl_gives _ (w.heap.size+1+1) (w.heap.size+1+1+1) k _ rfl _ _ _ (by omega) (T3.at 2 rfl) (T3.at 3 rfl) rfl rfl rfl ⟨?_,?_,rfl⟩
  ·exact (T3.over 2 rfl zeroGlyphL rfl).mod.setNew (p:=⟨w.heap.size+1+1+1,0,none⟩) (show w.heap.size<=w.heap.size+1+1+1 by omega) _
  ·exact (hf3.of (setN_other (by have:=HFL.out;omega) _ _ _)).of (other_cell (by have:=HFL.out;omega))
 | ok m =>
  rw [hr] at hr3;obtain ⟨sb,rfl,hsb,hM,hin⟩:=hr3;obtain ⟨it,n,hrg,hI⟩:=run_irange (P:=Try.prog) hM Try.und_SMap;have mA:Mod [] W3 (W3.alloc it):=(Mod.refl _ _).alloc it;have hsb3:w.heap.size+4<=sb:=by have:=(HB9.out.at 3 rfl).lt;omega
  have hkeys:=shifts_keys gl.deltas [] m (by simp) hr;have hnd:=hM.keys;rw [show (mapP shV m).map (·.1)=m.map (·.1) from by simp [mapP,Function.comp_def]] at hnd
  have GI:=Hi (show GlI w fb regs xs #[.int .i64 u,.slice g.a g.n g.c,.slice c.a c.n c.c,.slice l.a l.n l.c,.slice fe.a fe.n fe.c,.slice ax.a ax.n ax.c,.slice rg.a rg.n rg.c,.slice fu.a fu.n fu.c,.slice cv.a cv.n cv.c,.slice at'.a at'.n at'.c,.map (some fb)] #[.string gl.name,.int .i64 gl.adv,.bool gl.mark,.slice o3' gl.pts.length c3',.slice o4' gl.ends.length c4',.slice o5' gl.parts.length c5',.slice o6' gl.anchors.length c6',.slice o7' gl.deltas.length c7',.slice o8' gl.hint.length c8'] gl (mapP shV m) sb W3.heap.size o3 o4 o5 o6 o8 c3 c4 c5 c6 c8 gl.adv gl.pts [] n (W3.alloc it) from
   ⟨(HB9.out.callF m3).call mA,hI,hsb3,by have:=hM.lt;omega,hf3.mod mA,(HT2.out.of (w':=W3) fun b c t hb h=>m3.block b (Array.getElem?_eq_some_iff.1 h).1 (by have:=HFL.out;simp;omega)).mod mA⟩)
  have HMM:=Hi (And.intro hin (And.intro hkeys hnd));have HRES:=Hi hr;clear hI mA hM hsb3 hsb hin hkeys hnd hr m3 hf3 HB9 HT2 HF2 HX2;go_wp2_with fail;generalize W3.alloc it=W4 at *
  generalize W3.heap.size=rb at *
  clear hrg
  go_loopg [] n (fun gk wr=>∃ D:List Int,Hid (GlI w fb regs xs #[.int .i64 u,.slice g.a g.n g.c,.slice c.a c.n c.c,.slice l.a l.n l.c,.slice fe.a fe.n fe.c,.slice ax.a ax.n ax.c,.slice rg.a rg.n rg.c,.slice fu.a fu.n fu.c,.slice cv.a cv.n cv.c,.slice at'.a at'.n at'.c,.map (some fb)] #[.string gl.name,.int .i64 gl.adv,.bool gl.mark,.slice o3' gl.pts.length c3',.slice o4' gl.ends.length c4',.slice o5' gl.parts.length c5',.slice o6' gl.anchors.length c6',.slice o7' gl.deltas.length c7',.slice o8' gl.hint.length c8'] gl (mapP shV m) sb rb o3 o4 o5 o6 o8 c3 c4 c5 c6 c8 (Vr.curAdv m D gl.adv) (Vr.curPts m D gl.pts) D gk wr)/\Hid (Vr.fine m D gl.adv gl.pts))
  case atStart=>exact ⟨[],by rw [curAdv_nil,curPts_nil];exact GI.out,fine_nil⟩
  case round =>
   obtain ⟨D,HI,HFI⟩:=hrel;clear GI;rcases run_inext (P:=Try.prog) HI.out.rng with ⟨h0,hnx,hall⟩ | ⟨k,v,W5,hkm,hkD,hnx,hen,⟨n',hn',hI5⟩,m5,s5⟩
   ·have hfin:=all_seen_glyph HFI.out fun p hp=>hall (p.1,shV p.2) (by unfold mapP;exact List.mem_map.2 ⟨p,hp,rfl⟩)
    have hres:Vr.glyphR regs xs gl=.ok { gl with adv:=Vr.curAdv m D gl.adv,pts:=Vr.curPts m D gl.pts,deltas:=[] }:=by
     unfold Vr.glyphR;rw [HRES.out];simp only;rw [hfin.1];simp only;rw [hfin.2]
    rw [hres];have t0:=(HI.out.own.at 2 rfl).cell 0;have t1:=(HI.out.own.at 2 rfl).cell 1;have t2:=(HI.out.own.at 2 rfl).cell 2;have t3:=(HI.out.own.at 2 rfl).cell 3;have t4:=(HI.out.own.at 2 rfl).cell 4;have t5:=(HI.out.own.at 2 rfl).cell 5;have t6:=(HI.out.own.at 2 rfl).cell 6;have t7:=(HI.out.own.at 2 rfl).cell 7;have t8:=(HI.out.own.at 2 rfl).cell 8;have tf:=fun k=>(HI.out.own.at 2 rfl).frozen k
    have q0:=(HI.out.own.at 3 rfl).cell 0;have qf:=fun k=>(HI.out.own.at 3 rfl).frozen k
    simp only [toldCells,List.getElem?_toArray,List.getElem?_cons_zero,List.getElem?_cons_succ] at t0 t1 t2 t3 t4 t5 t6 t7 t8 q0;have hin:=curAdv_in (m:=m) (D:=D) HNA.out.2;have hpin:=curPts_in (m:=m) (D:=D) (ps:=gl.pts) (fun x hx=>(HP3.out x hx).2);have HIN:=Hi (And.intro hin hpin);clear hin hpin hall hfin;have HRE:=Hi hres;clear hres;have HI2:=Hi ((HI.out.own.over 2 rfl [.string gl.name,.int .i64 (Vr.curAdv m D gl.adv),.bool gl.mark,.slice o3 gl.pts.length c3,.slice o4 gl.ends.length c4,.slice o5 gl.parts.length c5,.slice o6 gl.anchors.length c6,.slice none 0 0,.slice o8 gl.hint.length c8] rfl).set 3 rfl 0 (.int .i64 0));have HG2:=Hi ((HI.out.told.of (w':=setN wr (w.heap.size+1+1) 0 [.string gl.name,.int .i64 (Vr.curAdv m D gl.adv),.bool gl.mark,.slice o3 gl.pts.length c3,.slice o4 gl.ends.length c4,.slice o5 gl.parts.length c5,.slice o6 gl.anchors.length c6,.slice none 0 0,.slice o8 gl.hint.length c8]) fun b c t hb _=>setN_other (by omega) _ _ _).of (w':=(setN wr (w.heap.size+1+1) 0 [.string gl.name,.int .i64 (Vr.curAdv m D gl.adv),.bool gl.mark,.slice o3 gl.pts.length c3,.slice o4 gl.ends.length c4,.slice o5 gl.parts.length c5,.slice o6 gl.anchors.length c6,.slice none 0 0,.slice o8 gl.hint.length c8]).setCell ⟨w.heap.size+1+1+1,0,none⟩ (.int .i64 0)) fun b c t hb _=>other_cell (by omega));have HF3:=Hi ((HI.out.fac.of (w':=setN wr (w.heap.size+1+1) 0 [.string gl.name,.int .i64 (Vr.curAdv m D gl.adv),.bool gl.mark,.slice o3 gl.pts.length c3,.slice o4 gl.ends.length c4,.slice o5 gl.parts.length c5,.slice o6 gl.anchors.length c6,.slice none 0 0,.slice o8 gl.hint.length c8]) (setN_other (by have:=HFL.out;omega) _ _ _)).of (w':=(setN wr (w.heap.size+1+1) 0 [.string gl.name,.int .i64 (Vr.curAdv m D gl.adv),.bool gl.mark,.slice o3 gl.pts.length c3,.slice o4 gl.ends.length c4,.slice o5 gl.parts.length c5,.slice o6 gl.anchors.length c6,.slice none 0 0,.slice o8 gl.hint.length c8]).setCell ⟨w.heap.size+1+1+1,0,none⟩ (.int .i64 0)) (other_cell (by have:=HFL.out;omega)));generalize Vr.curAdv m D gl.adv=ca at *
    generalize Vr.curPts m D gl.pts=cp at *
    go_wp2_with fail;refine gl_returns _ (w.heap.size+1+1) (w.heap.size+1+1+1) _ _ _ _ _ _ _ _ _ _ _ _ (HI2.out.at 2 rfl) (HI2.out.at 3 rfl) rfl rfl rfl ?_;rw [HRE.out];exact ⟨HI2.out.mod,HF3.out,_,rfl,HG2.out.glyph (by omega) HNA.out.1 HIN.out.1 HIN.out.2 HP4.out HP5.out HP6.out HP8.out HLN.out.1 HLN.out.2.1 HLN.out.2.2.1 HLN.out.2.2.2.1 HLN.out.2.2.2.2⟩
   ·unfold mapP at hkm;obtain ⟨⟨k',sh⟩,hsm,hke⟩:=List.mem_map.1 hkm;simp only [Prod.mk.injEq] at hke;obtain ⟨rfl,rfl⟩:=hke;obtain ⟨⟨xa,xb⟩,ya,yb⟩:=sh;unfold shV at hnx hen;simp only at hnx hen;have HSH2:=Hi (HMM.out.1 _ hsm);have HLK:=Hi (look_of_mem HMM.out.2.2 hsm);have HKB:=Hi (HMM.out.2.1 _ hsm);have HI5:=Hi (HI.out.step m5 hI5);have HKD:=Hi hkD;have HN:=Hi hn';clear hkm hsm hI5 m5 s5 hkD hn';have HI6:=Hi (HI5.out.mod ((Mod.refl [] _).alloc (.cells #[.int .i64 xa,.int .i64 xb,.int .i64 ya,.int .i64 yb] 107)));have BS:=Hi (Blk.new W5 #[.int .i64 xa,.int .i64 xb,.int .i64 ya,.int .i64 yb] 107);have HADV:=Hi (show k'=-1->Vr.advR m gl.adv=Vr.movedR gl.adv (Rat.roundR xa xb) 0 from fun e=>by unfold Vr.advR;rw [<- e,HLK.out]);have HPT:=Hi (show ∀ (i:Nat) (p:DPoint),k'=(i:Int)->Vr.ptR m i p=match Vr.movedR p.x (Rat.roundR xa xb) (-16384) with | none=>none | some a=>match Vr.movedR p.y (Rat.roundR ya yb) (-16384) with | none=>none | some b=>some ⟨a,b,p.on⟩ from fun i p e=>by unfold Vr.ptR;rw [<- e,HLK.out] <;> rfl);have HRIN:=Hi (And.intro (roundR_in xa xb) (roundR_in ya yb));have HRX:=Hi (fun W=>round_any xa xb W HSH2.out.1.1 HSH2.out.1.2);have HRY:=Hi (fun W=>round_any ya yb W HSH2.out.2.1 HSH2.out.2.2);generalize Rat.roundR xa xb=rx at *
    generalize Rat.roundR ya yb=ry at *
    clear HSH2 HLK;go_upto_region 6 with fail;clear HI5 hnx hen;generalize W5.alloc (.cells #[.int .i64 xa,.int .i64 xb,.int .i64 ya,.int .i64 yb] 107)=W6 at *
    generalize W5.heap.size=b7 at *
    have A0:=fun W (mW:Mod [] W6 W) k=>BS.out.every W mW k
    refine wp_region_mask 6 [true,true,true,true,true,true] [] (by kernel_rfl) (by kernel_rfl) (by simp) ?_;simp only [pickM]
    iterate 2
     refine sv ?_
    refine sc (a':=?_) (fun w' hw' K Q hK=>?_) ?_ ?_;rotate_left
    ·go_wp2_with fail;refine ((calls_mod HRX.out) _ hw').mono ?_;rintro e w'' ⟨rfl,m''⟩;go_wp2_with fail;exact hK _ m''
    ·rfl
    iterate 2
     refine sv ?_
    refine sc (a':=?_) (fun w' hw' K Q hK=>?_) ?_ ?_;rotate_left
    ·go_wp2_with fail;refine ((calls_mod HRY.out) _ hw').mono ?_;rintro e w'' ⟨rfl,m''⟩;go_wp2_with fail;exact hK _ m''
    ·rfl
    refine steady_done ?_;refine lates_end (fun w' hw' _=>?_);simp only [List.drop_succ_cons,List.drop_zero];have HI7:=Hi (HI6.out.mod hw');clear A0 hw' HI6 BS HRX HRY
    by_cases hk:k'=-1
    ·subst hk;have e1:decide ((-1:Int)<0)=true:=rfl;have hcur:Vr.curAdv m D gl.adv=gl.adv:=by unfold Vr.curAdv;rw [if_neg HKD.out]
     have hco:=hcur;have t1:=(HI7.out.own.at 2 rfl).cell 1;simp only [toldCells,List.getElem?_toArray,List.getElem?_cons_zero,List.getElem?_cons_succ] at t1;rw [hcur] at t1;have HAD:=Hi (HADV.out rfl);clear hcur hco;cases hmv:Vr.movedR gl.adv rx 0 with
     | none =>
      have HNO:=Hi (fun W=>movedC_none W HNA.out.2 HRIN.out.1 (by omega) hmv);have HRE:=Hi (show Vr.glyphR regs xs gl=.error 3 by unfold Vr.glyphR;rw [HRES.out];simp only;rw [HAD.out,hmv]);clear hmv;go_wp2_with fail;refine (HNO.out _).mono ?_;rintro e w8 ⟨rfl,m8⟩;go_wp2_with fail;exact gl_gives_I (HI7.out.mod m8) HRE.out rfl rfl rfl
     | some r =>
      have HNO:=Hi (fun W=>movedC_some W HNA.out.2 HRIN.out.1 (by omega) hmv);have HCR:=Hi (show Vr.curAdv m ((-1)::D) gl.adv=r by unfold Vr.curAdv;rw [if_pos (by simp),HAD.out,hmv];rfl)
      have HFN:=Hi (show Vr.fine m ((-1)::D) gl.adv gl.pts from ⟨fun _=>by rw [HAD.out,hmv];simp,fun i h hm=>HFI.out.2 i h (by
       rcases List.mem_cons.1 hm with h | h
       ·omega
       ·exact h)⟩)
      clear hmv;go_wp2_with fail;refine (HNO.out _).mono ?_;rintro e w8 ⟨rfl,m8⟩;have HI8:=Hi (HI7.out.mod m8);clear t1 HI7 m8;have t1:=(HI8.out.own.at 2 rfl).cell 1;have tf:=(HI8.out.own.at 2 rfl).frozen 1;simp only [toldCells,List.getElem?_toArray,List.getElem?_cons_zero,List.getElem?_cons_succ] at t1;have HI9:=Hi (HI8.out.adv r);go_wp2_with fail;go_roundg n'
      case measure=>exact HN.out
      case rel=>exact ⟨(-1)::D,by rw [HCR.out,curPts_neg];exact HI9.out,HFN.out⟩
    ·obtain ⟨i,rfl⟩:∃ i:Nat,k'=(i:Int):=⟨k'.toNat,by have:=HKB.out.1;simp only at this;omega⟩
     have e1:decide ((i:Int)<0)=false:=decide_eq_false (by omega);have hi:i<gl.pts.length:=by have:=HKB.out.2;simp only at this;omega
     have hi0:(0:Int)<=(i:Int):=by omega
     have hi1:(i:Int)<(gl.pts.length:Int):=by omega
     have t3:=(HI7.out.own.at 2 rfl).cell 3;simp only [toldCells,List.getElem?_toArray,List.getElem?_cons_zero,List.getElem?_cons_succ] at t3;obtain ⟨p,hp⟩:∃ p,gl.pts[i]=p:=⟨_,rfl⟩
     have hps:(Vr.curPts m D gl.pts)[i]?=some p:=by
      rw [curPts_at m D gl.pts i hi];unfold Vr.curPt;rw [if_neg HKD.out,hp]
     have hci:i<(Vr.curPts m D gl.pts).length:=by rw [curPts_length];exact hi
     have hpe:(Vr.curPts m D gl.pts)[i]=p:=by
      rw [List.getElem?_eq_getElem hci] at hps;simpa using hps
     obtain ⟨pb,ho3,hpB,hP⟩:∃ b,Value.slice o3 gl.pts.length c3=.slice (some ⟨b,0,none⟩) gl.pts.length gl.pts.length/\w.heap.size+4<=b/\Blk w' b ((Vr.curPts m D gl.pts).flatMap encPoint).toArray 67:=by
      rcases HI7.out.told.pts with ⟨h0,_⟩ | h1
      ·omega
      ·exact h1
     have ho:o3=some ⟨pb,0,none⟩:=by simp at ho3;exact ho3.1
     have hc:c3=gl.pts.length:=by simp at ho3;exact ho3.2
     subst ho hc;have x0:w'.cell? ⟨pb,i*3,none⟩=some (.int .i64 p.x):=by
      rw [hP.cell,List.getElem?_toArray];have:=flat_at encPoint_len (Vr.curPts m D gl.pts) i 0 hci (by omega);rw [Nat.add_zero] at this;rw [this,hpe];rfl
     have x1:w'.cell? ⟨pb,i*3+1,none⟩=some (.int .i64 p.y):=by
      rw [hP.cell,List.getElem?_toArray];have:=flat_at encPoint_len (Vr.curPts m D gl.pts) i 1 hci (by omega);rw [this,hpe];rfl
     have Y0:∀ W,Mod [] w' W->W.cell? ⟨pb,i*3,none⟩=some (.int .i64 p.x):=fun W mW=>cell_stays mW x0
     have Y1:∀ W,Mod [] w' W->W.cell? ⟨pb,i*3+1,none⟩=some (.int .i64 p.y):=fun W mW=>cell_stays mW x1
     have F0:∀ W,Mod [] w' W->∀ k,W.frozen? ⟨pb,k,none⟩=false:=fun W mW k=>(hP.kept mW (by simp)).frozen k
     have HPO:=Hi (HPT.out i p rfl);have HXY:=Hi (show I64 p.x/\I64 p.y by rw [<- hp];exact (HP3.out _ (List.getElem_mem hi)).2);have HPS:=Hi hps;have HCC:=Hi (show ∀ q,Vr.ptR m i p=some q->Vr.curPts m ((i:Int)::D) gl.pts=(Vr.curPts m D gl.pts).set i q from fun q hq=>by rw [curPts_cons (m:=m) (D:=D) hi,hp,hq];rfl);have HPN:=Hi (show Vr.ptR m i p=none->Vr.ptsR m 0 gl.pts=none from fun h=>ptsR_none gl.pts 0 i hi (by rw [Nat.zero_add,hp];exact h))
     have HFN:=Hi (show Vr.ptR m i p≠none->Vr.fine m ((i:Int)::D) gl.adv gl.pts from fun hne=>⟨fun hm=>HFI.out.1 (by
      rcases List.mem_cons.1 hm with h | h
      ·omega
      ·exact h),fun j hj hm=>by
      rcases List.mem_cons.1 hm with h | h
      ·obtain rfl:j=i:=by omega
       rw [hp];exact hne
      ·exact HFI.out.2 j hj h⟩)
     clear hps hpe hP ho3 x0 x1 hci hp hi hpB;obtain ⟨px,py,pon⟩:=p;simp only at Y0 Y1 HXY HPO;go_upto_region 10 with fail;clear t3 e1;have herr:Vr.ptR m i ⟨px,py,pon⟩=none->Vr.glyphR regs xs gl=.error 3:=fun h=>by
      unfold Vr.glyphR;rw [HRES.out];simp only;rw [HPN.out h];cases Vr.advR m gl.adv <;> rfl
     cases hx:Vr.movedR px rx (-16384) with
     | none =>
      have HRE:=Hi (herr (by rw [HPO.out,hx]));have HNO:=Hi (fun W=>movedC_none W HXY.out.1 HRIN.out.1 (by omega) hx);clear herr hx;refine Dm.wp_region_doom [true,true,true,true,true,true,true,false,true,true,true,true,true,false,false,false,false,false,false,false] [] 7 (fun c _=>c=[{ v:=.iface 40 (.int .i64 3),recovered:=false }]) (by kernel_rfl) rfl rfl (by kernel_rfl) ?hAlD381 ?hQ ?mainD381
      case hAlD381=>(intro i hi;cases hi)
      case mainD381 =>
       simp only [pickM]
       iterate 12
        refine sv ?_
       refine steady_done ?_;intro w' hw';go_wp2_with fail;refine (HNO.out _).mono ?_;rintro e w8 ⟨rfl,m8⟩;go_wp2_with fail;exact hw'.then m8
      case hQ =>
       intro c' a' w9 hG hm hc;subst hc;have q4:=hG.slot 4 (by kernel_rfl);have q5:=hG.slot 5 (by kernel_rfl);have hd:=hG.defers;simp only [List.getElem?_toArray,List.getElem?_cons_succ,List.getElem?_cons_zero] at q4 q5;simp only [Exit.inBlock,Exit.then];change bodyPostD _ _ _ _ _ _;exact gl_gives_I (HI7.out.mod hm) HRE.out hd q4 q5
     | some ax' =>
      have HKX:=Hi (fun W=>movedC_some W HXY.out.1 HRIN.out.1 (by omega) hx);cases hy:Vr.movedR py ry (-16384) with
      | none =>
       have HRE:=Hi (herr (by rw [HPO.out,hx,hy]));have HNO:=Hi (fun W=>movedC_none W HXY.out.2 HRIN.out.2 (by omega) hy);clear herr hx hy;refine Dm.wp_region_doom [true,true,true,true,true,true,true,true,true,true,true,true,true,false,false,false,false,false,false,false] [] 13 (fun c _=>c=[{ v:=.iface 40 (.int .i64 3),recovered:=false }]) (by kernel_rfl) rfl rfl (by kernel_rfl) ?hAlD469 ?hQ ?mainD469
       case hAlD469=>(intro i hi;cases hi)
       case mainD469 =>
        simp only [pickM]
        iterate 7
         refine sv ?_
        refine sc (a':=?_) (fun w' hw' K Q hK=>?_) ?_ ?_;rotate_left
        ·go_wp2_with fail;refine ((calls_mod HKX.out) _ hw').mono ?_;rintro e w'' ⟨rfl,m''⟩;go_wp2_with fail;exact hK _ m''
        ·rfl
        iterate 5
         refine sv ?_
        refine steady_done ?_;intro w' hw';go_wp2_with fail;refine (HNO.out _).mono ?_;rintro e w8 ⟨rfl,m8⟩;go_wp2_with fail;exact hw'.then m8
       case hQ =>
        intro c' a' w9 hG hm hc;subst hc;have q4:=hG.slot 4 (by kernel_rfl);have q5:=hG.slot 5 (by kernel_rfl);have hd:=hG.defers;simp only [List.getElem?_toArray,List.getElem?_cons_succ,List.getElem?_cons_zero] at q4 q5;simp only [Exit.inBlock,Exit.then];change bodyPostD _ _ _ _ _ _;exact gl_gives_I (HI7.out.mod hm) HRE.out hd q4 q5
      | some ay =>
       have HKY:=Hi (fun W=>movedC_some W HXY.out.2 HRIN.out.2 (by omega) hy);have HNEW:=Hi (show Vr.ptR m i ⟨px,py,pon⟩=some ⟨ax',ay,pon⟩ by rw [HPO.out,hx,hy]);clear herr hx hy;refine calm_of ?_;refine wp_region_moved 14 1 _ (by simp only [waitFor,List.modify_succ_cons,List.modify_zero_cons];exact rfl) 14 [true,true,true,true,true,true,true,true,true,true,true,true,true,true] [] (by kernel_rfl) (by kernel_rfl) (by simp) (fun _ _ d _ _ h=>by cases d <;> exact h) ?_;simp only [pickM]
       iterate 7
        refine sv ?_
       refine sc (a':=?_) (fun w' hw' K Q hK=>?_) ?_ ?_;rotate_left
       ·go_wp2_with fail;refine ((calls_mod HKX.out) _ hw').mono ?_;rintro e w'' ⟨rfl,m''⟩;go_wp2_with fail;exact hK _ m''
       ·rfl
       iterate 5
        refine sv ?_
       refine sc (a':=?_) (fun w' hw' K Q hK=>?_) ?_ ?_;rotate_left
       ·go_wp2_with fail;refine ((calls_mod HKY.out) _ hw').mono ?_;rintro e w'' ⟨rfl,m''⟩;go_wp2_with fail;exact hK _ m''
       ·rfl
       refine steady_done ?_;refine lates_end (fun w' hw' _=>?_);simp only [List.drop_succ_cons,List.drop_zero];have x0:=Y0 _ hw';have x1:=Y1 _ hw';have f0:=F0 _ hw';have HI9:=Hi ((HI7.out.mod hw').pt' ax' ay HPS.out rfl);clear Y0 Y1 F0 hw' HI7 HKX HKY;go_wp2_with fail;refine calm_normal ?_;go_wp2_with fail;go_roundg n'
       case measure=>exact HN.out
       case rel=>exact ⟨(i:Int)::D,by rw [curAdv_pos,HCC.out _ HNEW.out];exact HI9.out,HFN.out (by rw [HNEW.out];simp)⟩
end Go.Proofs.Ytlkkhkbafahchaa

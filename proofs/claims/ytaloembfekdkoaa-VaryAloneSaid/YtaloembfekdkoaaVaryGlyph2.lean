/- vary: a glyph at a place. -/
import Derived.Test.YtaloembfekdkoaaVaryGlyphI
import Derived.Test.YtaloembfekdkoaaVaryGlyph
import Derived.Test.YtaloembfekdkoaaFloatMove
namespace Go.Proofs.Ytaloembfekdkoaa
open Go.RowKit
open Go.ChangeMaps (setBlock)
set_option linter.unusedVariables false
set_option maxRecDepth 100000
def GlyphRes (r : Except Int DGlyph) (fb : Nat) (regs : List DRegion) (xs : List (Int × Int)) (w : World) (e : Ending) (w' : World) : Prop :=
  Mod [fb] w w' ∧ FacMap w' fb regs xs ∧ match r with
  | .ok g => ∃ cs, e = .returned (.tuple #[.agg cs.toArray, .int .i64 0]) ∧ RGlyph w.heap.size w' cs g
  | .error k => e = .returned (.tuple #[.agg zeroGlyphL.toArray, .int .i64 k])
theorem gl_gives_I {w : World} {fb : Nat} {regs : List DRegion} {xs : List (Int × Int)} {sc gc : Array Value} {g : DGlyph} {M : List (Int × Value)} {mb rb : Nat} {o3 o4 o5 o6 o8 : Option Addr} {c3 c4 c5 c6 c8 : Nat} {aa : Int} {ps : List DPoint} {D : List Int} {n : Nat} {W : World} {R : Except Int DGlyph} {k : Int} {a : Act}
    (h : GlI w fb regs xs sc gc g M mb rb o3 o4 o5 o6 o8 c3 c4 c5 c6 c8 aa ps D n W) (hres : R = .error k)
    (hd : a.defers = [{ target := .fn (.func 25) #[.pointer (some ⟨w.heap.size + 1 + 1, 0, none⟩), .pointer (some ⟨w.heap.size + 1 + 1 + 1, 0, none⟩)], args := #[] }]) (s4 : a.tmps[4]? = some (.pointer (some ⟨w.heap.size + 1 + 1, 0, none⟩))) (s5 : a.tmps[5]? = some (.pointer (some ⟨w.heap.size + 1 + 1 + 1, 0, none⟩))) :
    bodyPostD Try.prog Try.f10 (GlyphRes R fb regs xs w) (.panic [{ v := .iface 33 (.int .i64 k), recovered := false }]) a W := by
  have hfl := h.own.old fb (by simp)
  subst hres
  refine gl_gives _ (w.heap.size + 1 + 1) (w.heap.size + 1 + 1 + 1) k _ rfl _ _ _ (by omega) (h.own.at 2 rfl) (h.own.at 3 rfl) hd s4 s5 ⟨?_, ?_, rfl⟩
  · exact (h.own.over 2 rfl zeroGlyphL rfl).mod.setNew (p := ⟨w.heap.size + 1 + 1 + 1, 0, none⟩) (show w.heap.size ≤ w.heap.size + 1 + 1 + 1 by omega) _
  · exact (h.fac.of (setN_other (by omega) _ _ _)).of (other_cell (by omega))
set_option maxHeartbeats 8000000 in
theorem glyph_any (u : Int) (g c l fe ax rg fu cv at' : Hd) (fb : Nat) (regs : List DRegion) (xs : List (Int × Int)) (gl : DGlyph) (gc : List Value) (B B2 B3 : Nat) (w0 w : World) (hm : Mod [] w0 w) (hfb : w0.heap.size ≤ fb)
    (hR : Rows 1 RRegion B w0 (.slice rg.a rg.n rg.c) regs) (hX : Rows 2 RRat B2 w0 (.slice at'.a at'.n at'.c) xs) (hG : RGlyph B3 w0 gc gl) (hs : GSmall gl) (hF : FacMap w fb regs xs) :
    Calls Try.prog 10 #[.agg (spotCells u g c l fe ax rg fu cv at' fb), .agg gc.toArray] w (GlyphRes (Vr.glyphR regs xs gl) fb regs xs w) := by
  have hmf : ∀ (fn : Fn) (first cap : Array Value) (w : World), (Instr.makeFunc fn first cap).run Try.prog w = .ok (.func fn first cap) w := fun _ _ _ _ => rfl
  have HST := Lib.hid (fun W (mW : Mod [] w0 W) => still_any gl B3 gc W (by
    obtain ⟨v3, v4, v5, v6, v7, v8, e, hn, ha, h3, h4, h5, h6, h7, h8⟩ := hG
    exact ⟨v3, v4, v5, v6, v7, v8, e, hn, ha, h3.mod RPoint.stay mW, h4.mod RInt.stay mW, h5.mod RPart.stay mW, h6.mod RAnchor.stay mW, h7.mod RDelta.stay mW, h8.mod RIns.stay mW⟩) hs)
  have HSH := Lib.hid (fun W (mW : Mod [] w0 W) (f : FacMap W fb regs xs) => shifts_any u g c l fe ax rg fu cv at' fb regs xs gl gc B B2 B3 w0 W mW hfb hR hX hG f)
  have HG := Lib.hid hG
  obtain ⟨v3, v4, v5, v6, v7, v8, hgc, hn, ha, h3, h4, h5, h6, h7, h8⟩ := hG
  obtain ⟨o3', c3', rfl, hp3⟩ := h3.form
  obtain ⟨o4', c4', rfl, hp4⟩ := h4.form
  obtain ⟨o5', c5', rfl, hp5⟩ := h5.form
  obtain ⟨o6', c6', rfl, hp6⟩ := h6.form
  obtain ⟨o7', c7', rfl, hp7⟩ := h7.form
  obtain ⟨o8', c8', rfl, hp8⟩ := h8.form
  have hfl : fb < w.heap.size := by obtain ⟨m, h1, _⟩ := hF; exact h1.lt
  have HP3 := Lib.hid (rows_all h3 (fun cs x hr => encPoint_to B3 0 w0 w0 cs x hr))
  have HP4 := Lib.hid (rows_all h4 (fun cs x hr => encInt_to B3 0 w0 w0 cs x hr))
  have HP5 := Lib.hid (rows_all h5 (fun cs x hr => encPart_to B3 0 w0 w0 cs x hr))
  have HP6 := Lib.hid (rows_all h6 (fun cs x hr => encAnchor_to B3 0 w0 w0 cs x hr))
  have HP8 := Lib.hid (rows_all h8 (fun cs x hr => encIns_to B3 0 w0 w0 cs x hr))
  have HNA := Lib.hid (And.intro hn ha)
  have HLN := Lib.hid (And.intro hp3 (And.intro hp4 (And.intro hp5 (And.intro hp6 hp8))))
  subst hgc
  have T := Lib.hid (OwnF.of (F := [fb]) (own4 w (spotCells u g c l fe ax rg fu cv at' fb) 55 #[.string gl.name, .int .i64 gl.adv, .bool gl.mark, .slice o3' gl.pts.length c3', .slice o4' gl.ends.length c4', .slice o5' gl.parts.length c5', .slice o6' gl.anchors.length c6', .slice o7' gl.deltas.length c7', .slice o8' gl.hint.length c8'] 44 zeroGlyphL.toArray 44 #[.int .i64 0] 33) (by simpa using hfl))
  have HM0 := Lib.hid hm
  have HFL := Lib.hid hfl
  have HFB := Lib.hid hfb
  have mAl := ((((Mod.refl [] w).alloc (.cells (spotCells u g c l fe ax rg fu cv at' fb) 55)).alloc (.cells #[.string gl.name, .int .i64 gl.adv, .bool gl.mark, .slice o3' gl.pts.length c3', .slice o4' gl.ends.length c4', .slice o5' gl.parts.length c5', .slice o6' gl.anchors.length c6', .slice o7' gl.deltas.length c7', .slice o8' gl.hint.length c8'] 44)).alloc (.cells zeroGlyphL.toArray 44) |>.alloc (.cells #[.int .i64 0] 33))
  have HFAC := Lib.hid (hF.mod mAl)
  have HMW := Lib.hid (hm.then mAl)
  clear mAl hR hX h3 h4 h5 h6 h7 h8 hn ha hp3 hp4 hp5 hp6 hp7 hp8 hfl hfb hm hF hs
  unfold spotCells zeroGlyphL at T HFAC HMW
  unfold spotCells at HSH ⊢
  go_enter_defers Try.func10, Try.ntmps10
  go_upto_region 2 with fail
  generalize (((w.alloc (.cells #[.int .i64 u, .slice g.a g.n g.c, .slice c.a c.n c.c, .slice l.a l.n l.c, .slice fe.a fe.n fe.c, .slice ax.a ax.n ax.c, .slice rg.a rg.n rg.c, .slice fu.a fu.n fu.c, .slice cv.a cv.n cv.c, .slice at'.a at'.n at'.c, .map (some fb)] 55)).alloc (.cells #[.string gl.name, .int .i64 gl.adv, .bool gl.mark, .slice o3' gl.pts.length c3', .slice o4' gl.ends.length c4', .slice o5' gl.parts.length c5', .slice o6' gl.anchors.length c6', .slice o7' gl.deltas.length c7', .slice o8' gl.hint.length c8'] 44)).alloc (.cells #[.string ⟨#[]⟩, .int .i64 0, .bool false, .slice none 0 0, .slice none 0 0, .slice none 0 0, .slice none 0 0, .slice none 0 0, .slice none 0 0] 44)).alloc (.cells #[.int .i64 0] 33) = W0 at *
  have g0 := (T.out.at 1 rfl).cell 0
  have g1 := (T.out.at 1 rfl).cell 1
  have g2 := (T.out.at 1 rfl).cell 2
  have g3 := (T.out.at 1 rfl).cell 3
  have g4 := (T.out.at 1 rfl).cell 4
  have g5 := (T.out.at 1 rfl).cell 5
  have g6 := (T.out.at 1 rfl).cell 6
  have g7 := (T.out.at 1 rfl).cell 7
  have g8 := (T.out.at 1 rfl).cell 8
  simp only [List.getElem?_toArray, List.getElem?_cons_zero, List.getElem?_cons_succ] at g0 g1 g2 g3 g4 g5 g6 g7 g8
  go_wp2_with fail
  refine (HST.out _ HMW.out).mono ?_
  rintro e W1 ⟨v, rfl, m1, u3, u4, u5, u6, u8, rfl, k3, k4, k5, k6, k8⟩
  clear g0 g1 g2 g3 g4 g5 g6 g7 g8
  have T1 := Lib.hid (T.out.call m1)
  have HMW1 := Lib.hid (HMW.out.then m1)
  have HF1 := Lib.hid (HFAC.out.mod m1)
  have hB4 : w.heap.size + 4 ≤ W0.heap.size := by have := (T.out.at 3 rfl).lt; omega
  have HB4 := Lib.hid hB4
  obtain ⟨o3, c3, rfl⟩ := k3.form
  obtain ⟨o4, c4, rfl⟩ := k4.form
  obtain ⟨o5, c5, rfl⟩ := k5.form
  obtain ⟨o6, c6, rfl⟩ := k6.form
  obtain ⟨o8, c8, rfl⟩ := k8.form
  have HT1 := Lib.hid (show GlTold (w.heap.size + 4) gl gl.pts o3 o4 o5 o6 o8 c3 c4 c5 c6 c8 W1 from ⟨rfl, k3.lower hB4, k4.lower hB4, k5.lower hB4, k6.lower hB4, k8.lower hB4⟩)
  clear k3 k4 k5 k6 k8 m1 HMW T HFAC hB4
  have z0 := (T1.out.at 2 rfl).cell 0
  have z1 := (T1.out.at 2 rfl).cell 1
  have z2 := (T1.out.at 2 rfl).cell 2
  have z3 := (T1.out.at 2 rfl).cell 3
  have z4 := (T1.out.at 2 rfl).cell 4
  have z5 := (T1.out.at 2 rfl).cell 5
  have z6 := (T1.out.at 2 rfl).cell 6
  have z7 := (T1.out.at 2 rfl).cell 7
  have z8 := (T1.out.at 2 rfl).cell 8
  have zf := fun k => (T1.out.at 2 rfl).frozen k
  simp only [List.getElem?_toArray, List.getElem?_cons_zero, List.getElem?_cons_succ] at z0 z1 z2 z3 z4 z5 z6 z7 z8
  go_upto_region 3 with fail
  clear z0 z1 z2 z3 z4 z5 z6 z7 z8 zf
  have XF : (((((((((W1.setCell ⟨w.heap.size + 1 + 1, 0, none⟩ (.string gl.name)).setCell ⟨w.heap.size + 1 + 1, 1, none⟩ (.int .i64 gl.adv)).setCell ⟨w.heap.size + 1 + 1, 2, none⟩ (.bool gl.mark)).setCell ⟨w.heap.size + 1 + 1, 3, none⟩ (.slice o3 gl.pts.length c3)).setCell ⟨w.heap.size + 1 + 1, 4, none⟩ (.slice o4 gl.ends.length c4)).setCell ⟨w.heap.size + 1 + 1, 5, none⟩ (.slice o5 gl.parts.length c5)).setCell ⟨w.heap.size + 1 + 1, 6, none⟩ (.slice o6 gl.anchors.length c6)).setCell ⟨w.heap.size + 1 + 1, 7, none⟩ (.slice none 0 0)).setCell ⟨w.heap.size + 1 + 1, 8, none⟩ (.slice o8 gl.hint.length c8)) = setN W1 (w.heap.size + 1 + 1) (0) [.string gl.name, .int .i64 gl.adv, .bool gl.mark, .slice o3 gl.pts.length c3, .slice o4 gl.ends.length c4, .slice o5 gl.parts.length c5, .slice o6 gl.anchors.length c6, .slice none 0 0, .slice o8 gl.hint.length c8] := rfl
  rw [XF]
  clear XF
  have M2 := setN_mod (w0 := w) (b := w.heap.size + 1 + 1) (by omega) [.string gl.name, .int .i64 gl.adv, .bool gl.mark, .slice o3 gl.pts.length c3, .slice o4 gl.ends.length c4, .slice o5 gl.parts.length c5, .slice o6 gl.anchors.length c6, .slice none 0 0, .slice o8 gl.hint.length c8] 0 W1
  have HX2 := Lib.hid (setN_mod (w0 := w0) (b := w.heap.size + 1 + 1) (by have := HM0.out.size; omega) [.string gl.name, .int .i64 gl.adv, .bool gl.mark, .slice o3 gl.pts.length c3, .slice o4 gl.ends.length c4, .slice o5 gl.parts.length c5, .slice o6 gl.anchors.length c6, .slice none 0 0, .slice o8 gl.hint.length c8] 0 W1 HMW1.out)
  have HB9 := Lib.hid (show OwnF [fb] w (setN W1 (w.heap.size + 1 + 1) 0 [.string gl.name, .int .i64 gl.adv, .bool gl.mark, .slice o3 gl.pts.length c3, .slice o4 gl.ends.length c4, .slice o5 gl.parts.length c5, .slice o6 gl.anchors.length c6, .slice none 0 0, .slice o8 gl.hint.length c8]) [(w.heap.size, #[.int .i64 u, .slice g.a g.n g.c, .slice c.a c.n c.c, .slice l.a l.n l.c, .slice fe.a fe.n fe.c, .slice ax.a ax.n ax.c, .slice rg.a rg.n rg.c, .slice fu.a fu.n fu.c, .slice cv.a cv.n cv.c, .slice at'.a at'.n at'.c, .map (some fb)], 55), (w.heap.size + 1, #[.string gl.name, .int .i64 gl.adv, .bool gl.mark, .slice o3' gl.pts.length c3', .slice o4' gl.ends.length c4', .slice o5' gl.parts.length c5', .slice o6' gl.anchors.length c6', .slice o7' gl.deltas.length c7', .slice o8' gl.hint.length c8'], 44), (w.heap.size + 1 + 1, toldCells gl gl.adv o3 o4 o5 o6 o8 c3 c4 c5 c6 c8, 44), (w.heap.size + 1 + 1 + 1, #[.int .i64 0], 33)] from
    T1.out.over 2 rfl [.string gl.name, .int .i64 gl.adv, .bool gl.mark, .slice o3 gl.pts.length c3, .slice o4 gl.ends.length c4, .slice o5 gl.parts.length c5, .slice o6 gl.anchors.length c6, .slice none 0 0, .slice o8 gl.hint.length c8] rfl)
  have HT2 := Lib.hid (HT1.out.of (w' := setN W1 (w.heap.size + 1 + 1) 0 [.string gl.name, .int .i64 gl.adv, .bool gl.mark, .slice o3 gl.pts.length c3, .slice o4 gl.ends.length c4, .slice o5 gl.parts.length c5, .slice o6 gl.anchors.length c6, .slice none 0 0, .slice o8 gl.hint.length c8]) fun b c t hb _ => setN_other (by omega) _ _ _)
  have HF2 := Lib.hid (HF1.out.of (w' := setN W1 (w.heap.size + 1 + 1) 0 [.string gl.name, .int .i64 gl.adv, .bool gl.mark, .slice o3 gl.pts.length c3, .slice o4 gl.ends.length c4, .slice o5 gl.parts.length c5, .slice o6 gl.anchors.length c6, .slice none 0 0, .slice o8 gl.hint.length c8]) (setN_other (by have := HFL.out; omega) _ _ _))
  generalize setN W1 (w.heap.size + 1 + 1) 0 [.string gl.name, .int .i64 gl.adv, .bool gl.mark, .slice o3 gl.pts.length c3, .slice o4 gl.ends.length c4, .slice o5 gl.parts.length c5, .slice o6 gl.anchors.length c6, .slice none 0 0, .slice o8 gl.hint.length c8] = W2 at *
  clear M2 T1 HMW1 HF1 HT1
  have S := fun k => (HB9.out.at 0 rfl).cell k
  have g0 := (HB9.out.at 1 rfl).cell 0
  have g1 := (HB9.out.at 1 rfl).cell 1
  have g2 := (HB9.out.at 1 rfl).cell 2
  have g3 := (HB9.out.at 1 rfl).cell 3
  have g4 := (HB9.out.at 1 rfl).cell 4
  have g5 := (HB9.out.at 1 rfl).cell 5
  have g6 := (HB9.out.at 1 rfl).cell 6
  have g7 := (HB9.out.at 1 rfl).cell 7
  have g8 := (HB9.out.at 1 rfl).cell 8
  simp only [List.getElem?_toArray, List.getElem?_cons_zero, List.getElem?_cons_succ] at g0 g1 g2 g3 g4 g5 g6 g7 g8
  go_wp2_with fail
  refine (HSH.out _ HX2.out HF2.out).mono ?_
  rintro e W3 ⟨m3, hf3, hr3⟩
  clear S g0 g1 g2 g3 g4 g5 g6 g7 g8
  cases hr : Vr.shiftsR regs xs gl.pts.length gl.deltas [] with
  | error k =>
    rw [hr] at hr3
    obtain rfl : e = .panicked [{ v := .iface 33 (.int .i64 k), recovered := false }] := hr3
    have hres : Vr.glyphR regs xs gl = .error k := by unfold Vr.glyphR; rw [hr]
    rw [hres]
    have T3 := HB9.out.callF m3
    go_wp2_with fail
    refine gl_gives _ (w.heap.size + 1 + 1) (w.heap.size + 1 + 1 + 1) k _ rfl _ _ _ (by omega) (T3.at 2 rfl) (T3.at 3 rfl) rfl rfl rfl ⟨?_, ?_, rfl⟩
    · exact (T3.over 2 rfl zeroGlyphL rfl).mod.setNew (p := ⟨w.heap.size + 1 + 1 + 1, 0, none⟩) (show w.heap.size ≤ w.heap.size + 1 + 1 + 1 by omega) _
    · exact (hf3.of (setN_other (by have := HFL.out; omega) _ _ _)).of (other_cell (by have := HFL.out; omega))
  | ok m =>
    rw [hr] at hr3
    obtain ⟨sb, rfl, hsb, hM, hin⟩ := hr3
    obtain ⟨it, n, hrg, hI⟩ := run_irange (P := Try.prog) hM Try.und_SMap
    have mA : Mod [] W3 (W3.alloc it) := (Mod.refl _ _).alloc it
    have hsb3 : w.heap.size + 4 ≤ sb := by have := (HB9.out.at 3 rfl).lt; omega
    have hkeys := shifts_keys gl.deltas [] m (by simp) hr
    have hnd := hM.keys
    rw [show (mapP shV m).map (·.1) = m.map (·.1) from by simp [mapP, Function.comp_def]] at hnd
    have GI := Lib.hid (show GlI w fb regs xs #[.int .i64 u, .slice g.a g.n g.c, .slice c.a c.n c.c, .slice l.a l.n l.c, .slice fe.a fe.n fe.c, .slice ax.a ax.n ax.c, .slice rg.a rg.n rg.c, .slice fu.a fu.n fu.c, .slice cv.a cv.n cv.c, .slice at'.a at'.n at'.c, .map (some fb)] #[.string gl.name, .int .i64 gl.adv, .bool gl.mark, .slice o3' gl.pts.length c3', .slice o4' gl.ends.length c4', .slice o5' gl.parts.length c5', .slice o6' gl.anchors.length c6', .slice o7' gl.deltas.length c7', .slice o8' gl.hint.length c8'] gl (mapP shV m) sb W3.heap.size o3 o4 o5 o6 o8 c3 c4 c5 c6 c8 gl.adv gl.pts [] n (W3.alloc it) from
      ⟨(HB9.out.callF m3).call mA, hI, hsb3, by have := hM.lt; omega, hf3.mod mA, (HT2.out.of (w' := W3) fun b c t hb h => m3.block b (Array.getElem?_eq_some_iff.1 h).1 (by have := HFL.out; simp; omega)).mod mA⟩)
    have HMM := Lib.hid (And.intro hin (And.intro hkeys hnd))
    have HRES := Lib.hid hr
    clear hI mA hM hsb3 hsb hin hkeys hnd hr m3 hf3 HB9 HT2 HF2 HX2
    go_wp2_with fail
    generalize W3.alloc it = W4 at *
    generalize W3.heap.size = rb at *
    clear hrg
    go_loopg [] n (fun gk wr => ∃ D : List Int, Hid (GlI w fb regs xs #[.int .i64 u, .slice g.a g.n g.c, .slice c.a c.n c.c, .slice l.a l.n l.c, .slice fe.a fe.n fe.c, .slice ax.a ax.n ax.c, .slice rg.a rg.n rg.c, .slice fu.a fu.n fu.c, .slice cv.a cv.n cv.c, .slice at'.a at'.n at'.c, .map (some fb)] #[.string gl.name, .int .i64 gl.adv, .bool gl.mark, .slice o3' gl.pts.length c3', .slice o4' gl.ends.length c4', .slice o5' gl.parts.length c5', .slice o6' gl.anchors.length c6', .slice o7' gl.deltas.length c7', .slice o8' gl.hint.length c8'] gl (mapP shV m) sb rb o3 o4 o5 o6 o8 c3 c4 c5 c6 c8 (Vr.curAdv m D gl.adv) (Vr.curPts m D gl.pts) D gk wr) ∧ Hid (Vr.fine m D gl.adv gl.pts))
    case atStart => exact ⟨[], by rw [curAdv_nil, curPts_nil]; exact GI.out, fine_nil⟩
    case round =>
      obtain ⟨D, HI, HFI⟩ := hrel
      clear GI
      rcases run_inext (P := Try.prog) HI.out.rng with ⟨h0, hnx, hall⟩ | ⟨k, v, W5, hkm, hkD, hnx, hen, ⟨n', hn', hI5⟩, m5, s5⟩
      · have hfin := all_seen_glyph HFI.out fun p hp => hall (p.1, shV p.2) (by unfold mapP; exact List.mem_map.2 ⟨p, hp, rfl⟩)
        have hres : Vr.glyphR regs xs gl = .ok { gl with adv := Vr.curAdv m D gl.adv, pts := Vr.curPts m D gl.pts, deltas := [] } := by
          unfold Vr.glyphR
          rw [HRES.out]
          simp only
          rw [hfin.1]
          simp only
          rw [hfin.2]
        rw [hres]
        have t0 := (HI.out.own.at 2 rfl).cell 0
        have t1 := (HI.out.own.at 2 rfl).cell 1
        have t2 := (HI.out.own.at 2 rfl).cell 2
        have t3 := (HI.out.own.at 2 rfl).cell 3
        have t4 := (HI.out.own.at 2 rfl).cell 4
        have t5 := (HI.out.own.at 2 rfl).cell 5
        have t6 := (HI.out.own.at 2 rfl).cell 6
        have t7 := (HI.out.own.at 2 rfl).cell 7
        have t8 := (HI.out.own.at 2 rfl).cell 8
        have tf := fun k => (HI.out.own.at 2 rfl).frozen k
        have q0 := (HI.out.own.at 3 rfl).cell 0
        have qf := fun k => (HI.out.own.at 3 rfl).frozen k
        simp only [toldCells, List.getElem?_toArray, List.getElem?_cons_zero, List.getElem?_cons_succ] at t0 t1 t2 t3 t4 t5 t6 t7 t8 q0
        have hin := curAdv_in (m := m) (D := D) HNA.out.2
        have hpin := curPts_in (m := m) (D := D) (ps := gl.pts) (fun x hx => (HP3.out x hx).2)
        have HIN := Lib.hid (And.intro hin hpin)
        clear hin hpin hall hfin
        have HRE := Lib.hid hres
        clear hres
        have HI2 := Lib.hid ((HI.out.own.over 2 rfl [.string gl.name, .int .i64 (Vr.curAdv m D gl.adv), .bool gl.mark, .slice o3 gl.pts.length c3, .slice o4 gl.ends.length c4, .slice o5 gl.parts.length c5, .slice o6 gl.anchors.length c6, .slice none 0 0, .slice o8 gl.hint.length c8] rfl).set 3 rfl 0 (.int .i64 0))
        have HG2 := Lib.hid ((HI.out.told.of (w' := setN wr (w.heap.size + 1 + 1) 0 [.string gl.name, .int .i64 (Vr.curAdv m D gl.adv), .bool gl.mark, .slice o3 gl.pts.length c3, .slice o4 gl.ends.length c4, .slice o5 gl.parts.length c5, .slice o6 gl.anchors.length c6, .slice none 0 0, .slice o8 gl.hint.length c8]) fun b c t hb _ => setN_other (by omega) _ _ _).of (w' := (setN wr (w.heap.size + 1 + 1) 0 [.string gl.name, .int .i64 (Vr.curAdv m D gl.adv), .bool gl.mark, .slice o3 gl.pts.length c3, .slice o4 gl.ends.length c4, .slice o5 gl.parts.length c5, .slice o6 gl.anchors.length c6, .slice none 0 0, .slice o8 gl.hint.length c8]).setCell ⟨w.heap.size + 1 + 1 + 1, 0, none⟩ (.int .i64 0)) fun b c t hb _ => other_cell (by omega))
        have HF3 := Lib.hid ((HI.out.fac.of (w' := setN wr (w.heap.size + 1 + 1) 0 [.string gl.name, .int .i64 (Vr.curAdv m D gl.adv), .bool gl.mark, .slice o3 gl.pts.length c3, .slice o4 gl.ends.length c4, .slice o5 gl.parts.length c5, .slice o6 gl.anchors.length c6, .slice none 0 0, .slice o8 gl.hint.length c8]) (setN_other (by have := HFL.out; omega) _ _ _)).of (w' := (setN wr (w.heap.size + 1 + 1) 0 [.string gl.name, .int .i64 (Vr.curAdv m D gl.adv), .bool gl.mark, .slice o3 gl.pts.length c3, .slice o4 gl.ends.length c4, .slice o5 gl.parts.length c5, .slice o6 gl.anchors.length c6, .slice none 0 0, .slice o8 gl.hint.length c8]).setCell ⟨w.heap.size + 1 + 1 + 1, 0, none⟩ (.int .i64 0)) (other_cell (by have := HFL.out; omega)))
        generalize Vr.curAdv m D gl.adv = ca at *
        generalize Vr.curPts m D gl.pts = cp at *
        go_wp2_with fail
        refine gl_returns _ (w.heap.size + 1 + 1) (w.heap.size + 1 + 1 + 1) _ _ _ _ _ _ _ _ _ _ _ _ (HI2.out.at 2 rfl) (HI2.out.at 3 rfl) rfl rfl rfl ?_
        rw [HRE.out]
        exact ⟨HI2.out.mod, HF3.out, _, rfl, HG2.out.glyph (by omega) HNA.out.1 HIN.out.1 HIN.out.2 HP4.out HP5.out HP6.out HP8.out HLN.out.1 HLN.out.2.1 HLN.out.2.2.1 HLN.out.2.2.2.1 HLN.out.2.2.2.2⟩
      · unfold mapP at hkm
        obtain ⟨⟨k', sh⟩, hsm, hke⟩ := List.mem_map.1 hkm
        simp only [Prod.mk.injEq] at hke
        obtain ⟨rfl, rfl⟩ := hke
        obtain ⟨⟨xa, xb⟩, ya, yb⟩ := sh
        unfold shV at hnx hen
        simp only at hnx hen
        have HSH2 := Lib.hid (HMM.out.1 _ hsm)
        have HLK := Lib.hid (look_of_mem HMM.out.2.2 hsm)
        have HKB := Lib.hid (HMM.out.2.1 _ hsm)
        have HI5 := Lib.hid (HI.out.step m5 hI5)
        have HKD := Lib.hid hkD
        have HN := Lib.hid hn'
        clear hkm hsm hI5 m5 s5 hkD hn'
        have HI6 := Lib.hid (HI5.out.mod ((Mod.refl [] _).alloc (.cells #[.int .i64 xa, .int .i64 xb, .int .i64 ya, .int .i64 yb] 93)))
        have BS := Lib.hid (Blk.new W5 #[.int .i64 xa, .int .i64 xb, .int .i64 ya, .int .i64 yb] 93)
        have HADV := Lib.hid (show k' = -1 → Vr.advR m gl.adv = Vr.movedR gl.adv (Rat.roundR xa xb) 0 from fun e => by unfold Vr.advR; rw [← e, HLK.out])
        have HPT := Lib.hid (show ∀ (i : Nat) (p : DPoint), k' = (i : Int) → Vr.ptR m i p = match Vr.movedR p.x (Rat.roundR xa xb) (-16384) with | none => none | some a => match Vr.movedR p.y (Rat.roundR ya yb) (-16384) with | none => none | some b => some ⟨a, b, p.on⟩ from fun i p e => by unfold Vr.ptR; rw [← e, HLK.out]; rfl)
        have HRIN := Lib.hid (And.intro (roundR_in xa xb) (roundR_in ya yb))
        have HRX := Lib.hid (fun W => round_any xa xb W HSH2.out.1.1 HSH2.out.1.2)
        have HRY := Lib.hid (fun W => round_any ya yb W HSH2.out.2.1 HSH2.out.2.2)
        generalize Rat.roundR xa xb = rx at *
        generalize Rat.roundR ya yb = ry at *
        clear HSH2 HLK
        go_upto_region 6 with fail
        clear HI5 hnx hen
        generalize W5.alloc (.cells #[.int .i64 xa, .int .i64 xb, .int .i64 ya, .int .i64 yb] 93) = W6 at *
        generalize W5.heap.size = b7 at *
        have A0 := fun W (mW : Mod [] W6 W) k => BS.out.every W mW k
        refine wp_region_mask 6 [true, true, true, true, true, true] [] (by kernel_rfl) (by kernel_rfl) (by simp) ?_
        simp only [pickM]
        iterate 2
         refine steady_go (a' := ?_) (by kernel_rfl) ?_ (fun w' hw' K Q hK => ?_) ?_
         rotate_left 2
         · go_wp2_with fail; exact hK _ (Mod.refl _ _)
         rotate_left
         · rfl
        refine steady_go (a' := ?_) (by kernel_rfl) ?_ (fun w' hw' K Q hK => ?_) ?_
        rotate_left 2
        · go_wp2_with fail
          refine ((calls_mod HRX.out) _ hw').mono ?_
          rintro e w'' ⟨rfl, m''⟩
          go_wp2_with fail
          exact hK _ m''
        rotate_left
        · rfl
        iterate 2
         refine steady_go (a' := ?_) (by kernel_rfl) ?_ (fun w' hw' K Q hK => ?_) ?_
         rotate_left 2
         · go_wp2_with fail; exact hK _ (Mod.refl _ _)
         rotate_left
         · rfl
        refine steady_go (a' := ?_) (by kernel_rfl) ?_ (fun w' hw' K Q hK => ?_) ?_
        rotate_left 2
        · go_wp2_with fail
          refine ((calls_mod HRY.out) _ hw').mono ?_
          rintro e w'' ⟨rfl, m''⟩
          go_wp2_with fail
          exact hK _ m''
        rotate_left
        · rfl
        refine steady_done ?_
        refine lates_end (fun w' hw' _ => ?_)
        simp only [List.drop_succ_cons, List.drop_zero]
        have HI7 := Lib.hid (HI6.out.mod hw')
        clear A0 hw' HI6 BS HRX HRY
        by_cases hk : k' = -1
        · subst hk
          have e1 : decide ((-1 : Int) < 0) = true := rfl
          have hcur : Vr.curAdv m D gl.adv = gl.adv := by unfold Vr.curAdv; rw [if_neg HKD.out]
          have hco := hcur
          have t1 := (HI7.out.own.at 2 rfl).cell 1
          simp only [toldCells, List.getElem?_toArray, List.getElem?_cons_zero, List.getElem?_cons_succ] at t1
          rw [hcur] at t1
          have HAD := Lib.hid (HADV.out rfl)
          clear hcur hco
          cases hmv : Vr.movedR gl.adv rx 0 with
          | none =>
            have HNO := Lib.hid (fun W => movedC_none W HNA.out.2 HRIN.out.1 (by omega) hmv)
            have HRE := Lib.hid (show Vr.glyphR regs xs gl = .error 3 by unfold Vr.glyphR; rw [HRES.out]; simp only; rw [HAD.out, hmv])
            clear hmv
            go_wp2_with fail
            refine (HNO.out _).mono ?_
            rintro e w8 ⟨rfl, m8⟩
            go_wp2_with fail
            exact gl_gives_I (HI7.out.mod m8) HRE.out rfl rfl rfl
          | some r =>
            have HNO := Lib.hid (fun W => movedC_some W HNA.out.2 HRIN.out.1 (by omega) hmv)
            have HCR := Lib.hid (show Vr.curAdv m ((-1) :: D) gl.adv = r by unfold Vr.curAdv; rw [if_pos (by simp), HAD.out, hmv]; rfl)
            have HFN := Lib.hid (show Vr.fine m ((-1) :: D) gl.adv gl.pts from ⟨fun _ => by rw [HAD.out, hmv]; simp, fun i h hm => HFI.out.2 i h (by
              rcases List.mem_cons.1 hm with h | h
              · omega
              · exact h)⟩)
            clear hmv
            go_wp2_with fail
            refine (HNO.out _).mono ?_
            rintro e w8 ⟨rfl, m8⟩
            have HI8 := Lib.hid (HI7.out.mod m8)
            clear t1 HI7 m8
            have t1 := (HI8.out.own.at 2 rfl).cell 1
            have tf := (HI8.out.own.at 2 rfl).frozen 1
            simp only [toldCells, List.getElem?_toArray, List.getElem?_cons_zero, List.getElem?_cons_succ] at t1
            have HI9 := Lib.hid (HI8.out.adv r)
            go_wp2_with fail
            go_roundg n'
            case measure => exact HN.out
            case rel => exact ⟨(-1) :: D, by rw [HCR.out, curPts_neg]; exact HI9.out, HFN.out⟩
        · obtain ⟨i, rfl⟩ : ∃ i : Nat, k' = (i : Int) := ⟨k'.toNat, by have := HKB.out.1; simp only at this; omega⟩
          have e1 : decide ((i : Int) < 0) = false := decide_eq_false (by omega)
          have hi : i < gl.pts.length := by have := HKB.out.2; simp only at this; omega
          have hi0 : (0 : Int) ≤ (i : Int) := by omega
          have hi1 : (i : Int) < (gl.pts.length : Int) := by omega
          have t3 := (HI7.out.own.at 2 rfl).cell 3
          simp only [toldCells, List.getElem?_toArray, List.getElem?_cons_zero, List.getElem?_cons_succ] at t3
          obtain ⟨p, hp⟩ : ∃ p, gl.pts[i] = p := ⟨_, rfl⟩
          have hps : (Vr.curPts m D gl.pts)[i]? = some p := by
            rw [curPts_at m D gl.pts i hi]
            unfold Vr.curPt
            rw [if_neg HKD.out, hp]
          have hci : i < (Vr.curPts m D gl.pts).length := by rw [curPts_length]; exact hi
          have hpe : (Vr.curPts m D gl.pts)[i] = p := by
            rw [List.getElem?_eq_getElem hci] at hps
            simpa using hps
          obtain ⟨pb, ho3, hpB, hP⟩ : ∃ b, Value.slice o3 gl.pts.length c3 = .slice (some ⟨b, 0, none⟩) gl.pts.length gl.pts.length ∧ w.heap.size + 4 ≤ b ∧ Blk w' b ((Vr.curPts m D gl.pts).flatMap encPoint).toArray 74 := by
            rcases HI7.out.told.pts with ⟨h0, _⟩ | h1
            · omega
            · exact h1
          have ho : o3 = some ⟨pb, 0, none⟩ := by simp at ho3; exact ho3.1
          have hc : c3 = gl.pts.length := by simp at ho3; exact ho3.2
          subst ho hc
          have x0 : w'.cell? ⟨pb, i * 3, none⟩ = some (.int .i64 p.x) := by
            rw [hP.cell, List.getElem?_toArray]
            have := flat_at encPoint_len (Vr.curPts m D gl.pts) i 0 hci (by omega)
            rw [Nat.add_zero] at this
            rw [this, hpe]; rfl
          have x1 : w'.cell? ⟨pb, i * 3 + 1, none⟩ = some (.int .i64 p.y) := by
            rw [hP.cell, List.getElem?_toArray]
            have := flat_at encPoint_len (Vr.curPts m D gl.pts) i 1 hci (by omega)
            rw [this, hpe]; rfl
          have Y0 : ∀ W, Mod [] w' W → W.cell? ⟨pb, i * 3, none⟩ = some (.int .i64 p.x) := fun W mW => cell_stays mW x0
          have Y1 : ∀ W, Mod [] w' W → W.cell? ⟨pb, i * 3 + 1, none⟩ = some (.int .i64 p.y) := fun W mW => cell_stays mW x1
          have F0 : ∀ W, Mod [] w' W → ∀ k, W.frozen? ⟨pb, k, none⟩ = false := fun W mW k => (hP.kept mW (by simp)).frozen k
          have HPO := Lib.hid (HPT.out i p rfl)
          have HXY := Lib.hid (show I64 p.x ∧ I64 p.y by rw [← hp]; exact (HP3.out _ (List.getElem_mem hi)).2)
          have HPS := Lib.hid hps
          have HCC := Lib.hid (show ∀ q, Vr.ptR m i p = some q → Vr.curPts m ((i : Int) :: D) gl.pts = (Vr.curPts m D gl.pts).set i q from fun q hq => by rw [curPts_cons (m := m) (D := D) hi, hp, hq]; rfl)
          have HPN := Lib.hid (show Vr.ptR m i p = none → Vr.ptsR m 0 gl.pts = none from fun h => ptsR_none gl.pts 0 i hi (by rw [Nat.zero_add, hp]; exact h))
          have HFN := Lib.hid (show Vr.ptR m i p ≠ none → Vr.fine m ((i : Int) :: D) gl.adv gl.pts from fun hne => ⟨fun hm => HFI.out.1 (by
            rcases List.mem_cons.1 hm with h | h
            · omega
            · exact h), fun j hj hm => by
            rcases List.mem_cons.1 hm with h | h
            · obtain rfl : j = i := by omega
              rw [hp]
              exact hne
            · exact HFI.out.2 j hj h⟩)
          clear hps hpe hP ho3 x0 x1 hci hp hi hpB
          obtain ⟨px, py, pon⟩ := p
          simp only at Y0 Y1 HXY HPO
          go_upto_region 10 with fail
          clear t3 e1
          have herr : Vr.ptR m i ⟨px, py, pon⟩ = none → Vr.glyphR regs xs gl = .error 3 := fun h => by
            unfold Vr.glyphR
            rw [HRES.out]
            simp only
            rw [HPN.out h]
            cases Vr.advR m gl.adv <;> rfl
          cases hx : Vr.movedR px rx (-16384) with
          | none =>
            have HRE := Lib.hid (herr (by rw [HPO.out, hx]))
            have HNO := Lib.hid (fun W => movedC_none W HXY.out.1 HRIN.out.1 (by omega) hx)
            clear herr hx
            refine Dm.wp_region_doom [true, true, true, true, true, true, true, false, true, true, true, true, true, false, false, false, false, false, false, false] [] 7 (fun c _ => c = [{ v := .iface 33 (.int .i64 3), recovered := false }]) (by kernel_rfl) rfl rfl (by kernel_rfl) ?hAlD381 ?hQ ?mainD381
            case hAlD381 => (intro i hi; cases hi)
            case mainD381 =>
              simp only [pickM]
              iterate 12
               refine steady_go (a' := ?_) (by kernel_rfl) ?_ (fun w' hw' K Q hK => ?_) ?_
               rotate_left 2
               · go_wp2_with fail; exact hK _ (Mod.refl _ _)
               rotate_left
               · rfl
              refine steady_done ?_
              intro w' hw'
              go_wp2_with fail
              refine (HNO.out _).mono ?_
              rintro e w8 ⟨rfl, m8⟩
              go_wp2_with fail
              exact hw'.then m8
            case hQ =>
              intro c' a' w9 hG hm hc
              subst hc
              have q4 := hG.slot 4 (by kernel_rfl)
              have q5 := hG.slot 5 (by kernel_rfl)
              have hd := hG.defers
              simp only [List.getElem?_toArray, List.getElem?_cons_succ, List.getElem?_cons_zero] at q4 q5
              simp only [Exit.inBlock, Exit.then]
              change bodyPostD _ _ _ _ _ _
              exact gl_gives_I (HI7.out.mod hm) HRE.out hd q4 q5
          | some ax' =>
            have HKX := Lib.hid (fun W => movedC_some W HXY.out.1 HRIN.out.1 (by omega) hx)
            cases hy : Vr.movedR py ry (-16384) with
            | none =>
              have HRE := Lib.hid (herr (by rw [HPO.out, hx, hy]))
              have HNO := Lib.hid (fun W => movedC_none W HXY.out.2 HRIN.out.2 (by omega) hy)
              clear herr hx hy
              refine Dm.wp_region_doom [true, true, true, true, true, true, true, true, true, true, true, true, true, false, false, false, false, false, false, false] [] 13 (fun c _ => c = [{ v := .iface 33 (.int .i64 3), recovered := false }]) (by kernel_rfl) rfl rfl (by kernel_rfl) ?hAlD469 ?hQ ?mainD469
              case hAlD469 => (intro i hi; cases hi)
              case mainD469 =>
                simp only [pickM]
                iterate 7
                 refine steady_go (a' := ?_) (by kernel_rfl) ?_ (fun w' hw' K Q hK => ?_) ?_
                 rotate_left 2
                 · go_wp2_with fail; exact hK _ (Mod.refl _ _)
                 rotate_left
                 · rfl
                refine steady_go (a' := ?_) (by kernel_rfl) ?_ (fun w' hw' K Q hK => ?_) ?_
                rotate_left 2
                · go_wp2_with fail
                  refine ((calls_mod HKX.out) _ hw').mono ?_
                  rintro e w'' ⟨rfl, m''⟩
                  go_wp2_with fail
                  exact hK _ m''
                rotate_left
                · rfl
                iterate 5
                 refine steady_go (a' := ?_) (by kernel_rfl) ?_ (fun w' hw' K Q hK => ?_) ?_
                 rotate_left 2
                 · go_wp2_with fail; exact hK _ (Mod.refl _ _)
                 rotate_left
                 · rfl
                refine steady_done ?_
                intro w' hw'
                go_wp2_with fail
                refine (HNO.out _).mono ?_
                rintro e w8 ⟨rfl, m8⟩
                go_wp2_with fail
                exact hw'.then m8
              case hQ =>
                intro c' a' w9 hG hm hc
                subst hc
                have q4 := hG.slot 4 (by kernel_rfl)
                have q5 := hG.slot 5 (by kernel_rfl)
                have hd := hG.defers
                simp only [List.getElem?_toArray, List.getElem?_cons_succ, List.getElem?_cons_zero] at q4 q5
                simp only [Exit.inBlock, Exit.then]
                change bodyPostD _ _ _ _ _ _
                exact gl_gives_I (HI7.out.mod hm) HRE.out hd q4 q5
            | some ay =>
              have HKY := Lib.hid (fun W => movedC_some W HXY.out.2 HRIN.out.2 (by omega) hy)
              have HNEW := Lib.hid (show Vr.ptR m i ⟨px, py, pon⟩ = some ⟨ax', ay, pon⟩ by rw [HPO.out, hx, hy])
              clear herr hx hy
              refine calm_of ?_
              refine wp_region_moved 14 1 _ (by simp only [waitFor, List.modify_succ_cons, List.modify_zero_cons]; exact rfl) 14 [true, true, true, true, true, true, true, true, true, true, true, true, true, true] [] (by kernel_rfl) (by kernel_rfl) (by simp) (fun _ _ d _ _ h => by cases d <;> exact h) ?_
              simp only [pickM]
              iterate 7
               refine steady_go (a' := ?_) (by kernel_rfl) ?_ (fun w' hw' K Q hK => ?_) ?_
               rotate_left 2
               · go_wp2_with fail; exact hK _ (Mod.refl _ _)
               rotate_left
               · rfl
              refine steady_go (a' := ?_) (by kernel_rfl) ?_ (fun w' hw' K Q hK => ?_) ?_
              rotate_left 2
              · go_wp2_with fail
                refine ((calls_mod HKX.out) _ hw').mono ?_
                rintro e w'' ⟨rfl, m''⟩
                go_wp2_with fail
                exact hK _ m''
              rotate_left
              · rfl
              iterate 5
               refine steady_go (a' := ?_) (by kernel_rfl) ?_ (fun w' hw' K Q hK => ?_) ?_
               rotate_left 2
               · go_wp2_with fail; exact hK _ (Mod.refl _ _)
               rotate_left
               · rfl
              refine steady_go (a' := ?_) (by kernel_rfl) ?_ (fun w' hw' K Q hK => ?_) ?_
              rotate_left 2
              · go_wp2_with fail
                refine ((calls_mod HKY.out) _ hw').mono ?_
                rintro e w'' ⟨rfl, m''⟩
                go_wp2_with fail
                exact hK _ m''
              rotate_left
              · rfl
              refine steady_done ?_
              refine lates_end (fun w' hw' _ => ?_)
              simp only [List.drop_succ_cons, List.drop_zero]
              have x0 := Y0 _ hw'
              have x1 := Y1 _ hw'
              have f0 := F0 _ hw'
              have HI9 := Lib.hid ((HI7.out.mod hw').pt' ax' ay HPS.out rfl)
              clear Y0 Y1 F0 hw' HI7 HKX HKY
              go_wp2_with fail
              refine calm_normal ?_
              go_wp2_with fail
              go_roundg n'
              case measure => exact HN.out
              case rel => exact ⟨(i : Int) :: D, by rw [curAdv_pos, HCC.out _ HNEW.out]; exact HI9.out, HFN.out (by rw [HNEW.out]; simp)⟩
end Go.Proofs.Ytaloembfekdkoaa

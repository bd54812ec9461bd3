/- The document's print: a glyph. Printed by gen_pglyph.py. -/
import Derived.Test.YtaloembfekdkoaaGPrint
namespace Go.Proofs.Ytaloembfekdkoaa
open Go.RowKit
set_option linter.unusedVariables false
set_option maxRecDepth 100000
theorem Pr.yes_size (b : Bool) : (Pr.yes b).size = 2 := by cases b <;> rfl
def Pr.ptF (s : ByteArray) (p : DPoint) : ByteArray := s ++ Pr.dig p.x ++ Pr.dig p.y ++ Pr.yes p.on
def Pr.partF (s : ByteArray) (p : DPart) : ByteArray := s ++ Pr.dig p.glyph ++ Pr.dig p.x ++ Pr.dig p.y
def Pr.anchorF (s : ByteArray) (p : DAnchor) : ByteArray := s ++ Pr.dig p.kind ++ Pr.dig p.cls ++ Pr.dig p.x ++ Pr.dig p.y
def Pr.deltaF (s : ByteArray) (p : DDelta) : ByteArray := s ++ Pr.dig p.region ++ Pr.dig p.point ++ Pr.dig p.x ++ Pr.dig p.y
theorem Pr.ptF_size (s : ByteArray) (p : DPoint) : (Pr.ptF s p).size ≤ s.size + 46 := by
  unfold Pr.ptF; simp only [ByteArray.size_append, Pr.yes_size]; have := Pr.dig_size p.x; have := Pr.dig_size p.y; omega
theorem Pr.partF_size (s : ByteArray) (p : DPart) : (Pr.partF s p).size ≤ s.size + 66 := by
  unfold Pr.partF; simp only [ByteArray.size_append]; have := Pr.dig_size p.glyph; have := Pr.dig_size p.x; have := Pr.dig_size p.y; omega
theorem Pr.anchorF_size (s : ByteArray) (p : DAnchor) : (Pr.anchorF s p).size ≤ s.size + 88 := by
  unfold Pr.anchorF; simp only [ByteArray.size_append]; have := Pr.dig_size p.kind; have := Pr.dig_size p.cls; have := Pr.dig_size p.x; have := Pr.dig_size p.y; omega
theorem Pr.deltaF_size (s : ByteArray) (p : DDelta) : (Pr.deltaF s p).size ≤ s.size + 88 := by
  unfold Pr.deltaF; simp only [ByteArray.size_append]; have := Pr.dig_size p.region; have := Pr.dig_size p.point; have := Pr.dig_size p.x; have := Pr.dig_size p.y; omega
def Pr.s0 (g : DGlyph) : ByteArray := Pr.dig g.name.size ++ g.name ++ ⟨#[32]⟩ ++ Pr.dig g.adv ++ Pr.yes g.mark ++ Pr.dig g.pts.length
def Pr.s1 (g : DGlyph) : ByteArray := Pr.run Pr.ptF (Pr.s0 g) g.pts
def Pr.s2 (g : DGlyph) : ByteArray := Pr.s1 g ++ Pr.row g.ends ++ Pr.dig g.parts.length
def Pr.s3 (g : DGlyph) : ByteArray := Pr.run Pr.partF (Pr.s2 g) g.parts
def Pr.s4 (g : DGlyph) : ByteArray := Pr.s3 g ++ Pr.dig g.anchors.length
def Pr.s5 (g : DGlyph) : ByteArray := Pr.run Pr.anchorF (Pr.s4 g) g.anchors
def Pr.s6 (g : DGlyph) : ByteArray := Pr.s5 g ++ Pr.dig g.deltas.length
def Pr.s7 (g : DGlyph) : ByteArray := Pr.run Pr.deltaF (Pr.s6 g) g.deltas
def Pr.glyph (g : DGlyph) : ByteArray := Pr.s7 g ++ Pr.code g.hint
def PSmall (g : DGlyph) : Prop := g.name.size ≤ 140737488351232 ∧ g.pts.length * 24 ≤ 140737488351232 ∧ g.ends.length * 8 ≤ 140737488351232 ∧ g.parts.length * 24 ≤ 140737488351232 ∧ g.anchors.length * 32 ≤ 140737488351232 ∧ g.deltas.length * 32 ≤ 140737488351232 ∧ g.hint.length * 16 ≤ 140737488351232
theorem Pr.sizes (g : DGlyph) (h : PSmall g) : (Pr.s0 g).size ≤ 140737488351332 ∧ (Pr.s1 g).size ≤ 1000000000000000 ∧ (Pr.s2 g).size ≤ 2000000000000000 ∧ (Pr.s3 g).size ≤ 3000000000000000 ∧ (Pr.s4 g).size ≤ 3000000000000022 ∧ (Pr.s5 g).size ≤ 4000000000000000 ∧ (Pr.s6 g).size ≤ 4000000000000022 ∧ (Pr.s7 g).size ≤ 5000000000000000 := by
  obtain ⟨h1, h2, h3, h4, h5, h6, h7⟩ := h
  have a0 : (Pr.s0 g).size ≤ 140737488351332 := by
    unfold Pr.s0
    simp only [ByteArray.size_append, Pr.yes_size]
    have := Pr.dig_size (g.name.size : Int)
    have := Pr.dig_size g.adv
    have := Pr.dig_size (g.pts.length : Int)
    have : (⟨#[32]⟩ : ByteArray).size = 1 := rfl
    omega
  have a1 : (Pr.s1 g).size ≤ 1000000000000000 := by
    have := Pr.run_size Pr.ptF 46 Pr.ptF_size g.pts (Pr.s0 g)
    unfold Pr.s1; omega
  have a2 : (Pr.s2 g).size ≤ 2000000000000000 := by
    have := Pr.row_size g.ends
    have := Pr.dig_size (g.parts.length : Int)
    unfold Pr.s2; simp only [ByteArray.size_append]; omega
  have a3 : (Pr.s3 g).size ≤ 3000000000000000 := by
    have := Pr.run_size Pr.partF 66 Pr.partF_size g.parts (Pr.s2 g)
    unfold Pr.s3; omega
  have a4 : (Pr.s4 g).size ≤ 3000000000000022 := by
    have := Pr.dig_size (g.anchors.length : Int)
    unfold Pr.s4; simp only [ByteArray.size_append]; omega
  have a5 : (Pr.s5 g).size ≤ 4000000000000000 := by
    have := Pr.run_size Pr.anchorF 88 Pr.anchorF_size g.anchors (Pr.s4 g)
    unfold Pr.s5; omega
  have a6 : (Pr.s6 g).size ≤ 4000000000000022 := by
    have := Pr.dig_size (g.deltas.length : Int)
    unfold Pr.s6; simp only [ByteArray.size_append]; omega
  have a7 : (Pr.s7 g).size ≤ 5000000000000000 := by
    have := Pr.run_size Pr.deltaF 88 Pr.deltaF_size g.deltas (Pr.s6 g)
    unfold Pr.s7; omega
  exact ⟨a0, a1, a2, a3, a4, a5, a6, a7⟩
set_option maxHeartbeats 16000000 in
theorem pglyph_any (g : DGlyph) (B : Nat) (cs : List Value) (w : World) (h : RGlyph B w cs g) (hs : PSmall g) :
    Calls Try.prog 8 #[.agg cs.toArray] w fun e w' => e = .returned (.string (Pr.glyph g)) ∧ Mod [] w w' := by
  obtain ⟨v3, v4, v5, v6, v7, v8, rfl, hn, ha, h3, h4, h5, h6, h7, h8⟩ := h
  have hz := Pr.sizes g hs
  obtain ⟨s1, s2, s3, s4, s5, s6, s7⟩ := hs
  obtain ⟨name, adv, mark, pts, ends, parts, anchors, deltas, hint⟩ := g
  simp only at *
  obtain ⟨o3, c3, rfl, -⟩ := h3.form
  obtain ⟨o4, c4, rfl, -⟩ := h4.form
  obtain ⟨o5, c5, rfl, -⟩ := h5.form
  obtain ⟨o6, c6, rfl, -⟩ := h6.form
  obtain ⟨o7, c7, rfl, -⟩ := h7.form
  obtain ⟨o8, c8, rfl, -⟩ := h8.form
  have T := Lib.hid ((Own.start w).alloc #[.string name, .int .i64 adv, .bool mark, .slice o3 pts.length c3, .slice o4 ends.length c4, .slice o5 parts.length c5, .slice o6 anchors.length c6, .slice o7 deltas.length c7, .slice o8 hint.length c8] 44)
  have H3 := Lib.hid h3
  have H5 := Lib.hid h5
  have H6 := Lib.hid h6
  have H7 := Lib.hid h7
  have HSM := Lib.hid (And.intro s1 (And.intro s2 (And.intro s3 (And.intro s4 (And.intro s5 (And.intro s6 s7))))))
  have HZ := Lib.hid hz
  have HEN := Lib.hid (fun W (m : Mod [] w W) => prow_any o4 ends.length c4 ends B W (h4.mod RInt.stay m) s3)
  have HHI := Lib.hid (fun W (m : Mod [] w W) => pcode_any o8 hint.length c8 hint B W (h8.mod RIns.stay m) s7)
  have D0 := Lib.hid (fun W => digits_any (name.size : Int) W (by unfold I64; omega))
  have D1 := Lib.hid (fun W => digits_any adv W ha)
  have D2 := Lib.hid (fun W => yes_any mark W)
  have D3 := Lib.hid (fun W => digits_any (pts.length : Int) W (by unfold I64; omega))
  have D5 := Lib.hid (fun W => digits_any (parts.length : Int) W (by unfold I64; omega))
  have D6 := Lib.hid (fun W => digits_any (anchors.length : Int) W (by unfold I64; omega))
  have D7 := Lib.hid (fun W => digits_any (deltas.length : Int) W (by unfold I64; omega))
  have x0 := Pr.dig_size (name.size : Int)
  have x1 := Pr.dig_size adv
  have x2 := Pr.yes_size mark
  have x3 := Pr.dig_size (pts.length : Int)
  have z1 : ¬ 9223372036854775807 < (Pr.dig (name.size : Int)).size + name.size := by omega
  have z2 : ¬ 9223372036854775807 < (Pr.dig (name.size : Int)).size + name.size + 1 := by omega
  have z3 : ¬ 9223372036854775807 < (Pr.dig (name.size : Int)).size + name.size + 1 + (Pr.dig adv).size := by omega
  have z4 : ¬ 9223372036854775807 < (Pr.dig (name.size : Int)).size + name.size + 1 + (Pr.dig adv).size + (Pr.yes mark).size := by omega
  have z5 : ¬ 9223372036854775807 < (Pr.dig (name.size : Int)).size + name.size + 1 + (Pr.dig adv).size + (Pr.yes mark).size + (Pr.dig (pts.length : Int)).size := by omega
  clear hz s1 s2 s3 s4 s5 s6 s7 hn ha h3 h4 h5 h6 h7 h8 x0 x1 x2 x3
  have E0 := Lib.hid (show Pr.dig (name.size : Int) ++ name ++ ⟨#[32]⟩ ++ Pr.dig adv ++ Pr.yes mark ++ Pr.dig (pts.length : Int) = Pr.s0 ⟨name, adv, mark, pts, ends, parts, anchors, deltas, hint⟩ from rfl)
  go_enter Try.func8, Try.ntmps8
  go_upto_region 1 with fail
  generalize w.alloc (.cells #[.string name, .int .i64 adv, .bool mark, .slice o3 pts.length c3, .slice o4 ends.length c4, .slice o5 parts.length c5, .slice o6 anchors.length c6, .slice o7 deltas.length c7, .slice o8 hint.length c8] 44) = W0 at *
  have A0 := (T.out.at 0 rfl).every
  refine wp_region_mask 22 [true, true, true, true, true, true, true, true, true, true, true, true, true, true, true, true, true, true, true, true, true, true] [] (by kernel_rfl) (by kernel_rfl) (by simp) ?_
  simp only [pickM]
  iterate 3
   refine steady_go (a' := ?_) (by kernel_rfl) ?_ (fun w' hw' K Q hK => ?_) ?_
   rotate_left 2
   · go_wp2_with fail; exact hK _ (Mod.refl _ _)
   rotate_left
   · rfl
  refine steady_go (a' := ?_) (by kernel_rfl) ?_ (fun w' hw' K Q hK => ?_) ?_
  rotate_left 2
  · go_wp2_with fail
    refine ((calls_mod D0.out) _ hw').mono ?_
    rintro e w'' ⟨rfl, m''⟩
    go_wp2_with fail
    exact hK _ m''
  rotate_left
  · rfl
  iterate 6
   refine steady_go (a' := ?_) (by kernel_rfl) ?_ (fun w' hw' K Q hK => ?_) ?_
   rotate_left 2
   · go_wp2_with fail; exact hK _ (Mod.refl _ _)
   rotate_left
   · rfl
  refine steady_go (a' := ?_) (by kernel_rfl) ?_ (fun w' hw' K Q hK => ?_) ?_
  rotate_left 2
  · go_wp2_with fail
    refine ((calls_mod D1.out) _ hw').mono ?_
    rintro e w'' ⟨rfl, m''⟩
    go_wp2_with fail
    exact hK _ m''
  rotate_left
  · rfl
  iterate 3
   refine steady_go (a' := ?_) (by kernel_rfl) ?_ (fun w' hw' K Q hK => ?_) ?_
   rotate_left 2
   · go_wp2_with fail; exact hK _ (Mod.refl _ _)
   rotate_left
   · rfl
  refine steady_go (a' := ?_) (by kernel_rfl) ?_ (fun w' hw' K Q hK => ?_) ?_
  rotate_left 2
  · go_wp2_with fail
    refine ((calls_mod D2.out) _ hw').mono ?_
    rintro e w'' ⟨rfl, m''⟩
    go_wp2_with fail
    exact hK _ m''
  rotate_left
  · rfl
  iterate 5
   refine steady_go (a' := ?_) (by kernel_rfl) ?_ (fun w' hw' K Q hK => ?_) ?_
   rotate_left 2
   · go_wp2_with fail; exact hK _ (Mod.refl _ _)
   rotate_left
   · rfl
  refine steady_go (a' := ?_) (by kernel_rfl) ?_ (fun w' hw' K Q hK => ?_) ?_
  rotate_left 2
  · go_wp2_with fail
    refine ((calls_mod D3.out) _ hw').mono ?_
    rintro e w'' ⟨rfl, m''⟩
    go_wp2_with fail
    exact hK _ m''
  rotate_left
  · rfl
  refine steady_go (a' := ?_) (by kernel_rfl) ?_ (fun w' hw' K Q hK => ?_) ?_
  rotate_left 2
  · go_wp2_with fail; exact hK _ (Mod.refl _ _)
  rotate_left
  · rfl
  refine steady_done ?_
  refine lates_end (fun w' hw' _ => ?_)
  simp only [List.drop_succ_cons, List.drop_zero]
  have T1 := Lib.hid (T.out.call hw')
  clear A0 T hw' z1 z2 z3 z4 z5 D0 D1 D2 D3
  go_wp2_with fail
  go_loopg [3, 4] pts.length (fun gk s3 s4 wr => ∃ i : Nat, s3 = .string (Pr.run Pr.ptF (Pr.s0 ⟨name, adv, mark, pts, ends, parts, anchors, deltas, hint⟩) (pts.take i)) ∧ s4 = .int .i64 (i : Int) ∧ Hid (i + gk = pts.length) ∧ Hid (Own w wr [(w.heap.size, #[.string name, .int .i64 adv, .bool mark, .slice o3 pts.length c3, .slice o4 ends.length c4, .slice o5 parts.length c5, .slice o6 anchors.length c6, .slice o7 deltas.length c7, .slice o8 hint.length c8], 44)]))
  case atStart => exact ⟨0, by first | rfl | (rw [E0.out]; rfl), rfl, by show 0 + pts.length = pts.length; omega, T1.out⟩
  obtain ⟨i, rfl, rfl, hi, HI⟩ := hrel
  clear T1 E0
  have q0 := (HI.out.at 0 rfl).cell 3
  simp only [List.getElem?_toArray, List.getElem?_cons_zero, List.getElem?_cons_succ] at q0
  by_cases hin : i < pts.length
  case pos =>
    have k1 : decide ((i : Int) < (pts.length : Int)) = true := decide_eq_true (by omega)
    have k2 : (0 : Int) ≤ i := by omega
    have k3 : (i : Int) < (pts.length : Int) := by omega
    obtain ⟨a, rfl, -, cs, -, hc0, hcj, rfl, b0, b1⟩ := (H3.out.mod RPoint.stay HI.out.mod).at i hin
    have d0 := hc0 (by decide)
    have d1 := hcj 1 (by decide) (by decide)
    have d2 := hcj 2 (by decide) (by decide)
    simp only [List.getElem?_cons_zero, List.getElem?_cons_succ] at d0 d1 d2
    have ei : IntKind.i64.wrap ((i : Int) + 1) = (i : Int) + 1 := IntWalk.i64_in _ (by have := HSM.out; omega)
    have HNX := Lib.hid (Pr.run_take Pr.ptF (Pr.s0 ⟨name, adv, mark, pts, ends, parts, anchors, deltas, hint⟩) pts i hin)
    have y0 := Pr.take_size Pr.ptF 46 Pr.ptF_size pts (Pr.s0 ⟨name, adv, mark, pts, ends, parts, anchors, deltas, hint⟩) i
    have y1 := HZ.out
    have y2 := HSM.out
    have u0 := Pr.dig_size (pts[i]).x
    have u1 := Pr.dig_size (pts[i]).y
    have u2 := Pr.yes_size (pts[i]).on
    have z0 : ¬ 9223372036854775807 < (Pr.run Pr.ptF (Pr.s0 ⟨name, adv, mark, pts, ends, parts, anchors, deltas, hint⟩) (pts.take i)).size + (Pr.dig (pts[i]).x).size := by omega
    have z1 : ¬ 9223372036854775807 < (Pr.run Pr.ptF (Pr.s0 ⟨name, adv, mark, pts, ends, parts, anchors, deltas, hint⟩) (pts.take i)).size + (Pr.dig (pts[i]).x).size + (Pr.dig (pts[i]).y).size := by omega
    have z2 : ¬ 9223372036854775807 < (Pr.run Pr.ptF (Pr.s0 ⟨name, adv, mark, pts, ends, parts, anchors, deltas, hint⟩) (pts.take i)).size + (Pr.dig (pts[i]).x).size + (Pr.dig (pts[i]).y).size + (Pr.yes (pts[i]).on).size := by omega
    change Hid (Pr.run Pr.ptF (Pr.s0 ⟨name, adv, mark, pts, ends, parts, anchors, deltas, hint⟩) (pts.take (i + 1)) = Pr.run Pr.ptF (Pr.s0 ⟨name, adv, mark, pts, ends, parts, anchors, deltas, hint⟩) (pts.take i) ++ Pr.dig (pts[i]).x ++ Pr.dig (pts[i]).y ++ Pr.yes (pts[i]).on) at HNX
    clear y0 y1 y2 u0 u1 u2 hc0 hcj
    generalize Pr.run Pr.ptF (Pr.s0 ⟨name, adv, mark, pts, ends, parts, anchors, deltas, hint⟩) (pts.take i) = si at *
    have X0 := Lib.hid (fun W => digits_any (pts[i]).x W b0)
    have X1 := Lib.hid (fun W => digits_any (pts[i]).y W b1)
    have X2 := Lib.hid (fun W => yes_any (pts[i]).on W)
    generalize Pr.dig (pts[i]).x = e0 at *
    generalize Pr.dig (pts[i]).y = e1 at *
    generalize Pr.yes (pts[i]).on = e2 at *
    generalize (pts[i]).x = p0 at *
    generalize (pts[i]).y = p1 at *
    generalize (pts[i]).on = p2 at *
    clear b0 b1 hin
    have T2 := Lib.hid (HI.out.alloc #[.int .i64 p0, .int .i64 p1, .bool p2] 74)
    go_upto_region 6 with fail
    clear d0 d1 d2 q0
    generalize wr.alloc (.cells #[.int .i64 p0, .int .i64 p1, .bool p2] 74) = W5 at *
    generalize wr.heap.size = b5 at *
    have A1 := (T2.out.at 1 rfl).every
    refine wp_region_mask 13 [true, true, true, true, true, true, true, true, true, true, true, true, true] [] (by kernel_rfl) (by kernel_rfl) (by simp) ?_
    simp only [pickM]
    iterate 3
     refine steady_go (a' := ?_) (by kernel_rfl) ?_ (fun w' hw' K Q hK => ?_) ?_
     rotate_left 2
     · go_wp2_with fail; exact hK _ (Mod.refl _ _)
     rotate_left
     · rfl
    refine steady_go (a' := ?_) (by kernel_rfl) ?_ (fun w' hw' K Q hK => ?_) ?_
    rotate_left 2
    · go_wp2_with fail
      refine ((calls_mod X0.out) _ hw').mono ?_
      rintro e w'' ⟨rfl, m''⟩
      go_wp2_with fail
      exact hK _ m''
    rotate_left
    · rfl
    iterate 3
     refine steady_go (a' := ?_) (by kernel_rfl) ?_ (fun w' hw' K Q hK => ?_) ?_
     rotate_left 2
     · go_wp2_with fail; exact hK _ (Mod.refl _ _)
     rotate_left
     · rfl
    refine steady_go (a' := ?_) (by kernel_rfl) ?_ (fun w' hw' K Q hK => ?_) ?_
    rotate_left 2
    · go_wp2_with fail
      refine ((calls_mod X1.out) _ hw').mono ?_
      rintro e w'' ⟨rfl, m''⟩
      go_wp2_with fail
      exact hK _ m''
    rotate_left
    · rfl
    iterate 3
     refine steady_go (a' := ?_) (by kernel_rfl) ?_ (fun w' hw' K Q hK => ?_) ?_
     rotate_left 2
     · go_wp2_with fail; exact hK _ (Mod.refl _ _)
     rotate_left
     · rfl
    refine steady_go (a' := ?_) (by kernel_rfl) ?_ (fun w' hw' K Q hK => ?_) ?_
    rotate_left 2
    · go_wp2_with fail
      refine ((calls_mod X2.out) _ hw').mono ?_
      rintro e w'' ⟨rfl, m''⟩
      go_wp2_with fail
      exact hK _ m''
    rotate_left
    · rfl
    refine steady_go (a' := ?_) (by kernel_rfl) ?_ (fun w' hw' K Q hK => ?_) ?_
    rotate_left 2
    · go_wp2_with fail; exact hK _ (Mod.refl _ _)
    rotate_left
    · rfl
    refine steady_done ?_
    refine lates_end (fun w' hw' _ => ?_)
    simp only [List.drop_succ_cons, List.drop_zero]
    have T3 := Lib.hid (T2.out.call hw')
    clear A1 hw' X0 X1 X2
    go_wp2_with fail
    go_roundg (gk - 1)
    case measure => have := hi.out; omega
    case rel => exact ⟨i + 1, by rw [HNX.out], by rw [Int.natCast_add]; rfl, by have := hi.out; show i + 1 + (gk - 1) = pts.length; omega, T3.out.left⟩
  obtain rfl : i = pts.length := by have := hi.out; omega
  have k1 : decide ((pts.length : Int) < (pts.length : Int)) = false := decide_eq_false (by omega)
  have EE : Pr.run Pr.ptF (Pr.s0 ⟨name, adv, mark, pts, ends, parts, anchors, deltas, hint⟩) (pts.take pts.length) = Pr.s1 ⟨name, adv, mark, pts, ends, parts, anchors, deltas, hint⟩ := by rw [List.take_length]; rfl
  rw [EE]
  clear EE hin
  have y0 := HZ.out
  have y1 := Pr.row_size ends
  have y2 := Pr.dig_size (parts.length : Int)
  have y3 := HSM.out
  have z1 : ¬ 9223372036854775807 < (Pr.s1 ⟨name, adv, mark, pts, ends, parts, anchors, deltas, hint⟩).size + (Pr.row ends).size := by omega
  have z2 : ¬ 9223372036854775807 < (Pr.s1 ⟨name, adv, mark, pts, ends, parts, anchors, deltas, hint⟩).size + (Pr.row ends).size + (Pr.dig (parts.length : Int)).size := by omega
  have E1 := Lib.hid (show Pr.s1 ⟨name, adv, mark, pts, ends, parts, anchors, deltas, hint⟩ ++ Pr.row ends ++ Pr.dig (parts.length : Int) = Pr.s2 ⟨name, adv, mark, pts, ends, parts, anchors, deltas, hint⟩ from rfl)
  clear y0 y1 y2 y3
  go_upto_region 7 with fail
  clear q0 k1 hi
  have A0 := (HI.out.at 0 rfl).every
  refine wp_region_mask 11 [true, true, true, true, true, true, true, true, true, true, true] [] (by kernel_rfl) (by kernel_rfl) (by simp) ?_
  simp only [pickM]
  iterate 4
   refine steady_go (a' := ?_) (by kernel_rfl) ?_ (fun w' hw' K Q hK => ?_) ?_
   rotate_left 2
   · go_wp2_with fail; exact hK _ (Mod.refl _ _)
   rotate_left
   · rfl
  refine steady_go (a' := ?_) (by kernel_rfl) ?_ (fun w' hw' K Q hK => ?_) ?_
  rotate_left 2
  · go_wp2_with fail
    refine ((fun W m => HEN.out W (HI.out.mod.then m)) _ hw').mono ?_
    rintro e w'' ⟨rfl, m''⟩
    go_wp2_with fail
    exact hK _ m''
  rotate_left
  · rfl
  iterate 4
   refine steady_go (a' := ?_) (by kernel_rfl) ?_ (fun w' hw' K Q hK => ?_) ?_
   rotate_left 2
   · go_wp2_with fail; exact hK _ (Mod.refl _ _)
   rotate_left
   · rfl
  refine steady_go (a' := ?_) (by kernel_rfl) ?_ (fun w' hw' K Q hK => ?_) ?_
  rotate_left 2
  · go_wp2_with fail
    refine ((calls_mod D5.out) _ hw').mono ?_
    rintro e w'' ⟨rfl, m''⟩
    go_wp2_with fail
    exact hK _ m''
  rotate_left
  · rfl
  refine steady_go (a' := ?_) (by kernel_rfl) ?_ (fun w' hw' K Q hK => ?_) ?_
  rotate_left 2
  · go_wp2_with fail; exact hK _ (Mod.refl _ _)
  rotate_left
  · rfl
  refine steady_done ?_
  refine lates_end (fun w' hw' _ => ?_)
  simp only [List.drop_succ_cons, List.drop_zero]
  have T1 := Lib.hid (HI.out.call hw')
  clear A0 HI hw' z1 z2
  go_wp2_with fail
  generalize gk = gk0 at *
  go_loopg [3, 6] parts.length (fun gk s3 s4 wr => ∃ i : Nat, s3 = .string (Pr.run Pr.partF (Pr.s2 ⟨name, adv, mark, pts, ends, parts, anchors, deltas, hint⟩) (parts.take i)) ∧ s4 = .int .i64 (i : Int) ∧ Hid (i + gk = parts.length) ∧ Hid (Own w wr [(w.heap.size, #[.string name, .int .i64 adv, .bool mark, .slice o3 pts.length c3, .slice o4 ends.length c4, .slice o5 parts.length c5, .slice o6 anchors.length c6, .slice o7 deltas.length c7, .slice o8 hint.length c8], 44)]))
  case atStart => exact ⟨0, by first | rfl | (rw [E1.out]; rfl), rfl, by show 0 + parts.length = parts.length; omega, T1.out⟩
  obtain ⟨i, rfl, rfl, hi, HI⟩ := hrel
  clear T1 E1
  have q0 := (HI.out.at 0 rfl).cell 5
  simp only [List.getElem?_toArray, List.getElem?_cons_zero, List.getElem?_cons_succ] at q0
  by_cases hin : i < parts.length
  case pos =>
    have k1 : decide ((i : Int) < (parts.length : Int)) = true := decide_eq_true (by omega)
    have k2 : (0 : Int) ≤ i := by omega
    have k3 : (i : Int) < (parts.length : Int) := by omega
    obtain ⟨a, rfl, -, cs, -, hc0, hcj, rfl, b0, b1, b2⟩ := (H5.out.mod RPart.stay HI.out.mod).at i hin
    have d0 := hc0 (by decide)
    have d1 := hcj 1 (by decide) (by decide)
    have d2 := hcj 2 (by decide) (by decide)
    simp only [List.getElem?_cons_zero, List.getElem?_cons_succ] at d0 d1 d2
    have ei : IntKind.i64.wrap ((i : Int) + 1) = (i : Int) + 1 := IntWalk.i64_in _ (by have := HSM.out; omega)
    have HNX := Lib.hid (Pr.run_take Pr.partF (Pr.s2 ⟨name, adv, mark, pts, ends, parts, anchors, deltas, hint⟩) parts i hin)
    have y0 := Pr.take_size Pr.partF 66 Pr.partF_size parts (Pr.s2 ⟨name, adv, mark, pts, ends, parts, anchors, deltas, hint⟩) i
    have y1 := HZ.out
    have y2 := HSM.out
    have u0 := Pr.dig_size (parts[i]).glyph
    have u1 := Pr.dig_size (parts[i]).x
    have u2 := Pr.dig_size (parts[i]).y
    have z0 : ¬ 9223372036854775807 < (Pr.run Pr.partF (Pr.s2 ⟨name, adv, mark, pts, ends, parts, anchors, deltas, hint⟩) (parts.take i)).size + (Pr.dig (parts[i]).glyph).size := by omega
    have z1 : ¬ 9223372036854775807 < (Pr.run Pr.partF (Pr.s2 ⟨name, adv, mark, pts, ends, parts, anchors, deltas, hint⟩) (parts.take i)).size + (Pr.dig (parts[i]).glyph).size + (Pr.dig (parts[i]).x).size := by omega
    have z2 : ¬ 9223372036854775807 < (Pr.run Pr.partF (Pr.s2 ⟨name, adv, mark, pts, ends, parts, anchors, deltas, hint⟩) (parts.take i)).size + (Pr.dig (parts[i]).glyph).size + (Pr.dig (parts[i]).x).size + (Pr.dig (parts[i]).y).size := by omega
    change Hid (Pr.run Pr.partF (Pr.s2 ⟨name, adv, mark, pts, ends, parts, anchors, deltas, hint⟩) (parts.take (i + 1)) = Pr.run Pr.partF (Pr.s2 ⟨name, adv, mark, pts, ends, parts, anchors, deltas, hint⟩) (parts.take i) ++ Pr.dig (parts[i]).glyph ++ Pr.dig (parts[i]).x ++ Pr.dig (parts[i]).y) at HNX
    clear y0 y1 y2 u0 u1 u2 hc0 hcj
    generalize Pr.run Pr.partF (Pr.s2 ⟨name, adv, mark, pts, ends, parts, anchors, deltas, hint⟩) (parts.take i) = si at *
    have X0 := Lib.hid (fun W => digits_any (parts[i]).glyph W b0)
    have X1 := Lib.hid (fun W => digits_any (parts[i]).x W b1)
    have X2 := Lib.hid (fun W => digits_any (parts[i]).y W b2)
    generalize Pr.dig (parts[i]).glyph = e0 at *
    generalize Pr.dig (parts[i]).x = e1 at *
    generalize Pr.dig (parts[i]).y = e2 at *
    generalize (parts[i]).glyph = p0 at *
    generalize (parts[i]).x = p1 at *
    generalize (parts[i]).y = p2 at *
    clear b0 b1 b2 hin
    have Y0 : ∀ W, Mod [] wr W → W.cell? (a.add (i * 3)) = some (.int .i64 p0) := fun W m => cell_stays m d0
    have Y1 : ∀ W, Mod [] wr W → W.cell? ⟨(a.add (i * 3)).block, (a.add (i * 3)).off + 1, none⟩ = some (.int .i64 p1) := fun W m => cell_stays m d1
    have Y2 : ∀ W, Mod [] wr W → W.cell? ⟨(a.add (i * 3)).block, (a.add (i * 3)).off + 2, none⟩ = some (.int .i64 p2) := fun W m => cell_stays m d2
    have A1 := (HI.out.at 0 rfl).every
    go_upto_region 11 with fail
    clear d0 d1 d2 q0
    refine wp_region_mask 25 [true, true, true, true, true, true, true, true, true, true, true, true, true, true, true, true, true, true, true, true, true, true, true, true, true] [] (by kernel_rfl) (by kernel_rfl) (by simp) ?_
    simp only [pickM]
    iterate 7
     refine steady_go (a' := ?_) (by kernel_rfl) ?_ (fun w' hw' K Q hK => ?_) ?_
     rotate_left 2
     · go_wp2_with fail; exact hK _ (Mod.refl _ _)
     rotate_left
     · rfl
    refine steady_go (a' := ?_) (by kernel_rfl) ?_ (fun w' hw' K Q hK => ?_) ?_
    rotate_left 2
    · go_wp2_with fail
      refine ((calls_mod X0.out) _ hw').mono ?_
      rintro e w'' ⟨rfl, m''⟩
      go_wp2_with fail
      exact hK _ m''
    rotate_left
    · rfl
    iterate 7
     refine steady_go (a' := ?_) (by kernel_rfl) ?_ (fun w' hw' K Q hK => ?_) ?_
     rotate_left 2
     · go_wp2_with fail; exact hK _ (Mod.refl _ _)
     rotate_left
     · rfl
    refine steady_go (a' := ?_) (by kernel_rfl) ?_ (fun w' hw' K Q hK => ?_) ?_
    rotate_left 2
    · go_wp2_with fail
      refine ((calls_mod X1.out) _ hw').mono ?_
      rintro e w'' ⟨rfl, m''⟩
      go_wp2_with fail
      exact hK _ m''
    rotate_left
    · rfl
    iterate 7
     refine steady_go (a' := ?_) (by kernel_rfl) ?_ (fun w' hw' K Q hK => ?_) ?_
     rotate_left 2
     · go_wp2_with fail; exact hK _ (Mod.refl _ _)
     rotate_left
     · rfl
    refine steady_go (a' := ?_) (by kernel_rfl) ?_ (fun w' hw' K Q hK => ?_) ?_
    rotate_left 2
    · go_wp2_with fail
      refine ((calls_mod X2.out) _ hw').mono ?_
      rintro e w'' ⟨rfl, m''⟩
      go_wp2_with fail
      exact hK _ m''
    rotate_left
    · rfl
    refine steady_go (a' := ?_) (by kernel_rfl) ?_ (fun w' hw' K Q hK => ?_) ?_
    rotate_left 2
    · go_wp2_with fail; exact hK _ (Mod.refl _ _)
    rotate_left
    · rfl
    refine steady_done ?_
    refine lates_end (fun w' hw' _ => ?_)
    simp only [List.drop_succ_cons, List.drop_zero]
    have T3 := Lib.hid (HI.out.call hw')
    clear A1 Y0 Y1 Y2 hw' X0 X1 X2
    go_wp2_with fail
    go_roundg (gk - 1)
    case measure => have := hi.out; omega
    case rel => exact ⟨i + 1, by rw [HNX.out], by rw [Int.natCast_add]; rfl, by have := hi.out; show i + 1 + (gk - 1) = parts.length; omega, T3.out⟩
  obtain rfl : i = parts.length := by have := hi.out; omega
  have k1 : decide ((parts.length : Int) < (parts.length : Int)) = false := decide_eq_false (by omega)
  have EE : Pr.run Pr.partF (Pr.s2 ⟨name, adv, mark, pts, ends, parts, anchors, deltas, hint⟩) (parts.take parts.length) = Pr.s3 ⟨name, adv, mark, pts, ends, parts, anchors, deltas, hint⟩ := by rw [List.take_length]; rfl
  rw [EE]
  clear EE hin
  have y0 := HZ.out
  have y1 := Pr.dig_size (anchors.length : Int)
  have z1 : ¬ 9223372036854775807 < (Pr.s3 ⟨name, adv, mark, pts, ends, parts, anchors, deltas, hint⟩).size + (Pr.dig (anchors.length : Int)).size := by omega
  have E2 := Lib.hid (show Pr.s3 ⟨name, adv, mark, pts, ends, parts, anchors, deltas, hint⟩ ++ Pr.dig (anchors.length : Int) = Pr.s4 ⟨name, adv, mark, pts, ends, parts, anchors, deltas, hint⟩ from rfl)
  have q1 := (HI.out.at 0 rfl).cell 6
  simp only [List.getElem?_toArray, List.getElem?_cons_zero, List.getElem?_cons_succ] at q1
  clear y0 y1
  go_wp2_with fail
  refine (D6.out _).mono ?_
  rintro e w' ⟨rfl, m'⟩
  have T1 := Lib.hid (HI.out.call m')
  clear q0 q1 k1 hi HI m'
  go_wp2_with fail
  generalize gk = gk1 at *
  go_loopg [3, 7] anchors.length (fun gk s3 s4 wr => ∃ i : Nat, s3 = .string (Pr.run Pr.anchorF (Pr.s4 ⟨name, adv, mark, pts, ends, parts, anchors, deltas, hint⟩) (anchors.take i)) ∧ s4 = .int .i64 (i : Int) ∧ Hid (i + gk = anchors.length) ∧ Hid (Own w wr [(w.heap.size, #[.string name, .int .i64 adv, .bool mark, .slice o3 pts.length c3, .slice o4 ends.length c4, .slice o5 parts.length c5, .slice o6 anchors.length c6, .slice o7 deltas.length c7, .slice o8 hint.length c8], 44)]))
  case atStart => exact ⟨0, by first | rfl | (rw [E2.out]; rfl), rfl, by show 0 + anchors.length = anchors.length; omega, T1.out⟩
  obtain ⟨i, rfl, rfl, hi, HI⟩ := hrel
  clear T1 E2
  have q0 := (HI.out.at 0 rfl).cell 6
  simp only [List.getElem?_toArray, List.getElem?_cons_zero, List.getElem?_cons_succ] at q0
  by_cases hin : i < anchors.length
  case pos =>
    have k1 : decide ((i : Int) < (anchors.length : Int)) = true := decide_eq_true (by omega)
    have k2 : (0 : Int) ≤ i := by omega
    have k3 : (i : Int) < (anchors.length : Int) := by omega
    obtain ⟨a, rfl, -, cs, -, hc0, hcj, rfl, b0, b1, b2, b3⟩ := (H6.out.mod RAnchor.stay HI.out.mod).at i hin
    have d0 := hc0 (by decide)
    have d1 := hcj 1 (by decide) (by decide)
    have d2 := hcj 2 (by decide) (by decide)
    have d3 := hcj 3 (by decide) (by decide)
    simp only [List.getElem?_cons_zero, List.getElem?_cons_succ] at d0 d1 d2 d3
    have ei : IntKind.i64.wrap ((i : Int) + 1) = (i : Int) + 1 := IntWalk.i64_in _ (by have := HSM.out; omega)
    have HNX := Lib.hid (Pr.run_take Pr.anchorF (Pr.s4 ⟨name, adv, mark, pts, ends, parts, anchors, deltas, hint⟩) anchors i hin)
    have y0 := Pr.take_size Pr.anchorF 88 Pr.anchorF_size anchors (Pr.s4 ⟨name, adv, mark, pts, ends, parts, anchors, deltas, hint⟩) i
    have y1 := HZ.out
    have y2 := HSM.out
    have u0 := Pr.dig_size (anchors[i]).kind
    have u1 := Pr.dig_size (anchors[i]).cls
    have u2 := Pr.dig_size (anchors[i]).x
    have u3 := Pr.dig_size (anchors[i]).y
    have z0 : ¬ 9223372036854775807 < (Pr.run Pr.anchorF (Pr.s4 ⟨name, adv, mark, pts, ends, parts, anchors, deltas, hint⟩) (anchors.take i)).size + (Pr.dig (anchors[i]).kind).size := by omega
    have z1 : ¬ 9223372036854775807 < (Pr.run Pr.anchorF (Pr.s4 ⟨name, adv, mark, pts, ends, parts, anchors, deltas, hint⟩) (anchors.take i)).size + (Pr.dig (anchors[i]).kind).size + (Pr.dig (anchors[i]).cls).size := by omega
    have z2 : ¬ 9223372036854775807 < (Pr.run Pr.anchorF (Pr.s4 ⟨name, adv, mark, pts, ends, parts, anchors, deltas, hint⟩) (anchors.take i)).size + (Pr.dig (anchors[i]).kind).size + (Pr.dig (anchors[i]).cls).size + (Pr.dig (anchors[i]).x).size := by omega
    have z3 : ¬ 9223372036854775807 < (Pr.run Pr.anchorF (Pr.s4 ⟨name, adv, mark, pts, ends, parts, anchors, deltas, hint⟩) (anchors.take i)).size + (Pr.dig (anchors[i]).kind).size + (Pr.dig (anchors[i]).cls).size + (Pr.dig (anchors[i]).x).size + (Pr.dig (anchors[i]).y).size := by omega
    change Hid (Pr.run Pr.anchorF (Pr.s4 ⟨name, adv, mark, pts, ends, parts, anchors, deltas, hint⟩) (anchors.take (i + 1)) = Pr.run Pr.anchorF (Pr.s4 ⟨name, adv, mark, pts, ends, parts, anchors, deltas, hint⟩) (anchors.take i) ++ Pr.dig (anchors[i]).kind ++ Pr.dig (anchors[i]).cls ++ Pr.dig (anchors[i]).x ++ Pr.dig (anchors[i]).y) at HNX
    clear y0 y1 y2 u0 u1 u2 u3 hc0 hcj
    generalize Pr.run Pr.anchorF (Pr.s4 ⟨name, adv, mark, pts, ends, parts, anchors, deltas, hint⟩) (anchors.take i) = si at *
    have X0 := Lib.hid (fun W => digits_any (anchors[i]).kind W b0)
    have X1 := Lib.hid (fun W => digits_any (anchors[i]).cls W b1)
    have X2 := Lib.hid (fun W => digits_any (anchors[i]).x W b2)
    have X3 := Lib.hid (fun W => digits_any (anchors[i]).y W b3)
    generalize Pr.dig (anchors[i]).kind = e0 at *
    generalize Pr.dig (anchors[i]).cls = e1 at *
    generalize Pr.dig (anchors[i]).x = e2 at *
    generalize Pr.dig (anchors[i]).y = e3 at *
    generalize (anchors[i]).kind = p0 at *
    generalize (anchors[i]).cls = p1 at *
    generalize (anchors[i]).x = p2 at *
    generalize (anchors[i]).y = p3 at *
    clear b0 b1 b2 b3 hin
    have T2 := Lib.hid (HI.out.alloc #[.int .i64 p0, .int .i64 p1, .int .i64 p2, .int .i64 p3] 81)
    go_upto_region 17 with fail
    clear d0 d1 d2 d3 q0
    generalize wr.alloc (.cells #[.int .i64 p0, .int .i64 p1, .int .i64 p2, .int .i64 p3] 81) = W5 at *
    generalize wr.heap.size = b5 at *
    have A1 := (T2.out.at 1 rfl).every
    refine wp_region_mask 17 [true, true, true, true, true, true, true, true, true, true, true, true, true, true, true, true, true] [] (by kernel_rfl) (by kernel_rfl) (by simp) ?_
    simp only [pickM]
    iterate 3
     refine steady_go (a' := ?_) (by kernel_rfl) ?_ (fun w' hw' K Q hK => ?_) ?_
     rotate_left 2
     · go_wp2_with fail; exact hK _ (Mod.refl _ _)
     rotate_left
     · rfl
    refine steady_go (a' := ?_) (by kernel_rfl) ?_ (fun w' hw' K Q hK => ?_) ?_
    rotate_left 2
    · go_wp2_with fail
      refine ((calls_mod X0.out) _ hw').mono ?_
      rintro e w'' ⟨rfl, m''⟩
      go_wp2_with fail
      exact hK _ m''
    rotate_left
    · rfl
    iterate 3
     refine steady_go (a' := ?_) (by kernel_rfl) ?_ (fun w' hw' K Q hK => ?_) ?_
     rotate_left 2
     · go_wp2_with fail; exact hK _ (Mod.refl _ _)
     rotate_left
     · rfl
    refine steady_go (a' := ?_) (by kernel_rfl) ?_ (fun w' hw' K Q hK => ?_) ?_
    rotate_left 2
    · go_wp2_with fail
      refine ((calls_mod X1.out) _ hw').mono ?_
      rintro e w'' ⟨rfl, m''⟩
      go_wp2_with fail
      exact hK _ m''
    rotate_left
    · rfl
    iterate 3
     refine steady_go (a' := ?_) (by kernel_rfl) ?_ (fun w' hw' K Q hK => ?_) ?_
     rotate_left 2
     · go_wp2_with fail; exact hK _ (Mod.refl _ _)
     rotate_left
     · rfl
    refine steady_go (a' := ?_) (by kernel_rfl) ?_ (fun w' hw' K Q hK => ?_) ?_
    rotate_left 2
    · go_wp2_with fail
      refine ((calls_mod X2.out) _ hw').mono ?_
      rintro e w'' ⟨rfl, m''⟩
      go_wp2_with fail
      exact hK _ m''
    rotate_left
    · rfl
    iterate 3
     refine steady_go (a' := ?_) (by kernel_rfl) ?_ (fun w' hw' K Q hK => ?_) ?_
     rotate_left 2
     · go_wp2_with fail; exact hK _ (Mod.refl _ _)
     rotate_left
     · rfl
    refine steady_go (a' := ?_) (by kernel_rfl) ?_ (fun w' hw' K Q hK => ?_) ?_
    rotate_left 2
    · go_wp2_with fail
      refine ((calls_mod X3.out) _ hw').mono ?_
      rintro e w'' ⟨rfl, m''⟩
      go_wp2_with fail
      exact hK _ m''
    rotate_left
    · rfl
    refine steady_go (a' := ?_) (by kernel_rfl) ?_ (fun w' hw' K Q hK => ?_) ?_
    rotate_left 2
    · go_wp2_with fail; exact hK _ (Mod.refl _ _)
    rotate_left
    · rfl
    refine steady_done ?_
    refine lates_end (fun w' hw' _ => ?_)
    simp only [List.drop_succ_cons, List.drop_zero]
    have T3 := Lib.hid (T2.out.call hw')
    clear A1 hw' X0 X1 X2 X3
    go_wp2_with fail
    go_roundg (gk - 1)
    case measure => have := hi.out; omega
    case rel => exact ⟨i + 1, by rw [HNX.out], by rw [Int.natCast_add]; rfl, by have := hi.out; show i + 1 + (gk - 1) = anchors.length; omega, T3.out.left⟩
  obtain rfl : i = anchors.length := by have := hi.out; omega
  have k1 : decide ((anchors.length : Int) < (anchors.length : Int)) = false := decide_eq_false (by omega)
  have EE : Pr.run Pr.anchorF (Pr.s4 ⟨name, adv, mark, pts, ends, parts, anchors, deltas, hint⟩) (anchors.take anchors.length) = Pr.s5 ⟨name, adv, mark, pts, ends, parts, anchors, deltas, hint⟩ := by rw [List.take_length]; rfl
  rw [EE]
  clear EE hin
  have y0 := HZ.out
  have y1 := Pr.dig_size (deltas.length : Int)
  have z1 : ¬ 9223372036854775807 < (Pr.s5 ⟨name, adv, mark, pts, ends, parts, anchors, deltas, hint⟩).size + (Pr.dig (deltas.length : Int)).size := by omega
  have E3 := Lib.hid (show Pr.s5 ⟨name, adv, mark, pts, ends, parts, anchors, deltas, hint⟩ ++ Pr.dig (deltas.length : Int) = Pr.s6 ⟨name, adv, mark, pts, ends, parts, anchors, deltas, hint⟩ from rfl)
  have q1 := (HI.out.at 0 rfl).cell 7
  simp only [List.getElem?_toArray, List.getElem?_cons_zero, List.getElem?_cons_succ] at q1
  clear y0 y1
  go_wp2_with fail
  refine (D7.out _).mono ?_
  rintro e w' ⟨rfl, m'⟩
  have T1 := Lib.hid (HI.out.call m')
  clear q0 q1 k1 hi HI m'
  go_wp2_with fail
  generalize gk = gk2 at *
  go_loopg [3, 9] deltas.length (fun gk s3 s4 wr => ∃ i : Nat, s3 = .string (Pr.run Pr.deltaF (Pr.s6 ⟨name, adv, mark, pts, ends, parts, anchors, deltas, hint⟩) (deltas.take i)) ∧ s4 = .int .i64 (i : Int) ∧ Hid (i + gk = deltas.length) ∧ Hid (Own w wr [(w.heap.size, #[.string name, .int .i64 adv, .bool mark, .slice o3 pts.length c3, .slice o4 ends.length c4, .slice o5 parts.length c5, .slice o6 anchors.length c6, .slice o7 deltas.length c7, .slice o8 hint.length c8], 44)]))
  case atStart => exact ⟨0, by first | rfl | (rw [E3.out]; rfl), rfl, by show 0 + deltas.length = deltas.length; omega, T1.out⟩
  obtain ⟨i, rfl, rfl, hi, HI⟩ := hrel
  clear T1 E3
  have q0 := (HI.out.at 0 rfl).cell 7
  simp only [List.getElem?_toArray, List.getElem?_cons_zero, List.getElem?_cons_succ] at q0
  by_cases hin : i < deltas.length
  case pos =>
    have k1 : decide ((i : Int) < (deltas.length : Int)) = true := decide_eq_true (by omega)
    have k2 : (0 : Int) ≤ i := by omega
    have k3 : (i : Int) < (deltas.length : Int) := by omega
    obtain ⟨a, rfl, -, cs, -, hc0, hcj, rfl, b0, b1, b2, b3⟩ := (H7.out.mod RDelta.stay HI.out.mod).at i hin
    have d0 := hc0 (by decide)
    have d1 := hcj 1 (by decide) (by decide)
    have d2 := hcj 2 (by decide) (by decide)
    have d3 := hcj 3 (by decide) (by decide)
    simp only [List.getElem?_cons_zero, List.getElem?_cons_succ] at d0 d1 d2 d3
    have ei : IntKind.i64.wrap ((i : Int) + 1) = (i : Int) + 1 := IntWalk.i64_in _ (by have := HSM.out; omega)
    have HNX := Lib.hid (Pr.run_take Pr.deltaF (Pr.s6 ⟨name, adv, mark, pts, ends, parts, anchors, deltas, hint⟩) deltas i hin)
    have y0 := Pr.take_size Pr.deltaF 88 Pr.deltaF_size deltas (Pr.s6 ⟨name, adv, mark, pts, ends, parts, anchors, deltas, hint⟩) i
    have y1 := HZ.out
    have y2 := HSM.out
    have u0 := Pr.dig_size (deltas[i]).region
    have u1 := Pr.dig_size (deltas[i]).point
    have u2 := Pr.dig_size (deltas[i]).x
    have u3 := Pr.dig_size (deltas[i]).y
    have z0 : ¬ 9223372036854775807 < (Pr.run Pr.deltaF (Pr.s6 ⟨name, adv, mark, pts, ends, parts, anchors, deltas, hint⟩) (deltas.take i)).size + (Pr.dig (deltas[i]).region).size := by omega
    have z1 : ¬ 9223372036854775807 < (Pr.run Pr.deltaF (Pr.s6 ⟨name, adv, mark, pts, ends, parts, anchors, deltas, hint⟩) (deltas.take i)).size + (Pr.dig (deltas[i]).region).size + (Pr.dig (deltas[i]).point).size := by omega
    have z2 : ¬ 9223372036854775807 < (Pr.run Pr.deltaF (Pr.s6 ⟨name, adv, mark, pts, ends, parts, anchors, deltas, hint⟩) (deltas.take i)).size + (Pr.dig (deltas[i]).region).size + (Pr.dig (deltas[i]).point).size + (Pr.dig (deltas[i]).x).size := by omega
    have z3 : ¬ 9223372036854775807 < (Pr.run Pr.deltaF (Pr.s6 ⟨name, adv, mark, pts, ends, parts, anchors, deltas, hint⟩) (deltas.take i)).size + (Pr.dig (deltas[i]).region).size + (Pr.dig (deltas[i]).point).size + (Pr.dig (deltas[i]).x).size + (Pr.dig (deltas[i]).y).size := by omega
    change Hid (Pr.run Pr.deltaF (Pr.s6 ⟨name, adv, mark, pts, ends, parts, anchors, deltas, hint⟩) (deltas.take (i + 1)) = Pr.run Pr.deltaF (Pr.s6 ⟨name, adv, mark, pts, ends, parts, anchors, deltas, hint⟩) (deltas.take i) ++ Pr.dig (deltas[i]).region ++ Pr.dig (deltas[i]).point ++ Pr.dig (deltas[i]).x ++ Pr.dig (deltas[i]).y) at HNX
    clear y0 y1 y2 u0 u1 u2 u3 hc0 hcj
    generalize Pr.run Pr.deltaF (Pr.s6 ⟨name, adv, mark, pts, ends, parts, anchors, deltas, hint⟩) (deltas.take i) = si at *
    have X0 := Lib.hid (fun W => digits_any (deltas[i]).region W b0)
    have X1 := Lib.hid (fun W => digits_any (deltas[i]).point W b1)
    have X2 := Lib.hid (fun W => digits_any (deltas[i]).x W b2)
    have X3 := Lib.hid (fun W => digits_any (deltas[i]).y W b3)
    generalize Pr.dig (deltas[i]).region = e0 at *
    generalize Pr.dig (deltas[i]).point = e1 at *
    generalize Pr.dig (deltas[i]).x = e2 at *
    generalize Pr.dig (deltas[i]).y = e3 at *
    generalize (deltas[i]).region = p0 at *
    generalize (deltas[i]).point = p1 at *
    generalize (deltas[i]).x = p2 at *
    generalize (deltas[i]).y = p3 at *
    clear b0 b1 b2 b3 hin
    have T2 := Lib.hid (HI.out.alloc #[.int .i64 p0, .int .i64 p1, .int .i64 p2, .int .i64 p3] 83)
    go_upto_region 23 with fail
    clear d0 d1 d2 d3 q0
    generalize wr.alloc (.cells #[.int .i64 p0, .int .i64 p1, .int .i64 p2, .int .i64 p3] 83) = W5 at *
    generalize wr.heap.size = b5 at *
    have A1 := (T2.out.at 1 rfl).every
    refine wp_region_mask 17 [true, true, true, true, true, true, true, true, true, true, true, true, true, true, true, true, true] [] (by kernel_rfl) (by kernel_rfl) (by simp) ?_
    simp only [pickM]
    iterate 3
     refine steady_go (a' := ?_) (by kernel_rfl) ?_ (fun w' hw' K Q hK => ?_) ?_
     rotate_left 2
     · go_wp2_with fail; exact hK _ (Mod.refl _ _)
     rotate_left
     · rfl
    refine steady_go (a' := ?_) (by kernel_rfl) ?_ (fun w' hw' K Q hK => ?_) ?_
    rotate_left 2
    · go_wp2_with fail
      refine ((calls_mod X0.out) _ hw').mono ?_
      rintro e w'' ⟨rfl, m''⟩
      go_wp2_with fail
      exact hK _ m''
    rotate_left
    · rfl
    iterate 3
     refine steady_go (a' := ?_) (by kernel_rfl) ?_ (fun w' hw' K Q hK => ?_) ?_
     rotate_left 2
     · go_wp2_with fail; exact hK _ (Mod.refl _ _)
     rotate_left
     · rfl
    refine steady_go (a' := ?_) (by kernel_rfl) ?_ (fun w' hw' K Q hK => ?_) ?_
    rotate_left 2
    · go_wp2_with fail
      refine ((calls_mod X1.out) _ hw').mono ?_
      rintro e w'' ⟨rfl, m''⟩
      go_wp2_with fail
      exact hK _ m''
    rotate_left
    · rfl
    iterate 3
     refine steady_go (a' := ?_) (by kernel_rfl) ?_ (fun w' hw' K Q hK => ?_) ?_
     rotate_left 2
     · go_wp2_with fail; exact hK _ (Mod.refl _ _)
     rotate_left
     · rfl
    refine steady_go (a' := ?_) (by kernel_rfl) ?_ (fun w' hw' K Q hK => ?_) ?_
    rotate_left 2
    · go_wp2_with fail
      refine ((calls_mod X2.out) _ hw').mono ?_
      rintro e w'' ⟨rfl, m''⟩
      go_wp2_with fail
      exact hK _ m''
    rotate_left
    · rfl
    iterate 3
     refine steady_go (a' := ?_) (by kernel_rfl) ?_ (fun w' hw' K Q hK => ?_) ?_
     rotate_left 2
     · go_wp2_with fail; exact hK _ (Mod.refl _ _)
     rotate_left
     · rfl
    refine steady_go (a' := ?_) (by kernel_rfl) ?_ (fun w' hw' K Q hK => ?_) ?_
    rotate_left 2
    · go_wp2_with fail
      refine ((calls_mod X3.out) _ hw').mono ?_
      rintro e w'' ⟨rfl, m''⟩
      go_wp2_with fail
      exact hK _ m''
    rotate_left
    · rfl
    refine steady_go (a' := ?_) (by kernel_rfl) ?_ (fun w' hw' K Q hK => ?_) ?_
    rotate_left 2
    · go_wp2_with fail; exact hK _ (Mod.refl _ _)
    rotate_left
    · rfl
    refine steady_done ?_
    refine lates_end (fun w' hw' _ => ?_)
    simp only [List.drop_succ_cons, List.drop_zero]
    have T3 := Lib.hid (T2.out.call hw')
    clear A1 hw' X0 X1 X2 X3
    go_wp2_with fail
    go_roundg (gk - 1)
    case measure => have := hi.out; omega
    case rel => exact ⟨i + 1, by rw [HNX.out], by rw [Int.natCast_add]; rfl, by have := hi.out; show i + 1 + (gk - 1) = deltas.length; omega, T3.out.left⟩
  obtain rfl : i = deltas.length := by have := hi.out; omega
  have k1 : decide ((deltas.length : Int) < (deltas.length : Int)) = false := decide_eq_false (by omega)
  have EE : Pr.run Pr.deltaF (Pr.s6 ⟨name, adv, mark, pts, ends, parts, anchors, deltas, hint⟩) (deltas.take deltas.length) = Pr.s7 ⟨name, adv, mark, pts, ends, parts, anchors, deltas, hint⟩ := by rw [List.take_length]; rfl
  rw [EE]
  clear EE hin
  have y0 := HZ.out
  have y1 := Pr.code_size hint
  have y2 := HSM.out
  have z1 : ¬ 9223372036854775807 < (Pr.s7 ⟨name, adv, mark, pts, ends, parts, anchors, deltas, hint⟩).size + (Pr.code hint).size := by omega
  have q1 := (HI.out.at 0 rfl).cell 8
  simp only [List.getElem?_toArray, List.getElem?_cons_zero, List.getElem?_cons_succ] at q1
  clear y0 y1 y2
  go_wp2_with fail
  refine (HHI.out _ HI.out.mod).mono ?_
  rintro e w' ⟨rfl, m'⟩
  have T1 := Lib.hid (HI.out.call m')
  clear q0 q1 k1 hi HI m'
  go_wp2_with fail
  go_ret
  exact ⟨rfl, T1.out.mod⟩
end Go.Proofs.Ytaloembfekdkoaa

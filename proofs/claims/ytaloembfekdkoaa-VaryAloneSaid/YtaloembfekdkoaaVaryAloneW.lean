/- VaryAlone: the walk. -/
import Derived.Test.YtaloembfekdkoaaGAlone
import Derived.Test.YtaloembfekdkoaaVaried
namespace Go.Proofs.Ytaloembfekdkoaa
open Go.RowKit
set_option linter.unusedVariables false
set_option maxRecDepth 100000
theorem steady_passU {P : Program} {ops : Array Oper} {W : World} {K : Act → Prop} {l : List Oper} {a a' : Act} {o : Oper} (hg : Region.wanted o (yielded ops a.tmps) = false) (hp : a.put o.dst undef = a') (hr : WSteady P ops W K l a') : WSteady P ops W K (o :: l) a := by
  refine ⟨?_⟩
  unfold wpSteadyL
  rw [if_neg (by rw [hg]; exact Bool.false_ne_true), hp]
  exact hr.out
theorem glyphs_at {B : Nat} {W : World} {oa : Option Addr} {n c : Nat} {l : List DGlyph} (h : Rows 9 RGlyph B W (.slice oa n c) l) : GlyphsAt W oa n := by
  obtain ⟨oa', c', he, _, h⟩ := h
  cases he
  intro i hi
  obtain ⟨a, ha, _, cs, _, hc, v3, v4, v5, v6, v7, v8, rfl, hn, had, h3, h4, h5, h6, h7, h8⟩ := h i hi
  obtain ⟨p3, c3, rfl, m3⟩ := h3.form
  obtain ⟨p7, c7, rfl, m7⟩ := h7.form
  exact ⟨a, ha, p3, _, c3, p7, _, c7, hc 3 (by omega), hc 7 (by omega), m3, m7⟩
theorem big_font (u : Int) (g c l fe ax rg fu cv : Hd) {B : Nat} {gs : List DGlyph} (w : World) (h : Rows 9 RGlyph B w (.slice g.a g.n g.c) gs) : Calls Try.prog 4 #[.agg (fontCells u g c l fe ax rg fu cv)] w fun e w' => ∃ v, e = .returned v ∧ Mod [] w w' ∧ BigRes v ax.n :=
  big_any u (fun | 1 => g.a | 2 => c.a | 3 => l.a | 4 => fe.a | 5 => ax.a | 6 => rg.a | 7 => fu.a | 8 => cv.a | _ => none) (fun | 1 => g.n | 2 => c.n | 3 => l.n | 4 => fe.n | 5 => ax.n | 6 => rg.n | 7 => fu.n | 8 => cv.n | _ => 0) (fun | 1 => g.c | 2 => c.c | 3 => l.c | 4 => fe.c | 5 => ax.c | 6 => rg.c | 7 => fu.c | 8 => cv.c | _ => 0) w (glyphs_at h)
set_option maxHeartbeats 8000000 in
theorem alone_walk (u : Int) (g c l fe ax rg fu cv pl : Hd) (F : DFont) (hu : u = F.unit) (xs : List Int) (w : World) (hF : RFont 0 w (fontCells u g c l fe ax rg fu cv).toList F) (hq : QFont F) (hP : Rows 1 RInt 0 w (.slice pl.a pl.n pl.c) xs) :
    Calls Try.prog 3 #[.agg (fontCells u g c l fe ax rg fu cv), .slice pl.a pl.n pl.c] w fun e w' => e = .returned (.bool true) ∧ Below w.heap.size w w' := by
  have hF0 := hF
  obtain ⟨w1, w2, w3, w4, w5, w6, w7, w8, hc, hu', hGl, hCh, hLo, hFe, hAx, hRe, hFu, hCv⟩ := hF
  unfold fontCells at hc
  simp only [List.cons.injEq, and_true] at hc
  obtain ⟨-, rfl, rfl, rfl, rfl, rfl, rfl, rfl, rfl⟩ := hc
  have hgn : g.n = F.glyphs.length := by obtain ⟨_, _, he, _⟩ := hGl; simp at he; omega
  have han : ax.n = F.axes.length := by obtain ⟨_, _, he, _⟩ := hAx; simp at he; omega
  have hpn : pl.n = xs.length := by obtain ⟨_, _, he, _⟩ := hP; simp at he; omega
  have HBIG := Lib.hid (fun W (m : Mod [] w W) => big_font u g c l fe ax rg fu cv W (hGl.mod RGlyph.stay m))
  have HFONT := Lib.hid (fun W (m : Mod [] w W) (h6 : F.axes.length ≤ 6) => vfont_any u g c l fe ax rg fu cv pl F hu xs 0 0 W (RFont.stay _ _ _ _ _ hF0 (m.above 0)) h6 (hP.mod RInt.stay m) hq.fsmall)
  have HGLY := Lib.hid (fun W (m : Mod [] w W) (h6 : F.axes.length ≤ 6) i gl (hgl : F.glyphs[i]? = some gl) => vglyph_any u g c l fe ax rg fu cv pl F.glyphs F.regions F.axes xs 0 0 W i gl hgl (hGl.mod RGlyph.stay m) (hRe.mod RRegion.stay m) (hAx.mod RAxis.stay m) h6 (hP.mod RInt.stay m) (hq.1.2 gl (List.mem_of_getElem? hgl)).psmall.gsmall)
  have HNOR := Lib.hid (fun W (m : Mod [] w W) (h6 : F.axes.length ≤ 6) => normal_any u g c l fe ax rg fu cv pl F.axes xs 0 0 W (hAx.mod RAxis.stay m) h6 (hP.mod RInt.stay m))
  have HPS := Lib.hid (fun gl (h : gl ∈ F.glyphs) => (hq.1.2 gl h).psmall)
  have HLN := Lib.hid (And.intro hgn (And.intro hq.1.1 hP.form))
  have HAN := Lib.hid han
  clear han
  have T := Lib.hid (own1 w (fontCells u g c l fe ax rg fu cv) 31)
  clear hF0 hGl hCh hLo hFe hAx hRe hFu hCv hq hP hu hu'
  obtain ⟨pa, pn, pc⟩ := pl
  obtain ⟨ga, gn, gcc⟩ := g
  simp only at hpn hgn
  subst hpn hgn
  unfold fontCells at *
  simp only at *
  go_enter Try.func3, Try.ntmps3
  go_upto_region 1 with fail
  generalize w.alloc (.cells #[.int .i64 u, .slice ga F.glyphs.length gcc, .slice c.a c.n c.c, .slice l.a l.n l.c, .slice fe.a fe.n fe.c, .slice ax.a ax.n ax.c, .slice rg.a rg.n rg.c, .slice fu.a fu.n fu.c, .slice cv.a cv.n cv.c] 31) = W0 at *
  have f1 := fun i => (T.out.at 0 rfl).cell i
  go_wp2_with fail
  refine (HBIG.out _ T.out.mod).mono ?_
  rintro e W1 ⟨v, rfl, m1, bb, rfl, hb6⟩
  have T1 := Lib.hid (T.out.call m1)
  clear m1 T f1 HBIG
  cases bb with
  | true =>
    go_wp2_with fail
    go_ret
    exact ⟨rfl, T1.out.mod.to_below⟩
  | false =>
    have H6 := Lib.hid (show F.axes.length ≤ 6 by rw [← HAN.out]; exact hb6 rfl)
    clear hb6
    by_cases h20 : 20 < xs.length
    · have h20' : (20 : Int) < (xs.length : Int) := by omega
      go_wp2_with fail
      go_ret
      exact ⟨rfl, T1.out.mod.to_below⟩
    have h20' : ¬ (20 : Int) < (xs.length : Int) := by omega
    have f1 := fun i => (T1.out.at 0 rfl).cell i
    go_wp2_with fail
    refine (HFONT.out _ T1.out.mod H6.out).mono ?_
    rintro e W2 ⟨m2, hr2⟩
    have T2 := Lib.hid (T1.out.call m2)
    clear m2 T1 f1 HFONT h20 h20'
    cases hfr : Vr.fontR F xs with
    | error k =>
      rw [hfr] at hr2
      obtain rfl : e = .returned (.tuple #[.agg zeroFontL.toArray, .int .i64 k]) := hr2
      have hk := fontR_ne hfr
      have HFR := Lib.hid hfr
      have T3 := Lib.hid (T2.out.alloc zeroFontL.toArray 31)
      have k1 : (k != 0) = true := by simpa using hk
      have k2 : (k == 0) = false := by simpa using hk
      have HK := Lib.hid hk
      clear hfr hk
      unfold zeroFontL at T3 ⊢
      go_upto_region 4 with fail
      generalize W2.alloc (.cells #[.int .i64 0, .slice none 0 0, .slice none 0 0, .slice none 0 0, .slice none 0 0, .slice none 0 0, .slice none 0 0, .slice none 0 0, .slice none 0 0] 31) = W3 at *
      generalize W2.heap.size = ab at *
      go_wp2_with fail
      go_loopg [7] F.glyphs.length (fun gk s7 wr => ∃ i : Nat, s7 = .int .i64 (i : Int) ∧ Hid (i + gk = F.glyphs.length) ∧ Hid (Own w wr [(w.heap.size, #[.int .i64 u, .slice ga F.glyphs.length gcc, .slice c.a c.n c.c, .slice l.a l.n l.c, .slice fe.a fe.n fe.c, .slice ax.a ax.n ax.c, .slice rg.a rg.n rg.c, .slice fu.a fu.n fu.c, .slice cv.a cv.n cv.c], 31), (ab, #[.int .i64 0, .slice none 0 0, .slice none 0 0, .slice none 0 0, .slice none 0 0, .slice none 0 0, .slice none 0 0, .slice none 0 0, .slice none 0 0], 31)]) ∧ Hid (∀ (j : Nat) (x : DGlyph), j < i → F.glyphs[j]? = some x → ∃ y, Vr.atGlyph F.axes F.regions xs x = .ok y))
      case atStart => exact ⟨0, rfl, by show 0 + F.glyphs.length = F.glyphs.length; omega, T3.out, fun j x h => absurd h (Nat.not_lt_zero j)⟩
      obtain ⟨i, rfl, hi, HI, HB⟩ := hrel
      clear T3 T2
      have q1 := (HI.out.at 0 rfl).cell 1
      simp only [List.getElem?_toArray, List.getElem?_cons_zero, List.getElem?_cons_succ] at q1
      have f1 := fun i => (HI.out.at 0 rfl).cell i
      by_cases hin : i < F.glyphs.length
      · have k3 : decide ((i : Int) < (F.glyphs.length : Int)) = true := decide_eq_true (by omega)
        have k4 : (i : Int) < (F.glyphs.length : Int) := by omega
        obtain ⟨gl, hgl⟩ : ∃ gl, F.glyphs[i]? = some gl := ⟨_, List.getElem?_eq_getElem hin⟩
        have HGL := Lib.hid hgl
        have HLT := Lib.hid hin
        clear hgl hin
        go_wp2_with fail
        refine (HGLY.out _ HI.out.mod H6.out i gl HGL.out).mono ?_
        rintro e W5 ⟨m5, hr5⟩
        have T5 := Lib.hid (HI.out.call m5)
        clear q1 f1 m5
        cases hat : Vr.atGlyph F.axes F.regions xs gl with
        | error k' =>
          rw [hat] at hr5
          obtain rfl : e = .returned (.tuple #[.agg zeroGlyphL.toArray, .int .i64 k']) := hr5
          have hkk := alone_err HGL.out HB.out hat
          rw [HFR.out] at hkk
          obtain rfl : k = k' := by cases hkk; rfl
          clear hat hkk
          have T6 := Lib.hid (T5.out.alloc zeroGlyphL.toArray 44)
          unfold zeroGlyphL at T6 ⊢
          go_upto_region 9 with fail
          generalize W5.alloc _ = W6 at *
          have q5 := (T6.out.at 1 rfl).cell 1
          simp only [List.getElem?_toArray, List.getElem?_cons_zero, List.getElem?_cons_succ] at q5
          go_wp2_with fail
          refine (varied_true _).mono ?_
          rintro e w7 ⟨rfl, m7⟩
          have T7 := Lib.hid (T6.out.call (Mod.of_below m7))
          clear q5 m7
          have q5 := (T7.out.at 1 rfl).cell 1
          simp only [List.getElem?_toArray, List.getElem?_cons_zero, List.getElem?_cons_succ] at q5
          go_wp2_with fail
          go_ret
          exact ⟨rfl, T7.out.mod.to_below⟩
        | ok y =>
          rw [hat] at hr5
          obtain ⟨gcs, rfl, y3, y4, y5, y6, y7, y8, rfl, hgn, hga, r3, r4, r5, r6, r7, r8⟩ := hr5
          obtain ⟨p3, x3, rfl, -⟩ := r3.form
          obtain ⟨p4, x4, rfl, -⟩ := r4.form
          obtain ⟨p5, x5, rfl, -⟩ := r5.form
          obtain ⟨p6, x6, rfl, -⟩ := r6.form
          obtain ⟨p7, x7, rfl, -⟩ := r7.form
          obtain ⟨p8, x8, rfl, -⟩ := r8.form
          have T6 := Lib.hid (T5.out.alloc #[.string y.name, .int .i64 y.adv, .bool y.mark, .slice p3 y.pts.length x3, .slice p4 y.ends.length x4, .slice p5 y.parts.length x5, .slice p6 y.anchors.length x6, .slice p7 y.deltas.length x7, .slice p8 y.hint.length x8] 44)
          have HB2 := Lib.hid (show ∀ (j : Nat) (x : DGlyph), j < i + 1 → F.glyphs[j]? = some x → ∃ y, Vr.atGlyph F.axes F.regions xs x = .ok y from fun j x hj hx => by
            rcases Nat.lt_or_ge j i with h | h
            · exact HB.out j x h hx
            · obtain rfl : j = i := by omega
              rw [HGL.out] at hx
              cases hx
              exact ⟨y, hat⟩)
          have ei : IntKind.i64.wrap ((i : Int) + 1) = (i : Int) + 1 := IntWalk.i64_in _ (by have := HLN.out.2.1; omega)
          clear hat hgn hga r3 r4 r5 r6 r7 r8 k3 k4
          go_upto_region 10 with fail
          generalize W5.alloc _ = W6 at *
          refine wp_region_mask 22 [true, true, true, true, true, true, true, true, true, true, true, true, true, true, true, true, true, true, true, true, true, true] [] (by kernel_rfl) (by kernel_rfl) (by simp) ?_
          simp only [pickM]
          iterate 3
           refine steady_go (a' := ?_) (by kernel_rfl) ?_ (fun w' hw' K Q hK => ?_) ?_
           rotate_left 2
           · go_wp2_with fail; exact hK _ (Mod.refl _ _)
           rotate_left
           · rfl
          refine steady_passU (by kernel_rfl) (by simp only [Act.put]; (try simp only [List.setIfInBounds_toArray]); (try simp only [List.set_cons_succ, List.set_cons_zero]); exact rfl) ?_
          refine steady_passU (by kernel_rfl) (by simp only [Act.put]; (try simp only [List.setIfInBounds_toArray]); (try simp only [List.set_cons_succ, List.set_cons_zero]); exact rfl) ?_
          refine steady_passU (by kernel_rfl) (by simp only [Act.put]; (try simp only [List.setIfInBounds_toArray]); (try simp only [List.set_cons_succ, List.set_cons_zero]); exact rfl) ?_
          refine steady_passU (by kernel_rfl) (by simp only [Act.put]; (try simp only [List.setIfInBounds_toArray]); (try simp only [List.set_cons_succ, List.set_cons_zero]); exact rfl) ?_
          refine steady_passU (by kernel_rfl) (by simp only [Act.put]; (try simp only [List.setIfInBounds_toArray]); (try simp only [List.set_cons_succ, List.set_cons_zero]); exact rfl) ?_
          refine steady_passU (by kernel_rfl) (by simp only [Act.put]; (try simp only [List.setIfInBounds_toArray]); (try simp only [List.set_cons_succ, List.set_cons_zero]); exact rfl) ?_
          refine steady_passU (by kernel_rfl) (by simp only [Act.put]; (try simp only [List.setIfInBounds_toArray]); (try simp only [List.set_cons_succ, List.set_cons_zero]); exact rfl) ?_
          refine steady_passU (by kernel_rfl) (by simp only [Act.put]; (try simp only [List.setIfInBounds_toArray]); (try simp only [List.set_cons_succ, List.set_cons_zero]); exact rfl) ?_
          refine steady_passU (by kernel_rfl) (by simp only [Act.put]; (try simp only [List.setIfInBounds_toArray]); (try simp only [List.set_cons_succ, List.set_cons_zero]); exact rfl) ?_
          refine steady_passU (by kernel_rfl) (by simp only [Act.put]; (try simp only [List.setIfInBounds_toArray]); (try simp only [List.set_cons_succ, List.set_cons_zero]); exact rfl) ?_
          refine steady_passU (by kernel_rfl) (by simp only [Act.put]; (try simp only [List.setIfInBounds_toArray]); (try simp only [List.set_cons_succ, List.set_cons_zero]); exact rfl) ?_
          refine steady_passU (by kernel_rfl) (by simp only [Act.put]; (try simp only [List.setIfInBounds_toArray]); (try simp only [List.set_cons_succ, List.set_cons_zero]); exact rfl) ?_
          refine steady_passU (by kernel_rfl) (by simp only [Act.put]; (try simp only [List.setIfInBounds_toArray]); (try simp only [List.set_cons_succ, List.set_cons_zero]); exact rfl) ?_
          refine steady_passU (by kernel_rfl) (by simp only [Act.put]; (try simp only [List.setIfInBounds_toArray]); (try simp only [List.set_cons_succ, List.set_cons_zero]); exact rfl) ?_
          refine steady_passU (by kernel_rfl) (by simp only [Act.put]; (try simp only [List.setIfInBounds_toArray]); (try simp only [List.set_cons_succ, List.set_cons_zero]); exact rfl) ?_
          refine steady_passU (by kernel_rfl) (by simp only [Act.put]; (try simp only [List.setIfInBounds_toArray]); (try simp only [List.set_cons_succ, List.set_cons_zero]); exact rfl) ?_
          refine steady_passU (by kernel_rfl) (by simp only [Act.put]; (try simp only [List.setIfInBounds_toArray]); (try simp only [List.set_cons_succ, List.set_cons_zero]); exact rfl) ?_
          refine steady_passU (by kernel_rfl) (by simp only [Act.put]; (try simp only [List.setIfInBounds_toArray]); (try simp only [List.set_cons_succ, List.set_cons_zero]); exact rfl) ?_
          refine steady_go (a' := ?_) (by kernel_rfl) ?_ (fun w' hw' K Q hK => ?_) ?_
          rotate_left 2
          · go_wp2_with fail; exact hK _ (Mod.refl _ _)
          rotate_left
          · rfl
          refine steady_done ?_
          refine lates_end (fun w' hw' _ => ?_)
          simp only [List.drop_succ_cons, List.drop_zero]
          have T7 := Lib.hid (T6.out.call hw')
          clear hw' T6
          go_wp2_with fail
          go_roundg (gk - 1)
          case measure => have := hi.out; have := HLT.out; omega
          case rel => exact ⟨i + 1, by rw [Int.natCast_add]; rfl, by have := hi.out; have := HLT.out; show i + 1 + (gk - 1) = F.glyphs.length; omega, T7.out.left, HB2.out⟩
      · have k3 : decide ((i : Int) < (F.glyphs.length : Int)) = false := decide_eq_false (by omega)
        have hiN : i = F.glyphs.length := by have := hi.out; omega
        have HEND := Lib.hid (alone_end (F := F) (xs := xs) (fun j x hx => HB.out j x (by rw [hiN]; exact (List.getElem?_eq_some_iff.1 hx).1) hx))
        clear hiN
        go_wp2_with fail
        refine (HNOR.out _ HI.out.mod H6.out).mono ?_
        rintro e W5 ⟨m5, hr5⟩
        have T5 := Lib.hid (HI.out.call m5)
        rcases HEND.out with ⟨k', hn, hf⟩ | ⟨l', F', hn, hf⟩
        · rw [HFR.out] at hf
          obtain rfl : k = k' := by cases hf; rfl
          rw [hn] at hr5
          obtain ⟨-, rfl⟩ := hr5
          clear hn hf q1 f1 m5
          go_wp2_with fail
          refine (varied_true _).mono ?_
          rintro e w7 ⟨rfl, m7⟩
          have T7 := Lib.hid (T5.out.call (Mod.of_below m7))
          clear m7
          go_wp2_with fail
          go_ret
          exact ⟨rfl, T7.out.mod.to_below⟩
        · rw [HFR.out] at hf
          cases hf
    | ok F' =>
      rw [hfr] at hr2
      obtain ⟨acs, rfl, z1, z2, z3, z4, z5, z6, z7, z8, rfl, ru, r1, r2, r3, r4, r5, r6, r7, r8⟩ := hr2
      obtain ⟨b1, d1, rfl, -⟩ := r1.form
      obtain ⟨b2, d2, rfl, -⟩ := r2.form
      obtain ⟨b3, d3, rfl, -⟩ := r3.form
      obtain ⟨b4, d4, rfl, -⟩ := r4.form
      obtain ⟨b5, d5, rfl, -⟩ := r5.form
      obtain ⟨b6, d6, rfl, -⟩ := r6.form
      obtain ⟨b7, d7, rfl, -⟩ := r7.form
      obtain ⟨b8, d8, rfl, -⟩ := r8.form
      have HFR := Lib.hid hfr
      have HAO := Lib.hid (alone_ok hfr)
      have HAG := Lib.hid r1
      have T3 := Lib.hid (T2.out.alloc #[.int .i64 F'.unit, .slice b1 F'.glyphs.length d1, .slice b2 F'.chars.length d2, .slice b3 F'.lookups.length d3, .slice b4 F'.features.length d4, .slice b5 F'.axes.length d5, .slice b6 F'.regions.length d6, .slice b7 F'.funcs.length d7, .slice b8 F'.cvt.length d8] 31)
      have M3 := Lib.hid ((Mod.refl [] W2).alloc (.cells #[.int .i64 F'.unit, .slice b1 F'.glyphs.length d1, .slice b2 F'.chars.length d2, .slice b3 F'.lookups.length d3, .slice b4 F'.features.length d4, .slice b5 F'.axes.length d5, .slice b6 F'.regions.length d6, .slice b7 F'.funcs.length d7, .slice b8 F'.cvt.length d8] 31))
      clear hfr ru r1 r2 r3 r4 r5 r6 r7 r8
      go_upto_region 4 with fail
      generalize W2.alloc (.cells #[.int .i64 F'.unit, .slice b1 F'.glyphs.length d1, .slice b2 F'.chars.length d2, .slice b3 F'.lookups.length d3, .slice b4 F'.features.length d4, .slice b5 F'.axes.length d5, .slice b6 F'.regions.length d6, .slice b7 F'.funcs.length d7, .slice b8 F'.cvt.length d8] 31) = W3 at *
      generalize W2.heap.size = ab at *
      go_wp2_with fail
      go_loopg [7] F.glyphs.length (fun gk s7 wr => ∃ i : Nat, s7 = .int .i64 (i : Int) ∧ Hid (i + gk = F.glyphs.length) ∧ Hid (Own w wr [(w.heap.size, #[.int .i64 u, .slice ga F.glyphs.length gcc, .slice c.a c.n c.c, .slice l.a l.n l.c, .slice fe.a fe.n fe.c, .slice ax.a ax.n ax.c, .slice rg.a rg.n rg.c, .slice fu.a fu.n fu.c, .slice cv.a cv.n cv.c], 31), (ab, #[.int .i64 F'.unit, .slice b1 F'.glyphs.length d1, .slice b2 F'.chars.length d2, .slice b3 F'.lookups.length d3, .slice b4 F'.features.length d4, .slice b5 F'.axes.length d5, .slice b6 F'.regions.length d6, .slice b7 F'.funcs.length d7, .slice b8 F'.cvt.length d8], 31)]) ∧ Hid (Mod [] W2 wr))
      case atStart => exact ⟨0, rfl, by show 0 + F.glyphs.length = F.glyphs.length; omega, T3.out, M3.out⟩
      obtain ⟨i, rfl, hi, HI, HM⟩ := hrel
      clear T3 T2 M3
      have q1 := (HI.out.at 0 rfl).cell 1
      simp only [List.getElem?_toArray, List.getElem?_cons_zero, List.getElem?_cons_succ] at q1
      have f1 := fun i => (HI.out.at 0 rfl).cell i
      by_cases hin : i < F.glyphs.length
      · have k3 : decide ((i : Int) < (F.glyphs.length : Int)) = true := decide_eq_true (by omega)
        have k4 : (i : Int) < (F.glyphs.length : Int) := by omega
        obtain ⟨gl, hgl⟩ : ∃ gl, F.glyphs[i]? = some gl := ⟨_, List.getElem?_eq_getElem hin⟩
        have HGL := Lib.hid hgl
        have HLT := Lib.hid hin
        obtain ⟨y, hy1, hy2⟩ := HAO.out.2 i gl hgl
        have HY := Lib.hid (And.intro hy1 (And.intro hy2 (atGlyph_small hy1 (HPS.out gl (List.mem_of_getElem? hgl)))))
        clear hgl hin hy1 hy2
        go_wp2_with fail
        refine (HGLY.out _ HI.out.mod H6.out i gl HGL.out).mono ?_
        rintro e W5 ⟨m5, hr5⟩
        have T5 := Lib.hid (HI.out.call m5)
        have M5 := Lib.hid (HM.out.then m5)
        clear q1 f1 m5
        rw [HY.out.1] at hr5
        obtain ⟨gcs, rfl, y3, y4, y5, y6, y7, y8, rfl, hgn, hga, r3, r4, r5, r6, r7, r8⟩ := hr5
        obtain ⟨p3, x3, rfl, -⟩ := r3.form
        obtain ⟨p4, x4, rfl, -⟩ := r4.form
        obtain ⟨p5, x5, rfl, -⟩ := r5.form
        obtain ⟨p6, x6, rfl, -⟩ := r6.form
        obtain ⟨p7, x7, rfl, -⟩ := r7.form
        obtain ⟨p8, x8, rfl, -⟩ := r8.form
        have HG := Lib.hid (show RGlyph wr.heap.size W5 [.string y.name, .int .i64 y.adv, .bool y.mark, .slice p3 y.pts.length x3, .slice p4 y.ends.length x4, .slice p5 y.parts.length x5, .slice p6 y.anchors.length x6, .slice p7 y.deltas.length x7, .slice p8 y.hint.length x8] y from ⟨_, _, _, _, _, _, rfl, hgn, hga, r3, r4, r5, r6, r7, r8⟩)
        have T6 := Lib.hid (T5.out.alloc #[.string y.name, .int .i64 y.adv, .bool y.mark, .slice p3 y.pts.length x3, .slice p4 y.ends.length x4, .slice p5 y.parts.length x5, .slice p6 y.anchors.length x6, .slice p7 y.deltas.length x7, .slice p8 y.hint.length x8] 44)
        have M6 := Lib.hid ((Mod.refl [] W5).alloc (.cells #[.string y.name, .int .i64 y.adv, .bool y.mark, .slice p3 y.pts.length x3, .slice p4 y.ends.length x4, .slice p5 y.parts.length x5, .slice p6 y.anchors.length x6, .slice p7 y.deltas.length x7, .slice p8 y.hint.length x8] 44))
        have ei : IntKind.i64.wrap ((i : Int) + 1) = (i : Int) + 1 := IntWalk.i64_in _ (by have := HLN.out.2.1; omega)
        clear hgn hga r3 r4 r5 r6 r7 r8 k3
        go_upto_region 10 with fail
        generalize W5.alloc _ = W6 at *
        have hM : Mod [] W2 W6 := M5.out.then M6.out
        obtain ⟨a, hb1, -, cs', -, hc0, hcj, hGa⟩ := (HAG.out.mod RGlyph.stay hM).elem HY.out.2.1
        subst hb1
        have HPA := Lib.hid (fun W (m : Mod [] W6 W) => pglyph_any y _ cs' W (RGlyph.stay _ _ _ _ _ hGa (m.above _)) HY.out.2.2)
        have HPG := Lib.hid (fun W (m : Mod [] W6 W) => pglyph_any y _ _ W (RGlyph.stay _ _ _ _ _ HG.out ((M6.out.then m).above _)) HY.out.2.2)
        obtain ⟨t3, t4, t5, t6, t7, t8, rfl, -⟩ := hGa
        have e0 := hc0 (by decide)
        have e1 := hcj 1 (by decide) (by decide)
        have e2 := hcj 2 (by decide) (by decide)
        have e3 := hcj 3 (by decide) (by decide)
        have e4 := hcj 4 (by decide) (by decide)
        have e5 := hcj 5 (by decide) (by decide)
        have e6 := hcj 6 (by decide) (by decide)
        have e7 := hcj 7 (by decide) (by decide)
        have e8 := hcj 8 (by decide) (by decide)
        simp only [List.getElem?_cons_zero, List.getElem?_cons_succ] at e0 e1 e2 e3 e4 e5 e6 e7 e8
        have Y0 : ∀ W, Mod [] W6 W → W.cell? (a.add (i * 9)) = some (.string y.name) := fun W m => cell_stays m e0
        have Y1 : ∀ W, Mod [] W6 W → W.cell? ⟨(a.add (i * 9)).block, (a.add (i * 9)).off + 1, none⟩ = some (.int .i64 y.adv) := fun W m => cell_stays m e1
        have Y2 : ∀ W, Mod [] W6 W → W.cell? ⟨(a.add (i * 9)).block, (a.add (i * 9)).off + 2, none⟩ = some (.bool y.mark) := fun W m => cell_stays m e2
        have Y3 : ∀ W, Mod [] W6 W → W.cell? ⟨(a.add (i * 9)).block, (a.add (i * 9)).off + 3, none⟩ = some (t3) := fun W m => cell_stays m e3
        have Y4 : ∀ W, Mod [] W6 W → W.cell? ⟨(a.add (i * 9)).block, (a.add (i * 9)).off + 4, none⟩ = some (t4) := fun W m => cell_stays m e4
        have Y5 : ∀ W, Mod [] W6 W → W.cell? ⟨(a.add (i * 9)).block, (a.add (i * 9)).off + 5, none⟩ = some (t5) := fun W m => cell_stays m e5
        have Y6 : ∀ W, Mod [] W6 W → W.cell? ⟨(a.add (i * 9)).block, (a.add (i * 9)).off + 6, none⟩ = some (t6) := fun W m => cell_stays m e6
        have Y7 : ∀ W, Mod [] W6 W → W.cell? ⟨(a.add (i * 9)).block, (a.add (i * 9)).off + 7, none⟩ = some (t7) := fun W m => cell_stays m e7
        have Y8 : ∀ W, Mod [] W6 W → W.cell? ⟨(a.add (i * 9)).block, (a.add (i * 9)).off + 8, none⟩ = some (t8) := fun W m => cell_stays m e8
        have kk : ((F'.glyphs.length : Int) != (F.glyphs.length : Int)) = false := by rw [HAO.out.1]; simp
        have k5 : (0 : Int) ≤ i := by omega
        have k6 : (i : Int) < (F'.glyphs.length : Int) := by rw [HAO.out.1]; exact k4
        have HM6 := Lib.hid hM
        have A0 := (T6.out.at 0 rfl).every
        have A1 := (T6.out.at 1 rfl).every
        have A2 := (T6.out.at 2 rfl).every
        generalize Pr.glyph y = ps at *
        clear e0 e1 e2 e3 e4 e5 e6 e7 e8 hc0 hcj hM
        refine wp_region_mask 22 [true, true, true, true, true, true, true, true, true, true, true, true, true, true, true, true, true, true, true, true, true, true] [] (by kernel_rfl) (by kernel_rfl) (by simp) ?_
        simp only [pickM]
        iterate 16
         refine steady_go (a' := ?_) (by kernel_rfl) ?_ (fun w' hw' K Q hK => ?_) ?_
         rotate_left 2
         · go_wp2_with fail; exact hK _ (Mod.refl _ _)
         rotate_left
         · rfl
        refine steady_go (a' := ?_) (by kernel_rfl) ?_ (fun w' hw' K Q hK => ?_) ?_
        rotate_left 2
        · go_wp2_with fail
          refine ((HPA.out) _ hw').mono ?_
          rintro e w'' ⟨rfl, m''⟩
          go_wp2_with fail
          exact hK _ m''
        rotate_left
        · rfl
        refine steady_go (a' := ?_) (by kernel_rfl) ?_ (fun w' hw' K Q hK => ?_) ?_
        rotate_left 2
        · go_wp2_with fail; exact hK _ (Mod.refl _ _)
        rotate_left
        · rfl
        refine steady_go (a' := ?_) (by kernel_rfl) ?_ (fun w' hw' K Q hK => ?_) ?_
        rotate_left 2
        · go_wp2_with fail
          refine ((HPG.out) _ hw').mono ?_
          rintro e w'' ⟨rfl, m''⟩
          go_wp2_with fail
          exact hK _ m''
        rotate_left
        · rfl
        iterate 3
         refine steady_go (a' := ?_) (by kernel_rfl) ?_ (fun w' hw' K Q hK => ?_) ?_
         rotate_left 2
         · go_wp2_with fail; exact hK _ (Mod.refl _ _)
         rotate_left
         · rfl
        refine steady_done ?_
        refine lates_end (fun w' hw' _ => ?_)
        simp only [List.drop_succ_cons, List.drop_zero]
        have T7 := Lib.hid (T6.out.call hw')
        have M7 := Lib.hid (HM6.out.then hw')
        clear hw' T6 A0 A1 A2 Y0 Y1 Y2 Y3 Y4 Y5 Y6 Y7 Y8 HPA HPG
        go_wp2_with fail
        go_roundg (gk - 1)
        case measure => have := hi.out; have := HLT.out; omega
        case rel => exact ⟨i + 1, by rw [Int.natCast_add]; rfl, by have := hi.out; have := HLT.out; show i + 1 + (gk - 1) = F.glyphs.length; omega, T7.out.left, M7.out⟩
      · have k3 : decide ((i : Int) < (F.glyphs.length : Int)) = false := decide_eq_false (by omega)
        have hiN : i = F.glyphs.length := by have := hi.out; omega
        have HEND := Lib.hid (alone_end (F := F) (xs := xs) (fun j x hx => by obtain ⟨y, h, _⟩ := HAO.out.2 j x hx; exact ⟨y, h⟩))
        clear hiN
        go_wp2_with fail
        refine (HNOR.out _ HI.out.mod H6.out).mono ?_
        rintro e W5 ⟨m5, hr5⟩
        have T5 := Lib.hid (HI.out.call m5)
        rcases HEND.out with ⟨k', hn, hf⟩ | ⟨l', F2, hn, hf⟩
        · rw [HFR.out] at hf
          cases hf
        · rw [hn] at hr5
          obtain ⟨⟨qa, qn, qc⟩, rfl, -⟩ := hr5
          clear hn hf q1 f1 m5
          go_wp2_with fail
          refine (varied_true _).mono ?_
          rintro e w7 ⟨rfl, m7⟩
          have T7 := Lib.hid (T5.out.call (Mod.of_below m7))
          clear m7
          go_wp2_with fail
          go_ret
          exact ⟨rfl, T7.out.mod.to_below⟩
end Go.Proofs.Ytaloembfekdkoaa

/- vary: Font. -/
import Derived.Test.YtaloembfekdkoaaGLooks
namespace Go.Proofs.Ytaloembfekdkoaa
open Go.RowKit
set_option linter.unusedVariables false
set_option maxRecDepth 100000
theorem Try.glyphinfo : (Try.prog.info? 44).map (fun i => (i.zero, i.size, i.bytes)) = some (some (.agg zeroGlyphL.toArray), 9, 176) := by kernel_rfl
theorem vf_ret (Q : Ending → World → Prop) (tb : Nat) (x0 x1 x2 x3 x4 x5 x6 x7 x8 y : Value) (a : Act) (W : World) (B : Blk W tb #[x0, x1, x2, x3, x4, x5, x6, x7, x8] 31)
    (s4 : a.tmps[4]? = some (.pointer (some ⟨tb, 0, none⟩))) (s5 : a.tmps[5]? = some y) (hd : a.defers = []) (hQ : Q (.returned (.tuple #[.agg #[x0, x1, x2, x3, x4, x5, x6, x7, x8], y])) W) :
    bodyPost Try.prog Try.f5 Q .ret a W := by
  have r0 := B.cell 0
  have r1 := B.cell 1
  have r2 := B.cell 2
  have r3 := B.cell 3
  have r4 := B.cell 4
  have r5 := B.cell 5
  have r6 := B.cell 6
  have r7 := B.cell 7
  have r8 := B.cell 8
  simp only [List.getElem?_toArray, List.getElem?_cons_zero, List.getElem?_cons_succ] at r0 r1 r2 r3 r4 r5 r6 r7 r8
  exact bodyPost_ret (v := .tuple #[.agg #[x0, x1, x2, x3, x4, x5, x6, x7, x8], y]) (by simp [results, Try.results5, go_sem, r0, r1, r2, r3, r4, r5, r6, r7, r8, s4, s5]) hd hQ
set_option maxHeartbeats 8000000 in
theorem vfont_any (u : Int) (g c l fe ax rg fu cv pl : Hd) (F : DFont) (hu : u = F.unit) (xs : List Int) (B B2 : Nat) (w : World) (hF : RFont B w (fontCells u g c l fe ax rg fu cv).toList F) (h6 : F.axes.length ≤ 6) (hP : Rows 1 RInt B2 w (.slice pl.a pl.n pl.c) xs) (hs : FSmall F) :
    Calls Try.prog 5 #[.agg (fontCells u g c l fe ax rg fu cv), .slice pl.a pl.n pl.c] w (VFRes (Vr.fontR F xs) w) := by
  obtain ⟨w1, w2, w3, w4, w5, w6, w7, w8, hc, hu', hGl, hCh, hLo, hFe, hAx, hRe, hFu, hCv⟩ := hF
  unfold fontCells at hc
  simp only [List.cons.injEq, and_true] at hc
  obtain ⟨-, rfl, rfl, rfl, rfl, rfl, rfl, rfl, rfl⟩ := hc
  obtain ⟨unit, glyphs, chars, looks, feats, axes, regs, funcs, cvt⟩ := F
  simp only at *
  subst hu
  obtain ⟨⟨hs1, hs2⟩, hs3, hs4, hs5, hs6, hs7⟩ := hs
  simp only at hs1 hs2 hs3 hs4 hs5 hs6 hs7
  have hgn : g.n = glyphs.length := by obtain ⟨_, _, he, _⟩ := hGl; simp at he; omega
  have HNO := Lib.hid (fun W (m : Mod [] w W) => normal_any u g c l fe ax rg fu cv pl axes xs B B2 W (hAx.mod RAxis.stay m) h6 (hP.mod RInt.stay m))
  have T := Lib.hid (own2 w (fontCells u g c l fe ax rg fu cv) 31 zeroFontL.toArray 31)
  have MA := Lib.hid (((Mod.refl [] w).alloc (.cells (fontCells u g c l fe ax rg fu cv) 31)).alloc (.cells zeroFontL.toArray 31))
  have HGL := Lib.hid hGl
  have HRG := Lib.hid hRe
  have HR5 := Lib.hid (And.intro hCh (And.intro hLo (And.intro hFe (And.intro hFu hCv))))
  have HS := Lib.hid (And.intro hs1 hs2)
  have HS5 := Lib.hid (And.intro hs3 (And.intro hs4 (And.intro hs5 (And.intro hs6 hs7))))
  have HU := Lib.hid hu'
  obtain ⟨i0, hti, hz0, hz1, hz2⟩ := info_parts Try.glyphinfo
  obtain ⟨ga, gn, gcc⟩ := g
  simp only at hgn
  subst hgn
  have hmk := fun W => run_make (P := Try.prog) W 22 44 i0 (.agg zeroGlyphL.toArray) Try.underlying22 hti hz0 .i64 .i64 (glyphs.length : Int) (glyphs.length : Int) (by omega) (by omega) (by rw [hz2]; omega) (by omega)
  rw [hz1] at hmk
  simp only [Int.toNat_natCast] at hmk
  generalize hmc : madeCells (.agg zeroGlyphL.toArray : Value).cells (glyphs.length * 9) = mc at hmk
  have HSZ : Hid (mc.size = glyphs.length * 9) := by rw [← hmc]; exact size_made _ _
  clear hGl hCh hLo hFe hAx hRe hFu hCv h6 hP hs1 hs2 hs3 hs4 hs5 hs6 hs7 hu' hmc hti hz0 hz1 hz2 i0
  unfold fontCells zeroFontL at *
  simp only at T HNO MA HGL ⊢
  go_enter Try.func5, Try.ntmps5
  go_upto_region 1 with fail
  generalize (w.alloc (.cells #[.int .i64 u, .slice ga glyphs.length gcc, .slice c.a c.n c.c, .slice l.a l.n l.c, .slice fe.a fe.n fe.c, .slice ax.a ax.n ax.c, .slice rg.a rg.n rg.c, .slice fu.a fu.n fu.c, .slice cv.a cv.n cv.c] 31)).alloc (.cells #[.int .i64 0, .slice none 0 0, .slice none 0 0, .slice none 0 0, .slice none 0 0, .slice none 0 0, .slice none 0 0, .slice none 0 0, .slice none 0 0] 31) = W0 at *
  have q0 := (T.out.at 0 rfl).cell 0
  have q1 := (T.out.at 0 rfl).cell 1
  have q2 := (T.out.at 0 rfl).cell 2
  have q3 := (T.out.at 0 rfl).cell 3
  have q4 := (T.out.at 0 rfl).cell 4
  have q5 := (T.out.at 0 rfl).cell 5
  have q6 := (T.out.at 0 rfl).cell 6
  have q7 := (T.out.at 0 rfl).cell 7
  have q8 := (T.out.at 0 rfl).cell 8
  simp only [List.getElem?_toArray, List.getElem?_cons_zero, List.getElem?_cons_succ] at q0 q1 q2 q3 q4 q5 q6 q7 q8
  go_wp2_with fail
  refine (HNO.out _ MA.out).mono ?_
  rintro e W1 ⟨m1, hr⟩
  clear q0 q1 q2 q3 q4 q5 q6 q7 q8
  have T1 := Lib.hid (T.out.call m1)
  have HM1 := Lib.hid (MA.out.then m1)
  cases hn : Vr.normR axes xs with
  | error k =>
    rw [hn] at hr
    obtain ⟨hk, rfl⟩ := hr
    have hk' : (k == 0) = false := by simpa using hk
    have k1 : (k != 0) = true := by simpa using hk
    have HAT := Lib.hid (show Vr.fontR ⟨u, glyphs, chars, looks, feats, axes, regs, funcs, cvt⟩ xs = .error k by unfold Vr.fontR; simp only; rw [hn])
    have z := fun k => (T1.out.at 1 rfl).cell k
    have zf := fun k => (T1.out.at 1 rfl).frozen k
    have T2 := Lib.hid (setN_mod (w0 := w) (b := w.heap.size + 1) (by omega) zeroFontL 0 W1 HM1.out)
    have B2 := Lib.hid ((T1.out.at 1 rfl).over zeroFontL rfl)
    clear hmk hn
    go_wp2_with fail
    exact vf_ret _ (w.heap.size + 1) _ _ _ _ _ _ _ _ _ _ _ _ B2.out rfl rfl rfl (by rw [HAT.out]; exact ⟨T2.out, rfl⟩)
  | ok at' =>
    rw [hn] at hr
    obtain ⟨⟨ha, hnn, hc⟩, rfl, hX⟩ := hr
    simp only at hX
    have HX := Lib.hid hX
    have HNR := Lib.hid hn
    clear hX hn m1
    have q0 := (T1.out.at 0 rfl).cell 0
    have q1 := (T1.out.at 0 rfl).cell 1
    have q2 := (T1.out.at 0 rfl).cell 2
    have q3 := (T1.out.at 0 rfl).cell 3
    have q4 := (T1.out.at 0 rfl).cell 4
    have q5 := (T1.out.at 0 rfl).cell 5
    have q6 := (T1.out.at 0 rfl).cell 6
    have q7 := (T1.out.at 0 rfl).cell 7
    have q8 := (T1.out.at 0 rfl).cell 8
    simp only [List.getElem?_toArray, List.getElem?_cons_zero, List.getElem?_cons_succ] at q0 q1 q2 q3 q4 q5 q6 q7 q8
    have hmm : (Instr.makeMap 53 none).run Try.prog W1 = .ok (.map (some W1.heap.size)) (W1.alloc (.map #[] 0)) := rfl
    go_upto_region 5 with fail
    clear hmm
    have mM : Mod [] W1 ((W1.alloc (.map #[] 0)).alloc (.cells #[.int .i64 u, .slice ga glyphs.length gcc, .slice c.a c.n c.c, .slice l.a l.n l.c, .slice fe.a fe.n fe.c, .slice ax.a ax.n ax.c, .slice rg.a rg.n rg.c, .slice fu.a fu.n fu.c, .slice cv.a cv.n cv.c, .slice ha hnn hc, .map (some W1.heap.size)] 55)) := ((Mod.refl [] W1).alloc _).alloc _
    have HFM := Lib.hid ((FacMap.new W1 regs at').mod ((Mod.refl [] (W1.alloc (.map #[] 0))).alloc (.cells #[.int .i64 u, .slice ga glyphs.length gcc, .slice c.a c.n c.c, .slice l.a l.n l.c, .slice fe.a fe.n fe.c, .slice ax.a ax.n ax.c, .slice rg.a rg.n rg.c, .slice fu.a fu.n fu.c, .slice cv.a cv.n cv.c, .slice ha hnn hc, .map (some W1.heap.size)] 55)))
    have T2 := Lib.hid (T1.out.call ((Mod.refl [] W1).alloc (.map #[] 0)))
    have T3 := Lib.hid (T2.out.alloc #[.int .i64 u, .slice ga glyphs.length gcc, .slice c.a c.n c.c, .slice l.a l.n l.c, .slice fe.a fe.n fe.c, .slice ax.a ax.n ax.c, .slice rg.a rg.n rg.c, .slice fu.a fu.n fu.c, .slice cv.a cv.n cv.c, .slice ha hnn hc, .map (some W1.heap.size)] 55)
    have hsb : (W1.alloc (.map #[] 0)).heap.size = W1.heap.size + 1 := by show (W1.heap.push _).size = _; simp
    have HMM := Lib.hid mM
    have HBB := Lib.hid (show w.heap.size + 2 ≤ W1.heap.size by have := (T1.out.at 1 rfl).lt; omega)
    have h3 := T3.out
    rw [hsb] at h3
    clear T3
    have T3 := Lib.hid h3
    clear mM hsb h3 T2 q0 q1 q2 q3 q4 q5 q6 q7 q8
    generalize (W1.alloc (.map #[] 0)).alloc (.cells #[.int .i64 u, .slice ga glyphs.length gcc, .slice c.a c.n c.c, .slice l.a l.n l.c, .slice fe.a fe.n fe.c, .slice ax.a ax.n ax.c, .slice rg.a rg.n rg.c, .slice fu.a fu.n fu.c, .slice cv.a cv.n cv.c, .slice ha hnn hc, .map (some W1.heap.size)] 55) = W3 at *
    have f1 : W3.cell? ⟨w.heap.size, 1, none⟩ = some (.slice ga glyphs.length gcc) := by rw [(T3.out.at 0 rfl).cell]; rfl
    go_upto_region 6 with fail
    clear f1 hmk
    obtain ⟨outs, houts⟩ : ∃ outs, glyphs.map (Vr.outG regs at') = outs := ⟨_, rfl⟩
    have HOL := Lib.hid (show outs.length = glyphs.length by rw [← houts, List.length_map])
    have HOU := Lib.hid houts
    clear houts
    have FI := Lib.hid (Fill.start (k := 9) (R := RGlyph) (B := W3.heap.size + 1) (l := outs) (Blk.new W3 mc 44) (by rw [HOL.out]; exact HSZ.out))
    have T4 := Lib.hid (T3.out.call ((Mod.refl [] W3).alloc (.cells mc 44)))
    have HM4 := Lib.hid (HMM.out.then ((Mod.refl [] W3).alloc (.cells mc 44)))
    have HF4 := Lib.hid (HFM.out.mod ((Mod.refl [] W3).alloc (.cells mc 44)))
    have HGB := Lib.hid (show W1.heap.size + 2 ≤ W3.heap.size by have := (T3.out.at 2 rfl).lt; omega)
    clear HFM HMM T3 HSZ
    generalize W3.alloc (.cells mc 44) = W4 at *
    generalize W3.heap.size = gb at *
    have f1 : W4.cell? ⟨w.heap.size, 1, none⟩ = some (.slice ga glyphs.length gcc) := by rw [(T4.out.at 0 rfl).cell]; rfl
    go_wp2_with fail
    clear f1
    go_loopg [33] glyphs.length (fun gk i33 wr => ∃ i : Nat, i33 = .int .i64 (i : Int) ∧ Hid (i + gk = glyphs.length) ∧ Hid (Own w wr [(w.heap.size, #[.int .i64 u, .slice ga glyphs.length gcc, .slice c.a c.n c.c, .slice l.a l.n l.c, .slice fe.a fe.n fe.c, .slice ax.a ax.n ax.c, .slice rg.a rg.n rg.c, .slice fu.a fu.n fu.c, .slice cv.a cv.n cv.c], 31), (w.heap.size + 1, #[.int .i64 0, .slice none 0 0, .slice none 0 0, .slice none 0 0, .slice none 0 0, .slice none 0 0, .slice none 0 0, .slice none 0 0, .slice none 0 0], 31), (W1.heap.size + 1, #[.int .i64 u, .slice ga glyphs.length gcc, .slice c.a c.n c.c, .slice l.a l.n l.c, .slice fe.a fe.n fe.c, .slice ax.a ax.n ax.c, .slice rg.a rg.n rg.c, .slice fu.a fu.n fu.c, .slice cv.a cv.n cv.c, .slice ha hnn hc, .map (some W1.heap.size)], 55)] ∧ Mod [] W1 wr ∧ FacMap wr W1.heap.size regs at' ∧ Fill 9 RGlyph (gb + 1) wr gb 44 outs i ∧ ∀ j x, j < i → glyphs[j]? = some x → ∃ y, Vr.glyphR regs at' x = .ok y))
    case atStart => exact ⟨0, rfl, by show 0 + glyphs.length = glyphs.length; omega, T4.out, HM4.out, HF4.out, FI.out, fun j x h => absurd h (Nat.not_lt_zero j)⟩
    case round =>
      obtain ⟨i, rfl, hi, HI⟩ := hrel
      clear T4 HM4 HF4 FI
      by_cases hin : i < glyphs.length
      case neg =>
        have hiN : i = glyphs.length := by have := hi.out; omega
        subst hiN
        have k1 : decide ((glyphs.length : Int) < (glyphs.length : Int)) = false := decide_eq_false (by omega)
        obtain ⟨I1, I2, I3, I4, I5⟩ := HI.out
        have T5 := Lib.hid I1
        have F5 := Lib.hid I4
        have HOK := Lib.hid I5
        clear I1 I2 I3 I4 I5 HI hin
        go_upto_region 13 with fail
        have A0 := (T5.out.at 0 rfl).every
        refine Sq.wp_region_toks 18 [(0, none), (1, none), (2, none), (3, none), (4, none), (6, none), (7, none), (9, none), (10, none), (12, none), (13, none), (15, none), (16, none), (5, some (FRows 2 RChar wr.heap.size chars)), (8, some (FRows 3 RLookup wr.heap.size looks)), (11, some (FRows 2 RFeature wr.heap.size feats)), (14, some (FRows 1 RCode wr.heap.size funcs)), (17, some (FRows 1 RInt wr.heap.size cvt))] (by kernel_rfl) (by kernel_rfl) (Sq.nodup_of (by kernel_rfl)) ?hTS158 ?mainS158
        case hTS158 =>
          intro p hp T hT v
          simp only [List.mem_cons, List.not_mem_nil, or_false] at hp
          rcases hp with rfl | rfl | rfl | rfl | rfl | rfl | rfl | rfl | rfl | rfl | rfl | rfl | rfl | rfl | rfl | rfl | rfl | rfl <;> first | (cases hT; done) | (cases hT; first | exact FRows.stays RChar.stay _ | exact FRows.stays RCode.stay _ | exact FRows.stays RFeature.stay _ | exact FRows.stays RInt.stay _ | exact FRows.stays RLookup.stay _)
        refine Sq.v_go (a' := ?_) rfl (by kernel_rfl) ?_ (fun w' hw' K Q hK => ?_) ?_
        rotate_left 2
        · go_wp2_with fail; exact hK _ (Mod.refl _ _)
        rotate_left
        · rfl
        refine Sq.v_go (a' := ?_) rfl (by kernel_rfl) ?_ (fun w' hw' K Q hK => ?_) ?_
        rotate_left 2
        · go_wp2_with fail; exact hK _ (Mod.refl _ _)
        rotate_left
        · rfl
        refine Sq.v_go (a' := ?_) rfl (by kernel_rfl) ?_ (fun w' hw' K Q hK => ?_) ?_
        rotate_left 2
        · go_wp2_with fail; exact hK _ (Mod.refl _ _)
        rotate_left
        · rfl
        refine Sq.v_go (a' := ?_) rfl (by kernel_rfl) ?_ (fun w' hw' K Q hK => ?_) ?_
        rotate_left 2
        · go_wp2_with fail; exact hK _ (Mod.refl _ _)
        rotate_left
        · rfl
        refine Sq.v_go (a' := ?_) rfl (by kernel_rfl) ?_ (fun w' hw' K Q hK => ?_) ?_
        rotate_left 2
        · go_wp2_with fail; exact hK _ (Mod.refl _ _)
        rotate_left
        · rfl
        refine Sq.v_go (a' := ?_) rfl (by kernel_rfl) ?_ (fun w' hw' K Q hK => ?_) ?_
        rotate_left 2
        · go_wp2_with fail; exact hK _ (Mod.refl _ _)
        rotate_left
        · rfl
        refine Sq.v_go (a' := ?_) rfl (by kernel_rfl) ?_ (fun w' hw' K Q hK => ?_) ?_
        rotate_left 2
        · go_wp2_with fail; exact hK _ (Mod.refl _ _)
        rotate_left
        · rfl
        refine Sq.v_go (a' := ?_) rfl (by kernel_rfl) ?_ (fun w' hw' K Q hK => ?_) ?_
        rotate_left 2
        · go_wp2_with fail; exact hK _ (Mod.refl _ _)
        rotate_left
        · rfl
        refine Sq.v_go (a' := ?_) rfl (by kernel_rfl) ?_ (fun w' hw' K Q hK => ?_) ?_
        rotate_left 2
        · go_wp2_with fail; exact hK _ (Mod.refl _ _)
        rotate_left
        · rfl
        refine Sq.v_go (a' := ?_) rfl (by kernel_rfl) ?_ (fun w' hw' K Q hK => ?_) ?_
        rotate_left 2
        · go_wp2_with fail; exact hK _ (Mod.refl _ _)
        rotate_left
        · rfl
        refine Sq.v_go (a' := ?_) rfl (by kernel_rfl) ?_ (fun w' hw' K Q hK => ?_) ?_
        rotate_left 2
        · go_wp2_with fail; exact hK _ (Mod.refl _ _)
        rotate_left
        · rfl
        refine Sq.v_go (a' := ?_) rfl (by kernel_rfl) ?_ (fun w' hw' K Q hK => ?_) ?_
        rotate_left 2
        · go_wp2_with fail; exact hK _ (Mod.refl _ _)
        rotate_left
        · rfl
        refine Sq.v_go (a' := ?_) rfl (by kernel_rfl) ?_ (fun w' hw' K Q hK => ?_) ?_
        rotate_left 2
        · go_wp2_with fail; exact hK _ (Mod.refl _ _)
        rotate_left
        · rfl
        refine Sq.k_go (f := ?_) rfl rfl (fun v => by simp only [Act.put]; (try simp only [List.setIfInBounds_toArray]); (try simp only [List.set_cons_succ, List.set_cons_zero]); exact rfl) (fun w' hw' hF K Q hK => ?_) (fun kv5 hkv5 => ?_)
        · clear hF
          go_wp2_with fail
          refine (chars_f _ _ _ _ _ (HR5.out.1.mod RChar.stay (T5.out.mod.then hw')) HS5.out.1 hw'.size).mono ?_
          rintro e w'' ⟨v, rfl, hv, mm⟩
          go_wp2_with fail
          exact hK _ _ mm hv
        obtain ⟨_, -, q⟩ := hkv5; obtain ⟨a2, b2, rfl⟩ := q.form; clear q
        refine Sq.k_go (f := ?_) rfl rfl (fun v => by simp only [Act.put]; (try simp only [List.setIfInBounds_toArray]); (try simp only [List.set_cons_succ, List.set_cons_zero]); exact rfl) (fun w' hw' hF K Q hK => ?_) (fun kv8 hkv8 => ?_)
        · clear hF
          go_wp2_with fail
          refine (lookups_f _ _ _ _ _ (HR5.out.2.1.mod RLookup.stay (T5.out.mod.then hw')) HS5.out.2.1.1 HS5.out.2.1.2 hw'.size).mono ?_
          rintro e w'' ⟨v, rfl, hv, mm⟩
          go_wp2_with fail
          exact hK _ _ mm hv
        obtain ⟨_, -, q⟩ := hkv8; obtain ⟨a3, b3, rfl⟩ := q.form; clear q
        refine Sq.k_go (f := ?_) rfl rfl (fun v => by simp only [Act.put]; (try simp only [List.setIfInBounds_toArray]); (try simp only [List.set_cons_succ, List.set_cons_zero]); exact rfl) (fun w' hw' hF K Q hK => ?_) (fun kv11 hkv11 => ?_)
        · clear hF
          go_wp2_with fail
          refine (features_f _ _ _ _ _ (HR5.out.2.2.1.mod RFeature.stay (T5.out.mod.then hw')) HS5.out.2.2.1.1 HS5.out.2.2.1.2 hw'.size).mono ?_
          rintro e w'' ⟨v, rfl, hv, mm⟩
          go_wp2_with fail
          exact hK _ _ mm hv
        obtain ⟨_, -, q⟩ := hkv11; obtain ⟨a4, b4, rfl⟩ := q.form; clear q
        refine Sq.k_go (f := ?_) rfl rfl (fun v => by simp only [Act.put]; (try simp only [List.setIfInBounds_toArray]); (try simp only [List.set_cons_succ, List.set_cons_zero]); exact rfl) (fun w' hw' hF K Q hK => ?_) (fun kv14 hkv14 => ?_)
        · clear hF
          go_wp2_with fail
          refine (rows_Ins_f _ _ _ _ _ (HR5.out.2.2.2.1.mod RCode.stay (T5.out.mod.then hw')) HS5.out.2.2.2.1 hw'.size).mono ?_
          rintro e w'' ⟨v, rfl, hv, mm⟩
          go_wp2_with fail
          exact hK _ _ mm hv
        obtain ⟨_, -, q⟩ := hkv14; obtain ⟨a7, b7, rfl⟩ := q.form; clear q
        refine Sq.k_go (f := ?_) rfl rfl (fun v => by simp only [Act.put]; (try simp only [List.setIfInBounds_toArray]); (try simp only [List.set_cons_succ, List.set_cons_zero]); exact rfl) (fun w' hw' hF K Q hK => ?_) (fun kv17 hkv17 => ?_)
        · clear hF
          go_wp2_with fail
          refine (cvt_f _ _ _ _ _ (HR5.out.2.2.2.2.mod RInt.stay (T5.out.mod.then hw')) HS5.out.2.2.2.2 hw'.size).mono ?_
          rintro e w'' ⟨v, rfl, hv, mm⟩
          go_wp2_with fail
          exact hK _ _ mm hv
        obtain ⟨_, -, q⟩ := hkv17; obtain ⟨a8, b8, rfl⟩ := q.form; clear q
        refine Sq.nil_go ?_
        intro w' hw' hF
        simp only [List.drop_succ_cons, List.drop_zero]
        have HF := Lib.hid hF
        have T6 := Lib.hid (T5.out.call hw')
        have F6 := Lib.hid (F5.out.mod RGlyph.stay hw')
        have HSW := Lib.hid (show W1.heap.size + 2 ≤ wr.heap.size ∧ gb < wr.heap.size from ⟨by have := (T5.out.at 2 rfl).lt; omega, F5.out.lt⟩)
        clear hF hw' A0
        have z := fun k => (T6.out.at 1 rfl).cell k
        have zf := fun k => (T6.out.at 1 rfl).frozen k
        go_wp2_with fail
        clear z zf
        have XF : (((((((((w'.setCell ⟨w.heap.size + 1, 0, none⟩ (.int .i64 u)).setCell ⟨w.heap.size + 1, 1, none⟩ (.slice (some ⟨gb, 0, none⟩) glyphs.length glyphs.length)).setCell ⟨w.heap.size + 1, 2, none⟩ (.slice a2 chars.length b2)).setCell ⟨w.heap.size + 1, 3, none⟩ (.slice a3 looks.length b3)).setCell ⟨w.heap.size + 1, 4, none⟩ (.slice a4 feats.length b4)).setCell ⟨w.heap.size + 1, 5, none⟩ (.slice none 0 0)).setCell ⟨w.heap.size + 1, 6, none⟩ (.slice none 0 0)).setCell ⟨w.heap.size + 1, 7, none⟩ (.slice a7 funcs.length b7)).setCell ⟨w.heap.size + 1, 8, none⟩ (.slice a8 cvt.length b8)) = setN w' (w.heap.size + 1) (0) [.int .i64 u, .slice (some ⟨gb, 0, none⟩) glyphs.length glyphs.length, .slice a2 chars.length b2, .slice a3 looks.length b3, .slice a4 feats.length b4, .slice none 0 0, .slice none 0 0, .slice a7 funcs.length b7, .slice a8 cvt.length b8] := rfl
        rw [XF]
        clear XF
        have B9 := Lib.hid ((T6.out.at 1 rfl).over [.int .i64 u, .slice (some ⟨gb, 0, none⟩) glyphs.length glyphs.length, .slice a2 chars.length b2, .slice a3 looks.length b3, .slice a4 feats.length b4, .slice none 0 0, .slice none 0 0, .slice a7 funcs.length b7, .slice a8 cvt.length b8] rfl)
        have M9 := Lib.hid (setN_mod (w0 := w) (b := w.heap.size + 1) (by omega) [.int .i64 u, .slice (some ⟨gb, 0, none⟩) glyphs.length glyphs.length, .slice a2 chars.length b2, .slice a3 looks.length b3, .slice a4 feats.length b4, .slice none 0 0, .slice none 0 0, .slice a7 funcs.length b7, .slice a8 cvt.length b8] 0 w' T6.out.mod)
        have A9 := Lib.hid (setN_above (b := w.heap.size + 1) (B := w.heap.size + 2) (by omega) [.int .i64 u, .slice (some ⟨gb, 0, none⟩) glyphs.length glyphs.length, .slice a2 chars.length b2, .slice a3 looks.length b3, .slice a4 feats.length b4, .slice none 0 0, .slice none 0 0, .slice a7 funcs.length b7, .slice a8 cvt.length b8] 0 w')
        have F9 := Lib.hid (F6.out.aboveB RGlyph.stay (w' := setN w' (w.heap.size + 1) 0 [.int .i64 u, .slice (some ⟨gb, 0, none⟩) glyphs.length glyphs.length, .slice a2 chars.length b2, .slice a3 looks.length b3, .slice a4 feats.length b4, .slice none 0 0, .slice none 0 0, .slice a7 funcs.length b7, .slice a8 cvt.length b8]) (fun k hk hl => A9.out k (by have := HBB.out; have := HGB.out; omega) hl) (setN_other (by have := HBB.out; have := HGB.out; omega) _ _ _))
        generalize setN w' (w.heap.size + 1) 0 [.int .i64 u, .slice (some ⟨gb, 0, none⟩) glyphs.length glyphs.length, .slice a2 chars.length b2, .slice a3 looks.length b3, .slice a4 feats.length b4, .slice none 0 0, .slice none 0 0, .slice a7 funcs.length b7, .slice a8 cvt.length b8] = W9 at *
        obtain ⟨⟨⟨⟨⟨-, k2⟩, k3⟩, k4⟩, k7⟩, k8⟩ := HF.out
        have hw2 : w.heap.size + 2 ≤ wr.heap.size := by have := HBB.out; have := HSW.out.1; omega
        have hAb : ∀ k, wr.heap.size ≤ k → k < w'.heap.size → W9.heap[k]? = w'.heap[k]? := fun k hk hl => A9.out k (by omega) hl
        refine vf_ret _ (w.heap.size + 1) _ _ _ _ _ _ _ _ _ _ _ _ B9.out rfl rfl rfl ?_
        have HFE : Vr.fontR ⟨u, glyphs, chars, looks, feats, axes, regs, funcs, cvt⟩ xs = .ok ⟨u, outs, chars, looks, feats, [], [], funcs, cvt⟩ := by
          unfold Vr.fontR
          simp only
          rw [HNR.out]
          simp only
          rw [fontGs_ok glyphs (fun x hx => by
            obtain ⟨j, hj, hje⟩ := List.getElem_of_mem hx
            exact HOK.out j x hj (by rw [List.getElem?_eq_getElem hj, hje])), HOU.out]
        rw [HFE]
        refine ⟨M9.out, _, rfl, _, _, _, _, _, _, _, _, rfl, HU.out, ?_, (k2.above RChar.stay hAb).lower RChar.lower (by omega), (k3.above RLookup.stay hAb).lower RLookup.lower (by omega), (k4.above RFeature.stay hAb).lower RFeature.lower (by omega), Rows.nil _, Rows.nil _, (k7.above RCode.stay hAb).lower RCode.lower (by omega), (k8.above RInt.stay hAb).lower RInt.lower (by omega)⟩
        have hfd := F9.out
        rw [← HOL.out] at hfd
        have hml : outs.length ≤ maxLen := by
          rw [HOL.out]
          have h1 := HS.out.1
          have h2 : (140737488351232 : Nat) ≤ maxLen := by decide
          omega
        have hwg : w.heap.size ≤ gb := by have := HBB.out; have := HGB.out; omega
        have := hfd.done (B' := w.heap.size) (cap := glyphs.length) RGlyph.lower hml hwg (Nat.le_succ_of_le hwg)
        rw [HOL.out] at this
        exact this
      have k1 : decide ((i : Int) < (glyphs.length : Int)) = true := decide_eq_true (by omega)
      have k2 : (0 : Int) ≤ i := by omega
      have k3 : (i : Int) < (glyphs.length : Int) := by omega
      obtain ⟨I1, I2, I3, I4, I5⟩ := HI.out
      have HI5 := Lib.hid I4.lt
      obtain ⟨gl, hgl⟩ : ∃ gl, glyphs[i]? = some gl := ⟨_, List.getElem?_eq_getElem hin⟩
      have hsm := HS.out.2 gl (List.mem_of_getElem? hgl)
      obtain ⟨a, rfl, -, cs, -, hc0, hcj, hG⟩ := (HGL.out.mod RGlyph.stay HM1.out).elem hgl
      have HGY := Lib.hid (fun W (m : Mod [] W1 W) (f : FacMap W W1.heap.size regs at') => glyph_any u ⟨some a, glyphs.length, gcc⟩ c l fe ax rg fu cv ⟨ha, hnn, hc⟩ W1.heap.size regs at' gl cs B 0 B W1 W m (Nat.le_refl _) (HRG.out.mod RRegion.stay HM1.out) HX.out hG hsm f)
      obtain ⟨v3, v4, v5, v6, v7, v8, rfl, hn, had, h3, h4, h5, h6, h7, h8⟩ := hG
      obtain ⟨o3, x3, rfl, -⟩ := h3.form
      obtain ⟨o4, x4, rfl, -⟩ := h4.form
      obtain ⟨o5, x5, rfl, -⟩ := h5.form
      obtain ⟨o6, x6, rfl, -⟩ := h6.form
      obtain ⟨o7, x7, rfl, -⟩ := h7.form
      obtain ⟨o8, x8, rfl, -⟩ := h8.form
      have c0 := hc0 (by decide)
      have c1 := hcj 1 (by decide) (by decide)
      have c2 := hcj 2 (by decide) (by decide)
      have c3 := hcj 3 (by decide) (by decide)
      have c4 := hcj 4 (by decide) (by decide)
      have c5 := hcj 5 (by decide) (by decide)
      have c6 := hcj 6 (by decide) (by decide)
      have c7 := hcj 7 (by decide) (by decide)
      have c8 := hcj 8 (by decide) (by decide)
      simp only [List.getElem?_cons_zero, List.getElem?_cons_succ] at c0 c1 c2 c3 c4 c5 c6 c7 c8
      replace c0 := cell_stays I2 c0
      replace c1 := cell_stays I2 c1
      replace c2 := cell_stays I2 c2
      replace c3 := cell_stays I2 c3
      replace c4 := cell_stays I2 c4
      replace c5 := cell_stays I2 c5
      replace c6 := cell_stays I2 c6
      replace c7 := cell_stays I2 c7
      replace c8 := cell_stays I2 c8
      have HGI := Lib.hid hgl
      have mAl : Mod [] wr (wr.alloc (.cells #[.string gl.name, .int .i64 gl.adv, .bool gl.mark, .slice o3 gl.pts.length x3, .slice o4 gl.ends.length x4, .slice o5 gl.parts.length x5, .slice o6 gl.anchors.length x6, .slice o7 gl.deltas.length x7, .slice o8 gl.hint.length x8] 44)) := (Mod.refl [] wr).alloc _
      have T5 := Lib.hid (I1.alloc #[.string gl.name, .int .i64 gl.adv, .bool gl.mark, .slice o3 gl.pts.length x3, .slice o4 gl.ends.length x4, .slice o5 gl.parts.length x5, .slice o6 gl.anchors.length x6, .slice o7 gl.deltas.length x7, .slice o8 gl.hint.length x8] 44)
      have HM5 := Lib.hid (I2.then mAl)
      have HF5 := Lib.hid (I3.mod mAl)
      have FI5 := Lib.hid (I4.mod RGlyph.stay mAl)
      have HOK := Lib.hid I5
      unfold spotCells at HGY
      simp only at HGY
      clear I1 I2 I3 I4 I5 HI hc0 hcj hn had h3 h4 h5 h6 h7 h8 mAl hsm hgl hin
      go_upto_region 9 with fail
      clear c0 c1 c2 c3 c4 c5 c6 c7 c8
      have HSZ5 := Lib.hid (show gb + 1 ≤ (wr.alloc (.cells #[.string gl.name, .int .i64 gl.adv, .bool gl.mark, .slice o3 gl.pts.length x3, .slice o4 gl.ends.length x4, .slice o5 gl.parts.length x5, .slice o6 gl.anchors.length x6, .slice o7 gl.deltas.length x7, .slice o8 gl.hint.length x8] 44)).heap.size from FI5.out.lt)
      generalize wr.alloc (.cells #[.string gl.name, .int .i64 gl.adv, .bool gl.mark, .slice o3 gl.pts.length x3, .slice o4 gl.ends.length x4, .slice o5 gl.parts.length x5, .slice o6 gl.anchors.length x6, .slice o7 gl.deltas.length x7, .slice o8 gl.hint.length x8] 44) = W5 at *
      have s0 := (T5.out.at 2 rfl).cell 0
      have s1 := (T5.out.at 2 rfl).cell 1
      have s2 := (T5.out.at 2 rfl).cell 2
      have s3 := (T5.out.at 2 rfl).cell 3
      have s4 := (T5.out.at 2 rfl).cell 4
      have s5 := (T5.out.at 2 rfl).cell 5
      have s6 := (T5.out.at 2 rfl).cell 6
      have s7 := (T5.out.at 2 rfl).cell 7
      have s8 := (T5.out.at 2 rfl).cell 8
      have s9 := (T5.out.at 2 rfl).cell 9
      have s10 := (T5.out.at 2 rfl).cell 10
      have t0 := (T5.out.at 3 rfl).cell 0
      have t1 := (T5.out.at 3 rfl).cell 1
      have t2 := (T5.out.at 3 rfl).cell 2
      have t3 := (T5.out.at 3 rfl).cell 3
      have t4 := (T5.out.at 3 rfl).cell 4
      have t5 := (T5.out.at 3 rfl).cell 5
      have t6 := (T5.out.at 3 rfl).cell 6
      have t7 := (T5.out.at 3 rfl).cell 7
      have t8 := (T5.out.at 3 rfl).cell 8
      simp only [List.getElem?_toArray, List.getElem?_cons_zero, List.getElem?_cons_succ] at s0 s1 s2 s3 s4 s5 s6 s7 s8 s9 s10 t0 t1 t2 t3 t4 t5 t6 t7 t8
      go_wp2_with fail
      refine (HGY.out _ HM5.out HF5.out).mono ?_
      rintro e W6 ⟨m6, hf6, hr6⟩
      clear s0 s1 s2 s3 s4 s5 s6 s7 s8 s9 s10 t0 t1 t2 t3 t4 t5 t6 t7 t8
      have T6 := Lib.hid (T5.out.off (T5.out.mod.trans m6 (fun x hx hlt => by have := HBB.out; simp at hx; omega)) (fun p hp => m6.block p.1 ((T5.out.blk p hp).2.lt) (fun hm => by
        have := HBB.out
        have := HGB.out
        have := HI5.out
        simp at hm
        simp only [List.cons_append, List.nil_append, List.mem_cons, List.not_mem_nil, or_false] at hp
        rcases hp with rfl | rfl | rfl | rfl <;> simp at hm <;> omega)))
      have FI6 := Lib.hid (FI5.out.aboveB RGlyph.stay (above_of m6 (fun x hx => by have := HGB.out; simp at hx; omega)) (m6.block gb FI5.out.lt (by have := HGB.out; simp; omega)))
      have HM6 := Lib.hid (HM5.out.trans m6 (fun x hx hlt => by simp at hx; omega))
      have HF6 := Lib.hid hf6
      have hiL : i * 9 + 8 < outs.length * 9 := by rw [HOL.out]; omega
      obtain ⟨y0, z0, e0⟩ := FI6.out.cell (q := i * 9) (by omega)
      obtain ⟨y1, z1, e1⟩ := FI6.out.cell (q := i * 9 + 1) (by omega)
      obtain ⟨y2, z2, e2⟩ := FI6.out.cell (q := i * 9 + 2) (by omega)
      obtain ⟨y3, z3, e3⟩ := FI6.out.cell (q := i * 9 + 3) (by omega)
      obtain ⟨y4, z4, e4⟩ := FI6.out.cell (q := i * 9 + 4) (by omega)
      obtain ⟨y5, z5, e5⟩ := FI6.out.cell (q := i * 9 + 5) (by omega)
      obtain ⟨y6, z6, e6⟩ := FI6.out.cell (q := i * 9 + 6) (by omega)
      obtain ⟨y7, z7, e7⟩ := FI6.out.cell (q := i * 9 + 7) (by omega)
      obtain ⟨y8, z8, e8⟩ := FI6.out.cell (q := i * 9 + 8) (by omega)
      clear m6 hf6 T5 FI5 HM5 HF5 HGY
      cases hg : Vr.glyphR regs at' gl with
      | error k =>
        rw [hg] at hr6
        obtain rfl : e = .returned (.tuple #[.agg zeroGlyphL.toArray, .int .i64 k]) := hr6
        have hk := glyphR_ne hg
        have hk' : (k == 0) = false := by simpa using hk
        have kk1 : (k != 0) = true := by simpa using hk
        have HFE := Lib.hid (show Vr.fontR ⟨u, glyphs, chars, looks, feats, axes, regs, funcs, cvt⟩ xs = .error k by
          unfold Vr.fontR
          simp only
          rw [HNR.out]
          simp only
          rw [fontGs_err glyphs i gl HGI.out HOK.out hg])
        have T7 := Lib.hid (T6.out.off (w' := setN W6 gb (i * 9) [.string ⟨#[]⟩, .int .i64 0, .bool false, .slice none 0 0, .slice none 0 0, .slice none 0 0, .slice none 0 0, .slice none 0 0, .slice none 0 0]) (setN_mod (w0 := w) (b := gb) (by have := HBB.out; have := HGB.out; omega) _ _ W6 T6.out.mod) (fun p hp => setN_other (by
          have := HBB.out
          have := HGB.out
          have := HI5.out
          simp only [List.cons_append, List.nil_append, List.mem_cons, List.not_mem_nil, or_false] at hp
          rcases hp with rfl | rfl | rfl | rfl <;> simp <;> omega) _ _ _))
        clear hg hk HOK HGI
        unfold zeroGlyphL
        go_upto_region 11 with fail
        have XF : (((((((((W6.setCell ⟨gb, i * 9, none⟩ (.string ⟨#[]⟩)).setCell ⟨gb, i * 9 + 1, none⟩ (.int .i64 0)).setCell ⟨gb, i * 9 + 2, none⟩ (.bool false)).setCell ⟨gb, i * 9 + 3, none⟩ (.slice none 0 0)).setCell ⟨gb, i * 9 + 4, none⟩ (.slice none 0 0)).setCell ⟨gb, i * 9 + 5, none⟩ (.slice none 0 0)).setCell ⟨gb, i * 9 + 6, none⟩ (.slice none 0 0)).setCell ⟨gb, i * 9 + 7, none⟩ (.slice none 0 0)).setCell ⟨gb, i * 9 + 8, none⟩ (.slice none 0 0)) = setN W6 (gb) (i * 9) [.string ⟨#[]⟩, .int .i64 0, .bool false, .slice none 0 0, .slice none 0 0, .slice none 0 0, .slice none 0 0, .slice none 0 0, .slice none 0 0] := rfl
        rw [XF]
        clear XF
        generalize setN W6 gb (i * 9) [.string ⟨#[]⟩, .int .i64 0, .bool false, .slice none 0 0, .slice none 0 0, .slice none 0 0, .slice none 0 0, .slice none 0 0, .slice none 0 0] = W7 at *
        have T8 := Lib.hid (setN_mod (w0 := w) (b := w.heap.size + 1) (by omega) zeroFontL 0 W7 T7.out.mod)
        have B8 := Lib.hid ((T7.out.at 1 rfl).over zeroFontL rfl)
        have z := fun k => (T7.out.at 1 rfl).cell k
        have zf := fun k => (T7.out.at 1 rfl).frozen k
        clear y0 y1 y2 y3 y4 y5 y6 y7 y8 z0 z1 z2 z3 z4 z5 z6 z7 z8 e0 e1 e2 e3 e4 e5 e6 e7 e8
        go_wp2_with fail
        exact vf_ret _ (w.heap.size + 1) _ _ _ _ _ _ _ _ _ _ _ _ B8.out rfl rfl rfl (by rw [HFE.out]; exact ⟨T8.out, rfl⟩)
      | ok g' =>
        rw [hg] at hr6
        obtain ⟨cs', rfl, hG⟩ := hr6
        obtain ⟨v3', v4', v5', v6', v7', v8', rfl, hgn, hga, r3, r4, r5, r6, r7, r8⟩ := hG
        obtain ⟨p3, k3, rfl, -⟩ := r3.form
        obtain ⟨p4, k4, rfl, -⟩ := r4.form
        obtain ⟨p5, k5, rfl, -⟩ := r5.form
        obtain ⟨p6, k6, rfl, -⟩ := r6.form
        obtain ⟨p7, k7, rfl, -⟩ := r7.form
        obtain ⟨p8, k8, rfl, -⟩ := r8.form
        have hG' : RGlyph (gb + 1) W6 [.string g'.name, .int .i64 g'.adv, .bool g'.mark, .slice p3 g'.pts.length k3, .slice p4 g'.ends.length k4, .slice p5 g'.parts.length k5, .slice p6 g'.anchors.length k6, .slice p7 g'.deltas.length k7, .slice p8 g'.hint.length k8] g' := RGlyph.lower _ _ _ _ _ (show RGlyph W5.heap.size W6 [.string g'.name, .int .i64 g'.adv, .bool g'.mark, .slice p3 g'.pts.length k3, .slice p4 g'.ends.length k4, .slice p5 g'.parts.length k5, .slice p6 g'.anchors.length k6, .slice p7 g'.deltas.length k7, .slice p8 g'.hint.length k8] g' from ⟨_, _, _, _, _, _, rfl, hgn, hga, r3, r4, r5, r6, r7, r8⟩) HSZ5.out
        have hio : i < outs.length := by rw [HOL.out]; omega
        have hoi : outs[i] = g' := by
          have h1 : outs[i]? = some g' := by
            rw [← HOU.out, List.getElem?_map, HGI.out]
            simp only [Option.map_some, Vr.outG, hg]
          rw [List.getElem?_eq_getElem hio] at h1
          simpa using h1
        have FI7 := Lib.hid (FI6.out.setK RGlyph.stay hio (cs := [.string g'.name, .int .i64 g'.adv, .bool g'.mark, .slice p3 g'.pts.length k3, .slice p4 g'.ends.length k4, .slice p5 g'.parts.length k5, .slice p6 g'.anchors.length k6, .slice p7 g'.deltas.length k7, .slice p8 g'.hint.length k8]) rfl (by rw [hoi]; exact hG') (Nat.lt_succ_self _))
        have T7 := Lib.hid (T6.out.off (w' := setN W6 gb (i * 9) [.string g'.name, .int .i64 g'.adv, .bool g'.mark, .slice p3 g'.pts.length k3, .slice p4 g'.ends.length k4, .slice p5 g'.parts.length k5, .slice p6 g'.anchors.length k6, .slice p7 g'.deltas.length k7, .slice p8 g'.hint.length k8]) (setN_mod (w0 := w) (b := gb) (by have := HBB.out; have := HGB.out; omega) _ _ W6 T6.out.mod) (fun p hp => setN_other (by
          have := HBB.out
          have := HGB.out
          have := HI5.out
          simp only [List.cons_append, List.nil_append, List.mem_cons, List.not_mem_nil, or_false] at hp
          rcases hp with rfl | rfl | rfl | rfl <;> simp <;> omega) _ _ _))
        have HM7 := Lib.hid (setN_mod (w0 := W1) (b := gb) (by have := HGB.out; omega) [.string g'.name, .int .i64 g'.adv, .bool g'.mark, .slice p3 g'.pts.length k3, .slice p4 g'.ends.length k4, .slice p5 g'.parts.length k5, .slice p6 g'.anchors.length k6, .slice p7 g'.deltas.length k7, .slice p8 g'.hint.length k8] (i * 9) W6 HM6.out)
        have HF7 := Lib.hid (HF6.out.of (w' := setN W6 gb (i * 9) [.string g'.name, .int .i64 g'.adv, .bool g'.mark, .slice p3 g'.pts.length k3, .slice p4 g'.ends.length k4, .slice p5 g'.parts.length k5, .slice p6 g'.anchors.length k6, .slice p7 g'.deltas.length k7, .slice p8 g'.hint.length k8]) (setN_other (by have := HGB.out; omega) _ _ _))
        have HOK7 := Lib.hid (show ∀ j x, j < i + 1 → glyphs[j]? = some x → ∃ y, Vr.glyphR regs at' x = .ok y from fun j x hj hx => by
          rcases Nat.lt_or_ge j i with h | h
          · exact HOK.out j x h hx
          · obtain rfl : j = i := by omega
            rw [HGI.out] at hx
            cases hx
            exact ⟨g', hg⟩)
        have ei : IntKind.i64.wrap ((i : Int) + 1) = (i : Int) + 1 := IntWalk.i64_in _ (by have := HS.out.1; omega)
        clear hg hG' hio hoi hgn hga r3 r4 r5 r6 r7 r8 HGI HOK
        go_upto_region 10 with fail
        have XF : (((((((((W6.setCell ⟨gb, i * 9, none⟩ (.string g'.name)).setCell ⟨gb, i * 9 + 1, none⟩ (.int .i64 g'.adv)).setCell ⟨gb, i * 9 + 2, none⟩ (.bool g'.mark)).setCell ⟨gb, i * 9 + 3, none⟩ (.slice p3 g'.pts.length k3)).setCell ⟨gb, i * 9 + 4, none⟩ (.slice p4 g'.ends.length k4)).setCell ⟨gb, i * 9 + 5, none⟩ (.slice p5 g'.parts.length k5)).setCell ⟨gb, i * 9 + 6, none⟩ (.slice p6 g'.anchors.length k6)).setCell ⟨gb, i * 9 + 7, none⟩ (.slice p7 g'.deltas.length k7)).setCell ⟨gb, i * 9 + 8, none⟩ (.slice p8 g'.hint.length k8)) = setN W6 (gb) (i * 9) [.string g'.name, .int .i64 g'.adv, .bool g'.mark, .slice p3 g'.pts.length k3, .slice p4 g'.ends.length k4, .slice p5 g'.parts.length k5, .slice p6 g'.anchors.length k6, .slice p7 g'.deltas.length k7, .slice p8 g'.hint.length k8] := rfl
        rw [XF]
        clear XF
        generalize setN W6 gb (i * 9) [.string g'.name, .int .i64 g'.adv, .bool g'.mark, .slice p3 g'.pts.length k3, .slice p4 g'.ends.length k4, .slice p5 g'.parts.length k5, .slice p6 g'.anchors.length k6, .slice p7 g'.deltas.length k7, .slice p8 g'.hint.length k8] = W7 at *
        clear y0 y1 y2 y3 y4 y5 y6 y7 y8 z0 z1 z2 z3 z4 z5 z6 z7 z8 e0 e1 e2 e3 e4 e5 e6 e7 e8
        go_wp2_with fail
        go_roundg (gk - 1)
        case measure => have := hi.out; omega
        case rel => exact ⟨i + 1, by rw [Int.natCast_add]; rfl, by have := hi.out; show i + 1 + (gk - 1) = glyphs.length; omega, T7.out.left, HM7.out, HF7.out, FI7.out, HOK7.out⟩
end Go.Proofs.Ytaloembfekdkoaa

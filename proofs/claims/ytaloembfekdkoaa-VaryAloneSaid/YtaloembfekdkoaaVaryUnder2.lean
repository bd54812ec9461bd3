/- vary: under, whatever comes of it. Made out of XVaryUnder.lean. -/
import Derived.Test.YtaloembfekdkoaaVaryUnder
import Derived.Test.YtaloembfekdkoaaDoom
namespace Go.Proofs.Ytaloembfekdkoaa
open Go.RowKit
set_option linter.unusedVariables false
theorem by64_make2 (n : Int) (h : -9223372036854775808 ≤ n ∧ n ≤ 9223372036854775807) : Rat.makeR n 64 = ((Vr.by64 n).1, (Vr.by64 n).2, true) := by
  by_cases h0 : n = -9223372036854775808
  · subst h0; decide +kernel
  · exact by64_make n (by omega)
theorem by64_in2 (n : Int) (h : -9223372036854775808 ≤ n ∧ n ≤ 9223372036854775807) : (-9223372036854775807 ≤ (Vr.by64 n).1 ∧ (Vr.by64 n).1 ≤ 9223372036854775807) ∧ (-9223372036854775807 ≤ (Vr.by64 n).2 ∧ (Vr.by64 n).2 ≤ 9223372036854775807) := by
  by_cases h0 : n = -9223372036854775808
  · subst h0; decide +kernel
  · exact by64_in n (by omega)
def UnderRes (r : Option (Int × Int)) (w : World) (e : Ending) (w' : World) : Prop :=
  match r with
  | some r => e = .returned (.agg #[.int .i64 r.1, .int .i64 r.2]) ∧ Mod [] w w'
  | none => e = .panicked [{ v := .iface 33 (.int .i64 3), recovered := false }] ∧ Mod [] w w'
set_option maxHeartbeats 16000000 in
theorem under_any (s p e n d : Int) (w : World) (hs : -9223372036854775808 ≤ s ∧ s ≤ 9223372036854775807) (hp : -9223372036854775808 ≤ p ∧ p ≤ 9223372036854775807) (he : -9223372036854775808 ≤ e ∧ e ≤ 9223372036854775807)
    (hn : -9223372036854775808 ≤ n ∧ n ≤ 9223372036854775807) (hd : -9223372036854775808 ≤ d ∧ d ≤ 9223372036854775807) :
    Calls Try.prog 38 #[.agg #[.int .i64 s, .int .i64 p, .int .i64 e], .agg #[.int .i64 n, .int .i64 d]] w (UnderRes (Vr.underR s p e n d) w) := by
  obtain ⟨rr, hr⟩ : ∃ rr, Vr.underR s p e n d = rr := ⟨_, rfl⟩
  rw [hr]
  have T := Lib.hid (own3 w #[.int .i64 s, .int .i64 p, .int .i64 e] 112 #[.int .i64 n, .int .i64 d] 68 #[.int .i64 0, .int .i64 0] 68)
  have is := by64_in2 s hs
  have ip := by64_in2 p hp
  have ie := by64_in2 e he
  have M5 := Lib.hid (fun W => make_any s 64 W (by omega) (by omega))
  rw [by64_make2 s hs] at M5
  have M6 := Lib.hid (fun W => make_any p 64 W (by omega) (by omega))
  rw [by64_make2 p hp] at M6
  have M7 := Lib.hid (fun W => make_any e 64 W (by omega) (by omega))
  rw [by64_make2 e he] at M7
  have C1 := Lib.hid (fun W => cmp_any n d (Vr.by64 p).1 (Vr.by64 p).2 W hn hd (by omega) (by omega))
  have C2 := Lib.hid (fun W => cmp_any n d (Vr.by64 s).1 (Vr.by64 s).2 W hn hd (by omega) (by omega))
  have C3 := Lib.hid (fun W => cmp_any n d (Vr.by64 e).1 (Vr.by64 e).2 W hn hd (by omega) (by omega))
  have S1 := Lib.hid (fun W => sub_any n d (Vr.by64 s).1 (Vr.by64 s).2 W hn hd (by omega) (by omega))
  have S2 := Lib.hid (fun W => sub_any (Vr.by64 p).1 (Vr.by64 p).2 (Vr.by64 s).1 (Vr.by64 s).2 W (by omega) (by omega) (by omega) (by omega))
  have S3 := Lib.hid (fun W => sub_any (Vr.by64 e).1 (Vr.by64 e).2 n d W (by omega) (by omega) hn hd)
  have S4 := Lib.hid (fun W => sub_any (Vr.by64 e).1 (Vr.by64 e).2 (Vr.by64 p).1 (Vr.by64 p).2 W (by omega) (by omega) (by omega) (by omega))
  have D1 := Lib.hid (fun W a b c d (ha : -9223372036854775807 ≤ a ∧ a ≤ 9223372036854775807) (hb : -9223372036854775807 ≤ b ∧ b ≤ 9223372036854775807) (hc : -9223372036854775807 ≤ c ∧ c ≤ 9223372036854775807) (hd : -9223372036854775807 ≤ d ∧ d ≤ 9223372036854775807) => div_any a b c d W (by omega) (by omega) (by omega) (by omega))
  have I1 := Lib.hid (subR_in n d (Vr.by64 s).1 (Vr.by64 s).2)
  have I2 := Lib.hid (subR_in (Vr.by64 p).1 (Vr.by64 p).2 (Vr.by64 s).1 (Vr.by64 s).2)
  have I3 := Lib.hid (subR_in (Vr.by64 e).1 (Vr.by64 e).2 n d)
  have I4 := Lib.hid (subR_in (Vr.by64 e).1 (Vr.by64 e).2 (Vr.by64 p).1 (Vr.by64 p).2)
  unfold Vr.underR at hr
  generalize Rat.cmpR n d (Vr.by64 p).1 (Vr.by64 p).2 = c1 at *
  generalize Rat.cmpR n d (Vr.by64 s).1 (Vr.by64 s).2 = c2 at *
  generalize Rat.cmpR n d (Vr.by64 e).1 (Vr.by64 e).2 = c3 at *
  generalize Rat.subR n d (Vr.by64 s).1 (Vr.by64 s).2 = u1 at *
  generalize Rat.subR (Vr.by64 p).1 (Vr.by64 p).2 (Vr.by64 s).1 (Vr.by64 s).2 = u2 at *
  generalize Rat.subR (Vr.by64 e).1 (Vr.by64 e).2 n d = u3 at *
  generalize Rat.subR (Vr.by64 e).1 (Vr.by64 e).2 (Vr.by64 p).1 (Vr.by64 p).2 = u4 at *
  generalize (Vr.by64 s).1 = sa at *
  generalize (Vr.by64 s).2 = sb at *
  generalize (Vr.by64 p).1 = pa at *
  generalize (Vr.by64 p).2 = pb at *
  generalize (Vr.by64 e).1 = ea at *
  generalize (Vr.by64 e).2 = eb at *
  have HR := Lib.hid hr
  clear hr hs hp he hn hd is ip ie
  go_enter Try.func38, Try.ntmps38
  obtain ⟨p0, p1, p2⟩ := tentBlk (T.out.at 0 rfl)
  go_wp2_with fail
  refine (M5.out _).mono ?_
  rintro e' wa5 ⟨rfl, ma5⟩
  have U5 := Lib.hid (T.out.call ma5)
  clear ma5 T p0 p1 p2 M5
  go_wp2_with fail
  refine (must_ok _ _ _).mono ?_
  rintro e' wb5 ⟨rfl, mb5⟩
  have T5 := Lib.hid ((U5.out.call mb5).alloc #[.int .i64 sa, .int .i64 sb] 68)
  clear mb5 U5
  go_upto_region 2 with fail
  generalize wb5.alloc (.cells #[.int .i64 sa, .int .i64 sb] 68) = W5 at *
  generalize wb5.heap.size = b5 at *
  obtain ⟨p0, p1, p2⟩ := tentBlk (T5.out.at 0 rfl)
  go_wp2_with fail
  refine (M6.out _).mono ?_
  rintro e' wa6 ⟨rfl, ma6⟩
  have U6 := Lib.hid (T5.out.call ma6)
  clear ma6 T5 p0 p1 p2 M6
  go_wp2_with fail
  refine (must_ok _ _ _).mono ?_
  rintro e' wb6 ⟨rfl, mb6⟩
  have T6 := Lib.hid ((U6.out.call mb6).alloc #[.int .i64 pa, .int .i64 pb] 68)
  clear mb6 U6
  go_upto_region 3 with fail
  generalize wb6.alloc (.cells #[.int .i64 pa, .int .i64 pb] 68) = W6 at *
  generalize wb6.heap.size = b6 at *
  obtain ⟨p0, p1, p2⟩ := tentBlk (T6.out.at 0 rfl)
  go_wp2_with fail
  refine (M7.out _).mono ?_
  rintro e' wa7 ⟨rfl, ma7⟩
  have U7 := Lib.hid (T6.out.call ma7)
  clear ma7 T6 p0 p1 p2 M7
  go_wp2_with fail
  refine (must_ok _ _ _).mono ?_
  rintro e' wb7 ⟨rfl, mb7⟩
  have T7 := Lib.hid ((U7.out.call mb7).alloc #[.int .i64 ea, .int .i64 eb] 68)
  clear mb7 U7
  go_upto_region 4 with fail
  generalize wb7.alloc (.cells #[.int .i64 ea, .int .i64 eb] 68) = W7 at *
  generalize wb7.heap.size = b7 at *
  by_cases h0 : p = 0
  · have k0 : (p == 0) = true := by simpa using h0
    have HV : Hid (rr = some (1, 1)) := Lib.hid (by have := HR.out; rw [if_pos (.inl h0)] at this; exact this.symm)
    clear h0 HR
    obtain ⟨o0, o1, o2⟩ := tentBlk (T7.out.at 0 rfl)
    obtain ⟨p0, p1, -, -⟩ := (T7.out.at 1 rfl).two
    obtain ⟨q0, q1, -, -⟩ := (T7.out.at 4 rfl).two
    go_wp2_with fail
    refine (wholeV_any _ _).mono ?_
    rintro e' wz ⟨rfl, mz⟩
    have TZ := Lib.hid (T7.out.call mz)
    clear mz T7 p0 p1 q0 q1 o0 o1 o2
    obtain ⟨q0, q1, z0, z1⟩ := (TZ.out.at 2 rfl).two
    go_wp2_with fail
    obtain ⟨r0, r1, M⟩ := told_end TZ.out 2 rfl (.int .i64 1) (.int .i64 1)
    have HM := Lib.hid M
    clear M z0 z1 q0 q1
    generalize (wz.setCell ⟨w.heap.size + 1 + 1, 0, none⟩ (.int .i64 1)).setCell ⟨w.heap.size + 1 + 1, 1, none⟩ (.int .i64 1) = W9 at *
    have hv : rr = some (1, 1) := HV.out
    exact bodyPost_ret (v := .agg #[.int .i64 1, .int .i64 1]) (by simp [results, Try.results38, go_sem, r0, r1]) rfl (by rw [hv]; exact ⟨rfl, HM.out⟩)
  · have k0 : (p == 0) = false := by simpa using h0
    by_cases h1 : c1 = 0
    · have k1 : (c1 == 0) = true := by simpa using h1
      have HV : Hid (rr = some (1, 1)) := Lib.hid (by have := HR.out; rw [if_pos (.inr h1)] at this; exact this.symm)
      clear h0 h1 HR
      obtain ⟨o0, o1, o2⟩ := tentBlk (T7.out.at 0 rfl)
      obtain ⟨p0, p1, -, -⟩ := (T7.out.at 1 rfl).two
      obtain ⟨q0, q1, -, -⟩ := (T7.out.at 4 rfl).two
      go_wp2_with fail
      refine (C1.out _).mono ?_
      rintro e' wc ⟨rfl, mc⟩
      have T8 := Lib.hid (T7.out.call mc)
      clear mc T7
      go_wp2_with fail
      refine (wholeV_any _ _).mono ?_
      rintro e' wz ⟨rfl, mz⟩
      have TZ := Lib.hid (T8.out.call mz)
      clear mz T8 p0 p1 q0 q1 o0 o1 o2
      obtain ⟨q0, q1, z0, z1⟩ := (TZ.out.at 2 rfl).two
      go_wp2_with fail
      obtain ⟨r0, r1, M⟩ := told_end TZ.out 2 rfl (.int .i64 1) (.int .i64 1)
      have HM := Lib.hid M
      clear M z0 z1 q0 q1
      generalize (wz.setCell ⟨w.heap.size + 1 + 1, 0, none⟩ (.int .i64 1)).setCell ⟨w.heap.size + 1 + 1, 1, none⟩ (.int .i64 1) = W9 at *
      have hv : rr = some (1, 1) := HV.out
      exact bodyPost_ret (v := .agg #[.int .i64 1, .int .i64 1]) (by simp [results, Try.results38, go_sem, r0, r1]) rfl (by rw [hv]; exact ⟨rfl, HM.out⟩)
    · have k1 : (c1 == 0) = false := by simpa using h1
      obtain ⟨o0, o1, o2⟩ := tentBlk (T7.out.at 0 rfl)
      obtain ⟨p0, p1, -, -⟩ := (T7.out.at 1 rfl).two
      obtain ⟨q0, q1, -, -⟩ := (T7.out.at 4 rfl).two
      go_wp2_with fail
      refine (C1.out _).mono ?_
      rintro e' wc ⟨rfl, mc⟩
      have T8 := Lib.hid (T7.out.call mc)
      clear mc T7 o0 o1 o2 p0 p1 q0 q1
      obtain ⟨o0, o1, o2⟩ := tentBlk (T8.out.at 0 rfl)
      obtain ⟨p0, p1, -, -⟩ := (T8.out.at 1 rfl).two
      obtain ⟨q0, q1, -, -⟩ := (T8.out.at 3 rfl).two
      go_wp2_with fail
      refine (C2.out _).mono ?_
      rintro e' wd ⟨rfl, md⟩
      have T9 := Lib.hid (T8.out.call md)
      clear md T8 o0 o1 o2 p0 p1 q0 q1
      by_cases h2 : c2 ≤ 0
      · have k2 : decide (c2 ≤ 0) = true := decide_eq_true h2
        have HV : Hid (rr = some (0, 1)) := Lib.hid (by have := HR.out; rw [if_neg (fun h => h.elim h0 h1), if_pos (.inl h2)] at this; exact this.symm)
        clear h0 h1 h2 HR
        obtain ⟨o0, o1, o2⟩ := tentBlk (T9.out.at 0 rfl)
        obtain ⟨p0, p1, -, -⟩ := (T9.out.at 1 rfl).two
        obtain ⟨q0, q1, -, -⟩ := (T9.out.at 4 rfl).two
        go_wp2_with fail
        refine (wholeV_any _ _).mono ?_
        rintro e' wz ⟨rfl, mz⟩
        have TZ := Lib.hid (T9.out.call mz)
        clear mz T9 p0 p1 q0 q1 o0 o1 o2
        obtain ⟨q0, q1, z0, z1⟩ := (TZ.out.at 2 rfl).two
        go_wp2_with fail
        obtain ⟨r0, r1, M⟩ := told_end TZ.out 2 rfl (.int .i64 0) (.int .i64 1)
        have HM := Lib.hid M
        clear M z0 z1 q0 q1
        generalize (wz.setCell ⟨w.heap.size + 1 + 1, 0, none⟩ (.int .i64 0)).setCell ⟨w.heap.size + 1 + 1, 1, none⟩ (.int .i64 1) = W9 at *
        have hv : rr = some (0, 1) := HV.out
        exact bodyPost_ret (v := .agg #[.int .i64 0, .int .i64 1]) (by simp [results, Try.results38, go_sem, r0, r1]) rfl (by rw [hv]; exact ⟨rfl, HM.out⟩)
      · have k2 : decide (c2 ≤ 0) = false := decide_eq_false h2
        obtain ⟨o0, o1, o2⟩ := tentBlk (T9.out.at 0 rfl)
        obtain ⟨p0, p1, -, -⟩ := (T9.out.at 1 rfl).two
        obtain ⟨q0, q1, -, -⟩ := (T9.out.at 5 rfl).two
        go_wp2_with fail
        refine (C3.out _).mono ?_
        rintro e' wf ⟨rfl, mf⟩
        have T10 := Lib.hid (T9.out.call mf)
        clear mf T9 o0 o1 o2 p0 p1 q0 q1
        by_cases h3 : 0 ≤ c3
        · have k3 : decide (0 ≤ c3) = true := decide_eq_true h3
          have HV : Hid (rr = some (0, 1)) := Lib.hid (by have := HR.out; rw [if_neg (fun h => h.elim h0 h1), if_pos (.inr h3)] at this; exact this.symm)
          clear h0 h1 h2 h3 HR
          obtain ⟨o0, o1, o2⟩ := tentBlk (T10.out.at 0 rfl)
          obtain ⟨p0, p1, -, -⟩ := (T10.out.at 1 rfl).two
          obtain ⟨q0, q1, -, -⟩ := (T10.out.at 4 rfl).two
          go_wp2_with fail
          refine (wholeV_any _ _).mono ?_
          rintro e' wz ⟨rfl, mz⟩
          have TZ := Lib.hid (T10.out.call mz)
          clear mz T10 p0 p1 q0 q1 o0 o1 o2
          obtain ⟨q0, q1, z0, z1⟩ := (TZ.out.at 2 rfl).two
          go_wp2_with fail
          obtain ⟨r0, r1, M⟩ := told_end TZ.out 2 rfl (.int .i64 0) (.int .i64 1)
          have HM := Lib.hid M
          clear M z0 z1 q0 q1
          generalize (wz.setCell ⟨w.heap.size + 1 + 1, 0, none⟩ (.int .i64 0)).setCell ⟨w.heap.size + 1 + 1, 1, none⟩ (.int .i64 1) = W9 at *
          have hv : rr = some (0, 1) := HV.out
          exact bodyPost_ret (v := .agg #[.int .i64 0, .int .i64 1]) (by simp [results, Try.results38, go_sem, r0, r1]) rfl (by rw [hv]; exact ⟨rfl, HM.out⟩)
        · have k3 : decide (0 ≤ c3) = false := decide_eq_false h3
          obtain ⟨o0, o1, o2⟩ := tentBlk (T10.out.at 0 rfl)
          obtain ⟨p0, p1, -, -⟩ := (T10.out.at 1 rfl).two
          obtain ⟨q0, q1, -, -⟩ := (T10.out.at 4 rfl).two
          go_wp2_with fail
          refine (C1.out _).mono ?_
          rintro e' wg ⟨rfl, mg⟩
          have T11 := Lib.hid (T10.out.call mg)
          clear mg T10 o0 o1 o2 p0 p1 q0 q1
          by_cases h4 : c1 < 0
          · have k4 : decide (c1 < 0) = true := decide_eq_true h4
            have hq := HR.out
            rw [if_neg (fun h => h.elim h0 h1), if_neg (show ¬ (c2 ≤ 0 ∨ 0 ≤ c3) by omega), if_pos h4] at hq
            unfold Vr.quot at hq
            split at hq
            · rename_i hq2
              obtain ⟨xa, xb, xc⟩ := u1
              obtain ⟨ya, yb, yc⟩ := u2
              simp only at hq hq2
              obtain ⟨rfl, rfl, hq3⟩ := hq2
              have DD := Lib.hid (fun W => D1.out W xa xb ya yb I1.out.1 I1.out.2 I2.out.1 I2.out.2)
              obtain ⟨⟨da, db, dc⟩, hdv⟩ : ∃ t, Rat.divR xa xb ya yb = t := ⟨_, rfl⟩
              rw [hdv] at DD hq hq3
              simp only at hq hq3
              subst hq3
              have HV : Hid (rr = some (da, db)) := Lib.hid hq.symm
              have HA := Lib.hid (fun W => must_ok xa xb W)
              have HB := Lib.hid (fun W => must_ok ya yb W)
              have HC := Lib.hid (fun W => must_ok da db W)
              clear h0 h1 h2 h3 h4 hq HR hdv
              go_upto_region 9 with fail
              have A1 := (T11.out.at 1 rfl).every
              have A3 := (T11.out.at 3 rfl).every
              have A4 := (T11.out.at 4 rfl).every
              have A5 := (T11.out.at 5 rfl).every
              refine wp_region_mask 16 [true, true, true, true, true, true, true, true, true, true, true, true, true, true, true, true] [] (by kernel_rfl) (by kernel_rfl) (by simp) ?_
              simp only [pickM]
              iterate 2
               refine steady_go (a' := ?_) (by kernel_rfl) ?_ (fun w' hw' K Q hK => ?_) ?_
               rotate_left 2
               · go_wp2_with fail; exact hK _ (Mod.refl _ _)
               rotate_left
               · rfl
              refine steady_go (a' := ?_) (by kernel_rfl) ?_ (fun w' hw' K Q hK => ?_) ?_
              rotate_left 2
              · go_wp2_with fail
                refine ((calls_mod S1.out) _ hw').mono ?_
                rintro e w'' ⟨rfl, m''⟩
                go_wp2_with fail
                exact hK _ m''
              rotate_left
              · rfl
              iterate 2
               refine steady_go (a' := ?_) (by kernel_rfl) ?_ (fun w' hw' K Q hK => ?_) ?_
               rotate_left 2
               · go_wp2_with fail; exact hK _ (Mod.refl _ _)
               rotate_left
               · rfl
              refine steady_go (a' := ?_) (by kernel_rfl) ?_ (fun w' hw' K Q hK => ?_) ?_
              rotate_left 2
              · go_wp2_with fail
                refine ((calls_mod HA.out) _ hw').mono ?_
                rintro e w'' ⟨rfl, m''⟩
                go_wp2_with fail
                exact hK _ m''
              rotate_left
              · rfl
              iterate 2
               refine steady_go (a' := ?_) (by kernel_rfl) ?_ (fun w' hw' K Q hK => ?_) ?_
               rotate_left 2
               · go_wp2_with fail; exact hK _ (Mod.refl _ _)
               rotate_left
               · rfl
              refine steady_go (a' := ?_) (by kernel_rfl) ?_ (fun w' hw' K Q hK => ?_) ?_
              rotate_left 2
              · go_wp2_with fail
                refine ((calls_mod S2.out) _ hw').mono ?_
                rintro e w'' ⟨rfl, m''⟩
                go_wp2_with fail
                exact hK _ m''
              rotate_left
              · rfl
              iterate 2
               refine steady_go (a' := ?_) (by kernel_rfl) ?_ (fun w' hw' K Q hK => ?_) ?_
               rotate_left 2
               · go_wp2_with fail; exact hK _ (Mod.refl _ _)
               rotate_left
               · rfl
              refine steady_go (a' := ?_) (by kernel_rfl) ?_ (fun w' hw' K Q hK => ?_) ?_
              rotate_left 2
              · go_wp2_with fail
                refine ((calls_mod HB.out) _ hw').mono ?_
                rintro e w'' ⟨rfl, m''⟩
                go_wp2_with fail
                exact hK _ m''
              rotate_left
              · rfl
              refine steady_go (a' := ?_) (by kernel_rfl) ?_ (fun w' hw' K Q hK => ?_) ?_
              rotate_left 2
              · go_wp2_with fail
                refine ((calls_mod DD.out) _ hw').mono ?_
                rintro e w'' ⟨rfl, m''⟩
                go_wp2_with fail
                exact hK _ m''
              rotate_left
              · rfl
              iterate 2
               refine steady_go (a' := ?_) (by kernel_rfl) ?_ (fun w' hw' K Q hK => ?_) ?_
               rotate_left 2
               · go_wp2_with fail; exact hK _ (Mod.refl _ _)
               rotate_left
               · rfl
              refine steady_go (a' := ?_) (by kernel_rfl) ?_ (fun w' hw' K Q hK => ?_) ?_
              rotate_left 2
              · go_wp2_with fail
                refine ((calls_mod HC.out) _ hw').mono ?_
                rintro e w'' ⟨rfl, m''⟩
                go_wp2_with fail
                exact hK _ m''
              rotate_left
              · rfl
              refine steady_done ?_
              refine lates_end (fun w' hw' _ => ?_)
              simp only [List.drop_succ_cons, List.drop_zero]
              have TZ := Lib.hid (T11.out.call hw')
              clear A1 A3 A4 A5 T11 hw'
              obtain ⟨q0, q1, z0, z1⟩ := (TZ.out.at 2 rfl).two
              go_wp2_with fail
              obtain ⟨r0, r1, M⟩ := told_end TZ.out 2 rfl (.int .i64 da) (.int .i64 db)
              have HM := Lib.hid M
              clear M z0 z1 q0 q1
              generalize (w'.setCell ⟨w.heap.size + 1 + 1, 0, none⟩ (.int .i64 da)).setCell ⟨w.heap.size + 1 + 1, 1, none⟩ (.int .i64 db) = W9 at *
              have hv : rr = some (da, db) := HV.out
              exact bodyPost_ret (v := .agg #[.int .i64 da, .int .i64 db]) (by simp [results, Try.results38, go_sem, r0, r1]) rfl (by rw [hv]; exact ⟨rfl, HM.out⟩)
            · rename_i hq2
              subst hq
              obtain ⟨xa, xb, xc⟩ := u1
              obtain ⟨ya, yb, yc⟩ := u2
              simp only at hq2
              clear h0 h1 h2 h3 h4 HR
              cases xc with
              | false =>
                have HN := Lib.hid (fun W => must_no xa xb W)
                clear hq2
                go_upto_region 9 with fail
                have A1 := (T11.out.at 1 rfl).every
                have A3 := (T11.out.at 3 rfl).every
                have A4 := (T11.out.at 4 rfl).every
                have A5 := (T11.out.at 5 rfl).every
                refine Dm.wp_region_doom [true, true, true, true, true, false, true, true, false, false, false, false, false, false, false, false, false] [] 5 (fun c _ => c = [{ v := .iface 33 (.int .i64 3), recovered := false }]) (by kernel_rfl) rfl rfl (by kernel_rfl) ?hAlD389 ?hQ ?mainD389
                case hAlD389 => (intro i hi; cases hi)
                case mainD389 =>
                  simp only [pickM]
                  iterate 2
                   refine steady_go (a' := ?_) (by kernel_rfl) ?_ (fun w' hw' K Q hK => ?_) ?_
                   rotate_left 2
                   · go_wp2_with fail; exact hK _ (Mod.refl _ _)
                   rotate_left
                   · rfl
                  refine steady_go (a' := ?_) (by kernel_rfl) ?_ (fun w' hw' K Q hK => ?_) ?_
                  rotate_left 2
                  · go_wp2_with fail
                    refine ((calls_mod S1.out) _ hw').mono ?_
                    rintro e w'' ⟨rfl, m''⟩
                    go_wp2_with fail
                    exact hK _ m''
                  rotate_left
                  · rfl
                  iterate 4
                   refine steady_go (a' := ?_) (by kernel_rfl) ?_ (fun w' hw' K Q hK => ?_) ?_
                   rotate_left 2
                   · go_wp2_with fail; exact hK _ (Mod.refl _ _)
                   rotate_left
                   · rfl
                  refine steady_done ?_
                  intro w' hw'
                  go_wp2_with fail
                  refine (HN.out _).mono ?_
                  rintro e' w4 ⟨rfl, m4⟩
                  go_wp2_with fail
                  exact hw'.then m4
                case hQ =>
                  intro c a' w' hG hm hc
                  subst hc
                  exact ⟨hG.defers, rfl, T11.out.mod.then hm⟩
              | true =>
                have HA := Lib.hid (fun W => must_ok xa xb W)
                cases yc with
                | false =>
                  have HN := Lib.hid (fun W => must_no ya yb W)
                  clear hq2
                  go_upto_region 9 with fail
                  have A1 := (T11.out.at 1 rfl).every
                  have A3 := (T11.out.at 3 rfl).every
                  have A4 := (T11.out.at 4 rfl).every
                  have A5 := (T11.out.at 5 rfl).every
                  refine Dm.wp_region_doom [true, true, true, true, true, true, true, true, true, true, true, false, false, false, false, false, false] [] 11 (fun c _ => c = [{ v := .iface 33 (.int .i64 3), recovered := false }]) (by kernel_rfl) rfl rfl (by kernel_rfl) ?hAlD454 ?hQ ?mainD454
                  case hAlD454 => (intro i hi; cases hi)
                  case mainD454 =>
                    simp only [pickM]
                    iterate 2
                     refine steady_go (a' := ?_) (by kernel_rfl) ?_ (fun w' hw' K Q hK => ?_) ?_
                     rotate_left 2
                     · go_wp2_with fail; exact hK _ (Mod.refl _ _)
                     rotate_left
                     · rfl
                    refine steady_go (a' := ?_) (by kernel_rfl) ?_ (fun w' hw' K Q hK => ?_) ?_
                    rotate_left 2
                    · go_wp2_with fail
                      refine ((calls_mod S1.out) _ hw').mono ?_
                      rintro e w'' ⟨rfl, m''⟩
                      go_wp2_with fail
                      exact hK _ m''
                    rotate_left
                    · rfl
                    iterate 2
                     refine steady_go (a' := ?_) (by kernel_rfl) ?_ (fun w' hw' K Q hK => ?_) ?_
                     rotate_left 2
                     · go_wp2_with fail; exact hK _ (Mod.refl _ _)
                     rotate_left
                     · rfl
                    refine steady_go (a' := ?_) (by kernel_rfl) ?_ (fun w' hw' K Q hK => ?_) ?_
                    rotate_left 2
                    · go_wp2_with fail
                      refine ((calls_mod HA.out) _ hw').mono ?_
                      rintro e w'' ⟨rfl, m''⟩
                      go_wp2_with fail
                      exact hK _ m''
                    rotate_left
                    · rfl
                    iterate 2
                     refine steady_go (a' := ?_) (by kernel_rfl) ?_ (fun w' hw' K Q hK => ?_) ?_
                     rotate_left 2
                     · go_wp2_with fail; exact hK _ (Mod.refl _ _)
                     rotate_left
                     · rfl
                    refine steady_go (a' := ?_) (by kernel_rfl) ?_ (fun w' hw' K Q hK => ?_) ?_
                    rotate_left 2
                    · go_wp2_with fail
                      refine ((calls_mod S2.out) _ hw').mono ?_
                      rintro e w'' ⟨rfl, m''⟩
                      go_wp2_with fail
                      exact hK _ m''
                    rotate_left
                    · rfl
                    iterate 2
                     refine steady_go (a' := ?_) (by kernel_rfl) ?_ (fun w' hw' K Q hK => ?_) ?_
                     rotate_left 2
                     · go_wp2_with fail; exact hK _ (Mod.refl _ _)
                     rotate_left
                     · rfl
                    refine steady_done ?_
                    intro w' hw'
                    go_wp2_with fail
                    refine (HN.out _).mono ?_
                    rintro e' w4 ⟨rfl, m4⟩
                    go_wp2_with fail
                    exact hw'.then m4
                  case hQ =>
                    intro c a' w' hG hm hc
                    subst hc
                    exact ⟨hG.defers, rfl, T11.out.mod.then hm⟩
                | true =>
                  have HB := Lib.hid (fun W => must_ok ya yb W)
                  have DD := Lib.hid (fun W => D1.out W xa xb ya yb I1.out.1 I1.out.2 I2.out.1 I2.out.2)
                  obtain ⟨⟨da, db, dc⟩, hdv⟩ : ∃ t, Rat.divR xa xb ya yb = t := ⟨_, rfl⟩
                  rw [hdv] at DD hq2
                  simp only [true_and] at hq2
                  obtain rfl : dc = false := by simpa using hq2
                  have HN := Lib.hid (fun W => must_no da db W)
                  clear hq2 hdv
                  go_upto_region 9 with fail
                  have A1 := (T11.out.at 1 rfl).every
                  have A3 := (T11.out.at 3 rfl).every
                  have A4 := (T11.out.at 4 rfl).every
                  have A5 := (T11.out.at 5 rfl).every
                  refine Dm.wp_region_doom [true, true, true, true, true, true, true, true, true, true, true, true, true, true, true, false, false] [] 15 (fun c _ => c = [{ v := .iface 33 (.int .i64 3), recovered := false }]) (by kernel_rfl) rfl rfl (by kernel_rfl) ?hAlD550 ?hQ ?mainD550
                  case hAlD550 => (intro i hi; cases hi)
                  case mainD550 =>
                    simp only [pickM]
                    iterate 2
                     refine steady_go (a' := ?_) (by kernel_rfl) ?_ (fun w' hw' K Q hK => ?_) ?_
                     rotate_left 2
                     · go_wp2_with fail; exact hK _ (Mod.refl _ _)
                     rotate_left
                     · rfl
                    refine steady_go (a' := ?_) (by kernel_rfl) ?_ (fun w' hw' K Q hK => ?_) ?_
                    rotate_left 2
                    · go_wp2_with fail
                      refine ((calls_mod S1.out) _ hw').mono ?_
                      rintro e w'' ⟨rfl, m''⟩
                      go_wp2_with fail
                      exact hK _ m''
                    rotate_left
                    · rfl
                    iterate 2
                     refine steady_go (a' := ?_) (by kernel_rfl) ?_ (fun w' hw' K Q hK => ?_) ?_
                     rotate_left 2
                     · go_wp2_with fail; exact hK _ (Mod.refl _ _)
                     rotate_left
                     · rfl
                    refine steady_go (a' := ?_) (by kernel_rfl) ?_ (fun w' hw' K Q hK => ?_) ?_
                    rotate_left 2
                    · go_wp2_with fail
                      refine ((calls_mod HA.out) _ hw').mono ?_
                      rintro e w'' ⟨rfl, m''⟩
                      go_wp2_with fail
                      exact hK _ m''
                    rotate_left
                    · rfl
                    iterate 2
                     refine steady_go (a' := ?_) (by kernel_rfl) ?_ (fun w' hw' K Q hK => ?_) ?_
                     rotate_left 2
                     · go_wp2_with fail; exact hK _ (Mod.refl _ _)
                     rotate_left
                     · rfl
                    refine steady_go (a' := ?_) (by kernel_rfl) ?_ (fun w' hw' K Q hK => ?_) ?_
                    rotate_left 2
                    · go_wp2_with fail
                      refine ((calls_mod S2.out) _ hw').mono ?_
                      rintro e w'' ⟨rfl, m''⟩
                      go_wp2_with fail
                      exact hK _ m''
                    rotate_left
                    · rfl
                    iterate 2
                     refine steady_go (a' := ?_) (by kernel_rfl) ?_ (fun w' hw' K Q hK => ?_) ?_
                     rotate_left 2
                     · go_wp2_with fail; exact hK _ (Mod.refl _ _)
                     rotate_left
                     · rfl
                    refine steady_go (a' := ?_) (by kernel_rfl) ?_ (fun w' hw' K Q hK => ?_) ?_
                    rotate_left 2
                    · go_wp2_with fail
                      refine ((calls_mod HB.out) _ hw').mono ?_
                      rintro e w'' ⟨rfl, m''⟩
                      go_wp2_with fail
                      exact hK _ m''
                    rotate_left
                    · rfl
                    refine steady_go (a' := ?_) (by kernel_rfl) ?_ (fun w' hw' K Q hK => ?_) ?_
                    rotate_left 2
                    · go_wp2_with fail
                      refine ((calls_mod DD.out) _ hw').mono ?_
                      rintro e w'' ⟨rfl, m''⟩
                      go_wp2_with fail
                      exact hK _ m''
                    rotate_left
                    · rfl
                    iterate 2
                     refine steady_go (a' := ?_) (by kernel_rfl) ?_ (fun w' hw' K Q hK => ?_) ?_
                     rotate_left 2
                     · go_wp2_with fail; exact hK _ (Mod.refl _ _)
                     rotate_left
                     · rfl
                    refine steady_done ?_
                    intro w' hw'
                    go_wp2_with fail
                    refine (HN.out _).mono ?_
                    rintro e' w4 ⟨rfl, m4⟩
                    go_wp2_with fail
                    exact hw'.then m4
                  case hQ =>
                    intro c a' w' hG hm hc
                    subst hc
                    exact ⟨hG.defers, rfl, T11.out.mod.then hm⟩
          · have k4 : decide (c1 < 0) = false := decide_eq_false h4
            have hq := HR.out
            rw [if_neg (fun h => h.elim h0 h1), if_neg (show ¬ (c2 ≤ 0 ∨ 0 ≤ c3) by omega), if_neg h4] at hq
            unfold Vr.quot at hq
            split at hq
            · rename_i hq2
              obtain ⟨xa, xb, xc⟩ := u3
              obtain ⟨ya, yb, yc⟩ := u4
              simp only at hq hq2
              obtain ⟨rfl, rfl, hq3⟩ := hq2
              have DD := Lib.hid (fun W => D1.out W xa xb ya yb I3.out.1 I3.out.2 I4.out.1 I4.out.2)
              obtain ⟨⟨da, db, dc⟩, hdv⟩ : ∃ t, Rat.divR xa xb ya yb = t := ⟨_, rfl⟩
              rw [hdv] at DD hq hq3
              simp only at hq hq3
              subst hq3
              have HV : Hid (rr = some (da, db)) := Lib.hid hq.symm
              have HA := Lib.hid (fun W => must_ok xa xb W)
              have HB := Lib.hid (fun W => must_ok ya yb W)
              have HC := Lib.hid (fun W => must_ok da db W)
              clear h0 h1 h2 h3 h4 hq HR hdv
              go_upto_region 10 with fail
              have A1 := (T11.out.at 1 rfl).every
              have A3 := (T11.out.at 3 rfl).every
              have A4 := (T11.out.at 4 rfl).every
              have A5 := (T11.out.at 5 rfl).every
              refine wp_region_mask 16 [true, true, true, true, true, true, true, true, true, true, true, true, true, true, true, true] [] (by kernel_rfl) (by kernel_rfl) (by simp) ?_
              simp only [pickM]
              iterate 2
               refine steady_go (a' := ?_) (by kernel_rfl) ?_ (fun w' hw' K Q hK => ?_) ?_
               rotate_left 2
               · go_wp2_with fail; exact hK _ (Mod.refl _ _)
               rotate_left
               · rfl
              refine steady_go (a' := ?_) (by kernel_rfl) ?_ (fun w' hw' K Q hK => ?_) ?_
              rotate_left 2
              · go_wp2_with fail
                refine ((calls_mod S3.out) _ hw').mono ?_
                rintro e w'' ⟨rfl, m''⟩
                go_wp2_with fail
                exact hK _ m''
              rotate_left
              · rfl
              iterate 2
               refine steady_go (a' := ?_) (by kernel_rfl) ?_ (fun w' hw' K Q hK => ?_) ?_
               rotate_left 2
               · go_wp2_with fail; exact hK _ (Mod.refl _ _)
               rotate_left
               · rfl
              refine steady_go (a' := ?_) (by kernel_rfl) ?_ (fun w' hw' K Q hK => ?_) ?_
              rotate_left 2
              · go_wp2_with fail
                refine ((calls_mod HA.out) _ hw').mono ?_
                rintro e w'' ⟨rfl, m''⟩
                go_wp2_with fail
                exact hK _ m''
              rotate_left
              · rfl
              iterate 2
               refine steady_go (a' := ?_) (by kernel_rfl) ?_ (fun w' hw' K Q hK => ?_) ?_
               rotate_left 2
               · go_wp2_with fail; exact hK _ (Mod.refl _ _)
               rotate_left
               · rfl
              refine steady_go (a' := ?_) (by kernel_rfl) ?_ (fun w' hw' K Q hK => ?_) ?_
              rotate_left 2
              · go_wp2_with fail
                refine ((calls_mod S4.out) _ hw').mono ?_
                rintro e w'' ⟨rfl, m''⟩
                go_wp2_with fail
                exact hK _ m''
              rotate_left
              · rfl
              iterate 2
               refine steady_go (a' := ?_) (by kernel_rfl) ?_ (fun w' hw' K Q hK => ?_) ?_
               rotate_left 2
               · go_wp2_with fail; exact hK _ (Mod.refl _ _)
               rotate_left
               · rfl
              refine steady_go (a' := ?_) (by kernel_rfl) ?_ (fun w' hw' K Q hK => ?_) ?_
              rotate_left 2
              · go_wp2_with fail
                refine ((calls_mod HB.out) _ hw').mono ?_
                rintro e w'' ⟨rfl, m''⟩
                go_wp2_with fail
                exact hK _ m''
              rotate_left
              · rfl
              refine steady_go (a' := ?_) (by kernel_rfl) ?_ (fun w' hw' K Q hK => ?_) ?_
              rotate_left 2
              · go_wp2_with fail
                refine ((calls_mod DD.out) _ hw').mono ?_
                rintro e w'' ⟨rfl, m''⟩
                go_wp2_with fail
                exact hK _ m''
              rotate_left
              · rfl
              iterate 2
               refine steady_go (a' := ?_) (by kernel_rfl) ?_ (fun w' hw' K Q hK => ?_) ?_
               rotate_left 2
               · go_wp2_with fail; exact hK _ (Mod.refl _ _)
               rotate_left
               · rfl
              refine steady_go (a' := ?_) (by kernel_rfl) ?_ (fun w' hw' K Q hK => ?_) ?_
              rotate_left 2
              · go_wp2_with fail
                refine ((calls_mod HC.out) _ hw').mono ?_
                rintro e w'' ⟨rfl, m''⟩
                go_wp2_with fail
                exact hK _ m''
              rotate_left
              · rfl
              refine steady_done ?_
              refine lates_end (fun w' hw' _ => ?_)
              simp only [List.drop_succ_cons, List.drop_zero]
              have TZ := Lib.hid (T11.out.call hw')
              clear A1 A3 A4 A5 T11 hw'
              obtain ⟨q0, q1, z0, z1⟩ := (TZ.out.at 2 rfl).two
              go_wp2_with fail
              obtain ⟨r0, r1, M⟩ := told_end TZ.out 2 rfl (.int .i64 da) (.int .i64 db)
              have HM := Lib.hid M
              clear M z0 z1 q0 q1
              generalize (w'.setCell ⟨w.heap.size + 1 + 1, 0, none⟩ (.int .i64 da)).setCell ⟨w.heap.size + 1 + 1, 1, none⟩ (.int .i64 db) = W9 at *
              have hv : rr = some (da, db) := HV.out
              exact bodyPost_ret (v := .agg #[.int .i64 da, .int .i64 db]) (by simp [results, Try.results38, go_sem, r0, r1]) rfl (by rw [hv]; exact ⟨rfl, HM.out⟩)
            · rename_i hq2
              subst hq
              obtain ⟨xa, xb, xc⟩ := u3
              obtain ⟨ya, yb, yc⟩ := u4
              simp only at hq2
              clear h0 h1 h2 h3 h4 HR
              cases xc with
              | false =>
                have HN := Lib.hid (fun W => must_no xa xb W)
                clear hq2
                go_upto_region 10 with fail
                have A1 := (T11.out.at 1 rfl).every
                have A3 := (T11.out.at 3 rfl).every
                have A4 := (T11.out.at 4 rfl).every
                have A5 := (T11.out.at 5 rfl).every
                refine Dm.wp_region_doom [true, true, true, true, true, false, true, true, false, false, false, false, false, false, false, false, false] [] 5 (fun c _ => c = [{ v := .iface 33 (.int .i64 3), recovered := false }]) (by kernel_rfl) rfl rfl (by kernel_rfl) ?hAlD819 ?hQ ?mainD819
                case hAlD819 => (intro i hi; cases hi)
                case mainD819 =>
                  simp only [pickM]
                  iterate 2
                   refine steady_go (a' := ?_) (by kernel_rfl) ?_ (fun w' hw' K Q hK => ?_) ?_
                   rotate_left 2
                   · go_wp2_with fail; exact hK _ (Mod.refl _ _)
                   rotate_left
                   · rfl
                  refine steady_go (a' := ?_) (by kernel_rfl) ?_ (fun w' hw' K Q hK => ?_) ?_
                  rotate_left 2
                  · go_wp2_with fail
                    refine ((calls_mod S3.out) _ hw').mono ?_
                    rintro e w'' ⟨rfl, m''⟩
                    go_wp2_with fail
                    exact hK _ m''
                  rotate_left
                  · rfl
                  iterate 4
                   refine steady_go (a' := ?_) (by kernel_rfl) ?_ (fun w' hw' K Q hK => ?_) ?_
                   rotate_left 2
                   · go_wp2_with fail; exact hK _ (Mod.refl _ _)
                   rotate_left
                   · rfl
                  refine steady_done ?_
                  intro w' hw'
                  go_wp2_with fail
                  refine (HN.out _).mono ?_
                  rintro e' w4 ⟨rfl, m4⟩
                  go_wp2_with fail
                  exact hw'.then m4
                case hQ =>
                  intro c a' w' hG hm hc
                  subst hc
                  exact ⟨hG.defers, rfl, T11.out.mod.then hm⟩
              | true =>
                have HA := Lib.hid (fun W => must_ok xa xb W)
                cases yc with
                | false =>
                  have HN := Lib.hid (fun W => must_no ya yb W)
                  clear hq2
                  go_upto_region 10 with fail
                  have A1 := (T11.out.at 1 rfl).every
                  have A3 := (T11.out.at 3 rfl).every
                  have A4 := (T11.out.at 4 rfl).every
                  have A5 := (T11.out.at 5 rfl).every
                  refine Dm.wp_region_doom [true, true, true, true, true, true, true, true, true, true, true, false, false, false, false, false, false] [] 11 (fun c _ => c = [{ v := .iface 33 (.int .i64 3), recovered := false }]) (by kernel_rfl) rfl rfl (by kernel_rfl) ?hAlD884 ?hQ ?mainD884
                  case hAlD884 => (intro i hi; cases hi)
                  case mainD884 =>
                    simp only [pickM]
                    iterate 2
                     refine steady_go (a' := ?_) (by kernel_rfl) ?_ (fun w' hw' K Q hK => ?_) ?_
                     rotate_left 2
                     · go_wp2_with fail; exact hK _ (Mod.refl _ _)
                     rotate_left
                     · rfl
                    refine steady_go (a' := ?_) (by kernel_rfl) ?_ (fun w' hw' K Q hK => ?_) ?_
                    rotate_left 2
                    · go_wp2_with fail
                      refine ((calls_mod S3.out) _ hw').mono ?_
                      rintro e w'' ⟨rfl, m''⟩
                      go_wp2_with fail
                      exact hK _ m''
                    rotate_left
                    · rfl
                    iterate 2
                     refine steady_go (a' := ?_) (by kernel_rfl) ?_ (fun w' hw' K Q hK => ?_) ?_
                     rotate_left 2
                     · go_wp2_with fail; exact hK _ (Mod.refl _ _)
                     rotate_left
                     · rfl
                    refine steady_go (a' := ?_) (by kernel_rfl) ?_ (fun w' hw' K Q hK => ?_) ?_
                    rotate_left 2
                    · go_wp2_with fail
                      refine ((calls_mod HA.out) _ hw').mono ?_
                      rintro e w'' ⟨rfl, m''⟩
                      go_wp2_with fail
                      exact hK _ m''
                    rotate_left
                    · rfl
                    iterate 2
                     refine steady_go (a' := ?_) (by kernel_rfl) ?_ (fun w' hw' K Q hK => ?_) ?_
                     rotate_left 2
                     · go_wp2_with fail; exact hK _ (Mod.refl _ _)
                     rotate_left
                     · rfl
                    refine steady_go (a' := ?_) (by kernel_rfl) ?_ (fun w' hw' K Q hK => ?_) ?_
                    rotate_left 2
                    · go_wp2_with fail
                      refine ((calls_mod S4.out) _ hw').mono ?_
                      rintro e w'' ⟨rfl, m''⟩
                      go_wp2_with fail
                      exact hK _ m''
                    rotate_left
                    · rfl
                    iterate 2
                     refine steady_go (a' := ?_) (by kernel_rfl) ?_ (fun w' hw' K Q hK => ?_) ?_
                     rotate_left 2
                     · go_wp2_with fail; exact hK _ (Mod.refl _ _)
                     rotate_left
                     · rfl
                    refine steady_done ?_
                    intro w' hw'
                    go_wp2_with fail
                    refine (HN.out _).mono ?_
                    rintro e' w4 ⟨rfl, m4⟩
                    go_wp2_with fail
                    exact hw'.then m4
                  case hQ =>
                    intro c a' w' hG hm hc
                    subst hc
                    exact ⟨hG.defers, rfl, T11.out.mod.then hm⟩
                | true =>
                  have HB := Lib.hid (fun W => must_ok ya yb W)
                  have DD := Lib.hid (fun W => D1.out W xa xb ya yb I3.out.1 I3.out.2 I4.out.1 I4.out.2)
                  obtain ⟨⟨da, db, dc⟩, hdv⟩ : ∃ t, Rat.divR xa xb ya yb = t := ⟨_, rfl⟩
                  rw [hdv] at DD hq2
                  simp only [true_and] at hq2
                  obtain rfl : dc = false := by simpa using hq2
                  have HN := Lib.hid (fun W => must_no da db W)
                  clear hq2 hdv
                  go_upto_region 10 with fail
                  have A1 := (T11.out.at 1 rfl).every
                  have A3 := (T11.out.at 3 rfl).every
                  have A4 := (T11.out.at 4 rfl).every
                  have A5 := (T11.out.at 5 rfl).every
                  refine Dm.wp_region_doom [true, true, true, true, true, true, true, true, true, true, true, true, true, true, true, false, false] [] 15 (fun c _ => c = [{ v := .iface 33 (.int .i64 3), recovered := false }]) (by kernel_rfl) rfl rfl (by kernel_rfl) ?hAlD980 ?hQ ?mainD980
                  case hAlD980 => (intro i hi; cases hi)
                  case mainD980 =>
                    simp only [pickM]
                    iterate 2
                     refine steady_go (a' := ?_) (by kernel_rfl) ?_ (fun w' hw' K Q hK => ?_) ?_
                     rotate_left 2
                     · go_wp2_with fail; exact hK _ (Mod.refl _ _)
                     rotate_left
                     · rfl
                    refine steady_go (a' := ?_) (by kernel_rfl) ?_ (fun w' hw' K Q hK => ?_) ?_
                    rotate_left 2
                    · go_wp2_with fail
                      refine ((calls_mod S3.out) _ hw').mono ?_
                      rintro e w'' ⟨rfl, m''⟩
                      go_wp2_with fail
                      exact hK _ m''
                    rotate_left
                    · rfl
                    iterate 2
                     refine steady_go (a' := ?_) (by kernel_rfl) ?_ (fun w' hw' K Q hK => ?_) ?_
                     rotate_left 2
                     · go_wp2_with fail; exact hK _ (Mod.refl _ _)
                     rotate_left
                     · rfl
                    refine steady_go (a' := ?_) (by kernel_rfl) ?_ (fun w' hw' K Q hK => ?_) ?_
                    rotate_left 2
                    · go_wp2_with fail
                      refine ((calls_mod HA.out) _ hw').mono ?_
                      rintro e w'' ⟨rfl, m''⟩
                      go_wp2_with fail
                      exact hK _ m''
                    rotate_left
                    · rfl
                    iterate 2
                     refine steady_go (a' := ?_) (by kernel_rfl) ?_ (fun w' hw' K Q hK => ?_) ?_
                     rotate_left 2
                     · go_wp2_with fail; exact hK _ (Mod.refl _ _)
                     rotate_left
                     · rfl
                    refine steady_go (a' := ?_) (by kernel_rfl) ?_ (fun w' hw' K Q hK => ?_) ?_
                    rotate_left 2
                    · go_wp2_with fail
                      refine ((calls_mod S4.out) _ hw').mono ?_
                      rintro e w'' ⟨rfl, m''⟩
                      go_wp2_with fail
                      exact hK _ m''
                    rotate_left
                    · rfl
                    iterate 2
                     refine steady_go (a' := ?_) (by kernel_rfl) ?_ (fun w' hw' K Q hK => ?_) ?_
                     rotate_left 2
                     · go_wp2_with fail; exact hK _ (Mod.refl _ _)
                     rotate_left
                     · rfl
                    refine steady_go (a' := ?_) (by kernel_rfl) ?_ (fun w' hw' K Q hK => ?_) ?_
                    rotate_left 2
                    · go_wp2_with fail
                      refine ((calls_mod HB.out) _ hw').mono ?_
                      rintro e w'' ⟨rfl, m''⟩
                      go_wp2_with fail
                      exact hK _ m''
                    rotate_left
                    · rfl
                    refine steady_go (a' := ?_) (by kernel_rfl) ?_ (fun w' hw' K Q hK => ?_) ?_
                    rotate_left 2
                    · go_wp2_with fail
                      refine ((calls_mod DD.out) _ hw').mono ?_
                      rintro e w'' ⟨rfl, m''⟩
                      go_wp2_with fail
                      exact hK _ m''
                    rotate_left
                    · rfl
                    iterate 2
                     refine steady_go (a' := ?_) (by kernel_rfl) ?_ (fun w' hw' K Q hK => ?_) ?_
                     rotate_left 2
                     · go_wp2_with fail; exact hK _ (Mod.refl _ _)
                     rotate_left
                     · rfl
                    refine steady_done ?_
                    intro w' hw'
                    go_wp2_with fail
                    refine (HN.out _).mono ?_
                    rintro e' w4 ⟨rfl, m4⟩
                    go_wp2_with fail
                    exact hw'.then m4
                  case hQ =>
                    intro c a' w' hG hm hc
                    subst hc
                    exact ⟨hG.defers, rfl, T11.out.mod.then hm⟩
end Go.Proofs.Ytaloembfekdkoaa

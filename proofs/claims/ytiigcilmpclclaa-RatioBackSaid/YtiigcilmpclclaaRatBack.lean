/- RatioBack: the walk. (Printed by gen_back2.py.) -/
import Derived.Test.YtiigcilmpclclaaRatSm
namespace Go.Proofs.Ytiigcilmpclclaa
open Go.RowKit
set_option linter.unusedVariables false

set_option maxHeartbeats 1000000 in
theorem back_no1_true (x0 x1 y0 y1 : Int) (w : World) (hx0 : -9223372036854775808 ≤ x0 ∧ x0 ≤ 9223372036854775807) (hx1 : -9223372036854775808 ≤ x1 ∧ x1 ≤ 9223372036854775807)
    (hy0 : -9223372036854775808 ≤ y0 ∧ y0 ≤ 9223372036854775807) (hy1 : -9223372036854775808 ≤ y1 ∧ y1 ≤ 9223372036854775807)
    (aN aD bN bD : Int) (e1 : Rat.makeR x0 x1 = (0, 0, false)) (e2 : Rat.makeR y0 y1 = (bN, bD, true)) :
    Calls Try.prog 12 #[.agg #[.int .i64 x0, .int .i64 x1], .agg #[.int .i64 y0, .int .i64 y1]] w fun e w' => e = .returned (.bool true) ∧ Below w.heap.size w w' := by
  have H1 := Lib.hid (fun W => make_any x0 x1 W hx0 hx1)
  have H2 := Lib.hid (fun W => make_any y0 y1 W hy0 hy1)
  rw [e1] at H1
  rw [e2] at H2
  clear e1 e2
  have T := Lib.hid (own2 w #[.int .i64 x0, .int .i64 x1] 40 #[.int .i64 y0, .int .i64 y1] 40)
  go_enter Try.func12, Try.ntmps12
  go_wp2_with fail
  refine (shown_any _).mono ?_
  rintro e w1 ⟨rfl, m⟩
  have T' := Lib.hid (T.out.call m)
  clear m T 
  have T := T'
  clear T'
  obtain ⟨f0, g0, -, -⟩ := (T.out.at 0 rfl).two
  go_wp2_with fail
  refine (H1.out _).mono ?_
  rintro e w2 ⟨rfl, m⟩
  have T' := Lib.hid ((T.out.call m).alloc #[.int .i64 0, .int .i64 0] 24)
  clear m T f0 g0
  have T := T'
  clear T'
  obtain ⟨f0, g0, -, -⟩ := (T.out.at 1 rfl).two
  go_wp2_with fail
  refine (H2.out _).mono ?_
  rintro e w3 ⟨rfl, m⟩
  have T' := Lib.hid ((T.out.call m).alloc #[.int .i64 bN, .int .i64 bD] 24)
  clear m T f0 g0
  have T := T'
  clear T'
  obtain ⟨f0, g0, -, -⟩ := (T.out.at 2 rfl).two
  obtain ⟨f1, g1, -, -⟩ := (T.out.at 3 rfl).two
  go_wp2_with fail
  go_ret
  exact ⟨rfl, T.out.mod.to_below⟩

set_option maxHeartbeats 1000000 in
theorem back_no1_false (x0 x1 y0 y1 : Int) (w : World) (hx0 : -9223372036854775808 ≤ x0 ∧ x0 ≤ 9223372036854775807) (hx1 : -9223372036854775808 ≤ x1 ∧ x1 ≤ 9223372036854775807)
    (hy0 : -9223372036854775808 ≤ y0 ∧ y0 ≤ 9223372036854775807) (hy1 : -9223372036854775808 ≤ y1 ∧ y1 ≤ 9223372036854775807)
    (aN aD bN bD : Int) (e1 : Rat.makeR x0 x1 = (0, 0, false)) (e2 : Rat.makeR y0 y1 = (0, 0, false)) :
    Calls Try.prog 12 #[.agg #[.int .i64 x0, .int .i64 x1], .agg #[.int .i64 y0, .int .i64 y1]] w fun e w' => e = .returned (.bool true) ∧ Below w.heap.size w w' := by
  have H1 := Lib.hid (fun W => make_any x0 x1 W hx0 hx1)
  have H2 := Lib.hid (fun W => make_any y0 y1 W hy0 hy1)
  rw [e1] at H1
  rw [e2] at H2
  clear e1 e2
  have T := Lib.hid (own2 w #[.int .i64 x0, .int .i64 x1] 40 #[.int .i64 y0, .int .i64 y1] 40)
  go_enter Try.func12, Try.ntmps12
  go_wp2_with fail
  refine (shown_any _).mono ?_
  rintro e w4 ⟨rfl, m⟩
  have T' := Lib.hid (T.out.call m)
  clear m T 
  have T := T'
  clear T'
  obtain ⟨f0, g0, -, -⟩ := (T.out.at 0 rfl).two
  go_wp2_with fail
  refine (H1.out _).mono ?_
  rintro e w5 ⟨rfl, m⟩
  have T' := Lib.hid ((T.out.call m).alloc #[.int .i64 0, .int .i64 0] 24)
  clear m T f0 g0
  have T := T'
  clear T'
  obtain ⟨f0, g0, -, -⟩ := (T.out.at 1 rfl).two
  go_wp2_with fail
  refine (H2.out _).mono ?_
  rintro e w6 ⟨rfl, m⟩
  have T' := Lib.hid ((T.out.call m).alloc #[.int .i64 0, .int .i64 0] 24)
  clear m T f0 g0
  have T := T'
  clear T'
  obtain ⟨f0, g0, -, -⟩ := (T.out.at 2 rfl).two
  obtain ⟨f1, g1, -, -⟩ := (T.out.at 3 rfl).two
  go_wp2_with fail
  go_ret
  exact ⟨rfl, T.out.mod.to_below⟩

set_option maxHeartbeats 1000000 in
theorem back_no2_true (x0 x1 y0 y1 : Int) (w : World) (hx0 : -9223372036854775808 ≤ x0 ∧ x0 ≤ 9223372036854775807) (hx1 : -9223372036854775808 ≤ x1 ∧ x1 ≤ 9223372036854775807)
    (hy0 : -9223372036854775808 ≤ y0 ∧ y0 ≤ 9223372036854775807) (hy1 : -9223372036854775808 ≤ y1 ∧ y1 ≤ 9223372036854775807)
    (aN aD bN bD : Int) (e1 : Rat.makeR x0 x1 = (aN, aD, true)) (e2 : Rat.makeR y0 y1 = (0, 0, false)) :
    Calls Try.prog 12 #[.agg #[.int .i64 x0, .int .i64 x1], .agg #[.int .i64 y0, .int .i64 y1]] w fun e w' => e = .returned (.bool true) ∧ Below w.heap.size w w' := by
  have H1 := Lib.hid (fun W => make_any x0 x1 W hx0 hx1)
  have H2 := Lib.hid (fun W => make_any y0 y1 W hy0 hy1)
  rw [e1] at H1
  rw [e2] at H2
  clear e1 e2
  have T := Lib.hid (own2 w #[.int .i64 x0, .int .i64 x1] 40 #[.int .i64 y0, .int .i64 y1] 40)
  go_enter Try.func12, Try.ntmps12
  go_wp2_with fail
  refine (shown_any _).mono ?_
  rintro e w7 ⟨rfl, m⟩
  have T' := Lib.hid (T.out.call m)
  clear m T 
  have T := T'
  clear T'
  obtain ⟨f0, g0, -, -⟩ := (T.out.at 0 rfl).two
  go_wp2_with fail
  refine (H1.out _).mono ?_
  rintro e w8 ⟨rfl, m⟩
  have T' := Lib.hid ((T.out.call m).alloc #[.int .i64 aN, .int .i64 aD] 24)
  clear m T f0 g0
  have T := T'
  clear T'
  obtain ⟨f0, g0, -, -⟩ := (T.out.at 1 rfl).two
  go_wp2_with fail
  refine (H2.out _).mono ?_
  rintro e w9 ⟨rfl, m⟩
  have T' := Lib.hid ((T.out.call m).alloc #[.int .i64 0, .int .i64 0] 24)
  clear m T f0 g0
  have T := T'
  clear T'
  obtain ⟨f0, g0, -, -⟩ := (T.out.at 2 rfl).two
  obtain ⟨f1, g1, -, -⟩ := (T.out.at 3 rfl).two
  go_wp2_with fail
  go_ret
  exact ⟨rfl, T.out.mod.to_below⟩

set_option maxHeartbeats 4000000 in
set_option maxRecDepth 100000 in
theorem back_yes (x0 x1 y0 y1 : Int) (w : World) (hx0 : -9223372036854775808 ≤ x0 ∧ x0 ≤ 9223372036854775807) (hx1 : -9223372036854775808 ≤ x1 ∧ x1 ≤ 9223372036854775807)
    (hy0 : -9223372036854775808 ≤ y0 ∧ y0 ≤ 9223372036854775807) (hy1 : -9223372036854775808 ≤ y1 ∧ y1 ≤ 9223372036854775807)
    (aN aD bN bD : Int) (e1 : Rat.makeR x0 x1 = (aN, aD, true)) (e2 : Rat.makeR y0 y1 = (bN, bD, true)) (ra : Rat.Rt aN aD) (rb : Rat.Rt bN bD) :
    Calls Try.prog 12 #[.agg #[.int .i64 x0, .int .i64 x1], .agg #[.int .i64 y0, .int .i64 y1]] w fun e w' => e = .returned (.bool true) ∧ Below w.heap.size w w' := by
  have H3 := Lib.hid (fun W => add_any aN aD bN bD W ra.bN ra.bD rb.bN rb.bD)
  have H4 := Lib.hid (fun W => mul_any aN aD bN bD W ra.bN ra.bD rb.bN rb.bD)
  have H5 := Lib.hid (fun W => div_any aN aD 0 1 W ra.bN ra.bD (by omega) (by omega))
  have H6 := Lib.hid (fun W => sub_any aN aD aN aD W ra.bN ra.bD ra.bN ra.bD)
  rw [Rat.div_zero] at H5
  rw [Rat.sub_self ra] at H6
  have q1 : (aN == aN) = true := by simp
  have q2 : (aD == aD) = true := by simp
  have H1 := Lib.hid (fun W => make_any x0 x1 W hx0 hx1)
  have H2 := Lib.hid (fun W => make_any y0 y1 W hy0 hy1)
  rw [e1] at H1
  rw [e2] at H2
  clear e1 e2
  have T := Lib.hid (own2 w #[.int .i64 x0, .int .i64 x1] 40 #[.int .i64 y0, .int .i64 y1] 40)
  go_enter Try.func12, Try.ntmps12
  go_wp2_with fail
  refine (shown_any _).mono ?_
  rintro e w10 ⟨rfl, m⟩
  have T' := Lib.hid (T.out.call m)
  clear m T 
  have T := T'
  clear T'
  obtain ⟨f0, g0, -, -⟩ := (T.out.at 0 rfl).two
  go_wp2_with fail
  refine (H1.out _).mono ?_
  rintro e w11 ⟨rfl, m⟩
  have T' := Lib.hid ((T.out.call m).alloc #[.int .i64 aN, .int .i64 aD] 24)
  clear m T f0 g0
  have T := T'
  clear T'
  obtain ⟨f0, g0, -, -⟩ := (T.out.at 1 rfl).two
  go_wp2_with fail
  refine (H2.out _).mono ?_
  rintro e w12 ⟨rfl, m⟩
  have T' := Lib.hid ((T.out.call m).alloc #[.int .i64 bN, .int .i64 bD] 24)
  clear m T f0 g0
  have T := T'
  clear T'
  rcases Rat.add_cases ra rb with ⟨sN, sD, es, rs, is⟩ | es
  · have H8 := Lib.hid (fun W => sub_any sN sD bN bD W rs.bN rs.bD rb.bN rb.bD)
    rw [Rat.sub_back ra rb rs is] at H8
    rw [es] at H3
    clear es
    obtain ⟨f0, g0, -, -⟩ := (T.out.at 2 rfl).two
    obtain ⟨f1, g1, -, -⟩ := (T.out.at 3 rfl).two
    go_wp2_with fail
    refine (H3.out _).mono ?_
    rintro e w13 ⟨rfl, m⟩
    have T' := Lib.hid ((T.out.call m).alloc #[.int .i64 sN, .int .i64 sD] 24)
    clear m T f0 g0 f1 g1
    have T := T'
    clear T'
    obtain ⟨f0, g0, -, -⟩ := (T.out.at 4 rfl).two
    obtain ⟨f1, g1, -, -⟩ := (T.out.at 3 rfl).two
    go_wp2_with fail
    refine (H8.out _).mono ?_
    rintro e w14 ⟨rfl, m⟩
    have T' := Lib.hid ((T.out.call m).alloc #[.int .i64 aN, .int .i64 aD] 24)
    clear m T f0 g0 f1 g1
    have T := T'
    clear T'
    obtain ⟨f6, g6, -, -⟩ := (T.out.at 5 rfl).two
    obtain ⟨f7, g7, -, -⟩ := (T.out.at 2 rfl).two
    rcases Rat.mul_cases ra rb with ⟨pN, pD, ep, rp, ip⟩ | ep
    · rw [ep] at H4
      clear ep
      obtain ⟨f0, g0, -, -⟩ := (T.out.at 2 rfl).two
      obtain ⟨f1, g1, -, -⟩ := (T.out.at 3 rfl).two
      go_wp2_with fail
      refine (H4.out _).mono ?_
      rintro e w20 ⟨rfl, m⟩
      have T' := Lib.hid ((T.out.call m).alloc #[.int .i64 pN, .int .i64 pD] 24)
      clear m T f0 g0 f1 g1 f6 g6 f7 g7
      have T := T'
      clear T'
      by_cases hz : bN = 0
      · have dz : (bN != 0) = false := by simpa using hz
        clear hz
        obtain ⟨b0, -, -, -⟩ := (T.out.at 3 rfl).two
        obtain ⟨f0, g0, -, -⟩ := (T.out.at 2 rfl).two
        go_wp2_with fail
        refine (H5.out _).mono ?_
        rintro e w15 ⟨rfl, m⟩
        have T' := Lib.hid ((T.out.call m).alloc #[.int .i64 0, .int .i64 0] 24)
        clear m T f0 g0 b0
        have T := T'
        clear T'
        obtain ⟨f0, g0, -, -⟩ := (T.out.at 2 rfl).two
        go_wp2_with fail
        refine (H6.out _).mono ?_
        rintro e w16 ⟨rfl, m⟩
        have T' := Lib.hid ((T.out.call m).alloc #[.int .i64 0, .int .i64 1] 24)
        clear m T f0 g0
        have T := T'
        clear T'
        obtain ⟨f0, g0, -, -⟩ := (T.out.at 8 rfl).two
        go_wp2_with fail
        go_ret
        exact ⟨rfl, T.out.mod.to_below⟩
      · have dz : (bN != 0) = true := by simpa using hz
        have H7 := Lib.hid (fun W => div_any pN pD bN bD W rp.bN rp.bD rb.bN rb.bD)
        rw [Rat.div_back ra rb rp hz ip] at H7
        clear hz
        obtain ⟨b0, -, -, -⟩ := (T.out.at 3 rfl).two
        obtain ⟨f0, g0, -, -⟩ := (T.out.at 6 rfl).two
        obtain ⟨f1, g1, -, -⟩ := (T.out.at 3 rfl).two
        clear b0
        obtain ⟨b0, -, -, -⟩ := (T.out.at 3 rfl).two
        go_wp2_with fail
        refine (H7.out _).mono ?_
        rintro e w17 ⟨rfl, m⟩
        have T' := Lib.hid ((T.out.call m).alloc #[.int .i64 aN, .int .i64 aD] 24)
        clear m T b0 f0 g0 f1 g1
        have T := T'
        clear T'
        obtain ⟨f8, g8, -, -⟩ := (T.out.at 7 rfl).two
        obtain ⟨f9, g9, -, -⟩ := (T.out.at 2 rfl).two
        obtain ⟨f0, g0, -, -⟩ := (T.out.at 2 rfl).two
        go_wp2_with fail
        refine (H5.out _).mono ?_
        rintro e w18 ⟨rfl, m⟩
        have T' := Lib.hid ((T.out.call m).alloc #[.int .i64 0, .int .i64 0] 24)
        clear m T f0 g0
        have T := T'
        clear T'
        obtain ⟨f0, g0, -, -⟩ := (T.out.at 2 rfl).two
        go_wp2_with fail
        refine (H6.out _).mono ?_
        rintro e w19 ⟨rfl, m⟩
        have T' := Lib.hid ((T.out.call m).alloc #[.int .i64 0, .int .i64 1] 24)
        clear m T f0 g0
        have T := T'
        clear T'
        obtain ⟨f0, g0, -, -⟩ := (T.out.at 9 rfl).two
        go_wp2_with fail
        go_ret
        exact ⟨rfl, T.out.mod.to_below⟩
    · rw [ep] at H4
      clear ep
      obtain ⟨f0, g0, -, -⟩ := (T.out.at 2 rfl).two
      obtain ⟨f1, g1, -, -⟩ := (T.out.at 3 rfl).two
      go_wp2_with fail
      refine (H4.out _).mono ?_
      rintro e w21 ⟨rfl, m⟩
      have T' := Lib.hid ((T.out.call m).alloc #[.int .i64 0, .int .i64 0] 24)
      clear m T f0 g0 f1 g1 f6 g6 f7 g7
      have T := T'
      clear T'
      obtain ⟨b0, -, -, -⟩ := (T.out.at 3 rfl).two
      obtain ⟨f0, g0, -, -⟩ := (T.out.at 2 rfl).two
      go_wp2_with fail
      refine (H5.out _).mono ?_
      rintro e w22 ⟨rfl, m⟩
      have T' := Lib.hid ((T.out.call m).alloc #[.int .i64 0, .int .i64 0] 24)
      clear m T f0 g0 b0
      have T := T'
      clear T'
      obtain ⟨f0, g0, -, -⟩ := (T.out.at 2 rfl).two
      go_wp2_with fail
      refine (H6.out _).mono ?_
      rintro e w23 ⟨rfl, m⟩
      have T' := Lib.hid ((T.out.call m).alloc #[.int .i64 0, .int .i64 1] 24)
      clear m T f0 g0
      have T := T'
      clear T'
      obtain ⟨f0, g0, -, -⟩ := (T.out.at 8 rfl).two
      go_wp2_with fail
      go_ret
      exact ⟨rfl, T.out.mod.to_below⟩
  · rw [es] at H3
    clear es
    obtain ⟨f0, g0, -, -⟩ := (T.out.at 2 rfl).two
    obtain ⟨f1, g1, -, -⟩ := (T.out.at 3 rfl).two
    go_wp2_with fail
    refine (H3.out _).mono ?_
    rintro e w24 ⟨rfl, m⟩
    have T' := Lib.hid ((T.out.call m).alloc #[.int .i64 0, .int .i64 0] 24)
    clear m T f0 g0 f1 g1
    have T := T'
    clear T'
    rcases Rat.mul_cases ra rb with ⟨pN, pD, ep, rp, ip⟩ | ep
    · rw [ep] at H4
      clear ep
      obtain ⟨f0, g0, -, -⟩ := (T.out.at 2 rfl).two
      obtain ⟨f1, g1, -, -⟩ := (T.out.at 3 rfl).two
      go_wp2_with fail
      refine (H4.out _).mono ?_
      rintro e w30 ⟨rfl, m⟩
      have T' := Lib.hid ((T.out.call m).alloc #[.int .i64 pN, .int .i64 pD] 24)
      clear m T f0 g0 f1 g1
      have T := T'
      clear T'
      by_cases hz : bN = 0
      · have dz : (bN != 0) = false := by simpa using hz
        clear hz
        obtain ⟨b0, -, -, -⟩ := (T.out.at 3 rfl).two
        obtain ⟨f0, g0, -, -⟩ := (T.out.at 2 rfl).two
        go_wp2_with fail
        refine (H5.out _).mono ?_
        rintro e w25 ⟨rfl, m⟩
        have T' := Lib.hid ((T.out.call m).alloc #[.int .i64 0, .int .i64 0] 24)
        clear m T f0 g0 b0
        have T := T'
        clear T'
        obtain ⟨f0, g0, -, -⟩ := (T.out.at 2 rfl).two
        go_wp2_with fail
        refine (H6.out _).mono ?_
        rintro e w26 ⟨rfl, m⟩
        have T' := Lib.hid ((T.out.call m).alloc #[.int .i64 0, .int .i64 1] 24)
        clear m T f0 g0
        have T := T'
        clear T'
        obtain ⟨f0, g0, -, -⟩ := (T.out.at 7 rfl).two
        go_wp2_with fail
        go_ret
        exact ⟨rfl, T.out.mod.to_below⟩
      · have dz : (bN != 0) = true := by simpa using hz
        have H7 := Lib.hid (fun W => div_any pN pD bN bD W rp.bN rp.bD rb.bN rb.bD)
        rw [Rat.div_back ra rb rp hz ip] at H7
        clear hz
        obtain ⟨b0, -, -, -⟩ := (T.out.at 3 rfl).two
        obtain ⟨f0, g0, -, -⟩ := (T.out.at 5 rfl).two
        obtain ⟨f1, g1, -, -⟩ := (T.out.at 3 rfl).two
        clear b0
        obtain ⟨b0, -, -, -⟩ := (T.out.at 3 rfl).two
        go_wp2_with fail
        refine (H7.out _).mono ?_
        rintro e w27 ⟨rfl, m⟩
        have T' := Lib.hid ((T.out.call m).alloc #[.int .i64 aN, .int .i64 aD] 24)
        clear m T b0 f0 g0 f1 g1
        have T := T'
        clear T'
        obtain ⟨f8, g8, -, -⟩ := (T.out.at 6 rfl).two
        obtain ⟨f9, g9, -, -⟩ := (T.out.at 2 rfl).two
        obtain ⟨f0, g0, -, -⟩ := (T.out.at 2 rfl).two
        go_wp2_with fail
        refine (H5.out _).mono ?_
        rintro e w28 ⟨rfl, m⟩
        have T' := Lib.hid ((T.out.call m).alloc #[.int .i64 0, .int .i64 0] 24)
        clear m T f0 g0
        have T := T'
        clear T'
        obtain ⟨f0, g0, -, -⟩ := (T.out.at 2 rfl).two
        go_wp2_with fail
        refine (H6.out _).mono ?_
        rintro e w29 ⟨rfl, m⟩
        have T' := Lib.hid ((T.out.call m).alloc #[.int .i64 0, .int .i64 1] 24)
        clear m T f0 g0
        have T := T'
        clear T'
        obtain ⟨f0, g0, -, -⟩ := (T.out.at 8 rfl).two
        go_wp2_with fail
        go_ret
        exact ⟨rfl, T.out.mod.to_below⟩
    · rw [ep] at H4
      clear ep
      obtain ⟨f0, g0, -, -⟩ := (T.out.at 2 rfl).two
      obtain ⟨f1, g1, -, -⟩ := (T.out.at 3 rfl).two
      go_wp2_with fail
      refine (H4.out _).mono ?_
      rintro e w31 ⟨rfl, m⟩
      have T' := Lib.hid ((T.out.call m).alloc #[.int .i64 0, .int .i64 0] 24)
      clear m T f0 g0 f1 g1
      have T := T'
      clear T'
      obtain ⟨b0, -, -, -⟩ := (T.out.at 3 rfl).two
      obtain ⟨f0, g0, -, -⟩ := (T.out.at 2 rfl).two
      go_wp2_with fail
      refine (H5.out _).mono ?_
      rintro e w32 ⟨rfl, m⟩
      have T' := Lib.hid ((T.out.call m).alloc #[.int .i64 0, .int .i64 0] 24)
      clear m T f0 g0 b0
      have T := T'
      clear T'
      obtain ⟨f0, g0, -, -⟩ := (T.out.at 2 rfl).two
      go_wp2_with fail
      refine (H6.out _).mono ?_
      rintro e w33 ⟨rfl, m⟩
      have T' := Lib.hid ((T.out.call m).alloc #[.int .i64 0, .int .i64 1] 24)
      clear m T f0 g0
      have T := T'
      clear T'
      obtain ⟨f0, g0, -, -⟩ := (T.out.at 7 rfl).two
      go_wp2_with fail
      go_ret
      exact ⟨rfl, T.out.mod.to_below⟩

theorem back_walk (x0 x1 y0 y1 : Int) (w : World) (hx0 : -9223372036854775808 ≤ x0 ∧ x0 ≤ 9223372036854775807) (hx1 : -9223372036854775808 ≤ x1 ∧ x1 ≤ 9223372036854775807)
    (hy0 : -9223372036854775808 ≤ y0 ∧ y0 ≤ 9223372036854775807) (hy1 : -9223372036854775808 ≤ y1 ∧ y1 ≤ 9223372036854775807) :
    Calls Try.prog 12 #[.agg #[.int .i64 x0, .int .i64 x1], .agg #[.int .i64 y0, .int .i64 y1]] w fun e w' => e = .returned (.bool true) ∧ Below w.heap.size w w' := by
  rcases Rat.make_cases x0 x1 with ⟨aN, aD, e1, ra, -, -⟩ | e1
  · rcases Rat.make_cases y0 y1 with ⟨bN, bD, e2, rb, -, -⟩ | e2
    · exact back_yes x0 x1 y0 y1 w hx0 hx1 hy0 hy1 aN aD bN bD e1 e2 ra rb
    · exact back_no2_true x0 x1 y0 y1 w hx0 hx1 hy0 hy1 aN aD 0 0 e1 e2
  · rcases Rat.make_cases y0 y1 with ⟨bN, bD, e2, rb, -, -⟩ | e2
    · exact back_no1_true x0 x1 y0 y1 w hx0 hx1 hy0 hy1 0 0 bN bD e1 e2
    · exact back_no1_false x0 x1 y0 y1 w hx0 hx1 hy0 hy1 0 0 0 0 e1 e2
end Go.Proofs.Ytiigcilmpclclaa

/- RatioOrder: the walk. (Printed by gen_order.py.) -/
import Derived.Test.YtiigcilmpclclaaRatSm
namespace Go.Proofs.Ytiigcilmpclclaa
open Go.RowKit
set_option linter.unusedVariables false

namespace Rat
theorem cmp_rt {a b c d : Int} (h : Rt a b) (h' : Rt c d) : cmpR a b c d = (a * d - c * b).sign := by unfold cmpR; rw [if_pos ⟨h.right, h'.right⟩]
theorem cmp_self {a b : Int} (h : Rt a b) : cmpR a b a b = 0 := by rw [cmp_rt h h, Int.sub_self]; rfl
theorem cmp_neg {a b c d : Int} (h : Rt a b) (h' : Rt c d) : cmpR c d a b = -cmpR a b c d := by
  rw [cmp_rt h h', cmp_rt h' h, ← Int.sign_neg]; congr 1; omega
theorem cmp_three {a b c d : Int} (h : Rt a b) (h' : Rt c d) :
    (cmpR a b c d = -1 ∧ a * d < c * b) ∨ (cmpR a b c d = 0 ∧ a = c ∧ b = d) ∨ (cmpR a b c d = 1 ∧ c * b < a * d) := by
  rw [cmp_rt h h']
  rcases Int.lt_trichotomy (a * d - c * b) 0 with h1 | h1 | h1
  · exact .inl ⟨Int.sign_eq_neg_one_of_neg h1, by omega⟩
  · obtain ⟨u1, u2⟩ := cross_unique h.pos h'.pos h.cop h'.cop (by omega)
    exact .inr (.inl ⟨by rw [h1]; rfl, u1, u2⟩)
  · exact .inr (.inr ⟨Int.sign_eq_one_of_pos h1, by omega⟩)
theorem lt_trans3 {a b c d e f : Int} (hb : 0 < b) (hd : 0 < d) (hf : 0 < f) (h1 : a * d < c * b) (h2 : c * f < e * d) : a * f < e * b := by
  refine Int.lt_of_mul_lt_mul_right (a := d) ?_ (Int.le_of_lt hd)
  have k1 := Int.mul_lt_mul_of_pos_right h1 hf
  have k2 := Int.mul_lt_mul_of_pos_right h2 hb
  have e1 : a * f * d = a * d * f := by grind
  have e2 : e * b * d = e * d * b := by grind
  have e3 : c * b * f = c * f * b := by grind
  omega
theorem sub_sign {a b c d N D : Int} (hb : 0 < b) (hd : 0 < d) (hD : 0 < D) (e : N * (b * d) = (a * d - c * b) * D) : N.sign = (a * d - c * b).sign := by
  have h1 := congrArg Int.sign e
  rw [Int.sign_mul, Int.sign_mul, Int.sign_mul, Int.sign_eq_one_of_pos hb, Int.sign_eq_one_of_pos hd, Int.sign_eq_one_of_pos hD] at h1
  omega
end Rat

set_option maxHeartbeats 2000000 in
theorem order_no (x0 x1 y0 y1 z0 z1 : Int) (w : World) (hx0 : -9223372036854775808 ≤ x0 ∧ x0 ≤ 9223372036854775807) (hx1 : -9223372036854775808 ≤ x1 ∧ x1 ≤ 9223372036854775807)
    (hy0 : -9223372036854775808 ≤ y0 ∧ y0 ≤ 9223372036854775807) (hy1 : -9223372036854775808 ≤ y1 ∧ y1 ≤ 9223372036854775807)
    (hz0 : -9223372036854775808 ≤ z0 ∧ z0 ≤ 9223372036854775807) (hz1 : -9223372036854775808 ≤ z1 ∧ z1 ≤ 9223372036854775807)
    (aN aD bN bD cN cD : Int) (o1 o2 o3 : Bool) (e1 : Rat.makeR x0 x1 = (aN, aD, o1)) (e2 : Rat.makeR y0 y1 = (bN, bD, o2)) (e3 : Rat.makeR z0 z1 = (cN, cD, o3)) (ho : (o1 && o2 && o3) = false) :
    Calls Try.prog 10 #[.agg #[.int .i64 x0, .int .i64 x1], .agg #[.int .i64 y0, .int .i64 y1], .agg #[.int .i64 z0, .int .i64 z1]] w fun e w' => e = .returned (.bool true) ∧ Below w.heap.size w w' := by
  have HO := Lib.hid ho
  clear ho
  have H1 := Lib.hid (fun W => make_any x0 x1 W hx0 hx1)
  have H2 := Lib.hid (fun W => make_any y0 y1 W hy0 hy1)
  have H3 := Lib.hid (fun W => make_any z0 z1 W hz0 hz1)
  rw [e1] at H1
  rw [e2] at H2
  rw [e3] at H3
  clear e1 e2 e3
  have T := Lib.hid (own3 w #[.int .i64 x0, .int .i64 x1] 40 #[.int .i64 y0, .int .i64 y1] 40 #[.int .i64 z0, .int .i64 z1] 40)
  go_enter Try.func10, Try.ntmps10
  go_wp2_with fail
  refine (shown_any _).mono ?_
  rintro e w1 ⟨rfl, m⟩
  have T' := Lib.hid (T.out.call m)
  clear m T 
  have T := T'
  clear T'
  obtain ⟨f0, g0, -, -⟩ := (T.out.at 0 rfl).two
  go_wp2_with fail
  refine (H1.out _).mono ?_
  rintro e w2 ⟨rfl, m⟩
  have T' := Lib.hid ((T.out.call m).alloc #[.int .i64 aN, .int .i64 aD] 24)
  clear m T f0 g0
  have T := T'
  clear T'
  obtain ⟨f0, g0, -, -⟩ := (T.out.at 1 rfl).two
  go_wp2_with fail
  refine (H2.out _).mono ?_
  rintro e w3 ⟨rfl, m⟩
  have T' := Lib.hid ((T.out.call m).alloc #[.int .i64 bN, .int .i64 bD] 24)
  clear m T f0 g0
  have T := T'
  clear T'
  obtain ⟨f0, g0, -, -⟩ := (T.out.at 2 rfl).two
  go_wp2_with fail
  refine (H3.out _).mono ?_
  rintro e w4 ⟨rfl, m⟩
  have T' := Lib.hid ((T.out.call m).alloc #[.int .i64 cN, .int .i64 cD] 24)
  clear m T f0 g0
  have T := T'
  clear T'
  cases o1 with
  | false =>
    go_wp2_with fail
    go_ret
    exact ⟨rfl, T.out.mod.to_below⟩
  | true =>
    cases o2 with
    | false =>
      go_wp2_with fail
      go_ret
      exact ⟨rfl, T.out.mod.to_below⟩
    | true =>
      cases o3 with
      | false =>
        go_wp2_with fail
        go_ret
        exact ⟨rfl, T.out.mod.to_below⟩
      | true => exact absurd HO.out (by simp)

set_option maxHeartbeats 2000000 in
theorem order_yes (x0 x1 y0 y1 z0 z1 : Int) (w : World) (hx0 : -9223372036854775808 ≤ x0 ∧ x0 ≤ 9223372036854775807) (hx1 : -9223372036854775808 ≤ x1 ∧ x1 ≤ 9223372036854775807)
    (hy0 : -9223372036854775808 ≤ y0 ∧ y0 ≤ 9223372036854775807) (hy1 : -9223372036854775808 ≤ y1 ∧ y1 ≤ 9223372036854775807)
    (hz0 : -9223372036854775808 ≤ z0 ∧ z0 ≤ 9223372036854775807) (hz1 : -9223372036854775808 ≤ z1 ∧ z1 ≤ 9223372036854775807)
    (aN aD bN bD cN cD ab bc ac dN dD : Int) (told : Bool) (e1 : Rat.makeR x0 x1 = (aN, aD, true)) (e2 : Rat.makeR y0 y1 = (bN, bD, true)) (e3 : Rat.makeR z0 z1 = (cN, cD, true))
    (ra : Rat.Rt aN aD) (rb : Rat.Rt bN bD) (rc : Rat.Rt cN cD) (c1 : Rat.cmpR aN aD bN bD = ab) (c2 : Rat.cmpR bN bD cN cD = bc) (c3 : Rat.cmpR aN aD cN cD = ac) (c4 : Rat.cmpR bN bD aN aD = -ab) (es : Rat.subR aN aD bN bD = (dN, dD, told))
    (hab : (ab = -1 ∧ (told = true → dN < 0) ∧ ((bc = 1) ∨ (bc = 0 ∧ ac = -1) ∨ (bc = -1 ∧ ac = -1)) ∧ ((aN == bN) = false ∨ ((aN == bN) = true ∧ (aD == bD) = false))) ∨
      (ab = 0 ∧ (told = true → dN = 0) ∧ aN = bN ∧ aD = bD ∧ ((bc = 1) ∨ (bc = 0 ∧ ac = 0) ∨ (bc = -1 ∧ ac = -1))) ∨
      (ab = 1 ∧ (told = true → 0 < dN) ∧ ((aN == bN) = false ∨ ((aN == bN) = true ∧ (aD == bD) = false)))) :
    Calls Try.prog 10 #[.agg #[.int .i64 x0, .int .i64 x1], .agg #[.int .i64 y0, .int .i64 y1], .agg #[.int .i64 z0, .int .i64 z1]] w fun e w' => e = .returned (.bool true) ∧ Below w.heap.size w w' := by
  have H4 := Lib.hid (fun W => cmp_any aN aD bN bD W ra.bN ra.bD rb.bN rb.bD)
  have H5 := Lib.hid (fun W => cmp_any bN bD cN cD W rb.bN rb.bD rc.bN rc.bD)
  have H6 := Lib.hid (fun W => cmp_any aN aD cN cD W ra.bN ra.bD rc.bN rc.bD)
  have H7 := Lib.hid (fun W => cmp_any aN aD aN aD W ra.bN ra.bD ra.bN ra.bD)
  have H8 := Lib.hid (fun W => cmp_any bN bD aN aD W rb.bN rb.bD ra.bN ra.bD)
  have H9 := Lib.hid (fun W => sub_any aN aD bN bD W ra.bN ra.bD rb.bN rb.bD)
  rw [c1] at H4
  rw [c2] at H5
  rw [c3] at H6
  rw [Rat.cmp_self ra] at H7
  rw [c4] at H8
  rw [es] at H9
  clear c1 c2 c3 c4 es ra rb rc
  have HH := Lib.hid hab
  clear hab
  have H1 := Lib.hid (fun W => make_any x0 x1 W hx0 hx1)
  have H2 := Lib.hid (fun W => make_any y0 y1 W hy0 hy1)
  have H3 := Lib.hid (fun W => make_any z0 z1 W hz0 hz1)
  rw [e1] at H1
  rw [e2] at H2
  rw [e3] at H3
  clear e1 e2 e3
  have T := Lib.hid (own3 w #[.int .i64 x0, .int .i64 x1] 40 #[.int .i64 y0, .int .i64 y1] 40 #[.int .i64 z0, .int .i64 z1] 40)
  go_enter Try.func10, Try.ntmps10
  go_wp2_with fail
  refine (shown_any _).mono ?_
  rintro e w5 ⟨rfl, m⟩
  have T' := Lib.hid (T.out.call m)
  clear m T 
  have T := T'
  clear T'
  obtain ⟨f0, g0, -, -⟩ := (T.out.at 0 rfl).two
  go_wp2_with fail
  refine (H1.out _).mono ?_
  rintro e w6 ⟨rfl, m⟩
  have T' := Lib.hid ((T.out.call m).alloc #[.int .i64 aN, .int .i64 aD] 24)
  clear m T f0 g0
  have T := T'
  clear T'
  obtain ⟨f0, g0, -, -⟩ := (T.out.at 1 rfl).two
  go_wp2_with fail
  refine (H2.out _).mono ?_
  rintro e w7 ⟨rfl, m⟩
  have T' := Lib.hid ((T.out.call m).alloc #[.int .i64 bN, .int .i64 bD] 24)
  clear m T f0 g0
  have T := T'
  clear T'
  obtain ⟨f0, g0, -, -⟩ := (T.out.at 2 rfl).two
  go_wp2_with fail
  refine (H3.out _).mono ?_
  rintro e w8 ⟨rfl, m⟩
  have T' := Lib.hid ((T.out.call m).alloc #[.int .i64 cN, .int .i64 cD] 24)
  clear m T f0 g0
  have T := T'
  clear T'
  obtain ⟨f0, g0, -, -⟩ := (T.out.at 3 rfl).two
  obtain ⟨f1, g1, -, -⟩ := (T.out.at 4 rfl).two
  go_wp2_with fail
  refine (H4.out _).mono ?_
  rintro e w9 ⟨rfl, m⟩
  have T' := Lib.hid (T.out.call m)
  clear m T f0 g0 f1 g1
  have T := T'
  clear T'
  obtain ⟨f0, g0, -, -⟩ := (T.out.at 4 rfl).two
  obtain ⟨f1, g1, -, -⟩ := (T.out.at 5 rfl).two
  go_wp2_with fail
  refine (H5.out _).mono ?_
  rintro e w10 ⟨rfl, m⟩
  have T' := Lib.hid (T.out.call m)
  clear m T f0 g0 f1 g1
  have T := T'
  clear T'
  obtain ⟨f0, g0, -, -⟩ := (T.out.at 3 rfl).two
  obtain ⟨f1, g1, -, -⟩ := (T.out.at 5 rfl).two
  go_wp2_with fail
  refine (H6.out _).mono ?_
  rintro e w11 ⟨rfl, m⟩
  have T' := Lib.hid (T.out.call m)
  clear m T f0 g0 f1 g1
  have T := T'
  clear T'
  obtain ⟨f0, g0, -, -⟩ := (T.out.at 3 rfl).two
  go_wp2_with fail
  refine (H7.out _).mono ?_
  rintro e w12 ⟨rfl, m⟩
  have T' := Lib.hid (T.out.call m)
  clear m T f0 g0
  have T := T'
  clear T'
  rcases HH.out with ⟨rfl, ht, hc, he⟩ | ⟨rfl, ht, rfl, rfl, hc⟩ | ⟨rfl, ht, he⟩
  · have HT := Lib.hid ht
    clear ht HH
    obtain ⟨f0, g0, -, -⟩ := (T.out.at 4 rfl).two
    obtain ⟨f1, g1, -, -⟩ := (T.out.at 3 rfl).two
    go_wp2_with fail
    refine (H8.out _).mono ?_
    rintro e w13 ⟨rfl, m⟩
    have T' := Lib.hid (T.out.call m)
    clear m T f0 g0 f1 g1
    have T := T'
    clear T'
    rcases hc with rfl | ⟨rfl, rfl⟩ | ⟨rfl, rfl⟩
    · rcases he with h1 | ⟨h1, h2⟩
      · obtain ⟨p0, q0, -, -⟩ := (T.out.at 3 rfl).two
        obtain ⟨p1, q1, -, -⟩ := (T.out.at 4 rfl).two
        go_wp2_with fail
        refine (H9.out _).mono ?_
        rintro e w14 ⟨rfl, m⟩
        have T' := Lib.hid ((T.out.call m).alloc #[.int .i64 dN, .int .i64 dD] 24)
        clear m T p0 q0 p1 q1
        have T := T'
        clear T'
        obtain ⟨p0, q0, -, -⟩ := (T.out.at 6 rfl).two
        cases told with
        | false =>
          go_wp2_with fail
          go_ret
          exact ⟨rfl, T.out.mod.to_below⟩
        | true =>
          have hd := HT.out rfl
          have z1 : decide (dN < 0) = true := by simpa using hd
          have z2 : decide (0 < dN) = false := by simp; omega
          go_wp2_with fail
          go_ret
          exact ⟨rfl, T.out.mod.to_below⟩
      · obtain ⟨p0, q0, -, -⟩ := (T.out.at 3 rfl).two
        obtain ⟨p1, q1, -, -⟩ := (T.out.at 4 rfl).two
        go_wp2_with fail
        refine (H9.out _).mono ?_
        rintro e w14 ⟨rfl, m⟩
        have T' := Lib.hid ((T.out.call m).alloc #[.int .i64 dN, .int .i64 dD] 24)
        clear m T p0 q0 p1 q1
        have T := T'
        clear T'
        obtain ⟨p0, q0, -, -⟩ := (T.out.at 6 rfl).two
        cases told with
        | false =>
          go_wp2_with fail
          go_ret
          exact ⟨rfl, T.out.mod.to_below⟩
        | true =>
          have hd := HT.out rfl
          have z1 : decide (dN < 0) = true := by simpa using hd
          have z2 : decide (0 < dN) = false := by simp; omega
          go_wp2_with fail
          go_ret
          exact ⟨rfl, T.out.mod.to_below⟩
    · rcases he with h1 | ⟨h1, h2⟩
      · obtain ⟨p0, q0, -, -⟩ := (T.out.at 3 rfl).two
        obtain ⟨p1, q1, -, -⟩ := (T.out.at 4 rfl).two
        go_wp2_with fail
        refine (H9.out _).mono ?_
        rintro e w14 ⟨rfl, m⟩
        have T' := Lib.hid ((T.out.call m).alloc #[.int .i64 dN, .int .i64 dD] 24)
        clear m T p0 q0 p1 q1
        have T := T'
        clear T'
        obtain ⟨p0, q0, -, -⟩ := (T.out.at 6 rfl).two
        cases told with
        | false =>
          go_wp2_with fail
          go_ret
          exact ⟨rfl, T.out.mod.to_below⟩
        | true =>
          have hd := HT.out rfl
          have z1 : decide (dN < 0) = true := by simpa using hd
          have z2 : decide (0 < dN) = false := by simp; omega
          go_wp2_with fail
          go_ret
          exact ⟨rfl, T.out.mod.to_below⟩
      · obtain ⟨p0, q0, -, -⟩ := (T.out.at 3 rfl).two
        obtain ⟨p1, q1, -, -⟩ := (T.out.at 4 rfl).two
        go_wp2_with fail
        refine (H9.out _).mono ?_
        rintro e w14 ⟨rfl, m⟩
        have T' := Lib.hid ((T.out.call m).alloc #[.int .i64 dN, .int .i64 dD] 24)
        clear m T p0 q0 p1 q1
        have T := T'
        clear T'
        obtain ⟨p0, q0, -, -⟩ := (T.out.at 6 rfl).two
        cases told with
        | false =>
          go_wp2_with fail
          go_ret
          exact ⟨rfl, T.out.mod.to_below⟩
        | true =>
          have hd := HT.out rfl
          have z1 : decide (dN < 0) = true := by simpa using hd
          have z2 : decide (0 < dN) = false := by simp; omega
          go_wp2_with fail
          go_ret
          exact ⟨rfl, T.out.mod.to_below⟩
    · rcases he with h1 | ⟨h1, h2⟩
      · obtain ⟨p0, q0, -, -⟩ := (T.out.at 3 rfl).two
        obtain ⟨p1, q1, -, -⟩ := (T.out.at 4 rfl).two
        go_wp2_with fail
        refine (H9.out _).mono ?_
        rintro e w14 ⟨rfl, m⟩
        have T' := Lib.hid ((T.out.call m).alloc #[.int .i64 dN, .int .i64 dD] 24)
        clear m T p0 q0 p1 q1
        have T := T'
        clear T'
        obtain ⟨p0, q0, -, -⟩ := (T.out.at 6 rfl).two
        cases told with
        | false =>
          go_wp2_with fail
          go_ret
          exact ⟨rfl, T.out.mod.to_below⟩
        | true =>
          have hd := HT.out rfl
          have z1 : decide (dN < 0) = true := by simpa using hd
          have z2 : decide (0 < dN) = false := by simp; omega
          go_wp2_with fail
          go_ret
          exact ⟨rfl, T.out.mod.to_below⟩
      · obtain ⟨p0, q0, -, -⟩ := (T.out.at 3 rfl).two
        obtain ⟨p1, q1, -, -⟩ := (T.out.at 4 rfl).two
        go_wp2_with fail
        refine (H9.out _).mono ?_
        rintro e w14 ⟨rfl, m⟩
        have T' := Lib.hid ((T.out.call m).alloc #[.int .i64 dN, .int .i64 dD] 24)
        clear m T p0 q0 p1 q1
        have T := T'
        clear T'
        obtain ⟨p0, q0, -, -⟩ := (T.out.at 6 rfl).two
        cases told with
        | false =>
          go_wp2_with fail
          go_ret
          exact ⟨rfl, T.out.mod.to_below⟩
        | true =>
          have hd := HT.out rfl
          have z1 : decide (dN < 0) = true := by simpa using hd
          have z2 : decide (0 < dN) = false := by simp; omega
          go_wp2_with fail
          go_ret
          exact ⟨rfl, T.out.mod.to_below⟩
  · have HT := Lib.hid ht
    clear ht HH
    obtain ⟨f0, g0, -, -⟩ := (T.out.at 4 rfl).two
    obtain ⟨f1, g1, -, -⟩ := (T.out.at 3 rfl).two
    go_wp2_with fail
    refine (H8.out _).mono ?_
    rintro e w15 ⟨rfl, m⟩
    have T' := Lib.hid (T.out.call m)
    clear m T f0 g0 f1 g1
    have T := T'
    clear T'
    rcases hc with rfl | ⟨rfl, rfl⟩ | ⟨rfl, rfl⟩
    · obtain ⟨p0, q0, -, -⟩ := (T.out.at 3 rfl).two
      obtain ⟨p1, q1, -, -⟩ := (T.out.at 4 rfl).two
      go_wp2_with fail
      refine (H9.out _).mono ?_
      rintro e w16 ⟨rfl, m⟩
      have T' := Lib.hid ((T.out.call m).alloc #[.int .i64 dN, .int .i64 dD] 24)
      clear m T p0 q0 p1 q1
      have T := T'
      clear T'
      obtain ⟨p0, q0, -, -⟩ := (T.out.at 6 rfl).two
      cases told with
      | false =>
        go_wp2_with fail
        go_ret
        exact ⟨rfl, T.out.mod.to_below⟩
      | true =>
        have hd := HT.out rfl
        subst hd
        go_wp2_with fail
        go_ret
        exact ⟨rfl, T.out.mod.to_below⟩
    · obtain ⟨p0, q0, -, -⟩ := (T.out.at 3 rfl).two
      obtain ⟨p1, q1, -, -⟩ := (T.out.at 4 rfl).two
      go_wp2_with fail
      refine (H9.out _).mono ?_
      rintro e w16 ⟨rfl, m⟩
      have T' := Lib.hid ((T.out.call m).alloc #[.int .i64 dN, .int .i64 dD] 24)
      clear m T p0 q0 p1 q1
      have T := T'
      clear T'
      obtain ⟨p0, q0, -, -⟩ := (T.out.at 6 rfl).two
      cases told with
      | false =>
        go_wp2_with fail
        go_ret
        exact ⟨rfl, T.out.mod.to_below⟩
      | true =>
        have hd := HT.out rfl
        subst hd
        go_wp2_with fail
        go_ret
        exact ⟨rfl, T.out.mod.to_below⟩
    · obtain ⟨p0, q0, -, -⟩ := (T.out.at 3 rfl).two
      obtain ⟨p1, q1, -, -⟩ := (T.out.at 4 rfl).two
      go_wp2_with fail
      refine (H9.out _).mono ?_
      rintro e w16 ⟨rfl, m⟩
      have T' := Lib.hid ((T.out.call m).alloc #[.int .i64 dN, .int .i64 dD] 24)
      clear m T p0 q0 p1 q1
      have T := T'
      clear T'
      obtain ⟨p0, q0, -, -⟩ := (T.out.at 6 rfl).two
      cases told with
      | false =>
        go_wp2_with fail
        go_ret
        exact ⟨rfl, T.out.mod.to_below⟩
      | true =>
        have hd := HT.out rfl
        subst hd
        go_wp2_with fail
        go_ret
        exact ⟨rfl, T.out.mod.to_below⟩
  · have HT := Lib.hid ht
    clear ht HH
    obtain ⟨f0, g0, -, -⟩ := (T.out.at 4 rfl).two
    obtain ⟨f1, g1, -, -⟩ := (T.out.at 3 rfl).two
    go_wp2_with fail
    refine (H8.out _).mono ?_
    rintro e w17 ⟨rfl, m⟩
    have T' := Lib.hid (T.out.call m)
    clear m T f0 g0 f1 g1
    have T := T'
    clear T'
    rcases he with h1 | ⟨h1, h2⟩
    · obtain ⟨p0, q0, -, -⟩ := (T.out.at 3 rfl).two
      obtain ⟨p1, q1, -, -⟩ := (T.out.at 4 rfl).two
      go_wp2_with fail
      refine (H9.out _).mono ?_
      rintro e w18 ⟨rfl, m⟩
      have T' := Lib.hid ((T.out.call m).alloc #[.int .i64 dN, .int .i64 dD] 24)
      clear m T p0 q0 p1 q1
      have T := T'
      clear T'
      obtain ⟨p0, q0, -, -⟩ := (T.out.at 6 rfl).two
      cases told with
      | false =>
        go_wp2_with fail
        go_ret
        exact ⟨rfl, T.out.mod.to_below⟩
      | true =>
        have hd := HT.out rfl
        have z1 : decide (0 < dN) = true := by simpa using hd
        have z2 : decide (dN < 0) = false := by simp; omega
        go_wp2_with fail
        go_ret
        exact ⟨rfl, T.out.mod.to_below⟩
    · obtain ⟨p0, q0, -, -⟩ := (T.out.at 3 rfl).two
      obtain ⟨p1, q1, -, -⟩ := (T.out.at 4 rfl).two
      go_wp2_with fail
      refine (H9.out _).mono ?_
      rintro e w18 ⟨rfl, m⟩
      have T' := Lib.hid ((T.out.call m).alloc #[.int .i64 dN, .int .i64 dD] 24)
      clear m T p0 q0 p1 q1
      have T := T'
      clear T'
      obtain ⟨p0, q0, -, -⟩ := (T.out.at 6 rfl).two
      cases told with
      | false =>
        go_wp2_with fail
        go_ret
        exact ⟨rfl, T.out.mod.to_below⟩
      | true =>
        have hd := HT.out rfl
        have z1 : decide (0 < dN) = true := by simpa using hd
        have z2 : decide (dN < 0) = false := by simp; omega
        go_wp2_with fail
        go_ret
        exact ⟨rfl, T.out.mod.to_below⟩

theorem ne_eqs {a b c d : Int} (h : ¬ (a = c ∧ b = d)) : (a == c) = false ∨ ((a == c) = true ∧ (b == d) = false) := by
  by_cases h1 : a = c
  · exact .inr ⟨by simpa using h1, by simpa using fun h2 => h ⟨h1, h2⟩⟩
  · exact .inl (by simpa using h1)

theorem order_walk (x0 x1 y0 y1 z0 z1 : Int) (w : World) (hx0 : -9223372036854775808 ≤ x0 ∧ x0 ≤ 9223372036854775807) (hx1 : -9223372036854775808 ≤ x1 ∧ x1 ≤ 9223372036854775807)
    (hy0 : -9223372036854775808 ≤ y0 ∧ y0 ≤ 9223372036854775807) (hy1 : -9223372036854775808 ≤ y1 ∧ y1 ≤ 9223372036854775807)
    (hz0 : -9223372036854775808 ≤ z0 ∧ z0 ≤ 9223372036854775807) (hz1 : -9223372036854775808 ≤ z1 ∧ z1 ≤ 9223372036854775807) :
    Calls Try.prog 10 #[.agg #[.int .i64 x0, .int .i64 x1], .agg #[.int .i64 y0, .int .i64 y1], .agg #[.int .i64 z0, .int .i64 z1]] w fun e w' => e = .returned (.bool true) ∧ Below w.heap.size w w' := by
  rcases Rat.make_cases x0 x1 with ⟨aN, aD, e1, ra, -, -⟩ | e1
  case inr =>
    obtain ⟨p, q, o, e2⟩ : ∃ p q o, Rat.makeR y0 y1 = (p, q, o) := ⟨_, _, _, rfl⟩
    obtain ⟨p', q', o', e3⟩ : ∃ p q o, Rat.makeR z0 z1 = (p, q, o) := ⟨_, _, _, rfl⟩
    exact order_no x0 x1 y0 y1 z0 z1 w hx0 hx1 hy0 hy1 hz0 hz1 _ _ _ _ _ _ _ _ _ e1 e2 e3 rfl
  rcases Rat.make_cases y0 y1 with ⟨bN, bD, e2, rb, -, -⟩ | e2
  case inr =>
    obtain ⟨p', q', o', e3⟩ : ∃ p q o, Rat.makeR z0 z1 = (p, q, o) := ⟨_, _, _, rfl⟩
    exact order_no x0 x1 y0 y1 z0 z1 w hx0 hx1 hy0 hy1 hz0 hz1 _ _ _ _ _ _ _ _ _ e1 e2 e3 (by simp)
  rcases Rat.make_cases z0 z1 with ⟨cN, cD, e3, rc, -, -⟩ | e3
  case inr => exact order_no x0 x1 y0 y1 z0 z1 w hx0 hx1 hy0 hy1 hz0 hz1 _ _ _ _ _ _ _ _ _ e1 e2 e3 (by simp)
  obtain ⟨dN, dD, told, es⟩ : ∃ p q o, Rat.subR aN aD bN bD = (p, q, o) := ⟨_, _, _, rfl⟩
  have hsg : told = true → dN.sign = (aN * bD - bN * aD).sign := by
    intro ht
    rcases Rat.sub_cases ra rb with ⟨N, D, h1, h2, h3⟩ | h1
    · rw [es] at h1
      obtain ⟨rfl, rfl, -⟩ : dN = N ∧ dD = D ∧ told = true := by simpa using h1
      exact Rat.sub_sign ra.pos rb.pos h2.pos h3
    · rw [es] at h1
      simp [ht] at h1
  have n1 : Rat.cmpR bN bD aN aD = -Rat.cmpR aN aD bN bD := Rat.cmp_neg ra rb
  refine order_yes x0 x1 y0 y1 z0 z1 w hx0 hx1 hy0 hy1 hz0 hz1 aN aD bN bD cN cD _ _ _ dN dD told e1 e2 e3 ra rb rc rfl rfl rfl n1 es ?_
  rcases Rat.cmp_three ra rb with ⟨h1, l1⟩ | ⟨h1, l1, l2⟩ | ⟨h1, l1⟩
  · refine .inl ⟨h1, fun ht => ?_, ?_, ne_eqs fun h => ?_⟩
    · have := hsg ht
      exact Int.neg_of_sign_eq_neg_one (this.trans (Int.sign_eq_neg_one_of_neg (by omega)))
    · rcases Rat.cmp_three rb rc with ⟨h2, k1⟩ | ⟨h2, k1, k2⟩ | ⟨h2, k1⟩
      · refine .inr (.inr ⟨h2, ?_⟩)
        rw [Rat.cmp_rt ra rc]
        have := Rat.lt_trans3 ra.pos rb.pos rc.pos l1 k1
        exact Int.sign_eq_neg_one_of_neg (by omega)
      · refine .inr (.inl ⟨h2, ?_⟩)
        rw [← k1, ← k2]; exact h1
      · exact .inl h2
    · obtain ⟨q1, q2⟩ := h
      rw [q1, q2] at l1; omega
  · refine .inr (.inl ⟨h1, fun ht => ?_, l1, l2, ?_⟩)
    · have := hsg ht
      rw [l1, l2, Int.sub_self] at this
      exact Int.sign_eq_zero_iff_zero.1 this
    · rcases Rat.cmp_three rb rc with ⟨h2, k1⟩ | ⟨h2, k1, k2⟩ | ⟨h2, k1⟩
      · refine .inr (.inr ⟨h2, ?_⟩)
        rw [l1, l2]; exact h2
      · refine .inr (.inl ⟨h2, ?_⟩)
        rw [l1, l2]; exact h2
      · exact .inl h2
  · refine .inr (.inr ⟨h1, fun ht => ?_, ne_eqs fun h => ?_⟩)
    · have := hsg ht
      exact Int.pos_of_sign_eq_one (this.trans (Int.sign_eq_one_of_pos (by omega)))
    · obtain ⟨q1, q2⟩ := h
      rw [q1, q2] at l1; omega
end Go.Proofs.Ytiigcilmpclclaa

/- RatioRings: the walk. (Printed by gen_rings.py.) -/
import Derived.Test.YtiigcilmpclclaaRatShown
namespace Go.Proofs.Ytiigcilmpclclaa
open Go.RowKit
set_option linter.unusedVariables false

namespace Rat
theorem canc {D x y : Int} (hD : 0 < D) (h : x * D = y * D) : x = y := Int.eq_of_mul_eq_mul_right (by omega) h

/-- A ratio of numbers up to A by B. -/
def Sm (N D A B : Int) : Prop := rightB N D = true ∧ 0 < D ∧ -A ≤ N ∧ N ≤ A ∧ D ≤ B
theorem tell_ok {n d : Int} (A B : Int) (hn1 : -A ≤ n) (hn2 : n ≤ A) (hd1 : 0 < d) (hd2 : d ≤ B) (hA : A ≤ 9223372036854775807) (hB : B ≤ 9223372036854775807) :
    ∃ N D, tell n d = (N, D, true) ∧ Sm N D A B ∧ N * d = n * D := by
  have hs : (tell n d).2.2 = true := tell_some (by omega) (by omega)
  obtain ⟨N, D, ht⟩ : ∃ N D, tell n d = (N, D, true) := ⟨(tell n d).1, (tell n d).2.1, by rw [← hs]⟩
  obtain ⟨hr, he, hD, hN, hD2⟩ := tell_told (by omega) ht
  have hl := tell_le (n := n) (d := d)
  rw [ht] at hl
  dsimp only at hl
  exact ⟨N, D, ht, ⟨hr, hD, by omega, by omega, by omega⟩, he⟩
theorem add_ok {a b c d : Int} {A B C E : Int} (X Y : Int) (h : Sm a b A B) (h' : Sm c d C E) (hX : A * E + C * B = X) (hY : B * E = Y) (hA : X ≤ 9223372036854775807) (hB : Y ≤ 9223372036854775807) :
    ∃ N D, addR a b c d = (N, D, true) ∧ Sm N D X Y ∧ N * (b * d) = (a * d + c * b) * D := by
  obtain ⟨r1, p1, l1, u1, e1⟩ := h
  obtain ⟨r2, p2, l2, u2, e2⟩ := h'
  have m1 := mul_bd A E (x := a) (y := d) l1 u1 (by omega) e2
  have m2 := mul_bd C B (x := c) (y := b) l2 u2 (by omega) e1
  have m3 := mul_bd B E (x := b) (y := d) (by omega) e1 (by omega) e2
  have m4 := Int.mul_pos p1 p2
  obtain ⟨N, D, h1, h2, h3⟩ := tell_ok (n := a * d + c * b) (d := b * d) X Y (by omega) (by omega) m4 (by omega) hA hB
  exact ⟨N, D, by rw [addR_tell r1 r2, h1], h2, h3⟩
theorem mul_ok {a b c d : Int} {A B C E : Int} (X Y : Int) (h : Sm a b A B) (h' : Sm c d C E) (hX : A * C = X) (hY : B * E = Y) (hA : X ≤ 9223372036854775807) (hB : Y ≤ 9223372036854775807) :
    ∃ N D, mulR a b c d = (N, D, true) ∧ Sm N D X Y ∧ N * (b * d) = (a * c) * D := by
  obtain ⟨r1, p1, l1, u1, e1⟩ := h
  obtain ⟨r2, p2, l2, u2, e2⟩ := h'
  have m1 := mul_bd A C (x := a) (y := c) l1 u1 l2 u2
  have m3 := mul_bd B E (x := b) (y := d) (by omega) e1 (by omega) e2
  have m4 := Int.mul_pos p1 p2
  obtain ⟨N, D, h1, h2, h3⟩ := tell_ok (n := a * c) (d := b * d) X Y (by omega) (by omega) m4 (by omega) hA hB
  exact ⟨N, D, by rw [mulR_tell r1 r2, h1], h2, h3⟩
theorem sm_unique {N D N' D' A B A' B' n d : Int} (h : Sm N D A B) (h' : Sm N' D' A' B') (hd : 0 < d) (e : N * d = n * D) (e' : N' * d = n * D') : N = N' ∧ D = D' :=
  Is.unique (n := n) (d := d) ⟨h.2.1, ((rightB_iff _ _).1 h.1).2.2, e⟩ ⟨h'.2.1, ((rightB_iff _ _).1 h'.1).2.2, e'⟩ (by omega)
theorem Sm.bd {N D A B : Int} (h : Sm N D A B) (hA : A ≤ 9223372036854775807) (hB : B ≤ 9223372036854775807) : (-9223372036854775808 ≤ N ∧ N ≤ 9223372036854775807) ∧ (-9223372036854775808 ≤ D ∧ D ≤ 9223372036854775807) := by
  obtain ⟨_, _, _, _, _⟩ := h; omega

theorem id_comm {M1 E1 aN aD bN bD : Int} (k1 : M1 * (bD * aD) = (bN * aD + aN * bD) * E1) : M1 * (aD * bD) = (aN * bD + bN * aD) * E1 := by
  rw [Int.mul_comm aD bD, Int.add_comm (aN * bD)]; exact k1
theorem id_sum1 {N1 D1 N2 D2 aN aD bN bD cN cD : Int} (p1 : 0 < D1) (h1 : N1 * (aD * bD) = (aN * bD + bN * aD) * D1) (h2 : N2 * (D1 * cD) = (N1 * cD + cN * D1) * D2) :
    N2 * (aD * bD * cD) = (aN * bD * cD + bN * aD * cD + cN * aD * bD) * D2 := by
  refine canc p1 ?_
  have e : N2 * (aD * bD * cD) * D1 = N2 * (D1 * cD) * (aD * bD) := by grind
  have f : (N1 * cD + cN * D1) * D2 * (aD * bD) = (N1 * (aD * bD)) * cD * D2 + cN * D1 * D2 * (aD * bD) := by grind
  rw [e, h2, f, h1]
  grind
theorem id_sum2 {N3 D3 M2 E2 aN aD bN bD cN cD : Int} (p3 : 0 < D3) (h3 : N3 * (bD * cD) = (bN * cD + cN * bD) * D3) (k2 : M2 * (aD * D3) = (aN * D3 + N3 * aD) * E2) :
    M2 * (aD * bD * cD) = (aN * bD * cD + bN * aD * cD + cN * aD * bD) * E2 := by
  refine canc p3 ?_
  have e : M2 * (aD * bD * cD) * D3 = M2 * (aD * D3) * (bD * cD) := by grind
  have f : (aN * D3 + N3 * aD) * E2 * (bD * cD) = aN * D3 * E2 * (bD * cD) + (N3 * (bD * cD)) * aD * E2 := by grind
  rw [e, k2, f, h3]
  grind
theorem id_mul {N3 D3 N4 D4 aN aD bN bD cN cD : Int} (p3 : 0 < D3) (h3 : N3 * (bD * cD) = (bN * cD + cN * bD) * D3) (h4 : N4 * (aD * D3) = (aN * N3) * D4) :
    N4 * (aD * bD * cD) = (aN * (bN * cD + cN * bD)) * D4 := by
  refine canc p3 ?_
  have e : N4 * (aD * bD * cD) * D3 = N4 * (aD * D3) * (bD * cD) := by grind
  have f : aN * N3 * D4 * (bD * cD) = aN * (N3 * (bD * cD)) * D4 := by grind
  rw [e, h4, f, h3]
  grind
theorem id_add {N5 D5 N6 D6 M4 E4 aN aD bN bD cN cD : Int} (pa : 0 < aD) (p5 : 0 < D5) (p6 : 0 < D6) (h5 : N5 * (aD * bD) = (aN * bN) * D5) (h6 : N6 * (aD * cD) = (aN * cN) * D6) (k4 : M4 * (D5 * D6) = (N5 * D6 + N6 * D5) * E4) :
    M4 * (aD * bD * cD) = (aN * (bN * cD + cN * bD)) * E4 := by
  refine canc pa (canc p5 (canc p6 ?_))
  have e : M4 * (aD * bD * cD) * aD * D5 * D6 = M4 * (D5 * D6) * (aD * bD) * (aD * cD) := by grind
  have f : (N5 * D6 + N6 * D5) * E4 * (aD * bD) * (aD * cD) = (N5 * (aD * bD)) * D6 * E4 * (aD * cD) + (N6 * (aD * cD)) * D5 * E4 * (aD * bD) := by grind
  rw [e, k4, f, h5, h6]
  grind

theorem rings_all {aN aD bN bD cN cD : Int} (ha : Sm aN aD 32768 32768) (hb : Sm bN bD 32768 32768) (hc : Sm cN cD 32768 32768) :
    ∃ N1 D1 N2 D2 N3 D3 N4 D4 N5 D5 N6 D6 : Int, addR aN aD bN bD = (N1, D1, true) ∧ addR bN bD aN aD = (N1, D1, true) ∧ addR N1 D1 cN cD = (N2, D2, true) ∧ addR bN bD cN cD = (N3, D3, true) ∧ addR aN aD N3 D3 = (N2, D2, true) ∧
      mulR aN aD N3 D3 = (N4, D4, true) ∧ mulR aN aD bN bD = (N5, D5, true) ∧ mulR aN aD cN cD = (N6, D6, true) ∧ addR N5 D5 N6 D6 = (N4, D4, true) ∧ addR aN aD 0 1 = (aN, aD, true) ∧ mulR aN aD 1 1 = (aN, aD, true) ∧
      Sm N1 D1 2147483648 1073741824 ∧ Sm N3 D3 2147483648 1073741824 ∧ Sm N5 D5 1073741824 1073741824 ∧ Sm N6 D6 1073741824 1073741824 := by
  obtain ⟨N1, D1, e1, s1, h1⟩ := add_ok 2147483648 1073741824 ha hb (by decide) (by decide) (by omega) (by omega)
  obtain ⟨M1, E1, f1, t1, k1⟩ := add_ok 2147483648 1073741824 hb ha (by decide) (by decide) (by omega) (by omega)
  obtain ⟨N2, D2, e2, s2, h2⟩ := add_ok 105553116266496 35184372088832 s1 hc (by decide) (by decide) (by omega) (by omega)
  obtain ⟨N3, D3, e3, s3, h3⟩ := add_ok 2147483648 1073741824 hb hc (by decide) (by decide) (by omega) (by omega)
  obtain ⟨M2, E2, f2, t2, k2⟩ := add_ok 105553116266496 35184372088832 ha s3 (by decide) (by decide) (by omega) (by omega)
  obtain ⟨N4, D4, e4, s4, h4⟩ := mul_ok 70368744177664 35184372088832 ha s3 (by decide) (by decide) (by omega) (by omega)
  obtain ⟨N5, D5, e5, s5, h5⟩ := mul_ok 1073741824 1073741824 ha hb (by decide) (by decide) (by omega) (by omega)
  obtain ⟨N6, D6, e6, s6, h6⟩ := mul_ok 1073741824 1073741824 ha hc (by decide) (by decide) (by omega) (by omega)
  obtain ⟨M4, E4, f4, t4, k4⟩ := add_ok 2305843009213693952 1152921504606846976 s5 s6 (by decide) (by decide) (by omega) (by omega)
  have pa := ha.2.1
  have pb := hb.2.1
  have pc := hc.2.1
  have p1 := s1.2.1
  have p3 := s3.2.1
  have p5 := s5.2.1
  have p6 := s6.2.1
  have pab := Int.mul_pos pa pb
  have pabc := Int.mul_pos pab pc
  obtain ⟨u1, u2⟩ := sm_unique s1 t1 pab h1 (id_comm k1)
  have c2 := id_sum1 p1 h1 h2
  have d2 := id_sum2 p3 h3 k2
  obtain ⟨u3, u4⟩ := sm_unique s2 t2 pabc c2 d2
  have c4 := id_mul p3 h3 h4
  have d4 := id_add pa p5 p6 h5 h6 k4
  obtain ⟨u5, u6⟩ := sm_unique s4 t4 pabc c4 d4
  refine ⟨N1, D1, N2, D2, N3, D3, N4, D4, N5, D5, N6, D6, e1, ?_, e2, e3, ?_, e4, e5, e6, ?_, ?_, ?_, s1, s3, s5, s6⟩
  · rw [u1, u2]; exact f1
  · rw [u3, u4]; exact f2
  · rw [u5, u6]; exact f4
  · obtain ⟨r1, p1, l1, u1, e1⟩ := ha
    rw [addR_tell r1 (by decide)]
    exact tell_of (by omega) r1 (by grind) (by omega) (by omega)
  · obtain ⟨r1, p1, l1, u1, e1⟩ := ha
    rw [mulR_tell r1 (by decide)]
    exact tell_of (by omega) r1 (by grind) (by omega) (by omega)

theorem small_all (n m : Int) (hn : -32768 < n ∧ n < 32768) (hm : 0 ≤ m ∧ m ≤ 32767) : ∃ N D, makeR n (1 + m) = (N, D, true) ∧ Sm N D 32768 32768 := by
  obtain ⟨N, D, h1, h2, _⟩ := tell_ok (n := n) (d := 1 + m) 32768 32768 (by omega) (by omega) (by omega) (by omega) (by omega) (by omega)
  exact ⟨N, D, by rw [makeR_tell, if_neg (by omega), h1], h2⟩
end Rat

set_option maxHeartbeats 1000000 in
theorem small_any (x y : Int) (w : World) (hx : -9223372036854775808 ≤ x ∧ x ≤ 9223372036854775807) (hy : -9223372036854775808 ≤ y ∧ y ≤ 9223372036854775807) :
    ∃ N D : Int, Rat.Sm N D 32768 32768 ∧ ∀ w, Calls Try.prog 19 #[.agg #[.int .i64 x, .int .i64 y]] w fun e w' => e = .returned (.agg #[.int .i64 N, .int .i64 D]) ∧ Mod [] w w' := by
  have bn := tmod_bd x 32768 (by omega)
  have bm : 0 ≤ bits .and .i64 y 32767 ∧ bits .and .i64 y 32767 ≤ 32767 := and_mask y 32767 (by omega)
  obtain ⟨n', en⟩ : ∃ n', x.tmod 32768 = n' := ⟨_, rfl⟩
  obtain ⟨m', em⟩ : ∃ n', bits .and .i64 y 32767 = n' := ⟨_, rfl⟩
  rw [en] at bn
  rw [em] at bm
  obtain ⟨N, D, hm, hs⟩ := Rat.small_all n' m' bn bm
  refine ⟨N, D, hs, fun w => ?_⟩
  have H1 := Lib.hid (fun W => make_any n' (1 + m') W (by omega) (by omega))
  rw [hm] at H1
  clear hm
  have S0 := Lib.hid (own2 w #[.int .i64 x, .int .i64 y] 34 #[.int .i64 0, .int .i64 0] 24)
  go_enter Try.func19, Try.ntmps19
  go_wp2_with fail
  refine (H1.out _).mono ?_
  rintro e w1 ⟨rfl, m1⟩
  have S1 := Lib.hid ((S0.out.call m1).alloc #[.int .i64 N, .int .i64 D] 24)
  clear m1 S0
  obtain ⟨r0, r1, z0, z1⟩ := (S1.out.at 1 rfl).two
  have hge := S1.out.ge 1 rfl
  go_wp2_with fail
  refine bodyPost_ret (v := .agg #[.int .i64 N, .int .i64 D]) (by simp [results, Try.results19, go_sem, r0, r1]) rfl ⟨rfl, ?_⟩
  exact (S1.out.mod.setNew hge _).setNew hge _

set_option maxHeartbeats 4000000 in
set_option maxRecDepth 100000 in
theorem rings_walk (x0 x1 y0 y1 z0 z1 : Int) (w : World) (hx0 : -9223372036854775808 ≤ x0 ∧ x0 ≤ 9223372036854775807) (hx1 : -9223372036854775808 ≤ x1 ∧ x1 ≤ 9223372036854775807)
    (hy0 : -9223372036854775808 ≤ y0 ∧ y0 ≤ 9223372036854775807) (hy1 : -9223372036854775808 ≤ y1 ∧ y1 ≤ 9223372036854775807) (hz0 : -9223372036854775808 ≤ z0 ∧ z0 ≤ 9223372036854775807) (hz1 : -9223372036854775808 ≤ z1 ∧ z1 ≤ 9223372036854775807) :
    Calls Try.prog 7 #[.agg #[.int .i64 x0, .int .i64 x1], .agg #[.int .i64 y0, .int .i64 y1], .agg #[.int .i64 z0, .int .i64 z1]] w fun e w' => e = .returned (.bool true) ∧ Below w.heap.size w w' := by
  obtain ⟨aN, aD, sa, HA'⟩ := small_any x0 x1 w hx0 hx1
  obtain ⟨bN, bD, sb, HB'⟩ := small_any y0 y1 w hy0 hy1
  obtain ⟨cN, cD, sc, HC'⟩ := small_any z0 z1 w hz0 hz1
  obtain ⟨N1, D1, N2, D2, N3, D3, N4, D4, N5, D5, N6, D6, e1, e2, e3, e4, e5, e6, e7, e8, e9, e10, e11, s1, s3, s5, s6⟩ := Rat.rings_all sa sb sc
  obtain ⟨ba, ba'⟩ := sa.bd (by omega) (by omega)
  obtain ⟨bb, bb'⟩ := sb.bd (by omega) (by omega)
  obtain ⟨bc, bc'⟩ := sc.bd (by omega) (by omega)
  obtain ⟨b1, b1'⟩ := s1.bd (by omega) (by omega)
  obtain ⟨b3, b3'⟩ := s3.bd (by omega) (by omega)
  obtain ⟨b5, b5'⟩ := s5.bd (by omega) (by omega)
  obtain ⟨b6, b6'⟩ := s6.bd (by omega) (by omega)
  have HA := Lib.hid HA'
  have HB := Lib.hid HB'
  have HC := Lib.hid HC'
  have H1 := Lib.hid (fun W => add_any aN aD bN bD W ba ba' bb bb')
  have H2 := Lib.hid (fun W => add_any bN bD aN aD W bb bb' ba ba')
  have H3 := Lib.hid (fun W => add_any N1 D1 cN cD W b1 b1' bc bc')
  have H4 := Lib.hid (fun W => add_any bN bD cN cD W bb bb' bc bc')
  have H5 := Lib.hid (fun W => add_any aN aD N3 D3 W ba ba' b3 b3')
  have H6 := Lib.hid (fun W => mul_any aN aD N3 D3 W ba ba' b3 b3')
  have H7 := Lib.hid (fun W => mul_any aN aD bN bD W ba ba' bb bb')
  have H8 := Lib.hid (fun W => mul_any aN aD cN cD W ba ba' bc bc')
  have H9 := Lib.hid (fun W => add_any N5 D5 N6 D6 W b5 b5' b6 b6')
  have H10 := Lib.hid (fun W => add_any aN aD 0 1 W ba ba' (by omega) (by omega))
  have H11 := Lib.hid (fun W => mul_any aN aD 1 1 W ba ba' (by omega) (by omega))
  rw [e1] at H1
  rw [e2] at H2
  rw [e3] at H3
  rw [e4] at H4
  rw [e5] at H5
  rw [e6] at H6
  rw [e7] at H7
  rw [e8] at H8
  rw [e9] at H9
  rw [e10] at H10
  rw [e11] at H11
  clear e1 e2 e3 e4 e5 e6 e7 e8 e9 e10 e11 HA' HB' HC' sa sb sc s1 s3 s5 s6 ba ba' bb bb' bc bc' b1 b1' b3 b3' b5 b5' b6 b6'
  have S0 := Lib.hid (own3 w #[.int .i64 x0, .int .i64 x1] 34 #[.int .i64 y0, .int .i64 y1] 34 #[.int .i64 z0, .int .i64 z1] 34)
  go_enter Try.func7, Try.ntmps7
  go_wp2_with fail
  refine (shown_any _).mono ?_
  rintro e w1 ⟨rfl, m⟩
  have T := Lib.hid (S0.out.call m)
  clear m S0
  obtain ⟨f0, g0, -, -⟩ := (T.out.at 0 rfl).two
  go_wp2_with fail
  refine (HA.out _).mono ?_
  rintro e w2 ⟨rfl, m⟩
  have T' := Lib.hid ((T.out.call m).alloc #[.int .i64 aN, .int .i64 aD] 24)
  clear m T f0 g0
  have T := T'
  clear T'
  obtain ⟨f0, g0, -, -⟩ := (T.out.at 1 rfl).two
  go_wp2_with fail
  refine (HB.out _).mono ?_
  rintro e w3 ⟨rfl, m⟩
  have T' := Lib.hid ((T.out.call m).alloc #[.int .i64 bN, .int .i64 bD] 24)
  clear m T f0 g0
  have T := T'
  clear T'
  obtain ⟨f0, g0, -, -⟩ := (T.out.at 2 rfl).two
  go_wp2_with fail
  refine (HC.out _).mono ?_
  rintro e w4 ⟨rfl, m⟩
  have T' := Lib.hid ((T.out.call m).alloc #[.int .i64 cN, .int .i64 cD] 24)
  clear m T f0 g0
  have T := T'
  clear T'
  obtain ⟨f0, g0, -, -⟩ := (T.out.at 3 rfl).two
  obtain ⟨f1, g1, -, -⟩ := (T.out.at 4 rfl).two
  go_wp2_with fail
  refine (H1.out _).mono ?_
  rintro e w5 ⟨rfl, m⟩
  have T' := Lib.hid ((T.out.call m).alloc #[.int .i64 N1, .int .i64 D1] 24)
  clear m T f0 g0 f1 g1
  have T := T'
  clear T'
  obtain ⟨f0, g0, -, -⟩ := (T.out.at 4 rfl).two
  obtain ⟨f1, g1, -, -⟩ := (T.out.at 3 rfl).two
  go_wp2_with fail
  refine (H2.out _).mono ?_
  rintro e w6 ⟨rfl, m⟩
  have T' := Lib.hid ((T.out.call m).alloc #[.int .i64 N1, .int .i64 D1] 24)
  clear m T f0 g0 f1 g1
  have T := T'
  clear T'
  obtain ⟨f0, g0, -, -⟩ := (T.out.at 6 rfl).two
  obtain ⟨f1, g1, -, -⟩ := (T.out.at 5 rfl).two
  go_wp2_with fail
  refine (H3.out _).mono ?_
  rintro e w7 ⟨rfl, m⟩
  have T' := Lib.hid ((T.out.call m).alloc #[.int .i64 N2, .int .i64 D2] 24)
  clear m T f0 g0 f1 g1
  have T := T'
  clear T'
  obtain ⟨f0, g0, -, -⟩ := (T.out.at 4 rfl).two
  obtain ⟨f1, g1, -, -⟩ := (T.out.at 5 rfl).two
  go_wp2_with fail
  refine (H4.out _).mono ?_
  rintro e w8 ⟨rfl, m⟩
  have T' := Lib.hid ((T.out.call m).alloc #[.int .i64 N3, .int .i64 D3] 24)
  clear m T f0 g0 f1 g1
  have T := T'
  clear T'
  obtain ⟨f0, g0, -, -⟩ := (T.out.at 3 rfl).two
  obtain ⟨f1, g1, -, -⟩ := (T.out.at 9 rfl).two
  go_wp2_with fail
  refine (H5.out _).mono ?_
  rintro e w9 ⟨rfl, m⟩
  have T' := Lib.hid ((T.out.call m).alloc #[.int .i64 N2, .int .i64 D2] 24)
  clear m T f0 g0 f1 g1
  have T := T'
  clear T'
  obtain ⟨f0, g0, -, -⟩ := (T.out.at 3 rfl).two
  obtain ⟨f1, g1, -, -⟩ := (T.out.at 9 rfl).two
  go_wp2_with fail
  refine (H6.out _).mono ?_
  rintro e w10 ⟨rfl, m⟩
  have T' := Lib.hid ((T.out.call m).alloc #[.int .i64 N4, .int .i64 D4] 24)
  clear m T f0 g0 f1 g1
  have T := T'
  clear T'
  obtain ⟨f0, g0, -, -⟩ := (T.out.at 3 rfl).two
  obtain ⟨f1, g1, -, -⟩ := (T.out.at 4 rfl).two
  go_wp2_with fail
  refine (H7.out _).mono ?_
  rintro e w11 ⟨rfl, m⟩
  have T' := Lib.hid ((T.out.call m).alloc #[.int .i64 N5, .int .i64 D5] 24)
  clear m T f0 g0 f1 g1
  have T := T'
  clear T'
  obtain ⟨f0, g0, -, -⟩ := (T.out.at 3 rfl).two
  obtain ⟨f1, g1, -, -⟩ := (T.out.at 5 rfl).two
  go_wp2_with fail
  refine (H8.out _).mono ?_
  rintro e w12 ⟨rfl, m⟩
  have T' := Lib.hid ((T.out.call m).alloc #[.int .i64 N6, .int .i64 D6] 24)
  clear m T f0 g0 f1 g1
  have T := T'
  clear T'
  obtain ⟨f0, g0, -, -⟩ := (T.out.at 12 rfl).two
  obtain ⟨f1, g1, -, -⟩ := (T.out.at 13 rfl).two
  go_wp2_with fail
  refine (H9.out _).mono ?_
  rintro e w13 ⟨rfl, m⟩
  have T' := Lib.hid ((T.out.call m).alloc #[.int .i64 N4, .int .i64 D4] 24)
  clear m T f0 g0 f1 g1
  have T := T'
  clear T'
  obtain ⟨f0, g0, -, -⟩ := (T.out.at 3 rfl).two
  go_wp2_with fail
  refine (H10.out _).mono ?_
  rintro e w14 ⟨rfl, m⟩
  have T' := Lib.hid ((T.out.call m).alloc #[.int .i64 aN, .int .i64 aD] 24)
  clear m T f0 g0
  have T := T'
  clear T'
  obtain ⟨f0, g0, -, -⟩ := (T.out.at 3 rfl).two
  go_wp2_with fail
  refine (H11.out _).mono ?_
  rintro e w15 ⟨rfl, m⟩
  have T' := Lib.hid ((T.out.call m).alloc #[.int .i64 aN, .int .i64 aD] 24)
  clear m T f0 g0
  have T := T'
  clear T'
  obtain ⟨f0, g0, -, -⟩ := (T.out.at 3 rfl).two
  obtain ⟨f1, g1, -, -⟩ := (T.out.at 6 rfl).two
  obtain ⟨f2, g2, -, -⟩ := (T.out.at 7 rfl).two
  obtain ⟨f3, g3, -, -⟩ := (T.out.at 8 rfl).two
  obtain ⟨f4, g4, -, -⟩ := (T.out.at 10 rfl).two
  obtain ⟨f5, g5, -, -⟩ := (T.out.at 11 rfl).two
  obtain ⟨f6, g6, -, -⟩ := (T.out.at 14 rfl).two
  obtain ⟨f7, g7, -, -⟩ := (T.out.at 15 rfl).two
  go_wp2_with fail
  go_ret
  exact ⟨rfl, T.out.mod.to_below⟩
end Go.Proofs.Ytiigcilmpclclaa

/- RatioScaled: the walk. -/
import Derived.Test.YtiigcilmpclclaaRatShown
namespace Go.Proofs.Ytiigcilmpclclaa
open Go.RowKit
set_option linter.unusedVariables false

namespace Rat
theorem half_spec {s y : Int} (hy : 0 < y) : 2 * y * half s y ≤ 2 * s + y ∧ 2 * s + y < 2 * y * half s y + 2 * y := by
  unfold half
  have h1 := Int.mul_ediv_self_le (x := 2 * s + y) (k := 2 * y) (by omega)
  have h2 := Int.lt_mul_ediv_self_add (x := 2 * s + y) (k := 2 * y) (by omega)
  exact ⟨h1, h2⟩
theorem half_same {N D M b : Int} (hD : 0 < D) (hb : 0 < b) (h : N * b = M * D) : half N D = half M b := by
  obtain ⟨h1, h2⟩ := half_spec (s := N) hD
  symm
  unfold half
  refine ediv_of (by omega) ?_ ?_
  · refine Int.le_of_mul_le_mul_left (a := D) ?_ hD
    have := Int.mul_le_mul_of_nonneg_left h1 (Int.le_of_lt hb)
    change D * (2 * b * half N D) ≤ _
    grind
  · refine Int.lt_of_mul_lt_mul_left (a := D) ?_ (Int.le_of_lt hD)
    have := Int.mul_lt_mul_of_pos_left h2 hb
    change _ < D * (2 * b * half N D + 2 * b)
    grind
theorem half_mono {s s' y : Int} (hy : 0 < y) (h : s ≤ s') : half s y ≤ half s' y := Int.ediv_le_ediv (by omega) (by omega)
theorem half_self {n b : Int} (hb : 0 < b) : half (n * b) b = n := by
  unfold half
  exact ediv_by (2 * (n * b)) (by omega) (by grind) (by omega) (by omega)

theorem scaled_all (n a b m : Int) (hn : -1073741824 < n ∧ n < 1073741824) (ha : 0 ≤ a ∧ a ≤ 1073741823) (hb : 1 ≤ b ∧ b ≤ 1073741824) (hm : 0 ≤ m ∧ m ≤ 32767) :
    ∃ s t N D : Int, scaleR n a b = (s, true) ∧ scaleR (n + m) a b = (t, true) ∧ scaleR n b b = (n, true) ∧ makeR (n * a) b = (N, D, true) ∧ roundR N D = s ∧ s ≤ t ∧
      (-9223372036854775808 ≤ N ∧ N ≤ 9223372036854775807) ∧ (-9223372036854775808 ≤ D ∧ D ≤ 9223372036854775807) := by
  have b1 := mul_bd 1073741824 1073741824 (x := n) (y := a) (by omega) (by omega) (by omega) (by omega)
  have b2 := mul_bd 1073774592 1073741824 (x := n + m) (y := a) (by omega) (by omega) (by omega) (by omega)
  have b3 := mul_bd 1073741824 1073741824 (x := n) (y := b) (by omega) (by omega) (by omega) (by omega)
  have hb0 : ((b.natAbs : Nat) : Int) = b := by omega
  have hle : n * a ≤ (n + m) * a := Int.mul_le_mul_of_nonneg_right (by omega) ha.1
  have big : ∀ x : Int, x * 1 ≤ x * b ∨ x < 0 := fun x => by
    by_cases hx : x < 0
    · exact .inr hx
    · exact .inl (Int.mul_le_mul_of_nonneg_left hb.1 (by omega))
  have sc : ∀ x y : Int, -4611686018427387904 ≤ x * y → x * y ≤ 4611686018427387904 → scaleR x y b = (half (x * y) b, true) := fun x y h1 h2 => by
    rw [scaleR_eq (by omega), if_neg (by omega), hb0]
    have := half_le (N := x * y) (D := b) (by omega) 4611686018427387904 (by omega) (by omega) (by omega)
    unfold fits
    rw [if_pos (by omega)]
  have h0 : b ≠ 0 := by omega
  have hs : (tell (n * a) b).2.2 = true := tell_some (by omega) (by omega)
  obtain ⟨N, D, ht⟩ : ∃ N D, tell (n * a) b = (N, D, true) := ⟨(tell (n * a) b).1, (tell (n * a) b).2.1, by rw [← hs]⟩
  obtain ⟨hr, he, hD, hN, hD2⟩ := tell_told h0 ht
  refine ⟨half (n * a) b, half ((n + m) * a) b, N, D, sc n a (by omega) (by omega), sc (n + m) a (by omega) (by omega), ?_, ?_, ?_, half_mono (by omega) hle, by omega, by omega⟩
  · rw [sc n b (by omega) (by omega), half_self (by omega)]
  · rw [makeR_tell, if_neg h0, ht]
  · rw [roundR_eq hr hN]
    exact half_same hD (by omega) he
end Rat

set_option maxHeartbeats 2000000 in
theorem scaled_walk (x y z m : Int) (w : World) (hx : -9223372036854775808 ≤ x ∧ x ≤ 9223372036854775807) (hy : -9223372036854775808 ≤ y ∧ y ≤ 9223372036854775807) (hz : -9223372036854775808 ≤ z ∧ z ≤ 9223372036854775807) (hm : -9223372036854775808 ≤ m ∧ m ≤ 9223372036854775807) :
    Calls Try.prog 6 #[.agg #[.int .i64 x, .int .i64 y, .int .i64 z], .int .i64 m] w fun e w' => e = .returned (.bool true) ∧ Below w.heap.size w w' := by
  have bn := tmod_bd x 1073741824 (by omega)
  have ba : 0 ≤ bits .and .i64 y 1073741823 ∧ bits .and .i64 y 1073741823 ≤ 1073741823 := and_mask y 1073741823 (by omega)
  have bb : 0 ≤ bits .and .i64 z 1073741823 ∧ bits .and .i64 z 1073741823 ≤ 1073741823 := and_mask z 1073741823 (by omega)
  have bm : 0 ≤ bits .and .i64 m 32767 ∧ bits .and .i64 m 32767 ≤ 32767 := and_mask m 32767 (by omega)
  obtain ⟨n', en⟩ : ∃ n', x.tmod 1073741824 = n' := ⟨_, rfl⟩
  obtain ⟨a', ea⟩ : ∃ n', bits .and .i64 y 1073741823 = n' := ⟨_, rfl⟩
  obtain ⟨b', eb⟩ : ∃ n', bits .and .i64 z 1073741823 = n' := ⟨_, rfl⟩
  obtain ⟨m', em⟩ : ∃ n', bits .and .i64 m 32767 = n' := ⟨_, rfl⟩
  rw [en] at bn
  rw [ea] at ba
  rw [eb] at bb
  rw [em] at bm
  have b1 : -1152921504606846976 ≤ n' * a' ∧ n' * a' ≤ 1152921504606846976 := by have := mul_bd 1073741824 1073741824 (x := n') (y := a') (by omega) (by omega) (by omega) (by omega); omega
  obtain ⟨s, t, N, D, e1, e2, e3, e4, e5, hst, hN, hD⟩ := Rat.scaled_all n' a' (1 + b') m' bn ba (by omega) bm
  have H1 := Lib.hid (fun W => scale_any n' a' (1 + b') W (by omega) (by omega) (by omega))
  have H2 := Lib.hid (fun W => scale_any (n' + m') a' (1 + b') W (by omega) (by omega) (by omega))
  have H3 := Lib.hid (fun W => scale_any n' (1 + b') (1 + b') W (by omega) (by omega) (by omega))
  have H4 := Lib.hid (fun W => make_any (n' * a') (1 + b') W (by omega) (by omega))
  have H5 := Lib.hid (fun W => round_any N D W hN hD)
  rw [e1] at H1
  rw [e2] at H2
  rw [e3] at H3
  rw [e4] at H4
  rw [e5] at H5
  have q1 : (s == s) = true := by simp
  have q2 : (n' == n') = true := by simp
  have q3 : decide (s ≤ t) = true := by simpa using hst
  clear e1 e2 e3 e4 e5
  have S0 := Lib.hid (own1 w #[.int .i64 x, .int .i64 y, .int .i64 z] 31)
  go_enter Try.func6, Try.ntmps6
  go_wp2_with fail
  refine (shown_any _).mono ?_
  rintro e w1 ⟨rfl, m1⟩
  have S1 := Lib.hid (S0.out.call m1)
  clear m1 S0
  obtain ⟨x0, x1, x2, -, -, -⟩ := (S1.out.at 0 rfl).three
  go_wp2_with fail
  refine (H1.out _).mono ?_
  rintro e w2 ⟨rfl, m2⟩
  have S2 := Lib.hid (S1.out.call m2)
  clear m2 S1 x0 x1 x2
  go_wp2_with fail
  refine (H2.out _).mono ?_
  rintro e w3 ⟨rfl, m3⟩
  have S3 := Lib.hid (S2.out.call m3)
  clear m3 S2
  go_wp2_with fail
  refine (H3.out _).mono ?_
  rintro e w4 ⟨rfl, m4⟩
  have S4 := Lib.hid (S3.out.call m4)
  clear m4 S3
  go_wp2_with fail
  refine (H4.out _).mono ?_
  rintro e w5 ⟨rfl, m5⟩
  have S5 := Lib.hid ((S4.out.call m5).alloc #[.int .i64 N, .int .i64 D] 24)
  clear m5 S4
  go_wp2_with fail
  refine (H5.out _).mono ?_
  rintro e w6 ⟨rfl, m6⟩
  have S6 := Lib.hid (S5.out.call m6)
  clear m6 S5
  go_wp2_with fail
  go_ret
  exact ⟨rfl, S6.out.mod.to_below⟩
end Go.Proofs.Ytiigcilmpclclaa

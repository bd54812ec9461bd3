/- RatioLeast: the walk. -/
import Derived.Test.YtiigcilmpclclaaRatShown
import Derived.Outline
namespace Go.Proofs.Ytiigcilmpclclaa
open Go.RowKit
set_option linter.unusedVariables false

namespace Rat
theorem least_yes (n d k : Int) (hn : -1073741824 < n ∧ n < 1073741824) (hd : -1073741824 < d ∧ d < 1073741824) (hk : 1 ≤ k ∧ k ≤ 32768) (h0 : d ≠ 0) :
    ∃ N D : Int, makeR n d = (N, D, true) ∧ makeR (n * k) (d * k) = (N, D, true) ∧ makeR (-n) (-d) = (N, D, true) ∧ 0 < D ∧ D ≤ 1073741824 ∧ -1073741824 ≤ N ∧ N ≤ 1073741824 ∧ ((D == 1) = (n.tmod d == 0)) ∧ N * d = n * D := by
  have hs : (tell n d).2.2 = true := tell_some (by omega) (by omega)
  obtain ⟨N, D, ht⟩ : ∃ N D, tell n d = (N, D, true) := ⟨(tell n d).1, (tell n d).2.1, by rw [← hs]⟩
  obtain ⟨hr, he, hD, hN, hD2⟩ := tell_told h0 ht
  have hl := tell_le (n := n) (d := d)
  rw [ht] at hl
  dsimp only at hl
  obtain ⟨_, _, hc⟩ := (rightB_iff _ _).1 hr
  have hk0 : d * k ≠ 0 := Int.mul_ne_zero h0 (by omega)
  refine ⟨N, D, ?_, ?_, ?_, hD, by omega, by omega, by omega, ?_, he⟩
  · rw [makeR_tell, if_neg h0, ht]
  · rw [makeR_tell, if_neg hk0, tell_same hk0 h0 (show n * k * d = n * (d * k) by grind), ht]
  · rw [makeR_tell, if_neg (by omega), tell_same (by omega) h0 (show -n * d = n * -d by grind), ht]
  · rw [Bool.eq_iff_iff, beq_iff_eq, beq_iff_eq]
    constructor
    · intro h1
      rw [h1, Int.mul_one] at he
      rw [← he]; exact Int.mul_tmod_left _ _
    · intro h1
      obtain ⟨q, hq⟩ := Int.dvd_of_tmod_eq_zero h1
      have := Is.unique (N := N) (D := D) (N' := q) (D' := 1) (n := n) (d := d) ⟨hD, hc, he⟩ ⟨by omega, by simp [Nat.Coprime], by rw [hq]; grind⟩ h0
      exact this.2
end Rat

set_option maxHeartbeats 2000000 in
theorem least_walk (n d k : Int) (w : World) (hn : -9223372036854775808 ≤ n ∧ n ≤ 9223372036854775807) (hd : -9223372036854775808 ≤ d ∧ d ≤ 9223372036854775807) (hk : -9223372036854775808 ≤ k ∧ k ≤ 9223372036854775807) :
    Calls Try.prog 5 #[.int .i64 n, .int .i64 d, .int .i64 k] w fun e w' => e = .returned (.bool true) ∧ Below w.heap.size w w' := by
  have bn := tmod_bd n 1073741824 (by omega)
  have bd := tmod_bd d 1073741824 (by omega)
  have bk : 0 ≤ bits .and .i64 k 32767 ∧ bits .and .i64 k 32767 ≤ 32767 := and_mask k 32767 (by omega)
  obtain ⟨n', en⟩ : ∃ n', n.tmod 1073741824 = n' := ⟨_, rfl⟩
  obtain ⟨d', ed⟩ : ∃ d', d.tmod 1073741824 = d' := ⟨_, rfl⟩
  obtain ⟨k', ek⟩ : ∃ k', bits .and .i64 k 32767 = k' := ⟨_, rfl⟩
  rw [en] at bn
  rw [ed] at bd
  rw [ek] at bk
  have hp1 : -35184372088832 ≤ n' * (1 + k') ∧ n' * (1 + k') ≤ 35184372088832 := by have := mul_bd 1073741824 32768 (x := n') (y := 1 + k') (by omega) (by omega) (by omega) (by omega); omega
  have hp2 : -35184372088832 ≤ d' * (1 + k') ∧ d' * (1 + k') ≤ 35184372088832 := by have := mul_bd 1073741824 32768 (x := d') (y := 1 + k') (by omega) (by omega) (by omega) (by omega); omega
  by_cases h0 : d' = 0
  · subst h0
    have H1 : Hid (∀ W : World, Calls Try.prog 14 #[.int .i64 n', .int .i64 0] W fun e w' => e = .returned (.tuple #[.agg #[.int .i64 0, .int .i64 0], .bool false]) ∧ Mod [] W w') := fun W => make_any n' 0 W (by omega) (by omega)
    have H2 : Hid (∀ W : World, Calls Try.prog 14 #[.int .i64 (n' * (1 + k')), .int .i64 0] W fun e w' => e = .returned (.tuple #[.agg #[.int .i64 0, .int .i64 0], .bool false]) ∧ Mod [] W w') := fun W => make_any _ 0 W (by omega) (by omega)
    have H3 : Hid (∀ W : World, Calls Try.prog 14 #[.int .i64 (-n'), .int .i64 0] W fun e w' => e = .returned (.tuple #[.agg #[.int .i64 0, .int .i64 0], .bool false]) ∧ Mod [] W w') := fun W => make_any (-n') 0 W (by omega) (by omega)
    clear hp2
    go_enter Try.func5, Try.ntmps5
    go_wp2_with fail
    refine (shown_any _).mono ?_
    rintro e w1 ⟨rfl, m1⟩
    have S1 := Lib.hid ((Own.start w).call m1)
    clear m1
    go_wp2_with fail
    refine (H1.out _).mono ?_
    rintro e w2 ⟨rfl, m2⟩
    have S2 := Lib.hid ((S1.out.call m2).alloc #[.int .i64 0, .int .i64 0] 24)
    clear m2 S1
    go_wp2_with fail
    refine (H2.out _).mono ?_
    rintro e w3 ⟨rfl, m3⟩
    have S3 := Lib.hid ((S2.out.call m3).alloc #[.int .i64 0, .int .i64 0] 24)
    clear m3 S2
    go_wp2_with fail
    refine (H3.out _).mono ?_
    rintro e w4 ⟨rfl, m4⟩
    have S4 := Lib.hid ((S3.out.call m4).alloc #[.int .i64 0, .int .i64 0] 24)
    clear m4 S3
    go_wp2_with fail
    go_ret
    exact ⟨rfl, S4.out.mod.to_below⟩
  have d0 : (d' == 0) = false := by simpa using h0
  obtain ⟨N, D, e1, e2, e3, hD, hD2, hN1, hN2, hw, hx⟩ := Rat.least_yes n' d' (1 + k') bn bd (by omega) h0
  have H1 := Lib.hid (fun W => make_any n' d' W (by omega) (by omega))
  have H2 := Lib.hid (fun W => make_any (n' * (1 + k')) (d' * (1 + k')) W (by omega) (by omega))
  have H3 := Lib.hid (fun W => make_any (-n') (-d') W (by omega) (by omega))
  rw [e1] at H1
  rw [e2] at H2
  rw [e3] at H3
  have hq1 : -1152921504606846976 ≤ N * d' ∧ N * d' ≤ 1152921504606846976 := by have := mul_bd 1073741824 1073741824 (x := N) (y := d') (by omega) (by omega) (by omega) (by omega); omega
  have hq2 : -1152921504606846976 ≤ n' * D ∧ n' * D ≤ 1152921504606846976 := by have := mul_bd 1073741824 1073741824 (x := n') (y := D) (by omega) (by omega) (by omega) (by omega); omega
  have HX : (N * d' == n' * D) = true := by rw [hx]; simp
  have d2 : decide (0 < D) = true := by simpa using hD
  have HW := Lib.hid hw
  clear e1 e2 e3 hx hw
  generalize ep1 : n' * (1 + k') = P1 at *
  generalize ep2 : d' * (1 + k') = P2 at *
  go_enter Try.func5, Try.ntmps5
  go_wp2_with fail
  refine (shown_any _).mono ?_
  rintro e w1 ⟨rfl, m1⟩
  have S1 := Lib.hid ((Own.start w).call m1)
  clear m1
  go_wp2_with fail
  refine (H1.out _).mono ?_
  rintro e w2 ⟨rfl, m2⟩
  have S2 := Lib.hid ((S1.out.call m2).alloc #[.int .i64 N, .int .i64 D] 24)
  clear m2 S1
  go_wp2_with fail
  refine (H2.out _).mono ?_
  rintro e w3 ⟨rfl, m3⟩
  have S3 := Lib.hid ((S2.out.call m3).alloc #[.int .i64 N, .int .i64 D] 24)
  clear m3 S2
  go_wp2_with fail
  refine (H3.out _).mono ?_
  rintro e w4 ⟨rfl, m4⟩
  have S4 := Lib.hid ((S3.out.call m4).alloc #[.int .i64 N, .int .i64 D] 24)
  clear m4 S3
  obtain ⟨a0, a1, -, -⟩ := (S4.out.at 0 rfl).two
  obtain ⟨b0, b1, -, -⟩ := (S4.out.at 1 rfl).two
  go_wp2_with fail
  go_ret
  exact ⟨rfl, S4.out.mod.to_below⟩
end Go.Proofs.Ytiigcilmpclclaa

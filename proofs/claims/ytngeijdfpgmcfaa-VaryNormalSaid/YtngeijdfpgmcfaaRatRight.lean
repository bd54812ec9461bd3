/- ratio: right; math/bits.Rem64. -/
import Derived.Test.YtngeijdfpgmcfaaRatMake
namespace Go.Proofs.Ytngeijdfpgmcfaa
open Go.RowKit

theorem quiet_left {P : Program} {f : FuncId} {args : Array Value} {w : World} {n : Nat} {v : Value}
    (h : Calls P f args (w.drewN n) fun e w' => e = .returned v ∧ w.drewN n = w') : Calls P f args (w.drewN n) fun e w'' => e = .returned v ∧ ∃ m, w'' = w.drewN m :=
  h.mono fun _ _ ⟨he, hm⟩ => ⟨he, n, hm.symm⟩

namespace Rat
/-- May a ratio be? -/
def rightB (N D : Int) : Bool := decide (0 < D ∧ N ≠ -9223372036854775808 ∧ Nat.gcd N.natAbs D.natAbs = 1)
end Rat

set_option maxHeartbeats 1000000 in
theorem right_any (N D : Int) (w : World) (hn : -9223372036854775808 ≤ N ∧ N ≤ 9223372036854775807) (hd : -9223372036854775808 ≤ D ∧ D ≤ 9223372036854775807) :
    Calls Try.prog 44 #[.agg #[.int .i64 N, .int .i64 D]] w fun e w' => e = .returned (.bool (Rat.rightB N D)) ∧ Mod [] w w' := by
  have M0 := Lib.hid ((Mod.refl [] w).alloc (.cells #[.int .i64 N, .int .i64 D] 51))
  by_cases h1 : 0 < D
  · have d1 : decide (0 < D) = true := by simpa using h1
    by_cases h2 : N = -9223372036854775808
    · have d2 : (N != -9223372036854775808) = false := by simp [h2]
      have HR := Lib.hid (show Rat.rightB N D = false by unfold Rat.rightB; simp [h2])
      clear h2
      go_enter Try.func44, Try.ntmps44
      go_wp2_with fail
      go_quiet (fail)
      go_wp2_with fail
      go_ret
      exact ⟨by rw [HR.out]; rfl, M0.out.drewN _⟩
    · have d2 : (N != -9223372036854775808) = true := by simpa using h2
      have HR := Lib.hid (show Rat.rightB N D = (((Nat.gcd N.natAbs D.natAbs : Nat) : Int) == 1) by
        unfold Rat.rightB; rw [Bool.eq_iff_iff]; simp [h1, h2]; omega)
      have HD := Lib.hid (fun W => divisor_any N.natAbs D.natAbs W (by omega) (by omega))
      have HSn := Lib.hid (fun W => size_any N W hn.1 hn.2)
      have hDw : IntKind.u64.wrap D = (D.natAbs : Int) := by rw [IntKind.wrap_u64]; omega
      clear h2
      generalize Nat.gcd N.natAbs D.natAbs = g at *
      generalize N.natAbs = x at *
      generalize D.natAbs = y at *
      go_enter Try.func44, Try.ntmps44
      go_wp2_with fail
      go_quiet ((first | (go_at_call 32; exact quiet_left (HSn.out _)) | (go_at_call 31; exact Calls.quiet_of (HD.out _))))
      go_wp2_with fail
      go_ret
      exact ⟨by rw [HR.out]; rfl, M0.out.drewN _⟩
  · have d1 : decide (0 < D) = false := by simpa using h1
    have HR := Lib.hid (show Rat.rightB N D = false by unfold Rat.rightB; simp [h1])
    clear h1
    go_enter Try.func44, Try.ntmps44
    go_wp2_with fail
    go_quiet (fail)
    go_wp2_with fail
    go_ret
    exact ⟨by rw [HR.out]; rfl, M0.out.drewN _⟩

theorem rem_eq (hi lo y : Nat) : (hi % y * 18446744073709551616 + lo) % y = (hi * 18446744073709551616 + lo) % y := by
  rw [Nat.add_mod, Nat.mul_mod, Nat.mod_mod, ← Nat.mul_mod, ← Nat.add_mod]

set_option maxHeartbeats 400000 in
theorem rem64_gen (hi lo y hm q r : Nat) (hy0 : 0 < y) (hmd : hm = hi % y) (HD : Hid (∀ W : World, Calls Try.prog 48 #[.int .u64 hm, .int .u64 lo, .int .u64 y] W fun e w' => e = .returned (.tuple #[.int .u64 q, .int .u64 r]) ∧ ∃ n, w' = W.drewN n)) (w : World) :
    Calls Try.prog 47 #[.int .u64 hi, .int .u64 lo, .int .u64 y] w fun e w' => e = .returned (.int .u64 r) ∧ ∃ n, w' = w.drewN n := by
  have hmm : (hi : Int) % (y : Int) = (hm : Int) := by rw [hmd]; exact (Int.natCast_emod hi y).symm
  have g0 : ((y : Int) == 0) = false := by simp; omega
  clear hmd
  go_enter Try.func47, Try.ntmps47
  go_wp2_with fail
  refine (HD.out _).mono ?_
  rintro e w1 ⟨rfl, k, rfl⟩
  go_wp2_with fail
  go_ret
  exact ⟨rfl, k, rfl⟩
theorem rem64_any (hi lo y : Nat) (hy0 : 0 < y) (hy : y < 18446744073709551616) (hl : lo < 18446744073709551616) (w : World) :
    Calls Try.prog 47 #[.int .u64 hi, .int .u64 lo, .int .u64 y] w fun e w' => e = .returned (.int .u64 (((hi * 18446744073709551616 + lo) % y : Nat) : Int)) ∧ ∃ n, w' = w.drewN n := by
  rw [← rem_eq hi lo y]
  exact rem64_gen hi lo y (hi % y) _ _ hy0 rfl (fun W => div64_any (hi % y) lo y (Nat.mod_lt _ hy0) hy hl W) w
end Go.Proofs.Ytngeijdfpgmcfaa

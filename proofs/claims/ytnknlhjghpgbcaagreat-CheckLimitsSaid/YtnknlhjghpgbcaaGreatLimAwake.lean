/-
  The examples of the chapter come out, by the evaluator; rest. No condition.
-/
import Derived.Test.YtnknlhjghpgbcaaGreatLimDef
import Derived.KernelRfl
import Derived.IntWalk
import Derived.Tactics
import Derived.WalkLawsBesides
import Derived.Deep.DeepCutAuto
namespace Go.Proofs.YtnknlhjghpgbcaaGreat
open Go.RowKit Ev
set_option linter.unusedVariables false
set_option linter.unusedSimpArgs false

set_option maxRecDepth 100000 in
theorem awake_ev : allTrue (@Ev.start Tryz.prog (noOrc _) 5 #[] 1000000) = true := by kernel_rfl
theorem mixed : Tryz.prog.follows .mixedOrders = true := by kernel_rfl
theorem awake_true (w : World) : Calls Tryz.prog 5 #[] w fun e w' => e = .returned (.bool true) ∧ Below w.heap.size w w' := @ev_calls noVal Tryz.prog (noOrc _) (@noOk noVal _) mixed _ _ _ _ rfl rfl (allTrue_some awake_ev) w

theorem tmod_twice (x n : Int) (hn : 0 < n) : (x.tmod n + n).tmod n = x % n := by
  have h1 := Int.tmod_lt_of_pos x hn
  have h2 := Int.tmod_lt_of_pos (-x) hn
  rw [Int.neg_tmod] at h2
  rw [Int.tmod_eq_emod_of_nonneg (by omega)]
  rw [Int.add_emod_right]
  rw [Int.tmod_def]
  exact Int.sub_mul_emod_self_left x n _

set_option maxHeartbeats 1000000 in
theorem rest_any (x n : Int) (w : World) (hx : -9223372036854775808 ≤ x ∧ x ≤ 9223372036854775807) (hn : 1 ≤ n ∧ n ≤ 100000) :
    Calls Tryz.prog 6 #[.int .i64 x, .int .i64 n] w fun e w' => e = .returned (.int .i64 (x % n)) ∧ w = w' := by
  have h1 := Int.tmod_lt_of_pos x (show 0 < n by omega)
  have h2 := Int.tmod_lt_of_pos (-x) (show 0 < n by omega)
  rw [Int.neg_tmod] at h2
  have e1 : IntKind.i64.wrap (x.tmod n + n) = x.tmod n + n := IntWalk.i64_in _ (by omega)
  have e2 : (x.tmod n + n).tmod n = x % n := tmod_twice x n (by omega)
  have e3 : n ≠ 0 := by omega
  have e4 : IntKind.i64.wrap (x % n) = x % n := IntWalk.i64_in _ (by have := Int.emod_nonneg x e3; have := Int.emod_lt_of_pos x (show 0 < n by omega); omega)
  have e5 : IntKind.i64.wrap (x.tmod n) = x.tmod n := IntWalk.i64_in _ (by omega)
  clear hx hn h1 h2
  go_enter Tryz.func6, Tryz.ntmps6
  go_wp2_with fail
  go_ret
  exact ⟨rfl, rfl⟩
end Go.Proofs.YtnknlhjghpgbcaaGreat

/-
  CheckLimits: it returns true, whatever the two numbers. No condition.
-/
import Derived.Test.YtnknlhjghpgbcaaGreatLimAll
import Derived.Test.YtnknlhjghpgbcaaGreatLimDef2
namespace Go.Proofs.YtnknlhjghpgbcaaGreat
open Go.RowKit Ev
set_option linter.unusedVariables false

theorem lim_walk (a b : Int) (w : World) (ha : -9223372036854775808 ≤ a ∧ a ≤ 9223372036854775807) (hb : -9223372036854775808 ≤ b ∧ b ≤ 9223372036854775807) :
    Calls Tryz.prog 4 #[.int .i64 a, .int .i64 b] w fun e w' => e = .returned (.bool true) ∧ Below w.heap.size w w' := by
  have h0 : 0 ≤ a % 6 ∧ a % 6 < 6 := ⟨Int.emod_nonneg _ (by omega), Int.emod_lt_of_pos _ (by omega)⟩
  have h1 : 0 ≤ b % 5 ∧ b % 5 < 5 := ⟨Int.emod_nonneg _ (by omega), Int.emod_lt_of_pos _ (by omega)⟩
  have hall := lim_all (a % 6) (b % 5) h0 h1
  have hc : ∀ e ∈ limCalls (a % 6) (b % 5), @CallOk (numbers [a, b]) Tryz.prog e := by
    intro e he
    simp only [limCalls, List.mem_cons, List.not_mem_nil, or_false] at he
    rcases he with rfl | rfl | rfl
    · exact ⟨rfl, rfl, fun w => awake_true w⟩
    · exact ⟨rfl, rfl, fun w => (rest_any b 5 w hb (by omega)).mono fun e w' ⟨q1, q2⟩ => ⟨q1, by subst q2; exact .refl _ _⟩⟩
    · exact ⟨rfl, rfl, fun w => (rest_any a 6 w ha (by omega)).mono fun e w' ⟨q1, q2⟩ => ⟨q1, by subst q2; exact .refl _ _⟩⟩
  rcases hall with hall | hall
  · exact @ev_callsR (numbers [a, b]) Tryz.prog (limO (a % 6) (b % 5)) (limOk (V := numbers [a, b]) (a % 6) (b % 5) hc) mixed 4 limArgs #[.int .i64 a, .int .i64 b] 10000000 (.bool true) (@dens_vr (numbers [a, b]) _ 3 limArgs rfl) rfl (allTrue_some hall) w
  · exact @ev_callsR (numbers [a, b]) Tryz.prog (limOT (b % 5)) (limOkT a b (b % 5) ha hb hall.1 rfl) mixed 4 [.chan (some 1), .chan (some 2)] #[.int .i64 a, .int .i64 b] 10000000 (.bool true) (@dens_vr (numbers [a, b]) _ 3 [.chan (some 1), .chan (some 2)] rfl) rfl (limT_some hall.2) w
end Go.Proofs.YtnknlhjghpgbcaaGreat

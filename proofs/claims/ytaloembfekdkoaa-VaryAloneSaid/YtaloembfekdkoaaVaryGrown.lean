/- vary: grown, where nothing is given up. -/
import Derived.Test.YtaloembfekdkoaaVaryUnder
namespace Go.Proofs.Ytaloembfekdkoaa
open Go.RowKit
set_option linter.unusedVariables false
theorem make_one (n : Int) (h : -9223372036854775807 ≤ n ∧ n ≤ 9223372036854775807) : Rat.makeR n 1 = (n, 1, true) := by
  rw [Rat.makeR_tell, if_neg (by omega)]
  exact Rat.tell_of (by omega) ((Rat.rightB_iff _ _).2 ⟨by omega, by omega, by simp [Nat.Coprime]⟩) rfl (by omega) (by omega)
end Go.Proofs.Ytaloembfekdkoaa

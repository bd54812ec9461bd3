/-
  CheckLimits: one of its cases, by the evaluator. No condition.
-/
import Derived.Test.YtnknlhjghpgbcaaGreatLimTab
import Derived.KernelRfl
namespace Go.Proofs.YtnknlhjghpgbcaaGreat
set_option maxRecDepth 100000
theorem limT_3_2 : limAtT 2 = true := by kernel_rfl
end Go.Proofs.YtnknlhjghpgbcaaGreat

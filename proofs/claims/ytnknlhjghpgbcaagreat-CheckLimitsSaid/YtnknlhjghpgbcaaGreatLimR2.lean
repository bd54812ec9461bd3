/-
  CheckLimits: one of its cases, by the evaluator. No condition.
-/
import Derived.Test.YtnknlhjghpgbcaaGreatLimDef2
import Derived.KernelRfl
namespace Go.Proofs.YtnknlhjghpgbcaaGreat
set_option maxRecDepth 100000
theorem lim2_3_2 : limAt2 3 2 = true := by kernel_rfl
end Go.Proofs.YtnknlhjghpgbcaaGreat

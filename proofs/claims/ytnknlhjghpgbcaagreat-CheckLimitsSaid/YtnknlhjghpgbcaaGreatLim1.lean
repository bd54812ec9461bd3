/-
  CheckLimits: some of its cases, by the evaluator. No condition.
-/
import Derived.Test.YtnknlhjghpgbcaaGreatLimDef
import Derived.KernelRfl
namespace Go.Proofs.YtnknlhjghpgbcaaGreat
set_option maxRecDepth 100000
theorem lim_1_0 : limAt 1 0 = true := by kernel_rfl
theorem lim_2_3 : limAt 2 3 = true := by kernel_rfl
end Go.Proofs.YtnknlhjghpgbcaaGreat

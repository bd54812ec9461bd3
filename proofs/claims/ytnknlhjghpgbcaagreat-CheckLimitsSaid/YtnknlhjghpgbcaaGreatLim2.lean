/-
  CheckLimits: some of its cases, by the evaluator. No condition.
-/
import Derived.Test.YtnknlhjghpgbcaaGreatLimDef
import Derived.KernelRfl
namespace Go.Proofs.YtnknlhjghpgbcaaGreat
set_option maxRecDepth 100000
theorem lim_1_1 : limAt 1 1 = true := by kernel_rfl
theorem lim_2_4 : limAt 2 4 = true := by kernel_rfl
end Go.Proofs.YtnknlhjghpgbcaaGreat

/-
  CheckLimits: some of its cases, by the evaluator. No condition.
-/
import Derived.Test.YtnknlhjghpgbcaaGreatLimDef
import Derived.KernelRfl
namespace Go.Proofs.YtnknlhjghpgbcaaGreat
set_option maxRecDepth 100000
theorem lim_0_4 : limAt 0 4 = true := by kernel_rfl
theorem lim_2_1 : limAt 2 1 = true := by kernel_rfl
theorem lim_3_4 : limAt 3 4 = true := by kernel_rfl
theorem lim_5_1 : limAt 5 1 = true := by kernel_rfl
end Go.Proofs.YtnknlhjghpgbcaaGreat

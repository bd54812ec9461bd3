/-
  CheckLimits: some of its cases, by the evaluator. No condition.
-/
import Derived.Test.YtnknlhjghpgbcaaGreatLimDef
import Derived.KernelRfl
namespace Go.Proofs.YtnknlhjghpgbcaaGreat
set_option maxRecDepth 100000
theorem lim_0_3 : limAt 0 3 = true := by kernel_rfl
theorem lim_2_0 : limAt 2 0 = true := by kernel_rfl
theorem lim_3_3 : limAt 3 3 = true := by kernel_rfl
theorem lim_5_0 : limAt 5 0 = true := by kernel_rfl
end Go.Proofs.YtnknlhjghpgbcaaGreat

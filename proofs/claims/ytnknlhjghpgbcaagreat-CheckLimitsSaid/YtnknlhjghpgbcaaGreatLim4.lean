/-
  CheckLimits: some of its cases, by the evaluator. No condition.
-/
import Derived.Test.YtnknlhjghpgbcaaGreatLimDef
import Derived.KernelRfl
namespace Go.Proofs.YtnknlhjghpgbcaaGreat
set_option maxRecDepth 100000
theorem lim_0_1 : limAt 0 1 = true := by kernel_rfl
theorem lim_1_3 : limAt 1 3 = true := by kernel_rfl
theorem lim_4_2 : limAt 4 2 = true := by kernel_rfl
theorem lim_5_3 : limAt 5 3 = true := by kernel_rfl
end Go.Proofs.YtnknlhjghpgbcaaGreat

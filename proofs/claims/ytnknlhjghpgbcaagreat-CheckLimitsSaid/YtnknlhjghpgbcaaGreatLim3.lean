/-
  CheckLimits: some of its cases, by the evaluator. No condition.
-/
import Derived.Test.YtnknlhjghpgbcaaGreatLimDef
import Derived.KernelRfl
namespace Go.Proofs.YtnknlhjghpgbcaaGreat
set_option maxRecDepth 100000
theorem lim_0_0 : limAt 0 0 = true := by kernel_rfl
theorem lim_1_2 : limAt 1 2 = true := by kernel_rfl
theorem lim_4_1 : limAt 4 1 = true := by kernel_rfl
theorem lim_5_2 : limAt 5 2 = true := by kernel_rfl
end Go.Proofs.YtnknlhjghpgbcaaGreat

/-
  CheckLimits: some of its cases, by the evaluator. No condition.
-/
import Derived.Test.YtnknlhjghpgbcaaGreatLimDef
import Derived.KernelRfl
namespace Go.Proofs.YtnknlhjghpgbcaaGreat
set_option maxRecDepth 100000
theorem lim_0_2 : limAt 0 2 = true := by kernel_rfl
theorem lim_1_4 : limAt 1 4 = true := by kernel_rfl
theorem lim_4_3 : limAt 4 3 = true := by kernel_rfl
theorem lim_5_4 : limAt 5 4 = true := by kernel_rfl
end Go.Proofs.YtnknlhjghpgbcaaGreat

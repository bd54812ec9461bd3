/-
  CheckLimits: some of its cases, by the evaluator. No condition.
-/
import Derived.Test.YtnknlhjghpgbcaaGreatLimDef
import Derived.KernelRfl
namespace Go.Proofs.YtnknlhjghpgbcaaGreat
set_option maxRecDepth 100000
theorem lim_2_2 : limAt 2 2 = true := by kernel_rfl
theorem lim_4_0 : limAt 4 0 = true := by kernel_rfl
theorem lim_4_4 : limAt 4 4 = true := by kernel_rfl
end Go.Proofs.YtnknlhjghpgbcaaGreat

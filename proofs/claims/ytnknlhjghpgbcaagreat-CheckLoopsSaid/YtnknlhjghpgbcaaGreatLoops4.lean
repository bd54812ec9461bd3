/-
  CheckLoops: some of its cases, by the evaluator. No condition.
-/
import Derived.Test.YtnknlhjghpgbcaaGreatLoopsDef
import Derived.KernelRfl
namespace Go.Proofs.YtnknlhjghpgbcaaGreat
set_option maxRecDepth 100000
theorem loops_5_1 : loopsAt 5 1 = true := by kernel_rfl
theorem loops_5_4 : loopsAt 5 4 = true := by kernel_rfl
theorem loops_7_1 : loopsAt 7 1 = true := by kernel_rfl
theorem loops_7_5 : loopsAt 7 5 = true := by kernel_rfl
theorem loops_8_3 : loopsAt 8 3 = true := by kernel_rfl
end Go.Proofs.YtnknlhjghpgbcaaGreat

/-
  CheckLoops: some of its cases, by the evaluator. No condition.
-/
import Derived.Test.YtnknlhjghpgbcaaGreatLoopsDef
import Derived.KernelRfl
namespace Go.Proofs.YtnknlhjghpgbcaaGreat
set_option maxRecDepth 100000
theorem loops_2_1 : loopsAt 2 1 = true := by kernel_rfl
theorem loops_5_0 : loopsAt 5 0 = true := by kernel_rfl
theorem loops_5_3 : loopsAt 5 3 = true := by kernel_rfl
theorem loops_7_0 : loopsAt 7 0 = true := by kernel_rfl
theorem loops_7_4 : loopsAt 7 4 = true := by kernel_rfl
theorem loops_8_2 : loopsAt 8 2 = true := by kernel_rfl
end Go.Proofs.YtnknlhjghpgbcaaGreat

/-
  CheckLoops: some of its cases, by the evaluator. No condition.
-/
import Derived.Test.YtnknlhjghpgbcaaGreatLoopsDef
import Derived.KernelRfl
namespace Go.Proofs.YtnknlhjghpgbcaaGreat
set_option maxRecDepth 100000
theorem loops_3_2 : loopsAt 3 2 = true := by kernel_rfl
theorem loops_4_2 : loopsAt 4 2 = true := by kernel_rfl
theorem loops_6_1 : loopsAt 6 1 = true := by kernel_rfl
theorem loops_6_4 : loopsAt 6 4 = true := by kernel_rfl
theorem loops_8_0 : loopsAt 8 0 = true := by kernel_rfl
theorem loops_8_6 : loopsAt 8 6 = true := by kernel_rfl
end Go.Proofs.YtnknlhjghpgbcaaGreat

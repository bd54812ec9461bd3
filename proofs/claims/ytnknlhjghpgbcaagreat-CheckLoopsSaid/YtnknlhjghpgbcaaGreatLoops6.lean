/-
  CheckLoops: some of its cases, by the evaluator. No condition.
-/
import Derived.Test.YtnknlhjghpgbcaaGreatLoopsDef
import Derived.KernelRfl
namespace Go.Proofs.YtnknlhjghpgbcaaGreat
set_option maxRecDepth 100000
theorem loops_3_1 : loopsAt 3 1 = true := by kernel_rfl
theorem loops_4_1 : loopsAt 4 1 = true := by kernel_rfl
theorem loops_6_0 : loopsAt 6 0 = true := by kernel_rfl
theorem loops_6_3 : loopsAt 6 3 = true := by kernel_rfl
theorem loops_7_3 : loopsAt 7 3 = true := by kernel_rfl
theorem loops_8_5 : loopsAt 8 5 = true := by kernel_rfl
end Go.Proofs.YtnknlhjghpgbcaaGreat

/-
  CheckLoops: some of its cases, by the evaluator. No condition.
-/
import Derived.Test.YtnknlhjghpgbcaaGreatLoopsDef
import Derived.KernelRfl
namespace Go.Proofs.YtnknlhjghpgbcaaGreat
set_option maxRecDepth 100000
theorem loops_2_0 : loopsAt 2 0 = true := by kernel_rfl
theorem loops_4_3 : loopsAt 4 3 = true := by kernel_rfl
theorem loops_6_2 : loopsAt 6 2 = true := by kernel_rfl
theorem loops_6_5 : loopsAt 6 5 = true := by kernel_rfl
theorem loops_8_1 : loopsAt 8 1 = true := by kernel_rfl
theorem loops_8_7 : loopsAt 8 7 = true := by kernel_rfl
end Go.Proofs.YtnknlhjghpgbcaaGreat

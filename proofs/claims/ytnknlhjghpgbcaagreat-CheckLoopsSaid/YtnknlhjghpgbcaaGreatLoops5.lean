/-
  CheckLoops: some of its cases, by the evaluator. No condition.
-/
import Derived.Test.YtnknlhjghpgbcaaGreatLoopsDef
import Derived.KernelRfl
namespace Go.Proofs.YtnknlhjghpgbcaaGreat
set_option maxRecDepth 100000
theorem loops_3_0 : loopsAt 3 0 = true := by kernel_rfl
theorem loops_4_0 : loopsAt 4 0 = true := by kernel_rfl
theorem loops_5_2 : loopsAt 5 2 = true := by kernel_rfl
theorem loops_7_2 : loopsAt 7 2 = true := by kernel_rfl
theorem loops_7_6 : loopsAt 7 6 = true := by kernel_rfl
theorem loops_8_4 : loopsAt 8 4 = true := by kernel_rfl
end Go.Proofs.YtnknlhjghpgbcaaGreat

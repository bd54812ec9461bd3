/-
  CheckLoops: all its cases. No condition.
-/
import Derived.Test.YtnknlhjghpgbcaaGreatLoops1
import Derived.Test.YtnknlhjghpgbcaaGreatLoops2
import Derived.Test.YtnknlhjghpgbcaaGreatLoops3
import Derived.Test.YtnknlhjghpgbcaaGreatLoops4
import Derived.Test.YtnknlhjghpgbcaaGreatLoops5
import Derived.Test.YtnknlhjghpgbcaaGreatLoops6
namespace Go.Proofs.YtnknlhjghpgbcaaGreat
theorem loops_all (n k : Int) (hn : 2 ≤ n ∧ n ≤ 8) (hk : 0 ≤ k ∧ k < n) : loopsAt n k = true := by
  have h : n = 2 ∨ n = 3 ∨ n = 4 ∨ n = 5 ∨ n = 6 ∨ n = 7 ∨ n = 8 := by omega
  rcases h with rfl | rfl | rfl | rfl | rfl | rfl | rfl
  · have h : k = 0 ∨ k = 1 := by omega
    rcases h with rfl | rfl
    · exact loops_2_0
    · exact loops_2_1
  · have h : k = 0 ∨ k = 1 ∨ k = 2 := by omega
    rcases h with rfl | rfl | rfl
    · exact loops_3_0
    · exact loops_3_1
    · exact loops_3_2
  · have h : k = 0 ∨ k = 1 ∨ k = 2 ∨ k = 3 := by omega
    rcases h with rfl | rfl | rfl | rfl
    · exact loops_4_0
    · exact loops_4_1
    · exact loops_4_2
    · exact loops_4_3
  · have h : k = 0 ∨ k = 1 ∨ k = 2 ∨ k = 3 ∨ k = 4 := by omega
    rcases h with rfl | rfl | rfl | rfl | rfl
    · exact loops_5_0
    · exact loops_5_1
    · exact loops_5_2
    · exact loops_5_3
    · exact loops_5_4
  · have h : k = 0 ∨ k = 1 ∨ k = 2 ∨ k = 3 ∨ k = 4 ∨ k = 5 := by omega
    rcases h with rfl | rfl | rfl | rfl | rfl | rfl
    · exact loops_6_0
    · exact loops_6_1
    · exact loops_6_2
    · exact loops_6_3
    · exact loops_6_4
    · exact loops_6_5
  · have h : k = 0 ∨ k = 1 ∨ k = 2 ∨ k = 3 ∨ k = 4 ∨ k = 5 ∨ k = 6 := by omega
    rcases h with rfl | rfl | rfl | rfl | rfl | rfl | rfl
    · exact loops_7_0
    · exact loops_7_1
    · exact loops_7_2
    · exact loops_7_3
    · exact loops_7_4
    · exact loops_7_5
    · exact loops_7_6
  · have h : k = 0 ∨ k = 1 ∨ k = 2 ∨ k = 3 ∨ k = 4 ∨ k = 5 ∨ k = 6 ∨ k = 7 := by omega
    rcases h with rfl | rfl | rfl | rfl | rfl | rfl | rfl | rfl
    · exact loops_8_0
    · exact loops_8_1
    · exact loops_8_2
    · exact loops_8_3
    · exact loops_8_4
    · exact loops_8_5
    · exact loops_8_6
    · exact loops_8_7
end Go.Proofs.YtnknlhjghpgbcaaGreat

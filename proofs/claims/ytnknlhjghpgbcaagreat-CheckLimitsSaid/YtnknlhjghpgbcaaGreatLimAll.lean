/-
  CheckLimits: all its cases. No condition.
-/
import Derived.Test.YtnknlhjghpgbcaaGreatLimR0
import Derived.Test.YtnknlhjghpgbcaaGreatLimR1
import Derived.Test.YtnknlhjghpgbcaaGreatLimR2
import Derived.Test.YtnknlhjghpgbcaaGreatLim1
import Derived.Test.YtnknlhjghpgbcaaGreatLim2
import Derived.Test.YtnknlhjghpgbcaaGreatLim3
import Derived.Test.YtnknlhjghpgbcaaGreatLim4
import Derived.Test.YtnknlhjghpgbcaaGreatLim5
import Derived.Test.YtnknlhjghpgbcaaGreatLim6
import Derived.Test.YtnknlhjghpgbcaaGreatLim7
import Derived.Test.YtnknlhjghpgbcaaGreatLim8
namespace Go.Proofs.YtnknlhjghpgbcaaGreat
theorem lim_all (r0 r1 : Int) (h0 : 0 ≤ r0 ∧ r0 < 6) (h1 : 0 ≤ r1 ∧ r1 < 5) : limAt r0 r1 = true ∨ (r0 = 3 ∧ limAtT r1 = true) := by
  have h : r0 = 0 ∨ r0 = 1 ∨ r0 = 2 ∨ r0 = 3 ∨ r0 = 4 ∨ r0 = 5 := by omega
  have k : r1 = 0 ∨ r1 = 1 ∨ r1 = 2 ∨ r1 = 3 ∨ r1 = 4 := by omega
  rcases h with rfl | rfl | rfl | rfl | rfl | rfl
  · rcases k with rfl | rfl | rfl | rfl | rfl
    · exact .inl lim_0_0
    · exact .inl lim_0_1
    · exact .inl lim_0_2
    · exact .inl lim_0_3
    · exact .inl lim_0_4
  · rcases k with rfl | rfl | rfl | rfl | rfl
    · exact .inl lim_1_0
    · exact .inl lim_1_1
    · exact .inl lim_1_2
    · exact .inl lim_1_3
    · exact .inl lim_1_4
  · rcases k with rfl | rfl | rfl | rfl | rfl
    · exact .inl lim_2_0
    · exact .inl lim_2_1
    · exact .inl lim_2_2
    · exact .inl lim_2_3
    · exact .inl lim_2_4
  · rcases k with rfl | rfl | rfl | rfl | rfl
    · exact .inr ⟨rfl, limT_3_0⟩
    · exact .inr ⟨rfl, limT_3_1⟩
    · exact .inr ⟨rfl, limT_3_2⟩
    · exact .inl lim_3_3
    · exact .inl lim_3_4
  · rcases k with rfl | rfl | rfl | rfl | rfl
    · exact .inl lim_4_0
    · exact .inl lim_4_1
    · exact .inl lim_4_2
    · exact .inl lim_4_3
    · exact .inl lim_4_4
  · rcases k with rfl | rfl | rfl | rfl | rfl
    · exact .inl lim_5_0
    · exact .inl lim_5_1
    · exact .inl lim_5_2
    · exact .inl lim_5_3
    · exact .inl lim_5_4
end Go.Proofs.YtnknlhjghpgbcaaGreat

/- RatioScales: the walk. -/
import Derived.Test.YtiigcilmpclclaaRatShown
import Derived.Test.YtiigcilmpclclaaBigScale
namespace Go.Proofs.Ytiigcilmpclclaa
open Go.RowKit
set_option linter.unusedVariables false

set_option maxHeartbeats 2000000 in
theorem scales_walk (n a b : Int) (w : World) (hn : -9223372036854775808 ≤ n ∧ n ≤ 9223372036854775807) (ha : -9223372036854775808 ≤ a ∧ a ≤ 9223372036854775807) (hb : -9223372036854775808 ≤ b ∧ b ≤ 9223372036854775807) :
    Calls Try.prog 4 #[.int .i64 n, .int .i64 a, .int .i64 b] w fun e w' => e = .returned (.bool true) ∧ Below w.heap.size w w' := by
  have H1 := Lib.hid (fun W => scale_any n a b W hn ha hb)
  have H2 := Lib.hid (fun W => scaleRef_any n a b W hn ha hb)
  generalize Rat.scaleR n a b = r at *
  obtain ⟨ra, rb⟩ := r
  clear hn ha hb
  go_enter Try.func4, Try.ntmps4
  go_wp2_with fail
  refine (shown_any _).mono ?_
  rintro e w1 ⟨rfl, m1⟩
  have M1 := Lib.hid m1
  clear m1
  go_wp2_with fail
  refine (H1.out _).mono ?_
  rintro e w2 ⟨rfl, m2⟩
  have M2 := Lib.hid (M1.out.then m2)
  clear m2 M1
  go_wp2_with fail
  refine (H2.out _).mono ?_
  rintro e w3 ⟨rfl, m3⟩
  have M3 := Lib.hid (M2.out.then m3)
  clear m3 M2
  go_wp2_with fail
  go_ret
  exact ⟨rfl, M3.out.to_below⟩
end Go.Proofs.Ytiigcilmpclclaa

/- RatioMakes: the walk. -/
import Derived.Test.YtiigcilmpclclaaRatShown
import Derived.Test.YtiigcilmpclclaaBigMake
namespace Go.Proofs.Ytiigcilmpclclaa
open Go.RowKit
set_option linter.unusedVariables false

set_option maxHeartbeats 2000000 in
theorem makes_walk (n d : Int) (w : World) (hn : -9223372036854775808 ≤ n ∧ n ≤ 9223372036854775807) (hd : -9223372036854775808 ≤ d ∧ d ≤ 9223372036854775807) :
    Calls Try.prog 3 #[.int .i64 n, .int .i64 d] w fun e w' => e = .returned (.bool true) ∧ Below w.heap.size w w' := by
  have e1 : Rat.makeR n d = Rat.told n d := rfl
  have H1 := Lib.hid (fun W => make_any n d W hn hd)
  have H2 := Lib.hid (fun W => makeRef_any n d W hn hd)
  rw [e1] at H1
  generalize Rat.told n d = r at *
  obtain ⟨a, b, c⟩ := r
  clear e1 hn hd
  unfold toldV at H2
  go_enter Try.func3, Try.ntmps3
  go_wp2_with fail
  refine (shown_any _).mono ?_
  rintro e w1 ⟨rfl, m1⟩
  have M1 := Lib.hid m1
  clear m1
  go_wp2_with fail
  refine (H1.out _).mono ?_
  rintro e w2 ⟨rfl, m2⟩
  have T2 := Lib.hid (((Own.start w).call (M1.out.then m2)).alloc #[.int .i64 a, .int .i64 b] 24)
  clear m2 M1 H1
  go_upto_region 3 with fail
  generalize w2.alloc (.cells #[.int .i64 a, .int .i64 b] 24) = W2 at *
  generalize w2.heap.size = b2 at *
  go_wp2_with fail
  refine (H2.out _).mono ?_
  rintro e w3 ⟨rfl, m3⟩
  have T3 := Lib.hid ((T2.out.call m3).alloc #[.int .i64 a, .int .i64 b] 24)
  clear m3 T2 H2
  go_upto_region 4 with fail
  generalize w3.alloc (.cells #[.int .i64 a, .int .i64 b] 24) = W3 at *
  generalize w3.heap.size = b3 at *
  obtain ⟨p0, p1, -, -⟩ := (T3.out.at 0 rfl).two
  obtain ⟨q0, q1, -, -⟩ := (T3.out.at 1 rfl).two
  go_wp2_with fail
  go_ret
  exact ⟨rfl, T3.out.mod.to_below⟩
end Go.Proofs.Ytiigcilmpclclaa

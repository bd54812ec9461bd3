/- The walk of shown. -/
import Derived.Test.YtdgebfdjlbcogaaOctSum
import Derived.Test.YtdgebfdjlbcogaaOctPut
namespace Go.Proofs.Ytdgebfdjlbcogaa
open Go.RowKit

theorem put_258 (w : World) : Calls Try.prog 15 #[.int .i64 258, .int .i64 3] w fun e w' => e = .returned (.string ⟨#[0, 1, 2]⟩) ∧ Below w.heap.size w w' :=
  (put_any 258 3 w (by omega) (by omega) (by omega)).mono fun _ _ ⟨he, hw⟩ => ⟨he.trans (ret_str (by decide +kernel)), hw⟩
theorem put_m1 (w : World) : Calls Try.prog 15 #[.int .i64 (-1), .int .i64 1] w fun e w' => e = .returned (.string ⟨#[255]⟩) ∧ Below w.heap.size w w' :=
  (put_any (-1) 1 w (by omega) (by omega) (by omega)).mono fun _ _ ⟨he, hw⟩ => ⟨he.trans (ret_str (by decide +kernel)), hw⟩
theorem sum_ex (w : World) : Calls Try.prog 14 #[.string ⟨#[0, 0, 0, 1, 255]⟩] w fun e w' => e = .returned (.int .u32 4278190081) ∧ w = w' :=
  (sum_any ⟨#[0, 0, 0, 1, 255]⟩ w (by decide)).mono fun _ _ ⟨he, hw⟩ => ⟨he.trans (ret_int (by decide +kernel)), hw⟩

set_option maxHeartbeats 400000 in
theorem shown_any (w : World) :
    Calls Try.prog 12 #[] w fun e w' => e = .returned (.bool true) ∧ Below w.heap.size w w' := by
  go_enter Try.func12, Try.ntmps12
  go_wp2_with fail
  refine (put_258 w).mono ?_
  rintro e w1 ⟨rfl, hb1⟩
  go_wp2_with fail
  refine (put_m1 w1).mono ?_
  rintro e w2 ⟨rfl, hb2⟩
  go_wp2_with fail
  refine (sum_ex w2).mono ?_
  rintro e w3 ⟨rfl, rfl⟩
  go_wp2_with fail
  go_ret
  exact ⟨rfl, hb1.trans (hb2.mono hb1.size)⟩
end Go.Proofs.Ytdgebfdjlbcogaa

/- The walk of OctetSums. -/
import Derived.Test.YtdgebfdjlbcogaaOctShown
namespace Go.Proofs.Ytdgebfdjlbcogaa
open Go.RowKit

theorem cut4 (x : ByteArray) : (x.extract 0 (x.size / 4 * 4)).size % 4 = 0 ∧ (x.extract 0 (x.size / 4 * 4)).size ≤ x.size := by
  rw [ByteArray.size_extract]; omega

set_option maxHeartbeats 1000000 in
theorem sums_walk (a0 : ByteArray) (a1 : ByteArray) (a2 : Int) (w : World) (w0 : a0.size ≤ maxLen) (w1 : a1.size ≤ maxLen) (w2 : 0 ≤ a2 ∧ a2 ≤ 255) :
    Calls Try.prog 3 #[.string a0, .string a1, .int .u8 a2] w fun e w' => e = .returned (.bool true) ∧ Below w.heap.size w w' := by
  obtain ⟨b1, b2⟩ := w2
  go_enter Try.func3, Try.ntmps3
  go_wp2_with fail
  refine (shown_any w).mono ?_
  rintro e w2 ⟨rfl, hb1⟩
  go_wp2_with fail
  refine (few_any _ _ w0).mono ?_
  rintro e w3 ⟨rfl, rfl⟩
  have hx1 := Oct.fewB_size a0
  generalize Oct.fewB a0 = x at *
  go_wp2_with fail
  refine (few_any _ _ w1).mono ?_
  rintro e w3 ⟨rfl, rfl⟩
  have hy1 := Oct.fewB_size a1
  have HF := few_any a1 w2 w1
  generalize Oct.fewB a1 = y at *
  have HF' := Lib.hid HF
  clear HF
  have hX4 := (cut4 x).1
  have hXs := (cut4 x).2
  have hY4 := (cut4 y).1
  have hYs := (cut4 y).2
  have HX4 := Lib.hid hX4
  have HY4 := Lib.hid hY4
  clear hX4 hY4
  go_wp2_with fail
  generalize x.extract 0 (x.size / 4 * 4) = X at *
  generalize y.extract 0 (y.size / 4 * 4) = Y at *
  have e1 := Oct.sum_app X Y HX4.out
  have e2 := Oct.sum_comm X Y HX4.out HY4.out
  have e3 := Oct.sum_zeros y (a2 % 9).toNat
  have hl : (X ++ Y).size ≤ maxLen := by rw [ByteArray.size_append]; unfold maxLen; omega
  have hl' : (Y ++ X).size ≤ maxLen := by rw [ByteArray.size_append]; unfold maxLen; omega
  refine (sum_any _ _ hl).mono ?_
  rintro e w3 ⟨rfl, rfl⟩
  go_wp2_with fail
  refine (sum_any _ _ (by unfold maxLen; omega)).mono ?_
  rintro e w3 ⟨rfl, rfl⟩
  go_wp2_with fail
  refine (sum_any _ _ (by unfold maxLen; omega)).mono ?_
  rintro e w3 ⟨rfl, rfl⟩
  go_wp2_with fail
  refine (sum_any _ _ hl).mono ?_
  rintro e w3 ⟨rfl, rfl⟩
  go_wp2_with fail
  refine (sum_any _ _ hl').mono ?_
  rintro e w3 ⟨rfl, rfl⟩
  go_wp2_with fail
  refine HF'.out.mono ?_
  rintro e w3 ⟨rfl, rfl⟩
  go_wp2_with fail
  refine (sum_any _ _ (by rw [ByteArray.size_append, ByteArray.size_extract]; unfold maxLen; have : (⟨#[0, 0, 0, 0, 0, 0, 0, 0]⟩ : ByteArray).size = 8 := rfl; omega)).mono ?_
  rintro e w3 ⟨rfl, rfl⟩
  go_wp2_with fail
  refine HF'.out.mono ?_
  rintro e w3 ⟨rfl, rfl⟩
  go_wp2_with fail
  refine (sum_any _ _ (by unfold maxLen; omega)).mono ?_
  rintro e w3 ⟨rfl, rfl⟩
  go_wp2_with fail
  refine (sum_any _ _ (by decide)).mono ?_
  rintro e w3 ⟨rfl, rfl⟩
  have e4 : (((Oct.sum ⟨#[]⟩ : Nat) : Int) == 0) = true := rfl
  go_wp2_with fail
  go_ret
  exact ⟨rfl, hb1⟩
end Go.Proofs.Ytdgebfdjlbcogaa

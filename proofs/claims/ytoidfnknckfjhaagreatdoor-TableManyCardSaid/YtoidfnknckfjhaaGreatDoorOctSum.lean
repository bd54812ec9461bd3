/- The walks of few and Sum. -/
import Derived.Test.YtoidfnknckfjhaaGreatDoorRows
import Derived.Test.YtoidfnknckfjhaaGreatDoorOctPlain
import Derived.Test.YtoidfnknckfjhaaGreatDoorBytes
namespace Go.Proofs.YtoidfnknckfjhaaGreatDoor
open Go.RowKit


namespace Oct
def fewB (s : ByteArray) : ByteArray := s.extract 0 (min s.size 200)
theorem fewB_size (s : ByteArray) : (fewB s).size ≤ 200 := by unfold fewB; rw [ByteArray.size_extract]; omega
theorem fewB_le (s : ByteArray) : (fewB s).size ≤ s.size := by unfold fewB; rw [ByteArray.size_extract]; omega
theorem fewB_short (s : ByteArray) (h : s.size ≤ 200) : fewB s = s := by
  unfold fewB; rw [Nat.min_eq_left h]; exact ByteArray.extract_zero_size
theorem fewB_long (s : ByteArray) (h : 200 < s.size) : fewB s = s.extract 0 200 := by
  unfold fewB; rw [Nat.min_eq_right (by omega)]
end Oct

set_option maxHeartbeats 400000 in
theorem sum_any (s : ByteArray) (w : World) (hs : s.size ≤ maxLen) :
    Calls Tryz.prog 17 #[.string s] w fun e w' => e = .returned (.int .u32 (Oct.sum s)) ∧ w = w' := by
  unfold maxLen at hs
  go_enter Tryz.func17, Tryz.ntmps17
  go_wp2
  go_loop [3, 4, 7] (fun n _ i => ∃ k : Nat, k ≤ s.size ∧ i = .int .i64 k ∧ n = .int .u32 (Oct.sumTo s k)) (fun _ _ i => s.size - (intOf i).toNat)
  case atStart => exact ⟨0, Nat.zero_le _, rfl, rfl⟩
  case round =>
    obtain ⟨k, hk, rfl, rfl⟩ := hrel
    by_cases hlt : k < s.size
    · have H := Lib.hid (Oct.sumTo_succ s k hlt)
      generalize Oct.sumTo s k = m at *
      go_wp2
      go_round
      case rel => exact ⟨k + 1, by omega, by go_num, by rw [H.out]⟩
      case measure => simp [intOf]; omega
    · have H := Lib.hid (Oct.sumTo_all s k (by omega))
      go_wp2
      go_ret
      exact ⟨ret_int (by rw [H.out]), rfl⟩
end Go.Proofs.YtoidfnknckfjhaaGreatDoor

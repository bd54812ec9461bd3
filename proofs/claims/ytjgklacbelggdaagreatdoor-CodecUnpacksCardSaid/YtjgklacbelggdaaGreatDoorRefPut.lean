/- The walk of the reference's Put. -/
import Derived.Test.YtjgklacbelggdaaGreatDoorOctPut
namespace Go.Proofs.YtjgklacbelggdaaGreatDoor
open Go.RowKit

set_option maxRecDepth 100000 in
set_option maxHeartbeats 400000 in
theorem rput_any (n : Int) (c : Nat) (w : World) (hc : c ≤ 8) (_hn1 : -9223372036854775808 ≤ n) (_hn2 : n ≤ 9223372036854775807) :
    Calls Tryz.prog 21 #[.int .i64 n, .int .i64 c] w fun e w' => e = .returned (.string (bs (Oct.putL n c))) ∧ Below w.heap.size w w' := by
  obtain ⟨i0, hi, hz0, hz1, hz2⟩ := info_parts Tryz.info_u8
  have d1 : decide ((c : Int) < 0) = false := by simp
  have d2 : decide (8 < (c : Int)) = false := by simp; omega
  go_enter Tryz.func21, Tryz.ntmps21
  go_wp2
  go_loopw [5, 6] (fun v i wr => ∃ k : Nat, k ≤ c ∧ i = .int .i64 ((c : Int) - 1 - k) ∧ wr.ownsRow w.heap.size 5 1 v k ((Oct.putTo n c k).map bcell) ∧ Below w.heap.size w wr) (fun _ i _ => (intOf i + 1).toNat)
  case atStart =>
    refine ⟨0, Nat.zero_le _, by go_num, ?_, (Below.refl _ _).alloc (Nat.le_refl _) _⟩
    exact World.ownsRow_made w #[] 0 (Nat.le_refl _) (by decide) rfl
  case round =>
    obtain ⟨k, hk, rfl, hown, hbel⟩ := hrel
    by_cases hlt : k < c
    · have H := Lib.hid (Oct.putTo_succ n c k hlt hc)
      have hsz := hbel.size
      go_wp2_with (at_builtin; refine wpList_append_own _ rfl _ _ 28 rfl w.heap.size 5 i0 (.int .u8 0) 1 1 Tryz.underlying28 hi hz0 hz1 hz2 rfl (by decide) _ _ _ rfl (hown.alloc _) ⟨wr.heap.size, 0, none⟩ 1 1 [.int .u8 (n % 18446744073709551616 / 2 ^ (8 * (c - 1 - k)) % 256)] rfl rfl ?c1 ?c2 ?c3 ?c4 ?c5 ?_)
      case c1 => exact cell_one_new _ _ _
      case c2 => simp [Value.oneCell']
      case c3 => unfold maxLen; omega
      case c4 => omega
      case c5 => simp; omega
      intro v' w1 hown' hgrow _
      go_wp2
      go_roundw
      case rel =>
        refine ⟨k + 1, by omega, by go_num, ?_, ?_⟩
        · rw [H.out]; exact hown'
        · exact (hbel.alloc hsz _).grown hgrow (by simp; omega) (fun b hb => (hown.lt b hb).1)
      case measure => simp [intOf]; omega
    · obtain rfl : k = c := by omega
      have hcv := conv_own (P := Tryz.prog) wr 28 9 5 5 w.heap.size _ (Oct.putL n k) Tryz.underlying28 Tryz.underlying5 Tryz.underlying9 (by rw [Oct.putL_length, ← Oct.putTo_all]; exact hown)
      go_wp2
      go_ret
      exact ⟨rfl, hbel⟩
end Go.Proofs.YtjgklacbelggdaaGreatDoor

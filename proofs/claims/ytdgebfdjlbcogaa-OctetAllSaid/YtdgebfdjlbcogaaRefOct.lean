/- The walks of the reference's Put, Text and Sum. -/
import Derived.Test.YtdgebfdjlbcogaaOctSum
import Derived.Test.YtdgebfdjlbcogaaOctPut
namespace Go.Proofs.Ytdgebfdjlbcogaa
open Go.RowKit

set_option maxHeartbeats 400000 in
theorem rsum_any (s : ByteArray) (w : World) (hs : s.size ≤ maxLen) :
    Calls Try.prog 19 #[.string s] w fun e w' => e = .returned (.int .u32 (Oct.sum s)) ∧ w = w' := by
  unfold maxLen at hs
  go_enter Try.func19, Try.ntmps19
  go_wp2
  go_loop [3, 4] (fun n i => ∃ k : Nat, k ≤ s.size ∧ i = .int .i64 k ∧ n = .int .u32 (Oct.sumTo s k)) (fun _ i => s.size - (intOf i).toNat)
  case atStart => exact ⟨0, Nat.zero_le _, rfl, rfl⟩
  case round =>
    obtain ⟨k, hk, rfl, rfl⟩ := hrel
    by_cases hlt : k < s.size
    · have H := Lib.hid (Oct.sumTo_succ s k hlt)
      generalize Oct.sumTo s k = m at *
      go_wp2
      go_round
      case rel => exact ⟨k + 1, by omega, by go_num, by rw [H.out]⟩
      case measure => simp [intOf]; omega
    · have H := Lib.hid (Oct.sumTo_all s k (by omega))
      go_wp2
      go_ret
      exact ⟨ret_int (by rw [H.out]), rfl⟩

set_option maxHeartbeats 400000 in
theorem rput_any (n : Int) (c : Nat) (w : World) (hc : c ≤ 8) (_hn1 : -9223372036854775808 ≤ n) (_hn2 : n ≤ 9223372036854775807) :
    Calls Try.prog 16 #[.int .i64 n, .int .i64 c] w fun e w' => e = .returned (.string (bs (Oct.putL n c))) ∧ Below w.heap.size w w' := by
  obtain ⟨i0, hi, hz0, hz1, hz2⟩ := info_parts Try.info_u8
  have d1 : decide ((c : Int) < 0) = false := by simp
  have d2 : decide (8 < (c : Int)) = false := by simp; omega
  go_enter Try.func16, Try.ntmps16
  go_wp2
  go_loopw [5, 6] (fun v i wr => ∃ k : Nat, k ≤ c ∧ i = .int .i64 ((c : Int) - 1 - k) ∧ wr.ownsRow w.heap.size 5 1 v k ((Oct.putTo n c k).map bcell) ∧ Below w.heap.size w wr) (fun _ i _ => (intOf i + 1).toNat)
  case atStart =>
    refine ⟨0, Nat.zero_le _, by go_num, ?_, (Below.refl _ _).alloc (Nat.le_refl _) _⟩
    exact World.ownsRow_made w #[] 0 (Nat.le_refl _) (by decide) rfl
  case round =>
    obtain ⟨k, hk, rfl, hown, hbel⟩ := hrel
    by_cases hlt : k < c
    · have H := Lib.hid (Oct.putTo_succ n c k hlt hc)
      have hsz := hbel.size
      go_wp2_with (at_builtin; refine wpList_append_own _ rfl _ _ 27 rfl w.heap.size 5 i0 (.int .u8 0) 1 1 Try.underlying27 hi hz0 hz1 hz2 rfl (by decide) _ _ _ rfl (hown.alloc _) ⟨wr.heap.size, 0, none⟩ 1 1 [.int .u8 (n % 18446744073709551616 / 2 ^ (8 * (c - 1 - k)) % 256)] rfl rfl ?c1 ?c2 ?c3 ?c4 ?c5 ?_)
      case c1 => exact cell_one_new _ _ _
      case c2 => simp [Value.oneCell']
      case c3 => unfold maxLen; omega
      case c4 => omega
      case c5 => simp; omega
      intro v' w1 hown' hgrow _
      go_wp2
      go_roundw
      case rel =>
        refine ⟨k + 1, by omega, by go_num, ?_, ?_⟩
        · rw [H.out]; exact hown'
        · exact (hbel.alloc hsz _).grown hgrow (by simp; omega) (fun b hb => (hown.lt b hb).1)
      case measure => simp [intOf]; omega
    · obtain rfl : k = c := by omega
      have hcv := conv_own (P := Try.prog) wr 27 9 5 5 w.heap.size _ (Oct.putL n k) Try.underlying27 Try.underlying5 Try.underlying9 (by rw [Oct.putL_length, ← Oct.putTo_all]; exact hown)
      go_wp2
      go_ret
      exact ⟨rfl, hbel⟩

set_option maxHeartbeats 400000 in
theorem rput_none (n c : Int) (w : World) (hc : c < 0 ∨ 8 < c) :
    Calls Try.prog 16 #[.int .i64 n, .int .i64 c] w fun e w' => e = .returned (.string (bs [])) ∧ w = w' := by
  rcases hc with h | h
  · go_enter Try.func16, Try.ntmps16
    go_wp2
    go_ret
    exact ⟨rfl, rfl⟩
  · have d1 : ¬ c < 0 := by omega
    go_enter Try.func16, Try.ntmps16
    go_wp2
    go_ret
    exact ⟨rfl, rfl⟩

theorem rput_all (n c : Int) (w : World) (hn : -9223372036854775808 ≤ n ∧ n ≤ 9223372036854775807) :
    Calls Try.prog 16 #[.int .i64 n, .int .i64 c] w fun e w' => e = .returned (.string (Oct.putS n c)) ∧ Below w.heap.size w w' := by
  unfold Oct.putS
  by_cases h : 0 ≤ c ∧ c ≤ 8
  · rw [if_pos h]
    obtain ⟨k, rfl⟩ := Int.eq_ofNat_of_zero_le h.1
    exact rput_any n k w (by omega) hn.1 hn.2
  · rw [if_neg h]
    exact (rput_none n c w (by omega)).mono fun _ _ ⟨he, hw⟩ => ⟨he, hw ▸ Below.refl _ _⟩

set_option maxHeartbeats 400000 in
theorem rtext_all (s : ByteArray) (w : World) (hs : s.size ≤ maxLen) :
    Calls Try.prog 18 #[.string s] w fun e w' => e = .returned (.string (Oct.textS s)) ∧ Below w.heap.size w w' := by
  unfold maxLen at hs
  by_cases h : s.size ≤ 65535
  · have hd : decide (65535 < (s.size : Int)) = false := by simp; omega
    have H := Lib.hid (show Oct.textS s = Oct.putS s.size 2 ++ s by unfold Oct.textS; rw [if_pos h])
    go_enter Try.func18, Try.ntmps18
    go_wp2_with fail
    refine (rput_all _ _ _ ⟨by omega, by omega⟩).mono ?_
    rintro e w1 ⟨rfl, hb⟩
    have hp := Oct.putS_size s.size 2
    generalize Oct.putS s.size 2 = p at *
    go_wp2_with fail
    go_ret
    exact ⟨ret_str H.out.symm, hb⟩
  · have hd : decide (65535 < (s.size : Int)) = true := by simp; omega
    have H := Lib.hid (show Oct.textS s = bs [] by unfold Oct.textS; rw [if_neg h])
    go_enter Try.func18, Try.ntmps18
    go_wp2_with fail
    go_ret
    exact ⟨ret_str H.out.symm, Below.refl _ _⟩
end Go.Proofs.Ytdgebfdjlbcogaa

/- The walk of OctetAll. -/
import Derived.Test.YtdgebfdjlbcogaaOctShown
import Derived.Test.YtdgebfdjlbcogaaRefOct
namespace Go.Proofs.Ytdgebfdjlbcogaa
open Go.RowKit

set_option maxHeartbeats 1000000 in
theorem all_walk (n c : Int) (s : ByteArray) (w : World) (hn : -9223372036854775808 ≤ n ∧ n ≤ 9223372036854775807) (_hc : -9223372036854775808 ≤ c ∧ c ≤ 9223372036854775807) (hs : s.size ≤ maxLen) :
    Calls Try.prog 5 #[.int .i64 n, .int .i64 c, .string s] w fun e w' => e = .returned (.bool true) ∧ Below w.heap.size w w' := by
  go_enter Try.func5, Try.ntmps5
  go_wp2_with fail
  refine (shown_any w).mono ?_
  rintro e w1 ⟨rfl, hb1⟩
  go_wp2_with fail
  go_loopw [8] (fun i wr => ∃ k : Nat, k ≤ 11 ∧ i = .int .i64 ((k : Int) - 1) ∧ Below w.heap.size w wr) (fun i _ => (11 - intOf i).toNat)
  case atStart => exact ⟨0, Nat.zero_le _, rfl, hb1⟩
  case round =>
    obtain ⟨k, hk, rfl, hbel⟩ := hrel
    by_cases hlt : k < 11
    · go_wp2_with fail
      refine (put_all _ _ _ hn).mono ?_
      rintro e w2 ⟨rfl, hb2⟩
      go_wp2_with fail
      refine (rput_all _ _ _ hn).mono ?_
      rintro e w3 ⟨rfl, hb3⟩
      generalize Oct.putS n (↑k - 1) = p at *
      go_wp2_with fail
      go_roundw
      case rel => exact ⟨k + 1, by omega, by go_num, (hbel.trans (hb2.mono hbel.size)).trans (hb3.mono (Nat.le_trans hbel.size hb2.size))⟩
      case measure => simp [intOf]; omega
    · go_wp2_with fail
      refine (put_all _ _ _ hn).mono ?_
      rintro e w2 ⟨rfl, hb2⟩
      replace hbel := hbel.trans (hb2.mono hbel.size)
      go_wp2_with fail
      refine (rput_all _ _ _ hn).mono ?_
      rintro e w3 ⟨rfl, hb3⟩
      generalize Oct.putS n c = p at *
      replace hbel := hbel.trans (hb3.mono hbel.size)
      go_wp2_with fail
      refine (few_any _ _ hs).mono ?_
      rintro e w4 ⟨rfl, rfl⟩
      have hx1 := Oct.fewB_size s
      have HF := Lib.hid (fun w => few_any s w hs)
      generalize Oct.fewB s = x at *
      have hx : x.size ≤ maxLen := by unfold maxLen; omega
      go_wp2_with fail
      refine (text_all _ _ hx).mono ?_
      rintro e w4 ⟨rfl, hb4⟩
      replace hbel := hbel.trans (hb4.mono hbel.size)
      go_wp2_with fail
      refine (HF.out _).mono ?_
      rintro e w5 ⟨rfl, rfl⟩
      go_wp2_with fail
      refine (rtext_all _ _ hx).mono ?_
      rintro e w5 ⟨rfl, hb5⟩
      replace hbel := hbel.trans (hb5.mono hbel.size)
      generalize Oct.textS x = t at *
      go_wp2_with fail
      refine (HF.out _).mono ?_
      rintro e w6 ⟨rfl, rfl⟩
      go_wp2_with fail
      refine (sum_any _ _ hx).mono ?_
      rintro e w6 ⟨rfl, rfl⟩
      go_wp2_with fail
      refine (HF.out _).mono ?_
      rintro e w6 ⟨rfl, rfl⟩
      go_wp2_with fail
      refine (rsum_any _ _ hx).mono ?_
      rintro e w6 ⟨rfl, rfl⟩
      go_wp2_with fail
      go_ret
      exact ⟨rfl, hbel⟩
end Go.Proofs.Ytdgebfdjlbcogaa

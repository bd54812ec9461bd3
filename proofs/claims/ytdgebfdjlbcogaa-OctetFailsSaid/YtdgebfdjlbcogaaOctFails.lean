/- The walk of OctetFails. -/
import Derived.Test.YtdgebfdjlbcogaaOctShown
import Derived.Test.YtdgebfdjlbcogaaOctBack0
namespace Go.Proofs.Ytdgebfdjlbcogaa
open Go.RowKit

set_option maxRecDepth 100000 in
set_option maxHeartbeats 8000000 in
theorem fails_walk (s : ByteArray) (a1 a2 : Int) (w : World) (hs : s.size ≤ maxLen) (h1 : 0 ≤ a1 ∧ a1 ≤ 255) (h2 : 0 ≤ a2 ∧ a2 ≤ 255) :
    Calls Try.prog 10 #[.string s, .int .u8 a1, .int .u8 a2] w fun e w' => e = .returned (.bool true) ∧ Below w.heap.size w w' := by
  obtain ⟨h1a, h1b⟩ := h1
  obtain ⟨h2a, h2b⟩ := h2
  go_enter Try.func10, Try.ntmps10
  go_wp2_with fail
  refine (shown_any w).mono ?_
  rintro e w1 ⟨rfl, hb1⟩
  have M1 := Lib.hid (Mod.of_below hb1)
  clear hb1
  go_wp2_with fail
  have hfs := Oct.fewB_size s
  have HF := Lib.hid (fun w => few_any s w hs)
  generalize Oct.fewB s = x at *
  refine (HF.out _).mono ?_
  rintro e w2 ⟨rfl, rfl⟩
  go_wp2_with fail
  refine (read_any x _ (by unfold maxLen; omega)).mono ?_
  rintro e w2 ⟨rfl, hx, m2⟩
  have M2 := Lib.hid (M1.out.trans m2 (by simp))
  have q2 : w.heap.size ≤ w1.heap.size := M1.out.size
  have HX := Lib.hid hx
  clear hx m2 M1
  generalize ebx : w1.heap.size = bx at *
  clear ebx
  go_wp2_with fail
  refine (HF.out _).mono ?_
  rintro e w3 ⟨rfl, rfl⟩
  obtain ⟨k, hk⟩ := Int.eq_ofNat_of_zero_le (Int.emod_nonneg a1 (b := (x.size : Int) + 1) (by omega))
  have hk1 : k ≤ x.size := by have := Int.emod_lt_of_pos a1 (b := (x.size : Int) + 1) (by omega); omega
  go_wp2_with fail
  rw [hk]
  clear hk
  refine (Take_ok bx x 0 k _ HX.out (by omega)).mono ?_
  rintro e w3 ⟨rfl, hx3, m3⟩
  rw [Nat.zero_add]
  rw [Nat.zero_add] at hx3
  have M3 := Lib.hid (M2.out.trans m3 (by simp; omega))
  have HX3 := Lib.hid hx3
  clear hx3 m3 M2 HX
  go_wp2_with fail
  refine (HF.out _).mono ?_
  rintro e w4 ⟨rfl, rfl⟩
  go_wp2_with fail
  refine (failed_any bx _ _ false _ HX3.out).mono ?_
  rintro e w4 ⟨rfl, rfl⟩
  go_wp2_with fail
  refine (left_any bx _ _ false _ HX3.out).mono ?_
  rintro e w4 ⟨rfl, z4, rfl⟩
  have M4 := Lib.hid (M3.out.drewN z4)
  have HX4 := Lib.hid (HX3.out.drewN z4)
  clear M3 HX3
  generalize w3.drewN z4 = w4 at *
  generalize x.extract 0 k = xk at *
  have hcs : a2 % 6 = 0 ∨ a2 % 6 = 1 ∨ a2 % 6 = 2 ∨ a2 % 6 = 3 ∨ a2 % 6 = 4 ∨ a2 % 6 = 5 := by omega
  clear HF
  rcases hcs with hc | hc | hc | hc | hc | hc
  · as_aux_lemma =>
    go_wp2_with fail
    refine (Take_short bx x k ((x.size : Int) - k + 1) _ HX4.out (by omega)).mono ?_
    rintro e w5 ⟨rfl, hx5, m5⟩
    have M5 := Lib.hid (M4.out.trans m5 (by simp; omega))
    have HX5 := Lib.hid hx5
    clear hx5 m5 M4 HX4
    go_wp2_with fail
    refine (failed_any bx _ _ true _ HX5.out).mono ?_
    rintro e w6 ⟨rfl, rfl⟩
    go_wp2_with fail
    refine (at_any bx _ _ true _ HX5.out).mono ?_
    rintro e w6 ⟨rfl, rfl⟩
    go_wp2_with fail
    refine (left_any bx _ _ true _ HX5.out).mono ?_
    rintro e w6 ⟨rfl, z6, rfl⟩
    have M6 := Lib.hid (M5.out.drewN z6)
    have HX6 := Lib.hid (HX5.out.drewN z6)
    clear M5 HX5
    generalize w5.drewN z6 = w6 at *
    go_wp2_with fail
    refine (Take_failed bx _ _ 0 _ HX6.out).mono ?_
    rintro e w7 ⟨rfl, hx7, m7⟩
    have M7 := Lib.hid (M6.out.trans m7 (by simp; omega))
    have HX7 := Lib.hid hx7
    clear hx7 m7 M6 HX6
    go_wp2_with fail
    refine (num_failed bx _ _ 0 _ HX7.out).mono ?_
    rintro e w8 ⟨rfl, hx8, m8⟩
    have M8 := Lib.hid (M7.out.trans m8 (by simp; omega))
    have HX8 := Lib.hid hx8
    clear hx8 m8 M7 HX7
    go_wp2_with fail
    have hi := int_all bx x k true 1 _ HX8.out
    rw [show Oct.numR x k true 1 = (0, k, true) by unfold Oct.numR; rw [if_neg (by simp)], show Oct.sgn 0 1 = 0 by decide +kernel] at hi
    refine hi.mono ?_
    rintro e w9 ⟨rfl, hx9, m9⟩
    have M9 := Lib.hid (M8.out.trans m9 (by simp; omega))
    have HX9 := Lib.hid hx9
    clear hx9 m9 M8 HX8 hi
    go_wp2_with fail
    refine (Text_failed bx _ _ _ HX9.out).mono ?_
    rintro e w10 ⟨rfl, hx10, m10⟩
    have M10 := Lib.hid (M9.out.trans m10 (by simp; omega))
    have HX10 := Lib.hid hx10
    clear hx10 m10 M9 HX9
    go_wp2_with fail
    refine (num_failed bx _ _ 1 _ HX10.out).mono ?_
    rintro e w11 ⟨rfl, hx11, m11⟩
    have M11 := Lib.hid (M10.out.trans m11 (by simp; omega))
    have HX11 := Lib.hid hx11
    clear hx11 m11 M10 HX10
    go_wp2_with fail
    refine (Take_failed bx _ _ _ _ HX11.out).mono ?_
    rintro e w12 ⟨rfl, hx12, m12⟩
    have M12 := Lib.hid (M11.out.trans m12 (by simp; omega))
    have HX12 := Lib.hid hx12
    clear hx12 m12 M11 HX11
    go_wp2_with fail
    refine (at_any bx _ _ true _ HX12.out).mono ?_
    rintro e w13 ⟨rfl, rfl⟩
    go_wp2_with fail
    go_ret
    exact ⟨rfl, M12.out.to_below⟩
  · as_aux_lemma =>
    go_wp2_with fail
    refine (Take_short bx x k (-1) _ HX4.out (by omega)).mono ?_
    rintro e w5 ⟨rfl, hx5, m5⟩
    have M5 := Lib.hid (M4.out.trans m5 (by simp; omega))
    have HX5 := Lib.hid hx5
    clear hx5 m5 M4 HX4
    go_wp2_with fail
    refine (failed_any bx _ _ true _ HX5.out).mono ?_
    rintro e w6 ⟨rfl, rfl⟩
    go_wp2_with fail
    refine (at_any bx _ _ true _ HX5.out).mono ?_
    rintro e w6 ⟨rfl, rfl⟩
    go_wp2_with fail
    refine (left_any bx _ _ true _ HX5.out).mono ?_
    rintro e w6 ⟨rfl, z6, rfl⟩
    have M6 := Lib.hid (M5.out.drewN z6)
    have HX6 := Lib.hid (HX5.out.drewN z6)
    clear M5 HX5
    generalize w5.drewN z6 = w6 at *
    go_wp2_with fail
    refine (Take_failed bx _ _ 0 _ HX6.out).mono ?_
    rintro e w7 ⟨rfl, hx7, m7⟩
    have M7 := Lib.hid (M6.out.trans m7 (by simp; omega))
    have HX7 := Lib.hid hx7
    clear hx7 m7 M6 HX6
    go_wp2_with fail
    refine (num_failed bx _ _ 0 _ HX7.out).mono ?_
    rintro e w8 ⟨rfl, hx8, m8⟩
    have M8 := Lib.hid (M7.out.trans m8 (by simp; omega))
    have HX8 := Lib.hid hx8
    clear hx8 m8 M7 HX7
    go_wp2_with fail
    have hi := int_all bx x k true 1 _ HX8.out
    rw [show Oct.numR x k true 1 = (0, k, true) by unfold Oct.numR; rw [if_neg (by simp)], show Oct.sgn 0 1 = 0 by decide +kernel] at hi
    refine hi.mono ?_
    rintro e w9 ⟨rfl, hx9, m9⟩
    have M9 := Lib.hid (M8.out.trans m9 (by simp; omega))
    have HX9 := Lib.hid hx9
    clear hx9 m9 M8 HX8 hi
    go_wp2_with fail
    refine (Text_failed bx _ _ _ HX9.out).mono ?_
    rintro e w10 ⟨rfl, hx10, m10⟩
    have M10 := Lib.hid (M9.out.trans m10 (by simp; omega))
    have HX10 := Lib.hid hx10
    clear hx10 m10 M9 HX9
    go_wp2_with fail
    refine (num_failed bx _ _ 1 _ HX10.out).mono ?_
    rintro e w11 ⟨rfl, hx11, m11⟩
    have M11 := Lib.hid (M10.out.trans m11 (by simp; omega))
    have HX11 := Lib.hid hx11
    clear hx11 m11 M10 HX10
    go_wp2_with fail
    refine (Take_failed bx _ _ _ _ HX11.out).mono ?_
    rintro e w12 ⟨rfl, hx12, m12⟩
    have M12 := Lib.hid (M11.out.trans m12 (by simp; omega))
    have HX12 := Lib.hid hx12
    clear hx12 m12 M11 HX11
    go_wp2_with fail
    refine (at_any bx _ _ true _ HX12.out).mono ?_
    rintro e w13 ⟨rfl, rfl⟩
    go_wp2_with fail
    go_ret
    exact ⟨rfl, M12.out.to_below⟩
  · as_aux_lemma =>
    go_wp2_with fail
    refine (num_large bx x k 9 _ HX4.out (by omega)).mono ?_
    rintro e w5 ⟨rfl, hx5, m5⟩
    have M5 := Lib.hid (M4.out.trans m5 (by simp; omega))
    have HX5 := Lib.hid hx5
    clear hx5 m5 M4 HX4
    go_wp2_with fail
    refine (failed_any bx _ _ true _ HX5.out).mono ?_
    rintro e w6 ⟨rfl, rfl⟩
    go_wp2_with fail
    refine (at_any bx _ _ true _ HX5.out).mono ?_
    rintro e w6 ⟨rfl, rfl⟩
    go_wp2_with fail
    refine (left_any bx _ _ true _ HX5.out).mono ?_
    rintro e w6 ⟨rfl, z6, rfl⟩
    have M6 := Lib.hid (M5.out.drewN z6)
    have HX6 := Lib.hid (HX5.out.drewN z6)
    clear M5 HX5
    generalize w5.drewN z6 = w6 at *
    go_wp2_with fail
    refine (Take_failed bx _ _ 0 _ HX6.out).mono ?_
    rintro e w7 ⟨rfl, hx7, m7⟩
    have M7 := Lib.hid (M6.out.trans m7 (by simp; omega))
    have HX7 := Lib.hid hx7
    clear hx7 m7 M6 HX6
    go_wp2_with fail
    refine (num_failed bx _ _ 0 _ HX7.out).mono ?_
    rintro e w8 ⟨rfl, hx8, m8⟩
    have M8 := Lib.hid (M7.out.trans m8 (by simp; omega))
    have HX8 := Lib.hid hx8
    clear hx8 m8 M7 HX7
    go_wp2_with fail
    have hi := int_all bx x k true 1 _ HX8.out
    rw [show Oct.numR x k true 1 = (0, k, true) by unfold Oct.numR; rw [if_neg (by simp)], show Oct.sgn 0 1 = 0 by decide +kernel] at hi
    refine hi.mono ?_
    rintro e w9 ⟨rfl, hx9, m9⟩
    have M9 := Lib.hid (M8.out.trans m9 (by simp; omega))
    have HX9 := Lib.hid hx9
    clear hx9 m9 M8 HX8 hi
    go_wp2_with fail
    refine (Text_failed bx _ _ _ HX9.out).mono ?_
    rintro e w10 ⟨rfl, hx10, m10⟩
    have M10 := Lib.hid (M9.out.trans m10 (by simp; omega))
    have HX10 := Lib.hid hx10
    clear hx10 m10 M9 HX9
    go_wp2_with fail
    refine (num_failed bx _ _ 1 _ HX10.out).mono ?_
    rintro e w11 ⟨rfl, hx11, m11⟩
    have M11 := Lib.hid (M10.out.trans m11 (by simp; omega))
    have HX11 := Lib.hid hx11
    clear hx11 m11 M10 HX10
    go_wp2_with fail
    refine (Take_failed bx _ _ _ _ HX11.out).mono ?_
    rintro e w12 ⟨rfl, hx12, m12⟩
    have M12 := Lib.hid (M11.out.trans m12 (by simp; omega))
    have HX12 := Lib.hid hx12
    clear hx12 m12 M11 HX11
    go_wp2_with fail
    refine (at_any bx _ _ true _ HX12.out).mono ?_
    rintro e w13 ⟨rfl, rfl⟩
    go_wp2_with fail
    go_ret
    exact ⟨rfl, M12.out.to_below⟩
  · as_aux_lemma =>
    go_wp2_with fail
    have hi := int_all bx x k false (-1) _ HX4.out
    rw [show Oct.numR x k false (-1) = (0, k, true) by unfold Oct.numR; rw [if_neg (by omega)]] at hi
    refine hi.mono ?_
    rintro e w5 ⟨rfl, hx5, m5⟩
    have M5 := Lib.hid (M4.out.trans m5 (by simp; omega))
    have HX5 := Lib.hid hx5
    clear hx5 m5 M4 HX4
    go_wp2_with fail
    refine (failed_any bx _ _ true _ HX5.out).mono ?_
    rintro e w6 ⟨rfl, rfl⟩
    go_wp2_with fail
    refine (at_any bx _ _ true _ HX5.out).mono ?_
    rintro e w6 ⟨rfl, rfl⟩
    go_wp2_with fail
    refine (left_any bx _ _ true _ HX5.out).mono ?_
    rintro e w6 ⟨rfl, z6, rfl⟩
    have M6 := Lib.hid (M5.out.drewN z6)
    have HX6 := Lib.hid (HX5.out.drewN z6)
    clear M5 HX5
    generalize w5.drewN z6 = w6 at *
    go_wp2_with fail
    refine (Take_failed bx _ _ 0 _ HX6.out).mono ?_
    rintro e w7 ⟨rfl, hx7, m7⟩
    have M7 := Lib.hid (M6.out.trans m7 (by simp; omega))
    have HX7 := Lib.hid hx7
    clear hx7 m7 M6 HX6
    go_wp2_with fail
    refine (num_failed bx _ _ 0 _ HX7.out).mono ?_
    rintro e w8 ⟨rfl, hx8, m8⟩
    have M8 := Lib.hid (M7.out.trans m8 (by simp; omega))
    have HX8 := Lib.hid hx8
    clear hx8 m8 M7 HX7
    go_wp2_with fail
    have hi := int_all bx x k true 1 _ HX8.out
    rw [show Oct.numR x k true 1 = (0, k, true) by unfold Oct.numR; rw [if_neg (by simp)], show Oct.sgn 0 1 = 0 by decide +kernel] at hi
    refine hi.mono ?_
    rintro e w9 ⟨rfl, hx9, m9⟩
    have M9 := Lib.hid (M8.out.trans m9 (by simp; omega))
    have HX9 := Lib.hid hx9
    clear hx9 m9 M8 HX8 hi
    go_wp2_with fail
    refine (Text_failed bx _ _ _ HX9.out).mono ?_
    rintro e w10 ⟨rfl, hx10, m10⟩
    have M10 := Lib.hid (M9.out.trans m10 (by simp; omega))
    have HX10 := Lib.hid hx10
    clear hx10 m10 M9 HX9
    go_wp2_with fail
    refine (num_failed bx _ _ 1 _ HX10.out).mono ?_
    rintro e w11 ⟨rfl, hx11, m11⟩
    have M11 := Lib.hid (M10.out.trans m11 (by simp; omega))
    have HX11 := Lib.hid hx11
    clear hx11 m11 M10 HX10
    go_wp2_with fail
    refine (Take_failed bx _ _ _ _ HX11.out).mono ?_
    rintro e w12 ⟨rfl, hx12, m12⟩
    have M12 := Lib.hid (M11.out.trans m12 (by simp; omega))
    have HX12 := Lib.hid hx12
    clear hx12 m12 M11 HX11
    go_wp2_with fail
    refine (at_any bx _ _ true _ HX12.out).mono ?_
    rintro e w13 ⟨rfl, rfl⟩
    go_wp2_with fail
    go_ret
    exact ⟨rfl, M12.out.to_below⟩
  · as_aux_lemma =>
    go_wp2_with fail
    refine (Take_short bx x k 4611686018427387904 _ HX4.out (by omega)).mono ?_
    rintro e w5 ⟨rfl, hx5, m5⟩
    have M5 := Lib.hid (M4.out.trans m5 (by simp; omega))
    have HX5 := Lib.hid hx5
    clear hx5 m5 M4 HX4
    go_wp2_with fail
    refine (failed_any bx _ _ true _ HX5.out).mono ?_
    rintro e w6 ⟨rfl, rfl⟩
    go_wp2_with fail
    refine (at_any bx _ _ true _ HX5.out).mono ?_
    rintro e w6 ⟨rfl, rfl⟩
    go_wp2_with fail
    refine (left_any bx _ _ true _ HX5.out).mono ?_
    rintro e w6 ⟨rfl, z6, rfl⟩
    have M6 := Lib.hid (M5.out.drewN z6)
    have HX6 := Lib.hid (HX5.out.drewN z6)
    clear M5 HX5
    generalize w5.drewN z6 = w6 at *
    go_wp2_with fail
    refine (Take_failed bx _ _ 0 _ HX6.out).mono ?_
    rintro e w7 ⟨rfl, hx7, m7⟩
    have M7 := Lib.hid (M6.out.trans m7 (by simp; omega))
    have HX7 := Lib.hid hx7
    clear hx7 m7 M6 HX6
    go_wp2_with fail
    refine (num_failed bx _ _ 0 _ HX7.out).mono ?_
    rintro e w8 ⟨rfl, hx8, m8⟩
    have M8 := Lib.hid (M7.out.trans m8 (by simp; omega))
    have HX8 := Lib.hid hx8
    clear hx8 m8 M7 HX7
    go_wp2_with fail
    have hi := int_all bx x k true 1 _ HX8.out
    rw [show Oct.numR x k true 1 = (0, k, true) by unfold Oct.numR; rw [if_neg (by simp)], show Oct.sgn 0 1 = 0 by decide +kernel] at hi
    refine hi.mono ?_
    rintro e w9 ⟨rfl, hx9, m9⟩
    have M9 := Lib.hid (M8.out.trans m9 (by simp; omega))
    have HX9 := Lib.hid hx9
    clear hx9 m9 M8 HX8 hi
    go_wp2_with fail
    refine (Text_failed bx _ _ _ HX9.out).mono ?_
    rintro e w10 ⟨rfl, hx10, m10⟩
    have M10 := Lib.hid (M9.out.trans m10 (by simp; omega))
    have HX10 := Lib.hid hx10
    clear hx10 m10 M9 HX9
    go_wp2_with fail
    refine (num_failed bx _ _ 1 _ HX10.out).mono ?_
    rintro e w11 ⟨rfl, hx11, m11⟩
    have M11 := Lib.hid (M10.out.trans m11 (by simp; omega))
    have HX11 := Lib.hid hx11
    clear hx11 m11 M10 HX10
    go_wp2_with fail
    refine (Take_failed bx _ _ _ _ HX11.out).mono ?_
    rintro e w12 ⟨rfl, hx12, m12⟩
    have M12 := Lib.hid (M11.out.trans m12 (by simp; omega))
    have HX12 := Lib.hid hx12
    clear hx12 m12 M11 HX11
    go_wp2_with fail
    refine (at_any bx _ _ true _ HX12.out).mono ?_
    rintro e w13 ⟨rfl, rfl⟩
    go_wp2_with fail
    go_ret
    exact ⟨rfl, M12.out.to_below⟩
  · as_aux_lemma =>
    go_wp2_with fail
    refine (num_short bx x k (-9223372036854775808) _ HX4.out (by omega) (by omega)).mono ?_
    rintro e w5 ⟨rfl, hx5, m5⟩
    have M5 := Lib.hid (M4.out.trans m5 (by simp; omega))
    have HX5 := Lib.hid hx5
    clear hx5 m5 M4 HX4
    go_wp2_with fail
    refine (failed_any bx _ _ true _ HX5.out).mono ?_
    rintro e w6 ⟨rfl, rfl⟩
    go_wp2_with fail
    refine (at_any bx _ _ true _ HX5.out).mono ?_
    rintro e w6 ⟨rfl, rfl⟩
    go_wp2_with fail
    refine (left_any bx _ _ true _ HX5.out).mono ?_
    rintro e w6 ⟨rfl, z6, rfl⟩
    have M6 := Lib.hid (M5.out.drewN z6)
    have HX6 := Lib.hid (HX5.out.drewN z6)
    clear M5 HX5
    generalize w5.drewN z6 = w6 at *
    go_wp2_with fail
    refine (Take_failed bx _ _ 0 _ HX6.out).mono ?_
    rintro e w7 ⟨rfl, hx7, m7⟩
    have M7 := Lib.hid (M6.out.trans m7 (by simp; omega))
    have HX7 := Lib.hid hx7
    clear hx7 m7 M6 HX6
    go_wp2_with fail
    refine (num_failed bx _ _ 0 _ HX7.out).mono ?_
    rintro e w8 ⟨rfl, hx8, m8⟩
    have M8 := Lib.hid (M7.out.trans m8 (by simp; omega))
    have HX8 := Lib.hid hx8
    clear hx8 m8 M7 HX7
    go_wp2_with fail
    have hi := int_all bx x k true 1 _ HX8.out
    rw [show Oct.numR x k true 1 = (0, k, true) by unfold Oct.numR; rw [if_neg (by simp)], show Oct.sgn 0 1 = 0 by decide +kernel] at hi
    refine hi.mono ?_
    rintro e w9 ⟨rfl, hx9, m9⟩
    have M9 := Lib.hid (M8.out.trans m9 (by simp; omega))
    have HX9 := Lib.hid hx9
    clear hx9 m9 M8 HX8 hi
    go_wp2_with fail
    refine (Text_failed bx _ _ _ HX9.out).mono ?_
    rintro e w10 ⟨rfl, hx10, m10⟩
    have M10 := Lib.hid (M9.out.trans m10 (by simp; omega))
    have HX10 := Lib.hid hx10
    clear hx10 m10 M9 HX9
    go_wp2_with fail
    refine (num_failed bx _ _ 1 _ HX10.out).mono ?_
    rintro e w11 ⟨rfl, hx11, m11⟩
    have M11 := Lib.hid (M10.out.trans m11 (by simp; omega))
    have HX11 := Lib.hid hx11
    clear hx11 m11 M10 HX10
    go_wp2_with fail
    refine (Take_failed bx _ _ _ _ HX11.out).mono ?_
    rintro e w12 ⟨rfl, hx12, m12⟩
    have M12 := Lib.hid (M11.out.trans m12 (by simp; omega))
    have HX12 := Lib.hid hx12
    clear hx12 m12 M11 HX11
    go_wp2_with fail
    refine (at_any bx _ _ true _ HX12.out).mono ?_
    rintro e w13 ⟨rfl, rfl⟩
    go_wp2_with fail
    go_ret
    exact ⟨rfl, M12.out.to_below⟩
end Go.Proofs.Ytdgebfdjlbcogaa

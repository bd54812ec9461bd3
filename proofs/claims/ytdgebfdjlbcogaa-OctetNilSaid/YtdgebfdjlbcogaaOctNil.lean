/- The walk of OctetNil. -/
import Derived.Test.YtdgebfdjlbcogaaOctShown
import Derived.Test.YtdgebfdjlbcogaaOctOne
import Derived.Deep.RegionHeld3
namespace Go.Proofs.Ytdgebfdjlbcogaa
open Go.RowKit

theorem made_zeros (c : Nat) : (madeCells #[Value.int IntKind.u8 0] c).toList.take c = (List.replicate c (0 : UInt8)).map bcell := by
  rw [List.take_of_length_le (by simp [madeCells])]
  apply List.ext_getElem?
  intro j
  by_cases h : j < c
  · simp [madeCells, h, Nat.mod_one, bcell]
  · simp [madeCells, h]

theorem text_head (c : Nat) (h : c ≤ 65535) (l : List UInt8) (hl : l.length = c) :
    Oct.textS (bs l) = Oct.putS c 2 ++ bs l ∧ (Oct.putS c 2 ++ bs l).size = c + 2 ∧ (Oct.putS c 2 ++ bs l).extract 0 2 = Oct.putS c 2 := by
  have e2 := Oct.putS_nat c 2 (by omega)
  rw [show ((2 : Nat) : Int) = 2 from rfl] at e2
  have hs : (bs l).size = c := by rw [bs_size, hl]
  refine ⟨?_, ?_, ?_⟩
  · unfold Oct.textS; rw [hs, if_pos h]
  · rw [ByteArray.size_append, hs, e2, bs_size, Oct.putL_length]; omega
  · rw [e2]
    apply bs_ext
    rw [Oct.ext_data, List.drop_zero, ByteArray.data_append, Array.toList_append, bs_data, List.take_append, Oct.putL_length, List.take_of_length_le (by rw [Oct.putL_length]; omega)]
    simp

set_option maxHeartbeats 4000000 in
theorem nil_walk (a : Int) (d n : Int) (w : World) (ha : 0 ≤ a ∧ a ≤ 255) :
    Calls Try.prog 11 #[.int .u8 a, .agg #[.int .i64 d, .int .i64 n]] w fun e w' => e = .returned (.bool true) ∧ Below w.heap.size w w' := by
  obtain ⟨ha1, ha2⟩ := ha
  have M0 := Lib.hid ((Mod.refl [] w).alloc (.cells #[.int .i64 d, .int .i64 n] 48))
  go_enter Try.func11, Try.ntmps11
  go_wp2_with fail
  refine (shown_any _).mono ?_
  rintro e w1 ⟨rfl, hb1⟩
  have m1 := Mod.of_below hb1
  have M1 := Lib.hid (M0.out.then m1)
  obtain ⟨k1, k2, k3⟩ : w1.cell? ⟨w.heap.size, 0, none⟩ = some (.int .i64 d) ∧ w1.cell? ⟨w.heap.size, 1, none⟩ = some (.int .i64 n) ∧ w.heap.size < w1.heap.size := by
    refine ⟨?_, ?_, ?_⟩
    · rw [m1.cell (p := ⟨w.heap.size, 0, none⟩) (by simp) (by simp)]; simp
    · rw [m1.cell (p := ⟨w.heap.size, 1, none⟩) (by simp) (by simp)]; simp
    · have := m1.size; simp at this; omega
  clear hb1 m1 M0
  go_wp2_with fail
  refine (one_nil d n _).mono ?_
  rintro e w2 ⟨rfl, m2⟩
  have M2 := Lib.hid ((M1.out.alloc _).then m2)
  have hz2 : Rd w2 w1.heap.size ⟨#[]⟩ 0 false := by
    have h0 : Rd (w1.alloc (.cells #[.string ⟨#[]⟩, .int .i64 0, .bool false] 52)) w1.heap.size ⟨#[]⟩ 0 false := by
      refine ⟨?_, ?_, ?_, ?_, ?_, ?_, Nat.le_refl _, by decide⟩ <;> simp
    exact h0.kept m2 (by simp)
  have HZ2 := Lib.hid hz2
  clear m2 hz2 k1 k2
  generalize ebz : w1.heap.size = bz at *
  clear ebz
  go_wp2_with fail
  refine (failed_nil _).mono ?_
  rintro e w3 ⟨rfl, rfl⟩
  go_wp2_with fail
  refine (at_nil _).mono ?_
  rintro e w3 ⟨rfl, rfl⟩
  go_wp2_with fail
  refine (left_nil _).mono ?_
  rintro e w3 ⟨rfl, rfl⟩
  go_wp2_with fail
  refine (left_any bz _ _ false _ HZ2.out).mono ?_
  rintro e w3 ⟨rfl, z3, rfl⟩
  have M3 := Lib.hid (M2.out.drewN z3)
  have HZ3 := Lib.hid (HZ2.out.drewN z3)
  clear M2 HZ2
  generalize w2.drewN z3 = w3 at *
  have hsz0 : (((⟨#[]⟩ : ByteArray).size : Int) - ((0 : Nat) : Int) != 0) = false := rfl
  go_wp2_with fail
  refine (at_any bz _ _ false _ HZ3.out).mono ?_
  rintro e w4 ⟨rfl, rfl⟩
  go_wp2_with fail
  refine (failed_any bz _ _ false _ HZ3.out).mono ?_
  rintro e w4 ⟨rfl, rfl⟩
  go_wp2_with fail
  refine (num_short bz _ 0 1 _ HZ3.out (by omega) (Or.inr (by decide))).mono ?_
  rintro e w4 ⟨rfl, hz4, m4⟩
  have M4 := Lib.hid (M3.out.trans m4 (by simp; omega))
  have HZ4 := Lib.hid hz4
  clear hz4 m4 M3 HZ3
  go_wp2_with fail
  refine (failed_any bz _ _ true _ HZ4.out).mono ?_
  rintro e w5 ⟨rfl, rfl⟩
  obtain ⟨c, hc⟩ := Int.eq_ofNat_of_zero_le (show 0 ≤ 65528 + a % 15 by omega)
  have hc1 : c ≤ 65542 := by omega
  obtain ⟨i0, hi, hz0, hz1, hz2⟩ := info_parts Try.info_u8
  have hmk := run_make (P := Try.prog) w4 27 5 i0 (.int .u8 0) Try.underlying27 hi hz0 .i64 .i64 (c : Int) (c : Int) (by omega) (by omega) (by rw [hz2]; omega) (by omega)
  rw [hz1] at hmk
  simp only [Int.toNat_natCast, Nat.mul_one] at hmk
  have hcv := conv_new (P := Try.prog) w4 27 9 5 c c (List.replicate c 0) (madeCells #[Value.int IntKind.u8 0] c) 5 Try.underlying27 Try.underlying5 Try.underlying9 (by simp) (made_zeros c)
  clear hz0 hz1 hz2 hi
  have hbs : (bs (List.replicate c 0)).size = c := by rw [bs_size]; simp
  have HBS := Lib.hid hbs
  have HH := Lib.hid (fun h => text_head c h (List.replicate c 0) (by simp))
  clear hbs
  have hmx : (bs (List.replicate c 0)).size ≤ maxLen := by rw [HBS.out]; unfold maxLen; omega
  rw [show (Value.int IntKind.u8 0).cells = #[Value.int IntKind.u8 0] from rfl] at hmk
  generalize madeCells #[Value.int IntKind.u8 0] c = mc at *
  generalize bs (List.replicate c 0) = X at *
  have M5 := Lib.hid (M4.out.alloc (.cells mc 5))
  clear M4 HZ4
  go_wp2_with fail
  refine (text_all _ _ hmx).mono ?_
  rintro e w5 ⟨rfl, hb5⟩
  have M6 := Lib.hid (M5.out.then (Mod.of_below hb5))
  clear hb5 M5 hmk hcv
  by_cases hle : c ≤ 65535
  · obtain ⟨e1, e2, e3⟩ := HH.out hle
    rw [e1]
    have hcle : decide (65535 < (c : Int)) = false := by simp; omega
    have e4 : (((Oct.putS c 2 ++ X).size : Int) == (c : Int) + 2) = true := by rw [e2]; simp
    have hsz2 : 2 ≤ (Oct.putS c 2 ++ X).size := by omega
    have hp := put_all (c : Int) 2
    have HP := Lib.hid hp
    have E3 := Lib.hid e3
    clear hp e1 e2 e3 HH HBS
    generalize Oct.putS c 2 ++ X = T at *
    generalize Oct.putS c 2 = Y at *
    go_wp2_with fail
    have e3 := E3.out
    have hsz3 : (2 : Int) ≤ (T.size : Int) := by omega
    have hw2 : IntKind.i64.wrap ((c : Int) + 2) = (c : Int) + 2 := by rw [IntKind.wrap_i64]; omega
    go_region_held3 (fun _ => True) (trivial) (first | (go_at_call 15; refine (HP.out _ ⟨by omega, by omega⟩).mono ?_; rintro e w7 ⟨rfl, hb7⟩))
    have M7 := M6.out.drew.then (Mod.of_below hb7)
    go_wp2_with fail
    go_ret
    exact ⟨rfl, M7.to_below⟩
  · have hcle : decide (65535 < (c : Int)) = true := by simp; omega
    rw [show Oct.textS X = ⟨#[]⟩ by unfold Oct.textS; rw [HBS.out, if_neg hle]; rfl]
    clear HH HBS
    go_wp2_with fail
    go_ret
    exact ⟨rfl, M6.out.to_below⟩
end Go.Proofs.Ytdgebfdjlbcogaa

/- fleuronlaw02.shown. -/
import Derived.Test.YtiigcilmpclclaaRatWhole
namespace Go.Proofs.Ytiigcilmpclclaa
open Go.RowKit

theorem and_mask (k : Int) (m : Nat) (hm : m < 9223372036854775808) : 0 ≤ bits .and .i64 k (m : Int) ∧ bits .and .i64 k (m : Int) ≤ (m : Int) := by
  have h2 : (BitVec.ofInt 64 (m : Int)).toNat = m := by
    rw [BitVec.ofInt_natCast, BitVec.toNat_ofNat]; exact Nat.mod_eq_of_lt (by omega)
  have hx : (BitVec.ofInt 64 k &&& BitVec.ofInt 64 (m : Int)).toNat ≤ m := by rw [BitVec.toNat_and, h2]; exact Nat.and_le_right
  have he : bits .and .i64 k (m : Int) = IntKind.i64.wrap ((BitVec.ofInt 64 k &&& BitVec.ofInt 64 (m : Int)).toNat : Int) := rfl
  rw [he, IntWalk.i64_in _ (by omega)]
  omega
theorem mul_bd (a b : Int) {x y : Int} (h1 : -a ≤ x) (h2 : x ≤ a) (h3 : -b ≤ y) (h4 : y ≤ b) : -(a * b) ≤ x * y ∧ x * y ≤ a * b := by
  have h5 : x.natAbs * y.natAbs ≤ a.natAbs * b.natAbs := Nat.mul_le_mul (by omega) (by omega)
  rw [← Int.natAbs_mul, ← Int.natAbs_mul] at h5
  have h6 : 0 ≤ a * b := Int.mul_nonneg (by omega) (by omega)
  omega
theorem tmod_bd (n : Int) (m : Int) (hm : 0 < m) : -m < n.tmod m ∧ n.tmod m < m := by
  have h1 := Int.tmod_lt_of_pos n hm
  have h2 := Int.tmod_lt_of_pos (-n) hm
  rw [Int.neg_tmod] at h2
  omega

set_option maxHeartbeats 1000000 in
theorem shown_any (w : World) : Calls Try.prog 13 #[] w fun e w' => e = .returned (.bool true) ∧ Mod [] w w' := by
  have H1 : Hid (∀ W : World, Calls Try.prog 14 #[.int .i64 6, .int .i64 (-4)] W fun e w' => e = .returned (.tuple #[.agg #[.int .i64 (-3), .int .i64 2], .bool true]) ∧ Mod [] W w') := fun W => make_any 6 (-4) W (by omega) (by omega)
  have H2 : Hid (∀ W : World, Calls Try.prog 20 #[.agg #[.int .i64 1, .int .i64 2], .agg #[.int .i64 1, .int .i64 3]] W fun e w' => e = .returned (.tuple #[.agg #[.int .i64 5, .int .i64 6], .bool true]) ∧ Mod [] W w') := fun W => add_any 1 2 1 3 W (by omega) (by omega) (by omega) (by omega)
  have H3 : Hid (∀ W : World, Calls Try.prog 16 #[.int .i64 7, .int .i64 1, .int .i64 2] W fun e w' => e = .returned (.tuple #[.int .i64 4, .bool true]) ∧ Mod [] W w') := fun W => scale_any 7 1 2 W (by omega) (by omega) (by omega)
  have H4 : Hid (∀ W : World, Calls Try.prog 14 #[.int .i64 1, .int .i64 0] W fun e w' => e = .returned (.tuple #[.agg #[.int .i64 0, .int .i64 0], .bool false]) ∧ Mod [] W w') := fun W => make_any 1 0 W (by omega) (by omega)
  have H5 : Hid (∀ W : World, Calls Try.prog 18 #[.agg #[.int .i64 (-3), .int .i64 2]] W fun e w' => e = .returned (.int .i64 (-1)) ∧ Mod [] W w') := fun W => round_any (-3) 2 W (by omega) (by omega)
  have H6 : Hid (∀ W : World, Calls Try.prog 24 #[.agg #[.int .i64 (-3), .int .i64 2]] W fun e w' => e = .returned (.int .i64 (-2)) ∧ Mod [] W w') := fun W => floor_any (-3) 2 W (by omega) (by omega)
  go_enter Try.func13, Try.ntmps13
  go_wp2_with fail
  refine (H1.out _).mono ?_
  rintro e w1 ⟨rfl, m1⟩
  have S1 := Lib.hid (((Own.start w).call m1).alloc #[.int .i64 (-3), .int .i64 2] 24)
  clear m1
  go_wp2_with fail
  refine (H2.out _).mono ?_
  rintro e w2 ⟨rfl, m2⟩
  have S2 := Lib.hid ((S1.out.call m2).alloc #[.int .i64 5, .int .i64 6] 24)
  clear m2 S1
  go_wp2_with fail
  refine (H3.out _).mono ?_
  rintro e w3 ⟨rfl, m3⟩
  have S3 := Lib.hid (S2.out.call m3)
  clear m3 S2
  go_wp2_with fail
  refine (H4.out _).mono ?_
  rintro e w4 ⟨rfl, m4⟩
  have S4 := Lib.hid ((S3.out.call m4).alloc #[.int .i64 0, .int .i64 0] 24)
  clear m4 S3
  obtain ⟨a0, a1, -, -⟩ := (S4.out.at 0 rfl).two
  obtain ⟨b0, b1, -, -⟩ := (S4.out.at 1 rfl).two
  go_wp2_with fail
  refine (H5.out _).mono ?_
  rintro e w5 ⟨rfl, m5⟩
  have S5 := Lib.hid (S4.out.call m5)
  clear m5 S4 a0 a1 b0 b1
  obtain ⟨a0, a1, -, -⟩ := (S5.out.at 0 rfl).two
  go_wp2_with fail
  refine (H6.out _).mono ?_
  rintro e w6 ⟨rfl, m6⟩
  have S6 := Lib.hid (S5.out.call m6)
  clear m6 S5 a0 a1
  go_wp2_with fail
  go_ret
  exact ⟨rfl, S6.out.mod⟩
end Go.Proofs.Ytiigcilmpclclaa

/- ratio: the small functions beneath. -/
import Derived.Test.YtngeijdfpgmcfaaDiv64b
import Derived.Test.YtngeijdfpgmcfaaFrame
namespace Go.Proofs.Ytngeijdfpgmcfaa
open Go.RowKit

set_option maxHeartbeats 400000 in
theorem size_any (n : Int) (w : World) (h1 : -9223372036854775808 ≤ n) (h2 : n ≤ 9223372036854775807) :
    Calls Try.prog 32 #[.int .i64 n] w fun e w' => e = .returned (.int .u64 (n.natAbs : Int)) ∧ w = w' := by
  by_cases h : n < 0
  · have hw : IntKind.u64.wrap (-IntKind.u64.wrap n) = (n.natAbs : Int) := by rw [IntKind.wrap_u64, IntKind.wrap_u64]; omega
    have HW := Lib.hid hw
    clear hw
    go_enter Try.func32, Try.ntmps32
    go_wp2
    go_ret
    rw [← HW.out]
    exact ⟨rfl, rfl⟩
  · have hw : n = (n.natAbs : Int) := by omega
    have HW := Lib.hid hw
    clear hw
    go_enter Try.func32, Try.ntmps32
    go_wp2
    go_ret
    rw [← HW.out]
    exact ⟨rfl, rfl⟩

set_option maxHeartbeats 400000 in
theorem divisor_any (a b : Nat) (w : World) (ha : a < 18446744073709551616) (hb : b < 18446744073709551616) :
    Calls Try.prog 31 #[.int .u64 a, .int .u64 b] w fun e w' => e = .returned (.int .u64 ((Nat.gcd a b : Nat) : Int)) ∧ ∃ n, w' = w.drewN n := by
  go_enter Try.func31, Try.ntmps31
  go_wp2
  go_loopw [0, 1] (fun x y wr => ∃ p q n : Nat, x = .int .u64 p ∧ y = .int .u64 q ∧ p < 18446744073709551616 ∧ q < 18446744073709551616 ∧ Hid (Nat.gcd p q = Nat.gcd a b) ∧ wr = w.drewN n) (fun _ y _ => (intOf y).toNat)
  case atStart => exact ⟨a, b, 0, rfl, rfl, ha, hb, rfl, rfl⟩
  case round =>
    obtain ⟨p, q, n, rfl, rfl, hp, hq, HG, rfl⟩ := hrel
    rcases Nat.eq_zero_or_pos q with h0 | h0
    · have hq0 : ((q : Int) != 0) = false := by simp [h0]
      have HE : Hid (Nat.gcd a b = p) := by rw [← HG.out, h0, Nat.gcd_zero_right]; exact rfl
      clear h0
      go_wp2
      go_ret
      rw [HE.out]
      exact ⟨rfl, _, rfl⟩
    · have hq0 : ((q : Int) != 0) = true := by simp; omega
      have HE : Hid (Nat.gcd q (p % q) = Nat.gcd a b) := by
        rw [Nat.gcd_comm q (p % q), ← Nat.gcd_rec q p, Nat.gcd_comm q p]; exact HG.out
      have hlt := Nat.mod_lt p h0
      have hm : (p : Int) % (q : Int) = ((p % q : Nat) : Int) := (Int.natCast_emod p q).symm
      go_wp2_with fail
      go_quiet (fail)
      go_wp2_with fail
      go_roundw
      case rel => exact ⟨q, p % q, _, rfl, rfl, hq, by omega, HE.out, World.drewN_drewN _ _ _⟩
      case measure => simp [intOf]; omega

set_option maxHeartbeats 400000 in
theorem product_any (a b : Nat) (w : World) (ha : a < 18446744073709551616) (hb : b < 18446744073709551616) :
    Calls Try.prog 49 #[.int .u64 a, .int .u64 b] w fun e w' => e = .returned (.agg #[.int .u64 ((a * b / 18446744073709551616 : Nat) : Int), .int .u64 ((a * b % 18446744073709551616 : Nat) : Int)]) ∧ Mod [] w w' := by
  go_enter Try.func49, Try.ntmps49
  go_wp2_with fail
  refine (mul64_any a b ha hb _).mono ?_
  rintro e w1 ⟨rfl, rfl⟩
  go_wp2_with fail
  refine bodyPost_ret (v := .agg #[.int .u64 ((a * b / 18446744073709551616 : Nat) : Int), .int .u64 ((a * b % 18446744073709551616 : Nat) : Int)]) (by simp [results, Try.results49, go_sem]) rfl ⟨rfl, ?_⟩
  exact (Mod.refl _ _).alloc _

/-- less: for all that it may meet. -/
def lt2 (h l h' l' : Nat) : Bool := decide (h < h' ∨ h = h' ∧ l < l')

set_option maxHeartbeats 400000 in
theorem less_any (h l h' l' : Nat) (w : World) :
    Calls Try.prog 65 #[.agg #[.int .u64 h, .int .u64 l], .agg #[.int .u64 h', .int .u64 l']] w fun e w' => e = .returned (.bool (lt2 h l h' l')) ∧ Mod [] w w' := by
  have M := Lib.hid (((Mod.refl [] w).alloc (.cells #[.int .u64 h, .int .u64 l] 96)).alloc (.cells #[.int .u64 h', .int .u64 l'] 96))
  by_cases h1 : h < h'
  · have HD := Lib.hid (show lt2 h l h' l' = true by simp [lt2, h1])
    have d1 : decide (h < h') = true := by simp; omega
    go_enter Try.func65, Try.ntmps65
    go_wp2_with fail
    go_ret
    exact ⟨by rw [HD.out]; rfl, M.out⟩
  · have d1 : decide (h < h') = false := by simp; omega
    by_cases h2 : h = h'
    · have d2 : ((h : Int) == h') = true := by simp; omega
      have HD := Lib.hid (show lt2 h l h' l' = decide (l < l') by simp [lt2, h2])
      clear h1 h2
      go_enter Try.func65, Try.ntmps65
      go_wp2_with fail
      go_ret
      exact ⟨by rw [HD.out]; rfl, M.out⟩
    · have d2 : ((h : Int) == h') = false := by simp; omega
      have HD := Lib.hid (show lt2 h l h' l' = false by simp [lt2, h1, h2])
      clear h1 h2
      go_enter Try.func65, Try.ntmps65
      go_wp2_with fail
      go_ret
      exact ⟨by rw [HD.out]; rfl, M.out⟩

set_option maxHeartbeats 400000 in
theorem times_any (n : Int) (b : Nat) (w : World) (h1 : -9223372036854775808 ≤ n) (h2 : n ≤ 9223372036854775807) (hb : b < 18446744073709551616) :
    Calls Try.prog 46 #[.int .i64 n, .int .u64 b] w fun e w' => e = .returned (.agg #[.int .u64 ((n.natAbs * b / 18446744073709551616 : Nat) : Int), .int .u64 ((n.natAbs * b % 18446744073709551616 : Nat) : Int), .bool (decide (n < 0))]) ∧ Mod [] w w' := by
  have M0 := Lib.hid ((Mod.refl [] w).alloc (.cells #[.int .u64 0, .int .u64 0, .bool false] 125))
  go_enter Try.func46, Try.ntmps46
  go_wp2_with fail
  refine (size_any n _ h1 h2).mono ?_
  rintro e w1 ⟨rfl, rfl⟩
  go_wp2_with fail
  refine (product_any n.natAbs b _ (by omega) hb).mono ?_
  rintro e w1 ⟨rfl, m1⟩
  obtain ⟨k0, k1, k2, z0, z1, z2, ks⟩ := res3 (by simp) m1
  have M1 := Lib.hid (M0.out.then m1)
  clear m1
  generalize ex : ((n.natAbs * b / 18446744073709551616 : Nat) : Int) = x at *
  generalize ey : ((n.natAbs * b % 18446744073709551616 : Nat) : Int) = y at *
  have EX := Lib.hid ex
  have EY := Lib.hid ey
  clear ex ey
  go_wp2_with fail
  refine bodyPost_ret (v := .agg #[.int .u64 x, .int .u64 y, .bool (decide (n < 0))]) (by simp [results, Try.results46, go_sem, k0, k1, k2]) rfl ⟨by rw [EX.out, EY.out], ?_⟩
  exact ((M1.out.setNew (by simp) _).setNew (by simp) _).setNew (by simp) _
set_option maxHeartbeats 400000 in
theorem minus_any (h l h' l' : Nat) (w : World) :
    Calls Try.prog 66 #[.agg #[.int .u64 h, .int .u64 l], .agg #[.int .u64 h', .int .u64 l']] w fun e w' => e = .returned (.agg #[.int .u64 (((h + 18446744073709551616 - h' - (if l < l' then 1 else 0)) % 18446744073709551616 : Nat) : Int), .int .u64 (((l + 18446744073709551616 - l') % 18446744073709551616 : Nat) : Int)]) ∧ Mod [] w w' := by
  have M0 := Lib.hid ((((Mod.refl [] w).alloc (.cells #[.int .u64 h, .int .u64 l] 96)).alloc (.cells #[.int .u64 h', .int .u64 l'] 96)).alloc (.cells #[.int .u64 (((h + 18446744073709551616 - h' - (if l < l' then 1 else 0)) % 18446744073709551616 : Nat) : Int), .int .u64 (((l + 18446744073709551616 - l') % 18446744073709551616 : Nat) : Int)] 96))
  have hs1 : ∀ w, (callFunc 75 #[.int .u64 l, .int .u64 l', .int .u64 0]).run Try.prog w = .ok (.value (.tuple #[.int .u64 (((l + 18446744073709551616 - l') % 18446744073709551616 : Nat) : Int), .int .u64 ((if l < l' then 1 else 0 : Nat) : Int)])) w := fun w => sub64_run l l' 0 (by omega) w
  have hs2 := fun w => sub64_run h h' (if l < l' then 1 else 0) (by split <;> omega) w
  generalize ex : (l + 18446744073709551616 - l') % 18446744073709551616 = x at *
  generalize eb : (if l < l' then 1 else 0) = b at *
  generalize ey : (h + 18446744073709551616 - h' - b) % 18446744073709551616 = y at *
  generalize (if h < h' + b then 1 else 0) = c at *
  have EX := Lib.hid ex
  have EY := Lib.hid ey
  have EB := Lib.hid eb
  clear ex ey eb
  go_enter Try.func66, Try.ntmps66
  go_wp2_with fail
  refine bodyPost_ret (v := .agg #[.int .u64 y, .int .u64 x]) (by simp [results, Try.results66, go_sem]) rfl ⟨rfl, M0.out⟩

set_option maxHeartbeats 400000 in
theorem plus_any (h l h' l' : Nat) (w : World) (hl : l < 18446744073709551616) (hl' : l' < 18446744073709551616) :
    Calls Try.prog 64 #[.agg #[.int .u64 h, .int .u64 l], .agg #[.int .u64 h', .int .u64 l']] w fun e w' => e = .returned (.agg #[.int .u64 (((h + h' + (l + l') / 18446744073709551616) % 18446744073709551616 : Nat) : Int), .int .u64 (((l + l') % 18446744073709551616 : Nat) : Int)]) ∧ Mod [] w w' := by
  have M0 := Lib.hid ((((Mod.refl [] w).alloc (.cells #[.int .u64 h, .int .u64 l] 96)).alloc (.cells #[.int .u64 h', .int .u64 l'] 96)).alloc (.cells #[.int .u64 (((h + h' + (l + l') / 18446744073709551616) % 18446744073709551616 : Nat) : Int), .int .u64 (((l + l') % 18446744073709551616 : Nat) : Int)] 96))
  have hs1 : ∀ w, (callFunc 74 #[.int .u64 l, .int .u64 l', .int .u64 0]).run Try.prog w = .ok (.value (.tuple #[.int .u64 (((l + l') % 18446744073709551616 : Nat) : Int), .int .u64 (((l + l') / 18446744073709551616 : Nat) : Int)])) w := fun w => add64_run l l' 0 (by omega) w
  have hs2 := fun w => add64_run h h' ((l + l') / 18446744073709551616) (by omega) w
  generalize ex : (l + l') % 18446744073709551616 = x at *
  generalize eb : (l + l') / 18446744073709551616 = b at *
  generalize ey : (h + h' + b) % 18446744073709551616 = y at *
  generalize (h + h' + b) / 18446744073709551616 = c at *
  have EX := Lib.hid ex
  have EY := Lib.hid ey
  have EB := Lib.hid eb
  clear ex ey eb
  go_enter Try.func64, Try.ntmps64
  go_wp2_with fail
  refine bodyPost_ret (v := .agg #[.int .u64 y, .int .u64 x]) (by simp [results, Try.results64, go_sem]) rfl ⟨rfl, M0.out⟩

namespace Rat
/-- Sum and difference of numbers of two words. -/
def pl (h l h' l' : Nat) : Nat × Nat := ((h + h' + (l + l') / 18446744073709551616) % 18446744073709551616, (l + l') % 18446744073709551616)
def mi (h l h' l' : Nat) : Nat × Nat := ((h + 18446744073709551616 - h' - (if l < l' then 1 else 0)) % 18446744073709551616, (l + 18446744073709551616 - l') % 18446744073709551616)
def sumW (h l : Nat) (m : Bool) (h' l' : Nat) (m' : Bool) : (Nat × Nat) × Bool :=
  if m = m' then (pl h l h' l', m) else if lt2 h l h' l' then (mi h' l' h l, m') else (mi h l h' l', m)
end Rat

end Go.Proofs.Ytngeijdfpgmcfaa

/- Plain: a number of two words by one of one word, in halves of words (what Div64 does). No program here. -/
import Derived.Lib.BitFns
namespace Go.Proofs.Ytngeijdfpgmcfaa
namespace Dv

/-- The quotient of one step, held against what the loop knows. -/
theorem step_le (Y y1 y0 u v q r : Nat) (hY : Y = y1 * 4294967296 + y0) (hu : q * y1 + r = u) (h : q * y0 ≤ 4294967296 * r + v) : q * Y ≤ u * 4294967296 + v := by
  subst hY; subst hu
  rw [Nat.mul_add, Nat.add_mul, ← Nat.mul_assoc]
  omega
theorem step_gt (Y y1 y0 u v q r : Nat) (hY : Y = y1 * 4294967296 + y0) (hu : q * y1 + r = u) (h : 4294967296 * r + v < q * y0) : u * 4294967296 + v < q * Y := by
  subst hY; subst hu
  rw [Nat.mul_add, Nat.add_mul, ← Nat.mul_assoc]
  omega
/-- The loop's end: nothing more is to be taken off. -/
theorem step_end (Y y1 y0 u v q r : Nat) (hY : Y = y1 * 4294967296 + y0) (hY0 : 0 < Y) (hu : q * y1 + r = u) (h : q * y0 ≤ 4294967296 * r + v) (hge : (u * 4294967296 + v) / Y ≤ q) :
    q = (u * 4294967296 + v) / Y := by
  have h1 := step_le Y y1 y0 u v q r hY hu h
  have h2 : q ≤ (u * 4294967296 + v) / Y := (Nat.le_div_iff_mul_le hY0).2 h1
  omega
/-- The loop's end by its break. -/
theorem step_break (Y y1 y0 u v q r : Nat) (hY : Y = y1 * 4294967296 + y0) (hY0 : 0 < Y) (h0 : y0 < 4294967296) (hu : q * y1 + r = u) (hr : 4294967296 ≤ r) (hq : q ≤ 4294967296) (hge : (u * 4294967296 + v) / Y ≤ q) :
    q = (u * 4294967296 + v) / Y := by
  refine step_end Y y1 y0 u v q r hY hY0 hu ?_ hge
  have : q * y0 ≤ 4294967296 * y0 := Nat.mul_le_mul_right _ hq
  omega
/-- One less is still enough. -/
theorem step_down_big (Y u v q : Nat) (hY0 : 0 < Y) (hu : u < Y) (hv : v < 4294967296) (hq : 4294967296 ≤ q) : (u * 4294967296 + v) / Y ≤ q - 1 := by
  have : (u * 4294967296 + v) / Y < 4294967296 := by
    rw [Nat.div_lt_iff_lt_mul hY0]
    have : (u + 1) * 4294967296 ≤ Y * 4294967296 := Nat.mul_le_mul_right _ hu
    rw [Nat.mul_comm 4294967296 Y]
    omega
  omega
theorem step_down (Y y1 y0 u v q r : Nat) (hY : Y = y1 * 4294967296 + y0) (hY0 : 0 < Y) (hu : q * y1 + r = u) (h : 4294967296 * r + v < q * y0) : (u * 4294967296 + v) / Y ≤ q - 1 := by
  have h1 := step_gt Y y1 y0 u v q r hY hu h
  have h2 : (u * 4294967296 + v) / Y < q := (Nat.div_lt_iff_lt_mul hY0).2 h1
  omega
/-- The first guess is enough. -/
theorem step_start (Y y1 y0 u v : Nat) (hY : Y = y1 * 4294967296 + y0) (h1 : 0 < y1) (hv : v < 4294967296) : (u * 4294967296 + v) / Y ≤ u / y1 := by
  have hY0 : 0 < Y := by omega
  have hlt : u * 4294967296 + v < (u / y1 + 1) * Y := by
    have h2 : u < (u / y1 + 1) * y1 := by
      have := Nat.div_add_mod u y1
      have := Nat.mod_lt u h1
      rw [Nat.add_mul, Nat.mul_comm (u / y1)]; omega
    generalize u / y1 + 1 = k at *
    subst hY
    rw [Nat.mul_add, ← Nat.mul_assoc]
    have : (u + 1) * 4294967296 ≤ k * y1 * 4294967296 := Nat.mul_le_mul_right _ h2
    omega
  have := (Nat.div_lt_iff_lt_mul hY0).2 hlt
  omega
/-- Two steps together. -/
theorem two_steps (Y u v1 v0 : Nat) (hY0 : 0 < Y) :
    (u * 18446744073709551616 + (v1 * 4294967296 + v0)) / Y = (u * 4294967296 + v1) / Y * 4294967296 + ((u * 4294967296 + v1) % Y * 4294967296 + v0) / Y ∧
    (u * 18446744073709551616 + (v1 * 4294967296 + v0)) % Y = ((u * 4294967296 + v1) % Y * 4294967296 + v0) % Y := by
  have e : u * 18446744073709551616 + (v1 * 4294967296 + v0) = ((u * 4294967296 + v1) % Y * 4294967296 + v0) + Y * ((u * 4294967296 + v1) / Y * 4294967296) := by
    have := Nat.div_add_mod (u * 4294967296 + v1) Y
    generalize (u * 4294967296 + v1) / Y = a at *
    generalize (u * 4294967296 + v1) % Y = b at *
    rw [← Nat.mul_assoc]
    generalize Y * a = c at *
    omega
  rw [e, Nat.add_mul_div_left _ _ hY0, Nat.add_mul_mod_self_left]
  omega
/-- Shifted by s, the quotient is the same, and what is left is shifted. -/
theorem shift_div (x y p : Nat) (hp : 0 < p) : (x * p) / (y * p) = x / y ∧ (x * p) % (y * p) / p = x % y := by
  refine ⟨Nat.mul_div_mul_right _ _ hp, ?_⟩
  rw [Nat.mul_mod_mul_right]
  exact Nat.mul_div_cancel _ hp
theorem bl (x : Nat) : 0 < x → x < 18446744073709551616 → 2 ^ (Lib.bitLen x - 1) ≤ x ∧ x < 2 ^ Lib.bitLen x ∧ 1 ≤ Lib.bitLen x := by
  induction x using Nat.strongRecOn with
  | ind x ih =>
    intro h0 hx
    rcases Nat.lt_or_ge x 2 with h | h
    · have : x = 1 := by omega
      subst this
      have e : Lib.bitLen 1 = 1 := by decide +kernel
      rw [e]; decide
    · have hb := Lib.bitLen_half x (by omega) hx
      obtain ⟨h1, h2, h3⟩ := ih (x / 2) (by omega) (by omega) (by omega)
      rw [hb]
      have e1 : 1 + Lib.bitLen (x / 2) - 1 = (Lib.bitLen (x / 2) - 1) + 1 := by omega
      refine ⟨?_, ?_, by omega⟩
      · rw [e1, Nat.pow_succ]; omega
      · rw [Nat.add_comm 1, Nat.pow_succ]; omega
/-- By how many bits a word is shifted, that its highest one is 1. -/
theorem lz (x : Nat) (h0 : 0 < x) (hx : x < 18446744073709551616) : ∃ s : Nat, s ≤ 63 ∧ (64 - (Lib.bitLen x : Int)) = (s : Int) ∧ 9223372036854775808 ≤ x * 2 ^ s ∧ x * 2 ^ s < 18446744073709551616 := by
  obtain ⟨h1, h2, h3⟩ := bl x h0 hx
  have h4 := Lib.bitLen_le x 64 (Nat.le_refl _) hx
  refine ⟨64 - Lib.bitLen x, by omega, by omega, ?_, ?_⟩
  · have := Nat.mul_le_mul_right (2 ^ (64 - Lib.bitLen x)) h1
    rw [← Nat.pow_add, show Lib.bitLen x - 1 + (64 - Lib.bitLen x) = 63 by omega] at this
    exact this
  · have := (Nat.mul_lt_mul_right (a := 2 ^ (64 - Lib.bitLen x)) (Nat.two_pow_pos _)).2 h2
    rw [← Nat.pow_add, show Lib.bitLen x + (64 - Lib.bitLen x) = 64 by omega] at this
    exact this
theorem q_bound (Y y1 y0 u q r : Nat) (hY : Y = y1 * 4294967296 + y0) (h1 : 2147483648 ≤ y1) (h0 : y0 < 4294967296) (hu : u < Y) (h : q * y1 + r = u) : q ≤ 4294967297 := by
  rcases Nat.lt_or_ge 4294967297 q with hq | hq
  · exfalso
    have : 4294967298 * y1 ≤ q * y1 := Nat.mul_le_mul_right _ hq
    omega
  · exact hq
theorem q_down (q y1 r u : Nat) (hq : 1 ≤ q) (h : q * y1 + r = u) : (q - 1) * y1 + (r + y1) = u := by
  obtain ⟨k, rfl⟩ : ∃ k, q = k + 1 := ⟨q - 1, by omega⟩
  rw [Nat.add_mul] at h
  rw [show k + 1 - 1 = k by omega]
  omega
/-- The word that the step leaves, worked out modulo 2^64. -/
theorem left_mod (Y u v Q : Nat) (hQ : Q = (u * 4294967296 + v) / Y) (hY : Y < 18446744073709551616) (hY0 : 0 < Y) :
    ((((u : Int) * 4294967296 % 18446744073709551616 + v) % 18446744073709551616 - (Q : Int) * Y % 18446744073709551616) % 18446744073709551616) = (((u * 4294967296 + v) % Y : Nat) : Int) := by
  have h1 := Nat.div_add_mod (u * 4294967296 + v) Y
  have h2 := Nat.mod_lt (u * 4294967296 + v) hY0
  rw [← hQ] at h1
  generalize (u * 4294967296 + v) % Y = R at *
  rw [Nat.mul_comm] at h1
  have h3 : (Q : Int) * Y = ((Q * Y : Nat) : Int) := (Int.natCast_mul Q Y).symm
  rw [h3]
  generalize Q * Y = z at *
  omega
theorem shift_low (lo s : Nat) (hs : s ≤ 63) (hl : lo < 18446744073709551616) : lo / 2 ^ (64 - s) < 2 ^ s ∧ lo * 2 ^ s = lo / 2 ^ (64 - s) * 18446744073709551616 + lo * 2 ^ s % 18446744073709551616 := by
  have hp : 2 ^ (64 - s) * 2 ^ s = 18446744073709551616 := by rw [← Nat.pow_add, show 64 - s + s = 64 by omega]
  have hp1 : 0 < 2 ^ (64 - s) := Nat.two_pow_pos _
  have hp2 : 0 < 2 ^ s := Nat.two_pow_pos _
  constructor
  · rw [Nat.div_lt_iff_lt_mul hp1, Nat.mul_comm, hp]; exact hl
  · have e : lo * 2 ^ s / 18446744073709551616 = lo / 2 ^ (64 - s) := by
      rw [← hp]; exact Nat.mul_div_mul_right _ _ hp2
    rw [← e, Nat.mul_comm (lo * 2 ^ s / 18446744073709551616)]
    exact (Nat.div_add_mod _ _).symm
theorem high_lt (hi lo y s : Nat) (hs : s ≤ 63) (hlt : hi < y) (hl : lo < 18446744073709551616) : hi * 2 ^ s + lo / 2 ^ (64 - s) < y * 2 ^ s := by
  have h1 := (shift_low lo s hs hl).1
  have h2 : (hi + 1) * 2 ^ s ≤ y * 2 ^ s := Nat.mul_le_mul_right _ hlt
  rw [Nat.add_mul] at h2
  omega
/-- All together. -/
theorem all (hi lo y s Y U L v1 v0 Q1 R1 Q0 R0 : Nat) (hs : s ≤ 63) (hl : lo < 18446744073709551616) (hy0 : 0 < Y) (hY : Y = y * 2 ^ s) (hU : U = hi * 2 ^ s + lo / 2 ^ (64 - s)) (hL : L = lo * 2 ^ s % 18446744073709551616)
    (hLs : L = v1 * 4294967296 + v0) (h1 : Q1 = (U * 4294967296 + v1) / Y) (h2 : R1 = (U * 4294967296 + v1) % Y) (h3 : Q0 = (R1 * 4294967296 + v0) / Y) (h4 : R0 = (R1 * 4294967296 + v0) % Y) :
    (hi * 18446744073709551616 + lo) / y = Q1 * 4294967296 + Q0 ∧ (hi * 18446744073709551616 + lo) % y = R0 / 2 ^ s := by
  have hp2 : 0 < 2 ^ s := Nat.two_pow_pos _
  have e : U * 18446744073709551616 + (v1 * 4294967296 + v0) = (hi * 18446744073709551616 + lo) * 2 ^ s := by
    rw [← hLs, hU, hL, Nat.add_mul, Nat.add_mul, Nat.add_assoc, ← (shift_low lo s hs hl).2, Nat.mul_right_comm]
  obtain ⟨t1, t2⟩ := two_steps Y U v1 v0 hy0
  rw [← h1, ← h2, ← h3] at t1
  rw [← h2, ← h4] at t2
  rw [e, hY] at t1 t2
  obtain ⟨u1, u2⟩ := shift_div (hi * 18446744073709551616 + lo) y (2 ^ s) hp2
  rw [u1] at t1
  rw [t2] at u2
  exact ⟨t1, u2.symm⟩
end Dv
end Go.Proofs.Ytngeijdfpgmcfaa

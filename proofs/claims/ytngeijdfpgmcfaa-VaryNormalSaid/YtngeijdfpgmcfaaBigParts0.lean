/- The plain mathematics of Parts: long division, bit by bit. -/
import Derived.Test.YtngeijdfpgmcfaaBigPlain
namespace Go.Proofs.Ytngeijdfpgmcfaa
set_option linter.unusedVariables false
namespace Big

theorem getD_dig (m j : Nat) : (dig m).getD j 0 = m / 65536 ^ j % 65536 := by
  induction j generalizing m with
  | zero =>
    rcases Nat.eq_zero_or_pos m with h | h
    · subst h; rw [dig_zero]; simp
    · rw [dig_pos h]; simp
  | succ j ih =>
    rcases Nat.eq_zero_or_pos m with h | h
    · subst h; rw [dig_zero]; simp
    · rw [dig_pos h, List.getD_cons_succ, ih, Nat.pow_succ, Nat.mul_comm, Nat.div_div_eq_div_mul]
theorem bit_dig (m i : Nat) : (dig m).getD (i / 16) 0 / 2 ^ (i % 16) % 2 = m / 2 ^ i % 2 := by
  rw [getD_dig]
  have h1 : (65536 : Nat) = 2 ^ 16 := by decide
  rw [h1, ← Nat.pow_mul]
  have h2 : m / 2 ^ (16 * (i / 16)) % 2 ^ 16 / 2 ^ (i % 16) % 2 = m / 2 ^ (16 * (i / 16)) / 2 ^ (i % 16) % 2 := by
    generalize m / 2 ^ (16 * (i / 16)) = x
    have hs : i % 16 < 16 := Nat.mod_lt _ (by omega)
    generalize i % 16 = s at *
    have a1 : (x % 2 ^ 16).testBit s = x.testBit s := by rw [Nat.testBit_mod_two_pow]; simp [hs]
    rw [Nat.testBit_eq_decide_div_mod_eq, Nat.testBit_eq_decide_div_mod_eq, decide_eq_decide] at a1
    omega
  rw [h2, Nat.div_div_eq_div_mul, ← Nat.pow_add]
  congr 3
  omega
/-- One step of the long division. -/
theorem half_step (A i : Nat) : A / 2 ^ i = 2 * (A / 2 ^ (i + 1)) + A / 2 ^ i % 2 := by
  rw [Nat.pow_succ, ← Nat.div_div_eq_div_mul]; omega
theorem div_up {N D b q r : Nat} (hD : 0 < D) (hb : b ≤ 1) (hq : q = N / D) (hr : r = N % D) (h : D ≤ 2 * r + b) : (2 * N + b) / D = 2 * q + 1 ∧ (2 * N + b) % D = 2 * r + b - D := by
  have h1 := Nat.div_add_mod N D
  have h2 := Nat.mod_lt N hD
  rw [← hq, ← hr] at h1
  rw [← hr] at h2
  have e : 2 * N + b = (2 * r + b - D) + D * (2 * q + 1) := by
    rw [Nat.mul_add, Nat.mul_one, Nat.mul_left_comm]; omega
  rw [e, Nat.add_mul_div_left _ _ hD, Nat.add_mul_mod_self_left, Nat.div_eq_of_lt (by omega), Nat.mod_eq_of_lt (by omega)]
  omega
theorem div_down {N D b q r : Nat} (hD : 0 < D) (hb : b ≤ 1) (hq : q = N / D) (hr : r = N % D) (h : 2 * r + b < D) : (2 * N + b) / D = 2 * q ∧ (2 * N + b) % D = 2 * r + b := by
  have h1 := Nat.div_add_mod N D
  rw [← hq, ← hr] at h1
  have e : 2 * N + b = (2 * r + b) + D * (2 * q) := by rw [Nat.mul_left_comm]; omega
  rw [e, Nat.add_mul_div_left _ _ hD, Nat.add_mul_mod_self_left, Nat.div_eq_of_lt h, Nat.mod_eq_of_lt h]
  omega
/-- How the quotient and the rest stand behind bit i. -/
structure PSt (A D i q r : Nat) : Prop where
  q : q = A / 2 ^ i / D
  r : r = A / 2 ^ i % D
theorem PSt.start (A D L : Nat) (h : A < 65536 ^ L) : PSt A D (16 * L) 0 0 := by
  have h1 : A / 2 ^ (16 * L) = 0 := by
    rw [Nat.div_eq_of_lt]
    rw [Nat.pow_mul]; exact h
  exact ⟨by rw [h1]; simp, by rw [h1]; simp⟩
theorem PSt.up {A D i q r b : Nat} (h : PSt A D (i + 1) q r) (hD : 0 < D) (hb : b = A / 2 ^ i % 2) (hl : D ≤ 2 * r + b) : PSt A D i (2 * q + 1) (2 * r + b - D) := by
  obtain ⟨h1, h2⟩ := div_up hD (by omega) h.q h.r hl
  have h3 := half_step A i
  rw [← hb] at h3
  rw [← h3] at h1 h2
  exact ⟨h1.symm, h2.symm⟩
theorem PSt.down {A D i q r b : Nat} (h : PSt A D (i + 1) q r) (hD : 0 < D) (hb : b = A / 2 ^ i % 2) (hl : 2 * r + b < D) : PSt A D i (2 * q) (2 * r + b) := by
  obtain ⟨h1, h2⟩ := div_down hD (by omega) h.q h.r hl
  have h3 := half_step A i
  rw [← hb] at h3
  rw [← h3] at h1 h2
  exact ⟨h1.symm, h2.symm⟩
theorem PSt.qle {A D i q r : Nat} (h : PSt A D i q r) : q ≤ A := by
  rw [h.q]; exact Nat.le_trans (Nat.div_le_self _ _) (Nat.div_le_self _ _)
theorem PSt.rlt {A D i q r : Nat} (h : PSt A D i q r) (hD : 0 < D) : r < D := by rw [h.r]; exact Nat.mod_lt _ hD
theorem PSt.done {A D q r : Nat} (h : PSt A D 0 q r) : q = A / D ∧ r = A % D := by
  have := h.q; have := h.r; simp_all
end Big
end Go.Proofs.Ytngeijdfpgmcfaa

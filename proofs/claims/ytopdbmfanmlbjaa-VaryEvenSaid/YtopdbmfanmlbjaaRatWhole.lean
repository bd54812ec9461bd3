/- ratio: whole numbers: Floor, Round, Scale as quotients. -/
import Derived.Test.YtopdbmfanmlbjaaRatTell
namespace Go.Proofs.Ytopdbmfanmlbjaa
namespace Rat

theorem ediv_of {x k t : Int} (hk : 0 < k) (h1 : k * t ≤ x) (h2 : x < k * t + k) : x / k = t := by
  obtain ⟨r, hr⟩ : ∃ r, r = x - k * t := ⟨_, rfl⟩
  have hx : x = r + k * t := by omega
  rw [hx, Int.add_mul_ediv_left _ _ (by omega), Int.ediv_eq_zero_of_lt (by omega) (by omega), Int.zero_add]

theorem ediv_by {x k t : Int} (p : Int) (hk : 0 < k) (hp : k * t = p) (h1 : p ≤ x) (h2 : x < p + k) : x / k = t := ediv_of hk (by rw [hp]; exact h1) (by rw [hp]; exact h2)

/-- A number, if it fits. -/
def fits (v : Int) : Int × Bool := if -9223372036854775808 ≤ v ∧ v ≤ 9223372036854775807 then (v, true) else (0, false)
/-- Rounded: the greatest whole number that is not above s by y and a half. -/
def half (s y : Int) : Int := (2 * s + y) / (2 * y)

theorem cut_half (m : Bool) (A y : Nat) (hy : 0 < y) : cutR m A y (near m y) = fits (half (sg m A) y) := by
  obtain ⟨q, hq⟩ : ∃ q, q = A / y := ⟨_, rfl⟩
  obtain ⟨r, hr⟩ : ∃ r, r = A % y := ⟨_, rfl⟩
  have hA : A = y * q + r := by rw [hq, hr]; exact (Nat.div_add_mod A y).symm
  have hry : r < y := by rw [hr]; exact Nat.mod_lt _ hy
  have hAi : (A : Int) = y * q + r := by rw [hA]; simp
  unfold cutR
  have hbig : A / 18446744073709551616 ≥ y → 9223372036854775808 < q := fun h => by
    have h2 : y * 18446744073709551616 ≤ A := by rw [ge_iff_le, Nat.le_div_iff_mul_le (by omega)] at h; exact h
    have h3 : 18446744073709551616 ≤ q := by rw [hq, Nat.le_div_iff_mul_le hy, Nat.mul_comm]; exact h2
    omega
  rw [← hq, ← hr]
  have hv : half (sg m A) y = sg m (q + (if near m y r then 1 else 0)) := by
    unfold half
    cases m with
    | true =>
      simp only [sg, if_true, near]
      by_cases hg : y - r < r
      · simp only [hg, decide_true, if_true, Int.natCast_add]
        exact ediv_by (-(2 * ((y : Int) * q) + 2 * y)) (by omega) (by grind) (by omega) (by omega)
      · simp only [hg, decide_false, Bool.false_eq_true, if_false, Nat.add_zero]
        exact ediv_by (-(2 * ((y : Int) * q))) (by omega) (by grind) (by omega) (by omega)
    | false =>
      simp only [sg, Bool.false_eq_true, if_false, near]
      by_cases hg : y - r ≤ r
      · simp only [hg, decide_true, if_true, Int.natCast_add]
        exact ediv_by (2 * ((y : Int) * q) + 2 * y) (by omega) (by grind) (by omega) (by omega)
      · simp only [hg, decide_false, Bool.false_eq_true, if_false, Nat.add_zero]
        exact ediv_by (2 * ((y : Int) * q)) (by omega) (by grind) (by omega) (by omega)
  rw [hv]
  generalize (if near m y r then 1 else 0) = e at *
  unfold fits
  by_cases hc : A / 18446744073709551616 ≥ y ∨ 9223372036854775808 < q
  · rw [if_pos hc, if_neg]
    have : 9223372036854775808 < q := hc.elim hbig id
    cases m <;> simp only [sg, if_true, Bool.false_eq_true, if_false] <;> omega
  · rw [if_neg hc]
    cases m
    · simp only [Bool.false_eq_true, false_and, if_false, true_and, sg]
      by_cases h : q + e < 9223372036854775808
      · rw [if_pos h, if_pos (by omega)]
      · rw [if_neg h, if_neg (by omega)]
    · simp only [true_and, sg, if_true]
      by_cases h : q + e ≤ 9223372036854775808
      · rw [if_pos h, if_pos (by omega)]
      · rw [if_neg h, if_neg (by simp), if_neg (by omega)]

theorem floorR_eq {N D : Int} (h : rightB N D = true) (hN : N.natAbs ≤ 9223372036854775807) (hD : D ≤ 9223372036854775807) : floorR N D = N / D := by
  obtain ⟨hD0, _, _⟩ := (rightB_iff _ _).1 h
  unfold floorR
  rw [if_pos h]
  obtain ⟨y, hy⟩ : ∃ y, y = D.natAbs := ⟨_, rfl⟩
  obtain ⟨q, hq⟩ : ∃ q, q = N.natAbs / D.natAbs := ⟨_, rfl⟩
  obtain ⟨r, hr⟩ : ∃ r, r = N.natAbs % D.natAbs := ⟨_, rfl⟩
  have hA : N.natAbs = y * q + r := by rw [hq, hr, hy]; exact (Nat.div_add_mod _ _).symm
  have hry : r < y := by rw [hr, hy]; exact Nat.mod_lt _ (by omega)
  have hqle : q ≤ N.natAbs := by rw [hq]; exact Nat.div_le_self _ _
  have hDy : D = (y : Int) := by omega
  have hAi : ((N.natAbs : Nat) : Int) = y * q + r := by rw [hA]; simp
  rw [cutR_ends _ _ _ _ (by rw [← hy]; omega) (by rw [← hq]; omega), ← hq, ← hr]
  have hqr : 0 < r → 1 < y := by omega
  have hq1 : 1 < y → q < 9223372036854775807 := fun h1 => by
    have : 2 * q ≤ y * q := Nat.mul_le_mul_right _ h1
    omega
  unfold ends down
  by_cases hn : N < 0
  · simp only [hn, decide_true, Bool.true_and, true_and]
    by_cases hr0 : 0 < r
    · have := hq1 (hqr hr0)
      simp only [hr0, decide_true, if_true]
      rw [if_pos (by omega)]
      simp only [Int.natCast_add]
      exact (ediv_by (-((y : Int) * q + y)) hD0 (by rw [hDy]; grind) (by omega) (by omega)).symm
    · simp only [hr0, decide_false, Bool.false_eq_true, if_false, Nat.add_zero]
      rw [if_pos (by omega)]
      exact (ediv_by (-((y : Int) * q)) hD0 (by rw [hDy]; grind) (by omega) (by omega)).symm
  · simp only [hn, decide_false, Bool.false_and, Bool.false_eq_true, if_false, false_and, true_and, Nat.add_zero]
    rw [if_pos (by omega)]
    exact (ediv_by ((y : Int) * q) hD0 (by rw [hDy]) (by omega) (by omega)).symm

theorem sg_self (N : Int) : sg (decide (N < 0)) N.natAbs = N := by
  have := sg_natAbs N 1
  rw [Nat.mul_one] at this
  rw [this]; simp

theorem half_le {N D : Int} (hD : 0 < D) (B : Int) (_hB : 0 ≤ B) (h1 : N ≤ B * D) (h2 : -(B * D) ≤ N) : -B ≤ half N D ∧ half N D ≤ B := by
  unfold half
  constructor
  · rw [Int.le_ediv_iff_mul_le (by omega)]
    have : -B * (2 * D) = -(2 * (B * D)) := by grind
    omega
  · have h3 : (2 * N + D) / (2 * D) < B + 1 := by
      rw [Int.ediv_lt_iff_lt_mul (by omega)]
      have : (B + 1) * (2 * D) = 2 * (B * D) + 2 * D := by grind
      omega
    omega

theorem roundR_eq {N D : Int} (h : rightB N D = true) (hN : N.natAbs ≤ 9223372036854775807) : roundR N D = half N D := by
  obtain ⟨hD0, _, _⟩ := (rightB_iff _ _).1 h
  unfold roundR
  rw [if_pos h, cut_half _ _ _ (by omega), sg_self]
  have hDD : ((D.natAbs : Nat) : Int) = D := by omega
  rw [hDD]
  have hb : N.natAbs ≤ 9223372036854775807 * D.natAbs := Nat.le_trans hN (Nat.le_mul_of_pos_right _ (by omega))
  have := half_le hD0 9223372036854775807 (by omega) (N := N) (by omega) (by omega)
  unfold fits
  rw [if_pos (by omega)]

theorem scaleR_eq {n a b : Int} (hb : b ≠ 0) : scaleR n a b = fits (half (if b < 0 then -(n * a) else n * a) (b.natAbs : Int)) := by
  unfold scaleR
  rw [if_neg hb, cut_half _ _ _ (by omega)]
  congr 2
  have h1 : sg (!(decide (n < 0) == decide (a < 0))) (n.natAbs * a.natAbs) = n * a := by
    have f1 := sg_self n
    have f2 := sg_self a
    by_cases hn : n < 0 <;> by_cases ha : a < 0
    all_goals
      simp only [hn, ha, decide_true, decide_false, sg, if_true, if_false, Bool.false_eq_true] at f1 f2
      simp only [hn, ha, decide_true, decide_false, sg, beq_self_eq_true, Bool.not_true, Bool.not_false, Bool.false_eq_true, if_true, if_false, Int.natCast_mul, show (true == false) = false from rfl, show (false == true) = false from rfl]
      grind
  generalize (!(decide (n < 0) == decide (a < 0))) = m at *
  rw [← h1]
  by_cases hneg : b < 0
  · rw [if_pos hneg]
    cases m <;> simp [hneg, sg]
  · rw [if_neg hneg]
    cases m <;> simp [hneg, sg]
end Rat
end Go.Proofs.Ytopdbmfanmlbjaa

/- ratio: the plain mathematics of sum, Add, Cmp. -/
import Derived.Test.YtngeijdfpgmcfaaRatRight
namespace Go.Proofs.Ytngeijdfpgmcfaa
namespace Rat

def sg (m : Bool) (n : Nat) : Int := if m then -(n : Int) else n

theorem pl_num (x y : Nat) (hb : x + y < 340282366920938463463374607431768211456) : pl (x / 18446744073709551616) (x % 18446744073709551616) (y / 18446744073709551616) (y % 18446744073709551616) = ((x + y) / 18446744073709551616, (x + y) % 18446744073709551616) := by
  unfold pl
  refine Prod.ext ?_ ?_ <;> dsimp only <;> omega
theorem mi_num (x y : Nat) (hb : x < 340282366920938463463374607431768211456) (hy : y ≤ x) : mi (x / 18446744073709551616) (x % 18446744073709551616) (y / 18446744073709551616) (y % 18446744073709551616) = ((x - y) / 18446744073709551616, (x - y) % 18446744073709551616) := by
  unfold mi
  refine Prod.ext ?_ ?_ <;> dsimp only
  · split <;> omega
  · omega
theorem lt2_num (x y : Nat) : lt2 (x / 18446744073709551616) (x % 18446744073709551616) (y / 18446744073709551616) (y % 18446744073709551616) = decide (x < y) := by
  unfold lt2
  rw [Bool.eq_iff_iff, decide_eq_true_eq, decide_eq_true_eq]
  omega

theorem sumW_num (x y : Nat) (m m' : Bool) (s : Int) (hs : s = sg m x + sg m' y) (hb : x + y < 340282366920938463463374607431768211456) :
    ∃ f, sumW (x / 18446744073709551616) (x % 18446744073709551616) m (y / 18446744073709551616) (y % 18446744073709551616) m' = ((s.natAbs / 18446744073709551616, s.natAbs % 18446744073709551616), f) ∧ sg f s.natAbs = s := by
  unfold sumW
  rw [lt2_num, pl_num x y hb]
  by_cases hm : m = m'
  · subst hm
    rw [if_pos rfl]
    have : s.natAbs = x + y := by cases m <;> simp only [sg, if_true, if_false, Bool.false_eq_true] at hs <;> omega
    exact ⟨m, by rw [this], by rw [this, hs]; cases m <;> simp [sg]; omega⟩
  · rw [if_neg hm]
    by_cases hlt : x < y
    · rw [if_pos (by simpa using hlt), mi_num y x (by omega) (by omega)]
      have : s.natAbs = y - x := by rw [hs]; cases m <;> cases m' <;> first | exact absurd rfl hm | (simp only [sg, if_true, if_false, Bool.false_eq_true]; omega)
      exact ⟨m', by rw [this], by rw [this, hs]; cases m <;> cases m' <;> first | exact absurd rfl hm | (simp only [sg, if_true, if_false, Bool.false_eq_true]; omega)⟩
    · rw [if_neg (by simpa using hlt), mi_num x y (by omega) (by omega)]
      have : s.natAbs = x - y := by rw [hs]; cases m <;> cases m' <;> first | exact absurd rfl hm | (simp only [sg, if_true, if_false, Bool.false_eq_true]; omega)
      exact ⟨m, by rw [this], by rw [this, hs]; cases m <;> cases m' <;> first | exact absurd rfl hm | (simp only [sg, if_true, if_false, Bool.false_eq_true]; omega)⟩

theorem sg_div {f : Bool} {s : Int} (h : sg f s.natAbs = s) (k : Nat) : sg f (s.natAbs / k) = sg (decide (s < 0)) (s.natAbs / k) := by
  by_cases h0 : s = 0
  · subst h0
    simp [sg]
  · have : f = decide (s < 0) := by
      cases f <;> simp only [sg, if_true, if_false, Bool.false_eq_true] at h
      · symm; rw [decide_eq_false_iff_not]; omega
      · symm; rw [decide_eq_true_eq]; omega
    rw [this]
theorem toldR_sg (m : Bool) (n d : Nat) : toldR m n d = if n ≤ 9223372036854775807 ∧ d ≤ 9223372036854775807 then (sg m n, (d : Int), true) else (0, 0, false) := rfl
theorem toldR_flag {f : Bool} {s : Int} (h : sg f s.natAbs = s) (k d : Nat) : toldR f (s.natAbs / k) d = toldR (decide (s < 0)) (s.natAbs / k) d := by
  rw [toldR_sg, toldR_sg, sg_div h]

/-- What Add tells. -/
def addS (a b c d : Int) : Int := a * ((d.natAbs / Nat.gcd b.natAbs d.natAbs : Nat) : Int) + c * ((b.natAbs / Nat.gcd b.natAbs d.natAbs : Nat) : Int)
def addG (a b c d : Int) : Nat := Nat.gcd ((addS a b c d).natAbs % Nat.gcd b.natAbs d.natAbs) (Nat.gcd b.natAbs d.natAbs)
def addR (a b c d : Int) : Int × Int × Bool :=
  if rightB a b = true ∧ rightB c d = true ∧ (addS a b c d).natAbs / 18446744073709551616 < addG a b c d then
    toldR (decide (addS a b c d < 0)) ((addS a b c d).natAbs / addG a b c d) (b.natAbs / Nat.gcd b.natAbs d.natAbs * (d.natAbs / addG a b c d))
  else (0, 0, false)
theorem sg_natAbs (a : Int) (n : Nat) : sg (decide (a < 0)) (a.natAbs * n) = a * n := by
  by_cases h : a < 0
  · simp only [sg, h, decide_true, if_true]
    rw [Int.natCast_mul, ← Int.neg_mul]
    congr 1; omega
  · simp only [sg, h, decide_false, Bool.false_eq_true, if_false]
    rw [Int.natCast_mul]
    congr 1; omega

def cmpR (a b c d : Int) : Int := if rightB a b = true ∧ rightB c d = true then (a * d - c * b).sign else 0
end Rat
end Go.Proofs.Ytngeijdfpgmcfaa

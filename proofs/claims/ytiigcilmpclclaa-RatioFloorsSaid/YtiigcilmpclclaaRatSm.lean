/- ratio: ratios of bounded numbers; what is told, or not. -/
import Derived.Test.YtiigcilmpclclaaRatShown
namespace Go.Proofs.Ytiigcilmpclclaa
set_option linter.unusedVariables false
namespace Rat
theorem canc {D x y : Int} (hD : 0 < D) (h : x * D = y * D) : x = y := Int.eq_of_mul_eq_mul_right (by omega) h

/-- A ratio of numbers up to A by B. -/
def Sm (N D A B : Int) : Prop := rightB N D = true ∧ 0 < D ∧ -A ≤ N ∧ N ≤ A ∧ D ≤ B
theorem tell_ok {n d : Int} (A B : Int) (hn1 : -A ≤ n) (hn2 : n ≤ A) (hd1 : 0 < d) (hd2 : d ≤ B) (hA : A ≤ 9223372036854775807) (hB : B ≤ 9223372036854775807) :
    ∃ N D, tell n d = (N, D, true) ∧ Sm N D A B ∧ N * d = n * D := by
  have hs : (tell n d).2.2 = true := tell_some (by omega) (by omega)
  obtain ⟨N, D, ht⟩ : ∃ N D, tell n d = (N, D, true) := ⟨(tell n d).1, (tell n d).2.1, by rw [← hs]⟩
  obtain ⟨hr, he, hD, hN, hD2⟩ := tell_told (by omega) ht
  have hl := tell_le (n := n) (d := d)
  rw [ht] at hl
  dsimp only at hl
  exact ⟨N, D, ht, ⟨hr, hD, by omega, by omega, by omega⟩, he⟩
theorem add_ok {a b c d : Int} {A B C E : Int} (X Y : Int) (h : Sm a b A B) (h' : Sm c d C E) (hX : A * E + C * B = X) (hY : B * E = Y) (hA : X ≤ 9223372036854775807) (hB : Y ≤ 9223372036854775807) :
    ∃ N D, addR a b c d = (N, D, true) ∧ Sm N D X Y ∧ N * (b * d) = (a * d + c * b) * D := by
  obtain ⟨r1, p1, l1, u1, e1⟩ := h
  obtain ⟨r2, p2, l2, u2, e2⟩ := h'
  have m1 := mul_bd A E (x := a) (y := d) l1 u1 (by omega) e2
  have m2 := mul_bd C B (x := c) (y := b) l2 u2 (by omega) e1
  have m3 := mul_bd B E (x := b) (y := d) (by omega) e1 (by omega) e2
  have m4 := Int.mul_pos p1 p2
  obtain ⟨N, D, h1, h2, h3⟩ := tell_ok (n := a * d + c * b) (d := b * d) X Y (by omega) (by omega) m4 (by omega) hA hB
  exact ⟨N, D, by rw [addR_tell r1 r2, h1], h2, h3⟩
theorem mul_ok {a b c d : Int} {A B C E : Int} (X Y : Int) (h : Sm a b A B) (h' : Sm c d C E) (hX : A * C = X) (hY : B * E = Y) (hA : X ≤ 9223372036854775807) (hB : Y ≤ 9223372036854775807) :
    ∃ N D, mulR a b c d = (N, D, true) ∧ Sm N D X Y ∧ N * (b * d) = (a * c) * D := by
  obtain ⟨r1, p1, l1, u1, e1⟩ := h
  obtain ⟨r2, p2, l2, u2, e2⟩ := h'
  have m1 := mul_bd A C (x := a) (y := c) l1 u1 l2 u2
  have m3 := mul_bd B E (x := b) (y := d) (by omega) e1 (by omega) e2
  have m4 := Int.mul_pos p1 p2
  obtain ⟨N, D, h1, h2, h3⟩ := tell_ok (n := a * c) (d := b * d) X Y (by omega) (by omega) m4 (by omega) hA hB
  exact ⟨N, D, by rw [mulR_tell r1 r2, h1], h2, h3⟩
theorem sm_unique {N D N' D' A B A' B' n d : Int} (h : Sm N D A B) (h' : Sm N' D' A' B') (hd : 0 < d) (e : N * d = n * D) (e' : N' * d = n * D') : N = N' ∧ D = D' :=
  Is.unique (n := n) (d := d) ⟨h.2.1, ((rightB_iff _ _).1 h.1).2.2, e⟩ ⟨h'.2.1, ((rightB_iff _ _).1 h'.1).2.2, e'⟩ (by omega)
theorem Sm.bd {N D A B : Int} (h : Sm N D A B) (hA : A ≤ 9223372036854775807) (hB : B ≤ 9223372036854775807) : (-9223372036854775808 ≤ N ∧ N ≤ 9223372036854775807) ∧ (-9223372036854775808 ≤ D ∧ D ≤ 9223372036854775807) := by
  obtain ⟨_, _, _, _, _⟩ := h; omega


/-- A ratio that may be, in numbers of 64 bits. -/
def Rt (N D : Int) : Prop := Sm N D 9223372036854775807 9223372036854775807
theorem tell_cases {n d : Int} (hd : d ≠ 0) : (∃ N D, tell n d = (N, D, true) ∧ Rt N D ∧ N * d = n * D) ∨ tell n d = (0, 0, false) := by
  cases hf : (tell n d).2.2 with
  | false => exact .inr (tell_none hf)
  | true =>
    have ht : tell n d = ((tell n d).1, (tell n d).2.1, true) := by rw [← hf]
    obtain ⟨hr, he, hD, hN, hD2⟩ := tell_told hd ht
    exact .inl ⟨_, _, ht, ⟨hr, hD, by omega, by omega, hD2⟩, he⟩
theorem make_cases (n d : Int) : (∃ N D, makeR n d = (N, D, true) ∧ Rt N D ∧ d ≠ 0 ∧ N * d = n * D) ∨ makeR n d = (0, 0, false) := by
  rw [makeR_tell]
  by_cases h : d = 0
  · rw [if_pos h]; exact .inr rfl
  · rw [if_neg h]
    rcases tell_cases (n := n) h with ⟨N, D, h1, h2, h3⟩ | h1
    · exact .inl ⟨N, D, h1, h2, h, h3⟩
    · exact .inr h1
theorem Rt.pos {N D : Int} (h : Rt N D) : 0 < D := h.2.1
theorem Rt.right {N D : Int} (h : Rt N D) : rightB N D = true := h.1
theorem Rt.bN {N D : Int} (h : Rt N D) : -9223372036854775808 ≤ N ∧ N ≤ 9223372036854775807 := (Sm.bd h (Int.le_refl _) (Int.le_refl _)).1
theorem Rt.bD {N D : Int} (h : Rt N D) : -9223372036854775808 ≤ D ∧ D ≤ 9223372036854775807 := (Sm.bd h (Int.le_refl _) (Int.le_refl _)).2
theorem Rt.lo {N D : Int} (h : Rt N D) : -9223372036854775807 ≤ N := h.2.2.1
theorem Rt.abs {N D : Int} (h : Rt N D) : N.natAbs ≤ 9223372036854775807 := by have := h.2.2.1; have := h.2.2.2.1; omega
theorem Rt.leD {N D : Int} (h : Rt N D) : D ≤ 9223372036854775807 := h.2.2.2.2
theorem Rt.cop {N D : Int} (h : Rt N D) : Nat.Coprime N.natAbs D.natAbs := ((rightB_iff _ _).1 h.1).2.2
theorem Rt.of {N D : Int} (h : rightB N D = true) (hN : N ≤ 9223372036854775807) (hN' : -9223372036854775808 ≤ N) (hD : D ≤ 9223372036854775807) : Rt N D := by
  obtain ⟨h1, h2, h3⟩ := (rightB_iff _ _).1 h
  exact ⟨h, h1, by omega, hN, hD⟩
theorem rt_unique {N D N' D' n d : Int} (h : Rt N D) (h' : Rt N' D') (hd : d ≠ 0) (e : N * d = n * D) (e' : N' * d = n * D') : N = N' ∧ D = D' :=
  Is.unique (n := n) (d := d) ⟨h.pos, h.cop, e⟩ ⟨h'.pos, h'.cop, e'⟩ hd
theorem rt_tell {N D n d : Int} (h : Rt N D) (hd : d ≠ 0) (e : N * d = n * D) : tell n d = (N, D, true) := tell_of hd h.right e h.abs h.leD
theorem prod_ne {b d : Int} (hb : 0 < b) (hd : 0 < d) : b * d ≠ 0 := by have := Int.mul_pos hb hd; omega
theorem add_cases {a b c d : Int} (h : Rt a b) (h' : Rt c d) : (∃ N D, addR a b c d = (N, D, true) ∧ Rt N D ∧ N * (b * d) = (a * d + c * b) * D) ∨ addR a b c d = (0, 0, false) := by
  rw [addR_tell h.right h'.right]; exact tell_cases (prod_ne h.pos h'.pos)
theorem mul_cases {a b c d : Int} (h : Rt a b) (h' : Rt c d) : (∃ N D, mulR a b c d = (N, D, true) ∧ Rt N D ∧ N * (b * d) = (a * c) * D) ∨ mulR a b c d = (0, 0, false) := by
  rw [mulR_tell h.right h'.right]; exact tell_cases (prod_ne h.pos h'.pos)
theorem sub_cases {a b c d : Int} (h : Rt a b) (h' : Rt c d) : (∃ N D, subR a b c d = (N, D, true) ∧ Rt N D ∧ N * (b * d) = (a * d - c * b) * D) ∨ subR a b c d = (0, 0, false) := by
  rw [subR_tell h.right h'.right h'.bN.2]; exact tell_cases (prod_ne h.pos h'.pos)
theorem sub_back {a b c d N D : Int} (h : Rt a b) (h' : Rt c d) (hs : Rt N D) (e : N * (b * d) = (a * d + c * b) * D) : subR N D c d = (a, b, true) := by
  rw [subR_tell hs.right h'.right h'.bN.2]
  refine rt_tell h (prod_ne hs.pos h'.pos) ?_
  clear h h' hs
  have e1 : (N * d - c * D) * b = N * (b * d) - c * D * b := by grind
  rw [e1, e]
  grind
theorem div_back {a b c d N D : Int} (h : Rt a b) (h' : Rt c d) (hs : Rt N D) (hc : c ≠ 0) (e : N * (b * d) = (a * c) * D) : divR N D c d = (a, b, true) := by
  rw [divR_tell hs.right h'.right hc h'.leD]
  refine rt_tell h (Int.mul_ne_zero (by have := hs.pos; omega) hc) ?_
  clear h h' hs
  have e1 : N * d * b = N * (b * d) := by grind
  rw [e1, e]
  grind
theorem sub_self {a b : Int} (h : Rt a b) : subR a b a b = (0, 1, true) := by
  rw [subR_tell h.right h.right h.bN.2]
  exact rt_tell ⟨by decide, by omega, by omega, by omega, by omega⟩ (prod_ne h.pos h.pos) (by grind)
theorem div_zero (a b : Int) : divR a b 0 1 = (0, 0, false) := by unfold divR; rw [if_neg (by simp)]
end Rat
end Go.Proofs.Ytiigcilmpclclaa

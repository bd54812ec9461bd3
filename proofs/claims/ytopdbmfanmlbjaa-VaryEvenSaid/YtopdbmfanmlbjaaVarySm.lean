/-
  Ratios of bounded numbers; how high a tent is at a ratio: from 0 to 1. No condition.
-/
import Derived.Test.YtopdbmfanmlbjaaVaryFactor
namespace Go.Proofs.Ytopdbmfanmlbjaa
set_option linter.unusedVariables false
theorem mul_bd (a b : Int) {x y : Int} (h1 : -a ≤ x) (h2 : x ≤ a) (h3 : -b ≤ y) (h4 : y ≤ b) : -(a * b) ≤ x * y ∧ x * y ≤ a * b := by
  have h5 : x.natAbs * y.natAbs ≤ a.natAbs * b.natAbs := Nat.mul_le_mul (by omega) (by omega)
  rw [← Int.natAbs_mul, ← Int.natAbs_mul] at h5
  have h6 : 0 ≤ a * b := Int.mul_nonneg (by omega) (by omega)
  omega
namespace Rat
theorem canc {D x y : Int} (hD : 0 < D) (h : x * D = y * D) : x = y := Int.eq_of_mul_eq_mul_right (by omega) h

/-- A ratio of numbers up to A by B. -/
def Sm (N D A B : Int) : Prop := rightB N D = true ∧ 0 < D ∧ -A ≤ N ∧ N ≤ A ∧ D ≤ B
theorem tell_ok {n d : Int} (A B : Int) (hn1 : -A ≤ n) (hn2 : n ≤ A) (hd1 : 0 < d) (hd2 : d ≤ B) (hA : A ≤ 9223372036854775807) (hB : B ≤ 9223372036854775807) :
    ∃ N D, tell n d = (N, D, true) ∧ Sm N D A B ∧ N * d = n * D := by
  have hs : (tell n d).2.2 = true := tell_some (by omega) (by omega)
  obtain ⟨N, D, ht⟩ : ∃ N D, tell n d = (N, D, true) := ⟨(tell n d).1, (tell n d).2.1, by rw [← hs]⟩
  obtain ⟨hr, he, hD, hN, hD2⟩ := tell_told (by omega) ht
  have hl := tell_le (n := n) (d := d)
  rw [ht] at hl
  dsimp only at hl
  exact ⟨N, D, ht, ⟨hr, hD, by omega, by omega, by omega⟩, he⟩
theorem add_ok {a b c d : Int} {A B C E : Int} (X Y : Int) (h : Sm a b A B) (h' : Sm c d C E) (hX : A * E + C * B = X) (hY : B * E = Y) (hA : X ≤ 9223372036854775807) (hB : Y ≤ 9223372036854775807) :
    ∃ N D, addR a b c d = (N, D, true) ∧ Sm N D X Y ∧ N * (b * d) = (a * d + c * b) * D := by
  obtain ⟨r1, p1, l1, u1, e1⟩ := h
  obtain ⟨r2, p2, l2, u2, e2⟩ := h'
  have m1 := mul_bd A E (x := a) (y := d) l1 u1 (by omega) e2
  have m2 := mul_bd C B (x := c) (y := b) l2 u2 (by omega) e1
  have m3 := mul_bd B E (x := b) (y := d) (by omega) e1 (by omega) e2
  have m4 := Int.mul_pos p1 p2
  obtain ⟨N, D, h1, h2, h3⟩ := tell_ok (n := a * d + c * b) (d := b * d) X Y (by omega) (by omega) m4 (by omega) hA hB
  exact ⟨N, D, by rw [addR_tell r1 r2, h1], h2, h3⟩
theorem mul_ok {a b c d : Int} {A B C E : Int} (X Y : Int) (h : Sm a b A B) (h' : Sm c d C E) (hX : A * C = X) (hY : B * E = Y) (hA : X ≤ 9223372036854775807) (hB : Y ≤ 9223372036854775807) :
    ∃ N D, mulR a b c d = (N, D, true) ∧ Sm N D X Y ∧ N * (b * d) = (a * c) * D := by
  obtain ⟨r1, p1, l1, u1, e1⟩ := h
  obtain ⟨r2, p2, l2, u2, e2⟩ := h'
  have m1 := mul_bd A C (x := a) (y := c) l1 u1 l2 u2
  have m3 := mul_bd B E (x := b) (y := d) (by omega) e1 (by omega) e2
  have m4 := Int.mul_pos p1 p2
  obtain ⟨N, D, h1, h2, h3⟩ := tell_ok (n := a * c) (d := b * d) X Y (by omega) (by omega) m4 (by omega) hA hB
  exact ⟨N, D, by rw [mulR_tell r1 r2, h1], h2, h3⟩
theorem sm_unique {N D N' D' A B A' B' n d : Int} (h : Sm N D A B) (h' : Sm N' D' A' B') (hd : 0 < d) (e : N * d = n * D) (e' : N' * d = n * D') : N = N' ∧ D = D' :=
  Is.unique (n := n) (d := d) ⟨h.2.1, ((rightB_iff _ _).1 h.1).2.2, e⟩ ⟨h'.2.1, ((rightB_iff _ _).1 h'.1).2.2, e'⟩ (by omega)
theorem Sm.bd {N D A B : Int} (h : Sm N D A B) (hA : A ≤ 9223372036854775807) (hB : B ≤ 9223372036854775807) : (-9223372036854775808 ≤ N ∧ N ≤ 9223372036854775807) ∧ (-9223372036854775808 ≤ D ∧ D ≤ 9223372036854775807) := by
  obtain ⟨_, _, _, _, _⟩ := h; omega


/-- A ratio that may be, in numbers of 64 bits. -/
def Rt (N D : Int) : Prop := Sm N D 9223372036854775807 9223372036854775807
theorem tell_cases {n d : Int} (hd : d ≠ 0) : (∃ N D, tell n d = (N, D, true) ∧ Rt N D ∧ N * d = n * D) ∨ tell n d = (0, 0, false) := by
  cases hf : (tell n d).2.2 with
  | false => exact .inr (tell_none hf)
  | true =>
    have ht : tell n d = ((tell n d).1, (tell n d).2.1, true) := by rw [← hf]
    obtain ⟨hr, he, hD, hN, hD2⟩ := tell_told hd ht
    exact .inl ⟨_, _, ht, ⟨hr, hD, by omega, by omega, hD2⟩, he⟩
theorem make_cases (n d : Int) : (∃ N D, makeR n d = (N, D, true) ∧ Rt N D ∧ d ≠ 0 ∧ N * d = n * D) ∨ makeR n d = (0, 0, false) := by
  rw [makeR_tell]
  by_cases h : d = 0
  · rw [if_pos h]; exact .inr rfl
  · rw [if_neg h]
    rcases tell_cases (n := n) h with ⟨N, D, h1, h2, h3⟩ | h1
    · exact .inl ⟨N, D, h1, h2, h, h3⟩
    · exact .inr h1
theorem Rt.pos {N D : Int} (h : Rt N D) : 0 < D := h.2.1
theorem Rt.right {N D : Int} (h : Rt N D) : rightB N D = true := h.1
theorem Rt.bN {N D : Int} (h : Rt N D) : -9223372036854775808 ≤ N ∧ N ≤ 9223372036854775807 := (Sm.bd h (Int.le_refl _) (Int.le_refl _)).1
theorem Rt.bD {N D : Int} (h : Rt N D) : -9223372036854775808 ≤ D ∧ D ≤ 9223372036854775807 := (Sm.bd h (Int.le_refl _) (Int.le_refl _)).2
theorem Rt.lo {N D : Int} (h : Rt N D) : -9223372036854775807 ≤ N := h.2.2.1
theorem Rt.abs {N D : Int} (h : Rt N D) : N.natAbs ≤ 9223372036854775807 := by have := h.2.2.1; have := h.2.2.2.1; omega
theorem Rt.leD {N D : Int} (h : Rt N D) : D ≤ 9223372036854775807 := h.2.2.2.2
theorem Rt.cop {N D : Int} (h : Rt N D) : Nat.Coprime N.natAbs D.natAbs := ((rightB_iff _ _).1 h.1).2.2
theorem Rt.of {N D : Int} (h : rightB N D = true) (hN : N ≤ 9223372036854775807) (hN' : -9223372036854775808 ≤ N) (hD : D ≤ 9223372036854775807) : Rt N D := by
  obtain ⟨h1, h2, h3⟩ := (rightB_iff _ _).1 h
  exact ⟨h, h1, by omega, hN, hD⟩
theorem rt_unique {N D N' D' n d : Int} (h : Rt N D) (h' : Rt N' D') (hd : d ≠ 0) (e : N * d = n * D) (e' : N' * d = n * D') : N = N' ∧ D = D' :=
  Is.unique (n := n) (d := d) ⟨h.pos, h.cop, e⟩ ⟨h'.pos, h'.cop, e'⟩ hd
theorem rt_tell {N D n d : Int} (h : Rt N D) (hd : d ≠ 0) (e : N * d = n * D) : tell n d = (N, D, true) := tell_of hd h.right e h.abs h.leD
theorem prod_ne {b d : Int} (hb : 0 < b) (hd : 0 < d) : b * d ≠ 0 := by have := Int.mul_pos hb hd; omega
theorem add_cases {a b c d : Int} (h : Rt a b) (h' : Rt c d) : (∃ N D, addR a b c d = (N, D, true) ∧ Rt N D ∧ N * (b * d) = (a * d + c * b) * D) ∨ addR a b c d = (0, 0, false) := by
  rw [addR_tell h.right h'.right]; exact tell_cases (prod_ne h.pos h'.pos)
theorem mul_cases {a b c d : Int} (h : Rt a b) (h' : Rt c d) : (∃ N D, mulR a b c d = (N, D, true) ∧ Rt N D ∧ N * (b * d) = (a * c) * D) ∨ mulR a b c d = (0, 0, false) := by
  rw [mulR_tell h.right h'.right]; exact tell_cases (prod_ne h.pos h'.pos)
theorem sub_cases {a b c d : Int} (h : Rt a b) (h' : Rt c d) : (∃ N D, subR a b c d = (N, D, true) ∧ Rt N D ∧ N * (b * d) = (a * d - c * b) * D) ∨ subR a b c d = (0, 0, false) := by
  rw [subR_tell h.right h'.right h'.bN.2]; exact tell_cases (prod_ne h.pos h'.pos)
theorem sub_back {a b c d N D : Int} (h : Rt a b) (h' : Rt c d) (hs : Rt N D) (e : N * (b * d) = (a * d + c * b) * D) : subR N D c d = (a, b, true) := by
  rw [subR_tell hs.right h'.right h'.bN.2]
  refine rt_tell h (prod_ne hs.pos h'.pos) ?_
  clear h h' hs
  have e1 : (N * d - c * D) * b = N * (b * d) - c * D * b := by grind
  rw [e1, e]
  grind
theorem div_back {a b c d N D : Int} (h : Rt a b) (h' : Rt c d) (hs : Rt N D) (hc : c ≠ 0) (e : N * (b * d) = (a * c) * D) : divR N D c d = (a, b, true) := by
  rw [divR_tell hs.right h'.right hc h'.leD]
  refine rt_tell h (Int.mul_ne_zero (by have := hs.pos; omega) hc) ?_
  clear h h' hs
  have e1 : N * d * b = N * (b * d) := by grind
  rw [e1, e]
  grind
theorem sub_self {a b : Int} (h : Rt a b) : subR a b a b = (0, 1, true) := by
  rw [subR_tell h.right h.right h.bN.2]
  exact rt_tell ⟨by decide, by omega, by omega, by omega, by omega⟩ (prod_ne h.pos h.pos) (by grind)
theorem div_zero (a b : Int) : divR a b 0 1 = (0, 0, false) := by unfold divR; rw [if_neg (by simp)]

theorem sub_ok {a b c d : Int} {A B C E : Int} (X Y : Int) (h : Sm a b A B) (h' : Sm c d C E) (hX : A * E + C * B = X) (hY : B * E = Y) (hC : C ≤ 9223372036854775807) (hA : X ≤ 9223372036854775807) (hB : Y ≤ 9223372036854775807) :
    ∃ N D, subR a b c d = (N, D, true) ∧ Sm N D X Y ∧ N * (b * d) = (a * d - c * b) * D := by
  obtain ⟨r1, p1, l1, u1, e1⟩ := h
  obtain ⟨r2, p2, l2, u2, e2⟩ := h'
  have m1 := mul_bd A E (x := a) (y := d) l1 u1 (by omega) e2
  have m2 := mul_bd C B (x := c) (y := b) l2 u2 (by omega) e1
  have m3 := mul_bd B E (x := b) (y := d) (by omega) e1 (by omega) e2
  have m4 := Int.mul_pos p1 p2
  obtain ⟨N, D, h1, h2, h3⟩ := tell_ok (n := a * d - c * b) (d := b * d) X Y (by omega) (by omega) m4 (by omega) hA hB
  exact ⟨N, D, by rw [subR_tell r1 r2 (by omega), h1], h2, h3⟩

/-- Which sign a product with a number above 0 has. -/
theorem pos_of_mul {x k : Int} (hk : 0 < k) (h : 0 < x * k) : 0 < x := by
  by_cases hx : 0 < x
  · exact hx
  · have := Int.mul_nonneg (show 0 ≤ -x by omega) (show 0 ≤ k by omega)
    rw [Int.neg_mul] at this
    omega
theorem le_of_mul {x y k : Int} (hk : 0 < k) (h : x * k ≤ y * k) : x ≤ y := Int.le_of_mul_le_mul_right h hk

/-- A quotient of two ratios above 0, the first not above the second. -/
theorem quot_ok {A B A' B' X Y X' Y' : Int} (h : Sm A B X Y) (h' : Sm A' B' X' Y') (hA : 0 < A) (hA' : 0 < A') (hle : A * B' ≤ A' * B) (b1 : X * Y' ≤ 9223372036854775807) (b2 : Y * X' ≤ 9223372036854775807) (b3 : Y' ≤ 9223372036854775807) :
    ∃ u : Int × Int, Vr.quot (A, B, true) (A', B', true) = some u ∧ Rt u.1 u.2 ∧ 0 ≤ u.1 ∧ u.1 ≤ u.2 := by
  obtain ⟨r1, p1, l1, u1, e1⟩ := h
  obtain ⟨r2, p2, l2, u2, e2⟩ := h'
  have m1 := mul_bd X Y' (x := A) (y := B') l1 u1 (by omega) e2
  have m2 := mul_bd Y X' (x := B) (y := A') (by omega) e1 l2 u2
  have m4 := Int.mul_pos p1 hA'
  have m5 := Int.mul_pos hA p2
  obtain ⟨N, D, h1, h2, h3⟩ := tell_ok (n := A * B') (d := B * A') 9223372036854775807 9223372036854775807 (by omega) (by omega) m4 (by omega) (by omega) (by omega)
  have hd : divR A B A' B' = (N, D, true) := by rw [divR_tell r1 r2 (by omega) (by omega), h1]
  refine ⟨(N, D), ?_, h2, ?_, ?_⟩
  · unfold Vr.quot
    simp only [hd]
    rfl
  · have h5 : 0 < N * (B * A') := by rw [h3]; exact Int.mul_pos m5 h2.2.1
    have := pos_of_mul m4 h5
    omega
  · refine le_of_mul m4 ?_
    rw [h3]
    have hl : A * B' ≤ B * A' := by rw [Int.mul_comm B A']; exact hle
    have := Int.mul_le_mul_of_nonneg_right hl (show 0 ≤ D by have := h2.2.1; omega)
    rw [Int.mul_comm D]
    exact this

/-- A ratio held against a number's part of 64. -/
theorem cmp64 {N D c d v : Int} (h : rightB N D = true) (h' : rightB c d = true) (hd : 0 < d) (e : c * 64 = v * d) : cmpR N D c d = (64 * N - v * D).sign := by
  unfold cmpR
  rw [if_pos ⟨h, h'⟩]
  have e1 : (N * d - c * D) * 64 = (64 * N - v * D) * d := by
    have : c * D * 64 = c * 64 * D := by grind
    have : (N * d - c * D) * 64 = N * d * 64 - c * D * 64 := by grind
    grind
  have h1 : ((N * d - c * D) * 64).sign = (N * d - c * D).sign := by rw [Int.sign_mul, show Int.sign 64 = 1 from rfl, Int.mul_one]
  have h2 : ((64 * N - v * D) * d).sign = (64 * N - v * D).sign := by rw [Int.sign_mul, Int.sign_eq_one_of_pos hd, Int.mul_one]
  rw [← h1, e1, h2]

theorem ring1 (N D sn sd pn pd : Int) : (N * sd - sn * D) * pd - (pn * sd - sn * pd) * D = sd * (N * pd - pn * D) := by grind
theorem ring2 (en ed N D pn pd : Int) : (en * D - N * ed) * pd - (en * pd - pn * ed) * D = ed * (pn * D - N * pd) := by grind
theorem ring3 (A B' k l : Int) : A * B' * (k * l) = A * k * (B' * l) := by grind

/-- Quotients of differences: from what they are. -/
theorem diff_le {A B A' B' u v k l : Int} (hB : 0 < B) (hB' : 0 < B') (hk : 0 < k) (hl : 0 < l) (e : A * k = u * B) (e' : A' * l = v * B') (h : u * l ≤ v * k) : A * B' ≤ A' * B := by
  refine le_of_mul (Int.mul_pos hk hl) ?_
  have e1 : A * B' * (k * l) = u * l * (B * B') := by
    have : A * B' * (k * l) = A * k * (B' * l) := by grind
    rw [this, e]; grind
  have e2 : A' * B * (k * l) = v * k * (B * B') := by
    have : A' * B * (k * l) = A' * l * (B * k) := by grind
    rw [this, e']; grind
  rw [e1, e2]
  exact Int.mul_le_mul_of_nonneg_right h (Int.le_of_lt (Int.mul_pos hB hB'))
theorem diff_pos {A B u k : Int} (hB : 0 < B) (hk : 0 < k) (e : A * k = u * B) (h : 0 < u) : 0 < A := pos_of_mul hk (by rw [e]; exact Int.mul_pos h hB)

theorem by64_ok (v : Int) (h : -64 ≤ v ∧ v ≤ 64) : Sm (Vr.by64 v).1 (Vr.by64 v).2 64 64 ∧ (Vr.by64 v).1 * 64 = v * (Vr.by64 v).2 := by
  obtain ⟨N, D, h1, h2, h3⟩ := tell_ok (n := v) (d := 64) 64 64 (by omega) (by omega) (by omega) (by omega) (by omega) (by omega)
  unfold Vr.by64
  rw [h1]
  exact ⟨h2, h3⟩

theorem sgn64 {a c D : Int} (hD : 0 < D) : 0 < 64 * a - c * D → 0 < a * 64 - c * D := fun h => by omega

/-- A tent's height at a ratio: it is told, and lies from 0 to 1. -/
theorem under_within (s p e N D : Int) (h1 : -64 ≤ s) (h2 : s ≤ p) (h3 : p ≤ e) (h4 : e ≤ 64) (hx : Sm N D 16384 32768) :
    ∃ u : Int × Int, Vr.underR s p e N D = some u ∧ Rt u.1 u.2 ∧ 0 ≤ u.1 ∧ u.1 ≤ u.2 := by
  obtain ⟨bs, es⟩ := by64_ok s (by omega)
  obtain ⟨bp, ep⟩ := by64_ok p (by omega)
  obtain ⟨be, ee⟩ := by64_ok e (by omega)
  have cs := cmp64 hx.1 bs.1 bs.2.1 es
  have cp := cmp64 hx.1 bp.1 bp.2.1 ep
  have ce := cmp64 hx.1 be.1 be.2.1 ee
  have hD := hx.2.1
  unfold Vr.underR
  generalize Vr.by64 s = S at *
  generalize Vr.by64 p = Q at *
  generalize Vr.by64 e = F at *
  obtain ⟨sn, sd⟩ := S
  obtain ⟨pn, pd⟩ := Q
  obtain ⟨en, ed⟩ := F
  simp only at *
  rw [cs, cp, ce]
  split
  · exact ⟨(1, 1), rfl, ⟨by decide, by omega, by omega, by omega, by omega⟩, by omega, by omega⟩
  · rename_i c1
    split
    · exact ⟨(0, 1), rfl, ⟨by decide, by omega, by omega, by omega, by omega⟩, by omega, by omega⟩
    · rename_i c2
      have q1 : 0 < 64 * N - s * D := by
        by_cases hh : 0 < 64 * N - s * D
        · exact hh
        · exact absurd (.inl (by have := Int.sign_nonneg_iff (x := -(64 * N - s * D)); rw [Int.sign_neg] at this; omega)) c2
      have q2 : 64 * N - e * D < 0 := by
        by_cases hh : 64 * N - e * D < 0
        · exact hh
        · exact absurd (.inr (Int.sign_nonneg_iff.2 (by omega))) c2
      have key : ∀ {a b c d v : Int}, 0 < b → 0 < d → c * 64 = v * d → ((a * d - c * b) * 64 = (64 * a - v * b) * d) := by
        intro a b c d v _ _ e1
        have : c * b * 64 = c * 64 * b := by grind
        grind
      split
      · rename_i c3
        have q3 : 64 * N - p * D < 0 := Int.sign_neg_iff.1 c3
        have hsp : 0 < p - s := by
          refine pos_of_mul hD ?_
          have : (p - s) * D = p * D - s * D := Int.sub_mul ..
          omega
        obtain ⟨A, B, a1, a2, a3⟩ := sub_ok 3145728 2097152 hx bs rfl rfl (by omega) (by omega) (by omega)
        obtain ⟨A', B', b1, b2, b3⟩ := sub_ok 8192 4096 bp bs rfl rfl (by omega) (by omega) (by omega)
        rw [a1, b1]
        have kx := key (a := N) hD bs.2.1 es
        have kp : (pn * sd - sn * pd) * 64 = (p - s) * (pd * sd) := by
          have : sn * pd * 64 = sn * 64 * pd := by grind
          have : pn * sd * 64 = pn * 64 * sd := by grind
          grind
        have kq := key (a := N) hD bp.2.1 ep
        have u1 : 0 < N * sd - sn * D := pos_of_mul (k := 64) (by omega) (by rw [kx]; exact Int.mul_pos q1 bs.2.1)
        have u2 : 0 < pn * sd - sn * pd := pos_of_mul (k := 64) (by omega) (by rw [kp]; exact Int.mul_pos hsp (Int.mul_pos bp.2.1 bs.2.1))
        have u3 : N * pd - pn * D ≤ 0 := by
          refine le_of_mul (k := 64) (by omega) ?_
          rw [kq, Int.zero_mul]
          have := Int.mul_pos (show 0 < -(64 * N - p * D) by omega) bp.2.1
          rw [Int.neg_mul] at this
          omega
        refine quot_ok a2 b2 (diff_pos a2.2.1 (Int.mul_pos hD bs.2.1) a3 u1) (diff_pos b2.2.1 (Int.mul_pos bp.2.1 bs.2.1) b3 u2) (diff_le a2.2.1 b2.2.1 (Int.mul_pos hD bs.2.1) (Int.mul_pos bp.2.1 bs.2.1) a3 b3 ?_) (by omega) (by omega) (by omega)
        have r1 := ring1 N D sn sd pn pd
        have r2 : sd * (N * pd - pn * D) ≤ 0 := by
          have := Int.mul_nonneg (show 0 ≤ sd by have := bs.2.1; omega) (show 0 ≤ -(N * pd - pn * D) by omega)
          rw [Int.mul_neg] at this
          omega
        have r3 : (N * sd - sn * D) * pd ≤ (pn * sd - sn * pd) * D := by omega
        have := Int.mul_le_mul_of_nonneg_right r3 (show 0 ≤ sd by have := bs.2.1; omega)
        have z1 : (N * sd - sn * D) * (pd * sd) = (N * sd - sn * D) * pd * sd := by grind
        have z2 : (pn * sd - sn * pd) * (D * sd) = (pn * sd - sn * pd) * D * sd := by grind
        rw [z1, z2]
        exact this
      · rename_i c3
        have q3 : 0 < 64 * N - p * D := by
          by_cases hh : 0 < 64 * N - p * D
          · exact hh
          · have h5 : ¬ (64 * N - p * D < 0) := fun h => c3 (Int.sign_neg_iff.2 h)
            have h6 : 64 * N - p * D = 0 := by omega
            exact absurd (.inr (by rw [h6]; rfl)) c1
        have hpe : 0 < e - p := by
          refine pos_of_mul hD ?_
          have : (e - p) * D = e * D - p * D := Int.sub_mul ..
          omega
        obtain ⟨A, B, a1, a2, a3⟩ := sub_ok 3145728 2097152 be hx rfl rfl (by omega) (by omega) (by omega)
        obtain ⟨A', B', b1, b2, b3⟩ := sub_ok 8192 4096 be bp rfl rfl (by omega) (by omega) (by omega)
        rw [a1, b1]
        have kx := key (a := N) hD be.2.1 ee
        have kp : (en * pd - pn * ed) * 64 = (e - p) * (ed * pd) := by
          have : pn * ed * 64 = pn * 64 * ed := by grind
          have : en * pd * 64 = en * 64 * pd := by grind
          grind
        have kq := key (a := N) hD bp.2.1 ep
        have u1 : 0 < en * D - N * ed := by
          refine pos_of_mul (k := 64) (by omega) ?_
          have : (en * D - N * ed) * 64 = -((N * ed - en * D) * 64) := by grind
          rw [this, kx]
          have := Int.mul_pos (show 0 < -(64 * N - e * D) by omega) be.2.1
          rw [Int.neg_mul] at this
          exact this
        have u2 : 0 < en * pd - pn * ed := pos_of_mul (k := 64) (by omega) (by rw [kp]; exact Int.mul_pos hpe (Int.mul_pos be.2.1 bp.2.1))
        have u3 : 0 < N * pd - pn * D := pos_of_mul (k := 64) (by omega) (by rw [kq]; exact Int.mul_pos q3 bp.2.1)
        refine quot_ok a2 b2 (diff_pos a2.2.1 (Int.mul_pos be.2.1 hD) a3 u1) (diff_pos b2.2.1 (Int.mul_pos be.2.1 bp.2.1) b3 u2) (diff_le a2.2.1 b2.2.1 (Int.mul_pos be.2.1 hD) (Int.mul_pos be.2.1 bp.2.1) a3 b3 ?_) (by omega) (by omega) (by omega)
        have r1 := ring2 en ed N D pn pd
        have r2 : ed * (pn * D - N * pd) ≤ 0 := by
          have := Int.mul_nonneg (show 0 ≤ ed by have := be.2.1; omega) (show 0 ≤ -(pn * D - N * pd) by omega)
          rw [Int.mul_neg] at this
          omega
        have r3 : (en * D - N * ed) * pd ≤ (en * pd - pn * ed) * D := by omega
        have := Int.mul_le_mul_of_nonneg_right r3 (show 0 ≤ ed by have := be.2.1; omega)
        have z1 : (en * D - N * ed) * (ed * pd) = (en * D - N * ed) * pd * ed := by grind
        have z2 : (en * pd - pn * ed) * (ed * D) = (en * pd - pn * ed) * D * ed := by grind
        rw [z1, z2]
        exact this

/-- At the peak. -/
theorem under_peak (s p e : Int) (hp : -64 ≤ p ∧ p ≤ 64) : Vr.underR s p e (Vr.by64 p).1 (Vr.by64 p).2 = some (1, 1) := by
  obtain ⟨bp, ep⟩ := by64_ok p hp
  unfold Vr.underR
  rw [if_pos]
  refine .inr ?_
  rw [cmp64 bp.1 bp.1 bp.2.1 ep]
  have : 64 * (Vr.by64 p).1 - p * (Vr.by64 p).2 = 0 := by omega
  rw [this]; rfl
/-- At the end. -/
theorem under_end (s p e : Int) (h3 : p ≤ e) (hp : -64 ≤ p) (h4 : e ≤ 64) (h0 : p ≠ 0) (hne : e ≠ p) : Vr.underR s p e (Vr.by64 e).1 (Vr.by64 e).2 = some (0, 1) := by
  obtain ⟨bp, ep⟩ := by64_ok p (by omega)
  obtain ⟨be, ee⟩ := by64_ok e (by omega)
  have hE := be.2.1
  unfold Vr.underR
  rw [if_neg, if_pos]
  · refine .inr ?_
    rw [cmp64 be.1 be.1 be.2.1 ee]
    have : 64 * (Vr.by64 e).1 - e * (Vr.by64 e).2 = 0 := by omega
    rw [this]; simp
  · intro h
    rcases h with h | h
    · exact h0 h
    · rw [cmp64 be.1 bp.1 bp.2.1 ep, Int.sign_eq_zero_iff_zero] at h
      have h5 : (e - p) * (Vr.by64 e).2 = 0 := by
        have : (e - p) * (Vr.by64 e).2 = e * (Vr.by64 e).2 - p * (Vr.by64 e).2 := Int.sub_mul ..
        omega
      rcases Int.mul_eq_zero.1 h5 with h6 | h6 <;> omega
/-- One tent's factor. -/
theorem prod_one {s p e N D : Int} {u : Int × Int} (h : Vr.underR s p e N D = some u) (hu : Rt u.1 u.2) : Vr.prodR [(s, p, e)] [(N, D)] (1, 1) = some u := by
  have h1 : mulR 1 1 u.1 u.2 = (u.1, u.2, true) := by
    rw [mulR_tell (by decide) hu.right]
    exact rt_tell hu (by have := hu.pos; omega) (by grind)
  simp only [Vr.prodR, h, h1, if_true]
end Rat
end Go.Proofs.Ytopdbmfanmlbjaa

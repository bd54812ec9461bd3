/-
  CheckLimits, its fourth thing (rules): the answers that are known are so. No condition.
-/
import Derived.Test.YtnknlhjghpgbcaaGreatLimTab
import Derived.Test.YtnknlhjghpgbcaaGreatLimRule
import Derived.Test.YtnknlhjghpgbcaaGreatLimAwake
namespace Go.Proofs.YtnknlhjghpgbcaaGreat
open Go.RowKit Ev
set_option linter.unusedVariables false

theorem RL.two {V : Val} {σ : Sg} {a b : Value} {l : List Value} (h : RL σ [a, b] l) : ∃ a' b', l = [a', b'] ∧ VR σ a a' ∧ VR σ b b' := by
  cases h with
  | cons h1 t => cases t with
    | cons h2 t => cases t; exact ⟨_, _, rfl, h1, h2⟩
theorem RL.six {V : Val} {σ : Sg} {a b c d e f : Value} {l : List Value} (h : RL σ [a, b, c, d, e, f] l) : ∃ a' b' c' d' e' f', l = [a', b', c', d', e', f'] ∧ VR σ a a' ∧ VR σ b b' ∧ VR σ c c' ∧ VR σ d d' := by
  cases h with
  | cons h1 t => cases t with
    | cons h2 t => cases t with
      | cons h3 t => cases t with
        | cons h4 t => cases t with
          | cons h5 t => cases t with
            | cons h6 t => cases t; exact ⟨_, _, _, _, _, _, rfl, h1, h2, h3, h4⟩
theorem RL.nine {V : Val} {σ : Sg} {a b c d e f g h i : Value} {l : List Value} (q : RL σ [a, b, c, d, e, f, g, h, i] l) : ∃ a' b' c' d' e' f' g' h' i', l = [a', b', c', d', e', f', g', h', i'] ∧ VR σ b b' := by
  cases q with
  | cons h1 t => cases t with
    | cons h2 t => cases t with
      | cons h3 t => cases t with
        | cons h4 t => cases t with
          | cons h5 t => cases t with
            | cons h6 t => cases t with
              | cons h7 t => cases t with
                | cons h8 t => cases t with
                  | cons h9 t => cases t; exact ⟨_, _, _, _, _, _, _, _, _, rfl, h2⟩

theorem limOkT (a b r1 : Int) (ha : -9223372036854775808 ≤ a ∧ a ≤ 9223372036854775807) (hb : -9223372036854775808 ≤ b ∧ b ≤ 9223372036854775807) (h6 : a % 6 = 3) (h5 : b % 5 = r1) : @OrcOk (numbers [a, b]) Tryz.prog (limOT r1) := by
  letI V : Val := numbers [a, b]
  refine @OrcOk.mk V Tryz.prog (limOT r1) (fun h => by cases h) ?_
  intro f args h v hh σ w args' hr hal0
  have hh' : limCallT r1 f args = some v := hh
  have hal : RL σ args args'.toList := hal0
  have arr : ∀ {l : List Value}, args'.toList = l → args' = ⟨l⟩ := fun hl => Array.ext' hl
  unfold limCallT at hh'
  cases h1 : Nat.beq f 46 with
  | true =>
    rw [h1] at hh'
    rw [Nat.eq_of_beq_eq_true h1]
    simp only [cond_true] at hh'
    unfold whenT at hh'
    split at hh'
    · rename_i x
      cases hh'
      obtain ⟨a', b', e1, q1, q2⟩ := RL.two hal
      cases q1
      cases q2
      rw [arr e1]
      exact (when_no x w).mono fun e w' ⟨k1, k2⟩ => ⟨_, k1, .int _ _, by subst k2; exact .refl _ _⟩
    · cases hh'
  | false =>
  rw [h1] at hh'
  simp only [cond_false] at hh'
  cases h2 : Nat.beq f 56 with
  | true =>
    rw [h2] at hh'
    rw [Nat.eq_of_beq_eq_true h2]
    simp only [cond_true] at hh'
    unfold isGlyphT at hh'
    split at hh'
    · rename_i fs n
      split at hh'
      · rename_i hfs
        obtain ⟨hlt, hh'⟩ := cond_some hh'
        cases hh'
        have hlt := Nat.le_of_ble_eq_true hlt
        obtain ⟨a', b', e1, q1, q2⟩ := RL.two hal
        cases q2
        cases q1 with
        | agg qa =>
          rw [hfs] at qa
          obtain ⟨x0, x1, x2, x3, x4, x5, x6, x7, x8, e2, qs⟩ := RL.nine qa
          obtain ⟨ga', gc', rfl⟩ := slice_len qs
          rw [arr e1]
          have ef := Array.ext' (ys := ⟨_⟩) e2
          rw [ef]
          exact (isGlyph_yes _ _ _ _ _ _ _ _ ga' _ gc' (Int.ofNat n) w (by simp) (by simp only [Int.ofNat_eq_natCast]; omega)).mono fun e w' ⟨k1, k2⟩ => ⟨_, k1, .bool _, k2.to_below⟩
      · cases hh'
    · cases hh'
  | false =>
  rw [h2] at hh'
  simp only [cond_false] at hh'
  cases h3 : Nat.beq f 109 with
  | true =>
    rw [h3] at hh'
    rw [Nat.eq_of_beq_eq_true h3]
    simp only [cond_true] at hh'
    unfold rowsT at hh'
    split at hh'
    · rename_i fs
      split at hh'
      · rename_i n1 _ _ n2 _ _ n3 _ _ _ _ hfs
        obtain ⟨hlt, hh'⟩ := cond_some hh'
        cases hh'
        simp only [Bool.and_eq_true] at hlt
        obtain ⟨a', b', e1, q1, q2⟩ := RL.two hal
        cases q1
        cases q2 with
        | agg qa =>
          rw [hfs] at qa
          obtain ⟨x0, x1, x2, x3, x4, x5, e2, s1, s2, s3, s4⟩ := RL.six qa
          obtain ⟨g1, d1, rfl⟩ := slice_len s1
          obtain ⟨g2, d2, rfl⟩ := slice_len s2
          obtain ⟨g3, d3, rfl⟩ := slice_len s3
          rw [arr e1]
          have ef := Array.ext' (ys := ⟨_⟩) e2
          rw [ef, Nat.eq_of_beq_eq_true hlt.1.1, Nat.eq_of_beq_eq_true hlt.1.2, Nat.eq_of_beq_eq_true hlt.2]
          exact (rows_lig g1 g2 g3 d1 d2 d3 x3 x4 x5 w).mono fun e w' ⟨k1, k2⟩ => ⟨_, k1, .int _ _, k2.to_below⟩
      · cases hh'
    · cases hh'
  | false =>
  rw [h3] at hh'
  simp only [cond_false] at hh'
  cases h4 : Nat.beq f 116 with
  | true =>
    rw [h4] at hh'
    rw [Nat.eq_of_beq_eq_true h4]
    simp only [cond_true] at hh'
    unfold rightT at hh'
    split at hh'
    · rename_i fs
      split at hh'
      · rename_i hfs
        obtain ⟨hlt, hh'⟩ := cond_some hh'
        cases hh'
        obtain ⟨a', b', e1, q1, q2⟩ := RL.two hal
        cases q1
        cases q2 with
        | agg qa =>
          rw [hfs] at qa
          obtain ⟨x0, x1, x2, x3, x4, x5, e2, s1, s2, s3, s4⟩ := RL.six qa
          obtain ⟨g1, d1, rfl⟩ := slice_len s4
          rw [arr e1]
          have ef := Array.ext' (ys := ⟨_⟩) e2
          rw [ef, Nat.eq_of_beq_eq_true hlt]
          exact (rightOut_lig g1 d1 x0 x1 x2 x4 x5 w).mono fun e w' ⟨k1, k2⟩ => ⟨_, k1, .bool _, k2.to_below⟩
      · cases hh'
    · cases hh'
  | false =>
  rw [h4] at hh'
  simp only [cond_false] at hh'
  cases h7 : Nat.beq f 5 with
  | true =>
    rw [h7] at hh'
    rw [Nat.eq_of_beq_eq_true h7]
    simp only [cond_true] at hh'
    unfold awakeT at hh'
    split at hh'
    · cases hh'
      generalize hl : args'.toList = al at hal
      cases hal
      rw [arr hl]
      exact (awake_true w).mono fun e w' ⟨k1, k2⟩ => ⟨_, k1, .bool _, k2⟩
    · cases hh'
  | false =>
  rw [h7] at hh'
  simp only [cond_false] at hh'
  obtain ⟨h8, hh'⟩ := cond_some hh'
  rw [Nat.eq_of_beq_eq_true h8]
  unfold restT at hh'
  split at hh'
  · rename_i i n _
    obtain ⟨a', b', e1, q1, q2⟩ := RL.two hal
    cases q1
    cases q2
    rw [arr e1]
    cases hc : (Nat.beq i 1 && Nat.beq n 5) with
    | true =>
      rw [hc] at hh'
      cases hh'
      rw [Bool.and_eq_true] at hc
      obtain rfl := Nat.eq_of_beq_eq_true hc.1
      obtain rfl := Nat.eq_of_beq_eq_true hc.2
      exact (rest_any b 5 w hb (by omega)).mono fun e w' ⟨k1, k2⟩ => ⟨_, k1, by rw [h5]; exact .int _ _, by subst k2; exact .refl _ _⟩
    | false =>
      rw [hc] at hh'
      simp only [cond_false] at hh'
      obtain ⟨hc2, hh'⟩ := cond_some hh'
      cases hh'
      rw [Bool.and_eq_true] at hc2
      obtain rfl := Nat.eq_of_beq_eq_true hc2.1
      obtain rfl := Nat.eq_of_beq_eq_true hc2.2
      exact (rest_any a 6 w ha (by omega)).mono fun e w' ⟨k1, k2⟩ => ⟨_, k1, by rw [h6]; exact .int _ _, by subst k2; exact .refl _ _⟩
  · cases hh'

theorem allTrueT_some {r : Option (List OutS)} (h : allTrueT r = true) : ∃ l, r = some l ∧ (l.all fun o => match o.out with | .ret u => veq 6 u (.bool true) | _ => false) = true := by
  cases r with
  | none => cases h
  | some l => exact ⟨l, rfl, h⟩
theorem limT_some {r1 : Int} (h : limAtT r1 = true) : ∃ l, @Ev.start Tryz.prog (limOT r1) 4 ⟨[.chan (some 1), .chan (some 2)]⟩ 10000000 = some l ∧ (l.all fun o => match o.out with | .ret u => veq 6 u (.bool true) | _ => false) = true := by
  unfold limAtT at h
  exact allTrueT_some h
end Go.Proofs.YtnknlhjghpgbcaaGreat

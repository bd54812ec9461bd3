/- ratio: what is told is THE ratio: uniqueness; Make, Mul, Add, Sub, Div in terms of it; whole numbers. -/
import Derived.Test.YtngeijdfpgmcfaaRatMore
namespace Go.Proofs.Ytngeijdfpgmcfaa
namespace Rat

/-- N by D is the ratio n by d, in its least numbers. -/
def Is (N D n d : Int) : Prop := 0 < D ∧ Nat.Coprime N.natAbs D.natAbs ∧ N * d = n * D
def tell (n d : Int) : Int × Int × Bool := toldR (decide (n < 0) != decide (d < 0)) (n.natAbs / Nat.gcd n.natAbs d.natAbs) (d.natAbs / Nat.gcd n.natAbs d.natAbs)

theorem makeR_tell (n d : Int) : makeR n d = if d = 0 then (0, 0, false) else tell n d := rfl

theorem natAbs_sg (m : Bool) (p : Nat) : (sg m p).natAbs = p := by cases m <;> simp [sg]

theorem cross_unique {N D N' D' : Int} (hD : 0 < D) (hD' : 0 < D') (hc : Nat.Coprime N.natAbs D.natAbs) (hc' : Nat.Coprime N'.natAbs D'.natAbs) (h : N * D' = N' * D) : N = N' ∧ D = D' := by
  have h1 : N.natAbs * D'.natAbs = N'.natAbs * D.natAbs := by rw [← Int.natAbs_mul, ← Int.natAbs_mul, h]
  have d1 : D.natAbs ∣ D'.natAbs := hc.symm.dvd_of_dvd_mul_left ⟨N'.natAbs, by rw [h1, Nat.mul_comm]⟩
  have d2 : D'.natAbs ∣ D.natAbs := hc'.symm.dvd_of_dvd_mul_left ⟨N.natAbs, by rw [← h1, Nat.mul_comm]⟩
  have h2 : D = D' := by have := Nat.dvd_antisymm d1 d2; omega
  subst h2
  exact ⟨Int.eq_of_mul_eq_mul_right (by omega) h, rfl⟩

theorem Is.cross {N D N' D' n d : Int} (h : Is N D n d) (h' : Is N' D' n d) (hd : d ≠ 0) : N * D' = N' * D := by
  obtain ⟨_, _, h1⟩ := h
  obtain ⟨_, _, h2⟩ := h'
  refine Int.eq_of_mul_eq_mul_right hd ?_
  grind
theorem Is.unique {N D N' D' n d : Int} (h : Is N D n d) (h' : Is N' D' n d) (hd : d ≠ 0) : N = N' ∧ D = D' :=
  cross_unique h.1 h'.1 h.2.1 h'.2.1 (h.cross h' hd)

theorem tell_is (n d : Int) (hd : d ≠ 0) :
    Is (sg (decide (n < 0) != decide (d < 0)) (n.natAbs / Nat.gcd n.natAbs d.natAbs)) ((d.natAbs / Nat.gcd n.natAbs d.natAbs : Nat) : Int) n d := by
  have hg : 0 < Nat.gcd n.natAbs d.natAbs := Nat.gcd_pos_of_pos_right _ (by omega)
  have hle : Nat.gcd n.natAbs d.natAbs ≤ d.natAbs := Nat.gcd_le_right _ (by omega)
  obtain ⟨p, hp⟩ := Nat.gcd_dvd_left n.natAbs d.natAbs
  obtain ⟨q, hq⟩ := Nat.gcd_dvd_right n.natAbs d.natAbs
  have hc := Nat.coprime_div_gcd_div_gcd hg
  refine ⟨by have := Nat.div_pos hle hg; omega, by rw [natAbs_sg]; exact hc, ?_⟩
  generalize Nat.gcd n.natAbs d.natAbs = g at *
  have e1 : n.natAbs / g = p := by rw [hp]; exact Nat.mul_div_cancel_left _ hg
  have e2 : d.natAbs / g = q := by rw [hq]; exact Nat.mul_div_cancel_left _ hg
  rw [e1, e2]
  by_cases hn : n < 0 <;> by_cases hd' : d < 0
  · have f1 : n = -((g : Int) * p) := by rw [← Int.natCast_mul, ← hp]; omega
    have f2 : d = -((g : Int) * q) := by rw [← Int.natCast_mul, ← hq]; omega
    simp only [sg, hn, hd', decide_true, bne_self_eq_false, Bool.false_eq_true, if_false]
    grind
  · have f1 : n = -((g : Int) * p) := by rw [← Int.natCast_mul, ← hp]; omega
    have f2 : d = (g : Int) * q := by rw [← Int.natCast_mul, ← hq]; omega
    simp only [sg, hn, hd', decide_true, decide_false, Bool.true_bne, Bool.not_false, if_true]
    grind
  · have f1 : n = (g : Int) * p := by rw [← Int.natCast_mul, ← hp]; omega
    have f2 : d = -((g : Int) * q) := by rw [← Int.natCast_mul, ← hq]; omega
    simp only [sg, hn, hd', decide_true, decide_false, Bool.false_bne, if_true]
    grind
  · have f1 : n = (g : Int) * p := by rw [← Int.natCast_mul, ← hp]; omega
    have f2 : d = (g : Int) * q := by rw [← Int.natCast_mul, ← hq]; omega
    simp only [sg, hn, hd', decide_false, bne_self_eq_false, Bool.false_eq_true, if_false]
    grind

/-- Whatever least numbers are found of the ratio: told of them is what is told. -/
theorem toldR_tell {m : Bool} {p q : Nat} {n d : Int} (h : Is (sg m p) (q : Int) n d) (hd : d ≠ 0) : toldR m p q = tell n d := by
  have h' := tell_is n d hd
  obtain ⟨e1, e2⟩ := h.unique h' hd
  have e3 : p = n.natAbs / Nat.gcd n.natAbs d.natAbs := by have := congrArg Int.natAbs e1; rwa [natAbs_sg, natAbs_sg] at this
  have e4 : q = d.natAbs / Nat.gcd n.natAbs d.natAbs := by omega
  unfold tell
  rw [toldR_sg, toldR_sg, ← e1, ← e3, ← e4]
theorem tell_if {N D n d : Int} (h : Is N D n d) (hd : d ≠ 0) : tell n d = if N.natAbs ≤ 9223372036854775807 ∧ D.natAbs ≤ 9223372036854775807 then (N, D, true) else (0, 0, false) := by
  obtain ⟨e1, e2⟩ := h.unique (tell_is n d hd) hd
  unfold tell
  rw [toldR_sg, ← e1, ← e2]
  have e3 : n.natAbs / Nat.gcd n.natAbs d.natAbs = N.natAbs := by rw [e1, natAbs_sg]
  have e4 : d.natAbs / Nat.gcd n.natAbs d.natAbs = D.natAbs := by rw [e2]; exact (Int.natAbs_natCast _).symm
  rw [e3, e4]
theorem tell_same {n d n' d' : Int} (hd : d ≠ 0) (hd' : d' ≠ 0) (h : n * d' = n' * d) : tell n d = tell n' d' := by
  have h1 := tell_is n d hd
  have h2 := tell_is n' d' hd'
  have h3 : Is (sg (decide (n < 0) != decide (d < 0)) (n.natAbs / Nat.gcd n.natAbs d.natAbs)) ((d.natAbs / Nat.gcd n.natAbs d.natAbs : Nat) : Int) n' d' := by
    refine ⟨h1.1, h1.2.1, ?_⟩
    have := h1.2.2
    refine Int.eq_of_mul_eq_mul_right hd ?_
    grind
  rw [tell_if h1 hd, tell_if h3 hd']

theorem rightB_iff (N D : Int) : rightB N D = true ↔ 0 < D ∧ N ≠ -9223372036854775808 ∧ Nat.Coprime N.natAbs D.natAbs := by
  unfold rightB; rw [decide_eq_true_eq]

/-- What is told may be, and is the ratio. -/
theorem tell_told {n d N D : Int} (hd : d ≠ 0) (h : tell n d = (N, D, true)) : rightB N D = true ∧ N * d = n * D ∧ 0 < D ∧ N.natAbs ≤ 9223372036854775807 ∧ D ≤ 9223372036854775807 := by
  have hi := tell_is n d hd
  rw [tell_if hi hd] at h
  split at h
  · rename_i hb
    simp only [Prod.mk.injEq, and_true] at h
    rw [h.1, h.2] at hi hb
    exact ⟨(rightB_iff _ _).2 ⟨hi.1, by omega, hi.2.1⟩, hi.2.2, hi.1, hb.1, by have := hi.1; omega⟩
  · simp at h
theorem tell_of {n d N D : Int} (hd : d ≠ 0) (hr : rightB N D = true) (h : N * d = n * D) (hN : N.natAbs ≤ 9223372036854775807) (hD : D ≤ 9223372036854775807) : tell n d = (N, D, true) := by
  obtain ⟨h1, h2, h3⟩ := (rightB_iff _ _).1 hr
  rw [tell_if ⟨h1, h3, h⟩ hd, if_pos ⟨hN, by omega⟩]
theorem tell_none {n d : Int} (h : (tell n d).2.2 = false) : tell n d = (0, 0, false) := by
  unfold tell at *
  rw [toldR_sg] at *
  split at h
  · simp at h
  · rename_i hb; rw [if_neg hb]
theorem tell_some {n d : Int} (hn : n.natAbs ≤ 9223372036854775807) (hd : d.natAbs ≤ 9223372036854775807) : (tell n d).2.2 = true := by
  unfold tell
  rw [toldR_sg, if_pos ⟨Nat.le_trans (Nat.div_le_self _ _) hn, Nat.le_trans (Nat.div_le_self _ _) hd⟩]
theorem tell_le {n d : Int} : (tell n d).1.natAbs ≤ n.natAbs ∧ (tell n d).2.1.natAbs ≤ d.natAbs := by
  unfold tell
  rw [toldR_sg]
  split
  · simp only [natAbs_sg, Int.natAbs_natCast]
    exact ⟨Nat.div_le_self _ _, Nat.div_le_self _ _⟩
  · simp

theorem mulR_tell {a b c d : Int} (h : rightB a b = true) (h' : rightB c d = true) : mulR a b c d = tell (a * c) (b * d) := by
  obtain ⟨hb, _, hab⟩ := (rightB_iff _ _).1 h
  obtain ⟨hd, _, hcd⟩ := (rightB_iff _ _).1 h'
  unfold mulR
  rw [if_pos ⟨h, h'⟩]
  have hf : 0 < Nat.gcd a.natAbs d.natAbs := Nat.gcd_pos_of_pos_right _ (by omega)
  have hs : 0 < Nat.gcd c.natAbs b.natAbs := Nat.gcd_pos_of_pos_right _ (by omega)
  have cf := Nat.coprime_div_gcd_div_gcd hf
  have cs := Nat.coprime_div_gcd_div_gcd hs
  obtain ⟨a', ha'⟩ := Nat.gcd_dvd_left a.natAbs d.natAbs
  obtain ⟨d', hd'⟩ := Nat.gcd_dvd_right a.natAbs d.natAbs
  obtain ⟨c', hc'⟩ := Nat.gcd_dvd_left c.natAbs b.natAbs
  obtain ⟨b', hb'⟩ := Nat.gcd_dvd_right c.natAbs b.natAbs
  generalize Nat.gcd a.natAbs d.natAbs = f at *
  generalize Nat.gcd c.natAbs b.natAbs = s at *
  have ea : a.natAbs / f = a' := by rw [ha']; exact Nat.mul_div_cancel_left _ hf
  have ed : d.natAbs / f = d' := by rw [hd']; exact Nat.mul_div_cancel_left _ hf
  have ec : c.natAbs / s = c' := by rw [hc']; exact Nat.mul_div_cancel_left _ hs
  have eb : b.natAbs / s = b' := by rw [hb']; exact Nat.mul_div_cancel_left _ hs
  rw [ea, ed] at cf
  rw [ec, eb] at cs
  rw [ea, eb, ec, ed]
  have cab : Nat.Coprime a' b' := (hab.coprime_dvd_left ⟨f, by rw [ha', Nat.mul_comm]⟩).coprime_dvd_right ⟨s, by rw [hb', Nat.mul_comm]⟩
  have ccd : Nat.Coprime c' d' := (hcd.coprime_dvd_left ⟨s, by rw [hc', Nat.mul_comm]⟩).coprime_dvd_right ⟨f, by rw [hd', Nat.mul_comm]⟩
  have hb0 : b = (s : Int) * b' := by rw [← Int.natCast_mul, ← hb']; omega
  have hd0 : d = (f : Int) * d' := by rw [← Int.natCast_mul, ← hd']; omega
  have hb1 : 0 < b' := by rcases Nat.eq_zero_or_pos b' with h0 | h0; (rw [h0] at hb0; simp at hb0; omega); exact h0
  have hd1 : 0 < d' := by rcases Nat.eq_zero_or_pos d' with h0 | h0; (rw [h0] at hd0; simp at hd0; omega); exact h0
  refine toldR_tell ⟨by have := Nat.mul_pos hb1 hd1; omega, ?_, ?_⟩ (by have := Int.mul_pos hb hd; omega)
  · rw [natAbs_sg, Int.natAbs_natCast]
    exact ((cab.mul_right cf).mul_left (cs.mul_right ccd))
  · have key : ∀ (x : Int) (k m : Nat), x.natAbs = k * m → x = (if x < 0 then -((k : Int) * m) else (k : Int) * m) := fun x k m hx => by
      rw [← Int.natCast_mul, ← hx]; split <;> omega
    have fa := key a f a' ha'
    have fc := key c s c' hc'
    rw [Int.natCast_mul]
    by_cases h1 : a < 0 <;> by_cases h2 : c < 0
    all_goals
      simp only [h1, h2, if_true, if_false] at fa fc
      simp only [sg, h1, h2, decide_true, decide_false, beq_self_eq_true, Bool.not_true, Bool.not_false, Bool.false_eq_true, if_true, if_false, Int.natCast_mul, show (true == false) = false from rfl, show (false == true) = false from rfl]
      grind

theorem cop_sum {k a c b d : Nat} {S : Int} {x y : Int} (hx : x.natAbs = a * d) (hy : y.natAbs = c * b) (hS : S = x + y) (hk : k ∣ S.natAbs) (hkb : k ∣ b) (ha : Nat.Coprime k a) (hd : Nat.Coprime k d) : k = 1 := by
  have h1 : (k : Int) ∣ S := Int.ofNat_dvd_left.2 hk
  have h2 : (k : Int) ∣ y := Int.ofNat_dvd_left.2 (by rw [hy]; exact Nat.dvd_trans hkb ⟨c, Nat.mul_comm _ _⟩)
  have h3 : (k : Int) ∣ x := by
    have := Int.dvd_sub h1 h2
    rwa [hS, Int.add_sub_cancel] at this
  have h4 : k ∣ a * d := by rw [← hx]; exact Int.ofNat_dvd_left.1 h3
  exact (ha.mul_right hd).eq_one_of_dvd h4

theorem addR_tell {a b c d : Int} (h : rightB a b = true) (h' : rightB c d = true) : addR a b c d = tell (a * d + c * b) (b * d) := by
  obtain ⟨hb, _, hab⟩ := (rightB_iff _ _).1 h
  obtain ⟨hd, _, hcd⟩ := (rightB_iff _ _).1 h'
  have hbd : b * d ≠ 0 := by have := Int.mul_pos hb hd; omega
  have hg : 0 < Nat.gcd b.natAbs d.natAbs := Nat.gcd_pos_of_pos_right _ (by omega)
  have cg := Nat.coprime_div_gcd_div_gcd hg
  obtain ⟨b', hb'⟩ := Nat.gcd_dvd_left b.natAbs d.natAbs
  obtain ⟨d', hd'⟩ := Nat.gcd_dvd_right b.natAbs d.natAbs
  have hS : addS a b c d = a * ((d.natAbs / Nat.gcd b.natAbs d.natAbs : Nat) : Int) + c * ((b.natAbs / Nat.gcd b.natAbs d.natAbs : Nat) : Int) := rfl
  have hG : addG a b c d = Nat.gcd (addS a b c d).natAbs (Nat.gcd b.natAbs d.natAbs) := by
    unfold addG; rw [← Nat.gcd_rec, Nat.gcd_comm]
  have hR : addR a b c d = if (addS a b c d).natAbs / 18446744073709551616 < addG a b c d then toldR (decide (addS a b c d < 0)) ((addS a b c d).natAbs / addG a b c d) (b.natAbs / Nat.gcd b.natAbs d.natAbs * (d.natAbs / addG a b c d)) else (0, 0, false) := by
    unfold addR; simp only [h, h', true_and]
  rw [hR]
  clear hR
  generalize addG a b c d = sh at *
  generalize addS a b c d = S at *
  generalize Nat.gcd b.natAbs d.natAbs = g at *
  have eb : b.natAbs / g = b' := by rw [hb']; exact Nat.mul_div_cancel_left _ hg
  have ed : d.natAbs / g = d' := by rw [hd']; exact Nat.mul_div_cancel_left _ hg
  rw [eb, ed] at hS cg
  rw [eb]
  have hs0 : 0 < sh := by rw [hG]; exact Nat.gcd_pos_of_pos_right _ hg
  have csg : Nat.Coprime (S.natAbs / sh) (g / sh) := by rw [hG]; exact Nat.coprime_div_gcd_div_gcd (by rw [← hG]; exact hs0)
  obtain ⟨s', hs'⟩ : sh ∣ S.natAbs := by rw [hG]; exact Nat.gcd_dvd_left _ _
  obtain ⟨g', hg'⟩ : sh ∣ g := by rw [hG]; exact Nat.gcd_dvd_right _ _
  have es : S.natAbs / sh = s' := by rw [hs']; exact Nat.mul_div_cancel_left _ hs0
  have eg : g / sh = g' := by rw [hg']; exact Nat.mul_div_cancel_left _ hs0
  have ed2 : d.natAbs / sh = g' * d' := by rw [hd', hg', Nat.mul_assoc]; exact Nat.mul_div_cancel_left _ hs0
  rw [es, eg] at csg
  rw [es, ed2]
  have hxa : (a * (d' : Int)).natAbs = a.natAbs * d' := by rw [Int.natAbs_mul, Int.natAbs_natCast]
  have hxc : (c * (b' : Int)).natAbs = c.natAbs * b' := by rw [Int.natAbs_mul, Int.natAbs_natCast]
  have hb0 : b = (g : Int) * b' := by rw [← Int.natCast_mul, ← hb']; omega
  have hd0 : d = (g : Int) * d' := by rw [← Int.natCast_mul, ← hd']; omega
  have hb1 : 0 < b' := by rcases Nat.eq_zero_or_pos b' with h0 | h0; (rw [h0] at hb0; simp at hb0; omega); exact h0
  have hd1 : 0 < d' := by rcases Nat.eq_zero_or_pos d' with h0 | h0; (rw [h0] at hd0; simp at hd0; omega); exact h0
  have hg1 : 0 < g' := by rcases Nat.eq_zero_or_pos g' with h0 | h0; (rw [h0] at hg'; omega); exact h0
  have hbb : b' ∣ b.natAbs := ⟨g, by rw [hb', Nat.mul_comm]⟩
  have hdd : d' ∣ d.natAbs := ⟨g, by rw [hd', Nat.mul_comm]⟩
  have csb : Nat.Coprime s' b' := by
    refine cop_sum (k := Nat.gcd s' b') hxa hxc hS ?_ (Nat.gcd_dvd_right _ _) ?_ ?_
    · exact Nat.dvd_trans (Nat.gcd_dvd_left _ _) ⟨sh, by rw [hs', Nat.mul_comm]⟩
    · exact (hab.coprime_dvd_right (Nat.dvd_trans (Nat.gcd_dvd_right s' b') hbb)).symm
    · exact cg.coprime_dvd_left (Nat.gcd_dvd_right _ _)
  have csd : Nat.Coprime s' d' := by
    refine cop_sum (k := Nat.gcd s' d') (S := S) hxc hxa (by rw [hS, Int.add_comm]) ?_ (Nat.gcd_dvd_right _ _) ?_ ?_
    · exact Nat.dvd_trans (Nat.gcd_dvd_left _ _) ⟨sh, by rw [hs', Nat.mul_comm]⟩
    · exact (hcd.coprime_dvd_right (Nat.dvd_trans (Nat.gcd_dvd_right s' d') hdd)).symm
    · exact cg.symm.coprime_dvd_left (Nat.gcd_dvd_right _ _)
  have hI : Is (sg (decide (S < 0)) s') ((b' * (g' * d') : Nat) : Int) (a * d + c * b) (b * d) := by
    refine ⟨by have := Nat.mul_pos hb1 (Nat.mul_pos hg1 hd1); omega, ?_, ?_⟩
    · rw [natAbs_sg, Int.natAbs_natCast]
      exact csb.mul_right (csg.mul_right csd)
    · have hs2 : S = (sh : Int) * sg (decide (S < 0)) s' := by
        by_cases hneg : S < 0
        · simp only [hneg, decide_true, sg, if_true]
          have : (S.natAbs : Int) = sh * s' := by rw [hs', Int.natCast_mul]
          grind
        · simp only [hneg, decide_false, sg, Bool.false_eq_true, if_false]
          have : (S.natAbs : Int) = sh * s' := by rw [hs', Int.natCast_mul]
          grind
      have hg2 : (g : Int) = sh * g' := by rw [hg', Int.natCast_mul]
      generalize sg (decide (S < 0)) s' = t at *
      simp only [Int.natCast_mul]
      rw [hb0, hd0, hg2]
      have : a * (d' : Int) + c * b' = sh * t := by rw [← hS]; exact hs2
      grind
  split
  · exact toldR_tell hI hbd
  · rename_i hge
    rw [tell_if hI hbd, if_neg]
    rw [natAbs_sg]
    have h1 : sh ≤ S.natAbs / 18446744073709551616 := by omega
    have h2 : sh * 18446744073709551616 ≤ S.natAbs := by rw [Nat.le_div_iff_mul_le (by omega)] at h1; exact h1
    have h3 : 18446744073709551616 ≤ s' := by rw [hs'] at h2; exact Nat.le_of_mul_le_mul_left h2 hs0
    omega
theorem rightB_neg {c d : Int} (h : rightB c d = true) (hc : c ≤ 9223372036854775807) : rightB (-c) d = true := by
  obtain ⟨h1, h2, h3⟩ := (rightB_iff _ _).1 h
  exact (rightB_iff _ _).2 ⟨h1, by omega, by rw [Int.natAbs_neg]; exact h3⟩
theorem subR_tell {a b c d : Int} (h : rightB a b = true) (h' : rightB c d = true) (hc : c ≤ 9223372036854775807) : subR a b c d = tell (a * d - c * b) (b * d) := by
  unfold subR
  rw [if_pos h', addR_tell h (rightB_neg h' hc), Int.neg_mul, Int.sub_eq_add_neg]
theorem divR_tell {a b c d : Int} (h : rightB a b = true) (h' : rightB c d = true) (h0 : c ≠ 0) (hd : d ≤ 9223372036854775807) : divR a b c d = tell (a * d) (b * c) := by
  obtain ⟨h1, h2, h3⟩ := (rightB_iff _ _).1 h'
  obtain ⟨k1, _, _⟩ := (rightB_iff _ _).1 h
  unfold divR
  rw [if_pos ⟨h', h0⟩]
  split
  · rw [mulR_tell h ((rightB_iff _ _).2 ⟨by omega, by omega, by rw [Int.natAbs_neg, Int.natAbs_neg]; exact h3.symm⟩)]
    refine tell_same ?_ ?_ (by grind)
    · exact Int.mul_ne_zero (by omega) (by omega)
    · exact Int.mul_ne_zero (by omega) (by omega)
  · rw [mulR_tell h ((rightB_iff _ _).2 ⟨by omega, by omega, h3.symm⟩)]
end Rat
end Go.Proofs.Ytngeijdfpgmcfaa

/-
  VaryEven: it returns true, whatever the numbers; by the evaluator, with tables of answers. Printed by gen_even.py. No condition.
-/
import Derived.Test.YtopdbmfanmlbjaaVarySm
import Derived.Test.YtopdbmfanmlbjaaVaried
import Derived.Test.YtopdbmfanmlbjaaSymKit
import Derived.Test.YtopdbmfanmlbjaaRatWhole
import Derived.KernelRfl
namespace Go.Proofs.Ytopdbmfanmlbjaa
open Go.RowKit Ev
set_option linter.unusedVariables false
set_option maxRecDepth 100000

def evenArgs : List Value := [sy 0, sy 1, sy 2]
def evenBad (bins : List (BinOp × Value × Value × Value)) : Tab := ⟨bins, [(9, [], .bool true)]⟩
def evenBad0 : List (BinOp × Value × Value × Value) := [(.lss, sy 0, i64 1, .bool true)]
theorem evenBad0_ev : allTrue (@Ev.start Try.prog ((evenBad evenBad0).orc _) 5 ⟨evenArgs⟩ 100000) = true := by kernel_rfl
def evenBad1 : List (BinOp × Value × Value × Value) := [(.lss, sy 0, i64 1, .bool false), (.gtr, sy 0, i64 16000, .bool true)]
theorem evenBad1_ev : allTrue (@Ev.start Try.prog ((evenBad evenBad1).orc _) 5 ⟨evenArgs⟩ 100000) = true := by kernel_rfl
def evenBad2 : List (BinOp × Value × Value × Value) := [(.lss, sy 0, i64 1, .bool false), (.gtr, sy 0, i64 16000, .bool false), (.lss, sy 1, i64 0, .bool true)]
theorem evenBad2_ev : allTrue (@Ev.start Try.prog ((evenBad evenBad2).orc _) 5 ⟨evenArgs⟩ 100000) = true := by kernel_rfl
def evenBad3 : List (BinOp × Value × Value × Value) := [(.lss, sy 0, i64 1, .bool false), (.gtr, sy 0, i64 16000, .bool false), (.lss, sy 1, i64 0, .bool false), (.gtr, sy 1, sy 0, .bool true)]
theorem evenBad3_ev : allTrue (@Ev.start Try.prog ((evenBad evenBad3).orc _) 5 ⟨evenArgs⟩ 100000) = true := by kernel_rfl
def evenBad4 : List (BinOp × Value × Value × Value) := [(.lss, sy 0, i64 1, .bool false), (.gtr, sy 0, i64 16000, .bool false), (.lss, sy 1, i64 0, .bool false), (.gtr, sy 1, sy 0, .bool false), (.lss, sy 2, i64 (-8000), .bool true)]
theorem evenBad4_ev : allTrue (@Ev.start Try.prog ((evenBad evenBad4).orc _) 5 ⟨evenArgs⟩ 100000) = true := by kernel_rfl
def evenBad5 : List (BinOp × Value × Value × Value) := [(.lss, sy 0, i64 1, .bool false), (.gtr, sy 0, i64 16000, .bool false), (.lss, sy 1, i64 0, .bool false), (.gtr, sy 1, sy 0, .bool false), (.lss, sy 2, i64 (-8000), .bool false), (.gtr, sy 2, i64 8000, .bool true)]
theorem evenBad5_ev : allTrue (@Ev.start Try.prog ((evenBad evenBad5).orc _) 5 ⟨evenArgs⟩ 100000) = true := by kernel_rfl
def evenBase : List (BinOp × Value × Value × Value) := [(.lss, sy 0, i64 1, .bool false), (.gtr, sy 0, i64 16000, .bool false), (.lss, sy 1, i64 0, .bool false), (.gtr, sy 1, sy 0, .bool false), (.lss, sy 2, i64 (-8000), .bool false), (.gtr, sy 2, i64 8000, .bool false), (.sub, i64 0, sy 2, sy 3), (.gtr, i64 0, sy 0, .bool false), (.gtr, sy 0, i64 16384, .bool false)]
def evenZero : Tab := ⟨(.gtr, sy 1, i64 0, .bool false) :: evenBase, [(11, [sy 2, i64 1], okV (.agg #[sy 2, i64 1])), (11, [sy 3, i64 1], okV (.agg #[sy 3, i64 1])), (29, [.agg #[sy 2, i64 1], rc 0 1], okV (rc 0 1)), (29, [.agg #[sy 3, i64 1], rc 0 1], okV (rc 0 1)),
  (16, [sy 2, sy 1, sy 0], okV (i64 0)), (16, [sy 3, sy 1, sy 0], okV (i64 0)), (9, [], .bool true)]⟩
theorem evenZero_ev : allTrue (@Ev.start Try.prog (evenZero.orc _) 5 ⟨evenArgs⟩ 100000) = true := by kernel_rfl
def evenElse : Tab := ⟨[(.gtr, sy 1, i64 0, .bool true), (.sub, sy 1, i64 0, sy 1), (.sub, sy 0, i64 0, sy 0), (.eql, sy 10, sy 10, .bool true), (.eql, sy 11, sy 11, .bool true)] ++ evenBase,
  [(11, [sy 1, sy 0], okV (rt 4)), (27, [rt 4, rc 0 1], okV (rt 4)), (30, [.agg #[i64 0, i64 64, i64 64], rt 4], rt 4), (29, [rc 1 1, rt 4], okV (rt 4)), (11, [sy 2, i64 1], okV (.agg #[sy 2, i64 1])), (11, [sy 3, i64 1], okV (.agg #[sy 3, i64 1])),
    (29, [.agg #[sy 2, i64 1], rt 4], okV (rt 6)), (29, [.agg #[sy 3, i64 1], rt 4], okV (rt 8)), (27, [rc 0 1, rt 6], okV (rt 6)), (27, [rc 0 1, rt 8], okV (rt 8)), (54, [rt 6], sy 10), (54, [rt 8], sy 11),
    (55, [i64 0, sy 10, i64 (-16384)], sy 10), (55, [i64 0, sy 11, i64 (-16384)], sy 11), (16, [sy 2, sy 1, sy 0], okV (sy 10)), (16, [sy 3, sy 1, sy 0], okV (sy 11)), (9, [], .bool true)]⟩
theorem evenElse_ev : allTrue (@Ev.start Try.prog (evenElse.orc _) 5 ⟨evenArgs⟩ 100000) = true := by kernel_rfl

theorem bin_sub {V : Val} {a b c : Value} {m m' r : Int} (ha : pureV 3 a = true) (hb : pureV 3 b = true) (hc : pureV 3 c = true) (h1 : den 3 a = .int .i64 m) (h2 : den 3 b = .int .i64 m') (h3 : den 3 c = .int .i64 r) (h : m - m' = r) (hr : -9223372036854775808 ≤ r ∧ r ≤ 9223372036854775807) : BinOk (.sub, a, b, c) := by
  refine ⟨ha, hb, hc, .i64, m, m', h1, h2, ?_⟩
  show some (Value.int .i64 (wrapF .i64 (m - m'))) = some (den 3 c)
  rw [h3, h, wrapF_eq, IntWalk.i64_in _ hr]
theorem call_varied' (V : Val) : @CallOk V Try.prog (9, [], .bool true) := ⟨rfl, rfl, fun w => varied_true w⟩

namespace Rat
theorem half_spec {s y : Int} (hy : 0 < y) : 2 * y * half s y ≤ 2 * s + y ∧ 2 * s + y < 2 * y * half s y + 2 * y := by
  unfold half
  have h1 := Int.mul_ediv_self_le (x := 2 * s + y) (k := 2 * y) (by omega)
  have h2 := Int.lt_mul_ediv_self_add (x := 2 * s + y) (k := 2 * y) (by omega)
  exact ⟨h1, h2⟩
theorem half_same {N D M b : Int} (hD : 0 < D) (hb : 0 < b) (h : N * b = M * D) : half N D = half M b := by
  obtain ⟨h1, h2⟩ := half_spec (s := N) hD
  symm
  unfold half
  refine ediv_of (by omega) ?_ ?_
  · refine Int.le_of_mul_le_mul_left (a := D) ?_ hD
    have := Int.mul_le_mul_of_nonneg_left h1 (Int.le_of_lt hb)
    change D * (2 * b * half N D) ≤ _
    grind
  · refine Int.lt_of_mul_lt_mul_left (a := D) ?_ (Int.le_of_lt hD)
    have := Int.mul_lt_mul_of_pos_left h2 hb
    change _ < D * (2 * b * half N D + 2 * b)
    grind
theorem one_right : rightB 1 1 = true := by decide
theorem whole_right (n : Int) (h : -9223372036854775807 ≤ n ∧ n ≤ 9223372036854775807) : Rt n 1 := ⟨(rightB_iff _ _).2 ⟨by omega, by omega, Nat.coprime_one_right _⟩, by omega, by omega, by omega, by omega⟩
theorem make_one (n : Int) (h : -9223372036854775807 ≤ n ∧ n ≤ 9223372036854775807) : makeR n 1 = (n, 1, true) := by
  rw [makeR_tell, if_neg (by omega)]
  exact rt_tell (whole_right n h) (by omega) rfl
theorem zero_add' {N D : Int} (h : Rt N D) : addR 0 1 N D = (N, D, true) := by
  rw [addR_tell (by decide) h.right]
  exact rt_tell h (by have := h.pos; omega) (by grind)
theorem one_mul' {N D : Int} (h : Rt N D) : mulR 1 1 N D = (N, D, true) := by
  rw [mulR_tell (by decide) h.right]
  exact rt_tell h (by have := h.pos; omega) (by grind)
/-- A number by at by far: its product with the ratio, rounded, is what is scaled. -/
theorem even_one (b a far xn xd : Int) (hb : -8000 ≤ b ∧ b ≤ 8000) (ha : 0 ≤ a ∧ a ≤ far) (hf : 1 ≤ far ∧ far ≤ 16000) (hx : Rt xn xd) (hxe : xn * far = a * xd) :
    ∃ N D X : Int, mulR b 1 xn xd = (N, D, true) ∧ Rt N D ∧ roundR N D = X ∧ scaleR b a far = (X, true) ∧ -8000 ≤ X ∧ X ≤ 8000 := by
  have b1 := mul_bd 8000 16000 (x := b) (y := a) (by omega) (by omega) (by omega) (by omega)
  have hs : (tell (b * a) far).2.2 = true := tell_some (by omega) (by omega)
  obtain ⟨N, D, ht⟩ : ∃ N D, tell (b * a) far = (N, D, true) := ⟨(tell (b * a) far).1, (tell (b * a) far).2.1, by rw [← hs]⟩
  obtain ⟨hr, he, hD, hN, hD2⟩ := tell_told (by omega) ht
  have hrt : Rt N D := ⟨hr, hD, by omega, by omega, hD2⟩
  have hbf : b * a ≤ 8000 * far ∧ -(8000 * far) ≤ b * a := by
    have := mul_bd 8000 far (x := b) (y := a) (by omega) (by omega) (by omega) (by omega)
    omega
  have hh := half_le (N := b * a) (D := far) (by omega) 8000 (by omega) hbf.1 hbf.2
  have h1 : half N D = half (b * a) far := half_same hD (by omega) he
  refine ⟨N, D, half (b * a) far, ?_, hrt, ?_, ?_, hh.1, hh.2⟩
  · rw [mulR_tell (whole_right b (by omega)).right hx.right, ← ht]
    have hxd := hx.pos
    refine tell_same (by omega) (by omega) ?_
    have : b * xn * far = b * (xn * far) := by grind
    rw [this, hxe]
    grind
  · rw [roundR_eq hr hN, h1]
  · rw [scaleR_eq (by omega), if_neg (by omega), show ((far.natAbs : Nat) : Int) = far by omega]
    unfold fits
    rw [if_pos (by omega)]
/-- The tent from 0 to 64, greatest at 64, is as high as the ratio. -/
theorem under_even (xn xd : Int) (hx : Rt xn xd) (h0 : 0 < xn) (h1 : xn ≤ xd) : Vr.underR 0 64 64 xn xd = some (xn, xd) := by
  have e0 : Vr.by64 0 = (0, 1) := by decide
  have e1 : Vr.by64 64 = (1, 1) := by decide
  have hp := hx.pos
  have c1 : cmpR xn xd 1 1 = (xn - xd).sign := by
    unfold cmpR
    rw [if_pos ⟨hx.right, one_right⟩, show xn * 1 - 1 * xd = xn - xd by omega]
  have c0 : cmpR xn xd 0 1 = xn.sign := by
    unfold cmpR
    rw [if_pos ⟨hx.right, by decide⟩, show xn * 1 - 0 * xd = xn by omega]
  unfold Vr.underR
  rw [e0, e1]
  simp only
  rw [c1, c0]
  by_cases hs : xn = xd
  · rw [if_pos (.inr (by rw [hs, Int.sub_self]; rfl))]
    have hc := hx.cop
    rw [hs] at hc
    have h1' : xd.natAbs = 1 := by simpa [Nat.Coprime] using hc
    have h2' : xd = 1 := by omega
    rw [hs, h2']
  · have hlt : xn - xd < 0 := by omega
    have sg1 : (xn - xd).sign = -1 := Int.sign_eq_neg_one_of_neg hlt
    have sg0 : xn.sign = 1 := Int.sign_eq_one_of_pos h0
    rw [sg1, sg0, if_neg (by omega), if_neg (by omega), if_pos (by omega)]
    have q1 : subR xn xd 0 1 = (xn, xd, true) := by
      rw [subR_tell hx.right (by decide) (by omega)]
      exact rt_tell hx (by omega) (by grind)
    have q2 : subR 1 1 0 1 = (1, 1, true) := by decide
    have q3 : divR xn xd 1 1 = (xn, xd, true) := by
      rw [divR_tell hx.right one_right (by omega) (by omega)]
      exact rt_tell hx (by omega) (by grind)
    rw [q1, q2]
    unfold Vr.quot
    simp only [q3]
    rfl
end Rat

theorem even_bad (far at_ b : Int) (bins : List (BinOp × Value × Value × Value)) (hb : ∀ x ∈ bins, @BinOk (numbers [far, at_, b]) x) (hev : allTrue (@Ev.start Try.prog ((evenBad bins).orc _) 5 ⟨evenArgs⟩ 100000) = true) (w : World) :
    Calls Try.prog 5 #[.int .i64 far, .int .i64 at_, .int .i64 b] w fun e w' => e = .returned (.bool true) ∧ Below w.heap.size w w' := by
  refine tab_calls mixed (evenBad bins) (numbers [far, at_, b]) (f := 5) (args := evenArgs) (fuel := 100000) rfl hb ?_ hev w
  intro x hx
  simp only [evenBad, List.mem_cons, List.not_mem_nil, or_false] at hx
  subst hx
  exact call_varied' _

theorem even_walk (far at_ b : Int) (w : World) (hfar : -9223372036854775808 ≤ far ∧ far ≤ 9223372036854775807) (hat : -9223372036854775808 ≤ at_ ∧ at_ ≤ 9223372036854775807) (hb : -9223372036854775808 ≤ b ∧ b ≤ 9223372036854775807) :
    Calls Try.prog 5 #[.int .i64 far, .int .i64 at_, .int .i64 b] w fun e w' => e = .returned (.bool true) ∧ Below w.heap.size w w' := by
  by_cases c0 : far < 1
  · refine even_bad far at_ b evenBad0 (fun x hx => ?_) evenBad0_ev w
    simp only [evenBad0, List.mem_cons, List.not_mem_nil, or_false] at hx
    subst hx
    · exact bin_lss rfl rfl rfl rfl _ (decide_eq_true c0)
  by_cases c1 : 16000 < far
  · refine even_bad far at_ b evenBad1 (fun x hx => ?_) evenBad1_ev w
    simp only [evenBad1, List.mem_cons, List.not_mem_nil, or_false] at hx
    rcases hx with rfl | rfl
    · exact bin_lss rfl rfl rfl rfl _ (decide_eq_false c0)
    · exact bin_gtr rfl rfl rfl rfl _ (decide_eq_true c1)
  by_cases c2 : at_ < 0
  · refine even_bad far at_ b evenBad2 (fun x hx => ?_) evenBad2_ev w
    simp only [evenBad2, List.mem_cons, List.not_mem_nil, or_false] at hx
    rcases hx with rfl | rfl | rfl
    · exact bin_lss rfl rfl rfl rfl _ (decide_eq_false c0)
    · exact bin_gtr rfl rfl rfl rfl _ (decide_eq_false c1)
    · exact bin_lss rfl rfl rfl rfl _ (decide_eq_true c2)
  by_cases c3 : far < at_
  · refine even_bad far at_ b evenBad3 (fun x hx => ?_) evenBad3_ev w
    simp only [evenBad3, List.mem_cons, List.not_mem_nil, or_false] at hx
    rcases hx with rfl | rfl | rfl | rfl
    · exact bin_lss rfl rfl rfl rfl _ (decide_eq_false c0)
    · exact bin_gtr rfl rfl rfl rfl _ (decide_eq_false c1)
    · exact bin_lss rfl rfl rfl rfl _ (decide_eq_false c2)
    · exact bin_gtr rfl rfl rfl rfl _ (decide_eq_true c3)
  by_cases c4 : b < -8000
  · refine even_bad far at_ b evenBad4 (fun x hx => ?_) evenBad4_ev w
    simp only [evenBad4, List.mem_cons, List.not_mem_nil, or_false] at hx
    rcases hx with rfl | rfl | rfl | rfl | rfl
    · exact bin_lss rfl rfl rfl rfl _ (decide_eq_false c0)
    · exact bin_gtr rfl rfl rfl rfl _ (decide_eq_false c1)
    · exact bin_lss rfl rfl rfl rfl _ (decide_eq_false c2)
    · exact bin_gtr rfl rfl rfl rfl _ (decide_eq_false c3)
    · exact bin_lss rfl rfl rfl rfl _ (decide_eq_true c4)
  by_cases c5 : 8000 < b
  · refine even_bad far at_ b evenBad5 (fun x hx => ?_) evenBad5_ev w
    simp only [evenBad5, List.mem_cons, List.not_mem_nil, or_false] at hx
    rcases hx with rfl | rfl | rfl | rfl | rfl | rfl
    · exact bin_lss rfl rfl rfl rfl _ (decide_eq_false c0)
    · exact bin_gtr rfl rfl rfl rfl _ (decide_eq_false c1)
    · exact bin_lss rfl rfl rfl rfl _ (decide_eq_false c2)
    · exact bin_gtr rfl rfl rfl rfl _ (decide_eq_false c3)
    · exact bin_lss rfl rfl rfl rfl _ (decide_eq_false c4)
    · exact bin_gtr rfl rfl rfl rfl _ (decide_eq_true c5)
  have base : ∀ (l : List Int), ∀ x ∈ evenBase, @BinOk (numbers (far :: at_ :: b :: -b :: l)) x := by
    intro l x hx
    simp only [evenBase, List.mem_cons, List.not_mem_nil, or_false] at hx
    rcases hx with rfl | rfl | rfl | rfl | rfl | rfl | rfl | rfl | rfl
    · exact bin_lss rfl rfl rfl rfl _ (decide_eq_false c0)
    · exact bin_gtr rfl rfl rfl rfl _ (decide_eq_false c1)
    · exact bin_lss rfl rfl rfl rfl _ (decide_eq_false c2)
    · exact bin_gtr rfl rfl rfl rfl _ (decide_eq_false c3)
    · exact bin_lss rfl rfl rfl rfl _ (decide_eq_false c4)
    · exact bin_gtr rfl rfl rfl rfl _ (decide_eq_false c5)
    · exact bin_sub rfl rfl rfl rfl rfl rfl (show 0 - b = -b by omega) (show -9223372036854775808 ≤ -b ∧ -b ≤ 9223372036854775807 by omega)
    · exact bin_gtr rfl rfl rfl rfl _ (decide_eq_false (show ¬ far < 0 by omega))
    · exact bin_gtr rfl rfl rfl rfl _ (decide_eq_false (show ¬ 16384 < far by omega))
  by_cases c6 : 0 < at_
  · obtain ⟨xn, xd, h1, hsm, hxe⟩ := Rat.tell_ok (n := at_) (d := far) 16000 16000 (by omega) (by omega) (by omega) (by omega) (by omega) (by omega)
    have hx : Rat.Rt xn xd := ⟨hsm.1, hsm.2.1, by have := hsm.2.2.1; omega, by have := hsm.2.2.2.1; omega, by have := hsm.2.2.2.2; omega⟩
    have hm : Rat.makeR at_ far = (xn, xd, true) := by rw [Rat.makeR_tell, if_neg (by omega)]; exact h1
    have hxd := hx.pos
    have hxn : 0 < xn := Rat.pos_of_mul (k := far) (by omega) (by rw [hxe]; exact Int.mul_pos c6 hxd)
    have hle : xn ≤ xd := by
      refine Rat.le_of_mul (k := far) (by omega) ?_
      rw [hxe, Int.mul_comm xd]
      exact Int.mul_le_mul_of_nonneg_right (by omega) (by omega)
    obtain ⟨N1, D1, X, m1, r1, s1, t1, u1, v1⟩ := Rat.even_one b at_ far xn xd (by omega) (by omega) (by omega) hx hxe
    obtain ⟨N2, D2, Y, m2, r2, s2, t2, u2, v2⟩ := Rat.even_one (-b) at_ far xn xd (by omega) (by omega) (by omega) hx hxe
    have hu := Rat.under_even xn xd hx hxn hle
    refine tab_calls mixed evenElse (numbers (far :: at_ :: b :: -b :: [xn, xd, N1, D1, N2, D2, X, Y])) (f := 5) (args := evenArgs) (fuel := 100000) rfl (fun x hx' => ?_) (fun x hx' => ?_) evenElse_ev w
    · rcases List.mem_append.1 hx' with hx' | hx'
      · simp only [List.mem_cons, List.not_mem_nil, or_false] at hx'
        rcases hx' with rfl | rfl | rfl | rfl | rfl
        · exact bin_gtr rfl rfl rfl rfl _ (decide_eq_true c6)
        · exact bin_sub rfl rfl rfl rfl rfl rfl (show at_ - 0 = at_ by omega) hat
        · exact bin_sub rfl rfl rfl rfl rfl rfl (show far - 0 = far by omega) hfar
        · exact bin_eql rfl rfl rfl rfl _ (decide_eq_true rfl)
        · exact bin_eql rfl rfl rfl rfl _ (decide_eq_true rfl)
      · exact base _ x hx'
    · simp only [evenElse, List.mem_cons, List.not_mem_nil, or_false] at hx'
      rcases hx' with rfl | rfl | rfl | rfl | rfl | rfl | rfl | rfl | rfl | rfl | rfl | rfl | rfl | rfl | rfl | rfl | rfl
      · refine ⟨rfl, rfl, fun w => (make_any at_ far w hat hfar).mono fun e w' ⟨h1, h2⟩ => ⟨?_, h2.to_below⟩⟩
        rw [h1, hm]; rfl
      · refine ⟨rfl, rfl, fun w => (add_any xn xd 0 1 w hx.bN hx.bD (by omega) (by omega)).mono fun e w' ⟨h1, h2⟩ => ⟨?_, h2.to_below⟩⟩
        rw [h1, add_zero hx.right hx.bN.2 hx.bN.1 hx.bD.2]; rfl
      · exact ⟨rfl, rfl, fun w => (under_yes 0 64 64 xn xd (xn, xd) w (by omega) (by omega) (by omega) hx.bN hx.bD hu).mono fun e w' ⟨h1, h2⟩ => ⟨h1, h2.to_below⟩⟩
      · refine ⟨rfl, rfl, fun w => (mul_any 1 1 xn xd w (by omega) (by omega) hx.bN hx.bD).mono fun e w' ⟨h1, h2⟩ => ⟨?_, h2.to_below⟩⟩
        rw [h1, Rat.one_mul' hx]; rfl
      · refine ⟨rfl, rfl, fun w => (make_any b 1 w hb (by omega)).mono fun e w' ⟨h1, h2⟩ => ⟨?_, h2.to_below⟩⟩
        rw [h1, Rat.make_one b (by omega)]; rfl
      · refine ⟨rfl, rfl, fun w => (make_any (-b) 1 w (by omega) (by omega)).mono fun e w' ⟨h1, h2⟩ => ⟨?_, h2.to_below⟩⟩
        rw [h1, Rat.make_one (-b) (by omega)]; rfl
      · refine ⟨rfl, rfl, fun w => (mul_any b 1 xn xd w hb (by omega) hx.bN hx.bD).mono fun e w' ⟨h1, h2⟩ => ⟨?_, h2.to_below⟩⟩
        rw [h1, m1]; rfl
      · refine ⟨rfl, rfl, fun w => (mul_any (-b) 1 xn xd w (by omega) (by omega) hx.bN hx.bD).mono fun e w' ⟨h1, h2⟩ => ⟨?_, h2.to_below⟩⟩
        rw [h1, m2]; rfl
      · refine ⟨rfl, rfl, fun w => (add_any 0 1 N1 D1 w (by omega) (by omega) r1.bN r1.bD).mono fun e w' ⟨h1, h2⟩ => ⟨?_, h2.to_below⟩⟩
        rw [h1, Rat.zero_add' r1]; rfl
      · refine ⟨rfl, rfl, fun w => (add_any 0 1 N2 D2 w (by omega) (by omega) r2.bN r2.bD).mono fun e w' ⟨h1, h2⟩ => ⟨?_, h2.to_below⟩⟩
        rw [h1, Rat.zero_add' r2]; rfl
      · refine ⟨rfl, rfl, fun w => (round_any N1 D1 w r1.bN r1.bD).mono fun e w' ⟨h1, h2⟩ => ⟨?_, h2.to_below⟩⟩
        rw [h1, s1]; rfl
      · refine ⟨rfl, rfl, fun w => (round_any N2 D2 w r2.bN r2.bD).mono fun e w' ⟨h1, h2⟩ => ⟨?_, h2.to_below⟩⟩
        rw [h1, s2]; rfl
      · refine ⟨rfl, rfl, fun w => (moved_yes 0 X (-16384) w (by omega) (by omega) (by omega) (by omega)).mono fun e w' ⟨h1, h2⟩ => ⟨?_, by subst h2; exact .refl _ _⟩⟩
        rw [h1, Int.zero_add]; rfl
      · refine ⟨rfl, rfl, fun w => (moved_yes 0 Y (-16384) w (by omega) (by omega) (by omega) (by omega)).mono fun e w' ⟨h1, h2⟩ => ⟨?_, by subst h2; exact .refl _ _⟩⟩
        rw [h1, Int.zero_add]; rfl
      · refine ⟨rfl, rfl, fun w => (scale_any b at_ far w hb hat hfar).mono fun e w' ⟨h1, h2⟩ => ⟨?_, h2.to_below⟩⟩
        rw [h1, t1]; rfl
      · refine ⟨rfl, rfl, fun w => (scale_any (-b) at_ far w (by omega) hat hfar).mono fun e w' ⟨h1, h2⟩ => ⟨?_, h2.to_below⟩⟩
        rw [h1, t2]; rfl
      · exact call_varied' _
  · obtain rfl : at_ = 0 := by omega
    have hx : Rat.Rt 0 1 := ⟨by decide, by omega, by omega, by omega, by omega⟩
    have z : ∀ b : Int, -8000 ≤ b ∧ b ≤ 8000 → Rat.mulR b 1 0 1 = (0, 1, true) ∧ Rat.scaleR b 0 far = (0, true) := by
      intro b hb
      constructor
      · rw [Rat.mulR_tell (Rat.whole_right b (by omega)).right hx.right]
        exact Rat.rt_tell hx (by omega) (by grind)
      · obtain ⟨N, D, X, q1, q2, q3, q4, q5, q6⟩ := Rat.even_one b 0 far 0 1 hb (by omega) (by omega) hx (by omega)
        have hh := Rat.half_le (N := b * 0) (D := far) (by omega) 0 (by omega) (by omega) (by omega)
        rw [Rat.scaleR_eq (by omega), if_neg (by omega), show ((far.natAbs : Nat) : Int) = far by omega]
        unfold Rat.fits
        rw [if_pos (by omega)]
        have : Rat.half (b * 0) far = 0 := by omega
        rw [this]
    refine tab_calls mixed evenZero (numbers (far :: 0 :: b :: -b :: [])) (f := 5) (args := evenArgs) (fuel := 100000) rfl (fun x hx' => ?_) (fun x hx' => ?_) evenZero_ev w
    · rcases List.mem_cons.1 hx' with hx' | hx'
      · subst hx'
        exact bin_gtr rfl rfl rfl rfl _ (decide_eq_false c6)
      · exact base _ x hx'
    · simp only [evenZero, List.mem_cons, List.not_mem_nil, or_false] at hx'
      rcases hx' with rfl | rfl | rfl | rfl | rfl | rfl | rfl
      · refine ⟨rfl, rfl, fun w => (make_any b 1 w hb (by omega)).mono fun e w' ⟨h1, h2⟩ => ⟨?_, h2.to_below⟩⟩
        rw [h1, Rat.make_one b (by omega)]; rfl
      · refine ⟨rfl, rfl, fun w => (make_any (-b) 1 w (by omega) (by omega)).mono fun e w' ⟨h1, h2⟩ => ⟨?_, h2.to_below⟩⟩
        rw [h1, Rat.make_one (-b) (by omega)]; rfl
      · refine ⟨rfl, rfl, fun w => (mul_any b 1 0 1 w hb (by omega) (by omega) (by omega)).mono fun e w' ⟨h1, h2⟩ => ⟨?_, h2.to_below⟩⟩
        rw [h1, (z b (by omega)).1]; rfl
      · refine ⟨rfl, rfl, fun w => (mul_any (-b) 1 0 1 w (by omega) (by omega) (by omega) (by omega)).mono fun e w' ⟨h1, h2⟩ => ⟨?_, h2.to_below⟩⟩
        rw [h1, (z (-b) (by omega)).1]; rfl
      · refine ⟨rfl, rfl, fun w => (scale_any b 0 far w hb hat hfar).mono fun e w' ⟨h1, h2⟩ => ⟨?_, h2.to_below⟩⟩
        rw [h1, (z b (by omega)).2]; rfl
      · refine ⟨rfl, rfl, fun w => (scale_any (-b) 0 far w (by omega) hat hfar).mono fun e w' ⟨h1, h2⟩ => ⟨?_, h2.to_below⟩⟩
        rw [h1, (z (-b) (by omega)).2]; rfl
      · exact call_varied' _
end Go.Proofs.Ytopdbmfanmlbjaa

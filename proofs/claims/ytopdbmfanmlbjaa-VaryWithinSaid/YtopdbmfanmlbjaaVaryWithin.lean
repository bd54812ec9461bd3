/-
  VaryWithin: it returns true, whatever the numbers; by the evaluator, with tables of answers. Printed by gen_within.py. No condition.
-/
import Derived.Test.YtopdbmfanmlbjaaVarySm
import Derived.Test.YtopdbmfanmlbjaaVaried
import Derived.Test.YtopdbmfanmlbjaaSymKit
import Derived.KernelRfl
namespace Go.Proofs.Ytopdbmfanmlbjaa
open Go.RowKit Ev
set_option linter.unusedVariables false
set_option maxRecDepth 100000

def tentV : Value := .agg #[sy 0, sy 1, sy 2]
def withinArgs : List Value := [tentV, sy 3, sy 4]
def withinBad (bins : List (BinOp × Value × Value × Value)) (ok : Bool) : Tab := ⟨bins, [(11, [sy 3, sy 4], .tuple #[rt 5, .bool ok]), (9, [], .bool true)]⟩
def withinGood (bins : List (BinOp × Value × Value × Value)) (more : List (FuncId × List Value × Value)) : Tab := ⟨bins ++ [(.geq, sy 13, i64 0, .bool true), (.leq, sy 14, i64 0, .bool true), (.geq, sy 12, i64 1, .bool true)],
  more ++ [(11, [sy 3, sy 4], okV (rt 5)), (11, [sy 1, i64 64], okV (rt 7)), (11, [sy 2, i64 64], okV (rt 9)), (27, [rt 5, rc 0 1], okV (rt 5)), (27, [rt 7, rc 0 1], okV (rt 7)), (27, [rt 9, rc 0 1], okV (rt 9)),
    (30, [tentV, rt 5], rt 11), (30, [tentV, rt 7], rc 1 1), (29, [rc 1 1, rt 11], okV (rt 11)), (13, [rt 11, rc 0 1], sy 13), (13, [rt 11, rc 1 1], sy 14), (9, [], .bool true)]⟩
def bad0 : List (BinOp × Value × Value × Value) := [(.lss, sy 0, i64 (-64), .bool true)]
theorem bad0_true : allTrue (@Ev.start Try.prog ((withinBad bad0 true).orc _) 4 ⟨withinArgs⟩ 100000) = true := by kernel_rfl
theorem bad0_false : allTrue (@Ev.start Try.prog ((withinBad bad0 false).orc _) 4 ⟨withinArgs⟩ 100000) = true := by kernel_rfl
def bad1 : List (BinOp × Value × Value × Value) := [(.lss, sy 0, i64 (-64), .bool false), (.lss, sy 1, sy 0, .bool true)]
theorem bad1_true : allTrue (@Ev.start Try.prog ((withinBad bad1 true).orc _) 4 ⟨withinArgs⟩ 100000) = true := by kernel_rfl
theorem bad1_false : allTrue (@Ev.start Try.prog ((withinBad bad1 false).orc _) 4 ⟨withinArgs⟩ 100000) = true := by kernel_rfl
def bad2 : List (BinOp × Value × Value × Value) := [(.lss, sy 0, i64 (-64), .bool false), (.lss, sy 1, sy 0, .bool false), (.lss, sy 2, sy 1, .bool true)]
theorem bad2_true : allTrue (@Ev.start Try.prog ((withinBad bad2 true).orc _) 4 ⟨withinArgs⟩ 100000) = true := by kernel_rfl
theorem bad2_false : allTrue (@Ev.start Try.prog ((withinBad bad2 false).orc _) 4 ⟨withinArgs⟩ 100000) = true := by kernel_rfl
def bad3 : List (BinOp × Value × Value × Value) := [(.lss, sy 0, i64 (-64), .bool false), (.lss, sy 1, sy 0, .bool false), (.lss, sy 2, sy 1, .bool false), (.gtr, sy 2, i64 64, .bool true)]
theorem bad3_true : allTrue (@Ev.start Try.prog ((withinBad bad3 true).orc _) 4 ⟨withinArgs⟩ 100000) = true := by kernel_rfl
theorem bad3_false : allTrue (@Ev.start Try.prog ((withinBad bad3 false).orc _) 4 ⟨withinArgs⟩ 100000) = true := by kernel_rfl
def bad4 : List (BinOp × Value × Value × Value) := [(.lss, sy 0, i64 (-64), .bool false), (.lss, sy 1, sy 0, .bool false), (.lss, sy 2, sy 1, .bool false), (.gtr, sy 2, i64 64, .bool false)]
theorem bad4_false : allTrue (@Ev.start Try.prog ((withinBad bad4 false).orc _) 4 ⟨withinArgs⟩ 100000) = true := by kernel_rfl
def bad5 : List (BinOp × Value × Value × Value) := [(.lss, sy 0, i64 (-64), .bool false), (.lss, sy 1, sy 0, .bool false), (.lss, sy 2, sy 1, .bool false), (.gtr, sy 2, i64 64, .bool false), (.gtr, sy 3, i64 16384, .bool true)]
theorem bad5_true : allTrue (@Ev.start Try.prog ((withinBad bad5 true).orc _) 4 ⟨withinArgs⟩ 100000) = true := by kernel_rfl
def bad6 : List (BinOp × Value × Value × Value) := [(.lss, sy 0, i64 (-64), .bool false), (.lss, sy 1, sy 0, .bool false), (.lss, sy 2, sy 1, .bool false), (.gtr, sy 2, i64 64, .bool false), (.gtr, sy 3, i64 16384, .bool false), (.lss, sy 3, i64 (-16384), .bool true)]
theorem bad6_true : allTrue (@Ev.start Try.prog ((withinBad bad6 true).orc _) 4 ⟨withinArgs⟩ 100000) = true := by kernel_rfl
def bad7 : List (BinOp × Value × Value × Value) := [(.lss, sy 0, i64 (-64), .bool false), (.lss, sy 1, sy 0, .bool false), (.lss, sy 2, sy 1, .bool false), (.gtr, sy 2, i64 64, .bool false), (.gtr, sy 3, i64 16384, .bool false), (.lss, sy 3, i64 (-16384), .bool false), (.lss, sy 4, i64 1, .bool true)]
theorem bad7_true : allTrue (@Ev.start Try.prog ((withinBad bad7 true).orc _) 4 ⟨withinArgs⟩ 100000) = true := by kernel_rfl
def bad8 : List (BinOp × Value × Value × Value) := [(.lss, sy 0, i64 (-64), .bool false), (.lss, sy 1, sy 0, .bool false), (.lss, sy 2, sy 1, .bool false), (.gtr, sy 2, i64 64, .bool false), (.gtr, sy 3, i64 16384, .bool false), (.lss, sy 3, i64 (-16384), .bool false), (.lss, sy 4, i64 1, .bool false), (.gtr, sy 4, i64 32768, .bool true)]
theorem bad8_true : allTrue (@Ev.start Try.prog ((withinBad bad8 true).orc _) 4 ⟨withinArgs⟩ 100000) = true := by kernel_rfl
def good_zero : List (BinOp × Value × Value × Value) := [(.lss, sy 0, i64 (-64), .bool false), (.lss, sy 1, sy 0, .bool false), (.lss, sy 2, sy 1, .bool false), (.gtr, sy 2, i64 64, .bool false), (.gtr, sy 3, i64 16384, .bool false), (.lss, sy 3, i64 (-16384), .bool false), (.lss, sy 4, i64 1, .bool false), (.gtr, sy 4, i64 32768, .bool false), (.neq, sy 1, i64 0, .bool false)]
theorem good_zero_ev : allTrue (@Ev.start Try.prog ((withinGood good_zero []).orc _) 4 ⟨withinArgs⟩ 100000) = true := by kernel_rfl
def good_same : List (BinOp × Value × Value × Value) := [(.lss, sy 0, i64 (-64), .bool false), (.lss, sy 1, sy 0, .bool false), (.lss, sy 2, sy 1, .bool false), (.gtr, sy 2, i64 64, .bool false), (.gtr, sy 3, i64 16384, .bool false), (.lss, sy 3, i64 (-16384), .bool false), (.lss, sy 4, i64 1, .bool false), (.gtr, sy 4, i64 32768, .bool false), (.neq, sy 1, i64 0, .bool true), (.neq, sy 2, sy 1, .bool false)]
theorem good_same_ev : allTrue (@Ev.start Try.prog ((withinGood good_same []).orc _) 4 ⟨withinArgs⟩ 100000) = true := by kernel_rfl
def good_else : List (BinOp × Value × Value × Value) := [(.lss, sy 0, i64 (-64), .bool false), (.lss, sy 1, sy 0, .bool false), (.lss, sy 2, sy 1, .bool false), (.gtr, sy 2, i64 64, .bool false), (.gtr, sy 3, i64 16384, .bool false), (.lss, sy 3, i64 (-16384), .bool false), (.lss, sy 4, i64 1, .bool false), (.gtr, sy 4, i64 32768, .bool false), (.neq, sy 1, i64 0, .bool true), (.neq, sy 2, sy 1, .bool true)]
theorem good_else_ev : allTrue (@Ev.start Try.prog ((withinGood good_else [(30, [tentV, rt 9], rc 0 1)]).orc _) 4 ⟨withinArgs⟩ 100000) = true := by kernel_rfl

theorem call_varied (V : Val) : @CallOk V Try.prog (9, [], .bool true) := ⟨rfl, rfl, fun w => varied_true w⟩

/-- Where a condition does not hold. -/
theorem within_bad (s p e n d N D : Int) (ok : Bool) (hn : -9223372036854775808 ≤ n ∧ n ≤ 9223372036854775807) (hd : -9223372036854775808 ≤ d ∧ d ≤ 9223372036854775807) (hm : Rat.makeR n d = (N, D, ok))
    (bins : List (BinOp × Value × Value × Value)) (hb : ∀ x ∈ bins, @BinOk (numbers [s, p, e, n, d, N, D]) x) (hev : allTrue (@Ev.start Try.prog ((withinBad bins ok).orc _) 4 ⟨withinArgs⟩ 100000) = true) (w : World) :
    Calls Try.prog 4 #[.agg #[.int .i64 s, .int .i64 p, .int .i64 e], .int .i64 n, .int .i64 d] w fun e w' => e = .returned (.bool true) ∧ Below w.heap.size w w' := by
  refine tab_calls mixed (withinBad bins ok) (numbers [s, p, e, n, d, N, D]) (f := 4) (args := withinArgs) (fuel := 100000) rfl hb ?_ hev w
  intro x hx
  simp only [withinBad, List.mem_cons, List.not_mem_nil, or_false] at hx
  rcases hx with rfl | rfl
  · refine ⟨rfl, rfl, fun w => ?_⟩
    refine (make_any n d w hn hd).mono fun e w' ⟨h1, h2⟩ => ⟨?_, h2.to_below⟩
    rw [h1, hm]
    rfl
  · exact call_varied _

theorem within_walk (s p e n d : Int) (w : World) (hs : -9223372036854775808 ≤ s ∧ s ≤ 9223372036854775807) (hp : -9223372036854775808 ≤ p ∧ p ≤ 9223372036854775807) (he : -9223372036854775808 ≤ e ∧ e ≤ 9223372036854775807)
    (hn : -9223372036854775808 ≤ n ∧ n ≤ 9223372036854775807) (hd : -9223372036854775808 ≤ d ∧ d ≤ 9223372036854775807) :
    Calls Try.prog 4 #[.agg #[.int .i64 s, .int .i64 p, .int .i64 e], .int .i64 n, .int .i64 d] w fun e w' => e = .returned (.bool true) ∧ Below w.heap.size w w' := by
  obtain ⟨N, D, ok, hm⟩ : ∃ N D ok, Rat.makeR n d = (N, D, ok) := ⟨_, _, _, rfl⟩
  by_cases c0 : s < -64
  · cases ok
    · refine within_bad s p e n d N D false hn hd hm bad0 (fun x hx => ?_) bad0_false w
      simp only [bad0, List.mem_cons, List.not_mem_nil, or_false] at hx
      rcases hx with rfl
      · exact bin_lss rfl rfl rfl rfl _ (decide_eq_true c0)
    · refine within_bad s p e n d N D true hn hd hm bad0 (fun x hx => ?_) bad0_true w
      simp only [bad0, List.mem_cons, List.not_mem_nil, or_false] at hx
      rcases hx with rfl
      · exact bin_lss rfl rfl rfl rfl _ (decide_eq_true c0)
  by_cases c1 : p < s
  · cases ok
    · refine within_bad s p e n d N D false hn hd hm bad1 (fun x hx => ?_) bad1_false w
      simp only [bad1, List.mem_cons, List.not_mem_nil, or_false] at hx
      rcases hx with rfl | rfl
      · exact bin_lss rfl rfl rfl rfl _ (decide_eq_false c0)
      · exact bin_lss rfl rfl rfl rfl _ (decide_eq_true c1)
    · refine within_bad s p e n d N D true hn hd hm bad1 (fun x hx => ?_) bad1_true w
      simp only [bad1, List.mem_cons, List.not_mem_nil, or_false] at hx
      rcases hx with rfl | rfl
      · exact bin_lss rfl rfl rfl rfl _ (decide_eq_false c0)
      · exact bin_lss rfl rfl rfl rfl _ (decide_eq_true c1)
  by_cases c2 : e < p
  · cases ok
    · refine within_bad s p e n d N D false hn hd hm bad2 (fun x hx => ?_) bad2_false w
      simp only [bad2, List.mem_cons, List.not_mem_nil, or_false] at hx
      rcases hx with rfl | rfl | rfl
      · exact bin_lss rfl rfl rfl rfl _ (decide_eq_false c0)
      · exact bin_lss rfl rfl rfl rfl _ (decide_eq_false c1)
      · exact bin_lss rfl rfl rfl rfl _ (decide_eq_true c2)
    · refine within_bad s p e n d N D true hn hd hm bad2 (fun x hx => ?_) bad2_true w
      simp only [bad2, List.mem_cons, List.not_mem_nil, or_false] at hx
      rcases hx with rfl | rfl | rfl
      · exact bin_lss rfl rfl rfl rfl _ (decide_eq_false c0)
      · exact bin_lss rfl rfl rfl rfl _ (decide_eq_false c1)
      · exact bin_lss rfl rfl rfl rfl _ (decide_eq_true c2)
  by_cases c3 : 64 < e
  · cases ok
    · refine within_bad s p e n d N D false hn hd hm bad3 (fun x hx => ?_) bad3_false w
      simp only [bad3, List.mem_cons, List.not_mem_nil, or_false] at hx
      rcases hx with rfl | rfl | rfl | rfl
      · exact bin_lss rfl rfl rfl rfl _ (decide_eq_false c0)
      · exact bin_lss rfl rfl rfl rfl _ (decide_eq_false c1)
      · exact bin_lss rfl rfl rfl rfl _ (decide_eq_false c2)
      · exact bin_gtr rfl rfl rfl rfl _ (decide_eq_true c3)
    · refine within_bad s p e n d N D true hn hd hm bad3 (fun x hx => ?_) bad3_true w
      simp only [bad3, List.mem_cons, List.not_mem_nil, or_false] at hx
      rcases hx with rfl | rfl | rfl | rfl
      · exact bin_lss rfl rfl rfl rfl _ (decide_eq_false c0)
      · exact bin_lss rfl rfl rfl rfl _ (decide_eq_false c1)
      · exact bin_lss rfl rfl rfl rfl _ (decide_eq_false c2)
      · exact bin_gtr rfl rfl rfl rfl _ (decide_eq_true c3)
  by_cases c4 : ok = false
  · subst c4
    refine within_bad s p e n d N D false hn hd hm bad4 (fun x hx => ?_) bad4_false w
    simp only [bad4, List.mem_cons, List.not_mem_nil, or_false] at hx
    rcases hx with rfl | rfl | rfl | rfl
    · exact bin_lss rfl rfl rfl rfl _ (decide_eq_false c0)
    · exact bin_lss rfl rfl rfl rfl _ (decide_eq_false c1)
    · exact bin_lss rfl rfl rfl rfl _ (decide_eq_false c2)
    · exact bin_gtr rfl rfl rfl rfl _ (decide_eq_false c3)
  by_cases c5 : 16384 < n
  · obtain rfl : ok = true := by cases ok <;> simp_all
    refine within_bad s p e n d N D true hn hd hm bad5 (fun x hx => ?_) bad5_true w
    simp only [bad5, List.mem_cons, List.not_mem_nil, or_false] at hx
    rcases hx with rfl | rfl | rfl | rfl | rfl
    · exact bin_lss rfl rfl rfl rfl _ (decide_eq_false c0)
    · exact bin_lss rfl rfl rfl rfl _ (decide_eq_false c1)
    · exact bin_lss rfl rfl rfl rfl _ (decide_eq_false c2)
    · exact bin_gtr rfl rfl rfl rfl _ (decide_eq_false c3)
    · exact bin_gtr rfl rfl rfl rfl _ (decide_eq_true c5)
  by_cases c6 : n < -16384
  · obtain rfl : ok = true := by cases ok <;> simp_all
    refine within_bad s p e n d N D true hn hd hm bad6 (fun x hx => ?_) bad6_true w
    simp only [bad6, List.mem_cons, List.not_mem_nil, or_false] at hx
    rcases hx with rfl | rfl | rfl | rfl | rfl | rfl
    · exact bin_lss rfl rfl rfl rfl _ (decide_eq_false c0)
    · exact bin_lss rfl rfl rfl rfl _ (decide_eq_false c1)
    · exact bin_lss rfl rfl rfl rfl _ (decide_eq_false c2)
    · exact bin_gtr rfl rfl rfl rfl _ (decide_eq_false c3)
    · exact bin_gtr rfl rfl rfl rfl _ (decide_eq_false c5)
    · exact bin_lss rfl rfl rfl rfl _ (decide_eq_true c6)
  by_cases c7 : d < 1
  · obtain rfl : ok = true := by cases ok <;> simp_all
    refine within_bad s p e n d N D true hn hd hm bad7 (fun x hx => ?_) bad7_true w
    simp only [bad7, List.mem_cons, List.not_mem_nil, or_false] at hx
    rcases hx with rfl | rfl | rfl | rfl | rfl | rfl | rfl
    · exact bin_lss rfl rfl rfl rfl _ (decide_eq_false c0)
    · exact bin_lss rfl rfl rfl rfl _ (decide_eq_false c1)
    · exact bin_lss rfl rfl rfl rfl _ (decide_eq_false c2)
    · exact bin_gtr rfl rfl rfl rfl _ (decide_eq_false c3)
    · exact bin_gtr rfl rfl rfl rfl _ (decide_eq_false c5)
    · exact bin_lss rfl rfl rfl rfl _ (decide_eq_false c6)
    · exact bin_lss rfl rfl rfl rfl _ (decide_eq_true c7)
  by_cases c8 : 32768 < d
  · obtain rfl : ok = true := by cases ok <;> simp_all
    refine within_bad s p e n d N D true hn hd hm bad8 (fun x hx => ?_) bad8_true w
    simp only [bad8, List.mem_cons, List.not_mem_nil, or_false] at hx
    rcases hx with rfl | rfl | rfl | rfl | rfl | rfl | rfl | rfl
    · exact bin_lss rfl rfl rfl rfl _ (decide_eq_false c0)
    · exact bin_lss rfl rfl rfl rfl _ (decide_eq_false c1)
    · exact bin_lss rfl rfl rfl rfl _ (decide_eq_false c2)
    · exact bin_gtr rfl rfl rfl rfl _ (decide_eq_false c3)
    · exact bin_gtr rfl rfl rfl rfl _ (decide_eq_false c5)
    · exact bin_lss rfl rfl rfl rfl _ (decide_eq_false c6)
    · exact bin_lss rfl rfl rfl rfl _ (decide_eq_false c7)
    · exact bin_gtr rfl rfl rfl rfl _ (decide_eq_true c8)
  obtain rfl : ok = true := by cases ok <;> simp_all
  clear c4
  have hmt : Rat.tell n d = (N, D, true) := by rw [Rat.makeR_tell, if_neg (by omega)] at hm; exact hm
  obtain ⟨N', D', h1, hsm, hx3⟩ := Rat.tell_ok (n := n) (d := d) 16384 32768 (by omega) (by omega) (by omega) (by omega) (by omega) (by omega)
  rw [hmt] at h1
  obtain ⟨rfl, rfl, -⟩ : N = N' ∧ D = D' ∧ true = true := by simpa using h1
  clear h1
  obtain ⟨⟨fa, fb⟩, hu, hrt, hf0, hf1⟩ := Rat.under_within s p e N D (by omega) (by omega) (by omega) (by omega) hsm
  have hpk := Rat.under_peak s p e (by omega)
  obtain ⟨bp, ep⟩ := Rat.by64_ok p (by omega)
  obtain ⟨be, ee⟩ := Rat.by64_ok e (by omega)
  have mp := by64_make p (by omega)
  have me := by64_make e (by omega)
  have hend : p ≠ 0 → e ≠ p → Vr.underR s p e (Vr.by64 e).1 (Vr.by64 e).2 = some (0, 1) := fun h0 hne => Rat.under_end s p e (by omega) (by omega) (by omega) h0 hne
  generalize Vr.by64 p = Q at *
  generalize Vr.by64 e = F at *
  obtain ⟨pn, pd⟩ := Q
  obtain ⟨en, ed⟩ := F
  simp only at *
  have bN := hsm.bd (by omega) (by omega)
  have bP := bp.bd (by omega) (by omega)
  have bE := be.bd (by omega) (by omega)
  have a5 : Rat.addR N D 0 1 = (N, D, true) := add_zero hsm.1 bN.1.2 bN.1.1 bN.2.2
  have a7 : Rat.addR pn pd 0 1 = (pn, pd, true) := add_zero bp.1 bP.1.2 bP.1.1 bP.2.2
  have a9 : Rat.addR en ed 0 1 = (en, ed, true) := add_zero be.1 bE.1.2 bE.1.1 bE.2.2
  have m1 : Rat.mulR 1 1 fa fb = (fa, fb, true) := by
    rw [Rat.mulR_tell (by decide) hrt.right]
    exact Rat.rt_tell hrt (by have := hrt.pos; omega) (by grind)
  have hfb := hrt.pos
  have cz : 0 ≤ Rat.cmpR fa fb 0 1 := by
    unfold Rat.cmpR
    rw [if_pos ⟨hrt.right, by decide⟩, show fa * 1 - 0 * fb = fa by omega]
    exact Int.sign_nonneg_iff.2 hf0
  have co : Rat.cmpR fa fb 1 1 ≤ 0 := by
    unfold Rat.cmpR
    rw [if_pos ⟨hrt.right, by decide⟩, show fa * 1 - 1 * fb = fa - fb by omega]
    have := Int.sign_nonneg_iff (x := -(fa - fb))
    rw [Int.sign_neg] at this
    omega
  obtain ⟨c0', hc0⟩ : ∃ c, c = Rat.cmpR fa fb 0 1 := ⟨_, rfl⟩
  obtain ⟨c1', hc1⟩ : ∃ c, c = Rat.cmpR fa fb 1 1 := ⟨_, rfl⟩
  rw [← hc0] at cz
  rw [← hc1] at co
  have hR := hrt.bN
  have hR2 := hrt.bD
  have key : ∀ (bins : List (BinOp × Value × Value × Value)) (more : List (FuncId × List Value × Value)) (hb : ∀ x ∈ bins, @BinOk (numbers [s, p, e, n, d, N, D, pn, pd, en, ed, fa, fb, c0', c1']) x) (hmore : ∀ x ∈ more, @CallOk (numbers [s, p, e, n, d, N, D, pn, pd, en, ed, fa, fb, c0', c1']) Try.prog x),
      allTrue (@Ev.start Try.prog ((withinGood bins more).orc _) 4 ⟨withinArgs⟩ 100000) = true →
      Calls Try.prog 4 #[.agg #[.int .i64 s, .int .i64 p, .int .i64 e], .int .i64 n, .int .i64 d] w fun e w' => e = .returned (.bool true) ∧ Below w.heap.size w w' := by
    intro bins more hb hmore hev
    refine tab_calls mixed (withinGood bins more) (numbers [s, p, e, n, d, N, D, pn, pd, en, ed, fa, fb, c0', c1']) (f := 4) (args := withinArgs) (fuel := 100000) rfl ?_ ?_ hev w
    · intro x hx
      rcases List.mem_append.1 hx with hx | hx
      · exact hb x hx
      · simp only [List.mem_cons, List.not_mem_nil, or_false] at hx
        rcases hx with rfl | rfl | rfl
        · exact bin_geq rfl rfl rfl rfl _ (decide_eq_true cz)
        · exact bin_leq rfl rfl rfl rfl _ (decide_eq_true co)
        · exact bin_geq rfl rfl rfl rfl _ (decide_eq_true (show (1 : Int) ≤ fb by omega))
    · intro x hx
      rcases List.mem_append.1 hx with hx | hx
      · exact hmore x hx
      · simp only [List.mem_cons, List.not_mem_nil, or_false] at hx
        rcases hx with rfl | rfl | rfl | rfl | rfl | rfl | rfl | rfl | rfl | rfl | rfl | rfl
        · refine ⟨rfl, rfl, fun w => (make_any n d w hn hd).mono fun e w' ⟨h1, h2⟩ => ⟨?_, h2.to_below⟩⟩
          rw [h1, hm]; rfl
        · refine ⟨rfl, rfl, fun w => (make_any p 64 w hp (by omega)).mono fun e w' ⟨h1, h2⟩ => ⟨?_, h2.to_below⟩⟩
          rw [h1, mp]; rfl
        · refine ⟨rfl, rfl, fun w => (make_any e 64 w he (by omega)).mono fun e w' ⟨h1, h2⟩ => ⟨?_, h2.to_below⟩⟩
          rw [h1, me]; rfl
        · refine ⟨rfl, rfl, fun w => (add_any N D 0 1 w bN.1 bN.2 (by omega) (by omega)).mono fun e w' ⟨h1, h2⟩ => ⟨?_, h2.to_below⟩⟩
          rw [h1, a5]; rfl
        · refine ⟨rfl, rfl, fun w => (add_any pn pd 0 1 w bP.1 bP.2 (by omega) (by omega)).mono fun e w' ⟨h1, h2⟩ => ⟨?_, h2.to_below⟩⟩
          rw [h1, a7]; rfl
        · refine ⟨rfl, rfl, fun w => (add_any en ed 0 1 w bE.1 bE.2 (by omega) (by omega)).mono fun e w' ⟨h1, h2⟩ => ⟨?_, h2.to_below⟩⟩
          rw [h1, a9]; rfl
        · exact ⟨rfl, rfl, fun w => (under_yes s p e N D (fa, fb) w (by omega) (by omega) (by omega) bN.1 bN.2 hu).mono fun e w' ⟨h1, h2⟩ => ⟨h1, h2.to_below⟩⟩
        · exact ⟨rfl, rfl, fun w => (under_yes s p e pn pd (1, 1) w (by omega) (by omega) (by omega) bP.1 bP.2 hpk).mono fun e w' ⟨h1, h2⟩ => ⟨h1, h2.to_below⟩⟩
        · refine ⟨rfl, rfl, fun w => (mul_any 1 1 fa fb w (by omega) (by omega) hR hR2).mono fun e w' ⟨h1, h2⟩ => ⟨?_, h2.to_below⟩⟩
          rw [h1, m1]; rfl
        · refine ⟨rfl, rfl, fun w => (cmp_any fa fb 0 1 w hR hR2 (by omega) (by omega)).mono fun e w' ⟨h1, h2⟩ => ⟨?_, h2.to_below⟩⟩
          rw [h1, ← hc0]; rfl
        · refine ⟨rfl, rfl, fun w => (cmp_any fa fb 1 1 w hR hR2 (by omega) (by omega)).mono fun e w' ⟨h1, h2⟩ => ⟨?_, h2.to_below⟩⟩
          rw [h1, ← hc1]; rfl
        · exact call_varied _
  have mem8 : ∀ (x : BinOp × Value × Value × Value), x ∈ ([(.lss, sy 0, i64 (-64), .bool false), (.lss, sy 1, sy 0, .bool false), (.lss, sy 2, sy 1, .bool false), (.gtr, sy 2, i64 64, .bool false), (.gtr, sy 3, i64 16384, .bool false), (.lss, sy 3, i64 (-16384), .bool false), (.lss, sy 4, i64 1, .bool false), (.gtr, sy 4, i64 32768, .bool false)] : List (BinOp × Value × Value × Value)) → @BinOk (numbers [s, p, e, n, d, N, D, pn, pd, en, ed, fa, fb, c0', c1']) x := by
    intro x hx
    simp only [List.mem_cons, List.not_mem_nil, or_false] at hx
    rcases hx with rfl | rfl | rfl | rfl | rfl | rfl | rfl | rfl
    · exact bin_lss rfl rfl rfl rfl _ (decide_eq_false c0)
    · exact bin_lss rfl rfl rfl rfl _ (decide_eq_false c1)
    · exact bin_lss rfl rfl rfl rfl _ (decide_eq_false c2)
    · exact bin_gtr rfl rfl rfl rfl _ (decide_eq_false c3)
    · exact bin_gtr rfl rfl rfl rfl _ (decide_eq_false c5)
    · exact bin_lss rfl rfl rfl rfl _ (decide_eq_false c6)
    · exact bin_lss rfl rfl rfl rfl _ (decide_eq_false c7)
    · exact bin_gtr rfl rfl rfl rfl _ (decide_eq_false c8)
  by_cases hp0 : p = 0
  · refine key good_zero [] (fun x hx => ?_) (fun x hx => by cases hx) good_zero_ev
    rcases List.mem_append.1 (show x ∈ [(.lss, sy 0, i64 (-64), .bool false), (.lss, sy 1, sy 0, .bool false), (.lss, sy 2, sy 1, .bool false), (.gtr, sy 2, i64 64, .bool false), (.gtr, sy 3, i64 16384, .bool false), (.lss, sy 3, i64 (-16384), .bool false), (.lss, sy 4, i64 1, .bool false), (.gtr, sy 4, i64 32768, .bool false)] ++ [(.neq, sy 1, i64 0, .bool false)] from hx) with hx | hx
    · exact mem8 x hx
    · simp only [List.mem_cons, List.not_mem_nil, or_false] at hx
      subst hx
      exact bin_neq rfl rfl rfl rfl _ (congrArg (fun b => !b) (decide_eq_true hp0))
  · by_cases hep : e = p
    · refine key good_same [] (fun x hx => ?_) (fun x hx => by cases hx) good_same_ev
      rcases List.mem_append.1 (show x ∈ [(.lss, sy 0, i64 (-64), .bool false), (.lss, sy 1, sy 0, .bool false), (.lss, sy 2, sy 1, .bool false), (.gtr, sy 2, i64 64, .bool false), (.gtr, sy 3, i64 16384, .bool false), (.lss, sy 3, i64 (-16384), .bool false), (.lss, sy 4, i64 1, .bool false), (.gtr, sy 4, i64 32768, .bool false)] ++ [(.neq, sy 1, i64 0, .bool true), (.neq, sy 2, sy 1, .bool false)] from hx) with hx | hx
      · exact mem8 x hx
      · simp only [List.mem_cons, List.not_mem_nil, or_false] at hx
        rcases hx with rfl | rfl
        · exact bin_neq rfl rfl rfl rfl _ (congrArg (fun b => !b) (decide_eq_false hp0))
        · exact bin_neq rfl rfl rfl rfl _ (congrArg (fun b => !b) (decide_eq_true hep))
    · refine key good_else [(30, [tentV, rt 9], rc 0 1)] (fun x hx => ?_) (fun x hx => ?_) good_else_ev
      · rcases List.mem_append.1 (show x ∈ [(.lss, sy 0, i64 (-64), .bool false), (.lss, sy 1, sy 0, .bool false), (.lss, sy 2, sy 1, .bool false), (.gtr, sy 2, i64 64, .bool false), (.gtr, sy 3, i64 16384, .bool false), (.lss, sy 3, i64 (-16384), .bool false), (.lss, sy 4, i64 1, .bool false), (.gtr, sy 4, i64 32768, .bool false)] ++ [(.neq, sy 1, i64 0, .bool true), (.neq, sy 2, sy 1, .bool true)] from hx) with hx | hx
        · exact mem8 x hx
        · simp only [List.mem_cons, List.not_mem_nil, or_false] at hx
          rcases hx with rfl | rfl
          · exact bin_neq rfl rfl rfl rfl _ (congrArg (fun b => !b) (decide_eq_false hp0))
          · exact bin_neq rfl rfl rfl rfl _ (congrArg (fun b => !b) (decide_eq_false hep))
      · simp only [List.mem_cons, List.not_mem_nil, or_false] at hx
        subst hx
        exact ⟨rfl, rfl, fun w => (under_yes s p e en ed (0, 1) w (by omega) (by omega) (by omega) bE.1 bE.2 (hend hp0 hep)).mono fun e w' ⟨h1, h2⟩ => ⟨h1, h2.to_below⟩⟩
end Go.Proofs.Ytopdbmfanmlbjaa

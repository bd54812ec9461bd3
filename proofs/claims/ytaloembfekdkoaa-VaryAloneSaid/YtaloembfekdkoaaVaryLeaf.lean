/- vary: must, whole, moved. -/
import Derived.Test.YtaloembfekdkoaaChain
import Derived.IntWalk
import Derived.WalkLawsBesides
import Derived.Deep.DeepCutAuto
namespace Go.Proofs.Ytaloembfekdkoaa
open Go.RowKit
set_option linter.unusedVariables false
theorem must_ok (a b : Int) (w : World) : Calls Try.prog 34 #[.agg #[.int .i64 a, .int .i64 b], .bool true] w fun e w' => e = .returned (.agg #[.int .i64 a, .int .i64 b]) ∧ Mod [] w w' := by
  have T := Lib.hid (own2 w #[.int .i64 a, .int .i64 b] 68 #[.int .i64 a, .int .i64 b] 68)
  have HM := Lib.hid T.out.mod
  obtain ⟨r0, r1, -, -⟩ := (T.out.at 1 rfl).two
  go_enter Try.func34, Try.ntmps34
  go_wp2_with fail
  exact bodyPost_ret (v := .agg #[.int .i64 a, .int .i64 b]) (by simp [results, Try.results34, go_sem]) rfl ⟨rfl, HM.out⟩
theorem must_no (a b : Int) (w : World) : Calls Try.prog 34 #[.agg #[.int .i64 a, .int .i64 b], .bool false] w fun e w' => e = .panicked [{ v := .iface 33 (.int .i64 3), recovered := false }] ∧ Mod [] w w' := by
  have T := Lib.hid (own2 w #[.int .i64 a, .int .i64 b] 68 #[.int .i64 0, .int .i64 0] 68)
  have HM := Lib.hid T.out.mod
  go_enter Try.func34, Try.ntmps34
  go_wp2_with fail
  exact ⟨rfl, rfl, HM.out⟩
theorem wholeV_any (n : Int) (w : World) : Calls Try.prog 36 #[.int .i64 n] w fun e w' => e = .returned (.agg #[.int .i64 n, .int .i64 1]) ∧ Mod [] w w' := by
  have HM := Lib.hid (own1 w #[.int .i64 n, .int .i64 1] 68).mod
  go_enter Try.func36, Try.ntmps36
  go_wp2_with fail
  exact bodyPost_ret (v := .agg #[.int .i64 n, .int .i64 1]) (by simp [results, Try.results36, go_sem]) rfl ⟨rfl, HM.out⟩
def Vr.movedR (n by' least : Int) : Option Int := if least ≤ n + by' ∧ n + by' ≤ 16384 then some (n + by') else none
set_option maxHeartbeats 1000000 in
theorem moved_yes (n b l : Int) (w : World) (hn : -9223372036854775808 ≤ n ∧ n ≤ 9223372036854775807) (hb : -9223372036854775808 ≤ b ∧ b ≤ 9223372036854775807) (hl : -16384 ≤ l) (h : l ≤ n + b ∧ n + b ≤ 16384) :
    Calls Try.prog 29 #[.int .i64 n, .int .i64 b, .int .i64 l] w fun e w' => e = .returned (.int .i64 (n + b)) ∧ w = w' := by
  obtain ⟨s, hs⟩ : ∃ s, s = n + b := ⟨_, rfl⟩
  have e1 : IntKind.i64.wrap (n + b) = s := by rw [hs]; exact IntWalk.i64_in _ (by omega)
  have k1 : (decide (0 ≤ b) == decide (n ≤ s)) = true := by
    rw [beq_iff_eq, Bool.eq_iff_iff, decide_eq_true_eq, decide_eq_true_eq]; omega
  have k2 : decide (s < l) = false := decide_eq_false (by omega)
  have k3 : decide (16384 < s) = false := decide_eq_false (by omega)
  rw [← hs]
  clear hn hb hl h hs
  go_enter Try.func29, Try.ntmps29
  go_wp2_with fail
  go_ret
  exact ⟨rfl, rfl⟩
set_option maxHeartbeats 1000000 in
theorem moved_no (n b l : Int) (w : World) (hn : -9223372036854775808 ≤ n ∧ n ≤ 9223372036854775807) (hb : -9223372036854775808 ≤ b ∧ b ≤ 9223372036854775807) (hl : -16384 ≤ l) (h : ¬ (l ≤ n + b ∧ n + b ≤ 16384)) :
    Calls Try.prog 29 #[.int .i64 n, .int .i64 b, .int .i64 l] w fun e w' => e = .panicked [{ v := .iface 33 (.int .i64 3), recovered := false }] ∧ w = w' := by
  obtain ⟨s, hs⟩ : ∃ s, s = IntKind.i64.wrap (n + b) := ⟨_, rfl⟩
  have e1 : IntKind.i64.wrap (n + b) = s := hs.symm
  by_cases hr : -9223372036854775808 ≤ n + b ∧ n + b ≤ 9223372036854775807
  · have e2 : s = n + b := by rw [hs]; exact IntWalk.i64_in _ hr
    have k1 : (decide (0 ≤ b) == decide (n ≤ s)) = true := by
      rw [beq_iff_eq, Bool.eq_iff_iff, decide_eq_true_eq, decide_eq_true_eq]; omega
    by_cases h2 : s < l
    · have k2 : decide (s < l) = true := decide_eq_true h2
      clear hn hb hl h hs h2 e2 hr
      go_enter Try.func29, Try.ntmps29
      go_wp2_with fail
      exact ⟨rfl, rfl, rfl⟩
    · have k2 : decide (s < l) = false := decide_eq_false h2
      have k3 : decide (16384 < s) = true := decide_eq_true (by omega)
      clear hn hb hl h hs h2 e2 hr
      go_enter Try.func29, Try.ntmps29
      go_wp2_with fail
      exact ⟨rfl, rfl, rfl⟩
  · have k1 : (decide (0 ≤ b) == decide (n ≤ s)) = false := by
      rw [beq_eq_false_iff_ne]
      intro h1
      rw [Bool.eq_iff_iff, decide_eq_true_eq, decide_eq_true_eq] at h1
      rw [IntKind.wrap_i64] at hs
      omega
    clear hn hb hl h hs hr
    go_enter Try.func29, Try.ntmps29
    go_wp2_with fail
    exact ⟨rfl, rfl, rfl⟩
end Go.Proofs.Ytaloembfekdkoaa

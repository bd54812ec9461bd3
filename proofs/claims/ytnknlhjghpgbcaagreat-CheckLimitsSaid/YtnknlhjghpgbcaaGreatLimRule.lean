/-
  check: two looks at a rule of a ligature. No condition.
-/
import Derived.Test.YtnknlhjghpgbcaaGreatLimChar
namespace Go.Proofs.YtnknlhjghpgbcaaGreat
open Go.RowKit
set_option linter.unusedVariables false

set_option maxHeartbeats 2000000 in
theorem rows_lig (a1 a2 a3 : Option Addr) (c1 c2 c3 : Nat) (v3 v4 v5 : Value) (w : World) :
    Calls Tryz.prog 109 #[.int .i64 3, .agg #[.slice a1 0 c1, .slice a2 1 c2, .slice a3 0 c3, v3, v4, v5]] w fun x w' => x = .returned (.int .i64 0) ∧ Mod [] w w' := by
  have T := Lib.hid (own1 w #[.slice a1 0 c1, .slice a2 1 c2, .slice a3 0 c3, v3, v4, v5] 61)
  have HM := Lib.hid T.out.mod
  have f0 := (T.out.at 0 rfl).cell 0
  have f1 := (T.out.at 0 rfl).cell 1
  have f2 := (T.out.at 0 rfl).cell 2
  go_enter Tryz.func109, Tryz.ntmps109
  go_wp2_with fail
  refine (when_no _ _).mono ?_
  rintro e w2 ⟨rfl, rfl⟩
  go_wp2_with fail
  go_ret
  exact ⟨rfl, HM.out⟩

set_option maxHeartbeats 2000000 in
theorem rightOut_lig (a3 : Option Addr) (c3 : Nat) (v0 v1 v2 v4 v5 : Value) (w : World) :
    Calls Tryz.prog 116 #[.int .i64 3, .agg #[v0, v1, v2, .slice a3 1 c3, v4, v5]] w fun x w' => x = .returned (.bool true) ∧ Mod [] w w' := by
  have T := Lib.hid (own1 w #[v0, v1, v2, .slice a3 1 c3, v4, v5] 61)
  have HM := Lib.hid T.out.mod
  have f3 := (T.out.at 0 rfl).cell 3
  go_enter Tryz.func116, Tryz.ntmps116
  go_wp2_with fail
  go_ret
  exact ⟨rfl, HM.out⟩
end Go.Proofs.YtnknlhjghpgbcaaGreat

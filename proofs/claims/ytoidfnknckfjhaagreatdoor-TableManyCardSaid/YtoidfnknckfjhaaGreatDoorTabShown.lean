/- What must be in any case, of chapter 10: it is so. -/
import Derived.Test.YtoidfnknckfjhaaGreatDoorTabCa
namespace Go.Proofs.YtoidfnknckfjhaaGreatDoor
open Go.RowKit Go.Proofs.YtoidfnknckfjhaaGreatDoor.Ev
set_option linter.unusedVariables false
namespace Tab
instance tagsVal : Val := ⟨fun _ => .i64, fun _ => 0, fun g => match g with
  | 0 => some (.cells tagCells 64 (0, 0))
  | _ => none⟩
end Tab
theorem same_is (x : Value) (w : World) : (callFunc 222 #[x]).run Tryz.prog w = .ok (.value x) w := by kernel_rfl
set_option maxRecDepth 100000 in
theorem shown_true (w : World) (h : @LaidIn Tab.tagsVal w) : Calls Tryz.prog 4 #[] w fun e w' => e = .returned (.bool true) ∧ Below w.heap.size w w' :=
  @lib_calls Tab.tagsVal Tryz.prog 222 Tab.ca same_is (@tab_ok Tab.tagsVal) (by kernel_rfl) 4 #[] 1000000 rfl (by kernel_rfl) w h
end Go.Proofs.YtoidfnknckfjhaaGreatDoor

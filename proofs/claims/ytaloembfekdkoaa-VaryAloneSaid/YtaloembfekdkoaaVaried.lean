/-
  The example of the chapter comes out, by the evaluator. No condition.
-/
import Derived.Test.YtaloembfekdkoaaProg
import Derived.Test.YtaloembfekdkoaaEvSym
import Derived.KernelRfl
namespace Go.Proofs.Ytaloembfekdkoaa
open Go.RowKit Ev
set_option maxRecDepth 100000 in
theorem varied_ev : allTrue (@Ev.start Try.prog (noOrc _) 7 #[] 1000000) = true := by kernel_rfl
theorem mixed : Try.prog.follows .mixedOrders = true := by kernel_rfl
theorem varied_true (w : World) : Calls Try.prog 7 #[] w fun e w' => e = .returned (.bool true) ∧ Below w.heap.size w w' := @ev_calls noVal Try.prog (noOrc _) (@noOk noVal _) mixed _ _ _ _ rfl rfl (allTrue_some varied_ev) w (fun _ _ h => by cases h)
end Go.Proofs.Ytaloembfekdkoaa

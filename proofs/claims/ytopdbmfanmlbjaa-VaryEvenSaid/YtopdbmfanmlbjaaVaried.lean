/-
  The example of the chapter comes out, by the evaluator. No condition.
-/
import Derived.Test.YtopdbmfanmlbjaaProg
import Derived.Test.YtopdbmfanmlbjaaEvSym
import Derived.KernelRfl
namespace Go.Proofs.Ytopdbmfanmlbjaa
open Go.RowKit Ev

set_option maxRecDepth 100000 in
theorem varied_ev : allTrue (@Ev.start Try.prog (noOrc _) 9 #[] 1000000) = true := by kernel_rfl
theorem mixed : Try.prog.follows .mixedOrders = true := by kernel_rfl
theorem varied_true (w : World) : Calls Try.prog 9 #[] w fun e w' => e = .returned (.bool true) ∧ Below w.heap.size w w' := @ev_calls noVal Try.prog (noOrc _) (@noOk noVal _) mixed _ _ _ _ rfl rfl (allTrue_some varied_ev) w
end Go.Proofs.Ytopdbmfanmlbjaa

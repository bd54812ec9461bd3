/- The reference's Times. -/
import Derived.Test.YtngeijdfpgmcfaaBigPlus
import Derived.Test.YtngeijdfpgmcfaaBigTimes0
import Derived.Laws.MakeOwn
import Derived.IntWalk
namespace Go.Proofs.Ytngeijdfpgmcfaa
open Go.RowKit
set_option maxRecDepth 100000
set_option linter.unusedVariables false

theorem calls_same2 {P : Program} {W : World} {f : FuncId} {args : Array Value} {v : Value} (h : ∀ w, Mod [] W w → Calls P f args w fun e w' => e = .returned v ∧ w = w') : ∀ w, Mod [] W w → Calls P f args w fun e w' => e = .returned v ∧ Mod [] w w' :=
  fun w m => (h w m).mono fun _ _ ⟨he, hw⟩ => ⟨he, hw ▸ Mod.refl _ _⟩

def zeros (n : Nat) : List Nat := List.replicate n 0
theorem zeros_digits (n : Nat) : Big.Digits (zeros n) := Big.digits_replicate n
theorem zeros_len (n : Nat) : (zeros n).length = n := by simp [zeros]
theorem zeros_val (n : Nat) : Big.val (zeros n) = 0 := Big.val_replicate n
theorem made_zero (n : Nat) : madeCells #[Value.int IntKind.i64 0] n = ((zeros n).map dcell).toArray := by
  unfold zeros
  apply Array.ext'
  simp [madeCells, Nat.mod_one, dcell]
  apply List.ext_getElem
  · simp
  · intro i h1 h2; simp
theorem set_dcell (out : List Nat) (j y : Nat) : (out.map dcell).toArray.setIfInBounds j (.int .i64 (y : Int)) = ((out.set j y).map dcell).toArray := by
  simp [List.map_set, dcell]
theorem cell_dcell {out : List Nat} {j : Nat} (h : j < out.length) : (out.map dcell).toArray[j]? = some (.int .i64 ((out.getD j 0 : Nat) : Int)) := by
  simp [h, dcell]

end Go.Proofs.Ytngeijdfpgmcfaa

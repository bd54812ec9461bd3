/-
  CheckLoops: what comes of it behind its first four lines, by the evaluator. No condition.
-/
import Derived.Test.YtnknlhjghpgbcaaGreatProg
import Derived.Test.YtnknlhjghpgbcaaGreatEvDr
namespace Go.Proofs.YtnknlhjghpgbcaaGreat
open Ev

/-- What stands behind the first parts. -/
def tl : Nat → Code → Code
  | 0, c => c
  | k + 1, .seq _ y => tl k y
  | _, c => c
def codeOf (f : Func) : Code := match f.body with
  | some c => c
  | none => .skip
/-- All ways come to true. -/
def allTrue (r : Option (List OutS)) : Bool := match r with
  | some r => r.all fun o => match o.out with
    | .ret u => veq 6 u (.bool true)
    | _ => false
  | none => false
theorem allTrue_some {r : Option (List OutS)} (h : allTrue r = true) : ∃ l, r = some l ∧ (l.all fun o => match o.out with | .ret u => veq 6 u (.bool true) | _ => false) = true := by
  cases r with
  | none => cases h
  | some l => exact ⟨l, rfl, h⟩
def loopsSlots (n k : Int) : List (Nat × Value) := [(5, .bool true), (6, .int .i64 n), (7, .int .i64 k)]
noncomputable def loopsAt (n k : Int) : Bool := allTrue (evF Tryz.prog 1000000 ⟨3, slots (loopsSlots n k), 109, [.code (tl 4 (codeOf Tryz.f3))], [], .run, .normal, none, true, []⟩ .run ⟨.nil, 0, 0⟩)
end Go.Proofs.YtnknlhjghpgbcaaGreat

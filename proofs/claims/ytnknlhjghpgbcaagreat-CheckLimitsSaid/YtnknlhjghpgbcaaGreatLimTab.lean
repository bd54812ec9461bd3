/-
  CheckLimits, its fourth thing (rules): the evaluator's run, with answers that are known. No condition.
-/
import Derived.Test.YtnknlhjghpgbcaaGreatProg
import Derived.Test.YtnknlhjghpgbcaaGreatEvDef
namespace Go.Proofs.YtnknlhjghpgbcaaGreat
open Ev

def whenT (args : List Value) : Option Value := match args with
  | [.bool false, .int .i64 _] => some (.int .i64 0)
  | _ => none
def isGlyphT (args : List Value) : Option Value := match args with
  | [.agg fs, .int .i64 (.ofNat n)] => match fs.toList with
    | [_, .slice _ gl _, _, _, _, _, _, _, _] => cond (Nat.ble (Nat.succ n) gl) (some (.bool true)) none
    | _ => none
  | _ => none
def rowsT (args : List Value) : Option Value := match args with
  | [.int .i64 (.ofNat 3), .agg fs] => match fs.toList with
    | [.slice _ n1 _, .slice _ n2 _, .slice _ n3 _, _, _, _] => cond (Nat.beq n1 0 && Nat.beq n2 1 && Nat.beq n3 0) (some (.int .i64 0)) none
    | _ => none
  | _ => none
def rightT (args : List Value) : Option Value := match args with
  | [.int .i64 (.ofNat 3), .agg fs] => match fs.toList with
    | [_, _, _, .slice _ n _, _, _] => cond (Nat.beq n 1) (some (.bool true)) none
    | _ => none
  | _ => none
def restT (r1 : Int) (args : List Value) : Option Value := match args with
  | [.chan (some (Nat.succ i)), .int .i64 (.ofNat n)] => cond (Nat.beq i 1 && Nat.beq n 5) (some (.int .i64 r1)) (cond (Nat.beq i 0 && Nat.beq n 6) (some (.int .i64 3)) none)
  | _ => none
def awakeT (args : List Value) : Option Value := match args with
  | [] => some (.bool true)
  | _ => none
def limCallT (r1 : Int) (f : FuncId) (args : List Value) : Option Value :=
  cond (Nat.beq f 46) (whenT args) (cond (Nat.beq f 56) (isGlyphT args) (cond (Nat.beq f 109) (rowsT args) (cond (Nat.beq f 116) (rightT args) (cond (Nat.beq f 5) (awakeT args) (cond (Nat.beq f 6) (restT r1 args) none)))))
abbrev limOT (r1 : Int) : Orc Tryz.prog := ⟨fun _ _ _ _ => none, fun f args _ => limCallT r1 f args⟩
def allTrueT (r : Option (List OutS)) : Bool := match r with
  | some r => r.all fun o => match o.out with
    | .ret u => veq 6 u (.bool true)
    | _ => false
  | none => false
noncomputable def limAtT (r1 : Int) : Bool := allTrueT (@Ev.start Tryz.prog (limOT r1) 4 ⟨[.chan (some 1), .chan (some 2)]⟩ 10000000)
end Go.Proofs.YtnknlhjghpgbcaaGreat

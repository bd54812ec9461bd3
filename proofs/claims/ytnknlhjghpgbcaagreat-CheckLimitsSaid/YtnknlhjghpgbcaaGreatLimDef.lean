/-
  CheckLimits: what comes of it, case by case, by the evaluator. No condition.
-/
import Derived.Test.YtnknlhjghpgbcaaGreatProg
import Derived.Test.YtnknlhjghpgbcaaGreatLimOrc
namespace Go.Proofs.YtnknlhjghpgbcaaGreat
open Go.RowKit Ev
set_option linter.unusedVariables false

def limCalls (r0 r1 : Int) : List (FuncId × List Value × Value) := [(5, [], .bool true), (6, [sy 1, i64 5], i64 r1), (6, [sy 0, i64 6], i64 r0)]
noncomputable def limCall (r0 r1 : Int) (f : FuncId) (args : List Value) (h : AH) : Option Value := match findC f args (limCalls r0 r1) with
  | some v => some v
  | none => cond (Nat.beq f 70) (eachV args h) none
noncomputable abbrev limO (r0 r1 : Int) : Orc Tryz.prog := ⟨fun _ _ _ _ => none, limCall r0 r1⟩
def limArgs : List Value := [sy 0, sy 1]
noncomputable def limAt (r0 r1 : Int) : Bool := allTrue (@Ev.start Tryz.prog (limO r0 r1) 4 ⟨limArgs⟩ 10000000)

theorem limOk {V : Val} (r0 r1 : Int) (hc : ∀ e ∈ limCalls r0 r1, @CallOk V Tryz.prog e) : @OrcOk V Tryz.prog (limO r0 r1) := by
  refine @OrcOk.mk V Tryz.prog (limO r0 r1) (fun h => by cases h) ?_
  intro f args h v hh σ w args' hr ha
  have hh' : limCall r0 r1 f args h = some v := hh
  unfold limCall at hh'
  split at hh'
  · rename_i u hu
    cases hh'
    obtain ⟨h1, h2, h3⟩ := hc _ (findC_mem hu)
    have he2 : args' = ⟨args.map (den 3)⟩ := by apply Array.ext'; exact dens_ok 3 h1 ha
    rw [he2]
    exact (h3 w).mono fun e w' ⟨q1, q2⟩ => ⟨_, q1, den_vr σ 3 h2, q2⟩
  · obtain ⟨h1, h2⟩ := cond_some hh'
    have h1 : f = 70 := Nat.eq_of_beq_eq_true h1
    subst h1
    exact each_sound h2 hr ha
end Go.Proofs.YtnknlhjghpgbcaaGreat

/-
  CheckLimits: as LimDef, with answers of two small functions more. No condition.
-/
import Derived.Test.YtnknlhjghpgbcaaGreatLimDef
namespace Go.Proofs.YtnknlhjghpgbcaaGreat
open Go.RowKit Ev
set_option linter.unusedVariables false

def whenV (args : List Value) : Option Value := match args with
  | [.bool false, .int .i64 _] => some (.int .i64 0)
  | _ => none
def isGlyphV (args : List Value) : Option Value := match args with
  | [.agg fs, .int .i64 (.ofNat n)] => match fs.toList with
    | [_, .slice _ gl _, _, _, _, _, _, _, _] => cond (Nat.ble (Nat.succ n) gl) (some (.bool true)) none
    | _ => none
  | _ => none
noncomputable def limCall2 (r0 r1 : Int) (f : FuncId) (args : List Value) (h : AH) : Option Value :=
  cond (Nat.beq f 46) (whenV args) (cond (Nat.beq f 56) (isGlyphV args) (limCall r0 r1 f args h))
noncomputable abbrev limO2 (r0 r1 : Int) : Orc Tryz.prog := ⟨fun _ _ _ _ => none, limCall2 r0 r1⟩
noncomputable def limAt2 (r0 r1 : Int) : Bool := allTrue (@Ev.start Tryz.prog (limO2 r0 r1) 4 ⟨limArgs⟩ 10000000)

theorem limOk2 {V : Val} (r0 r1 : Int) (hc : ∀ e ∈ limCalls r0 r1, @CallOk V Tryz.prog e) : @OrcOk V Tryz.prog (limO2 r0 r1) := by
  refine @OrcOk.mk V Tryz.prog (limO2 r0 r1) (fun h => by cases h) ?_
  intro f args h v hh σ w args' hr ha
  have hh' : limCall2 r0 r1 f args h = some v := hh
  unfold limCall2 at hh'
  cases h1 : Nat.beq f 46 with
  | true =>
    rw [h1] at hh'
    have hf : f = 46 := Nat.eq_of_beq_eq_true h1
    subst hf
    simp only [cond_true] at hh'
    unfold whenV at hh'
    split at hh'
    · rename_i x
      cases hh'
      generalize hal : args'.toList = al at ha
      cases ha with
      | cons q1 t =>
        cases q1
        cases t with
        | cons q2 t2 =>
          cases q2
          cases t2
          have ee : args' = #[.bool false, .int .i64 x] := Array.ext' hal
          subst ee
          exact (when_no x w).mono fun e w' ⟨k1, k2⟩ => ⟨_, k1, .int _ _, by subst k2; exact .refl _ _⟩
    · cases hh'
  | false =>
    rw [h1] at hh'
    simp only [cond_false] at hh'
    cases h2 : Nat.beq f 56 with
    | true =>
      rw [h2] at hh'
      have hf : f = 56 := Nat.eq_of_beq_eq_true h2
      subst hf
      simp only [cond_true] at hh'
      unfold isGlyphV at hh'
      split at hh'
      · rename_i fs n
        split at hh'
        · rename_i c0 ga gl gc c2 c3 c4 c5 c6 c7 c8 hfs
          obtain ⟨hlt, hh'⟩ := cond_some hh'
          cases hh'
          have hlt : n + 1 ≤ gl := Nat.le_of_ble_eq_true hlt
          generalize hal : args'.toList = al at ha
          cases ha with
          | cons q1 t =>
            cases q1 with
            | agg qa =>
              rename_i fs'
              rw [hfs] at qa
              cases t with
              | cons q2 t2 =>
                cases q2
                cases t2
                generalize hfl : fs'.toList = fl at qa
                cases qa with
                | cons a0 qa => cases qa with
                  | cons a1 qa => cases qa with
                    | cons a2 qa => cases qa with
                      | cons a3 qa => cases qa with
                        | cons a4 qa => cases qa with
                          | cons a5 qa => cases qa with
                            | cons a6 qa => cases qa with
                              | cons a7 qa => cases qa with
                                | cons a8 qa =>
                                  cases qa
                                  obtain ⟨ga', gc', rfl⟩ := slice_len a1
                                  have ef := Array.ext' (ys := ⟨_⟩) hfl
                                  subst ef
                                  have ee := Array.ext' (ys := ⟨_⟩) hal
                                  subst ee
                                  exact (isGlyph_yes _ _ _ _ _ _ _ _ ga' gl gc' (Int.ofNat n) w (by simp) (by simp only [Int.ofNat_eq_natCast]; omega)).mono fun e w' ⟨k1, k2⟩ => ⟨_, k1, .bool _, k2.to_below⟩
        · cases hh'
      · cases hh'
    | false =>
      rw [h2] at hh'
      exact (limOk r0 r1 hc).call hh' hr ha
end Go.Proofs.YtnknlhjghpgbcaaGreat

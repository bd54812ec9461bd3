/- vary: under, where nothing is given up. Printed by gen_under.py. -/
import Derived.Test.YtaloembfekdkoaaVaryAlong
namespace Go.Proofs.Ytaloembfekdkoaa
open Go.RowKit
set_option linter.unusedVariables false
theorem tentBlk {w : World} {b : Nat} {x y z : Value} {t : TypeId} (h : Blk w b #[x, y, z] t) : w.cell? ⟨b, 0, none⟩ = some x ∧ w.cell? ⟨b, 1, none⟩ = some y ∧ w.cell? ⟨b, 2, none⟩ = some z := ⟨by rw [h.cell]; rfl, by rw [h.cell]; rfl, by rw [h.cell]; rfl⟩
def Vr.by64 (n : Int) : Int × Int := ((Rat.tell n 64).1, (Rat.tell n 64).2.1)
theorem by64_make (n : Int) (h : -9223372036854775807 ≤ n ∧ n ≤ 9223372036854775807) : Rat.makeR n 64 = ((Vr.by64 n).1, (Vr.by64 n).2, true) := made_some (by omega) (by omega) (by omega)
theorem by64_in (n : Int) (h : -9223372036854775807 ≤ n ∧ n ≤ 9223372036854775807) : (-9223372036854775807 ≤ (Vr.by64 n).1 ∧ (Vr.by64 n).1 ≤ 9223372036854775807) ∧ (-9223372036854775807 ≤ (Vr.by64 n).2 ∧ (Vr.by64 n).2 ≤ 9223372036854775807) := by
  have := Rat.tell_le (n := n) (d := 64)
  unfold Vr.by64
  simp only
  omega
def Vr.quot (a b : Int × Int × Bool) : Option (Int × Int) :=
  if a.2.2 = true ∧ b.2.2 = true ∧ (Rat.divR a.1 a.2.1 b.1 b.2.1).2.2 = true then some ((Rat.divR a.1 a.2.1 b.1 b.2.1).1, (Rat.divR a.1 a.2.1 b.1 b.2.1).2.1) else none
def Vr.underR (s p e n d : Int) : Option (Int × Int) :=
  if p = 0 ∨ Rat.cmpR n d (Vr.by64 p).1 (Vr.by64 p).2 = 0 then some (1, 1)
  else if Rat.cmpR n d (Vr.by64 s).1 (Vr.by64 s).2 ≤ 0 ∨ 0 ≤ Rat.cmpR n d (Vr.by64 e).1 (Vr.by64 e).2 then some (0, 1)
  else if Rat.cmpR n d (Vr.by64 p).1 (Vr.by64 p).2 < 0 then Vr.quot (Rat.subR n d (Vr.by64 s).1 (Vr.by64 s).2) (Rat.subR (Vr.by64 p).1 (Vr.by64 p).2 (Vr.by64 s).1 (Vr.by64 s).2)
  else Vr.quot (Rat.subR (Vr.by64 e).1 (Vr.by64 e).2 n d) (Rat.subR (Vr.by64 e).1 (Vr.by64 e).2 (Vr.by64 p).1 (Vr.by64 p).2)
theorem subR_in (a b c d : Int) : (-9223372036854775807 ≤ (Rat.subR a b c d).1 ∧ (Rat.subR a b c d).1 ≤ 9223372036854775807) ∧ (-9223372036854775807 ≤ (Rat.subR a b c d).2.1 ∧ (Rat.subR a b c d).2.1 ≤ 9223372036854775807) := by
  have key : ∀ m n d, (-9223372036854775807 ≤ (Rat.toldR m n d).1 ∧ (Rat.toldR m n d).1 ≤ 9223372036854775807) ∧ (-9223372036854775807 ≤ (Rat.toldR m n d).2.1 ∧ (Rat.toldR m n d).2.1 ≤ 9223372036854775807) := fun m n d => by
    rw [Rat.toldR_sg]
    split
    · rename_i h
      have h1 : (Rat.sg m n).natAbs = n := Rat.natAbs_sg m n
      simp only
      omega
    · simp
  unfold Rat.subR
  split
  · unfold Rat.addR
    split
    · exact key _ _ _
    · simp
  · simp
end Go.Proofs.Ytaloembfekdkoaa

/- vary: Factor. -/
import Derived.Test.YtaloembfekdkoaaVaryGrown
import Derived.Defers
import Derived.Recover
import Derived.Deep.LoopGhost
namespace Go.Proofs.Ytaloembfekdkoaa
open Go.RowKit
set_option linter.unusedVariables false
theorem fac1_idle (p : Addr) (w : World) : CallsD Try.prog 33 #[.pointer (some p)] .returning w fun e u' w' => e = .returned (.tuple #[]) ∧ u' = .returning ∧ w' = w := by
  refine callsD_of_wpS Try.func33 rfl fun c₀ cs hu => ?_
  apply wpS_seq
  apply wpS_region
  simp [wpOpsS, go_sem, recoverD, hu, Try.ntmps33, Exit.thenS]
  refine wpS_cond (t := false) (by simp [Act.eval, Array.replicate]) ?_
  simp only [Bool.false_eq_true, if_false]
  refine wpS_of_wp (wp_skip ?_)
  cases c₀
  simp_all [bodyPostS, results, Try.results33]
theorem fac1_panic (b : Nat) (x y : Value) (u : TypeId) (pv : Value) (older : List PanicEntry) (w : World) (B : Blk w b #[x, y] 68) :
    CallsD Try.prog 33 #[.pointer (some ⟨b, 0, none⟩)] (.panicking ({ v := .iface u pv, recovered := false } :: older)) w fun e u' w' =>
      e = .returned (.tuple #[]) ∧ u' = .panicking ({ v := .iface u pv, recovered := true } :: older) ∧ w' = (w.setCell ⟨b, 0, none⟩ (.int .i64 0)).setCell ⟨b, 1, none⟩ (.int .i64 0) := by
  obtain ⟨c0, c1, z0, z1⟩ := B.two
  refine callsD_of_wpS Try.func33 rfl fun c₀ cs hu => ?_
  apply wpS_seq
  apply wpS_region
  simp [wpOpsS, go_sem, recoverD, hu, Try.ntmps33, Exit.thenS]
  refine wpS_cond (t := true) (by simp [Act.eval, Array.replicate]) ?_
  simp only [if_true]
  apply wpS_region
  simp [wpOpsS, go_sem, c0, c1, z0, z1, bodyPostS, results, Try.results33]
def TentsAt (w : World) (b o : Nat) (ts : List (Int × Int × Int)) : Prop := b < w.heap.size ∧ ∀ i (h : i < ts.length), w.cell? ⟨b, o + i * 3, none⟩ = some (.int .i64 ts[i].1) ∧ w.cell? ⟨b, o + i * 3 + 1, none⟩ = some (.int .i64 ts[i].2.1) ∧ w.cell? ⟨b, o + i * 3 + 2, none⟩ = some (.int .i64 ts[i].2.2)
def RatsAt (w : World) (b o : Nat) (xs : List (Int × Int)) : Prop := b < w.heap.size ∧ ∀ i (h : i < xs.length), w.cell? ⟨b, o + i * 2, none⟩ = some (.int .i64 xs[i].1) ∧ w.cell? ⟨b, o + i * 2 + 1, none⟩ = some (.int .i64 xs[i].2)
theorem TentsAt.mod {w w' : World} {b o : Nat} {ts : List (Int × Int × Int)} (h : TentsAt w b o ts) (m : Mod [] w w') : TentsAt w' b o ts :=
  ⟨Nat.lt_of_lt_of_le h.1 m.size, fun i hi => by
    obtain ⟨h1, h2, h3⟩ := h.2 i hi
    exact ⟨(m.cell (p := ⟨b, o + i * 3, none⟩) h.1 (by simp)).trans h1, (m.cell (p := ⟨b, o + i * 3 + 1, none⟩) h.1 (by simp)).trans h2, (m.cell (p := ⟨b, o + i * 3 + 2, none⟩) h.1 (by simp)).trans h3⟩⟩
theorem RatsAt.mod {w w' : World} {b o : Nat} {xs : List (Int × Int)} (h : RatsAt w b o xs) (m : Mod [] w w') : RatsAt w' b o xs :=
  ⟨Nat.lt_of_lt_of_le h.1 m.size, fun i hi => by
    obtain ⟨h1, h2⟩ := h.2 i hi
    exact ⟨(m.cell (p := ⟨b, o + i * 2, none⟩) h.1 (by simp)).trans h1, (m.cell (p := ⟨b, o + i * 2 + 1, none⟩) h.1 (by simp)).trans h2⟩⟩
theorem add_zero {a b : Int} (h : Rat.rightB a b = true) (ha : a ≤ 9223372036854775807) (ha' : -9223372036854775808 ≤ a) (hb : b ≤ 9223372036854775807) : Rat.addR a b 0 1 = (a, b, true) := by
  obtain ⟨h1, h2, h3⟩ := (Rat.rightB_iff _ _).1 h
  rw [Rat.addR_tell h ((Rat.rightB_iff _ _).2 ⟨by omega, by omega, by simp [Nat.Coprime]⟩)]
  exact Rat.tell_of (by omega) h (by simp) (by omega) hb
def Vr.prodR : List (Int × Int × Int) → List (Int × Int) → Int × Int → Option (Int × Int)
  | t :: ts, x :: xs, f => match Vr.underR t.1 t.2.1 t.2.2 x.1 x.2 with
    | some u => if (Rat.mulR f.1 f.2 u.1 u.2).2.2 = true then Vr.prodR ts xs ((Rat.mulR f.1 f.2 u.1 u.2).1, (Rat.mulR f.1 f.2 u.1 u.2).2.1) else none
    | none => none
  | _, _, f => some f
theorem toldR_in (m : Bool) (n d : Nat) : (-9223372036854775807 ≤ (Rat.toldR m n d).1 ∧ (Rat.toldR m n d).1 ≤ 9223372036854775807) ∧ (-9223372036854775807 ≤ (Rat.toldR m n d).2.1 ∧ (Rat.toldR m n d).2.1 ≤ 9223372036854775807) := by
  rw [Rat.toldR_sg]
  split
  · rename_i h
    have h1 : (Rat.sg m n).natAbs = n := Rat.natAbs_sg m n
    simp only
    omega
  · simp
theorem mulR_in (a b c d : Int) : (-9223372036854775807 ≤ (Rat.mulR a b c d).1 ∧ (Rat.mulR a b c d).1 ≤ 9223372036854775807) ∧ (-9223372036854775807 ≤ (Rat.mulR a b c d).2.1 ∧ (Rat.mulR a b c d).2.1 ≤ 9223372036854775807) := by
  unfold Rat.mulR
  split
  · exact toldR_in _ _ _
  · simp
theorem divR_in (a b c d : Int) : (-9223372036854775807 ≤ (Rat.divR a b c d).1 ∧ (Rat.divR a b c d).1 ≤ 9223372036854775807) ∧ (-9223372036854775807 ≤ (Rat.divR a b c d).2.1 ∧ (Rat.divR a b c d).2.1 ≤ 9223372036854775807) := by
  unfold Rat.divR
  split
  · split <;> exact mulR_in _ _ _ _
  · simp
theorem quot_in {a b : Int × Int × Bool} {u : Int × Int} (h : Vr.quot a b = some u) : (-9223372036854775807 ≤ u.1 ∧ u.1 ≤ 9223372036854775807) ∧ (-9223372036854775807 ≤ u.2 ∧ u.2 ≤ 9223372036854775807) := by
  unfold Vr.quot at h
  split at h
  · have := Option.some.inj h
    subst this
    exact divR_in _ _ _ _
  · cases h
theorem under_in {s p e n d : Int} {u : Int × Int} (h : Vr.underR s p e n d = some u) : (-9223372036854775807 ≤ u.1 ∧ u.1 ≤ 9223372036854775807) ∧ (-9223372036854775807 ≤ u.2 ∧ u.2 ≤ 9223372036854775807) := by
  unfold Vr.underR at h
  split at h
  · have := Option.some.inj h; subst this; simp
  · split at h
    · have := Option.some.inj h; subst this; simp
    · split at h <;> exact quot_in h
end Go.Proofs.Ytaloembfekdkoaa

/- The document's Same: are two rows of ratios the same? -/
import Derived.Test.YtngeijdfpgmcfaaMono
import Derived.Deep.LoopGhost
import Derived.Deep.QuietTactic
import Derived.BigQuiet
import Derived.RegionTactic
import Derived.IntWalk
namespace Go.Proofs.Ytngeijdfpgmcfaa
open Go.RowKit
set_option linter.unusedVariables false

/-- A row of ratios in memory. -/
def PairsAt (w : World) (v : Value) (l : List (Int × Int)) : Prop := ∃ oa cap, v = .slice oa l.length cap ∧ ∀ i (h : i < l.length), ∃ b, oa = some ⟨b, 0, none⟩ ∧ w.cell? ⟨b, i * 2, none⟩ = some (.int .i64 l[i].1) ∧ w.cell? ⟨b, i * 2 + 1, none⟩ = some (.int .i64 l[i].2)

set_option maxHeartbeats 1000000 in
/-- Rows that are the same. -/
theorem same_yes (x y : Value) (l : List (Int × Int)) (hl : l.length ≤ 1000000) (w : World) (hx : PairsAt w x l) (hy : PairsAt w y l) : Calls Try.prog 8 #[x, y] w fun e w' => e = .returned (.bool true) ∧ Mod [] w w' := by
  obtain ⟨oa, ca, rfl, hX⟩ := hx
  obtain ⟨ob, cb, rfl, hY⟩ := hy
  have HX := Lib.hid hX
  have HY := Lib.hid hY
  have HL := Lib.hid hl
  clear hX hY hl
  go_enter Try.func8, Try.ntmps8
  go_wp2_with fail
  go_loopg [5] l.length (fun gk i5 wr => ∃ i : Nat, i5 = .int .i64 (i : Int) ∧ Hid (i + gk = l.length) ∧ Hid (Mod [] w wr))
  case atStart => exact ⟨0, rfl, by show 0 + l.length = l.length; omega, Mod.refl _ _⟩
  case round =>
    obtain ⟨i, rfl, hi, HM⟩ := hrel
    by_cases hn : i = l.length
    · subst hn
      go_wp2_with fail
      go_ret
      exact ⟨rfl, HM.out⟩
    · have hlt : i < l.length := by have := hi.out; omega
      have hlt2 : (i : Int) < (l.length : Int) := by omega
      have h0 : (0 : Int) ≤ (i : Int) := by omega
      have hbig : (i : Int) < 1000000 := by have := HL.out; omega
      obtain ⟨b, rfl, p0, p1⟩ := HX.out i hlt
      obtain ⟨c, rfl, q0, q1⟩ := HY.out i hlt
      have lb : b < w.heap.size := by
        rcases Nat.lt_or_ge b w.heap.size with h' | h'
        · exact h'
        · exfalso
          have : w.cell? ⟨b, i * 2, none⟩ = none := by simp [World.cell?, h']
          rw [this] at p0; cases p0
      have lc : c < w.heap.size := by
        rcases Nat.lt_or_ge c w.heap.size with h' | h'
        · exact h'
        · exfalso
          have : w.cell? ⟨c, i * 2, none⟩ = none := by simp [World.cell?, h']
          rw [this] at q0; cases q0
      have P0 := (HM.out.cell (p := ⟨b, i * 2, none⟩) lb (by simp)).trans p0
      have P1 := (HM.out.cell (p := ⟨b, i * 2 + 1, none⟩) lb (by simp)).trans p1
      have Q0 := (HM.out.cell (p := ⟨c, i * 2, none⟩) lc (by simp)).trans q0
      have Q1 := (HM.out.cell (p := ⟨c, i * 2 + 1, none⟩) lc (by simp)).trans q1
      clear p0 p1 q0 q1 lb lc hn
      go_wp2_with fail
      go_quiet (fail)
      go_wp2_with fail
      go_roundg (gk - 1)
      case measure => have := hi.out; omega
      case rel =>
        refine ⟨i + 1, by rw [Int.natCast_add]; rfl, ?_, HM.out.drewN _⟩
        have := hi.out; show i + 1 + (gk - 1) = l.length; omega
end Go.Proofs.Ytngeijdfpgmcfaa

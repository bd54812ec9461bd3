/-
  Opening a font that came in by value: its cells; the axes and the glyphs in memory.
  The document's Big: is a font too great for the law?
  The document's Same: are two rows of ratios the same?
  A row of ratios of the call's own, as pairs in memory.
-/
import Derived.Test.YtaloembfekdkoaaGBase
import Derived.ProofKit
import Derived.OpenShut
import Derived.Lib.SmallJoins
import Derived.Deep.LoopGhost
import Derived.Deep.QuietTactic
import Derived.BigQuiet
import Derived.RegionTactic
import Derived.IntWalk
import Derived.Laws.AppendOwn

namespace Go.Proofs.Ytaloembfekdkoaa
open Go.ChangeShapes Go.WideShapes Go.ChangeAt Go.RowKit Go.Joins
set_option linter.unusedVariables false
section
variable {H : Type} {enc : TypeId × Value → H} {W : World} {base : Nat} {sp : Nat → Bool} {held : Bool}
end
end Go.Proofs.Ytaloembfekdkoaa

namespace Go.Proofs.Ytaloembfekdkoaa
open Go.RowKit
set_option linter.unusedVariables false
def fontV (u : Int) (oa : Nat → Option Addr) (n c : Nat → Nat) : Value := .agg #[.int .i64 u, .slice (oa 1) (n 1) (c 1), .slice (oa 2) (n 2) (c 2), .slice (oa 3) (n 3) (c 3), .slice (oa 4) (n 4) (c 4), .slice (oa 5) (n 5) (c 5), .slice (oa 6) (n 6) (c 6), .slice (oa 7) (n 7) (c 7), .slice (oa 8) (n 8) (c 8)]
def GlyphsAt (W : World) (oa : Option Addr) (n : Nat) : Prop := ∀ i, i < n → ∃ a, oa = some a ∧ ∃ pa pn pc da dn dc, W.cell? ((a.add (i * 9)).add 3) = some (.slice pa pn pc) ∧ W.cell? ((a.add (i * 9)).add 7) = some (.slice da dn dc) ∧ pn ≤ maxLen ∧ dn ≤ maxLen
theorem cell_kept {w w' : World} {a : Addr} {v : Value} (m : Mod [] w w') (h : w.cell? a = some v) : w'.cell? a = some v := by
  have hb : a.block < w.heap.size := by
    rcases Nat.lt_or_ge a.block w.heap.size with h' | h'
    · exact h'
    · exfalso
      have : w.cell? a = none := by unfold World.cell?; rw [show w.heap[a.block]? = none by simp; exact h']
      rw [this] at h; cases h
  exact (m.cell (p := a) hb (by simp)).trans h
def BigRes (v : Value) (k : Nat) : Prop := ∃ b : Bool, v = .bool b ∧ (b = false → k ≤ 6)
set_option maxRecDepth 100000 in
set_option maxHeartbeats 2000000 in
theorem big_any (u : Int) (oa : Nat → Option Addr) (n c : Nat → Nat) (w : World) (hG : GlyphsAt w (oa 1) (n 1)) :
    Calls Try.prog 4 #[fontV u oa n c] w fun e w' => ∃ v, e = .returned v ∧ Mod [] w w' ∧ BigRes v (n 5) := by
  have HG := Lib.hid hG
  clear hG
  unfold fontV
  generalize oa 1 = o1 at *
  generalize oa 2 = o2 at *
  generalize oa 3 = o3 at *
  generalize oa 4 = o4 at *
  generalize oa 5 = o5 at *
  generalize oa 6 = o6 at *
  generalize oa 7 = o7 at *
  generalize oa 8 = o8 at *
  generalize n 1 = n1 at *
  generalize n 2 = n2 at *
  generalize n 3 = n3 at *
  generalize n 4 = n4 at *
  generalize n 5 = n5 at *
  generalize n 6 = n6 at *
  generalize n 7 = n7 at *
  generalize n 8 = n8 at *
  generalize c 1 = c1 at *
  generalize c 2 = c2 at *
  generalize c 3 = c3 at *
  generalize c 4 = c4 at *
  generalize c 5 = c5 at *
  generalize c 6 = c6 at *
  generalize c 7 = c7 at *
  generalize c 8 = c8 at *
  go_enter Try.func4, Try.ntmps4
  go_wp2_with fail
  have HB : Hid (Mod [] w (w.alloc (.cells #[.int .i64 u, .slice o1 n1 c1, .slice o2 n2 c2, .slice o3 n3 c3, .slice o4 n4 c4, .slice o5 n5 c5, .slice o6 n6 c6, .slice o7 n7 c7, .slice o8 n8 c8] 31)) ∧ Blk (w.alloc (.cells #[.int .i64 u, .slice o1 n1 c1, .slice o2 n2 c2, .slice o3 n3 c3, .slice o4 n4 c4, .slice o5 n5 c5, .slice o6 n6 c6, .slice o7 n7 c7, .slice o8 n8 c8] 31)) w.heap.size #[.int .i64 u, .slice o1 n1 c1, .slice o2 n2 c2, .slice o3 n3 c3, .slice o4 n4 c4, .slice o5 n5 c5, .slice o6 n6 c6, .slice o7 n7 c7, .slice o8 n8 c8] 31) := ⟨(Mod.refl _ _).alloc _, Blk.new _ _ _⟩
  generalize w.alloc (.cells #[.int .i64 u, .slice o1 n1 c1, .slice o2 n2 c2, .slice o3 n3 c3, .slice o4 n4 c4, .slice o5 n5 c5, .slice o6 n6 c6, .slice o7 n7 c7, .slice o8 n8 c8] 31) = w1 at *
  generalize w.heap.size = fb at HB ⊢
  go_loopg [3] n1 (fun gk i3 wr => ∃ i : Nat, i3 = .int .i64 (i : Int) ∧ Hid (i + gk = n1) ∧ Hid (Mod [] w wr ∧ Blk wr fb #[.int .i64 u, .slice o1 n1 c1, .slice o2 n2 c2, .slice o3 n3 c3, .slice o4 n4 c4, .slice o5 n5 c5, .slice o6 n6 c6, .slice o7 n7 c7, .slice o8 n8 c8] 31))
  case atStart => exact ⟨0, rfl, by show 0 + n1 = n1; omega, HB.out⟩
  case round =>
    obtain ⟨i, rfl, hi, HR⟩ := hrel
    have b1 : wr.cell? ⟨fb, 1, none⟩ = some (.slice o1 n1 c1) := HR.out.2.cell 1
    have b5 : wr.cell? ⟨fb, 5, none⟩ = some (.slice o5 n5 c5) := HR.out.2.cell 5
    have b6 : wr.cell? ⟨fb, 6, none⟩ = some (.slice o6 n6 c6) := HR.out.2.cell 6
    clear HB
    by_cases h40 : n1 ≤ 40
    · have h41 : (n1 : Int) ≤ 40 := by omega
      have h42 : ¬ (40 : Int) < (n1 : Int) := by omega
      by_cases hn : i = n1
      · subst hn
        by_cases h5 : 6 < n5
        · have h5' : (6 : Int) < (n5 : Int) := by omega
          go_wp2_with fail
          go_ret
          exact ⟨_, rfl, HR.out.1, true, rfl, fun h => by cases h⟩
        · have h5' : ¬ (6 : Int) < (n5 : Int) := by omega
          have H5 : Hid (n5 ≤ 6) := Nat.le_of_not_lt h5
          go_wp2_with fail
          go_ret
          exact ⟨_, rfl, HR.out.1, _, rfl, fun _ => H5.out⟩
      · have hlt : i < n1 := by have := hi.out; omega
        have hlt2 : (i : Int) < (n1 : Int) := by omega
        have h0 : (0 : Int) ≤ (i : Int) := by omega
        obtain ⟨a, rfl, pa, pn, pc, da, dn, dc, g3, g7, -, -⟩ := HG.out i hlt
        rw [show ∀ x : Addr, x.add 3 = ⟨x.block, x.off + 3, none⟩ from fun x => by simp [Addr.add]] at g3
        rw [show ∀ x : Addr, x.add 7 = ⟨x.block, x.off + 7, none⟩ from fun x => by simp [Addr.add]] at g7
        have G3 := cell_kept HR.out.1 g3
        have G7 := cell_kept HR.out.1 g7
        clear g3 g7 hn hlt
        by_cases hd : 60 < dn
        · have hd' : (60 : Int) < (dn : Int) := by omega
          go_wp2_with fail
          go_ret
          exact ⟨_, rfl, HR.out.1, true, rfl, fun h => by cases h⟩
        · have hd' : ¬ (60 : Int) < (dn : Int) := by omega
          by_cases hp : 300 < pn
          · have hp' : (300 : Int) < (pn : Int) := by omega
            go_wp2_with fail
            go_ret
            exact ⟨_, rfl, HR.out.1, true, rfl, fun h => by cases h⟩
          · have hp' : ¬ (300 : Int) < (pn : Int) := by omega
            go_wp2_with fail
            go_roundg (gk - 1)
            case measure => have := hi.out; omega
            case rel =>
              refine ⟨i + 1, by rw [Int.natCast_add]; rfl, ?_, HR.out⟩
              have := hi.out; show i + 1 + (gk - 1) = n1; omega
    · have h41 : ¬ (n1 : Int) ≤ 40 := by omega
      have h42 : (40 : Int) < (n1 : Int) := by omega
      by_cases hi2 : (i : Int) < (n1 : Int)
      · go_wp2_with fail
        go_ret
        exact ⟨_, rfl, HR.out.1, true, rfl, fun h => by cases h⟩
      · go_wp2_with fail
        go_ret
        exact ⟨_, rfl, HR.out.1, true, rfl, fun h => by cases h⟩
end Go.Proofs.Ytaloembfekdkoaa

namespace Go.Proofs.Ytaloembfekdkoaa
open Go.RowKit
set_option linter.unusedVariables false
def PairsAt (w : World) (v : Value) (l : List (Int × Int)) : Prop := ∃ oa cap, v = .slice oa l.length cap ∧ ∀ i (h : i < l.length), ∃ b, oa = some ⟨b, 0, none⟩ ∧ w.cell? ⟨b, i * 2, none⟩ = some (.int .i64 l[i].1) ∧ w.cell? ⟨b, i * 2 + 1, none⟩ = some (.int .i64 l[i].2)
end Go.Proofs.Ytaloembfekdkoaa

namespace Go.Proofs.Ytaloembfekdkoaa
open Go.RowKit
set_option linter.unusedVariables false
def flatP (l : List (Int × Int)) : List Value := l.flatMap fun p => [.int .i64 p.1, .int .i64 p.2]
theorem flatP_snoc (l : List (Int × Int)) (p : Int × Int) : flatP (l ++ [p]) = flatP l ++ [.int .i64 p.1, .int .i64 p.2] := by unfold flatP; rw [List.flatMap_append]; simp
theorem flatP_at : ∀ (l : List (Int × Int)) (i : Nat) (h : i < l.length), (flatP l)[i * 2]? = some (.int .i64 l[i].1) ∧ (flatP l)[i * 2 + 1]? = some (.int .i64 l[i].2)
  | p :: r, 0, _ => ⟨rfl, rfl⟩
  | p :: r, i + 1, h => by
    have ih := flatP_at r i (by simpa using h)
    have e : flatP (p :: r) = .int .i64 p.1 :: .int .i64 p.2 :: flatP r := rfl
    rw [e, show (i + 1) * 2 = i * 2 + 1 + 1 by omega, List.getElem?_cons_succ, List.getElem?_cons_succ, List.getElem?_cons_succ, List.getElem?_cons_succ]
    exact ih
theorem pairs_of_owns {w : World} {B : Nat} {v : Value} {l : List (Int × Int)} (h : w.ownsRow B 68 2 v l.length (flatP l)) : PairsAt w v l := by
  rcases h.2 with ⟨rfl, hn⟩ | ⟨g, cap, cur, rfl, _, hg, _, _, _, ht⟩
  · exact ⟨none, 0, by rw [hn], fun i hi => by omega⟩
  · refine ⟨some ⟨g, 0, none⟩, cap, rfl, fun i hi => ⟨g, rfl, ?_⟩⟩
    obtain ⟨h1, h2⟩ := flatP_at l i hi
    rw [← ht, List.getElem?_take, if_pos (by omega)] at h1 h2
    exact ⟨by simpa [World.cell?, hg] using h1, by simpa [World.cell?, hg] using h2⟩
end Go.Proofs.Ytaloembfekdkoaa

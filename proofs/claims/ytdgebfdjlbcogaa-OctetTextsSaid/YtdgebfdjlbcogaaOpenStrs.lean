/- Opening a []string that came in. -/
import Derived.Test.YtdgebfdjlbcogaaOctTexts
import Derived.ProofKit
import Derived.SliceStrings
namespace Go.Proofs.Ytdgebfdjlbcogaa
open Go.ChangeShapes Go.WideShapes Go.ChangeAt Go.RowKit

theorem strs_open {H : Type} {enc : TypeId × Value → H} {W : World} {oa : Option Addr} {n cap : Nat} {d : DataW H} {ps : List MemPlace}
    (h : DataW.Trod enc Try.prog W 0 (fun _ => true) true 36 (.slice oa n cap) d ps) (hlt : ∀ x ∈ ps, x.block < W.heap.size) : ∃ ss, Strs W oa n ss := by
  obtain ⟨fuel, hf⟩ := h
  rcases open_strings Try.underlying36 Try.underlying9 (by kernel_rfl) hf with ⟨hcs, _⟩ | ⟨x, l, c, ss, hcs, _, hl, hm, hz, hx, hcell, hws⟩
  · simp [Value.cells] at hcs
    obtain ⟨rfl, rfl, rfl⟩ := hcs
    exact ⟨[], rfl, by decide, by simp, by simp⟩
  · simp [Value.cells] at hcs
    obtain ⟨rfl, rfl, rfl⟩ := hcs
    simp only [Prod.mk.injEq] at hx
    obtain ⟨rfl, rfl⟩ := hx
    simp only [if_true] at hz
    refine ⟨ss.take n, by rw [List.length_take]; omega, by omega, fun s hs => hws s (List.mem_of_mem_take hs), fun h0 => ?_⟩
    obtain ⟨b, off, spot⟩ := x
    have hs0 := hcell 0 (by omega)
    have hspot : spot = none := by simpa [Addr.add] using World.cell?_spot hs0
    subst hspot
    refine ⟨b, off, rfl, ?_, fun i hi => ?_⟩
    · rcases Nat.lt_or_ge b W.heap.size with h' | h'
      · exact h'
      · exfalso
        have : W.cell? ⟨b, off, none⟩ = none := by
          unfold World.cell?
          rw [show W.heap[b]? = none by simp; exact h']
        simp [Addr.add] at hs0
        rw [this] at hs0; simp at hs0
    · have hi' : i < ss.length := by rw [List.length_take] at hi; omega
      have := hcell i hi'
      rw [Go.WideShapes.add_plain] at this
      rw [this, List.getElem_take]
      simp [List.getD, hi']
end Go.Proofs.Ytdgebfdjlbcogaa

/- Opening a []Call that came in. -/
import Derived.Test.YtdgebfdjlbcogaaOctPlays
import Derived.ProofKit
import Derived.OpenShut
import Derived.Deep.SlicePairs
namespace Go.Proofs.Ytdgebfdjlbcogaa
open Go.ChangeShapes Go.WideShapes Go.ChangeAt Go.RowKit Go.Deep

theorem calls_open {H : Type} {enc : TypeId × Value → H} {W : World} {oa : Option Addr} {n cap : Nat} {d : DataW H} {ps : List MemPlace}
    (h : DataW.Trod enc Try.prog W 0 (fun _ => true) true 41 (.slice oa n cap) d ps) (_hlt : ∀ x ∈ ps, x.block < W.heap.size) : ∃ cs, CallRow W oa n cs := by
  obtain ⟨fuel, hf⟩ := h
  rcases open_slice_pairs Try.underlying41 Try.underlying48 (by kernel_rfl) rfl rfl (by kernel_rfl) (by kernel_rfl) hf with ⟨hcs, _⟩ | ⟨x, l, c, m, k, V0, V1, D0, D1, P0, P1, hcs, _, hl, hm, hmm, hx, hcell⟩
  · simp [Value.cells] at hcs
    obtain ⟨rfl, rfl, rfl⟩ := hcs
    exact ⟨[], rfl, by decide, by simp⟩
  · simp [Value.cells] at hcs
    obtain ⟨rfl, rfl, rfl⟩ := hcs
    simp only [if_true] at hmm
    subst hmm
    have each : ∀ i, i < n → ∃ q : Int × Int, W.cell? (x.add (i * 2)) = some (.int .i64 q.1) ∧ W.cell? (x.add (i * 2 + 1)) = some (.int .i64 q.2) := by
      intro i hi
      obtain ⟨h1, h2, h3, h4⟩ := hcell i (by omega)
      obtain ⟨a, e0, _, _⟩ := DataW.trod_int Try.underlying3 h3
      obtain ⟨b, e1, _, _⟩ := DataW.trod_int Try.underlying3 h4
      simp at e0 e1
      exact ⟨(a, b), by rw [h1, e0], by rw [h2, e1]⟩
    obtain ⟨q, hq⟩ : ∃ q : Nat → Int × Int, ∀ i, i < n → W.cell? (x.add (i * 2)) = some (.int .i64 (q i).1) ∧ W.cell? (x.add (i * 2 + 1)) = some (.int .i64 (q i).2) := by
      refine ⟨fun i => if h : i < n then Classical.choose (each i h) else (0, 0), fun i hi => ?_⟩
      simp only [hi, dif_pos]
      exact Classical.choose_spec (each i hi)
    refine ⟨(List.range n).map q, by simp, by omega, fun h0 => ?_⟩
    obtain ⟨b, off, spot⟩ := x
    have hs0 := (hq 0 h0).1
    have hspot : spot = none := by simpa [Addr.add] using World.cell?_spot hs0
    subst hspot
    refine ⟨b, off, rfl, ?_, fun i hi => ?_⟩
    · rcases Nat.lt_or_ge b W.heap.size with h' | h'
      · exact h'
      · exfalso
        have : W.cell? ⟨b, off, none⟩ = none := by
          unfold World.cell?
          rw [show W.heap[b]? = none by simp; exact h']
        simp [Addr.add] at hs0
        rw [this] at hs0; simp at hs0
    · have hi' : i < n := by simpa using hi
      have := hq i hi'
      rw [Go.WideShapes.add_plain, Go.WideShapes.add_plain, ← Nat.add_assoc] at this
      simpa using this
end Go.Proofs.Ytdgebfdjlbcogaa

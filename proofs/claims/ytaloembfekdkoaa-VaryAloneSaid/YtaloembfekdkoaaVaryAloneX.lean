/- VaryAlone: its arguments, opened; the walk in the form that the frame takes. -/
import Derived.Test.YtaloembfekdkoaaVaryAloneW
namespace Go.Proofs.Ytaloembfekdkoaa
open Go.RowKit
set_option linter.unusedVariables false
def FontS (W : World) (v : Value) (F : DFont) : Prop := ∃ cs : List Value, v = .agg cs.toArray ∧ RFont 0 W cs F ∧ QFont F
section
open Go.ChangeShapes Go.WideShapes Go.ChangeAt Go.Joins
variable {H : Type} {enc : TypeId × Value → H} {W : World} {base : Nat}
set_option maxRecDepth 100000 in
theorem font_inS {v : Value} {d : DataW H} {ps : List MemPlace} (hv : Value.okWide Try.prog W .any base 31 v) (h : DataW.Trod enc Try.prog W 0 (fun _ => true) true 31 v d ps) (hw : Wt Try.prog 31 d) : ∃ F, FontS W v F := by
  obtain ⟨F, cs, e, h1, h2⟩ := Font_inW hv h hw
  exact ⟨F, cs, e, h1, h2⟩
set_option maxRecDepth 100000 in
theorem place_in {oa : Option Addr} {n cap : Nat} {d : DataW H} {ps : List MemPlace} (h : DataW.Trod enc Try.prog W 0 (fun _ => true) true 29 (.slice oa n cap) d ps) (_hlt : ∀ x ∈ ps, x.block < W.heap.size) : ∃ xs : List Int, Rows 1 RInt 0 W (.slice oa n cap) xs := by
  obtain ⟨fuel, h⟩ := h
  exact rowsOf Try.underlying29 cells_int (fun _ _ _ h => int_open h) (show DataW.trod enc Try.prog W 0 (fun _ => true) true fuel 29 [.slice oa n cap] = some _ from h)
end
theorem hd_of {k : Nat} {α : Type} {R : Nat → World → List Value → α → Prop} {B : Nat} {w : World} {v : Value} {l : List α} (h : Rows k R B w v l) : ∃ d : Hd, v = .slice d.a d.n d.c := by
  obtain ⟨oa, c, e, _⟩ := h.form
  exact ⟨⟨oa, _, c⟩, e⟩
theorem alone_walkS (v : Value) (F : DFont) (oa : Option Addr) (n c : Nat) (xs : List Int) (w : World) (hF : FontS w v F) (hP : Rows 1 RInt 0 w (.slice oa n c) xs) :
    Calls Try.prog 3 #[v, .slice oa n c] w fun e w' => e = .returned (.bool true) ∧ Below w.heap.size w w' := by
  obtain ⟨cs, rfl, hR, hq⟩ := hF
  have hR0 := hR
  obtain ⟨w1, w2, w3, w4, w5, w6, w7, w8, rfl, hu, h1, h2, h3, h4, h5, h6, h7, h8⟩ := hR
  obtain ⟨d1, rfl⟩ := hd_of h1
  obtain ⟨d2, rfl⟩ := hd_of h2
  obtain ⟨d3, rfl⟩ := hd_of h3
  obtain ⟨d4, rfl⟩ := hd_of h4
  obtain ⟨d5, rfl⟩ := hd_of h5
  obtain ⟨d6, rfl⟩ := hd_of h6
  obtain ⟨d7, rfl⟩ := hd_of h7
  obtain ⟨d8, rfl⟩ := hd_of h8
  exact alone_walk F.unit d1 d2 d3 d4 d5 d6 d7 d8 ⟨oa, n, c⟩ F rfl xs w hR0 hq hP
end Go.Proofs.Ytaloembfekdkoaa

/- Opening ratios and arrays of numbers that came in by value. -/
import Derived.Test.YtiigcilmpclclaaMono
import Derived.ProofKit
import Derived.OpenShut
import Derived.Lib.SmallJoins
namespace Go.Proofs.Ytiigcilmpclclaa
open Go.ChangeShapes Go.WideShapes Go.ChangeAt Go.RowKit Go.Joins

theorem cells_Ratio : Try.prog.cellsOf 24 = 2 := by kernel_rfl
theorem cells_A2 : Try.prog.cellsOf 40 = 2 := by kernel_rfl
theorem cells_I2 : Try.prog.cellsOf 34 = 2 := by kernel_rfl
theorem cells_A3 : Try.prog.cellsOf 31 = 3 := by kernel_rfl
theorem cells_i64 : Try.prog.cellsOf 2 = 1 := by kernel_rfl
theorem cells_int : Try.prog.cellsOf 3 = 1 := by kernel_rfl

section
variable {H : Type} {enc : TypeId × Value → H} {W : World} {base : Nat} {v : Value} {d : DataW H} {ps : List MemPlace}

theorem ratio_open (hv : Value.okWide Try.prog W .any base 24 v) (h : DataW.Trod enc Try.prog W 0 (fun _ => true) true 24 v d ps) :
    ∃ x y : Int, v = .agg #[.int .i64 x, .int .i64 y] ∧ (-9223372036854775808 ≤ x ∧ x ≤ 9223372036854775807) ∧ (-9223372036854775808 ≤ y ∧ y ≤ 9223372036854775807) := by
  obtain ⟨c0, c1, y0, y1, m, rfl, rfl, rfl, hy0, hy1⟩ := open_agg2 Try.underlying24 (by kernel_rfl) cells_Ratio hv h
  obtain ⟨a, e0, rfl, wa⟩ := DataW.trod_int Try.underlying2 hy0
  obtain ⟨b, e1, rfl, wb⟩ := DataW.trod_int Try.underlying2 hy1
  simp at e0 e1
  subst e0 e1
  exact ⟨a, b, rfl, bounds_i64 wa, bounds_i64 wb⟩

theorem okWide_array {P : Program} {w : World} {r : Reach} {t : TypeId} {n : Nat} {e : TypeId} (ht : P.underlying t = some (.array n e)) (h : Value.okWide P w r base t v) : ∃ cs, v = .agg cs ∧ cs.size = P.cellsOf t := by
  simp only [Value.okWide, ht] at h
  obtain ⟨cs, h1, h2, _⟩ := h
  exact ⟨cs, h1, h2⟩

theorem arr2_any {t e : TypeId} (ht : Try.prog.underlying t = some (.array 2 e)) (he : Try.prog.underlying e = some (.int .i64)) (ct : Try.prog.cellsOf t = 2) (ce : Try.prog.cellsOf e = 1)
    (hv : Value.okWide Try.prog W .any base t v) (h : DataW.Trod enc Try.prog W 0 (fun _ => true) true t v d ps) :
    ∃ x y : Int, v = .agg #[.int .i64 x, .int .i64 y] ∧ (-9223372036854775808 ≤ x ∧ x ≤ 9223372036854775807) ∧ (-9223372036854775808 ≤ y ∧ y ≤ 9223372036854775807) := by
  obtain ⟨cs, rfl, hsz⟩ := okWide_array ht hv
  obtain ⟨c0, c1, rfl⟩ := array2 (hsz.trans ct)
  obtain ⟨fuel, hf⟩ := h
  obtain ⟨xs, m, _, hx, _, hl, hi⟩ := DataW.trod_array ht hf
  match xs, hl with
  | [y0, y1], _ =>
    have h0 := hi 0 (by omega)
    have h1 := hi 1 (by omega)
    simp [Value.cells, ce] at h0 h1
    obtain ⟨a, e0, rfl, wa⟩ := DataW.trod_int he h0
    obtain ⟨b, e1, rfl, wb⟩ := DataW.trod_int he h1
    simp at e0 e1
    subst e0 e1
    exact ⟨a, b, rfl, bounds_i64 wa, bounds_i64 wb⟩
theorem arr2_open (hv : Value.okWide Try.prog W .any base 40 v) (h : DataW.Trod enc Try.prog W 0 (fun _ => true) true 40 v d ps) :
    ∃ x y : Int, v = .agg #[.int .i64 x, .int .i64 y] ∧ (-9223372036854775808 ≤ x ∧ x ≤ 9223372036854775807) ∧ (-9223372036854775808 ≤ y ∧ y ≤ 9223372036854775807) :=
  arr2_any Try.underlying40 Try.underlying2 cells_A2 cells_i64 hv h
theorem arr2i_open (hv : Value.okWide Try.prog W .any base 34 v) (h : DataW.Trod enc Try.prog W 0 (fun _ => true) true 34 v d ps) :
    ∃ x y : Int, v = .agg #[.int .i64 x, .int .i64 y] ∧ (-9223372036854775808 ≤ x ∧ x ≤ 9223372036854775807) ∧ (-9223372036854775808 ≤ y ∧ y ≤ 9223372036854775807) :=
  arr2_any Try.underlying34 Try.underlying3 cells_I2 cells_int hv h
theorem arr3_open (hv : Value.okWide Try.prog W .any base 31 v) (h : DataW.Trod enc Try.prog W 0 (fun _ => true) true 31 v d ps) :
    ∃ x y z : Int, v = .agg #[.int .i64 x, .int .i64 y, .int .i64 z] ∧ (-9223372036854775808 ≤ x ∧ x ≤ 9223372036854775807) ∧ (-9223372036854775808 ≤ y ∧ y ≤ 9223372036854775807) ∧ (-9223372036854775808 ≤ z ∧ z ≤ 9223372036854775807) := by
  obtain ⟨cs, rfl, hsz⟩ := okWide_array Try.underlying31 hv
  obtain ⟨c0, c1, c2, rfl⟩ := array3 (hsz.trans cells_A3)
  obtain ⟨fuel, hf⟩ := h
  obtain ⟨xs, m, _, hx, _, hl, hi⟩ := DataW.trod_array Try.underlying31 hf
  match xs, hl with
  | [y0, y1, y2], _ =>
    have h0 := hi 0 (by omega)
    have h1 := hi 1 (by omega)
    have h2 := hi 2 (by omega)
    simp [Value.cells, cells_i64] at h0 h1 h2
    obtain ⟨a, e0, rfl, wa⟩ := DataW.trod_int Try.underlying2 h0
    obtain ⟨b, e1, rfl, wb⟩ := DataW.trod_int Try.underlying2 h1
    obtain ⟨c, e2, rfl, wc⟩ := DataW.trod_int Try.underlying2 h2
    simp at e0 e1 e2
    subst e0 e1 e2
    exact ⟨a, b, c, rfl, bounds_i64 wa, bounds_i64 wb, bounds_i64 wc⟩
end
end Go.Proofs.Ytiigcilmpclclaa

/- Opening a font that came in by value: its cells; the axes and the glyphs in memory. -/
import Derived.Test.YtngeijdfpgmcfaaMono
import Derived.ProofKit
import Derived.OpenShut
import Derived.Lib.SmallJoins
namespace Go.Proofs.Ytngeijdfpgmcfaa
open Go.ChangeShapes Go.WideShapes Go.ChangeAt Go.RowKit Go.Joins
set_option linter.unusedVariables false

section
variable {H : Type} {enc : TypeId × Value → H} {W : World} {base : Nat} {sp : Nat → Bool} {held : Bool}

theorem slice_cell {t e : TypeId} {fuel : Nat} {cs : List Value} {x : DataW H × List MemPlace} (ht : Try.prog.underlying t = some (.slice e)) (h : DataW.trod enc Try.prog W 0 sp held fuel t cs = some x) :
    ∃ oa n cap, cs = [.slice oa n cap] ∧ n ≤ maxLen := by
  rcases DataW.trod_slice ht h with ⟨rfl, _⟩ | ⟨a, len, cap, el, rest, m, _, rfl, _, _, h1, h2, _⟩
  · exact ⟨none, 0, 0, rfl, by decide⟩
  · exact ⟨some a, len, cap, rfl, by omega⟩

/-- A row of elements that came in: the cells of each. -/
theorem rows_open {t e : TypeId} {fuel : Nat} {v : Value} {x : DataW H × List MemPlace} (ht : Try.prog.underlying t = some (.slice e)) (h : DataW.trod enc Try.prog W 0 sp held fuel t [v] = some x) :
    ∃ oa n cap, v = .slice oa n cap ∧ n ≤ maxLen ∧ ∀ i, i < n → ∃ a, oa = some a ∧ ∃ cs y m, cs.length = Try.prog.cellsOf e ∧ (∀ j, j < Try.prog.cellsOf e → W.cell? ((a.add (i * Try.prog.cellsOf e)).add j) = cs[j]?) ∧ DataW.trod enc Try.prog W 0 sp held m e cs = some y := by
  rcases DataW.trod_slice ht h with ⟨h0, _⟩ | ⟨a, len, cap, el, rest, m, _, hc, _, _, h1, h2, h3, h4, _⟩
  · obtain rfl : v = .slice none 0 0 := by simpa using h0
    exact ⟨none, 0, 0, rfl, by decide, fun i hi => by omega⟩
  · obtain rfl : v = .slice (some a) len cap := by simpa using hc
    refine ⟨some a, len, cap, rfl, by omega, fun i hi => ⟨a, rfl, ?_⟩⟩
    have h5 := h4 i hi
    rw [List.getElem?_eq_getElem (by omega)] at h5
    simp only [Option.bind_eq_some_iff] at h5
    obtain ⟨cs, hcs, hy⟩ := h5
    obtain ⟨-, hlen, hcell⟩ := World.cells?_some hcs
    exact ⟨cs, _, m, hlen, hcell, hy⟩

theorem cells_Axis : Try.prog.cellsOf 54 = 4 := by kernel_rfl
theorem cells_Glyph : Try.prog.cellsOf 48 = 9 := by kernel_rfl
theorem cells_Font : Try.prog.cellsOf 31 = 9 := by kernel_rfl
theorem cells_Outline : Try.prog.cellsOf 42 = 2 := by kernel_rfl

set_option maxRecDepth 100000 in
/-- An axis' cells. -/
theorem axis_cells {fuel : Nat} {cs : List Value} {x : DataW H × List MemPlace} (h : DataW.trod enc Try.prog W 0 sp held fuel 54 cs = some x) :
    ∃ (s : ByteArray) (l d m : Int), cs = [.string s, .int .i64 l, .int .i64 d, .int .i64 m] ∧ (-9223372036854775808 ≤ l ∧ l ≤ 9223372036854775807) ∧ (-9223372036854775808 ≤ d ∧ d ≤ 9223372036854775807) ∧ (-9223372036854775808 ≤ m ∧ m ≤ 9223372036854775807) := by
  obtain ⟨xs, n, _, _, hl, hx, hf⟩ := DataW.trod_struct Try.underlying54 h
  rw [cells_Axis] at hl
  have k1 : Try.prog.cellsOf 3 = 1 := by kernel_rfl
  have k2 : Try.prog.cellsOf 9 = 1 := by kernel_rfl
  obtain ⟨c0, c1, c2, c3, rfl⟩ : ∃ c0 c1 c2 c3, cs = [c0, c1, c2, c3] := by
    match cs, hl with
    | [a, b, c, d], _ => exact ⟨a, b, c, d, rfl⟩
  obtain ⟨x0, x1, x2, x3, rfl⟩ : ∃ x0 x1 x2 x3, xs = [x0, x1, x2, x3] := by
    match xs, hx with
    | [a, b, c, d], _ => exact ⟨a, b, c, d, rfl⟩
  have f0 := hf 0 _ rfl
  have f1 := hf 1 _ rfl
  have f2 := hf 2 _ rfl
  have f3 := hf 3 _ rfl
  change DataW.trod enc Try.prog W 0 sp held n 9 (([c0, c1, c2, c3].drop 0).take (Try.prog.cellsOf 9)) = _ at f0
  rw [k2] at f0
  change DataW.trod enc Try.prog W 0 sp held n 3 (([c0, c1, c2, c3].drop 1).take (Try.prog.cellsOf 3)) = _ at f1
  rw [k1] at f1
  change DataW.trod enc Try.prog W 0 sp held n 3 (([c0, c1, c2, c3].drop 2).take (Try.prog.cellsOf 3)) = _ at f2
  rw [k1] at f2
  change DataW.trod enc Try.prog W 0 sp held n 3 (([c0, c1, c2, c3].drop 3).take (Try.prog.cellsOf 3)) = _ at f3
  rw [k1] at f3
  obtain ⟨s, e0, _, _⟩ := DataW.trod_string Try.underlying9 (show DataW.trod enc Try.prog W 0 sp held n 9 [c0] = some x0 from f0)
  obtain ⟨l, e1, _, w1⟩ := DataW.trod_int Try.underlying3 (show DataW.trod enc Try.prog W 0 sp held n 3 [c1] = some x1 from f1)
  obtain ⟨d, e2, _, w2⟩ := DataW.trod_int Try.underlying3 (show DataW.trod enc Try.prog W 0 sp held n 3 [c2] = some x2 from f2)
  obtain ⟨m, e3, _, w3⟩ := DataW.trod_int Try.underlying3 (show DataW.trod enc Try.prog W 0 sp held n 3 [c3] = some x3 from f3)
  simp at e0 e1 e2 e3
  subst e0 e1 e2 e3
  exact ⟨s, l, d, m, rfl, bounds_i64 w1, bounds_i64 w2, bounds_i64 w3⟩

set_option maxRecDepth 100000 in
/-- A glyph's cells: the rows of its points, and of its deltas, are slices. -/
theorem glyph_cells {fuel : Nat} {cs : List Value} {x : DataW H × List MemPlace} (h : DataW.trod enc Try.prog W 0 sp held fuel 48 cs = some x) :
    ∃ oa n cap ob m cap', cs[3]? = some (.slice oa n cap) ∧ cs[7]? = some (.slice ob m cap') ∧ n ≤ maxLen ∧ m ≤ maxLen := by
  obtain ⟨xs, n, _, _, hl, hx, hf⟩ := DataW.trod_struct Try.underlying48 h
  rw [cells_Glyph] at hl
  have k3 : Try.prog.cellsOf 40 = 1 := by kernel_rfl
  have k4 : Try.prog.cellsOf 45 = 1 := by kernel_rfl
  have k5 : Try.prog.cellsOf 42 = 2 := cells_Outline
  obtain ⟨c0, c1, c2, c3, c4, c5, c6, c7, c8, rfl⟩ : ∃ c0 c1 c2 c3 c4 c5 c6 c7 c8, cs = [c0, c1, c2, c3, c4, c5, c6, c7, c8] := by
    match cs, hl with
    | [a, b, c, d, e, f, g, h, i], _ => exact ⟨a, b, c, d, e, f, g, h, i, rfl⟩
  obtain ⟨x0, x1, x2, x3, x4, x5, x6, x7, rfl⟩ : ∃ x0 x1 x2 x3 x4 x5 x6 x7, xs = [x0, x1, x2, x3, x4, x5, x6, x7] := by
    match xs, hx with
    | [a, b, c, d, e, f, g, h], _ => exact ⟨a, b, c, d, e, f, g, h, rfl⟩
  have f3 := hf 3 _ rfl
  have f6 := hf 6 _ rfl
  change DataW.trod enc Try.prog W 0 sp held n 42 (([c0, c1, c2, c3, c4, c5, c6, c7, c8].drop 3).take (Try.prog.cellsOf 42)) = _ at f3
  change DataW.trod enc Try.prog W 0 sp held n 45 (([c0, c1, c2, c3, c4, c5, c6, c7, c8].drop 7).take (Try.prog.cellsOf 45)) = _ at f6
  rw [k5] at f3
  rw [k4] at f6
  obtain ⟨ys, n2, _, _, hl2, hy, hg⟩ := DataW.trod_struct Try.underlying42 (show DataW.trod enc Try.prog W 0 sp held n 42 [c3, c4] = some x3 from f3)
  obtain ⟨y0, y1, rfl⟩ : ∃ y0 y1, ys = [y0, y1] := by
    match ys, hy with
    | [a, b], _ => exact ⟨a, b, rfl⟩
  have g0 := hg 0 _ rfl
  change DataW.trod enc Try.prog W 0 sp held n2 40 (([c3, c4].drop 0).take (Try.prog.cellsOf 40)) = _ at g0
  rw [k3] at g0
  obtain ⟨oa, a1, a2, e3, h3⟩ := slice_cell Try.underlying40 (show DataW.trod enc Try.prog W 0 sp held n2 40 [c3] = some y0 from g0)
  obtain ⟨ob, b1, b2, e7, h7⟩ := slice_cell Try.underlying45 (show DataW.trod enc Try.prog W 0 sp held n 45 [c7] = some x6 from f6)
  simp at e3 e7
  subst e3 e7
  exact ⟨oa, a1, a2, ob, b1, b2, rfl, rfl, h3, h7⟩

set_option maxRecDepth 100000 in
/-- A font that came in by value. -/
theorem font_open {v : Value} {d : DataW H} {ps : List MemPlace} (hv : Value.okWide Try.prog W .any base 31 v) (h : DataW.Trod enc Try.prog W 0 (fun _ => true) true 31 v d ps) :
    ∃ (u : Int) (oa : Nat → Option Addr) (n c : Nat → Nat), v = .agg #[.int .i64 u, .slice (oa 1) (n 1) (c 1), .slice (oa 2) (n 2) (c 2), .slice (oa 3) (n 3) (c 3), .slice (oa 4) (n 4) (c 4), .slice (oa 5) (n 5) (c 5), .slice (oa 6) (n 6) (c 6), .slice (oa 7) (n 7) (c 7), .slice (oa 8) (n 8) (c 8)] ∧
      (n 1 ≤ maxLen ∧ n 5 ≤ maxLen ∧ n 6 ≤ maxLen) ∧
      (∀ i, i < n 1 → ∃ a, oa 1 = some a ∧ ∃ pa pn pc da dn dc, W.cell? ((a.add (i * 9)).add 3) = some (.slice pa pn pc) ∧ W.cell? ((a.add (i * 9)).add 7) = some (.slice da dn dc) ∧ pn ≤ maxLen ∧ dn ≤ maxLen) ∧
      (∀ i, i < n 5 → ∃ a, oa 5 = some a ∧ ∃ (s : ByteArray) (l d m : Int), W.cell? ((a.add (i * 4)).add 0) = some (.string s) ∧ W.cell? ((a.add (i * 4)).add 1) = some (.int .i64 l) ∧ W.cell? ((a.add (i * 4)).add 2) = some (.int .i64 d) ∧ W.cell? ((a.add (i * 4)).add 3) = some (.int .i64 m) ∧
        (-9223372036854775808 ≤ l ∧ l ≤ 9223372036854775807) ∧ (-9223372036854775808 ≤ d ∧ d ≤ 9223372036854775807) ∧ (-9223372036854775808 ≤ m ∧ m ≤ 9223372036854775807)) := by
  obtain ⟨arr, rfl, _⟩ := okWide_struct Try.underlying31 hv
  obtain ⟨fuel, h⟩ := h
  obtain ⟨xs, n, _, _, hl, hx, hf⟩ := DataW.trod_struct Try.underlying31 h
  rw [cells_Font] at hl
  obtain ⟨c0, c1, c2, c3, c4, c5, c6, c7, c8, hcs⟩ : ∃ c0 c1 c2 c3 c4 c5 c6 c7 c8, (Value.agg arr).cells.toList = [c0, c1, c2, c3, c4, c5, c6, c7, c8] := by
    match (Value.agg arr).cells.toList, hl with
    | [a, b, c, d, e, f, g, h, i], _ => exact ⟨a, b, c, d, e, f, g, h, i, rfl⟩
  rw [hcs] at hf
  obtain ⟨x0, x1, x2, x3, x4, x5, x6, x7, x8, rfl⟩ : ∃ x0 x1 x2 x3 x4 x5 x6 x7 x8, xs = [x0, x1, x2, x3, x4, x5, x6, x7, x8] := by
    match xs, hx with
    | [a, b, c, d, e, f, g, h, i], _ => exact ⟨a, b, c, d, e, f, g, h, i, rfl⟩
  have f0 := hf 0 _ rfl
  change DataW.trod enc Try.prog W 0 (fun _ => true) true n 3 (([c0, c1, c2, c3, c4, c5, c6, c7, c8].drop 0).take (Try.prog.cellsOf 3)) = _ at f0
  rw [show Try.prog.cellsOf 3 = 1 by kernel_rfl] at f0
  have f1 := hf 1 _ rfl
  change DataW.trod enc Try.prog W 0 (fun _ => true) true n 22 (([c0, c1, c2, c3, c4, c5, c6, c7, c8].drop 1).take (Try.prog.cellsOf 22)) = _ at f1
  rw [show Try.prog.cellsOf 22 = 1 by kernel_rfl] at f1
  have f2 := hf 2 _ rfl
  change DataW.trod enc Try.prog W 0 (fun _ => true) true n 23 (([c0, c1, c2, c3, c4, c5, c6, c7, c8].drop 2).take (Try.prog.cellsOf 23)) = _ at f2
  rw [show Try.prog.cellsOf 23 = 1 by kernel_rfl] at f2
  have f3 := hf 3 _ rfl
  change DataW.trod enc Try.prog W 0 (fun _ => true) true n 24 (([c0, c1, c2, c3, c4, c5, c6, c7, c8].drop 3).take (Try.prog.cellsOf 24)) = _ at f3
  rw [show Try.prog.cellsOf 24 = 1 by kernel_rfl] at f3
  have f4 := hf 4 _ rfl
  change DataW.trod enc Try.prog W 0 (fun _ => true) true n 25 (([c0, c1, c2, c3, c4, c5, c6, c7, c8].drop 4).take (Try.prog.cellsOf 25)) = _ at f4
  rw [show Try.prog.cellsOf 25 = 1 by kernel_rfl] at f4
  have f5 := hf 5 _ rfl
  change DataW.trod enc Try.prog W 0 (fun _ => true) true n 26 (([c0, c1, c2, c3, c4, c5, c6, c7, c8].drop 5).take (Try.prog.cellsOf 26)) = _ at f5
  rw [show Try.prog.cellsOf 26 = 1 by kernel_rfl] at f5
  have f6 := hf 6 _ rfl
  change DataW.trod enc Try.prog W 0 (fun _ => true) true n 27 (([c0, c1, c2, c3, c4, c5, c6, c7, c8].drop 6).take (Try.prog.cellsOf 27)) = _ at f6
  rw [show Try.prog.cellsOf 27 = 1 by kernel_rfl] at f6
  have f7 := hf 7 _ rfl
  change DataW.trod enc Try.prog W 0 (fun _ => true) true n 28 (([c0, c1, c2, c3, c4, c5, c6, c7, c8].drop 7).take (Try.prog.cellsOf 28)) = _ at f7
  rw [show Try.prog.cellsOf 28 = 1 by kernel_rfl] at f7
  have f8 := hf 8 _ rfl
  change DataW.trod enc Try.prog W 0 (fun _ => true) true n 29 (([c0, c1, c2, c3, c4, c5, c6, c7, c8].drop 8).take (Try.prog.cellsOf 29)) = _ at f8
  rw [show Try.prog.cellsOf 29 = 1 by kernel_rfl] at f8
  obtain ⟨u, e0, _, _⟩ := DataW.trod_int Try.underlying3 (show DataW.trod enc Try.prog W 0 (fun _ => true) true n 3 [c0] = some x0 from f0)
  obtain ⟨o2, n2, q2, e2, m2⟩ := slice_cell Try.underlying23 (show DataW.trod enc Try.prog W 0 (fun _ => true) true n 23 [c2] = some x2 from f2)
  obtain ⟨o3, n3, q3, e3, m3⟩ := slice_cell Try.underlying24 (show DataW.trod enc Try.prog W 0 (fun _ => true) true n 24 [c3] = some x3 from f3)
  obtain ⟨o4, n4, q4, e4, m4⟩ := slice_cell Try.underlying25 (show DataW.trod enc Try.prog W 0 (fun _ => true) true n 25 [c4] = some x4 from f4)
  obtain ⟨o6, n6, q6, e6, m6⟩ := slice_cell Try.underlying27 (show DataW.trod enc Try.prog W 0 (fun _ => true) true n 27 [c6] = some x6 from f6)
  obtain ⟨o7, n7, q7, e7, m7⟩ := slice_cell Try.underlying28 (show DataW.trod enc Try.prog W 0 (fun _ => true) true n 28 [c7] = some x7 from f7)
  obtain ⟨o8, n8, q8, e8, m8⟩ := slice_cell Try.underlying29 (show DataW.trod enc Try.prog W 0 (fun _ => true) true n 29 [c8] = some x8 from f8)
  obtain ⟨o1, n1, q1, e1, m1, hG⟩ := rows_open Try.underlying22 (show DataW.trod enc Try.prog W 0 (fun _ => true) true n 22 [c1] = some x1 from f1)
  obtain ⟨o5, n5, q5, e5, m5, hA⟩ := rows_open Try.underlying26 (show DataW.trod enc Try.prog W 0 (fun _ => true) true n 26 [c5] = some x5 from f5)
  rw [cells_Glyph] at hG
  rw [cells_Axis] at hA
  simp at e0 e2 e3 e4 e6 e7 e8
  subst e0 e1 e2 e3 e4 e5 e6 e7 e8
  refine ⟨u, fun k => if k = 1 then o1 else if k = 2 then o2 else if k = 3 then o3 else if k = 4 then o4 else if k = 5 then o5 else if k = 6 then o6 else if k = 7 then o7 else o8,
    fun k => if k = 1 then n1 else if k = 2 then n2 else if k = 3 then n3 else if k = 4 then n4 else if k = 5 then n5 else if k = 6 then n6 else if k = 7 then n7 else n8,
    fun k => if k = 1 then q1 else if k = 2 then q2 else if k = 3 then q3 else if k = 4 then q4 else if k = 5 then q5 else if k = 6 then q6 else if k = 7 then q7 else q8, ?_, ⟨m1, m5, m6⟩, ?_, ?_⟩
  · have : arr.toList = (#[.int .i64 u, .slice o1 n1 q1, .slice o2 n2 q2, .slice o3 n3 q3, .slice o4 n4 q4, .slice o5 n5 q5, .slice o6 n6 q6, .slice o7 n7 q7, .slice o8 n8 q8] : Array Value).toList := hcs
    rw [Array.toList_inj.1 this]
    rfl
  · intro i hi
    obtain ⟨a, ha, cs, y, m, hlen, hcell, hy⟩ := hG i hi
    obtain ⟨pa, pn, pc, da, dn, dc, g3, g7, hp, hd⟩ := glyph_cells hy
    exact ⟨a, ha, pa, pn, pc, da, dn, dc, (hcell 3 (by decide)).trans g3, (hcell 7 (by decide)).trans g7, hp, hd⟩
  · intro i hi
    obtain ⟨a, ha, cs, y, m, hlen, hcell, hy⟩ := hA i hi
    obtain ⟨s, l, d, mx, rfl, b1, b2, b3⟩ := axis_cells hy
    exact ⟨a, ha, s, l, d, mx, hcell 0 (by decide), hcell 1 (by decide), hcell 2 (by decide), hcell 3 (by decide), b1, b2, b3⟩

set_option maxRecDepth 100000 in
/-- What is known of a font that came in by value. -/
def FontIn (W : World) (v : Value) : Prop :=
    ∃ (u : Int) (oa : Nat → Option Addr) (n c : Nat → Nat), v = .agg #[.int .i64 u, .slice (oa 1) (n 1) (c 1), .slice (oa 2) (n 2) (c 2), .slice (oa 3) (n 3) (c 3), .slice (oa 4) (n 4) (c 4), .slice (oa 5) (n 5) (c 5), .slice (oa 6) (n 6) (c 6), .slice (oa 7) (n 7) (c 7), .slice (oa 8) (n 8) (c 8)] ∧
      (n 1 ≤ maxLen ∧ n 5 ≤ maxLen ∧ n 6 ≤ maxLen) ∧
      (∀ i, i < n 1 → ∃ a, oa 1 = some a ∧ ∃ pa pn pc da dn dc, W.cell? ((a.add (i * 9)).add 3) = some (.slice pa pn pc) ∧ W.cell? ((a.add (i * 9)).add 7) = some (.slice da dn dc) ∧ pn ≤ maxLen ∧ dn ≤ maxLen) ∧
      (∀ i, i < n 5 → ∃ a, oa 5 = some a ∧ ∃ (s : ByteArray) (l d m : Int), W.cell? ((a.add (i * 4)).add 0) = some (.string s) ∧ W.cell? ((a.add (i * 4)).add 1) = some (.int .i64 l) ∧ W.cell? ((a.add (i * 4)).add 2) = some (.int .i64 d) ∧ W.cell? ((a.add (i * 4)).add 3) = some (.int .i64 m) ∧
        (-9223372036854775808 ≤ l ∧ l ≤ 9223372036854775807) ∧ (-9223372036854775808 ≤ d ∧ d ≤ 9223372036854775807) ∧ (-9223372036854775808 ≤ m ∧ m ≤ 9223372036854775807))
set_option maxRecDepth 100000 in
theorem font_in {v : Value} {d : DataW H} {ps : List MemPlace} (hv : Value.okWide Try.prog W .any base 31 v) (h : DataW.Trod enc Try.prog W 0 (fun _ => true) true 31 v d ps) : ∃ _x : Unit, FontIn W v := ⟨(), font_open hv h⟩

/-- A row of numbers that came in. -/
def IntsIn (W : World) (oa : Option Addr) (n : Nat) (xs : List Int) : Prop :=
  xs.length = n ∧ n ≤ maxLen ∧ ∀ i (h : i < xs.length), ∃ a, oa = some a ∧ W.cell? (a.add i) = some (.int .i64 xs[i]) ∧ -9223372036854775808 ≤ xs[i] ∧ xs[i] ≤ 9223372036854775807
set_option maxRecDepth 100000 in
theorem ints_in {oa : Option Addr} {n cap : Nat} {d : DataW H} {ps : List MemPlace} (h : DataW.Trod enc Try.prog W 0 (fun _ => true) true 29 (.slice oa n cap) d ps) (_hlt : ∀ x ∈ ps, x.block < W.heap.size) : ∃ xs, IntsIn W oa n xs := by
  obtain ⟨fuel, h⟩ := h
  obtain ⟨oa', n', cap', e, hn, hr⟩ := rows_open Try.underlying29 (show DataW.trod enc Try.prog W 0 (fun _ => true) true fuel 29 [.slice oa n cap] = some _ from h)
  cases e
  have k1 : Try.prog.cellsOf 3 = 1 := by kernel_rfl
  rw [k1] at hr
  have each : ∀ i, i < n → ∃ z : Int, ∃ a, oa = some a ∧ W.cell? (a.add i) = some (.int .i64 z) ∧ -9223372036854775808 ≤ z ∧ z ≤ 9223372036854775807 := fun i hi => by
    obtain ⟨a, ha, cs, y, m, hlen, hcell, hy⟩ := hr i hi
    obtain ⟨z, e0, _, w0⟩ := DataW.trod_int Try.underlying3 hy
    subst e0
    have h0 := hcell 0 (by decide)
    rw [Nat.mul_one] at h0
    have b := bounds_i64 w0
    exact ⟨z, a, ha, by simpa [Addr.add] using h0, b.1, b.2⟩
  obtain ⟨q, hq⟩ : ∃ q : Nat → Int, ∀ i, i < n → ∃ a, oa = some a ∧ W.cell? (a.add i) = some (.int .i64 (q i)) ∧ -9223372036854775808 ≤ q i ∧ q i ≤ 9223372036854775807 := by
    refine ⟨fun i => if h : i < n then Classical.choose (each i h) else 0, fun i hi => ?_⟩
    simp only [hi, dif_pos]
    exact Classical.choose_spec (each i hi)
  refine ⟨(List.range n).map q, by simp, hn, fun i hi => ?_⟩
  have hi' : i < n := by simpa using hi
  simpa using hq i hi'
end
end Go.Proofs.Ytngeijdfpgmcfaa

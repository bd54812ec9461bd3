/- What came in, opened, with how large each row is at the most. Printed by gen_dataw.py. -/
import Derived.Test.YtaloembfekdkoaaData
import Derived.SizedLaws
namespace Go.Proofs.Ytaloembfekdkoaa
open Go.RowKit
set_option linter.unusedVariables false
def Wt {H : Type} (P : Program) (t : TypeId) (d : DataW H) : Prop := ∀ n ∈ d.weights P t, n ≤ 140737488351232
section
open Go.ChangeShapes Go.WideShapes Go.ChangeAt Go.Joins
variable {H : Type}
theorem wt_struct {P : Program} {fs : Array Field} {t : TypeId} (ht : P.underlying t = some (.struct fs)) {ds : List (DataW H)} (hw : Wt P t (.agg ds)) {i : Nat} {f : Field} {d : DataW H} (hf : fs[i]? = some f) (hd : ds[i]? = some d) : Wt P f.type d :=
  fun n hn => hw n (by
    simp only [DataW.weights, ht]
    exact DataW.weights_mem_each (ts := fs.toList.map (·.type)) (j := i) (by simp [hf]) hd n hn)
theorem weights_all {P : Program} {e : TypeId} : ∀ {es : List (DataW H)} {d : DataW H}, d ∈ es → ∀ n ∈ d.weights P e, n ∈ DataW.weightsAll P e es
  | x :: r, d, hd, n, hn => by
    simp only [DataW.weightsAll, List.mem_append]
    rcases List.mem_cons.1 hd with rfl | hd
    · exact .inl hn
    · exact .inr (weights_all hd n hn)
theorem wt_slice {P : Program} {t e : TypeId} (ht : P.underlying t = some (.slice e)) {es sp : List (DataW H)} (hw : Wt P t (.slice es sp)) : es.length * P.bytesOf e ≤ 140737488351232 ∧ ∀ d ∈ es, Wt P e d := by
  unfold Wt at hw
  simp only [DataW.weights, ht, List.mem_cons, List.mem_append] at hw
  refine ⟨Nat.le_trans (Nat.mul_le_mul_right _ (Nat.le_add_right _ _)) (hw _ (.inl rfl)), fun d hd n hn => hw n (.inr (.inl (weights_all hd n hn)))⟩
theorem wt_string {P : Program} {t : TypeId} {b : List UInt8} (hw : Wt (H := H) P t (.lit (.string b))) : b.length ≤ 140737488351232 := hw _ (by simp [DataW.weights])
variable {enc : TypeId × Value → H} {W : World} {base : Nat} {sp : Nat → Bool} {held : Bool}
theorem rowsOfW {α : Type} {t e : TypeId} {k b : Nat} {R : Nat → World → List Value → α → Prop} {Q : α → Prop} (ht : Try.prog.underlying t = some (.slice e)) (hk : Try.prog.cellsOf e = k) (hb : Try.prog.bytesOf e = b)
    (hR : ∀ (fuel : Nat) (cs : List Value) (x : DataW H × List MemPlace), DataW.trod enc Try.prog W 0 sp held fuel e cs = some x → Wt Try.prog e x.1 → ∃ d, R 0 W cs d ∧ Q d)
    {fuel : Nat} {v : Value} {x : DataW H × List MemPlace} (h : DataW.trod enc Try.prog W 0 sp held fuel t [v] = some x) (hw : Wt Try.prog t x.1) : ∃ l, Rows k R 0 W v l ∧ l.length * b ≤ 140737488351232 ∧ ∀ d ∈ l, Q d := by
  subst hk hb
  rcases DataW.trod_slice ht h with ⟨h0, _⟩ | ⟨a, len, cap, el, rest, m, _, hc, hx, _, h1, h2, h3, h4, _⟩
  · obtain rfl : v = .slice Option.none 0 0 := by simpa using h0
    exact ⟨[], Rows.nil W, by simp, by simp⟩
  · obtain rfl : v = .slice (some a) len cap := by simpa using hc
    subst hx
    obtain ⟨hlen, hall⟩ := wt_slice ht hw
    rw [List.length_map] at hlen
    have each : ∀ i, i < len → ∃ d : α, (∃ cs, cs.length = Try.prog.cellsOf e ∧ (∀ j, j < Try.prog.cellsOf e → W.cell? ((a.add (i * Try.prog.cellsOf e)).add j) = cs[j]?) ∧ R 0 W cs d) ∧ Q d := fun i hi => by
      have h5 := h4 i hi
      rw [List.getElem?_eq_getElem (by omega)] at h5
      simp only [Option.bind_eq_some_iff] at h5
      obtain ⟨cs, hcs, hy⟩ := h5
      obtain ⟨-, hlen, hcell⟩ := World.cells?_some hcs
      obtain ⟨d, hd, hq⟩ := hR _ _ _ hy (hall _ (List.mem_map_of_mem (List.getElem_mem (by omega))))
      exact ⟨d, ⟨cs, hlen, hcell, hd⟩, hq⟩
    refine ⟨List.ofFn fun i : Fin len => Classical.choose (each i.1 i.2), ⟨some a, cap, by rw [List.length_ofFn], by rw [List.length_ofFn]; omega, fun i hi => ?_⟩, by rw [List.length_ofFn, ← h3]; exact hlen, fun d hd => ?_⟩
    · rw [List.length_ofFn] at hi
      rw [List.getElem_ofFn]
      obtain ⟨⟨cs, h6, h7, h8⟩, -⟩ := Classical.choose_spec (each i hi)
      exact ⟨a, rfl, Nat.zero_le _, cs, h6, h7, h8⟩
    · obtain ⟨i, rfl⟩ := List.mem_ofFn.1 hd
      exact (Classical.choose_spec (each i.1 i.2)).2
theorem str_openW {fuel : Nat} {cs : List Value} {x : DataW H × List MemPlace} (h : DataW.trod enc Try.prog W 0 sp held fuel 9 cs = some x) (hw : Wt Try.prog 9 x.1) : ∃ s : ByteArray, cs = [.string s] ∧ s.size ≤ maxLen ∧ s.size ≤ 140737488351232 := by
  obtain ⟨u, e0, e1, w0⟩ := DataW.trod_string Try.underlying9 h
  subst e1
  exact ⟨u, e0, w0, by simpa using wt_string hw⟩
theorem int_openW {fuel : Nat} {cs : List Value} {x : DataW H × List MemPlace} (h : DataW.trod enc Try.prog W 0 sp held fuel 3 cs = some x) (_ : Wt Try.prog 3 x.1) : ∃ d, RInt 0 W cs d ∧ True := by
  obtain ⟨d, hd⟩ := int_open h
  exact ⟨d, hd, trivial⟩
theorem bytes_Int : Try.prog.bytesOf 3 = 8 := by kernel_rfl
theorem bytes_Set : Try.prog.bytesOf 29 = 24 := by kernel_rfl
theorem bytes_Code : Try.prog.bytesOf 42 = 24 := by kernel_rfl
theorem bytes_Point : Try.prog.bytesOf 74 = 24 := by kernel_rfl
theorem bytes_Part : Try.prog.bytesOf 79 = 24 := by kernel_rfl
theorem bytes_Anchor : Try.prog.bytesOf 81 = 32 := by kernel_rfl
theorem bytes_Delta : Try.prog.bytesOf 83 = 32 := by kernel_rfl
theorem bytes_Ins : Try.prog.bytesOf 64 = 16 := by kernel_rfl
theorem bytes_Char : Try.prog.bytesOf 59 = 16 := by kernel_rfl
theorem bytes_Call : Try.prog.bytesOf 107 = 16 := by kernel_rfl
theorem bytes_Tent : Try.prog.bytesOf 112 = 24 := by kernel_rfl
theorem bytes_Axis : Try.prog.bytesOf 88 = 40 := by kernel_rfl
theorem bytes_Feature : Try.prog.bytesOf 109 = 40 := by kernel_rfl
theorem bytes_Rule : Try.prog.bytesOf 103 = 128 := by kernel_rfl
theorem bytes_Lookup : Try.prog.bytesOf 99 = 40 := by kernel_rfl
theorem bytes_Glyph : Try.prog.bytesOf 44 = 176 := by kernel_rfl
theorem bytes_Region : Try.prog.bytesOf 72 = 24 := by kernel_rfl
def QInt (x : Int) : Prop := True
def QSet (l : List Int) : Prop := l.length * 8 ≤ 140737488351232
def QCode (l : List DIns) : Prop := l.length * 16 ≤ 140737488351232
theorem Set_openW {fuel : Nat} {cs : List Value} {x : DataW H × List MemPlace} (h : DataW.trod enc Try.prog W 0 sp held fuel 29 cs = some x) (hw : Wt Try.prog 29 x.1) : ∃ d, RSet 0 W cs d ∧ QSet d := by
  obtain ⟨v, rfl⟩ := one_cell Try.underlying29 h
  obtain ⟨l, hl, hb, _⟩ := rowsOfW (Q := QInt) Try.underlying29 cells_int bytes_Int (fun _ _ _ h hw => int_openW h hw) h hw
  exact ⟨l, ⟨v, rfl, hl⟩, hb⟩
def QPoint (d : DPoint) : Prop := True
set_option maxRecDepth 100000 in
theorem Point_openW {fuel : Nat} {cs : List Value} {x : DataW H × List MemPlace} (h : DataW.trod enc Try.prog W 0 sp held fuel 74 cs = some x) (hw : Wt Try.prog 74 x.1) : ∃ d, RPoint 0 W cs d ∧ QPoint d := by
  obtain ⟨xs, n, _, hxe, hl, hx, hf⟩ := DataW.trod_struct Try.underlying74 h
  subst hxe
  rw [cells_tPoint] at hl
  obtain ⟨c0, c1, c2, rfl⟩ : ∃ c0 c1 c2, cs = [c0, c1, c2] := by
    match cs, hl with | [q0, q1, q2], _ => exact ⟨q0, q1, q2, rfl⟩
  obtain ⟨x0, x1, x2, rfl⟩ : ∃ x0 x1 x2, xs = [x0, x1, x2] := by
    match xs, hx with | [q0, q1, q2], _ => exact ⟨q0, q1, q2, rfl⟩
  have w0 : Wt Try.prog 3 x0.1 := wt_struct Try.underlying74 hw (i := 0) rfl rfl
  have f0 := hf 0 _ rfl
  change DataW.trod enc Try.prog W 0 sp held n 3 (([c0, c1, c2].drop 0).take (Try.prog.cellsOf 3)) = _ at f0
  rw [cells_int] at f0
  have g0 : DataW.trod enc Try.prog W 0 sp held n 3 [c0] = some x0 := f0
  have w1 : Wt Try.prog 3 x1.1 := wt_struct Try.underlying74 hw (i := 1) rfl rfl
  have f1 := hf 1 _ rfl
  change DataW.trod enc Try.prog W 0 sp held n 3 (([c0, c1, c2].drop 1).take (Try.prog.cellsOf 3)) = _ at f1
  rw [cells_int] at f1
  have g1 : DataW.trod enc Try.prog W 0 sp held n 3 [c1] = some x1 := f1
  have w2 : Wt Try.prog 4 x2.1 := wt_struct Try.underlying74 hw (i := 2) rfl rfl
  have f2 := hf 2 _ rfl
  change DataW.trod enc Try.prog W 0 sp held n 4 (([c0, c1, c2].drop 2).take (Try.prog.cellsOf 4)) = _ at f2
  rw [cells_bool] at f2
  have g2 : DataW.trod enc Try.prog W 0 sp held n 4 [c2] = some x2 := f2
  obtain ⟨d0, e0, b0⟩ := int_open g0
  simp at e0
  subst e0
  obtain ⟨d1, e1, b1⟩ := int_open g1
  simp at e1
  subst e1
  obtain ⟨d2, e2⟩ := bool_open g2
  simp at e2
  subst e2
  exact ⟨⟨d0, d1, d2⟩, ⟨rfl, b0, b1⟩, trivial⟩
def QPart (d : DPart) : Prop := True
set_option maxRecDepth 100000 in
theorem Part_openW {fuel : Nat} {cs : List Value} {x : DataW H × List MemPlace} (h : DataW.trod enc Try.prog W 0 sp held fuel 79 cs = some x) (hw : Wt Try.prog 79 x.1) : ∃ d, RPart 0 W cs d ∧ QPart d := by
  obtain ⟨xs, n, _, hxe, hl, hx, hf⟩ := DataW.trod_struct Try.underlying79 h
  subst hxe
  rw [cells_tPart] at hl
  obtain ⟨c0, c1, c2, rfl⟩ : ∃ c0 c1 c2, cs = [c0, c1, c2] := by
    match cs, hl with | [q0, q1, q2], _ => exact ⟨q0, q1, q2, rfl⟩
  obtain ⟨x0, x1, x2, rfl⟩ : ∃ x0 x1 x2, xs = [x0, x1, x2] := by
    match xs, hx with | [q0, q1, q2], _ => exact ⟨q0, q1, q2, rfl⟩
  have w0 : Wt Try.prog 3 x0.1 := wt_struct Try.underlying79 hw (i := 0) rfl rfl
  have f0 := hf 0 _ rfl
  change DataW.trod enc Try.prog W 0 sp held n 3 (([c0, c1, c2].drop 0).take (Try.prog.cellsOf 3)) = _ at f0
  rw [cells_int] at f0
  have g0 : DataW.trod enc Try.prog W 0 sp held n 3 [c0] = some x0 := f0
  have w1 : Wt Try.prog 3 x1.1 := wt_struct Try.underlying79 hw (i := 1) rfl rfl
  have f1 := hf 1 _ rfl
  change DataW.trod enc Try.prog W 0 sp held n 3 (([c0, c1, c2].drop 1).take (Try.prog.cellsOf 3)) = _ at f1
  rw [cells_int] at f1
  have g1 : DataW.trod enc Try.prog W 0 sp held n 3 [c1] = some x1 := f1
  have w2 : Wt Try.prog 3 x2.1 := wt_struct Try.underlying79 hw (i := 2) rfl rfl
  have f2 := hf 2 _ rfl
  change DataW.trod enc Try.prog W 0 sp held n 3 (([c0, c1, c2].drop 2).take (Try.prog.cellsOf 3)) = _ at f2
  rw [cells_int] at f2
  have g2 : DataW.trod enc Try.prog W 0 sp held n 3 [c2] = some x2 := f2
  obtain ⟨d0, e0, b0⟩ := int_open g0
  simp at e0
  subst e0
  obtain ⟨d1, e1, b1⟩ := int_open g1
  simp at e1
  subst e1
  obtain ⟨d2, e2, b2⟩ := int_open g2
  simp at e2
  subst e2
  exact ⟨⟨d0, d1, d2⟩, ⟨rfl, b0, b1, b2⟩, trivial⟩
def QAnchor (d : DAnchor) : Prop := True
set_option maxRecDepth 100000 in
theorem Anchor_openW {fuel : Nat} {cs : List Value} {x : DataW H × List MemPlace} (h : DataW.trod enc Try.prog W 0 sp held fuel 81 cs = some x) (hw : Wt Try.prog 81 x.1) : ∃ d, RAnchor 0 W cs d ∧ QAnchor d := by
  obtain ⟨xs, n, _, hxe, hl, hx, hf⟩ := DataW.trod_struct Try.underlying81 h
  subst hxe
  rw [cells_tAnchor] at hl
  obtain ⟨c0, c1, c2, c3, rfl⟩ : ∃ c0 c1 c2 c3, cs = [c0, c1, c2, c3] := by
    match cs, hl with | [q0, q1, q2, q3], _ => exact ⟨q0, q1, q2, q3, rfl⟩
  obtain ⟨x0, x1, x2, x3, rfl⟩ : ∃ x0 x1 x2 x3, xs = [x0, x1, x2, x3] := by
    match xs, hx with | [q0, q1, q2, q3], _ => exact ⟨q0, q1, q2, q3, rfl⟩
  have w0 : Wt Try.prog 3 x0.1 := wt_struct Try.underlying81 hw (i := 0) rfl rfl
  have f0 := hf 0 _ rfl
  change DataW.trod enc Try.prog W 0 sp held n 3 (([c0, c1, c2, c3].drop 0).take (Try.prog.cellsOf 3)) = _ at f0
  rw [cells_int] at f0
  have g0 : DataW.trod enc Try.prog W 0 sp held n 3 [c0] = some x0 := f0
  have w1 : Wt Try.prog 3 x1.1 := wt_struct Try.underlying81 hw (i := 1) rfl rfl
  have f1 := hf 1 _ rfl
  change DataW.trod enc Try.prog W 0 sp held n 3 (([c0, c1, c2, c3].drop 1).take (Try.prog.cellsOf 3)) = _ at f1
  rw [cells_int] at f1
  have g1 : DataW.trod enc Try.prog W 0 sp held n 3 [c1] = some x1 := f1
  have w2 : Wt Try.prog 3 x2.1 := wt_struct Try.underlying81 hw (i := 2) rfl rfl
  have f2 := hf 2 _ rfl
  change DataW.trod enc Try.prog W 0 sp held n 3 (([c0, c1, c2, c3].drop 2).take (Try.prog.cellsOf 3)) = _ at f2
  rw [cells_int] at f2
  have g2 : DataW.trod enc Try.prog W 0 sp held n 3 [c2] = some x2 := f2
  have w3 : Wt Try.prog 3 x3.1 := wt_struct Try.underlying81 hw (i := 3) rfl rfl
  have f3 := hf 3 _ rfl
  change DataW.trod enc Try.prog W 0 sp held n 3 (([c0, c1, c2, c3].drop 3).take (Try.prog.cellsOf 3)) = _ at f3
  rw [cells_int] at f3
  have g3 : DataW.trod enc Try.prog W 0 sp held n 3 [c3] = some x3 := f3
  obtain ⟨d0, e0, b0⟩ := int_open g0
  simp at e0
  subst e0
  obtain ⟨d1, e1, b1⟩ := int_open g1
  simp at e1
  subst e1
  obtain ⟨d2, e2, b2⟩ := int_open g2
  simp at e2
  subst e2
  obtain ⟨d3, e3, b3⟩ := int_open g3
  simp at e3
  subst e3
  exact ⟨⟨d0, d1, d2, d3⟩, ⟨rfl, b0, b1, b2, b3⟩, trivial⟩
def QDelta (d : DDelta) : Prop := True
set_option maxRecDepth 100000 in
theorem Delta_openW {fuel : Nat} {cs : List Value} {x : DataW H × List MemPlace} (h : DataW.trod enc Try.prog W 0 sp held fuel 83 cs = some x) (hw : Wt Try.prog 83 x.1) : ∃ d, RDelta 0 W cs d ∧ QDelta d := by
  obtain ⟨xs, n, _, hxe, hl, hx, hf⟩ := DataW.trod_struct Try.underlying83 h
  subst hxe
  rw [cells_tDelta] at hl
  obtain ⟨c0, c1, c2, c3, rfl⟩ : ∃ c0 c1 c2 c3, cs = [c0, c1, c2, c3] := by
    match cs, hl with | [q0, q1, q2, q3], _ => exact ⟨q0, q1, q2, q3, rfl⟩
  obtain ⟨x0, x1, x2, x3, rfl⟩ : ∃ x0 x1 x2 x3, xs = [x0, x1, x2, x3] := by
    match xs, hx with | [q0, q1, q2, q3], _ => exact ⟨q0, q1, q2, q3, rfl⟩
  have w0 : Wt Try.prog 3 x0.1 := wt_struct Try.underlying83 hw (i := 0) rfl rfl
  have f0 := hf 0 _ rfl
  change DataW.trod enc Try.prog W 0 sp held n 3 (([c0, c1, c2, c3].drop 0).take (Try.prog.cellsOf 3)) = _ at f0
  rw [cells_int] at f0
  have g0 : DataW.trod enc Try.prog W 0 sp held n 3 [c0] = some x0 := f0
  have w1 : Wt Try.prog 3 x1.1 := wt_struct Try.underlying83 hw (i := 1) rfl rfl
  have f1 := hf 1 _ rfl
  change DataW.trod enc Try.prog W 0 sp held n 3 (([c0, c1, c2, c3].drop 1).take (Try.prog.cellsOf 3)) = _ at f1
  rw [cells_int] at f1
  have g1 : DataW.trod enc Try.prog W 0 sp held n 3 [c1] = some x1 := f1
  have w2 : Wt Try.prog 3 x2.1 := wt_struct Try.underlying83 hw (i := 2) rfl rfl
  have f2 := hf 2 _ rfl
  change DataW.trod enc Try.prog W 0 sp held n 3 (([c0, c1, c2, c3].drop 2).take (Try.prog.cellsOf 3)) = _ at f2
  rw [cells_int] at f2
  have g2 : DataW.trod enc Try.prog W 0 sp held n 3 [c2] = some x2 := f2
  have w3 : Wt Try.prog 3 x3.1 := wt_struct Try.underlying83 hw (i := 3) rfl rfl
  have f3 := hf 3 _ rfl
  change DataW.trod enc Try.prog W 0 sp held n 3 (([c0, c1, c2, c3].drop 3).take (Try.prog.cellsOf 3)) = _ at f3
  rw [cells_int] at f3
  have g3 : DataW.trod enc Try.prog W 0 sp held n 3 [c3] = some x3 := f3
  obtain ⟨d0, e0, b0⟩ := int_open g0
  simp at e0
  subst e0
  obtain ⟨d1, e1, b1⟩ := int_open g1
  simp at e1
  subst e1
  obtain ⟨d2, e2, b2⟩ := int_open g2
  simp at e2
  subst e2
  obtain ⟨d3, e3, b3⟩ := int_open g3
  simp at e3
  subst e3
  exact ⟨⟨d0, d1, d2, d3⟩, ⟨rfl, b0, b1, b2, b3⟩, trivial⟩
def QIns (d : DIns) : Prop := True
set_option maxRecDepth 100000 in
theorem Ins_openW {fuel : Nat} {cs : List Value} {x : DataW H × List MemPlace} (h : DataW.trod enc Try.prog W 0 sp held fuel 64 cs = some x) (hw : Wt Try.prog 64 x.1) : ∃ d, RIns 0 W cs d ∧ QIns d := by
  obtain ⟨xs, n, _, hxe, hl, hx, hf⟩ := DataW.trod_struct Try.underlying64 h
  subst hxe
  rw [cells_tIns] at hl
  obtain ⟨c0, c1, rfl⟩ : ∃ c0 c1, cs = [c0, c1] := by
    match cs, hl with | [q0, q1], _ => exact ⟨q0, q1, rfl⟩
  obtain ⟨x0, x1, rfl⟩ : ∃ x0 x1, xs = [x0, x1] := by
    match xs, hx with | [q0, q1], _ => exact ⟨q0, q1, rfl⟩
  have w0 : Wt Try.prog 3 x0.1 := wt_struct Try.underlying64 hw (i := 0) rfl rfl
  have f0 := hf 0 _ rfl
  change DataW.trod enc Try.prog W 0 sp held n 3 (([c0, c1].drop 0).take (Try.prog.cellsOf 3)) = _ at f0
  rw [cells_int] at f0
  have g0 : DataW.trod enc Try.prog W 0 sp held n 3 [c0] = some x0 := f0
  have w1 : Wt Try.prog 3 x1.1 := wt_struct Try.underlying64 hw (i := 1) rfl rfl
  have f1 := hf 1 _ rfl
  change DataW.trod enc Try.prog W 0 sp held n 3 (([c0, c1].drop 1).take (Try.prog.cellsOf 3)) = _ at f1
  rw [cells_int] at f1
  have g1 : DataW.trod enc Try.prog W 0 sp held n 3 [c1] = some x1 := f1
  obtain ⟨d0, e0, b0⟩ := int_open g0
  simp at e0
  subst e0
  obtain ⟨d1, e1, b1⟩ := int_open g1
  simp at e1
  subst e1
  exact ⟨⟨d0, d1⟩, ⟨rfl, b0, b1⟩, trivial⟩
theorem Code_openW {fuel : Nat} {cs : List Value} {x : DataW H × List MemPlace} (h : DataW.trod enc Try.prog W 0 sp held fuel 42 cs = some x) (hw : Wt Try.prog 42 x.1) : ∃ d, RCode 0 W cs d ∧ QCode d := by
  obtain ⟨v, rfl⟩ := one_cell Try.underlying42 h
  obtain ⟨l, hl, hb, _⟩ := rowsOfW (Q := QIns) Try.underlying42 cells_tIns bytes_Ins (fun _ _ _ h hw => Ins_openW h hw) h hw
  exact ⟨l, ⟨v, rfl, hl⟩, hb⟩
def QChar (d : DChar) : Prop := True
set_option maxRecDepth 100000 in
theorem Char_openW {fuel : Nat} {cs : List Value} {x : DataW H × List MemPlace} (h : DataW.trod enc Try.prog W 0 sp held fuel 59 cs = some x) (hw : Wt Try.prog 59 x.1) : ∃ d, RChar 0 W cs d ∧ QChar d := by
  obtain ⟨xs, n, _, hxe, hl, hx, hf⟩ := DataW.trod_struct Try.underlying59 h
  subst hxe
  rw [cells_tChar] at hl
  obtain ⟨c0, c1, rfl⟩ : ∃ c0 c1, cs = [c0, c1] := by
    match cs, hl with | [q0, q1], _ => exact ⟨q0, q1, rfl⟩
  obtain ⟨x0, x1, rfl⟩ : ∃ x0 x1, xs = [x0, x1] := by
    match xs, hx with | [q0, q1], _ => exact ⟨q0, q1, rfl⟩
  have w0 : Wt Try.prog 3 x0.1 := wt_struct Try.underlying59 hw (i := 0) rfl rfl
  have f0 := hf 0 _ rfl
  change DataW.trod enc Try.prog W 0 sp held n 3 (([c0, c1].drop 0).take (Try.prog.cellsOf 3)) = _ at f0
  rw [cells_int] at f0
  have g0 : DataW.trod enc Try.prog W 0 sp held n 3 [c0] = some x0 := f0
  have w1 : Wt Try.prog 3 x1.1 := wt_struct Try.underlying59 hw (i := 1) rfl rfl
  have f1 := hf 1 _ rfl
  change DataW.trod enc Try.prog W 0 sp held n 3 (([c0, c1].drop 1).take (Try.prog.cellsOf 3)) = _ at f1
  rw [cells_int] at f1
  have g1 : DataW.trod enc Try.prog W 0 sp held n 3 [c1] = some x1 := f1
  obtain ⟨d0, e0, b0⟩ := int_open g0
  simp at e0
  subst e0
  obtain ⟨d1, e1, b1⟩ := int_open g1
  simp at e1
  subst e1
  exact ⟨⟨d0, d1⟩, ⟨rfl, b0, b1⟩, trivial⟩
def QCall (d : DCall) : Prop := True
set_option maxRecDepth 100000 in
theorem Call_openW {fuel : Nat} {cs : List Value} {x : DataW H × List MemPlace} (h : DataW.trod enc Try.prog W 0 sp held fuel 107 cs = some x) (hw : Wt Try.prog 107 x.1) : ∃ d, RCall 0 W cs d ∧ QCall d := by
  obtain ⟨xs, n, _, hxe, hl, hx, hf⟩ := DataW.trod_struct Try.underlying107 h
  subst hxe
  rw [cells_tCall] at hl
  obtain ⟨c0, c1, rfl⟩ : ∃ c0 c1, cs = [c0, c1] := by
    match cs, hl with | [q0, q1], _ => exact ⟨q0, q1, rfl⟩
  obtain ⟨x0, x1, rfl⟩ : ∃ x0 x1, xs = [x0, x1] := by
    match xs, hx with | [q0, q1], _ => exact ⟨q0, q1, rfl⟩
  have w0 : Wt Try.prog 3 x0.1 := wt_struct Try.underlying107 hw (i := 0) rfl rfl
  have f0 := hf 0 _ rfl
  change DataW.trod enc Try.prog W 0 sp held n 3 (([c0, c1].drop 0).take (Try.prog.cellsOf 3)) = _ at f0
  rw [cells_int] at f0
  have g0 : DataW.trod enc Try.prog W 0 sp held n 3 [c0] = some x0 := f0
  have w1 : Wt Try.prog 3 x1.1 := wt_struct Try.underlying107 hw (i := 1) rfl rfl
  have f1 := hf 1 _ rfl
  change DataW.trod enc Try.prog W 0 sp held n 3 (([c0, c1].drop 1).take (Try.prog.cellsOf 3)) = _ at f1
  rw [cells_int] at f1
  have g1 : DataW.trod enc Try.prog W 0 sp held n 3 [c1] = some x1 := f1
  obtain ⟨d0, e0, b0⟩ := int_open g0
  simp at e0
  subst e0
  obtain ⟨d1, e1, b1⟩ := int_open g1
  simp at e1
  subst e1
  exact ⟨⟨d0, d1⟩, ⟨rfl, b0, b1⟩, trivial⟩
def QTent (d : DTent) : Prop := True
set_option maxRecDepth 100000 in
theorem Tent_openW {fuel : Nat} {cs : List Value} {x : DataW H × List MemPlace} (h : DataW.trod enc Try.prog W 0 sp held fuel 112 cs = some x) (hw : Wt Try.prog 112 x.1) : ∃ d, RTent 0 W cs d ∧ QTent d := by
  obtain ⟨xs, n, _, hxe, hl, hx, hf⟩ := DataW.trod_struct Try.underlying112 h
  subst hxe
  rw [cells_tTent] at hl
  obtain ⟨c0, c1, c2, rfl⟩ : ∃ c0 c1 c2, cs = [c0, c1, c2] := by
    match cs, hl with | [q0, q1, q2], _ => exact ⟨q0, q1, q2, rfl⟩
  obtain ⟨x0, x1, x2, rfl⟩ : ∃ x0 x1 x2, xs = [x0, x1, x2] := by
    match xs, hx with | [q0, q1, q2], _ => exact ⟨q0, q1, q2, rfl⟩
  have w0 : Wt Try.prog 3 x0.1 := wt_struct Try.underlying112 hw (i := 0) rfl rfl
  have f0 := hf 0 _ rfl
  change DataW.trod enc Try.prog W 0 sp held n 3 (([c0, c1, c2].drop 0).take (Try.prog.cellsOf 3)) = _ at f0
  rw [cells_int] at f0
  have g0 : DataW.trod enc Try.prog W 0 sp held n 3 [c0] = some x0 := f0
  have w1 : Wt Try.prog 3 x1.1 := wt_struct Try.underlying112 hw (i := 1) rfl rfl
  have f1 := hf 1 _ rfl
  change DataW.trod enc Try.prog W 0 sp held n 3 (([c0, c1, c2].drop 1).take (Try.prog.cellsOf 3)) = _ at f1
  rw [cells_int] at f1
  have g1 : DataW.trod enc Try.prog W 0 sp held n 3 [c1] = some x1 := f1
  have w2 : Wt Try.prog 3 x2.1 := wt_struct Try.underlying112 hw (i := 2) rfl rfl
  have f2 := hf 2 _ rfl
  change DataW.trod enc Try.prog W 0 sp held n 3 (([c0, c1, c2].drop 2).take (Try.prog.cellsOf 3)) = _ at f2
  rw [cells_int] at f2
  have g2 : DataW.trod enc Try.prog W 0 sp held n 3 [c2] = some x2 := f2
  obtain ⟨d0, e0, b0⟩ := int_open g0
  simp at e0
  subst e0
  obtain ⟨d1, e1, b1⟩ := int_open g1
  simp at e1
  subst e1
  obtain ⟨d2, e2, b2⟩ := int_open g2
  simp at e2
  subst e2
  exact ⟨⟨d0, d1, d2⟩, ⟨rfl, b0, b1, b2⟩, trivial⟩
def QAxis (d : DAxis) : Prop := d.name.size ≤ 140737488351232
set_option maxRecDepth 100000 in
theorem Axis_openW {fuel : Nat} {cs : List Value} {x : DataW H × List MemPlace} (h : DataW.trod enc Try.prog W 0 sp held fuel 88 cs = some x) (hw : Wt Try.prog 88 x.1) : ∃ d, RAxis 0 W cs d ∧ QAxis d := by
  obtain ⟨xs, n, _, hxe, hl, hx, hf⟩ := DataW.trod_struct Try.underlying88 h
  subst hxe
  rw [cells_tAxis] at hl
  obtain ⟨c0, c1, c2, c3, rfl⟩ : ∃ c0 c1 c2 c3, cs = [c0, c1, c2, c3] := by
    match cs, hl with | [q0, q1, q2, q3], _ => exact ⟨q0, q1, q2, q3, rfl⟩
  obtain ⟨x0, x1, x2, x3, rfl⟩ : ∃ x0 x1 x2 x3, xs = [x0, x1, x2, x3] := by
    match xs, hx with | [q0, q1, q2, q3], _ => exact ⟨q0, q1, q2, q3, rfl⟩
  have w0 : Wt Try.prog 9 x0.1 := wt_struct Try.underlying88 hw (i := 0) rfl rfl
  have f0 := hf 0 _ rfl
  change DataW.trod enc Try.prog W 0 sp held n 9 (([c0, c1, c2, c3].drop 0).take (Try.prog.cellsOf 9)) = _ at f0
  rw [cells_string] at f0
  have g0 : DataW.trod enc Try.prog W 0 sp held n 9 [c0] = some x0 := f0
  have w1 : Wt Try.prog 3 x1.1 := wt_struct Try.underlying88 hw (i := 1) rfl rfl
  have f1 := hf 1 _ rfl
  change DataW.trod enc Try.prog W 0 sp held n 3 (([c0, c1, c2, c3].drop 1).take (Try.prog.cellsOf 3)) = _ at f1
  rw [cells_int] at f1
  have g1 : DataW.trod enc Try.prog W 0 sp held n 3 [c1] = some x1 := f1
  have w2 : Wt Try.prog 3 x2.1 := wt_struct Try.underlying88 hw (i := 2) rfl rfl
  have f2 := hf 2 _ rfl
  change DataW.trod enc Try.prog W 0 sp held n 3 (([c0, c1, c2, c3].drop 2).take (Try.prog.cellsOf 3)) = _ at f2
  rw [cells_int] at f2
  have g2 : DataW.trod enc Try.prog W 0 sp held n 3 [c2] = some x2 := f2
  have w3 : Wt Try.prog 3 x3.1 := wt_struct Try.underlying88 hw (i := 3) rfl rfl
  have f3 := hf 3 _ rfl
  change DataW.trod enc Try.prog W 0 sp held n 3 (([c0, c1, c2, c3].drop 3).take (Try.prog.cellsOf 3)) = _ at f3
  rw [cells_int] at f3
  have g3 : DataW.trod enc Try.prog W 0 sp held n 3 [c3] = some x3 := f3
  obtain ⟨d0, e0, b0, r0⟩ := str_openW g0 w0
  simp at e0
  subst e0
  obtain ⟨d1, e1, b1⟩ := int_open g1
  simp at e1
  subst e1
  obtain ⟨d2, e2, b2⟩ := int_open g2
  simp at e2
  subst e2
  obtain ⟨d3, e3, b3⟩ := int_open g3
  simp at e3
  subst e3
  exact ⟨⟨d0, d1, d2, d3⟩, ⟨rfl, b0, b1, b2, b3⟩, r0⟩
set_option maxRecDepth 100000 in
theorem Outline_openW {fuel : Nat} {cs : List Value} {x : DataW H × List MemPlace} (h : DataW.trod enc Try.prog W 0 sp held fuel 38 cs = some x) (hw : Wt Try.prog 38 x.1) : ∃ (p : List DPoint) (e : List Int) (u y : Value), cs = [u, y] ∧ Rows 3 RPoint 0 W u p ∧ Rows 1 RInt 0 W y e ∧ p.length * 24 ≤ 140737488351232 ∧ e.length * 8 ≤ 140737488351232 := by
  obtain ⟨xs, n, _, hxe, hl, hx, hf⟩ := DataW.trod_struct Try.underlying38 h
  subst hxe
  rw [cells_tOutline] at hl
  obtain ⟨c0, c1, rfl⟩ : ∃ c0 c1, cs = [c0, c1] := by
    match cs, hl with | [q0, q1], _ => exact ⟨q0, q1, rfl⟩
  obtain ⟨x0, x1, rfl⟩ : ∃ x0 x1, xs = [x0, x1] := by
    match xs, hx with | [q0, q1], _ => exact ⟨q0, q1, rfl⟩
  have w0 : Wt Try.prog 36 x0.1 := wt_struct Try.underlying38 hw (i := 0) rfl rfl
  have f0 := hf 0 _ rfl
  change DataW.trod enc Try.prog W 0 sp held n 36 (([c0, c1].drop 0).take (Try.prog.cellsOf 36)) = _ at f0
  rw [cells_rPoint] at f0
  have g0 : DataW.trod enc Try.prog W 0 sp held n 36 [c0] = some x0 := f0
  have w1 : Wt Try.prog 29 x1.1 := wt_struct Try.underlying38 hw (i := 1) rfl rfl
  have f1 := hf 1 _ rfl
  change DataW.trod enc Try.prog W 0 sp held n 29 (([c0, c1].drop 1).take (Try.prog.cellsOf 29)) = _ at f1
  rw [cells_rInt] at f1
  have g1 : DataW.trod enc Try.prog W 0 sp held n 29 [c1] = some x1 := f1
  obtain ⟨d0, b0, r0, s0⟩ := rowsOfW (Q := QPoint) Try.underlying36 cells_tPoint bytes_Point (fun _ _ _ h hw => Point_openW h hw) g0 w0
  obtain ⟨d1, b1, r1, s1⟩ := rowsOfW (Q := QInt) Try.underlying29 cells_int bytes_Int (fun _ _ _ h hw => int_openW h hw) g1 w1
  exact ⟨d0, d1, c0, c1, rfl, b0, b1, r0, r1⟩
def QFeature (d : DFeature) : Prop := d.name.size ≤ 140737488351232 ∧ (d.lookups.length * 8 ≤ 140737488351232 ∧ ∀ x ∈ d.lookups, QInt x)
set_option maxRecDepth 100000 in
theorem Feature_openW {fuel : Nat} {cs : List Value} {x : DataW H × List MemPlace} (h : DataW.trod enc Try.prog W 0 sp held fuel 109 cs = some x) (hw : Wt Try.prog 109 x.1) : ∃ d, RFeature 0 W cs d ∧ QFeature d := by
  obtain ⟨xs, n, _, hxe, hl, hx, hf⟩ := DataW.trod_struct Try.underlying109 h
  subst hxe
  rw [cells_tFeature] at hl
  obtain ⟨c0, c1, rfl⟩ : ∃ c0 c1, cs = [c0, c1] := by
    match cs, hl with | [q0, q1], _ => exact ⟨q0, q1, rfl⟩
  obtain ⟨x0, x1, rfl⟩ : ∃ x0 x1, xs = [x0, x1] := by
    match xs, hx with | [q0, q1], _ => exact ⟨q0, q1, rfl⟩
  have w0 : Wt Try.prog 9 x0.1 := wt_struct Try.underlying109 hw (i := 0) rfl rfl
  have f0 := hf 0 _ rfl
  change DataW.trod enc Try.prog W 0 sp held n 9 (([c0, c1].drop 0).take (Try.prog.cellsOf 9)) = _ at f0
  rw [cells_string] at f0
  have g0 : DataW.trod enc Try.prog W 0 sp held n 9 [c0] = some x0 := f0
  have w1 : Wt Try.prog 29 x1.1 := wt_struct Try.underlying109 hw (i := 1) rfl rfl
  have f1 := hf 1 _ rfl
  change DataW.trod enc Try.prog W 0 sp held n 29 (([c0, c1].drop 1).take (Try.prog.cellsOf 29)) = _ at f1
  rw [cells_rInt] at f1
  have g1 : DataW.trod enc Try.prog W 0 sp held n 29 [c1] = some x1 := f1
  obtain ⟨d0, e0, b0, r0⟩ := str_openW g0 w0
  simp at e0
  subst e0
  obtain ⟨d1, b1, r1, s1⟩ := rowsOfW (Q := QInt) Try.underlying29 cells_int bytes_Int (fun _ _ _ h hw => int_openW h hw) g1 w1
  exact ⟨⟨d0, d1⟩, ⟨c1, rfl, b0, b1⟩, ⟨r0, ⟨r1, s1⟩⟩⟩
def QRule (d : DRule) : Prop := (d.back.length * 24 ≤ 140737488351232 ∧ ∀ x ∈ d.back, QSet x) ∧ (d.ins.length * 24 ≤ 140737488351232 ∧ ∀ x ∈ d.ins, QSet x) ∧ (d.ahead.length * 24 ≤ 140737488351232 ∧ ∀ x ∈ d.ahead, QSet x) ∧ (d.out.length * 8 ≤ 140737488351232 ∧ ∀ x ∈ d.out, QInt x) ∧ (d.calls.length * 16 ≤ 140737488351232 ∧ ∀ x ∈ d.calls, QCall x)
set_option maxRecDepth 100000 in
theorem Rule_openW {fuel : Nat} {cs : List Value} {x : DataW H × List MemPlace} (h : DataW.trod enc Try.prog W 0 sp held fuel 103 cs = some x) (hw : Wt Try.prog 103 x.1) : ∃ d, RRule 0 W cs d ∧ QRule d := by
  obtain ⟨xs, n, _, hxe, hl, hx, hf⟩ := DataW.trod_struct Try.underlying103 h
  subst hxe
  rw [cells_tRule] at hl
  obtain ⟨c0, c1, c2, c3, c4, c5, rfl⟩ : ∃ c0 c1 c2 c3 c4 c5, cs = [c0, c1, c2, c3, c4, c5] := by
    match cs, hl with | [q0, q1, q2, q3, q4, q5], _ => exact ⟨q0, q1, q2, q3, q4, q5, rfl⟩
  obtain ⟨x0, x1, x2, x3, x4, x5, rfl⟩ : ∃ x0 x1 x2 x3 x4 x5, xs = [x0, x1, x2, x3, x4, x5] := by
    match xs, hx with | [q0, q1, q2, q3, q4, q5], _ => exact ⟨q0, q1, q2, q3, q4, q5, rfl⟩
  have w0 : Wt Try.prog 100 x0.1 := wt_struct Try.underlying103 hw (i := 0) rfl rfl
  have f0 := hf 0 _ rfl
  change DataW.trod enc Try.prog W 0 sp held n 100 (([c0, c1, c2, c3, c4, c5].drop 0).take (Try.prog.cellsOf 100)) = _ at f0
  rw [cells_rSet] at f0
  have g0 : DataW.trod enc Try.prog W 0 sp held n 100 [c0] = some x0 := f0
  have w1 : Wt Try.prog 100 x1.1 := wt_struct Try.underlying103 hw (i := 1) rfl rfl
  have f1 := hf 1 _ rfl
  change DataW.trod enc Try.prog W 0 sp held n 100 (([c0, c1, c2, c3, c4, c5].drop 1).take (Try.prog.cellsOf 100)) = _ at f1
  rw [cells_rSet] at f1
  have g1 : DataW.trod enc Try.prog W 0 sp held n 100 [c1] = some x1 := f1
  have w2 : Wt Try.prog 100 x2.1 := wt_struct Try.underlying103 hw (i := 2) rfl rfl
  have f2 := hf 2 _ rfl
  change DataW.trod enc Try.prog W 0 sp held n 100 (([c0, c1, c2, c3, c4, c5].drop 2).take (Try.prog.cellsOf 100)) = _ at f2
  rw [cells_rSet] at f2
  have g2 : DataW.trod enc Try.prog W 0 sp held n 100 [c2] = some x2 := f2
  have w3 : Wt Try.prog 29 x3.1 := wt_struct Try.underlying103 hw (i := 3) rfl rfl
  have f3 := hf 3 _ rfl
  change DataW.trod enc Try.prog W 0 sp held n 29 (([c0, c1, c2, c3, c4, c5].drop 3).take (Try.prog.cellsOf 29)) = _ at f3
  rw [cells_rInt] at f3
  have g3 : DataW.trod enc Try.prog W 0 sp held n 29 [c3] = some x3 := f3
  have w4 : Wt Try.prog 101 x4.1 := wt_struct Try.underlying103 hw (i := 4) rfl rfl
  have f4 := hf 4 _ rfl
  change DataW.trod enc Try.prog W 0 sp held n 101 (([c0, c1, c2, c3, c4, c5].drop 4).take (Try.prog.cellsOf 101)) = _ at f4
  rw [cells_rCall] at f4
  have g4 : DataW.trod enc Try.prog W 0 sp held n 101 [c4] = some x4 := f4
  have w5 : Wt Try.prog 3 x5.1 := wt_struct Try.underlying103 hw (i := 5) rfl rfl
  have f5 := hf 5 _ rfl
  change DataW.trod enc Try.prog W 0 sp held n 3 (([c0, c1, c2, c3, c4, c5].drop 5).take (Try.prog.cellsOf 3)) = _ at f5
  rw [cells_int] at f5
  have g5 : DataW.trod enc Try.prog W 0 sp held n 3 [c5] = some x5 := f5
  obtain ⟨d0, b0, r0, s0⟩ := rowsOfW (Q := QSet) Try.underlying100 cells_rInt bytes_Set (fun _ _ _ h hw => Set_openW h hw) g0 w0
  obtain ⟨d1, b1, r1, s1⟩ := rowsOfW (Q := QSet) Try.underlying100 cells_rInt bytes_Set (fun _ _ _ h hw => Set_openW h hw) g1 w1
  obtain ⟨d2, b2, r2, s2⟩ := rowsOfW (Q := QSet) Try.underlying100 cells_rInt bytes_Set (fun _ _ _ h hw => Set_openW h hw) g2 w2
  obtain ⟨d3, b3, r3, s3⟩ := rowsOfW (Q := QInt) Try.underlying29 cells_int bytes_Int (fun _ _ _ h hw => int_openW h hw) g3 w3
  obtain ⟨d4, b4, r4, s4⟩ := rowsOfW (Q := QCall) Try.underlying101 cells_tCall bytes_Call (fun _ _ _ h hw => Call_openW h hw) g4 w4
  obtain ⟨d5, e5, b5⟩ := int_open g5
  simp at e5
  subst e5
  exact ⟨⟨d0, d1, d2, d3, d4, d5⟩, ⟨c0, c1, c2, c3, c4, rfl, b0, b1, b2, b3, b4, b5⟩, ⟨⟨r0, s0⟩, ⟨r1, s1⟩, ⟨r2, s2⟩, ⟨r3, s3⟩, ⟨r4, s4⟩⟩⟩
def QLookup (d : DLookup) : Prop := (d.rules.length * 128 ≤ 140737488351232 ∧ ∀ x ∈ d.rules, QRule x)
set_option maxRecDepth 100000 in
theorem Lookup_openW {fuel : Nat} {cs : List Value} {x : DataW H × List MemPlace} (h : DataW.trod enc Try.prog W 0 sp held fuel 99 cs = some x) (hw : Wt Try.prog 99 x.1) : ∃ d, RLookup 0 W cs d ∧ QLookup d := by
  obtain ⟨xs, n, _, hxe, hl, hx, hf⟩ := DataW.trod_struct Try.underlying99 h
  subst hxe
  rw [cells_tLookup] at hl
  obtain ⟨c0, c1, c2, rfl⟩ : ∃ c0 c1 c2, cs = [c0, c1, c2] := by
    match cs, hl with | [q0, q1, q2], _ => exact ⟨q0, q1, q2, rfl⟩
  obtain ⟨x0, x1, x2, rfl⟩ : ∃ x0 x1 x2, xs = [x0, x1, x2] := by
    match xs, hx with | [q0, q1, q2], _ => exact ⟨q0, q1, q2, rfl⟩
  have w0 : Wt Try.prog 3 x0.1 := wt_struct Try.underlying99 hw (i := 0) rfl rfl
  have f0 := hf 0 _ rfl
  change DataW.trod enc Try.prog W 0 sp held n 3 (([c0, c1, c2].drop 0).take (Try.prog.cellsOf 3)) = _ at f0
  rw [cells_int] at f0
  have g0 : DataW.trod enc Try.prog W 0 sp held n 3 [c0] = some x0 := f0
  have w1 : Wt Try.prog 4 x1.1 := wt_struct Try.underlying99 hw (i := 1) rfl rfl
  have f1 := hf 1 _ rfl
  change DataW.trod enc Try.prog W 0 sp held n 4 (([c0, c1, c2].drop 1).take (Try.prog.cellsOf 4)) = _ at f1
  rw [cells_bool] at f1
  have g1 : DataW.trod enc Try.prog W 0 sp held n 4 [c1] = some x1 := f1
  have w2 : Wt Try.prog 97 x2.1 := wt_struct Try.underlying99 hw (i := 2) rfl rfl
  have f2 := hf 2 _ rfl
  change DataW.trod enc Try.prog W 0 sp held n 97 (([c0, c1, c2].drop 2).take (Try.prog.cellsOf 97)) = _ at f2
  rw [cells_rRule] at f2
  have g2 : DataW.trod enc Try.prog W 0 sp held n 97 [c2] = some x2 := f2
  obtain ⟨d0, e0, b0⟩ := int_open g0
  simp at e0
  subst e0
  obtain ⟨d1, e1⟩ := bool_open g1
  simp at e1
  subst e1
  obtain ⟨d2, b2, r2, s2⟩ := rowsOfW (Q := QRule) Try.underlying97 cells_tRule bytes_Rule (fun _ _ _ h hw => Rule_openW h hw) g2 w2
  exact ⟨⟨d0, d1, d2⟩, ⟨c2, rfl, b0, b2⟩, ⟨r2, s2⟩⟩
def QGlyph (d : DGlyph) : Prop := d.name.size ≤ 140737488351232 ∧ d.pts.length * 24 ≤ 140737488351232 ∧ d.ends.length * 8 ≤ 140737488351232 ∧ (d.parts.length * 24 ≤ 140737488351232 ∧ ∀ x ∈ d.parts, QPart x) ∧ (d.anchors.length * 32 ≤ 140737488351232 ∧ ∀ x ∈ d.anchors, QAnchor x) ∧ (d.deltas.length * 32 ≤ 140737488351232 ∧ ∀ x ∈ d.deltas, QDelta x) ∧ (d.hint.length * 16 ≤ 140737488351232 ∧ ∀ x ∈ d.hint, QIns x)
set_option maxRecDepth 100000 in
theorem Glyph_openW {fuel : Nat} {cs : List Value} {x : DataW H × List MemPlace} (h : DataW.trod enc Try.prog W 0 sp held fuel 44 cs = some x) (hw : Wt Try.prog 44 x.1) : ∃ d, RGlyph 0 W cs d ∧ QGlyph d := by
  obtain ⟨xs, n, _, hxe, hl, hx, hf⟩ := DataW.trod_struct Try.underlying44 h
  subst hxe
  rw [cells_tGlyph] at hl
  obtain ⟨c0, c1, c2, c3, c4, c5, c6, c7, c8, rfl⟩ : ∃ c0 c1 c2 c3 c4 c5 c6 c7 c8, cs = [c0, c1, c2, c3, c4, c5, c6, c7, c8] := by
    match cs, hl with | [q0, q1, q2, q3, q4, q5, q6, q7, q8], _ => exact ⟨q0, q1, q2, q3, q4, q5, q6, q7, q8, rfl⟩
  obtain ⟨x0, x1, x2, x3, x4, x5, x6, x7, rfl⟩ : ∃ x0 x1 x2 x3 x4 x5 x6 x7, xs = [x0, x1, x2, x3, x4, x5, x6, x7] := by
    match xs, hx with | [q0, q1, q2, q3, q4, q5, q6, q7], _ => exact ⟨q0, q1, q2, q3, q4, q5, q6, q7, rfl⟩
  have w0 : Wt Try.prog 9 x0.1 := wt_struct Try.underlying44 hw (i := 0) rfl rfl
  have f0 := hf 0 _ rfl
  change DataW.trod enc Try.prog W 0 sp held n 9 (([c0, c1, c2, c3, c4, c5, c6, c7, c8].drop 0).take (Try.prog.cellsOf 9)) = _ at f0
  rw [cells_string] at f0
  have g0 : DataW.trod enc Try.prog W 0 sp held n 9 [c0] = some x0 := f0
  have w1 : Wt Try.prog 3 x1.1 := wt_struct Try.underlying44 hw (i := 1) rfl rfl
  have f1 := hf 1 _ rfl
  change DataW.trod enc Try.prog W 0 sp held n 3 (([c0, c1, c2, c3, c4, c5, c6, c7, c8].drop 1).take (Try.prog.cellsOf 3)) = _ at f1
  rw [cells_int] at f1
  have g1 : DataW.trod enc Try.prog W 0 sp held n 3 [c1] = some x1 := f1
  have w2 : Wt Try.prog 4 x2.1 := wt_struct Try.underlying44 hw (i := 2) rfl rfl
  have f2 := hf 2 _ rfl
  change DataW.trod enc Try.prog W 0 sp held n 4 (([c0, c1, c2, c3, c4, c5, c6, c7, c8].drop 2).take (Try.prog.cellsOf 4)) = _ at f2
  rw [cells_bool] at f2
  have g2 : DataW.trod enc Try.prog W 0 sp held n 4 [c2] = some x2 := f2
  have w3 : Wt Try.prog 38 x3.1 := wt_struct Try.underlying44 hw (i := 3) rfl rfl
  have f3 := hf 3 _ rfl
  change DataW.trod enc Try.prog W 0 sp held n 38 (([c0, c1, c2, c3, c4, c5, c6, c7, c8].drop 3).take (Try.prog.cellsOf 38)) = _ at f3
  rw [cells_tOutline] at f3
  have g3 : DataW.trod enc Try.prog W 0 sp held n 38 [c3, c4] = some x3 := f3
  have w4 : Wt Try.prog 39 x4.1 := wt_struct Try.underlying44 hw (i := 4) rfl rfl
  have f4 := hf 4 _ rfl
  change DataW.trod enc Try.prog W 0 sp held n 39 (([c0, c1, c2, c3, c4, c5, c6, c7, c8].drop 5).take (Try.prog.cellsOf 39)) = _ at f4
  rw [cells_rPart] at f4
  have g4 : DataW.trod enc Try.prog W 0 sp held n 39 [c5] = some x4 := f4
  have w5 : Wt Try.prog 40 x5.1 := wt_struct Try.underlying44 hw (i := 5) rfl rfl
  have f5 := hf 5 _ rfl
  change DataW.trod enc Try.prog W 0 sp held n 40 (([c0, c1, c2, c3, c4, c5, c6, c7, c8].drop 6).take (Try.prog.cellsOf 40)) = _ at f5
  rw [cells_rAnchor] at f5
  have g5 : DataW.trod enc Try.prog W 0 sp held n 40 [c6] = some x5 := f5
  have w6 : Wt Try.prog 41 x6.1 := wt_struct Try.underlying44 hw (i := 6) rfl rfl
  have f6 := hf 6 _ rfl
  change DataW.trod enc Try.prog W 0 sp held n 41 (([c0, c1, c2, c3, c4, c5, c6, c7, c8].drop 7).take (Try.prog.cellsOf 41)) = _ at f6
  rw [cells_rDelta] at f6
  have g6 : DataW.trod enc Try.prog W 0 sp held n 41 [c7] = some x6 := f6
  have w7 : Wt Try.prog 42 x7.1 := wt_struct Try.underlying44 hw (i := 7) rfl rfl
  have f7 := hf 7 _ rfl
  change DataW.trod enc Try.prog W 0 sp held n 42 (([c0, c1, c2, c3, c4, c5, c6, c7, c8].drop 8).take (Try.prog.cellsOf 42)) = _ at f7
  rw [cells_rIns] at f7
  have g7 : DataW.trod enc Try.prog W 0 sp held n 42 [c8] = some x7 := f7
  obtain ⟨d0, e0, b0, r0⟩ := str_openW g0 w0
  simp at e0
  subst e0
  obtain ⟨d1, e1, b1⟩ := int_open g1
  simp at e1
  subst e1
  obtain ⟨d2, e2⟩ := bool_open g2
  simp at e2
  subst e2
  obtain ⟨p3, t3, u3, y3, e3, b3, z3, r3, s3⟩ := Outline_openW g3 w3
  simp at e3
  obtain ⟨rfl, rfl⟩ := e3
  obtain ⟨d4, b4, r4, s4⟩ := rowsOfW (Q := QPart) Try.underlying39 cells_tPart bytes_Part (fun _ _ _ h hw => Part_openW h hw) g4 w4
  obtain ⟨d5, b5, r5, s5⟩ := rowsOfW (Q := QAnchor) Try.underlying40 cells_tAnchor bytes_Anchor (fun _ _ _ h hw => Anchor_openW h hw) g5 w5
  obtain ⟨d6, b6, r6, s6⟩ := rowsOfW (Q := QDelta) Try.underlying41 cells_tDelta bytes_Delta (fun _ _ _ h hw => Delta_openW h hw) g6 w6
  obtain ⟨d7, b7, r7, s7⟩ := rowsOfW (Q := QIns) Try.underlying42 cells_tIns bytes_Ins (fun _ _ _ h hw => Ins_openW h hw) g7 w7
  exact ⟨⟨d0, d1, d2, p3, t3, d4, d5, d6, d7⟩, ⟨c3, c4, c5, c6, c7, c8, rfl, b0, b1, b3, z3, b4, b5, b6, b7⟩, ⟨r0, r3, s3, ⟨r4, s4⟩, ⟨r5, s5⟩, ⟨r6, s6⟩, ⟨r7, s7⟩⟩⟩
def QRegion (d : DRegion) : Prop := (d.tents.length * 24 ≤ 140737488351232 ∧ ∀ x ∈ d.tents, QTent x)
set_option maxRecDepth 100000 in
theorem Region_openW {fuel : Nat} {cs : List Value} {x : DataW H × List MemPlace} (h : DataW.trod enc Try.prog W 0 sp held fuel 72 cs = some x) (hw : Wt Try.prog 72 x.1) : ∃ d, RRegion 0 W cs d ∧ QRegion d := by
  obtain ⟨xs, n, _, hxe, hl, hx, hf⟩ := DataW.trod_struct Try.underlying72 h
  subst hxe
  rw [cells_tRegion] at hl
  obtain ⟨c0, rfl⟩ : ∃ c0, cs = [c0] := by
    match cs, hl with | [q0], _ => exact ⟨q0, rfl⟩
  obtain ⟨x0, rfl⟩ : ∃ x0, xs = [x0] := by
    match xs, hx with | [q0], _ => exact ⟨q0, rfl⟩
  have w0 : Wt Try.prog 70 x0.1 := wt_struct Try.underlying72 hw (i := 0) rfl rfl
  have f0 := hf 0 _ rfl
  change DataW.trod enc Try.prog W 0 sp held n 70 (([c0].drop 0).take (Try.prog.cellsOf 70)) = _ at f0
  rw [cells_rTent] at f0
  have g0 : DataW.trod enc Try.prog W 0 sp held n 70 [c0] = some x0 := f0
  obtain ⟨d0, b0, r0, s0⟩ := rowsOfW (Q := QTent) Try.underlying70 cells_tTent bytes_Tent (fun _ _ _ h hw => Tent_openW h hw) g0 w0
  exact ⟨⟨d0⟩, ⟨c0, rfl, b0⟩, ⟨r0, s0⟩⟩
def QFont (d : DFont) : Prop := (d.glyphs.length * 176 ≤ 140737488351232 ∧ ∀ x ∈ d.glyphs, QGlyph x) ∧ (d.chars.length * 16 ≤ 140737488351232 ∧ ∀ x ∈ d.chars, QChar x) ∧ (d.lookups.length * 40 ≤ 140737488351232 ∧ ∀ x ∈ d.lookups, QLookup x) ∧ (d.features.length * 40 ≤ 140737488351232 ∧ ∀ x ∈ d.features, QFeature x) ∧ (d.axes.length * 40 ≤ 140737488351232 ∧ ∀ x ∈ d.axes, QAxis x) ∧ (d.regions.length * 24 ≤ 140737488351232 ∧ ∀ x ∈ d.regions, QRegion x) ∧ (d.funcs.length * 24 ≤ 140737488351232 ∧ ∀ x ∈ d.funcs, QCode x) ∧ (d.cvt.length * 8 ≤ 140737488351232 ∧ ∀ x ∈ d.cvt, QInt x)
set_option maxRecDepth 100000 in
theorem Font_openW {fuel : Nat} {cs : List Value} {x : DataW H × List MemPlace} (h : DataW.trod enc Try.prog W 0 sp held fuel 31 cs = some x) (hw : Wt Try.prog 31 x.1) : ∃ d, RFont 0 W cs d ∧ QFont d := by
  obtain ⟨xs, n, _, hxe, hl, hx, hf⟩ := DataW.trod_struct Try.underlying31 h
  subst hxe
  rw [cells_tFont] at hl
  obtain ⟨c0, c1, c2, c3, c4, c5, c6, c7, c8, rfl⟩ : ∃ c0 c1 c2 c3 c4 c5 c6 c7 c8, cs = [c0, c1, c2, c3, c4, c5, c6, c7, c8] := by
    match cs, hl with | [q0, q1, q2, q3, q4, q5, q6, q7, q8], _ => exact ⟨q0, q1, q2, q3, q4, q5, q6, q7, q8, rfl⟩
  obtain ⟨x0, x1, x2, x3, x4, x5, x6, x7, x8, rfl⟩ : ∃ x0 x1 x2 x3 x4 x5 x6 x7 x8, xs = [x0, x1, x2, x3, x4, x5, x6, x7, x8] := by
    match xs, hx with | [q0, q1, q2, q3, q4, q5, q6, q7, q8], _ => exact ⟨q0, q1, q2, q3, q4, q5, q6, q7, q8, rfl⟩
  have w0 : Wt Try.prog 3 x0.1 := wt_struct Try.underlying31 hw (i := 0) rfl rfl
  have f0 := hf 0 _ rfl
  change DataW.trod enc Try.prog W 0 sp held n 3 (([c0, c1, c2, c3, c4, c5, c6, c7, c8].drop 0).take (Try.prog.cellsOf 3)) = _ at f0
  rw [cells_int] at f0
  have g0 : DataW.trod enc Try.prog W 0 sp held n 3 [c0] = some x0 := f0
  have w1 : Wt Try.prog 22 x1.1 := wt_struct Try.underlying31 hw (i := 1) rfl rfl
  have f1 := hf 1 _ rfl
  change DataW.trod enc Try.prog W 0 sp held n 22 (([c0, c1, c2, c3, c4, c5, c6, c7, c8].drop 1).take (Try.prog.cellsOf 22)) = _ at f1
  rw [cells_rGlyph] at f1
  have g1 : DataW.trod enc Try.prog W 0 sp held n 22 [c1] = some x1 := f1
  have w2 : Wt Try.prog 23 x2.1 := wt_struct Try.underlying31 hw (i := 2) rfl rfl
  have f2 := hf 2 _ rfl
  change DataW.trod enc Try.prog W 0 sp held n 23 (([c0, c1, c2, c3, c4, c5, c6, c7, c8].drop 2).take (Try.prog.cellsOf 23)) = _ at f2
  rw [cells_rChar] at f2
  have g2 : DataW.trod enc Try.prog W 0 sp held n 23 [c2] = some x2 := f2
  have w3 : Wt Try.prog 24 x3.1 := wt_struct Try.underlying31 hw (i := 3) rfl rfl
  have f3 := hf 3 _ rfl
  change DataW.trod enc Try.prog W 0 sp held n 24 (([c0, c1, c2, c3, c4, c5, c6, c7, c8].drop 3).take (Try.prog.cellsOf 24)) = _ at f3
  rw [cells_rLookup] at f3
  have g3 : DataW.trod enc Try.prog W 0 sp held n 24 [c3] = some x3 := f3
  have w4 : Wt Try.prog 25 x4.1 := wt_struct Try.underlying31 hw (i := 4) rfl rfl
  have f4 := hf 4 _ rfl
  change DataW.trod enc Try.prog W 0 sp held n 25 (([c0, c1, c2, c3, c4, c5, c6, c7, c8].drop 4).take (Try.prog.cellsOf 25)) = _ at f4
  rw [cells_rFeature] at f4
  have g4 : DataW.trod enc Try.prog W 0 sp held n 25 [c4] = some x4 := f4
  have w5 : Wt Try.prog 26 x5.1 := wt_struct Try.underlying31 hw (i := 5) rfl rfl
  have f5 := hf 5 _ rfl
  change DataW.trod enc Try.prog W 0 sp held n 26 (([c0, c1, c2, c3, c4, c5, c6, c7, c8].drop 5).take (Try.prog.cellsOf 26)) = _ at f5
  rw [cells_rAxis] at f5
  have g5 : DataW.trod enc Try.prog W 0 sp held n 26 [c5] = some x5 := f5
  have w6 : Wt Try.prog 27 x6.1 := wt_struct Try.underlying31 hw (i := 6) rfl rfl
  have f6 := hf 6 _ rfl
  change DataW.trod enc Try.prog W 0 sp held n 27 (([c0, c1, c2, c3, c4, c5, c6, c7, c8].drop 6).take (Try.prog.cellsOf 27)) = _ at f6
  rw [cells_rRegion] at f6
  have g6 : DataW.trod enc Try.prog W 0 sp held n 27 [c6] = some x6 := f6
  have w7 : Wt Try.prog 28 x7.1 := wt_struct Try.underlying31 hw (i := 7) rfl rfl
  have f7 := hf 7 _ rfl
  change DataW.trod enc Try.prog W 0 sp held n 28 (([c0, c1, c2, c3, c4, c5, c6, c7, c8].drop 7).take (Try.prog.cellsOf 28)) = _ at f7
  rw [cells_rCode] at f7
  have g7 : DataW.trod enc Try.prog W 0 sp held n 28 [c7] = some x7 := f7
  have w8 : Wt Try.prog 29 x8.1 := wt_struct Try.underlying31 hw (i := 8) rfl rfl
  have f8 := hf 8 _ rfl
  change DataW.trod enc Try.prog W 0 sp held n 29 (([c0, c1, c2, c3, c4, c5, c6, c7, c8].drop 8).take (Try.prog.cellsOf 29)) = _ at f8
  rw [cells_rInt] at f8
  have g8 : DataW.trod enc Try.prog W 0 sp held n 29 [c8] = some x8 := f8
  obtain ⟨d0, e0, b0⟩ := int_open g0
  simp at e0
  subst e0
  obtain ⟨d1, b1, r1, s1⟩ := rowsOfW (Q := QGlyph) Try.underlying22 cells_tGlyph bytes_Glyph (fun _ _ _ h hw => Glyph_openW h hw) g1 w1
  obtain ⟨d2, b2, r2, s2⟩ := rowsOfW (Q := QChar) Try.underlying23 cells_tChar bytes_Char (fun _ _ _ h hw => Char_openW h hw) g2 w2
  obtain ⟨d3, b3, r3, s3⟩ := rowsOfW (Q := QLookup) Try.underlying24 cells_tLookup bytes_Lookup (fun _ _ _ h hw => Lookup_openW h hw) g3 w3
  obtain ⟨d4, b4, r4, s4⟩ := rowsOfW (Q := QFeature) Try.underlying25 cells_tFeature bytes_Feature (fun _ _ _ h hw => Feature_openW h hw) g4 w4
  obtain ⟨d5, b5, r5, s5⟩ := rowsOfW (Q := QAxis) Try.underlying26 cells_tAxis bytes_Axis (fun _ _ _ h hw => Axis_openW h hw) g5 w5
  obtain ⟨d6, b6, r6, s6⟩ := rowsOfW (Q := QRegion) Try.underlying27 cells_tRegion bytes_Region (fun _ _ _ h hw => Region_openW h hw) g6 w6
  obtain ⟨d7, b7, r7, s7⟩ := rowsOfW (Q := QCode) Try.underlying28 cells_rIns bytes_Code (fun _ _ _ h hw => Code_openW h hw) g7 w7
  obtain ⟨d8, b8, r8, s8⟩ := rowsOfW (Q := QInt) Try.underlying29 cells_int bytes_Int (fun _ _ _ h hw => int_openW h hw) g8 w8
  exact ⟨⟨d0, d1, d2, d3, d4, d5, d6, d7, d8⟩, ⟨c1, c2, c3, c4, c5, c6, c7, c8, rfl, b0, b1, b2, b3, b4, b5, b6, b7, b8⟩, ⟨⟨r1, s1⟩, ⟨r2, s2⟩, ⟨r3, s3⟩, ⟨r4, s4⟩, ⟨r5, s5⟩, ⟨r6, s6⟩, ⟨r7, s7⟩, ⟨r8, s8⟩⟩⟩
set_option maxRecDepth 100000 in
theorem Font_inW {v : Value} {d : DataW H} {ps : List MemPlace} (hv : Value.okWide Try.prog W .any base 31 v) (h : DataW.Trod enc Try.prog W 0 (fun _ => true) true 31 v d ps) (hw : Wt Try.prog 31 d) : ∃ x : DFont, ∃ cs : List Value, v = .agg cs.toArray ∧ RFont 0 W cs x ∧ QFont x := by
  obtain ⟨arr, rfl, _⟩ := okWide_struct Try.underlying31 hv
  obtain ⟨fuel, h⟩ := h
  obtain ⟨x, hx, hq⟩ := Font_openW h hw
  exact ⟨x, arr.toList, by simp, hx, hq⟩
end
end Go.Proofs.Ytaloembfekdkoaa

/- What lies at table.tags when the call begins: out of the row's condition and the world's shape. -/
import Derived.Test.YtoidfnknckfjhaaGreatDoorTabShown
import Derived.Deep.DeepHandedRow
import Derived.LaidMore
import Derived.Lay
import Derived.OpenShut
import Derived.Stop.Joined
import Derived.FnData
namespace Go.Proofs.YtoidfnknckfjhaaGreatDoor
open Go.ChangeShapes Go.WideShapes Go.ChangeAt Go.RowKit
set_option linter.unusedVariables false

namespace Tab
def tagD : List (List UInt8) := [[97, 120, 105, 115], [99, 104, 97, 114], [99, 111, 100, 101], [102, 101, 97, 116], [103, 108, 121, 102], [104, 97, 110, 103], [104, 101, 97, 100], [108, 111, 111, 107], [109, 111, 118, 101], [110, 97, 109, 101]]
theorem tags_are : tagCells.toList = tagD.map fun l => .string (bs l) := rfl
end Tab

theorem tags_type : ((((begin Tryz.prog (fun _ _ => 0) default).world.heap[0]?).bind Obj.row?).map (·.2)) = some 64 := by kernel_rfl

/-- The variables that the row lists. -/
def laidRow : List (String × DataW Unit) := Rows.tableManyRow.laid

theorem tags_laid {W : World} (h : laidMetH Tryz.prog laidRow W) (hs : W.ShapedOpen Tryz.prog) : @Ev.LaidIn Tab.tagsVal W := by
  rw [MakeChecks.laidMetH_plain _ _ _ (by kernel_rfl)] at h
  obtain ⟨ps, ⟨g0, t0, cs0, f0, p0, q0, hg0, ht0, hv0, hd0, ⟨g1, t1, cs1, f1, p1, q1, hg1, ht1, hv1, hd1, _, _⟩, _⟩, _, _⟩ := h
  obtain rfl := Option.some.inj ((show Tryz.prog.globalNamed "fleuron/table.tags" = some 0 by kernel_rfl).symm.trans hg1)
  obtain rfl := Option.some.inj ((show (Tryz.prog.globals[0]?).map (·.type) = some 64 by kernel_rfl).symm.trans ht1)
  obtain ⟨xs, m, _, ex, hc, hl, hel⟩ := DataW.trod_array Tryz.underlying64 hd1
  have c9 : Tryz.prog.cellsOf 9 = 1 := by kernel_rfl
  have c110 : Tryz.prog.cellsOf 64 = 10 := by kernel_rfl
  have e3 : xs.map (·.1) = Tab.tagD.map fun l => (DataW.lit (.string l) : DataW Unit) := (DataW.agg.inj (Prod.mk.inj ex).1).symm
  have hcells : cs1.toList = Tab.tagCells.toList := by
    rw [c110] at hc
    rw [Tab.tags_are]
    apply List.ext_getElem?
    intro i
    by_cases hi : i < 10
    · have hE := hel i hi
      rw [c9, Nat.mul_one, List.getElem?_eq_getElem (by omega : i < xs.length)] at hE
      obtain ⟨s, e1, e2, _⟩ := DataW.trod_string Tryz.underlying9 hE
      have e4 : (xs.map (·.1))[i]? = (Tab.tagD.map fun l => (DataW.lit (.string l) : DataW Unit))[i]? := by rw [e3]
      have hi2 : i < Tab.tagD.length := hi
      rw [List.getElem?_map, List.getElem?_map, List.getElem?_eq_getElem (by omega : i < xs.length), List.getElem?_eq_getElem hi2, e2] at e4
      simp only [Option.map_some, Option.some.injEq, DataW.lit.injEq, Lit.string.injEq] at e4
      have h0 : ((cs1.toList.drop i).take 1)[0]? = some (.string s) := by rw [e1]; rfl
      have h1 : cs1.toList[i]? = some (.string s) := by simpa using h0
      rw [h1, List.getElem?_map, List.getElem?_eq_getElem hi2, Option.map_some, ← e4, bs_of]
    · rw [List.getElem?_eq_none (by omega), List.getElem?_eq_none (by rw [List.length_map]; exact Nat.not_lt.1 hi)]
  obtain ⟨⟨zero, t⟩, hz, ht⟩ := Option.map_eq_some_iff.1 tags_type
  simp only at ht
  subst ht
  obtain ⟨cs, hh, _, _⟩ := hs.1 0 zero 64 (of_decide_eq_true (by kernel_rfl)) hz
  have hcs : cs = cs1 := by
    simp only [World.var?, hg1, Option.bind_some, hh] at hv1
    exact Option.some.inj hv1
  intro g o hg
  match g, hg with
  | 0, hg =>
    obtain rfl := Option.some.inj hg
    rw [hh, hcs, show cs1 = Tab.tagCells from Array.toList_inj.1 hcells]
  | _ + 1, hg => cases hg
end Go.Proofs.YtoidfnknckfjhaaGreatDoor

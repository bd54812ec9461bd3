/- Bytes 0 that are made; a head that is copied to them. -/
import Derived.Test.YtoidfnknckfjhaaGreatDoorTabDir
import Derived.Test.YtoidfnknckfjhaaGreatDoorRowSet
import Derived.Laws.MakeOwn
import Derived.Lib.BufferWrite
namespace Go.Proofs.YtoidfnknckfjhaaGreatDoor
open Go.RowKit
set_option linter.unusedVariables false

/-- So many bytes 0, made. -/
theorem make_row (w : World) (B n : Nat) (hn : n ≤ 281474976710656) (hB : B ≤ w.heap.size) : ∃ cs, (Instr.makeSlice 23 (.int .i64 (n : Int)) (.int .i64 (n : Int))).run Tryz.prog w = .ok (.slice (some ⟨w.heap.size, 0, none⟩) n n) (w.alloc (.cells cs 5)) ∧
    cs.size = n ∧ cs.toList = (List.replicate n 0).map bcell ∧ RowM (w.alloc (.cells cs 5)) B (.slice (some ⟨w.heap.size, 0, none⟩) n n) (List.replicate n 0) := by
  obtain ⟨i0, hi, hz0, hz1, hz2⟩ := info_parts Tryz.info_u8
  have h := run_make (P := Tryz.prog) w 23 5 i0 (.int .u8 0) Tryz.underlying23 hi hz0 .i64 .i64 (n : Int) (n : Int) (by omega) (Int.le_refl _) (by rw [hz2]; omega) (by omega)
  rw [Int.toNat_natCast, hz1, Nat.mul_one] at h
  have hl : (madeCells (Value.int .u8 0).cells n).toList = (List.replicate n 0).map bcell := by
    apply List.ext_getElem
    · simp [size_madeCells]
    · intro i h1 h2
      simp [madeCells, bcell, Nat.mod_one, Value.cells]
  refine ⟨_, h, size_madeCells _ _, hl, w.heap.size, n, _, (0, 0), by rw [List.length_replicate], hB, heap_alloc_new w _, fun j _ hh => by omega, by rw [List.length_replicate]; exact Nat.le_refl _, by unfold maxLen; omega, size_madeCells _ _, ?_⟩
  rw [List.length_replicate, List.take_of_length_le (by rw [hl, List.length_map, List.length_replicate]; exact Nat.le_refl _), hl]


set_option maxRecDepth 10000 in
theorem copy_head (w : World) (B n : Nat) (hn : 8 ≤ n) (hn2 : n ≤ 281474976710656) (hB : B ≤ w.heap.size) (cs : Array Value) (hs : cs.size = n) (hc : cs.toList = (List.replicate n 0).map bcell) (ty : TypeId) :
    ∃ w', (Builtin.copy_ #[23, 9] ty #[.slice (some ⟨w.heap.size, 0, none⟩) n n, .string ⟨#[70, 76, 69, 85, 0, 1, 0, 10]⟩]).run Tryz.prog (w.alloc (.cells cs 5)) = .ok (goInt 8) w' ∧ Mod [] w w' ∧
      RowM w' B (.slice (some ⟨w.heap.size, 0, none⟩) n n) (Tab.begun (n - 8)) := by
  obtain ⟨i0, hi, hz0, hz1, hz2⟩ := info_parts Tryz.info_u8
  have h := Lib.run_copy_row_string (P := Tryz.prog) (w.alloc (.cells cs 5)) 23 9 ty 5 w.heap.size 0 n n ⟨#[70, 76, 69, 85, 0, 1, 0, 10]⟩ cs 5 Tryz.underlying23 (by rw [hi]; simp [hz1]) (heap_alloc_new w _) (show 8 ≤ n from hn) (by rw [hs]; show 0 + 8 ≤ n; omega)
  refine ⟨_, h, ?_, w.heap.size, n, _, (0, 0), ?_, hB, setRow_heap _ _ cs _ _ _ (heap_alloc_new w _), fun j _ hh => by omega, ?_, by unfold maxLen; omega, ?_, ?_⟩
  · refine ⟨rfl, rfl, rfl, by simp, fun k hk _ => ?_⟩
    rw [setRow_other _ w.heap.size k _ (by omega)]
    exact Below.heap_alloc w _ k hk
  · rw [Tab.begun_length]; congr 1 <;> omega
  · rw [Tab.begun_length]; omega
  · have h8 : (Lib.byteCells (#[70, 76, 69, 85, 0, 1, 0, 10] : Array UInt8).toList).length = 8 := rfl
    simp only [List.size_toArray, List.length_append, h8, List.length_drop, List.length_take, Array.length_toList, hs]
    show min 0 n + 8 + (n - (0 + 8)) = n
    omega
  · rw [Tab.begun_length, List.take_of_length_le (by
      have h8 : (Lib.byteCells (#[70, 76, 69, 85, 0, 1, 0, 10] : Array UInt8).toList).length = 8 := rfl
      simp only [List.length_append, h8, List.length_drop, List.length_take, Array.length_toList, hs]
      show min 0 n + 8 + (n - (0 + 8)) ≤ n - 8 + 8
      omega)]
    show List.take 0 cs.toList ++ Lib.byteCells [70, 76, 69, 85, 0, 1, 0, 10] ++ cs.toList.drop 8 = _
    rw [hc, ← List.map_drop, List.drop_replicate]
    rfl
end Go.Proofs.YtoidfnknckfjhaaGreatDoor

/- The document's coder is made. -/
import Derived.Test.YtjgklacbelggdaaGreatDoorRefTurn
import Derived.Laws.MakeOwn
namespace Go.Proofs.YtjgklacbelggdaaGreatDoor
open Go.RowKit
set_option linter.unusedVariables false

theorem Tryz.info_int : (Tryz.prog.info? 3).map (fun i => (i.zero, i.size, i.bytes)) = some (some (.int .i64 0), 1, 8) := by kernel_rfl

theorem made_zero (n : Nat) : madeCells (Value.int .i64 0).cells n = tab n fun k => .int .i64 ((chN 0 k : Nat) : Int) := by
  apply Array.ext'
  simp [madeCells, tab, Value.cells, Nat.mod_one, chN]
theorem make_chs (w : World) : (Instr.makeSlice 36 (.int .i64 2048) (.int .i64 2048)).run Tryz.prog w = .ok (.slice (some ⟨w.heap.size, 0, none⟩) 2048 2048) (w.alloc (.cells (Cod.chV (chN 0)) 3)) := by
  obtain ⟨i0, hi, hz0, hz1, hz2⟩ := info_parts Tryz.info_int
  have h := run_make (P := Tryz.prog) w 36 3 i0 (.int .i64 0) Tryz.underlying36 hi hz0 .i64 .i64 2048 2048 (by omega) (Int.le_refl _) (by rw [hz2]; decide) (by omega)
  rw [show (2048 : Int).toNat = 2048 from rfl, hz1, Nat.mul_one, made_zero] at h
  exact h

set_option maxRecDepth 4000 in
set_option maxHeartbeats 4000000 in
theorem made_any (w : World) : Calls Tryz.prog 22 #[] w fun e w' => ∃ cb hb, e = .returned (.pointer (some ⟨cb, 0, none⟩)) ∧ w.heap.size ≤ cb ∧ w.heap.size ≤ hb ∧ Mod [] w w' ∧ Blk w' cb (Cod.rcV hb 0 4294967295) 71 ∧ Blk w' hb (Cod.chV (fun _ => 2048)) 3 := by
  have hmk := make_chs w
  go_enter Tryz.func22, Tryz.ntmps22
  go_wp2_with fail
  clear hmk
  have h0 : Hid (Mod [] w ((w.alloc (.cells (Cod.chV (chN 0)) 3)).alloc (.cells (Cod.rcV w.heap.size 0 4294967295) 71)) ∧ Blk ((w.alloc (.cells (Cod.chV (chN 0)) 3)).alloc (.cells (Cod.rcV w.heap.size 0 4294967295) 71)) (w.heap.size + 1) (Cod.rcV w.heap.size 0 4294967295) 71 ∧ Blk ((w.alloc (.cells (Cod.chV (chN 0)) 3)).alloc (.cells (Cod.rcV w.heap.size 0 4294967295) 71)) w.heap.size (Cod.chV (chN 0)) 3) := by
    refine ⟨((Mod.refl _ _).alloc _).alloc _, ?_, ?_⟩
    · have := Blk.new (w.alloc (.cells (Cod.chV (chN 0)) 3)) (Cod.rcV w.heap.size 0 4294967295) 71
      simpa using this
    · exact (Blk.new w _ _).alloc _
  go_loopg [2] 2048 (fun gk i2 wr => ∃ k : Nat, i2 = .int .i64 (k : Int) ∧ Hid (k + gk = 2048) ∧ Hid (Mod [] w wr ∧ Blk wr (w.heap.size + 1) (Cod.rcV w.heap.size 0 4294967295) 71 ∧ Blk wr w.heap.size (Cod.chV (chN k)) 3))
  case atStart => exact ⟨0, rfl, rfl, h0⟩
  case round =>
    obtain ⟨k, rfl, hk, hb⟩ := hrel
    clear h0
    by_cases h8 : k = 2048
    · subst h8
      rw [show ((2048 : Nat) : Int) = 2048 from rfl]
      go_wp2_with fail
      go_ret
      refine ⟨_, _, rfl, by omega, Nat.le_refl _, hb.out.1, hb.out.2.1, ?_⟩
      rw [← Cod.chV_congr (ch := chN 2048) fun k hk => by unfold chN; rw [if_pos hk]]
      exact hb.out.2.2
    · have h2 : k < 2048 := by have := hk.out; omega
      have h1 : (k : Int) < 2048 := by omega
      have c0 : wr.cell? ⟨w.heap.size + 1, 0, none⟩ = some (.slice (some ⟨w.heap.size, 0, none⟩) 2048 2048) := hb.out.2.1.cell 0
      have c1 : wr.cell? ⟨w.heap.size, k, none⟩ = some (.int .i64 (chN k k : Nat)) := (hb.out.2.2.cell k).trans (Cod.chV_at _ k h2)
      have z : wr.frozen? ⟨w.heap.size, k, none⟩ = false := hb.out.2.2.frozen k
      have hst : Hid (Mod [] w (wr.setCell ⟨w.heap.size, k, none⟩ (.int .i64 2048)) ∧ Blk (wr.setCell ⟨w.heap.size, k, none⟩ (.int .i64 2048)) (w.heap.size + 1) (Cod.rcV w.heap.size 0 4294967295) 71 ∧ Blk (wr.setCell ⟨w.heap.size, k, none⟩ (.int .i64 2048)) w.heap.size (Cod.chV (chN (k + 1))) 3) := by
        refine ⟨hb.out.1.setNew (p := ⟨w.heap.size, k, none⟩) (Nat.le_refl _) _, hb.out.2.1.other (a := ⟨w.heap.size, k, none⟩) (by show w.heap.size ≠ w.heap.size + 1; omega) _, ?_⟩
        have h6 := hb.out.2.2.set k (.int .i64 ((2048 : Nat) : Int))
        rw [Cod.chV_set] at h6
        rw [Cod.chV_congr (ch' := Cod.upd (chN k) k 2048) fun j _ => by
          unfold Cod.upd chN
          by_cases e : j = k
          · rw [if_pos e, if_pos (by omega)]
          · rw [if_neg e]
            by_cases e2 : j < k
            · rw [if_pos e2, if_pos (by omega)]
            · rw [if_neg e2, if_neg (by omega)]]
        exact h6
      generalize chN k k = old at c1
      clear hb h8
      go_wp2_with fail
      go_roundg (gk - 1)
      case measure => have := hk.out; omega
      case rel =>
        refine ⟨k + 1, by rw [Int.natCast_add]; rfl, ?_, hst⟩
        have := hk.out; show k + 1 + (gk - 1) = 2048; omega
end Go.Proofs.YtjgklacbelggdaaGreatDoor

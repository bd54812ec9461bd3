/- A coder is made. -/
import Derived.Test.YtjgklacbelggdaaGreatDoorCodStep
import Derived.Laws.Tables
namespace Go.Proofs.YtjgklacbelggdaaGreatDoor
open Go.RowKit
set_option linter.unusedVariables false

theorem cc_congr {lo hi : Nat} {ch ch' : Nat → Nat} {vb vd : Value} (h : ∀ k, k < 2048 → ch k = ch' k) : cc lo hi ch vb vd = cc lo hi ch' vb vd := by
  unfold cc
  refine tab_congr fun j hj => ?_
  unfold ccF
  split
  · rfl
  · split
    · rfl
    · split
      · rw [h _ (by omega)]
      · rfl

def chN (n : Nat) : Nat → Nat := fun i => if i < n then 2048 else 0
theorem cc_chN (lo hi n : Nat) (vb vd : Value) (hn : n < 2048) : (cc lo hi (chN n) vb vd).setIfInBounds (2 + n) (.int .u32 2048) = cc lo hi (chN (n + 1)) vb vd := by
  have h := cc_set_ch lo hi (chN n) vb vd n 2048 hn
  refine Eq.trans h (cc_congr fun k _ => ?_)
  unfold Cod.upd chN
  by_cases e : k = n
  · rw [if_pos e, if_pos (by omega)]
  · rw [if_neg e]
    by_cases e2 : k < n
    · rw [if_pos e2, if_pos (by omega)]
    · rw [if_neg e2, if_neg (by omega)]

theorem zero_coder : Tryz.zeroCells65.setIfInBounds 1 (.int .u32 4294967295) = cc 0 4294967295 (chN 0) .nilFunc .nilFunc := by kernel_rfl

set_option maxRecDepth 4000 in
set_option maxHeartbeats 4000000 in
theorem newCoder_any (w : World) : Calls Tryz.prog 17 #[] w fun e w' => ∃ cb, e = .returned (.pointer (some ⟨cb, 0, none⟩)) ∧ w.heap.size ≤ cb ∧ Mod [] w w' ∧ Blk w' cb (cc 0 4294967295 (fun _ => 2048) .nilFunc .nilFunc) 65 := by
  go_enter Tryz.func17, Tryz.ntmps17
  go_wp2_with fail
  rw [zero_coder]
  have HS : ∀ n, Hid (Blk (w.alloc (.cells (cc 0 4294967295 (chN n) .nilFunc .nilFunc) 65)) w.heap.size (cc 0 4294967295 (chN n) .nilFunc .nilFunc) 65) := fun n => heap_alloc_new w _
  go_loopg [6] 8 (fun gk i6 wr => ∃ k : Nat, i6 = .int .i64 (k : Int) ∧ Hid (k + gk = 8) ∧ Hid (Mod [] w wr ∧ Blk wr w.heap.size (cc 0 4294967295 (chN (256 * k)) .nilFunc .nilFunc) 65))
  case atStart => exact ⟨0, rfl, rfl, (Mod.refl _ _).alloc _, heap_alloc_new w _⟩
  case round =>
    obtain ⟨k, rfl, hk, hb⟩ := hrel
    clear HS
    have hk8 : (k : Int) ≤ 8 := by have := hk.out; omega
    by_cases h8 : k = 8
    · subst h8
      rw [show ((8 : Nat) : Int) = 8 from rfl]
      go_wp2_with fail
      go_ret
      refine ⟨_, rfl, Nat.le_refl _, hb.out.1, ?_⟩
      rw [← cc_congr (ch := chN (256 * 8)) fun k hk => by unfold chN; rw [if_pos (by omega)]]
      exact hb.out.2
    · have h1 : (k : Int) < 8 := by omega
      have h2 : k < 8 := by omega
      clear h8 hk8
      generalize gk = G at *
      go_wp2_with fail
      go_loopg [9] 256 (fun gj i9 ws => ∃ j : Nat, i9 = .int .i64 (j : Int) ∧ Hid (j + gj = 256) ∧ Hid (Mod [] w ws ∧ Blk ws w.heap.size (cc 0 4294967295 (chN (256 * k + j)) .nilFunc .nilFunc) 65))
      case atStart => exact ⟨0, rfl, rfl, hb⟩
      case round =>
        obtain ⟨j, rfl, hj, hb2⟩ := hrel
        clear hb
        have hj8 : (j : Int) ≤ 256 := by have := hj.out; omega
        by_cases h9 : j = 256
        · subst h9
          rw [show ((256 : Nat) : Int) = 256 from rfl]
          have h3 : (0 : Int) ≤ (k : Int) := by omega
          go_wp2_with fail
          go_roundg (G - 1)
          case measure => have := hk.out; omega
          case rel =>
            refine ⟨k + 1, by rw [Int.natCast_add]; rfl, ?_, ?_⟩
            · have := hk.out; show k + 1 + (G - 1) = 8; omega
            · rw [show 256 * (k + 1) = 256 * k + 256 by omega]; exact hb2
        · have h3 : (j : Int) < 256 := by omega
          have h4 : j < 256 := by omega
          have h5 : (0 : Int) ≤ (j : Int) := by omega
          have z : wr.frozen? ⟨w.heap.size, 2 + k * 256 + j, none⟩ = false := hb2.out.2.frozen _
          have c : wr.cell? ⟨w.heap.size, 2 + k * 256 + j, none⟩ = some (.int .u32 (chN (256 * k + j) (256 * k + j) : Nat)) := by
            rw [show 2 + k * 256 + j = 2 + (256 * k + j) by omega]
            exact (hb2.out.2.cell _).trans (cc_ch _ _ _ _ _ _ (by omega))
          have hst : Hid (Mod [] w (wr.setCell ⟨w.heap.size, 2 + k * 256 + j, none⟩ (.int .u32 2048)) ∧ Blk (wr.setCell ⟨w.heap.size, 2 + k * 256 + j, none⟩ (.int .u32 2048)) w.heap.size (cc 0 4294967295 (chN (256 * k + (j + 1))) .nilFunc .nilFunc) 65) := by
            rw [show 2 + k * 256 + j = 2 + (256 * k + j) by omega]
            refine ⟨hb2.out.1.setNew (p := ⟨w.heap.size, 2 + (256 * k + j), none⟩) (Nat.le_refl _) _, ?_⟩
            have h6 := hb2.out.2.set (2 + (256 * k + j)) (.int .u32 2048)
            rw [cc_chN _ _ _ _ _ (by omega)] at h6
            exact h6
          generalize chN (256 * k + j) (256 * k + j) = old at c
          clear hb2 h9 hj8
          go_wp2_with fail
          go_roundg (gk - 1)
          case measure => have := hj.out; omega
          case rel =>
            refine ⟨j + 1, by rw [Int.natCast_add]; rfl, ?_, hst⟩
            have := hj.out; show j + 1 + (gk - 1) = 256; omega
end Go.Proofs.YtjgklacbelggdaaGreatDoor

/- The document's reader: the next byte. -/
import Derived.Test.YtjgklacbelggdaaGreatDoorRefPack
namespace Go.Proofs.YtjgklacbelggdaaGreatDoor
open Go.RowKit
set_option linter.unusedVariables false

namespace Cod
/-- What is read, so many bytes further. -/
def advR : Nat → Nat × List UInt8 → Nat × List UInt8
  | 0, s => s
  | k + 1, s => advR k (s.1 % 16777216 * 256 + (s.2.headD 0).toNat, s.2.tail)
theorem norm_advR : ∀ (f : Nat) (c : C) (s : Nat × List UInt8), norm rf f c s = ((nrm f c).2, advR (nrm f c).1.length s)
  | 0, _, _ => rfl
  | f + 1, c, s => by
    unfold norm nrm
    by_cases hs : same c = true
    · rw [if_pos hs, if_pos hs]; exact norm_advR f (shift c) (rf.done s (c.low / 16777216))
    · rw [if_neg hs, if_neg hs]; rfl
theorem head_at (T : ByteArray) (p : Nat) (h : p < T.size) : (T.data.toList.drop p).headD 0 = T[p] := by
  rw [List.drop_eq_getElem_cons (show p < T.data.toList.length by rw [Array.length_toList]; exact h)]
  rfl
theorem head_off (T : ByteArray) (p : Nat) (h : T.size ≤ p) : (T.data.toList.drop p).headD 0 = 0 := by
  rw [List.drop_of_length_le (show T.data.toList.length ≤ p by rw [Array.length_toList]; exact h)]
  rfl
end Cod

set_option maxHeartbeats 1000000 in
theorem next_any (T : ByteArray) (hT : T.size ≤ 1073741824) (rb p : Nat) (hp : p ≤ 1073741824) (w : World) (h : Blk w rb #[.string T, .int .i64 (p : Int)] 79) :
    Calls Tryz.prog 27 #[.pointer (some ⟨rb, 0, none⟩)] w fun e w' => e = .returned (.int .i64 (((T.data.toList.drop p).headD 0).toNat : Int)) ∧ Mod [rb] w w' ∧ Blk w' rb #[.string T, .int .i64 ((p + 1 : Nat) : Int)] 79 := by
  obtain ⟨c0, c1, z0, z1⟩ := h.two
  have HB : Hid (Mod [rb] w (w.setCell ⟨rb, 1, none⟩ (.int .i64 ((p : Int) + 1))) ∧ Blk (w.setCell ⟨rb, 1, none⟩ (.int .i64 ((p : Int) + 1))) rb #[.string T, .int .i64 ((p + 1 : Nat) : Int)] 79) :=
    ⟨(Mod.refl _ _).setCell (p := ⟨rb, 1, none⟩) (fun _ => by simp) _, h.set 1 _⟩
  clear h
  by_cases hlt : p < T.size
  · have hd := Lib.hid (Cod.head_at T p hlt)
    have h1 : (p : Int) < (T.size : Int) := by omega
    have h2 : (0 : Int) ≤ (p : Int) := by omega
    go_enter Tryz.func27, Tryz.ntmps27
    go_wp2_with fail
    go_quiet (fail)
    go_wp2_with fail
    go_quiet (fail)
    go_wp2_with fail
    go_ret
    exact ⟨ret_int (by rw [hd.out]; have := UInt8.toNat_lt T[p]; unfold wrap64; omega), (HB.out.1.drewN _).drewN _, (HB.out.2.drewN _).drewN _⟩
  · have hd := Lib.hid (Cod.head_off T p (by omega))
    have h1 : (T.size : Int) < (p : Int) + 1 := by omega
    go_enter Tryz.func27, Tryz.ntmps27
    go_wp2_with fail
    go_quiet (fail)
    go_wp2_with fail
    go_ret
    exact ⟨ret_int (by rw [hd.out]; rfl), HB.out.1.drewN _, HB.out.2.drewN _⟩
end Go.Proofs.YtjgklacbelggdaaGreatDoor

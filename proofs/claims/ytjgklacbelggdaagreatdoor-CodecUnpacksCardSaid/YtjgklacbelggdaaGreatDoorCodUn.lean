/- Unpack: the whole. -/
import Derived.Test.YtjgklacbelggdaaGreatDoorCodUnpack
namespace Go.Proofs.YtjgklacbelggdaaGreatDoor
open Go.RowKit
set_option linter.unusedVariables false

namespace Cod
/-- What Unpack answers. -/
def unS (S : ByteArray) : ByteArray × Int := match unpacked S.data.toList with
  | .short => (bs [], 10)
  | .many => (bs [], 2)
  | .form => (bs [], 11)
  | .ok l => (bs l, 0)
theorem unS_short {S : ByteArray} (h : S.size < 4) : unS S = (bs [], 10) := by
  unfold unS unpacked
  rw [if_pos (show S.data.toList.length < 4 by rw [Array.length_toList]; exact h)]
theorem unS_many {S : ByteArray} (h : 4 ≤ S.size) (h2 : 1048576 < n4 S.data.toList) : unS S = (bs [], 2) := by
  unfold unS unpacked
  rw [if_neg (show ¬ S.data.toList.length < 4 by rw [Array.length_toList]; exact Nat.not_lt.2 h), if_pos h2]
theorem unS_else {S : ByteArray} (h : 4 ≤ S.size) (h2 : ¬ 1048576 < n4 S.data.toList) : unS S = if (unB S (n4 S.data.toList)).2 = true then ((unB S (n4 S.data.toList)).1, 0) else (bs [], 11) := by
  unfold unS unpacked unB
  rw [if_neg (show ¬ S.data.toList.length < 4 by rw [Array.length_toList]; exact Nat.not_lt.2 h), if_neg h2]
  cases readBack (n4 S.data.toList) (S.data.toList.drop 4) <;> rfl
theorem numR_first (S : ByteArray) (h : 4 ≤ S.size) : Oct.numR S 0 false 4 = ((n4 S.data.toList : Int), 4, false) := by
  unfold Oct.numR
  rw [if_pos ⟨rfl, by omega, by omega, by omega⟩, show (4 : Int).toNat = 4 from rfl, be_n4 S 0 (by omega)]
  rfl
end Cod

set_option maxRecDepth 4000 in
set_option maxHeartbeats 2000000 in
theorem unpack_any (S : ByteArray) (hS : S.size ≤ 1152921504606846976) (w : World) : Calls Tryz.prog 12 #[.string S] w fun e w' => e = .returned (.tuple #[.string (Cod.unS S).1, .int .i64 (Cod.unS S).2]) ∧ Mod [] w w' := by
  by_cases h4 : S.size < 4
  · rw [Cod.unS_short h4]
    have h5 : (S.size : Int) < 4 := by omega
    go_enter Tryz.func12, Tryz.ntmps12
    go_wp2_with fail
    go_ret2
    exact ⟨rfl, Mod.refl _ _⟩
  · have h5 : ¬ (S.size : Int) < 4 := by omega
    have hs4 : 4 ≤ S.size := by omega
    have HS := Lib.hid hS
    have H4 := Lib.hid hs4
    have HRead := Lib.hid (read_any S w (by unfold maxLen; omega))
    have HN1 := Lib.hid (Cod.numR_first S hs4)
    have hM := @Cod.unS_many S hs4
    have hE := @Cod.unS_else S hs4
    clear hS hs4 h4
    generalize hn : Cod.n4 S.data.toList = n at *
    clear hn
    by_cases hm : 1048576 < n
    · rw [hM hm]
      have hm2 : (1048576 : Int) < (n : Int) := by omega
      clear hM hE hm
      go_enter Tryz.func12, Tryz.ntmps12
      go_wp2_with fail
      refine HRead.out.mono ?_
      rintro e w1 ⟨rfl, hr, hm1⟩
      go_wp2_with fail
      have hc := num_all w.heap.size S 0 false 4 w1 hr
      rw [HN1.out] at hc
      refine hc.mono ?_
      rintro e w2 ⟨rfl, hr2, hm3⟩
      have HM := Lib.hid (hm1.trans hm3 (by simp))
      clear hm1 hm3 hr hc hr2
      go_wp2_with fail
      go_ret2
      exact ⟨rfl, HM.out⟩
    · rw [hE hm]
      have hm2 : ¬ (1048576 : Int) < (n : Int) := by omega
      have HU := Lib.hid (fun w2 a b => unpacked_any w w.heap.size S n (Nat.le_of_not_lt hm) HS.out H4.out w2 a b (Nat.le_refl _))
      clear hM hE hm
      generalize Cod.unB S n = ub at *
      obtain ⟨t, o⟩ := ub
      go_enter Tryz.func12, Tryz.ntmps12
      go_wp2_with fail
      refine HRead.out.mono ?_
      rintro e w1 ⟨rfl, hr, hm1⟩
      go_wp2_with fail
      have hc := num_all w.heap.size S 0 false 4 w1 hr
      rw [HN1.out] at hc
      refine hc.mono ?_
      rintro e w2 ⟨rfl, hr2, hm3⟩
      have HM := Lib.hid (hm1.trans hm3 (by simp))
      have HR2 := Lib.hid hr2
      clear hm1 hm3 hr hc hr2
      go_wp2_with fail
      refine (HU.out w2 HM.out HR2.out).mono ?_
      rintro e w3 ⟨rfl, hm3⟩
      have HM3 := Lib.hid hm3
      clear hm3
      cases o with
      | true =>
        go_wp2_with fail
        go_ret2
        exact ⟨rfl, HM3.out⟩
      | false =>
        go_wp2_with fail
        go_ret2
        exact ⟨rfl, HM3.out⟩
end Go.Proofs.YtjgklacbelggdaaGreatDoor

/- The walk of CodecUnpacks. -/
import Derived.Test.YtjgklacbelggdaaGreatDoorCodShown
import Derived.Test.YtjgklacbelggdaaGreatDoorRefUn
import Derived.Test.YtjgklacbelggdaaGreatDoorRowSet
import Derived.Test.YtjgklacbelggdaaGreatDoorCodLong
namespace Go.Proofs.YtjgklacbelggdaaGreatDoor
open Go.RowKit
set_option linter.unusedVariables false

set_option maxRecDepth 100000 in
set_option maxHeartbeats 4000000 in
theorem unpacks_walk (s : ByteArray) (at_ t : Int) (w : World) (h : @Ev.LaidIn Cod.tagsVal w) (hs : s.size ≤ maxLen) (hat : -9223372036854775808 ≤ at_ ∧ at_ ≤ 9223372036854775807) (hx : 0 ≤ t ∧ t ≤ 255) :
    Calls Tryz.prog 4 #[.string s, .int .i64 at_, .int .u8 t] w fun e w' => e = .returned (.bool true) ∧ Below w.heap.size w w' := by
  have HS := Lib.hid (shown_true w h)
  clear h
  go_enter Tryz.func4, Tryz.ntmps4
  go_wp2_with fail
  refine HS.out.mono ?_
  rintro e w1 ⟨rfl, hb1⟩
  have HM := Lib.hid (Mod.of_below hb1)
  clear hb1
  go_wp2_with fail
  have hSs : (s.extract 0 (min (s.size : Int) 200).toNat).size ≤ 200 := by rw [ByteArray.size_extract]; omega
  generalize s.extract 0 (min (s.size : Int) 200).toNat = S at *
  obtain ⟨l, rfl⟩ : ∃ l, S = bs l := ⟨S.data.toList, (bs_of S).symm⟩
  obtain ⟨tn, rfl⟩ := Int.eq_ofNat_of_zero_le hx.1
  have htn : tn < 256 := by omega
  have HTN := Lib.hid htn
  have hll : l.length ≤ 200 := hSs
  have HLL := Lib.hid hll
  clear hx htn hll
  have hU := unpack_any (bs l) (by omega) w1
  have HRU := Lib.hid (fun w' => runpack_all (bs l) (by omega) w')
  obtain ⟨r, n, hun⟩ : ∃ r n, Cod.unS (bs l) = (r, n) := ⟨_, _, rfl⟩
  rw [hun] at hU HRU
  clear hun
  refine hU.mono ?_
  rintro e w2 ⟨rfl, hm2⟩
  have HM2 := Lib.hid (HM.out.then hm2)
  clear hU hm2 HM
  go_wp2_with fail
  refine (HRU.out w2).mono ?_
  rintro e w3 ⟨rfl, hm3⟩
  have HM3 := Lib.hid (HM2.out.then hm3)
  clear hm3 HM2 HRU
  go_wp2_with fail
  have hxl : l.length ≤ 1048576 := by have := HLL.out; omega
  have hP := rpack_all (bs l) w3
  rw [Cod.packS_is l hxl] at hP
  have hp8 := Cod.packed_length l
  have hple := Cod.packed_le l
  generalize Cod.packed l = P at *
  have hs1 : 8 ≤ (bs P).size := hp8
  have hs2 : (bs P).size ≤ 200000 := by rw [bs_size]; have := HLL.out; omega
  have hPl : P.length = (bs P).size := rfl
  clear hp8 hple hxl
  refine hP.mono ?_
  rintro e w4 ⟨rfl, hm4⟩
  have HM4 := Lib.hid (HM3.out.then hm4)
  clear hP hm4 HM3
  obtain ⟨v0, w5, hc5, hrow5, hm5⟩ := bytes_rowM (P := Tryz.prog) w4 w.heap.size 9 28 (bs P) (by kernel_rfl) (by kernel_rfl) (by kernel_rfl) (by unfold maxLen; omega) HM4.out.size
  rw [bs_data] at hrow5
  obtain ⟨g, cap, rfl, hcap, hcell, hfro, hge, hset, -⟩ := hrow5.at
  have HM5 := Lib.hid (HM4.out.then hm5)
  obtain ⟨k, hk1, hk2, hk3⟩ : ∃ k : Nat, Int.tmod (at_ % 65536) ((bs P).size : Int) = (k : Int) ∧ at_ % 65536 % ((bs P).size : Int) = (k : Int) ∧ k < (bs P).size := by
    have h1 : 0 ≤ at_ % 65536 % ((bs P).size : Int) := Int.emod_nonneg _ (by omega)
    have h2 : at_ % 65536 % ((bs P).size : Int) < ((bs P).size : Int) := Int.emod_lt_of_pos _ (by omega)
    refine ⟨(at_ % 65536 % ((bs P).size : Int)).toNat, ?_, by omega, by omega⟩
    rw [Int.tmod_eq_emod_of_nonneg (by omega)]
    omega
  have e1 := and16 at_
  obtain ⟨u, hu⟩ : ∃ u, P[k]? = some u := ⟨P[k]'(by rw [hPl]; exact hk3), List.getElem?_eq_getElem _⟩
  have hck := hcell k u hu
  have hfk := hfro k (by rw [hPl]; exact hk3)
  have hxor := xor_byte u tn HTN.out
  obtain ⟨Y, hY⟩ : ∃ Y, Y = P.set k (u ^^^ UInt8.ofNat tn) := ⟨_, rfl⟩
  have hYl : Y.length = (bs P).size := by rw [hY, List.length_set]; rfl
  have hRow : RowM (w5.setCell ⟨g, k, none⟩ (.int .u8 (u ^^^ UInt8.ofNat tn).toNat)) w.heap.size (.slice (some ⟨g, 0, none⟩) (bs P).size cap) Y := by
    have h9 := hset k (u ^^^ UInt8.ofNat tn) (by rw [hPl]; exact hk3)
    rw [← hY, hPl] at h9
    exact h9
  have HM6 : Hid (Mod [] w (w5.setCell ⟨g, k, none⟩ (.int .u8 (u ^^^ UInt8.ofNat tn).toNat))) := HM5.out.setNew (p := ⟨g, k, none⟩) hge _
  have HYL := Lib.hid hYl
  have HRow := Lib.hid hRow
  have HTake : Hid (RowM (w5.setCell ⟨g, k, none⟩ (.int .u8 (u ^^^ UInt8.ofNat tn).toNat)) w.heap.size (.slice (some ⟨g, 0, none⟩) k cap) (Y.take k)) := by
    rw [← hYl] at hRow
    obtain ⟨g2, cap2, h1, -, -, -, -, -, h2⟩ := hRow.at
    cases h1
    exact h2 k (by omega)
  clear hset hcell hfro hge hm5 HM4 HM5 hrow5 hY hYl hRow
  have hcap2 : (bs P).size ≤ cap := by rw [← hPl]; exact hcap
  rw [hPl] at hc5
  have hk4 : (k : Int) < ((bs P).size : Int) := by omega
  clear hcap
  generalize (u ^^^ UInt8.ofNat tn).toNat = y at *
  have AC : ∀ W', Mod [] (w5.setCell ⟨g, k, none⟩ (.int .u8 y)) W' → (convert 28 9 (.slice (some ⟨g, 0, none⟩) (bs P).size cap)).run Tryz.prog W' = .ok (.string (bs Y)) W' := fun W' m => by
    have h9 := HRow.out.mod m (by simp)
    rw [← HYL.out] at h9 ⊢
    exact h9.conv 28 9 5 (by kernel_rfl) (by kernel_rfl) (by kernel_rfl)
  have AT : ∀ W', Mod [] (w5.setCell ⟨g, k, none⟩ (.int .u8 y)) W' → (convert 28 9 (.slice (some ⟨g, 0, none⟩) k cap)).run Tryz.prog W' = .ok (.string (bs (Y.take k))) W' := fun W' m => by
    have h9 := HTake.out.mod m (by simp)
    have e : (Y.take k).length = k := by rw [List.length_take]; have := HYL.out; omega
    have h8 : (convert 28 9 (.slice (some ⟨g, 0, none⟩) (Y.take k).length cap)).run Tryz.prog W' = .ok (.string (bs (Y.take k))) W' := RowM.conv (by rw [e]; exact h9) 28 9 5 (by kernel_rfl) (by kernel_rfl) (by kernel_rfl)
    rw [e] at h8
    exact h8
  have HAC := Lib.hid AC
  have HAT := Lib.hid AT
  have ac0 := HAC.out _ (Mod.refl [] _)
  clear AC AT
  go_wp2_with fail
  have hYs : (bs Y).size ≤ 200000 := by rw [bs_size]; have := HYL.out; omega
  have hTs : (bs (Y.take k)).size ≤ 200000 := by rw [bs_size, List.length_take]; have := HYL.out; omega
  obtain ⟨r2, n2, hun⟩ : ∃ r n, Cod.unS (bs Y) = (r, n) := ⟨_, _, rfl⟩
  obtain ⟨r3, n3, hun3⟩ : ∃ r n, Cod.unS (bs (Y.take k)) = (r, n) := ⟨_, _, rfl⟩
  have HU2 := Lib.hid (fun w' => unpack_any (bs Y) (by omega) w')
  have HR2 := Lib.hid (fun w' => runpack_all (bs Y) (by omega) w')
  have HU3 := Lib.hid (fun w' => unpack_any (bs (Y.take k)) (by omega) w')
  have HR3 := Lib.hid (fun w' => runpack_all (bs (Y.take k)) (by omega) w')
  rw [hun] at HU2 HR2
  rw [hun3] at HU3 HR3
  clear hun hun3 hck hfk hxor hc5 e1 hYs hTs ac0
  generalize w5.setCell ⟨g, k, none⟩ (.int .u8 y) = w6 at *
  refine (HU2.out _).mono ?_
  rintro e w7 ⟨rfl, hm7⟩
  have ac := HAC.out w7 hm7
  have HM7 := Lib.hid hm7
  clear hm7
  go_wp2_with fail
  refine (HR2.out _).mono ?_
  rintro e w8 ⟨rfl, hm8⟩
  have HM8 := Lib.hid (HM7.out.then hm8)
  have at8 := HAT.out w8 HM8.out
  clear hm8 ac HM7
  go_wp2_with fail
  refine (HU3.out _).mono ?_
  rintro e w9 ⟨rfl, hm9⟩
  have HM9 := Lib.hid (HM8.out.then hm9)
  have at9 := HAT.out w9 HM9.out
  clear hm9 at8 HM8
  go_wp2_with fail
  refine (HR3.out _).mono ?_
  rintro e w10 ⟨rfl, hm10⟩
  have HM10 := Lib.hid (HM6.out.then (HM9.out.then hm10))
  clear hm10 at9 HM9
  go_wp2_with fail
  go_ret
  exact ⟨rfl, HM10.out.to_below⟩
end Go.Proofs.YtjgklacbelggdaaGreatDoor

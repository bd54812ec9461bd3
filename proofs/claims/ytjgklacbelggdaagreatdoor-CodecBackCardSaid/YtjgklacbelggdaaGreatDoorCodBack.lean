/- The walk of CodecBack. -/
import Derived.Test.YtjgklacbelggdaaGreatDoorCodShown
import Derived.Test.YtjgklacbelggdaaGreatDoorCodBackP
namespace Go.Proofs.YtjgklacbelggdaaGreatDoor
open Go.RowKit
set_option linter.unusedVariables false

set_option maxRecDepth 4000 in
set_option maxHeartbeats 4000000 in
theorem back_walk (s : ByteArray) (x : Int) (w : World) (h : @Ev.LaidIn Cod.tagsVal w) (hs : s.size ≤ maxLen) (hx : 0 ≤ x ∧ x ≤ 255) :
    Calls Tryz.prog 5 #[.string s, .int .u8 x] w fun e w' => e = .returned (.bool true) ∧ Below w.heap.size w w' := by
  have HS := Lib.hid (shown_true w h)
  clear h
  go_enter Tryz.func5, Tryz.ntmps5
  go_wp2_with fail
  refine HS.out.mono ?_
  rintro e w1 ⟨rfl, hb1⟩
  have HM := Lib.hid (Mod.of_below hb1)
  clear hb1
  go_wp2_with fail
  have hSs : (s.extract 0 (min (s.size : Int) 5000).toNat).size ≤ 5000 := by rw [ByteArray.size_extract]; omega
  generalize s.extract 0 (min (s.size : Int) 5000).toNat = S at *
  obtain ⟨l, rfl⟩ : ∃ l, S = bs l := ⟨S.data.toList, (bs_of S).symm⟩
  rw [bs_size] at hSs
  have hl : l.length ≤ 1048576 := by omega
  have hp := Cod.packS_is l hl
  obtain ⟨xn, rfl⟩ := Int.eq_ofNat_of_zero_le hx.1
  have hxn : xn < 256 := by omega
  have HU1 := Lib.hid (Cod.unS_packS l hl)
  have HU2 := Lib.hid (Cod.unS_more l hl (UInt8.ofNat xn))
  have HU3 := Lib.hid (Cod.unS_fewer l hl)
  have hp8 := Cod.packed_length l
  have hple := Cod.packed_le l
  have hP := pack_all (bs l) w1
  rw [hp] at hP
  clear hp
  generalize Cod.packed l = P at *
  have hs1 : 8 ≤ (bs P).size := hp8
  have hs2 : (bs P).size ≤ 200000 := by rw [bs_size]; omega
  clear hp8 hple
  refine hP.mono ?_
  rintro e w2 ⟨rfl, hm2⟩
  have HM2 := Lib.hid (HM.out.then hm2)
  clear hP hm2
  go_wp2_with fail
  have hU := unpack_any (bs P) (by omega) w2
  rw [HU1.out] at hU
  refine hU.mono ?_
  rintro e w3 ⟨rfl, hm3⟩
  have HM3 := Lib.hid (HM2.out.then hm3)
  clear hU hm3
  have hcv := conv_new (P := Tryz.prog) w3 28 9 5 1 1 [UInt8.ofNat xn] #[.int .u8 (xn : Int)] 5 (by kernel_rfl) (by kernel_rfl) (by kernel_rfl) rfl (by rw [List.map_cons, List.map_nil, bcell_ofNat hxn]; rfl)
  have hb1 : (bs [UInt8.ofNat xn]).size = 1 := rfl
  have hs3 : 8 ≤ ((bs P).size : Int) := by omega
  go_wp2_with fail
  have hcat : bs P ++ bs [UInt8.ofNat xn] = bs (P ++ [UInt8.ofNat xn]) := bs_ext (by simp [bs])
  have hU := unpack_any (bs (P ++ [UInt8.ofNat xn])) (by rw [bs_size, List.length_append]; have : P.length = (bs P).size := rfl; simp; omega) (w3.alloc (.cells #[.int .u8 (xn : Int)] 5))
  rw [HU2.out] at hU
  rw [hcat]
  refine hU.mono ?_
  rintro e w4 ⟨rfl, hm4⟩
  have HM4 := Lib.hid ((HM3.out.alloc _).then hm4)
  clear hU hm4 hcat hcv
  have hext : ∀ m : Nat, (bs P).extract 0 m = bs (P.take m) := fun m => bs_ext (by simp [bs])
  have HX := Lib.hid hext
  clear hext
  go_wp2_with fail
  obtain ⟨n1, hn1, hu1⟩ := HU3.out ((bs P).size - 1) (by rw [bs_size]; have : P.length = (bs P).size := rfl; omega)
  have hU := unpack_any (bs (P.take ((bs P).size - 1))) (by rw [bs_size, List.length_take]; omega) w4
  rw [hu1] at hU
  rw [HX.out]
  have HN1 := Lib.hid hn1
  clear hn1 hu1
  refine hU.mono ?_
  rintro e w5 ⟨rfl, hm5⟩
  have HM5 := Lib.hid (HM4.out.then hm5)
  clear hU hm5
  go_wp2_with fail
  obtain ⟨n2, hn2, hu2⟩ := HU3.out ((bs P).size / 2) (by rw [bs_size]; have : P.length = (bs P).size := rfl; omega)
  have hU := unpack_any (bs (P.take ((bs P).size / 2))) (by rw [bs_size, List.length_take]; omega) w5
  rw [hu2] at hU
  rw [HX.out]
  have HN2 := Lib.hid hn2
  clear hn2 hu2
  refine hU.mono ?_
  rintro e w6 ⟨rfl, hm6⟩
  have HM6 := Lib.hid (HM5.out.then hm6)
  clear hU hm6
  have k1 : (n1 != 0) = true := by rcases HN1.out with rfl | rfl | rfl <;> rfl
  have k2 : (n2 != 0) = true := by rcases HN2.out with rfl | rfl | rfl <;> rfl
  go_wp2_with fail
  go_ret
  exact ⟨rfl, HM6.out.to_below⟩
end Go.Proofs.YtjgklacbelggdaaGreatDoor

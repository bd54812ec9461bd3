/- The walk of OctetParts. -/
import Derived.Test.YtdgebfdjlbcogaaOctShown
import Derived.Test.YtdgebfdjlbcogaaOctBack0
namespace Go.Proofs.Ytdgebfdjlbcogaa
open Go.RowKit

namespace Oct
theorem ext_one (b : ByteArray) (k : Nat) (h : k < b.size) : b.extract 0 k ++ b.extract k (k + 1) = b.extract 0 (k + 1) := by
  apply bs_ext
  rw [ByteArray.data_append, Array.toList_append, ext_data, ext_data, ext_data, List.drop_zero, List.drop_zero]
  apply List.ext_getElem?
  intro j
  rw [List.getElem?_append, List.length_take, len_data]
  by_cases hj : j < k
  · rw [if_pos (by omega), List.getElem?_take, List.getElem?_take, if_pos hj, if_pos (by omega)]
  · rw [if_neg (by omega), List.getElem?_drop, List.getElem?_take, List.getElem?_take, show k + (j - min k b.size) = j by omega]
theorem ext_all (b : ByteArray) : b.extract 0 b.size = b := ByteArray.extract_zero_size
end Oct

set_option maxHeartbeats 4000000 in
theorem parts_walk (a0 : ByteArray) (a1 : Int) (w : World) (h0 : a0.size ≤ maxLen) (h1 : 0 ≤ a1 ∧ a1 ≤ 255) :
    Calls Try.prog 6 #[.string a0, .int .u8 a1] w fun e w' => e = .returned (.bool true) ∧ Below w.heap.size w w' := by
  obtain ⟨b1, b2⟩ := h1
  unfold maxLen at h0
  go_enter Try.func6, Try.ntmps6
  go_wp2_with fail
  refine (shown_any w).mono ?_
  rintro e w1 ⟨rfl, hb1⟩
  have M1 := Mod.of_below hb1
  clear hb1
  by_cases h7 : a0.size ≤ 7
  · go_wp2_with fail
    generalize a0 = b at *
    clear h0

    have hz := h7
    obtain ⟨k, hk⟩ := Int.eq_ofNat_of_zero_le (Int.emod_nonneg a1 (b := (b.size : Int) + 1) (by omega))
    have hk1 : k ≤ b.size := by have := Int.emod_lt_of_pos a1 (b := (b.size : Int) + 1) (by omega); omega
    have hbm : b.size ≤ maxLen := by unfold maxLen; omega
    refine (read_any b _ hbm).mono ?_
    rintro e w2 ⟨rfl, hx, m2⟩
    have M2 := Lib.hid (M1.trans m2 (by simp))
    have q1 : w.heap.size ≤ w1.heap.size := M1.size
    have hX := Lib.hid hx
    have q2 : w1.heap.size < w2.heap.size := hx.lt
    clear hx m2 M1
    generalize ebx : w1.heap.size = bx at *
    clear ebx
    go_wp2_with fail
    refine (read_any b _ hbm).mono ?_
    rintro e w3 ⟨rfl, hy, m3⟩
    have M3 := Lib.hid (M2.out.trans m3 (by simp))
    have hX2 := Lib.hid (hX.out.kept m3 (by simp))
    have hY := Lib.hid hy
    have q3 : w2.heap.size < w3.heap.size := hy.lt
    clear hy m3 hX M2
    generalize eby : w2.heap.size = by_ at *
    clear eby
    go_wp2_with fail
    refine (read_any b _ hbm).mono ?_
    rintro e w4 ⟨rfl, hz', m4⟩
    have M4 := Lib.hid (M3.out.trans m4 (by simp))
    have hX3 := Lib.hid (hX2.out.kept m4 (by simp))
    have hY2 := Lib.hid (hY.out.kept m4 (by simp))
    have hZ := Lib.hid hz'
    have q4 : w3.heap.size < w4.heap.size := hz'.lt
    clear hz' m4 hX2 hY M3
    generalize ebz : w3.heap.size = bz at *
    clear ebz
    go_wp2_with fail
    refine (num_ok bx b 0 b.size _ hX3.out (by omega) (by omega)).mono ?_
    rintro e w5 ⟨rfl, hx, m5⟩
    rw [Nat.zero_add, Oct.ext_all]
    have M5 := Lib.hid (M4.out.trans m5 (by simp; omega))
    have hY3 := Lib.hid (hY2.out.kept m5 (by simp; omega))
    have hZ2 := Lib.hid (hZ.out.kept m5 (by simp; omega))
    clear hx m5 hX3 hY2 hZ M4
    go_wp2_with fail
    refine (num_ok by_ b 0 k _ hY3.out (by omega) (by omega)).mono ?_
    rintro e w6 ⟨rfl, hy, m6⟩
    rw [Nat.zero_add]
    have M6 := Lib.hid (M5.out.trans m6 (by simp; omega))
    have hY4 := Lib.hid hy
    have hZ3 := Lib.hid (hZ2.out.kept m6 (by simp; omega))
    clear hy m6 hY3 hZ2 M5
    go_wp2_with fail
    rw [show (b.size : Int) - k = ((b.size - k : Nat) : Int) by omega]
    refine (num_ok by_ b (0 + k) (b.size - k) _ hY4.out (by omega) (by omega)).mono ?_
    rintro e w7 ⟨rfl, hy, m7⟩
    have hY5 := Lib.hid hy
    rw [Nat.zero_add, show k + (b.size - k) = b.size by omega]
    have M7 := Lib.hid (M6.out.trans m7 (by simp; omega))
    have hZ4 := Lib.hid (hZ3.out.kept m7 (by simp; omega))
    clear hy m7 hY4 hZ3 M6
    have hcut := Oct.num_cut b k hz
    have hput := Oct.put_num b hz
    have hnr := Oct.num_range b
    generalize Oct.num b = nb at *
    generalize Oct.num (b.extract 0 k) = n1 at *
    generalize Oct.num (b.extract k b.size) = n2 at *
    go_wp2_with fail
    go_loopw [14, 15] (fun t i wr => ∃ j : Nat, j ≤ b.size ∧ i = .int .i64 j ∧ t = .string (b.extract 0 j) ∧ Rd wr bz b j false ∧ Rd wr by_ b (k + (b.size - k)) false ∧ Mod [] w wr) (fun _ i _ => b.size - (intOf i).toNat)
    case atStart =>
      exact ⟨0, Nat.zero_le _, rfl, by rw [ByteArray.extract_eq_empty_iff.2 (by omega)]; rfl, hZ4.out, by simpa using hY5.out, M7.out⟩
    case round =>
      obtain ⟨j, hj, rfl, rfl, hZr, hYr, Mr⟩ := hrel
      have HZr := Lib.hid hZr
      have HYr := Lib.hid hYr
      have HMr := Lib.hid Mr
      clear hZr hYr Mr hZ4 hY5 M7
      by_cases hlt : j < b.size
      · have H := Lib.hid (Oct.ext_one b j hlt)
        have hsz1 : (b.extract 0 j).size ≤ 7 := by rw [ByteArray.size_extract]; omega
        have hsz2 : (b.extract j (j + 1)).size ≤ 7 := by rw [ByteArray.size_extract]; omega
        go_wp2_with fail
        refine (Take_ok bz b j 1 _ HZr.out (by omega)).mono ?_
        rintro e w8 ⟨rfl, hz8, m8⟩
        generalize b.extract 0 j = x1 at *
        generalize b.extract j (j + 1) = x2 at *
        go_wp2_with fail
        go_roundw
        case rel => exact ⟨j + 1, by omega, by go_num, by rw [← H.out], hz8, HYr.out.kept m8 (by simp; omega), HMr.out.trans m8 (by simp; omega)⟩
        case measure => simp [intOf]; omega
      · obtain rfl : j = b.size := by omega
        rw [Oct.ext_all]
        go_wp2_with fail
        refine (failed_any by_ b _ false _ HYr.out).mono ?_
        rintro e w8 ⟨rfl, rfl⟩
        go_wp2_with fail
        refine (put_all _ _ _ hnr).mono ?_
        rintro e w8 ⟨rfl, hb8⟩
        rw [hput]
        go_wp2_with fail
        go_ret
        exact ⟨rfl, (HMr.out.trans (Mod.of_below hb8) (by simp)).to_below⟩
  · have h7' : 7 < a0.size := by omega
    clear h7
    go_wp2_with fail
    have hlen : (a0.extract 0 7).size ≤ 7 := by rw [ByteArray.size_extract]; omega
    rw [show min 7 a0.size = (a0.extract 0 7).size by rw [ByteArray.size_extract]; omega]
    generalize a0.extract 0 7 = b at *
    clear h0 h7'

    have hz := hlen
    obtain ⟨k, hk⟩ := Int.eq_ofNat_of_zero_le (Int.emod_nonneg a1 (b := (b.size : Int) + 1) (by omega))
    have hk1 : k ≤ b.size := by have := Int.emod_lt_of_pos a1 (b := (b.size : Int) + 1) (by omega); omega
    have hbm : b.size ≤ maxLen := by unfold maxLen; omega
    refine (read_any b _ hbm).mono ?_
    rintro e w2 ⟨rfl, hx, m2⟩
    have M2 := Lib.hid (M1.trans m2 (by simp))
    have q1 : w.heap.size ≤ w1.heap.size := M1.size
    have hX := Lib.hid hx
    have q2 : w1.heap.size < w2.heap.size := hx.lt
    clear hx m2 M1
    generalize ebx : w1.heap.size = bx at *
    clear ebx
    go_wp2_with fail
    refine (read_any b _ hbm).mono ?_
    rintro e w3 ⟨rfl, hy, m3⟩
    have M3 := Lib.hid (M2.out.trans m3 (by simp))
    have hX2 := Lib.hid (hX.out.kept m3 (by simp))
    have hY := Lib.hid hy
    have q3 : w2.heap.size < w3.heap.size := hy.lt
    clear hy m3 hX M2
    generalize eby : w2.heap.size = by_ at *
    clear eby
    go_wp2_with fail
    refine (read_any b _ hbm).mono ?_
    rintro e w4 ⟨rfl, hz', m4⟩
    have M4 := Lib.hid (M3.out.trans m4 (by simp))
    have hX3 := Lib.hid (hX2.out.kept m4 (by simp))
    have hY2 := Lib.hid (hY.out.kept m4 (by simp))
    have hZ := Lib.hid hz'
    have q4 : w3.heap.size < w4.heap.size := hz'.lt
    clear hz' m4 hX2 hY M3
    generalize ebz : w3.heap.size = bz at *
    clear ebz
    go_wp2_with fail
    refine (num_ok bx b 0 b.size _ hX3.out (by omega) (by omega)).mono ?_
    rintro e w5 ⟨rfl, hx, m5⟩
    rw [Nat.zero_add, Oct.ext_all]
    have M5 := Lib.hid (M4.out.trans m5 (by simp; omega))
    have hY3 := Lib.hid (hY2.out.kept m5 (by simp; omega))
    have hZ2 := Lib.hid (hZ.out.kept m5 (by simp; omega))
    clear hx m5 hX3 hY2 hZ M4
    go_wp2_with fail
    refine (num_ok by_ b 0 k _ hY3.out (by omega) (by omega)).mono ?_
    rintro e w6 ⟨rfl, hy, m6⟩
    rw [Nat.zero_add]
    have M6 := Lib.hid (M5.out.trans m6 (by simp; omega))
    have hY4 := Lib.hid hy
    have hZ3 := Lib.hid (hZ2.out.kept m6 (by simp; omega))
    clear hy m6 hY3 hZ2 M5
    go_wp2_with fail
    rw [show (b.size : Int) - k = ((b.size - k : Nat) : Int) by omega]
    refine (num_ok by_ b (0 + k) (b.size - k) _ hY4.out (by omega) (by omega)).mono ?_
    rintro e w7 ⟨rfl, hy, m7⟩
    have hY5 := Lib.hid hy
    rw [Nat.zero_add, show k + (b.size - k) = b.size by omega]
    have M7 := Lib.hid (M6.out.trans m7 (by simp; omega))
    have hZ4 := Lib.hid (hZ3.out.kept m7 (by simp; omega))
    clear hy m7 hY4 hZ3 M6
    have hcut := Oct.num_cut b k hz
    have hput := Oct.put_num b hz
    have hnr := Oct.num_range b
    generalize Oct.num b = nb at *
    generalize Oct.num (b.extract 0 k) = n1 at *
    generalize Oct.num (b.extract k b.size) = n2 at *
    go_wp2_with fail
    go_loopw [14, 15] (fun t i wr => ∃ j : Nat, j ≤ b.size ∧ i = .int .i64 j ∧ t = .string (b.extract 0 j) ∧ Rd wr bz b j false ∧ Rd wr by_ b (k + (b.size - k)) false ∧ Mod [] w wr) (fun _ i _ => b.size - (intOf i).toNat)
    case atStart =>
      exact ⟨0, Nat.zero_le _, rfl, by rw [ByteArray.extract_eq_empty_iff.2 (by omega)]; rfl, hZ4.out, by simpa using hY5.out, M7.out⟩
    case round =>
      obtain ⟨j, hj, rfl, rfl, hZr, hYr, Mr⟩ := hrel
      have HZr := Lib.hid hZr
      have HYr := Lib.hid hYr
      have HMr := Lib.hid Mr
      clear hZr hYr Mr hZ4 hY5 M7
      by_cases hlt : j < b.size
      · have H := Lib.hid (Oct.ext_one b j hlt)
        have hsz1 : (b.extract 0 j).size ≤ 7 := by rw [ByteArray.size_extract]; omega
        have hsz2 : (b.extract j (j + 1)).size ≤ 7 := by rw [ByteArray.size_extract]; omega
        go_wp2_with fail
        refine (Take_ok bz b j 1 _ HZr.out (by omega)).mono ?_
        rintro e w8 ⟨rfl, hz8, m8⟩
        generalize b.extract 0 j = x1 at *
        generalize b.extract j (j + 1) = x2 at *
        go_wp2_with fail
        go_roundw
        case rel => exact ⟨j + 1, by omega, by go_num, by rw [← H.out], hz8, HYr.out.kept m8 (by simp; omega), HMr.out.trans m8 (by simp; omega)⟩
        case measure => simp [intOf]; omega
      · obtain rfl : j = b.size := by omega
        rw [Oct.ext_all]
        go_wp2_with fail
        refine (failed_any by_ b _ false _ HYr.out).mono ?_
        rintro e w8 ⟨rfl, rfl⟩
        go_wp2_with fail
        refine (put_all _ _ _ hnr).mono ?_
        rintro e w8 ⟨rfl, hb8⟩
        rw [hput]
        go_wp2_with fail
        go_ret
        exact ⟨rfl, (HMr.out.trans (Mod.of_below hb8) (by simp)).to_below⟩
end Go.Proofs.Ytdgebfdjlbcogaa

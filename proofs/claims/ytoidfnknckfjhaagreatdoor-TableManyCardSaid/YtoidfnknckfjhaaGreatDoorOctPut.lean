/- The walks of Put and Text. -/
import Derived.Test.YtoidfnknckfjhaaGreatDoorBytes
namespace Go.Proofs.YtoidfnknckfjhaaGreatDoor
open Go.RowKit

namespace Oct
/-- Byte j (from the left) of the c lowest bytes of n, as a number. -/
def pb (n : Int) (c j : Nat) : Int := n / 2 ^ (8 * (c - 1 - j)) % 256
theorem pb_range (n : Int) (c j : Nat) : 0 ≤ pb n c j ∧ pb n c j < 256 := by unfold pb; omega
/-- The c lowest bytes of n, the highest first. -/
def putL (n : Int) (c : Nat) : List UInt8 := (List.range c).map fun j => UInt8.ofNat (pb n c j).toNat
theorem putL_length (n : Int) (c : Nat) : (putL n c).length = c := by simp [putL]
/-- The row of c cells, the first k of them set. -/
def pcells (n : Int) (c k : Nat) : Array Value := ((List.range c).map fun j => Value.int .u8 (if j < k then pb n c j else 0)).toArray
theorem pcells_at (n : Int) (c k : Nat) (h : k < c) : (pcells n c k)[k]? = some (Value.int .u8 0) := by
  simp [pcells, h]
theorem pcells_set (n : Int) (c k : Nat) : (pcells n c k).setIfInBounds k (.int .u8 (n / 2 ^ (8 * (c - 1 - k)) % 256)) = pcells n c (k + 1) := by
  apply Array.ext_getElem?
  intro j
  rw [Array.getElem?_setIfInBounds]
  simp only [pcells, List.size_toArray, List.length_map, List.length_range, List.getElem?_toArray, List.getElem?_map]
  by_cases hj : j < c
  · rw [List.getElem?_range hj]
    by_cases e : k = j
    · subst e; simp [hj, pb]
    · simp only [e, if_false, Option.map_some]
      have : (j < k + 1) = (j < k) := by apply propext; omega
      simp [this]
  · have h1 : (List.range c)[j]? = none := by simp; omega
    rw [h1]
    by_cases e : k = j
    · subst e; simp [hj]
    · simp [e]
theorem pcells_zero (n : Int) (c : Nat) : madeCells #[Value.int IntKind.u8 0] c = pcells n c 0 := by
  apply Array.ext'
  simp [madeCells, pcells, Nat.mod_one]
theorem pcells_all (n : Int) (c : Nat) : (pcells n c c).toList.take c = (putL n c).map bcell := by
  rw [List.take_of_length_le (by simp [pcells])]
  simp only [pcells, putL, List.map_map]
  apply List.map_congr_left
  intro j hj
  have hj' : j < c := by simpa using hj
  have := pb_range n c j
  simp only [hj', if_true, Function.comp, bcell]
  congr 1
  rw [UInt8.toNat_ofNat_of_lt' (by have : UInt8.size = 256 := rfl; omega)]
  omega
/-- The first k of them. -/
def putTo (n : Int) (c k : Nat) : List UInt8 := (putL n c).take k
theorem putTo_length (n : Int) (c k : Nat) (h : k ≤ c) : (putTo n c k).length = k := by simp [putTo, putL_length, h]
theorem putTo_all (n : Int) (c : Nat) : putTo n c c = putL n c := by unfold putTo; rw [List.take_of_length_le (by rw [putL_length]; exact Nat.le_refl _)]
theorem putTo_succ (n : Int) (c k : Nat) (h : k < c) (hc : c ≤ 8) : (putTo n c (k + 1)).map bcell = (putTo n c k).map bcell ++ [Value.int .u8 (n % 18446744073709551616 / 2 ^ (8 * (c - 1 - k)) % 256)] := by
  unfold putTo
  rw [List.take_succ_eq_append_getElem (by rw [putL_length]; exact h)]
  rw [List.map_append]
  congr 1
  have hr := pb_range n c k
  simp only [List.map_cons, List.map_nil, putL, List.getElem_map, List.getElem_range, bcell]
  rw [UInt8.toNat_ofNat_of_lt' (by have : UInt8.size = 256 := rfl; omega)]
  rw [show (((pb n c k).toNat : Nat) : Int) = pb n c k by omega]
  unfold pb
  have hk : c - 1 - k ≤ 7 := by omega
  generalize c - 1 - k = m at *
  have hm : m = 0 ∨ m = 1 ∨ m = 2 ∨ m = 3 ∨ m = 4 ∨ m = 5 ∨ m = 6 ∨ m = 7 := by omega
  rcases hm with rfl | rfl | rfl | rfl | rfl | rfl | rfl | rfl <;> (congr 2; simp only [Nat.reduceMul, Int.reducePow]; omega)
end Oct

set_option maxHeartbeats 400000 in
theorem put_any (n : Int) (c : Nat) (w : World) (hc : c ≤ 8) (_hn1 : -9223372036854775808 ≤ n) (_hn2 : n ≤ 9223372036854775807) :
    Calls Tryz.prog 20 #[.int .i64 n, .int .i64 c] w fun e w' => e = .returned (.string (bs (Oct.putL n c))) ∧ Below w.heap.size w w' := by
  obtain ⟨i0, hi, hz0, hz1, hz2⟩ := info_parts Tryz.info_u8
  have hmk := run_make (P := Tryz.prog) w 23 5 i0 (.int .u8 0) Tryz.underlying23 hi hz0 .i64 .i64 (c : Int) (c : Int) (by omega) (by omega) (by rw [hz2]; omega) (by omega)
  rw [hz1] at hmk
  simp only [Int.toNat_natCast, Nat.mul_one] at hmk
  have hm0 : madeCells (Value.int IntKind.u8 0).cells c = Oct.pcells n c 0 := Oct.pcells_zero n c
  rw [hm0] at hmk
  have hcv := conv_new (P := Tryz.prog) w 23 9 5 c c (Oct.putL n c) (Oct.pcells n c c) 5 Tryz.underlying23 Tryz.underlying5 Tryz.underlying9 (Oct.putL_length n c).symm (Oct.pcells_all n c)
  clear hz0 hz1 hz2 hm0 hi
  have d1 : decide ((c : Int) < 0) = false := by simp
  have d2 : decide (8 < (c : Int)) = false := by simp; omega
  go_enter Tryz.func20, Tryz.ntmps20
  go_wp2
  go_loopw [6, 17] (fun _ i wr => ∃ k : Nat, k ≤ c ∧ i = .int .i64 k ∧ wr = w.alloc (.cells (Oct.pcells n c k) 5)) (fun _ i _ => c - (intOf i).toNat)
  case atStart => exact ⟨0, Nat.zero_le _, rfl, rfl⟩
  case round =>
    obtain ⟨k, hk, rfl, rfl⟩ := hrel
    clear hmk
    by_cases hlt : k < c
    · have hat := Oct.pcells_at n c k hlt
      have H := Lib.hid (Oct.pcells_set n c k)
      go_wp2
      go_roundw
      case rel => exact ⟨k + 1, by omega, by go_num, by rw [H.out]⟩
      case measure => simp [intOf]; omega
    · obtain rfl : k = c := by omega
      go_wp2
      go_ret
      exact ⟨rfl, (Below.refl _ _).alloc (Nat.le_refl _) _⟩

set_option maxHeartbeats 400000 in
theorem put_none (n c : Int) (w : World) (hc : c < 0 ∨ 8 < c) :
    Calls Tryz.prog 20 #[.int .i64 n, .int .i64 c] w fun e w' => e = .returned (.string (bs [])) ∧ w = w' := by
  rcases hc with h | h
  · go_enter Tryz.func20, Tryz.ntmps20
    go_wp2
    go_ret
    exact ⟨rfl, rfl⟩
  · have d1 : ¬ c < 0 := by omega
    go_enter Tryz.func20, Tryz.ntmps20
    go_wp2
    go_ret
    exact ⟨rfl, rfl⟩

/-- Put of any size. -/
def Oct.putS (n c : Int) : ByteArray := if 0 ≤ c ∧ c ≤ 8 then bs (Oct.putL n c.toNat) else bs []
theorem Oct.putS_size (n c : Int) : (Oct.putS n c).size ≤ 8 := by
  unfold Oct.putS
  split
  · rw [bs_size, Oct.putL_length]; omega
  · decide
theorem Oct.putS_nat (n : Int) (c : Nat) (h : c ≤ 8) : Oct.putS n c = bs (Oct.putL n c) := by
  unfold Oct.putS
  rw [if_pos ⟨by omega, by omega⟩, Int.toNat_natCast]

theorem put_all (n c : Int) (w : World) (hn : -9223372036854775808 ≤ n ∧ n ≤ 9223372036854775807) :
    Calls Tryz.prog 20 #[.int .i64 n, .int .i64 c] w fun e w' => e = .returned (.string (Oct.putS n c)) ∧ Below w.heap.size w w' := by
  unfold Oct.putS
  by_cases h : 0 ≤ c ∧ c ≤ 8
  · rw [if_pos h]
    obtain ⟨k, rfl⟩ := Int.eq_ofNat_of_zero_le h.1
    exact put_any n k w (by omega) hn.1 hn.2
  · rw [if_neg h]
    exact (put_none n c w (by omega)).mono fun _ _ ⟨he, hw⟩ => ⟨he, hw ▸ Below.refl _ _⟩

/-- Text. -/
def Oct.textS (s : ByteArray) : ByteArray := if s.size ≤ 65535 then Oct.putS s.size 2 ++ s else bs []

set_option maxHeartbeats 400000 in
theorem text_all (s : ByteArray) (w : World) (hs : s.size ≤ maxLen) :
    Calls Tryz.prog 272 #[.string s] w fun e w' => e = .returned (.string (Oct.textS s)) ∧ Below w.heap.size w w' := by
  unfold maxLen at hs
  by_cases h : s.size ≤ 65535
  · have hd : decide (65535 < (s.size : Int)) = false := by simp; omega
    have H := Lib.hid (show Oct.textS s = Oct.putS s.size 2 ++ s by unfold Oct.textS; rw [if_pos h])
    go_enter Tryz.func272, Tryz.ntmps272
    go_wp2_with fail
    refine (put_all _ _ _ ⟨by omega, by omega⟩).mono ?_
    rintro e w1 ⟨rfl, hb⟩
    have hp := Oct.putS_size s.size 2
    generalize Oct.putS s.size 2 = p at *
    go_wp2_with fail
    go_ret
    exact ⟨ret_str H.out.symm, hb⟩
  · have hd : decide (65535 < (s.size : Int)) = true := by simp; omega
    have H := Lib.hid (show Oct.textS s = bs [] by unfold Oct.textS; rw [if_neg h])
    go_enter Tryz.func272, Tryz.ntmps272
    go_wp2_with fail
    go_ret
    exact ⟨ret_str H.out.symm, Below.refl _ _⟩
end Go.Proofs.YtoidfnknckfjhaaGreatDoor

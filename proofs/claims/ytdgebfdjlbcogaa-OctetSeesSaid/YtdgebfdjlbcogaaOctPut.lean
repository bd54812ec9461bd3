/- The walks of Put and Text. -/
import Derived.Test.YtdgebfdjlbcogaaBytes
namespace Go.Proofs.Ytdgebfdjlbcogaa
open Go.RowKit

namespace Oct
/-- Byte j (from the left) of the c lowest bytes of n, as a number. -/
def pb (n : Int) (c j : Nat) : Int := n / 2 ^ (8 * (c - 1 - j)) % 256
theorem pb_range (n : Int) (c j : Nat) : 0 ≤ pb n c j ∧ pb n c j < 256 := by unfold pb; omega
/-- The c lowest bytes of n, the highest first. -/
def putL (n : Int) (c : Nat) : List UInt8 := (List.range c).map fun j => UInt8.ofNat (pb n c j).toNat
theorem putL_length (n : Int) (c : Nat) : (putL n c).length = c := by simp [putL]
/-- The row of c cells, the first k of them set. -/
def pcells (n : Int) (c k : Nat) : Array Value := ((List.range c).map fun j => Value.int .u8 (if j < k then pb n c j else 0)).toArray
theorem pcells_at (n : Int) (c k : Nat) (h : k < c) : (pcells n c k)[k]? = some (Value.int .u8 0) := by
  simp [pcells, h]
theorem pcells_set (n : Int) (c k : Nat) : (pcells n c k).setIfInBounds k (.int .u8 (n / 2 ^ (8 * (c - 1 - k)) % 256)) = pcells n c (k + 1) := by
  apply Array.ext_getElem?
  intro j
  rw [Array.getElem?_setIfInBounds]
  simp only [pcells, List.size_toArray, List.length_map, List.length_range, List.getElem?_toArray, List.getElem?_map]
  by_cases hj : j < c
  · rw [List.getElem?_range hj]
    by_cases e : k = j
    · subst e; simp [hj, pb]
    · simp only [e, if_false, Option.map_some]
      have : (j < k + 1) = (j < k) := by apply propext; omega
      simp [this]
  · have h1 : (List.range c)[j]? = none := by simp; omega
    rw [h1]
    by_cases e : k = j
    · subst e; simp [hj]
    · simp [e]
theorem pcells_zero (n : Int) (c : Nat) : madeCells #[Value.int IntKind.u8 0] c = pcells n c 0 := by
  apply Array.ext'
  simp [madeCells, pcells, Nat.mod_one]
theorem pcells_all (n : Int) (c : Nat) : (pcells n c c).toList.take c = (putL n c).map bcell := by
  rw [List.take_of_length_le (by simp [pcells])]
  simp only [pcells, putL, List.map_map]
  apply List.map_congr_left
  intro j hj
  have hj' : j < c := by simpa using hj
  have := pb_range n c j
  simp only [hj', if_true, Function.comp, bcell]
  congr 1
  rw [UInt8.toNat_ofNat_of_lt' (by have : UInt8.size = 256 := rfl; omega)]
  omega
end Oct

set_option maxHeartbeats 400000 in
theorem put_any (n : Int) (c : Nat) (w : World) (hc : c ≤ 8) (_hn1 : -9223372036854775808 ≤ n) (_hn2 : n ≤ 9223372036854775807) :
    Calls Try.prog 15 #[.int .i64 n, .int .i64 c] w fun e w' => e = .returned (.string (bs (Oct.putL n c))) ∧ Below w.heap.size w w' := by
  obtain ⟨i0, hi, hz0, hz1, hz2⟩ := info_parts Try.info_u8
  have hmk := run_make (P := Try.prog) w 27 5 i0 (.int .u8 0) Try.underlying27 hi hz0 .i64 .i64 (c : Int) (c : Int) (by omega) (by omega) (by rw [hz2]; omega) (by omega)
  rw [hz1] at hmk
  simp only [Int.toNat_natCast, Nat.mul_one] at hmk
  have hm0 : madeCells (Value.int IntKind.u8 0).cells c = Oct.pcells n c 0 := Oct.pcells_zero n c
  rw [hm0] at hmk
  have hcv := conv_new (P := Try.prog) w 27 9 5 c c (Oct.putL n c) (Oct.pcells n c c) 5 Try.underlying27 Try.underlying5 Try.underlying9 (Oct.putL_length n c).symm (Oct.pcells_all n c)
  clear hz0 hz1 hz2 hm0 hi
  have d1 : decide ((c : Int) < 0) = false := by simp
  have d2 : decide (8 < (c : Int)) = false := by simp; omega
  go_enter Try.func15, Try.ntmps15
  go_wp2
  go_loopw [6, 17] (fun _ i wr => ∃ k : Nat, k ≤ c ∧ i = .int .i64 k ∧ wr = w.alloc (.cells (Oct.pcells n c k) 5)) (fun _ i _ => c - (intOf i).toNat)
  case atStart => exact ⟨0, Nat.zero_le _, rfl, rfl⟩
  case round =>
    obtain ⟨k, hk, rfl, rfl⟩ := hrel
    clear hmk
    by_cases hlt : k < c
    · have hat := Oct.pcells_at n c k hlt
      have H := Lib.hid (Oct.pcells_set n c k)
      go_wp2
      go_roundw
      case rel => exact ⟨k + 1, by omega, by go_num, by rw [H.out]⟩
      case measure => simp [intOf]; omega
    · obtain rfl : k = c := by omega
      go_wp2
      go_ret
      exact ⟨rfl, (Below.refl _ _).alloc (Nat.le_refl _) _⟩

set_option maxHeartbeats 400000 in
theorem put_none (n c : Int) (w : World) (hc : c < 0 ∨ 8 < c) :
    Calls Try.prog 15 #[.int .i64 n, .int .i64 c] w fun e w' => e = .returned (.string (bs [])) ∧ w = w' := by
  rcases hc with h | h
  · go_enter Try.func15, Try.ntmps15
    go_wp2
    go_ret
    exact ⟨rfl, rfl⟩
  · have d1 : ¬ c < 0 := by omega
    go_enter Try.func15, Try.ntmps15
    go_wp2
    go_ret
    exact ⟨rfl, rfl⟩
end Go.Proofs.Ytdgebfdjlbcogaa

/- Plain: bytes and the number that they are. -/
import Derived.Test.YtdgebfdjlbcogaaOctPut
import Derived.Test.YtdgebfdjlbcogaaOctRd3
namespace Go.Proofs.Ytdgebfdjlbcogaa
open Go.RowKit
namespace Oct

theorem pow_256 (m : Nat) : (2 : Int) ^ (8 * m) = ((256 ^ m : Nat) : Int) := by
  rw [Int.pow_mul, Int.natCast_pow, show (2 : Int) ^ 8 = ((256 : Nat) : Int) from rfl]

theorem be_byte (l : List UInt8) (j : Nat) (h : j < l.length) : be l / 256 ^ (l.length - 1 - j) % 256 = l[j].toNat := by
  have e : l = l.take j ++ (l[j] :: l.drop (j + 1)) := by rw [← List.drop_eq_getElem_cons h]; simp
  have hb : be l = (be (l.take j) * 256 + l[j].toNat) * 256 ^ (l.length - 1 - j) + be (l.drop (j + 1)) := by
    conv => lhs; rw [e]
    rw [be_append, be_cons]
    simp only [List.length_cons, List.length_drop, Nat.pow_succ]
    rw [show l.length - (j + 1) = l.length - 1 - j by omega]
    generalize 256 ^ (l.length - 1 - j) = q
    rw [Nat.add_mul, Nat.mul_comm q 256, Nat.mul_assoc]
    omega
  have hd := be_lt (l.drop (j + 1))
  rw [List.length_drop, show l.length - (j + 1) = l.length - 1 - j by omega] at hd
  rw [hb]
  generalize 256 ^ (l.length - 1 - j) = q at *
  have hb8 := l[j].toNat_lt
  rw [Nat.mul_comm, Nat.mul_add_div (by omega), Nat.div_eq_of_lt hd]
  omega

theorem putL_be (l : List UInt8) : putL (be l) l.length = l := by
  apply List.ext_getElem?
  intro j
  by_cases h2 : j < l.length
  · unfold putL pb
    rw [List.getElem?_map, List.getElem?_range h2, Option.map_some, pow_256, List.getElem?_eq_getElem h2]
    have := be_byte l j h2
    have e : ((be l : Nat) : Int) / ((256 ^ (l.length - 1 - j) : Nat) : Int) % 256 = ((be l / 256 ^ (l.length - 1 - j) % 256 : Nat) : Int) := by
      rw [Int.natCast_emod, Int.natCast_ediv]; rfl
    rw [e, Int.toNat_natCast, this]
    simp
  · rw [List.getElem?_eq_none (by rw [putL_length]; omega), List.getElem?_eq_none (by omega)]

theorem ext_data (s : ByteArray) (a b : Nat) : (s.extract a b).data.toList = (s.data.toList.take b).drop a := by
  rw [ByteArray.data_extract]
  simp only [Array.toList_extract, List.extract, List.drop_take]

theorem len_data (s : ByteArray) : s.data.toList.length = s.size := by simp [ByteArray.size_data]

theorem be_cut (s : ByteArray) (k : Nat) :
    be s.data.toList = be (s.extract 0 k).data.toList * 256 ^ (s.size - k) + be (s.extract k s.size).data.toList := by
  rw [ext_data, ext_data, List.drop_zero]
  have e : s.data.toList = s.data.toList.take k ++ s.data.toList.drop k := by simp
  conv => lhs; rw [e]
  rw [be_append, List.length_drop, len_data]
  rw [show List.take s.size s.data.toList = s.data.toList by rw [List.take_of_length_le (by rw [len_data]; exact Nat.le_refl _)]]

theorem be_small (s : ByteArray) (h : s.size ≤ 7) : be s.data.toList < 72057594037927936 := by
  have h1 := be_lt s.data.toList
  rw [len_data] at h1
  have h3 : 256 ^ s.size ≤ 256 ^ 7 := Nat.pow_le_pow_right (by omega) h
  have h4 : (256 : Nat) ^ 7 = 72057594037927936 := by decide
  omega

/-- The number of bytes is that of its first ones, times 256 for each of the others, and that of these. -/
theorem num_cut (s : ByteArray) (k : Nat) (h7 : s.size ≤ 7) :
    (num s == wrap64 (wrap64 (num (s.extract 0 k) * 2 ^ (8 * (s.size - k))) + num (s.extract k s.size))) = true := by
  rw [beq_iff_eq]
  have s1 : (s.extract 0 k).size ≤ 7 := by rw [ByteArray.size_extract]; omega
  have s2 : (s.extract k s.size).size ≤ 7 := by rw [ByteArray.size_extract]; omega
  rw [num_be _ h7, num_be _ s1, num_be _ s2, pow_256]
  have hc := be_cut s k
  have hs := be_small s h7
  rw [← Int.natCast_mul]
  generalize be s.data.toList = A at *
  generalize be (s.extract 0 k).data.toList * 256 ^ (s.size - k) = B at *
  generalize be (s.extract k s.size).data.toList = C at *
  unfold wrap64
  omega

theorem put_num (s : ByteArray) (h7 : s.size ≤ 7) : putS (num s) s.size = s := by
  rw [putS_nat _ _ (by omega), num_be s h7, ← len_data s, putL_be, bs_of]
end Oct
end Go.Proofs.Ytdgebfdjlbcogaa

/- Plain: texts, one behind the other, and how they are read. -/
import Derived.Test.YtdgebfdjlbcogaaOctBack0
namespace Go.Proofs.Ytdgebfdjlbcogaa
open Go.RowKit
namespace Oct

theorem putL_succ (n : Int) (c : Nat) : putL n (c + 1) = UInt8.ofNat (n / 2 ^ (8 * c) % 256).toNat :: putL n c := by
  unfold putL
  rw [List.range_succ_eq_map, List.map_cons, List.map_map]
  congr 1
  apply List.map_congr_left
  intro j hj
  simp only [Function.comp, pb]
  rw [show c + 1 - 1 - (j + 1) = c - 1 - j by omega]

theorem emod_mul_256 (n q : Int) (hq : 0 < q) : n % (q * 256) = n % q + q * (n / q % 256) := by
  have h1 := Int.mul_ediv_add_emod n q
  have h2 := Int.mul_ediv_add_emod (n / q) 256
  have h3 := Int.emod_nonneg n (Int.ne_of_gt hq)
  have h4 := Int.emod_lt_of_pos n hq
  have h5 : 0 ≤ n / q % 256 := by omega
  have h6 : n / q % 256 ≤ 255 := by omega
  generalize n / q % 256 = c at *
  generalize n % q = r at *
  have h7 : 0 ≤ q * c := Int.mul_nonneg (Int.le_of_lt hq) h5
  have h8 : q * c ≤ q * 255 := Int.mul_le_mul_of_nonneg_left h6 (Int.le_of_lt hq)
  have e : n = (r + q * c) + (q * 256) * (n / q / 256) := by
    have : q * (n / q) = q * (256 * (n / q / 256) + c) := by rw [h2]
    rw [Int.mul_add] at this
    rw [Int.mul_assoc]
    omega
  rw [e, Int.add_mul_emod_self_left]
  exact Int.emod_eq_of_lt (by omega) (by omega)

theorem be_putL (n : Int) (c : Nat) : ((be (putL n c) : Nat) : Int) = n % ((256 ^ c : Nat) : Int) := by
  induction c with
  | zero => simp [putL, be]
  | succ c ih =>
    rw [putL_succ, be_cons, putL_length, pow_256]
    have hp : (0 : Nat) < 256 ^ c := Nat.pow_pos (by omega)
    rw [Nat.pow_succ]
    generalize 256 ^ c = q at *
    have h1 : (UInt8.ofNat (n / (q : Int) % 256).toNat).toNat = (n / (q : Int) % 256).toNat := UInt8.toNat_ofNat_of_lt' (by have : UInt8.size = 256 := rfl; omega)
    rw [h1, Int.natCast_add, Int.natCast_mul, ih]
    rw [show (((n / (q : Int) % 256).toNat : Nat) : Int) = n / (q : Int) % 256 by omega]
    rw [Int.natCast_mul]
    have := emod_mul_256 n q (by omega)
    rw [Int.mul_comm] 
    show _ = n % ((q : Int) * 256)
    omega

/-- A text as bytes. -/
def enc (x : List UInt8) : List UInt8 := putL x.length 2 ++ x
theorem enc_length (x : List UInt8) : (enc x).length = x.length + 2 := by unfold enc; rw [List.length_append, putL_length]; omega
def cat : List (List UInt8) → List UInt8
  | [] => []
  | x :: r => enc x ++ cat r
theorem cat_append (a b : List (List UInt8)) : cat (a ++ b) = cat a ++ cat b := by
  induction a with
  | nil => rfl
  | cons x r ih => simp [cat, ih]
theorem be_head (m : Nat) (h : m < 65536) : be (putL m 2) = m := by
  have := be_putL m 2
  have e : ((256 ^ 2 : Nat) : Int) = 65536 := by decide
  rw [e] at this
  omega

theorem ext_list (A B C : List UInt8) : (bs (A ++ B ++ C)).extract A.length (A.length + B.length) = bs B := by
  apply bs_ext
  rw [ext_data, bs_data, bs_data, List.append_assoc, List.take_append, List.take_of_length_le (by omega), List.drop_append, List.drop_of_length_le (by omega)]
  simp

/-- A text that stands at a place is read there. -/
theorem textR_at (A x C : List UInt8) (h : x.length < 65536) : textR (bs (A ++ enc x ++ C)) A.length false = (bs x, A.length + (enc x).length, false) := by
  have hl : (bs (A ++ enc x ++ C)).size = A.length + (x.length + 2) + C.length := by rw [bs_size, List.length_append, List.length_append, enc_length]
  have e2 : (bs (A ++ enc x ++ C)).extract A.length (A.length + 2) = bs (putL x.length 2) := by
    have := ext_list A (putL x.length 2) (x ++ C)
    rw [putL_length] at this
    rw [← this]; unfold enc; simp
  have e3 : be ((bs (A ++ enc x ++ C)).extract A.length (A.length + 2)).data.toList = x.length := by rw [e2, bs_data, be_head _ h]
  unfold textR
  rw [e3, if_pos ⟨rfl, by omega, by omega⟩]
  have := ext_list (A ++ putL x.length 2) x C
  rw [List.length_append, putL_length] at this
  have e4 : A ++ putL x.length 2 ++ x ++ C = A ++ enc x ++ C := by unfold enc; simp
  rw [e4] at this
  rw [this, enc_length, show A.length + 2 + x.length = A.length + (x.length + 2) by omega]

/-- With a byte less it fails. -/
theorem textR_less (A x : List UInt8) (h : x.length < 65536) : textR (bs (A ++ (enc x).take (x.length + 1))) A.length false = (⟨#[]⟩, A.length, true) := by
  have hl : (bs (A ++ (enc x).take (x.length + 1))).size = A.length + (x.length + 1) := by rw [bs_size, List.length_append, List.length_take, enc_length]; omega
  unfold textR
  rw [if_neg]
  rintro ⟨-, h2, h3⟩
  have e2 : (bs (A ++ (enc x).take (x.length + 1))).extract A.length (A.length + 2) = bs (putL x.length 2) := by
    have := ext_list A (putL x.length 2) (x.take (x.length - 1))
    rw [putL_length] at this
    rw [← this]
    congr 2
    rw [List.append_assoc]
    congr 1
    unfold enc
    rw [List.take_append, putL_length, List.take_of_length_le (by rw [putL_length]; omega), show x.length + 1 - 2 = x.length - 1 by omega]
  rw [e2, bs_data, be_head _ h] at h3
  omega
end Oct
end Go.Proofs.Ytdgebfdjlbcogaa

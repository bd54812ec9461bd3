/- The number that bytes are. -/
import Derived.Test.YtoidfnknckfjhaaGreatDoorFrame
import Derived.Test.YtoidfnknckfjhaaGreatDoorOctPlain
namespace Go.Proofs.YtoidfnknckfjhaaGreatDoor
open Go.RowKit

namespace Oct
/-- The number that bytes are, the highest one first. -/
def be : List UInt8 → Nat := fun l => l.foldl (fun n b => n * 256 + b.toNat) 0
theorem be_snoc (l : List UInt8) (b : UInt8) : be (l ++ [b]) = be l * 256 + b.toNat := by simp [be]
theorem be_fold (l : List UInt8) : ∀ acc : Nat, l.foldl (fun n b => n * 256 + b.toNat) acc = acc * 256 ^ l.length + be l := by
  induction l with
  | nil => intro acc; simp [be]
  | cons b r ih =>
    intro acc
    unfold be
    simp only [List.foldl_cons, List.length_cons, Nat.zero_mul, Nat.zero_add]
    rw [ih, ih b.toNat, Nat.pow_succ, Nat.add_mul, Nat.mul_assoc, Nat.mul_comm 256]
    omega
theorem be_append (a b : List UInt8) : be (a ++ b) = be a * 256 ^ b.length + be b := by
  show (a ++ b).foldl _ 0 = _
  rw [List.foldl_append, be_fold b]; rfl
theorem be_cons (x : UInt8) (l : List UInt8) : be (x :: l) = x.toNat * 256 ^ l.length + be l := by
  have := be_append [x] l
  simpa [be] using this
theorem be_lt (l : List UInt8) : be l < 256 ^ l.length := by
  induction l with
  | nil => decide
  | cons b r ih =>
    rw [be_cons, List.length_cons, Nat.pow_succ]
    have := b.toNat_lt
    generalize 256 ^ r.length = q at *
    have : b.toNat * q ≤ 255 * q := Nat.mul_le_mul_right q (by omega)
    omega
theorem or_i64 (x y : Int) (hx : x % 256 = 0) (h0 : 0 ≤ y) (h1 : y < 256) : bits .or .i64 x y = wrap64 (x + y) := by
  unfold bits
  show IntKind.i64.wrap _ = _
  rw [IntKind.wrap_i64]
  unfold wrap64
  have hb : (BitVec.ofInt 64 y).toNat = y.toNat := by rw [BitVec.toNat_ofInt]; omega
  have ha : (BitVec.ofInt 64 x).toNat % 2 ^ 8 = 0 := by rw [BitVec.toNat_ofInt]; omega
  have hj : (BitVec.ofInt 64 x ||| BitVec.ofInt 64 y).toNat = (BitVec.ofInt 64 x).toNat + y.toNat := by
    rw [BitVec.toNat_or, hb]
    exact nat_join 8 _ _ ha (by omega)
  show ((((BitVec.ofInt 64 x ||| BitVec.ofInt 64 y).toNat : Nat) : Int) + _) % _ - _ = _
  rw [hj, BitVec.toNat_ofInt]
  omega
def num (s : ByteArray) : Int := wrap64 (be s.data.toList)
def numTo (s : ByteArray) (k : Nat) : Int := wrap64 (be (s.data.toList.take k))
theorem numTo_all (s : ByteArray) (k : Nat) (h : s.size ≤ k) : numTo s k = num s := by
  unfold numTo num; rw [List.take_of_length_le (by simpa using h)]
theorem numTo_succ (s : ByteArray) (k : Nat) (h : k < s.size) :
    bits BinOp.or IntKind.i64 (wrap64 (numTo s k * 256)) (wrap64 (s[k].toNat : Int)) = numTo s (k + 1) := by
  unfold numTo
  rw [take_snoc s k h, be_snoc]
  have hb := s[k].toNat_lt
  generalize s[k].toNat = b at *
  generalize be (List.take k s.data.toList) = q
  have e1 : wrap64 (b : Int) = b := by unfold wrap64; omega
  rw [e1, or_i64 _ _ (by unfold wrap64; omega) (by omega) (by omega)]
  unfold wrap64
  have e2 : ((q * 256 + b : Nat) : Int) = (q : Int) * 256 + b := by omega
  rw [e2]
  omega
theorem numTo_zero (s : ByteArray) : numTo s 0 = 0 := by unfold numTo be wrap64; simp
theorem num_range (s : ByteArray) : -9223372036854775808 ≤ num s ∧ num s ≤ 9223372036854775807 := by unfold num wrap64; omega
end Oct

set_option maxHeartbeats 400000 in
theorem number_any (s : ByteArray) (w : World) (hs : s.size ≤ maxLen) :
    Calls Tryz.prog 78 #[.string s] w fun e w' => e = .returned (.int .i64 (Oct.num s)) ∧ w = w' := by
  unfold maxLen at hs
  go_enter Tryz.func78, Tryz.ntmps78
  go_wp2
  go_loop [3, 4, 7] (fun n _ i => ∃ k : Nat, k ≤ s.size ∧ i = .int .i64 k ∧ n = .int .i64 (Oct.numTo s k)) (fun _ _ i => s.size - (intOf i).toNat)
  case atStart => exact ⟨0, Nat.zero_le _, rfl, by rw [Oct.numTo_zero]⟩
  case round =>
    obtain ⟨k, hk, rfl, rfl⟩ := hrel
    by_cases hlt : k < s.size
    · have H := Lib.hid (Oct.numTo_succ s k hlt)
      generalize Oct.numTo s k = m at *
      go_wp2
      go_round
      case rel => exact ⟨k + 1, by omega, by go_num, by rw [H.out]⟩
      case measure => simp [intOf]; omega
    · have H := Lib.hid (Oct.numTo_all s k (by omega))
      go_wp2
      go_ret
      exact ⟨ret_int (by rw [H.out]), rfl⟩
end Go.Proofs.YtoidfnknckfjhaaGreatDoor

/- What Codec's closed example packs and unpacks, reckoned out. -/
import Derived.Test.YtjgklacbelggdaaGreatDoorCodPack
import Derived.Test.YtjgklacbelggdaaGreatDoorCodUn
namespace Go.Proofs.YtjgklacbelggdaaGreatDoor
open Go.RowKit
namespace Cod

/-- Bytes, as numbers. -/
def ofN (l : List Nat) : List UInt8 := l.map UInt8.ofNat
def eqL : List UInt8 → List Nat → Bool
  | [], [] => true
  | x :: l, n :: r => Nat.beq x.toNat n && eqL l r
  | _, _ => false
theorem eqL_is : ∀ {l : List UInt8} {r : List Nat}, eqL l r = true → l = ofN r
  | [], [], _ => rfl
  | x :: l, n :: r, h => by
    simp only [eqL, Bool.and_eq_true, Nat.beq_eq] at h
    rw [eqL_is h.2, ← h.1]
    show _ = UInt8.ofNat x.toNat :: _
    rw [UInt8.ofNat_toNat]
    rfl
  | [], _ :: _, h => by cases h
  | _ :: _, [], h => by cases h

def zerosN : List Nat := List.replicate 1000 0
def zerosP : List Nat := [0, 0, 3, 232, 255, 255, 255, 255, 255, 255, 255, 255, 255, 255, 255, 255, 255, 255, 255, 255, 255, 255, 255, 255, 255, 255, 255, 255, 255, 255, 255, 255, 255, 255, 255, 255, 255, 255, 255, 255, 251, 47, 22, 109]
def fontN : List Nat := [0, 0, 0, 224, 70, 76, 69, 85, 0, 1, 0, 10, 97, 120, 105, 115, 0, 0, 0, 0, 0, 0, 0, 168, 0, 0, 0, 4, 99, 104, 97, 114, 0, 0, 0, 0, 0, 0, 0, 172, 0, 0, 0, 2, 99, 111, 100, 101, 0, 0, 0, 0, 0, 0, 0, 176, 0, 0, 0, 6, 102, 101, 97, 116, 0, 0, 0, 0, 0, 0, 0, 184, 0, 0, 0, 2, 103, 108, 121, 102, 0, 0, 0, 0, 0, 0, 0, 188, 0, 0, 0, 6, 104, 97, 110, 103, 0, 0, 0, 0, 0, 0, 0, 196, 0, 0, 0, 2, 104, 101, 97, 100, 3, 232, 0, 1, 0, 0, 0, 200, 0, 0, 0, 4, 108, 111, 111, 107, 0, 0, 0, 0, 0, 0, 0, 204, 0, 0, 0, 2, 109, 111, 118, 101, 0, 0, 0, 0, 0, 0, 0, 208, 0, 0, 0, 2, 110, 97, 109, 101, 213, 123, 146, 211, 0, 0, 0, 212, 0, 0, 0, 12, 0, 0, 0, 0, 0, 0, 0, 0, 0, 0, 0, 0, 0, 0, 0, 0, 0, 0, 0, 0, 0, 0, 0, 0, 0, 0, 0, 0, 0, 0, 0, 0, 3, 232, 0, 1, 0, 0, 0, 0, 0, 0, 0, 0, 0, 7, 46, 110, 111, 116, 100, 101, 102, 0, 0, 0]
def fontP : List Nat := [0, 0, 0, 228, 255, 255, 254, 43, 85, 98, 246, 71, 122, 2, 137, 216, 174, 227, 187, 156, 95, 84, 1, 255, 254, 183, 167, 225, 252, 73, 206, 24, 126, 1, 249, 164, 255, 88, 58, 83, 189, 34, 215, 171, 1, 212, 220, 252, 212, 190, 15, 54, 135, 254, 128, 33, 49, 251, 8, 118, 7, 42, 229, 54, 25, 49, 237, 165, 180, 174, 25, 103, 18, 227, 217, 100, 246, 97, 71, 154, 46, 214, 228, 81, 148, 88, 166, 7, 116, 31, 190, 111, 70, 83, 233, 172, 62, 166, 18, 235, 121, 149, 43, 106, 95, 97, 188, 228, 94, 232, 238, 14, 251, 255, 45, 63, 109, 196, 35, 229, 208, 98, 132, 93, 133, 17, 55, 20, 47, 146, 58, 29, 49, 19, 47, 212]

theorem packed_none : packed (ofN []) = ofN [0, 0, 0, 0, 0, 0, 0, 0] := packed_is (L := []) (R := [0]) rfl (by kernel_rfl)
theorem packed_zeros : packed (ofN zerosN) = ofN zerosP := by
  have h := packed_is (l := ofN zerosN) (L := zerosN) (R := runT zerosN 0 0 4294967295 .nil []) (by decide +kernel) rfl
  rw [h]
  decide +kernel
theorem packed_font : packed (ofN fontN) = ofN fontP := by
  have h := packed_is (l := ofN fontN) (L := fontN) (R := runT fontN 0 0 4294967295 .nil []) (by decide +kernel) rfl
  rw [h]
  decide +kernel
theorem packS_of {s : ByteArray} {l r : List Nat} (h : s.data.toList = ofN l) (hl : l.length ≤ 1048576) (hp : packed (ofN l) = ofN r) : packS s = bs (ofN r) := by
  unfold packS
  have h2 : s.size ≤ 1048576 := by
    show s.data.size ≤ 1048576
    rw [← Array.length_toList, h, ofN, List.length_map]
    exact hl
  rw [if_pos h2, h, hp]
theorem unS_of {s : ByteArray} {l r : List Nat} (h : s.data.toList = ofN r) (hl : l.length ≤ 1048576) (hp : packed (ofN l) = ofN r) : unS s = (bs (ofN l), 0) := by
  have h1 := unpacked_packed (ofN l) [] (by rw [ofN, List.length_map]; exact hl)
  rw [List.append_nil, if_pos rfl, hp] at h1
  unfold unS
  rw [h, h1]
theorem unS_abc {s : ByteArray} (h : s.data.toList = ofN [97, 98, 99]) : unS s = (bs [], 10) :=
  unS_short (by show s.data.size < 4; rw [← Array.length_toList, h]; decide)
end Cod
end Go.Proofs.YtjgklacbelggdaaGreatDoor

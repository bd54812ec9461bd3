/- What Unpack tells of packed bytes, with a byte more, with fewer, with one turned: in plain Lean. -/
import Derived.Test.YtjgklacbelggdaaGreatDoorCodUn
import Derived.Test.YtjgklacbelggdaaGreatDoorCodPack
namespace Go.Proofs.YtjgklacbelggdaaGreatDoor
namespace Cod
theorem unS_ok {S : ByteArray} {l : List UInt8} (h : unpacked S.data.toList = .ok l) : unS S = (bs l, 0) := by unfold unS; rw [h]
theorem unS_form {S : ByteArray} (h : unpacked S.data.toList = .form) : unS S = (bs [], 11) := by unfold unS; rw [h]
theorem unS_packS (l : List UInt8) (h : l.length ≤ 1048576) : unS (bs (packed l)) = (bs l, 0) := by
  have h1 := unpacked_packed l [] h
  rw [List.append_nil, if_pos rfl] at h1
  generalize packed l = P at *
  exact unS_ok h1
theorem unS_more (l : List UInt8) (h : l.length ≤ 1048576) (x : UInt8) : unS (bs (packed l ++ [x])) = (bs [], 11) := by
  have h1 := unpacked_packed l [x] h
  rw [if_neg (by simp)] at h1
  generalize packed l ++ [x] = P at *
  exact unS_form h1
/-- What is told of any bytes: they are what its bytes are packed as, or it is an error, and nothing. -/
theorem unS_cases (S : ByteArray) : (∃ l, unS S = (bs l, 0) ∧ S = bs (packed l) ∧ l.length ≤ 1048576) ∨ ∃ n : Int, (n = 2 ∨ n = 10 ∨ n = 11) ∧ unS S = (bs [], n) := by
  unfold unS
  cases h : unpacked S.data.toList with
  | short => exact .inr ⟨10, .inr (.inl rfl), rfl⟩
  | many => exact .inr ⟨2, .inl rfl, rfl⟩
  | form => exact .inr ⟨11, .inr (.inr rfl), rfl⟩
  | ok l =>
    obtain ⟨h1, h2⟩ := unpacked_only h
    exact .inl ⟨l, rfl, by rw [h1, bs_of], h2⟩
theorem unS_fewer (l : List UInt8) (h : l.length ≤ 1048576) (m : Nat) (hm : m < (packed l).length) : ∃ n : Int, (n = 2 ∨ n = 10 ∨ n = 11) ∧ unS (bs ((packed l).take m)) = (bs [], n) := by
  have h1 := fun t => unpacked_fewer l h m hm t
  generalize (packed l).take m = P at *
  rcases unS_cases (bs P) with ⟨t, -, h3, h4⟩ | h3
  · have h5 := unpacked_packed t [] h4
    rw [List.append_nil, if_pos rfl] at h5
    have h6 : P = packed t := bs_inj h3
    rw [← h6] at h5
    exact absurd h5 (h1 t)
  · exact h3
theorem packS_is (l : List UInt8) (h : l.length ≤ 1048576) : packS (bs l) = bs (packed l) := by
  have h2 : (bs l).size ≤ 1048576 := by rw [bs_size]; exact h
  unfold packS
  rw [if_pos h2, bs_data]
theorem runs_len : ∀ (l : List UInt8) (a : Nat) (c : C) (s : List UInt8), (runs pk l a c s).2.length ≤ s.length + 32 * l.length
  | [], _, _, _ => Nat.le_refl _
  | x :: r, a, c, s => by
    unfold runs
    have h1 := runs_len r ((code pk c s a x.toNat).1 % 256) (code pk c s a x.toNat).2.1 (code pk c s a x.toNat).2.2
    have h2 : (code pk c s a x.toNat).2.2.length ≤ s.length + 32 := bits_len _ _ 8 _ _ _
    rw [List.length_cons]
    omega
theorem packed_le (l : List UInt8) : (packed l).length ≤ 8 + 32 * l.length := by
  have h1 := congrArg List.length (runs_pk l 0 c0 [])
  have h2 := runs_len l 0 c0 []
  rw [List.nil_append, List.length_append] at h1
  unfold packed
  rw [List.length_append, ← h1]
  have h3 : ∀ n, (b4 n).length = 4 := fun _ => rfl
  rw [h3, h3]
  rw [List.length_nil] at h2
  omega
end Cod
end Go.Proofs.YtjgklacbelggdaaGreatDoor

/- The plain mathematics of Times. -/
import Derived.Test.YtngeijdfpgmcfaaBigPlain
namespace Go.Proofs.Ytngeijdfpgmcfaa
set_option linter.unusedVariables false
namespace Big

theorem val_set (out : List Nat) (j y : Nat) (h : j < out.length) : val (out.set j y) + 65536 ^ j * out.getD j 0 = val out + 65536 ^ j * y := by
  induction out generalizing j with
  | nil => simp at h
  | cons d ds ih =>
    cases j with
    | zero => simp [val]; omega
    | succ j =>
      have := ih j (by simpa using h)
      simp only [List.set_cons_succ, val, List.getD_cons_succ]
      rw [Nat.pow_succ, Nat.mul_comm (65536 ^ j) 65536, Nat.mul_assoc, Nat.mul_assoc]
      omega
theorem digits_set {out : List Nat} (h : Digits out) (j y : Nat) (hy : y < 65536) : Digits (out.set j y) := fun x hx => by
  rcases List.mem_or_eq_of_mem_set hx with hx | rfl
  · exact h x hx
  · exact hy
theorem val_replicate (n : Nat) : val (List.replicate n 0) = 0 := by
  induction n with
  | zero => rfl
  | succ n ih => rw [List.replicate_succ, val, ih]
theorem digits_replicate (n : Nat) : Digits (List.replicate n 0) := fun x hx => by rw [List.eq_of_mem_replicate hx]; omega

/-- Between the rounds of the inner loop. -/
structure Inner (ds es out : List Nat) (i k c : Nat) : Prop where
  dig : Digits out
  len : out.length = ds.length + es.length + 1
  carry : c < 65536
  val : val out + c * 65536 ^ (i + k) = val (ds.take i) * val es + ds.getD i 0 * val (es.take k) * 65536 ^ i
theorem Inner.start {ds es out : List Nat} {i : Nat} (h1 : Digits out) (h2 : out.length = ds.length + es.length + 1) (h3 : Big.val out = Big.val (ds.take i) * Big.val es) : Inner ds es out i 0 0 :=
  ⟨h1, h2, by omega, by simp [h3, Big.val]⟩
theorem Inner.done {ds es out : List Nat} {i k : Nat} (h : Inner ds es out i k 0) (hk : es.length ≤ k) : Big.val out = Big.val (ds.take (i + 1)) * Big.val es := by
  have := h.val
  rw [List.take_of_length_le hk, Nat.zero_mul, Nat.add_zero] at this
  rw [this, val_take_succ, Nat.add_mul]
  congr 1
  rw [Nat.mul_comm (65536 ^ i), Nat.mul_assoc, Nat.mul_comm (Big.val es), ← Nat.mul_assoc]
theorem Inner.over {ds es out : List Nat} {i k c : Nat} (h : Inner ds es out i k c) (hd : Digits ds) (he : Digits es) (hk : es.length + 1 ≤ k) : c = 0 := by
  have h1 := h.val
  rw [List.take_of_length_le (l := es) (by omega)] at h1
  have h2 : Big.val (ds.take i) * Big.val es + ds.getD i 0 * Big.val es * 65536 ^ i = Big.val (ds.take (i + 1)) * Big.val es := by
    rw [val_take_succ, Nat.add_mul]
    congr 1
    rw [Nat.mul_comm (65536 ^ i), Nat.mul_assoc, Nat.mul_assoc, Nat.mul_comm (Big.val es)]
  rw [h2] at h1
  have h3 := val_take_lt hd (i + 1)
  have h4 := val_lt he
  have h5 : Big.val (ds.take (i + 1)) * Big.val es < 65536 ^ (i + 1) * 65536 ^ es.length :=
    Nat.lt_of_le_of_lt (Nat.mul_le_mul_left _ (Nat.le_of_lt h4)) (Nat.mul_lt_mul_of_pos_right h3 (Nat.pow_pos (by omega)))
  rw [← Nat.pow_add] at h5
  have h6 : 65536 ^ (i + 1 + es.length) ≤ 65536 ^ (i + k) := Nat.pow_le_pow_right (by omega) (by omega)
  rcases Nat.eq_zero_or_pos c with h0 | h0
  · exact h0
  · have : 1 * 65536 ^ (i + k) ≤ c * 65536 ^ (i + k) := Nat.mul_le_mul_right _ h0
    omega
theorem Inner.step {ds es out : List Nat} {i k c x : Nat} (h : Inner ds es out i k c) (hd : Digits ds) (he : Digits es) (hlt : i + k < out.length) (hx : x = out.getD (i + k) 0 + ds.getD i 0 * es.getD k 0 + c) :
    Inner ds es (out.set (i + k) (x % 65536)) i (k + 1) (x / 65536) ∧ x < 4294967296 := by
  have b1 := digits_getD h.dig (i + k)
  have b2 := digits_getD hd i
  have b3 := digits_getD he k
  have b4 := h.carry
  have b5 : ds.getD i 0 * es.getD k 0 ≤ 65535 * 65535 := Nat.mul_le_mul (by omega) (by omega)
  have hx2 : x < 4294967296 := by omega
  refine ⟨⟨digits_set h.dig _ _ (by omega), by rw [List.length_set]; exact h.len, by omega, ?_⟩, hx2⟩
  have h1 := val_set out (i + k) (x % 65536) hlt
  have h2 := h.val
  rw [val_take_succ, show i + (k + 1) = i + k + 1 by omega, Nat.pow_succ]
  generalize ds.getD i 0 = d at *
  generalize es.getD k 0 = e at *
  generalize out.getD (i + k) 0 = o at *
  generalize Big.val (out.set (i + k) (x % 65536)) = V at *
  generalize Big.val out = V0 at *
  have hp : 65536 ^ (i + k) = 65536 ^ i * 65536 ^ k := Nat.pow_add _ _ _
  have e1 : x / 65536 * (65536 ^ (i + k) * 65536) + 65536 ^ (i + k) * (x % 65536) = 65536 ^ (i + k) * x := by
    have := Nat.div_add_mod x 65536
    calc x / 65536 * (65536 ^ (i + k) * 65536) + 65536 ^ (i + k) * (x % 65536) = 65536 ^ (i + k) * (65536 * (x / 65536) + x % 65536) := by
          rw [Nat.mul_add]; congr 1; rw [Nat.mul_comm, Nat.mul_assoc]
      _ = 65536 ^ (i + k) * x := by rw [this]
  have e2 : 65536 ^ (i + k) * x = 65536 ^ (i + k) * o + 65536 ^ (i + k) * (d * e) + 65536 ^ (i + k) * c := by rw [hx, Nat.mul_add, Nat.mul_add]
  have e3 : d * (Big.val (es.take k) + 65536 ^ k * e) * 65536 ^ i = d * Big.val (es.take k) * 65536 ^ i + 65536 ^ (i + k) * (d * e) := by
    rw [hp, Nat.mul_add, Nat.add_mul]
    congr 1
    rw [Nat.mul_comm (d * (65536 ^ k * e)), Nat.mul_left_comm d, ← Nat.mul_assoc]
  rw [e3]
  rw [Nat.mul_comm c] at h2
  omega
end Big
end Go.Proofs.Ytngeijdfpgmcfaa

/- Numbers as digits to base 65536, the lowest first: the plain mathematics of the reference of layer 2. -/
import Derived.Test.YtngeijdfpgmcfaaRows
namespace Go.Proofs.Ytngeijdfpgmcfaa
set_option linter.unusedVariables false
namespace Big

def val : List Nat → Nat
  | [] => 0
  | d :: ds => d + 65536 * val ds
def Digits (ds : List Nat) : Prop := ∀ d ∈ ds, d < 65536
def dig (m : Nat) : List Nat := if h : m = 0 then [] else m % 65536 :: dig (m / 65536)
termination_by m
decreasing_by omega

theorem dig_zero : dig 0 = [] := by unfold dig; simp
theorem dig_pos {m : Nat} (h : 0 < m) : dig m = m % 65536 :: dig (m / 65536) := by rw [dig, dif_neg (by omega)]
theorem val_dig (m : Nat) : val (dig m) = m := by
  induction m using Nat.strongRecOn with
  | _ m ih =>
    rcases Nat.eq_zero_or_pos m with h | h
    · subst h; rw [dig_zero]; rfl
    · rw [dig_pos h, val, ih (m / 65536) (by omega)]; omega
theorem digits_dig (m : Nat) : Digits (dig m) := by
  induction m using Nat.strongRecOn with
  | _ m ih =>
    rcases Nat.eq_zero_or_pos m with h | h
    · subst h; rw [dig_zero]; intro d hd; cases hd
    · rw [dig_pos h]
      intro d hd
      rcases List.mem_cons.1 hd with rfl | hd
      · omega
      · exact ih (m / 65536) (by omega) d hd
theorem dig_val_snoc (ds : List Nat) (hd : Digits ds) (h : ds = [] ∨ ∃ x, ds.getLast? = some x ∧ x ≠ 0) : dig (val ds) = ds := by
  induction ds with
  | nil => exact dig_zero
  | cons d ds ih =>
    have hd0 : d < 65536 := hd d (by simp)
    have hds : Digits ds := fun x hx => hd x (by simp [hx])
    cases ds with
    | nil =>
      rcases h with h | ⟨x, hx, hne⟩
      · simp at h
      · simp at hx; subst hx
        simp only [val]
        rw [dig_pos (by omega), show d + 65536 * 0 = d by omega, Nat.mod_eq_of_lt hd0, Nat.div_eq_of_lt hd0, dig_zero]
    | cons e es =>
      have h' : e :: es = [] ∨ ∃ x, (e :: es).getLast? = some x ∧ x ≠ 0 := by
        right
        rcases h with h | ⟨x, hx, hne⟩
        · simp at h
        · exact ⟨x, by simpa using hx, hne⟩
      have hpos : 0 < val (e :: es) := by
        rcases Nat.eq_zero_or_pos (val (e :: es)) with h0 | h0
        · have := ih hds h'
          rw [h0, dig_zero] at this; cases this
        · exact h0
      have hv : val (d :: e :: es) = d + 65536 * val (e :: es) := rfl
      have hm : (d + 65536 * val (e :: es)) % 65536 = d := by omega
      have hq : (d + 65536 * val (e :: es)) / 65536 = val (e :: es) := by omega
      rw [hv, dig_pos (by omega), hm, hq, ih hds h']

theorem val_append (a b : List Nat) : val (a ++ b) = val a + 65536 ^ a.length * val b := by
  induction a with
  | nil => simp [val]
  | cons d ds ih =>
    simp only [List.cons_append, val, ih, List.length_cons]
    rw [Nat.pow_succ, Nat.mul_add, ← Nat.mul_assoc, Nat.mul_comm 65536 (65536 ^ ds.length)]
    omega
theorem val_lt {ds : List Nat} (h : Digits ds) : val ds < 65536 ^ ds.length := by
  induction ds with
  | nil => simp [val]
  | cons d ds ih =>
    have h1 : d < 65536 := h d (by simp)
    have h2 := ih fun x hx => h x (by simp [hx])
    simp only [val, List.length_cons, Nat.pow_succ]
    omega
theorem digits_take {ds : List Nat} (h : Digits ds) (k : Nat) : Digits (ds.take k) := fun x hx => h x (List.mem_of_mem_take hx)
theorem digits_getD {ds : List Nat} (h : Digits ds) (k : Nat) : ds.getD k 0 < 65536 := by
  rw [List.getD_eq_getElem?_getD]
  cases hk : ds[k]? with
  | none => simp
  | some x => exact h x (List.mem_of_getElem? hk)
theorem val_take_succ (ds : List Nat) (k : Nat) : val (ds.take (k + 1)) = val (ds.take k) + 65536 ^ k * ds.getD k 0 := by
  by_cases h : k < ds.length
  · rw [List.take_succ_eq_append_getElem h, val_append, List.length_take, Nat.min_eq_left (by omega)]
    simp [val, h]
  · rw [List.take_of_length_le (by omega), List.take_of_length_le (by omega)]
    simp [List.getElem?_eq_none (Nat.le_of_not_lt h)]
theorem val_drop (ds : List Nat) (k : Nat) : val (ds.drop k) = ds.getD k 0 + 65536 * val (ds.drop (k + 1)) := by
  by_cases h : k < ds.length
  · rw [List.drop_eq_getElem_cons h]
    simp [val, h]
  · rw [List.drop_of_length_le (by omega), List.drop_of_length_le (by omega)]
    simp [val, List.getElem?_eq_none (Nat.le_of_not_lt h)]
theorem val_split (ds : List Nat) (k : Nat) : val ds = val (ds.take k) + 65536 ^ k * val (ds.drop k) := by
  by_cases h : k ≤ ds.length
  · have := val_append (ds.take k) (ds.drop k)
    rw [List.take_append_drop, List.length_take, Nat.min_eq_left h] at this
    exact this
  · rw [List.take_of_length_le (by omega), List.drop_of_length_le (by omega)]
    simp [val]
theorem val_snoc (ds : List Nat) (d : Nat) : val (ds ++ [d]) = val ds + 65536 ^ ds.length * d := by rw [val_append]; simp [val]
theorem val_take_lt {ds : List Nat} (h : Digits ds) (k : Nat) : val (ds.take k) < 65536 ^ k := by
  have h1 := val_lt (digits_take h k)
  have h2 : 65536 ^ (ds.take k).length ≤ 65536 ^ k := Nat.pow_le_pow_right (by omega) (by rw [List.length_take]; omega)
  omega
theorem dig_length_le {m k : Nat} (h : m < 65536 ^ k) : (dig m).length ≤ k := by
  induction k generalizing m with
  | zero => have : m = 0 := by simpa using h
            subst this; rw [dig_zero]; simp
  | succ k ih =>
    rcases Nat.eq_zero_or_pos m with h0 | h0
    · subst h0; rw [dig_zero]; simp
    · rw [dig_pos h0, List.length_cons]
      have : m / 65536 < 65536 ^ k := by rw [Nat.div_lt_iff_lt_mul (by omega), ← Nat.pow_succ]; exact h
      have := ih this
      omega
theorem dig_lt_pow (m : Nat) : m < 65536 ^ (dig m).length := by have := val_lt (digits_dig m); rwa [val_dig] at this
theorem dig_length_mono {m n : Nat} (h : m ≤ n) : (dig m).length ≤ (dig n).length := dig_length_le (Nat.lt_of_le_of_lt h (dig_lt_pow n))
theorem dig_nil {m : Nat} : dig m = [] ↔ m = 0 := by
  constructor
  · intro h; have := val_dig m; rw [h] at this; exact this.symm
  · rintro rfl; exact dig_zero
theorem dig_len_add (m n : Nat) : (dig (m + n)).length ≤ max (dig m).length (dig n).length + 1 := by
  apply dig_length_le
  have h1 := dig_lt_pow m
  have h2 := dig_lt_pow n
  have h3 : 65536 ^ (dig m).length ≤ 65536 ^ max (dig m).length (dig n).length := Nat.pow_le_pow_right (by omega) (Nat.le_max_left _ _)
  have h4 : 65536 ^ (dig n).length ≤ 65536 ^ max (dig m).length (dig n).length := Nat.pow_le_pow_right (by omega) (Nat.le_max_right _ _)
  rw [Nat.pow_succ]; omega
theorem dig_len_mul (m n : Nat) : (dig (m * n)).length ≤ (dig m).length + (dig n).length := by
  apply dig_length_le
  have h1 := dig_lt_pow m
  have h2 := dig_lt_pow n
  rw [Nat.pow_add]
  exact Nat.lt_of_le_of_lt (Nat.mul_le_mul_left m (Nat.le_of_lt h2)) (Nat.mul_lt_mul_of_pos_right h1 (Nat.pow_pos (by omega)))
theorem getD_zero_of_lt {ds : List Nat} {j : Nat} (h : val ds < 65536 ^ j) : ds.getD j 0 = 0 := by
  have h1 := val_split ds (j + 1)
  have h2 := val_take_succ ds j
  rcases Nat.eq_zero_or_pos (ds.getD j 0) with h0 | h0
  · exact h0
  · have : 65536 ^ j * 1 ≤ 65536 ^ j * ds.getD j 0 := Nat.mul_le_mul_left _ h0
    omega

/-- What whole leaves: without noughts at the end. -/
theorem dig_strip (ds : List Nat) (hd : Digits ds) (n : Nat) (hn : n ≤ ds.length) (hz : ∀ i, n ≤ i → ds.getD i 0 = 0) (ht : n = 0 ∨ ds.getD (n - 1) 0 ≠ 0) : ds.take n = dig (val ds) := by
  have h1 : val (ds.drop n) = 0 := by
    have : ∀ k i, n ≤ i → ds.length - i ≤ k → val (ds.drop i) = 0 := by
      intro k
      induction k with
      | zero => intro i hi hk; rw [List.drop_of_length_le (by omega)]; rfl
      | succ k ih => intro i hi hk; rw [val_drop, hz i hi, ih (i + 1) (by omega) (by omega)]
    exact this ds.length n (Nat.le_refl _) (by omega)
  have h2 : val ds = val (ds.take n) := by rw [val_split ds n, h1]; omega
  rw [h2]
  symm
  apply dig_val_snoc _ (digits_take hd n)
  rcases ht with ht | ht
  · left; rw [ht]; simp
  · right
    have hn0 : 0 < n := by
      rcases Nat.eq_zero_or_pos n with h | h
      · exact absurd (hz (n - 1) (by omega)) ht
      · exact h
    refine ⟨ds.getD (n - 1) 0, ?_, ht⟩
    rw [List.getLast?_eq_getElem?, List.length_take, Nat.min_eq_left hn, List.getElem?_take, if_pos (by omega)]
    rw [List.getD_eq_getElem?_getD, List.getElem?_eq_getElem (by omega)]; rfl
end Big
end Go.Proofs.Ytngeijdfpgmcfaa

/- Plain facts on sums of bytes in fours. No program here. -/
import Derived.WalkKit
namespace Go.Proofs.YtoidfnknckfjhaaGreatDoor
namespace Oct

/-- The weighted sum of bytes, the first of them standing at place i. -/
def ws : Nat → List UInt8 → Nat
  | _, [] => 0
  | i, b :: r => b.toNat * 2 ^ (24 - 8 * (i % 4)) + ws (i + 1) r

theorem ws_append (a b : List UInt8) : ∀ i, ws i (a ++ b) = ws i a + ws (i + a.length) b := by
  induction a with
  | nil => intro i; simp [ws]
  | cons x r ih => intro i; simp only [List.cons_append, ws, ih, List.length_cons]; rw [show i + (r.length + 1) = i + 1 + r.length by omega]; omega

theorem ws_mod (a : List UInt8) : ∀ i j, i % 4 = j % 4 → ws i a = ws j a := by
  induction a with
  | nil => intro i j _; rfl
  | cons x r ih => intro i j h; simp only [ws, h]; rw [ih (i + 1) (j + 1) (by omega)]

theorem ws_zeros (n : Nat) : ∀ i, ws i (List.replicate n 0) = 0 := by
  induction n with
  | zero => intro i; rfl
  | succ n ih => intro i; simp [List.replicate_succ, ws, ih]

/-- What Sum tells. -/
def sum (s : ByteArray) : Nat := ws 0 s.data.toList % 4294967296

theorem take_snoc (s : ByteArray) (k : Nat) (h : k < s.size) : s.data.toList.take (k + 1) = s.data.toList.take k ++ [s[k]] := by
  rw [List.take_succ_eq_append_getElem (by simpa using h)]; rfl

def sumTo (s : ByteArray) (k : Nat) : Nat := ws 0 (s.data.toList.take k) % 4294967296

theorem sumTo_zero (s : ByteArray) : sumTo s 0 = 0 := rfl
theorem sumTo_all (s : ByteArray) (k : Nat) (h : s.size ≤ k) : sumTo s k = sum s := by
  unfold sumTo sum; rw [List.take_of_length_le (by simpa using h)]
theorem sumTo_succ (s : ByteArray) (k : Nat) (h : k < s.size) :
    ((sumTo s (k + 1) : Nat) : Int) = ((sumTo s k : Nat) + (s[k].toNat : Int) % 4294967296 * 2 ^ (24 - 8 * (k % 4)) % 4294967296) % 4294967296 := by
  unfold sumTo
  rw [take_snoc s k h, ws_append]
  simp only [ws, Nat.zero_add, Nat.add_zero, List.length_take, Array.length_toList]
  rw [show min k s.data.size = k by have : s.size = s.data.size := rfl; omega]
  have h1 : ((s[k].toNat : Int) % 4294967296) = s[k].toNat := by have := s[k].toNat_lt; omega
  rw [h1]
  generalize s[k].toNat = b
  generalize ws 0 (List.take k s.data.toList) = q
  generalize 24 - 8 * (k % 4) = e
  have h2 : ((b * 2 ^ e : Nat) : Int) = (b : Int) * 2 ^ e := by push_cast; rfl
  rw [← h2]
  generalize b * 2 ^ e = z
  omega
theorem sumTo_lt (s : ByteArray) (k : Nat) : sumTo s k < 4294967296 := Nat.mod_lt _ (by decide)

theorem sum_app (x y : ByteArray) (h : x.size % 4 = 0) : (((sum (x ++ y) : Nat) : Int) == ((sum x : Nat) + (sum y : Nat) : Int) % 4294967296) = true := by
  have hl : x.size = x.data.toList.length := by simp [ByteArray.size_data]
  have hm : ws (0 + x.data.toList.length) y.data.toList = ws 0 y.data.toList := ws_mod _ _ _ (by omega)
  have e : sum (x ++ y) = (sum x + sum y) % 4294967296 := by
    unfold sum
    rw [show (x ++ y).data.toList = x.data.toList ++ y.data.toList by rw [ByteArray.data_append]; simp, ws_append, hm]
    omega
  rw [e]; simp
theorem sum_comm (x y : ByteArray) (hx : x.size % 4 = 0) (hy : y.size % 4 = 0) : (((sum (x ++ y) : Nat) : Int) == ((sum (y ++ x) : Nat) : Int)) = true := by
  have h1 := sum_app x y hx
  have h2 := sum_app y x hy
  rw [beq_iff_eq] at h1 h2 ⊢
  omega
theorem sum_zeros (x : ByteArray) (n : Nat) : (((sum (x ++ (⟨#[0, 0, 0, 0, 0, 0, 0, 0]⟩ : ByteArray).extract 0 n) : Nat) : Int) == ((sum x : Nat) : Int)) = true := by
  have e : sum (x ++ (⟨#[0, 0, 0, 0, 0, 0, 0, 0]⟩ : ByteArray).extract 0 n) = sum x := by
    unfold sum
    have hz : ((⟨#[0, 0, 0, 0, 0, 0, 0, 0]⟩ : ByteArray).extract 0 n).data.toList = List.replicate (min n 8) 0 := by
      rw [ByteArray.data_extract]
      simp only [Array.toList_extract, List.extract, Nat.sub_zero, List.drop_zero]
      rw [show [(0 : UInt8), 0, 0, 0, 0, 0, 0, 0] = List.replicate 8 0 from rfl, List.take_replicate]
    rw [show (x ++ (⟨#[0, 0, 0, 0, 0, 0, 0, 0]⟩ : ByteArray).extract 0 n).data.toList = x.data.toList ++ ((⟨#[0, 0, 0, 0, 0, 0, 0, 0]⟩ : ByteArray).extract 0 n).data.toList by rw [ByteArray.data_append]; simp, hz, ws_append, ws_zeros]
    rfl
  rw [e]; simp

theorem ws_split (l : List UInt8) (k : Nat) (u : UInt8) (h : l[k]? = some u) (b : UInt8) :
    ws 0 l = ws 0 (l.take k) + u.toNat * 2 ^ (24 - 8 * (k % 4)) + ws (k + 1) (l.drop (k + 1)) ∧
    ws 0 (l.set k b) = ws 0 (l.take k) + b.toNat * 2 ^ (24 - 8 * (k % 4)) + ws (k + 1) (l.drop (k + 1)) := by
  have hk : k < l.length := by
    rcases Nat.lt_or_ge k l.length with h' | h'
    · exact h'
    · rw [List.getElem?_eq_none h'] at h; simp at h
  have e1 : l = l.take k ++ u :: l.drop (k + 1) := by
    have : l[k] = u := by rw [List.getElem?_eq_getElem hk] at h; exact Option.some.inj h
    rw [← this, ← List.drop_eq_getElem_cons hk]; simp
  have e2 : l.set k b = l.take k ++ b :: l.drop (k + 1) := by rw [List.set_eq_take_append_cons_drop, if_pos hk]
  have hl : (l.take k).length = k := by simp; omega
  constructor
  · conv => lhs; rw [e1]
    rw [ws_append, hl]; simp only [ws, Nat.zero_add]; omega
  · rw [e2, ws_append, hl]; simp only [ws, Nat.zero_add]; omega

theorem xor_same (a b : Nat) (h : a ^^^ b = a) : b = 0 := by
  have : a ^^^ (a ^^^ b) = a ^^^ a := by rw [h]
  rwa [← Nat.xor_assoc, Nat.xor_self, Nat.zero_xor] at this

/-- With one byte another one the sum is another one. -/
theorem sum_sees (l : List UInt8) (k : Nat) (u v : UInt8) (h : l[k]? = some u) :
    (((sum ⟨(l.set k (u ^^^ v)).toArray⟩ : Nat) : Int) == ((sum ⟨l.toArray⟩ : Nat) : Int)) = decide (v = 0) := by
  obtain ⟨h1, h2⟩ := ws_split l k u h (u ^^^ v)
  have e : (ws 0 (l.set k (u ^^^ v)) % 4294967296 = ws 0 l % 4294967296) ↔ v = 0 := by
    constructor
    · intro hh
      rw [h1, h2] at hh
      have hu := u.toNat_lt
      have hv := (u ^^^ v).toNat_lt
      have : (u ^^^ v).toNat = u.toNat := by
        have hk4 : k % 4 = 0 ∨ k % 4 = 1 ∨ k % 4 = 2 ∨ k % 4 = 3 := by omega
        rcases hk4 with hk4 | hk4 | hk4 | hk4 <;> rw [hk4] at hh <;> simp only [Nat.reduceMul, Nat.reduceSub, Nat.reducePow] at hh hu hv <;> omega
      rw [UInt8.toNat_xor] at this
      have := xor_same _ _ this
      exact UInt8.toNat_inj.1 this
    · intro hv; subst hv
      rw [show u ^^^ 0 = u by simp]
      have : l.set k u = l := by
        apply List.ext_getElem?; intro j; rw [List.getElem?_set]
        by_cases e : k = j
        · subst e
          have hk : k < l.length := by
            rcases Nat.lt_or_ge k l.length with h' | h'
            · exact h'
            · rw [List.getElem?_eq_none h'] at h; simp at h
          rw [h]; simp [hk]
        · simp [e]
      rw [this]
  unfold sum
  by_cases hv : v = 0
  · simp only [hv, decide_true, beq_iff_eq]
    have := e.2 hv
    rw [hv] at this
    have t2 : ((ws 0 (l.set k (u ^^^ 0)) % 4294967296 : Nat) : Int) = ((ws 0 l % 4294967296 : Nat) : Int) := by rw [this]
    exact t2
  · simp only [hv, decide_false, beq_eq_false_iff_ne, ne_eq]
    intro hh
    apply hv
    apply e.1
    have : ((ws 0 (l.set k (u ^^^ v)) % 4294967296 : Nat) : Int) = ((ws 0 l % 4294967296 : Nat) : Int) := hh
    omega

end Oct
end Go.Proofs.YtoidfnknckfjhaaGreatDoor

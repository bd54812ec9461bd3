/- The coder of chapter 25 in plain numbers: what it writes is read, and nothing else is. No program here. -/
import Derived.WalkKit
namespace Go.Proofs.YtjgklacbelggdaaGreatDoor
namespace Cod

/-- low, high, and the chances by number. -/
structure C where
  low : Nat
  high : Nat
  ch : Nat → Nat

def upd (f : Nat → Nat) (k v : Nat) : Nat → Nat := fun i => if i = k then v else f i
def mid (c : C) (k : Nat) : Nat := c.low + (c.high - c.low) / 4096 * c.ch k
def turn (c : C) (k b : Nat) : C :=
  if b = 1 then ⟨c.low, mid c k, upd c.ch k (c.ch k + (4096 - c.ch k) / 32)⟩ else ⟨mid c k + 1, c.high, upd c.ch k (c.ch k - c.ch k / 32)⟩
def same (c : C) : Bool := decide (c.low / 16777216 = c.high / 16777216)
def shift (c : C) : C := ⟨c.low % 16777216 * 256, c.high % 16777216 * 256 + 255, c.ch⟩
def c0 : C := ⟨0, 4294967295, fun _ => 2048⟩

/-- Who is asked for a bit, and told a byte. -/
structure D (S : Type) where
  dec : S → Nat → Nat → Nat
  done : S → Nat → S

section
variable {S : Type} (d : D S)
def norm : Nat → C → S → C × S
  | 0, c, s => (c, s)
  | f + 1, c, s => if same c = true then norm f (shift c) (d.done s (c.low / 16777216)) else (c, s)
def stepB (c : C) (s : S) (k w : Nat) : Nat := d.dec s (mid c k) w
def step (c : C) (s : S) (k w : Nat) : C × S := norm d 4 (turn c k (stepB d c s k w)) s
/-- n more bits of a byte. -/
def bits (base w : Nat) : Nat → Nat → C → S → Nat × C × S
  | 0, node, c, s => (node, c, s)
  | n + 1, node, c, s => bits base w n (2 * node + stepB d c s (base + node) (w / 2 ^ n % 2)) (step d c s (base + node) (w / 2 ^ n % 2)).1 (step d c s (base + node) (w / 2 ^ n % 2)).2
def code (c : C) (s : S) (ahead w : Nat) : Nat × C × S := bits d (ahead / 32 * 256) w 8 1 c s
/-- Over bytes that are known. -/
def runs : List UInt8 → Nat → C → S → C × S
  | [], _, c, s => (c, s)
  | x :: l, a, c, s => runs l ((code d c s a x.toNat).1 % 256) (code d c s a x.toNat).2.1 (code d c s a x.toNat).2.2
end

/-- low and high, where both tops may be the same. -/
structure Wk (c : C) : Prop where
  le : c.low ≤ c.high
  hi : c.high < 4294967296
  ch : ∀ k, c.ch k ≤ 4095
structure Wf (c : C) : Prop where
  ns : same c = false
  le : c.low ≤ c.high
  hi : c.high < 4294967296
  ch : ∀ k, c.ch k ≤ 4095
theorem Wf.lt {c : C} (h : Wf c) : c.low < c.high := by
  have h1 := h.ns; have h2 := h.le
  simp only [same, decide_eq_false_iff_not] at h1
  rcases Nat.lt_or_ge c.low c.high with h3 | h3
  · exact h3
  · exact absurd (by rw [Nat.le_antisymm h2 h3]) h1
theorem wf_c0 : Wf c0 := ⟨by simp [same, c0], by simp [c0], by simp [c0], fun _ => by simp [c0]⟩

theorem mid_lt {c : C} (h : Wf c) (k : Nat) : c.low ≤ mid c k ∧ mid c k < c.high := by
  have h1 := h.lt; have h2 := h.ch k
  have h3 : (c.high - c.low) / 4096 * c.ch k ≤ (c.high - c.low) / 4096 * 4095 := Nat.mul_le_mul_left _ h2
  unfold mid
  omega
theorem upd_le {f : Nat → Nat} (h : ∀ k, f k ≤ 4095) (k v : Nat) (hv : v ≤ 4095) : ∀ i, upd f k v i ≤ 4095 := by
  intro i; unfold upd; split
  · exact hv
  · exact h i
theorem turn_wk {c : C} (h : Wf c) (k b : Nat) : Wk (turn c k b) := by
  have h1 := mid_lt h k; have h2 := h.hi; have h3 := h.ch k
  unfold turn
  split
  · exact ⟨h1.1, by simp only; omega, upd_le h.ch _ _ (by omega)⟩
  · exact ⟨by simp only; omega, h2, upd_le h.ch _ _ (by omega)⟩

/-- Behind i shifts. -/
structure Q (i : Nat) (c : C) : Prop where
  wk : Wk c
  lo : c.low % 256 ^ i = 0
  up : c.high % 256 ^ i = 256 ^ i - 1
theorem Q.shift {i : Nat} {c : C} (hi : i < 4) (h : Q i c) (hs : same c = true) : Q (i + 1) (shift c) := by
  obtain ⟨⟨h1, h2, h3⟩, h4, h5⟩ := h
  simp only [same, decide_eq_true_eq] at hs
  match i, hi with
  | 0, _ => exact ⟨⟨by simp only [Cod.shift]; omega, by simp only [Cod.shift]; omega, h3⟩, by simp only [Cod.shift]; omega, by simp only [Cod.shift]; omega⟩
  | 1, _ => simp only [Nat.reducePow] at h4 h5; exact ⟨⟨by simp only [Cod.shift]; omega, by simp only [Cod.shift]; omega, h3⟩, by simp only [Cod.shift]; omega, by simp only [Cod.shift]; omega⟩
  | 2, _ => simp only [Nat.reducePow] at h4 h5; exact ⟨⟨by simp only [Cod.shift]; omega, by simp only [Cod.shift]; omega, h3⟩, by simp only [Cod.shift]; omega, by simp only [Cod.shift]; omega⟩
  | 3, _ => simp only [Nat.reducePow] at h4 h5; exact ⟨⟨by simp only [Cod.shift]; omega, by simp only [Cod.shift]; omega, h3⟩, by simp only [Cod.shift]; omega, by simp only [Cod.shift]; omega⟩
theorem Q.four {c : C} (h : Q 4 c) : same c = false := by
  obtain ⟨⟨h1, h2, h3⟩, h4, h5⟩ := h
  simp only [Nat.reducePow] at h4 h5
  simp only [same, decide_eq_false_iff_not]
  omega
theorem Q.zero {c : C} (h : Wk c) : Q 0 c := ⟨h, by simp [Nat.mod_one], by simp [Nat.mod_one]⟩

/-- The bytes that are told, and the coder behind them. -/
def nrm : Nat → C → List UInt8 × C
  | 0, c => ([], c)
  | f + 1, c => if same c = true then (UInt8.ofNat (c.low / 16777216) :: (nrm f (shift c)).1, (nrm f (shift c)).2) else ([], c)
theorem nrm_wf : ∀ (f i : Nat) (c : C), f + i = 4 → Q i c → Wf (nrm f c).2
  | 0, i, c, h, q => by
    have : i = 4 := by omega
    subst this
    exact ⟨q.four, q.wk.le, q.wk.hi, q.wk.ch⟩
  | f + 1, i, c, h, q => by
    unfold nrm
    by_cases hs : same c = true
    · rw [if_pos hs]; exact nrm_wf f (i + 1) (shift c) (by omega) (q.shift (by omega) hs)
    · rw [if_neg hs]; exact ⟨by simpa using hs, q.wk.le, q.wk.hi, q.wk.ch⟩
theorem norm_fst {S : Type} (d : D S) : ∀ (f : Nat) (c : C) (s : S), (norm d f c s).1 = (nrm f c).2
  | 0, _, _ => rfl
  | f + 1, c, s => by
    unfold norm nrm
    by_cases hs : same c = true
    · rw [if_pos hs, if_pos hs]; exact norm_fst d f _ _
    · rw [if_neg hs, if_neg hs]
theorem step_wf {S : Type} (d : D S) {c : C} (h : Wf c) (s : S) (k w : Nat) : Wf (step d c s k w).1 := by
  unfold step
  rw [norm_fst]
  exact nrm_wf 4 0 _ rfl (Q.zero (turn_wk h _ _))
theorem bits_wf {S : Type} (d : D S) (base w : Nat) : ∀ (n node : Nat) {c : C} (s : S), Wf c → Wf (bits d base w n node c s).2.1
  | 0, _, _, _, h => h
  | n + 1, _, _, _, h => bits_wf d base w n _ _ (step_wf d h _ _ _)
theorem code_wf {S : Type} (d : D S) {c : C} (h : Wf c) (s : S) (a w : Nat) : Wf (code d c s a w).2.1 := bits_wf d _ _ _ _ _ h
theorem runs_wf {S : Type} (d : D S) : ∀ (l : List UInt8) (a : Nat) {c : C} (s : S), Wf c → Wf (runs d l a c s).1
  | [], _, _, _, h => h
  | _ :: l, _, _, _, h => runs_wf d l _ _ (code_wf d h _ _ _)

/-- Four bytes. -/
def b4 (n : Nat) : List UInt8 := [UInt8.ofNat (n / 16777216), UInt8.ofNat (n / 65536), UInt8.ofNat (n / 256), UInt8.ofNat n]
/-- The number of the first four bytes. -/
def n4 : List UInt8 → Nat
  | a :: b :: c :: d :: _ => a.toNat * 16777216 + b.toNat * 65536 + c.toNat * 256 + d.toNat
  | _ => 0
theorem n4_b4 (n : Nat) (h : n < 4294967296) (l : List UInt8) : n4 (b4 n ++ l) = n := by
  simp only [b4, n4, List.cons_append, UInt8.toNat_ofNat']
  omega
theorem b4_n4 (a b c d : UInt8) (l : List UInt8) : b4 (n4 (a :: b :: c :: d :: l)) = [a, b, c, d] := by
  have ha := a.toNat_lt; have hb := b.toNat_lt; have hc := c.toNat_lt; have hd := d.toNat_lt
  simp only [b4, n4]
  have e1 : UInt8.ofNat ((a.toNat * 16777216 + b.toNat * 65536 + c.toNat * 256 + d.toNat) / 16777216) = a := by apply UInt8.toNat_inj.1; rw [UInt8.toNat_ofNat']; omega
  have e2 : UInt8.ofNat ((a.toNat * 16777216 + b.toNat * 65536 + c.toNat * 256 + d.toNat) / 65536) = b := by apply UInt8.toNat_inj.1; rw [UInt8.toNat_ofNat']; omega
  have e3 : UInt8.ofNat ((a.toNat * 16777216 + b.toNat * 65536 + c.toNat * 256 + d.toNat) / 256) = c := by apply UInt8.toNat_inj.1; rw [UInt8.toNat_ofNat']; omega
  have e4 : UInt8.ofNat (a.toNat * 16777216 + b.toNat * 65536 + c.toNat * 256 + d.toNat) = d := by apply UInt8.toNat_inj.1; rw [UInt8.toNat_ofNat']; omega
  rw [e1, e2, e3, e4]
theorem n4_lt (l : List UInt8) : n4 l < 4294967296 := by
  unfold n4
  split
  · rename_i a b c d _
    have ha := a.toNat_lt; have hb := b.toNat_lt; have hc := c.toNat_lt; have hd := d.toNat_lt
    omega
  · decide
theorem four {l : List UInt8} (h : 4 ≤ l.length) : ∃ a b c d r, l = a :: b :: c :: d :: r := by
  match l, h with
  | a :: b :: c :: d :: r, _ => exact ⟨a, b, c, d, r, rfl⟩
theorem b4_eq {l : List UInt8} (h : 4 ≤ l.length) : b4 (n4 l) ++ l.drop 4 = l := by
  obtain ⟨a, b, c, d, r, rfl⟩ := four h
  rw [b4_n4]; rfl

/-- What is written of a byte's last n bits, and K behind. -/
def encB (base w : Nat) : Nat → Nat → C → (C → List UInt8) → List UInt8
  | 0, _, c, K => K c
  | n + 1, node, c, K => (nrm 4 (turn c (base + node) (w / 2 ^ n % 2))).1 ++ encB base w n (2 * node + w / 2 ^ n % 2) (nrm 4 (turn c (base + node) (w / 2 ^ n % 2))).2 K
/-- What is written of bytes. -/
def enc : List UInt8 → Nat → C → List UInt8
  | [], _, c => b4 c.low
  | x :: l, a, c => encB (a / 32 * 256) x.toNat 8 1 c fun c => enc l x.toNat c

/-- He who writes. -/
def pk : D (List UInt8) := ⟨fun _ _ w => w, fun s t => s ++ [UInt8.ofNat t]⟩
theorem norm_pk : ∀ (f : Nat) (c : C) (s : List UInt8), norm pk f c s = ((nrm f c).2, s ++ (nrm f c).1)
  | 0, _, _ => by simp [norm, nrm]
  | f + 1, c, s => by
    unfold norm nrm
    by_cases hs : same c = true
    · rw [if_pos hs, if_pos hs, norm_pk f]; simp [pk]
    · rw [if_neg hs, if_neg hs]; simp
theorem bits_pk (base w : Nat) (K : C → List UInt8) : ∀ (n node : Nat) (c : C) (s : List UInt8),
    s ++ encB base w n node c K = (bits pk base w n node c s).2.2 ++ K (bits pk base w n node c s).2.1
  | 0, _, _, _ => rfl
  | n + 1, node, c, s => by
    unfold encB bits
    rw [← bits_pk base w K n]
    unfold step
    rw [norm_pk]
    simp [stepB, pk]
theorem bits_pkB (base w : Nat) : ∀ (n node : Nat) (c : C) (s : List UInt8), (bits pk base w n node c s).1 = node * 2 ^ n + w % 2 ^ n
  | 0, _, _, _ => by simp [bits, Nat.mod_one]
  | n + 1, node, c, s => by
    unfold bits
    rw [bits_pkB base w n]
    simp only [stepB, pk]
    have h1 : w % 2 ^ (n + 1) = w / 2 ^ n % 2 * 2 ^ n + w % 2 ^ n := by
      rw [Nat.pow_succ, Nat.mod_mul, Nat.mul_comm, Nat.add_comm]
    rw [h1, Nat.pow_succ, Nat.add_mul]
    have h2 : node * (2 ^ n * 2) = 2 * node * 2 ^ n := by rw [Nat.mul_comm 2 node, Nat.mul_assoc, Nat.mul_comm 2]
    omega
theorem code_pkB (c : C) (s : List UInt8) (a : Nat) (x : UInt8) : (code pk c s a x.toNat).1 % 256 = x.toNat := by
  have h := x.toNat_lt
  unfold code
  rw [bits_pkB]
  omega
theorem runs_pk : ∀ (l : List UInt8) (a : Nat) (c : C) (s : List UInt8), (runs pk l a c s).2 ++ b4 (runs pk l a c s).1.low = s ++ enc l a c
  | [], _, _, _ => rfl
  | x :: l, a, c, s => by
    unfold runs enc
    rw [runs_pk l, code_pkB]
    exact (bits_pk _ _ (fun c => enc l x.toNat c) 8 1 c s).symm

/-- He who reads: what is found, what is left, whether it failed. -/
structure R where
  found : Nat
  rest : List UInt8
  failed : Bool
def up : D R := ⟨fun s m _ => if s.found ≤ m then 1 else 0, fun s _ => match s.rest with
  | [] => ⟨s.found * 256 % 4294967296, [], true⟩
  | b :: r => ⟨s.found * 256 % 4294967296 + b.toNat, r, s.failed⟩⟩
/-- So many bytes, until it fails. -/
def dec : Nat → Nat → C → R → List UInt8 × C × R
  | 0, _, c, s => ([], c, s)
  | n + 1, a, c, s => if s.failed = true then ([], c, s) else
      (UInt8.ofNat ((code up c s a 0).1 % 256) :: (dec n ((code up c s a 0).1 % 256) (code up c s a 0).2.1 (code up c s a 0).2.2).1, (dec n ((code up c s a 0).1 % 256) (code up c s a 0).2.1 (code up c s a 0).2.2).2)

/-- Bytes, ahead of others, as they are read. -/
def st (T Z : List UInt8) : R := ⟨n4 T, T.drop 4 ++ Z, false⟩
structure In (c : C) (T : List UInt8) : Prop where
  len : 4 ≤ T.length
  lo : c.low ≤ n4 T
  up : n4 T ≤ c.high

theorem ar_lo (q x y z u : Nat) (h : x * 16777216 + y * 65536 + z * 256 + u ≤ q * 256 + 255) : x * 65536 + y * 256 + z ≤ q := by
  have h1 : 256 * (x * 65536 + y * 256 + z) < 256 * (q + 1) := by
    rw [Nat.mul_add, Nat.mul_add, Nat.mul_add, Nat.mul_comm 256 (x * 65536), Nat.mul_assoc, Nat.mul_comm 256 (y * 256), Nat.mul_assoc, Nat.mul_comm 256 z, Nat.mul_comm 256 q]
    exact Nat.lt_of_le_of_lt (Nat.le_trans (Nat.le_add_right _ u) h) (Nat.add_lt_add_left (by decide) _)
  exact Nat.lt_succ_iff.1 (Nat.lt_of_mul_lt_mul_left h1)
theorem ar_hi (hi t x y z u : Nat) (h : x * 16777216 + y * 65536 + z * 256 + u ≤ hi % 16777216 * 256 + 255) (ht : t = hi / 16777216) : t * 16777216 + x * 65536 + y * 256 + z ≤ hi := by
  have h2 := Nat.div_add_mod hi 16777216
  rw [← ht] at h2
  have h5 := ar_lo _ _ _ _ _ h
  calc t * 16777216 + x * 65536 + y * 256 + z = 16777216 * t + (x * 65536 + y * 256 + z) := by rw [Nat.mul_comm t, Nat.add_assoc, Nat.add_assoc, ← Nat.add_assoc (x * 65536)]
    _ ≤ 16777216 * t + hi % 16777216 := Nat.add_le_add_left h5 _
    _ = hi := h2
theorem nrm_in (Z : List UInt8) : ∀ (f : Nat) (c : C) (T : List UInt8), Wk c → In (nrm f c).2 T → In c ((nrm f c).1 ++ T) ∧ norm up f c (st ((nrm f c).1 ++ T) Z) = ((nrm f c).2, st T Z)
  | 0, c, T, _, h => ⟨h, rfl⟩
  | f + 1, c, T, hk, h => by
    unfold nrm at h ⊢
    unfold norm
    by_cases hs : same c = true
    · rw [if_pos hs] at h
      simp only [if_pos hs, List.cons_append]
      have hk' : Wk (shift c) := ((Q.zero hk).shift (by omega) hs).wk
      obtain ⟨i1, i2⟩ := nrm_in Z f (shift c) T hk' h
      generalize (nrm f (shift c)).1 ++ T = T1 at i1 i2
      obtain ⟨l1, l2, l3⟩ := i1
      obtain ⟨x, y, z, u, r, rfl⟩ := four l1
      have hx := x.toNat_lt; have hy := y.toNat_lt; have hz := z.toNat_lt; have hu := u.toNat_lt
      simp only [same, decide_eq_true_eq] at hs
      obtain ⟨k1, k2, k3⟩ := hk
      simp only [shift, n4] at l2 l3
      have ht : (UInt8.ofNat (c.low / 16777216)).toNat = c.low / 16777216 := by rw [UInt8.toNat_ofNat']; omega
      generalize hW : UInt8.ofNat (c.low / 16777216) = top at ht
      have e1 : c.low ≤ top.toNat * 16777216 + x.toNat * 65536 + y.toNat * 256 + z.toNat := by rw [ht]; omega
      have e2 : top.toNat * 16777216 + x.toNat * 65536 + y.toNat * 256 + z.toNat ≤ c.high := ar_hi _ _ _ _ _ _ l3 (ht.trans hs)
      refine ⟨⟨by simp, e1, e2⟩, ?_⟩
      rw [← i2]
      congr 1
      simp only [up, st, n4, List.cons_append, List.drop_succ_cons, List.drop_zero]
      congr 1
      clear e1 e2
      omega
    · rw [if_neg hs] at h
      simp only [if_neg hs]
      exact ⟨h, rfl⟩

theorem In.mid {c : C} (h : Wf c) {k b : Nat} (hb : b < 2) {T : List UInt8} (hi : In (turn c k b) T) : In c T ∧ (if n4 T ≤ mid c k then 1 else 0) = b := by
  have h1 := mid_lt h k
  obtain ⟨l, lo, hi⟩ := hi
  unfold turn at lo hi
  by_cases hb1 : b = 1
  · rw [if_pos hb1] at lo hi
    simp only at lo hi
    exact ⟨⟨l, lo, by omega⟩, by rw [if_pos hi, hb1]⟩
  · rw [if_neg hb1] at lo hi
    simp only at lo hi
    exact ⟨⟨l, by omega, hi⟩, by rw [if_neg (by omega)]; omega⟩

theorem encB_in (Z : List UInt8) (base w : Nat) (K : C → List UInt8) (hK : ∀ c, Wf c → In c (K c)) : ∀ (n node : Nat) (c : C), Wf c →
    In c (encB base w n node c K) ∧ ∃ c', Wf c' ∧ bits up base 0 n node c (st (encB base w n node c K) Z) = (node * 2 ^ n + w % 2 ^ n, c', st (K c') Z)
  | 0, node, c, h => ⟨hK c h, c, h, by simp [bits, encB, Nat.mod_one]⟩
  | n + 1, node, c, h => by
    have hb : w / 2 ^ n % 2 < 2 := Nat.mod_lt _ (by omega)
    generalize hbe : w / 2 ^ n % 2 = b at hb
    have hk := turn_wk h (base + node) b
    have hw := nrm_wf 4 0 _ rfl (Q.zero hk)
    obtain ⟨i1, c', i2, i3⟩ := encB_in Z base w K hK n (2 * node + b) _ hw
    obtain ⟨j1, j2⟩ := nrm_in Z 4 _ _ hk i1
    obtain ⟨m1, m2⟩ := In.mid h hb j1
    have he : encB base w (n + 1) node c K = (nrm 4 (turn c (base + node) b)).1 ++ encB base w n (2 * node + b) (nrm 4 (turn c (base + node) b)).2 K := by
      rw [encB, hbe]
    rw [he]
    refine ⟨m1, c', i2, ?_⟩
    have hsb : stepB up c (st ((nrm 4 (turn c (base + node) b)).1 ++ encB base w n (2 * node + b) (nrm 4 (turn c (base + node) b)).2 K) Z) (base + node) (0 / 2 ^ n % 2) = b := m2
    unfold bits step
    rw [hsb, j2]
    simp only
    rw [i3]
    have h1 : w % 2 ^ (n + 1) = b * 2 ^ n + w % 2 ^ n := by
      rw [Nat.pow_succ, Nat.mod_mul, hbe, Nat.mul_comm, Nat.add_comm]
    rw [h1, Nat.pow_succ, Nat.add_mul]
    have h2 : node * (2 ^ n * 2) = 2 * node * 2 ^ n := by rw [Nat.mul_comm 2 node, Nat.mul_assoc, Nat.mul_comm 2]
    congr 1
    omega

/-- What was written is read. -/
theorem enc_back (Z : List UInt8) : ∀ (l : List UInt8) (a : Nat) (c : C), Wf c → In c (enc l a c) ∧ ∃ c', Wf c' ∧ dec l.length a c (st (enc l a c) Z) = (l, c', ⟨c'.low, Z, false⟩)
  | [], a, c, h => by
    have h1 := h.le; have h2 := h.hi
    have h3 : n4 (b4 c.low) = c.low := by simpa using n4_b4 c.low (by omega) []
    refine ⟨⟨by simp [enc, b4], by rw [enc, h3]; omega, by rw [enc, h3]; omega⟩, c, h, ?_⟩
    simp only [dec, enc, List.length_nil, st, h3]
    simp [b4]
  | x :: l, a, c, h => by
    have hK : ∀ c, Wf c → In c (enc l x.toNat c) := fun c hc => (enc_back Z l x.toNat c hc).1
    obtain ⟨i1, c', i2, i3⟩ := encB_in Z (a / 32 * 256) x.toNat (fun c => enc l x.toNat c) hK 8 1 c h
    refine ⟨i1, ?_⟩
    obtain ⟨_, c2, k1, k2⟩ := enc_back Z l x.toNat c' i2
    refine ⟨c2, k1, ?_⟩
    have hx := x.toNat_lt
    have hc : code up c (st (enc (x :: l) a c) Z) a 0 = (256 + x.toNat, c', st (enc l x.toNat c') Z) := by
      unfold code
      rw [enc, i3, show 1 * 2 ^ 8 + x.toNat % 2 ^ 8 = 256 + x.toNat by omega]
    have hm : (256 + x.toNat) % 256 = x.toNat := by omega
    rw [List.length_cons, dec, if_neg (by simp [st]), hc]
    simp only [hm, k2]
    simp

theorem norm_only : ∀ (f : Nat) (c : C) (s : R), Wk c → c.low ≤ s.found → s.found ≤ c.high → (norm up f c s).2.failed = false →
    s.failed = false ∧ (nrm f c).2.low ≤ (norm up f c s).2.found ∧ (norm up f c s).2.found ≤ (nrm f c).2.high ∧ (norm up f c s).2.found < 4294967296 ∧
    b4 s.found ++ s.rest = (nrm f c).1 ++ (b4 (norm up f c s).2.found ++ (norm up f c s).2.rest)
  | 0, c, s, hk, h1, h2, h3 => ⟨h3, h1, h2, Nat.lt_of_le_of_lt h2 hk.hi, rfl⟩
  | f + 1, c, s, hk, h1, h2, h3 => by
    unfold norm at h3 ⊢
    unfold nrm
    by_cases hs : same c = true
    · simp only [if_pos hs] at h3 ⊢
      have hk' : Wk (shift c) := ((Q.zero hk).shift (by omega) hs).wk
      obtain ⟨F, rest, fl⟩ := s
      simp only [same, decide_eq_true_eq] at hs
      simp only at h1 h2
      obtain ⟨k1, k2, k3⟩ := hk
      cases rest with
      | nil =>
        have hd : up.done ⟨F, [], fl⟩ (c.low / 16777216) = ⟨F * 256 % 4294967296, [], true⟩ := rfl
        rw [hd] at h3 ⊢
        have := norm_only f (shift c) ⟨F * 256 % 4294967296, [], true⟩ hk' (by simp only [shift]; omega) (by simp only [shift]; omega) h3
        exact absurd this.1 (by simp)
      | cons b r =>
        have hb := b.toNat_lt
        have hd : up.done ⟨F, b :: r, fl⟩ (c.low / 16777216) = ⟨F * 256 % 4294967296 + b.toNat, r, fl⟩ := rfl
        rw [hd] at h3 ⊢
        obtain ⟨q1, q2, q3, q4, q5⟩ := norm_only f (shift c) ⟨F * 256 % 4294967296 + b.toNat, r, fl⟩ hk' (by simp only [shift]; omega) (by simp only [shift]; omega) h3
        refine ⟨q1, q2, q3, q4, ?_⟩
        rw [List.cons_append, ← q5]
        have e1 : UInt8.ofNat (F / 16777216) = UInt8.ofNat (c.low / 16777216) := by rw [show F / 16777216 = c.low / 16777216 by omega]
        have e2 : UInt8.ofNat ((F * 256 % 4294967296 + b.toNat) / 16777216) = UInt8.ofNat (F / 65536) := by apply UInt8.toNat_inj.1; rw [UInt8.toNat_ofNat', UInt8.toNat_ofNat']; omega
        have e3 : UInt8.ofNat ((F * 256 % 4294967296 + b.toNat) / 65536) = UInt8.ofNat (F / 256) := by apply UInt8.toNat_inj.1; rw [UInt8.toNat_ofNat', UInt8.toNat_ofNat']; omega
        have e4 : UInt8.ofNat ((F * 256 % 4294967296 + b.toNat) / 256) = UInt8.ofNat F := by apply UInt8.toNat_inj.1; rw [UInt8.toNat_ofNat', UInt8.toNat_ofNat']; omega
        have e5 : UInt8.ofNat (F * 256 % 4294967296 + b.toNat) = b := by apply UInt8.toNat_inj.1; rw [UInt8.toNat_ofNat']; omega
        simp only [b4, e1, e2, e3, e4, e5, List.cons_append, List.nil_append]
    · simp only [if_neg hs] at h3 ⊢
      exact ⟨h3, h1, h2, Nat.lt_of_le_of_lt h2 hk.hi, rfl⟩

theorem encB_congr (base : Nat) (K : C → List UInt8) {w v : Nat} : ∀ (n node : Nat) (c : C), (∀ m, m < n → w / 2 ^ m % 2 = v / 2 ^ m % 2) → encB base w n node c K = encB base v n node c K
  | 0, _, _, _ => rfl
  | n + 1, node, c, h => by
    unfold encB
    rw [h n (by omega), encB_congr base K n _ _ (fun m hm => h m (by omega))]

theorem bits_only (base : Nat) : ∀ (n node : Nat) (c : C) (s : R), Wf c → c.low ≤ s.found → s.found ≤ c.high → (bits up base 0 n node c s).2.2.failed = false →
    s.failed = false ∧ (bits up base 0 n node c s).2.1.low ≤ (bits up base 0 n node c s).2.2.found ∧ (bits up base 0 n node c s).2.2.found ≤ (bits up base 0 n node c s).2.1.high ∧
    ∃ w, w < 2 ^ n ∧ (bits up base 0 n node c s).1 = node * 2 ^ n + w ∧
      ∀ K : C → List UInt8, K (bits up base 0 n node c s).2.1 = b4 (bits up base 0 n node c s).2.2.found ++ (bits up base 0 n node c s).2.2.rest → encB base w n node c K = b4 s.found ++ s.rest
  | 0, node, c, s, hw, h1, h2, h3 => ⟨h3, h1, h2, 0, by simp, by simp [bits], fun K hK => hK⟩
  | n + 1, node, c, s, hw, h1, h2, h3 => by
    have hb : stepB up c s (base + node) (0 / 2 ^ n % 2) < 2 := by simp only [stepB, up]; split <;> omega
    have hbd : stepB up c s (base + node) (0 / 2 ^ n % 2) = if s.found ≤ mid c (base + node) then 1 else 0 := rfl
    unfold bits at h3 ⊢
    unfold step at h3 ⊢
    generalize stepB up c s (base + node) (0 / 2 ^ n % 2) = b at hb hbd h3 ⊢
    have hm := mid_lt hw (base + node)
    have hk := turn_wk hw (base + node) b
    have hlo : (turn c (base + node) b).low ≤ s.found ∧ s.found ≤ (turn c (base + node) b).high := by
      unfold turn
      by_cases hf : s.found ≤ mid c (base + node)
      · rw [if_pos hf] at hbd; rw [if_pos hbd]; exact ⟨h1, hf⟩
      · rw [if_neg hf] at hbd; rw [if_neg (by omega)]; exact ⟨by simp only; omega, h2⟩
    have hw' := nrm_wf 4 0 _ rfl (Q.zero hk)
    have hfst := norm_fst up 4 (turn c (base + node) b) s
    have hlo1 : (norm up 4 (turn c (base + node) b) s).2.failed = false → _ := norm_only 4 (turn c (base + node) b) s hk hlo.1 hlo.2
    generalize hN : norm up 4 (turn c (base + node) b) s = N at *
    obtain ⟨cN, sN⟩ := N
    simp only at hfst hlo1 h3 ⊢
    rw [← hfst] at hw' hlo1
    -- in the end it has not failed, so it has not failed here
    have key : sN.failed = false := by
      cases hsf : sN.failed with
      | false => rfl
      | true =>
        exfalso
        have hst : ∀ (f : Nat) (c : C) (s : R), s.failed = true → (norm up f c s).2.failed = true := by
          intro f
          induction f with
          | zero => intro c s h; exact h
          | succ f ih =>
            intro c s h
            unfold norm
            split
            · refine ih _ _ ?_
              simp only [up]
              cases s.rest with
              | nil => rfl
              | cons b r => exact h
            · exact h
        have hbt : ∀ (n node : Nat) (c : C) (s : R), s.failed = true → (bits up base 0 n node c s).2.2.failed = true := by
          intro n
          induction n with
          | zero => intro node c s h; exact h
          | succ n ih =>
            intro node c s h
            unfold bits
            exact ih _ _ _ (hst 4 _ _ h)
        rw [hbt _ _ _ _ hsf] at h3
        cases h3
    obtain ⟨q1, q2, q3, q4, q5⟩ := hlo1 key
    obtain ⟨r1, r2, r3, w, r4, r5, r6⟩ := bits_only base n (2 * node + b) cN sN hw' q2 q3 h3
    refine ⟨q1, r2, r3, b * 2 ^ n + w, ?_, ?_, ?_⟩
    · rw [Nat.pow_succ]
      have : b * 2 ^ n ≤ 1 * 2 ^ n := Nat.mul_le_mul_right _ (by omega)
      omega
    · rw [r5, Nat.pow_succ, Nat.add_mul]
      have h2 : node * (2 ^ n * 2) = 2 * node * 2 ^ n := by rw [Nat.mul_comm 2 node, Nat.mul_assoc, Nat.mul_comm 2]
      omega
    · intro K hK
      have hp : 0 < 2 ^ n := Nat.two_pow_pos n
      have e1 : (b * 2 ^ n + w) / 2 ^ n % 2 = b := by
        rw [Nat.mul_comm, Nat.mul_add_div hp, Nat.div_eq_of_lt r4]; omega
      rw [encB, e1, ← hfst, encB_congr base K (w := b * 2 ^ n + w) (v := w), r6 K hK, ← q5]
      intro m hm
      have e2 : b * 2 ^ n + w = 2 ^ m * (2 * (b * 2 ^ (n - m - 1))) + w := by
        have : 2 ^ n = 2 ^ m * (2 * 2 ^ (n - m - 1)) := by
          rw [← Nat.pow_succ', ← Nat.pow_add]; congr 1; omega
        rw [this]
        congr 1
        rw [Nat.mul_left_comm]; congr 1; rw [Nat.mul_left_comm]
      rw [e2, Nat.mul_add_div (Nat.two_pow_pos m)]
      omega
termination_by n => n

/-- What is read from anything is written as just that. -/
theorem dec_only : ∀ (n a : Nat) (c : C) (s : R), Wf c → c.low ≤ s.found → s.found ≤ c.high → (dec n a c s).2.2.failed = false → (dec n a c s).2.2.rest = [] → (dec n a c s).2.2.found = (dec n a c s).2.1.low →
    s.failed = false ∧ (dec n a c s).1.length = n ∧ enc (dec n a c s).1 a c = b4 s.found ++ s.rest
  | 0, a, c, s, hw, h1, h2, h3, h4, h5 => by
    simp only [dec] at h3 h4 h5
    exact ⟨h3, rfl, by simp only [dec, enc]; rw [h4, h5]; simp⟩
  | n + 1, a, c, s, hw, h1, h2, h3, h4, h5 => by
    cases hf : s.failed with
    | true => rw [dec, if_pos hf] at h3; rw [hf] at h3; cases h3
    | false =>
      rw [dec, if_neg (by simp [hf])] at h3 h4 h5 ⊢
      simp only at h3 h4 h5 ⊢
      have key : (code up c s a 0).2.2.failed = false := by
        cases hsf : (code up c s a 0).2.2.failed with
        | false => rfl
        | true =>
          exfalso
          have : ∀ (n a : Nat) (c : C) (s : R), s.failed = true → (dec n a c s).2.2.failed = true := by
            intro n a c s h
            cases n with
            | zero => exact h
            | succ n => rw [dec, if_pos h]; exact h
          rw [this _ _ _ _ hsf] at h3
          cases h3
      obtain ⟨q1, q2, q3, w, q4, q5, q6⟩ := bits_only (a / 32 * 256) 8 1 c s hw h1 h2 key
      have hcw := code_wf up hw s a 0
      obtain ⟨r1, r2, r3⟩ := dec_only n ((code up c s a 0).1 % 256) _ _ hcw q2 q3 h3 h4 h5
      refine ⟨trivial, by rw [List.length_cons]; exact congrArg (· + 1) r2, ?_⟩
      have hb : (code up c s a 0).1 = 1 * 2 ^ 8 + w := q5
      have hw8 : w < 256 := q4
      have hm : (code up c s a 0).1 % 256 = w := by rw [hb]; omega
      rw [hm] at r3 ⊢
      have hx : (UInt8.ofNat w).toNat = w := by rw [UInt8.toNat_ofNat']; omega
      rw [enc, hx]
      exact q6 _ r3

theorem enc_length (l : List UInt8) (a : Nat) {c : C} (h : Wf c) : 4 ≤ (enc l a c).length := (enc_back [] l a c h).1.len

/-- Bytes packed. -/
def packed (l : List UInt8) : List UInt8 := b4 l.length ++ enc l 0 c0
theorem packed_length (l : List UInt8) : 8 ≤ (packed l).length := by
  have := enc_length l 0 wf_c0
  simp only [packed, List.length_append, b4, List.length_cons, List.length_nil]; omega

/-- What is read of bytes behind the number, so many; nothing, if they are not what is written. -/
def readBack (n : Nat) (T : List UInt8) : Option (List UInt8) :=
  if T.length < 4 then none else
    if (dec n 0 c0 (st T [])).2.2.failed = false ∧ (dec n 0 c0 (st T [])).2.2.rest = [] ∧ (dec n 0 c0 (st T [])).2.2.found = (dec n 0 c0 (st T [])).2.1.low then some (dec n 0 c0 (st T [])).1 else none

theorem st_app (T Z : List UInt8) (h : 4 ≤ T.length) : st (T ++ Z) [] = st T Z := by
  obtain ⟨a, b, c, d, r, rfl⟩ := four h
  simp [st, n4]
theorem readBack_enc (l Z : List UInt8) : readBack l.length (enc l 0 c0 ++ Z) = if Z = [] then some l else none := by
  have hl := enc_length l 0 wf_c0
  obtain ⟨c', _, k2⟩ := (enc_back Z l 0 c0 wf_c0).2
  unfold readBack
  rw [if_neg (by rw [List.length_append]; omega), st_app _ _ hl, k2]
  simp
theorem readBack_only {n : Nat} {T l : List UInt8} (h : readBack n T = some l) : l.length = n ∧ enc l 0 c0 = T := by
  unfold readBack at h
  split at h
  · cases h
  · rename_i hT
    split at h
    · rename_i hc
      cases h
      obtain ⟨h1, h2, h3⟩ := dec_only n 0 c0 (st T []) wf_c0 (by simp [c0]) (by have := n4_lt T; simp only [c0, st]; omega) hc.1 hc.2.1 hc.2.2
      refine ⟨h2, h3.trans ?_⟩
      simp only [st, List.append_nil]
      exact b4_eq (by omega)
    · cases h

/-- What is unpacked: how many are told, and what comes of them. -/
inductive Un where
  | short | many | form
  | ok (l : List UInt8)
def unpacked (s : List UInt8) : Un :=
  if s.length < 4 then .short else if 1048576 < n4 s then .many else
    match readBack (n4 s) (s.drop 4) with
    | none => .form
    | some l => .ok l

theorem n4_pack (l Z : List UInt8) (h : l.length < 4294967296) : n4 (packed l ++ Z) = l.length := by
  unfold packed; rw [List.append_assoc]; exact n4_b4 _ h _
theorem unpacked_packed (l Z : List UInt8) (h : l.length ≤ 1048576) : unpacked (packed l ++ Z) = if Z = [] then .ok l else .form := by
  have h1 := packed_length l
  unfold unpacked
  rw [if_neg (by rw [List.length_append]; omega), n4_pack l Z (by omega), if_neg (by omega)]
  have hd : (packed l ++ Z).drop 4 = enc l 0 c0 ++ Z := by simp [packed, b4]
  rw [hd, readBack_enc]
  by_cases hZ : Z = []
  · simp [hZ]
  · simp [hZ]
theorem unpacked_only {s l : List UInt8} (h : unpacked s = .ok l) : packed l = s ∧ l.length ≤ 1048576 := by
  unfold unpacked at h
  split at h
  · cases h
  · rename_i h4
    split at h
    · cases h
    · rename_i hm
      cases hr : readBack (n4 s) (s.drop 4) with
      | none => rw [hr] at h; cases h
      | some l' =>
        rw [hr] at h; cases h
        obtain ⟨h1, h2⟩ := readBack_only hr
        refine ⟨?_, by omega⟩
        unfold packed
        rw [h1, h2]
        exact b4_eq (by omega)
/-- With bytes fewer, it is no one's. -/
theorem unpacked_fewer (l : List UInt8) (h : l.length ≤ 1048576) (m : Nat) (hm : m < (packed l).length) (t : List UInt8) : unpacked ((packed l).take m) ≠ .ok t := by
  intro hu
  obtain ⟨h1, h2⟩ := unpacked_only hu
  have h3 := unpacked_packed t ((packed l).drop m) h2
  rw [h1, List.take_append_drop] at h3
  have h4 := unpacked_packed l [] h
  rw [List.append_nil, if_pos rfl] at h4
  rw [h4, if_neg (by intro hh; have := congrArg List.length hh; simp at this; omega)] at h3
  cases h3
theorem packed_inj {l t : List UInt8} (h1 : l.length ≤ 1048576) (h2 : t.length ≤ 1048576) (h : packed l = packed t) : l = t := by
  have h3 := unpacked_packed l [] h1
  have h4 := unpacked_packed t [] h2
  rw [List.append_nil, if_pos rfl] at h3 h4
  rw [h, h4] at h3
  cases h3; rfl

end Cod
end Go.Proofs.YtjgklacbelggdaaGreatDoor

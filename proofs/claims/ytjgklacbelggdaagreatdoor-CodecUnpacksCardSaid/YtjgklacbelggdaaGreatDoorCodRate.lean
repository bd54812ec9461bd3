/- The coder of chapter 25 in plain numbers: how few bytes there may be; the document's reader is the same one. No program here. -/
import Derived.Test.YtjgklacbelggdaaGreatDoorCodRun
namespace Go.Proofs.YtjgklacbelggdaaGreatDoor
namespace Cod
open Ev

/-- How great high - low may be behind a step in which no byte is told. -/
def hop (M : Nat) : Nat := if M < 4096 then M - 1 else max (M - 31 * (M / 4096) - 1) (4065 * (M / 4096) + 29)
noncomputable def hopT (M : Nat) : Nat := cond (Nat.ble 4096 M) (forceN (Nat.sub (Nat.sub M (Nat.mul 31 (Nat.div M 4096))) 1) fun x => forceN (Nat.add (Nat.mul 4065 (Nat.div M 4096)) 29) fun y => cond (Nat.ble x y) y x) (Nat.sub M 1)
theorem hopT_eq (M : Nat) : hopT M = hop M := by
  unfold hopT hop
  simp only [forceN_is]
  by_cases h : M < 4096
  · have h1 : Nat.ble 4096 M = false := by rw [← Bool.not_eq_true, Nat.ble_eq]; omega
    rw [h1, if_pos h]; rfl
  · have h1 : Nat.ble 4096 M = true := by rw [Nat.ble_eq]; omega
    rw [h1, if_neg h]
    simp only [cond_true]
    show cond (Nat.ble (M - 31 * (M / 4096) - 1) (4065 * (M / 4096) + 29)) (4065 * (M / 4096) + 29) (M - 31 * (M / 4096) - 1) = _
    cases hb : Nat.ble (M - 31 * (M / 4096) - 1) (4065 * (M / 4096) + 29) with
    | true =>
      have := Nat.le_of_ble_eq_true hb
      simp only [cond_true]; omega
    | false =>
      have : ¬ M - 31 * (M / 4096) - 1 ≤ 4065 * (M / 4096) + 29 := fun hh => by rw [Nat.ble_eq_true_of_le hh] at hb; cases hb
      simp only [cond_false]; omega
noncomputable def itT (n : Nat) : Nat → Nat := Nat.rec (motive := fun _ => Nat → Nat) (fun m => m) (fun _ ih m => forceN (hopT m) ih) n
theorem itT_succ : ∀ (n m : Nat), itT (n + 1) m = hop (itT n m)
  | 0, m => by show forceN (hopT m) (itT 0) = _; rw [forceN_is, hopT_eq]; rfl
  | n + 1, m => by
    have e : itT (n + 1) m = itT n (hopT m) := forceN_is _ _
    show forceN (hopT m) (itT (n + 1)) = _
    rw [forceN_is, itT_succ n, ← e]
noncomputable def it (j : Nat) : Nat := itT j 4294967295
theorem it_succ (j : Nat) : it (j + 1) = hop (it j) := itT_succ j _
theorem it_end : it 5989 = 0 := by kernel_rfl

theorem hop_of {R M p R1 : Nat} (h : R ≤ M) (h1 : 31 ≤ p) (h2 : p ≤ 4065) (hr : R1 = R / 4096 * p ∨ R1 = R - R / 4096 * p - 1) : R1 ≤ hop M := by
  have h3 : R / 4096 * p ≤ R / 4096 * 4065 := Nat.mul_le_mul_left _ h2
  have h4 : R / 4096 * 31 ≤ R / 4096 * p := Nat.mul_le_mul_left _ h1
  generalize R / 4096 * p = q at *
  unfold hop
  split
  · omega
  · have h5 : R / 4096 ≤ M / 4096 := Nat.div_le_div_right h
    rcases hr with hr | hr
    · omega
    · rcases Nat.lt_or_ge (R / 4096) (M / 4096) with h6 | h6
      · omega
      · have h7 : R / 4096 = M / 4096 := by omega
        omega

theorem nrm_ch : ∀ (f : Nat) (c : C), (nrm f c).2.ch = c.ch
  | 0, _ => rfl
  | f + 1, c => by
    unfold nrm
    split
    · exact nrm_ch f (shift c)
    · rfl
theorem turn_ch (c : C) (k b i : Nat) (h1 : 31 ≤ c.ch i) (h2 : c.ch i ≤ 4065) (h3 : 31 ≤ c.ch k) (h4 : c.ch k ≤ 4065) : 31 ≤ (turn c k b).ch i ∧ (turn c k b).ch i ≤ 4065 := by
  unfold turn
  split <;> (simp only [upd]; split <;> omega)

structure Near (c : C) (j : Nat) : Prop where
  wf : Wf c
  lo : ∀ i, 31 ≤ c.ch i
  up : ∀ i, c.ch i ≤ 4065
  le : c.high - c.low ≤ it j
  jl : j ≤ 5989
theorem Near.lt {c : C} {j : Nat} (h : Near c j) : j < 5989 := by
  rcases Nat.lt_or_ge j 5989 with h1 | h1
  · exact h1
  · exfalso
    have h2 : j = 5989 := Nat.le_antisymm h.jl h1
    have h3 := h.le
    rw [h2, it_end] at h3
    have := h.wf.lt
    omega
theorem near_c0 : Near c0 0 := ⟨wf_c0, fun _ => by simp [c0], fun _ => by simp [c0], Nat.le_refl 4294967295, by omega⟩
theorem Near.step {c : C} {j : Nat} (h : Near c j) (k b : Nat) : ∃ j', Near (nrm 4 (turn c k b)).2 j' ∧ j + 1 ≤ 5989 * (nrm 4 (turn c k b)).1.length + j' := by
  have hk := turn_wk h.wf k b
  have hw := nrm_wf 4 0 _ rfl (Q.zero hk)
  have hlt := h.lt
  have hc : ∀ i, 31 ≤ (nrm 4 (turn c k b)).2.ch i ∧ (nrm 4 (turn c k b)).2.ch i ≤ 4065 := fun i => by
    rw [nrm_ch]; exact turn_ch c k b i (h.lo i) (h.up i) (h.lo k) (h.up k)
  by_cases hs : same (turn c k b) = true
  · have hl : 1 ≤ (nrm 4 (turn c k b)).1.length := by
      rw [nrm, if_pos hs]; simp
    refine ⟨0, ⟨hw, fun i => (hc i).1, fun i => (hc i).2, ?_, by omega⟩, by omega⟩
    have := hw.hi
    show _ ≤ 4294967295
    omega
  · have he : nrm 4 (turn c k b) = ([], turn c k b) := by rw [nrm, if_neg hs]
    rw [he] at hc hw ⊢
    refine ⟨j + 1, ⟨hw, fun i => (hc i).1, fun i => (hc i).2, ?_, by omega⟩, by simp⟩
    rw [it_succ]
    refine hop_of h.le (h.lo k) (h.up k) ?_
    have hm := mid_lt h.wf k
    unfold turn
    by_cases hb : b = 1
    · left; rw [if_pos hb]; simp only [mid]; omega
    · right; rw [if_neg hb]; simp only [mid] at hm ⊢; omega
theorem rate_bits (base w : Nat) (K : C → List UInt8) (D : Nat) (hK : ∀ c j, Near c j → j + D ≤ 5989 * (K c).length) : ∀ (n node : Nat) (c : C) (j : Nat), Near c j → j + n + D ≤ 5989 * (encB base w n node c K).length
  | 0, _, c, j, h => by rw [Nat.add_zero]; exact hK c j h
  | n + 1, node, c, j, h => by
    obtain ⟨j', h1, h2⟩ := h.step (base + node) (w / 2 ^ n % 2)
    have h3 := rate_bits base w K D hK n (2 * node + w / 2 ^ n % 2) _ j' h1
    rw [encB, List.length_append, Nat.mul_add]
    omega
theorem rate : ∀ (l : List UInt8) (a : Nat) (c : C) (j : Nat), Near c j → j + (8 * l.length + 17967) ≤ 5989 * (enc l a c).length
  | [], a, c, j, h => by have := h.jl; simp [enc, b4]; omega
  | x :: l, a, c, j, h => by
    have := rate_bits (a / 32 * 256) x.toNat (fun c => enc l x.toNat c) (8 * l.length + 17967) (fun c j h => rate l x.toNat c j h) 8 1 c j h
    have e : (enc (x :: l) a c).length = (encB (a / 32 * 256) x.toNat 8 1 c fun c => enc l x.toNat c).length := rfl
    generalize (encB (a / 32 * 256) x.toNat 8 1 c fun c => enc l x.toNat c).length = q at *
    have h9 : j + (8 * (l.length + 1) + 17967) = j + 8 + (8 * l.length + 17967) := by omega
    rw [e, List.length_cons, h9]
    exact this
theorem packed_rate (l : List UInt8) : l.length ≤ 1000 * (packed l).length := by
  have := rate l 0 c0 0 near_c0
  simp only [packed, List.length_append]
  omega

/-- The document's reader. -/
def rf : D (Nat × List UInt8) := ⟨fun s m _ => if s.1 ≤ m then 1 else 0, fun s _ => (s.1 % 16777216 * 256 + (s.2.headD 0).toNat, s.2.tail)⟩
def decR : Nat → Nat → C → Nat × List UInt8 → List UInt8
  | 0, _, _, _ => []
  | n + 1, a, c, s => UInt8.ofNat ((code rf c s a 0).1 % 256) :: decR n ((code rf c s a 0).1 % 256) (code rf c s a 0).2.1 (code rf c s a 0).2.2
theorem decR_length : ∀ (n a : Nat) (c : C) (s : Nat × List UInt8), (decR n a c s).length = n
  | 0, _, _, _ => rfl
  | n + 1, a, c, s => by rw [decR, List.length_cons, decR_length n]

theorem norm_failed : ∀ (f : Nat) (c : C) (s : R), s.failed = true → (norm up f c s).2.failed = true
  | 0, _, _, h => h
  | f + 1, c, s, h => by
    unfold norm
    split
    · refine norm_failed f _ _ ?_
      simp only [up]
      cases s.rest with
      | nil => rfl
      | cons b r => exact h
    · exact h
theorem bits_failed (base : Nat) : ∀ (n node : Nat) (c : C) (s : R), s.failed = true → (bits up base 0 n node c s).2.2.failed = true
  | 0, _, _, _, h => h
  | n + 1, node, c, s, h => by unfold bits; exact bits_failed base n _ _ _ (norm_failed 4 _ _ h)
theorem dec_failed (n a : Nat) (c : C) (s : R) (h : s.failed = true) : (dec n a c s).2.2.failed = true := by
  cases n with
  | zero => exact h
  | succ n => rw [dec, if_pos h]; exact h
theorem norm_rf : ∀ (f : Nat) (c : C) (s : R), s.found < 4294967296 → (norm up f c s).2.failed = false →
    (norm up f c s).2.found < 4294967296 ∧ norm rf f c (s.found, s.rest) = ((norm up f c s).1, ((norm up f c s).2.found, (norm up f c s).2.rest))
  | 0, _, _, h, _ => ⟨h, rfl⟩
  | f + 1, c, s, h, hf => by
    unfold norm at hf ⊢
    by_cases hs : same c = true
    · simp only [if_pos hs] at hf ⊢
      obtain ⟨F, rest, fl⟩ := s
      cases rest with
      | nil =>
        have : (norm up f (shift c) (up.done ⟨F, [], fl⟩ (c.low / 16777216))).2.failed = true := norm_failed f _ _ rfl
        rw [this] at hf; cases hf
      | cons b r =>
        have hd : up.done ⟨F, b :: r, fl⟩ (c.low / 16777216) = ⟨F * 256 % 4294967296 + b.toNat, r, fl⟩ := rfl
        have hd2 : rf.done (F, b :: r) (c.low / 16777216) = (F * 256 % 4294967296 + b.toNat, r) := by
          show (F % 16777216 * 256 + b.toNat, r) = _
          congr 1
          omega
        have hb := b.toNat_lt
        simp only at h
        rw [hd] at hf
        rw [hd, hd2]
        exact norm_rf f (shift c) ⟨F * 256 % 4294967296 + b.toNat, r, fl⟩ (by simp only; omega) hf
    · rw [if_neg hs] at hf ⊢
      rw [if_neg hs]
      exact ⟨h, rfl⟩
theorem bits_rf (base : Nat) : ∀ (n node : Nat) (c : C) (s : R), s.found < 4294967296 → (bits up base 0 n node c s).2.2.failed = false →
    (bits up base 0 n node c s).2.2.found < 4294967296 ∧ bits rf base 0 n node c (s.found, s.rest) = ((bits up base 0 n node c s).1, (bits up base 0 n node c s).2.1, ((bits up base 0 n node c s).2.2.found, (bits up base 0 n node c s).2.2.rest))
  | 0, _, _, _, h, _ => ⟨h, rfl⟩
  | n + 1, node, c, s, h, hf => by
    unfold bits at hf ⊢
    have hk : (step up c s (base + node) (0 / 2 ^ n % 2)).2.failed = false := by
      cases hx : (step up c s (base + node) (0 / 2 ^ n % 2)).2.failed with
      | false => rfl
      | true => rw [bits_failed base n _ _ _ hx] at hf; cases hf
    have hb : stepB rf c (s.found, s.rest) (base + node) (0 / 2 ^ n % 2) = stepB up c s (base + node) (0 / 2 ^ n % 2) := rfl
    obtain ⟨h1, h2⟩ := norm_rf 4 (turn c (base + node) (stepB up c s (base + node) (0 / 2 ^ n % 2))) s h hk
    have h3 : step rf c (s.found, s.rest) (base + node) (0 / 2 ^ n % 2) = ((step up c s (base + node) (0 / 2 ^ n % 2)).1, ((step up c s (base + node) (0 / 2 ^ n % 2)).2.found, (step up c s (base + node) (0 / 2 ^ n % 2)).2.rest)) := by
      unfold step
      rw [hb]; exact h2
    rw [hb, h3]
    exact bits_rf base n _ _ _ h1 hf
theorem dec_rf : ∀ (n a : Nat) (c : C) (s : R), s.found < 4294967296 → (dec n a c s).2.2.failed = false → decR n a c (s.found, s.rest) = (dec n a c s).1
  | 0, _, _, _, _, _ => rfl
  | n + 1, a, c, s, h, hf => by
    cases hs : s.failed with
    | true => rw [dec_failed _ _ _ _ hs] at hf; cases hf
    | false =>
      rw [dec, if_neg (by simp [hs])] at hf ⊢
      simp only at hf ⊢
      have hk : (code up c s a 0).2.2.failed = false := by
        cases hx : (code up c s a 0).2.2.failed with
        | false => rfl
        | true => rw [dec_failed _ _ _ _ hx] at hf; cases hf
      obtain ⟨h1, h2⟩ := bits_rf (a / 32 * 256) 8 1 c s h hk
      have h3 : code rf c (s.found, s.rest) a 0 = ((code up c s a 0).1, (code up c s a 0).2.1, ((code up c s a 0).2.2.found, (code up c s a 0).2.2.rest)) := h2
      have h4 := dec_rf n ((code up c s a 0).1 % 256) (code up c s a 0).2.1 (code up c s a 0).2.2 h1 hf
      rw [decR, h3]
      exact congrArg _ h4

/-- The first four, 0 beyond the end. -/
def z4 (T : List UInt8) : Nat := (((T.headD 0).toNat * 256 + (T.tail.headD 0).toNat) * 256 + (T.tail.tail.headD 0).toNat) * 256 + (T.tail.tail.tail.headD 0).toNat
theorem z4_n4 {T : List UInt8} (h : 4 ≤ T.length) : z4 T = n4 T := by
  obtain ⟨a, b, c, d, r, rfl⟩ := four h
  simp only [z4, n4, List.headD_cons, List.tail_cons]
  omega
/-- What the document says of it. -/
def unR (s : List UInt8) : Un :=
  if s.length < 4 then .short else if 1048576 < n4 s then .many else if 1000 * s.length < n4 s then .form else
    if packed (decR (n4 s) 0 c0 (z4 (s.drop 4), (s.drop 4).drop 4)) = s then .ok (decR (n4 s) 0 c0 (z4 (s.drop 4), (s.drop 4).drop 4)) else .form
theorem unR_eq (s : List UInt8) : unR s = unpacked s := by
  unfold unR
  by_cases h1 : s.length < 4
  · rw [if_pos h1]; unfold unpacked; rw [if_pos h1]
  rw [if_neg h1]
  by_cases h2 : 1048576 < n4 s
  · rw [if_pos h2]; unfold unpacked; rw [if_neg h1, if_pos h2]
  rw [if_neg h2]
  cases hu : unpacked s with
  | short => unfold unpacked at hu; rw [if_neg h1, if_neg h2] at hu; split at hu <;> cases hu
  | many => unfold unpacked at hu; rw [if_neg h1, if_neg h2] at hu; split at hu <;> cases hu
  | form =>
    split
    · rfl
    · split
      · rename_i hp
        exfalso
        generalize hd : decR (n4 s) 0 c0 (z4 (s.drop 4), (s.drop 4).drop 4) = out at hp
        have hl : out.length = n4 s := by rw [← hd, decR_length]
        have := unpacked_packed out [] (by omega)
        rw [List.append_nil, hp, hu, if_pos rfl] at this
        cases this
      · rfl
  | ok l =>
    obtain ⟨h3, h4⟩ := unpacked_only hu
    have h5 := packed_rate l
    have hn : n4 s = l.length := by rw [← h3]; simpa using n4_pack l [] (by omega)
    rw [if_neg (by rw [hn, ← h3]; omega)]
    have hT : s.drop 4 = enc l 0 c0 := by rw [← h3]; simp [packed, b4]
    have hlen := enc_length l 0 wf_c0
    obtain ⟨c', _, k2⟩ := (enc_back [] l 0 c0 wf_c0).2
    have hdec : decR (n4 s) 0 c0 (z4 (s.drop 4), (s.drop 4).drop 4) = l := by
      rw [hT, z4_n4 hlen, hn]
      have := dec_rf l.length 0 c0 (st (enc l 0 c0) []) (n4_lt _) (by rw [k2])
      rw [k2] at this
      simpa [st] using this
    rw [hdec, if_pos h3]
end Cod
end Go.Proofs.YtjgklacbelggdaaGreatDoor

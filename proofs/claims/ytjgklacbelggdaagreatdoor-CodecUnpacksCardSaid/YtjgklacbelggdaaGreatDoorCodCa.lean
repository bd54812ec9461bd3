/- The calls that are told where shown is reckoned. -/
import Derived.Test.YtjgklacbelggdaaGreatDoorCodTold
import Derived.Test.YtjgklacbelggdaaGreatDoorRepeat
import Derived.Test.YtjgklacbelggdaaGreatDoorOctSum
import Derived.Test.YtjgklacbelggdaaGreatDoorOctNum
import Derived.Test.YtjgklacbelggdaaGreatDoorEvLib
namespace Go.Proofs.YtjgklacbelggdaaGreatDoor
open Go.RowKit Go.Proofs.YtjgklacbelggdaaGreatDoor.Ev
set_option linter.unusedVariables false
namespace Cod

def caS (f : FuncId) (s : ByteArray) : Option Value :=
  cond (Nat.beq f 10)
    (cond (eqL s.data.toList []) (some (.string (bs (ofN [0, 0, 0, 0, 0, 0, 0, 0])))) (cond (eqL s.data.toList zerosN) (some (.string (bs (ofN zerosP)))) (cond (eqL s.data.toList fontN) (some (.string (bs (ofN fontP)))) none)))
  (cond (Nat.beq f 12)
    (cond (eqL s.data.toList zerosP) (some (.tuple #[.string (bs (ofN zerosN)), .int .i64 0])) (cond (eqL s.data.toList fontP) (some (.tuple #[.string (bs (ofN fontN)), .int .i64 0])) (cond (eqL s.data.toList [97, 98, 99]) (some (.tuple #[.string (bs []), .int .i64 10])) none)))
  (cond (Nat.beq f 50) (cond (Nat.ble s.size 100000) (some (.int .u32 (Oct.sum s))) none)
  (cond (Nat.beq f 34) (cond (Nat.ble s.size 100000) (some (.int .i64 (Oct.num s))) none) none)))
def caP (f : FuncId) (n c : Int) : Option Value :=
  cond (Nat.beq f 16) (cond (decide (-9223372036854775808 ≤ n) && decide (n ≤ 9223372036854775807)) (some (.string (Oct.putS n c))) none) none
def caR (f : FuncId) (s : ByteArray) (n : Int) : Option Value :=
  match n with
  | .ofNat c => cond (Nat.beq f 51) (cond (Nat.ble c 1000 && Nat.ble s.size 1000) (some (.string ⟨(Lib.repeatL s.data.toList c).toArray⟩)) none) none
  | _ => none
def ca (f : FuncId) (l : List Value) : Option Value :=
  match l with
  | [.string s] => caS f s
  | [.int .i64 n, .int .i64 c] => caP f n c
  | [.string s, .int .i64 n] => caR f s n
  | _ => none
theorem cond_none {b : Bool} {x v : Value} (h : cond b (some x) none = some v) : b = true ∧ x = v := by
  cases b with
  | true => exact ⟨rfl, Option.some.inj h⟩
  | false => cases h
end Cod
section
variable [Val]
theorem ca_ok : CallsOk Tryz.prog Cod.ca := by
  intro f args v h
  unfold Cod.ca at h
  split at h
  · rename_i s
    unfold Cod.caS at h
    cases hf : Nat.beq f 10 with
    | true =>
      rw [hf] at h
      obtain rfl := Nat.eq_of_beq_eq_true hf
      have key : ∀ l r : List Nat, Cod.eqL s.data.toList l = true → l.length ≤ 1048576 → Cod.packed (Cod.ofN l) = Cod.ofN r → ∀ w, LaidIn w → Calls Tryz.prog 10 ⟨[.string s]⟩ w fun e w' => e = .returned (.string (bs (Cod.ofN r))) ∧ Below w.heap.size w w' := fun l r h1 h2 h3 w _ => by
        rw [← Cod.packS_of (Cod.eqL_is h1) h2 h3]
        exact (pack_all s w).mono fun e w' h => ⟨h.1, h.2.to_below⟩
      simp only [cond_true] at h
      cases h1 : Cod.eqL s.data.toList [] with
      | true => rw [h1] at h; obtain rfl := Option.some.inj h; exact ⟨rfl, rfl, key _ _ h1 (by decide) Cod.packed_none⟩
      | false =>
        rw [h1] at h
        simp only [cond_false] at h
        cases h2 : Cod.eqL s.data.toList Cod.zerosN with
        | true => rw [h2] at h; obtain rfl := Option.some.inj h; exact ⟨rfl, rfl, key _ _ h2 (by decide +kernel) Cod.packed_zeros⟩
        | false =>
          rw [h2] at h
          simp only [cond_false] at h
          obtain ⟨h3, rfl⟩ := Cod.cond_none h
          exact ⟨rfl, rfl, key _ _ h3 (by decide +kernel) Cod.packed_font⟩
    | false =>
      rw [hf] at h
      simp only [cond_false] at h
      cases hg : Nat.beq f 12 with
      | true =>
        rw [hg] at h
        obtain rfl := Nat.eq_of_beq_eq_true hg
        have key : ∀ (t : ByteArray) (n : Int), Cod.unS s = (t, n) → s.size ≤ 1152921504606846976 → ∀ w, LaidIn w → Calls Tryz.prog 12 ⟨[.string s]⟩ w fun e w' => e = .returned (.tuple #[.string t, .int .i64 n]) ∧ Below w.heap.size w w' := fun t n h1 h2 w _ => by
          have h3 := unpack_any s h2 w
          rw [h1] at h3
          exact h3.mono fun e w' h => ⟨h.1, h.2.to_below⟩
        have size : ∀ l : List Nat, Cod.eqL s.data.toList l = true → s.size = l.length := fun l h1 => by
          show s.data.size = _
          rw [← Array.length_toList, Cod.eqL_is h1, Cod.ofN, List.length_map]
        simp only [cond_true] at h
        cases h1 : Cod.eqL s.data.toList Cod.zerosP with
        | true => rw [h1] at h; obtain rfl := Option.some.inj h; exact ⟨rfl, rfl, key _ _ (Cod.unS_of (Cod.eqL_is h1) (by decide +kernel) Cod.packed_zeros) (by rw [size _ h1]; decide +kernel)⟩
        | false =>
          rw [h1] at h
          simp only [cond_false] at h
          cases h2 : Cod.eqL s.data.toList Cod.fontP with
          | true => rw [h2] at h; obtain rfl := Option.some.inj h; exact ⟨rfl, rfl, key _ _ (Cod.unS_of (Cod.eqL_is h2) (by decide +kernel) Cod.packed_font) (by rw [size _ h2]; decide +kernel)⟩
          | false =>
            rw [h2] at h
            simp only [cond_false] at h
            obtain ⟨h3, rfl⟩ := Cod.cond_none h
            exact ⟨rfl, rfl, key _ _ (Cod.unS_abc (Cod.eqL_is h3)) (by rw [size _ h3]; decide)⟩
      | false =>
        rw [hg] at h
        simp only [cond_false] at h
        cases hs : Nat.beq f 50 with
        | false =>
          rw [hs] at h
          simp only [cond_false] at h
          cases hn : Nat.beq f 34 with
          | false => rw [hn] at h; cases h
          | true =>
            rw [hn] at h
            obtain rfl := Nat.eq_of_beq_eq_true hn
            simp only [cond_true] at h
            obtain ⟨h3, rfl⟩ := Cod.cond_none h
            have h4 := Nat.le_of_ble_eq_true h3
            exact ⟨rfl, rfl, fun w _ => (number_any s w (by unfold maxLen; omega)).mono fun e w' h => ⟨h.1, h.2 ▸ Below.refl _ _⟩⟩
        | true =>
          rw [hs] at h
          obtain rfl := Nat.eq_of_beq_eq_true hs
          simp only [cond_true] at h
          obtain ⟨h3, rfl⟩ := Cod.cond_none h
          have h4 := Nat.le_of_ble_eq_true h3
          exact ⟨rfl, rfl, fun w _ => (sum_any s w (by unfold maxLen; omega)).mono fun e w' h => ⟨h.1, h.2 ▸ Below.refl _ _⟩⟩
  · rename_i n c
    unfold Cod.caP at h
    cases hf : Nat.beq f 16 with
    | false => rw [hf] at h; cases h
    | true =>
      rw [hf] at h
      obtain ⟨h1, rfl⟩ := Cod.cond_none h
      simp only [Bool.and_eq_true, decide_eq_true_eq] at h1
      obtain rfl := Nat.eq_of_beq_eq_true hf
      exact ⟨rfl, rfl, fun w _ => put_all n c w h1⟩
  · rename_i s n
    unfold Cod.caR at h
    split at h
    · rename_i c
      cases hf : Nat.beq f 51 with
      | false => rw [hf] at h; cases h
      | true =>
        rw [hf] at h
        obtain ⟨h1, rfl⟩ := Cod.cond_none h
        simp only [Bool.and_eq_true, Nat.ble_eq] at h1
        obtain rfl := Nat.eq_of_beq_eq_true hf
        have hm : s.size * c ≤ 1000 * 1000 := Nat.mul_le_mul h1.2 h1.1
        exact ⟨rfl, rfl, fun w _ => repeat_any s c w (by omega) (by omega)⟩
    · cases h
  · cases h
end
end Go.Proofs.YtjgklacbelggdaaGreatDoor

/- The calls that are told where shown of chapter 10 is reckoned. -/
import Derived.Test.YtoidfnknckfjhaaGreatDoorRepeatT
import Derived.Test.YtoidfnknckfjhaaGreatDoorOctSum
import Derived.Test.YtoidfnknckfjhaaGreatDoorOctNum
import Derived.Test.YtoidfnknckfjhaaGreatDoorOctPut
import Derived.Test.YtoidfnknckfjhaaGreatDoorEvLib
namespace Go.Proofs.YtoidfnknckfjhaaGreatDoor
open Go.RowKit Go.Proofs.YtoidfnknckfjhaaGreatDoor.Ev
set_option linter.unusedVariables false
namespace Tab
def tagCells : Array Value := #[.string ⟨#[97, 120, 105, 115]⟩, .string ⟨#[99, 104, 97, 114]⟩, .string ⟨#[99, 111, 100, 101]⟩, .string ⟨#[102, 101, 97, 116]⟩, .string ⟨#[103, 108, 121, 102]⟩, .string ⟨#[104, 97, 110, 103]⟩, .string ⟨#[104, 101, 97, 100]⟩, .string ⟨#[108, 111, 111, 107]⟩, .string ⟨#[109, 111, 118, 101]⟩, .string ⟨#[110, 97, 109, 101]⟩]
def caS (f : FuncId) (s : ByteArray) : Option Value :=
  cond (Nat.beq f 17) (cond (Nat.ble s.size 100000) (some (.int .u32 (Oct.sum s))) none)
  (cond (Nat.beq f 78) (cond (Nat.ble s.size 100000) (some (.int .i64 (Oct.num s))) none) none)
def caP (f : FuncId) (n c : Int) : Option Value :=
  cond (Nat.beq f 20) (cond (decide (-9223372036854775808 ≤ n) && decide (n ≤ 9223372036854775807)) (some (.string (Oct.putS n c))) none) none
def caR (f : FuncId) (s : ByteArray) (n : Int) : Option Value :=
  match n with
  | .ofNat c => cond (Nat.beq f 21) (cond (Nat.ble c 1000 && Nat.ble s.size 1000) (some (.string ⟨(Lib.repeatL s.data.toList c).toArray⟩)) none) none
  | _ => none
def ca (f : FuncId) (l : List Value) : Option Value :=
  match l with
  | [.string s] => caS f s
  | [.int .i64 n, .int .i64 c] => caP f n c
  | [.string s, .int .i64 n] => caR f s n
  | _ => none
theorem cond_none {b : Bool} {x v : Value} (h : cond b (some x) none = some v) : b = true ∧ x = v := by
  cases b with
  | true => exact ⟨rfl, Option.some.inj h⟩
  | false => cases h
end Tab
section
variable [Val]
theorem tab_ok : CallsOk Tryz.prog Tab.ca := by
  intro f args v h
  unfold Tab.ca at h
  split at h
  · rename_i s
    unfold Tab.caS at h
    cases hs : Nat.beq f 17 with
    | false =>
      rw [hs] at h
      simp only [cond_false] at h
      cases hn : Nat.beq f 78 with
      | false => rw [hn] at h; cases h
      | true =>
        rw [hn] at h
        obtain rfl := Nat.eq_of_beq_eq_true hn
        simp only [cond_true] at h
        obtain ⟨h3, rfl⟩ := Tab.cond_none h
        have h4 := Nat.le_of_ble_eq_true h3
        exact ⟨rfl, rfl, fun w _ => (number_any s w (by unfold maxLen; omega)).mono fun e w' h => ⟨h.1, h.2 ▸ Below.refl _ _⟩⟩
    | true =>
      rw [hs] at h
      obtain rfl := Nat.eq_of_beq_eq_true hs
      simp only [cond_true] at h
      obtain ⟨h3, rfl⟩ := Tab.cond_none h
      have h4 := Nat.le_of_ble_eq_true h3
      exact ⟨rfl, rfl, fun w _ => (sum_any s w (by unfold maxLen; omega)).mono fun e w' h => ⟨h.1, h.2 ▸ Below.refl _ _⟩⟩
  · rename_i n c
    unfold Tab.caP at h
    cases hf : Nat.beq f 20 with
    | false => rw [hf] at h; cases h
    | true =>
      rw [hf] at h
      obtain ⟨h1, rfl⟩ := Tab.cond_none h
      simp only [Bool.and_eq_true, decide_eq_true_eq] at h1
      obtain rfl := Nat.eq_of_beq_eq_true hf
      exact ⟨rfl, rfl, fun w _ => put_all n c w h1⟩
  · rename_i s n
    unfold Tab.caR at h
    split at h
    · rename_i c
      cases hf : Nat.beq f 21 with
      | false => rw [hf] at h; cases h
      | true =>
        rw [hf] at h
        obtain ⟨h1, rfl⟩ := Tab.cond_none h
        simp only [Bool.and_eq_true, Nat.ble_eq] at h1
        obtain rfl := Nat.eq_of_beq_eq_true hf
        have hm : s.size * c ≤ 1000 * 1000 := Nat.mul_le_mul h1.2 h1.1
        exact ⟨rfl, rfl, fun w _ => repeat_any s c w (by omega) (by omega)⟩
    · cases h
  · cases h
end
end Go.Proofs.YtoidfnknckfjhaaGreatDoor

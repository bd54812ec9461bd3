/- A row of bytes of which one is turned, or the first ones are taken. -/
import Derived.Test.YtoidfnknckfjhaaGreatDoorCodCell
import Derived.Laws.BitsAllLaws
namespace Go.Proofs.YtoidfnknckfjhaaGreatDoor
open Go.RowKit
set_option linter.unusedVariables false

theorem RowM.at {w : World} {B : Nat} {v : Value} {l : List UInt8} (h : RowM w B v l) : ∃ g cap, v = .slice (some ⟨g, 0, none⟩) l.length cap ∧ l.length ≤ cap ∧ (∀ j u, l[j]? = some u → w.cell? ⟨g, j, none⟩ = some (.int .u8 u.toNat)) ∧ (∀ j, j < l.length → w.frozen? ⟨g, j, none⟩ = false) ∧
    B ≤ g ∧ (∀ k y, k < l.length → RowM (w.setCell ⟨g, k, none⟩ (.int .u8 y.toNat)) B (.slice (some ⟨g, 0, none⟩) l.length cap) (l.set k y)) ∧ (∀ k, k ≤ l.length → RowM w B (.slice (some ⟨g, 0, none⟩) k cap) (l.take k)) := by
  obtain ⟨g, cap, cur, fz, rfl, hb, hg, hfz, hlc, hcm, hcs, ht⟩ := h
  refine ⟨g, cap, rfl, hlc, fun j u hj => ?_, fun j hj => ?_, hb, fun k y hk => ?_, fun k hk => ?_⟩
  · have hjl : j < l.length := by
      rcases Nat.lt_or_ge j l.length with h' | h'
      · exact h'
      · rw [List.getElem?_eq_none h'] at hj; cases hj
    have h2 : (cur.toList.take l.length)[j]? = some (bcell u) := by rw [ht, List.getElem?_map, hj]; rfl
    rw [List.getElem?_take, if_pos hjl] at h2
    unfold bcell at h2
    simpa [World.cell?, hg] using h2
  · have h2 := hfz j (by omega)
    obtain ⟨lo, hi'⟩ := fz
    simp only [World.frozen?, hg, Bool.and_eq_false_iff, decide_eq_false_iff_not]
    simp only at h2
    omega
  · refine ⟨g, cap, cur.setIfInBounds k (bcell y), fz, by rw [List.length_set], hb, ?_, ?_, by rw [List.length_set]; exact hlc, hcm, by rw [Array.size_setIfInBounds]; exact hcs, ?_⟩
    · have := setCell_eq_setRow w g k cur 5 fz (bcell y) hg
      show (w.setCell ⟨g, k, none⟩ (bcell y)).heap[g]? = _
      rw [this]
      exact setRow_heap w g cur _ _ _ hg
    · intro j hj
      exact hfz j (by simpa using hj)
    · rw [List.length_set, Array.toList_setIfInBounds, List.take_set, ht, List.map_set]
  · have e : (l.take k).length = k := by rw [List.length_take]; omega
    refine ⟨g, cap, cur, fz, by rw [e], hb, hg, hfz, by rw [e]; omega, hcm, hcs, ?_⟩
    rw [e, List.map_take, ← ht, List.take_take, Nat.min_eq_left hk]

/-- A byte turned, as the machine reckons it. -/
theorem xor_byte (u : UInt8) (t : Nat) (ht : t < 256) : bits .xor .u8 (u.toNat : Int) (t : Int) = ((u ^^^ UInt8.ofNat t).toNat : Int) := by
  have hu := u.toNat_lt
  have h5 : (u ^^^ UInt8.ofNat t).toNat = u.toNat ^^^ t := by rw [UInt8.toNat_xor, UInt8.toNat_ofNat_of_lt' (by have : UInt8.size = 256 := rfl; omega)]
  rw [u8_xor_nat _ _ (by omega) ht, h5]
theorem xor_zero (u : UInt8) : u ^^^ UInt8.ofNat 0 = u := by
  apply UInt8.toNat_inj.1
  rw [UInt8.toNat_xor]
  exact Nat.xor_zero _
theorem xor_other (u : UInt8) (t : Nat) (ht : t < 256) (h0 : t ≠ 0) : u ^^^ UInt8.ofNat t ≠ u := by
  intro h
  have h1 := congrArg UInt8.toNat h
  rw [UInt8.toNat_xor, UInt8.toNat_ofNat_of_lt' (by have : UInt8.size = 256 := rfl; omega)] at h1
  have h2 : u.toNat ^^^ (u.toNat ^^^ t) = u.toNat ^^^ u.toNat := by rw [h1]
  rw [← Nat.xor_assoc, Nat.xor_self, Nat.zero_xor] at h2
  exact h0 h2
theorem set_same {l : List UInt8} {k : Nat} {u : UInt8} (h : l[k]? = some u) : l.set k u = l := by
  apply List.ext_getElem?
  intro j
  rw [List.getElem?_set]
  by_cases e : k = j
  · subst e
    rw [if_pos rfl, h, if_pos (by rcases Nat.lt_or_ge k l.length with h' | h'; exact h'; rw [List.getElem?_eq_none h'] at h; cases h)]
  · rw [if_neg e]
theorem set_other {l : List UInt8} {k : Nat} {u y : UInt8} (h : l[k]? = some u) (hy : y ≠ u) : l.set k y ≠ l := by
  intro e
  have h1 := congrArg (·[k]?) e
  simp only [List.getElem?_set, if_true] at h1
  rw [h, if_pos (by rcases Nat.lt_or_ge k l.length with h' | h'; exact h'; rw [List.getElem?_eq_none h'] at h; cases h)] at h1
  exact hy (Option.some.inj h1)
end Go.Proofs.YtoidfnknckfjhaaGreatDoor
